/-
  Part 1 of the proof: a machine over named blocks, what each function computes, and what follows. No condition.
-/
import Derived.Calls
import Derived.Below
import Derived.Laws.AppendOwn
import Derived.Laws.MakeOwn
import Derived.Laws.CopyRow
import Derived.Laws.Entries
import Derived.Laws.StructEq
import Derived.Laws.Small
import Derived.Laws.Slices
import Derived.Laws.Panics
import Derived.ChangeKeysEq
import Derived.Shelf.Abstract
import Derived.WideLaws
import Derived.Laws.Shifts
import Derived.Laws.Strings
import Derived.Laws.BytesString
import Derived.Laws.Tables
import Derived.Laws.Unary
import Derived.Laws.Cover3
import Derived.Laws.Build
import Derived.Great.FillDense
import Derived.Great.BuildSlice
import Derived.Deep.AppendSrc
import Derived.Lib.AppendZerosOnto
import Derived.Laws.IdiomStrings
import Derived.LoopNIn
import Derived.OrdersIn
import Derived.Scope
set_option linter.unusedVariables false
set_option linter.unusedSimpArgs false
set_option linter.all false
namespace Go.Abs
universe u v
theorem oi {α:Type u}{a b:α} (h:some a=some b):a=b:=Option.some.inj h
theorem oE {α:Type u} (a b:α):(some a=some b)=(a=b):=Option.some.injEq a b
theorem gS {α:Type u}{l:List α}{i:Nat}{a:α}:l[i]?=some a↔∃ h:i<l.length,l[i]=a:=List.getElem?_eq_some_iff
theorem gG {α:Type u}{l:List α}{i:Nat} (h:i<l.length):l[i]?=some l[i]:=List.getElem?_eq_getElem h
theorem mS {α:Type u}{β:Type v}{x:Option α}{f:α->β}{b:β}:x.map f=some b↔∃ a,x=some a/\f a=b:=Option.map_eq_some_iff
abbrev Ae:=@Option.bind_some
abbrev AA:=@List.length_cons
abbrev Au:=@decide_eq_true
abbrev AB:=@List.length_nil
abbrev An:=@cond_false
abbrev AI:=@decide_eq_false
abbrev Am:=@cond_true
abbrev A1:=@List.length_append
abbrev A6:=@List.mem_of_getElem?
abbrev CX:=@List.getElem?_append_right
abbrev AO:=@Bool.not_true
abbrev A8:=@List.length_take
abbrev Be:=@Option.map_some
abbrev Co:=@List.take_of_length_le
abbrev BD:=@List.mem_of_mem_take
abbrev BV:=@Array.getElem?_eq_getElem
abbrev E8:=@Nat.add_sub_cancel_left
abbrev BH:=@List.mem_iff_getElem?
abbrev Bo:=@Bool.and_eq_true
abbrev AY:=@Nat.le_refl
abbrev Dr:=@List.drop_of_length_le
abbrev Bt:=@List.length_drop
abbrev Bz:=@List.cons_append
abbrev Bu:=@List.length_map
abbrev Bn:=@Bool.not_false
abbrev BA:=@List.take_length
abbrev A9:=@List.mem_append
abbrev B7:=@Nat.mul_le_mul_right
abbrev Ci:=@List.getElem?_cons_succ
abbrev Bf:=@decide_true
abbrev Cl:=@List.getElem?_cons_zero
abbrev BQ:=@Int.toNat_natCast
abbrev BB:=@Bool.true_and
abbrev BX:=@List.getElem?_map
abbrev Ca:=@List.getElem?_take
abbrev Cj:=@List.mem_of_mem_drop
abbrev CL:=@List.getElem?_append_left
abbrev Cy:=@List.append_assoc
abbrev Ce:=@List.nil_append
abbrev CF:=@List.getElem?_eq_none
abbrev CY:=@List.take_append_drop
abbrev BF:=@List.mem_cons
abbrev Ed:=@List.getElem?_replicate
abbrev CR:=@List.length_replicate
abbrev C3:=@List.length_set
abbrev CZ:=@Array.getElem?_eq_some_iff
abbrev DU:=@List.take_left'
abbrev DI:=@List.drop_append_of_le_length
abbrev Dd:=@List.take_append_of_le_length
abbrev Cz:=@Int.natCast_zero
abbrev CA:=@Nat.zero_add
abbrev CS:=@List.mem_singleton
abbrev Ee:=@Option.map_none
abbrev Cu:=@List.getElem?_drop
abbrev C4:=@Bool.false_eq_true
abbrev Df:=@Int.le_refl
abbrev Ef:=@Nat.le_trans
abbrev CG:=@List.flatten_cons
abbrev DJ:=@List.map_append
end Go.Abs
namespace Go.Abs
open Go
inductive AV where
 |bool (b:Bool)
 |int (k:IntKind) (n:Int)
 |str (s:ByteArray)
 |nil
 |sl (esz:Nat) (es:List (List AV))
 |loc (l key esz i n g:Nat)
 |bP (l key esz o n:Nat)
 |bQ
 |ptr (l key o:Nat)
 |bz (l key esz i o g:Nat)
 |aL (esz:Nat) (es:List (List AV)) (i o:Nat)
 |cg
 |fn (f:Fn) (first cap:List AV)
 |cj
 |cq (t:TypeId) (v:AV)
 |agg (cs:List AV)
 |aw (vs:List AV)
 |dead
 deriving Inhabited
inductive TD where
 |int (k:IntKind)
 |bool
 |str
 |slice (e:TypeId)
 |array (n:Nat) (e:TypeId)
 |struct
 |ptr (e:TypeId)
 |map (k e:TypeId)
 |func
 |iface
 deriving Inhabited,DecidableEq
structure TI where
 size:Nat
 bytes:Nat
 zero:List AV
 d:TD
 el:Nat
 wi:Nat
 adI:Bool
 fI:List AV
 fl:List (Nat×Nat×Bool)
 pl:Bool
 sc:List (Nat×TypeId×Nat)
 deriving Inhabited
def TI.isAgg (ti:TI):Bool:=
 match ti.d with
 |.struct|.array _ _=>true
 |_=>false
abbrev AR:=Nat->Option TI
inductive AJ where
 |arr (et:TypeId) (esz:Nat) (es:List (List AV))
 |box (cs:List AV)
 deriving Inhabited
abbrev AH:=List (Nat×AJ)
abbrev Heap:=List AH
abbrev AW:=Nat->Nat->Option AJ
structure St where
 tm:List (Nat×AV)
 fr:AH
 low:Heap
 nx:Nat
 nt:Nat
def look {α:Type}:List (Nat×α)->Nat->Option α
 |[],_=>none
 |(k,x)::l,t=>if k=t then some x else look l t
def ins {α:Type}:List (Nat×α)->Nat->α->List (Nat×α)
 |[],t,v=>[(t,v)]
 |(k,x)::l,t,v=>if t<k then (t,v)::(k,x)::l else if t=k then (t,v)::l else (k,x)::ins l t v
def del {α:Type}:List (Nat×α)->Nat->List (Nat×α)
 |[],_=>[]
 |(k,x)::l,t=>if k=t then del l t else (k,x)::del l t
def cM {α:Type} (l:List (Nat×α)):List Nat->List (Nat×α)
 |[]=>l
 |t::ts=>cM (del l t) ts
def Heap.get:Heap->Nat->Nat->Option AJ
 |[],_,_=>none
 |f::_,0,key=>look f key
 |_::H,l+1,key=>Heap.get H l key
def Heap.put:Heap->Nat->Nat->Option AJ->Heap
 |[],_,_,_=>[]
 |f::H,0,key,some b=>ins f key b::H
 |f::H,0,key,none=>del f key::H
 |f::H,l+1,key,b=>f::Heap.put H l key b
def Heap.bV:Heap->List (Nat×Nat×Option AJ)->Heap
 |H,[]=>H
 |H,(l,k,b)::r=>Heap.bV (H.put l k b) r
mutual
def AV.sh (d:Nat):AV->AV
 |.loc l k e i n g=>.loc (l+d) k e i n g
 |.bP l k e o n=>.bP (l+d) k e o n
 |.ptr l k o=>.ptr (l+d) k o
 |.bz l k e i o g=>.bz (l+d) k e i o g
 |.fn f a b=>.fn f (AV.dm d a) (AV.dm d b)
 |.cq t v=>.cq t (v.sh d)
 |.agg cs=>.agg (AV.dm d cs)
 |.aw vs=>.aw (AV.dm d vs)
 |.bool b=>.bool b
 |.int k n=>.int k n
 |.str s=>.str s
 |.nil=>.nil
 |.sl e es=>.sl e es
 |.bQ=>.bQ
 |.aL e es i o=>.aL e es i o
 |.cg=>.cg
 |.cj=>.cj
 |.dead=>.dead
def AV.dm (d:Nat):List AV->List AV
 |[]=>[]
 |x::l=>x.sh d::AV.dm d l
end
def u6 (d l:Nat):Option Nat:=if d<=l then some (l - d) else none
mutual
def AV.un (d:Nat):AV->Option AV
 |.loc l k e i n g=>(u6 d l).map fun l=>.loc l k e i n g
 |.bP l k e o n=>(u6 d l).map fun l=>.bP l k e o n
 |.ptr l k o=>(u6 d l).map fun l=>.ptr l k o
 |.bz l k e i o g=>(u6 d l).map fun l=>.bz l k e i o g
 |.fn f a b=>match AV.gq d a,AV.gq d b with
  |some a,some b=>some (.fn f a b)
  |_,_=>none
 |.cq t v=>(v.un d).map (.cq t)
 |.agg cs=>(AV.gq d cs).map .agg
 |.aw vs=>(AV.gq d vs).map .aw
 |.bool b=>some (.bool b)
 |.int k n=>some (.int k n)
 |.str s=>some (.str s)
 |.nil=>some .nil
 |.sl e es=>some (.sl e es)
 |.bQ=>some .bQ
 |.aL e es i o=>some (.aL e es i o)
 |.cg=>some .cg
 |.cj=>some .cj
 |.dead=>some .dead
def AV.gq (d:Nat):List AV->Option (List AV)
 |[]=>some []
 |x::l=>match x.un d,AV.gq d l with
  |some x,some l=>some (x::l)
  |_,_=>none
end
mutual
def AV.ak (G:AW):AV->Option AV
 |.loc l k e i n g=>match G l k with
  |some (.arr _ esz es)=>if esz=e/\es.length=g/\i+n<=g then some (.sl e ((es.drop i).take n)) else none
  |_=>none
 |.nil=>some .nil
 |.cq t v=>(v.ak G).map (.cq t)
 |.agg cs=>(AV.aQ G cs).map .agg
 |.aw vs=>(AV.aQ G vs).map .aw
 |.bool b=>some (.bool b)
 |.int k n=>some (.int k n)
 |.str s=>some (.str s)
 |.sl e es=>some (.sl e es)
 |.bQ=>some .bQ
 |.cg=>some .cg
 |.cj=>some .cj
 |.aL e es i o=>some (.aL e es i o)
 |.fn f a b=>match AV.aQ G a,AV.aQ G b with
  |some a,some b=>some (.fn f a b)
  |_,_=>none
 |_=>none
def AV.aQ (G:AW):List AV->Option (List AV)
 |[]=>some []
 |x::l=>match x.ak G,AV.aQ G l with
  |some x,some l=>some (x::l)
  |_,_=>none
end
mutual
def AV.refs:AV->List (Nat×Nat)
 |.loc l k _ _ _ _=>[(l,k)]
 |.fn _ a b=>AV.aT a++AV.aT b
 |.cq _ v=>v.refs
 |.agg cs=>AV.aT cs
 |.aw vs=>AV.aT vs
 |_=>[]
def AV.aT:List AV->List (Nat×Nat)
 |[]=>[]
 |x::l=>x.refs++AV.aT l
end
def iE (r:List (Nat×Nat)):List (Nat×Nat×Option AJ):=r.map fun(l,k)=>(l,k,none)
def AV.flat:AV->Bool
 |.agg _=>false
 |.aw _=>false
 |.dead=>false
 |_=>true
mutual
def fX:Value->Option AV
 |.bool b=>some (.bool b)
 |.int k n=>some (.int k n)
 |.string s=>some (.str s)
 |.slice none 0 0=>some .nil
 |.pointer none=>some .bQ
 |.nilFunc=>some .cg
 |.nilIface=>some .cj
 |.agg ⟨cs⟩=>match wa cs with
  |some l=>if l.all AV.flat then some (.agg l) else none
  |none=>none
 |_=>none
def wa:List Value->Option (List AV)
 |[]=>some []
 |x::l=>match fX x,wa l with
  |some x,some l=>some (x::l)
  |_,_=>none
end
abbrev Tm:=Nat->Option AV
def bu (tm:Tm):Operand->Option AV
 |.tmp t=>tm t
 |.const v=>fX v
 |.func f=>some (.fn (.func f) [] [])
 |.global _=>none
def j8 (tm:Tm):List Operand->Option (List AV)
 |[]=>some []
 |x::l=>match bu tm x,j8 tm l with
  |some x,some l=>some (x::l)
  |_,_=>none
def AV.cells:AV->Option (List AV)
 |.agg cs=>some cs
 |.aw _=>none
 |.dead=>none
 |v=>some [v]
def aaw (es:List (List AV)) (i o size:Nat):Option (List AV):=
 match es[i]? with
 |none=>none
 |some c=>
  if o+size<=c.length then some ((c.drop o).take size)
  else if o=0/\c.length=1/\i+size<=es.length then some ((es.drop i).take size).flatten
  else none
def rU (agg:Bool) (cs:List AV):Option AV:=
 if agg then some (.agg cs) else match cs with
  |[x]=>some x
  |_=>none
def jc (G:AW) (size:Nat):AV->Option (List AV)
 |.ptr l k o=>match G l k with
  |some (.box cs)=>if o+size<=cs.length then some (AV.dm l ((cs.drop o).take size)) else none
  |_=>none
 |.bz l k esz i o g=>match G l k with
  |some (.arr _ aU es)=>if aU=esz/\es.length=g then aaw es i o size else none
  |_=>none
 |.aL _ es i o=>aaw es i o size
 |_=>none
def o9 (G:AW) (ti:TI) (a:AV):Option AV:=(jc G ti.size a).bind (rU ti.isAgg)
def overwrite (cs:List AV) (o:Nat) (new:List AV):List AV:=cs.take o++(new++cs.drop (o+new.length))
structure De where
 val:AV
 mW:List (Nat×Nat×Option AJ)
def mb (cs:List AV) (kb:Nat):List (Nat×TypeId×Nat)->List AV×List (Nat×Nat×Option AJ)
 |[]=>(cs,[])
 |(o,e,s)::r=>match cs[o]? with
  |some .nil=>let x:=mb (cs.set o (.loc 0 kb s 0 0 0)) (kb+1) r;(x.1,(0,kb,some (.arr e s []))::x.2)
  |_=>mb cs kb r
def aai (kb:Nat) (ti:TI) (cs:List AV):Option De:=
 if cs.length=ti.size then
  let x:=mb cs (kb+1) ti.sc
  some ⟨.ptr 0 kb 0,x.2++[(0,kb,some (.box x.1))]⟩
 else none
def sw (G:AW) (kb:Nat) (ti:TI) (a:AV) (vc:List AV):Option De:=
 if vc.length=ti.size then
  match a with
  |.ptr l k o=>match G l k with
   |some (.box cs)=>
    if o+ti.size<=cs.length then
     if l=0 then
      let x:=mb vc kb ti.sc
      some ⟨.aw [],x.2++[(0,k,some (.box (overwrite cs o x.1)))]⟩
     else match AV.gq l vc with
      |some new=>some ⟨.aw [],[(l,k,some (.box (overwrite cs o new)))]⟩
      |none=>match AV.aQ G vc with
       |some new=>some ⟨.aw [],iE (AV.aT vc)++[(l,k,some (.box (overwrite cs o new)))]⟩
       |none=>none
    else none
   |_=>none
  |.bz l k esz i o g=>match G l k with
   |some (.arr et aU es)=>
    if aU=esz/\es.length=g then
     match es[i]?,AV.aQ G vc with
     |some c,some new=>
      if o+ti.size<=c.length/\(AV.aT vc).all (fun p=>!(p.1==l&&p.2==k)) then
       some ⟨.aw [],iE (AV.aT vc)++[(l,k,some (.arr et esz (es.set i (overwrite c o new))))]⟩
      else none
     |_,_=>none
    else none
   |_=>none
  |_=>none
 else none
def dV (k:IntKind) (x y:Int):Int:=k.wrap (BitVec.ofInt k.bits x &&& BitVec.ofInt k.bits y).toNat
def fT (k:IntKind) (x y:Int):Int:=k.wrap (BitVec.ofInt k.bits x ||| BitVec.ofInt k.bits y).toNat
def adf (k:IntKind) (x y:Int):Int:=k.wrap (BitVec.ofInt k.bits x ^^^ BitVec.ofInt k.bits y).toNat
def qe (op:BinOp) (a b:AV):Option AV:=
 match a,b with
 |.int k x,.int k' y=>
  match op with
  |.shl=>if y<0 then none else some (.int k (k.wrap (x*2 ^ (min y.toNat k.bits))))
  |.shr=>if y<0 then none else some (.int k (x.fdiv (2 ^ (min y.toNat k.bits))))
  |op=>
   if k=k' then
    match op with
    |.add=>some (.int k (k.wrap (x+y)))
    |.sub=>some (.int k (k.wrap (x - y)))
    |.mul=>some (.int k (k.wrap (x*y)))
    |.quo=>if y=0 then none else some (.int k (k.wrap (x.tdiv y)))
    |.rem=>if y=0 then none else some (.int k (x.tmod y))
    |.and=>some (.int k (dV k x y))
    |.or=>some (.int k (fT k x y))
    |.xor=>some (.int k (adf k x y))
    |.eql=>some (.bool (decide (x=y)))
    |.neq=>some (.bool (!decide (x=y)))
    |.lss=>some (.bool (decide (x<y)))
    |.leq=>some (.bool (decide (x<=y)))
    |.gtr=>some (.bool (decide (y<x)))
    |.geq=>some (.bool (decide (y<=x)))
    |_=>none
   else none
 |.bool x,.bool y=>match op with
  |.eql=>some (.bool (x==y))
  |.neq=>some (.bool (!(x==y)))
  |_=>none
 |.str x,.str y=>match op with
  |.eql=>some (.bool (x.toList==y.toList))
  |.neq=>some (.bool (!(x.toList==y.toList)))
  |.add=>if x.size+y.size<4611686018427387904 then some (.str (x++y)) else none
  |_=>none
 |_,_=>none
def jT:AV->AV->AV->Option Bool
 |.int _ _,.int k x,.int k' y=>if k=k' then some (decide (x=y)) else none
 |.bool _,.bool x,.bool y=>some (x==y)
 |.str _,.str x,.str y=>some (x.toList==y.toList)
 |_,_,_=>none
def bL:List AV->List AV->List AV->Option Bool
 |[],[],[]=>some true
 |z::m,x::l,y::n=>match jT z x y,bL m l n with
  |some a,some b=>some (a&&b)
  |_,_=>none
 |_,_,_=>none
def abg (ti:TI) (op:BinOp) (a b:AV):Option AV:=
 match a,b with
 |.agg xs,.agg ys=>
  if ti.pl=true/\ti.isAgg=true then
   match op with
   |.eql=>(bL ti.zero xs ys).map .bool
   |.neq=>(bL ti.zero xs ys).map fun r=>.bool !r
   |_=>none
  else none
 |.bool x,.bool y=>match ti.d with
  |.bool=>qe op (.bool x) (.bool y)
  |_=>none
 |a,b=>qe op a b
def aUn (op:UnOp) (a:AV):Option AV:=
 match op,a with
 |.neg,.int k n=>some (.int k (k.wrap (0 - n)))
 |.not,.bool b=>some (.bool !b)
 |_,_=>none
def byteOf:List AV->Option UInt8
 |[.int .u8 n]=>some (UInt8.ofNat n.toNat)
 |_=>none
def bytesOf:List (List AV)->Option (List UInt8)
 |[]=>some []
 |c::l=>match byteOf c,bytesOf l with
  |some c,some l=>some (c::l)
  |_,_=>none
def jf (G:AW) (sz:Nat):AV->Option (List (List AV))
 |.nil=>some []
 |.sl e es=>if e=sz then some es else none
 |.loc l k esz i n g=>match G l k with
  |some (.arr _ aU es)=>if esz=sz/\aU=esz/\es.length=g/\i+n<=g then some ((es.drop i).take n) else none
  |_=>none
 |.bP l k esz o n=>match G l k with
  |some (.box cs)=>if l=0/\esz=1/\sz=1/\o+n<=cs.length then (AV.aQ (fun _ _=>none) ((cs.drop o).take n)).map fun cs=>cs.map fun c=>[c] else none
  |_=>none
 |_=>none
def lk (T:AR) (G:AW) (src dst:TI) (a:AV):Option AV:=
 match dst.d with
 |.int k=>match src.d,a with
  |.int _,.int _ n=>some (.int k (k.wrap n))
  |_,_=>none
 |.str=>match src.d with
  |.str=>match a with
   |.str s=>some (.str s)
   |_=>none
  |.slice e=>match T e with
   |some ti=>match ti.d with
    |.int .u8=>if src.el=1 then (jf G 1 a).bind fun es=>(bytesOf es).map fun l=>.str ⟨l.toArray⟩ else none
    |_=>none
   |none=>none
  |_=>none
 |_=>none
def kY (s:ByteArray):List (List AV):=s.data.toList.map fun c=>[AV.int .u8 (c.toNat:Int)]
def vM (T:AR) (src dst:TI) (a:AV):Option AV:=
 match dst.d with
 |.slice e=>match src.d,a with
  |.str,.str s=>match T e with
   |some ti=>match ti.d with
    |.int .u8=>if s.size<4611686018427387904 then some (.sl 1 (kY s)) else none
    |_=>none
   |none=>none
  |_,_=>none
 |_=>none
def acL:AV->Option Nat
 |.nil=>some 0
 |.sl _ es=>some es.length
 |.loc _ _ _ _ n _=>some n
 |.bP _ _ _ _ n=>some n
 |_=>none
def abm (ti:TI) (a:AV):Option AV:=
 match ti.d with
 |.str=>match a with
  |.str s=>some (.int .i64 s.size)
  |_=>none
 |.array n _=>some (.int .i64 (n:Int))
 |.slice _=>(acL a).map fun(n:Nat)=>AV.int .i64 (n:Int)
 |_=>none
def jt (i:Int) (n:Nat):Option Nat:=if 0<=i/\i<n then some i.toNat else none
def abj (ti:TI) (a:AV) (f:Nat):Option AV:=
 match ti.d with
 |.struct=>match ti.fl[f]? with
  |some (off,_)=>match a with
   |.ptr l k o=>some (.ptr l k (o+off))
   |.bz l k e i o g=>some (.bz l k e i (o+off) g)
   |.aL e es i o=>some (.aL e es i (o+off))
   |_=>none
  |none=>none
 |_=>none
def abi (ti:TI) (a:AV) (f:Nat):Option AV:=
 match ti.d with
 |.struct=>match a with
  |.agg cs=>match ti.fl[f]? with
   |some (off,size,agg)=>if off+size<=cs.length then rU agg ((cs.drop off).take size) else none
   |none=>none
  |_=>none
 |_=>none
def abl (ti:TI) (a ix:AV):Option AV:=
 match ix with
 |.int _ i=>match ti.d with
  |.slice _=>match a with
   |.sl esz es=>if esz=ti.el then (jt i es.length).map fun i=>.aL esz es i 0 else none
   |.loc l k esz b n g=>if esz=ti.el then (jt i n).map fun i=>.bz l k esz (b+i) 0 g else none
   |.bP l k esz o n=>if esz=ti.el then (jt i n).map fun i=>.ptr l k (o+i*esz) else none
   |_=>none
  |.array n _=>match a with
   |.ptr l k o=>(jt i n).map fun i=>.ptr l k (o+i*ti.el)
   |.bz l k esz b o g=>(jt i n).map fun i=>.bz l k esz b (o+i*ti.el) g
   |.aL e es b o=>(jt i n).map fun i=>.aL e es b (o+i*ti.el)
   |_=>none
  |_=>none
 |_=>none
def abk (ti:TI) (a ix:AV):Option AV:=
 match ix with
 |.int _ i=>match ti.d with
  |.array n _=>match a with
   |.agg cs=>(jt i n).bind fun i=>if i*ti.el+ti.el<=cs.length then rU ti.adI ((cs.drop (i*ti.el)).take ti.el) else none
   |_=>none
  |.str=>match a with
   |.str s=>(jt i s.size).map fun(i:Nat)=>AV.int .u8 ((s.data.toList.getD i 0).toNat:Int)
   |_=>none
  |_=>none
 |_=>none
def sj (n:Nat):Option AV->Option Nat
 |none=>some n
 |some (.int _ h)=>if 0<=h/\h<=n then some h.toNat else none
 |_=>none
def sm (h:Nat):Option AV->Option Nat
 |none=>some 0
 |some (.int _ l)=>if 0<=l/\l<=h then some l.toNat else none
 |_=>none
def bounds (n:Nat) (lo hi:Option AV):Option (Nat×Nat):=
 match sj n hi with
 |some h=>match sm h lo with
  |some l=>some (l,h)
  |none=>none
 |none=>none
def oR (ti:TI) (a:AV) (lo hi:Option AV):Option AV:=
 match ti.d with
 |.slice _=>match a with
  |.nil=>(bounds 0 lo hi).map fun _=>.nil
  |.sl esz es=>if esz=ti.el then (bounds es.length lo hi).map fun(l,h)=>.sl esz ((es.drop l).take (h - l)) else none
  |.loc lv k esz i n g=>if esz=ti.el then (bounds n lo hi).map fun(l,h)=>.loc lv k esz (i+l) (h - l) g else none
  |_=>none
 |.str=>match a with
  |.str s=>(bounds s.size lo hi).map fun(l,h)=>.str (s.extract l h)
  |_=>none
 |.array n _=>match a with
  |.ptr lv k o=>(bounds n lo hi).map fun(l,h)=>.bP lv k ti.el (o+l*ti.el) (h - l)
  |_=>none
 |_=>none
def uw (fl:Nat->Option (Nat×Nat)) (cs:List AV):List (Nat×AV)->Option (List AV)
 |[]=>some cs
 |(i,v)::r=>match fl i with
  |none=>none
  |some (off,size)=>match v.cells with
   |some vc=>if vc.length=size/\off+size<=cs.length then uw fl (overwrite cs off vc) r else none
   |none=>none
def abh (ti:TI) (parts:List (Nat×AV)):Option AV:=
 match ti.d with
 |.struct=>(uw (fun i=>(ti.fl[i]?).map fun x=>(x.1,x.2.1)) ti.zero parts).map .agg
 |.array _ _=>(uw (fun i=>some (i*ti.el,ti.el)) ti.zero parts).map .agg
 |_=>none
def partsOf (tm:Tm):List (Nat×Operand)->Option (List (Nat×AV))
 |[]=>some []
 |(i,x)::l=>match bu tm x,partsOf tm l with
  |some x,some l=>some ((i,x)::l)
  |_,_=>none
def wj (es:List (List AV)) (size:Nat):List (Nat×List AV)->Option (List (List AV))
 |[]=>some es
 |(i,cs)::r=>if cs.length=size/\i<es.length then wj (es.set i cs) size r else none
def mz (G:AW):List (Nat×AV)->Option (List (Nat×List AV))
 |[]=>some []
 |(i,v)::r=>match v.cells with
  |some vc=>match AV.aQ G vc,mz G r with
   |some cs,some l=>some ((i,cs)::l)
   |_,_=>none
  |none=>none
def j9:List (Nat×AV)->List (Nat×Nat)
 |[]=>[]
 |(_,v)::r=>v.refs++j9 r
def sv (G:AW) (kb:Nat) (ti:TI) (len:Nat) (parts:List (Nat×AV)):Option De:=
 match ti.d with
 |.slice e=>
  if len*ti.el<=16777216/\0<ti.el then
   match mz G parts with
   |some ps=>match wj (List.replicate len ti.fI) ti.el ps with
    |some es=>some ⟨.loc 0 kb ti.el 0 len len,iE (j9 parts)++[(0,kb,some (.arr e ti.el es))]⟩
    |none=>none
   |none=>none
  else none
 |_=>none
def abJ (kb:Nat) (ti:TI) (len cap:AV):Option De:=
 match ti.d,len,cap with
 |.slice e,.int .i64 l,.int .i64 c=>
  if 0<=l/\l<=c/\c*ti.wi<=140737488355328/\0<ti.el/\c<4611686018427387904 then
   some ⟨.loc 0 kb ti.el 0 l.toNat l.toNat,[(0,kb,some (.arr e ti.el (List.replicate l.toNat ti.fI)))]⟩
  else none
 |_,_,_=>none
def dw (es:List (List AV)) (size:Nat):Prop:=∀ c∈es,c.length=size
def room (n bytes:Nat):Prop:=n*bytes<=140737488355328/\n<4611686018427387904
instance (n b:Nat):Decidable (room n b):=by unfold room;exact inferInstance
def kG (G:AW) (kb:Nat) (ti:TI) (s x:AV):Option De:=
 match ti.d with
 |.slice e=>match jf G ti.el x with
  |some new=>match s with
   |.nil=>if room new.length ti.wi/\0<ti.el then
     some ⟨.loc 0 kb ti.el 0 new.length new.length,[(0,kb,some (.arr e ti.el new))]⟩ else none
   |.loc l k esz i n g=>match G l k with
    |some (.arr et aU es)=>
     if et=e/\aU=ti.el/\esz=ti.el/\i=0/\n=g/\es.length=g/\room (g+new.length) ti.wi/\0<ti.el then
      some ⟨.loc l k esz 0 (g+new.length) (g+new.length),[(l,k,some (.arr et esz (es++new)))]⟩
     else if (et=e/\aU=ti.el/\esz=ti.el)/\(i=0/\es.length=g)/\n+new.length<=g/\0<ti.el then
      some ⟨.loc l k esz 0 (n+new.length) g,[(l,k,some (.arr et esz (es.take n++(new++es.drop (n+new.length)))))]⟩
     else none
    |_=>none
   |_=>none
  |none=>none
 |_=>none
def uq (G:AW) (ti:TI) (d s:AV):Option De:=
 match ti.d with
 |.slice _=>match jf G ti.el s with
  |some src=>match d with
   |.nil=>some ⟨.int .i64 0,[]⟩
   |.loc l k esz i n g=>match G l k with
    |some (.arr et aU es)=>
     if aU=ti.el/\esz=ti.el/\es.length=g/\i+n<=g then
      some ⟨.int .i64 (min src.length n),[(l,k,some (.arr et esz (es.take i++(src.take n++es.drop (i+min src.length n)))))]⟩
     else none
    |_=>none
   |.bP l k esz o n=>match G l k with
    |some (.box cs)=>
     if l=0/\ti.el=1/\esz=1/\o+n<=cs.length then
      some ⟨.int .i64 (min src.length n),[(0,k,some (.box (overwrite cs o (src.take n).flatten)))]⟩
     else none
    |_=>none
   |_=>none
  |none=>none
 |_=>none
def uo (G:AW) (ti:TI) (d:AV):Option De:=
 match ti.d with
 |.slice _=>match d with
  |.nil=>some ⟨.aw [],[]⟩
  |.loc l k esz i n g=>match G l k with
   |some (.arr et aU es)=>
    if aU=ti.el/\esz=ti.el/\es.length=g/\i+n<=g then
     some ⟨.aw [],[(l,k,some (.arr et esz (es.take i++(List.replicate n ti.fI++es.drop (i+n)))))]⟩
    else none
   |_=>none
  |_=>none
 |_=>none
def abL (kb:Nat) (ti:TI) (a:AV):Option De:=
 match ti.d with
 |.slice e=>match a with
  |.nil|.sl _ _|.loc _ _ _ _ _ _=>some ⟨.loc 0 kb ti.el 0 0 0,[(0,kb,some (.arr e ti.el []))]⟩
  |_=>none
 |_=>none
def orO:Option AV->Option AV->Option AV
 |some v,_=>some v
 |none,b=>b
theorem xJ (v:AV) (b:Option AV):orO (some v) b=some v:=rfl
theorem vj (b:Option AV):orO none b=b:=rfl
def mm (G:AW) (ti:TI) (a lo hi:AV):Option AV:=
 match a with
 |.loc lv k esz i _ g=>match ti.d with
  |.slice _=>match lo,hi with
   |.int _ l,.int _ h=>match G lv k with
    |some (.arr _ _ es)=>if (esz=ti.el/\es.length=g)/\(0<=l/\l<=h)/\i+h.toNat<=g then some (.loc lv k esz (i+l.toNat) (h.toNat - l.toNat) g) else none
    |_=>none
   |_,_=>none
  |_=>none
 |_=>none
def yP (ti:TI) (a:AV) (l h m:Int):Option De:=
 match ti.d with
 |.slice _=>match a with
  |.sl esz es=>if (0<=l/\l<=h)/\h<=m/\m<=es.length then some ⟨if esz=ti.el then .sl esz ((es.drop l.toNat).take (h.toNat - l.toNat)) else .dead,[]⟩ else none
  |.loc _ _ _ _ n _=>if (0<=l/\l<=h)/\h<=m/\m<=n then some ⟨.dead,[]⟩ else none
  |_=>none
 |_=>none
def nR (mx:Bool):List AV->Option AV
 |[.int k x]=>some (.int k x)
 |.int k x::.int k' y::l=>if k=k' then nR mx (.int k (if mx then max x y else min x y)::l) else none
 |_=>none
  termination_by l=>l.length
def abn:AV->Option AV
 |.ptr l k o=>some (.ptr l k o)
 |.bz l k e i o g=>some (.bz l k e i o g)
 |.aL e es i o=>some (.aL e es i o)
 |.fn f a b=>match f with
  |.func _=>some (.fn f a b)
  |_=>none
 |_=>none
def eu (r:Option AV):Option De:=r.map fun v=>⟨v,[]⟩
def wh (G:AW) (kb:Nat) (ti:TI) (s:AV) (n:Int):Option De:=
 if 0<=n/\room n.toNat ti.wi/\0<ti.el then kG G kb ti s (.sl ti.el (List.replicate n.toNat ti.fI)) else none
def yO (T:AR) (G:AW) (kb:Nat) (ti:TI) (s x:AV) (ts:List TypeId):Option De:=
 match ts,x with
 |[t2],.str b=>match T t2 with
  |some ti2=>match ti2.d with
   |.str=>if ti.el=1 then kG G kb ti s (.sl 1 (kY b)) else none
   |_=>none
  |none=>none
 |[t2],.int _ n=>match T t2 with
  |some ti2=>match ti2.d with
   |.int _=>wh G kb ti s n
   |_=>none
  |none=>none
 |_,_=>none
def nQ (T:AR) (G:AW) (kb:Nat) (b:Builtin) (ts:List TypeId) (xs:List AV):Option De:=
 match ts with
 |[]=>none
 |t::ts=>match T t with
  |none=>none
  |some ti=>match b with
   |.len=>match xs with
    |[x]=>eu (abm ti x)
    |_=>none
   |.append=>match xs with
    |[s,x]=>if ts=[t] then kG G kb ti s x else yO T G kb ti s x ts
    |_=>none
   |.copy=>match xs with
    |[d,s]=>if ts=[t] then uq G ti d s else none
    |_=>none
   |.clear=>match xs with
    |[d]=>uo G ti d
    |_=>none
   |.max=>eu (nR true xs)
   |.min=>eu (nR false xs)
   |_=>none
def ae6 (c:Bool) (x y:Option AV):Option AV:=
 match c with
 |true=>x
 |false=>y
theorem aqH (x y:Option AV):ae6 true x y=x:=rfl
theorem aqG (x y:Option AV):ae6 false x y=y:=rfl
structure Az where
 dst:Option Tmp
 op:Op
 type:TypeId
 guard:Option (Tmp×Bool)
 drop:List Nat
def bH (T:AR) (kb:Nat) (o:Op) (ty:TypeId) (tm:Tm) (G:AW):Option De:=
 match o with
 |.move x=>eu (bu tm x)
 |.assign x=>match bu tm x with
  |some .nil=>match T ty with
   |some ti=>match ti.d with
    |.slice e=>some ⟨.loc 0 kb ti.el 0 0 0,[(0,kb,some (.arr e ti.el []))]⟩
    |_=>none
   |none=>none
  |r=>eu r
 |.pick c a b=>match bu tm c with
  |some (.bool c)=>eu (ae6 c (bu tm a) (bu tm b))
  |_=>none
 |.alloc e=>match T e with
  |some ti=>aai kb ti ti.zero
  |none=>none
 |.box e x=>match T e,bu tm x with
  |some ti,some x=>match x.cells with
   |some cs=>aai kb ti cs
   |none=>none
  |_,_=>none
 |.build t ps=>match T t,partsOf tm ps.toList with
  |some ti,some ps=>eu (abh ti ps)
  |_,_=>none
 |.buildSlice t len ps=>match T t,partsOf tm ps.toList with
  |some ti,some ps=>sv G kb ti len ps
  |_,_=>none
 |.load t a=>match T t,bu tm a with
  |some ti,some a=>eu (o9 G ti a)
  |_,_=>none
 |.store t a x=>match T t,bu tm a,bu tm x with
  |some ti,some a,some x=>match x.cells with
   |some cs=>sw G kb ti a cs
   |none=>none
  |_,_,_=>none
 |.nilCheck x=>match bu tm x with
  |some x=>eu (abn x)
  |none=>none
 |.binOp op t x y _=>match T t,bu tm x,bu tm y with
  |some ti,some x,some y=>eu (abg ti op x y)
  |_,_,_=>none
 |.unOp op _ x=>match bu tm x with
  |some x=>eu (aUn op x)
  |none=>none
 |.convert src dst x=>match T src,T dst,bu tm x with
  |some s,some d,some x=>eu (orO (lk T G s d x) (vM T s d x))
  |_,_,_=>none
 |.makeFunc f a b=>match j8 tm a.toList,j8 tm b.toList with
  |some a,some b=>some ⟨.fn f a b,[]⟩
  |_,_=>none
 |.makeSlice t l c=>match T t,bu tm l,bu tm c with
  |some ti,some l,some c=>abJ kb ti l c
  |_,_,_=>none
 |.slice t x lo hi mx=>match mx with
  |some mx=>match lo,hi with
   |none,some hi=>match T t,bu tm x,bu tm hi,bu tm mx with
    |some ti,some x,some (.int _ h),some (.int _ m)=>match hi with
     |.const _=>if h=0/\m=0 then abL kb ti x else none
     |_=>yP ti x 0 h m
    |_,_,_,_=>none
   |some lo,some hi=>match T t,bu tm x,bu tm lo,bu tm hi with
    |some ti,some x,some (.int _ l),some (.int _ h)=>match bu tm mx with
     |some (.int _ m)=>yP ti x l h m
     |_=>none
    |_,_,_,_=>none
   |_,_=>none
  |none=>match T t,bu tm x with
   |some ti,some x=>match lo,hi with
    |none,none=>eu (oR ti x none none)
    |some lo,none=>match bu tm lo with
     |some lo=>eu (oR ti x (some lo) none)
     |none=>none
    |none,some hi=>match bu tm hi with
     |some hi=>eu (oR ti x none (some hi))
     |none=>none
    |some lo,some hi=>match bu tm lo,bu tm hi with
     |some lo,some hi=>eu (orO (mm G ti x lo hi) (oR ti x (some lo) (some hi)))
     |_,_=>none
   |_,_=>none
 |.fieldAddr s x f=>match T s,bu tm x with
  |some ti,some x=>eu (abj ti x f)
  |_,_=>none
 |.field s x f=>match T s,bu tm x with
  |some ti,some x=>eu (abi ti x f)
  |_,_=>none
 |.indexAddr t x i=>match T t,bu tm x,bu tm i with
  |some ti,some x,some i=>eu (abl ti x i)
  |_,_,_=>none
 |.index t x i=>match T t,bu tm x,bu tm i with
  |some ti,some x,some i=>eu (abk ti x i)
  |_,_,_=>none
 |.extract x i=>match bu tm x with
  |some (.aw vs)=>eu vs[i]?
  |_=>none
 |.sliceToArrayPointer t x=>match T t,bu tm x with
  |some ti,some (.loc l k esz i n g)=>match ti.d with
   |.array m _=>if esz=ti.el/\m<=n/\0<m then some ⟨.bz l k esz i 0 g,[]⟩ else none
   |_=>none
  |_,_=>none
 |.makeInterface t x=>match T t,bu tm x with
  |some ti,some x=>match ti.d with
   |.iface=>none
   |_=>some ⟨.cq t x,[]⟩
  |_,_=>none
 |.call c=>match c.callee with
  |.builtin b=>match j8 tm c.args.toList with
   |some xs=>nQ T G kb b c.argTypes.toList xs
   |none=>none
  |_=>none
 |_=>none
inductive SC where
 |skip
 |lS (ops:List Az)
 |aS (ops:List Az) (rV:List (List Nat)) (drop:List Nat)
 |seq (a b:SC)
 |cond (c:Operand) (x y:SC)
 |block (id:Nat) (b:SC)
 |loop (b:SC)
 |exit (id:Nat)
 |ret
 |other
 |mark (b:SC)
 deriving Inhabited
inductive It where
 |sc (c:SC)
 |aD (id:Nat)
 |ops (l:List Az)
 |back (B:St->Prop)
inductive Ev where
 |stuck
 |call (f:FuncId) (args:List AV) (dst:Option Tmp) (drop:List Nat) (todo:List It) (st:St)
 |loop (b:SC) (todo:List It) (st:St)
 |draw (ops:List Az) (rV:List (List Nat)) (drop:List Nat) (todo:List It) (st:St)
 |back (B:St->Prop) (st:St)
 |fin (e:Exit) (st:St)
 |either (es:List (List AV)) (t:List It) (st s1:St)
 |throw (v:AV) (st:St)
 |mark (b:SC) (todo:List It) (st:St)
def St.get (st:St):AW:=fun l k=>Heap.get (st.fr::st.low) l k
def St.vB (st:St):Heap->St
 |[]=>st
 |f::H=>{ st with fr:=f,low:=H }
def nH (tm:List (Nat×AV)) (dst:Option Tmp) (v:AV):List (Nat×AV):=
 match dst with
 |some d=>ins tm d v
 |none=>tm
def St.by (st:St) (dst:Option Tmp) (drop:List Nat) (d:De):St:=
 St.vB { st with tm:=cM (nH st.tm dst d.val) drop,nx:=st.nx+16 } (Heap.bV (st.fr::st.low) d.mW)
def callee (tm:Tm) (c:Call):Option (FuncId×List AV):=
 match c.callee with
 |.value f=>match bu tm f,j8 tm c.args.toList with
  |some (.fn (.func g) first cap),some args=>some (g,first++(args++cap))
  |_,_=>none
 |_=>none
def jB:Nat->List It->Option (List It)
 |_,[]=>none
 |id,.aD td::t=>if id=td then some t else jB id t
 |id,_::t=>jB id t
def kP:Op->Option Call
 |.call c=>match c.callee with
  |.builtin _=>none
  |_=>some c
 |_=>none
def two (f:List It->St->Ev) (b:Bool) (t:List It) (s:St) (t':List It) (s':St):Ev:=
 match b with
 |true=>f t s
 |false=>f t' s'
theorem afq (f:List It->St->Ev) (t:List It) (s:St) (t':List It) (s':St):two f true t s t' s'=f t s:=rfl
theorem afp (f:List It->St->Ev) (t:List It) (s:St) (t':List It) (s':St):two f false t s t' s'=f t' s':=rfl
def next (f:List It->St->Ev) (t:List It) (st:St) (dst:Option Tmp) (drop:List Nat):Option De->Ev
 |some d=>f t (st.by dst drop d)
 |none=>.stuck
theorem ap9 (f:List It->St->Ev) (t:List It) (st:St) (dst:Option Tmp) (drop:List Nat) (d:De):next f t st dst drop (some d)=f t (st.by dst drop d):=rfl
def aeT (t:List It) (st:St) (dst:Option Tmp) (drop:List Nat):Option (FuncId×List AV)->Ev
 |some (f,args)=>.call f (AV.dm 1 args) dst drop t st
 |none=>.stuck
theorem ap6 (t:List It) (st:St) (dst:Option Tmp) (drop:List Nat) (g:FuncId) (args:List AV):aeT t st dst drop (some (g,args))=.call g (AV.dm 1 args) dst drop t st:=rfl
def ack (T:AR) (o:Op) (tm:Tm):Option (List (List AV)):=
 match o with
 |.binOp .eql t (.tmp x) (.const (.slice none 0 0)) _=>match T t with
  |some ti=>match ti.d with
   |.slice _=>match tm x with
    |some (.sl _ es)=>some es
    |_=>none
   |_=>none
  |none=>none
 |_=>none
def aar (o:Az) (t:List It) (st:St) (e:Ev):Option (List (List AV))->Ev
 |some es=>.either es t (st.by o.dst o.drop ⟨.bool true,[]⟩) (st.by o.dst o.drop ⟨.bool false,[]⟩)
 |none=>e
theorem aqs (o:Az) (t:List It) (st:St) (e:Ev) (es:List (List AV)):aar o t st e (some es)=.either es t (st.by o.dst o.drop ⟨.bool true,[]⟩) (st.by o.dst o.drop ⟨.bool false,[]⟩):=rfl
theorem aqr (o:Az) (t:List It) (st:St) (e:Ev):aar o t st e none=e:=rfl
def aeB:Op->Option Operand
 |.panic x=>some x
 |_=>none
def afo (st:St):Option AV->Ev
 |some v=>.throw v st
 |none=>.stuck
def abK (T:AR) (f:List It->St->Ev) (o:Az) (t:List It) (st:St):Ev:=
 match kP o.op with
 |some c=>aeT t st o.dst o.drop (callee (look st.tm) c)
 |none=>match aeB o.op with
  |some x=>afo st (bu (look st.tm) x)
  |none=>aar o t st (next f t st o.dst o.drop (bH T st.nx o.op o.type (look st.tm) st.get)) (ack T o.op (look st.tm))
def St.mU (st:St) (o:Az):St:=st.by o.dst o.drop ⟨.aw [],[]⟩
def run (T:AR):Nat->List It->St->Ev
 |0,_,_=>.stuck
 |_+1,[],st=>.fin .normal st
 |n+1,.aD _::t,st=>run T n t st
 |_+1,.back B::_,st=>.back B st
 |n+1,.ops []::t,st=>run T n t st
 |n+1,.ops (o::os)::t,st=>match o.guard with
  |none=>abK T (run T n) o (.ops os::t) st
  |some (g,w)=>match look st.tm g with
   |some (.bool b)=>two (run T n) (b==w) (.ops (⟨o.dst,o.op,o.type,none,o.drop⟩::os)::t) st (.ops os::t) (st.mU o)
   |some (.aw [])=>run T n (.ops os::t) (st.mU o)
   |_=>.stuck
 |n+1,.sc .skip::t,st=>run T n t st
 |n+1,.sc (.lS ops)::t,st=>run T n (.ops ops::t) st
 |_+1,.sc (.aS ops rV drop)::t,st=>.draw ops rV drop t st
 |n+1,.sc (.seq a b)::t,st=>run T n (.sc a::.sc b::t) st
 |n+1,.sc (.cond c x y)::t,st=>match bu (look st.tm) c with
  |some (.bool b)=>two (run T n) b (.sc x::t) st (.sc y::t) st
  |_=>.stuck
 |n+1,.sc (.block id b)::t,st=>run T n (.sc b::.aD id::t) st
 |_+1,.sc (.loop b)::t,st=>.loop b t st
 |n+1,.sc (.exit id)::t,st=>match jB id t with
  |some t'=>run T n t' st
  |none=>.fin (.exit id) st
 |_+1,.sc .ret::_,st=>.fin .ret st
 |_+1,.sc .other::_,_=>.stuck
 |_+1,.sc (.mark b)::t,st=>.mark b t st
end Go.Abs
namespace Go.Abs
open Go Go.RowKit
theorem tp {α:Type} (l:List (Nat×α)) (t:Nat) (v:α) (u:Nat):look (ins l t v) u=if t=u then some v else look l u:=by
 induction l with
 |nil=>simp[ins,look]
 |cons p l ih=>
  obtain⟨k,x⟩:=p
  simp only[ins]
  split
  ·simp only[look]
  ·split
   ·subst_vars
    simp only[look]
    by_cases h:k=u<;>simp[h]
   ·simp only[look,ih]
    by_cases h:k=u
    ·subst h;simp;intro h;omega
    ·simp[h]
theorem aae {α:Type} (l:List (Nat×α)) (t u:Nat):look (del l t) u=if t=u then none else look l u:=by
 induction l with
 |nil=>simp[del,look]
 |cons p l ih=>
  obtain⟨k,x⟩:=p
  simp only[del]
  split
  ·rename_i hk
   subst hk
   rw[ih]
   simp only[look]
   by_cases h:k=u<;>simp[h]
  ·simp only[look,ih]
   by_cases h:k=u
   ·subst h;simp;intro h;omega
   ·simp[h]
theorem aaf {α:Type} (ts:List Nat):∀ (l:List (Nat×α)) (u:Nat) (x:α),look (cM l ts) u=some x->look l u=some x:=by
 induction ts with
 |nil=>intro l u x h;exact h
 |cons t ts ih=>
  intro l u x h
  have:=ih _ _ _ h
  rw[aae]at this
  split at this
  ·cases this
  ·exact this
theorem Heap.qA (H:Heap) (l k:Nat) (b:Option AJ):∀ (l' k':Nat),(H.put l k b).get l' k'=if l=l'/\k=k'/\l<H.length then b else H.get l' k':=by
 induction H generalizing l with
 |nil=>intro l' k';simp[Heap.put,Heap.get]
 |cons f H ih=>
  intro l' k'
  cases l with
  |zero=>
   cases b with
   |some b=>
    simp only[Heap.put]
    cases l' with
    |zero=>simp[Heap.get,tp]
    |succ l'=>simp[Heap.get]
   |none=>
    simp only[Heap.put]
    cases l' with
    |zero=>simp[Heap.get,aae]
    |succ l'=>simp[Heap.get]
  |succ l=>
   simp only[Heap.put]
   cases l' with
   |zero=>simp[Heap.get]
   |succ l'=>
    simp only[Heap.get,ih]
    simp
@[simp] theorem Heap.apK (H:Heap) (l k:Nat) (b:Option AJ):(H.put l k b).length=H.length:=by
 induction H generalizing l with
 |nil=>rfl
 |cons f H ih=>cases l<;>cases b<;>simp[Heap.put,ih]
@[simp] theorem Heap.aiG (s:List (Nat×Nat×Option AJ)):∀ H:Heap,(H.bV s).length=H.length:=by
 induction s with
 |nil=>intro H;rfl
 |cons p s ih=>obtain⟨l,k,b⟩:=p;intro H;simp[Heap.bV,ih]
theorem Heap.pR (s t:List (Nat×Nat×Option AJ)):∀ H:Heap,H.bV (s++t)=(H.bV s).bV t:=by
 induction s with
 |nil=>intro H;rfl
 |cons p s ih=>obtain⟨l,k,b⟩:=p;intro H;simp[Heap.bV,ih]
theorem Heap.sD (H:Heap):∀ (l k:Nat) (b:AJ),H.get l k=some b->l<H.length:=by
 induction H with
 |nil=>intro l k b h;simp[Heap.get]at h
 |cons f H ih=>
  intro l k b h
  cases l with
  |zero=>simp
  |succ l=>simp only[Heap.get]at h;have:=ih _ _ _ h;simp;omega
theorem Heap.asM (d:Nat):∀ (H:Heap) (l k:Nat),Heap.get (H.drop d) l k=H.get (l+d) k:=by
 induction d with
 |zero=>intro H l k;simp
 |succ d ih=>
  intro H l k
  cases H with
  |nil=>simp[Heap.get]
  |cons f H=>simp only[List.drop_succ_cons,ih];rw[show l+(d+1)=(l+d)+1 from by omega];simp[Heap.get]
inductive TB where
 |box (c:Nat)
 |arr (m:Nat) (c:Option (Nat×Nat))
 |gone
abbrev Aw:=Nat->Option TB
abbrev FM:=Nat->Nat->Option Value
def tb:List Aw->Nat->Nat->Option TB
 |[],_,_=>none
 |t::_,0,k=>t k
 |_::ts,l+1,k=>tb ts l k
def dh:List Aw->Nat->Nat->TB->List Aw
 |[],_,_,_=>[]
 |t::ts,0,k,x=>(fun j=>if j=k then some x else t j)::ts
 |t::ts,l+1,k,x=>t::dh ts l k x
theorem eE (ts:List Aw):∀ (l k:Nat) (x:TB) (l' k':Nat),tb (dh ts l k x) l' k'=if l=l'/\k=k'/\l<ts.length then some x else tb ts l' k':=by
 induction ts with
 |nil=>intro l k x l' k';simp[dh,tb]
 |cons t ts ih=>
  intro l k x l' k'
  cases l with
  |zero=>
   cases l' with
   |zero=>simp only[dh,tb];simp[eq_comm]
   |succ l'=>simp[dh,tb]
  |succ l=>
   cases l' with
   |zero=>simp[dh,tb]
   |succ l'=>simp[dh,tb,ih]
@[simp] theorem as7 (ts:List Aw):∀ (l k:Nat) (x:TB),(dh ts l k x).length=ts.length:=by
 induction ts with
 |nil=>intro l k x;rfl
 |cons t ts ih=>intro l k x;cases l<;>simp[dh,ih]
theorem ft (d:Nat):∀ (ts:List Aw) (l k:Nat),tb (ts.drop d) l k=tb ts (l+d) k:=by
 induction d with
 |zero=>intro ts l k;simp
 |succ d ih=>
  intro ts l k
  cases ts with
  |nil=>simp[tb]
  |cons t ts=>simp only[List.drop_succ_cons,ih];rw[show l+(d+1)=(l+d)+1 from by omega];simp[tb]
inductive VR (fm:FM):List Aw->AV->Value->Prop
 |bool {ts} (b:Bool):VR fm ts (.bool b) (.bool b)
 |int {ts} (k:IntKind) (n:Int):VR fm ts (.int k n) (.int k n)
 |str {ts} (s:ByteArray):VR fm ts (.str s) (.string s)
 |nil {ts}:VR fm ts .nil (.slice none 0 0)
 |dn {ts} (e:Nat) (a:Option Addr) (cap:Nat):VR fm ts (.sl e []) (.slice a 0 cap)
 |sl {ts} (es:List (List AV)) (cb off esz cap:Nat) (u:Nat->Nat->Value) (dM:es.length<=cap/\es.length<=maxLen) (h1:dw es esz)
   (h2:∀ (i:Nat) (c:List AV) (o:Nat) (x:AV),es[i]?=some c->c[o]?=some x->fm cb (off+(i*esz+o))=some (u i o))
   (h3:∀ (i:Nat) (c:List AV) (o:Nat) (x:AV),es[i]?=some c->c[o]?=some x->x.flat=true)
   (h4:∀ (i:Nat) (c:List AV) (o:Nat) (x:AV),es[i]?=some c->c[o]?=some x->VR fm [] x (u i o)):VR fm ts (.sl esz es) (.slice (some ⟨cb,off,none⟩) es.length cap)
 |cW {ts} (l k esz i n g:Nat) (a:Option Addr) (cp:Nat) (h:tb ts l k=some .gone) (hn:n<=cp) (ha:0<n->∃ p,a=some p):VR fm ts (.loc l k esz i n g) (.slice a n cp)
 |cX {ts} (l k esz i n g:Nat) (a:Option Addr) (cp m':Nat) (c:Option (Nat×Nat)) (h:tb ts l k=some (.arr m' c)) (af:g<m') (hn:n<=cp) (ha:0<n->∃ p,a=some p):VR fm ts (.loc l k esz i n g) (.slice a n cp)
 |cH {ts} (l k esz:Nat) (a:Option Addr) (h:tb ts l k=some (.arr 0 none)):VR fm ts (.loc l k esz 0 0 0) (.slice a 0 0)
 |loc {ts} (l k esz i n g c cap cp:Nat) (a:Addr) (h:tb ts l k=some (.arr g (some (c,cap)))) (hn:i+n<=g) (bU:n<=cp) (hc:i+cp=cap) (ha:cp≠0\/i=0->a=⟨c,i*esz,none⟩):VR fm ts (.loc l k esz i n g) (.slice (some a) n cp)
 |bP {ts} (l k esz o n c cp:Nat) (a:Addr) (h:tb ts l k=some (.box c)) (hn:n<=cp) (ha:cp≠0->a=⟨c,o,none⟩):VR fm ts (.bP l k esz o n) (.slice (some a) n cp)
 |bQ {ts}:VR fm ts .bQ (.pointer none)
 |ptr {ts} (l k o c:Nat) (h:tb ts l k=some (.box c)):VR fm ts (.ptr l k o) (.pointer (some ⟨c,o,none⟩))
 |eY {ts} (l k esz i o g:Nat) (a:Addr) (h:tb ts l k=some .gone):VR fm ts (.bz l k esz i o g) (.pointer (some a))
 |eZ {ts} (l k esz i o g:Nat) (a:Addr) (m':Nat) (c:Option (Nat×Nat)) (h:tb ts l k=some (.arr m' c)) (af:g<m'):VR fm ts (.bz l k esz i o g) (.pointer (some a))
 |bz {ts} (l k esz i o g c cap:Nat) (h:tb ts l k=some (.arr g (some (c,cap)))):VR fm ts (.bz l k esz i o g) (.pointer (some ⟨c,i*esz+o,none⟩))
 |aL {ts} (es:List (List AV)) (i o cb off esz:Nat) (u:Nat->Nat->Value) (h1:dw es esz)
   (h2:∀ (i:Nat) (c:List AV) (o:Nat) (x:AV),es[i]?=some c->c[o]?=some x->fm cb (off+(i*esz+o))=some (u i o))
   (h3:∀ (i:Nat) (c:List AV) (o:Nat) (x:AV),es[i]?=some c->c[o]?=some x->x.flat=true)
   (h4:∀ (i:Nat) (c:List AV) (o:Nat) (x:AV),es[i]?=some c->c[o]?=some x->VR fm [] x (u i o)):VR fm ts (.aL esz es i o) (.pointer (some ⟨cb,off+(i*esz+o),none⟩))
 |cg {ts}:VR fm ts .cg .nilFunc
 |fn {ts} (f:Fn) (first cap:List AV) (vf vc:Array Value) (h1:first.length=vf.size) (h2:cap.length=vc.size)
   (h3:∀ (i:Nat) x v,first[i]?=some x->vf[i]?=some v->VR fm ts x v)
   (h4:∀ (i:Nat) x v,cap[i]?=some x->vc[i]?=some v->VR fm ts x v):VR fm ts (.fn f first cap) (.func f vf vc)
 |cj {ts}:VR fm ts .cj .nilIface
 |cq {ts} (t:TypeId) (x:AV) (v:Value) (h:VR fm ts x v):VR fm ts (.cq t x) (.iface t v)
 |agg {ts} (cs:List AV) (vs:Array Value) (h1:cs.length=vs.size) (h2:∀ x∈cs,x.flat=true)
   (h3:∀ (i:Nat) x v,cs[i]?=some x->vs[i]?=some v->VR fm ts x v):VR fm ts (.agg cs) (.agg vs)
 |aw {ts} (xs:List AV) (vs:Array Value) (h1:xs.length=vs.size)
   (h3:∀ (i:Nat) x v,xs[i]?=some x->vs[i]?=some v->VR fm ts x v):VR fm ts (.aw xs) (.tuple vs)
 |dead {ts} (v:Value):VR fm ts .dead v
def AG (fm:FM) (ts:List Aw) (xs:List AV) (vs:List Value):Prop:=xs.length=vs.length/\∀ (i:Nat) x v,xs[i]?=some x->vs[i]?=some v->VR fm ts x v
def Bh (fm fm':FM):Prop:=∀ b o v,fm b o=some v->fm' b o=some v
def Bv:Option TB->Option TB->Prop
 |none,_=>True
 |some .gone,x=>x=some .gone
 |some (.box c),x=>x=some (.box c)
 |some (.arr m c),x=>x=some (.arr m c)\/x=some .gone\/∃ m' c',x=some (.arr m' c')/\m<m'
def AD (ts ts':List Aw):Prop:=∀ l k,Bv (tb ts l k) (tb ts' l k)
theorem Bv.refl (x:Option TB):Bv x x:=by
 cases x with
 |none=>trivial
 |some x=>cases x<;>simp[Bv]
theorem Bv.trans {x y z:Option TB} (h:Bv x y) (h':Bv y z):Bv x z:=by
 cases x with
 |none=>trivial
 |some x=>
  cases x with
  |gone=>simp only[Bv]at h;subst h;exact h'
  |box c=>simp only[Bv]at h;subst h;exact h'
  |arr m c=>
   simp only[Bv]at h
   rcases h with rfl|rfl|⟨m',c',rfl,af⟩
   ·exact h'
   ·simp only[Bv]at h';subst h';simp[Bv]
   ·simp only[Bv]at h' ⊢
    rcases h' with rfl|rfl|⟨pK,c'',rfl,jI⟩
    ·exact .inr (.inr ⟨_,_,rfl,af⟩)
    ·exact .inr (.inl rfl)
    ·exact .inr (.inr ⟨_,_,rfl,by omega⟩)
theorem AD.refl (ts:List Aw):AD ts ts:=fun _ _=>Bv.refl _
theorem AD.trans {a b c:List Aw} (h:AD a b) (h':AD b c):AD a c:=fun l k=>(h l k).trans (h' l k)
theorem Bh.refl (fm:FM):Bh fm fm:=fun _ _ _ h=>h
theorem Bh.trans {a b c:FM} (h:Bh a b) (h':Bh b c):Bh a c:=fun _ _ _ x=>h' _ _ _ (h _ _ _ x)
theorem AD.drop {ts ts':List Aw} (h:AD ts ts') (d:Nat):AD (ts.drop d) (ts'.drop d):=by
 intro l k;rw[ft,ft];exact h _ _
theorem AD.nil (ts:List Aw):AD [] ts:=fun _ _=>trivial
theorem Bv.box {x y:Option TB}{c:Nat} (h:Bv x y) (hx:x=some (.box c)):y=some (.box c):=by subst hx;exact h
theorem Bv.gone {x y:Option TB} (h:Bv x y) (hx:x=some .gone):y=some .gone:=by subst hx;exact h
theorem Bv.arr {x y:Option TB}{m:Nat}{c:Option (Nat×Nat)} (h:Bv x y) (hx:x=some (.arr m c)):y=some (.arr m c)\/y=some .gone\/∃ m' c',y=some (.arr m' c')/\m<m':=by subst hx;exact h
theorem VR.mono {fm fm':FM} (hf:Bh fm fm') {ts:List Aw}{x:AV}{v:Value} (h:VR fm ts x v):∀ {ts':List Aw},AD ts ts'->VR fm' ts' x v:=by
 induction h with
 |bool b=>intro ts' _;exact .bool b
 |int k n=>intro ts' _;exact .int k n
 |str s=>intro ts' _;exact .str s
 |nil=>intro ts' _;exact .nil
 |dn e a cap=>intro ts' _;exact .dn e a cap
 |sl es cb off esz cap u dM h1 h2 h3 _ ih=>intro ts' _;exact .sl es cb off esz cap u dM h1 (fun i c o x a b=>hf _ _ _ (h2 i c o x a b)) h3 (fun i c o x a b=>ih i c o x a b (AD.refl _))
 |cW l k esz i n g a cp h hn ha=>intro ts' hl;exact .cW l k esz i n g a cp ((hl l k).gone h) hn ha
 |cX l k esz i n g a cp m' c h af hn ha=>
  intro ts' hl
  rcases (hl l k).arr h with h|h|⟨pK,c',h,h'⟩
  ·exact .cX l k esz i n g a cp m' c h af hn ha
  ·exact .cW l k esz i n g a cp h hn ha
  ·exact .cX l k esz i n g a cp pK c' h (by omega) hn ha
 |cH l k esz a h=>
  intro ts' hl
  rcases (hl l k).arr h with h|h|⟨pK,c',h,h'⟩
  ·exact .cH l k esz a h
  ·exact .cW l k esz _ _ _ _ _ h (AY _) (fun h=>absurd h (by omega))
  ·exact .cX l k esz _ _ _ _ _ pK c' h (by omega) (AY _) (fun h=>absurd h (by omega))
 |loc l k esz i n g c cap cp a h hn bU hc ha=>
  intro ts' hl
  rcases (hl l k).arr h with h|h|⟨pK,c',h,h'⟩
  ·exact .loc l k esz i n g c cap cp a h hn bU hc ha
  ·exact .cW l k esz _ _ _ _ _ h bU (fun _=>⟨a,rfl⟩)
  ·exact .cX l k esz _ _ _ _ _ pK c' h (by omega) bU (fun _=>⟨a,rfl⟩)
 |bP l k esz o n c cp a h hn ha=>intro ts' hl;exact .bP l k esz o n c cp a ((hl l k).box h) hn ha
 |bQ=>intro ts' _;exact .bQ
 |ptr l k o c h=>intro ts' hl;exact .ptr l k o c ((hl l k).box h)
 |eY l k esz i o g a h=>intro ts' hl;exact .eY l k esz i o g a ((hl l k).gone h)
 |eZ l k esz i o g a m' c h af=>
  intro ts' hl
  rcases (hl l k).arr h with h|h|⟨pK,c',h,h'⟩
  ·exact .eZ l k esz i o g a m' c h af
  ·exact .eY l k esz i o g a h
  ·exact .eZ l k esz i o g a pK c' h (by omega)
 |bz l k esz i o g c cap h=>
  intro ts' hl
  rcases (hl l k).arr h with h|h|⟨pK,c',h,h'⟩
  ·exact .bz l k esz i o g c cap h
  ·exact .eY l k esz i o g _ h
  ·exact .eZ l k esz i o g _ pK c' h (by omega)
 |aL es i o cb off esz u h1 h2 h3 _ ih=>intro ts' _;exact .aL es i o cb off esz u h1 (fun i c o x a b=>hf _ _ _ (h2 i c o x a b)) h3 (fun i c o x a b=>ih i c o x a b (AD.refl _))
 |cg=>intro ts' _;exact .cg
 |fn f first cap vf vc h1 h2 _ _ jL jM=>intro ts' hl;exact .fn f first cap vf vc h1 h2 (fun i x v a b=>jL i x v a b hl) (fun i x v a b=>jM i x v a b hl)
 |cj=>intro ts' _;exact .cj
 |cq t x v _ ih=>intro ts' hl;exact .cq t x v (ih hl)
 |agg cs vs h1 h2 _ ih=>intro ts' hl;exact .agg cs vs h1 h2 (fun i x v a b=>ih i x v a b hl)
 |aw xs vs h1 _ ih=>intro ts' hl;exact .aw xs vs h1 (fun i x v a b=>ih i x v a b hl)
 |dead v=>intro ts' _;exact .dead v
theorem VR.aqe {fm:FM}{ts:List Aw}{x:AV}{v:Value} (h:VR fm ts x v) (hx:x.flat=true):v.oneCell'=true:=by
 cases h<;>first|rfl|(simp[AV.flat]at hx)
def dg:Option TB->Option Nat
 |some (.box c)=>some c
 |some (.arr _ (some (c,_)))=>some c
 |_=>none
def Fs (fm:FM) (ts:List Aw) (w:World) (c:Nat) (cs:List AV):Prop:=
 ∃ cells et,w.heap[c]?=some (.cells cells et (0,0))/\cells.size=cs.length/\
  ∀ (o:Nat) (x:AV) (v:Value),cs[o]?=some x->cells[o]?=some v->x.flat=true/\VR fm ts x v
def Dl (fm:FM) (w:World) (et esz:Nat) (es:List (List AV)) (c cap:Nat):Prop:=
 ∃ cells,w.heap[c]?=some (.cells cells et (0,0))/\cells.size=cap*esz/\es.length<=cap/\cap<=maxLen/\dw es esz/\0<esz/\
  ∀ (i:Nat) (cc:List AV) (o:Nat) (x:AV) (v:Value),es[i]?=some cc->cc[o]?=some x->cells[i*esz+o]?=some v->x.flat=true/\VR fm [] x v
inductive BR (fm:FM) (ts:List Aw) (w:World) (N0:Nat):Option TB->AJ->Prop
 |box (c:Nat) (cs:List AV) (hN:N0<=c) (h:Fs fm ts w c cs):BR fm ts w N0 (some (.box c)) (.box cs)
 |nil (et esz:Nat):BR fm ts w N0 (some (.arr 0 none)) (.arr et esz [])
 |arr (et esz:Nat) (es:List (List AV)) (c cap:Nat) (hN:N0<=c) (h:Dl fm w et esz es c cap):BR fm ts w N0 (some (.arr es.length (some (c,cap)))) (.arr et esz es)
def acu:Obj->Bool
 |.cells ..=>false
 |_=>true
structure HR (N0:Nat) (W0:World) (fm:FM) (ts:List Aw) (H:Heap) (w:World):Prop where
 len:ts.length=H.length
 aD:∀ l k b,H.get l k=some b->BR fm (ts.drop l) w N0 (tb ts l k) b
 inj:∀ l k l' k' b b' c,H.get l k=some b->H.get l' k'=some b'->dg (tb ts l k)=some c->dg (tb ts l' k')=some c->l=l'/\k=k'
 cV:∀ b o v,fm b o=some v->w.cell? ⟨b,o,none⟩=some v
 eR:∀ l k b c o,H.get l k=some b->dg (tb ts l k)=some c->fm c o=none
 dL:Below N0 W0 w
 size:N0<=w.heap.size
 dH:∀ (b:Nat) (o:Obj),W0.heap[b]?=some o->acu o=true->w.heap[b]?=some o
theorem Fs.mono {fm fm':FM}{ts ts':List Aw}{w w':World}{c:Nat}{cs:List AV} (h:Fs fm ts w c cs) (hf:Bh fm fm') (ht:AD ts ts') (hw:w'.heap[c]?=w.heap[c]?):Fs fm' ts' w' c cs:=by
 obtain⟨cells,et,h1,h2,h3⟩:=h
 exact⟨cells,et,hw.trans h1,h2,fun o x v a b=>⟨(h3 o x v a b).1,(h3 o x v a b).2.mono hf ht⟩⟩
theorem Dl.mono {fm fm':FM}{w w':World}{et esz:Nat}{es:List (List AV)}{c cap:Nat} (h:Dl fm w et esz es c cap) (hf:Bh fm fm') (hw:w'.heap[c]?=w.heap[c]?):Dl fm' w' et esz es c cap:=by
 obtain⟨cells,h1,h2,h3,h4,h5,h6,h7⟩:=h
 exact⟨cells,hw.trans h1,h2,h3,h4,h5,h6,fun i cc o x v a b d=>⟨(h7 i cc o x v a b d).1,(h7 i cc o x v a b d).2.mono hf (AD.refl _)⟩⟩
theorem BR.mono {fm fm':FM}{ts ts':List Aw}{w w':World}{N0:Nat}{t:Option TB}{b:AJ} (h:BR fm ts w N0 t b) (hf:Bh fm fm') (ht:AD ts ts')
  (hw:∀ c,dg t=some c->w'.heap[c]?=w.heap[c]?):BR fm' ts' w' N0 t b:=by
 cases h with
 |box c cs hN h=>exact .box c cs hN (h.mono hf ht (hw c rfl))
 |nil et esz=>exact .nil et esz
 |arr et esz es c cap hN h=>exact .arr et esz es c cap hN (h.mono hf (hw c rfl))
theorem BR.lt {fm:FM}{ts:List Aw}{w:World}{N0:Nat}{t:Option TB}{b:AJ} (h:BR fm ts w N0 t b) {c:Nat} (hc:dg t=some c):c<w.heap.size/\N0<=c:=by
 cases h with
 |box c' cs hN h=>
  simp only[dg,oE]at hc;subst hc
  obtain⟨cells,et,h1,_⟩:=h
  exact⟨(CZ.1 h1).1,hN⟩
 |nil et esz=>simp[dg]at hc
 |arr et esz es c' cap hN h=>
  simp only[dg,oE]at hc;subst hc
  obtain⟨cells,h1,_⟩:=h
  exact⟨(CZ.1 h1).1,hN⟩
theorem arO (ts:List Aw):∀ (l k:Nat) (x:TB),tb ts l k=some x->l<ts.length:=by
 induction ts with
 |nil=>intro l k x h;simp[tb]at h
 |cons t ts ih=>
  intro l k x h
  cases l with
  |zero=>simp
  |succ l=>simp only[tb]at h;have:=ih _ _ _ h;simp;omega
theorem AD.set {ts:List Aw}{l k:Nat}{x:TB} (h:Bv (tb ts l k) (some x)):AD ts (dh ts l k x):=by
 intro l' k'
 rw[eE]
 split
 ·rename_i hh;obtain⟨rfl,rfl,_⟩:=hh;exact h
 ·exact Bv.refl _
section
variable {N0:Nat}{W0:World}{fm:FM}{ts:List Aw}{H:Heap}{w:World}
theorem HR.acT (h:HR N0 W0 fm ts H w) {w':World}{l k c:Nat}{x:TB}{b:AJ} (hl:l<H.length) (hx:dg (some x)=some c)
  (hw:∀ i,i≠c->i<w.heap.size->w'.heap[i]?=w.heap[i]?) (pn:Below N0 w w') (oj:∀ o,w.heap[c]?=some o->acu o=false) (hle:Bv (tb ts l k) (some x))
  (hc:∀ l' k' b',H.get l' k'=some b'->dg (tb ts l' k')=some c->l'=l/\k'=k) (hfm:∀ o,fm c o=none)
  (dQ:BR fm ((dh ts l k x).drop l) w' N0 (some x) b):HR N0 W0 fm (dh ts l k x) (H.put l k (some b)) w':=by
 have hT:AD ts (dh ts l k x):=AD.set hle
 have af:l<ts.length:=by rw[h.len];exact hl
 have other:∀ l' k',¬ (l=l'/\k=k')->tb (dh ts l k x) l' k'=tb ts l' k':=by
  intro l' k' ba
  rw[eE,if_neg (fun hh=>ba ⟨hh.1,hh.2.1⟩)]
 have same:tb (dh ts l k x) l k=some x:=by rw[eE,if_pos ⟨rfl,rfl,af⟩]
 have pf:∀ l' k',¬ (l=l'/\k=k')->(H.put l k (some b)).get l' k'=H.get l' k':=by
  intro l' k' ba
  rw[Heap.qA,if_neg (fun hh=>ba ⟨hh.1,hh.2.1⟩)]
 have ad3:(H.put l k (some b)).get l k=some b:=by rw[Heap.qA,if_pos ⟨rfl,rfl,hl⟩]
 refine⟨by simp[h.len],?_,?_,?_,?_,h.dL.trans pn,Ef h.size pn.size,fun b o h0 ho=>?_⟩
 rotate_right
 ·have hb:=h.dH b o h0 ho
  have ba:b≠c:=fun e=>by subst e;rw[oj o hb]at ho;cases ho
  exact(hw b ba (CZ.1 hb).1).trans hb
 ·intro l' k' b' hg
  by_cases he:l=l'/\k=k'
  ·obtain⟨rfl,rfl⟩:=he
   rw[ad3]at hg
   obtain rfl:=oi hg
   rw[same]
   exact dQ
  ·rw[pf _ _ he]at hg
   rw[other _ _ he]
   refine(h.aD l' k' b' hg).mono (Bh.refl _) (hT.drop l') (fun c' np=>hw c' ?_ ((h.aD l' k' b' hg).lt np).1)
   intro e
   subst e
   exact he (let ⟨a,b⟩:=hc l' k' b' hg np;⟨a.symm,b.symm⟩)
 ·intro l1 k1 l2 k2 b1 b2 c' g1 g2 t1 t2
  by_cases e1:l=l1/\k=k1
  ·obtain⟨rfl,rfl⟩:=e1
   by_cases e2:l=l2/\k=k2
   ·exact e2
   ·rw[same]at t1
    rw[other _ _ e2]at t2
    rw[pf _ _ e2]at g2
    rw[hx]at t1
    obtain rfl:=oi t1
    have:=hc l2 k2 b2 g2 t2
    exact⟨this.1.symm,this.2.symm⟩
  ·rw[other _ _ e1]at t1
   rw[pf _ _ e1]at g1
   by_cases e2:l=l2/\k=k2
   ·obtain⟨rfl,rfl⟩:=e2
    rw[same,hx]at t2
    obtain rfl:=oi t2
    exact hc l1 k1 b1 g1 t1
   ·rw[other _ _ e2]at t2
    rw[pf _ _ e2]at g2
    exact h.inj l1 k1 l2 k2 b1 b2 c' g1 g2 t1 t2
 ·intro b' o v hv
  have ba:b'≠c:=fun e=>by subst e;rw[hfm]at hv;cases hv
  have hX:=h.cV b' o v hv
  have hb:b'<w.heap.size:=World.block_lt_of_cell? w _ hX
  rw[<-hX]
  exact World.cell?_of_block (w:=w) (w':=w') (a:=⟨b',o,none⟩) (hw b' ba hb)
 ·intro l' k' b' c' o hg ht
  by_cases he:l=l'/\k=k'
  ·obtain⟨rfl,rfl⟩:=he
   rw[same,hx]at ht
   obtain rfl:=oi ht
   exact hfm o
  ·rw[pf _ _ he]at hg
   rw[other _ _ he]at ht
   exact h.eR l' k' b' c' o hg ht
theorem HR.fresh (h:HR N0 W0 fm ts H w) {cells:Array Value}{et:TypeId}{k:Nat}{x:TB}{b:AJ} (hH:0<H.length) (hk:tb ts 0 k=none) (hx:dg (some x)=some w.heap.size)
  (dQ:BR fm (dh ts 0 k x) (w.alloc (.cells cells et)) N0 (some x) b):
  HR N0 W0 fm (dh ts 0 k x) (H.put 0 k (some b)) (w.alloc (.cells cells et)):=by
 refine h.acT hH hx (fun i _ hi=>heap_alloc_old w _ i hi) ((Below.refl N0 w).alloc h.size _) (fun o ho=>by simp at ho) (by rw[hk];trivial) ?_ ?_ (by simpa using dQ)
 ·intro l' k' b' hg ht
  have:=(h.aD l' k' b' hg).lt ht
  omega
 ·intro o
  cases hf:fm w.heap.size o with
  |none=>rfl
  |some v=>
   have:=World.block_lt_of_cell? w _ (h.cV _ _ _ hf)
   simp at this
theorem HR.empty (h:HR N0 W0 fm ts H w) {k:Nat} (et esz:Nat) (hk:tb ts 0 k=none) (hH:0<H.length):
  HR N0 W0 fm (dh ts 0 k (.arr 0 none)) (H.put 0 k (some (.arr et esz []))) w:=by
 have hT:AD ts (dh ts 0 k (.arr 0 none)):=AD.set (by rw[hk];trivial)
 have af:0<ts.length:=by rw[h.len];exact hH
 have other:∀ l' k',¬ (0=l'/\k=k')->tb (dh ts 0 k (.arr 0 none)) l' k'=tb ts l' k':=by
  intro l' k' ba
  rw[eE,if_neg (fun hh=>ba ⟨hh.1,hh.2.1⟩)]
 have same:tb (dh ts 0 k (.arr 0 none)) 0 k=some (.arr 0 none):=by rw[eE,if_pos ⟨rfl,rfl,af⟩]
 have pf:∀ l' k',¬ (0=l'/\k=k')->(H.put 0 k (some (.arr et esz []))).get l' k'=H.get l' k':=by
  intro l' k' ba
  rw[Heap.qA,if_neg (fun hh=>ba ⟨hh.1,hh.2.1⟩)]
 have ad3:(H.put 0 k (some (.arr et esz []))).get 0 k=some (.arr et esz []):=by rw[Heap.qA,if_pos ⟨rfl,rfl,hH⟩]
 refine⟨by simp[h.len],?_,?_,h.cV,?_,h.dL,h.size,h.dH⟩
 ·intro l' k' b' hg
  by_cases he:0=l'/\k=k'
  ·obtain⟨rfl,rfl⟩:=he
   rw[ad3]at hg
   obtain rfl:=oi hg
   rw[same]
   exact .nil et esz
  ·rw[pf _ _ he]at hg
   rw[other _ _ he]
   exact(h.aD l' k' b' hg).mono (Bh.refl _) (hT.drop l') (fun _ _=>rfl)
 ·intro l1 k1 l2 k2 b1 b2 c' g1 g2 t1 t2
  by_cases e1:0=l1/\k=k1
  ·obtain⟨rfl,rfl⟩:=e1
   rw[same]at t1
   simp[dg]at t1
  ·rw[other _ _ e1]at t1
   rw[pf _ _ e1]at g1
   by_cases e2:0=l2/\k=k2
   ·obtain⟨rfl,rfl⟩:=e2
    rw[same]at t2
    simp[dg]at t2
   ·rw[other _ _ e2]at t2
    rw[pf _ _ e2]at g2
    exact h.inj l1 k1 l2 k2 b1 b2 c' g1 g2 t1 t2
 ·intro l' k' b' c' o hg ht
  by_cases he:0=l'/\k=k'
  ·obtain⟨rfl,rfl⟩:=he
   rw[same]at ht
   simp[dg]at ht
  ·rw[pf _ _ he]at hg
   rw[other _ _ he]at ht
   exact h.eR l' k' b' c' o hg ht
theorem HR.world (h:HR N0 W0 fm ts H w) {w':World} (hw:∀ i,i<w.heap.size->w'.heap[i]?=w.heap[i]?) (pn:Below N0 w w'):HR N0 W0 fm ts H w':=by
 refine⟨h.len,fun l k b hg=>(h.aD l k b hg).mono (Bh.refl _) (AD.refl _) (fun c hc=>hw c ((h.aD l k b hg).lt hc).1),h.inj,?_,h.eR,h.dL.trans pn,Ef h.size pn.size,fun b o h0 ho=>(hw b (CZ.1 (h.dH b o h0 ho)).1).trans (h.dH b o h0 ho)⟩
 intro b o v hv
 have hX:=h.cV b o v hv
 rw[<-hX]
 exact World.cell?_of_block (w:=w) (w':=w') (a:=⟨b,o,none⟩) (hw b (World.block_lt_of_cell? w _ hX))
theorem HR.drew (h:HR N0 W0 fm ts H w):HR N0 W0 fm ts H w.drew:=h.world (fun _ _=>rfl) (Below.refl N0 w).drew
end
def nA:Option TB->Bool
 |some (.arr _ _)=>true
 |_=>false
def iW:List Aw->List (Nat×Nat)->List Aw
 |ts,[]=>ts
 |ts,(l,k)::r=>iW (if nA (tb ts l k) then dh ts l k .gone else ts) r
theorem mX (r:List (Nat×Nat)):∀ (ts:List Aw) (l k:Nat),tb (iW ts r) l k=if (l,k)∈r/\nA (tb ts l k)=true then some .gone else tb ts l k:=by
 induction r with
 |nil=>intro ts l k;simp[iW]
 |cons p r ih=>
  obtain⟨l0,k0⟩:=p
  intro ts l k
  simp only[iW,ih]
  by_cases ha:nA (tb ts l0 k0)=true
  ·simp only[ha,if_true]
   have af:l0<ts.length:=by
    cases hh:tb ts l0 k0 with
    |none=>rw[hh]at ha;simp[nA]at ha
    |some x=>exact arO ts l0 k0 x hh
   by_cases he:l0=l/\k0=k
   ·obtain⟨rfl,rfl⟩:=he
    have e1:tb (dh ts l0 k0 .gone) l0 k0=some .gone:=by rw[eE,if_pos ⟨rfl,rfl,af⟩]
    rw[e1]
    have e2:nA (some TB.gone)=false:=rfl
    rw[if_neg (by simp[e2]),if_pos ⟨List.mem_cons_self,ha⟩]
   ·have h1:tb (dh ts l0 k0 .gone) l k=tb ts l k:=by rw[eE,if_neg (fun hh=>he ⟨hh.1,hh.2.1⟩)]
    have h2:((l,k)∈(l0,k0)::r)↔(l,k)∈r:=by
     simp only[BF,Prod.mk.injEq]
     constructor
     ·rintro(⟨rfl,rfl⟩|h)
      ·exact absurd ⟨rfl,rfl⟩ he
      ·exact h
     ·exact fun h=>.inr h
    rw[h1]
    simp only[h2]
  ·simp only[ha,if_false,C4]
   by_cases he:l0=l/\k0=k
   ·obtain⟨rfl,rfl⟩:=he
    simp[ha]
   ·have h2:((l,k)∈(l0,k0)::r)↔(l,k)∈r:=by
     simp only[BF,Prod.mk.injEq]
     constructor
     ·rintro(⟨rfl,rfl⟩|h)
      ·exact absurd ⟨rfl,rfl⟩ he
      ·exact h
     ·exact fun h=>.inr h
    simp only[h2]
@[simp] theorem aeE (r:List (Nat×Nat)):∀ ts:List Aw,(iW ts r).length=ts.length:=by
 induction r with
 |nil=>intro ts;rfl
 |cons p r ih=>obtain⟨l,k⟩:=p;intro ts;simp only[iW,ih];split<;>simp
theorem AD.gone (ts:List Aw) (r:List (Nat×Nat)):AD ts (iW ts r):=by
 intro l k
 rw[mX]
 split
 ·rename_i h
  cases hh:tb ts l k with
  |none=>trivial
  |some x=>
   rw[hh]at h
   cases x with
   |arr m c=>simp[Bv]
   |box c=>simp[nA]at h
   |gone=>simp[nA]at h
 ·exact Bv.refl _
theorem wH (r:List (Nat×Nat)):∀ (H:Heap) (l k:Nat),(H.bV (iE r)).get l k=if (l,k)∈r then none else H.get l k:=by
 induction r with
 |nil=>intro H l k;simp[iE,Heap.bV]
 |cons p r ih=>
  obtain⟨l0,k0⟩:=p
  intro H l k
  have:iE ((l0,k0)::r)=(l0,k0,none)::iE r:=rfl
  rw[this]
  simp only[Heap.bV,ih,Heap.qA]
  by_cases he:l0=l/\k0=k
  ·obtain⟨rfl,rfl⟩:=he
   by_cases hl:l0<H.length
   ·simp[hl]
   ·have:H.get l0 k0=none:=by
     cases hh:H.get l0 k0 with
     |none=>rfl
     |some b=>exact absurd (Heap.sD H _ _ _ hh) hl
    simp[hl,this]
  ·have h2:((l,k)∈(l0,k0)::r)↔(l,k)∈r:=by
    simp only[BF,Prod.mk.injEq]
    constructor
    ·rintro(⟨rfl,rfl⟩|h)
     ·exact absurd ⟨rfl,rfl⟩ he
     ·exact h
    ·exact fun h=>.inr h
   simp only[h2]
   by_cases hr:(l,k)∈r
   ·simp[hr]
   ·simp only[hr,if_false]
    rw[if_neg (fun hh=>he ⟨hh.1,hh.2.1⟩)]
open Classical in
noncomputable def jW (fm:FM) (w:World) (bs:Nat->Prop):FM:=fun b o=>if bs b then w.cell? ⟨b,o,none⟩ else fm b o
def behind (ts:List Aw) (H:Heap) (r:List (Nat×Nat)) (c:Nat):Prop:=∃ l k b,(l,k)∈r/\H.get l k=some b/\nA (tb ts l k)=true/\dg (tb ts l k)=some c
section
variable {N0:Nat}{W0:World}{fm:FM}{ts:List Aw}{H:Heap}{w:World}
theorem HR.wo (h:HR N0 W0 fm ts H w) (r:List (Nat×Nat)):Bh fm (jW fm w (behind ts H r)):=by
 intro b o v hv
 unfold jW
 split
 ·exact h.cV b o v hv
 ·exact hv
structure AU (N0:Nat) (fm fm':FM):Prop where
 le:Bh fm fm'
 fix:∀ b o,b<N0->fm' b o=fm b o
theorem AU.refl (N0:Nat) (fm:FM):AU N0 fm fm:=⟨Bh.refl _,fun _ _ _=>rfl⟩
theorem AU.trans {N0:Nat}{a b c:FM} (h:AU N0 a b) (k:AU N0 b c):AU N0 a c:=⟨h.le.trans k.le,fun x o e=>(k.fix x o e).trans (h.fix x o e)⟩
theorem HR.wq (h:HR N0 W0 fm ts H w) (r:List (Nat×Nat)):AU N0 fm (jW fm w (behind ts H r)):=by
 refine⟨h.wo r,?_⟩
 intro b o hb
 unfold jW
 rw[if_neg]
 rintro⟨l,k,aD,_,hg,_,ht⟩
 have:=((h.aD l k aD hg).lt ht).2
 omega
theorem HR.tk (h:HR N0 W0 fm ts H w) (r:List (Nat×Nat)):
  HR N0 W0 (jW fm w (behind ts H r)) (iW ts r) (H.bV (iE r)) w:=by
 have hF:=h.wo r
 refine⟨by simp[h.len],?_,?_,?_,?_,h.dL,h.size,h.dH⟩
 ·intro l k b hg
  rw[wH]at hg
  split at hg
  ·cases hg
  ·rename_i hn
   rw[mX,if_neg (fun hh=>hn hh.1)]
   exact(h.aD l k b hg).mono hF ((AD.gone ts r).drop l) (fun _ _=>rfl)
 ·intro l k l' k' b b' c g g' t t'
  rw[wH]at g g'
  split at g
  ·cases g
  ·rename_i hn
   split at g'
   ·cases g'
   ·rename_i ee
    rw[mX,if_neg (fun hh=>hn hh.1)]at t
    rw[mX,if_neg (fun hh=>ee hh.1)]at t'
    exact h.inj l k l' k' b b' c g g' t t'
 ·intro b o v hv
  unfold jW at hv
  split at hv
  ·exact hv
  ·exact h.cV b o v hv
 ·intro l k b c o g t
  rw[wH]at g
  split at g
  ·cases g
  ·rename_i hn
   rw[mX,if_neg (fun hh=>hn hh.1)]at t
   unfold jW
   rw[if_neg]
   ·exact h.eR l k b c o g t
   ·rintro⟨l',k',b',hm,bK,_,gZ⟩
    obtain⟨rfl,rfl⟩:=h.inj l k l' k' b b' c g bK t gZ
    exact hn hm
end
end Go.Abs
namespace Go.Abs
open Go Go.RowKit
theorem nM (d:Nat):∀ cs:List AV,(AV.dm d cs).length=cs.length
 |[]=>by simp[AV.dm]
 |x::l=>by simp[AV.dm,nM d l]
theorem nL (d:Nat):∀ (cs:List AV) (i:Nat),(AV.dm d cs)[i]?=(cs[i]?).map (AV.sh d)
 |[],i=>by simp[AV.dm]
 |x::l,0=>by simp[AV.dm]
 |x::l,i+1=>by simp[AV.dm,nL d l i]
theorem acJ (d:Nat) (x:AV):(x.sh d).flat=x.flat:=by
 cases x<;>simp[AV.sh,AV.flat]
theorem VR.sh {fm:FM} (d:Nat) {gH:List Aw}{x:AV}{v:Value} (h:VR fm gH x v):∀ {ts:List Aw},gH=ts.drop d->VR fm ts (x.sh d) v:=by
 induction h with
 |bool b=>intro ts _;exact .bool b
 |int k n=>intro ts _;exact .int k n
 |str s=>intro ts _;exact .str s
 |nil=>intro ts _;exact .nil
 |dn e a cap=>intro ts _;exact .dn e a cap
 |sl es cb off esz cap u dM h1 h2 h3 h4 _=>intro ts _;exact .sl es cb off esz cap u dM h1 h2 h3 h4
 |cW l k esz i n g a cp h hn ha=>intro ts e;subst e;rw[ft]at h;exact .cW _ k esz i n g a cp h hn ha
 |cX l k esz i n g a cp m' c h af hn ha=>intro ts e;subst e;rw[ft]at h;exact .cX _ k esz i n g a cp m' c h af hn ha
 |cH l k esz a h=>intro ts e;subst e;rw[ft]at h;exact .cH _ k esz a h
 |loc l k esz i n g c cap cp a h hn bU hc ha=>intro ts e;subst e;rw[ft]at h;exact .loc _ k esz i n g c cap cp a h hn bU hc ha
 |bP l k esz o n c cp a h hn ha=>intro ts e;subst e;rw[ft]at h;exact .bP _ k esz o n c cp a h hn ha
 |bQ=>intro ts _;exact .bQ
 |ptr l k o c h=>intro ts e;subst e;rw[ft]at h;exact .ptr _ k o c h
 |eY l k esz i o g a h=>intro ts e;subst e;rw[ft]at h;exact .eY _ k esz i o g a h
 |eZ l k esz i o g a m' c h af=>intro ts e;subst e;rw[ft]at h;exact .eZ _ k esz i o g a m' c h af
 |bz l k esz i o g c cap h=>intro ts e;subst e;rw[ft]at h;exact .bz _ k esz i o g c cap h
 |aL es i o cb off esz u h1 h2 h3 h4 _=>intro ts _;exact .aL es i o cb off esz u h1 h2 h3 h4
 |cg=>intro ts _;exact .cg
 |fn f first cap vf vc h1 h2 _ _ jL jM=>
  intro ts e
  refine .fn f _ _ vf vc (by rw[nM];exact h1) (by rw[nM];exact h2) ?_ ?_
  ·intro i x v hx hv
   rw[nL]at hx
   cases hf:first[i]? with
   |none=>rw[hf]at hx;cases hx
   |some y=>rw[hf]at hx;simp only[Be,oE]at hx;subst hx;exact jL i y v hf hv e
  ·intro i x v hx hv
   rw[nL]at hx
   cases hf:cap[i]? with
   |none=>rw[hf]at hx;cases hx
   |some y=>rw[hf]at hx;simp only[Be,oE]at hx;subst hx;exact jM i y v hf hv e
 |cj=>intro ts _;exact .cj
 |cq t x v _ ih=>intro ts e;exact .cq t _ v (ih e)
 |agg cs vs h1 h2 _ ih=>
  intro ts e
  refine .agg _ vs (by rw[nM];exact h1) ?_ ?_
  ·intro x hx
   obtain⟨i,hi⟩:=BH.1 hx
   rw[nL]at hi
   cases hf:cs[i]? with
   |none=>rw[hf]at hi;cases hi
   |some y=>rw[hf]at hi;simp only[Be,oE]at hi;subst hi;rw[acJ];exact h2 y (BH.2 ⟨i,hf⟩)
  ·intro i x v hx hv
   rw[nL]at hx
   cases hf:cs[i]? with
   |none=>rw[hf]at hx;cases hx
   |some y=>rw[hf]at hx;simp only[Be,oE]at hx;subst hx;exact ih i y v hf hv e
 |aw xs vs h1 _ ih=>
  intro ts e
  refine .aw _ vs (by rw[nM];exact h1) ?_
  intro i x v hx hv
  rw[nL]at hx
  cases hf:xs[i]? with
  |none=>rw[hf]at hx;cases hx
  |some y=>rw[hf]at hx;simp only[Be,oE]at hx;subst hx;exact ih i y v hf hv e
 |dead v=>intro ts _;exact .dead v
theorem tI (d:Nat):∀ (cs ys:List AV),AV.gq d cs=some ys->ys.length=cs.length/\∀ (i:Nat) (x:AV),cs[i]?=some x->∃ y,ys[i]?=some y/\x.un d=some y
 |[],ys,h=>by simp only[AV.gq,oE]at h;subst h;simp
 |x::l,ys,h=>by
  simp only[AV.gq]at h
  split at h
  ·rename_i a b ha hb
   obtain rfl:=oi h
   have ih:=tI d l b hb
   refine⟨by simp[ih.1],?_⟩
   intro i z hz
   cases i with
   |zero=>simp only[Cl,oE]at hz;subst hz;exact⟨a,by simp,ha⟩
   |succ i=>simp only[Ci]at hz ⊢;exact ih.2 i z hz
  ·cases h
theorem rf {d l l':Nat} (h:u6 d l=some l'):l'+d=l:=by
 unfold u6 at h
 split at h
 ·simp only[oE]at h;omega
 ·cases h
theorem akh {d:Nat}{x y:AV} (h:x.un d=some y):y.flat=x.flat:=by
 cases x with
 |fn f a b=>
  simp only[AV.un]at h
  split at h
  ·simp only[oE]at h;subst h;simp[AV.flat]
  ·cases h
 |_=>
  simp only[AV.un,mS,oE]at h
  first
  |(subst h;simp[AV.flat];done)
  |(obtain⟨a,_,rfl⟩:=h;simp[AV.flat])
theorem VR.un {fm:FM} (d:Nat) {ts:List Aw}{x:AV}{v:Value} (h:VR fm ts x v):∀ {y:AV},x.un d=some y->VR fm (ts.drop d) y v:=by
 induction h with
 |bool b=>intro y e;simp only[AV.un,oE]at e;subst e;exact .bool b
 |int k n=>intro y e;simp only[AV.un,oE]at e;subst e;exact .int k n
 |str s=>intro y e;simp only[AV.un,oE]at e;subst e;exact .str s
 |nil=>intro y e;simp only[AV.un,oE]at e;subst e;exact .nil
 |dn e0 a cap=>intro y e;simp only[AV.un,oE]at e;subst e;exact .dn e0 a cap
 |sl es cb off esz cap u dM h1 h2 h3 h4 _=>intro y e;simp only[AV.un,oE]at e;subst e;exact .sl es cb off esz cap u dM h1 h2 h3 h4
 |cW l k esz i n g a cp h hn ha=>
  intro y e;simp only[AV.un,mS]at e;obtain⟨l',hl,rfl⟩:=e
  exact .cW l' k esz i n g a cp (by rw[ft,rf hl];exact h) hn ha
 |cX l k esz i n g a cp m' c h af hn ha=>
  intro y e;simp only[AV.un,mS]at e;obtain⟨l',hl,rfl⟩:=e
  exact .cX l' k esz i n g a cp m' c (by rw[ft,rf hl];exact h) af hn ha
 |cH l k esz a h=>
  intro y e;simp only[AV.un,mS]at e;obtain⟨l',hl,rfl⟩:=e
  exact .cH l' k esz a (by rw[ft,rf hl];exact h)
 |loc l k esz i n g c cap cp a h hn bU hc ha=>
  intro y e;simp only[AV.un,mS]at e;obtain⟨l',hl,rfl⟩:=e
  exact .loc l' k esz i n g c cap cp a (by rw[ft,rf hl];exact h) hn bU hc ha
 |bP l k esz o n c cp a h hn ha=>
  intro y e;simp only[AV.un,mS]at e;obtain⟨l',hl,rfl⟩:=e
  exact .bP l' k esz o n c cp a (by rw[ft,rf hl];exact h) hn ha
 |bQ=>intro y e;simp only[AV.un,oE]at e;subst e;exact .bQ
 |ptr l k o c h=>
  intro y e;simp only[AV.un,mS]at e;obtain⟨l',hl,rfl⟩:=e
  exact .ptr l' k o c (by rw[ft,rf hl];exact h)
 |eY l k esz i o g a h=>
  intro y e;simp only[AV.un,mS]at e;obtain⟨l',hl,rfl⟩:=e
  exact .eY l' k esz i o g a (by rw[ft,rf hl];exact h)
 |eZ l k esz i o g a m' c h af=>
  intro y e;simp only[AV.un,mS]at e;obtain⟨l',hl,rfl⟩:=e
  exact .eZ l' k esz i o g a m' c (by rw[ft,rf hl];exact h) af
 |bz l k esz i o g c cap h=>
  intro y e;simp only[AV.un,mS]at e;obtain⟨l',hl,rfl⟩:=e
  exact .bz l' k esz i o g c cap (by rw[ft,rf hl];exact h)
 |aL es i o cb off esz u h1 h2 h3 h4 _=>intro y e;simp only[AV.un,oE]at e;subst e;exact .aL es i o cb off esz u h1 h2 h3 h4
 |cg=>intro y e;simp only[AV.un,oE]at e;subst e;exact .cg
 |fn f first cap vf vc h1 h2 _ _ jL jM=>
  intro y e
  simp only[AV.un]at e
  split at e
  ·rename_i a b ha hb
   simp only[oE]at e;subst e
   have g1:=tI d _ _ ha
   have g2:=tI d _ _ hb
   refine .fn f _ _ vf vc (by rw[g1.1];exact h1) (by rw[g2.1];exact h2) ?_ ?_
   ·intro i x v hx hv
    have hi:i<first.length:=by rw[<-g1.1];exact(gS.1 hx).1
    obtain⟨y,hy,hu⟩:=g1.2 i _ (gG hi)
    rw[hx]at hy;obtain rfl:=oi hy
    exact jL i _ v (gG hi) hv hu
   ·intro i x v hx hv
    have hi:i<cap.length:=by rw[<-g2.1];exact(gS.1 hx).1
    obtain⟨y,hy,hu⟩:=g2.2 i _ (gG hi)
    rw[hx]at hy;obtain rfl:=oi hy
    exact jM i _ v (gG hi) hv hu
  ·cases e
 |cj=>intro y e;simp only[AV.un,oE]at e;subst e;exact .cj
 |cq t x v _ ih=>
  intro y e;simp only[AV.un,mS]at e;obtain⟨z,hz,rfl⟩:=e
  exact .cq t z v (ih hz)
 |agg cs vs h1 h2 _ ih=>
  intro y e;simp only[AV.un,mS]at e;obtain⟨z,hz,rfl⟩:=e
  have g:=tI d _ _ hz
  refine .agg z vs (by rw[g.1];exact h1) ?_ ?_
  ·intro x hx
   obtain⟨i,hi⟩:=BH.1 hx
   have af:i<cs.length:=by rw[<-g.1];exact(gS.1 hi).1
   obtain⟨y,hy,hu⟩:=g.2 i _ (gG af)
   rw[hi]at hy;obtain rfl:=oi hy
   rw[akh hu]
   exact h2 _ (List.getElem_mem af)
  ·intro i x v hx hv
   have af:i<cs.length:=by rw[<-g.1];exact(gS.1 hx).1
   obtain⟨y,hy,hu⟩:=g.2 i _ (gG af)
   rw[hx]at hy;obtain rfl:=oi hy
   exact ih i _ v (gG af) hv hu
 |aw xs vs h1 _ ih=>
  intro y e;simp only[AV.un,mS]at e;obtain⟨z,hz,rfl⟩:=e
  have g:=tI d _ _ hz
  refine .aw z vs (by rw[g.1];exact h1) ?_
  intro i x v hx hv
  have af:i<xs.length:=by rw[<-g.1];exact(gS.1 hx).1
  obtain⟨y,hy,hu⟩:=g.2 i _ (gG af)
  rw[hx]at hy;obtain rfl:=oi hy
  exact ih i _ v (gG af) hv hu
 |dead v=>intro y e;simp only[AV.un,oE]at e;subst e;exact .dead v
theorem mA (G:AW):∀ (cs ys:List AV),AV.aQ G cs=some ys->ys.length=cs.length/\∀ (i:Nat) (x:AV),cs[i]?=some x->∃ y,ys[i]?=some y/\x.ak G=some y
 |[],ys,h=>by simp only[AV.aQ,oE]at h;subst h;simp
 |x::l,ys,h=>by
  simp only[AV.aQ]at h
  split at h
  ·rename_i a b ha hb
   obtain rfl:=oi h
   have ih:=mA G l b hb
   refine⟨by simp[ih.1],?_⟩
   intro i z hz
   cases i with
   |zero=>simp only[Cl,oE]at hz;subst hz;exact⟨a,by simp,ha⟩
   |succ i=>simp only[Ci]at hz ⊢;exact ih.2 i z hz
  ·cases h
theorem xM:∀ (cs:List AV) (i:Nat) (x:AV),cs[i]?=some x->∀ p∈x.refs,p∈AV.aT cs
 |[],i,x,h=>by simp at h
 |y::l,0,x,h=>by
  simp only[Cl,oE]at h;subst h
  intro p hp;simp only[AV.aT,A9];exact .inl hp
 |y::l,i+1,x,h=>by
  simp only[Ci]at h
  intro p hp;simp only[AV.aT,A9];exact .inr (xM l i x h p hp)
theorem abU {G:AW}{x y:AV} (h:x.ak G=some y):y.flat=x.flat:=by
 cases x with
 |loc l k e i n g=>
  simp only[AV.ak]at h
  split at h
  ·split at h
   ·simp only[oE]at h;subst h;simp[AV.flat]
   ·cases h
  ·cases h
 |fn f a b=>
  simp only[AV.ak]at h
  split at h
  ·obtain rfl:=oi h;simp[AV.flat]
  ·cases h
 |_=>
  first
  |(simp[AV.ak]at h;done)
  |(simp only[AV.ak,oE]at h;subst h;simp[AV.flat];done)
  |(simp only[AV.ak,mS]at h;obtain⟨a,_,rfl⟩:=h;simp[AV.flat];done)
section
variable {N0:Nat}{W0:World}{fm:FM}{ts:List Aw}{H:Heap}{w:World}
theorem HR.ak (h:HR N0 W0 fm ts H w) (r:List (Nat×Nat)) {x:AV}{v:Value} (hv:VR fm ts x v):
  ∀ {y:AV},x.ak H.get=some y->(∀ p∈x.refs,p∈r)->VR (jW fm w (behind ts H r)) [] y v:=by
 have hF:=h.wo r
 generalize aid:jW fm w (behind ts H r)=fm' at hF
 have bG:∀ c o u,behind ts H r c->w.cell? ⟨c,o,none⟩=some u->fm' c o=some u:=by
  intro c o u hb hc
  rw[<-aid]
  unfold jW
  rw[if_pos hb]
  exact hc
 clear aid
 induction hv with
 |bool b=>intro y e _;simp only[AV.ak,oE]at e;subst e;exact .bool b
 |int k n=>intro y e _;simp only[AV.ak,oE]at e;subst e;exact .int k n
 |str s=>intro y e _;simp only[AV.ak,oE]at e;subst e;exact .str s
 |nil=>intro y e _;simp only[AV.ak,oE]at e;subst e;exact .nil
 |dn e0 a cap=>intro y e _;simp only[AV.ak,oE]at e;subst e;exact .dn e0 a cap
 |sl es cb off esz cap u dM h1 h2 h3 h4 _=>
  intro y e _;simp only[AV.ak,oE]at e;subst e
  exact(VR.sl es cb off esz cap u dM h1 h2 h3 h4 (ts:=[])).mono hF (AD.refl _)
 |cW l k esz i n g a cp ht hn ha=>
  intro y e _
  simp only[AV.ak]at e
  split at e
  ·rename_i et aU es hg
   have:=h.aD l k _ hg
   rw[ht]at this
   cases this
  ·cases e
 |cX l k esz i n g a cp m' c ht af hn ha=>
  intro y e _
  simp only[AV.ak]at e
  split at e
  ·rename_i et aU es hg
   have:=h.aD l k _ hg
   rw[ht]at this
   split at e
   ·rename_i hh
    cases this with
    |nil et esz=>simp at hh;omega
    |arr et esz es c cap hN h=>omega
   ·cases e
  ·cases e
 |cH l k esz a ht=>
  intro y e _
  simp only[AV.ak]at e
  split at e
  ·split at e
   ·simp only[List.drop_zero,List.take_zero,oE]at e;subst e;exact .dn _ _ _
   ·cases e
  ·cases e
 |loc l k esz i n g c cap cp a ht hn bU hc ha=>
  intro y e hr
  simp only[AV.ak]at e
  split at e
  ·rename_i et aU es hg
   split at e
   ·rename_i hh
    obtain⟨he,hlen,bT⟩:=hh
    subst he
    simp only[oE]at e;subst e
    have hb:=h.aD l k _ hg
    rw[ht]at hb
    cases hb with
    |arr et _ es c cap hN hA=>
     obtain⟨cells,c1,c2,c3,c4,c5,c6,c7⟩:=hA
     have aop:behind _ H r c:=⟨l,k,_,hr (l,k) (by simp[AV.refs]),hg,by rw[ht];rfl,by rw[ht];rfl⟩
     by_cases hn0:n=0
     ·subst hn0
      simp only[List.take_zero]
      exact .dn _ _ _
     ·have gB:=ha (.inl (by omega))
      subst gB
      have hl:((es.drop i).take n).length=n:=by simp;omega
      have key:∀ (j:Nat) (cc:List AV) (o:Nat) (x:AV),((es.drop i).take n)[j]?=some cc->cc[o]?=some x->∃ u,cells[(i+j)*aU+o]?=some u/\x.flat=true/\VR fm [] x u:=by
       intro j cc o x hj ho
       have qK:es[i+j]?=some cc:=by
        rw[Ca]at hj
        split at hj
        ·rw[Cu]at hj;exact hj
        ·cases hj
       have af:i+j<es.length:=(gS.1 qK).1
       have cP:cc.length=aU:=c5 cc (A6 qK)
       have zO:o<aU:=by rw[<-cP];exact(gS.1 ho).1
       have aC:(i+j)*aU+o<cells.size:=by
        rw[c2]
        have:(i+j+1)*aU<=cap*aU:=B7 _ (by omega)
        rw[Nat.add_mul]at this
        omega
       have zi:=BV aC
       have:=c7 (i+j) cc o x _ qK ho zi
       exact⟨_,zi,this.1,this.2⟩
      have eK:=VR.sl (fm:=fm') (ts:=[]) ((es.drop i).take n) c (i*aU) aU cp (fun j o=>(cells[(i+j)*aU+o]?).getD default) (by rw[hl];exact⟨bU,by omega⟩)
       (fun cc cP=>c5 cc (Cj (BD cP)))
       (by
        intro j cc o x hj ho
        obtain⟨u,hu,_,_⟩:=key j cc o x hj ho
        refine bG c _ _ aop ?_
        simp only[World.cell?,c1]
        have:i*aU+(j*aU+o)=(i+j)*aU+o:=by rw[Nat.add_mul];omega
        rw[this,hu]
        simp)
       (fun j cc o x hj ho=>(key j cc o x hj ho).elim fun u hu=>hu.2.1)
       (by
        intro j cc o x hj ho
        obtain⟨u,hu,_,hv⟩:=key j cc o x hj ho
        rw[hu]
        exact hv.mono hF (AD.refl _))
      rw[hl]at eK
      exact eK
   ·cases e
  ·cases e
 |bP l k esz o n c cp a ht hn ha=>intro y e;simp[AV.ak]at e
 |bQ=>intro y e _;simp only[AV.ak,oE]at e;subst e;exact .bQ
 |ptr l k o c ht=>intro y e;simp[AV.ak]at e
 |eY l k esz i o g a ht=>intro y e;simp[AV.ak]at e
 |eZ l k esz i o g a m' c ht af=>intro y e;simp[AV.ak]at e
 |bz l k esz i o g c cap ht=>intro y e;simp[AV.ak]at e
 |aL es i o cb off esz u h1 h2 h3 h4 _=>
  intro y e _;simp only[AV.ak,oE]at e;subst e
  exact(VR.aL es i o cb off esz u h1 h2 h3 h4 (ts:=[])).mono hF (AD.refl _)
 |cg=>intro y e _;simp only[AV.ak,oE]at e;subst e;exact .cg
 |fn f first cap vf vc h1 h2 h3 h4 jL jM=>
  intro y e hr
  simp only[AV.ak]at e
  split at e
  ·rename_i a b ha hb
   simp only[oE]at e;subst e
   have g1:=mA H.get _ _ ha
   have g2:=mA H.get _ _ hb
   refine .fn f a b vf vc (by rw[g1.1];exact h1) (by rw[g2.1];exact h2) ?_ ?_
   ·intro i x v hx hv
    have af:i<first.length:=by rw[<-g1.1];exact(gS.1 hx).1
    obtain⟨y,hy,hu⟩:=g1.2 i _ (gG af)
    rw[hx]at hy;obtain rfl:=oi hy
    exact jL i _ v (gG af) hv h bG hu (fun p hp=>hr p (by simp only[AV.refs,A9];exact .inl (xM first i _ (gG af) p hp)))
   ·intro i x v hx hv
    have af:i<cap.length:=by rw[<-g2.1];exact(gS.1 hx).1
    obtain⟨y,hy,hu⟩:=g2.2 i _ (gG af)
    rw[hx]at hy;obtain rfl:=oi hy
    exact jM i _ v (gG af) hv h bG hu (fun p hp=>hr p (by simp only[AV.refs,A9];exact .inr (xM cap i _ (gG af) p hp)))
  ·cases e
 |cj=>intro y e _;simp only[AV.ak,oE]at e;subst e;exact .cj
 |cq t x v _ ih=>
  intro y e hr;simp only[AV.ak,mS]at e;obtain⟨z,hz,rfl⟩:=e
  exact .cq t z v (ih h bG hz (fun p hp=>hr p (by simp only[AV.refs];exact hp)))
 |agg cs vs h1 h2 _ ih=>
  intro y e hr;simp only[AV.ak,mS]at e;obtain⟨z,hz,rfl⟩:=e
  have g:=mA H.get _ _ hz
  refine .agg z vs (by rw[g.1];exact h1) ?_ ?_
  ·intro x hx
   obtain⟨i,hi⟩:=BH.1 hx
   have af:i<cs.length:=by rw[<-g.1];exact(gS.1 hi).1
   obtain⟨y,hy,hu⟩:=g.2 i _ (gG af)
   rw[hi]at hy;obtain rfl:=oi hy
   rw[abU hu]
   exact h2 _ (List.getElem_mem af)
  ·intro i x v hx hv
   have af:i<cs.length:=by rw[<-g.1];exact(gS.1 hx).1
   obtain⟨y,hy,hu⟩:=g.2 i _ (gG af)
   rw[hx]at hy;obtain rfl:=oi hy
   exact ih i _ v (gG af) hv h bG hu (fun p hp=>hr p (by simp only[AV.refs];exact xM cs i _ (gG af) p hp))
 |aw xs vs h1 _ ih=>
  intro y e hr;simp only[AV.ak,mS]at e;obtain⟨z,hz,rfl⟩:=e
  have g:=mA H.get _ _ hz
  refine .aw z vs (by rw[g.1];exact h1) ?_
  intro i x v hx hv
  have af:i<xs.length:=by rw[<-g.1];exact(gS.1 hx).1
  obtain⟨y,hy,hu⟩:=g.2 i _ (gG af)
  rw[hx]at hy;obtain rfl:=oi hy
  exact ih i _ v (gG af) hv h bG hu (fun p hp=>hr p (by simp only[AV.refs];exact xM xs i _ (gG af) p hp))
 |dead v=>intro y e;simp[AV.ak]at e
theorem HR.aQ (h:HR N0 W0 fm ts H w) (r:List (Nat×Nat)) {cs ys:List AV}{vs:List Value} (hv:AG fm ts cs vs) (e:AV.aQ H.get cs=some ys) (hr:∀ p∈AV.aT cs,p∈r):
  AG (jW fm w (behind ts H r)) [] ys vs:=by
 have g:=mA H.get _ _ e
 refine⟨g.1.trans hv.1,?_⟩
 intro i x v hx uW
 have af:i<cs.length:=by rw[<-g.1];exact(gS.1 hx).1
 obtain⟨y,hy,hu⟩:=g.2 i _ (gG af)
 rw[hx]at hy;obtain rfl:=oi hy
 exact h.ak r (hv.2 i _ v (gG af) uW) hu (fun p hp=>hr p (xM cs i _ (gG af) p hp))
end
def fM:TypeDesc->Bool
 |.struct _|.array _ _=>true
 |_=>false
def ajQ:Value->AV->Bool
 |.int k n,.int k' n'=>k==k'&&n==n'
 |.bool b,.bool b'=>b==b'
 |.string s,.str s'=>decide (s.data=s'.data)
 |.slice none 0 0,.nil=>true
 |.slice none 0 0,.sl _ []=>true
 |.pointer none,.bQ=>true
 |.nilFunc,.cg=>true
 |.nilIface,.cj=>true
 |_,_=>false
def xO:List Value->List AV->Bool
 |[],[]=>true
 |v::l,x::m=>ajQ v x&&xO l m
 |_,_=>false
def ac8 (P:Program) (t:TypeId) (z:List AV):Bool:=
 match P.info? t with
 |some i=>match i.zero with
  |some v=>xO v.cells.toList z
  |none=>false
 |none=>false
def elB (P:Program) (e:TypeId) (ti:TI):Bool:=
 match P.info? e with
 |some i=>i.size==ti.el&&i.bytes==ti.wi&&ac8 P e ti.fI&&(match P.underlying e with|some d=>fM d==ti.adI|none=>false)
 |none=>false
def pc (P:Program):List Field->List (Nat×Nat×Bool)->Bool
 |[],[]=>true
 |f::fs,(o,s,a)::l=>f.offset==o&&decide (0<s)&&(match P.info? f.type with|some i=>i.size==s|none=>false)&&(match P.underlying f.type with|some d=>fM d==a|none=>false)&&pc P fs l
 |_,_=>false
def tw (P:Program) (L:TypeId->Option (List AV)) (acc:List AV):List Field->Option (List AV)
 |[]=>some acc
 |x::xs=>match L x.type with
  | some l => if x.name ≠ "_" ∧ x.offset = acc.length ∧ (P.info? x.type).isSome = true ∧ P.cellsOf x.type = l.length then tw P L (acc ++ l) xs else none
  |none=>none
def rr (P:Program):Nat->TypeId->Option (List AV)
 |0,_=>none
 |f+1,t=>match P.underlying t with
  |some (.int k)=>some [.int k 0]
  |some .bool=>some [.bool false]
  |some .string=>some [.str ByteArray.empty]
  |some (.struct fs)=>if P.stoodInHeld t=false then tw P (rr P f) [] fs.toList else none
  |some (.array n e)=>match rr P f e with
   |some l=>if (P.info? e).isSome=true/\P.cellsOf e=l.length then some (List.replicate n l).flatten else none
   |none=>none
  |_=>none
def sameKind:AV->AV->Bool
 |.int _ _,.int _ _=>true
 |.bool _,.bool _=>true
 |.str _,.str _=>true
 |_,_=>false
def vp:List AV->List AV->Bool
 |[],[]=>true
 |x::l,y::m=>sameKind x y&&vp l m
 |_,_=>false
def nX (P:Program) (t:TypeId) (ti:TI):Bool:=
 (match P.info? t with|some i=>i.size==ti.size&&i.bytes==ti.bytes|none=>false)&&
 ac8 P t ti.zero&&ti.zero.all AV.flat&&(ti.fI.all AV.flat&&ti.fI.length==ti.el)&&decide (ti.sc.length<16)&&
 (!ti.pl || (!P.eqGuardType P.depth t&&(match rr P 20 t with|some l=>vp l ti.zero|none=>false)))&&
 (match ti.d,P.underlying t with
  |.int k,some (.int k')=>k==k'
  |.bool,some .bool=>true
  |.str,some .string=>true
  |.slice e,some (.slice e')=>e==e'&&elB P e ti
  |.array n e,some (.array n' e')=>n==n'&&e==e'&&elB P e ti
  |.struct,some (.struct fs)=>pc P fs.toList ti.fl
  |.ptr e,some (.pointer e')=>e==e'
  |.map k e,some (.map k' e')=>k==k'&&e==e'
  |.func,some (.func ..)=>true
  |.iface,some (.interface _)=>true
  |_,_=>false)
def AX (P:Program) (T:AR):Prop:=∀ t ti,T t=some ti->nX P t ti=true
theorem arV (P:Program) (l:List (Nat×TI)) (h:(l.all fun p=>nX P p.1 p.2)=true):AX P (look l):=by
 intro t ti ht
 have hm:∀ (l:List (Nat×TI)),look l t=some ti->(t,ti)∈l:=by
  intro l
  clear h ht
  induction l with
  |nil=>intro h;simp[look]at h
  |cons p l ih=>
   obtain⟨k,x⟩:=p
   intro h
   rw[look]at h
   split at h
   ·rename_i e;subst e;simp only[oE]at h;subst h;exact List.mem_cons_self
   ·exact List.mem_cons_of_mem _ (ih h)
 exact(List.all_eq_true.1 h) _ (hm l ht)
theorem ajR:∀ (vs:List Value) (xs:List AV),xO vs xs=true->∀ fm ts,AG fm ts xs vs
 |[],[],_,fm,ts=>⟨rfl,fun i x v h=>by simp at h⟩
 |[],_::_,h,_,_=>by simp[xO]at h
 |_::_,[],h,_,_=>by simp[xO]at h
 |v::l,x::m,h,fm,ts=>by
  simp only[xO,Bo]at h
  have ih:=ajR l m h.2 fm ts
  have hv:VR fm ts x v:=by
   have h1:=h.1
   unfold ajQ at h1
   split at h1
   ·simp only[Bo,beq_iff_eq]at h1;obtain⟨rfl,rfl⟩:=h1;exact .int _ _
   ·simp only[beq_iff_eq]at h1;subst h1;exact .bool _
   ·rename_i s s';have h2:s.data=s'.data:=of_decide_eq_true h1;have h3:s=s':=by cases s;cases s';simp_all
    subst h3;exact .str _
   ·exact .nil
   ·exact .dn _ _ _
   ·exact .bQ
   ·exact .cg
   ·exact .cj
   ·cases h1
  refine⟨by simp[ih.1],?_⟩
  intro i y u hy hu
  cases i with
  |zero=>simp only[Cl,oE]at hy hu;subst hy hu;exact hv
  |succ i=>simp only[Ci]at hy hu;exact ih.2 i y u hy hu
section
variable {P:Program}{T:AR}{t:TypeId}{ti:TI}
structure Jz (P:Program) (t:TypeId) (ti:TI):Prop where
 info:∃ i,P.info? t=some i/\i.size=ti.size/\i.bytes=ti.bytes/\∃ z,i.zero=some z/\∀ fm ts,AG fm ts ti.zero z.cells.toList
 alx:∀ x∈ti.zero,x.flat=true
 abM:∀ x∈ti.fI,x.flat=true
 fI:ti.fI.length=ti.el
 sc:ti.sc.length<16
 pl:ti.pl=true->P.eqGuardType P.depth t=false/\∃ l,rr P 20 t=some l/\vp l ti.zero=true
structure FL (P:Program) (e:TypeId) (ti:TI):Prop where
 info:∃ i,P.info? e=some i/\i.size=ti.el/\i.bytes=ti.wi/\∃ z,i.zero=some z/\∀ fm ts,AG fm ts ti.fI z.cells.toList
 agg:∃ d,P.underlying e=some d/\fM d=ti.adI
theorem alw {z:List AV} (h:ac8 P t z=true):∃ i v,P.info? t=some i/\i.zero=some v/\∀ fm ts,AG fm ts z v.cells.toList:=by
 unfold ac8 at h
 split at h
 ·rename_i i hi
  split at h
  ·rename_i v hv
   exact⟨i,v,hi,hv,ajR _ _ h⟩
  ·cases h
 ·cases h
theorem ag7 {e:TypeId} (h:elB P e ti=true):FL P e ti:=by
 unfold elB at h
 split at h
 ·rename_i i hi
  simp only[Bo,beq_iff_eq]at h
  obtain⟨⟨⟨h1,h2⟩,h3⟩,h4⟩:=h
  obtain⟨i',v,gW,hv,hz⟩:=alw h3
  rw[hi]at gW;obtain rfl:=oi gW
  refine⟨⟨i,hi,h1,h2,v,hv,hz⟩,?_⟩
  split at h4
  ·rename_i d hd;exact⟨d,hd,by simpa using h4⟩
  ·cases h4
 ·cases h
theorem AX.ok (hT:AX P T) (h:T t=some ti):Jz P t ti:=by
 have:=hT t ti h
 unfold nX at this
 simp only[Bo]at this
 obtain⟨⟨⟨⟨⟨⟨h1,h2⟩,h3⟩,h4⟩,h5⟩,h6⟩,_⟩:=this
 split at h1
 ·rename_i i hi
  simp only[Bo,beq_iff_eq]at h1
  obtain⟨i',v,gW,hv,hz⟩:=alw h2
  rw[hi]at gW;obtain rfl:=oi gW
  refine⟨⟨i,hi,h1.1,h1.2,v,hv,hz⟩,by simpa using h3,by simpa using h4.1,by simpa using h4.2,by simpa using h5,?_⟩
  intro hp
  rw[hp]at h6
  simp only[AO,Bool.false_or,Bo,Bool.not_eq_true']at h6
  refine⟨h6.1,?_⟩
  have h62:=h6.2
  split at h62
  ·rename_i l hl;exact⟨l,hl,h62⟩
  ·cases h62
 ·cases h1
theorem AX.int (hT:AX P T) (h:T t=some ti) {k:IntKind} (hd:ti.d=.int k):P.underlying t=some (.int k):=by
 have:=hT t ti h
 unfold nX at this
 simp only[Bo]at this
 have h7:=this.2
 rw[hd]at h7
 split at h7<;>simp_all
theorem AX.bool (hT:AX P T) (h:T t=some ti) (hd:ti.d=.bool):P.underlying t=some .bool:=by
 have:=hT t ti h
 unfold nX at this
 simp only[Bo]at this
 have h7:=this.2
 rw[hd]at h7
 split at h7<;>simp_all
theorem AX.str (hT:AX P T) (h:T t=some ti) (hd:ti.d=.str):P.underlying t=some .string:=by
 have:=hT t ti h
 unfold nX at this
 simp only[Bo]at this
 have h7:=this.2
 rw[hd]at h7
 split at h7<;>simp_all
theorem AX.slice (hT:AX P T) (h:T t=some ti) {e:TypeId} (hd:ti.d=.slice e):P.underlying t=some (.slice e)/\FL P e ti:=by
 have:=hT t ti h
 unfold nX at this
 simp only[Bo]at this
 have h7:=this.2
 rw[hd]at h7
 split at h7<;>simp_all
 obtain⟨rfl,h7⟩:=h7
 exact ag7 h7
theorem AX.array (hT:AX P T) (h:T t=some ti) {n:Nat}{e:TypeId} (hd:ti.d=.array n e):P.underlying t=some (.array n e)/\FL P e ti:=by
 have:=hT t ti h
 unfold nX at this
 simp only[Bo]at this
 have h7:=this.2
 rw[hd]at h7
 split at h7<;>simp_all
 obtain⟨⟨_,rfl⟩,h7⟩:=h7
 exact ag7 h7
theorem adS:∀ (fs:List Field) (l:List (Nat×Nat×Bool)),pc P fs l=true->∀ (i:Nat) (o s:Nat) (a:Bool),l[i]?=some (o,s,a)->
  ∃ f,fs[i]?=some f/\f.offset=o/\0<s/\(∃ inf,P.info? f.type=some inf/\inf.size=s)/\∃ d,P.underlying f.type=some d/\fM d=a
 |[],[],_,i,o,s,a,h=>by simp at h
 |[],_::_,h,_,_,_,_,_=>by simp[pc]at h
 |_::_,[],_,i,o,s,a,h=>by simp at h
 |f::fs,(o',s',a')::l,h,i,o,s,a,hi=>by
  simp only[pc,Bo,beq_iff_eq]at h
  obtain⟨⟨⟨⟨h1,h0⟩,h2⟩,h3⟩,h4⟩:=h
  cases i with
  |zero=>
   simp only[Cl,oE,Prod.mk.injEq]at hi
   obtain⟨rfl,rfl,rfl⟩:=hi
   refine⟨f,by simp,h1,of_decide_eq_true h0,?_,?_⟩
   ·split at h2
    ·rename_i inf bl;exact⟨inf,bl,by simpa using h2⟩
    ·cases h2
   ·split at h3
    ·rename_i d hd;exact⟨d,hd,by simpa using h3⟩
    ·cases h3
  |succ i=>simp only[Ci]at hi ⊢;exact adS fs l h4 i o s a hi
theorem AX.struct (hT:AX P T) (h:T t=some ti) (hd:ti.d=.struct):∃ fs,P.underlying t=some (.struct fs)/\pc P fs.toList ti.fl=true:=by
 have:=hT t ti h
 unfold nX at this
 simp only[Bo]at this
 have h7:=this.2
 rw[hd]at h7
 split at h7<;>simp_all
theorem AX.agg (hT:AX P T) (h:T t=some ti):∃ d,P.underlying t=some d/\fM d=ti.isAgg:=by
 have:=hT t ti h
 unfold nX at this
 simp only[Bo]at this
 have h7:=this.2
 unfold TI.isAgg
 split at h7<;>rename_i h1 h2<;>first|(exact⟨_,h2,by rw[h1];rfl⟩)|(cases h7)
end
theorem ajJ {P:Program}{t:TypeId}{d:TypeDesc} (h:P.underlying t=some d) (w:World):(isAgg t).run P w=.ok (fM d) w:=by
 simp only[isAgg,Sem.run_bind,run_underlying h,Result.andThen_ok]
 cases d<;>simp[fM]
mutual
theorem agN {fm:FM}{ts:List Aw}:∀ (v:Value) (x:AV),fX v=some x->VR fm ts x v
 |.bool b,x,h=>by simp only[fX,oE]at h;subst h;exact .bool b
 |.int k n,x,h=>by simp only[fX,oE]at h;subst h;exact .int k n
 |.string s,x,h=>by simp only[fX,oE]at h;subst h;exact .str s
 |.slice none 0 0,x,h=>by simp only[fX,oE]at h;subst h;exact .nil
 |.slice none 0 (_+1),x,h=>by simp[fX]at h
 |.slice none (_+1) _,x,h=>by simp[fX]at h
 |.slice (some _) _ _,x,h=>by simp[fX]at h
 |.pointer none,x,h=>by simp only[fX,oE]at h;subst h;exact .bQ
 |.pointer (some _),x,h=>by simp[fX]at h
 |.nilFunc,x,h=>by simp only[fX,oE]at h;subst h;exact .cg
 |.nilIface,x,h=>by simp only[fX,oE]at h;subst h;exact .cj
 |.agg ⟨cs⟩,x,h=>by
  simp only[fX]at h
  split at h
  ·rename_i l hl
   split at h
   ·rename_i hf
    simp only[oE]at h;subst h
    have:=agO (fm:=fm) (ts:=ts) cs l hl
    exact .agg l _ (by simpa using this.1) (by simpa using hf) (fun i x v hx hv=>this.2 i x v hx (by simpa using hv))
   ·cases h
  ·cases h
 |.float _ _,x,h=>by simp[fX]at h
 |.complex _ _ _,x,h=>by simp[fX]at h
 |.map _,x,h=>by simp[fX]at h
 |.chan _,x,h=>by simp[fX]at h
 |.func _ _ _,x,h=>by simp[fX]at h
 |.iface _ _,x,h=>by simp[fX]at h
 |.tuple _,x,h=>by simp[fX]at h
theorem agO {fm:FM}{ts:List Aw}:∀ (vs:List Value) (xs:List AV),wa vs=some xs->AG fm ts xs vs
 |[],xs,h=>by simp only[wa,oE]at h;subst h;exact⟨rfl,fun i x v h=>by simp at h⟩
 |v::l,xs,h=>by
  simp only[wa]at h
  split at h
  ·rename_i a b ha hb
   obtain rfl:=oi h
   have h1:=agN v a ha (fm:=fm) (ts:=ts)
   have ih:=agO l b hb (fm:=fm) (ts:=ts)
   refine⟨by simp[ih.1],?_⟩
   intro i y u hy hu
   cases i with
   |zero=>simp only[Cl,oE]at hy hu;subst hy hu;exact h1
   |succ i=>simp only[Ci]at hy hu;exact ih.2 i y u hy hu
  ·cases h
end
def C1 (fm:FM) (ts:List Aw) (tm:Tm) (a:Act):Prop:=∀ t x,tm t=some x->∃ v,a.tmps[t]?=some v/\VR fm ts x v
theorem xI {fm:FM}{ts:List Aw}{tm:Tm}{a:Act} (h:C1 fm ts tm a) {x:Operand}{y:AV} (hx:bu tm x=some y):VR fm ts y (a.eval x):=by
 cases x with
 |tmp t=>
  obtain⟨v,hv,hr⟩:=h t y hx
  have:a.eval (.tmp t)=v:=by
   simp only[Act.eval,Array.getD_eq_getD_getElem?,hv,Option.getD_some]
  rw[this]
  exact hr
 |const v=>exact agN v y hx
 |global g=>simp[bu]at hx
 |func f=>
  simp only[bu,oE]at hx;subst hx
  exact .fn _ [] [] #[] #[] rfl rfl (by intro i x v h;simp at h) (by intro i x v h;simp at h)
theorem aap {fm:FM}{ts:List Aw}{tm:Tm}{a:Act} (h:C1 fm ts tm a):∀ (l:List Operand) (ys:List AV),j8 tm l=some ys->AG fm ts ys (l.map a.eval)
 |[],ys,e=>by simp only[j8,oE]at e;subst e;exact⟨rfl,fun i x v h=>by simp at h⟩
 |x::l,ys,e=>by
  simp only[j8]at e
  split at e
  ·rename_i p q hp hq
   obtain rfl:=oi e
   have h1:=xI h hp
   have ih:=aap h l q hq
   refine⟨by simp[ih.1],?_⟩
   intro i y u hy hu
   cases i with
   |zero=>simp only[List.map_cons,Cl,oE]at hy hu;subst hy hu;exact h1
   |succ i=>simp only[List.map_cons,Ci]at hy hu;exact ih.2 i y u hy hu
  ·cases e
def IM (r:Result Next) (v:Value) (w':World):Prop:=r=.ok (.value v) w'\/(r=.ok .skip w'/\v=undef)
structure Out (N0:Nat) (W0:World) (fm:FM) (ts:List Aw) (H:Heap) (w:World) (kb:Nat) (r:Result Next) (d:De) (fm':FM) (ts':List Aw) (w':World) (v:Value):Prop where
 done:IM r v w'
 hr:HR N0 W0 fm' ts' (H.bV d.mW) w'
 val:VR fm' ts' d.val v
 fj:AU N0 fm fm'
 ke:AD ts ts'
 free:∀ l k,(l≠0\/k<kb\/kb+16<=k)->tb ts l k=none->tb ts' l k=none
def BW (N0:Nat) (W0:World) (fm:FM) (ts:List Aw) (H:Heap) (w:World) (kb:Nat) (r:Result Next) (d:De):Prop:=
 ∃ fm' ts' w' v,Out N0 W0 fm ts H w kb r d fm' ts' w' v
theorem BW.pure {N0:Nat}{W0:World}{fm:FM}{ts:List Aw}{H:Heap}{w:World}{kb:Nat}{r:Result Next}{x:AV}{v:Value}
  (h:HR N0 W0 fm ts H w) (hr:r=.ok (.value v) w) (hv:VR fm ts x v):BW N0 W0 fm ts H w kb r ⟨x,[]⟩:=
 ⟨fm,ts,w,v,.inl hr,h,hv,AU.refl _ _,AD.refl _,fun _ _ _ h=>h⟩
theorem eG {P:Program}{w w':World}{s:Sem Value}{v:Value} (hs:s.run P w=.ok v w'):
  ((do let x <-s;pure (Next.value x)):Sem Next).run P w=.ok (.value v) w':=by
 simp[hs]
theorem anZ {P:Program}{w w':World}{s:Sem Unit} (hs:s.run P w=.ok () w'):
  ((do s;pure Next.skip):Sem Next).run P w=.ok .skip w':=by
 simp[hs]
section
variable {P:Program}{T:AR}{N0:Nat}{W0:World}{fm:FM}{ts:List Aw}{H:Heap}{w:World}{tm:Tm}{a:Act}
theorem agf {r:Option AV}{d:De} (h:eu r=some d):∃ x,r=some x/\d=⟨x,[]⟩:=by
 unfold eu at h
 cases r with
 |none=>cases h
 |some x=>simp only[Be,oE]at h;exact⟨x,rfl,h.symm⟩
theorem aju {es:List (List AV)}{cf:Nat->Option Value}{esz i o size:Nat}{u:Nat->Nat->Value}{cs:List AV} (h1:dw es esz)
  (h2:∀ (i:Nat) (c:List AV) (o:Nat) (x:AV),es[i]?=some c->c[o]?=some x->cf (i*esz+o)=some (u i o))
  (h3:∀ (i:Nat) (c:List AV) (o:Nat) (x:AV),es[i]?=some c->c[o]?=some x->x.flat=true)
  (h4:∀ (i:Nat) (c:List AV) (o:Nat) (x:AV),es[i]?=some c->c[o]?=some x->VR fm [] x (u i o))
  (hs:aaw es i o size=some cs):
  ∃ vs:List Value,AG fm [] cs vs/\cs.length=size/\(∀ x∈cs,x.flat=true)/\∀ (j:Nat) (v:Value),vs[j]?=some v->cf (i*esz+o+j)=some v:=by
 unfold aaw at hs
 split at hs
 ·cases hs
 ·rename_i c hc
  split at hs
  ·rename_i hle
   simp only[oE]at hs;subst hs
   have eA:∀ j,((c.drop o).take size)[j]?=if j<size then c[o+j]? else none:=by
    intro j;rw[Ca];split
    ·rw[Cu]
    ·rfl
   refine⟨(List.range size).map fun j=>u i (o+j),⟨by simp;omega,?_⟩,by simp;omega,?_,?_⟩
   ·intro j x v hx hv
    rw[eA]at hx
    split at hx
    ·rename_i hj
     simp only[BX,List.getElem?_range hj,Be,oE]at hv
     subst hv
     exact h4 i c (o+j) x hc hx
    ·cases hx
   ·intro x hx
    obtain⟨j,hj⟩:=BH.1 hx
    rw[eA]at hj
    split at hj
    ·exact h3 i c (o+j) x hc hj
    ·cases hj
   ·intro j v hv
    have hj:j<size:=by have:=(gS.1 hv).1;simpa using this
    simp only[BX,List.getElem?_range hj,Be,oE]at hv
    subst hv
    have zO:o+j<c.length:=by omega
    have:=h2 i c (o+j) _ hc (gG zO)
    rw[<-this]
    congr 1
    omega
  ·split at hs
   ·rename_i hh
    obtain⟨rfl,fb,hle⟩:=hh
    simp only[oE]at hs;subst hs
    have aoC:esz=1:=by rw[<-h1 c (A6 hc)];exact fb
    subst aoC
    have key:∀ (l:List (List AV)),dw l 1->∀ (j:Nat),l.flatten[j]?=(l[j]?).bind (·[0]?):=by
     intro l
     induction l with
     |nil=>intro _ j;simp
     |cons y l ih=>
      intro hl j
      have hy:y.length=1:=hl y List.mem_cons_self
      obtain⟨z,rfl⟩:∃ z,y=[z]:=by
       cases y with
       |nil=>simp at hy
       |cons z r=>cases r with|nil=>exact⟨z,rfl⟩|cons=>simp at hy
      cases j with
      |zero=>simp
      |succ j=>simp;rw[ih (fun c hc=>hl c (List.mem_cons_of_mem _ hc))]
    have xp:dw ((es.drop i).take size) 1:=fun c hc=>h1 c (Cj (BD hc))
    have hlen:((es.drop i).take size).flatten.length=size:=by
     have:∀ l:List (List AV),dw l 1->l.flatten.length=l.length:=by
      intro l
      induction l with
      |nil=>intro _;rfl
      |cons y l ih=>intro hl;simp[hl y List.mem_cons_self,ih (fun c hc=>hl c (List.mem_cons_of_mem _ hc))];omega
     rw[this _ xp];simp;omega
    have eA:∀ j x,((es.drop i).take size).flatten[j]?=some x->j<size/\∃ cc,es[i+j]?=some cc/\cc[0]?=some x:=by
     intro j x hx
     have hj:j<size:=by rw[<-hlen];exact(gS.1 hx).1
     rw[key _ xp,Ca,if_pos hj,Cu]at hx
     cases cP:es[i+j]? with
     |none=>rw[cP]at hx;cases hx
     |some cc=>rw[cP]at hx;exact⟨hj,cc,rfl,hx⟩
    refine⟨(List.range size).map fun j=>u (i+j) 0,⟨by simp[hlen],?_⟩,hlen,?_,?_⟩
    ·intro j x v hx hv
     obtain⟨hj,cc,cP,ek⟩:=eA j x hx
     simp only[BX,List.getElem?_range hj,Be,oE]at hv
     subst hv
     exact h4 (i+j) cc 0 x cP ek
    ·intro x hx
     obtain⟨j,hj⟩:=BH.1 hx
     obtain⟨_,cc,cP,ek⟩:=eA j x hj
     exact h3 (i+j) cc 0 x cP ek
    ·intro j v hv
     have hj:j<size:=by have:=(gS.1 hv).1;simpa using this
     simp only[BX,List.getElem?_range hj,Be,oE]at hv
     subst hv
     have af:i+j<es.length:=by omega
     have cP:=gG af
     have cG:(es[i+j]).length=1:=h1 _ (List.getElem_mem af)
     have:=h2 (i+j) _ 0 _ cP (gG (by omega))
     rw[<-this]
     congr 1
     omega
   ·cases hs
theorem HR.jc (h:HR N0 W0 fm ts H w) {x:AV}{v:Value} (hv:VR fm ts x v) {size:Nat}{cs:List AV} (hs:jc H.get size x=some cs):
  ∃ (ad:Addr) (vs:List Value),v=.pointer (some ad)/\AG fm ts cs vs/\cs.length=size/\(∀ x∈cs,x.flat=true)/\∀ j u,vs[j]?=some u->w.cell? (ad.add j)=some u:=by
 cases hv with
 |ptr l k o c ht=>
  simp only[Go.Abs.jc]at hs
  split at hs
  ·rename_i yL hg
   split at hs
   ·rename_i hle
    simp only[oE]at hs;subst hs
    have hb:=h.aD l k _ hg
    rw[ht]at hb
    cases hb with
    |box c yL hN hB=>
     obtain⟨cells,et,c1,c2,c3⟩:=hB
     have eA:∀ j,(AV.dm l ((yL.drop o).take size))[j]?=if j<size then (yL[o+j]?).map (AV.sh l) else none:=by
      intro j;rw[nL,Ca];split
      ·rw[Cu]
      ·rfl
     refine⟨⟨c,o,none⟩,(List.range size).map fun j=>(cells[o+j]?).getD default,rfl,⟨by rw[nM];simp;omega,?_⟩,by rw[nM];simp;omega,?_,?_⟩
     ·intro j x v hx hv
      rw[eA]at hx
      split at hx
      ·rename_i hj
       simp only[BX,List.getElem?_range hj,Be,oE]at hv
       subst hv
       cases ek:yL[o+j]? with
       |none=>rw[ek]at hx;cases hx
       |some y=>
        rw[ek]at hx;simp only[Be,oE]at hx;subst hx
        have af:o+j<cells.size:=by omega
        rw[BV af]
        exact((c3 (o+j) y _ ek (BV af)).2).sh l rfl
      ·cases hx
     ·intro x hx
      obtain⟨j,hj⟩:=BH.1 hx
      rw[eA]at hj
      split at hj
      ·cases ek:yL[o+j]? with
       |none=>rw[ek]at hj;cases hj
       |some y=>
        rw[ek]at hj;simp only[Be,oE]at hj;subst hj
        have af:o+j<cells.size:=by have:=(gS.1 ek).1;omega
        rw[acJ]
        exact(c3 (o+j) y _ ek (BV af)).1
      ·cases hj
     ·intro j u hu
      have hj:j<size:=by have:=(gS.1 hu).1;simpa using this
      simp only[BX,List.getElem?_range hj,Be,oE]at hu
      subst hu
      have af:o+j<cells.size:=by omega
      rw[Addr.add_lit]
      simp only[World.cell?,c1,BV af]
      simp
   ·cases hs
  ·cases hs
 |eY l k esz i o g p ht=>
  simp only[Go.Abs.jc]at hs
  split at hs
  ·rename_i et aU es hg
   have:=h.aD l k _ hg
   rw[ht]at this
   cases this
  ·cases hs
 |eZ l k esz i o g p m' c ht af=>
  simp only[Go.Abs.jc]at hs
  split at hs
  ·rename_i et aU es hg
   have:=h.aD l k _ hg
   rw[ht]at this
   split at hs
   ·rename_i hh
    cases this with
    |nil et esz=>simp at hh;omega
    |arr et esz es c cap hN h=>omega
   ·cases hs
  ·cases hs
 |bz l k esz i o g c cap ht=>
  simp only[Go.Abs.jc]at hs
  split at hs
  ·rename_i et aU es hg
   split at hs
   ·rename_i hh
    obtain⟨he,hlen⟩:=hh
    subst he
    have hb:=h.aD l k _ hg
    rw[ht]at hb
    cases hb with
    |arr et _ es c cap hN hA=>
     obtain⟨cells,c1,c2,c3,c4,c5,c6,c7⟩:=hA
     have hb:∀ (i:Nat) (cc:List AV) (o:Nat) (x:AV),es[i]?=some cc->cc[o]?=some x->∃ u,cells[i*aU+o]?=some u/\x.flat=true/\VR fm [] x u:=by
      intro i cc o x hi ho
      have af:i<es.length:=(gS.1 hi).1
      have cP:cc.length=aU:=c5 cc (A6 hi)
      have zO:o<aU:=by rw[<-cP];exact(gS.1 ho).1
      have aC:i*aU+o<cells.size:=by
       rw[c2]
       have:(i+1)*aU<=cap*aU:=B7 _ (by omega)
       rw[Nat.add_mul]at this
       omega
      have:=c7 i cc o x _ hi ho (BV aC)
      exact⟨_,BV aC,this.1,this.2⟩
     obtain⟨vs,bq,aii,qJ,bG⟩:=aju (fm:=fm) (es:=es) (cf:=fun n=>cells[n]?) (esz:=aU) (i:=i) (o:=o) (size:=size) (u:=fun i o=>(cells[i*aU+o]?).getD default) (cs:=cs) c5
      (by
       intro i cc o x hi ho
       obtain⟨u,hu,_,_⟩:=hb i cc o x hi ho
       simp only[hu,Option.getD_some])
      (fun i cc o x hi ho=>(hb i cc o x hi ho).elim fun u hu=>hu.2.1)
      (by
       intro i cc o x hi ho
       obtain⟨u,hu,_,hv⟩:=hb i cc o x hi ho
       simp only[hu,Option.getD_some];exact hv)
      hs
     refine⟨⟨c,i*aU+o,none⟩,vs,rfl,⟨bq.1,fun j x v hx hv=>(bq.2 j x v hx hv).mono (Bh.refl _) (AD.nil _)⟩,aii,qJ,?_⟩
     intro j u hu
     rw[Addr.add_lit]
     simp only[World.cell?,c1]
     simpa using bG j u hu
   ·cases hs
  ·cases hs
 |aL es i o cb off esz u h1 h2 h3 h4=>
  simp only[Go.Abs.jc]at hs
  obtain⟨vs,bq,hlen,qJ,bG⟩:=aju (cf:=fun n=>fm cb (off+n)) h1 h2 h3 h4 hs
  refine⟨_,vs,rfl,⟨bq.1,fun j x v hx hv=>(bq.2 j x v hx hv).mono (Bh.refl _) (AD.nil _)⟩,hlen,qJ,?_⟩
  intro j u hu
  rw[Addr.add_lit,Nat.add_assoc]
  exact h.cV _ _ _ (bG j u hu)
 |_=>simp[Go.Abs.jc]at hs
end
section
variable {P:Program}{T:AR}{N0:Nat}{W0:World}{fm:FM}{ts:List Aw}{H:Heap}{w:World}{t:TypeId}{ti:TI}
theorem ade {agg:Bool}{cs:List AV}{vs:List Value}{y:AV} (h:rU agg cs=some y) (hv:AG fm ts cs vs) (hf:∀ x∈cs,x.flat=true):
  VR fm ts y (if agg then .agg vs.toArray else vs.headD undef)/\(agg=false->∃ v,vs=[v]):=by
 unfold rU at h
 cases agg with
 |true=>
  simp only[if_true,oE]at h;subst h
  refine⟨?_,fun h=>by cases h⟩
  simp only[if_true]
  exact .agg cs _ (by simp[hv.1]) hf (fun i x v a b=>hv.2 i x v a (by simpa using b))
 |false=>
  simp only[C4,if_false]at h
  split at h
  ·rename_i x
   simp only[oE]at h;subst h
   have hl:=hv.1
   cases vs with
   |nil=>simp at hl
   |cons v r=>
    cases r with
    |nil=>exact⟨by simpa using hv.2 0 x v rfl rfl,fun _=>⟨v,rfl⟩⟩
    |cons=>simp at hl
  ·cases h
theorem ag3 (hT:AX P T) (ht:T t=some ti) (h:HR N0 W0 fm ts H w) {x y:AV}{v:Value} (hv:VR fm ts x v) (e:o9 H.get ti x=some y):
  ∃ u,(Instr.loadAt t v).run P w=.ok u w/\VR fm ts y u:=by
 unfold o9 at e
 cases hc:jc H.get ti.size x with
 |none=>rw[hc]at e;cases e
 |some cs=>
  rw[hc]at e
  simp only[Ae]at e
  obtain⟨ad,vs,rfl,bq,hlen,qJ,bG⟩:=h.jc hv hc
  obtain⟨qW,sR⟩:=ade e bq qJ
  obtain⟨i,hi,aC,_,_⟩:=(hT.ok ht).info
  obtain⟨d,hd,pk⟩:=hT.agg ht
  refine⟨_,?_,qW⟩
  simp only[Instr.loadAt,Instr.sureAddr,loadVar,Sem.run_bind,Sem.run_pure,Result.andThen_ok,ajJ hd,pk]
  cases ha:ti.isAgg with
  |true=>
   simp only[if_true,Sem.run_bind,sizeOf,typeInfo,run_program,hi,Sem.run_pure,Result.andThen_ok]
   have:=run_loadCells_list (P:=P) w ad vs bG
   rw[<-bq.1,hlen,<-aC]at this
   rw[this]
   simp
  |false=>
   obtain⟨v,rfl⟩:=sR ha
   have:=bG 0 v rfl
   rw[Addr.add_zero']at this
   simp[run_load,this]
theorem lK {i:Int}{n j:Nat} (h:jt i n=some j):0<=i/\i<n/\i.toNat=j:=by
 unfold jt at h
 split at h
 ·rename_i hh;simp only[oE]at h;exact⟨hh.1,hh.2,h⟩
 ·cases h
theorem alU (hT:AX P T) (ht:T t=some ti) {x y:AV}{v:Value} (hv:VR fm ts x v) {f:Nat} (e:abj ti x f=some y):
  ∃ u,(Instr.fieldAt t v f).run P w=.ok u w/\VR fm ts y u:=by
 unfold abj at e
 split at e
 ·rename_i hd
  obtain⟨fs,hu,dG⟩:=hT.struct ht hd
  split at e
  ·rename_i off sz hf
   obtain⟨sz,agg⟩:=sz
   obtain⟨fd,hfd,zN,ab7,⟨inf,bl,aC⟩,_⟩:=adS _ _ dG f off sz agg hf
   have aei:fs[f]?=some fd:=by simpa using hfd
   have pA:inf.size≠0:=by omega
   have run:∀ a:Addr,(Instr.fieldAt t (.pointer (some a)) f).run P w=.ok (.pointer (some (a.add off))) w:=by
    intro a
    simp[Instr.fieldAt,run_underlying hu,aei,Instr.sureAddr,fieldPlace,zN,sizeOf,typeInfo,bl,pA]
   cases hv with
   |ptr l k o c h=>
    simp only[oE]at e;subst e
    exact⟨_,run _,by rw[Addr.add_lit];exact .ptr l k _ c h⟩
   |eY l k esz i o g a h=>
    simp only[oE]at e;subst e
    exact⟨_,run _,.eY l k esz i _ g _ h⟩
   |eZ l k esz i o g a m' c h af=>
    simp only[oE]at e;subst e
    exact⟨_,run _,.eZ l k esz i _ g _ m' c h af⟩
   |bz l k esz i o g c cap h=>
    simp only[oE]at e;subst e
    exact⟨_,run _,by rw[Addr.add_lit,Nat.add_assoc];exact .bz l k esz i _ g c cap h⟩
   |aL es i o cb off' esz u h1 h2 h3 h4=>
    simp only[oE]at e;subst e
    exact⟨_,run _,by rw[Addr.add_lit,Nat.add_assoc,Nat.add_assoc];exact .aL es i _ cb off' esz u h1 h2 h3 h4⟩
   |_=>simp at e
  ·cases e
 ·cases e
theorem AG.cut {cs:List AV}{vs:List Value} (h:AG fm ts cs vs) (o n:Nat):AG fm ts ((cs.drop o).take n) ((vs.drop o).take n):=by
 refine⟨by simp[h.1],?_⟩
 intro i x v hx hv
 rw[Ca]at hx hv
 split at hx
 ·rw[if_pos (by assumption)]at hv
  rw[Cu]at hx hv
  exact h.2 _ x v hx hv
 ·cases hx
theorem VR.lp {cs:List AV}{v:Value} (h:VR fm ts (.agg cs) v):∃ vs:Array Value,v=.agg vs/\AG fm ts cs vs.toList/\∀ x∈cs,x.flat=true:=by
 cases h with
 |agg cs vs h1 h2 h3=>exact⟨vs,rfl,⟨by simpa using h1,fun i x v a b=>h3 i x v a (by simpa using b)⟩,h2⟩
theorem ae2 {P:Program}{t:TypeId}{d:TypeDesc}{inf:TypeInfo}{w:World}{cs:Array Value}{o s:Nat} (hu:P.underlying t=some d) (hi:P.info? t=some inf) (hs:inf.size=s) (hle:o+s<=cs.size) (h1:fM d=false->s=1):
  (part t cs o).run P w=.ok (if fM d then .agg ((cs.toList.drop o).take s).toArray else (((cs.toList.drop o).take s).headD undef)) w:=by
 simp only[part,Sem.run_bind,ajJ hu,Result.andThen_ok]
 cases ha:fM d with
 |true=>
  have e:(cs.toList.drop o).take s=(cs.toList.drop o).take (o+s - o):=by congr 1;omega
  simp only[if_true,Sem.run_bind,sizeOf,typeInfo,run_program,hi,Sem.run_pure,Result.andThen_ok,hs]
  congr 2
  apply Array.ext'
  simp
 |false=>
  have:=h1 ha
  subst this
  have af:o<cs.size:=by omega
  have:(cs.toList.drop o).take 1=[cs[o]]:=by
   apply List.ext_getElem?
   intro j
   rw[Ca]
   cases j with
   |zero=>simp[af]
   |succ j=>simp
  simp[af,this]
theorem aga {agg:Bool}{cs:List AV}{y:AV} (h:rU agg cs=some y):agg=false->cs.length=1:=by
 intro ha
 subst ha
 unfold rU at h
 simp only[C4,if_false]at h
 split at h
 ·rfl
 ·cases h
theorem alV (hT:AX P T) (ht:T t=some ti) {x y:AV}{v:Value} (hv:VR fm ts x v) {f:Nat} (e:abi ti x f=some y):
  ∃ u,(Instr.field t v f).run P w=.ok u w/\VR fm ts y u:=by
 unfold abi at e
 split at e
 ·rename_i hd
  obtain⟨fs,hu,dG⟩:=hT.struct ht hd
  split at e
  ·rename_i cs
   split at e
   ·rename_i off sz agg hf
    split at e
    ·rename_i hle
     obtain⟨fd,hfd,zN,ab7,⟨inf,bl,aC⟩,⟨d,sL,pk⟩⟩:=adS _ _ dG f off sz agg hf
     have aei:fs[f]?=some fd:=by simpa using hfd
     obtain⟨vs,rfl,bq,qJ⟩:=hv.lp
     have xb:=bq.cut off sz
     obtain⟨qW,_⟩:=ade e xb (fun x hx=>qJ x (Cj (BD hx)))
     have hlen:=aga e
     have hp:=ae2 (P:=P) (w:=w) (cs:=vs) (o:=off) sL bl aC (by have:=bq.1;simp at this;omega) (by
      intro ha;rw[pk]at ha;have:=hlen ha;simp at this;omega)
     refine⟨_,?_,qW⟩
     simp only[Instr.field,Sem.run_bind,run_underlying hu,Result.andThen_ok,aei,asAgg,Sem.run_pure,zN,hp,pk]
    ·cases e
   ·cases e
  ·cases e
 ·cases e
theorem alW (hT:AX P T) (ht:T t=some ti) {x ix y:AV}{v vi:Value} (hv:VR fm ts x v) (hi:VR fm ts ix vi) (e:abl ti x ix=some y):
  ∃ u,(Instr.indexAt t v vi).run P w=.ok u w/\VR fm ts y u:=by
 unfold abl at e
 split at e
 ·rename_i k i
  cases hi
  split at e
  ·rename_i el hd
   obtain⟨hu,⟨inf,bl,aC,_,_⟩,_⟩:=hT.slice ht hd
   have run:∀ (p:Addr) (n cp:Nat),0<=i->i<n->(Instr.indexAt t (.slice (some p) n cp) (.int k i)).run P w=.ok (.pointer (some (p.add (i.toNat*ti.el)))) w:=by
    intro p n cp h0 h1
    simp[Instr.indexAt,asIntOf,run_underlying hu,sizeOf,typeInfo,bl,aC,h0,h1]
   cases hv with
   |dn e0 p cap=>
    simp only at e
    split at e
    ·simp only[mS]at e
     obtain⟨j,hj,_⟩:=e
     obtain⟨h0,h1,_⟩:=lK hj
     simp at h1;omega
    ·cases e
   |sl es cb off esz cap u dM h1 h2 h3 h4=>
    simp only at e
    split at e
    ·rename_i he
     simp only[mS]at e
     obtain⟨j,hj,rfl⟩:=e
     obtain⟨h0,af,rfl⟩:=lK hj
     refine⟨_,run _ _ _ h0 af,?_⟩
     rw[Addr.add_lit,<-he]
     exact .aL es i.toNat 0 cb off esz u h1 h2 h3 h4
    ·cases e
   |cW l kk esz b n g p cp h hn ha=>
    simp only at e
    split at e
    ·simp only[mS]at e
     obtain⟨j,hj,rfl⟩:=e
     obtain⟨h0,af,rfl⟩:=lK hj
     obtain⟨q,rfl⟩:=ha (by omega)
     exact⟨_,run _ _ _ h0 af,.eY l kk esz _ 0 g _ h⟩
    ·cases e
   |cX l kk esz b n g p cp m' c h jI hn ha=>
    simp only at e
    split at e
    ·simp only[mS]at e
     obtain⟨j,hj,rfl⟩:=e
     obtain⟨h0,af,rfl⟩:=lK hj
     obtain⟨q,rfl⟩:=ha (by omega)
     exact⟨_,run _ _ _ h0 af,.eZ l kk esz _ 0 g _ m' c h jI⟩
    ·cases e
   |cH l kk esz a0 h=>
    simp only at e
    split at e
    ·simp only[mS]at e
     obtain⟨j,hj,rfl⟩:=e
     obtain⟨h0,af,rfl⟩:=lK hj
     simp at af;omega
    ·cases e
   |loc l kk esz b n g c cap cp p h hn bU hc ha=>
    simp only at e
    split at e
    ·rename_i he
     simp only[mS]at e
     obtain⟨j,hj,rfl⟩:=e
     obtain⟨h0,af,rfl⟩:=lK hj
     have hp:=ha (.inl (by omega))
     subst hp
     refine⟨_,run _ _ _ h0 af,?_⟩
     rw[Addr.add_lit,<-he,<-Nat.add_mul]
     exact .bz l kk esz (b+i.toNat) 0 g c cap h
    ·cases e
   |bP l kk esz o n c cp p h hn ha=>
    simp only at e
    split at e
    ·rename_i he
     simp only[mS]at e
     obtain⟨j,hj,rfl⟩:=e
     obtain⟨h0,af,rfl⟩:=lK hj
     have hp:=ha (by omega)
     subst hp
     refine⟨_,run _ _ _ h0 af,?_⟩
     rw[Addr.add_lit,<-he]
     exact .ptr l kk _ c h
    ·cases e
   |_=>simp at e
  ·rename_i n el hd
   obtain⟨hu,⟨inf,bl,aC,_,_⟩,_⟩:=hT.array ht hd
   have run:∀ (p:Addr),0<=i->i<n->(Instr.indexAt t (.pointer (some p)) (.int k i)).run P w=.ok (.pointer (some (p.add (i.toNat*ti.el)))) w:=by
    intro p h0 h1
    simp[Instr.indexAt,asIntOf,run_underlying hu,sizeOf,typeInfo,bl,aC,h0,h1,Instr.sureAddr]
   cases hv with
   |ptr l kk o c h=>
    simp only[mS]at e
    obtain⟨j,hj,rfl⟩:=e
    obtain⟨h0,af,rfl⟩:=lK hj
    exact⟨_,run _ h0 af,by rw[Addr.add_lit];exact .ptr l kk _ c h⟩
   |eY l kk esz b o g p h=>
    simp only[mS]at e
    obtain⟨j,hj,rfl⟩:=e
    obtain⟨h0,af,rfl⟩:=lK hj
    exact⟨_,run _ h0 af,.eY l kk esz b _ g _ h⟩
   |eZ l kk esz b o g p m' c h jI=>
    simp only[mS]at e
    obtain⟨j,hj,rfl⟩:=e
    obtain⟨h0,af,rfl⟩:=lK hj
    exact⟨_,run _ h0 af,.eZ l kk esz b _ g _ m' c h jI⟩
   |bz l kk esz b o g c cap h=>
    simp only[mS]at e
    obtain⟨j,hj,rfl⟩:=e
    obtain⟨h0,af,rfl⟩:=lK hj
    exact⟨_,run _ h0 af,by rw[Addr.add_lit,Nat.add_assoc];exact .bz l kk esz b _ g c cap h⟩
   |aL es b o cb off esz u h1 h2 h3 h4=>
    simp only[mS]at e
    obtain⟨j,hj,rfl⟩:=e
    obtain⟨h0,af,rfl⟩:=lK hj
    exact⟨_,run _ h0 af,by rw[Addr.add_lit,Nat.add_assoc,Nat.add_assoc];exact .aL es b _ cb off esz u h1 h2 h3 h4⟩
   |_=>simp at e
  ·cases e
 ·cases e
end
section
variable {P:Program}{T:AR}{N0:Nat}{W0:World}{fm:FM}{ts:List Aw}{H:Heap}{w:World}{t:TypeId}{ti:TI}
theorem alX (hT:AX P T) (ht:T t=some ti) {x ix y:AV}{v vi:Value} (hv:VR fm ts x v) (hi:VR fm ts ix vi) (e:abk ti x ix=some y):
  ∃ u,(Instr.index t v vi).run P w=.ok u w/\VR fm ts y u:=by
 unfold abk at e
 split at e
 ·rename_i k i
  cases hi
  split at e
  ·rename_i n el hd
   obtain⟨hu,⟨inf,bl,aC,_,_⟩,d,sL,pk⟩:=hT.array ht hd
   split at e
   ·rename_i cs
    cases hj:jt i n with
    |none=>rw[hj]at e;cases e
    |some j=>
     rw[hj]at e
     simp only[Ae]at e
     obtain⟨h0,af,rfl⟩:=lK hj
     split at e
     ·rename_i hle
      obtain⟨vs,rfl,bq,qJ⟩:=hv.lp
      have xb:=bq.cut (i.toNat*ti.el) ti.el
      obtain⟨qW,_⟩:=ade e xb (fun x hx=>qJ x (Cj (BD hx)))
      have hlen:=aga e
      have hp:=ae2 (P:=P) (w:=w) (cs:=vs) (o:=i.toNat*ti.el) sL bl aC (by have:=bq.1;simp at this;omega) (by
       intro ha;rw[pk]at ha;have:=hlen ha;simp at this;omega)
      refine⟨_,?_,qW⟩
      simp only[Instr.index,Sem.run_bind,asIntOf,Sem.run_pure,run_underlying hu,Result.andThen_ok,h0,af,and_self,if_true,sizeOf,typeInfo,run_program,bl,aC,hp,pk]
     ·cases e
   ·cases e
  ·rename_i hd
   have hu:=hT.str ht hd
   split at e
   ·rename_i s
    cases hv
    simp only[mS]at e
    obtain⟨j,hj,rfl⟩:=e
    obtain⟨h0,af,rfl⟩:=lK hj
    have jI:i.toNat<s.data.size:=by have:s.size=s.data.size:=rfl;omega
    refine⟨.int .u8 (s.data[i.toNat]).toNat,?_,?_⟩
    ·have hg:s[i.toNat]?=some (s.data[i.toNat]):=by
      have zD:i.toNat<s.size:=jI
      rw[getElem?_pos s i.toNat zD];rfl
     simp[Instr.index,asIntOf,run_underlying hu,h0,hg]
    ·have:s.data.toList.getD i.toNat 0=s.data[i.toNat]:=by
      rw[List.getD_eq_getElem?_getD,Array.getElem?_toList,BV jI];rfl
     rw[this]
     exact .int _ _
   ·cases e
  ·cases e
 ·cases e
theorem amM {n h:Nat}{o:Option AV}{vo:Option Value} (ho:∀ x,o=some x->∃ v,vo=some v/\VR fm ts x v) (hn:o=none->vo=none) (e:sj n o=some h):
  h<=n/\((vo=none/\h=n)\/∃ k i,vo=some (.int k i)/\0<=i/\i.toNat=h/\i<=n):=by
 unfold sj at e
 split at e
 ·simp only[oE]at e;subst e;exact⟨AY _,.inl ⟨hn rfl,rfl⟩⟩
 ·rename_i k i
  split at e
  ·rename_i hh
   simp only[oE]at e;subst e
   obtain⟨v,rfl,hv⟩:=ho _ rfl
   cases hv
   exact⟨by omega,.inr ⟨k,i,rfl,hh.1,rfl,hh.2⟩⟩
  ·cases e
 ·cases e
theorem amN {h l:Nat}{o:Option AV}{vo:Option Value} (ho:∀ x,o=some x->∃ v,vo=some v/\VR fm ts x v) (hn:o=none->vo=none) (e:sm h o=some l):
  l<=h/\((vo=none/\l=0)\/∃ k i,vo=some (.int k i)/\0<=i/\i.toNat=l/\i<=h):=by
 unfold sm at e
 split at e
 ·simp only[oE]at e;subst e;exact⟨Nat.zero_le _,.inl ⟨hn rfl,rfl⟩⟩
 ·rename_i k i
  split at e
  ·rename_i hh
   simp only[oE]at e;subst e
   obtain⟨v,rfl,hv⟩:=ho _ rfl
   cases hv
   exact⟨by omega,.inr ⟨k,i,rfl,hh.1,rfl,hh.2⟩⟩
  ·cases e
 ·cases e
theorem adq {n l h:Nat}{lo hi:Option AV}{vlo tN:Option Value} (c:Nat) (isS:Bool) (bU:n<=c) (hl:∀ x,lo=some x->∃ v,vlo=some v/\VR fm ts x v) (zB:lo=none->vlo=none)
  (hh:∀ x,hi=some x->∃ v,tN=some v/\VR fm ts x v) (zx:hi=none->tN=none) (e:bounds n lo hi=some (l,h)):
  l<=h/\h<=n/\(Instr.sliceBounds isS n c vlo tN none).run P w=.ok (l,h,c) w:=by
 unfold bounds at e
 split at e
 ·rename_i h' sO
  split at e
  ·rename_i l' iM
   simp only[oE,Prod.mk.injEq]at e
   obtain⟨rfl,rfl⟩:=e
   obtain⟨a1,a2⟩:=amM hh zx sO
   obtain⟨b1,b2⟩:=amN hl zB iM
   refine⟨b1,a1,?_⟩
   rcases a2 with ⟨rfl,rfl⟩|⟨k,i,rfl,h0,rfl,h1⟩
   ·rcases b2 with ⟨rfl,rfl⟩|⟨k',i',rfl,zb,rfl,uA⟩
    ·simp[Instr.sliceBounds]
    ·simp[Instr.sliceBounds,Instr.sliceBound,asIntOf,zb,uA]
   ·have qD:i<=c:=by omega
    rcases b2 with ⟨rfl,rfl⟩|⟨k',i',rfl,zb,rfl,uA⟩
    ·simp[Instr.sliceBounds,Instr.sliceBound,asIntOf,h0,qD]
    ·have asN:i'<=i.toNat:=uA
     have e3:((i.toNat:Nat):Int)=i:=by omega
     have h2:i'<=i:=by omega
     simp[Instr.sliceBounds,Instr.sliceBound,asIntOf,h0,qD,zb,h2,e3]
  ·cases e
 ·cases e
theorem ama (hT:AX P T) (ht:T t=some ti) {x y:AV}{v:Value}{lo hi:Option AV}{vlo tN:Option Value} (hv:VR fm ts x v)
  (hl:∀ x,lo=some x->∃ v,vlo=some v/\VR fm ts x v) (zB:lo=none->vlo=none) (hh:∀ x,hi=some x->∃ v,tN=some v/\VR fm ts x v) (zx:hi=none->tN=none)
  (e:oR ti x lo hi=some y):∃ u,(Instr.sliceAt t v vlo tN none).run P w=.ok u w/\VR fm ts y u:=by
 unfold oR at e
 split at e
 ·rename_i el hd
  obtain⟨hu,⟨inf,bl,aC,_,_⟩,_⟩:=hT.slice ht hd
  have run:∀ (p:Option Addr) (n cp l h:Nat),n<=cp->bounds n lo hi=some (l,h)->l<=h/\h<=n/\
    (Instr.sliceAt t (.slice p n cp) vlo tN none).run P w=.ok (.slice (if cp=l then p else p.map (·.add (l*ti.el))) (h - l) (cp - l)) w:=by
   intro p n cp l h hn hb
   obtain⟨b1,b2,b3⟩:=adq (P:=P) (w:=w) (fm:=fm) (ts:=ts) cp true hn hl zB hh zx hb
   refine⟨b1,b2,?_⟩
   simp[Instr.sliceAt,run_underlying hu,Instr.slice,b3,sizeOf,typeInfo,bl,aC]
  split at e
  ·cases hv
   simp only[mS]at e
   obtain⟨⟨l,h⟩,hb,rfl⟩:=e
   obtain⟨b1,b2,b3⟩:=run none 0 0 l h (AY _) hb
   have lF:l=0:=by omega
   have ah:h=0:=by omega
   subst lF ah
   refine⟨_,b3,?_⟩
   simp
   exact .nil
  ·rename_i esz es
   split at e
   ·rename_i he
    simp only[mS]at e
    obtain⟨⟨l,h⟩,hb,rfl⟩:=e
    cases hv with
    |dn e0 p cap=>
     obtain⟨b1,b2,b3⟩:=run p 0 cap l h (Nat.zero_le _) hb
     refine⟨_,b3,?_⟩
     have ah:h - l=0:=by omega
     simp only[ah,List.take_zero,List.drop_nil]
     exact .dn _ _ _
    |sl es cb off esz cap u dM h1 h2 h3 h4=>
     ·obtain⟨b1,b2,b3⟩:=run (some ⟨cb,off,none⟩) es.length cap l h dM.1 hb
      refine⟨_,b3,?_⟩
      by_cases hhl:h - l=0
      ·simp only[hhl,List.take_zero]
       exact .dn _ _ _
      ·have cG:¬ cap=l:=by omega
       simp only[if_neg cG,Be,Addr.add_lit]
       have hlen:((es.drop l).take (h - l)).length=h - l:=by simp;omega
       have eA:∀ (i:Nat) c,((es.drop l).take (h - l))[i]?=some c->es[l+i]?=some c:=by
        intro i c hc
        rw[Ca]at hc
        split at hc
        ·rw[Cu]at hc;exact hc
        ·cases hc
       have:=VR.sl (fm:=fm) (ts:=ts) ((es.drop l).take (h - l)) cb (off+l*esz) esz (cap - l) (fun i o=>u (l+i) o) (by rw[hlen];have:=dM.2;omega)
        (fun c hc=>h1 c (Cj (BD hc)))
        (by
         intro i c o x hc ho
         have:=h2 (l+i) c o x (eA i c hc) ho
         rw[<-this];congr 1;rw[Nat.add_mul];omega)
        (fun i c o x hc ho=>h3 (l+i) c o x (eA i c hc) ho)
        (fun i c o x hc ho=>h4 (l+i) c o x (eA i c hc) ho)
       rw[hlen]at this
       rw[<-he]
       exact this
   ·cases e
  ·rename_i lv k esz i n g
   split at e
   ·rename_i he
    simp only[mS]at e
    obtain⟨⟨l,h⟩,hb,rfl⟩:=e
    cases hv with
    |cW _ _ _ _ _ _ p cp fD hn ha=>
     obtain⟨b1,b2,b3⟩:=run p n cp l h hn hb
     refine⟨_,b3,.cW lv k esz _ _ g _ _ fD (by omega) ?_⟩
     intro ab7
     obtain⟨q,rfl⟩:=ha (by omega)
     split
     ·exact⟨_,rfl⟩
     ·exact⟨_,rfl⟩
    |cX _ _ _ _ _ _ p cp m' c fD af hn ha=>
     obtain⟨b1,b2,b3⟩:=run p n cp l h hn hb
     refine⟨_,b3,.cX lv k esz _ _ g _ _ m' c fD af (by omega) ?_⟩
     intro ab7
     obtain⟨q,rfl⟩:=ha (by omega)
     split
     ·exact⟨_,rfl⟩
     ·exact⟨_,rfl⟩
    |cH _ _ _ a0 fD=>
     obtain⟨b1,b2,b3⟩:=run a0 0 0 l h (AY _) hb
     have lF:l=0:=by omega
     have ah:h=0:=by omega
     subst lF ah
     refine⟨_,b3,?_⟩
     simp
     exact .cH lv k esz _ fD
    |loc _ _ _ _ _ _ c cap cp p fD hn bU hc ha=>
     obtain⟨b1,b2,b3⟩:=run (some p) n cp l h bU hb
     by_cases cG:cp=l
     ·rw[if_pos cG]at b3
      refine⟨_,b3,.loc lv k esz (i+l) (h - l) g c cap (cp - l) p fD (by omega) (by omega) (by omega) ?_⟩
      intro hz
      rcases hz with hz|hz
      ·omega
      ·have xf:i=0:=by omega
       have lF:l=0:=by omega
       subst xf lF
       exact ha (.inr rfl)
     ·simp only[if_neg cG,Be]at b3
      have hp:=ha (.inl (by omega))
      subst hp
      refine⟨_,b3,?_⟩
      rw[Addr.add_lit,<-he,<-Nat.add_mul]
      exact .loc lv k esz (i+l) (h - l) g c cap (cp - l) _ fD (by omega) (by omega) (by omega) (fun _=>rfl)
   ·cases e
  ·cases e
 ·rename_i hd
  have hu:=hT.str ht hd
  split at e
  ·rename_i s
   cases hv
   simp only[mS]at e
   obtain⟨⟨l,h⟩,hb,rfl⟩:=e
   obtain⟨b1,b2,b3⟩:=adq (P:=P) (w:=w) (fm:=fm) (ts:=ts) s.size false (AY _) hl zB hh zx hb
   refine⟨_,?_,.str _⟩
   simp[Instr.sliceAt,run_underlying hu,Instr.slice,b3]
  ·cases e
 ·rename_i n el hd
  obtain⟨hu,⟨inf,bl,aC,_,_⟩,_⟩:=hT.array ht hd
  split at e
  ·rename_i lv k o
   simp only[mS]at e
   obtain⟨⟨l,h⟩,hb,rfl⟩:=e
   obtain⟨b1,b2,b3⟩:=adq (P:=P) (w:=w) (fm:=fm) (ts:=ts) n false (AY _) hl zB hh zx hb
   cases hv with
   |ptr _ _ _ c fD=>
    refine⟨.slice (some (if n=l then ⟨c,o,none⟩ else (⟨c,o,none⟩:Addr).add (l*ti.el))) (h - l) (n - l),?_,?_⟩
    ·simp[Instr.sliceAt,run_underlying hu,Instr.sureAddr,b3,sizeOf,typeInfo,bl,aC]
    ·refine .bP lv k ti.el _ (h - l) c (n - l) _ fD (by omega) ?_
     intro ba
     rw[if_neg (by omega),Addr.add_lit]
  ·cases e
 ·cases e
end
section
variable {P:Program}{T:AR}{N0:Nat}{W0:World}{fm:FM}{ts:List Aw}{H:Heap}{w:World}{t:TypeId}{ti:TI}
theorem anV (op:BinOp) (x y:Operand) {a b:Value} (h:∀ xs,a≠.agg xs) (h':a≠.nilIface):(eqGuard op t x y a b).run P w=.ok () w:=by
 cases op<;>cases a<;>cases b<;>simp_all [eqGuard]
theorem adi (x y:Int):(x==y)=decide (x=y):=by
 by_cases h:x=y<;>simp[h]
theorem alK {op:BinOp}{k k':IntKind}{x y:Int}{z:AV} (e:qe op (.int k x) (.int k' y)=some z):
  ∃ r,(binOp op t (.int k x) (.int k' y)).run P w=.ok r w/\VR fm ts z r:=by
 unfold qe at e
 simp only at e
 cases op
 case shl=>
  simp only at e
  split at e
  ·cases e
  ·rename_i hy
   simp only[oE]at e;subst e
   exact⟨.int k (k.wrap (x*2 ^ (min y.toNat k.bits))),by simp[binOp,Op.shift,hy],.int _ _⟩
 case shr=>
  simp only at e
  split at e
  ·cases e
  ·rename_i hy
   simp only[oE]at e;subst e
   exact⟨.int k (x.fdiv (2 ^ (min y.toNat k.bits))),by simp[binOp,Op.shift,hy],.int _ _⟩
 all_goals
  simp only at e
  split at e
  case isFalse=>cases e
 all_goals
  rename_i hk
  subst hk
 case add=>simp only[oE]at e;subst e;exact⟨.int k (k.wrap (x+y)),by simp[binOp,Op.intArith],.int _ _⟩
 case sub=>simp only[oE]at e;subst e;exact⟨.int k (k.wrap (x - y)),by simp[binOp,Op.intArith],.int _ _⟩
 case mul=>simp only[oE]at e;subst e;exact⟨.int k (k.wrap (x*y)),by simp[binOp,Op.intArith],.int _ _⟩
 case quo=>
  by_cases hy:y=0
  ·rw[if_pos hy]at e;cases e
  ·rw[if_neg hy]at e
   simp only[oE]at e;subst e
   exact⟨.int k (k.wrap (x.tdiv y)),by simp[binOp,Op.intDiv,hy],.int _ _⟩
 case rem=>
  by_cases hy:y=0
  ·rw[if_pos hy]at e;cases e
  ·rw[if_neg hy]at e
   simp only[oE]at e;subst e
   exact⟨.int k (x.tmod y),by simp[binOp,Op.intDiv,hy],.int _ _⟩
 case and=>simp only[oE]at e;subst e;exact⟨.int k (dV k x y),by unfold dV;simp only[binOp,Op.intBits];simp,.int _ _⟩
 case or=>simp only[oE]at e;subst e;exact⟨.int k (fT k x y),by unfold fT;simp only[binOp,Op.intBits];simp,.int _ _⟩
 case xor=>simp only[oE]at e;subst e;exact⟨.int k (adf k x y),by unfold adf;simp only[binOp,Op.intBits];simp,.int _ _⟩
 case eql=>simp only[oE]at e;subst e;exact⟨.bool (decide (x=y)),by simp[binOp,Op.intCmp,adi],.bool _⟩
 case neq=>simp only[oE]at e;subst e;exact⟨.bool (!decide (x=y)),by simp[binOp,Op.intCmp,bne,adi],.bool _⟩
 case lss=>simp only[oE]at e;subst e;exact⟨.bool (decide (x<y)),by simp[binOp,Op.intCmp],.bool _⟩
 case leq=>simp only[oE]at e;subst e;exact⟨.bool (decide (x<=y)),by simp[binOp,Op.intCmp],.bool _⟩
 case gtr=>simp only[oE]at e;subst e;exact⟨.bool (decide (y<x)),by simp[binOp,Op.intCmp],.bool _⟩
 case geq=>simp only[oE]at e;subst e;exact⟨.bool (decide (y<=x)),by simp[binOp,Op.intCmp],.bool _⟩
 all_goals cases e
theorem run_eql_bool (hu:P.underlying t=some .bool) (x y:Bool):(binOp .eql t (.bool x) (.bool y)).run P w=.ok (.bool (x==y)) w:=by
 simp only[binOp]
 simp[Op.equal,Op.maxDepth,run_equalIn_bool' w 9999 t x y hu]
theorem run_neq_bool (hu:P.underlying t=some .bool) (x y:Bool):(binOp .neq t (.bool x) (.bool y)).run P w=.ok (.bool (!(x==y))) w:=by
 simp only[binOp]
 simp[Op.equal,Op.maxDepth,run_equalIn_bool' w 9999 t x y hu]
theorem alL {op:BinOp}{x y z:AV}{v u:Value} (hd:∀ b,x=AV.bool b->P.underlying t=some .bool) (hv:VR fm ts x v) (hu:VR fm ts y u) (e:qe op x y=some z):
  ∃ r,(binOp op t v u).run P w=.ok r w/\VR fm ts z r/\(∀ xs,v≠.agg xs)/\v≠.nilIface:=by
 have e0:=e
 unfold qe at e
 split at e
 ·cases hv;cases hu
  obtain⟨r,h1,h2⟩:=alK (P:=P) (w:=w) (t:=t) (fm:=fm) (ts:=ts) e0
  exact⟨r,h1,h2,by simp,by simp⟩
 ·rename_i x y
  cases hv;cases hu
  have hb:=hd x rfl
  cases op
  case eql=>simp only[oE]at e;subst e;exact⟨_,run_eql_bool hb x y,.bool _,by simp,by simp⟩
  case neq=>simp only[oE]at e;subst e;exact⟨_,run_neq_bool hb x y,.bool _,by simp,by simp⟩
  all_goals simp at e
 ·rename_i x y
  cases hv;cases hu
  cases op
  case eql=>simp only[oE]at e;subst e;exact⟨.bool (x.toList==y.toList),by simp[binOp,Op.stringOp],.bool _,by simp,by simp⟩
  case neq=>simp only[oE]at e;subst e;exact⟨.bool (!(x.toList==y.toList)),by simp[binOp,Op.stringOp],.bool _,by simp,by simp⟩
  case add=>
   simp only at e
   split at e
   ·rename_i af
    simp only[oE]at e;subst e
    refine⟨.string (x++y),?_,.str _,by simp,by simp⟩
    have hm:¬ (IntKind.i64.max<((x.size+y.size:Nat):Int)):=by simp[IntKind.max,IntKind.signed,IntKind.bits];omega
    simp only[binOp,Op.stringOp]
    rw[if_neg hm]
    simp
   ·cases e
  all_goals simp at e
 ·cases e
theorem AG.append {a b:List AV}{u v:List Value} (h:AG fm ts a u) (k:AG fm ts b v):AG fm ts (a++b) (u++v):=by
 refine⟨by simp[h.1,k.1],?_⟩
 intro i x y hx hy
 rw[List.getElem?_append]at hx hy
 split at hx
 ·rw[if_pos (by rw[<-h.1];assumption)]at hy
  exact h.2 i x y hx hy
 ·rw[if_neg (by rw[<-h.1];assumption)]at hy
  rw[<-h.1]at hy
  exact k.2 _ x y hx hy
theorem adO:∀ (n:Nat) (z x y:List AV) (r:Bool),bL z x y=some r->∃ r1 r2,bL (z.take n) (x.take n) (y.take n)=some r1/\bL (z.drop n) (x.drop n) (y.drop n)=some r2/\r=(r1&&r2)
 |0,z,x,y,r,h=>⟨true,r,by simp[bL],by simpa using h,by simp⟩
 |n+1,[],[],[],r,h=>⟨true,r,by simp[bL],by simpa using h,by simp⟩
 |n+1,z::zs,x::xs,y::ys,r,h=>by
  simp only[bL]at h
  split at h
  ·rename_i p q hp hq
   simp only[oE]at h;subst h
   obtain⟨r1,r2,h1,h2,rfl⟩:=adO n zs xs ys q hq
   exact⟨p&&r1,r2,by simp[bL,hp,h1],by simpa using h2,by rw[Bool.and_assoc]⟩
  ·cases h
 |_+1,[],_::_,_,_,h=>by simp[bL]at h
 |_+1,[],[],_::_,_,h=>by simp[bL]at h
 |_+1,_::_,[],_,_,h=>by simp[bL]at h
 |_+1,_::_,_::_,[],_,h=>by simp[bL]at h
theorem yT:∀ (z x y:List AV) (r:Bool),bL z x y=some r->x.length=z.length/\y.length=z.length
 |[],[],[],_,_=>⟨rfl,rfl⟩
 |z::zs,x::xs,y::ys,r,h=>by
  simp only[bL]at h
  split at h
  ·rename_i p q hp hq
   have:=yT zs xs ys q hq
   simp[this.1,this.2]
  ·cases h
 |[],_::_,_,_,h=>by simp[bL]at h
 |[],[],_::_,_,h=>by simp[bL]at h
 |_::_,[],_,_,h=>by simp[bL]at h
 |_::_,_::_,[],_,h=>by simp[bL]at h
theorem ahd:∀ (z z' x y:List AV) (r:Bool),vp z z'=true->bL z' x y=some r->bL z x y=some r
 |[],[],x,y,r,_,h=>h
 |[],_::_,_,_,_,k,_=>by simp[vp]at k
 |_::_,[],_,_,_,k,_=>by simp[vp]at k
 |z::zs,z'::zs',x,y,r,k,h=>by
  cases x with
  |nil=>cases y<;>simp[bL]at h
  |cons x xs=>
   cases y with
   |nil=>simp[bL]at h
   |cons y ys=>
    simp only[bL]at h ⊢
    split at h
    ·rename_i p q hp hq
     simp only[vp,Bo]at k
     have ih:=ahd zs zs' xs ys q k.2 hq
     have h1:jT z x y=some p:=by
      have k1:=k.1
      unfold sameKind at k1
      split at k1
      ·cases x<;>cases y<;>first|(simp[jT]at hp;done)|simpa [jT] using hp
      ·cases x<;>cases y<;>first|(simp[jT]at hp;done)|simpa [jT] using hp
      ·cases x<;>cases y<;>first|(simp[jT]at hp;done)|simpa [jT] using hp
      ·cases k1
     rw[h1,ih]
     exact h
    ·cases h
def qg (agg:Bool) (vs:List Value):Value:=if agg then .agg vs.toArray else vs.headD undef
theorem ahU {P:Program}{f:Nat}:∀ (l:List Field) (acc zs:List AV),tw P (rr P f) acc l=some zs->acc <+: zs
 |[],acc,zs,h=>by simp only[tw,oE]at h;subst h;exact List.prefix_refl _
 |x::l,acc,zs,h=>by
  simp only[tw]at h
  split at h
  ·split at h
   ·exact(List.prefix_append _ _).trans (ahU l _ zs h)
   ·cases h
  ·cases h
theorem acx {P:Program}{w:World}{t:TypeId}{gz:TypeDesc}{inf:TypeInfo}{vs:List Value}{o n:Nat} (hu:P.underlying t=some gz) (hi:P.info? t=some inf) (hs:inf.size=n) (hle:o+n<=vs.length) (h1:fM gz=false->n=1):
  (part t vs.toArray o).run P w=.ok (qg (fM gz) ((vs.drop o).take n)) w:=by
 have:=ae2 (P:=P) (w:=w) (cs:=vs.toArray) (o:=o) hu hi hs (by simpa using hle) h1
 simpa [qg] using this
theorem ajj {P:Program}{w:World}:∀ (f:Nat) (t:TypeId) (zs:List AV),rr P f t=some zs->∃ gz,P.underlying t=some gz/\(fM gz=false->zs.length=1)/\
  ∀ (d:Nat),f<=d->∀ (xs ys:List AV) (vs us:List Value) (r:Bool),AG fm ts xs vs->AG fm ts ys us->bL zs xs ys=some r->
   (Op.equalIn d t (qg (fM gz) vs) (qg (fM gz) us)).run P w=.ok r w
 |0,t,zs,h=>by simp[rr]at h
 |f+1,t,zs,h=>by
  have IH:=ajj (P:=P) (w:=w) f
  unfold rr at h
  have leaf:∀ (gz:TypeDesc) (z:AV),P.underlying t=some gz->fM gz=false->zs=[z]->
    (∀ d x y v u r,VR fm ts x v->VR fm ts y u->jT z x y=some r->(Op.equalIn (d+1) t v u).run P w=.ok r w)->∃ gz,P.underlying t=some gz/\(fM gz=false->zs.length=1)/\
  ∀ (d:Nat),f+1<=d->∀ (xs ys:List AV) (vs us:List Value) (r:Bool),AG fm ts xs vs->AG fm ts ys us->bL zs xs ys=some r->
   (Op.equalIn d t (qg (fM gz) vs) (qg (fM gz) us)).run P w=.ok r w:=by
   intro gz z hu ha hz bm
   refine⟨gz,hu,fun _=>by rw[hz];rfl,?_⟩
   intro d hd xs ys vs us r hv sU he
   obtain⟨d,rfl⟩:∃ k,d=k+1:=⟨d - 1,by omega⟩
   have hl:=yT _ _ _ _ he
   subst hz
   cases xs with
   |nil=>simp at hl
   |cons x xs=>
    cases xs with
    |cons _ _=>simp at hl
    |nil=>
     cases ys with
     |nil=>simp at hl
     |cons y ys=>
      cases ys with
      |cons _ _=>simp at hl
      |nil=>
       simp only[bL]at he
       split at he
       ·rename_i p q hp hq
        have hq:true=q:=by simpa [bL] using hq
        subst hq
        simp only[Bool.and_true,oE]at he;subst he
        have h1:=hv.1
        have h2:=sU.1
        cases vs with
        |nil=>simp at h1
        |cons v vs=>
         cases us with
         |nil=>simp at h2
         |cons u us=>
          rw[ha]
          exact bm d x y v u p (hv.2 0 x v rfl rfl) (sU.2 0 y u rfl rfl) hp
       ·cases he
  split at h
  ·rename_i k hu
   simp only[oE]at h
   refine leaf _ _ hu rfl h.symm ?_
   intro d x y v u r hv hX e
   unfold jT at e
   split at e
   ·cases hv;cases hX
    split at e
    ·rename_i hk;subst hk
     simp only[oE]at e;subst e
     rw[run_equalIn_int w d t _ _ _ _ hu,adi]
    ·cases e
   ·rename_i heq;cases heq
   ·rename_i heq;cases heq
   ·cases e
  ·rename_i hu
   simp only[oE]at h
   refine leaf _ _ hu rfl h.symm ?_
   intro d x y v u r hv hX e
   unfold jT at e
   split at e
   ·rename_i heq;cases heq
   ·cases hv;cases hX
    simp only[oE]at e;subst e
    exact run_equalIn_bool' w d t _ _ hu
   ·rename_i heq;cases heq
   ·cases e
  ·rename_i hu
   simp only[oE]at h
   refine leaf _ _ hu rfl h.symm ?_
   intro d x y v u r hv hX e
   unfold jT at e
   split at e
   ·rename_i heq;cases heq
   ·rename_i heq;cases heq
   ·cases hv;cases hX
    simp only[oE]at e;subst e
    exact run_equalIn_string w d t _ _ hu
   ·cases e
  ·rename_i fs hu
   split at h
   ·rename_i gY
    refine⟨_,hu,fun h=>by simp[fM]at h,?_⟩
    intro d hd xs ys vs us r hv hX he
    obtain⟨d,rfl⟩:∃ k,d=k+1:=⟨d - 1,by omega⟩
    have hfo:P.fieldsOf t=fs:=by simp[Program.fieldsOf,hu]
    simp only[qg,fM,if_true]
    rw[run_equalIn_struct w d t _ _ (by rw[hfo];exact hu) gY,hfo]
    have loop:∀ (l:List Field) (acc zs:List AV),tw P (rr P f) acc l=some zs->∀ r,bL (zs.drop acc.length) (xs.drop acc.length) (ys.drop acc.length)=some r->xs.length=zs.length->ys.length=zs.length->
      (Op.eqFields d vs.toArray us.toArray l).run P w=.ok r w:=by
     intro l
     induction l with
     |nil=>
      intro acc zs hg r he fb jo
      simp only[tw,oE]at hg;subst hg
      simp only[List.drop_length]at he
      have e1:xs.drop acc.length=[]:=by simp[fb]
      have e2:ys.drop acc.length=[]:=by simp[jo]
      rw[e1,e2]at he
      simp only[bL,oE]at he;subst he
      simp[Op.eqFields]
     |cons x l ihl=>
      intro acc zs hg r he fb jo
      simp only[tw]at hg
      split at hg
      ·rename_i zl q9
       split at hg
       ·rename_i hc
        obtain⟨jJ,zN,bl,bG⟩:=hc
        obtain⟨inf,bl⟩:=Option.isSome_iff_exists.1 bl
        have aC:inf.size=zl.length:=by rw[<-bG];simp[Program.cellsOf,bl]
        obtain⟨gz,ny,sR,hIH⟩:=IH x.type zl q9
        obtain⟨rest,ab9⟩:=ahU l _ zs hg
        have hzd:zs.drop acc.length=zl++rest:=by rw[<-ab9,Cy];simp
        have hlen:zs.length=acc.length+zl.length+rest.length:=by rw[<-ab9];simp;omega
        obtain⟨r1,r2,h1,h2,rfl⟩:=adO zl.length _ _ _ _ he
        rw[hzd,List.take_left]at h1
        simp only[List.drop_drop]at h2
        have qQ:=acx (w:=w) (vs:=vs) (o:=acc.length) ny bl aC (by rw[<-hv.1];omega) sR
        have zP:=acx (w:=w) (vs:=us) (o:=acc.length) ny bl aC (by rw[<-hX.1];omega) sR
        have hq:=hIH d (by omega) _ _ _ _ r1 (hv.cut acc.length zl.length) (hX.cut acc.length zl.length) h1
        have hn:=ihl (acc++zl) zs hg r2 (by simpa using h2) fb jo
        simp only[Op.eqFields,if_pos jJ,Sem.run_bind,zN,qQ,zP,hq,Result.andThen_ok]
        cases r1 with
        |true=>simpa using hn
        |false=>simp
       ·cases hg
      ·cases hg
    exact loop fs.toList [] zs h r (by simpa using he) (yT _ _ _ _ he).1 (yT _ _ _ _ he).2
   ·cases h
  ·rename_i n e hu
   split at h
   ·rename_i zl q9
    split at h
    ·rename_i hc
     obtain⟨bl,bG⟩:=hc
     obtain⟨inf,bl⟩:=Option.isSome_iff_exists.1 bl
     have aC:inf.size=zl.length:=by rw[<-bG];simp[Program.cellsOf,bl]
     simp only[oE]at h;subst h
     obtain⟨gz,ny,sR,hIH⟩:=IH e zl q9
     refine⟨_,hu,fun h=>by simp[fM]at h,?_⟩
     intro d hd xs ys vs us r hv hX he
     obtain⟨d,rfl⟩:∃ k,d=k+1:=⟨d - 1,by omega⟩
     simp only[qg,fM,if_true]
     rw[run_equalIn_array w d _ _ hu bl,bG]
     have hl:=yT _ _ _ _ he
     have dG:∀ m,(List.replicate m zl).flatten.length=m*zl.length:=by intro m;simp
     have ah7:∀ m k,k<=m->(List.replicate m zl).flatten.drop (k*zl.length)=(List.replicate (m - k) zl).flatten:=by
      intro m k hk
      have:List.replicate m zl=List.replicate k zl++List.replicate (m - k) zl:=by rw[List.replicate_append_replicate];congr 1;omega
      rw[this,List.flatten_append,List.drop_left' (dG k)]
     have loop:∀ (m k:Nat),k+m=n->∀ r,bL ((List.replicate n zl).flatten.drop (k*zl.length)) (xs.drop (k*zl.length)) (ys.drop (k*zl.length))=some r->
       (Op.eqItems d e zl.length vs.toArray us.toArray (List.range' k m)).run P w=.ok r w:=by
      intro m
      induction m with
      |zero=>
       intro k hk r he
       have:k=n:=by omega
       subst this
       have e1:xs.drop (k*zl.length)=[]:=by rw[List.drop_eq_nil_iff,hl.1,dG];omega
       have e2:ys.drop (k*zl.length)=[]:=by rw[List.drop_eq_nil_iff,hl.2,dG];omega
       rw[ah7 k k (by omega),e1,e2]at he
       simp only[Nat.sub_self,List.replicate_zero,List.flatten_nil,bL,oE]at he;subst he
       simp[Op.eqItems]
      |succ m ihm=>
       intro k hk r he
       obtain⟨r1,r2,h1,h2,rfl⟩:=adO zl.length _ _ _ _ he
       have z8:((List.replicate n zl).flatten.drop (k*zl.length)).take zl.length=zl:=by
        rw[ah7 n k (by omega),show n - k=(n - k - 1)+1 from by omega,List.replicate_succ,CG,List.take_left]
       rw[z8]at h1
       simp only[List.drop_drop]at h2
       have eC:k*zl.length+zl.length=(k+1)*zl.length:=by rw[Nat.add_mul];omega
       rw[eC]at h2
       have hbound:k*zl.length+zl.length<=n*zl.length:=by rw[eC];exact B7 _ (by omega)
       have qQ:=acx (w:=w) (vs:=vs) (o:=k*zl.length) ny bl aC (by rw[<-hv.1,hl.1,dG];exact hbound) sR
       have zP:=acx (w:=w) (vs:=us) (o:=k*zl.length) ny bl aC (by rw[<-hX.1,hl.2,dG];exact hbound) sR
       have hq:=hIH d (by omega) _ _ _ _ r1 (hv.cut _ zl.length) (hX.cut _ zl.length) h1
       have hn:=ihm (k+1) (by omega) r2 h2
       simp only[List.range'_succ,Op.eqItems,Sem.run_bind,qQ,zP,hq,Result.andThen_ok]
       cases r1 with
       |true=>simpa using hn
       |false=>simp
     rw[List.range_eq_range']
     exact loop n 0 (by omega) r (by simpa using he)
    ·cases h
   ·cases h
  ·cases h
end
section
variable {P:Program}{T:AR}{N0:Nat}{W0:World}{fm:FM}{ts:List Aw}{H:Heap}{w:World}{t:TypeId}{ti:TI}
theorem alJ (hT:AX P T) (ht:T t=some ti) {op:BinOp}{x y z:AV}{v u:Value}{ox oy:Operand} (hv:VR fm ts x v) (hu:VR fm ts y u) (e:abg ti op x y=some z):
  ∃ r,(do eqGuard op t ox oy v u;binOp op t v u:Sem Value).run P w=.ok r w/\VR fm ts z r:=by
 have plain:∀ (hd:∀ b,x=AV.bool b->P.underlying t=some .bool) (e:qe op x y=some z),∃ r,(do eqGuard op t ox oy v u;binOp op t v u:Sem Value).run P w=.ok r w/\VR fm ts z r:=by
  intro hd e
  obtain⟨r,h1,h2,h3,h4⟩:=alL (P:=P) (w:=w) hd hv hu e
  refine⟨r,?_,h2⟩
  have:=anV (P:=P) (w:=w) (t:=t) op ox oy (a:=v) (b:=u) h3 h4
  simp[this,h1]
 unfold abg at e
 split at e
 ·rename_i xs ys
  split at e
  ·rename_i hp
   obtain⟨vs,rfl,bq,hf⟩:=hv.lp
   obtain⟨us,rfl,lI,zq⟩:=hu.lp
   obtain⟨hg,l,hl,hk⟩:=(hT.ok ht).pl hp.1
   obtain⟨gz,hdu,sR,bm⟩:=ajj (P:=P) (w:=w) (fm:=fm) (ts:=ts) 20 t l hl
   have pk:∀ r,bL ti.zero xs ys=some r->(Op.equalIn 10000 t (.agg vs) (.agg us)).run P w=.ok r w:=by
    intro r he
    have h2:=ahd l ti.zero xs ys r hk he
    have:=bm 10000 (by decide) xs ys vs.toList us.toList r bq lI h2
    cases ha:fM gz with
    |true=>rw[ha]at this;simpa [qg] using this
    |false=>
     obtain⟨d',hd',gB⟩:=hT.agg ht
     rw[hdu]at hd';obtain rfl:=oi hd'
     rw[ha,hp.2]at gB;cases gB
   have hgd:=run_eqGuard_agg (P:=P) w op t ox oy vs us hg
   cases op
   case eql=>
    simp only[mS]at e
    obtain⟨r,hr,rfl⟩:=e
    refine⟨.bool r,?_,.bool r⟩
    simp[hgd,run_eql_struct,pk r hr]
   case neq=>
    simp only[mS]at e
    obtain⟨r,hr,rfl⟩:=e
    refine⟨.bool !r,?_,.bool _⟩
    simp[hgd,run_neq_struct,pk r hr]
   all_goals cases e
  ·cases e
 ·rename_i x y
  split at e
  ·rename_i hd
   exact plain (fun _ _=>hT.bool ht hd) e
  ·cases e
 ·rename_i aoU aeq
  refine plain (fun b hb=>?_) e
  subst hb
  cases y with
  |bool c=>exact absurd rfl (aeq b c rfl)
  |_=>simp[qe]at e
theorem flat_get (sz:Nat):∀ (es:List (List AV)),dw es sz->∀ j,es.flatten[j]?=(es[j / sz]?).bind fun c=>c[j % sz]?
 |[],_,j=>by simp
 |c::es,h,j=>by
  have hc:c.length=sz:=h c List.mem_cons_self
  have ih:=flat_get sz es (fun d hd=>h d (List.mem_cons_of_mem _ hd))
  simp only[CG]
  by_cases h0:sz=0
  ·subst h0
   have:c=[]:=List.eq_nil_of_length_eq_zero hc
   subst this
   have hi:=ih j
   simp only[Ce,hi,Nat.div_zero,Nat.mod_zero,Cl,Ae,List.getElem?_nil]
   cases h1:es[0]? with
   |none=>rfl
   |some d=>
    have:d.length=0:=h d (List.mem_cons_of_mem _ (A6 h1))
    have:d=[]:=List.eq_nil_of_length_eq_zero this
    subst this;simp
  ·have hp:0<sz:=Nat.pos_of_ne_zero h0
   by_cases hj:j<sz
   ·rw[CL (by omega),Nat.div_eq_of_lt hj,Nat.mod_eq_of_lt hj];simp
   ·rw[CX (by omega),hc,ih (j - sz)]
    have h1:j / sz=(j - sz) / sz+1:=by
     rw[<-Nat.sub_add_cancel (Nat.le_of_not_lt hj),Nat.add_div_right _ hp];simp
    have h2:j % sz=(j - sz) % sz:=by
     rw[Nat.mod_eq_sub_mod (Nat.le_of_not_lt hj)]
    rw[h1,h2];simp
theorem kH (sz:Nat):∀ (es:List (List AV)),dw es sz->es.flatten.length=es.length*sz
 |[],_=>by simp
 |c::es,h=>by
  have hc:c.length=sz:=h c List.mem_cons_self
  have ih:=kH sz es (fun d hd=>h d (List.mem_cons_of_mem _ hd))
  simp only[CG,A1,ih,hc,AA,Nat.add_mul];omega
mutual
theorem adY (G:AW):∀ (x y:AV),x.ak (fun _ _=>none)=some y->x.ak G=some y
 |.loc l k e i n g,y,h=>by simp[AV.ak]at h
 |.nil,y,h=>by simpa [AV.ak] using h
 |.cq t v,y,h=>by
  simp only[AV.ak,mS]at h ⊢
  obtain⟨a,h1,h2⟩:=h
  exact⟨a,adY G v a h1,h2⟩
 |.agg cs,y,h=>by
  simp only[AV.ak,mS]at h ⊢
  obtain⟨a,h1,h2⟩:=h
  exact⟨a,wx G cs a h1,h2⟩
 |.aw vs,y,h=>by
  simp only[AV.ak,mS]at h ⊢
  obtain⟨a,h1,h2⟩:=h
  exact⟨a,wx G vs a h1,h2⟩
 |.bool b,y,h=>by simpa [AV.ak] using h
 |.int k n,y,h=>by simpa [AV.ak] using h
 |.str s,y,h=>by simpa [AV.ak] using h
 |.sl e es,y,h=>by simpa [AV.ak] using h
 |.bQ,y,h=>by simpa [AV.ak] using h
 |.cg,y,h=>by simpa [AV.ak] using h
 |.cj,y,h=>by simpa [AV.ak] using h
 |.fn f a b,y,h=>by
  simp only[AV.ak]at h ⊢
  split at h
  ·rename_i x z hx hz
   obtain rfl:=oi h
   simp only[wx G a x hx,wx G b z hz]
  ·cases h
 |.bP ..,y,h=>by simp[AV.ak]at h
 |.ptr ..,y,h=>by simp[AV.ak]at h
 |.bz ..,y,h=>by simp[AV.ak]at h
 |.aL ..,y,h=>by simpa [AV.ak] using h
 |.dead,y,h=>by simp[AV.ak]at h
theorem wx (G:AW):∀ (l ys:List AV),AV.aQ (fun _ _=>none) l=some ys->AV.aQ G l=some ys
 |[],ys,h=>by simpa [AV.aQ] using h
 |x::l,ys,h=>by
  simp only[AV.aQ]at h
  split at h
  ·rename_i a b ha hb
   obtain rfl:=oi h
   simp only[AV.aQ,adY G x a ha,wx G l b hb]
  ·cases h
end
mutual
theorem adZ:∀ (x y:AV),x.ak (fun _ _=>none)=some y->x.refs=[]
 |.loc l k e i n g,y,h=>by simp[AV.ak]at h
 |.nil,y,h=>rfl
 |.cq t v,y,h=>by
  simp only[AV.ak,mS]at h
  obtain⟨a,h1,h2⟩:=h
  simp only[AV.refs];exact adZ v a h1
 |.agg cs,y,h=>by
  simp only[AV.ak,mS]at h
  obtain⟨a,h1,h2⟩:=h
  simp only[AV.refs];exact wy cs a h1
 |.aw vs,y,h=>by
  simp only[AV.ak,mS]at h
  obtain⟨a,h1,h2⟩:=h
  simp only[AV.refs];exact wy vs a h1
 |.bool b,y,h=>rfl
 |.int k n,y,h=>rfl
 |.str s,y,h=>rfl
 |.sl e es,y,h=>rfl
 |.bQ,y,h=>rfl
 |.cg,y,h=>rfl
 |.cj,y,h=>rfl
 |.fn f a b,y,h=>by
  simp only[AV.ak]at h
  split at h
  ·rename_i x z hx hz
   simp only[AV.refs,wy a x hx,wy b z hz,List.append_nil]
  ·cases h
 |.bP ..,y,h=>rfl
 |.ptr ..,y,h=>rfl
 |.bz ..,y,h=>rfl
 |.aL ..,y,h=>rfl
 |.dead,y,h=>rfl
theorem wy:∀ (l ys:List AV),AV.aQ (fun _ _=>none) l=some ys->AV.aT l=[]
 |[],ys,h=>rfl
 |x::l,ys,h=>by
  simp only[AV.aQ]at h
  split at h
  ·rename_i a b ha hb
   simp only[AV.aT,adZ x a ha,wy l b hb,List.append_nil]
  ·cases h
end
theorem abT (fm:FM) (w:World):jW fm w (behind ts H [])=fm:=by
 funext b o
 unfold jW
 rw[if_neg]
 rintro⟨l,k,b,h,_⟩
 cases h
theorem HR.vP (h:HR N0 W0 fm ts H w) {cs ys:List AV}{vs:List Value} (hv:AG fm ts cs vs) (e:AV.aQ (fun _ _=>none) cs=some ys):AG fm [] ys vs:=by
 have:=h.aQ [] hv (wx H.get cs ys e) (by rw[wy cs ys e];simp)
 rwa [abT]at this
theorem BR.gr {N0:Nat}{g:Nat}{c:Option (Nat×Nat)}{et esz:Nat}{es:List (List AV)} (h:BR fm ts w N0 (some (.arr g c)) (.arr et esz es)):
  es.length=g/\(c=none->es=[])/\∀ b cap,c=some (b,cap)->Dl fm w et esz es b cap/\N0<=b:=by
 generalize gC:(some (TB.arr g c))=tt at h
 generalize hbb:AJ.arr et esz es=bb at h
 cases h with
 |box=>cases gC
 |nil qz aU=>
  simp only[oE,TB.arr.injEq]at gC
  obtain⟨rfl,rfl⟩:=gC
  simp only[AJ.arr.injEq]at hbb
  obtain⟨rfl,rfl,rfl⟩:=hbb
  exact⟨rfl,fun _=>rfl,fun b cap h=>by cases h⟩
 |arr qz aU es' c' amZ hN hA=>
  simp only[oE,TB.arr.injEq]at gC
  obtain⟨rfl,rfl⟩:=gC
  simp only[AJ.arr.injEq]at hbb
  obtain⟨rfl,rfl,rfl⟩:=hbb
  refine⟨rfl,⟨(by intro h;cases h),?_⟩⟩
  intro b cap h
  simp only[oE,Prod.mk.injEq]at h
  obtain⟨rfl,rfl⟩:=h
  exact⟨hA,hN⟩
theorem HR.elems (h:HR N0 W0 fm ts H w) {x:AV}{v:Value}{sz:Nat}{es:List (List AV)} (hv:VR fm ts x v) (e:jf H.get sz x=some es):
  ∃ a cp us,v=.slice a es.length cp/\dw es sz/\AG fm [] es.flatten us/\(∀ x∈es.flatten,x.flat=true)/\∀ j u,us[j]?=some u->∃ ad,a=some ad/\w.cell? (ad.add j)=some u:=by
 have fin:∀ (a:Option Addr) (cp:Nat) (u:Nat->Nat->Value),v=.slice a es.length cp->dw es sz->
   (∀ i c o x,es[i]?=some c->c[o]?=some x->∃ ad,a=some ad/\w.cell? (ad.add (i*sz+o))=some (u i o)/\x.flat=true/\VR fm [] x (u i o))->
   ∃ a cp us,v=.slice a es.length cp/\dw es sz/\AG fm [] es.flatten us/\(∀ x∈es.flatten,x.flat=true)/\∀ j u,us[j]?=some u->∃ ad,a=some ad/\w.cell? (ad.add j)=some u:=by
  intro a cp u hv ho hc
  have hlen:=kH sz es ho
  have iI:∀ j x,es.flatten[j]?=some x->∃ c,es[j / sz]?=some c/\c[j % sz]?=some x/\j / sz*sz+j % sz=j:=by
   intro j x hx
   rw[flat_get sz es ho,Option.bind_eq_some_iff]at hx
   obtain⟨c,h1,h2⟩:=hx
   exact⟨c,h1,h2,by rw[Nat.mul_comm];exact Nat.div_add_mod j sz⟩
  refine⟨a,cp,(List.range (es.length*sz)).map fun j=>u (j / sz) (j % sz),hv,ho,⟨by simp[hlen],?_⟩,?_,?_⟩
  ·intro j x v hx hv
   have hj:j<es.length*sz:=by rw[<-hlen];exact(gS.1 hx).1
   simp only[BX,List.getElem?_range hj,Be,oE]at hv
   subst hv
   obtain⟨c,h1,h2,_⟩:=iI j x hx
   obtain⟨_,_,_,_,h3⟩:=hc _ _ _ _ h1 h2
   exact h3
  ·intro x hx
   obtain⟨j,hj⟩:=BH.1 hx
   obtain⟨c,h1,h2,_⟩:=iI j x hj
   obtain⟨_,_,_,h3,_⟩:=hc _ _ _ _ h1 h2
   exact h3
  ·intro j v hv
   have hj:j<es.length*sz:=by have:=(gS.1 hv).1;simpa using this
   simp only[BX,List.getElem?_range hj,Be,oE]at hv
   subst hv
   have af:j<es.flatten.length:=by omega
   obtain⟨c,h1,h2,h4⟩:=iI j _ (gG af)
   obtain⟨ad,h5,h6,_,_⟩:=hc _ _ _ _ h1 h2
   rw[h4]at h6
   exact⟨ad,h5,h6⟩
 unfold jf at e
 split at e
 ·obtain rfl:=oi e
  cases hv
  exact fin none 0 (fun _ _=>undef) rfl (by intro c hc;cases hc) (by intro i c o x hi;simp at hi)
 ·rename_i esz yU
  split at e
  ·rename_i he
   subst he
   obtain rfl:=oi e
   cases hv with
   |dn _ a cap=>exact fin a cap (fun _ _=>undef) rfl (by intro c hc;cases hc) (by intro i c o x hi;simp at hi)
   |sl _ cb off _ cap u dM h1 h2 h3 h4=>
    refine fin (some ⟨cb,off,none⟩) cap u rfl h1 ?_
    intro i c o x a b
    refine⟨_,rfl,?_,h3 i c o x a b,h4 i c o x a b⟩
    rw[Addr.add_lit]
    exact h.cV _ _ _ (h2 i c o x a b)
  ·cases e
 ·rename_i l k esz i n g
  split at e
  ·rename_i et aU yU hg
   split at e
   ·rename_i hh
    obtain⟨rfl,rfl,kM,bT⟩:=hh
    obtain rfl:=oi e
    have hb:=h.aD l k _ hg
    cases hv with
    |cW _ _ _ _ _ _ a cp ht=>rw[ht]at hb;cases hb
    |cX _ _ _ _ _ _ a cp m' c ht af=>
     rw[ht]at hb
     have:=hb.gr.1
     omega
    |cH _ _ _ a0 ht=>
     rw[ht]at hb
     have:=hb.gr.2.1 rfl
     subst this
     exact fin a0 0 (fun _ _=>undef) (by simp) (by intro c hc;simp at hc) (by intro i c o x hi;simp at hi)
    |loc _ _ _ _ _ _ c cap cp a ht hn bU hc ha=>
      rw[ht]at hb
      obtain⟨hA,hN⟩:=hb.gr.2.2 c cap rfl
      obtain⟨cells,c1,c2,c3,c4,c5,c6,c7⟩:=hA
      have eA:∀ j,((yU.drop i).take n)[j]?=if j<n then yU[i+j]? else none:=by
       intro j;rw[Ca];split
       ·rw[Cu]
       ·rfl
      have hl:((yU.drop i).take n).length=n:=by simp;omega
      refine fin (some a) cp (fun j o=>(cells[(i+j)*aU+o]?).getD default) (by rw[hl]) (fun d hd=>c5 d (Cj (BD hd))) ?_
      intro j cc o x hj hx
      rw[eA]at hj
      split at hj
      ·rename_i hjn
       have cG:cc.length=aU:=c5 cc (A6 hj)
       have ho:o<aU:=by rw[<-cG];exact(gS.1 hx).1
       have hi:i+j<yU.length:=(gS.1 hj).1
       have af:(i+j)*aU+o<cells.size:=by
        rw[c2]
        have:(i+j+1)*aU<=cap*aU:=B7 _ (by omega)
        rw[Nat.add_mul,Nat.one_mul]at this;omega
       have hv:=BV af
       have:=c7 (i+j) cc o x _ hj hx hv
       refine⟨a,rfl,?_,?_⟩
       ·rw[ha (.inl (by omega)),Addr.add_lit]
        simp only[World.cell?,c1,hv]
        have e2:i*aU+(j*aU+o)=(i+j)*aU+o:=by rw[Nat.add_mul];omega
        rw[e2,hv];simp
       ·rw[hv];exact this
      ·cases hj
   ·cases e
  ·cases e
 ·rename_i l k esz o n
  split at e
  ·rename_i cs hg
   split at e
   ·rename_i hh
    obtain⟨rfl,rfl,rfl,hle⟩:=hh
    simp only[mS]at e
    obtain⟨ys,hy,rfl⟩:=e
    have hb:=h.aD 0 k _ hg
    cases hv with
    |bP _ _ _ _ _ c cp a ht hn ha=>
     rw[ht]at hb
     cases hb with
     |box _ _ hN hB=>
      obtain⟨cells,et,c1,c2,c3⟩:=hB
      have gy:=mA _ _ _ hy
      have qZ:ys.length=n:=by rw[gy.1];simp;omega
      have hVR:AG fm ts ((cs.drop o).take n) ((List.range n).map fun j=>(cells[o+j]?).getD default):=by
       refine⟨by simp;omega,?_⟩
       intro j x v hx hv
       rw[Ca]at hx
       split at hx
       ·rename_i hj
        rw[Cu]at hx
        simp only[BX,List.getElem?_range hj,Be,oE]at hv
        subst hv
        have af:o+j<cells.size:=by omega
        rw[BV af]
        exact(c3 (o+j) x _ hx (BV af)).2
       ·cases hx
      have aej:=h.vP hVR hy
      refine fin (some a) cp (fun i _=>(cells[o+i]?).getD default) (by simp[qZ]) (by intro d hd;obtain⟨y,_,rfl⟩:=List.mem_map.1 hd;rfl) ?_
      intro i cc o' x hi hx
      simp only[BX,mS]at hi
      obtain⟨y,hyi,rfl⟩:=hi
      have bT:i<n:=by rw[<-qZ];exact(gS.1 hyi).1
      cases o' with
      |succ o'=>simp at hx
      |zero=>
       simp only[Cl,oE]at hx
       subst hx
       have af:o+i<cells.size:=by omega
       have hv:=BV af
       refine⟨a,rfl,?_,?_,?_⟩
       ·rw[ha (by omega),Addr.add_lit]
        simp only[World.cell?,c1,Nat.mul_one,Nat.add_zero,hv]
        simp
       ·obtain⟨z,hz,oc⟩:=(show ∃ z,cs[o+i]?=some z/\z.ak (fun _ _=>none)=some y from by
         have zD:i<((cs.drop o).take n).length:=by simp;omega
         obtain⟨y',j4,hf⟩:=gy.2 i _ (gG zD)
         rw[hyi]at j4;obtain rfl:=oi j4
         refine⟨_,?_,hf⟩
         have:=gG zD
         rw[Ca,if_pos bT,Cu]at this
         exact this)
        rw[abU oc]
        exact(c3 _ _ _ hz hv).1
       ·exact aej.2 i y _ hyi (by simp only[BX,List.getElem?_range bT,Be])
   ·cases e
  ·cases e
 ·cases e
end
section
variable {P:Program}{T:AR}{N0:Nat}{W0:World}{fm:FM}{ts:List Aw}{H:Heap}{w:World}{t:TypeId}{ti:TI}
theorem amb {op:UnOp}{x y:AV}{v:Value} (hv:VR fm ts x v) (e:aUn op x=some y):
  ∃ u,(Op.unary op v).run P w=.ok u w/\VR fm ts y u:=by
 unfold aUn at e
 split at e
 ·cases hv
  obtain rfl:=oi e
  exact⟨_,by simp[unary_neg,Op.intArith],.int _ _⟩
 ·cases hv
  obtain rfl:=oi e
  exact⟨_,by simp[unary_not],.bool _⟩
 ·cases e
theorem arx {x:AV}{v:Value}{n:Nat} (hv:VR fm ts x v) (e:acL x=some n):∃ a c,v=.slice a n c:=by
 unfold acL at e
 split at e<;>first|(obtain rfl:=oi e)|(cases e)
 ·cases hv;exact⟨_,_,rfl⟩
 ·cases hv<;>exact⟨_,_,rfl⟩
 ·cases hv<;>exact⟨_,_,rfl⟩
 ·cases hv;exact⟨_,_,rfl⟩
theorem alY (hT:AX P T) (ht:T t=some ti) {x y:AV}{v:Value}{l:List TypeId}{ty:TypeId} (hv:VR fm ts x v) (e:abm ti x=some y):
  ∃ u,(Builtin.len_ (t::l).toArray ty #[v]).run P w=.ok u w/\VR fm ts y u:=by
 unfold abm at e
 split at e
 ·rename_i hd
  have hu:=hT.str ht hd
  split at e
  ·cases hv
   obtain rfl:=oi e
   exact⟨_,by simp[Builtin.len_,run_underlying hu,goInt],.int _ _⟩
  ·cases e
 ·rename_i n el hd
  obtain⟨hu,_⟩:=hT.array ht hd
  obtain rfl:=oi e
  exact⟨_,by simp[Builtin.len_,run_underlying hu,goInt],.int _ _⟩
 ·rename_i el hd
  obtain⟨hu,_⟩:=hT.slice ht hd
  simp only[mS]at e
  obtain⟨n,hn,rfl⟩:=e
  obtain⟨a,c,rfl⟩:=arx hv hn
  exact⟨_,by simp[Builtin.len_,run_underlying hu,goInt],.int _ _⟩
 ·cases e
theorem apP (k:IntKind) (x y:Int):(if y > x then y else x)=max x y:=by
 rw[Int.max_def];split<;>split<;>omega
theorem apT (k:IntKind) (x y:Int):(if y<x then y else x)=min x y:=by
 rw[Int.min_def];split<;>split<;>omega
theorem afY (mx:Bool):∀ (n:Nat) (xs:List AV) (x y:AV) (v:Value) (vs:List Value),xs.length=n->VR fm ts x v->AG fm ts xs vs->nR mx (x::xs)=some y->
  ∃ u,(vs.foldlM (if mx then Builtin.max2 else Builtin.min2) v).run P w=.ok u w/\VR fm ts y u
 |0,[],x,y,v,vs,_,hv,bq,e=>by
  have:vs=[]:=by have:=bq.1;cases vs with|nil=>rfl|cons=>simp at this
  subst this
  cases x<;>simp[nR]at e
  subst e
  exact⟨v,by simp,hv⟩
 |n+1,x2::xs,x,y,v,vs,hn,hv,bq,e=>by
  cases vs with
  |nil=>have:=bq.1;simp at this
  |cons v2 vs=>
   have h2:VR fm ts x2 v2:=bq.2 0 _ _ rfl rfl
   have hr:AG fm ts xs vs:=⟨by simpa using bq.1,fun i x v a b=>bq.2 (i+1) x v (by simpa using a) (by simpa using b)⟩
   cases x<;>try (simp[nR]at e;done)
   cases x2<;>try (simp[nR]at e;done)
   rename_i k a k' b
   rw[nR]at e
   split at e
   ·rename_i hk
    subst hk
    cases hv;cases h2
    obtain⟨u,h1,h2⟩:=afY mx n xs _ y (.int k (if mx then max a b else min a b)) vs (by simpa using hn) (.int _ _) hr e
    refine⟨u,?_,h2⟩
    cases mx with
    |true=>
     simp only[if_true]at h1 ⊢
     simp only[List.foldlM_cons,Sem.run_bind,Builtin.max2,Sem.run_pure,Result.andThen_ok,apP k,h1]
    |false=>
     simp only[C4,if_false]at h1 ⊢
     simp only[List.foldlM_cons,Sem.run_bind,Builtin.min2,Sem.run_pure,Result.andThen_ok,apT k,h1]
   ·cases e
theorem afZ {mx:Bool}{xs:List AV}{y:AV}{vs:List Value}{l:Array TypeId}{ty:TypeId} (hv:AG fm ts xs vs) (e:nR mx xs=some y):
  ∃ u,((if mx then Builtin.max_ else Builtin.min_) l ty vs.toArray).run P w=.ok u w/\VR fm ts y u:=by
 cases xs with
 |nil=>simp[nR]at e
 |cons x xs=>
  cases vs with
  |nil=>have:=hv.1;simp at this
  |cons v vs=>
   have h2:VR fm ts x v:=hv.2 0 _ _ rfl rfl
   have hr:AG fm ts xs vs:=⟨by simpa using hv.1,fun i x v a b=>hv.2 (i+1) x v (by simpa using a) (by simpa using b)⟩
   obtain⟨u,h3,h4⟩:=afY (P:=P) (w:=w) mx xs.length xs x y v vs rfl h2 hr e
   refine⟨u,?_,h4⟩
   cases mx with
   |true=>simpa [Builtin.max_] using h3
   |false=>simpa [Builtin.min_] using h3
theorem VR.parts {x:AV}{v:Value}{vc:List AV} (hv:VR fm ts x v) (e:x.cells=some vc):AG fm ts vc v.cells.toList/\∀ y∈vc,y.flat=true:=by
 have one:∀ (x:AV) (v:Value),VR fm ts x v->x.flat=true->v.cells=#[v]->AG fm ts [x] v.cells.toList/\∀ y∈[x],y.flat=true:=by
  intro x v h hf hc
  rw[hc]
  refine⟨⟨rfl,?_⟩,by simpa using hf⟩
  intro i y u hy hu
  cases i with
  |zero=>simp at hy hu;subst hy hu;exact h
  |succ i=>simp at hy
 cases x with
 |agg cs=>
  simp only[AV.cells,oE]at e;subst e
  obtain⟨vs,rfl,h1,h2⟩:=hv.lp
  exact⟨h1,h2⟩
 |aw=>simp[AV.cells]at e
 |dead=>simp[AV.cells]at e
 |_=>
  simp only[AV.cells,oE]at e;subst e
  refine one _ _ hv rfl ?_
  cases hv<;>rfl
theorem rn {cs new:List AV}{vs nv:List Value}{o:Nat} (h:AG fm ts cs vs) (hn:AG fm ts new nv) (hle:o+new.length<=cs.length):
  AG fm ts (overwrite cs o new) (vs.take o++(nv++vs.drop (o+nv.length))):=by
 have hl:=h.1
 have zI:=hn.1
 refine⟨by simp[overwrite];omega,?_⟩
 intro i x v hx hv
 unfold overwrite at hx
 by_cases h1:i<o
 ·rw[CL (by simp;omega),Ca,if_pos h1]at hx hv
  exact h.2 i x v hx hv
 ·rw[CX (by simp;omega),A8,Nat.min_eq_left (by omega)]at hx hv
  by_cases h2:i - o<new.length
  ·rw[CL (by omega)]at hx hv
   exact hn.2 _ x v hx hv
  ·rw[CX (by omega),Cu]at hx hv
   rw[zI]at hx
   exact h.2 _ x v hx hv
theorem rp {cs new:List AV}{o:Nat} (h:∀ x∈cs,x.flat=true) (hn:∀ x∈new,x.flat=true):∀ x∈overwrite cs o new,x.flat=true:=by
 intro x hx
 unfold overwrite at hx
 simp only[A9]at hx
 rcases hx with hx|hx|hx
 ·exact h x (BD hx)
 ·exact hn x hx
 ·exact h x (Cj hx)
theorem aqw {cs new:List AV}{o:Nat} (hle:o+new.length<=cs.length):(overwrite cs o new).length=cs.length:=by
 simp[overwrite];omega
theorem ahK (cells new:Array Value) (off:Nat) (hle:off+new.size<=cells.size):
  (new.zipIdx.foldl (fun cs (c,j)=>cs.setIfInBounds (off+j) c) cells).toList=cells.toList.take off++(new.toList++cells.toList.drop (off+new.toList.length)):=by
 have h:=Go.Great.foldl_set off new.toList 0 cells
 have e:new.zipIdx.foldl (fun cs (c,j)=>cs.setIfInBounds (off+j) c) cells=(new.toList.zipIdx 0).foldl (fun cs (x:Value×Nat)=>cs.setIfInBounds (off+x.2) x.1) cells:=by
  rw[<-Array.foldl_toList];simp
 rw[e]
 apply List.ext_getElem?
 intro k
 rw[Array.getElem?_toList,h.2 k]
 simp only[Nat.add_zero]
 have zI:new.toList.length=new.size:=by simp
 by_cases h1:k<off
 ·rw[if_neg (by omega),CL (by simp;omega),Ca,if_pos h1,Array.getElem?_toList]
 ·rw[CX (by simp;omega),A8,Nat.min_eq_left (by simp;omega)]
  by_cases h2:k - off<new.toList.length
  ·rw[if_pos (by omega),CL h2]
  ·rw[if_neg (by omega),CX (by omega),Cu,Array.getElem?_toList]
   congr 1;omega
def Ec (fm:FM) (ts:List Aw):List (Nat×AV)->List (Nat×Value)->Prop
 |[],[]=>True
 |(i,x)::l,(j,v)::m=>i=j/\VR fm ts x v/\Ec fm ts l m
 |_,_=>False
theorem adQ {fl place:Nat->Option (Nat×Nat)} (hp:∀ i x,fl i=some x->place i=some x):∀ (parts:List (Nat×AV)) (ps:List (Nat×Value)) (cs cs':List AV) (cells:Array Value),
  Ec fm ts parts ps->AG fm ts cs cells.toList->(∀ x∈cs,x.flat=true)->uw fl cs parts=some cs'->
  ∃ r,Instr.fill place cells ps=some r/\AG fm ts cs' r.toList/\∀ x∈cs',x.flat=true
 |[],[],cs,cs',cells,_,hv,hf,e=>by
  simp only[uw,oE]at e;subst e
  exact⟨cells,rfl,hv,hf⟩
 |[],_::_,_,_,_,h,_,_,_=>h.elim
 |(_,_)::_,[],_,_,_,h,_,_,_=>h.elim
 |(i,x)::l,(j,v)::m,cs,cs',cells,h,hv,hf,e=>by
  obtain⟨rfl,hx,hr⟩:=h
  simp only[uw]at e
  split at e
  ·cases e
  ·rename_i off size dG
   split at e
   ·rename_i vc pH
    split at e
    ·rename_i hle
     obtain⟨hl,hle⟩:=hle
     obtain⟨h1,h2⟩:=hx.parts pH
     have hs:v.cells.size=size:=by have:=h1.1;simp at this;omega
     have cG:cells.size=cs.length:=by have:=hv.1;simp at this;omega
     have ih:=adQ hp l m (overwrite cs off vc) cs' (v.cells.zipIdx.foldl (fun cs (c,j)=>cs.setIfInBounds (off+j) c) cells) hr
      (by rw[ahK _ _ _ (by omega)];exact rn hv h1 (by omega)) (rp hf h2) e
     obtain⟨r,h3,h4⟩:=ih
     refine⟨r,?_,h4⟩
     simp only[Instr.fill,hp _ _ dG]
     rw[if_neg (by simp[hs];omega)]
     exact h3
    ·cases e
   ·cases e
theorem ahG:∀ (fs:List Field) (l:List (Nat×Nat×Bool)),pc P fs l=true->
  fs.mapM (fun f=>(P.info? f.type).map fun i=>(f.offset,i.size))=some (l.map fun x=>(x.1,x.2.1))
 |[],[],_=>rfl
 |[],_::_,h=>by simp[pc]at h
 |_::_,[],h=>by simp[pc]at h
 |f::fs,(o,s,a)::l,h=>by
  simp only[pc,Bo,beq_iff_eq]at h
  obtain⟨⟨⟨⟨h1,h0⟩,h2⟩,h3⟩,h4⟩:=h
  have ih:=ahG fs l h4
  split at h2
  ·rename_i inf bl
   have hs:inf.size=s:=by simpa using h2
   simp[List.mapM_cons,bl,ih,h1,hs]
  ·cases h2
theorem alM (hT:AX P T) (ht:T t=some ti) {parts:List (Nat×AV)}{ps:Array (Nat×Value)}{y:AV} (hp:Ec fm ts parts ps.toList) (e:abh ti parts=some y):
  ∃ u,(Instr.build t ps).run P w=.ok u w/\VR fm ts y u:=by
 obtain⟨i,hi,aC,_,z,hz,iR⟩:=(hT.ok ht).info
 have hzf:=(hT.ok ht).alx
 unfold abh at e
 split at e
 ·rename_i hd
  obtain⟨fs,hu,dG⟩:=hT.struct ht hd
  simp only[mS]at e
  obtain⟨cs,gg,rfl⟩:=e
  obtain⟨r,h1,h2,h3⟩:=adQ (place:=((ti.fl.map fun x=>(x.1,x.2.1)).toArray[·]?)) (by
   intro i x h;simpa using h) parts ps.toList _ _ _ hp (iR fm ts) hzf gg
  refine⟨.agg r,run_build w t ps r ?_,.agg _ _ (by simpa using h2.1) h3 (fun i x v a b=>h2.2 i x v a (by simpa using b))⟩
  simp only[Program.built,hi,hu,hz,ahG _ _ dG]
  exact h1
 ·rename_i n el hd
  obtain⟨hu,⟨ie,hie,ao7,_⟩,_⟩:=hT.array ht hd
  simp only[mS]at e
  obtain⟨cs,gg,rfl⟩:=e
  obtain⟨r,h1,h2,h3⟩:=adQ (place:=fun i=>some (i*ie.size,ie.size)) (by
   intro i x h;rw[ao7];exact h) parts ps.toList _ _ _ hp (iR fm ts) hzf gg
  refine⟨.agg r,run_build w t ps r ?_,.agg _ _ (by simpa using h2.1) h3 (fun i x v a b=>h2.2 i x v a (by simpa using b))⟩
  simp only[Program.built,hi,hu,hz,hie]
  exact h1
 ·cases e
theorem agD:∀ (es:List (List AV)) (l:List UInt8) (us:List Value),bytesOf es=some l->AG fm ts es.flatten us->
  ∃ ns:List Int,us=ns.map (Value.int .u8)/\l=ns.map fun n=>UInt8.ofNat n.toNat
 |[],l,us,h,hv=>by
  simp only[bytesOf,oE]at h;subst h
  have:us=[]:=by have:=hv.1;cases us with|nil=>rfl|cons=>simp at this
  subst this
  exact⟨[],rfl,rfl⟩
 |c::es,l,us,h,hv=>by
  simp only[bytesOf]at h
  split at h
  ·rename_i b l' hb hl
   obtain rfl:=oi h
   unfold byteOf at hb
   split at hb
   ·rename_i n
    obtain rfl:=oi hb
    cases us with
    |nil=>have:=hv.1;simp at this
    |cons u us=>
     have h1:VR fm ts (.int .u8 n) u:=hv.2 0 _ _ rfl rfl
     cases h1
     obtain⟨ns,h2,h3⟩:=agD es l' us hl ⟨by simpa using hv.1,fun i x v a b=>hv.2 (i+1) x v (by simpa using a) (by simpa using b)⟩
     exact⟨n::ns,by simp[h2],by simp[h3]⟩
   ·cases hb
  ·cases h
theorem ahI:∀ (ns:List Int) (s:ByteArray),ns.foldl (fun r n=>r.push (UInt8.ofNat n.toNat)) s=⟨s.data++(ns.map fun n=>UInt8.ofNat n.toNat).toArray⟩
 |[],s=>by simp
 |n::ns,s=>by
  rw[List.foldl_cons,ahI ns]
  simp[ByteArray.push]
theorem alS (hT:AX P T) {src dst:TypeId}{si di:TI} (hs:T src=some si) (hd:T dst=some di) (h:HR N0 W0 fm ts H w) {x y:AV}{v:Value} (hv:VR fm ts x v) (e:lk T H.get si di x=some y):
  ∃ u,(convert src dst v).run P w=.ok u w/\VR fm ts y u:=by
 unfold lk at e
 split at e
 ·rename_i k hk
  have hu:=hT.int hd hk
  split at e
  ·rename_i k' k'' n e9
   have sU:=hT.int hs e9
   cases hv
   obtain rfl:=oi e
   exact⟨_,by simp[convert,run_underlying hu,run_underlying sU,Conv.intToInt],.int _ _⟩
  ·cases e
 ·rename_i hk
  have hu:=hT.str hd hk
  split at e
  ·rename_i e9
   have sU:=hT.str hs e9
   split at e
   ·cases hv
    obtain rfl:=oi e
    exact⟨_,by simp[convert,run_underlying hu,run_underlying sU],.str _⟩
   ·cases e
  ·rename_i el e9
   obtain⟨sU,gh⟩:=hT.slice hs e9
   split at e
   ·rename_i ti hti
    split at e
    ·rename_i hb
     have hue:=hT.int hti hb
     split at e
     ·rename_i h1
      simp only[Option.bind_eq_some_iff,mS]at e
      obtain⟨es,pt,l,hl,rfl⟩:=e
      obtain⟨a,cp,us,rfl,ho,bq,_,bG⟩:=h.elems hv pt
      obtain⟨ns,rfl,rfl⟩:=agD _ _ _ hl bq
      have hlen:es.length=ns.length:=by
       have h1:=kH 1 es ho
       have h2:=bq.1
       simp at h2 h1;omega
      have hr:∀ a cp,(∀ j u,(ns.map (Value.int .u8))[j]?=some u->∃ ad,a=some ad/\w.cell? (ad.add j)=some u)->(Conv.bytesToString (.slice a es.length cp)).run P w=.ok (.string ⟨(ns.map fun n=>UInt8.ofNat n.toNat).toArray⟩) w:=by
       intro a cp bG
       cases a with
       |none=>
        cases ns with
        |nil=>simp[Conv.bytesToString];rfl
        |cons n ns=>obtain⟨_,h,_⟩:=bG 0 _ rfl;cases h
       |some ad=>
        have hc:∀ j u,(ns.map (Value.int .u8))[j]?=some u->w.cell? (ad.add j)=some u:=by
         intro j u hu;obtain⟨_,h,h2⟩:=bG j u hu;cases h;exact h2
        have:=run_loadCells_list (P:=P) w ad _ hc
        rw[run_bytesToString w ad es.length cp ns (by rw[hlen];simpa using this),ahI]
        simp
      exact⟨_,by rw[run_convert_bytes_string w src dst el _ _ _ sU hue hu];exact hr _ _ bG,.str _⟩
     ·cases e
    ·cases e
   ·cases e
  ·cases e
 ·cases e
end
theorem xW {ts:List Aw}:∀ {l k:Nat}{x:TB},tb ts l k=some x->dh ts l k x=ts:=by
 induction ts with
 |nil=>intro l k x h;rfl
 |cons t ts ih=>
  intro l k x h
  cases l with
  |zero=>
   simp only[dh,List.cons.injEq,and_true]
   funext j
   split
   ·rename_i e;subst e;exact h.symm
   ·rfl
  |succ l=>simp only[dh];rw[ih h]
theorem an8 {sz:Nat}{es:List (List AV)} (ho:dw es sz) {i o:Nat}{c:List AV}{x:AV} (h1:es[i]?=some c) (h2:c[o]?=some x):es.flatten[i*sz+o]?=some x:=by
 have hc:c.length=sz:=ho c (A6 h1)
 have af:o<sz:=by rw[<-hc];exact(gS.1 h2).1
 have hp:0<sz:=by omega
 rw[flat_get sz es ho,Nat.mul_comm,Nat.mul_add_div hp,Nat.div_eq_of_lt af,Nat.mul_add_mod,Nat.mod_eq_of_lt af]
 simp[h1,h2]
section
variable {P:Program}{T:AR}{N0:Nat}{W0:World}{fm:FM}{ts:List Aw}{H:Heap}{w:World}{t:TypeId}{ti:TI}
theorem Dl.flat {et esz:Nat}{es:List (List AV)}{c cap:Nat} (h:Dl fm w et esz es c cap):
  ∃ cells,w.heap[c]?=some (.cells cells et (0,0))/\cells.size=cap*esz/\es.length<=cap/\cap<=maxLen/\dw es esz/\0<esz/\
   AG fm [] es.flatten (cells.toList.take (es.length*esz))/\∀ x∈es.flatten,x.flat=true:=by
 obtain⟨cells,c1,c2,c3,c4,c5,c6,c7⟩:=h
 have hlen:=kH esz es c5
 have hle:es.length*esz<=cells.size:=by rw[c2];exact B7 _ c3
 have iI:∀ (j:Nat) (x:AV),es.flatten[j]?=some x->∃ v,cells[j]?=some v/\x.flat=true/\VR fm [] x v:=by
  intro j x hx
  have hj:j<cells.size:=by have:=(gS.1 hx).1;omega
  have jq:=hx
  rw[flat_get esz es c5,Option.bind_eq_some_iff]at jq
  obtain⟨cc,h1,h2⟩:=jq
  have e:j / esz*esz+j % esz=j:=by rw[Nat.mul_comm];exact Nat.div_add_mod j esz
  have hv:=BV hj
  exact⟨_,hv,c7 _ cc _ x _ h1 h2 (by rw[e];exact hv)⟩
 refine⟨cells,c1,c2,c3,c4,c5,c6,⟨by simp[hlen];omega,?_⟩,?_⟩
 ·intro j x v hx hv
  obtain⟨u,h1,_,h2⟩:=iI j x hx
  rw[Ca]at hv
  split at hv
  ·rw[Array.getElem?_toList,h1]at hv;obtain rfl:=oi hv;exact h2
  ·cases hv
 ·intro x hx
  obtain⟨j,hj⟩:=BH.1 hx
  obtain⟨_,_,h1,_⟩:=iI j x hj
  exact h1
theorem Dl.of {et esz:Nat}{es:List (List AV)}{c cap:Nat}{cells:Array Value}{us rest:List Value} (c1:w.heap[c]?=some (.cells cells et (0,0))) (c2:cells.size=cap*esz) (c3:es.length<=cap) (c4:cap<=maxLen)
  (c5:dw es esz) (c6:0<esz) (hv:AG fm [] es.flatten us) (hf:∀ x∈es.flatten,x.flat=true) (hc:cells.toList=us++rest):Dl fm w et esz es c cap:=by
 refine⟨cells,c1,c2,c3,c4,c5,c6,?_⟩
 intro i cc o x v h1 h2 h3
 have hx:=an8 c5 h1 h2
 refine⟨hf x (A6 hx),hv.2 _ x v hx ?_⟩
 have af:i*esz+o<us.length:=by rw[<-hv.1];exact(gS.1 hx).1
 rw[<-Array.getElem?_toList,hc,CL af]at h3
 exact h3
theorem agi {B:Nat} (w:World) (g:Nat) (cs:Array Value) (h:B<=g):Below B w (w.setRow g cs):=
 ⟨rfl,rfl,rfl,by simp,fun k hk=>setRow_other w g k cs (by omega)⟩
theorem HR.ai2 (h:HR N0 W0 fm ts H w) {c:Nat} (hc:w.heap.size<=c) (o:Nat):fm c o=none:=by
 cases hf:fm c o with
 |none=>rfl
 |some v=>have:=World.block_lt_of_cell? w _ (h.cV _ _ _ hf);simp at this;omega
theorem HR.acI (h:HR N0 W0 fm ts H w) {l k c:Nat}{cs cs':List AV}{vs':List Value} (hg:H.get l k=some (.box cs)) (ht:tb ts l k=some (.box c))
  (hv:AG fm (ts.drop l) cs' vs') (hf:∀ x∈cs',x.flat=true):HR N0 W0 fm ts (H.put l k (some (.box cs'))) (w.setRow c vs'.toArray):=by
 have hb:=h.aD l k _ hg
 rw[ht]at hb
 cases hb with
 |box _ _ hN hB=>
  obtain⟨cells,et,c1,c2,c3⟩:=hB
  have:=h.acT (w':=w.setRow c vs'.toArray) (l:=l) (k:=k) (c:=c) (x:=.box c) (b:=.box cs') (Heap.sD H _ _ _ hg) rfl (fun i hi _=>setRow_other w c i _ hi) (agi w c _ hN) (fun o ho=>by rw[c1]at ho;cases ho;rfl) (by rw[ht];exact Bv.refl _)
   (fun l' k' b' g' t'=>by
    have:=h.inj l' k' l k b' _ c g' hg t' (by rw[ht];rfl)
    exact this) (fun o=>h.eR l k _ c o hg (by rw[ht];rfl)) (by
    rw[xW ht]
    refine .box c cs' hN ⟨_,et,setRow_heap w c cells _ et _ c1,by simp[hv.1],?_⟩
    intro o x v a b
    exact⟨hf x (A6 a),hv.2 o x v a (by simpa using b)⟩)
  rwa [xW ht]at this
theorem HR.xQ (h:HR N0 W0 fm ts H w) {l k g c cap et esz:Nat}{es es':List (List AV)}{vs' us rest:List Value} (hg:H.get l k=some (.arr et esz es)) (ht:tb ts l k=some (.arr g (some (c,cap))))
  (hgl:es.length<=es'.length) (dM:es'.length<=cap) (ho:dw es' esz) (aC:vs'.length=cap*esz)
  (hv:AG fm [] es'.flatten us) (hf:∀ x∈es'.flatten,x.flat=true) (hc:vs'=us++rest):
  HR N0 W0 fm (dh ts l k (.arr es'.length (some (c,cap)))) (H.put l k (some (.arr et esz es'))) (w.setRow c vs'.toArray):=by
 have hb:=h.aD l k _ hg
 rw[ht]at hb
 obtain⟨kM,_,hA⟩:=hb.gr
 obtain⟨hA,hN⟩:=hA c cap rfl
 obtain⟨cells,c1,c2,c3,c4,c5,c6,_⟩:=hA
 refine h.acT (w':=w.setRow c vs'.toArray) (c:=c) (Heap.sD H _ _ _ hg) rfl (fun i hi _=>setRow_other w c i _ hi) (agi w c _ hN) (fun o ho=>by rw[c1]at ho;cases ho;rfl) ?_
   (fun l' k' b' g' t'=>h.inj l' k' l k b' _ c g' hg t' (by rw[ht];rfl)) (fun o=>h.eR l k _ c o hg (by rw[ht];rfl)) ?_
 ·rw[ht]
  by_cases he:g=es'.length
  ·subst he;exact Bv.refl _
  ·exact .inr (.inr ⟨_,_,rfl,by omega⟩)
 ·exact .arr et esz es' c cap hN (.of (setRow_heap w c cells _ et _ c1) (by simpa using aC) dM c4 ho c6 hv hf (by simpa using hc))
theorem HR.xE (h:HR N0 W0 fm ts H w) {l k cap et esz:Nat}{es:List (List AV)}{cells:Array Value}{us rest:List Value} (hl:l<H.length)
  (hle:Bv (tb ts l k) (some (.arr es.length (some (w.heap.size,cap))))) (c2:cells.size=cap*esz) (c3:es.length<=cap) (c4:cap<=maxLen) (c5:dw es esz) (c6:0<esz)
  (hv:AG fm [] es.flatten us) (hf:∀ x∈es.flatten,x.flat=true) (hc:cells.toList=us++rest):
  HR N0 W0 fm (dh ts l k (.arr es.length (some (w.heap.size,cap)))) (H.put l k (some (.arr et esz es))) (w.alloc (.cells cells et)):=
 h.acT (c:=w.heap.size) hl rfl (fun i _ hi=>heap_alloc_old w _ i hi) ((Below.refl N0 w).alloc h.size _) (fun o ho=>by simp at ho) hle
  (fun l' k' b' g' t'=>by have:=((h.aD l' k' b' g').lt t').1;omega) (h.ai2 (AY _))
  (.arr et esz es w.heap.size cap h.size (.of (heap_alloc_new w _) c2 c3 c4 c5 c6 hv hf hc))
theorem ac5:∀ (sc:List (Nat×TypeId×Nat)) (cs:List AV) (vs:List Value) (kb:Nat) (ts:List Aw) (H:Heap),HR N0 W0 fm ts H w->0<H.length->(∀ k,kb<=k->k<kb+sc.length->tb ts 0 k=none)->
  AG fm ts cs vs->(∀ x∈cs,x.flat=true)->
  ∃ ts',HR N0 W0 fm ts' (H.bV (mb cs kb sc).2) w/\AG fm ts' (mb cs kb sc).1 vs/\(∀ x∈(mb cs kb sc).1,x.flat=true)/\AD ts ts'/\
   (∀ l k,(l≠0\/k<kb\/kb+sc.length<=k)->tb ts' l k=tb ts l k)/\(∀ l k,(l≠0\/k<kb\/kb+sc.length<=k)->(H.bV (mb cs kb sc).2).get l k=H.get l k)
 |[],cs,vs,kb,ts,H,h,_,_,hv,hf=>⟨ts,h,hv,hf,AD.refl _,fun _ _ _=>rfl,fun _ _ _=>rfl⟩
 |(o,e,s)::r,cs,vs,kb,ts,H,h,hH,hk,hv,hf=>by
  unfold mb
  split
  ·rename_i ho
   have iL:tb ts 0 kb=none:=hk kb (AY _) (by simp)
   have h1:=h.empty e s iL hH
   have af:0<ts.length:=by rw[h.len];exact hH
   have ht1:AD ts (dh ts 0 kb (.arr 0 none)):=AD.set (by rw[iL];trivial)
   have sW:AG fm (dh ts 0 kb (.arr 0 none)) (cs.set o (.loc 0 kb s 0 0 0)) vs:=by
    refine⟨by simp[hv.1],?_⟩
    intro i x v hx hvv
    rw[List.getElem?_set]at hx
    split at hx
    ·rename_i he
     subst he
     split at hx
     ·obtain rfl:=oi hx
      have:=hv.2 o _ v ho hvv
      cases this
      exact .cH 0 kb s _ (by rw[eE,if_pos ⟨rfl,rfl,af⟩])
     ·cases hx
    ·exact(hv.2 i x v hx hvv).mono (Bh.refl _) ht1
   have hf1:∀ x∈cs.set o (.loc 0 kb s 0 0 0),x.flat=true:=by
    intro x hx
    rcases List.mem_or_eq_of_mem_set hx with hx|rfl
    ·exact hf x hx
    ·rfl
   obtain⟨ts',a1,a2,a3,a4,a5,a6⟩:=ac5 r _ vs (kb+1) _ _ h1 (by simpa using hH) (by
    intro k h1 h2
    rw[eE,if_neg (by omega)]
    exact hk k (by omega) (by simp;omega)) sW hf1
   refine⟨ts',a1,a2,a3,ht1.trans a4,?_,?_⟩
   ·intro l k od
    simp only[AA]at od
    rw[a5 l k (by omega),eE,if_neg (by simp only[AA]at *;omega)]
   ·intro l k od
    simp only[AA]at od
    simp only[Heap.bV]
    rw[a6 l k (by omega),Heap.qA,if_neg (by omega)]
  ·obtain⟨ts',a1,a2,a3,a4,a5,a6⟩:=ac5 r cs vs kb ts H h hH (fun k h1 h2=>hk k h1 (by simp;omega)) hv hf
   refine⟨ts',a1,a2,a3,a4,?_,?_⟩
   ·intro l k od
    simp only[AA]at od
    exact a5 l k (by omega)
   ·intro l k od
    simp only[AA]at od
    exact a6 l k (by omega)
theorem aiX (hT:AX P T) (ht:T t=some ti) (h:HR N0 W0 fm ts H w) (hH:0<H.length) {kb:Nat} (hk:∀ k,kb<=k->k<kb+16->tb ts 0 k=none) {cs:List AV}{v:Value}{d:De} (et:TypeId)
  (hv:AG fm ts cs v.cells.toList) (hf:∀ x∈cs,x.flat=true) (e:aai kb ti cs=some d) {r:Result Next} (hr:r=.ok (.value (.pointer (some ⟨w.heap.size,0,none⟩))) (w.alloc (.cells v.cells et))):
  BW N0 W0 fm ts H w kb r d:=by
 unfold aai at e
 split at e
 ·obtain rfl:=oi e
  have hsc:=(hT.ok ht).sc
  obtain⟨ts',a1,a2,a3,a4,a5,a6⟩:=ac5 ti.sc cs _ (kb+1) ts H h hH (fun k h1 h2=>hk k (by omega) (by omega)) hv hf
  have e9:tb ts' 0 kb=none:=by rw[a5 0 kb (by omega)];exact hk kb (AY _) (by omega)
  have af:0<ts'.length:=by rw[a1.len];simpa using hH
  have hle:AD ts' (dh ts' 0 kb (.box w.heap.size)):=AD.set (by rw[e9];trivial)
  have h2:=a1.fresh (cells:=v.cells) (et:=et) (k:=kb) (x:=.box w.heap.size) (b:=.box (mb cs (kb+1) ti.sc).1) (by simpa using hH) e9 rfl (by
   refine .box _ _ h.size ⟨_,et,heap_alloc_new w _,by have:=a2.1;simp at this;omega,?_⟩
   intro o x u hx hu
   exact⟨a3 x (A6 hx),(a2.2 o x u hx (by simpa using hu)).mono (Bh.refl _) hle⟩)
  refine⟨fm,_,_,_,.inl hr,?_,?_,AU.refl _ _,a4.trans hle,?_⟩
  ·simp only[Heap.pR,Heap.bV]
   exact h2
  ·exact .ptr 0 kb 0 _ (by rw[eE,if_pos ⟨rfl,rfl,af⟩])
  ·intro l k eC aN
   rw[eE,if_neg (by omega),a5 l k (by omega)]
   exact aN
 ·cases e
theorem agb (h:HR N0 W0 fm ts H w) (hH:0<H.length) {kb:Nat} (hk:∀ k,kb<=k->k<kb+16->tb ts 0 k=none) (e s:Nat) {r:Result Next} (hr:r=.ok (.value (.slice none 0 0)) w):
  BW N0 W0 fm ts H w kb r ⟨.loc 0 kb s 0 0 0,[(0,kb,some (.arr e s []))]⟩:=by
 have iL:=hk kb (AY _) (by omega)
 have af:0<ts.length:=by rw[h.len];exact hH
 refine⟨fm,_,w,_,.inl hr,h.empty e s iL hH,.cH 0 kb s _ (by rw[eE,if_pos ⟨rfl,rfl,af⟩]),AU.refl _ _,AD.set (by rw[iL];trivial),?_⟩
 intro l k eC aN
 rw[eE,if_neg (by omega)]
 exact aN
theorem adK (h:HR N0 W0 fm ts H w) (hH:0<H.length) {kb:Nat} (hk:∀ k,kb<=k->k<kb+16->tb ts 0 k=none) (e s:Nat) {a:Option Addr}{r:Result Next} (hr:r=.ok (.value (.slice a 0 0)) w):
  BW N0 W0 fm ts H w kb r ⟨.loc 0 kb s 0 0 0,[(0,kb,some (.arr e s []))]⟩:=by
 have iL:=hk kb (AY _) (by omega)
 have af:0<ts.length:=by rw[h.len];exact hH
 refine⟨fm,_,w,_,.inl hr,h.empty e s iL hH,.cH 0 kb s _ (by rw[eE,if_pos ⟨rfl,rfl,af⟩]),AU.refl _ _,AD.set (by rw[iL];trivial),?_⟩
 intro l k eC aN
 rw[eE,if_neg (by omega)]
 exact aN
theorem anN (hT:AX P T) (ht:T t=some ti) (h:HR N0 W0 fm ts H w) (hH:0<H.length) {kb:Nat} (hk:∀ k,kb<=k->k<kb+16->tb ts 0 k=none) {x:AV}{v v0 v1 v2:Value}{k1 k2:IntKind}{d:De}
  (hv:VR fm ts x v) (sW:VR fm ts (.int k1 0) v1) (zZ:VR fm ts (.int k2 0) v2) (e:abL kb ti x=some d) {r:Result Next} (hr:∀ v w',(Instr.sliceAt t v0 none (some v1) (some v2)).run P w=.ok v w'->r=.ok (.value v) w') (h0:v0=v):BW N0 W0 fm ts H w kb r d:=by
 subst h0
 unfold abL at e
 split at e
 ·rename_i el hd
  obtain⟨bZ,⟨inf,bl,aC,_,_⟩,_⟩:=hT.slice ht hd
  cases sW
  cases zZ
  have run:∀ (p:Option Addr) (n cp:Nat),(Instr.sliceAt t (.slice p n cp) none (some (.int k1 0)) (some (.int k2 0))).run P w=.ok (.slice p 0 0) w:=by
   intro p n cp
   simp[Instr.sliceAt,run_underlying bZ,Instr.slice,Instr.sliceBounds,Instr.sliceBound,asIntOf,sizeOf,typeInfo,bl,aC]
  split at e
  ·cases hv
   obtain rfl:=oi e
   exact adK h hH hk _ _ (hr _ _ (run _ _ _))
  ·obtain rfl:=oi e
   cases hv<;>exact adK h hH hk _ _ (hr _ _ (run _ _ _))
  ·obtain rfl:=oi e
   cases hv<;>exact adK h hH hk _ _ (hr _ _ (run _ _ _))
  ·cases e
 ·cases e
theorem AG.replicate {z:List AV}{zv:List Value} (h:AG fm ts z zv):∀ n,AG fm ts (List.replicate n z).flatten (List.replicate n zv).flatten
 |0=>⟨rfl,fun i x v h=>by simp at h⟩
 |n+1=>by simp only[List.replicate_succ,CG];exact h.append (AG.replicate h n)
theorem aah (z:Array Value) (m:Nat) (hz:0<z.size):(madeCells z (m*z.size)).toList=(List.replicate m z.toList).flatten:=by
 apply List.ext_getElem?
 intro j
 have ho:∀ c∈List.replicate m z.toList,c.length=z.size:=by intro c hc;rw[List.eq_of_mem_replicate hc];simp
 have key:∀ (m j:Nat),((List.replicate m z.toList).flatten)[j]?=if j<m*z.size then z.toList[j % z.size]? else none:=by
  intro m
  induction m with
  |zero=>intro j;simp
  |succ m ih=>
   intro j
   simp only[List.replicate_succ,CG]
   by_cases hj:j<z.size
   ·rw[CL (by simpa using hj),Nat.mod_eq_of_lt hj,if_pos (by rw[Nat.add_mul];omega)]
   ·rw[CX (by simp;omega),ih,Array.length_toList]
    have h2:j % z.size=(j - z.size) % z.size:=by rw[Nat.mod_eq_sub_mod (Nat.le_of_not_lt hj)]
    rw[h2]
    by_cases h3:j - z.size<m*z.size
    ·rw[if_pos h3,if_pos (by rw[Nat.add_mul];omega)]
    ·rw[if_neg h3,if_neg (by rw[Nat.add_mul];omega)]
 rw[key]
 unfold madeCells
 rw[Array.toList_map,BX,Array.toList_range]
 by_cases hj:j<m*z.size
 ·have hm:j % z.size<z.size:=Nat.mod_lt _ hz
  rw[List.getElem?_range hj,if_pos hj,Array.getElem?_toList]
  simp[Array.getElem!_eq_getD,hm]
 ·rw[if_neg hj,CF (by simp;omega)];rfl
theorem xF {z:List AV}{s:Nat} (h:z.length=s) (n:Nat):dw (List.replicate n z) s:=by
 intro c hc;rw[List.eq_of_mem_replicate hc];exact h
theorem y6 {z:List AV} (h:∀ x∈z,x.flat=true) (n:Nat):∀ x∈(List.replicate n z).flatten,x.flat=true:=by
 intro x hx
 obtain⟨c,h1,h2⟩:=List.mem_flatten.1 hx
 rw[List.eq_of_mem_replicate h1]at h2
 exact h x h2
theorem are {α:Type} (z:List α) (l c:Nat) (h:l<=c):(List.replicate c z).flatten=(List.replicate l z).flatten++(List.replicate (c - l) z).flatten:=by
 rw[<-List.flatten_append,List.replicate_append_replicate];congr 2;omega
theorem anM (hT:AX P T) (ht:T t=some ti) (h:HR N0 W0 fm ts H w) (hH:0<H.length) {kb:Nat} (hk:∀ k,kb<=k->k<kb+16->tb ts 0 k=none) {x y:AV}{v u:Value}{d:De}
  (hv:VR fm ts x v) (hu:VR fm ts y u) (e:abJ kb ti x y=some d) {r:Result Next} (hr:∀ a w',(Instr.makeSlice t v u).run P w=.ok a w'->r=.ok (.value a) w'):BW N0 W0 fm ts H w kb r d:=by
 unfold abJ at e
 split at e
 ·rename_i el l c hd
  cases hv;cases hu
  split at e
  ·rename_i hc
   obtain⟨h0,hlc,hby,gh,pw⟩:=hc
   obtain rfl:=oi e
   obtain⟨bZ,⟨inf,bl,aC,hb,z,hz,iR⟩,_⟩:=hT.slice ht hd
   have qI:=(hT.ok ht).fI
   have mN:z.cells.size=ti.el:=by have:=(iR fm []).1;simp at this;omega
   have bm:=run_make (P:=P) w t el inf z bZ bl hz .i64 .i64 l c h0 hlc (by rw[hb,Int.mul_comm];omega) (by omega)
   have iL:=hk kb (AY _) (by omega)
   have af:0<ts.length:=by rw[h.len];exact hH
   rw[aC]at bm
   have qO:=aah z.cells c.toNat (by omega)
   rw[mN]at qO
   have hn:=h.xE (l:=0) (k:=kb) (cap:=c.toNat) (et:=el) (esz:=ti.el) (es:=List.replicate l.toNat ti.fI) (cells:=madeCells z.cells (c.toNat*ti.el)) hH (by rw[iL];trivial) (size_madeCells _ _)
    (by simp;omega) (by simp[maxLen];omega) (xF qI _) gh (AG.replicate (iR fm []) _) (y6 (hT.ok ht).abM _) (by rw[qO,are _ l.toNat c.toNat (by omega)])
   simp only[CR]at hn
   refine⟨fm,_,_,_,.inl (hr _ _ bm),hn,?_,AU.refl _ _,AD.set (by rw[iL];trivial),?_⟩
   ·exact .loc 0 kb ti.el 0 l.toNat l.toNat w.heap.size c.toNat c.toNat _ (by rw[eE,if_pos ⟨rfl,rfl,af⟩]) (by omega) (by omega) (by omega) (fun _=>by simp)
   ·intro l k eC aN
    rw[eE,if_neg (by omega)]
    exact aN
  ·cases e
 ·cases e
end
mutual
theorem ad0 (G:AW):∀ (x y:AV),x.ak G=some y->∀ p∈x.refs,∃ et esz es,G p.1 p.2=some (.arr et esz es)
 |.loc l k e i n g,y,h=>by
  intro p hp
  simp only[AV.refs,CS]at hp
  subst hp
  simp only[AV.ak]at h
  split at h
  ·rename_i et esz es hg;exact⟨et,esz,es,hg⟩
  ·cases h
 |.cq t v,y,h=>by
  simp only[AV.ak,mS]at h
  obtain⟨a,h1,h2⟩:=h
  simp only[AV.refs];exact ad0 G v a h1
 |.agg cs,y,h=>by
  simp only[AV.ak,mS]at h
  obtain⟨a,h1,h2⟩:=h
  simp only[AV.refs];exact wv G cs a h1
 |.aw vs,y,h=>by
  simp only[AV.ak,mS]at h
  obtain⟨a,h1,h2⟩:=h
  simp only[AV.refs];exact wv G vs a h1
 |.nil,y,h=>by simp[AV.refs]
 |.bool b,y,h=>by simp[AV.refs]
 |.int k n,y,h=>by simp[AV.refs]
 |.str s,y,h=>by simp[AV.refs]
 |.sl e es,y,h=>by simp[AV.refs]
 |.bQ,y,h=>by simp[AV.refs]
 |.cg,y,h=>by simp[AV.refs]
 |.cj,y,h=>by simp[AV.refs]
 |.fn f a b,y,h=>by
  simp only[AV.ak]at h
  split at h
  ·rename_i x z hx hz
   intro p hp
   simp only[AV.refs,A9]at hp
   rcases hp with hp|hp
   ·exact wv G a x hx p hp
   ·exact wv G b z hz p hp
  ·cases h
 |.bP ..,y,h=>by simp[AV.refs]
 |.ptr ..,y,h=>by simp[AV.refs]
 |.bz ..,y,h=>by simp[AV.refs]
 |.aL ..,y,h=>by simp[AV.refs]
 |.dead,y,h=>by simp[AV.refs]
theorem wv (G:AW):∀ (l ys:List AV),AV.aQ G l=some ys->∀ p∈AV.aT l,∃ et esz es,G p.1 p.2=some (.arr et esz es)
 |[],ys,h=>by simp[AV.aT]
 |x::l,ys,h=>by
  simp only[AV.aQ]at h
  split at h
  ·rename_i a b ha hb
   intro p hp
   simp only[AV.aT,A9]at hp
   rcases hp with hp|hp
   ·exact ad0 G x a ha p hp
   ·exact wv G l b hb p hp
  ·cases h
end
theorem adW {G:AW}{cs ys:List AV} (h:AV.aQ G cs=some ys) (hf:∀ x∈cs,x.flat=true):∀ x∈ys,x.flat=true:=by
 intro y hy
 have g:=mA G _ _ h
 obtain⟨i,hi⟩:=BH.1 hy
 have af:i<cs.length:=by rw[<-g.1];exact(gS.1 hi).1
 obtain⟨y',h1,h2⟩:=g.2 i _ (gG af)
 rw[hi]at h1;obtain rfl:=oi h1
 rw[abU h2]
 exact hf _ (List.getElem_mem af)
theorem arW {d:Nat}{cs ys:List AV} (h:AV.gq d cs=some ys) (hf:∀ x∈cs,x.flat=true):∀ x∈ys,x.flat=true:=by
 intro y hy
 have g:=tI d _ _ h
 obtain⟨i,hi⟩:=BH.1 hy
 have af:i<cs.length:=by rw[<-g.1];exact(gS.1 hi).1
 obtain⟨y',h1,h2⟩:=g.2 i _ (gG af)
 rw[hi]at h1;obtain rfl:=oi h1
 rw[akh h2]
 exact hf _ (List.getElem_mem af)
theorem akf {fm:FM}{ts:List Aw}{d:Nat}{cs ys:List AV}{vs:List Value} (h:AV.gq d cs=some ys) (hv:AG fm ts cs vs):AG fm (ts.drop d) ys vs:=by
 have g:=tI d _ _ h
 refine⟨g.1.trans hv.1,?_⟩
 intro i x v hx uW
 have af:i<cs.length:=by rw[<-g.1];exact(gS.1 hx).1
 obtain⟨y',h1,h2⟩:=g.2 i _ (gG af)
 rw[hx]at h1;obtain rfl:=oi h1
 exact(hv.2 i _ v (gG af) uW).un d h2
theorem AG.mono {fm fm':FM}{ts ts':List Aw}{cs:List AV}{vs:List Value} (h:AG fm ts cs vs) (hf:Bh fm fm') (ht:AD ts ts'):AG fm' ts' cs vs:=
 ⟨h.1,fun i x v a b=>(h.2 i x v a b).mono hf ht⟩
theorem AG.rk {fm:FM}{ts:List Aw}{cs:List AV}{vs:List Value} (h:AG fm ts cs vs) (hf:∀ x∈cs,x.flat=true):∀ v∈vs,v.oneCell'=true:=by
 intro v hv
 obtain⟨i,hi⟩:=BH.1 hv
 have af:i<cs.length:=by rw[h.1];exact(gS.1 hi).1
 exact(h.2 i _ v (gG af) hi).aqe (hf _ (List.getElem_mem af))
theorem adT {sz:Nat}:∀ (es:List (List AV)) (i o:Nat) (c new:List AV),dw es sz->es[i]?=some c->o+new.length<=c.length->
  (es.set i (overwrite c o new)).flatten=overwrite es.flatten (i*sz+o) new
 |[],i,o,c,new,_,h,_=>by simp at h
 |d::es,0,o,c,new,ho,h,hle=>by
  simp only[Cl,oE]at h;subst h
  simp only[List.set_cons_zero,CG,overwrite,Nat.zero_mul,CA,Cy]
  rw[Dd (by omega),DI (by omega)]
 |d::es,i+1,o,c,new,ho,h,hle=>by
  have hd:d.length=sz:=ho d List.mem_cons_self
  simp only[Ci]at h
  have ih:=adT es i o c new (fun x hx=>ho x (List.mem_cons_of_mem _ hx)) h hle
  simp only[List.set_cons_succ,CG,ih]
  simp only[overwrite]
  have e1:(i+1)*sz+o=d.length+(i*sz+o):=by rw[Nat.add_mul,Nat.one_mul,hd];omega
  have e2:d.length+(i*sz+o)+new.length=d.length+(i*sz+o+new.length):=by omega
  rw[e1,List.take_length_add_append,e2,List.drop_length_add_append]
  simp
theorem acG {α:Type} (L us:List α) (off n:Nat) (h:off+us.length<=n) (hn:n<=L.length):
  L.take off++us++L.drop (off+us.length)=((L.take n).take off++(us++(L.take n).drop (off+us.length)))++L.drop n:=by
 have e1:(L.take n).take off=L.take off:=by rw[List.take_take,Nat.min_eq_left (by omega)]
 have e2:L.drop (off+us.length)=(L.take n).drop (off+us.length)++L.drop n:=by
  conv=>lhs;rw[<-CY n L]
  rw[DI (by simp;omega)]
 rw[e1,e2]
 simp
theorem ajW {sz:Nat}{es:List (List AV)} (ho:dw es sz) (i:Nat) {c:List AV} (hc:c.length=sz):dw (es.set i c) sz:=by
 intro d hd
 rcases List.mem_or_eq_of_mem_set hd with h|rfl
 ·exact ho d h
 ·exact hc
section
variable {P:Program}{T:AR}{N0:Nat}{W0:World}{fm:FM}{ts:List Aw}{H:Heap}{w:World}{t:TypeId}{ti:TI}
theorem HR.adr (h:HR N0 W0 fm ts H w) {l k c:Nat}{cs:List AV} (hg:H.get l k=some (.box cs)) (ht:tb ts l k=some (.box c)):
  ∃ cells et,w.heap[c]?=some (.cells cells et (0,0))/\cells.size=cs.length/\AG fm (ts.drop l) cs cells.toList/\∀ x∈cs,x.flat=true:=by
 have hb:=h.aD l k _ hg
 rw[ht]at hb
 cases hb with
 |box _ _ hN hB=>
  obtain⟨cells,et,c1,c2,c3⟩:=hB
  refine⟨cells,et,c1,c2,⟨by simp[c2],fun i x v a b=>(c3 i x v a (by simpa using b)).2⟩,?_⟩
  intro x hx
  obtain⟨i,hi⟩:=BH.1 hx
  have af:i<cells.size:=by rw[c2];exact(gS.1 hi).1
  exact(c3 i x _ hi (BV af)).1
theorem ajK {cells:Array Value}{et:TypeId}{c o:Nat}{v:Value}{inf:TypeInfo} (hi:P.info? t=some inf) (aC:v.cells.size=inf.size) (hc:w.heap[c]?=some (.cells cells et (0,0))) (hle:o+v.cells.size<=cells.size)
  (h1:∀ u∈v.cells.toList,u.oneCell'=true):
  (Instr.storeAt t (.pointer (some ⟨c,o,none⟩)) v).run P w=.ok () (w.setRow c (cells.toList.take o++(v.cells.toList++cells.toList.drop (o+v.cells.toList.length))).toArray):=by
 have:=run_storeCells_at P c o et v.cells.toList 0 cells w hc (by simpa using hle) h1
 simp only[Nat.add_zero]at this
 simp only[Instr.storeAt,Instr.sureAddr,storeVar,Sem.run_bind,Sem.run_pure,Result.andThen_ok,sizeOf,typeInfo,run_program,hi,aC,ne_eq,not_true_eq_false,if_false]
 rw[this,Cy]
theorem anP (hT:AX P T) (ht:T t=some ti) (h:HR N0 W0 fm ts H w) (hH:0<H.length) {kb:Nat} (hk:∀ k,kb<=k->k<kb+16->tb ts 0 k=none) {x:AV}{vc:List AV}{v u:Value}{d:De}
  (hv:VR fm ts x v) (hu:AG fm ts vc u.cells.toList) (hf:∀ x∈vc,x.flat=true) (e:sw H.get kb ti x vc=some d) {r:Result Next} (hr:∀ w',(Instr.storeAt t v u).run P w=.ok () w'->r=.ok .skip w'):
  BW N0 W0 fm ts H w kb r d:=by
 obtain⟨inf,bl,aC,_,_⟩:=(hT.ok ht).info
 have hsc:=(hT.ok ht).sc
 unfold sw at e
 split at e
 ·rename_i pI
  have lI:u.cells.size=inf.size:=by have:=hu.1;simp at this;omega
  have hvu:vc.length=u.cells.toList.length:=hu.1
  have acU:∀ fm ts,VR fm ts (.aw []) undef:=fun fm ts=>.aw [] #[] rfl (fun i x v h=>by simp at h)
  split at e
  ·rename_i l k o
   split at e
   ·rename_i cs hg
    cases hv with
    |ptr _ _ _ c aN=>
     split at e
     ·rename_i hle
      obtain⟨cells,et,c1,c2,c3,c4⟩:=h.adr hg aN
      have bm:=ajK (P:=P) (w:=w) (t:=t) (o:=o) bl lI c1 (by rw[lI,aC,c2];exact hle) (hu.rk hf)
      split at e
      ·rename_i hl
       subst hl
       obtain rfl:=oi e
       have eC:k<kb\/kb+16<=k:=by
        by_cases eC:k<kb\/kb+16<=k
        ·exact eC
        ·rw[hk k (by omega) (by omega)]at aN;cases aN
       obtain⟨ts',a1,a2,a3,a4,a5,a6⟩:=ac5 ti.sc vc _ kb ts H h hH (fun k h1 h2=>hk k h1 (by omega)) hu hf
       have bK:(H.bV (mb vc kb ti.sc).2).get 0 k=some (.box cs):=by rw[a6 0 k (by omega)];exact hg
       have gZ:tb ts' 0 k=some (.box c):=by rw[a5 0 k (by omega)];exact aN
       obtain⟨am2,qz,c1',c2',c3',c4'⟩:=a1.adr bK gZ
       rw[c1]at c1'
       obtain⟨rfl,rfl⟩:cells=am2/\et=qz:=by
        have:=oi c1'
        injection this with h1 h2
        exact⟨h1,h2⟩
       have hwl:(mb vc kb ti.sc).1.length=vc.length:=by rw[a2.1,hvu]
       have:=a1.acI bK gZ (cs':=overwrite cs o (mb vc kb ti.sc).1) (rn c3' a2 (by omega)) (rp c4' a3)
       refine⟨fm,ts',_,undef,.inr ⟨hr _ bm,rfl⟩,?_,acU _ _,AU.refl _ _,a4,?_⟩
       ·simp only[Heap.pR,Heap.bV]
        exact this
       ·intro l' k' e9 zW
        rw[a5 l' k' (by omega)];exact zW
      ·split at e
       ·rename_i new ei
        obtain rfl:=oi e
        have zI:new.length=vc.length:=(tI _ _ _ ei).1
        have:=h.acI hg aN (cs':=overwrite cs o new) (rn c3 (akf ei hu) (by omega)) (rp c4 (arW ei hf))
        exact⟨fm,ts,_,undef,.inr ⟨hr _ bm,rfl⟩,this,acU _ _,AU.refl _ _,AD.refl _,fun _ _ _ h=>h⟩
       ·split at e
        ·rename_i new ei
         obtain rfl:=oi e
         have zI:new.length=vc.length:=(mA _ _ _ ei).1
         have h1:=h.tk (AV.aT vc)
         have ba:(l,k)∉AV.aT vc:=by
          intro hm
          obtain⟨et,esz,es,h2⟩:=wv _ _ _ ei _ hm
          simp only at h2
          rw[hg]at h2;cases h2
         have bK:(H.bV (iE (AV.aT vc))).get l k=some (.box cs):=by rw[wH,if_neg ba];exact hg
         have gZ:tb (iW ts (AV.aT vc)) l k=some (.box c):=by rw[mX,if_neg (fun hh=>ba hh.1)];exact aN
         have kN:=(h.aQ (AV.aT vc) hu ei (fun _ h=>h))
         have hF:=h.wo (AV.aT vc)
         have:=h1.acI bK gZ (cs':=overwrite cs o new) (rn (c3.mono hF ((AD.gone ts _).drop l)) (kN.mono (Bh.refl _) (AD.nil _)) (by omega)) (rp c4 (adW ei hf))
         refine⟨_,_,_,undef,.inr ⟨hr _ bm,rfl⟩,?_,acU _ _,h.wq (AV.aT vc),AD.gone _ (AV.aT vc),?_⟩
         ·simp only[Heap.pR,Heap.bV]
          exact this
         ·intro l' k' _ zW
          rw[mX,zW];simp[nA]
        ·cases e
     ·cases e
   ·cases e
  ·rename_i l k esz i o g
   split at e
   ·rename_i et aU es hg
    split at e
    ·rename_i hh
     obtain⟨rfl,kM⟩:=hh
     split at e
     ·rename_i c0 new hc0 ei
      split at e
      ·rename_i hle
       obtain⟨hle,jF⟩:=hle
       obtain rfl:=oi e
       have hb:=h.aD l k _ hg
       cases hv with
       |eY _ _ _ _ _ _ a gZ=>rw[gZ]at hb;cases hb
       |eZ _ _ _ _ _ _ a m' c gZ af=>rw[gZ]at hb;have:=hb.gr.1;omega
       |bz _ _ _ _ _ _ c cap gZ=>
        rw[gZ]at hb
        obtain⟨hA,_⟩:=hb.gr.2.2 c cap rfl
        obtain⟨cells,c1,c2,c3,c4,c5,c6,c7,c8⟩:=hA.flat
        have zI:new.length=vc.length:=(mA _ _ _ ei).1
        have cG:c0.length=aU:=c5 c0 (A6 hc0)
        have hi:i<es.length:=(gS.1 hc0).1
        have dG:=kH aU es c5
        have hmul:(i+1)*aU<=es.length*aU:=B7 _ hi
        have uO:es.length*aU<=cells.size:=by rw[c2];exact B7 _ c3
        rw[Nat.add_mul,Nat.one_mul]at hmul
        have cw:u.cells.toList.length=vc.length:=hvu.symm
        have bm:=ajK (P:=P) (w:=w) (t:=t) (o:=i*aU+o) bl lI c1 (by rw[lI,aC];omega) (hu.rk hf)
        have h1:=h.tk (AV.aT vc)
        have ba:(l,k)∉AV.aT vc:=by
         intro hm
         have:=List.all_eq_true.1 jF _ hm
         simp at this
        have bK:(H.bV (iE (AV.aT vc))).get l k=some (.arr et aU es):=by rw[wH,if_neg ba];exact hg
        have gC:tb (iW ts (AV.aT vc)) l k=some (.arr g (some (c,cap))):=by rw[mX,if_neg (fun hh=>ba hh.1)];exact gZ
        have kN:=(h.aQ (AV.aT vc) hu ei (fun _ h=>h))
        have hF:=h.wo (AV.aT vc)
        have iP:=adT es i o c0 new c5 hc0 (by omega)
        have:=h1.xQ bK gC (es':=es.set i (overwrite c0 o new)) (vs':=cells.toList.take (i*aU+o)++(u.cells.toList++cells.toList.drop (i*aU+o+u.cells.toList.length)))
         (us:=(cells.toList.take (es.length*aU)).take (i*aU+o)++(u.cells.toList++(cells.toList.take (es.length*aU)).drop (i*aU+o+u.cells.toList.length))) (rest:=cells.toList.drop (es.length*aU))
         (by simp) (by simpa using c3) (ajW c5 i (by rw[aqw (by omega)];exact cG)) (by simp;simp at cw;omega)
         (by rw[iP];exact rn (c7.mono hF (AD.refl _)) kN (by omega))
         (by rw[iP];exact rp c8 (adW ei hf))
         (by rw[<-Cy];exact acG _ _ _ _ (by omega) (by simpa using uO))
        have iQ:dh (iW ts (AV.aT vc)) l k (.arr (es.set i (overwrite c0 o new)).length (some (c,cap)))=iW ts (AV.aT vc):=by
         apply xW;rw[gC];simp[kM]
        rw[iQ]at this
        refine⟨_,_,_,undef,.inr ⟨hr _ bm,rfl⟩,?_,acU _ _,h.wq (AV.aT vc),AD.gone _ (AV.aT vc),?_⟩
        ·simp only[Heap.pR,Heap.bV]
         exact this
        ·intro l' k' _ zW
         rw[mX,zW];simp[nA]
      ·cases e
     ·cases e
    ·cases e
   ·cases e
  ·cases e
 ·cases e
end
end Go.Abs
namespace Go.Abs
open Go Go.RowKit
section
variable {P:Program}{T:AR}{N0:Nat}{W0:World}{fm:FM}{ts:List Aw}{H:Heap}{w:World}{t:TypeId}{ti:TI}
def FU (fm:FM):List (Nat×List AV)->List (Nat×Value)->Prop
 |[],[]=>True
 |(i,x)::l,(j,v)::m=>i=j/\AG fm [] x v.cells.toList/\(∀ y∈x,y.flat=true)/\FU fm l m
 |_,_=>False
theorem aqx (c new:List AV) (h:new.length=c.length):overwrite c 0 new=new:=by
 simp[overwrite,h]
theorem ahy {sz:Nat}:∀ (parts:List (Nat×List AV)) (ps:List (Nat×Value)) (es es':List (List AV)) (cells:Array Value),
  FU fm parts ps->dw es sz->AG fm [] es.flatten cells.toList->(∀ x∈es.flatten,x.flat=true)->wj es sz parts=some es'->
  ∃ r,Instr.fill (fun i=>some (i*sz,sz)) cells ps=some r/\dw es' sz/\es'.length=es.length/\AG fm [] es'.flatten r.toList/\∀ x∈es'.flatten,x.flat=true
 |[],[],es,es',cells,_,ho,hv,hf,e=>by
  simp only[wj,oE]at e;subst e
  exact⟨cells,rfl,ho,rfl,hv,hf⟩
 |[],_::_,_,_,_,h,_,_,_,_=>h.elim
 |(_,_)::_,[],_,_,_,h,_,_,_,_=>h.elim
 |(i,x)::l,(j,v)::m,es,es',cells,h,ho,hv,hf,e=>by
  obtain⟨rfl,hx,hxf,hr⟩:=h
  simp only[wj]at e
  split at e
  ·rename_i hh
   obtain⟨hl,hi⟩:=hh
   have hs:v.cells.size=sz:=by have:=hx.1;simp at this;omega
   have dG:=kH sz es ho
   have cG:cells.size=es.length*sz:=by have:=hv.1;simp only[Array.length_toList]at this;omega
   have hmul:(i+1)*sz<=es.length*sz:=B7 _ hi
   rw[Nat.add_mul,Nat.one_mul]at hmul
   have nu:=gG hi
   have cP:(es[i]).length=sz:=ho _ (List.getElem_mem hi)
   have iP:=adT es i 0 _ x ho nu (by omega)
   rw[aqx _ _ (by omega),Nat.add_zero]at iP
   obtain⟨r,h1,h2,h3,h4⟩:=ahy l m (es.set i x) es' (v.cells.zipIdx.foldl (fun cs (c,j)=>cs.setIfInBounds (i*sz+j) c) cells) hr (ajW ho i hl)
    (by rw[iP,ahK _ _ _ (by omega)];exact rn hv hx (by omega)) (by rw[iP];exact rp hf hxf) e
   refine⟨r,?_,h2,by simpa using h3,h4⟩
   simp only[Instr.fill]
   rw[if_neg (by simp[hs];omega)]
   exact h1
  ·cases e
theorem ahM (h:HR N0 W0 fm ts H w) (r:List (Nat×Nat)):∀ (parts:List (Nat×AV)) (ps:List (Nat×Value)) (cs:List (Nat×List AV)),Ec fm ts parts ps->mz H.get parts=some cs->(∀ p∈j9 parts,p∈r)->
  FU (jW fm w (behind ts H r)) cs ps
 |[],[],cs,_,e,_=>by simp only[mz,oE]at e;subst e;trivial
 |[],_::_,_,h,_,_=>h.elim
 |(_,_)::_,[],_,h,_,_=>h.elim
 |(i,x)::l,(j,v)::m,cs,hp,e,hr=>by
  obtain⟨rfl,hx,hl⟩:=hp
  simp only[mz]at e
  split at e
  ·rename_i vc pH
   split at e
   ·rename_i c' l' np xh
    obtain rfl:=oi e
    obtain⟨h1,h2⟩:=hx.parts pH
    have xn:AV.aT vc=x.refs:=by
     cases x<;>simp only[AV.cells,oE]at pH<;>first|(subst pH;simp[AV.aT,AV.refs];done)|(cases pH)
    refine⟨rfl,h.aQ r h1 np (fun p hp=>hr p ?_),adW np h2,ahM h r l m l' hl xh (fun p hp=>hr p ?_)⟩
    ·simp only[j9,A9];rw[xn]at hp;exact .inl hp
    ·simp only[j9,A9];exact .inr hp
   ·cases e
  ·cases e
theorem anG (hT:AX P T) (ht:T t=some ti) (h:HR N0 W0 fm ts H w) (hH:0<H.length) {kb:Nat} (hk:∀ k,kb<=k->k<kb+16->tb ts 0 k=none) {len:Nat}{parts:List (Nat×AV)}{ps:Array (Nat×Value)}{d:De}
  (hp:Ec fm ts parts ps.toList) (e:sv H.get kb ti len parts=some d) {r:Result Next} (hr:∀ a w',(Instr.buildSlice t len ps).run P w=.ok a w'->r=.ok (.value a) w'):BW N0 W0 fm ts H w kb r d:=by
 unfold sv at e
 split at e
 ·rename_i el hd
  split at e
  ·rename_i hc
   obtain⟨hsm,gh⟩:=hc
   split at e
   ·rename_i cs gg
    split at e
    ·rename_i es pt
     obtain rfl:=oi e
     obtain⟨bZ,⟨inf,bl,aC,hb,z,hz,iR⟩,_⟩:=hT.slice ht hd
     have qI:=(hT.ok ht).fI
     have mN:z.cells.size=ti.el:=by have:=(iR fm []).1;simp at this;omega
     have h1:=h.tk (j9 parts)
     have hF:=h.wo (j9 parts)
     have hpc:=ahM h (j9 parts) parts ps.toList cs hp gg (fun _ h=>h)
     have qO:=aah z.cells len (by omega)
     rw[mN]at qO
     obtain⟨cells,f1,f2,f3,f4,f5⟩:=ahy cs ps.toList (List.replicate len ti.fI) es (madeCells z.cells (len*ti.el)) hpc (xF qI _) (by rw[qO];exact AG.replicate (iR _ []) _)
      (y6 (hT.ok ht).abM _) pt
     have hlen:es.length=len:=by simpa using f3
     have aoy:cells.size=len*ti.el:=by have:=f4.1;rw[kH _ _ f2,hlen]at this;simpa using this.symm
     have bm:(Instr.buildSlice t len ps).run P w=.ok (.slice (some ⟨w.heap.size,0,none⟩) len len) (w.alloc (.cells cells el)):=by
      by_cases h0:len*inf.size=0
      ·have lF:len=0:=by
        rcases Nat.mul_eq_zero.1 h0 with h|h
        ·exact h
        ·omega
       subst lF
       have f1':Instr.fill (fun i=>some (i*inf.size,inf.size)) #[] ps.toList=some cells:=by
        rw[aC]
        have:madeCells z.cells (0*ti.el)=#[]:=by simp[madeCells,Array.range_zero']
        rw[this]at f1;exact f1
       simp[Instr.buildSlice,run_underlying bZ,sizeOf,typeInfo,bl,Array.range_zero',f1',newRow]
      ·exact run_buildSlice w t el len ps cells inf z bZ bl hz (by rw[aC];omega) h0 (by rw[aC];exact f1)
     have iL:tb (iW ts (j9 parts)) 0 kb=none:=by rw[mX,hk kb (AY _) (by omega)];simp[nA]
     have af:0<(iW ts (j9 parts)).length:=by rw[aeE,h.len];exact hH
     have pw:len<=maxLen:=by
      have:len*1<=len*ti.el:=Nat.mul_le_mul_left _ gh
      simp[maxLen];omega
     have hn:=h1.xE (l:=0) (k:=kb) (cap:=len) (et:=el) (esz:=ti.el) (es:=es) (cells:=cells) (us:=cells.toList) (rest:=[]) (by simpa using hH) (by rw[iL];trivial) aoy
      (by omega) pw f2 gh f4 f5 (by simp)
     rw[hlen]at hn
     refine⟨_,dh (iW ts (j9 parts)) 0 kb (.arr len (some (w.heap.size,len))),_,_,.inl (hr _ _ bm),?_,?_,h.wq (j9 parts),(AD.gone ts _).trans (AD.set (by rw[iL];trivial)),?_⟩
     ·simp only[Heap.pR,Heap.bV]
      exact hn
     ·exact .loc 0 kb ti.el 0 len len w.heap.size len len _ (by rw[eE,if_pos ⟨rfl,rfl,af⟩]) (by omega) (by omega) (by omega) (fun _=>by simp)
     ·intro l k eC aN
      rw[eE,if_neg (by omega),mX,aN];simp[nA]
    ·cases e
   ·cases e
  ·cases e
 ·cases e
theorem pd {sz:Nat}:∀ (es:List (List AV)) (i:Nat),dw es sz->(es.take i).flatten=es.flatten.take (i*sz)
 |[],i,_=>by simp
 |c::es,0,_=>by simp
 |c::es,i+1,h=>by
  have hc:c.length=sz:=h c List.mem_cons_self
  have ih:=pd es i (fun d hd=>h d (List.mem_cons_of_mem _ hd))
  have e:(i+1)*sz=c.length+i*sz:=by rw[Nat.add_mul,Nat.one_mul,hc];omega
  rw[List.take_succ_cons,CG,CG,ih,e,List.take_length_add_append]
theorem wk {sz:Nat}:∀ (es:List (List AV)) (i:Nat),dw es sz->(es.drop i).flatten=es.flatten.drop (i*sz)
 |[],i,_=>by simp
 |c::es,0,_=>by simp
 |c::es,i+1,h=>by
  have hc:c.length=sz:=h c List.mem_cons_self
  have ih:=wk es i (fun d hd=>h d (List.mem_cons_of_mem _ hd))
  have e:(i+1)*sz=c.length+i*sz:=by rw[Nat.add_mul,Nat.one_mul,hc];omega
  rw[List.drop_succ_cons,CG,ih,e,List.drop_length_add_append]
theorem HR.acy (h:HR N0 W0 fm ts H w) {l k:Nat}{b:AJ} (hg:H.get l k=some b):HR N0 W0 fm ts (H.put l k (some b)) w:=by
 have e1:∀ l' k',(H.put l k (some b)).get l' k'=H.get l' k':=by
  intro l' k'
  rw[Heap.qA]
  split
  ·rename_i hh;obtain⟨rfl,rfl,_⟩:=hh;exact hg.symm
  ·rfl
 exact⟨by simpa using h.len,fun l' k' b hb=>h.aD l' k' b (by rw[<-e1];exact hb),fun l1 k1 l2 k2 b1 b2 c g1 g2=>h.inj l1 k1 l2 k2 b1 b2 c (by rw[<-e1];exact g1) (by rw[<-e1];exact g2),h.cV,
  fun l' k' b c o hb=>h.eR l' k' b c o (by rw[<-e1];exact hb),h.dL,h.size,h.dH⟩
theorem AG.take {fm:FM}{ts:List Aw}{cs:List AV}{vs:List Value} (h:AG fm ts cs vs) (n:Nat):AG fm ts (cs.take n) (vs.take n):=by
 refine⟨by simp[h.1],fun i x v a b=>?_⟩
 rw[Ca]at a b
 split at a
 ·rename_i hi;rw[if_pos hi]at b;exact h.2 i x v a b
 ·cases a
theorem AG.drop {fm:FM}{ts:List Aw}{cs:List AV}{vs:List Value} (h:AG fm ts cs vs) (n:Nat):AG fm ts (cs.drop n) (vs.drop n):=
 ⟨by simp[h.1],fun i x v a b=>h.2 (n+i) x v (by rw[Cu]at a;exact a) (by rw[Cu]at b;exact b)⟩
theorem pP {sz:Nat}{a b:List (List AV)} (h:dw a sz) (k:dw b sz):dw (a++b) sz:=by
 intro c hc
 rcases A9.1 hc with hc|hc
 ·exact h c hc
 ·exact k c hc
theorem an7 {a b:List AV} (h:∀ x∈a,x.flat=true) (k:∀ x∈b,x.flat=true):∀ x∈a++b,x.flat=true:=by
 intro x hx
 rcases A9.1 hx with hx|hx
 ·exact h x hx
 ·exact k x hx
theorem ari {e:TypeId}{inf:TypeInfo} (bZ:P.underlying t=some (.slice e)) (bl:P.info? e=some inf) (ty:TypeId) (base a:Option Addr) (n c cp:Nat) (hn:n<=c):
  (Builtin.append_ #[t,t] ty #[.slice base n c,.slice a 0 cp]).run P w=.ok (.slice base n c) w:=by
 cases base<;>cases a<;>simp[Builtin.append_,run_underlying bZ,sizeOf,typeInfo,bl,Builtin.lenOf,Builtin.firstCells,hn,loadCells,loadCellsFrom,storeCells]
structure Jy (P:Program) (t tx ty e:TypeId) (inf:TypeInfo) (z u:Value) (n:Nat) (us:List Value) (w:World):Prop where
 none:n=0->∀ (base:Option Addr) (m c:Nat),m<=c->(Builtin.append_ #[t,tx] ty #[.slice base m c,u]).run P w=.ok (.slice base m c) w
 nil:us.length=n*inf.size->0<inf.size->0<n->(n:Int)<=9223372036854775807->n*inf.bytes<=281474976710656->(Builtin.append_ #[t,tx] ty #[.slice Option.none 0 0,u]).run P w =
   .ok (.slice (some ⟨w.heap.size,0,Option.none⟩) n (grownCap w n 0 e)) (w.drew.alloc (.cells (us.toArray++Builtin.zeroCells z.cells (grownCap w n 0 e - n)) e))
 grow:us.length=n*inf.size->0<inf.size->0<n->∀ (b:Addr) (dx fQ:Nat) (oF:List Value),oF.length=dx*inf.size->(∀ j v,oF[j]?=some v->w.cell? (b.add j)=some v)->fQ<dx+n->((dx+n:Nat):Int)<=9223372036854775807->
  Builtin.nextslicecap (dx+n) fQ*inf.bytes<=281474976710656->(Builtin.append_ #[t,tx] ty #[.slice (some b) dx fQ,u]).run P w =
   .ok (.slice (some ⟨w.heap.size,0,Option.none⟩) (dx+n) (grownCap w (dx+n) fQ e))
    (w.drew.alloc (.cells (oF.toArray++us.toArray++Builtin.zeroCells z.cells (grownCap w (dx+n) fQ e - (dx+n))) e))
 room:us.length=n*inf.size->0<inf.size->0<n->∀ (g dx fQ:Nat) (cur:Array Value),w.heap[g]?=some (.cells cur e (0,0))->(∀ u∈us,u.oneCell'=true)->dx+n<=fQ->dx*inf.size+us.length<=cur.size->
  (Builtin.append_ #[t,tx] ty #[.slice (some ⟨g,0,Option.none⟩) dx fQ,u]).run P w =
   .ok (.slice (some ⟨g,0,Option.none⟩) (dx+n) fQ) (w.setRow g (cur.toList.take (dx*inf.size)++us++cur.toList.drop (dx*inf.size+us.length)).toArray)
theorem adG (hT:AX P T) (ht:T t=some ti) (h:HR N0 W0 fm ts H w) (hH:0<H.length) {kb:Nat} (hk:∀ k,kb<=k->k<kb+16->tb ts 0 k=none) {tx ty:TypeId}{x y:AV}{v u:Value}{d:De}
  (hv:VR fm ts x v) (zV:∀ new e inf z,jf H.get ti.el y=some new->P.underlying t=some (.slice e)->P.info? e=some inf->inf.size=ti.el->inf.zero=some z->∃ us,dw new ti.el/\AG fm [] new.flatten us/\(∀ x∈new.flatten,x.flat=true)/\Jy P t tx ty e inf z u new.length us w)
  (e:kG H.get kb ti x y=some d) {r:Result Next} (hr:∀ a w',(Builtin.append_ #[t,tx] ty #[v,u]).run P w=.ok a w'->r=.ok (.value a) w'):BW N0 W0 fm ts H w kb r d:=by
 unfold kG at e
 split at e
 ·rename_i el hd
  obtain⟨bZ,⟨inf,bl,aC,hb,z,hz,iR⟩,_⟩:=hT.slice ht hd
  have qI:=(hT.ok ht).fI
  have mN:z.cells.size=ti.el:=by have:=(iR fm []).1;simp at this;omega
  split at e
  ·rename_i new ei
   obtain⟨us,ho,bq,dG,hR⟩:=zV new el inf z ei bZ bl aC hz
   have cw:us.length=new.length*ti.el:=by rw[<-bq.1];exact kH _ _ ho
   split at e
   ·
    split at e
    ·rename_i hc
     obtain⟨⟨qT,pw⟩,gh⟩:=hc
     obtain rfl:=oi e
     cases hv
     have iL:=hk kb (AY _) (by omega)
     have af:0<ts.length:=by rw[h.len];exact hH
     by_cases hn:new.length=0
     ·have:new=[]:=List.eq_nil_of_length_eq_zero hn
      subst this
      have bm:=hR.none (by simp) none 0 0 (AY _)
      exact agb h hH hk el ti.el (hr _ _ bm)
     ·have bm:=hR.nil (by rw[aC];exact cw) (by omega) (by omega) (by omega) (by rw[hb];omega)
      have nu:=grownCap_ge w new.length 0 el
      have hle:=grownCap_le_maxLen w new.length 0 el (by simp[maxLen];omega)
      have qP:=(h.drew).xE (l:=0) (k:=kb) (cap:=grownCap w new.length 0 el) (et:=el) (esz:=ti.el) (es:=new) (cells:=us.toArray++Builtin.zeroCells z.cells (grownCap w new.length 0 el - new.length)) (us:=us)
       (rest:=(Builtin.zeroCells z.cells (grownCap w new.length 0 el - new.length)).toList) hH (by rw[iL];trivial) (by
        rw[Array.size_append,size_zeroCells,mN,List.size_toArray,cw,<-Nat.add_mul];congr 1;omega) nu hle ho gh bq dG (by simp)
      refine⟨fm,_,_,_,.inl (hr _ _ bm),qP,?_,AU.refl _ _,AD.set (by rw[iL];trivial),?_⟩
      ·exact .loc 0 kb ti.el 0 new.length new.length w.heap.size (grownCap w new.length 0 el) (grownCap w new.length 0 el) _ (by rw[eE,if_pos ⟨rfl,rfl,af⟩];rfl) (by omega) nu (by omega) (fun _=>by simp)
      ·intro l k eC aN
       rw[eE,if_neg (by omega)]
       exact aN
    ·cases e
   ·rename_i l k esz i n g
    split at e
    ·rename_i et aU es hg
     split at e
     ·rename_i hc
      obtain⟨rfl,rfl,rfl,rfl,rfl,kM,⟨qT,pw⟩,gh⟩:=hc
      obtain rfl:=oi e
      have cK:=h.aD l k _ hg
      have sP:=Heap.sD H _ _ _ hg
      have ab3:l<ts.length:=by rw[h.len];exact sP
      have uJ:∀ (x:TB) l' k',(l'≠0\/k'<kb\/kb+16<=k')->tb ts l' k'=none->tb ts l k≠none->tb (dh ts l k x) l' k'=none:=by
       intro x l' k' _ h0 ba
       rw[eE]
       split
       ·rename_i hh;obtain⟨rfl,rfl,_⟩:=hh;exact absurd h0 ba
       ·exact h0
      have nothing:new=[]->∀ (a0:Option Addr) (qu:Nat),v=.slice a0 n qu->n<=qu->VR fm ts (.loc l k ti.el 0 n n) v->BW N0 W0 fm ts H w kb r ⟨.loc l k ti.el 0 (n+new.length) (n+new.length),[(l,k,some (.arr et ti.el (es++new)))]⟩:=by
       rintro rfl a0 qu rfl hle bM
       have bm:=hR.none (by simp) a0 n qu hle
       have lC:HR N0 W0 fm ts (H.put l k (some (.arr et ti.el (es++[])))) w:=by
        rw[List.append_nil]
        have e1:∀ l' k',(H.put l k (some (.arr et ti.el es))).get l' k'=H.get l' k':=by
         intro l' k'
         rw[Heap.qA]
         split
         ·rename_i hh;obtain⟨rfl,rfl,_⟩:=hh;exact hg.symm
         ·rfl
        exact⟨by simpa using h.len,fun l' k' b hb=>h.aD l' k' b (by rw[<-e1];exact hb),fun l1 k1 l2 k2 b1 b2 c g1 g2=>h.inj l1 k1 l2 k2 b1 b2 c (by rw[<-e1];exact g1) (by rw[<-e1];exact g2),h.cV,
         fun l' k' b c o hb=>h.eR l' k' b c o (by rw[<-e1];exact hb),h.dL,h.size,h.dH⟩
       refine⟨fm,ts,w,_,.inl (hr _ _ bm),lC,?_,AU.refl _ _,AD.refl _,fun _ _ _ h=>h⟩
       simpa using bM
      cases hv with
      |cW _ _ _ _ _ _ a' bf aN=>rw[aN]at cK;cases cK
      |cX _ _ _ _ _ _ a' bf m' c aN jI=>rw[aN]at cK;have:=cK.gr.1;omega
      |cH _ _ _ a1 aN=>
       rw[aN]at cK
       have pt:=cK.gr.2.1 rfl
       subst pt
       by_cases hn:new.length=0
       ·exact nothing (List.eq_nil_of_length_eq_zero hn) a1 0 rfl (AY _) (.cH l k ti.el _ aN)
       ·simp only[CA]at qT pw
        have bm:(Builtin.append_ #[t,tx] ty #[.slice a1 0 0,u]).run P w =
          .ok (.slice (some ⟨w.heap.size,0,none⟩) new.length (grownCap w new.length 0 et)) (w.drew.alloc (.cells (us.toArray++Builtin.zeroCells z.cells (grownCap w new.length 0 et - new.length)) et)):=by
         cases a1 with
         |none=>exact hR.nil (by rw[aC];exact cw) (by omega) (by omega) (by omega) (by rw[hb];omega)
         |some b1=>
          have:=hR.grow (by rw[aC];exact cw) (by omega) (by omega) b1 0 0 [] (by simp) (by simp) (by omega) (by omega) (by rw[CA];exact growslice_fits (by omega) (by rw[hb];omega))
          simpa using this
        have nu:=grownCap_ge w new.length 0 et
        have hle:=grownCap_le_maxLen w new.length 0 et (by simp[maxLen];omega)
        have w7:Bv (tb ts l k) (some (.arr new.length (some (w.heap.size,grownCap w new.length 0 et)))):=by
         rw[aN];exact .inr (.inr ⟨_,_,rfl,by omega⟩)
        have qP:=(h.drew).xE (l:=l) (k:=k) (cap:=grownCap w new.length 0 et) (et:=et) (esz:=ti.el) (es:=new) (cells:=us.toArray++Builtin.zeroCells z.cells (grownCap w new.length 0 et - new.length)) (us:=us)
         (rest:=(Builtin.zeroCells z.cells (grownCap w new.length 0 et - new.length)).toList) sP w7 (by
          rw[Array.size_append,size_zeroCells,mN,List.size_toArray,cw,<-Nat.add_mul];congr 1;omega) nu hle ho gh bq dG (by simp)
        refine⟨fm,_,_,_,.inl (hr _ _ bm),by simpa [Heap.bV] using qP,?_,AU.refl _ _,AD.set w7,fun l' k' e9 h0=>uJ _ l' k' e9 h0 (by rw[aN];simp)⟩
        simp only[CA]
        exact .loc l k ti.el 0 new.length new.length w.heap.size (grownCap w new.length 0 et) (grownCap w new.length 0 et) _ (by rw[eE,if_pos ⟨rfl,rfl,ab3⟩]) (by omega) nu (by omega) (fun _=>by simp)
      |loc _ _ _ _ _ _ c cap bf a' aN bT bU cP ha=>
       rw[aN]at cK
       obtain⟨hA,hN⟩:=cK.gr.2.2 c cap rfl
       obtain⟨cells,c1,c2,c3,c4,c5,c6,c7,c8⟩:=hA.flat
       have gB:=ha (.inr rfl)
       simp only[Nat.zero_mul]at gB
       subst gB
       have xa:bf=cap:=by omega
       subst xa
       by_cases hn:new.length=0
       ·exact nothing (List.eq_nil_of_length_eq_zero hn) _ bf rfl bU (.loc l k ti.el 0 n n c bf bf _ aN bT bU cP ha)
       ·have asT:=kH ti.el es c5
        have hmul:es.length*ti.el<=cells.size:=by rw[c2];exact B7 _ c3
        have aou:∀ j u,(cells.toList.take (es.length*ti.el))[j]?=some u->w.cell? ((⟨c,0,none⟩:Addr).add j)=some u:=by
         intro j u hu
         rw[Ca]at hu
         split at hu
         ·rw[Addr.add_lit]
          simp only[World.cell?,c1,CA]
          simpa using hu
         ·cases hu
        have hVs:AG fm [] (es++new).flatten (cells.toList.take (es.length*ti.el)++us):=by
         rw[List.flatten_append];exact c7.append bq
        have hFs:∀ x∈(es++new).flatten,x.flat=true:=by rw[List.flatten_append];exact an7 c8 dG
        have hOs:=pP c5 ho
        have w7:∀ c',Bv (tb ts l k) (some (.arr (es++new).length c')):=by
         intro c';rw[aN];exact .inr (.inr ⟨_,_,rfl,by simp;omega⟩)
        by_cases eT:n+new.length<=bf
        ·have bm:=hR.room (by rw[aC];exact cw) (by omega) (by omega) c n bf cells c1 (bq.rk dG) eT (by
          rw[aC,cw,<-Nat.add_mul,c2];exact B7 _ eT)
         rw[aC]at bm
         have hs:=h.xQ hg aN (es':=es++new) (vs':=cells.toList.take (n*ti.el)++us++cells.toList.drop (n*ti.el+us.length)) (us:=cells.toList.take (es.length*ti.el)++us) (rest:=cells.toList.drop (n*ti.el+us.length))
          (by simp) (by simp;omega) hOs (by
           have:n*ti.el+us.length<=cells.size:=by rw[cw,<-Nat.add_mul,c2];exact B7 _ eT
           simp;omega) hVs hFs (by rw[kM])
         refine⟨fm,_,_,_,.inl (hr _ _ bm),hs,?_,AU.refl _ _,AD.set (w7 _),fun l' k' e9 h0=>uJ _ l' k' e9 h0 (by rw[aN];simp)⟩
         exact .loc l k ti.el 0 (n+new.length) (n+new.length) c bf bf _ (by rw[eE,if_pos ⟨rfl,rfl,ab3⟩];simp[kM]) (by omega) eT (by omega) (fun _=>by simp)
        ·have bm:=hR.grow (by rw[aC];exact cw) (by omega) (by omega) ⟨c,0,none⟩ n bf (cells.toList.take (es.length*ti.el)) (by rw[aC,A8,Nat.min_eq_left (by simpa using hmul),kM]) aou (by omega) (by omega)
          (growslice_fits (by omega) (by rw[hb];exact qT))
         have nu:=grownCap_ge w (n+new.length) bf et
         have hle:=grownCap_le_maxLen w (n+new.length) bf et (by simp[maxLen];omega)
         have qP:=(h.drew).xE (l:=l) (k:=k) (cap:=grownCap w (n+new.length) bf et) (et:=et) (esz:=ti.el) (es:=es++new)
          (cells:=(cells.toList.take (es.length*ti.el)).toArray++us.toArray++Builtin.zeroCells z.cells (grownCap w (n+new.length) bf et - (n+new.length))) (us:=cells.toList.take (es.length*ti.el)++us)
          (rest:=(Builtin.zeroCells z.cells (grownCap w (n+new.length) bf et - (n+new.length))).toList) sP (w7 _) (by
           rw[Array.size_append,Array.size_append,size_zeroCells,mN,List.size_toArray,List.size_toArray,cw,A8,Nat.min_eq_left (by simpa using hmul),<-Nat.add_mul,<-Nat.add_mul];congr 1;omega) (by simp;omega) hle hOs gh hVs hFs (by simp)
         refine⟨fm,_,_,_,.inl (hr _ _ bm),qP,?_,AU.refl _ _,AD.set (w7 _),fun l' k' e9 h0=>uJ _ l' k' e9 h0 (by rw[aN];simp)⟩
         exact .loc l k ti.el 0 (n+new.length) (n+new.length) w.heap.size (grownCap w (n+new.length) bf et) (grownCap w (n+new.length) bf et) _ (by rw[eE,if_pos ⟨rfl,rfl,ab3⟩];simp[kM]) (by omega) nu (by omega) (fun _=>by simp)
     ·split at e
      ·rename_i hc
       obtain⟨⟨rfl,rfl,rfl⟩,⟨rfl,kM⟩,eT,gh⟩:=hc
       obtain rfl:=oi e
       have cK:=h.aD l k _ hg
       have sP:=Heap.sD H _ _ _ hg
       have ab3:l<ts.length:=by rw[h.len];exact sP
       have uJ:∀ (x:TB) l' k',(l'≠0\/k'<kb\/kb+16<=k')->tb ts l' k'=none->tb ts l k≠none->tb (dh ts l k x) l' k'=none:=by
        intro x l' k' _ h0 ba
        rw[eE]
        split
        ·rename_i hh;obtain⟨rfl,rfl,_⟩:=hh;exact absurd h0 ba
        ·exact h0
       have aoB:(es.take n++(new++es.drop (n+new.length))).length=es.length:=by simp;omega
       have nothing:new=[]->∀ (a0:Option Addr) (qu:Nat),v=.slice a0 n qu->n<=qu->VR fm ts (.loc l k ti.el 0 n g) v->BW N0 W0 fm ts H w kb r ⟨.loc l k ti.el 0 (n+new.length) g,[(l,k,some (.arr et ti.el (es.take n++(new++es.drop (n+new.length)))))]⟩:=by
        rintro rfl a0 qu rfl hle bM
        have bm:=hR.none (by simp) a0 n qu hle
        have e0:es.take n++([]++es.drop (n+([]:List (List AV)).length))=es:=by simp
        rw[e0]
        refine⟨fm,ts,w,_,.inl (hr _ _ bm),h.acy hg,?_,AU.refl _ _,AD.refl _,fun _ _ _ h=>h⟩
        simpa using bM
       cases hv with
       |cW _ _ _ _ _ _ a' bf aN=>rw[aN]at cK;cases cK
       |cX _ _ _ _ _ _ a' bf m' c aN jI=>rw[aN]at cK;have:=cK.gr.1;omega
       |cH _ _ _ a1 aN=>
        have hn:new=[]:=List.eq_nil_of_length_eq_zero (by omega)
        exact nothing hn a1 0 rfl (AY _) (.cH l k ti.el _ aN)
       |loc _ _ _ _ _ _ c cap bf a' aN bT bU cP ha=>
        rw[aN]at cK
        obtain⟨hA,hN⟩:=cK.gr.2.2 c cap rfl
        obtain⟨cells,c1,c2,c3,c4,c5,c6,c7,c8⟩:=hA.flat
        have gB:=ha (.inr rfl)
        simp only[Nat.zero_mul]at gB
        subst gB
        have xa:bf=cap:=by omega
        subst xa
        by_cases hn:new.length=0
        ·exact nothing (List.eq_nil_of_length_eq_zero hn) _ bf rfl bU (.loc l k ti.el 0 n g c bf bf _ aN bT bU cP ha)
        ·have uO:es.length*ti.el<=cells.size:=by rw[c2];exact B7 _ c3
         have jJ:(n+new.length)*ti.el<=es.length*ti.el:=B7 _ (by omega)
         rw[Nat.add_mul]at jJ
         have bm:=hR.room (by rw[aC];exact cw) (by omega) (by omega) c n bf cells c1 (bq.rk dG) (by omega) (by rw[aC,cw];omega)
         rw[aC]at bm
         have as2:(cells.toList.take (es.length*ti.el)).length=es.length*ti.el:=by rw[A8,Nat.min_eq_left (by simpa using uO)]
         have apa:AG fm [] (es.take n).flatten (cells.toList.take (n*ti.el)):=by
          have:=AG.take c7 (n*ti.el)
          rw[<-pd es n c5,List.take_take,Nat.min_eq_left (by omega)]at this
          exact this
         have sN:AG fm [] (es.drop (n+new.length)).flatten ((cells.toList.take (es.length*ti.el)).drop (n*ti.el+us.length)):=by
          have:=AG.drop c7 (n*ti.el+us.length)
          have e2:n*ti.el+us.length=(n+new.length)*ti.el:=by rw[cw,Nat.add_mul]
          rw[e2]at this ⊢
          rw[<-wk es (n+new.length) c5]at this
          exact this
         have hOs:dw (es.take n++(new++es.drop (n+new.length))) ti.el:=
          pP (fun d hd=>c5 d (BD hd)) (pP ho (fun d hd=>c5 d (Cj hd)))
         have hVs:AG fm [] (es.take n++(new++es.drop (n+new.length))).flatten (cells.toList.take (n*ti.el)++(us++(cells.toList.take (es.length*ti.el)).drop (n*ti.el+us.length))):=by
          rw[List.flatten_append,List.flatten_append]
          exact apa.append (bq.append sN)
         have hFs:∀ x∈(es.take n++(new++es.drop (n+new.length))).flatten,x.flat=true:=by
          intro x hx
          rw[List.flatten_append,List.flatten_append]at hx
          have pt:∀ x∈es.flatten,x.flat=true:=c8
          rcases A9.1 hx with hx|hx
          ·obtain⟨d,hd,hxd⟩:=List.mem_flatten.1 hx
           exact pt x (List.mem_flatten.2 ⟨d,BD hd,hxd⟩)
          ·rcases A9.1 hx with hx|hx
           ·exact dG x hx
           ·obtain⟨d,hd,hxd⟩:=List.mem_flatten.1 hx
            exact pt x (List.mem_flatten.2 ⟨d,Cj hd,hxd⟩)
         have hs:=h.xQ hg aN (es':=es.take n++(new++es.drop (n+new.length))) (vs':=cells.toList.take (n*ti.el)++us++cells.toList.drop (n*ti.el+us.length))
          (us:=cells.toList.take (n*ti.el)++(us++(cells.toList.take (es.length*ti.el)).drop (n*ti.el+us.length))) (rest:=cells.toList.drop (es.length*ti.el))
          (by omega) (by omega) hOs (by
           have:n*ti.el+us.length<=cells.size:=by omega
           simp;omega) hVs hFs (by
           rw[Cy,Cy,Cy]
           congr 2
           have e3:cells.toList.drop (n*ti.el+us.length)=(cells.toList.take (es.length*ti.el)).drop (n*ti.el+us.length)++cells.toList.drop (es.length*ti.el):=by
            rw[List.drop_take]
            have e4:es.length*ti.el=(n*ti.el+us.length)+(es.length*ti.el - (n*ti.el+us.length)):=by omega
            conv=>rhs;arg 2;rw[e4,<-List.drop_drop]
            rw[CY]
           exact e3)
         rw[aoB,kM]at hs
         have iQ:dh ts l k (.arr g (some (c,bf)))=ts:=xW aN
         rw[iQ]at hs
         refine⟨fm,ts,_,_,.inl (hr _ _ bm),hs,?_,AU.refl _ _,AD.refl _,fun _ _ _ h=>h⟩
         exact .loc l k ti.el 0 (n+new.length) g c bf bf _ aN (by omega) (by omega) (by omega) (fun _=>by simp)
      ·cases e
    ·cases e
   ·cases e
  ·cases e
 ·cases e
theorem anE (hT:AX P T) (ht:T t=some ti) (h:HR N0 W0 fm ts H w) (hH:0<H.length) {kb:Nat} (hk:∀ k,kb<=k->k<kb+16->tb ts 0 k=none) {ty:TypeId}{x y:AV}{v u:Value}{d:De}
  (hv:VR fm ts x v) (hu:VR fm ts y u) (e:kG H.get kb ti x y=some d) {r:Result Next} (hr:∀ a w',(Builtin.append_ #[t,t] ty #[v,u]).run P w=.ok a w'->r=.ok (.value a) w'):BW N0 W0 fm ts H w kb r d:=by
 refine adG hT ht h hH hk hv ?_ e hr
 intro new el inf z ei bZ bl aC hz
 obtain⟨a,cp,us,rfl,ho,bq,dG,bG⟩:=h.elems hu ei
 have cw:us.length=new.length*ti.el:=by rw[<-bq.1];exact kH _ _ ho
 have aev:0<us.length->∃ ad,a=some ad/\∀ j u,us[j]?=some u->w.cell? (ad.add j)=some u:=by
  intro af
  obtain⟨ad,rfl,_⟩:=bG 0 _ (gG af)
  refine⟨ad,rfl,fun j u hu=>?_⟩
  obtain⟨ad',h1,h2⟩:=bG j u hu
  cases h1;exact h2
 refine⟨us,ho,bq,dG,?_,?_,?_,?_⟩
 ·intro hn base m c hm
  rw[hn]
  exact ari (P:=P) (w:=w) bZ bl ty base a m c cp hm
 ·intro hl he hn mD wR
  obtain⟨ad,rfl,zg⟩:=aev (by rw[hl];exact Nat.mul_pos hn he)
  exact run_append_nil (P:=P) w t ty el inf z bZ bl hz ad new.length cp us hl zg hn mD wR
 ·intro hl he hn b dx fQ oF zL zM hg mD eT
  obtain⟨ad,rfl,zg⟩:=aev (by rw[hl];exact Nat.mul_pos hn he)
  exact run_append_grow (P:=P) w t ty el inf z bZ bl hz b dx fQ oF zL zM ad new.length cp us hl zg hg mD eT
 ·intro hl he hn g dx fQ cur hg h1 mK hf
  obtain⟨ad,rfl,zg⟩:=aev (by rw[hl];exact Nat.mul_pos hn he)
  exact run_append_room (P:=P) w t ty el inf bZ bl g dx fQ cur hg ad new.length cp us hl zg h1 mK hf
theorem xT (s:ByteArray):(kY s).length=s.size:=by unfold kY;rw[Bu];rfl
theorem aj2 (s:ByteArray):(kY s).flatten=s.data.toList.map fun c=>AV.int .u8 (c.toNat:Int):=by
 unfold kY
 induction s.data.toList with
 |nil=>rfl
 |cons x l ih=>simp[ih]
theorem anC (hT:AX P T) (ht:T t=some ti) (h:HR N0 W0 fm ts H w) (hH:0<H.length) {kb:Nat} (hk:∀ k,kb<=k->k<kb+16->tb ts 0 k=none) {tx ty:TypeId}{x:AV}{v:Value}{s:ByteArray}{d:De}
  (hv:VR fm ts x v) (hu:P.underlying tx=some .string) (h1:ti.el=1) (e:kG H.get kb ti x (.sl 1 (kY s))=some d) {r:Result Next} (hr:∀ a w',(Builtin.append_ #[t,tx] ty #[v,.string s]).run P w=.ok a w'->r=.ok (.value a) w'):BW N0 W0 fm ts H w kb r d:=by
 refine adG hT ht h hH hk hv ?_ e hr
 intro new el inf z ei bZ bl aC hz
 have z8:inf.size=1:=by omega
 simp only[jf,if_pos h1.symm,oE]at ei
 subst ei
 have hS:∀ w:World,Src P inf.size tx (.string s) (kY s).length (byteCells s) w:=fun w=>by rw[z8,xT];exact Src.ofString w hu s
 refine⟨byteCells s,?_,?_,?_,?_,?_,?_,?_⟩
 ·intro c hc
  obtain⟨_,_,rfl⟩:=List.mem_map.1 hc
  rw[h1];rfl
 ·rw[aj2]
  refine⟨by unfold byteCells;simp,?_⟩
  intro i x v hx hv
  unfold byteCells at hv
  rw[BX,mS]at hx hv
  obtain⟨p,hp,rfl⟩:=hx
  obtain⟨q,hq,rfl⟩:=hv
  rw[hp]at hq
  obtain rfl:=oi hq
  exact .int _ _
 ·rw[aj2]
  intro x hx
  obtain⟨_,_,rfl⟩:=List.mem_map.1 hx
  rfl
 ·intro hn base m c hm
  have h0:s.size=0:=by rw[<-xT];exact hn
  cases base<;>simp[Builtin.append_,run_underlying bZ,run_underlying hu,sizeOf,typeInfo,bl,Builtin.lenOf,h0,hm,Builtin.firstCells,storeCells]
 ·intro hl _ hn mD wR
  have:=run_append_grow_src (P:=P) w t tx ty el inf z bZ bl hz none 0 0 [] (run_firstCells_none w.drew inf.size 0 0 0) (.string s) (kY s).length (byteCells s) (hS w) (by omega) (by simpa using mD) (by rw[CA,nextslicecap_zero hn];exact wR)
  simpa using this
 ·intro hl _ hn b dx fQ oF zL zM hg mD eT
  have hf:=run_firstCells_some (P:=P) w.drew inf.size dx b dx fQ oF zL (by simpa using zM)
  have:=run_append_grow_src (P:=P) w t tx ty el inf z bZ bl hz (some b) dx fQ oF hf (.string s) (kY s).length (byteCells s) (hS w) hg mD eT
  simpa using this
 ·intro hl _ hn g dx fQ cur hg h1 mK hf
  have gY:=run_storeCells_at P g (dx*inf.size) el (byteCells s) 0 cur w hg (by simpa using hf) h1
  simp only[Nat.add_zero]at gY
  have hc:=(hS w).cells
  have hle:dx+s.size<=fQ:=by rw[<-xT];exact mK
  have np:(Builtin.firstCells inf.size s.size (.string s)).run P w=.ok (byteCells s).toArray w:=by rw[<-xT];exact hc
  simp[Builtin.append_,run_underlying bZ,run_underlying hu,sizeOf,typeInfo,bl,Builtin.lenOf,hle,np,Addr.add_lit,gY,xT]
theorem anD (hT:AX P T) (ht:T t=some ti) (h:HR N0 W0 fm ts H w) (hH:0<H.length) {kb:Nat} (hk:∀ k,kb<=k->k<kb+16->tb ts 0 k=none) {tx ty:TypeId}{kn kq:IntKind}{x:AV}{v:Value}{n:Int}{d:De}
  (hv:VR fm ts x v) (hu:P.underlying tx=some (.int kn)) (e:wh H.get kb ti x n=some d) {r:Result Next} (hr:∀ a w',(Builtin.append_ #[t,tx] ty #[v,.int kq n]).run P w=.ok a w'->r=.ok (.value a) w'):BW N0 W0 fm ts H w kb r d:=by
 unfold wh at e
 split at e
 ·rename_i hc
  obtain⟨h0,⟨uQ,mK⟩,asS⟩:=hc
  obtain⟨m,rfl⟩:∃ m:Nat,n=m:=⟨n.toNat,by omega⟩
  simp only[BQ]at e uQ mK
  refine adG hT ht h hH hk hv ?_ e hr
  intro new el inf z ei bZ bl aC hz
  simp only[jf,if_true,oE]at ei
  subst ei
  have hd:ti.d=.slice el:=by
   unfold kG at e
   split at e
   ·rename_i el' hd
    have:=(hT.slice ht hd).1
    rw[bZ]at this;cases this;exact hd
   ·cases e
  obtain⟨_,⟨as5,aif,_,hb,z',eD,iR⟩,_⟩:=hT.slice ht hd
  rw[bl]at aif
  obtain rfl:=oi aif
  rw[hz]at eD
  obtain rfl:=oi eD
  have qI:=(hT.ok ht).fI
  have mN:z.cells.size=ti.el:=by have:=(iR fm []).1;simp at this;omega
  have qO:=aah z.cells m (by omega)
  have sZ:(Builtin.zeroCells z.cells m).toList=(List.replicate m z.cells.toList).flatten:=qO
  have q9:(Builtin.zeroCells z.cells m).size=m*ti.el:=by rw[size_zeroCells,mN]
  have kN:AG fm [] (List.replicate m ti.fI).flatten (Builtin.zeroCells z.cells m).toList:=by rw[sZ];exact AG.replicate (iR fm []) m
  have hw:IntKind.i64.wrap (m:Int)=m:=by rw[IntKind.wrap_i64];omega
  have aoh:¬ (281474976710656<(m:Int)*(inf.bytes:Int)):=by rw[<-Int.natCast_mul,hb];omega
  have zG:¬ ((m:Int)<0):=by omega
  refine⟨(Builtin.zeroCells z.cells m).toList,xF qI m,kN,y6 (hT.ok ht).abM m,?_,?_,?_,?_⟩
  ·intro hn base m' c hm
   have qN:m=0:=by simpa using hn
   subst qN
   have sX:IntKind.i64.wrap 0=0:=by rw[IntKind.wrap_i64];omega
   cases base<;>simp[Builtin.append_,run_underlying bZ,run_underlying hu,sizeOf,typeInfo,bl,asInt,asIntOf,sX,hm,storeCells]
  ·intro hl _ hn mD wR
   simp only[CR]at hl hn mD wR ⊢
   have:=Lib.run_append_nil_zeros (P:=P) w t tx ty el inf z kq kn bZ hu bl hz m hn (by omega) mD wR
   simpa using this
  ·intro hl _ hn b dx fQ oF zL zM hg mD eT
   simp only[CR]at hl hn hg mD eT ⊢
   have hf:=run_firstCells_some (P:=P) w.drew inf.size dx b dx fQ oF zL (by simpa using zM)
   have:=Lib.run_append_grow_zeros (P:=P) w t tx ty el inf z kq kn bZ hu bl hz (some b) dx fQ oF hf m hn (by omega) hg mD (by rw[hb];omega) eT
   simpa using this
  ·intro hl _ hn g dx fQ cur hg h1 uR hf
   simp only[CR]at hn uR ⊢
   have gY:=run_storeCells_at P g (dx*inf.size) el (Builtin.zeroCells z.cells m).toList 0 cur w hg (by simpa using hf) h1
   simp only[Nat.add_zero]at gY
   have mH:¬ (m*inf.size=0):=Nat.mul_ne_zero (by omega) (by omega)
   simp[Builtin.append_,run_underlying bZ,run_underlying hu,sizeOf,typeInfo,zeroValue,bl,hz,asInt,asIntOf,hw,zG,aoh,uR,mH,Addr.add_lit,gY]
 ·cases e
end
theorem xG {sz:Nat}{es:List (List AV)} (h:dw es sz) (n:Nat):dw (es.take n) sz:=fun c hc=>h c (BD hc)
theorem aal {sz:Nat}{es:List (List AV)} (h:dw es sz) (n:Nat):dw (es.drop n) sz:=fun c hc=>h c (Cj hc)
theorem ahH {sz:Nat}{es new:List (List AV)} (i:Nat) (he:dw es sz) (hn:dw new sz):
  (es.take i++(new++es.drop (i+new.length))).flatten=overwrite es.flatten (i*sz) new.flatten:=by
 simp only[List.flatten_append,overwrite]
 rw[pd es i he,wk es _ he,kH sz new hn,Nat.add_mul]
section
variable {P:Program}{T:AR}{N0:Nat}{W0:World}{fm:FM}{ts:List Aw}{H:Heap}{w:World}{t:TypeId}{ti:TI}
theorem ajI {a:Option Addr}{m cp sz:Nat}{us:List Value} (cw:us.length=m*sz) (bG:∀ j u,us[j]?=some u->∃ ad,a=some ad/\w.cell? (ad.add j)=some u) (k:Nat) (hk:k<=m):
  (Builtin.firstCells sz k (.slice a m cp)).run P w=.ok (us.take (k*sz)).toArray w:=by
 have hmul:k*sz<=m*sz:=B7 _ hk
 cases a with
 |none=>
  have:us=[]:=by
   cases us with
   |nil=>rfl
   |cons u us=>obtain⟨_,h,_⟩:=bG 0 u rfl;cases h
  subst this
  simp[Builtin.firstCells]
 |some ad=>
  refine run_firstCells_some (P:=P) w sz k ad m cp (us.take (k*sz)) (by rw[A8];omega) ?_
  intro j v hv
  rw[Ca]at hv
  split at hv
  ·obtain⟨ad',h1,h2⟩:=bG j v hv
   cases h1;exact h2
  ·cases hv
theorem anK (hT:AX P T) (ht:T t=some ti) (h:HR N0 W0 fm ts H w) {kb:Nat}{ty:TypeId}{x y:AV}{v u:Value}{d:De}
  (hv:VR fm ts x v) (hu:VR fm ts y u) (e:uq H.get ti x y=some d) {r:Result Next} (hr:∀ a w',(Builtin.copy_ #[t,t] ty #[v,u]).run P w=.ok a w'->r=.ok (.value a) w'):BW N0 W0 fm ts H w kb r d:=by
 unfold uq at e
 split at e
 ·rename_i el hd
  obtain⟨bZ,⟨inf,bl,aC,hb,z,hz,iR⟩,_⟩:=hT.slice ht hd
  split at e
  ·rename_i src zV
   obtain⟨a,cp,us,rfl,ho,bq,dG,bG⟩:=h.elems hu zV
   have cw:us.length=src.length*ti.el:=by rw[<-bq.1];exact kH _ _ ho
   have aet:∀ (base:Option Addr) (n bf:Nat),min src.length n=0->(Builtin.copy_ #[t,t] ty #[.slice base n bf,.slice a src.length cp]).run P w=.ok (goInt 0) w:=by
    intro base n bf hm
    have hf:=ajI (P:=P) (w:=w) (cp:=cp) cw bG 0 (Nat.zero_le _)
    have zE:Nat.min src.length n=0:=hm
    cases base<;>simp[Builtin.copy_,run_underlying bZ,Builtin.lenOf,sizeOf,typeInfo,bl,aC,zE,hf,storeCells]
   have aiu:∀ (c o n bf:Nat) (cells:Array Value) (et:TypeId),w.heap[c]?=some (.cells cells et (0,0))->o+min src.length n*ti.el<=cells.size->
     (Builtin.copy_ #[t,t] ty #[.slice (some ⟨c,o,none⟩) n bf,.slice a src.length cp]).run P w=.ok (goInt (min src.length n:Nat)) (w.setRow c (cells.toList.take o++us.take (min src.length n*ti.el)++cells.toList.drop (o+(us.take (min src.length n*ti.el)).length)).toArray):=by
    intro c o n bf cells et hc hle
    have hf:=ajI (P:=P) (w:=w) (cp:=cp) cw bG (min src.length n) (Nat.min_le_left _ _)
    have hmul:min src.length n*ti.el<=src.length*ti.el:=B7 _ (Nat.min_le_left _ _)
    have gY:=run_storeCells_at P c o et (us.take (min src.length n*ti.el)) 0 cells w hc (by rw[A8];omega) (fun v hv=>bq.rk dG v (BD hv))
    simp only[Nat.add_zero]at gY
    have zE:Nat.min src.length n=min src.length n:=rfl
    simp only[Builtin.copy_,Sem.run_bind,run_underlying bZ,Result.andThen_ok,Builtin.lenOf,sizeOf,typeInfo,run_program,bl,aC,zE,Sem.run_pure,hf,gY,List.getElem?_toArray,Cl,Ci]
   split at e
   ·obtain rfl:=oi e
    cases hv
    exact .pure h (hr _ _ (aet none 0 0 (by simp))) (.int _ _)
   ·rename_i l k esz i n g
    split at e
    ·rename_i et aU es hg
     split at e
     ·rename_i hc
      obtain⟨rfl,rfl,kM,bT⟩:=hc
      obtain rfl:=oi e
      have cK:=h.aD l k _ hg
      have sP:=Heap.sD H _ _ _ hg
      have same:min src.length n=0->es.take i++(src.take n++es.drop (i+min src.length n))=es:=by
       intro hm
       have:src.take n=[]:=by
        apply List.eq_nil_of_length_eq_zero;rw[A8];omega
       rw[hm,this];simp
      have nothing:min src.length n=0->∀ (base:Option Addr) (bf:Nat),v=.slice base n bf->BW N0 W0 fm ts H w kb r ⟨.int .i64 (min src.length n),[(l,k,some (.arr et ti.el (es.take i++(src.take n++es.drop (i+min src.length n)))))]⟩:=by
       rintro hm base bf rfl
       rw[same hm]
       refine⟨fm,ts,w,_,.inl (hr _ _ (aet base n bf hm)),h.acy hg,?_,AU.refl _ _,AD.refl _,fun _ _ _ h=>h⟩
       have e0:(min (src.length:Int) (n:Int))=0:=by omega
       rw[e0]
       exact .int _ _
      cases hv with
      |cW _ _ _ _ _ _ a' bf aN=>rw[aN]at cK;cases cK
      |cX _ _ _ _ _ _ a' bf m' c aN jI=>rw[aN]at cK;have:=cK.gr.1;omega
      |cH _ _ _ a1 aN=>exact nothing (by simp) a1 0 rfl
      |loc _ _ _ _ _ _ c cap bf a' aN zz bU cP ha=>
       rw[aN]at cK
       obtain⟨hA,hN⟩:=cK.gr.2.2 c cap rfl
       obtain⟨cells,c1,c2,c3,c4,c5,c6,c7,c8⟩:=hA.flat
       by_cases hm:min src.length n=0
       ·exact nothing hm (some a') bf rfl
       ·have gB:=ha (.inl (by omega))
        subst gB
        have hmul:(i+min src.length n)*ti.el<=es.length*ti.el:=B7 _ (by omega)
        have uO:es.length*ti.el<=cells.size:=by rw[c2];exact B7 _ c3
        rw[Nat.add_mul]at hmul
        have bm:=aiu c (i*ti.el) n bf cells et c1 (by omega)
        have aex:src.take n=src.take (min src.length n):=by
         rw[<-BA (l:=src),List.take_take,List.take_take,BA];congr 1;omega
        have eK:(src.take (min src.length n)).length=min src.length n:=by rw[A8];omega
        have kN:AG fm [] (src.take (min src.length n)).flatten (us.take (min src.length n*ti.el)):=by rw[pd src _ ho];exact bq.take _
        have xi:∀ x∈(src.take (min src.length n)).flatten,x.flat=true:=by
         rw[pd src _ ho];exact fun x hx=>dG x (BD hx)
        have zY:(us.take (min src.length n*ti.el)).length=min src.length n*ti.el:=by
         rw[A8,cw];exact Nat.min_eq_left (B7 _ (Nat.min_le_left _ _))
        have pC:=ahH i c5 (xG ho (min src.length n))
        rw[eK]at pC
        have uG:(es.take i++(src.take (min src.length n)++es.drop (i+min src.length n))).length=es.length:=by simp;omega
        rw[aex]
        have hs:=h.xQ hg aN (es':=es.take i++(src.take (min src.length n)++es.drop (i+min src.length n)))
         (vs':=cells.toList.take (i*ti.el)++us.take (min src.length n*ti.el)++cells.toList.drop (i*ti.el+(us.take (min src.length n*ti.el)).length))
         (us:=(cells.toList.take (es.length*ti.el)).take (i*ti.el)++(us.take (min src.length n*ti.el)++(cells.toList.take (es.length*ti.el)).drop (i*ti.el+(us.take (min src.length n*ti.el)).length))) (rest:=cells.toList.drop (es.length*ti.el))
         (by rw[uG];exact AY _) (by rw[uG];exact c3) (pP (xG c5 _) (pP (xG ho _) (aal c5 _)))
         (by rw[A1,A1,zY,A8,Bt,Array.length_toList];omega)
         (by rw[pC];exact rn c7 kN (by rw[kN.1,zY,kH _ _ c5];omega))
         (by rw[pC];exact rp c8 xi)
         (acG _ _ _ _ (by rw[zY];omega) (by simpa using uO))
        rw[uG,kM,xW aN]at hs
        refine⟨fm,ts,_,_,.inl (hr _ _ bm),hs,?_,AU.refl _ _,AD.refl _,fun _ _ _ h=>h⟩
        have e0:(min (src.length:Int) (n:Int))=((min src.length n:Nat):Int):=by omega
        rw[e0]
        exact .int _ _
     ·cases e
    ·cases e
   ·rename_i l k esz o n
    split at e
    ·rename_i cs hg
     split at e
     ·rename_i hc
      obtain⟨rfl,gh,rfl,hon⟩:=hc
      obtain rfl:=oi e
      cases hv with
      |bP _ _ _ _ _ c bf a' aN bU ha=>
       obtain⟨cells,et,c1,c2,c3,c4⟩:=h.adr hg aN
       by_cases hm:min src.length n=0
       ·have:src.take n=[]:=by
         apply List.eq_nil_of_length_eq_zero;rw[A8];omega
        have e1:overwrite cs o (src.take n).flatten=cs:=by rw[this];simp[overwrite]
        rw[e1]
        refine⟨fm,ts,w,_,.inl (hr _ _ (aet (some a') n bf hm)),h.acy hg,?_,AU.refl _ _,AD.refl _,fun _ _ _ h=>h⟩
        have e0:(min (src.length:Int) (n:Int))=0:=by omega
        rw[e0]
        exact .int _ _
       ·have gB:=ha (by omega)
        subst gB
        have bm:=aiu c o n bf cells et c1 (by rw[gh,Nat.mul_one];omega)
        have aex:src.take n=src.take (min src.length n):=by
         rw[<-BA (l:=src),List.take_take,List.take_take,BA];congr 1;omega
        have zY:(us.take (min src.length n*ti.el)).length=min src.length n*ti.el:=by
         rw[A8,cw];exact Nat.min_eq_left (B7 _ (Nat.min_le_left _ _))
        have kN:AG fm [] (src.take (min src.length n)).flatten (us.take (min src.length n*ti.el)):=by rw[pd src _ ho];exact bq.take _
        have xi:∀ x∈(src.take (min src.length n)).flatten,x.flat=true:=by
         rw[pd src _ ho];exact fun x hx=>dG x (BD hx)
        rw[aex]
        have hs:=h.acI hg aN (cs':=overwrite cs o (src.take (min src.length n)).flatten) (rn c3 (kN.mono (Bh.refl _) (AD.nil _)) (by rw[kN.1,zY,gh];omega)) (rp c4 xi)
        rw[<-Cy]at hs
        refine⟨fm,ts,_,_,.inl (hr _ _ bm),hs,?_,AU.refl _ _,AD.refl _,fun _ _ _ h=>h⟩
        have e0:(min (src.length:Int) (n:Int))=((min src.length n:Nat):Int):=by omega
        rw[e0]
        exact .int _ _
     ·cases e
    ·cases e
   ·cases e
  ·cases e
 ·cases e
theorem anI (hT:AX P T) (ht:T t=some ti) (h:HR N0 W0 fm ts H w) {kb:Nat}{ty:TypeId}{l:List TypeId}{x:AV}{v:Value}{d:De}
  (hv:VR fm ts x v) (e:uo H.get ti x=some d) {r:Result Next} (hr:∀ a w',(Builtin.clear_ (t::l).toArray ty #[v]).run P w=.ok a w'->r=.ok (.value a) w'):BW N0 W0 fm ts H w kb r d:=by
 have unit:∀ fm ts,VR fm ts (.aw []) (.tuple #[]):=fun fm ts=>.aw [] #[] rfl (fun i x v h=>by simp at h)
 unfold uo at e
 split at e
 ·rename_i el hd
  obtain⟨bZ,⟨inf,bl,aC,hb,z,hz,iR⟩,_⟩:=hT.slice ht hd
  have qI:=(hT.ok ht).fI
  have mN:z.cells.size=ti.el:=by have:=(iR fm []).1;simp at this;omega
  split at e
  ·obtain rfl:=oi e
   cases hv
   exact .pure h (hr (.tuple #[]) w (by simp[Builtin.clear_,run_underlying bZ])) (unit _ _)
  ·rename_i lv k esz i n g
   split at e
   ·rename_i et aU es hg
    split at e
    ·rename_i hc
     obtain⟨rfl,rfl,kM,bT⟩:=hc
     obtain rfl:=oi e
     have cK:=h.aD lv k _ hg
     have nothing:n=0->∀ (base:Option Addr) (bf:Nat),v=.slice base 0 bf->BW N0 W0 fm ts H w kb r ⟨.aw [],[(lv,k,some (.arr et ti.el (es.take i++(List.replicate n ti.fI++es.drop (i+n)))))]⟩:=by
      rintro rfl base bf rfl
      have e1:es.take i++(List.replicate 0 ti.fI++es.drop (i+0))=es:=by simp
      rw[e1]
      exact⟨fm,ts,w,_,.inl (hr (.tuple #[]) w (by cases base<;>simp[Builtin.clear_,run_underlying bZ])),h.acy hg,unit _ _,AU.refl _ _,AD.refl _,fun _ _ _ h=>h⟩
     cases hv with
     |cW _ _ _ _ _ _ a' bf aN=>rw[aN]at cK;cases cK
     |cX _ _ _ _ _ _ a' bf m' c aN jI=>rw[aN]at cK;have:=cK.gr.1;omega
     |cH _ _ _ a1 aN=>exact nothing rfl a1 0 rfl
     |loc _ _ _ _ _ _ c cap bf a' aN zz bU cP ha=>
      rw[aN]at cK
      obtain⟨hA,hN⟩:=cK.gr.2.2 c cap rfl
      obtain⟨cells,c1,c2,c3,c4,c5,c6,c7,c8⟩:=hA.flat
      by_cases hm:n=0
      ·exact nothing hm (some a') bf (by rw[hm])
      ·have gB:=ha (.inl (by omega))
       subst gB
       have qO:=aah z.cells n (by omega)
       have sZ:(Builtin.zeroCells z.cells n).toList=(List.replicate n z.cells.toList).flatten:=qO
       have q9:(Builtin.zeroCells z.cells n).toList.length=n*ti.el:=by rw[Array.length_toList,size_zeroCells,mN]
       have kN:AG fm [] (List.replicate n ti.fI).flatten (Builtin.zeroCells z.cells n).toList:=by rw[sZ];exact AG.replicate (iR fm []) n
       have xi:=y6 (hT.ok ht).abM n
       have hmul:(i+n)*ti.el<=es.length*ti.el:=B7 _ (by omega)
       have uO:es.length*ti.el<=cells.size:=by rw[c2];exact B7 _ c3
       rw[Nat.add_mul]at hmul
       have gY:=run_storeCells_at P c (i*ti.el) et (Builtin.zeroCells z.cells n).toList 0 cells w c1 (by rw[q9];omega) (kN.rk xi)
       simp only[Nat.add_zero]at gY
       obtain⟨n',rfl⟩:∃ n',n=n'+1:=⟨n - 1,by omega⟩
       have bm:(Builtin.clear_ (t::l).toArray ty #[.slice (some ⟨c,i*ti.el,none⟩) (n'+1) bf]).run P w=.ok (.tuple #[]) (w.setRow c (cells.toList.take (i*ti.el)++(Builtin.zeroCells z.cells (n'+1)).toList++cells.toList.drop (i*ti.el+(Builtin.zeroCells z.cells (n'+1)).toList.length)).toArray):=by
        simp only[Builtin.clear_,Sem.run_bind,run_underlying bZ,Result.andThen_ok,zeroValue,typeInfo,run_program,bl,hz,Sem.run_pure,gY,List.getElem?_toArray,Cl]
       have pC:=ahH i c5 (xF qI (n'+1))
       simp only[CR]at pC
       have uG:(es.take i++(List.replicate (n'+1) ti.fI++es.drop (i+(n'+1)))).length=es.length:=by simp;omega
       have hs:=h.xQ hg aN (es':=es.take i++(List.replicate (n'+1) ti.fI++es.drop (i+(n'+1))))
         (vs':=cells.toList.take (i*ti.el)++(Builtin.zeroCells z.cells (n'+1)).toList++cells.toList.drop (i*ti.el+(Builtin.zeroCells z.cells (n'+1)).toList.length))
         (us:=(cells.toList.take (es.length*ti.el)).take (i*ti.el)++((Builtin.zeroCells z.cells (n'+1)).toList++(cells.toList.take (es.length*ti.el)).drop (i*ti.el+(Builtin.zeroCells z.cells (n'+1)).toList.length))) (rest:=cells.toList.drop (es.length*ti.el))
         (by rw[uG];exact AY _) (by rw[uG];exact c3) (pP (xG c5 _) (pP (xF qI _) (aal c5 _)))
         (by rw[A1,A1,q9,A8,Bt,Array.length_toList];omega)
         (by rw[pC];exact rn c7 kN (by rw[kN.1,q9,kH _ _ c5];omega))
         (by rw[pC];exact rp c8 xi)
         (acG _ _ _ _ (by rw[q9];omega) (by simpa using uO))
       rw[uG,kM,xW aN]at hs
       exact⟨fm,ts,_,_,.inl (hr _ _ bm),hs,unit _ _,AU.refl _ _,AD.refl _,fun _ _ _ h=>h⟩
    ·cases e
   ·cases e
  ·cases e
 ·cases e
end
section
variable {P:Program}{T:AR}{N0:Nat}{W0:World}{fm:FM}{ts:List Aw}{H:Heap}{w:World}{t:TypeId}{ti:TI}
theorem AX.aqb (hT:AX P T) (h:T t=some ti) (hd:ti.d≠.iface):∃ d,P.underlying t=some d/\∀ m,d≠.interface m:=by
 have:=hT t ti h
 unfold nX at this
 simp only[Bo]at this
 have h7:=this.2
 split at h7<;>rename_i h1 h2<;>first|(exact absurd h1 hd)|(exact⟨_,h2,by intro m;simp⟩)|(cases h7)
theorem ae5 {tm:Tm}{a:Act} (h:C1 fm ts tm a):∀ (l:List (Nat×Operand)) (ys:List (Nat×AV)),partsOf tm l=some ys->Ec fm ts ys (l.map fun x=>(x.1,a.eval x.2))
 |[],ys,e=>by simp only[partsOf,oE]at e;subst e;trivial
 |(i,x)::l,ys,e=>by
  simp only[partsOf]at e
  split at e
  ·rename_i p q hp hq
   obtain rfl:=oi e
   exact⟨rfl,xI h hp,ae5 h l q hq⟩
  ·cases e
theorem BW.iU {kb:Nat}{r:Result Next}{q:Option AV}{d:De} (h:HR N0 W0 fm ts H w) (e:eu q=some d) (hr:∀ x,q=some x->∃ v,r=.ok (.value v) w/\VR fm ts x v):BW N0 W0 fm ts H w kb r d:=by
 obtain⟨x,hx,rfl⟩:=agf e
 obtain⟨v,h1,h2⟩:=hr x hx
 exact .pure h h1 h2
theorem alZ {x y:AV}{v:Value}{o:Oper}{a:Act}{z:Operand} (ho:o.op=.nilCheck z) (hz:a.eval z=v) (hv:VR fm ts x v) (e:abn x=some y):
  ∃ u,(execOp a.eval o).run P w=.ok (.value u) w/\VR fm ts y u:=by
 unfold abn at e
 split at e
 ·obtain rfl:=oi e
  refine⟨v,?_,hv⟩
  cases hv;simp[execOp,ho,hz]
 ·obtain rfl:=oi e
  refine⟨v,?_,hv⟩
  cases hv<;>simp[execOp,ho,hz]
 ·obtain rfl:=oi e
  refine⟨v,?_,hv⟩
  cases hv;simp[execOp,ho,hz]
 ·split at e
  ·obtain rfl:=oi e
   refine⟨v,?_,hv⟩
   cases hv;simp[execOp,ho,hz]
  ·cases e
 ·cases e
theorem HR.up0 {fm':FM}{w':World} (h:HR N0 W0 fm ts H w) (hb:Below w.heap.size w w') (b9:AU w.heap.size fm fm') (bT:∀ b o v,fm' b o=some v->w'.cell? ⟨b,o,none⟩=some v):HR N0 W0 fm' ts H w':=by
 have h1:=h.world (w':=w') (fun i hi=>hb.block i hi) (hb.mono h.size)
 refine⟨h1.len,fun l k b hg=>(h1.aD l k b hg).mono b9.le (AD.refl _) (fun _ _=>rfl),h1.inj,bT,?_,h1.dL,h1.size,h1.dH⟩
 intro l k b c o hg ht
 rw[b9.fix c o ((h.aD l k b hg).lt ht).1]
 exact h.eR l k b c o hg ht
theorem alQ (hT:AX P T) {src dst:TypeId}{si di:TI} (hs:T src=some si) (hd:T dst=some di) (h:HR N0 W0 fm ts H w) {x:AV}{v:Value} (hv:VR fm ts x v) {kb:Nat}{d:De} (e:eu (vM T si di x)=some d)
  {r:Result Next} (hr:∀ a w',(convert src dst v).run P w=.ok a w'->r=.ok (.value a) w'):BW N0 W0 fm ts H w kb r d:=by
 unfold eu at e
 rw[mS]at e
 obtain⟨y,e,rfl⟩:=e
 unfold vM at e
 split at e
 ·rename_i el sM
  split at e
  ·rename_i s hsd
   split at e
   ·rename_i te hte
    split at e
    ·rename_i hu8
     split at e
     ·rename_i aC
      obtain rfl:=oi e
      cases hv
      have bm:=run_bytes_of_string (P:=P) w src dst el s (hT.str hs hsd) (hT.slice hd sM).1 (hT.int hte hu8)
      have nu:=grownCap_ge w s.size 0 el
      have hle:=grownCap_le_maxLen w s.size 0 el (by simp[maxLen];omega)
      generalize sI:grownCap w s.size 0 el=cp at bm nu hle
      generalize hw':w.drew.alloc (.cells (bytesRow s cp) el ((bytesRow s cp).size,(bytesRow s cp).size+1))=w' at bm
      have ei:w'.heap[w.heap.size]?=some (.cells (bytesRow s cp) el ((bytesRow s cp).size,(bytesRow s cp).size+1)):=by
       rw[<-hw'];show (w.heap.push _)[w.heap.size]?=_;simp
      have pn:Below w.heap.size w w':=by
       rw[<-hw'];exact((Below.refl _ w).drew).alloc (AY _) _
      have bG:∀ o,w'.cell? ⟨w.heap.size,o,none⟩=(bytesRow s cp)[o]?:=by
       intro o;simp[World.cell?,ei]
      have b9:AU w.heap.size fm (fun b o=>if b=w.heap.size then w'.cell? ⟨b,o,none⟩ else fm b o):=by
       refine⟨?_,?_⟩
       ·intro b o u hu
        have af:=World.block_lt_of_cell? w _ (h.cV b o u hu)
        simp only at af
        show (if b=w.heap.size then _ else _)=_
        rw[if_neg (by omega)];exact hu
       ·intro b o hb
        show (if b=w.heap.size then _ else _)=_
        rw[if_neg (by omega)]
      have bT:∀ b o u,(fun b o=>if b=w.heap.size then w'.cell? ⟨b,o,none⟩ else fm b o) b o=some u->w'.cell? ⟨b,o,none⟩=some u:=by
       intro b o u hu
       simp only at hu
       split at hu
       ·exact hu
       ·have h1:=h.cV b o u hu
        have af:=World.block_lt_of_cell? w _ h1
        rw[<-h1]
        exact World.cell?_of_block (w:=w) (w':=w') (a:=⟨b,o,none⟩) (pn.block b af)
      refine⟨_,ts,w',_,.inl (hr _ _ bm),h.up0 pn b9 bT,?_,⟨b9.le,fun b o hb=>b9.fix b o (Nat.lt_of_lt_of_le hb h.size)⟩,AD.refl _,fun _ _ _ h=>h⟩
      have hlen:(kY s).length=s.size:=xT s
      rw[<-hlen]
      refine .sl (kY s) w.heap.size 0 1 cp (fun i _=>.int .u8 ((s.data.toList.getD i 0).toNat:Int)) ⟨by rw[hlen];exact nu,by rw[hlen];simp[maxLen];omega⟩ ?_ ?_ ?_ ?_
      ·intro c hc
       obtain⟨_,_,rfl⟩:=List.mem_map.1 hc
       rfl
      all_goals
       intro i c o x hi hx
       unfold kY at hi
       rw[BX,mS]at hi
       obtain⟨b,hb,rfl⟩:=hi
       obtain rfl:o=0:=by
        have:=(gS.1 hx).1
        simp at this;omega
       simp at hx
       subst hx
      ·rw[if_pos rfl,bG,show 0+(i*1+0)=i by omega]
       unfold bytesRow
       have cK:s.data[i]?=some b:=by rw[<-Array.getElem?_toList];exact hb
       obtain⟨af,_⟩:=CZ.1 cK
       rw[Array.getElem?_append_left (by rw[Array.size_map];exact af),Array.getElem?_map,cK]
       simp[hb,List.getD_eq_getElem?_getD]
      ·rfl
      ·have:s.data.toList.getD i 0=b:=by simp[List.getD_eq_getElem?_getD,hb]
       simp only[this]
       exact .int _ _
     ·cases e
    ·cases e
   ·cases e
  ·cases e
 ·cases e
theorem alO (hT:AX P T) (h:HR N0 W0 fm ts H w) (hH:0<H.length) {kb:Nat} (hk:∀ k,kb<=k->k<kb+16->tb ts 0 k=none) {b:Builtin}{tys:Array TypeId}{ty:TypeId}{cs:Array Bool}{xs:List AV}{vs:List Value}{d:De}
  (hv:AG fm ts xs vs) (e:nQ T H.get kb b tys.toList xs=some d):BW N0 W0 fm ts H w kb ((builtin b tys ty cs vs.toArray).run P w) d:=by
 have one:∀ {x:AV},xs=[x]->∃ v,vs=[v]/\VR fm ts x v:=by
  rintro x rfl
  have:=hv.1
  cases vs with
  |nil=>simp at this
  |cons v vs=>cases vs with
   |nil=>exact⟨v,rfl,hv.2 0 x v rfl rfl⟩
   |cons=>simp at this
 have two:∀ {x y:AV},xs=[x,y]->∃ v u,vs=[v,u]/\VR fm ts x v/\VR fm ts y u:=by
  rintro x y rfl
  have:=hv.1
  cases vs with
  |nil=>simp at this
  |cons v vs=>cases vs with
   |nil=>simp at this
   |cons u vs=>cases vs with
    |nil=>exact⟨v,u,rfl,hv.2 0 x v rfl rfl,hv.2 1 y u rfl rfl⟩
    |cons=>simp at this
 obtain⟨tl⟩:=tys
 unfold nQ at e
 split at e
 ·cases e
 ·rename_i t l mL
  simp only at mL
  subst mL
  split at e
  ·cases e
  ·rename_i ti ht
   split at e
   ·split at e
    ·rename_i x
     obtain⟨v,rfl,fc⟩:=one rfl
     refine .iU h e fun y hy=>?_
     obtain⟨u,h1,h2⟩:=alY (P:=P) (w:=w) (l:=l) (ty:=ty) hT ht fc hy
     exact⟨u,by simp only[builtin];exact eG h1,h2⟩
    ·cases e
   ·split at e
    ·rename_i s x
     split at e
     ·rename_i hl
      subst hl
      obtain⟨v,u,rfl,fc,ny⟩:=two rfl
      exact anE (ty:=ty) hT ht h hH hk fc ny e (fun a w' hr=>by simp only[builtin];exact eG hr)
     ·obtain⟨v,u,rfl,fc,ny⟩:=two rfl
      unfold yO at e
      split at e
      ·rename_i t2 b
       split at e
       ·rename_i ti2 ot
        split at e
        ·rename_i sK
         split at e
         ·rename_i h1
          cases ny
          exact anC (ty:=ty) hT ht h hH hk fc (hT.str ot sK) h1 e (fun a w' hr=>by simp only[builtin];exact eG hr)
         ·cases e
        ·cases e
       ·cases e
      ·rename_i t2 kq n
       split at e
       ·rename_i ti2 ot
        split at e
        ·rename_i kn sK
         cases ny
         exact anD (ty:=ty) hT ht h hH hk fc (hT.int ot sK) e (fun a w' hr=>by simp only[builtin];exact eG hr)
        ·cases e
       ·cases e
      ·cases e
    ·cases e
   ·split at e
    ·rename_i s x
     split at e
     ·rename_i hl
      subst hl
      obtain⟨v,u,rfl,fc,ny⟩:=two rfl
      exact anK (ty:=ty) hT ht h fc ny e (fun a w' hr=>by simp only[builtin];exact eG hr)
     ·cases e
    ·cases e
   ·split at e
    ·rename_i x
     obtain⟨v,rfl,fc⟩:=one rfl
     exact anI (ty:=ty) (l:=l) hT ht h fc e (fun a w' hr=>by simp only[builtin];exact eG hr)
    ·cases e
   ·refine .iU h e fun y hy=>?_
    obtain⟨u,h1,h2⟩:=afZ (P:=P) (w:=w) (l:=⟨t::l⟩) (ty:=ty) hv hy
    simp only[if_true]at h1
    exact⟨u,by simp only[builtin];exact eG h1,h2⟩
   ·refine .iU h e fun y hy=>?_
    obtain⟨u,h1,h2⟩:=afZ (P:=P) (w:=w) (l:=⟨t::l⟩) (ty:=ty) hv hy
    simp only[C4,if_false]at h1
    exact⟨u,by simp only[builtin];exact eG h1,h2⟩
   ·cases e
theorem ag4 (hT:AX P T) (ht:T t=some ti) (h:HR N0 W0 fm ts H w) {kb:Nat}{x':AV}{v0 v1 v2:Value}{vlo:Option Value}{zl zh zm:Int}{kh km:IntKind}{d:De}
  (fc:VR fm ts x' v0) (iM:(vlo=none/\zl=0)\/∃ kl v,vlo=some v/\VR fm ts (.int kl zl) v) (hvh:VR fm ts (.int kh zh) v1) (hvm:VR fm ts (.int km zm) v2) (e:yP ti x' zl zh zm=some d) {r:Result Next}
  (hr:∀ v w',(Instr.sliceAt t v0 vlo (some v1) (some v2)).run P w=.ok v w'->r=.ok (.value v) w'):BW N0 W0 fm ts H w kb r d:=by
 unfold yP at e
 split at e
 ·rename_i el hd
  obtain⟨bZ,⟨inf,bl,aoN,_,_⟩,_⟩:=hT.slice ht hd
  obtain⟨nn,aov,hs3⟩:∃ nn:Nat,((0<=zl/\zl<=zh)/\zh<=zm/\zm<=nn)/\∃ aa cc,v0=.slice aa nn cc/\nn<=cc/\∃ y,d=⟨y,[]⟩/\VR fm ts y (.slice (if zm.toNat=zl.toNat then aa else aa.map (·.add (zl.toNat*inf.size))) (zh.toNat - zl.toNat) (zm.toNat - zl.toNat)):=by
   split at e
   ·rename_i esz es
    split at e
    ·rename_i hc
     obtain rfl:=oi e
     skip
     cases fc with
     |dn e0 p cap=>
      refine⟨0,by simpa using hc,_,_,rfl,Nat.zero_le _,_,rfl,?_⟩
      simp only[AB]at hc
      have z1:zm.toNat=0:=by omega
      have z2:zl.toNat=0:=by omega
      have z3:zh.toNat=0:=by omega
      simp only[z1,z2,z3,if_true,Nat.sub_self,List.drop_nil,List.take_nil]
      split
      ·exact .dn _ _ _
      ·exact .dead _
     |sl es cb off esz cap u dM g1 g2 g3 g4=>
      refine⟨_,hc,_,_,rfl,dM.1,_,rfl,?_⟩
      split
      ·rename_i he
       by_cases hhl:zh.toNat - zl.toNat=0
       ·simp only[hhl,List.take_zero]
        exact .dn _ _ _
       ·have cG:¬ zm.toNat=zl.toNat:=by omega
        simp only[if_neg cG,Be,Addr.add_lit]
        have hlen:((es.drop zl.toNat).take (zh.toNat - zl.toNat)).length=zh.toNat - zl.toNat:=by simp;omega
        have eA:∀ (i:Nat) c,((es.drop zl.toNat).take (zh.toNat - zl.toNat))[i]?=some c->es[zl.toNat+i]?=some c:=by
         intro i c hc
         rw[Ca]at hc
         split at hc
         ·rw[Cu]at hc;exact hc
         ·cases hc
        have:=VR.sl (fm:=fm) (ts:=ts) ((es.drop zl.toNat).take (zh.toNat - zl.toNat)) cb (off+zl.toNat*esz) esz (zm.toNat - zl.toNat) (fun i o=>u (zl.toNat+i) o) (by rw[hlen];have:=dM.2;exact⟨by omega,by omega⟩)
         (fun c hc=>g1 c (Cj (BD hc)))
         (by
          intro i c o x hc ho
          have:=g2 (zl.toNat+i) c o x (eA i c hc) ho
          rw[<-this];congr 1;rw[Nat.add_mul];omega)
         (fun i c o x hc ho=>g3 (zl.toNat+i) c o x (eA i c hc) ho)
         (fun i c o x hc ho=>g4 (zl.toNat+i) c o x (eA i c hc) ho)
        rw[hlen]at this
        have aoM:inf.size=esz:=by rw[he];exact aoN
        rw[aoM]
        exact this
      ·exact .dead _
    ·cases e
   ·split at e
    ·rename_i hc
     obtain rfl:=oi e
     skip
     cases fc with
     |cW _ _ _ _ _ _ _ _ _ hn=>exact⟨_,hc,_,_,rfl,hn,_,rfl,.dead _⟩
     |cX _ _ _ _ _ _ _ _ _ _ _ _ hn=>exact⟨_,hc,_,_,rfl,hn,_,rfl,.dead _⟩
     |cH=>exact⟨0,by simpa using hc,_,_,rfl,Nat.zero_le _,_,rfl,.dead _⟩
     |loc _ _ _ _ _ _ _ _ _ _ _ _ bU=>exact⟨_,hc,_,_,rfl,bU,_,rfl,.dead _⟩
    ·cases e
   ·cases e
  obtain⟨aa,cc,rfl,hle,yy,rfl,hyy⟩:=hs3
  obtain⟨⟨c1,c2⟩,c3,c4⟩:=aov
  cases hvh
  cases hvm
  have h0:0<=zm:=by omega
  have h1:0<=zh:=by omega
  have h2:zm<=cc:=by omega
  have e1:zh<=((zm.toNat:Nat):Int):=by omega
  have e2:zl<=((zh.toNat:Nat):Int):=by omega
  have zT:(Instr.sliceBounds true nn cc vlo (some (.int kh zh)) (some (.int km zm))).run P w=.ok (zl.toNat,zh.toNat,zm.toNat) w:=by
   rcases iM with ⟨rfl,rfl⟩|⟨kl,vl,rfl,pI⟩
   ·simp only[Instr.sliceBounds,Instr.sliceBound,asIntOf,Sem.run_bind,Sem.run_pure,Result.andThen_ok,h0,h2,and_self,if_true,h1,e1]
    rfl
   ·cases pI
    simp only[Instr.sliceBounds,Instr.sliceBound,asIntOf,Sem.run_bind,Sem.run_pure,Result.andThen_ok,h0,h2,and_self,if_true,h1,e1,c1,e2,if_true,Option.isSome]
  have bm:(Instr.sliceAt t (.slice aa nn cc) vlo (some (.int kh zh)) (some (.int km zm))).run P w=.ok (.slice (if zm.toNat=zl.toNat then aa else aa.map (·.add (zl.toNat*inf.size))) (zh.toNat - zl.toNat) (zm.toNat - zl.toNat)) w:=by
   simp[Instr.sliceAt,run_underlying bZ,Instr.slice,zT,sizeOf,typeInfo,bl]
  exact BW.pure h (hr _ _ bm) hyy
 ·cases e
theorem ai8 (hT:AX P T) (h:HR N0 W0 fm ts H w) (hH:0<H.length) {kb:Nat} (hk:∀ k,kb<=k->k<kb+16->tb ts 0 k=none) {tm:Tm}{a:Act} (eM:C1 fm ts tm a) {o:Oper}{d:De}
  (e:bH T kb o.op o.type tm H.get=some d):BW N0 W0 fm ts H w kb ((execOp a.eval o).run P w) d:=by
 have ev:∀ {x:Operand}{y:AV},bu tm x=some y->VR fm ts y (a.eval x):=fun hx=>xI eM hx
 unfold bH at e
 split at e
 ·rename_i x ho
  refine .iU h e fun y hy=>⟨_,?_,ev hy⟩
  simp[execOp,ho]
 ·rename_i x ho
  split at e
  ·rename_i hx
   split at e
   ·rename_i ti ht
    split at e
    ·rename_i el hd
     obtain rfl:=oi e
     have fc:=ev hx
     have hv:a.eval x=.slice none 0 0:=by
      generalize a.eval x=v at fc
      cases fc;rfl
     refine agb h hH hk el ti.el ?_
     simp only[execOp,ho,Sem.run_pure,hv]
    ·cases e
   ·cases e
  ·refine .iU h e fun y hy=>⟨_,?_,ev hy⟩
   simp[execOp,ho]
 ·
  rename_i c x y ho
  split at e
  ·rename_i b hb
   have hc:=ev hb
   have hcv:a.eval c=.bool b:=by
    generalize a.eval c=v at hc
    cases hc;rfl
   refine .iU h e fun z hz=>?_
   cases b with
   |true=>exact⟨a.eval x,by simp[execOp,ho,hcv,asBool],ev hz⟩
   |false=>exact⟨a.eval y,by simp[execOp,ho,hcv,asBool],ev hz⟩
  ·cases e
 ·
  rename_i el ho
  split at e
  ·rename_i ti ht
   obtain⟨i,hi,aC,_,z,hz,iR⟩:=(hT.ok ht).info
   refine aiX (v:=z) hT ht h hH hk el (iR fm ts) (hT.ok ht).alx e ?_
   simp[execOp,ho,Instr.alloc,zeroValue,typeInfo,hi,hz,newVar,newRow]
  ·cases e
 ·
  rename_i el x ho
  split at e
  ·rename_i ti x' ht hx
   split at e
   ·rename_i cs gg
    obtain⟨h1,h2⟩:=(ev hx).parts gg
    refine aiX (v:=a.eval x) hT ht h hH hk el h1 h2 e ?_
    simp[execOp,ho,Instr.box,newVar,newRow]
   ·cases e
  ·cases e
 ·
  rename_i t ps ho
  split at e
  ·rename_i ti ps' ht zQ
   refine .iU h e fun y hy=>?_
   have hp:=ae5 eM _ _ zQ
   obtain⟨u,h1,h2⟩:=alM (P:=P) (w:=w) (ps:=ps.map fun(i,x)=>(i,a.eval x)) hT ht (by simpa using hp) hy
   exact⟨u,by simp only[execOp,ho];exact eG h1,h2⟩
  ·cases e
 ·
  rename_i t len ps ho
  split at e
  ·rename_i ti ps' ht zQ
   have hp:=ae5 eM _ _ zQ
   exact anG (ps:=ps.map fun(i,x)=>(i,a.eval x)) hT ht h hH hk (by simpa using hp) e (fun v w' hr=>by simp only[execOp,ho];exact eG hr)
  ·cases e
 ·
  rename_i t x ho
  split at e
  ·rename_i ti x' ht hx
   refine .iU h e fun y hy=>?_
   obtain⟨u,h1,h2⟩:=ag3 (P:=P) hT ht h (ev hx) hy
   exact⟨u,by simp only[execOp,ho];exact eG h1,h2⟩
  ·cases e
 ·
  rename_i t x y ho
  split at e
  ·rename_i ti x' y' ht hx hy
   split at e
   ·rename_i cs gg
    obtain⟨h1,h2⟩:=(ev hy).parts gg
    exact anP hT ht h hH hk (ev hx) h1 h2 e (fun w' hr=>by simp only[execOp,ho];exact anZ hr)
   ·cases e
  ·cases e
 ·
  rename_i x ho
  split at e
  ·rename_i x' hx
   exact .iU h e fun y hy=>alZ ho rfl (ev hx) hy
  ·cases e
 ·
  rename_i op t x y _ ho
  split at e
  ·rename_i ti x' y' ht hx hy
   refine .iU h e fun z hz=>?_
   obtain⟨u,h1,h2⟩:=alJ (P:=P) (w:=w) (ox:=x) (oy:=y) hT ht (ev hx) (ev hy) hz
   exact⟨u,by simp only[execOp,ho];exact eG h1,h2⟩
  ·cases e
 ·
  rename_i op _ x ho
  split at e
  ·rename_i x' hx
   refine .iU h e fun z hz=>?_
   obtain⟨u,h1,h2⟩:=amb (P:=P) (w:=w) (ev hx) hz
   exact⟨u,by simp only[execOp,ho];exact eG h1,h2⟩
  ·cases e
 ·
  rename_i src dst x ho
  split at e
  ·rename_i si di x' hs hd hx
   cases hz:lk T H.get si di x' with
   |some z=>
    rw[hz,xJ]at e
    refine .iU h e fun z' eD=>?_
    obtain rfl:=oi eD
    obtain⟨u,h1,h2⟩:=alS (P:=P) hT hs hd h (ev hx) hz
    exact⟨u,by simp only[execOp,ho];exact eG h1,h2⟩
   |none=>
    rw[hz,vj]at e
    exact alQ hT hs hd h (ev hx) e (fun a w' hr=>by simp only[execOp,ho];exact eG hr)
  ·cases e
 ·
  rename_i f x y ho
  split at e
  ·rename_i x' y' hx hy
   obtain rfl:=oi e
   have h1:=aap eM _ _ hx
   have h2:=aap eM _ _ hy
   refine .pure h (v:=.func f (x.map a.eval) (y.map a.eval)) ?_ ?_
   ·simp[execOp,ho,Instr.makeFunc]
   ·exact .fn f x' y' _ _ (by simpa using h1.1) (by simpa using h2.1) (fun i z v p q=>h1.2 i z v p (by simpa using q)) (fun i z v p q=>h2.2 i z v p (by simpa using q))
  ·cases e
 ·
  rename_i t l c ho
  split at e
  ·rename_i ti l' c' ht hl hc
   exact anM (P:=P) hT ht h hH hk (ev hl) (ev hc) e (fun v w' hr=>by simp only[execOp,ho];exact eG hr)
  ·cases e
 ·
  rename_i t x lo hi mx ho
  split at e
  ·rename_i mxv
   split at e
   ·split at e
    ·rename_i ti x' kh zh km zm ht hx hh hm
     split at e
     ·split at e
      ·rename_i hz
       obtain⟨rfl,rfl⟩:=hz
       exact anN (P:=P) hT ht h hH hk (ev hx) (ev hh) (ev hm) e (fun v w' hr=>by simp only[execOp,ho,Ee,Be];exact eG hr) rfl
      ·cases e
     ·exact ag4 (P:=P) hT ht h (ev hx) (vlo:=none) (.inl ⟨rfl,rfl⟩) (ev hh) (ev hm) e (fun v w' hr=>by simp only[execOp,ho,Ee,Be];exact eG hr)
    ·cases e
   ·rename_i lov hiv
    split at e
    ·rename_i ti x' kl zl kh zh ht hx hl hh
     split at e
     ·rename_i km zm hm
      exact ag4 (P:=P) hT ht h (ev hx) (vlo:=some (a.eval lov)) (.inr ⟨kl,_,rfl,ev hl⟩) (ev hh) (ev hm) e (fun v w' hr=>by simp only[execOp,ho,Be];exact eG hr)
     ·cases e
    ·cases e
   ·cases e
  ·split at e
   ·rename_i ti x' ht hx
    have fin:∀ (mQ gW:Option AV),(∀ z,mQ=some z->∃ v,lo.map a.eval=some v/\VR fm ts z v)->(mQ=none->lo.map a.eval=none)->(∀ z,gW=some z->∃ v,hi.map a.eval=some v/\VR fm ts z v)->(gW=none->hi.map a.eval=none)->
      eu (oR ti x' mQ gW)=some d->BW N0 W0 fm ts H w kb ((execOp a.eval o).run P w) d:=by
     intro mQ gW h1 h2 h3 h4 e'
     refine .iU h e' fun z hz=>?_
     obtain⟨u,h5,h6⟩:=ama (P:=P) (w:=w) hT ht (ev hx) h1 h2 h3 h4 hz
     exact⟨u,by simp only[execOp,ho,Ee];exact eG h5,h6⟩
    split at e
    ·exact fin none none (by simp) (by simp) (by simp) (by simp) e
    ·rename_i lo
     split at e
     ·rename_i mQ iM
      exact fin (some mQ) none (fun z hz=>⟨_,rfl,by obtain rfl:=oi hz;exact ev iM⟩) (by simp) (by simp) (by simp) e
     ·cases e
    ·rename_i hi
     split at e
     ·rename_i gW sO
      exact fin none (some gW) (by simp) (by simp) (fun z hz=>⟨_,rfl,by obtain rfl:=oi hz;exact ev sO⟩) (by simp) e
     ·cases e
    ·rename_i lo hi
     split at e
     ·rename_i mQ gW iM sO
      cases eJ:mm H.get ti x' mQ gW with
      |none=>
       rw[eJ,vj]at e
       exact fin (some mQ) (some gW) (fun z hz=>⟨_,rfl,by obtain rfl:=oi hz;exact ev iM⟩) (by simp) (fun z hz=>⟨_,rfl,by obtain rfl:=oi hz;exact ev sO⟩) (by simp) e
      |some z=>
       rw[eJ,xJ]at e
       refine .iU h e fun z' eD=>?_
       obtain rfl:=oi eD
       unfold mm at eJ
       split at eJ
       ·rename_i lv k esz i n g
        split at eJ
        ·rename_i el hd
         obtain⟨bZ,⟨inf,bl,aC,_,_⟩,_⟩:=hT.slice ht hd
         split at eJ
         ·rename_i kl l kh iK
          split at eJ
          ·rename_i et ez es hg
           split at eJ
           ·rename_i hc
            obtain⟨⟨rfl,kM⟩,⟨c1,c2⟩,c3⟩:=hc
            obtain rfl:=oi eJ
            have fc:=ev hx
            have pI:=ev iM
            have hvh:=ev sO
            generalize hex:a.eval x=vx at fc
            generalize gh:a.eval lo=vl at pI
            generalize heh:a.eval hi=vh at hvh
            cases pI
            cases hvh
            have hb:=h.aD lv k _ hg
            have h1:0<=iK:=by omega
            have h2:l<=((iK.toNat:Nat):Int):=by omega
            have run:∀ (p:Option Addr) (nn cp:Nat),iK.toNat<=cp->(Instr.sliceAt t (.slice p nn cp) (some (.int kl l)) (some (.int kh iK)) none).run P w=.ok (.slice (if cp=l.toNat then p else p.map (·.add (l.toNat*ti.el))) (iK.toNat - l.toNat) (cp - l.toNat)) w:=by
             intro p nn cp sI
             have h3:iK<=cp:=by omega
             have zT:(Instr.sliceBounds true nn cp (some (.int kl l)) (some (.int kh iK)) none).run P w=.ok (l.toNat,iK.toNat,cp) w:=by
              simp only[Instr.sliceBounds,Instr.sliceBound,asIntOf,Sem.run_bind,Sem.run_pure,Result.andThen_ok,h1,h3,and_self,if_true,c1,h2]
             simp[Instr.sliceAt,run_underlying bZ,Instr.slice,zT,sizeOf,typeInfo,bl,aC]
            cases fc with
            |cW _ _ _ _ _ _ p cp fD hn ha=>rw[fD]at hb;cases hb
            |cX _ _ _ _ _ _ p cp m' c fD af hn ha=>rw[fD]at hb;have:=hb.gr.1;omega
            |cH _ _ _ a0 fD=>
             have lF:l.toNat=0:=by omega
             have ah:iK.toNat=0:=by omega
             refine⟨_,by simp only[execOp,ho,Be,Ee,hex,gh,heh];exact eG (run a0 0 0 (by omega)),?_⟩
             rw[lF,ah]
             simp
             exact .cH lv k ti.el _ fD
            |loc _ _ _ _ _ _ c cap cp p fD bT bU cP ha=>
             rw[fD]at hb
             obtain⟨hA,hN⟩:=hb.gr.2.2 c cap rfl
             have hgc:g<=cap:=by
              obtain⟨cells,_,_,c3',_⟩:=hA
              omega
             refine⟨_,by simp only[execOp,ho,Be,Ee,hex,gh,heh];exact eG (run (some p) n cp (by omega)),?_⟩
             by_cases cG:cp=l.toNat
             ·rw[if_pos cG]
              refine .loc lv k ti.el (i+l.toNat) (iK.toNat - l.toNat) g c cap (cp - l.toNat) p fD (by omega) (by omega) (by omega) ?_
              intro hz
              rcases hz with hz|hz
              ·omega
              ·have xf:i=0:=by omega
               have lF:l.toNat=0:=by omega
               subst xf
               rw[lF]
               exact ha (.inr rfl)
             ·simp only[if_neg cG,Be]
              have hp:=ha (.inl (by omega))
              subst hp
              rw[Addr.add_lit,<-Nat.add_mul]
              exact .loc lv k ti.el (i+l.toNat) (iK.toNat - l.toNat) g c cap (cp - l.toNat) _ fD (by omega) (by omega) (by omega) (fun _=>rfl)
           ·cases eJ
          ·cases eJ
         ·cases eJ
        ·cases eJ
       ·cases eJ
     ·cases e
   ·cases e
 ·
  rename_i s x f ho
  split at e
  ·rename_i ti x' ht hx
   refine .iU h e fun z hz=>?_
   obtain⟨u,h1,h2⟩:=alU (P:=P) (w:=w) hT ht (ev hx) hz
   exact⟨u,by simp only[execOp,ho];exact eG h1,h2⟩
  ·cases e
 ·
  rename_i s x f ho
  split at e
  ·rename_i ti x' ht hx
   refine .iU h e fun z hz=>?_
   obtain⟨u,h1,h2⟩:=alV (P:=P) (w:=w) hT ht (ev hx) hz
   exact⟨u,by simp only[execOp,ho];exact eG h1,h2⟩
  ·cases e
 ·
  rename_i t x i ho
  split at e
  ·rename_i ti x' i' ht hx hi
   refine .iU h e fun z hz=>?_
   obtain⟨u,h1,h2⟩:=alW (P:=P) (w:=w) hT ht (ev hx) (ev hi) hz
   exact⟨u,by simp only[execOp,ho];exact eG h1,h2⟩
  ·cases e
 ·
  rename_i t x i ho
  split at e
  ·rename_i ti x' i' ht hx hi
   refine .iU h e fun z hz=>?_
   obtain⟨u,h1,h2⟩:=alX (P:=P) (w:=w) hT ht (ev hx) (ev hi) hz
   exact⟨u,by simp only[execOp,ho];exact eG h1,h2⟩
  ·cases e
 ·
  rename_i x i ho
  split at e
  ·rename_i xs hx
   have fc:=ev hx
   refine .iU h e fun z hz=>?_
   obtain⟨vs,bq,h1,h2⟩:∃ vs:Array Value,a.eval x=.tuple vs/\xs.length=vs.size/\∀ (i:Nat) x v,xs[i]?=some x->vs[i]?=some v->VR fm ts x v:=by
    generalize a.eval x=v at fc
    cases fc with
    |aw _ vs h1 h2=>exact⟨vs,rfl,h1,h2⟩
   have af:i<vs.size:=by rw[<-h1];exact(gS.1 hz).1
   exact⟨vs[i],by simp[execOp,ho,Instr.extract,bq,af],h2 i z _ hz (BV af)⟩
  ·cases e
 ·
  rename_i t x ho
  split at e
  ·rename_i ti l k esz i n g ht hx
   have fc:=ev hx
   split at e
   ·rename_i m el hd
    obtain⟨bZ,_⟩:=hT.array ht hd
    split at e
    ·rename_i hc
     obtain⟨rfl,hmn,hm⟩:=hc
     obtain rfl:=oi e
     obtain⟨ad,cp,bq,hp⟩:∃ ad cp,a.eval x=.slice (some ad) n cp/\VR fm ts (.bz l k ti.el i 0 g) (.pointer (some ad)):=by
      generalize a.eval x=v at fc
      cases fc with
      |cW _ _ _ _ _ _ a' bf aN hn ha=>
       obtain⟨p,rfl⟩:=ha (by omega)
       exact⟨p,bf,rfl,.eY _ _ _ _ _ _ _ aN⟩
      |cX _ _ _ _ _ _ a' bf m' c aN af hn ha=>
       obtain⟨p,rfl⟩:=ha (by omega)
       exact⟨p,bf,rfl,.eZ _ _ _ _ _ _ _ m' c aN af⟩
      |cH=>omega
      |loc _ _ _ _ _ _ c cap bf a' aN bT bU cP ha=>
       refine⟨a',bf,rfl,?_⟩
       rw[ha (.inl (by omega))]
       exact .bz l k ti.el i 0 g c cap aN
     refine .pure h (v:=.pointer (some ad)) ?_ hp
     have:=run_arrayAt (P:=P) w t el m (some ad) n cp bZ hmn
     simp only[execOp,ho,bq]
     exact eG this
    ·cases e
   ·cases e
  ·cases e
 ·
  rename_i t x ho
  split at e
  ·rename_i ti x' ht hx
   split at e
   ·cases e
   ·rename_i hd
    obtain rfl:=oi e
    obtain⟨dd,sL,ba⟩:=hT.aqb ht hd
    refine .pure h (v:=.iface t (a.eval x)) ?_ (.cq t x' _ (ev hx))
    simp only[execOp,ho]
    refine eG ?_
    simp only[Instr.makeInterface,Sem.run_bind,run_underlying sL,Result.andThen_ok]
    cases dd<;>first|rfl|(exact absurd rfl (ba _))
  ·cases e
 ·
  rename_i c ho
  split at e
  ·rename_i b hb
   split at e
   ·rename_i xs gm
    have hv:=aap eM _ _ gm
    have:=alO (P:=P) (ty:=o.type) (cs:=c.args.map fun|.const _=>true|_=>false) hT h hH hk hv e
    have e1:(execOp a.eval o).run P w=(builtin b c.argTypes o.type (c.args.map fun|.const _=>true|_=>false) (c.args.toList.map a.eval).toArray).run P w:=by
     simp only[execOp,ho,resolve,hb,Sem.run_bind,Sem.run_pure,Result.andThen_ok,invoke]
     congr 2
     apply Array.toList_inj.1
     simp
    rw[e1];exact this
   ·cases e
  ·cases e
 ·cases e
end
class Md where
 rnd:Option Nat
 wg:List Deferred
instance (priority:=10) pL:Md:=⟨none,[]⟩
section
variable [Md]
def FW:Fence:={ fn:=fun _=>True,depth:=none,alive:=false,round:=Md.rnd }
theorem amU {P:Program}{n:Nat}{f:FuncId}{args:Array Value}{w:World}{R:Ending->World->Prop} (h:Calls P f args w R):CallsIn FW n P f args w R:=
 callsIn_wide.2 h
theorem acs {P:Program}{o:Oper}{a:Act}{w w':World}{next:Act->World->Prop}{Q:Exit->Act->World->Prop}{v:Value} (hd:∀ c,o.op≠.defer c) (hr:(execOp a.eval o).run P w=.ok (.value v) w') (h:next (a.put o.dst v) w'):o.wpIn FW 0 P a w next Q:=
 ⟨fun _ _=>trivial,by rw[Oper.semAt_eq _ _ _ hd,hr];exact h⟩
theorem ajg {P:Program}{o:Oper}{a:Act}{w w':World}{next:Act->World->Prop}{Q:Exit->Act->World->Prop} (hd:∀ c,o.op≠.defer c) (hr:(execOp a.eval o).run P w=.ok .skip w') (h:next (a.put o.dst undef) w'):o.wpIn FW 0 P a w next Q:=
 ⟨fun _ _=>trivial,by rw[Oper.semAt_eq _ _ _ hd,hr];exact h⟩
theorem aaq {P:Program}{o:Oper}{a:Act}{w w':World}{next:Act->World->Prop}{Q:Exit->Act->World->Prop}{f:FuncId}{args:Array Value} (hd:∀ c,o.op≠.defer c) (hr:(execOp a.eval o).run P w=.ok (.enter f args) w')
  (h:Calls P f args w' fun
   |.returned v,vy=>next (a.put o.dst v) vy
   |.panicked chain,vy=>Q (.panic chain) a vy
   |.outgrown,_=>LetsOut Q):o.wpIn FW 0 P a w next Q:=
 ⟨fun _ _=>trivial,by rw[Oper.semAt_eq _ _ _ hd,hr,Oper.uponIn_enter];exact⟨fun h=>by simp[FW]at h,amU h⟩⟩
theorem aqp {P:Program}{o:Oper}{a:Act}{w w':World}{next:Act->World->Prop}{Q:Exit->Act->World->Prop}{v:Value} (hd:∀ c,o.op≠.defer c) (hr:(execOp a.eval o).run P w=.halt (.panic v) w') (h:Q (.panic [{ v,recovered:=false }]) a w'):o.wpIn FW 0 P a w next Q:=
 ⟨fun _ _=>trivial,by rw[Oper.semAt_eq _ _ _ hd,hr];exact h⟩
theorem ash {P:Program}{Q:Exit->Act->World->Prop}{a:Act}{w:World}{c:Code} (h:c.wpIn FW 0 P (Exit.noGoto Q) a w):(Code.scope c).wpIn FW 0 P Q a w:=by
 intro b k cs hro hb hr
 have s1:step P (lone (b.atR a (.code (.scope c)::k)) cs w)=.next (lone (b.atR a (.code c::.inScope c::k)) cs w):=
  step_lone_go (by simp[stepG,stepG.exec,Frame.atR])
 have s2:∀ a w,step P (lone (b.atR a (.inScope c::k)) cs w)=.next (lone (b.atR a k) cs w):=fun a w=>
  step_lone_go (by simp[stepG,stepG.exec,Frame.atR])
 have h0:(lone (b.atR a (.code (.scope c)::k)) cs w).fenced P FW:=fenced_calm hb hr rfl
 obtain⟨e,yt,aa3,hq,w9⟩:=h b (.inScope c::k) cs hro hb hr
 cases e with
 |normal=>exact⟨.normal,yt,aa3,hq,.head h0 s1 (StepsIn.trans w9 (.one (fenced_calm hb hr rfl) (s2 _ _)))⟩
 |exit id=>
  have hx:exitTo id (.inScope c::k)=exitTo id k:=by simp[exitTo]
  exact⟨.exit id,yt,aa3,hq,fun k' hk=>.head h0 s1 (w9.1 k' (by rw[hx];exact hk)),fun xm hk=>let ⟨k₁,h1,h2⟩:=w9.2 xm (by rw[hx];exact hk);⟨k₁,h1,.head h0 s1 h2⟩⟩
 |goto l=>exact hq.elim
 |ret=>exact⟨_,yt,aa3,hq,.of_steps (.one h0 s1) w9⟩
 |panic ch=>exact⟨_,yt,aa3,hq,.of_steps (.one h0 s1) w9⟩
 |outgrown=>exact⟨_,yt,aa3,hq,.of_steps (.one h0 s1) w9⟩
theorem yc {P:Program}{c:Code}{Q:Exit->Act->World->Prop}{a:Act}{w:World} (d:List Deferred):c.wpIn (@FW ⟨none,d⟩) 0 P Q a w↔c.wp P Q a w:=wpIn_wide
end
inductive BL where
 |code (c:Code)
 |aD (id:Nat)
 |im
 |ops (arr:Array Oper) (l:List Nat)
 |back (R:Act->World->Prop)
section
variable [Md]
def K (P:Program) (Q:Exit->Act->World->Prop):List BL->Exit->Act->World->Prop
 |[],e,a,w=>Q e a w
 |.code c::t,e,a,w=>match e with
  |.normal=>c.wpIn FW 0 P (K P Q t) a w
  |e=>K P Q t e a w
 |.aD id::t,e,a,w=>match e with
  |.exit td=>if td=id then K P Q t .normal a w else K P Q t (.exit td) a w
  |e=>K P Q t e a w
 |.im::t,e,a,w=>match e with
  |.goto _=>False
  |e=>K P Q t e a w
 |.ops arr l::t,e,a,w=>match e with
  |.normal=>wpOpsIn FW 0 P arr (K P Q t) l a w
  |e=>K P Q t e a w
 |.back R::t,e,a,w=>match e with
  |.normal=>R a w
  |e=>K P Q t e a w
end
section
variable [Md] {P:Program}{Q:Exit->Act->World->Prop}{a:Act}{w:World}{t:List BL}
theorem E7 (c:Code):K P Q (.code c::t) .normal a w=c.wpIn FW 0 P (K P Q t) a w:=rfl
theorem IQ (c:Code):K P Q (.code c::t)=Exit.then (c.wpIn FW 0 P (K P Q t)) (K P Q t):=by
 funext e a w;cases e<;>rfl
theorem IP (id:Nat):K P Q (.aD id::t)=Exit.inBlock id (K P Q t):=by
 funext e a w;cases e<;>rfl
theorem IN (R:Act->World->Prop):K P Q (.back R::t)=Exit.then R (K P Q t):=by
 funext e a w;cases e<;>rfl
theorem I1:K P Q (.im::t)=Exit.noGoto (K P Q t):=by
 funext e a w;cases e<;>rfl
theorem I2 (h:K P Q t .normal a w):K P Q (.code .skip::t) .normal a w:=wpIn_skip h
theorem IU {l:Nat} (h:K P Q t .normal a w):K P Q (.code (.label l)::t) .normal a w:=wpIn_label h
theorem DH {x y:Code} (h:K P Q (.code x::.code y::t) .normal a w):K P Q (.code (.seq x y)::t) .normal a w:=by
 refine wpIn_seq ?_
 rw[E7,IQ]at h
 exact h
theorem IS {c:Operand}{x y:Code}{b:Bool} (hc:a.eval c=.bool b) (h:K P Q (.code (if b then x else y)::t) .normal a w):K P Q (.code (.cond c x y)::t) .normal a w:=wpIn_cond hc h
theorem Fz {id:Nat}{c:Code} (h:K P Q (.code c::.aD id::t) .normal a w):K P Q (.code (.block id c)::t) .normal a w:=by
 refine wpIn_block ?_
 rw[E7,IP]at h
 exact h
theorem I0 {c:Code} (h:K P Q (.code c::.im::t) .normal a w):K P Q (.code (.scope c)::t) .normal a w:=by
 refine ash ?_
 rw[E7,I1]at h
 exact h
theorem FQ {id:Nat}{ops:Array Oper} (h:K P Q (.ops ops (List.range ops.size)::t) .normal a w):K P Q (.code (.region id ops false)::t) .normal a w:=wpIn_region h
theorem IT {id:Nat} (h:K P Q t (.exit id) a w):K P Q (.code (.exit id)::t) .normal a w:=wpIn_exit h
theorem IZ (h:K P Q t .ret a w):K P Q (.code .ret::t) .normal a w:=wpIn_ret h
theorem DE (h:Q .ret a w):∀ t:List BL,K P Q t .ret a w
 |[]=>h
 |.code _::t=>DE h t
 |.aD _::t=>DE h t
 |.im::t=>DE h t
 |.ops _ _::t=>DE h t
 |.back _::t=>DE h t
theorem DQ {ch:List PanicEntry} (h:Q (.panic ch) a w):∀ t:List BL,K P Q t (.panic ch) a w
 |[]=>h
 |.code _::t=>DQ h t
 |.aD _::t=>DQ h t
 |.im::t=>DQ h t
 |.ops _ _::t=>DQ h t
 |.back _::t=>DQ h t
theorem H5 {c:Code} (I:Nat->Act->World->Prop) (m:Nat) (h0:I m a w)
  (h:∀ m a w,I m a w->K P Q (.code c::.back (fun a' w'=>∃ m',m'<m/\I m' a' w')::t) .normal a w):K P Q (.code (.loop c)::t) .normal a w:=by
 refine wpIn_loop_rounds (m+1) ?_
 have key:∀ (n m:Nat),m<n->∀ a w,I m a w->Code.roundsIn FW 0 P c (K P Q t) n a w:=by
  intro n
  induction n with
  |zero=>intro m h;omega
  |succ n ih=>
   intro m hm a w hI
   have:=h m a w hI
   rw[E7,IN]at this
   refine wpIn_mono this ?_
   intro e a' w' he
   cases e with
   |normal=>
    obtain⟨m',h1,h2⟩:=he
    exact ih m' (by omega) a' w' h2
   |_=>exact he
 exact key (m+1) m (by omega) a w h0
end
def nS (o:Az):Az:=⟨o.dst,o.op,o.type,o.guard,[]⟩
def SC.bare:SC->SC
 |.lS ops=>.lS (ops.map nS)
 |.aS ops rV _=>.aS (ops.map nS) rV []
 |.seq a b=>.seq a.bare b.bare
 |.cond c x y=>.cond c x.bare y.bare
 |.block id b=>.block id b.bare
 |.loop b=>.loop b.bare
 |.skip=>.skip
 |.exit id=>.exit id
 |.ret=>.ret
 |.other=>.other
 |.mark b=>b.bare
def xx (acc:List Nat):List Nat->List Nat
 |[]=>acc
 |x::l=>xx (if acc.contains x then acc else acc++[x]) l
def rW (befs:List (List Nat)):List Nat->List Edge->List Nat
 |acc,[]=>acc
 |acc,e::l=>rW befs (if Region.binds .any e then xx (xx acc ((befs[e.on]?).getD [])) [e.on] else acc) l
def qj (befs:List (List Nat)):List Oper->List (List Nat)
 |[]=>befs
 |o::l=>qj (befs++[rW befs [] o.after.toList]) l
def qy (n:Nat) (ops:Array Oper) (o:Oper):Az:=
 ⟨o.dst,o.op,o.type,o.guard.map fun g=>(((ops[g.1]?).bind (·.dst)).getD n,g.2),[]⟩
def erase (n:Nat):Code->SC
 |.skip=>.skip
 |.region _ ops false=>.lS (ops.toList.map (qy n ops))
 |.region _ ops true=>.aS (ops.toList.map (qy n ops)) (qj [] ops.toList) []
 |.seq a b=>.seq (erase n a) (erase n b)
 |.cond c x y=>.cond c (erase n x) (erase n y)
 |.block id b=>.block id (erase n b)
 |.loop b=>.loop (erase n b)
 |.exit id=>.exit id
 |.ret=>.ret
 |.label _=>.skip
 |.scope b=>erase n b
 |_=>.other
def SC.fits (n:Nat):SC->Bool
 |.lS ops=>ops.all fun o=>match o.dst with|some d=>decide (d<n)|none=>true
 |.aS ops _ _=>ops.all fun o=>match o.dst with|some d=>decide (d<n)|none=>true
 |.seq a b=>a.fits n&&b.fits n
 |.cond _ x y=>x.fits n&&y.fits n
 |.block _ b=>b.fits n
 |.loop b=>b.fits n
 |_=>true
section
variable [Md]
structure SR (N0:Nat) (W0:World) (n:Nat) (st:St) (a:Act) (w:World) (fm:FM) (ts:List Aw):Prop where
 hr:HR N0 W0 fm ts (st.fr::st.low) w
 tm:C1 fm ts (look st.tm) a
 nx:∀ k,st.nx<=k->tb ts 0 k=none
 size:a.tmps.size=n
 fy:a.defers=Md.wg
structure Bq (N0:Nat) (fm:FM) (ts:List Aw) (fm':FM) (ts':List Aw):Prop where
 fj:AU N0 fm fm'
 ke:AD (ts.drop 1) (ts'.drop 1)
 no:∀ l k,tb (ts.drop 1) l k=none->tb (ts'.drop 1) l k=none
theorem Bq.refl {N0:Nat} (fm:FM) (ts:List Aw):Bq N0 fm ts fm ts:=⟨AU.refl _ _,AD.refl _,fun _ _ h=>h⟩
theorem Bq.trans {N0:Nat}{f1 f2 f3:FM}{t1 t2 t3:List Aw} (h:Bq N0 f1 t1 f2 t2) (k:Bq N0 f2 t2 f3 t3):Bq N0 f1 t1 f3 t3:=
 ⟨h.fj.trans k.fj,h.ke.trans k.ke,fun l j e=>k.no l j (h.no l j e)⟩
theorem aav (a:Act) (dst:Option Tmp) (v:Value):(a.put dst v).tmps.size=a.tmps.size:=by
 cases dst<;>simp[Act.put]
theorem xK (a:Act) (dst:Option Tmp) (v:Value):(a.put dst v).defers=a.defers:=by
 cases dst<;>rfl
theorem C1.put {fm:FM}{ts:List Aw}{tm:List (Nat×AV)}{a:Act} (h:C1 fm ts (look tm) a) {dst:Option Tmp}{x:AV}{v:Value} (hv:VR fm ts x v) (hd:∀ d,dst=some d->d<a.tmps.size) (drop:List Nat):
  C1 fm ts (look (cM (nH tm dst x) drop)) (a.put dst v):=by
 intro t y hy
 replace hy:=aaf drop _ t y hy
 cases dst with
 |none=>exact h t y hy
 |some d=>
  simp only[nH,tp]at hy
  have af:=hd d rfl
  split at hy
  ·rename_i e
   subst e
   obtain rfl:=oi hy
   exact⟨v,by simp[Act.put,af],hv⟩
  ·rename_i e
   obtain⟨u,h1,h2⟩:=h t y hy
   exact⟨u,by simp only[Act.put];rw[Array.getElem?_setIfInBounds_ne e];exact h1,h2⟩
theorem C1.mono {fm fm':FM}{ts ts':List Aw}{tm:Tm}{a:Act} (h:C1 fm ts tm a) (hf:Bh fm fm') (ht:AD ts ts'):C1 fm' ts' tm a:=by
 intro t x hx
 obtain⟨v,h1,h2⟩:=h t x hx
 exact⟨v,h1,h2.mono hf ht⟩
theorem asg (st:St) (f:AH) (H:Heap):St.vB st (f::H)={ st with fr:=f,low:=H }:=rfl
theorem xL (f:AH) (H:Heap) (s:List (Nat×Nat×Option AJ)):∃ f' H',Heap.bV (f::H) s=f'::H':=by
 have:=Heap.aiG s (f::H)
 cases h:Heap.bV (f::H) s with
 |nil=>rw[h]at this;simp at this
 |cons f' H'=>exact⟨f',H',rfl⟩
theorem SR.by {N0:Nat}{W0:World}{n:Nat}{st:St}{a:Act}{w:World}{fm:FM}{ts:List Aw} (h:SR N0 W0 n st a w fm ts) {r:Result Next}{d:De}{fm':FM}{ts':List Aw}{w':World}{v:Value}
  (o:Out N0 W0 fm ts (st.fr::st.low) w st.nx r d fm' ts' w' v) {dst:Option Tmp} (hd:∀ d,dst=some d->d<n) (drop:List Nat):
  SR N0 W0 n (st.by dst drop d) (a.put dst v) w' fm' ts'/\Bq N0 fm ts fm' ts':=by
 obtain⟨f',H',hp⟩:=xL st.fr st.low d.mW
 have hb:st.by dst drop d={ st with tm:=cM (nH st.tm dst d.val) drop,nx:=st.nx+16,fr:=f',low:=H' }:=by
  unfold St.by;rw[hp];rfl
 rw[hb]
 refine⟨⟨?_,?_,?_,?_,?_⟩,⟨o.fj,o.ke.drop 1,?_⟩⟩
 ·have:=o.hr;rw[hp]at this;exact this
 ·exact(h.tm.mono o.fj.le o.ke).put o.val (by rw[h.size];exact hd) drop
 ·intro k hk
  have e9:st.nx+16<=k:=hk
  exact o.free 0 k (by omega) (h.nx k (by omega))
 ·rw[aav];exact h.size
 ·rw[xK];exact h.fy
 ·intro l k hn
  rw[ft]at hn ⊢
  exact o.free (l+1) k (by omega) hn
theorem SR.mU {N0:Nat}{W0:World}{n:Nat}{st:St}{a:Act}{w:World}{fm:FM}{ts:List Aw} (h:SR N0 W0 n st a w fm ts) {o:Az} (hd:∀ d,o.dst=some d->d<n):
  SR N0 W0 n (st.mU o) (a.put o.dst undef) w fm ts:=by
 have ho:Out N0 W0 fm ts (st.fr::st.low) w st.nx (.ok .skip w) ⟨.aw [],[]⟩ fm ts w undef:=
  ⟨.inr ⟨rfl,rfl⟩,h.hr,.aw [] #[] rfl (fun i x v h=>by simp at h),AU.refl _ _,AD.refl _,fun _ _ _ h=>h⟩
 exact(h.by ho hd o.drop).1
inductive Bw (N0:Nat) (W0:World) (n:Nat) (fm:FM) (ts:List Aw):List It->List BL->Prop
 |nil:Bw N0 W0 n fm ts [] []
 |sc {s:SC}{c:Code}{t ct} (h:s.bare=erase n c) (hf:(erase n c).fits n=true) (ht:Bw N0 W0 n fm ts t ct):Bw N0 W0 n fm ts (.sc s::t) (.code c::ct)
 |aD {id:Nat}{t ct} (ht:Bw N0 W0 n fm ts t ct):Bw N0 W0 n fm ts (.aD id::t) (.aD id::ct)
 |im {t ct} (ht:Bw N0 W0 n fm ts t ct):Bw N0 W0 n fm ts t (.im::ct)
 |ops {l:List Az}{arr:Array Oper}{is:List Nat}{t ct} (h:l.map nS=is.map fun i=>qy n arr (arr.getD i default)) (hi:∀ i∈is,i<arr.size) (hf:∀ o∈l,∀ d,o.dst=some d->d<n) (ht:Bw N0 W0 n fm ts t ct):Bw N0 W0 n fm ts (.ops l::t) (.ops arr is::ct)
 |back {B:St->Prop}{R:Act->World->Prop}{t ct} (h:∀ ay a' w' fm' ts',B ay->SR N0 W0 n ay a' w' fm' ts'->Bq N0 fm ts fm' ts'->R a' w') (ht:Bw N0 W0 n fm ts t ct):Bw N0 W0 n fm ts (.back B::t) (.back R::ct)
theorem Bw.later {N0:Nat}{W0:World}{n:Nat}{fm fm':FM}{ts ts':List Aw} (hl:Bq N0 fm ts fm' ts') {t:List It}{ct:List BL} (h:Bw N0 W0 n fm ts t ct):Bw N0 W0 n fm' ts' t ct:=by
 induction h with
 |nil=>exact .nil
 |sc h hf _ ih=>exact .sc h hf ih
 |aD _ ih=>exact .aD ih
 |im _ ih=>exact .im ih
 |ops h hi hf _ ih=>exact .ops h hi hf ih
 |back h _ ih=>exact .back (fun ay a' w' fZ eU hB hS hL=>h ay a' w' fZ eU hB hS (hl.trans hL)) ih
end
end Go.Abs
