/-
  Part 6 of the proof: a machine over named blocks, what each function computes, and what follows. No condition.
-/
import Derived.Test.YtpgccpdlilnakaaRows
import Derived.WalkKit
import Derived.ProofKit
import Derived.OpenShut
import Derived.JoinedCond
import Derived.Test.YtpgccpdlilnakaaBSlipsE
set_option linter.unusedVariables false
set_option linter.unusedSimpArgs false
set_option linter.all false
set_option maxRecDepth 100000
set_option maxHeartbeats 8000000
namespace Go.Abs
open Go.Proofs
def F12.s2:SC:=
 (.seq
 (.seq
 (.reg [mv 76 17 3 [],
 bn 77 .lss 3 76 6 3 4 [76]])
 (.cond (.tmp 77)
 .skip
 (.exit 4)))
 (.seq
 (.block 5
 (.seq
 (.dreg [mv 80 16 3 [],
 mv 81 9 3 [],
 mv 82 17 3 [],
 ia 83 108 6 80 [],
 fa 84 107 83 3 [],
 ia 85 105 84 81 [],
 ia 86 95 85 82 [],
 ld 87 3 86 [],
 mv 88 17 3 [],
 ia 89 95 12 88 [],
 ld 90 3 89 [],
 b2 91 .gtr 3 87 90 3 4 [],
 mv 92 91 4 [],
 og 93 (.move (.tmp 16)) 3 92 false [],
 og 94 (.move (.tmp 9)) 3 92 false [],
 og 95 (.move (.tmp 17)) 3 92 false [],
 og 96 (.indexAddr 108 (.tmp 6) (.tmp 93)) 0 92 false [],
 og 97 (.fieldAddr 107 (.tmp 96) 3) 0 92 false [],
 og 98 (.indexAddr 105 (.tmp 97) (.tmp 94)) 0 92 false [],
 og 99 (.indexAddr 95 (.tmp 98) (.tmp 95)) 0 92 false [],
 og 100 (.load 3 (.tmp 99)) 3 92 false [],
 og 101 (.move (.tmp 17)) 3 92 false [],
 og 102 (.indexAddr 95 (.tmp 14) (.tmp 101)) 0 92 false [],
 og 103 (.load 3 (.tmp 102)) 3 92 false [],
 og 104 (.binOp .gtr 3 (.tmp 100) (.tmp 103) 3) 4 92 false [],
 oq 105 (.pick (.tmp 92) (.const (.bool true)) (.tmp 104)) 4 []] [[],[],[],[0],[0,3],[0,3,4,1],[0,3,4,1,5,2],[0,3,4,1,5,2,6],[],[8],[8,9],[0,3,4,1,5,2,6,7,8,9,10],[0,3,4,1,5,2,6,7,8,9,10,11],[0,3,4,1,5,2,6,7,8,9,10,11,12],[0,3,4,1,5,2,6,7,8,9,10,11,12],[0,3,4,1,5,2,6,7,8,9,10,11,12],[0,3,4,1,5,2,6,7,8,9,10,11,12,13],[0,3,4,1,5,2,6,7,8,9,10,11,12,13,16],[0,3,4,1,5,2,6,7,8,9,10,11,12,13,16,17,14],[0,3,4,1,5,2,6,7,8,9,10,11,12,13,16,17,14,18,15],[0,3,4,1,5,2,6,7,8,9,10,11,12,13,16,17,14,18,15,19],[0,3,4,1,5,2,6,7,8,9,10,11,12],[0,3,4,1,5,2,6,7,8,9,10,11,12,21],[0,3,4,1,5,2,6,7,8,9,10,11,12,21,22],[0,3,4,1,5,2,6,7,8,9,10,11,12,13,16,17,14,18,15,19,20,21,22,23],[0,3,4,1,5,2,6,7,8,9,10,11,12,13,16,17,14,18,15,19,20,21,22,23,24]] [80,81,82,83,84,85,86,87,88,89,90,91,92,93,94,95,96,97,98,99,100,101,102,103,104])
 (.cond (.tmp 105)
 (.seq
 (.reg [sb 4 false 4 []])
 .ret)
 .skip)))
 (.reg [mv 78 17 3 [17],
 bn 79 .add 3 78 1 3 3 [78],
 sg 17 79 3 [79]])))
def F12.s1:SC:=
 (.seq
 (.seq
 (.reg [mv 72 16 3 [],
 bn 73 .lss 3 72 3 3 4 [72]])
 (.cond (.tmp 73)
 .skip
 (.exit 2)))
 (.seq
 (.block 3
 (.seq
 (.reg [sn 17 0 3 []])
 (.block 4
 (.loop F12.s2))))
 (.reg [mv 74 16 3 [16],
 bn 75 .add 3 74 1 3 3 [74],
 sg 16 75 3 [75]])))
def F12.s0:SC:=
 (.seq
 (.seq
 (.reg [mv 36 9 3 [],
 bn 37 .lss 3 36 3 3 4 [36]])
 (.cond (.tmp 37)
 .skip
 (.exit 0)))
 (.seq
 (.block 1
 (.seq
 (.reg [mv 41 9 3 [],
 ia 42 108 6 41 [41],
 ld 43 107 42 [42],
 mv 44 1 63 [],
 cf2 45 62 43 44 107 63 112 [43,44],
 mv 40 45 112 [45],
 xt 46 40 0 107 [],
 xt 47 40 1 28 [40],
 oq 10 (.alloc 107) 0 [],
 ⟨none,.store 107 (.tmp 10) (.tmp 46),0,none,[46]⟩,
 sg 11 47 28 [47]])
 (.seq
 (.seq
 (.reg [mv 48 11 28 [11],
 bn 49 .neq 28 48 0 28 4 [48]])
 (.cond (.tmp 49)
 (.seq
 (.reg [sb 4 false 4 []])
 .ret)
 .skip))
 (.seq
 (.reg [mv 51 9 3 [],
 ia 52 108 6 51 [51],
 fa 53 107 52 2 [52],
 fa 54 48 53 0 [53],
 ld 55 46 54 [54],
 cf1 56 53 55 46 96 [55],
 mv 50 56 96 [56],
 xt 57 50 0 95 [],
 xt 58 50 1 28 [50],
 oq 12 (.alloc 95) 0 [],
 ⟨none,.store 95 (.tmp 12) (.tmp 57),0,none,[57]⟩,
 sg 13 58 28 [58]])
 (.seq
 (.reg [fa 60 107 10 2 [10],
 fa 61 48 60 0 [60],
 ld 62 46 61 [61],
 cf1 63 53 62 46 96 [62],
 mv 59 63 96 [63],
 xt 64 59 0 95 [],
 xt 65 59 1 28 [59],
 oq 14 (.alloc 95) 0 [],
 ⟨none,.store 95 (.tmp 14) (.tmp 64),0,none,[64]⟩,
 sg 15 65 28 [65]])
 (.seq
 (.seq
 (.reg [mv 66 13 28 [13],
 bn 67 .neq 28 66 0 28 4 [66],
 mv 68 67 4 [67],
 og 69 (.move (.tmp 15)) 28 68 false [15],
 og 70 (.binOp .neq 28 (.tmp 69) (.const (.int .i64 0)) 28) 4 68 false [69],
 oq 71 (.pick (.tmp 68) (.const (.bool true)) (.tmp 70)) 4 [68,70]])
 (.cond (.tmp 71)
 (.seq
 (.reg [sb 4 false 4 []])
 .ret)
 .skip))
 (.seq
 (.reg [sn 16 0 3 []])
 (.block 2
 (.loop F12.s1)))))))))
 (.reg [mv 38 9 3 [9],
 bn 39 .add 3 38 1 3 3 [38],
 sg 9 39 3 [39]])))
def F12.c:SC:=
 (.seq
 (.reg [sb 4 false 4 [4]])
 (.seq
 (.reg [oq 18 (.call ⟨.value (.func 14),#[],#[]⟩) 4 [],
 sg 5 18 4 [18]])
 (.seq
 (.reg [mv 20 0 104 [0],
 cf1 21 61 20 104 110 [20],
 mv 19 21 110 [21],
 xt 22 19 0 108 [],
 xt 23 19 1 109 [],
 xt 24 19 2 4 [19],
 oq 6 (.alloc 108) 0 [],
 ⟨none,.store 108 (.tmp 6) (.tmp 22),0,none,[22]⟩,
 sg 7 23 109 [23],
 sg 8 24 4 [24]])
 (.seq
 (.seq
 (.reg [mv 25 5 4 [5],
 oq 26 (.unOp .not 4 (.tmp 25)) 4 [25],
 mv 27 26 4 [26],
 og 28 (.move (.tmp 8)) 4 27 false [8],
 og 29 (.unOp .not 4 (.tmp 28)) 4 27 false [28],
 oq 30 (.pick (.tmp 27) (.const (.bool true)) (.tmp 29)) 4 [27,29],
 mv 31 30 4 [30],
 og 32 (.move (.tmp 7)) 109 31 false [7],
 og 33 (.call ⟨.builtin .len,#[.tmp 32],#[109]⟩) 3 31 false [32],
 og 34 (.binOp .gtr 3 (.tmp 33) (.const (.int .i64 1000)) 3) 4 31 false [33],
 oq 35 (.pick (.tmp 31) (.const (.bool true)) (.tmp 34)) 4 [31,34]])
 (.cond (.tmp 35)
 (.seq
 (.reg [sb 4 false 4 []])
 .ret)
 .skip))
 (.seq
 (.seq
 (.reg [sn 9 0 3 []])
 (.block 0
 (.loop F12.s0)))
 (.seq
 (.reg [sb 4 true 4 []])
 .ret))))))
theorem F12.rs:Try.f12.results.toList=[.tmp 4]:=rfl
def Zah.b2 (k:Nat) (x2:(Vec 3 House)×(List Slip)×Bool) (i6:Int) (x13:(Vec 6 Int)×Int) (x14:(Vec 6 Int)×Int) (i17:Int):Int→Option (Stp (Int) (Unit) (Bool)):=fun(i19:Int)=>
 bif decide (i19<(6:Int)) then
  (x2.1.at? i17).bind fun x21=>
  (x21.Known.at? i6).bind fun x23=>
  (x23.at? i19).bind fun x24=>
  (x13.1.at? i19).bind fun x25=>
  bif (!decide (x25<x24)) then
   (x14.1.at? i19).bind fun x28=>
   bif decide (x28<x24) then
    some (.ret false)
   else
    some (.next (w64 (i19+1)))
  else
   some (.ret false)
 else
  some (.brk ())
def Zah.b1 (k:Nat) (x2:(Vec 3 House)×(List Slip)×Bool) (i6:Int) (x13:(Vec 6 Int)×Int) (x14:(Vec 6 Int)×Int):Int→Option (Stp (Int) (Unit) (Bool)):=fun(i17:Int)=>
 bif decide (i17<(3:Int)) then
  (whl (Zah.b2 k x2 i6 x13 x14 i17) k 0).bind fun r30=>match r30 with
  |.next _=>none
  |.ret v_=>some (.ret v_)
  |.brk _=>
   some (.next (w64 (i17+1)))
 else
  some (.brk ())
def Zah.b0 (k:Nat) (picks1:(List Int)) (x2:(Vec 3 House)×(List Slip)×Bool):Int→Option (Stp (Int) (Unit) (Bool)):=fun(i6:Int)=>
 bif decide (i6<(3:Int)) then
  (x2.1.at? i6).bind fun x8=>
  (ZbN k x8 picks1).bind fun x9=>
  bif (!decide (x9.2=(0:Int))) then
   some (.ret false)
  else
   (Zew k x8.Ledger.Book).bind fun x13=>
   (Zew k x9.1.Ledger.Book).bind fun x14=>
   bif decide (x13.2=(0:Int)) then
    bif (!decide (x14.2=(0:Int))) then
     some (.ret false)
    else
     (whl (Zah.b1 k x2 i6 x13 x14) k 0).bind fun r31=>match r31 with
     |.next _=>none
     |.ret v_=>some (.ret v_)
     |.brk _=>
      some (.next (w64 (i6+1)))
   else
    some (.ret false)
 else
  some (.brk ())
noncomputable def Zah.h2 (picks1:(List Int)) (x2:(Vec 3 House)×(List Slip)×Bool) (i6:Int) (x13:(Vec 6 Int)×Int) (x14:(Vec 6 Int)×Int) (i17:Int):Int→St:=fun(i19:Int)=>⟨[(1,.sl 1 (List.map eI picks1)),(6,.ptr 0 0 0),(9,.int .i64 i6),(12,.ptr 0 1 0),(14,.ptr 0 2 0),(16,.int .i64 i17),(17,.int .i64 i19)],[(0,.box (Vec.c (n:=3) House.c x2.1)),(1,.box (Vec.c (n:=6) eI x13.1)),(2,.box (Vec.c (n:=6) eI x14.1))],[],3,Try.f12.ntmps⟩
noncomputable def Zah.x2 (picks1:(List Int)) (x2:(Vec 3 House)×(List Slip)×Bool) (i6:Int) (x13:(Vec 6 Int)×Int) (x14:(Vec 6 Int)×Int) (i17:Int):Unit→St:=fun(_:Unit)=>⟨[(1,.sl 1 (List.map eI picks1)),(6,.ptr 0 0 0),(9,.int .i64 i6),(12,.ptr 0 1 0),(14,.ptr 0 2 0),(16,.int .i64 i17)],[(0,.box (Vec.c (n:=3) House.c x2.1)),(1,.box (Vec.c (n:=6) eI x13.1)),(2,.box (Vec.c (n:=6) eI x14.1))],[],3,Try.f12.ntmps⟩
noncomputable def Zah.h1 (picks1:(List Int)) (x2:(Vec 3 House)×(List Slip)×Bool) (i6:Int) (x13:(Vec 6 Int)×Int) (x14:(Vec 6 Int)×Int):Int→St:=fun(i17:Int)=>⟨[(1,.sl 1 (List.map eI picks1)),(6,.ptr 0 0 0),(9,.int .i64 i6),(12,.ptr 0 1 0),(14,.ptr 0 2 0),(16,.int .i64 i17)],[(0,.box (Vec.c (n:=3) House.c x2.1)),(1,.box (Vec.c (n:=6) eI x13.1)),(2,.box (Vec.c (n:=6) eI x14.1))],[],3,Try.f12.ntmps⟩
noncomputable def Zah.x1 (picks1:(List Int)) (x2:(Vec 3 House)×(List Slip)×Bool) (i6:Int):Unit→St:=fun(_:Unit)=>⟨[(1,.sl 1 (List.map eI picks1)),(6,.ptr 0 0 0),(9,.int .i64 i6)],[(0,.box (Vec.c (n:=3) House.c x2.1))],[],1,Try.f12.ntmps⟩
noncomputable def Zah.h0 (picks1:(List Int)) (x2:(Vec 3 House)×(List Slip)×Bool):Int→St:=fun(i6:Int)=>⟨[(1,.sl 1 (List.map eI picks1)),(6,.ptr 0 0 0),(9,.int .i64 i6)],[(0,.box (Vec.c (n:=3) House.c x2.1))],[],1,Try.f12.ntmps⟩
noncomputable def Zah.x0:Unit→St:=fun(_:Unit)=>⟨[],[],[],1,Try.f12.ntmps⟩
def Zah (k:Nat) (l0:(List R09_Act)) (picks1:(List Int)):Option (Bool):=
 (ZhV k).bind fun x1=>
 (Zaq k l0).bind fun x2=>
 bif x1 then
  bif x2.2.2 then
   bif decide ((1000:Int)<(x2.2.1.length:Int)) then
    some false
   else
    (whl (Zah.b0 k picks1 x2) k 0).bind fun r32=>match r32 with
    |.next _=>none
    |.ret v_=>some v_
    |.brk _=>
     some true
  else
   some false
 else
  some false
theorem ZhK (k:Nat) (l0:(List R09_Act)) (picks1:(List Int)) (r:Bool) (h0:Zah k l0 picks1=some r):Za6 Try.prog 12 [.sl 9 (List.map R09_Act.c l0),.sl 1 (List.map eI picks1)] (fun y=>y=.bool r):=by
 refine PB (fn:=Try.f12) (sc:=F12.c) ?_
 refine rS ?_
 simp only[Zah]at h0
 try simp only[F12.c,go_sem]
 obtain⟨x1,yx1,h0⟩:=bs h0
 refine zc0 (ZlN k _ yx1) ?_ (by first|rfl|(simp[AV.refsL,AV.refs,AV.scal,AV.leaf];done)|simp[AV.refsL,AV.refs,AV.scal,AV.leaf,go_sem]) ?_
 try simp only[go_sem]
 try simp only[go_sem]
 obtain⟨x2,yx2,h0⟩:=bs h0
 refine zc0 (Zkb k _ _ yx2) ?_ (by first|rfl|(simp[AV.refsL,AV.refs,AV.scal,AV.leaf];done)|simp[AV.refsL,AV.refs,AV.scal,AV.leaf,go_sem]) ?_
 try simp only[go_sem]
 try simp only[go_sem]
 refine Zab h0 ?_ ?_<;>intro c3 h0
 try simp only[c3,go_sem]
 refine Zab h0 ?_ ?_<;>intro c4 h0
 try simp only[c4,c3,go_sem]
 refine Zab h0 ?_ ?_<;>intro c5 h0
 try simp only[c5,c3,c4,go_sem]
 obtain rfl:=oi h0
 refine Zac rfl ?_
 try simp only[F12.rs,c3,c4,c5,go_sem]
 try simp only[c5,c3,c4,go_sem]
 obtain⟨r32,yr32,h0⟩:=bs h0
 refine Zaz yr32 (Zah.h0 picks1 x2) (Zah.x0) ?_ ?_ ?_
 refine ZaE.go [1,6,9] [144] rfl ?_
 try simp only[Zah.h0,c3,c4,c5,go_sem]
 rintro i6 x_1 Bk1 Br1 h1 hnext1 hbrk1 hret1
 refine rS ?_
 simp only[Zah.b0]at h1
 try simp only[F12.s0,Zah.h0,c3,c4,c5,go_sem]
 refine Zab h1 ?_ ?_<;>intro c7 h1
 try simp only[c7,c3,c4,c5,go_sem]
 obtain⟨x8,yx8,h1⟩:=bs h1
 have uyx8:=UpdE.at (fun q_=>(Za0.len q_:(House.c q_).length=43)) (UpdE.self (fun q_=>((VK.vec Za0 3).len q_:(Vec.c (n:=3) House.c q_).length=129)) x2.1) yx8
 have buyx8:=uyx8.bound (fun q_=>(Za0.len q_:(House.c q_).length=43))
 have guyx8:=uyx8.get (fun q_=>(Za0.len q_:(House.c q_).length=43))
 try simp only[List.length_cons,List.length_nil,go_sem]at buyx8 guyx8
 try simp only[Zaa yx8,buyx8,guyx8,c3,c4,c5,c7,go_sem]
 obtain⟨x9,yx9,h1⟩:=bs h1
 refine zc0 (Zff k _ _ _ yx9) ?_ (by first|rfl|(simp[AV.refsL,AV.refs,AV.scal,AV.leaf];done)|simp[AV.refsL,AV.refs,AV.scal,AV.leaf,go_sem]) ?_
 try simp only[c3,c4,c5,c7,Zaa yx8,buyx8,guyx8,go_sem]
 try simp only[c3,c4,c5,c7,Zaa yx8,buyx8,guyx8,go_sem]
 refine Zab h1 ?_ ?_<;>intro c10 h1
 have c10:=ZaB c10
 try simp only[c10,c3,c4,c5,c7,Zaa yx8,buyx8,guyx8,go_sem]
 obtain rfl:=hret1 _ (oi h1).symm
 simp only at h0
 obtain rfl:=oi h0
 refine Zac rfl ?_
 try simp only[F12.rs,c3,c4,c5,c7,Zaa yx8,buyx8,guyx8,c10,go_sem]
 have c10:=ZaA c10
 have q11:=UpdE.within ((fun q_=>(Zf3.len q_:(Ledger.c q_).length=4)):∀ q_,(Ledger.c q_).length=4) uyx8 (show UpdE (House.c x8) 3 Ledger.c x8.Ledger (fun q_=>House.c { x8 with Ledger:=q_ }) from UpdE.skip (UpdE.app ((fun q_=>(Zf3.len q_:(Ledger.c q_).length=4)):∀ q_,(Ledger.c q_).length=4) (Vec.c (n:=6) (Vec.c (n:=6) eI) x8.Known) (UpdE.self ((fun q_=>(Zf3.len q_:(Ledger.c q_).length=4)):∀ q_,(Ledger.c q_).length=4) x8.Ledger)) ([.int .i64 x8.Me,.sl 64 (List.map (Vec.c (n:=2) (Vec.c (n:=32) eU8)) x8.Disk.Pages),.sl 65 (List.map Write.c x8.Disk.Wait)]:List AV)) (fun q_=>({ x8 with Ledger:=q_ }:House)) (fun _=>rfl)
 have bq11:=q11.bound ((fun q_=>(Zf3.len q_:(Ledger.c q_).length=4)):∀ q_,(Ledger.c q_).length=4)
 have gq11:=q11.get ((fun q_=>(Zf3.len q_:(Ledger.c q_).length=4)):∀ q_,(Ledger.c q_).length=4)
 try simp only[List.length_cons,List.length_nil,go_sem]at bq11 gq11
 have q12:=UpdE.within ((fun q_=>(Zio.len q_:(Book.c q_).length=1)):∀ q_,(Book.c q_).length=1) q11 (show UpdE (Ledger.c x8.Ledger) 0 Book.c x8.Ledger.Book (fun q_=>Ledger.c { x8.Ledger with Book:=q_ }) from UpdE.app ((fun q_=>(Zio.len q_:(Book.c q_).length=1)):∀ q_,(Book.c q_).length=1) [.int .i64 x8.Ledger.Area,.int .i64 x8.Ledger.Epoch,.int .i64 x8.Ledger.Used] (UpdE.self ((fun q_=>(Zio.len q_:(Book.c q_).length=1)):∀ q_,(Book.c q_).length=1) x8.Ledger.Book)) (fun q_=>({ x8.Ledger with Book:=q_ }:Ledger)) (fun _=>rfl)
 have bq12:=q12.bound ((fun q_=>(Zio.len q_:(Book.c q_).length=1)):∀ q_,(Book.c q_).length=1)
 have gq12:=q12.get ((fun q_=>(Zio.len q_:(Book.c q_).length=1)):∀ q_,(Book.c q_).length=1)
 try simp only[List.length_cons,List.length_nil,go_sem]at bq12 gq12
 try simp only[c10,Zaa yx8,buyx8,guyx8,bq11,gq11,bq12,gq12,c3,c4,c5,c7,go_sem]
 obtain⟨x13,yx13,h1⟩:=bs h1
 refine zc0 (Zh4 k _ _ yx13) ?_ (by first|rfl|(simp[AV.refsL,AV.refs,AV.scal,AV.leaf];done)|simp[AV.refsL,AV.refs,AV.scal,AV.leaf,go_sem]) ?_
 try simp only[c3,c4,c5,c7,Zaa yx8,buyx8,guyx8,c10,bq11,gq11,bq12,gq12,go_sem]
 try simp only[c3,c4,c5,c7,Zaa yx8,buyx8,guyx8,c10,bq11,gq11,bq12,gq12,go_sem]
 obtain⟨x14,yx14,h1⟩:=bs h1
 refine zc0 (Zh4 k _ _ yx14) ?_ (by first|rfl|(simp[AV.refsL,AV.refs,AV.scal,AV.leaf];done)|simp[AV.refsL,AV.refs,AV.scal,AV.leaf,go_sem]) ?_
 try simp only[c3,c4,c5,c7,Zaa yx8,buyx8,guyx8,c10,bq11,gq11,bq12,gq12,go_sem]
 try simp only[c3,c4,c5,c7,Zaa yx8,buyx8,guyx8,c10,bq11,gq11,bq12,gq12,go_sem]
 refine Zab h1 ?_ ?_<;>intro c15 h1
 try simp only[c15,c3,c4,c5,c7,Zaa yx8,buyx8,guyx8,c10,bq11,gq11,bq12,gq12,go_sem]
 refine Zab h1 ?_ ?_<;>intro c16 h1
 have c16:=ZaB c16
 try simp only[c16,c3,c4,c5,c7,Zaa yx8,buyx8,guyx8,c10,bq11,gq11,bq12,gq12,c15,go_sem]
 obtain rfl:=hret1 _ (oi h1).symm
 simp only at h0
 obtain rfl:=oi h0
 refine Zac rfl ?_
 try simp only[F12.rs,c3,c4,c5,c7,Zaa yx8,buyx8,guyx8,c10,bq11,gq11,bq12,gq12,c15,c16,go_sem]
 have c16:=ZaA c16
 try simp only[c16,c3,c4,c5,c7,Zaa yx8,buyx8,guyx8,c10,bq11,gq11,bq12,gq12,c15,go_sem]
 obtain⟨r31,yr31,h1⟩:=bs h1
 refine Zaz yr31 (Zah.h1 picks1 x2 i6 x13 x14) (Zah.x1 picks1 x2 i6) ?_ ?_ ?_
 refine ZaE.go [1,6,9,12,14,16] [0,385,545] rfl ?_
 try simp only[Zah.h1,c3,c4,c5,c7,Zaa yx8,buyx8,guyx8,c10,bq11,gq11,bq12,gq12,c15,c16,go_sem]
 rintro i17 x_2 Bk2 Br2 h2 hnext2 hbrk2 hret2
 refine rS ?_
 simp only[Zah.b1]at h2
 try simp only[F12.s1,Zah.h1,c3,c4,c5,c7,Zaa yx8,buyx8,guyx8,c10,bq11,gq11,bq12,gq12,c15,c16,go_sem]
 refine Zab h2 ?_ ?_<;>intro c18 h2
 try simp only[c18,c3,c4,c5,c7,Zaa yx8,buyx8,guyx8,c10,bq11,gq11,bq12,gq12,c15,c16,go_sem]
 obtain⟨r30,yr30,h2⟩:=bs h2
 refine Zaz yr30 (Zah.h2 picks1 x2 i6 x13 x14 i17) (Zah.x2 picks1 x2 i6 x13 x14 i17) ?_ ?_ ?_
 refine ZaE.go [1,6,9,12,14,16,17] [0,1,2] rfl ?_
 try simp only[Zah.h2,c3,c4,c5,c7,Zaa yx8,buyx8,guyx8,c10,bq11,gq11,bq12,gq12,c15,c16,c18,go_sem]
 rintro i19 x_3 Bk3 Br3 h3 hnext3 hbrk3 hret3
 refine rS ?_
 simp only[Zah.b2]at h3
 try simp only[F12.s2,Zah.h2,c3,c4,c5,c7,Zaa yx8,buyx8,guyx8,c10,bq11,gq11,bq12,gq12,c15,c16,c18,go_sem]
 refine Zab h3 ?_ ?_<;>intro c20 h3
 try simp only[c20,c3,c4,c5,c7,Zaa yx8,buyx8,guyx8,c10,bq11,gq11,bq12,gq12,c15,c16,c18,go_sem]
 refine Zas Za9 Zat 1000 ?_
 try simp only[c3,c4,c5,c7,Zaa yx8,buyx8,guyx8,c10,bq11,gq11,bq12,gq12,c15,c16,c18,c20,go_sem]
 obtain⟨x21,yx21,h3⟩:=bs h3
 have uyx21:=UpdE.at (fun q_=>(Za0.len q_:(House.c q_).length=43)) (UpdE.self (fun q_=>((VK.vec Za0 3).len q_:(Vec.c (n:=3) House.c q_).length=129)) x2.1) yx21
 have buyx21:=uyx21.bound (fun q_=>(Za0.len q_:(House.c q_).length=43))
 have guyx21:=uyx21.get (fun q_=>(Za0.len q_:(House.c q_).length=43))
 try simp only[List.length_cons,List.length_nil,go_sem]at buyx21 guyx21
 have q22:=UpdE.within ((fun q_=>((VK.vec (VK.vec ZaN 6) 6).len q_:((Vec.c (n:=6) (Vec.c (n:=6) eI)) q_).length=36)):∀ q_,((Vec.c (n:=6) (Vec.c (n:=6) eI)) q_).length=36) uyx21 (show UpdE (House.c x21) 7 (Vec.c (n:=6) (Vec.c (n:=6) eI)) x21.Known (fun q_=>House.c { x21 with Known:=q_ }) from UpdE.skip (UpdE.self ((fun q_=>((VK.vec (VK.vec ZaN 6) 6).len q_:((Vec.c (n:=6) (Vec.c (n:=6) eI)) q_).length=36)):∀ q_,((Vec.c (n:=6) (Vec.c (n:=6) eI)) q_).length=36) x21.Known) ([.int .i64 x21.Me,.sl 64 (List.map (Vec.c (n:=2) (Vec.c (n:=32) eU8)) x21.Disk.Pages),.sl 65 (List.map Write.c x21.Disk.Wait),.sl 8 (List.map Record.c x21.Ledger.Book.Records),.int .i64 x21.Ledger.Area,.int .i64 x21.Ledger.Epoch,.int .i64 x21.Ledger.Used]:List AV)) (fun q_=>({ x21 with Known:=q_ }:House)) (fun _=>rfl)
 have bq22:=q22.bound ((fun q_=>((VK.vec (VK.vec ZaN 6) 6).len q_:((Vec.c (n:=6) (Vec.c (n:=6) eI)) q_).length=36)):∀ q_,((Vec.c (n:=6) (Vec.c (n:=6) eI)) q_).length=36)
 have gq22:=q22.get ((fun q_=>((VK.vec (VK.vec ZaN 6) 6).len q_:((Vec.c (n:=6) (Vec.c (n:=6) eI)) q_).length=36)):∀ q_,((Vec.c (n:=6) (Vec.c (n:=6) eI)) q_).length=36)
 try simp only[List.length_cons,List.length_nil,go_sem]at bq22 gq22
 try simp only[Zaa yx21,buyx21,guyx21,bq22,gq22,c3,c4,c5,c7,Zaa yx8,buyx8,guyx8,c10,bq11,gq11,bq12,gq12,c15,c16,c18,c20,go_sem]
 obtain⟨x23,yx23,h3⟩:=bs h3
 have uyx23:=UpdE.at (fun q_=>((VK.vec ZaN 6).len q_:((Vec.c (n:=6) eI) q_).length=6)) q22 yx23
 have buyx23:=uyx23.bound (fun q_=>((VK.vec ZaN 6).len q_:((Vec.c (n:=6) eI) q_).length=6))
 have guyx23:=uyx23.get (fun q_=>((VK.vec ZaN 6).len q_:((Vec.c (n:=6) eI) q_).length=6))
 try simp only[go_sem]at buyx23 guyx23
 try simp only[Zaa yx23,buyx23,guyx23,c3,c4,c5,c7,Zaa yx8,buyx8,guyx8,c10,bq11,gq11,bq12,gq12,c15,c16,c18,c20,Zaa yx21,buyx21,guyx21,bq22,gq22,go_sem]
 obtain⟨x24,yx24,h3⟩:=bs h3
 have uyx24:=UpdE.at (fun q_=>(ZaN.len q_:(eI q_).length=1)) uyx23 yx24
 have buyx24:=uyx24.bound (fun q_=>(ZaN.len q_:(eI q_).length=1))
 have guyx24:=uyx24.get (fun q_=>(ZaN.len q_:(eI q_).length=1))
 try simp only[go_sem]at buyx24 guyx24
 try simp only[Zaa yx24,buyx24,guyx24,c3,c4,c5,c7,Zaa yx8,buyx8,guyx8,c10,bq11,gq11,bq12,gq12,c15,c16,c18,c20,Zaa yx21,buyx21,guyx21,bq22,gq22,Zaa yx23,buyx23,guyx23,go_sem]
 obtain⟨x25,yx25,h3⟩:=bs h3
 have uyx25:=UpdE.at (fun q_=>(ZaN.len q_:(eI q_).length=1)) (UpdE.self (fun q_=>((VK.vec ZaN 6).len q_:(Vec.c (n:=6) eI q_).length=6)) x13.1) yx25
 have buyx25:=uyx25.bound (fun q_=>(ZaN.len q_:(eI q_).length=1))
 have guyx25:=uyx25.get (fun q_=>(ZaN.len q_:(eI q_).length=1))
 try simp only[List.length_cons,List.length_nil,go_sem]at buyx25 guyx25
 try simp only[Zaa yx25,buyx25,guyx25,c3,c4,c5,c7,Zaa yx8,buyx8,guyx8,c10,bq11,gq11,bq12,gq12,c15,c16,c18,c20,Zaa yx21,buyx21,guyx21,bq22,gq22,Zaa yx23,buyx23,guyx23,Zaa yx24,buyx24,guyx24,go_sem]
 refine ZgC h3 ?_ ?_<;>intro c26 h3
 have c26:=ZaB c26
 have q27:=UpdE.within ((fun q_=>((VK.vec (VK.vec ZaN 6) 6).len q_:((Vec.c (n:=6) (Vec.c (n:=6) eI)) q_).length=36)):∀ q_,((Vec.c (n:=6) (Vec.c (n:=6) eI)) q_).length=36) uyx21 (show UpdE (House.c x21) 7 (Vec.c (n:=6) (Vec.c (n:=6) eI)) x21.Known (fun q_=>House.c { x21 with Known:=q_ }) from UpdE.skip (UpdE.self ((fun q_=>((VK.vec (VK.vec ZaN 6) 6).len q_:((Vec.c (n:=6) (Vec.c (n:=6) eI)) q_).length=36)):∀ q_,((Vec.c (n:=6) (Vec.c (n:=6) eI)) q_).length=36) x21.Known) ([.int .i64 x21.Me,.sl 64 (List.map (Vec.c (n:=2) (Vec.c (n:=32) eU8)) x21.Disk.Pages),.sl 65 (List.map Write.c x21.Disk.Wait),.sl 8 (List.map Record.c x21.Ledger.Book.Records),.int .i64 x21.Ledger.Area,.int .i64 x21.Ledger.Epoch,.int .i64 x21.Ledger.Used]:List AV)) (fun q_=>({ x21 with Known:=q_ }:House)) (fun _=>rfl)
 have bq27:=q27.bound ((fun q_=>((VK.vec (VK.vec ZaN 6) 6).len q_:((Vec.c (n:=6) (Vec.c (n:=6) eI)) q_).length=36)):∀ q_,((Vec.c (n:=6) (Vec.c (n:=6) eI)) q_).length=36)
 have gq27:=q27.get ((fun q_=>((VK.vec (VK.vec ZaN 6) 6).len q_:((Vec.c (n:=6) (Vec.c (n:=6) eI)) q_).length=36)):∀ q_,((Vec.c (n:=6) (Vec.c (n:=6) eI)) q_).length=36)
 try simp only[List.length_cons,List.length_nil,go_sem]at bq27 gq27
 try simp only[c26,Zaa yx21,buyx21,guyx21,bq27,gq27,Zaa yx23,buyx23,guyx23,Zaa yx24,buyx24,guyx24,c3,c4,c5,c7,Zaa yx8,buyx8,guyx8,c10,bq11,gq11,bq12,gq12,c15,c16,c18,c20,bq22,gq22,Zaa yx25,buyx25,guyx25,go_sem]
 obtain⟨x28,yx28,h3⟩:=bs h3
 have uyx28:=UpdE.at (fun q_=>(ZaN.len q_:(eI q_).length=1)) (UpdE.self (fun q_=>((VK.vec ZaN 6).len q_:(Vec.c (n:=6) eI q_).length=6)) x14.1) yx28
 have buyx28:=uyx28.bound (fun q_=>(ZaN.len q_:(eI q_).length=1))
 have guyx28:=uyx28.get (fun q_=>(ZaN.len q_:(eI q_).length=1))
 try simp only[List.length_cons,List.length_nil,go_sem]at buyx28 guyx28
 try simp only[Zaa yx28,buyx28,guyx28,c3,c4,c5,c7,Zaa yx8,buyx8,guyx8,c10,bq11,gq11,bq12,gq12,c15,c16,c18,c20,Zaa yx21,buyx21,guyx21,bq22,gq22,Zaa yx23,buyx23,guyx23,Zaa yx24,buyx24,guyx24,Zaa yx25,buyx25,guyx25,c26,bq27,gq27,go_sem]
 refine Za4 ⟨Za3 (by simp only[ZcE,List.reverse_cons,List.reverse_nil,List.nil_append,List.cons_append,List.map_cons,List.map_nil,List.append_nil];rfl) (by first|decide +kernel|rfl),Zae Za9 1000 _ _ ?_⟩
 try simp only[c3,c4,c5,c7,Zaa yx8,buyx8,guyx8,c10,bq11,gq11,bq12,gq12,c15,c16,c18,c20,Zaa yx21,buyx21,guyx21,bq22,gq22,Zaa yx23,buyx23,guyx23,Zaa yx24,buyx24,guyx24,Zaa yx25,buyx25,guyx25,c26,bq27,gq27,Zaa yx28,buyx28,guyx28,go_sem]
 refine Zab h3 ?_ ?_<;>intro c29 h3
 try simp only[c29,c3,c4,c5,c7,Zaa yx8,buyx8,guyx8,c10,bq11,gq11,bq12,gq12,c15,c16,c18,c20,Zaa yx21,buyx21,guyx21,bq22,gq22,Zaa yx23,buyx23,guyx23,Zaa yx24,buyx24,guyx24,Zaa yx25,buyx25,guyx25,c26,bq27,gq27,Zaa yx28,buyx28,guyx28,go_sem]
 obtain rfl:=hret3 _ (oi h3).symm
 simp only at h2
 obtain rfl:=hret2 _ (oi h2).symm
 simp only at h1
 obtain rfl:=hret1 _ (oi h1).symm
 simp only at h0
 obtain rfl:=oi h0
 refine Zac rfl ?_
 try simp only[F12.rs,c3,c4,c5,c7,Zaa yx8,buyx8,guyx8,c10,bq11,gq11,bq12,gq12,c15,c16,c18,c20,Zaa yx21,buyx21,guyx21,bq22,gq22,Zaa yx23,buyx23,guyx23,Zaa yx24,buyx24,guyx24,Zaa yx25,buyx25,guyx25,c26,bq27,gq27,Zaa yx28,buyx28,guyx28,c29,go_sem]
 try simp only[c29,c3,c4,c5,c7,Zaa yx8,buyx8,guyx8,c10,bq11,gq11,bq12,gq12,c15,c16,c18,c20,Zaa yx21,buyx21,guyx21,bq22,gq22,Zaa yx23,buyx23,guyx23,Zaa yx24,buyx24,guyx24,Zaa yx25,buyx25,guyx25,c26,bq27,gq27,Zaa yx28,buyx28,guyx28,go_sem]
 refine Zaf (hnext3 _ _ (oi h3).symm ?_)
 refine ZaE.go [1,6,9,12,14,16,17] [0,1,2] rfl ?_
 try simp only[Zah.h2,c3,c4,c5,c7,Zaa yx8,buyx8,guyx8,c10,bq11,gq11,bq12,gq12,c15,c16,c18,c20,Zaa yx21,buyx21,guyx21,bq22,gq22,Zaa yx23,buyx23,guyx23,Zaa yx24,buyx24,guyx24,Zaa yx25,buyx25,guyx25,c26,bq27,gq27,Zaa yx28,buyx28,guyx28,c29,go_sem]
 have c26:=ZaA c26
 try simp only[c26,c3,c4,c5,c7,Zaa yx8,buyx8,guyx8,c10,bq11,gq11,bq12,gq12,c15,c16,c18,c20,Zaa yx21,buyx21,guyx21,bq22,gq22,Zaa yx23,buyx23,guyx23,Zaa yx24,buyx24,guyx24,Zaa yx25,buyx25,guyx25,go_sem]
 refine Za4 ⟨Za3 (by simp only[ZcE,List.reverse_cons,List.reverse_nil,List.nil_append,List.cons_append,List.map_cons,List.map_nil,List.append_nil];rfl) (by first|decide +kernel|rfl),Zae Za9 1000 _ _ ?_⟩
 try simp only[c3,c4,c5,c7,Zaa yx8,buyx8,guyx8,c10,bq11,gq11,bq12,gq12,c15,c16,c18,c20,Zaa yx21,buyx21,guyx21,bq22,gq22,Zaa yx23,buyx23,guyx23,Zaa yx24,buyx24,guyx24,Zaa yx25,buyx25,guyx25,c26,go_sem]
 obtain rfl:=hret3 _ (oi h3).symm
 simp only at h2
 obtain rfl:=hret2 _ (oi h2).symm
 simp only at h1
 obtain rfl:=hret1 _ (oi h1).symm
 simp only at h0
 obtain rfl:=oi h0
 refine Zac rfl ?_
 try simp only[F12.rs,c3,c4,c5,c7,Zaa yx8,buyx8,guyx8,c10,bq11,gq11,bq12,gq12,c15,c16,c18,c20,Zaa yx21,buyx21,guyx21,bq22,gq22,Zaa yx23,buyx23,guyx23,Zaa yx24,buyx24,guyx24,Zaa yx25,buyx25,guyx25,c26,go_sem]
 try simp only[c20,c3,c4,c5,c7,Zaa yx8,buyx8,guyx8,c10,bq11,gq11,bq12,gq12,c15,c16,c18,go_sem]
 refine Zaf (hbrk3 _ _ (oi h3).symm ?_)
 refine ZaE.go [1,6,9,12,14,16] [0,1,2] rfl ?_
 try simp only[Zah.x2,c3,c4,c5,c7,Zaa yx8,buyx8,guyx8,c10,bq11,gq11,bq12,gq12,c15,c16,c18,c20,go_sem]
 rintro _ hr_
 subst hr_
 simp only at h2
 refine rS ?_
 try simp only[Zah.x2,c3,c4,c5,c7,Zaa yx8,buyx8,guyx8,c10,bq11,gq11,bq12,gq12,c15,c16,c18,go_sem]
 refine Zaf (hnext2 _ _ (oi h2).symm ?_)
 refine ZaE.go [1,6,9,12,14,16] [0,1,2] rfl ?_
 try simp only[Zah.h1,c3,c4,c5,c7,Zaa yx8,buyx8,guyx8,c10,bq11,gq11,bq12,gq12,c15,c16,c18,go_sem]
 try simp only[c18,c3,c4,c5,c7,Zaa yx8,buyx8,guyx8,c10,bq11,gq11,bq12,gq12,c15,c16,go_sem]
 refine Zaf (hbrk2 _ _ (oi h2).symm ?_)
 refine ZaE.go [1,6,9] [0] rfl ?_
 try simp only[Zah.x1,c3,c4,c5,c7,Zaa yx8,buyx8,guyx8,c10,bq11,gq11,bq12,gq12,c15,c16,c18,go_sem]
 rintro _ hr_
 subst hr_
 simp only at h1
 refine rS ?_
 try simp only[Zah.x1,c3,c4,c5,c7,Zaa yx8,buyx8,guyx8,c10,bq11,gq11,bq12,gq12,c15,c16,go_sem]
 refine Zaf (hnext1 _ _ (oi h1).symm ?_)
 refine ZaE.go [1,6,9] [0] rfl ?_
 try simp only[Zah.h0,c3,c4,c5,c7,Zaa yx8,buyx8,guyx8,c10,bq11,gq11,bq12,gq12,c15,c16,go_sem]
 try simp only[c15,c3,c4,c5,c7,Zaa yx8,buyx8,guyx8,c10,bq11,gq11,bq12,gq12,go_sem]
 obtain rfl:=hret1 _ (oi h1).symm
 simp only at h0
 obtain rfl:=oi h0
 refine Zac rfl ?_
 try simp only[F12.rs,c3,c4,c5,c7,Zaa yx8,buyx8,guyx8,c10,bq11,gq11,bq12,gq12,c15,go_sem]
 try simp only[c7,c3,c4,c5,go_sem]
 refine Zaf (hbrk1 _ _ (oi h1).symm ?_)
 refine ZaE.go [] [] rfl ?_
 try simp only[Zah.x0,c3,c4,c5,c7,go_sem]
 rintro _ hr_
 subst hr_
 simp only at h0
 refine rS ?_
 try simp only[Zah.x0,c3,c4,c5,go_sem]
 obtain rfl:=oi h0
 refine Zac rfl ?_
 try simp only[F12.rs,c3,c4,c5,go_sem]
 try simp only[c4,c3,go_sem]
 obtain rfl:=oi h0
 refine Zac rfl ?_
 try simp only[F12.rs,c3,c4,go_sem]
 try simp only[c3,go_sem]
 obtain rfl:=oi h0
 refine Zac rfl ?_
 try simp only[F12.rs,c3,go_sem]
end Go.Abs
namespace Go.Abs
open Go Go.Proofs Go.RowKit
set_option maxRecDepth 20000
def qB:Nat:=reachBytes
theorem Zux:qB≤140737488351232:=by decide
theorem ZeM:Zdx qB Try.prog 3 eI Zii:=Zdx.int Try.underlying3
theorem Zrq:Zdx qB Try.prog 79 (Vec.c (n:=5) eI) (fun x:(Vec 5 Int)=>∀ a∈x.l,Zii a):=(Zdx.array Try.underlying79 (by kernel_rfl) (ZcF.cons (off:=0) (sz:=1) (off':=1) (tot:=5) rfl (by kernel_rfl) rfl ZeM (ZcF.cons (off:=1) (sz:=1) (off':=2) (tot:=5) rfl (by kernel_rfl) rfl ZeM (ZcF.cons (off:=2) (sz:=1) (off':=3) (tot:=5) rfl (by kernel_rfl) rfl ZeM (ZcF.cons (off:=3) (sz:=1) (off':=4) (tot:=5) rfl (by kernel_rfl) rfl ZeM (ZcF.cons (off:=4) (sz:=1) (off':=5) (tot:=5) rfl (by kernel_rfl) rfl ZeM (ZcF.nil (off:=5) (tot:=5) (by decide)))))))).as (fun p=>⟨[p.1,p.2.1,p.2.2.1,p.2.2.2.1,p.2.2.2.2.1],rfl⟩) (fun _=>rfl) (fun _ h=>by intro a ha;simp only[List.mem_cons,List.not_mem_nil,or_false]at ha;rcases ha with rfl|rfl|rfl|rfl|rfl;exact h.1;exact h.2.1;exact h.2.2.1;exact h.2.2.2.1;exact h.2.2.2.2.1)
theorem ZmG:Zdx qB Try.prog 63 (eL 1 eI) (fun l=>l.length≤Go.maxLen∧l.length*8≤qB∧∀ a∈l,Zii a):=Zdx.slice Try.underlying63 (by kernel_rfl) (by kernel_rfl) (by decide) ZeM
def R09_Act.q (x:R09_Act):Prop:=Zii x.Kind∧Zii x.House∧Zii x.To∧(fun x:(Vec 5 Int)=>∀ a∈x.l,Zii a) x.Record∧(fun l=>l.length≤Go.maxLen∧l.length*8≤qB∧∀ a∈l,Zii a) x.Picks
theorem Zpf:Zdx qB Try.prog 179 R09_Act.c R09_Act.q:=(Zdx.struct Try.underlying179 (by kernel_rfl) (ZcF.cons (off:=0) (sz:=1) (off':=1) (tot:=9) rfl (by kernel_rfl) rfl ZeM (ZcF.cons (off:=1) (sz:=1) (off':=2) (tot:=9) rfl (by kernel_rfl) rfl ZeM (ZcF.cons (off:=2) (sz:=1) (off':=3) (tot:=9) rfl (by kernel_rfl) rfl ZeM (ZcF.cons (off:=3) (sz:=5) (off':=8) (tot:=9) rfl (by kernel_rfl) rfl Zrq (ZcF.cons (off:=8) (sz:=1) (off':=9) (tot:=9) rfl (by kernel_rfl) rfl ZmG (ZcF.nil (off:=9) (tot:=9) (by decide)))))))).as (fun p=>⟨p.1,p.2.1,p.2.2.1,p.2.2.2.1,p.2.2.2.2.1⟩) (fun _=>rfl) (fun _ h=>⟨h.1,h.2.1,h.2.2.1,h.2.2.2.1,h.2.2.2.2.1⟩)
theorem Zpc:Zdx qB Try.prog 104 (eL 9 R09_Act.c) (fun l=>l.length≤Go.maxLen∧l.length*88≤qB∧∀ a∈l,R09_Act.q a):=Zdx.slice Try.underlying104 (by kernel_rfl) (by kernel_rfl) (by decide) Zpf
end Go.Abs
namespace Go.Abs
open Go
set_option linter.unusedVariables false
theorem ZiE {i d:Nat}:(List.range' i (d+1))=i::List.range' (i+1) d:=by
 rw[List.range'_succ]
theorem Zl2 {R:Type}{body:Int→Option (Stp Int Unit R)}{n:Nat}{f:Nat→Option R} (hn:n≤9223372036854775807) {k:Nat} (hk:n<k)
  (h1:∀ i,i<n→body (i:Int)=some (match f i with|some r=>.ret r|none=>.next (w64 ((i:Int)+1)))) (h2:body (n:Int)=some (.brk ())):
  whl body k 0=some (match (List.range n).findSome? f with|some r=>.ret r|none=>.brk ()):=by
 have h:=ZsV (body:=body) (n:=n) (g:=f) hn h1 h2 k n 0 (by omega) hk
 rw[Int.natCast_zero]at h
 rw[h]
 have key:∀ d i,ZtE f i d=(List.range' i d).findSome? f:=by
  intro d
  induction d with
  |zero=>intro i;rfl
  |succ d ih=>
   intro i
   rw[ZiE,List.findSome?_cons,ZtE,ih]
   cases f i<;>rfl
 rw[key,List.range_eq_range']
 cases (List.range' 0 n).findSome? f<;>rfl
theorem Zki {R:Type}{body:Int→Option (Stp Int Unit R)}{n:Nat}{p:Nat→Bool}{c:R} (hn:n≤9223372036854775807) {k:Nat} (hk:n<k)
  (h1:∀ i,i<n→body (i:Int)=some (bif p i then .next (w64 ((i:Int)+1)) else .ret c)) (h2:body (n:Int)=some (.brk ())):
  whl body k 0=some (bif (List.range n).all p then .brk () else .ret c):=by
 have h:=Zl2 (body:=body) (n:=n) (f:=fun i=>bif p i then none else some c) hn hk (fun i hi=>by rw[h1 i hi];cases p i<;>rfl) h2
 rw[h]
 have:∀ l:List Nat,l.findSome? (fun i=>bif p i then none else some c)=bif l.all p then none else some c:=by
  intro l
  induction l with
  |nil=>rfl
  |cons x l ih=>
   rw[List.findSome?_cons,List.all_cons]
   cases hp:p x with
   |true=>simpa using ih
   |false=>simp
 rw[this]
 cases (List.range n).all p<;>rfl
theorem Zkh {α R:Type}{l:List α}{body:Int→Option (Stp Int Unit R)}{p:α→Bool}{c:R} (hn:l.length≤9223372036854775807) {k:Nat} (hk:l.length<k)
  (h1:∀ (i:Nat) x,l[i]?=some x→body (i:Int)=some (bif p x then .next (w64 ((i:Int)+1)) else .ret c)) (h2:body (l.length:Int)=some (.brk ())):
  whl body k 0=some (bif l.all p then .brk () else .ret c):=by
 have h:=ZqD (body:=body) (l:=l) (f:=fun i=>bif p i then none else some c) hn hk (fun i x hi=>by rw[h1 i x hi];cases p x<;>rfl) h2
 rw[h]
 have:l.findSome? (fun i=>bif p i then none else some c)=bif l.all p then none else some c:=by
  clear h h1 h2 hn hk
  induction l with
  |nil=>rfl
  |cons x l ih=>
   rw[List.findSome?_cons,List.all_cons]
   cases hp:p x with
   |true=>simpa using ih
   |false=>simp
 rw[this]
 cases l.all p<;>rfl
theorem Zl3 {S R τ:Type}{n:Nat}{body:τ→Option (Stp τ S R)} (mk:Int→S→τ) (f:S→Nat→S) (Inv:Nat→S→Prop) (hn:n≤9223372036854775807) {k:Nat} (hk:n<k) {s0:S} (h0:Inv 0 s0)
  (h1:∀ i s,i<n→Inv i s→body (mk (i:Int) s)=some (.next (mk (w64 ((i:Int)+1)) (f s i)))∧Inv (i+1) (f s i)) (h2:∀ s,Inv n s→body (mk (n:Int) s)=some (.brk s)):
  whl body k (mk 0 s0)=some (.brk ((List.range n).foldl f s0))∧Inv n ((List.range n).foldl f s0):=by
 have h:=Zg7 (l:=List.range n) (body:=body) mk f Inv (by simpa using hn) (k:=k) (by simpa using hk) h0 (fun i x s hx hI=>by
  have hi:i<n:=by have:=(gS.1 hx).1;simpa using this
  have e:x=i:=by have:=hx;rw[List.getElem?_range hi]at this;exact(oi this).symm
  subst e
  exact h1 x s hi hI) (fun s hI=>by have:=h2 s (by simpa using hI);simpa using this)
 exact⟨h.1,by simpa using h.2⟩
theorem Zi0 {α:Type} (g:Nat→α):∀ (l:List Nat) (s:List α),l.foldl (fun s i=>s++[g i]) s=s++l.map g
 |[],s=>by simp
 |x::l,s=>by simp[Zi0 g l]
end Go.Abs
namespace Go.Abs
open Go
set_option linter.unusedVariables false
theorem ZpA {S E R τ:Type}{n:Nat}{body:τ→Option (Stp τ E R)} (mk:Int→S→τ) (g:S→E) (f:S→Nat→Option S) (c:R) (Inv:Nat→S→Prop) (hn:n≤9223372036854775807) {k:Nat} (hk:n<k) {s0:S} (h0:Inv 0 s0)
  (h1:∀ i s,i<n→Inv i s→body (mk (i:Int) s)=some (match f s i with|some s'=>.next (mk (w64 ((i:Int)+1)) s')|none=>.ret c)∧∀ s',f s i=some s'→Inv (i+1) s') (h2:∀ s,Inv n s→body (mk (n:Int) s)=some (.brk (g s))):
  whl body k (mk 0 s0)=some (match (List.range n).foldlM f s0 with|some s=>.brk (g s)|none=>.ret c)∧∀ s,(List.range n).foldlM f s0=some s→Inv n s:=by
 have key:∀ (d i k:Nat) (s:S),i+d=n→d<k→Inv i s→whl body k (mk (i:Int) s)=some (match (List.range' i d).foldlM f s with|some s=>.brk (g s)|none=>.ret c)∧∀ s',(List.range' i d).foldlM f s=some s'→Inv n s':=by
  intro d
  induction d with
  |zero=>
   intro i k s hi hk hI
   cases k with
   |zero=>omega
   |succ k=>
    have:i=n:=by omega
    subst this
    refine⟨?_,fun s' hs=>?_⟩
    ·rw[whl,h2 s hI];rfl
    ·have:s=s':=oi hs
     exact this▸hI
  |succ d ih=>
   intro i k s hi hk hI
   cases k with
   |zero=>omega
   |succ k=>
    obtain⟨g1,g2⟩:=h1 i s (by omega) hI
    rw[List.range'_succ,List.foldlM_cons,whl,g1]
    cases hf:f s i with
    |none=>exact⟨rfl,fun s' hs=>by cases hs⟩
    |some s1=>
     have:w64 ((i:Int)+1)=((i+1:Nat):Int):=by rw[ZaD (by omega) (by omega)];omega
     simp only[this]
     exact ih (i+1) k s1 (by omega) (by omega) (g2 s1 hf)
 have:=key n 0 k s0 (by omega) hk h0
 rw[List.range_eq_range']
 exact this
end Go.Abs
namespace Go.Abs
open Go
end Go.Abs
namespace Go.Abs
open Go Go.Proofs
set_option maxRecDepth 20000
set_option linter.unusedVariables false
set_option linter.unusedSimpArgs false
def be (n:Int):Nat→List Int
 |0=>[]
 |w+1=>IntKind.u8.wrap (Int.fdiv n (2 ^ (8*w)))::be n w
theorem ZeQ (n:Int):∀ w,(be n w).length=w
 |0=>rfl
 |w+1=>by simp[be,ZeQ n w]
theorem Zos {body:Int×List Int→Option (Stp (Int×List Int) (List Int) (List Int))}{n:Int}
  (hb:∀ i l,body (i,l)=bif decide ((0:Int)≤i) then (sh? (w64 (8*i))).bind fun _=>(ZeY 1 l (IntKind.u8.wrap (Int.fdiv n (2 ^ (min (Int.toNat (w64 (8*i))) 64))))).bind fun l'=>some (.next (w64 (i - 1),l')) else some (.brk l)):
  ∀ (w m:Nat) (l:List Int),w≤8→l.length+w≤1000000→w<m→whl body m (w64 ((w:Int) - 1),l)=some (.brk (l++be n w)):=by
 intro w
 induction w with
 |zero=>
  intro m l _ _ hm
  obtain⟨m,rfl⟩:∃ m',m=m'+1:=⟨m - 1,by omega⟩
  have e:w64 (((0:Nat):Int) - 1)=-1:=by rw[ZaD]<;>simp
  simp only[whl,hb,e,be,List.append_nil,(by decide:decide ((0:Int)≤-1)=false),cond_false]
 |succ w ih=>
  intro m l hw hl hm
  obtain⟨m,rfl⟩:∃ m',m=m'+1:=⟨m - 1,by omega⟩
  have e:w64 (((w+1:Nat):Int) - 1)=w:=by rw[ZaD]<;>omega
  have e8:w64 (8*(w:Int))=8*(w:Int):=by rw[ZaD]<;>omega
  have et:min (Int.toNat (8*(w:Int))) 64=8*w:=by omega
  have hsh:sh? (8*(w:Int))=some ():=by unfold sh?;rw[if_neg (by omega)]
  have hp:ZeY 1 l (IntKind.u8.wrap (Int.fdiv n (2 ^ (8*w))))=some (l++[IntKind.u8.wrap (Int.fdiv n (2 ^ (8*w)))]):=Zi9 (by omega) (by omega)
  have hd:decide ((0:Int)≤(w:Int))=true:=by simp
  simp only[whl,hb,e,e8,et,hsh,hd,cond_true,Option.bind_some,hp]
  rw[ih m _ (by omega) (by simp;omega) (by omega)]
  simp[be]
theorem Zkt {α:Type}{b:Nat}{l x:List α} (h:(l.length+x.length)*b≤140737488355328) (h2:l.length+x.length<4611686018427387904):Zjd b l x=some (l++x):=by
 unfold Zjd;rw[if_pos ⟨h,h2⟩]
def enc (r:Record):List Int:=be r.At.House 1++be r.At.No 2++be r.Kind 1++be r.Day 4++be r.Known 4++be r.Of.House 1++be r.Of.No 2++be (r.Text.size:Int) 1++ZfS r.Text
theorem ZjK (r:Record):(enc r).length=16+r.Text.size:=by
 simp only[enc,List.length_append,ZeQ,Zcv]<;>omega
theorem ZjE {k:Nat} (n:Int) {w:Nat} (l:List Int) (wd:Int) (hwd:wd=w) (hw:w≤8) (hl:l.length+w≤1000000) (hk:w<k):whl (Zav.b1 k (⟨[n,wd],rfl⟩:Vec 2 Int)) k (w64 (wd - 1),l)=some (.brk (l++be n w)):=by
 subst hwd
 exact Zos (n:=n) (fun i l=>by
  unfold Zav.b1
  have h:(⟨[n,(w:Int)],rfl⟩:Vec 2 Int).at? 0=some n:=rfl
  simp only[h,Option.bind_some]) w k l hw hl hk
theorem ZlF {k:Nat} (hk:20<k) {r:Record} (ht:r.Text.size≤1000):Zav k r=some (enc r):=by
 unfold Zav
 have one:∀ (n:Int) (l:List Int),l.length≤1000→whl (Zav.b1 k (⟨[n,1],rfl⟩:Vec 2 Int)) k (w64 (1 - 1),l)=some (.brk (l++be n 1)):=fun n l hl=>ZjE n (w:=1) l 1 rfl (by decide) (by omega) (by omega)
 have two:∀ (n:Int) (l:List Int),l.length≤1000→whl (Zav.b1 k (⟨[n,2],rfl⟩:Vec 2 Int)) k (w64 (2 - 1),l)=some (.brk (l++be n 2)):=fun n l hl=>ZjE n (w:=2) l 2 rfl (by decide) (by omega) (by omega)
 have four:∀ (n:Int) (l:List Int),l.length≤1000→whl (Zav.b1 k (⟨[n,4],rfl⟩:Vec 2 Int)) k (w64 (4 - 1),l)=some (.brk (l++be n 4)):=fun n l hl=>ZjE n (w:=4) l 4 rfl (by decide) (by omega) (by omega)
 have st:∀ (i:Int) (l:List Int) (n wd:Int) (l':List Int),i<8→at? [(⟨[r.At.House,1],rfl⟩:(Vec 2 Int)),(⟨[r.At.No,2],rfl⟩:(Vec 2 Int)),(⟨[r.Kind,1],rfl⟩:(Vec 2 Int)),(⟨[r.Day,4],rfl⟩:(Vec 2 Int)),(⟨[r.Known,4],rfl⟩:(Vec 2 Int)),(⟨[r.Of.House,1],rfl⟩:(Vec 2 Int)),(⟨[r.Of.No,2],rfl⟩:(Vec 2 Int)),(⟨[(r.Text.size:Int),1],rfl⟩:(Vec 2 Int))] i=some (⟨[n,wd],rfl⟩:Vec 2 Int)→
   whl (Zav.b1 k (⟨[n,wd],rfl⟩:Vec 2 Int)) k (w64 (wd - 1),l)=some (.brk l')→Zav.b0 k r (i,l)=some (.next (w64 (i+1),l')):=by
  intro i l n wd l' hi ha hw
  unfold Zav.b0
  have h1:(⟨[n,wd],rfl⟩:Vec 2 Int).at? 1=some wd:=rfl
  simp only[decide_eq_true hi,cond_true,ha,Option.bind_some,h1,hw]
 obtain⟨m,rfl⟩:∃ m,k=m+9:=⟨k - 9,by omega⟩
 have nx:∀ (q:Nat) (i:Int) (l l':List Int),Zav.b0 (m+9) r (i,l)=some (.next (w64 (i+1),l'))→whl (Zav.b0 (m+9) r) (q+1) (i,l)=whl (Zav.b0 (m+9) r) q (w64 (i+1),l'):=by
  intro q i l l' h
  simp only[whl,h]
 rw[nx (m+8) 0 _ _ (st 0 _ _ _ _ (by decide) rfl (one _ _ (by simp))),(by decide:w64 (0+1)=1),
  nx (m+7) 1 _ _ (st 1 _ _ _ _ (by decide) rfl (two _ _ (by (simp only[List.length_append,ZeQ,List.length_nil])<;>omega))),(by decide:w64 (1+1)=2),
  nx (m+6) 2 _ _ (st 2 _ _ _ _ (by decide) rfl (one _ _ (by (simp only[List.length_append,ZeQ,List.length_nil])<;>omega))),(by decide:w64 (2+1)=3),
  nx (m+5) 3 _ _ (st 3 _ _ _ _ (by decide) rfl (four _ _ (by (simp only[List.length_append,ZeQ,List.length_nil])<;>omega))),(by decide:w64 (3+1)=4),
  nx (m+4) 4 _ _ (st 4 _ _ _ _ (by decide) rfl (four _ _ (by (simp only[List.length_append,ZeQ,List.length_nil])<;>omega))),(by decide:w64 (4+1)=5),
  nx (m+3) 5 _ _ (st 5 _ _ _ _ (by decide) rfl (one _ _ (by (simp only[List.length_append,ZeQ,List.length_nil])<;>omega))),(by decide:w64 (5+1)=6),
  nx (m+2) 6 _ _ (st 6 _ _ _ _ (by decide) rfl (two _ _ (by (simp only[List.length_append,ZeQ,List.length_nil])<;>omega))),(by decide:w64 (6+1)=7),
  nx (m+1) 7 _ _ (st 7 _ _ _ _ (by decide) rfl (one _ _ (by (simp only[List.length_append,ZeQ,List.length_nil])<;>omega))),(by decide:w64 (7+1)=8)]
 have hend:∀ l,whl (Zav.b0 (m+9) r) (m+1) (8,l)=some (.brk l):=fun l=>by
  have:Zav.b0 (m+9) r (8,l)=some (.brk l):=by
   unfold Zav.b0
   simp only[(by decide:decide ((8:Int)<8)=false),cond_false]
  simp only[whl,this]
 rw[hend]
 simp only[Option.bind_some]
 rw[Zkt (by (simp only[List.length_append,ZeQ,Zcv,List.length_nil])<;>omega) (by (simp only[List.length_append,ZeQ,Zcv,List.length_nil])<;>omega)]
 simp only[Option.bind_some,List.nil_append,enc]
end Go.Abs
namespace Go.Abs
open Go Go.Proofs
set_option maxRecDepth 20000
set_option linter.unusedVariables false
set_option linter.unusedSimpArgs false
def within (n lo hi:Int):Bool:=decide (lo≤n)&&decide (n≤hi)
theorem ZbV (k:Nat) (n lo hi:Int):Za8 k n lo hi=some (within n lo hi):=by
 unfold Za8 within
 cases decide (lo≤n)<;>rfl
def Zg9 (p:Entry):Bool:=within p.House 0 5&&within p.No 0 9999
theorem ZjO (k:Nat) (p:Entry):Zc7 k p=some (Zg9 p):=by
 unfold Zc7 Zg9
 simp only[ZbV,Option.bind_some]
 cases within p.House 0 5<;>rfl
def Zqt (x:Int):Bool:=!decide (x<32)&&!decide (126<x)
def Zms (s:ByteArray):Bool:=!decide ((200:Int)<(s.size:Int))&&(ZfS s).all Zqt
theorem ZuA {s:ByteArray}{i:Nat}{x:Int} (h:(ZfS s)[i]?=some x):Zss s (i:Int)=some x:=by
 have hi:i<s.size:=by have:=(gS.1 h).1;rwa [Zcv]at this
 unfold Zss
 rw[if_pos (by omega)]
 unfold ZfS at h
 rw[List.getElem?_map,mS]at h
 obtain⟨c,h1,rfl⟩:=h
 simp[List.getD,h1]
theorem Zlk {k:Nat} (hk:1000<k) (s:ByteArray):ZaG k s=some (Zms s):=by
 unfold ZaG Zms
 by_cases h:(200:Int)<(s.size:Int)
 ·simp[h]
 ·have hl:(ZfS s).length≤200:=by rw[Zcv];omega
  have:=Zkh (l:=ZfS s) (body:=ZaG.b0 k s) (p:=Zqt) (c:=false) (by omega) (k:=k) (by omega) (fun i x hx=>by
   have hi:i<s.size:=by have:=(gS.1 hx).1;rwa [Zcv]at this
   unfold ZaG.b0 Zqt
   simp only[decide_eq_true (show ((i:Int)<(s.size:Int)) by omega),cond_true,ZuA hx,Option.bind_some]
   cases decide (x<32)<;>cases decide (126<x)<;>rfl) (by
   unfold ZaG.b0
   simp only[Zcv,(by simp:decide ((s.size:Int)<(s.size:Int))=false),cond_false])
  simp only[decide_eq_false h,cond_false,Bool.not_false,Bool.true_and]
  rw[this]
  cases (ZfS s).all Zqt<;>rfl
def Zfw (r:Record):Bool:=
 Zg9 r.At&&(within r.Kind 0 40&&(within r.Day 0 100000&&(within r.Known 0 100000&&(Zms r.Text&&
  (bif !decide (r.Kind=(0:Int)) then decide (r.Of.House=(0:Int))&&decide (r.Of.No=(0:Int))
   else decide (r.Day=(0:Int))&&((r.Text.toList==ByteArray.empty.toList)&&(Zg9 r.Of&&(decide (r.Of.House=r.At.House)&&decide (r.Of.No<r.At.No)))))))))
theorem Zdi {k:Nat} (hk:1000<k) (r:Record):Zbf k r=some (Zfw r):=by
 unfold Zbf Zfw
 simp only[ZjO,ZbV,Zlk hk,Option.bind_some]
 cases Zg9 r.At<;>simp only[cond_true,cond_false,Bool.true_and,Bool.false_and]
 cases within r.Kind 0 40<;>simp only[cond_true,cond_false,Bool.true_and,Bool.false_and]
 cases within r.Day 0 100000<;>simp only[cond_true,cond_false,Bool.true_and,Bool.false_and]
 cases within r.Known 0 100000<;>simp only[cond_true,cond_false,Bool.true_and,Bool.false_and]
 cases Zms r.Text<;>simp only[cond_true,cond_false,Bool.true_and,Bool.false_and,Bool.not_true,Bool.not_false]
 cases decide (r.Kind=(0:Int))<;>simp only[cond_true,cond_false,Bool.true_and,Bool.false_and,Bool.not_true,Bool.not_false]
 cases decide (r.Day=(0:Int))<;>simp only[cond_true,cond_false,Bool.true_and,Bool.false_and]
 cases (r.Text.toList==ByteArray.empty.toList)<;>simp only[cond_true,cond_false,Bool.true_and,Bool.false_and]
 cases Zg9 r.Of<;>simp only[cond_true,cond_false,Bool.true_and,Bool.false_and]
 cases decide (r.Of.House=r.At.House)<;>simp only[cond_true,cond_false,Bool.true_and,Bool.false_and]
theorem ZgZ {r:Record} (h:Zfw r=true):r.Text.size≤200:=by
 unfold Zfw Zms at h
 simp only[Bool.and_eq_true,Bool.not_eq_true',decide_eq_false_iff_not]at h
 omega
end Go.Abs
namespace Go.Abs
open Go Go.Proofs
set_option maxRecDepth 20000
set_option linter.unusedVariables false
set_option linter.unusedSimpArgs false
theorem ZlC (k:Nat) (f e n:Int):Zeo k f e n=some ⟨[f,IntKind.u8.wrap (Int.fdiv e (2 ^ 16)),IntKind.u8.wrap (Int.fdiv e (2 ^ 8)),IntKind.u8.wrap e,IntKind.u8.wrap (Int.fdiv n (2 ^ 8)),IntKind.u8.wrap n,
  0,0,0,0,0,0,0,0,0,0,0,0,0,0,0,0,0,0,0,0,0,0,0,0,0,165],rfl⟩:=by rfl
theorem Zd2 (e:Int):be e 3=[IntKind.u8.wrap (Int.fdiv e (2 ^ 16)),IntKind.u8.wrap (Int.fdiv e (2 ^ 8)),IntKind.u8.wrap e]:=by
 simp[be]
theorem Zk4 (e:Int):be e 2=[IntKind.u8.wrap (Int.fdiv e (2 ^ 8)),IntKind.u8.wrap e]:=by
 simp[be]
def ZgE (e n:Int) (cnt:Int) (code:List Int) (i:Nat):List Int:=
 [112]++be e 3++be n 2++[IntKind.u8.wrap (i:Int),IntKind.u8.wrap cnt]++((code.drop (23*i)).take 23++List.replicate (23 - min (code.drop (23*i)).length 23) 0)++[165]
theorem ZqV (e n cnt:Int) (code:List Int) (i:Nat):(ZgE e n cnt code i).length=32:=by
 simp only[ZgE,List.length_append,ZeQ,List.length_cons,List.length_nil,List.length_take,List.length_replicate]
 omega
def Zdk (e n:Int) (cnt:Int) (code:List Int) (i:Nat):Vec 32 Int:=⟨ZgE e n cnt code i,ZqV e n cnt code i⟩
def ZbC (len:Nat):Nat:=(len+22) / 23
theorem ZkD {len:Nat} (h:len≤1000):w64 (Int.tdiv (w64 ((w64 ((len:Int)+23)) - 1)) 23)=(ZbC len:Int):=by
 rw[ZaD (n:=(len:Int)+23) (by omega) (by omega),ZaD (n:=(len:Int)+23 - 1) (by omega) (by omega)]
 have e:((len:Int)+23 - 1)=((len+22:Nat):Int):=by omega
 rw[e]
 have:Int.tdiv ((len+22:Nat):Int) 23=(((len+22) / 23:Nat):Int):=by
  rw[show (23:Int)=((23:Nat):Int) from rfl,←Int.ofNat_tdiv]
 rw[this,ZaD (by omega) (by omega)]
 rfl
theorem Zr8 {len i:Nat} (h:i<ZbC len):23*i<len:=by unfold ZbC at h;omega
theorem Zrm {e n:Int}{cnt:Int}{code:List Int}{i:Nat}{l:List Int} (hl:l=(code.drop (23*i)).take 23):
  (((⟨[112,IntKind.u8.wrap (Int.fdiv e (2 ^ 16)),IntKind.u8.wrap (Int.fdiv e (2 ^ 8)),IntKind.u8.wrap e,IntKind.u8.wrap (Int.fdiv n (2 ^ 8)),IntKind.u8.wrap n,
   0,0,0,0,0,0,0,0,0,0,0,0,0,0,0,0,0,0,0,0,0,0,0,0,0,165],rfl⟩:Vec 32 Int).set 6 (IntKind.u8.wrap (i:Int))).set 7 (IntKind.u8.wrap cnt)).put 8 23 l=Zdk e n cnt code i:=by
 apply Vec.ext
 have hle:l.length≤23:=by rw[hl,List.length_take];omega
 have hmin:min l.length 23=l.length:=by omega
 have hlm:l.length=min (code.drop (23*i)).length 23:=by rw[hl,List.length_take];omega
 unfold Vec.put
 rw[dif_pos (by decide)]
 show List.take 8 _++(List.take 23 l++List.drop (8+min l.length 23) _)=ZgE e n cnt code i
 rw[hmin,List.take_of_length_le hle]
 have hd:∀ m,m≤23→List.drop (8+m) ((((⟨[112,IntKind.u8.wrap (Int.fdiv e (2 ^ 16)),IntKind.u8.wrap (Int.fdiv e (2 ^ 8)),IntKind.u8.wrap e,IntKind.u8.wrap (Int.fdiv n (2 ^ 8)),IntKind.u8.wrap n,
   0,0,0,0,0,0,0,0,0,0,0,0,0,0,0,0,0,0,0,0,0,0,0,0,0,165],rfl⟩:Vec 32 Int).set 6 (IntKind.u8.wrap (i:Int))).set 7 (IntKind.u8.wrap cnt)).l)=List.replicate (23 - m) 0++[165]:=by
  intro m hm
  rw[←List.drop_drop]
  show List.drop m (List.replicate 23 (0:Int)++[(165:Int)])=_
  rw[List.drop_append_of_le_length (by simp;exact hm),List.drop_replicate]
 rw[hd _ hle]
 show [112,IntKind.u8.wrap (Int.fdiv e (2 ^ 16)),IntKind.u8.wrap (Int.fdiv e (2 ^ 8)),IntKind.u8.wrap e,IntKind.u8.wrap (Int.fdiv n (2 ^ 8)),IntKind.u8.wrap n,IntKind.u8.wrap (i:Int),IntKind.u8.wrap cnt]++_=_
 unfold ZgE
 rw[Zd2,Zk4,←hlm,←hl]
 simp
theorem ZiB {k:Nat} (hk:100000<k) {r:Record} (ht:r.Text.size≤200) (n e:Int):
  ZaL k r n e=some ((List.range (ZbC (enc r).length)).map (Zdk e n (ZbC (enc r).length) (enc r))):=by
 have ZbW:=ZjK r
 have hc:ZbC (enc r).length≤10:=by unfold ZbC;omega
 unfold ZaL
 rw[ZlF (by omega) (by omega)]
 simp only[Option.bind_some]
 have h:=Zl3 (n:=ZbC (enc r).length) (body:=ZaL.b0 k n e (enc r)) (fun i s=>(i,s)) (fun s i=>s++[Zdk e n (ZbC (enc r).length) (enc r) i]) (fun i s=>s.length=i) (by omega) (k:=k) (by omega) (s0:=[]) rfl (fun i s hi hs=>by
  have hlt:=Zr8 hi
  refine⟨?_,by simp[hs]⟩
  unfold ZaL.b0
  have hw1:w64 ((i:Int)*23)=((23*i:Nat):Int):=by rw[ZaD]<;>omega
  have hw2:w64 ((w64 ((i:Int)+1))*23)=((23*(i+1):Nat):Int):=by
   rw[ZaD (n:=(i:Int)+1) (by omega) (by omega),ZaD]<;>omega
  have hsub:Zmt (enc r) ((23*i:Nat):Int) (min ((enc r).length:Int) ((23*(i+1):Nat):Int))=some (((enc r).drop (23*i)).take 23):=by
   unfold Zmt
   rw[if_pos (by omega)]
   congr 1
   have e1:(min ((enc r).length:Int) ((23*(i+1):Nat):Int)).toNat - (((23*i:Nat):Int)).toNat=min 23 ((enc r).drop (23*i)).length:=by
    rw[List.length_drop];omega
   rw[e1,Int.toNat_natCast]
   rw[←List.take_take,List.take_length]
  simp only[ZkD (show (enc r).length≤1000 by omega),decide_eq_true (show (i:Int)<(ZbC (enc r).length:Int) by omega),cond_true,ZlC,Option.bind_some,hw1,hw2,hsub]
  rw[Zrm rfl,Zi9 (by rw[hs];omega) (by rw[hs];omega)]
  rfl) (fun s hs=>by
  unfold ZaL.b0
  simp only[ZkD (show (enc r).length≤1000 by omega),(by simp:decide ((ZbC (enc r).length:Int)<(ZbC (enc r).length:Int))=false),cond_false])
 have h1:=h.1
 rw[h1]
 simp only[Option.bind_some]
 rw[Zi0]
 rfl
end Go.Abs
namespace Go.Abs
open Go Go.Proofs
set_option maxRecDepth 20000
set_option linter.unusedVariables false
set_option linter.unusedSimpArgs false
theorem Zr1 (v:Vec 32 Int):Vec.eq (fun(x y:Int)=>decide (x=y)) v v=true:=by
 unfold Vec.eq
 rw[List.all_eq_true]
 intro p hp
 obtain⟨i,hi⟩:=List.mem_iff_getElem?.1 hp
 rw[List.getElem?_zip_eq_some]at hi
 obtain⟨h1,h2⟩:=hi
 rw[h1]at h2
 simp only[oE]at h2
 simp[h2]
end Go.Abs
namespace Go.Abs
open Go Go.Proofs
set_option maxRecDepth 1000000
theorem Zpn:ZhV 18446744073709551616=some true:=by decide +kernel
end Go.Abs
namespace Go.Abs
open Go
set_option linter.unusedVariables false
def Byt (l:List Int):Prop:=∀ x∈l,0≤x∧x<256
theorem Byt.take {l:List Int} (h:Byt l) (n:Nat):Byt (l.take n):=fun x hx=>h x (List.mem_of_mem_take hx)
theorem Byt.drop {l:List Int} (h:Byt l) (n:Nat):Byt (l.drop n):=fun x hx=>h x (List.mem_of_mem_drop hx)
theorem Zmu (x:Int):IntKind.u8.wrap x=x % 256:=by
 simp only[IntKind.wrap,IntKind.bits,IntKind.signed]
 simp
theorem ZsW {n b:Int} (h0:0≤n) (h1:n<2 ^ 40) (h2:0≤b) (h3:b<256):bOr .i64 (w64 (n*2 ^ 8)) (w64 b)=n*256+b:=by
 have e8:((2:Int) ^ 8)=256:=by decide
 have e40:((2:Int) ^ 40)=1099511627776:=by decide
 rw[e40]at h1
 rw[e8,ZaD (n:=n*256) (by omega) (by omega),ZaD (n:=b) (by omega) (by omega)]
 obtain⟨m,rfl⟩:=Int.eq_ofNat_of_zero_le h0
 obtain⟨c,rfl⟩:=Int.eq_ofNat_of_zero_le h2
 unfold bOr
 have t1:(BitVec.ofInt IntKind.i64.bits ((m:Int)*256)).toNat=m*256:=by
  rw[BitVec.toNat_ofInt]
  have:((m:Int)*256) % ((2 ^ IntKind.i64.bits:Nat):Int)=(m:Int)*256:=by
   rw[show ((2 ^ IntKind.i64.bits:Nat):Int)=18446744073709551616 from rfl];omega
  rw[this];omega
 have t2:(BitVec.ofInt IntKind.i64.bits (c:Int)).toNat=c:=by
  rw[BitVec.toNat_ofInt]
  have:(c:Int) % ((2 ^ IntKind.i64.bits:Nat):Int)=(c:Int):=by
   rw[show ((2 ^ IntKind.i64.bits:Nat):Int)=18446744073709551616 from rfl];omega
  rw[this];omega
 rw[BitVec.toNat_or,t1,t2]
 have:m*256 ||| c=m*256+c:=by
  have:=Nat.shiftLeft_add_eq_or_of_lt (b:=c) (i:=8) (by omega) m
  rw[Nat.shiftLeft_eq]at this
  exact this.symm
 rw[this]
 exact ZaD (by omega) (by omega)
def rdA (n:Int) (l:List Int):Int:=l.foldl (fun n b=>n*256+b) n
def rdV (l:List Int):Int:=rdA 0 l
theorem Zlv:∀ {l:List Int}{n:Int}{w:Nat},Byt l→0≤n→n<256 ^ w→0≤rdA n l∧rdA n l<256 ^ (w+l.length)
 |[],n,w,_,h0,h1=>⟨h0,h1⟩
 |b::l,n,w,hb,h0,h1=>by
  have hb0:=hb b (by simp)
  have h2:n*256+b<256 ^ (w+1):=by
   rw[Int.pow_succ];omega
  have:=Zlv (l:=l) (n:=n*256+b) (w:=w+1) (fun x hx=>hb x (by simp[hx])) (by omega) h2
  rw[show w+(b::l).length=w+1+l.length by simp;omega]
  exact this
theorem Zj5 {l:List Int} (hb:Byt l):0≤rdV l∧rdV l<256 ^ l.length:=by
 have:=Zlv (l:=l) (n:=0) (w:=0) hb (by omega) (by decide)
 unfold rdV;simpa using this
theorem Ztv {R:Type}{l:List Int} (hb:Byt l) (hl:l.length≤5) {body:Int×Int→Option (Stp (Int×Int) Int R)}{k:Nat} (hk:10<k)
  (h1:∀ (i:Nat) x s,l[i]?=some x→body (s,(i:Int))=some (.next (bOr .i64 (w64 (s*2 ^ 8)) (w64 x),w64 ((i:Int)+1)))) (h2:∀ s,body (s,(l.length:Int))=some (.brk s)):
  whl body k (0,0)=some (.brk (rdV l)):=by
 have h:=Zg7 (l:=l) (body:=body) (fun i s=>(s,i)) (fun s x=>s*256+x) (fun i s=>0≤s∧s<256 ^ i) (by omega) (k:=k) (by omega) (s0:=0) (by simp) (fun i x s hx hs=>by
  have hi:=(gS.1 hx).1
  have hx1:=hb x (List.mem_of_getElem? hx)
  have hs2:s<2 ^ 40:=by
   have:(256:Int) ^ i≤256 ^ 5:=by
    have:i=0∨i=1∨i=2∨i=3∨i=4:=by omega
    rcases this with rfl|rfl|rfl|rfl|rfl<;>decide
   have e:(256:Int) ^ 5=2 ^ 40:=by decide
   omega
  refine⟨?_,by omega,by rw[Int.pow_succ];omega⟩
  rw[h1 i x s hx,ZsW hs.1 hs2 hx1.1 hx1.2]) (fun s hs=>h2 s)
 exact h.1
theorem Zmo (s:ByteArray):Zma (s.data.toList.map fun c=>(c.toNat:Int))=s:=by
 unfold Zma
 rw[List.map_map]
 have:((fun n:Int=>UInt8.ofNat n.toNat) ∘ fun c:UInt8=>(c.toNat:Int))=id:=by
  funext c;simp
 rw[this,List.map_id]
end Go.Abs
namespace Go.Abs
set_option linter.unusedVariables false
def eLt (a b:Int×Int):Prop:=a.1<b.1∨(a.1=b.1∧a.2<b.2)
instance (a b:Int×Int):Decidable (eLt a b):=inferInstanceAs (Decidable (_∨_))
theorem Zix {a b c:Int×Int} (h:eLt a b) (g:eLt b c):eLt a c:=by unfold eLt at *;omega
theorem ZlG (a:Int×Int):¬ eLt a a:=by unfold eLt;omega
theorem ZsJ (a b:Int×Int):eLt a b∨a=b∨eLt b a:=by
 obtain⟨a1,a2⟩:=a;obtain⟨b1,b2⟩:=b
 unfold eLt;simp only[Prod.mk.injEq];omega
section
variable {α:Type} (key:α→Int×Int)
def Srt (l:List α):Prop:=l.Pairwise fun x y=>eLt (key x) (key y)
def cnt (l:List α) (h:Int):Nat:=l.countP fun x=>decide ((key x).1=h)
theorem Zfb (h:Int):cnt key [] h=0:=rfl
theorem Zdb (l m:List α) (h:Int):cnt key (l++m) h=cnt key l h+cnt key m h:=by
 unfold cnt;exact List.countP_append
theorem Zca (x:α) (l:List α) (h:Int):cnt key (x::l) h=cnt key l h+if (key x).1=h then 1 else 0:=by
 unfold cnt;rw[List.countP_cons];simp only[decide_eq_true_eq]
theorem Zq1 {l:List α}{h:Int} (H:∀ x∈l,(key x).1≠h):cnt key l h=0:=by
 unfold cnt;rw[List.countP_eq_zero];intro x hx;simp[H x hx]
def VL:(Int→Int)→List α→Prop
 |_,[]=>True
 |c,x::l=>(key x).2=c (key x).1∧VL (fun h=>if h=(key x).1 then c h+1 else c h) l
theorem ZfF:∀ {l:List α}{c d:Int→Int} (H:∀ x∈l,c (key x).1=d (key x).1),VL key c l→VL key d l
 |[],_,_,_,_=>trivial
 |x::l,c,d,H,h=>by
  refine⟨by rw[←H x (by simp)];exact h.1,ZfF (l:=l) (fun y hy=>?_) h.2⟩
  have:=H y (by simp[hy])
  by_cases e:(key y).1=(key x).1
  ·simp only[e,if_true];rw[H x (by simp)]
  ·simp only[if_neg e];exact this
theorem Zfa:∀ {l m:List α}{c:Int→Int},VL key c (l++m)↔VL key c l∧VL key (fun h=>c h+cnt key l h) m
 |[],m,c=>by
  simp only[List.nil_append,Zfb,VL,true_and]
  constructor<;>exact ZfF key (fun x _=>by simp)
 |x::l,m,c=>by
  simp only[List.cons_append,VL]
  rw[Zfa (l:=l)]
  constructor
  ·rintro⟨h1,h2,h3⟩
   refine⟨⟨h1,h2⟩,ZfF key (fun y _=>?_) h3⟩
   rw[Zca]
   by_cases e:(key y).1=(key x).1
   ·simp only[e,if_true];omega
   ·simp only[if_neg e,if_neg (Ne.symm e)];omega
  ·rintro⟨⟨h1,h2⟩,h3⟩
   refine⟨h1,h2,ZfF key (fun y _=>?_) h3⟩
   rw[Zca]
   by_cases e:(key y).1=(key x).1
   ·simp only[e,if_true];omega
   ·simp only[if_neg e,if_neg (Ne.symm e)];omega
def Val (l:List α):Prop:=Srt key l∧VL key (fun _=>0) l
theorem ZrP:∀ {l:List α}{c:Int→Int},VL key c l→∀ x∈l,c (key x).1≤(key x).2∧(key x).2<c (key x).1+cnt key l (key x).1
 |y::l,c,h,x,hx=>by
  rw[Zca]
  rcases List.mem_cons.1 hx with rfl|hx
  ·have:=h.1;simp only[if_true];omega
  ·have:=ZrP h.2 x hx
   by_cases e:(key x).1=(key y).1
   ·simp only[e,if_true]at this ⊢;omega
   ·simp only[if_neg e,if_neg (Ne.symm e)]at this ⊢;omega
theorem Zks:∀ {l:List α}{c:Int→Int},VL key c l→∀ (h n:Int),c h≤n→n<c h+cnt key l h→∃ x∈l,key x=(h,n)
 |[],c,_,h,n,h1,h2=>by rw[Zfb]at h2;omega
 |y::l,c,hv,h,n,h1,h2=>by
  rw[Zca]at h2
  by_cases e:(key y).1=h
  ·by_cases e2:n=c h
   ·refine⟨y,by simp,?_⟩
    have h3:=hv.1
    rw[e]at h3
    exact Prod.ext e (by rw[h3,e2])
   ·obtain⟨x,hx,hk⟩:=Zks hv.2 h n (by rw[if_pos e.symm];omega) (by rw[if_pos e.symm];rw[if_pos e]at h2;omega)
    exact⟨x,by simp[hx],hk⟩
  ·obtain⟨x,hx,hk⟩:=Zks hv.2 h n (by rw[if_neg (Ne.symm e)];omega) (by rw[if_neg (Ne.symm e)];rw[if_neg e]at h2;omega)
   exact⟨x,by simp[hx],hk⟩
def pos (l:List α) (e:Int×Int):Nat:=l.countP fun x=>decide (eLt (key x) e)
theorem ZoP (l:List α) (e:Int×Int):pos key l e≤l.length:=List.countP_le_length
def Zjz (l:List α) (r:α):List α:=l.take (pos key l (key r))++r::l.drop (pos key l (key r))
theorem Zrk (x:α) (l:List α) (e:Int×Int):pos key (x::l) e=pos key l e+if eLt (key x) e then 1 else 0:=by
 unfold pos;rw[List.countP_cons];simp only[decide_eq_true_eq]
theorem Zrl {l:List α}{e:Int×Int} (H:∀ x∈l,¬ eLt (key x) e):pos key l e=0:=by
 unfold pos;rw[List.countP_eq_zero];intro x hx;simp[H x hx]
theorem ZfG:∀ {l:List α},Srt key l→∀ (e:Int×Int),(∀ x∈l.take (pos key l e),eLt (key x) e)∧(∀ x∈l.drop (pos key l e),¬ eLt (key x) e)
 |[],_,e=>by simp
 |y::l,hs,e=>by
  have hs':=List.pairwise_cons.1 hs
  by_cases h:eLt (key y) e
  ·obtain⟨h1,h2⟩:=ZfG hs'.2 e
   rw[Zrk,if_pos h]
   refine⟨fun x hx=>?_,fun x hx=>?_⟩
   ·rw[List.take_succ_cons]at hx
    rcases List.mem_cons.1 hx with rfl|hx
    ·exact h
    ·exact h1 x hx
   ·rw[List.drop_succ_cons]at hx;exact h2 x hx
  ·have hz:pos key (y::l) e=0:=Zrl key (fun x hx=>by
    rcases List.mem_cons.1 hx with rfl|hx
    ·exact h
    ·intro hc;exact h (Zix (hs'.1 x hx) hc))
   rw[hz]
   refine⟨by simp,fun x hx=>?_⟩
   rw[List.drop_zero]at hx
   rcases List.mem_cons.1 hx with rfl|hx
   ·exact h
   ·intro hc;exact h (Zix (hs'.1 x hx) hc)
theorem ZiI {l:List α} (hs:Srt key l) (e:Int×Int) {i:Nat}{x:α} (hx:l[i]?=some x):eLt (key x) e↔i<pos key l e:=by
 obtain⟨h1,h2⟩:=ZfG key hs e
 constructor
 ·intro h
  rcases Nat.lt_or_ge i (pos key l e) with hi|hi
  ·exact hi
  ·exact absurd h (h2 x (List.mem_iff_getElem?.2 ⟨i - pos key l e,by rw[List.getElem?_drop,Nat.add_sub_cancel' hi];exact hx⟩))
 ·intro h
  exact h1 x (List.mem_iff_getElem?.2 ⟨i,by rw[List.getElem?_take,if_pos h];exact hx⟩)
theorem ZjR {l:List α}{r x:α}:x∈Zjz key l r↔x=r∨x∈l:=by
 unfold Zjz
 rw[List.mem_append,List.mem_cons]
 constructor
 ·rintro(h|h|h)
  ·exact .inr (List.mem_of_mem_take h)
  ·exact .inl h
  ·exact .inr (List.mem_of_mem_drop h)
 ·rintro(h|h)
  ·exact .inr (.inl h)
  ·rw[←List.take_append_drop (pos key l (key r)) l,List.mem_append]at h
   rcases h with h|h
   ·exact .inl h
   ·exact .inr (.inr h)
theorem ZgP (l:List α) (r:α):(Zjz key l r).length=l.length+1:=by
 have:=ZoP key l (key r)
 unfold Zjz;simp;omega
theorem Zq0 (l:List α) (r:α) (h:Int):cnt key (Zjz key l r) h=cnt key l h+if (key r).1=h then 1 else 0:=by
 unfold Zjz
 rw[Zdb,Zca]
 have:=Zdb key (l.take (pos key l (key r))) (l.drop (pos key l (key r))) h
 rw[List.take_append_drop]at this
 omega
theorem Zrx {l:List α} (hs:Srt key l) {r:α} (hn:∀ x∈l,key x≠key r):Srt key (Zjz key l r):=by
 obtain⟨h1,h2⟩:=ZfG key hs (key r)
 unfold Srt Zjz
 have h:=hs
 unfold Srt at h
 rw[←List.take_append_drop (pos key l (key r)) l,List.pairwise_append]at h
 rw[List.pairwise_append,List.pairwise_cons]
 refine⟨h.1,⟨fun x hx=>?_,h.2.1⟩,fun x hx y hy=>?_⟩
 ·rcases ZsJ (key x) (key r) with e|e|e
  ·exact absurd e (h2 x hx)
  ·exact absurd e (hn x (List.mem_of_mem_drop hx))
  ·exact e
 ·rcases List.mem_cons.1 hy with rfl|hy
  ·exact h1 x hx
  ·exact h.2.2 x hx y hy
theorem Zpz {l:List α} (hv:Val key l):∀ x∈l,0≤(key x).2∧(key x).2<cnt key l (key x).1:=fun x hx=>by
 have:=ZrP key hv.2 x hx;omega
theorem Zt9 {l:List α} (hv:Val key l) {h n:Int} (h0:0≤n) (h1:n<cnt key l h):∃ x∈l,key x=(h,n):=Zks key hv.2 h n (by omega) (by omega)
theorem ZmP {l:List α} (hv:Val key l) {r:α} (hr:(key r).2=cnt key l (key r).1):Val key (Zjz key l r):=by
 have hn:∀ x∈l,key x≠key r:=fun x hx e=>by
  have:=Zpz key hv x hx
  rw[e]at this;omega
 refine⟨Zrx key hv.1 hn,?_⟩
 obtain⟨h1,h2⟩:=ZfG key hv.1 (key r)
 have hd:∀ x∈l.drop (pos key l (key r)),(key x).1≠(key r).1:=fun x hx e=>by
  have:=Zpz key hv x (List.mem_of_mem_drop hx)
  apply h2 x hx
  rw[e]at this
  exact .inr ⟨e,by omega⟩
 have hv2:=hv.2
 rw[←List.take_append_drop (pos key l (key r)) l,Zfa]at hv2
 unfold Zjz
 rw[Zfa]
 refine⟨hv2.1,?_,?_⟩
 ·have e:=Zdb key (l.take (pos key l (key r))) (l.drop (pos key l (key r))) (key r).1
  rw[List.take_append_drop,Zq1 key hd]at e
  rw[hr];show ((cnt key l (key r).1:Nat):Int)=0+((cnt key (l.take (pos key l (key r))) (key r).1:Nat):Int);omega
 ·refine ZfF key (fun x hx=>?_) hv2.2
  rw[if_neg (hd x hx)]
theorem Zpv {l:List α} (hs:Srt key l) {x y:α} (hx:x∈l) (hy:y∈l) (e:key x=key y):x=y:=by
 obtain⟨i,hi⟩:=List.mem_iff_getElem?.1 hx
 obtain⟨j,hj⟩:=List.mem_iff_getElem?.1 hy
 have h1:=(ZiI key hs (key y) hi)
 have h2:=(ZiI key hs (key y) hj)
 have h3:=(ZiI key hs (key x) hi)
 have h4:=(ZiI key hs (key x) hj)
 have hij:i=j:=by
  rcases Nat.lt_trichotomy i j with h|h|h
  ·have hp:=List.pairwise_iff_getElem.1 hs i j (gS.1 hi).1 (gS.1 hj).1 h
   rw[(gS.1 hi).2,(gS.1 hj).2,e]at hp
   exact absurd hp (ZlG _)
  ·exact h
  ·have hp:=List.pairwise_iff_getElem.1 hs j i (gS.1 hj).1 (gS.1 hi).1 h
   rw[(gS.1 hi).2,(gS.1 hj).2,e]at hp
   exact absurd hp (ZlG _)
 subst hij
 exact oi (hi.symm.trans hj)
end
end Go.Abs
namespace Go.Abs
set_option linter.unusedVariables false
section
variable {α:Type} [DecidableEq α] (key:α→Int×Int)
def ZeX (l:List α) (e:Int×Int):Option α:=l.find? fun x=>decide (key x=e)
theorem Zjn {l:List α}{e:Int×Int}{x:α} (h:ZeX key l e=some x):x∈l∧key x=e:=by
 unfold ZeX at h
 have h1:=List.find?_some h
 exact⟨List.mem_of_find?_eq_some h,by simpa using h1⟩
theorem Zhj {l:List α}{e:Int×Int} (h:ZeX key l e=none):∀ x∈l,key x≠e:=by
 unfold ZeX at h
 rw[List.find?_eq_none]at h
 intro x hx;simpa using h x hx
theorem Zm6 {l:List α}{e:Int×Int} (h:∀ x∈l,key x≠e):ZeX key l e=none:=by
 unfold ZeX;rw[List.find?_eq_none];intro x hx;simpa using h x hx
theorem ZqQ {l:List α} (hs:Srt key l) {x:α} (hx:x∈l):ZeX key l (key x)=some x:=by
 cases h:ZeX key l (key x) with
 |none=>exact absurd rfl (Zhj key h x hx)
 |some y=>obtain⟨h1,h2⟩:=Zjn key h;rw[Zpv key hs h1 hx h2]
theorem ZkN {l:List α} (hs:Srt key l) (e:Int×Int):ZeX key l e=(l[pos key l e]?).filter fun x=>decide (key x=e):=by
 cases h:ZeX key l e with
 |some x=>
  obtain⟨h1,h2⟩:=Zjn key h
  obtain⟨i,hi⟩:=List.mem_iff_getElem?.1 h1
  have hp:i=pos key l e:=by
   rcases Nat.lt_trichotomy i (pos key l e) with g|g|g
   ·have:=(ZiI key hs e hi).2 g;rw[h2]at this;exact absurd this (ZlG _)
   ·exact g
   ·have hlt:pos key l e<l.length:=by have:=(gS.1 hi).1;omega
    have hy:l[pos key l e]?=some l[pos key l e]:=gG hlt
    have h3:¬ eLt (key l[pos key l e]) e:=fun c=>by have:=(ZiI key hs e hy).1 c;omega
    have hp:=List.pairwise_iff_getElem.1 hs (pos key l e) i hlt (gS.1 hi).1 g
    rw[(gS.1 hi).2,h2]at hp
    exact absurd hp h3
  rw[←hp,hi]
  simp[Option.filter,h2]
 |none=>
  have hn:=Zhj key h
  cases hq:l[pos key l e]? with
  |none=>rfl
  |some y=>
   have:=hn y (List.mem_of_getElem? hq)
   simp[Option.filter,this]
def jn (out:List α) (r:α):Option (List α):=match ZeX key out (key r) with
 |some x=>if x=r then some out else none
 |none=>some (Zjz key out r)
def cs (a:List α) (m:Nat) (r:α):Option Nat:=match ZeX key a (key r) with
 |some x=>if x=r then some m else none
 |none=>some (m+1)
end
end Go.Abs
namespace Go.Abs
set_option linter.unusedVariables false
section
variable {α:Type} (key:α→Int×Int)
def bk (out l:List α):List α:=l.foldl (Zjz key) out
structure BI (done out:List α):Prop where
 mem:∀ x,x∈out↔x∈done
 val:Val key out
 num:∀ h,cnt key out h=cnt key done h
 len:out.length=done.length
theorem BI.nil:BI key [] []:=⟨fun x=>Iff.rfl,⟨.nil,trivial⟩,fun h=>rfl,rfl⟩
theorem BI.step {done out:List α}{r:α} (hJ:BI key done out) (hr:(key r).2=cnt key done (key r).1):BI key (done++[r]) (Zjz key out r):=by
 refine⟨fun x=>?_,ZmP key hJ.val (by rw[hJ.num];exact hr),fun h=>?_,?_⟩
 ·rw[ZjR,hJ.mem,List.mem_append,List.mem_singleton];exact Or.comm
 ·rw[Zq0,hJ.num,Zdb,Zca,Zfb];omega
 ·rw[ZgP,hJ.len];simp
theorem BI.no {done out:List α}{r:α} (hJ:BI key done out) (hr:(key r).2=cnt key done (key r).1):∀ x∈out,key x≠key r:=fun x hx e=>by
 have:=Zpz key hJ.val x hx
 rw[e,hJ.num]at this;omega
theorem BI.all:∀ {m done out:List α},BI key done out→VL key (fun h=>cnt key done h) m→BI key (done++m) (bk key out m)
 |[],done,out,hJ,_=>by rw[List.append_nil];exact hJ
 |r::m,done,out,hJ,hv=>by
  have h1:=BI.step key hJ (r:=r) hv.1
  have:=BI.all (m:=m) h1 (ZfF key (fun x _=>by
   rw[Zdb,Zca,Zfb]
   by_cases e:(key x).1=(key r).1
   ·rw[if_pos e,if_pos e.symm];simp
   ·rw[if_neg e,if_neg (Ne.symm e)];simp) hv.2)
  simpa [bk] using this
theorem BI.of {l:List α} (h:VL key (fun _=>0) l):BI key l (bk key [] l):=by
 have:=BI.all key (m:=l) (BI.nil key) h
 simpa using this
theorem Ze1 {c:Int→Int}{l:List α} (h:VL key c l) (n:Nat):VL key c (l.take n):=by
 have:=h
 rw[←List.take_append_drop n l,Zfa]at this
 exact this.1
theorem ZtL {l:List α} (h:VL key (fun _=>0) l) {x y:α} (hx:x∈l) (hy:y∈l) (e:key x=key y):x=y:=by
 have:=BI.of key h
 exact Zpv key this.val.1 ((this.mem x).2 hx) ((this.mem y).2 hy) e
end
section
variable {α:Type} [DecidableEq α] (key:α→Int×Int)
end
end Go.Abs
namespace Go.Abs
open Go Go.Proofs
set_option maxRecDepth 20000
set_option linter.unusedVariables false
set_option linter.unusedSimpArgs false
theorem Zky (s:ByteArray):s.toList=s.data.toList:=by
 have key:∀ (d i:Nat) (r:List UInt8),i+d=s.size→ByteArray.toList.loop s i r=r.reverse++s.data.toList.drop i:=by
  intro d
  induction d with
  |zero=>
   intro i r h
   rw[ByteArray.toList.loop,if_neg (by omega)]
   have hl:s.data.toList.length=s.size:=rfl
   rw[List.drop_of_length_le (by omega),List.append_nil]
  |succ d ih=>
   intro i r h
   have hl:s.data.toList.length=s.size:=rfl
   have hi:i<s.data.toList.length:=by omega
   rw[ByteArray.toList.loop,if_pos (by omega),ih (i+1) _ (by omega),List.drop_eq_getElem_cons hi]
   have e:s.get! i=s.data.toList[i]:=by
    show s.data[i]! = _
    rw[getElem!_pos s.data i (by simpa using hi)];simp
   rw[e];simp
 have:=key s.size 0 [] (by omega)
 simpa [ByteArray.toList] using this
theorem ZtW {a b:ByteArray}:a.toList=b.toList↔a=b:=by
 constructor
 ·intro h
  rw[Zky,Zky]at h
  cases a;cases b
  rename_i x y
  have:x=y:=Array.toList_inj.1 h
  rw[this]
 ·rintro rfl;rfl
def Zlw (x r:Record):Bool:=(decide (x.At.House=r.At.House)&&(decide (x.At.No=r.At.No)&&(decide (x.Kind=r.Kind)&&(decide (x.Day=r.Day)&&(decide (x.Known=r.Known)&&(decide (x.Of.House=r.Of.House)&&(decide (x.Of.No=r.Of.No)&&(x.Text.toList==r.Text.toList))))))))
theorem ZiF {x r:Record}:Zlw x r=true↔x=r:=by
 obtain⟨⟨a1,a2⟩,a3,a4,a5,⟨a6,a7⟩,a8⟩:=x
 obtain⟨⟨b1,b2⟩,b3,b4,b5,⟨b6,b7⟩,b8⟩:=r
 simp only[Zlw,Bool.and_eq_true,decide_eq_true_eq,beq_iff_eq,ZtW,Record.mk.injEq,Entry.mk.injEq]
 constructor
 ·rintro⟨h1,h2,h3,h4,h5,h6,h7,h8⟩;exact⟨⟨h1,h2⟩,h3,h4,h5,⟨h6,h7⟩,h8⟩
 ·rintro⟨⟨h1,h2⟩,h3,h4,h5,⟨h6,h7⟩,h8⟩;exact⟨h1,h2,h3,h4,h5,h6,h7,h8⟩
theorem ZnE (x:Record):Zlw x x=true:=ZiF.2 rfl
theorem Zru {x r:Record} (h:x≠r):Zlw x r=false:=by
 cases e:Zlw x r with
 |false=>rfl
 |true=>exact absurd (ZiF.1 e) h
instance:DecidableEq Record:=fun x y=>decidable_of_iff (Zlw x y=true) ZiF
def Zgg (a:Entry):Int×Int:=(a.House,a.No)
def Za2 (r:Record):Int×Int:=(r.At.House,r.At.No)
def Zst (a b:Int):Int:=if a<b then -1 else if b<a then 1 else 0
def Zow (a b:Entry):Int:=if Zst a.House b.House≠0 then Zst a.House b.House else Zst a.No b.No
theorem Zoy (a b:Entry):Zow a b<0↔eLt (Zgg a) (Zgg b):=by
 unfold Zow Zst eLt Zgg
 simp only
 repeat' split
 all_goals omega
theorem Zsb (a b:Entry):Zow a b=0↔Zgg a=Zgg b:=by
 unfold Zow Zst Zgg
 simp only[Prod.mk.injEq]
 repeat' split
 all_goals omega
theorem ZiZ (k:Nat) (a b:Int):ZbK k a b=some (Zst a b):=by
 unfold ZbK ZcO Zst
 simp only[Option.bind_some,cond_false]
 by_cases h:a<b
 ·simp[h]
 ·by_cases h2:b<a<;>simp[h,h2]
theorem Zrh {k:Nat} (hk:10<k) (a b:Int):ZaQ k [a,b]=some (if a≠0 then a else b):=by
 obtain⟨m,rfl⟩:∃ m,k=m+3:=⟨k - 3,by omega⟩
 unfold ZaQ
 have h0:at? [a,b] 0=some a:=rfl
 have h1:at? [a,b] 1=some b:=rfl
 have w0:w64 (0+1)=1:=by decide
 have w1:w64 (1+1)=2:=by decide
 have v1:w64 1=1:=by decide
 have v2:w64 2=2:=by decide
 have l2:decide ((2:Int)<(([a,b]:List Int).length:Int))=false:=rfl
 have l1:decide ((1:Int)<(([a,b]:List Int).length:Int))=true:=rfl
 have l0:decide ((0:Int)<(([a,b]:List Int).length:Int))=true:=rfl
 by_cases e:a=0
 ·subst e
  by_cases e2:b=0
  ·subst e2
   simp[whl,ZaQ.b0,h0,h1,w0,w1,v1,v2,l0,l1,l2]
  ·simp[whl,ZaQ.b0,h0,h1,w0,w1,v1,v2,l0,l1,l2,e2]
 ·simp[whl,ZaQ.b0,h0,l0,e]
theorem Ze7 {k:Nat} (hk:10<k) (a b:Entry):Zc5 k a b=some (Zow a b):=by
 unfold Zc5 Zow
 simp only[ZiZ,Zrh hk,Option.bind_some]
theorem Znk {n:Nat} (h:n≤1000000):w64 (Int.fdiv (IntKind.u64.wrap (w64 (n:Int))) (2 ^ 1))=((n / 2:Nat):Int):=by
 have h1:IntKind.u64.wrap (n:Int)=n:=by
  simp only[IntKind.wrap,IntKind.bits,IntKind.signed]
  simp
  omega
 rw[ZaD (n:=(n:Int)) (by omega) (by omega),h1,Int.fdiv_eq_ediv_of_nonneg _ (by decide)]
 have:((n:Int) / 2 ^ 1)=((n / 2:Nat):Int):=by simp
 rw[this,ZaD (by omega) (by omega)]
theorem Zmm {k0:Nat} (hk0:10<k0) {l:List Record} (hs:Srt Za2 l) (hl:l.length≤1000) (e:Entry):∀ (d i j k:Nat),j - i≤d→d<k→i≤pos Za2 l (Zgg e)→pos Za2 l (Zgg e)≤j→j≤l.length→
  whl (Zad.b0 k0 (fun q0 q1=>Zcf k0 q0 q1) l e) k ((i:Int),(j:Int))=some (.brk ((pos Za2 l (Zgg e):Nat):Int)):=by
 intro d
 induction d with
 |zero=>
  intro i j k h1 h2 h3 h4 h5
  obtain⟨m,rfl⟩:∃ m,k=m+1:=⟨k - 1,by omega⟩
  have:i=pos Za2 l (Zgg e):=by omega
  have hd:decide ((i:Int)<(j:Int))=false:=by simp;omega
  simp only[whl,Zad.b0,hd,cond_false]
  rw[this]
 |succ d ih=>
  intro i j k h1 h2 h3 h4 h5
  obtain⟨m,rfl⟩:∃ m,k=m+1:=⟨k - 1,by omega⟩
  by_cases hij:i<j
  ·have hd:decide ((i:Int)<(j:Int))=true:=by simp;omega
   have hm:w64 (Int.fdiv (IntKind.u64.wrap (w64 ((i:Int)+(j:Int)))) (2 ^ 1))=(((i+j) / 2:Nat):Int):=by
    have:=Znk (n:=i+j) (by omega)
    rw[←this];push_cast;rfl
   have hlt:(i+j) / 2<l.length:=by omega
   have hx:l[(i+j) / 2]?=some l[(i+j) / 2]:=gG hlt
   have hat:=ZiI Za2 hs (Zgg e) hx
   have hf:Zcf k0 l[(i+j) / 2] e=some (Zow l[(i+j) / 2].At e):=by
    unfold Zcf;rw[Ze7 hk0];rfl
   have hc:=Zoy l[(i+j) / 2].At e
   have hkk:Zgg l[(i+j) / 2].At=Za2 l[(i+j) / 2]:=rfl
   rw[hkk]at hc
   by_cases hp:(i+j) / 2<pos Za2 l (Zgg e)
   ·have hneg:decide (Zow l[(i+j) / 2].At e<0)=true:=decide_eq_true (hc.2 (hat.2 hp))
    have hw:w64 ((((i+j) / 2:Nat):Int)+1)=(((i+j) / 2+1:Nat):Int):=by rw[ZaD (by omega) (by omega)];push_cast;rfl
    simp only[whl,Zad.b0,hd,cond_true,hm,ZcV hx,Option.bind_some,hf,hneg,hw]
    exact ih _ _ _ (by omega) (by omega) (by omega) h4 h5
   ·have hneg:decide (Zow l[(i+j) / 2].At e<0)=false:=decide_eq_false (fun c=>hp (hat.1 (hc.1 c)))
    simp only[whl,Zad.b0,hd,cond_true,hm,ZcV hx,Option.bind_some,hf,hneg,cond_false]
    exact ih _ _ _ (by omega) (by omega) h3 (by omega) (by omega)
  ·have:i=pos Za2 l (Zgg e):=by omega
   have hd:decide ((i:Int)<(j:Int))=false:=by simp;omega
   simp only[whl,Zad.b0,hd,cond_false]
   rw[this]
theorem Zng {k:Nat} (hk:10000<k) {b:Book} (hs:Srt Za2 b.Records) (hl:b.Records.length≤1000) (e:Entry):
  ZfB k b e=some (((pos Za2 b.Records (Zgg e):Nat):Int),(ZeX Za2 b.Records (Zgg e)).isSome):=by
 unfold ZfB Zad
 have h:=Zmm (k0:=k) (by omega) hs hl e b.Records.length 0 b.Records.length k (by omega) (by omega) (by omega) (ZoP Za2 _ _) (by omega)
 rw[Int.natCast_zero]at h
 rw[h]
 simp only[Option.bind_some]
 rw[ZkN Za2 hs]
 by_cases hp:pos Za2 b.Records (Zgg e)<b.Records.length
 ·have hx:b.Records[pos Za2 b.Records (Zgg e)]?=some b.Records[pos Za2 b.Records (Zgg e)]:=gG hp
  have hd:decide (((pos Za2 b.Records (Zgg e):Nat):Int)<(b.Records.length:Int))=true:=by simp;omega
  simp only[hd,cond_true,ZcV hx,Option.bind_some]
  unfold Zcf
  rw[Ze7 (by omega)]
  simp only[Option.bind_some,hx]
  have hc:=Zsb b.Records[pos Za2 b.Records (Zgg e)].At e
  have hkk:Zgg b.Records[pos Za2 b.Records (Zgg e)].At=Za2 b.Records[pos Za2 b.Records (Zgg e)]:=rfl
  rw[hkk]at hc
  by_cases he:Za2 b.Records[pos Za2 b.Records (Zgg e)]=Zgg e
  ·rw[hc.2 he];simp[Option.filter,he]
  ·simp[Option.filter,he,mt hc.1 he]
 ·have hx:b.Records[pos Za2 b.Records (Zgg e)]?=none:=List.getElem?_eq_none (by omega)
  have hd:decide (((pos Za2 b.Records (Zgg e):Nat):Int)<(b.Records.length:Int))=false:=by simp;omega
  simp only[hd,cond_false,hx]
  rfl
def Zg0 (l:List Record):Vec 6 Int:=⟨[cnt Za2 l 0,cnt Za2 l 1,cnt Za2 l 2,cnt Za2 l 3,cnt Za2 l 4,cnt Za2 l 5],rfl⟩
theorem six {h:Int} (h0:0≤h) (h1:h≤5):h=0∨h=1∨h=2∨h=3∨h=4∨h=5:=by omega
theorem Ziu (l:List Record) {h:Int} (h0:0≤h) (h1:h≤5):(Zg0 l).at? h=some ((cnt Za2 l h:Nat):Int):=by
 rcases six h0 h1 with rfl|rfl|rfl|rfl|rfl|rfl<;>rfl
theorem Zmz (l:List Record) (r:Record) (h0:0≤r.At.House) (h1:r.At.House≤5):(Zg0 l).set r.At.House ((cnt Za2 l r.At.House:Nat)+1:Int)=Zg0 (l++[r]):=by
 have hc:∀ h,cnt Za2 (l++[r]) h=cnt Za2 l h+if r.At.House=h then 1 else 0:=fun h=>by
  rw[Zdb,Zca,Zfb]
  show _+(0+if r.At.House=h then 1 else 0)=_
  omega
 apply Vec.ext
 unfold Zg0
 simp only[hc]
 rcases six h0 h1 with e|e|e|e|e|e<;>rw[e]<;>simp[Vec.set]
def ZdH (r:Record):Prop:=0≤r.At.House∧r.At.House≤5
theorem Zck {r:Record} (h:Zfw r=true):ZdH r:=by
 unfold Zfw Zg9 within at h
 simp only[Bool.and_eq_true,decide_eq_true_eq]at h
 exact h.1.1
theorem ZkA (l:List Record) (h:Int):cnt Za2 l h≤l.length:=List.countP_le_length
theorem Zna {τ:Type}{body:τ→Option (Stp τ (Vec 6 Int) (Vec 6 Int))} (mk:Int→Vec 6 Int→τ) {l:List Record} (hl:l.length≤100000) (hh:∀ r∈l,ZdH r) {k:Nat} (hk:1000000<k)
  (h1:∀ (i:Nat) r s,l[i]?=some r→body (mk i s)=(s.at? r.At.House).bind fun x=>some (.next (mk (w64 ((i:Int)+1)) (s.set r.At.House (w64 (x+1)))))) (h2:∀ s,body (mk l.length s)=some (.brk s)):
  whl body k (mk 0 (Vec.rep 6 (0:Int)))=some (.brk (Zg0 l)):=by
 have h:=Zg7 (l:=l) (body:=body) mk (fun s r=>match s.at? r.At.House with|some x=>s.set r.At.House (w64 (x+1))|none=>s) (fun i s=>s=Zg0 (l.take i)) (by omega) (k:=k) (by omega) (s0:=Vec.rep 6 (0:Int)) (by rfl) (fun i r s hx hs=>by
  have hi:=(gS.1 hx).1
  have hr:=hh r (List.mem_of_getElem? hx)
  have e:l.take (i+1)=l.take i++[r]:=by rw[List.take_add_one,hx];rfl
  have hc:=ZkA (l.take i) r.At.House
  rw[List.length_take]at hc
  rw[h1 i r s hx,hs,Ziu _ hr.1 hr.2]
  simp only[Option.bind_some]
  have hw:w64 (((cnt Za2 (l.take i) r.At.House:Nat):Int)+1)=((cnt Za2 (l.take i) r.At.House:Nat):Int)+1:=ZaD (by omega) (by omega)
  rw[hw,Zmz _ _ hr.1 hr.2,e]
  exact⟨trivial,rfl⟩) (fun s hs=>h2 s)
 have h3:=h.2
 rw[List.take_length]at h3
 rw[h.1,h3]
theorem Zjp {k:Nat} (hk:1000000<k) {b:Book} (hl:b.Records.length≤100000) (hh:∀ r∈b.Records,ZdH r):ZaK k b=some (Zg0 b.Records):=by
 unfold ZaK
 rw[Zna (l:=b.Records) (body:=ZaK.b0 k b) (fun i s=>(s,i)) hl hh hk (fun i r s hx=>by
  have hi:=(gS.1 hx).1
  unfold ZaK.b0
  simp only[decide_eq_true (show (i:Int)<(b.Records.length:Int) by omega),cond_true,ZcV hx,Option.bind_some]) (fun s=>by
  unfold ZaK.b0
  simp only[(by simp:decide ((b.Records.length:Int)<(b.Records.length:Int))=false),cond_false])]
 rfl
theorem Zis {k:Nat}{l:List Record} (hl:l.length≤1000):ZaT k l=some l:=by
 unfold ZaT ZhQ
 rw[if_pos ⟨by omega,by omega⟩];rfl
theorem ZdP {k:Nat}{b:Book} (hl:b.Records.length≤1000):Zda k b=some b:=by
 unfold Zda
 rw[Zis hl];rfl
theorem Zli {k:Nat}{l:List Record} (hl:l.length≤1000) (r:Record):ZaZ k l ((pos Za2 l (Za2 r):Nat):Int) [r]=some (Zjz Za2 l r):=by
 have:=ZoP Za2 l (Za2 r)
 unfold ZaZ
 rw[if_pos ⟨⟨by omega,by omega⟩,rfl,⟨by omega,by omega⟩⟩]
 rfl
end Go.Abs
namespace Go.Abs
open Go Go.Proofs
set_option maxRecDepth 20000
set_option linter.unusedVariables false
set_option linter.unusedSimpArgs false
theorem ZiK (l:List Int) (n:Nat):ZkJ l (n:Int)=if l.length<n then none else some (l.take n,l.drop n):=by
 unfold ZkJ
 by_cases h:l.length<n
 ·rw[if_pos (by omega),if_pos h]
 ·rw[if_neg (by omega),if_neg h,Int.toNat_natCast]
theorem Zhy {k:Nat} (hk:100<k) {l:List Int} (hb:Byt l) {n:Nat} (hn:n≤5):Zl7 k l (n:Int)=some (if l.length<n then none else some (rdV (l.take n),l.drop n)):=by
 unfold Zl7
 rw[ZiK]
 by_cases h:l.length<n
 ·simp only[if_pos h]
 ·simp only[if_neg h]
  have hl:(l.take n).length=n:=by rw[List.length_take];omega
  rw[Ztv (hb.take n) (by omega) (k:=k) (by omega) (fun i x s hx=>by
   have hi:=(gS.1 hx).1
   unfold ZuU
   simp only[decide_eq_true (show (i:Int)<((l.take n).length:Int) by omega),cond_true,ZcV hx,Option.bind_some]) (fun s=>by
   unfold ZuU
   simp only[(by simp:decide (((l.take n).length:Int)<((l.take n).length:Int))=false),cond_false])]
  rfl
def ZvO (b tx:List Int):Record:=⟨⟨rdV (b.take 1),rdV ((b.drop 1).take 2)⟩,rdV ((b.drop 3).take 1),rdV ((b.drop 4).take 4),rdV ((b.drop 8).take 4),⟨rdV ((b.drop 12).take 1),rdV ((b.drop 13).take 2)⟩,Zma tx⟩
def ZqB (b:List Int):Int:=rdV ((b.drop 15).take 1)
def ZpF (b:List Int):Option (Record×List Int):=
 if b.length<16 then none else if (b.length:Int)<16+ZqB b then none else some (ZvO b ((b.drop 16).take (ZqB b).toNat),(b.drop 16).drop (ZqB b).toNat)
theorem Znd {k:Nat} (hk:100<k) {b:List Int} (hb:Byt b):Zuo k b=some (ZpF b):=by
 have N1:∀ {l:List Int},Byt l→Zl7 k l 1=some (if l.length<1 then none else some (rdV (l.take 1),l.drop 1)):=fun h=>Zhy hk h (n:=1) (by omega)
 have N2:∀ {l:List Int},Byt l→Zl7 k l 2=some (if l.length<2 then none else some (rdV (l.take 2),l.drop 2)):=fun h=>Zhy hk h (n:=2) (by omega)
 have N4:∀ {l:List Int},Byt l→Zl7 k l 4=some (if l.length<4 then none else some (rdV (l.take 4),l.drop 4)):=fun h=>Zhy hk h (n:=4) (by omega)
 unfold Zuo
 by_cases h16:b.length<16
 ·have e:ZpF b=none:=by unfold ZpF;rw[if_pos h16]
  rw[e,N1 hb,Option.bind_some]
  by_cases h1:b.length<1
  ·rw[if_pos h1]
  rw[if_neg h1];simp only
  rw[N2 (hb.drop _),Option.bind_some,List.length_drop,List.drop_drop]
  by_cases h1:b.length - 1<2
  ·rw[if_pos h1]
  rw[if_neg h1];simp only
  rw[N1 (hb.drop _),Option.bind_some,List.length_drop,List.drop_drop]
  by_cases h1:b.length - (1+2)<1
  ·rw[if_pos h1]
  rw[if_neg h1];simp only
  rw[N4 (hb.drop _),Option.bind_some,List.length_drop,List.drop_drop]
  by_cases h1:b.length - (1+2+1)<4
  ·rw[if_pos h1]
  rw[if_neg h1];simp only
  rw[N4 (hb.drop _),Option.bind_some,List.length_drop,List.drop_drop]
  by_cases h1:b.length - (1+2+1+4)<4
  ·rw[if_pos h1]
  rw[if_neg h1];simp only
  rw[N1 (hb.drop _),Option.bind_some,List.length_drop,List.drop_drop]
  by_cases h1:b.length - (1+2+1+4+4)<1
  ·rw[if_pos h1]
  rw[if_neg h1];simp only
  rw[N2 (hb.drop _),Option.bind_some,List.length_drop,List.drop_drop]
  by_cases h1:b.length - (1+2+1+4+4+1)<2
  ·rw[if_pos h1]
  rw[if_neg h1];simp only
  rw[N1 (hb.drop _),Option.bind_some,List.length_drop,List.drop_drop]
  rw[if_pos (by omega)]
 ·rw[N1 hb,Option.bind_some,if_neg (by omega)];simp only
  rw[N2 (hb.drop _),Option.bind_some,List.length_drop,List.drop_drop,if_neg (by omega)];simp only
  rw[N1 (hb.drop _),Option.bind_some,List.length_drop,List.drop_drop,if_neg (by omega)];simp only
  rw[N4 (hb.drop _),Option.bind_some,List.length_drop,List.drop_drop,if_neg (by omega)];simp only
  rw[N4 (hb.drop _),Option.bind_some,List.length_drop,List.drop_drop,if_neg (by omega)];simp only
  rw[N1 (hb.drop _),Option.bind_some,List.length_drop,List.drop_drop,if_neg (by omega)];simp only
  rw[N2 (hb.drop _),Option.bind_some,List.length_drop,List.drop_drop,if_neg (by omega)];simp only
  rw[N1 (hb.drop _),Option.bind_some,List.length_drop,List.drop_drop,if_neg (by omega)];simp only
  have hm:=Zj5 ((hb.drop 15).take 1)
  have hM:rdV ((b.drop (1+2+1+4+4+1+2)).take 1)=ZqB b:=rfl
  rw[hM]
  have hm0:0≤ZqB b:=hm.1
  rw[if_pos hm0]
  obtain⟨m,hm'⟩:=Int.eq_ofNat_of_zero_le hm0
  unfold ZpF
  rw[if_neg h16,hm',ZiK,List.length_drop]
  by_cases hlt:(b.length:Int)<16+(m:Int)
  ·rw[if_pos hlt,if_pos (by omega)]
  ·rw[if_neg hlt,if_neg (by omega)]
   rfl
theorem ZjJ {k:Nat} (hk:1000<k) {b:List Int} (hb:Byt b):
  ZdL k b=some (match ZpF b with|none=>(⟨⟨0,0⟩,0,0,0,⟨0,0⟩,ByteArray.empty⟩,[],false)|some p=>(p.1,p.2,Zfw p.1)):=by
 unfold ZdL
 rw[Znd (by omega) hb]
 cases ZpF b with
 |none=>rfl
 |some p=>simp only[Option.bind_some,Zdi hk]
theorem rd1 {n:Int} (h0:0≤n) (h1:n<256):rdV (be n 1)=n:=by
 simp only[be,Zmu,rdV,rdA,List.foldl]
 rw[Int.fdiv_eq_ediv_of_nonneg _ (by decide)]
 simp
 omega
theorem rd2 {n:Int} (h0:0≤n) (h1:n<65536):rdV (be n 2)=n:=by
 simp only[be,Zmu,rdV,rdA,List.foldl]
 rw[Int.fdiv_eq_ediv_of_nonneg _ (by decide),Int.fdiv_eq_ediv_of_nonneg _ (by decide)]
 simp
 omega
theorem rd4 {n:Int} (h0:0≤n) (h1:n<4294967296):rdV (be n 4)=n:=by
 simp only[be,Zmu,rdV,rdA,List.foldl]
 rw[Int.fdiv_eq_ediv_of_nonneg _ (by decide),Int.fdiv_eq_ediv_of_nonneg _ (by decide),Int.fdiv_eq_ediv_of_nonneg _ (by decide),Int.fdiv_eq_ediv_of_nonneg _ (by decide)]
 simp
 omega
theorem ZdB (n:Int):∀ w,Byt (be n w)
 |0=>by intro x hx;simp[be]at hx
 |w+1=>by
  intro x hx
  rcases List.mem_cons.1 hx with rfl|hx
  ·rw[Zmu];omega
  ·exact ZdB n w x hx
theorem ZrR (s:ByteArray):Byt (ZfS s):=by
 intro x hx
 obtain⟨c,_,rfl⟩:=List.mem_map.1 hx
 have:=c.toNat_lt
 omega
theorem Byt.append {a b:List Int} (ha:Byt a) (hb:Byt b):Byt (a++b):=fun x hx=>by
 rcases List.mem_append.1 hx with h|h
 ·exact ha x h
 ·exact hb x h
theorem ZrQ (r:Record):Byt (enc r):=by
 unfold enc
 exact((((((((ZdB _ _).append (ZdB _ _)).append (ZdB _ _)).append (ZdB _ _)).append (ZdB _ _)).append (ZdB _ _)).append (ZdB _ _)).append (ZdB _ _)).append (ZrR _)
theorem Zm0 (r:Record):(enc r).take 1=be r.At.House 1∧((enc r).drop 1).take 2=be r.At.No 2∧((enc r).drop 3).take 1=be r.Kind 1∧((enc r).drop 4).take 4=be r.Day 4∧((enc r).drop 8).take 4=be r.Known 4∧
  ((enc r).drop 12).take 1=be r.Of.House 1∧((enc r).drop 13).take 2=be r.Of.No 2∧((enc r).drop 15).take 1=be (r.Text.size:Int) 1∧(enc r).drop 16=ZfS r.Text:=by
 unfold enc
 simp[be]
theorem Zgu {r:Record} (h:Zfw r=true):(0≤r.At.House∧r.At.House≤5)∧(0≤r.At.No∧r.At.No≤9999)∧(0≤r.Kind∧r.Kind≤40)∧(0≤r.Day∧r.Day≤100000)∧(0≤r.Known∧r.Known≤100000)∧(0≤r.Of.House∧r.Of.House≤5)∧(0≤r.Of.No∧r.Of.No≤9999):=by
 unfold Zfw Zg9 within at h
 simp only[Bool.and_eq_true,decide_eq_true_eq]at h
 obtain⟨⟨a1,a2⟩,a3,a4,a5,a6,h⟩:=h
 refine⟨a1,a2,a3,a4,a5,?_⟩
 by_cases hk:r.Kind=0
 ·simp only[hk,decide_true,Bool.not_true,cond_false,Bool.and_eq_true,decide_eq_true_eq]at h
  exact⟨h.2.2.1.1,h.2.2.1.2⟩
 ·simp only[hk,decide_false,Bool.not_false,cond_true,Bool.and_eq_true,decide_eq_true_eq]at h
  omega
theorem ZqI {r:Record} (ht:r.Text.size≤200):ZqB (enc r)=(r.Text.size:Int):=by
 unfold ZqB
 rw[(Zm0 r).2.2.2.2.2.2.2.1,rd1 (by omega) (by omega)]
theorem ZqO {r:Record} (h:Zfw r=true) (l:List Int):ZpF (enc r++l)=some (r,l):=by
 have ht:=ZgZ h
 have ZbW:=ZjK r
 obtain⟨b1,b2,b3,b4,b5,b6,b7⟩:=Zgu h
 obtain⟨p1,p2,p3,p4,p5,p6,p7,p8,p9⟩:=Zm0 r
 have T:∀ (i n:Nat),i+n≤16→((enc r++l).drop i).take n=((enc r).drop i).take n:=fun i n hi=>by
  rw[List.drop_append_of_le_length (by omega),List.take_append_of_le_length (by rw[List.length_drop];omega)]
 have hM:ZqB (enc r++l)=(r.Text.size:Int):=by
  have:=ZqI ht
  unfold ZqB at this ⊢
  rw[T 15 1 (by omega)];exact this
 have hd:(enc r++l).drop 16=ZfS r.Text++l:=by
  rw[List.drop_append_of_le_length (by omega),p9]
 unfold ZpF
 rw[if_neg (by rw[List.length_append];omega),hM,if_neg (by rw[List.length_append];omega),hd,Int.toNat_natCast]
 have hsl:=Zcv r.Text
 rw[List.take_append_of_le_length (by omega),List.drop_append_of_le_length (by omega),List.take_of_length_le (by omega),List.drop_of_length_le (by omega),List.nil_append]
 have t0:=T 0 1 (by omega)
 simp only[List.drop_zero]at t0
 unfold ZvO
 rw[t0,T 1 2 (by omega),T 3 1 (by omega),T 4 4 (by omega),T 8 4 (by omega),T 12 1 (by omega),T 13 2 (by omega),p1,p2,p3,p4,p5,p6,p7,
  rd1 b1.1 (by omega),rd2 b2.1 (by omega),rd1 b3.1 (by omega),rd4 b4.1 (by omega),rd4 b5.1 (by omega),rd1 b6.1 (by omega),rd2 b7.1 (by omega)]
 have hs:Zma (ZfS r.Text)=r.Text:=Zmo r.Text
 rw[hs]
end Go.Abs
namespace Go.Abs
open Go Go.Proofs
set_option maxRecDepth 20000
set_option linter.unusedVariables false
set_option linter.unusedSimpArgs false
def Zc0 (h:Vec 32 Int):List Int:=(h.l.drop 8).take 23
def ZrE (c:List Int):List Int:=c++List.replicate (23*ZbC c.length - c.length) 0
theorem Zr7 (n:Nat):n≤23*ZbC n:=by unfold ZbC;omega
theorem Zrj (c:List Int):(ZrE c).length=23*ZbC c.length:=by
 have:=Zr7 c.length
 unfold ZrE;simp;omega
theorem Zn4 (e n:Int) (c:List Int) {i:Nat} (hi:i<ZbC c.length):Zc0 (Zdk e n (ZbC c.length) c i)=((ZrE c).drop (23*i)).take 23:=by
 have hlt:=Zr8 hi
 unfold Zc0 Zdk ZgE ZrE
 simp only
 rw[Zd2,Zk4]
 simp only[List.cons_append,List.nil_append,List.append_assoc,List.drop_succ_cons,List.drop_zero]
 rw[List.drop_append_of_le_length (by omega),←List.append_assoc,List.take_append_of_le_length (by simp;omega),List.take_of_length_le (by simp;omega)]
 rw[List.take_append,List.take_replicate,List.length_drop]
 congr 2
 have:=Zr7 c.length
 omega
theorem Zr5 (P:List Int) (w:Nat):∀ n,((List.range n).map fun i=>(P.drop (w*i)).take w).flatten=P.take (w*n)
 |0=>by simp
 |n+1=>by
  rw[List.range_succ,List.map_append,List.flatten_append,Zr5 P w n]
  simp only[List.map_cons,List.map_nil,List.flatten_cons,List.flatten_nil,List.append_nil]
  rw[Nat.mul_succ,List.take_add]
theorem ZlL (e n:Int) (c:List Int):(((List.range (ZbC c.length)).map (Zdk e n (ZbC c.length) c)).map Zc0).flatten=ZrE c:=by
 have:(((List.range (ZbC c.length)).map (Zdk e n (ZbC c.length) c)).map Zc0)=(List.range (ZbC c.length)).map fun i=>((ZrE c).drop (23*i)).take 23:=by
  rw[List.map_map]
  apply List.map_congr_left
  intro i hi
  exact Zn4 e n c (List.mem_range.1 hi)
 rw[this,Zr5,←Zrj,List.take_length]
def Za5 (r:Record) (n e:Int):List (Vec 32 Int):=(List.range (ZbC (enc r).length)).map (Zdk e n (ZbC (enc r).length) (enc r))
theorem Zbi (r:Record) (n e:Int):(Za5 r n e).length=ZbC (enc r).length:=by simp[Za5]
theorem Zfn (r:Record):0<ZbC (enc r).length:=by rw[ZjK];unfold ZbC;omega
theorem rd3 {n:Int} (h0:0≤n) (h1:n<16777216):rdV (be n 3)=n:=by
 simp only[be,Zmu,rdV,rdA,List.foldl]
 rw[Int.fdiv_eq_ediv_of_nonneg _ (by decide),Int.fdiv_eq_ediv_of_nonneg _ (by decide),Int.fdiv_eq_ediv_of_nonneg _ (by decide)]
 simp
 omega
theorem ZiR (v w:Vec 32 Int):Vec.eq (fun(x y:Int)=>decide (x=y)) v w=true↔v=w:=by
 constructor
 ·intro h
  unfold Vec.eq at h
  rw[List.all_eq_true]at h
  apply Vec.ext
  apply List.ext_getElem (by rw[v.h,w.h])
  intro i h1 h2
  have:=h (v.l[i],w.l[i]) (List.mem_iff_getElem.2 ⟨i,by simp;omega,by simp⟩)
  simpa using this
 ·rintro rfl;exact Zr1 _
end Go.Abs
namespace Go.Abs
open Go Go.Proofs
set_option maxRecDepth 20000
set_option linter.unusedVariables false
set_option linter.unusedSimpArgs false
section
variable {α:Type} (key:α→Int×Int)
theorem ZpO:∀ {l:List α}{c:Int→Int},VL key c l↔∀ (i:Nat) x,l[i]?=some x→(key x).2=c (key x).1+cnt key (l.take i) (key x).1
 |[],c=>by simp[VL]
 |y::l,c=>by
  unfold VL
  rw[ZpO (l:=l)]
  constructor
  ·rintro⟨h1,h2⟩ i x hx
   cases i with
   |zero=>cases hx;rw[h1];simp[Zfb]
   |succ i=>
    rw[List.getElem?_cons_succ]at hx
    rw[h2 i x hx,List.take_succ_cons,Zca]
    by_cases e:(key x).1=(key y).1
    ·rw[if_pos e,if_pos e.symm];simp only[e];omega
    ·rw[if_neg e,if_neg (Ne.symm e)];omega
  ·intro h
   refine⟨?_,fun i x hx=>?_⟩
   ·have:=h 0 y rfl
    simpa [Zfb] using this
   ·have:=h (i+1) x (by rw[List.getElem?_cons_succ];exact hx)
    rw[this,List.take_succ_cons,Zca]
    by_cases e:(key x).1=(key y).1
    ·rw[if_pos e,if_pos e.symm];simp only[e];omega
    ·rw[if_neg e,if_neg (Ne.symm e)];omega
theorem Zt0 {l:List α} (h:∀ (i:Nat) x y,l[i]?=some x→l[i+1]?=some y→eLt (key x) (key y)):Srt key l:=by
 have key2:∀ (d i:Nat) x y,l[i]?=some x→l[i+1+d]?=some y→eLt (key x) (key y):=by
  intro d
  induction d with
  |zero=>exact h
  |succ d ih=>
   intro i x y hx hy
   have hl:=(gS.1 hy).1
   have hz:l[i+1+d]?=some (l[i+1+d]'(by omega)):=gG (by omega)
   exact Zix (ih i x _ hx hz) (h _ _ _ hz hy)
 unfold Srt
 rw[List.pairwise_iff_getElem]
 intro i j hi hj hij
 have:=key2 (j - i - 1) i l[i] l[j] (gG hi) (by rw[show i+1+(j - i - 1)=j by omega];exact gG hj)
 exact this
end
def Zj2 (l:List Record) (x:Record):Nat→Bool
 |0=>true
 |j+1=>match l[j]? with|none=>false|some y=>decide (eLt (Za2 y) (Za2 x))
def Zns (l:List Record) (i:Nat):Bool:=match l[i]? with
 |none=>false
 |some x=>Zfw x&&(Zj2 l x i&&decide (x.At.No=cnt Za2 (l.take i) x.At.House))
theorem Zre (l:List Record):(List.range l.length).all (Zns l)=true↔(∀ r∈l,Zfw r=true)∧Val Za2 l:=by
 rw[List.all_eq_true]
 constructor
 ·intro h
  have h':∀ (i:Nat) x,l[i]?=some x→Zns l i=true:=fun i x hx=>h i (List.mem_range.2 (gS.1 hx).1)
  refine⟨fun r hr=>?_,Zt0 Za2 (fun i x y hx hy=>?_),(ZpO Za2).2 fun i x hx=>?_⟩
  ·obtain⟨i,hi⟩:=List.mem_iff_getElem?.1 hr
   have:=h' i r hi
   unfold Zns at this
   rw[hi]at this
   simp only[Bool.and_eq_true]at this
   exact this.1
  ·have:=h' (i+1) y hy
   unfold Zns at this
   rw[hy]at this
   simp only[Zj2,hx,Bool.and_eq_true,decide_eq_true_eq]at this
   exact this.2.1
  ·have:=h' i x hx
   unfold Zns at this
   rw[hx]at this
   simp only[Bool.and_eq_true,decide_eq_true_eq]at this
   have h2:=this.2.2
   show x.At.No=0+_
   rw[Int.zero_add]
   exact h2
 ·rintro⟨h1,h2,h3⟩ i hi
  rw[List.mem_range]at hi
  have hx:l[i]?=some l[i]:=gG hi
  unfold Zns
  rw[hx]
  simp only[Bool.and_eq_true,decide_eq_true_eq]
  refine⟨h1 _ (List.getElem_mem hi),?_,?_⟩
  ·cases i with
   |zero=>rfl
   |succ j=>
    have hy:l[j]?=some l[j]:=gG (by omega)
    simp only[Zj2,hy,decide_eq_true_eq]
    exact List.pairwise_iff_getElem.1 h2 j (j+1) (by omega) hi (by omega)
  ·have:=(ZpO Za2).1 h3 i _ hx
   have h4:l[i].At.No=0+((cnt Za2 (l.take i) l[i].At.House:Nat):Int):=this
   omega
def ZnZ (l:List Record):Bool:=!decide ((60:Int)<(l.length:Int))&&(List.range l.length).all (Zns l)
theorem Zoa {l:List Record}:ZnZ l=true↔l.length≤60∧(∀ r∈l,Zfw r=true)∧Val Za2 l:=by
 unfold ZnZ
 rw[Bool.and_eq_true,Zre]
 simp only[Bool.not_eq_true',decide_eq_false_iff_not]
 constructor
 ·rintro⟨h1,h2⟩;exact⟨by omega,h2⟩
 ·rintro⟨h1,h2⟩;exact⟨by omega,h2⟩
theorem ZkR {S:Type} (p:Nat→Bool) (g:Nat→S):∀ (L:List Nat) (s:S),(L.foldlM (fun s i=>if p i then some (g i) else none) s).isSome=L.all p
 |[],s=>rfl
 |i::L,s=>by
  rw[List.foldlM_cons,List.all_cons]
  cases h:p i with
  |true=>simpa using ZkR p g L (g i)
  |false=>rfl
theorem Ztf {l:List Record}{i:Nat}{y:Record} (h:l[i]?=some y) (hi:i<1000):at? l (w64 (((i+1:Nat):Int) - 1))=some y:=by
 rw[ZaD (by omega) (by omega)]
 have e:((i+1:Nat):Int) - 1=(i:Int):=by omega
 rw[e];exact ZcV h
theorem Ziq {k:Nat} (hk:1000000<k) (b:Book):ZaO k b=some (bif ZnZ b.Records then 0 else 91):=by
 unfold ZaO ZnZ
 by_cases hl:(60:Int)<(b.Records.length:Int)
 ·simp[hl]
 ·simp only[decide_eq_false hl,cond_false,Bool.not_false,Bool.true_and]
  have h:=ZpA (n:=b.Records.length) (body:=ZaO.b0 k b) (fun i s=>(s,i)) (fun _=>()) (fun s i=>if Zns b.Records i then some (Zg0 (b.Records.take (i+1))) else none) (91:Int)
   (fun i s=>s=Zg0 (b.Records.take i)∧∀ r∈b.Records.take i,ZdH r) (by omega) (k:=k) (by omega) (s0:=Vec.rep 6 (0:Int)) ⟨rfl,by simp⟩ (fun i s hi hs=>by
   obtain⟨x,hx⟩:∃ x,b.Records[i]?=some x:=⟨_,gG hi⟩
   have e:b.Records.take (i+1)=b.Records.take i++[x]:=by rw[List.take_add_one,hx];rfl
   obtain⟨rfl,hh⟩:=hs
   have hc:=ZkA (b.Records.take i) x.At.House
   rw[List.length_take]at hc
   have hok:Zns b.Records i=(Zfw x&&(Zj2 b.Records x i&&decide (x.At.No=cnt Za2 (b.Records.take i) x.At.House))):=by
    unfold Zns;rw[hx]
   have hw:w64 (((cnt Za2 (b.Records.take i) x.At.House:Nat):Int)+1)=((cnt Za2 (b.Records.take i) x.At.House:Nat):Int)+1:=ZaD (by omega) (by omega)
   refine⟨?_,fun s' hs'=>?_⟩
   ·rw[hok]
    unfold ZaO.b0
    simp only[decide_eq_true (show (i:Int)<(b.Records.length:Int) by omega),cond_true,ZcV hx,Option.bind_some,Zdi (show 1000<k by omega)]
    cases hr:Zfw x with
    |false=>rfl
    |true=>
     have hho:=Zck hr
     simp only[cond_true,Bool.true_and,Ziu _ hho.1 hho.2,Option.bind_some,hw,Zmz _ _ hho.1 hho.2,←e]
     cases i with
     |zero=>
      simp only[(by decide:decide ((0:Int)<((0:Nat):Int))=false),cond_false,Zj2,Bool.true_and]
      by_cases hn:x.At.No=((cnt Za2 (b.Records.take 0) x.At.House:Nat):Int)
      ·simp only[decide_eq_true hn,Bool.not_true,cond_false,if_true]
      ·simp only[decide_eq_false hn,Bool.not_false,cond_true,Bool.false_eq_true,if_false]
     |succ j=>
      obtain⟨y,hy⟩:∃ y,b.Records[j]?=some y:=⟨_,gG (by omega)⟩
      have hcl:=Zoy y.At x.At
      have hkk:Zgg y.At=Za2 y:=rfl
      have hkk2:Zgg x.At=Za2 x:=rfl
      rw[hkk,hkk2]at hcl
      simp only[(by simp:decide ((0:Int)<((j+1:Nat):Int))=true),cond_true,Ztf hy (by omega),Option.bind_some,Ze7 (show 10<k by omega),Zj2,hy]
      by_cases hlt:eLt (Za2 y) (Za2 x)
      ·have hneg:=hcl.2 hlt
       simp only[decide_eq_false (show ¬ (0:Int)≤Zow y.At x.At by omega),Bool.not_false,cond_true,decide_eq_true hlt,Bool.true_and]
       by_cases hn:x.At.No=((cnt Za2 (b.Records.take (j+1)) x.At.House:Nat):Int)
       ·simp only[decide_eq_true hn,Bool.not_true,cond_false,if_true]
       ·simp only[decide_eq_false hn,Bool.not_false,cond_true,Bool.false_eq_true,if_false]
      ·have hneg:(0:Int)≤Zow y.At x.At:=by
        have:=mt hcl.1 hlt;omega
       simp only[decide_eq_true hneg,Bool.not_true,cond_false,decide_eq_false hlt,Bool.false_and,Bool.false_eq_true,if_false]
   ·cases ho:Zns b.Records i with
    |false=>rw[ho]at hs';cases hs'
    |true=>
     rw[ho]at hs'
     have:Zg0 (b.Records.take (i+1))=s':=oi hs'
     refine⟨this.symm,fun r hr=>?_⟩
     rw[e,List.mem_append,List.mem_singleton]at hr
     rcases hr with hr|rfl
     ·exact hh r hr
     ·rw[hok]at ho
      simp only[Bool.and_eq_true]at ho
      exact Zck ho.1) (fun s hs=>by
   unfold ZaO.b0
   simp only[(by simp:decide ((b.Records.length:Int)<(b.Records.length:Int))=false),cond_false])
  have h1:=h.1
  rw[h1]
  have h2:=ZkR (Zns b.Records) (fun i=>Zg0 (b.Records.take (i+1))) (List.range b.Records.length) (Vec.rep 6 (0:Int))
  cases hq:(List.range b.Records.length).foldlM (fun s i=>if Zns b.Records i then some (Zg0 (b.Records.take (i+1))) else none) (Vec.rep 6 (0:Int)) with
  |none=>rw[hq]at h2;rw[←h2];rfl
  |some s=>rw[hq]at h2;rw[←h2];rfl
end Go.Abs
namespace Go.Abs
open Go Go.Proofs
set_option maxRecDepth 20000
set_option linter.unusedVariables false
set_option linter.unusedSimpArgs false
def ZjC (l:List Record) (r:Record):List Record×Int:=match ZeX Za2 l (Za2 r) with
 |some x=>if x=r then (l,0) else ([],92)
 |none=>if (cnt Za2 l r.At.House:Int)<r.At.No then ([],93) else if (l.length:Int)=60 then ([],2) else (Zjz Za2 l r,0)
theorem Ze3 {k:Nat} (hk:1000000<k) {b:Book} (hs:Srt Za2 b.Records) (hl:b.Records.length≤900) (hh:∀ r∈b.Records,ZdH r) (r:Record):
  Zc6 k b r=some (bif Zfw r then (⟨(ZjC b.Records r).1⟩,(ZjC b.Records r).2) else (⟨[]⟩,90)):=by
 unfold Zc6
 rw[Zdi (by omega)]
 simp only[Option.bind_some]
 cases hr:Zfw r with
 |false=>rfl
 |true=>
  have hho:=Zck hr
  have hkk:Zgg r.At=Za2 r:=rfl
  simp only[Bool.not_true,cond_false,cond_true,Zng (show 10000<k by omega) hs (show b.Records.length≤1000 by omega),Option.bind_some,hkk]
  unfold ZjC
  cases hf:ZeX Za2 b.Records (Za2 r) with
  |some x=>
   have hp:=ZkN Za2 hs (Za2 r)
   rw[hf]at hp
   have hx:b.Records[pos Za2 b.Records (Za2 r)]?=some x:=by
    cases hq:b.Records[pos Za2 b.Records (Za2 r)]? with
    |none=>rw[hq]at hp;cases hp
    |some y=>
     rw[hq]at hp
     simp only[Option.filter]at hp
     split at hp
     ·exact hp.symm
     ·cases hp
   simp only[Option.isSome_some,cond_true,ZcV hx,Option.bind_some]
   by_cases e:x=r
   ·subst e
    have:=ZnE x
    unfold Zlw at this
    rw[this]
    simp only[cond_true,ZdP (show b.Records.length≤1000 by omega),Option.bind_some,if_true]
   ·have:=Zru e
    unfold Zlw at this
    rw[this]
    simp only[cond_false,if_neg e]
  |none=>
   simp only[Option.isSome_none,cond_false,Zjp hk (show b.Records.length≤100000 by omega) hh,Option.bind_some,Ziu _ hho.1 hho.2]
   by_cases hc:((cnt Za2 b.Records r.At.House:Nat):Int)<r.At.No
   ·simp only[decide_eq_true hc,cond_true,if_pos hc]
   ·simp only[decide_eq_false hc,cond_false,if_neg hc]
    by_cases h60:(b.Records.length:Int)=60
    ·simp only[decide_eq_true h60,cond_true,if_pos h60]
    ·simp only[decide_eq_false h60,cond_false,if_neg h60,Zis (show b.Records.length≤1000 by omega),Option.bind_some,Zli (show b.Records.length≤1000 by omega)]
end Go.Abs
namespace Go.Abs
open Go Go.Proofs
set_option maxRecDepth 20000
set_option linter.unusedVariables false
set_option linter.unusedSimpArgs false
theorem ZiO {α:Type}{l:List α}{i:Nat}{x:α} (h:l[i]?=some x):l.take (i+1)=l.take i++[x]:=by
 rw[List.take_add_one,h];rfl
end Go.Abs
namespace Go.Abs
open Go Go.Proofs
set_option maxRecDepth 20000
set_option linter.unusedVariables false
set_option linter.unusedSimpArgs false
theorem ZcM (k:Nat) (n:Int) {m:Int} (h0:0<m) (h1:m≤4611686018427387904):Zc1 k n m=some (n % m):=by
 unfold Zc1 nz?
 rw[if_neg (by omega)]
 simp only[Option.bind_some]
 have b1:Int.tmod n m<m:=Int.tmod_lt_of_pos n h0
 have b2:-m<Int.tmod n m:=by
  rcases Int.le_total 0 n with h|h
  ·have:=Int.tmod_nonneg m h
   omega
  ·have:=Int.tmod_lt_of_pos (-n) h0
   rw[Int.neg_tmod]at this
   omega
 have e1:Int.tmod n m % m=n % m:=by
  have:=Int.mul_tdiv_add_tmod n m
  rw[←this,Int.add_comm,Int.add_mul_emod_self_left]
  congr 1
  have e:=Int.mul_tdiv_add_tmod n m
  rw[Int.add_comm]at e
  rw[e]
 rw[ZaD (by omega) (by omega),Int.tmod_eq_emod_of_nonneg (by omega),Int.add_emod_right,e1]
theorem Zen (n:Int) {m:Int} (h0:0<m):0≤n % m∧n % m<m:=⟨Int.emod_nonneg _ (by omega),Int.emod_lt_of_pos _ h0⟩
theorem ZvZ (v:Vec 5 Int):∃ a b c d e,v=⟨[a,b,c,d,e],rfl⟩:=by
 obtain⟨l,h⟩:=v
 match l,h with
 |[a,b,c,d,e],h=>exact⟨a,b,c,d,e,rfl⟩
end Go.Abs
namespace Go.Abs
open Go Go.Proofs
set_option maxRecDepth 20000
set_option linter.unusedVariables false
set_option linter.unusedSimpArgs false
def Zvy:Record:=⟨⟨0,0⟩,0,0,0,⟨0,0⟩,ByteArray.empty⟩
end Go.Abs
namespace Go.Abs
open Go Go.Proofs
set_option maxRecDepth 20000
set_option linter.unusedVariables false
set_option linter.unusedSimpArgs false
abbrev Hf:=Vec 32 Int
abbrev Pg:=Vec 2 Hf
def hz:Hf:=Vec.rep 32 0
def hf (p:List Pg) (a i:Nat):Hf:=match p[301*a+i / 2]? with
 |some g=>(g.l[i % 2]?).getD hz
 |none=>hz
theorem Zp3 (g:Pg) (i:Nat):g.at? ((i % 2:Nat):Int)=some ((g.l[i % 2]?).getD hz):=by
 have h:=g.h
 have hi:i % 2<g.l.length:=by omega
 unfold Vec.at?
 rw[if_pos (by omega),Int.toNat_natCast,gG hi];rfl
theorem ZtP {p:List Pg} (hp:p.length=602) {a i:Nat} (ha:a≤1) (hi:i<602):w64 ((w64 ((a:Int)*301))+(w64 (Int.tdiv (i:Int) 2)))=((301*a+i / 2:Nat):Int):=by
 have e:Int.tdiv (i:Int) 2=((i / 2:Nat):Int):=by
  rw[show (2:Int)=((2:Nat):Int) from rfl,←Int.ofNat_tdiv]
 rw[e,ZaD (n:=(a:Int)*301) (by omega) (by omega),ZaD (n:=((i / 2:Nat):Int)) (by omega) (by omega),ZaD (by omega) (by omega)]
 omega
theorem ZsL (i:Nat):Int.tmod (i:Int) 2=((i % 2:Nat):Int):=by
 rw[show (2:Int)=((2:Nat):Int) from rfl,←Int.ofNat_tmod]
theorem Zhl (k:Nat) {p:List Pg} (hp:p.length=602) (w:List Write) {a i:Nat} (ha:a≤1) (hi:i<602):ZaU k ⟨⟨p,w⟩⟩ (a:Int) (i:Int)=some (hf p a i):=by
 unfold ZaU hf
 have hx:p[301*a+i / 2]?=some (p[301*a+i / 2]'(by omega)):=gG (by omega)
 simp only[ZtP hp ha hi,ZcV hx,Option.bind_some,ZsL,Zp3,hx]
theorem ZoJ {n b:Int}{s:Nat} (hs:s≤32) (h0:0≤n) (h1:n<1073741824) (h2:0≤b) (h3:b<2 ^ s):bOr .i64 (n*2 ^ s) b=n*2 ^ s+b:=by
 obtain⟨m,rfl⟩:=Int.eq_ofNat_of_zero_le h0
 obtain⟨c,rfl⟩:=Int.eq_ofNat_of_zero_le h2
 have hp:(2:Nat) ^ s≤2 ^ 32:=Nat.pow_le_pow_right (by decide) hs
 have hc:c<2 ^ s:=by
  have:((2:Int) ^ s)=((2 ^ s:Nat):Int):=by push_cast;rfl
  rw[this]at h3;omega
 have hm:m<4294967296:=by omega
 have hmp:m*2 ^ s<4294967296*4294967296:=Nat.mul_lt_mul_of_lt_of_le hm hp (by decide)
 have e:((m:Int)*2 ^ s)=((m*2 ^ s:Nat):Int):=by push_cast;rfl
 rw[e]
 unfold bOr
 have t:∀ x:Nat,x<18446744073709551616→(BitVec.ofInt IntKind.i64.bits (x:Int)).toNat=x:=fun x hx=>by
  rw[BitVec.toNat_ofInt]
  have:(x:Int) % ((2 ^ IntKind.i64.bits:Nat):Int)=(x:Int):=by
   rw[show ((2 ^ IntKind.i64.bits:Nat):Int)=18446744073709551616 from rfl];omega
  rw[this];omega
 have hm2:m*2 ^ s<9223372036854775808 - 4294967296:=by
  have:m*2 ^ s≤m*4294967296:=Nat.mul_le_mul_left _ hp
  omega
 rw[BitVec.toNat_or,t _ (by omega),t _ (by omega)]
 have:=Nat.shiftLeft_add_eq_or_of_lt hc m
 rw[Nat.shiftLeft_eq]at this
 rw[←this]
 exact ZaD (by omega) (by omega)
theorem Zkg {x:Int} (h:0≤x∧x<256) (s:Nat) (hs:s≤16):w64 ((w64 x)*2 ^ s)=x*2 ^ s:=by
 have hp:(2:Int) ^ s≤65536:=by
  have:(2:Nat) ^ s≤2 ^ 16:=Nat.pow_le_pow_right (by decide) hs
  have e:((2:Int) ^ s)=((2 ^ s:Nat):Int):=by push_cast;rfl
  rw[e];omega
 have hp0:(0:Int)<2 ^ s:=Int.pow_pos (by decide)
 have h1:x*2 ^ s≤255*65536:=Int.mul_le_mul (by omega) hp (by omega) (by omega)
 have h2:0≤x*2 ^ s:=Int.mul_nonneg h.1 (by omega)
 rw[ZaD (n:=x) (by omega) (by omega),ZaD (by omega) (by omega)]
theorem or3 {a b c:Int} (ha:0≤a∧a<256) (hb:0≤b∧b<256) (hc:0≤c∧c<256):
  bOr .i64 (bOr .i64 (w64 ((w64 a)*2 ^ 16)) (w64 ((w64 b)*2 ^ 8))) (w64 c)=rdV [a,b,c]:=by
 rw[Zkg ha 16 (by decide),Zkg hb 8 (by decide),ZoJ (s:=16) (by decide) ha.1 (by omega) (by omega) (by omega),ZaD (n:=c) (by omega) (by omega)]
 have e:a*2 ^ 16+b*2 ^ 8=(a*256+b)*2 ^ 8:=by omega
 rw[e,ZoJ (s:=8) (by decide) (by omega) (by omega) hc.1 (by omega)]
 simp[rdV,rdA]
theorem or2 {a b:Int} (ha:0≤a∧a<256) (hb:0≤b∧b<256):bOr .i64 (w64 ((w64 a)*2 ^ 8)) (w64 b)=rdV [a,b]:=by
 rw[Zkg ha 8 (by decide),ZaD (n:=b) (by omega) (by omega),ZoJ (s:=8) (by decide) ha.1 (by omega) hb.1 (by omega)]
 simp[rdV,rdA]
def bt (h:Hf) (i:Nat):Int:=(h.l[i]?).getD 0
theorem Zk6 (h:Hf) {i:Nat} (hi:i<32):h.at? (i:Int)=some (bt h i):=by
 have hl:=h.h
 unfold Vec.at? bt
 rw[if_pos (by omega),Int.toNat_natCast,gG (by omega)];rfl
theorem Zip {h:Hf} (hb:Byt h.l) (i:Nat):0≤bt h i∧bt h i<256:=by
 unfold bt
 cases hq:h.l[i]? with
 |none=>simp
 |some x=>exact hb x (List.mem_of_getElem? hq)
def epH (h:Hf):Int:=
 if (bt h 0=104∨bt h 0=112)∧bt h 31=165∧rdV [bt h 1,bt h 2,bt h 3]≤1000000 then rdV [bt h 1,bt h 2,bt h 3] else 0
theorem Zne {h:Hf} (hb:Byt h.l):0≤epH h∧epH h≤1000000:=by
 unfold epH
 have:=Zj5 (l:=[bt h 1,bt h 2,bt h 3]) (by
  intro x hx
  simp only[List.mem_cons,List.not_mem_nil,or_false]at hx
  rcases hx with rfl|rfl|rfl<;>exact Zip hb _)
 split
 ·rename_i hc;exact⟨this.1,hc.2.2⟩
 ·omega
theorem Ze8 (k:Nat) {h:Hf} (hb:Byt h.l):Zbd k h=some (epH h):=by
 have h0:=Zk6 h (i:=0) (by decide)
 have h1:=Zk6 h (i:=1) (by decide)
 have h2:=Zk6 h (i:=2) (by decide)
 have h3:=Zk6 h (i:=3) (by decide)
 have h31:=Zk6 h (i:=31) (by decide)
 have e0:h.at? 0=some (bt h 0):=h0
 have e1:h.at? 1=some (bt h 1):=h1
 have e2:h.at? 2=some (bt h 2):=h2
 have e3:h.at? 3=some (bt h 3):=h3
 have e31:h.at? 31=some (bt h 31):=h31
 unfold Zbd epH
 simp only[e0,e1,e2,e3,e31,Option.bind_some,or3 (Zip hb 1) (Zip hb 2) (Zip hb 3)]
 by_cases a:bt h 0=104
 ·have a2:¬ bt h 0=112:=by omega
  by_cases c:bt h 31=165
  ·by_cases d:(1000000:Int)<rdV [bt h 1,bt h 2,bt h 3]
   ·simp[a,c,d,show ¬ rdV [bt h 1,bt h 2,bt h 3]≤1000000 by omega]
   ·simp[a,c,d,show rdV [bt h 1,bt h 2,bt h 3]≤1000000 by omega]
  ·simp[a,c]
 ·by_cases b:bt h 0=112
  ·by_cases c:bt h 31=165
   ·by_cases d:(1000000:Int)<rdV [bt h 1,bt h 2,bt h 3]
    ·simp[b,c,d,show ¬ rdV [bt h 1,bt h 2,bt h 3]≤1000000 by omega]
    ·simp[b,c,d,show rdV [bt h 1,bt h 2,bt h 3]≤1000000 by omega]
   ·simp[b,c]
  ·simp[a,b]
def PgB (p:List Pg):Prop:=∀ g∈p,∀ h∈g.l,Byt h.l
theorem PgB.hf {p:List Pg} (hp:PgB p) (a i:Nat):Byt (hf p a i).l:=by
 have hzb:Byt hz.l:=by
  intro x hx
  have:x=0:=by
   simp only[hz,Vec.rep,List.mem_replicate]at hx
   exact hx.2
  omega
 unfold Go.Abs.hf
 cases hq:p[301*a+i / 2]? with
 |none=>exact hzb
 |some g=>
  simp only
  cases hr:g.l[i % 2]? with
  |none=>exact hzb
  |some h=>exact hp g (List.mem_of_getElem? hq) h (List.mem_of_getElem? hr)
def dOK (d:Disk):Bool:=decide (d.Pages.length=602)&&(decide (d.Wait.length≤1200)&&d.Wait.all fun w=>within w.At 0 601)
theorem ZdU {k:Nat} (hk:1000000<k) (d:Disk):Zcj k d=some (dOK d):=by
 unfold Zcj dOK
 by_cases h1:d.Pages.length=602
 ·have e1:decide ((d.Pages.length:Int)=602)=true:=decide_eq_true (by omega)
  by_cases h2:d.Wait.length≤1200
  ·have e2:decide ((d.Wait.length:Int)≤1200)=true:=decide_eq_true (by omega)
   have hloop:=Zl2 (body:=Zak.b0 k (fun q0=>Zcm k q0) d.Wait) (n:=d.Wait.length) (f:=fun i=>match d.Wait[i]? with|some w=>bif within w.At 0 601 then none else some (i:Int)|none=>none) (by omega) (k:=k) (by omega) (fun i hi=>by
    obtain⟨w,hw⟩:∃ w,d.Wait[i]?=some w:=⟨_,gG hi⟩
    unfold Zak.b0 Zcm
    simp only[decide_eq_true (show (i:Int)<(d.Wait.length:Int) by omega),cond_true,ZcV hw,Option.bind_some,ZbV,hw]
    cases within w.At 0 601<;>rfl) (by
    unfold Zak.b0
    simp only[(by simp:decide ((d.Wait.length:Int)<(d.Wait.length:Int))=false),cond_false])
   simp only[e1,e2,cond_true,h1,h2,decide_true,Bool.true_and]
   unfold ZaX Zak
   rw[hloop]
   simp only[Option.bind_some]
   cases hq:(List.range d.Wait.length).findSome? (fun i=>match d.Wait[i]? with|some w=>bif within w.At 0 601 then none else some (i:Int)|none=>none) with
   |none=>
    have:d.Wait.all (fun w=>within w.At 0 601)=true:=by
     rw[List.all_eq_true]
     intro w hw
     obtain⟨i,hi⟩:=List.mem_iff_getElem?.1 hw
     rw[List.findSome?_eq_none_iff]at hq
     have:=hq i (List.mem_range.2 (gS.1 hi).1)
     rw[hi]at this
     simp only at this
     cases hb:within w.At 0 601 with
     |true=>rfl
     |false=>rw[hb]at this;cases this
    rw[this];rfl
   |some r=>
    obtain⟨i,hi,hf⟩:=List.exists_of_findSome?_eq_some hq
    obtain⟨w,hw⟩:∃ w,d.Wait[i]?=some w:=⟨_,gG (List.mem_range.1 hi)⟩
    rw[hw]at hf
    simp only at hf
    have hb:within w.At 0 601=false:=by
     cases hb:within w.At 0 601 with
     |false=>rfl
     |true=>rw[hb]at hf;cases hf
    rw[hb]at hf
    have hr:(i:Int)=r:=oi hf
    have:d.Wait.all (fun w=>within w.At 0 601)=false:=by
     rw[List.all_eq_false]
     exact⟨w,List.mem_of_getElem? hw,by rw[hb];decide⟩
    rw[this]
    simp only[Option.bind_some]
    rw[decide_eq_true (show (0:Int)≤r by omega)]
    rfl
  ·have e2:decide ((d.Wait.length:Int)≤1200)=false:=decide_eq_false (by omega)
   simp[e1,e2,h1,h2]
 ·have e1:decide ((d.Pages.length:Int)=602)=false:=decide_eq_false (by omega)
  simp[e1,h1]
end Go.Abs
namespace Go.Abs
open Go Go.Proofs
set_option maxRecDepth 20000
set_option linter.unusedVariables false
set_option linter.unusedSimpArgs false
theorem ZkE {k:Nat}{d:Disk} (h:d.Pages.length≤100000000∧d.Wait.length≤100000000):Zbn k d=some ⟨d⟩:=by
 unfold Zbn Zb8 Zby ZhQ
 rw[if_pos ⟨by omega,by omega⟩,if_pos ⟨by omega,by omega⟩]
 rfl
theorem Zeb {d:Disk}:dOK d=true↔d.Pages.length=602∧d.Wait.length≤1200∧∀ w∈d.Wait,0≤w.At∧w.At≤601:=by
 unfold dOK within
 simp only[Bool.and_eq_true,decide_eq_true_eq,List.all_eq_true]
theorem Zdj {k:Nat}{d:Disk} (h:dOK d=true):Zbn k d=some ⟨d⟩:=by
 obtain⟨h1,h2,_⟩:=Zeb.1 h
 exact ZkE ⟨by omega,by omega⟩
def mend (p:List Pg) (w:List Write):List Pg:=w.foldl (fun p x=>p.set x.At.toNat x.Page) p
theorem Zrb (w:List Write):∀ p:List Pg,(mend p w).length=p.length:=by
 induction w with
 |nil=>intro p;rfl
 |cons x w ih=>intro p;exact(ih _).trans (by simp)
theorem ZfK {k:Nat} (hk:1000000<k) {d:Disk} (h:dOK d=true):Zax k ⟨d⟩=some ⟨⟨mend d.Pages d.Wait,[]⟩⟩:=by
 obtain⟨h1,h2,h3⟩:=Zeb.1 h
 unfold Zax
 have hf:=Zg7 (l:=d.Wait) (body:=Zax.b0 k ⟨d⟩) (fun i s=>(i,s)) (fun p x=>p.set x.At.toNat x.Page) (fun i s=>s.length=602) (by omega) (k:=k) (by omega) (s0:=d.Pages) h1 (fun i x s hx hs=>by
  have hi:=(gS.1 hx).1
  have hb:=h3 x (List.mem_of_getElem? hx)
  refine⟨?_,by simp[hs]⟩
  unfold Zax.b0
  have ha:at? s x.At=some (s[x.At.toNat]'(by omega)):=by
   unfold at?
   rw[if_pos ⟨by omega,by omega⟩,gG (by omega)]
  have hset:ZlT s x.At x.Page=some (s.set x.At.toNat x.Page):=by
   unfold ZlT
   rw[if_pos ⟨by omega,by omega⟩]
  simp only[decide_eq_true (show (i:Int)<(d.Wait.length:Int) by omega),cond_true,ZcV hx,Option.bind_some,ha,hset]) (fun s hs=>by
  unfold Zax.b0
  simp only[(by simp:decide ((d.Wait.length:Int)<(d.Wait.length:Int))=false),cond_false])
 rw[hf.1]
 rfl
theorem Zmq {k:Nat} (hk:1000000<k) {d:Disk} (h:dOK d=true):Zfd k d=some ⟨mend d.Pages d.Wait,[]⟩:=by
 unfold Zfd
 rw[Zdj h,ZdU hk,h]
 simp only[Option.bind_some,Bool.not_true,cond_false]
 rw[ZfK hk h]
 rfl
def mx (p:List Pg) (a from_:Nat):Int:=(List.range' from_ (602 - from_)).foldl (fun m i=>max m (epH (hf p a i))) 0
theorem ZhE {f:Nat→Int}:∀ (l:List Nat) (z E:Int),l.foldl (fun m i=>max m (f i)) z≤E↔z≤E∧∀ i∈l,f i≤E
 |[],z,E=>by simp
 |x::l,z,E=>by
  rw[List.foldl_cons,ZhE l]
  simp only[Int.max_le,and_assoc,List.mem_cons,forall_eq_or_imp]
theorem Zln {p:List Pg}{a from_:Nat}{E:Int}:mx p a from_≤E↔0≤E∧∀ i,from_≤i→i<602→epH (hf p a i)≤E:=by
 unfold mx
 rw[ZhE]
 constructor
 ·rintro⟨h1,h2⟩
  exact⟨h1,fun i h3 h4=>h2 i (by rw[List.mem_range'_1];omega)⟩
 ·rintro⟨h1,h2⟩
  exact⟨h1,fun i hi=>h2 i (by rw[List.mem_range'_1]at hi;omega) (by rw[List.mem_range'_1]at hi;omega)⟩
theorem ZgU (p:List Pg) (a from_:Nat):0≤mx p a from_:=(Zln.1 (Int.le_refl _)).1
theorem ZcG {k:Nat} (hk:1000000<k) {p:List Pg} (hp:p.length=602) (hb:PgB p) (w:List Write) {a:Nat} (ha:a≤1) (from_:Nat):Zap k ⟨⟨p,w⟩⟩ (a:Int) (from_:Int)=some (mx p a from_):=by
 unfold Zap mx
 have key:∀ (d i m:Nat) (z:Int),602 - i=d→d<m→whl (Zap.b0 k ⟨⟨p,w⟩⟩ (a:Int)) m (z,(i:Int))=some (.brk ((List.range' i d).foldl (fun m i=>max m (epH (hf p a i))) z)):=by
  intro d
  induction d with
  |zero=>
   intro i m z h1 h2
   obtain⟨m,rfl⟩:∃ q,m=q+1:=⟨m - 1,by omega⟩
   have hbo:Zap.b0 k ⟨⟨p,w⟩⟩ (a:Int) (z,(i:Int))=some (.brk z):=by
    unfold Zap.b0
    simp only[decide_eq_false (show ¬ (i:Int)<602 by omega),cond_false]
   simp only[whl,hbo]
   rfl
  |succ d ih=>
   intro i m z h1 h2
   obtain⟨m,rfl⟩:∃ q,m=q+1:=⟨m - 1,by omega⟩
   have hw:w64 ((i:Int)+1)=((i+1:Nat):Int):=by rw[ZaD (by omega) (by omega)];omega
   have hbo:Zap.b0 k ⟨⟨p,w⟩⟩ (a:Int) (z,(i:Int))=some (.next (max z (epH (hf p a i)),((i+1:Nat):Int))):=by
    unfold Zap.b0
    simp only[decide_eq_true (show (i:Int)<602 by omega),cond_true,Zhl k hp w ha (show i<602 by omega),Option.bind_some,Ze8 k (hb.hf a i),hw]
   simp only[whl,hbo]
   rw[List.range'_succ,List.foldl_cons]
   exact ih (i+1) m _ (by omega) (by omega)
 have:=key (602 - from_) from_ k 0 rfl (by omega)
 rw[this]
 rfl
def Zv1 (p:List Pg) (a from_:Nat) (l:List Hf):Prop:=from_+l.length≤602∧∀ (i:Nat) x,l[i]?=some x→hf p a (from_+i)=x
instance:DecidableEq Hf:=fun a b=>decidable_of_iff (Vec.eq (fun(x y:Int)=>decide (x=y)) a b=true) (ZiR a b)
def ZtF (p:List Pg) (a from_:Nat) (l:List Hf):Bool:=(List.range l.length).all fun i=>match l[i]? with|some x=>decide (hf p a (from_+i)=x)|none=>true
theorem ZmJ {p:List Pg}{a from_:Nat}{l:List Hf}:ZtF p a from_ l=true↔∀ (i:Nat) x,l[i]?=some x→hf p a (from_+i)=x:=by
 unfold ZtF
 rw[List.all_eq_true]
 constructor
 ·intro h i x hx
  have:=h i (List.mem_range.2 (gS.1 hx).1)
  rw[hx]at this
  simpa using this
 ·intro h i hi
  cases hq:l[i]? with
  |none=>rfl
  |some x=>simpa using h i x hq
def Zhz (p:List Pg) (a from_:Nat) (n:Nat):Option (Record×Int×Nat):=
 if 602≤from_ then none else if epH (hf p a from_)=0∨602<from_+(bt (hf p a from_) 7).toNat then none else
 match ZpF ((List.range (bt (hf p a from_) 7).toNat).map fun i=>Zc0 (hf p a (from_+i))).flatten with
 |none=>none
 |some q=>if Zfw q.1=true∧(Za5 q.1 n (epH (hf p a from_))).length=(bt (hf p a from_) 7).toNat∧ZtF p a from_ (Za5 q.1 n (epH (hf p a from_)))=true then some (q.1,epH (hf p a from_),(bt (hf p a from_) 7).toNat) else none
theorem Zoj {h:Hf} (hb:Byt h.l):Byt (Zc0 h):=(hb.drop 8).take 23
theorem Zqf {l:List (List Int)} (h:∀ x∈l,Byt x):Byt l.flatten:=fun x hx=>by
 obtain⟨y,hy,hx⟩:=List.mem_flatten.1 hx
 exact h y hy x hx
theorem Zpi {k:Nat} (hk:1000000<k) {p:List Pg} (hp:p.length=602) (hb:PgB p) (w:List Write) {a:Nat} (ha:a≤1) (from_ n:Nat) (hfr:from_≤100000):
  Zai k ⟨⟨p,w⟩⟩ (a:Int) (from_:Int) (n:Int)=some (match Zhz p a from_ n with|some q=>(q.1,q.2.1,(q.2.2:Int))|none=>(Zvy,0,0)):=by
 unfold Zai Zhz
 by_cases h1:602≤from_
 ·simp only[decide_eq_true (show (602:Int)≤(from_:Int) by omega),cond_true,if_pos h1]
  rfl
 ·have hb0:=Zip (hb.hf a from_) 7
  obtain⟨m,hm⟩:=Int.eq_ofNat_of_zero_le hb0.1
  have hmN:(bt (hf p a from_) 7).toNat=m:=by rw[hm];rfl
  have e7:(hf p a from_).at? 7=some (m:Int):=by have:=Zk6 (hf p a from_) (i:=7) (by decide);rw[hm]at this;exact this
  have wm:w64 (m:Int)=(m:Int):=ZaD (by omega) (by omega)
  have wfm:w64 ((from_:Int)+(m:Int))=((from_+m:Nat):Int):=by rw[ZaD (by omega) (by omega)];omega
  rw[hmN]
  simp only[decide_eq_false (show ¬ (602:Int)≤(from_:Int) by omega),cond_false,if_neg h1,Zhl k hp w ha (show from_<602 by omega),Option.bind_some,Ze8 k (hb.hf a from_),e7,wm,wfm]
  by_cases he:epH (hf p a from_)=0
  ·rw[if_pos (Or.inl he)]
   simp only[decide_eq_true he,Bool.not_true,cond_false]
   rfl
  ·simp only[decide_eq_false he,Bool.not_false,cond_true]
   by_cases h2:602<from_+m
   ·simp only[decide_eq_true (show (602:Int)<((from_+m:Nat):Int) by omega),cond_true,if_pos (Or.inr h2)]
    rfl
   ·simp only[decide_eq_false (show ¬ (602:Int)<((from_+m:Nat):Int) by omega),cond_false,if_neg (show ¬ (epH (hf p a from_)=0∨602<from_+m) from fun c=>c.elim he h2)]
    have hw0:=Zl3 (n:=m) (body:=Zai.b0 k ⟨⟨p,w⟩⟩ (a:Int) (from_:Int) (m:Int)) (fun i s=>(i,s)) (fun s i=>s++Zc0 (hf p a (from_+i))) (fun i s=>s.length=23*i) (by omega) (k:=k) (by omega) (s0:=[]) rfl (fun i s hi hs=>by
     have hl:=(hf p a (from_+i)).h
     have hpl:(Zc0 (hf p a (from_+i))).length=23:=by unfold Zc0;simp[hl]
     have wfi:w64 ((from_:Int)+(i:Int))=((from_+i:Nat):Int):=by rw[ZaD (by omega) (by omega)];omega
     refine⟨?_,by simp[hs,hpl];omega⟩
     unfold Zai.b0
     simp only[wm,decide_eq_true (show (i:Int)<(m:Int) by omega),cond_true,wfi,Zhl k hp w ha (show from_+i<602 by omega),Option.bind_some]
     rw[show (List.take 23 (List.drop 8 (hf p a (from_+i)).l))=Zc0 (hf p a (from_+i)) from rfl,Zkt (by omega) (by omega)]
     rfl) (fun s hs=>by
     unfold Zai.b0
     simp only[wm,(by simp:decide ((m:Int)<(m:Int))=false),cond_false])
    have hfl:∀ (L:List Nat) (s:List Int),L.foldl (fun s i=>s++Zc0 (hf p a (from_+i))) s=s++(L.map fun i=>Zc0 (hf p a (from_+i))).flatten:=by
     intro L
     induction L with
     |nil=>intro s;simp
     |cons x L ih=>intro s;rw[List.foldl_cons,ih];simp
    have hw1:=hw0.1
    rw[hfl,List.nil_append]at hw1
    rw[hw1]
    simp only[Option.bind_some]
    have hbf:Byt ((List.range m).map fun i=>Zc0 (hf p a (from_+i))).flatten:=Zqf (by
     intro x hx
     obtain⟨i,_,rfl⟩:=List.mem_map.1 hx
     exact Zoj (hb.hf a _))
    rw[ZjJ (by omega) hbf]
    cases hd:ZpF ((List.range m).map fun i=>Zc0 (hf p a (from_+i))).flatten with
    |none=>rfl
    |some q=>
     simp only[Option.bind_some]
     cases hr:Zfw q.1 with
     |false=>simp;rfl
     |true=>
      have ht:=ZgZ hr
      simp only[Bool.not_true,cond_false,ZiB (show 100000<k by omega) ht,Option.bind_some]
      have hH:(List.range (ZbC (enc q.1).length)).map (Zdk (epH (hf p a from_)) (n:Int) (ZbC (enc q.1).length) (enc q.1))=Za5 q.1 (n:Int) (epH (hf p a from_)):=rfl
      rw[hH]
      by_cases ZbW:(Za5 q.1 (n:Int) (epH (hf p a from_))).length=m
      ·have hwN:=Zki (n:=m) (body:=Zai.b1 k ⟨⟨p,w⟩⟩ (a:Int) (from_:Int) (Za5 q.1 (n:Int) (epH (hf p a from_)))) (p:=fun i=>match (Za5 q.1 (n:Int) (epH (hf p a from_)))[i]? with|some x=>decide (hf p a (from_+i)=x)|none=>true) (c:=(Zvy,(0:Int),(0:Int))) (by omega) (k:=k) (by omega) (fun i hi=>by
        obtain⟨x,hx⟩:∃ x,(Za5 q.1 (n:Int) (epH (hf p a from_)))[i]?=some x:=⟨_,gG (by omega)⟩
        have wfi:w64 ((from_:Int)+(i:Int))=((from_+i:Nat):Int):=by rw[ZaD (by omega) (by omega)];omega
        have hve:Vec.eq (fun(x y:Int)=>decide (x=y)) (hf p a (from_+i)) x=decide (hf p a (from_+i)=x):=by
         by_cases e:hf p a (from_+i)=x
         ·rw[(ZiR _ _).2 e,decide_eq_true e]
         ·rw[decide_eq_false e]
          cases hq:Vec.eq (fun(x y:Int)=>decide (x=y)) (hf p a (from_+i)) x with
          |false=>rfl
          |true=>exact absurd ((ZiR _ _).1 hq) e
        unfold Zai.b1
        simp only[decide_eq_true (show (i:Int)<((Za5 q.1 (n:Int) (epH (hf p a from_))).length:Int) by omega),cond_true,ZcV hx,Option.bind_some,wfi,Zhl k hp w ha (show from_+i<602 by omega),hve,hx]
        cases decide (hf p a (from_+i)=x)<;>rfl) (by
        unfold Zai.b1
        simp only[ZbW,(by simp:decide ((m:Int)<(m:Int))=false),cond_false])
       have hrun:ZtF p a from_ (Za5 q.1 (n:Int) (epH (hf p a from_)))=(List.range m).all (fun i=>match (Za5 q.1 (n:Int) (epH (hf p a from_)))[i]? with|some x=>decide (hf p a (from_+i)=x)|none=>true):=by
        unfold ZtF;rw[ZbW];rfl
       simp only[decide_eq_true (show ((Za5 q.1 (n:Int) (epH (hf p a from_))).length:Int)=(m:Int) by omega),Bool.not_true,cond_false,hwN,←hrun,ZbW,true_and]
       cases ZtF p a from_ (Za5 q.1 (n:Int) (epH (hf p a from_)))<;>rfl
      ·simp only[decide_eq_false (show ¬ ((Za5 q.1 (n:Int) (epH (hf p a from_))).length:Int)=(m:Int) by omega),Bool.not_false,cond_true,ZbW,false_and,and_false,if_false]
       rfl
end Go.Abs
namespace Go.Abs
open Go Go.Proofs
set_option maxRecDepth 20000
set_option linter.unusedVariables false
set_option linter.unusedSimpArgs false
theorem Zvi (r:Record) (n e:Int):(Za5 r n e)[0]?=some (Zdk e n (ZbC (enc r).length) (enc r) 0):=by
 unfold Za5
 rw[List.getElem?_map,List.getElem?_range (Zfn r)];rfl
theorem ZrB {r:Record}{n e:Int}{i:Nat}{x:Hf} (h:(Za5 r n e)[i]?=some x):x=Zdk e n (ZbC (enc r).length) (enc r) i:=by
 have hi:=(gS.1 h).1
 rw[Zbi]at hi
 unfold Za5 at h
 rw[List.getElem?_map,List.getElem?_range hi]at h
 exact(oi h).symm
theorem Zod (e n cnt:Int) (c:List Int) (i:Nat):bt (Zdk e n cnt c i) 0=112∧bt (Zdk e n cnt c i) 1=IntKind.u8.wrap (Int.fdiv e (2 ^ 16))∧bt (Zdk e n cnt c i) 2=IntKind.u8.wrap (Int.fdiv e (2 ^ 8))∧bt (Zdk e n cnt c i) 3=IntKind.u8.wrap e∧bt (Zdk e n cnt c i) 7=IntKind.u8.wrap cnt∧bt (Zdk e n cnt c i) 31=165:=by
 have hl:((c.drop (23*i)).take 23++List.replicate (23 - min (c.drop (23*i)).length 23) (0:Int)).length=23:=by
  simp only[List.length_append,List.length_take,List.length_replicate];omega
 have e31:(ZgE e n cnt c i)[31]?=some 165:=by
  unfold ZgE
  rw[Zd2,Zk4]
  rw[List.getElem?_append_right (by simp only[List.length_append,List.length_cons,List.length_nil,hl];omega)]
  simp only[List.length_append,List.length_cons,List.length_nil,hl]
  rfl
 unfold bt Zdk
 refine⟨?_,?_,?_,?_,?_,?_⟩
 ·simp[ZgE]
 ·simp[ZgE,Zd2]
 ·simp[ZgE,Zd2]
 ·simp[ZgE,Zd2]
 ·simp[ZgE,Zd2,Zk4]
 ·rw[e31];rfl
theorem Zm3 {e:Int} (he:1≤e∧e≤1000000) (n cnt:Int) (c:List Int) (i:Nat):epH (Zdk e n cnt c i)=e:=by
 obtain⟨h0,h1,h2,h3,_,h31⟩:=Zod e n cnt c i
 have hr:rdV [bt (Zdk e n cnt c i) 1,bt (Zdk e n cnt c i) 2,bt (Zdk e n cnt c i) 3]=e:=by
  rw[h1,h2,h3,←Zd2,rd3 (by omega) (by omega)]
 unfold epH
 rw[hr,if_pos ⟨.inr h0,h31,he.2⟩]
theorem ZpY {e n:Int}{cnt:Nat} (hc:cnt<256) (c:List Int) (i:Nat):bt (Zdk e n cnt c i) 7=cnt:=by
 obtain⟨_,_,_,_,h7,_⟩:=Zod e n cnt c i
 rw[h7,Zmu];omega
theorem ZsF {r:Record} (h:Zfw r=true):ZbC (enc r).length≤10:=by
 have:=ZgZ h
 rw[ZjK];unfold ZbC;omega
structure HasRec (p:List Pg) (a from_ n:Nat) (r:Record) (e:Int):Prop where
 ok:Zfw r=true
 ep:1≤e∧e≤1000000
 run:Zv1 p a from_ (Za5 r n e)
theorem Zdm {p:List Pg} (hb:PgB p) {a from_ n:Nat}{q:Record×Int×Nat}:Zhz p a from_ n=some q↔HasRec p a from_ n q.1 q.2.1∧q.2.2=(Za5 q.1 n q.2.1).length:=by
 obtain⟨r,e,m⟩:=q
 constructor
 ·intro h
  unfold Zhz at h
  split at h
  ·cases h
  rename_i h1
  split at h
  ·cases h
  rename_i h2
  split at h
  ·cases h
  rename_i q hq
  split at h
  ·rename_i h3
   simp only[oE,Prod.mk.injEq]at h
   obtain⟨rfl,rfl,rfl⟩:=h
   have hE:=Zne (hb.hf a from_)
   have hnz:¬ epH (hf p a from_)=0:=fun c=>h2 (.inl c)
   have hle:¬ 602<from_+(bt (hf p a from_) 7).toNat:=fun c=>h2 (.inr c)
   refine⟨⟨h3.1,⟨show 1≤epH (hf p a from_) by omega,hE.2⟩,⟨?_,ZmJ.1 h3.2.2⟩⟩,h3.2.1.symm⟩
   show from_+(Za5 q.1 n (epH (hf p a from_))).length≤602
   rw[h3.2.1];omega
  ·cases h
 ·rintro⟨⟨h1,h2,h3,h4⟩,h5⟩
  simp only at h1 h2 h3 h4 h5
  have hc:=ZsF h1
  have hf0:=h4 0 _ (Zvi r n e)
  rw[Nat.add_zero]at hf0
  have hE:epH (hf p a from_)=e:=by rw[hf0];exact Zm3 h2 _ _ _ _
  have h7:(bt (hf p a from_) 7).toNat=m:=by
   rw[hf0,ZpY (by omega),h5,Zbi];rfl
  have hmp:0<m:=by rw[h5,Zbi];exact Zfn r
  rw[←h5]at h3
  have hpieces:((List.range m).map fun i=>Zc0 (hf p a (from_+i))).flatten=ZrE (enc r):=by
   rw[←ZlL e n (enc r)]
   congr 1
   rw[List.map_map,←Zbi r n e,←h5]
   apply List.map_congr_left
   intro i hi
   have hi':=List.mem_range.1 hi
   have hx:(Za5 r n e)[i]?=some (Zdk e n (ZbC (enc r).length) (enc r) i):=by
    unfold Za5
    rw[List.getElem?_map,List.getElem?_range (by rw[←Zbi r n e,←h5];exact hi')];rfl
   rw[h4 i _ hx];rfl
  have hd:=ZqO h1 (List.replicate (23*ZbC (enc r).length - (enc r).length) 0)
  unfold Zhz
  rw[if_neg (by omega),h7,hE,if_neg (by omega),hpieces]
  unfold ZrE
  rw[hd]
  simp only
  rw[if_pos ⟨h1,h5.symm,ZmJ.2 h4⟩]
theorem HasRec.inj {p:List Pg} (hb:PgB p) {a from_ n:Nat}{r r':Record}{e e':Int} (h:HasRec p a from_ n r e) (h':HasRec p a from_ n r' e'):r=r'∧e=e':=by
 have h1:=(Zdm hb (q:=(r,e,(Za5 r n e).length))).2 ⟨h,rfl⟩
 have h2:=(Zdm hb (q:=(r',e',(Za5 r' n e').length))).2 ⟨h',rfl⟩
 rw[h1]at h2
 simp only[oE,Prod.mk.injEq]at h2
 exact⟨h2.1,h2.2.1⟩
def ZeG (b:List Record) (r:Record):Option (List Record):=if (ZjC b r).2=0∧(ZjC b r).1.length≠b.length then some (ZjC b r).1 else none
def rd (p:List Pg) (a:Nat):Nat→List Record→Int→Nat→Nat→List (Record×Nat)
 |0,_,_,_,_=>[]
 |m+1,b,e,u,n=>match Zhz p a u n with
  |none=>[]
  |some q=>if q.2.1<e then [] else match ZeG b q.1 with
   |none=>[]
   |some b'=>(q.1,u+q.2.2)::rd p a m b' q.2.1 (u+q.2.2) (n+1)
theorem Zfr {b b':List Record}{r:Record} (h:ZeG b r=some b'):b'=Zjz Za2 b r∧ZeX Za2 b (Za2 r)=none∧r.At.No≤cnt Za2 b r.At.House∧b.length≠60:=by
 unfold ZeG ZjC at h
 cases hf:ZeX Za2 b (Za2 r) with
 |some x=>
  rw[hf]at h
  simp only at h
  by_cases e:x=r
  ·rw[if_pos e]at h;simp at h
  ·rw[if_neg e]at h;simp at h
 |none=>
  rw[hf]at h
  simp only at h
  by_cases hc:((cnt Za2 b r.At.House:Nat):Int)<r.At.No
  ·rw[if_pos hc]at h;simp at h
  ·rw[if_neg hc]at h
   by_cases h60:(b.length:Int)=60
   ·rw[if_pos h60]at h;simp at h
   ·rw[if_neg h60]at h
    split at h
    ·exact⟨(oi h).symm,rfl,by omega,by omega⟩
    ·cases h
theorem Zrd {b:List Record}{r:Record} (h1:ZeX Za2 b (Za2 r)=none) (h2:r.At.No≤cnt Za2 b r.At.House) (h3:b.length≠60):ZeG b r=some (Zjz Za2 b r):=by
 have:ZjC b r=(Zjz Za2 b r,0):=by
  unfold ZjC
  rw[h1]
  simp only
  rw[if_neg (by omega),if_neg (by omega)]
 unfold ZeG
 rw[this]
 simp only
 rw[if_pos ⟨trivial,by rw[ZgP];omega⟩]
theorem Zlm {b b':List Record}{r:Record} (hv:Val Za2 b) (hr:Zfw r=true) (h:ZeG b r=some b'):Val Za2 b'∧b'.length=b.length+1:=by
 obtain⟨h1,h2,h3,h4⟩:=Zfr h
 subst h1
 refine⟨ZmP Za2 hv ?_,ZgP Za2 b r⟩
 show r.At.No=_
 have hn:=Zhj Za2 h2
 by_cases hlt:r.At.No<cnt Za2 b r.At.House
 ·have h0:=(Zgu hr).2.1.1
  obtain⟨x,hx,hk⟩:=Zt9 Za2 hv (h:=r.At.House) (n:=r.At.No) h0 hlt
  exact absurd hk (hn x hx)
 ·show r.At.No=((cnt Za2 b r.At.House:Nat):Int)
  omega
theorem Zkc {k:Nat} (hk:1000000<k) {p:List Pg} (hp:p.length=602) (hb:PgB p) (w:List Write) {a:Nat} (ha:a≤1):∀ (m:Nat) (b:List Record) (e:Int) (u n:Nat),Val Za2 b→(∀ r∈b,Zfw r=true)→b.length=n→n≤60→u≤602→61≤m+n→
  Zbv.go k ⟨⟨p,w⟩⟩ (a:Int) (m+1) ⟨b⟩ e (u:Int) (n:Int)=some ((rd p a (m+1) b e u n).map fun x=>(x.1,(x.2:Int))):=by
 intro m
 induction m with
 |zero=>intro b e u n _ _ h1 h2 _ h3;omega
 |succ m ih=>
  intro b e u n hv hok hbl hn hu hm
  rw[Zbv.go,rd,Zpi hk hp hb w ha u n (by omega)]
  simp only[Option.bind_some]
  cases hq:Zhz p a u n with
  |none=>rfl
  |some q=>
   obtain⟨⟨g1,g2,g3⟩,g4⟩:=(Zdm hb).1 hq
   have hmp:0<q.2.2:=by rw[g4,Zbi];exact Zfn q.1
   have h602:=g3.1
   rw[←g4]at h602
   simp only[decide_eq_false (show ¬ (q.2.2:Int)=0 by omega),Bool.not_false,cond_true]
   by_cases he:q.2.1<e
   ·simp only[decide_eq_true he,cond_true,if_pos he];rfl
   ·have hh:∀ r∈b,ZdH r:=fun r hr=>Zck (hok r hr)
    simp only[decide_eq_false he,cond_false,if_neg he,Ze3 hk (b:=⟨b⟩) hv.1 (show b.length≤900 by omega) hh,g1,cond_true,Option.bind_some]
    cases hm1:ZeG b q.1 with
    |none=>
     unfold ZeG at hm1
     by_cases h0:(ZjC b q.1).2=0
     ·simp only[decide_eq_true h0,cond_true]
      by_cases hl:(ZjC b q.1).1.length=b.length
      ·simp only[decide_eq_true (show (((ZjC b q.1).1.length:Nat):Int)=(b.length:Int) by omega),cond_true];rfl
      ·rw[if_pos ⟨h0,hl⟩]at hm1;cases hm1
     ·simp only[decide_eq_false h0,cond_false];rfl
    |some b'=>
     obtain⟨v1,v2⟩:=Zlm hv g1 hm1
     have hm2:=hm1
     unfold ZeG at hm2
     split at hm2
     ·rename_i hc
      have hb':(ZjC b q.1).1=b':=oi hm2
      have hw1:w64 ((u:Int)+(q.2.2:Int))=((u+q.2.2:Nat):Int):=by rw[ZaD (by omega) (by omega)];omega
      have hw2:w64 ((n:Int)+1)=((n+1:Nat):Int):=by rw[ZaD (by omega) (by omega)];omega
      have h60:b.length≠60:=(Zfr hm1).2.2.2
      simp only[decide_eq_true hc.1,cond_true,hb',decide_eq_false (show ¬ ((b'.length:Nat):Int)=(b.length:Int) by omega),cond_false,hw1,hw2]
      obtain⟨m,rfl⟩:∃ q,m=q+1:=⟨m - 1,by omega⟩
      rw[ih b' q.2.1 (u+q.2.2) (n+1) v1 (fun r hr=>by
       rw[(Zfr hm1).1,ZjR]at hr
       rcases hr with rfl|hr
       ·exact g1
       ·exact hok r hr) (by omega) (by omega) (by omega) (by omega)]
      rfl
     ·cases hm2
end Go.Abs
namespace Go.Abs
open Go Go.Proofs
set_option maxRecDepth 20000
set_option linter.unusedVariables false
set_option linter.unusedSimpArgs false
def fin (s:List Record×Nat) (L:List (Record×Nat)):List Record×Nat:=L.foldl (fun s x=>(Zjz Za2 s.1 x.1,x.2)) s
theorem ZjV {k:Nat} (hk:1000000<k) {p:List Pg} (hb:PgB p) {a:Nat} (D:Option book_disk) (A E:Int):∀ (m:Nat) (b:List Record) (e:Int) (u n:Nat) (U R:Int),Val Za2 b→(∀ r∈b,Zfw r=true)→b.length≤60→0≤R→R+100≤1000000 - (100 - m:Int)*0 - m→U=(u:Int)→
  Zch k ⟨D,A,E,U,⟨b⟩,R⟩ ((rd p a m b e u n).map fun x=>(x.1,(x.2:Int)))=some ⟨D,A,E,((fin (b,u) (rd p a m b e u n)).2:Int),⟨(fin (b,u) (rd p a m b e u n)).1⟩,R+(rd p a m b e u n).length⟩:=by
 intro m
 induction m with
 |zero=>intro b e u n U R _ _ _ _ _ hU;subst hU;simp[rd,Zch,fin]
 |succ m ih=>
  intro b e u n U R hv hok hl hR0 hR hU
  subst hU
  have stop:Zch k ⟨D,A,E,(u:Int),⟨b⟩,R⟩ (([]:List (Record×Nat)).map fun x=>(x.1,(x.2:Int)))=some ⟨D,A,E,((fin (b,u) []).2:Int),⟨(fin (b,u) []).1⟩,R+(([]:List (Record×Nat)).length:Int)⟩:=by
   simp[Zch,fin]
  rw[rd]
  cases hq:Zhz p a u n with
  |none=>exact stop
  |some q=>
   obtain⟨⟨g1,g2,g3⟩,g4⟩:=(Zdm hb).1 hq
   simp only
   by_cases he:q.2.1<e
   ·rw[if_pos he];exact stop
   ·rw[if_neg he]
    cases hm1:ZeG b q.1 with
    |none=>exact stop
    |some b'=>
     obtain⟨v1,v2⟩:=Zlm hv g1 hm1
     obtain⟨i1,_,_,i4⟩:=Zfr hm1
     have hm2:=hm1
     unfold ZeG at hm2
     split at hm2
     ·rename_i hc
      have hb':(ZjC b q.1).1=b':=oi hm2
      have hh:∀ r∈b,ZdH r:=fun r hr=>Zck (hok r hr)
      simp only[List.map_cons,Zch]
      have hst:Zdy k ⟨D,A,E,(u:Int),⟨b⟩,R⟩ (q.1,((u+q.2.2:Nat):Int))=some ⟨D,A,E,((u+q.2.2:Nat):Int),⟨b'⟩,R+1⟩:=by
       unfold Zdy
       rw[Ze3 hk (b:=⟨b⟩) hv.1 (show b.length≤900 by omega) hh,g1]
       simp only[cond_true,Option.bind_some,hb']
       rw[ZaD (by omega) (by omega)]
      rw[hst,Option.bind_some]
      rw[ih b' q.2.1 (u+q.2.2) (n+1) _ (R+1) v1 (fun r hr=>by
       rw[i1,ZjR]at hr
       rcases hr with rfl|hr
       ·exact g1
       ·exact hok r hr) (by omega) (by omega) (by omega) rfl]
      have hf:fin (b,u) ((q.1,u+q.2.2)::rd p a m b' q.2.1 (u+q.2.2) (n+1))=fin (b',u+q.2.2) (rd p a m b' q.2.1 (u+q.2.2) (n+1)):=by
       unfold fin
       rw[List.foldl_cons,i1]
      rw[hf]
      simp only[List.length_cons]
      congr 2
      push_cast
      omega
     ·cases hm2
theorem Zjr (k:Nat) (e n:Int):Zf1 k e n=some ⟨[104,IntKind.u8.wrap (Int.fdiv e (2 ^ 16)),IntKind.u8.wrap (Int.fdiv e (2 ^ 8)),IntKind.u8.wrap e,IntKind.u8.wrap (Int.fdiv n (2 ^ 8)),IntKind.u8.wrap n,
  0,0,0,0,0,0,0,0,0,0,0,0,0,0,0,0,0,0,0,0,0,0,0,0,0,165],rfl⟩:=rfl
def ZcJ (e n:Int):Hf:=⟨[104,IntKind.u8.wrap (Int.fdiv e (2 ^ 16)),IntKind.u8.wrap (Int.fdiv e (2 ^ 8)),IntKind.u8.wrap e,IntKind.u8.wrap (Int.fdiv n (2 ^ 8)),IntKind.u8.wrap n,
  0,0,0,0,0,0,0,0,0,0,0,0,0,0,0,0,0,0,0,0,0,0,0,0,0,165],rfl⟩
def Ztm (p:List Pg) (a:Nat):List (Record×Nat):=rd p a 100 [] (epH (hf p a 0)) 1 0
structure Ar where
 epoch:Int
 recs:List (Record×Nat)
def Ar.book (x:Ar):List Record:=(fin ([],1) x.recs).1
def Ar.used (x:Ar):Nat:=(fin ([],1) x.recs).2
def ZdY (p:List Pg) (a:Nat):Option Ar:=
 if epH (hf p a 0)≠0∧hf p a 0=ZcJ (epH (hf p a 0)) (rdV [bt (hf p a 0) 4,bt (hf p a 0) 5])∧rdV [bt (hf p a 0) 4,bt (hf p a 0) 5]≤((Ztm p a).length:Int) then some ⟨epH (hf p a 0),Ztm p a⟩ else none
theorem ZrF {p:List Pg}{a:Nat}:∀ (m:Nat) (b:List Record) (e:Int) (u n:Nat),(rd p a m b e u n).length≤m
 |0,_,_,_,_=>Nat.le_refl _
 |m+1,b,e,u,n=>by
  rw[rd]
  split
  ·exact Nat.zero_le _
  ·split
   ·exact Nat.zero_le _
   ·split
    ·exact Nat.zero_le _
    ·rw[List.length_cons]
     exact Nat.succ_le_succ (ZrF m _ _ _ _)
theorem ZoX {p:List Pg} (hb:PgB p) {a:Nat}:∀ (m m':Nat) (b:List Record) (e:Int) (u n:Nat),61≤m+b.length→61≤m'+b.length→b.length≤60→rd p a m b e u n=rd p a m' b e u n
 |0,_,b,_,_,_,h1,_,h3=>by omega
 |_+1,0,b,_,_,_,_,h2,h3=>by omega
 |m+1,m'+1,b,e,u,n,h1,h2,h3=>by
  rw[rd,rd]
  cases hq:Zhz p a u n with
  |none=>rfl
  |some q=>
   simp only
   by_cases he:q.2.1<e
   ·rw[if_pos he,if_pos he]
   ·rw[if_neg he,if_neg he]
    cases hm1:ZeG b q.1 with
    |none=>rfl
    |some b'=>
     obtain⟨i1,_,_,i4⟩:=Zfr hm1
     have hl:b'.length=b.length+1:=by rw[i1,ZgP]
     simp only
     rw[ZoX hb m m' b' q.2.1 _ _ (by omega) (by omega) (by omega)]
theorem ZlZ {k:Nat} (hk:1000000<k) {p:List Pg} (hp:p.length=602) (hb:PgB p) (w:List Write) {a:Nat} (ha:a≤1):
  Zbv k ⟨⟨p,w⟩⟩ (a:Int)=some ((Ztm p a).map fun x=>(x.1,(x.2:Int))):=by
 unfold Zbv
 have h0:=Zhl k hp w ha (show 0<602 by decide)
 rw[Int.natCast_zero]at h0
 rw[h0]
 simp only[Option.bind_some,Ze8 k (hb.hf a 0)]
 obtain⟨m,rfl⟩:∃ m,k=m+1:=⟨k - 1,by omega⟩
 have h1:=Zkc hk hp hb w ha m [] (epH (hf p a 0)) 1 0 ⟨.nil,trivial⟩ (by simp) rfl (by decide) (by decide) (by omega)
 have h2:=ZoX hb (m+1) 100 [] (epH (hf p a 0)) 1 0 (by simp;omega) (by decide) (by decide) (a:=a)
 rw[h2]at h1
 exact h1
theorem Zj1 {k:Nat} (hk:1000000<k) {p:List Pg} (hp:p.length=602) (hb:PgB p) (w:List Write) {a:Nat} (ha:a≤1):
  ∃ J ok,Zbk k ⟨⟨p,w⟩⟩ (a:Int)=some (J,ok)∧(match ZdY p a with|none=>ok=false|some q=>ok=true∧J.area=(a:Int)∧J.epoch=q.epoch∧J.book=⟨q.book⟩∧J.used=(q.used:Int)):=by
 have h0:=Zhl k hp w ha (show 0<602 by decide)
 rw[Int.natCast_zero]at h0
 have e4:(hf p a 0).at? 4=some (bt (hf p a 0) 4):=Zk6 _ (i:=4) (by decide)
 have e5:(hf p a 0).at? 5=some (bt (hf p a 0) 5):=Zk6 _ (i:=5) (by decide)
 have B4:=Zip (hb.hf a 0) 4
 have B5:=Zip (hb.hf a 0) 5
 unfold Zbk ZdY Zee
 rw[h0]
 simp only[Option.bind_some,Ze8 k (hb.hf a 0),e4,e5,or2 B4 B5]
 by_cases he:epH (hf p a 0)=0
 ·simp only[decide_eq_true he,Bool.not_true,cond_false]
  rw[if_neg (fun c=>c.1 he)]
  exact⟨_,_,rfl,rfl⟩
 ·simp only[decide_eq_false he,Bool.not_false,cond_true,Zjr,Option.bind_some]
  by_cases hh:hf p a 0=ZcJ (epH (hf p a 0)) (rdV [bt (hf p a 0) 4,bt (hf p a 0) 5])
  ·have hv:Vec.eq (fun(x y:Int)=>decide (x=y)) (hf p a 0) (ZcJ (epH (hf p a 0)) (rdV [bt (hf p a 0) 4,bt (hf p a 0) 5]))=true:=(ZiR _ _).2 hh
   unfold ZcJ at hv
   simp only[hv,Bool.not_true,cond_false,ZlZ hk hp hb w ha,Option.bind_some]
   have ho:=ZjV hk hb (a:=a) (some ⟨⟨p,w⟩⟩) (a:Int) (epH (hf p a 0)) 100 [] (epH (hf p a 0)) 1 0 1 0 ⟨.nil,trivial⟩ (by simp) (by decide) (by decide) (by decide) rfl
   have hl:=ZrF (p:=p) (a:=a) 100 [] (epH (hf p a 0)) 1 0
   unfold Zkv
   rw[show Ztm p a=rd p a 100 [] (epH (hf p a 0)) 1 0 from rfl,ho]
   simp only[Option.bind_some,Int.zero_add]
   refine⟨_,_,rfl,?_⟩
   by_cases hc:rdV [bt (hf p a 0) 4,bt (hf p a 0) 5]≤((rd p a 100 [] (epH (hf p a 0)) 1 0).length:Int)
   ·rw[if_pos ⟨he,hh,hc⟩]
    exact⟨decide_eq_true hc,rfl,rfl,rfl,rfl⟩
   ·rw[if_neg (fun c=>hc c.2.2)]
    exact decide_eq_false hc
  ·have hv:Vec.eq (fun(x y:Int)=>decide (x=y)) (hf p a 0) (ZcJ (epH (hf p a 0)) (rdV [bt (hf p a 0) 4,bt (hf p a 0) 5]))=false:=by
    cases hq:Vec.eq (fun(x y:Int)=>decide (x=y)) (hf p a 0) (ZcJ (epH (hf p a 0)) (rdV [bt (hf p a 0) 4,bt (hf p a 0) 5])) with
    |false=>rfl
    |true=>exact absurd ((ZiR _ _).1 hq) hh
   unfold ZcJ at hv
   simp only[hv,Bool.not_false,cond_true]
   rw[if_neg (fun c=>hh c.2.1)]
   exact⟨_,_,rfl,rfl⟩
def Zi4 (p:List Pg):Option (Nat×Ar):=match ZdY p 0,ZdY p 1 with
 |some x,some y=>if x.epoch<y.epoch then some (1,y) else some (0,x)
 |some x,none=>some (0,x)
 |none,some y=>some (1,y)
 |none,none=>none
theorem Zi7 {k:Nat} (hk:1000000<k) {p:List Pg} (hp:p.length=602) (hb:PgB p) (w:List Write):
  ∃ J ok,ZbL k ⟨⟨p,w⟩⟩=some (J,ok)∧(match Zi4 p with|none=>ok=false|some q=>ok=true∧J.area=(q.1:Int)∧J.epoch=q.2.epoch∧J.book=⟨q.2.book⟩∧J.used=(q.2.used:Int)):=by
 obtain⟨J0,o0,h0,g0⟩:=Zj1 hk hp hb w (a:=0) (by decide)
 obtain⟨J1,o1,h1,g1⟩:=Zj1 hk hp hb w (a:=1) (by decide)
 have h0':Zbk k ⟨⟨p,w⟩⟩ 0=some (J0,o0):=h0
 have h1':Zbk k ⟨⟨p,w⟩⟩ 1=some (J1,o1):=h1
 unfold ZbL Zi4
 rw[h0',h1']
 simp only[Option.bind_some]
 cases hx:ZdY p 0 with
 |none=>
  rw[hx]at g0
  simp only at g0
  subst g0
  cases hy:ZdY p 1 with
  |none=>
   rw[hy]at g1
   simp only at g1
   subst g1
   exact⟨_,_,rfl,rfl⟩
  |some y=>
   rw[hy]at g1
   simp only at g1
   obtain⟨rfl,a2,a3,a4,a5⟩:=g1
   exact⟨_,_,rfl,rfl,a2,a3,a4,a5⟩
 |some x=>
  rw[hx]at g0
  simp only at g0
  obtain⟨rfl,b2,b3,b4,b5⟩:=g0
  cases hy:ZdY p 1 with
  |none=>
   rw[hy]at g1
   simp only at g1
   subst g1
   exact⟨_,_,rfl,rfl,b2,b3,b4,b5⟩
  |some y=>
   rw[hy]at g1
   simp only at g1
   obtain⟨rfl,a2,a3,a4,a5⟩:=g1
   simp only[cond_true,b3,a3]
   by_cases hlt:x.epoch<y.epoch
   ·simp only[decide_eq_true hlt,cond_true,if_pos hlt]
    exact⟨_,_,rfl,rfl,a2,a3,a4,a5⟩
   ·simp only[decide_eq_false hlt,cond_false,if_neg hlt]
    exact⟨_,_,rfl,rfl,b2,b3,b4,b5⟩
end Go.Abs
namespace Go.Abs
open Go Go.Proofs
set_option maxRecDepth 20000
set_option linter.unusedVariables false
set_option linter.unusedSimpArgs false
theorem Zje {k:Nat} (hk:1000000<k) {l:List Record} (hl:l.length≤100000):Zam k l l=some true:=by
 unfold Zam
 simp only[decide_true,Bool.not_true,cond_false]
 have h:=Zkh (l:=l) (body:=Zam.b0 k l l) (p:=fun _=>true) (c:=false) (by omega) (k:=k) (by omega) (fun i x hx=>by
  have hi:=(gS.1 hx).1
  unfold Zam.b0
  simp only[decide_eq_true (show (i:Int)<(l.length:Int) by omega),cond_true,ZcV hx,Option.bind_some,decide_true,Bool.true_and,beq_self_eq_true,Bool.not_true,cond_false]) (by
  unfold Zam.b0
  simp only[(by simp:decide ((l.length:Int)<(l.length:Int))=false),cond_false])
 rw[h]
 have:l.all (fun _=>true)=true:=by simp
 rw[this]
 rfl
theorem PgB.mend {w:List Write} (hw:∀ x∈w,∀ h∈x.Page.l,Byt h.l):∀ {p:List Pg},PgB p→PgB (mend p w):=by
 induction w with
 |nil=>intro p h;exact h
 |cons x w ih=>
  intro p h
  refine ih (fun y hy=>hw y (by simp[hy])) (fun g hg=>?_)
  rcases List.mem_or_eq_of_mem_set hg with g1|rfl
  ·exact h g g1
  ·exact hw x (by simp)
structure DB (d:Disk):Prop where
 ok:dOK d=true
 pb:PgB d.Pages
 wb:∀ x∈d.Wait,∀ h∈x.Page.l,Byt h.l
theorem DB.new {d:Disk} (h:DB d):PgB (mend d.Pages d.Wait):=PgB.mend h.wb h.pb
theorem DB.len {d:Disk} (h:DB d):(mend d.Pages d.Wait).length=602:=by rw[Zrb];exact(Zeb.1 h.ok).1
structure LedOK (d:Disk) (l:Ledger) (q:Nat×Ar):Prop where
 meant:Zi4 (mend d.Pages d.Wait)=some q
 le:q.1≤1
 area:l.Area=(q.1:Int)
 used:l.Used=(q.2.used:Int)
 book:l.Book=⟨q.2.book⟩
 short:q.2.book.length≤60
 ep:1≤l.Epoch∧l.Epoch≤1000000
 m0:mx (mend d.Pages d.Wait) 0 0≤l.Epoch
 m1:mx (mend d.Pages d.Wait) 1 0≤l.Epoch
 mu:mx (mend d.Pages d.Wait) q.1 q.2.used<l.Epoch
theorem Zdr {x lo hi:Int} (h:lo≤x∧x≤hi):within x lo hi=true:=by unfold within;simp[h.1,h.2]
theorem ZdZ {k:Nat} (hk:1000000<k) {d:Disk} (hd:DB d) {l:Ledger}{q:Nat×Ar} (h:LedOK d l q):Zb3 k d l=some 0:=by
 obtain⟨J,ok,h1,h2⟩:=Zi7 hk hd.len hd.new []
 rw[h.meant]at h2
 simp only at h2
 obtain⟨rfl,ha,he,hbk,hu⟩:=h2
 have E0:=ZcG hk hd.len hd.new [] (a:=0) (by decide) 0
 have E1:=ZcG hk hd.len hd.new [] (a:=1) (by decide) 0
 have E2:=ZcG hk hd.len hd.new [] h.le q.2.used
 have E0':Zap k ⟨⟨mend d.Pages d.Wait,[]⟩⟩ 0 0=some (mx (mend d.Pages d.Wait) 0 0):=E0
 have E1':Zap k ⟨⟨mend d.Pages d.Wait,[]⟩⟩ 1 0=some (mx (mend d.Pages d.Wait) 1 0):=E1
 have hm0:=h.m0
 have hm1:=h.m1
 have hmu:=h.mu
 have hs:=h.short
 unfold Zb3
 rw[ZdU hk,hd.ok]
 simp only[Option.bind_some,Bool.not_true,cond_false]
 rw[Zdj hd.ok]
 simp only[Option.bind_some]
 rw[ZfK hk hd.ok]
 simp only[Option.bind_some,h1,cond_true,h.area,ha,hu,h.used,decide_true,hbk,h.book,Zje hk (show q.2.book.length≤100000 by omega),ZbV,Zdr h.ep,Bool.not_true,cond_false,E0',E1']
 rw[decide_eq_false (show ¬ l.Epoch<max (mx (mend d.Pages d.Wait) 0 0) (mx (mend d.Pages d.Wait) 1 0) by omega)]
 simp only[Bool.not_false,cond_true,E2,Option.bind_some]
 rw[decide_eq_false (show ¬ l.Epoch≤mx (mend d.Pages d.Wait) q.1 q.2.used by omega)]
 rfl
theorem ZsU {k:Nat} (hk:1000000<k) {d:Disk} (hd:DB d) {q:Nat×Ar} (h:Zi4 (mend d.Pages d.Wait)=some q) (hm:max (mx (mend d.Pages d.Wait) 0 0) (mx (mend d.Pages d.Wait) 1 0)<1000000):
  ZcS k d=some (⟨mend d.Pages d.Wait,[]⟩,⟨⟨q.2.book⟩,(q.1:Int),1+max (mx (mend d.Pages d.Wait) 0 0) (mx (mend d.Pages d.Wait) 1 0),(q.2.used:Int)⟩,0):=by
 obtain⟨J,ok,h1,h2⟩:=Zi7 hk hd.len hd.new []
 rw[h]at h2
 simp only at h2
 obtain⟨rfl,ha,he,hbk,hu⟩:=h2
 have E0':Zap k ⟨⟨mend d.Pages d.Wait,[]⟩⟩ 0 0=some (mx (mend d.Pages d.Wait) 0 0):=ZcG hk hd.len hd.new [] (a:=0) (by decide) 0
 have E1':Zap k ⟨⟨mend d.Pages d.Wait,[]⟩⟩ 1 0=some (mx (mend d.Pages d.Wait) 1 0):=ZcG hk hd.len hd.new [] (a:=1) (by decide) 0
 have n0:=ZgU (mend d.Pages d.Wait) 0 0
 have n1:=ZgU (mend d.Pages d.Wait) 1 0
 have hw:w64 (1+max (mx (mend d.Pages d.Wait) 0 0) (mx (mend d.Pages d.Wait) 1 0))=1+max (mx (mend d.Pages d.Wait) 0 0) (mx (mend d.Pages d.Wait) 1 0):=ZaD (by omega) (by omega)
 unfold ZcS
 rw[ZdU hk,hd.ok]
 simp only[Option.bind_some,Bool.not_true,cond_false]
 rw[Zdj hd.ok]
 simp only[Option.bind_some]
 rw[ZfK hk hd.ok]
 simp only[Option.bind_some,h1,Bool.not_true,cond_false,E0',E1',hw,hbk,ha,hu]
 rw[decide_eq_false (show ¬ (1000000:Int)<1+max (mx (mend d.Pages d.Wait) 0 0) (mx (mend d.Pages d.Wait) 1 0) by omega)]
 rfl
def ph (p:List Pg) (j s:Nat):Hf:=match p[j]? with
 |some g=>(g.l[s]?).getD hz
 |none=>hz
theorem Zo7 (p:List Pg) (a i:Nat):hf p a i=ph p (301*a+i / 2) (i % 2):=rfl
def sd (g:Pg) (s:Nat):Hf:=(g.l[s]?).getD hz
theorem ZgW {p:List Pg}{j:Nat}{g:Pg} (h:p[j]?=some g) (s:Nat):ph p j s=sd g s:=by unfold ph;rw[h];rfl
theorem ZsY {p:List Pg}{j:Nat} (h:p.length≤j) (s:Nat):ph p j s=hz:=by unfold ph;rw[List.getElem?_eq_none h]
theorem Zlr {p:List Pg}{j:Nat} (hj:j<p.length) (g:Pg) (j' s:Nat):ph (p.set j g) j' s=if j'=j then sd g s else ph p j' s:=by
 by_cases e:j'=j
 ·subst e
  rw[if_pos rfl,ZgW (by rw[List.getElem?_set_self hj])]
 ·rw[if_neg e]
  unfold ph
  rw[List.getElem?_set_ne (Ne.symm e)]
theorem Zgf (g:Pg) {s:Nat} (hs:s<2) (x:Hf) (s':Nat):sd (g.set (s:Int) x) s'=if s'=s then x else sd g s':=by
 have hl:=g.h
 unfold sd Vec.set
 simp only[Int.toNat_natCast]
 by_cases e:s'=s
 ·subst e
  rw[if_pos rfl,List.getElem?_set_self (by omega)];rfl
 ·rw[if_neg e,List.getElem?_set_ne (Ne.symm e)]
theorem ZtG (g:Pg) {s:Nat} (hs:s<2):g.at? (s:Int)=some (sd g s):=by
 have:=Zp3 g s
 rw[Nat.mod_eq_of_lt hs]at this
 exact this
def Btw (old new p:List Pg):Prop:=∀ j s,ph p j s=ph old j s∨ph p j s=ph new j s
theorem Zpp {k:Nat}{p:List Pg} (hp:p.length=602) {w:Write} (hw:0≤w.At∧w.At≤601) {s:Nat} (hs:s<2):
  ∃ g,at? p w.At=some g∧ZlT p w.At (g.set (s:Int) (sd w.Page s))=some (p.set w.At.toNat (g.set (s:Int) (sd w.Page s)))∧∀ j' s',ph (p.set w.At.toNat (g.set (s:Int) (sd w.Page s))) j' s'=if j'=w.At.toNat∧s'=s then sd w.Page s else ph p j' s':=by
 have hj:w.At.toNat<p.length:=by omega
 refine⟨p[w.At.toNat],?_,?_,fun j' s'=>?_⟩
 ·unfold at?
  rw[if_pos ⟨by omega,by omega⟩,gG hj]
 ·unfold ZlT
  rw[if_pos ⟨by omega,by omega⟩]
 ·rw[Zlr hj,Zgf _ hs]
  by_cases e:j'=w.At.toNat
  ·subst e
   by_cases e2:s'=s
   ·rw[if_pos rfl,if_pos e2,if_pos ⟨rfl,e2⟩]
   ·rw[if_pos rfl,if_neg e2,if_neg (fun c=>e2 c.2),ZgW (gG hj)]
  ·rw[if_neg e,if_neg (fun c=>e c.1)]
def Zva (p p':List Pg) (w:Write):Prop:=p'.length=602∧∀ j s,ph p' j s=ph p j s∨(j=w.At.toNat∧ph p' j s=sd w.Page s)
theorem Zj6 {R:Type}{w:Write} (hw:0≤w.At∧w.At≤601) {body:Int×List Pg→Option (Stp (Int×List Pg) (List Pg) R)}{c:Nat→Bool}
  (h1:∀ (s:Nat) p,s<2→p.length=602→body ((s:Int),p)=bif c s then (w.Page.at? (s:Int)).bind fun x=>(at? p w.At).bind fun g=>(g.at? (s:Int)).bind fun _=>(ZlT p w.At (g.set (s:Int) x)).bind fun l=>some (.next (w64 ((s:Int)+1),l)) else some (.next (w64 ((s:Int)+1),p)))
  (h2:∀ p,body (2,p)=some (.brk p)) {p:List Pg} (hp:p.length=602) (m:Nat):∃ p',whl body (m+3) (0,p)=some (.brk p')∧Zva p p' w:=by
 have w1:w64 (((0:Nat):Int)+1)=((1:Nat):Int):=by decide
 have w2:w64 (((1:Nat):Int)+1)=2:=by decide
 have one:∀ (s:Nat) (p:List Pg),s<2→p.length=602→∃ p',body ((s:Int),p)=some (.next (w64 ((s:Int)+1),p'))∧Zva p p' w:=by
  intro s p hs hp
  rw[h1 s p hs hp]
  cases c s with
  |false=>exact⟨p,rfl,hp,fun j s=>.inl rfl⟩
  |true=>
   obtain⟨g,g1,g3,g4⟩:=Zpp (k:=0) hp hw hs
   refine⟨p.set w.At.toNat (g.set (s:Int) (sd w.Page s)),?_,by rw[List.length_set];exact hp,fun j s'=>?_⟩
   ·simp only[cond_true,ZtG w.Page hs,ZtG g hs,g1,g3,Option.bind_some]
   ·rw[g4]
    by_cases e:j=w.At.toNat∧s'=s
    ·rw[if_pos e];exact .inr ⟨e.1,by rw[e.2]⟩
    ·rw[if_neg e];exact .inl rfl
 obtain⟨p1,a1,b1,b2⟩:=one 0 p (by decide) hp
 obtain⟨p2,a2,c1,c2⟩:=one 1 p1 (by decide) b1
 rw[w1]at a1
 rw[w2]at a2
 refine⟨p2,?_,c1,fun j s=>?_⟩
 ·have a1':body (0,p)=some (.next (((1:Nat):Int),p1)):=a1
  simp only[whl,a1',a2,h2]
 ·rcases c2 j s with e|⟨e1,e2⟩
  ·rcases b2 j s with f|⟨f1,f2⟩
   ·exact .inl (e.trans f)
   ·exact .inr ⟨f1,e.trans f2⟩
  ·exact .inr ⟨e1,e2⟩
theorem Zq5 {k:Nat} (hk:1000000<k) {d:Disk} (hd:DB d) (picks:List Int) (hpl:picks.length≤4611686018427387904)
  (hW:∀ w∈d.Wait,∀ s,sd w.Page s=ph d.Pages w.At.toNat s∨sd w.Page s=ph (mend d.Pages d.Wait) w.At.toNat s):
  ∃ p',Zan k d picks=some ⟨p',[]⟩∧p'.length=602∧Btw d.Pages (mend d.Pages d.Wait) p':=by
 obtain⟨h1,h2,h3⟩:=Zeb.1 hd.ok
 have step:∀ (i:Nat) w (p:List Pg),d.Wait[i]?=some w→p.length=602→∃ p',Zan.b0 k picks ⟨d⟩ ((i:Int),p)=some (.next (w64 ((i:Int)+1),p'))∧Zva p p' w:=by
  intro i w p hx hp
  have hi:=(gS.1 hx).1
  have hw:=h3 w (List.mem_of_getElem? hx)
  unfold Zan.b0
  simp only[decide_eq_true (show (i:Int)<((d.Wait.length:Nat):Int) by omega),cond_true,ZcV hx,Option.bind_some]
  obtain⟨m,rfl⟩:∃ m,k=m+3:=⟨k - 3,by omega⟩
  have sh0:∀ s:Nat,s<2→sh? (s:Int)=some ():=fun s hs=>by unfold sh?;rw[if_neg (by omega)]
  by_cases hz:(0:Int)<(picks.length:Int)
  ·have hnz:nz? (picks.length:Int)=some ():=by unfold nz?;rw[if_neg (by omega)]
   obtain⟨x,hxp⟩:∃ x,at? picks (Int.tmod (i:Int) (picks.length:Int))=some x:=by
    rw[←Int.ofNat_tmod]
    have hlt:i % picks.length<picks.length:=Nat.mod_lt _ (by omega)
    exact⟨_,ZcV (gG hlt)⟩
   simp only[decide_eq_true hz,cond_true,hnz,hxp,Option.bind_some]
   obtain⟨p',g1,g2⟩:=Zj6 (w:=w) hw (body:=Zan.b1 (m+3) w x) (c:=fun s=>decide (ZpH .i64 (Int.fdiv (ZpH .i64 x 3) (2 ^ (min (Int.toNat (s:Int)) 64))) 1=(1:Int))) (fun s p hs hp=>by
    unfold Zan.b1
    simp only[decide_eq_true (show (s:Int)<2 by omega),cond_true,sh0 s hs,Option.bind_some]) (fun p=>by
    unfold Zan.b1
    simp only[(by decide:decide ((2:Int)<2)=false),cond_false]) hp m
   exact⟨p',by rw[g1];rfl,g2⟩
  ·simp only[decide_eq_false hz,cond_false]
   obtain⟨p',g1,g2⟩:=Zj6 (w:=w) hw (body:=Zan.b1_2 (m+3) w) (c:=fun s=>decide (ZpH .i64 (Int.fdiv 0 (2 ^ (min (Int.toNat (s:Int)) 64))) 1=(1:Int))) (fun s p hs hp=>by
    unfold Zan.b1_2
    simp only[decide_eq_true (show (s:Int)<2 by omega),cond_true,sh0 s hs,Option.bind_some]) (fun p=>by
    unfold Zan.b1_2
    simp only[(by decide:decide ((2:Int)<2)=false),cond_false]) hp m
   exact⟨p',by rw[g1];rfl,g2⟩
 have key:∀ (n i m:Nat) (p:List Pg),i+n=d.Wait.length→n<m→p.length=602→Btw d.Pages (mend d.Pages d.Wait) p→
   ∃ p',whl (Zan.b0 k picks ⟨d⟩) m ((i:Int),p)=some (.brk p')∧p'.length=602∧Btw d.Pages (mend d.Pages d.Wait) p':=by
  intro n
  induction n with
  |zero=>
   intro i m p g1 g2 g3 g4
   obtain⟨m,rfl⟩:∃ q,m=q+1:=⟨m - 1,by omega⟩
   have hb:Zan.b0 k picks ⟨d⟩ ((i:Int),p)=some (.brk p):=by
    unfold Zan.b0
    simp only[decide_eq_false (show ¬ (i:Int)<((d.Wait.length:Nat):Int) by omega),cond_false]
   exact⟨p,by simp only[whl,hb],g3,g4⟩
  |succ n ih=>
   intro i m p g1 g2 g3 g4
   obtain⟨m,rfl⟩:∃ q,m=q+1:=⟨m - 1,by omega⟩
   obtain⟨w,hw⟩:∃ w,d.Wait[i]?=some w:=⟨_,gG (by omega)⟩
   obtain⟨p1,a1,a2,a3⟩:=step i w p hw g3
   have hww:w64 ((i:Int)+1)=((i+1:Nat):Int):=by rw[ZaD (by omega) (by omega)];omega
   rw[hww]at a1
   obtain⟨p',b1,b2⟩:=ih (i+1) m p1 (by omega) (by omega) a2 (fun j s=>by
    rcases a3 j s with e|⟨e1,e2⟩
    ·rw[e];exact g4 j s
    ·rw[e2,e1];exact hW w (List.mem_of_getElem? hw) s)
   exact⟨p',by simp only[whl,a1,b1],b2⟩
 unfold Zan
 rw[Zdj hd.ok,ZdU hk,hd.ok]
 simp only[Option.bind_some,Bool.not_true,cond_false]
 obtain⟨p',b1,b2,b3⟩:=key d.Wait.length 0 k d.Pages (by omega) (by omega) h1 (fun j s=>.inl rfl)
 rw[Int.natCast_zero]at b1
 exact⟨p',by rw[b1];rfl,b2,b3⟩
end Go.Abs
namespace Go.Abs
open Go Go.Proofs
set_option maxRecDepth 20000
set_option linter.unusedVariables false
set_option linter.unusedSimpArgs false
def pz:Pg:=Vec.rep 2 hz
def wsR (p:List Pg) (a u:Nat) (l:List Hf):Nat→Nat→List Write
 |0,_=>[]
 |f+1,i=>match l[i]? with
  |none=>[]
  |some x=>if (u+i) % 2=1 then ⟨((301*a+(u+i) / 2:Nat):Int),((p[301*a+(u+i) / 2]?).getD pz).set 1 x⟩::wsR p a u l f (i+1) else match l[i+1]? with
   |none=>[⟨((301*a+(u+i) / 2:Nat):Int),((p[301*a+(u+i) / 2]?).getD pz).set 0 x⟩]
   |some y=>⟨((301*a+(u+i) / 2:Nat):Int),(((p[301*a+(u+i) / 2]?).getD pz).set 0 x).set 1 y⟩::wsR p a u l f (i+2)
theorem ZnN {k:Nat} (hk:1000000<k) {p:List Pg} (hp:p.length=602) {a u:Nat} (ha:a≤1) {l:List Hf} (hul:u+l.length≤602):∀ (f i m:Nat) (ws:List Write),l.length - i≤f→f<m→i≤l.length→ws.length+f≤100000→
  whl (Zag.b0 k (a:Int) (u:Int) l ⟨⟨p,[]⟩⟩) m ((i:Int),ws)=some (.brk (ws++wsR p a u l f i)):=by
 intro f
 induction f with
 |zero=>
  intro i m ws h1 h2 h3 h4
  obtain⟨m,rfl⟩:∃ q,m=q+1:=⟨m - 1,by omega⟩
  have hb:Zag.b0 k (a:Int) (u:Int) l ⟨⟨p,[]⟩⟩ ((i:Int),ws)=some (.brk ws):=by
   unfold Zag.b0
   simp only[decide_eq_false (show ¬ (i:Int)<(l.length:Int) by omega),cond_false]
  simp only[whl,hb,wsR,List.append_nil]
 |succ f ih=>
  intro i m ws h1 h2 h3 h4
  obtain⟨m,rfl⟩:∃ q,m=q+1:=⟨m - 1,by omega⟩
  by_cases hi:i<l.length
  ·obtain⟨x,hx⟩:∃ x,l[i]?=some x:=⟨_,gG hi⟩
   have hui:w64 ((u:Int)+(i:Int))=((u+i:Nat):Int):=by rw[ZaD (by omega) (by omega)];omega
   have hw1:w64 ((i:Int)+1)=((i+1:Nat):Int):=by rw[ZaD (by omega) (by omega)];omega
   have hui1:w64 ((u:Int)+((i+1:Nat):Int))=((u+(i+1):Nat):Int):=by rw[ZaD (by omega) (by omega)];omega
   have hg:p[301*a+(u+i) / 2]?=some (p[301*a+(u+i) / 2]'(by omega)):=gG (by omega)
   obtain⟨g,hg'⟩:∃ g,p[301*a+(u+i) / 2]?=some g:=⟨_,hg⟩
   have hpg:=ZtP hp ha (show u+i<602 by omega)
   obtain⟨k',rfl⟩:∃ k',k=k'+2:=⟨k - 2,by omega⟩
   have hpush:∀ v:Write,ZeY 72 ws v=some (ws++[v]):=fun v=>Zi9 (by omega) (by omega)
   by_cases hodd:(u+i) % 2=1
   ·have hin:Zag.b1 (k'+2) (u:Int) l (g,(i:Int))=some (.brk (g.set 1 x,((i+1:Nat):Int))):=by
     unfold Zag.b1
     have hm:Int.tmod ((u+i:Nat):Int) 2=((1:Nat):Int):=by rw[ZsL,hodd]
     have hm1:Int.tmod ((u+(i+1):Nat):Int) 2=0:=by rw[ZsL];omega
     simp only[ZcV hx,Option.bind_some,hui,hm,ZtG g (show 1<2 by decide),hw1,hui1,hm1,decide_true,cond_true]
     cases decide (((i+1:Nat):Int)=(l.length:Int))<;>rfl
    have hb:Zag.b0 (k'+2) (a:Int) (u:Int) l ⟨⟨p,[]⟩⟩ ((i:Int),ws)=some (.next (((i+1:Nat):Int),ws++[⟨((301*a+(u+i) / 2:Nat):Int),g.set 1 x⟩])):=by
     unfold Zag.b0
     simp only[decide_eq_true (show (i:Int)<(l.length:Int) by omega),cond_true,hui,hpg,ZcV hg',Option.bind_some,whl,hin,hpush]
    simp only[whl,hb]
    rw[ih (i+1) m _ (by omega) (by omega) (by omega) (by simp;omega)]
    rw[wsR,hx]
    simp only[if_pos hodd,hg',Option.getD_some]
    simp
   ·have hm:Int.tmod ((u+i:Nat):Int) 2=((0:Nat):Int):=by rw[ZsL];omega
    have hm1:¬ Int.tmod ((u+(i+1):Nat):Int) 2=0:=by rw[ZsL];omega
    by_cases hl1:i+1=l.length
    ·have hin:Zag.b1 (k'+2) (u:Int) l (g,(i:Int))=some (.brk (g.set 0 x,((i+1:Nat):Int))):=by
      unfold Zag.b1
      simp only[ZcV hx,Option.bind_some,hui,hm,ZtG g (show 0<2 by decide),hw1,decide_eq_true (show ((i+1:Nat):Int)=(l.length:Int) by omega),Bool.not_true,cond_false]
      rfl
     have hb:Zag.b0 (k'+2) (a:Int) (u:Int) l ⟨⟨p,[]⟩⟩ ((i:Int),ws)=some (.next (((i+1:Nat):Int),ws++[⟨((301*a+(u+i) / 2:Nat):Int),g.set 0 x⟩])):=by
      unfold Zag.b0
      simp only[decide_eq_true (show (i:Int)<(l.length:Int) by omega),cond_true,hui,hpg,ZcV hg',Option.bind_some,whl,hin,hpush]
     have hn:l[i+1]?=none:=List.getElem?_eq_none (by omega)
     have hend:wsR p a u l f (i+1)=[]:=by
      cases f with
      |zero=>rfl
      |succ f=>rw[wsR,hn]
     simp only[whl,hb]
     rw[ih (i+1) m _ (by omega) (by omega) (by omega) (by simp;omega),hend]
     rw[wsR,hx]
     simp only[if_neg hodd,hn,hg',Option.getD_some]
     simp
    ·obtain⟨y,hy⟩:∃ y,l[i+1]?=some y:=⟨_,gG (by omega)⟩
     have hw2:w64 (((i+1:Nat):Int)+1)=((i+2:Nat):Int):=by rw[ZaD (by omega) (by omega)];omega
     have hui2:w64 ((u:Int)+((i+2:Nat):Int))=((u+(i+2):Nat):Int):=by rw[ZaD (by omega) (by omega)];omega
     have hm2:Int.tmod ((u+(i+1):Nat):Int) 2=((1:Nat):Int):=by rw[ZsL];omega
     have hm3:Int.tmod ((u+(i+2):Nat):Int) 2=0:=by rw[ZsL];omega
     have hin0:Zag.b1 (k'+2) (u:Int) l (g,(i:Int))=some (.next (g.set 0 x,((i+1:Nat):Int))):=by
      unfold Zag.b1
      simp only[ZcV hx,Option.bind_some,hui,hm,ZtG g (show 0<2 by decide),hw1,decide_eq_false (show ¬ ((i+1:Nat):Int)=(l.length:Int) by omega),Bool.not_false,cond_true,hui1,decide_eq_false hm1,cond_false]
      rfl
     have hin1:Zag.b1 (k'+2) (u:Int) l (g.set 0 x,((i+1:Nat):Int))=some (.brk ((g.set 0 x).set 1 y,((i+2:Nat):Int))):=by
      unfold Zag.b1
      simp only[ZcV hy,Option.bind_some,hui1,hm2,ZtG (g.set 0 x) (show 1<2 by decide),hw2,hui2,hm3,decide_true,cond_true]
      cases decide (((i+2:Nat):Int)=(l.length:Int))<;>rfl
     have hb:Zag.b0 (k'+2) (a:Int) (u:Int) l ⟨⟨p,[]⟩⟩ ((i:Int),ws)=some (.next (((i+2:Nat):Int),ws++[⟨((301*a+(u+i) / 2:Nat):Int),(g.set 0 x).set 1 y⟩])):=by
      unfold Zag.b0
      simp only[decide_eq_true (show (i:Int)<(l.length:Int) by omega),cond_true,hui,hpg,ZcV hg',Option.bind_some,whl,hin0,hin1,hpush]
     simp only[whl,hb]
     rw[ih (i+2) m _ (by omega) (by omega) (by omega) (by simp;omega)]
     rw[wsR,hx]
     simp only[if_neg hodd,hy,hg',Option.getD_some]
     simp
  ·have hn:l[i]?=none:=List.getElem?_eq_none (by omega)
   have hb:Zag.b0 k (a:Int) (u:Int) l ⟨⟨p,[]⟩⟩ ((i:Int),ws)=some (.brk ws):=by
    unfold Zag.b0
    simp only[decide_eq_false (show ¬ (i:Int)<(l.length:Int) by omega),cond_false]
   simp only[whl,hb]
   rw[wsR,hn]
   simp
abbrev ZgO (a u i n j s:Nat):Prop:=301*a≤j∧j<301*a+301∧u+i≤2*(j - 301*a)+s∧2*(j - 301*a)+s<u+n
def tg (p:List Pg) (a u:Nat) (l:List Hf) (i j s:Nat):Hf:=if ZgO a u i l.length j s then (l[2*(j - 301*a)+s - u]?).getD hz else ph p j s
theorem Zvp {p:List Pg}{s:Nat} (hs:2≤s) (j:Nat):ph p j s=hz:=by
 unfold ph
 split
 ·rename_i g _
  have:=g.h
  rw[List.getElem?_eq_none (by omega)];rfl
 ·rfl
theorem ZvI {g:Pg}{s:Nat} (hs:2≤s):sd g s=hz:=by
 have:=g.h
 unfold sd
 rw[List.getElem?_eq_none (by omega)];rfl
theorem Zkk (p:List Pg) (a u:Nat) (l:List Hf):∀ f i,(wsR p a u l f i).length≤l.length - i
 |0,i=>by simp[wsR]
 |f+1,i=>by
  rw[wsR]
  cases hx:l[i]? with
  |none=>simp
  |some x=>
   have hi:=(gS.1 hx).1
   simp only
   split
   ·have:=Zkk p a u l f (i+1)
    rw[List.length_cons];omega
   ·cases hy:l[i+1]? with
    |none=>simp;omega
    |some y=>
     have hi1:=(gS.1 hy).1
     have:=Zkk p a u l f (i+2)
     simp only[List.length_cons];omega
theorem ZpE {p:List Pg} (hp:p.length=602) {a u:Nat} (ha:a≤1) {l:List Hf} (hul:u+l.length≤602):∀ f i,((u+i) % 2=1→i=0)→∀ w∈wsR p a u l f i,(0≤w.At∧w.At≤601)∧∀ s,s<2→sd w.Page s=tg p a u l 0 w.At.toNat s
 |0,i,_,w,hw=>by simp[wsR]at hw
 |f+1,i,ho,w,hw=>by
  rw[wsR]at hw
  cases hx:l[i]? with
  |none=>rw[hx]at hw;simp at hw
  |some x=>
   have hi:=(gS.1 hx).1
   have hg:p[301*a+(u+i) / 2]?=some (p[301*a+(u+i) / 2]'(by omega)):=gG (by omega)
   obtain⟨g,hg'⟩:∃ g,p[301*a+(u+i) / 2]?=some g:=⟨_,hg⟩
   rw[hx]at hw
   simp only[hg',Option.getD_some]at hw
   split at hw
   ·rename_i hodd
    rcases List.mem_cons.1 hw with rfl|hw
    ·refine⟨by simp only;omega,fun s hs=>?_⟩
     simp only[Int.toNat_natCast]
     rw[show (1:Int)=((1:Nat):Int) from rfl,Zgf g (show 1<2 by decide)]
     have h0:=ho hodd
     unfold tg ZgO
     by_cases e:s=1
     ·rw[if_pos e,if_pos (by omega),show 2*(301*a+(u+i) / 2 - 301*a)+s - u=i by omega,hx];rfl
     ·rw[if_neg e,if_neg (by omega),ZgW hg']
    ·exact ZpE hp ha hul f (i+1) (by omega) w hw
   ·rename_i hev
    cases hy:l[i+1]? with
    |none=>
     have hi1:l.length≤i+1:=List.getElem?_eq_none_iff.1 hy
     rw[hy]at hw
     simp only[List.mem_singleton]at hw
     subst hw
     refine⟨by simp only;omega,fun s hs=>?_⟩
     simp only[Int.toNat_natCast]
     rw[show (0:Int)=((0:Nat):Int) from rfl,Zgf g (show 0<2 by decide)]
     unfold tg ZgO
     by_cases e:s=0
     ·rw[if_pos e,if_pos (by omega),show 2*(301*a+(u+i) / 2 - 301*a)+s - u=i by omega,hx];rfl
     ·rw[if_neg e,if_neg (by omega),ZgW hg']
    |some y=>
     have hi1:=(gS.1 hy).1
     rw[hy]at hw
     simp only at hw
     rcases List.mem_cons.1 hw with rfl|hw
     ·refine⟨by simp only;omega,fun s hs=>?_⟩
      simp only[Int.toNat_natCast]
      rw[show (1:Int)=((1:Nat):Int) from rfl,Zgf _ (show 1<2 by decide),show (0:Int)=((0:Nat):Int) from rfl,Zgf g (show 0<2 by decide)]
      unfold tg ZgO
      by_cases e:s=1
      ·rw[if_pos e,if_pos (by omega),show 2*(301*a+(u+i) / 2 - 301*a)+s - u=i+1 by omega,hy];rfl
      ·rw[if_neg e,if_pos (by omega),if_pos (by omega),show 2*(301*a+(u+i) / 2 - 301*a)+s - u=i by omega,hx];rfl
     ·exact ZpE hp ha hul f (i+2) (by omega) w hw
theorem Zkn {p:List Pg} (hp:p.length=602) {a u:Nat} (ha:a≤1) {l:List Hf} (hul:u+l.length≤602):∀ (f i:Nat) (q:List Pg),l.length - i≤f→((u+i) % 2=1→i=0)→q.length=602→(∀ j,301*a+(u+i) / 2≤j→q[j]?=p[j]?)→∀ j s,s<2→ph (mend q (wsR p a u l f i)) j s=tg q a u l i j s
 |0,i,q,hf,_,hq,hqp,j,s,hs=>by
  unfold wsR mend tg ZgO
  rw[List.foldl_nil,if_neg (by omega)]
 |f+1,i,q,hf,ho,hq,hqp,j,s,hs=>by
  rw[wsR]
  cases hx:l[i]? with
  |none=>
   have hi:l.length≤i:=List.getElem?_eq_none_iff.1 hx
   unfold mend tg ZgO
   rw[List.foldl_nil,if_neg (by omega)]
  |some x=>
   have hi:=(gS.1 hx).1
   have hg:p[301*a+(u+i) / 2]?=some (p[301*a+(u+i) / 2]'(by omega)):=gG (by omega)
   obtain⟨g,hg'⟩:∃ g,p[301*a+(u+i) / 2]?=some g:=⟨_,hg⟩
   have hqg:q[301*a+(u+i) / 2]?=some g:=by rw[hqp _ (Nat.le_refl _)];exact hg'
   have hjl:301*a+(u+i) / 2<q.length:=by omega
   simp only[hg',Option.getD_some]
   split
   ·rename_i hodd
    have h0:=ho hodd
    unfold mend
    rw[List.foldl_cons]
    simp only[Int.toNat_natCast]
    have:=Zkn hp ha hul f (i+1) (q.set (301*a+(u+i) / 2) (g.set 1 x)) (by omega) (by omega) (by rw[List.length_set];exact hq) (fun j hj=>by rw[List.getElem?_set_ne (by omega)];exact hqp j (by omega)) j s hs
    unfold mend at this
    rw[this]
    unfold tg ZgO
    rw[Zlr hjl,show (1:Int)=((1:Nat):Int) from rfl,Zgf g (show 1<2 by decide)]
    by_cases ej:j=301*a+(u+i) / 2
    ·rw[if_pos ej,if_neg (by omega)]
     by_cases e:s=1
     ·rw[if_pos e,if_pos (by omega),show 2*(j - 301*a)+s - u=i by omega,hx];rfl
     ·rw[if_neg e,if_neg (by omega),ej,ZgW hqg]
    ·rw[if_neg ej]
     by_cases hc:301*a≤j∧j<301*a+301∧u+(i+1)≤2*(j - 301*a)+s∧2*(j - 301*a)+s<u+l.length
     ·rw[if_pos hc,if_pos (by omega)]
     ·rw[if_neg hc,if_neg (by omega)]
   ·rename_i hev
    cases hy:l[i+1]? with
    |none=>
     have hi1:l.length≤i+1:=List.getElem?_eq_none_iff.1 hy
     unfold mend tg ZgO
     simp only[List.foldl_cons,List.foldl_nil,Int.toNat_natCast]
     rw[Zlr hjl,show (0:Int)=((0:Nat):Int) from rfl,Zgf g (show 0<2 by decide)]
     by_cases ej:j=301*a+(u+i) / 2
     ·rw[if_pos ej]
      by_cases e:s=0
      ·rw[if_pos e,if_pos (by omega),show 2*(j - 301*a)+s - u=i by omega,hx];rfl
      ·rw[if_neg e,if_neg (by omega),ej,ZgW hqg]
     ·rw[if_neg ej,if_neg (by omega)]
    |some y=>
     have hi1:=(gS.1 hy).1
     unfold mend
     simp only
     rw[List.foldl_cons]
     simp only[Int.toNat_natCast]
     have:=Zkn hp ha hul f (i+2) (q.set (301*a+(u+i) / 2) ((g.set 0 x).set 1 y)) (by omega) (by omega) (by rw[List.length_set];exact hq) (fun j hj=>by rw[List.getElem?_set_ne (by omega)];exact hqp j (by omega)) j s hs
     unfold mend at this
     rw[this]
     unfold tg ZgO
     rw[Zlr hjl,show (1:Int)=((1:Nat):Int) from rfl,Zgf _ (show 1<2 by decide),show (0:Int)=((0:Nat):Int) from rfl,Zgf g (show 0<2 by decide)]
     by_cases ej:j=301*a+(u+i) / 2
     ·rw[if_pos ej,if_neg (by omega)]
      by_cases e:s=1
      ·rw[if_pos e,if_pos (by omega),show 2*(j - 301*a)+s - u=i+1 by omega,hy];rfl
      ·rw[if_neg e,if_pos (by omega),if_pos (by omega),show 2*(j - 301*a)+s - u=i by omega,hx];rfl
     ·rw[if_neg ej]
      by_cases hc:301*a≤j∧j<301*a+301∧u+(i+2)≤2*(j - 301*a)+s∧2*(j - 301*a)+s<u+l.length
      ·rw[if_pos hc,if_pos (by omega)]
      ·rw[if_neg hc,if_neg (by omega)]
theorem Zr2 {k:Nat} (hk:1000000<k) {d:Disk} (hd:DB d) {a u:Nat} (ha:a≤1) {l:List Hf} (hul:u+l.length≤602):
  Zag k ⟨d⟩ (a:Int) (u:Int) l=some ⟨⟨d.Pages,d.Wait++wsR (mend d.Pages d.Wait) a u l l.length 0⟩⟩:=by
 obtain⟨h1,h2,h3⟩:=Zeb.1 hd.ok
 unfold Zag
 simp only
 rw[Zdj hd.ok]
 simp only[Option.bind_some]
 rw[ZfK hk hd.ok]
 simp only[Option.bind_some]
 have:=ZnN hk hd.len ha hul l.length 0 k d.Wait (by omega) (by omega) (by omega) (by omega)
 rw[Int.natCast_zero]at this
 rw[this]
 rfl
theorem ZnX {k:Nat} (hk:1000000<k) {d:Disk} (hd:DB d) {l:Ledger}{q:Nat×Ar} (hL:LedOK d l q) {r:Record} (hr:Zfw r=true) (hs:Srt Za2 l.Book.Records) (hh:∀ x∈l.Book.Records,ZdH x) {b':List Record} (ha:ZjC l.Book.Records r=(b',0)) (hne:b'.length≠l.Book.Records.length)
  (hsp:q.2.used+(Za5 r (l.Book.Records.length:Int) l.Epoch).length≤602) (hwt:d.Wait.length+(Za5 r (l.Book.Records.length:Int) l.Epoch).length≤1200):
  Zbo k d l r=some (⟨d.Pages,d.Wait++wsR (mend d.Pages d.Wait) q.1 q.2.used (Za5 r (l.Book.Records.length:Int) l.Epoch) (Za5 r (l.Book.Records.length:Int) l.Epoch).length 0⟩,⟨⟨b'⟩,l.Area,l.Epoch,((q.2.used+(Za5 r (l.Book.Records.length:Int) l.Epoch).length:Nat):Int)⟩,0):=by
 have hbl:l.Book.Records.length≤60:=by rw[hL.book];exact hL.short
 have hws:=Zkk (mend d.Pages d.Wait) q.1 q.2.used (Za5 r (l.Book.Records.length:Int) l.Epoch) (Za5 r (l.Book.Records.length:Int) l.Epoch).length 0
 have ht:=ZgZ hr
 unfold Zbo
 rw[ZdZ hk hd hL]
 simp only[Option.bind_some,decide_true,Bool.not_true,cond_false]
 rw[Ze3 hk (b:=l.Book) hs (show l.Book.Records.length≤900 by omega) hh,hr,ha]
 simp only[cond_true,Option.bind_some,decide_true,Bool.not_true,cond_false]
 rw[Zdj hd.ok]
 simp only[Option.bind_some]
 unfold Zbe
 rw[ZdP (show l.Book.Records.length≤1000 by omega)]
 simp only[Option.bind_some,decide_eq_false (show ¬ ((b'.length:Nat):Int)=(l.Book.Records.length:Int) by omega),cond_false]
 rw[ZiB (show 100000<k by omega) ht]
 have hH:(List.range (ZbC (enc r).length)).map (Zdk l.Epoch (l.Book.Records.length:Int) (ZbC (enc r).length) (enc r))=Za5 r (l.Book.Records.length:Int) l.Epoch:=rfl
 rw[hH]
 have hu:w64 (l.Used+((Za5 r (l.Book.Records.length:Int) l.Epoch).length:Int))=((q.2.used+(Za5 r (l.Book.Records.length:Int) l.Epoch).length:Nat):Int):=by
  rw[hL.used,ZaD (by omega) (by omega)];omega
 have hw:=Zr2 hk hd hL.le hsp
 rw[←hL.area,←hL.used]at hw
 simp only[Option.bind_some,hu,decide_eq_false (show ¬ (602:Int)<((q.2.used+(Za5 r (l.Book.Records.length:Int) l.Epoch).length:Nat):Int) by omega),cond_false,hw]
 rw[decide_eq_false (show ¬ (1200:Int)<(((d.Wait++wsR (mend d.Pages d.Wait) q.1 q.2.used (Za5 r (l.Book.Records.length:Int) l.Epoch) (Za5 r (l.Book.Records.length:Int) l.Epoch).length 0).length:Nat):Int) by rw[List.length_append];omega)]
 rfl
theorem Zl8 {k:Nat} (hk:1000000<k) {d:Disk} (hd:DB d) {l:Ledger}{q:Nat×Ar} (hL:LedOK d l q) {r:Record} (hr:Zfw r=true) (hs:Srt Za2 l.Book.Records) (hh:∀ x∈l.Book.Records,ZdH x) (ha:ZjC l.Book.Records r=(l.Book.Records,0)):
  Zbo k d l r=some (d,l,0):=by
 have hbl:l.Book.Records.length≤60:=by rw[hL.book];exact hL.short
 unfold Zbo
 rw[ZdZ hk hd hL]
 simp only[Option.bind_some,decide_true,Bool.not_true,cond_false]
 rw[Ze3 hk (b:=l.Book) hs (show l.Book.Records.length≤900 by omega) hh,hr,ha]
 simp only[cond_true,Option.bind_some,decide_true,Bool.not_true,cond_false]
 rw[Zdj hd.ok]
 simp only[Option.bind_some]
 unfold Zbe
 rw[ZdP (show l.Book.Records.length≤1000 by omega)]
 simp only[Option.bind_some,decide_true,cond_true]
def ZlU:List Pg:=(List.replicate 602 pz).set 0 (pz.set 0 (ZcJ 1 0))
theorem ZoE (k:Nat):ZfR k=some (⟨ZlU,[]⟩,⟨⟨[]⟩,0,1,1⟩):=by
 have hm:ZpI 602 64 ((Vec.rep 2 ((Vec.rep 32 (0:Int)):(Vec 32 Int))):(Vec 2 (Vec 32 Int)))=some (List.replicate 602 pz):=by
  unfold ZpI mk?
  rw[if_pos (by decide)]
  rfl
 have hl:(List.replicate 602 pz).length=602:=List.length_replicate
 have h0:(List.replicate 602 pz)[0]?=some pz:=by rw[List.getElem?_replicate];rfl
 have ha:at? (List.replicate 602 pz) 0=some pz:=ZcV h0
 have hp0:pz.at? 0=some hz:=rfl
 unfold ZfR
 rw[hm]
 simp only[Option.bind_some,Zjr,ha,hp0]
 unfold ZlT
 rw[if_pos (by rw[hl];decide)]
 rfl
end Go.Abs
namespace Go.Abs
open Go Go.Proofs
set_option maxRecDepth 20000
set_option linter.unusedVariables false
set_option linter.unusedSimpArgs false
def Zg1 (p q:List Pg) (a:Nat):Prop:=∀ i,i<602→hf p a i=hf q a i
theorem HasRec.congr {p q:List Pg}{a f n:Nat}{r:Record}{e:Int} (h:HasRec p a f n r e) (hs:∀ i,f≤i→i<f+(Za5 r n e).length→hf p a i=hf q a i):HasRec q a f n r e:=
 ⟨h.ok,h.ep,h.run.1,fun i x hx=>by
  have:=(gS.1 hx).1
  rw[←hs (f+i) (by omega) (by omega)];exact h.run.2 i x hx⟩
theorem Zml {p q:List Pg} (hp:PgB p) (hq:PgB q) {a:Nat} (hs:Zg1 p q a) (f n:Nat):Zhz p a f n=Zhz q a f n:=by
 apply Option.ext
 intro x
 rw[Zdm hp,Zdm hq]
 constructor
 ·rintro⟨h,e⟩
  have:=h.run.1
  exact⟨h.congr (fun i _ hi=>hs i (by omega)),e⟩
 ·rintro⟨h,e⟩
  have:=h.run.1
  exact⟨h.congr (fun i _ hi=>(hs i (by omega)).symm),e⟩
theorem Zm9 {p q:List Pg} (hp:PgB p) (hq:PgB q) {a:Nat} (hs:Zg1 p q a):∀ (m:Nat) (b:List Record) (e:Int) (u n:Nat),rd p a m b e u n=rd q a m b e u n
 |0,_,_,_,_=>rfl
 |m+1,b,e,u,n=>by
  rw[rd,rd,Zml hp hq hs]
  cases Zhz q a u n with
  |none=>rfl
  |some x=>
   simp only
   split
   ·rfl
   ·cases ZeG b x.1 with
    |none=>rfl
    |some b'=>simp only;rw[Zm9 hp hq hs m]
theorem Zif {p q:List Pg} (hp:PgB p) (hq:PgB q) {a:Nat} (hs:Zg1 p q a):ZdY p a=ZdY q a:=by
 unfold ZdY Ztm
 rw[hs 0 (by decide),Zm9 hp hq hs]
theorem Zof (e n:Int):bt (ZcJ e n) 0=104∧bt (ZcJ e n) 1=IntKind.u8.wrap (Int.fdiv e (2 ^ 16))∧bt (ZcJ e n) 2=IntKind.u8.wrap (Int.fdiv e (2 ^ 8))∧bt (ZcJ e n) 3=IntKind.u8.wrap e∧bt (ZcJ e n) 4=IntKind.u8.wrap (Int.fdiv n (2 ^ 8))∧bt (ZcJ e n) 5=IntKind.u8.wrap n∧bt (ZcJ e n) 31=165:=
 ⟨rfl,rfl,rfl,rfl,rfl,rfl,rfl⟩
theorem ZjM {e:Int} (he:1≤e∧e≤1000000) (n:Int):epH (ZcJ e n)=e:=by
 obtain⟨h0,h1,h2,h3,_,_,h31⟩:=Zof e n
 have hr:rdV [bt (ZcJ e n) 1,bt (ZcJ e n) 2,bt (ZcJ e n) 3]=e:=by
  rw[h1,h2,h3,←Zd2,rd3 (by omega) (by omega)]
 unfold epH
 rw[hr,if_pos ⟨.inl h0,h31,he.2⟩]
theorem Zqw (e:Int) {n:Int} (hn:0≤n∧n<65536):rdV [bt (ZcJ e n) 4,bt (ZcJ e n) 5]=n:=by
 obtain⟨_,_,_,_,h4,h5,_⟩:=Zof e n
 rw[h4,h5,←Zk4,rd2 hn.1 hn.2]
theorem Zm4:epH hz=0:=by decide +kernel
def Zbx (log:List Record):Nat:=1+(log.map fun r=>ZbC (enc r).length).sum
theorem Zly (log:List Record) (r:Record):Zbx (log++[r])=Zbx log+ZbC (enc r).length:=by
 unfold Zbx;simp;omega
theorem Zt3:∀ {log:List Record},(∀ r∈log,Zfw r=true)→Zbx log≤1+10*log.length:=by
 intro log
 induction log with
 |nil=>intro _;simp[Zbx]
 |cons r log ih=>
  intro h
  have h1:=ih (fun x hx=>h x (by simp[hx]))
  have h2:=ZsF (h r (by simp))
  unfold Zbx at *
  simp only[List.map_cons,List.sum_cons,List.length_cons]
  omega
theorem Zeg {log:List Record}{j:Nat}{r:Record} (h:log[j]?=some r):Zbx (log.take (j+1))=Zbx (log.take j)+ZbC (enc r).length:=by
 rw[ZiO h,Zly]
theorem Zf0 {log:List Record}{i j:Nat} (h:i≤j):Zbx (log.take i)≤Zbx (log.take j):=by
 induction j with
 |zero=>rw[show i=0 by omega];exact Nat.le_refl _
 |succ j ih=>
  by_cases e:i=j+1
  ·rw[e];exact Nat.le_refl _
  ·refine Nat.le_trans (ih (by omega)) ?_
   cases hx:log[j]? with
   |some r=>rw[Zeg hx];omega
   |none=>
    have:=List.getElem?_eq_none_iff.1 hx
    rw[List.take_of_length_le (show log.length≤j+1 by omega),List.take_of_length_le this]
    exact Nat.le_refl _
def ZeA (e0:Int) (ep:Nat→Int):Nat→Int
 |0=>e0
 |j+1=>ep j
structure LogOK (log:List Record):Prop where
 ok:∀ r∈log,Zfw r=true
 vl:VL Za2 (fun _=>0) log
 len:log.length≤50
theorem LogOK.take {log:List Record} (h:LogOK log) (n:Nat):LogOK (log.take n):=⟨fun r hr=>h.ok r (List.mem_of_mem_take hr),Ze1 Za2 h.vl n,by
 have:=h.len
 rw[List.length_take];omega⟩
theorem LogOK.bi {log:List Record} (h:LogOK log):BI Za2 log (bk Za2 [] log):=BI.of Za2 h.vl
theorem LogOK.no {log:List Record} (h:LogOK log) {j:Nat}{r:Record} (hx:log[j]?=some r):(Za2 r).2=cnt Za2 (log.take j) (Za2 r).1:=by
 rw[(ZpO Za2).1 h.vl j r hx];exact Int.zero_add _
theorem ZjD (l:List Record) (r:Record):bk Za2 [] (l++[r])=Zjz Za2 (bk Za2 [] l) r:=by
 unfold bk;rw[List.foldl_append];rfl
theorem LogOK.more {log:List Record} (h:LogOK log) {j:Nat}{r:Record} (hx:log[j]?=some r):ZeG (bk Za2 [] (log.take j)) r=some (bk Za2 [] (log.take (j+1))):=by
 have hb:=(h.take j).bi
 have hno:=h.no hx
 have hl:=hb.len
 have h50:=(h.take j).len
 rw[ZiO hx,ZjD]
 refine Zrd (Zm6 Za2 (hb.no Za2 hno)) ?_ (by omega)
 rw[hb.num]
 have:r.At.No=((cnt Za2 (log.take j) r.At.House:Nat):Int):=hno
 omega
def Zgn (log:List Record) (j n:Nat):List (Record×Nat):=(List.range' j n).map fun i=>((log[i]?).getD Zvy,Zbx (log.take (i+1)))
theorem ZkF (log:List Record):∀ (n j:Nat),j+n≤log.length→fin (bk Za2 [] (log.take j),Zbx (log.take j)) (Zgn log j n)=(bk Za2 [] (log.take (j+n)),Zbx (log.take (j+n)))
 |0,j,_=>rfl
 |n+1,j,h=>by
  obtain⟨r,hr⟩:∃ r,log[j]?=some r:=⟨_,gG (by omega)⟩
  unfold Zgn fin
  rw[List.range'_succ,List.map_cons,List.foldl_cons,hr]
  simp only[Option.getD_some]
  have:=ZkF log n (j+1) (by omega)
  unfold Zgn fin at this
  rw[ZiO hr,ZjD,←ZiO hr]at this
  rw[this,show j+1+n=j+(n+1) by omega]
theorem ZrJ {p:List Pg} (hb:PgB p) {a:Nat}{log:List Record} (hl:LogOK log) {e0:Int}{ep:Nat→Int}{m:Nat} (hm:m≤log.length)
  (hr:∀ j r,j<m→log[j]?=some r→HasRec p a (Zbx (log.take j)) j r (ep j)) (hmono:∀ j,j<m→ZeA e0 ep j≤ep j)
  (hstop:∀ r e,HasRec p a (Zbx (log.take m)) m r e→ZeA e0 ep m≤e→ZeG (bk Za2 [] (log.take m)) r=none):∀ (F j n:Nat),j+n=m→n<F→rd p a F (bk Za2 [] (log.take j)) (ZeA e0 ep j) (Zbx (log.take j)) j=Zgn log j n
 |0,j,n,h1,h2=>by omega
 |F+1,j,0,h1,h2=>by
  have:j=m:=by omega
  subst this
  rw[rd]
  cases hq:Zhz p a (Zbx (log.take j)) j with
  |none=>rfl
  |some q=>
   have hh:=((Zdm hb).1 hq).1
   simp only
   by_cases he:q.2.1<ZeA e0 ep j
   ·rw[if_pos he];rfl
   ·rw[if_neg he,hstop q.1 q.2.1 hh (by omega)];rfl
 |F+1,j,n+1,h1,h2=>by
  obtain⟨r,hx⟩:∃ r,log[j]?=some r:=⟨_,gG (by omega)⟩
  have hh:=hr j r (by omega) hx
  have hq:=(Zdm hb (q:=(r,ep j,(Za5 r j (ep j)).length))).2 ⟨hh,rfl⟩
  have hmo:=hmono j (by omega)
  have ZbW:Zbx (log.take j)+(Za5 r (j:Int) (ep j)).length=Zbx (log.take (j+1)):=by rw[Zeg hx,Zbi]
  rw[rd,hq]
  simp only
  rw[if_neg (by omega),hl.more hx]
  simp only
  rw[ZbW]
  have:=ZrJ hb hl hm hr hmono hstop F (j+1) n (by omega) (by omega)
  have e:ZeA e0 ep (j+1)=ep j:=rfl
  rw[e]at this
  rw[this]
  unfold Zgn
  rw[List.range'_succ,List.map_cons,hx]
  rfl
theorem Zhu (log:List Record) {m:Nat} (hm:m≤log.length) (e:Int):(Ar.mk e (Zgn log 0 m)).book=bk Za2 [] (log.take m)∧(Ar.mk e (Zgn log 0 m)).used=Zbx (log.take m):=by
 have:=ZkF log m 0 (by omega)
 rw[Nat.zero_add]at this
 unfold Ar.book Ar.used
 simp only
 have e1:(bk Za2 [] (log.take 0),Zbx (log.take 0))=(([]:List Record),1):=rfl
 rw[e1]at this
 rw[this]
 exact⟨rfl,rfl⟩
theorem Zmw {p:List Pg} (hb:PgB p) {a:Nat}{log:List Record} (hl:LogOK log) {e0 c:Int}{ep:Nat→Int}{m:Nat} (hm:m≤log.length) (he:1≤e0∧e0≤1000000) (hc:0≤c∧c≤m) (hh:hf p a 0=ZcJ e0 c)
  (hr:∀ j r,j<m→log[j]?=some r→HasRec p a (Zbx (log.take j)) j r (ep j)) (hmono:∀ j,j<m→ZeA e0 ep j≤ep j)
  (hstop:∀ r e,HasRec p a (Zbx (log.take m)) m r e→ZeA e0 ep m≤e→ZeG (bk Za2 [] (log.take m)) r=none):ZdY p a=some ⟨e0,Zgn log 0 m⟩:=by
 have h50:=hl.len
 have hE:epH (hf p a 0)=e0:=by rw[hh];exact ZjM he c
 have hC:rdV [bt (hf p a 0) 4,bt (hf p a 0) 5]=c:=by rw[hh];exact Zqw e0 (by omega)
 have hrd:Ztm p a=Zgn log 0 m:=by
  unfold Ztm
  rw[hE]
  exact ZrJ hb hl hm hr hmono hstop 100 0 m (by omega) (by omega)
 unfold ZdY
 rw[hE,hC,hrd,if_pos ⟨by omega,hh,by simp[Zgn];omega⟩]
theorem Zll {p:List Pg}{a:Nat} (ha:a≤1) {x:Ar} (h:ZdY p a=some x) (hp:∀ y,ZdY p (1 - a)=some y→if a=0 then y.epoch≤x.epoch else y.epoch<x.epoch):Zi4 p=some (a,x):=by
 unfold Zi4
 rcases Nat.le_one_iff_eq_zero_or_eq_one.1 ha with rfl|rfl
 ·rw[h]
  cases hy:ZdY p 1 with
  |none=>rfl
  |some y=>
   have h1:y.epoch≤x.epoch:=by simpa using hp y hy
   simp only
   rw[if_neg (by omega)]
 ·rw[h]
  cases hy:ZdY p 0 with
  |none=>rfl
  |some y=>
   have h1:y.epoch<x.epoch:=by simpa using hp y hy
   simp only
   rw[if_pos h1]
end Go.Abs
namespace Go.Abs
open Go Go.Proofs
set_option maxRecDepth 20000
set_option linter.unusedVariables false
set_option linter.unusedSimpArgs false
structure Jr (d:Disk) (l:Ledger) (log:List Record) (firm:Nat) (a:Nat) (e0 c:Int) (ep:Nat→Int):Prop where
 db:DB d
 a1:a≤1
 good:LogOK log
 firmle:firm≤log.length
 area:l.Area=(a:Int)
 book:l.Book=⟨bk Za2 [] log⟩
 used:l.Used=(Zbx log:Int)
 epo:1≤l.Epoch∧l.Epoch≤1000000
 he0:1≤e0∧e0≤1000000
 hc:0≤c∧c≤firm
 headN:hf (mend d.Pages d.Wait) a 0=ZcJ e0 c
 headO:hf d.Pages a 0=ZcJ e0 c
 recs:∀ j r,log[j]?=some r→HasRec (mend d.Pages d.Wait) a (Zbx (log.take j)) j r (ep j)
 mono:∀ j,j<log.length→ZeA e0 ep j≤ep j
 late:∀ j,firm≤j→j<log.length→ep j=l.Epoch
 bound:∀ b i,b≤1→i<602→epH (hf (mend d.Pages d.Wait) b i)≤l.Epoch∧epH (hf d.Pages b i)≤l.Epoch
 free:∀ i,Zbx log≤i→i<602→epH (hf (mend d.Pages d.Wait) a i)<l.Epoch∧hf d.Pages a i=hf (mend d.Pages d.Wait) a i
 firmq:∀ i,i<Zbx (log.take firm)→hf d.Pages a i=hf (mend d.Pages d.Wait) a i
 soft:∀ i,Zbx (log.take firm)≤i→i<Zbx log→epH (hf (mend d.Pages d.Wait) a i)=l.Epoch∧epH (hf d.Pages a i)<l.Epoch
 other:Zg1 d.Pages (mend d.Pages d.Wait) (1 - a)
 pick:∀ y,ZdY (mend d.Pages d.Wait) (1 - a)=some y→if a=0 then y.epoch≤e0 else y.epoch<e0
 stop:∀ r e,HasRec d.Pages a (Zbx (log.take firm)) firm r e→ZeA e0 ep firm≤e→ZeG (bk Za2 [] (log.take firm)) r=none
 waits:∀ w∈d.Wait,∀ s,sd w.Page s=ph d.Pages w.At.toNat s∨sd w.Page s=ph (mend d.Pages d.Wait) w.At.toNat s
 wlen:d.Wait.length≤10*log.length
section
variable {d:Disk}{l:Ledger}{log:List Record}{firm a:Nat}{e0 c:Int}{ep:Nat→Int}
theorem Jr.u602 (h:Jr d l log firm a e0 c ep):Zbx log≤501:=by
 have h1:=Zt3 h.good.ok
 have h2:=h.good.len
 omega
theorem HasRec.ep0 {p:List Pg}{a f n:Nat}{r:Record}{e:Int} (h:HasRec p a f n r e) {i:Nat} (hi:i<(Za5 r n e).length):epH (hf p a (f+i))=e:=by
 obtain⟨x,hx⟩:∃ x,(Za5 r n e)[i]?=some x:=⟨_,gG hi⟩
 rw[h.run.2 i x hx,ZrB hx]
 exact Zm3 h.ep _ _ _ _
theorem HasRec.at0 {p:List Pg}{a f n:Nat}{r:Record}{e:Int} (h:HasRec p a f n r e):epH (hf p a f)=e:=by
 have:=h.ep0 (i:=0) (by rw[Zbi];exact Zfn r)
 simpa using this
theorem Jr.lastE_le (h:Jr d l log firm a e0 c ep):∀ j,j≤log.length→ZeA e0 ep j≤l.Epoch:=by
 intro j hj
 cases j with
 |zero=>
  have:=(h.bound a 0 h.a1 (by decide)).1
  rw[h.headN,ZjM h.he0]at this
  exact this
 |succ j=>
  obtain⟨r,hr⟩:∃ r,log[j]?=some r:=⟨_,gG (by omega)⟩
  have hrec:=h.recs j r hr
  have h1:=hrec.run.1
  have h2:0<(Za5 r (j:Int) (ep j)).length:=by rw[Zbi];exact Zfn r
  have:=(h.bound a (Zbx (log.take j)) h.a1 (by omega)).1
  rw[hrec.at0]at this
  exact this
theorem Jr.stopN (h:Jr d l log firm a e0 c ep):∀ r e,HasRec (mend d.Pages d.Wait) a (Zbx (log.take log.length)) log.length r e→ZeA e0 ep log.length≤e→ZeG (bk Za2 [] (log.take log.length)) r=none:=by
 intro r e hr he
 rw[List.take_length]at hr ⊢
 have h1:=hr.run.1
 have h2:0<(Za5 r (log.length:Int) e).length:=by rw[Zbi];exact Zfn r
 have hf0:=(h.free (Zbx log) (Nat.le_refl _) (by omega)).1
 rw[hr.at0]at hf0
 by_cases hfi:firm=log.length
 ·have:=h.stop r e (by
   rw[hfi,List.take_length]
   exact hr.congr (fun i hi1 hi2=>((h.free i hi1 (by omega)).2).symm)) (by rw[hfi];exact he)
  rw[hfi,List.take_length]at this
  exact this
 ·have hlt:firm<log.length:=by have:=h.firmle;omega
  obtain⟨j,hj⟩:∃ j,log.length=j+1:=⟨log.length - 1,by omega⟩
  rw[hj]at he
  have e1:ZeA e0 ep (j+1)=ep j:=rfl
  rw[e1,h.late j (by omega) (by omega)]at he
  omega
theorem Jr.areaN (h:Jr d l log firm a e0 c ep):ZdY (mend d.Pages d.Wait) a=some ⟨e0,Zgn log 0 log.length⟩:=
 Zmw h.db.new h.good (Nat.le_refl _) h.he0 ⟨h.hc.1,by have:=h.hc.2;have:=h.firmle;omega⟩ h.headN (fun j r hj hr=>h.recs j r hr) (fun j hj=>h.mono j hj) h.stopN
theorem Jr.led (h:Jr d l log firm a e0 c ep):LedOK d l (a,⟨e0,Zgn log 0 log.length⟩):=by
 obtain⟨b1,b2⟩:=Zhu log (Nat.le_refl log.length) e0
 rw[List.take_length]at b1 b2
 have hbl:=h.good.bi.len
 have h50:=h.good.len
 have hu:=h.u602
 refine⟨Zll h.a1 h.areaN h.pick,h.a1,h.area,?_,?_,?_,h.epo,?_,?_,?_⟩
 ·rw[h.used];simp only[b2]
 ·rw[h.book];simp only[b1]
 ·simp only[b1];omega
 ·exact Zln.2 ⟨by have:=h.epo;omega,fun i _ hi=>(h.bound 0 i (by decide) hi).1⟩
 ·exact Zln.2 ⟨by have:=h.epo;omega,fun i _ hi=>(h.bound 1 i (by decide) hi).1⟩
 ·simp only[b2]
  have:mx (mend d.Pages d.Wait) a (Zbx log)≤l.Epoch - 1:=Zln.2 ⟨by have:=h.epo;omega,fun i h1 h2=>by
   have:=(h.free i h1 h2).1;omega⟩
  omega
theorem ZlQ (p:List Pg) (w v:List Write):mend p (w++v)=mend (mend p w) v:=by
 unfold mend;rw[List.foldl_append]
theorem Jr.recsLen (h:Jr d l log firm a e0 c ep) {j:Nat}{r:Record} (hr:log[j]?=some r):Zbx (log.take j)+(Za5 r (j:Int) (ep j)).length=Zbx (log.take (j+1)):=by
 rw[Zeg hr,Zbi]
theorem ZlP {e0:Int}{ep ep':Nat→Int}{n:Nat} (h:∀ j,j<n→ep j=ep' j):∀ j,j≤n→ZeA e0 ep j=ZeA e0 ep' j
 |0,_=>rfl
 |j+1,hj=>h j (by omega)
theorem Jr.append (h:Jr d l log firm a e0 c ep) {r:Record} (hr:Zfw r=true) (hno:(Za2 r).2=cnt Za2 log (Za2 r).1) (ZbW:log.length+1≤50) {k:Nat} (hk:1000000<k):
  ∃ d' l',Zbo k d l r=some (d',l',0)∧l'.Epoch=l.Epoch∧Jr d' l' (log++[r]) firm a e0 c (fun j=>if j=log.length then l.Epoch else ep j):=by
 have hbi:=h.good.bi
 have hbl:=hbi.len
 have hu:=h.u602
 have hH:(Za5 r (l.Book.Records.length:Int) l.Epoch).length=ZbC (enc r).length:=Zbi _ _ _
 have hc10:=ZsF hr
 have hcp:=Zfn r
 have hwl:=h.wlen
 have hfl:=h.firmle
 have hbr:l.Book.Records=bk Za2 [] log:=by rw[h.book]
 have hadd:ZjC l.Book.Records r=(bk Za2 [] (log++[r]),0):=by
  rw[hbr]
  unfold ZjC
  rw[Zm6 Za2 (hbi.no Za2 hno),ZjD]
  simp only
  have e:r.At.No=((cnt Za2 (bk Za2 [] log) r.At.House:Nat):Int):=by
   rw[hbi.num];exact hno
  rw[if_neg (by omega),if_neg (by omega)]
 have husd:=h.led
 have hq2:(Ar.mk e0 (Zgn log 0 log.length)).used=Zbx log:=by
  have:=(Zhu log (Nat.le_refl log.length) e0).2
  rw[List.take_length]at this
  exact this
 have happ:=ZnX hk h.db h.led hr (by rw[hbr];exact hbi.val.1) (by rw[hbr];exact fun x hx=>Zck (h.good.ok x ((hbi.mem x).1 hx))) hadd (by rw[hbr,ZjD,ZgP];omega) (by simp only[hq2];rw[hH];omega) (by rw[hH];omega)
 simp only[hq2]at happ
 have hLen:l.Book.Records.length=log.length:=by rw[hbr,hbl]
 rw[hLen]at happ hH
 have hHl:=hH
 generalize hHdef:Za5 r (log.length:Int) l.Epoch=H at happ hH
 have hul:Zbx log+H.length≤602:=by omega
 have hwok:=ZpE h.db.len h.a1 hul H.length 0 (fun _=>rfl)
 have hmend:=Zkn h.db.len h.a1 hul H.length 0 (mend d.Pages d.Wait) (by omega) (fun _=>rfl) h.db.len (fun j _=>rfl)
 have hwslen:=Zkk (mend d.Pages d.Wait) a (Zbx log) H H.length 0
 generalize wsR (mend d.Pages d.Wait) a (Zbx log) H H.length 0=ws at happ hwok hmend hwslen
 have hne:mend d.Pages (d.Wait++ws)=mend (mend d.Pages d.Wait) ws:=ZlQ _ _ _
 have hhf:∀ b i,b≤1→i<602→hf (mend d.Pages (d.Wait++ws)) b i=if b=a∧Zbx log≤i∧i<Zbx log+H.length then (H[i - Zbx log]?).getD hz else hf (mend d.Pages d.Wait) b i:=by
  intro b i hb hi
  have ha1:=h.a1
  rw[Zo7,hne,hmend _ _ (Nat.mod_lt _ (by decide)),Zo7]
  unfold tg
  by_cases hcnd:b=a∧Zbx log≤i∧i<Zbx log+H.length
  ·obtain⟨rfl,h1,h2⟩:=hcnd
   rw[if_pos (by unfold ZgO;omega),if_pos ⟨rfl,h1,h2⟩,show 2*(301*b+i / 2 - 301*b)+i % 2 - Zbx log=i - Zbx log by omega]
  ·rw[if_neg (by unfold ZgO;omega),if_neg hcnd]
 have hlow:∀ i,i<Zbx log→hf (mend d.Pages (d.Wait++ws)) a i=hf (mend d.Pages d.Wait) a i:=fun i hi=>by
  rw[hhf a i h.a1 (by omega),if_neg (by omega)]
 have hhigh:∀ i,Zbx log+H.length≤i→i<602→hf (mend d.Pages (d.Wait++ws)) a i=hf (mend d.Pages d.Wait) a i:=fun i hi h2=>by
  rw[hhf a i h.a1 h2,if_neg (by omega)]
 have hmid:∀ i,i<H.length→hf (mend d.Pages (d.Wait++ws)) a (Zbx log+i)=(H[i]?).getD hz:=fun i hi=>by
  rw[hhf a _ h.a1 (by omega),if_pos (by omega),Nat.add_sub_cancel_left]
 have hoth:∀ i,i<602→hf (mend d.Pages (d.Wait++ws)) (1 - a) i=hf (mend d.Pages d.Wait) (1 - a) i:=fun i hi=>by
  have ha1:=h.a1
  rw[hhf (1 - a) i (by omega) hi,if_neg (by omega)]
 have hrun:HasRec (mend d.Pages (d.Wait++ws)) a (Zbx log) log.length r l.Epoch:=⟨hr,h.epo,by rw[hHdef];exact hul,fun i x hx=>by
  rw[hHdef]at hx
  rw[hmid i (gS.1 hx).1,hx];rfl⟩
 have hHep:∀ i,i<H.length→epH ((H[i]?).getD hz)=l.Epoch:=fun i hi=>by
  have:=hrun.ep0 (i:=i) (by rw[hHdef];exact hi)
  rw[hmid i hi]at this
  exact this
 have hHb:∀ i,i<H.length→Byt ((H[i]?).getD hz).l:=fun i hi=>by
  obtain⟨x,hx⟩:∃ x,H[i]?=some x:=⟨_,gG hi⟩
  rw[hx]
  simp only[Option.getD_some]
  rw[←hHdef]at hx
  rw[ZrB hx]
  intro y hy
  simp only[Zdk,ZgE,List.mem_append,List.mem_cons,List.not_mem_nil,or_false,List.mem_replicate]at hy
  rcases hy with (((((hy|hy)|hy)|hy)|hy)|hy)
  ·omega
  ·exact ZdB _ _ y hy
  ·exact ZdB _ _ y hy
  ·rcases hy with hy|hy<;>rw[hy,Zmu]<;>omega
  ·rcases hy with hy|hy
   ·exact ZrQ r y (List.mem_of_mem_drop (List.mem_of_mem_take hy))
   ·omega
  ·omega
 have htgb:∀ j s,s<2→Byt (tg (mend d.Pages d.Wait) a (Zbx log) H 0 j s).l:=fun j s hs=>by
  unfold tg
  split
  ·rename_i hcnd
   unfold ZgO at hcnd
   exact hHb _ (by omega)
  ·by_cases hj:j<602
   ·have:=h.db.new
    obtain⟨g,hg⟩:∃ g,(mend d.Pages d.Wait)[j]?=some g:=⟨_,gG (by rw[h.db.len];exact hj)⟩
    rw[ZgW hg]
    have hgl:=g.h
    obtain⟨x,hx⟩:∃ x,g.l[s]?=some x:=⟨_,gG (by omega)⟩
    unfold sd
    rw[hx]
    exact this g (List.mem_of_getElem? hg) x (List.mem_of_getElem? hx)
   ·rw[ZsY (by rw[h.db.len];omega)]
    intro y hy
    have:y=0:=by
     simp only[hz,Vec.rep,List.mem_replicate]at hy
     exact hy.2
    omega
 have hdb:DB ⟨d.Pages,d.Wait++ws⟩:=by
  obtain⟨k1,k2,k3⟩:=Zeb.1 h.db.ok
  refine⟨Zeb.2 ⟨k1,by simp only[List.length_append];omega,fun w hw=>?_⟩,h.db.pb,fun w hw x hx=>?_⟩
  ·rcases List.mem_append.1 hw with g|g
   ·exact k3 w g
   ·exact(hwok w g).1
  ·rcases List.mem_append.1 hw with g|g
   ·exact h.db.wb w g x hx
   ·obtain⟨s,hs⟩:=List.mem_iff_getElem?.1 hx
    have hs2:s<2:=by
     have:=(gS.1 hs).1
     have:=w.Page.h
     omega
    have e:sd w.Page s=x:=by unfold sd;rw[hs];rfl
    rw[←e,(hwok w g).2 s hs2]
    exact htgb _ _ hs2
 have htk:∀ j,j≤log.length→(log++[r]).take j=log.take j:=fun j hj=>List.take_append_of_le_length hj
 have hup:Zbx (log++[r])=Zbx log+H.length:=by rw[Zly,hH]
 have hle2:∀ j,j≤log.length→ZeA e0 (fun j=>if j=log.length then l.Epoch else ep j) j=ZeA e0 ep j:=ZlP (fun j hj=>if_neg (by omega))
 refine⟨_,_,happ,rfl,hdb,h.a1,⟨fun x hx=>?_,?_,?_⟩,by simp;omega,h.area,rfl,?_,h.epo,h.he0,h.hc,?_,h.headO,fun j x hx=>?_,fun j hj=>?_,fun j h1 h2=>?_,fun b i hb hi=>?_,fun i h1 h2=>?_,fun i hi=>?_,fun i h1 h2=>?_,fun i hi=>?_,fun y hy=>?_,?_,fun w hw s=>?_,?_⟩
 ·rcases List.mem_append.1 hx with g|g
  ·exact h.good.ok x g
  ·rw[List.mem_singleton.1 g];exact hr
 ·rw[Zfa]
  exact⟨h.good.vl,by show (Za2 r).2=0+_;omega,trivial⟩
 ·simp;omega
 ·simp only[hup]
 ·show hf (mend d.Pages (d.Wait++ws)) a 0=_
  have hup0:0<Zbx log:=by unfold Zbx;omega
  rw[hlow 0 hup0]
  exact h.headN
 ·show HasRec (mend d.Pages (d.Wait++ws)) a _ j x _
  by_cases hj:j<log.length
  ·rw[List.getElem?_append_left hj]at hx
   rw[htk j (by omega),if_neg (by omega)]
   refine(h.recs j x hx).congr (fun i h1 h2=>?_)
   have:=h.recsLen hx
   have h3:Zbx (log.take (j+1))≤Zbx (log.take log.length):=Zf0 (by omega)
   rw[List.take_length]at h3
   exact(hlow i (by omega)).symm
  ·have hj2:j=log.length:=by
    have:=(gS.1 hx).1
    simp at this
    omega
   subst hj2
   rw[List.getElem?_append_right (Nat.le_refl _),Nat.sub_self]at hx
   obtain rfl:=oi hx
   rw[htk _ (Nat.le_refl _),List.take_length,if_pos rfl]
   exact hrun
 ·rw[List.length_append]at hj
  simp only[List.length_cons,List.length_nil]at hj
  rw[hle2 j (by omega)]
  by_cases hj2:j=log.length
  ·subst hj2
   rw[if_pos rfl]
   exact h.lastE_le _ (Nat.le_refl _)
  ·rw[if_neg hj2]
   exact h.mono j (by omega)
 ·rw[List.length_append]at h2
  simp only[List.length_cons,List.length_nil]at h2
  by_cases hj2:j=log.length
  ·rw[if_pos hj2]
  ·rw[if_neg hj2];exact h.late j h1 (by omega)
 ·refine⟨?_,(h.bound b i hb hi).2⟩
  show epH (hf (mend d.Pages (d.Wait++ws)) b i)≤l.Epoch
  rw[hhf b i hb hi]
  split
  ·rename_i hcnd
   rw[hHep _ (by omega)]
   exact Int.le_refl _
  ·exact(h.bound b i hb hi).1
 ·rw[hup]at h1
  show epH (hf (mend d.Pages (d.Wait++ws)) a i)<l.Epoch∧hf d.Pages a i=hf (mend d.Pages (d.Wait++ws)) a i
  rw[hhigh i h1 h2]
  exact h.free i (by omega) h2
 ·rw[htk firm h.firmle]at hi
  show hf d.Pages a i=hf (mend d.Pages (d.Wait++ws)) a i
  have h3:Zbx (log.take firm)≤Zbx (log.take log.length):=Zf0 h.firmle
  rw[List.take_length]at h3
  rw[hlow i (by omega)]
  exact h.firmq i hi
 ·rw[htk firm h.firmle]at h1
  rw[hup]at h2
  show epH (hf (mend d.Pages (d.Wait++ws)) a i)=l.Epoch∧epH (hf d.Pages a i)<l.Epoch
  by_cases hi:i<Zbx log
  ·rw[hlow i hi];exact h.soft i h1 hi
  ·have e:i=Zbx log+(i - Zbx log):=by omega
   refine⟨by rw[e,hmid _ (by omega)];exact hHep _ (by omega),?_⟩
   have:=h.free i (by omega) (by omega)
   rw[this.2];exact this.1
 ·show hf d.Pages (1 - a) i=hf (mend d.Pages (d.Wait++ws)) (1 - a) i
  rw[hoth i hi];exact h.other i hi
 ·refine h.pick y ?_
  rw[←Zif (p:=mend d.Pages (d.Wait++ws)) hdb.new h.db.new (fun i hi=>hoth i hi)]
  exact hy
 ·rw[htk firm h.firmle,hle2 firm h.firmle]
  exact h.stop
 ·show sd w.Page s=ph d.Pages w.At.toNat s∨sd w.Page s=ph (mend d.Pages (d.Wait++ws)) w.At.toNat s
  by_cases hs:s<2
  ·rw[hne,hmend _ _ hs]
   rcases List.mem_append.1 hw with g|g
   ·rcases h.waits w g s with e|e
    ·exact .inl e
    ·unfold tg
     by_cases hcnd:ZgO a (Zbx log) 0 H.length w.At.toNat s
     ·left
      unfold ZgO at hcnd
      have hfr:=(h.free (2*(w.At.toNat - 301*a)+s) (by omega) (by omega)).2
      rw[Zo7,Zo7,show 301*a+(2*(w.At.toNat - 301*a)+s) / 2=w.At.toNat by omega,show (2*(w.At.toNat - 301*a)+s) % 2=s by omega]at hfr
      rw[e,hfr]
     ·rw[if_neg hcnd];exact .inr e
   ·exact .inr ((hwok w g).2 s hs)
  ·left
   rw[ZvI (by omega),Zvp (by omega)]
 ·simp only[List.length_append,List.length_cons,List.length_nil]
  omega
end
end Go.Abs
namespace Go.Abs
open Go Go.Proofs
set_option maxRecDepth 20000
set_option linter.unusedVariables false
set_option linter.unusedSimpArgs false
section
variable {d:Disk}{l:Ledger}{log:List Record}{firm a:Nat}{e0 c:Int}{ep:Nat→Int}
theorem Jr.same (h:Jr d l log firm a e0 c ep) {r:Record} (hr:r∈log) {k:Nat} (hk:1000000<k):Zbo k d l r=some (d,l,0):=by
 have hbi:=h.good.bi
 have hbr:l.Book.Records=bk Za2 [] log:=by rw[h.book]
 have hrb:=h.good.ok r hr
 refine Zl8 hk h.db h.led hrb (by rw[hbr];exact hbi.val.1) (by rw[hbr];exact fun x hx=>Zck (h.good.ok x ((hbi.mem x).1 hx))) ?_
 rw[hbr]
 unfold ZjC
 rw[ZqQ Za2 hbi.val.1 ((hbi.mem r).2 hr)]
 simp only[if_true]
theorem DB.sync {d:Disk} (h:DB d):DB ⟨mend d.Pages d.Wait,[]⟩:=by
 refine⟨Zeb.2 ⟨h.len,by simp,by simp⟩,h.new,by simp⟩
theorem Zrc (p:List Pg):mend p []=p:=rfl
theorem Jr.sync (h:Jr d l log firm a e0 c ep):Jr ⟨mend d.Pages d.Wait,[]⟩ l log log.length a e0 c ep:=by
 have hu:=h.u602
 refine⟨h.db.sync,h.a1,h.good,Nat.le_refl _,h.area,h.book,h.used,h.epo,h.he0,⟨h.hc.1,by have:=h.hc.2;have:=h.firmle;omega⟩,h.headN,h.headN,h.recs,h.mono,fun j h1 h2=>by omega,fun b i hb hi=>⟨(h.bound b i hb hi).1,(h.bound b i hb hi).1⟩,
  fun i h1 h2=>⟨(h.free i h1 h2).1,rfl⟩,fun i _=>rfl,fun i h1 h2=>?_,fun i _=>rfl,h.pick,h.stopN,by simp,by simp⟩
 rw[List.take_length]at h1
 omega
theorem Btw.hf {old new p:List Pg} (h:Btw old new p) (b i:Nat):hf p b i=hf old b i∨hf p b i=hf new b i:=h _ _
theorem Btw.pb {old new p:List Pg} (h:Btw old new p) (ho:PgB old) (hn:PgB new):PgB p:=by
 have one:∀ (q:List Pg),PgB q→∀ j s,Byt (ph q j s).l:=fun q hq j s=>by
  have hzb:Byt hz.l:=by
   intro y hy
   have:y=0:=by
    simp only[hz,Vec.rep,List.mem_replicate]at hy
    exact hy.2
   omega
  unfold ph
  cases hg:q[j]? with
  |none=>exact hzb
  |some g=>
   simp only
   cases hx:g.l[s]? with
   |none=>exact hzb
   |some x=>exact hq g (List.mem_of_getElem? hg) x (List.mem_of_getElem? hx)
 intro g hg x hx
 obtain⟨j,hj⟩:=List.mem_iff_getElem?.1 hg
 obtain⟨s,hs⟩:=List.mem_iff_getElem?.1 hx
 have e:ph p j s=x:=by rw[ZgW hj];unfold sd;rw[hs];rfl
 rcases h j s with g1|g1
 ·rw[←e,g1];exact one old ho j s
 ·rw[←e,g1];exact one new hn j s
theorem Jr.cut (h:Jr d l log firm a e0 c ep) {p:List Pg} (hp:Btw d.Pages (mend d.Pages d.Wait) p):
  ∃ m,firm≤m∧m≤log.length∧(∀ j r,j<m→log[j]?=some r→HasRec p a (Zbx (log.take j)) j r (ep j))∧
   (∀ r e,HasRec p a (Zbx (log.take m)) m r e→ZeA e0 ep m≤e→ZeG (bk Za2 [] (log.take m)) r=none):=by
 have hpb:=hp.pb h.db.pb h.db.new
 have hu:=h.u602
 have hq:∀ i,i<Zbx (log.take firm)→hf p a i=hf (mend d.Pages d.Wait) a i:=fun i hi=>by
  rcases hp.hf a i with e|e
  ·rw[e];exact h.firmq i hi
  ·exact e
 have hfree:∀ i,Zbx log≤i→i<602→hf p a i=hf (mend d.Pages d.Wait) a i:=fun i h1 h2=>by
  rcases hp.hf a i with e|e
  ·rw[e];exact(h.free i h1 h2).2
  ·exact e
 have hfirm:∀ j r,j<firm→log[j]?=some r→HasRec p a (Zbx (log.take j)) j r (ep j):=fun j r hj hr=>by
  refine(h.recs j r hr).congr (fun i h1 h2=>?_)
  rw[h.recsLen hr]at h2
  have h3:Zbx (log.take (j+1))≤Zbx (log.take firm):=Zf0 (by omega)
  exact(hq i (by omega)).symm
 have key:∀ n m:Nat,m+n=log.length→firm≤m→(∀ j r,j<m→log[j]?=some r→HasRec p a (Zbx (log.take j)) j r (ep j))→
   ∃ m,firm≤m∧m≤log.length∧(∀ j r,j<m→log[j]?=some r→HasRec p a (Zbx (log.take j)) j r (ep j))∧(m=log.length∨∃ r,log[m]?=some r∧¬ HasRec p a (Zbx (log.take m)) m r (ep m)):=by
  intro n
  induction n with
  |zero=>intro m h1 h2 h3;exact⟨m,h2,by omega,h3,.inl (by omega)⟩
  |succ n ih=>
   intro m h1 h2 h3
   obtain⟨r,hr⟩:∃ r,log[m]?=some r:=⟨_,gG (by omega)⟩
   by_cases hh:HasRec p a (Zbx (log.take m)) m r (ep m)
   ·refine ih (m+1) (by omega) (by omega) (fun j x hj hx=>?_)
    by_cases e:j=m
    ·subst e
     rw[hr]at hx
     obtain rfl:=oi hx
     exact hh
    ·exact h3 j x (by omega) hx
   ·exact⟨m,h2,by omega,h3,.inr ⟨r,hr,hh⟩⟩
 obtain⟨m,m1,m2,m3,m4⟩:=key (log.length - firm) firm (by have:=h.firmle;omega) (Nat.le_refl _) hfirm
 refine⟨m,m1,m2,m3,fun r e hr he=>?_⟩
 have hfin:=h.firmle
 have hrl:=hr.run.1
 have hpos:0<(Za5 r (m:Int) e).length:=by rw[Zbi];exact Zfn r
 have hum:Zbx (log.take m)≤Zbx log:=by
  have:=Zf0 (log:=log) m2
  rw[List.take_length]at this
  exact this
 have hufm:Zbx (log.take firm)≤Zbx (log.take m):=Zf0 m1
 have hle:e≤l.Epoch:=by
  have h1:epH (hf p a (Zbx (log.take m)))≤l.Epoch:=by
   rcases hp.hf a (Zbx (log.take m)) with g|g
   ·rw[g];exact(h.bound a _ h.a1 (by omega)).2
   ·rw[g];exact(h.bound a _ h.a1 (by omega)).1
  rw[hr.at0]at h1
  exact h1
 by_cases hee:e=l.Epoch
 ·
  have hn:HasRec (mend d.Pages d.Wait) a (Zbx (log.take m)) m r e:=by
   refine hr.congr (fun i h1 h2=>?_)
   have h3:=hr.ep0 (i:=i - Zbx (log.take m)) (by omega)
   rw[show Zbx (log.take m)+(i - Zbx (log.take m))=i by omega]at h3
   by_cases hi:i<Zbx log
   ·rcases hp.hf a i with g|g
    ·have:=(h.soft i (by omega) hi).2
     rw[←g,h3]at this;omega
    ·exact g
   ·exact hfree i (by omega) (by omega)
  rcases m4 with m4|⟨x,hx,hno⟩
  ·subst m4
   exact h.stopN r e hn he
  ·have:=(hn.inj h.db.new (h.recs m x hx)).1
   subst this
   exact absurd (by
    have hl:=h.late m m1 (by have:=(gS.1 hx).1;omega)
    rw[hl,←hee];exact hr) hno
 ·
  have hm:m=firm:=by
   by_cases e2:m=firm
   ·exact e2
   ·obtain⟨j,hj⟩:∃ j,m=j+1:=⟨m - 1,by omega⟩
    rw[hj]at he
    have e1:ZeA e0 ep (j+1)=ep j:=rfl
    rw[e1,h.late j (by omega) (by omega)]at he
    omega
  subst hm
  refine h.stop r e (hr.congr (fun i h1 h2=>?_)) he
  have h3:=hr.ep0 (i:=i - Zbx (log.take m)) (by omega)
  rw[show Zbx (log.take m)+(i - Zbx (log.take m))=i by omega]at h3
  by_cases hi:i<Zbx log
  ·rcases hp.hf a i with g|g
   ·exact g
   ·have:=(h.soft i (by omega) hi).1
    rw[←g,h3]at this;omega
  ·rw[hfree i (by omega) (by omega)]
   exact((h.free i (by omega) (by omega)).2).symm
theorem Jr.fail (h:Jr d l log firm a e0 c ep) (hE:l.Epoch<1000000) {p:List Pg} (hl:p.length=602) (hp:Btw d.Pages (mend d.Pages d.Wait) p) {k:Nat} (hk:1000000<k):
  ∃ m l',firm≤m∧m≤log.length∧ZcS k ⟨p,[]⟩=some (⟨p,[]⟩,l',0)∧l'.Epoch≤l.Epoch+1∧Jr ⟨p,[]⟩ l' (log.take m) m a e0 c ep:=by
 obtain⟨m,m1,m2,m3,m4⟩:=h.cut hp
 have hpb:=hp.pb h.db.pb h.db.new
 have hdb:DB ⟨p,[]⟩:=⟨Zeb.2 ⟨hl,by simp,by simp⟩,hpb,by simp⟩
 have hfin:=h.firmle
 have hhead:hf p a 0=ZcJ e0 c:=by
  rcases hp.hf a 0 with g|g
  ·rw[g];exact h.headO
  ·rw[g];exact h.headN
 have hmono:∀ j,j<m→ZeA e0 ep j≤ep j:=fun j hj=>h.mono j (by omega)
 have harea:=Zmw hpb h.good m2 h.he0 ⟨h.hc.1,by have:=h.hc.2;omega⟩ hhead m3 hmono m4
 have hsame:Zg1 p (mend d.Pages d.Wait) (1 - a):=fun i hi=>by
  rcases hp.hf (1 - a) i with g|g
  ·rw[g];exact h.other i hi
  ·exact g
 have hpick:∀ y,ZdY p (1 - a)=some y→if a=0 then y.epoch≤e0 else y.epoch<e0:=fun y hy=>by
  rw[Zif hpb h.db.new hsame]at hy
  exact h.pick y hy
 have hmeant:Zi4 p=some (a,⟨e0,Zgn log 0 m⟩):=Zll h.a1 harea hpick
 have hb:∀ b i,b≤1→i<602→epH (hf p b i)≤l.Epoch:=fun b i hb hi=>by
  rcases hp.hf b i with g|g
  ·rw[g];exact(h.bound b i hb hi).2
  ·rw[g];exact(h.bound b i hb hi).1
 have hE1:=h.epo.1
 have x0:mx p 0 0≤l.Epoch:=Zln.2 ⟨by omega,fun i _ hi=>hb 0 i (by decide) hi⟩
 have x1:mx p 1 0≤l.Epoch:=Zln.2 ⟨by omega,fun i _ hi=>hb 1 i (by decide) hi⟩
 have n0:=ZgU p 0 0
 have n1:=ZgU p 1 0
 have hx:∀ b i,b≤1→i<602→epH (hf p b i)≤max (mx p 0 0) (mx p 1 0):=fun b i hb2 hi=>by
  have y0:=(Zln (p:=p) (a:=0) (from_:=0)).1 (Int.le_refl _)
  have y1:=(Zln (p:=p) (a:=1) (from_:=0)).1 (Int.le_refl _)
  rcases Nat.le_one_iff_eq_zero_or_eq_one.1 hb2 with rfl|rfl
  ·have:=y0.2 i (by omega) hi;omega
  ·have:=y1.2 i (by omega) hi;omega
 have hopen:=ZsU hk hdb (q:=(a,⟨e0,Zgn log 0 m⟩)) hmeant (show max (mx p 0 0) (mx p 1 0)<1000000 by omega)
 obtain⟨b1,b2⟩:=Zhu log m2 e0
 simp only[Zrc,b1,b2]at hopen
 have hbm:(log.take m).length=m:=by rw[List.length_take];omega
 have htt:∀ j,j≤m→(log.take m).take j=log.take j:=fun j hj=>by rw[List.take_take,Nat.min_eq_left hj]
 have hgm:∀ j r,(log.take m)[j]?=some r→j<m∧log[j]?=some r:=fun j r hr=>by
  have h1:=(gS.1 hr).1
  rw[hbm]at h1
  rw[List.getElem?_take,if_pos h1]at hr
  exact⟨h1,hr⟩
 refine⟨m,_,m1,m2,hopen,?_,hdb,h.a1,h.good.take m,by omega,rfl,rfl,rfl,?_,h.he0,⟨h.hc.1,by have:=h.hc.2;omega⟩,hhead,hhead,fun j r hr=>?_,fun j hj=>hmono j (by omega),fun j h1 h2=>by omega,fun b i hb2 hi=>?_,fun i h1 h2=>⟨?_,rfl⟩,fun i _=>rfl,fun i h1 h2=>?_,fun i _=>rfl,hpick,?_,by simp,by simp⟩
 ·show 1+max (mx p 0 0) (mx p 1 0)≤l.Epoch+1;omega
 ·show 1≤1+max (mx p 0 0) (mx p 1 0)∧1+max (mx p 0 0) (mx p 1 0)≤1000000;omega
 ·obtain⟨g1,g2⟩:=hgm j r hr
  rw[htt j (by omega)]
  exact m3 j r g1 g2
 ·have:=hx b i hb2 hi
  exact⟨show epH (hf p b i)≤1+max (mx p 0 0) (mx p 1 0) by omega,show epH (hf p b i)≤1+max (mx p 0 0) (mx p 1 0) by omega⟩
 ·have:=hx a i h.a1 h2
  show epH (hf p a i)<1+max (mx p 0 0) (mx p 1 0);omega
 ·rw[htt m (Nat.le_refl _)]at h1
  omega
 ·rw[htt m (Nat.le_refl _)]
  exact m4
end
theorem ZkY (b i:Nat) (hb:b≤1) (hi:i<602):hf ZlU b i=if b=0∧i=0 then ZcJ 1 0 else hz:=by
 have hl:(List.replicate 602 pz).length=602:=List.length_replicate
 rw[Zo7]
 unfold ZlU
 rw[Zlr (by rw[hl];decide),show (0:Int)=((0:Nat):Int) from rfl,Zgf pz (show 0<2 by decide)]
 have hpz:∀ s,s<2→sd pz s=hz:=fun s hs=>by
  have:s=0∨s=1:=by omega
  rcases this with rfl|rfl<;>rfl
 by_cases h1:301*b+i / 2=0
 ·rw[if_pos h1]
  by_cases h2:i % 2=0
  ·rw[if_pos h2,if_pos (by omega)]
  ·rw[if_neg h2,if_neg (by omega),hpz _ (by omega)]
 ·rw[if_neg h1,if_neg (by omega),ZgW (g:=pz) (by rw[List.getElem?_replicate,if_pos (by omega)]),hpz _ (by omega)]
theorem Zur:DB ⟨ZlU,[]⟩:=by
 have hz0:Byt hz.l:=by
  intro y hy
  have:y=0:=by
   simp only[hz,Vec.rep,List.mem_replicate]at hy
   exact hy.2
  omega
 have hh:Byt (ZcJ 1 0).l:=by
  unfold Byt;decide
 refine⟨Zeb.2 ⟨by unfold ZlU;rw[List.length_set];exact List.length_replicate,by simp,by simp⟩,fun g hg x hx=>?_,by simp⟩
 simp only[ZlU]at hg
 rcases List.mem_or_eq_of_mem_set hg with g1|rfl
 ·rw[List.mem_replicate]at g1
  rw[g1.2]at hx
  have:x=hz:=by
   simp only[pz,Vec.rep,List.mem_replicate]at hx
   exact hx.2
  rw[this];exact hz0
 ·have:x=ZcJ 1 0∨x=hz:=by
   simp only[pz,Vec.rep,Vec.set,Int.toNat_zero,List.replicate,List.set_cons_zero,List.mem_cons,List.not_mem_nil,or_false]at hx
   exact hx
  rcases this with rfl|rfl
  ·exact hh
  ·exact hz0
theorem Jr.new:Jr ⟨ZlU,[]⟩ ⟨⟨[]⟩,0,1,1⟩ [] 0 0 1 0 (fun _=>1):=by
 have hhd:hf ZlU 0 0=ZcJ 1 0:=by rw[ZkY 0 0 (by decide) (by decide),if_pos ⟨rfl,rfl⟩]
 have hE:∀ b i,b≤1→i<602→epH (hf ZlU b i)≤1:=fun b i hb hi=>by
  rw[ZkY b i hb hi]
  split
  ·rw[ZjM ⟨by decide,by decide⟩];decide
  ·rw[Zm4];decide
 refine⟨Zur,by decide,⟨by simp,trivial,by simp⟩,Nat.le_refl _,rfl,rfl,rfl,⟨by decide,by decide⟩,⟨by decide,by decide⟩,⟨by decide,by decide⟩,hhd,hhd,by simp,by simp,by simp,fun b i hb hi=>⟨hE b i hb hi,hE b i hb hi⟩,fun i h1 h2=>⟨?_,rfl⟩,fun i _=>rfl,fun i h1 h2=>?_,fun i _=>rfl,fun y hy=>?_,fun r e hr he=>?_,by simp,by simp⟩
 ·show epH (hf ZlU 0 i)<1
  have:1≤i:=h1
  rw[ZkY 0 i (by decide) h2,if_neg (by omega),Zm4];decide
 ·have e1:Zbx (([]:List Record).take 0)=1:=rfl
  have e2:Zbx ([]:List Record)=1:=rfl
  omega
 ·exfalso
  have h0:ZdY ZlU 1=some y:=hy
  unfold ZdY at h0
  have e1:hf ZlU 1 0=hz:=by rw[ZkY 1 0 (by decide) (by decide),if_neg (by decide)]
  rw[e1,Zm4,if_neg (fun c=>c.1 rfl)]at h0
  cases h0
 ·exfalso
  have h1:=hr.at0
  have e1:Zbx (([]:List Record).take 0)=1:=rfl
  have h2:hf (Disk.mk ZlU []).Pages 0 (Zbx (([]:List Record).take 0))=hf ZlU 0 1:=rfl
  rw[h2,ZkY 0 1 (by decide) (by decide),if_neg (by omega),Zm4]at h1
  have:=hr.ep.1
  omega
end Go.Abs
namespace Go.Abs
open Go Go.Proofs
set_option maxRecDepth 20000
set_option linter.unusedVariables false
set_option linter.unusedSimpArgs false
def g6 (v:Vec 6 Int) (i:Nat):Int:=(v.l[i]?).getD 0
theorem Zo0 (v:Vec 6 Int) {i:Nat} (hi:i<6):v.at? (i:Int)=some (g6 v i):=by
 have h:=v.h
 unfold Vec.at? g6
 rw[if_pos (by omega),Int.toNat_natCast,gG (by omega)];rfl
theorem Zuj (v:Vec 6 Int) {i:Nat} (hi:i<6) (x:Int) (j:Nat):g6 (v.set (i:Int) x) j=if j=i then x else g6 v j:=by
 have h:=v.h
 unfold g6 Vec.set
 simp only[Int.toNat_natCast]
 by_cases e:j=i
 ·subst e;rw[if_pos rfl,List.getElem?_set_self (by omega)];rfl
 ·rw[if_neg e,List.getElem?_set_ne (Ne.symm e)]
theorem Zua (v:Vec 6 Int) {i:Nat} (hi:6≤i):g6 v i=0:=by
 have h:=v.h
 unfold g6;rw[List.getElem?_eq_none (by omega)];rfl
def kr (v:Vec 6 (Vec 6 Int)) (i:Nat):Vec 6 Int:=(v.l[i]?).getD (Vec.rep 6 0)
theorem ZqW (v:Vec 6 (Vec 6 Int)) {i:Nat} (hi:i<6):v.at? (i:Int)=some (kr v i):=by
 have h:=v.h
 unfold Vec.at? kr
 rw[if_pos (by omega),Int.toNat_natCast,gG (by omega)];rfl
theorem Zuq (v:Vec 6 (Vec 6 Int)) {i:Nat} (hi:i<6) (x:Vec 6 Int) (j:Nat):kr (v.set (i:Int) x) j=if j=i then x else kr v j:=by
 have h:=v.h
 unfold kr Vec.set
 simp only[Int.toNat_natCast]
 by_cases e:j=i
 ·subst e;rw[if_pos rfl,List.getElem?_set_self (by omega)];rfl
 ·rw[if_neg e,List.getElem?_set_ne (Ne.symm e)]
def kn (v:Vec 6 (Vec 6 Int)) (i x:Nat):Int:=g6 (kr v i) x
def knZ:Vec 6 (Vec 6 Int):=Vec.rep 6 ((Vec.rep 6 (0:Int)):(Vec 6 Int))
theorem Zho (i x:Nat):kn knZ i x=0:=by
 have hk:∀ i,kr knZ i=Vec.rep 6 0:=fun i=>by
  unfold kr knZ Vec.rep
  simp only[List.getElem?_replicate]
  split<;>rfl
 unfold kn
 rw[hk]
 unfold g6 Vec.rep
 simp only[List.getElem?_replicate]
 split<;>rfl
theorem Ziv (l:List Record) {x:Nat} (hx:x<6):g6 (Zg0 l) x=((cnt Za2 l (x:Int):Nat):Int):=by
 have:x=0∨x=1∨x=2∨x=3∨x=4∨x=5:=by omega
 rcases this with rfl|rfl|rfl|rfl|rfl|rfl<;>rfl
structure HI (h:House) (i:Nat) (log:List Record) (firm:Nat):Prop where
 me:h.Me=(i:Int)
 i2:i≤2
 jr:∃ a e0 c ep,Jr h.Disk h.Ledger log firm a e0 c ep
 kb:∀ j x,0≤kn h.Known j x∧kn h.Known j x≤60
section
variable {h:House}{i:Nat}{log:List Record}{firm:Nat}{k:Nat}
theorem HI.good (H:HI h i log firm):LogOK log:=by obtain⟨a,e0,c,ep,J⟩:=H.jr;exact J.good
theorem HI.book (H:HI h i log firm):h.Ledger.Book=⟨bk Za2 [] log⟩:=by obtain⟨a,e0,c,ep,J⟩:=H.jr;exact J.book
theorem HI.firmle (H:HI h i log firm):firm≤log.length:=by obtain⟨a,e0,c,ep,J⟩:=H.jr;exact J.firmle
theorem ZcL (n:Int) (h:0≤n∧n≤5):Zb7 k n=some true:=by
 unfold Zb7
 rw[ZbV,Zdr h];rfl
theorem ZmO {v:Vec 6 Int}{R:Type}{body:Int→Option (Stp Int Unit R)}{c:R} (hk:1000000<k) (hv:∀ x,0≤g6 v x∧g6 v x≤60)
  (h1:∀ x:Nat,x<6→body (x:Int)=(v.at? (x:Int)).bind fun y=>(Za8 k y 0 60).bind fun z=>bif (!z) then some (.ret c) else some (.next (w64 ((x:Int)+1)))) (h2:body 6=some (.brk ())):whl body k 0=some (.brk ()):=by
 have:=Zki (n:=6) (body:=body) (p:=fun _=>true) (c:=c) (by omega) (k:=k) (by omega) (fun x hx=>by
  rw[h1 x hx,Zo0 v hx]
  simp only[Option.bind_some,ZbV,Zdr (hv x),Bool.not_true,cond_false,cond_true]) h2
 rw[this]
 rfl
theorem HI.check (H:HI h i log firm) (hk:1000000<k):Zal k h=some 0:=by
 obtain⟨a,e0,c,ep,J⟩:=H.jr
 have hm:=H.me
 have hi:=H.i2
 unfold Zal
 rw[ZcL h.Me (by omega)]
 simp only[Option.bind_some,cond_true]
 rw[ZdZ hk J.db J.led]
 simp only[Option.bind_some,decide_true,Bool.not_true,cond_false]
 have:=Zki (n:=6) (body:=Zal.b0 k h) (p:=fun _=>true) (c:=(96:Int)) (by omega) (k:=k) (by omega) (fun x hx=>by
  unfold Zal.b0
  simp only[decide_eq_true (show (x:Int)<6 by omega),cond_true,ZqW h.Known hx,Option.bind_some]
  rw[ZmO (v:=kr h.Known x) (c:=(96:Int)) hk (fun y=>H.kb x y) (fun y hy=>by
   unfold Zal.b1
   simp only[decide_eq_true (show (y:Int)<6 by omega),cond_true]) (by
   unfold Zal.b1;rfl)]
  rfl) (by unfold Zal.b0;rfl)
 rw[this]
 rfl
theorem HI.books (H:HI h i log firm):h.Ledger.Book.Records.length≤50∧(∀ r∈h.Ledger.Book.Records,ZdH r)∧∀ x:Int,cnt Za2 h.Ledger.Book.Records x=cnt Za2 log x:=by
 have hb:=H.good.bi
 have h50:=H.good.len
 rw[H.book]
 exact⟨by simp only[hb.len];exact h50,fun r hr=>Zck (H.good.ok r ((hb.mem r).1 hr)),hb.num⟩
theorem ZmU {a b:List Record} (h:∀ x:Int,cnt Za2 a x=cnt Za2 b x):Zg0 a=Zg0 b:=by unfold Zg0;simp only[h]
theorem HI.have_ (H:HI h i log firm) (hk:1000000<k):ZaK k h.Ledger.Book=some (Zg0 log):=by
 obtain⟨b1,b2,b3⟩:=H.books
 rw[Zjp hk (by omega) b2,ZmU b3]
theorem HI.copyL (H:HI h i log firm):Zbe k h.Ledger=some h.Ledger:=by
 obtain⟨b1,b2,b3⟩:=H.books
 unfold Zbe
 rw[ZdP (by omega)]
 rfl
theorem HI.sync (H:HI h i log firm) (hk:1000000<k):∃ d,Zdd k h=some ⟨h.Me,d,h.Ledger,h.Known⟩∧HI ⟨h.Me,d,h.Ledger,h.Known⟩ i log log.length:=by
 obtain⟨a,e0,c,ep,J⟩:=H.jr
 refine⟨⟨mend h.Disk.Pages h.Disk.Wait,[]⟩,?_,H.me,H.i2,⟨a,e0,c,ep,J.sync⟩,H.kb⟩
 unfold Zdd
 rw[Zmq hk J.db.ok,H.copyL]
 rfl
theorem ZlR {i:Nat} (hi:i≤2):∃ h,ZcN k (i:Int)=some (h,0)∧HI h i [] 0∧h.Known=knZ∧h.Ledger.Epoch=1:=by
 refine⟨(⟨(i:Int),⟨ZlU,[]⟩,⟨⟨[]⟩,0,1,1⟩,knZ⟩:House),?_,?_,rfl,rfl⟩
 ·unfold ZcN
  rw[ZcL (i:Int) (by omega)]
  simp only[Option.bind_some,Bool.not_true,cond_false,ZoE]
  rfl
 ·exact⟨rfl,hi,⟨_,_,_,_,Jr.new⟩,fun j x=>by show 0≤kn knZ j x∧kn knZ j x≤60;rw[Zho];omega⟩
theorem HI.note (H:HI h i log firm) (hk:1000000<k) (ZbW:log.length+1≤50) (r:Record) (hr:Zfw ⟨⟨(i:Int),((cnt Za2 log (i:Int):Nat):Int)⟩,r.Kind,r.Day,r.Known,r.Of,r.Text⟩=true):
  ∃ h',Zd5 k h r=some (h',⟨⟨(i:Int),((cnt Za2 log (i:Int):Nat):Int)⟩,r.Kind,r.Day,r.Known,r.Of,r.Text⟩,0)∧h'.Ledger.Epoch=h.Ledger.Epoch∧h'.Known=h.Known∧
   HI h' i (log++[⟨⟨(i:Int),((cnt Za2 log (i:Int):Nat):Int)⟩,r.Kind,r.Day,r.Known,r.Of,r.Text⟩]) firm:=by
 obtain⟨a,e0,c,ep,J⟩:=H.jr
 have hi:=H.i2
 obtain⟨d',l',h1,h2,h3⟩:=J.append hr (by rfl) ZbW hk
 refine⟨⟨h.Me,d',l',h.Known⟩,?_,h2,rfl,H.me,H.i2,⟨_,_,_,_,h3⟩,H.kb⟩
 unfold Zd5
 rw[H.check hk]
 simp only[Option.bind_some,decide_true,Bool.not_true,cond_false,H.have_ hk,H.me,Ziu log (show 0≤(i:Int) by omega) (by omega),h1]
theorem HI.restart (H:HI h i log firm) (hk:1000000<k) (hE:h.Ledger.Epoch<1000000) (picks:List Int) (hp:picks.length≤4611686018427387904):
  ∃ h' m,firm≤m∧m≤log.length∧ZbN k h picks=some (h',0)∧h'.Ledger.Epoch≤h.Ledger.Epoch+1∧h'.Known=knZ∧HI h' i (log.take m) m:=by
 obtain⟨a,e0,c,ep,J⟩:=H.jr
 obtain⟨p',c1,c2,c3⟩:=Zq5 hk J.db picks hp J.waits
 obtain⟨m,l',m1,m2,m3,m4,m5⟩:=J.fail hE c2 c3 hk
 refine⟨⟨h.Me,⟨p',[]⟩,l',knZ⟩,m,m1,m2,?_,m4,rfl,H.me,H.i2,⟨_,_,_,_,m5⟩,fun j x=>by show 0≤kn knZ j x∧kn knZ j x≤60;rw[Zho];omega⟩
 unfold ZbN
 rw[H.check hk]
 simp only[Option.bind_some,decide_true,Bool.not_true,cond_false,c1,m3]
 rfl
end
def ZeK (b:List Record) (K:Vec 6 Int):List Record:=(b.filter fun r=>decide (g6 K r.At.House.toNat≤r.At.No)).take 8
theorem Znq {k:Nat} (hk:1000000<k) {h:House}{to:Nat} (ht:to<6) {b:List Record} (hb:h.Ledger.Book.Records=b) (hl:b.length≤100) (hh:∀ r∈b,ZdH r):whl (Za7.b0 k h (to:Int)) k (0,[])=some (.brk (ZeK b (kr h.Known to))):=by
 have hf:=Zg7 (l:=b) (body:=Za7.b0 k h (to:Int)) (fun i s=>(i,s)) (fun s r=>if decide (g6 (kr h.Known to) r.At.House.toNat≤r.At.No)=true∧s.length<8 then s++[r] else s) (fun i s=>s=((b.take i).filter fun r=>decide (g6 (kr h.Known to) r.At.House.toNat≤r.At.No)).take 8) (by omega) (k:=k) (by omega) (s0:=[]) (by simp) (fun i r s hx hs=>by
  have hi:=(gS.1 hx).1
  have hho:=hh r (List.mem_of_getElem? hx)
  obtain⟨x,hxx⟩:=Int.eq_ofNat_of_zero_le hho.1
  have hx6:x<6:=by have:=hho.2;omega
  have hsl:s.length≤8:=by rw[hs,List.length_take];omega
  have hat:(kr h.Known to).at? r.At.House=some (g6 (kr h.Known to) r.At.House.toNat):=by
   rw[hxx,Zo0 _ hx6];rfl
  refine⟨?_,?_⟩
  ·unfold Za7.b0
   rw[hb]
   simp only[decide_eq_true (show (i:Int)<(b.length:Int) by omega),cond_true,ZcV hx,ZqW h.Known ht,hat,Option.bind_some]
   by_cases c1:g6 (kr h.Known to) r.At.House.toNat≤r.At.No
   ·by_cases c2:s.length<8
    ·simp only[decide_eq_true c1,decide_eq_true (show ((s.length:Nat):Int)<8 by omega),cond_true,Zi9 (show (s.length+1)*72≤140737488355328 by omega) (show s.length+1<4611686018427387904 by omega),Option.bind_some,if_pos (show True∧s.length<8 from ⟨trivial,c2⟩),true_and,c2,if_true]
    ·simp only[decide_eq_true c1,decide_eq_false (show ¬ ((s.length:Nat):Int)<8 by omega),cond_true,cond_false,true_and,c2,if_false]
   ·simp[decide_eq_false c1]
  ·rw[ZiO hx,List.filter_append]
   by_cases c1:g6 (kr h.Known to) r.At.House.toNat≤r.At.No
   ·have e:[r].filter (fun r=>decide (g6 (kr h.Known to) r.At.House.toNat≤r.At.No))=[r]:=by simp[c1]
    rw[e,List.take_append]
    by_cases c2:s.length<8
    ·rw[if_pos ⟨decide_eq_true c1,c2⟩]
     rw[hs,List.length_take]at c2
     rw[←hs]
     have:8 - ((b.take i).filter fun r=>decide (g6 (kr h.Known to) r.At.House.toNat≤r.At.No)).length=8 - 1 - ((b.take i).filter fun r=>decide (g6 (kr h.Known to) r.At.House.toNat≤r.At.No)).length+1:=by omega
     rw[this,List.take_succ_cons,List.take_nil]
    ·rw[if_neg (fun c=>c2 c.2)]
     rw[hs,List.length_take]at c2
     rw[show 8 - ((b.take i).filter fun r=>decide (g6 (kr h.Known to) r.At.House.toNat≤r.At.No)).length=0 by omega,List.take_zero,List.append_nil,hs]
   ·have e:[r].filter (fun r=>decide (g6 (kr h.Known to) r.At.House.toNat≤r.At.No))=[]:=by simp[c1]
    rw[e,List.append_nil,if_neg (fun c=>c1 (of_decide_eq_true c.1)),hs]) (fun s hs=>by
  unfold Za7.b0
  rw[hb]
  simp only[(by simp:decide ((b.length:Int)<(b.length:Int))=false),cond_false])
 have h2:=hf.2
 rw[List.take_length]at h2
 rw[hf.1,h2]
 rfl
theorem HI.offer {h:House}{i:Nat}{log:List Record}{firm k:Nat} (H:HI h i log firm) (hk:1000000<k) {to:Nat} (ht:to≤2) (hne:to≠i):
  ∃ d,Za7 k h (to:Int)=some (⟨h.Me,d,h.Ledger,h.Known⟩,⟨(i:Int),(to:Int),Zg0 log,ZeK (bk Za2 [] log) (kr h.Known to)⟩,0)∧HI ⟨h.Me,d,h.Ledger,h.Known⟩ i log log.length:=by
 obtain⟨d,s1,s2⟩:=H.sync hk
 obtain⟨b1,b2,b3⟩:=H.books
 refine⟨d,?_,s2⟩
 have hbr:h.Ledger.Book.Records=bk Za2 [] log:=by rw[H.book]
 have hlo:=Znq hk (h:=h) (to:=to) (by omega) hbr (by rw[←hbr];omega) (by rw[←hbr];exact b2)
 have hme:=H.me
 unfold Za7
 rw[H.check hk]
 simp only[Option.bind_some,decide_true,Bool.not_true,cond_false,ZcL (to:Int) (show 0≤(to:Int)∧(to:Int)≤5 by omega),cond_true]
 rw[decide_eq_false (show ¬ (to:Int)=h.Me by omega)]
 simp only[cond_false,H.have_ hk,Option.bind_some,hlo,s1]
 rw[H.me]
end Go.Abs
namespace Go.Abs
open Go Go.Proofs
set_option maxRecDepth 20000
set_option linter.unusedVariables false
set_option linter.unusedSimpArgs false
structure SI (s:Slip) (f t:Nat):Prop where
 from_:s.From=(f:Int)
 to_:s.To=(t:Int)
 f2:f≤2
 t2:t≤2
 ne:f≠t
 hv:∀ x,0≤g6 s.Have x∧g6 s.Have x≤60
 len:s.Records.length≤8
 ok:∀ r∈s.Records,Zfw r=true
theorem SI.check {s:Slip}{f t k:Nat} (S:SI s f t) (hk:1000000<k):ZaM k s=some true:=by
 have h1:=S.f2
 have h2:=S.t2
 have h3:=S.from_
 have h4:=S.to_
 have h5:=S.ne
 have h6:=S.len
 unfold ZaM
 rw[ZcL s.From (by omega),ZcL s.To (by omega)]
 simp only[Option.bind_some,cond_true,decide_eq_false (show ¬ s.From=s.To by omega),Bool.not_false,decide_eq_false (show ¬ (8:Int)<(s.Records.length:Int) by omega),cond_false]
 rw[ZmO (v:=s.Have) (c:=false) hk S.hv (fun y hy=>by
  unfold ZaM.b0
  simp only[decide_eq_true (show (y:Int)<6 by omega),cond_true]) (by unfold ZaM.b0;rfl)]
 simp only[Option.bind_some]
 have hI:ZaJ k s.Records (fun q0=>ZbO k q0)=some false:=by
  unfold ZaJ Zaj
  have:=Zkh (l:=s.Records) (body:=Zaj.b0 k (fun q0=>ZbO k q0) s.Records) (p:=fun _=>true) (c:=(0:Int)) (by omega) (k:=k) (by omega) (fun i x hx=>by
   have hi:=(gS.1 hx).1
   unfold Zaj.b0 ZbO
   simp only[decide_eq_true (show (i:Int)<(s.Records.length:Int) by omega),cond_true,ZcV hx,Option.bind_some,Zdi (show 1000<k by omega),S.ok x (List.mem_of_getElem? hx),Bool.not_true,cond_false]) (by
   unfold Zaj.b0
   simp only[(by simp:decide ((s.Records.length:Int)<(s.Records.length:Int))=false),cond_false])
  rw[this]
  have ha:s.Records.all (fun _=>true)=true:=by simp
  rw[ha]
  rfl
 rw[hI]
 rfl
def rcv (log:List Record) (r:Record):List Record:=if ((cnt Za2 log r.At.House:Nat):Int)<r.At.No then log else if r∈log then log else log++[r]
theorem ZoR (log:List Record) (r:Record):(rcv log r).length≤log.length+1:=by
 unfold rcv
 split
 ·omega
 ·split
  ·omega
  ·simp
theorem Ztg (log:List Record) (r:Record):∀ x∈log,x∈rcv log r:=fun x hx=>by
 unfold rcv
 split
 ·exact hx
 ·split
  ·exact hx
  ·simp[hx]
theorem ZlX (log:List Record) (r:Record):∀ x∈rcv log r,x∈log∨x=r:=fun x hx=>by
 unfold rcv at hx
 split at hx
 ·exact .inl hx
 ·split at hx
  ·exact .inl hx
  ·simpa using hx
def ZhP (log:List Record) (rs:List Record):List Record:=rs.foldl rcv log
theorem ZjZ:∀ (rs log:List Record),∀ x∈log,x∈ZhP log rs
 |[],log,x,hx=>hx
 |r::rs,log,x,hx=>ZjZ rs (rcv log r) x (Ztg log r x hx)
theorem ZjW:∀ (rs log:List Record),∀ x∈ZhP log rs,x∈log∨x∈rs
 |[],log,x,hx=>.inl hx
 |r::rs,log,x,hx=>by
  rcases ZjW rs (rcv log r) x hx with h|h
  ·rcases ZlX log r x h with g|g
   ·exact .inl g
   ·exact .inr (by simp[g])
  ·exact .inr (by simp[h])
theorem Zm7:∀ (rs log:List Record),(ZhP log rs).length≤log.length+rs.length
 |[],log=>by simp[ZhP]
 |r::rs,log=>by
  have h1:=Zm7 rs (rcv log r)
  have h2:=ZoR log r
  simp only[List.length_cons]
  unfold ZhP at *
  rw[List.foldl_cons]
  omega
section
variable {i firm k:Nat}
theorem HI.step {h:House}{log:List Record} (H:HI h i log firm) (hk:1000000<k) {s:Slip}{r:Record}{j:Nat} (hx:s.Records[j]?=some r) (hj:j<1000) (hr:Zfw r=true) (hT:∀ y∈log,Za2 y=Za2 r→y=r) (ZbW:log.length+1≤50):
  ∃ h',Zao.b0 k s (h,(j:Int))=some (.next (h',((j+1:Nat):Int)))∧HI h' i (rcv log r) firm∧h'.Known=h.Known∧h'.Ledger.Epoch=h.Ledger.Epoch:=by
 have hi:=(gS.1 hx).1
 have hho:=Zck hr
 have hw:w64 ((j:Int)+1)=((j+1:Nat):Int):=by rw[ZaD (by omega) (by omega)];omega
 have hne:h=⟨h.Me,h.Disk,h.Ledger,h.Known⟩:=rfl
 unfold Zao.b0
 simp only[decide_eq_true (show (j:Int)<(s.Records.length:Int) by omega),cond_true,ZcV hx,Option.bind_some,H.have_ hk,Ziu log hho.1 hho.2,hw]
 unfold rcv
 by_cases c1:((cnt Za2 log r.At.House:Nat):Int)<r.At.No
 ·simp only[decide_eq_true c1,cond_true,if_pos c1]
  exact⟨h,rfl,H,rfl,rfl⟩
 ·simp only[decide_eq_false c1,cond_false,if_neg c1]
  obtain⟨a,e0,c,ep,J⟩:=H.jr
  by_cases c2:r∈log
  ·rw[if_pos c2,J.same c2 hk]
   simp only[Option.bind_some,decide_true,Bool.not_true,cond_false]
   exact⟨h,rfl,H,rfl,rfl⟩
  ·rw[if_neg c2]
   have hno:(Za2 r).2=cnt Za2 log (Za2 r).1:=by
    show r.At.No=((cnt Za2 log r.At.House:Nat):Int)
    have h0:=(Zgu hr).2.1.1
    by_cases c3:r.At.No<((cnt Za2 log r.At.House:Nat):Int)
    ·obtain⟨y,hy,hky⟩:=Zks Za2 J.good.vl r.At.House r.At.No h0 (by omega)
     exact absurd (hT y hy hky▸hy) c2
    ·omega
   obtain⟨d',l',h1,h2,h3⟩:=J.append hr hno ZbW hk
   rw[h1]
   simp only[Option.bind_some,decide_true,Bool.not_true,cond_false]
   exact⟨_,rfl,⟨H.me,H.i2,⟨_,_,_,_,h3⟩,H.kb⟩,rfl,h2⟩
theorem HI.loop (hk:1000000<k) {s:Slip} (hs:s.Records.length≤8) (hok:∀ r∈s.Records,Zfw r=true):∀ (n j m:Nat) (h:House) (log:List Record),j+n=s.Records.length→n<m→HI h i log firm→
  (∀ x y,(x∈log∨x∈s.Records)→(y∈log∨y∈s.Records)→Za2 x=Za2 y→x=y)→log.length+n≤50→
  ∃ h',whl (Zao.b0 k s) m (h,(j:Int))=some (.brk h')∧HI h' i (ZhP log (s.Records.drop j)) firm∧h'.Known=h.Known∧h'.Ledger.Epoch=h.Ledger.Epoch
 |0,j,m,h,log,h1,h2,H,hT,hl=>by
  obtain⟨m,rfl⟩:∃ q,m=q+1:=⟨m - 1,by omega⟩
  have hb:Zao.b0 k s (h,(j:Int))=some (.brk h):=by
   unfold Zao.b0
   simp only[decide_eq_false (show ¬ (j:Int)<(s.Records.length:Int) by omega),cond_false]
  rw[List.drop_of_length_le (by omega)]
  exact⟨h,by simp only[whl,hb],H,rfl,rfl⟩
 |n+1,j,m,h,log,h1,h2,H,hT,hl=>by
  obtain⟨m,rfl⟩:∃ q,m=q+1:=⟨m - 1,by omega⟩
  obtain⟨r,hr⟩:∃ r,s.Records[j]?=some r:=⟨_,gG (by omega)⟩
  have hrm:=List.mem_of_getElem? hr
  obtain⟨h',g1,g2,g3,g4⟩:=H.step hk hr (by omega) (hok r hrm) (fun y hy e=>hT y r (.inl hy) (.inr hrm) e) (by omega)
  have hrl:=ZoR log r
  obtain⟨h'',k1,k2,k3,k4⟩:=HI.loop hk hs hok n (j+1) m h' (rcv log r) (by omega) (by omega) g2 (fun x y hx hy e=>hT x y (by
   rcases hx with hx|hx
   ·rcases ZlX log r x hx with q|q
    ·exact .inl q
    ·exact .inr (q▸hrm)
   ·exact .inr hx) (by
   rcases hy with hy|hy
   ·rcases ZlX log r y hy with q|q
    ·exact .inl q
    ·exact .inr (q▸hrm)
   ·exact .inr hy) e) (by omega)
  have hdr:s.Records.drop j=r::s.Records.drop (j+1):=by
   obtain⟨q1,q2⟩:=gS.1 hr
   rw[List.drop_eq_getElem_cons q1,q2]
  rw[hdr]
  exact⟨h'',by simp only[whl,g1,k1],k2,k3.trans g3,k4.trans g4⟩
theorem Znl {h:House}{s:Slip}{f:Nat} (hf:s.From=(f:Int)) (hf2:f≤2) (hk:1000000<k):
  ∃ K,whl (Zao.b1 k s) k (h,0)=some (.brk ⟨h.Me,h.Disk,h.Ledger,K⟩)∧∀ j x,kn K j x=if j=f∧x<6 then max (kn h.Known j x) (g6 s.Have x) else kn h.Known j x:=by
 have key:∀ (n x m:Nat) (K:Vec 6 (Vec 6 Int)),x+n=6→n<m→(∀ j y,kn K j y=if j=f∧y<x then max (kn h.Known j y) (g6 s.Have y) else kn h.Known j y)→
   ∃ K',whl (Zao.b1 k s) m ((⟨h.Me,h.Disk,h.Ledger,K⟩:House),(x:Int))=some (.brk ⟨h.Me,h.Disk,h.Ledger,K'⟩)∧∀ j y,kn K' j y=if j=f∧y<6 then max (kn h.Known j y) (g6 s.Have y) else kn h.Known j y:=by
  intro n
  induction n with
  |zero=>
   intro x m K g1 g2 hK
   obtain⟨m,rfl⟩:∃ q,m=q+1:=⟨m - 1,by omega⟩
   have:x=6:=by omega
   subst this
   exact⟨K,rfl,hK⟩
  |succ n ih=>
   intro x m K g1 g2 hK
   obtain⟨m,rfl⟩:∃ q,m=q+1:=⟨m - 1,by omega⟩
   have hx:x<6:=by omega
   have hw:w64 ((x:Int)+1)=((x+1:Nat):Int):=by rw[ZaD (by omega) (by omega)];omega
   have hb:Zao.b1 k s ((⟨h.Me,h.Disk,h.Ledger,K⟩:House),(x:Int))=some (.next ((⟨h.Me,h.Disk,h.Ledger,K.set (f:Int) ((kr K f).set (x:Int) (max (g6 (kr K f) x) (g6 s.Have x)))⟩:House),((x+1:Nat):Int))):=by
    unfold Zao.b1
    simp only[decide_eq_true (show (x:Int)<6 by omega),cond_true,Zo0 s.Have hx,Option.bind_some,hf,ZqW K (show f<6 by omega),Zo0 (kr K f) hx,hw]
   obtain⟨K',q1,q2⟩:=ih (x+1) m (K.set (f:Int) ((kr K f).set (x:Int) (max (g6 (kr K f) x) (g6 s.Have x)))) (by omega) (by omega) (fun j y=>by
    have hset:kn (K.set (f:Int) ((kr K f).set (x:Int) (max (g6 (kr K f) x) (g6 s.Have x)))) j y=if j=f then (if y=x then max (g6 (kr K f) x) (g6 s.Have x) else g6 (kr K f) y) else kn K j y:=by
     unfold kn
     rw[Zuq K (show f<6 by omega)]
     by_cases e:j=f
     ·rw[if_pos e,if_pos e,Zuj _ hx]
     ·rw[if_neg e,if_neg e]
    rw[hset]
    by_cases e:j=f
    ·subst e
     rw[if_pos rfl]
     have hK1:=hK j y
     have hK2:=hK j x
     unfold kn at hK1 hK2 ⊢
     by_cases e2:y=x
     ·subst e2
      rw[if_pos rfl,if_pos ⟨rfl,by omega⟩,hK1,if_neg (by omega)]
     ·rw[if_neg e2,hK1]
      by_cases e3:y<x
      ·rw[if_pos ⟨rfl,e3⟩,if_pos ⟨rfl,by omega⟩]
      ·rw[if_neg (by omega),if_neg (by omega)]
    ·rw[if_neg e,hK,if_neg (fun c=>e c.1),if_neg (fun c=>e c.1)])
   exact⟨K',by simp only[whl,hb];exact q1,q2⟩
 have:=key 6 0 k h.Known (by omega) (by omega) (fun j y=>by rw[if_neg (by omega)])
 exact this
theorem HI.receive {h:House}{log:List Record} (H:HI h i log firm) (hk:1000000<k) {s:Slip}{f:Nat} (S:SI s f i) (hT:∀ x y,(x∈log∨x∈s.Records)→(y∈log∨y∈s.Records)→Za2 x=Za2 y→x=y) (hl:log.length+8≤50):
  ∃ h',Zao k h s=some (h',(if s.Records=[] then [] else [⟨(i:Int),(f:Int),Zg0 (ZhP log s.Records),[]⟩]),0)∧HI h' i (ZhP log s.Records) (ZhP log s.Records).length∧h'.Ledger.Epoch=h.Ledger.Epoch∧
   ∀ j x,kn h'.Known j x=if j=f∧x<6 then max (kn h.Known j x) (g6 s.Have x) else kn h.Known j x:=by
 have hsl:=S.len
 obtain⟨a,e0,c,ep,J⟩:=H.jr
 obtain⟨h1,q1,q2,q3,q4⟩:=HI.loop hk hsl S.ok s.Records.length 0 k h log (by omega) (by omega) H hT (by omega)
 rw[List.drop_zero]at q2
 obtain⟨d,s1,s2⟩:=q2.sync hk
 obtain⟨K,k1,k2⟩:=Znl (h:=⟨h1.Me,d,h1.Ledger,h1.Known⟩) S.from_ S.f2 hk
 have H2:HI ⟨h1.Me,d,h1.Ledger,K⟩ i (ZhP log s.Records) (ZhP log s.Records).length:=⟨s2.me,s2.i2,s2.jr,fun j x=>by
  rw[k2 j x]
  have h3:=s2.kb j x
  have h4:=S.hv x
  split<;>simp only at h3 ⊢<;>omega⟩
 refine⟨⟨h1.Me,d,h1.Ledger,K⟩,?_,H2,q4,fun j x=>by rw[k2 j x];simp only[q3]⟩
 unfold Zao
 rw[H.check hk]
 simp only[Option.bind_some,decide_true,Bool.not_true,cond_false,S.check hk,cond_true,S.to_,H.me]
 rw[Zdj J.db.ok]
 simp only[Option.bind_some,H.copyL]
 rw[Int.natCast_zero]at q1
 have q1':whl (Zao.b0 k s) k ((⟨(i:Int),h.Disk,h.Ledger,h.Known⟩:House),0)=some (.brk h1):=by
  rw[←H.me];exact q1
 rw[q1']
 simp only[Option.bind_some,s1,k1]
 by_cases he:s.Records=[]
 ·rw[if_pos he]
  have:decide ((s.Records.length:Int)=0)=true:=by rw[he];rfl
  simp only[this,cond_true]
 ·rw[if_neg he]
  have:decide ((s.Records.length:Int)=0)=false:=by
   apply decide_eq_false
   intro c
   exact he (List.length_eq_zero_iff.1 (by omega))
  simp only[this,cond_false,H2.have_ hk,Option.bind_some,H2.me,S.from_]
  have hme:=H2.me
  simp only at hme
  rw[hme]
end
end Go.Abs
namespace Go.Abs
open Go Go.Proofs
set_option maxRecDepth 20000
set_option linter.unusedVariables false
set_option linter.unusedSimpArgs false
def hZ:House:=⟨0,⟨[],[]⟩,⟨⟨[]⟩,0,0,0⟩,knZ⟩
def h3 (v:Vec 3 House) (i:Nat):House:=(v.l[i]?).getD hZ
theorem ZkU (v:Vec 3 House) {i:Nat} (hi:i≤2):v.at? (i:Int)=some (h3 v i):=by
 have h:=v.h
 unfold Vec.at? h3
 rw[if_pos (by omega),Int.toNat_natCast,gG (by omega)];rfl
theorem Zi3 (v:Vec 3 House) {i:Nat} (hi:i≤2) (x:House) (j:Nat):h3 (v.set (i:Int) x) j=if j=i then x else h3 v j:=by
 have h:=v.h
 unfold h3 Vec.set
 simp only[Int.toNat_natCast]
 by_cases e:j=i
 ·subst e;rw[if_pos rfl,List.getElem?_set_self (by omega)];rfl
 ·rw[if_neg e,List.getElem?_set_ne (Ne.symm e)]
theorem Zea {a b:List Record} (ha:VL Za2 (fun _=>0) a) (hb:VL Za2 (fun _=>0) b) (x:Int) (h:∀ r∈a,r.At.House=x→r∈b):cnt Za2 a x≤cnt Za2 b x:=by
 by_cases h0:cnt Za2 a x=0
 ·omega
 ·obtain⟨r,hr,hk⟩:=Zks Za2 ha x ((cnt Za2 a x:Int) - 1) (by omega) (by omega)
  have h1:r.At.House=x:=congrArg Prod.fst hk
  have h2:r.At.No=(cnt Za2 a x:Int) - 1:=congrArg Prod.snd hk
  have:=ZrP Za2 hb r (h r hr h1)
  have h3:r.At.No<0+((cnt Za2 b r.At.House:Nat):Int):=this.2
  rw[h1]at h3
  omega
def in3 (r:Record):Prop:=∃ x:Nat,x≤2∧r.At.House=(x:Int)
theorem ZvQ:∀ {l:List Record},(∀ r∈l,in3 r)→l.length=cnt Za2 l 0+cnt Za2 l 1+cnt Za2 l 2
 |[],_=>rfl
 |r::l,h=>by
  have ih:=ZvQ (l:=l) (fun x hx=>h x (by simp[hx]))
  obtain⟨x,hx,e⟩:=h r (by simp)
  have e':(Za2 r).1=(x:Int):=e
  rw[List.length_cons,Zca,Zca,Zca,e']
  have:x=0∨x=1∨x=2:=by omega
  rcases this with rfl|rfl|rfl<;>simp<;>omega
structure W (hs:Nat→House) (sl:List Slip) (L:Nat→List Record) (F:Nat→Nat) (t:Nat):Prop where
 hi:∀ i,i≤2→HI (hs i) i (L i) (F i)
 ep:∀ i,i≤2→(hs i).Ledger.Epoch≤1+t
 own:cnt Za2 (L 0) 0+cnt Za2 (L 1) 1+cnt Za2 (L 2) 2≤t
 hou:∀ i,i≤2→∀ r∈L i,in3 r
 pub:∀ i j,i≤2→j≤2→j≠i→∀ r∈L j,r.At.House=(i:Int)→r∈(L i).take (F i)
 kno:∀ k i x,k≤2→i≤2→x<6→kn (hs k).Known i x≤((cnt Za2 ((L i).take (F i)) (x:Int):Nat):Int)
 slp:∀ s∈sl,∃ f u,SI s f u∧(∀ r∈s.Records,∃ x:Nat,x≤2∧r.At.House=(x:Int)∧r∈(L x).take (F x))∧∀ x,x<6→g6 s.Have x≤((cnt Za2 ((L f).take (F f)) (x:Int):Nat):Int)
def up {α:Type} (f:Nat→α) (i:Nat) (x:α):Nat→α:=fun j=>if j=i then x else f j
theorem Zb1 {α:Type} (f:Nat→α) (i:Nat) (x:α):up f i x i=x:=if_pos rfl
theorem Zef {α:Type} (f:Nat→α) {i j:Nat} (x:α) (h:j≠i):up f i x j=f j:=if_neg h
section
variable {hs:Nat→House}{sl:List Slip}{L:Nat→List Record}{F:Nat→Nat}{t:Nat}
theorem W.vl (w:W hs sl L F t) {i:Nat} (hi:i≤2):VL Za2 (fun _=>0) (L i):=(w.hi i hi).good.vl
theorem W.in_own (w:W hs sl L F t) {i x:Nat} (hi:i≤2) (hx:x≤2) {r:Record} (hr:r∈L i) (e:r.At.House=(x:Int)):r∈L x:=by
 by_cases h:i=x
 ·exact h▸hr
 ·exact List.mem_of_mem_take (w.pub x i hx hi h r hr e)
theorem W.one (w:W hs sl L F t) {i j:Nat} (hi:i≤2) (hj:j≤2) {x y:Record} (hx:x∈L i) (hy:y∈L j) (e:Za2 x=Za2 y):x=y:=by
 obtain⟨h,h2,eh⟩:=w.hou i hi x hx
 have ey:y.At.House=(h:Int):=by
  have:x.At.House=y.At.House:=congrArg Prod.fst e
  rw[←this];exact eh
 exact ZtL Za2 (w.vl h2) (w.in_own hi h2 hx eh) (w.in_own hj h2 hy ey) e
theorem W.len (w:W hs sl L F t) {i:Nat} (hi:i≤2):(L i).length≤t:=by
 have h:=ZvQ (w.hou i hi)
 have h0:=Zea (w.vl hi) (w.vl (i:=0) (by decide)) 0 (fun r hr e=>w.in_own hi (by decide) hr e)
 have h1:=Zea (w.vl hi) (w.vl (i:=1) (by decide)) 1 (fun r hr e=>w.in_own hi (by decide) hr e)
 have h2:=Zea (w.vl hi) (w.vl (i:=2) (by decide)) 2 (fun r hr e=>w.in_own hi (by decide) hr e)
 have:=w.own
 omega
theorem W.upd (w:W hs sl L F t) {i:Nat} (hi2:i≤2) {h':House}{L':List Record}{F' t':Nat} (H:HI h' i L' F') (ht:t≤t')
  (ha:∀ r∈(L i).take (F i),r∈L'.take F') (hb:∀ r∈L',∀ x:Nat,x≤2→x≠i→r.At.House=(x:Int)→r∈(L x).take (F x)) (hc:∀ r∈L',in3 r)
  (hd:∀ j x,j≤2→x<6→kn h'.Known j x≤if j=i then ((cnt Za2 (L'.take F') (x:Int):Nat):Int) else ((cnt Za2 ((L j).take (F j)) (x:Int):Nat):Int))
  (he:cnt Za2 L' (i:Int)+t≤cnt Za2 (L i) (i:Int)+t') (hf:h'.Ledger.Epoch≤1+t'):W (up hs i h') sl (up L i L') (up F i F') t':=by
 have hmono:∀ j x,j≤2→((cnt Za2 ((L j).take (F j)) x:Nat):Int)≤((cnt Za2 ((up L i L' j).take (up F i F' j)) x:Nat):Int):=fun j x hj=>by
  by_cases e:j=i
  ·subst e
   rw[Zb1,Zb1]
   have:=Zea (Ze1 Za2 (w.vl hj) (F j)) (Ze1 Za2 H.good.vl F') x (fun r hr _=>ha r hr)
   omega
  ·rw[Zef _ _ e,Zef _ _ e];exact Int.le_refl _
 have hin:∀ (j:Nat) r,j≤2→r∈(L j).take (F j)→r∈(up L i L' j).take (up F i F' j):=fun j r hj hr=>by
  by_cases e:j=i
  ·subst e;rw[Zb1,Zb1];exact ha r hr
  ·rw[Zef _ _ e,Zef _ _ e];exact hr
 refine⟨fun j hj=>?_,fun j hj=>?_,?_,fun j hj r hr=>?_,fun x j hx hj hne r hr e=>?_,fun k j x hk hj hx=>?_,fun s hs=>?_⟩
 ·by_cases e:j=i
  ·subst e;rw[Zb1,Zb1,Zb1];exact H
  ·rw[Zef _ _ e,Zef _ _ e,Zef _ _ e];exact w.hi j hj
 ·by_cases e:j=i
  ·subst e;rw[Zb1];exact hf
  ·rw[Zef _ _ e];have:=w.ep j hj;omega
 ·have ho:=w.own
  have:i=0∨i=1∨i=2:=by omega
  rcases this with rfl|rfl|rfl
  ·have he':cnt Za2 L' 0+t≤cnt Za2 (L 0) 0+t':=he
   rw[Zb1,Zef _ _ (by decide),Zef _ _ (by decide)];omega
  ·have he':cnt Za2 L' 1+t≤cnt Za2 (L 1) 1+t':=he
   rw[Zb1,Zef _ _ (by decide),Zef _ _ (by decide)];omega
  ·have he':cnt Za2 L' 2+t≤cnt Za2 (L 2) 2+t':=he
   rw[Zb1,Zef _ _ (by decide),Zef _ _ (by decide)];omega
 ·by_cases e:j=i
  ·subst e;rw[Zb1]at hr;exact hc r hr
  ·rw[Zef _ _ e]at hr;exact w.hou j hj r hr
 ·by_cases e2:j=i
  ·subst e2
   rw[Zb1]at hr
   exact hin x r hx (hb r hr x hx (Ne.symm hne) e)
  ·rw[Zef _ _ e2]at hr
   exact hin x r hx (w.pub x j hx hj hne r hr e)
 ·by_cases e:k=i
  ·subst e
   rw[Zb1]
   have:=hd j x hj hx
   by_cases e2:j=k
   ·subst e2
    rw[if_pos rfl]at this
    rw[Zb1,Zb1];exact this
   ·rw[if_neg e2]at this
    rw[Zef _ _ e2,Zef _ _ e2];exact this
  ·rw[Zef _ _ e]
   have:=w.kno k j x hk hj hx
   have:=hmono j (x:Int) hj
   omega
 ·obtain⟨f,u,s1,s2,s3⟩:=w.slp s hs
  refine⟨f,u,s1,fun r hr=>?_,fun x hx=>?_⟩
  ·obtain⟨x,x1,x2,x3⟩:=s2 r hr
   exact⟨x,x1,x2,hin x r x1 x3⟩
  ·have:=s3 x hx
   have:=hmono f (x:Int) s1.f2
   omega
theorem W.slips (w:W hs sl L F t) {sl':List Slip} (h:∀ s∈sl',s∈sl∨∃ f u,SI s f u∧(∀ r∈s.Records,∃ x:Nat,x≤2∧r.At.House=(x:Int)∧r∈(L x).take (F x))∧∀ x,x<6→g6 s.Have x≤((cnt Za2 ((L f).take (F f)) (x:Int):Nat):Int)):W hs sl' L F t:=
 ⟨w.hi,w.ep,w.own,w.hou,w.pub,w.kno,fun s hs=>by
  rcases h s hs with g|g
  ·exact w.slp s g
  ·exact g⟩
theorem W.later (w:W hs sl L F t) {t':Nat} (h:t≤t'):W hs sl L F t':=
 ⟨w.hi,fun i hi=>by have:=w.ep i hi;omega,by have:=w.own;omega,w.hou,w.pub,w.kno,w.slp⟩
theorem W.note (w:W hs sl L F t) {k:Nat} (hk:1000000<k) {i:Nat} (hi:i≤2) (ht:t≤40) (r:Record) (hr:Zfw ⟨⟨(i:Int),((cnt Za2 (L i) (i:Int):Nat):Int)⟩,r.Kind,r.Day,r.Known,r.Of,r.Text⟩=true):
  ∃ h' x,Zd5 k (hs i) r=some (h',x,0)∧x.At.House=(i:Int)∧∃ L',W (up hs i h') sl (up L i L') (up F i (F i)) (t+1):=by
 have hl:=w.len hi
 obtain⟨h',g1,g2,g3,g4⟩:=(w.hi i hi).note hk (by omega) r hr
 refine⟨h',_,g1,rfl,_,w.upd hi g4 (by omega) (fun x hx=>?_) (fun x hx y hy hne e=>?_) (fun x hx=>?_) (fun j x hj hx=>?_) ?_ ?_⟩
 ·rw[List.take_append_of_le_length (w.hi i hi).firmle];exact hx
 ·rcases List.mem_append.1 hx with g|g
  ·exact w.pub y i hy hi (Ne.symm hne) x g e
  ·rw[List.mem_singleton.1 g]at e
   simp only at e
   omega
 ·rcases List.mem_append.1 hx with g|g
  ·exact w.hou i hi x g
  ·rw[List.mem_singleton.1 g];exact⟨i,hi,rfl⟩
 ·rw[g3]
  have:=w.kno i j x hi hj hx
  by_cases e:j=i
  ·subst e
   rw[if_pos rfl,List.take_append_of_le_length (w.hi j hj).firmle];exact this
  ·rw[if_neg e];exact this
 ·rw[Zdb,Zca,Zfb]
  show _+(0+if (i:Int)=(i:Int) then 1 else 0)+t≤_
  rw[if_pos rfl];omega
 ·rw[g2];have:=w.ep i hi;omega
theorem W.restart (w:W hs sl L F t) {k:Nat} (hk:1000000<k) {i:Nat} (hi:i≤2) (ht:t≤40) (picks:List Int) (hp:picks.length≤4611686018427387904):
  ∃ h' m,ZbN k (hs i) picks=some (h',0)∧F i≤m∧m≤(L i).length∧HI h' i ((L i).take m) m∧W (up hs i h') sl (up L i ((L i).take m)) (up F i m) (t+1):=by
 have he:=w.ep i hi
 obtain⟨h',m,m1,m2,m3,m4,m5,m6⟩:=(w.hi i hi).restart hk (by omega) picks hp
 refine⟨h',m,m3,m1,m2,m6,w.upd hi m6 (by omega) (fun x hx=>?_) (fun x hx y hy hne e=>?_) (fun x hx=>?_) (fun j x hj hx=>?_) ?_ ?_⟩
 ·rw[List.take_take,Nat.min_self]
  have e:(L i).take (F i)=((L i).take m).take (F i):=by rw[List.take_take,Nat.min_eq_left m1]
  rw[e]at hx
  exact List.mem_of_mem_take hx
 ·exact w.pub y i hy hi (Ne.symm hne) x (List.mem_of_mem_take hx) e
 ·exact w.hou i hi x (List.mem_of_mem_take hx)
 ·rw[m5,Zho];split<;>omega
 ·have:=Zea (Ze1 Za2 (w.vl hi) m) (w.vl hi) (i:Int) (fun r hr _=>List.mem_of_mem_take hr)
  omega
 ·omega
theorem W.firmSub (w:W hs sl L F t) {i:Nat} (hi:i≤2) {x:Nat}{r:Record} (hx:x≤2) (hr:r∈L i) (e:r.At.House=(x:Int)):r∈(up L i (L i) x).take (up F i (L i).length x):=by
 by_cases h:x=i
 ·subst h;rw[Zb1,Zb1,List.take_length];exact hr
 ·rw[Zef _ _ h,Zef _ _ h]
  exact w.pub x i hx hi (Ne.symm h) r hr e
theorem ZiA {b:List Record}{K:Vec 6 Int}{r:Record} (h:r∈ZeK b K):r∈b∧g6 K r.At.House.toNat≤r.At.No:=by
 unfold ZeK at h
 have:=List.mem_filter.1 (List.mem_of_mem_take h)
 exact⟨this.1,of_decide_eq_true this.2⟩
theorem W.offer (w:W hs sl L F t) {k:Nat} (hk:1000000<k) {i to:Nat} (hi:i≤2) (hto:to≤2) (hne:to≠i) (ht:t≤40):
  ∃ h',Za7 k (hs i) (to:Int)=some (h',⟨(i:Int),(to:Int),Zg0 (L i),ZeK (bk Za2 [] (L i)) (kr (hs i).Known to)⟩,0)∧h'.Known=(hs i).Known∧h'.Ledger=(hs i).Ledger∧W (up hs i h') sl (up L i (L i)) (up F i (L i).length) t∧
   (SI ⟨(i:Int),(to:Int),Zg0 (L i),ZeK (bk Za2 [] (L i)) (kr (hs i).Known to)⟩ i to∧(∀ r∈ZeK (bk Za2 [] (L i)) (kr (hs i).Known to),∃ x:Nat,x≤2∧r.At.House=(x:Int)∧r∈(up L i (L i) x).take (up F i (L i).length x))∧∀ x,x<6→g6 (Zg0 (L i)) x≤((cnt Za2 ((up L i (L i) i).take (up F i (L i).length i)) (x:Int):Nat):Int)):=by
 have H:=w.hi i hi
 have hl:=w.len hi
 have hbi:=H.good.bi
 obtain⟨d,o1,o2⟩:=H.offer hk hto hne
 refine⟨_,o1,rfl,rfl,w.upd hi o2 (Nat.le_refl _) (fun x hx=>?_) (fun x hx y hy hne e=>w.pub y i hy hi (Ne.symm hne) x hx e) (w.hou i hi) (fun j x hj hx=>?_) (Nat.le_refl _) (w.ep i hi),⟨rfl,rfl,hi,hto,Ne.symm hne,fun x=>?_,?_,fun r hr=>?_⟩,fun r hr=>?_,fun x hx=>?_⟩
 ·rw[List.take_length];exact List.mem_of_mem_take hx
 ·have:=w.kno i j x hi hj hx
  by_cases e:j=i
  ·subst e
   rw[if_pos rfl,List.take_length]
   have:=Zea (Ze1 Za2 (w.vl hj) (F j)) (w.vl hj) (x:Int) (fun r hr _=>List.mem_of_mem_take hr)
   simp only at *
   omega
  ·rw[if_neg e];exact this
 ·by_cases hx:x<6
  ·rw[Ziv _ hx]
   have:=ZkA (L i) (x:Int)
   omega
  ·rw[Zua _ (by omega)];omega
 ·show (ZeK _ _).length≤8
  unfold ZeK
  rw[List.length_take];omega
 ·exact H.good.ok r ((hbi.mem r).1 (ZiA hr).1)
 ·have hr':=(hbi.mem r).1 (ZiA hr).1
  obtain⟨x,hx,e⟩:=w.hou i hi r hr'
  exact⟨x,hx,e,w.firmSub hi hx hr' e⟩
 ·rw[Ziv _ hx,Zb1,Zb1,List.take_length]
  exact Int.le_refl _
theorem W.receive (w:W hs sl L F t) {k:Nat} (hk:1000000<k) {i f:Nat}{s:Slip} (S:SI s f i) (ht:t≤40) (hr:∀ r∈s.Records,∃ x:Nat,x≤2∧r.At.House=(x:Int)∧r∈(L x).take (F x))
  (hv:∀ x,x<6→g6 s.Have x≤((cnt Za2 ((L f).take (F f)) (x:Int):Nat):Int)):
  ∃ h',Zao k (hs i) s=some (h',(if s.Records=[] then [] else [⟨(i:Int),(f:Int),Zg0 (ZhP (L i) s.Records),[]⟩]),0)∧h'.Ledger.Epoch=(hs i).Ledger.Epoch∧
   (∀ j x,kn h'.Known j x=if j=f∧x<6 then max (kn (hs i).Known j x) (g6 s.Have x) else kn (hs i).Known j x)∧
   W (up hs i h') sl (up L i (ZhP (L i) s.Records)) (up F i (ZhP (L i) s.Records).length) t∧
   (SI ⟨(i:Int),(f:Int),Zg0 (ZhP (L i) s.Records),[]⟩ i f∧∀ x,x<6→g6 (Zg0 (ZhP (L i) s.Records)) x≤((cnt Za2 ((up L i (ZhP (L i) s.Records) i).take (up F i (ZhP (L i) s.Records).length i)) (x:Int):Nat):Int)):=by
 have hi:=S.t2
 have H:=w.hi i hi
 have hl:=w.len hi
 have hT:∀ x,(x∈L i∨x∈s.Records)→∃ j,j≤2∧x∈L j:=fun x hx=>by
  rcases hx with hx|hx
  ·exact⟨i,hi,hx⟩
  ·obtain⟨y,y1,_,y3⟩:=hr x hx
   exact⟨y,y1,List.mem_of_mem_take y3⟩
 obtain⟨h',r1,r2,r3,r4⟩:=H.receive hk S (fun x y hx hy e=>by
  obtain⟨a,a1,a2⟩:=hT x hx
  obtain⟨b,b1,b2⟩:=hT y hy
  exact w.one a1 b1 a2 b2 e) (by omega)
 have hnew:∀ r∈ZhP (L i) s.Records,∀ x:Nat,x≤2→r.At.House=(x:Int)→r∈L i∨r∈(L x).take (F x):=fun r hrr x hx e=>by
  rcases ZjW _ _ r hrr with g|g
  ·exact .inl g
  ·obtain⟨y,y1,y2,y3⟩:=hr r g
   have:y=x:=by omega
   subst this
   exact .inr y3
 have hlen':=Zm7 s.Records (L i)
 have hS8:=S.len
 refine⟨h',r1,r3,r4,w.upd hi r2 (Nat.le_refl _) (fun x hx=>?_) (fun x hx y hy hne e=>?_) (fun x hx=>?_) (fun j x hj hx=>?_) ?_ ?_,⟨rfl,rfl,hi,S.f2,Ne.symm S.ne,fun x=>?_,by simp,by simp⟩,fun x hx=>?_⟩
 ·rw[List.take_length];exact ZjZ _ _ x (List.mem_of_mem_take hx)
 ·rcases hnew x hx y hy e with g|g
  ·exact w.pub y i hy hi (Ne.symm hne) x g e
  ·exact g
 ·rcases ZjW _ _ x hx with g|g
  ·exact w.hou i hi x g
  ·obtain⟨y,y1,y2,_⟩:=hr x g
   exact⟨y,y1,y2⟩
 ·rw[r4]
  have h1:=w.kno i j x hi hj hx
  have h2:((cnt Za2 ((L j).take (F j)) (x:Int):Nat):Int)≤if j=i then ((cnt Za2 ((ZhP (L i) s.Records).take (ZhP (L i) s.Records).length) (x:Int):Nat):Int) else ((cnt Za2 ((L j).take (F j)) (x:Int):Nat):Int):=by
   by_cases e:j=i
   ·subst e
    rw[if_pos rfl,List.take_length]
    have:=Zea (Ze1 Za2 (w.vl hj) (F j)) r2.good.vl (x:Int) (fun r hr _=>ZjZ _ _ r (List.mem_of_mem_take hr))
    omega
   ·rw[if_neg e];exact Int.le_refl _
  by_cases e:j=f
  ·subst e
   have h3:=hv x hx
   rw[if_pos ⟨rfl,hx⟩]
   omega
  ·rw[if_neg (fun c=>e c.1)]
   omega
 ·have:=Zea r2.good.vl (w.vl hi) (i:Int) (fun r hr e=>by
   rcases hnew r hr i hi e with g|g
   ·exact g
   ·exact List.mem_of_mem_take g)
  omega
 ·rw[r3];exact w.ep i hi
 ·by_cases hx:x<6
  ·rw[Ziv _ hx]
   have:=ZkA (ZhP (L i) s.Records) (x:Int)
   have h1:(ZhP (L i) s.Records).length≤50:=r2.good.len
   omega
  ·rw[Zua _ (by omega)];omega
 ·rw[Ziv _ hx,Zb1,Zb1,List.take_length]
  exact Int.le_refl _
end
end Go.Abs
namespace Go.Abs
open Go Go.Proofs
set_option maxRecDepth 20000
set_option linter.unusedVariables false
set_option linter.unusedSimpArgs false
theorem ZqT (v:Vec 3 House) {i:Nat} (hi:i≤2) (x:House):h3 (v.set (i:Int) x)=up (h3 v) i x:=by
 funext j
 rw[Zi3 v hi];rfl
def Ok (v:Vec 3 House) (sl:List Slip) (t:Nat):Prop:=sl.length≤2*t∧∃ L F,W (h3 v) sl L F t
theorem ZoI {k:Nat} (hk:1000000<k):∃ v,whl (Zaq.b0 k) k ((Vec.rep 3 ((⟨0,(⟨[],[]⟩:Disk),(⟨(⟨[]⟩:Book),0,0,0⟩:Ledger),(Vec.rep 6 ((Vec.rep 6 (0:Int)):(Vec 6 Int)))⟩:House):House)),0)=some (.brk v)∧Ok v [] 0:=by
 obtain⟨m,rfl⟩:∃ m,k=m+4:=⟨k - 4,by omega⟩
 have step:∀ (i:Nat) (v:Vec 3 House),i≤2→∃ h,Zaq.b0 (m+4) (v,(i:Int))=some (.next (v.set (i:Int) h,((i+1:Nat):Int)))∧HI h i [] 0∧h.Known=knZ∧h.Ledger.Epoch=1:=by
  intro i v hi
  obtain⟨h,g1,g2,g3,g4⟩:=ZlR (k:=m+4) hi
  have hw:w64 ((i:Int)+1)=((i+1:Nat):Int):=by rw[ZaD (by omega) (by omega)];omega
  refine⟨h,?_,g2,g3,g4⟩
  unfold Zaq.b0
  simp only[decide_eq_true (show (i:Int)<3 by omega),cond_true,g1,Option.bind_some,decide_true,Bool.not_true,cond_false,ZkU v hi,hw]
 generalize (Vec.rep 3 ((⟨0,(⟨[],[]⟩:Disk),(⟨(⟨[]⟩:Book),0,0,0⟩:Ledger),(Vec.rep 6 ((Vec.rep 6 (0:Int)):(Vec 6 Int)))⟩:House):House))=v0
 obtain⟨a,a1,a2,a3,a4⟩:=step 0 v0 (by decide)
 obtain⟨b,b1,b2,b3,b4⟩:=step 1 (v0.set ((0:Nat):Int) a) (by decide)
 obtain⟨c,c1,c2,c3,c4⟩:=step 2 ((v0.set ((0:Nat):Int) a).set ((1:Nat):Int) b) (by decide)
 have e3:∀ v,Zaq.b0 (m+4) (v,((3:Nat):Int))=some (.brk v):=fun v=>by unfold Zaq.b0;rfl
 have a1':Zaq.b0 (m+4) (v0,0)=some (.next (v0.set ((0:Nat):Int) a,((1:Nat):Int))):=a1
 have b1':Zaq.b0 (m+4) (v0.set ((0:Nat):Int) a,((1:Nat):Int))=some (.next ((v0.set ((0:Nat):Int) a).set ((1:Nat):Int) b,((2:Nat):Int))):=b1
 have c1':Zaq.b0 (m+4) ((v0.set ((0:Nat):Int) a).set ((1:Nat):Int) b,((2:Nat):Int))=some (.next (((v0.set ((0:Nat):Int) a).set ((1:Nat):Int) b).set ((2:Nat):Int) c,((3:Nat):Int))):=c1
 refine⟨((v0.set ((0:Nat):Int) a).set ((1:Nat):Int) b).set ((2:Nat):Int) c,by simp only[whl,a1',b1',c1',e3],by simp,fun _=>[],fun _=>0,?_⟩
 have h0:h3 (((v0.set ((0:Nat):Int) a).set ((1:Nat):Int) b).set ((2:Nat):Int) c) 0=a:=by rw[Zi3 _ (by decide),if_neg (by decide),Zi3 _ (by decide),if_neg (by decide),Zi3 _ (by decide),if_pos rfl]
 have h1:h3 (((v0.set ((0:Nat):Int) a).set ((1:Nat):Int) b).set ((2:Nat):Int) c) 1=b:=by rw[Zi3 _ (by decide),if_neg (by decide),Zi3 _ (by decide),if_pos rfl]
 have h2:h3 (((v0.set ((0:Nat):Int) a).set ((1:Nat):Int) b).set ((2:Nat):Int) c) 2=c:=by rw[Zi3 _ (by decide),if_pos rfl]
 have three:∀ i:Nat,i≤2→i=0∨i=1∨i=2:=fun i hi=>by omega
 refine⟨fun i hi=>?_,fun i hi=>?_,by decide,fun i hi r hr=>by simp at hr,fun i j hi hj hne r hr=>by simp at hr,fun q i x hq hi hx=>?_,by simp⟩
 ·rcases three i hi with rfl|rfl|rfl
  ·rw[h0];exact a2
  ·rw[h1];exact b2
  ·rw[h2];exact c2
 ·rcases three i hi with rfl|rfl|rfl
  ·rw[h0,a4];decide
  ·rw[h1,b4];decide
  ·rw[h2,c4];decide
 ·rcases three q hq with rfl|rfl|rfl
  ·rw[h0,a3,Zho];omega
  ·rw[h1,b3,Zho];omega
  ·rw[h2,c3,Zho];omega
def txN:List ByteArray:=[ByteArray.empty,(⟨#[115,101,116]⟩:ByteArray),(⟨#[97,32,116,101,120,116,32,116,104,97,116,32,105,115,32,99,117,116,32,105,110,116,111,32,116,104,114,101,101,32,112,97,114,116,115,32,111,102,32,97,32,112,97,103,101,44,32,97,116,32,108,101,97,115,116]⟩:ByteArray)]
theorem ZuI {i:Int} (h0:0≤i) (h1:i<3):∃ s,at? txN i=some s∧Zms s=true:=by
 have:i=0∨i=1∨i=2:=by omega
 rcases this with rfl|rfl|rfl
 ·exact⟨_,rfl,by decide +kernel⟩
 ·exact⟨_,rfl,by decide +kernel⟩
 ·exact⟨_,rfl,by decide +kernel⟩
section
variable {k t:Nat}{v:Vec 3 House}{sl:List Slip}
theorem Ok.offer (h:Ok v sl t) (hk:1000000<k) (ht:t≤14) {me to:Nat} (hm:me≤2) (hto:to≤2) (hne:to≠me):
  ∃ h' s,Za7 k (h3 v me) (to:Int)=some (h',s,0)∧Ok (v.set (me:Int) h') (sl++[s]) (t+1):=by
 obtain⟨h0,L,F,w⟩:=h
 obtain⟨h',g1,_,_,g4,g5,g6,g7⟩:=w.offer hk hm hto hne (by omega)
 refine⟨h',_,g1,by simp;omega,up L me (L me),up F me (L me).length,?_⟩
 rw[ZqT v hm]
 refine W.later (W.slips g4 fun s hs=>?_) (by omega)
 rcases List.mem_append.1 hs with q|q
 ·exact .inl q
 ·rw[List.mem_singleton.1 q];exact .inr ⟨me,to,g5,g6,g7⟩
theorem Ok.receive (h:Ok v sl t) (hk:1000000<k) (ht:t≤14) {s:Slip} (hs:s∈sl):
  ∃ u:Nat,u≤2∧s.To=(u:Int)∧∃ h' back,Zao k (h3 v u) s=some (h',back,0)∧back.length≤1∧∀ sl':List Slip,(∀ x∈sl',x∈sl∨x∈back)→sl'.length≤sl.length+1→Ok (v.set (u:Int) h') sl' (t+1):=by
 obtain⟨h0,L,F,w⟩:=h
 obtain⟨f,u,S,s2,s3⟩:=w.slp s hs
 obtain⟨h',g1,g2,g3,g4,g5,g6⟩:=w.receive hk S (by omega) s2 s3
 refine⟨u,S.t2,S.to_,h',_,g1,by split<;>simp,fun sl' hx hl=>⟨by omega,up L u (ZhP (L u) s.Records),up F u (ZhP (L u) s.Records).length,?_⟩⟩
 rw[ZqT v S.t2]
 refine W.later (W.slips g4 fun x hxx=>?_) (by omega)
 rcases hx x hxx with q|q
 ·exact .inl q
 ·split at q
  ·cases q
  ·rw[List.mem_singleton.1 q]
   exact .inr ⟨u,f,g5,by simp,g6⟩
theorem Ok.restart (h:Ok v sl t) (hk:1000000<k) (ht:t≤14) {me:Nat} (hm:me≤2) (picks:List Int) (hp:picks.length≤4611686018427387904):
  ∃ h',ZbN k (h3 v me) picks=some (h',0)∧Ok (v.set (me:Int) h') sl (t+1):=by
 obtain⟨h0,L,F,w⟩:=h
 obtain⟨h',m,g1,_,_,_,g2⟩:=w.restart hk hm (by omega) picks hp
 exact⟨h',g1,by omega,_,_,by rw[ZqT v hm];exact g2⟩
theorem Ok.note (h:Ok v sl t) (hk:1000000<k) (ht:t≤14) {me:Nat} (hm:me≤2) (r:Record) (hkd:1≤r.Kind∧r.Kind≤40) (hd:0≤r.Day∧r.Day≤100000) (hkn:0≤r.Known∧r.Known≤100000) (hof:r.Of=⟨0,0⟩) (htx:Zms r.Text=true):
  ∃ h' x,Zd5 k (h3 v me) r=some (h',x,0)∧x.At.House=(me:Int)∧Ok (v.set (me:Int) h') sl (t+1):=by
 obtain⟨h0,L,F,w⟩:=h
 have hl:=w.len hm
 have hc:=ZkA (L me) (me:Int)
 obtain⟨h',x,g1,g2,L',g3⟩:=w.note hk hm (by omega) r (by
  unfold Zfw Zg9
  simp only[Zdr (show 0≤(me:Int)∧(me:Int)≤5 by omega),Zdr (show 0≤((cnt Za2 (L me) (me:Int):Nat):Int)∧((cnt Za2 (L me) (me:Int):Nat):Int)≤9999 by omega),Zdr (show 0≤r.Kind∧r.Kind≤40 by omega),Zdr hd,Zdr hkn,htx,decide_eq_false (show ¬ r.Kind=0 by omega),Bool.not_false,cond_true,hof,Bool.and_self,decide_true])
 exact⟨h',x,g1,g2,by omega,_,_,by rw[ZqT v hm];exact g3⟩
theorem ZhZ (n:Int) {m:Nat} (hm:0<m):∃ q:Nat,q<m∧n % (m:Int)=(q:Int):=by
 have:=Zen n (m:=(m:Int)) (by omega)
 obtain⟨q,hq⟩:=Int.eq_ofNat_of_zero_le this.1
 exact⟨q,by omega,hq⟩
theorem Zpl (h:Ok v sl t) (hk:1000000<k) (ht:t≤14) (y:R09_Act) (i1:Int) (hne:¬ sl.length=0) (F:(Vec 3 House×Int×List Slip)→Option (Stp (Vec 3 House×Int×List Slip) (Vec 3 House×List Slip) (Vec 3 House×List Slip×Bool))) (hF:∀ s,F s=some (.next s)):
  ∃ v' sl',((Zc1 k y.To ((sl.length:Nat):Int)).bind fun x36=>
         (at? sl x36).bind fun x37=>
         bif (!decide (x37.To<(0:Int))) then
          bif decide ((2:Int)<x37.To) then
           some (.ret (v,[],false))
          else
           (v.at? x37.To).bind fun x40=>
           (Zao k x40 x37).bind fun x41=>
           bif (!decide (x41.2.2=(0:Int))) then
            some (.ret (v,[],false))
           else
            bif decide (Int.tmod y.House 2=(0:Int)) then
             (hs? sl.length x36).bind fun _=>
             (ZhQ x36.toNat 88).bind fun _=>
             (ls? sl.length (w64 (x36+1))).bind fun _=>
             (Zjd 88 (sl.take x36.toNat) ((sl.drop ((w64 (x36+1)).toNat)).take (sl.length - (w64 (x36+1)).toNat))).bind fun l48=>
             (Zjd 88 l48 x41.2.1).bind fun l49=>
             F (v.set x37.To x41.1,i1,l49)
            else
             (Zjd 88 sl x41.2.1).bind fun l50=>
             F (v.set x37.To x41.1,i1,l50)
         else
          some (.ret (v,[],false)))=some (.next (v',i1,sl'))∧Ok v' sl' (t+1):=by
 have hsl:=h.1
 obtain⟨q,q1,q2⟩:=ZhZ y.To (m:=sl.length) (by omega)
 obtain⟨s,hs⟩:∃ s,sl[q]?=some s:=⟨_,gG q1⟩
 obtain⟨u,u1,u2,h',back,g1,g2,g3⟩:=h.receive hk ht (List.mem_of_getElem? hs)
 have hw:w64 ((q:Int)+1)=((q+1:Nat):Int):=by rw[ZaD (by omega) (by omega)];omega
 have hhs:hs? sl.length (q:Int)=some ():=by unfold hs?;rw[if_pos (by omega)]
 have hrm:ZhQ q 88=some ():=by unfold ZhQ;rw[if_pos ⟨by omega,by omega⟩]
 have hls:ls? sl.length ((q+1:Nat):Int)=some ():=by unfold ls?;rw[if_pos (by omega)]
 have hl1:(sl.take q).length=q:=by rw[List.length_take];omega
 have hl2:((sl.drop (q+1)).take (sl.length - (q+1))).length=sl.length - (q+1):=by rw[List.length_take,List.length_drop];omega
 rw[ZcM k y.To (m:=((sl.length:Nat):Int)) (by omega) (by omega),q2]
 simp only[Option.bind_some,ZcV hs,u2,decide_eq_false (show ¬ (u:Int)<0 by omega),Bool.not_false,cond_true,decide_eq_false (show ¬ (2:Int)<(u:Int) by omega),cond_false,ZkU v u1,g1,decide_true,Bool.not_true]
 by_cases he:Int.tmod y.House 2=0
 ·simp only[decide_eq_true he,cond_true,hhs,Int.toNat_natCast,hrm,hw,hls,Option.bind_some]
  rw[Zkt (by rw[hl1,hl2];omega) (by rw[hl1,hl2];omega)]
  simp only[Option.bind_some]
  rw[Zkt (by rw[List.length_append,hl1,hl2];omega) (by rw[List.length_append,hl1,hl2];omega)]
  simp only[Option.bind_some,hF]
  refine⟨_,_,rfl,g3 _ (fun x hx=>?_) ?_⟩
  ·rcases List.mem_append.1 hx with a|a
   ·left
    rcases List.mem_append.1 a with b|b
    ·exact List.mem_of_mem_take b
    ·exact List.mem_of_mem_drop (List.mem_of_mem_take b)
   ·exact .inr a
  ·rw[List.length_append,List.length_append,hl1,hl2];omega
 ·simp only[decide_eq_false he,cond_false]
  rw[Zkt (by omega) (by omega)]
  simp only[Option.bind_some,hF]
  exact⟨_,_,rfl,g3 _ (fun x hx=>List.mem_append.1 hx) (by rw[List.length_append];omega)⟩
theorem ZpR (h:Ok v sl t) (hk:1000000<k) {l:List R09_Act}{y:R09_Act} (hy:l[t]?=some y) (ht:t<14) (hp:y.Picks.length≤4611686018427387904):
  ∃ v' sl',Zaq.b1 k l (v,(t:Int),sl)=some (.next (v',((t+1:Nat):Int),sl'))∧Ok v' sl' (t+1):=by
 have hi:=(gS.1 hy).1
 have hsl:=h.1
 have hw:w64 ((t:Int)+1)=((t+1:Nat):Int):=by rw[ZaD (by omega) (by omega)];omega
 obtain⟨me,m1,m2⟩:=ZhZ y.House (m:=3) (by decide)
 obtain⟨kd,k1,k2⟩:=ZhZ y.Kind (m:=8) (by decide)
 obtain⟨to2,t1,t2⟩:=ZhZ y.To (m:=2) (by decide)
 have m2':y.House % 3=(me:Int):=m2
 have k2':y.Kind % 8=(kd:Int):=k2
 have t2':y.To % 2=(to2:Int):=t2
 have hto:Int.tmod (w64 ((w64 ((me:Int)+1))+(to2:Int))) 3=(((me+1+to2) % 3:Nat):Int):=by
  rw[ZaD (n:=(me:Int)+1) (by omega) (by omega),ZaD (by omega) (by omega)]
  rw[show (me:Int)+1+(to2:Int)=((me+1+to2:Nat):Int) by omega,show (3:Int)=((3:Nat):Int) from rfl,←Int.ofNat_tmod]
 obtain⟨ho,s,o1,o2⟩:=h.offer hk (by omega) (me:=me) (to:=(me+1+to2) % 3) (by omega) (by omega) (by omega)
 obtain⟨hr,r1,r2⟩:=h.restart hk (by omega) (me:=me) (by omega) y.Picks hp
 have hpush:ZeY 88 sl s=some (sl++[s]):=Zi9 (by omega) (by omega)
 have recv:=fun(hne:¬ sl.length=0)=>Zpl (k:=k) h hk (by omega) y ((t+1:Nat):Int) hne (fun s=>some (.next s)) (fun _=>rfl)
 obtain⟨a0,b0,c0,d0,e0,hrec⟩:=ZvZ y.Record
 have R1:y.Record.at? 1=some b0:=by rw[hrec];rfl
 have R2:y.Record.at? 2=some c0:=by rw[hrec];rfl
 have R3:y.Record.at? 3=some d0:=by rw[hrec];rfl
 have R4:y.Record.at? 4=some e0:=by rw[hrec];rfl
 have B40:=Zen b0 (m:=40) (by decide)
 have B50:=Zen c0 (m:=50) (by decide)
 have B51:=Zen d0 (m:=50) (by decide)
 have B3:=Zen e0 (m:=3) (by decide)
 obtain⟨tx,x1,x2⟩:=ZuI B3.1 B3.2
 have w40:w64 (1+b0 % 40)=1+b0 % 40:=ZaD (by omega) (by omega)
 obtain⟨hn,xr,n1,n2,n3⟩:=h.note hk (by omega) (me:=me) (by omega) ⟨⟨0,0⟩,1+b0 % 40,c0 % 50,d0 % 50,⟨0,0⟩,tx⟩ (by simp only;omega) (by simp only;omega) (by simp only;omega) rfl x2
 unfold txN at x1
 unfold Zaq.b1
 simp only[decide_eq_true (show (t:Int)<(l.length:Int) by omega),cond_true,decide_eq_true (show (t:Int)<14 by omega),ZcV hy,Option.bind_some,ZcM k y.House (m:=3) (by decide) (by decide),ZcM k y.Kind (m:=8) (by decide) (by decide),m2',k2',hw]
 by_cases c3:kd=3
 ·simp only[decide_eq_true (show (kd:Int)=3 by omega),cond_true,ZkU v (show me≤2 by omega),Option.bind_some,ZcM k y.To (m:=2) (by decide) (by decide),t2',hto,o1,decide_true,Bool.not_true,cond_false,hpush]
  exact⟨_,_,rfl,o2⟩
 simp only[decide_eq_false (show ¬ (kd:Int)=3 by omega),cond_false]
 by_cases c4:kd=4
 ·simp only[decide_eq_true (show (kd:Int)=4 by omega),cond_true,ZkU v (show me≤2 by omega),Option.bind_some,ZcM k y.To (m:=2) (by decide) (by decide),t2',hto,o1,decide_true,Bool.not_true,cond_false,hpush]
  exact⟨_,_,rfl,o2⟩
 simp only[decide_eq_false (show ¬ (kd:Int)=4 by omega),cond_false]
 have skip:Ok v sl (t+1):=by
  obtain⟨_,L,F,w⟩:=h
  exact⟨by omega,L,F,w.later (by omega)⟩
 by_cases c5:kd=5
 ·simp only[decide_eq_true (show (kd:Int)=5 by omega),cond_true]
  by_cases hz:sl.length=0
  ·simp only[decide_eq_true (show ((sl.length:Nat):Int)=0 by omega),cond_true]
   exact⟨_,_,rfl,skip⟩
  ·simp only[decide_eq_false (show ¬ ((sl.length:Nat):Int)=0 by omega),cond_false]
   exact recv hz
 simp only[decide_eq_false (show ¬ (kd:Int)=5 by omega),cond_false]
 by_cases c6:kd=6
 ·simp only[decide_eq_true (show (kd:Int)=6 by omega),cond_true]
  by_cases hz:sl.length=0
  ·simp only[decide_eq_true (show ((sl.length:Nat):Int)=0 by omega),cond_true]
   exact⟨_,_,rfl,skip⟩
  ·simp only[decide_eq_false (show ¬ ((sl.length:Nat):Int)=0 by omega),cond_false]
   exact recv hz
 simp only[decide_eq_false (show ¬ (kd:Int)=6 by omega),cond_false]
 by_cases c7:kd=7
 ·simp only[decide_eq_true (show (kd:Int)=7 by omega),cond_true,ZkU v (show me≤2 by omega),Option.bind_some,r1,decide_true,Bool.not_true,cond_false]
  exact⟨_,_,rfl,r2⟩
 simp only[decide_eq_false (show ¬ (kd:Int)=7 by omega),cond_false,ZkU v (show me≤2 by omega),R1,R2,R3,R4,Option.bind_some,ZcM k b0 (m:=40) (by decide) (by decide),ZcM k c0 (m:=50) (by decide) (by decide),ZcM k d0 (m:=50) (by decide) (by decide),ZcM k e0 (m:=3) (by decide) (by decide),x1,w40,n1,decide_true,cond_true,n2,Bool.not_true]
 exact⟨_,_,rfl,n3⟩
end
theorem ZkZ {k:Nat} (hk:1000000<k) (l:List R09_Act) (hp:∀ y∈l,y.Picks.length≤4611686018427387904):∃ v sl t,Zaq k l=some (v,sl,true)∧t≤14∧Ok v sl t:=by
 obtain⟨v0,n1,n2⟩:=ZoI hk
 have key:∀ (n t m:Nat) (v:Vec 3 House) (sl:List Slip),t+n=min 14 l.length→n<m→Ok v sl t→∃ v' sl',whl (Zaq.b1 k l) m (v,(t:Int),sl)=some (.brk (v',sl'))∧Ok v' sl' (t+n):=by
  intro n
  induction n with
  |zero=>
   intro t m v sl h1 h2 h
   obtain⟨m,rfl⟩:∃ q,m=q+1:=⟨m - 1,by omega⟩
   have hb:Zaq.b1 k l (v,(t:Int),sl)=some (.brk (v,sl)):=by
    unfold Zaq.b1
    by_cases hl:(t:Int)<(l.length:Int)
    ·simp only[decide_eq_true hl,cond_true,decide_eq_false (show ¬ (t:Int)<14 by omega),cond_false]
    ·simp only[decide_eq_false hl,cond_false]
   exact⟨v,sl,by simp only[whl,hb],h⟩
  |succ n ih=>
   intro t m v sl h1 h2 h
   obtain⟨m,rfl⟩:∃ q,m=q+1:=⟨m - 1,by omega⟩
   obtain⟨y,hy⟩:∃ y,l[t]?=some y:=⟨_,gG (by omega)⟩
   obtain⟨v1,sl1,g1,g2⟩:=ZpR h hk hy (by omega) (hp y (List.mem_of_getElem? hy))
   obtain⟨v',sl',k1,k2⟩:=ih (t+1) m v1 sl1 (by omega) (by omega) g2
   exact⟨v',sl',by simp only[whl,g1,k1],by rw[show t+(n+1)=t+1+n by omega];exact k2⟩
 obtain⟨v',sl',k1,k2⟩:=key (min 14 l.length) 0 k v0 [] (by omega) (by omega) n2
 rw[Int.natCast_zero]at k1
 refine⟨v',sl',_,?_,by omega,k2⟩
 unfold Zaq
 rw[n1]
 simp only[Option.bind_some,k1]
end Go.Abs
namespace Go.Abs
open Go Go.Proofs
set_option maxRecDepth 20000
set_option linter.unusedVariables false
set_option linter.unusedSimpArgs false
theorem HI.have2 {h:House}{i:Nat}{log:List Record}{firm k:Nat} (H:HI h i log firm) (hk:1000000<k):Zew k h.Ledger.Book=some (Zg0 log,0):=by
 have b:=H.good.bi
 have h50:=H.good.len
 unfold Zew
 rw[Ziq hk,H.have_ hk]
 have hv:ZnZ h.Ledger.Book.Records=true:=by
  rw[H.book]
  exact Zoa.2 ⟨by simp only[b.len];omega,fun r hr=>H.good.ok r ((b.mem r).1 hr),b.val⟩
 rw[hv]
 rfl
theorem Zkj {R:Type}{n:Nat}{body:Int→Option (Stp Int Unit R)}{k:Nat} (hn:n≤1000) (hk:1000000<k) (h1:∀ i:Nat,i<n→body (i:Int)=some (.next ((i+1:Nat):Int))) (h2:body (n:Int)=some (.brk ())):whl body k 0=some (.brk ()):=by
 have key:∀ (d i m:Nat),i+d=n→d<m→whl body m (i:Int)=some (.brk ()):=by
  intro d
  induction d with
  |zero=>
   intro i m g1 g2
   obtain⟨m,rfl⟩:∃ q,m=q+1:=⟨m - 1,by omega⟩
   have:i=n:=by omega
   subst this
   simp only[whl,h2]
  |succ d ih=>
   intro i m g1 g2
   obtain⟨m,rfl⟩:∃ q,m=q+1:=⟨m - 1,by omega⟩
   simp only[whl,h1 i (by omega)]
   exact ih (i+1) m (by omega) (by omega)
 have:=key n 0 k (by omega) (by omega)
 rw[Int.natCast_zero]at this
 exact this
theorem Zik (l:List R09_Act) (picks:List Int) (hp:∀ y∈l,y.Picks.length≤4611686018427387904) (hpp:picks.length≤4611686018427387904):Zah 18446744073709551616 l picks=some true:=by
 have hk:1000000<18446744073709551616:=by decide
 obtain⟨v,sl,t,h1,ht,hsl,L,F,w⟩:=ZkZ hk l hp
 have w1:∀ (i:Nat),i<1000→w64 ((i:Int)+1)=((i+1:Nat):Int):=fun i hi=>by rw[ZaD (by omega) (by omega)];omega
 have hloop:whl (Zah.b0 18446744073709551616 picks (v,sl,true)) 18446744073709551616 0=some (.brk ()):=by
  refine Zkj (n:=3) (by decide) hk (fun i hi=>?_) (by unfold Zah.b0;rfl)
  have hi2:i≤2:=by omega
  have H:=w.hi i hi2
  obtain⟨h',m,g1,g2,g3,g4,g5⟩:=w.restart hk hi2 (by omega) picks hpp
  have hin:∀ q:Nat,q<3→whl (Zah.b2 18446744073709551616 (v,sl,true) (i:Int) (Zg0 (L i),0) (Zg0 ((L i).take m),0) (q:Int)) 18446744073709551616 0=some (.brk ()):=fun q hq=>by
   refine Zkj (n:=6) (by decide) hk (fun x hx=>?_) (by unfold Zah.b2;rfl)
   have hkn:g6 (kr (h3 v q).Known i) x≤((cnt Za2 ((L i).take (F i)) (x:Int):Nat):Int):=w.kno q i x (by omega) hi2 hx
   have c1:=Zea (Ze1 Za2 (w.vl hi2) (F i)) (w.vl hi2) (x:Int) (fun r hr _=>List.mem_of_mem_take hr)
   have e:(L i).take (F i)=((L i).take m).take (F i):=by rw[List.take_take,Nat.min_eq_left g2]
   have c2:=Zea (Ze1 Za2 (w.vl hi2) (F i)) (Ze1 Za2 (w.vl hi2) m) (x:Int) (fun r hr _=>by rw[e]at hr;exact List.mem_of_mem_take hr)
   unfold Zah.b2
   simp only[decide_eq_true (show (x:Int)<6 by omega),cond_true,ZkU v (show q≤2 by omega),ZqW _ (show i<6 by omega),Zo0 _ hx,Option.bind_some,Ziv _ hx]
   rw[decide_eq_false (show ¬ ((cnt Za2 (L i) (x:Int):Nat):Int)<g6 (kr (h3 v q).Known i) x by omega),decide_eq_false (show ¬ ((cnt Za2 ((L i).take m) (x:Int):Nat):Int)<g6 (kr (h3 v q).Known i) x by omega)]
   simp only[Bool.not_false,cond_true,cond_false,w1 x (by omega)]
  have hmid:whl (Zah.b1 18446744073709551616 (v,sl,true) (i:Int) (Zg0 (L i),0) (Zg0 ((L i).take m),0)) 18446744073709551616 0=some (.brk ()):=by
   refine Zkj (n:=3) (by decide) hk (fun q hq=>?_) (by unfold Zah.b1;rfl)
   unfold Zah.b1
   simp only[decide_eq_true (show (q:Int)<3 by omega),cond_true,hin q hq,Option.bind_some,w1 q (by omega)]
  unfold Zah.b0
  simp only[decide_eq_true (show (i:Int)<3 by omega),cond_true,ZkU v hi2,g1,Option.bind_some,decide_true,Bool.not_true,cond_false,H.have2 hk,g4.have2 hk,hmid,w1 i (by omega)]
 unfold Zah
 rw[Zpn,h1]
 simp only[Option.bind_some,cond_true,decide_eq_false (show ¬ (1000:Int)<(sl.length:Int) by omega),cond_false,hloop]
end Go.Abs
namespace Go.Proofs.Ytpgccpdlilnakaa.bookSlips
open Go.Abs
theorem plain (a0:(List Go.Abs.R09_Act)) (a1:(List Int)):(fun l=>l.length≤Go.maxLen∧l.length*88≤qB∧∀ a∈l,Go.Abs.R09_Act.q a) a0→(fun l=>l.length≤Go.maxLen∧l.length*8≤qB∧∀ a∈l,Zii a) a1→∃ k,Zah k a0 a1=some true:=by
 intro q0 q1;exact⟨_,Zik a0 a1 (fun y hy=>by have h:=(q0.2.2 y hy).2.2.2.2;have h2:=h.2.1;have:=Zux;omega) (by have h2:=q1.2.1;have:=Zux;omega)⟩
end Go.Proofs.Ytpgccpdlilnakaa.bookSlips
namespace Go.Proofs.Ytpgccpdlilnakaa.bookSlips
open Go.ChangeShapes Go.WideShapes Go.ChangeAt Go.RowKit Go.Abs
set_option maxRecDepth 100000
theorem own:ownKnob Try.prog.godebug=none:=by kernel_rfl
theorem contract (H:Type) (enc:TypeId×Value→H) (W:World) (base:Nat) (args:Array Value) (ds gs:List (DataW H)) (before:List MemPlace)
  (hval:∀ (j:Nat) t v,Try.f12.params[j]?=some t→args[j]?=some v→Value.okWide Try.prog W .any base t v)
  (hW:DataW.Whole enc Try.prog Try.f12.params.toList Rows.bookSlipsSpec.vars false W args.toList ds gs before) (hsz0:(DataW.weightsEach Try.prog (Try.f12.params.toList++Rows.bookSlipsSpec.plain.varTypes Try.prog) (ds++gs)).all (·≤reachBytes)=true):
  Calls Try.prog 12 args W fun e W'=>∃ v,e=.returned v∧Rows.bookSlipsSpec.post enc Try.prog Try.f12 false true false false W args v W':=by
 have hW':=hW
 obtain⟨p,q,hA0,hV,rfl,hfz,hnd⟩:=hW
 have hA:DataW.TrodAll enc Try.prog W 0 (fun _=>true) true Try.f12.params.toList args.toList ds p:=hA0
 rw[Try.params12]at hA hval
 obtain⟨v0,vs0,d0,ds0,p0,q0,hargs,rfl,rfl,h0,r0⟩:=trodAll_cons hA
 obtain⟨v1,vs1,d1,ds1,p1,q1,rfl,rfl,rfl,h1,r1⟩:=trodAll_cons r0
 obtain⟨rfl,rfl,rfl⟩:=trodAll_nil r1
 have hsz:∀ (j:Nat) t d,Try.f12.params.toList[j]?=some t→[d0,d1][j]?=some d→∀ n∈d.weights Try.prog t,n≤reachBytes:=Zn5 (by rw[Try.params12];rfl) hsz0
 rw[Try.params12]at hsz
 obtain rfl:args=#[v0,v1]:=by cases args;simp_all
 obtain⟨a0,Q0,V0⟩:=Zp0 Zpc (by have h:=hval 0 104 v0 rfl rfl;unfold Value.okWide at h;rw[Try.underlying104]at h;unfold Cell.okWide Cell.ok at h;rw[Try.underlying104]at h;cases v0<;>first|rfl|(simp at h;done)) (fun l=>AV.sl 9 (List.map Go.Abs.R09_Act.c l)) (fun _=>rfl) h0 (hsz 0 104 d0 rfl rfl)
 obtain⟨a1,Q1,V1⟩:=Zp0 ZmG (by have h:=hval 1 63 v1 rfl rfl;unfold Value.okWide at h;rw[Try.underlying63]at h;unfold Cell.okWide Cell.ok at h;rw[Try.underlying63]at h;cases v1<;>first|rfl|(simp at h;done)) (fun l=>AV.sl 1 (List.map eI l)) (fun _=>rfl) h1 (hsz 1 63 d1 rfl rfl)
 obtain⟨k,hk⟩:=plain a0 a1 Q0 Q1
 have hv:VRs (Zgq W) [] [.sl 9 (List.map Go.Abs.R09_Act.c a0),.sl 1 (List.map eI a1)] [v0,v1]:=⟨rfl,fun i x v h1 h2=>by
  match i with
  |0=>cases h1;cases h2;exact V0
  |1=>cases h1;cases h2;exact V1
  |i+2=>simp at h1⟩
 refine Calls.mono ((ZhK k a0 a1 true hk).2 (Zgq W) W _ (fun _ _ _ h=>h) hv) ?_
 rintro e W1 ⟨v,y,fm1,rfl,rfl,_,hvr,_,hB⟩
 cases hvr
 exact⟨_,rfl,ZqR (t:=4) (by kernel_rfl) (by kernel_rfl) (by kernel_rfl) hW' rfl hB (by rw[Try.params12];decide +kernel) rfl Try.underlying4 (by obtain⟨rfl,_⟩:=trodVars_none hV;rfl)⟩
theorem lifted (os:Os) (started:os.Started) (H:Type) (enc:TypeId×Value→H):
  ReturnsInHanded {} Try.checked os 12 .any (Rows.bookSlipsSpec.pre6 enc Try.prog Try.f12 Rows.bookSlipsRow.domain false) (Rows.bookSlipsSpec.post enc Try.prog Try.f12 false true false false):=by
 refine returnsInHanded_of_change_sized (C:=Try.checked) own started (by kernel_rfl) Try.func12
  (ChangeSpec.witness6 (enc:=enc) (C:=Try.checked) false ⟨#[],#[.slice none 0 0,.slice none 0 0],[]⟩ 8 (by kernel_rfl) (by kernel_rfl) (by kernel_rfl) (by kernel_rfl)) ?_
 intro W base args ds gs before hval0 hW hcnd hsz _
 exact contract H enc W base args ds gs before hval0 hW hsz
theorem over:Rows.bookSlipsRow.holds Try.pinned (OpenSpec.ofChange Rows.bookSlipsSpec):=
 OpenClaim.holds_of_wide 12 Try.f12 rfl rfl rfl rfl rfl rfl rfl ⟨rfl,rfl,rfl,rfl,rfl⟩ rfl rfl rfl rfl rfl (by kernel_rfl) Try.func12 (by kernel_rfl)
  (of_decide_eq_true (by kernel_rfl)) (by unfold Func.isWrapper;first|(rw[if_pos (by decide +kernel)];kernel_rfl)|(rw[if_neg (by decide +kernel)];exact⟨rfl,rfl⟩))
  (fun os started H enc _=>lifted os started H enc)
theorem proved:Rows.BookSlipsSaid:=over
end Go.Proofs.Ytpgccpdlilnakaa.bookSlips
