/-
  Part 5 of the proof: a machine over named blocks, what each function computes, and what follows. No condition.
-/
import Derived.KernelRfl
import Derived.Test.YtpgccpdlilnakaaRows
import Derived.WalkKit
import Derived.ProofKit
import Derived.OpenShut
import Derived.JoinedCond
import Derived.Test.YtpgccpdlilnakaaBBooksD
set_option linter.unusedVariables false
set_option linter.unusedSimpArgs false
set_option linter.all false
set_option maxRecDepth 100000
set_option maxHeartbeats 8000000
namespace Go.Abs
open Go.Proofs
def Fj.c:SC:=
 SQ [RG [wE 2 46 0 [0],wE 3 25 1 [1],wA 4 46,wN 5 0 28 [5]],SQ [RG [wD 7 46 2,wU 8 51 7 46 28 [7],wG 6 8 28 [8]],RG [wV 9 6 28,wK 10 .neq 28 9 0 28 4 [9]],CN 10 (SQ [RG [oQ 11 (.build 46 #[]) 46,wV 12 6 28 [6],wS 46 4 11 [11],wG 5 12 28 [12]],.ret]) .skip],RG [wD 13 46 2 [2],wD 14 25 3 [3],wW 15 71 13 14 46 25 73 [13,14],wX 16 15 0 46,wX 17 15 1 28 [15],wS 46 4 16 [16],wG 5 17 28 [17]],.ret]
def su (k:Nat) (b0:Al) (r1:Ab):Option (Al×Int):=
 (dO k b0).bind fun x1=>
 bif (!decide (x1=(0:Int))) then
  some ((⟨[]⟩:Al),x1)
 else
  (mr k b0 r1).bind fun x3=>
  some (x3.1,x3.2)
theorem agh (k:Nat) (b0:Al) (r1:Ab) (r:Al×Int) (h0:su k b0 r1=some r):An Try.prog 50 [.agg (Al.c b0),.agg (Ab.c r1)] (fun y=>y=.ak [.agg (Al.c r.1),.int .i64 r.2]):=by
 refine PB Try.f50 Fj.c [.cell 4 46,.tmp 5] ?_
 simp only[su]at h0
 try simp only[Fj.c,go_sem]
 refine ay h0 (sv k _) ?_ (fun x1 h0=>?_)<;>try simp only[go_sem]
 refine BJ h0 ?_ ?_<;>intro c2 h0<;>have F:=c2<;>try simp only[F,go_sem]
 obtain rfl:=oi h0
 refine Ad rfl ?_
 try simp only[F,go_sem]
 refine ay h0 (vM k _ _) ?_ (fun x3 h0=>?_)<;>try simp only[F,go_sem]
 obtain rfl:=oi h0
 refine Ad rfl ?_
 try simp only[F,go_sem]
def Fs.c:SC:=
 SQ [RG [wB 6 false 4 [6]],RG [wV 7 0 3,wV 8 1 3 [1],wO 9 .geq 3 7 8 3 4 [7,8],wV 10 9 4 [9],gd 10 true (wV 11 0 3 [0]),gd 10 true (wV 12 2 3 [2]),gd 10 true (wO 13 .leq 3 11 12 3 4 [11,12]),wZ 14 10 13 4 [10,13],wG 6 14 4 [14]],.ret]
def Cp (k:Nat) (n0:Int) (xM:Int) (xj:Int):Option (Bool):=
 bif decide (xM<=n0) then
  some (decide (n0<=xj))
 else
  some false
theorem C5 (k:Nat) (n0:Int) (xM:Int) (xj:Int) (r:Bool) (h0:Cp k n0 xM xj=some r):An Try.prog 67 [.int .i64 n0,.int .i64 xM,.int .i64 xj] (fun y=>y=.bool r):=by
 refine PB Try.f67 Fs.c [.tmp 6] ?_
 simp only[Cp]at h0
 try simp only[Fs.c,go_sem]
 refine AO h0 ?_ ?_<;>intro c1 h0<;>have F:=c1<;>try simp only[F,go_sem]
 obtain rfl:=oi h0
 refine Ad rfl ?_
 try simp only[F,go_sem]
 obtain rfl:=oi h0
 refine Ad rfl ?_
 try simp only[F,go_sem]
def Fy.c:SC:=
 SQ [RG [wE 1 23 0 [0],wB 2 false 4 [2]],RG [wF 3 23 1 0,wD 4 3 3 [3],wC 5 67 #[.tmp 4,.const (.int .i64 0),.const (.int .i64 5)] #[3,3,3] 4 [4],wV 6 5 4 [5],gd 6 true (wF 7 23 1 1 [1]),gd 6 true (wD 8 3 7 [7]),gd 6 true (wC 9 67 #[.tmp 8,.const (.int .i64 0),.const (.int .i64 9999)] #[3,3,3] 4 [8]),wZ 10 6 9 4 [6,9],wG 2 10 4 [10]],.ret]
def C6 (k:Nat) (p0:Entry):Option (Bool):=
 (Cp k p0.Ag 0 5).bind fun x1=>
 bif x1 then
  (Cp k p0.No 0 9999).bind fun x3=>
  some x3
 else
  some false
theorem FI (k:Nat) (p0:Entry) (r:Bool) (h0:C6 k p0=some r):An Try.prog 93 [.agg (Entry.c p0)] (fun y=>y=.bool r):=by
 refine PB Try.f93 Fy.c [.tmp 2] ?_
 simp only[C6]at h0
 try simp only[Fy.c,go_sem]
 refine ay h0 (C5 k _ _ _) ?_ (fun x1 h0=>?_)<;>try simp only[go_sem]
 refine AO h0 ?_ ?_<;>intro c2 h0<;>have F:=c2<;>try simp only[F,go_sem]
 refine ay h0 (C5 k _ _ _) ?_ (fun x3 h0=>?_)<;>try simp only[F,go_sem]
 obtain rfl:=oi h0
 refine Ad rfl ?_
 try simp only[F,go_sem]
 obtain rfl:=oi h0
 refine Ad rfl ?_
 try simp only[F,go_sem]
def DA.s0:SC:=
 SQ [SQ [RG [wV 7 3 3,wV 8 0 9,wL 9 8 9 3 [8],wO 10 .lss 3 7 9 3 4 [7,9]],CN 10 .skip (.exit 0)],.block 1 (SQ [RG [wV 13 0 9,wV 14 3 3,oQ 15 (.index 9 (.tmp 13) (.tmp 14)) 5 [13,14],oQ 16 (.binOp .lss 5 (.tmp 15) (.const (.int .u8 32)) 5) 4 [15],wV 17 16 4 [16],gd 17 false (wV 18 0 9),gd 17 false (wV 19 3 3),gd 17 false (oQ 20 (.index 9 (.tmp 18) (.tmp 19)) 5 [18,19]),
 gd 17 false (oQ 21 (.binOp .gtr 5 (.tmp 20) (.const (.int .u8 126)) 5) 4 [20]),wT 22 17 21 4 [17,21]],CN 22 (SQ [RG [wB 2 false 4],.ret]) .skip]),RG [wV 11 3 3 [3],wK 12 .add 3 11 1 3 3 [11],wG 3 12 3 [12]]]
def DA.c:SC:=
 SQ [RG [wB 2 false 4 [2]],SQ [RG [wV 4 0 9,wL 5 4 9 3 [4],wK 6 .gtr 3 5 200 3 4 [5]],CN 6 (SQ [RG [wB 2 false 4],.ret]) .skip],SQ [RG [wN 3 0 3],.block 0 (.loop DA.s0)],RG [wB 2 true 4],.ret]
def BI.b0 (k:Nat) (s0:ByteArray):Int->Option (AW (Int) (Unit) (Bool)):=fun i2=>
 bif decide (i2<(s0.size:Int)) then
  (oF s0 i2).bind fun i4=>
  bif (!decide (i4<(32:Int))) then
   bif decide ((126:Int)<i4) then
    some (.ret false)
   else
    some (.next (af (i2+1)))
  else
   some (.ret false)
 else
  some (.brk ())
noncomputable def BI.h0 (s0:ByteArray):Int->St:=fun i2=>⟨[(0,.str s0),(3,.int .i64 i2)],[],[],1,Try.f94.ntmps⟩
noncomputable def BI.x0:Unit->St:=fun _=>⟨[],[],[],1,Try.f94.ntmps⟩
def BI (k:Nat) (s0:ByteArray):Option (Bool):=
 bif decide ((200:Int)<(s0.size:Int)) then
  some false
 else
  (aB (BI.b0 k s0) k 0).bind fun r7=>match r7 with
  |.next _=>none
  |.ret v_=>some v_
  |.brk _=>
   some true
theorem Gu (k:Nat) (s0:ByteArray) (r:Bool) (h0:BI k s0=some r):An Try.prog 94 [.str s0] (fun y=>y=.bool r):=by
 refine PB Try.f94 DA.c [.tmp 2] ?_
 simp only[BI]at h0
 try simp only[DA.c,go_sem]
 refine AO h0 ?_ ?_<;>intro c1 h0<;>have F:=c1<;>try simp only[F,go_sem]
 obtain rfl:=oi h0
 refine Ad rfl ?_
 try simp only[F,go_sem]
 obtain⟨r7,qs,h0⟩:=bs h0
 refine Bc qs (BI.h0 s0) (BI.x0) ?_ ?_ ?_
 refine Ae.go [0,3] [] rfl ?_
 try simp only[BI.h0,F,go_sem]
 rintro i2 dU Bq Bs h1 aS aY bM
 refine rS ?_
 simp only[BI.b0]at h1
 try simp only[DA.s0,BI.h0,F,go_sem]
 refine AF F h1 ?_ ?_<;>intro F h1<;>try simp only[F,go_sem]
 obtain⟨i4,vm,h1⟩:=bs h1
 have F:=an (aen vm) (an (aem vm) F)
 try simp only[F,go_sem]
 refine Bd F h1 ?_ ?_<;>intro F h1<;>try simp only[F,go_sem]
 refine AF F h1 ?_ ?_<;>intro F h1<;>try simp only[F,go_sem]
 obtain rfl:=bM _ (oi h1).symm
 simp only at h0
 obtain rfl:=oi h0
 refine Ad rfl ?_
 try simp only[F,go_sem]
 refine Aq (aS _ _ (oi h1).symm (Ae.go [0,3] [] rfl ?_))
 try simp only[BI.h0,F,go_sem]
 obtain rfl:=bM _ (oi h1).symm
 simp only at h0
 obtain rfl:=oi h0
 refine Ad rfl ?_
 try simp only[F,go_sem]
 refine Aq (aY _ _ (oi h1).symm (Ae.go [] [] rfl ?_))
 try simp only[BI.x0,F,go_sem]
 rintro _ aQ
 subst aQ
 simp only at h0
 refine rS ?_
 try simp only[BI.x0,F,go_sem]
 obtain rfl:=oi h0
 refine Ad rfl ?_
 try simp only[F,go_sem]
def Ff.c:SC:=
 SQ [RG [wE 1 25 0 [0],wN 2 0 28 [2]],SQ [RG [wF 3 25 1 0,wD 4 23 3 [3],wU 5 93 4 23 4 [4],wQ 6 5 4 [5],wV 7 6 4 [6],gd 7 false (wF 8 25 1 1),gd 7 false (wD 9 3 8 [8]),gd 7 false (wC 10 67 #[.tmp 9,.const (.int .i64 0),.const (.int .i64 40)] #[3,3,3] 4 [9]),gd 7 false (wQ 11 10 4 [10]),wT 12 7 11 4 [7,11],wV 13 12 4 [12],gd 13 false (wF 14 25 1 2),gd 13 false (wD 15 3 14 [14]),
 gd 13 false (wC 16 67 #[.tmp 15,.const (.int .i64 0),.const (.int .i64 100000)] #[3,3,3] 4 [15]),gd 13 false (wQ 17 16 4 [16]),wT 18 13 17 4 [13,17],wV 19 18 4 [18],gd 19 false (wF 20 25 1 3),gd 19 false (wD 21 3 20 [20]),gd 19 false (wC 22 67 #[.tmp 21,.const (.int .i64 0),.const (.int .i64 100000)] #[3,3,3] 4 [21]),gd 19 false (wQ 23 22 4 [22]),wT 24 19 23 4 [19,23],wV 25 24 4 [24],
 gd 25 false (wF 26 25 1 5),gd 25 false (wD 27 9 26 [26]),gd 25 false (wU 28 94 27 9 4 [27]),gd 25 false (wQ 29 28 4 [28]),wT 30 25 29 4 [25,29]],CN 30 (SQ [RG [wN 2 90 28],.ret]) .skip],SQ [RG [wF 31 25 1 1,wD 32 3 31 [31],wK 33 .eql 3 32 0 3 4 [32]],CN 33 (SQ [SQ [RG [wF 34 25 1 2,wD 35 3 34 [34],wK 36 .neq 3 35 0 3 4 [35],wV 37 36 4 [36],gd 37 false (wF 38 25 1 5),gd 37 false (wD 39 9 38 [38]),
 gd 37 false (oQ 40 (.binOp .neq 9 (.tmp 39) (.const (.string ⟨#[]⟩)) 9) 4 [39]),wT 41 37 40 4 [37,40],wV 42 41 4 [41],gd 42 false (wF 43 25 1 4),gd 42 false (wD 44 23 43 [43]),gd 42 false (wU 45 93 44 23 4 [44]),gd 42 false (wQ 46 45 4 [45]),wT 47 42 46 4 [42,46],wV 48 47 4 [47],gd 48 false (wF 49 25 1 4),gd 48 false (wF 50 23 49 0 [49]),gd 48 false (wD 51 3 50 [50]),gd 48 false (wF 52 25 1 0),
 gd 48 false (wF 53 23 52 0 [52]),gd 48 false (wD 54 3 53 [53]),gd 48 false (wO 55 .neq 3 51 54 3 4 [51,54]),wT 56 48 55 4 [48,55],wV 57 56 4 [56],gd 57 false (wF 58 25 1 4),gd 57 false (wF 59 23 58 1 [58]),gd 57 false (wD 60 3 59 [59]),gd 57 false (wF 61 25 1 0 [1]),gd 57 false (wF 62 23 61 1 [61]),gd 57 false (wD 63 3 62 [62]),gd 57 false (wO 64 .geq 3 60 63 3 4 [60,63]),wT 65 57 64 4 [57,64]],
 CN 65 (SQ [RG [wN 2 90 28],.ret]) .skip],RG [wN 2 0 28],.ret]) .skip],SQ [RG [wF 66 25 1 4 [1],wD 67 23 66 [66],oQ 68 (.build 23 #[]) 23,wO 69 .neq 23 67 68 23 4 [67,68]],CN 69 (SQ [RG [wN 2 90 28],.ret]) .skip],RG [wN 2 0 28],.ret]
def C4 (k:Nat) (r0:Ab):Option (Int):=
 (C6 k r0.At).bind fun x1=>
 bif x1 then
  (Cp k r0.Kind 0 40).bind fun x3=>
  bif x3 then
   (Cp k r0.Day 0 100000).bind fun x5=>
   bif x5 then
    (Cp k r0.AI 0 100000).bind fun x7=>
    bif x7 then
     (BI k r0.Text).bind fun x9=>
     bif (!x9) then
      some 90
     else
      bif decide (r0.Kind=(0:Int)) then
       bif decide (r0.Day=(0:Int)) then
        bif (r0.Text.toList==ByteArray.empty.toList) then
         (C6 k r0.Of).bind fun bO=>
         bif bO then
          bif decide (r0.Of.Ag=r0.At.Ag) then
           bif decide (r0.At.No<=r0.Of.No) then
            some 90
           else
            some 0
          else
           some 90
         else
          some 90
        else
         some 90
       else
        some 90
      else
       bif (!(decide (r0.Of.Ag=(0:Int))&&decide (r0.Of.No=(0:Int)))) then
        some 90
       else
        some 0
    else
     some 90
   else
    some 90
  else
   some 90
 else
  some 90
theorem FH (k:Nat) (r0:Ab) (r:Int) (h0:C4 k r0=some r):An Try.prog 31 [.agg (Ab.c r0)] (fun y=>y=.int .i64 r):=by
 refine PB Try.f31 Ff.c [.tmp 2] ?_
 simp only[C4]at h0
 try simp only[Ff.c,go_sem]
 refine ay h0 (FI k _) ?_ (fun x1 h0=>?_)<;>try simp only[go_sem]
 refine AO h0 ?_ ?_<;>intro c2 h0<;>have F:=c2<;>try simp only[F,go_sem]
 refine ay h0 (C5 k _ _ _) ?_ (fun x3 h0=>?_)<;>try simp only[F,go_sem]
 refine AF F h0 ?_ ?_<;>intro F h0<;>try simp only[F,go_sem]
 refine ay h0 (C5 k _ _ _) ?_ (fun x5 h0=>?_)<;>try simp only[F,go_sem]
 refine AF F h0 ?_ ?_<;>intro F h0<;>try simp only[F,go_sem]
 refine ay h0 (C5 k _ _ _) ?_ (fun x7 h0=>?_)<;>try simp only[F,go_sem]
 refine AF F h0 ?_ ?_<;>intro F h0<;>try simp only[F,go_sem]
 refine ay h0 (Gu k _) ?_ (fun x9 h0=>?_)<;>try simp only[F,go_sem]
 refine Bd F h0 ?_ ?_<;>intro F h0<;>try simp only[F,go_sem]
 obtain rfl:=oi h0
 refine Ad rfl ?_
 try simp only[F,go_sem]
 refine AF F h0 ?_ ?_<;>intro F h0<;>try simp only[F,go_sem]
 refine AF F h0 ?_ ?_<;>intro F h0<;>try simp only[F,go_sem]
 refine AF F h0 ?_ ?_<;>intro F h0<;>try simp only[F,go_sem]
 refine ay h0 (FI k _) ?_ (fun bO h0=>?_)<;>try simp only[F,go_sem]
 refine AF F h0 ?_ ?_<;>intro F h0<;>try simp only[F,go_sem]
 refine AF F h0 ?_ ?_<;>intro F h0<;>try simp only[F,go_sem]
 refine AF F h0 ?_ ?_<;>intro F h0<;>try simp only[F,go_sem]
 obtain rfl:=oi h0
 refine Ad rfl ?_
 try simp only[F,go_sem]
 obtain rfl:=oi h0
 refine Ad rfl ?_
 try simp only[F,go_sem]
 obtain rfl:=oi h0
 refine Ad rfl ?_
 try simp only[F,go_sem]
 obtain rfl:=oi h0
 refine Ad rfl ?_
 try simp only[F,go_sem]
 obtain rfl:=oi h0
 refine Ad rfl ?_
 try simp only[F,go_sem]
 obtain rfl:=oi h0
 refine Ad rfl ?_
 try simp only[F,go_sem]
 refine Bd F h0 ?_ ?_<;>intro F h0<;>try simp only[F,go_sem]
 obtain rfl:=oi h0
 refine Ad rfl ?_
 try simp only[F,go_sem]
 obtain rfl:=oi h0
 refine Ad rfl ?_
 try simp only[F,go_sem]
 obtain rfl:=oi h0
 refine Ad rfl ?_
 try simp only[F,go_sem]
 obtain rfl:=oi h0
 refine Ad rfl ?_
 try simp only[F,go_sem]
 obtain rfl:=oi h0
 refine Ad rfl ?_
 try simp only[F,go_sem]
 obtain rfl:=oi h0
 refine Ad rfl ?_
 try simp only[F,go_sem]
def Dh.s0:SC:=
 SQ [SQ [RG [wV 5 4 3,wV 6 0 44,wL 7 6 44 3 [6],wO 8 .lss 3 5 7 3 4 [5,7]],CN 8 .skip (.exit 0)],.block 1 (RG [wV 11 0 44,wV 12 4 3,wI 13 44 11 12 [11,12],wF 14 25 13 0 [13],wF 15 23 14 0 [14],wD 16 3 15 [15],wI 17 95 3 16,wD 18 3 17 [17],wK 19 .add 3 18 1 3 3 [18],wI 20 95 3 16 [16],wS 3 20 19 [19,20]]),RG [wV 9 4 3 [4],wK 10 .add 3 9 1 3 3 [9],wG 4 10 3 [10]]]
def Dh.c:SC:=
 SQ [RG [wA 2 95],RG [wA 3 95],SQ [RG [wN 4 0 3],.block 0 (.loop Dh.s0)],RG [wD 21 95 3 [3],wS 95 2 21 [21]],.ret]
def BC.b0 (k:Nat) (l0:(List Ab)):((Aa 6 Int)×Int)->Option (AW ((Aa 6 Int)×Int) ((Aa 6 Int)) ((Aa 6 Int))):=fun s=>match s with
 |(s1,i2)=>
   bif decide (i2<(l0.length:Int)) then
    (at? l0 i2).bind fun x5=>
    (s1.at? x5.At.Ag).bind fun x6=>
    some (.next (s1.set x5.At.Ag (af (x6+1)),af (i2+1)))
   else
    some (.brk s1)
noncomputable def BC.h0 (l0:(List Ab)):((Aa 6 Int)×Int)->St:=fun s=>match s with
 |(s1,i2)=>⟨[(0,.sl 8 (List.map Ab.c l0)),(2,.ptr 0 0 0),(3,.ptr 0 1 0),(4,.int .i64 i2)],[(0,.box (Aa.c (n:=6) eI (Aa.rep 6 (0:Int)))),(1,.box (Aa.c (n:=6) eI s1))],[],2,Try.f105.ntmps⟩
noncomputable def BC.x0:(Aa 6 Int)->St:=fun s3=>⟨[(2,.ptr 0 0 0),(3,.ptr 0 1 0)],[(0,.box (Aa.c (n:=6) eI (Aa.rep 6 (0:Int)))),(1,.box (Aa.c (n:=6) eI s3))],[],2,Try.f105.ntmps⟩
def BC (k:Nat) (l0:(List Ab)):Option ((Aa 6 Int)):=
 (aB (BC.b0 k l0) k ((Aa.rep 6 (0:Int)),0)).bind fun r8=>match r8 with
 |.next _=>none
 |.ret v_=>some v_
 |.brk s3=>
  some s3
theorem D9 (k:Nat) (l0:(List Ab)) (r:(Aa 6 Int)) (h0:BC k l0=some r):An Try.prog 105 [.sl 8 (List.map Ab.c l0)] (fun y=>y=.agg ((Aa.c (n:=6) eI) r)):=by
 refine PB Try.f105 Dh.c [.cell 2 95] ?_
 simp only[BC]at h0
 try simp only[Dh.c,go_sem]
 obtain⟨r8,qt,h0⟩:=bs h0
 refine Bc qt (BC.h0 l0) (BC.x0) ?_ ?_ ?_
 refine Ae.go [0,2,3,4] [0,16] rfl ?_
 try simp only[BC.h0,go_sem]
 rintro⟨s1,i2⟩ dU Bq Bs h1 aS aY bM
 refine rS ?_
 simp only[BC.b0]at h1
 try simp only[Dh.s0,BC.h0,go_sem]
 refine AO h1 ?_ ?_<;>intro c4 h1<;>have F:=c4<;>try simp only[F,go_sem]
 obtain⟨x5,cK,h1⟩:=bs h1
 have F:=an (aG cK) (an (aF Ab.c cK) F)
 try simp only[F,go_sem]
 obtain⟨x6,cO,h1⟩:=bs h1
 have qg:=Ao.dm mj (Ao.self yI s1) cO
 have oO:=qg.2
 try simp only[Ay,AE,go_sem]at oO
 have q7:=qg.1.ow (af (x6+1))
 try simp only[Ay,AE,go_sem]at q7
 have F:=an (au cO) (an oO F)
 try simp only[q7,F,go_sem]
 refine Aq (aS _ _ (oi h1).symm (Ae.go [0,2,3,4] [0,1] rfl ?_))
 try simp only[BC.h0,F,go_sem]
 refine Aq (aY _ _ (oi h1).symm (Ae.go [2,3] [0,1] rfl ?_))
 try simp only[BC.x0,F,go_sem]
 rintro s3 aQ
 subst aQ
 simp only at h0
 refine rS ?_
 try simp only[BC.x0,go_sem]
 obtain rfl:=oi h0
 refine Ad rfl ?_
 try simp only[go_sem]
def EY.c:SC:=
 SQ [RG [wE 2 23 0 [0],wE 3 23 1 [1],wB 4 false 4 [4]],RG [wF 5 23 2 0,wD 6 3 5 [5],wF 7 23 3 0,wD 8 3 7 [7],wO 9 .lss 3 6 8 3 4 [6,8],wV 10 9 4 [9],gd 10 false (wF 11 23 2 0),gd 10 false (wD 12 3 11 [11]),gd 10 false (wF 13 23 3 0),gd 10 false (wD 14 3 13 [13]),gd 10 false (wO 15 .eql 3 12 14 3 4 [12,14]),gd 10 false (wV 16 15 4 [15]),gd 16 true (wF 17 23 2 1 [2]),gd 16 true (wD 18 3 17 [17]),
 gd 16 true (wF 19 23 3 1 [3]),gd 16 true (wD 20 3 19 [19]),gd 16 true (wO 21 .lss 3 18 20 3 4 [18,20]),gd 10 false (wZ 22 16 21 4 [16,21]),wT 23 10 22 4 [10,22],wG 4 23 4 [23]],.ret]
def C7 (k:Nat) (a0:Entry) (b1:Entry):Option (Bool):=
 bif (!decide (a0.Ag<b1.Ag)) then
  bif decide (a0.Ag=b1.Ag) then
   some (decide (a0.No<b1.No))
  else
   some false
 else
  some true
theorem FK (k:Nat) (a0:Entry) (b1:Entry) (r:Bool) (h0:C7 k a0 b1=some r):An Try.prog 108 [.agg (Entry.c a0),.agg (Entry.c b1)] (fun y=>y=.bool r):=by
 refine PB Try.f108 EY.c [.tmp 4] ?_
 simp only[C7]at h0
 try simp only[EY.c,go_sem]
 refine BJ h0 ?_ ?_<;>intro c1 h0<;>have F:=c1<;>try simp only[F,go_sem]
 refine AF F h0 ?_ ?_<;>intro F h0<;>try simp only[F,go_sem]
 obtain rfl:=oi h0
 refine Ad rfl ?_
 try simp only[F,go_sem]
 obtain rfl:=oi h0
 refine Ad rfl ?_
 try simp only[F,go_sem]
 obtain rfl:=oi h0
 refine Ad rfl ?_
 try simp only[F,go_sem]
def Dv.s0:SC:=
 SQ [SQ [RG [wV 10 4 3,wV 11 3 44,wL 12 11 44 3 [11],wO 13 .lss 3 10 12 3 4 [10,12]],CN 13 .skip (.exit 0)],.block 1 (SQ [SQ [.bB [wV 16 3 44,wV 17 4 3,wI 18 44 16 17,wD 19 25 18,wU 20 31 19 25 28,wK 21 .neq 28 20 0 28 4,wV 22 21 4,gd 22 false (wV 23 4 3),gd 22 false (wK 24 .gtr 3 23 0 3 4),gd 22 false (wV 25 24 4),gd 25 true (wV 26 3 44),gd 25 true (wV 27 4 3),gd 25 true (wK 28 .sub 3 27 1 3 3),
 gd 25 true (wI 29 44 26 28),gd 25 true (wF 30 25 29 0),gd 25 true (wD 31 23 30),gd 25 true (wV 32 3 44),gd 25 true (wV 33 4 3),gd 25 true (wI 34 44 32 33),gd 25 true (wF 35 25 34 0),gd 25 true (wD 36 23 35),gd 25 true (wW 37 108 31 36 23 23 4),gd 25 true (wQ 38 37 4),gd 22 false (wZ 39 25 38 4),wT 40 22 39 4] [[],[],[0,1],[0,1,2],[0,1,2,3],[0,1,2,3,4],[0,1,2,3,4,5],[0,1,2,3,4,5,6],[0,1,2,3,4,5,6,
 7],[0,1,2,3,4,5,6,7,8],[0,1,2,3,4,5,6,7,8,9],[0,1,2,3,4,5,6,7,8,9],[0,1,2,3,4,5,6,7,8,9,11],[0,1,2,3,4,5,6,7,8,9,10,11,12],[0,1,2,3,4,5,6,7,8,9,10,11,12,13],[0,1,2,3,4,5,6,7,8,9,10,11,12,13,14],[0,1,2,3,4,5,6,7,8,9],[0,1,2,3,4,5,6,7,8,9],[0,1,2,3,4,5,6,7,8,9,16,17],[0,1,2,3,4,5,6,7,8,9,16,17,18],[0,1,2,3,4,5,6,7,8,9,16,17,18,19],[0,1,2,3,4,5,6,7,8,9,10,11,12,13,14,15,16,17,18,19,20],[0,1,2,3,4,5,
 6,7,8,9,10,11,12,13,14,15,16,17,18,19,20,21],[0,1,2,3,4,5,6,7,8,9,10,11,12,13,14,15,16,17,18,19,20,21,22],[0,1,2,3,4,5,6,7,8,9,10,11,12,13,14,15,16,17,18,19,20,21,22,23]] [16,17,18,19,20,21,22,23,24,25,26,27,28,29,30,31,32,33,34,35,36,37,38,39],CN 40 (SQ [RG [wN 2 91 28],.ret]) .skip],.bB [wV 41 3 44,wV 42 4 3,wI 43 44 41 42,wF 44 25 43 0,wF 45 23 44 1,wD 46 3 45,wV 47 3 44,wV 48 4 3,
 oQ 49 (.slice 44 (.tmp 47) none (some (.tmp 48)) none) 44,wU 50 105 49 44 95,wV 51 3 44,wV 52 4 3,wI 53 44 51 52,wF 54 25 53 0,wF 55 23 54 0,wD 56 3 55,oQ 57 (.index 95 (.tmp 50) (.tmp 56)) 3,wO 58 .neq 3 46 57 3 4] [[],[],[0,1],[0,1,2],[0,1,2,3],[0,1,2,3,4],[],[],[6,7],[6,7,8],[],[],[10,11],[10,11,12],[10,11,12,13],[10,11,12,13,14],[6,7,8,9,10,11,12,13,14,15],[0,1,2,3,4,5,6,7,8,9,10,11,12,13,14,
 15,16]] [41,42,43,44,45,46,47,48,49,50,51,52,53,54,55,56,57],CN 58 (SQ [RG [wN 2 91 28],.ret]) .skip]),RG [wV 14 4 3 [4],wK 15 .add 3 14 1 3 3 [14],wG 4 15 3 [15]]]
def Dv.c:SC:=
 SQ [RG [wE 1 46 0 [0],wN 2 0 28 [2]],RG [wF 5 46 1 0 [1],wD 6 44 5 [5],wG 3 6 44 [6]],SQ [RG [wV 7 3 44,wL 8 7 44 3 [7],wK 9 .gtr 3 8 60 3 4 [8]],CN 9 (SQ [RG [wN 2 91 28],.ret]) .skip],SQ [RG [wN 4 0 3],.block 0 (.loop Dv.s0)],RG [wN 2 0 28],.ret]
def Bm.b0 (k:Nat) (b0:Al):Int->Option (AW (Int) (Unit) (Int)):=fun i2=>
 bif decide (i2<(b0.Ac.length:Int)) then
  (at? b0.Ac i2).bind fun x4=>
  (C4 k x4).bind fun x5=>
  bif decide (x5=(0:Int)) then
   bif decide ((0:Int)<i2) then
    (at? b0.Ac (af (i2 - 1))).bind fun x8=>
    (C7 k x8.At x4.At).bind fun x9=>
    bif (!x9) then
     some (.ret 91)
    else
     (ff b0.Ac 0 i2).bind fun rB=>
     (BC k rB).bind fun cA=>
     (cA.at? x4.At.Ag).bind fun me=>
     bif (!decide (x4.At.No=me)) then
      some (.ret 91)
     else
      some (.next (af (i2+1)))
   else
    (ff b0.Ac 0 i2).bind fun ko=>
    (BC k ko).bind fun gU=>
    (gU.at? x4.At.Ag).bind fun vj=>
    bif (!decide (x4.At.No=vj)) then
     some (.ret 91)
    else
     some (.next (af (i2+1)))
  else
   some (.ret 91)
 else
  some (.brk ())
noncomputable def Bm.h0 (b0:Al):Int->St:=fun i2=>⟨[(3,.sl 8 (List.map Ab.c b0.Ac)),(4,.int .i64 i2)],[],[],1,Try.f60.ntmps⟩
noncomputable def Bm.x0:Unit->St:=fun _=>⟨[],[],[],1,Try.f60.ntmps⟩
def Bm (k:Nat) (b0:Al):Option (Int):=
 bif decide ((60:Int)<(b0.Ac.length:Int)) then
  some 91
 else
  (aB (Bm.b0 k b0) k 0).bind fun uN=>match uN with
  |.next _=>none
  |.ret v_=>some v_
  |.brk _=>
   some 0
theorem DL (k:Nat) (b0:Al) (r:Int) (h0:Bm k b0=some r):An Try.prog 60 [.agg (Al.c b0)] (fun y=>y=.int .i64 r):=by
 refine PB Try.f60 Dv.c [.tmp 2] ?_
 simp only[Bm]at h0
 try simp only[Dv.c,go_sem]
 refine AO h0 ?_ ?_<;>intro c1 h0<;>have F:=c1<;>try simp only[F,go_sem]
 obtain rfl:=oi h0
 refine Ad rfl ?_
 try simp only[F,go_sem]
 obtain⟨uN,abh,h0⟩:=bs h0
 refine Bc abh (Bm.h0 b0) (Bm.x0) ?_ ?_ ?_
 refine Ae.go [3,4] [] rfl ?_
 try simp only[Bm.h0,F,go_sem]
 rintro i2 dU Bq Bs h1 aS aY bM
 refine rS ?_
 simp only[Bm.b0]at h1
 try simp only[Dv.s0,Bm.h0,F,go_sem]
 refine AF F h1 ?_ ?_<;>intro F h1<;>try simp only[F,go_sem]
 refine A1 As bY 1000 ?_
 try simp only[F,go_sem]
 obtain⟨x4,cq,h1⟩:=bs h1
 have F:=an (aG cq) (an (aF Ab.c cq) F)
 try simp only[F,go_sem]
 refine eJ h1 (FH k _) ?_ (fun x5 h1=>?_)<;>try simp only[F,go_sem]
 refine DF F h1 ?_ ?_<;>intro F h1<;>try simp only[F,go_sem]
 refine DF F h1 ?_ ?_<;>intro F h1<;>try simp only[F,go_sem]
 obtain⟨x8,mh,h1⟩:=bs h1
 have F:=an (aG mh) (an (aF Ab.c mh) F)
 try simp only[F,go_sem]
 refine eJ h1 (FK k _ _) ?_ (fun x9 h1=>?_)<;>try simp only[F,go_sem]
 refine aT ?_
 try simp only[F,go_sem]
 refine Bd F h1 ?_ ?_<;>intro F h1<;>try simp only[F,go_sem]
 obtain rfl:=bM _ (oi h1).symm
 simp only at h0
 obtain rfl:=oi h0
 refine Ad rfl ?_
 try simp only[F,go_sem]
 refine A1 As bY 1000 ?_
 try simp only[F,go_sem]
 obtain⟨rB,vn,h1⟩:=bs h1
 have sP:=yr Ab.c vn
 try simp only[go_sem]at sP
 have F:=an sP F
 try simp only[rY vn,F,go_sem]
 refine eJ h1 (D9 k _) ?_ (fun cA h1=>?_)<;>try simp only[F,go_sem]
 obtain⟨me,qu,h1⟩:=bs h1
 have uY:=(Ao.yv mj qu).2
 try simp only[go_sem]at uY
 have F:=an (au qu) (an uY F)
 try simp only[F,go_sem]
 refine aT ?_
 try simp only[F,go_sem]
 refine Bd F h1 ?_ ?_<;>intro F h1<;>try simp only[F,go_sem]
 obtain rfl:=bM _ (oi h1).symm
 simp only at h0
 obtain rfl:=oi h0
 refine Ad rfl ?_
 try simp only[F,go_sem]
 refine Aq (aS _ _ (oi h1).symm (Ae.go [3,4] [] rfl ?_))
 try simp only[Bm.h0,F,go_sem]
 refine aT ?_
 try simp only[F,go_sem]
 refine A1 As bY 1000 ?_
 try simp only[F,go_sem]
 obtain⟨ko,yF,h1⟩:=bs h1
 have acw:=yr Ab.c yF
 try simp only[go_sem]at acw
 have F:=an acw F
 try simp only[rY yF,F,go_sem]
 refine eJ h1 (D9 k _) ?_ (fun gU h1=>?_)<;>try simp only[F,go_sem]
 obtain⟨vj,vv,h1⟩:=bs h1
 have aeM:=(Ao.yv mj vv).2
 try simp only[go_sem]at aeM
 have F:=an (au vv) (an aeM F)
 try simp only[F,go_sem]
 refine aT ?_
 try simp only[F,go_sem]
 refine Bd F h1 ?_ ?_<;>intro F h1<;>try simp only[F,go_sem]
 obtain rfl:=bM _ (oi h1).symm
 simp only at h0
 obtain rfl:=oi h0
 refine Ad rfl ?_
 try simp only[F,go_sem]
 refine Aq (aS _ _ (oi h1).symm (Ae.go [3,4] [] rfl ?_))
 try simp only[Bm.h0,F,go_sem]
 refine aT ?_
 try simp only[F,go_sem]
 obtain rfl:=bM _ (oi h1).symm
 simp only at h0
 obtain rfl:=oi h0
 refine Ad rfl ?_
 try simp only[F,go_sem]
 refine Aq (aY _ _ (oi h1).symm (Ae.go [] [] rfl ?_))
 try simp only[Bm.x0,F,go_sem]
 rintro _ aQ
 subst aQ
 simp only at h0
 refine rS ?_
 try simp only[Bm.x0,F,go_sem]
 obtain rfl:=oi h0
 refine Ad rfl ?_
 try simp only[F,go_sem]
def DB.s0:SC:=
 SQ [SQ [RG [wV 6 5 3,wV 7 0 44,wL 8 7 44 3 [7],wO 9 .lss 3 6 8 3 4 [6,8]],CN 9 .skip (.exit 0)],.block 1 (SQ [.bB [wV 12 0 44,wV 13 5 3,wI 14 44 12 13,wF 15 25 14 0,wD 16 23 15,wD 17 23 3,wO 18 .eql 23 16 17 23 4] [[],[],[0,1],[0,1,2],[0,1,2,3],[],[0,1,2,3,4,5]] [12,13,14,15,16,17],CN 18 (SQ [RG [wV 19 5 3 [5],wG 4 19 3 [19]],.ret]) .skip]),RG [wV 10 5 3 [5],wK 11 .add 3 10 1 3 3 [10],
 wG 5 11 3 [11]]]
def DB.c:SC:=
 SQ [RG [wE 3 23 1 [1],wN 4 0 3 [4]],SQ [RG [wN 5 0 3],.block 0 (.loop DB.s0)],RG [wN 4 (-1) 3],.ret]
def Bn.b0 (k:Nat) (l0:(List Ab)) (dL:Entry):Int->Option (AW (Int) (Unit) (Int)):=fun i1=>
 bif decide (i1<(l0.length:Int)) then
  (at? l0 i1).bind fun x3=>
  bif (decide (x3.At.Ag=dL.Ag)&&decide (x3.At.No=dL.No)) then
   some (.ret i1)
  else
   some (.next (af (i1+1)))
 else
  some (.brk ())
noncomputable def Bn.h0 (l0:(List Ab)) (dL:Entry):Int->St:=fun i1=>⟨[(0,.sl 8 (List.map Ab.c l0)),(3,.ptr 0 0 0),(5,.int .i64 i1)],[(0,.box ([.int .i64 dL.Ag,.int .i64 dL.No]))],[],1,Try.f99.ntmps⟩
noncomputable def Bn.x0:Unit->St:=fun _=>⟨[],[],[],1,Try.f99.ntmps⟩
def Bn (k:Nat) (l0:(List Ab)) (dL:Entry):Option (Int):=
 (aB (Bn.b0 k l0 dL) k 0).bind fun r5=>match r5 with
 |.next _=>none
 |.ret v_=>some v_
 |.brk _=>
  some (-1)
theorem FO (k:Nat) (l0:(List Ab)) (dL:Entry) (r:Int) (h0:Bn k l0 dL=some r):An Try.prog 99 [.sl 8 (List.map Ab.c l0),.agg (Entry.c dL)] (fun y=>y=.int .i64 r):=by
 refine PB Try.f99 DB.c [.tmp 4] ?_
 simp only[Bn]at h0
 try simp only[DB.c,go_sem]
 obtain⟨r5,yr5,h0⟩:=bs h0
 refine Bc yr5 (Bn.h0 l0 dL) (Bn.x0) ?_ ?_ ?_
 refine Ae.go [0,3,5] [0] rfl ?_
 try simp only[Bn.h0,go_sem]
 rintro i1 dU Bq Bs h1 aS aY bM
 refine rS ?_
 simp only[Bn.b0]at h1
 try simp only[DB.s0,Bn.h0,go_sem]
 refine AO h1 ?_ ?_<;>intro c2 h1<;>have F:=c2<;>try simp only[F,go_sem]
 refine A1 As bY 1000 ?_
 try simp only[F,go_sem]
 obtain⟨x3,cv,h1⟩:=bs h1
 have F:=an (aG cv) (an (aF Ab.c cv) F)
 try simp only[F,go_sem]
 refine aT ?_
 try simp only[F,go_sem]
 refine AF F h1 ?_ ?_<;>intro F h1<;>try simp only[F,go_sem]
 obtain rfl:=bM _ (oi h1).symm
 simp only at h0
 obtain rfl:=oi h0
 refine Ad rfl ?_
 try simp only[F,go_sem]
 refine Aq (aS _ _ (oi h1).symm (Ae.go [0,3,5] [0] rfl ?_))
 try simp only[Bn.h0,F,go_sem]
 refine Aq (aY _ _ (oi h1).symm (Ae.go [] [] rfl ?_))
 try simp only[Bn.x0,F,go_sem]
 rintro _ aQ
 subst aQ
 simp only at h0
 refine rS ?_
 try simp only[Bn.x0,go_sem]
 obtain rfl:=oi h0
 refine Ad rfl ?_
 try simp only[go_sem]
def CS.c:SC:=
 SQ [RG [oQ 2 (.assign (.const (.slice none 0 0))) 44 [2]],RG [oQ 3 (.buildSlice 44 0 #[]) 44,wV 4 0 44 [0],wP 5 3 4 44 44 44 [3,4],wG 2 5 44 [5]],.ret]
theorem CS.rs:Try.f100.results.toList=[.tmp 2]:=rfl
def FL (k:Nat) (l0:(List Ab)):Option ((List Ab)):=
 (nh l0.length 72).bind fun _=>
 some l0
theorem Hb (k:Nat) (l0:(List Ab)) (r:(List Ab)) (h0:FL k l0=some r):An Try.prog 100 [.sl 8 (List.map Ab.c l0)] (fun y=>y=.sl 8 (List.map Ab.c r)):=by
 refine PB Try.f100 CS.c [.tmp 2] ?_
 simp only[FL]at h0
 try simp only[CS.c,go_sem]
 obtain⟨u1,lh,h0⟩:=bs h0
 try simp only[uS lh,go_sem]
 obtain rfl:=oi h0
 refine Ad rfl ?_
 try simp only[go_sem]
def C8 (k:Nat) (l0:(List Ab)):Option ((List Ab)):=
 (nh l0.length 72).bind fun _=>
 some l0
theorem FN (k:Nat) (l0:(List Ab)) (r:(List Ab)) (h0:C8 k l0=some r):AY Try.prog 100 [.sl 8 (List.map Ab.c l0)] [] (fun y fr=>y=.loc 0 0 8 0 r.length r.length/\fr=[(0,.arr 25 8 (List.map Ab.c r))]):=by
 have hr:=AY.own (et:=25) (sz:=8) (ls:=List.map Ab.c r) (AY.ft As (f:=100) (fn:=Try.f100) (sc:=CS.c) (args:=[.sl 8 (List.map Ab.c l0)]) (fr0:=[]) (by rfl) (by rfl) (by decide +kernel) (by rfl) (by decide +kernel) (Nat.le_of_ble_eq_true rfl) (fun H=>?_))
 simpa only [Bh] using hr
 refine rS ?_
 simp only[C8]at h0
 try simp only[CS.c,go_sem]
 obtain⟨u1,lh,h0⟩:=bs h0
 try simp only[uS lh,go_sem]
 obtain rfl:=oi h0
 refine Cx rfl ?_
 try simp only[CS.rs,lZ,AQ,bC,vY,vZ,A7,Co,go_sem]
def Dx.s0:SC:=
 SQ [SQ [.bB [wV 39 7 3,wV 40 0 44,wL 41 40 44 3,wO 42 .lss 3 39 41 3 4,wV 43 42 4,gd 43 true (wV 44 0 44),gd 43 true (wV 45 7 3),gd 43 true (wI 46 44 44 45),gd 43 true (wF 47 25 46 0),gd 43 true (wD 48 23 47),gd 43 true (wF 49 25 3 0),gd 43 true (wD 50 23 49),gd 43 true (wW 51 108 48 50 23 23 4),wZ 52 43 51 4] [[],[],[1],[0,1,2],[0,1,2,3],[0,1,2,3,4],[0,1,2,3,4],[0,1,2,3,4,5,6],[0,1,2,3,4,5,6,
 7],[0,1,2,3,4,5,6,7,8],[0,1,2,3,4],[0,1,2,3,4,10],[0,1,2,3,4,5,6,7,8,9,10,11],[0,1,2,3,4,5,6,7,8,9,10,11,12]] [39,40,41,42,43,44,45,46,47,48,49,50,51],CN 52 .skip (.exit 0)],.block 1 (RG [wV 53 7 3 [7],wK 54 .add 3 53 1 3 3 [53],wG 7 54 3 [54]])]
def Dx.c:SC:=
 SQ [RG [wE 3 25 1 [1],oQ 4 (.assign (.const (.slice none 0 0))) 44 [4],wN 5 0 28 [5]],RG [wV 8 0 44,wF 9 25 3 0,wD 10 23 9 [9],wW 11 99 8 10 44 23 3 [8,10],wG 6 11 3 [11]],SQ [.bB [wV 12 6 3,wK 13 .geq 3 12 0 3 4,wV 14 13 4,gd 14 true (wV 15 0 44),gd 14 true (wV 16 6 3),gd 14 true (wI 17 44 15 16),gd 14 true (wD 18 25 17),gd 14 true (wD 19 25 3),gd 14 true (wO 20 .eql 25 18 19 25 4),
 wZ 21 14 20 4] [[],[0],[0,1],[0,1,2],[0,1,2],[0,1,2,3,4],[0,1,2,3,4,5],[0,1,2],[0,1,2,3,4,5,6,7],[0,1,2,3,4,5,6,7,8]] [12,13,14,15,16,17,18,19,20],CN 21 (SQ [RG [wV 22 0 44 [0],wU 23 100 22 44 44 [22],wG 4 23 44 [23],wN 5 0 28],.ret]) .skip],SQ [RG [wV 24 6 3 [6],wK 25 .geq 3 24 0 3 4 [24]],CN 25 (SQ [RG [oQ 4 (.assign (.const (.slice none 0 0))) 44,wN 5 92 28],.ret]) .skip],
 SQ [.bB [wF 26 25 3 0,wF 27 23 26 1,wD 28 3 27,wV 29 0 44,wU 30 105 29 44 95,wF 31 25 3 0,wF 32 23 31 0,wD 33 3 32,oQ 34 (.index 95 (.tmp 30) (.tmp 33)) 3,wO 35 .gtr 3 28 34 3 4] [[],[0],[0,1],[],[3],[],[5],[5,6],[3,4,5,6,7],[0,1,2,3,4,5,6,7,8]] [26,27,28,29,30,31,32,33,34],CN 35 (SQ [RG [oQ 4 (.assign (.const (.slice none 0 0))) 44,wN 5 93 28],.ret]) .skip],SQ [RG [wV 36 0 44,
 wL 37 36 44 3 [36],wK 38 .eql 3 37 60 3 4 [37]],CN 38 (SQ [RG [oQ 4 (.assign (.const (.slice none 0 0))) 44,wN 5 2 28],.ret]) .skip],RG [wN 7 0 3],.block 0 (.loop Dx.s0),.bB [wV 55 0 44,wV 56 7 3,oQ 57 (.slice 44 (.tmp 55) none (some (.tmp 56)) none) 44,wU 58 100 57 44 44,wD 59 25 3,oQ 60 (.buildSlice 44 1 #[(0,.tmp 59)]) 44,wP 61 58 60 44 44 44,wV 62 0 44,wV 63 7 3,
 oQ 64 (.slice 44 (.tmp 62) (some (.tmp 63)) none none) 44,wP 65 61 64 44 44 44,wG 4 65 44,wN 5 0 28] [[],[],[0,1],[0,1,2],[],[4],[0,1,2,3,4,5],[],[],[7,8],[0,1,2,3,4,5,6,7,8,9],[0,1,2,3,4,5,6,7,8,9,10],[0,1,2,3,4,5,6,7,8,9,10,11]] [0,3,7,55,56,57,58,59,60,61,62,63,64,65],.ret]
def BB.b0 (k:Nat) (l0:(List Ab)) (r1:Ab):Int->Option (AW (Int) (Int) ((List Ab)×Int)):=fun i11=>
 bif decide (i11<(l0.length:Int)) then
  (at? l0 i11).bind fun bO=>
  (C7 k bO.At r1.At).bind fun eT=>
  bif eT then
   some (.next (af (i11+1)))
  else
   some (.brk i11)
 else
  some (.brk i11)
noncomputable def BB.h0 (l0:(List Ab)) (r1:Ab):Int->St:=fun i11=>⟨[(0,.sl 8 (List.map Ab.c l0)),(3,.ptr 0 0 0),(7,.int .i64 i11)],[(0,.box ([.int .i64 r1.At.Ag,.int .i64 r1.At.No,.int .i64 r1.Kind,.int .i64 r1.Day,.int .i64 r1.AI,.int .i64 r1.Of.Ag,.int .i64 r1.Of.No,.str r1.Text]))],[],1,Try.f75.ntmps⟩
noncomputable def BB.x0 (l0:(List Ab)) (r1:Ab):Int->St:=fun i12=>⟨[(0,.sl 8 (List.map Ab.c l0)),(3,.ptr 0 0 0),(7,.int .i64 i12)],[(0,.box ([.int .i64 r1.At.Ag,.int .i64 r1.At.No,.int .i64 r1.Kind,.int .i64 r1.Day,.int .i64 r1.AI,.int .i64 r1.Of.Ag,.int .i64 r1.Of.No,.str r1.Text]))],[],1,Try.f75.ntmps⟩
def BB (k:Nat) (l0:(List Ab)) (r1:Ab):Option ((List Ab)×Int):=
 (Bn k l0 r1.At).bind fun x1=>
 bif decide ((0:Int)<=x1) then
  (at? l0 x1).bind fun x3=>
  bif (decide (x3.At.Ag=r1.At.Ag)&&(decide (x3.At.No=r1.At.No)&&(decide (x3.Kind=r1.Kind)&&(decide (x3.Day=r1.Day)&&(decide (x3.AI=r1.AI)&&(decide (x3.Of.Ag=r1.Of.Ag)&&(decide (x3.Of.No=r1.Of.No)&&(x3.Text.toList==r1.Text.toList)))))))) then
   (C8 k l0).bind fun x6=>
   some (x6,0)
  else
   some ([],92)
 else
  (BC k l0).bind fun x7=>
  (x7.at? r1.At.Ag).bind fun x8=>
  bif decide (x8<r1.At.No) then
   some ([],93)
  else
   bif decide ((l0.length:Int)=(60:Int)) then
    some ([],2)
   else
    (aB (BB.b0 k l0 r1) k 0).bind fun r17=>match r17 with
    |.next _=>none
    |.ret v_=>some v_
    |.brk i12=>
     (ff l0 0 i12).bind fun l18=>
     (C8 k l18).bind fun gV=>
     (iC 72 gV r1).bind fun l21=>
     (ff l0 i12 l0.length).bind fun l22=>
     (iN 72 l21 l22).bind fun uo=>
     some (uo,0)
theorem Gt (k:Nat) (l0:(List Ab)) (r1:Ab) (r:(List Ab)×Int) (h0:BB k l0 r1=some r):An Try.prog 75 [.sl 8 (List.map Ab.c l0),.agg (Ab.c r1)] (fun y=>y=.ak [.sl 8 (List.map Ab.c r.1),.int .i64 r.2]):=by
 refine PB Try.f75 Dx.c [.tmp 4,.tmp 5] ?_
 simp only[BB]at h0
 try simp only[Dx.c,go_sem]
 refine ay h0 (FO k _ _) ?_ (fun x1 h0=>?_)<;>try simp only[go_sem]
 refine A1 As bY 1000 ?_
 try simp only[go_sem]
 refine DZ h0 ?_ ?_<;>intro c2 h0<;>have F:=c2<;>try simp only[F,go_sem]
 obtain⟨x3,cv,h0⟩:=bs h0
 have F:=an (aG cv) (an (aF Ab.c cv) F)
 try simp only[F,go_sem]
 refine aT ?_
 try simp only[F,go_sem]
 refine AF F h0 ?_ ?_<;>intro F h0<;>try simp only[F,go_sem]
 obtain⟨x6,cO,h0⟩:=bs h0
 refine CP As 1000 [] [] (FN k _ _ cO) ?_ rfl ?_
 try simp only[j3,Bh,F,go_sem]
 try simp only[F,go_sem]
 obtain rfl:=oi h0
 refine Ad rfl ?_
 try simp only[F,go_sem]
 obtain rfl:=oi h0
 refine Ad rfl ?_
 try simp only[F,go_sem]
 refine aT ?_
 try simp only[F,go_sem]
 refine A1 As bY 1000 ?_
 try simp only[F,go_sem]
 refine eJ h0 (D9 k _) ?_ (fun x7 h0=>?_)<;>try simp only[F,go_sem]
 obtain⟨x8,mh,h0⟩:=bs h0
 have aeR:=(Ao.yv mj mh).2
 try simp only[go_sem]at aeR
 have F:=an (au mh) (an aeR F)
 try simp only[F,go_sem]
 refine aT ?_
 try simp only[F,go_sem]
 refine AF F h0 ?_ ?_<;>intro F h0<;>try simp only[F,go_sem]
 obtain rfl:=oi h0
 refine Ad rfl ?_
 try simp only[F,go_sem]
 refine AF F h0 ?_ ?_<;>intro F h0<;>try simp only[F,go_sem]
 obtain rfl:=oi h0
 refine Ad rfl ?_
 try simp only[F,go_sem]
 obtain⟨r17,akN,h0⟩:=bs h0
 refine Bc akN (BB.h0 l0 r1) (BB.x0 l0 r1) ?_ ?_ ?_
 refine Ae.go [0,3,7] [0] rfl ?_
 try simp only[BB.h0,F,go_sem]
 rintro i11 dU Bq Bs h1 aS aY bM
 refine rS ?_
 simp only[BB.b0]at h1
 try simp only[Dx.s0,BB.h0,F,go_sem]
 refine A1 As bY 1000 ?_
 try simp only[F,go_sem]
 refine DF F h1 ?_ ?_<;>intro F h1<;>try simp only[F,go_sem]
 obtain⟨bO,vu,h1⟩:=bs h1
 have F:=an (aG vu) (an (aF Ab.c vu) F)
 try simp only[F,go_sem]
 refine eJ h1 (FK k _ _) ?_ (fun eT h1=>?_)<;>try simp only[F,go_sem]
 refine aT ?_
 try simp only[F,go_sem]
 refine AF F h1 ?_ ?_<;>intro F h1<;>try simp only[F,go_sem]
 refine Aq (aS _ _ (oi h1).symm (Ae.go [0,3,7] [0] rfl ?_))
 try simp only[BB.h0,F,go_sem]
 refine Aq (aY _ _ (oi h1).symm (Ae.go [0,3,7] [0] rfl ?_))
 try simp only[BB.x0,F,go_sem]
 refine aT ?_
 try simp only[F,go_sem]
 refine Aq (aY _ _ (oi h1).symm (Ae.go [0,3,7] [0] rfl ?_))
 try simp only[BB.x0,F,go_sem]
 rintro i12 aQ
 subst aQ
 simp only at h0
 refine rS ?_
 try simp only[BB.x0,F,go_sem]
 refine A1 As bY 1000 ?_
 try simp only[F,go_sem]
 obtain⟨l18,afe,h0⟩:=bs h0
 have acx:=yr Ab.c afe
 try simp only[go_sem]at acx
 have F:=an acx F
 try simp only[rY afe,F,go_sem]
 obtain⟨gV,bG,h0⟩:=bs h0
 refine Dc 1000 [] [] (FN k _ _ bG) ?_ rfl ?_
 try simp only[j3,Bh,F,go_sem]
 try simp only[F,go_sem]
 obtain⟨l21,akK,h0⟩:=bs h0
 have afc:=pu Ab.c akK
 try simp only[F,go_sem]at afc
 have F:=an afc F
 try simp only[F,go_sem]
 obtain⟨l22,aff,h0⟩:=bs h0
 have acz:=aeA Ab.c aff
 try simp only[go_sem]at acz
 have F:=an acz F
 try simp only[yp aff,F,go_sem]
 obtain⟨uo,vr,h0⟩:=bs h0
 have afd:=yM Ab.c vr
 try simp only[F,go_sem]at afd
 have F:=an afd F
 try simp only[F,go_sem]
 refine aT ?_
 try simp only[F,go_sem]
 obtain rfl:=oi h0
 refine Ad rfl ?_
 try simp only[F,go_sem]
def Fk.c:SC:=
 SQ [RG [wE 2 46 0 [0],wE 3 25 1 [1],wA 4 46,wN 5 0 28 [5]],SQ [RG [wD 8 46 2,wU 9 60 8 46 28 [8],wK 10 .neq 28 9 0 28 4 [9]],CN 10 (SQ [RG [oQ 11 (.build 46 #[]) 46,wS 46 4 11 [11],wN 5 91 28],.ret]) .skip],SQ [RG [wD 12 25 3,wU 13 31 12 25 28 [12],wK 14 .neq 28 13 0 28 4 [13]],CN 14 (SQ [RG [oQ 15 (.build 46 #[]) 46,wS 46 4 15 [15],wN 5 90 28],.ret]) .skip],RG [wF 17 46 2 0 [2],wD 18 44 17 [17],
 wD 19 25 3 [3],wW 20 75 18 19 44 25 100 [18,19],wV 16 20 100 [20],wX 21 16 0 44,wX 22 16 1 28 [16],wG 6 21 44 [21],wG 7 22 28 [22]],SQ [RG [wV 23 7 28,wK 24 .neq 28 23 0 28 4 [23]],CN 24 (SQ [RG [oQ 25 (.build 46 #[]) 46,wV 26 7 28 [7],wS 46 4 25 [25],wG 5 26 28 [26]],.ret]) .skip],RG [wV 27 6 44 [6],oQ 28 (.build 46 #[(0,.tmp 27)]) 46 [27],wS 46 4 28 [28],wN 5 0 28],.ret]
def DK (k:Nat) (b0:Al) (r1:Ab):Option (Al×Int):=
 (Bm k b0).bind fun x1=>
 bif (!decide (x1=(0:Int))) then
  some ((⟨[]⟩:Al),91)
 else
  (C4 k r1).bind fun x3=>
  bif (!decide (x3=(0:Int))) then
   some ((⟨[]⟩:Al),90)
  else
   (BB k b0.Ac r1).bind fun x5=>
   bif (!decide (x5.2=(0:Int))) then
    some ((⟨[]⟩:Al),x5.2)
   else
    some ((⟨x5.1⟩:Al),0)
theorem Gn (k:Nat) (b0:Al) (r1:Ab) (r:Al×Int) (h0:DK k b0 r1=some r):An Try.prog 52 [.agg (Al.c b0),.agg (Ab.c r1)] (fun y=>y=.ak [.agg (Al.c r.1),.int .i64 r.2]):=by
 refine PB Try.f52 Fk.c [.cell 4 46,.tmp 5] ?_
 simp only[DK]at h0
 try simp only[Fk.c,go_sem]
 refine ay h0 (DL k _) ?_ (fun x1 h0=>?_)<;>try simp only[go_sem]
 refine BJ h0 ?_ ?_<;>intro c2 h0<;>have F:=c2<;>try simp only[F,go_sem]
 obtain rfl:=oi h0
 refine Ad rfl ?_
 try simp only[F,go_sem]
 refine ay h0 (FH k _) ?_ (fun x3 h0=>?_)<;>try simp only[F,go_sem]
 refine Bd F h0 ?_ ?_<;>intro F h0<;>try simp only[F,go_sem]
 obtain rfl:=oi h0
 refine Ad rfl ?_
 try simp only[F,go_sem]
 refine ay h0 (Gt k _ _) ?_ (fun x5 h0=>?_)<;>try simp only[F,go_sem]
 refine Bd F h0 ?_ ?_<;>intro F h0<;>try simp only[F,go_sem]
 obtain rfl:=oi h0
 refine Ad rfl ?_
 try simp only[F,go_sem]
 obtain rfl:=oi h0
 refine Ad rfl ?_
 try simp only[F,go_sem]
def Fl.c:SC:=
 SQ [RG [wE 1 46 0 [0],wA 2 95,wN 3 0 28 [3]],SQ [RG [wD 5 46 1,wU 6 51 5 46 28 [5],wG 4 6 28 [6]],RG [wV 7 4 28,wK 8 .neq 28 7 0 28 4 [7]],CN 8 (SQ [RG [oQ 9 (.build 95 #[]) 95,wV 10 4 28 [4],wS 95 2 9 [9],wG 3 10 28 [10]],.ret]) .skip],RG [wD 11 46 1 [1],wU 12 104 11 46 95 [11],wS 95 2 12 [12],wN 3 0 28],.ret]
def sw (k:Nat) (b0:Al):Option ((Aa 6 Int)×Int):=
 (dO k b0).bind fun x1=>
 bif (!decide (x1=(0:Int))) then
  some ((Aa.rep 6 (0:Int)),x1)
 else
  (eU k b0).bind fun x3=>
  some (x3,0)
theorem agl (k:Nat) (b0:Al) (r:(Aa 6 Int)×Int) (h0:sw k b0=some r):An Try.prog 53 [.agg (Al.c b0)] (fun y=>y=.ak [.agg ((Aa.c (n:=6) eI) r.1),.int .i64 r.2]):=by
 refine PB Try.f53 Fl.c [.cell 2 95,.tmp 3] ?_
 simp only[sw]at h0
 try simp only[Fl.c,go_sem]
 refine ay h0 (sv k _) ?_ (fun x1 h0=>?_)<;>try simp only[go_sem]
 refine BJ h0 ?_ ?_<;>intro c2 h0<;>have F:=c2<;>try simp only[F,go_sem]
 obtain rfl:=oi h0
 refine Ad rfl ?_
 try simp only[F,go_sem]
 refine ay h0 (abR k _) ?_ (fun x3 h0=>?_)<;>try simp only[F,go_sem]
 obtain rfl:=oi h0
 refine Ad rfl ?_
 try simp only[F,go_sem]
def Fm.c:SC:=
 SQ [RG [wE 1 46 0 [0],wA 2 95,wN 3 0 28 [3]],SQ [RG [wD 4 46 1,wU 5 60 4 46 28 [4],wK 6 .neq 28 5 0 28 4 [5]],CN 6 (SQ [RG [oQ 7 (.build 95 #[]) 95,wS 95 2 7 [7],wN 3 91 28],.ret]) .skip],RG [wF 8 46 1 0 [1],wD 9 44 8 [8],wU 10 105 9 44 95 [9],wS 95 2 10 [10],wN 3 0 28],.ret]
def DM (k:Nat) (b0:Al):Option ((Aa 6 Int)×Int):=
 (Bm k b0).bind fun x1=>
 bif (!decide (x1=(0:Int))) then
  some ((Aa.rep 6 (0:Int)),91)
 else
  (BC k b0.Ac).bind fun x3=>
  some (x3,0)
theorem Gp (k:Nat) (b0:Al) (r:(Aa 6 Int)×Int) (h0:DM k b0=some r):An Try.prog 54 [.agg (Al.c b0)] (fun y=>y=.ak [.agg ((Aa.c (n:=6) eI) r.1),.int .i64 r.2]):=by
 refine PB Try.f54 Fm.c [.cell 2 95,.tmp 3] ?_
 simp only[DM]at h0
 try simp only[Fm.c,go_sem]
 refine ay h0 (DL k _) ?_ (fun x1 h0=>?_)<;>try simp only[go_sem]
 refine BJ h0 ?_ ?_<;>intro c2 h0<;>have F:=c2<;>try simp only[F,go_sem]
 obtain rfl:=oi h0
 refine Ad rfl ?_
 try simp only[F,go_sem]
 refine ay h0 (D9 k _) ?_ (fun x3 h0=>?_)<;>try simp only[F,go_sem]
 obtain rfl:=oi h0
 refine Ad rfl ?_
 try simp only[F,go_sem]
end Go.Abs
namespace Go.Abs
open Go Go.Proofs Go.RowKit Go.Lib
def D2.c:SC:=
 SQ [RG [wE 1 44 0 [0],oQ 2 (.assign (.const .nilFunc)) 218 [2]],RG [oQ 3 (.makeFunc (.func 151) #[] #[.tmp 1]) 217 [1],wG 2 3 218 [3]],.ret]
theorem D2.rs:Try.f141.results.toList=[.tmp 2]:=rfl
noncomputable def kH (l:List Ab):AV:=.fn (.func 151) [] [.aq 1 [[.sl 8 (List.map Ab.c l)]] 0 0]
theorem af7 (l:List Ab):BO Try.prog 141 [.sl 8 (List.map Ab.c l)] [] (fun y fr H'=>y=.fn (.func 151) [] [.ptr 0 0 0]/\fr=[(0,.box [.sl 8 (List.map Ab.c l)])]/\H'=[]):=by
 refine BO.ft As (fn:=Try.f141) (sc:=D2.c) (by rfl) (by rfl) (by decide +kernel) (by rfl) (by decide +kernel) (Nat.le_of_ble_eq_true rfl) ?_ (by rintro y fr H' ⟨_,_,rfl⟩;rfl)
 refine rS ?_
 simp only[D2.c,go_sem]
 refine⟨_,by rw[D2.rs];simp only[go_sem];rfl,.own [0] _ _ (by decide) (by decide) ?_ ?_ ⟨rfl,rfl,rfl⟩⟩
 ·simp only[bC,go_sem]
 ·simp only[iD,go_sem]
theorem ajY (l:List Ab):An Try.prog 141 [.sl 8 (List.map Ab.c l)] (fun y=>y=kH l):=by
 have hA:=af7 l
 refine⟨hA.1,fun fm w vs h1 h2=>Calls.mono (hA.2 w.heap.size w fm [] w vs (HR.nothing h1) (h2.mono (AM.refl _) (Ak.nil _))) ?_⟩
 rintro e w' ⟨v,av,aH,H',fm',t',ts',rfl,⟨rfl,rfl,rfl⟩,_,bu,aZ,bz,_,_,_⟩
 have hle:AM fm' (ik fm' w' w.heap.size):=fun b o v h=>by
  unfold ik
  split
  ·exact bu.bL b o v h
  ·exact h
 have bl:CK (ik fm' w' w.heap.size) w':=fun b o v h=>by
  unfold ik at h
  split at h
  ·exact h
  ·exact bu.bL b o v h
 have aav:Ax w.heap.size fm (ik fm' w' w.heap.size):=⟨fun b o v h=>hle b o v (bz.le b o v h),fun b o h=>by unfold ik;rw[if_neg (by omega)];exact bz.fix b o h⟩
 refine⟨v,kH l,_,rfl,rfl,bl,?_,aav,bu.bJ⟩
 cases aZ with
 |fn f first cap vf vc h1 h2 h3 h4=>
  refine .fn _ _ _ vf vc h1 (by simpa using h2) (by intro i x v h;simp at h) ?_
  intro i x v hx hv
  match i,hx,hv with
  |0,hx,hv=>
   obtain rfl:=oi hx
   have hp:=h4 0 _ v rfl hv
   cases hp with
   |ptr _ _ _ c ax=>exact zf bu rfl ax rfl hle (fun o u hu=>by unfold ik;rw[if_pos];exact hu;exact(bu.aj 0 0 _ rfl).lt (by rw[ax];rfl) |>.2)
  |i+1,hx,hv=>simp at hx
def AS.s0:SC:=
 SQ [SQ [RG [wV 7 3 3,wK 8 .geq 3 7 0 3 4 [7]],CN 8 .skip (.exit 0)],.block 1 (SQ [RG [wV 11 0 228,wV 12 3 3,wD 13 44 1,wV 14 3 3,wI 15 44 13 14 [13,14],wD 16 25 15 [15],oQ 17 (.call ⟨.value (.tmp 11),#[.tmp 12,.tmp 16],#[3,25]⟩) 4 [11,12,16],wQ 18 17 4 [17]],CN 18 .ret .skip]),RG [wV 9 3 3 [3],wK 10 .sub 3 9 1 3 3 [9],wG 3 10 3 [10]]]
def AS.c:SC:=
 SQ [RG [wD 4 44 1,wL 5 4 44 3 [4],wK 6 .sub 3 5 1 3 3 [5],wG 3 6 3 [6]],.block 0 (.loop AS.s0)]
theorem AS.rs:Try.f151.results.toList=[]:=rfl
noncomputable def jT (L:List Ab) (l:Nat) (C:Aj) (i:Int):St:=⟨[(0,.fn (.yield l) [] []),(1,.aq 1 [[.sl 8 (List.map Ab.c L)]] 0 0),(3,.int .i64 i)],[],[C],0,Try.f151.ntmps⟩
noncomputable def yS (L:List Ab) (l:Nat) (C:Aj) (x:Ab) (i:Int):St:=
 ⟨[(0,.fn (.yield l) [] []),(1,.aq 1 [[.sl 8 (List.map Ab.c L)]] 0 0),(3,.int .i64 i),(11,.fn (.yield l) [] []),(12,.int .i64 i),(16,.agg (Ab.c x))],[],[C],0,Try.f151.ntmps⟩
noncomputable def vJ (L:List Ab) (l:Nat) (C:Aj) (i:Int):St:=⟨(17,.bool true)::[(0,.fn (.yield l) [] []),(1,.aq 1 [[.sl 8 (List.map Ab.c L)]] 0 0),(3,.int .i64 i)],[],[C],0,Try.f151.ntmps⟩
def AS.p0:SC:=
 AS.c.fst
def AS.q0:SC:=
 AS.s0.fst
def AS.x:SC:=
 AS.s0.snd.fst.body
def AS.x9:List Ai:=AS.x.fst.ro.take 6

def AS.qp:List Ai:=AS.x.fst.ro.drop 7

def AS.z:SC:=
 AS.x.snd
def AS.r3:SC:=
 AS.s0.snd.snd
theorem af8 (L:List Ab) (hn:L.length<=1000) (l:Nat) (C:Aj) (Φ:Exit->St->Prop):
  AK Try.prog Try.f151.ntmps Φ [.sc AS.p0,.back (fun st=>Ae Try.f151.ntmps st (jT L l C ((L.length:Int) - 1)))]
   ⟨[(0,.fn (.yield l) [] []),(1,.aq 1 [[.sl 8 (List.map Ab.c L)]] 0 0)],[],[C],0,Try.f151.ntmps⟩:=by
 have e:af ((L.length:Int) - 1)=(L.length:Int) - 1:=by show IntKind.i64.wrap _=_;rw[IntKind.wrap_i64];omega
 refine rS ?_
 simp only[AS.p0,AS.c,SC.fst,SC.snd,e,go_sem]
 refine Aq ?_
 refine Ae.go [0,1,3] [] rfl ?_
 simp only[jT,e,go_sem]
theorem af9 (L:List Ab) (l:Nat) (C:Aj) (i:Int) (h:decide ((0:Int)<=i)=true) (Φ:Exit->St->Prop):
  AK Try.prog Try.f151.ntmps Φ [.sc AS.q0,.back (fun st=>Ae Try.f151.ntmps st (jT L l C i))] (jT L l C i):=by
 refine rS ?_
 simp only[jT,AS.q0,AS.s0,SC.fst,SC.snd,h,go_sem]
 refine Aq ?_
 refine Ae.go [0,1,3] [] rfl ?_
 simp only[go_sem]
theorem agc (L:List Ab) (l:Nat) (C:Aj) (i:Int) (h:decide ((0:Int)<=i)=false) (B:St->Prop):
  AK Try.prog Try.f151.ntmps (fun e st=>e=.exit 0/\st.low=[C]) [.sc AS.q0,.back B] (jT L l C i):=by
 refine rS ?_
 simp only[jT,AS.q0,AS.s0,SC.fst,SC.snd,h,go_sem]
 try exact⟨rfl,rfl⟩
theorem agb (L:List Ab) (l:Nat) (C:Aj) (i:Int) (x:Ab) (hx:at? L i=some x) (Φ:Exit->St->Prop):
  AK Try.prog Try.f151.ntmps Φ [.ops AS.x9,.back (fun st=>Ae Try.f151.ntmps st (yS L l C x i))] (jT L l C i):=by
 refine rS ?_
 simp only[jT,AS.x9,AS.x,AS.s0,SC.fst,SC.snd,SC.body,SC.ro,List.take_succ_cons,List.take_zero,aG hx,aF Ab.c hx,go_sem]
 refine Aq ?_
 refine Ae.go [0,1,3,11,12,16] [] rfl ?_
 simp only[yS,go_sem]
theorem agd (L:List Ab) (l:Nat) (C:Aj) (i:Int) (Φ:Exit->St->Prop):
  AK Try.prog Try.f151.ntmps Φ [.ops AS.qp,.sc AS.z,.aj 1,.sc AS.r3,.back (fun st=>Ae Try.f151.ntmps st (jT L l C (af (i - 1))))] (vJ L l C i):=by
 refine rS ?_
 simp only[vJ,AS.qp,AS.z,AS.r3,AS.x,AS.s0,SC.fst,SC.snd,SC.body,SC.ro,List.drop_succ_cons,List.drop_zero,go_sem]
 refine Aq ?_
 refine Ae.go [0,1,3] [] rfl ?_
 simp only[jT,go_sem]
noncomputable def CQ:Code:=Try.f151.body.getD .skip
noncomputable def Cf:Code:=gC (gC (ae CQ))
noncomputable def CG:Code:=gC (aA (ae Cf))
noncomputable def C9:Array Oper:=mB (aA CG)
def YB (N0:Nat) (W1:World) (l:Nat) (tc:Ah) (C:Nat->Aj) (I:Nat->World->Prop) (L:List Ab):Prop:=
 ∀ m x,L[m]?=some x->∀ (f:Aj) fm ts w vs W2,I (m+1) W2->Below N0 W1 W2->HR N0 W2 fm ts [f,C (m+1)] w->Ak [tc] (ts.drop 1)->Am fm ts [.int .i64 (m:Int),.agg (Ab.c x)] vs->
  YieldAt FW 0 Try.prog l vs.toArray w fun e w'=>e=.returned (.bool true)/\∃ W3 fm' ts',I m W3/\Below N0 W1 W3/\HR N0 W3 fm' ts' [f,C m] w'/\Ax N0 fm fm'/\Ak ts ts'/\∀ l k,tb ts l k=none->tb ts' l k=none
theorem aga (L:List Ab) (hn:L.length<=1000) {N0:Nat}{W1:World}{l:Nat}{tc:Ah}{C:Nat->Aj}{I:Nat->World->Prop} (hY:YB N0 W1 l tc C I L) {fm:FM}{w:World}{vd:Value}
  (hI:I L.length W1) (hr:HR N0 W1 fm [tc] [C L.length] w) (hd:VR fm [] (.aq 1 [[.sl 8 (List.map Ab.c L)]] 0 0) vd):
  Calls Try.prog 151 #[.func (.yield l) #[] #[],vd] w fun e w'=>(∃ v,e=.returned v)/\∃ W3 fm' ts',I 0 W3/\Below N0 W1 W3/\HR N0 W3 fm' ts' [C 0] w'/\Ax N0 fm fm'/\Ak [tc] ts'/\∀ l k,tb [tc] l k=none->tb ts' l k=none:=by
 have eu:Try.f151.ntmps=19:=by rfl
 refine calls_of_wp (fn:=Try.f151) (c:=CQ) (by rfl) (by rfl) ((qn []).1 ?_)
 have hyv:VR fm (cj::[tc]) (.fn (.yield l) [] []) (.func (.yield l) #[] #[]):=.fn _ _ _ _ _ rfl rfl (by intro i x v h;simp at h) (by intro i x v h;simp at h)
 have hS:=SR.enter hr (args:=[.fn (.yield l) [] [],.aq 1 [[.sl 8 (List.map Ab.c L)]] 0 0]) (vs:=[.func (.yield l) #[] #[],vd]) (n:=Try.f151.ntmps) (by
  refine⟨rfl,?_⟩
  intro i x v hx hv
  match i,hx,hv with
  |0,hx,hv=>cases hx;cases hv;exact hyv
  |1,hx,hv=>cases hx;cases hv;exact hd.mono (AM.refl _) (Ak.nil _)
  |i+2,hx,hv=>simp at hx) (by rw[eu];simp)
 have ahd:CQ=.seq (aA CQ) (.block 0 (.loop Cf)):=by rfl
 refine(show K Try.prog _ [.code CQ] .normal _ w from ?_)
 rw[ahd]
 refine B1 ?_
 refine AK.gR (cs:=[.code (aA CQ)]) (t:=[.code (.block 0 (.loop Cf))]) (Φ:=fun _ _=>False) (todo:=[.sc AS.p0]) hS (af8 L hn l (C L.length) _)
  (fun R hR=>.sc (by rfl) (by rfl) (.back hR .nil)) ?_ (fun _ _ _ _ _ _ h=>h.elim)
 rintro p8 a0 w0 zJ ec lV pr po
 obtain⟨dv,cn,bE,fy⟩:=lV _ _ _ _ _ _ pr
 refine CB ?_
 refine Ee (I:=fun m a w=>m<=L.length/\∃ W2 fm' ts',I m W2/\Below N0 W1 W2/\SR N0 W2 Try.f151.ntmps (jT L l (C m) ((m:Int) - 1)) a w fm' ts'/\AT N0 fm (cj::[tc]) fm' ts') L.length
  ⟨A7 _,W1,dv,cn,hI,Below.refl _ _,bE,po.trans fy⟩ ?_
 rintro m a w2 ⟨hm,W2,dw,cE,hI2,gI,cL,bU⟩
 have eB:Cf=.seq (aA Cf) (.seq (.block 1 CG) (ae (ae Cf))):=by rfl
 have eX:CG=.seq (.region 3 C9 false) (ae CG):=by rfl
 rw[eB]
 refine B1 ?_
 cases m with
 |zero=>
  refine AK.gR (cs:=[.code (aA Cf)]) (t:=[.code (.seq (.block 1 CG) (ae (ae Cf))),.back _,.aj 0]) (B:=fun _=>False) (todo:=[.sc AS.q0]) cL (agc L l (C 0) _ (by decide) _)
   (fun R hR=>.sc (by rfl) (by rfl) (.back hR .nil)) (fun _ _ _ _ _ h=>h.elim) ?_
  rintro e yl a3 w3 eM fv ⟨rfl,gJ⟩ cX eW
  obtain⟨v,h1,h2⟩:=ng (P:=Try.prog) (fn:=Try.f151) (xs:=[]) As cX (by rw[AS.rs];rfl)
  have hL:=bU.trans eW
  have hp:=cX.hr
  rw[gJ]at hp
  cases fv with
  |nil=>have:=hp.len;simp at this
  |cons t rest=>
   have tP:=hp.pop
   exact⟨cX.cV.1,v,h1,⟨v,rfl⟩,W2,eM,rest,hI2,gI,tP,hL.cC,by simpa using hL.fu,by simpa using hL.no⟩
 |succ m=>
  obtain⟨xr,hx⟩:∃ x,L[m]?=some x:=⟨_,gG (by omega)⟩
  have ei:(((m+1:Nat):Int) - 1)=(m:Int):=by omega
  rw[ei]at cL
  have hxa:at? L (m:Int)=some xr:=by unfold at?;rw[if_pos (by omega)];simpa using hx
  refine AK.gR (cs:=[.code (aA Cf)]) (t:=[.code (.seq (.block 1 CG) (ae (ae Cf))),.back _,.aj 0]) (Φ:=fun _ _=>False) (todo:=[.sc AS.q0]) cL (af9 L l (C (m+1)) _ (by simp) _)
   (fun R hR=>.sc (by rfl) (by rfl) (.back hR .nil)) ?_ (fun _ _ _ _ _ _ h=>h.elim)
  rintro yl a3 w3 eM fv ru cX eW
  obtain⟨nK,qc,cZ,nO⟩:=ru _ _ _ _ _ _ cX
  refine B1 ?_
  refine CB ?_
  rw[eX]
  refine B1 ?_
  refine FE _ _ _ (FD (is:=[0,1,2,3,4,5]) (js:=[6,7]) _ _ _ ?_)
  refine AK.gR (cs:=[.ops C9 [0,1,2,3,4,5]]) (t:=[.ops C9 [6,7],.code (ae CG),.aj 1,.code (ae (ae Cf)),.back _,.aj 0]) (Φ:=fun _ _=>False) (todo:=[.ops AS.x9]) cZ (agb L l (C (m+1)) _ xr hxa _)
   (fun R hR=>.ops (by rfl) (by decide +kernel) (by decide +kernel) (.back hR .nil)) ?_ (fun _ _ _ _ _ _ h=>h.elim)
  rintro st5 a5 w5 mG nq hw5 jr pq
  obtain⟨sS,ts6,jt,z6⟩:=hw5 _ _ _ _ _ _ jr
  have ac5:=(((bU.trans eW).trans nO).trans pq).trans z6
  obtain⟨v11,h11,r11⟩:=jt.tm 11 (.fn (.yield l) [] []) rfl
  obtain⟨v12,h12,r12⟩:=jt.tm 12 (.int .i64 (m:Int)) rfl
  obtain⟨sf,il,rM⟩:=jt.tm 16 (.agg (Ab.c xr)) rfl
  obtain rfl:v11=.func (.yield l) #[] #[]:=by
   cases r11 with
   |fn f first cap vf vc h1 h2 h3 h4=>
    have e1:vf=#[]:=Array.size_eq_zero_iff.1 (by simpa using h1.symm)
    have e2:vc=#[]:=Array.size_eq_zero_iff.1 (by simpa using h2.symm)
    rw[e1,e2]
  obtain⟨fn,tmps,assign,body,aK,hR⟩:=hY m xr hx _ sS ts6 w5 [v12,sf] W2 hI2 gI jt.hr (by have:=ac5.fu;simpa using this) ⟨rfl,by
   intro i x v hx hv
   match i,hx,hv with
   |0,hx,hv=>cases hx;cases hv;exact r12
   |1,hx,hv=>cases hx;cases hv;exact rM
   |i+2,hx,hv=>simp at hx⟩
  obtain⟨o3,e3,g3,d3⟩:∃ o,C9[6]?=some o/\o.guard=none/\o.op=.call ⟨.value (.tmp 11),#[.tmp 12,.tmp 16],#[3,25]⟩/\o.dst=some 17:=⟨_,rfl,rfl,rfl,rfl⟩
  refine CW e3 g3 ?_
  have w11:a5.eval (.tmp 11)=.func (.yield l) #[] #[]:=by simp[Act.eval,Array.getD_eq_getD_getElem?,h11]
  have w12:a5.eval (.tmp 12)=v12:=by simp[Act.eval,Array.getD_eq_getD_getElem?,h12]
  have w16:a5.eval (.tmp 16)=sf:=by simp[Act.eval,Array.getD_eq_getD_getElem?,il]
  refine ad0 (w':=w5) (l:=l) (fn:=fn) (tmps:=tmps) (assign:=assign) (body:=body) (fun c h=>by rw[d3.1]at h;cases h) ?_ ?_
  ·have tY:(resolve a5.eval ⟨.value (.tmp 11),#[.tmp 12,.tmp 16],#[3,25]⟩ o3.type).run Try.prog w5=.ok { target:=.fn (.yield l) #[],args:=#[v12,sf] } w5:=by
    simp[resolve,w11,w12,w16,Deferred.ofValue]
   simp only[execOp,d3.1,Sem.run_bind,tY,Result.andThen_ok]
   simpa [invoke] using aK
  refine hR.mono ?_
  rintro e w7 ⟨rfl,W3,qQ,r4,hI3,th,hr7,adx,adv,adl⟩
  rw[d3.2]
  have tf:SR N0 W3 Try.f151.ntmps (vJ L l (C m) (m:Int)) (a5.put (some 17) (.bool true)) w7 qQ r4:=by
   refine⟨hr7,?_,fun k hk=>adl 0 k (jt.nx k hk),by rw[pW];exact jt.size,by rw[oB];exact⟨jt.cV.1,fun _ _ h=>by cases h⟩⟩
   intro t x hx
   unfold vJ at hx
   simp only[look]at hx
   split at hx
   ·subst_vars
    obtain rfl:=oi hx
    refine⟨.bool true,?_,.bool true⟩
    simp only[Act.put]
    rw[Array.getElem?_setIfInBounds,if_pos rfl,if_pos (by rw[jt.size,eu];decide)]
   ·rename_i bg
    have eO:look (yS L l (C (m+1)) xr (m:Int)).tm t=some x:=by
     exact uu (α:=AV) (a:=[(0,.fn (.yield l) [] []),(1,.aq 1 [[.sl 8 (List.map Ab.c L)]] 0 0),(3,.int .i64 (m:Int))]) [(11,.fn (.yield l) [] []),(12,.int .i64 (m:Int)),(16,.agg (Ab.c xr))] hx
    obtain⟨u,h1,h2⟩:=jt.tm t x eO
    exact⟨u,by simp only[Act.put];rw[Array.getElem?_setIfInBounds,if_neg bg];exact h1,h2.mono adx.le adv⟩
  refine AK.gR (cs:=[.ops C9 [7],.code (ae CG),.aj 1,.code (ae (ae Cf))]) (t:=[.back _,.aj 0]) (Φ:=fun _ _=>False) (todo:=[.ops AS.qp,.sc AS.z,.aj 1,.sc AS.r3]) tf (agd L l _ _ _)
   (fun R hR=>.ops (by rfl) (by decide +kernel) (by decide +kernel) (.sc (by rfl) (by rfl) (.aj (.sc (by rfl) (by rfl) (.back hR .nil))))) ?_ (fun _ _ _ _ _ _ h=>h.elim)
  rintro st8 a8 w8 fm8 ts8 hw8 hS8 hL8
  obtain⟨fm9,ts9,hS9,hL9⟩:=hw8 _ _ _ _ _ _ hS8
  have s8:AT N0 sS ts6 qQ r4:=⟨adx,adv.drop 1,fun l k h=>by rw[dC]at h ⊢;exact adl _ _ h⟩
  have ew:af ((m:Int) - 1)=(m:Int) - 1:=by show IntKind.i64.wrap _=_;rw[IntKind.wrap_i64];omega
  rw[ew]at hS9
  exact⟨m,Nat.lt_succ_self m,by omega,W3,fm9,ts9,hI3,th,hS9,((ac5.trans s8).trans hL8).trans hL9⟩
theorem k23:Maps.Keyed Try.prog 23:=by
 refine Maps.Keyed.of_law (deep_law_laid (m:=3) (by decide +kernel) (by decide +kernel) (by decide +kernel) (by decide +kernel) (by decide +kernel))
theorem aeG:Try.prog.underlying 216=some (.map 23 4):=by rfl
theorem u4:Try.prog.underlying 4=some .bool:=by rfl
theorem k3:Try.prog.underlying 3=some (.int .i64):=by rfl
theorem kt:Try.prog.keyType 23=true:=by decide +kernel
theorem kc:Try.prog.cellsOf 23=2/\Try.prog.cellsOf 3=1:=by decide +kernel
theorem kl1 (d:Nat) (n:Int) (h:(Lit.int .i64 n).wf=true):Try.prog.keyLits (d+1) 3 [.int .i64 n]=some [.int .i64 n]:=by
 simp only[Program.keyLits,k3]
 rw[if_pos ⟨trivial,h⟩]
theorem kof (p:Int×Int) (h1:(Lit.int .i64 p.1).wf=true) (h2:(Lit.int .i64 p.2).wf=true):∃ kl,keyOf Try.prog 23 (iz p)=some kl:=by
 have hs : ∃ fs, Try.prog.underlying 23 = some (.struct fs) ∧ (fs.toList.map fun f => (f.type, f.offset)) = [(3, 0), (3, 1)] ∧ fs.all (·.name != "_") = true := ⟨_, by rfl, by decide +kernel, by decide +kernel⟩
 obtain⟨fs,hs,hf,hn⟩:=hs
 obtain⟨m,hm⟩:∃ m,Try.prog.types.size=m+1:=⟨Try.prog.types.size - 1,by decide +kernel⟩
 have ahW:(iz p).formed Try.prog 23=true:=by
  simp only[iz,Value.formed,hs,kc.1];rfl
 have hl:∃ ls,Try.prog.keyLits (Try.prog.types.size+1) 23 (iz p).cells.toList=some ls:=by
  rw[hm]
  have hc:(iz p).cells.toList=[.int .i64 p.1,.int .i64 p.2]:=by rfl
  rw[hc]
  obtain⟨f,g,h⟩:∃ f g,fs.toList=[f,g]:=by
   have:=congrArg List.length hf
   simp only[Bh,Ay,AE]at this
   generalize fs.toList=l at this
   rcases l with _|⟨f,_|⟨g,_|⟨x,l⟩⟩⟩<;>simp at this
   exact⟨f,g,rfl⟩
  rw[h]at hf
  simp only[List.map_cons,List.map_nil,List.cons.injEq,Prod.mk.injEq,and_true]at hf
  obtain⟨⟨a1,a2⟩,b1,b2⟩:=hf
  have e1:=kl1 m _ h1
  have e2:=kl1 m _ h2
  rw[show Try.prog.keyLits (m+1+1) 23 [.int .i64 p.1,.int .i64 p.2]=((fs.toList.mapM fun f=>Try.prog.keyLits (m+1) f.type ((([.int .i64 p.1,.int .i64 p.2]:List Value).drop f.offset).take (Try.prog.cellsOf f.type))).map List.flatten) from by
   unfold Program.keyLits
   simp only[hs]
   exact if_pos ⟨by rw[kc.1];rfl,hn⟩]
  rw[h]
  simp[List.mapM_cons,a1,a2,b1,b2,kc.2,e1,e2]
 obtain⟨ls,hl⟩:=hl
 unfold keyOf
 simp only[hs]
 rw[if_pos (by rw[kt,ahW];rfl),hl]
 exact⟨_,rfl⟩
theorem z4 (w:World):(zeroValue 4).run Try.prog w=.ok (.bool false) w:=by
 have hi:∃ i,Try.prog.info? 4=some i/\i.zero=some (.bool false):=⟨_,by rfl,by rfl⟩
 obtain⟨i,hi,hz⟩:=hi
 simp[zeroValue,typeInfo,hi,hz]
def AR.c:SC:=
 SQ [RG [wE 2 46 0 [0],wE 3 3 1 [1],oQ 4 (.assign (.const (.slice none 0 0))) 173 [4]],RG [wF 9 46 2 0,wD 10 44 9 [9],wL 11 10 44 3 [10],oQ 12 (.makeSlice 173 (.tmp 11) (.tmp 11)) 173 [11],wA 5 173,wS 173 5 12 [12]],RG [oQ 13 (.makeMap 216 none) 216,wA 6 216,wS 216 6 13 [13]],SQ [RG [wF 14 46 2 0 [2],wD 15 44 14 [14],wU 16 141 15 44 218 [15]],.block 0 .other],RG [wD 45 173 5 [5],wG 4 45 173 [45]],
 .ret]
theorem AR.rs:Try.f106.results.toList=[.tmp 4]:=rfl
def AR.oa:SC:=
 SQ [RG [wG 7 17 3 [17]],RG [wA 8 25,wS 25 8 18 [18]]]
def AR.b1:SC:=
 .bB [wD 19 173 5,wV 20 7 3,wF 21 25 8 3,wD 22 3 21,wD 23 3 3,wO 24 .leq 3 22 23 3 4,wV 25 24 4,gd 25 true (wD 26 216 6),gd 25 true (wF 27 25 8 0),gd 25 true (wD 28 23 27),gd 25 true (oQ 29 (.lookup 216 (.tmp 26) (.tmp 28) false) 4),gd 25 true (wQ 30 29 4),wZ 31 25 30 4,wI 32 173 19 20,wS 4 32 31] [[],[],[],[2],[],[2,3,4],[2,3,4,5],[2,3,4,5,6],[2,3,4,5,6],[2,3,4,5,6,8],[2,3,4,5,6,7,8,9],[2,3,4,5,
 6,7,8,9,10],[2,3,4,5,6,7,8,9,10,11],[0,1,2,3,4,5,6,7,8,9,10,11,12],[0,1,2,3,4,5,6,7,8,9,10,11,12,13]] [3,19,20,21,22,23,24,25,26,27,28,29,30,31,32]
def AR.b2:SC:=
 RG [wD 33 173 5,wV 34 7 3 [7],wI 35 173 33 34 [33,34],wD 36 4 35 [35],wV 37 36 4 [36],gd 37 true (wF 38 25 8 1),gd 37 true (wD 39 3 38 [38]),gd 37 true (wK 40 .eql 3 39 0 3 4 [39]),wZ 41 37 40 4 [37,40]]
def AR.b3:List Ai:=[wD 42 216 6 [6],
 wF 43 25 8 4 [8],
 wD 44 23 43 [43]]
def AR.o0:SC:=
 AR.c.fst
def AR.o1:SC:=
 AR.c.snd.fst
def AR.o2:List Ai:=AR.c.snd.snd.fst.ro.drop 1

def AR.o3:SC:=
 AR.c.snd.snd.snd.fst.fst
def AR.o9:SC:=
 AR.c.snd.snd.snd.snd
def iG (known:Int) (x:Ab) (i:Nat) (s:List Bool×List (Int×Int)):List Bool×List (Int×Int):=
 let o:=decide (x.AI<=known)&&!decide ((x.At.Ag,x.At.No)∈s.2)
 (s.1.set i o,if o&&decide (x.Kind=0) then (x.Of.Ag,x.Of.No)::s.2 else s.2)
def cS (known:Int) (l:List Ab):Nat->List Bool×List (Int×Int)
 |0=>(List.replicate l.length false,[])
 |d+1=>match l[l.length - 1 - d]? with
  |some x=>iG known x (l.length - 1 - d) (cS known l d)
  |none=>cS known l d
def ql (x:Ab):Bool:=((Lit.int .i64 x.At.Ag).wf&&(Lit.int .i64 x.At.No).wf)&&((Lit.int .i64 x.Of.Ag).wf&&(Lit.int .i64 x.Of.No).wf)
def qG (k:Nat) (b0:Al) (aU:Int):Option (List Bool):=
 if b0.Ac.length<=1000/\b0.Ac.all ql=true then some (cS aU b0.Ac b0.Ac.length).1 else none
theorem ym (known:Int) (l:List Ab):∀ d,(cS known l d).1.length=l.length/\(cS known l d).2.length<=d
 |0=>by simp[cS]
 |d+1=>by
  have ih:=ym known l d
  simp only[cS]
  split
  ·refine⟨by simp[iG,ih.1],?_⟩
   simp only[iG]
   split
   ·simp only[Ay];omega
   ·omega
  ·exact⟨ih.1,by omega⟩
noncomputable def fK (r:Nat) (known:Int) (out:List Bool):Aj:=[(0,.box [.int .i64 known]),(1,.arr 4 1 (List.map eB out)),(2,.box [.loc 0 1 1 0 out.length out.length]),(3,.box [.mp (some r)])]
noncomputable def uV (r:Nat) (known:Int) (out:List Bool) (x:Ab) (m:Int) (f:Aj):St:=⟨[(3,.ptr 2 0 0),(5,.ptr 2 2 0),(6,.ptr 2 3 0),(17,.int .i64 m),(18,.agg (Ab.c x))],[],[f,fK r known out],0,Try.f106.ntmps⟩
noncomputable def oH (r:Nat) (known:Int) (out:List Bool) (x:Ab) (m:Int) (f:Aj):St:=⟨[(3,.ptr 2 0 0),(5,.ptr 2 2 0),(6,.ptr 2 3 0),(7,.int .i64 m),(8,.ptr 0 0 0)],[(0,.box (Ab.c x))],[f,fK r known out],1,Try.f106.ntmps⟩
noncomputable def rW (r:Nat) (known:Int) (out:List Bool) (x:Ab) (c:Bool) (f:Aj):St:=⟨[(6,.ptr 2 3 0),(8,.ptr 0 0 0),(41,.bool c)],[(0,.box (Ab.c x))],[f,fK r known out],1,Try.f106.ntmps⟩
noncomputable def stU (r:Nat) (known:Int) (out:List Bool) (x:Ab) (f:Aj):St:=⟨[(42,.mp (some r)),(44,.agg [.int .i64 x.Of.Ag,.int .i64 x.Of.No])],[],[f,fK r known out],0,Try.f106.ntmps⟩
noncomputable def yn (b:Al) (known:Int):St:=⟨[(2,.ptr 0 0 0),(3,.ptr 0 1 0),(5,.ptr 0 3 0)],[(0,.box (Al.c b)),(1,.box [.int .i64 known]),(2,.arr 4 1 (List.map eB (List.replicate b.Ac.length false))),(3,.box [.loc 0 2 1 0 b.Ac.length b.Ac.length])],[],4,Try.f106.ntmps⟩
noncomputable def stM (b:Al) (known:Int) (r:Nat):St:=⟨(13,.mp (some r))::[(2,.ptr 0 0 0),(3,.ptr 0 1 0),(5,.ptr 0 3 0)],[(0,.box (Al.c b)),(1,.box [.int .i64 known]),(2,.arr 4 1 (List.map eB (List.replicate b.Ac.length false))),(3,.box [.loc 0 2 1 0 b.Ac.length b.Ac.length])],[],4,Try.f106.ntmps⟩
noncomputable def stL (b:Al) (known:Int) (r:Nat):St:=⟨[(3,.ptr 0 0 0),(5,.ptr 0 2 0),(6,.ptr 0 3 0),(16,kH b.Ac)],fK r known (List.replicate b.Ac.length false),[],4,Try.f106.ntmps⟩
noncomputable def yo (known:Int) (r:Nat) (out:List Bool):St:=⟨[(3,.ptr 0 0 0),(5,.ptr 0 2 0),(6,.ptr 0 3 0)],fK r known out,[],4,Try.f106.ntmps⟩
theorem akc (b:Al) (hn:b.Ac.length<=1000) (known:Int) (Φ:Exit->St->Prop):
  AK Try.prog Try.f106.ntmps Φ [.sc AR.o0,.sc AR.o1,.back (fun st=>Ae Try.f106.ntmps st (yn b known))] (St.enter [.agg (Al.c b),.int .i64 known] [] Try.f106.ntmps):=by
 have hmk:mk? (b.Ac.length:Int) 1=some ():=by unfold mk?;rw[if_pos ⟨⟨by omega,by omega⟩,by omega,by omega⟩]
 refine rS ?_
 simp only[AR.o0,AR.o1,AR.c,SC.fst,SC.snd,aaJ hmk,go_sem]
 refine Aq ?_
 refine Ae.go [2,3,5] [0,16,96,112] rfl ?_
 simp only[yn,go_sem]
theorem akd (b:Al) (known:Int) (r:Nat) (Φ:Exit->St->Prop):
  AK Try.prog Try.f106.ntmps Φ [.ops AR.o2,.sc AR.o3,.back (fun st=>Ae Try.f106.ntmps st (stL b known r))] (stM b known r):=by
 refine rS ?_
 simp only[stM,AR.o2,AR.o3,AR.c,SC.fst,SC.snd,SC.ro,List.drop_succ_cons,List.drop_zero,go_sem]
 refine gA (ajY b.Ac) ?_ ?_
 ·simp only[go_sem]
 simp only[kH,go_sem]
 refine Aq ?_
 refine Ae.go [3,5,6,16] [1,2,3,4] rfl ?_
 simp only[stL,fK,kH,go_sem]
theorem F5 [Md] {P:Program}{T:Aw}{C:List (De×Rd)->St->Prop}{t r:Nat}{kv y:AV}{o:Ai}{os:List Ai}{acc:List (De×Rd)}{st:St}{ob:Obj} (hm:Md.ou r=some ob) (hl:DH P t ob r kv y)
  (h:DG P T C (gQ T 1000 os ((⟨y,[]⟩,some [])::acc) (st.by o.dst [] ⟨y,[]⟩))):DG P T C (.look t r kv o os acc st):=⟨ob,y,hm,hl,xY 1000 _ _ _ h⟩
theorem aka [Md] (r:Nat) (known:Int) (out:List Bool) (x:Ab) (m:Int) (f:Aj) (Φ:Exit->St->Prop):
  AK Try.prog Try.f106.ntmps Φ [.sc AR.oa,.back (fun st=>Ae Try.f106.ntmps st (oH r known out x m f))] (uV r known out x m f):=by
 refine rS ?_
 simp only[AR.oa,uV,fK,go_sem]
 show Ae Try.f106.ntmps _ (oH r known out x m f)
 refine Ae.go [3,5,6,7,8] [16] rfl ?_
 simp only[oH,fK,go_sem]
theorem ake [Md] (r:Nat) (known:Int) (out aaP:List Bool) (x:Ab) (m:Int) (f:Aj) (ob:Obj) (g o:Bool) (hm:Md.ou r=some ob) (hl:DH Try.prog 216 ob r (.agg [.int .i64 x.At.Ag,.int .i64 x.At.No]) (.bool g))
  (ho:o=(decide (x.AI<=known)&&!g)) (h1:fZ out m o=some aaP) (h2:at? aaP m=some o) (Φ:Exit->St->Prop):
  AK Try.prog Try.f106.ntmps Φ [.sc AR.b1,.sc AR.b2,.back (fun st=>Ae Try.f106.ntmps st (rW r known aaP x (o&&decide (x.Kind=0)) f))] (oH r known out x m f):=by
 have e1:=p4 eB h1
 try simp only[go_sem]at e1
 obtain⟨z,hz⟩:∃ z,at? out m=some z:=by
  unfold fZ at h1
  split at h1
  ·rename_i hc;exact⟨out[m.toNat]'(by omega),by unfold at?;rw[if_pos hc];exact gG _⟩
  ·cases h1
 have h3:fG m out.length=some m.toNat:=by rw[<-ni h1];exact aG h2
 have F:=an e1 (an (ni h1) (an (p7 eB h1) (an h3 (an (aF eB h2) (aF eB hz)))))
 refine rS ?_
 simp only[AR.b1,AR.b2,oH,fK,F,go_sem]
 refine A1 As bY 1000 ?_
 simp only[F,go_sem]
 cases hk:decide (x.AI<=known) with
 |false=>
  rw[hk,Bool.false_and]at ho
  subst ho
  simp only[hk,F,go_sem]
  refine Eb ?_
  refine⟨ze (by simp only[jM,List.reverse_cons,List.reverse_nil,BV,A8,List.map_cons,List.map_nil,List.append_nil];rfl) (by first|decide +kernel|rfl),eQ As 1000 _ _ ?_⟩
  simp only[hk,F,go_sem]
  show Ae Try.f106.ntmps _ _
  refine Ae.go [6,8,41] [0] rfl ?_
  simp only[rW,fK,F,go_sem]
 |true=>
  rw[hk,Bb]at ho
  simp only[hk,F,ux,aaE,go_sem]
  refine F5 hm hl ?_
  simp only[hk,F,<-ho,go_sem]
  refine Eb ?_
  refine⟨ze (by simp only[jM,List.reverse_cons,List.reverse_nil,BV,A8,List.map_cons,List.map_nil,List.append_nil];rfl) (by first|decide +kernel|rfl),eQ As 1000 _ _ ?_⟩
  simp only[hk,F,<-ho,go_sem]
  cases o with
  |false=>
   simp only[F,go_sem]
   show Ae Try.f106.ntmps _ _
   refine Ae.go [6,8,41] [0] rfl ?_
   simp only[rW,fK,F,go_sem]
  |true=>
   simp only[F,go_sem]
   show Ae Try.f106.ntmps _ _
   refine Ae.go [6,8,41] [0] rfl ?_
   simp only[rW,fK,F,go_sem]
theorem akg [Md] (r:Nat) (known:Int) (out:List Bool) (x:Ab) (f:Aj) (Φ:Exit->St->Prop):
  AK Try.prog Try.f106.ntmps Φ [.ops AR.b3,.back (fun st=>Ae Try.f106.ntmps st (stU r known out x f))] (rW r known out x true f):=by
 refine rS ?_
 simp only[AR.b3,rW,fK,go_sem]
 show Ae Try.f106.ntmps _ _
 refine Ae.go [42,44] [] rfl ?_
 simp only[stU,fK,go_sem]
theorem akf [Md] (r:Nat) (known:Int) (out:List Bool):AK Try.prog Try.f106.ntmps (fun e st=>e=.ret/\Cv T Try.f106.results.toList (fun y=>NL y (.sl 1 (List.map eB out))) .ret st) [.sc AR.o9] (yo known r out):=by
 refine rS ?_
 simp only[AR.o9,AR.c,yo,fK,SC.snd,go_sem]
 refine⟨rfl,Ad (P:=Try.prog) (n:=Try.f106.ntmps) rfl ?_⟩
 simp only[AR.rs,go_sem]
theorem BH.move {P:Program}{k e:TypeId}{w w':World}{r n:Nat}{L:List (Int×Int)} (h:BH P k e w r n L) (hw:w'.heap[r]?=w.heap[r]?):BH P k e w' r n L:=by
 obtain⟨D,⟨es,clock,hb,F,hs,rfl⟩,h2⟩:=h
 exact⟨_,⟨es,clock,hw.trans hb,F,hs,rfl⟩,h2⟩
theorem BH.obj {P:Program}{k e:TypeId}{w:World}{r n:Nat}{L:List (Int×Int)} (h:BH P k e w r n L):∃ ob,w.heap[r]?=some ob/\m9 ob=true:=by
 obtain⟨D,⟨es,clock,hb,F,hs,rfl⟩,h2⟩:=h
 exact⟨_,hb,rfl⟩
theorem adz {fm:FM}{ts:List Ah}{p:Int×Int}{v:Value} (hv:VR fm ts (.agg [.int .i64 p.1,.int .i64 p.2]) v):v=iz p:=by
 cases hv with
 |agg cs vs h1 h2 h3=>
  obtain⟨l,rfl⟩:∃ l,vs=l.toArray:=⟨vs.toList,by simp⟩
  match l,h1,h3 with
  |[a,b],h1,h3=>
   have ha:=h3 0 _ a rfl rfl
   have hb:=h3 1 _ b rfl rfl
   cases ha
   cases hb
   rfl
theorem look_ok {w1:World}{r n:Nat}{L:List (Int×Int)}{ob:Obj} (hG:BH Try.prog 23 4 w1 r n L) (j9:w1.heap[r]?=some ob) (p:Int×Int) (h1:(Lit.int .i64 p.1).wf=true) (h2:(Lit.int .i64 p.2).wf=true):
  DH Try.prog 216 ob r (.agg [.int .i64 p.1,.int .i64 p.2]) (.bool (decide (p∈L))):=by
 intro fm ts v w hv hw
 obtain rfl:=adz hv
 obtain⟨kl,hk⟩:=kof p h1 h2
 exact⟨_,(hG.move (hw.trans j9.symm)).look k23 aeG u4 (z4 w) p hk,.bool _⟩
noncomputable def Bi:Code:=Try.f106.body.getD .skip
noncomputable def Bv:Code:=gC (ae (aA (ae (ae (ae Bi)))))
noncomputable def jN (a:Act) (D:Nat) (fn:FuncId) (s:LoopState) (p:Option Code):Loop:={ state:=s,pending:=p,fn,tmps:=a.tmps,params:=#[17,18],assign:=lu Bv,body:=fx Bv,defers:=D }
noncomputable def Dd:Code:=ae (ae (gC (fx Bv)))
noncomputable def DQ:Array Oper:=match Dd with
 |.cond _ x _=>mB x
 |_=>#[]
theorem aj9 [Md] {Q:Exit->Act->World->Prop}{N0:Nat}{W1:World}{fm:FM}{ts:List Ah}{a:Act}{w:World}{r:Nat}{known:Int}{out:List Bool}{x:Ab}{m:Int}{f:Aj} (hS:SR N0 W1 Try.f106.ntmps (uV r known out x m f) a w fm ts)
  (hn:∀ a' w' fm' ts',SR N0 W1 Try.f106.ntmps (oH r known out x m f) a' w' fm' ts'->AT N0 fm ts fm' ts'->Q .normal a' w'):(lu Bv).wpIn FW 0 Try.prog Q a w:=by
 refine(show K Try.prog Q ([.code (lu Bv)]++[]) .normal a w from ?_)
 refine AK.gR (Φ:=fun _ _=>False) (todo:=[.sc AR.oa]) hS (aka r known out x m f _) (fun R hR=>.sc (by rfl) (by rfl) (.back hR .nil)) ?_ (fun _ _ _ _ _ _ h=>h.elim)
 intro al a' w' fm' ts' hw bZ hL
 obtain⟨dw,cE,h1,h2⟩:=hw _ _ _ _ _ _ bZ
 exact hn _ _ _ _ h1 (hL.trans h2)
theorem akb [Md] {l D r:Nat}{ob:Obj}{Q:Exit->Act->World->Prop}{N0:Nat}{W1:World}{fm:FM}{ts:List Ah}{a:Act}{w:World}{known:Int}{out:List Bool}{L:List (Int×Int)}{x:Ab}{m:Nat}{f:Aj}
  (hmd:Md.ou r=some ob) (hS:SR N0 W1 Try.f106.ntmps (oH r known out x m f) a w fm ts) (hG:BH Try.prog 23 4 W1 r L.length L) (hlen:L.length<maxLen) (j9:W1.heap[r]?=some ob) (lM:m9 ob=true) (wy:N0<=r) (hm:m<out.length) (pI:ql x=true)
  (lo:Obj) (hl:W1.heap[l]?=some lo) (er:m9 lo=true) (sM:Obj) (hD:W1.heap[D]?=some sM) (rf:m9 sM=true) (n6:l≠r) (hrD:D≠r)
  (hn:∀ a' w' fm' ts' W',W'.heap[l]?=some lo->W'.heap[D]?=some sM->BH Try.prog 23 4 W' r (iG known x m (out,L)).2.length (iG known x m (out,L)).2->Below N0 W1 W'->(∃ fr,HR N0 W' fm' ts' [fr,f,fK r known (iG known x m (out,L)).1] w')->w'.heap[l]?=some lo->w'.heap[D]?=some sM->AT N0 fm ts fm' ts'->Q .normal a' w'):
  (fx Bv).wpIn FW 0 Try.prog Q a w:=by
 unfold ql at pI
 simp only[AP]at pI
 obtain⟨⟨wa1,wa2⟩,wo1,wo2⟩:=pI
 obtain⟨o,ho⟩:∃ o,o=(decide (x.AI<=known)&&!decide ((x.At.Ag,x.At.No)∈L)):=⟨_,rfl⟩
 have jB:fZ out (m:Int) o=some (out.set m o):=by unfold fZ;rw[if_pos ⟨by omega,by omega⟩];simp
 have jw:at? (out.set m o) (m:Int)=some o:=by unfold at?;rw[if_pos ⟨by omega,by simp;omega⟩];simp[hm]
 have cw:iG known x m (out,L)=(out.set m o,if o&&decide (x.Kind=0) then (x.Of.Ag,x.Of.No)::L else L):=by simp only[iG,<-ho]
 have eB:fx Bv=.block 1 (gC (fx Bv)):=by rfl
 have eX:gC (fx Bv)=.seq (aA (gC (fx Bv))) (.seq (aA (ae (gC (fx Bv)))) Dd):=by rfl
 have eE:Dd=.cond (.tmp 41) (.region 8 DQ false) .skip:=by rfl
 refine(show K Try.prog Q [.code (fx Bv)] .normal a w from ?_)
 rw[eB]
 refine CB ?_
 rw[eX]
 refine B1 ?_
 refine BW (t:=[.code (aA (ae (gC (fx Bv)))),.code Dd,.aj 1]) (fun e a w h=>BP _ _ _ h) _ _ _ ?_
 refine AK.gR (Φ:=fun _ _=>False) (todo:=[.sc AR.b1,.sc AR.b2]) (cs:=[.code (aA (gC (fx Bv))),.code (aA (ae (gC (fx Bv))))]) (t:=[.code Dd,.aj 1]) hS
  (ake r known out _ x m f ob _ o hmd (look_ok hG j9 (x.At.Ag,x.At.No) wa1 wa2) ho jB jw _)
  (fun R hR=>.sc (by rfl) (by rfl) (.sc (by rfl) (by rfl) (.back hR .nil))) ?_ (fun _ _ _ _ _ _ h=>h.elim)
 rintro oG a2 w2 dw cE uh cL bU
 obtain⟨eM,fv,cX,eW⟩:=uh _ _ _ _ _ _ cL
 obtain⟨v41,wq,r41⟩:=cX.tm 41 (.bool (o&&decide (x.Kind=0))) rfl
 cases r41
 have w41:a2.eval (.tmp 41)=.bool (o&&decide (x.Kind=0)):=by simp[Act.eval,Array.getD_eq_getD_getElem?,wq]
 rw[eE]
 refine FB w41 ?_
 have iT:=cX.hr.bj _ _ hl er
 have sZ:=cX.hr.bj _ _ hD rf
 cases hc:(o&&decide (x.Kind=0)) with
 |false=>
  rw[hc]at cw
  refine FF ?_
  refine(show Q .normal a2 w2 from ?_)
  refine hn a2 w2 eM fv W1 hl hD ?_ (Below.refl _ _) ?_ iT sZ (bU.trans eW)
  ·rw[cw];exact hG
  ·rw[cw];exact⟨_,cX.hr⟩
 |true=>
  rw[hc]at cw cX
  refine DD ?_
  refine FC (t:=[.aj 1]) (is:=[0,1,2]) (js:=[3]) ?_
  refine AK.gR (Φ:=fun _ _=>False) (todo:=[.ops AR.b3]) (cs:=[.ops DQ [0,1,2]]) (t:=[.ops DQ [3],.aj 1]) cX
   (akg r known _ x f _) (fun R hR=>.ops (by rfl) (by decide +kernel) (by decide +kernel) (.back hR .nil)) ?_ (fun _ _ _ _ _ _ h=>h.elim)
  rintro st4 a4 w4 nK qc hw4 cZ nO
  obtain⟨mG,nq,jr,pq⟩:=hw4 _ _ _ _ _ _ cZ
  obtain⟨v42,h42,r42⟩:=jr.tm 42 (.mp (some r)) rfl
  obtain⟨v44,h44,r44⟩:=jr.tm 44 (.agg [.int .i64 x.Of.Ag,.int .i64 x.Of.No]) rfl
  cases r42
  obtain rfl:=adz (p:=(x.Of.Ag,x.Of.No)) r44
  have aam:=jr.hr.bj _ _ j9 lM
  obtain⟨kl,hk⟩:=kof (x.Of.Ag,x.Of.No) wo1 wo2
  obtain⟨es',jg,aK,wv⟩:=(hG.move (aam.trans j9.symm)).put k23 aeG u4 hlen (x.Of.Ag,x.Of.No) hk
  obtain⟨o3,e3,g3,d3⟩:∃ o,DQ[3]?=some o/\o.guard=none/\o.op=.mapUpdate 216 (.tmp 42) (.tmp 44) (.const (.bool true))/\o.dst=none:=⟨_,rfl,rfl,rfl,rfl⟩
  have w42:a4.eval (.tmp 42)=.map (some r):=by simp[Act.eval,Array.getD_eq_getD_getElem?,h42]
  have w44:a4.eval (.tmp 44)=iz (x.Of.Ag,x.Of.No):=by simp[Act.eval,Array.getD_eq_getD_getElem?,h44]
  refine CW e3 g3 ?_
  refine aaO (fun c h=>by rw[d3.1]at h;cases h) (w':=w4.putObj r (.map es' jg)) ?_ ?_
  ·simp only[execOp,d3.1,Sem.run_bind,w42,w44]
   have:=aK
   simp[Act.eval,ChangeMaps.setBlock]at this ⊢
   rw[this];rfl
  refine(show Q .normal (a4.put o3.dst undef) (w4.putObj r (.map es' jg)) from ?_)
  have tX:=jr.hr.other (o':=.map es' jg) aam lM wy
  have wR:Below N0 W1 (w4.putObj r (.map es' jg)):=jr.hr.bJ.trans (mq wy aam)
  have hl6:(w4.putObj r (.map es' jg)).heap[l]?=some lo:=by rw[World.putObj_heap_other (by omega)];exact jr.hr.bj _ _ hl er
  have s6:(w4.putObj r (.map es' jg)).heap[D]?=some sM:=by rw[World.putObj_heap_other (by omega)];exact jr.hr.bj _ _ hD rf
  refine hn _ _ mG nq (w4.putObj r (.map es' jg)) hl6 s6 ?_ wR ?_ hl6 s6 (((bU.trans eW).trans nO).trans pq)
  ·rw[cw];exact wv
  ·rw[cw];exact⟨_,tX⟩
theorem aj8 (known:Int) (l:List Ab) (m:Nat) (x:Ab) (h:l[m]?=some x):cS known l (l.length - m)=iG known x m (cS known l (l.length - (m+1))):=by
 have hm:=(gS.1 h).1
 have e:l.length - m=(l.length - (m+1))+1:=by omega
 have e2:l.length - 1 - (l.length - (m+1))=m:=by omega
 rw[e]
 simp only[cS,e2,h]
noncomputable def qa (r:Nat) (known:Int) (l:List Ab) (m:Nat):Aj:=fK r known (cS known l (l.length - m)).1
noncomputable def stI (r l D:Nat) (rec:Loop) (known:Int) (L:List Ab) (m:Nat) (W:World):Prop:=
 W.heap[l]?=some (.loop rec)/\W.heap[D]?=some (.deferred (some []))/\BH Try.prog 23 4 W r (cS known L (L.length - m)).2.length (cS known L (L.length - m)).2
theorem akh (known:Int) (L:List Ab) (pI:L.all ql=true) (fy:L.length<=maxLen) {N0:Nat}{W1:World}{r l D:Nat}{fn:FuncId}{tc:Ah}{a:Act}{c3 c5 c6:Nat} (hN:N0<=l) (wy:N0<=r) (n6:l≠r) (hrD:D≠r) (hlD:D≠l)
  (ao:a.tmps.size=Try.f106.ntmps) (t3:tc 0=some (.box c3)) (t5:tc 2=some (.box c5)) (t6:tc 3=some (.box c6))
  (a3:a.tmps[3]?=some (.pointer (some ⟨c3,0,none⟩))) (a5:a.tmps[5]?=some (.pointer (some ⟨c5,0,none⟩))) (a6:a.tmps[6]?=some (.pointer (some ⟨c6,0,none⟩))):
  YB N0 W1 l tc (qa r known L) (stI r l D (jN a D fn .ready none) known L) L:=by
 intro m x hx f fm ts w vs W2 hI gI hr e8 aM
 obtain⟨hl,hD,hG⟩:=hI
 have cw:=aj8 known L m x hx
 have hm:=(gS.1 hx).1
 obtain⟨s,hs⟩:∃ s,s=cS known L (L.length - (m+1)):=⟨_,rfl⟩
 have hlen:=ym known L (L.length - (m+1))
 unfold qa at hr
 rw[<-hs]at hr hG cw hlen
 obtain⟨ob,j9,lM⟩:=hG.obj
 have hwx:ql x=true:=List.all_eq_true.1 pI x (Ba hx)
 have hlw:=hr.bj l _ hl rfl
 have eu:Try.f106.ntmps=46:=by rfl
 obtain⟨v0,v1,rfl⟩:∃ v0 v1,vs=[v0,v1]:=by
  have:=aM.1
  match vs,this with
  |[v0,v1],_=>exact⟨v0,v1,rfl⟩
 have hy:=run_yield (P:=Try.prog) (args:=#[v0,v1]) hlw (by rfl)
 refine⟨_,_,_,_,hy,?_⟩
 have tie:∀ k c,tc k=some (.box c)->tb ts 1 k=some (.box c):=fun k c hk=>by
  have h1:=e8 0 k
  have h2:tb (ts.drop 1) 0 k=some (.box c):=h1.box hk
  rw[dC]at h2
  exact h2
 have hmp:∀ W:World,W.heap[r]?=some ob->@Cu ⟨some l,[],fun b=>if b=r then some ob else none⟩ W:=by
  intro W hW b o h
  simp only[Md.ou]at h
  split at h
  ·subst_vars;cases h;exact⟨hW,lM⟩
  ·cases h
 have hSS:@SR ⟨some l,[],fun b=>if b=r then some ob else none⟩ N0 W2 Try.f106.ntmps (uV r known s.1 x m f) { tmps:=(a.tmps.setIfInBounds 17 v0).setIfInBounds 18 v1,defers:=[] } w fm (cj::ts):=by
  refine @SR.mk ⟨some l,[],fun b=>if b=r then some ob else none⟩ _ _ _ _ _ _ _ _ hr.push ?_ (fun _ _=>rfl) (by simp[ao]) ⟨rfl,hmp W2 j9⟩
  intro t y hy
  unfold uV at hy
  simp only[look]at hy
  split at hy
  ·subst_vars
   obtain rfl:=oi hy
   exact⟨_,by rw[Array.getElem?_setIfInBounds,if_neg (by decide),Array.getElem?_setIfInBounds,if_neg (by decide)];exact a3,.ptr 2 0 0 c3 (tie 0 c3 t3)⟩
  ·split at hy
   ·subst_vars
    obtain rfl:=oi hy
    exact⟨_,by rw[Array.getElem?_setIfInBounds,if_neg (by decide),Array.getElem?_setIfInBounds,if_neg (by decide)];exact a5,.ptr 2 2 0 c5 (tie 2 c5 t5)⟩
   ·split at hy
    ·subst_vars
     obtain rfl:=oi hy
     exact⟨_,by rw[Array.getElem?_setIfInBounds,if_neg (by decide),Array.getElem?_setIfInBounds,if_neg (by decide)];exact a6,.ptr 2 3 0 c6 (tie 3 c6 t6)⟩
    ·split at hy
     ·subst_vars
      obtain rfl:=oi hy
      refine⟨v0,by rw[Array.getElem?_setIfInBounds,if_neg (by decide),Array.getElem?_setIfInBounds,if_pos rfl,if_pos (by rw[ao,eu];decide)],?_⟩
      have:=aM.2 0 _ v0 rfl rfl
      exact this.leaf rfl
     ·split at hy
      ·subst_vars
       obtain rfl:=oi hy
       refine⟨v1,by rw[Array.getElem?_setIfInBounds,if_pos rfl,if_pos (by rw[Array.size_setIfInBounds,ao,eu];decide)],?_⟩
       have:=aM.2 1 _ v1 rfl rfl
       exact this.cJ rfl
      ·cases hy
 refine roundIn_of_wpIn trivial ?_
 have aai:(((jN a D fn .ready none).params.zip #[v0,v1]).foldl (fun tmps (x:Tmp×Value)=>match x with|(t,a)=>tmps.setIfInBounds t a) (jN a D fn .ready none).tmps)=(a.tmps.setIfInBounds 17 v0).setIfInBounds 18 v1:=by
  simp[jN]
 rw[aai]
 refine @aj9 ⟨some l,[],fun b=>if b=r then some ob else none⟩ _ _ _ _ _ _ _ r known s.1 x m f hSS ?_
 intro a1 w1 dv cn bE wx
 obtain⟨g1,g2,g3,g4,g5⟩:=bE
 have eY:=g1.bj l _ hl rfl
 have hD1:=g1.bj D _ hD rfl
 have ah8:=g1.bj r _ j9 lM
 refine⟨_,run_beginRound eY rfl,?_⟩
 obtain⟨lo,er⟩:∃ lo:Loop,lo={ jN a D fn .ready none with state:=.busy }:=⟨_,rfl⟩
 have ab:=(BY.1 eY).1
 rw[<-er]
 have aan:(w1.putObj l (.loop lo)).heap[r]?=some ob:=by rw[World.putObj_heap_other (by omega)];exact ah8
 have hDB:(w1.putObj l (.loop lo)).heap[D]?=some (.deferred (some [])):=by rw[World.putObj_heap_other (by omega)];exact hD1
 have hlB:(w1.putObj l (.loop lo)).heap[l]?=some (.loop lo):=World.putObj_heap_same ab
 have aaa:@SR ⟨some l,[],fun b=>if b=r then some ob else none⟩ N0 (w1.putObj l (.loop lo)) Try.f106.ntmps (oH r known s.1 x m f) a1 (w1.putObj l (.loop lo)) dv cn:=
  @SR.mk ⟨some l,[],fun b=>if b=r then some ob else none⟩ _ _ _ _ _ _ _ _ (g1.other eY rfl hN) g2 g3 g4 ⟨g5.1,hmp _ aan⟩
 refine @akb ⟨some l,[],fun b=>if b=r then some ob else none⟩ l D r ob _ N0 _ _ _ _ _ known s.1 s.2 x m f (by simp[Md.ou]) aaa (hG.move (aan.trans j9.symm)) (by omega) aan lM wy (by omega) hwx _ hlB rfl _ hDB rfl n6 hrD ?_
 intro a2 w2 dw cE W' rm hD' wv cg ⟨fr,gK⟩ xm ahy bU
 have pC:=(BY.1 xm).1
 have s7:BH Try.prog 23 4 w2 r (iG known x m s).2.length (iG known x m s).2:=by
  obtain⟨ob',h1,h2⟩:=wv.obj
  exact wv.move ((gK.bj _ _ h1 h2).trans h1.symm)
 have n4:{ lo with state:=.ready,pending:=none }=jN a D fn .ready none:=by rw[er];rfl
 have k6:=gK.other (o':=.loop { lo with state:=.ready,pending:=none }) xm rfl hN
 refine⟨_,_,run_endRound none xm,rfl,w2.putObj l (.loop { lo with state:=.ready,pending:=none }),dw,cE.drop 1,⟨?_,?_,?_⟩,?_,?_,⟨?_,?_⟩,?_,?_⟩
 ·rw[World.putObj_heap_same pC,n4]
 ·rw[World.putObj_heap_other (by omega)];exact ahy
 ·rw[cw]
  exact s7.move (World.putObj_heap_other (by omega))
 ·exact((((gI.trans g1.bJ).trans (mq hN eY)).trans cg).trans gK.bJ).trans (mq hN xm)
 ·cases cE with
  |nil=>have:=k6.len;simp at this
  |cons t0 rest=>
   have k7:=k6.pop
   unfold qa
   rw[cw]
   exact k7
 ·exact wx.cC.le.trans bU.cC.le
 ·exact(wx.cC.trans bU.cC).fix
 ·have h:=wx.fu.trans bU.fu
  simpa using h
 ·intro l' k' h
  exact bU.no l' k' (wx.no l' k' (by simpa using h))
theorem abU (k:Nat) (b0:Al) (aU:Int) (r:List Bool) (h0:qG k b0 aU=some r):An Try.prog 106 [.agg (Al.c b0),.int .i64 aU] (fun y=>y=.sl 1 (List.map eB r)):=by
 unfold qG at h0
 split at h0
 rotate_left
 ·cases h0
 rename_i aae
 obtain⟨hn,pI⟩:=aae
 obtain rfl:=oi h0
 refine⟨⟨Try.f106,by rfl,by rfl,by rfl⟩,fun fm w vs bl hv=>?_⟩
 have eu:Try.f106.ntmps=46:=by rfl
 refine callsIn_wide.1 (callsIn_of_wp_marks (F:=FW) (n:=0) (fn:=Try.f106) (c:=Bi) (by rfl) (by rfl) trivial ?_)
 have hS:=SR.enter (HR.nothing bl) (vs:=vs) (args:=[.agg (Al.c b0),.int .i64 aU]) (n:=Try.f106.ntmps) ⟨hv.1,fun i x v p q=>(hv.2 i x v p q).mono (AM.refl _) (Ak.nil _)⟩ (by rw[eu];simp)
 have ahb:Bi=.seq (aA Bi) (.seq (aA (ae Bi)) (.seq (.region 2 (mB (aA (ae (ae Bi)))) false) (.seq (.seq (aA (aA (ae (ae (ae Bi))))) (.block 0 Bv)) (ae (ae (ae (ae Bi))))))):=by rfl
 refine(show K Try.prog _ [.code Bi] .normal _ w from ?_)
 rw[ahb]
 refine B1 ?_
 refine BW (t:=[.code (aA (ae Bi)),.code (.seq (.region 2 (mB (aA (ae (ae Bi)))) false) (.seq (.seq (aA (aA (ae (ae (ae Bi))))) (.block 0 Bv)) (ae (ae (ae (ae Bi))))))]) (fun e a w h=>BP _ _ _ h) _ _ _ ?_
 refine AK.gR (cs:=[.code (aA Bi),.code (aA (ae Bi))]) (t:=[.code (.seq (.region 2 (mB (aA (ae (ae Bi)))) false) (.seq (.seq (aA (aA (ae (ae (ae Bi))))) (.block 0 Bv)) (ae (ae (ae (ae Bi))))))]) (Φ:=fun _ _=>False) (todo:=[.sc AR.o0,.sc AR.o1]) hS (akc b0 hn aU _)
  (fun R hR=>.sc (by rfl) (by rfl) (.sc (by rfl) (by rfl) (.back hR .nil))) ?_ (fun _ _ _ _ _ _ h=>h.elim)
 rintro p8 a0 w0 zJ ec lV pr po
 obtain⟨dv,cn,bE,fy⟩:=lV _ _ _ _ _ _ pr
 have zZ:=po.trans fy
 refine B1 ?_
 refine BW (t:=[.code (aA (aA (ae (ae (ae Bi))))),.code (.block 0 Bv),.code (ae (ae (ae (ae Bi))))]) (fun e a w h=>BP _ _ _ (BP _ _ _ h)) _ _ _ ?_
 refine DD ?_
 refine(show K Try.prog _ (.ops (mB (aA (ae (ae Bi)))) (0::[1,2])::_) .normal _ _ from ?_)
 obtain⟨o3,e3,g3,d3⟩:∃ o,(mB (aA (ae (ae Bi))))[0]?=some o/\o.guard=none/\o.op=.makeMap 216 none/\o.dst=some 13:=⟨_,rfl,rfl,rfl,rfl⟩
 refine CW e3 g3 ?_
 have aK:(execOp a0.eval o3).run Try.prog w0=.ok (.value (.map (some w0.heap.size))) (w0.alloc (.map #[] 0)):=by
  simp only[execOp,d3.1,Sem.run_bind]
  rfl
 refine rJ (fun c h=>by rw[d3.1]at h;cases h) aK ?_
 rw[d3.2]
 obtain⟨rr,hrr⟩:∃ rr,rr=w0.heap.size:=⟨_,rfl⟩
 rw[<-hrr]
 have gK:HR w.heap.size (w0.alloc (.map #[] 0)) dv cn ((yn b0 aU).fr::(yn b0 aU).low) (w0.alloc (.map #[] 0)):=(bE.hr.alloc _).aaY
 have cL:SR w.heap.size (w0.alloc (.map #[] 0)) Try.f106.ntmps (stM b0 aU rr) (a0.put (some 13) (.map (some rr))) (w0.alloc (.map #[] 0)) dv cn:=by
  refine⟨gK,?_,bE.nx,by rw[pW];exact bE.size,by rw[oB];exact⟨bE.cV.1,fun _ _ h=>by cases h⟩⟩
  intro t x hx
  unfold stM at hx
  simp only[look]at hx
  split at hx
  ·subst_vars
   obtain rfl:=oi hx
   exact⟨.map (some _),by simp only[Act.put];rw[Array.getElem?_setIfInBounds,if_pos rfl,if_pos (by rw[bE.size,eu];decide)],.mp _⟩
  ·rename_i bg
   obtain⟨u,h1,h2⟩:=bE.tm t x hx
   exact⟨u,by simp only[Act.put];rw[Array.getElem?_setIfInBounds,if_neg bg];exact h1,h2⟩
 have s7:BH Try.prog 23 4 (w0.alloc (.map #[] 0)) rr 0 []:=by rw[hrr];exact BH.made w0
 have ac9:Below w.heap.size w (w0.alloc (.map #[] 0)):=(bE.hr.alloc (.map #[] 0)).bJ
 have s9:w.heap.size<=rr:=by rw[hrr];exact bE.hr.size
 obtain⟨wm,hwm⟩:∃ wm,wm=w0.alloc (.map #[] 0):=⟨_,rfl⟩
 rw[<-hwm]at gK cL s7 ac9 ⊢
 refine AK.gR (cs:=[.ops (mB (aA (ae (ae Bi)))) [1,2],.code (aA (aA (ae (ae (ae Bi)))))]) (t:=[.code (.block 0 Bv),.code (ae (ae (ae (ae Bi))))]) (Φ:=fun _ _=>False) (todo:=[.ops AR.o2,.sc AR.o3]) cL (akd b0 aU rr _)
  (fun R hR=>.ops (by rfl) (by decide +kernel) (by decide +kernel) (.sc (by rfl) (by rfl) (.back hR .nil))) ?_ (fun _ _ _ _ _ _ h=>h.elim)
 rintro yl a3 w3 eM fv ru cX eW
 obtain⟨nK,qc,cZ,nO⟩:=ru _ _ _ _ _ _ cX
 have ahz:=eW.trans nO
 obtain⟨tc,rfl⟩:∃ tc,qc=[tc]:=by
  have:=cZ.hr.len
  match qc,this with
  |[tc],_=>exact⟨tc,rfl⟩
 obtain⟨ob,j9,lM⟩:=s7.obj
 have adm:=cZ.hr.bj _ _ j9 lM
 have hG3:=s7.move (adm.trans j9.symm)
 have aib:=(BY.1 adm).1
 refine CB ?_
 have e2:Bv=.rangeFunc (.tmp 16) #[17,18] (lu Bv) (fx Bv):=by rfl
 rw[e2]
 refine(show (Code.rangeFunc (.tmp 16) #[17,18] (lu Bv) (fx Bv)).wpIn FW 0 Try.prog (K Try.prog _ [.aj 0,.code (ae (ae (ae (ae Bi))))]) a3 w3 from ?_)
 refine wpIn_rangeFunc ?_
 intro fn _
 obtain⟨sf,il,rM⟩:=cZ.tm 16 (kH b0.Ac) rfl
 obtain⟨p3,h3,r3⟩:=cZ.tm 3 (.ptr 0 0 0) rfl
 obtain⟨p5,h5,r5⟩:=cZ.tm 5 (.ptr 0 2 0) rfl
 obtain⟨p6,h6,r6⟩:=cZ.tm 6 (.ptr 0 3 0) rfl
 obtain⟨c3,rfl,hc3⟩:∃ c,p3=.pointer (some ⟨c,0,none⟩)/\tc 0=some (.box c):=by
  cases r3 with
  |ptr _ _ _ c h=>exact⟨c,rfl,h⟩
 obtain⟨c5,rfl,hc5⟩:∃ c,p5=.pointer (some ⟨c,0,none⟩)/\tc 2=some (.box c):=by
  cases r5 with
  |ptr _ _ _ c h=>exact⟨c,rfl,h⟩
 obtain⟨c6,rfl,hc6⟩:∃ c,p6=.pointer (some ⟨c,0,none⟩)/\tc 3=some (.box c):=by
  cases r6 with
  |ptr _ _ _ c h=>exact⟨c,rfl,h⟩
 obtain⟨vd,rfl,hd⟩:∃ vd,sf=.func (.func 151) #[] #[vd]/\VR nK [] (.aq 1 [[.sl 8 (List.map Ab.c b0.Ac)]] 0 0) vd:=by
  have hb:VR nK [] (kH b0.Ac) sf:=(cZ.hr.oX (Am.one rM) (ys:=[kH b0.Ac]) (by simp only[kH,AV.az,AV.ag])).2 0 _ _ rfl rfl
  unfold kH at hb
  cases hb with
  |fn f first cap vf vc h1 h2 h3 h4=>
   have e1:vf=#[]:=Array.size_eq_zero_iff.1 (by simpa using h1.symm)
   obtain⟨l,rfl⟩:∃ l,vc=l.toArray:=⟨vc.toList,by simp⟩
   match l,h2,h4 with
   |[vd],h2,h4=>exact⟨vd,by rw[e1],h4 0 _ vd rfl rfl⟩
 have z7:w.heap.size<=w3.heap.size:=cZ.hr.size
 obtain⟨rec,pH⟩:∃ rec,rec=jN a3 w3.heap.size fn .ready none:=⟨_,rfl⟩
 obtain⟨W1,dQ⟩:∃ W1,W1=(w3.alloc (.deferred (some []))).alloc (.loop rec):=⟨_,rfl⟩
 have hl:W1.heap[w3.heap.size+1]?=some (.loop rec):=by
  rw[dQ];have:=World.alloc_heap_new (w3.alloc (.deferred (some []))) (.loop rec);rwa [World.size_alloc]at this
 have hD:W1.heap[w3.heap.size]?=some (.deferred (some [])):=by
  rw[dQ];exact(Below.heap_alloc _ _ _ (by simp)).trans (World.alloc_heap_new w3 _)
 have hG4:BH Try.prog 23 4 W1 rr 0 []:=by
  refine hG3.move ?_
  rw[dQ]
  exact(Below.heap_alloc _ _ _ (by simp;omega)).trans (Below.heap_alloc _ _ _ aib)
 have tW:HR w.heap.size W1 nK [tc] [qa rr aU b0.Ac b0.Ac.length] W1:=by
  rw[dQ]
  have:=((cZ.hr.alloc (.deferred (some []))).alloc (.loop rec)).aaY
  unfold qa
  rw[Nat.sub_self]
  exact this
 have hbW:Below w.heap.size w W1:=by
  rw[dQ];exact((ac9.trans cZ.hr.bJ).alloc z7 _).alloc (by simp;omega) _
 have alg:a3.eval (.tmp 16)=.func (.func 151) #[] #[vd]:=by simp[Act.eval,Array.getD_eq_getD_getElem?,il]
 refine⟨w3.heap.size+1,[{ target:=.collected w3.heap.size,args:=#[] }],W1,{ target:=.fn (.func 151) #[vd],args:=#[.func (.yield (w3.heap.size+1)) #[] #[]] },W1,151,
  #[.func (.yield (w3.heap.size+1)) #[] #[]]++#[vd],W1,?_,?_,?_,?_,(fun h=>by simp[FW]at h),?_⟩
 ·rw[dQ,pH];exact run_enterLoop_outer _ _ _ _ _
 ·simp[resolve,Deferred.ofValue,Act.eval,il]
 ·intro f' rj;trivial
 ·simp[invoke,callFunc];rfl
 refine callsIn_wide.2 ?_
 have hY:=akh aU b0.Ac pI (C2 hn (by decide)) (N0:=w.heap.size) (W1:=W1) (r:=rr) (l:=w3.heap.size+1) (D:=w3.heap.size) (fn:=fn) (tc:=tc) (a:=a3) (by omega) s9 (by omega) (by omega) (by omega) cZ.size hc3 hc5 hc6 h3 h5 h6
 refine(aga b0.Ac hn hY ⟨by rw[hl,pH],hD,by rw[Nat.sub_self];exact hG4⟩ tW hd).mono ?_
 rintro e5 w5 ⟨⟨v,rfl⟩,W3,mG,nq,⟨tE,hD3,hG5⟩,th,rp,ue,xD,xn⟩
 have td:w.heap.size<=w3.heap.size+1:=by omega
 have hl5:=rp.bj _ _ tE rfl
 refine⟨_,_,run_endLoop hl5 (by simp[jN]),?_⟩
 have tX:=rp.other (o':=.loop { jN a3 w3.heap.size fn .ready none with state:=.exhausted }) hl5 rfl td
 have hC:qa rr aU b0.Ac 0=fK rr aU (cS aU b0.Ac b0.Ac.length).1:=by unfold qa;rw[Nat.sub_zero]
 rw[hC]at tX
 have s6:(w5.putObj (w3.heap.size+1) (.loop { jN a3 w3.heap.size fn .ready none with state:=.exhausted })).heap[w3.heap.size]?=some (.deferred (some [])):=by
  rw[World.putObj_heap_other (by omega)];exact rp.bj _ _ hD3 rfl
 have wR:Below w.heap.size w5 (w5.putObj (w3.heap.size+1) (.loop { jN a3 w3.heap.size fn .ready none with state:=.exhausted })):=mq td hl5
 generalize hw6:w5.putObj (w3.heap.size+1) (.loop { jN a3 w3.heap.size fn .ready none with state:=.exhausted })=w6 at tX s6 wR ⊢
 have aao:(jN a3 w3.heap.size fn .ready none).pending=none:=by rfl
 rw[aao]
 refine(show K Try.prog _ [.code (ae (ae (ae (ae Bi))))] .normal _ w6 from ?_)
 have hSR:@SR ⟨none,[{ target:=.collected w3.heap.size,args:=#[] }],fun _=>none⟩ w.heap.size w6 Try.f106.ntmps (yo aU rr (cS aU b0.Ac b0.Ac.length).1) { a3 with defers:=[{ target:=.collected w3.heap.size,args:=#[] }]++a3.defers } w6 mG nq:=by
  have mM:=cZ.cV.1
  refine @SR.mk ⟨none,[{ target:=.collected w3.heap.size,args:=#[] }],fun _=>none⟩ _ _ _ _ _ _ _ _ tX ?_ (fun k hk=>xn 0 k (cZ.nx k hk)) cZ.size ?_
  ·intro t x hx
   have eO:look (stL b0 aU rr).tm t=some x:=uu (a:=(yo aU rr (cS aU b0.Ac b0.Ac.length).1).tm) [(16,kH b0.Ac)] hx
   obtain⟨u,h1,h2⟩:=cZ.tm t x eO
   exact⟨u,h1,h2.mono ue.le xD⟩
  ·refine⟨?_,fun _ _ h=>by cases h⟩
   show [_]++a3.defers=_
   rw[mM];rfl
 rw[D6 gu ⟨none,[{ target:=.collected w3.heap.size,args:=#[] }],fun _=>none⟩ rfl]
 refine @AK.last ⟨none,[{ target:=.collected w3.heap.size,args:=#[] }],fun _=>none⟩ _ _ _ _ _ _ _ _ _ _ (fun e st=>e=.ret/\Cv T Try.f106.results.toList (fun y=>NL y (.sl 1 (List.map eB (cS aU b0.Ac b0.Ac.length).1))) .ret st) _ AR.o9 hSR
  (@akf ⟨none,[{ target:=.collected w3.heap.size,args:=#[] }],fun _=>none⟩ rr aU _) (by rfl) (by rfl) ?_
 rintro e7 st7 a7 w7 qQ r4 ⟨rfl,hE⟩ tf s8
 obtain⟨s1,s2,s3,s4,s5⟩:=tf
 have s5':a7.defers=[{ target:=.collected w3.heap.size,args:=#[] }]:=s5.1
 have zX:=s1.bj _ _ s6 rfl
 show LeavesInM FW 0 Try.prog Try.f106 a7.tmps _ a7.defers .returning w7
 rw[s5']
 refine⟨by simp,.inl ⟨w3.heap.size,_,rfl,run_takeDeferred zX,?_⟩⟩
 have hS8:@SR gu w.heap.size (w7.putObj w3.heap.size (.deferred none)) Try.f106.ntmps st7 { a7 with defers:=[] } (w7.putObj w3.heap.size (.deferred none)) qQ r4:=@SR.mk gu _ _ _ _ _ _ _ _ (s1.other zX rfl z7) s2 s3 s4 ⟨rfl,fun _ _ h=>by cases h⟩
 obtain⟨u,fm8,h1,h2,h3,h4⟩:=zF (P:=Try.prog) As hS8 hE
 exact⟨u,h1,u,_,fm8,rfl,rfl,h3,h2,((((zZ.cC.trans ahz.cC).trans ue).trans s8.cC)).trans h4,((((hbW.trans th).trans rp.bJ).trans wR).trans s1.bJ).trans (mq z7 zX)⟩
def Fo.c:SC:=
 SQ [RG [wE 2 46 0 [0],wE 3 23 1 [1],wB 4 false 4 [4],wN 5 0 28 [5]],SQ [RG [wD 9 46 2,wU 10 51 9 46 28 [9],wG 6 10 28 [10]],RG [wV 11 6 28,wK 12 .neq 28 11 0 28 4 [11]],CN 12 (SQ [RG [wV 13 6 28 [6],wB 4 false 4,wG 5 13 28 [13]],.ret]) .skip],RG [wD 15 46 2,wD 16 23 3 [3],wW 17 97 15 16 46 23 164 [15,16],wV 14 17 164 [17],wX 18 14 0 3,wX 19 14 1 4 [14],wG 7 18 3 [18],wG 8 19 4 [19]],
 SQ [RG [wV 20 8 4 [8],wQ 21 20 4 [20]],CN 21 (SQ [RG [wB 4 false 4,wN 5 3 28],.ret]) .skip],RG [wD 22 46 2 [2],wC 23 106 #[.tmp 22,.const (.int .i64 100000)] #[46,3] 173 [22],wV 24 7 3 [7],wI 25 173 23 24 [23,24],wD 26 4 25 [25],wG 4 26 4 [26],wN 5 0 28],.ret]
def sy (k:Nat) (b0:Al) (dL:Entry):Option (Bool×Int):=
 (dO k b0).bind fun x1=>
 bif (!decide (x1=(0:Int))) then
  some (false,x1)
 else
  (qE k b0 dL).bind fun x3=>
  bif (!x3.2) then
   some (false,3)
  else
   (qG k b0 100000).bind fun x5=>
   (at? x5 x3.1).bind fun x6=>
   some (x6,0)
theorem ago (k:Nat) (b0:Al) (dL:Entry) (r:Bool×Int) (h0:sy k b0 dL=some r):An Try.prog 55 [.agg (Al.c b0),.agg (Entry.c dL)] (fun y=>y=.ak [.bool r.1,.int .i64 r.2]):=by
 refine PB Try.f55 Fo.c [.tmp 4,.tmp 5] ?_
 simp only[sy]at h0
 try simp only[Fo.c,go_sem]
 refine ay h0 (sv k _) ?_ (fun x1 h0=>?_)<;>try simp only[go_sem]
 refine BJ h0 ?_ ?_<;>intro c2 h0<;>have F:=c2<;>try simp only[F,go_sem]
 obtain rfl:=oi h0
 refine Ad rfl ?_
 try simp only[F,go_sem]
 refine ay h0 (abQ k _ _) ?_ (fun x3 h0=>?_)<;>try simp only[F,go_sem]
 refine Bd F h0 ?_ ?_<;>intro F h0<;>try simp only[F,go_sem]
 obtain rfl:=oi h0
 refine Ad rfl ?_
 try simp only[F,go_sem]
 refine ay h0 (abU k _ _) ?_ (fun x5 h0=>?_)<;>try simp only[F,go_sem]
 obtain⟨x6,cO,h0⟩:=bs h0
 have F:=an (aG cO) (an (aF eB cO) F)
 try simp only[F,go_sem]
 obtain rfl:=oi h0
 refine Ad rfl ?_
 try simp only[F,go_sem]
def Cy.s1:SC:=
 SQ [SQ [RG [wV 23 7 3,wV 24 0 44,wL 25 24 44 3 [24],wO 26 .lss 3 23 25 3 4 [23,25]],CN 26 .skip (.exit 2)],.block 3 (SQ [.bB [wV 29 0 44,wV 30 7 3,wI 31 44 29 30,wF 32 25 31 1,wD 33 3 32,wK 34 .eql 3 33 0 3 4,wV 35 34 4,gd 35 true (wV 36 0 44),gd 35 true (wV 37 7 3),gd 35 true (wI 38 44 36 37),gd 35 true (wF 39 25 38 3),gd 35 true (wD 40 3 39),gd 35 true (wV 41 1 3),
 gd 35 true (wO 42 .leq 3 40 41 3 4),wZ 43 35 42 4,wV 44 43 4,gd 44 true (wV 45 0 44),gd 44 true (wV 46 7 3),gd 44 true (wI 47 44 45 46),gd 44 true (wF 48 25 47 4),gd 44 true (wD 49 23 48),gd 44 true (wV 50 0 44),gd 44 true (wV 51 6 3),gd 44 true (wI 52 44 50 51),gd 44 true (wF 53 25 52 0),gd 44 true (wD 54 23 53),gd 44 true (wO 55 .eql 23 49 54 23 4),wZ 56 44 55 4,wV 57 56 4,
 gd 57 true (wV 58 5 173),gd 57 true (wV 59 7 3),gd 57 true (wI 60 173 58 59),gd 57 true (wD 61 4 60),wZ 62 57 61 4] [[],[],[0,1],[0,1,2],[0,1,2,3],[0,1,2,3,4],[0,1,2,3,4,5],[0,1,2,3,4,5,6],[0,1,2,3,4,5,6],[0,1,2,3,4,5,6,7,8],[0,1,2,3,4,5,6,7,8,9],[0,1,2,3,4,5,6,7,8,9,10],[0,1,2,3,4,5,6],[0,1,2,3,4,5,6,7,8,9,10,11,12],[0,1,2,3,4,5,6,7,8,9,10,11,12,13],[0,1,2,3,4,5,6,7,8,9,10,11,12,13,14],[0,1,2,3,
 4,5,6,7,8,9,10,11,12,13,14,15],[0,1,2,3,4,5,6,7,8,9,10,11,12,13,14,15],[0,1,2,3,4,5,6,7,8,9,10,11,12,13,14,15,16,17],[0,1,2,3,4,5,6,7,8,9,10,11,12,13,14,15,16,17,18],[0,1,2,3,4,5,6,7,8,9,10,11,12,13,14,15,16,17,18,19],[0,1,2,3,4,5,6,7,8,9,10,11,12,13,14,15],[0,1,2,3,4,5,6,7,8,9,10,11,12,13,14,15],[0,1,2,3,4,5,6,7,8,9,10,11,12,13,14,15,21,22],[0,1,2,3,4,5,6,7,8,9,10,11,12,13,14,15,21,22,23],[0,1,2,
 3,4,5,6,7,8,9,10,11,12,13,14,15,21,22,23,24],[0,1,2,3,4,5,6,7,8,9,10,11,12,13,14,15,16,17,18,19,20,21,22,23,24,25],[0,1,2,3,4,5,6,7,8,9,10,11,12,13,14,15,16,17,18,19,20,21,22,23,24,25,26],[0,1,2,3,4,5,6,7,8,9,10,11,12,13,14,15,16,17,18,19,20,21,22,23,24,25,26,27],[0,1,2,3,4,5,6,7,8,9,10,11,12,13,14,15,16,17,18,19,20,21,22,23,24,25,26,27,28],[0,1,2,3,4,5,6,7,8,9,10,11,12,13,14,15,16,17,18,19,20,21,
 22,23,24,25,26,27,28],[0,1,2,3,4,5,6,7,8,9,10,11,12,13,14,15,16,17,18,19,20,21,22,23,24,25,26,27,28,29,30],[0,1,2,3,4,5,6,7,8,9,10,11,12,13,14,15,16,17,18,19,20,21,22,23,24,25,26,27,28,29,30,31],[0,1,2,3,4,5,6,7,8,9,10,11,12,13,14,15,16,17,18,19,20,21,22,23,24,25,26,27,28,29,30,31,32]] [29,30,31,32,33,34,35,36,37,38,39,40,41,42,43,44,45,46,47,48,49,50,51,52,53,54,55,56,57,58,59,60,61],
 CN 62 (RG [wV 63 5 173,wV 64 6 3,wI 65 173 63 64 [63,64],⟨none,.store 4 (.tmp 65) (.const (.bool false)),0,none,[65]⟩]) .skip]),RG [wV 27 7 3 [7],wK 28 .add 3 27 1 3 3 [27],wG 7 28 3 [28]]]
def Cy.s0:SC:=
 SQ [SQ [RG [wV 14 6 3,wK 15 .geq 3 14 0 3 4 [14]],CN 15 .skip (.exit 0)],.block 1 (SQ [RG [wV 18 5 173,wV 19 6 3,wI 20 173 18 19 [18,19],⟨none,.store 4 (.tmp 20) (.const (.bool true)),0,none,[20]⟩],RG [wV 21 6 3,wK 22 .add 3 21 1 3 3 [21],wG 7 22 3 [22]],.block 2 (.loop Cy.s1)]),RG [wV 16 6 3 [6],wK 17 .sub 3 16 1 3 3 [16],wG 6 17 3 [17]]]
def Cy.c:SC:=
 SQ [RG [oQ 4 (.assign (.const (.slice none 0 0))) 173 [4]],RG [wV 8 0 44,wL 9 8 44 3 [8],oQ 10 (.makeSlice 173 (.tmp 9) (.tmp 9)) 173 [9],wG 5 10 173 [10]],SQ [RG [wV 11 0 44,wL 12 11 44 3 [11],wK 13 .sub 3 12 1 3 3 [12],wG 6 13 3 [13]],.block 0 (.loop Cy.s0)],RG [wV 66 5 173 [5],wG 4 66 173 [66]],.ret]
def AU.b1 (k:Nat) (l0:(List Ab)) (aU:Int) (i2:Int):(Int×(List Bool))->Option (AW (Int×(List Bool)) ((List Bool)) ((List Bool))):=fun s=>match s with
 |(i8,l9)=>
   bif decide (i8<(l0.length:Int)) then
    (at? l0 i8).bind fun cA=>
    bif decide (cA.Kind=(0:Int)) then
     bif decide (cA.AI<=aU) then
      (at? l0 i2).bind fun eT=>
      bif (decide (cA.Of.Ag=eT.At.Ag)&&decide (cA.Of.No=eT.At.No)) then
       (at? l9 i8).bind fun vj=>
       bif vj then
        (at? l9 i2).bind fun vk=>
        (fZ l9 i2 false).bind fun um=>
        some (.next (af (i8+1),um))
       else
        some (.next (af (i8+1),l9))
      else
       some (.next (af (i8+1),l9))
     else
      some (.next (af (i8+1),l9))
    else
     some (.next (af (i8+1),l9))
   else
    some (.brk l9)
def AU.b0 (k:Nat) (l0:(List Ab)) (aU:Int):(Int×(List Bool))->Option (AW (Int×(List Bool)) ((List Bool)) ((List Bool))):=fun s=>match s with
 |(i2,l3)=>
   bif decide ((0:Int)<=i2) then
    (at? l3 i2).bind fun x6=>
    (fZ l3 i2 true).bind fun l7=>
    (aB (AU.b1 k l0 aU i2) k (af (i2+1),l7)).bind fun uO=>match uO with
    |.next _=>none
    |.ret v_=>some (.ret v_)
    |.brk jH=>
     some (.next (af (i2 - 1),jH))
   else
    some (.brk l3)
noncomputable def AU.h1 (l0:(List Ab)) (aU:Int) (i2:Int):(Int×(List Bool))->St:=fun s=>match s with
 |(i8,l9)=>⟨[(0,.sl 8 (List.map Ab.c l0)),(1,.int .i64 aU),(5,.loc 0 0 1 0 l9.length l9.length),(6,.int .i64 i2),(7,.int .i64 i8)],[(0,.arr 4 1 (List.map eB l9))],[],1,Try.f107.ntmps⟩
noncomputable def AU.x1 (l0:(List Ab)) (aU:Int) (i2:Int):(List Bool)->St:=fun jH=>⟨[(0,.sl 8 (List.map Ab.c l0)),(1,.int .i64 aU),(5,.loc 0 0 1 0 jH.length jH.length),(6,.int .i64 i2)],[(0,.arr 4 1 (List.map eB jH))],[],1,Try.f107.ntmps⟩
noncomputable def AU.h0 (l0:(List Ab)) (aU:Int):(Int×(List Bool))->St:=fun s=>match s with
 |(i2,l3)=>⟨[(0,.sl 8 (List.map Ab.c l0)),(1,.int .i64 aU),(5,.loc 0 0 1 0 l3.length l3.length),(6,.int .i64 i2)],[(0,.arr 4 1 (List.map eB l3))],[],1,Try.f107.ntmps⟩
noncomputable def AU.x0:(List Bool)->St:=fun l4=>⟨[(5,.loc 0 0 1 0 l4.length l4.length)],[(0,.arr 4 1 (List.map eB l4))],[],1,Try.f107.ntmps⟩
def AU (k:Nat) (l0:(List Ab)) (aU:Int):Option ((List Bool)):=
 (mk? (l0.length:Int) 1).bind fun _=>
 (aB (AU.b0 k l0 aU) k (af ((l0.length:Int) - 1),List.replicate l0.length false)).bind fun r22=>match r22 with
 |.next _=>none
 |.ret v_=>some v_
 |.brk l4=>
  some l4
theorem FP (k:Nat) (l0:(List Ab)) (aU:Int) (r:(List Bool)) (h0:AU k l0 aU=some r):An Try.prog 107 [.sl 8 (List.map Ab.c l0),.int .i64 aU] (fun y=>y=.sl 1 (List.map eB r)):=by
 refine PB Try.f107 Cy.c [.tmp 4] ?_
 simp only[AU]at h0
 try simp only[Cy.c,go_sem]
 obtain⟨u1,lh,h0⟩:=bs h0
 try simp only[aaJ lh,go_sem]
 obtain⟨r22,akP,h0⟩:=bs h0
 refine Bc akP (AU.h0 l0 aU) (AU.x0) ?_ ?_ ?_
 refine Ae.go [0,1,5,6] [48] rfl ?_
 try simp only[AU.h0,go_sem]
 rintro⟨i2,l3⟩ dU Bq Bs h1 aS aY bM
 refine rS ?_
 simp only[AU.b0]at h1
 try simp only[Cy.s0,AU.h0,go_sem]
 refine AO h1 ?_ ?_<;>intro c5 h1<;>have F:=c5<;>try simp only[F,go_sem]
 obtain⟨x6,cO,h1⟩:=bs h1
 have F:=an (aG cO) (an (aF eB cO) F)
 try simp only[F,go_sem]
 obtain⟨l7,qq,h1⟩:=bs h1
 have sQ:=p4 eB qq
 try simp only[go_sem]at sQ
 have F:=an sQ (an (ni qq) (an (p7 eB qq) F))
 try simp only[F,go_sem]
 obtain⟨uO,abi,h1⟩:=bs h1
 refine Bc abi (AU.h1 l0 aU i2) (AU.x1 l0 aU i2) ?_ ?_ ?_
 refine Ae.go [0,1,5,6,7] [0] rfl ?_
 try simp only[AU.h1,F,go_sem]
 rintro⟨i8,l9⟩ yD DW DY h2 iv lI xy
 refine rS ?_
 simp only[AU.b1]at h2
 try simp only[Cy.s1,AU.h1,F,go_sem]
 refine AF F h2 ?_ ?_<;>intro F h2<;>try simp only[F,go_sem]
 refine A1 As bY 1000 ?_
 try simp only[F,go_sem]
 obtain⟨cA,gW,h2⟩:=bs h2
 have F:=an (aG gW) (an (aF Ab.c gW) F)
 try simp only[F,go_sem]
 refine DF F h2 ?_ ?_<;>intro F h2<;>try simp only[F,go_sem]
 refine DF F h2 ?_ ?_<;>intro F h2<;>try simp only[F,go_sem]
 obtain⟨eT,mg,h2⟩:=bs h2
 have F:=an (aG mg) (an (aF Ab.c mg) F)
 try simp only[F,go_sem]
 refine DF F h2 ?_ ?_<;>intro F h2<;>try simp only[F,go_sem]
 obtain⟨vj,vv,h2⟩:=bs h2
 have F:=an (aG vv) (an (aF eB vv) F)
 try simp only[F,go_sem]
 refine aT ?_
 try simp only[F,go_sem]
 refine AF F h2 ?_ ?_<;>intro F h2<;>try simp only[F,go_sem]
 obtain⟨vk,vw,h2⟩:=bs h2
 have F:=an (aG vw) (an (aF eB vw) F)
 try simp only[F,go_sem]
 obtain⟨um,vq,h2⟩:=bs h2
 have acy:=p4 eB vq
 try simp only[go_sem]at acy
 have F:=an acy (an (ni vq) (an (p7 eB vq) F))
 try simp only[F,go_sem]
 refine Aq (iv _ _ (oi h2).symm (Ae.go [0,1,5,6,7] [0] rfl ?_))
 try simp only[AU.h1,F,go_sem]
 refine Aq (iv _ _ (oi h2).symm (Ae.go [0,1,5,6,7] [0] rfl ?_))
 try simp only[AU.h1,F,go_sem]
 refine aT ?_
 try simp only[F,go_sem]
 refine Aq (iv _ _ (oi h2).symm (Ae.go [0,1,5,6,7] [0] rfl ?_))
 try simp only[AU.h1,F,go_sem]
 refine aT ?_
 try simp only[F,go_sem]
 refine Aq (iv _ _ (oi h2).symm (Ae.go [0,1,5,6,7] [0] rfl ?_))
 try simp only[AU.h1,F,go_sem]
 refine aT ?_
 try simp only[F,go_sem]
 refine Aq (iv _ _ (oi h2).symm (Ae.go [0,1,5,6,7] [0] rfl ?_))
 try simp only[AU.h1,F,go_sem]
 refine Aq (lI _ _ (oi h2).symm (Ae.go [0,1,5,6] [0] rfl ?_))
 try simp only[AU.x1,F,go_sem]
 rintro jH aQ
 subst aQ
 simp only at h1
 refine rS ?_
 try simp only[AU.x1,F,go_sem]
 refine Aq (aS _ _ (oi h1).symm (Ae.go [0,1,5,6] [0] rfl ?_))
 try simp only[AU.h0,F,go_sem]
 refine Aq (aY _ _ (oi h1).symm (Ae.go [5] [0] rfl ?_))
 try simp only[AU.x0,F,go_sem]
 rintro l4 aQ
 subst aQ
 simp only at h0
 refine rS ?_
 try simp only[AU.x0,go_sem]
 obtain rfl:=oi h0
 refine Ad rfl ?_
 try simp only[go_sem]
def Fp.c:SC:=
 SQ [RG [wE 2 46 0 [0],wE 3 23 1 [1],wB 4 false 4 [4],wN 5 0 28 [5]],SQ [RG [wD 7 46 2,wU 8 60 7 46 28 [7],wK 9 .neq 28 8 0 28 4 [8]],CN 9 (SQ [RG [wB 4 false 4,wN 5 91 28],.ret]) .skip],RG [wF 10 46 2 0,wD 11 44 10 [10],wD 12 23 3 [3],wW 13 99 11 12 44 23 3 [11,12],wG 6 13 3 [13]],SQ [RG [wV 14 6 3,wK 15 .lss 3 14 0 3 4 [14]],CN 15 (SQ [RG [wB 4 false 4,wN 5 3 28],.ret]) .skip],
 RG [wF 16 46 2 0 [2],wD 17 44 16 [16],wC 18 107 #[.tmp 17,.const (.int .i64 100000)] #[44,3] 173 [17],wV 19 6 3 [6],wI 20 173 18 19 [18,19],wD 21 4 20 [20],wG 4 21 4 [21],wN 5 0 28],.ret]
def DO (k:Nat) (b0:Al) (dL:Entry):Option (Bool×Int):=
 (Bm k b0).bind fun x1=>
 bif (!decide (x1=(0:Int))) then
  some (false,91)
 else
  (Bn k b0.Ac dL).bind fun x3=>
  bif decide (x3<(0:Int)) then
   some (false,3)
  else
   (AU k b0.Ac 100000).bind fun x5=>
   (at? x5 x3).bind fun x6=>
   some (x6,0)
theorem Gs (k:Nat) (b0:Al) (dL:Entry) (r:Bool×Int) (h0:DO k b0 dL=some r):An Try.prog 56 [.agg (Al.c b0),.agg (Entry.c dL)] (fun y=>y=.ak [.bool r.1,.int .i64 r.2]):=by
 refine PB Try.f56 Fp.c [.tmp 4,.tmp 5] ?_
 simp only[DO]at h0
 try simp only[Fp.c,go_sem]
 refine ay h0 (DL k _) ?_ (fun x1 h0=>?_)<;>try simp only[go_sem]
 refine BJ h0 ?_ ?_<;>intro c2 h0<;>have F:=c2<;>try simp only[F,go_sem]
 obtain rfl:=oi h0
 refine Ad rfl ?_
 try simp only[F,go_sem]
 refine ay h0 (FO k _ _) ?_ (fun x3 h0=>?_)<;>try simp only[F,go_sem]
 refine AF F h0 ?_ ?_<;>intro F h0<;>try simp only[F,go_sem]
 obtain rfl:=oi h0
 refine Ad rfl ?_
 try simp only[F,go_sem]
 refine ay h0 (FP k _ _) ?_ (fun x5 h0=>?_)<;>try simp only[F,go_sem]
 obtain⟨x6,cO,h0⟩:=bs h0
 have F:=an (aG cO) (an (aF eB cO) F)
 try simp only[F,go_sem]
 obtain rfl:=oi h0
 refine Ad rfl ?_
 try simp only[F,go_sem]
def Ds.s0:SC:=
 SQ [RG [wO 23 .lss 3 22 21 3 0],CN 23 .skip (.exit 0),.block 1 (SQ [RG [wV 24 22 3,wI 25 173 20 22,wD 26 4 25 [25],wG 8 24 3 [24],wG 9 26 4 [26]],RG [wV 27 9 4 [9],wV 28 27 4 [27],gd 28 true (wF 29 46 2 0),gd 28 true (wD 30 44 29 [29]),gd 28 true (wV 31 8 3),gd 28 true (wI 32 44 30 31 [30,31]),gd 28 true (wF 33 25 32 1 [32]),gd 28 true (wD 34 3 33 [33]),gd 28 true (wK 35 .neq 3 34 0 3 4 [34]),
 wZ 36 28 35 4 [28,35]],CN 36 (RG [wV 37 7 44 [7],wF 38 46 2 0,wD 39 44 38 [38],wV 40 8 3 [8],wI 41 44 39 40 [39,40],wD 42 25 41 [41],oQ 43 (.buildSlice 44 1 #[(0,.tmp 42)]) 44 [42],wP 44 37 43 44 44 44 [37,43],wG 7 44 44 [44]]) .skip]),RG [wK 45 .add 3 22 1 3 3 [22],wV 22 45 3 [45]]]
def Ds.c:SC:=
 SQ [RG [wE 2 46 0 [0],oQ 4 (.assign (.const (.slice none 0 0))) 44 [4],wN 5 0 28 [5]],SQ [RG [wD 10 46 2,wU 11 51 10 46 28 [10],wG 6 11 28 [11]],RG [wV 12 6 28,wK 13 .neq 28 12 0 28 4 [12]],CN 13 (SQ [RG [wV 14 6 28 [6],oQ 4 (.assign (.const (.slice none 0 0))) 44,wG 5 14 28 [14]],.ret]) .skip],SQ [RG [wV 15 1 3,wC 16 65 #[.tmp 15,.const (.int .i64 0),.const (.int .i64 100000)] #[3,3,3] 4 [15],
 wQ 17 16 4 [16]],CN 17 (SQ [RG [oQ 4 (.assign (.const (.slice none 0 0))) 44,wN 5 6 28],.ret]) .skip],RG [oQ 7 (.assign (.const (.slice none 0 0))) 44],SQ [RG [wD 18 46 2,wV 19 1 3 [1],wW 20 106 18 19 46 3 173 [18,19],wL 21 20 173 3,oQ 22 (.move (.const (.int .i64 0))) 3],.block 0 (.loop Ds.s0)],RG [wV 46 7 44 [7],wG 4 46 44 [46],wN 5 0 28],.ret]
def ee.b0 (k:Nat) (b0:Al) (x5:(List Bool)):(Int×(List Ab))->Option (AW (Int×(List Ab)) ((List Ab)) ((List Ab)×Int)):=fun s=>match s with
 |(i6,l7)=>
   bif decide (i6<(x5.length:Int)) then
    (at? x5 i6).bind fun dK=>
    bif dK then
     (at? b0.Ac i6).bind fun cA=>
     bif (!decide (cA.Kind=(0:Int))) then
      (iC 72 l7 cA).bind fun kj=>
      some (.next (af (i6+1),kj))
     else
      some (.next (af (i6+1),l7))
    else
     some (.next (af (i6+1),l7))
   else
    some (.brk l7)
noncomputable def ee.h0 (b0:Al) (x5:(List Bool)):(Int×(List Ab))->St:=fun s=>match s with
 |(i6,l7)=>⟨[(2,.ptr 0 0 0),(7,.loc 0 1 8 0 l7.length l7.length),(20,.sl 1 (List.map eB x5)),(21,.int .i64 (x5.length:Int)),(22,.int .i64 i6)],[(0,.box ([.sl 8 (List.map Ab.c b0.Ac)])),(1,.arr 25 8 (List.map Ab.c l7))],[],2,Try.f57.ntmps⟩
noncomputable def ee.x0:(List Ab)->St:=fun l8=>⟨[(7,.loc 0 0 8 0 l8.length l8.length)],[(0,.arr 25 8 (List.map Ab.c l8))],[],1,Try.f57.ntmps⟩
def ee (k:Nat) (b0:Al) (aU:Int):Option ((List Ab)×Int):=
 (dO k b0).bind fun x1=>
 bif (!decide (x1=(0:Int))) then
  some ([],x1)
 else
  (iP k aU 0 100000).bind fun x3=>
  bif (!x3) then
   some ([],6)
  else
   (qG k b0 aU).bind fun x5=>
   (aB (ee.b0 k b0 x5) k (0,[])).bind fun uM=>match uM with
   |.next _=>none
   |.ret v_=>some v_
   |.brk l8=>
    some (l8,0)
theorem agn (k:Nat) (b0:Al) (aU:Int) (r:(List Ab)×Int) (h0:ee k b0 aU=some r):An Try.prog 57 [.agg (Al.c b0),.int .i64 aU] (fun y=>y=.ak [.sl 8 (List.map Ab.c r.1),.int .i64 r.2]):=by
 refine PB Try.f57 Ds.c [.tmp 4,.tmp 5] ?_
 simp only[ee]at h0
 try simp only[Ds.c,go_sem]
 refine ay h0 (sv k _) ?_ (fun x1 h0=>?_)<;>try simp only[go_sem]
 refine BJ h0 ?_ ?_<;>intro c2 h0<;>have F:=c2<;>try simp only[F,go_sem]
 obtain rfl:=oi h0
 refine Ad rfl ?_
 try simp only[F,go_sem]
 refine ay h0 (lq k _ _ _) ?_ (fun x3 h0=>?_)<;>try simp only[F,go_sem]
 refine Bd F h0 ?_ ?_<;>intro F h0<;>try simp only[F,go_sem]
 obtain rfl:=oi h0
 refine Ad rfl ?_
 try simp only[F,go_sem]
 refine ay h0 (abU k _ _) ?_ (fun x5 h0=>?_)<;>try simp only[F,go_sem]
 obtain⟨uM,abg,h0⟩:=bs h0
 refine Bc abg (ee.h0 b0 x5) (ee.x0) ?_ ?_ ?_
 refine Ae.go [2,7,20,21,22] [0,176] rfl ?_
 try simp only[ee.h0,F,go_sem]
 rintro⟨i6,l7⟩ dU Bq Bs h1 aS aY bM
 refine rS ?_
 simp only[ee.b0]at h1
 try simp only[Ds.s0,ee.h0,F,go_sem]
 refine AF F h1 ?_ ?_<;>intro F h1<;>try simp only[F,go_sem]
 obtain⟨dK,jP,h1⟩:=bs h1
 have F:=an (aG jP) (an (aF eB jP) F)
 try simp only[F,go_sem]
 refine AF F h1 ?_ ?_<;>intro F h1<;>try simp only[F,go_sem]
 obtain⟨cA,gW,h1⟩:=bs h1
 have F:=an (aG gW) (an (aF Ab.c gW) F)
 try simp only[F,go_sem]
 refine Bd F h1 ?_ ?_<;>intro F h1<;>try simp only[F,go_sem]
 obtain⟨kj,akI,h1⟩:=bs h1
 have ae8:=pu Ab.c akI
 try simp only[F,go_sem]at ae8
 have F:=an ae8 F
 try simp only[F,go_sem]
 refine Aq (aS _ _ (oi h1).symm (Ae.go [2,7,20,21,22] [0,1] rfl ?_))
 try simp only[ee.h0,F,go_sem]
 refine Aq (aS _ _ (oi h1).symm (Ae.go [2,7,20,21,22] [0,1] rfl ?_))
 try simp only[ee.h0,F,go_sem]
 refine Aq (aS _ _ (oi h1).symm (Ae.go [2,7,20,21,22] [0,1] rfl ?_))
 try simp only[ee.h0,F,go_sem]
 refine Aq (aY _ _ (oi h1).symm (Ae.go [7] [1] rfl ?_))
 try simp only[ee.x0,F,go_sem]
 rintro l8 aQ
 subst aQ
 simp only at h0
 refine rS ?_
 try simp only[ee.x0,F,go_sem]
 obtain rfl:=oi h0
 refine Ad rfl ?_
 try simp only[F,go_sem]
def Dt.s0:SC:=
 SQ [SQ [RG [wV 20 8 3,wV 21 6 173,wL 22 21 173 3 [21],wO 23 .lss 3 20 22 3 4 [20,22]],CN 23 .skip (.exit 0)],.block 1 (SQ [RG [wF 26 46 2 0,wD 27 44 26 [26],wV 28 8 3,wI 29 44 27 28 [27,28],wD 30 25 29 [29],wA 9 25,wS 25 9 30 [30]],RG [wV 31 6 173,wV 32 8 3,wI 33 173 31 32 [31,32],wD 34 4 33 [33],wV 35 34 4 [34],gd 35 true (wF 36 25 9 3),gd 35 true (wD 37 3 36 [36]),gd 35 true (wV 38 1 3),
 gd 35 true (wO 39 .leq 3 37 38 3 4 [37,38]),wZ 40 35 39 4 [35,39],wV 41 40 4 [40],gd 41 true (wF 42 25 9 1),gd 41 true (wD 43 3 42 [42]),gd 41 true (wK 44 .neq 3 43 0 3 4 [43]),wZ 45 41 44 4 [41,44]],CN 45 (RG [wV 46 7 44 [7],wD 47 25 9 [9],oQ 48 (.buildSlice 44 1 #[(0,.tmp 47)]) 44 [47],wP 49 46 48 44 44 44 [46,48],wG 7 49 44 [49]]) .skip]),RG [wV 24 8 3 [8],wK 25 .add 3 24 1 3 3 [24],
 wG 8 25 3 [25]]]
def Dt.c:SC:=
 SQ [RG [wE 2 46 0 [0],oQ 4 (.assign (.const (.slice none 0 0))) 44 [4],wN 5 0 28 [5]],SQ [RG [wD 10 46 2,wU 11 60 10 46 28 [10],wK 12 .neq 28 11 0 28 4 [11]],CN 12 (SQ [RG [oQ 4 (.assign (.const (.slice none 0 0))) 44,wN 5 91 28],.ret]) .skip],SQ [RG [wV 13 1 3,wC 14 67 #[.tmp 13,.const (.int .i64 0),.const (.int .i64 100000)] #[3,3,3] 4 [13],wQ 15 14 4 [14]],
 CN 15 (SQ [RG [oQ 4 (.assign (.const (.slice none 0 0))) 44,wN 5 6 28],.ret]) .skip],RG [wF 16 46 2 0,wD 17 44 16 [16],wV 18 1 3,wW 19 107 17 18 44 3 173 [17,18],wG 6 19 173 [19]],RG [oQ 7 (.assign (.const (.slice none 0 0))) 44],SQ [RG [wN 8 0 3],.block 0 (.loop Dt.s0)],RG [wV 50 7 44 [7],wG 4 50 44 [50],wN 5 0 28],.ret]
def By.b0 (k:Nat) (b0:Al) (aU:Int) (x5:(List Bool)):(Int×(List Ab))->Option (AW (Int×(List Ab)) ((List Ab)) ((List Ab)×Int)):=fun s=>match s with
 |(i6,l7)=>
   bif decide (i6<(x5.length:Int)) then
    (at? b0.Ac i6).bind fun dK=>
    (at? x5 i6).bind fun ed=>
    bif ed then
     bif decide (dK.AI<=aU) then
      bif (!decide (dK.Kind=(0:Int))) then
       (iC 72 l7 dK).bind fun ko=>
       some (.next (af (i6+1),ko))
      else
       some (.next (af (i6+1),l7))
     else
      some (.next (af (i6+1),l7))
    else
     some (.next (af (i6+1),l7))
   else
    some (.brk l7)
noncomputable def By.h0 (b0:Al) (aU:Int) (x5:(List Bool)):(Int×(List Ab))->St:=fun s=>match s with
 |(i6,l7)=>⟨[(1,.int .i64 aU),(2,.ptr 0 0 0),(6,.sl 1 (List.map eB x5)),(7,.loc 0 1 8 0 l7.length l7.length),(8,.int .i64 i6)],[(0,.box ([.sl 8 (List.map Ab.c b0.Ac)])),(1,.arr 25 8 (List.map Ab.c l7))],[],2,Try.f58.ntmps⟩
noncomputable def By.x0:(List Ab)->St:=fun l8=>⟨[(7,.loc 0 0 8 0 l8.length l8.length)],[(0,.arr 25 8 (List.map Ab.c l8))],[],1,Try.f58.ntmps⟩
def By (k:Nat) (b0:Al) (aU:Int):Option ((List Ab)×Int):=
 (Bm k b0).bind fun x1=>
 bif (!decide (x1=(0:Int))) then
  some ([],91)
 else
  (Cp k aU 0 100000).bind fun x3=>
  bif (!x3) then
   some ([],6)
  else
   (AU k b0.Ac aU).bind fun x5=>
   (aB (By.b0 k b0 aU x5) k (0,[])).bind fun rM=>match rM with
   |.next _=>none
   |.ret v_=>some v_
   |.brk l8=>
    some (l8,0)
theorem Gr (k:Nat) (b0:Al) (aU:Int) (r:(List Ab)×Int) (h0:By k b0 aU=some r):An Try.prog 58 [.agg (Al.c b0),.int .i64 aU] (fun y=>y=.ak [.sl 8 (List.map Ab.c r.1),.int .i64 r.2]):=by
 refine PB Try.f58 Dt.c [.tmp 4,.tmp 5] ?_
 simp only[By]at h0
 try simp only[Dt.c,go_sem]
 refine ay h0 (DL k _) ?_ (fun x1 h0=>?_)<;>try simp only[go_sem]
 refine BJ h0 ?_ ?_<;>intro c2 h0<;>have F:=c2<;>try simp only[F,go_sem]
 obtain rfl:=oi h0
 refine Ad rfl ?_
 try simp only[F,go_sem]
 refine ay h0 (C5 k _ _ _) ?_ (fun x3 h0=>?_)<;>try simp only[F,go_sem]
 refine Bd F h0 ?_ ?_<;>intro F h0<;>try simp only[F,go_sem]
 obtain rfl:=oi h0
 refine Ad rfl ?_
 try simp only[F,go_sem]
 refine ay h0 (FP k _ _) ?_ (fun x5 h0=>?_)<;>try simp only[F,go_sem]
 obtain⟨rM,akM,h0⟩:=bs h0
 refine Bc akM (By.h0 b0 aU x5) (By.x0) ?_ ?_ ?_
 refine Ae.go [1,2,6,7,8] [0,224] rfl ?_
 try simp only[By.h0,F,go_sem]
 rintro⟨i6,l7⟩ dU Bq Bs h1 aS aY bM
 refine rS ?_
 simp only[By.b0]at h1
 try simp only[Dt.s0,By.h0,F,go_sem]
 refine AF F h1 ?_ ?_<;>intro F h1<;>try simp only[F,go_sem]
 obtain⟨dK,jP,h1⟩:=bs h1
 have F:=an (aG jP) (an (aF Ab.c jP) F)
 try simp only[F,go_sem]
 obtain⟨ed,mf,h1⟩:=bs h1
 have F:=an (aG mf) (an (aF eB mf) F)
 try simp only[F,go_sem]
 refine AF F h1 ?_ ?_<;>intro F h1<;>try simp only[F,go_sem]
 refine AF F h1 ?_ ?_<;>intro F h1<;>try simp only[F,go_sem]
 refine Bd F h1 ?_ ?_<;>intro F h1<;>try simp only[F,go_sem]
 obtain⟨ko,yF,h1⟩:=bs h1
 have ae9:=pu Ab.c yF
 try simp only[F,go_sem]at ae9
 have F:=an ae9 F
 try simp only[F,go_sem]
 refine Aq (aS _ _ (oi h1).symm (Ae.go [1,2,6,7,8] [0,1] rfl ?_))
 try simp only[By.h0,F,go_sem]
 refine Aq (aS _ _ (oi h1).symm (Ae.go [1,2,6,7,8] [0,1] rfl ?_))
 try simp only[By.h0,F,go_sem]
 refine Aq (aS _ _ (oi h1).symm (Ae.go [1,2,6,7,8] [0,1] rfl ?_))
 try simp only[By.h0,F,go_sem]
 refine Aq (aS _ _ (oi h1).symm (Ae.go [1,2,6,7,8] [0,1] rfl ?_))
 try simp only[By.h0,F,go_sem]
 refine Aq (aY _ _ (oi h1).symm (Ae.go [7] [1] rfl ?_))
 try simp only[By.x0,F,go_sem]
 rintro l8 aQ
 subst aQ
 simp only at h0
 refine rS ?_
 try simp only[By.x0,F,go_sem]
 obtain rfl:=oi h0
 refine Ad rfl ?_
 try simp only[F,go_sem]
def EZ.c:SC:=
 SQ [RG [wE 2 46 0 [0],wE 3 94 1 [1],wB 4 false 4 [4]],RG [wC 24 14 #[] #[] 4,wG 5 24 4 [24]],RG [wD 26 46 2,wF 27 94 3 0,wD 28 25 27 [27],wW 29 50 26 28 46 25 73 [26,28],wV 25 29 73 [29],wX 30 25 0 46,wX 31 25 1 28 [25],wA 6 46,wS 46 6 30 [30],wG 7 31 28 [31]],RG [wD 33 46 2,wF 34 94 3 0,wD 35 25 34 [34],wW 36 52 33 35 46 25 73 [33,35],wV 32 36 73 [36],wX 37 32 0 46,wX 38 32 1 28 [32],wA 8 46,
 wS 46 8 37 [37],wG 9 38 28 [38]],RG [wD 40 46 2,wU 41 53 40 46 96 [40],wV 39 41 96 [41],wX 42 39 0 95,wX 43 39 1 28 [39],wA 10 95,wS 95 10 42 [42],wG 11 43 28 [43]],RG [wD 45 46 2,wU 46 54 45 46 96 [45],wV 44 46 96 [46],wX 47 44 0 95,wX 48 44 1 28 [44],wA 12 95,wS 95 12 47 [47],wG 13 48 28 [48]],RG [wD 50 46 2,wF 51 94 3 1,wD 52 23 51 [51],wW 53 55 50 52 46 23 98 [50,52],wV 49 53 98 [53],
 wX 54 49 0 4,wX 55 49 1 28 [49],wG 14 54 4 [54],wG 15 55 28 [55]],RG [wD 57 46 2,wF 58 94 3 1,wD 59 23 58 [58],wW 60 56 57 59 46 23 98 [57,59],wV 56 60 98 [60],wX 61 56 0 4,wX 62 56 1 28 [56],wG 16 61 4 [61],wG 17 62 28 [62]],RG [wD 64 46 2,wF 65 94 3 2,wD 66 3 65 [65],wW 67 57 64 66 46 3 100 [64,66],wV 63 67 100 [67],wX 68 63 0 44,wX 69 63 1 28 [63],wG 18 68 44 [68],wG 19 69 28 [69]],
 RG [wD 71 46 2,wF 72 94 3 2 [3],wD 73 3 72 [72],wW 74 58 71 73 46 3 100 [71,73],wV 70 74 100 [74],wX 75 70 0 44,wX 76 70 1 28 [70],wG 20 75 44 [75],wG 21 76 28 [76]],RG [wD 77 46 6 [6],wD 78 46 8 [8],wW 79 42 77 78 46 46 4 [77,78],wG 22 79 4 [79]],RG [wV 80 18 44 [18],wV 81 20 44 [20],wW 82 59 80 81 44 44 4 [80,81],wG 23 82 4 [82]],.bB [wV 83 5 4,wV 84 83 4,gd 84 true (wD 85 46 2),
 gd 84 true (wU 86 51 85 46 28),gd 84 true (wD 87 46 2),gd 84 true (wU 88 60 87 46 28),gd 84 true (wO 89 .eql 28 86 88 28 4),wZ 90 84 89 4,wV 91 90 4,gd 91 true (wV 92 22 4),wZ 93 91 92 4,wV 94 93 4,gd 94 true (wV 95 7 28),gd 94 true (wV 96 9 28),gd 94 true (wO 97 .eql 28 95 96 28 4),wZ 98 94 97 4,wV 99 98 4,gd 99 true (wD 100 95 10),gd 99 true (wD 101 95 12),
 gd 99 true (wO 102 .eql 95 100 101 95 4),wZ 103 99 102 4,wV 104 103 4,gd 104 true (wV 105 11 28),gd 104 true (wV 106 13 28),gd 104 true (wO 107 .eql 28 105 106 28 4),wZ 108 104 107 4,wV 109 108 4,gd 109 true (wV 110 14 4),gd 109 true (wV 111 16 4),gd 109 true (wO 112 .eql 4 110 111 4 4),wZ 113 109 112 4,wV 114 113 4,gd 114 true (wV 115 15 28),gd 114 true (wV 116 17 28),
 gd 114 true (wO 117 .eql 28 115 116 28 4),wZ 118 114 117 4,wV 119 118 4,gd 119 true (wV 120 23 4),wZ 121 119 120 4,wV 122 121 4,gd 122 true (wV 123 19 28),gd 122 true (wV 124 21 28),gd 122 true (wO 125 .eql 28 123 124 28 4),wZ 126 122 125 4,wG 4 126 4] [[],[0],[0,1],[0,1,2],[0,1],[0,1,4,2,3],[0,1,2,3,4,5],[0,1,2,3,4,5,6],[0,1,2,3,4,5,6,7],[0,1,2,3,4,5,6,7,8],[0,1,2,3,4,5,6,7,8,9],[0,1,2,3,4,5,6,7,
 8,9,10],[0,1,2,3,4,5,6,7,8,9,10,11],[0,1,2,3,4,5,6,7,8,9,10,11],[0,1,2,3,4,5,6,7,8,9,10,11,12,13],[0,1,2,3,4,5,6,7,8,9,10,11,12,13,14],[0,1,2,3,4,5,6,7,8,9,10,11,12,13,14,15],[0,1,2,3,4,5,6,7,8,9,10,11,12,13,14,15,16],[0,1,2,3,4,5,6,7,8,9,10,11,12,13,14,15,16],[0,1,2,3,4,5,6,7,8,9,10,11,12,13,14,15,16,17,18],[0,1,2,3,4,5,6,7,8,9,10,11,12,13,14,15,16,17,18,19],[0,1,2,3,4,5,6,7,8,9,10,11,12,13,14,
 15,16,17,18,19,20],[0,1,2,3,4,5,6,7,8,9,10,11,12,13,14,15,16,17,18,19,20,21],[0,1,2,3,4,5,6,7,8,9,10,11,12,13,14,15,16,17,18,19,20,21],[0,1,2,3,4,5,6,7,8,9,10,11,12,13,14,15,16,17,18,19,20,21,22,23],[0,1,2,3,4,5,6,7,8,9,10,11,12,13,14,15,16,17,18,19,20,21,22,23,24],[0,1,2,3,4,5,6,7,8,9,10,11,12,13,14,15,16,17,18,19,20,21,22,23,24,25],[0,1,2,3,4,5,6,7,8,9,10,11,12,13,14,15,16,17,18,19,20,21,22,23,
 24,25,26],[0,1,2,3,4,5,6,7,8,9,10,11,12,13,14,15,16,17,18,19,20,21,22,23,24,25,26],[0,1,2,3,4,5,6,7,8,9,10,11,12,13,14,15,16,17,18,19,20,21,22,23,24,25,26,27,28],[0,1,2,3,4,5,6,7,8,9,10,11,12,13,14,15,16,17,18,19,20,21,22,23,24,25,26,27,28,29],[0,1,2,3,4,5,6,7,8,9,10,11,12,13,14,15,16,17,18,19,20,21,22,23,24,25,26,27,28,29,30],[0,1,2,3,4,5,6,7,8,9,10,11,12,13,14,15,16,17,18,19,20,21,22,23,24,25,
 26,27,28,29,30,31],[0,1,2,3,4,5,6,7,8,9,10,11,12,13,14,15,16,17,18,19,20,21,22,23,24,25,26,27,28,29,30,31],[0,1,2,3,4,5,6,7,8,9,10,11,12,13,14,15,16,17,18,19,20,21,22,23,24,25,26,27,28,29,30,31,32,33],[0,1,2,3,4,5,6,7,8,9,10,11,12,13,14,15,16,17,18,19,20,21,22,23,24,25,26,27,28,29,30,31,32,33,34],[0,1,2,3,4,5,6,7,8,9,10,11,12,13,14,15,16,17,18,19,20,21,22,23,24,25,26,27,28,29,30,31,32,33,34,35],
 [0,1,2,3,4,5,6,7,8,9,10,11,12,13,14,15,16,17,18,19,20,21,22,23,24,25,26,27,28,29,30,31,32,33,34,35,36],[0,1,2,3,4,5,6,7,8,9,10,11,12,13,14,15,16,17,18,19,20,21,22,23,24,25,26,27,28,29,30,31,32,33,34,35,36,37],[0,1,2,3,4,5,6,7,8,9,10,11,12,13,14,15,16,17,18,19,20,21,22,23,24,25,26,27,28,29,30,31,32,33,34,35,36,37,38],[0,1,2,3,4,5,6,7,8,9,10,11,12,13,14,15,16,17,18,19,20,21,22,23,24,25,26,27,28,29,
 30,31,32,33,34,35,36,37,38,39],[0,1,2,3,4,5,6,7,8,9,10,11,12,13,14,15,16,17,18,19,20,21,22,23,24,25,26,27,28,29,30,31,32,33,34,35,36,37,38,39],[0,1,2,3,4,5,6,7,8,9,10,11,12,13,14,15,16,17,18,19,20,21,22,23,24,25,26,27,28,29,30,31,32,33,34,35,36,37,38,39,40,41],[0,1,2,3,4,5,6,7,8,9,10,11,12,13,14,15,16,17,18,19,20,21,22,23,24,25,26,27,28,29,30,31,32,33,34,35,36,37,38,39,40,41,42],[0,1,2,3,4,5,6,7,
 8,9,10,11,12,13,14,15,16,17,18,19,20,21,22,23,24,25,26,27,28,29,30,31,32,33,34,35,36,37,38,39,40,41,42,43]] [2,5,7,9,10,11,12,13,14,15,16,17,19,21,22,23,83,84,85,86,87,88,89,90,91,92,93,94,95,96,97,98,99,100,101,102,103,104,105,106,107,108,109,110,111,112,113,114,115,116,117,118,119,120,121,122,123,124,125,126],.ret]
def DE (k:Nat) (b0:Al) (x1:B9):Option (Bool):=
 (D7 k).bind fun x2=>
 (su k b0 x1.Ab).bind fun x3=>
 (DK k b0 x1.Ab).bind fun x4=>
 (sw k b0).bind fun x5=>
 (DM k b0).bind fun x6=>
 (sy k b0 x1.At).bind fun x7=>
 (DO k b0 x1.At).bind fun x8=>
 (ee k b0 x1.AI).bind fun x9=>
 (By k b0 x1.AI).bind fun dK=>
 (DN k x3.1 x4.1).bind fun ed=>
 (Bu k x9.1 dK.1).bind fun cA=>
 bif x2 then
  (dO k b0).bind fun bO=>
  (Bm k b0).bind fun eT=>
  bif decide (bO=eT) then
   bif ed then
    bif decide (x3.2=x4.2) then
     bif (Aa.eq (fun(x y:Int)=>decide (x=y)) x5.1 x6.1) then
      bif decide (x5.2=x6.2) then
       bif (x7.1==x8.1) then
        bif decide (x7.2=x8.2) then
         bif cA then
          some (decide (x9.2=dK.2))
         else
          some false
        else
         some false
       else
        some false
      else
       some false
     else
      some false
    else
     some false
   else
    some false
  else
   some false
 else
  some false
theorem Gh (k:Nat) (b0:Al) (x1:B9) (r:Bool) (h0:DE k b0 x1=some r):An Try.prog 11 [.agg (Al.c b0),.agg (B9.c x1)] (fun y=>y=.bool r):=by
 refine PB Try.f11 EZ.c [.tmp 4] ?_
 simp only[DE]at h0
 try simp only[EZ.c,go_sem]
 refine ay h0 (Gi k) ?_ (fun x2 h0=>?_)<;>try simp only[go_sem]
 refine ay h0 (agh k _ _) ?_ (fun x3 h0=>?_)<;>try simp only[go_sem]
 refine ay h0 (Gn k _ _) ?_ (fun x4 h0=>?_)<;>try simp only[go_sem]
 refine ay h0 (agl k _) ?_ (fun x5 h0=>?_)<;>try simp only[go_sem]
 refine ay h0 (Gp k _) ?_ (fun x6 h0=>?_)<;>try simp only[go_sem]
 refine ay h0 (ago k _ _) ?_ (fun x7 h0=>?_)<;>try simp only[go_sem]
 refine ay h0 (Gs k _ _) ?_ (fun x8 h0=>?_)<;>try simp only[go_sem]
 refine ay h0 (agn k _ _) ?_ (fun x9 h0=>?_)<;>try simp only[go_sem]
 refine ay h0 (Gr k _ _) ?_ (fun dK h0=>?_)<;>try simp only[go_sem]
 refine ay h0 (Gq k _ _) ?_ (fun ed h0=>?_)<;>try simp only[go_sem]
 refine ay h0 (FJ k _ _) ?_ (fun cA h0=>?_)<;>try simp only[go_sem]
 refine A1 As bY 1000 ?_
 try simp only[go_sem]
 refine DZ h0 ?_ ?_<;>intro dt h0<;>have F:=dt<;>try simp only[F,go_sem]
 refine eJ h0 (sv k _) ?_ (fun bO h0=>?_)<;>try simp only[F,go_sem]
 refine eJ h0 (DL k _) ?_ (fun eT h0=>?_)<;>try simp only[F,go_sem]
 refine DF F h0 ?_ ?_<;>intro F h0<;>try simp only[F,go_sem]
 refine DF F h0 ?_ ?_<;>intro F h0<;>try simp only[F,go_sem]
 refine DF F h0 ?_ ?_<;>intro F h0<;>try simp only[F,go_sem]
 refine DF F h0 ?_ ?_<;>intro F h0<;>try simp only[F,go_sem]
 refine DF F h0 ?_ ?_<;>intro F h0<;>try simp only[F,go_sem]
 refine DF F h0 ?_ ?_<;>intro F h0<;>try simp only[F,go_sem]
 refine DF F h0 ?_ ?_<;>intro F h0<;>try simp only[F,go_sem]
 refine DF F h0 ?_ ?_<;>intro F h0<;>try simp only[F,go_sem]
 refine aT ?_
 try simp only[F,go_sem]
 obtain rfl:=oi h0
 refine Ad rfl ?_
 try simp only[F,go_sem]
 refine aT ?_
 try simp only[F,go_sem]
 obtain rfl:=oi h0
 refine Ad rfl ?_
 try simp only[F,go_sem]
 refine aT ?_
 try simp only[F,go_sem]
 obtain rfl:=oi h0
 refine Ad rfl ?_
 try simp only[F,go_sem]
 refine aT ?_
 try simp only[F,go_sem]
 obtain rfl:=oi h0
 refine Ad rfl ?_
 try simp only[F,go_sem]
 refine aT ?_
 try simp only[F,go_sem]
 obtain rfl:=oi h0
 refine Ad rfl ?_
 try simp only[F,go_sem]
 refine aT ?_
 try simp only[F,go_sem]
 obtain rfl:=oi h0
 refine Ad rfl ?_
 try simp only[F,go_sem]
 refine aT ?_
 try simp only[F,go_sem]
 obtain rfl:=oi h0
 refine Ad rfl ?_
 try simp only[F,go_sem]
 refine aT ?_
 try simp only[F,go_sem]
 obtain rfl:=oi h0
 refine Ad rfl ?_
 try simp only[F,go_sem]
 refine aT ?_
 try simp only[F,go_sem]
 obtain rfl:=oi h0
 refine Ad rfl ?_
 try simp only[F,go_sem]
 refine aT ?_
 try simp only[F,go_sem]
 obtain rfl:=oi h0
 refine Ad rfl ?_
 try simp only[F,go_sem]
end Go.Abs
namespace Go.Abs
open Go Go.Proofs Go.RowKit
def qB:Nat:=reachBytes
theorem rN:Reads qB Try.prog 3 eI m0:=Reads.int Try.underlying3
def Entry.q (x:Entry):Prop:=m0 x.Ag/\m0 x.No
theorem aaX:Reads qB Try.prog 23 Entry.c Entry.q:=(Reads.struct Try.underlying23 (by kernel_rfl) (BF.cons (off:=0) (sz:=1) (off':=1) (tot:=2) rfl (by kernel_rfl) rfl rN (BF.cons (off:=1) (sz:=1) (off':=2) (tot:=2) rfl (by kernel_rfl) rfl rN (BF.nil (off:=2) (tot:=2) (by decide))))).as (fun p=>⟨p.1,p.2.1⟩) (fun _=>rfl) (fun _ h=>⟨h.1,h.2.1⟩)
theorem ajF:Reads qB Try.prog 9 eS (fun s=>s.size<=Go.maxLen):=Reads.string Try.underlying9
def Ab.q (x:Ab):Prop:=Entry.q x.At/\m0 x.Kind/\m0 x.Day/\m0 x.AI/\Entry.q x.Of/\(fun s=>s.size<=Go.maxLen) x.Text
theorem ad7:Reads qB Try.prog 25 Ab.c Ab.q:=(Reads.struct Try.underlying25 (by kernel_rfl) (BF.cons (off:=0) (sz:=2) (off':=2) (tot:=8) rfl (by kernel_rfl) rfl aaX (BF.cons (off:=2) (sz:=1) (off':=3) (tot:=8) rfl (by kernel_rfl) rfl rN (BF.cons (off:=3) (sz:=1) (off':=4) (tot:=8) rfl (by kernel_rfl) rfl rN (BF.cons (off:=4) (sz:=1) (off':=5) (tot:=8) rfl (by kernel_rfl) rfl rN (BF.cons (off:=5) (sz:=2) (off':=7) (tot:=8) rfl (by kernel_rfl) rfl aaX (BF.cons (off:=7) (sz:=1) (off':=8) (tot:=8) rfl (by kernel_rfl) rfl ajF (BF.nil (off:=8) (tot:=8) (by decide))))))))).as (fun p=>⟨p.1,p.2.1,p.2.2.1,p.2.2.2.1,p.2.2.2.2.1,p.2.2.2.2.2.1⟩) (fun _=>rfl) (fun _ h=>⟨h.1,h.2.1,h.2.2.1,h.2.2.2.1,h.2.2.2.2.1,h.2.2.2.2.2.1⟩)
theorem ajD:Reads qB Try.prog 44 (eL 8 Ab.c) (fun l=>l.length<=Go.maxLen/\l.length*72<=qB/\∀ a∈l,Ab.q a):=Reads.slice Try.underlying44 (by kernel_rfl) (by kernel_rfl) (by decide) ad7
def Al.q (x:Al):Prop:=(fun l=>l.length<=Go.maxLen/\l.length*72<=qB/\∀ a∈l,Ab.q a) x.Ac
theorem ajE:Reads qB Try.prog 46 Al.c Al.q:=(Reads.struct Try.underlying46 (by kernel_rfl) (BF.cons (off:=0) (sz:=1) (off':=1) (tot:=1) rfl (by kernel_rfl) rfl ajD (BF.nil (off:=1) (tot:=1) (by decide)))).as (fun p=>⟨p.1⟩) (fun _=>rfl) (fun _ h=>h.1)
def B9.q (x:B9):Prop:=Ab.q x.Ab/\Entry.q x.At/\m0 x.AI
theorem ajG:Reads qB Try.prog 94 B9.c B9.q:=(Reads.struct Try.underlying94 (by kernel_rfl) (BF.cons (off:=0) (sz:=8) (off':=8) (tot:=11) rfl (by kernel_rfl) rfl ad7 (BF.cons (off:=8) (sz:=2) (off':=10) (tot:=11) rfl (by kernel_rfl) rfl aaX (BF.cons (off:=10) (sz:=1) (off':=11) (tot:=11) rfl (by kernel_rfl) rfl rN (BF.nil (off:=11) (tot:=11) (by decide)))))).as (fun p=>⟨p.1,p.2.1,p.2.2.1⟩) (fun _=>rfl) (fun _ h=>⟨h.1,h.2.1,h.2.2.1⟩)
end Go.Abs
namespace Go.Abs
open Go
theorem aeW {α R:Type}{l:List α}{body:Int->Option (AW Int Unit R)}{p:α->Bool}{c:R} (hn:l.length<=9223372036854775807) {k:Nat} (hk:l.length<k)
  (h1:∀ (i:Nat) x,l[i]?=some x->body (i:Int)=some (bif p x then .next (af ((i:Int)+1)) else .ret c)) (h2:body (l.length:Int)=some (.brk ())):
  aB body k 0=some (bif l.all p then .brk () else .ret c):=by
 have h:=akC (body:=body) (l:=l) (f:=fun i=>bif p i then none else some c) hn hk (fun i x hi=>by rw[h1 i x hi];cases p x<;>rfl) h2
 rw[h]
 have:l.findSome? (fun i=>bif p i then none else some c)=bif l.all p then none else some c:=by
  clear h h1 h2 hn hk
  induction l with
  |nil=>rfl
  |cons x l ih=>
   rw[List.findSome?_cons,List.all_cons]
   cases hp:p x with
   |true=>simpa using ih
   |false=>simp
 rw[this]
 cases l.all p<;>rfl
theorem aeY {S R τ:Type}{n:Nat}{body:τ->Option (AW τ S R)} (mk:Int->S->τ) (f:S->Nat->S) (Inv:Nat->S->Prop) (hn:n<=9223372036854775807) {k:Nat} (hk:n<k) {s0:S} (h0:Inv 0 s0)
  (h1:∀ i s,i<n->Inv i s->body (mk (i:Int) s)=some (.next (mk (af ((i:Int)+1)) (f s i)))/\Inv (i+1) (f s i)) (h2:∀ s,Inv n s->body (mk (n:Int) s)=some (.brk s)):
  aB body k (mk 0 s0)=some (.brk ((List.range n).foldl f s0))/\Inv n ((List.range n).foldl f s0):=by
 have h:=aeX (l:=List.range n) (body:=body) mk f Inv (by simpa using hn) (k:=k) (by simpa using hk) h0 (fun i x s hx hI=>by
  have hi:i<n:=by have:=(gS.1 hx).1;simpa using this
  have e:x=i:=by have:=hx;rw[List.getElem?_range hi]at this;exact(oi this).symm
  subst e
  exact h1 x s hi hI) (fun s hI=>by have:=h2 s (by simpa using hI);simpa using this)
 exact⟨h.1,by simpa using h.2⟩
theorem akD {S E R τ:Type}{n:Nat}{body:τ->Option (AW τ E R)} (mk:Int->S->τ) (g:S->E) (f:S->Nat->Option S) (c:R) (Inv:Nat->S->Prop) (hn:n<=9223372036854775807) {k:Nat} (hk:n<k) {s0:S} (h0:Inv 0 s0)
  (h1:∀ i s,i<n->Inv i s->body (mk (i:Int) s)=some (match f s i with|some s'=>.next (mk (af ((i:Int)+1)) s')|none=>.ret c)/\∀ s',f s i=some s'->Inv (i+1) s') (h2:∀ s,Inv n s->body (mk (n:Int) s)=some (.brk (g s))):
  aB body k (mk 0 s0)=some (match (List.range n).foldlM f s0 with|some s=>.brk (g s)|none=>.ret c)/\∀ s,(List.range n).foldlM f s0=some s->Inv n s:=by
 have key:∀ (d i k:Nat) (s:S),i+d=n->d<k->Inv i s->aB body k (mk (i:Int) s)=some (match (List.range' i d).foldlM f s with|some s=>.brk (g s)|none=>.ret c)/\∀ s',(List.range' i d).foldlM f s=some s'->Inv n s':=by
  intro d
  induction d with
  |zero=>
   intro i k s hi hk hI
   cases k with
   |zero=>omega
   |succ k=>
    have:i=n:=by omega
    subst this
    refine⟨?_,fun s' hs=>?_⟩
    ·rw[aB,h2 s hI];rfl
    ·have:s=s':=oi hs
     exact this▸hI
  |succ d ih=>
   intro i k s hi hk hI
   cases k with
   |zero=>omega
   |succ k=>
    obtain⟨g1,g2⟩:=h1 i s (by omega) hI
    rw[List.range'_succ,List.foldlM_cons,aB,g1]
    cases hf:f s i with
    |none=>exact⟨rfl,fun s' hs=>by cases hs⟩
    |some s1=>
     have:af ((i:Int)+1)=((i+1:Nat):Int):=by rw[gv (by omega) (by omega)];omega
     simp only[this]
     exact ih (i+1) k s1 (by omega) (by omega) (g2 s1 hf)
 have:=key n 0 k s0 (by omega) hk h0
 rw[List.range_eq_range']
 exact this
end Go.Abs
namespace Go.Abs
open Go Go.Proofs
def be (n:Int):Nat->List Int
 |0=>[]
 |w+1=>IntKind.u8.wrap (Int.fdiv n (2 ^ (8*w)))::be n w
theorem af0 {α:Type}{b:Nat}{l x:List α} (h:(l.length+x.length)*b<=140737488355328) (h2:l.length+x.length<4611686018427387904):iN b l x=some (l++x):=by
 unfold iN;rw[if_pos ⟨h,h2⟩]
def enc (r:Ab):List Int:=be r.At.Ag 1++be r.At.No 2++be r.Kind 1++be r.Day 4++be r.AI 4++be r.Of.Ag 1++be r.Of.No 2++be (r.Text.size:Int) 1++iH r.Text
def within (n lo hi:Int):Bool:=decide (lo<=n)&&decide (n<=hi)
theorem aaB (k:Nat) (n lo hi:Int):iP k n lo hi=some (within n lo hi):=by
 unfold iP within
 cases decide (lo<=n)<;>rfl
theorem aaz (k:Nat) (n lo hi:Int):Cp k n lo hi=some (within n lo hi):=by
 unfold Cp within
 cases decide (lo<=n)<;>rfl
def jX (p:Entry):Bool:=within p.Ag 0 5&&within p.No 0 9999
theorem aiv (k:Nat) (p:Entry):qF k p=some (jX p):=by
 unfold qF jX
 simp only[aaB,Av]
 cases within p.Ag 0 5<;>rfl
theorem aiu (k:Nat) (p:Entry):C6 k p=some (jX p):=by
 unfold C6 jX
 simp only[aaz,Av]
 cases within p.Ag 0 5<;>rfl
def pb (x:Int):Bool:=!decide (x<32)&&!decide (126<x)
def qb (s:ByteArray):Bool:=!decide ((200:Int)<(s.size:Int))&&(iH s).all pb
theorem aeo {s:ByteArray}{i:Nat}{x:Int} (h:(iH s)[i]?=some x):oF s (i:Int)=some x:=by
 have hi:i<s.size:=by have:=(gS.1 h).1;rwa [nk]at this
 unfold oF
 rw[if_pos (by omega)]
 unfold iH at h
 rw[Bz,mS]at h
 obtain⟨c,h1,rfl⟩:=h
 simp[List.getD,h1]
theorem aix {k:Nat} (hk:1000<k) (s:ByteArray):fi k s=some (qb s):=by
 unfold fi qb
 by_cases h:(200:Int)<(s.size:Int)
 ·simp[h]
 ·have hl:(iH s).length<=200:=by rw[nk];omega
  have:=aeW (l:=iH s) (body:=fi.b0 k s) (p:=pb) (c:=false) (by omega) (k:=k) (by omega) (fun i x hx=>by
   have hi:i<s.size:=by have:=(gS.1 hx).1;rwa [nk]at this
   unfold fi.b0 pb
   simp only[Bo (show ((i:Int)<(s.size:Int)) by omega),AH,aeo hx,Av]
   cases decide (x<32)<;>cases decide (126<x)<;>rfl) (by
   unfold fi.b0
   simp only[nk,(by simp:decide ((s.size:Int)<(s.size:Int))=false),AB])
  simp only[BU h,AB,B4,Bb]
  rw[this]
  cases (iH s).all pb<;>rfl
theorem aiw {k:Nat} (hk:1000<k) (s:ByteArray):BI k s=some (qb s):=by
 unfold BI qb
 by_cases h:(200:Int)<(s.size:Int)
 ·simp[h]
 ·have hl:(iH s).length<=200:=by rw[nk];omega
  have:=aeW (l:=iH s) (body:=BI.b0 k s) (p:=pb) (c:=false) (by omega) (k:=k) (by omega) (fun i x hx=>by
   have hi:i<s.size:=by have:=(gS.1 hx).1;rwa [nk]at this
   unfold BI.b0 pb
   simp only[Bo (show ((i:Int)<(s.size:Int)) by omega),AH,aeo hx,Av]
   cases decide (x<32)<;>cases decide (126<x)<;>rfl) (by
   unfold BI.b0
   simp only[nk,(by simp:decide ((s.size:Int)<(s.size:Int))=false),AB])
  simp only[BU h,AB,B4,Bb]
  rw[this]
  cases (iH s).all pb<;>rfl
def fJ (r:Ab):Bool:=
 jX r.At&&(within r.Kind 0 40&&(within r.Day 0 100000&&(within r.AI 0 100000&&(qb r.Text&&
  (bif !decide (r.Kind=(0:Int)) then decide (r.Of.Ag=(0:Int))&&decide (r.Of.No=(0:Int))
   else decide (r.Day=(0:Int))&&((r.Text.toList==ByteArray.empty.toList)&&(jX r.Of&&(decide (r.Of.Ag=r.At.Ag)&&decide (r.Of.No<r.At.No)))))))))
theorem ady {k:Nat} (hk:1000<k) (r:Ab):lp k r=some (fJ r):=by
 unfold lp fJ
 simp only[aiv,aaB,aix hk,Av]
 cases jX r.At<;>simp only[AH,AB,Bb,Bool.false_and]
 cases within r.Kind 0 40<;>simp only[AH,AB,Bb,Bool.false_and]
 cases within r.Day 0 100000<;>simp only[AH,AB,Bb,Bool.false_and]
 cases within r.AI 0 100000<;>simp only[AH,AB,Bb,Bool.false_and]
 cases qb r.Text<;>simp only[AH,AB,Bb,Bool.false_and,BM,B4]
 cases decide (r.Kind=(0:Int))<;>simp only[AH,AB,Bb,Bool.false_and,BM,B4]
 cases decide (r.Day=(0:Int))<;>simp only[AH,AB,Bb,Bool.false_and]
 cases (r.Text.toList==ByteArray.empty.toList)<;>simp only[AH,AB,Bb,Bool.false_and]
 cases jX r.Of<;>simp only[AH,AB,Bb,Bool.false_and]
 cases decide (r.Of.Ag=r.At.Ag)<;>simp only[AH,AB,Bb,Bool.false_and]
theorem ab0 {k:Nat} (hk:1000<k) (r:Ab):C4 k r=some (bif fJ r then 0 else 90):=by
 unfold C4 fJ
 simp only[aiu,aaz,aiw hk,Av]
 cases jX r.At<;>simp only[AH,AB,Bb,Bool.false_and]
 cases within r.Kind 0 40<;>simp only[AH,AB,Bb,Bool.false_and]
 cases within r.Day 0 100000<;>simp only[AH,AB,Bb,Bool.false_and]
 cases within r.AI 0 100000<;>simp only[AH,AB,Bb,Bool.false_and]
 cases qb r.Text<;>simp only[AH,AB,Bb,Bool.false_and,BM,B4]
 cases decide (r.Kind=(0:Int))<;>simp only[AH,AB,Bb,Bool.false_and,BM,B4]
 ·cases (decide (r.Of.Ag=(0:Int))&&decide (r.Of.No=(0:Int)))<;>rfl
 cases decide (r.Day=(0:Int))<;>simp only[AH,AB,Bb,Bool.false_and]
 cases (r.Text.toList==ByteArray.empty.toList)<;>simp only[AH,AB,Bb,Bool.false_and]
 cases jX r.Of<;>simp only[AH,AB,Bb,Bool.false_and]
 cases decide (r.Of.Ag=r.At.Ag)<;>simp only[AH,AB,Bb,Bool.false_and]
 by_cases h:r.At.No<=r.Of.No
 ·simp[h,show ¬ r.Of.No<r.At.No by omega]
 ·simp[h,show r.Of.No<r.At.No by omega]
theorem ajS:D7 18446744073709551616=some true:=by decide +kernel
end Go.Abs
namespace Go.Abs
open Go
end Go.Abs
namespace Go.Abs
def du (a b:Int×Int):Prop:=a.1<b.1\/(a.1=b.1/\a.2<b.2)
instance (a b:Int×Int):Decidable (du a b):=inferInstanceAs (Decidable (_\/_))
theorem zy {a b c:Int×Int} (h:du a b) (g:du b c):du a c:=by unfold du at *;omega
theorem zx (a:Int×Int):¬ du a a:=by unfold du;omega
section
variable {α:Type} (key:α->Int×Int)
def Cc (l:List α):Prop:=l.Pairwise fun x y=>du (key x) (key y)
def bK (l:List α) (h:Int):Nat:=l.countP fun x=>decide ((key x).1=h)
theorem zj (h:Int):bK key [] h=0:=rfl
theorem agM (l m:List α) (h:Int):bK key (l++m) h=bK key l h+bK key m h:=by
 unfold bK;exact List.countP_append
theorem zi (x:α) (l:List α) (h:Int):bK key (x::l) h=bK key l h+if (key x).1=h then 1 else 0:=by
 unfold bK;rw[List.countP_cons];simp only[decide_eq_true_eq]
def VL:(Int->Int)->List α->Prop
 |_,[]=>True
 |c,x::l=>(key x).2=c (key x).1/\VL (fun h=>if h=(key x).1 then c h+1 else c h) l
def FQ (l:List α):Prop:=Cc key l/\VL key (fun _=>0) l
def pos (l:List α) (e:Int×Int):Nat:=l.countP fun x=>decide (du (key x) e)
theorem uI (l:List α) (e:Int×Int):pos key l e<=l.length:=List.countP_le_length
def ry (l:List α) (r:α):List α:=l.take (pos key l (key r))++r::l.drop (pos key l (key r))
theorem aju (x:α) (l:List α) (e:Int×Int):pos key (x::l) e=pos key l e+if du (key x) e then 1 else 0:=by
 unfold pos;rw[List.countP_cons];simp only[decide_eq_true_eq]
theorem ajv {l:List α}{e:Int×Int} (H:∀ x∈l,¬ du (key x) e):pos key l e=0:=by
 unfold pos;rw[List.countP_eq_zero];intro x hx;simp[H x hx]
theorem aet:∀ {l:List α},Cc key l->∀ (e:Int×Int),(∀ x∈l.take (pos key l e),du (key x) e)/\(∀ x∈l.drop (pos key l e),¬ du (key x) e)
 |[],_,e=>by simp
 |y::l,hs,e=>by
  have lQ:=List.pairwise_cons.1 hs
  by_cases h:du (key y) e
  ·obtain⟨h1,h2⟩:=aet lQ.2 e
   rw[aju,if_pos h]
   refine⟨fun x hx=>?_,fun x hx=>?_⟩
   ·rw[List.take_succ_cons]at hx
    rcases BA.1 hx with rfl|hx
    ·exact h
    ·exact h1 x hx
   ·rw[List.drop_succ_cons]at hx;exact h2 x hx
  ·have hz:pos key (y::l) e=0:=ajv key (fun x hx=>by
    rcases BA.1 hx with rfl|hx
    ·exact h
    ·intro hc;exact h (zy (lQ.1 x hx) hc))
   rw[hz]
   refine⟨by simp,fun x hx=>?_⟩
   rw[List.drop_zero]at hx
   rcases BA.1 hx with rfl|hx
   ·exact h
   ·intro hc;exact h (zy (lQ.1 x hx) hc)
theorem nj {l:List α} (hs:Cc key l) (e:Int×Int) {i:Nat}{x:α} (hx:l[i]?=some x):du (key x) e↔i<pos key l e:=by
 obtain⟨h1,h2⟩:=aet key hs e
 constructor
 ·intro h
  rcases Nat.lt_or_ge i (pos key l e) with hi|hi
  ·exact hi
  ·exact absurd h (h2 x (Bl.2 ⟨i - pos key l e,by rw[BN,Nat.add_sub_cancel' hi];exact hx⟩))
 ·intro h
  exact h1 x (Bl.2 ⟨i,by rw[Bx,if_pos h];exact hx⟩)
theorem aio (l:List α) (r:α):(ry key l r).length=l.length+1:=by
 have:=uI key l (key r)
 unfold ry;simp;omega
theorem aj7 {l:List α} (hs:Cc key l) {x y:α} (hx:x∈l) (hy:y∈l) (e:key x=key y):x=y:=by
 obtain⟨i,hi⟩:=Bl.1 hx
 obtain⟨j,hj⟩:=Bl.1 hy
 have h1:=(nj key hs (key y) hi)
 have h2:=(nj key hs (key y) hj)
 have h3:=(nj key hs (key x) hi)
 have h4:=(nj key hs (key x) hj)
 have nW:i=j:=by
  rcases Nat.lt_trichotomy i j with h|h|h
  ·have hp:=List.pairwise_iff_getElem.1 hs i j (gS.1 hi).1 (gS.1 hj).1 h
   rw[(gS.1 hi).2,(gS.1 hj).2,e]at hp
   exact absurd hp (zx _)
  ·exact h
  ·have hp:=List.pairwise_iff_getElem.1 hs j i (gS.1 hj).1 (gS.1 hi).1 h
   rw[(gS.1 hi).2,(gS.1 hj).2,e]at hp
   exact absurd hp (zx _)
 subst nW
 exact oi (hi.symm.trans hj)
end
end Go.Abs
namespace Go.Abs
section
variable {α:Type} [DecidableEq α] (key:α->Int×Int)
def fT (l:List α) (e:Int×Int):Option α:=l.find? fun x=>decide (key x=e)
theorem acJ {l:List α}{e:Int×Int}{x:α} (h:fT key l e=some x):x∈l/\key x=e:=by
 unfold fT at h
 have h1:=List.find?_some h
 exact⟨List.mem_of_find?_eq_some h,by simpa using h1⟩
theorem acH {l:List α}{e:Int×Int} (h:fT key l e=none):∀ x∈l,key x≠e:=by
 unfold fT at h
 rw[List.find?_eq_none]at h
 intro x hx;simpa using h x hx
theorem acG {l:List α}{e:Int×Int} (h:∀ x∈l,key x≠e):fT key l e=none:=by
 unfold fT;rw[List.find?_eq_none];intro x hx;simpa using h x hx
theorem acI {l:List α} (hs:Cc key l) {x:α} (hx:x∈l):fT key l (key x)=some x:=by
 cases h:fT key l (key x) with
 |none=>exact absurd rfl (acH key h x hx)
 |some y=>obtain⟨h1,h2⟩:=acJ key h;rw[aj7 key hs h1 hx h2]
theorem zG {l:List α} (hs:Cc key l) (e:Int×Int):fT key l e=(l[pos key l e]?).filter fun x=>decide (key x=e):=by
 cases h:fT key l e with
 |some x=>
  obtain⟨h1,h2⟩:=acJ key h
  obtain⟨i,hi⟩:=Bl.1 h1
  have hp:i=pos key l e:=by
   rcases Nat.lt_trichotomy i (pos key l e) with g|g|g
   ·have:=(nj key hs e hi).2 g;rw[h2]at this;exact absurd this (zx _)
   ·exact g
   ·have ab:pos key l e<l.length:=by have:=(gS.1 hi).1;omega
    have hy:l[pos key l e]?=some l[pos key l e]:=gG ab
    have h3:¬ du (key l[pos key l e]) e:=fun c=>by have:=(nj key hs e hy).1 c;omega
    have hp:=List.pairwise_iff_getElem.1 hs (pos key l e) i ab (gS.1 hi).1 g
    rw[(gS.1 hi).2,h2]at hp
    exact absurd hp h3
  rw[<-hp,hi]
  simp[Option.filter,h2]
 |none=>
  have hn:=acH key h
  cases hq:l[pos key l e]? with
  |none=>rfl
  |some y=>
   have:=hn y (Ba hq)
   simp[Option.filter,this]
def jn (out:List α) (r:α):Option (List α):=match fT key out (key r) with
 |some x=>if x=r then some out else none
 |none=>some (ry key out r)
def cs (a:List α) (m:Nat) (r:α):Option Nat:=match fT key a (key r) with
 |some x=>if x=r then some m else none
 |none=>some (m+1)
end
end Go.Abs
namespace Go.Abs
section
variable {α:Type} (key:α->Int×Int)
end
section
variable {α:Type} [DecidableEq α] (key:α->Int×Int)
end
end Go.Abs
namespace Go.Abs
open Go Go.Proofs
theorem abC (s:ByteArray):s.toList=s.data.toList:=by
 have key:∀ (d i:Nat) (r:List UInt8),i+d=s.size->ByteArray.toList.loop s i r=r.reverse++s.data.toList.drop i:=by
  intro d
  induction d with
  |zero=>
   intro i r h
   rw[ByteArray.toList.loop,if_neg (by omega)]
   have hl:s.data.toList.length=s.size:=rfl
   rw[DI (by omega),List.append_nil]
  |succ d ih=>
   intro i r h
   have hl:s.data.toList.length=s.size:=rfl
   have hi:i<s.data.toList.length:=by omega
   rw[ByteArray.toList.loop,if_pos (by omega),ih (i+1) _ (by omega),List.drop_eq_getElem_cons hi]
   have e:s.get! i=s.data.toList[i]:=by
    show s.data[i]! = _
    rw[getElem!_pos s.data i (by simpa using hi)];simp
   rw[e];simp
 have:=key s.size 0 [] (by omega)
 simpa [ByteArray.toList] using this
theorem af5 {a b:ByteArray}:a.toList=b.toList↔a=b:=by
 constructor
 ·intro h
  rw[abC,abC]at h
  cases a;cases b
  rename_i x y
  have:x=y:=Array.toList_inj.1 h
  rw[this]
 ·rintro rfl;rfl
def ku (x r:Ab):Bool:=(decide (x.At.Ag=r.At.Ag)&&(decide (x.At.No=r.At.No)&&(decide (x.Kind=r.Kind)&&(decide (x.Day=r.Day)&&(decide (x.AI=r.AI)&&(decide (x.Of.Ag=r.Of.Ag)&&(decide (x.Of.No=r.Of.No)&&(x.Text.toList==r.Text.toList))))))))
theorem xV {x r:Ab}:ku x r=true↔x=r:=by
 obtain⟨⟨a1,a2⟩,a3,a4,a5,⟨a6,a7⟩,a8⟩:=x
 obtain⟨⟨b1,b2⟩,b3,b4,b5,⟨b6,b7⟩,b8⟩:=r
 simp only[ku,AP,decide_eq_true_eq,beq_iff_eq,af5,Ab.mk.injEq,Entry.mk.injEq]
 constructor
 ·rintro⟨h1,h2,h3,h4,h5,h6,h7,h8⟩;exact⟨⟨h1,h2⟩,h3,h4,h5,⟨h6,h7⟩,h8⟩
 ·rintro⟨⟨h1,h2⟩,h3,h4,h5,⟨h6,h7⟩,h8⟩;exact⟨h1,h2,h3,h4,h5,h6,h7,h8⟩
theorem ad9 (x:Ab):ku x x=true:=xV.2 rfl
theorem ad8 {x r:Ab} (h:x≠r):ku x r=false:=by
 cases e:ku x r with
 |false=>rfl
 |true=>exact absurd (xV.1 e) h
instance:DecidableEq Ab:=fun x y=>decidable_of_iff (ku x y=true) xV
def bq (a:Entry):Int×Int:=(a.Ag,a.No)
def ai (r:Ab):Int×Int:=(r.At.Ag,r.At.No)
def pd (a b:Int):Int:=if a<b then -1 else if b<a then 1 else 0
def kN (a b:Entry):Int:=if pd a.Ag b.Ag≠0 then pd a.Ag b.Ag else pd a.No b.No
theorem ab3 (a b:Entry):kN a b<0↔du (bq a) (bq b):=by
 unfold kN pd du bq
 simp only
 repeat' split
 all_goals omega
theorem agK (a b:Entry):kN a b=0↔bq a=bq b:=by
 unfold kN pd bq
 simp only[Prod.mk.injEq]
 repeat' split
 all_goals omega
theorem agN (k:Nat) (a b:Int):qJ k a b=some (pd a b):=by
 unfold qJ cmp_isNaN_int pd
 simp only[Av,AB]
 by_cases h:a<b
 ·simp[h]
 ·by_cases h2:b<a<;>simp[h,h2]
theorem aji {k:Nat} (hk:10<k) (a b:Int):fk k [a,b]=some (if a≠0 then a else b):=by
 obtain⟨m,rfl⟩:∃ m,k=m+3:=⟨k - 3,by omega⟩
 unfold fk
 have h0:at? [a,b] 0=some a:=rfl
 have h1:at? [a,b] 1=some b:=rfl
 have w0:af (0+1)=1:=by decide
 have w1:af (1+1)=2:=by decide
 have v1:af 1=1:=by decide
 have v2:af 2=2:=by decide
 have l2:decide ((2:Int)<(([a,b]:List Int).length:Int))=false:=rfl
 have l1:decide ((1:Int)<(([a,b]:List Int).length:Int))=true:=rfl
 have l0:decide ((0:Int)<(([a,b]:List Int).length:Int))=true:=rfl
 by_cases e:a=0
 ·subst e
  by_cases e2:b=0
  ·subst e2
   simp[aB,fk.b0,h0,h1,w0,w1,v1,v2,l0,l1,l2]
  ·simp[aB,fk.b0,h0,h1,w0,w1,v1,v2,l0,l1,l2,e2]
 ·simp[aB,fk.b0,h0,l0,e]
theorem zk {k:Nat} (hk:10<k) (a b:Entry):qA k a b=some (kN a b):=by
 unfold qA kN
 simp only[agN,aji hk,Av]
theorem ahC {n:Nat} (h:n<=1000000):af (Int.fdiv (IntKind.u64.wrap (af (n:Int))) (2 ^ 1))=((n / 2:Nat):Int):=by
 have h1:IntKind.u64.wrap (n:Int)=n:=by
  simp only[IntKind.wrap,IntKind.bits,IntKind.signed]
  simp
  omega
 rw[gv (n:=(n:Int)) (by omega) (by omega),h1,Int.fdiv_eq_ediv_of_nonneg _ (by decide)]
 have:((n:Int) / 2 ^ 1)=((n / 2:Nat):Int):=by simp
 rw[this,gv (by omega) (by omega)]
theorem ajT {k0:Nat} (fC:10<k0) {l:List Ab} (hs:Cc ai l) (hl:l.length<=1000) (e:Entry):∀ (d i j k:Nat),j - i<=d->d<k->i<=pos ai l (bq e)->pos ai l (bq e)<=j->j<=l.length->
  aB (eR.b0 k0 (fun q0 q1=>nC k0 q0 q1) l e) k ((i:Int),(j:Int))=some (.brk ((pos ai l (bq e):Nat):Int)):=by
 intro d
 induction d with
 |zero=>
  intro i j k h1 h2 h3 h4 h5
  obtain⟨m,rfl⟩:∃ m,k=m+1:=⟨k - 1,by omega⟩
  have:i=pos ai l (bq e):=by omega
  have hd:decide ((i:Int)<(j:Int))=false:=by simp;omega
  simp only[aB,eR.b0,hd,AB]
  rw[this]
 |succ d ih=>
  intro i j k h1 h2 h3 h4 h5
  obtain⟨m,rfl⟩:∃ m,k=m+1:=⟨k - 1,by omega⟩
  by_cases nW:i<j
  ·have hd:decide ((i:Int)<(j:Int))=true:=by simp;omega
   have hm:af (Int.fdiv (IntKind.u64.wrap (af ((i:Int)+(j:Int)))) (2 ^ 1))=(((i+j) / 2:Nat):Int):=by
    have:=ahC (n:=i+j) (by omega)
    rw[<-this];push_cast;rfl
   have ab:(i+j) / 2<l.length:=by omega
   have hx:l[(i+j) / 2]?=some l[(i+j) / 2]:=gG ab
   have jw:=nj ai hs (bq e) hx
   have hf:nC k0 l[(i+j) / 2] e=some (kN l[(i+j) / 2].At e):=by
    unfold nC;rw[zk fC];rfl
   have hc:=ab3 l[(i+j) / 2].At e
   have cQ:bq l[(i+j) / 2].At=ai l[(i+j) / 2]:=rfl
   rw[cQ]at hc
   by_cases hp:(i+j) / 2<pos ai l (bq e)
   ·have nZ:decide (kN l[(i+j) / 2].At e<0)=true:=Bo (hc.2 (jw.2 hp))
    have hw:af ((((i+j) / 2:Nat):Int)+1)=(((i+j) / 2+1:Nat):Int):=by rw[gv (by omega) (by omega)];push_cast;rfl
    simp only[aB,eR.b0,hd,AH,hm,dD hx,Av,hf,nZ,hw]
    exact ih _ _ _ (by omega) (by omega) (by omega) h4 h5
   ·have nZ:decide (kN l[(i+j) / 2].At e<0)=false:=BU (fun c=>hp (jw.1 (hc.1 c)))
    simp only[aB,eR.b0,hd,AH,hm,dD hx,Av,hf,nZ,AB]
    exact ih _ _ _ (by omega) (by omega) h3 (by omega) (by omega)
  ·have:i=pos ai l (bq e):=by omega
   have hd:decide ((i:Int)<(j:Int))=false:=by simp;omega
   simp only[aB,eR.b0,hd,AB]
   rw[this]
theorem acL {k:Nat} (hk:10000<k) {b:Al} (hs:Cc ai b.Ac) (hl:b.Ac.length<=1000) (e:Entry):
  qE k b e=some (((pos ai b.Ac (bq e):Nat):Int),(fT ai b.Ac (bq e)).isSome):=by
 unfold qE eR
 have h:=ajT (k0:=k) (by omega) hs hl e b.Ac.length 0 b.Ac.length k (by omega) (by omega) (by omega) (uI ai _ _) (by omega)
 rw[DJ]at h
 rw[h]
 simp only[Av]
 rw[zG ai hs]
 by_cases hp:pos ai b.Ac (bq e)<b.Ac.length
 ·have hx:b.Ac[pos ai b.Ac (bq e)]?=some b.Ac[pos ai b.Ac (bq e)]:=gG hp
  have hd:decide (((pos ai b.Ac (bq e):Nat):Int)<(b.Ac.length:Int))=true:=by simp;omega
  simp only[hd,AH,dD hx,Av]
  unfold nC
  rw[zk (by omega)]
  simp only[Av,hx]
  have hc:=agK b.Ac[pos ai b.Ac (bq e)].At e
  have cQ:bq b.Ac[pos ai b.Ac (bq e)].At=ai b.Ac[pos ai b.Ac (bq e)]:=rfl
  rw[cQ]at hc
  by_cases he:ai b.Ac[pos ai b.Ac (bq e)]=bq e
  ·rw[hc.2 he];simp[Option.filter,he]
  ·simp[Option.filter,he,mt hc.1 he]
 ·have hx:b.Ac[pos ai b.Ac (bq e)]?=none:=CE (by omega)
  have hd:decide (((pos ai b.Ac (bq e):Nat):Int)<(b.Ac.length:Int))=false:=by simp;omega
  simp only[hd,AB,hx]
  rfl
def jh (l:List Ab):Aa 6 Int:=⟨[bK ai l 0,bK ai l 1,bK ai l 2,bK ai l 3,bK ai l 4,bK ai l 5],rfl⟩
theorem six {h:Int} (h0:0<=h) (h1:h<=5):h=0\/h=1\/h=2\/h=3\/h=4\/h=5:=by omega
theorem sI (l:List Ab) {h:Int} (h0:0<=h) (h1:h<=5):(jh l).at? h=some ((bK ai l h:Nat):Int):=by
 rcases six h0 h1 with rfl|rfl|rfl|rfl|rfl|rfl<;>rfl
theorem ab6 (l:List Ab) (r:Ab) (h0:0<=r.At.Ag) (h1:r.At.Ag<=5):(jh l).set r.At.Ag ((bK ai l r.At.Ag:Nat)+1:Int)=jh (l++[r]):=by
 have hc:∀ h,bK ai (l++[r]) h=bK ai l h+if r.At.Ag=h then 1 else 0:=fun h=>by
  rw[agM,zi,zj]
  show _+(0+if r.At.Ag=h then 1 else 0)=_
  omega
 apply Aa.ext
 unfold jh
 simp only[hc]
 rcases six h0 h1 with e|e|e|e|e|e<;>rw[e]<;>simp[Aa.set]
def ka (r:Ab):Prop:=0<=r.At.Ag/\r.At.Ag<=5
theorem oD {r:Ab} (h:fJ r=true):ka r:=by
 unfold fJ jX within at h
 simp only[AP,decide_eq_true_eq]at h
 exact h.1.1
theorem ab7 (l:List Ab) (h:Int):bK ai l h<=l.length:=List.countP_le_length
theorem acd {τ:Type}{body:τ->Option (AW τ (Aa 6 Int) (Aa 6 Int))} (mk:Int->Aa 6 Int->τ) {l:List Ab} (hl:l.length<=100000) (hh:∀ r∈l,ka r) {k:Nat} (hk:1000000<k)
  (h1:∀ (i:Nat) r s,l[i]?=some r->body (mk i s)=(s.at? r.At.Ag).bind fun x=>some (.next (mk (af ((i:Int)+1)) (s.set r.At.Ag (af (x+1)))))) (h2:∀ s,body (mk l.length s)=some (.brk s)):
  aB body k (mk 0 (Aa.rep 6 (0:Int)))=some (.brk (jh l)):=by
 have h:=aeX (l:=l) (body:=body) mk (fun s r=>match s.at? r.At.Ag with|some x=>s.set r.At.Ag (af (x+1))|none=>s) (fun i s=>s=jh (l.take i)) (by omega) (k:=k) (by omega) (s0:=Aa.rep 6 (0:Int)) (by rfl) (fun i r s hx hs=>by
  have hi:=(gS.1 hx).1
  have hr:=hh r (Ba hx)
  have e:l.take (i+1)=l.take i++[r]:=by rw[List.take_add_one,hx];rfl
  have hc:=ab7 (l.take i) r.At.Ag
  rw[A6]at hc
  rw[h1 i r s hx,hs,sI _ hr.1 hr.2]
  simp only[Av]
  have hw:af (((bK ai (l.take i) r.At.Ag:Nat):Int)+1)=((bK ai (l.take i) r.At.Ag:Nat):Int)+1:=gv (by omega) (by omega)
  rw[hw,ab6 _ _ hr.1 hr.2,e]
  exact⟨trivial,rfl⟩) (fun s hs=>h2 s)
 have h3:=h.2
 rw[Co]at h3
 rw[h.1,h3]
theorem ac7 {k:Nat} (hk:1000000<k) {b:Al} (hl:b.Ac.length<=100000) (hh:∀ r∈b.Ac,ka r):eU k b=some (jh b.Ac):=by
 unfold eU
 rw[acd (l:=b.Ac) (body:=eU.b0 k b) (fun i s=>(s,i)) hl hh hk (fun i r s hx=>by
  have hi:=(gS.1 hx).1
  unfold eU.b0
  simp only[Bo (show (i:Int)<(b.Ac.length:Int) by omega),AH,dD hx,Av]) (fun s=>by
  unfold eU.b0
  simp only[(by simp:decide ((b.Ac.length:Int)<(b.Ac.length:Int))=false),AB])]
 rfl
theorem ab1 {k:Nat}{l:List Ab} (hl:l.length<=1000):rU k l=some l:=by
 unfold rU nh
 rw[if_pos ⟨by omega,by omega⟩];rfl
theorem agP {k:Nat}{b:Al} (hl:b.Ac.length<=1000):qC k b=some b:=by
 unfold qC
 rw[ab1 hl];rfl
theorem ait {k:Nat}{l:List Ab} (hl:l.length<=1000) (r:Ab):uU k l ((pos ai l (ai r):Nat):Int) [r]=some (ry ai l r):=by
 have:=uI ai l (ai r)
 unfold uU
 rw[if_pos ⟨⟨by omega,by omega⟩,rfl,⟨by omega,by omega⟩⟩]
 rfl
end Go.Abs
namespace Go.Abs
open Go Go.Proofs
theorem ajR {α R:Type}{body:Bool×Int->Option (AW (Bool×Int) Bool R)}{a b:List α} (wM:a.length=b.length) (hl:a.length<=1000000) {eq:α->α->Bool} (he:∀ x y,eq x y=true↔x=y) {k:Nat} (hk:10000000<k)
  (h1:∀ (i:Nat) x y,a[i]?=some x->b[i]?=some y->body (true,(i:Int))=some (.next (eq x y,af ((i:Int)+1))))
  (h2:∀ i:Nat,i<=a.length->body (false,(i:Int))=some (.brk false)) (h3:body (true,(a.length:Int))=some (.brk true)):
  ∃ c:Bool,aB body k (true,0)=some (.brk c)/\(c=true↔a=b):=by
 have key:∀ (d i m:Nat),i+d=a.length->d+2<=m->∃ c:Bool,aB body m (true,(i:Int))=some (.brk c)/\(c=true↔a.drop i=b.drop i):=by
  intro d
  induction d with
  |zero=>
   intro i m h4 h5
   obtain⟨m,rfl⟩:∃ q,m=q+1:=⟨m - 1,by omega⟩
   have:i=a.length:=by omega
   subst this
   refine⟨true,by simp only[aB,h3],?_⟩
   rw[DI (A7 _),DI (by omega)]
   simp
  |succ d ih=>
   intro i m h4 h5
   obtain⟨m,rfl⟩:∃ q,m=q+1:=⟨m - 1,by omega⟩
   have ha:a[i]?=some (a[i]'(by omega)):=gG (by omega)
   have hb:b[i]?=some (b[i]'(by omega)):=gG (by omega)
   have hw:af ((i:Int)+1)=((i+1:Nat):Int):=by rw[gv (by omega) (by omega)];omega
   rw[List.drop_eq_getElem_cons (show i<a.length by omega),List.drop_eq_getElem_cons (show i<b.length by omega)]
   simp only[aB,h1 i _ _ ha hb,hw]
   cases hq:eq (a[i]'(by omega)) (b[i]'(by omega)) with
   |true=>
    obtain⟨c,h6,h7⟩:=ih (i+1) m (by omega) (by omega)
    refine⟨c,h6,?_⟩
    rw[h7,(he _ _).1 hq]
    exact⟨fun h=>by rw[h],fun h=>(List.cons.inj h).2⟩
   |false=>
    obtain⟨m,rfl⟩:∃ q,m=q+1:=⟨m - 1,by omega⟩
    refine⟨false,by simp only[aB,h2 (i+1) (by omega)],?_⟩
    constructor
    ·intro h;cases h
    ·intro h
     have:=(List.cons.inj h).1
     rw[(he _ _).2 this]at hq;cases hq
 have:=key a.length 0 k (by omega) (by omega)
 simpa using this
section
variable {α:Type} (key:α->Int×Int)
theorem Eg:∀ {l:List α}{c:Int->Int},VL key c l↔∀ (i:Nat) x,l[i]?=some x->(key x).2=c (key x).1+bK key (l.take i) (key x).1
 |[],c=>by simp[VL]
 |y::l,c=>by
  unfold VL
  rw[Eg (l:=l)]
  constructor
  ·rintro⟨h1,h2⟩ i x hx
   cases i with
   |zero=>cases hx;rw[h1];simp[zj]
   |succ i=>
    rw[BE]at hx
    rw[h2 i x hx,List.take_succ_cons,zi]
    by_cases e:(key x).1=(key y).1
    ·rw[if_pos e,if_pos e.symm];simp only[e];omega
    ·rw[if_neg e,if_neg (Ne.symm e)];omega
  ·intro h
   refine⟨?_,fun i x hx=>?_⟩
   ·have:=h 0 y rfl
    simpa [zj] using this
   ·have:=h (i+1) x (by rw[BE];exact hx)
    rw[this,List.take_succ_cons,zi]
    by_cases e:(key x).1=(key y).1
    ·rw[if_pos e,if_pos e.symm];simp only[e];omega
    ·rw[if_neg e,if_neg (Ne.symm e)];omega
theorem aj6 {l:List α} (h:∀ (i:Nat) x y,l[i]?=some x->l[i+1]?=some y->du (key x) (key y)):Cc key l:=by
 have iz:∀ (d i:Nat) x y,l[i]?=some x->l[i+1+d]?=some y->du (key x) (key y):=by
  intro d
  induction d with
  |zero=>exact h
  |succ d ih=>
   intro i x y hx hy
   have hl:=(gS.1 hy).1
   have hz:l[i+1+d]?=some (l[i+1+d]'(by omega)):=gG (by omega)
   exact zy (ih i x _ hx hz) (h _ _ _ hz hy)
 unfold Cc
 rw[List.pairwise_iff_getElem]
 intro i j hi hj nW
 have:=iz (j - i - 1) i l[i] l[j] (gG hi) (by rw[show i+1+(j - i - 1)=j by omega];exact gG hj)
 exact this
end
def nd (l:List Ab) (x:Ab):Nat->Bool
 |0=>true
 |j+1=>match l[j]? with|none=>false|some y=>decide (du (ai y) (ai x))
def fI (l:List Ab) (i:Nat):Bool:=match l[i]? with
 |none=>false
 |some x=>fJ x&&(nd l x i&&decide (x.At.No=bK ai (l.take i) x.At.Ag))
theorem ai5 (l:List Ab):(List.range l.length).all (fI l)=true↔(∀ r∈l,fJ r=true)/\FQ ai l:=by
 rw[List.all_eq_true]
 constructor
 ·intro h
  have h':∀ (i:Nat) x,l[i]?=some x->fI l i=true:=fun i x hx=>h i (List.mem_range.2 (gS.1 hx).1)
  refine⟨fun r hr=>?_,aj6 ai (fun i x y hx hy=>?_),(Eg ai).2 fun i x hx=>?_⟩
  ·obtain⟨i,hi⟩:=Bl.1 hr
   have:=h' i r hi
   unfold fI at this
   rw[hi]at this
   simp only[AP]at this
   exact this.1
  ·have:=h' (i+1) y hy
   unfold fI at this
   rw[hy]at this
   simp only[nd,hx,AP,decide_eq_true_eq]at this
   exact this.2.1
  ·have:=h' i x hx
   unfold fI at this
   rw[hx]at this
   simp only[AP,decide_eq_true_eq]at this
   have h2:=this.2.2
   show x.At.No=0+_
   rw[Int.zero_add]
   exact h2
 ·rintro⟨h1,h2,h3⟩ i hi
  rw[List.mem_range]at hi
  have hx:l[i]?=some l[i]:=gG hi
  unfold fI
  rw[hx]
  simp only[AP,decide_eq_true_eq]
  refine⟨h1 _ (List.getElem_mem hi),?_,?_⟩
  ·cases i with
   |zero=>rfl
   |succ j=>
    have hy:l[j]?=some l[j]:=gG (by omega)
    simp only[nd,hy,decide_eq_true_eq]
    exact List.pairwise_iff_getElem.1 h2 j (j+1) (by omega) hi (by omega)
  ·have:=(Eg ai).1 h3 i _ hx
   have h4:l[i].At.No=0+((bK ai (l.take i) l[i].At.Ag:Nat):Int):=this
   omega
def kJ (l:List Ab):Bool:=!decide ((60:Int)<(l.length:Int))&&(List.range l.length).all (fI l)
theorem ss {l:List Ab}:kJ l=true↔l.length<=60/\(∀ r∈l,fJ r=true)/\FQ ai l:=by
 unfold kJ
 rw[AP,ai5]
 simp only[Bool.not_eq_true',decide_eq_false_iff_not]
 constructor
 ·rintro⟨h1,h2⟩;exact⟨by omega,h2⟩
 ·rintro⟨h1,h2⟩;exact⟨by omega,h2⟩
theorem acO {S:Type} (p:Nat->Bool) (g:Nat->S):∀ (L:List Nat) (s:S),(L.foldlM (fun s i=>if p i then some (g i) else none) s).isSome=L.all p
 |[],s=>rfl
 |i::L,s=>by
  rw[List.foldlM_cons,List.all_cons]
  cases h:p i with
  |true=>simpa using acO p g L (g i)
  |false=>rfl
theorem ad3 {l:List Ab}{i:Nat}{y:Ab} (h:l[i]?=some y) (hi:i<1000):at? l (af (((i+1:Nat):Int) - 1))=some y:=by
 rw[gv (by omega) (by omega)]
 have e:((i+1:Nat):Int) - 1=(i:Int):=by omega
 rw[e];exact dD h
theorem sH {k:Nat} (hk:1000000<k) (b:Al):dO k b=some (bif kJ b.Ac then 0 else 91):=by
 unfold dO kJ
 by_cases hl:(60:Int)<(b.Ac.length:Int)
 ·simp[hl]
 ·simp only[BU hl,AB,B4,Bb]
  have h:=akD (n:=b.Ac.length) (body:=dO.b0 k b) (fun i s=>(s,i)) (fun _=>()) (fun s i=>if fI b.Ac i then some (jh (b.Ac.take (i+1))) else none) (91:Int)
   (fun i s=>s=jh (b.Ac.take i)/\∀ r∈b.Ac.take i,ka r) (by omega) (k:=k) (by omega) (s0:=Aa.rep 6 (0:Int)) ⟨rfl,by simp⟩ (fun i s hi hs=>by
   obtain⟨x,hx⟩:∃ x,b.Ac[i]?=some x:=⟨_,gG hi⟩
   have e:b.Ac.take (i+1)=b.Ac.take i++[x]:=by rw[List.take_add_one,hx];rfl
   obtain⟨rfl,hh⟩:=hs
   have hc:=ab7 (b.Ac.take i) x.At.Ag
   rw[A6]at hc
   have tO:fI b.Ac i=(fJ x&&(nd b.Ac x i&&decide (x.At.No=bK ai (b.Ac.take i) x.At.Ag))):=by
    unfold fI;rw[hx]
   have hw:af (((bK ai (b.Ac.take i) x.At.Ag:Nat):Int)+1)=((bK ai (b.Ac.take i) x.At.Ag:Nat):Int)+1:=gv (by omega) (by omega)
   refine⟨?_,fun s' lQ=>?_⟩
   ·rw[tO]
    unfold dO.b0
    simp only[Bo (show (i:Int)<(b.Ac.length:Int) by omega),AH,dD hx,Av,ady (show 1000<k by omega)]
    cases hr:fJ x with
    |false=>rfl
    |true=>
     have lL:=oD hr
     simp only[AH,Bb,sI _ lL.1 lL.2,Av,hw,ab6 _ _ lL.1 lL.2,<-e]
     cases i with
     |zero=>
      simp only[(by decide:decide ((0:Int)<((0:Nat):Int))=false),AB,nd,Bb]
      by_cases hn:x.At.No=((bK ai (b.Ac.take 0) x.At.Ag:Nat):Int)
      ·simp only[Bo hn,BM,AB,if_true]
      ·simp only[BU hn,B4,AH,B7,if_false]
     |succ j=>
      obtain⟨y,hy⟩:∃ y,b.Ac[j]?=some y:=⟨_,gG (by omega)⟩
      have bV:=ab3 y.At x.At
      have cQ:bq y.At=ai y:=rfl
      have pA:bq x.At=ai x:=rfl
      rw[cQ,pA]at bV
      simp only[(by simp:decide ((0:Int)<((j+1:Nat):Int))=true),AH,ad3 hy (by omega),Av,zk (show 10<k by omega),nd,hy]
      by_cases ab:du (ai y) (ai x)
      ·have nZ:=bV.2 ab
       simp only[BU (show ¬ (0:Int)<=kN y.At x.At by omega),B4,AH,Bo ab,Bb]
       by_cases hn:x.At.No=((bK ai (b.Ac.take (j+1)) x.At.Ag:Nat):Int)
       ·simp only[Bo hn,BM,AB,if_true]
       ·simp only[BU hn,B4,AH,B7,if_false]
      ·have nZ:(0:Int)<=kN y.At x.At:=by
        have:=mt bV.1 ab;omega
       simp only[Bo nZ,BM,AB,BU ab,Bool.false_and,B7,if_false]
   ·cases ho:fI b.Ac i with
    |false=>rw[ho]at lQ;cases lQ
    |true=>
     rw[ho]at lQ
     have:jh (b.Ac.take (i+1))=s':=oi lQ
     refine⟨this.symm,fun r hr=>?_⟩
     rw[e,AZ,Cw]at hr
     rcases hr with hr|rfl
     ·exact hh r hr
     ·rw[tO]at ho
      simp only[AP]at ho
      exact oD ho.1) (fun s hs=>by
   unfold dO.b0
   simp only[(by simp:decide ((b.Ac.length:Int)<(b.Ac.length:Int))=false),AB])
  have h1:=h.1
  rw[h1]
  have h2:=acO (fI b.Ac) (fun i=>jh (b.Ac.take (i+1))) (List.range b.Ac.length) (Aa.rep 6 (0:Int))
  cases hq:(List.range b.Ac.length).foldlM (fun s i=>if fI b.Ac i then some (jh (b.Ac.take (i+1))) else none) (Aa.rep 6 (0:Int)) with
  |none=>rw[hq]at h2;rw[<-h2];rfl
  |some s=>rw[hq]at h2;rw[<-h2];rfl
theorem aaH {k:Nat} (hk:1000000<k) {l:List Ab} (hl:l.length<=100000) (hh:∀ r∈l,ka r):BC k l=some (jh l):=by
 unfold BC
 rw[acd (l:=l) (body:=BC.b0 k l) (fun i s=>(s,i)) hl hh hk (fun i r s hx=>by
  have hi:=(gS.1 hx).1
  unfold BC.b0
  simp only[Bo (show (i:Int)<(l.length:Int) by omega),AH,dD hx,Av]) (fun s=>by
  unfold BC.b0
  simp only[(by simp:decide ((l.length:Int)<(l.length:Int))=false),AB])]
 rfl
theorem yL (k:Nat) (a b:Entry):C7 k a b=some (decide (du (bq a) (bq b))):=by
 unfold C7 du bq
 by_cases h1:a.Ag<b.Ag
 ·simp[h1]
 ·by_cases h2:a.Ag=b.Ag
  ·simp[h2]
  ·simp[h1,h2]
theorem aez {α:Type}{l:List α}{i j:Nat} (h1:i<=j) (h2:j<=l.length):ff l (i:Int) (j:Int)=some ((l.drop i).take (j - i)):=by
 unfold ff
 rw[if_pos (by omega),CZ,CZ]
theorem aeB {α:Type}{l:List α}{i:Nat} (h2:i<=l.length):ff l 0 (i:Int)=some (l.take i):=aez (i:=0) (by omega) h2
theorem akm {α:Type}{l:List α}{i:Nat} (h2:i<=l.length):ff l (i:Int) (l.length:Int)=some (l.drop i):=by
 have:=aez (l:=l) (i:=i) (j:=l.length) h2 (A7 _)
 rw[Cn (by rw[B3];omega)]at this
 exact this
theorem sG {k:Nat} (hk:1000000<k) (b:Al):Bm k b=some (bif kJ b.Ac then 0 else 91):=by
 unfold Bm kJ
 by_cases hl:(60:Int)<(b.Ac.length:Int)
 ·simp[hl]
 ·simp only[BU hl,AB,B4,Bb]
  have key:∀ (d i m:Nat),i+d=b.Ac.length->d<m->(∀ r∈b.Ac.take i,ka r)->
    aB (Bm.b0 k b) m (i:Int)=some (bif (List.range' i d).all (fI b.Ac) then .brk () else .ret 91):=by
   intro d
   induction d with
   |zero=>
    intro i m h1 h2 h3
    obtain⟨m,rfl⟩:∃ q,m=q+1:=⟨m - 1,by omega⟩
    have e:decide ((i:Int)<(b.Ac.length:Int))=false:=by simp;omega
    have hb:Bm.b0 k b (i:Int)=some (.brk ()):=by
     unfold Bm.b0
     simp only[e,AB]
    simp only[aB,hb]
    rfl
   |succ d ih=>
    intro i m h1 h2 hh
    obtain⟨m,rfl⟩:∃ q,m=q+1:=⟨m - 1,by omega⟩
    obtain⟨x,hx⟩:∃ x,b.Ac[i]?=some x:=⟨_,gG (by omega)⟩
    have e:b.Ac.take (i+1)=b.Ac.take i++[x]:=by rw[List.take_add_one,hx];rfl
    have tO:fI b.Ac i=(fJ x&&(nd b.Ac x i&&decide (x.At.No=bK ai (b.Ac.take i) x.At.Ag))):=by
     unfold fI;rw[hx]
    have xb:Bm.b0 k b (i:Int)=some (bif fI b.Ac i then .next (af ((i:Int)+1)) else .ret 91):=by
     rw[tO]
     unfold Bm.b0
     simp only[Bo (show (i:Int)<(b.Ac.length:Int) by omega),AH,dD hx,Av,ab0 (show 1000<k by omega)]
     cases hr:fJ x with
     |false=>rfl
     |true=>
      have lL:=oD hr
      have ab:(b.Ac.take i).length<=100000:=by rw[A6];omega
      simp only[AH,decide_true,Bb,aeB (show i<=b.Ac.length by omega),Av,aaH hk ab hh,sI _ lL.1 lL.2]
      cases i with
      |zero=>
       simp only[(by decide:decide ((0:Int)<((0:Nat):Int))=false),AB,nd,Bb]
       cases decide (x.At.No=((bK ai (b.Ac.take 0) x.At.Ag:Nat):Int))<;>rfl
      |succ j=>
       obtain⟨y,hy⟩:∃ y,b.Ac[j]?=some y:=⟨_,gG (by omega)⟩
       have cQ:bq y.At=ai y:=rfl
       have pA:bq x.At=ai x:=rfl
       simp only[(by simp:decide ((0:Int)<((j+1:Nat):Int))=true),AH,ad3 hy (by omega),Av,yL,cQ,pA,nd,hy]
       cases decide (du (ai y) (ai x)) with
       |false=>rfl
       |true=>
        simp only[BM,AB,Bb]
        cases decide (x.At.No=((bK ai (b.Ac.take (j+1)) x.At.Ag:Nat):Int))<;>rfl
    have hw:af ((i:Int)+1)=((i+1:Nat):Int):=by rw[gv (by omega) (by omega)];omega
    rw[List.range'_succ,List.all_cons]
    cases ho:fI b.Ac i with
    |false=>
     rw[ho]at xb
     simp only[aB,xb,AB]
     rfl
    |true=>
     rw[ho,hw]at xb
     have xi:∀ r∈b.Ac.take (i+1),ka r:=fun r hr=>by
      rw[e,AZ,Cw]at hr
      rcases hr with hr|rfl
      ·exact hh r hr
      ·rw[tO]at ho
       simp only[AP]at ho
       exact oD ho.1
     simp only[aB,xb,AH,Bb]
     exact ih (i+1) m (by omega) (by omega) xi
  have h:=key b.Ac.length 0 k (by omega) (by omega) (by simp)
  rw[DJ]at h
  rw[h,List.range_eq_range']
  cases (List.range' 0 b.Ac.length).all (fI b.Ac)<;>rfl
theorem acK {k:Nat}{l:List Ab} (hl:l.length<=100000) (hk:1000000<k) (e:Entry):
  (∃ (i:Nat) (x:Ab),Bn k l e=some (i:Int)/\l[i]?=some x/\ai x=bq e)\/(Bn k l e=some (-1)/\∀ x∈l,ai x≠bq e):=by
 have hc:∀ x:Ab,(decide (x.At.Ag=e.Ag)&&decide (x.At.No=e.No))=decide (ai x=bq e):=fun x=>by
  unfold ai bq
  simp only[Prod.mk.injEq]
  by_cases h1:x.At.Ag=e.Ag<;>by_cases h2:x.At.No=e.No<;>simp[h1,h2]
 have key:∀ (d i m:Nat),i+d=l.length->d<m->(∃ (j:Nat) (x:Ab),aB (Bn.b0 k l e) m (i:Int)=some (.ret (j:Int))/\l[j]?=some x/\ai x=bq e)\/(aB (Bn.b0 k l e) m (i:Int)=some (.brk ())/\∀ x∈l.drop i,ai x≠bq e):=by
  intro d
  induction d with
  |zero=>
   intro i m h1 h2
   obtain⟨m,rfl⟩:∃ q,m=q+1:=⟨m - 1,by omega⟩
   have e1:decide ((i:Int)<(l.length:Int))=false:=by simp;omega
   have hb:Bn.b0 k l e (i:Int)=some (.brk ()):=by
    unfold Bn.b0
    simp only[e1,AB]
   right
   refine⟨by simp only[aB,hb],?_⟩
   rw[DI (by omega)]
   intro x hx;cases hx
  |succ d ih=>
   intro i m h1 h2
   obtain⟨m,rfl⟩:∃ q,m=q+1:=⟨m - 1,by omega⟩
   obtain⟨x,hx⟩:∃ x,l[i]?=some x:=⟨_,gG (by omega)⟩
   have hw:af ((i:Int)+1)=((i+1:Nat):Int):=by rw[gv (by omega) (by omega)];omega
   by_cases he:ai x=bq e
   ·left
    have hb:Bn.b0 k l e (i:Int)=some (.ret (i:Int)):=by
     unfold Bn.b0
     simp only[Bo (show (i:Int)<(l.length:Int) by omega),AH,dD hx,Av,hc,Bo he]
    exact⟨i,x,by simp only[aB,hb],hx,he⟩
   ·have hb:Bn.b0 k l e (i:Int)=some (.next ((i+1:Nat):Int)):=by
     unfold Bn.b0
     simp only[Bo (show (i:Int)<(l.length:Int) by omega),AH,dD hx,Av,hc,BU he,AB,hw]
    have rh:l.drop i=x::l.drop (i+1):=by
     have:=(gS.1 hx)
     obtain⟨h3,h4⟩:=this
     rw[List.drop_eq_getElem_cons h3,h4]
    rcases ih (i+1) m (by omega) (by omega) with ⟨j,y,g1,g2,g3⟩|⟨g1,g2⟩
    ·exact .inl ⟨j,y,by simp only[aB,hb,g1],g2,g3⟩
    ·right
     refine⟨by simp only[aB,hb,g1],fun y hy=>?_⟩
     rw[rh]at hy
     rcases BA.1 hy with rfl|hy
     ·exact he
     ·exact g2 y hy
 unfold Bn
 rcases key l.length 0 k (by omega) (by omega) with ⟨j,x,h1,h2,h3⟩|⟨h1,h2⟩
 ·left
  rw[DJ]at h1
  exact⟨j,x,by rw[h1];rfl,h2,h3⟩
 ·right
  rw[DJ]at h1
  exact⟨by rw[h1];rfl,fun x hx=>h2 x (by simpa using hx)⟩
def ny (l:List Ab) (r:Ab):List Ab×Int:=match fT ai l (ai r) with
 |some x=>if x=r then (l,0) else ([],92)
 |none=>if (bK ai l r.At.Ag:Int)<r.At.No then ([],93) else if (l.length:Int)=60 then ([],2) else (ry ai l r,0)
theorem aca {k:Nat}{l:List Ab} (hl:l.length<=1000):C8 k l=some l:=by
 unfold C8 nh
 rw[if_pos ⟨by omega,by omega⟩];rfl
theorem ajs {k0:Nat}{l:List Ab} (hs:Cc ai l) (hl:l.length<=1000) (r:Ab):∀ (d i k:Nat),pos ai l (ai r) - i<=d->d<k->i<=pos ai l (ai r)->
  aB (BB.b0 k0 l r) k (i:Int)=some (.brk ((pos ai l (ai r):Nat):Int)):=by
 have hp:=uI ai l (ai r)
 intro d
 induction d with
 |zero=>
  intro i k h1 h2 h3
  obtain⟨m,rfl⟩:∃ q,k=q+1:=⟨k - 1,by omega⟩
  have hi:i=pos ai l (ai r):=by omega
  have hb:BB.b0 k0 l r (i:Int)=some (.brk (i:Int)):=by
   unfold BB.b0
   by_cases ab:i<l.length
   ·have hx:l[i]?=some l[i]:=gG ab
    have cQ:bq l[i].At=ai l[i]:=rfl
    have pA:bq r.At=ai r:=rfl
    have:=nj ai hs (ai r) hx
    simp only[Bo (show (i:Int)<(l.length:Int) by omega),AH,dD hx,Av,yL,cQ,pA,BU (show ¬ du (ai l[i]) (ai r) from fun c=>by have:=this.1 c;omega),AB]
   ·simp only[BU (show ¬ (i:Int)<(l.length:Int) by omega),AB]
  simp only[aB,hb]
  rw[hi]
 |succ d ih=>
  intro i k h1 h2 h3
  obtain⟨m,rfl⟩:∃ q,k=q+1:=⟨k - 1,by omega⟩
  by_cases ab:i<pos ai l (ai r)
  ·have hx:l[i]?=some (l[i]'(by omega)):=gG (by omega)
   have cQ:bq (l[i]'(by omega)).At=ai (l[i]'(by omega)):=rfl
   have pA:bq r.At=ai r:=rfl
   have hw:af ((i:Int)+1)=((i+1:Nat):Int):=by rw[gv (by omega) (by omega)];omega
   have hb:BB.b0 k0 l r (i:Int)=some (.next ((i+1:Nat):Int)):=by
    unfold BB.b0
    simp only[Bo (show (i:Int)<(l.length:Int) by omega),AH,dD hx,Av,yL,cQ,pA,Bo ((nj ai hs (ai r) hx).2 ab),hw]
   simp only[aB,hb]
   exact ih (i+1) m (by omega) (by omega) (by omega)
  ·have hi:i=pos ai l (ai r):=by omega
   exact(by
    have:=ih i (m+1) (by omega) (by omega) h3
    exact this)
theorem afW {k:Nat} (hk:1000000<k) {l:List Ab} (hs:Cc ai l) (hl:l.length<=900) (hh:∀ r∈l,ka r) {r:Ab} (hr:ka r):BB k l r=some (ny l r):=by
 unfold BB ny
 have cQ:bq r.At=ai r:=rfl
 rcases acK (k:=k) (l:=l) (by omega) hk r.At with ⟨i,x,h1,h2,h3⟩|⟨h1,h2⟩
 ·rw[cQ]at h3
  have hf:fT ai l (ai r)=some x:=by rw[<-h3];exact acI ai hs (Ba h2)
  rw[h1,hf]
  simp only[Av,Bo (show (0:Int)<=(i:Int) by omega),AH,dD h2]
  by_cases e:x=r
  ·subst e
   have:=ad9 x
   unfold ku at this
   rw[this]
   simp only[AH,aca (show l.length<=1000 by omega),Av,if_true]
  ·have:=ad8 e
   unfold ku at this
   rw[this]
   simp only[AB,if_neg e]
 ·rw[cQ]at h2
  have hf:fT ai l (ai r)=none:=acG ai h2
  rw[h1,hf]
  have hp:=uI ai l (ai r)
  have er:=ajs (k0:=k) hs (by omega) r (pos ai l (ai r)) 0 k (by omega) (by omega) (by omega)
  rw[DJ]at er
  simp only[Av,(by decide:decide ((0:Int)<=-1)=false),AB,aaH hk (show l.length<=100000 by omega) hh,sI _ hr.1 hr.2]
  by_cases hc:((bK ai l r.At.Ag:Nat):Int)<r.At.No
  ·simp only[Bo hc,AH,if_pos hc]
  ·simp only[BU hc,AB,if_neg hc]
   by_cases mJ:(l.length:Int)=60
   ·simp only[Bo mJ,AH,if_pos mJ]
   ·have ht:(l.take (pos ai l (ai r))).length=pos ai l (ai r):=by rw[A6];omega
    simp only[BU mJ,AB,if_neg mJ,er,Av,aeB hp,akm hp]
    rw[aca (by omega)]
    simp only[Av]
    rw[ad5 (by rw[ht];omega) (by rw[ht];omega)]
    simp only[Av]
    rw[af0 (by rw[BL,ht,B3];simp;omega) (by rw[BL,ht,B3];simp;omega)]
    simp only[Av]
    unfold ry
    simp
theorem afX {k:Nat} (hk:1000000<k) {b:Al} (hs:Cc ai b.Ac) (hl:b.Ac.length<=900) (hh:∀ r∈b.Ac,ka r) (r:Ab):
  mr k b r=some (bif fJ r then (⟨(ny b.Ac r).1⟩,(ny b.Ac r).2) else (⟨[]⟩,90)):=by
 unfold mr
 rw[ady (by omega)]
 simp only[Av]
 cases hr:fJ r with
 |false=>rfl
 |true=>
  have lL:=oD hr
  have cQ:bq r.At=ai r:=rfl
  simp only[BM,AB,AH,acL (show 10000<k by omega) hs (show b.Ac.length<=1000 by omega),Av,cQ]
  unfold ny
  cases hf:fT ai b.Ac (ai r) with
  |some x=>
   have hp:=zG ai hs (ai r)
   rw[hf]at hp
   have hx:b.Ac[pos ai b.Ac (ai r)]?=some x:=by
    cases hq:b.Ac[pos ai b.Ac (ai r)]? with
    |none=>rw[hq]at hp;cases hp
    |some y=>
     rw[hq]at hp
     simp only[Option.filter]at hp
     split at hp
     ·exact hp.symm
     ·cases hp
   simp only[Option.isSome_some,AH,dD hx,Av]
   by_cases e:x=r
   ·subst e
    have:=ad9 x
    unfold ku at this
    rw[this]
    simp only[AH,agP (show b.Ac.length<=1000 by omega),Av,if_true]
   ·have:=ad8 e
    unfold ku at this
    rw[this]
    simp only[AB,if_neg e]
  |none=>
   simp only[Option.isSome_none,AB,ac7 hk (show b.Ac.length<=100000 by omega) hh,Av,sI _ lL.1 lL.2]
   by_cases hc:((bK ai b.Ac r.At.Ag:Nat):Int)<r.At.No
   ·simp only[Bo hc,AH,if_pos hc]
   ·simp only[BU hc,AB,if_neg hc]
    by_cases mJ:(b.Ac.length:Int)=60
    ·simp only[Bo mJ,AH,if_pos mJ]
    ·simp only[BU mJ,AB,if_neg mJ,ab1 (show b.Ac.length<=1000 by omega),Av,ait (show b.Ac.length<=1000 by omega)]
theorem aej {k:Nat} (hk:10000000<k) {a b:List Ab} (hl:a.length<=1000):∃ c:Bool,Bu k a b=some c/\(c=true↔a=b):=by
 unfold Bu
 by_cases wM:a.length=b.length
 ·obtain⟨c,h1,h2⟩:=ajR (body:=Bu.b0 k a b) (eq:=ku) wM (by omega) (fun x y=>xV) hk (fun i x y hx hy=>by
   have hi:=(gS.1 hx).1
   unfold Bu.b0 ku
   simp only[Bo (show (i:Int)<(a.length:Int) by omega),AH,dD hx,dD hy,Av]) (fun i hi=>by
   unfold Bu.b0
   by_cases h:(i:Int)<(a.length:Int)<;>simp[h]) (by
   unfold Bu.b0
   simp only[(by simp:decide ((a.length:Int)<(a.length:Int))=false),AB])
  refine⟨c,?_,h2⟩
  have hd:decide ((a.length:Int)=(b.length:Int))=true:=by simp[wM]
  rw[hd,h1]
  rfl
 ·refine⟨false,?_,?_⟩
  ·have hd:decide ((a.length:Int)=(b.length:Int))=false:=by simp;omega
   obtain⟨m,rfl⟩:∃ q,k=q+1:=⟨k - 1,by omega⟩
   have:Bu.b0 (m+1) a b (false,0)=some (.brk false):=by
    unfold Bu.b0
    by_cases h:(0:Int)<(a.length:Int)<;>simp[h]
   rw[hd]
   simp only[aB,this]
   rfl
  ·constructor
   ·intro h;cases h
   ·rintro rfl;exact absurd rfl wM
theorem ajQ {k:Nat} (hk:10000000<k) {a:Al} (hl:a.Ac.length<=1000):DN k a a=some true:=by
 obtain⟨c,h1,h2⟩:=aej hk (a:=a.Ac) (b:=a.Ac) hl
 unfold DN
 rw[h1,h2.2 rfl];rfl
def oW (l:List Ab) (known:Int) (i:Nat) (s:List Bool) (j:Nat):Bool:=decide (i<j)&&match l[j]?,l[i]?,s[j]? with
 |some x,some y,some true=>decide (x.Kind=0)&&(decide (x.AI<=known)&&(decide (x.Of.Ag=y.At.Ag)&&decide (x.Of.No=y.At.No)))
 |_,_,_=>false
def eF (l:List Ab) (known:Int) (i:Nat) (s:List Bool) (k:Nat):Bool:=(List.range k).any (oW l known i s)
def dh (known:Int) (l:List Ab):Nat->List Bool
 |0=>List.replicate l.length false
 |e+1=>(dh known l e).set (l.length - 1 - e) (!eF l known (l.length - 1 - e) (dh known l e) l.length)
theorem xW (known:Int) (l:List Ab):∀ e,(dh known l e).length=l.length
 |0=>by simp[dh]
 |e+1=>by simp[dh,xW known l e]
theorem aeq {α:Type}{l:List α}{i:Nat} (h:i<l.length) (v:α):fZ l (i:Int) v=some (l.set i v):=by
 unfold fZ;rw[if_pos ⟨by omega,by omega⟩];simp
theorem abv (l:List Ab) (known:Int) (i:Nat) (s:List Bool) (k:Nat):eF l known i s (k+1)=(eF l known i s k || oW l known i s k):=by
 unfold eF;rw[List.range_succ];simp
theorem abu (l:List Ab) (known:Int) (i:Nat) (s:List Bool):∀ k,k<=i+1->eF l known i s k=false
 |0,_=>rfl
 |k+1,h=>by
  rw[abv,abu l known i s k (by omega)]
  unfold oW
  rw[BU (by omega)]
  rfl
theorem ajH {l:List Ab} (hl:l.length<=100000) {known:Int}{i:Nat}{y:Ab} (hy:l[i]?=some y) {s:List Bool} (hs:s.length=l.length) {K:Nat}:∀ (d k m:Nat),k+d=l.length->i<k->d<m->
  aB (AU.b1 K l known (i:Int)) m ((k:Int),s.set i (!eF l known i s k))=some (.brk (s.set i (!eF l known i s l.length))):=by
 have hi:=(gS.1 hy).1
 intro d
 induction d with
 |zero=>
  intro k m h1 h2 h3
  obtain⟨m,rfl⟩:∃ q,m=q+1:=⟨m - 1,by omega⟩
  obtain rfl:k=l.length:=by omega
  have hb:AU.b1 K l known (i:Int) ((l.length:Int),s.set i (!eF l known i s l.length))=some (.brk (s.set i (!eF l known i s l.length))):=by
   unfold AU.b1
   simp only[(by simp:decide ((l.length:Int)<(l.length:Int))=false),AB]
  simp only[aB,hb]
 |succ d ih=>
  intro k m h1 h2 h3
  obtain⟨m,rfl⟩:∃ q,m=q+1:=⟨m - 1,by omega⟩
  obtain⟨x,hx⟩:∃ x,l[k]?=some x:=⟨_,gG (by omega)⟩
  obtain⟨b,hb⟩:∃ b,s[k]?=some b:=⟨_,gG (by omega)⟩
  have hw:af ((k:Int)+1)=((k+1:Nat):Int):=by rw[gv (by omega) (by omega)];omega
  have g1:(s.set i (!eF l known i s k))[k]?=some b:=by rw[List.getElem?_set_ne (by omega)];exact hb
  have g2:(s.set i (!eF l known i s k))[i]?=some (!eF l known i s k):=by rw[List.getElem?_set_self (by omega)]
  have g3:fZ (s.set i (!eF l known i s k)) (i:Int) false=some (s.set i false):=by rw[aeq (by simp;omega)];simp
  have ahG:oW l known i s k=(b&&(decide (x.Kind=0)&&(decide (x.AI<=known)&&(decide (x.Of.Ag=y.At.Ag)&&decide (x.Of.No=y.At.No))))):=by
   unfold oW
   simp only[Bo h2,hx,hy,hb]
   cases b<;>simp
  have aat:AU.b1 K l known (i:Int) ((k:Int),s.set i (!eF l known i s k))=some (.next (((k+1:Nat):Int),s.set i (!eF l known i s (k+1)))):=by
   rw[abv,ahG]
   unfold AU.b1
   simp only[Bo (show (k:Int)<(l.length:Int) by omega),AH,dD hx,dD hy,dD g1,dD g2,g3,hw,Av]
   cases b<;>cases decide (x.Kind=0)<;>cases decide (x.AI<=known)<;>cases (decide (x.Of.Ag=y.At.Ag)&&decide (x.Of.No=y.At.No))<;>simp
  simp only[aB,aat]
  exact ih (k+1) m (by omega) (by omega) (by omega)
theorem ajI {l:List Ab} (hl:l.length<=100000) {known:Int}{K:Nat} (hK:1000000<K):∀ (d m:Nat),d<=l.length->d<m->
  aB (AU.b0 K l known) m ((d:Int) - 1,dh known l (l.length - d))=some (.brk (dh known l l.length)):=by
 intro d
 induction d with
 |zero=>
  intro m h1 h2
  obtain⟨m,rfl⟩:∃ q,m=q+1:=⟨m - 1,by omega⟩
  have hb:AU.b0 K l known (((0:Nat):Int) - 1,dh known l (l.length - 0))=some (.brk (dh known l l.length)):=by
   unfold AU.b0
   simp
  simp only[aB,hb]
 |succ d ih=>
  intro m h1 h2
  obtain⟨m,rfl⟩:∃ q,m=q+1:=⟨m - 1,by omega⟩
  obtain⟨y,hy⟩:∃ y,l[d]?=some y:=⟨_,gG (by omega)⟩
  obtain⟨s,hs⟩:∃ s,s=dh known l (l.length - (d+1)):=⟨_,rfl⟩
  have fp:s.length=l.length:=by rw[hs,xW]
  obtain⟨b,hb⟩:∃ b,s[d]?=some b:=⟨_,gG (by omega)⟩
  have e1:l.length - d=(l.length - (d+1))+1:=by omega
  have e2:l.length - 1 - (l.length - (d+1))=d:=by omega
  have ah5:dh known l (l.length - d)=s.set d (!eF l known d s l.length):=by
   rw[e1]
   simp only[dh,e2,<-hs]
  have ug:af ((d:Int)+1)=((d+1:Nat):Int):=by rw[gv (by omega) (by omega)];omega
  have uh:af ((d:Int) - 1)=(d:Int) - 1:=gv (by omega) (by omega)
  have bl:=ajH hl (known:=known) hy fp (K:=K) (l.length - (d+1)) (d+1) K (by omega) (by omega) (by omega)
  rw[abu l known d s (d+1) (by omega)]at bl
  have ei:(((d+1:Nat):Int) - 1)=(d:Int):=by omega
  have aat:AU.b0 K l known (((d+1:Nat):Int) - 1,s)=some (.next ((d:Int) - 1,dh known l (l.length - d))):=by
   unfold AU.b0
   rw[ei]
   simp only[Bo (show (0:Int)<=(d:Int) by omega),AH,dD hb,aeq (show d<s.length by omega),ug,uh,Av]
   rw[show (s.set d true)=s.set d (!false) from rfl,bl]
   simp only[Av,ah5]
  rw[<-hs]
  simp only[aB,aat]
  exact ih m (by omega) (by omega)
theorem aev {l:List Ab} (hl:l.length<=100000) (known:Int) {K:Nat} (hK:1000000<K):AU K l known=some (dh known l l.length):=by
 have hmk:mk? (l.length:Int) 1=some ():=by unfold mk?;rw[if_pos ⟨⟨by omega,by omega⟩,by omega,by omega⟩]
 have h:=ajI hl (known:=known) hK l.length K (by omega) (by omega)
 rw[Nat.sub_self]at h
 have hw:af ((l.length:Int) - 1)=(l.length:Int) - 1:=gv (by omega) (by omega)
 unfold AU
 rw[hmk,hw]
 simp only[Av]
 rw[show List.replicate l.length false=dh known l 0 from rfl,h]
 rfl
theorem abD {l:List Ab}{known:Int}{i j:Nat}{s:List Bool}{y:Ab} (hy:l[i]?=some y):oW l known i s j=true↔i<j/\∃ x,l[j]?=some x/\s[j]?=some true/\x.Kind=0/\x.AI<=known/\(x.Of.Ag,x.Of.No)=(y.At.Ag,y.At.No):=by
 unfold oW
 rw[hy]
 constructor
 ·intro h
  rw[AP,decide_eq_true_eq]at h
  refine⟨h.1,?_⟩
  have h2:=h.2
  cases hx:l[j]? with
  |none=>rw[hx]at h2;cases h2
  |some x=>
   rw[hx]at h2
   cases hs:s[j]? with
   |none=>rw[hs]at h2;cases h2
   |some b=>
    rw[hs]at h2
    cases b with
    |false=>cases h2
    |true=>
     simp only[AP,decide_eq_true_eq]at h2
     exact⟨x,rfl,rfl,h2.1,h2.2.1,by rw[h2.2.2.1,h2.2.2.2]⟩
 ·rintro⟨h1,x,hx,hs,h2,h3,h4⟩
  rw[hx,hs]
  simp only[Prod.mk.injEq]at h4
  simp[h1,h2,h3,h4.1,h4.2]
theorem aeu {l:List Ab}{known:Int}:∀ e,e<=l.length->
  (∀ j x,l.length - e<=j->l[j]?=some x->∃ b,(dh known l e)[j]?=some b/\(cS known l e).1[j]?=some (decide (x.AI<=known)&&b))/\
  (∀ p,p∈(cS known l e).2↔∃ j x,l.length - e<=j/\l[j]?=some x/\(dh known l e)[j]?=some true/\x.Kind=0/\x.AI<=known/\(x.Of.Ag,x.Of.No)=p):=by
 intro e
 induction e with
 |zero=>
  intro _
  refine⟨fun j x h1 h2=>?_,fun p=>?_⟩
  ·have:=(gS.1 h2).1;omega
  ·constructor
   ·intro h;simp[cS]at h
   ·rintro⟨j,x,h1,h2,_⟩
    have:=(gS.1 h2).1;omega
 |succ e ih=>
  intro he
  obtain⟨fE,eP⟩:=ih (by omega)
  obtain⟨i,hi⟩:∃ i,i=l.length - 1 - e:=⟨_,rfl⟩
  obtain⟨y,hy⟩:∃ y,l[i]?=some y:=⟨_,gG (by omega)⟩
  have hlen:=ym known l e
  have n6:=xW known l e
  have cw:cS known l (e+1)=iG known y i (cS known l e):=by simp only[cS,<-hi,hy]
  have kd:dh known l (e+1)=(dh known l e).set i (!eF l known i (dh known l e) l.length):=by simp only[dh,<-hi]
  have ahD:eF l known i (dh known l e) l.length=decide ((y.At.Ag,y.At.No)∈(cS known l e).2):=by
   rw[Bool.eq_iff_iff,decide_eq_true_eq,eP]
   unfold eF
   rw[List.any_eq_true]
   constructor
   ·rintro⟨j,hj,hb⟩
    obtain⟨h1,x,h2,h3,h4,h5,h6⟩:=(abD hy).1 hb
    exact⟨j,x,by omega,h2,h3,h4,h5,h6⟩
   ·rintro⟨j,x,h1,h2,h3,h4,h5,h6⟩
    have:=(gS.1 h2).1
    exact⟨j,List.mem_range.2 this,(abD hy).2 ⟨by omega,x,h2,h3,h4,h5,h6⟩⟩
  have hpo:(decide (y.AI<=known)&&!decide ((y.At.Ag,y.At.No)∈(cS known l e).2))=(decide (y.AI<=known)&&!eF l known i (dh known l e) l.length):=by rw[ahD]
  refine⟨fun j x h1 h2=>?_,fun p=>?_⟩
  ·by_cases hj:j=i
   ·subst hj
    rw[hy]at h2
    obtain rfl:=oi h2
    refine⟨!eF l known j (dh known l e) l.length,?_,?_⟩
    ·rw[kd,List.getElem?_set_self (by omega)]
    ·rw[cw]
     simp only[iG]
     rw[List.getElem?_set_self (by omega),hpo]
   ·obtain⟨b,h3,h4⟩:=fE j x (by omega) h2
    refine⟨b,?_,?_⟩
    ·rw[kd,List.getElem?_set_ne (by omega)];exact h3
    ·rw[cw]
     simp only[iG]
     rw[List.getElem?_set_ne (by omega)];exact h4
  ·rw[cw]
   simp only[iG]
   rw[hpo]
   have pQ:(∃ j x,l.length - e<=j/\l[j]?=some x/\(dh known l e)[j]?=some true/\x.Kind=0/\x.AI<=known/\(x.Of.Ag,x.Of.No)=p)↔
     ∃ j x,i<j/\l[j]?=some x/\(dh known l (e+1))[j]?=some true/\x.Kind=0/\x.AI<=known/\(x.Of.Ag,x.Of.No)=p:=by
    constructor
    ·rintro⟨j,x,h1,h2,h3,h4⟩
     exact⟨j,x,by omega,h2,by rw[kd,List.getElem?_set_ne (by omega)];exact h3,h4⟩
    ·rintro⟨j,x,h1,h2,h3,h4⟩
     exact⟨j,x,by omega,h2,by rw[kd,List.getElem?_set_ne (by omega)]at h3;exact h3,h4⟩
   have new:(dh known l (e+1))[i]?=some (!eF l known i (dh known l e) l.length):=by rw[kd,List.getElem?_set_self (by omega)]
   constructor
   ·intro h
    split at h
    ·rename_i hc
     simp only[AP,decide_eq_true_eq]at hc
     rcases BA.1 h with rfl|h
     ·exact⟨i,y,by omega,hy,by rw[new,hc.1.2],hc.2,hc.1.1,rfl⟩
     ·obtain⟨j,x,h1,h2⟩:=pQ.1 ((eP p).1 h)
      exact⟨j,x,by omega,h2⟩
    ·obtain⟨j,x,h1,h2⟩:=pQ.1 ((eP p).1 h)
     exact⟨j,x,by omega,h2⟩
   ·rintro⟨j,x,h1,h2,h3,h4,h5,h6⟩
    by_cases hj:j=i
    ·subst hj
     rw[hy]at h2
     obtain rfl:=oi h2
     rw[new]at h3
     have h3':=oi h3
     rw[if_pos (by simp[h3',h4,h5])]
     rw[<-h6]
     exact List.mem_cons_self
    ·have:=(eP p).2 (pQ.2 ⟨j,x,by omega,h2,h3,h4,h5,h6⟩)
     split
     ·exact List.mem_cons_of_mem _ this
     ·exact this
theorem akB {r:Ab} (h:fJ r=true):ql r=true:=by
 unfold fJ jX within at h
 simp only[AP,decide_eq_true_eq]at h
 obtain⟨⟨⟨a1,a2⟩,a3,a4⟩,_,_,_,_,h6⟩:=h
 have hO:(-9223372036854775808<=r.Of.Ag/\r.Of.Ag<=9223372036854775807)/\(-9223372036854775808<=r.Of.No/\r.Of.No<=9223372036854775807):=by
  cases hk:decide (r.Kind=(0:Int)) with
  |false=>
   rw[hk]at h6
   simp only[B4,AH,AP,decide_eq_true_eq]at h6
   omega
  |true=>
   rw[hk]at h6
   simp only[BM,AB,AP,decide_eq_true_eq]at h6
   omega
 unfold ql Lit.wf
 simp only[AP,decide_eq_true_eq,IntKind.min,IntKind.max,IntKind.signed,IntKind.bits]
 refine⟨⟨⟨?_,?_⟩,?_,?_⟩,⟨?_,?_⟩,?_,?_⟩<;>simp<;>omega
theorem aew {b:Al} (hb:kJ b.Ac=true) (known:Int) (k:Nat):qG k b known=some (cS known b.Ac b.Ac.length).1:=by
 obtain⟨h1,h2,h3⟩:=ss.1 hb
 unfold qG
 rw[if_pos ⟨by omega,List.all_eq_true.2 fun r hr=>akB (h2 r hr)⟩]
theorem aco (e:Int×Int):¬ du e e:=by
 unfold du
 rintro(h|⟨_,h⟩)<;>omega
theorem pos_at {l:List Ab} (hs:Cc ai l) {i:Nat}{x:Ab} (hx:l[i]?=some x):pos ai l (ai x)=i/\fT ai l (ai x)=some x:=by
 have hf:=acI ai hs (Ba hx)
 refine⟨?_,hf⟩
 have hp:=zG ai hs (ai x)
 rw[hf]at hp
 obtain⟨y,hy,hk⟩:∃ y,l[pos ai l (ai x)]?=some y/\ai y=ai x:=by
  cases hq:l[pos ai l (ai x)]? with
  |none=>rw[hq]at hp;cases hp
  |some y=>
   rw[hq]at hp
   by_cases h:ai y=ai x
   ·exact⟨y,rfl,h⟩
   ·simp[Option.filter,h]at hp
 obtain⟨h1,h2⟩:=gS.1 hx
 obtain⟨h3,h4⟩:=gS.1 hy
 have hpw:=List.pairwise_iff_getElem.1 hs
 rcases Nat.lt_trichotomy (pos ai l (ai x)) i with h|h|h
 ·have:=hpw _ _ h3 h1 h
  rw[h2,h4,hk]at this
  exact absurd this (aco _)
 ·exact h
 ·have:=hpw _ _ h1 h3 h
  rw[h2,h4,hk]at this
  exact absurd this (aco _)
theorem akj {k:Nat} (hk:1000000<k) (b:Al) (e:Entry):∃ r,sy k b e=some r/\DO k b e=some r:=by
 unfold sy DO
 rw[sH hk,sG hk]
 cases hb:kJ b.Ac with
 |false=>exact⟨_,rfl,rfl⟩
 |true=>
  obtain⟨h1,h2,h3⟩:=ss.1 hb
  have hl:b.Ac.length<=100000:=by omega
  simp only[AH,Av,(by decide:decide ((0:Int)=0)=true),BM,AB]
  rw[acL (by omega) h3.1 (by omega)]
  rcases acK (k:=k) hl hk e with ⟨i,x,g1,g2,g3⟩|⟨g1,g2⟩
  ·rw[g1]
   obtain⟨p1,p2⟩:=pos_at h3.1 g2
   rw[g3]at p1 p2
   obtain⟨c,r1,r2⟩:=(aeu (l:=b.Ac) (known:=100000) b.Ac.length (A7 _)).1 i x (by omega) g2
   have hx:=h2 x (Ba g2)
   have hkn:decide (x.AI<=100000)=true:=by
    unfold fJ within at hx
    simp only[AP,decide_eq_true_eq]at hx
    simp[hx.2.2.2.1.2]
   rw[hkn,Bb]at r2
   have hn:decide ((i:Int)<0)=false:=by simp
   rw[p1,p2]
   simp only[Av,Option.isSome_some,BM,AB,hn,aew hb,aev hl 100000 hk,dD r1,dD r2]
   exact⟨_,rfl,rfl⟩
  ·rw[g1,acG ai g2]
   exact⟨_,rfl,rfl⟩
def pV (l:List Ab) (known:Int) (s:List Bool) (acc:List Ab) (i:Nat):List Ab:=match l[i]?,s[i]? with
 |some x,some c=>if (decide (x.AI<=known)&&c)&&!decide (x.Kind=0) then acc++[x] else acc
 |_,_=>acc
theorem aki {k:Nat} (hk:1000000<k) (b:Al) (known:Int):∃ r,ee k b known=some r/\By k b known=some r/\r.1.length<=1000:=by
 unfold ee By
 rw[sH hk,sG hk]
 cases hb:kJ b.Ac with
 |false=>exact⟨([],91),rfl,rfl,by simp⟩
 |true=>
  obtain⟨h1,h2,h3⟩:=ss.1 hb
  have hl:b.Ac.length<=100000:=by omega
  simp only[AH,Av,(by decide:decide ((0:Int)=0)=true),BM,AB,aaB,aaz]
  cases hw:within known 0 100000 with
  |false=>exact⟨([],6),rfl,rfl,by simp⟩
  |true=>
   simp only[BM,AB,aew hb,aev hl known hk,Av]
   obtain⟨S,hS⟩:∃ S,S=dh known b.Ac b.Ac.length:=⟨_,rfl⟩
   have hSl:S.length=b.Ac.length:=by rw[hS,xW]
   have hOl:=(ym known b.Ac b.Ac.length).1
   have cw:=(aeu (l:=b.Ac) (known:=known) b.Ac.length (A7 _)).1
   have both:∀ (i:Nat) (s:List Ab),i<b.Ac.length->s.length<=i->ee.b0 k b (cS known b.Ac b.Ac.length).1 ((i:Int),s)=some (.next (af ((i:Int)+1),pV b.Ac known S s i))/\
     By.b0 k b known S ((i:Int),s)=some (.next (af ((i:Int)+1),pV b.Ac known S s i))/\(pV b.Ac known S s i).length<=i+1:=by
    intro i s hi hs
    obtain⟨x,hx⟩:∃ x,b.Ac[i]?=some x:=⟨_,gG hi⟩
    obtain⟨c,r1,r2⟩:=cw i x (by omega) hx
    rw[<-hS]at r1
    have hp:iC 72 s x=some (s++[x]):=ad5 (by omega) (by omega)
    have tS:pV b.Ac known S s i=if (decide (x.AI<=known)&&c)&&!decide (x.Kind=0) then s++[x] else s:=by unfold pV;simp only[hx,r1]
    have e1:decide ((i:Int)<((cS known b.Ac b.Ac.length).1.length:Int))=true:=by simp;omega
    have e2:decide ((i:Int)<(S.length:Int))=true:=by simp;omega
    refine⟨?_,?_,?_⟩
    ·rw[tS]
     unfold ee.b0
     simp only[e1,AH,dD r2,dD hx,hp,Av]
     cases decide (x.AI<=known)<;>cases c<;>cases decide (x.Kind=0)<;>simp
    ·rw[tS]
     unfold By.b0
     simp only[e2,AH,dD r1,dD hx,hp,Av]
     cases decide (x.AI<=known)<;>cases c<;>cases decide (x.Kind=0)<;>simp
    ·rw[tS]
     split
     ·simp;omega
     ·omega
   have hA:=aeY (n:=b.Ac.length) (body:=ee.b0 k b (cS known b.Ac b.Ac.length).1) (fun i s=>(i,s)) (pV b.Ac known S) (fun i s=>s.length<=i) (by omega) (k:=k) (by omega) (s0:=[]) (by simp)
    (fun i s hi hs=>⟨(both i s hi hs).1,(both i s hi hs).2.2⟩) (fun s hs=>by
     unfold ee.b0
     have e1:decide ((b.Ac.length:Int)<((cS known b.Ac b.Ac.length).1.length:Int))=false:=by simp;omega
     simp only[e1,AB])
   have hB:=aeY (n:=b.Ac.length) (body:=By.b0 k b known S) (fun i s=>(i,s)) (pV b.Ac known S) (fun i s=>s.length<=i) (by omega) (k:=k) (by omega) (s0:=[]) (by simp)
    (fun i s hi hs=>⟨(both i s hi hs).2.1,(both i s hi hs).2.2⟩) (fun s hs=>by
     unfold By.b0
     have e1:decide ((b.Ac.length:Int)<(S.length:Int))=false:=by simp;omega
     simp only[e1,AB])
   rw[<-hS]
   simp only[hA.1,hB.1,Av]
   refine⟨_,rfl,rfl,?_⟩
   have:=hA.2
   simp only at this ⊢
   omega
theorem add_plain {k:Nat} (hk:1000000<k) (b:Al) (r:Ab):∃ x,su k b r=some x/\DK k b r=some x/\x.1.Ac.length<=1000:=by
 unfold su DK
 rw[sH hk,sG hk]
 cases hb:kJ b.Ac with
 |false=>exact⟨(⟨[]⟩,91),rfl,rfl,by simp⟩
 |true=>
  obtain⟨h1,h2,h3⟩:=ss.1 hb
  have hh:∀ r∈b.Ac,ka r:=fun r hr=>oD (h2 r hr)
  simp only[AH,Av,(by decide:decide ((0:Int)=0)=true),BM,AB]
  rw[afX hk h3.1 (by omega) hh,ab0 (by omega)]
  cases hr:fJ r with
  |false=>exact⟨(⟨[]⟩,90),rfl,rfl,by simp⟩
  |true=>
   simp only[AH,Av,(by decide:decide ((0:Int)=0)=true),BM,AB]
   rw[afW hk h3.1 (by omega) hh (oD hr)]
   simp only[Av]
   have key:∀ z:List Ab×Int,z=ny b.Ac r->(z.2≠0->z.1=[])/\z.1.length<=1000:=by
    rintro z rfl
    unfold ny
    split
    ·split
     ·exact⟨fun h=>absurd rfl h,by simp;omega⟩
     ·exact⟨fun _=>rfl,by simp⟩
    ·split
     ·exact⟨fun _=>rfl,by simp⟩
     ·split
      ·exact⟨fun _=>rfl,by simp⟩
      ·refine⟨fun h=>absurd rfl h,?_⟩
       have:=aio ai b.Ac r
       simp only
       omega
   generalize ny b.Ac r=z at key
   obtain⟨k1,k2⟩:=key z rfl
   refine⟨(⟨z.1⟩,z.2),rfl,?_,k2⟩
   by_cases hz:z.2=0
   ·simp[hz]
   ·simp[hz,k1 hz]
theorem ahF {k:Nat} (hk:1000000<k) (b:Al):∃ x,sw k b=some x/\DM k b=some x:=by
 unfold sw DM
 rw[sH hk,sG hk]
 cases hb:kJ b.Ac with
 |false=>exact⟨_,rfl,rfl⟩
 |true=>
  obtain⟨h1,h2,h3⟩:=ss.1 hb
  have hh:∀ r∈b.Ac,ka r:=fun r hr=>oD (h2 r hr)
  simp only[AH,Av,(by decide:decide ((0:Int)=0)=true),BM,AB]
  rw[ac7 hk (by omega) hh,aaH hk (by omega) hh]
  exact⟨_,rfl,rfl⟩
theorem aky {n:Nat} (v:Aa n Int):Aa.eq (fun(x y:Int)=>decide (x=y)) v v=true:=by
 unfold Aa.eq
 rw[List.all_eq_true]
 intro p hp
 have:∀ (l:List Int),∀ p∈l.zip l,p.1=p.2:=by
  intro l
  induction l with
  |nil=>intro p hp;simp at hp
  |cons x l ih=>
   intro p hp
   simp only[List.zip_cons_cons,BA]at hp
   rcases hp with rfl|hp
   ·rfl
   ·exact ih p hp
 simp[this _ p hp]
theorem agf (b:Al) (x:B9):DE 18446744073709551616 b x=some true:=by
 have hk:1000000<18446744073709551616:=by decide
 obtain⟨a,a1,a2,a3⟩:=add_plain hk b x.Ab
 obtain⟨c,c1,c2⟩:=ahF hk b
 obtain⟨d,d1,d2⟩:=akj hk b x.At
 obtain⟨e,e1,e2,e3⟩:=aki hk b x.AI
 obtain⟨f,f1,f2⟩:=aej (k:=18446744073709551616) (by decide) (a:=e.1) (b:=e.1) e3
 obtain rfl:=f2.2 rfl
 unfold DE
 rw[ajS,a1,a2,c1,c2,d1,d2,e1,e2]
 simp only[Av,ajQ (k:=18446744073709551616) (by decide) a3,f1,sH hk,sG hk,AH,decide_true,aky,BEq.rfl]
end Go.Abs
namespace Go.Proofs.Ytpgccpdlilnakaa.bookBooks
open Go.Abs
theorem plain (a0:Go.Abs.Al) (a1:Go.Abs.B9):Go.Abs.Al.q a0->Go.Abs.B9.q a1->∃ k,DE k a0 a1=some true:=by
 intro q0 q1;exact⟨_,agf a0 a1⟩
end Go.Proofs.Ytpgccpdlilnakaa.bookBooks
namespace Go.Proofs.Ytpgccpdlilnakaa.bookBooks
open Go.ChangeShapes Go.WideShapes Go.ChangeAt Go.RowKit Go.Abs
theorem own:ownKnob Try.prog.godebug=none:=by kernel_rfl
theorem agO (H:Type) (enc:TypeId×Value->H) (W:World) (base:Nat) (args:Array Value) (ds gs:List (DataW H)) (before:List MemPlace)
  (mX:∀ (j:Nat) t v,Try.f11.params[j]?=some t->args[j]?=some v->Value.okWide Try.prog W .any base t v)
  (hW:DataW.Whole enc Try.prog Try.f11.params.toList Rows.bookBooksSpec.vars false W args.toList ds gs before) (aih:(DataW.weightsEach Try.prog (Try.f11.params.toList++Rows.bookBooksSpec.plain.varTypes Try.prog) (ds++gs)).all (·<=reachBytes)=true):
  Calls Try.prog 11 args W fun e W'=>∃ v,e=.returned v/\Rows.bookBooksSpec.post enc Try.prog Try.f11 false true false false W args v W':=by
 have hW':=hW
 obtain⟨p,q,hA0,hV,rfl,kT,bw⟩:=hW
 have hA:DataW.TrodAll enc Try.prog W 0 (fun _=>true) true Try.f11.params.toList args.toList ds p:=hA0
 rw[Try.params11]at hA mX
 obtain⟨v0,vs0,d0,ds0,p0,q0,dR,rfl,rfl,h0,r0⟩:=trodAll_cons hA
 obtain⟨v1,vs1,d1,ds1,p1,q1,rfl,rfl,rfl,h1,r1⟩:=trodAll_cons r0
 obtain⟨rfl,rfl,rfl⟩:=trodAll_nil r1
 have ao:∀ (j:Nat) t d,Try.f11.params.toList[j]?=some t->[d0,d1][j]?=some d->∀ n∈d.weights Try.prog t,n<=reachBytes:=akA (by rw[Try.params11];rfl) aih
 rw[Try.params11]at ao
 obtain rfl:args=#[v0,v1]:=by cases args;simp_all
 obtain⟨a0,Q0,V0⟩:=abx ajE (by have h:=mX 0 46 v0 rfl rfl;unfold Value.okWide at h;rw[Try.underlying46]at h;obtain⟨cs,h,_⟩:=h;exact⟨cs,h⟩) h0 (ao 0 46 d0 rfl rfl)
 obtain⟨a1,Q1,V1⟩:=abx ajG (by have h:=mX 1 94 v1 rfl rfl;unfold Value.okWide at h;rw[Try.underlying94]at h;obtain⟨cs,h,_⟩:=h;exact⟨cs,h⟩) h1 (ao 1 94 d1 rfl rfl)
 obtain⟨k,hk⟩:=plain a0 a1 Q0 Q1
 have hv:Am (gE W) [] [.agg (Go.Abs.Al.c a0),.agg (Go.Abs.B9.c a1)] [v0,v1]:=⟨rfl,fun i x v h1 h2=>by
  match i with
  |0=>cases h1;cases h2;exact V0
  |1=>cases h1;cases h2;exact V1
  |i+2=>simp at h1⟩
 refine Calls.mono ((Gh k a0 a1 true hk).2 (gE W) W _ (fun _ _ _ h=>h) hv) ?_
 rintro e W1 ⟨v,y,dv,rfl,rfl,_,aZ,_,hB⟩
 cases aZ
 exact⟨_,rfl,aiG (t:=4) (by kernel_rfl) (by kernel_rfl) (by kernel_rfl) hW' rfl hB (by rw[Try.params11];decide +kernel) rfl Try.underlying4 (by obtain⟨rfl,_⟩:=trodVars_none hV;rfl)⟩
theorem lifted (os:Os) (started:os.Started) (H:Type) (enc:TypeId×Value->H):
  ReturnsInHanded {} Try.checked os 11 .any (Rows.bookBooksSpec.pre6 enc Try.prog Try.f11 Rows.bookBooksRow.domain false) (Rows.bookBooksSpec.post enc Try.prog Try.f11 false true false false):=by
 refine returnsInHanded_of_change_sized (C:=Try.checked) own started (by kernel_rfl) Try.func11
  (ChangeSpec.witness6 (enc:=enc) (C:=Try.checked) false ⟨#[],#[.agg #[.slice none 0 0],.agg #[.int .i64 0,.int .i64 0,.int .i64 0,.int .i64 0,.int .i64 0,.int .i64 0,.int .i64 0,.string ⟨#[]⟩,.int .i64 0,.int .i64 0,.int .i64 0]],[]⟩ 8 (by kernel_rfl) (by kernel_rfl) (by kernel_rfl) (by kernel_rfl)) ?_
 intro W base args ds gs before aik hW ak6 ao _
 exact agO H enc W base args ds gs before aik hW ao
theorem ajj:Rows.bookBooksRow.holds Try.pinned (OpenSpec.ofChange Rows.bookBooksSpec):=
 OpenClaim.holds_of_wide 11 Try.f11 rfl rfl rfl rfl rfl rfl rfl ⟨rfl,rfl,rfl,rfl,rfl⟩ rfl rfl rfl rfl rfl (by kernel_rfl) Try.func11 (by kernel_rfl)
  (of_decide_eq_true (by kernel_rfl)) (by unfold Func.isWrapper;first|(rw[if_pos (by decide +kernel)];kernel_rfl)|(rw[if_neg (by decide +kernel)];exact⟨rfl,rfl⟩))
  (fun os started H enc _=>lifted os started H enc)
theorem proved:Rows.BookBooksSaid:=ajj
end Go.Proofs.Ytpgccpdlilnakaa.bookBooks
