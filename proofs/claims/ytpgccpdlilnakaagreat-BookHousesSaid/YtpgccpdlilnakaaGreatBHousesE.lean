/-
  Part 5 of the proof: a machine over named blocks, what each function computes, and what follows. No condition.
-/
import Derived.Test.YtpgccpdlilnakaaGreatBHousesD
set_option linter.unusedVariables false
set_option linter.unusedSimpArgs false
set_option linter.all false
set_option maxRecDepth 100000
set_option maxHeartbeats 8000000
noncomputable section
namespace Go.Abs
open Go.Proofs
def Dc.s0:SC:=
 SQ [SQ [RG [wV 9 6 3,wK 10 .geq 3 9 0 3 4 [9]],CN 10 .skip (.exit 0)],.block 1 (RG [wV 13 5 82 [5],wV 14 0 3,wV 15 6 3,oQ 16 (.binOp .mul 3 (.const (.int .i64 8)) (.tmp 15) 3) 3 [15],wO 17 .shr 3 14 16 3 3 [14,16],wY 18 3 5 17 5 [17],oQ 19 (.buildSlice 82 1 #[(0,.tmp 18)]) 82 [18],wP 20 13 19 82 82 82 [13,19],wG 5 20 82 [20]]),RG [wV 11 6 3 [6],wK 12 .sub 3 11 1 3 3 [11],wG 6 12 3 [12]]]
def Dc.c:SC:=
 SQ [RG [oQ 4 (.assign (.const (.slice none 0 0))) 82 [4]],RG [oQ 5 (.assign (.const (.slice none 0 0))) 82],SQ [RG [wV 7 1 3 [1],wK 8 .sub 3 7 1 3 3 [7],wG 6 8 3 [8]],.block 0 (.loop Dc.s0)],RG [wV 21 5 82 [5],wG 4 21 82 [21]],.ret]
theorem Dc.rs:Tryz.f86.results.toList=[.tmp 4]:=rfl
def Cd.b0 (k:Nat) (n0:Int):(Int×(List Int))->Option (AN (Int×(List Int)) ((List Int)) ((List Int))):=fun s=>match s with
 |(i1,l2)=>
   bif decide ((0:Int)<=i1) then
    (lX (ab (8*i1))).bind fun _=>
    (eO 1 l2 (IntKind.u8.wrap (Int.fdiv n0 (2 ^ (min (Int.toNat (ab (8*i1))) 64))))).bind fun l6=>
    some (.next (ab (i1 - 1),l6))
   else
    some (.brk l2)
def Cd.h0 (n0:Int):(Int×(List Int))->St:=fun s=>match s with
 |(i1,l2)=>⟨[(0,.int .i64 n0),(5,.loc 0 0 1 0 l2.length l2.length),(6,.int .i64 i1)],[(0,.arr 5 1 (List.map ae l2))],[],1,Tryz.f86.ntmps⟩
def Cd.x0:(List Int)->St:=fun l3=>⟨[(5,.loc 0 0 1 0 l3.length l3.length)],[(0,.arr 5 1 (List.map ae l3))],[],1,Tryz.f86.ntmps⟩
def Cd (k:Nat) (n0:Int) (many1:Int):Option ((List Int)):=
 (ai (Cd.b0 k n0) k (ab (many1 - 1),[])).bind fun r7=>match r7 with
 |.next _=>none
 |.ret v_=>some v_
 |.brk l3=>
  some l3
theorem FG (k:Nat) (n0:Int) (many1:Int) (r:(List Int)) (h0:Cd k n0 many1=some r):Ay Tryz.prog 86 [.int .i64 n0,.int .i64 many1] (fun y=>y=.sl 1 (List.map ae r)):=by
 refine PB Tryz.f86 Dc.c [.tmp 4] ?_
 simp only[Cd]at h0
 try simp only[Dc.c,go_sem]
 obtain⟨r7,lf,h0⟩:=bs h0
 refine A5 lf (Cd.h0 n0) (Cd.x0) ?_ ?_ ?_
 refine Al.go [0,5,6] [16] rfl ?_
 try simp only[Cd.h0,go_sem]
 rintro⟨i1,l2⟩ bO Bd Ba h1 az ax bg
 refine rS ?_
 simp only[Cd.b0]at h1
 try simp only[Dc.s0,Cd.h0,go_sem]
 refine AP h1 ?_ ?_<;>intro c4 h1<;>have F:=c4<;>try simp only[F,go_sem]
 obtain⟨u5,yu5,h1⟩:=bs h1
 have F:=an (aaB yu5) F
 try simp only[F,go_sem]
 obtain⟨l6,ko,h1⟩:=bs h1
 have tV:=pu ae ko
 try simp only[F,go_sem]at tV
 have F:=an tV F
 try simp only[F,go_sem]
 refine Ax (az _ _ (oi h1).symm (Al.go [0,5,6] [0] rfl ?_))
 try simp only[Cd.h0,F,go_sem]
 refine Ax (ax _ _ (oi h1).symm (Al.go [5] [0] rfl ?_))
 try simp only[Cd.x0,F,go_sem]
 rintro l3 aA
 subst aA
 simp only at h0
 refine rS ?_
 try simp only[Cd.x0,go_sem]
 obtain rfl:=oi h0
 refine Ag rfl ?_
 try simp only[go_sem]
def B1.b0 (k:Nat) (n0:Int):(Int×(List Int))->Option (AN (Int×(List Int)) ((List Int)) ((List Int))):=fun s=>match s with
 |(i1,l2)=>
   bif decide ((0:Int)<=i1) then
    (lX (ab (8*i1))).bind fun _=>
    (eO 1 l2 (IntKind.u8.wrap (Int.fdiv n0 (2 ^ (min (Int.toNat (ab (8*i1))) 64))))).bind fun l6=>
    some (.next (ab (i1 - 1),l6))
   else
    some (.brk l2)
def B1.h0 (H:Heap) (n0:Int):(Int×(List Int))->St:=fun s=>match s with
 |(i1,l2)=>⟨[(0,.int .i64 n0),(5,.loc 0 0 1 0 l2.length l2.length),(6,.int .i64 i1)],[(0,.arr 5 1 (List.map ae l2))],H,1,Tryz.f86.ntmps⟩
def B1.x0 (H:Heap):(List Int)->St:=fun l3=>⟨[(5,.loc 0 0 1 0 l3.length l3.length)],[(0,.arr 5 1 (List.map ae l3))],H,1,Tryz.f86.ntmps⟩
def B1 (k:Nat) (n0:Int) (many1:Int):Option ((List Int)):=
 (ai (B1.b0 k n0) k (ab (many1 - 1),[])).bind fun r7=>match r7 with
 |.next _=>none
 |.ret v_=>some v_
 |.brk l3=>
  some l3
theorem DM (k:Nat) (n0:Int) (many1:Int) (r:(List Int)) (h0:B1 k n0 many1=some r):Bg Tryz.prog 86 [.int .i64 n0,.int .i64 many1] [] (fun y fr=>y=.loc 0 0 1 0 r.length r.length/\fr=[(0,.arr 5 1 (List.map ae r))]):=by
 have hr:=Bg.own (et:=5) (sz:=1) (ls:=List.map ae r) (Bg.gD AE (f:=86) (fn:=Tryz.f86) (sc:=Dc.c) (args:=[.int .i64 n0,.int .i64 many1]) (fr0:=[]) (by rfl) (by rfl) (by decide +kernel) (by rfl) (by decide +kernel) (Nat.le_of_ble_eq_true rfl) (fun H=>?_))
 simpa only [Bu] using hr
 refine rS ?_
 simp only[B1]at h0
 try simp only[Dc.c,go_sem]
 obtain⟨r7,lf,h0⟩:=bs h0
 refine A5 lf (B1.h0 H n0) (B1.x0 H) ?_ ?_ ?_
 refine Al.go [0,5,6] [32] rfl ?_
 try simp only[B1.h0,go_sem]
 rintro⟨i1,l2⟩ bO Bd Ba h1 az ax bg
 refine rS ?_
 simp only[B1.b0]at h1
 try simp only[Dc.s0,B1.h0,go_sem]
 refine AP h1 ?_ ?_<;>intro c4 h1<;>have F:=c4<;>try simp only[F,go_sem]
 obtain⟨u5,yu5,h1⟩:=bs h1
 have F:=an (aaB yu5) F
 try simp only[F,go_sem]
 obtain⟨l6,ko,h1⟩:=bs h1
 have tV:=pu ae ko
 try simp only[F,go_sem]at tV
 have F:=an tV F
 try simp only[F,go_sem]
 refine Ax (az _ _ (oi h1).symm (Al.go [0,5,6] [0] rfl ?_))
 try simp only[B1.h0,F,go_sem]
 refine Ax (ax _ _ (oi h1).symm (Al.go [5] [0] rfl ?_))
 try simp only[B1.x0,F,go_sem]
 rintro l3 aA
 subst aA
 simp only at h0
 refine rS ?_
 try simp only[B1.x0,go_sem]
 obtain rfl:=oi h0
 refine C6 rfl ?_
 try simp only[Dc.rs,nE,Be,cm,um,we,AY,BA,go_sem]
def HB.c:SC:=
 SQ [RG [wA 4 92],RG [oQ 6 (.buildSlice 82 1 #[(0,.const (.int .u8 104))]) 82,wV 7 0 3 [0],wC 8 86 #[.tmp 7,.const (.int .i64 3)] #[3,3] 82 [7],wP 9 6 8 82 82 82 [6,8],wG 5 9 82 [9]],RG [wV 10 5 82 [5],wV 11 1 3 [1],wC 12 86 #[.tmp 11,.const (.int .i64 2)] #[3,3] 82 [11],wP 13 10 12 82 82 82 [10,12],wG 5 13 82 [13]],RG [wV 14 5 82 [5],oQ 15 (.call ⟨.builtin .append,#[.tmp 14,.const (.int .i64 25)],
 #[82,3]⟩) 82 [14],oQ 16 (.buildSlice 82 1 #[(0,.const (.int .u8 165))]) 82,wP 17 15 16 82 82 82 [15,16],wG 5 17 82 [17]],RG [wV 18 5 82 [5],oQ 19 (.sliceToArrayPointer 92 (.tmp 18)) 0 [18],wD 20 92 19 [19],wS 92 4 20 [20]],.ret]
def Eh (k:Nat) (qx:Int) (qt:Int):Option ((Aa 32 Int)):=
 (Cd k qx 3).bind fun x1=>
 (cY 1 [104] x1).bind fun l2=>
 (Cd k qt 2).bind fun x3=>
 (cY 1 l2 x3).bind fun l4=>
 (cY 1 l4 (List.replicate 25 (0:Int))).bind fun l5=>
 (eO 1 l5 165).bind fun l6=>
 (Aa.oD 32 l6).bind fun v7=>
 some v7
theorem Ia (k:Nat) (qx:Int) (qt:Int) (r:(Aa 32 Int)) (h0:Eh k qx qt=some r):Ay Tryz.prog 50 [.int .i64 qx,.int .i64 qt] (fun y=>y=.agg ((Aa.c (n:=32) ae) r)):=by
 refine PB Tryz.f50 HB.c [.cell 4 92] ?_
 simp only[Eh]at h0
 try simp only[HB.c,go_sem]
 refine aj h0 (FG k _ _) ?_ (fun x1 h0=>?_)<;>try simp only[go_sem]
 obtain⟨l2,yl2,h0⟩:=bs h0
 have akU:=fw ae yl2
 try simp only[go_sem]at akU
 have F:=akU
 try simp only[F,go_sem]
 refine aj h0 (FG k _ _) ?_ (fun x3 h0=>?_)<;>try simp only[F,go_sem]
 obtain⟨l4,yl4,h0⟩:=bs h0
 have ak1:=fw ae yl4
 try simp only[F,go_sem]at ak1
 have F:=an ak1 F
 try simp only[F,go_sem]
 obtain⟨l5,yl5,h0⟩:=bs h0
 have aa2:=fw ae yl5
 try simp only[(@id (Int.toNat 25=25) rfl),(by decide:room 25 1),(by decide:(0:Int)<=25),(by decide:¬ ([3]:List TypeId)=[82]),F,go_sem]at aa2
 have F:=an aa2 F
 try simp only[(@id (Int.toNat 25=25) rfl),(by decide:room 25 1),(by decide:(0:Int)<=25),(by decide:¬ ([3]:List TypeId)=[82]),F,go_sem]
 obtain⟨l6,ko,h0⟩:=bs h0
 have tV:=pu ae ko
 try simp only[F,go_sem]at tV
 have F:=an tV F
 try simp only[F,go_sem]
 obtain⟨v7,yv7,h0⟩:=bs h0
 have ak9:=ac4 yv7
 try simp only[F,go_sem]at ak9
 have F:=an ak9 (an (akx (E:=ae) yv7) (an (akw (E:=ae) yv7) F))
 try simp only[F,go_sem]
 obtain rfl:=oi h0
 refine Ag rfl ?_
 try simp only[F,go_sem]
def G8.c:SC:=
 SQ [RG [wA 0 36,wA 1 42],RG [oQ 3 (.makeSlice 33 (.const (.int .i64 602)) (.const (.int .i64 602))) 33,oQ 4 (.build 36 #[(0,.tmp 3)]) 36 [3],wA 2 36,wS 36 2 4 [4]],.aS [wF 5 36 2 0,wD 6 33 5,wC 7 50 #[.const (.int .i64 1),.const (.int .i64 0)] #[3,3] 92,wJ 8 33 6 0,wJ 9 113 8 0,wS 92 9 7] [[],[0],[],[0,1],[0,1,3,2],[0,1,3,2,4]] [5,6,7,8,9],RG [wD 10 36 2 [2],oQ 11 (.build 42 #[(2,
 .const (.int .i64 1)),(3,.const (.int .i64 1))]) 42,wS 36 0 10 [10],wS 42 1 11 [11]],.ret]
def Fb (k:Nat):Option (Ad×Ai):=
 (kR 602 64 ((Aa.rep 2 ((Aa.rep 32 (0:Int)):(Aa 32 Int))):(Aa 2 (Aa 32 Int)))).bind fun l1=>
 (Eh k 1 0).bind fun x2=>
 (at? l1 0).bind fun x3=>
 (x3.at? 0).bind fun x4=>
 (dN l1 0 (x3.set 0 x2)).bind fun l6=>
 some ((⟨l6,[]⟩:Ad),(⟨(⟨[]⟩:Ak),0,1,1⟩:Ai))
theorem Jf (k:Nat) (r:Ad×Ai) (h0:Fb k=some r):Ay Tryz.prog 11 [] (fun y=>y=.aw [.agg (Ad.c r.1),.agg (Ai.c r.2)]):=by
 refine PB Tryz.f11 G8.c [.cell 0 36,.cell 1 42] ?_
 simp only[Fb]at h0
 try simp only[G8.c,go_sem]
 have hz:=bs h0;clear h0;cases hz;rename_i l1 hz;cases hz;rename_i rN h0
 obtain⟨_,aeD⟩:=aeQ rN
 have adP:List.replicate 602 (Aa.c (n:=2) (Aa.c (n:=32) ae) (Aa.rep 2 ((Aa.rep 32 (0:Int)):(Aa 32 Int))))=List.map (Aa.c (n:=2) (Aa.c (n:=32) ae)) l1:=aeP (Aa.c (n:=2) (Aa.c (n:=32) ae)) rN
 have aeY:l1.length=602:=aeO rN
 have afr:List.take 602 (List.map (Aa.c (n:=2) (Aa.c (n:=32) ae)) l1)=List.map (Aa.c (n:=2) (Aa.c (n:=32) ae)) l1:=aeR (Aa.c (n:=2) (Aa.c (n:=32) ae)) rN
 have F:=an adP (an aeY (an afr ((@id (Int.toNat 602=602) rfl))))
 try simp only[aeM aeD,F,go_sem]
 refine AL AE aO 1000 ?_
 try simp only[F,go_sem]
 refine bJ h0 (Ia k _ _) ?_ (fun x2 h0=>?_)<;>try simp only[F,go_sem]
 have hz:=bs h0;clear h0;cases hz;rename_i x3 hz;cases hz;rename_i cv h0
 have yZ:=aI cv
 simp only[F,go_sem]at yZ
 have F:=an yZ (an (aH (Aa.c (n:=2) (Aa.c (n:=32) ae)) cv) F)
 try simp only[F,go_sem]
 have hz:=bs h0;clear h0;cases hz;rename_i x4 hz;cases hz;rename_i bF h0
 have fF:=Ao.bh gN (Ao.self gP x3) bF
 have jP:=fF.2
 try simp only[AA,AB,go_sem]at jP
 have F:=an (aq bF) (an jP F)
 try simp only[F,go_sem]
 have hz:=bs h0;clear h0;cases hz;rename_i l6 hz;cases hz;rename_i ko h0
 have q5:=fF.1.ow x2
 try simp only[AA,AB,go_sem]at q5
 have sy:=lV (Aa.c (n:=2) (Aa.c (n:=32) ae)) ko
 try simp only[go_sem]at sy
 have aaG:=lW (Aa.c (n:=2) (Aa.c (n:=32) ae)) ko
 try simp only[F,go_sem]at aaG
 have F:=an sy (an (kW ko) (an aaG F))
 try simp only[q5,F,go_sem]
 refine aG ?_
 try simp only[F,go_sem]
 obtain rfl:=oi h0
 refine Ag rfl ?_
 try simp only[F,go_sem]
def HF.c:SC:=
 SQ [RG [wB 6 false 4 [6]],RG [wV 7 0 3,wV 8 1 3 [1],wO 9 .geq 3 7 8 3 4 [7,8],wV 10 9 4 [9],gd 10 true (wV 11 0 3 [0]),gd 10 true (wV 12 2 3 [2]),gd 10 true (wO 13 .leq 3 11 12 3 4 [11,12]),wZ 14 10 13 4 [10,13],wG 6 14 4 [14]],.ret]
def CI (k:Nat) (n0:Int) (ach:Int) (ab1:Int):Option (Bool):=
 bif decide (ach<=n0) then
  some (decide (n0<=ab1))
 else
  some false
theorem C0 (k:Nat) (n0:Int) (ach:Int) (ab1:Int) (r:Bool) (h0:CI k n0 ach ab1=some r):Ay Tryz.prog 54 [.int .i64 n0,.int .i64 ach,.int .i64 ab1] (fun y=>y=.bool r):=by
 refine PB Tryz.f54 HF.c [.tmp 6] ?_
 simp only[CI]at h0
 try simp only[HF.c,go_sem]
 refine AP h0 ?_ ?_<;>intro c1 h0<;>have F:=c1<;>try simp only[F,go_sem]
 obtain rfl:=oi h0
 refine Ag rfl ?_
 try simp only[F,go_sem]
 obtain rfl:=oi h0
 refine Ag rfl ?_
 try simp only[F,go_sem]
def Hl.c:SC:=
 SQ [RG [wA 2 63,wN 3 0 45 [3]],SQ [RG [wV 6 0 3,wC 7 54 #[.tmp 6,.const (.int .i64 0),.const (.int .i64 5)] #[3,3,3] 4 [6],wQ 8 7 4 [7]],CN 8 (SQ [RG [oQ 9 (.build 63 #[]) 63,wS 63 2 9 [9],wN 3 1 45],.ret]) .skip],RG [wC 11 11 #[] #[] 48,wV 10 11 48 [11],wX 12 10 0 36,wX 13 10 1 42 [10],wA 4 36,wA 5 42,wS 36 4 12 [12],wS 42 5 13 [13]],RG [wV 14 0 3 [0],wD 15 36 4 [4],wD 16 42 5 [5],
 oQ 17 (.build 63 #[(0,.tmp 14),(1,.tmp 15),(2,.tmp 16)]) 63 [14,15,16],wS 63 2 17 [17],wN 3 0 45],.ret]
def DL (k:Nat) (oB:Int):Option (Ac×Int):=
 (CI k oB 0 5).bind fun x1=>
 bif (!x1) then
  some ((⟨0,(⟨[],[]⟩:Ad),(⟨(⟨[]⟩:Ak),0,0,0⟩:Ai),(Aa.rep 6 ((Aa.rep 6 (0:Int)):(Aa 6 Int)))⟩:Ac),1)
 else
  (Fb k).bind fun x3=>
  some ((⟨oB,x3.1,x3.2,(Aa.rep 6 ((Aa.rep 6 (0:Int)):(Aa 6 Int)))⟩:Ac),0)
theorem Ic (k:Nat) (oB:Int) (r:Ac×Int) (h0:DL k oB=some r):Ay Tryz.prog 18 [.int .i64 oB] (fun y=>y=.aw [.agg (Ac.c r.1),.int .i64 r.2]):=by
 refine PB Tryz.f18 Hl.c [.cell 2 63,.tmp 3] ?_
 simp only[DL]at h0
 try simp only[Hl.c,go_sem]
 refine aj h0 (C0 k _ _ _) ?_ (fun x1 h0=>?_)<;>try simp only[go_sem]
 refine BS h0 ?_ ?_<;>intro c2 h0<;>have F:=c2<;>try simp only[F,go_sem]
 obtain rfl:=oi h0
 refine Ag rfl ?_
 try simp only[F,go_sem]
 refine aj h0 (Jf k) ?_ (fun x3 h0=>?_)<;>try simp only[F,go_sem]
 obtain rfl:=oi h0
 refine Ag rfl ?_
 try simp only[F,go_sem]
def Hj.c:SC:=
 SQ [RG [wN 4 0 3 [4]],RG [wV 5 0 3 [0],wV 6 1 3,wO 7 .rem 3 5 6 3 3 [5,6],wV 8 1 3,wO 9 .add 3 7 8 3 3 [7,8],wV 10 1 3 [1],wO 11 .rem 3 9 10 3 3 [9,10],wG 4 11 3 [11]],.ret]
def Cc (k:Nat) (n0:Int) (m1:Int):Option (Int):=
 (pO m1).bind fun _=>
 some (Int.tmod (ab ((Int.tmod n0 m1)+m1)) m1)
theorem Cv (k:Nat) (n0:Int) (m1:Int) (r:Int) (h0:Cc k n0 m1=some r):Ay Tryz.prog 16 [.int .i64 n0,.int .i64 m1] (fun y=>y=.int .i64 r):=by
 refine PB Tryz.f16 Hj.c [.tmp 4] ?_
 simp only[Cc]at h0
 try simp only[Hj.c,go_sem]
 obtain⟨u1,iY,h0⟩:=bs h0
 have F:=aeZ iY
 try simp only[F,go_sem]
 obtain rfl:=oi h0
 refine Ag rfl ?_
 try simp only[F,go_sem]
def ET.s0:SC:=
 SQ [SQ [RG [wV 12 6 3,wV 13 0 38,wL 14 13 38 3 [13],wO 15 .lss 3 12 14 3 4 [12,14],wV 16 15 4 [15],gd 16 true (wV 17 5 4),wZ 18 16 17 4 [16,17]],CN 18 .skip (.exit 0)],.block 1 (.aS [wV 21 0 38,wV 22 6 3,wI 23 38 21 22,wD 24 29 23,wV 25 1 38,wV 26 6 3,wI 27 38 25 26,wD 28 29 27,wO 29 .eql 29 24 28 29 4,wG 5 29 4] [[],[],[0,1],[0,1,2],[],[],[4,5],[4,5,6],[0,1,2,3,4,5,6,7],[0,1,2,3,4,5,6,7,
 8]] [21,22,23,24,25,26,27,28,29]),RG [wV 19 6 3 [6],wK 20 .add 3 19 1 3 3 [19],wG 6 20 3 [20]]]
def ET.c:SC:=
 SQ [RG [wB 4 false 4 [4]],RG [wV 7 0 38,wL 8 7 38 3 [7],wV 9 1 38,wL 10 9 38 3 [9],wO 11 .eql 3 8 10 3 4 [8,10],wG 5 11 4 [11]],SQ [RG [wN 6 0 3],.block 0 (.loop ET.s0)],RG [wV 30 5 4 [5],wG 4 30 4 [30]],.ret]
def BY.b0 (k:Nat) (a0:(List Ab)) (b1:(List Ab)):(Bool×Int)->Option (AN (Bool×Int) (Bool) (Bool)):=fun s=>match s with
 |(b2,i3)=>
   bif decide (i3<(a0.length:Int)) then
    bif b2 then
     (at? a0 i3).bind fun x7=>
     (at? b1 i3).bind fun x8=>
     some (.next ((decide (x7.At.Ac=x8.At.Ac)&&(decide (x7.At.No=x8.At.No)&&(decide (x7.Kind=x8.Kind)&&(decide (x7.Day=x8.Day)&&(decide (x7.Ap=x8.Ap)&&(decide (x7.Of.Ac=x8.Of.Ac)&&(decide (x7.Of.No=x8.Of.No)&&(x7.Text.toList==x8.Text.toList)))))))),ab (i3+1)))
    else
     some (.brk b2)
   else
    some (.brk b2)
def BY.h0 (a0:(List Ab)) (b1:(List Ab)):(Bool×Int)->St:=fun s=>match s with
 |(b2,i3)=>⟨[(0,.sl 8 (List.map Ab.c a0)),(1,.sl 8 (List.map Ab.c b1)),(5,.bool b2),(6,.int .i64 i3)],[],[],1,Tryz.f66.ntmps⟩
def BY.x0:Bool->St:=fun b4=>⟨[(5,.bool b4)],[],[],1,Tryz.f66.ntmps⟩
def BY (k:Nat) (a0:(List Ab)) (b1:(List Ab)):Option (Bool):=
 (ai (BY.b0 k a0 b1) k (decide ((a0.length:Int)=(b1.length:Int)),0)).bind fun r9=>match r9 with
 |.next _=>none
 |.ret v_=>some v_
 |.brk b4=>
  some b4
theorem F1 (k:Nat) (a0:(List Ab)) (b1:(List Ab)) (r:Bool) (h0:BY k a0 b1=some r):Ay Tryz.prog 66 [.sl 8 (List.map Ab.c a0),.sl 8 (List.map Ab.c b1)] (fun y=>y=.bool r):=by
 refine PB Tryz.f66 ET.c [.tmp 4] ?_
 simp only[BY]at h0
 try simp only[ET.c,go_sem]
 obtain⟨r9,vJ,h0⟩:=bs h0
 refine A5 vJ (BY.h0 a0 b1) (BY.x0) ?_ ?_ ?_
 refine Al.go [0,1,5,6] [] rfl ?_
 try simp only[BY.h0,go_sem]
 rintro⟨b2,i3⟩ bO Bd Ba h1 az ax bg
 refine rS ?_
 simp only[BY.b0]at h1
 try simp only[ET.s0,BY.h0,go_sem]
 refine AP h1 ?_ ?_<;>intro c5 h1<;>have F:=c5<;>try simp only[F,go_sem]
 refine AF F h1 ?_ ?_<;>intro F h1<;>try simp only[F,go_sem]
 refine AL AE aO 1000 ?_
 try simp only[F,go_sem]
 obtain⟨x7,dq,h1⟩:=bs h1
 have F:=an (aI dq) (an (aH Ab.c dq) F)
 try simp only[F,go_sem]
 obtain⟨x8,kv,h1⟩:=bs h1
 have F:=an (aI kv) (an (aH Ab.c kv) F)
 try simp only[F,go_sem]
 refine aG ?_
 try simp only[F,go_sem]
 refine Ax (az _ _ (oi h1).symm (Al.go [0,1,5,6] [] rfl ?_))
 try simp only[BY.h0,F,go_sem]
 refine Ax (ax _ _ (oi h1).symm (Al.go [5] [] rfl ?_))
 try simp only[BY.x0,F,go_sem]
 refine Ax (ax _ _ (oi h1).symm (Al.go [5] [] rfl ?_))
 try simp only[BY.x0,F,go_sem]
 rintro b4 aA
 subst aA
 simp only at h0
 refine rS ?_
 try simp only[BY.x0,go_sem]
 obtain rfl:=oi h0
 refine Ag rfl ?_
 try simp only[go_sem]
def EY.s0:SC:=
 SQ [SQ [RG [wV 14 3 3,wF 15 36 1 1,wD 16 34 15 [15],wL 17 16 34 3 [16],wO 18 .lss 3 14 17 3 4 [14,17]],CN 18 .skip (.exit 0)],.block 1 (SQ [RG [wF 21 36 1 1,wD 22 34 21 [21],wV 23 3 3,wI 24 34 22 23 [22,23],wF 25 116 24 0 [24],wD 26 3 25 [25],wC 27 54 #[.tmp 26,.const (.int .i64 0),.const (.int .i64 601)] #[3,3,3] 4 [26],wQ 28 27 4 [27]],CN 28 (SQ [RG [wB 2 false 4],.ret]) .skip]),
 RG [wV 19 3 3 [3],wK 20 .add 3 19 1 3 3 [19],wG 3 20 3 [20]]]
def EY.c:SC:=
 SQ [RG [wE 1 36 0 [0],wB 2 false 4 [2]],SQ [RG [wF 4 36 1 0,wD 5 33 4 [4],wL 6 5 33 3 [5],wK 7 .neq 3 6 602 3 4 [6],wV 8 7 4 [7],gd 8 false (wF 9 36 1 1),gd 8 false (wD 10 34 9 [9]),gd 8 false (wL 11 10 34 3 [10]),gd 8 false (wK 12 .gtr 3 11 1200 3 4 [11]),wT 13 8 12 4 [8,12]],CN 13 (SQ [RG [wB 2 false 4],.ret]) .skip],SQ [RG [wN 3 0 3],.block 0 (.loop EY.s0)],RG [wB 2 true 4],.ret]
def Cg.b0 (k:Nat) (d0:Ad):Int->Option (AN (Int) (Unit) (Bool)):=fun i3=>
 bif decide (i3<(d0.Af.length:Int)) then
  (at? d0.Af i3).bind fun x5=>
  (CI k x5.At 0 601).bind fun x6=>
  bif (!x6) then
   some (.ret false)
  else
   some (.next (ab (i3+1)))
 else
  some (.brk ())
def Cg.h0 (d0:Ad):Int->St:=fun i3=>⟨[(1,.ptr 0 0 0),(3,.int .i64 i3)],[(0,.box ([.sl 64 (List.map (Aa.c (n:=2) (Aa.c (n:=32) ae)) d0.Aj),.sl 65 (List.map As.c d0.Af)]))],[],1,Tryz.f80.ntmps⟩
def Cg.x0:Unit->St:=fun _=>⟨[],[],[],1,Tryz.f80.ntmps⟩
def Cg (k:Nat) (d0:Ad):Option (Bool):=
 bif decide ((d0.Aj.length:Int)=(602:Int)) then
  bif decide ((1200:Int)<(d0.Af.length:Int)) then
   some false
  else
   (ai (Cg.b0 k d0) k 0).bind fun r8=>match r8 with
   |.next _=>none
   |.ret v_=>some v_
   |.brk _=>
    some true
 else
  some false
theorem FE (k:Nat) (d0:Ad) (r:Bool) (h0:Cg k d0=some r):Ay Tryz.prog 80 [.agg (Ad.c d0)] (fun y=>y=.bool r):=by
 refine PB Tryz.f80 EY.c [.tmp 2] ?_
 simp only[Cg]at h0
 try simp only[EY.c,go_sem]
 refine AP h0 ?_ ?_<;>intro c1 h0<;>have F:=c1<;>try simp only[F,go_sem]
 refine AF F h0 ?_ ?_<;>intro F h0<;>try simp only[F,go_sem]
 obtain rfl:=oi h0
 refine Ag rfl ?_
 try simp only[F,go_sem]
 obtain⟨r8,oP,h0⟩:=bs h0
 refine A5 oP (Cg.h0 d0) (Cg.x0) ?_ ?_ ?_
 refine Al.go [1,3] [0] rfl ?_
 try simp only[Cg.h0,F,go_sem]
 rintro i3 bO Bd Ba h1 az ax bg
 refine rS ?_
 simp only[Cg.b0]at h1
 try simp only[EY.s0,Cg.h0,F,go_sem]
 refine AF F h1 ?_ ?_<;>intro F h1<;>try simp only[F,go_sem]
 obtain⟨x5,cn,h1⟩:=bs h1
 have F:=an (aI cn) (an (aH As.c cn) F)
 try simp only[F,go_sem]
 refine aj h1 (C0 k _ _ _) ?_ (fun x6 h1=>?_)<;>try simp only[F,go_sem]
 refine A7 F h1 ?_ ?_<;>intro F h1<;>try simp only[F,go_sem]
 obtain rfl:=bg _ (oi h1).symm
 simp only at h0
 obtain rfl:=oi h0
 refine Ag rfl ?_
 try simp only[F,go_sem]
 refine Ax (az _ _ (oi h1).symm (Al.go [1,3] [0] rfl ?_))
 try simp only[Cg.h0,F,go_sem]
 refine Ax (ax _ _ (oi h1).symm (Al.go [] [] rfl ?_))
 try simp only[Cg.x0,F,go_sem]
 rintro _ aA
 subst aA
 simp only at h0
 refine rS ?_
 try simp only[Cg.x0,F,go_sem]
 obtain rfl:=oi h0
 refine Ag rfl ?_
 try simp only[F,go_sem]
 obtain rfl:=oi h0
 refine Ag rfl ?_
 try simp only[F,go_sem]
def Db.s0:SC:=
 SQ [SQ [RG [wV 9 4 3,wF 10 36 1 1,wD 11 34 10 [10],wL 12 11 34 3 [11],wO 13 .lss 3 9 12 3 4 [9,12]],CN 13 .skip (.exit 0)],.block 1 (.aS [wV 16 3 33,wF 17 36 1 1,wD 18 34 17,wV 19 4 3,wI 20 34 18 19,wF 21 116 20 0,wD 22 3 21,wF 23 36 1 1,wD 24 34 23,wV 25 4 3,wI 26 34 24 25,wF 27 116 26 1,wD 28 113 27,wI 29 33 16 22,wS 113 29 28] [[],[],[1],[],[1,2,3],[1,2,3,4],[1,2,3,4,5],[],[7],[],[7,8,9],[7,
 8,9,10],[7,8,9,10,11],[0,1,2,3,4,5,6,7,8,9,10,11,12],[0,1,2,3,4,5,6,7,8,9,10,11,12,13]] [16,17,18,19,20,21,22,23,24,25,26,27,28,29]),RG [wV 14 4 3 [4],wK 15 .add 3 14 1 3 3 [14],wG 4 15 3 [15]]]
def Db.c:SC:=
 SQ [RG [wE 1 36 0 [0],oQ 2 (.assign (.const (.slice none 0 0))) 33 [2]],RG [oQ 5 (.buildSlice 33 0 #[]) 33,wF 6 36 1 0,wD 7 33 6 [6],wP 8 5 7 33 33 33 [5,7],wG 3 8 33 [8]],SQ [RG [wN 4 0 3],.block 0 (.loop Db.s0)],RG [wV 30 3 33 [3],wG 2 30 33 [30]],.ret]
theorem Db.rs:Tryz.f81.results.toList=[.tmp 2]:=rfl
def Cs.b0 (k:Nat) (d0:Ad):(Int×(List (Aa 2 (Aa 32 Int))))->Option (AN (Int×(List (Aa 2 (Aa 32 Int)))) ((List (Aa 2 (Aa 32 Int)))) ((List (Aa 2 (Aa 32 Int))))):=fun s=>match s with
 |(i2,l3)=>
   bif decide (i2<(d0.Af.length:Int)) then
    (at? d0.Af i2).bind fun x6=>
    (at? l3 x6.At).bind fun x7=>
    (dN l3 x6.At x6.AQ).bind fun l8=>
    some (.next (ab (i2+1),l8))
   else
    some (.brk l3)
def Cs.h0 (d0:Ad):(Int×(List (Aa 2 (Aa 32 Int))))->St:=fun s=>match s with
 |(i2,l3)=>⟨[(1,.ptr 0 0 0),(3,.loc 0 1 64 0 l3.length l3.length),(4,.int .i64 i2)],[(0,.box ([.sl 64 (List.map (Aa.c (n:=2) (Aa.c (n:=32) ae)) d0.Aj),.sl 65 (List.map As.c d0.Af)])),(1,.arr 113 64 (List.map (Aa.c (n:=2) (Aa.c (n:=32) ae)) l3))],[],2,Tryz.f81.ntmps⟩
def Cs.x0:(List (Aa 2 (Aa 32 Int)))->St:=fun l4=>⟨[(3,.loc 0 0 64 0 l4.length l4.length)],[(0,.arr 113 64 (List.map (Aa.c (n:=2) (Aa.c (n:=32) ae)) l4))],[],1,Tryz.f81.ntmps⟩
def Cs (k:Nat) (d0:Ad):Option ((List (Aa 2 (Aa 32 Int)))):=
 (dI d0.Aj.length 64).bind fun _=>
 (ai (Cs.b0 k d0) k (0,d0.Aj)).bind fun r9=>match r9 with
 |.next _=>none
 |.ret v_=>some v_
 |.brk l4=>
  some l4
theorem F3 (k:Nat) (d0:Ad) (r:(List (Aa 2 (Aa 32 Int)))) (h0:Cs k d0=some r):Ay Tryz.prog 81 [.agg (Ad.c d0)] (fun y=>y=.sl 64 (List.map (Aa.c (n:=2) (Aa.c (n:=32) ae)) r)):=by
 refine PB Tryz.f81 Db.c [.tmp 2] ?_
 simp only[Cs]at h0
 try simp only[Db.c,go_sem]
 obtain⟨u1,iY,h0⟩:=bs h0
 try simp only[jv iY,go_sem]
 obtain⟨r9,vJ,h0⟩:=bs h0
 refine A5 vJ (Cs.h0 d0) (Cs.x0) ?_ ?_ ?_
 refine Al.go [1,3,4] [0,32] rfl ?_
 try simp only[Cs.h0,go_sem]
 rintro⟨i2,l3⟩ bO Bd Ba h1 az ax bg
 refine rS ?_
 simp only[Cs.b0]at h1
 try simp only[Db.s0,Cs.h0,go_sem]
 refine AP h1 ?_ ?_<;>intro c5 h1<;>have F:=c5<;>try simp only[F,go_sem]
 refine AL AE aO 1000 ?_
 try simp only[F,go_sem]
 obtain⟨x6,dB,h1⟩:=bs h1
 have F:=an (aI dB) (an (aH As.c dB) F)
 try simp only[F,go_sem]
 obtain⟨x7,dq,h1⟩:=bs h1
 have F:=an (aI dq) (an (aH (Aa.c (n:=2) (Aa.c (n:=32) ae)) dq) F)
 try simp only[F,go_sem]
 obtain⟨l8,nP,h1⟩:=bs h1
 have sA:=lV (Aa.c (n:=2) (Aa.c (n:=32) ae)) nP
 try simp only[go_sem]at sA
 have F:=an sA (an (kW nP) (an (lW (Aa.c (n:=2) (Aa.c (n:=32) ae)) nP) F))
 try simp only[F,go_sem]
 refine aG ?_
 try simp only[F,go_sem]
 refine Ax (az _ _ (oi h1).symm (Al.go [1,3,4] [0,1] rfl ?_))
 try simp only[Cs.h0,F,go_sem]
 refine Ax (ax _ _ (oi h1).symm (Al.go [3] [1] rfl ?_))
 try simp only[Cs.x0,F,go_sem]
 rintro l4 aA
 subst aA
 simp only at h0
 refine rS ?_
 try simp only[Cs.x0,go_sem]
 obtain rfl:=oi h0
 refine Ag rfl ?_
 try simp only[go_sem]
def CB.b0 (k:Nat) (d0:Ad):(Int×(List (Aa 2 (Aa 32 Int))))->Option (AN (Int×(List (Aa 2 (Aa 32 Int)))) ((List (Aa 2 (Aa 32 Int)))) ((List (Aa 2 (Aa 32 Int))))):=fun s=>match s with
 |(i2,l3)=>
   bif decide (i2<(d0.Af.length:Int)) then
    (at? d0.Af i2).bind fun x6=>
    (at? l3 x6.At).bind fun x7=>
    (dN l3 x6.At x6.AQ).bind fun l8=>
    some (.next (ab (i2+1),l8))
   else
    some (.brk l3)
def CB.h0 (H:Heap) (d0:Ad):(Int×(List (Aa 2 (Aa 32 Int))))->St:=fun s=>match s with
 |(i2,l3)=>⟨[(1,.ptr 0 0 0),(3,.loc 0 1 64 0 l3.length l3.length),(4,.int .i64 i2)],[(0,.box ([.sl 64 (List.map (Aa.c (n:=2) (Aa.c (n:=32) ae)) d0.Aj),.sl 65 (List.map As.c d0.Af)])),(1,.arr 113 64 (List.map (Aa.c (n:=2) (Aa.c (n:=32) ae)) l3))],H,2,Tryz.f81.ntmps⟩
def CB.x0 (H:Heap):(List (Aa 2 (Aa 32 Int)))->St:=fun l4=>⟨[(3,.loc 0 0 64 0 l4.length l4.length)],[(0,.arr 113 64 (List.map (Aa.c (n:=2) (Aa.c (n:=32) ae)) l4))],H,1,Tryz.f81.ntmps⟩
def CB (k:Nat) (d0:Ad):Option ((List (Aa 2 (Aa 32 Int)))):=
 (dI d0.Aj.length 64).bind fun _=>
 (ai (CB.b0 k d0) k (0,d0.Aj)).bind fun r9=>match r9 with
 |.next _=>none
 |.ret v_=>some v_
 |.brk l4=>
  some l4
theorem Js (k:Nat) (d0:Ad) (r:(List (Aa 2 (Aa 32 Int)))) (h0:CB k d0=some r):Bg Tryz.prog 81 [.agg (Ad.c d0)] [] (fun y fr=>y=.loc 0 0 64 0 r.length r.length/\fr=[(0,.arr 113 64 (List.map (Aa.c (n:=2) (Aa.c (n:=32) ae)) r))]):=by
 have hr:=Bg.own (et:=113) (sz:=64) (ls:=List.map (Aa.c (n:=2) (Aa.c (n:=32) ae)) r) (Bg.gD AE (f:=81) (fn:=Tryz.f81) (sc:=Db.c) (args:=[.agg (Ad.c d0)]) (fr0:=[]) (by rfl) (by rfl) (by decide +kernel) (by rfl) (by decide +kernel) (Nat.le_of_ble_eq_true rfl) (fun H=>?_))
 simpa only [Bu] using hr
 refine rS ?_
 simp only[CB]at h0
 try simp only[Db.c,go_sem]
 obtain⟨u1,iY,h0⟩:=bs h0
 try simp only[jv iY,go_sem]
 obtain⟨r9,vJ,h0⟩:=bs h0
 refine A5 vJ (CB.h0 H d0) (CB.x0 H) ?_ ?_ ?_
 refine Al.go [1,3,4] [16,48] rfl ?_
 try simp only[CB.h0,go_sem]
 rintro⟨i2,l3⟩ bO Bd Ba h1 az ax bg
 refine rS ?_
 simp only[CB.b0]at h1
 try simp only[Db.s0,CB.h0,go_sem]
 refine AP h1 ?_ ?_<;>intro c5 h1<;>have F:=c5<;>try simp only[F,go_sem]
 refine AL AE aO 1000 ?_
 try simp only[F,go_sem]
 obtain⟨x6,dB,h1⟩:=bs h1
 have F:=an (aI dB) (an (aH As.c dB) F)
 try simp only[F,go_sem]
 obtain⟨x7,dq,h1⟩:=bs h1
 have F:=an (aI dq) (an (aH (Aa.c (n:=2) (Aa.c (n:=32) ae)) dq) F)
 try simp only[F,go_sem]
 obtain⟨l8,nP,h1⟩:=bs h1
 have sA:=lV (Aa.c (n:=2) (Aa.c (n:=32) ae)) nP
 try simp only[go_sem]at sA
 have F:=an sA (an (kW nP) (an (lW (Aa.c (n:=2) (Aa.c (n:=32) ae)) nP) F))
 try simp only[F,go_sem]
 refine aG ?_
 try simp only[F,go_sem]
 refine Ax (az _ _ (oi h1).symm (Al.go [1,3,4] [0,1] rfl ?_))
 try simp only[CB.h0,F,go_sem]
 refine Ax (ax _ _ (oi h1).symm (Al.go [3] [1] rfl ?_))
 try simp only[CB.x0,F,go_sem]
 rintro l4 aA
 subst aA
 simp only at h0
 refine rS ?_
 try simp only[CB.x0,go_sem]
 obtain rfl:=oi h0
 refine C6 rfl ?_
 try simp only[Db.rs,nE,Be,cm,um,we,AY,BA,go_sem]
def D5.c:SC:=
 SQ [RG [oQ 2 (.assign (.const (.slice none 0 0))) 38 [2]],RG [oQ 3 (.buildSlice 38 0 #[]) 38,wV 4 0 38 [0],wP 5 3 4 38 38 38 [3,4],wG 2 5 38 [5]],.ret]
theorem D5.rs:Tryz.f46.results.toList=[.tmp 2]:=rfl
def D1 (k:Nat) (l0:(List Ab)):Option ((List Ab)):=
 (dI l0.length 72).bind fun _=>
 some l0
theorem Jo (k:Nat) (l0:(List Ab)) (r:(List Ab)) (h0:D1 k l0=some r):Ay Tryz.prog 46 [.sl 8 (List.map Ab.c l0)] (fun y=>y=.sl 8 (List.map Ab.c r)):=by
 refine PB Tryz.f46 D5.c [.tmp 2] ?_
 simp only[D1]at h0
 try simp only[D5.c,go_sem]
 obtain⟨u1,iY,h0⟩:=bs h0
 try simp only[jv iY,go_sem]
 obtain rfl:=oi h0
 refine Ag rfl ?_
 try simp only[go_sem]
def Ek (k:Nat) (l0:(List Ab)):Option ((List Ab)):=
 (dI l0.length 72).bind fun _=>
 some l0
theorem Il (k:Nat) (l0:(List Ab)) (r:(List Ab)) (h0:Ek k l0=some r):Bg Tryz.prog 46 [.sl 8 (List.map Ab.c l0)] [] (fun y fr=>y=.loc 0 0 8 0 r.length r.length/\fr=[(0,.arr 29 8 (List.map Ab.c r))]):=by
 have hr:=Bg.own (et:=29) (sz:=8) (ls:=List.map Ab.c r) (Bg.gD AE (f:=46) (fn:=Tryz.f46) (sc:=D5.c) (args:=[.sl 8 (List.map Ab.c l0)]) (fr0:=[]) (by rfl) (by rfl) (by decide +kernel) (by rfl) (by decide +kernel) (Nat.le_of_ble_eq_true rfl) (fun H=>?_))
 simpa only [Bu] using hr
 refine rS ?_
 simp only[Ek]at h0
 try simp only[D5.c,go_sem]
 obtain⟨u1,iY,h0⟩:=bs h0
 try simp only[jv iY,go_sem]
 obtain rfl:=oi h0
 refine C6 rfl ?_
 try simp only[D5.rs,nE,Be,cm,um,we,AY,BA,go_sem]
def EO.s0:SC:=
 SQ [SQ [RG [wV 5 4 3,wV 6 0 38,wL 7 6 38 3 [6],wO 8 .lss 3 5 7 3 4 [5,7]],CN 8 .skip (.exit 0)],.block 1 (RG [wV 11 0 38,wV 12 4 3,wI 13 38 11 12 [11,12],wF 14 29 13 0 [13],wF 15 27 14 0 [14],wD 16 3 15 [15],wI 17 55 3 16,wD 18 3 17 [17],wK 19 .add 3 18 1 3 3 [18],wI 20 55 3 16 [16],wS 3 20 19 [19,20]]),RG [wV 9 4 3 [4],wK 10 .add 3 9 1 3 3 [9],wG 4 10 3 [10]]]
def EO.c:SC:=
 SQ [RG [wA 2 55],RG [wA 3 55],SQ [RG [wN 4 0 3],.block 0 (.loop EO.s0)],RG [wD 21 55 3 [3],wS 55 2 21 [21]],.ret]
def B8.b0 (k:Nat) (l0:(List Ab)):((Aa 6 Int)×Int)->Option (AN ((Aa 6 Int)×Int) ((Aa 6 Int)) ((Aa 6 Int))):=fun s=>match s with
 |(s1,i2)=>
   bif decide (i2<(l0.length:Int)) then
    (at? l0 i2).bind fun x5=>
    (s1.at? x5.At.Ac).bind fun x6=>
    some (.next (s1.set x5.At.Ac (ab (x6+1)),ab (i2+1)))
   else
    some (.brk s1)
def B8.h0 (l0:(List Ab)):((Aa 6 Int)×Int)->St:=fun s=>match s with
 |(s1,i2)=>⟨[(0,.sl 8 (List.map Ab.c l0)),(2,.ptr 0 0 0),(3,.ptr 0 1 0),(4,.int .i64 i2)],[(0,.box (Aa.c (n:=6) eI (Aa.rep 6 (0:Int)))),(1,.box (Aa.c (n:=6) eI s1))],[],2,Tryz.f58.ntmps⟩
def B8.x0:(Aa 6 Int)->St:=fun s3=>⟨[(2,.ptr 0 0 0),(3,.ptr 0 1 0)],[(0,.box (Aa.c (n:=6) eI (Aa.rep 6 (0:Int)))),(1,.box (Aa.c (n:=6) eI s3))],[],2,Tryz.f58.ntmps⟩
def B8 (k:Nat) (l0:(List Ab)):Option ((Aa 6 Int)):=
 (ai (B8.b0 k l0) k ((Aa.rep 6 (0:Int)),0)).bind fun r8=>match r8 with
 |.next _=>none
 |.ret v_=>some v_
 |.brk s3=>
  some s3
theorem El (k:Nat) (l0:(List Ab)) (r:(Aa 6 Int)) (h0:B8 k l0=some r):Ay Tryz.prog 58 [.sl 8 (List.map Ab.c l0)] (fun y=>y=.agg ((Aa.c (n:=6) eI) r)):=by
 refine PB Tryz.f58 EO.c [.cell 2 55] ?_
 simp only[B8]at h0
 try simp only[EO.c,go_sem]
 obtain⟨r8,oP,h0⟩:=bs h0
 refine A5 oP (B8.h0 l0) (B8.x0) ?_ ?_ ?_
 refine Al.go [0,2,3,4] [0,16] rfl ?_
 try simp only[B8.h0,go_sem]
 rintro⟨s1,i2⟩ bO Bd Ba h1 az ax bg
 refine rS ?_
 simp only[B8.b0]at h1
 try simp only[EO.s0,B8.h0,go_sem]
 refine AP h1 ?_ ?_<;>intro c4 h1<;>have F:=c4<;>try simp only[F,go_sem]
 obtain⟨x5,cn,h1⟩:=bs h1
 have F:=an (aI cn) (an (aH Ab.c cn) F)
 try simp only[F,go_sem]
 obtain⟨x6,dB,h1⟩:=bs h1
 have nN:=Ao.bh fg (Ao.self abf s1) dB
 have mg:=nN.2
 try simp only[AA,AB,go_sem]at mg
 have q7:=nN.1.ow (ab (x6+1))
 try simp only[AA,AB,go_sem]at q7
 have F:=an (aq dB) (an mg F)
 try simp only[q7,F,go_sem]
 refine Ax (az _ _ (oi h1).symm (Al.go [0,2,3,4] [0,1] rfl ?_))
 try simp only[B8.h0,F,go_sem]
 refine Ax (ax _ _ (oi h1).symm (Al.go [2,3] [0,1] rfl ?_))
 try simp only[B8.x0,F,go_sem]
 rintro s3 aA
 subst aA
 simp only at h0
 refine rS ?_
 try simp only[B8.x0,go_sem]
 obtain rfl:=oi h0
 refine Ag rfl ?_
 try simp only[go_sem]
def Ey.s0:SC:=
 SQ [SQ [RG [wV 6 5 3,wV 7 0 38,wL 8 7 38 3 [7],wO 9 .lss 3 6 8 3 4 [6,8]],CN 9 .skip (.exit 0)],.block 1 (SQ [.aS [wV 12 0 38,wV 13 5 3,wI 14 38 12 13,wF 15 29 14 0,wD 16 27 15,wD 17 27 3,wO 18 .eql 27 16 17 27 4] [[],[],[0,1],[0,1,2],[0,1,2,3],[],[0,1,2,3,4,5]] [12,13,14,15,16,17],CN 18 (SQ [RG [wV 19 5 3 [5],wG 4 19 3 [19]],.ret]) .skip]),RG [wV 10 5 3 [5],wK 11 .add 3 10 1 3 3 [10],
 wG 5 11 3 [11]]]
def Ey.c:SC:=
 SQ [RG [wE 3 27 1 [1],wN 4 0 3 [4]],SQ [RG [wN 5 0 3],.block 0 (.loop Ey.s0)],RG [wN 4 (-1) 3],.ret]
def BZ.b0 (k:Nat) (l0:(List Ab)) (jQ:Entry):Int->Option (AN (Int) (Unit) (Int)):=fun i1=>
 bif decide (i1<(l0.length:Int)) then
  (at? l0 i1).bind fun x3=>
  bif (decide (x3.At.Ac=jQ.Ac)&&decide (x3.At.No=jQ.No)) then
   some (.ret i1)
  else
   some (.next (ab (i1+1)))
 else
  some (.brk ())
def BZ.h0 (l0:(List Ab)) (jQ:Entry):Int->St:=fun i1=>⟨[(0,.sl 8 (List.map Ab.c l0)),(3,.ptr 0 0 0),(5,.int .i64 i1)],[(0,.box ([.int .i64 jQ.Ac,.int .i64 jQ.No]))],[],1,Tryz.f109.ntmps⟩
def BZ.x0:Unit->St:=fun _=>⟨[],[],[],1,Tryz.f109.ntmps⟩
def BZ (k:Nat) (l0:(List Ab)) (jQ:Entry):Option (Int):=
 (ai (BZ.b0 k l0 jQ) k 0).bind fun r5=>match r5 with
 |.next _=>none
 |.ret v_=>some v_
 |.brk _=>
  some (-1)
theorem Im (k:Nat) (l0:(List Ab)) (jQ:Entry) (r:Int) (h0:BZ k l0 jQ=some r):Ay Tryz.prog 109 [.sl 8 (List.map Ab.c l0),.agg (Entry.c jQ)] (fun y=>y=.int .i64 r):=by
 refine PB Tryz.f109 Ey.c [.tmp 4] ?_
 simp only[BZ]at h0
 try simp only[Ey.c,go_sem]
 obtain⟨r5,yr5,h0⟩:=bs h0
 refine A5 yr5 (BZ.h0 l0 jQ) (BZ.x0) ?_ ?_ ?_
 refine Al.go [0,3,5] [0] rfl ?_
 try simp only[BZ.h0,go_sem]
 rintro i1 bO Bd Ba h1 az ax bg
 refine rS ?_
 simp only[BZ.b0]at h1
 try simp only[Ey.s0,BZ.h0,go_sem]
 refine AP h1 ?_ ?_<;>intro c2 h1<;>have F:=c2<;>try simp only[F,go_sem]
 refine AL AE aO 1000 ?_
 try simp only[F,go_sem]
 obtain⟨x3,cv,h1⟩:=bs h1
 have F:=an (aI cv) (an (aH Ab.c cv) F)
 try simp only[F,go_sem]
 refine aG ?_
 try simp only[F,go_sem]
 refine AF F h1 ?_ ?_<;>intro F h1<;>try simp only[F,go_sem]
 obtain rfl:=bg _ (oi h1).symm
 simp only at h0
 obtain rfl:=oi h0
 refine Ag rfl ?_
 try simp only[F,go_sem]
 refine Ax (az _ _ (oi h1).symm (Al.go [0,3,5] [0] rfl ?_))
 try simp only[BZ.h0,F,go_sem]
 refine Ax (ax _ _ (oi h1).symm (Al.go [] [] rfl ?_))
 try simp only[BZ.x0,F,go_sem]
 rintro _ aA
 subst aA
 simp only at h0
 refine rS ?_
 try simp only[BZ.x0,go_sem]
 obtain rfl:=oi h0
 refine Ag rfl ?_
 try simp only[go_sem]
def G9.c:SC:=
 SQ [RG [wE 2 27 0 [0],wE 3 27 1 [1],wB 4 false 4 [4]],RG [wF 5 27 2 0,wD 6 3 5 [5],wF 7 27 3 0,wD 8 3 7 [7],wO 9 .lss 3 6 8 3 4 [6,8],wV 10 9 4 [9],gd 10 false (wF 11 27 2 0),gd 10 false (wD 12 3 11 [11]),gd 10 false (wF 13 27 3 0),gd 10 false (wD 14 3 13 [13]),gd 10 false (wO 15 .eql 3 12 14 3 4 [12,14]),gd 10 false (wV 16 15 4 [15]),gd 16 true (wF 17 27 2 1 [2]),gd 16 true (wD 18 3 17 [17]),
 gd 16 true (wF 19 27 3 1 [3]),gd 16 true (wD 20 3 19 [19]),gd 16 true (wO 21 .lss 3 18 20 3 4 [18,20]),gd 10 false (wZ 22 16 21 4 [16,21]),wT 23 10 22 4 [10,22],wG 4 23 4 [23]],.ret]
def Fh (k:Nat) (a0:Entry) (b1:Entry):Option (Bool):=
 bif (!decide (a0.Ac<b1.Ac)) then
  bif decide (a0.Ac=b1.Ac) then
   some (decide (a0.No<b1.No))
  else
   some false
 else
  some true
theorem Jm (k:Nat) (a0:Entry) (b1:Entry) (r:Bool) (h0:Fh k a0 b1=some r):Ay Tryz.prog 110 [.agg (Entry.c a0),.agg (Entry.c b1)] (fun y=>y=.bool r):=by
 refine PB Tryz.f110 G9.c [.tmp 4] ?_
 simp only[Fh]at h0
 try simp only[G9.c,go_sem]
 refine BS h0 ?_ ?_<;>intro c1 h0<;>have F:=c1<;>try simp only[F,go_sem]
 refine AF F h0 ?_ ?_<;>intro F h0<;>try simp only[F,go_sem]
 obtain rfl:=oi h0
 refine Ag rfl ?_
 try simp only[F,go_sem]
 obtain rfl:=oi h0
 refine Ag rfl ?_
 try simp only[F,go_sem]
 obtain rfl:=oi h0
 refine Ag rfl ?_
 try simp only[F,go_sem]
def E5.s0:SC:=
 SQ [SQ [.aS [wV 39 7 3,wV 40 0 38,wL 41 40 38 3,wO 42 .lss 3 39 41 3 4,wV 43 42 4,gd 43 true (wV 44 0 38),gd 43 true (wV 45 7 3),gd 43 true (wI 46 38 44 45),gd 43 true (wF 47 29 46 0),gd 43 true (wD 48 27 47),gd 43 true (wF 49 29 3 0),gd 43 true (wD 50 27 49),gd 43 true (wW 51 110 48 50 27 27 4),wZ 52 43 51 4] [[],[],[1],[0,1,2],[0,1,2,3],[0,1,2,3,4],[0,1,2,3,4],[0,1,2,3,4,5,6],[0,1,2,3,4,5,6,
 7],[0,1,2,3,4,5,6,7,8],[0,1,2,3,4],[0,1,2,3,4,10],[0,1,2,3,4,5,6,7,8,9,10,11],[0,1,2,3,4,5,6,7,8,9,10,11,12]] [39,40,41,42,43,44,45,46,47,48,49,50,51],CN 52 .skip (.exit 0)],.block 1 (RG [wV 53 7 3 [7],wK 54 .add 3 53 1 3 3 [53],wG 7 54 3 [54]])]
def E5.c:SC:=
 SQ [RG [wE 3 29 1 [1],oQ 4 (.assign (.const (.slice none 0 0))) 38 [4],wN 5 0 45 [5]],RG [wV 8 0 38,wF 9 29 3 0,wD 10 27 9 [9],wW 11 109 8 10 38 27 3 [8,10],wG 6 11 3 [11]],SQ [.aS [wV 12 6 3,wK 13 .geq 3 12 0 3 4,wV 14 13 4,gd 14 true (wV 15 0 38),gd 14 true (wV 16 6 3),gd 14 true (wI 17 38 15 16),gd 14 true (wD 18 29 17),gd 14 true (wD 19 29 3),gd 14 true (wO 20 .eql 29 18 19 29 4),
 wZ 21 14 20 4] [[],[0],[0,1],[0,1,2],[0,1,2],[0,1,2,3,4],[0,1,2,3,4,5],[0,1,2],[0,1,2,3,4,5,6,7],[0,1,2,3,4,5,6,7,8]] [12,13,14,15,16,17,18,19,20],CN 21 (SQ [RG [wV 22 0 38 [0],wU 23 46 22 38 38 [22],wG 4 23 38 [23],wN 5 0 45],.ret]) .skip],SQ [RG [wV 24 6 3 [6],wK 25 .geq 3 24 0 3 4 [24]],CN 25 (SQ [RG [oQ 4 (.assign (.const (.slice none 0 0))) 38,wN 5 92 45],.ret]) .skip],
 SQ [.aS [wF 26 29 3 0,wF 27 27 26 1,wD 28 3 27,wV 29 0 38,wU 30 58 29 38 55,wF 31 29 3 0,wF 32 27 31 0,wD 33 3 32,oQ 34 (.index 55 (.tmp 30) (.tmp 33)) 3,wO 35 .gtr 3 28 34 3 4] [[],[0],[0,1],[],[3],[],[5],[5,6],[3,4,5,6,7],[0,1,2,3,4,5,6,7,8]] [26,27,28,29,30,31,32,33,34],CN 35 (SQ [RG [oQ 4 (.assign (.const (.slice none 0 0))) 38,wN 5 93 45],.ret]) .skip],SQ [RG [wV 36 0 38,wL 37 36 38 3 [36],
 wK 38 .eql 3 37 60 3 4 [37]],CN 38 (SQ [RG [oQ 4 (.assign (.const (.slice none 0 0))) 38,wN 5 2 45],.ret]) .skip],RG [wN 7 0 3],.block 0 (.loop E5.s0),.aS [wV 55 0 38,wV 56 7 3,oQ 57 (.slice 38 (.tmp 55) none (some (.tmp 56)) none) 38,wU 58 46 57 38 38,wD 59 29 3,oQ 60 (.buildSlice 38 1 #[(0,.tmp 59)]) 38,wP 61 58 60 38 38 38,wV 62 0 38,wV 63 7 3,
 oQ 64 (.slice 38 (.tmp 62) (some (.tmp 63)) none none) 38,wP 65 61 64 38 38 38,wG 4 65 38,wN 5 0 45] [[],[],[0,1],[0,1,2],[],[4],[0,1,2,3,4,5],[],[],[7,8],[0,1,2,3,4,5,6,7,8,9],[0,1,2,3,4,5,6,7,8,9,10],[0,1,2,3,4,5,6,7,8,9,10,11]] [0,3,7,55,56,57,58,59,60,61,62,63,64,65],.ret]
def Cb.b0 (k:Nat) (l0:(List Ab)) (r1:Ab):Int->Option (AN (Int) (Int) ((List Ab)×Int)):=fun i11=>
 bif decide (i11<(l0.length:Int)) then
  (at? l0 i11).bind fun bR=>
  (Fh k bR.At r1.At).bind fun cd=>
  bif cd then
   some (.next (ab (i11+1)))
  else
   some (.brk i11)
 else
  some (.brk i11)
def Cb.h0 (l0:(List Ab)) (r1:Ab):Int->St:=fun i11=>⟨[(0,.sl 8 (List.map Ab.c l0)),(3,.ptr 0 0 0),(7,.int .i64 i11)],[(0,.box ([.int .i64 r1.At.Ac,.int .i64 r1.At.No,.int .i64 r1.Kind,.int .i64 r1.Day,.int .i64 r1.Ap,.int .i64 r1.Of.Ac,.int .i64 r1.Of.No,.str r1.Text]))],[],1,Tryz.f91.ntmps⟩
def Cb.x0 (l0:(List Ab)) (r1:Ab):Int->St:=fun i12=>⟨[(0,.sl 8 (List.map Ab.c l0)),(3,.ptr 0 0 0),(7,.int .i64 i12)],[(0,.box ([.int .i64 r1.At.Ac,.int .i64 r1.At.No,.int .i64 r1.Kind,.int .i64 r1.Day,.int .i64 r1.Ap,.int .i64 r1.Of.Ac,.int .i64 r1.Of.No,.str r1.Text]))],[],1,Tryz.f91.ntmps⟩
def Cb (k:Nat) (l0:(List Ab)) (r1:Ab):Option ((List Ab)×Int):=
 (BZ k l0 r1.At).bind fun x1=>
 bif decide ((0:Int)<=x1) then
  (at? l0 x1).bind fun x3=>
  bif (decide (x3.At.Ac=r1.At.Ac)&&(decide (x3.At.No=r1.At.No)&&(decide (x3.Kind=r1.Kind)&&(decide (x3.Day=r1.Day)&&(decide (x3.Ap=r1.Ap)&&(decide (x3.Of.Ac=r1.Of.Ac)&&(decide (x3.Of.No=r1.Of.No)&&(x3.Text.toList==r1.Text.toList)))))))) then
   (Ek k l0).bind fun x6=>
   some (x6,0)
  else
   some ([],92)
 else
  (B8 k l0).bind fun x7=>
  (x7.at? r1.At.Ac).bind fun x8=>
  bif decide (x8<r1.At.No) then
   some ([],93)
  else
   bif decide ((l0.length:Int)=(60:Int)) then
    some ([],2)
   else
    (ai (Cb.b0 k l0 r1) k 0).bind fun oG=>match oG with
    |.next _=>none
    |.ret v_=>some v_
    |.brk i12=>
     (ck l0 0 i12).bind fun nC=>
     (Ek k nC).bind fun cT=>
     (eO 72 cT r1).bind fun l21=>
     (ck l0 i12 l0.length).bind fun l22=>
     (cY 72 l21 l22).bind fun tj=>
     some (tj,0)
theorem F2 (k:Nat) (l0:(List Ab)) (r1:Ab) (r:(List Ab)×Int) (h0:Cb k l0 r1=some r):Ay Tryz.prog 91 [.sl 8 (List.map Ab.c l0),.agg (Ab.c r1)] (fun y=>y=.aw [.sl 8 (List.map Ab.c r.1),.int .i64 r.2]):=by
 refine PB Tryz.f91 E5.c [.tmp 4,.tmp 5] ?_
 simp only[Cb]at h0
 try simp only[E5.c,go_sem]
 refine aj h0 (Im k _ _) ?_ (fun x1 h0=>?_)<;>try simp only[go_sem]
 refine AL AE aO 1000 ?_
 try simp only[go_sem]
 refine FI h0 ?_ ?_<;>intro c2 h0<;>have F:=c2<;>try simp only[F,go_sem]
 obtain⟨x3,cv,h0⟩:=bs h0
 have F:=an (aI cv) (an (aH Ab.c cv) F)
 try simp only[F,go_sem]
 refine aG ?_
 try simp only[F,go_sem]
 refine AF F h0 ?_ ?_<;>intro F h0<;>try simp only[F,go_sem]
 obtain⟨x6,dB,h0⟩:=bs h0
 refine CJ AE 1000 [] [] (Il k _ _ dB) ?_ rfl ?_
 try simp only[fB,Bu,F,go_sem]
 try simp only[F,go_sem]
 obtain rfl:=oi h0
 refine Ag rfl ?_
 try simp only[F,go_sem]
 obtain rfl:=oi h0
 refine Ag rfl ?_
 try simp only[F,go_sem]
 refine aG ?_
 try simp only[F,go_sem]
 refine AL AE aO 1000 ?_
 try simp only[F,go_sem]
 refine bJ h0 (El k _) ?_ (fun x7 h0=>?_)<;>try simp only[F,go_sem]
 obtain⟨x8,kv,h0⟩:=bs h0
 have ac1:=(Ao.oL fg kv).2
 try simp only[go_sem]at ac1
 have F:=an (aq kv) (an ac1 F)
 try simp only[F,go_sem]
 refine aG ?_
 try simp only[F,go_sem]
 refine AF F h0 ?_ ?_<;>intro F h0<;>try simp only[F,go_sem]
 obtain rfl:=oi h0
 refine Ag rfl ?_
 try simp only[F,go_sem]
 refine AF F h0 ?_ ?_<;>intro F h0<;>try simp only[F,go_sem]
 obtain rfl:=oi h0
 refine Ag rfl ?_
 try simp only[F,go_sem]
 obtain⟨oG,vG,h0⟩:=bs h0
 refine A5 vG (Cb.h0 l0 r1) (Cb.x0 l0 r1) ?_ ?_ ?_
 refine Al.go [0,3,7] [0] rfl ?_
 try simp only[Cb.h0,F,go_sem]
 rintro i11 bO Bd Ba h1 az ax bg
 refine rS ?_
 simp only[Cb.b0]at h1
 try simp only[E5.s0,Cb.h0,F,go_sem]
 refine AL AE aO 1000 ?_
 try simp only[F,go_sem]
 refine DF F h1 ?_ ?_<;>intro F h1<;>try simp only[F,go_sem]
 obtain⟨bR,ml,h1⟩:=bs h1
 have F:=an (aI ml) (an (aH Ab.c ml) F)
 try simp only[F,go_sem]
 refine bJ h1 (Jm k _ _) ?_ (fun cd h1=>?_)<;>try simp only[F,go_sem]
 refine aG ?_
 try simp only[F,go_sem]
 refine AF F h1 ?_ ?_<;>intro F h1<;>try simp only[F,go_sem]
 refine Ax (az _ _ (oi h1).symm (Al.go [0,3,7] [0] rfl ?_))
 try simp only[Cb.h0,F,go_sem]
 refine Ax (ax _ _ (oi h1).symm (Al.go [0,3,7] [0] rfl ?_))
 try simp only[Cb.x0,F,go_sem]
 refine aG ?_
 try simp only[F,go_sem]
 refine Ax (ax _ _ (oi h1).symm (Al.go [0,3,7] [0] rfl ?_))
 try simp only[Cb.x0,F,go_sem]
 rintro i12 aA
 subst aA
 simp only at h0
 refine rS ?_
 try simp only[Cb.x0,F,go_sem]
 refine AL AE aO 1000 ?_
 try simp only[F,go_sem]
 obtain⟨nC,rP,h0⟩:=bs h0
 have yW:=aaE Ab.c rP
 try simp only[go_sem]at yW
 have F:=an yW F
 try simp only[vu rP,F,go_sem]
 obtain⟨cT,bW,h0⟩:=bs h0
 refine D4 1000 [] [] (Il k _ _ bW) ?_ rfl ?_
 try simp only[fB,Bu,F,go_sem]
 try simp only[F,go_sem]
 obtain⟨l21,asn,h0⟩:=bs h0
 have akV:=pu Ab.c asn
 try simp only[F,go_sem]at akV
 have F:=an akV F
 try simp only[F,go_sem]
 obtain⟨l22,ac7,h0⟩:=bs h0
 have ahh:=xU Ab.c ac7
 try simp only[go_sem]at ahh
 have F:=an ahh F
 try simp only[tF ac7,F,go_sem]
 obtain⟨tj,vF,h0⟩:=bs h0
 have aa1:=fw Ab.c vF
 try simp only[F,go_sem]at aa1
 have F:=an aa1 F
 try simp only[F,go_sem]
 refine aG ?_
 try simp only[F,go_sem]
 obtain rfl:=oi h0
 refine Ag rfl ?_
 try simp only[F,go_sem]
def ED.s0:SC:=
 SQ [SQ [RG [wV 5 4 3,wV 6 0 82,wL 7 6 82 3 [6],wO 8 .lss 3 5 7 3 4 [5,7]],CN 8 .skip (.exit 0)],.block 1 (RG [wV 11 3 3 [3],oQ 12 (.binOp .shl 3 (.tmp 11) (.const (.int .u64 8)) 172) 3 [11],wV 13 0 82,wV 14 4 3,wI 15 82 13 14 [13,14],wD 16 5 15 [15],wY 17 5 3 16 3 [16],wO 18 .or 3 12 17 3 3 [12,17],wG 3 18 3 [18]]),RG [wV 9 4 3 [4],wK 10 .add 3 9 1 3 3 [9],wG 4 10 3 [10]]]
def ED.c:SC:=
 SQ [RG [wN 2 0 3 [2]],RG [wN 3 0 3],SQ [RG [wN 4 0 3],.block 0 (.loop ED.s0)],RG [wV 19 3 3 [3],wG 2 19 3 [19]],.ret]
def BN.b0 (k:Nat) (b0:(List Int)):(Int×Int)->Option (AN (Int×Int) (Int) (Int)):=fun s=>match s with
 |(i1,i2)=>
   bif decide (i2<(b0.length:Int)) then
    (at? b0 i2).bind fun x5=>
    some (.next (fT .i64 (ab (i1*2 ^ 8)) (ab x5),ab (i2+1)))
   else
    some (.brk i1)
def BN.h0 (b0:(List Int)):(Int×Int)->St:=fun s=>match s with
 |(i1,i2)=>⟨[(0,.sl 1 (List.map ae b0)),(3,.int .i64 i1),(4,.int .i64 i2)],[],[],1,Tryz.f121.ntmps⟩
def BN.x0:Int->St:=fun i3=>⟨[(3,.int .i64 i3)],[],[],1,Tryz.f121.ntmps⟩
def BN (k:Nat) (b0:(List Int)):Option (Int):=
 (ai (BN.b0 k b0) k (0,0)).bind fun r6=>match r6 with
 |.next _=>none
 |.ret v_=>some v_
 |.brk i3=>
  some i3
theorem Du (k:Nat) (b0:(List Int)) (r:Int) (h0:BN k b0=some r):Ay Tryz.prog 121 [.sl 1 (List.map ae b0)] (fun y=>y=.int .i64 r):=by
 refine PB Tryz.f121 ED.c [.tmp 2] ?_
 simp only[BN]at h0
 try simp only[ED.c,go_sem]
 obtain⟨r6,rR,h0⟩:=bs h0
 refine A5 rR (BN.h0 b0) (BN.x0) ?_ ?_ ?_
 refine Al.go [0,3,4] [] rfl ?_
 try simp only[BN.h0,go_sem]
 rintro⟨i1,i2⟩ bO Bd Ba h1 az ax bg
 refine rS ?_
 simp only[BN.b0]at h1
 try simp only[ED.s0,BN.h0,go_sem]
 refine AP h1 ?_ ?_<;>intro c4 h1<;>have F:=c4<;>try simp only[F,go_sem]
 try simp only[(@id (min (Int.toNat 8) 64=8) rfl),F,go_sem]
 obtain⟨x5,cn,h1⟩:=bs h1
 have F:=an (aI cn) (an (aH ae cn) F)
 try simp only[F,go_sem]
 refine Ax (az _ _ (oi h1).symm (Al.go [0,3,4] [] rfl ?_))
 try simp only[BN.h0,F,go_sem]
 refine Ax (ax _ _ (oi h1).symm (Al.go [3] [] rfl ?_))
 try simp only[BN.x0,F,go_sem]
 rintro i3 aA
 subst aA
 simp only at h0
 refine rS ?_
 try simp only[BN.x0,go_sem]
 obtain rfl:=oi h0
 refine Ag rfl ?_
 try simp only[go_sem]
def G5.c:SC:=
 SQ [RG [wE 1 92 0 [0],wN 2 0 3 [2]],RG [oQ 4 (.slice 92 (.tmp 1) (some (.const (.int .i64 1))) (some (.const (.int .i64 4))) none) 82,wU 5 121 4 82 3 [4],wG 3 5 3 [5]],SQ [RG [wJ 6 92 1 0,wD 7 5 6 [6],oQ 8 (.binOp .neq 5 (.tmp 7) (.const (.int .u8 104)) 5) 4 [7],wV 9 8 4 [8],gd 9 true (wJ 10 92 1 0),gd 9 true (wD 11 5 10 [10]),
 gd 9 true (oQ 12 (.binOp .neq 5 (.tmp 11) (.const (.int .u8 112)) 5) 4 [11]),wZ 13 9 12 4 [9,12],wV 14 13 4 [13],gd 14 false (wJ 15 92 1 31 [1]),gd 14 false (wD 16 5 15 [15]),gd 14 false (oQ 17 (.binOp .neq 5 (.tmp 16) (.const (.int .u8 165)) 5) 4 [16]),wT 18 14 17 4 [14,17],wV 19 18 4 [18],gd 19 false (wV 20 3 3),gd 19 false (wK 21 .gtr 3 20 1000000 3 4 [20]),wT 22 19 21 4 [19,21]],
 CN 22 (SQ [RG [wN 2 0 3],.ret]) .skip],RG [wV 23 3 3 [3],wG 2 23 3 [23]],.ret]
def DY (k:Nat) (ah:(Aa 32 Int)):Option (Int):=
 (BN k ((ah.l.drop 1).take 3)).bind fun x1=>
 (ah.at? 0).bind fun x2=>
 bif (!decide (x2=(104:Int))) then
  bif decide (x2=(112:Int)) then
   (ah.at? 31).bind fun x5=>
   bif decide (x5=(165:Int)) then
    bif decide ((1000000:Int)<x1) then
     some 0
    else
     some x1
   else
    some 0
  else
   some 0
 else
  (ah.at? 31).bind fun x8=>
  bif decide (x8=(165:Int)) then
   bif decide ((1000000:Int)<x1) then
    some 0
   else
    some x1
  else
   some 0
theorem FX (k:Nat) (ah:(Aa 32 Int)) (r:Int) (h0:DY k ah=some r):Ay Tryz.prog 105 [.agg ((Aa.c (n:=32) ae) ah)] (fun y=>y=.int .i64 r):=by
 refine PB Tryz.f105 G5.c [.tmp 2] ?_
 simp only[DY]at h0
 have F:=an (@id (Int.toNat 1=1) rfl) (an (@id (Int.toNat 4=4) rfl) (an (@id (bounds 32 (some (.int .i64 1)) (some (.int .i64 4))=some (1,4)) rfl) ((@id (4 - 1=3) rfl))))
 try simp only[G5.c,F,go_sem]
 refine zqL h0 (Du k _) ?_ (fun x1 h0=>?_)
 try simp only[aiB,aiC,F,go_sem]
 try simp only[F,go_sem]
 obtain⟨x2,dJ,h0⟩:=bs h0
 have lZ:=Ao.bh gO (Ao.self gQ ah) dJ
 have mf:=lZ.2
 try simp only[AA,AB,go_sem]at mf
 have F:=an (aq dJ) (an mf F)
 try simp only[F,go_sem]
 refine A7 F h0 ?_ ?_<;>intro F h0<;>try simp only[F,go_sem]
 refine AF F h0 ?_ ?_<;>intro F h0<;>try simp only[F,go_sem]
 obtain⟨x5,cn,h0⟩:=bs h0
 have tL:=Ao.bh gO (Ao.self gQ ah) cn
 have oN:=tL.2
 try simp only[AA,AB,go_sem]at oN
 have F:=an (aq cn) (an oN F)
 try simp only[F,go_sem]
 refine AF F h0 ?_ ?_<;>intro F h0<;>try simp only[F,go_sem]
 refine AF F h0 ?_ ?_<;>intro F h0<;>try simp only[F,go_sem]
 obtain rfl:=oi h0
 refine Ag rfl ?_
 try simp only[F,go_sem]
 obtain rfl:=oi h0
 refine Ag rfl ?_
 try simp only[F,go_sem]
 obtain rfl:=oi h0
 refine Ag rfl ?_
 try simp only[F,go_sem]
 obtain rfl:=oi h0
 refine Ag rfl ?_
 try simp only[F,go_sem]
 obtain⟨x8,kv,h0⟩:=bs h0
 have ac1:=Ao.bh gO (Ao.self gQ ah) kv
 have akQ:=ac1.2
 try simp only[AA,AB,go_sem]at akQ
 have F:=an (aq kv) (an akQ F)
 try simp only[F,go_sem]
 refine AF F h0 ?_ ?_<;>intro F h0<;>try simp only[F,go_sem]
 refine AF F h0 ?_ ?_<;>intro F h0<;>try simp only[F,go_sem]
 obtain rfl:=oi h0
 refine Ag rfl ?_
 try simp only[F,go_sem]
 obtain rfl:=oi h0
 refine Ag rfl ?_
 try simp only[F,go_sem]
 obtain rfl:=oi h0
 refine Ag rfl ?_
 try simp only[F,go_sem]
def G6.c:SC:=
 SQ [RG [wA 6 92],RG [wV 7 0 33 [0],wV 8 1 3 [1],oQ 9 (.binOp .mul 3 (.const (.int .i64 301)) (.tmp 8) 3) 3 [8],wV 10 2 3,wK 11 .quo 3 10 2 3 3 [10],wO 12 .add 3 9 11 3 3 [9,11],wV 13 2 3 [2],wK 14 .rem 3 13 2 3 3 [13],wI 15 33 7 12 [7,12],wI 16 113 15 14 [14,15],wD 17 92 16 [16],wS 92 6 17 [17]],.ret]
def Dt (k:Nat) (l0:(List (Aa 2 (Aa 32 Int)))) (aY:Int) (n2:Int):Option ((Aa 32 Int)):=
 (at? l0 (ab ((ab (301*aY))+(ab (Int.tdiv n2 2))))).bind fun x1=>
 (x1.at? (Int.tmod n2 2)).bind fun x2=>
 some x2
theorem Fk (k:Nat) (l0:(List (Aa 2 (Aa 32 Int)))) (aY:Int) (n2:Int) (r:(Aa 32 Int)) (h0:Dt k l0 aY n2=some r):Ay Tryz.prog 106 [.sl 64 (List.map (Aa.c (n:=2) (Aa.c (n:=32) ae)) l0),.int .i64 aY,.int .i64 n2] (fun y=>y=.agg ((Aa.c (n:=32) ae) r)):=by
 refine PB Tryz.f106 G6.c [.cell 6 92] ?_
 simp only[Dt]at h0
 try simp only[G6.c,go_sem]
 obtain⟨x1,jx,h0⟩:=bs h0
 have F:=an (aI jx) (aH (Aa.c (n:=2) (Aa.c (n:=32) ae)) jx)
 try simp only[F,go_sem]
 obtain⟨x2,dJ,h0⟩:=bs h0
 have lZ:=Ao.bh gN (Ao.self gP x1) dJ
 have mf:=lZ.2
 try simp only[AA,AB,go_sem]at mf
 have F:=an (aq dJ) (an mf F)
 try simp only[F,go_sem]
 obtain rfl:=oi h0
 refine Ag rfl ?_
 try simp only[F,go_sem]
def HU.c:SC:=
 SQ [RG [wE 1 29 0 [0],oQ 2 (.assign (.const (.slice none 0 0))) 82 [2]],RG [wF 4 29 1 0,wF 5 27 4 0 [4],wD 6 3 5 [5],wC 7 86 #[.tmp 6,.const (.int .i64 1)] #[3,3] 82 [6],wG 3 7 82 [7]],RG [wV 8 3 82 [3],wF 9 29 1 0,wF 10 27 9 1 [9],wD 11 3 10 [10],wC 12 86 #[.tmp 11,.const (.int .i64 2)] #[3,3] 82 [11],wP 13 8 12 82 82 82 [8,12],wG 3 13 82 [13]],RG [wV 14 3 82 [3],wF 15 29 1 1,wD 16 3 15 [15],
 wC 17 86 #[.tmp 16,.const (.int .i64 1)] #[3,3] 82 [16],wP 18 14 17 82 82 82 [14,17],wG 3 18 82 [18]],RG [wV 19 3 82 [3],wF 20 29 1 2,wD 21 3 20 [20],wC 22 86 #[.tmp 21,.const (.int .i64 4)] #[3,3] 82 [21],wP 23 19 22 82 82 82 [19,22],wG 3 23 82 [23]],RG [wV 24 3 82 [3],wF 25 29 1 3,wD 26 3 25 [25],wC 27 86 #[.tmp 26,.const (.int .i64 4)] #[3,3] 82 [26],wP 28 24 27 82 82 82 [24,27],
 wG 3 28 82 [28]],RG [wV 29 3 82 [3],wF 30 29 1 4,wF 31 27 30 0 [30],wD 32 3 31 [31],wC 33 86 #[.tmp 32,.const (.int .i64 1)] #[3,3] 82 [32],wP 34 29 33 82 82 82 [29,33],wG 3 34 82 [34]],RG [wV 35 3 82 [3],wF 36 29 1 4,wF 37 27 36 1 [36],wD 38 3 37 [37],wC 39 86 #[.tmp 38,.const (.int .i64 2)] #[3,3] 82 [38],wP 40 35 39 82 82 82 [35,39],wG 3 40 82 [40]],RG [wV 41 3 82 [3],wF 42 29 1 5,
 wD 43 9 42 [42],wL 44 43 9 3 [43],wC 45 86 #[.tmp 44,.const (.int .i64 1)] #[3,3] 82 [44],wP 46 41 45 82 82 82 [41,45],wG 3 46 82 [46]],RG [wV 47 3 82 [3],wF 48 29 1 5 [1],wD 49 9 48 [48],wY 50 9 82 49 82 [49],wP 51 47 50 82 82 82 [47,50],wG 2 51 82 [51]],.ret]
def Fi (k:Nat) (r0:Ab):Option ((List Int)):=
 (B1 k r0.At.Ac 1).bind fun x2=>
 (B1 k r0.At.No 2).bind fun x4=>
 (cY 1 x2 x4).bind fun l5=>
 (B1 k r0.Kind 1).bind fun x7=>
 (cY 1 l5 x7).bind fun l8=>
 (B1 k r0.Day 4).bind fun dz=>
 (cY 1 l8 dz).bind fun fN=>
 (B1 k r0.Ap 4).bind fun bx=>
 (cY 1 fN bx).bind fun cA=>
 (B1 k r0.Of.Ac 1).bind fun dp=>
 (cY 1 cA dp).bind fun oA=>
 (B1 k r0.Of.No 2).bind fun jw=>
 (cY 1 oA jw).bind fun th=>
 (B1 k (r0.Text.size:Int) 1).bind fun iX=>
 (cY 1 th iX).bind fun tj=>
 (aaD r0.Text).bind fun _=>
 (cY 1 tj (iG r0.Text)).bind fun l25=>
 some l25
theorem Jn (k:Nat) (r0:Ab) (r:(List Int)) (h0:Fi k r0=some r):Ay Tryz.prog 85 [.agg (Ab.c r0)] (fun y=>y=.sl 1 (List.map ae r)):=by
 refine PB Tryz.f85 HU.c [.tmp 2] ?_
 simp only[Fi]at h0
 try simp only[HU.c,go_sem]
 obtain⟨x2,dJ,h0⟩:=bs h0
 refine CJ AE 1000 [] [] (DM k _ _ _ dJ) ?_ rfl ?_
 try simp only[fB,Bu,go_sem]
 try simp only[go_sem]
 obtain⟨x4,bF,h0⟩:=bs h0
 refine CJ AE 1000 [] [] (DM k _ _ _ bF) ?_ rfl ?_
 try simp only[fB,Bu,go_sem]
 try simp only[go_sem]
 obtain⟨l5,yl5,h0⟩:=bs h0
 have aa2:=fw ae yl5
 try simp only[go_sem]at aa2
 have F:=aa2
 try simp only[F,go_sem]
 obtain⟨x7,dq,h0⟩:=bs h0
 refine CJ AE 1000 [] [] (DM k _ _ _ dq) ?_ rfl ?_
 try simp only[fB,Bu,F,go_sem]
 try simp only[F,go_sem]
 obtain⟨l8,nP,h0⟩:=bs h0
 have ak6:=fw ae nP
 try simp only[F,go_sem]at ak6
 have F:=an ak6 F
 try simp only[F,go_sem]
 obtain⟨dz,lg,h0⟩:=bs h0
 refine CJ AE 1000 [] [] (DM k _ _ _ lg) ?_ rfl ?_
 try simp only[fB,Bu,F,go_sem]
 try simp only[F,go_sem]
 obtain⟨fN,rO,h0⟩:=bs h0
 have akR:=fw ae rO
 try simp only[F,go_sem]at akR
 have F:=an akR F
 try simp only[F,go_sem]
 obtain⟨bx,iv,h0⟩:=bs h0
 refine CJ AE 1000 [] [] (DM k _ _ _ iv) ?_ rfl ?_
 try simp only[fB,Bu,F,go_sem]
 try simp only[F,go_sem]
 obtain⟨cA,qb,h0⟩:=bs h0
 have aaY:=fw ae qb
 try simp only[F,go_sem]at aaY
 have F:=an aaY F
 try simp only[F,go_sem]
 obtain⟨dp,kt,h0⟩:=bs h0
 refine CJ AE 1000 [] [] (DM k _ _ _ kt) ?_ rfl ?_
 try simp only[fB,Bu,F,go_sem]
 try simp only[F,go_sem]
 obtain⟨oA,vE,h0⟩:=bs h0
 have oO:=fw ae vE
 try simp only[F,go_sem]at oO
 have F:=an oO F
 try simp only[F,go_sem]
 obtain⟨jw,qc,h0⟩:=bs h0
 refine CJ AE 1000 [] [] (DM k _ _ _ qc) ?_ rfl ?_
 try simp only[fB,Bu,F,go_sem]
 try simp only[F,go_sem]
 obtain⟨th,aa5,h0⟩:=bs h0
 have tU:=fw ae aa5
 try simp only[F,go_sem]at tU
 have F:=an tU F
 try simp only[F,go_sem]
 obtain⟨iX,vK,h0⟩:=bs h0
 refine CJ AE 1000 [] [] (DM k _ _ _ vK) ?_ rfl ?_
 try simp only[fB,Bu,F,go_sem]
 try simp only[F,go_sem]
 obtain⟨tj,vF,h0⟩:=bs h0
 have aa1:=fw ae vF
 try simp only[F,go_sem]at aa1
 have F:=an aa1 F
 try simp only[F,go_sem]
 obtain⟨u24,afH,h0⟩:=bs h0
 have F:=an afn F
 try simp only[arJ afH,F,go_sem]
 obtain⟨l25,aa6,h0⟩:=bs h0
 have akX:=fw ae aa6
 try simp only[F,go_sem]at akX
 have F:=an akX F
 try simp only[F,go_sem]
 obtain rfl:=oi h0
 refine Ag rfl ?_
 try simp only[F,go_sem]
def EK.s0:SC:=
 SQ [SQ [RG [wV 20 10 3,wV 21 8 3,wO 22 .lss 3 20 21 3 4 [20,21]],CN 22 .skip (.exit 0)],.block 1 (SQ [RG [oQ 25 (.buildSlice 82 1 #[(0,.const (.int .u8 112))]) 82,wG 11 25 82 [25]],RG [wV 26 11 82 [11],wV 27 2 3,wC 28 86 #[.tmp 27,.const (.int .i64 3)] #[3,3] 82 [27],wP 29 26 28 82 82 82 [26,28],wG 11 29 82 [29]],RG [wV 30 11 82 [11],wV 31 1 3,wC 32 86 #[.tmp 31,.const (.int .i64 2)] #[3,
 3] 82 [31],wP 33 30 32 82 82 82 [30,32],wG 11 33 82 [33]],RG [wV 34 11 82 [11],wV 35 10 3,wY 36 3 5 35 5 [35],wV 37 8 3,wY 38 3 5 37 5 [37],oQ 39 (.buildSlice 82 2 #[(0,.tmp 36),(1,.tmp 38)]) 82 [36,38],wP 40 34 39 82 82 82 [34,39],wG 11 40 82 [40]],RG [oQ 41 (.makeSlice 82 (.const (.int .i64 23)) (.const (.int .i64 23))) 82,wG 12 41 82 [41]],RG [wV 42 12 82,wV 43 7 82,wV 44 10 3,
 oQ 45 (.binOp .mul 3 (.const (.int .i64 23)) (.tmp 44) 3) 3 [44],oQ 46 (.slice 82 (.tmp 43) (some (.tmp 45)) none none) 82 [43,45],oQ 47 (.call ⟨.builtin .copy,#[.tmp 42,.tmp 46],#[82,82]⟩) 3 [42,46,47]],RG [wV 48 11 82 [11],wV 49 12 82 [12],wP 50 48 49 82 82 82 [48,49],oQ 51 (.buildSlice 82 1 #[(0,.const (.int .u8 165))]) 82,wP 52 50 51 82 82 82 [50,51],wG 11 52 82 [52]],RG [wV 53 9 85 [9],
 wV 54 11 82 [11],oQ 55 (.sliceToArrayPointer 92 (.tmp 54)) 0 [54],wD 56 92 55 [55],oQ 57 (.buildSlice 85 1 #[(0,.tmp 56)]) 85 [56],wP 58 53 57 85 85 85 [53,57],wG 9 58 85 [58]]]),RG [wV 23 10 3 [10],wK 24 .add 3 23 1 3 3 [23],wG 10 24 3 [24]]]
def EK.c:SC:=
 SQ [RG [wE 3 29 0 [0],oQ 6 (.assign (.const (.slice none 0 0))) 85 [6]],RG [wD 13 29 3 [3],wU 14 85 13 29 82 [13],wG 7 14 82 [14]],RG [wV 15 7 82,wL 16 15 82 3 [15],wK 17 .add 3 16 23 3 3 [16],wK 18 .sub 3 17 1 3 3 [17],wK 19 .quo 3 18 23 3 3 [18],wG 8 19 3 [19]],RG [oQ 9 (.assign (.const (.slice none 0 0))) 85],SQ [RG [wN 10 0 3],.block 0 (.loop EK.s0)],RG [wV 59 9 85 [9],wG 6 59 85 [59]],.ret]
def Cn.b0 (k:Nat) (k1:Int) (fA:Int) (x1:(List Int)):(Int×(List (Aa 32 Int)))->Option (AN (Int×(List (Aa 32 Int))) ((List (Aa 32 Int))) ((List (Aa 32 Int)))):=fun s=>match s with
 |(i2,l3)=>
   bif decide (i2<ab (Int.tdiv (ab ((ab ((x1.length:Int)+23)) - 1)) 23)) then
    (Cd k fA 3).bind fun x6=>
    (cY 1 [112] x6).bind fun l7=>
    (Cd k k1 2).bind fun x8=>
    (cY 1 l7 x8).bind fun l9=>
    (cY 1 l9 [IntKind.u8.wrap i2,IntKind.u8.wrap (ab (Int.tdiv (ab ((ab ((x1.length:Int)+23)) - 1)) 23))]).bind fun df=>
    (kR 23 1 (0:Int)).bind fun fN=>
    (ck x1 (ab (23*i2)) x1.length).bind fun fO=>
    (cY 1 df (ng fN 0 23 fO)).bind fun cA=>
    (eO 1 cA 165).bind fun re=>
    (Aa.oD 32 re).bind fun v16=>
    (eO 32 l3 v16).bind fun oA=>
    some (.next (ab (i2+1),oA))
   else
    some (.brk l3)
def Cn.h0 (k1:Int) (fA:Int) (x1:(List Int)):(Int×(List (Aa 32 Int)))->St:=fun s=>match s with
 |(i2,l3)=>⟨[(1,.int .i64 k1),(2,.int .i64 fA),(7,.sl 1 (List.map ae x1)),(8,.int .i64 (ab (Int.tdiv (ab ((ab ((x1.length:Int)+23)) - 1)) 23))),(9,.loc 0 0 32 0 l3.length l3.length),(10,.int .i64 i2)],[(0,.arr 92 32 (List.map (Aa.c (n:=32) ae) l3))],[],1,Tryz.f47.ntmps⟩
def Cn.x0:(List (Aa 32 Int))->St:=fun l4=>⟨[(9,.loc 0 0 32 0 l4.length l4.length)],[(0,.arr 92 32 (List.map (Aa.c (n:=32) ae) l4))],[],1,Tryz.f47.ntmps⟩
def Cn (k:Nat) (r0:Ab) (k1:Int) (fA:Int):Option ((List (Aa 32 Int))):=
 (Fi k r0).bind fun x1=>
 (ai (Cn.b0 k k1 fA x1) k (0,[])).bind fun tz=>match tz with
 |.next _=>none
 |.ret v_=>some v_
 |.brk l4=>
  some l4
theorem Io (k:Nat) (r0:Ab) (k1:Int) (fA:Int) (r:(List (Aa 32 Int))) (h0:Cn k r0 k1 fA=some r):Ay Tryz.prog 47 [.agg (Ab.c r0),.int .i64 k1,.int .i64 fA] (fun y=>y=.sl 32 (List.map (Aa.c (n:=32) ae) r)):=by
 refine PB Tryz.f47 EK.c [.tmp 6] ?_
 simp only[Cn]at h0
 try simp only[EK.c,go_sem]
 refine aj h0 (Jn k _) ?_ (fun x1 h0=>?_)<;>try simp only[go_sem]
 obtain⟨tz,aa9,h0⟩:=bs h0
 refine A5 aa9 (Cn.h0 k1 fA x1) (Cn.x0) ?_ ?_ ?_
 refine Al.go [1,2,7,8,9,10] [176] rfl ?_
 try simp only[Cn.h0,go_sem]
 rintro⟨i2,l3⟩ bO Bd Ba h1 az ax bg
 refine rS ?_
 simp only[Cn.b0]at h1
 try simp only[EK.s0,Cn.h0,go_sem]
 refine AP h1 ?_ ?_<;>intro c5 h1<;>have F:=c5<;>try simp only[F,go_sem]
 refine aj h1 (FG k _ _) ?_ (fun x6 h1=>?_)<;>try simp only[F,go_sem]
 obtain⟨l7,yl7,h1⟩:=bs h1
 have ak5:=fw ae yl7
 try simp only[F,go_sem]at ak5
 have F:=an ak5 F
 try simp only[F,go_sem]
 refine aj h1 (FG k _ _) ?_ (fun x8 h1=>?_)<;>try simp only[F,go_sem]
 obtain⟨l9,yl9,h1⟩:=bs h1
 have ak7:=fw ae yl9
 try simp only[F,go_sem]at ak7
 have F:=an ak7 F
 try simp only[F,go_sem]
 obtain⟨df,yj,h1⟩:=bs h1
 have aaX:=fw ae yj
 try simp only[F,go_sem]at aaX
 have F:=an aaX F
 try simp only[F,go_sem]
 obtain⟨fN,rO,h1⟩:=bs h1
 obtain⟨_,apG⟩:=aeQ rO
 have abQ:List.replicate 23 ([.int .u8 0])=List.map ae fN:=aeP ae rO
 have aqc:fN.length=23:=aeO rO
 have arU:List.take 23 (List.map ae fN)=List.map ae fN:=aeR ae rO
 have F:=an abQ (an aqc (an arU (an (@id (Int.toNat 23=23) rfl) F)))
 try simp only[aeM apG,F,go_sem]
 obtain⟨fO,vD,h1⟩:=bs h1
 have ur:=xU ae vD
 try simp only[go_sem]at ur
 have q13:=anl ae fN 0 23 fO
 have aiO:(ng fN 0 23 fO).length=23:=by rw[agU]<;>simp only[ur,F,go_sem]
 try simp only[ur,F,go_sem]at q13
 have arP:List.take 23 (List.map ae (ng fN 0 23 fO))=List.map ae (ng fN 0 23 fO):=Co (by rw[Bu,aiO]<;>exact AY _)
 have F:=an ur (an aiO (an arP F))
 try simp only[tF vD,q13,F,go_sem]
 obtain⟨cA,qb,h1⟩:=bs h1
 have aaY:=fw ae qb
 try simp only[F,go_sem]at aaY
 have F:=an aaY F
 try simp only[F,go_sem]
 obtain⟨re,asm,h1⟩:=bs h1
 have akT:=pu ae asm
 try simp only[F,go_sem]at akT
 have F:=an akT F
 try simp only[F,go_sem]
 obtain⟨v16,afI,h1⟩:=bs h1
 have ak8:=ac4 afI
 try simp only[F,go_sem]at ak8
 have F:=an ak8 (an (akx (E:=ae) afI) (an (akw (E:=ae) afI) F))
 try simp only[F,go_sem]
 obtain⟨oA,vE,h1⟩:=bs h1
 have oO:=pu (Aa.c (n:=32) ae) vE
 try simp only[F,go_sem]at oO
 have F:=an oO F
 try simp only[F,go_sem]
 refine Ax (az _ _ (oi h1).symm (Al.go [1,2,7,8,9,10] [0] rfl ?_))
 try simp only[Cn.h0,F,go_sem]
 refine Ax (ax _ _ (oi h1).symm (Al.go [9] [0] rfl ?_))
 try simp only[Cn.x0,F,go_sem]
 rintro l4 aA
 subst aA
 simp only at h0
 refine rS ?_
 try simp only[Cn.x0,go_sem]
 obtain rfl:=oi h0
 refine Ag rfl ?_
 try simp only[go_sem]
def G7.c:SC:=
 SQ [RG [wE 1 27 0 [0],wB 2 false 4 [2]],RG [wF 3 27 1 0,wD 4 3 3 [3],wC 5 54 #[.tmp 4,.const (.int .i64 0),.const (.int .i64 5)] #[3,3,3] 4 [4],wV 6 5 4 [5],gd 6 true (wF 7 27 1 1 [1]),gd 6 true (wD 8 3 7 [7]),gd 6 true (wC 9 54 #[.tmp 8,.const (.int .i64 0),.const (.int .i64 9999)] #[3,3,3] 4 [8]),wZ 10 6 9 4 [6,9],wG 2 10 4 [10]],.ret]
def Ei (k:Nat) (p0:Entry):Option (Bool):=
 (CI k p0.Ac 0 5).bind fun x1=>
 bif x1 then
  (CI k p0.No 0 9999).bind fun x3=>
  some x3
 else
  some false
theorem Ib (k:Nat) (p0:Entry) (r:Bool) (h0:Ei k p0=some r):Ay Tryz.prog 107 [.agg (Entry.c p0)] (fun y=>y=.bool r):=by
 refine PB Tryz.f107 G7.c [.tmp 2] ?_
 simp only[Ei]at h0
 try simp only[G7.c,go_sem]
 refine aj h0 (C0 k _ _ _) ?_ (fun x1 h0=>?_)<;>try simp only[go_sem]
 refine AP h0 ?_ ?_<;>intro c2 h0<;>have F:=c2<;>try simp only[F,go_sem]
 refine aj h0 (C0 k _ _ _) ?_ (fun x3 h0=>?_)<;>try simp only[F,go_sem]
 obtain rfl:=oi h0
 refine Ag rfl ?_
 try simp only[F,go_sem]
 obtain rfl:=oi h0
 refine Ag rfl ?_
 try simp only[F,go_sem]
def Ex.s0:SC:=
 SQ [SQ [RG [wV 7 3 3,wV 8 0 9,wL 9 8 9 3 [8],wO 10 .lss 3 7 9 3 4 [7,9]],CN 10 .skip (.exit 0)],.block 1 (SQ [RG [wV 13 0 9,wV 14 3 3,oQ 15 (.index 9 (.tmp 13) (.tmp 14)) 5 [13,14],oQ 16 (.binOp .lss 5 (.tmp 15) (.const (.int .u8 32)) 5) 4 [15],wV 17 16 4 [16],gd 17 false (wV 18 0 9),gd 17 false (wV 19 3 3),gd 17 false (oQ 20 (.index 9 (.tmp 18) (.tmp 19)) 5 [18,19]),
 gd 17 false (oQ 21 (.binOp .gtr 5 (.tmp 20) (.const (.int .u8 126)) 5) 4 [20]),wT 22 17 21 4 [17,21]],CN 22 (SQ [RG [wB 2 false 4],.ret]) .skip]),RG [wV 11 3 3 [3],wK 12 .add 3 11 1 3 3 [11],wG 3 12 3 [12]]]
def Ex.c:SC:=
 SQ [RG [wB 2 false 4 [2]],SQ [RG [wV 4 0 9,wL 5 4 9 3 [4],wK 6 .gtr 3 5 200 3 4 [5]],CN 6 (SQ [RG [wB 2 false 4],.ret]) .skip],SQ [RG [wN 3 0 3],.block 0 (.loop Ex.s0)],RG [wB 2 true 4],.ret]
def Cr.b0 (k:Nat) (s0:ByteArray):Int->Option (AN (Int) (Unit) (Bool)):=fun i2=>
 bif decide (i2<(s0.size:Int)) then
  (tD s0 i2).bind fun i4=>
  bif (!decide (i4<(32:Int))) then
   bif decide ((126:Int)<i4) then
    some (.ret false)
   else
    some (.next (ab (i2+1)))
  else
   some (.ret false)
 else
  some (.brk ())
def Cr.h0 (s0:ByteArray):Int->St:=fun i2=>⟨[(0,.str s0),(3,.int .i64 i2)],[],[],1,Tryz.f108.ntmps⟩
def Cr.x0:Unit->St:=fun _=>⟨[],[],[],1,Tryz.f108.ntmps⟩
def Cr (k:Nat) (s0:ByteArray):Option (Bool):=
 bif decide ((200:Int)<(s0.size:Int)) then
  some false
 else
  (ai (Cr.b0 k s0) k 0).bind fun r7=>match r7 with
  |.next _=>none
  |.ret v_=>some v_
  |.brk _=>
   some true
theorem Jp (k:Nat) (s0:ByteArray) (r:Bool) (h0:Cr k s0=some r):Ay Tryz.prog 108 [.str s0] (fun y=>y=.bool r):=by
 refine PB Tryz.f108 Ex.c [.tmp 2] ?_
 simp only[Cr]at h0
 try simp only[Ex.c,go_sem]
 refine AP h0 ?_ ?_<;>intro c1 h0<;>have F:=c1<;>try simp only[F,go_sem]
 obtain rfl:=oi h0
 refine Ag rfl ?_
 try simp only[F,go_sem]
 obtain⟨r7,lf,h0⟩:=bs h0
 refine A5 lf (Cr.h0 s0) (Cr.x0) ?_ ?_ ?_
 refine Al.go [0,3] [] rfl ?_
 try simp only[Cr.h0,F,go_sem]
 rintro i2 bO Bd Ba h1 az ax bg
 refine rS ?_
 simp only[Cr.b0]at h1
 try simp only[Ex.s0,Cr.h0,F,go_sem]
 refine AF F h1 ?_ ?_<;>intro F h1<;>try simp only[F,go_sem]
 obtain⟨i4,yi4,h1⟩:=bs h1
 have F:=an (ajT yi4) (an (ajS yi4) F)
 try simp only[F,go_sem]
 refine A7 F h1 ?_ ?_<;>intro F h1<;>try simp only[F,go_sem]
 refine AF F h1 ?_ ?_<;>intro F h1<;>try simp only[F,go_sem]
 obtain rfl:=bg _ (oi h1).symm
 simp only at h0
 obtain rfl:=oi h0
 refine Ag rfl ?_
 try simp only[F,go_sem]
 refine Ax (az _ _ (oi h1).symm (Al.go [0,3] [] rfl ?_))
 try simp only[Cr.h0,F,go_sem]
 obtain rfl:=bg _ (oi h1).symm
 simp only at h0
 obtain rfl:=oi h0
 refine Ag rfl ?_
 try simp only[F,go_sem]
 refine Ax (ax _ _ (oi h1).symm (Al.go [] [] rfl ?_))
 try simp only[Cr.x0,F,go_sem]
 rintro _ aA
 subst aA
 simp only at h0
 refine rS ?_
 try simp only[Cr.x0,F,go_sem]
 obtain rfl:=oi h0
 refine Ag rfl ?_
 try simp only[F,go_sem]
def HW.c:SC:=
 SQ [RG [wE 1 29 0 [0],wN 2 0 45 [2]],SQ [RG [wF 3 29 1 0,wD 4 27 3 [3],wU 5 107 4 27 4 [4],wQ 6 5 4 [5],wV 7 6 4 [6],gd 7 false (wF 8 29 1 1),gd 7 false (wD 9 3 8 [8]),gd 7 false (wC 10 54 #[.tmp 9,.const (.int .i64 0),.const (.int .i64 40)] #[3,3,3] 4 [9]),gd 7 false (wQ 11 10 4 [10]),wT 12 7 11 4 [7,11],wV 13 12 4 [12],gd 13 false (wF 14 29 1 2),gd 13 false (wD 15 3 14 [14]),
 gd 13 false (wC 16 54 #[.tmp 15,.const (.int .i64 0),.const (.int .i64 100000)] #[3,3,3] 4 [15]),gd 13 false (wQ 17 16 4 [16]),wT 18 13 17 4 [13,17],wV 19 18 4 [18],gd 19 false (wF 20 29 1 3),gd 19 false (wD 21 3 20 [20]),gd 19 false (wC 22 54 #[.tmp 21,.const (.int .i64 0),.const (.int .i64 100000)] #[3,3,3] 4 [21]),gd 19 false (wQ 23 22 4 [22]),wT 24 19 23 4 [19,23],wV 25 24 4 [24],
 gd 25 false (wF 26 29 1 5),gd 25 false (wD 27 9 26 [26]),gd 25 false (wU 28 108 27 9 4 [27]),gd 25 false (wQ 29 28 4 [28]),wT 30 25 29 4 [25,29]],CN 30 (SQ [RG [wN 2 90 45],.ret]) .skip],SQ [RG [wF 31 29 1 1,wD 32 3 31 [31],wK 33 .eql 3 32 0 3 4 [32]],CN 33 (SQ [SQ [RG [wF 34 29 1 2,wD 35 3 34 [34],wK 36 .neq 3 35 0 3 4 [35],wV 37 36 4 [36],gd 37 false (wF 38 29 1 5),gd 37 false (wD 39 9 38 [38]),
 gd 37 false (oQ 40 (.binOp .neq 9 (.tmp 39) (.const (.string ⟨#[]⟩)) 9) 4 [39]),wT 41 37 40 4 [37,40],wV 42 41 4 [41],gd 42 false (wF 43 29 1 4),gd 42 false (wD 44 27 43 [43]),gd 42 false (wU 45 107 44 27 4 [44]),gd 42 false (wQ 46 45 4 [45]),wT 47 42 46 4 [42,46],wV 48 47 4 [47],gd 48 false (wF 49 29 1 4),gd 48 false (wF 50 27 49 0 [49]),gd 48 false (wD 51 3 50 [50]),gd 48 false (wF 52 29 1 0),
 gd 48 false (wF 53 27 52 0 [52]),gd 48 false (wD 54 3 53 [53]),gd 48 false (wO 55 .neq 3 51 54 3 4 [51,54]),wT 56 48 55 4 [48,55],wV 57 56 4 [56],gd 57 false (wF 58 29 1 4),gd 57 false (wF 59 27 58 1 [58]),gd 57 false (wD 60 3 59 [59]),gd 57 false (wF 61 29 1 0 [1]),gd 57 false (wF 62 27 61 1 [61]),gd 57 false (wD 63 3 62 [62]),gd 57 false (wO 64 .geq 3 60 63 3 4 [60,63]),wT 65 57 64 4 [57,64]],
 CN 65 (SQ [RG [wN 2 90 45],.ret]) .skip],RG [wN 2 0 45],.ret]) .skip],SQ [RG [wF 66 29 1 4 [1],wD 67 27 66 [66],oQ 68 (.build 27 #[]) 27,wO 69 .neq 27 67 68 27 4 [67,68]],CN 69 (SQ [RG [wN 2 90 45],.ret]) .skip],RG [wN 2 0 45],.ret]
def DW (k:Nat) (r0:Ab):Option (Int):=
 (Ei k r0.At).bind fun x1=>
 bif x1 then
  (CI k r0.Kind 0 40).bind fun x3=>
  bif x3 then
   (CI k r0.Day 0 100000).bind fun x5=>
   bif x5 then
    (CI k r0.Ap 0 100000).bind fun x7=>
    bif x7 then
     (Cr k r0.Text).bind fun x9=>
     bif (!x9) then
      some 90
     else
      bif decide (r0.Kind=(0:Int)) then
       bif decide (r0.Day=(0:Int)) then
        bif (r0.Text.toList==ByteArray.empty.toList) then
         (Ei k r0.Of).bind fun bR=>
         bif bR then
          bif decide (r0.Of.Ac=r0.At.Ac) then
           bif decide (r0.At.No<=r0.Of.No) then
            some 90
           else
            some 0
          else
           some 90
         else
          some 90
        else
         some 90
       else
        some 90
      else
       bif (!(decide (r0.Of.Ac=(0:Int))&&decide (r0.Of.No=(0:Int)))) then
        some 90
       else
        some 0
    else
     some 90
   else
    some 90
  else
   some 90
 else
  some 90
theorem FV (k:Nat) (r0:Ab) (r:Int) (h0:DW k r0=some r):Ay Tryz.prog 90 [.agg (Ab.c r0)] (fun y=>y=.int .i64 r):=by
 refine PB Tryz.f90 HW.c [.tmp 2] ?_
 simp only[DW]at h0
 try simp only[HW.c,go_sem]
 refine aj h0 (Ib k _) ?_ (fun x1 h0=>?_)<;>try simp only[go_sem]
 refine AP h0 ?_ ?_<;>intro c2 h0<;>have F:=c2<;>try simp only[F,go_sem]
 refine aj h0 (C0 k _ _ _) ?_ (fun x3 h0=>?_)<;>try simp only[F,go_sem]
 refine AF F h0 ?_ ?_<;>intro F h0<;>try simp only[F,go_sem]
 refine aj h0 (C0 k _ _ _) ?_ (fun x5 h0=>?_)<;>try simp only[F,go_sem]
 refine AF F h0 ?_ ?_<;>intro F h0<;>try simp only[F,go_sem]
 refine aj h0 (C0 k _ _ _) ?_ (fun x7 h0=>?_)<;>try simp only[F,go_sem]
 refine AF F h0 ?_ ?_<;>intro F h0<;>try simp only[F,go_sem]
 refine aj h0 (Jp k _) ?_ (fun x9 h0=>?_)<;>try simp only[F,go_sem]
 refine A7 F h0 ?_ ?_<;>intro F h0<;>try simp only[F,go_sem]
 obtain rfl:=oi h0
 refine Ag rfl ?_
 try simp only[F,go_sem]
 refine AF F h0 ?_ ?_<;>intro F h0<;>try simp only[F,go_sem]
 refine AF F h0 ?_ ?_<;>intro F h0<;>try simp only[F,go_sem]
 refine AF F h0 ?_ ?_<;>intro F h0<;>try simp only[F,go_sem]
 refine aj h0 (Ib k _) ?_ (fun bR h0=>?_)<;>try simp only[F,go_sem]
 refine AF F h0 ?_ ?_<;>intro F h0<;>try simp only[F,go_sem]
 refine AF F h0 ?_ ?_<;>intro F h0<;>try simp only[F,go_sem]
 refine AF F h0 ?_ ?_<;>intro F h0<;>try simp only[F,go_sem]
 obtain rfl:=oi h0
 refine Ag rfl ?_
 try simp only[F,go_sem]
 obtain rfl:=oi h0
 refine Ag rfl ?_
 try simp only[F,go_sem]
 obtain rfl:=oi h0
 refine Ag rfl ?_
 try simp only[F,go_sem]
 obtain rfl:=oi h0
 refine Ag rfl ?_
 try simp only[F,go_sem]
 obtain rfl:=oi h0
 refine Ag rfl ?_
 try simp only[F,go_sem]
 obtain rfl:=oi h0
 refine Ag rfl ?_
 try simp only[F,go_sem]
 refine A7 F h0 ?_ ?_<;>intro F h0<;>try simp only[F,go_sem]
 obtain rfl:=oi h0
 refine Ag rfl ?_
 try simp only[F,go_sem]
 obtain rfl:=oi h0
 refine Ag rfl ?_
 try simp only[F,go_sem]
 obtain rfl:=oi h0
 refine Ag rfl ?_
 try simp only[F,go_sem]
 obtain rfl:=oi h0
 refine Ag rfl ?_
 try simp only[F,go_sem]
 obtain rfl:=oi h0
 refine Ag rfl ?_
 try simp only[F,go_sem]
 obtain rfl:=oi h0
 refine Ag rfl ?_
 try simp only[F,go_sem]
def He.c:SC:=
 SQ [RG [wA 2 29,wN 3 0 45 [3]],SQ [RG [wV 5 0 82,wL 6 5 82 3 [5],wK 7 .lss 3 6 16 3 4 [6],wV 8 7 4 [7],gd 8 false (wV 9 0 82),gd 8 false (wL 10 9 82 3 [9]),gd 8 false (wV 11 0 82),gd 8 false (wJ 12 82 11 15 [11]),gd 8 false (wD 13 5 12 [12]),gd 8 false (wY 14 5 3 13 3 [13]),gd 8 false (oQ 15 (.binOp .add 3 (.const (.int .i64 16)) (.tmp 14) 3) 3 [14]),gd 8 false (wO 16 .neq 3 10 15 3 4 [10,15]),
 wT 17 8 16 4 [8,16]],CN 17 (SQ [RG [oQ 18 (.build 29 #[]) 29,wS 29 2 18 [18],wN 3 90 45],.ret]) .skip],.aS [wV 19 0 82,oQ 20 (.slice 82 (.tmp 19) none (some (.const (.int .i64 1))) none) 82,wU 21 121 20 82 3,wV 22 0 82,oQ 23 (.slice 82 (.tmp 22) (some (.const (.int .i64 1))) (some (.const (.int .i64 3))) none) 82,wU 24 121 23 82 3,oQ 25 (.build 27 #[(0,.tmp 21),(1,.tmp 24)]) 27,wV 26 0 82,
 oQ 27 (.slice 82 (.tmp 26) (some (.const (.int .i64 3))) (some (.const (.int .i64 4))) none) 82,wU 28 121 27 82 3,wV 29 0 82,oQ 30 (.slice 82 (.tmp 29) (some (.const (.int .i64 4))) (some (.const (.int .i64 8))) none) 82,wU 31 121 30 82 3,wV 32 0 82,oQ 33 (.slice 82 (.tmp 32) (some (.const (.int .i64 8))) (some (.const (.int .i64 12))) none) 82,wU 34 121 33 82 3,wV 35 0 82,
 oQ 36 (.slice 82 (.tmp 35) (some (.const (.int .i64 12))) (some (.const (.int .i64 13))) none) 82,wU 37 121 36 82 3,wV 38 0 82,oQ 39 (.slice 82 (.tmp 38) (some (.const (.int .i64 13))) (some (.const (.int .i64 15))) none) 82,wU 40 121 39 82 3,oQ 41 (.build 27 #[(0,.tmp 37),(1,.tmp 40)]) 27,wV 42 0 82,oQ 43 (.slice 82 (.tmp 42) (some (.const (.int .i64 16))) none none) 82,wY 44 82 9 43 9,
 oQ 45 (.build 29 #[(0,.tmp 25),(1,.tmp 28),(2,.tmp 31),(3,.tmp 34),(4,.tmp 41),(5,.tmp 44)]) 29,wA 4 29,wS 29 4 45] [[],[0],[0,1],[],[3],[3,4,0,1,2],[0,1,2,3,4,5],[],[7],[7,8,3,4,0,1,2,5],[],[10],[10,11,7,8,3,4,0,1,2,5,9],[],[13],[13,14,10,11,7,8,3,4,0,1,2,5,9,12],[],[16],[16,17,13,14,10,11,7,8,3,4,0,1,2,5,9,12,15],[],[19],[19,20,16,17,13,14,10,11,7,8,3,4,0,1,2,5,9,12,15,18],[16,17,13,14,10,11,7,
 8,3,4,0,1,2,5,9,12,15,18,19,20,21],[],[23],[23,24],[0,1,2,3,4,5,6,7,8,9,10,11,12,13,14,15,16,17,18,19,20,21,22,23,24,25],[],[27,0,1,2,3,4,5,6,7,8,9,10,11,12,13,14,15,16,17,18,19,20,21,22,23,24,25,26]] [0,19,20,21,22,23,24,25,26,27,28,29,30,31,32,33,34,35,36,37,38,39,40,41,42,43,44,45],SQ [RG [wD 46 29 4,wU 47 90 46 29 45 [46],wK 48 .neq 45 47 0 45 4 [47]],CN 48 (SQ [RG [oQ 49 (.build 29 #[]) 29,
 wS 29 2 49 [49],wN 3 90 45],.ret]) .skip],RG [wD 50 29 4 [4],wS 29 2 50 [50],wN 3 0 45],.ret]
def Eg (k:Nat) (b0:(List Int)):Option (Ab×Int):=
 bif (!decide ((b0.length:Int)<(16:Int))) then
  (at? b0 15).bind fun x2=>
  bif (!decide ((b0.length:Int)=ab (16+(ab x2)))) then
   some ((⟨(⟨0,0⟩:Entry),0,0,0,(⟨0,0⟩:Entry),ByteArray.empty⟩:Ab),90)
  else
   (ck b0 0 1).bind fun l4=>
   (BN k l4).bind fun x5=>
   (ck b0 1 3).bind fun l6=>
   (BN k l6).bind fun x7=>
   (ck b0 3 4).bind fun l8=>
   (BN k l8).bind fun x9=>
   (ck b0 4 8).bind fun df=>
   (BN k df).bind fun bN=>
   (ck b0 8 12).bind fun fO=>
   (BN k fO).bind fun bx=>
   (ck b0 12 13).bind fun cA=>
   (BN k cA).bind fun cd=>
   (ck b0 13 15).bind fun tf=>
   (BN k tf).bind fun fS=>
   (ck b0 16 b0.length).bind fun nC=>
   (DW k (⟨(⟨x5,x7⟩:Entry),x9,bN,bx,(⟨cd,fS⟩:Entry),strOf nC⟩:Ab)).bind fun jw=>
   bif (!decide (jw=(0:Int))) then
    some ((⟨(⟨0,0⟩:Entry),0,0,0,(⟨0,0⟩:Entry),ByteArray.empty⟩:Ab),90)
   else
    some ((⟨(⟨x5,x7⟩:Entry),x9,bN,bx,(⟨cd,fS⟩:Entry),strOf nC⟩:Ab),0)
 else
  some ((⟨(⟨0,0⟩:Entry),0,0,0,(⟨0,0⟩:Entry),ByteArray.empty⟩:Ab),90)
theorem Jd (k:Nat) (b0:(List Int)) (r:Ab×Int) (h0:Eg k b0=some r):Ay Tryz.prog 128 [.sl 1 (List.map ae b0)] (fun y=>y=.aw [.agg (Ab.c r.1),.int .i64 r.2]):=by
 refine PB Tryz.f128 He.c [.cell 2 29,.tmp 3] ?_
 simp only[Eg]at h0
 try simp only[He.c,go_sem]
 refine BS h0 ?_ ?_<;>intro c1 h0<;>have F:=c1<;>try simp only[F,go_sem]
 obtain⟨x2,dJ,h0⟩:=bs h0
 have F:=an (aI dJ) (an (aH ae dJ) F)
 try simp only[F,go_sem]
 refine A7 F h0 ?_ ?_<;>intro F h0<;>try simp only[F,go_sem]
 obtain rfl:=oi h0
 refine Ag rfl ?_
 try simp only[F,go_sem]
 refine AL AE aO 1000 ?_
 try simp only[F,go_sem]
 obtain⟨l4,yl4,h0⟩:=bs h0
 have ahp:=aaE ae yl4
 try simp only[go_sem]at ahp
 have F:=an ahp F
 try simp only[vu yl4,F,go_sem]
 refine bJ h0 (Du k _) ?_ (fun x5 h0=>?_)<;>try simp only[F,go_sem]
 obtain⟨l6,ko,h0⟩:=bs h0
 have sy:=rA ae ko
 try simp only[go_sem]at sy
 have F:=an sy F
 try simp only[vt ko,F,go_sem]
 refine bJ h0 (Du k _) ?_ (fun x7 h0=>?_)<;>try simp only[F,go_sem]
 obtain⟨l8,nP,h0⟩:=bs h0
 have sA:=rA ae nP
 try simp only[go_sem]at sA
 have F:=an sA F
 try simp only[vt nP,F,go_sem]
 refine bJ h0 (Du k _) ?_ (fun x9 h0=>?_)<;>try simp only[F,go_sem]
 obtain⟨df,yj,h0⟩:=bs h0
 have ahe:=rA ae yj
 try simp only[go_sem]at ahe
 have F:=an ahe F
 try simp only[vt yj,F,go_sem]
 refine bJ h0 (Du k _) ?_ (fun bN h0=>?_)<;>try simp only[F,go_sem]
 obtain⟨fO,vD,h0⟩:=bs h0
 have ur:=rA ae vD
 try simp only[go_sem]at ur
 have F:=an ur F
 try simp only[vt vD,F,go_sem]
 refine bJ h0 (Du k _) ?_ (fun bx h0=>?_)<;>try simp only[F,go_sem]
 obtain⟨cA,qb,h0⟩:=bs h0
 have yV:=rA ae qb
 try simp only[go_sem]at yV
 have F:=an yV F
 try simp only[vt qb,F,go_sem]
 refine bJ h0 (Du k _) ?_ (fun cd h0=>?_)<;>try simp only[F,go_sem]
 obtain⟨tf,yk,h0⟩:=bs h0
 have ahf:=rA ae yk
 try simp only[go_sem]at ahf
 have F:=an ahf F
 try simp only[vt yk,F,go_sem]
 refine bJ h0 (Du k _) ?_ (fun fS h0=>?_)<;>try simp only[F,go_sem]
 obtain⟨nC,rP,h0⟩:=bs h0
 have yW:=xU ae rP
 try simp only[go_sem]at yW
 have F:=an yW F
 try simp only[tF rP,adv,aj3,F,go_sem]
 refine aG ?_
 try simp only[F,go_sem]
 refine aj h0 (FV k _) ?_ (fun jw h0=>?_)<;>try simp only[F,go_sem]
 refine A7 F h0 ?_ ?_<;>intro F h0<;>try simp only[F,go_sem]
 obtain rfl:=oi h0
 refine Ag rfl ?_
 try simp only[F,go_sem]
 obtain rfl:=oi h0
 refine Ag rfl ?_
 try simp only[F,go_sem]
 obtain rfl:=oi h0
 refine Ag rfl ?_
 try simp only[F,go_sem]
def Dw.s1:SC:=
 SQ [SQ [RG [wV 106 20 3,wV 107 13 3,wO 108 .lss 3 106 107 3 4 [106,107]],CN 108 .skip (.exit 2)],.block 3 (SQ [.aS [wV 111 0 33,wV 112 1 3,wV 113 2 3,wV 114 20 3,wO 115 .add 3 113 114 3 3,wC 116 106 #[.tmp 111,.tmp 112,.tmp 115] #[33,3,3] 92,wV 117 19 85,wV 118 20 3,wI 119 85 117 118,wD 120 92 119,wO 121 .neq 92 116 120 92 4] [[],[],[],[],[2,3],[0,1,2,3,4],[],[],[6,7],[6,7,8],[0,1,2,3,4,5,6,7,8,
 9]] [111,112,113,114,115,116,117,118,119,120],CN 121 (SQ [RG [oQ 122 (.build 29 #[]) 29,wS 29 8 122 [122],wN 9 0 3,wN 10 0 3,wB 11 false 4],.ret]) .skip]),RG [wV 109 20 3 [20],wK 110 .add 3 109 1 3 3 [109],wG 20 110 3 [110]]]
def Dw.s0:SC:=
 SQ [SQ [RG [wV 55 16 3,wV 56 13 3,wO 57 .lss 3 55 56 3 4 [55,56]],CN 57 .skip (.exit 0)],.block 1 (SQ [RG [wV 60 0 33,wV 61 1 3,wV 62 2 3,wV 63 16 3,wO 64 .add 3 62 63 3 3 [62,63],wC 65 106 #[.tmp 60,.tmp 61,.tmp 64] #[33,3,3] 92 [60,61,64],wS 92 12 65 [65]],RG [wV 66 15 82 [15],oQ 67 (.slice 92 (.tmp 12) (some (.const (.int .i64 8))) (some (.const (.int .i64 31))) none) 82,
 wP 68 66 67 82 82 82 [66,67],wG 15 68 82 [68]]]),RG [wV 58 16 3 [16],wK 59 .add 3 58 1 3 3 [58],wG 16 59 3 [59]]]
def Dw.c:SC:=
 SQ [RG [wA 8 29,wN 9 0 3 [9],wN 10 0 3 [10],wB 11 false 4 [11]],SQ [RG [wV 21 2 3,wK 22 .geq 3 21 602 3 4 [21],wV 23 22 4 [22],gd 23 false (wV 24 3 3),gd 23 false (wK 25 .geq 3 24 60 3 4 [24]),wT 26 23 25 4 [23,25]],CN 26 (SQ [RG [oQ 27 (.build 29 #[]) 29,wS 29 8 27 [27],wN 9 0 3,wN 10 0 3,wB 11 false 4],.ret]) .skip],RG [wV 28 0 33,wV 29 1 3,wV 30 2 3,wC 31 106 #[.tmp 28,.tmp 29,.tmp 30] #[33,3,
 3] 92 [28,29,30],wA 12 92,wS 92 12 31 [31]],RG [wJ 32 92 12 7,wD 33 5 32 [32],wY 34 5 3 33 3 [33],wG 13 34 3 [34]],RG [wD 35 92 12,wU 36 105 35 92 3 [35],wG 14 36 3 [36]],SQ [RG [wJ 37 92 12 0,wD 38 5 37 [37],oQ 39 (.binOp .neq 5 (.tmp 38) (.const (.int .u8 112)) 5) 4 [38],wV 40 39 4 [39],gd 40 false (wV 41 14 3),gd 40 false (wK 42 .eql 3 41 0 3 4 [41]),wT 43 40 42 4 [40,42],wV 44 43 4 [43],
 gd 44 false (wV 45 13 3),gd 44 false (wK 46 .eql 3 45 0 3 4 [45]),wT 47 44 46 4 [44,46],wV 48 47 4 [47],gd 48 false (wV 49 2 3),gd 48 false (wV 50 13 3),gd 48 false (wO 51 .add 3 49 50 3 3 [49,50]),gd 48 false (wK 52 .gtr 3 51 602 3 4 [51]),wT 53 48 52 4 [48,52]],CN 53 (SQ [RG [oQ 54 (.build 29 #[]) 29,wS 29 8 54 [54],wN 9 0 3,wN 10 0 3,wB 11 false 4],.ret]) .skip],
 RG [oQ 15 (.assign (.const (.slice none 0 0))) 82],SQ [RG [wN 16 0 3],.block 0 (.loop Dw.s0)],SQ [RG [wV 69 15 82,wL 70 69 82 3 [69],wK 71 .lss 3 70 16 3 4 [70],wV 72 71 4 [71],gd 72 false (wV 73 15 82),gd 72 false (wL 74 73 82 3 [73]),gd 72 false (wV 75 15 82),gd 72 false (wJ 76 82 75 15 [75]),gd 72 false (wD 77 5 76 [76]),gd 72 false (wY 78 5 3 77 3 [77]),
 gd 72 false (oQ 79 (.binOp .add 3 (.const (.int .i64 16)) (.tmp 78) 3) 3 [78]),gd 72 false (wO 80 .lss 3 74 79 3 4 [74,79]),wT 81 72 80 4 [72,80]],CN 81 (SQ [RG [oQ 82 (.build 29 #[]) 29,wS 29 8 82 [82],wN 9 0 3,wN 10 0 3,wB 11 false 4],.ret]) .skip],RG [wV 84 15 82,wV 85 15 82 [15],wJ 86 82 85 15 [85],wD 87 5 86 [86],wY 88 5 3 87 3 [87],
 oQ 89 (.binOp .add 3 (.const (.int .i64 16)) (.tmp 88) 3) 3 [88],oQ 90 (.slice 82 (.tmp 84) none (some (.tmp 89)) none) 82 [84,89],wU 91 128 90 82 197 [90],wV 83 91 197 [91],wX 92 83 0 29,wX 93 83 1 45 [83],wA 17 29,wS 29 17 92 [92],wG 18 93 45 [93]],SQ [RG [wV 94 18 45 [18],wK 95 .neq 45 94 0 45 4 [94]],CN 95 (SQ [RG [oQ 96 (.build 29 #[]) 29,wS 29 8 96 [96],wN 9 0 3,wN 10 0 3,wB 11 false 4],
 .ret]) .skip],RG [wD 97 29 17,wV 98 3 3 [3],wV 99 14 3,wC 100 47 #[.tmp 97,.tmp 98,.tmp 99] #[29,3,3] 85 [97,98,99],wG 19 100 85 [100]],SQ [RG [wV 101 19 85,wL 102 101 85 3 [101],wV 103 13 3,wO 104 .neq 3 102 103 3 4 [102,103]],CN 104 (SQ [RG [oQ 105 (.build 29 #[]) 29,wS 29 8 105 [105],wN 9 0 3,wN 10 0 3,wB 11 false 4],.ret]) .skip],SQ [RG [wN 20 0 3],.block 2 (.loop Dw.s1)],
 RG [wD 123 29 17 [17],wV 124 13 3 [13],wV 125 14 3 [14],wS 29 8 123 [123],wG 9 124 3 [124],wG 10 125 3 [125],wB 11 true 4],.ret]
def BC.b0 (k:Nat) (l0:(List (Aa 2 (Aa 32 Int)))) (a1:Int) (gR:Int) (x4:Int):((Aa 32 Int)×Int×(List Int))->Option (AN ((Aa 32 Int)×Int×(List Int)) ((List Int)) (Ab×Int×Int×Bool)):=fun s=>match s with
 |(kV,i12,ib)=>
   bif decide (i12<ab x4) then
    (Dt k l0 a1 (ab (gR+i12))).bind fun dp=>
    (cY 1 ib ((dp.l.drop 8).take 23)).bind fun oA=>
    some (.next (dp,ab (i12+1),oA))
   else
    some (.brk ib)
def BC.b1 (k:Nat) (l0:(List (Aa 2 (Aa 32 Int)))) (a1:Int) (gR:Int) (x4:Int) (cJ:(List (Aa 32 Int))):Int->Option (AN (Int) (Unit) (Ab×Int×Int×Bool)):=fun i27=>
 bif decide (i27<ab x4) then
  (Dt k l0 a1 (ab (gR+i27))).bind fun kj=>
  (at? cJ i27).bind fun rJ=>
  bif (!(Aa.eq (fun(x y:Int)=>decide (x=y)) kj rJ)) then
   some (.ret ((⟨(⟨0,0⟩:Entry),0,0,0,(⟨0,0⟩:Entry),ByteArray.empty⟩:Ab),0,0,false))
  else
   some (.next (ab (i27+1)))
 else
  some (.brk ())
def BC.h0 (l0:(List (Aa 2 (Aa 32 Int)))) (a1:Int) (gR:Int) (k3:Int) (x4:Int) (x5:Int):((Aa 32 Int)×Int×(List Int))->St:=fun s=>match s with
 |(kV,i12,ib)=>⟨[(0,.sl 64 (List.map (Aa.c (n:=2) (Aa.c (n:=32) ae)) l0)),(1,.int .i64 a1),(2,.int .i64 gR),(3,.int .i64 k3),(8,.ptr 0 0 0),(12,.ptr 0 1 0),(13,.int .i64 (ab x4)),(14,.int .i64 x5),(15,.loc 0 2 1 0 ib.length ib.length),(16,.int .i64 i12)],[(0,.box ([.int .i64 0,.int .i64 0,.int .i64 0,.int .i64 0,.int .i64 0,.int .i64 0,.int .i64 0,.str ByteArray.empty])),(1,.box (Aa.c (n:=32) ae kV)),(2,.arr 5 1 (List.map ae ib))],[],3,Tryz.f122.ntmps⟩
def BC.x0 (l0:(List (Aa 2 (Aa 32 Int)))) (a1:Int) (gR:Int) (k3:Int) (x4:Int) (x5:Int):(List Int)->St:=fun cA=>⟨[(0,.sl 64 (List.map (Aa.c (n:=2) (Aa.c (n:=32) ae)) l0)),(1,.int .i64 a1),(2,.int .i64 gR),(3,.int .i64 k3),(8,.ptr 0 0 0),(13,.int .i64 (ab x4)),(14,.int .i64 x5),(15,.loc 0 1 1 0 cA.length cA.length)],[(0,.box ([.int .i64 0,.int .i64 0,.int .i64 0,.int .i64 0,.int .i64 0,.int .i64 0,.int .i64 0,.str ByteArray.empty])),(1,.arr 5 1 (List.map ae cA))],[],2,Tryz.f122.ntmps⟩
def BC.h1 (l0:(List (Aa 2 (Aa 32 Int)))) (a1:Int) (gR:Int) (x4:Int) (x5:Int) (bE:Ab×Int) (cJ:(List (Aa 32 Int))):Int->St:=fun i27=>⟨[(0,.sl 64 (List.map (Aa.c (n:=2) (Aa.c (n:=32) ae)) l0)),(1,.int .i64 a1),(2,.int .i64 gR),(8,.ptr 0 0 0),(13,.int .i64 (ab x4)),(14,.int .i64 x5),(17,.ptr 0 1 0),(19,.sl 32 (List.map (Aa.c (n:=32) ae) cJ)),(20,.int .i64 i27)],[(0,.box ([.int .i64 0,.int .i64 0,.int .i64 0,.int .i64 0,.int .i64 0,.int .i64 0,.int .i64 0,.str ByteArray.empty])),(1,.box ([.int .i64 bE.1.At.Ac,.int .i64 bE.1.At.No,.int .i64 bE.1.Kind,.int .i64 bE.1.Day,.int .i64 bE.1.Ap,.int .i64 bE.1.Of.Ac,.int .i64 bE.1.Of.No,.str bE.1.Text]))],[],2,Tryz.f122.ntmps⟩
def BC.x1 (x4:Int) (x5:Int) (bE:Ab×Int):Unit->St:=fun _=>⟨[(8,.ptr 0 0 0),(13,.int .i64 (ab x4)),(14,.int .i64 x5),(17,.ptr 0 1 0)],[(0,.box ([.int .i64 0,.int .i64 0,.int .i64 0,.int .i64 0,.int .i64 0,.int .i64 0,.int .i64 0,.str ByteArray.empty])),(1,.box ([.int .i64 bE.1.At.Ac,.int .i64 bE.1.At.No,.int .i64 bE.1.Kind,.int .i64 bE.1.Day,.int .i64 bE.1.Ap,.int .i64 bE.1.Of.Ac,.int .i64 bE.1.Of.No,.str bE.1.Text]))],[],2,Tryz.f122.ntmps⟩
def BC (k:Nat) (l0:(List (Aa 2 (Aa 32 Int)))) (a1:Int) (gR:Int) (k3:Int):Option (Ab×Int×Int×Bool):=
 bif (!decide ((602:Int)<=gR)) then
  bif decide ((60:Int)<=k3) then
   some ((⟨(⟨0,0⟩:Entry),0,0,0,(⟨0,0⟩:Entry),ByteArray.empty⟩:Ab),0,0,false)
  else
   (Dt k l0 a1 gR).bind fun x3=>
   (x3.at? 7).bind fun x4=>
   (DY k x3).bind fun x5=>
   (x3.at? 0).bind fun x6=>
   bif decide (x6=(112:Int)) then
    bif (!decide (x5=(0:Int))) then
     bif (!decide (ab x4=(0:Int))) then
      bif decide ((602:Int)<ab (gR+(ab x4))) then
       some ((⟨(⟨0,0⟩:Entry),0,0,0,(⟨0,0⟩:Entry),ByteArray.empty⟩:Ab),0,0,false)
      else
       (ai (BC.b0 k l0 a1 gR x4) k (x3,0,[])).bind fun tz=>match tz with
       |.next _=>none
       |.ret v_=>some v_
       |.brk cA=>
        bif (!decide (((cA.length:Nat):Int)<(16:Int))) then
         (at? cA 15).bind fun cT=>
         bif decide (((cA.length:Nat):Int)<ab (16+(ab cT))) then
          some ((⟨(⟨0,0⟩:Entry),0,0,0,(⟨0,0⟩:Entry),ByteArray.empty⟩:Ab),0,0,false)
         else
          (uT cA.length (ab (16+(ab cT)))).bind fun _=>
          (Eg k (cA.take ((ab (16+(ab cT))).toNat))).bind fun bE=>
          bif (!decide (bE.2=(0:Int))) then
           some ((⟨(⟨0,0⟩:Entry),0,0,0,(⟨0,0⟩:Entry),ByteArray.empty⟩:Ab),0,0,false)
          else
           (Cn k bE.1 k3 x5).bind fun cJ=>
           bif (!decide ((cJ.length:Int)=ab x4)) then
            some ((⟨(⟨0,0⟩:Entry),0,0,0,(⟨0,0⟩:Entry),ByteArray.empty⟩:Ab),0,0,false)
           else
            (ai (BC.b1 k l0 a1 gR x4 cJ) k 0).bind fun r32=>match r32 with
            |.next _=>none
            |.ret v_=>some v_
            |.brk _=>
             some (bE.1,ab x4,x5,true)
        else
         some ((⟨(⟨0,0⟩:Entry),0,0,0,(⟨0,0⟩:Entry),ByteArray.empty⟩:Ab),0,0,false)
     else
      some ((⟨(⟨0,0⟩:Entry),0,0,0,(⟨0,0⟩:Entry),ByteArray.empty⟩:Ab),0,0,false)
    else
     some ((⟨(⟨0,0⟩:Entry),0,0,0,(⟨0,0⟩:Entry),ByteArray.empty⟩:Ab),0,0,false)
   else
    some ((⟨(⟨0,0⟩:Entry),0,0,0,(⟨0,0⟩:Entry),ByteArray.empty⟩:Ab),0,0,false)
 else
  some ((⟨(⟨0,0⟩:Entry),0,0,0,(⟨0,0⟩:Entry),ByteArray.empty⟩:Ab),0,0,false)
theorem Jq (k:Nat) (l0:(List (Aa 2 (Aa 32 Int)))) (a1:Int) (gR:Int) (k3:Int) (r:Ab×Int×Int×Bool) (h0:BC k l0 a1 gR k3=some r):Ay Tryz.prog 122 [.sl 64 (List.map (Aa.c (n:=2) (Aa.c (n:=32) ae)) l0),.int .i64 a1,.int .i64 gR,.int .i64 k3] (fun y=>y=.aw [.agg (Ab.c r.1),.int .i64 r.2.1,.int .i64 r.2.2.1,.bool r.2.2.2]):=by
 refine PB Tryz.f122 Dw.c [.cell 8 29,.tmp 9,.tmp 10,.tmp 11] ?_
 simp only[BC]at h0
 try simp only[Dw.c,go_sem]
 refine BS h0 ?_ ?_<;>intro c1 h0<;>have F:=c1<;>try simp only[F,go_sem]
 refine AF F h0 ?_ ?_<;>intro F h0<;>try simp only[F,go_sem]
 obtain rfl:=oi h0
 refine Ag rfl ?_
 try simp only[F,go_sem]
 refine aj h0 (Fk k _ _ _) ?_ (fun x3 h0=>?_)<;>try simp only[F,go_sem]
 obtain⟨x4,bF,h0⟩:=bs h0
 have fF:=Ao.bh gO (Ao.self gQ x3) bF
 have jP:=fF.2
 try simp only[AA,AB,go_sem]at jP
 have F:=an (aq bF) (an jP F)
 try simp only[F,go_sem]
 refine aj h0 (FX k _) ?_ (fun x5 h0=>?_)<;>try simp only[F,go_sem]
 obtain⟨x6,dB,h0⟩:=bs h0
 have nN:=Ao.bh gO (Ao.self gQ x3) dB
 have mg:=nN.2
 try simp only[AA,AB,go_sem]at mg
 have F:=an (aq dB) (an mg F)
 try simp only[F,go_sem]
 refine AF F h0 ?_ ?_<;>intro F h0<;>try simp only[F,go_sem]
 refine A7 F h0 ?_ ?_<;>intro F h0<;>try simp only[F,go_sem]
 refine A7 F h0 ?_ ?_<;>intro F h0<;>try simp only[F,go_sem]
 refine AF F h0 ?_ ?_<;>intro F h0<;>try simp only[F,go_sem]
 obtain rfl:=oi h0
 refine Ag rfl ?_
 try simp only[F,go_sem]
 obtain⟨tz,aa9,h0⟩:=bs h0
 refine A5 aa9 (BC.h0 l0 a1 gR k3 x4 x5) (BC.x0 l0 a1 gR k3 x4 x5) ?_ ?_ ?_
 refine Al.go [0,1,2,3,8,12,13,14,15,16] [0,224,640] rfl ?_
 try simp only[BC.h0,F,go_sem]
 rintro⟨kV,i12,ib⟩ bO Bd Ba h1 az ax bg
 refine rS ?_
 simp only[BC.b0]at h1
 try simp only[Dw.s0,BC.h0,F,go_sem]
 refine AF F h1 ?_ ?_<;>intro F h1<;>try simp only[F,go_sem]
 refine aj h1 (Fk k _ _ _) ?_ (fun dp h1=>?_)<;>try simp only[F,go_sem]
 have F:=an (@id (Int.toNat 8=8) rfl) (an (@id (Int.toNat 31=31) rfl) (an (@id (bounds 32 (some (.int .i64 8)) (some (.int .i64 31))=some (8,31)) rfl) (an (@id (31 - 8=23) rfl) F)))
 try simp only[F,go_sem]
 obtain⟨oA,vE,h1⟩:=bs h1
 have oO:=fw ae vE
 try simp only[F,go_sem]at oO
 have F:=an oO F
 try simp only[aiA,F,go_sem]
 refine Ax (az _ _ (oi h1).symm (Al.go [0,1,2,3,8,12,13,14,15,16] [0,1,2] rfl ?_))
 try simp only[BC.h0,F,go_sem]
 refine Ax (ax _ _ (oi h1).symm (Al.go [0,1,2,3,8,13,14,15] [0,2] rfl ?_))
 try simp only[BC.x0,F,go_sem]
 rintro cA aA
 subst aA
 simp only at h0
 refine rS ?_
 try simp only[BC.x0,F,go_sem]
 refine A7 F h0 ?_ ?_<;>intro F h0<;>try simp only[F,go_sem]
 obtain⟨cT,bW,h0⟩:=bs h0
 have F:=an (aI bW) (an (aH ae bW) F)
 try simp only[F,go_sem]
 refine AF F h0 ?_ ?_<;>intro F h0<;>try simp only[F,go_sem]
 obtain rfl:=oi h0
 refine Ag rfl ?_
 try simp only[F,go_sem]
 obtain⟨u22,ale,h0⟩:=bs h0
 have aiQ:=ao2 ale
 try simp only[go_sem]at aiQ
 have F:=an aiQ F
 try simp only[ao1 ale,F,go_sem]
 refine zqT [1] h0 (Jd k _) ?_ fun bE h0=>?_
 try simp only[um ae cA ((ab (16+(ab cT))).toNat),F,go_sem]
 try simp only[F,go_sem]
 refine A7 F h0 ?_ ?_<;>intro F h0<;>try simp only[F,go_sem]
 obtain rfl:=oi h0
 refine Ag rfl ?_
 try simp only[F,go_sem]
 refine aj h0 (Io k _ _ _) ?_ (fun cJ h0=>?_)<;>try simp only[F,go_sem]
 refine A7 F h0 ?_ ?_<;>intro F h0<;>try simp only[F,go_sem]
 obtain rfl:=oi h0
 refine Ag rfl ?_
 try simp only[F,go_sem]
 obtain⟨r32,asx,h0⟩:=bs h0
 refine A5 asx (BC.h1 l0 a1 gR x4 x5 bE cJ) (BC.x1 x4 x5 bE) ?_ ?_ ?_
 refine Al.go [0,1,2,8,13,14,17,19,20] [0,386] rfl ?_
 try simp only[BC.h1,F,go_sem]
 rintro i27 bO Bd Ba h1 az ax bg
 refine rS ?_
 simp only[BC.b1]at h1
 try simp only[Dw.s1,BC.h1,F,go_sem]
 refine AF F h1 ?_ ?_<;>intro F h1<;>try simp only[F,go_sem]
 refine AL AE aO 1000 ?_
 try simp only[F,go_sem]
 refine bJ h1 (Fk k _ _ _) ?_ (fun kj h1=>?_)<;>try simp only[F,go_sem]
 obtain⟨rJ,ali,h1⟩:=bs h1
 have F:=an (aI ali) (an (aH (Aa.c (n:=32) ae) ali) F)
 try simp only[F,go_sem]
 refine aG ?_
 try simp only[F,go_sem]
 refine A7 F h1 ?_ ?_<;>intro F h1<;>try simp only[F,go_sem]
 obtain rfl:=bg _ (oi h1).symm
 simp only at h0
 obtain rfl:=oi h0
 refine Ag rfl ?_
 try simp only[F,go_sem]
 refine Ax (az _ _ (oi h1).symm (Al.go [0,1,2,8,13,14,17,19,20] [0,1] rfl ?_))
 try simp only[BC.h1,F,go_sem]
 refine Ax (ax _ _ (oi h1).symm (Al.go [8,13,14,17] [0,1] rfl ?_))
 try simp only[BC.x1,F,go_sem]
 rintro _ aA
 subst aA
 simp only at h0
 refine rS ?_
 try simp only[BC.x1,F,go_sem]
 obtain rfl:=oi h0
 refine Ag rfl ?_
 try simp only[F,go_sem]
 obtain rfl:=oi h0
 refine Ag rfl ?_
 try simp only[F,go_sem]
 obtain rfl:=oi h0
 refine Ag rfl ?_
 try simp only[F,go_sem]
 obtain rfl:=oi h0
 refine Ag rfl ?_
 try simp only[F,go_sem]
 obtain rfl:=oi h0
 refine Ag rfl ?_
 try simp only[F,go_sem]
 obtain rfl:=oi h0
 refine Ag rfl ?_
 try simp only[F,go_sem]
def Ew.s0:SC:=
 .block 1 (SQ [RG [wV 43 0 33,wV 44 1 3,wF 45 151 8 2,wD 46 3 45 [45],wF 47 151 8 1,wD 48 38 47 [47],wL 49 48 38 3 [48],wC 50 122 #[.tmp 43,.tmp 44,.tmp 46,.tmp 49] #[33,3,3,3] 191 [43,44,46,49],wV 42 50 191 [50],wX 51 42 0 29,wX 52 42 1 3,wX 53 42 2 3,wX 54 42 3 4 [42],wA 11 29,wS 29 11 51 [51],wG 12 52 3 [52],wG 13 53 3 [53],wG 14 54 4 [54]],SQ [RG [wV 55 14 4 [14],wQ 56 55 4 [55],
 wV 57 56 4 [56],gd 57 false (wV 58 13 3),gd 57 false (wV 59 9 3 [9]),gd 57 false (wO 60 .lss 3 58 59 3 4 [58,59]),wT 61 57 60 4 [57,60],wV 62 61 4 [61],gd 62 false (wV 63 10 38),gd 62 false (wF 64 29 11 0),gd 62 false (wD 65 27 64 [64]),gd 62 false (wW 66 109 63 65 38 27 3 [63,65]),gd 62 false (wK 67 .geq 3 66 0 3 4 [66]),wT 68 62 67 4 [62,67]],CN 68 (.exit 0) .skip],RG [wV 70 10 38 [10],
 wD 71 29 11,wW 72 91 70 71 38 29 159 [70,71],wV 69 72 159 [72],wX 73 69 0 38,wX 74 69 1 45 [69],wG 15 73 38 [73],wG 16 74 45 [74]],SQ [RG [wV 75 16 45 [16],wK 76 .neq 45 75 0 45 4 [75]],CN 76 (.exit 0) .skip],RG [wV 77 15 38 [15],wG 10 77 38 [77]],RG [wF 78 151 8 1,wD 79 38 78 [78],wD 80 29 11 [11],oQ 81 (.buildSlice 38 1 #[(0,.tmp 80)]) 38 [80],wP 82 79 81 38 38 38 [79,81],wF 83 151 8 1,
 wS 38 83 82 [82,83]],RG [wF 84 151 8 2,wD 85 3 84 [84],wV 86 12 3 [12],wO 87 .add 3 85 86 3 3 [85,86],wF 88 151 8 2,wS 3 88 87 [87,88]],RG [wV 89 13 3 [13],wG 9 89 3 [89]]])
def Ew.c:SC:=
 SQ [RG [wA 4 151],RG [wV 17 0 33,wV 18 1 3,wC 19 106 #[.tmp 17,.tmp 18,.const (.int .i64 0)] #[33,3,3] 92 [17,18],wA 5 92,wS 92 5 19 [19]],RG [wD 20 92 5,wU 21 105 20 92 3 [20],wG 6 21 3 [21]],RG [oQ 22 (.slice 92 (.tmp 5) (some (.const (.int .i64 4))) (some (.const (.int .i64 6))) none) 82,wU 23 121 22 82 3 [22],wG 7 23 3 [23]],SQ [.aS [wJ 24 92 5 0,wD 25 5 24,
 oQ 26 (.binOp .neq 5 (.tmp 25) (.const (.int .u8 104)) 5) 4,wV 27 26 4,gd 27 false (wV 28 6 3),gd 27 false (wK 29 .eql 3 28 0 3 4),wT 30 27 29 4,wV 31 30 4,gd 31 false (wD 32 92 5),gd 31 false (wV 33 6 3),gd 31 false (wV 34 7 3),gd 31 false (wW 35 50 33 34 3 3 92),gd 31 false (wO 36 .neq 92 32 35 92 4),wT 37 31 36 4] [[],[0],[0,1],[0,1,2],[0,1,2,3],[0,1,2,3,4],[0,1,2,3,4,5],[0,1,2,3,4,5,6],[0,1,2,
 3,4,5,6,7],[0,1,2,3,4,5,6,7],[0,1,2,3,4,5,6,7],[0,1,2,3,4,5,6,7,9,10],[0,1,2,3,4,5,6,7,8,9,10,11],[0,1,2,3,4,5,6,7,8,9,10,11,12]] [5,24,25,26,27,28,29,30,31,32,33,34,35,36],CN 37 (SQ [RG [oQ 38 (.build 151 #[]) 151,wS 151 4 38 [38]],.ret]) .skip],RG [wV 39 6 3,oQ 40 (.build 151 #[(0,.tmp 39),(2,.const (.int .i64 1))]) 151 [39],wA 8 151,wS 151 8 40 [40]],RG [wV 41 6 3 [6],wG 9 41 3 [41]],
 RG [oQ 10 (.assign (.const (.slice none 0 0))) 38],.block 0 (.loop Ew.s0),SQ [RG [wF 90 151 8 1,wD 91 38 90 [90],wL 92 91 38 3 [91],wV 93 7 3 [7],wO 94 .lss 3 92 93 3 4 [92,93]],CN 94 (SQ [RG [oQ 95 (.build 151 #[]) 151,wS 151 4 95 [95]],.ret]) .skip],RG [wD 96 151 8 [8],wS 151 4 96 [96]],.ret]
def BG.b0 (k:Nat) (l0:(List (Aa 2 (Aa 32 Int)))) (a1:Int):(Int×(List Ab)×Int×(List Ab))->Option (AN (Int×(List Ab)×Int×(List Ab)) (Int×(List Ab)) (CH)):=fun s=>match s with
 |(i9,df,i11,fO)=>
   (BC k l0 a1 i11 ((fO.length:Nat):Int)).bind fun cd=>
   bif cd.2.2.2 then
    bif (!decide (cd.2.2.1<i9)) then
     (BZ k df cd.1.At).bind fun mi=>
     bif decide ((0:Int)<=mi) then
      some (.brk (i11,fO))
     else
      (Cb k df cd.1).bind fun cT=>
      bif (!decide (cT.2=(0:Int))) then
       some (.brk (i11,fO))
      else
       (eO 72 fO cd.1).bind fun l22=>
       some (.next (cd.2.2.1,cT.1,ab (i11+cd.2.1),l22))
    else
     some (.brk (i11,fO))
   else
    some (.brk (i11,fO))
def BG.h0 (l0:(List (Aa 2 (Aa 32 Int)))) (a1:Int) (x2:Int) (x3:Int):(Int×(List Ab)×Int×(List Ab))->St:=fun s=>match s with
 |(i9,df,i11,fO)=>⟨[(0,.sl 64 (List.map (Aa.c (n:=2) (Aa.c (n:=32) ae)) l0)),(1,.int .i64 a1),(4,.ptr 0 0 0),(7,.int .i64 x3),(8,.ptr 0 2 0),(9,.int .i64 i9),(10,.sl 8 (List.map Ab.c df))],[(0,.box ([.int .i64 0,.loc 0 1 8 0 0 0,.int .i64 0])),(1,.arr 29 8 (List.map Ab.c [])),(2,.box ([.int .i64 x2,.loc 0 3 8 0 fO.length fO.length,.int .i64 i11])),(3,.arr 29 8 (List.map Ab.c fO))],[],4,Tryz.f104.ntmps⟩
def BG.x0 (x2:Int) (x3:Int):(Int×(List Ab))->St:=fun s=>match s with
 |(i13,cA)=>⟨[(4,.ptr 0 0 0),(7,.int .i64 x3),(8,.ptr 0 2 0)],[(0,.box ([.int .i64 0,.loc 0 1 8 0 0 0,.int .i64 0])),(1,.arr 29 8 (List.map Ab.c [])),(2,.box ([.int .i64 x2,.loc 0 3 8 0 cA.length cA.length,.int .i64 i13])),(3,.arr 29 8 (List.map Ab.c cA))],[],4,Tryz.f104.ntmps⟩
def BG (k:Nat) (l0:(List (Aa 2 (Aa 32 Int)))) (a1:Int):Option (CH):=
 (Dt k l0 a1 0).bind fun x1=>
 (DY k x1).bind fun x2=>
 (BN k ((x1.l.drop 4).take 2)).bind fun x3=>
 (x1.at? 0).bind fun x4=>
 bif decide (x4=(104:Int)) then
  bif (!decide (x2=(0:Int))) then
   (Eh k x2 x3).bind fun x7=>
   bif (!(Aa.eq (fun(x y:Int)=>decide (x=y)) x1 x7)) then
    some (⟨0,[],0⟩:CH)
   else
    (ai (BG.b0 k l0 a1) k (x2,[],1,[])).bind fun r23=>match r23 with
    |.next _=>none
    |.ret v_=>some v_
    |.brk (i13,cA)=>
     bif decide (((cA.length:Nat):Int)<x3) then
      some (⟨0,[],0⟩:CH)
     else
      some (⟨x2,cA,i13⟩:CH)
  else
   some (⟨0,[],0⟩:CH)
 else
  some (⟨0,[],0⟩:CH)
theorem Ij (k:Nat) (l0:(List (Aa 2 (Aa 32 Int)))) (a1:Int) (r:CH) (h0:BG k l0 a1=some r):Ay Tryz.prog 104 [.sl 64 (List.map (Aa.c (n:=2) (Aa.c (n:=32) ae)) l0),.int .i64 a1] (fun y=>y=.agg (CH.c r)):=by
 refine PB Tryz.f104 Ew.c [.cell 4 151] ?_
 simp only[BG]at h0
 try simp only[Ew.c,go_sem]
 refine aj h0 (Fk k _ _ _) ?_ (fun x1 h0=>?_)<;>try simp only[go_sem]
 refine aj h0 (FX k _) ?_ (fun x2 h0=>?_)<;>try simp only[go_sem]
 have F:=an (@id (Int.toNat 4=4) rfl) (an (@id (Int.toNat 6=6) rfl) (an (@id (bounds 32 (some (.int .i64 4)) (some (.int .i64 6))=some (4,6)) rfl) ((@id (6 - 4=2) rfl))))
 try simp only[F,go_sem]
 refine zqL h0 (Du k _) ?_ (fun x3 h0=>?_)
 try simp only[aiB,aiC,F,go_sem]
 try simp only[F,go_sem]
 refine AL AE aO 1000 ?_
 try simp only[F,go_sem]
 obtain⟨x4,bF,h0⟩:=bs h0
 have fF:=Ao.bh gO (Ao.self gQ x1) bF
 have jP:=fF.2
 try simp only[AA,AB,go_sem]at jP
 have F:=an (aq bF) (an jP F)
 try simp only[F,go_sem]
 refine DF F h0 ?_ ?_<;>intro F h0<;>try simp only[F,go_sem]
 refine Fu F h0 ?_ ?_<;>intro F h0<;>try simp only[F,go_sem]
 refine bJ h0 (Ia k _ _) ?_ (fun x7 h0=>?_)<;>try simp only[F,go_sem]
 refine aG ?_
 try simp only[F,go_sem]
 refine A7 F h0 ?_ ?_<;>intro F h0<;>try simp only[F,go_sem]
 obtain rfl:=oi h0
 refine Ag rfl ?_
 try simp only[F,go_sem]
 obtain⟨r23,afG,h0⟩:=bs h0
 refine A5 afG (BG.h0 l0 a1 x2 x3) (BG.x0 x2 x3) ?_ ?_ ?_
 refine Al.trans (Al.fz 512 rfl (fun _ h=>by cases h)) ?_
 refine Al.go [0,1,4,7,8,9,10] [0,1,448,464] rfl ?_
 try simp only[BG.h0,F,go_sem]
 rintro⟨i9,df,i11,fO⟩ bO Bd Ba h1 az ax bg
 refine rS ?_
 simp only[BG.b0]at h1
 try simp only[Ew.s0,BG.h0,F,go_sem]
 refine aj h1 (Jq k _ _ _ _) ?_ (fun cd h1=>?_)<;>try simp only[F,go_sem]
 refine AF F h1 ?_ ?_<;>intro F h1<;>try simp only[F,go_sem]
 refine A7 F h1 ?_ ?_<;>intro F h1<;>try simp only[F,go_sem]
 refine aj h1 (Im k _ _) ?_ (fun mi h1=>?_)<;>try simp only[F,go_sem]
 refine AF F h1 ?_ ?_<;>intro F h1<;>try simp only[F,go_sem]
 refine Ax (ax _ _ (oi h1).symm (Al.go [4,7,8] [0,1,2,3] rfl ?_))
 try simp only[BG.x0,F,go_sem]
 refine aj h1 (F2 k _ _) ?_ (fun cT h1=>?_)<;>try simp only[F,go_sem]
 refine A7 F h1 ?_ ?_<;>intro F h1<;>try simp only[F,go_sem]
 refine Ax (ax _ _ (oi h1).symm (Al.go [4,7,8] [0,1,2,3] rfl ?_))
 try simp only[BG.x0,F,go_sem]
 obtain⟨l22,ac7,h1⟩:=bs h1
 have akW:=pu Ab.c ac7
 try simp only[F,go_sem]at akW
 have F:=an akW F
 try simp only[F,go_sem]
 refine Ax (az _ _ (oi h1).symm (Al.go [0,1,4,7,8,9,10] [0,1,2,3] rfl ?_))
 try simp only[BG.h0,F,go_sem]
 refine Ax (ax _ _ (oi h1).symm (Al.go [4,7,8] [0,1,2,3] rfl ?_))
 try simp only[BG.x0,F,go_sem]
 refine Ax (ax _ _ (oi h1).symm (Al.go [4,7,8] [0,1,2,3] rfl ?_))
 try simp only[BG.x0,F,go_sem]
 rintro⟨i13,cA⟩ aA
 subst aA
 simp only at h0
 refine rS ?_
 try simp only[BG.x0,F,go_sem]
 refine AF F h0 ?_ ?_<;>intro F h0<;>try simp only[F,go_sem]
 obtain rfl:=oi h0
 refine Ag rfl ?_
 try simp only[F,go_sem]
 obtain rfl:=oi h0
 refine Ag rfl ?_
 try simp only[F,go_sem]
 refine aG ?_
 try simp only[F,go_sem]
 obtain rfl:=oi h0
 refine Ag rfl ?_
 try simp only[F,go_sem]
 refine aG ?_
 try simp only[F,go_sem]
 obtain rfl:=oi h0
 refine Ag rfl ?_
 try simp only[F,go_sem]
def HT.c:SC:=
 SQ [RG [wN 2 0 3 [2],wA 3 151,wB 4 false 4 [4]],RG [wV 7 0 33,wC 8 104 #[.tmp 7,.const (.int .i64 0)] #[33,3] 151 [7],wA 5 151,wS 151 5 8 [8]],RG [wV 9 0 33 [0],wC 10 104 #[.tmp 9,.const (.int .i64 1)] #[33,3] 151 [9],wA 6 151,wS 151 6 10 [10]],SQ [RG [wF 11 151 5 0,wD 12 3 11 [11],wK 13 .eql 3 12 0 3 4 [12],wV 14 13 4 [13],gd 14 true (wF 15 151 6 0),gd 14 true (wD 16 3 15 [15]),
 gd 14 true (wK 17 .eql 3 16 0 3 4 [16]),wZ 18 14 17 4 [14,17]],CN 18 (SQ [RG [oQ 19 (.build 151 #[]) 151,wN 2 0 3,wS 151 3 19 [19],wB 4 false 4],.ret]) .skip],SQ [RG [wF 20 151 6 0,wD 21 3 20 [20],wF 22 151 5 0,wD 23 3 22 [22],wO 24 .gtr 3 21 23 3 4 [21,23]],CN 24 (SQ [.aS [wD 25 151 6,wN 2 1 3,wS 151 3 25,wB 4 true 4] [[],[],[0,1],[0,1,2]] [6,25],.ret]) .skip],.aS [wD 26 151 5,wN 2 0 3,
 wS 151 3 26,wB 4 true 4] [[],[],[0,1],[0,1,2]] [5,26],.ret]
def Em (k:Nat) (l0:(List (Aa 2 (Aa 32 Int)))):Option (Int×CH×Bool):=
 (BG k l0 0).bind fun x1=>
 (BG k l0 1).bind fun x2=>
 bif decide (x1.Aq=(0:Int)) then
  bif decide (x2.Aq=(0:Int)) then
   some (0,(⟨0,[],0⟩:CH),false)
  else
   bif decide (x1.Aq<x2.Aq) then
    some (1,x2,true)
   else
    some (0,x1,true)
 else
  bif decide (x1.Aq<x2.Aq) then
   some (1,x2,true)
  else
   some (0,x1,true)
theorem Ip (k:Nat) (l0:(List (Aa 2 (Aa 32 Int)))) (r:Int×CH×Bool) (h0:Em k l0=some r):Ay Tryz.prog 82 [.sl 64 (List.map (Aa.c (n:=2) (Aa.c (n:=32) ae)) l0)] (fun y=>y=.aw [.int .i64 r.1,.agg (CH.c r.2.1),.bool r.2.2]):=by
 refine PB Tryz.f82 HT.c [.tmp 2,.cell 3 151,.tmp 4] ?_
 simp only[Em]at h0
 try simp only[HT.c,go_sem]
 refine aj h0 (Ij k _ _) ?_ (fun x1 h0=>?_)<;>try simp only[go_sem]
 refine aj h0 (Ij k _ _) ?_ (fun x2 h0=>?_)<;>try simp only[go_sem]
 refine AP h0 ?_ ?_<;>intro c3 h0<;>have F:=c3<;>try simp only[F,go_sem]
 refine AF F h0 ?_ ?_<;>intro F h0<;>try simp only[F,go_sem]
 obtain rfl:=oi h0
 refine Ag rfl ?_
 try simp only[F,go_sem]
 refine AF F h0 ?_ ?_<;>intro F h0<;>try simp only[F,go_sem]
 refine AL AE aO 1000 ?_
 try simp only[F,go_sem]
 refine aG ?_
 try simp only[F,go_sem]
 obtain rfl:=oi h0
 refine Ag rfl ?_
 try simp only[F,go_sem]
 refine AL AE aO 1000 ?_
 try simp only[F,go_sem]
 refine aG ?_
 try simp only[F,go_sem]
 obtain rfl:=oi h0
 refine Ag rfl ?_
 try simp only[F,go_sem]
 refine AF F h0 ?_ ?_<;>intro F h0<;>try simp only[F,go_sem]
 refine AL AE aO 1000 ?_
 try simp only[F,go_sem]
 refine aG ?_
 try simp only[F,go_sem]
 obtain rfl:=oi h0
 refine Ag rfl ?_
 try simp only[F,go_sem]
 refine AL AE aO 1000 ?_
 try simp only[F,go_sem]
 refine aG ?_
 try simp only[F,go_sem]
 obtain rfl:=oi h0
 refine Ag rfl ?_
 try simp only[F,go_sem]
def EZ.s0:SC:=
 SQ [SQ [RG [wV 5 4 3,wV 6 0 38,wL 7 6 38 3 [6],wO 8 .lss 3 5 7 3 4 [5,7]],CN 8 .skip (.exit 0)],.block 1 (RG [wV 12 3 38 [3],wV 13 0 38,wV 14 4 3,wI 15 38 13 14 [13,14],wD 16 29 15 [15],wW 17 91 12 16 38 29 159 [12,16],wV 11 17 159 [17],wX 18 11 0 38,wX 19 11 1 45 [11,19],wG 3 18 38 [18]]),RG [wV 9 4 3 [4],wK 10 .add 3 9 1 3 3 [9],wG 4 10 3 [10]]]
def EZ.c:SC:=
 SQ [RG [wA 2 40],RG [oQ 3 (.assign (.const (.slice none 0 0))) 38],SQ [RG [wN 4 0 3],.block 0 (.loop EZ.s0)],RG [wV 20 3 38 [3],oQ 21 (.build 40 #[(0,.tmp 20)]) 40 [20],wS 40 2 21 [21]],.ret]
def Cm.b0 (k:Nat) (l0:(List Ab)):((List Ab)×Int)->Option (AN ((List Ab)×Int) ((List Ab)) (Ak)):=fun s=>match s with
 |(l1,i2)=>
   bif decide (i2<(l0.length:Int)) then
    (at? l0 i2).bind fun x5=>
    (Cb k l1 x5).bind fun x6=>
    some (.next (x6.1,ab (i2+1)))
   else
    some (.brk l1)
def Cm.h0 (l0:(List Ab)):((List Ab)×Int)->St:=fun s=>match s with
 |(l1,i2)=>⟨[(0,.sl 8 (List.map Ab.c l0)),(2,.ptr 0 0 0),(3,.sl 8 (List.map Ab.c l1)),(4,.int .i64 i2)],[(0,.box ([.loc 0 1 8 0 0 0])),(1,.arr 29 8 (List.map Ab.c []))],[],2,Tryz.f83.ntmps⟩
def Cm.x0:(List Ab)->St:=fun l3=>⟨[(2,.ptr 0 0 0),(3,.sl 8 (List.map Ab.c l3))],[(0,.box ([.loc 0 1 8 0 0 0])),(1,.arr 29 8 (List.map Ab.c []))],[],2,Tryz.f83.ntmps⟩
def Cm (k:Nat) (l0:(List Ab)):Option (Ak):=
 (ai (Cm.b0 k l0) k ([],0)).bind fun r7=>match r7 with
 |.next _=>none
 |.ret v_=>some v_
 |.brk l3=>
  some (⟨l3⟩:Ak)
theorem Ik (k:Nat) (l0:(List Ab)) (r:Ak) (h0:Cm k l0=some r):Ay Tryz.prog 83 [.sl 8 (List.map Ab.c l0)] (fun y=>y=.agg (Ak.c r)):=by
 refine PB Tryz.f83 EZ.c [.cell 2 40] ?_
 simp only[Cm]at h0
 try simp only[EZ.c,go_sem]
 obtain⟨r7,lf,h0⟩:=bs h0
 refine A5 lf (Cm.h0 l0) (Cm.x0) ?_ ?_ ?_
 refine Al.trans (Al.fz 16 rfl (fun _ h=>by cases h)) ?_
 refine Al.go [0,2,3,4] [0,1] rfl ?_
 try simp only[Cm.h0,go_sem]
 rintro⟨l1,i2⟩ bO Bd Ba h1 az ax bg
 refine rS ?_
 simp only[Cm.b0]at h1
 try simp only[EZ.s0,Cm.h0,go_sem]
 refine AP h1 ?_ ?_<;>intro c4 h1<;>have F:=c4<;>try simp only[F,go_sem]
 obtain⟨x5,cn,h1⟩:=bs h1
 have F:=an (aI cn) (an (aH Ab.c cn) F)
 try simp only[F,go_sem]
 refine aj h1 (F2 k _ _) ?_ (fun x6 h1=>?_)<;>try simp only[F,go_sem]
 refine Ax (az _ _ (oi h1).symm (Al.go [0,2,3,4] [0,1] rfl ?_))
 try simp only[Cm.h0,F,go_sem]
 refine Ax (ax _ _ (oi h1).symm (Al.go [2,3] [0,1] rfl ?_))
 try simp only[Cm.x0,F,go_sem]
 rintro l3 aA
 subst aA
 simp only at h0
 refine rS ?_
 try simp only[Cm.x0,go_sem]
 obtain rfl:=oi h0
 refine Ag rfl ?_
 try simp only[go_sem]
def E3.s0:SC:=
 SQ [SQ [RG [wV 10 8 3,wK 11 .lss 3 10 602 3 4 [10]],CN 11 .skip (.exit 0)],.block 1 (RG [wV 14 7 3 [7],wV 15 0 33,wV 16 1 3,wV 17 8 3,wC 18 106 #[.tmp 15,.tmp 16,.tmp 17] #[33,3,3] 92 [15,16,17],wU 19 105 18 92 3 [18],oQ 20 (.call ⟨.builtin .max,#[.tmp 14,.tmp 19],#[3,3]⟩) 3 [14,19],wG 7 20 3 [20]]),RG [wV 12 8 3 [8],wK 13 .add 3 12 1 3 3 [12],wG 8 13 3 [13]]]
def E3.c:SC:=
 SQ [RG [wN 6 0 3 [6]],RG [wN 7 0 3],SQ [RG [wV 9 2 3 [2],wG 8 9 3 [9]],.block 0 (.loop E3.s0)],RG [wV 21 7 3 [7],wG 6 21 3 [21]],.ret]
def BM.b0 (k:Nat) (l0:(List (Aa 2 (Aa 32 Int)))) (a1:Int):(Int×Int)->Option (AN (Int×Int) (Int) (Int)):=fun s=>match s with
 |(i1,i2)=>
   bif decide (i2<(602:Int)) then
    (Dt k l0 a1 i2).bind fun x5=>
    (DY k x5).bind fun x6=>
    some (.next (max i1 x6,ab (i2+1)))
   else
    some (.brk i1)
def BM.h0 (l0:(List (Aa 2 (Aa 32 Int)))) (a1:Int):(Int×Int)->St:=fun s=>match s with
 |(i1,i2)=>⟨[(0,.sl 64 (List.map (Aa.c (n:=2) (Aa.c (n:=32) ae)) l0)),(1,.int .i64 a1),(7,.int .i64 i1),(8,.int .i64 i2)],[],[],1,Tryz.f84.ntmps⟩
def BM.x0:Int->St:=fun i3=>⟨[(7,.int .i64 i3)],[],[],1,Tryz.f84.ntmps⟩
def BM (k:Nat) (l0:(List (Aa 2 (Aa 32 Int)))) (a1:Int) (bc:Int):Option (Int):=
 (ai (BM.b0 k l0 a1) k (0,bc)).bind fun r7=>match r7 with
 |.next _=>none
 |.ret v_=>some v_
 |.brk i3=>
  some i3
theorem Fj (k:Nat) (l0:(List (Aa 2 (Aa 32 Int)))) (a1:Int) (bc:Int) (r:Int) (h0:BM k l0 a1 bc=some r):Ay Tryz.prog 84 [.sl 64 (List.map (Aa.c (n:=2) (Aa.c (n:=32) ae)) l0),.int .i64 a1,.int .i64 bc] (fun y=>y=.int .i64 r):=by
 refine PB Tryz.f84 E3.c [.tmp 6] ?_
 simp only[BM]at h0
 try simp only[E3.c,go_sem]
 obtain⟨r7,lf,h0⟩:=bs h0
 refine A5 lf (BM.h0 l0 a1) (BM.x0) ?_ ?_ ?_
 refine Al.go [0,1,7,8] [] rfl ?_
 try simp only[BM.h0,go_sem]
 rintro⟨i1,i2⟩ bO Bd Ba h1 az ax bg
 refine rS ?_
 simp only[BM.b0]at h1
 try simp only[E3.s0,BM.h0,go_sem]
 refine AP h1 ?_ ?_<;>intro c4 h1<;>have F:=c4<;>try simp only[F,go_sem]
 refine aj h1 (Fk k _ _ _) ?_ (fun x5 h1=>?_)<;>try simp only[F,go_sem]
 refine aj h1 (FX k _) ?_ (fun x6 h1=>?_)<;>try simp only[F,go_sem]
 refine Ax (az _ _ (oi h1).symm (Al.go [0,1,7,8] [] rfl ?_))
 try simp only[BM.h0,F,go_sem]
 refine Ax (ax _ _ (oi h1).symm (Al.go [7] [] rfl ?_))
 try simp only[BM.x0,F,go_sem]
 rintro i3 aA
 subst aA
 simp only at h0
 refine rS ?_
 try simp only[BM.x0,go_sem]
 obtain rfl:=oi h0
 refine Ag rfl ?_
 try simp only[go_sem]
def Hz.c:SC:=
 SQ [RG [wE 2 36 0 [0],wE 3 42 1 [1],wN 4 0 45 [4]],SQ [RG [wD 9 36 2,wU 10 80 9 36 4 [9],wQ 11 10 4 [10],wV 12 11 4 [11],gd 12 false (wF 13 42 3 2),gd 12 false (wD 14 3 13 [13]),gd 12 false (wC 15 54 #[.tmp 14,.const (.int .i64 1),.const (.int .i64 1000000)] #[3,3,3] 4 [14]),gd 12 false (wQ 16 15 4 [15]),wT 17 12 16 4 [12,16]],CN 17 (SQ [RG [wN 4 94 45],.ret]) .skip],RG [wD 18 36 2 [2],
 wU 19 81 18 36 33 [18],wG 5 19 33 [19]],RG [wV 21 5 33,wU 22 82 21 33 152 [21],wV 20 22 152 [22],wX 23 20 0 3,wX 24 20 1 151,wX 25 20 2 4 [20],wA 7 151,wG 6 23 3 [23],wS 151 7 24 [24],wG 8 25 4 [25]],SQ [.aS [wV 26 8 4,wQ 27 26 4,wV 28 27 4,gd 28 false (wF 29 42 3 1),gd 28 false (wD 30 3 29),gd 28 false (wV 31 6 3),gd 28 false (wO 32 .neq 3 30 31 3 4),wT 33 28 32 4,wV 34 33 4,
 gd 34 false (wF 35 42 3 3),gd 34 false (wD 36 3 35),gd 34 false (wF 37 151 7 2),gd 34 false (wD 38 3 37),gd 34 false (wO 39 .neq 3 36 38 3 4),wT 40 34 39 4,wV 41 40 4,gd 41 false (wF 42 42 3 0),gd 41 false (wF 43 40 42 0),gd 41 false (wD 44 38 43),gd 41 false (wF 45 151 7 1),gd 41 false (wD 46 38 45),gd 41 false (wU 47 83 46 38 40),gd 41 false (oQ 48 (.field 40 (.tmp 47) 0) 38),
 gd 41 false (wW 49 66 44 48 38 38 4),gd 41 false (wQ 50 49 4),wT 51 41 50 4] [[],[0],[0,1],[0,1,2],[0,1,2,3],[0,1,2],[0,1,2,3,4,5],[0,1,2,3,4,5,6],[0,1,2,3,4,5,6,7],[0,1,2,3,4,5,6,7,8],[0,1,2,3,4,5,6,7,8,9],[0,1,2,3,4,5,6,7,8],[0,1,2,3,4,5,6,7,8,11],[0,1,2,3,4,5,6,7,8,9,10,11,12],[0,1,2,3,4,5,6,7,8,9,10,11,12,13],[0,1,2,3,4,5,6,7,8,9,10,11,12,13,14],[0,1,2,3,4,5,6,7,8,9,10,11,12,13,14,15],[0,1,2,
 3,4,5,6,7,8,9,10,11,12,13,14,15,16],[0,1,2,3,4,5,6,7,8,9,10,11,12,13,14,15,16,17],[0,1,2,3,4,5,6,7,8,9,10,11,12,13,14,15],[0,1,2,3,4,5,6,7,8,9,10,11,12,13,14,15,19],[0,1,2,3,4,5,6,7,8,9,10,11,12,13,14,15,19,20],[0,1,2,3,4,5,6,7,8,9,10,11,12,13,14,15,19,20,21],[0,1,2,3,4,5,6,7,8,9,10,11,12,13,14,15,16,17,18,19,20,21,22],[0,1,2,3,4,5,6,7,8,9,10,11,12,13,14,15,16,17,18,19,20,21,22,23],[0,1,2,3,4,5,6,
 7,8,9,10,11,12,13,14,15,16,17,18,19,20,21,22,23,24]] [8,26,27,28,29,30,31,32,33,34,35,36,37,38,39,40,41,42,43,44,45,46,47,48,49,50],CN 51 (SQ [RG [wN 4 94 45],.ret]) .skip],SQ [.aS [wV 52 5 33,wC 53 84 #[.tmp 52,.const (.int .i64 0),.const (.int .i64 0)] #[33,3,3] 3,wF 54 42 3 2,wD 55 3 54,wO 56 .gtr 3 53 55 3 4,wV 57 56 4,gd 57 false (wV 58 5 33),gd 57 false (wC 59 84 #[.tmp 58,
 .const (.int .i64 1),.const (.int .i64 0)] #[33,3,3] 3),gd 57 false (wF 60 42 3 2),gd 57 false (wD 61 3 60),gd 57 false (wO 62 .gtr 3 59 61 3 4),wT 63 57 62 4,wV 64 63 4,gd 64 false (wV 65 5 33),gd 64 false (wV 66 6 3),gd 64 false (wF 67 151 7 2),gd 64 false (wD 68 3 67),gd 64 false (wC 69 84 #[.tmp 65,.tmp 66,.tmp 68] #[33,3,3] 3),gd 64 false (wF 70 42 3 2),gd 64 false (wD 71 3 70),
 gd 64 false (wO 72 .geq 3 69 71 3 4),wT 73 64 72 4] [[],[0],[],[2],[0,1,2,3],[0,1,2,3,4],[0,1,2,3,4,5],[0,1,2,3,4,5,6],[0,1,2,3,4,5],[0,1,2,3,4,5,8],[0,1,2,3,4,5,6,7,8,9],[0,1,2,3,4,5,6,7,8,9,10],[0,1,2,3,4,5,6,7,8,9,10,11],[0,1,2,3,4,5,6,7,8,9,10,11,12],[0,1,2,3,4,5,6,7,8,9,10,11,12],[0,1,2,3,4,5,6,7,8,9,10,11,12],[0,1,2,3,4,5,6,7,8,9,10,11,12,15],[0,1,2,3,4,5,6,7,8,9,10,11,12,13,14,15,16],[0,1,
 2,3,4,5,6,7,8,9,10,11,12],[0,1,2,3,4,5,6,7,8,9,10,11,12,18],[0,1,2,3,4,5,6,7,8,9,10,11,12,13,14,15,16,17,18,19],[0,1,2,3,4,5,6,7,8,9,10,11,12,13,14,15,16,17,18,19,20]] [3,5,6,7,52,53,54,55,56,57,58,59,60,61,62,63,64,65,66,67,68,69,70,71,72],CN 73 (SQ [RG [wN 4 94 45],.ret]) .skip],RG [wN 4 0 45],.ret]
def DV (k:Nat) (d0:Ad) (l1:Ai):Option (Int):=
 (Cg k d0).bind fun x1=>
 bif x1 then
  (CI k l1.Aq 1 1000000).bind fun x3=>
  bif (!x3) then
   some 94
  else
   (Cs k d0).bind fun x5=>
   (Em k x5).bind fun x6=>
   bif x6.2.2 then
    bif decide (l1.AS=x6.1) then
     bif decide (l1.Used=x6.2.1.Used) then
      (Cm k x6.2.1.Ah).bind fun dz=>
      (BY k l1.Ak.Ah dz.Ah).bind fun bN=>
      bif (!bN) then
       some 94
      else
       (BM k x5 0 0).bind fun bx=>
       bif (!decide (l1.Aq<bx)) then
        (BM k x5 1 0).bind fun cd=>
        bif (!decide (l1.Aq<cd)) then
         (BM k x5 x6.1 x6.2.1.Used).bind fun fS=>
         bif decide (l1.Aq<=fS) then
          some 94
         else
          some 0
        else
         some 94
       else
        some 94
     else
      some 94
    else
     some 94
   else
    some 94
 else
  some 94
theorem H8 (k:Nat) (d0:Ad) (l1:Ai) (r:Int) (h0:DV k d0 l1=some r):Ay Tryz.prog 45 [.agg (Ad.c d0),.agg (Ai.c l1)] (fun y=>y=.int .i64 r):=by
 refine PB Tryz.f45 Hz.c [.tmp 4] ?_
 simp only[DV]at h0
 try simp only[Hz.c,go_sem]
 refine aj h0 (FE k _) ?_ (fun x1 h0=>?_)<;>try simp only[go_sem]
 refine AP h0 ?_ ?_<;>intro c2 h0<;>have F:=c2<;>try simp only[F,go_sem]
 refine aj h0 (C0 k _ _ _) ?_ (fun x3 h0=>?_)<;>try simp only[F,go_sem]
 refine A7 F h0 ?_ ?_<;>intro F h0<;>try simp only[F,go_sem]
 obtain rfl:=oi h0
 refine Ag rfl ?_
 try simp only[F,go_sem]
 refine aj h0 (F3 k _) ?_ (fun x5 h0=>?_)<;>try simp only[F,go_sem]
 refine aj h0 (Ip k _) ?_ (fun x6 h0=>?_)<;>try simp only[F,go_sem]
 refine AL AE aO 1000 ?_
 try simp only[F,go_sem]
 refine DF F h0 ?_ ?_<;>intro F h0<;>try simp only[F,go_sem]
 refine DF F h0 ?_ ?_<;>intro F h0<;>try simp only[F,go_sem]
 refine DF F h0 ?_ ?_<;>intro F h0<;>try simp only[F,go_sem]
 refine bJ h0 (Ik k _) ?_ (fun dz h0=>?_)<;>try simp only[F,go_sem]
 refine bJ h0 (F1 k _ _) ?_ (fun bN h0=>?_)<;>try simp only[F,go_sem]
 refine aG ?_
 try simp only[F,go_sem]
 refine A7 F h0 ?_ ?_<;>intro F h0<;>try simp only[F,go_sem]
 obtain rfl:=oi h0
 refine Ag rfl ?_
 try simp only[F,go_sem]
 refine AL AE aO 1000 ?_
 try simp only[F,go_sem]
 refine bJ h0 (Fj k _ _ _) ?_ (fun bx h0=>?_)<;>try simp only[F,go_sem]
 refine Fu F h0 ?_ ?_<;>intro F h0<;>try simp only[F,go_sem]
 refine bJ h0 (Fj k _ _ _) ?_ (fun cd h0=>?_)<;>try simp only[F,go_sem]
 refine Fu F h0 ?_ ?_<;>intro F h0<;>try simp only[F,go_sem]
 refine bJ h0 (Fj k _ _ _) ?_ (fun fS h0=>?_)<;>try simp only[F,go_sem]
 refine aG ?_
 try simp only[F,go_sem]
 refine AF F h0 ?_ ?_<;>intro F h0<;>try simp only[F,go_sem]
 obtain rfl:=oi h0
 refine Ag rfl ?_
 try simp only[F,go_sem]
 obtain rfl:=oi h0
 refine Ag rfl ?_
 try simp only[F,go_sem]
 refine aG ?_
 try simp only[F,go_sem]
 obtain rfl:=oi h0
 refine Ag rfl ?_
 try simp only[F,go_sem]
 refine aG ?_
 try simp only[F,go_sem]
 obtain rfl:=oi h0
 refine Ag rfl ?_
 try simp only[F,go_sem]
 refine aG ?_
 try simp only[F,go_sem]
 obtain rfl:=oi h0
 refine Ag rfl ?_
 try simp only[F,go_sem]
 refine aG ?_
 try simp only[F,go_sem]
 obtain rfl:=oi h0
 refine Ag rfl ?_
 try simp only[F,go_sem]
 refine aG ?_
 try simp only[F,go_sem]
 obtain rfl:=oi h0
 refine Ag rfl ?_
 try simp only[F,go_sem]
 obtain rfl:=oi h0
 refine Ag rfl ?_
 try simp only[F,go_sem]
def E4.s0:SC:=
 SQ [SQ [RG [wV 4 3 3,wK 5 .lss 3 4 6 3 4 [4]],CN 5 .skip (.exit 0)],.block 1 (SQ [RG [wV 8 3 3,wI 9 55 1 8 [8],wD 10 3 9 [9],wC 11 54 #[.tmp 10,.const (.int .i64 0),.const (.int .i64 60)] #[3,3,3] 4 [10],wQ 12 11 4 [11]],CN 12 (SQ [RG [wB 2 false 4],.ret]) .skip]),RG [wV 6 3 3 [3],wK 7 .add 3 6 1 3 3 [6],wG 3 7 3 [7]]]
def E4.c:SC:=
 SQ [RG [wE 1 55 0 [0],wB 2 false 4 [2]],SQ [RG [wN 3 0 3],.block 0 (.loop E4.s0)],RG [wB 2 true 4],.ret]
def Cq.b0 (k:Nat) (l0:(Aa 6 Int)):Int->Option (AN (Int) (Unit) (Bool)):=fun i1=>
 bif decide (i1<(6:Int)) then
  (l0.at? i1).bind fun x3=>
  (CI k x3 0 60).bind fun x4=>
  bif (!x4) then
   some (.ret false)
  else
   some (.next (ab (i1+1)))
 else
  some (.brk ())
def Cq.h0 (l0:(Aa 6 Int)):Int->St:=fun i1=>⟨[(1,.ptr 0 0 0),(3,.int .i64 i1)],[(0,.box (Aa.c (n:=6) eI l0))],[],1,Tryz.f89.ntmps⟩
def Cq.x0:Unit->St:=fun _=>⟨[],[],[],1,Tryz.f89.ntmps⟩
def Cq (k:Nat) (l0:(Aa 6 Int)):Option (Bool):=
 (ai (Cq.b0 k l0) k 0).bind fun r6=>match r6 with
 |.next _=>none
 |.ret v_=>some v_
 |.brk _=>
  some true
theorem Ii (k:Nat) (l0:(Aa 6 Int)) (r:Bool) (h0:Cq k l0=some r):Ay Tryz.prog 89 [.agg ((Aa.c (n:=6) eI) l0)] (fun y=>y=.bool r):=by
 refine PB Tryz.f89 E4.c [.tmp 2] ?_
 simp only[Cq]at h0
 try simp only[E4.c,go_sem]
 obtain⟨r6,rR,h0⟩:=bs h0
 refine A5 rR (Cq.h0 l0) (Cq.x0) ?_ ?_ ?_
 refine Al.go [1,3] [0] rfl ?_
 try simp only[Cq.h0,go_sem]
 rintro i1 bO Bd Ba h1 az ax bg
 refine rS ?_
 simp only[Cq.b0]at h1
 try simp only[E4.s0,Cq.h0,go_sem]
 refine AP h1 ?_ ?_<;>intro c2 h1<;>have F:=c2<;>try simp only[F,go_sem]
 obtain⟨x3,cv,h1⟩:=bs h1
 have rG:=Ao.bh fg (Ao.self abf l0) cv
 have tR:=rG.2
 try simp only[AA,AB,go_sem]at tR
 have F:=an (aq cv) (an tR F)
 try simp only[F,go_sem]
 refine aj h1 (C0 k _ _ _) ?_ (fun x4 h1=>?_)<;>try simp only[F,go_sem]
 refine A7 F h1 ?_ ?_<;>intro F h1<;>try simp only[F,go_sem]
 obtain rfl:=bg _ (oi h1).symm
 simp only at h0
 obtain rfl:=oi h0
 refine Ag rfl ?_
 try simp only[F,go_sem]
 refine Ax (az _ _ (oi h1).symm (Al.go [1,3] [0] rfl ?_))
 try simp only[Cq.h0,F,go_sem]
 refine Ax (ax _ _ (oi h1).symm (Al.go [] [] rfl ?_))
 try simp only[Cq.x0,F,go_sem]
 rintro _ aA
 subst aA
 simp only at h0
 refine rS ?_
 try simp only[Cq.x0,go_sem]
 obtain rfl:=oi h0
 refine Ag rfl ?_
 try simp only[go_sem]
def EN.s0:SC:=
 SQ [SQ [RG [wV 16 3 3,wK 17 .lss 3 16 6 3 4 [16]],CN 17 .skip (.exit 0)],.block 1 (SQ [RG [wV 20 3 3,wF 21 63 1 3,wI 22 61 21 20 [20,21],wD 23 55 22 [22],wU 24 89 23 55 4 [23],wQ 25 24 4 [24]],CN 25 (SQ [RG [wN 2 96 45],.ret]) .skip]),RG [wV 18 3 3 [3],wK 19 .add 3 18 1 3 3 [18],wG 3 19 3 [19]]]
def EN.c:SC:=
 SQ [RG [wE 1 63 0 [0],wN 2 0 45 [2]],SQ [RG [wF 4 63 1 0,wD 5 3 4 [4],wC 6 54 #[.tmp 5,.const (.int .i64 0),.const (.int .i64 5)] #[3,3,3] 4 [5],wQ 7 6 4 [6],wV 8 7 4 [7],gd 8 false (wF 9 63 1 1),gd 8 false (wD 10 36 9 [9]),gd 8 false (wF 11 63 1 2),gd 8 false (wD 12 42 11 [11]),gd 8 false (wW 13 45 10 12 36 42 45 [10,12]),gd 8 false (wK 14 .neq 45 13 0 45 4 [13]),wT 15 8 14 4 [8,14]],
 CN 15 (SQ [RG [wN 2 96 45],.ret]) .skip],SQ [RG [wN 3 0 3],.block 0 (.loop EN.s0)],RG [wN 2 0 45],.ret]
def Cf.b0 (k:Nat) (ah:Ac):Int->Option (AN (Int) (Unit) (Int)):=fun i5=>
 bif decide (i5<(6:Int)) then
  (ah.Ap.at? i5).bind fun x7=>
  (Cq k x7).bind fun x8=>
  bif (!x8) then
   some (.ret 96)
  else
   some (.next (ab (i5+1)))
 else
  some (.brk ())
def Cf.h0 (ah:Ac):Int->St:=fun i5=>⟨[(1,.ptr 0 0 0),(3,.int .i64 i5)],[(0,.box ([.int .i64 ah.Me,.sl 64 (List.map (Aa.c (n:=2) (Aa.c (n:=32) ae)) ah.Ad.Aj),.sl 65 (List.map As.c ah.Ad.Af),.sl 8 (List.map Ab.c ah.Ai.Ak.Ah),.int .i64 ah.Ai.AS,.int .i64 ah.Ai.Aq,.int .i64 ah.Ai.Used]++(Aa.c (n:=6) (Aa.c (n:=6) eI) ah.Ap)))],[],1,Tryz.f57.ntmps⟩
def Cf.x0:Unit->St:=fun _=>⟨[],[],[],1,Tryz.f57.ntmps⟩
def Cf (k:Nat) (ah:Ac):Option (Int):=
 (CI k ah.Me 0 5).bind fun x1=>
 bif x1 then
  (DV k ah.Ad ah.Ai).bind fun x3=>
  bif (!decide (x3=(0:Int))) then
   some 96
  else
   (ai (Cf.b0 k ah) k 0).bind fun r10=>match r10 with
   |.next _=>none
   |.ret v_=>some v_
   |.brk _=>
    some 0
 else
  some 96
theorem FC (k:Nat) (ah:Ac) (r:Int) (h0:Cf k ah=some r):Ay Tryz.prog 57 [.agg (Ac.c ah)] (fun y=>y=.int .i64 r):=by
 refine PB Tryz.f57 EN.c [.tmp 2] ?_
 simp only[Cf]at h0
 try simp only[EN.c,go_sem]
 refine aj h0 (C0 k _ _ _) ?_ (fun x1 h0=>?_)<;>try simp only[go_sem]
 refine AP h0 ?_ ?_<;>intro c2 h0<;>have F:=c2<;>try simp only[F,go_sem]
 refine aj h0 (H8 k _ _) ?_ (fun x3 h0=>?_)<;>try simp only[F,go_sem]
 refine A7 F h0 ?_ ?_<;>intro F h0<;>try simp only[F,go_sem]
 obtain rfl:=oi h0
 refine Ag rfl ?_
 try simp only[F,go_sem]
 obtain⟨r10,afE,h0⟩:=bs h0
 refine A5 afE (Cf.h0 ah) (Cf.x0) ?_ ?_ ?_
 refine Al.go [1,3] [0] rfl ?_
 try simp only[Cf.h0,F,go_sem]
 rintro i5 bO Bd Ba h1 az ax bg
 refine rS ?_
 simp only[Cf.b0]at h1
 try simp only[EN.s0,Cf.h0,F,go_sem]
 refine AF F h1 ?_ ?_<;>intro F h1<;>try simp only[F,go_sem]
 obtain⟨x7,dq,h1⟩:=bs h1
 have ma:=Ao.bh vL (Ao.skip (Ao.self yo ah.Ap) ([.int .i64 ah.Me,.sl 64 (List.map (Aa.c (n:=2) (Aa.c (n:=32) ae)) ah.Ad.Aj),.sl 65 (List.map As.c ah.Ad.Af),.sl 8 (List.map Ab.c ah.Ai.Ak.Ah),.int .i64 ah.Ai.AS,.int .i64 ah.Ai.Aq,.int .i64 ah.Ai.Used]:List AV)) dq
 have mh:=ma.2
 try simp only[AA,AB,go_sem]at mh
 have F:=an (aq dq) (an mh F)
 try simp only[F,go_sem]
 refine aj h1 (Ii k _) ?_ (fun x8 h1=>?_)<;>try simp only[F,go_sem]
 refine A7 F h1 ?_ ?_<;>intro F h1<;>try simp only[F,go_sem]
 obtain rfl:=bg _ (oi h1).symm
 simp only at h0
 obtain rfl:=oi h0
 refine Ag rfl ?_
 try simp only[F,go_sem]
 refine Ax (az _ _ (oi h1).symm (Al.go [1,3] [0] rfl ?_))
 try simp only[Cf.h0,F,go_sem]
 refine Ax (ax _ _ (oi h1).symm (Al.go [] [] rfl ?_))
 try simp only[Cf.x0,F,go_sem]
 rintro _ aA
 subst aA
 simp only at h0
 refine rS ?_
 try simp only[Cf.x0,F,go_sem]
 obtain rfl:=oi h0
 refine Ag rfl ?_
 try simp only[F,go_sem]
 obtain rfl:=oi h0
 refine Ag rfl ?_
 try simp only[F,go_sem]
def D6.c:SC:=
 SQ [RG [wE 1 36 0 [0],wA 2 36],.aS [oQ 3 (.buildSlice 33 0 #[]) 33,wF 4 36 1 0,wD 5 33 4,wP 6 3 5 33 33 33,oQ 7 (.buildSlice 34 0 #[]) 34,wF 8 36 1 1,wD 9 34 8,wP 10 7 9 34 34 34,oQ 11 (.build 36 #[(0,.tmp 6),(1,.tmp 10)]) 36,wS 36 2 11] [[],[],[1],[0,1,2],[],[],[5],[4,5,6,0,1,2,3],[0,1,2,3,4,5,6,7],[0,1,2,3,4,5,6,7,8]] [1,3,4,5,6,7,8,9,10,11],.ret]
theorem D6.rs:Tryz.f87.results.toList=[.cell 2 36]:=rfl
def DK (k:Nat) (d0:Ad):Option (Ad):=
 (dI d0.Aj.length 64).bind fun _=>
 (dI d0.Af.length 72).bind fun _=>
 some d0
theorem FD (k:Nat) (d0:Ad) (r:Ad) (h0:DK k d0=some r):Ay Tryz.prog 87 [.agg (Ad.c d0)] (fun y=>y=.agg (Ad.c r)):=by
 refine PB Tryz.f87 D6.c [.cell 2 36] ?_
 simp only[DK]at h0
 try simp only[D6.c,go_sem]
 refine AL AE aO 1000 ?_
 try simp only[go_sem]
 obtain⟨u1,iY,h0⟩:=bs h0
 try simp only[jv iY,go_sem]
 obtain⟨u2,yu2,h0⟩:=bs h0
 try simp only[jv yu2,go_sem]
 refine aG ?_
 try simp only[go_sem]
 obtain rfl:=oi h0
 refine Ag rfl ?_
 try simp only[go_sem]
def E9 (k:Nat) (d0:Ad):Option (Ad):=
 (dI d0.Aj.length 64).bind fun _=>
 (dI d0.Af.length 72).bind fun _=>
 some d0
theorem Jb (k:Nat) (d0:Ad) (r:Ad) (h0:E9 k d0=some r):Bg Tryz.prog 87 [.agg (Ad.c d0)] [] (fun y fr=>y=.agg [.loc 0 0 64 0 r.Aj.length r.Aj.length,.loc 0 1 65 0 r.Af.length r.Af.length]/\fr=[(0,.arr 113 64 (List.map (Aa.c (n:=2) (Aa.c (n:=32) ae)) r.Aj)),(1,.arr 116 65 (List.map As.c r.Af))]):=by
 refine Bg.gD AE (f:=87) (fn:=Tryz.f87) (sc:=D6.c) (by rfl) (by rfl) (by decide +kernel) (by rfl) (by decide +kernel) (Nat.le_of_ble_eq_true rfl) (fun H=>?_)
 refine rS ?_
 simp only[E9]at h0
 try simp only[D6.c,go_sem]
 refine AL AE aO 1000 ?_
 try simp only[go_sem]
 obtain⟨u1,iY,h0⟩:=bs h0
 try simp only[jv iY,go_sem]
 obtain⟨u2,yu2,h0⟩:=bs h0
 try simp only[jv yu2,go_sem]
 refine aG ?_
 try simp only[go_sem]
 obtain rfl:=oi h0
 refine GW [48,112] (by simp) rfl rfl ?_
 try simp only[D6.rs,ad6,cm,Ae,go_sem]
def EL.s0:SC:=
 SQ [SQ [RG [wV 18 11 3,wV 19 3 85,wL 20 19 85 3 [19],wO 21 .lss 3 18 20 3 4 [18,20]],CN 21 .skip (.exit 0)],.block 1 (SQ [RG [wV 24 2 3,wV 25 11 3,wO 26 .add 3 24 25 3 3 [24,25],wG 12 26 3 [26]],RG [wV 27 1 3,oQ 28 (.binOp .mul 3 (.const (.int .i64 301)) (.tmp 27) 3) 3 [27],wV 29 12 3,wK 30 .quo 3 29 2 3 3 [29],wO 31 .add 3 28 30 3 3 [28,30],wG 13 31 3 [31]],.aS [wV 32 10 33,wV 33 13 3,
 wV 34 12 3,wK 35 .rem 3 34 2 3 3,wV 36 3 85,wV 37 11 3,wI 38 85 36 37,wD 39 92 38,wI 40 33 32 33,wI 41 113 40 35,wS 92 41 39] [[],[],[],[2],[],[],[4,5],[4,5,6],[0,1],[0,1,8,2,3,4,5,6,7],[0,1,8,2,3,4,5,6,7,9]] [32,33,34,35,36,37,38,39,40,41],RG [wV 42 11 3,wV 43 3 85,wL 44 43 85 3 [43],wK 45 .sub 3 44 1 3 3 [44],wO 46 .eql 3 42 45 3 4 [42,45],wV 47 46 4 [46],gd 47 false (wV 48 12 3),
 gd 47 false (wK 49 .add 3 48 1 3 3 [48]),gd 47 false (wK 50 .quo 3 49 2 3 3 [49]),gd 47 false (wV 51 12 3 [12]),gd 47 false (wK 52 .quo 3 51 2 3 3 [51]),gd 47 false (wO 53 .neq 3 50 52 3 4 [50,52]),wT 54 47 53 4 [47,53]],CN 54 (.aS [wF 55 36 9 1,wD 56 34 55,wV 57 13 3,wV 58 10 33,wV 59 13 3,wI 60 33 58 59,wD 61 113 60,oQ 62 (.build 116 #[(0,.tmp 57),(1,.tmp 61)]) 116,
 oQ 63 (.buildSlice 34 1 #[(0,.tmp 62)]) 34,wP 64 56 63 34 34 34,wF 65 36 9 1,wS 34 65 64] [[],[0],[],[],[],[3,4],[3,4,5],[2,3,4,5,6],[2,3,4,5,6,7],[0,1,2,3,4,5,6,7,8],[0,1,2,3,4,5,6,7,8,9],[0,1,2,3,4,5,6,7,8,9,10]] [13,55,56,57,58,59,60,61,62,63,64,65]) .skip]),RG [wV 22 11 3 [11],wK 23 .add 3 22 1 3 3 [22],wG 11 23 3 [23]]]
def EL.c:SC:=
 SQ [RG [wE 4 36 0 [0],wA 8 36],RG [wD 14 36 4,wU 15 87 14 36 36 [14],wA 9 36,wS 36 9 15 [15]],RG [wD 16 36 4 [4],wU 17 81 16 36 33 [16],wG 10 17 33 [17]],SQ [RG [wN 11 0 3],.block 0 (.loop EL.s0)],RG [wD 66 36 9 [9],wS 36 8 66 [66]],.ret]
def B9.b0 (k:Nat) (a1:Int) (bc:Int) (l3:(List (Aa 32 Int))):(Int×(List As)×(List (Aa 2 (Aa 32 Int))))->Option (AN (Int×(List As)×(List (Aa 2 (Aa 32 Int)))) ((List As)) (Ad)):=fun s=>match s with
 |(i5,l6,l7)=>
   bif decide (i5<(l3.length:Int)) then
    (at? l3 i5).bind fun dz=>
    (at? l7 (ab ((ab (301*a1))+(ab (Int.tdiv (ab (bc+i5)) 2))))).bind fun bN=>
    (bN.at? (Int.tmod (ab (bc+i5)) 2)).bind fun dA=>
    (dN l7 (ab ((ab (301*a1))+(ab (Int.tdiv (ab (bc+i5)) 2)))) (bN.set (Int.tmod (ab (bc+i5)) 2) dz)).bind fun cA=>
    bif (!decide (i5=ab ((l3.length:Int) - 1))) then
     bif (!decide (ab (Int.tdiv (ab ((ab (bc+i5))+1)) 2)=ab (Int.tdiv (ab (bc+i5)) 2))) then
      (at? cA (ab ((ab (301*a1))+(ab (Int.tdiv (ab (bc+i5)) 2))))).bind fun fS=>
      (eO 72 l6 (⟨ab ((ab (301*a1))+(ab (Int.tdiv (ab (bc+i5)) 2))),fS⟩:As)).bind fun nC=>
      some (.next (ab (i5+1),nC,cA))
     else
      some (.next (ab (i5+1),l6,cA))
    else
     (at? cA (ab ((ab (301*a1))+(ab (Int.tdiv (ab (bc+i5)) 2))))).bind fun jw=>
     (eO 72 l6 (⟨ab ((ab (301*a1))+(ab (Int.tdiv (ab (bc+i5)) 2))),jw⟩:As)).bind fun th=>
     some (.next (ab (i5+1),th,cA))
   else
    some (.brk l6)
def B9.h0 (a1:Int) (bc:Int) (l3:(List (Aa 32 Int))) (x2:Ad):(Int×(List As)×(List (Aa 2 (Aa 32 Int))))->St:=fun s=>match s with
 |(i5,l6,l7)=>⟨[(1,.int .i64 a1),(2,.int .i64 bc),(3,.sl 32 (List.map (Aa.c (n:=32) ae) l3)),(8,.ptr 0 0 0),(9,.ptr 0 3 0),(10,.loc 0 5 64 0 l7.length l7.length),(11,.int .i64 i5)],[(0,.box ([.loc 0 1 64 0 0 0,.loc 0 2 65 0 0 0])),(1,.arr 113 64 (List.map (Aa.c (n:=2) (Aa.c (n:=32) ae)) [])),(2,.arr 116 65 (List.map As.c [])),(3,.box ([.sl 64 (List.map (Aa.c (n:=2) (Aa.c (n:=32) ae)) x2.Aj),.loc 0 4 65 0 l6.length l6.length])),(4,.arr 116 65 (List.map As.c l6)),(5,.arr 113 64 (List.map (Aa.c (n:=2) (Aa.c (n:=32) ae)) l7))],[],6,Tryz.f49.ntmps⟩
def B9.x0 (x2:Ad):(List As)->St:=fun l8=>⟨[(8,.ptr 0 0 0),(9,.ptr 0 3 0)],[(0,.box ([.loc 0 1 64 0 0 0,.loc 0 2 65 0 0 0])),(1,.arr 113 64 (List.map (Aa.c (n:=2) (Aa.c (n:=32) ae)) [])),(2,.arr 116 65 (List.map As.c [])),(3,.box ([.sl 64 (List.map (Aa.c (n:=2) (Aa.c (n:=32) ae)) x2.Aj),.loc 0 4 65 0 l8.length l8.length])),(4,.arr 116 65 (List.map As.c l8))],[],5,Tryz.f49.ntmps⟩
def B9 (k:Nat) (d0:Ad) (a1:Int) (bc:Int) (l3:(List (Aa 32 Int))):Option (Ad):=
 (E9 k d0).bind fun x2=>
 (CB k d0).bind fun x4=>
 (ai (B9.b0 k a1 bc l3) k (0,x2.Af,x4)).bind fun oI=>match oI with
 |.next _=>none
 |.ret v_=>some v_
 |.brk l8=>
  some (⟨x2.Aj,l8⟩:Ad)
theorem Ju (k:Nat) (d0:Ad) (a1:Int) (bc:Int) (l3:(List (Aa 32 Int))) (r:Ad) (h0:B9 k d0 a1 bc l3=some r):Ay Tryz.prog 49 [.agg (Ad.c d0),.int .i64 a1,.int .i64 bc,.sl 32 (List.map (Aa.c (n:=32) ae) l3)] (fun y=>y=.agg (Ad.c r)):=by
 refine PB Tryz.f49 EL.c [.cell 8 36] ?_
 simp only[B9]at h0
 try simp only[EL.c,go_sem]
 obtain⟨x2,dJ,h0⟩:=bs h0
 refine Ix [] [] (Jb k _ _ dJ) ?_ rfl ?_
 try simp only[fB,go_sem]
 try simp only[go_sem]
 refine AK.rI (Al.fz 48 rfl (fun _ h=>by cases h)) ?_
 try simp only[go_sem]
 refine rS ?_
 try simp only[go_sem]
 obtain⟨x4,bF,h0⟩:=bs h0
 refine CJ AE 1000 [] [] (Js k _ _ bF) ?_ rfl ?_
 try simp only[fB,Bu,go_sem]
 try simp only[go_sem]
 obtain⟨oI,vI,h0⟩:=bs h0
 refine A5 vI (B9.h0 a1 bc l3 x2) (B9.x0 x2) ?_ ?_ ?_
 refine Al.go [1,2,3,8,9,10,11] [16,17,18,64,49,112] rfl ?_
 try simp only[B9.h0,go_sem]
 rintro⟨i5,l6,l7⟩ bO Bd Ba h1 az ax bg
 refine rS ?_
 simp only[B9.b0]at h1
 try simp only[EL.s0,B9.h0,go_sem]
 refine AP h1 ?_ ?_<;>intro c9 h1<;>have F:=c9<;>try simp only[F,go_sem]
 refine AL AE aO 1000 ?_
 try simp only[F,go_sem]
 obtain⟨dz,lg,h1⟩:=bs h1
 have F:=an (aI lg) (an (aH (Aa.c (n:=32) ae) lg) F)
 try simp only[F,go_sem]
 obtain⟨bN,gK,h1⟩:=bs h1
 have F:=an (aI gK) (an (aH (Aa.c (n:=2) (Aa.c (n:=32) ae)) gK) F)
 try simp only[F,go_sem]
 obtain⟨dA,m9,h1⟩:=bs h1
 have aaK:=Ao.bh gN (Ao.self gP bN) m9
 have aaQ:=aaK.2
 try simp only[AA,AB,go_sem]at aaQ
 have F:=an (aq m9) (an aaQ F)
 try simp only[F,go_sem]
 obtain⟨cA,qb,h1⟩:=bs h1
 have q13:=aaK.1.ow dz
 try simp only[AA,AB,go_sem]at q13
 have yV:=lV (Aa.c (n:=2) (Aa.c (n:=32) ae)) qb
 try simp only[go_sem]at yV
 have F:=an yV (an (kW qb) (an (lW (Aa.c (n:=2) (Aa.c (n:=32) ae)) qb) F))
 try simp only[q13,F,go_sem]
 refine aG ?_
 try simp only[F,go_sem]
 refine A7 F h1 ?_ ?_<;>intro F h1<;>try simp only[F,go_sem]
 refine A7 F h1 ?_ ?_<;>intro F h1<;>try simp only[F,go_sem]
 refine AL AE aO 1000 ?_
 try simp only[F,go_sem]
 obtain⟨fS,tY,h1⟩:=bs h1
 have ahu:=aI tY
 simp only[F,go_sem]at ahu
 have F:=an ahu (an (aH (Aa.c (n:=2) (Aa.c (n:=32) ae)) tY) F)
 try simp only[F,go_sem]
 obtain⟨nC,rP,h1⟩:=bs h1
 have aa0:=pu As.c rP
 try simp only[F,go_sem]at aa0
 have F:=an aa0 F
 try simp only[F,go_sem]
 refine aG ?_
 try simp only[F,go_sem]
 refine Ax (az _ _ (oi h1).symm (Al.go [1,2,3,8,9,10,11] [0,1,2,3,4,5] rfl ?_))
 try simp only[B9.h0,F,go_sem]
 refine Ax (az _ _ (oi h1).symm (Al.go [1,2,3,8,9,10,11] [0,1,2,3,4,5] rfl ?_))
 try simp only[B9.h0,F,go_sem]
 refine AL AE aO 1000 ?_
 try simp only[F,go_sem]
 obtain⟨jw,qc,h1⟩:=bs h1
 have yY:=aI qc
 simp only[F,go_sem]at yY
 have F:=an yY (an (aH (Aa.c (n:=2) (Aa.c (n:=32) ae)) qc) F)
 try simp only[F,go_sem]
 obtain⟨th,aa5,h1⟩:=bs h1
 have tU:=pu As.c aa5
 try simp only[F,go_sem]at tU
 have F:=an tU F
 try simp only[F,go_sem]
 refine aG ?_
 try simp only[F,go_sem]
 refine Ax (az _ _ (oi h1).symm (Al.go [1,2,3,8,9,10,11] [0,1,2,3,4,5] rfl ?_))
 try simp only[B9.h0,F,go_sem]
 refine Ax (ax _ _ (oi h1).symm (Al.go [8,9] [0,1,2,3,4] rfl ?_))
 try simp only[B9.x0,F,go_sem]
 rintro l8 aA
 subst aA
 simp only at h0
 refine rS ?_
 try simp only[B9.x0,go_sem]
 obtain rfl:=oi h0
 refine Ag rfl ?_
 try simp only[go_sem]
def HG.c:SC:=
 SQ [RG [wE 3 36 0 [0],wE 4 42 1 [1],wE 5 29 2 [2],wA 6 36,wA 7 42,wN 8 0 45 [8]],SQ [RG [wD 14 36 3,wD 15 42 4,wW 16 45 14 15 36 42 45 [14,15],wK 17 .neq 45 16 0 45 4 [16]],CN 17 (SQ [RG [oQ 18 (.build 36 #[]) 36,oQ 19 (.build 42 #[]) 42,wS 36 6 18 [18],wS 42 7 19 [19],wN 8 94 45],.ret]) .skip],SQ [RG [wD 20 29 5,wU 21 90 20 29 45 [20],wK 22 .neq 45 21 0 45 4 [21]],
 CN 22 (SQ [RG [oQ 23 (.build 36 #[]) 36,oQ 24 (.build 42 #[]) 42,wS 36 6 23 [23],wS 42 7 24 [24],wN 8 90 45],.ret]) .skip],RG [wF 26 42 4 0,wF 27 40 26 0 [26],wD 28 38 27 [27],wD 29 29 5,wW 30 91 28 29 38 29 159 [28,29],wV 25 30 159 [30],wX 31 25 0 38,wX 32 25 1 45 [25],wG 9 31 38 [31],wG 10 32 45 [32]],SQ [RG [wV 33 10 45,wK 34 .neq 45 33 0 45 4 [33]],CN 34 (SQ [RG [oQ 35 (.build 36 #[]) 36,
 oQ 36 (.build 42 #[]) 42,wV 37 10 45 [10],wS 36 6 35 [35],wS 42 7 36 [36],wG 8 37 45 [37]],.ret]) .skip],RG [wD 38 42 4,wA 11 42,wS 42 11 38 [38]],RG [wV 39 9 38,oQ 40 (.build 40 #[(0,.tmp 39)]) 40 [39],wF 41 42 11 0,wS 40 41 40 [40,41]],SQ [RG [wV 42 9 38 [9],wL 43 42 38 3 [42],wF 44 42 4 0,wF 45 40 44 0 [44],wD 46 38 45 [45],wL 47 46 38 3 [46],wO 48 .eql 3 43 47 3 4 [43,47]],
 CN 48 (SQ [.aS [wD 49 36 3,wU 50 87 49 36 36,wD 51 42 11,wS 36 6 50,wS 42 7 51,wN 8 0 45] [[],[0],[],[0,1],[2,0,1,3],[2,0,1,3,4]] [3,11,49,50,51],.ret]) .skip],RG [wD 52 29 5 [5],wF 53 42 4 0,wF 54 40 53 0 [53],wD 55 38 54 [54],wL 56 55 38 3 [55],wF 57 42 4 2,wD 58 3 57 [57],wC 59 47 #[.tmp 52,.tmp 56,.tmp 58] #[29,3,3] 85 [52,56,58],wG 12 59 85 [59]],RG [wD 60 36 3 [3],wF 61 42 4 1,
 wD 62 3 61 [61],wF 63 42 4 3,wD 64 3 63 [63],wV 65 12 85,wC 66 49 #[.tmp 60,.tmp 62,.tmp 64,.tmp 65] #[36,3,3,85] 36 [60,62,64,65],wA 13 36,wS 36 13 66 [66]],SQ [RG [wF 67 36 13 1,wD 68 34 67 [67],wL 69 68 34 3 [68],wK 70 .gtr 3 69 1200 3 4 [69]],CN 70 (SQ [RG [oQ 71 (.build 36 #[]) 36,oQ 72 (.build 42 #[]) 42,wS 36 6 71 [71],wS 42 7 72 [72],wN 8 2 45],.ret]) .skip],RG [wF 73 42 4 3 [4],
 wD 74 3 73 [73],wV 75 12 85 [12],wL 76 75 85 3 [75],wO 77 .add 3 74 76 3 3 [74,76],wF 78 42 11 3,wS 3 78 77 [77,78]],.aS [wD 79 36 13,wD 80 42 11,wS 36 6 79,wS 42 7 80,wN 8 0 45] [[],[],[0],[1,0,2],[1,0,2,3]] [11,13,79,80],.ret]
def Dg (k:Nat) (d0:Ad) (l1:Ai) (r2:Ab):Option (Ad×Ai×Int):=
 (DV k d0 l1).bind fun x1=>
 bif (!decide (x1=(0:Int))) then
  some ((⟨[],[]⟩:Ad),(⟨(⟨[]⟩:Ak),0,0,0⟩:Ai),94)
 else
  (DW k r2).bind fun x3=>
  bif (!decide (x3=(0:Int))) then
   some ((⟨[],[]⟩:Ad),(⟨(⟨[]⟩:Ak),0,0,0⟩:Ai),90)
  else
   (Cb k l1.Ak.Ah r2).bind fun x5=>
   bif (!decide (x5.2=(0:Int))) then
    some ((⟨[],[]⟩:Ad),(⟨(⟨[]⟩:Ak),0,0,0⟩:Ai),x5.2)
   else
    bif decide ((x5.1.length:Int)=(l1.Ak.Ah.length:Int)) then
     (DK k d0).bind fun x8=>
     some (x8,(⟨(⟨x5.1⟩:Ak),l1.AS,l1.Aq,l1.Used⟩:Ai),0)
    else
     (Cn k r2 (l1.Ak.Ah.length:Int) l1.Aq).bind fun x9=>
     (B9 k d0 l1.AS l1.Used x9).bind fun dz=>
     bif decide ((1200:Int)<(dz.Af.length:Int)) then
      some ((⟨[],[]⟩:Ad),(⟨(⟨[]⟩:Ak),0,0,0⟩:Ai),2)
     else
      some (dz,(⟨(⟨x5.1⟩:Ak),l1.AS,l1.Aq,ab (l1.Used+(x9.length:Int))⟩:Ai),0)
theorem H7 (k:Nat) (d0:Ad) (l1:Ai) (r2:Ab) (r:Ad×Ai×Int) (h0:Dg k d0 l1 r2=some r):Ay Tryz.prog 59 [.agg (Ad.c d0),.agg (Ai.c l1),.agg (Ab.c r2)] (fun y=>y=.aw [.agg (Ad.c r.1),.agg (Ai.c r.2.1),.int .i64 r.2.2]):=by
 refine PB Tryz.f59 HG.c [.cell 6 36,.cell 7 42,.tmp 8] ?_
 simp only[Dg]at h0
 try simp only[HG.c,go_sem]
 refine aj h0 (H8 k _ _) ?_ (fun x1 h0=>?_)<;>try simp only[go_sem]
 refine BS h0 ?_ ?_<;>intro c2 h0<;>have F:=c2<;>try simp only[F,go_sem]
 obtain rfl:=oi h0
 refine Ag rfl ?_
 try simp only[F,go_sem]
 refine aj h0 (FV k _) ?_ (fun x3 h0=>?_)<;>try simp only[F,go_sem]
 refine A7 F h0 ?_ ?_<;>intro F h0<;>try simp only[F,go_sem]
 obtain rfl:=oi h0
 refine Ag rfl ?_
 try simp only[F,go_sem]
 refine aj h0 (F2 k _ _) ?_ (fun x5 h0=>?_)<;>try simp only[F,go_sem]
 refine A7 F h0 ?_ ?_<;>intro F h0<;>try simp only[F,go_sem]
 obtain rfl:=oi h0
 refine Ag rfl ?_
 try simp only[F,go_sem]
 refine AF F h0 ?_ ?_<;>intro F h0<;>try simp only[F,go_sem]
 refine AL AE aO 1000 ?_
 try simp only[F,go_sem]
 refine bJ h0 (FD k _) ?_ (fun x8 h0=>?_)<;>try simp only[F,go_sem]
 refine aG ?_
 try simp only[F,go_sem]
 obtain rfl:=oi h0
 refine Ag rfl ?_
 try simp only[F,go_sem]
 refine aj h0 (Io k _ _ _) ?_ (fun x9 h0=>?_)<;>try simp only[F,go_sem]
 refine aj h0 (Ju k _ _ _ _) ?_ (fun dz h0=>?_)<;>try simp only[F,go_sem]
 refine AF F h0 ?_ ?_<;>intro F h0<;>try simp only[F,go_sem]
 obtain rfl:=oi h0
 refine Ag rfl ?_
 try simp only[F,go_sem]
 refine AL AE aO 1000 ?_
 try simp only[F,go_sem]
 refine aG ?_
 try simp only[F,go_sem]
 obtain rfl:=oi h0
 refine Ag rfl ?_
 try simp only[F,go_sem]
def Hn.c:SC:=
 SQ [RG [wE 2 63 0 [0],wE 3 29 1 [1],wA 4 63,wA 5 29,wN 6 0 45 [6]],SQ [RG [wD 10 63 2,wU 11 57 10 63 45 [10],wK 12 .neq 45 11 0 45 4 [11]],CN 12 (SQ [RG [oQ 13 (.build 63 #[]) 63,oQ 14 (.build 29 #[]) 29,wS 63 4 13 [13],wS 29 5 14 [14],wN 6 96 45],.ret]) .skip],.aS [wF 15 63 2 0,wD 16 3 15,wF 17 63 2 2,wF 18 42 17 0,wF 19 40 18 0,wD 20 38 19,wU 21 58 20 38 55,wF 22 63 2 0,wD 23 3 22,
 oQ 24 (.index 55 (.tmp 21) (.tmp 23)) 3,oQ 25 (.build 27 #[(0,.tmp 16),(1,.tmp 24)]) 27,wF 26 29 3 0,wS 27 26 25] [[],[0],[],[2],[2,3],[2,3,4],[2,3,4,5],[],[7],[2,3,4,5,6,7,8],[0,1,2,3,4,5,6,7,8,9],[0,1,2,3,4,5,6,7,8,9,10],[0,1,2,3,4,5,6,7,8,9,10,11]] [15,16,17,18,19,20,21,22,23,24,25,26],RG [wF 28 63 2 1,wD 29 36 28 [28],wF 30 63 2 2,wD 31 42 30 [30],wD 32 29 3,wC 33 59 #[.tmp 29,.tmp 31,
 .tmp 32] #[36,42,29] 88 [29,31,32],wV 27 33 88 [33],wX 34 27 0 36,wX 35 27 1 42,wX 36 27 2 45 [27],wA 7 36,wA 8 42,wS 36 7 34 [34],wS 42 8 35 [35],wG 9 36 45 [36]],SQ [RG [wV 37 9 45,wK 38 .neq 45 37 0 45 4 [37]],CN 38 (SQ [RG [oQ 39 (.build 63 #[]) 63,oQ 40 (.build 29 #[]) 29,wV 41 9 45 [9],wS 63 4 39 [39],wS 29 5 40 [40],wG 6 41 45 [41]],.ret]) .skip],RG [wD 42 36 7 [7],wF 43 63 2 1,
 wS 36 43 42 [42,43]],RG [wD 44 42 8 [8],wF 45 63 2 2,wS 42 45 44 [44,45]],.aS [wD 46 63 2,wD 47 29 3,wS 63 4 46,wS 29 5 47,wN 6 0 45] [[],[],[0],[1,0,2],[1,0,2,3]] [2,3,46,47],.ret]
def Dh (k:Nat) (ah:Ac) (r1:Ab):Option (Ac×Ab×Int):=
 (Cf k ah).bind fun x1=>
 bif (!decide (x1=(0:Int))) then
  some ((⟨0,(⟨[],[]⟩:Ad),(⟨(⟨[]⟩:Ak),0,0,0⟩:Ai),(Aa.rep 6 ((Aa.rep 6 (0:Int)):(Aa 6 Int)))⟩:Ac),(⟨(⟨0,0⟩:Entry),0,0,0,(⟨0,0⟩:Entry),ByteArray.empty⟩:Ab),96)
 else
  (B8 k ah.Ai.Ak.Ah).bind fun x3=>
  (x3.at? ah.Me).bind fun x4=>
  (Dg k ah.Ad ah.Ai (⟨(⟨ah.Me,x4⟩:Entry),r1.Kind,r1.Day,r1.Ap,r1.Of,r1.Text⟩:Ab)).bind fun x5=>
  bif (!decide (x5.2.2=(0:Int))) then
   some ((⟨0,(⟨[],[]⟩:Ad),(⟨(⟨[]⟩:Ak),0,0,0⟩:Ai),(Aa.rep 6 ((Aa.rep 6 (0:Int)):(Aa 6 Int)))⟩:Ac),(⟨(⟨0,0⟩:Entry),0,0,0,(⟨0,0⟩:Entry),ByteArray.empty⟩:Ab),x5.2.2)
  else
   some ((⟨ah.Me,x5.1,x5.2.1,ah.Ap⟩:Ac),(⟨(⟨ah.Me,x4⟩:Entry),r1.Kind,r1.Day,r1.Ap,r1.Of,r1.Text⟩:Ab),0)
theorem FY (k:Nat) (ah:Ac) (r1:Ab) (r:Ac×Ab×Int) (h0:Dh k ah r1=some r):Ay Tryz.prog 20 [.agg (Ac.c ah),.agg (Ab.c r1)] (fun y=>y=.aw [.agg (Ac.c r.1),.agg (Ab.c r.2.1),.int .i64 r.2.2]):=by
 refine PB Tryz.f20 Hn.c [.cell 4 63,.cell 5 29,.tmp 6] ?_
 simp only[Dh]at h0
 try simp only[Hn.c,go_sem]
 refine aj h0 (FC k _) ?_ (fun x1 h0=>?_)<;>try simp only[go_sem]
 refine BS h0 ?_ ?_<;>intro c2 h0<;>have F:=c2<;>try simp only[F,go_sem]
 obtain rfl:=oi h0
 refine Ag rfl ?_
 try simp only[F,go_sem]
 refine AL AE aO 1000 ?_
 try simp only[F,go_sem]
 refine bJ h0 (El k _) ?_ (fun x3 h0=>?_)<;>try simp only[F,go_sem]
 obtain⟨x4,bF,h0⟩:=bs h0
 have fF:=(Ao.oL fg bF).2
 try simp only[go_sem]at fF
 have F:=an (aq bF) (an fF F)
 try simp only[F,go_sem]
 refine aG ?_
 try simp only[F,go_sem]
 refine aj h0 (H7 k _ _ _) ?_ (fun x5 h0=>?_)<;>try simp only[F,go_sem]
 refine A7 F h0 ?_ ?_<;>intro F h0<;>try simp only[F,go_sem]
 obtain rfl:=oi h0
 refine Ag rfl ?_
 try simp only[F,go_sem]
 refine AL AE aO 1000 ?_
 try simp only[F,go_sem]
 refine aG ?_
 try simp only[F,go_sem]
 obtain rfl:=oi h0
 refine Ag rfl ?_
 try simp only[F,go_sem]
def HA.c:SC:=
 SQ [RG [wE 1 36 0 [0],wA 2 36],SQ [RG [wD 3 36 1,wU 4 80 3 36 4 [3],wQ 5 4 4 [4]],CN 5 (SQ [RG [wD 6 36 1 [1],wU 7 87 6 36 36 [6],wS 36 2 7 [7]],.ret]) .skip],RG [wD 8 36 1 [1],wU 9 81 8 36 33 [8],oQ 10 (.build 36 #[(0,.tmp 9)]) 36 [9],wS 36 2 10 [10]],.ret]
def D0 (k:Nat) (d0:Ad):Option (Ad):=
 (Cg k d0).bind fun x1=>
 bif (!x1) then
  (DK k d0).bind fun x3=>
  some x3
 else
  (Cs k d0).bind fun x4=>
  some (⟨x4,[]⟩:Ad)
theorem Ih (k:Nat) (d0:Ad) (r:Ad) (h0:D0 k d0=some r):Ay Tryz.prog 48 [.agg (Ad.c d0)] (fun y=>y=.agg (Ad.c r)):=by
 refine PB Tryz.f48 HA.c [.cell 2 36] ?_
 simp only[D0]at h0
 try simp only[HA.c,go_sem]
 refine aj h0 (FE k _) ?_ (fun x1 h0=>?_)<;>try simp only[go_sem]
 refine BS h0 ?_ ?_<;>intro c2 h0<;>have F:=c2<;>try simp only[F,go_sem]
 refine aj h0 (FD k _) ?_ (fun x3 h0=>?_)<;>try simp only[F,go_sem]
 obtain rfl:=oi h0
 refine Ag rfl ?_
 try simp only[F,go_sem]
 refine aj h0 (F3 k _) ?_ (fun x4 h0=>?_)<;>try simp only[F,go_sem]
 obtain rfl:=oi h0
 refine Ag rfl ?_
 try simp only[F,go_sem]
def HJ.c:SC:=
 SQ [RG [wE 1 63 0 [0],wA 2 63],RG [wF 3 63 1 1,wD 4 36 3 [3],wU 5 87 4 36 36 [4],wF 6 63 1 1,wS 36 6 5 [5,6]],RG [wF 7 63 1 2,wF 8 42 7 0 [7],wF 9 40 8 0 [8],wD 10 38 9 [9],wU 11 46 10 38 38 [10],wF 12 63 1 2,wF 13 42 12 0 [12],wF 14 40 13 0 [13],wS 38 14 11 [11,14]],RG [wD 15 63 1 [1],wS 63 2 15 [15]],.ret]
def DX (k:Nat) (ah:Ac):Option (Ac):=
 (DK k ah.Ad).bind fun x1=>
 (D1 k ah.Ai.Ak.Ah).bind fun x2=>
 some (⟨ah.Me,x1,(⟨(⟨x2⟩:Ak),ah.Ai.AS,ah.Ai.Aq,ah.Ai.Used⟩:Ai),ah.Ap⟩:Ac)
theorem H9 (k:Nat) (ah:Ac) (r:Ac) (h0:DX k ah=some r):Ay Tryz.prog 61 [.agg (Ac.c ah)] (fun y=>y=.agg (Ac.c r)):=by
 refine PB Tryz.f61 HJ.c [.cell 2 63] ?_
 simp only[DX]at h0
 try simp only[HJ.c,go_sem]
 refine aj h0 (FD k _) ?_ (fun x1 h0=>?_)<;>try simp only[go_sem]
 refine aj h0 (Jo k _) ?_ (fun x2 h0=>?_)<;>try simp only[go_sem]
 obtain rfl:=oi h0
 refine Ag rfl ?_
 try simp only[go_sem]
def EG.s0:SC:=
 SQ [SQ [RG [wV 42 9 3,wF 43 63 2 2,wF 44 42 43 0 [43],wF 45 40 44 0 [44],wD 46 38 45 [45],wL 47 46 38 3 [46],wO 48 .lss 3 42 47 3 4 [42,47],wV 49 48 4 [48],gd 49 true (wF 50 57 8 3),gd 49 true (wD 51 38 50 [50]),gd 49 true (wL 52 51 38 3 [51]),gd 49 true (wK 53 .lss 3 52 8 3 4 [52]),wZ 54 49 53 4 [49,53]],CN 54 .skip (.exit 0)],.block 1 (SQ [RG [wF 57 63 2 2,wF 58 42 57 0 [57],wF 59 40 58 0 [58],
 wD 60 38 59 [59],wV 61 9 3,wI 62 38 60 61 [60,61],wD 63 29 62 [62],wA 10 29,wS 29 10 63 [63]],.aS [wF 64 29 10 0,wF 65 27 64 1,wD 66 3 65,wV 67 1 3,wF 68 29 10 0,wF 69 27 68 0,wD 70 3 69,wF 71 63 2 3,wI 72 61 71 67,wI 73 55 72 70,wD 74 3 73,wO 75 .geq 3 66 74 3 4] [[],[0],[0,1],[],[],[4],[4,5],[],[7,3],[7,3,8,4,5,6],[7,3,8,4,5,6,9],[0,1,2,7,3,8,4,5,6,9,10]] [64,65,66,67,68,69,70,71,72,73,74],
 CN 75 (RG [wF 76 57 8 3,wD 77 38 76 [76],wD 78 29 10 [10],oQ 79 (.buildSlice 38 1 #[(0,.tmp 78)]) 38 [78],wP 80 77 79 38 38 38 [77,79],wF 81 57 8 3,wS 38 81 80 [80,81]]) .skip]),RG [wV 55 9 3 [9],wK 56 .add 3 55 1 3 3 [55],wG 9 56 3 [56]]]
def EG.c:SC:=
 SQ [RG [wE 2 63 0 [0],wA 4 63,wA 5 57,wN 6 0 45 [6]],SQ [RG [wD 11 63 2,wU 12 57 11 63 45 [11],wK 13 .neq 45 12 0 45 4 [12]],CN 13 (SQ [RG [oQ 14 (.build 63 #[]) 63,oQ 15 (.build 57 #[]) 57,wS 63 4 14 [14],wS 57 5 15 [15],wN 6 96 45],.ret]) .skip],SQ [RG [wV 16 1 3,wC 17 54 #[.tmp 16,.const (.int .i64 0),.const (.int .i64 5)] #[3,3,3] 4 [16],wQ 18 17 4 [17],wV 19 18 4 [18],gd 19 false (wV 20 1 3),
 gd 19 false (wF 21 63 2 0),gd 19 false (wD 22 3 21 [21]),gd 19 false (wO 23 .eql 3 20 22 3 4 [20,22]),wT 24 19 23 4 [19,23]],CN 24 (SQ [RG [oQ 25 (.build 63 #[]) 63,oQ 26 (.build 57 #[]) 57,wS 63 4 25 [25],wS 57 5 26 [26],wN 6 1 45],.ret]) .skip],RG [wD 27 63 2,wU 28 61 27 63 63 [27],wA 7 63,wS 63 7 28 [28]],RG [wF 29 63 7 1,wD 30 36 29 [29],wU 31 48 30 36 36 [30],wF 32 63 7 1,wS 36 32 31 [31,
 32]],.aS [wF 33 63 2 0,wD 34 3 33,wV 35 1 3,wF 36 63 2 2,wF 37 42 36 0,wF 38 40 37 0,wD 39 38 38,wU 40 58 39 38 55,oQ 41 (.build 57 #[(0,.tmp 34),(1,.tmp 35),(2,.tmp 40)]) 57,wA 8 57,wS 57 8 41] [[],[0],[],[],[3],[3,4],[3,4,5],[3,4,5,6],[0,1,2,3,4,5,6,7],[],[9,0,1,2,3,4,5,6,7,8]] [33,34,35,36,37,38,39,40,41],SQ [RG [wN 9 0 3],.block 0 (.loop EG.s0)],.aS [wD 82 63 7,wD 83 57 8,wS 63 4 82,
 wS 57 5 83,wN 6 0 45] [[],[],[0],[1,0,2],[1,0,2,3]] [7,8,82,83],.ret]
def BK.b0 (k:Nat) (ah:Ac) (dS:Int):(Int×(List Ab))->Option (AN (Int×(List Ab)) ((List Ab)) (Ac×Av×Int)):=fun s=>match s with
 |(i9,df)=>
   bif decide (i9<(ah.Ai.Ak.Ah.length:Int)) then
    bif decide (((df.length:Nat):Int)<(8:Int)) then
     (at? ah.Ai.Ak.Ah i9).bind fun bR=>
     (ah.Ap.at? dS).bind fun cd=>
     (cd.at? bR.At.Ac).bind fun dp=>
     bif decide (dp<=bR.At.No) then
      (eO 72 df bR).bind fun nC=>
      some (.next (ab (i9+1),nC))
     else
      some (.next (ab (i9+1),df))
    else
     some (.brk df)
   else
    some (.brk df)
def BK.h0 (ah:Ac) (dS:Int) (x6:Ac) (x7:Ad) (x8:(Aa 6 Int)):(Int×(List Ab))->St:=fun s=>match s with
 |(i9,df)=>⟨[(1,.int .i64 dS),(2,.ptr 0 0 0),(4,.ptr 0 1 0),(5,.ptr 0 5 0),(7,.ptr 0 7 0),(8,.ptr 0 8 0),(9,.int .i64 i9)],[(0,.box ([.int .i64 ah.Me,.sl 64 (List.map (Aa.c (n:=2) (Aa.c (n:=32) ae)) ah.Ad.Aj),.sl 65 (List.map As.c ah.Ad.Af),.sl 8 (List.map Ab.c ah.Ai.Ak.Ah),.int .i64 ah.Ai.AS,.int .i64 ah.Ai.Aq,.int .i64 ah.Ai.Used]++(Aa.c (n:=6) (Aa.c (n:=6) eI) ah.Ap))),(1,.box ([.int .i64 0,.loc 0 2 64 0 0 0,.loc 0 3 65 0 0 0,.loc 0 4 8 0 0 0,.int .i64 0,.int .i64 0,.int .i64 0]++(Aa.c (n:=6) (Aa.c (n:=6) eI) (Aa.rep 6 ((Aa.rep 6 (0:Int)):(Aa 6 Int)))))),(2,.arr 113 64 (List.map (Aa.c (n:=2) (Aa.c (n:=32) ae)) [])),(3,.arr 116 65 (List.map As.c [])),(4,.arr 29 8 (List.map Ab.c [])),(5,.box ([.int .i64 0,.int .i64 0]++(Aa.c (n:=6) eI (Aa.rep 6 (0:Int))++([.loc 0 6 8 0 0 0])))),(6,.arr 29 8 (List.map Ab.c [])),(7,.box ([.int .i64 x6.Me,.sl 64 (List.map (Aa.c (n:=2) (Aa.c (n:=32) ae)) x7.Aj),.sl 65 (List.map As.c x7.Af),.sl 8 (List.map Ab.c x6.Ai.Ak.Ah),.int .i64 x6.Ai.AS,.int .i64 x6.Ai.Aq,.int .i64 x6.Ai.Used]++(Aa.c (n:=6) (Aa.c (n:=6) eI) x6.Ap))),(8,.box ([.int .i64 ah.Me,.int .i64 dS]++(Aa.c (n:=6) eI x8++([.loc 0 9 8 0 df.length df.length])))),(9,.arr 29 8 (List.map Ab.c df))],[],10,Tryz.f22.ntmps⟩
def BK.x0 (ah:Ac) (dS:Int) (x6:Ac) (x7:Ad) (x8:(Aa 6 Int)):(List Ab)->St:=fun fN=>⟨[(4,.ptr 0 0 0),(5,.ptr 0 4 0),(7,.ptr 0 6 0),(8,.ptr 0 7 0)],[(0,.box ([.int .i64 0,.loc 0 1 64 0 0 0,.loc 0 2 65 0 0 0,.loc 0 3 8 0 0 0,.int .i64 0,.int .i64 0,.int .i64 0]++(Aa.c (n:=6) (Aa.c (n:=6) eI) (Aa.rep 6 ((Aa.rep 6 (0:Int)):(Aa 6 Int)))))),(1,.arr 113 64 (List.map (Aa.c (n:=2) (Aa.c (n:=32) ae)) [])),(2,.arr 116 65 (List.map As.c [])),(3,.arr 29 8 (List.map Ab.c [])),(4,.box ([.int .i64 0,.int .i64 0]++(Aa.c (n:=6) eI (Aa.rep 6 (0:Int))++([.loc 0 5 8 0 0 0])))),(5,.arr 29 8 (List.map Ab.c [])),(6,.box ([.int .i64 x6.Me,.sl 64 (List.map (Aa.c (n:=2) (Aa.c (n:=32) ae)) x7.Aj),.sl 65 (List.map As.c x7.Af),.sl 8 (List.map Ab.c x6.Ai.Ak.Ah),.int .i64 x6.Ai.AS,.int .i64 x6.Ai.Aq,.int .i64 x6.Ai.Used]++(Aa.c (n:=6) (Aa.c (n:=6) eI) x6.Ap))),(7,.box ([.int .i64 ah.Me,.int .i64 dS]++(Aa.c (n:=6) eI x8++([.loc 0 8 8 0 fN.length fN.length])))),(8,.arr 29 8 (List.map Ab.c fN))],[],9,Tryz.f22.ntmps⟩
def BK (k:Nat) (ah:Ac) (dS:Int):Option (Ac×Av×Int):=
 (Cf k ah).bind fun x1=>
 bif (!decide (x1=(0:Int))) then
  some ((⟨0,(⟨[],[]⟩:Ad),(⟨(⟨[]⟩:Ak),0,0,0⟩:Ai),(Aa.rep 6 ((Aa.rep 6 (0:Int)):(Aa 6 Int)))⟩:Ac),(⟨0,0,(Aa.rep 6 (0:Int)),[]⟩:Av),96)
 else
  (CI k dS 0 5).bind fun x3=>
  bif x3 then
   bif decide (dS=ah.Me) then
    some ((⟨0,(⟨[],[]⟩:Ad),(⟨(⟨[]⟩:Ak),0,0,0⟩:Ai),(Aa.rep 6 ((Aa.rep 6 (0:Int)):(Aa 6 Int)))⟩:Ac),(⟨0,0,(Aa.rep 6 (0:Int)),[]⟩:Av),1)
   else
    (DX k ah).bind fun x6=>
    (D0 k x6.Ad).bind fun x7=>
    (B8 k ah.Ai.Ak.Ah).bind fun x8=>
    (ai (BK.b0 k ah dS) k (0,[])).bind fun oH=>match oH with
    |.next _=>none
    |.ret v_=>some v_
    |.brk fN=>
     some ((⟨x6.Me,x7,x6.Ai,x6.Ap⟩:Ac),(⟨ah.Me,dS,x8,fN⟩:Av),0)
  else
   some ((⟨0,(⟨[],[]⟩:Ad),(⟨(⟨[]⟩:Ak),0,0,0⟩:Ai),(Aa.rep 6 ((Aa.rep 6 (0:Int)):(Aa 6 Int)))⟩:Ac),(⟨0,0,(Aa.rep 6 (0:Int)),[]⟩:Av),1)
theorem FZ (k:Nat) (ah:Ac) (dS:Int) (r:Ac×Av×Int) (h0:BK k ah dS=some r):Ay Tryz.prog 22 [.agg (Ac.c ah),.int .i64 dS] (fun y=>y=.aw [.agg (Ac.c r.1),.agg (Av.c r.2.1),.int .i64 r.2.2]):=by
 refine PB Tryz.f22 EG.c [.cell 4 63,.cell 5 57,.tmp 6] ?_
 simp only[BK]at h0
 try simp only[EG.c,go_sem]
 refine aj h0 (FC k _) ?_ (fun x1 h0=>?_)<;>try simp only[go_sem]
 refine BS h0 ?_ ?_<;>intro c2 h0<;>have F:=c2<;>try simp only[F,go_sem]
 obtain rfl:=oi h0
 refine Ag rfl ?_
 try simp only[F,go_sem]
 refine aj h0 (C0 k _ _ _) ?_ (fun x3 h0=>?_)<;>try simp only[F,go_sem]
 refine AF F h0 ?_ ?_<;>intro F h0<;>try simp only[F,go_sem]
 refine AF F h0 ?_ ?_<;>intro F h0<;>try simp only[F,go_sem]
 obtain rfl:=oi h0
 refine Ag rfl ?_
 try simp only[F,go_sem]
 refine aj h0 (H9 k _) ?_ (fun x6 h0=>?_)<;>try simp only[F,go_sem]
 refine aj h0 (Ih k _) ?_ (fun x7 h0=>?_)<;>try simp only[F,go_sem]
 refine AL AE aO 1000 ?_
 try simp only[F,go_sem]
 refine bJ h0 (El k _) ?_ (fun x8 h0=>?_)<;>try simp only[F,go_sem]
 refine aG ?_
 try simp only[F,go_sem]
 obtain⟨oH,vH,h0⟩:=bs h0
 refine A5 vH (BK.h0 ah dS x6 x7 x8) (BK.x0 ah dS x6 x7 x8) ?_ ?_ ?_
 refine Al.go [1,2,4,5,7,8,9] [0,16,17,18,19,32,33,288,544,560] rfl ?_
 try simp only[BK.h0,F,go_sem]
 rintro⟨i9,df⟩ bO Bd Ba h1 az ax bg
 refine rS ?_
 simp only[BK.b0]at h1
 try simp only[EG.s0,BK.h0,F,go_sem]
 refine AF F h1 ?_ ?_<;>intro F h1<;>try simp only[F,go_sem]
 refine AF F h1 ?_ ?_<;>intro F h1<;>try simp only[F,go_sem]
 obtain⟨bR,ml,h1⟩:=bs h1
 have F:=an (aI ml) (an (aH Ab.c ml) F)
 try simp only[F,go_sem]
 refine AL AE aO 1000 ?_
 try simp only[F,go_sem]
 obtain⟨cd,kp,h1⟩:=bs h1
 have pZ:=Ao.bh vL (Ao.skip (Ao.self yo ah.Ap) ([.int .i64 ah.Me,.sl 64 (List.map (Aa.c (n:=2) (Aa.c (n:=32) ae)) ah.Ad.Aj),.sl 65 (List.map As.c ah.Ad.Af),.sl 8 (List.map Ab.c ah.Ai.Ak.Ah),.int .i64 ah.Ai.AS,.int .i64 ah.Ai.Aq,.int .i64 ah.Ai.Used]:List AV)) kp
 have tQ:=pZ.2
 try simp only[AA,AB,go_sem]at tQ
 have F:=an (aq kp) (an tQ F)
 try simp only[F,go_sem]
 obtain⟨dp,kt,h1⟩:=bs h1
 have arY:=Ao.bh fg pZ.1 kt
 have akC:=arY.2
 try simp only[go_sem]at akC
 have F:=an (aq kt) (an akC F)
 try simp only[F,go_sem]
 refine aG ?_
 try simp only[F,go_sem]
 refine AF F h1 ?_ ?_<;>intro F h1<;>try simp only[F,go_sem]
 obtain⟨nC,rP,h1⟩:=bs h1
 have aa0:=pu Ab.c rP
 try simp only[F,go_sem]at aa0
 have F:=an aa0 F
 try simp only[F,go_sem]
 refine Ax (az _ _ (oi h1).symm (Al.go [1,2,4,5,7,8,9] [0,1,2,3,4,5,6,7,8,9] rfl ?_))
 try simp only[BK.h0,F,go_sem]
 refine Ax (az _ _ (oi h1).symm (Al.go [1,2,4,5,7,8,9] [0,1,2,3,4,5,6,7,8,9] rfl ?_))
 try simp only[BK.h0,F,go_sem]
 refine Ax (ax _ _ (oi h1).symm (Al.go [4,5,7,8] [1,2,3,4,5,6,7,8,9] rfl ?_))
 try simp only[BK.x0,F,go_sem]
 refine Ax (ax _ _ (oi h1).symm (Al.go [4,5,7,8] [1,2,3,4,5,6,7,8,9] rfl ?_))
 try simp only[BK.x0,F,go_sem]
 rintro fN aA
 subst aA
 simp only at h0
 refine rS ?_
 try simp only[BK.x0,F,go_sem]
 refine AL AE aO 1000 ?_
 try simp only[F,go_sem]
 refine aG ?_
 try simp only[F,go_sem]
 obtain rfl:=oi h0
 refine Ag rfl ?_
 try simp only[F,go_sem]
 obtain rfl:=oi h0
 refine Ag rfl ?_
 try simp only[F,go_sem]
def ER.s0:SC:=
 SQ [SQ [RG [wV 33 3 3,wF 34 57 1 3,wD 35 38 34 [34],wL 36 35 38 3 [35],wO 37 .lss 3 33 36 3 4 [33,36]],CN 37 .skip (.exit 0)],.block 1 (SQ [RG [wF 40 57 1 3,wD 41 38 40 [40],wV 42 3 3,wI 43 38 41 42 [41,42],wD 44 29 43 [43],wU 45 90 44 29 45 [44],wK 46 .neq 45 45 0 45 4 [45]],CN 46 (SQ [RG [wN 2 97 45],.ret]) .skip]),RG [wV 38 3 3 [3],wK 39 .add 3 38 1 3 3 [38],wG 3 39 3 [39]]]
def ER.c:SC:=
 SQ [RG [wE 1 57 0 [0],wN 2 0 45 [2]],SQ [RG [wF 4 57 1 0,wD 5 3 4 [4],wC 6 54 #[.tmp 5,.const (.int .i64 0),.const (.int .i64 5)] #[3,3,3] 4 [5],wQ 7 6 4 [6],wV 8 7 4 [7],gd 8 false (wF 9 57 1 1),gd 8 false (wD 10 3 9 [9]),gd 8 false (wC 11 54 #[.tmp 10,.const (.int .i64 0),.const (.int .i64 5)] #[3,3,3] 4 [10]),gd 8 false (wQ 12 11 4 [11]),wT 13 8 12 4 [8,12],wV 14 13 4 [13],
 gd 14 false (wF 15 57 1 0),gd 14 false (wD 16 3 15 [15]),gd 14 false (wF 17 57 1 1),gd 14 false (wD 18 3 17 [17]),gd 14 false (wO 19 .eql 3 16 18 3 4 [16,18]),wT 20 14 19 4 [14,19],wV 21 20 4 [20],gd 21 false (wF 22 57 1 2),gd 21 false (wD 23 55 22 [22]),gd 21 false (wU 24 89 23 55 4 [23]),gd 21 false (wQ 25 24 4 [24]),wT 26 21 25 4 [21,25],wV 27 26 4 [26],gd 27 false (wF 28 57 1 3),
 gd 27 false (wD 29 38 28 [28]),gd 27 false (wL 30 29 38 3 [29]),gd 27 false (wK 31 .gtr 3 30 8 3 4 [30]),wT 32 27 31 4 [27,31]],CN 32 (SQ [RG [wN 2 97 45],.ret]) .skip],SQ [RG [wN 3 0 3],.block 0 (.loop ER.s0)],RG [wN 2 0 45],.ret]
def Cp.b0 (k:Nat) (s0:Av):Int->Option (AN (Int) (Unit) (Int)):=fun i9=>
 bif decide (i9<(s0.Ah.length:Int)) then
  (at? s0.Ah i9).bind fun bN=>
  (DW k bN).bind fun dA=>
  bif (!decide (dA=(0:Int))) then
   some (.ret 97)
  else
   some (.next (ab (i9+1)))
 else
  some (.brk ())
def Cp.h0 (s0:Av):Int->St:=fun i9=>⟨[(1,.ptr 0 0 0),(3,.int .i64 i9)],[(0,.box ([.int .i64 s0.Bs,.int .i64 s0.To]++(Aa.c (n:=6) eI s0.Have++([.sl 8 (List.map Ab.c s0.Ah)]))))],[],1,Tryz.f63.ntmps⟩
def Cp.x0:Unit->St:=fun _=>⟨[],[],[],1,Tryz.f63.ntmps⟩
def Cp (k:Nat) (s0:Av):Option (Int):=
 (CI k s0.Bs 0 5).bind fun x1=>
 bif x1 then
  (CI k s0.To 0 5).bind fun x3=>
  bif x3 then
   bif (!decide (s0.Bs=s0.To)) then
    (Cq k s0.Have).bind fun x6=>
    bif x6 then
     bif decide ((8:Int)<(s0.Ah.length:Int)) then
      some 97
     else
      (ai (Cp.b0 k s0) k 0).bind fun lQ=>match lQ with
      |.next _=>none
      |.ret v_=>some v_
      |.brk _=>
       some 0
    else
     some 97
   else
    some 97
  else
   some 97
 else
  some 97
theorem Ja (k:Nat) (s0:Av) (r:Int) (h0:Cp k s0=some r):Ay Tryz.prog 63 [.agg (Av.c s0)] (fun y=>y=.int .i64 r):=by
 refine PB Tryz.f63 ER.c [.tmp 2] ?_
 simp only[Cp]at h0
 try simp only[ER.c,go_sem]
 refine aj h0 (C0 k _ _ _) ?_ (fun x1 h0=>?_)<;>try simp only[go_sem]
 refine AP h0 ?_ ?_<;>intro c2 h0<;>have F:=c2<;>try simp only[F,go_sem]
 refine aj h0 (C0 k _ _ _) ?_ (fun x3 h0=>?_)<;>try simp only[F,go_sem]
 refine AF F h0 ?_ ?_<;>intro F h0<;>try simp only[F,go_sem]
 refine A7 F h0 ?_ ?_<;>intro F h0<;>try simp only[F,go_sem]
 refine aj h0 (Ii k _) ?_ (fun x6 h0=>?_)<;>try simp only[F,go_sem]
 refine AF F h0 ?_ ?_<;>intro F h0<;>try simp only[F,go_sem]
 refine AF F h0 ?_ ?_<;>intro F h0<;>try simp only[F,go_sem]
 obtain rfl:=oi h0
 refine Ag rfl ?_
 try simp only[F,go_sem]
 obtain⟨lQ,rQ,h0⟩:=bs h0
 refine A5 rQ (Cp.h0 s0) (Cp.x0) ?_ ?_ ?_
 refine Al.go [1,3] [0] rfl ?_
 try simp only[Cp.h0,F,go_sem]
 rintro i9 bO Bd Ba h1 az ax bg
 refine rS ?_
 simp only[Cp.b0]at h1
 try simp only[ER.s0,Cp.h0,F,go_sem]
 refine AF F h1 ?_ ?_<;>intro F h1<;>try simp only[F,go_sem]
 obtain⟨bN,gK,h1⟩:=bs h1
 have F:=an (aI gK) (an (aH Ab.c gK) F)
 try simp only[F,go_sem]
 refine aj h1 (FV k _) ?_ (fun dA h1=>?_)<;>try simp only[F,go_sem]
 refine A7 F h1 ?_ ?_<;>intro F h1<;>try simp only[F,go_sem]
 obtain rfl:=bg _ (oi h1).symm
 simp only at h0
 obtain rfl:=oi h0
 refine Ag rfl ?_
 try simp only[F,go_sem]
 refine Ax (az _ _ (oi h1).symm (Al.go [1,3] [0] rfl ?_))
 try simp only[Cp.h0,F,go_sem]
 refine Ax (ax _ _ (oi h1).symm (Al.go [] [] rfl ?_))
 try simp only[Cp.x0,F,go_sem]
 rintro _ aA
 subst aA
 simp only at h0
 refine rS ?_
 try simp only[Cp.x0,F,go_sem]
 obtain rfl:=oi h0
 refine Ag rfl ?_
 try simp only[F,go_sem]
 obtain rfl:=oi h0
 refine Ag rfl ?_
 try simp only[F,go_sem]
 obtain rfl:=oi h0
 refine Ag rfl ?_
 try simp only[F,go_sem]
 obtain rfl:=oi h0
 refine Ag rfl ?_
 try simp only[F,go_sem]
 obtain rfl:=oi h0
 refine Ag rfl ?_
 try simp only[F,go_sem]
def DA.s1:SC:=
 SQ [SQ [RG [wV 78 13 3,wK 79 .lss 3 78 6 3 4 [78]],CN 79 .skip (.exit 2)],.block 3 (.aS [wF 82 57 3 0,wD 83 3 82,wV 84 13 3,wF 85 57 3 0,wD 86 3 85,wV 87 13 3,wF 88 63 7 3,wI 89 61 88 86,wI 90 55 89 87,wD 91 3 90,wV 92 13 3,wF 93 57 3 2,wI 94 55 93 92,wD 95 3 94,oQ 96 (.call ⟨.builtin .max,#[.tmp 91,.tmp 95],#[3,3]⟩) 3,wF 97 63 7 3,wI 98 61 97 83,wI 99 55 98 84,wS 3 99 96] [[],[0],[],[],[3],[],
 [],[6,3,4],[6,3,4,7,5],[6,3,4,7,5,8],[],[],[11,10],[11,10,12],[6,3,4,7,5,8,9,11,10,12,13],[],[15,0,1],[15,0,1,16,2,3,4,5,6,7,8,9,10,11,12,13,14],[15,0,1,16,2,3,4,5,6,7,8,9,10,11,12,13,14,17]] [82,83,84,85,86,87,88,89,90,91,92,93,94,95,96,97,98,99]),RG [wV 80 13 3 [13],wK 81 .add 3 80 1 3 3 [80],wG 13 81 3 [81]]]
def DA.s0:SC:=
 SQ [SQ [RG [wV 31 8 3,wF 32 57 3 3,wD 33 38 32 [32],wL 34 33 38 3 [33],wO 35 .lss 3 31 34 3 4 [31,34]],CN 35 .skip (.exit 0)],.block 1 (SQ [RG [wF 38 57 3 3,wD 39 38 38 [38],wV 40 8 3,wI 41 38 39 40 [39,40],wD 42 29 41 [41],wA 9 29,wS 29 9 42 [42]],SQ [.aS [wF 43 29 9 0,wF 44 27 43 1,wD 45 3 44,wF 46 63 7 2,wF 47 42 46 0,wF 48 40 47 0,wD 49 38 48,wU 50 58 49 38 55,wF 51 29 9 0,wF 52 27 51 0,
 wD 53 3 52,oQ 54 (.index 55 (.tmp 50) (.tmp 53)) 3,wO 55 .gtr 3 45 54 3 4] [[],[0],[0,1],[],[3],[3,4],[3,4,5],[3,4,5,6],[],[8],[8,9],[3,4,5,6,7,8,9,10],[0,1,2,3,4,5,6,7,8,9,10,11]] [43,44,45,46,47,48,49,50,51,52,53,54],CN 55 (.exit 1) .skip],RG [wF 57 63 7 1,wD 58 36 57 [57],wF 59 63 7 2,wD 60 42 59 [59],wD 61 29 9 [9],wC 62 59 #[.tmp 58,.tmp 60,.tmp 61] #[36,42,29] 88 [58,60,61],wV 56 62 88 [62],
 wX 63 56 0 36,wX 64 56 1 42,wX 65 56 2 45 [56],wA 10 36,wA 11 42,wS 36 10 63 [63],wS 42 11 64 [64],wG 12 65 45 [65]],SQ [RG [wV 66 12 45,wK 67 .neq 45 66 0 45 4 [66]],CN 67 (SQ [RG [oQ 68 (.build 63 #[]) 63,wV 69 12 45 [12],wS 63 4 68 [68],oQ 5 (.assign (.const (.slice none 0 0))) 65,wG 6 69 45 [69]],.ret]) .skip],RG [wD 70 36 10 [10],wF 71 63 7 1,wS 36 71 70 [70,71]],RG [wD 72 42 11 [11],
 wF 73 63 7 2,wS 42 73 72 [72,73]]]),RG [wV 36 8 3 [8],wK 37 .add 3 36 1 3 3 [36],wG 8 37 3 [37]]]
def DA.c:SC:=
 SQ [RG [wE 2 63 0 [0],wE 3 57 1 [1],wA 4 63,oQ 5 (.assign (.const (.slice none 0 0))) 65 [5],wN 6 0 45 [6]],SQ [RG [wD 14 63 2,wU 15 57 14 63 45 [14],wK 16 .neq 45 15 0 45 4 [15]],CN 16 (SQ [RG [oQ 17 (.build 63 #[]) 63,wS 63 4 17 [17],oQ 5 (.assign (.const (.slice none 0 0))) 65,wN 6 96 45],.ret]) .skip],SQ [RG [wD 18 57 3,wU 19 63 18 57 45 [18],wK 20 .neq 45 19 0 45 4 [19],wV 21 20 4 [20],
 gd 21 false (wF 22 57 3 1),gd 21 false (wD 23 3 22 [22]),gd 21 false (wF 24 63 2 0),gd 21 false (wD 25 3 24 [24]),gd 21 false (wO 26 .neq 3 23 25 3 4 [23,25]),wT 27 21 26 4 [21,26]],CN 27 (SQ [RG [oQ 28 (.build 63 #[]) 63,wS 63 4 28 [28],oQ 5 (.assign (.const (.slice none 0 0))) 65,wN 6 97 45],.ret]) .skip],RG [wD 29 63 2,wU 30 61 29 63 63 [29],wA 7 63,wS 63 7 30 [30]],SQ [RG [wN 8 0 3],
 .block 0 (.loop DA.s0)],RG [wF 74 63 7 1,wD 75 36 74 [74],wU 76 48 75 36 36 [75],wF 77 63 7 1,wS 36 77 76 [76,77]],SQ [RG [wN 13 0 3],.block 2 (.loop DA.s1)],SQ [RG [wF 100 57 3 3,wD 101 38 100 [100],wL 102 101 38 3 [101],wK 103 .eql 3 102 0 3 4 [102]],CN 103 (SQ [RG [wD 104 63 7 [7],wS 63 4 104 [104],oQ 5 (.assign (.const (.slice none 0 0))) 65,wN 6 0 45],.ret]) .skip],.aS [wD 105 63 7,
 wF 106 63 2 0,wD 107 3 106,wF 108 57 3 0,wD 109 3 108,wF 110 63 7 2,wF 111 42 110 0,wF 112 40 111 0,wD 113 38 112,wU 114 58 113 38 55,oQ 115 (.build 57 #[(0,.tmp 107),(1,.tmp 109),(2,.tmp 114)]) 57,oQ 116 (.buildSlice 65 1 #[(0,.tmp 115)]) 65,wS 63 4 105,wG 5 116 65,wN 6 0 45] [[],[],[1],[],[3],[],[5],[5,6],[5,6,7],[5,6,7,8],[1,2,3,4,5,6,7,8,9],[1,2,3,4,5,6,7,8,9,10],[0,5,6,7,8,9],[1,2,3,4,5,6,7,
 8,9,10,11,0,12],[1,2,3,4,5,6,7,8,9,10,11,0,12,13]] [2,3,7,105,106,107,108,109,110,111,112,113,114,115,116],.ret]
def Bi.b0 (k:Nat) (s1:Av):(Ac×Int)->Option (AN (Ac×Int) (Ac) (Ac×(List Av)×Int)):=fun s=>match s with
 |(s7,i8)=>
   bif decide (i8<(s1.Ah.length:Int)) then
    (at? s1.Ah i8).bind fun bN=>
    (B8 k s7.Ai.Ak.Ah).bind fun dA=>
    (dA.at? bN.At.Ac).bind fun bx=>
    bif decide (bx<bN.At.No) then
     some (.next (s7,ab (i8+1)))
    else
     (Dg k s7.Ad s7.Ai bN).bind fun cd=>
     bif (!decide (cd.2.2=(0:Int))) then
      some (.ret ((⟨0,(⟨[],[]⟩:Ad),(⟨(⟨[]⟩:Ak),0,0,0⟩:Ai),(Aa.rep 6 ((Aa.rep 6 (0:Int)):(Aa 6 Int)))⟩:Ac),[],cd.2.2))
     else
      some (.next ((⟨s7.Me,cd.1,cd.2.1,s7.Ap⟩:Ac),ab (i8+1)))
   else
    some (.brk s7)
def Bi.b1 (k:Nat) (s1:Av):(Ac×Int)->Option (AN (Ac×Int) (Ac) (Ac×(List Av)×Int)):=fun s=>match s with
 |(fP,i20)=>
   bif decide (i20<(6:Int)) then
    (fP.Ap.at? s1.Bs).bind fun bE=>
    (bE.at? i20).bind fun fu=>
    (s1.Have.at? i20).bind fun cJ=>
    some (.next ((⟨fP.Me,fP.Ad,fP.Ai,fP.Ap.set s1.Bs (bE.set i20 (max fu cJ))⟩:Ac),ab (i20+1)))
   else
    some (.brk fP)
def Bi.h0 (ah:Ac) (s1:Av):(Ac×Int)->St:=fun s=>match s with
 |(s7,i8)=>⟨[(2,.ptr 0 0 0),(3,.ptr 0 1 0),(4,.ptr 0 2 0),(7,.ptr 0 6 0),(8,.int .i64 i8)],[(0,.box ([.int .i64 ah.Me,.sl 64 (List.map (Aa.c (n:=2) (Aa.c (n:=32) ae)) ah.Ad.Aj),.sl 65 (List.map As.c ah.Ad.Af),.sl 8 (List.map Ab.c ah.Ai.Ak.Ah),.int .i64 ah.Ai.AS,.int .i64 ah.Ai.Aq,.int .i64 ah.Ai.Used]++(Aa.c (n:=6) (Aa.c (n:=6) eI) ah.Ap))),(1,.box ([.int .i64 s1.Bs,.int .i64 s1.To]++(Aa.c (n:=6) eI s1.Have++([.sl 8 (List.map Ab.c s1.Ah)])))),(2,.box ([.int .i64 0,.loc 0 3 64 0 0 0,.loc 0 4 65 0 0 0,.loc 0 5 8 0 0 0,.int .i64 0,.int .i64 0,.int .i64 0]++(Aa.c (n:=6) (Aa.c (n:=6) eI) (Aa.rep 6 ((Aa.rep 6 (0:Int)):(Aa 6 Int)))))),(3,.arr 113 64 (List.map (Aa.c (n:=2) (Aa.c (n:=32) ae)) [])),(4,.arr 116 65 (List.map As.c [])),(5,.arr 29 8 (List.map Ab.c [])),(6,.box ([.int .i64 s7.Me,.sl 64 (List.map (Aa.c (n:=2) (Aa.c (n:=32) ae)) s7.Ad.Aj),.sl 65 (List.map As.c s7.Ad.Af),.sl 8 (List.map Ab.c s7.Ai.Ak.Ah),.int .i64 s7.Ai.AS,.int .i64 s7.Ai.Aq,.int .i64 s7.Ai.Used]++(Aa.c (n:=6) (Aa.c (n:=6) eI) s7.Ap)))],[],7,Tryz.f24.ntmps⟩
def Bi.x0 (ah:Ac) (s1:Av):Ac->St:=fun s9=>⟨[(2,.ptr 0 0 0),(3,.ptr 0 1 0),(4,.ptr 0 2 0),(7,.ptr 0 6 0)],[(0,.box ([.int .i64 ah.Me,.sl 64 (List.map (Aa.c (n:=2) (Aa.c (n:=32) ae)) ah.Ad.Aj),.sl 65 (List.map As.c ah.Ad.Af),.sl 8 (List.map Ab.c ah.Ai.Ak.Ah),.int .i64 ah.Ai.AS,.int .i64 ah.Ai.Aq,.int .i64 ah.Ai.Used]++(Aa.c (n:=6) (Aa.c (n:=6) eI) ah.Ap))),(1,.box ([.int .i64 s1.Bs,.int .i64 s1.To]++(Aa.c (n:=6) eI s1.Have++([.sl 8 (List.map Ab.c s1.Ah)])))),(2,.box ([.int .i64 0,.loc 0 3 64 0 0 0,.loc 0 4 65 0 0 0,.loc 0 5 8 0 0 0,.int .i64 0,.int .i64 0,.int .i64 0]++(Aa.c (n:=6) (Aa.c (n:=6) eI) (Aa.rep 6 ((Aa.rep 6 (0:Int)):(Aa 6 Int)))))),(3,.arr 113 64 (List.map (Aa.c (n:=2) (Aa.c (n:=32) ae)) [])),(4,.arr 116 65 (List.map As.c [])),(5,.arr 29 8 (List.map Ab.c [])),(6,.box ([.int .i64 s9.Me,.sl 64 (List.map (Aa.c (n:=2) (Aa.c (n:=32) ae)) s9.Ad.Aj),.sl 65 (List.map As.c s9.Ad.Af),.sl 8 (List.map Ab.c s9.Ai.Ak.Ah),.int .i64 s9.Ai.AS,.int .i64 s9.Ai.Aq,.int .i64 s9.Ai.Used]++(Aa.c (n:=6) (Aa.c (n:=6) eI) s9.Ap)))],[],7,Tryz.f24.ntmps⟩
def Bi.h1 (ah:Ac) (s1:Av):(Ac×Int)->St:=fun s=>match s with
 |(fP,i20)=>⟨[(2,.ptr 0 0 0),(3,.ptr 0 1 0),(4,.ptr 0 2 0),(7,.ptr 0 6 0),(13,.int .i64 i20)],[(0,.box ([.int .i64 ah.Me,.sl 64 (List.map (Aa.c (n:=2) (Aa.c (n:=32) ae)) ah.Ad.Aj),.sl 65 (List.map As.c ah.Ad.Af),.sl 8 (List.map Ab.c ah.Ai.Ak.Ah),.int .i64 ah.Ai.AS,.int .i64 ah.Ai.Aq,.int .i64 ah.Ai.Used]++(Aa.c (n:=6) (Aa.c (n:=6) eI) ah.Ap))),(1,.box ([.int .i64 s1.Bs,.int .i64 s1.To]++(Aa.c (n:=6) eI s1.Have++([.sl 8 (List.map Ab.c s1.Ah)])))),(2,.box ([.int .i64 0,.loc 0 3 64 0 0 0,.loc 0 4 65 0 0 0,.loc 0 5 8 0 0 0,.int .i64 0,.int .i64 0,.int .i64 0]++(Aa.c (n:=6) (Aa.c (n:=6) eI) (Aa.rep 6 ((Aa.rep 6 (0:Int)):(Aa 6 Int)))))),(3,.arr 113 64 (List.map (Aa.c (n:=2) (Aa.c (n:=32) ae)) [])),(4,.arr 116 65 (List.map As.c [])),(5,.arr 29 8 (List.map Ab.c [])),(6,.box ([.int .i64 fP.Me,.sl 64 (List.map (Aa.c (n:=2) (Aa.c (n:=32) ae)) fP.Ad.Aj),.sl 65 (List.map As.c fP.Ad.Af),.sl 8 (List.map Ab.c fP.Ai.Ak.Ah),.int .i64 fP.Ai.AS,.int .i64 fP.Ai.Aq,.int .i64 fP.Ai.Used]++(Aa.c (n:=6) (Aa.c (n:=6) eI) fP.Ap)))],[],7,Tryz.f24.ntmps⟩
def Bi.x1 (ah:Ac) (s1:Av):Ac->St:=fun ca=>⟨[(2,.ptr 0 0 0),(3,.ptr 0 1 0),(4,.ptr 0 2 0),(7,.ptr 0 6 0)],[(0,.box ([.int .i64 ah.Me,.sl 64 (List.map (Aa.c (n:=2) (Aa.c (n:=32) ae)) ah.Ad.Aj),.sl 65 (List.map As.c ah.Ad.Af),.sl 8 (List.map Ab.c ah.Ai.Ak.Ah),.int .i64 ah.Ai.AS,.int .i64 ah.Ai.Aq,.int .i64 ah.Ai.Used]++(Aa.c (n:=6) (Aa.c (n:=6) eI) ah.Ap))),(1,.box ([.int .i64 s1.Bs,.int .i64 s1.To]++(Aa.c (n:=6) eI s1.Have++([.sl 8 (List.map Ab.c s1.Ah)])))),(2,.box ([.int .i64 0,.loc 0 3 64 0 0 0,.loc 0 4 65 0 0 0,.loc 0 5 8 0 0 0,.int .i64 0,.int .i64 0,.int .i64 0]++(Aa.c (n:=6) (Aa.c (n:=6) eI) (Aa.rep 6 ((Aa.rep 6 (0:Int)):(Aa 6 Int)))))),(3,.arr 113 64 (List.map (Aa.c (n:=2) (Aa.c (n:=32) ae)) [])),(4,.arr 116 65 (List.map As.c [])),(5,.arr 29 8 (List.map Ab.c [])),(6,.box ([.int .i64 ca.Me,.sl 64 (List.map (Aa.c (n:=2) (Aa.c (n:=32) ae)) ca.Ad.Aj),.sl 65 (List.map As.c ca.Ad.Af),.sl 8 (List.map Ab.c ca.Ai.Ak.Ah),.int .i64 ca.Ai.AS,.int .i64 ca.Ai.Aq,.int .i64 ca.Ai.Used]++(Aa.c (n:=6) (Aa.c (n:=6) eI) ca.Ap)))],[],7,Tryz.f24.ntmps⟩
def Bi (k:Nat) (ah:Ac) (s1:Av):Option (Ac×(List Av)×Int):=
 (Cf k ah).bind fun x1=>
 bif (!decide (x1=(0:Int))) then
  some ((⟨0,(⟨[],[]⟩:Ad),(⟨(⟨[]⟩:Ak),0,0,0⟩:Ai),(Aa.rep 6 ((Aa.rep 6 (0:Int)):(Aa 6 Int)))⟩:Ac),[],96)
 else
  (Cp k s1).bind fun x3=>
  bif decide (x3=(0:Int)) then
   bif (!decide (s1.To=ah.Me)) then
    some ((⟨0,(⟨[],[]⟩:Ad),(⟨(⟨[]⟩:Ak),0,0,0⟩:Ai),(Aa.rep 6 ((Aa.rep 6 (0:Int)):(Aa 6 Int)))⟩:Ac),[],97)
   else
    (DX k ah).bind fun x6=>
    (ai (Bi.b0 k s1) k (x6,0)).bind fun oG=>match oG with
    |.next _=>none
    |.ret v_=>some v_
    |.brk s9=>
     (D0 k s9.Ad).bind fun mi=>
     (ai (Bi.b1 k s1) k ((⟨s9.Me,mi,s9.Ai,s9.Ap⟩:Ac),0)).bind fun r27=>match r27 with
     |.next _=>none
     |.ret v_=>some v_
     |.brk ca=>
      bif decide ((s1.Ah.length:Int)=(0:Int)) then
       some (ca,[],0)
      else
       (B8 k ca.Ai.Ak.Ah).bind fun kj=>
       some (ca,[(⟨ah.Me,s1.Bs,kj,[]⟩:Av)],0)
  else
   some ((⟨0,(⟨[],[]⟩:Ad),(⟨(⟨[]⟩:Ak),0,0,0⟩:Ai),(Aa.rep 6 ((Aa.rep 6 (0:Int)):(Aa 6 Int)))⟩:Ac),[],97)
theorem F0 (k:Nat) (ah:Ac) (s1:Av) (r:Ac×(List Av)×Int) (h0:Bi k ah s1=some r):Ay Tryz.prog 24 [.agg (Ac.c ah),.agg (Av.c s1)] (fun y=>y=.aw [.agg (Ac.c r.1),.sl 9 (List.map Av.c r.2.1),.int .i64 r.2.2]):=by
 refine PB Tryz.f24 DA.c [.cell 4 63,.tmp 5,.tmp 6] ?_
 simp only[Bi]at h0
 try simp only[DA.c,go_sem]
 refine aj h0 (FC k _) ?_ (fun x1 h0=>?_)<;>try simp only[go_sem]
 refine BS h0 ?_ ?_<;>intro c2 h0<;>have F:=c2<;>try simp only[F,go_sem]
 obtain rfl:=oi h0
 refine Ag rfl ?_
 try simp only[F,go_sem]
 refine aj h0 (Ja k _) ?_ (fun x3 h0=>?_)<;>try simp only[F,go_sem]
 refine AF F h0 ?_ ?_<;>intro F h0<;>try simp only[F,go_sem]
 refine A7 F h0 ?_ ?_<;>intro F h0<;>try simp only[F,go_sem]
 obtain rfl:=oi h0
 refine Ag rfl ?_
 try simp only[F,go_sem]
 refine aj h0 (H9 k _) ?_ (fun x6 h0=>?_)<;>try simp only[F,go_sem]
 obtain⟨oG,vG,h0⟩:=bs h0
 refine A5 vG (Bi.h0 ah s1) (Bi.x0 ah s1) ?_ ?_ ?_
 refine Al.go [2,3,4,7,8] [0,16,32,33,34,35,320] rfl ?_
 try simp only[Bi.h0,F,go_sem]
 rintro⟨s7,i8⟩ bO Bd Ba h1 az ax bg
 refine rS ?_
 simp only[Bi.b0]at h1
 try simp only[DA.s0,Bi.h0,F,go_sem]
 refine AF F h1 ?_ ?_<;>intro F h1<;>try simp only[F,go_sem]
 obtain⟨bN,gK,h1⟩:=bs h1
 have F:=an (aI gK) (an (aH Ab.c gK) F)
 try simp only[F,go_sem]
 refine AL AE aO 1000 ?_
 try simp only[F,go_sem]
 refine bJ h1 (El k _) ?_ (fun dA h1=>?_)<;>try simp only[F,go_sem]
 obtain⟨bx,iv,h1⟩:=bs h1
 have pY:=(Ao.oL fg iv).2
 try simp only[go_sem]at pY
 have F:=an (aq iv) (an pY F)
 try simp only[F,go_sem]
 refine aG ?_
 try simp only[F,go_sem]
 refine AF F h1 ?_ ?_<;>intro F h1<;>try simp only[F,go_sem]
 refine Ax (az _ _ (oi h1).symm (Al.go [2,3,4,7,8] [0,1,2,3,4,5,6] rfl ?_))
 try simp only[Bi.h0,F,go_sem]
 refine aj h1 (H7 k _ _ _) ?_ (fun cd h1=>?_)<;>try simp only[F,go_sem]
 refine A7 F h1 ?_ ?_<;>intro F h1<;>try simp only[F,go_sem]
 obtain rfl:=bg _ (oi h1).symm
 simp only at h0
 obtain rfl:=oi h0
 refine Ag rfl ?_
 try simp only[F,go_sem]
 refine Ax (az _ _ (oi h1).symm (Al.go [2,3,4,7,8] [0,1,2,3,4,5,6] rfl ?_))
 try simp only[Bi.h0,F,go_sem]
 refine Ax (ax _ _ (oi h1).symm (Al.go [2,3,4,7] [0,1,2,3,4,5,6] rfl ?_))
 try simp only[Bi.x0,F,go_sem]
 rintro s9 aA
 subst aA
 simp only at h0
 refine rS ?_
 try simp only[Bi.x0,F,go_sem]
 refine aj h0 (Ih k _) ?_ (fun mi h0=>?_)<;>try simp only[F,go_sem]
 obtain⟨r27,asv,h0⟩:=bs h0
 refine A5 asv (Bi.h1 ah s1) (Bi.x1 ah s1) ?_ ?_ ?_
 refine Al.go [2,3,4,7,13] [0,1,2,3,4,5,6] rfl ?_
 try simp only[Bi.h1,F,go_sem]
 rintro⟨fP,i20⟩ bO Bd Ba h1 az ax bg
 refine rS ?_
 simp only[Bi.b1]at h1
 try simp only[DA.s1,Bi.h1,F,go_sem]
 refine AF F h1 ?_ ?_<;>intro F h1<;>try simp only[F,go_sem]
 refine AL AE aO 1000 ?_
 try simp only[F,go_sem]
 obtain⟨bE,gL,h1⟩:=bs h1
 have tK:=Ao.bh vL (Ao.skip (Ao.self yo fP.Ap) ([.int .i64 fP.Me,.sl 64 (List.map (Aa.c (n:=2) (Aa.c (n:=32) ae)) fP.Ad.Aj),.sl 65 (List.map As.c fP.Ad.Af),.sl 8 (List.map Ab.c fP.Ai.Ak.Ah),.int .i64 fP.Ai.AS,.int .i64 fP.Ai.Aq,.int .i64 fP.Ai.Used]:List AV)) gL
 have aaU:=tK.2
 try simp only[AA,AB,go_sem]at aaU
 have F:=an (aq gL) (an aaU F)
 try simp only[F,go_sem]
 obtain⟨fu,alf,h1⟩:=bs h1
 have akk:=Ao.bh fg tK.1 alf
 have akF:=akk.2
 try simp only[go_sem]at akF
 have F:=an (aq alf) (an akF F)
 try simp only[F,go_sem]
 obtain⟨cJ,dZ,h1⟩:=bs h1
 have acZ:=Ao.bh fg (Ao.skip (Ao.app abf [.sl 8 (List.map Ab.c s1.Ah)] (Ao.self abf s1.Have)) ([.int .i64 s1.Bs,.int .i64 s1.To]:List AV)) dZ
 have akG:=acZ.2
 try simp only[AA,AB,go_sem]at akG
 have q26:=akk.1.ow (max fu cJ)
 try simp only[AA,AB,go_sem]at q26
 have F:=an (aq dZ) (an akG F)
 try simp only[q26,F,go_sem]
 refine aG ?_
 try simp only[F,go_sem]
 refine Ax (az _ _ (oi h1).symm (Al.go [2,3,4,7,13] [0,1,2,3,4,5,6] rfl ?_))
 try simp only[Bi.h1,F,go_sem]
 refine Ax (ax _ _ (oi h1).symm (Al.go [2,3,4,7] [0,1,2,3,4,5,6] rfl ?_))
 try simp only[Bi.x1,F,go_sem]
 rintro ca aA
 subst aA
 simp only at h0
 refine rS ?_
 try simp only[Bi.x1,F,go_sem]
 refine AF F h0 ?_ ?_<;>intro F h0<;>try simp only[F,go_sem]
 obtain rfl:=oi h0
 refine Ag rfl ?_
 try simp only[F,go_sem]
 refine AL AE aO 1000 ?_
 try simp only[F,go_sem]
 refine bJ h0 (El k _) ?_ (fun kj h0=>?_)<;>try simp only[F,go_sem]
 refine aG ?_
 try simp only[F,go_sem]
 obtain rfl:=oi h0
 refine Ag rfl ?_
 try simp only[F,go_sem]
 all_goals repeat' (first|exact NL.refl _|exact NL.nil _|exact AZ.refl _|exact AZ.nil|exact Bm.refl _|exact Bm.nil|exact BU.nil|exact BP.nil|refine BU.cons _ _ _ _ _ ?_ ?_|refine BP.cons _ _ _ _ _ ?_ ?_|refine B2.box _ _ ?_|refine B2.arr _ _ _ _ ?_|refine AZ.cons ?_ ?_|refine AZ.append ?_ ?_|refine NL.lp ?_|refine NL.rD ?_|refine NL.tE ?_|refine Bm.append ?_ ?_|refine Bm.cons ?_ ?_|with_reducible refine And.intro ?_ ?_|rfl)
 obtain rfl:=oi h0
 refine Ag rfl ?_
 try simp only[F,go_sem]
def HK.c:SC:=
 SQ [RG [wE 1 36 0 [0],wA 2 36,wA 3 42,wN 4 0 45 [4]],SQ [RG [wD 10 36 1,wU 11 80 10 36 4 [10],wQ 12 11 4 [11]],CN 12 (SQ [RG [oQ 13 (.build 36 #[]) 36,oQ 14 (.build 42 #[]) 42,wS 36 2 13 [13],wS 42 3 14 [14],wN 4 94 45],.ret]) .skip],RG [wD 15 36 1 [1],wU 16 81 15 36 33 [15],wG 5 16 33 [16]],RG [wV 18 5 33,wU 19 82 18 33 152 [18],wV 17 19 152 [19],wX 20 17 0 3,wX 21 17 1 151,wX 22 17 2 4 [17],
 wA 7 151,wG 6 20 3 [20],wS 151 7 21 [21],wG 8 22 4 [22]],SQ [RG [wV 23 8 4 [8],wQ 24 23 4 [23]],CN 24 (SQ [RG [oQ 25 (.build 36 #[]) 36,oQ 26 (.build 42 #[]) 42,wS 36 2 25 [25],wS 42 3 26 [26],wN 4 95 45],.ret]) .skip],RG [wV 27 5 33,wC 28 84 #[.tmp 27,.const (.int .i64 0),.const (.int .i64 0)] #[33,3,3] 3 [27],wV 29 5 33,wC 30 84 #[.tmp 29,.const (.int .i64 1),.const (.int .i64 0)] #[33,3,
 3] 3 [29],oQ 31 (.call ⟨.builtin .max,#[.tmp 28,.tmp 30],#[3,3]⟩) 3 [28,30],wK 32 .add 3 31 1 3 3 [31],wG 9 32 3 [32]],SQ [RG [wV 33 9 3,wK 34 .gtr 3 33 1000000 3 4 [33]],CN 34 (SQ [RG [oQ 35 (.build 36 #[]) 36,oQ 36 (.build 42 #[]) 42,wS 36 2 35 [35],wS 42 3 36 [36],wN 4 2 45],.ret]) .skip],.aS [wV 37 5 33,oQ 38 (.build 36 #[(0,.tmp 37)]) 36,wF 39 151 7 1,wD 40 38 39,wU 41 83 40 38 40,
 wV 42 6 3,wV 43 9 3,wF 44 151 7 2,wD 45 3 44,oQ 46 (.build 42 #[(0,.tmp 41),(1,.tmp 42),(2,.tmp 43),(3,.tmp 45)]) 42,wS 36 2 38,wS 42 3 46,wN 4 0 45] [[],[0],[],[2],[2,3],[],[],[],[7],[2,3,4,5,6,7,8],[0,1,2,3,4],[2,3,4,5,6,7,8,9,0,1,10],[2,3,4,5,6,7,8,9,0,1,10,11]] [5,6,7,9,37,38,39,40,41,42,43,44,45,46],.ret]
def Ej (k:Nat) (d0:Ad):Option (Ad×Ai×Int):=
 (Cg k d0).bind fun x1=>
 bif (!x1) then
  some ((⟨[],[]⟩:Ad),(⟨(⟨[]⟩:Ak),0,0,0⟩:Ai),94)
 else
  (Cs k d0).bind fun x3=>
  (Em k x3).bind fun x4=>
  bif (!x4.2.2) then
   some ((⟨[],[]⟩:Ad),(⟨(⟨[]⟩:Ak),0,0,0⟩:Ai),95)
  else
   (BM k x3 0 0).bind fun x6=>
   (BM k x3 1 0).bind fun x7=>
   bif decide ((1000000:Int)<ab ((max x6 x7)+1)) then
    some ((⟨[],[]⟩:Ad),(⟨(⟨[]⟩:Ak),0,0,0⟩:Ai),2)
   else
    (Cm k x4.2.1.Ah).bind fun x9=>
    some ((⟨x3,[]⟩:Ad),(⟨x9,x4.1,ab ((max x6 x7)+1),x4.2.1.Used⟩:Ai),0)
theorem Jg (k:Nat) (d0:Ad) (r:Ad×Ai×Int) (h0:Ej k d0=some r):Ay Tryz.prog 64 [.agg (Ad.c d0)] (fun y=>y=.aw [.agg (Ad.c r.1),.agg (Ai.c r.2.1),.int .i64 r.2.2]):=by
 refine PB Tryz.f64 HK.c [.cell 2 36,.cell 3 42,.tmp 4] ?_
 simp only[Ej]at h0
 try simp only[HK.c,go_sem]
 refine aj h0 (FE k _) ?_ (fun x1 h0=>?_)<;>try simp only[go_sem]
 refine BS h0 ?_ ?_<;>intro c2 h0<;>have F:=c2<;>try simp only[F,go_sem]
 obtain rfl:=oi h0
 refine Ag rfl ?_
 try simp only[F,go_sem]
 refine aj h0 (F3 k _) ?_ (fun x3 h0=>?_)<;>try simp only[F,go_sem]
 refine aj h0 (Ip k _) ?_ (fun x4 h0=>?_)<;>try simp only[F,go_sem]
 refine A7 F h0 ?_ ?_<;>intro F h0<;>try simp only[F,go_sem]
 obtain rfl:=oi h0
 refine Ag rfl ?_
 try simp only[F,go_sem]
 refine aj h0 (Fj k _ _ _) ?_ (fun x6 h0=>?_)<;>try simp only[F,go_sem]
 refine aj h0 (Fj k _ _ _) ?_ (fun x7 h0=>?_)<;>try simp only[F,go_sem]
 refine AF F h0 ?_ ?_<;>intro F h0<;>try simp only[F,go_sem]
 obtain rfl:=oi h0
 refine Ag rfl ?_
 try simp only[F,go_sem]
 refine AL AE aO 1000 ?_
 try simp only[F,go_sem]
 refine bJ h0 (Ik k _) ?_ (fun x9 h0=>?_)<;>try simp only[F,go_sem]
 refine aG ?_
 try simp only[F,go_sem]
 obtain rfl:=oi h0
 refine Ag rfl ?_
 try simp only[F,go_sem]
def ES.s0:SC:=
 SQ [SQ [RG [wV 18 6 3,wF 19 36 2 1,wD 20 34 19 [19],wL 21 20 34 3 [20],wO 22 .lss 3 18 21 3 4 [18,21]],CN 22 .skip (.exit 0)],.block 1 (SQ [RG [wN 7 0 3],SQ [RG [wV 25 1 58,wL 26 25 58 3 [25],wK 27 .gtr 3 26 0 3 4 [26]],CN 27 (RG [wV 28 1 58,wV 29 6 3,wV 30 1 58,wL 31 30 58 3 [30],wO 32 .rem 3 29 31 3 3 [29,31],wI 33 58 28 32 [28,32],wD 34 3 33 [33],wC 35 16 #[.tmp 34,.const (.int .i64 4)] #[3,
 3] 3 [34],wG 7 35 3 [35]]) .skip],RG [wF 36 36 2 1,wD 37 34 36 [36],wV 38 6 3,wI 39 34 37 38 [37,38],wD 40 116 39 [39],wA 8 116,wS 116 8 40 [40]],SQ [RG [wV 41 7 3,wK 42 .and 3 41 1 3 3 [41],wK 43 .eql 3 42 1 3 4 [42]],CN 43 (.aS [wV 44 5 33,wF 45 116 8 0,wD 46 3 45,wF 47 116 8 1,wJ 48 113 47 0,wD 49 92 48,wI 50 33 44 46,wJ 51 113 50 0,wS 92 51 49] [[],[],[1],[],[3],[3,4],[0,1,2],[0,1,2,6,3,4,
 5],[0,1,2,6,3,4,5,7]] [44,45,46,47,48,49,50,51]) .skip],RG [wV 52 7 3 [7],wK 53 .and 3 52 2 3 3 [52],wK 54 .eql 3 53 2 3 4 [53]],CN 54 (.aS [wV 55 5 33,wF 56 116 8 0,wD 57 3 56,wF 58 116 8 1,wJ 59 113 58 1,wD 60 92 59,wI 61 33 55 57,wJ 62 113 61 1,wS 92 62 60] [[],[],[1],[],[3],[3,4],[0,1,2],[0,1,2,6,3,4,5],[0,1,2,6,3,4,5,7]] [8,55,56,57,58,59,60,61,62]) .skip]),RG [wV 23 6 3 [6],
 wK 24 .add 3 23 1 3 3 [23],wG 6 24 3 [24]]]
def ES.c:SC:=
 SQ [RG [wE 2 36 0 [0],wA 4 36],SQ [RG [wD 9 36 2,wU 10 80 9 36 4 [9],wQ 11 10 4 [10]],CN 11 (SQ [RG [wD 12 36 2 [2],wU 13 87 12 36 36 [12],wS 36 4 13 [13]],.ret]) .skip],RG [oQ 14 (.buildSlice 33 0 #[]) 33,wF 15 36 2 0,wD 16 33 15 [15],wP 17 14 16 33 33 33 [14,16],wG 5 17 33 [17]],SQ [RG [wN 6 0 3],.block 0 (.loop ES.s0)],RG [wV 63 5 33 [5],oQ 64 (.build 36 #[(0,.tmp 63)]) 36 [63],
 wS 36 4 64 [64]],.ret]
def BJ.b0 (k:Nat) (d0:Ad) (cr:(List Int)):(Int×(List (Aa 2 (Aa 32 Int))))->Option (AN (Int×(List (Aa 2 (Aa 32 Int)))) ((List (Aa 2 (Aa 32 Int)))) (Ad)):=fun s=>match s with
 |(i5,l6)=>
   bif decide (i5<(d0.Af.length:Int)) then
    bif decide ((0:Int)<(cr.length:Int)) then
     (pO (cr.length:Int)).bind fun _=>
     (at? cr (Int.tmod i5 (cr.length:Int))).bind fun bN=>
     (Cc k bN 4).bind fun dA=>
     (at? d0.Af i5).bind fun bx=>
     bif decide (dV .i64 dA 1=(1:Int)) then
      (bx.AQ.at? 0).bind fun cd=>
      (at? l6 bx.At).bind fun dp=>
      (dp.at? 0).bind fun fS=>
      (dN l6 bx.At (dp.set 0 cd)).bind fun l19=>
      bif decide (dV .i64 dA 2=(2:Int)) then
       (bx.AQ.at? 1).bind fun gJ=>
       (at? l19 bx.At).bind fun iX=>
       (iX.at? 1).bind fun bE=>
       (dN l19 bx.At (iX.set 1 gJ)).bind fun l25=>
       some (.next (ab (i5+1),l25))
      else
       some (.next (ab (i5+1),l19))
     else
      bif decide (dV .i64 dA 2=(2:Int)) then
       (bx.AQ.at? 1).bind fun kg=>
       (at? l6 bx.At).bind fun mZ=>
       (mZ.at? 1).bind fun kj=>
       (dN l6 bx.At (mZ.set 1 kg)).bind fun l31=>
       some (.next (ab (i5+1),l31))
      else
       some (.next (ab (i5+1),l6))
    else
     (at? d0.Af i5).bind fun fv=>
     bif decide (dV .i64 0 1=(1:Int)) then
      (fv.AQ.at? 0).bind fun tX=>
      (at? l6 fv.At).bind fun rK=>
      (rK.at? 0).bind fun yf=>
      (dN l6 fv.At (rK.set 0 tX)).bind fun l38=>
      bif decide (dV .i64 0 2=(2:Int)) then
       (fv.AQ.at? 1).bind fun yg=>
       (at? l38 fv.At).bind fun mj=>
       (mj.at? 1).bind fun x42=>
       (dN l38 fv.At (mj.set 1 yg)).bind fun xB=>
       some (.next (ab (i5+1),xB))
      else
       some (.next (ab (i5+1),l38))
     else
      bif decide (dV .i64 0 2=(2:Int)) then
       (fv.AQ.at? 1).bind fun x46=>
       (at? l6 fv.At).bind fun x47=>
       (x47.at? 1).bind fun x48=>
       (dN l6 fv.At (x47.set 1 x46)).bind fun l50=>
       some (.next (ab (i5+1),l50))
      else
       some (.next (ab (i5+1),l6))
   else
    some (.brk l6)
def BJ.h0 (d0:Ad) (cr:(List Int)):(Int×(List (Aa 2 (Aa 32 Int))))->St:=fun s=>match s with
 |(i5,l6)=>⟨[(1,.sl 1 (List.map eI cr)),(2,.ptr 0 0 0),(4,.ptr 0 1 0),(5,.loc 0 4 64 0 l6.length l6.length),(6,.int .i64 i5)],[(0,.box ([.sl 64 (List.map (Aa.c (n:=2) (Aa.c (n:=32) ae)) d0.Aj),.sl 65 (List.map As.c d0.Af)])),(1,.box ([.loc 0 2 64 0 0 0,.loc 0 3 65 0 0 0])),(2,.arr 113 64 (List.map (Aa.c (n:=2) (Aa.c (n:=32) ae)) [])),(3,.arr 116 65 (List.map As.c [])),(4,.arr 113 64 (List.map (Aa.c (n:=2) (Aa.c (n:=32) ae)) l6))],[],5,Tryz.f65.ntmps⟩
def BJ.x0:(List (Aa 2 (Aa 32 Int)))->St:=fun l7=>⟨[(4,.ptr 0 0 0),(5,.loc 0 3 64 0 l7.length l7.length)],[(0,.box ([.loc 0 1 64 0 0 0,.loc 0 2 65 0 0 0])),(1,.arr 113 64 (List.map (Aa.c (n:=2) (Aa.c (n:=32) ae)) [])),(2,.arr 116 65 (List.map As.c [])),(3,.arr 113 64 (List.map (Aa.c (n:=2) (Aa.c (n:=32) ae)) l7))],[],4,Tryz.f65.ntmps⟩
def BJ (k:Nat) (d0:Ad) (cr:(List Int)):Option (Ad):=
 (Cg k d0).bind fun x1=>
 bif (!x1) then
  (DK k d0).bind fun x3=>
  some x3
 else
  (dI d0.Aj.length 64).bind fun _=>
  (ai (BJ.b0 k d0 cr) k (0,d0.Aj)).bind fun r51=>match r51 with
  |.next _=>none
  |.ret v_=>some v_
  |.brk l7=>
   some (⟨l7,[]⟩:Ad)
theorem Jc (k:Nat) (d0:Ad) (cr:(List Int)) (r:Ad) (h0:BJ k d0 cr=some r):Ay Tryz.prog 65 [.agg (Ad.c d0),.sl 1 (List.map eI cr)] (fun y=>y=.agg (Ad.c r)):=by
 refine PB Tryz.f65 ES.c [.cell 4 36] ?_
 simp only[BJ]at h0
 try simp only[ES.c,go_sem]
 refine aj h0 (FE k _) ?_ (fun x1 h0=>?_)<;>try simp only[go_sem]
 refine BS h0 ?_ ?_<;>intro c2 h0<;>have F:=c2<;>try simp only[F,go_sem]
 refine aj h0 (FD k _) ?_ (fun x3 h0=>?_)<;>try simp only[F,go_sem]
 obtain rfl:=oi h0
 refine Ag rfl ?_
 try simp only[F,go_sem]
 obtain⟨u4,yu4,h0⟩:=bs h0
 try simp only[jv yu4,F,go_sem]
 obtain⟨r51,asA,h0⟩:=bs h0
 refine A5 asA (BJ.h0 d0 cr) (BJ.x0) ?_ ?_ ?_
 refine Al.go [1,2,4,5,6] [0,16,17,18,80] rfl ?_
 try simp only[BJ.h0,F,go_sem]
 rintro⟨i5,l6⟩ bO Bd Ba h1 az ax bg
 refine rS ?_
 simp only[BJ.b0]at h1
 try simp only[ES.s0,BJ.h0,F,go_sem]
 refine AF F h1 ?_ ?_<;>intro F h1<;>try simp only[F,go_sem]
 refine AF F h1 ?_ ?_<;>intro F h1<;>try simp only[F,go_sem]
 obtain⟨u10,asB,h1⟩:=bs h1
 have F:=an (aeZ asB) F
 try simp only[F,go_sem]
 obtain⟨bN,gK,h1⟩:=bs h1
 have F:=an (aI gK) (an (aH eI gK) F)
 try simp only[F,go_sem]
 refine aj h1 (Cv k _ _) ?_ (fun dA h1=>?_)<;>try simp only[F,go_sem]
 obtain⟨bx,iv,h1⟩:=bs h1
 have F:=an (aI iv) (an (aH As.c iv) F)
 try simp only[F,go_sem]
 refine AF F h1 ?_ ?_<;>intro F h1<;>try simp only[F,go_sem]
 refine AL AE aO 1000 ?_
 try simp only[F,go_sem]
 obtain⟨cd,kp,h1⟩:=bs h1
 have pZ:=Ao.bh gN (Ao.skip (Ao.self gP bx.AQ) ([.int .i64 bx.At]:List AV)) kp
 have tQ:=pZ.2
 try simp only[AA,AB,go_sem]at tQ
 have F:=an (aq kp) (an tQ F)
 try simp only[F,go_sem]
 obtain⟨dp,kt,h1⟩:=bs h1
 have F:=an (aI kt) (an (aH (Aa.c (n:=2) (Aa.c (n:=32) ae)) kt) F)
 try simp only[F,go_sem]
 obtain⟨fS,tY,h1⟩:=bs h1
 have acY:=Ao.bh gN (Ao.self gP dp) tY
 have aaS:=acY.2
 try simp only[AA,AB,go_sem]at aaS
 have F:=an (aq tY) (an aaS F)
 try simp only[F,go_sem]
 obtain⟨l19,afB,h1⟩:=bs h1
 have q18:=acY.1.ow cd
 try simp only[AA,AB,go_sem]at q18
 have ahg:=lV (Aa.c (n:=2) (Aa.c (n:=32) ae)) afB
 try simp only[go_sem]at ahg
 have F:=an ahg (an (kW afB) (an (lW (Aa.c (n:=2) (Aa.c (n:=32) ae)) afB) F))
 try simp only[q18,F,go_sem]
 refine aG ?_
 try simp only[F,go_sem]
 refine AF F h1 ?_ ?_<;>intro F h1<;>try simp only[F,go_sem]
 refine AL AE aO 1000 ?_
 try simp only[F,go_sem]
 obtain⟨gJ,ff,h1⟩:=bs h1
 have vw:=Ao.bh gN (Ao.skip (Ao.self gP bx.AQ) ([.int .i64 bx.At]:List AV)) ff
 have aaT:=vw.2
 try simp only[AA,AB,go_sem]at aaT
 have F:=an (aq ff) (an aaT F)
 try simp only[F,go_sem]
 obtain⟨iX,vK,h1⟩:=bs h1
 have ahv:=aI vK
 simp only[F,go_sem]at ahv
 have F:=an ahv (an (aH (Aa.c (n:=2) (Aa.c (n:=32) ae)) vK) F)
 try simp only[F,go_sem]
 obtain⟨bE,gL,h1⟩:=bs h1
 have tK:=Ao.bh gN (Ao.self gP iX) gL
 have aaU:=tK.2
 try simp only[AA,AB,go_sem]at aaU
 have F:=an (aq gL) (an aaU F)
 try simp only[F,go_sem]
 obtain⟨l25,aa6,h1⟩:=bs h1
 have q24:=tK.1.ow gJ
 try simp only[AA,AB,go_sem]at q24
 have ahj:=lV (Aa.c (n:=2) (Aa.c (n:=32) ae)) aa6
 try simp only[go_sem]at ahj
 have akd:=lW (Aa.c (n:=2) (Aa.c (n:=32) ae)) aa6
 try simp only[F,go_sem]at akd
 have F:=an ahj (an (kW aa6) (an akd F))
 try simp only[q24,F,go_sem]
 refine aG ?_
 try simp only[F,go_sem]
 refine Ax (az _ _ (oi h1).symm (Al.go [1,2,4,5,6] [0,1,2,3,4] rfl ?_))
 try simp only[BJ.h0,F,go_sem]
 refine Ax (az _ _ (oi h1).symm (Al.go [1,2,4,5,6] [0,1,2,3,4] rfl ?_))
 try simp only[BJ.h0,F,go_sem]
 refine AF F h1 ?_ ?_<;>intro F h1<;>try simp only[F,go_sem]
 refine AL AE aO 1000 ?_
 try simp only[F,go_sem]
 obtain⟨kg,aba,h1⟩:=bs h1
 have ac0:=Ao.bh gN (Ao.skip (Ao.self gP bx.AQ) ([.int .i64 bx.At]:List AV)) aba
 have aaV:=ac0.2
 try simp only[AA,AB,go_sem]at aaV
 have F:=an (aq aba) (an aaV F)
 try simp only[F,go_sem]
 obtain⟨mZ,alg,h1⟩:=bs h1
 have F:=an (aI alg) (an (aH (Aa.c (n:=2) (Aa.c (n:=32) ae)) alg) F)
 try simp only[F,go_sem]
 obtain⟨kj,alh,h1⟩:=bs h1
 have akl:=Ao.bh gN (Ao.self gP mZ) alh
 have akI:=akl.2
 try simp only[AA,AB,go_sem]at akI
 have F:=an (aq alh) (an akI F)
 try simp only[F,go_sem]
 obtain⟨l31,afC,h1⟩:=bs h1
 have q30:=akl.1.ow kg
 try simp only[AA,AB,go_sem]at q30
 have ahm:=lV (Aa.c (n:=2) (Aa.c (n:=32) ae)) afC
 try simp only[go_sem]at ahm
 have F:=an ahm (an (kW afC) (an (lW (Aa.c (n:=2) (Aa.c (n:=32) ae)) afC) F))
 try simp only[q30,F,go_sem]
 refine aG ?_
 try simp only[F,go_sem]
 refine Ax (az _ _ (oi h1).symm (Al.go [1,2,4,5,6] [0,1,2,3,4] rfl ?_))
 try simp only[BJ.h0,F,go_sem]
 refine Ax (az _ _ (oi h1).symm (Al.go [1,2,4,5,6] [0,1,2,3,4] rfl ?_))
 try simp only[BJ.h0,F,go_sem]
 obtain⟨fv,abb,h1⟩:=bs h1
 have F:=an (aI abb) (an (aH As.c abb) F)
 try simp only[F,go_sem]
 refine AF F h1 ?_ ?_<;>intro F h1<;>try simp only[F,go_sem]
 refine AL AE aO 1000 ?_
 try simp only[F,go_sem]
 obtain⟨tX,alm,h1⟩:=bs h1
 have ar1:=Ao.bh gN (Ao.skip (Ao.self gP fv.AQ) ([.int .i64 fv.At]:List AV)) alm
 have akL:=ar1.2
 try simp only[AA,AB,go_sem]at akL
 have F:=an (aq alm) (an akL F)
 try simp only[F,go_sem]
 obtain⟨rK,aln,h1⟩:=bs h1
 have F:=an (aI aln) (an (aH (Aa.c (n:=2) (Aa.c (n:=32) ae)) aln) F)
 try simp only[F,go_sem]
 obtain⟨yf,alo,h1⟩:=bs h1
 have akn:=Ao.bh gN (Ao.self gP rK) alo
 have akM:=akn.2
 try simp only[AA,AB,go_sem]at akM
 have F:=an (aq alo) (an akM F)
 try simp only[F,go_sem]
 obtain⟨l38,afD,h1⟩:=bs h1
 have q37:=akn.1.ow tX
 try simp only[AA,AB,go_sem]at q37
 have aho:=lV (Aa.c (n:=2) (Aa.c (n:=32) ae)) afD
 try simp only[go_sem]at aho
 have F:=an aho (an (kW afD) (an (lW (Aa.c (n:=2) (Aa.c (n:=32) ae)) afD) F))
 try simp only[q37,F,go_sem]
 refine aG ?_
 try simp only[F,go_sem]
 refine AF F h1 ?_ ?_<;>intro F h1<;>try simp only[F,go_sem]
 refine AL AE aO 1000 ?_
 try simp only[F,go_sem]
 obtain⟨yg,abc,h1⟩:=bs h1
 have aaM:=Ao.bh gN (Ao.skip (Ao.self gP fv.AQ) ([.int .i64 fv.At]:List AV)) abc
 have aaW:=aaM.2
 try simp only[AA,AB,go_sem]at aaW
 have F:=an (aq abc) (an aaW F)
 try simp only[F,go_sem]
 obtain⟨mj,alq,h1⟩:=bs h1
 have ahw:=aI alq
 simp only[F,go_sem]at ahw
 have F:=an ahw (an (aH (Aa.c (n:=2) (Aa.c (n:=32) ae)) alq) F)
 try simp only[F,go_sem]
 obtain⟨x42,alr,h1⟩:=bs h1
 have ako:=Ao.bh gN (Ao.self gP mj) alr
 have akN:=ako.2
 try simp only[AA,AB,go_sem]at akN
 have F:=an (aq alr) (an akN F)
 try simp only[F,go_sem]
 obtain⟨xB,yl,h1⟩:=bs h1
 have q43:=ako.1.ow yg
 try simp only[AA,AB,go_sem]at q43
 have yX:=lV (Aa.c (n:=2) (Aa.c (n:=32) ae)) yl
 try simp only[go_sem]at yX
 have ake:=lW (Aa.c (n:=2) (Aa.c (n:=32) ae)) yl
 try simp only[F,go_sem]at ake
 have F:=an yX (an (kW yl) (an ake F))
 try simp only[q43,F,go_sem]
 refine aG ?_
 try simp only[F,go_sem]
 refine Ax (az _ _ (oi h1).symm (Al.go [1,2,4,5,6] [0,1,2,3,4] rfl ?_))
 try simp only[BJ.h0,F,go_sem]
 refine Ax (az _ _ (oi h1).symm (Al.go [1,2,4,5,6] [0,1,2,3,4] rfl ?_))
 try simp only[BJ.h0,F,go_sem]
 refine AF F h1 ?_ ?_<;>intro F h1<;>try simp only[F,go_sem]
 refine AL AE aO 1000 ?_
 try simp only[F,go_sem]
 obtain⟨x46,als,h1⟩:=bs h1
 have ar2:=Ao.bh gN (Ao.skip (Ao.self gP fv.AQ) ([.int .i64 fv.At]:List AV)) als
 have akO:=ar2.2
 try simp only[AA,AB,go_sem]at akO
 have F:=an (aq als) (an akO F)
 try simp only[F,go_sem]
 obtain⟨x47,alu,h1⟩:=bs h1
 have F:=an (aI alu) (an (aH (Aa.c (n:=2) (Aa.c (n:=32) ae)) alu) F)
 try simp only[F,go_sem]
 obtain⟨x48,alv,h1⟩:=bs h1
 have akp:=Ao.bh gN (Ao.self gP x47) alv
 have akP:=akp.2
 try simp only[AA,AB,go_sem]at akP
 have F:=an (aq alv) (an akP F)
 try simp only[F,go_sem]
 obtain⟨l50,aa8,h1⟩:=bs h1
 have q49:=akp.1.ow x46
 try simp only[AA,AB,go_sem]at q49
 have ahr:=lV (Aa.c (n:=2) (Aa.c (n:=32) ae)) aa8
 try simp only[go_sem]at ahr
 have F:=an ahr (an (kW aa8) (an (lW (Aa.c (n:=2) (Aa.c (n:=32) ae)) aa8) F))
 try simp only[q49,F,go_sem]
 refine aG ?_
 try simp only[F,go_sem]
 refine Ax (az _ _ (oi h1).symm (Al.go [1,2,4,5,6] [0,1,2,3,4] rfl ?_))
 try simp only[BJ.h0,F,go_sem]
 refine Ax (az _ _ (oi h1).symm (Al.go [1,2,4,5,6] [0,1,2,3,4] rfl ?_))
 try simp only[BJ.h0,F,go_sem]
 refine Ax (ax _ _ (oi h1).symm (Al.go [4,5] [1,2,3,4] rfl ?_))
 try simp only[BJ.x0,F,go_sem]
 rintro l7 aA
 subst aA
 simp only at h0
 refine rS ?_
 try simp only[BJ.x0,F,go_sem]
 obtain rfl:=oi h0
 refine Ag rfl ?_
 try simp only[F,go_sem]
def Hp.c:SC:=
 SQ [RG [wE 2 63 0 [0],wA 4 63,wN 5 0 45 [5]],SQ [RG [wD 9 63 2,wU 10 57 9 63 45 [9],wK 11 .neq 45 10 0 45 4 [10]],CN 11 (SQ [RG [oQ 12 (.build 63 #[]) 63,wS 63 4 12 [12],wN 5 96 45],.ret]) .skip],RG [wF 14 63 2 1,wD 15 36 14 [14],wV 16 1 58 [1],wW 17 65 15 16 36 58 36 [15,16],wU 18 64 17 36 88 [17],wV 13 18 88 [18],wX 19 13 0 36,wX 20 13 1 42,wX 21 13 2 45 [13],wA 6 36,wA 7 42,wS 36 6 19 [19],
 wS 42 7 20 [20],wG 8 21 45 [21]],SQ [RG [wV 22 8 45,wK 23 .neq 45 22 0 45 4 [22]],CN 23 (SQ [RG [oQ 24 (.build 63 #[]) 63,wV 25 8 45 [8],wS 63 4 24 [24],wG 5 25 45 [25]],.ret]) .skip],RG [wF 26 63 2 0 [2],wD 27 3 26 [26],wD 28 36 6 [6],wD 29 42 7 [7],oQ 30 (.build 63 #[(0,.tmp 27),(1,.tmp 28),(2,.tmp 29)]) 63 [27,28,29],wS 63 4 30 [30],wN 5 0 45],.ret]
def Ds (k:Nat) (ah:Ac) (cr:(List Int)):Option (Ac×Int):=
 (Cf k ah).bind fun x1=>
 bif (!decide (x1=(0:Int))) then
  some ((⟨0,(⟨[],[]⟩:Ad),(⟨(⟨[]⟩:Ak),0,0,0⟩:Ai),(Aa.rep 6 ((Aa.rep 6 (0:Int)):(Aa 6 Int)))⟩:Ac),96)
 else
  (BJ k ah.Ad cr).bind fun x3=>
  (Ej k x3).bind fun x4=>
  bif (!decide (x4.2.2=(0:Int))) then
   some ((⟨0,(⟨[],[]⟩:Ad),(⟨(⟨[]⟩:Ak),0,0,0⟩:Ai),(Aa.rep 6 ((Aa.rep 6 (0:Int)):(Aa 6 Int)))⟩:Ac),x4.2.2)
  else
   some ((⟨ah.Me,x4.1,x4.2.1,(Aa.rep 6 ((Aa.rep 6 (0:Int)):(Aa 6 Int)))⟩:Ac),0)
theorem Ie (k:Nat) (ah:Ac) (cr:(List Int)) (r:Ac×Int) (h0:Ds k ah cr=some r):Ay Tryz.prog 26 [.agg (Ac.c ah),.sl 1 (List.map eI cr)] (fun y=>y=.aw [.agg (Ac.c r.1),.int .i64 r.2]):=by
 refine PB Tryz.f26 Hp.c [.cell 4 63,.tmp 5] ?_
 simp only[Ds]at h0
 try simp only[Hp.c,go_sem]
 refine aj h0 (FC k _) ?_ (fun x1 h0=>?_)<;>try simp only[go_sem]
 refine BS h0 ?_ ?_<;>intro c2 h0<;>have F:=c2<;>try simp only[F,go_sem]
 obtain rfl:=oi h0
 refine Ag rfl ?_
 try simp only[F,go_sem]
 refine aj h0 (Jc k _ _) ?_ (fun x3 h0=>?_)<;>try simp only[F,go_sem]
 refine aj h0 (Jg k _) ?_ (fun x4 h0=>?_)<;>try simp only[F,go_sem]
 refine A7 F h0 ?_ ?_<;>intro F h0<;>try simp only[F,go_sem]
 obtain rfl:=oi h0
 refine Ag rfl ?_
 try simp only[F,go_sem]
 obtain rfl:=oi h0
 refine Ag rfl ?_
 try simp only[F,go_sem]
def HV.c:SC:=
 SQ [RG [wE 3 119 1 [1],wA 4 29],RG [wJ 8 119 3 0,wD 9 3 8 [8],wC 10 16 #[.tmp 9,.const (.int .i64 3)] #[3,3] 3 [9],wG 5 10 3 [10]],.aS [wV 11 5 3,wV 12 0 38,wU 13 58 12 38 55,wV 14 5 3,oQ 15 (.index 55 (.tmp 13) (.tmp 14)) 3,oQ 16 (.build 27 #[(0,.tmp 11),(1,.tmp 15)]) 27,wJ 17 119 3 1,wD 18 3 17,wC 19 16 #[.tmp 18,.const (.int .i64 6)] #[3,3] 3,wJ 20 119 3 2,wD 21 3 20,wC 22 16 #[.tmp 21,
 .const (.int .i64 50)] #[3,3] 3,wJ 23 119 3 3,wD 24 3 23,wC 25 16 #[.tmp 24,.const (.int .i64 50)] #[3,3] 3,oQ 26 (.build 29 #[(0,.tmp 16),(1,.tmp 19),(2,.tmp 22),(3,.tmp 25)]) 29,wA 6 29,wS 29 6 26] [[],[],[1],[],[1,2,3],[0,1,2,3,4],[],[6],[6,7,1,2],[],[9],[9,10,6,7,1,2,8],[],[12],[12,13,9,10,6,7,1,2,8,11],[0,1,2,3,4,5,6,7,8,9,10,11,12,13,14],[],[16,0,1,2,3,4,5,6,7,8,9,10,11,12,13,14,15]] [0,11,
 12,13,14,15,16,17,18,19,20,21,22,23,24,25,26],SQ [RG [wF 27 29 6 1,wD 28 3 27 [27],wK 29 .eql 3 28 0 3 4 [28],wV 30 29 4 [29],gd 30 true (wF 31 29 6 0),gd 30 true (wF 32 27 31 1 [31]),gd 30 true (wD 33 3 32 [32]),gd 30 true (wK 34 .gtr 3 33 0 3 4 [33]),wZ 35 30 34 4 [30,34]],CN 35 (SQ [RG [wF 36 29 6 2,⟨none,.store 3 (.tmp 36) (.const (.int .i64 0)),0,none,[36]⟩],RG [wV 37 5 3 [5],
 wJ 38 119 3 2 [3],wD 39 3 38 [38],wF 40 29 6 0,wF 41 27 40 1 [40],wD 42 3 41 [41],wW 43 16 39 42 3 3 3 [39,42],oQ 44 (.build 27 #[(0,.tmp 37),(1,.tmp 43)]) 27 [37,43],wF 45 29 6 4,wS 27 45 44 [44,45]],RG [wD 46 29 6 [6],wS 29 4 46 [46]],.ret]) .skip],SQ [RG [wF 47 29 6 1,wD 48 3 47 [47],wK 49 .eql 3 48 0 3 4 [48]],CN 49 (RG [wF 50 29 6 1,⟨none,.store 3 (.tmp 50) (.const (.int .i64 7)),0,none,
 [50]⟩]) .skip],RG [oQ 51 (.buildSlice 176 5 #[(0,.const (.string ⟨#[]⟩)),(1,.const (.string ⟨#[97]⟩)),(2,.const (.string ⟨#[112,105,101,99,101,32,49,55]⟩)),(3,.const (.string ⟨#[48,32,48,32,49,32,48,32,48,32,48]⟩)),(4,.const (.string ⟨#[97,32,116,101,120,116,32,111,102,32,97,32,108,101,110,103,116,104,32,116,104,97,116,32,116,97,107,101,115,32,116,104,114,101,101,32,104,97,108,118,101,115,32,111,
 102,32,97,32,112,97,103,101]⟩))]) 176,wG 7 51 176 [51]],RG [wV 52 7 176 [7],wJ 53 119 3 4 [3],wD 54 3 53 [53],wC 55 16 #[.tmp 54,.const (.int .i64 5)] #[3,3] 3 [54],wI 56 176 52 55 [52,55],wD 57 9 56 [56],wF 58 29 6 5,wS 9 58 57 [57,58]],RG [wD 59 29 6 [6],wS 29 4 59 [59]],.ret]
def En (k:Nat) (l0:(List Ab)) (n1:(Aa 5 Int)):Option (Ab):=
 (n1.at? 0).bind fun x1=>
 (Cc k x1 3).bind fun x2=>
 (B8 k l0).bind fun x3=>
 (x3.at? x2).bind fun x4=>
 (n1.at? 1).bind fun x5=>
 (Cc k x5 6).bind fun x6=>
 (n1.at? 2).bind fun x7=>
 (Cc k x7 50).bind fun x8=>
 (n1.at? 3).bind fun x9=>
 (Cc k x9 50).bind fun dz=>
 bif decide (x6=(0:Int)) then
  bif decide ((0:Int)<x4) then
   (Cc k x7 x4).bind fun bx=>
   some (⟨(⟨x2,x4⟩:Entry),x6,0,dz,(⟨x2,bx⟩:Entry),ByteArray.empty⟩:Ab)
  else
   (n1.at? 4).bind fun bR=>
   (Cc k bR 5).bind fun cd=>
   (at? [ByteArray.empty,(⟨#[97]⟩:ByteArray),(⟨#[112,105,101,99,101,32,49,55]⟩:ByteArray),(⟨#[48,32,48,32,49,32,48,32,48,32,48]⟩:ByteArray),(⟨#[97,32,116,101,120,116,32,111,102,32,97,32,108,101,110,103,116,104,32,116,104,97,116,32,116,97,107,101,115,32,116,104,114,101,101,32,104,97,108,118,101,115,32,111,102,32,97,32,112,97,103,101]⟩:ByteArray)] cd).bind fun dp=>
   some (⟨(⟨x2,x4⟩:Entry),7,x8,dz,(⟨0,0⟩:Entry),dp⟩:Ab)
 else
  (n1.at? 4).bind fun fS=>
  (Cc k fS 5).bind fun mi=>
  (at? [ByteArray.empty,(⟨#[97]⟩:ByteArray),(⟨#[112,105,101,99,101,32,49,55]⟩:ByteArray),(⟨#[48,32,48,32,49,32,48,32,48,32,48]⟩:ByteArray),(⟨#[97,32,116,101,120,116,32,111,102,32,97,32,108,101,110,103,116,104,32,116,104,97,116,32,116,97,107,101,115,32,116,104,114,101,101,32,104,97,108,118,101,115,32,111,102,32,97,32,112,97,103,101]⟩:ByteArray)] mi).bind fun jw=>
  some (⟨(⟨x2,x4⟩:Entry),x6,x8,dz,(⟨0,0⟩:Entry),jw⟩:Ab)
theorem Jt (k:Nat) (l0:(List Ab)) (n1:(Aa 5 Int)) (r:Ab) (h0:En k l0 n1=some r):Ay Tryz.prog 88 [.sl 8 (List.map Ab.c l0),.agg ((Aa.c (n:=5) eI) n1)] (fun y=>y=.agg (Ab.c r)):=by
 refine PB Tryz.f88 HV.c [.cell 4 29] ?_
 simp only[En]at h0
 try simp only[HV.c,go_sem]
 obtain⟨x1,jx,h0⟩:=bs h0
 have xY:=Ao.bh fg (Ao.self yn n1) jx
 have tO:=xY.2
 try simp only[AA,AB,go_sem]at tO
 have F:=an (aq jx) tO
 try simp only[F,go_sem]
 refine aj h0 (Cv k _ _) ?_ (fun x2 h0=>?_)<;>try simp only[F,go_sem]
 refine AL AE aO 1000 ?_
 try simp only[F,go_sem]
 refine bJ h0 (El k _) ?_ (fun x3 h0=>?_)<;>try simp only[F,go_sem]
 obtain⟨x4,bF,h0⟩:=bs h0
 have fF:=(Ao.oL fg bF).2
 try simp only[go_sem]at fF
 have F:=an (aq bF) (an fF F)
 try simp only[F,go_sem]
 obtain⟨x5,cn,h0⟩:=bs h0
 have tL:=Ao.bh fg (Ao.self yn n1) cn
 have oN:=tL.2
 try simp only[AA,AB,go_sem]at oN
 have F:=an (aq cn) (an oN F)
 try simp only[F,go_sem]
 refine bJ h0 (Cv k _ _) ?_ (fun x6 h0=>?_)<;>try simp only[F,go_sem]
 obtain⟨x7,dq,h0⟩:=bs h0
 have ma:=Ao.bh fg (Ao.self yn n1) dq
 have mh:=ma.2
 try simp only[AA,AB,go_sem]at mh
 have F:=an (aq dq) (an mh F)
 try simp only[F,go_sem]
 refine bJ h0 (Cv k _ _) ?_ (fun x8 h0=>?_)<;>try simp only[F,go_sem]
 obtain⟨x9,gM,h0⟩:=bs h0
 have mY:=Ao.bh fg (Ao.self yn n1) gM
 have tS:=mY.2
 try simp only[AA,AB,go_sem]at tS
 have F:=an (aq gM) (an tS F)
 try simp only[F,go_sem]
 refine bJ h0 (Cv k _ _) ?_ (fun dz h0=>?_)<;>try simp only[F,go_sem]
 refine aG ?_
 try simp only[F,go_sem]
 refine AF F h0 ?_ ?_<;>intro F h0<;>try simp only[F,go_sem]
 refine AF F h0 ?_ ?_<;>intro F h0<;>try simp only[F,go_sem]
 refine aj h0 (Cv k _ _) ?_ (fun bx h0=>?_)<;>try simp only[F,go_sem]
 obtain rfl:=oi h0
 refine Ag rfl ?_
 try simp only[F,go_sem]
 obtain⟨bR,ml,h0⟩:=bs h0
 have acX:=Ao.bh fg (Ao.self yn n1) ml
 have aaR:=acX.2
 try simp only[AA,AB,go_sem]at aaR
 have F:=an (aq ml) (an aaR F)
 try simp only[F,go_sem]
 refine aj h0 (Cv k _ _) ?_ (fun cd h0=>?_)<;>try simp only[F,go_sem]
 obtain⟨dp,kt,h0⟩:=bs h0
 have aht:=aI kt
 simp only[F,go_sem]at aht
 have ahX:=aH eS kt
 try simp only[F,go_sem]at ahX
 have F:=an aht (an ahX F)
 try simp only[F,go_sem]
 obtain rfl:=oi h0
 refine Ag rfl ?_
 try simp only[F,go_sem]
 obtain⟨fS,tY,h0⟩:=bs h0
 have acY:=Ao.bh fg (Ao.self yn n1) tY
 have aaS:=acY.2
 try simp only[AA,AB,go_sem]at aaS
 have F:=an (aq tY) (an aaS F)
 try simp only[F,go_sem]
 refine aj h0 (Cv k _ _) ?_ (fun mi h0=>?_)<;>try simp only[F,go_sem]
 obtain⟨jw,qc,h0⟩:=bs h0
 have yY:=aI qc
 simp only[F,go_sem]at yY
 have ahY:=aH eS qc
 try simp only[F,go_sem]at ahY
 have F:=an yY (an ahY F)
 try simp only[F,go_sem]
 obtain rfl:=oi h0
 refine Ag rfl ?_
 try simp only[F,go_sem]
def HD.c:SC:=
 SQ [RG [wE 3 64 0 [0],wE 5 121 2 [2],wA 6 64,oQ 7 (.assign (.const (.slice none 0 0))) 65 [7]],RG [wF 25 121 5 1,wD 26 3 25 [25],wC 27 16 #[.tmp 26,.const (.int .i64 3)] #[3,3] 3 [26],wG 8 27 3 [27]],RG [wV 28 8 3,wI 29 64 3 28 [28],wD 30 63 29 [29],wA 9 63,wS 63 9 30 [30]],SQ [RG [wF 31 121 5 0,wD 32 3 31 [31],wC 33 16 #[.tmp 32,.const (.int .i64 8)] #[3,3] 3 [32]],
 .block 0 (SQ [SQ [RG [wK 67 .eql 3 33 3 3 4,wG 66 67 4 [67]],CN 66 .skip (RG [wK 68 .eql 3 33 4 3 4,wG 66 68 4 [68]])],CN 66 (SQ [.aS [wD 70 63 9,wV 71 8 3,wK 72 .add 3 71 1 3 3,wF 73 121 5 2,wD 74 3 73,wC 75 16 #[.tmp 74,.const (.int .i64 2)] #[3,3] 3,wO 76 .add 3 72 75 3 3,wK 77 .rem 3 76 3 3 3,wW 78 22 70 77 63 3 73,wV 69 78 73,wX 79 69 0 63,wX 80 69 1 57,wX 81 69 2 45,wA 10 63,wA 11 57,
 wS 63 10 79,wS 57 11 80,wG 12 81 45] [[],[],[1],[],[3],[3,4],[1,2,3,4,5],[1,2,3,4,5,6],[0,1,2,3,4,5,6,7],[0,1,2,3,4,5,6,7,8],[0,1,2,3,4,5,6,7,8,9],[0,1,2,3,4,5,6,7,8,9],[0,1,2,3,4,5,6,7,8,9],[],[],[13,0,1,2,3,4,5,6,7,8,9,10,14],[14,0,1,2,3,4,5,6,7,8,9,11,13,10,15],[0,1,2,3,4,5,6,7,8,9,12,14,11,13,10,15,16]] [5,9,69,70,71,72,73,74,75,76,77,78,79,80,81],RG [wV 82 12 45 [12],
 wK 83 .eql 45 82 0 45 4 [82]],CN 83 (SQ [RG [wV 84 8 3 [8],wD 85 63 10 [10],wI 86 64 3 84 [84],wS 63 86 85 [85,86]],.aS [wD 87 64 3,oQ 88 (.buildSlice 65 0 #[]) 65,wV 89 1 65,wP 90 88 89 65 65 65,wD 91 57 11,oQ 92 (.buildSlice 65 1 #[(0,.tmp 91)]) 65,wP 93 90 92 65 65 65,wS 64 6 87,wG 7 93 65] [[],[],[],[1,2],[],[4],[1,2,3,4,5],[0,1,2,3,4,5,6],[1,2,3,4,5,6,0,7]] [1,3,11,87,88,89,90,91,92,93],
 .ret]) .skip]) (SQ [SQ [RG [wK 95 .eql 3 33 5 3 4,wG 94 95 4 [95]],CN 94 .skip (RG [wK 96 .eql 3 33 6 3 4,wG 94 96 4 [96]])],CN 94 (SQ [SQ [RG [wV 97 1 65,wL 98 97 65 3 [97],wK 99 .eql 3 98 0 3 4 [98]],CN 99 (SQ [RG [wD 100 64 3 [3],wV 101 1 65 [1],wS 64 6 100 [100],wG 7 101 65 [101]],.ret]) .skip],RG [wF 102 121 5 2,wD 103 3 102 [102],wV 104 1 65,wL 105 104 65 3 [104],
 wW 106 16 103 105 3 3 3 [103,105],wG 13 106 3 [106]],RG [wV 107 1 65,wV 108 13 3,wI 109 65 107 108 [107,108],wD 110 57 109 [109],wA 14 57,wS 57 14 110 [110]],.aS [wF 112 57 14 1,wD 113 3 112,wI 114 64 3 113,wD 115 63 114,wD 116 57 14,wW 117 24 115 116 63 57 75,wV 111 117 75,wX 118 111 0 63,wX 119 111 1 65,wX 120 111 2 45,wA 15 63,wS 63 15 118,wG 16 119 65,wG 17 120 45] [[],[0],[0,1],[0,1,2],[],
 [0,1,2,3,4],[0,1,2,3,4,5],[0,1,2,3,4,5,6],[0,1,2,3,4,5,6],[0,1,2,3,4,5,6],[],[10,0,1,2,3,4,5,6,7],[0,1,2,3,4,5,6,8,10,7,11],[0,1,2,3,4,5,6,9,8,10,7,11,12]] [111,112,113,114,115,116,117,118,119,120],RG [oQ 121 (.buildSlice 65 0 #[]) 65,wV 122 1 65,wP 123 121 122 65 65 65 [121,122],wG 18 123 65 [123]],SQ [RG [wF 124 121 5 1 [5],wD 125 3 124 [124],wK 126 .rem 3 125 2 3 3 [125],
 wK 127 .eql 3 126 0 3 4 [126]],CN 127 (.aS [oQ 128 (.buildSlice 65 0 #[]) 65,wV 129 1 65,wV 130 13 3,oQ 131 (.slice 65 (.tmp 129) none (some (.tmp 130)) none) 65,wP 132 128 131 65 65 65,wV 133 1 65,wV 134 13 3,wK 135 .add 3 134 1 3 3,oQ 136 (.slice 65 (.tmp 133) (some (.tmp 135)) none none) 65,wP 137 132 136 65 65 65,wG 18 137 65] [[],[],[],[1,2],[0,1,2,3],[],[],[6],[5,6,7],[0,1,2,3,4,5,6,7,8],
 [0,1,2,3,4,5,6,7,8,9]] [13,128,129,130,131,132,133,134,135,136,137]) .skip],RG [wV 138 17 45 [17],wK 139 .eql 45 138 0 45 4 [138]],CN 139 (SQ [RG [wF 140 57 14 1 [14],wD 141 3 140 [140],wD 142 63 15 [15],wI 143 64 3 141 [141],wS 63 143 142 [142,143]],.aS [wD 144 64 3,wV 145 18 65,wV 146 16 65,wP 147 145 146 65 65 65,wS 64 6 144,wG 7 147 65] [[],[],[],[1,2],[0,1,2,3],[1,2,3,0,4]] [3,16,18,144,
 145,146,147],.ret]) .skip]) (SQ [RG [wK 149 .eql 3 33 7 3 4 [33],wG 148 149 4 [149]],CN 148 (SQ [RG [wD 151 63 9 [9],wF 152 121 5 4 [5],wD 153 58 152 [152],wW 154 26 151 153 63 58 69 [151,153],wV 150 154 69 [154],wX 155 150 0 63,wX 156 150 1 45 [150],wA 19 63,wS 63 19 155 [155],wG 20 156 45 [156]],RG [wV 157 20 45 [20],wK 158 .eql 45 157 0 45 4 [157]],CN 158 (RG [wV 159 8 3 [8],wD 160 63 19 [19],
 wI 161 64 3 159 [159],wS 63 161 160 [160,161]]) .skip]) (SQ [RG [wF 34 63 9 2,wF 35 42 34 0 [34],wF 36 40 35 0 [35],wD 37 38 36 [36],wF 38 121 5 3 [5],wD 39 119 38 [38],wW 40 88 37 39 38 119 29 [37,39],wA 21 29,wS 29 21 40 [40]],SQ [RG [wF 41 29 21 0,wF 42 27 41 0 [41],wD 43 3 42 [42],wV 44 8 3,wO 45 .neq 3 43 44 3 4 [43,44]],CN 45 (RG [wF 46 29 21 2,wD 47 3 46 [46],wF 48 29 21 3,wD 49 3 48 [48],
 wF 50 29 21 5,wD 51 9 50 [50],oQ 52 (.binOp .add 9 (.const (.string ⟨#[111,102,32]⟩)) (.tmp 51) 9) 9 [51],oQ 53 (.build 29 #[(1,.const (.int .i64 5)),(2,.tmp 47),(3,.tmp 49),(5,.tmp 52)]) 29 [47,49,52],wS 29 21 53 [53]]) .skip],RG [wD 55 63 9 [9],wD 56 29 21 [21],wW 57 20 55 56 63 29 71 [55,56],wV 54 57 71 [57],wX 58 54 0 63,wX 59 54 1 29,wX 60 54 2 45 [54],wA 22 63,wA 23 29,wS 63 22 58 [58],
 wS 29 23 59 [23,59],wG 24 60 45 [60]],RG [wV 61 24 45 [24],wK 62 .eql 45 61 0 45 4 [61]],CN 62 (RG [wV 63 8 3 [8],wD 64 63 22 [22],wI 65 64 3 63 [63],wS 63 65 64 [64,65]]) .skip])])])])],RG [wD 162 64 3 [3],wV 163 1 65 [1],wS 64 6 162 [162],wG 7 163 65 [163]],.ret]
def Fg (k:Nat) (eN:(Aa 3 Ac)) (dy:(List Av)) (y2:BE):Option ((Aa 3 Ac)×(List Av)):=
 (Cc k y2.Ac 3).bind fun x1=>
 (eN.at? x1).bind fun x2=>
 (Cc k y2.Kind 8).bind fun x3=>
 bif decide (x3=(3:Int)) then
  (Cc k y2.To 2).bind fun x5=>
  (BK k x2 (Int.tmod (ab ((ab (x1+1))+x5)) 3)).bind fun x6=>
  bif decide (x6.2.2=(0:Int)) then
   (dI dy.length 88).bind fun _=>
   (eO 88 dy x6.2.1).bind fun df=>
   some (eN.set x1 x6.1,df)
  else
   some (eN,dy)
 else
  bif decide (x3=(4:Int)) then
   (Cc k y2.To 2).bind fun dA=>
   (BK k x2 (Int.tmod (ab ((ab (x1+1))+dA)) 3)).bind fun bx=>
   bif decide (bx.2.2=(0:Int)) then
    (dI dy.length 88).bind fun _=>
    (eO 88 dy bx.2.1).bind fun oA=>
    some (eN.set x1 bx.1,oA)
   else
    some (eN,dy)
  else
   bif decide (x3=(5:Int)) then
    bif decide ((dy.length:Int)=(0:Int)) then
     some (eN,dy)
    else
     (Cc k y2.To (dy.length:Int)).bind fun cT=>
     (at? dy cT).bind fun gJ=>
     (eN.at? gJ.To).bind fun iX=>
     (Bi k iX gJ).bind fun bE=>
     (dI dy.length 88).bind fun _=>
     bif decide (Int.tmod y2.Ac 2=(0:Int)) then
      (ck dy 0 cT).bind fun j5=>
      (dI j5.length 88).bind fun _=>
      (ck dy (ab (cT+1)) dy.length).bind fun l28=>
      (cY 88 j5 l28).bind fun l29=>
      bif decide (bE.2.2=(0:Int)) then
       (cY 88 l29 bE.2.1).bind fun l32=>
       some (eN.set gJ.To bE.1,l32)
      else
       some (eN,dy)
     else
      bif decide (bE.2.2=(0:Int)) then
       (cY 88 dy bE.2.1).bind fun u3=>
       some (eN.set gJ.To bE.1,u3)
      else
       some (eN,dy)
   else
    bif decide (x3=(6:Int)) then
     bif decide ((dy.length:Int)=(0:Int)) then
      some (eN,dy)
     else
      (Cc k y2.To (dy.length:Int)).bind fun rL=>
      (at? dy rL).bind fun x39=>
      (eN.at? x39.To).bind fun yg=>
      (Bi k yg x39).bind fun mj=>
      (dI dy.length 88).bind fun _=>
      bif decide (Int.tmod y2.Ac 2=(0:Int)) then
       (ck dy 0 rL).bind fun xB=>
       (dI xB.length 88).bind fun _=>
       (ck dy (ab (rL+1)) dy.length).bind fun l46=>
       (cY 88 xB l46).bind fun l47=>
       bif decide (mj.2.2=(0:Int)) then
        (cY 88 l47 mj.2.1).bind fun l50=>
        some (eN.set x39.To mj.1,l50)
       else
        some (eN,dy)
      else
       bif decide (mj.2.2=(0:Int)) then
        (cY 88 dy mj.2.1).bind fun l53=>
        some (eN.set x39.To mj.1,l53)
       else
        some (eN,dy)
    else
     bif decide (x3=(7:Int)) then
      (Ds k x2 y2.Cx).bind fun x55=>
      bif decide (x55.2=(0:Int)) then
       some (eN.set x1 x55.1,dy)
      else
       some (eN,dy)
     else
      (En k x2.Ai.Ak.Ah y2.Ab).bind fun yi=>
      bif (!decide (yi.At.Ac=x1)) then
       (ug (⟨#[111,102,32]⟩:ByteArray) yi.Text).bind fun s60=>
       (Dh k x2 (⟨(⟨0,0⟩:Entry),5,yi.Day,yi.Ap,(⟨0,0⟩:Entry),s60⟩:Ab)).bind fun x61=>
       bif decide (x61.2.2=(0:Int)) then
        some (eN.set x1 x61.1,dy)
       else
        some (eN,dy)
      else
       (Dh k x2 yi).bind fun x64=>
       bif decide (x64.2.2=(0:Int)) then
        some (eN.set x1 x64.1,dy)
       else
        some (eN,dy)
theorem Jl (k:Nat) (eN:(Aa 3 Ac)) (dy:(List Av)) (y2:BE) (r:(Aa 3 Ac)×(List Av)) (h0:Fg k eN dy y2=some r):Ay Tryz.prog 52 [.agg ((Aa.c (n:=3) Ac.c) eN),.sl 9 (List.map Av.c dy),.agg (BE.c y2)] (fun y=>y=.aw [.agg ((Aa.c (n:=3) Ac.c) r.1),.sl 9 (List.map Av.c r.2)]):=by
 refine PB Tryz.f52 HD.c [.cell 6 64,.tmp 7] ?_
 simp only[Fg]at h0
 try simp only[HD.c,go_sem]
 refine aj h0 (Cv k _ _) ?_ (fun x1 h0=>?_)<;>try simp only[go_sem]
 obtain⟨x2,dJ,h0⟩:=bs h0
 have lZ:=Ao.bh abd (Ao.self abe eN) dJ
 have mf:=lZ.2
 try simp only[AA,AB,go_sem]at mf
 have F:=an (aq dJ) mf
 try simp only[F,go_sem]
 refine aj h0 (Cv k _ _) ?_ (fun x3 h0=>?_)<;>try simp only[F,go_sem]
 refine AF F h0 ?_ ?_<;>intro F h0<;>try simp only[F,go_sem]
 refine AL AE aO 1000 ?_
 try simp only[F,go_sem]
 refine bJ h0 (Cv k _ _) ?_ (fun x5 h0=>?_)<;>try simp only[F,go_sem]
 refine bJ h0 (FZ k _ _) ?_ (fun x6 h0=>?_)<;>try simp only[F,go_sem]
 refine aG ?_
 try simp only[F,go_sem]
 refine AF F h0 ?_ ?_<;>intro F h0<;>try simp only[F,go_sem]
 have q8:=lZ.1.ow x6.1
 try simp only[AA,AB,go_sem]at q8
 try simp only[q8,F,go_sem]
 refine AL AE aO 1000 ?_
 try simp only[F,go_sem]
 obtain⟨u9,yu9,h0⟩:=bs h0
 try simp only[jv yu9,F,go_sem]
 obtain⟨df,yj,h0⟩:=bs h0
 have aaX:=pu Av.c yj
 try simp only[F,go_sem]at aaX
 have F:=an aaX F
 try simp only[F,go_sem]
 refine aG ?_
 try simp only[F,go_sem]
 obtain rfl:=oi h0
 refine Ag rfl ?_
 try simp only[F,go_sem]
 obtain rfl:=oi h0
 refine Ag rfl ?_
 try simp only[F,go_sem]
 refine AF F h0 ?_ ?_<;>intro F h0<;>try simp only[F,go_sem]
 refine AL AE aO 1000 ?_
 try simp only[F,go_sem]
 refine bJ h0 (Cv k _ _) ?_ (fun dA h0=>?_)<;>try simp only[F,go_sem]
 refine bJ h0 (FZ k _ _) ?_ (fun bx h0=>?_)<;>try simp only[F,go_sem]
 refine aG ?_
 try simp only[F,go_sem]
 refine AF F h0 ?_ ?_<;>intro F h0<;>try simp only[F,go_sem]
 have q15:=lZ.1.ow bx.1
 try simp only[AA,AB,go_sem]at q15
 try simp only[q15,F,go_sem]
 refine AL AE aO 1000 ?_
 try simp only[F,go_sem]
 obtain⟨u16,asE,h0⟩:=bs h0
 try simp only[jv asE,F,go_sem]
 obtain⟨oA,vE,h0⟩:=bs h0
 have oO:=pu Av.c vE
 try simp only[F,go_sem]at oO
 have F:=an oO F
 try simp only[F,go_sem]
 refine aG ?_
 try simp only[F,go_sem]
 obtain rfl:=oi h0
 refine Ag rfl ?_
 try simp only[F,go_sem]
 obtain rfl:=oi h0
 refine Ag rfl ?_
 try simp only[F,go_sem]
 refine AF F h0 ?_ ?_<;>intro F h0<;>try simp only[F,go_sem]
 refine AF F h0 ?_ ?_<;>intro F h0<;>try simp only[F,go_sem]
 obtain rfl:=oi h0
 refine Ag rfl ?_
 try simp only[F,go_sem]
 refine aj h0 (Cv k _ _) ?_ (fun cT h0=>?_)<;>try simp only[F,go_sem]
 obtain⟨gJ,ff,h0⟩:=bs h0
 have F:=an (aI ff) (an (aH Av.c ff) F)
 try simp only[F,go_sem]
 refine AL AE aO 1000 ?_
 try simp only[F,go_sem]
 obtain⟨iX,vK,h0⟩:=bs h0
 have aft:=Ao.bh abd (Ao.self abe eN) vK
 have akE:=aft.2
 try simp only[AA,AB,go_sem]at akE
 have F:=an (aq vK) (an akE F)
 try simp only[F,go_sem]
 refine bJ h0 (F0 k _ _) ?_ (fun bE h0=>?_)<;>try simp only[F,go_sem]
 refine aG ?_
 try simp only[F,go_sem]
 obtain⟨u24,afH,h0⟩:=bs h0
 try simp only[jv afH,F,go_sem]
 refine AF F h0 ?_ ?_<;>intro F h0<;>try simp only[F,go_sem]
 refine AL AE aO 1000 ?_
 try simp only[F,go_sem]
 obtain⟨j5,ala,h0⟩:=bs h0
 have ahk:=aaE Av.c ala
 try simp only[go_sem]at ahk
 have F:=an ahk F
 try simp only[vu ala,F,go_sem]
 obtain⟨u27,asG,h0⟩:=bs h0
 try simp only[jv asG,F,go_sem]
 obtain⟨l28,alb,h0⟩:=bs h0
 have ahl:=xU Av.c alb
 try simp only[go_sem]at ahl
 have F:=an ahl F
 try simp only[tF alb,F,go_sem]
 obtain⟨l29,aso,h0⟩:=bs h0
 have akY:=fw Av.c aso
 try simp only[F,go_sem]at akY
 have F:=an akY F
 try simp only[F,go_sem]
 refine aG ?_
 try simp only[F,go_sem]
 refine AF F h0 ?_ ?_<;>intro F h0<;>try simp only[F,go_sem]
 have q31:=aft.1.ow bE.1
 try simp only[AA,AB,go_sem]at q31
 try simp only[q31,F,go_sem]
 refine AL AE aO 1000 ?_
 try simp only[F,go_sem]
 obtain⟨l32,asp,h0⟩:=bs h0
 have akZ:=fw Av.c asp
 try simp only[F,go_sem]at akZ
 have F:=an akZ F
 try simp only[F,go_sem]
 refine aG ?_
 try simp only[F,go_sem]
 obtain rfl:=oi h0
 refine Ag rfl ?_
 try simp only[F,go_sem]
 obtain rfl:=oi h0
 refine Ag rfl ?_
 try simp only[F,go_sem]
 refine AF F h0 ?_ ?_<;>intro F h0<;>try simp only[F,go_sem]
 have q34:=aft.1.ow bE.1
 try simp only[AA,AB,go_sem]at q34
 try simp only[q34,F,go_sem]
 refine AL AE aO 1000 ?_
 try simp only[F,go_sem]
 obtain⟨u3,aa7,h0⟩:=bs h0
 have ak0:=fw Av.c aa7
 try simp only[F,go_sem]at ak0
 have F:=an ak0 F
 try simp only[F,go_sem]
 refine aG ?_
 try simp only[F,go_sem]
 obtain rfl:=oi h0
 refine Ag rfl ?_
 try simp only[F,go_sem]
 obtain rfl:=oi h0
 refine Ag rfl ?_
 try simp only[F,go_sem]
 refine AF F h0 ?_ ?_<;>intro F h0<;>try simp only[F,go_sem]
 refine AF F h0 ?_ ?_<;>intro F h0<;>try simp only[F,go_sem]
 obtain rfl:=oi h0
 refine Ag rfl ?_
 try simp only[F,go_sem]
 refine aj h0 (Cv k _ _) ?_ (fun rL h0=>?_)<;>try simp only[F,go_sem]
 obtain⟨x39,alp,h0⟩:=bs h0
 have F:=an (aI alp) (an (aH Av.c alp) F)
 try simp only[F,go_sem]
 refine AL AE aO 1000 ?_
 try simp only[F,go_sem]
 obtain⟨yg,abc,h0⟩:=bs h0
 have aaM:=Ao.bh abd (Ao.self abe eN) abc
 have aaW:=aaM.2
 try simp only[AA,AB,go_sem]at aaW
 have F:=an (aq abc) (an aaW F)
 try simp only[F,go_sem]
 refine bJ h0 (F0 k _ _) ?_ (fun mj h0=>?_)<;>try simp only[F,go_sem]
 refine aG ?_
 try simp only[F,go_sem]
 obtain⟨u42,asI,h0⟩:=bs h0
 try simp only[jv asI,F,go_sem]
 refine AF F h0 ?_ ?_<;>intro F h0<;>try simp only[F,go_sem]
 refine AL AE aO 1000 ?_
 try simp only[F,go_sem]
 obtain⟨xB,yl,h0⟩:=bs h0
 have yX:=aaE Av.c yl
 try simp only[go_sem]at yX
 have F:=an yX F
 try simp only[vu yl,F,go_sem]
 obtain⟨u45,asJ,h0⟩:=bs h0
 try simp only[jv asJ,F,go_sem]
 obtain⟨l46,alc,h0⟩:=bs h0
 have ahq:=xU Av.c alc
 try simp only[go_sem]at ahq
 have F:=an ahq F
 try simp only[tF alc,F,go_sem]
 obtain⟨l47,asq,h0⟩:=bs h0
 have ak2:=fw Av.c asq
 try simp only[F,go_sem]at ak2
 have F:=an ak2 F
 try simp only[F,go_sem]
 refine aG ?_
 try simp only[F,go_sem]
 refine AF F h0 ?_ ?_<;>intro F h0<;>try simp only[F,go_sem]
 have q49:=aaM.1.ow mj.1
 try simp only[AA,AB,go_sem]at q49
 try simp only[q49,F,go_sem]
 refine AL AE aO 1000 ?_
 try simp only[F,go_sem]
 obtain⟨l50,aa8,h0⟩:=bs h0
 have ak3:=fw Av.c aa8
 try simp only[F,go_sem]at ak3
 have F:=an ak3 F
 try simp only[F,go_sem]
 refine aG ?_
 try simp only[F,go_sem]
 obtain rfl:=oi h0
 refine Ag rfl ?_
 try simp only[F,go_sem]
 obtain rfl:=oi h0
 refine Ag rfl ?_
 try simp only[F,go_sem]
 refine AF F h0 ?_ ?_<;>intro F h0<;>try simp only[F,go_sem]
 have q52:=aaM.1.ow mj.1
 try simp only[AA,AB,go_sem]at q52
 try simp only[q52,F,go_sem]
 refine AL AE aO 1000 ?_
 try simp only[F,go_sem]
 obtain⟨l53,asr,h0⟩:=bs h0
 have ak4:=fw Av.c asr
 try simp only[F,go_sem]at ak4
 have F:=an ak4 F
 try simp only[F,go_sem]
 refine aG ?_
 try simp only[F,go_sem]
 obtain rfl:=oi h0
 refine Ag rfl ?_
 try simp only[F,go_sem]
 obtain rfl:=oi h0
 refine Ag rfl ?_
 try simp only[F,go_sem]
 refine AF F h0 ?_ ?_<;>intro F h0<;>try simp only[F,go_sem]
 refine aj h0 (Ie k _ _) ?_ (fun x55 h0=>?_)<;>try simp only[F,go_sem]
 refine AF F h0 ?_ ?_<;>intro F h0<;>try simp only[F,go_sem]
 have q57:=lZ.1.ow x55.1
 try simp only[AA,AB,go_sem]at q57
 try simp only[q57,F,go_sem]
 obtain rfl:=oi h0
 refine Ag rfl ?_
 try simp only[F,go_sem]
 obtain rfl:=oi h0
 refine Ag rfl ?_
 try simp only[F,go_sem]
 refine aj h0 (Jt k _ _) ?_ (fun yi h0=>?_)<;>try simp only[F,go_sem]
 refine A7 F h0 ?_ ?_<;>intro F h0<;>try simp only[F,go_sem]
 obtain⟨s60,ald,h0⟩:=bs h0
 have aiE:=am1 ald
 try simp only[go_sem]at aiE
 try simp only[aiE,am0 ald,F,go_sem]
 refine aj h0 (FY k _ _) ?_ (fun x61 h0=>?_)<;>try simp only[F,go_sem]
 refine AF F h0 ?_ ?_<;>intro F h0<;>try simp only[F,go_sem]
 have q63:=lZ.1.ow x61.1
 try simp only[AA,AB,go_sem]at q63
 try simp only[q63,F,go_sem]
 obtain rfl:=oi h0
 refine Ag rfl ?_
 try simp only[F,go_sem]
 obtain rfl:=oi h0
 refine Ag rfl ?_
 try simp only[F,go_sem]
 refine aj h0 (FY k _ _) ?_ (fun x64 h0=>?_)<;>try simp only[F,go_sem]
 refine AF F h0 ?_ ?_<;>intro F h0<;>try simp only[F,go_sem]
 have q66:=lZ.1.ow x64.1
 try simp only[AA,AB,go_sem]at q66
 try simp only[q66,F,go_sem]
 obtain rfl:=oi h0
 refine Ag rfl ?_
 try simp only[F,go_sem]
 obtain rfl:=oi h0
 refine Ag rfl ?_
 try simp only[F,go_sem]
def Dy.s1:SC:=
 SQ [SQ [RG [wV 19 7 3,wV 20 0 54,wL 21 20 54 3 [20],wO 22 .lss 3 19 21 3 4 [19,21],wV 23 22 4 [22],gd 23 true (wV 24 7 3),gd 23 true (wK 25 .lss 3 24 14 3 4 [24]),wZ 26 23 25 4 [23,25]],CN 26 .skip (.exit 2)],.block 3 (.aS [wD 30 64 4,wV 31 6 65,wV 32 0 54,wV 33 7 3,wI 34 54 32 33,wD 35 121 34,wC 36 52 #[.tmp 30,.tmp 31,.tmp 35] #[64,65,121] 66,wV 29 36 66,wX 37 29 0 64,wX 38 29 1 65,wS 64 4 37,
 wG 6 38 65] [[],[],[],[],[2,3],[2,3,4],[0,1,2,3,4,5],[0,1,2,3,4,5,6],[0,1,2,3,4,5,6,7],[0,1,2,3,4,5,6,7],[0,1,2,3,4,5,6,7,8],[0,1,2,3,4,5,6,7,9,8,10]] [29,30,31,32,33,34,35,36,37,38]),RG [wV 27 7 3 [7],wK 28 .add 3 27 1 3 3 [27],wG 7 28 3 [28]]]
def Dy.s0:SC:=
 SQ [SQ [RG [wV 8 5 3,wK 9 .lss 3 8 3 3 4 [8]],CN 9 .skip (.exit 0)],.block 1 (RG [wV 13 5 3,wV 14 5 3,wU 15 18 14 3 69 [14],wV 12 15 69 [15],wX 16 12 0 63,wX 17 12 1 45 [12,17],wI 18 64 4 13 [13],wS 63 18 16 [16,18]]),RG [wV 10 5 3 [5],wK 11 .add 3 10 1 3 3 [10],wG 5 11 3 [11]]]
def Dy.c:SC:=
 SQ [RG [wA 2 64,oQ 3 (.assign (.const (.slice none 0 0))) 65 [3]],RG [wA 4 64],SQ [RG [wN 5 0 3],.block 0 (.loop Dy.s0)],RG [oQ 6 (.assign (.const (.slice none 0 0))) 65],SQ [RG [wN 7 0 3],.block 2 (.loop Dy.s1)],RG [wD 39 64 4 [4],wV 40 6 65 [6],wS 64 2 39 [39],wG 3 40 65 [40]],.ret]
def Bp.b0 (k:Nat):((Aa 3 Ac)×Int)->Option (AN ((Aa 3 Ac)×Int) ((Aa 3 Ac)) ((Aa 3 Ac)×(List Av))):=fun s=>match s with
 |(s1,i2)=>
   bif decide (i2<(3:Int)) then
    (DL k i2).bind fun x5=>
    (s1.at? i2).bind fun x6=>
    some (.next (s1.set i2 x5.1,ab (i2+1)))
   else
    some (.brk s1)
def Bp.b1 (k:Nat) (l0:(List BE)):((Aa 3 Ac)×(List Av)×Int)->Option (AN ((Aa 3 Ac)×(List Av)×Int) ((Aa 3 Ac)×(List Av)) ((Aa 3 Ac)×(List Av))):=fun s=>match s with
 |(s9,df,i11)=>
   bif decide (i11<(l0.length:Int)) then
    bif decide (i11<(14:Int)) then
     (at? l0 i11).bind fun dp=>
     (Fg k s9 df dp).bind fun fS=>
     some (.next (fS.1,fS.2,ab (i11+1)))
    else
     some (.brk (s9,df))
   else
    some (.brk (s9,df))
def Bp.h0 (l0:(List BE)):((Aa 3 Ac)×Int)->St:=fun s=>match s with
 |(s1,i2)=>⟨[(0,.sl 9 (List.map BE.c l0)),(2,.ptr 0 0 0),(4,.ptr 0 1 0),(5,.int .i64 i2)],[(0,.box (Aa.c (n:=3) Ac.c (Aa.rep 3 ((⟨0,(⟨[],[]⟩:Ad),(⟨(⟨[]⟩:Ak),0,0,0⟩:Ai),(Aa.rep 6 ((Aa.rep 6 (0:Int)):(Aa 6 Int)))⟩:Ac):Ac)))),(1,.box (Aa.c (n:=3) Ac.c s1))],[],2,Tryz.f15.ntmps⟩
def Bp.x0 (l0:(List BE)):(Aa 3 Ac)->St:=fun s3=>⟨[(0,.sl 9 (List.map BE.c l0)),(2,.ptr 0 0 0),(4,.ptr 0 1 0)],[(0,.box (Aa.c (n:=3) Ac.c (Aa.rep 3 ((⟨0,(⟨[],[]⟩:Ad),(⟨(⟨[]⟩:Ak),0,0,0⟩:Ai),(Aa.rep 6 ((Aa.rep 6 (0:Int)):(Aa 6 Int)))⟩:Ac):Ac)))),(1,.box (Aa.c (n:=3) Ac.c s3))],[],2,Tryz.f15.ntmps⟩
def Bp.h1 (l0:(List BE)):((Aa 3 Ac)×(List Av)×Int)->St:=fun s=>match s with
 |(s9,df,i11)=>⟨[(0,.sl 9 (List.map BE.c l0)),(2,.ptr 0 0 0),(4,.ptr 0 1 0),(6,.sl 9 (List.map Av.c df)),(7,.int .i64 i11)],[(0,.box (Aa.c (n:=3) Ac.c (Aa.rep 3 ((⟨0,(⟨[],[]⟩:Ad),(⟨(⟨[]⟩:Ak),0,0,0⟩:Ai),(Aa.rep 6 ((Aa.rep 6 (0:Int)):(Aa 6 Int)))⟩:Ac):Ac)))),(1,.box (Aa.c (n:=3) Ac.c s9))],[],2,Tryz.f15.ntmps⟩
def Bp.x1:((Aa 3 Ac)×(List Av))->St:=fun s=>match s with
 |(ry,ib)=>⟨[(2,.ptr 0 0 0),(4,.ptr 0 1 0),(6,.sl 9 (List.map Av.c ib))],[(0,.box (Aa.c (n:=3) Ac.c (Aa.rep 3 ((⟨0,(⟨[],[]⟩:Ad),(⟨(⟨[]⟩:Ak),0,0,0⟩:Ai),(Aa.rep 6 ((Aa.rep 6 (0:Int)):(Aa 6 Int)))⟩:Ac):Ac)))),(1,.box (Aa.c (n:=3) Ac.c ry))],[],2,Tryz.f15.ntmps⟩
def Bp (k:Nat) (l0:(List BE)):Option ((Aa 3 Ac)×(List Av)):=
 (ai (Bp.b0 k) k ((Aa.rep 3 ((⟨0,(⟨[],[]⟩:Ad),(⟨(⟨[]⟩:Ak),0,0,0⟩:Ai),(Aa.rep 6 ((Aa.rep 6 (0:Int)):(Aa 6 Int)))⟩:Ac):Ac)),0)).bind fun r8=>match r8 with
 |.next _=>none
 |.ret v_=>some v_
 |.brk s3=>
  (ai (Bp.b1 k l0) k (s3,[],0)).bind fun tz=>match tz with
  |.next _=>none
  |.ret v_=>some v_
  |.brk (ry,ib)=>
   some (ry,ib)
theorem Je (k:Nat) (l0:(List BE)) (r:(Aa 3 Ac)×(List Av)) (h0:Bp k l0=some r):Ay Tryz.prog 15 [.sl 9 (List.map BE.c l0)] (fun y=>y=.aw [.agg ((Aa.c (n:=3) Ac.c) r.1),.sl 9 (List.map Av.c r.2)]):=by
 refine PB Tryz.f15 Dy.c [.cell 2 64,.tmp 3] ?_
 simp only[Bp]at h0
 try simp only[Dy.c,go_sem]
 obtain⟨r8,oP,h0⟩:=bs h0
 refine A5 oP (Bp.h0 l0) (Bp.x0 l0) ?_ ?_ ?_
 refine Al.go [0,2,4,5] [0,32] rfl ?_
 try simp only[Bp.h0,go_sem]
 rintro⟨s1,i2⟩ bO Bd Ba h1 az ax bg
 refine rS ?_
 simp only[Bp.b0]at h1
 try simp only[Dy.s0,Bp.h0,go_sem]
 refine AP h1 ?_ ?_<;>intro c4 h1<;>have F:=c4<;>try simp only[F,go_sem]
 refine aj h1 (Ic k _) ?_ (fun x5 h1=>?_)<;>try simp only[F,go_sem]
 obtain⟨x6,dB,h1⟩:=bs h1
 have nN:=Ao.bh abd (Ao.self abe s1) dB
 have mg:=nN.2
 try simp only[AA,AB,go_sem]at mg
 have q7:=nN.1.ow x5.1
 try simp only[AA,AB,go_sem]at q7
 have F:=an (aq dB) (an mg F)
 try simp only[q7,F,go_sem]
 refine Ax (az _ _ (oi h1).symm (Al.go [0,2,4,5] [0,1] rfl ?_))
 try simp only[Bp.h0,F,go_sem]
 refine Ax (ax _ _ (oi h1).symm (Al.go [0,2,4] [0,1] rfl ?_))
 try simp only[Bp.x0,F,go_sem]
 rintro s3 aA
 subst aA
 simp only at h0
 refine rS ?_
 try simp only[Bp.x0,go_sem]
 obtain⟨tz,aa9,h0⟩:=bs h0
 refine A5 aa9 (Bp.h1 l0) (Bp.x1) ?_ ?_ ?_
 refine Al.trans (Al.fz 2 rfl (fun _ h=>by cases h)) ?_
 refine Al.go [0,2,4,6,7] [0,1] rfl ?_
 try simp only[Bp.h1,go_sem]
 rintro⟨s9,df,i11⟩ bO Bd Ba h1 az ax bg
 refine rS ?_
 simp only[Bp.b1]at h1
 try simp only[Dy.s1,Bp.h1,go_sem]
 refine AP h1 ?_ ?_<;>intro eW h1<;>have F:=eW<;>try simp only[F,go_sem]
 refine AF F h1 ?_ ?_<;>intro F h1<;>try simp only[F,go_sem]
 refine AL AE aO 1000 ?_
 try simp only[F,go_sem]
 obtain⟨dp,kt,h1⟩:=bs h1
 have F:=an (aI kt) (an (aH BE.c kt) F)
 try simp only[F,go_sem]
 refine bJ h1 (Jl k _ _ _) ?_ (fun fS h1=>?_)<;>try simp only[F,go_sem]
 refine aG ?_
 try simp only[F,go_sem]
 refine Ax (az _ _ (oi h1).symm (Al.go [0,2,4,6,7] [0,1] rfl ?_))
 try simp only[Bp.h1,F,go_sem]
 refine Ax (ax _ _ (oi h1).symm (Al.go [2,4,6] [0,1] rfl ?_))
 try simp only[Bp.x1,F,go_sem]
 refine Ax (ax _ _ (oi h1).symm (Al.go [2,4,6] [0,1] rfl ?_))
 try simp only[Bp.x1,F,go_sem]
 rintro⟨ry,ib⟩ aA
 subst aA
 simp only at h0
 refine rS ?_
 try simp only[Bp.x1,go_sem]
 obtain rfl:=oi h0
 refine Ag rfl ?_
 try simp only[go_sem]
def HE.c:SC:=
 SQ [RG [wB 2 false 4 [2]],RG [wV 3 0 3 [0],wC 4 69 #[.tmp 3,.const (.int .i64 0),.const (.int .i64 5)] #[3,3,3] 4 [3],wG 2 4 4 [4]],.ret]
def mn (k:Nat) (n0:Int):Option (Bool):=
 (ja k n0 0 5).bind fun x1=>
 some x1
theorem yD (k:Nat) (n0:Int) (r:Bool) (h0:mn k n0=some r):Ay Tryz.prog 53 [.int .i64 n0] (fun y=>y=.bool r):=by
 refine PB Tryz.f53 HE.c [.tmp 2] ?_
 simp only[mn]at h0
 try simp only[HE.c,go_sem]
 refine aj h0 (nd k _ _ _) ?_ (fun x1 h0=>?_)<;>try simp only[go_sem]
 obtain rfl:=oi h0
 refine Ag rfl ?_
 try simp only[go_sem]
def Hk.c:SC:=
 SQ [RG [wA 2 63,wN 3 0 45 [3]],SQ [RG [wV 5 0 3,wU 6 53 5 3 4 [5],wQ 7 6 4 [6]],CN 7 (SQ [RG [oQ 8 (.build 63 #[]) 63,wS 63 2 8 [8],wN 3 1 45],.ret]) .skip],RG [wV 9 0 3 [0],oQ 10 (.build 63 #[(0,.tmp 9)]) 63 [9],wA 4 63,wS 63 4 10 [10]],RG [wC 12 10 #[] #[] 48,wV 11 12 48 [12],wX 13 11 0 36,wX 14 11 1 42 [11],wF 15 63 4 1,wS 36 15 13 [13,15],wF 16 63 4 2,wS 42 16 14 [14,16]],RG [wD 17 63 4 [4],
 wS 63 2 17 [17],wN 3 0 45],.ret]
def rY (k:Nat) (oB:Int):Option (Ac×Int):=
 (mn k oB).bind fun x1=>
 bif (!x1) then
  some ((⟨0,(⟨[],[]⟩:Ad),(⟨(⟨[]⟩:Ak),0,0,0⟩:Ai),(Aa.rep 6 ((Aa.rep 6 (0:Int)):(Aa 6 Int)))⟩:Ac),1)
 else
  (vR k).bind fun x3=>
  some ((⟨oB,x3.1,x3.2,(Aa.rep 6 ((Aa.rep 6 (0:Int)):(Aa 6 Int)))⟩:Ac),0)
theorem amv (k:Nat) (oB:Int) (r:Ac×Int) (h0:rY k oB=some r):Ay Tryz.prog 17 [.int .i64 oB] (fun y=>y=.aw [.agg (Ac.c r.1),.int .i64 r.2]):=by
 refine PB Tryz.f17 Hk.c [.cell 2 63,.tmp 3] ?_
 simp only[rY]at h0
 try simp only[Hk.c,go_sem]
 refine aj h0 (yD k _) ?_ (fun x1 h0=>?_)<;>try simp only[go_sem]
 refine BS h0 ?_ ?_<;>intro c2 h0<;>have F:=c2<;>try simp only[F,go_sem]
 obtain rfl:=oi h0
 refine Ag rfl ?_
 try simp only[F,go_sem]
 refine aj h0 (agm k) ?_ (fun x3 h0=>?_)<;>try simp only[F,go_sem]
 obtain rfl:=oi h0
 refine Ag rfl ?_
 try simp only[F,go_sem]
def DC.s1:SC:=
 SQ [RG [wK 26 .lss 3 25 6 3 0],CN 26 .skip (.exit 2),.block 3 (SQ [RG [oQ 27 (.index 55 (.tmp 24) (.tmp 25)) 3,wG 6 27 3 [27]],RG [wV 28 6 3 [6],wC 29 69 #[.tmp 28,.const (.int .i64 0),.const (.int .i64 60)] #[3,3,3] 4 [28],wQ 30 29 4 [29]],CN 30 (SQ [RG [wN 2 96 45],.ret]) .skip]),RG [wK 31 .add 3 25 1 3 3 [25],wV 25 31 3 [31]]]
def DC.s0:SC:=
 SQ [RG [wK 22 .lss 3 21 6 3 0],CN 22 .skip (.exit 0),.block 1 (SQ [RG [oQ 23 (.index 61 (.tmp 20) (.tmp 21)) 55,wA 4 55,wS 55 4 23 [23]],RG [wD 24 55 4 [4],oQ 25 (.move (.const (.int .i64 0))) 3],.block 2 (.loop DC.s1)]),RG [wK 32 .add 3 21 1 3 3 [21],wV 21 32 3 [32]]]
def DC.c:SC:=
 SQ [RG [wE 1 63 0 [0],wN 2 0 45 [2]],SQ [RG [wF 7 63 1 0,wD 8 3 7 [7],wU 9 53 8 3 4 [8],wQ 10 9 4 [9],wV 11 10 4 [10],gd 11 false (wF 12 63 1 1),gd 11 false (wD 13 36 12 [12]),gd 11 false (wF 14 63 1 2),gd 11 false (wD 15 42 14 [14]),gd 11 false (wW 16 37 13 15 36 42 45 [13,15]),gd 11 false (wK 17 .neq 45 16 0 45 4 [16]),wT 18 11 17 4 [11,17]],CN 18 (SQ [RG [wN 2 96 45],.ret]) .skip],
 SQ [RG [wF 19 63 1 3 [1],wD 20 61 19 [19],oQ 21 (.move (.const (.int .i64 0))) 3],.block 0 (.loop DC.s0)],RG [wN 2 0 45],.ret]
def cC.b1 (k:Nat) (x7:(Aa 6 Int)):Int->Option (AN (Int) (Unit) (Int)):=fun i8=>
 bif decide (i8<(6:Int)) then
  (x7.at? i8).bind fun dz=>
  (ja k dz 0 60).bind fun bN=>
  bif (!bN) then
   some (.ret 96)
  else
   some (.next (ab (i8+1)))
 else
  some (.brk ())
def cC.b0 (k:Nat) (ah:Ac):Int->Option (AN (Int) (Unit) (Int)):=fun i5=>
 bif decide (i5<(6:Int)) then
  (ah.Ap.at? i5).bind fun x7=>
  (ai (cC.b1 k x7) k 0).bind fun r13=>match r13 with
  |.next _=>none
  |.ret v_=>some (.ret v_)
  |.brk _=>
   some (.next (ab (i5+1)))
 else
  some (.brk ())
def cC.h1 (ah:Ac) (i5:Int) (x7:(Aa 6 Int)):Int->St:=fun i8=>⟨[(20,.agg (Aa.c (n:=6) (Aa.c (n:=6) eI) ah.Ap)),(21,.int .i64 i5),(24,.agg (Aa.c (n:=6) eI x7)),(25,.int .i64 i8)],[],[],1,Tryz.f55.ntmps⟩
def cC.x1 (ah:Ac) (i5:Int):Unit->St:=fun _=>⟨[(20,.agg (Aa.c (n:=6) (Aa.c (n:=6) eI) ah.Ap)),(21,.int .i64 i5)],[],[],1,Tryz.f55.ntmps⟩
def cC.h0 (ah:Ac):Int->St:=fun i5=>⟨[(20,.agg (Aa.c (n:=6) (Aa.c (n:=6) eI) ah.Ap)),(21,.int .i64 i5)],[],[],1,Tryz.f55.ntmps⟩
def cC.x0:Unit->St:=fun _=>⟨[],[],[],1,Tryz.f55.ntmps⟩
def cC (k:Nat) (ah:Ac):Option (Int):=
 (mn k ah.Me).bind fun x1=>
 bif x1 then
  (rX k ah.Ad ah.Ai).bind fun x3=>
  bif (!decide (x3=(0:Int))) then
   some 96
  else
   (ai (cC.b0 k ah) k 0).bind fun lQ=>match lQ with
   |.next _=>none
   |.ret v_=>some v_
   |.brk _=>
    some 0
 else
  some 96
theorem abw (k:Nat) (ah:Ac) (r:Int) (h0:cC k ah=some r):Ay Tryz.prog 55 [.agg (Ac.c ah)] (fun y=>y=.int .i64 r):=by
 refine PB Tryz.f55 DC.c [.tmp 2] ?_
 simp only[cC]at h0
 try simp only[DC.c,go_sem]
 refine aj h0 (yD k _) ?_ (fun x1 h0=>?_)<;>try simp only[go_sem]
 refine AP h0 ?_ ?_<;>intro c2 h0<;>have F:=c2<;>try simp only[F,go_sem]
 refine aj h0 (agk k _ _) ?_ (fun x3 h0=>?_)<;>try simp only[F,go_sem]
 refine A7 F h0 ?_ ?_<;>intro F h0<;>try simp only[F,go_sem]
 obtain rfl:=oi h0
 refine Ag rfl ?_
 try simp only[F,go_sem]
 obtain⟨lQ,rQ,h0⟩:=bs h0
 refine A5 rQ (cC.h0 ah) (cC.x0) ?_ ?_ ?_
 refine Al.go [20,21] [] rfl ?_
 try simp only[cC.h0,F,go_sem]
 rintro i5 bO Bd Ba h1 az ax bg
 refine rS ?_
 simp only[cC.b0]at h1
 try simp only[DC.s0,cC.h0,F,go_sem]
 refine AF F h1 ?_ ?_<;>intro F h1<;>try simp only[F,go_sem]
 obtain⟨x7,dq,h1⟩:=bs h1
 have ma:=(Ao.oL vL dq).2
 try simp only[go_sem]at ma
 have F:=an (aq dq) (an ma F)
 try simp only[F,go_sem]
 obtain⟨r13,afF,h1⟩:=bs h1
 refine A5 afF (cC.h1 ah i5 x7) (cC.x1 ah i5) ?_ ?_ ?_
 refine Al.go [20,21,24,25] [] rfl ?_
 try simp only[cC.h1,F,go_sem]
 rintro i8 x_2 Fq Ft h2 oe pq zS
 refine rS ?_
 simp only[cC.b1]at h2
 try simp only[DC.s1,cC.h1,F,go_sem]
 refine AF F h2 ?_ ?_<;>intro F h2<;>try simp only[F,go_sem]
 obtain⟨dz,lg,h2⟩:=bs h2
 have acV:=(Ao.oL fg lg).2
 try simp only[go_sem]at acV
 have F:=an (aq lg) (an acV F)
 try simp only[F,go_sem]
 refine aj h2 (nd k _ _ _) ?_ (fun bN h2=>?_)<;>try simp only[F,go_sem]
 refine A7 F h2 ?_ ?_<;>intro F h2<;>try simp only[F,go_sem]
 obtain rfl:=zS _ (oi h2).symm
 simp only at h1
 obtain rfl:=bg _ (oi h1).symm
 simp only at h0
 obtain rfl:=oi h0
 refine Ag rfl ?_
 try simp only[F,go_sem]
 refine Ax (oe _ _ (oi h2).symm (Al.go [20,21,24,25] [] rfl ?_))
 try simp only[cC.h1,F,go_sem]
 refine Ax (pq _ _ (oi h2).symm (Al.go [20,21] [] rfl ?_))
 try simp only[cC.x1,F,go_sem]
 rintro _ aA
 subst aA
 simp only at h1
 refine rS ?_
 try simp only[cC.x1,F,go_sem]
 refine Ax (az _ _ (oi h1).symm (Al.go [20,21] [] rfl ?_))
 try simp only[cC.h0,F,go_sem]
 refine Ax (ax _ _ (oi h1).symm (Al.go [] [] rfl ?_))
 try simp only[cC.x0,F,go_sem]
 rintro _ aA
 subst aA
 simp only at h0
 refine rS ?_
 try simp only[cC.x0,F,go_sem]
 obtain rfl:=oi h0
 refine Ag rfl ?_
 try simp only[F,go_sem]
 obtain rfl:=oi h0
 refine Ag rfl ?_
 try simp only[F,go_sem]
def Hm.c:SC:=
 SQ [RG [wE 2 63 0 [0],wE 3 29 1 [1],wA 4 63,wA 5 29,wN 6 0 45 [6]],SQ [RG [wD 9 63 2,wU 10 55 9 63 45 [9],wG 7 10 45 [10]],RG [wV 11 7 45,wK 12 .neq 45 11 0 45 4 [11]],CN 12 (SQ [RG [oQ 13 (.build 63 #[]) 63,oQ 14 (.build 29 #[]) 29,wV 15 7 45 [7],wS 63 4 13 [13],wS 29 5 14 [14],wG 6 15 45 [15]],.ret]) .skip],.aS [wF 16 63 2 0,wD 17 3 16,wF 18 63 2 2,wF 19 42 18 0,wD 20 40 19,wU 21 56 20 40 55,
 wF 22 63 2 0,wD 23 3 22,oQ 24 (.index 55 (.tmp 21) (.tmp 23)) 3,oQ 25 (.build 27 #[(0,.tmp 17),(1,.tmp 24)]) 27,wF 26 29 3 0,wS 27 26 25] [[],[0],[],[2],[2,3],[2,3,4],[],[6],[2,3,4,5,6,7],[0,1,2,3,4,5,6,7,8],[0,1,2,3,4,5,6,7,8,9],[0,1,2,3,4,5,6,7,8,9,10]] [16,17,18,19,20,21,22,23,24,25,26],RG [wN 8 0 45 [8]],SQ [RG [wF 28 63 2 1,wD 29 36 28 [28],wF 30 63 2 2,wD 31 42 30 [30],wD 32 29 3,
 wC 33 32 #[.tmp 29,.tmp 31,.tmp 32] #[36,42,29] 88 [29,31,32],wV 27 33 88 [33],wX 34 27 0 36,wX 35 27 1 42,wX 36 27 2 45 [27],wF 37 63 2 1,wS 36 37 34 [34,37],wF 38 63 2 2,wS 42 38 35 [35,38],wG 8 36 45 [36]],RG [wV 39 8 45,wK 40 .neq 45 39 0 45 4 [39]],CN 40 (SQ [RG [oQ 41 (.build 63 #[]) 63,oQ 42 (.build 29 #[]) 29,wV 43 8 45 [8],wS 63 4 41 [41],wS 29 5 42 [42],wG 6 43 45 [43]],.ret]) .skip],
 .aS [wD 44 63 2,wD 45 29 3,wS 63 4 44,wS 29 5 45,wN 6 0 45] [[],[],[0],[1,0,2],[1,0,2,3]] [2,3,44,45],.ret]
def oU (k:Nat) (ah:Ac) (r1:Ab):Option (Ac×Ab×Int):=
 (cC k ah).bind fun x1=>
 bif (!decide (x1=(0:Int))) then
  some ((⟨0,(⟨[],[]⟩:Ad),(⟨(⟨[]⟩:Ak),0,0,0⟩:Ai),(Aa.rep 6 ((Aa.rep 6 (0:Int)):(Aa 6 Int)))⟩:Ac),(⟨(⟨0,0⟩:Entry),0,0,0,(⟨0,0⟩:Entry),ByteArray.empty⟩:Ab),x1)
 else
  (fh k ah.Ai.Ak).bind fun x3=>
  (x3.at? ah.Me).bind fun x4=>
  (jR k ah.Ad ah.Ai (⟨(⟨ah.Me,x4⟩:Entry),r1.Kind,r1.Day,r1.Ap,r1.Of,r1.Text⟩:Ab)).bind fun x5=>
  bif (!decide (x5.2.2=(0:Int))) then
   some ((⟨0,(⟨[],[]⟩:Ad),(⟨(⟨[]⟩:Ak),0,0,0⟩:Ai),(Aa.rep 6 ((Aa.rep 6 (0:Int)):(Aa 6 Int)))⟩:Ac),(⟨(⟨0,0⟩:Entry),0,0,0,(⟨0,0⟩:Entry),ByteArray.empty⟩:Ab),x5.2.2)
  else
   some ((⟨ah.Me,x5.1,x5.2.1,ah.Ap⟩:Ac),(⟨(⟨ah.Me,x4⟩:Entry),r1.Kind,r1.Day,r1.Ap,r1.Of,r1.Text⟩:Ab),0)
theorem amw (k:Nat) (ah:Ac) (r1:Ab) (r:Ac×Ab×Int) (h0:oU k ah r1=some r):Ay Tryz.prog 19 [.agg (Ac.c ah),.agg (Ab.c r1)] (fun y=>y=.aw [.agg (Ac.c r.1),.agg (Ab.c r.2.1),.int .i64 r.2.2]):=by
 refine PB Tryz.f19 Hm.c [.cell 4 63,.cell 5 29,.tmp 6] ?_
 simp only[oU]at h0
 try simp only[Hm.c,go_sem]
 refine aj h0 (abw k _) ?_ (fun x1 h0=>?_)<;>try simp only[go_sem]
 refine BS h0 ?_ ?_<;>intro c2 h0<;>have F:=c2<;>try simp only[F,go_sem]
 obtain rfl:=oi h0
 refine Ag rfl ?_
 try simp only[F,go_sem]
 refine AL AE aO 1000 ?_
 try simp only[F,go_sem]
 refine bJ h0 (yB k _) ?_ (fun x3 h0=>?_)<;>try simp only[F,go_sem]
 obtain⟨x4,bF,h0⟩:=bs h0
 have fF:=(Ao.oL fg bF).2
 try simp only[go_sem]at fF
 have F:=an (aq bF) (an fF F)
 try simp only[F,go_sem]
 refine aG ?_
 try simp only[F,go_sem]
 refine aj h0 (abr k _ _ _) ?_ (fun x5 h0=>?_)<;>try simp only[F,go_sem]
 refine A7 F h0 ?_ ?_<;>intro F h0<;>try simp only[F,go_sem]
 obtain rfl:=oi h0
 refine Ag rfl ?_
 try simp only[F,go_sem]
 refine AL AE aO 1000 ?_
 try simp only[F,go_sem]
 refine aG ?_
 try simp only[F,go_sem]
 obtain rfl:=oi h0
 refine Ag rfl ?_
 try simp only[F,go_sem]
def HX.c:SC:=
 SQ [RG [wE 1 36 0 [0],wA 2 36],RG [wD 4 36 1,wU 5 40 4 36 99 [4],wG 3 5 99 [5]],SQ [RG [wD 6 36 1 [1],wU 7 71 6 36 4 [6],wQ 8 7 4 [7]],CN 8 (SQ [RG [wV 9 3 99 [3],oQ 10 (.nilCheck (.tmp 9)) 0 [9],wF 11 102 10 0 [10],wD 12 36 11 [11],wS 36 2 12 [12]],.ret]) .skip],RG [wV 13 3 99 [3],wU 14 42 13 99 99 [13],oQ 15 (.nilCheck (.tmp 14)) 0 [14],wF 16 102 15 0 [15],wD 17 36 16 [16],wS 36 2 17 [17]],.ret]
def yv (k:Nat) (d0:Ad):Option (Ad):=
 (nc k d0).bind fun x2=>
 (sf k d0).bind fun x3=>
 bif (!x3) then
  some x2.Ad
 else
  (fU k x2).bind fun x6=>
  some (⟨x6.Ad.Aj,[]⟩:Ad)
theorem amA (k:Nat) (d0:Ad) (r:Ad) (h0:yv k d0=some r):Ay Tryz.prog 92 [.agg (Ad.c d0)] (fun y=>y=.agg (Ad.c r)):=by
 refine PB Tryz.f92 HX.c [.cell 2 36] ?_
 simp only[yv]at h0
 try simp only[HX.c,go_sem]
 obtain⟨x2,dJ,h0⟩:=bs h0
 refine CJ AE 1000 [] [] (ud k _ _ dJ) ?_ rfl ?_
 try simp only[fB,go_sem]
 try simp only[go_sem]
 refine aj h0 (abA k _) ?_ (fun x3 h0=>?_)<;>try simp only[go_sem]
 refine BS h0 ?_ ?_<;>intro c4 h0<;>have F:=c4<;>try simp only[F,go_sem]
 obtain rfl:=oi h0
 refine Ag rfl ?_
 try simp only[F,go_sem]
 obtain⟨x6,dB,h0⟩:=bs h0
 refine Et [2,8] [48,49,50,16,17,18] 6 rfl ?_
 try simp only[F,go_sem]
 refine Es (aby k _ _ dB) ?_ ?_
 try simp only[F,go_sem]
 try simp only[List.take_succ_cons,List.drop_succ_cons,AA,AB,F,go_sem]
 refine rS ?_
 try simp only[F,go_sem]
 obtain rfl:=oi h0
 refine Ag rfl ?_
 try simp only[F,go_sem]
def HH.c:SC:=
 SQ [RG [wE 1 63 0 [0],wA 2 63],RG [wF 3 63 1 1,wD 4 36 3 [3],wU 5 92 4 36 36 [4],wF 6 63 1 1,wS 36 6 5 [5,6]],RG [wF 7 63 1 2,wD 8 42 7 [7],wU 9 38 8 42 42 [8],wF 10 63 1 2,wS 42 10 9 [9,10]],RG [wD 11 63 1 [1],wS 63 2 11 [11]],.ret]
def qm (k:Nat) (ah:Ac):Option (Ac):=
 (yv k ah.Ad).bind fun x1=>
 (nb k ah.Ai).bind fun x2=>
 some (⟨ah.Me,x1,x2,ah.Ap⟩:Ac)
theorem agu (k:Nat) (ah:Ac) (r:Ac) (h0:qm k ah=some r):Ay Tryz.prog 60 [.agg (Ac.c ah)] (fun y=>y=.agg (Ac.c r)):=by
 refine PB Tryz.f60 HH.c [.cell 2 63] ?_
 simp only[qm]at h0
 try simp only[HH.c,go_sem]
 refine aj h0 (amA k _) ?_ (fun x1 h0=>?_)<;>try simp only[go_sem]
 refine aj h0 (adn k _) ?_ (fun x2 h0=>?_)<;>try simp only[go_sem]
 obtain rfl:=oi h0
 refine Ag rfl ?_
 try simp only[go_sem]
def EF.s0:SC:=
 SQ [RG [wO 43 .lss 3 42 41 3 0],CN 43 .skip (.exit 0),.block 1 (SQ [RG [wI 44 38 40 42,wD 45 29 44 [44],wA 10 29,wS 29 10 45 [45]],.aS [wF 46 29 10 0,wF 47 27 46 1,wD 48 3 47,wV 49 1 3,wF 50 29 10 0,wF 51 27 50 0,wD 52 3 51,wF 53 63 2 3,wI 54 61 53 49,wI 55 55 54 52,wD 56 3 55,wO 57 .geq 3 48 56 3 4,wV 58 57 4,gd 58 true (wF 59 57 8 3),gd 58 true (wD 60 38 59),gd 58 true (wL 61 60 38 3),
 gd 58 true (wK 62 .lss 3 61 8 3 4),wZ 63 58 62 4] [[],[0],[0,1],[],[],[4],[4,5],[],[7,3],[7,3,8,4,5,6],[7,3,8,4,5,6,9],[0,1,2,7,3,8,4,5,6,9,10],[0,1,2,7,3,8,4,5,6,9,10,11],[0,1,2,7,3,8,4,5,6,9,10,11,12],[0,1,2,7,3,8,4,5,6,9,10,11,12,13],[0,1,2,7,3,8,4,5,6,9,10,11,12,13,14],[0,1,2,7,3,8,4,5,6,9,10,11,12,13,14,15],[0,1,2,7,3,8,4,5,6,9,10,11,12,13,14,15,16]] [46,47,48,49,50,51,52,53,54,55,56,57,58,
 59,60,61,62],CN 63 (RG [wF 64 57 8 3,wD 65 38 64 [64],wD 66 29 10 [10],oQ 67 (.buildSlice 38 1 #[(0,.tmp 66)]) 38 [66],wP 68 65 67 38 38 38 [65,67],wF 69 57 8 3,wS 38 69 68 [68,69]]) .skip]),RG [wK 70 .add 3 42 1 3 3 [42],wV 42 70 3 [70]]]
def EF.c:SC:=
 SQ [RG [wE 2 63 0 [0],wA 4 63,wA 5 57,wN 6 0 45 [6]],SQ [RG [wD 11 63 2,wU 12 55 11 63 45 [11],wG 7 12 45 [12]],RG [wV 13 7 45,wK 14 .neq 45 13 0 45 4 [13]],CN 14 (SQ [RG [oQ 15 (.build 63 #[]) 63,oQ 16 (.build 57 #[]) 57,wV 17 7 45 [7],wS 63 4 15 [15],wS 57 5 16 [16],wG 6 17 45 [17]],.ret]) .skip],SQ [RG [wV 18 1 3,wU 19 53 18 3 4 [18],wQ 20 19 4 [19],wV 21 20 4 [20],gd 21 false (wV 22 1 3),
 gd 21 false (wF 23 63 2 0),gd 21 false (wD 24 3 23 [23]),gd 21 false (wO 25 .eql 3 22 24 3 4 [22,24]),wT 26 21 25 4 [21,25]],CN 26 (SQ [RG [oQ 27 (.build 63 #[]) 63,oQ 28 (.build 57 #[]) 57,wS 63 4 27 [27],wS 57 5 28 [28],wN 6 1 45],.ret]) .skip],.aS [wF 29 63 2 0,wD 30 3 29,wV 31 1 3,wF 32 63 2 2,wF 33 42 32 0,wD 34 40 33,wU 35 56 34 40 55,oQ 36 (.build 57 #[(0,.tmp 30),(1,.tmp 31),(2,
 .tmp 35)]) 57,wA 8 57,wS 57 8 36] [[],[0],[],[],[3],[3,4],[3,4,5],[0,1,2,3,4,5,6],[],[8,0,1,2,3,4,5,6,7]] [29,30,31,32,33,34,35,36],SQ [RG [wF 37 63 2 2,wF 38 42 37 0 [37],wF 39 40 38 0 [38],wD 40 38 39 [39],wL 41 40 38 3,oQ 42 (.move (.const (.int .i64 0))) 3],.block 0 (.loop EF.s0)],.aS [wD 71 63 2,wU 72 60 71 63 63,wD 73 57 8,wS 63 4 72,wS 57 5 73,wN 6 0 45] [[],[0],[],[0,1],[2,0,1,3],[2,0,
 1,3,4]] [2,8,71,72,73],.ret]
def eF.b0 (k:Nat) (ah:Ac) (dS:Int):(Int×(List Ab))->Option (AN (Int×(List Ab)) ((List Ab)) (Ac×Av×Int)):=fun s=>match s with
 |(i7,l8)=>
   bif decide (i7<(ah.Ai.Ak.Ah.length:Int)) then
    (at? ah.Ai.Ak.Ah i7).bind fun bN=>
    (ah.Ap.at? dS).bind fun dA=>
    (dA.at? bN.At.Ac).bind fun bx=>
    bif decide (bx<=bN.At.No) then
     bif decide (((l8.length:Nat):Int)<(8:Int)) then
      (eO 72 l8 bN).bind fun tf=>
      some (.next (ab (i7+1),tf))
     else
      some (.next (ab (i7+1),l8))
    else
     some (.next (ab (i7+1),l8))
   else
    some (.brk l8)
def eF.h0 (ah:Ac) (dS:Int) (x6:(Aa 6 Int)):(Int×(List Ab))->St:=fun s=>match s with
 |(i7,l8)=>⟨[(1,.int .i64 dS),(2,.ptr 0 0 0),(4,.ptr 0 1 0),(5,.ptr 0 5 0),(8,.ptr 0 7 0),(40,.sl 8 (List.map Ab.c ah.Ai.Ak.Ah)),(41,.int .i64 (ah.Ai.Ak.Ah.length:Int)),(42,.int .i64 i7)],[(0,.box ([.int .i64 ah.Me,.sl 64 (List.map (Aa.c (n:=2) (Aa.c (n:=32) ae)) ah.Ad.Aj),.sl 65 (List.map As.c ah.Ad.Af),.sl 8 (List.map Ab.c ah.Ai.Ak.Ah),.int .i64 ah.Ai.AS,.int .i64 ah.Ai.Aq,.int .i64 ah.Ai.Used]++(Aa.c (n:=6) (Aa.c (n:=6) eI) ah.Ap))),(1,.box ([.int .i64 0,.loc 0 2 64 0 0 0,.loc 0 3 65 0 0 0,.loc 0 4 8 0 0 0,.int .i64 0,.int .i64 0,.int .i64 0]++(Aa.c (n:=6) (Aa.c (n:=6) eI) (Aa.rep 6 ((Aa.rep 6 (0:Int)):(Aa 6 Int)))))),(2,.arr 113 64 (List.map (Aa.c (n:=2) (Aa.c (n:=32) ae)) [])),(3,.arr 116 65 (List.map As.c [])),(4,.arr 29 8 (List.map Ab.c [])),(5,.box ([.int .i64 0,.int .i64 0]++(Aa.c (n:=6) eI (Aa.rep 6 (0:Int))++([.loc 0 6 8 0 0 0])))),(6,.arr 29 8 (List.map Ab.c [])),(7,.box ([.int .i64 ah.Me,.int .i64 dS]++(Aa.c (n:=6) eI x6++([.loc 0 8 8 0 l8.length l8.length])))),(8,.arr 29 8 (List.map Ab.c l8))],[],9,Tryz.f21.ntmps⟩
def eF.x0 (ah:Ac) (dS:Int) (x6:(Aa 6 Int)):(List Ab)->St:=fun l9=>⟨[(2,.ptr 0 0 0),(4,.ptr 0 1 0),(5,.ptr 0 5 0),(8,.ptr 0 7 0)],[(0,.box ([.int .i64 ah.Me,.sl 64 (List.map (Aa.c (n:=2) (Aa.c (n:=32) ae)) ah.Ad.Aj),.sl 65 (List.map As.c ah.Ad.Af),.sl 8 (List.map Ab.c ah.Ai.Ak.Ah),.int .i64 ah.Ai.AS,.int .i64 ah.Ai.Aq,.int .i64 ah.Ai.Used]++(Aa.c (n:=6) (Aa.c (n:=6) eI) ah.Ap))),(1,.box ([.int .i64 0,.loc 0 2 64 0 0 0,.loc 0 3 65 0 0 0,.loc 0 4 8 0 0 0,.int .i64 0,.int .i64 0,.int .i64 0]++(Aa.c (n:=6) (Aa.c (n:=6) eI) (Aa.rep 6 ((Aa.rep 6 (0:Int)):(Aa 6 Int)))))),(2,.arr 113 64 (List.map (Aa.c (n:=2) (Aa.c (n:=32) ae)) [])),(3,.arr 116 65 (List.map As.c [])),(4,.arr 29 8 (List.map Ab.c [])),(5,.box ([.int .i64 0,.int .i64 0]++(Aa.c (n:=6) eI (Aa.rep 6 (0:Int))++([.loc 0 6 8 0 0 0])))),(6,.arr 29 8 (List.map Ab.c [])),(7,.box ([.int .i64 ah.Me,.int .i64 dS]++(Aa.c (n:=6) eI x6++([.loc 0 8 8 0 l9.length l9.length])))),(8,.arr 29 8 (List.map Ab.c l9))],[],9,Tryz.f21.ntmps⟩
def eF (k:Nat) (ah:Ac) (dS:Int):Option (Ac×Av×Int):=
 (cC k ah).bind fun x1=>
 bif (!decide (x1=(0:Int))) then
  some ((⟨0,(⟨[],[]⟩:Ad),(⟨(⟨[]⟩:Ak),0,0,0⟩:Ai),(Aa.rep 6 ((Aa.rep 6 (0:Int)):(Aa 6 Int)))⟩:Ac),(⟨0,0,(Aa.rep 6 (0:Int)),[]⟩:Av),x1)
 else
  (mn k dS).bind fun x3=>
  bif x3 then
   bif decide (dS=ah.Me) then
    some ((⟨0,(⟨[],[]⟩:Ad),(⟨(⟨[]⟩:Ak),0,0,0⟩:Ai),(Aa.rep 6 ((Aa.rep 6 (0:Int)):(Aa 6 Int)))⟩:Ac),(⟨0,0,(Aa.rep 6 (0:Int)),[]⟩:Av),1)
   else
    (fh k ah.Ai.Ak).bind fun x6=>
    (ai (eF.b0 k ah dS) k (0,[])).bind fun oG=>match oG with
    |.next _=>none
    |.ret v_=>some v_
    |.brk l9=>
     (qm k ah).bind fun mi=>
     some (mi,(⟨ah.Me,dS,x6,l9⟩:Av),0)
  else
   some ((⟨0,(⟨[],[]⟩:Ad),(⟨(⟨[]⟩:Ak),0,0,0⟩:Ai),(Aa.rep 6 ((Aa.rep 6 (0:Int)):(Aa 6 Int)))⟩:Ac),(⟨0,0,(Aa.rep 6 (0:Int)),[]⟩:Av),1)
theorem amx (k:Nat) (ah:Ac) (dS:Int) (r:Ac×Av×Int) (h0:eF k ah dS=some r):Ay Tryz.prog 21 [.agg (Ac.c ah),.int .i64 dS] (fun y=>y=.aw [.agg (Ac.c r.1),.agg (Av.c r.2.1),.int .i64 r.2.2]):=by
 refine PB Tryz.f21 EF.c [.cell 4 63,.cell 5 57,.tmp 6] ?_
 simp only[eF]at h0
 try simp only[EF.c,go_sem]
 refine aj h0 (abw k _) ?_ (fun x1 h0=>?_)<;>try simp only[go_sem]
 refine BS h0 ?_ ?_<;>intro c2 h0<;>have F:=c2<;>try simp only[F,go_sem]
 obtain rfl:=oi h0
 refine Ag rfl ?_
 try simp only[F,go_sem]
 refine aj h0 (yD k _) ?_ (fun x3 h0=>?_)<;>try simp only[F,go_sem]
 refine AF F h0 ?_ ?_<;>intro F h0<;>try simp only[F,go_sem]
 refine AF F h0 ?_ ?_<;>intro F h0<;>try simp only[F,go_sem]
 obtain rfl:=oi h0
 refine Ag rfl ?_
 try simp only[F,go_sem]
 refine AL AE aO 1000 ?_
 try simp only[F,go_sem]
 refine bJ h0 (yB k _) ?_ (fun x6 h0=>?_)<;>try simp only[F,go_sem]
 refine aG ?_
 try simp only[F,go_sem]
 obtain⟨oG,vG,h0⟩:=bs h0
 refine A5 vG (eF.h0 ah dS x6) (eF.x0 ah dS x6) ?_ ?_ ?_
 refine Al.go [1,2,4,5,8,40,41,42] [0,16,17,18,19,32,33,416,432] rfl ?_
 try simp only[eF.h0,F,go_sem]
 rintro⟨i7,l8⟩ bO Bd Ba h1 az ax bg
 refine rS ?_
 simp only[eF.b0]at h1
 try simp only[EF.s0,eF.h0,F,go_sem]
 refine AF F h1 ?_ ?_<;>intro F h1<;>try simp only[F,go_sem]
 obtain⟨bN,gK,h1⟩:=bs h1
 have F:=an (aI gK) (an (aH Ab.c gK) F)
 try simp only[F,go_sem]
 refine AL AE aO 1000 ?_
 try simp only[F,go_sem]
 obtain⟨dA,m9,h1⟩:=bs h1
 have aaK:=Ao.bh vL (Ao.skip (Ao.self yo ah.Ap) ([.int .i64 ah.Me,.sl 64 (List.map (Aa.c (n:=2) (Aa.c (n:=32) ae)) ah.Ad.Aj),.sl 65 (List.map As.c ah.Ad.Af),.sl 8 (List.map Ab.c ah.Ai.Ak.Ah),.int .i64 ah.Ai.AS,.int .i64 ah.Ai.Aq,.int .i64 ah.Ai.Used]:List AV)) m9
 have aaQ:=aaK.2
 try simp only[AA,AB,go_sem]at aaQ
 have F:=an (aq m9) (an aaQ F)
 try simp only[F,go_sem]
 obtain⟨bx,iv,h1⟩:=bs h1
 have pY:=Ao.bh fg aaK.1 iv
 have tP:=pY.2
 try simp only[go_sem]at tP
 have F:=an (aq iv) (an tP F)
 try simp only[F,go_sem]
 refine DF F h1 ?_ ?_<;>intro F h1<;>try simp only[F,go_sem]
 refine aG ?_
 try simp only[F,go_sem]
 refine AF F h1 ?_ ?_<;>intro F h1<;>try simp only[F,go_sem]
 obtain⟨tf,yk,h1⟩:=bs h1
 have aaZ:=pu Ab.c yk
 try simp only[F,go_sem]at aaZ
 have F:=an aaZ F
 try simp only[F,go_sem]
 refine Ax (az _ _ (oi h1).symm (Al.go [1,2,4,5,8,40,41,42] [0,1,2,3,4,5,6,7,8] rfl ?_))
 try simp only[eF.h0,F,go_sem]
 refine Ax (az _ _ (oi h1).symm (Al.go [1,2,4,5,8,40,41,42] [0,1,2,3,4,5,6,7,8] rfl ?_))
 try simp only[eF.h0,F,go_sem]
 refine aG ?_
 try simp only[F,go_sem]
 refine Ax (az _ _ (oi h1).symm (Al.go [1,2,4,5,8,40,41,42] [0,1,2,3,4,5,6,7,8] rfl ?_))
 try simp only[eF.h0,F,go_sem]
 refine Ax (ax _ _ (oi h1).symm (Al.go [2,4,5,8] [0,1,2,3,4,5,6,7,8] rfl ?_))
 try simp only[eF.x0,F,go_sem]
 rintro l9 aA
 subst aA
 simp only at h0
 refine rS ?_
 try simp only[eF.x0,F,go_sem]
 refine AL AE aO 1000 ?_
 try simp only[F,go_sem]
 refine bJ h0 (agu k _) ?_ (fun mi h0=>?_)<;>try simp only[F,go_sem]
 refine aG ?_
 try simp only[F,go_sem]
 obtain rfl:=oi h0
 refine Ag rfl ?_
 try simp only[F,go_sem]
 obtain rfl:=oi h0
 refine Ag rfl ?_
 try simp only[F,go_sem]
def Ez.s0:SC:=
 SQ [RG [wO 9 .lss 3 8 7 3 0],CN 9 .skip (.exit 0),.block 1 (SQ [RG [wV 10 8 3,wG 5 10 3 [10]],RG [wV 11 1 162,wV 12 0 38,wV 13 5 3,wI 14 38 12 13 [12,13],wD 15 29 14 [14],oQ 16 (.call ⟨.value (.tmp 11),#[.tmp 15],#[29]⟩) 4 [11,15]],CN 16 (SQ [RG [wV 17 5 3 [5],wG 4 17 3 [17]],.ret]) .skip]),RG [wK 18 .add 3 8 1 3 3 [8],wV 8 18 3 [18]]]
def Ez.c:SC:=
 SQ [RG [wN 4 0 3 [4]],SQ [RG [wV 6 0 38,wL 7 6 38 3 [6],oQ 8 (.move (.const (.int .i64 0))) 3],.block 0 (.loop Ez.s0)],RG [wN 4 (-1) 3],.ret]
def gn.b0 (k:Nat) (f1:Ab->Option (Bool)) (s0:(List Ab)):Int->Option (AN (Int) (Unit) (Int)):=fun i1=>
 bif decide (i1<(s0.length:Int)) then
  (at? s0 i1).bind fun x3=>
  (f1 x3).bind fun x4=>
  bif x4 then
   some (.ret i1)
  else
   some (.next (ab (i1+1)))
 else
  some (.brk ())
def gn.h0 (iH:Nat) (fY:List AV) (s0:(List Ab)):Int->St:=fun i1=>⟨[(0,.sl 8 (List.map Ab.c s0)),(1,.fn (.func iH) [] fY),(7,.int .i64 (s0.length:Int)),(8,.int .i64 i1)],[],[],1,Tryz.f111.ntmps⟩
def gn.x0:Unit->St:=fun _=>⟨[],[],[],1,Tryz.f111.ntmps⟩
def gn (k:Nat) (s0:(List Ab)) (f1:Ab->Option (Bool)):Option (Int):=
 (ai (gn.b0 k f1 s0) k 0).bind fun r6=>match r6 with
 |.next _=>none
 |.ret v_=>some v_
 |.brk _=>
  some (-1)
theorem arE (k:Nat) (s0:(List Ab)) (iH:Nat) (fY:List AV) (dt:Ch fY) (f1:Ab->Option (Bool)) (uu:∀ q0 qr,f1 q0=some qr->Ay Tryz.prog iH (.agg (Ab.c q0)::fY) (fun y=>y=.bool qr)) (r:Int) (h0:gn k s0 f1=some r):Ay Tryz.prog 111 [.sl 8 (List.map Ab.c s0),.fn (.func iH) [] fY] (fun y=>y=.int .i64 r):=by
 refine PB Tryz.f111 Ez.c [.tmp 4] ?_
 simp only[gn]at h0
 have F:=an dt.sh (an dt.ak (an dt.br (an dt.refs (an dt.imp (an dt.aV dt.un)))))
 try simp only[Ez.c,F,go_sem]
 obtain⟨r6,rR,h0⟩:=bs h0
 refine A5 rR (gn.h0 iH fY s0) (gn.x0) ?_ ?_ ?_
 refine Al.go [0,1,7,8] [] rfl ?_
 try simp only[gn.h0,F,go_sem]
 rintro i1 bO Bd Ba h1 az ax bg
 refine rS ?_
 simp only[gn.b0]at h1
 try simp only[Ez.s0,gn.h0,F,go_sem]
 refine AF F h1 ?_ ?_<;>intro F h1<;>try simp only[F,go_sem]
 obtain⟨x3,cv,h1⟩:=bs h1
 have F:=an (aI cv) (an (aH Ab.c cv) F)
 try simp only[F,go_sem]
 refine aj h1 (uu _) ?_ (fun x4 h1=>?_) (fun _=>by simp[AV.aT,AV.refs,AV.cS,AV.leaf,dt.refs])<;>try simp only[F,go_sem]
 refine AF F h1 ?_ ?_<;>intro F h1<;>try simp only[F,go_sem]
 obtain rfl:=bg _ (oi h1).symm
 simp only at h0
 obtain rfl:=oi h0
 refine Ag rfl ?_
 try simp only[F,go_sem]
 refine Ax (az _ _ (oi h1).symm (Al.go [0,1,7,8] [] rfl ?_))
 try simp only[gn.h0,F,go_sem]
 refine Ax (ax _ _ (oi h1).symm (Al.go [] [] rfl ?_))
 try simp only[gn.x0,F,go_sem]
 rintro _ aA
 subst aA
 simp only at h0
 refine rS ?_
 try simp only[gn.x0,F,go_sem]
 obtain rfl:=oi h0
 refine Ag rfl ?_
 try simp only[F,go_sem]
def HY.c:SC:=
 SQ [RG [wB 4 false 4 [4]],RG [wV 5 0 38 [0],wV 6 1 162 [1],wW 7 111 5 6 38 162 3 [5,6],wK 8 .geq 3 7 0 3 4 [7],wG 4 8 4 [8]],.ret]
def vq (k:Nat) (s0:(List Ab)) (f1:Ab->Option (Bool)):Option (Bool):=
 (gn k s0 f1).bind fun x1=>
 some (decide ((0:Int)<=x1))
theorem arB (k:Nat) (s0:(List Ab)) (iH:Nat) (fY:List AV) (dt:Ch fY) (f1:Ab->Option (Bool)) (uu:∀ q0 qr,f1 q0=some qr->Ay Tryz.prog iH (.agg (Ab.c q0)::fY) (fun y=>y=.bool qr)) (r:Bool) (h0:vq k s0 f1=some r):Ay Tryz.prog 93 [.sl 8 (List.map Ab.c s0),.fn (.func iH) [] fY] (fun y=>y=.bool r):=by
 refine PB Tryz.f93 HY.c [.tmp 4] ?_
 simp only[vq]at h0
 have F:=an dt.sh (an dt.ak (an dt.br (an dt.refs (an dt.imp (an dt.aV dt.un)))))
 try simp only[HY.c,F,go_sem]
 refine aj h0 (arE k _ iH fY dt f1 uu) ?_ (fun x1 h0=>?_) (fun _=>by simp[AV.aT,AV.refs,AV.cS,AV.leaf,dt.refs])<;>try simp only[F,go_sem]
 obtain rfl:=oi h0
 refine Ag rfl ?_
 try simp only[F,go_sem]
def HZ.c:SC:=
 SQ [RG [wE 1 29 0 [0],wB 2 false 4 [2]],RG [wD 3 29 1 [1],wU 4 95 3 29 4 [3],wQ 5 4 4 [4],wG 2 5 4 [5]],.ret]
def oX (k:Nat) (r0:Ab):Option (Bool):=
 (oW k r0).bind fun x1=>
 some (!x1)
theorem amJ (k:Nat) (r0:Ab) (r:Bool) (h0:oX k r0=some r):Ay Tryz.prog 94 [.agg (Ab.c r0)] (fun y=>y=.bool r):=by
 refine PB Tryz.f94 HZ.c [.tmp 2] ?_
 simp only[oX]at h0
 try simp only[HZ.c,go_sem]
 refine aj h0 (abB k _) ?_ (fun x1 h0=>?_)<;>try simp only[go_sem]
 obtain rfl:=oi h0
 refine Ag rfl ?_
 try simp only[go_sem]
def EP.s0:SC:=
 SQ [RG [wK 31 .lss 3 30 6 3 0],CN 31 .skip (.exit 0),.block 1 (SQ [RG [oQ 32 (.index 55 (.tmp 29) (.tmp 30)) 3,wG 4 32 3 [32]],RG [wV 33 4 3 [4],wC 34 69 #[.tmp 33,.const (.int .i64 0),.const (.int .i64 60)] #[3,3,3] 4 [33],wQ 35 34 4 [34]],CN 35 (SQ [RG [wB 2 false 4],.ret]) .skip]),RG [wK 36 .add 3 30 1 3 3 [30],wV 30 36 3 [36]]]
def EP.c:SC:=
 SQ [RG [wE 1 57 0 [0],wB 2 false 4 [2]],SQ [RG [wF 5 57 1 0,wD 6 3 5 [5],wU 7 53 6 3 4 [6],wQ 8 7 4 [7],wV 9 8 4 [8],gd 9 false (wF 10 57 1 1),gd 9 false (wD 11 3 10 [10]),gd 9 false (wU 12 53 11 3 4 [11]),gd 9 false (wQ 13 12 4 [12]),wT 14 9 13 4 [9,13],wV 15 14 4 [14],gd 15 false (wF 16 57 1 0),gd 15 false (wD 17 3 16 [16]),gd 15 false (wF 18 57 1 1),gd 15 false (wD 19 3 18 [18]),
 gd 15 false (wO 20 .eql 3 17 19 3 4 [17,19]),wT 21 15 20 4 [15,20],wV 22 21 4 [21],gd 22 false (wF 23 57 1 3),gd 22 false (wD 24 38 23 [23]),gd 22 false (wL 25 24 38 3 [24]),gd 22 false (wK 26 .gtr 3 25 8 3 4 [25]),wT 27 22 26 4 [22,26]],CN 27 (SQ [RG [wB 2 false 4],.ret]) .skip],SQ [RG [wF 28 57 1 2,wD 29 55 28 [28],oQ 30 (.move (.const (.int .i64 0))) 3],.block 0 (.loop EP.s0)],
 RG [wF 37 57 1 3 [1],wD 38 38 37 [37],wC 39 93 #[.tmp 38,.func 94] #[38,162] 4 [38],wQ 40 39 4 [39],wG 2 40 4 [40]],.ret]
def fV.b0 (k:Nat) (s0:Av):Int->Option (AN (Int) (Unit) (Bool)):=fun i7=>
 bif decide (i7<(6:Int)) then
  (s0.Have.at? i7).bind fun x9=>
  (ja k x9 0 60).bind fun dz=>
  bif (!dz) then
   some (.ret false)
  else
   some (.next (ab (i7+1)))
 else
  some (.brk ())
def fV.h0 (s0:Av):Int->St:=fun i7=>⟨[(1,.ptr 0 0 0),(29,.agg (Aa.c (n:=6) eI s0.Have)),(30,.int .i64 i7)],[(0,.box ([.int .i64 s0.Bs,.int .i64 s0.To]++(Aa.c (n:=6) eI s0.Have++([.sl 8 (List.map Ab.c s0.Ah)]))))],[],1,Tryz.f62.ntmps⟩
def fV.x0 (s0:Av):Unit->St:=fun _=>⟨[(1,.ptr 0 0 0)],[(0,.box ([.int .i64 s0.Bs,.int .i64 s0.To]++(Aa.c (n:=6) eI s0.Have++([.sl 8 (List.map Ab.c s0.Ah)]))))],[],1,Tryz.f62.ntmps⟩
def fV (k:Nat) (s0:Av):Option (Bool):=
 (mn k s0.Bs).bind fun x1=>
 bif x1 then
  (mn k s0.To).bind fun x3=>
  bif x3 then
   bif (!decide (s0.Bs=s0.To)) then
    bif decide ((8:Int)<(s0.Ah.length:Int)) then
     some false
    else
     (ai (fV.b0 k s0) k 0).bind fun r12=>match r12 with
     |.next _=>none
     |.ret v_=>some v_
     |.brk _=>
      (vq k s0.Ah (fun q0=>oX k q0)).bind fun bx=>
      some (!bx)
   else
    some false
  else
   some false
 else
  some false
theorem amK (k:Nat) (s0:Av) (r:Bool) (h0:fV k s0=some r):Ay Tryz.prog 62 [.agg (Av.c s0)] (fun y=>y=.bool r):=by
 refine PB Tryz.f62 EP.c [.tmp 2] ?_
 simp only[fV]at h0
 try simp only[EP.c,go_sem]
 refine aj h0 (yD k _) ?_ (fun x1 h0=>?_)<;>try simp only[go_sem]
 refine AP h0 ?_ ?_<;>intro c2 h0<;>have F:=c2<;>try simp only[F,go_sem]
 refine aj h0 (yD k _) ?_ (fun x3 h0=>?_)<;>try simp only[F,go_sem]
 refine AF F h0 ?_ ?_<;>intro F h0<;>try simp only[F,go_sem]
 refine A7 F h0 ?_ ?_<;>intro F h0<;>try simp only[F,go_sem]
 refine AF F h0 ?_ ?_<;>intro F h0<;>try simp only[F,go_sem]
 obtain rfl:=oi h0
 refine Ag rfl ?_
 try simp only[F,go_sem]
 obtain⟨r12,ass,h0⟩:=bs h0
 refine A5 ass (fV.h0 s0) (fV.x0 s0) ?_ ?_ ?_
 refine Al.go [1,29,30] [0] rfl ?_
 try simp only[fV.h0,F,go_sem]
 rintro i7 bO Bd Ba h1 az ax bg
 refine rS ?_
 simp only[fV.b0]at h1
 try simp only[EP.s0,fV.h0,F,go_sem]
 refine AF F h1 ?_ ?_<;>intro F h1<;>try simp only[F,go_sem]
 obtain⟨x9,gM,h1⟩:=bs h1
 have mY:=(Ao.oL fg gM).2
 try simp only[go_sem]at mY
 have F:=an (aq gM) (an mY F)
 try simp only[F,go_sem]
 refine aj h1 (nd k _ _ _) ?_ (fun dz h1=>?_)<;>try simp only[F,go_sem]
 refine A7 F h1 ?_ ?_<;>intro F h1<;>try simp only[F,go_sem]
 obtain rfl:=bg _ (oi h1).symm
 simp only at h0
 obtain rfl:=oi h0
 refine Ag rfl ?_
 try simp only[F,go_sem]
 refine Ax (az _ _ (oi h1).symm (Al.go [1,29,30] [0] rfl ?_))
 try simp only[fV.h0,F,go_sem]
 refine Ax (ax _ _ (oi h1).symm (Al.go [1] [0] rfl ?_))
 try simp only[fV.x0,F,go_sem]
 rintro _ aA
 subst aA
 simp only at h0
 refine rS ?_
 try simp only[fV.x0,F,go_sem]
 refine aj h0 (arB k _ 94 [] ⟨fun _=>rfl,fun _=>rfl,fun _ _=>rfl,rfl,fun _=>rfl,fun _=>rfl,fun _=>rfl⟩ (fun q0=>oX k q0) (fun q0 qr qh=>amJ k q0 qr qh)) ?_ (fun bx h0=>?_)<;>try simp only[F,go_sem]
 obtain rfl:=oi h0
 refine Ag rfl ?_
 try simp only[F,go_sem]
 obtain rfl:=oi h0
 refine Ag rfl ?_
 try simp only[F,go_sem]
 obtain rfl:=oi h0
 refine Ag rfl ?_
 try simp only[F,go_sem]
 obtain rfl:=oi h0
 refine Ag rfl ?_
 try simp only[F,go_sem]
def Dz.s1:SC:=
 SQ [RG [wK 85 .lss 3 84 6 3 0],CN 85 .skip (.exit 2),.block 3 (SQ [RG [wV 86 84 3,oQ 87 (.index 55 (.tmp 83) (.tmp 84)) 3,wG 11 86 3 [86],wG 12 87 3 [87]],.aS [wF 88 57 3 0,wD 89 3 88,wV 90 11 3,wF 91 57 3 0,wD 92 3 91,wV 93 11 3,wF 94 63 2 3,wI 95 61 94 92,wI 96 55 95 93,wD 97 3 96,wV 98 12 3,oQ 99 (.call ⟨.builtin .max,#[.tmp 97,.tmp 98],#[3,3]⟩) 3,wF 100 63 2 3,wI 101 61 100 89,
 wI 102 55 101 90,wS 3 102 99] [[],[0],[],[],[3],[],[],[6,3,4],[6,3,4,7,5],[6,3,4,7,5,8],[],[6,3,4,7,5,8,9,10],[],[12,0,1],[12,0,1,13,2,3,4,5,6,7,8,9,10,11],[12,0,1,13,2,3,4,5,6,7,8,9,10,11,14]] [11,12,88,89,90,91,92,93,94,95,96,97,98,99,100,101,102]]),RG [wK 103 .add 3 84 1 3 3 [84],wV 84 103 3 [103]]]
def Dz.s0:SC:=
 SQ [RG [wO 48 .lss 3 47 46 3 0],CN 48 .skip (.exit 0),.block 1 (SQ [RG [wI 49 38 45 47,wD 50 29 49 [49],wA 9 29,wS 29 9 50 [50]],SQ [.aS [wF 51 29 9 0,wF 52 27 51 1,wD 53 3 52,wF 54 63 2 2,wF 55 42 54 0,wD 56 40 55,wU 57 56 56 40 55,wF 58 29 9 0,wF 59 27 58 0,wD 60 3 59,oQ 61 (.index 55 (.tmp 57) (.tmp 60)) 3,wO 62 .gtr 3 53 61 3 4] [[],[0],[0,1],[],[3],[3,4],[3,4,5],[],[7],[7,8],[3,4,5,6,7,8,
 9],[0,1,2,3,4,5,6,7,8,9,10]] [51,52,53,54,55,56,57,58,59,60,61],CN 62 (.exit 1) .skip],RG [wN 10 0 45 [10]],RG [wF 64 63 2 1,wD 65 36 64 [64],wF 66 63 2 2,wD 67 42 66 [66],wD 68 29 9 [9],wC 69 32 #[.tmp 65,.tmp 67,.tmp 68] #[36,42,29] 88 [65,67,68],wV 63 69 88 [69],wX 70 63 0 36,wX 71 63 1 42,wX 72 63 2 45 [63],wF 73 63 2 1,wS 36 73 70 [70,73],wF 74 63 2 2,wS 42 74 71 [71,74],wG 10 72 45 [72]],
 RG [wV 75 10 45,wK 76 .neq 45 75 0 45 4 [75]],CN 76 (SQ [RG [oQ 77 (.build 63 #[]) 63,wV 78 10 45 [10],wS 63 4 77 [77],oQ 5 (.assign (.const (.slice none 0 0))) 65,wG 6 78 45 [78]],.ret]) .skip]),RG [wK 79 .add 3 47 1 3 3 [47],wV 47 79 3 [79]]]
def Dz.c:SC:=
 SQ [RG [wE 2 63 0 [0],wE 3 57 1 [1],wA 4 63,oQ 5 (.assign (.const (.slice none 0 0))) 65 [5],wN 6 0 45 [6]],SQ [RG [wD 13 63 2,wU 14 55 13 63 45 [13],wG 7 14 45 [14]],RG [wV 15 7 45,wK 16 .neq 45 15 0 45 4 [15]],CN 16 (SQ [RG [oQ 17 (.build 63 #[]) 63,wV 18 7 45 [7],wS 63 4 17 [17],oQ 5 (.assign (.const (.slice none 0 0))) 65,wG 6 18 45 [18]],.ret]) .skip],SQ [RG [wD 19 57 3,wU 20 62 19 57 4 [19],
 wQ 21 20 4 [20],wV 22 21 4 [21],gd 22 false (wF 23 57 3 1),gd 22 false (wD 24 3 23 [23]),gd 22 false (wF 25 63 2 0),gd 22 false (wD 26 3 25 [25]),gd 22 false (wO 27 .neq 3 24 26 3 4 [24,26]),wT 28 22 27 4 [22,27]],CN 28 (SQ [RG [oQ 29 (.build 63 #[]) 63,wS 63 4 29 [29],oQ 5 (.assign (.const (.slice none 0 0))) 65,wN 6 97 45],.ret]) .skip],.aS [wF 30 63 2 0,wD 31 3 30,wF 32 63 2 1,wD 33 36 32,
 wU 34 40 33 36 99,oQ 35 (.nilCheck (.tmp 34)) 0,wF 36 102 35 0,wD 37 36 36,wF 38 63 2 2,wD 39 42 38,wU 40 38 39 42 42,wF 41 63 2 3,wD 42 61 41,oQ 43 (.build 63 #[(0,.tmp 31),(1,.tmp 37),(2,.tmp 40),(3,.tmp 42)]) 63,wS 63 2 43] [[],[0],[],[2],[2,3],[2,3,4],[2,3,4,5],[2,3,4,5,6],[],[8],[8,9,2,3,4],[],[11],[0,1,2,3,4,5,6,7,8,9,10,11,12],[0,1,2,3,4,5,6,7,8,9,10,11,12,13]] [30,31,32,33,34,35,36,37,38,
 39,40,41,42,43],SQ [RG [wF 44 57 3 3,wD 45 38 44 [44],wL 46 45 38 3,oQ 47 (.move (.const (.int .i64 0))) 3],.block 0 (.loop Dz.s0)],RG [wD 80 63 2,wU 81 60 80 63 63 [80],wS 63 2 81 [81]],SQ [RG [wF 82 57 3 2,wD 83 55 82 [82],oQ 84 (.move (.const (.int .i64 0))) 3],.block 2 (.loop Dz.s1)],SQ [RG [wF 104 57 3 3,wD 105 38 104 [104],wL 106 105 38 3 [105],wK 107 .eql 3 106 0 3 4 [106]],
 CN 107 (SQ [RG [wD 108 63 2 [2],wS 63 4 108 [108],oQ 5 (.assign (.const (.slice none 0 0))) 65,wN 6 0 45],.ret]) .skip],.aS [wD 109 63 2,wF 110 63 2 0,wD 111 3 110,wF 112 57 3 0,wD 113 3 112,wF 114 63 2 2,wF 115 42 114 0,wD 116 40 115,wU 117 56 116 40 55,oQ 118 (.build 57 #[(0,.tmp 111),(1,.tmp 113),(2,.tmp 117)]) 57,oQ 119 (.buildSlice 65 1 #[(0,.tmp 118)]) 65,wS 63 4 109,wG 5 119 65,
 wN 6 0 45] [[],[],[1],[],[3],[],[5],[5,6],[5,6,7],[1,2,3,4,5,6,7,8],[1,2,3,4,5,6,7,8,9],[0,5,6,7,8],[1,2,3,4,5,6,7,8,9,10,0,11],[1,2,3,4,5,6,7,8,9,10,0,11,12]] [2,3,109,110,111,112,113,114,115,116,117,118,119],.ret]
def bA.b0 (k:Nat) (s1:Av):(Ac×Int)->Option (AN (Ac×Int) (Ac) (Ac×(List Av)×Int)):=fun s=>match s with
 |(s9,i10)=>
   bif decide (i10<(s1.Ah.length:Int)) then
    (at? s1.Ah i10).bind fun bx=>
    (fh k s9.Ai.Ak).bind fun bR=>
    (bR.at? bx.At.Ac).bind fun cd=>
    bif decide (cd<bx.At.No) then
     some (.next (s9,ab (i10+1)))
    else
     (jR k s9.Ad s9.Ai bx).bind fun fS=>
     bif (!decide (fS.2.2=(0:Int))) then
      some (.ret ((⟨0,(⟨[],[]⟩:Ad),(⟨(⟨[]⟩:Ak),0,0,0⟩:Ai),(Aa.rep 6 ((Aa.rep 6 (0:Int)):(Aa 6 Int)))⟩:Ac),[],fS.2.2))
     else
      some (.next ((⟨s9.Me,fS.1,fS.2.1,s9.Ap⟩:Ac),ab (i10+1)))
   else
    some (.brk s9)
def bA.b1 (k:Nat) (s1:Av):(Ac×Int)->Option (AN (Ac×Int) (Ac) (Ac×(List Av)×Int)):=fun s=>match s with
 |(ca,i22)=>
   bif decide (i22<(6:Int)) then
    (s1.Have.at? i22).bind fun cJ=>
    (ca.Ap.at? s1.Bs).bind fun la=>
    (la.at? i22).bind fun kg=>
    some (.next ((⟨ca.Me,ca.Ad,ca.Ai,ca.Ap.set s1.Bs (la.set i22 (max kg cJ))⟩:Ac),ab (i22+1)))
   else
    some (.brk ca)
def bA.h0 (s1:Av):(Ac×Int)->St:=fun s=>match s with
 |(s9,i10)=>⟨[(2,.ptr 0 0 0),(3,.ptr 0 1 0),(4,.ptr 0 2 0),(45,.sl 8 (List.map Ab.c s1.Ah)),(46,.int .i64 (s1.Ah.length:Int)),(47,.int .i64 i10)],[(0,.box ([.int .i64 s9.Me,.sl 64 (List.map (Aa.c (n:=2) (Aa.c (n:=32) ae)) s9.Ad.Aj),.sl 65 (List.map As.c s9.Ad.Af),.sl 8 (List.map Ab.c s9.Ai.Ak.Ah),.int .i64 s9.Ai.AS,.int .i64 s9.Ai.Aq,.int .i64 s9.Ai.Used]++(Aa.c (n:=6) (Aa.c (n:=6) eI) s9.Ap))),(1,.box ([.int .i64 s1.Bs,.int .i64 s1.To]++(Aa.c (n:=6) eI s1.Have++([.sl 8 (List.map Ab.c s1.Ah)])))),(2,.box ([.int .i64 0,.loc 0 3 64 0 0 0,.loc 0 4 65 0 0 0,.loc 0 5 8 0 0 0,.int .i64 0,.int .i64 0,.int .i64 0]++(Aa.c (n:=6) (Aa.c (n:=6) eI) (Aa.rep 6 ((Aa.rep 6 (0:Int)):(Aa 6 Int)))))),(3,.arr 113 64 (List.map (Aa.c (n:=2) (Aa.c (n:=32) ae)) [])),(4,.arr 116 65 (List.map As.c [])),(5,.arr 29 8 (List.map Ab.c []))],[],6,Tryz.f23.ntmps⟩
def bA.x0 (s1:Av):Ac->St:=fun kV=>⟨[(2,.ptr 0 0 0),(3,.ptr 0 1 0),(4,.ptr 0 2 0)],[(0,.box ([.int .i64 kV.Me,.sl 64 (List.map (Aa.c (n:=2) (Aa.c (n:=32) ae)) kV.Ad.Aj),.sl 65 (List.map As.c kV.Ad.Af),.sl 8 (List.map Ab.c kV.Ai.Ak.Ah),.int .i64 kV.Ai.AS,.int .i64 kV.Ai.Aq,.int .i64 kV.Ai.Used]++(Aa.c (n:=6) (Aa.c (n:=6) eI) kV.Ap))),(1,.box ([.int .i64 s1.Bs,.int .i64 s1.To]++(Aa.c (n:=6) eI s1.Have++([.sl 8 (List.map Ab.c s1.Ah)])))),(2,.box ([.int .i64 0,.loc 0 3 64 0 0 0,.loc 0 4 65 0 0 0,.loc 0 5 8 0 0 0,.int .i64 0,.int .i64 0,.int .i64 0]++(Aa.c (n:=6) (Aa.c (n:=6) eI) (Aa.rep 6 ((Aa.rep 6 (0:Int)):(Aa 6 Int)))))),(3,.arr 113 64 (List.map (Aa.c (n:=2) (Aa.c (n:=32) ae)) [])),(4,.arr 116 65 (List.map As.c [])),(5,.arr 29 8 (List.map Ab.c []))],[],6,Tryz.f23.ntmps⟩
def bA.h1 (s1:Av):(Ac×Int)->St:=fun s=>match s with
 |(ca,i22)=>⟨[(2,.ptr 0 0 0),(3,.ptr 0 1 0),(4,.ptr 0 2 0),(83,.agg (Aa.c (n:=6) eI s1.Have)),(84,.int .i64 i22)],[(0,.box ([.int .i64 ca.Me,.sl 64 (List.map (Aa.c (n:=2) (Aa.c (n:=32) ae)) ca.Ad.Aj),.sl 65 (List.map As.c ca.Ad.Af),.sl 8 (List.map Ab.c ca.Ai.Ak.Ah),.int .i64 ca.Ai.AS,.int .i64 ca.Ai.Aq,.int .i64 ca.Ai.Used]++(Aa.c (n:=6) (Aa.c (n:=6) eI) ca.Ap))),(1,.box ([.int .i64 s1.Bs,.int .i64 s1.To]++(Aa.c (n:=6) eI s1.Have++([.sl 8 (List.map Ab.c s1.Ah)])))),(2,.box ([.int .i64 0,.loc 0 3 64 0 0 0,.loc 0 4 65 0 0 0,.loc 0 5 8 0 0 0,.int .i64 0,.int .i64 0,.int .i64 0]++(Aa.c (n:=6) (Aa.c (n:=6) eI) (Aa.rep 6 ((Aa.rep 6 (0:Int)):(Aa 6 Int)))))),(3,.arr 113 64 (List.map (Aa.c (n:=2) (Aa.c (n:=32) ae)) [])),(4,.arr 116 65 (List.map As.c [])),(5,.arr 29 8 (List.map Ab.c []))],[],6,Tryz.f23.ntmps⟩
def bA.x1 (s1:Av):Ac->St:=fun lU=>⟨[(2,.ptr 0 0 0),(3,.ptr 0 1 0),(4,.ptr 0 2 0)],[(0,.box ([.int .i64 lU.Me,.sl 64 (List.map (Aa.c (n:=2) (Aa.c (n:=32) ae)) lU.Ad.Aj),.sl 65 (List.map As.c lU.Ad.Af),.sl 8 (List.map Ab.c lU.Ai.Ak.Ah),.int .i64 lU.Ai.AS,.int .i64 lU.Ai.Aq,.int .i64 lU.Ai.Used]++(Aa.c (n:=6) (Aa.c (n:=6) eI) lU.Ap))),(1,.box ([.int .i64 s1.Bs,.int .i64 s1.To]++(Aa.c (n:=6) eI s1.Have++([.sl 8 (List.map Ab.c s1.Ah)])))),(2,.box ([.int .i64 0,.loc 0 3 64 0 0 0,.loc 0 4 65 0 0 0,.loc 0 5 8 0 0 0,.int .i64 0,.int .i64 0,.int .i64 0]++(Aa.c (n:=6) (Aa.c (n:=6) eI) (Aa.rep 6 ((Aa.rep 6 (0:Int)):(Aa 6 Int)))))),(3,.arr 113 64 (List.map (Aa.c (n:=2) (Aa.c (n:=32) ae)) [])),(4,.arr 116 65 (List.map As.c [])),(5,.arr 29 8 (List.map Ab.c []))],[],6,Tryz.f23.ntmps⟩
def bA (k:Nat) (ah:Ac) (s1:Av):Option (Ac×(List Av)×Int):=
 (cC k ah).bind fun x1=>
 bif (!decide (x1=(0:Int))) then
  some ((⟨0,(⟨[],[]⟩:Ad),(⟨(⟨[]⟩:Ak),0,0,0⟩:Ai),(Aa.rep 6 ((Aa.rep 6 (0:Int)):(Aa 6 Int)))⟩:Ac),[],x1)
 else
  (fV k s1).bind fun x3=>
  bif x3 then
   bif (!decide (s1.To=ah.Me)) then
    some ((⟨0,(⟨[],[]⟩:Ad),(⟨(⟨[]⟩:Ak),0,0,0⟩:Ai),(Aa.rep 6 ((Aa.rep 6 (0:Int)):(Aa 6 Int)))⟩:Ac),[],97)
   else
    (nc k ah.Ad).bind fun x7=>
    (nb k ah.Ai).bind fun x8=>
    (ai (bA.b0 k s1) k ((⟨ah.Me,x7.Ad,x8,ah.Ap⟩:Ac),0)).bind fun oH=>match oH with
    |.next _=>none
    |.ret v_=>some v_
    |.brk kV=>
     (qm k kV).bind fun cT=>
     (ai (bA.b1 k s1) k (cT,0)).bind fun r29=>match r29 with
     |.next _=>none
     |.ret v_=>some v_
     |.brk lU=>
      bif decide ((s1.Ah.length:Int)=(0:Int)) then
       some (lU,[],0)
      else
       (fh k lU.Ai.Ak).bind fun m7=>
       some (lU,[(⟨lU.Me,s1.Bs,m7,[]⟩:Av)],0)
  else
   some ((⟨0,(⟨[],[]⟩:Ad),(⟨(⟨[]⟩:Ak),0,0,0⟩:Ai),(Aa.rep 6 ((Aa.rep 6 (0:Int)):(Aa 6 Int)))⟩:Ac),[],97)
theorem amy (k:Nat) (ah:Ac) (s1:Av) (r:Ac×(List Av)×Int) (h0:bA k ah s1=some r):Ay Tryz.prog 23 [.agg (Ac.c ah),.agg (Av.c s1)] (fun y=>y=.aw [.agg (Ac.c r.1),.sl 9 (List.map Av.c r.2.1),.int .i64 r.2.2]):=by
 refine PB Tryz.f23 Dz.c [.cell 4 63,.tmp 5,.tmp 6] ?_
 simp only[bA]at h0
 try simp only[Dz.c,go_sem]
 refine aj h0 (abw k _) ?_ (fun x1 h0=>?_)<;>try simp only[go_sem]
 refine BS h0 ?_ ?_<;>intro c2 h0<;>have F:=c2<;>try simp only[F,go_sem]
 obtain rfl:=oi h0
 refine Ag rfl ?_
 try simp only[F,go_sem]
 refine aj h0 (amK k _) ?_ (fun x3 h0=>?_)<;>try simp only[F,go_sem]
 refine AF F h0 ?_ ?_<;>intro F h0<;>try simp only[F,go_sem]
 refine A7 F h0 ?_ ?_<;>intro F h0<;>try simp only[F,go_sem]
 obtain rfl:=oi h0
 refine Ag rfl ?_
 try simp only[F,go_sem]
 refine AL AE aO 1000 ?_
 try simp only[F,go_sem]
 obtain⟨x7,dq,h0⟩:=bs h0
 refine D4 1000 [] [] (ud k _ _ dq) ?_ rfl ?_
 try simp only[fB,F,go_sem]
 try simp only[F,go_sem]
 refine bJ h0 (adn k _) ?_ (fun x8 h0=>?_)<;>try simp only[F,go_sem]
 refine aG ?_
 try simp only[F,go_sem]
 obtain⟨oH,vH,h0⟩:=bs h0
 refine A5 vH (bA.h0 s1) (bA.x0 s1) ?_ ?_ ?_
 refine Al.trans (Al.fz 385 rfl (fun _ h=>by cases h)) ?_
 refine Al.trans (Al.fz 386 rfl (fun _ h=>by cases h)) ?_
 refine Al.go [2,3,4,45,46,47] [0,16,32,33,34,35] rfl ?_
 try simp only[bA.h0,F,go_sem]
 rintro⟨s9,i10⟩ bO Bd Ba h1 az ax bg
 refine rS ?_
 simp only[bA.b0]at h1
 try simp only[Dz.s0,bA.h0,F,go_sem]
 refine AF F h1 ?_ ?_<;>intro F h1<;>try simp only[F,go_sem]
 obtain⟨bx,iv,h1⟩:=bs h1
 have F:=an (aI iv) (an (aH Ab.c iv) F)
 try simp only[F,go_sem]
 refine AL AE aO 1000 ?_
 try simp only[F,go_sem]
 refine bJ h1 (yB k _) ?_ (fun bR h1=>?_)<;>try simp only[F,go_sem]
 obtain⟨cd,kp,h1⟩:=bs h1
 have pZ:=(Ao.oL fg kp).2
 try simp only[go_sem]at pZ
 have F:=an (aq kp) (an pZ F)
 try simp only[F,go_sem]
 refine aG ?_
 try simp only[F,go_sem]
 refine AF F h1 ?_ ?_<;>intro F h1<;>try simp only[F,go_sem]
 refine Ax (az _ _ (oi h1).symm (Al.go [2,3,4,45,46,47] [0,1,2,3,4,5] rfl ?_))
 try simp only[bA.h0,F,go_sem]
 refine aj h1 (abr k _ _ _) ?_ (fun fS h1=>?_)<;>try simp only[F,go_sem]
 refine A7 F h1 ?_ ?_<;>intro F h1<;>try simp only[F,go_sem]
 obtain rfl:=bg _ (oi h1).symm
 simp only at h0
 obtain rfl:=oi h0
 refine Ag rfl ?_
 try simp only[F,go_sem]
 refine Ax (az _ _ (oi h1).symm (Al.go [2,3,4,45,46,47] [0,1,2,3,4,5] rfl ?_))
 try simp only[bA.h0,F,go_sem]
 refine Ax (ax _ _ (oi h1).symm (Al.go [2,3,4] [0,1,2,3,4,5] rfl ?_))
 try simp only[bA.x0,F,go_sem]
 rintro kV aA
 subst aA
 simp only at h0
 refine rS ?_
 try simp only[bA.x0,F,go_sem]
 refine aj h0 (agu k _) ?_ (fun cT h0=>?_)<;>try simp only[F,go_sem]
 obtain⟨r29,asw,h0⟩:=bs h0
 refine A5 asw (bA.h1 s1) (bA.x1 s1) ?_ ?_ ?_
 refine Al.go [2,3,4,83,84] [0,1,2,3,4,5] rfl ?_
 try simp only[bA.h1,F,go_sem]
 rintro⟨ca,i22⟩ bO Bd Ba h1 az ax bg
 refine rS ?_
 simp only[bA.b1]at h1
 try simp only[Dz.s1,bA.h1,F,go_sem]
 refine AF F h1 ?_ ?_<;>intro F h1<;>try simp only[F,go_sem]
 obtain⟨cJ,dZ,h1⟩:=bs h1
 have acZ:=(Ao.oL fg dZ).2
 try simp only[go_sem]at acZ
 have F:=an (aq dZ) (an acZ F)
 try simp only[F,go_sem]
 refine AL AE aO 1000 ?_
 try simp only[F,go_sem]
 obtain⟨la,ku,h1⟩:=bs h1
 have aaL:=Ao.bh vL (Ao.skip (Ao.self yo ca.Ap) ([.int .i64 ca.Me,.sl 64 (List.map (Aa.c (n:=2) (Aa.c (n:=32) ae)) ca.Ad.Aj),.sl 65 (List.map As.c ca.Ad.Af),.sl 8 (List.map Ab.c ca.Ai.Ak.Ah),.int .i64 ca.Ai.AS,.int .i64 ca.Ai.Aq,.int .i64 ca.Ai.Used]:List AV)) ku
 have akH:=aaL.2
 try simp only[AA,AB,go_sem]at akH
 have F:=an (aq ku) (an akH F)
 try simp only[F,go_sem]
 obtain⟨kg,aba,h1⟩:=bs h1
 have ac0:=Ao.bh fg aaL.1 aba
 have aaV:=ac0.2
 try simp only[go_sem]at aaV
 have q28:=ac0.1.ow (max kg cJ)
 try simp only[AA,AB,go_sem]at q28
 have F:=an (aq aba) (an aaV F)
 try simp only[q28,F,go_sem]
 refine aG ?_
 try simp only[F,go_sem]
 refine Ax (az _ _ (oi h1).symm (Al.go [2,3,4,83,84] [0,1,2,3,4,5] rfl ?_))
 try simp only[bA.h1,F,go_sem]
 refine Ax (ax _ _ (oi h1).symm (Al.go [2,3,4] [0,1,2,3,4,5] rfl ?_))
 try simp only[bA.x1,F,go_sem]
 rintro lU aA
 subst aA
 simp only at h0
 refine rS ?_
 try simp only[bA.x1,F,go_sem]
 refine AF F h0 ?_ ?_<;>intro F h0<;>try simp only[F,go_sem]
 obtain rfl:=oi h0
 refine Ag rfl ?_
 try simp only[F,go_sem]
 refine AL AE aO 1000 ?_
 try simp only[F,go_sem]
 refine bJ h0 (yB k _) ?_ (fun m7 h0=>?_)<;>try simp only[F,go_sem]
 refine aG ?_
 try simp only[F,go_sem]
 obtain rfl:=oi h0
 refine Ag rfl ?_
 try simp only[F,go_sem]
 all_goals repeat' (first|exact NL.refl _|exact NL.nil _|exact AZ.refl _|exact AZ.nil|exact Bm.refl _|exact Bm.nil|exact BU.nil|exact BP.nil|refine BU.cons _ _ _ _ _ ?_ ?_|refine BP.cons _ _ _ _ _ ?_ ?_|refine B2.box _ _ ?_|refine B2.arr _ _ _ _ ?_|refine AZ.cons ?_ ?_|refine AZ.append ?_ ?_|refine NL.lp ?_|refine NL.rD ?_|refine NL.tE ?_|refine Bm.append ?_ ?_|refine Bm.cons ?_ ?_|with_reducible refine And.intro ?_ ?_|rfl)
 obtain rfl:=oi h0
 refine Ag rfl ?_
 try simp only[F,go_sem]
def Ho.c:SC:=
 SQ [RG [wE 2 63 0 [0],wA 4 63,wN 5 0 45 [5]],SQ [RG [wD 10 63 2,wU 11 55 10 63 45 [10],wG 6 11 45 [11]],RG [wV 12 6 45,wK 13 .neq 45 12 0 45 4 [12]],CN 13 (SQ [RG [oQ 14 (.build 63 #[]) 63,wV 15 6 45 [6],wS 63 4 14 [14],wG 5 15 45 [15]],.ret]) .skip],RG [wF 17 63 2 1,wD 18 36 17 [17],wV 19 1 58 [1],wW 20 34 18 19 36 58 36 [18,19],wU 21 33 20 36 88 [20],wV 16 21 88 [21],wX 22 16 0 36,wX 23 16 1 42,
 wX 24 16 2 45 [16],wA 7 36,wA 8 42,wS 36 7 22 [22],wS 42 8 23 [23],wG 9 24 45 [24]],SQ [RG [wV 25 9 45,wK 26 .neq 45 25 0 45 4 [25]],CN 26 (SQ [RG [oQ 27 (.build 63 #[]) 63,wV 28 9 45 [9],wS 63 4 27 [27],wG 5 28 45 [28]],.ret]) .skip],RG [wF 29 63 2 0 [2],wD 30 3 29 [29],wD 31 36 7 [7],wD 32 42 8 [8],oQ 33 (.build 63 #[(0,.tmp 30),(1,.tmp 31),(2,.tmp 32)]) 63 [30,31,32],wS 63 4 33 [33],wN 5 0 45],
 .ret]
def nT (k:Nat) (ah:Ac) (cr:(List Int)):Option (Ac×Int):=
 (cC k ah).bind fun x1=>
 bif (!decide (x1=(0:Int))) then
  some ((⟨0,(⟨[],[]⟩:Ad),(⟨(⟨[]⟩:Ak),0,0,0⟩:Ai),(Aa.rep 6 ((Aa.rep 6 (0:Int)):(Aa 6 Int)))⟩:Ac),x1)
 else
  (bd k ah.Ad cr).bind fun x3=>
  (oV k x3).bind fun x4=>
  bif (!decide (x4.2.2=(0:Int))) then
   some ((⟨0,(⟨[],[]⟩:Ad),(⟨(⟨[]⟩:Ak),0,0,0⟩:Ai),(Aa.rep 6 ((Aa.rep 6 (0:Int)):(Aa 6 Int)))⟩:Ac),x4.2.2)
  else
   some ((⟨ah.Me,x4.1,x4.2.1,(Aa.rep 6 ((Aa.rep 6 (0:Int)):(Aa 6 Int)))⟩:Ac),0)
theorem amz (k:Nat) (ah:Ac) (cr:(List Int)) (r:Ac×Int) (h0:nT k ah cr=some r):Ay Tryz.prog 25 [.agg (Ac.c ah),.sl 1 (List.map eI cr)] (fun y=>y=.aw [.agg (Ac.c r.1),.int .i64 r.2]):=by
 refine PB Tryz.f25 Ho.c [.cell 4 63,.tmp 5] ?_
 simp only[nT]at h0
 try simp only[Ho.c,go_sem]
 refine aj h0 (abw k _) ?_ (fun x1 h0=>?_)<;>try simp only[go_sem]
 refine BS h0 ?_ ?_<;>intro c2 h0<;>have F:=c2<;>try simp only[F,go_sem]
 obtain rfl:=oi h0
 refine Ag rfl ?_
 try simp only[F,go_sem]
 refine aj h0 (abu k _ _) ?_ (fun x3 h0=>?_)<;>try simp only[F,go_sem]
 refine aj h0 (abv k _) ?_ (fun x4 h0=>?_)<;>try simp only[F,go_sem]
 refine A7 F h0 ?_ ?_<;>intro F h0<;>try simp only[F,go_sem]
 obtain rfl:=oi h0
 refine Ag rfl ?_
 try simp only[F,go_sem]
 obtain rfl:=oi h0
 refine Ag rfl ?_
 try simp only[F,go_sem]
def HC.c:SC:=
 SQ [RG [wE 2 40 0 [0],wE 3 40 1 [1],wB 4 false 4 [4]],RG [wF 5 40 2 0 [2],wD 6 38 5 [5],wF 7 40 3 0 [3],wD 8 38 7 [7],wW 9 66 6 8 38 38 4 [6,8],wG 4 9 4 [9]],.ret]
def Fc (k:Nat) (a0:Ak) (b1:Ak):Option (Bool):=
 (BY k a0.Ah b1.Ah).bind fun x1=>
 some x1
theorem Jh (k:Nat) (a0:Ak) (b1:Ak) (r:Bool) (h0:Fc k a0 b1=some r):Ay Tryz.prog 51 [.agg (Ak.c a0),.agg (Ak.c b1)] (fun y=>y=.bool r):=by
 refine PB Tryz.f51 HC.c [.tmp 4] ?_
 simp only[Fc]at h0
 try simp only[HC.c,go_sem]
 refine aj h0 (F1 k _ _) ?_ (fun x1 h0=>?_)<;>try simp only[go_sem]
 obtain rfl:=oi h0
 refine Ag rfl ?_
 try simp only[go_sem]
def Hh.c:SC:=
 SQ [RG [wE 2 42 0 [0],wE 3 42 1 [1],wB 4 false 4 [4]],RG [wF 6 42 2 0,wD 7 40 6 [6],wF 8 42 3 0,wD 9 40 8 [8],wW 10 51 7 9 40 40 4 [7,9],wG 5 10 4 [10]],RG [wV 11 5 4 [5],wV 12 11 4 [11],gd 12 true (wF 13 42 2 1),gd 12 true (wD 14 3 13 [13]),gd 12 true (wF 15 42 3 1),gd 12 true (wD 16 3 15 [15]),gd 12 true (wO 17 .eql 3 14 16 3 4 [14,16]),wZ 18 12 17 4 [12,17],wV 19 18 4 [18],
 gd 19 true (wF 20 42 2 2),gd 19 true (wD 21 3 20 [20]),gd 19 true (wF 22 42 3 2),gd 19 true (wD 23 3 22 [22]),gd 19 true (wO 24 .eql 3 21 23 3 4 [21,23]),wZ 25 19 24 4 [19,24],wV 26 25 4 [25],gd 26 true (wF 27 42 2 3 [2]),gd 26 true (wD 28 3 27 [27]),gd 26 true (wF 29 42 3 3 [3]),gd 26 true (wD 30 3 29 [29]),gd 26 true (wO 31 .eql 3 28 30 3 4 [28,30]),wZ 32 26 31 4 [26,31],wG 4 32 4 [32]],.ret]
def FF (k:Nat) (a0:Ai) (b1:Ai):Option (Bool):=
 (Fc k a0.Ak b1.Ak).bind fun x1=>
 bif x1 then
  bif decide (a0.AS=b1.AS) then
   bif decide (a0.Aq=b1.Aq) then
    some (decide (a0.Used=b1.Used))
   else
    some false
  else
   some false
 else
  some false
theorem Jj (k:Nat) (a0:Ai) (b1:Ai) (r:Bool) (h0:FF k a0 b1=some r):Ay Tryz.prog 13 [.agg (Ai.c a0),.agg (Ai.c b1)] (fun y=>y=.bool r):=by
 refine PB Tryz.f13 Hh.c [.tmp 4] ?_
 simp only[FF]at h0
 try simp only[Hh.c,go_sem]
 refine aj h0 (Jh k _ _) ?_ (fun x1 h0=>?_)<;>try simp only[go_sem]
 refine AP h0 ?_ ?_<;>intro c2 h0<;>have F:=c2<;>try simp only[F,go_sem]
 refine AF F h0 ?_ ?_<;>intro F h0<;>try simp only[F,go_sem]
 refine AF F h0 ?_ ?_<;>intro F h0<;>try simp only[F,go_sem]
 obtain rfl:=oi h0
 refine Ag rfl ?_
 try simp only[F,go_sem]
 obtain rfl:=oi h0
 refine Ag rfl ?_
 try simp only[F,go_sem]
 obtain rfl:=oi h0
 refine Ag rfl ?_
 try simp only[F,go_sem]
 obtain rfl:=oi h0
 refine Ag rfl ?_
 try simp only[F,go_sem]
def C9.s1:SC:=
 SQ [SQ [RG [wV 45 7 3,wF 46 36 2 1,wD 47 34 46 [46],wL 48 47 34 3 [47],wO 49 .lss 3 45 48 3 4 [45,48],wV 50 49 4 [49],gd 50 true (wV 51 5 4),wZ 52 50 51 4 [50,51]],CN 52 .skip (.exit 2)],.block 3 (.aS [wF 55 36 2 1,wD 56 34 55,wV 57 7 3,wI 58 34 56 57,wD 59 116 58,wF 60 36 3 1,wD 61 34 60,wV 62 7 3,wI 63 34 61 62,wD 64 116 63,wO 65 .eql 116 59 64 116 4,wG 5 65 4] [[],[0],[],[0,1,2],[0,1,2,3],[],
 [5],[],[5,6,7],[5,6,7,8],[0,1,2,3,4,5,6,7,8,9],[0,1,2,3,4,5,6,7,8,9,10]] [55,56,57,58,59,60,61,62,63,64,65]),RG [wV 53 7 3 [7],wK 54 .add 3 53 1 3 3 [53],wG 7 54 3 [54]]]
def C9.s0:SC:=
 SQ [SQ [RG [wV 24 6 3,wF 25 36 2 0,wD 26 33 25 [25],wL 27 26 33 3 [26],wO 28 .lss 3 24 27 3 4 [24,27],wV 29 28 4 [28],gd 29 true (wV 30 5 4),wZ 31 29 30 4 [29,30]],CN 31 .skip (.exit 0)],.block 1 (.aS [wF 34 36 2 0,wD 35 33 34,wV 36 6 3,wI 37 33 35 36,wD 38 113 37,wF 39 36 3 0,wD 40 33 39,wV 41 6 3,wI 42 33 40 41,wD 43 113 42,wO 44 .eql 113 38 43 113 4,wG 5 44 4] [[],[0],[],[0,1,2],[0,1,2,3],[],
 [5],[],[5,6,7],[5,6,7,8],[0,1,2,3,4,5,6,7,8,9],[0,1,2,3,4,5,6,7,8,9,10]] [34,35,36,37,38,39,40,41,42,43,44]),RG [wV 32 6 3 [6],wK 33 .add 3 32 1 3 3 [32],wG 6 33 3 [33]]]
def C9.c:SC:=
 SQ [RG [wE 2 36 0 [0],wE 3 36 1 [1],wB 4 false 4 [4]],RG [wF 8 36 2 0,wD 9 33 8 [8],wL 10 9 33 3 [9],wF 11 36 3 0,wD 12 33 11 [11],wL 13 12 33 3 [12],wO 14 .eql 3 10 13 3 4 [10,13],wV 15 14 4 [14],gd 15 true (wF 16 36 2 1),gd 15 true (wD 17 34 16 [16]),gd 15 true (wL 18 17 34 3 [17]),gd 15 true (wF 19 36 3 1),gd 15 true (wD 20 34 19 [19]),gd 15 true (wL 21 20 34 3 [20]),
 gd 15 true (wO 22 .eql 3 18 21 3 4 [18,21]),wZ 23 15 22 4 [15,22],wG 5 23 4 [23]],SQ [RG [wN 6 0 3],.block 0 (.loop C9.s0)],SQ [RG [wN 7 0 3],.block 2 (.loop C9.s1)],RG [wV 66 5 4 [5],wG 4 66 4 [66]],.ret]
def A0.b0 (k:Nat) (a0:Ad) (b1:Ad):(Bool×Int)->Option (AN (Bool×Int) (Bool) (Bool)):=fun s=>match s with
 |(b2,i3)=>
   bif decide (i3<(a0.Aj.length:Int)) then
    bif b2 then
     (at? a0.Aj i3).bind fun x7=>
     (at? b1.Aj i3).bind fun x8=>
     some (.next ((Aa.eq (Aa.eq (fun(x y:Int)=>decide (x=y))) x7 x8),ab (i3+1)))
    else
     some (.brk b2)
   else
    some (.brk b2)
def A0.b1 (k:Nat) (a0:Ad) (b1:Ad):(Bool×Int)->Option (AN (Bool×Int) (Bool) (Bool)):=fun s=>match s with
 |(na,i11)=>
   bif decide (i11<(a0.Af.length:Int)) then
    bif na then
     (at? a0.Af i11).bind fun cd=>
     (at? b1.Af i11).bind fun dp=>
     some (.next ((decide (cd.At=dp.At)&&(Aa.eq (Aa.eq (fun(x y:Int)=>decide (x=y))) cd.AQ dp.AQ)),ab (i11+1)))
    else
     some (.brk na)
   else
    some (.brk na)
def A0.agd (k:Nat) (a0:Ad):Unit->Option (AN (Unit) (Unit) (Bool)):=fun _=>
 bif decide ((0:Int)<(a0.Aj.length:Int)) then
  some (.brk ())
 else
  some (.brk ())
def A0.qi (k:Nat) (a0:Ad):Unit->Option (AN (Unit) (Unit) (Bool)):=fun _=>
 bif decide ((0:Int)<(a0.Af.length:Int)) then
  some (.brk ())
 else
  some (.brk ())
def A0.h0 (a0:Ad) (b1:Ad):(Bool×Int)->St:=fun s=>match s with
 |(b2,i3)=>⟨[(2,.ptr 0 0 0),(3,.ptr 0 1 0),(5,.bool b2),(6,.int .i64 i3)],[(0,.box ([.sl 64 (List.map (Aa.c (n:=2) (Aa.c (n:=32) ae)) a0.Aj),.sl 65 (List.map As.c a0.Af)])),(1,.box ([.sl 64 (List.map (Aa.c (n:=2) (Aa.c (n:=32) ae)) b1.Aj),.sl 65 (List.map As.c b1.Af)]))],[],2,Tryz.f14.ntmps⟩
def A0.x0 (a0:Ad) (b1:Ad):Bool->St:=fun b4=>⟨[(2,.ptr 0 0 0),(3,.ptr 0 1 0),(5,.bool b4)],[(0,.box ([.sl 64 (List.map (Aa.c (n:=2) (Aa.c (n:=32) ae)) a0.Aj),.sl 65 (List.map As.c a0.Af)])),(1,.box ([.sl 64 (List.map (Aa.c (n:=2) (Aa.c (n:=32) ae)) b1.Aj),.sl 65 (List.map As.c b1.Af)]))],[],2,Tryz.f14.ntmps⟩
def A0.h1 (a0:Ad) (b1:Ad):(Bool×Int)->St:=fun s=>match s with
 |(na,i11)=>⟨[(2,.ptr 0 0 0),(3,.ptr 0 1 0),(5,.bool na),(7,.int .i64 i11)],[(0,.box ([.sl 64 (List.map (Aa.c (n:=2) (Aa.c (n:=32) ae)) a0.Aj),.sl 65 (List.map As.c a0.Af)])),(1,.box ([.sl 64 (List.map (Aa.c (n:=2) (Aa.c (n:=32) ae)) b1.Aj),.sl 65 (List.map As.c b1.Af)]))],[],2,Tryz.f14.ntmps⟩
def A0.x1:Bool->St:=fun b12=>⟨[(5,.bool b12)],[],[],1,Tryz.f14.ntmps⟩
def A0.ad7 (a0:Ad) (b1:Ad):Unit->St:=fun _=>⟨[(2,.ptr 0 0 0),(3,.ptr 0 1 0),(5,.bool false),(6,.int .i64 0)],[(0,.box ([.sl 64 (List.map (Aa.c (n:=2) (Aa.c (n:=32) ae)) a0.Aj),.sl 65 (List.map As.c a0.Af)])),(1,.box ([.sl 64 (List.map (Aa.c (n:=2) (Aa.c (n:=32) ae)) b1.Aj),.sl 65 (List.map As.c b1.Af)]))],[],2,Tryz.f14.ntmps⟩
def A0.ac6 (a0:Ad) (b1:Ad):Unit->St:=fun _=>⟨[(2,.ptr 0 0 0),(3,.ptr 0 1 0),(5,.bool false)],[(0,.box ([.sl 64 (List.map (Aa.c (n:=2) (Aa.c (n:=32) ae)) a0.Aj),.sl 65 (List.map As.c a0.Af)])),(1,.box ([.sl 64 (List.map (Aa.c (n:=2) (Aa.c (n:=32) ae)) b1.Aj),.sl 65 (List.map As.c b1.Af)]))],[],2,Tryz.f14.ntmps⟩
def A0.qC (a0:Ad) (b1:Ad):Unit->St:=fun _=>⟨[(2,.ptr 0 0 0),(3,.ptr 0 1 0),(5,.bool false),(7,.int .i64 0)],[(0,.box ([.sl 64 (List.map (Aa.c (n:=2) (Aa.c (n:=32) ae)) a0.Aj),.sl 65 (List.map As.c a0.Af)])),(1,.box ([.sl 64 (List.map (Aa.c (n:=2) (Aa.c (n:=32) ae)) b1.Aj),.sl 65 (List.map As.c b1.Af)]))],[],2,Tryz.f14.ntmps⟩
def A0.tW:Unit->St:=fun _=>⟨[(5,.bool false)],[],[],1,Tryz.f14.ntmps⟩
def A0 (k:Nat) (a0:Ad) (b1:Ad):Option (Bool):=
 bif decide ((a0.Aj.length:Int)=(b1.Aj.length:Int)) then
  (ai (A0.b0 k a0 b1) k (decide ((a0.Af.length:Int)=(b1.Af.length:Int)),0)).bind fun r9=>match r9 with
  |.next _=>none
  |.ret v_=>some v_
  |.brk b4=>
   (ai (A0.b1 k a0 b1) k (b4,0)).bind fun oG=>match oG with
   |.next _=>none
   |.ret v_=>some v_
   |.brk b12=>
    some b12
 else
  (ai (A0.agd k a0) k ()).bind fun oH=>match oH with
  |.next _=>none
  |.ret v_=>some v_
  |.brk _=>
   (ai (A0.qi k a0) k ()).bind fun oI=>match oI with
   |.next _=>none
   |.ret v_=>some v_
   |.brk _=>
    some false
theorem Ji (k:Nat) (a0:Ad) (b1:Ad) (r:Bool) (h0:A0 k a0 b1=some r):Ay Tryz.prog 14 [.agg (Ad.c a0),.agg (Ad.c b1)] (fun y=>y=.bool r):=by
 refine PB Tryz.f14 C9.c [.tmp 4] ?_
 simp only[A0]at h0
 try simp only[C9.c,go_sem]
 refine AP h0 ?_ ?_<;>intro c1 h0<;>have F:=c1<;>try simp only[F,go_sem]
 obtain⟨r9,vJ,h0⟩:=bs h0
 refine A5 vJ (A0.h0 a0 b1) (A0.x0 a0 b1) ?_ ?_ ?_
 refine Al.go [2,3,5,6] [0,16] rfl ?_
 try simp only[A0.h0,F,go_sem]
 rintro⟨b2,i3⟩ bO Bd Ba h1 az ax bg
 refine rS ?_
 simp only[A0.b0]at h1
 try simp only[C9.s0,A0.h0,F,go_sem]
 refine AF F h1 ?_ ?_<;>intro F h1<;>try simp only[F,go_sem]
 refine AF F h1 ?_ ?_<;>intro F h1<;>try simp only[F,go_sem]
 refine AL AE aO 1000 ?_
 try simp only[F,go_sem]
 obtain⟨x7,dq,h1⟩:=bs h1
 have F:=an (aI dq) (an (aH (Aa.c (n:=2) (Aa.c (n:=32) ae)) dq) F)
 try simp only[F,go_sem]
 obtain⟨x8,kv,h1⟩:=bs h1
 have F:=an (aI kv) (an (aH (Aa.c (n:=2) (Aa.c (n:=32) ae)) kv) F)
 try simp only[F,go_sem]
 refine aG ?_
 try simp only[F,go_sem]
 refine Ax (az _ _ (oi h1).symm (Al.go [2,3,5,6] [0,1] rfl ?_))
 try simp only[A0.h0,F,go_sem]
 refine Ax (ax _ _ (oi h1).symm (Al.go [2,3,5] [0,1] rfl ?_))
 try simp only[A0.x0,F,go_sem]
 refine Ax (ax _ _ (oi h1).symm (Al.go [2,3,5] [0,1] rfl ?_))
 try simp only[A0.x0,F,go_sem]
 rintro b4 aA
 subst aA
 simp only at h0
 refine rS ?_
 try simp only[A0.x0,F,go_sem]
 obtain⟨oG,vG,h0⟩:=bs h0
 refine A5 vG (A0.h1 a0 b1) (A0.x1) ?_ ?_ ?_
 refine Al.go [2,3,5,7] [0,1] rfl ?_
 try simp only[A0.h1,F,go_sem]
 rintro⟨na,i11⟩ bO Bd Ba h1 az ax bg
 refine rS ?_
 simp only[A0.b1]at h1
 try simp only[C9.s1,A0.h1,F,go_sem]
 refine AF F h1 ?_ ?_<;>intro F h1<;>try simp only[F,go_sem]
 refine AF F h1 ?_ ?_<;>intro F h1<;>try simp only[F,go_sem]
 refine AL AE aO 1000 ?_
 try simp only[F,go_sem]
 obtain⟨cd,kp,h1⟩:=bs h1
 have F:=an (aI kp) (an (aH As.c kp) F)
 try simp only[F,go_sem]
 obtain⟨dp,kt,h1⟩:=bs h1
 have F:=an (aI kt) (an (aH As.c kt) F)
 try simp only[F,go_sem]
 refine aG ?_
 try simp only[F,go_sem]
 refine Ax (az _ _ (oi h1).symm (Al.go [2,3,5,7] [0,1] rfl ?_))
 try simp only[A0.h1,F,go_sem]
 refine Ax (ax _ _ (oi h1).symm (Al.go [5] [] rfl ?_))
 try simp only[A0.x1,F,go_sem]
 refine Ax (ax _ _ (oi h1).symm (Al.go [5] [] rfl ?_))
 try simp only[A0.x1,F,go_sem]
 rintro b12 aA
 subst aA
 simp only at h0
 refine rS ?_
 try simp only[A0.x1,F,go_sem]
 obtain rfl:=oi h0
 refine Ag rfl ?_
 try simp only[F,go_sem]
 obtain⟨oH,vH,h0⟩:=bs h0
 refine A5 vH (A0.ad7 a0 b1) (A0.ac6 a0 b1) ?_ ?_ ?_
 refine Al.go [2,3,5,6] [0,16] rfl ?_
 try simp only[A0.ad7,F,go_sem]
 rintro _ bO Bd Ba h1 az ax bg
 refine rS ?_
 simp only[A0.agd]at h1
 try simp only[C9.s0,A0.ad7,F,go_sem]
 refine AF F h1 ?_ ?_<;>intro F h1<;>try simp only[F,go_sem]
 refine Ax (ax _ _ (oi h1).symm (Al.go [2,3,5] [0,1] rfl ?_))
 try simp only[A0.ac6,F,go_sem]
 refine Ax (ax _ _ (oi h1).symm (Al.go [2,3,5] [0,1] rfl ?_))
 try simp only[A0.ac6,F,go_sem]
 rintro _ aA
 subst aA
 simp only at h0
 refine rS ?_
 try simp only[A0.ac6,F,go_sem]
 obtain⟨oI,vI,h0⟩:=bs h0
 refine A5 vI (A0.qC a0 b1) (A0.tW) ?_ ?_ ?_
 refine Al.go [2,3,5,7] [0,1] rfl ?_
 try simp only[A0.qC,F,go_sem]
 rintro _ bO Bd Ba h1 az ax bg
 refine rS ?_
 simp only[A0.qi]at h1
 try simp only[C9.s1,A0.qC,F,go_sem]
 refine AF F h1 ?_ ?_<;>intro F h1<;>try simp only[F,go_sem]
 refine Ax (ax _ _ (oi h1).symm (Al.go [5] [] rfl ?_))
 try simp only[A0.tW,F,go_sem]
 refine Ax (ax _ _ (oi h1).symm (Al.go [5] [] rfl ?_))
 try simp only[A0.tW,F,go_sem]
 rintro _ aA
 subst aA
 simp only at h0
 refine rS ?_
 try simp only[A0.tW,F,go_sem]
 obtain rfl:=oi h0
 refine Ag rfl ?_
 try simp only[F,go_sem]
def Hq.c:SC:=
 SQ [RG [wE 2 63 0 [0],wE 3 63 1 [1],wB 4 false 4 [4]],RG [wF 7 63 2 1,wD 8 36 7 [7],wF 9 63 3 1,wD 10 36 9 [9],wW 11 14 8 10 36 36 4 [8,10],wG 5 11 4 [11]],RG [wF 12 63 2 2,wD 13 42 12 [12],wF 14 63 3 2,wD 15 42 14 [14],wW 16 13 13 15 42 42 4 [13,15],wG 6 16 4 [16]],RG [wV 17 5 4 [5],wV 18 17 4 [17],gd 18 true (wV 19 6 4 [6]),wZ 20 18 19 4 [18,19],wV 21 20 4 [20],gd 21 true (wF 22 63 2 0),
 gd 21 true (wD 23 3 22 [22]),gd 21 true (wF 24 63 3 0),gd 21 true (wD 25 3 24 [24]),gd 21 true (wO 26 .eql 3 23 25 3 4 [23,25]),wZ 27 21 26 4 [21,26],wV 28 27 4 [27],gd 28 true (wF 29 63 2 3 [2]),gd 28 true (wD 30 61 29 [29]),gd 28 true (wF 31 63 3 3 [3]),gd 28 true (wD 32 61 31 [31]),gd 28 true (wO 33 .eql 61 30 32 61 4 [30,32]),wZ 34 28 33 4 [28,33],wG 4 34 4 [34]],.ret]
def CT (k:Nat) (a0:Ac) (b1:Ac):Option (Bool):=
 (A0 k a0.Ad b1.Ad).bind fun x1=>
 (FF k a0.Ai b1.Ai).bind fun x2=>
 bif x1 then
  bif x2 then
   bif decide (a0.Me=b1.Me) then
    some (Aa.eq (Aa.eq (fun(x y:Int)=>decide (x=y))) a0.Ap b1.Ap)
   else
    some false
  else
   some false
 else
  some false
theorem Fe (k:Nat) (a0:Ac) (b1:Ac) (r:Bool) (h0:CT k a0 b1=some r):Ay Tryz.prog 27 [.agg (Ac.c a0),.agg (Ac.c b1)] (fun y=>y=.bool r):=by
 refine PB Tryz.f27 Hq.c [.tmp 4] ?_
 simp only[CT]at h0
 try simp only[Hq.c,go_sem]
 refine aj h0 (Ji k _ _) ?_ (fun x1 h0=>?_)<;>try simp only[go_sem]
 refine aj h0 (Jj k _ _) ?_ (fun x2 h0=>?_)<;>try simp only[go_sem]
 refine AP h0 ?_ ?_<;>intro c3 h0<;>have F:=c3<;>try simp only[F,go_sem]
 refine AF F h0 ?_ ?_<;>intro F h0<;>try simp only[F,go_sem]
 refine AF F h0 ?_ ?_<;>intro F h0<;>try simp only[F,go_sem]
 obtain rfl:=oi h0
 refine Ag rfl ?_
 try simp only[F,go_sem]
 obtain rfl:=oi h0
 refine Ag rfl ?_
 try simp only[F,go_sem]
 obtain rfl:=oi h0
 refine Ag rfl ?_
 try simp only[F,go_sem]
 obtain rfl:=oi h0
 refine Ag rfl ?_
 try simp only[F,go_sem]
def Hr.c:SC:=
 SQ [RG [wE 2 57 0 [0],wE 3 57 1 [1],wB 4 false 4 [4]],RG [wF 6 57 2 3,wD 7 38 6 [6],wF 8 57 3 3,wD 9 38 8 [8],wW 10 66 7 9 38 38 4 [7,9],wG 5 10 4 [10]],RG [wV 11 5 4 [5],wV 12 11 4 [11],gd 12 true (wF 13 57 2 0),gd 12 true (wD 14 3 13 [13]),gd 12 true (wF 15 57 3 0),gd 12 true (wD 16 3 15 [15]),gd 12 true (wO 17 .eql 3 14 16 3 4 [14,16]),wZ 18 12 17 4 [12,17],wV 19 18 4 [18],
 gd 19 true (wF 20 57 2 1),gd 19 true (wD 21 3 20 [20]),gd 19 true (wF 22 57 3 1),gd 19 true (wD 23 3 22 [22]),gd 19 true (wO 24 .eql 3 21 23 3 4 [21,23]),wZ 25 19 24 4 [19,24],wV 26 25 4 [25],gd 26 true (wF 27 57 2 2 [2]),gd 26 true (wD 28 55 27 [27]),gd 26 true (wF 29 57 3 2 [3]),gd 26 true (wD 30 55 29 [29]),gd 26 true (wO 31 .eql 55 28 30 55 4 [28,30]),wZ 32 26 31 4 [26,31],wG 4 32 4 [32]],
 .ret]
def DZ (k:Nat) (a0:Av) (b1:Av):Option (Bool):=
 (BY k a0.Ah b1.Ah).bind fun x1=>
 bif x1 then
  bif decide (a0.Bs=b1.Bs) then
   bif decide (a0.To=b1.To) then
    some (Aa.eq (fun(x y:Int)=>decide (x=y)) a0.Have b1.Have)
   else
    some false
  else
   some false
 else
  some false
theorem Ig (k:Nat) (a0:Av) (b1:Av) (r:Bool) (h0:DZ k a0 b1=some r):Ay Tryz.prog 28 [.agg (Av.c a0),.agg (Av.c b1)] (fun y=>y=.bool r):=by
 refine PB Tryz.f28 Hr.c [.tmp 4] ?_
 simp only[DZ]at h0
 try simp only[Hr.c,go_sem]
 refine aj h0 (F1 k _ _) ?_ (fun x1 h0=>?_)<;>try simp only[go_sem]
 refine AP h0 ?_ ?_<;>intro c2 h0<;>have F:=c2<;>try simp only[F,go_sem]
 refine AF F h0 ?_ ?_<;>intro F h0<;>try simp only[F,go_sem]
 refine AF F h0 ?_ ?_<;>intro F h0<;>try simp only[F,go_sem]
 obtain rfl:=oi h0
 refine Ag rfl ?_
 try simp only[F,go_sem]
 obtain rfl:=oi h0
 refine Ag rfl ?_
 try simp only[F,go_sem]
 obtain rfl:=oi h0
 refine Ag rfl ?_
 try simp only[F,go_sem]
 obtain rfl:=oi h0
 refine Ag rfl ?_
 try simp only[F,go_sem]
def EH.s0:SC:=
 SQ [SQ [RG [wV 12 6 3,wV 13 0 65,wL 14 13 65 3 [13],wO 15 .lss 3 12 14 3 4 [12,14],wV 16 15 4 [15],gd 16 true (wV 17 5 4),wZ 18 16 17 4 [16,17]],CN 18 .skip (.exit 0)],.block 1 (.aS [wV 21 0 65,wV 22 6 3,wI 23 65 21 22,wD 24 57 23,wV 25 1 65,wV 26 6 3,wI 27 65 25 26,wD 28 57 27,wW 29 28 24 28 57 57 4,wG 5 29 4] [[],[],[0,1],[0,1,2],[],[],[4,5],[4,5,6],[0,1,2,3,4,5,6,7],[0,1,2,3,4,5,6,7,8]] [21,
 22,23,24,25,26,27,28,29]),RG [wV 19 6 3 [6],wK 20 .add 3 19 1 3 3 [19],wG 6 20 3 [20]]]
def EH.c:SC:=
 SQ [RG [wB 4 false 4 [4]],RG [wV 7 0 65,wL 8 7 65 3 [7],wV 9 1 65,wL 10 9 65 3 [9],wO 11 .eql 3 8 10 3 4 [8,10],wG 5 11 4 [11]],SQ [RG [wN 6 0 3],.block 0 (.loop EH.s0)],RG [wV 30 5 4 [5],wG 4 30 4 [30]],.ret]
def Ck.b0 (k:Nat) (a0:(List Av)) (b1:(List Av)):(Bool×Int)->Option (AN (Bool×Int) (Bool) (Bool)):=fun s=>match s with
 |(b2,i3)=>
   bif decide (i3<(a0.length:Int)) then
    bif b2 then
     (at? a0 i3).bind fun x7=>
     (at? b1 i3).bind fun x8=>
     (DZ k x7 x8).bind fun x9=>
     some (.next (x9,ab (i3+1)))
    else
     some (.brk b2)
   else
    some (.brk b2)
def Ck.h0 (a0:(List Av)) (b1:(List Av)):(Bool×Int)->St:=fun s=>match s with
 |(b2,i3)=>⟨[(0,.sl 9 (List.map Av.c a0)),(1,.sl 9 (List.map Av.c b1)),(5,.bool b2),(6,.int .i64 i3)],[],[],1,Tryz.f29.ntmps⟩
def Ck.x0:Bool->St:=fun b4=>⟨[(5,.bool b4)],[],[],1,Tryz.f29.ntmps⟩
def Ck (k:Nat) (a0:(List Av)) (b1:(List Av)):Option (Bool):=
 (ai (Ck.b0 k a0 b1) k (decide ((a0.length:Int)=(b1.length:Int)),0)).bind fun r10=>match r10 with
 |.next _=>none
 |.ret v_=>some v_
 |.brk b4=>
  some b4
theorem Jk (k:Nat) (a0:(List Av)) (b1:(List Av)) (r:Bool) (h0:Ck k a0 b1=some r):Ay Tryz.prog 29 [.sl 9 (List.map Av.c a0),.sl 9 (List.map Av.c b1)] (fun y=>y=.bool r):=by
 refine PB Tryz.f29 EH.c [.tmp 4] ?_
 simp only[Ck]at h0
 try simp only[EH.c,go_sem]
 obtain⟨r10,afE,h0⟩:=bs h0
 refine A5 afE (Ck.h0 a0 b1) (Ck.x0) ?_ ?_ ?_
 refine Al.go [0,1,5,6] [] rfl ?_
 try simp only[Ck.h0,go_sem]
 rintro⟨b2,i3⟩ bO Bd Ba h1 az ax bg
 refine rS ?_
 simp only[Ck.b0]at h1
 try simp only[EH.s0,Ck.h0,go_sem]
 refine AP h1 ?_ ?_<;>intro c5 h1<;>have F:=c5<;>try simp only[F,go_sem]
 refine AF F h1 ?_ ?_<;>intro F h1<;>try simp only[F,go_sem]
 refine AL AE aO 1000 ?_
 try simp only[F,go_sem]
 obtain⟨x7,dq,h1⟩:=bs h1
 have F:=an (aI dq) (an (aH Av.c dq) F)
 try simp only[F,go_sem]
 obtain⟨x8,kv,h1⟩:=bs h1
 have F:=an (aI kv) (an (aH Av.c kv) F)
 try simp only[F,go_sem]
 refine bJ h1 (Ig k _ _) ?_ (fun x9 h1=>?_)<;>try simp only[F,go_sem]
 refine aG ?_
 try simp only[F,go_sem]
 refine Ax (az _ _ (oi h1).symm (Al.go [0,1,5,6] [] rfl ?_))
 try simp only[Ck.h0,F,go_sem]
 refine Ax (ax _ _ (oi h1).symm (Al.go [5] [] rfl ?_))
 try simp only[Ck.x0,F,go_sem]
 refine Ax (ax _ _ (oi h1).symm (Al.go [5] [] rfl ?_))
 try simp only[Ck.x0,F,go_sem]
 rintro b4 aA
 subst aA
 simp only at h0
 refine rS ?_
 try simp only[Ck.x0,go_sem]
 obtain rfl:=oi h0
 refine Ag rfl ?_
 try simp only[go_sem]
end Go.Abs
end
