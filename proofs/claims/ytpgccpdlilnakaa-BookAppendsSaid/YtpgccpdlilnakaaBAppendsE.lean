/-
  Part 5 of the proof: a machine over named blocks, what each function computes, and what follows. No condition.
-/
import Derived.Test.YtpgccpdlilnakaaBAppendsD
set_option linter.unusedVariables false
set_option linter.unusedSimpArgs false
set_option linter.all false
set_option maxRecDepth 100000
set_option maxHeartbeats 8000000
noncomputable section
namespace Go.Abs
open Go.Proofs
def G2.c:SC:=
 SQ [RG [wA 4 122],RG [oQ 6 (.buildSlice 56 1 #[(0,.const (.int .u8 104))]) 56,wV 7 0 3 [0],wC 8 116 #[.tmp 7,.const (.int .i64 3)] #[3,3] 56 [7],wP 9 6 8 56 56 56 [6,8],wG 5 9 56 [9]],RG [wV 10 5 56 [5],wV 11 1 3 [1],wC 12 116 #[.tmp 11,.const (.int .i64 2)] #[3,3] 56 [11],wP 13 10 12 56 56 56 [10,12],wG 5 13 56 [13]],RG [wV 14 5 56 [5],oQ 15 (.call ⟨.builtin .append,#[.tmp 14,
 .const (.int .i64 25)],#[56,3]⟩) 56 [14],oQ 16 (.buildSlice 56 1 #[(0,.const (.int .u8 165))]) 56,wP 17 15 16 56 56 56 [15,16],wG 5 17 56 [17]],RG [wV 18 5 56 [5],oQ 19 (.sliceToArrayPointer 122 (.tmp 18)) 0 [18],wD 20 122 19 [19],wS 122 4 20 [20]],.ret]
def DV (k:Nat) (pE:Int) (pC:Int):Option ((Aa 32 Int)):=
 (Cc k pE 3).bind fun x1=>
 (dM 1 [104] x1).bind fun l2=>
 (Cc k pC 2).bind fun x3=>
 (dM 1 l2 x3).bind fun l4=>
 (dM 1 l4 (List.replicate 25 (0:Int))).bind fun l5=>
 (fG 1 l5 165).bind fun l6=>
 (Aa.ny 32 l6).bind fun v7=>
 some v7
theorem FL (k:Nat) (pE:Int) (pC:Int) (r:(Aa 32 Int)) (h0:DV k pE pC=some r):Aw Try.prog 144 [.int .i64 pE,.int .i64 pC] (fun y=>y=.agg ((Aa.c (n:=32) af) r)):=by
 refine PB Try.f144 G2.c [.cell 4 122] ?_
 simp only[DV]at h0
 try simp only[G2.c,go_sem]
 refine au h0 (Fv k _ _) ?_ (fun x1 h0=>?_)<;>try simp only[go_sem]
 obtain⟨l2,yl2,h0⟩:=bs h0
 have ajR:=gT af yl2
 try simp only[go_sem]at ajR
 have F:=ajR
 try simp only[F,go_sem]
 refine au h0 (Fv k _ _) ?_ (fun x3 h0=>?_)<;>try simp only[F,go_sem]
 obtain⟨l4,yl4,h0⟩:=bs h0
 have ajV:=gT af yl4
 try simp only[F,go_sem]at ajV
 have F:=an ajV F
 try simp only[F,go_sem]
 obtain⟨l5,yl5,h0⟩:=bs h0
 have aar:=gT af yl5
 try simp only[(@id (Int.toNat 25=25) rfl),(by decide:room 25 1),(by decide:(0:Int)<=25),(by decide:¬ ([3]:List TypeId)=[56]),F,go_sem]at aar
 have F:=an aar F
 try simp only[(@id (Int.toNat 25=25) rfl),(by decide:room 25 1),(by decide:(0:Int)<=25),(by decide:¬ ([3]:List TypeId)=[56]),F,go_sem]
 obtain⟨l6,jV,h0⟩:=bs h0
 have sC:=pu af jV
 try simp only[F,go_sem]at sC
 have F:=an sC F
 try simp only[F,go_sem]
 obtain⟨v7,yv7,h0⟩:=bs h0
 have aj0:=ab4 yv7
 try simp only[F,go_sem]at aj0
 have F:=an aj0 (an (ajo (E:=af) yv7) (an (ajn (E:=af) yv7) F))
 try simp only[F,go_sem]
 obtain rfl:=oi h0
 refine Ag rfl ?_
 try simp only[F,go_sem]
def GP.c:SC:=
 SQ [RG [wA 0 42,wA 1 48],RG [oQ 3 (.makeSlice 39 (.const (.int .i64 602)) (.const (.int .i64 602))) 39,oQ 4 (.build 42 #[(0,.tmp 3)]) 42 [3],wA 2 42,wS 42 2 4 [4]],.aO [wF 5 42 2 0,wD 6 39 5,wC 7 144 #[.const (.int .i64 1),.const (.int .i64 0)] #[3,3] 122,wJ 8 39 6 0,wJ 9 139 8 0,wS 122 9 7] [[],[0],[],[0,1],[0,1,3,2],[0,1,3,2,4]] [5,6,7,8,9],RG [wD 10 42 2 [2],oQ 11 (.build 48 #[(2,
 .const (.int .i64 1)),(3,.const (.int .i64 1))]) 48,wS 42 0 10 [10],wS 48 1 11 [11]],.ret]
def E3 (k:Nat):Option (Ac×Ay):=
 (ma 602 64 ((Aa.rep 2 ((Aa.rep 32 (0:Int)):(Aa 32 Int))):(Aa 2 (Aa 32 Int)))).bind fun l1=>
 (DV k 1 0).bind fun x2=>
 (at? l1 0).bind fun x3=>
 (x3.at? 0).bind fun x4=>
 (dJ l1 0 (x3.set 0 x2)).bind fun l6=>
 some ((⟨l6,[]⟩:Ac),(⟨(⟨[]⟩:Ai),0,1,1⟩:Ay))
theorem IG (k:Nat) (r:Ac×Ay) (h0:E3 k=some r):Aw Try.prog 117 [] (fun y=>y=.ar [.agg (Ac.c r.1),.agg (Ay.c r.2)]):=by
 refine PB Try.f117 GP.c [.cell 0 42,.cell 1 48] ?_
 simp only[E3]at h0
 try simp only[GP.c,go_sem]
 have hz:=bs h0;clear h0;cases hz;rename_i l1 hz;cases hz;rename_i qL h0
 obtain⟨_,adT⟩:=ad6 qL
 have ac4:List.replicate 602 (Aa.c (n:=2) (Aa.c (n:=32) af) (Aa.rep 2 ((Aa.rep 32 (0:Int)):(Aa 32 Int))))=List.map (Aa.c (n:=2) (Aa.c (n:=32) af)) l1:=ad5 (Aa.c (n:=2) (Aa.c (n:=32) af)) qL
 have aef:l1.length=602:=ad4 qL
 have aeL:List.take 602 (List.map (Aa.c (n:=2) (Aa.c (n:=32) af)) l1)=List.map (Aa.c (n:=2) (Aa.c (n:=32) af)) l1:=ad7 (Aa.c (n:=2) (Aa.c (n:=32) af)) qL
 have F:=an ac4 (an aef (an aeL ((@id (Int.toNat 602=602) rfl))))
 try simp only[ad2 adT,F,go_sem]
 refine AL Ax aS 1000 ?_
 try simp only[F,go_sem]
 refine cn h0 (FL k _ _) ?_ (fun x2 h0=>?_)<;>try simp only[F,go_sem]
 have hz:=bs h0;clear h0;cases hz;rename_i x3 hz;cases hz;rename_i cP h0
 have xN:=aC cP
 simp only[F,go_sem]at xN
 have F:=an xN (an (aD (Aa.c (n:=2) (Aa.c (n:=32) af)) cP) F)
 try simp only[F,go_sem]
 have hz:=bs h0;clear h0;cases hz;rename_i x4 hz;cases hz;rename_i bN h0
 have iC:=Ao.bH gA (Ao.self fv x3) bN
 have jw:=iC.2
 try simp only[AA,Az,go_sem]at jw
 have F:=an (aq bN) (an jw F)
 try simp only[F,go_sem]
 have hz:=bs h0;clear h0;cases hz;rename_i l6 hz;cases hz;rename_i jV h0
 have q5:=iC.1.ow x2
 try simp only[AA,Az,go_sem]at q5
 have re:=lj (Aa.c (n:=2) (Aa.c (n:=32) af)) jV
 try simp only[go_sem]at re
 have aaf:=lk (Aa.c (n:=2) (Aa.c (n:=32) af)) jV
 try simp only[F,go_sem]at aaf
 have F:=an re (an (kt jV) (an aaf F))
 try simp only[q5,F,go_sem]
 refine aF ?_
 try simp only[F,go_sem]
 obtain rfl:=oi h0
 refine Ag rfl ?_
 try simp only[F,go_sem]
def EC.s0:SC:=
 SQ [SQ [RG [wV 12 6 3,wV 13 0 44,wL 14 13 44 3 [13],wO 15 .lss 3 12 14 3 4 [12,14],wV 16 15 4 [15],gd 16 true (wV 17 5 4),wZ 18 16 17 4 [16,17]],CN 18 .skip (.exit 0)],.block 1 (.aO [wV 21 0 44,wV 22 6 3,wI 23 44 21 22,wD 24 25 23,wV 25 1 44,wV 26 6 3,wI 27 44 25 26,wD 28 25 27,wO 29 .eql 25 24 28 25 4,wG 5 29 4] [[],[],[0,1],[0,1,2],[],[],[4,5],[4,5,6],[0,1,2,3,4,5,6,7],[0,1,2,3,4,5,6,7,
 8]] [21,22,23,24,25,26,27,28,29]),RG [wV 19 6 3 [6],wK 20 .add 3 19 1 3 3 [19],wG 6 20 3 [20]]]
def EC.c:SC:=
 SQ [RG [wB 4 false 4 [4]],RG [wV 7 0 44,wL 8 7 44 3 [7],wV 9 1 44,wL 10 9 44 3 [9],wO 11 .eql 3 8 10 3 4 [8,10],wG 5 11 4 [11]],SQ [RG [wN 6 0 3],.block 0 (.loop EC.s0)],RG [wV 30 5 4 [5],wG 4 30 4 [30]],.ret]
def B8.b0 (k:Nat) (a0:(List Ab)) (b1:(List Ab)):(Bool×Int)->Option (AT (Bool×Int) (Bool) (Bool)):=fun s=>match s with
 |(b2,i3)=>
   bif decide (i3<(a0.length:Int)) then
    bif b2 then
     (at? a0 i3).bind fun x7=>
     (at? b1 i3).bind fun x8=>
     some (.next ((decide (x7.At.Ap=x8.At.Ap)&&(decide (x7.At.No=x8.At.No)&&(decide (x7.Kind=x8.Kind)&&(decide (x7.Day=x8.Day)&&(decide (x7.Bh=x8.Bh)&&(decide (x7.Of.Ap=x8.Of.Ap)&&(decide (x7.Of.No=x8.Of.No)&&(x7.Text.toList==x8.Text.toList)))))))),ab (i3+1)))
    else
     some (.brk b2)
   else
    some (.brk b2)
def B8.h0 (a0:(List Ab)) (b1:(List Ab)):(Bool×Int)->St:=fun s=>match s with
 |(b2,i3)=>⟨[(0,.sl 8 (List.map Ab.c a0)),(1,.sl 8 (List.map Ab.c b1)),(5,.bool b2),(6,.int .i64 i3)],[],[],1,Try.f59.ntmps⟩
def B8.x0:Bool->St:=fun b4=>⟨[(5,.bool b4)],[],[],1,Try.f59.ntmps⟩
def B8 (k:Nat) (a0:(List Ab)) (b1:(List Ab)):Option (Bool):=
 (aj (B8.b0 k a0 b1) k (decide ((a0.length:Int)=(b1.length:Int)),0)).bind fun r9=>match r9 with
 |.next _=>none
 |.ret v_=>some v_
 |.brk b4=>
  some b4
theorem HH (k:Nat) (a0:(List Ab)) (b1:(List Ab)) (r:Bool) (h0:B8 k a0 b1=some r):Aw Try.prog 59 [.sl 8 (List.map Ab.c a0),.sl 8 (List.map Ab.c b1)] (fun y=>y=.bool r):=by
 refine PB Try.f59 EC.c [.tmp 4] ?_
 simp only[B8]at h0
 try simp only[EC.c,go_sem]
 obtain⟨r9,uC,h0⟩:=bs h0
 refine Bf uC (B8.h0 a0 b1) (B8.x0) ?_ ?_ ?_
 refine Ah.go [0,1,5,6] [] rfl ?_
 try simp only[B8.h0,go_sem]
 rintro⟨b2,i3⟩ cO Bm Bn h1 aJ aH bK
 refine rS ?_
 simp only[B8.b0]at h1
 try simp only[EC.s0,B8.h0,go_sem]
 refine AS h1 ?_ ?_<;>intro c5 h1<;>have F:=c5<;>try simp only[F,go_sem]
 refine AF F h1 ?_ ?_<;>intro F h1<;>try simp only[F,go_sem]
 refine AL Ax aS 1000 ?_
 try simp only[F,go_sem]
 obtain⟨x7,e9,h1⟩:=bs h1
 have F:=an (aC e9) (an (aD Ab.c e9) F)
 try simp only[F,go_sem]
 obtain⟨x8,jW,h1⟩:=bs h1
 have F:=an (aC jW) (an (aD Ab.c jW) F)
 try simp only[F,go_sem]
 refine aF ?_
 try simp only[F,go_sem]
 refine AB (aJ _ _ (oi h1).symm (Ah.go [0,1,5,6] [] rfl ?_))
 try simp only[B8.h0,F,go_sem]
 refine AB (aH _ _ (oi h1).symm (Ah.go [5] [] rfl ?_))
 try simp only[B8.x0,F,go_sem]
 refine AB (aH _ _ (oi h1).symm (Ah.go [5] [] rfl ?_))
 try simp only[B8.x0,F,go_sem]
 rintro b4 aK
 subst aK
 simp only at h0
 refine rS ?_
 try simp only[B8.x0,go_sem]
 obtain rfl:=oi h0
 refine Ag rfl ?_
 try simp only[go_sem]
def Hn.c:SC:=
 SQ [RG [wB 6 false 4 [6]],RG [wV 7 0 3,wV 8 1 3 [1],wO 9 .geq 3 7 8 3 4 [7,8],wV 10 9 4 [9],gd 10 true (wV 11 0 3 [0]),gd 10 true (wV 12 2 3 [2]),gd 10 true (wO 13 .leq 3 11 12 3 4 [11,12]),wZ 14 10 13 4 [10,13],wG 6 14 4 [14]],.ret]
def C6 (k:Nat) (n0:Int) (abn:Int) (abe:Int):Option (Bool):=
 bif decide (abn<=n0) then
  some (decide (n0<=abe))
 else
  some false
theorem DW (k:Nat) (n0:Int) (abn:Int) (abe:Int) (r:Bool) (h0:C6 k n0 abn abe=some r):Aw Try.prog 67 [.int .i64 n0,.int .i64 abn,.int .i64 abe] (fun y=>y=.bool r):=by
 refine PB Try.f67 Hn.c [.tmp 6] ?_
 simp only[C6]at h0
 try simp only[Hn.c,go_sem]
 refine AS h0 ?_ ?_<;>intro c1 h0<;>have F:=c1<;>try simp only[F,go_sem]
 obtain rfl:=oi h0
 refine Ag rfl ?_
 try simp only[F,go_sem]
 obtain rfl:=oi h0
 refine Ag rfl ?_
 try simp only[F,go_sem]
def EK.s0:SC:=
 SQ [SQ [RG [wV 14 3 3,wF 15 42 1 1,wD 16 40 15 [15],wL 17 16 40 3 [16],wO 18 .lss 3 14 17 3 4 [14,17]],CN 18 .skip (.exit 0)],.block 1 (SQ [RG [wF 21 42 1 1,wD 22 40 21 [21],wV 23 3 3,wI 24 40 22 23 [22,23],wF 25 141 24 0 [24],wD 26 3 25 [25],wC 27 67 #[.tmp 26,.const (.int .i64 0),.const (.int .i64 601)] #[3,3,3] 4 [26],wQ 28 27 4 [27]],CN 28 (SQ [RG [wB 2 false 4],.ret]) .skip]),
 RG [wV 19 3 3 [3],wK 20 .add 3 19 1 3 3 [19],wG 3 20 3 [20]]]
def EK.c:SC:=
 SQ [RG [wE 1 42 0 [0],wB 2 false 4 [2]],SQ [RG [wF 4 42 1 0,wD 5 39 4 [4],wL 6 5 39 3 [5],wK 7 .neq 3 6 602 3 4 [6],wV 8 7 4 [7],gd 8 false (wF 9 42 1 1),gd 8 false (wD 10 40 9 [9]),gd 8 false (wL 11 10 40 3 [10]),gd 8 false (wK 12 .gtr 3 11 1200 3 4 [11]),wT 13 8 12 4 [8,12]],CN 13 (SQ [RG [wB 2 false 4],.ret]) .skip],SQ [RG [wN 3 0 3],.block 0 (.loop EK.s0)],RG [wB 2 true 4],.ret]
def BZ.b0 (k:Nat) (d0:Ac):Int->Option (AT (Int) (Unit) (Bool)):=fun i3=>
 bif decide (i3<(d0.Ad.length:Int)) then
  (at? d0.Ad i3).bind fun x5=>
  (C6 k x5.At 0 601).bind fun x6=>
  bif (!x6) then
   some (.ret false)
  else
   some (.next (ab (i3+1)))
 else
  some (.brk ())
def BZ.h0 (d0:Ac):Int->St:=fun i3=>⟨[(1,.ptr 0 0 0),(3,.int .i64 i3)],[(0,.box ([.sl 64 (List.map (Aa.c (n:=2) (Aa.c (n:=32) af)) d0.Ae),.sl 65 (List.map Aq.c d0.Ad)]))],[],1,Try.f83.ntmps⟩
def BZ.x0:Unit->St:=fun _=>⟨[],[],[],1,Try.f83.ntmps⟩
def BZ (k:Nat) (d0:Ac):Option (Bool):=
 bif decide ((d0.Ae.length:Int)=(602:Int)) then
  bif decide ((1200:Int)<(d0.Ad.length:Int)) then
   some false
  else
   (aj (BZ.b0 k d0) k 0).bind fun r8=>match r8 with
   |.next _=>none
   |.ret v_=>some v_
   |.brk _=>
    some true
 else
  some false
theorem Ft (k:Nat) (d0:Ac) (r:Bool) (h0:BZ k d0=some r):Aw Try.prog 83 [.agg (Ac.c d0)] (fun y=>y=.bool r):=by
 refine PB Try.f83 EK.c [.tmp 2] ?_
 simp only[BZ]at h0
 try simp only[EK.c,go_sem]
 refine AS h0 ?_ ?_<;>intro c1 h0<;>have F:=c1<;>try simp only[F,go_sem]
 refine AF F h0 ?_ ?_<;>intro F h0<;>try simp only[F,go_sem]
 obtain rfl:=oi h0
 refine Ag rfl ?_
 try simp only[F,go_sem]
 obtain⟨r8,qM,h0⟩:=bs h0
 refine Bf qM (BZ.h0 d0) (BZ.x0) ?_ ?_ ?_
 refine Ah.go [1,3] [0] rfl ?_
 try simp only[BZ.h0,F,go_sem]
 rintro i3 cO Bm Bn h1 aJ aH bK
 refine rS ?_
 simp only[BZ.b0]at h1
 try simp only[EK.s0,BZ.h0,F,go_sem]
 refine AF F h1 ?_ ?_<;>intro F h1<;>try simp only[F,go_sem]
 obtain⟨x5,cw,h1⟩:=bs h1
 have F:=an (aC cw) (an (aD Aq.c cw) F)
 try simp only[F,go_sem]
 refine au h1 (DW k _ _ _) ?_ (fun x6 h1=>?_)<;>try simp only[F,go_sem]
 refine Bt F h1 ?_ ?_<;>intro F h1<;>try simp only[F,go_sem]
 obtain rfl:=bK _ (oi h1).symm
 simp only at h0
 obtain rfl:=oi h0
 refine Ag rfl ?_
 try simp only[F,go_sem]
 refine AB (aJ _ _ (oi h1).symm (Ah.go [1,3] [0] rfl ?_))
 try simp only[BZ.h0,F,go_sem]
 refine AB (aH _ _ (oi h1).symm (Ah.go [] [] rfl ?_))
 try simp only[BZ.x0,F,go_sem]
 rintro _ aK
 subst aK
 simp only at h0
 refine rS ?_
 try simp only[BZ.x0,F,go_sem]
 obtain rfl:=oi h0
 refine Ag rfl ?_
 try simp only[F,go_sem]
 obtain rfl:=oi h0
 refine Ag rfl ?_
 try simp only[F,go_sem]
def Dd.s0:SC:=
 SQ [SQ [RG [wV 9 4 3,wF 10 42 1 1,wD 11 40 10 [10],wL 12 11 40 3 [11],wO 13 .lss 3 9 12 3 4 [9,12]],CN 13 .skip (.exit 0)],.block 1 (.aO [wV 16 3 39,wF 17 42 1 1,wD 18 40 17,wV 19 4 3,wI 20 40 18 19,wF 21 141 20 0,wD 22 3 21,wF 23 42 1 1,wD 24 40 23,wV 25 4 3,wI 26 40 24 25,wF 27 141 26 1,wD 28 139 27,wI 29 39 16 22,wS 139 29 28] [[],[],[1],[],[1,2,3],[1,2,3,4],[1,2,3,4,5],[],[7],[],[7,8,9],[7,
 8,9,10],[7,8,9,10,11],[0,1,2,3,4,5,6,7,8,9,10,11,12],[0,1,2,3,4,5,6,7,8,9,10,11,12,13]] [16,17,18,19,20,21,22,23,24,25,26,27,28,29]),RG [wV 14 4 3 [4],wK 15 .add 3 14 1 3 3 [14],wG 4 15 3 [15]]]
def Dd.c:SC:=
 SQ [RG [wE 1 42 0 [0],oQ 2 (.assign (.const (.slice none 0 0))) 39 [2]],RG [oQ 5 (.buildSlice 39 0 #[]) 39,wF 6 42 1 0,wD 7 39 6 [6],wP 8 5 7 39 39 39 [5,7],wG 3 8 39 [8]],SQ [RG [wN 4 0 3],.block 0 (.loop Dd.s0)],RG [wV 30 3 39 [3],wG 2 30 39 [30]],.ret]
theorem Dd.rs:Try.f84.results.toList=[.tmp 2]:=rfl
def Cn.b0 (k:Nat) (d0:Ac):(Int×(List (Aa 2 (Aa 32 Int))))->Option (AT (Int×(List (Aa 2 (Aa 32 Int)))) ((List (Aa 2 (Aa 32 Int)))) ((List (Aa 2 (Aa 32 Int))))):=fun s=>match s with
 |(i2,l3)=>
   bif decide (i2<(d0.Ad.length:Int)) then
    (at? d0.Ad i2).bind fun x6=>
    (at? l3 x6.At).bind fun x7=>
    (dJ l3 x6.At x6.AE).bind fun l8=>
    some (.next (ab (i2+1),l8))
   else
    some (.brk l3)
def Cn.h0 (d0:Ac):(Int×(List (Aa 2 (Aa 32 Int))))->St:=fun s=>match s with
 |(i2,l3)=>⟨[(1,.ptr 0 0 0),(3,.loc 0 1 64 0 l3.length l3.length),(4,.int .i64 i2)],[(0,.box ([.sl 64 (List.map (Aa.c (n:=2) (Aa.c (n:=32) af)) d0.Ae),.sl 65 (List.map Aq.c d0.Ad)])),(1,.arr 139 64 (List.map (Aa.c (n:=2) (Aa.c (n:=32) af)) l3))],[],2,Try.f84.ntmps⟩
def Cn.x0:(List (Aa 2 (Aa 32 Int)))->St:=fun l4=>⟨[(3,.loc 0 0 64 0 l4.length l4.length)],[(0,.arr 139 64 (List.map (Aa.c (n:=2) (Aa.c (n:=32) af)) l4))],[],1,Try.f84.ntmps⟩
def Cn (k:Nat) (d0:Ac):Option ((List (Aa 2 (Aa 32 Int)))):=
 (eW d0.Ae.length 64).bind fun _=>
 (aj (Cn.b0 k d0) k (0,d0.Ae)).bind fun r9=>match r9 with
 |.next _=>none
 |.ret v_=>some v_
 |.brk l4=>
  some l4
theorem FP (k:Nat) (d0:Ac) (r:(List (Aa 2 (Aa 32 Int)))) (h0:Cn k d0=some r):Aw Try.prog 84 [.agg (Ac.c d0)] (fun y=>y=.sl 64 (List.map (Aa.c (n:=2) (Aa.c (n:=32) af)) r)):=by
 refine PB Try.f84 Dd.c [.tmp 2] ?_
 simp only[Cn]at h0
 try simp only[Dd.c,go_sem]
 obtain⟨u1,iD,h0⟩:=bs h0
 try simp only[lh iD,go_sem]
 obtain⟨r9,uC,h0⟩:=bs h0
 refine Bf uC (Cn.h0 d0) (Cn.x0) ?_ ?_ ?_
 refine Ah.go [1,3,4] [0,32] rfl ?_
 try simp only[Cn.h0,go_sem]
 rintro⟨i2,l3⟩ cO Bm Bn h1 aJ aH bK
 refine rS ?_
 simp only[Cn.b0]at h1
 try simp only[Dd.s0,Cn.h0,go_sem]
 refine AS h1 ?_ ?_<;>intro c5 h1<;>have F:=c5<;>try simp only[F,go_sem]
 refine AL Ax aS 1000 ?_
 try simp only[F,go_sem]
 obtain⟨x6,dQ,h1⟩:=bs h1
 have F:=an (aC dQ) (an (aD Aq.c dQ) F)
 try simp only[F,go_sem]
 obtain⟨x7,e9,h1⟩:=bs h1
 have F:=an (aC e9) (an (aD (Aa.c (n:=2) (Aa.c (n:=32) af)) e9) F)
 try simp only[F,go_sem]
 obtain⟨l8,kE,h1⟩:=bs h1
 have nb:=lj (Aa.c (n:=2) (Aa.c (n:=32) af)) kE
 try simp only[go_sem]at nb
 have F:=an nb (an (kt kE) (an (lk (Aa.c (n:=2) (Aa.c (n:=32) af)) kE) F))
 try simp only[F,go_sem]
 refine aF ?_
 try simp only[F,go_sem]
 refine AB (aJ _ _ (oi h1).symm (Ah.go [1,3,4] [0,1] rfl ?_))
 try simp only[Cn.h0,F,go_sem]
 refine AB (aH _ _ (oi h1).symm (Ah.go [3] [1] rfl ?_))
 try simp only[Cn.x0,F,go_sem]
 rintro l4 aK
 subst aK
 simp only at h0
 refine rS ?_
 try simp only[Cn.x0,go_sem]
 obtain rfl:=oi h0
 refine Ag rfl ?_
 try simp only[go_sem]
def Cv.b0 (k:Nat) (d0:Ac):(Int×(List (Aa 2 (Aa 32 Int))))->Option (AT (Int×(List (Aa 2 (Aa 32 Int)))) ((List (Aa 2 (Aa 32 Int)))) ((List (Aa 2 (Aa 32 Int))))):=fun s=>match s with
 |(i2,l3)=>
   bif decide (i2<(d0.Ad.length:Int)) then
    (at? d0.Ad i2).bind fun x6=>
    (at? l3 x6.At).bind fun x7=>
    (dJ l3 x6.At x6.AE).bind fun l8=>
    some (.next (ab (i2+1),l8))
   else
    some (.brk l3)
def Cv.h0 (H:Heap) (d0:Ac):(Int×(List (Aa 2 (Aa 32 Int))))->St:=fun s=>match s with
 |(i2,l3)=>⟨[(1,.ptr 0 0 0),(3,.loc 0 1 64 0 l3.length l3.length),(4,.int .i64 i2)],[(0,.box ([.sl 64 (List.map (Aa.c (n:=2) (Aa.c (n:=32) af)) d0.Ae),.sl 65 (List.map Aq.c d0.Ad)])),(1,.arr 139 64 (List.map (Aa.c (n:=2) (Aa.c (n:=32) af)) l3))],H,2,Try.f84.ntmps⟩
def Cv.x0 (H:Heap):(List (Aa 2 (Aa 32 Int)))->St:=fun l4=>⟨[(3,.loc 0 0 64 0 l4.length l4.length)],[(0,.arr 139 64 (List.map (Aa.c (n:=2) (Aa.c (n:=32) af)) l4))],H,1,Try.f84.ntmps⟩
def Cv (k:Nat) (d0:Ac):Option ((List (Aa 2 (Aa 32 Int)))):=
 (eW d0.Ae.length 64).bind fun _=>
 (aj (Cv.b0 k d0) k (0,d0.Ae)).bind fun r9=>match r9 with
 |.next _=>none
 |.ret v_=>some v_
 |.brk l4=>
  some l4
theorem IV (k:Nat) (d0:Ac) (r:(List (Aa 2 (Aa 32 Int)))) (h0:Cv k d0=some r):A6 Try.prog 84 [.agg (Ac.c d0)] [] (fun y fr=>y=.loc 0 0 64 0 r.length r.length/\fr=[(0,.arr 139 64 (List.map (Aa.c (n:=2) (Aa.c (n:=32) af)) r))]):=by
 have hr:=A6.own (et:=139) (sz:=64) (ls:=List.map (Aa.c (n:=2) (Aa.c (n:=32) af)) r) (A6.gr Ax (f:=84) (fn:=Try.f84) (sc:=Dd.c) (args:=[.agg (Ac.c d0)]) (fr0:=[]) (by rfl) (by rfl) (by decide +kernel) (by rfl) (by decide +kernel) (Nat.le_of_ble_eq_true rfl) (fun H=>?_))
 simpa only [Bg] using hr
 refine rS ?_
 simp only[Cv]at h0
 try simp only[Dd.c,go_sem]
 obtain⟨u1,iD,h0⟩:=bs h0
 try simp only[lh iD,go_sem]
 obtain⟨r9,uC,h0⟩:=bs h0
 refine Bf uC (Cv.h0 H d0) (Cv.x0 H) ?_ ?_ ?_
 refine Ah.go [1,3,4] [16,48] rfl ?_
 try simp only[Cv.h0,go_sem]
 rintro⟨i2,l3⟩ cO Bm Bn h1 aJ aH bK
 refine rS ?_
 simp only[Cv.b0]at h1
 try simp only[Dd.s0,Cv.h0,go_sem]
 refine AS h1 ?_ ?_<;>intro c5 h1<;>have F:=c5<;>try simp only[F,go_sem]
 refine AL Ax aS 1000 ?_
 try simp only[F,go_sem]
 obtain⟨x6,dQ,h1⟩:=bs h1
 have F:=an (aC dQ) (an (aD Aq.c dQ) F)
 try simp only[F,go_sem]
 obtain⟨x7,e9,h1⟩:=bs h1
 have F:=an (aC e9) (an (aD (Aa.c (n:=2) (Aa.c (n:=32) af)) e9) F)
 try simp only[F,go_sem]
 obtain⟨l8,kE,h1⟩:=bs h1
 have nb:=lj (Aa.c (n:=2) (Aa.c (n:=32) af)) kE
 try simp only[go_sem]at nb
 have F:=an nb (an (kt kE) (an (lk (Aa.c (n:=2) (Aa.c (n:=32) af)) kE) F))
 try simp only[F,go_sem]
 refine aF ?_
 try simp only[F,go_sem]
 refine AB (aJ _ _ (oi h1).symm (Ah.go [1,3,4] [0,1] rfl ?_))
 try simp only[Cv.h0,F,go_sem]
 refine AB (aH _ _ (oi h1).symm (Ah.go [3] [1] rfl ?_))
 try simp only[Cv.x0,F,go_sem]
 rintro l4 aK
 subst aK
 simp only at h0
 refine rS ?_
 try simp only[Cv.x0,go_sem]
 obtain rfl:=oi h0
 refine C8 rfl ?_
 try simp only[Dd.rs,mN,A5,bZ,sP,uV,Bd,CK,go_sem]
def EP.s0:SC:=
 SQ [SQ [RG [wV 6 5 3,wV 7 0 44,wL 8 7 44 3 [7],wO 9 .lss 3 6 8 3 4 [6,8]],CN 9 .skip (.exit 0)],.block 1 (SQ [.aO [wV 12 0 44,wV 13 5 3,wI 14 44 12 13,wF 15 25 14 0,wD 16 23 15,wD 17 23 3,wO 18 .eql 23 16 17 23 4] [[],[],[0,1],[0,1,2],[0,1,2,3],[],[0,1,2,3,4,5]] [12,13,14,15,16,17],CN 18 (SQ [RG [wV 19 5 3 [5],wG 4 19 3 [19]],.ret]) .skip]),RG [wV 10 5 3 [5],wK 11 .add 3 10 1 3 3 [10],
 wG 5 11 3 [11]]]
def EP.c:SC:=
 SQ [RG [wE 3 23 1 [1],wN 4 0 3 [4]],SQ [RG [wN 5 0 3],.block 0 (.loop EP.s0)],RG [wN 4 (-1) 3],.ret]
def BS.b0 (k:Nat) (l0:(List Ab)) (jy:Entry):Int->Option (AT (Int) (Unit) (Int)):=fun i1=>
 bif decide (i1<(l0.length:Int)) then
  (at? l0 i1).bind fun x3=>
  bif (decide (x3.At.Ap=jy.Ap)&&decide (x3.At.No=jy.No)) then
   some (.ret i1)
  else
   some (.next (ab (i1+1)))
 else
  some (.brk ())
def BS.h0 (l0:(List Ab)) (jy:Entry):Int->St:=fun i1=>⟨[(0,.sl 8 (List.map Ab.c l0)),(3,.ptr 0 0 0),(5,.int .i64 i1)],[(0,.box ([.int .i64 jy.Ap,.int .i64 jy.No]))],[],1,Try.f99.ntmps⟩
def BS.x0:Unit->St:=fun _=>⟨[],[],[],1,Try.f99.ntmps⟩
def BS (k:Nat) (l0:(List Ab)) (jy:Entry):Option (Int):=
 (aj (BS.b0 k l0 jy) k 0).bind fun r5=>match r5 with
 |.next _=>none
 |.ret v_=>some v_
 |.brk _=>
  some (-1)
theorem HL (k:Nat) (l0:(List Ab)) (jy:Entry) (r:Int) (h0:BS k l0 jy=some r):Aw Try.prog 99 [.sl 8 (List.map Ab.c l0),.agg (Entry.c jy)] (fun y=>y=.int .i64 r):=by
 refine PB Try.f99 EP.c [.tmp 4] ?_
 simp only[BS]at h0
 try simp only[EP.c,go_sem]
 obtain⟨r5,yr5,h0⟩:=bs h0
 refine Bf yr5 (BS.h0 l0 jy) (BS.x0) ?_ ?_ ?_
 refine Ah.go [0,3,5] [0] rfl ?_
 try simp only[BS.h0,go_sem]
 rintro i1 cO Bm Bn h1 aJ aH bK
 refine rS ?_
 simp only[BS.b0]at h1
 try simp only[EP.s0,BS.h0,go_sem]
 refine AS h1 ?_ ?_<;>intro c2 h1<;>have F:=c2<;>try simp only[F,go_sem]
 refine AL Ax aS 1000 ?_
 try simp only[F,go_sem]
 obtain⟨x3,cP,h1⟩:=bs h1
 have F:=an (aC cP) (an (aD Ab.c cP) F)
 try simp only[F,go_sem]
 refine aF ?_
 try simp only[F,go_sem]
 refine AF F h1 ?_ ?_<;>intro F h1<;>try simp only[F,go_sem]
 obtain rfl:=bK _ (oi h1).symm
 simp only at h0
 obtain rfl:=oi h0
 refine Ag rfl ?_
 try simp only[F,go_sem]
 refine AB (aJ _ _ (oi h1).symm (Ah.go [0,3,5] [0] rfl ?_))
 try simp only[BS.h0,F,go_sem]
 refine AB (aH _ _ (oi h1).symm (Ah.go [] [] rfl ?_))
 try simp only[BS.x0,F,go_sem]
 rintro _ aK
 subst aK
 simp only at h0
 refine rS ?_
 try simp only[BS.x0,go_sem]
 obtain rfl:=oi h0
 refine Ag rfl ?_
 try simp only[go_sem]
def D2.c:SC:=
 SQ [RG [oQ 2 (.assign (.const (.slice none 0 0))) 44 [2]],RG [oQ 3 (.buildSlice 44 0 #[]) 44,wV 4 0 44 [0],wP 5 3 4 44 44 44 [3,4],wG 2 5 44 [5]],.ret]
theorem D2.rs:Try.f100.results.toList=[.tmp 2]:=rfl
def E7 (k:Nat) (l0:(List Ab)):Option ((List Ab)):=
 (eW l0.length 72).bind fun _=>
 some l0
theorem IQ (k:Nat) (l0:(List Ab)) (r:(List Ab)) (h0:E7 k l0=some r):Aw Try.prog 100 [.sl 8 (List.map Ab.c l0)] (fun y=>y=.sl 8 (List.map Ab.c r)):=by
 refine PB Try.f100 D2.c [.tmp 2] ?_
 simp only[E7]at h0
 try simp only[D2.c,go_sem]
 obtain⟨u1,iD,h0⟩:=bs h0
 try simp only[lh iD,go_sem]
 obtain rfl:=oi h0
 refine Ag rfl ?_
 try simp only[go_sem]
def Eg (k:Nat) (l0:(List Ab)):Option ((List Ab)):=
 (eW l0.length 72).bind fun _=>
 some l0
theorem HK (k:Nat) (l0:(List Ab)) (r:(List Ab)) (h0:Eg k l0=some r):A6 Try.prog 100 [.sl 8 (List.map Ab.c l0)] [] (fun y fr=>y=.loc 0 0 8 0 r.length r.length/\fr=[(0,.arr 25 8 (List.map Ab.c r))]):=by
 have hr:=A6.own (et:=25) (sz:=8) (ls:=List.map Ab.c r) (A6.gr Ax (f:=100) (fn:=Try.f100) (sc:=D2.c) (args:=[.sl 8 (List.map Ab.c l0)]) (fr0:=[]) (by rfl) (by rfl) (by decide +kernel) (by rfl) (by decide +kernel) (Nat.le_of_ble_eq_true rfl) (fun H=>?_))
 simpa only [Bg] using hr
 refine rS ?_
 simp only[Eg]at h0
 try simp only[D2.c,go_sem]
 obtain⟨u1,iD,h0⟩:=bs h0
 try simp only[lh iD,go_sem]
 obtain rfl:=oi h0
 refine C8 rfl ?_
 try simp only[D2.rs,mN,A5,bZ,sP,uV,Bd,CK,go_sem]
def Eo.s0:SC:=
 SQ [SQ [RG [wV 5 4 3,wV 6 0 44,wL 7 6 44 3 [6],wO 8 .lss 3 5 7 3 4 [5,7]],CN 8 .skip (.exit 0)],.block 1 (RG [wV 11 0 44,wV 12 4 3,wI 13 44 11 12 [11,12],wF 14 25 13 0 [13],wF 15 23 14 0 [14],wD 16 3 15 [15],wI 17 95 3 16,wD 18 3 17 [17],wK 19 .add 3 18 1 3 3 [18],wI 20 95 3 16 [16],wS 3 20 19 [19,20]]),RG [wV 9 4 3 [4],wK 10 .add 3 9 1 3 3 [9],wG 4 10 3 [10]]]
def Eo.c:SC:=
 SQ [RG [wA 2 95],RG [wA 3 95],SQ [RG [wN 4 0 3],.block 0 (.loop Eo.s0)],RG [wD 21 95 3 [3],wS 95 2 21 [21]],.ret]
def Ck.b0 (k:Nat) (l0:(List Ab)):((Aa 6 Int)×Int)->Option (AT ((Aa 6 Int)×Int) ((Aa 6 Int)) ((Aa 6 Int))):=fun s=>match s with
 |(s1,i2)=>
   bif decide (i2<(l0.length:Int)) then
    (at? l0 i2).bind fun x5=>
    (s1.at? x5.At.Ap).bind fun x6=>
    some (.next (s1.set x5.At.Ap (ab (x6+1)),ab (i2+1)))
   else
    some (.brk s1)
def Ck.h0 (l0:(List Ab)):((Aa 6 Int)×Int)->St:=fun s=>match s with
 |(s1,i2)=>⟨[(0,.sl 8 (List.map Ab.c l0)),(2,.ptr 0 0 0),(3,.ptr 0 1 0),(4,.int .i64 i2)],[(0,.box (Aa.c (n:=6) eI (Aa.rep 6 (0:Int)))),(1,.box (Aa.c (n:=6) eI s1))],[],2,Try.f105.ntmps⟩
def Ck.x0:(Aa 6 Int)->St:=fun s3=>⟨[(2,.ptr 0 0 0),(3,.ptr 0 1 0)],[(0,.box (Aa.c (n:=6) eI (Aa.rep 6 (0:Int)))),(1,.box (Aa.c (n:=6) eI s3))],[],2,Try.f105.ntmps⟩
def Ck (k:Nat) (l0:(List Ab)):Option ((Aa 6 Int)):=
 (aj (Ck.b0 k l0) k ((Aa.rep 6 (0:Int)),0)).bind fun r8=>match r8 with
 |.next _=>none
 |.ret v_=>some v_
 |.brk s3=>
  some s3
theorem HM (k:Nat) (l0:(List Ab)) (r:(Aa 6 Int)) (h0:Ck k l0=some r):Aw Try.prog 105 [.sl 8 (List.map Ab.c l0)] (fun y=>y=.agg ((Aa.c (n:=6) eI) r)):=by
 refine PB Try.f105 Eo.c [.cell 2 95] ?_
 simp only[Ck]at h0
 try simp only[Eo.c,go_sem]
 obtain⟨r8,qM,h0⟩:=bs h0
 refine Bf qM (Ck.h0 l0) (Ck.x0) ?_ ?_ ?_
 refine Ah.go [0,2,3,4] [0,16] rfl ?_
 try simp only[Ck.h0,go_sem]
 rintro⟨s1,i2⟩ cO Bm Bn h1 aJ aH bK
 refine rS ?_
 simp only[Ck.b0]at h1
 try simp only[Eo.s0,Ck.h0,go_sem]
 refine AS h1 ?_ ?_<;>intro c4 h1<;>have F:=c4<;>try simp only[F,go_sem]
 obtain⟨x5,cw,h1⟩:=bs h1
 have F:=an (aC cw) (an (aD Ab.c cw) F)
 try simp only[F,go_sem]
 obtain⟨x6,dQ,h1⟩:=bs h1
 have qG:=Ao.bH ml (Ao.self akk s1) dQ
 have nH:=qG.2
 try simp only[AA,Az,go_sem]at nH
 have q7:=qG.1.ow (ab (x6+1))
 try simp only[AA,Az,go_sem]at q7
 have F:=an (aq dQ) (an nH F)
 try simp only[q7,F,go_sem]
 refine AB (aJ _ _ (oi h1).symm (Ah.go [0,2,3,4] [0,1] rfl ?_))
 try simp only[Ck.h0,F,go_sem]
 refine AB (aH _ _ (oi h1).symm (Ah.go [2,3] [0,1] rfl ?_))
 try simp only[Ck.x0,F,go_sem]
 rintro s3 aK
 subst aK
 simp only at h0
 refine rS ?_
 try simp only[Ck.x0,go_sem]
 obtain rfl:=oi h0
 refine Ag rfl ?_
 try simp only[go_sem]
def GN.c:SC:=
 SQ [RG [wE 2 23 0 [0],wE 3 23 1 [1],wB 4 false 4 [4]],RG [wF 5 23 2 0,wD 6 3 5 [5],wF 7 23 3 0,wD 8 3 7 [7],wO 9 .lss 3 6 8 3 4 [6,8],wV 10 9 4 [9],gd 10 false (wF 11 23 2 0),gd 10 false (wD 12 3 11 [11]),gd 10 false (wF 13 23 3 0),gd 10 false (wD 14 3 13 [13]),gd 10 false (wO 15 .eql 3 12 14 3 4 [12,14]),gd 10 false (wV 16 15 4 [15]),gd 16 true (wF 17 23 2 1 [2]),gd 16 true (wD 18 3 17 [17]),
 gd 16 true (wF 19 23 3 1 [3]),gd 16 true (wD 20 3 19 [19]),gd 16 true (wO 21 .lss 3 18 20 3 4 [18,20]),gd 10 false (wZ 22 16 21 4 [16,21]),wT 23 10 22 4 [10,22],wG 4 23 4 [23]],.ret]
def E5 (k:Nat) (a0:Entry) (b1:Entry):Option (Bool):=
 bif (!decide (a0.Ap<b1.Ap)) then
  bif decide (a0.Ap=b1.Ap) then
   some (decide (a0.No<b1.No))
  else
   some false
 else
  some true
theorem IN (k:Nat) (a0:Entry) (b1:Entry) (r:Bool) (h0:E5 k a0 b1=some r):Aw Try.prog 108 [.agg (Entry.c a0),.agg (Entry.c b1)] (fun y=>y=.bool r):=by
 refine PB Try.f108 GN.c [.tmp 4] ?_
 simp only[E5]at h0
 try simp only[GN.c,go_sem]
 refine Cr h0 ?_ ?_<;>intro c1 h0<;>have F:=c1<;>try simp only[F,go_sem]
 refine AF F h0 ?_ ?_<;>intro F h0<;>try simp only[F,go_sem]
 obtain rfl:=oi h0
 refine Ag rfl ?_
 try simp only[F,go_sem]
 obtain rfl:=oi h0
 refine Ag rfl ?_
 try simp only[F,go_sem]
 obtain rfl:=oi h0
 refine Ag rfl ?_
 try simp only[F,go_sem]
def EG.s0:SC:=
 SQ [SQ [.aO [wV 39 7 3,wV 40 0 44,wL 41 40 44 3,wO 42 .lss 3 39 41 3 4,wV 43 42 4,gd 43 true (wV 44 0 44),gd 43 true (wV 45 7 3),gd 43 true (wI 46 44 44 45),gd 43 true (wF 47 25 46 0),gd 43 true (wD 48 23 47),gd 43 true (wF 49 25 3 0),gd 43 true (wD 50 23 49),gd 43 true (wW 51 108 48 50 23 23 4),wZ 52 43 51 4] [[],[],[1],[0,1,2],[0,1,2,3],[0,1,2,3,4],[0,1,2,3,4],[0,1,2,3,4,5,6],[0,1,2,3,4,5,6,
 7],[0,1,2,3,4,5,6,7,8],[0,1,2,3,4],[0,1,2,3,4,10],[0,1,2,3,4,5,6,7,8,9,10,11],[0,1,2,3,4,5,6,7,8,9,10,11,12]] [39,40,41,42,43,44,45,46,47,48,49,50,51],CN 52 .skip (.exit 0)],.block 1 (RG [wV 53 7 3 [7],wK 54 .add 3 53 1 3 3 [53],wG 7 54 3 [54]])]
def EG.c:SC:=
 SQ [RG [wE 3 25 1 [1],oQ 4 (.assign (.const (.slice none 0 0))) 44 [4],wN 5 0 28 [5]],RG [wV 8 0 44,wF 9 25 3 0,wD 10 23 9 [9],wW 11 99 8 10 44 23 3 [8,10],wG 6 11 3 [11]],SQ [.aO [wV 12 6 3,wK 13 .geq 3 12 0 3 4,wV 14 13 4,gd 14 true (wV 15 0 44),gd 14 true (wV 16 6 3),gd 14 true (wI 17 44 15 16),gd 14 true (wD 18 25 17),gd 14 true (wD 19 25 3),gd 14 true (wO 20 .eql 25 18 19 25 4),
 wZ 21 14 20 4] [[],[0],[0,1],[0,1,2],[0,1,2],[0,1,2,3,4],[0,1,2,3,4,5],[0,1,2],[0,1,2,3,4,5,6,7],[0,1,2,3,4,5,6,7,8]] [12,13,14,15,16,17,18,19,20],CN 21 (SQ [RG [wV 22 0 44 [0],wU 23 100 22 44 44 [22],wG 4 23 44 [23],wN 5 0 28],.ret]) .skip],SQ [RG [wV 24 6 3 [6],wK 25 .geq 3 24 0 3 4 [24]],CN 25 (SQ [RG [oQ 4 (.assign (.const (.slice none 0 0))) 44,wN 5 92 28],.ret]) .skip],
 SQ [.aO [wF 26 25 3 0,wF 27 23 26 1,wD 28 3 27,wV 29 0 44,wU 30 105 29 44 95,wF 31 25 3 0,wF 32 23 31 0,wD 33 3 32,oQ 34 (.index 95 (.tmp 30) (.tmp 33)) 3,wO 35 .gtr 3 28 34 3 4] [[],[0],[0,1],[],[3],[],[5],[5,6],[3,4,5,6,7],[0,1,2,3,4,5,6,7,8]] [26,27,28,29,30,31,32,33,34],CN 35 (SQ [RG [oQ 4 (.assign (.const (.slice none 0 0))) 44,wN 5 93 28],.ret]) .skip],SQ [RG [wV 36 0 44,
 wL 37 36 44 3 [36],wK 38 .eql 3 37 60 3 4 [37]],CN 38 (SQ [RG [oQ 4 (.assign (.const (.slice none 0 0))) 44,wN 5 2 28],.ret]) .skip],RG [wN 7 0 3],.block 0 (.loop EG.s0),.aO [wV 55 0 44,wV 56 7 3,oQ 57 (.slice 44 (.tmp 55) none (some (.tmp 56)) none) 44,wU 58 100 57 44 44,wD 59 25 3,oQ 60 (.buildSlice 44 1 #[(0,.tmp 59)]) 44,wP 61 58 60 44 44 44,wV 62 0 44,wV 63 7 3,
 oQ 64 (.slice 44 (.tmp 62) (some (.tmp 63)) none none) 44,wP 65 61 64 44 44 44,wG 4 65 44,wN 5 0 28] [[],[],[0,1],[0,1,2],[],[4],[0,1,2,3,4,5],[],[],[7,8],[0,1,2,3,4,5,6,7,8,9],[0,1,2,3,4,5,6,7,8,9,10],[0,1,2,3,4,5,6,7,8,9,10,11]] [0,3,7,55,56,57,58,59,60,61,62,63,64,65],.ret]
def B9.b0 (k:Nat) (l0:(List Ab)) (r1:Ab):Int->Option (AT (Int) (Int) ((List Ab)×Int)):=fun i11=>
 bif decide (i11<(l0.length:Int)) then
  (at? l0 i11).bind fun bM=>
  (E5 k bM.At r1.At).bind fun cM=>
  bif cM then
   some (.next (ab (i11+1)))
  else
   some (.brk i11)
 else
  some (.brk i11)
def B9.h0 (l0:(List Ab)) (r1:Ab):Int->St:=fun i11=>⟨[(0,.sl 8 (List.map Ab.c l0)),(3,.ptr 0 0 0),(7,.int .i64 i11)],[(0,.box ([.int .i64 r1.At.Ap,.int .i64 r1.At.No,.int .i64 r1.Kind,.int .i64 r1.Day,.int .i64 r1.Bh,.int .i64 r1.Of.Ap,.int .i64 r1.Of.No,.str r1.Text]))],[],1,Try.f75.ntmps⟩
def B9.x0 (l0:(List Ab)) (r1:Ab):Int->St:=fun i12=>⟨[(0,.sl 8 (List.map Ab.c l0)),(3,.ptr 0 0 0),(7,.int .i64 i12)],[(0,.box ([.int .i64 r1.At.Ap,.int .i64 r1.At.No,.int .i64 r1.Kind,.int .i64 r1.Day,.int .i64 r1.Bh,.int .i64 r1.Of.Ap,.int .i64 r1.Of.No,.str r1.Text]))],[],1,Try.f75.ntmps⟩
def B9 (k:Nat) (l0:(List Ab)) (r1:Ab):Option ((List Ab)×Int):=
 (BS k l0 r1.At).bind fun x1=>
 bif decide ((0:Int)<=x1) then
  (at? l0 x1).bind fun x3=>
  bif (decide (x3.At.Ap=r1.At.Ap)&&(decide (x3.At.No=r1.At.No)&&(decide (x3.Kind=r1.Kind)&&(decide (x3.Day=r1.Day)&&(decide (x3.Bh=r1.Bh)&&(decide (x3.Of.Ap=r1.Of.Ap)&&(decide (x3.Of.No=r1.Of.No)&&(x3.Text.toList==r1.Text.toList)))))))) then
   (Eg k l0).bind fun x6=>
   some (x6,0)
  else
   some ([],92)
 else
  (Ck k l0).bind fun x7=>
  (x7.at? r1.At.Ap).bind fun x8=>
  bif decide (x8<r1.At.No) then
   some ([],93)
  else
   bif decide ((l0.length:Int)=(60:Int)) then
    some ([],2)
   else
    (aj (B9.b0 k l0 r1) k 0).bind fun zX=>match zX with
    |.next _=>none
    |.ret v_=>some v_
    |.brk i12=>
     (bY l0 0 i12).bind fun qk=>
     (Eg k qk).bind fun fh=>
     (fG 72 fh r1).bind fun l21=>
     (bY l0 i12 l0.length).bind fun zt=>
     (dM 72 l21 zt).bind fun rK=>
     some (rK,0)
theorem FN (k:Nat) (l0:(List Ab)) (r1:Ab) (r:(List Ab)×Int) (h0:B9 k l0 r1=some r):Aw Try.prog 75 [.sl 8 (List.map Ab.c l0),.agg (Ab.c r1)] (fun y=>y=.ar [.sl 8 (List.map Ab.c r.1),.int .i64 r.2]):=by
 refine PB Try.f75 EG.c [.tmp 4,.tmp 5] ?_
 simp only[B9]at h0
 try simp only[EG.c,go_sem]
 refine au h0 (HL k _ _) ?_ (fun x1 h0=>?_)<;>try simp only[go_sem]
 refine AL Ax aS 1000 ?_
 try simp only[go_sem]
 refine Fi h0 ?_ ?_<;>intro c2 h0<;>have F:=c2<;>try simp only[F,go_sem]
 obtain⟨x3,cP,h0⟩:=bs h0
 have F:=an (aC cP) (an (aD Ab.c cP) F)
 try simp only[F,go_sem]
 refine aF ?_
 try simp only[F,go_sem]
 refine AF F h0 ?_ ?_<;>intro F h0<;>try simp only[F,go_sem]
 obtain⟨x6,dQ,h0⟩:=bs h0
 refine CG Ax 1000 [] [] (HK k _ _ dQ) ?_ rfl ?_
 try simp only[fN,Bg,F,go_sem]
 try simp only[F,go_sem]
 obtain rfl:=oi h0
 refine Ag rfl ?_
 try simp only[F,go_sem]
 obtain rfl:=oi h0
 refine Ag rfl ?_
 try simp only[F,go_sem]
 refine aF ?_
 try simp only[F,go_sem]
 refine AL Ax aS 1000 ?_
 try simp only[F,go_sem]
 refine cn h0 (HM k _) ?_ (fun x7 h0=>?_)<;>try simp only[F,go_sem]
 obtain⟨x8,jW,h0⟩:=bs h0
 have ab2:=(Ao.aeH ml jW).2
 try simp only[go_sem]at ab2
 have F:=an (aq jW) (an ab2 F)
 try simp only[F,go_sem]
 refine aF ?_
 try simp only[F,go_sem]
 refine AF F h0 ?_ ?_<;>intro F h0<;>try simp only[F,go_sem]
 obtain rfl:=oi h0
 refine Ag rfl ?_
 try simp only[F,go_sem]
 refine AF F h0 ?_ ?_<;>intro F h0<;>try simp only[F,go_sem]
 obtain rfl:=oi h0
 refine Ag rfl ?_
 try simp only[F,go_sem]
 obtain⟨zX,aeX,h0⟩:=bs h0
 refine Bf aeX (B9.h0 l0 r1) (B9.x0 l0 r1) ?_ ?_ ?_
 refine Ah.go [0,3,7] [0] rfl ?_
 try simp only[B9.h0,F,go_sem]
 rintro i11 cO Bm Bn h1 aJ aH bK
 refine rS ?_
 simp only[B9.b0]at h1
 try simp only[EG.s0,B9.h0,F,go_sem]
 refine AL Ax aS 1000 ?_
 try simp only[F,go_sem]
 refine DF F h1 ?_ ?_<;>intro F h1<;>try simp only[F,go_sem]
 obtain⟨bM,sE,h1⟩:=bs h1
 have F:=an (aC sE) (an (aD Ab.c sE) F)
 try simp only[F,go_sem]
 refine cn h1 (IN k _ _) ?_ (fun cM h1=>?_)<;>try simp only[F,go_sem]
 refine aF ?_
 try simp only[F,go_sem]
 refine AF F h1 ?_ ?_<;>intro F h1<;>try simp only[F,go_sem]
 refine AB (aJ _ _ (oi h1).symm (Ah.go [0,3,7] [0] rfl ?_))
 try simp only[B9.h0,F,go_sem]
 refine AB (aH _ _ (oi h1).symm (Ah.go [0,3,7] [0] rfl ?_))
 try simp only[B9.x0,F,go_sem]
 refine aF ?_
 try simp only[F,go_sem]
 refine AB (aH _ _ (oi h1).symm (Ah.go [0,3,7] [0] rfl ?_))
 try simp only[B9.x0,F,go_sem]
 rintro i12 aK
 subst aK
 simp only at h0
 refine rS ?_
 try simp only[B9.x0,F,go_sem]
 refine AL Ax aS 1000 ?_
 try simp only[F,go_sem]
 obtain⟨qk,uA,h0⟩:=bs h0
 have xL:=aeF Ab.c uA
 try simp only[go_sem]at xL
 have F:=an xL F
 try simp only[aae uA,F,go_sem]
 obtain⟨fh,cg,h0⟩:=bs h0
 refine D1 1000 [] [] (HK k _ _ cg) ?_ rfl ?_
 try simp only[fN,Bg,F,go_sem]
 try simp only[F,go_sem]
 obtain⟨l21,ara,h0⟩:=bs h0
 have ajS:=pu Ab.c ara
 try simp only[F,go_sem]at ajS
 have F:=an ajS F
 try simp only[F,go_sem]
 obtain⟨zt,acd,h0⟩:=bs h0
 have agn:=wR Ab.c acd
 try simp only[go_sem]at agn
 have F:=an agn F
 try simp only[sf acd,F,go_sem]
 obtain⟨rK,uB,h0⟩:=bs h0
 have aaq:=gT Ab.c uB
 try simp only[F,go_sem]at aaq
 have F:=an aaq F
 try simp only[F,go_sem]
 refine aF ?_
 try simp only[F,go_sem]
 obtain rfl:=oi h0
 refine Ag rfl ?_
 try simp only[F,go_sem]
def EN.s0:SC:=
 SQ [SQ [RG [wV 5 4 3,wV 6 0 56,wL 7 6 56 3 [6],wO 8 .lss 3 5 7 3 4 [5,7]],CN 8 .skip (.exit 0)],.block 1 (RG [wV 11 3 3 [3],oQ 12 (.binOp .shl 3 (.tmp 11) (.const (.int .u64 8)) 211) 3 [11],wV 13 0 56,wV 14 4 3,wI 15 56 13 14 [13,14],wD 16 5 15 [15],wY 17 5 3 16 3 [16],wO 18 .or 3 12 17 3 3 [12,17],wG 3 18 3 [18]]),RG [wV 9 4 3 [4],wK 10 .add 3 9 1 3 3 [9],wG 4 10 3 [10]]]
def EN.c:SC:=
 SQ [RG [wN 2 0 3 [2]],RG [wN 3 0 3],SQ [RG [wN 4 0 3],.block 0 (.loop EN.s0)],RG [wV 19 3 3 [3],wG 2 19 3 [19]],.ret]
def BJ.b0 (k:Nat) (b0:(List Int)):(Int×Int)->Option (AT (Int×Int) (Int) (Int)):=fun s=>match s with
 |(i1,i2)=>
   bif decide (i2<(b0.length:Int)) then
    (at? b0 i2).bind fun x5=>
    some (.next (fK .i64 (ab (i1*2 ^ 8)) (ab x5),ab (i2+1)))
   else
    some (.brk i1)
def BJ.h0 (b0:(List Int)):(Int×Int)->St:=fun s=>match s with
 |(i1,i2)=>⟨[(0,.sl 1 (List.map af b0)),(3,.int .i64 i1),(4,.int .i64 i2)],[],[],1,Try.f91.ntmps⟩
def BJ.x0:Int->St:=fun i3=>⟨[(3,.int .i64 i3)],[],[],1,Try.f91.ntmps⟩
def BJ (k:Nat) (b0:(List Int)):Option (Int):=
 (aj (BJ.b0 k b0) k (0,0)).bind fun r6=>match r6 with
 |.next _=>none
 |.ret v_=>some v_
 |.brk i3=>
  some i3
theorem Dq (k:Nat) (b0:(List Int)) (r:Int) (h0:BJ k b0=some r):Aw Try.prog 91 [.sl 1 (List.map af b0)] (fun y=>y=.int .i64 r):=by
 refine PB Try.f91 EN.c [.tmp 2] ?_
 simp only[BJ]at h0
 try simp only[EN.c,go_sem]
 obtain⟨r6,yr6,h0⟩:=bs h0
 refine Bf yr6 (BJ.h0 b0) (BJ.x0) ?_ ?_ ?_
 refine Ah.go [0,3,4] [] rfl ?_
 try simp only[BJ.h0,go_sem]
 rintro⟨i1,i2⟩ cO Bm Bn h1 aJ aH bK
 refine rS ?_
 simp only[BJ.b0]at h1
 try simp only[EN.s0,BJ.h0,go_sem]
 refine AS h1 ?_ ?_<;>intro c4 h1<;>have F:=c4<;>try simp only[F,go_sem]
 try simp only[(@id (min (Int.toNat 8) 64=8) rfl),F,go_sem]
 obtain⟨x5,cw,h1⟩:=bs h1
 have F:=an (aC cw) (an (aD af cw) F)
 try simp only[F,go_sem]
 refine AB (aJ _ _ (oi h1).symm (Ah.go [0,3,4] [] rfl ?_))
 try simp only[BJ.h0,F,go_sem]
 refine AB (aH _ _ (oi h1).symm (Ah.go [3] [] rfl ?_))
 try simp only[BJ.x0,F,go_sem]
 rintro i3 aK
 subst aK
 simp only at h0
 refine rS ?_
 try simp only[BJ.x0,go_sem]
 obtain rfl:=oi h0
 refine Ag rfl ?_
 try simp only[go_sem]
def GW.c:SC:=
 SQ [RG [wE 1 122 0 [0],wN 2 0 3 [2]],RG [oQ 4 (.slice 122 (.tmp 1) (some (.const (.int .i64 1))) (some (.const (.int .i64 4))) none) 56,wU 5 91 4 56 3 [4],wG 3 5 3 [5]],SQ [RG [wJ 6 122 1 0,wD 7 5 6 [6],oQ 8 (.binOp .neq 5 (.tmp 7) (.const (.int .u8 104)) 5) 4 [7],wV 9 8 4 [8],gd 9 true (wJ 10 122 1 0),gd 9 true (wD 11 5 10 [10]),
 gd 9 true (oQ 12 (.binOp .neq 5 (.tmp 11) (.const (.int .u8 112)) 5) 4 [11]),wZ 13 9 12 4 [9,12],wV 14 13 4 [13],gd 14 false (wJ 15 122 1 31 [1]),gd 14 false (wD 16 5 15 [15]),gd 14 false (oQ 17 (.binOp .neq 5 (.tmp 16) (.const (.int .u8 165)) 5) 4 [16]),wT 18 14 17 4 [14,17],wV 19 18 4 [18],gd 19 false (wV 20 3 3),gd 19 false (wK 21 .gtr 3 20 1000000 3 4 [20]),wT 22 19 21 4 [19,21]],
 CN 22 (SQ [RG [wN 2 0 3],.ret]) .skip],RG [wV 23 3 3 [3],wG 2 23 3 [23]],.ret]
def DU (k:Nat) (dB:(Aa 32 Int)):Option (Int):=
 (BJ k ((dB.l.drop 1).take 3)).bind fun x1=>
 (dB.at? 0).bind fun x2=>
 bif (!decide (x2=(104:Int))) then
  bif decide (x2=(112:Int)) then
   (dB.at? 31).bind fun x5=>
   bif decide (x5=(165:Int)) then
    bif decide ((1000000:Int)<x1) then
     some 0
    else
     some x1
   else
    some 0
  else
   some 0
 else
  (dB.at? 31).bind fun x8=>
  bif decide (x8=(165:Int)) then
   bif decide ((1000000:Int)<x1) then
    some 0
   else
    some x1
  else
   some 0
theorem FK (k:Nat) (dB:(Aa 32 Int)) (r:Int) (h0:DU k dB=some r):Aw Try.prog 128 [.agg ((Aa.c (n:=32) af) dB)] (fun y=>y=.int .i64 r):=by
 refine PB Try.f128 GW.c [.tmp 2] ?_
 simp only[DU]at h0
 have F:=an (@id (Int.toNat 1=1) rfl) (an (@id (Int.toNat 4=4) rfl) (an (@id (bounds 32 (some (.int .i64 1)) (some (.int .i64 4))=some (1,4)) rfl) ((@id (4 - 1=3) rfl))))
 try simp only[GW.c,F,go_sem]
 refine zqL h0 (Dq k _) ?_ (fun x1 h0=>?_)
 try simp only[ahx,ahy,F,go_sem]
 try simp only[F,go_sem]
 obtain⟨x2,eo,h0⟩:=bs h0
 have uq:=Ao.bH fu (Ao.self ga dB) eo
 have nG:=uq.2
 try simp only[AA,Az,go_sem]at nG
 have F:=an (aq eo) (an nG F)
 try simp only[F,go_sem]
 refine Bt F h0 ?_ ?_<;>intro F h0<;>try simp only[F,go_sem]
 refine AF F h0 ?_ ?_<;>intro F h0<;>try simp only[F,go_sem]
 obtain⟨x5,cw,h0⟩:=bs h0
 have xd:=Ao.bH fu (Ao.self ga dB) cw
 have sw:=xd.2
 try simp only[AA,Az,go_sem]at sw
 have F:=an (aq cw) (an sw F)
 try simp only[F,go_sem]
 refine AF F h0 ?_ ?_<;>intro F h0<;>try simp only[F,go_sem]
 refine AF F h0 ?_ ?_<;>intro F h0<;>try simp only[F,go_sem]
 obtain rfl:=oi h0
 refine Ag rfl ?_
 try simp only[F,go_sem]
 obtain rfl:=oi h0
 refine Ag rfl ?_
 try simp only[F,go_sem]
 obtain rfl:=oi h0
 refine Ag rfl ?_
 try simp only[F,go_sem]
 obtain rfl:=oi h0
 refine Ag rfl ?_
 try simp only[F,go_sem]
 obtain⟨x8,jW,h0⟩:=bs h0
 have ab2:=Ao.bH fu (Ao.self ga dB) jW
 have ajL:=ab2.2
 try simp only[AA,Az,go_sem]at ajL
 have F:=an (aq jW) (an ajL F)
 try simp only[F,go_sem]
 refine AF F h0 ?_ ?_<;>intro F h0<;>try simp only[F,go_sem]
 refine AF F h0 ?_ ?_<;>intro F h0<;>try simp only[F,go_sem]
 obtain rfl:=oi h0
 refine Ag rfl ?_
 try simp only[F,go_sem]
 obtain rfl:=oi h0
 refine Ag rfl ?_
 try simp only[F,go_sem]
 obtain rfl:=oi h0
 refine Ag rfl ?_
 try simp only[F,go_sem]
def GX.c:SC:=
 SQ [RG [wA 6 122],RG [wV 7 0 39 [0],wV 8 1 3 [1],oQ 9 (.binOp .mul 3 (.const (.int .i64 301)) (.tmp 8) 3) 3 [8],wV 10 2 3,wK 11 .quo 3 10 2 3 3 [10],wO 12 .add 3 9 11 3 3 [9,11],wV 13 2 3 [2],wK 14 .rem 3 13 2 3 3 [13],wI 15 39 7 12 [7,12],wI 16 139 15 14 [14,15],wD 17 122 16 [16],wS 122 6 17 [17]],.ret]
def Dp (k:Nat) (l0:(List (Aa 2 (Aa 32 Int)))) (aT:Int) (n2:Int):Option ((Aa 32 Int)):=
 (at? l0 (ab ((ab (301*aT))+(ab (Int.tdiv n2 2))))).bind fun x1=>
 (x1.at? (Int.tmod n2 2)).bind fun x2=>
 some x2
theorem Fa (k:Nat) (l0:(List (Aa 2 (Aa 32 Int)))) (aT:Int) (n2:Int) (r:(Aa 32 Int)) (h0:Dp k l0 aT n2=some r):Aw Try.prog 129 [.sl 64 (List.map (Aa.c (n:=2) (Aa.c (n:=32) af)) l0),.int .i64 aT,.int .i64 n2] (fun y=>y=.agg ((Aa.c (n:=32) af) r)):=by
 refine PB Try.f129 GX.c [.cell 6 122] ?_
 simp only[Dp]at h0
 try simp only[GX.c,go_sem]
 obtain⟨x1,iW,h0⟩:=bs h0
 have F:=an (aC iW) (aD (Aa.c (n:=2) (Aa.c (n:=32) af)) iW)
 try simp only[F,go_sem]
 obtain⟨x2,eo,h0⟩:=bs h0
 have uq:=Ao.bH gA (Ao.self fv x1) eo
 have nG:=uq.2
 try simp only[AA,Az,go_sem]at nG
 have F:=an (aq eo) (an nG F)
 try simp only[F,go_sem]
 obtain rfl:=oi h0
 refine Ag rfl ?_
 try simp only[F,go_sem]
def Hv.c:SC:=
 SQ [RG [wE 1 23 0 [0],wB 2 false 4 [2]],RG [wF 3 23 1 0,wD 4 3 3 [3],wC 5 67 #[.tmp 4,.const (.int .i64 0),.const (.int .i64 5)] #[3,3,3] 4 [4],wV 6 5 4 [5],gd 6 true (wF 7 23 1 1 [1]),gd 6 true (wD 8 3 7 [7]),gd 6 true (wC 9 67 #[.tmp 8,.const (.int .i64 0),.const (.int .i64 9999)] #[3,3,3] 4 [8]),wZ 10 6 9 4 [6,9],wG 2 10 4 [10]],.ret]
def Ef (k:Nat) (p0:Entry):Option (Bool):=
 (C6 k p0.Ap 0 5).bind fun x1=>
 bif x1 then
  (C6 k p0.No 0 9999).bind fun x3=>
  some x3
 else
  some false
theorem HF (k:Nat) (p0:Entry) (r:Bool) (h0:Ef k p0=some r):Aw Try.prog 93 [.agg (Entry.c p0)] (fun y=>y=.bool r):=by
 refine PB Try.f93 Hv.c [.tmp 2] ?_
 simp only[Ef]at h0
 try simp only[Hv.c,go_sem]
 refine au h0 (DW k _ _ _) ?_ (fun x1 h0=>?_)<;>try simp only[go_sem]
 refine AS h0 ?_ ?_<;>intro c2 h0<;>have F:=c2<;>try simp only[F,go_sem]
 refine au h0 (DW k _ _ _) ?_ (fun x3 h0=>?_)<;>try simp only[F,go_sem]
 obtain rfl:=oi h0
 refine Ag rfl ?_
 try simp only[F,go_sem]
 obtain rfl:=oi h0
 refine Ag rfl ?_
 try simp only[F,go_sem]
def EO.s0:SC:=
 SQ [SQ [RG [wV 7 3 3,wV 8 0 9,wL 9 8 9 3 [8],wO 10 .lss 3 7 9 3 4 [7,9]],CN 10 .skip (.exit 0)],.block 1 (SQ [RG [wV 13 0 9,wV 14 3 3,oQ 15 (.index 9 (.tmp 13) (.tmp 14)) 5 [13,14],oQ 16 (.binOp .lss 5 (.tmp 15) (.const (.int .u8 32)) 5) 4 [15],wV 17 16 4 [16],gd 17 false (wV 18 0 9),gd 17 false (wV 19 3 3),gd 17 false (oQ 20 (.index 9 (.tmp 18) (.tmp 19)) 5 [18,19]),
 gd 17 false (oQ 21 (.binOp .gtr 5 (.tmp 20) (.const (.int .u8 126)) 5) 4 [20]),wT 22 17 21 4 [17,21]],CN 22 (SQ [RG [wB 2 false 4],.ret]) .skip]),RG [wV 11 3 3 [3],wK 12 .add 3 11 1 3 3 [11],wG 3 12 3 [12]]]
def EO.c:SC:=
 SQ [RG [wB 2 false 4 [2]],SQ [RG [wV 4 0 9,wL 5 4 9 3 [4],wK 6 .gtr 3 5 200 3 4 [5]],CN 6 (SQ [RG [wB 2 false 4],.ret]) .skip],SQ [RG [wN 3 0 3],.block 0 (.loop EO.s0)],RG [wB 2 true 4],.ret]
def Cm.b0 (k:Nat) (s0:ByteArray):Int->Option (AT (Int) (Unit) (Bool)):=fun i2=>
 bif decide (i2<(s0.size:Int)) then
  (sa s0 i2).bind fun i4=>
  bif (!decide (i4<(32:Int))) then
   bif decide ((126:Int)<i4) then
    some (.ret false)
   else
    some (.next (ab (i2+1)))
  else
   some (.ret false)
 else
  some (.brk ())
def Cm.h0 (s0:ByteArray):Int->St:=fun i2=>⟨[(0,.str s0),(3,.int .i64 i2)],[],[],1,Try.f94.ntmps⟩
def Cm.x0:Unit->St:=fun _=>⟨[],[],[],1,Try.f94.ntmps⟩
def Cm (k:Nat) (s0:ByteArray):Option (Bool):=
 bif decide ((200:Int)<(s0.size:Int)) then
  some false
 else
  (aj (Cm.b0 k s0) k 0).bind fun r7=>match r7 with
  |.next _=>none
  |.ret v_=>some v_
  |.brk _=>
   some true
theorem IT (k:Nat) (s0:ByteArray) (r:Bool) (h0:Cm k s0=some r):Aw Try.prog 94 [.str s0] (fun y=>y=.bool r):=by
 refine PB Try.f94 EO.c [.tmp 2] ?_
 simp only[Cm]at h0
 try simp only[EO.c,go_sem]
 refine AS h0 ?_ ?_<;>intro c1 h0<;>have F:=c1<;>try simp only[F,go_sem]
 obtain rfl:=oi h0
 refine Ag rfl ?_
 try simp only[F,go_sem]
 obtain⟨r7,kF,h0⟩:=bs h0
 refine Bf kF (Cm.h0 s0) (Cm.x0) ?_ ?_ ?_
 refine Ah.go [0,3] [] rfl ?_
 try simp only[Cm.h0,F,go_sem]
 rintro i2 cO Bm Bn h1 aJ aH bK
 refine rS ?_
 simp only[Cm.b0]at h1
 try simp only[EO.s0,Cm.h0,F,go_sem]
 refine AF F h1 ?_ ?_<;>intro F h1<;>try simp only[F,go_sem]
 obtain⟨i4,yi4,h1⟩:=bs h1
 have F:=an (aiK yi4) (an (aiJ yi4) F)
 try simp only[F,go_sem]
 refine Bt F h1 ?_ ?_<;>intro F h1<;>try simp only[F,go_sem]
 refine AF F h1 ?_ ?_<;>intro F h1<;>try simp only[F,go_sem]
 obtain rfl:=bK _ (oi h1).symm
 simp only at h0
 obtain rfl:=oi h0
 refine Ag rfl ?_
 try simp only[F,go_sem]
 refine AB (aJ _ _ (oi h1).symm (Ah.go [0,3] [] rfl ?_))
 try simp only[Cm.h0,F,go_sem]
 obtain rfl:=bK _ (oi h1).symm
 simp only at h0
 obtain rfl:=oi h0
 refine Ag rfl ?_
 try simp only[F,go_sem]
 refine AB (aH _ _ (oi h1).symm (Ah.go [] [] rfl ?_))
 try simp only[Cm.x0,F,go_sem]
 rintro _ aK
 subst aK
 simp only at h0
 refine rS ?_
 try simp only[Cm.x0,F,go_sem]
 obtain rfl:=oi h0
 refine Ag rfl ?_
 try simp only[F,go_sem]
def He.c:SC:=
 SQ [RG [wE 1 25 0 [0],wN 2 0 28 [2]],SQ [RG [wF 3 25 1 0,wD 4 23 3 [3],wU 5 93 4 23 4 [4],wQ 6 5 4 [5],wV 7 6 4 [6],gd 7 false (wF 8 25 1 1),gd 7 false (wD 9 3 8 [8]),gd 7 false (wC 10 67 #[.tmp 9,.const (.int .i64 0),.const (.int .i64 40)] #[3,3,3] 4 [9]),gd 7 false (wQ 11 10 4 [10]),wT 12 7 11 4 [7,11],wV 13 12 4 [12],gd 13 false (wF 14 25 1 2),gd 13 false (wD 15 3 14 [14]),
 gd 13 false (wC 16 67 #[.tmp 15,.const (.int .i64 0),.const (.int .i64 100000)] #[3,3,3] 4 [15]),gd 13 false (wQ 17 16 4 [16]),wT 18 13 17 4 [13,17],wV 19 18 4 [18],gd 19 false (wF 20 25 1 3),gd 19 false (wD 21 3 20 [20]),gd 19 false (wC 22 67 #[.tmp 21,.const (.int .i64 0),.const (.int .i64 100000)] #[3,3,3] 4 [21]),gd 19 false (wQ 23 22 4 [22]),wT 24 19 23 4 [19,23],wV 25 24 4 [24],
 gd 25 false (wF 26 25 1 5),gd 25 false (wD 27 9 26 [26]),gd 25 false (wU 28 94 27 9 4 [27]),gd 25 false (wQ 29 28 4 [28]),wT 30 25 29 4 [25,29]],CN 30 (SQ [RG [wN 2 90 28],.ret]) .skip],SQ [RG [wF 31 25 1 1,wD 32 3 31 [31],wK 33 .eql 3 32 0 3 4 [32]],CN 33 (SQ [SQ [RG [wF 34 25 1 2,wD 35 3 34 [34],wK 36 .neq 3 35 0 3 4 [35],wV 37 36 4 [36],gd 37 false (wF 38 25 1 5),gd 37 false (wD 39 9 38 [38]),
 gd 37 false (oQ 40 (.binOp .neq 9 (.tmp 39) (.const (.string ⟨#[]⟩)) 9) 4 [39]),wT 41 37 40 4 [37,40],wV 42 41 4 [41],gd 42 false (wF 43 25 1 4),gd 42 false (wD 44 23 43 [43]),gd 42 false (wU 45 93 44 23 4 [44]),gd 42 false (wQ 46 45 4 [45]),wT 47 42 46 4 [42,46],wV 48 47 4 [47],gd 48 false (wF 49 25 1 4),gd 48 false (wF 50 23 49 0 [49]),gd 48 false (wD 51 3 50 [50]),gd 48 false (wF 52 25 1 0),
 gd 48 false (wF 53 23 52 0 [52]),gd 48 false (wD 54 3 53 [53]),gd 48 false (wO 55 .neq 3 51 54 3 4 [51,54]),wT 56 48 55 4 [48,55],wV 57 56 4 [56],gd 57 false (wF 58 25 1 4),gd 57 false (wF 59 23 58 1 [58]),gd 57 false (wD 60 3 59 [59]),gd 57 false (wF 61 25 1 0 [1]),gd 57 false (wF 62 23 61 1 [61]),gd 57 false (wD 63 3 62 [62]),gd 57 false (wO 64 .geq 3 60 63 3 4 [60,63]),wT 65 57 64 4 [57,64]],
 CN 65 (SQ [RG [wN 2 90 28],.ret]) .skip],RG [wN 2 0 28],.ret]) .skip],SQ [RG [wF 66 25 1 4 [1],wD 67 23 66 [66],oQ 68 (.build 23 #[]) 23,wO 69 .neq 23 67 68 23 4 [67,68]],CN 69 (SQ [RG [wN 2 90 28],.ret]) .skip],RG [wN 2 0 28],.ret]
def Ed (k:Nat) (r0:Ab):Option (Int):=
 (Ef k r0.At).bind fun x1=>
 bif x1 then
  (C6 k r0.Kind 0 40).bind fun x3=>
  bif x3 then
   (C6 k r0.Day 0 100000).bind fun x5=>
   bif x5 then
    (C6 k r0.Bh 0 100000).bind fun x7=>
    bif x7 then
     (Cm k r0.Text).bind fun x9=>
     bif (!x9) then
      some 90
     else
      bif decide (r0.Kind=(0:Int)) then
       bif decide (r0.Day=(0:Int)) then
        bif (r0.Text.toList==ByteArray.empty.toList) then
         (Ef k r0.Of).bind fun bM=>
         bif bM then
          bif decide (r0.Of.Ap=r0.At.Ap) then
           bif decide (r0.At.No<=r0.Of.No) then
            some 90
           else
            some 0
          else
           some 90
         else
          some 90
        else
         some 90
       else
        some 90
      else
       bif (!(decide (r0.Of.Ap=(0:Int))&&decide (r0.Of.No=(0:Int)))) then
        some 90
       else
        some 0
    else
     some 90
   else
    some 90
  else
   some 90
 else
  some 90
theorem HE (k:Nat) (r0:Ab) (r:Int) (h0:Ed k r0=some r):Aw Try.prog 31 [.agg (Ab.c r0)] (fun y=>y=.int .i64 r):=by
 refine PB Try.f31 He.c [.tmp 2] ?_
 simp only[Ed]at h0
 try simp only[He.c,go_sem]
 refine au h0 (HF k _) ?_ (fun x1 h0=>?_)<;>try simp only[go_sem]
 refine AS h0 ?_ ?_<;>intro c2 h0<;>have F:=c2<;>try simp only[F,go_sem]
 refine au h0 (DW k _ _ _) ?_ (fun x3 h0=>?_)<;>try simp only[F,go_sem]
 refine AF F h0 ?_ ?_<;>intro F h0<;>try simp only[F,go_sem]
 refine au h0 (DW k _ _ _) ?_ (fun x5 h0=>?_)<;>try simp only[F,go_sem]
 refine AF F h0 ?_ ?_<;>intro F h0<;>try simp only[F,go_sem]
 refine au h0 (DW k _ _ _) ?_ (fun x7 h0=>?_)<;>try simp only[F,go_sem]
 refine AF F h0 ?_ ?_<;>intro F h0<;>try simp only[F,go_sem]
 refine au h0 (IT k _) ?_ (fun x9 h0=>?_)<;>try simp only[F,go_sem]
 refine Bt F h0 ?_ ?_<;>intro F h0<;>try simp only[F,go_sem]
 obtain rfl:=oi h0
 refine Ag rfl ?_
 try simp only[F,go_sem]
 refine AF F h0 ?_ ?_<;>intro F h0<;>try simp only[F,go_sem]
 refine AF F h0 ?_ ?_<;>intro F h0<;>try simp only[F,go_sem]
 refine AF F h0 ?_ ?_<;>intro F h0<;>try simp only[F,go_sem]
 refine au h0 (HF k _) ?_ (fun bM h0=>?_)<;>try simp only[F,go_sem]
 refine AF F h0 ?_ ?_<;>intro F h0<;>try simp only[F,go_sem]
 refine AF F h0 ?_ ?_<;>intro F h0<;>try simp only[F,go_sem]
 refine AF F h0 ?_ ?_<;>intro F h0<;>try simp only[F,go_sem]
 obtain rfl:=oi h0
 refine Ag rfl ?_
 try simp only[F,go_sem]
 obtain rfl:=oi h0
 refine Ag rfl ?_
 try simp only[F,go_sem]
 obtain rfl:=oi h0
 refine Ag rfl ?_
 try simp only[F,go_sem]
 obtain rfl:=oi h0
 refine Ag rfl ?_
 try simp only[F,go_sem]
 obtain rfl:=oi h0
 refine Ag rfl ?_
 try simp only[F,go_sem]
 obtain rfl:=oi h0
 refine Ag rfl ?_
 try simp only[F,go_sem]
 refine Bt F h0 ?_ ?_<;>intro F h0<;>try simp only[F,go_sem]
 obtain rfl:=oi h0
 refine Ag rfl ?_
 try simp only[F,go_sem]
 obtain rfl:=oi h0
 refine Ag rfl ?_
 try simp only[F,go_sem]
 obtain rfl:=oi h0
 refine Ag rfl ?_
 try simp only[F,go_sem]
 obtain rfl:=oi h0
 refine Ag rfl ?_
 try simp only[F,go_sem]
 obtain rfl:=oi h0
 refine Ag rfl ?_
 try simp only[F,go_sem]
 obtain rfl:=oi h0
 refine Ag rfl ?_
 try simp only[F,go_sem]
def Hc.c:SC:=
 SQ [RG [wA 2 25,wN 3 0 28 [3]],SQ [RG [wV 5 0 56,wL 6 5 56 3 [5],wK 7 .lss 3 6 16 3 4 [6],wV 8 7 4 [7],gd 8 false (wV 9 0 56),gd 8 false (wL 10 9 56 3 [9]),gd 8 false (wV 11 0 56),gd 8 false (wJ 12 56 11 15 [11]),gd 8 false (wD 13 5 12 [12]),gd 8 false (wY 14 5 3 13 3 [13]),gd 8 false (oQ 15 (.binOp .add 3 (.const (.int .i64 16)) (.tmp 14) 3) 3 [14]),gd 8 false (wO 16 .neq 3 10 15 3 4 [10,15]),
 wT 17 8 16 4 [8,16]],CN 17 (SQ [RG [oQ 18 (.build 25 #[]) 25,wS 25 2 18 [18],wN 3 90 28],.ret]) .skip],.aO [wV 19 0 56,oQ 20 (.slice 56 (.tmp 19) none (some (.const (.int .i64 1))) none) 56,wU 21 91 20 56 3,wV 22 0 56,oQ 23 (.slice 56 (.tmp 22) (some (.const (.int .i64 1))) (some (.const (.int .i64 3))) none) 56,wU 24 91 23 56 3,oQ 25 (.build 23 #[(0,.tmp 21),(1,.tmp 24)]) 23,wV 26 0 56,
 oQ 27 (.slice 56 (.tmp 26) (some (.const (.int .i64 3))) (some (.const (.int .i64 4))) none) 56,wU 28 91 27 56 3,wV 29 0 56,oQ 30 (.slice 56 (.tmp 29) (some (.const (.int .i64 4))) (some (.const (.int .i64 8))) none) 56,wU 31 91 30 56 3,wV 32 0 56,oQ 33 (.slice 56 (.tmp 32) (some (.const (.int .i64 8))) (some (.const (.int .i64 12))) none) 56,wU 34 91 33 56 3,wV 35 0 56,
 oQ 36 (.slice 56 (.tmp 35) (some (.const (.int .i64 12))) (some (.const (.int .i64 13))) none) 56,wU 37 91 36 56 3,wV 38 0 56,oQ 39 (.slice 56 (.tmp 38) (some (.const (.int .i64 13))) (some (.const (.int .i64 15))) none) 56,wU 40 91 39 56 3,oQ 41 (.build 23 #[(0,.tmp 37),(1,.tmp 40)]) 23,wV 42 0 56,oQ 43 (.slice 56 (.tmp 42) (some (.const (.int .i64 16))) none none) 56,wY 44 56 9 43 9,
 oQ 45 (.build 25 #[(0,.tmp 25),(1,.tmp 28),(2,.tmp 31),(3,.tmp 34),(4,.tmp 41),(5,.tmp 44)]) 25,wA 4 25,wS 25 4 45] [[],[0],[0,1],[],[3],[3,4,0,1,2],[0,1,2,3,4,5],[],[7],[7,8,3,4,0,1,2,5],[],[10],[10,11,7,8,3,4,0,1,2,5,9],[],[13],[13,14,10,11,7,8,3,4,0,1,2,5,9,12],[],[16],[16,17,13,14,10,11,7,8,3,4,0,1,2,5,9,12,15],[],[19],[19,20,16,17,13,14,10,11,7,8,3,4,0,1,2,5,9,12,15,18],[16,17,13,14,10,11,7,
 8,3,4,0,1,2,5,9,12,15,18,19,20,21],[],[23],[23,24],[0,1,2,3,4,5,6,7,8,9,10,11,12,13,14,15,16,17,18,19,20,21,22,23,24,25],[],[27,0,1,2,3,4,5,6,7,8,9,10,11,12,13,14,15,16,17,18,19,20,21,22,23,24,25,26]] [0,19,20,21,22,23,24,25,26,27,28,29,30,31,32,33,34,35,36,37,38,39,40,41,42,43,44,45],SQ [RG [wD 46 25 4,wU 47 31 46 25 28 [46],wK 48 .neq 28 47 0 28 4 [47]],CN 48 (SQ [RG [oQ 49 (.build 25 #[]) 25,
 wS 25 2 49 [49],wN 3 90 28],.ret]) .skip],RG [wD 50 25 4 [4],wS 25 2 50 [50],wN 3 0 28],.ret]
def Ee (k:Nat) (b0:(List Int)):Option (Ab×Int):=
 bif (!decide ((b0.length:Int)<(16:Int))) then
  (at? b0 15).bind fun x2=>
  bif (!decide ((b0.length:Int)=ab (16+(ab x2)))) then
   some ((⟨(⟨0,0⟩:Entry),0,0,0,(⟨0,0⟩:Entry),ByteArray.empty⟩:Ab),90)
  else
   (bY b0 0 1).bind fun l4=>
   (BJ k l4).bind fun x5=>
   (bY b0 1 3).bind fun l6=>
   (BJ k l6).bind fun x7=>
   (bY b0 3 4).bind fun l8=>
   (BJ k l8).bind fun x9=>
   (bY b0 4 8).bind fun iT=>
   (BJ k iT).bind fun df=>
   (bY b0 8 12).bind fun fF=>
   (BJ k fF).bind fun cF=>
   (bY b0 12 13).bind fun cu=>
   (BJ k cu).bind fun cM=>
   (bY b0 13 15).bind fun zr=>
   (BJ k zr).bind fun iV=>
   (bY b0 16 b0.length).bind fun qk=>
   (Ed k (⟨(⟨x5,x7⟩:Entry),x9,df,cF,(⟨cM,iV⟩:Entry),strOf qk⟩:Ab)).bind fun kD=>
   bif (!decide (kD=(0:Int))) then
    some ((⟨(⟨0,0⟩:Entry),0,0,0,(⟨0,0⟩:Entry),ByteArray.empty⟩:Ab),90)
   else
    some ((⟨(⟨x5,x7⟩:Entry),x9,df,cF,(⟨cM,iV⟩:Entry),strOf qk⟩:Ab),0)
 else
  some ((⟨(⟨0,0⟩:Entry),0,0,0,(⟨0,0⟩:Entry),ByteArray.empty⟩:Ab),90)
theorem IE (k:Nat) (b0:(List Int)) (r:Ab×Int) (h0:Ee k b0=some r):Aw Try.prog 29 [.sl 1 (List.map af b0)] (fun y=>y=.ar [.agg (Ab.c r.1),.int .i64 r.2]):=by
 refine PB Try.f29 Hc.c [.cell 2 25,.tmp 3] ?_
 simp only[Ee]at h0
 try simp only[Hc.c,go_sem]
 refine Cr h0 ?_ ?_<;>intro c1 h0<;>have F:=c1<;>try simp only[F,go_sem]
 obtain⟨x2,eo,h0⟩:=bs h0
 have F:=an (aC eo) (an (aD af eo) F)
 try simp only[F,go_sem]
 refine Bt F h0 ?_ ?_<;>intro F h0<;>try simp only[F,go_sem]
 obtain rfl:=oi h0
 refine Ag rfl ?_
 try simp only[F,go_sem]
 refine AL Ax aS 1000 ?_
 try simp only[F,go_sem]
 obtain⟨l4,yl4,h0⟩:=bs h0
 have agu:=aeF af yl4
 try simp only[go_sem]at agu
 have F:=an agu F
 try simp only[aae yl4,F,go_sem]
 refine cn h0 (Dq k _) ?_ (fun x5 h0=>?_)<;>try simp only[F,go_sem]
 obtain⟨l6,jV,h0⟩:=bs h0
 have re:=qA af jV
 try simp only[go_sem]at re
 have F:=an re F
 try simp only[uj jV,F,go_sem]
 refine cn h0 (Dq k _) ?_ (fun x7 h0=>?_)<;>try simp only[F,go_sem]
 obtain⟨l8,kE,h0⟩:=bs h0
 have nb:=qA af kE
 try simp only[go_sem]at nb
 have F:=an nb F
 try simp only[uj kE,F,go_sem]
 refine cn h0 (Dq k _) ?_ (fun x9 h0=>?_)<;>try simp only[F,go_sem]
 obtain⟨iT,aca,h0⟩:=bs h0
 have agk:=qA af aca
 try simp only[go_sem]at agk
 have F:=an agk F
 try simp only[uj aca,F,go_sem]
 refine cn h0 (Dq k _) ?_ (fun df h0=>?_)<;>try simp only[F,go_sem]
 obtain⟨fF,uz,h0⟩:=bs h0
 have sS:=qA af uz
 try simp only[go_sem]at sS
 have F:=an sS F
 try simp only[uj uz,F,go_sem]
 refine cn h0 (Dq k _) ?_ (fun cF h0=>?_)<;>try simp only[F,go_sem]
 obtain⟨cu,oV,h0⟩:=bs h0
 have xK:=qA af oV
 try simp only[go_sem]at xK
 have F:=an xK F
 try simp only[uj oV,F,go_sem]
 refine cn h0 (Dq k _) ?_ (fun cM h0=>?_)<;>try simp only[F,go_sem]
 obtain⟨zr,acb,h0⟩:=bs h0
 have agl:=qA af acb
 try simp only[go_sem]at agl
 have F:=an agl F
 try simp only[uj acb,F,go_sem]
 refine cn h0 (Dq k _) ?_ (fun iV h0=>?_)<;>try simp only[F,go_sem]
 obtain⟨qk,uA,h0⟩:=bs h0
 have xL:=wR af uA
 try simp only[go_sem]at xL
 have F:=an xL F
 try simp only[sf uA,acG,aiS,F,go_sem]
 refine aF ?_
 try simp only[F,go_sem]
 refine au h0 (HE k _) ?_ (fun kD h0=>?_)<;>try simp only[F,go_sem]
 refine Bt F h0 ?_ ?_<;>intro F h0<;>try simp only[F,go_sem]
 obtain rfl:=oi h0
 refine Ag rfl ?_
 try simp only[F,go_sem]
 obtain rfl:=oi h0
 refine Ag rfl ?_
 try simp only[F,go_sem]
 obtain rfl:=oi h0
 refine Ag rfl ?_
 try simp only[F,go_sem]
def Ht.c:SC:=
 SQ [RG [wE 1 25 0 [0],oQ 2 (.assign (.const (.slice none 0 0))) 56 [2]],RG [wF 4 25 1 0,wF 5 23 4 0 [4],wD 6 3 5 [5],wC 7 116 #[.tmp 6,.const (.int .i64 1)] #[3,3] 56 [6],wG 3 7 56 [7]],RG [wV 8 3 56 [3],wF 9 25 1 0,wF 10 23 9 1 [9],wD 11 3 10 [10],wC 12 116 #[.tmp 11,.const (.int .i64 2)] #[3,3] 56 [11],wP 13 8 12 56 56 56 [8,12],wG 3 13 56 [13]],RG [wV 14 3 56 [3],wF 15 25 1 1,wD 16 3 15 [15],
 wC 17 116 #[.tmp 16,.const (.int .i64 1)] #[3,3] 56 [16],wP 18 14 17 56 56 56 [14,17],wG 3 18 56 [18]],RG [wV 19 3 56 [3],wF 20 25 1 2,wD 21 3 20 [20],wC 22 116 #[.tmp 21,.const (.int .i64 4)] #[3,3] 56 [21],wP 23 19 22 56 56 56 [19,22],wG 3 23 56 [23]],RG [wV 24 3 56 [3],wF 25 25 1 3,wD 26 3 25 [25],wC 27 116 #[.tmp 26,.const (.int .i64 4)] #[3,3] 56 [26],wP 28 24 27 56 56 56 [24,27],
 wG 3 28 56 [28]],RG [wV 29 3 56 [3],wF 30 25 1 4,wF 31 23 30 0 [30],wD 32 3 31 [31],wC 33 116 #[.tmp 32,.const (.int .i64 1)] #[3,3] 56 [32],wP 34 29 33 56 56 56 [29,33],wG 3 34 56 [34]],RG [wV 35 3 56 [3],wF 36 25 1 4,wF 37 23 36 1 [36],wD 38 3 37 [37],wC 39 116 #[.tmp 38,.const (.int .i64 2)] #[3,3] 56 [38],wP 40 35 39 56 56 56 [35,39],wG 3 40 56 [40]],RG [wV 41 3 56 [3],wF 42 25 1 5,
 wD 43 9 42 [42],wL 44 43 9 3 [43],wC 45 116 #[.tmp 44,.const (.int .i64 1)] #[3,3] 56 [44],wP 46 41 45 56 56 56 [41,45],wG 3 46 56 [46]],RG [wV 47 3 56 [3],wF 48 25 1 5 [1],wD 49 9 48 [48],wY 50 9 56 49 56 [49],wP 51 47 50 56 56 56 [47,50],wG 2 51 56 [51]],.ret]
def E6 (k:Nat) (r0:Ab):Option ((List Int)):=
 (BT k r0.At.Ap 1).bind fun x2=>
 (BT k r0.At.No 2).bind fun x4=>
 (dM 1 x2 x4).bind fun l5=>
 (BT k r0.Kind 1).bind fun x7=>
 (dM 1 l5 x7).bind fun l8=>
 (BT k r0.Day 4).bind fun cE=>
 (dM 1 l8 cE).bind fun gq=>
 (BT k r0.Bh 4).bind fun cF=>
 (dM 1 gq cF).bind fun cu=>
 (BT k r0.Of.Ap 1).bind fun dx=>
 (dM 1 cu dx).bind fun rI=>
 (BT k r0.Of.No 2).bind fun kD=>
 (dM 1 rI kD).bind fun rJ=>
 (BT k (r0.Text.size:Int) 1).bind fun uy=>
 (dM 1 rJ uy).bind fun rK=>
 (aad r0.Text).bind fun _=>
 (dM 1 rK (ib r0.Text)).bind fun zu=>
 some zu
theorem IP (k:Nat) (r0:Ab) (r:(List Int)) (h0:E6 k r0=some r):Aw Try.prog 89 [.agg (Ab.c r0)] (fun y=>y=.sl 1 (List.map af r)):=by
 refine PB Try.f89 Ht.c [.tmp 2] ?_
 simp only[E6]at h0
 try simp only[Ht.c,go_sem]
 obtain⟨x2,eo,h0⟩:=bs h0
 refine CG Ax 1000 [] [] (DC k _ _ _ eo) ?_ rfl ?_
 try simp only[fN,Bg,go_sem]
 try simp only[go_sem]
 obtain⟨x4,bN,h0⟩:=bs h0
 refine CG Ax 1000 [] [] (DC k _ _ _ bN) ?_ rfl ?_
 try simp only[fN,Bg,go_sem]
 try simp only[go_sem]
 obtain⟨l5,yl5,h0⟩:=bs h0
 have aar:=gT af yl5
 try simp only[go_sem]at aar
 have F:=aar
 try simp only[F,go_sem]
 obtain⟨x7,e9,h0⟩:=bs h0
 refine CG Ax 1000 [] [] (DC k _ _ _ e9) ?_ rfl ?_
 try simp only[fN,Bg,F,go_sem]
 try simp only[F,go_sem]
 obtain⟨l8,kE,h0⟩:=bs h0
 have ajX:=gT af kE
 try simp only[F,go_sem]at ajX
 have F:=an ajX F
 try simp only[F,go_sem]
 obtain⟨cE,mW,h0⟩:=bs h0
 refine CG Ax 1000 [] [] (DC k _ _ _ mW) ?_ rfl ?_
 try simp only[fN,Bg,F,go_sem]
 try simp only[F,go_sem]
 obtain⟨gq,nL,h0⟩:=bs h0
 have aao:=gT af nL
 try simp only[F,go_sem]at aao
 have F:=an aao F
 try simp only[F,go_sem]
 obtain⟨cF,qN,h0⟩:=bs h0
 refine CG Ax 1000 [] [] (DC k _ _ _ qN) ?_ rfl ?_
 try simp only[fN,Bg,F,go_sem]
 try simp only[F,go_sem]
 obtain⟨cu,oV,h0⟩:=bs h0
 have aap:=gT af oV
 try simp only[F,go_sem]at aap
 have F:=an aap F
 try simp only[F,go_sem]
 obtain⟨dx,oY,h0⟩:=bs h0
 refine CG Ax 1000 [] [] (DC k _ _ _ oY) ?_ rfl ?_
 try simp only[fN,Bg,F,go_sem]
 try simp only[F,go_sem]
 obtain⟨rI,aau,h0⟩:=bs h0
 have sA:=gT af aau
 try simp only[F,go_sem]at sA
 have F:=an sA F
 try simp only[F,go_sem]
 obtain⟨kD,o8,h0⟩:=bs h0
 refine CG Ax 1000 [] [] (DC k _ _ _ o8) ?_ rfl ?_
 try simp only[fN,Bg,F,go_sem]
 try simp only[F,go_sem]
 obtain⟨rJ,aav,h0⟩:=bs h0
 have sB:=gT af aav
 try simp only[F,go_sem]at sB
 have F:=an sB F
 try simp only[F,go_sem]
 obtain⟨uy,ace,h0⟩:=bs h0
 refine CG Ax 1000 [] [] (DC k _ _ _ ace) ?_ rfl ?_
 try simp only[fN,Bg,F,go_sem]
 try simp only[F,go_sem]
 obtain⟨rK,uB,h0⟩:=bs h0
 have aaq:=gT af uB
 try simp only[F,go_sem]at aaq
 have F:=an aaq F
 try simp only[F,go_sem]
 obtain⟨u24,arq,h0⟩:=bs h0
 have F:=an aeE F
 try simp only[aqv arq,F,go_sem]
 obtain⟨zu,aaw,h0⟩:=bs h0
 have ajU:=gT af aaw
 try simp only[F,go_sem]at ajU
 have F:=an ajU F
 try simp only[F,go_sem]
 obtain rfl:=oi h0
 refine Ag rfl ?_
 try simp only[F,go_sem]
def EE.s0:SC:=
 SQ [SQ [RG [wV 20 10 3,wV 21 8 3,wO 22 .lss 3 20 21 3 4 [20,21]],CN 22 .skip (.exit 0)],.block 1 (SQ [RG [oQ 25 (.buildSlice 56 1 #[(0,.const (.int .u8 112))]) 56,wG 11 25 56 [25]],RG [wV 26 11 56 [11],wV 27 2 3,wC 28 116 #[.tmp 27,.const (.int .i64 3)] #[3,3] 56 [27],wP 29 26 28 56 56 56 [26,28],wG 11 29 56 [29]],RG [wV 30 11 56 [11],wV 31 1 3,wC 32 116 #[.tmp 31,.const (.int .i64 2)] #[3,
 3] 56 [31],wP 33 30 32 56 56 56 [30,32],wG 11 33 56 [33]],RG [wV 34 11 56 [11],wV 35 10 3,wY 36 3 5 35 5 [35],wV 37 8 3,wY 38 3 5 37 5 [37],oQ 39 (.buildSlice 56 2 #[(0,.tmp 36),(1,.tmp 38)]) 56 [36,38],wP 40 34 39 56 56 56 [34,39],wG 11 40 56 [40]],RG [oQ 41 (.makeSlice 56 (.const (.int .i64 23)) (.const (.int .i64 23))) 56,wG 12 41 56 [41]],RG [wV 42 12 56,wV 43 7 56,wV 44 10 3,
 oQ 45 (.binOp .mul 3 (.const (.int .i64 23)) (.tmp 44) 3) 3 [44],oQ 46 (.slice 56 (.tmp 43) (some (.tmp 45)) none none) 56 [43,45],oQ 47 (.call ⟨.builtin .copy,#[.tmp 42,.tmp 46],#[56,56]⟩) 3 [42,46,47]],RG [wV 48 11 56 [11],wV 49 12 56 [12],wP 50 48 49 56 56 56 [48,49],oQ 51 (.buildSlice 56 1 #[(0,.const (.int .u8 165))]) 56,wP 52 50 51 56 56 56 [50,51],wG 11 52 56 [52]],RG [wV 53 9 27 [9],
 wV 54 11 56 [11],oQ 55 (.sliceToArrayPointer 122 (.tmp 54)) 0 [54],wD 56 122 55 [55],oQ 57 (.buildSlice 27 1 #[(0,.tmp 56)]) 27 [56],wP 58 53 57 27 27 27 [53,57],wG 9 58 27 [58]]]),RG [wV 23 10 3 [10],wK 24 .add 3 23 1 3 3 [23],wG 10 24 3 [24]]]
def EE.c:SC:=
 SQ [RG [wE 3 25 0 [0],oQ 6 (.assign (.const (.slice none 0 0))) 27 [6]],RG [wD 13 25 3 [3],wU 14 89 13 25 56 [13],wG 7 14 56 [14]],RG [wV 15 7 56,wL 16 15 56 3 [15],wK 17 .add 3 16 23 3 3 [16],wK 18 .sub 3 17 1 3 3 [17],wK 19 .quo 3 18 23 3 3 [18],wG 8 19 3 [19]],RG [oQ 9 (.assign (.const (.slice none 0 0))) 27],SQ [RG [wN 10 0 3],.block 0 (.loop EE.s0)],RG [wV 59 9 27 [9],wG 6 59 27 [59]],.ret]
def Ch.b0 (k:Nat) (k1:Int) (fk:Int) (x1:(List Int)):(Int×(List (Aa 32 Int)))->Option (AT (Int×(List (Aa 32 Int))) ((List (Aa 32 Int))) ((List (Aa 32 Int)))):=fun s=>match s with
 |(i2,l3)=>
   bif decide (i2<ab (Int.tdiv (ab ((ab ((x1.length:Int)+23)) - 1)) 23)) then
    (Cc k fk 3).bind fun x6=>
    (dM 1 [112] x6).bind fun l7=>
    (Cc k k1 2).bind fun x8=>
    (dM 1 l7 x8).bind fun l9=>
    (dM 1 l9 [IntKind.u8.wrap i2,IntKind.u8.wrap (ab (Int.tdiv (ab ((ab ((x1.length:Int)+23)) - 1)) 23))]).bind fun iT=>
    (ma 23 1 (0:Int)).bind fun gq=>
    (bY x1 (ab (23*i2)) x1.length).bind fun fF=>
    (dM 1 iT (mr gq 0 23 fF)).bind fun cu=>
    (fG 1 cu 165).bind fun qj=>
    (Aa.ny 32 qj).bind fun v16=>
    (fG 32 l3 v16).bind fun rI=>
    some (.next (ab (i2+1),rI))
   else
    some (.brk l3)
def Ch.h0 (k1:Int) (fk:Int) (x1:(List Int)):(Int×(List (Aa 32 Int)))->St:=fun s=>match s with
 |(i2,l3)=>⟨[(1,.int .i64 k1),(2,.int .i64 fk),(7,.sl 1 (List.map af x1)),(8,.int .i64 (ab (Int.tdiv (ab ((ab ((x1.length:Int)+23)) - 1)) 23))),(9,.loc 0 0 32 0 l3.length l3.length),(10,.int .i64 i2)],[(0,.arr 122 32 (List.map (Aa.c (n:=32) af) l3))],[],1,Try.f68.ntmps⟩
def Ch.x0:(List (Aa 32 Int))->St:=fun l4=>⟨[(9,.loc 0 0 32 0 l4.length l4.length)],[(0,.arr 122 32 (List.map (Aa.c (n:=32) af) l4))],[],1,Try.f68.ntmps⟩
def Ch (k:Nat) (r0:Ab) (k1:Int) (fk:Int):Option ((List (Aa 32 Int))):=
 (E6 k r0).bind fun x1=>
 (aj (Ch.b0 k k1 fk x1) k (0,[])).bind fun zY=>match zY with
 |.next _=>none
 |.ret v_=>some v_
 |.brk l4=>
  some l4
theorem FO (k:Nat) (r0:Ab) (k1:Int) (fk:Int) (r:(List (Aa 32 Int))) (h0:Ch k r0 k1 fk=some r):Aw Try.prog 68 [.agg (Ab.c r0),.int .i64 k1,.int .i64 fk] (fun y=>y=.sl 32 (List.map (Aa.c (n:=32) af) r)):=by
 refine PB Try.f68 EE.c [.tmp 6] ?_
 simp only[Ch]at h0
 try simp only[EE.c,go_sem]
 refine au h0 (IP k _) ?_ (fun x1 h0=>?_)<;>try simp only[go_sem]
 obtain⟨zY,aeY,h0⟩:=bs h0
 refine Bf aeY (Ch.h0 k1 fk x1) (Ch.x0) ?_ ?_ ?_
 refine Ah.go [1,2,7,8,9,10] [176] rfl ?_
 try simp only[Ch.h0,go_sem]
 rintro⟨i2,l3⟩ cO Bm Bn h1 aJ aH bK
 refine rS ?_
 simp only[Ch.b0]at h1
 try simp only[EE.s0,Ch.h0,go_sem]
 refine AS h1 ?_ ?_<;>intro c5 h1<;>have F:=c5<;>try simp only[F,go_sem]
 refine au h1 (Fv k _ _) ?_ (fun x6 h1=>?_)<;>try simp only[F,go_sem]
 obtain⟨l7,yl7,h1⟩:=bs h1
 have ajW:=gT af yl7
 try simp only[F,go_sem]at ajW
 have F:=an ajW F
 try simp only[F,go_sem]
 refine au h1 (Fv k _ _) ?_ (fun x8 h1=>?_)<;>try simp only[F,go_sem]
 obtain⟨l9,yl9,h1⟩:=bs h1
 have ajY:=gT af yl9
 try simp only[F,go_sem]at ajY
 have F:=an ajY F
 try simp only[F,go_sem]
 obtain⟨iT,aca,h1⟩:=bs h1
 have ajM:=gT af aca
 try simp only[F,go_sem]at ajM
 have F:=an ajM F
 try simp only[F,go_sem]
 obtain⟨gq,nL,h1⟩:=bs h1
 obtain⟨_,aoy⟩:=ad6 nL
 have aa6:List.replicate 23 ([.int .u8 0])=List.map af gq:=ad5 af nL
 have ao2:gq.length=23:=ad4 nL
 have aqH:List.take 23 (List.map af gq)=List.map af gq:=ad7 af nL
 have F:=an aa6 (an ao2 (an aqH (an (@id (Int.toNat 23=23) rfl) F)))
 try simp only[ad2 aoy,F,go_sem]
 obtain⟨fF,uz,h1⟩:=bs h1
 have sS:=wR af uz
 try simp only[go_sem]at sS
 have zW:=alY af gq 0 23 fF
 have ahN:(mr gq 0 23 fF).length=23:=by rw[af1]<;>simp only[sS,F,go_sem]
 try simp only[sS,F,go_sem]at zW
 have aqC:List.take 23 (List.map af (mr gq 0 23 fF))=List.map af (mr gq 0 23 fF):=CB (by rw[Bg,ahN]<;>exact Bd _)
 have F:=an sS (an ahN (an aqC F))
 try simp only[sf uz,zW,F,go_sem]
 obtain⟨cu,oV,h1⟩:=bs h1
 have aap:=gT af oV
 try simp only[F,go_sem]at aap
 have F:=an aap F
 try simp only[F,go_sem]
 obtain⟨qj,aq9,h1⟩:=bs h1
 have ajO:=pu af aq9
 try simp only[F,go_sem]at ajO
 have F:=an ajO F
 try simp only[F,go_sem]
 obtain⟨v16,ae1,h1⟩:=bs h1
 have ajZ:=ab4 ae1
 try simp only[F,go_sem]at ajZ
 have F:=an ajZ (an (ajo (E:=af) ae1) (an (ajn (E:=af) ae1) F))
 try simp only[F,go_sem]
 obtain⟨rI,aau,h1⟩:=bs h1
 have sA:=pu (Aa.c (n:=32) af) aau
 try simp only[F,go_sem]at sA
 have F:=an sA F
 try simp only[F,go_sem]
 refine AB (aJ _ _ (oi h1).symm (Ah.go [1,2,7,8,9,10] [0] rfl ?_))
 try simp only[Ch.h0,F,go_sem]
 refine AB (aH _ _ (oi h1).symm (Ah.go [9] [0] rfl ?_))
 try simp only[Ch.x0,F,go_sem]
 rintro l4 aK
 subst aK
 simp only at h0
 refine rS ?_
 try simp only[Ch.x0,go_sem]
 obtain rfl:=oi h0
 refine Ag rfl ?_
 try simp only[go_sem]
def Dr.s1:SC:=
 SQ [SQ [RG [wV 106 20 3,wV 107 13 3,wO 108 .lss 3 106 107 3 4 [106,107]],CN 108 .skip (.exit 2)],.block 3 (SQ [.aO [wV 111 0 39,wV 112 1 3,wV 113 2 3,wV 114 20 3,wO 115 .add 3 113 114 3 3,wC 116 129 #[.tmp 111,.tmp 112,.tmp 115] #[39,3,3] 122,wV 117 19 27,wV 118 20 3,wI 119 27 117 118,wD 120 122 119,wO 121 .neq 122 116 120 122 4] [[],[],[],[],[2,3],[0,1,2,3,4],[],[],[6,7],[6,7,8],[0,1,2,3,4,5,6,
 7,8,9]] [111,112,113,114,115,116,117,118,119,120],CN 121 (SQ [RG [oQ 122 (.build 25 #[]) 25,wS 25 8 122 [122],wN 9 0 3,wN 10 0 3,wB 11 false 4],.ret]) .skip]),RG [wV 109 20 3 [20],wK 110 .add 3 109 1 3 3 [109],wG 20 110 3 [110]]]
def Dr.s0:SC:=
 SQ [SQ [RG [wV 55 16 3,wV 56 13 3,wO 57 .lss 3 55 56 3 4 [55,56]],CN 57 .skip (.exit 0)],.block 1 (SQ [RG [wV 60 0 39,wV 61 1 3,wV 62 2 3,wV 63 16 3,wO 64 .add 3 62 63 3 3 [62,63],wC 65 129 #[.tmp 60,.tmp 61,.tmp 64] #[39,3,3] 122 [60,61,64],wS 122 12 65 [65]],RG [wV 66 15 56 [15],oQ 67 (.slice 122 (.tmp 12) (some (.const (.int .i64 8))) (some (.const (.int .i64 31))) none) 56,
 wP 68 66 67 56 56 56 [66,67],wG 15 68 56 [68]]]),RG [wV 58 16 3 [16],wK 59 .add 3 58 1 3 3 [58],wG 16 59 3 [59]]]
def Dr.c:SC:=
 SQ [RG [wA 8 25,wN 9 0 3 [9],wN 10 0 3 [10],wB 11 false 4 [11]],SQ [RG [wV 21 2 3,wK 22 .geq 3 21 602 3 4 [21],wV 23 22 4 [22],gd 23 false (wV 24 3 3),gd 23 false (wK 25 .geq 3 24 60 3 4 [24]),wT 26 23 25 4 [23,25]],CN 26 (SQ [RG [oQ 27 (.build 25 #[]) 25,wS 25 8 27 [27],wN 9 0 3,wN 10 0 3,wB 11 false 4],.ret]) .skip],RG [wV 28 0 39,wV 29 1 3,wV 30 2 3,wC 31 129 #[.tmp 28,.tmp 29,.tmp 30] #[39,3,
 3] 122 [28,29,30],wA 12 122,wS 122 12 31 [31]],RG [wJ 32 122 12 7,wD 33 5 32 [32],wY 34 5 3 33 3 [33],wG 13 34 3 [34]],RG [wD 35 122 12,wU 36 128 35 122 3 [35],wG 14 36 3 [36]],SQ [RG [wJ 37 122 12 0,wD 38 5 37 [37],oQ 39 (.binOp .neq 5 (.tmp 38) (.const (.int .u8 112)) 5) 4 [38],wV 40 39 4 [39],gd 40 false (wV 41 14 3),gd 40 false (wK 42 .eql 3 41 0 3 4 [41]),wT 43 40 42 4 [40,42],
 wV 44 43 4 [43],gd 44 false (wV 45 13 3),gd 44 false (wK 46 .eql 3 45 0 3 4 [45]),wT 47 44 46 4 [44,46],wV 48 47 4 [47],gd 48 false (wV 49 2 3),gd 48 false (wV 50 13 3),gd 48 false (wO 51 .add 3 49 50 3 3 [49,50]),gd 48 false (wK 52 .gtr 3 51 602 3 4 [51]),wT 53 48 52 4 [48,52]],CN 53 (SQ [RG [oQ 54 (.build 25 #[]) 25,wS 25 8 54 [54],wN 9 0 3,wN 10 0 3,wB 11 false 4],.ret]) .skip],
 RG [oQ 15 (.assign (.const (.slice none 0 0))) 56],SQ [RG [wN 16 0 3],.block 0 (.loop Dr.s0)],SQ [RG [wV 69 15 56,wL 70 69 56 3 [69],wK 71 .lss 3 70 16 3 4 [70],wV 72 71 4 [71],gd 72 false (wV 73 15 56),gd 72 false (wL 74 73 56 3 [73]),gd 72 false (wV 75 15 56),gd 72 false (wJ 76 56 75 15 [75]),gd 72 false (wD 77 5 76 [76]),gd 72 false (wY 78 5 3 77 3 [77]),
 gd 72 false (oQ 79 (.binOp .add 3 (.const (.int .i64 16)) (.tmp 78) 3) 3 [78]),gd 72 false (wO 80 .lss 3 74 79 3 4 [74,79]),wT 81 72 80 4 [72,80]],CN 81 (SQ [RG [oQ 82 (.build 25 #[]) 25,wS 25 8 82 [82],wN 9 0 3,wN 10 0 3,wB 11 false 4],.ret]) .skip],RG [wV 84 15 56,wV 85 15 56 [15],wJ 86 56 85 15 [85],wD 87 5 86 [86],wY 88 5 3 87 3 [87],
 oQ 89 (.binOp .add 3 (.const (.int .i64 16)) (.tmp 88) 3) 3 [88],oQ 90 (.slice 56 (.tmp 84) none (some (.tmp 89)) none) 56 [84,89],wU 91 29 90 56 59 [90],wV 83 91 59 [91],wX 92 83 0 25,wX 93 83 1 28 [83],wA 17 25,wS 25 17 92 [92],wG 18 93 28 [93]],SQ [RG [wV 94 18 28 [18],wK 95 .neq 28 94 0 28 4 [94]],CN 95 (SQ [RG [oQ 96 (.build 25 #[]) 25,wS 25 8 96 [96],wN 9 0 3,wN 10 0 3,wB 11 false 4],
 .ret]) .skip],RG [wD 97 25 17,wV 98 3 3 [3],wV 99 14 3,wC 100 68 #[.tmp 97,.tmp 98,.tmp 99] #[25,3,3] 27 [97,98,99],wG 19 100 27 [100]],SQ [RG [wV 101 19 27,wL 102 101 27 3 [101],wV 103 13 3,wO 104 .neq 3 102 103 3 4 [102,103]],CN 104 (SQ [RG [oQ 105 (.build 25 #[]) 25,wS 25 8 105 [105],wN 9 0 3,wN 10 0 3,wB 11 false 4],.ret]) .skip],SQ [RG [wN 20 0 3],.block 2 (.loop Dr.s1)],
 RG [wD 123 25 17 [17],wV 124 13 3 [13],wV 125 14 3 [14],wS 25 8 123 [123],wG 9 124 3 [124],wG 10 125 3 [125],wB 11 true 4],.ret]
def Bw.b0 (k:Nat) (l0:(List (Aa 2 (Aa 32 Int)))) (a1:Int) (gB:Int) (x4:Int):((Aa 32 Int)×Int×(List Int))->Option (AT ((Aa 32 Int)×Int×(List Int)) ((List Int)) (Ab×Int×Int×Bool)):=fun s=>match s with
 |(s11,i12,jM)=>
   bif decide (i12<ab x4) then
    (Dp k l0 a1 (ab (gB+i12))).bind fun dx=>
    (dM 1 jM ((dx.l.drop 8).take 23)).bind fun rI=>
    some (.next (dx,ab (i12+1),rI))
   else
    some (.brk jM)
def Bw.b1 (k:Nat) (l0:(List (Aa 2 (Aa 32 Int)))) (a1:Int) (gB:Int) (x4:Int) (mV:(List (Aa 32 Int))):Int->Option (AT (Int) (Unit) (Ab×Int×Int×Bool)):=fun i27=>
 bif decide (i27<ab x4) then
  (Dp k l0 a1 (ab (gB+i27))).bind fun x29=>
  (at? mV i27).bind fun x30=>
  bif (!(Aa.eq (fun(x y:Int)=>decide (x=y)) x29 x30)) then
   some (.ret ((⟨(⟨0,0⟩:Entry),0,0,0,(⟨0,0⟩:Entry),ByteArray.empty⟩:Ab),0,0,false))
  else
   some (.next (ab (i27+1)))
 else
  some (.brk ())
def Bw.h0 (l0:(List (Aa 2 (Aa 32 Int)))) (a1:Int) (gB:Int) (k3:Int) (x4:Int) (x5:Int):((Aa 32 Int)×Int×(List Int))->St:=fun s=>match s with
 |(s11,i12,jM)=>⟨[(0,.sl 64 (List.map (Aa.c (n:=2) (Aa.c (n:=32) af)) l0)),(1,.int .i64 a1),(2,.int .i64 gB),(3,.int .i64 k3),(8,.ptr 0 0 0),(12,.ptr 0 1 0),(13,.int .i64 (ab x4)),(14,.int .i64 x5),(15,.loc 0 2 1 0 jM.length jM.length),(16,.int .i64 i12)],[(0,.box ([.int .i64 0,.int .i64 0,.int .i64 0,.int .i64 0,.int .i64 0,.int .i64 0,.int .i64 0,.str ByteArray.empty])),(1,.box (Aa.c (n:=32) af s11)),(2,.arr 5 1 (List.map af jM))],[],3,Try.f148.ntmps⟩
def Bw.x0 (l0:(List (Aa 2 (Aa 32 Int)))) (a1:Int) (gB:Int) (k3:Int) (x4:Int) (x5:Int):(List Int)->St:=fun cu=>⟨[(0,.sl 64 (List.map (Aa.c (n:=2) (Aa.c (n:=32) af)) l0)),(1,.int .i64 a1),(2,.int .i64 gB),(3,.int .i64 k3),(8,.ptr 0 0 0),(13,.int .i64 (ab x4)),(14,.int .i64 x5),(15,.loc 0 1 1 0 cu.length cu.length)],[(0,.box ([.int .i64 0,.int .i64 0,.int .i64 0,.int .i64 0,.int .i64 0,.int .i64 0,.int .i64 0,.str ByteArray.empty])),(1,.arr 5 1 (List.map af cu))],[],2,Try.f148.ntmps⟩
def Bw.h1 (l0:(List (Aa 2 (Aa 32 Int)))) (a1:Int) (gB:Int) (x4:Int) (x5:Int) (eJ:Ab×Int) (mV:(List (Aa 32 Int))):Int->St:=fun i27=>⟨[(0,.sl 64 (List.map (Aa.c (n:=2) (Aa.c (n:=32) af)) l0)),(1,.int .i64 a1),(2,.int .i64 gB),(8,.ptr 0 0 0),(13,.int .i64 (ab x4)),(14,.int .i64 x5),(17,.ptr 0 1 0),(19,.sl 32 (List.map (Aa.c (n:=32) af) mV)),(20,.int .i64 i27)],[(0,.box ([.int .i64 0,.int .i64 0,.int .i64 0,.int .i64 0,.int .i64 0,.int .i64 0,.int .i64 0,.str ByteArray.empty])),(1,.box ([.int .i64 eJ.1.At.Ap,.int .i64 eJ.1.At.No,.int .i64 eJ.1.Kind,.int .i64 eJ.1.Day,.int .i64 eJ.1.Bh,.int .i64 eJ.1.Of.Ap,.int .i64 eJ.1.Of.No,.str eJ.1.Text]))],[],2,Try.f148.ntmps⟩
def Bw.x1 (x4:Int) (x5:Int) (eJ:Ab×Int):Unit->St:=fun _=>⟨[(8,.ptr 0 0 0),(13,.int .i64 (ab x4)),(14,.int .i64 x5),(17,.ptr 0 1 0)],[(0,.box ([.int .i64 0,.int .i64 0,.int .i64 0,.int .i64 0,.int .i64 0,.int .i64 0,.int .i64 0,.str ByteArray.empty])),(1,.box ([.int .i64 eJ.1.At.Ap,.int .i64 eJ.1.At.No,.int .i64 eJ.1.Kind,.int .i64 eJ.1.Day,.int .i64 eJ.1.Bh,.int .i64 eJ.1.Of.Ap,.int .i64 eJ.1.Of.No,.str eJ.1.Text]))],[],2,Try.f148.ntmps⟩
def Bw (k:Nat) (l0:(List (Aa 2 (Aa 32 Int)))) (a1:Int) (gB:Int) (k3:Int):Option (Ab×Int×Int×Bool):=
 bif (!decide ((602:Int)<=gB)) then
  bif decide ((60:Int)<=k3) then
   some ((⟨(⟨0,0⟩:Entry),0,0,0,(⟨0,0⟩:Entry),ByteArray.empty⟩:Ab),0,0,false)
  else
   (Dp k l0 a1 gB).bind fun x3=>
   (x3.at? 7).bind fun x4=>
   (DU k x3).bind fun x5=>
   (x3.at? 0).bind fun x6=>
   bif decide (x6=(112:Int)) then
    bif (!decide (x5=(0:Int))) then
     bif (!decide (ab x4=(0:Int))) then
      bif decide ((602:Int)<ab (gB+(ab x4))) then
       some ((⟨(⟨0,0⟩:Entry),0,0,0,(⟨0,0⟩:Entry),ByteArray.empty⟩:Ab),0,0,false)
      else
       (aj (Bw.b0 k l0 a1 gB x4) k (x3,0,[])).bind fun zY=>match zY with
       |.next _=>none
       |.ret v_=>some v_
       |.brk cu=>
        bif (!decide (((cu.length:Nat):Int)<(16:Int))) then
         (at? cu 15).bind fun fh=>
         bif decide (((cu.length:Nat):Int)<ab (16+(ab fh))) then
          some ((⟨(⟨0,0⟩:Entry),0,0,0,(⟨0,0⟩:Entry),ByteArray.empty⟩:Ab),0,0,false)
         else
          (nq cu.length (ab (16+(ab fh)))).bind fun _=>
          (Ee k (cu.take ((ab (16+(ab fh))).toNat))).bind fun eJ=>
          bif (!decide (eJ.2=(0:Int))) then
           some ((⟨(⟨0,0⟩:Entry),0,0,0,(⟨0,0⟩:Entry),ByteArray.empty⟩:Ab),0,0,false)
          else
           (Ch k eJ.1 k3 x5).bind fun mV=>
           bif (!decide ((mV.length:Int)=ab x4)) then
            some ((⟨(⟨0,0⟩:Entry),0,0,0,(⟨0,0⟩:Entry),ByteArray.empty⟩:Ab),0,0,false)
           else
            (aj (Bw.b1 k l0 a1 gB x4 mV) k 0).bind fun r32=>match r32 with
            |.next _=>none
            |.ret v_=>some v_
            |.brk _=>
             some (eJ.1,ab x4,x5,true)
        else
         some ((⟨(⟨0,0⟩:Entry),0,0,0,(⟨0,0⟩:Entry),ByteArray.empty⟩:Ab),0,0,false)
     else
      some ((⟨(⟨0,0⟩:Entry),0,0,0,(⟨0,0⟩:Entry),ByteArray.empty⟩:Ab),0,0,false)
    else
     some ((⟨(⟨0,0⟩:Entry),0,0,0,(⟨0,0⟩:Entry),ByteArray.empty⟩:Ab),0,0,false)
   else
    some ((⟨(⟨0,0⟩:Entry),0,0,0,(⟨0,0⟩:Entry),ByteArray.empty⟩:Ab),0,0,false)
 else
  some ((⟨(⟨0,0⟩:Entry),0,0,0,(⟨0,0⟩:Entry),ByteArray.empty⟩:Ab),0,0,false)
theorem IU (k:Nat) (l0:(List (Aa 2 (Aa 32 Int)))) (a1:Int) (gB:Int) (k3:Int) (r:Ab×Int×Int×Bool) (h0:Bw k l0 a1 gB k3=some r):Aw Try.prog 148 [.sl 64 (List.map (Aa.c (n:=2) (Aa.c (n:=32) af)) l0),.int .i64 a1,.int .i64 gB,.int .i64 k3] (fun y=>y=.ar [.agg (Ab.c r.1),.int .i64 r.2.1,.int .i64 r.2.2.1,.bool r.2.2.2]):=by
 refine PB Try.f148 Dr.c [.cell 8 25,.tmp 9,.tmp 10,.tmp 11] ?_
 simp only[Bw]at h0
 try simp only[Dr.c,go_sem]
 refine Cr h0 ?_ ?_<;>intro c1 h0<;>have F:=c1<;>try simp only[F,go_sem]
 refine AF F h0 ?_ ?_<;>intro F h0<;>try simp only[F,go_sem]
 obtain rfl:=oi h0
 refine Ag rfl ?_
 try simp only[F,go_sem]
 refine au h0 (Fa k _ _ _) ?_ (fun x3 h0=>?_)<;>try simp only[F,go_sem]
 obtain⟨x4,bN,h0⟩:=bs h0
 have iC:=Ao.bH fu (Ao.self ga x3) bN
 have jw:=iC.2
 try simp only[AA,Az,go_sem]at jw
 have F:=an (aq bN) (an jw F)
 try simp only[F,go_sem]
 refine au h0 (FK k _) ?_ (fun x5 h0=>?_)<;>try simp only[F,go_sem]
 obtain⟨x6,dQ,h0⟩:=bs h0
 have qG:=Ao.bH fu (Ao.self ga x3) dQ
 have nH:=qG.2
 try simp only[AA,Az,go_sem]at nH
 have F:=an (aq dQ) (an nH F)
 try simp only[F,go_sem]
 refine AF F h0 ?_ ?_<;>intro F h0<;>try simp only[F,go_sem]
 refine Bt F h0 ?_ ?_<;>intro F h0<;>try simp only[F,go_sem]
 refine Bt F h0 ?_ ?_<;>intro F h0<;>try simp only[F,go_sem]
 refine AF F h0 ?_ ?_<;>intro F h0<;>try simp only[F,go_sem]
 obtain rfl:=oi h0
 refine Ag rfl ?_
 try simp only[F,go_sem]
 obtain⟨zY,aeY,h0⟩:=bs h0
 refine Bf aeY (Bw.h0 l0 a1 gB k3 x4 x5) (Bw.x0 l0 a1 gB k3 x4 x5) ?_ ?_ ?_
 refine Ah.go [0,1,2,3,8,12,13,14,15,16] [0,224,640] rfl ?_
 try simp only[Bw.h0,F,go_sem]
 rintro⟨s11,i12,jM⟩ cO Bm Bn h1 aJ aH bK
 refine rS ?_
 simp only[Bw.b0]at h1
 try simp only[Dr.s0,Bw.h0,F,go_sem]
 refine AF F h1 ?_ ?_<;>intro F h1<;>try simp only[F,go_sem]
 refine au h1 (Fa k _ _ _) ?_ (fun dx h1=>?_)<;>try simp only[F,go_sem]
 have F:=an (@id (Int.toNat 8=8) rfl) (an (@id (Int.toNat 31=31) rfl) (an (@id (bounds 32 (some (.int .i64 8)) (some (.int .i64 31))=some (8,31)) rfl) (an (@id (31 - 8=23) rfl) F)))
 try simp only[F,go_sem]
 obtain⟨rI,aau,h1⟩:=bs h1
 have sA:=gT af aau
 try simp only[F,go_sem]at sA
 have F:=an sA F
 try simp only[ahw,F,go_sem]
 refine AB (aJ _ _ (oi h1).symm (Ah.go [0,1,2,3,8,12,13,14,15,16] [0,1,2] rfl ?_))
 try simp only[Bw.h0,F,go_sem]
 refine AB (aH _ _ (oi h1).symm (Ah.go [0,1,2,3,8,13,14,15] [0,2] rfl ?_))
 try simp only[Bw.x0,F,go_sem]
 rintro cu aK
 subst aK
 simp only at h0
 refine rS ?_
 try simp only[Bw.x0,F,go_sem]
 refine Bt F h0 ?_ ?_<;>intro F h0<;>try simp only[F,go_sem]
 obtain⟨fh,cg,h0⟩:=bs h0
 have F:=an (aC cg) (an (aD af cg) F)
 try simp only[F,go_sem]
 refine AF F h0 ?_ ?_<;>intro F h0<;>try simp only[F,go_sem]
 obtain rfl:=oi h0
 refine Ag rfl ?_
 try simp only[F,go_sem]
 obtain⟨u22,aj1,h0⟩:=bs h0
 have ahO:=ahn aj1
 try simp only[go_sem]at ahO
 have F:=an ahO F
 try simp only[ahm aj1,F,go_sem]
 refine zqT [1] h0 (IE k _) ?_ fun eJ h0=>?_
 try simp only[sP af cu ((ab (16+(ab fh))).toNat),F,go_sem]
 try simp only[F,go_sem]
 refine Bt F h0 ?_ ?_<;>intro F h0<;>try simp only[F,go_sem]
 obtain rfl:=oi h0
 refine Ag rfl ?_
 try simp only[F,go_sem]
 refine au h0 (FO k _ _ _) ?_ (fun mV h0=>?_)<;>try simp only[F,go_sem]
 refine Bt F h0 ?_ ?_<;>intro F h0<;>try simp only[F,go_sem]
 obtain rfl:=oi h0
 refine Ag rfl ?_
 try simp only[F,go_sem]
 obtain⟨r32,arh,h0⟩:=bs h0
 refine Bf arh (Bw.h1 l0 a1 gB x4 x5 eJ mV) (Bw.x1 x4 x5 eJ) ?_ ?_ ?_
 refine Ah.go [0,1,2,8,13,14,17,19,20] [0,386] rfl ?_
 try simp only[Bw.h1,F,go_sem]
 rintro i27 cO Bm Bn h1 aJ aH bK
 refine rS ?_
 simp only[Bw.b1]at h1
 try simp only[Dr.s1,Bw.h1,F,go_sem]
 refine AF F h1 ?_ ?_<;>intro F h1<;>try simp only[F,go_sem]
 refine AL Ax aS 1000 ?_
 try simp only[F,go_sem]
 refine cn h1 (Fa k _ _ _) ?_ (fun x29 h1=>?_)<;>try simp only[F,go_sem]
 obtain⟨x30,aj5,h1⟩:=bs h1
 have F:=an (aC aj5) (an (aD (Aa.c (n:=32) af) aj5) F)
 try simp only[F,go_sem]
 refine aF ?_
 try simp only[F,go_sem]
 refine Bt F h1 ?_ ?_<;>intro F h1<;>try simp only[F,go_sem]
 obtain rfl:=bK _ (oi h1).symm
 simp only at h0
 obtain rfl:=oi h0
 refine Ag rfl ?_
 try simp only[F,go_sem]
 refine AB (aJ _ _ (oi h1).symm (Ah.go [0,1,2,8,13,14,17,19,20] [0,1] rfl ?_))
 try simp only[Bw.h1,F,go_sem]
 refine AB (aH _ _ (oi h1).symm (Ah.go [8,13,14,17] [0,1] rfl ?_))
 try simp only[Bw.x1,F,go_sem]
 rintro _ aK
 subst aK
 simp only at h0
 refine rS ?_
 try simp only[Bw.x1,F,go_sem]
 obtain rfl:=oi h0
 refine Ag rfl ?_
 try simp only[F,go_sem]
 obtain rfl:=oi h0
 refine Ag rfl ?_
 try simp only[F,go_sem]
 obtain rfl:=oi h0
 refine Ag rfl ?_
 try simp only[F,go_sem]
 obtain rfl:=oi h0
 refine Ag rfl ?_
 try simp only[F,go_sem]
 obtain rfl:=oi h0
 refine Ag rfl ?_
 try simp only[F,go_sem]
 obtain rfl:=oi h0
 refine Ag rfl ?_
 try simp only[F,go_sem]
def Et.s0:SC:=
 .block 1 (SQ [RG [wV 43 0 39,wV 44 1 3,wF 45 150 8 2,wD 46 3 45 [45],wF 47 150 8 1,wD 48 44 47 [47],wL 49 48 44 3 [48],wC 50 148 #[.tmp 43,.tmp 44,.tmp 46,.tmp 49] #[39,3,3,3] 226 [43,44,46,49],wV 42 50 226 [50],wX 51 42 0 25,wX 52 42 1 3,wX 53 42 2 3,wX 54 42 3 4 [42],wA 11 25,wS 25 11 51 [51],wG 12 52 3 [52],wG 13 53 3 [53],wG 14 54 4 [54]],SQ [RG [wV 55 14 4 [14],wQ 56 55 4 [55],
 wV 57 56 4 [56],gd 57 false (wV 58 13 3),gd 57 false (wV 59 9 3 [9]),gd 57 false (wO 60 .lss 3 58 59 3 4 [58,59]),wT 61 57 60 4 [57,60],wV 62 61 4 [61],gd 62 false (wV 63 10 44),gd 62 false (wF 64 25 11 0),gd 62 false (wD 65 23 64 [64]),gd 62 false (wW 66 99 63 65 44 23 3 [63,65]),gd 62 false (wK 67 .geq 3 66 0 3 4 [66]),wT 68 62 67 4 [62,67]],CN 68 (.exit 0) .skip],RG [wV 70 10 44 [10],
 wD 71 25 11,wW 72 75 70 71 44 25 100 [70,71],wV 69 72 100 [72],wX 73 69 0 44,wX 74 69 1 28 [69],wG 15 73 44 [73],wG 16 74 28 [74]],SQ [RG [wV 75 16 28 [16],wK 76 .neq 28 75 0 28 4 [75]],CN 76 (.exit 0) .skip],RG [wV 77 15 44 [15],wG 10 77 44 [77]],RG [wF 78 150 8 1,wD 79 44 78 [78],wD 80 25 11 [11],oQ 81 (.buildSlice 44 1 #[(0,.tmp 80)]) 44 [80],wP 82 79 81 44 44 44 [79,81],wF 83 150 8 1,
 wS 44 83 82 [82,83]],RG [wF 84 150 8 2,wD 85 3 84 [84],wV 86 12 3 [12],wO 87 .add 3 85 86 3 3 [85,86],wF 88 150 8 2,wS 3 88 87 [87,88]],RG [wV 89 13 3 [13],wG 9 89 3 [89]]])
def Et.c:SC:=
 SQ [RG [wA 4 150],RG [wV 17 0 39,wV 18 1 3,wC 19 129 #[.tmp 17,.tmp 18,.const (.int .i64 0)] #[39,3,3] 122 [17,18],wA 5 122,wS 122 5 19 [19]],RG [wD 20 122 5,wU 21 128 20 122 3 [20],wG 6 21 3 [21]],RG [oQ 22 (.slice 122 (.tmp 5) (some (.const (.int .i64 4))) (some (.const (.int .i64 6))) none) 56,wU 23 91 22 56 3 [22],wG 7 23 3 [23]],SQ [.aO [wJ 24 122 5 0,wD 25 5 24,
 oQ 26 (.binOp .neq 5 (.tmp 25) (.const (.int .u8 104)) 5) 4,wV 27 26 4,gd 27 false (wV 28 6 3),gd 27 false (wK 29 .eql 3 28 0 3 4),wT 30 27 29 4,wV 31 30 4,gd 31 false (wD 32 122 5),gd 31 false (wV 33 6 3),gd 31 false (wV 34 7 3),gd 31 false (wW 35 144 33 34 3 3 122),gd 31 false (wO 36 .neq 122 32 35 122 4),wT 37 31 36 4] [[],[0],[0,1],[0,1,2],[0,1,2,3],[0,1,2,3,4],[0,1,2,3,4,5],[0,1,2,3,4,5,6],
 [0,1,2,3,4,5,6,7],[0,1,2,3,4,5,6,7],[0,1,2,3,4,5,6,7],[0,1,2,3,4,5,6,7,9,10],[0,1,2,3,4,5,6,7,8,9,10,11],[0,1,2,3,4,5,6,7,8,9,10,11,12]] [5,24,25,26,27,28,29,30,31,32,33,34,35,36],CN 37 (SQ [RG [oQ 38 (.build 150 #[]) 150,wS 150 4 38 [38]],.ret]) .skip],RG [wV 39 6 3,oQ 40 (.build 150 #[(0,.tmp 39),(2,.const (.int .i64 1))]) 150 [39],wA 8 150,wS 150 8 40 [40]],RG [wV 41 6 3 [6],wG 9 41 3 [41]],
 RG [oQ 10 (.assign (.const (.slice none 0 0))) 44],.block 0 (.loop Et.s0),SQ [RG [wF 90 150 8 1,wD 91 44 90 [90],wL 92 91 44 3 [91],wV 93 7 3 [7],wO 94 .lss 3 92 93 3 4 [92,93]],CN 94 (SQ [RG [oQ 95 (.build 150 #[]) 150,wS 150 4 95 [95]],.ret]) .skip],RG [wD 96 150 8 [8],wS 150 4 96 [96]],.ret]
def BA.b0 (k:Nat) (l0:(List (Aa 2 (Aa 32 Int)))) (a1:Int):(Int×(List Ab)×Int×(List Ab))->Option (AT (Int×(List Ab)×Int×(List Ab)) (Int×(List Ab)) (CC)):=fun s=>match s with
 |(i9,iT,i11,fF)=>
   (Bw k l0 a1 i11 ((fF.length:Nat):Int)).bind fun cM=>
   bif cM.2.2.2 then
    bif (!decide (cM.2.2.1<i9)) then
     (BS k iT cM.1.At).bind fun nJ=>
     bif decide ((0:Int)<=nJ) then
      some (.brk (i11,fF))
     else
      (B9 k iT cM.1).bind fun fh=>
      bif (!decide (fh.2=(0:Int))) then
       some (.brk (i11,fF))
      else
       (fG 72 fF cM.1).bind fun zt=>
       some (.next (cM.2.2.1,fh.1,ab (i11+cM.2.1),zt))
    else
     some (.brk (i11,fF))
   else
    some (.brk (i11,fF))
def BA.h0 (l0:(List (Aa 2 (Aa 32 Int)))) (a1:Int) (x2:Int) (x3:Int):(Int×(List Ab)×Int×(List Ab))->St:=fun s=>match s with
 |(i9,iT,i11,fF)=>⟨[(0,.sl 64 (List.map (Aa.c (n:=2) (Aa.c (n:=32) af)) l0)),(1,.int .i64 a1),(4,.ptr 0 0 0),(7,.int .i64 x3),(8,.ptr 0 2 0),(9,.int .i64 i9),(10,.sl 8 (List.map Ab.c iT))],[(0,.box ([.int .i64 0,.loc 0 1 8 0 0 0,.int .i64 0])),(1,.arr 25 8 (List.map Ab.c [])),(2,.box ([.int .i64 x2,.loc 0 3 8 0 fF.length fF.length,.int .i64 i11])),(3,.arr 25 8 (List.map Ab.c fF))],[],4,Try.f127.ntmps⟩
def BA.x0 (x2:Int) (x3:Int):(Int×(List Ab))->St:=fun s=>match s with
 |(i13,cu)=>⟨[(4,.ptr 0 0 0),(7,.int .i64 x3),(8,.ptr 0 2 0)],[(0,.box ([.int .i64 0,.loc 0 1 8 0 0 0,.int .i64 0])),(1,.arr 25 8 (List.map Ab.c [])),(2,.box ([.int .i64 x2,.loc 0 3 8 0 cu.length cu.length,.int .i64 i13])),(3,.arr 25 8 (List.map Ab.c cu))],[],4,Try.f127.ntmps⟩
def BA (k:Nat) (l0:(List (Aa 2 (Aa 32 Int)))) (a1:Int):Option (CC):=
 (Dp k l0 a1 0).bind fun x1=>
 (DU k x1).bind fun x2=>
 (BJ k ((x1.l.drop 4).take 2)).bind fun x3=>
 (x1.at? 0).bind fun x4=>
 bif decide (x4=(104:Int)) then
  bif (!decide (x2=(0:Int))) then
   (DV k x2 x3).bind fun x7=>
   bif (!(Aa.eq (fun(x y:Int)=>decide (x=y)) x1 x7)) then
    some (⟨0,[],0⟩:CC)
   else
    (aj (BA.b0 k l0 a1) k (x2,[],1,[])).bind fun z6=>match z6 with
    |.next _=>none
    |.ret v_=>some v_
    |.brk (i13,cu)=>
     bif decide (((cu.length:Nat):Int)<x3) then
      some (⟨0,[],0⟩:CC)
     else
      some (⟨x2,cu,i13⟩:CC)
  else
   some (⟨0,[],0⟩:CC)
 else
  some (⟨0,[],0⟩:CC)
theorem HI (k:Nat) (l0:(List (Aa 2 (Aa 32 Int)))) (a1:Int) (r:CC) (h0:BA k l0 a1=some r):Aw Try.prog 127 [.sl 64 (List.map (Aa.c (n:=2) (Aa.c (n:=32) af)) l0),.int .i64 a1] (fun y=>y=.agg (CC.c r)):=by
 refine PB Try.f127 Et.c [.cell 4 150] ?_
 simp only[BA]at h0
 try simp only[Et.c,go_sem]
 refine au h0 (Fa k _ _ _) ?_ (fun x1 h0=>?_)<;>try simp only[go_sem]
 refine au h0 (FK k _) ?_ (fun x2 h0=>?_)<;>try simp only[go_sem]
 have F:=an (@id (Int.toNat 4=4) rfl) (an (@id (Int.toNat 6=6) rfl) (an (@id (bounds 32 (some (.int .i64 4)) (some (.int .i64 6))=some (4,6)) rfl) ((@id (6 - 4=2) rfl))))
 try simp only[F,go_sem]
 refine zqL h0 (Dq k _) ?_ (fun x3 h0=>?_)
 try simp only[ahx,ahy,F,go_sem]
 try simp only[F,go_sem]
 refine AL Ax aS 1000 ?_
 try simp only[F,go_sem]
 obtain⟨x4,bN,h0⟩:=bs h0
 have iC:=Ao.bH fu (Ao.self ga x1) bN
 have jw:=iC.2
 try simp only[AA,Az,go_sem]at jw
 have F:=an (aq bN) (an jw F)
 try simp only[F,go_sem]
 refine DF F h0 ?_ ?_<;>intro F h0<;>try simp only[F,go_sem]
 refine Fh F h0 ?_ ?_<;>intro F h0<;>try simp only[F,go_sem]
 refine cn h0 (FL k _ _) ?_ (fun x7 h0=>?_)<;>try simp only[F,go_sem]
 refine aF ?_
 try simp only[F,go_sem]
 refine Bt F h0 ?_ ?_<;>intro F h0<;>try simp only[F,go_sem]
 obtain rfl:=oi h0
 refine Ag rfl ?_
 try simp only[F,go_sem]
 obtain⟨z6,ae0,h0⟩:=bs h0
 refine Bf ae0 (BA.h0 l0 a1 x2 x3) (BA.x0 x2 x3) ?_ ?_ ?_
 refine Ah.trans (Ah.fz 512 rfl (fun _ h=>by cases h)) ?_
 refine Ah.go [0,1,4,7,8,9,10] [0,1,448,464] rfl ?_
 try simp only[BA.h0,F,go_sem]
 rintro⟨i9,iT,i11,fF⟩ cO Bm Bn h1 aJ aH bK
 refine rS ?_
 simp only[BA.b0]at h1
 try simp only[Et.s0,BA.h0,F,go_sem]
 refine au h1 (IU k _ _ _ _) ?_ (fun cM h1=>?_)<;>try simp only[F,go_sem]
 refine AF F h1 ?_ ?_<;>intro F h1<;>try simp only[F,go_sem]
 refine Bt F h1 ?_ ?_<;>intro F h1<;>try simp only[F,go_sem]
 refine au h1 (HL k _ _) ?_ (fun nJ h1=>?_)<;>try simp only[F,go_sem]
 refine AF F h1 ?_ ?_<;>intro F h1<;>try simp only[F,go_sem]
 refine AB (aH _ _ (oi h1).symm (Ah.go [4,7,8] [0,1,2,3] rfl ?_))
 try simp only[BA.x0,F,go_sem]
 refine au h1 (FN k _ _) ?_ (fun fh h1=>?_)<;>try simp only[F,go_sem]
 refine Bt F h1 ?_ ?_<;>intro F h1<;>try simp only[F,go_sem]
 refine AB (aH _ _ (oi h1).symm (Ah.go [4,7,8] [0,1,2,3] rfl ?_))
 try simp only[BA.x0,F,go_sem]
 obtain⟨zt,acd,h1⟩:=bs h1
 have ajT:=pu Ab.c acd
 try simp only[F,go_sem]at ajT
 have F:=an ajT F
 try simp only[F,go_sem]
 refine AB (aJ _ _ (oi h1).symm (Ah.go [0,1,4,7,8,9,10] [0,1,2,3] rfl ?_))
 try simp only[BA.h0,F,go_sem]
 refine AB (aH _ _ (oi h1).symm (Ah.go [4,7,8] [0,1,2,3] rfl ?_))
 try simp only[BA.x0,F,go_sem]
 refine AB (aH _ _ (oi h1).symm (Ah.go [4,7,8] [0,1,2,3] rfl ?_))
 try simp only[BA.x0,F,go_sem]
 rintro⟨i13,cu⟩ aK
 subst aK
 simp only at h0
 refine rS ?_
 try simp only[BA.x0,F,go_sem]
 refine AF F h0 ?_ ?_<;>intro F h0<;>try simp only[F,go_sem]
 obtain rfl:=oi h0
 refine Ag rfl ?_
 try simp only[F,go_sem]
 obtain rfl:=oi h0
 refine Ag rfl ?_
 try simp only[F,go_sem]
 refine aF ?_
 try simp only[F,go_sem]
 obtain rfl:=oi h0
 refine Ag rfl ?_
 try simp only[F,go_sem]
 refine aF ?_
 try simp only[F,go_sem]
 obtain rfl:=oi h0
 refine Ag rfl ?_
 try simp only[F,go_sem]
def Hs.c:SC:=
 SQ [RG [wN 2 0 3 [2],wA 3 150,wB 4 false 4 [4]],RG [wV 7 0 39,wC 8 127 #[.tmp 7,.const (.int .i64 0)] #[39,3] 150 [7],wA 5 150,wS 150 5 8 [8]],RG [wV 9 0 39 [0],wC 10 127 #[.tmp 9,.const (.int .i64 1)] #[39,3] 150 [9],wA 6 150,wS 150 6 10 [10]],SQ [RG [wF 11 150 5 0,wD 12 3 11 [11],wK 13 .eql 3 12 0 3 4 [12],wV 14 13 4 [13],gd 14 true (wF 15 150 6 0),gd 14 true (wD 16 3 15 [15]),
 gd 14 true (wK 17 .eql 3 16 0 3 4 [16]),wZ 18 14 17 4 [14,17]],CN 18 (SQ [RG [oQ 19 (.build 150 #[]) 150,wN 2 0 3,wS 150 3 19 [19],wB 4 false 4],.ret]) .skip],SQ [RG [wF 20 150 6 0,wD 21 3 20 [20],wF 22 150 5 0,wD 23 3 22 [22],wO 24 .gtr 3 21 23 3 4 [21,23]],CN 24 (SQ [.aO [wD 25 150 6,wN 2 1 3,wS 150 3 25,wB 4 true 4] [[],[],[0,1],[0,1,2]] [6,25],.ret]) .skip],.aO [wD 26 150 5,wN 2 0 3,
 wS 150 3 26,wB 4 true 4] [[],[],[0,1],[0,1,2]] [5,26],.ret]
def DA (k:Nat) (l0:(List (Aa 2 (Aa 32 Int)))):Option (Int×CC×Bool):=
 (BA k l0 0).bind fun x1=>
 (BA k l0 1).bind fun x2=>
 bif decide (x1.AG=(0:Int)) then
  bif decide (x2.AG=(0:Int)) then
   some (0,(⟨0,[],0⟩:CC),false)
  else
   bif decide (x1.AG<x2.AG) then
    some (1,x2,true)
   else
    some (0,x1,true)
 else
  bif decide (x1.AG<x2.AG) then
   some (1,x2,true)
  else
   some (0,x1,true)
theorem HN (k:Nat) (l0:(List (Aa 2 (Aa 32 Int)))) (r:Int×CC×Bool) (h0:DA k l0=some r):Aw Try.prog 85 [.sl 64 (List.map (Aa.c (n:=2) (Aa.c (n:=32) af)) l0)] (fun y=>y=.ar [.int .i64 r.1,.agg (CC.c r.2.1),.bool r.2.2]):=by
 refine PB Try.f85 Hs.c [.tmp 2,.cell 3 150,.tmp 4] ?_
 simp only[DA]at h0
 try simp only[Hs.c,go_sem]
 refine au h0 (HI k _ _) ?_ (fun x1 h0=>?_)<;>try simp only[go_sem]
 refine au h0 (HI k _ _) ?_ (fun x2 h0=>?_)<;>try simp only[go_sem]
 refine AS h0 ?_ ?_<;>intro c3 h0<;>have F:=c3<;>try simp only[F,go_sem]
 refine AF F h0 ?_ ?_<;>intro F h0<;>try simp only[F,go_sem]
 obtain rfl:=oi h0
 refine Ag rfl ?_
 try simp only[F,go_sem]
 refine AF F h0 ?_ ?_<;>intro F h0<;>try simp only[F,go_sem]
 refine AL Ax aS 1000 ?_
 try simp only[F,go_sem]
 refine aF ?_
 try simp only[F,go_sem]
 obtain rfl:=oi h0
 refine Ag rfl ?_
 try simp only[F,go_sem]
 refine AL Ax aS 1000 ?_
 try simp only[F,go_sem]
 refine aF ?_
 try simp only[F,go_sem]
 obtain rfl:=oi h0
 refine Ag rfl ?_
 try simp only[F,go_sem]
 refine AF F h0 ?_ ?_<;>intro F h0<;>try simp only[F,go_sem]
 refine AL Ax aS 1000 ?_
 try simp only[F,go_sem]
 refine aF ?_
 try simp only[F,go_sem]
 obtain rfl:=oi h0
 refine Ag rfl ?_
 try simp only[F,go_sem]
 refine AL Ax aS 1000 ?_
 try simp only[F,go_sem]
 refine aF ?_
 try simp only[F,go_sem]
 obtain rfl:=oi h0
 refine Ag rfl ?_
 try simp only[F,go_sem]
def EL.s0:SC:=
 SQ [SQ [RG [wV 5 4 3,wV 6 0 44,wL 7 6 44 3 [6],wO 8 .lss 3 5 7 3 4 [5,7]],CN 8 .skip (.exit 0)],.block 1 (RG [wV 12 3 44 [3],wV 13 0 44,wV 14 4 3,wI 15 44 13 14 [13,14],wD 16 25 15 [15],wW 17 75 12 16 44 25 100 [12,16],wV 11 17 100 [17],wX 18 11 0 44,wX 19 11 1 28 [11,19],wG 3 18 44 [18]]),RG [wV 9 4 3 [4],wK 10 .add 3 9 1 3 3 [9],wG 4 10 3 [10]]]
def EL.c:SC:=
 SQ [RG [wA 2 46],RG [oQ 3 (.assign (.const (.slice none 0 0))) 44],SQ [RG [wN 4 0 3],.block 0 (.loop EL.s0)],RG [wV 20 3 44 [3],oQ 21 (.build 46 #[(0,.tmp 20)]) 46 [20],wS 46 2 21 [21]],.ret]
def BW.b0 (k:Nat) (l0:(List Ab)):((List Ab)×Int)->Option (AT ((List Ab)×Int) ((List Ab)) (Ai)):=fun s=>match s with
 |(l1,i2)=>
   bif decide (i2<(l0.length:Int)) then
    (at? l0 i2).bind fun x5=>
    (B9 k l1 x5).bind fun x6=>
    some (.next (x6.1,ab (i2+1)))
   else
    some (.brk l1)
def BW.h0 (l0:(List Ab)):((List Ab)×Int)->St:=fun s=>match s with
 |(l1,i2)=>⟨[(0,.sl 8 (List.map Ab.c l0)),(2,.ptr 0 0 0),(3,.sl 8 (List.map Ab.c l1)),(4,.int .i64 i2)],[(0,.box ([.loc 0 1 8 0 0 0])),(1,.arr 25 8 (List.map Ab.c []))],[],2,Try.f86.ntmps⟩
def BW.x0:(List Ab)->St:=fun l3=>⟨[(2,.ptr 0 0 0),(3,.sl 8 (List.map Ab.c l3))],[(0,.box ([.loc 0 1 8 0 0 0])),(1,.arr 25 8 (List.map Ab.c []))],[],2,Try.f86.ntmps⟩
def BW (k:Nat) (l0:(List Ab)):Option (Ai):=
 (aj (BW.b0 k l0) k ([],0)).bind fun r7=>match r7 with
 |.next _=>none
 |.ret v_=>some v_
 |.brk l3=>
  some (⟨l3⟩:Ai)
theorem HJ (k:Nat) (l0:(List Ab)) (r:Ai) (h0:BW k l0=some r):Aw Try.prog 86 [.sl 8 (List.map Ab.c l0)] (fun y=>y=.agg (Ai.c r)):=by
 refine PB Try.f86 EL.c [.cell 2 46] ?_
 simp only[BW]at h0
 try simp only[EL.c,go_sem]
 obtain⟨r7,kF,h0⟩:=bs h0
 refine Bf kF (BW.h0 l0) (BW.x0) ?_ ?_ ?_
 refine Ah.trans (Ah.fz 16 rfl (fun _ h=>by cases h)) ?_
 refine Ah.go [0,2,3,4] [0,1] rfl ?_
 try simp only[BW.h0,go_sem]
 rintro⟨l1,i2⟩ cO Bm Bn h1 aJ aH bK
 refine rS ?_
 simp only[BW.b0]at h1
 try simp only[EL.s0,BW.h0,go_sem]
 refine AS h1 ?_ ?_<;>intro c4 h1<;>have F:=c4<;>try simp only[F,go_sem]
 obtain⟨x5,cw,h1⟩:=bs h1
 have F:=an (aC cw) (an (aD Ab.c cw) F)
 try simp only[F,go_sem]
 refine au h1 (FN k _ _) ?_ (fun x6 h1=>?_)<;>try simp only[F,go_sem]
 refine AB (aJ _ _ (oi h1).symm (Ah.go [0,2,3,4] [0,1] rfl ?_))
 try simp only[BW.h0,F,go_sem]
 refine AB (aH _ _ (oi h1).symm (Ah.go [2,3] [0,1] rfl ?_))
 try simp only[BW.x0,F,go_sem]
 rintro l3 aK
 subst aK
 simp only at h0
 refine rS ?_
 try simp only[BW.x0,go_sem]
 obtain rfl:=oi h0
 refine Ag rfl ?_
 try simp only[go_sem]
def EM.s0:SC:=
 SQ [SQ [RG [wV 10 8 3,wK 11 .lss 3 10 602 3 4 [10]],CN 11 .skip (.exit 0)],.block 1 (RG [wV 14 7 3 [7],wV 15 0 39,wV 16 1 3,wV 17 8 3,wC 18 129 #[.tmp 15,.tmp 16,.tmp 17] #[39,3,3] 122 [15,16,17],wU 19 128 18 122 3 [18],oQ 20 (.call ⟨.builtin .max,#[.tmp 14,.tmp 19],#[3,3]⟩) 3 [14,19],wG 7 20 3 [20]]),RG [wV 12 8 3 [8],wK 13 .add 3 12 1 3 3 [12],wG 8 13 3 [13]]]
def EM.c:SC:=
 SQ [RG [wN 6 0 3 [6]],RG [wN 7 0 3],SQ [RG [wV 9 2 3 [2],wG 8 9 3 [9]],.block 0 (.loop EM.s0)],RG [wV 21 7 3 [7],wG 6 21 3 [21]],.ret]
def BG.b0 (k:Nat) (l0:(List (Aa 2 (Aa 32 Int)))) (a1:Int):(Int×Int)->Option (AT (Int×Int) (Int) (Int)):=fun s=>match s with
 |(i1,i2)=>
   bif decide (i2<(602:Int)) then
    (Dp k l0 a1 i2).bind fun x5=>
    (DU k x5).bind fun x6=>
    some (.next (max i1 x6,ab (i2+1)))
   else
    some (.brk i1)
def BG.h0 (l0:(List (Aa 2 (Aa 32 Int)))) (a1:Int):(Int×Int)->St:=fun s=>match s with
 |(i1,i2)=>⟨[(0,.sl 64 (List.map (Aa.c (n:=2) (Aa.c (n:=32) af)) l0)),(1,.int .i64 a1),(7,.int .i64 i1),(8,.int .i64 i2)],[],[],1,Try.f87.ntmps⟩
def BG.x0:Int->St:=fun i3=>⟨[(7,.int .i64 i3)],[],[],1,Try.f87.ntmps⟩
def BG (k:Nat) (l0:(List (Aa 2 (Aa 32 Int)))) (a1:Int) (aX:Int):Option (Int):=
 (aj (BG.b0 k l0 a1) k (0,aX)).bind fun r7=>match r7 with
 |.next _=>none
 |.ret v_=>some v_
 |.brk i3=>
  some i3
theorem E9 (k:Nat) (l0:(List (Aa 2 (Aa 32 Int)))) (a1:Int) (aX:Int) (r:Int) (h0:BG k l0 a1 aX=some r):Aw Try.prog 87 [.sl 64 (List.map (Aa.c (n:=2) (Aa.c (n:=32) af)) l0),.int .i64 a1,.int .i64 aX] (fun y=>y=.int .i64 r):=by
 refine PB Try.f87 EM.c [.tmp 6] ?_
 simp only[BG]at h0
 try simp only[EM.c,go_sem]
 obtain⟨r7,kF,h0⟩:=bs h0
 refine Bf kF (BG.h0 l0 a1) (BG.x0) ?_ ?_ ?_
 refine Ah.go [0,1,7,8] [] rfl ?_
 try simp only[BG.h0,go_sem]
 rintro⟨i1,i2⟩ cO Bm Bn h1 aJ aH bK
 refine rS ?_
 simp only[BG.b0]at h1
 try simp only[EM.s0,BG.h0,go_sem]
 refine AS h1 ?_ ?_<;>intro c4 h1<;>have F:=c4<;>try simp only[F,go_sem]
 refine au h1 (Fa k _ _ _) ?_ (fun x5 h1=>?_)<;>try simp only[F,go_sem]
 refine au h1 (FK k _) ?_ (fun x6 h1=>?_)<;>try simp only[F,go_sem]
 refine AB (aJ _ _ (oi h1).symm (Ah.go [0,1,7,8] [] rfl ?_))
 try simp only[BG.h0,F,go_sem]
 refine AB (aH _ _ (oi h1).symm (Ah.go [7] [] rfl ?_))
 try simp only[BG.x0,F,go_sem]
 rintro i3 aK
 subst aK
 simp only at h0
 refine rS ?_
 try simp only[BG.x0,go_sem]
 obtain rfl:=oi h0
 refine Ag rfl ?_
 try simp only[go_sem]
def Ha.c:SC:=
 SQ [RG [wE 2 42 0 [0],wE 3 48 1 [1],wN 4 0 28 [4]],SQ [RG [wD 9 42 2,wU 10 83 9 42 4 [9],wQ 11 10 4 [10],wV 12 11 4 [11],gd 12 false (wF 13 48 3 2),gd 12 false (wD 14 3 13 [13]),gd 12 false (wC 15 67 #[.tmp 14,.const (.int .i64 1),.const (.int .i64 1000000)] #[3,3,3] 4 [14]),gd 12 false (wQ 16 15 4 [15]),wT 17 12 16 4 [12,16]],CN 17 (SQ [RG [wN 4 94 28],.ret]) .skip],RG [wD 18 42 2 [2],
 wU 19 84 18 42 39 [18],wG 5 19 39 [19]],RG [wV 21 5 39,wU 22 85 21 39 151 [21],wV 20 22 151 [22],wX 23 20 0 3,wX 24 20 1 150,wX 25 20 2 4 [20],wA 7 150,wG 6 23 3 [23],wS 150 7 24 [24],wG 8 25 4 [25]],SQ [.aO [wV 26 8 4,wQ 27 26 4,wV 28 27 4,gd 28 false (wF 29 48 3 1),gd 28 false (wD 30 3 29),gd 28 false (wV 31 6 3),gd 28 false (wO 32 .neq 3 30 31 3 4),wT 33 28 32 4,wV 34 33 4,
 gd 34 false (wF 35 48 3 3),gd 34 false (wD 36 3 35),gd 34 false (wF 37 150 7 2),gd 34 false (wD 38 3 37),gd 34 false (wO 39 .neq 3 36 38 3 4),wT 40 34 39 4,wV 41 40 4,gd 41 false (wF 42 48 3 0),gd 41 false (wF 43 46 42 0),gd 41 false (wD 44 44 43),gd 41 false (wF 45 150 7 1),gd 41 false (wD 46 44 45),gd 41 false (wU 47 86 46 44 46),gd 41 false (oQ 48 (.field 46 (.tmp 47) 0) 44),
 gd 41 false (wW 49 59 44 48 44 44 4),gd 41 false (wQ 50 49 4),wT 51 41 50 4] [[],[0],[0,1],[0,1,2],[0,1,2,3],[0,1,2],[0,1,2,3,4,5],[0,1,2,3,4,5,6],[0,1,2,3,4,5,6,7],[0,1,2,3,4,5,6,7,8],[0,1,2,3,4,5,6,7,8,9],[0,1,2,3,4,5,6,7,8],[0,1,2,3,4,5,6,7,8,11],[0,1,2,3,4,5,6,7,8,9,10,11,12],[0,1,2,3,4,5,6,7,8,9,10,11,12,13],[0,1,2,3,4,5,6,7,8,9,10,11,12,13,14],[0,1,2,3,4,5,6,7,8,9,10,11,12,13,14,15],[0,1,2,
 3,4,5,6,7,8,9,10,11,12,13,14,15,16],[0,1,2,3,4,5,6,7,8,9,10,11,12,13,14,15,16,17],[0,1,2,3,4,5,6,7,8,9,10,11,12,13,14,15],[0,1,2,3,4,5,6,7,8,9,10,11,12,13,14,15,19],[0,1,2,3,4,5,6,7,8,9,10,11,12,13,14,15,19,20],[0,1,2,3,4,5,6,7,8,9,10,11,12,13,14,15,19,20,21],[0,1,2,3,4,5,6,7,8,9,10,11,12,13,14,15,16,17,18,19,20,21,22],[0,1,2,3,4,5,6,7,8,9,10,11,12,13,14,15,16,17,18,19,20,21,22,23],[0,1,2,3,4,5,6,
 7,8,9,10,11,12,13,14,15,16,17,18,19,20,21,22,23,24]] [8,26,27,28,29,30,31,32,33,34,35,36,37,38,39,40,41,42,43,44,45,46,47,48,49,50],CN 51 (SQ [RG [wN 4 94 28],.ret]) .skip],SQ [.aO [wV 52 5 39,wC 53 87 #[.tmp 52,.const (.int .i64 0),.const (.int .i64 0)] #[39,3,3] 3,wF 54 48 3 2,wD 55 3 54,wO 56 .gtr 3 53 55 3 4,wV 57 56 4,gd 57 false (wV 58 5 39),gd 57 false (wC 59 87 #[.tmp 58,
 .const (.int .i64 1),.const (.int .i64 0)] #[39,3,3] 3),gd 57 false (wF 60 48 3 2),gd 57 false (wD 61 3 60),gd 57 false (wO 62 .gtr 3 59 61 3 4),wT 63 57 62 4,wV 64 63 4,gd 64 false (wV 65 5 39),gd 64 false (wV 66 6 3),gd 64 false (wF 67 150 7 2),gd 64 false (wD 68 3 67),gd 64 false (wC 69 87 #[.tmp 65,.tmp 66,.tmp 68] #[39,3,3] 3),gd 64 false (wF 70 48 3 2),gd 64 false (wD 71 3 70),
 gd 64 false (wO 72 .geq 3 69 71 3 4),wT 73 64 72 4] [[],[0],[],[2],[0,1,2,3],[0,1,2,3,4],[0,1,2,3,4,5],[0,1,2,3,4,5,6],[0,1,2,3,4,5],[0,1,2,3,4,5,8],[0,1,2,3,4,5,6,7,8,9],[0,1,2,3,4,5,6,7,8,9,10],[0,1,2,3,4,5,6,7,8,9,10,11],[0,1,2,3,4,5,6,7,8,9,10,11,12],[0,1,2,3,4,5,6,7,8,9,10,11,12],[0,1,2,3,4,5,6,7,8,9,10,11,12],[0,1,2,3,4,5,6,7,8,9,10,11,12,15],[0,1,2,3,4,5,6,7,8,9,10,11,12,13,14,15,16],[0,1,
 2,3,4,5,6,7,8,9,10,11,12],[0,1,2,3,4,5,6,7,8,9,10,11,12,18],[0,1,2,3,4,5,6,7,8,9,10,11,12,13,14,15,16,17,18,19],[0,1,2,3,4,5,6,7,8,9,10,11,12,13,14,15,16,17,18,19,20]] [3,5,6,7,52,53,54,55,56,57,58,59,60,61,62,63,64,65,66,67,68,69,70,71,72],CN 73 (SQ [RG [wN 4 94 28],.ret]) .skip],RG [wN 4 0 28],.ret]
def CX (k:Nat) (d0:Ac) (l1:Ay):Option (Int):=
 (BZ k d0).bind fun x1=>
 bif x1 then
  (C6 k l1.AG 1 1000000).bind fun x3=>
  bif (!x3) then
   some 94
  else
   (Cn k d0).bind fun x5=>
   (DA k x5).bind fun x6=>
   bif x6.2.2 then
    bif decide (l1.BB=x6.1) then
     bif decide (l1.Used=x6.2.1.Used) then
      (BW k x6.2.1.Al).bind fun cE=>
      (B8 k l1.Ai.Al cE.Al).bind fun df=>
      bif (!df) then
       some 94
      else
       (BG k x5 0 0).bind fun cF=>
       bif (!decide (l1.AG<cF)) then
        (BG k x5 1 0).bind fun cM=>
        bif (!decide (l1.AG<cM)) then
         (BG k x5 x6.1 x6.2.1.Used).bind fun iV=>
         bif decide (l1.AG<=iV) then
          some 94
         else
          some 0
        else
         some 94
       else
        some 94
     else
      some 94
    else
     some 94
   else
    some 94
 else
  some 94
theorem FI (k:Nat) (d0:Ac) (l1:Ay) (r:Int) (h0:CX k d0 l1=some r):Aw Try.prog 25 [.agg (Ac.c d0),.agg (Ay.c l1)] (fun y=>y=.int .i64 r):=by
 refine PB Try.f25 Ha.c [.tmp 4] ?_
 simp only[CX]at h0
 try simp only[Ha.c,go_sem]
 refine au h0 (Ft k _) ?_ (fun x1 h0=>?_)<;>try simp only[go_sem]
 refine AS h0 ?_ ?_<;>intro c2 h0<;>have F:=c2<;>try simp only[F,go_sem]
 refine au h0 (DW k _ _ _) ?_ (fun x3 h0=>?_)<;>try simp only[F,go_sem]
 refine Bt F h0 ?_ ?_<;>intro F h0<;>try simp only[F,go_sem]
 obtain rfl:=oi h0
 refine Ag rfl ?_
 try simp only[F,go_sem]
 refine au h0 (FP k _) ?_ (fun x5 h0=>?_)<;>try simp only[F,go_sem]
 refine au h0 (HN k _) ?_ (fun x6 h0=>?_)<;>try simp only[F,go_sem]
 refine AL Ax aS 1000 ?_
 try simp only[F,go_sem]
 refine DF F h0 ?_ ?_<;>intro F h0<;>try simp only[F,go_sem]
 refine DF F h0 ?_ ?_<;>intro F h0<;>try simp only[F,go_sem]
 refine DF F h0 ?_ ?_<;>intro F h0<;>try simp only[F,go_sem]
 refine cn h0 (HJ k _) ?_ (fun cE h0=>?_)<;>try simp only[F,go_sem]
 refine cn h0 (HH k _ _) ?_ (fun df h0=>?_)<;>try simp only[F,go_sem]
 refine aF ?_
 try simp only[F,go_sem]
 refine Bt F h0 ?_ ?_<;>intro F h0<;>try simp only[F,go_sem]
 obtain rfl:=oi h0
 refine Ag rfl ?_
 try simp only[F,go_sem]
 refine AL Ax aS 1000 ?_
 try simp only[F,go_sem]
 refine cn h0 (E9 k _ _ _) ?_ (fun cF h0=>?_)<;>try simp only[F,go_sem]
 refine Fh F h0 ?_ ?_<;>intro F h0<;>try simp only[F,go_sem]
 refine cn h0 (E9 k _ _ _) ?_ (fun cM h0=>?_)<;>try simp only[F,go_sem]
 refine Fh F h0 ?_ ?_<;>intro F h0<;>try simp only[F,go_sem]
 refine cn h0 (E9 k _ _ _) ?_ (fun iV h0=>?_)<;>try simp only[F,go_sem]
 refine aF ?_
 try simp only[F,go_sem]
 refine AF F h0 ?_ ?_<;>intro F h0<;>try simp only[F,go_sem]
 obtain rfl:=oi h0
 refine Ag rfl ?_
 try simp only[F,go_sem]
 obtain rfl:=oi h0
 refine Ag rfl ?_
 try simp only[F,go_sem]
 refine aF ?_
 try simp only[F,go_sem]
 obtain rfl:=oi h0
 refine Ag rfl ?_
 try simp only[F,go_sem]
 refine aF ?_
 try simp only[F,go_sem]
 obtain rfl:=oi h0
 refine Ag rfl ?_
 try simp only[F,go_sem]
 refine aF ?_
 try simp only[F,go_sem]
 obtain rfl:=oi h0
 refine Ag rfl ?_
 try simp only[F,go_sem]
 refine aF ?_
 try simp only[F,go_sem]
 obtain rfl:=oi h0
 refine Ag rfl ?_
 try simp only[F,go_sem]
 refine aF ?_
 try simp only[F,go_sem]
 obtain rfl:=oi h0
 refine Ag rfl ?_
 try simp only[F,go_sem]
 obtain rfl:=oi h0
 refine Ag rfl ?_
 try simp only[F,go_sem]
def D3.c:SC:=
 SQ [RG [wE 1 42 0 [0],wA 2 42],.aO [oQ 3 (.buildSlice 39 0 #[]) 39,wF 4 42 1 0,wD 5 39 4,wP 6 3 5 39 39 39,oQ 7 (.buildSlice 40 0 #[]) 40,wF 8 42 1 1,wD 9 40 8,wP 10 7 9 40 40 40,oQ 11 (.build 42 #[(0,.tmp 6),(1,.tmp 10)]) 42,wS 42 2 11] [[],[],[1],[0,1,2],[],[],[5],[4,5,6,0,1,2,3],[0,1,2,3,4,5,6,7],[0,1,2,3,4,5,6,7,8]] [1,3,4,5,6,7,8,9,10,11],.ret]
theorem D3.rs:Try.f76.results.toList=[.cell 2 42]:=rfl
def DT (k:Nat) (d0:Ac):Option (Ac):=
 (eW d0.Ae.length 64).bind fun _=>
 (eW d0.Ad.length 72).bind fun _=>
 some d0
theorem FJ (k:Nat) (d0:Ac) (r:Ac) (h0:DT k d0=some r):Aw Try.prog 76 [.agg (Ac.c d0)] (fun y=>y=.agg (Ac.c r)):=by
 refine PB Try.f76 D3.c [.cell 2 42] ?_
 simp only[DT]at h0
 try simp only[D3.c,go_sem]
 refine AL Ax aS 1000 ?_
 try simp only[go_sem]
 obtain⟨u1,iD,h0⟩:=bs h0
 try simp only[lh iD,go_sem]
 obtain⟨u2,yu2,h0⟩:=bs h0
 try simp only[lh yu2,go_sem]
 refine aF ?_
 try simp only[go_sem]
 obtain rfl:=oi h0
 refine Ag rfl ?_
 try simp only[go_sem]
def EY (k:Nat) (d0:Ac):Option (Ac):=
 (eW d0.Ae.length 64).bind fun _=>
 (eW d0.Ad.length 72).bind fun _=>
 some d0
theorem IC (k:Nat) (d0:Ac) (r:Ac) (h0:EY k d0=some r):A6 Try.prog 76 [.agg (Ac.c d0)] [] (fun y fr=>y=.agg [.loc 0 0 64 0 r.Ae.length r.Ae.length,.loc 0 1 65 0 r.Ad.length r.Ad.length]/\fr=[(0,.arr 139 64 (List.map (Aa.c (n:=2) (Aa.c (n:=32) af)) r.Ae)),(1,.arr 141 65 (List.map Aq.c r.Ad))]):=by
 refine A6.gr Ax (f:=76) (fn:=Try.f76) (sc:=D3.c) (by rfl) (by rfl) (by decide +kernel) (by rfl) (by decide +kernel) (Nat.le_of_ble_eq_true rfl) (fun H=>?_)
 refine rS ?_
 simp only[EY]at h0
 try simp only[D3.c,go_sem]
 refine AL Ax aS 1000 ?_
 try simp only[go_sem]
 obtain⟨u1,iD,h0⟩:=bs h0
 try simp only[lh iD,go_sem]
 obtain⟨u2,yu2,h0⟩:=bs h0
 try simp only[lh yu2,go_sem]
 refine aF ?_
 try simp only[go_sem]
 obtain rfl:=oi h0
 refine GC [48,112] (by simp) rfl rfl ?_
 try simp only[D3.rs,adn,bZ,Af,go_sem]
def EH.s0:SC:=
 SQ [SQ [RG [wV 18 11 3,wV 19 3 27,wL 20 19 27 3 [19],wO 21 .lss 3 18 20 3 4 [18,20]],CN 21 .skip (.exit 0)],.block 1 (SQ [RG [wV 24 2 3,wV 25 11 3,wO 26 .add 3 24 25 3 3 [24,25],wG 12 26 3 [26]],RG [wV 27 1 3,oQ 28 (.binOp .mul 3 (.const (.int .i64 301)) (.tmp 27) 3) 3 [27],wV 29 12 3,wK 30 .quo 3 29 2 3 3 [29],wO 31 .add 3 28 30 3 3 [28,30],wG 13 31 3 [31]],.aO [wV 32 10 39,wV 33 13 3,
 wV 34 12 3,wK 35 .rem 3 34 2 3 3,wV 36 3 27,wV 37 11 3,wI 38 27 36 37,wD 39 122 38,wI 40 39 32 33,wI 41 139 40 35,wS 122 41 39] [[],[],[],[2],[],[],[4,5],[4,5,6],[0,1],[0,1,8,2,3,4,5,6,7],[0,1,8,2,3,4,5,6,7,9]] [32,33,34,35,36,37,38,39,40,41],RG [wV 42 11 3,wV 43 3 27,wL 44 43 27 3 [43],wK 45 .sub 3 44 1 3 3 [44],wO 46 .eql 3 42 45 3 4 [42,45],wV 47 46 4 [46],gd 47 false (wV 48 12 3),
 gd 47 false (wK 49 .add 3 48 1 3 3 [48]),gd 47 false (wK 50 .quo 3 49 2 3 3 [49]),gd 47 false (wV 51 12 3 [12]),gd 47 false (wK 52 .quo 3 51 2 3 3 [51]),gd 47 false (wO 53 .neq 3 50 52 3 4 [50,52]),wT 54 47 53 4 [47,53]],CN 54 (.aO [wF 55 42 9 1,wD 56 40 55,wV 57 13 3,wV 58 10 39,wV 59 13 3,wI 60 39 58 59,wD 61 139 60,oQ 62 (.build 141 #[(0,.tmp 57),(1,.tmp 61)]) 141,
 oQ 63 (.buildSlice 40 1 #[(0,.tmp 62)]) 40,wP 64 56 63 40 40 40,wF 65 42 9 1,wS 40 65 64] [[],[0],[],[],[],[3,4],[3,4,5],[2,3,4,5,6],[2,3,4,5,6,7],[0,1,2,3,4,5,6,7,8],[0,1,2,3,4,5,6,7,8,9],[0,1,2,3,4,5,6,7,8,9,10]] [13,55,56,57,58,59,60,61,62,63,64,65]) .skip]),RG [wV 22 11 3 [11],wK 23 .add 3 22 1 3 3 [22],wG 11 23 3 [23]]]
def EH.c:SC:=
 SQ [RG [wE 4 42 0 [0],wA 8 42],RG [wD 14 42 4,wU 15 76 14 42 42 [14],wA 9 42,wS 42 9 15 [15]],RG [wD 16 42 4 [4],wU 17 84 16 42 39 [16],wG 10 17 39 [17]],SQ [RG [wN 11 0 3],.block 0 (.loop EH.s0)],RG [wD 66 42 9 [9],wS 42 8 66 [66]],.ret]
def BK.b0 (k:Nat) (a1:Int) (aX:Int) (l3:(List (Aa 32 Int))):(Int×(List Aq)×(List (Aa 2 (Aa 32 Int))))->Option (AT (Int×(List Aq)×(List (Aa 2 (Aa 32 Int)))) ((List Aq)) (Ac)):=fun s=>match s with
 |(i5,l6,l7)=>
   bif decide (i5<(l3.length:Int)) then
    (at? l3 i5).bind fun cE=>
    (at? l7 (ab ((ab (301*a1))+(ab (Int.tdiv (ab (aX+i5)) 2))))).bind fun df=>
    (df.at? (Int.tmod (ab (aX+i5)) 2)).bind fun gQ=>
    (dJ l7 (ab ((ab (301*a1))+(ab (Int.tdiv (ab (aX+i5)) 2)))) (df.set (Int.tmod (ab (aX+i5)) 2) cE)).bind fun cu=>
    bif (!decide (i5=ab ((l3.length:Int) - 1))) then
     bif (!decide (ab (Int.tdiv (ab ((ab (aX+i5))+1)) 2)=ab (Int.tdiv (ab (aX+i5)) 2))) then
      (at? cu (ab ((ab (301*a1))+(ab (Int.tdiv (ab (aX+i5)) 2))))).bind fun iV=>
      (fG 72 l6 (⟨ab ((ab (301*a1))+(ab (Int.tdiv (ab (aX+i5)) 2))),iV⟩:Aq)).bind fun qk=>
      some (.next (ab (i5+1),qk,cu))
     else
      some (.next (ab (i5+1),l6,cu))
    else
     (at? cu (ab ((ab (301*a1))+(ab (Int.tdiv (ab (aX+i5)) 2))))).bind fun kD=>
     (fG 72 l6 (⟨ab ((ab (301*a1))+(ab (Int.tdiv (ab (aX+i5)) 2))),kD⟩:Aq)).bind fun rJ=>
     some (.next (ab (i5+1),rJ,cu))
   else
    some (.brk l6)
def BK.h0 (a1:Int) (aX:Int) (l3:(List (Aa 32 Int))) (x2:Ac):(Int×(List Aq)×(List (Aa 2 (Aa 32 Int))))->St:=fun s=>match s with
 |(i5,l6,l7)=>⟨[(1,.int .i64 a1),(2,.int .i64 aX),(3,.sl 32 (List.map (Aa.c (n:=32) af) l3)),(8,.ptr 0 0 0),(9,.ptr 0 3 0),(10,.loc 0 5 64 0 l7.length l7.length),(11,.int .i64 i5)],[(0,.box ([.loc 0 1 64 0 0 0,.loc 0 2 65 0 0 0])),(1,.arr 139 64 (List.map (Aa.c (n:=2) (Aa.c (n:=32) af)) [])),(2,.arr 141 65 (List.map Aq.c [])),(3,.box ([.sl 64 (List.map (Aa.c (n:=2) (Aa.c (n:=32) af)) x2.Ae),.loc 0 4 65 0 l6.length l6.length])),(4,.arr 141 65 (List.map Aq.c l6)),(5,.arr 139 64 (List.map (Aa.c (n:=2) (Aa.c (n:=32) af)) l7))],[],6,Try.f77.ntmps⟩
def BK.x0 (x2:Ac):(List Aq)->St:=fun l8=>⟨[(8,.ptr 0 0 0),(9,.ptr 0 3 0)],[(0,.box ([.loc 0 1 64 0 0 0,.loc 0 2 65 0 0 0])),(1,.arr 139 64 (List.map (Aa.c (n:=2) (Aa.c (n:=32) af)) [])),(2,.arr 141 65 (List.map Aq.c [])),(3,.box ([.sl 64 (List.map (Aa.c (n:=2) (Aa.c (n:=32) af)) x2.Ae),.loc 0 4 65 0 l8.length l8.length])),(4,.arr 141 65 (List.map Aq.c l8))],[],5,Try.f77.ntmps⟩
def BK (k:Nat) (d0:Ac) (a1:Int) (aX:Int) (l3:(List (Aa 32 Int))):Option (Ac):=
 (EY k d0).bind fun x2=>
 (Cv k d0).bind fun x4=>
 (aj (BK.b0 k a1 aX l3) k (0,x2.Ad,x4)).bind fun rX=>match rX with
 |.next _=>none
 |.ret v_=>some v_
 |.brk l8=>
  some (⟨x2.Ae,l8⟩:Ac)
theorem FQ (k:Nat) (d0:Ac) (a1:Int) (aX:Int) (l3:(List (Aa 32 Int))) (r:Ac) (h0:BK k d0 a1 aX l3=some r):Aw Try.prog 77 [.agg (Ac.c d0),.int .i64 a1,.int .i64 aX,.sl 32 (List.map (Aa.c (n:=32) af) l3)] (fun y=>y=.agg (Ac.c r)):=by
 refine PB Try.f77 EH.c [.cell 8 42] ?_
 simp only[BK]at h0
 try simp only[EH.c,go_sem]
 obtain⟨x2,eo,h0⟩:=bs h0
 refine HW [] [] (IC k _ _ eo) ?_ rfl ?_
 try simp only[fN,go_sem]
 try simp only[go_sem]
 refine AK.su (Ah.fz 48 rfl (fun _ h=>by cases h)) ?_
 try simp only[go_sem]
 refine rS ?_
 try simp only[go_sem]
 obtain⟨x4,bN,h0⟩:=bs h0
 refine CG Ax 1000 [] [] (IV k _ _ bN) ?_ rfl ?_
 try simp only[fN,Bg,go_sem]
 try simp only[go_sem]
 obtain⟨rX,aay,h0⟩:=bs h0
 refine Bf aay (BK.h0 a1 aX l3 x2) (BK.x0 x2) ?_ ?_ ?_
 refine Ah.go [1,2,3,8,9,10,11] [16,17,18,64,49,112] rfl ?_
 try simp only[BK.h0,go_sem]
 rintro⟨i5,l6,l7⟩ cO Bm Bn h1 aJ aH bK
 refine rS ?_
 simp only[BK.b0]at h1
 try simp only[EH.s0,BK.h0,go_sem]
 refine AS h1 ?_ ?_<;>intro c9 h1<;>have F:=c9<;>try simp only[F,go_sem]
 refine AL Ax aS 1000 ?_
 try simp only[F,go_sem]
 obtain⟨cE,mW,h1⟩:=bs h1
 have F:=an (aC mW) (an (aD (Aa.c (n:=32) af) mW) F)
 try simp only[F,go_sem]
 obtain⟨df,mi,h1⟩:=bs h1
 have F:=an (aC mi) (an (aD (Aa.c (n:=2) (Aa.c (n:=32) af)) mi) F)
 try simp only[F,go_sem]
 obtain⟨gQ,oW,h1⟩:=bs h1
 have ai7:=Ao.bH gA (Ao.self fv df) oW
 have ajw:=ai7.2
 try simp only[AA,Az,go_sem]at ajw
 have F:=an (aq oW) (an ajw F)
 try simp only[F,go_sem]
 obtain⟨cu,oV,h1⟩:=bs h1
 have zW:=ai7.1.ow cE
 try simp only[AA,Az,go_sem]at zW
 have xK:=lj (Aa.c (n:=2) (Aa.c (n:=32) af)) oV
 try simp only[go_sem]at xK
 have F:=an xK (an (kt oV) (an (lk (Aa.c (n:=2) (Aa.c (n:=32) af)) oV) F))
 try simp only[zW,F,go_sem]
 refine aF ?_
 try simp only[F,go_sem]
 refine Bt F h1 ?_ ?_<;>intro F h1<;>try simp only[F,go_sem]
 refine Bt F h1 ?_ ?_<;>intro F h1<;>try simp only[F,go_sem]
 refine AL Ax aS 1000 ?_
 try simp only[F,go_sem]
 obtain⟨iV,oZ,h1⟩:=bs h1
 have agz:=aC oZ
 simp only[F,go_sem]at agz
 have F:=an agz (an (aD (Aa.c (n:=2) (Aa.c (n:=32) af)) oZ) F)
 try simp only[F,go_sem]
 obtain⟨qk,uA,h1⟩:=bs h1
 have ajQ:=pu Aq.c uA
 try simp only[F,go_sem]at ajQ
 have F:=an ajQ F
 try simp only[F,go_sem]
 refine aF ?_
 try simp only[F,go_sem]
 refine AB (aJ _ _ (oi h1).symm (Ah.go [1,2,3,8,9,10,11] [0,1,2,3,4,5] rfl ?_))
 try simp only[BK.h0,F,go_sem]
 refine AB (aJ _ _ (oi h1).symm (Ah.go [1,2,3,8,9,10,11] [0,1,2,3,4,5] rfl ?_))
 try simp only[BK.h0,F,go_sem]
 refine AL Ax aS 1000 ?_
 try simp only[F,go_sem]
 obtain⟨kD,o8,h1⟩:=bs h1
 have xM:=aC o8
 simp only[F,go_sem]at xM
 have F:=an xM (an (aD (Aa.c (n:=2) (Aa.c (n:=32) af)) o8) F)
 try simp only[F,go_sem]
 obtain⟨rJ,aav,h1⟩:=bs h1
 have sB:=pu Aq.c aav
 try simp only[F,go_sem]at sB
 have F:=an sB F
 try simp only[F,go_sem]
 refine aF ?_
 try simp only[F,go_sem]
 refine AB (aJ _ _ (oi h1).symm (Ah.go [1,2,3,8,9,10,11] [0,1,2,3,4,5] rfl ?_))
 try simp only[BK.h0,F,go_sem]
 refine AB (aH _ _ (oi h1).symm (Ah.go [8,9] [0,1,2,3,4] rfl ?_))
 try simp only[BK.x0,F,go_sem]
 rintro l8 aK
 subst aK
 simp only at h0
 refine rS ?_
 try simp only[BK.x0,go_sem]
 obtain rfl:=oi h0
 refine Ag rfl ?_
 try simp only[go_sem]
def G7.c:SC:=
 SQ [RG [wE 3 42 0 [0],wE 4 48 1 [1],wE 5 25 2 [2],wA 6 42,wA 7 48,wN 8 0 28 [8]],SQ [RG [wD 14 42 3,wD 15 48 4,wW 16 25 14 15 42 48 28 [14,15],wK 17 .neq 28 16 0 28 4 [16]],CN 17 (SQ [RG [oQ 18 (.build 42 #[]) 42,oQ 19 (.build 48 #[]) 48,wS 42 6 18 [18],wS 48 7 19 [19],wN 8 94 28],.ret]) .skip],SQ [RG [wD 20 25 5,wU 21 31 20 25 28 [20],wK 22 .neq 28 21 0 28 4 [21]],
 CN 22 (SQ [RG [oQ 23 (.build 42 #[]) 42,oQ 24 (.build 48 #[]) 48,wS 42 6 23 [23],wS 48 7 24 [24],wN 8 90 28],.ret]) .skip],RG [wF 26 48 4 0,wF 27 46 26 0 [26],wD 28 44 27 [27],wD 29 25 5,wW 30 75 28 29 44 25 100 [28,29],wV 25 30 100 [30],wX 31 25 0 44,wX 32 25 1 28 [25],wG 9 31 44 [31],wG 10 32 28 [32]],SQ [RG [wV 33 10 28,wK 34 .neq 28 33 0 28 4 [33]],CN 34 (SQ [RG [oQ 35 (.build 42 #[]) 42,
 oQ 36 (.build 48 #[]) 48,wV 37 10 28 [10],wS 42 6 35 [35],wS 48 7 36 [36],wG 8 37 28 [37]],.ret]) .skip],RG [wD 38 48 4,wA 11 48,wS 48 11 38 [38]],RG [wV 39 9 44,oQ 40 (.build 46 #[(0,.tmp 39)]) 46 [39],wF 41 48 11 0,wS 46 41 40 [40,41]],SQ [RG [wV 42 9 44 [9],wL 43 42 44 3 [42],wF 44 48 4 0,wF 45 46 44 0 [44],wD 46 44 45 [45],wL 47 46 44 3 [46],wO 48 .eql 3 43 47 3 4 [43,47]],
 CN 48 (SQ [.aO [wD 49 42 3,wU 50 76 49 42 42,wD 51 48 11,wS 42 6 50,wS 48 7 51,wN 8 0 28] [[],[0],[],[0,1],[2,0,1,3],[2,0,1,3,4]] [3,11,49,50,51],.ret]) .skip],RG [wD 52 25 5 [5],wF 53 48 4 0,wF 54 46 53 0 [53],wD 55 44 54 [54],wL 56 55 44 3 [55],wF 57 48 4 2,wD 58 3 57 [57],wC 59 68 #[.tmp 52,.tmp 56,.tmp 58] #[25,3,3] 27 [52,56,58],wG 12 59 27 [59]],RG [wD 60 42 3 [3],wF 61 48 4 1,
 wD 62 3 61 [61],wF 63 48 4 3,wD 64 3 63 [63],wV 65 12 27,wC 66 77 #[.tmp 60,.tmp 62,.tmp 64,.tmp 65] #[42,3,3,27] 42 [60,62,64,65],wA 13 42,wS 42 13 66 [66]],SQ [RG [wF 67 42 13 1,wD 68 40 67 [67],wL 69 68 40 3 [68],wK 70 .gtr 3 69 1200 3 4 [69]],CN 70 (SQ [RG [oQ 71 (.build 42 #[]) 42,oQ 72 (.build 48 #[]) 48,wS 42 6 71 [71],wS 48 7 72 [72],wN 8 2 28],.ret]) .skip],RG [wF 73 48 4 3 [4],
 wD 74 3 73 [73],wV 75 12 27 [12],wL 76 75 27 3 [75],wO 77 .add 3 74 76 3 3 [74,76],wF 78 48 11 3,wS 3 78 77 [77,78]],.aO [wD 79 42 13,wD 80 48 11,wS 42 6 79,wS 48 7 80,wN 8 0 28] [[],[],[0],[1,0,2],[1,0,2,3]] [11,13,79,80],.ret]
def CW (k:Nat) (d0:Ac) (l1:Ay) (r2:Ab):Option (Ac×Ay×Int):=
 (CX k d0 l1).bind fun x1=>
 bif (!decide (x1=(0:Int))) then
  some ((⟨[],[]⟩:Ac),(⟨(⟨[]⟩:Ai),0,0,0⟩:Ay),94)
 else
  (Ed k r2).bind fun x3=>
  bif (!decide (x3=(0:Int))) then
   some ((⟨[],[]⟩:Ac),(⟨(⟨[]⟩:Ai),0,0,0⟩:Ay),90)
  else
   (B9 k l1.Ai.Al r2).bind fun x5=>
   bif (!decide (x5.2=(0:Int))) then
    some ((⟨[],[]⟩:Ac),(⟨(⟨[]⟩:Ai),0,0,0⟩:Ay),x5.2)
   else
    bif decide ((x5.1.length:Int)=(l1.Ai.Al.length:Int)) then
     (DT k d0).bind fun x8=>
     some (x8,(⟨(⟨x5.1⟩:Ai),l1.BB,l1.AG,l1.Used⟩:Ay),0)
    else
     (Ch k r2 (l1.Ai.Al.length:Int) l1.AG).bind fun x9=>
     (BK k d0 l1.BB l1.Used x9).bind fun cE=>
     bif decide ((1200:Int)<(cE.Ad.length:Int)) then
      some ((⟨[],[]⟩:Ac),(⟨(⟨[]⟩:Ai),0,0,0⟩:Ay),2)
     else
      some (cE,(⟨(⟨x5.1⟩:Ai),l1.BB,l1.AG,ab (l1.Used+(x9.length:Int))⟩:Ay),0)
theorem HD (k:Nat) (d0:Ac) (l1:Ay) (r2:Ab) (r:Ac×Ay×Int) (h0:CW k d0 l1 r2=some r):Aw Try.prog 21 [.agg (Ac.c d0),.agg (Ay.c l1),.agg (Ab.c r2)] (fun y=>y=.ar [.agg (Ac.c r.1),.agg (Ay.c r.2.1),.int .i64 r.2.2]):=by
 refine PB Try.f21 G7.c [.cell 6 42,.cell 7 48,.tmp 8] ?_
 simp only[CW]at h0
 try simp only[G7.c,go_sem]
 refine au h0 (FI k _ _) ?_ (fun x1 h0=>?_)<;>try simp only[go_sem]
 refine Cr h0 ?_ ?_<;>intro c2 h0<;>have F:=c2<;>try simp only[F,go_sem]
 obtain rfl:=oi h0
 refine Ag rfl ?_
 try simp only[F,go_sem]
 refine au h0 (HE k _) ?_ (fun x3 h0=>?_)<;>try simp only[F,go_sem]
 refine Bt F h0 ?_ ?_<;>intro F h0<;>try simp only[F,go_sem]
 obtain rfl:=oi h0
 refine Ag rfl ?_
 try simp only[F,go_sem]
 refine au h0 (FN k _ _) ?_ (fun x5 h0=>?_)<;>try simp only[F,go_sem]
 refine Bt F h0 ?_ ?_<;>intro F h0<;>try simp only[F,go_sem]
 obtain rfl:=oi h0
 refine Ag rfl ?_
 try simp only[F,go_sem]
 refine AF F h0 ?_ ?_<;>intro F h0<;>try simp only[F,go_sem]
 refine AL Ax aS 1000 ?_
 try simp only[F,go_sem]
 refine cn h0 (FJ k _) ?_ (fun x8 h0=>?_)<;>try simp only[F,go_sem]
 refine aF ?_
 try simp only[F,go_sem]
 obtain rfl:=oi h0
 refine Ag rfl ?_
 try simp only[F,go_sem]
 refine au h0 (FO k _ _ _) ?_ (fun x9 h0=>?_)<;>try simp only[F,go_sem]
 refine au h0 (FQ k _ _ _ _) ?_ (fun cE h0=>?_)<;>try simp only[F,go_sem]
 refine AF F h0 ?_ ?_<;>intro F h0<;>try simp only[F,go_sem]
 obtain rfl:=oi h0
 refine Ag rfl ?_
 try simp only[F,go_sem]
 refine AL Ax aS 1000 ?_
 try simp only[F,go_sem]
 refine aF ?_
 try simp only[F,go_sem]
 obtain rfl:=oi h0
 refine Ag rfl ?_
 try simp only[F,go_sem]
def Hh.c:SC:=
 SQ [RG [wE 1 42 0 [0],wA 2 42,wA 3 48,wN 4 0 28 [4]],SQ [RG [wD 10 42 1,wU 11 83 10 42 4 [10],wQ 12 11 4 [11]],CN 12 (SQ [RG [oQ 13 (.build 42 #[]) 42,oQ 14 (.build 48 #[]) 48,wS 42 2 13 [13],wS 48 3 14 [14],wN 4 94 28],.ret]) .skip],RG [wD 15 42 1 [1],wU 16 84 15 42 39 [15],wG 5 16 39 [16]],RG [wV 18 5 39,wU 19 85 18 39 151 [18],wV 17 19 151 [19],wX 20 17 0 3,wX 21 17 1 150,wX 22 17 2 4 [17],
 wA 7 150,wG 6 20 3 [20],wS 150 7 21 [21],wG 8 22 4 [22]],SQ [RG [wV 23 8 4 [8],wQ 24 23 4 [23]],CN 24 (SQ [RG [oQ 25 (.build 42 #[]) 42,oQ 26 (.build 48 #[]) 48,wS 42 2 25 [25],wS 48 3 26 [26],wN 4 95 28],.ret]) .skip],RG [wV 27 5 39,wC 28 87 #[.tmp 27,.const (.int .i64 0),.const (.int .i64 0)] #[39,3,3] 3 [27],wV 29 5 39,wC 30 87 #[.tmp 29,.const (.int .i64 1),.const (.int .i64 0)] #[39,3,
 3] 3 [29],oQ 31 (.call ⟨.builtin .max,#[.tmp 28,.tmp 30],#[3,3]⟩) 3 [28,30],wK 32 .add 3 31 1 3 3 [31],wG 9 32 3 [32]],SQ [RG [wV 33 9 3,wK 34 .gtr 3 33 1000000 3 4 [33]],CN 34 (SQ [RG [oQ 35 (.build 42 #[]) 42,oQ 36 (.build 48 #[]) 48,wS 42 2 35 [35],wS 48 3 36 [36],wN 4 2 28],.ret]) .skip],.aO [wV 37 5 39,oQ 38 (.build 42 #[(0,.tmp 37)]) 42,wF 39 150 7 1,wD 40 44 39,wU 41 86 40 44 46,
 wV 42 6 3,wV 43 9 3,wF 44 150 7 2,wD 45 3 44,oQ 46 (.build 48 #[(0,.tmp 41),(1,.tmp 42),(2,.tmp 43),(3,.tmp 45)]) 48,wS 42 2 38,wS 48 3 46,wN 4 0 28] [[],[0],[],[2],[2,3],[],[],[],[7],[2,3,4,5,6,7,8],[0,1,2,3,4],[2,3,4,5,6,7,8,9,0,1,10],[2,3,4,5,6,7,8,9,0,1,10,11]] [5,6,7,9,37,38,39,40,41,42,43,44,45,46],.ret]
def Dn (k:Nat) (d0:Ac):Option (Ac×Ay×Int):=
 (BZ k d0).bind fun x1=>
 bif (!x1) then
  some ((⟨[],[]⟩:Ac),(⟨(⟨[]⟩:Ai),0,0,0⟩:Ay),94)
 else
  (Cn k d0).bind fun x3=>
  (DA k x3).bind fun x4=>
  bif (!x4.2.2) then
   some ((⟨[],[]⟩:Ac),(⟨(⟨[]⟩:Ai),0,0,0⟩:Ay),95)
  else
   (BG k x3 0 0).bind fun x6=>
   (BG k x3 1 0).bind fun x7=>
   bif decide ((1000000:Int)<ab ((max x6 x7)+1)) then
    some ((⟨[],[]⟩:Ac),(⟨(⟨[]⟩:Ai),0,0,0⟩:Ay),2)
   else
    (BW k x4.2.1.Al).bind fun x9=>
    some ((⟨x3,[]⟩:Ac),(⟨x9,x4.1,ab ((max x6 x7)+1),x4.2.1.Used⟩:Ay),0)
theorem II (k:Nat) (d0:Ac) (r:Ac×Ay×Int) (h0:Dn k d0=some r):Aw Try.prog 33 [.agg (Ac.c d0)] (fun y=>y=.ar [.agg (Ac.c r.1),.agg (Ay.c r.2.1),.int .i64 r.2.2]):=by
 refine PB Try.f33 Hh.c [.cell 2 42,.cell 3 48,.tmp 4] ?_
 simp only[Dn]at h0
 try simp only[Hh.c,go_sem]
 refine au h0 (Ft k _) ?_ (fun x1 h0=>?_)<;>try simp only[go_sem]
 refine Cr h0 ?_ ?_<;>intro c2 h0<;>have F:=c2<;>try simp only[F,go_sem]
 obtain rfl:=oi h0
 refine Ag rfl ?_
 try simp only[F,go_sem]
 refine au h0 (FP k _) ?_ (fun x3 h0=>?_)<;>try simp only[F,go_sem]
 refine au h0 (HN k _) ?_ (fun x4 h0=>?_)<;>try simp only[F,go_sem]
 refine Bt F h0 ?_ ?_<;>intro F h0<;>try simp only[F,go_sem]
 obtain rfl:=oi h0
 refine Ag rfl ?_
 try simp only[F,go_sem]
 refine au h0 (E9 k _ _ _) ?_ (fun x6 h0=>?_)<;>try simp only[F,go_sem]
 refine au h0 (E9 k _ _ _) ?_ (fun x7 h0=>?_)<;>try simp only[F,go_sem]
 refine AF F h0 ?_ ?_<;>intro F h0<;>try simp only[F,go_sem]
 obtain rfl:=oi h0
 refine Ag rfl ?_
 try simp only[F,go_sem]
 refine AL Ax aS 1000 ?_
 try simp only[F,go_sem]
 refine cn h0 (HJ k _) ?_ (fun x9 h0=>?_)<;>try simp only[F,go_sem]
 refine aF ?_
 try simp only[F,go_sem]
 obtain rfl:=oi h0
 refine Ag rfl ?_
 try simp only[F,go_sem]
def Hi.c:SC:=
 SQ [RG [wE 1 42 0 [0],wA 2 42],SQ [RG [wD 3 42 1,wU 4 83 3 42 4 [3],wQ 5 4 4 [4]],CN 5 (SQ [RG [wD 6 42 1 [1],wU 7 76 6 42 42 [6],wS 42 2 7 [7]],.ret]) .skip],RG [wD 8 42 1 [1],wU 9 84 8 42 39 [8],oQ 10 (.build 42 #[(0,.tmp 9)]) 42 [9],wS 42 2 10 [10]],.ret]
def Dz (k:Nat) (d0:Ac):Option (Ac):=
 (BZ k d0).bind fun x1=>
 bif (!x1) then
  (DT k d0).bind fun x3=>
  some x3
 else
  (Cn k d0).bind fun x4=>
  some (⟨x4,[]⟩:Ac)
theorem Fu (k:Nat) (d0:Ac) (r:Ac) (h0:Dz k d0=some r):Aw Try.prog 35 [.agg (Ac.c d0)] (fun y=>y=.agg (Ac.c r)):=by
 refine PB Try.f35 Hi.c [.cell 2 42] ?_
 simp only[Dz]at h0
 try simp only[Hi.c,go_sem]
 refine au h0 (Ft k _) ?_ (fun x1 h0=>?_)<;>try simp only[go_sem]
 refine Cr h0 ?_ ?_<;>intro c2 h0<;>have F:=c2<;>try simp only[F,go_sem]
 refine au h0 (FJ k _) ?_ (fun x3 h0=>?_)<;>try simp only[F,go_sem]
 obtain rfl:=oi h0
 refine Ag rfl ?_
 try simp only[F,go_sem]
 refine au h0 (FP k _) ?_ (fun x4 h0=>?_)<;>try simp only[F,go_sem]
 obtain rfl:=oi h0
 refine Ag rfl ?_
 try simp only[F,go_sem]
def Hj.c:SC:=
 SQ [RG [wN 4 0 3 [4]],RG [wV 5 0 3 [0],wV 6 1 3,wO 7 .rem 3 5 6 3 3 [5,6],wV 8 1 3,wO 9 .add 3 7 8 3 3 [7,8],wV 10 1 3 [1],wO 11 .rem 3 9 10 3 3 [9,10],wG 4 11 3 [11]],.ret]
def B7 (k:Nat) (n0:Int) (m1:Int):Option (Int):=
 (oJ m1).bind fun _=>
 some (Int.tmod (ab ((Int.tmod n0 m1)+m1)) m1)
theorem CQ (k:Nat) (n0:Int) (m1:Int) (r:Int) (h0:B7 k n0 m1=some r):Aw Try.prog 39 [.int .i64 n0,.int .i64 m1] (fun y=>y=.int .i64 r):=by
 refine PB Try.f39 Hj.c [.tmp 4] ?_
 simp only[B7]at h0
 try simp only[Hj.c,go_sem]
 obtain⟨u1,iD,h0⟩:=bs h0
 have F:=aeg iD
 try simp only[F,go_sem]
 obtain rfl:=oi h0
 refine Ag rfl ?_
 try simp only[F,go_sem]
def EB.s0:SC:=
 SQ [SQ [RG [wV 18 6 3,wF 19 42 2 1,wD 20 40 19 [19],wL 21 20 40 3 [20],wO 22 .lss 3 18 21 3 4 [18,21]],CN 22 .skip (.exit 0)],.block 1 (SQ [RG [wN 7 0 3],SQ [RG [wV 25 1 63,wL 26 25 63 3 [25],wK 27 .gtr 3 26 0 3 4 [26]],CN 27 (RG [wV 28 1 63,wV 29 6 3,wV 30 1 63,wL 31 30 63 3 [30],wO 32 .rem 3 29 31 3 3 [29,31],wI 33 63 28 32 [28,32],wD 34 3 33 [33],wC 35 39 #[.tmp 34,.const (.int .i64 4)] #[3,
 3] 3 [34],wG 7 35 3 [35]]) .skip],RG [wF 36 42 2 1,wD 37 40 36 [36],wV 38 6 3,wI 39 40 37 38 [37,38],wD 40 141 39 [39],wA 8 141,wS 141 8 40 [40]],SQ [RG [wV 41 7 3,wK 42 .and 3 41 1 3 3 [41],wK 43 .eql 3 42 1 3 4 [42]],CN 43 (.aO [wV 44 5 39,wF 45 141 8 0,wD 46 3 45,wF 47 141 8 1,wJ 48 139 47 0,wD 49 122 48,wI 50 39 44 46,wJ 51 139 50 0,wS 122 51 49] [[],[],[1],[],[3],[3,4],[0,1,2],[0,1,2,6,3,4,
 5],[0,1,2,6,3,4,5,7]] [44,45,46,47,48,49,50,51]) .skip],RG [wV 52 7 3 [7],wK 53 .and 3 52 2 3 3 [52],wK 54 .eql 3 53 2 3 4 [53]],CN 54 (.aO [wV 55 5 39,wF 56 141 8 0,wD 57 3 56,wF 58 141 8 1,wJ 59 139 58 1,wD 60 122 59,wI 61 39 55 57,wJ 62 139 61 1,wS 122 62 60] [[],[],[1],[],[3],[3,4],[0,1,2],[0,1,2,6,3,4,5],[0,1,2,6,3,4,5,7]] [8,55,56,57,58,59,60,61,62]) .skip]),RG [wV 23 6 3 [6],
 wK 24 .add 3 23 1 3 3 [23],wG 6 24 3 [24]]]
def EB.c:SC:=
 SQ [RG [wE 2 42 0 [0],wA 4 42],SQ [RG [wD 9 42 2,wU 10 83 9 42 4 [9],wQ 11 10 4 [10]],CN 11 (SQ [RG [wD 12 42 2 [2],wU 13 76 12 42 42 [12],wS 42 4 13 [13]],.ret]) .skip],RG [oQ 14 (.buildSlice 39 0 #[]) 39,wF 15 42 2 0,wD 16 39 15 [15],wP 17 14 16 39 39 39 [14,16],wG 5 17 39 [17]],SQ [RG [wN 6 0 3],.block 0 (.loop EB.s0)],RG [wV 63 5 39 [5],oQ 64 (.build 42 #[(0,.tmp 63)]) 42 [63],
 wS 42 4 64 [64]],.ret]
def BH.b0 (k:Nat) (d0:Ac) (dm:(List Int)):(Int×(List (Aa 2 (Aa 32 Int))))->Option (AT (Int×(List (Aa 2 (Aa 32 Int)))) ((List (Aa 2 (Aa 32 Int)))) (Ac)):=fun s=>match s with
 |(i5,l6)=>
   bif decide (i5<(d0.Ad.length:Int)) then
    bif decide ((0:Int)<(dm.length:Int)) then
     (oJ (dm.length:Int)).bind fun _=>
     (at? dm (Int.tmod i5 (dm.length:Int))).bind fun df=>
     (B7 k df 4).bind fun gQ=>
     (at? d0.Ad i5).bind fun cF=>
     bif decide (dN .i64 gQ 1=(1:Int)) then
      (cF.AE.at? 0).bind fun cM=>
      (at? l6 cF.At).bind fun dx=>
      (dx.at? 0).bind fun iV=>
      (dJ l6 cF.At (dx.set 0 cM)).bind fun l19=>
      bif decide (dN .i64 gQ 2=(2:Int)) then
       (cF.AE.at? 1).bind fun nK=>
       (at? l19 cF.At).bind fun uy=>
       (uy.at? 1).bind fun eJ=>
       (dJ l19 cF.At (uy.set 1 nK)).bind fun zu=>
       some (.next (ab (i5+1),zu))
      else
       some (.next (ab (i5+1),l19))
     else
      bif decide (dN .i64 gQ 2=(2:Int)) then
       (cF.AE.at? 1).bind fun x27=>
       (at? l6 cF.At).bind fun x28=>
       (x28.at? 1).bind fun x29=>
       (dJ l6 cF.At (x28.set 1 x27)).bind fun l31=>
       some (.next (ab (i5+1),l31))
      else
       some (.next (ab (i5+1),l6))
    else
     (at? d0.Ad i5).bind fun gR=>
     bif decide (dN .i64 0 1=(1:Int)) then
      (gR.AE.at? 0).bind fun x34=>
      (at? l6 gR.At).bind fun x35=>
      (x35.at? 0).bind fun x36=>
      (dJ l6 gR.At (x35.set 0 x34)).bind fun l38=>
      bif decide (dN .i64 0 2=(2:Int)) then
       (gR.AE.at? 1).bind fun x40=>
       (at? l38 gR.At).bind fun x41=>
       (x41.at? 1).bind fun x42=>
       (dJ l38 gR.At (x41.set 1 x40)).bind fun l44=>
       some (.next (ab (i5+1),l44))
      else
       some (.next (ab (i5+1),l38))
     else
      bif decide (dN .i64 0 2=(2:Int)) then
       (gR.AE.at? 1).bind fun x46=>
       (at? l6 gR.At).bind fun x47=>
       (x47.at? 1).bind fun x48=>
       (dJ l6 gR.At (x47.set 1 x46)).bind fun l50=>
       some (.next (ab (i5+1),l50))
      else
       some (.next (ab (i5+1),l6))
   else
    some (.brk l6)
def BH.h0 (d0:Ac) (dm:(List Int)):(Int×(List (Aa 2 (Aa 32 Int))))->St:=fun s=>match s with
 |(i5,l6)=>⟨[(1,.sl 1 (List.map eI dm)),(2,.ptr 0 0 0),(4,.ptr 0 1 0),(5,.loc 0 4 64 0 l6.length l6.length),(6,.int .i64 i5)],[(0,.box ([.sl 64 (List.map (Aa.c (n:=2) (Aa.c (n:=32) af)) d0.Ae),.sl 65 (List.map Aq.c d0.Ad)])),(1,.box ([.loc 0 2 64 0 0 0,.loc 0 3 65 0 0 0])),(2,.arr 139 64 (List.map (Aa.c (n:=2) (Aa.c (n:=32) af)) [])),(3,.arr 141 65 (List.map Aq.c [])),(4,.arr 139 64 (List.map (Aa.c (n:=2) (Aa.c (n:=32) af)) l6))],[],5,Try.f37.ntmps⟩
def BH.x0:(List (Aa 2 (Aa 32 Int)))->St:=fun l7=>⟨[(4,.ptr 0 0 0),(5,.loc 0 3 64 0 l7.length l7.length)],[(0,.box ([.loc 0 1 64 0 0 0,.loc 0 2 65 0 0 0])),(1,.arr 139 64 (List.map (Aa.c (n:=2) (Aa.c (n:=32) af)) [])),(2,.arr 141 65 (List.map Aq.c [])),(3,.arr 139 64 (List.map (Aa.c (n:=2) (Aa.c (n:=32) af)) l7))],[],4,Try.f37.ntmps⟩
def BH (k:Nat) (d0:Ac) (dm:(List Int)):Option (Ac):=
 (BZ k d0).bind fun x1=>
 bif (!x1) then
  (DT k d0).bind fun x3=>
  some x3
 else
  (eW d0.Ae.length 64).bind fun _=>
  (aj (BH.b0 k d0 dm) k (0,d0.Ae)).bind fun r51=>match r51 with
  |.next _=>none
  |.ret v_=>some v_
  |.brk l7=>
   some (⟨l7,[]⟩:Ac)
theorem ID (k:Nat) (d0:Ac) (dm:(List Int)) (r:Ac) (h0:BH k d0 dm=some r):Aw Try.prog 37 [.agg (Ac.c d0),.sl 1 (List.map eI dm)] (fun y=>y=.agg (Ac.c r)):=by
 refine PB Try.f37 EB.c [.cell 4 42] ?_
 simp only[BH]at h0
 try simp only[EB.c,go_sem]
 refine au h0 (Ft k _) ?_ (fun x1 h0=>?_)<;>try simp only[go_sem]
 refine Cr h0 ?_ ?_<;>intro c2 h0<;>have F:=c2<;>try simp only[F,go_sem]
 refine au h0 (FJ k _) ?_ (fun x3 h0=>?_)<;>try simp only[F,go_sem]
 obtain rfl:=oi h0
 refine Ag rfl ?_
 try simp only[F,go_sem]
 obtain⟨u4,yu4,h0⟩:=bs h0
 try simp only[lh yu4,F,go_sem]
 obtain⟨r51,ark,h0⟩:=bs h0
 refine Bf ark (BH.h0 d0 dm) (BH.x0) ?_ ?_ ?_
 refine Ah.go [1,2,4,5,6] [0,16,17,18,80] rfl ?_
 try simp only[BH.h0,F,go_sem]
 rintro⟨i5,l6⟩ cO Bm Bn h1 aJ aH bK
 refine rS ?_
 simp only[BH.b0]at h1
 try simp only[EB.s0,BH.h0,F,go_sem]
 refine AF F h1 ?_ ?_<;>intro F h1<;>try simp only[F,go_sem]
 refine AF F h1 ?_ ?_<;>intro F h1<;>try simp only[F,go_sem]
 obtain⟨u10,arl,h1⟩:=bs h1
 have F:=an (aeg arl) F
 try simp only[F,go_sem]
 obtain⟨df,mi,h1⟩:=bs h1
 have F:=an (aC mi) (an (aD eI mi) F)
 try simp only[F,go_sem]
 refine au h1 (CQ k _ _) ?_ (fun gQ h1=>?_)<;>try simp only[F,go_sem]
 obtain⟨cF,qN,h1⟩:=bs h1
 have F:=an (aC qN) (an (aD Aq.c qN) F)
 try simp only[F,go_sem]
 refine AF F h1 ?_ ?_<;>intro F h1<;>try simp only[F,go_sem]
 refine AL Ax aS 1000 ?_
 try simp only[F,go_sem]
 obtain⟨cM,oX,h1⟩:=bs h1
 have ab0:=Ao.bH gA (Ao.skip (Ao.self fv cF.AE) ([.int .i64 cF.At]:List AV)) oX
 have aak:=ab0.2
 try simp only[AA,Az,go_sem]at aak
 have F:=an (aq oX) (an aak F)
 try simp only[F,go_sem]
 obtain⟨dx,oY,h1⟩:=bs h1
 have F:=an (aC oY) (an (aD (Aa.c (n:=2) (Aa.c (n:=32) af)) oY) F)
 try simp only[F,go_sem]
 obtain⟨iV,oZ,h1⟩:=bs h1
 have ab1:=Ao.bH gA (Ao.self fv dx) oZ
 have aal:=ab1.2
 try simp only[AA,Az,go_sem]at aal
 have F:=an (aq oZ) (an aal F)
 try simp only[F,go_sem]
 obtain⟨l19,aeR,h1⟩:=bs h1
 have q18:=ab1.1.ow cM
 try simp only[AA,Az,go_sem]at q18
 have agm:=lj (Aa.c (n:=2) (Aa.c (n:=32) af)) aeR
 try simp only[go_sem]at agm
 have F:=an agm (an (kt aeR) (an (lk (Aa.c (n:=2) (Aa.c (n:=32) af)) aeR) F))
 try simp only[q18,F,go_sem]
 refine aF ?_
 try simp only[F,go_sem]
 refine AF F h1 ?_ ?_<;>intro F h1<;>try simp only[F,go_sem]
 refine AL Ax aS 1000 ?_
 try simp only[F,go_sem]
 obtain⟨nK,fJ,h1⟩:=bs h1
 have ur:=Ao.bH gA (Ao.skip (Ao.self fv cF.AE) ([.int .i64 cF.At]:List AV)) fJ
 have aam:=ur.2
 try simp only[AA,Az,go_sem]at aam
 have F:=an (aq fJ) (an aam F)
 try simp only[F,go_sem]
 obtain⟨uy,ace,h1⟩:=bs h1
 have agA:=aC ace
 simp only[F,go_sem]at agA
 have F:=an agA (an (aD (Aa.c (n:=2) (Aa.c (n:=32) af)) ace) F)
 try simp only[F,go_sem]
 obtain⟨eJ,iE,h1⟩:=bs h1
 have aah:=Ao.bH gA (Ao.self fv uy) iE
 have ajA:=aah.2
 try simp only[AA,Az,go_sem]at ajA
 have F:=an (aq iE) (an ajA F)
 try simp only[F,go_sem]
 obtain⟨zu,aaw,h1⟩:=bs h1
 have q24:=aah.1.ow nK
 try simp only[AA,Az,go_sem]at q24
 have agp:=lj (Aa.c (n:=2) (Aa.c (n:=32) af)) aaw
 try simp only[go_sem]at agp
 have ai0:=lk (Aa.c (n:=2) (Aa.c (n:=32) af)) aaw
 try simp only[F,go_sem]at ai0
 have F:=an agp (an (kt aaw) (an ai0 F))
 try simp only[q24,F,go_sem]
 refine aF ?_
 try simp only[F,go_sem]
 refine AB (aJ _ _ (oi h1).symm (Ah.go [1,2,4,5,6] [0,1,2,3,4] rfl ?_))
 try simp only[BH.h0,F,go_sem]
 refine AB (aJ _ _ (oi h1).symm (Ah.go [1,2,4,5,6] [0,1,2,3,4] rfl ?_))
 try simp only[BH.h0,F,go_sem]
 refine AF F h1 ?_ ?_<;>intro F h1<;>try simp only[F,go_sem]
 refine AL Ax aS 1000 ?_
 try simp only[F,go_sem]
 obtain⟨x27,aj2,h1⟩:=bs h1
 have aqN:=Ao.bH gA (Ao.skip (Ao.self fv cF.AE) ([.int .i64 cF.At]:List AV)) aj2
 have ajB:=aqN.2
 try simp only[AA,Az,go_sem]at ajB
 have F:=an (aq aj2) (an ajB F)
 try simp only[F,go_sem]
 obtain⟨x28,aj3,h1⟩:=bs h1
 have F:=an (aC aj3) (an (aD (Aa.c (n:=2) (Aa.c (n:=32) af)) aj3) F)
 try simp only[F,go_sem]
 obtain⟨x29,aj4,h1⟩:=bs h1
 have aja:=Ao.bH gA (Ao.self fv x28) aj4
 have ajC:=aja.2
 try simp only[AA,Az,go_sem]at ajC
 have F:=an (aq aj4) (an ajC F)
 try simp only[F,go_sem]
 obtain⟨l31,aeS,h1⟩:=bs h1
 have q30:=aja.1.ow x27
 try simp only[AA,Az,go_sem]at q30
 have agr:=lj (Aa.c (n:=2) (Aa.c (n:=32) af)) aeS
 try simp only[go_sem]at agr
 have F:=an agr (an (kt aeS) (an (lk (Aa.c (n:=2) (Aa.c (n:=32) af)) aeS) F))
 try simp only[q30,F,go_sem]
 refine aF ?_
 try simp only[F,go_sem]
 refine AB (aJ _ _ (oi h1).symm (Ah.go [1,2,4,5,6] [0,1,2,3,4] rfl ?_))
 try simp only[BH.h0,F,go_sem]
 refine AB (aJ _ _ (oi h1).symm (Ah.go [1,2,4,5,6] [0,1,2,3,4] rfl ?_))
 try simp only[BH.h0,F,go_sem]
 obtain⟨gR,aaz,h1⟩:=bs h1
 have F:=an (aC aaz) (an (aD Aq.c aaz) F)
 try simp only[F,go_sem]
 refine AF F h1 ?_ ?_<;>intro F h1<;>try simp only[F,go_sem]
 refine AL Ax aS 1000 ?_
 try simp only[F,go_sem]
 obtain⟨x34,aj8,h1⟩:=bs h1
 have aqP:=Ao.bH gA (Ao.skip (Ao.self fv gR.AE) ([.int .i64 gR.At]:List AV)) aj8
 have ajF:=aqP.2
 try simp only[AA,Az,go_sem]at ajF
 have F:=an (aq aj8) (an ajF F)
 try simp only[F,go_sem]
 obtain⟨x35,aj9,h1⟩:=bs h1
 have F:=an (aC aj9) (an (aD (Aa.c (n:=2) (Aa.c (n:=32) af)) aj9) F)
 try simp only[F,go_sem]
 obtain⟨x36,aka,h1⟩:=bs h1
 have ajc:=Ao.bH gA (Ao.self fv x35) aka
 have ajG:=ajc.2
 try simp only[AA,Az,go_sem]at ajG
 have F:=an (aq aka) (an ajG F)
 try simp only[F,go_sem]
 obtain⟨l38,aeU,h1⟩:=bs h1
 have q37:=ajc.1.ow x34
 try simp only[AA,Az,go_sem]at q37
 have agt:=lj (Aa.c (n:=2) (Aa.c (n:=32) af)) aeU
 try simp only[go_sem]at agt
 have F:=an agt (an (kt aeU) (an (lk (Aa.c (n:=2) (Aa.c (n:=32) af)) aeU) F))
 try simp only[q37,F,go_sem]
 refine aF ?_
 try simp only[F,go_sem]
 refine AF F h1 ?_ ?_<;>intro F h1<;>try simp only[F,go_sem]
 refine AL Ax aS 1000 ?_
 try simp only[F,go_sem]
 obtain⟨x40,akb,h1⟩:=bs h1
 have aqQ:=Ao.bH gA (Ao.skip (Ao.self fv gR.AE) ([.int .i64 gR.At]:List AV)) akb
 have ajH:=aqQ.2
 try simp only[AA,Az,go_sem]at ajH
 have F:=an (aq akb) (an ajH F)
 try simp only[F,go_sem]
 obtain⟨x41,akc,h1⟩:=bs h1
 have agB:=aC akc
 simp only[F,go_sem]at agB
 have F:=an agB (an (aD (Aa.c (n:=2) (Aa.c (n:=32) af)) akc) F)
 try simp only[F,go_sem]
 obtain⟨x42,akd,h1⟩:=bs h1
 have ajd:=Ao.bH gA (Ao.self fv x41) akd
 have ajI:=ajd.2
 try simp only[AA,Az,go_sem]at ajI
 have F:=an (aq akd) (an ajI F)
 try simp only[F,go_sem]
 obtain⟨l44,aeV,h1⟩:=bs h1
 have q43:=ajd.1.ow x40
 try simp only[AA,Az,go_sem]at q43
 have agv:=lj (Aa.c (n:=2) (Aa.c (n:=32) af)) aeV
 try simp only[go_sem]at agv
 have ai1:=lk (Aa.c (n:=2) (Aa.c (n:=32) af)) aeV
 try simp only[F,go_sem]at ai1
 have F:=an agv (an (kt aeV) (an ai1 F))
 try simp only[q43,F,go_sem]
 refine aF ?_
 try simp only[F,go_sem]
 refine AB (aJ _ _ (oi h1).symm (Ah.go [1,2,4,5,6] [0,1,2,3,4] rfl ?_))
 try simp only[BH.h0,F,go_sem]
 refine AB (aJ _ _ (oi h1).symm (Ah.go [1,2,4,5,6] [0,1,2,3,4] rfl ?_))
 try simp only[BH.h0,F,go_sem]
 refine AF F h1 ?_ ?_<;>intro F h1<;>try simp only[F,go_sem]
 refine AL Ax aS 1000 ?_
 try simp only[F,go_sem]
 obtain⟨x46,ake,h1⟩:=bs h1
 have aqR:=Ao.bH gA (Ao.skip (Ao.self fv gR.AE) ([.int .i64 gR.At]:List AV)) ake
 have ajJ:=aqR.2
 try simp only[AA,Az,go_sem]at ajJ
 have F:=an (aq ake) (an ajJ F)
 try simp only[F,go_sem]
 obtain⟨x47,akf,h1⟩:=bs h1
 have F:=an (aC akf) (an (aD (Aa.c (n:=2) (Aa.c (n:=32) af)) akf) F)
 try simp only[F,go_sem]
 obtain⟨x48,akg,h1⟩:=bs h1
 have aje:=Ao.bH gA (Ao.self fv x47) akg
 have ajK:=aje.2
 try simp only[AA,Az,go_sem]at ajK
 have F:=an (aq akg) (an ajK F)
 try simp only[F,go_sem]
 obtain⟨l50,aeW,h1⟩:=bs h1
 have q49:=aje.1.ow x46
 try simp only[AA,Az,go_sem]at q49
 have agw:=lj (Aa.c (n:=2) (Aa.c (n:=32) af)) aeW
 try simp only[go_sem]at agw
 have F:=an agw (an (kt aeW) (an (lk (Aa.c (n:=2) (Aa.c (n:=32) af)) aeW) F))
 try simp only[q49,F,go_sem]
 refine aF ?_
 try simp only[F,go_sem]
 refine AB (aJ _ _ (oi h1).symm (Ah.go [1,2,4,5,6] [0,1,2,3,4] rfl ?_))
 try simp only[BH.h0,F,go_sem]
 refine AB (aJ _ _ (oi h1).symm (Ah.go [1,2,4,5,6] [0,1,2,3,4] rfl ?_))
 try simp only[BH.h0,F,go_sem]
 refine AB (aH _ _ (oi h1).symm (Ah.go [4,5] [1,2,3,4] rfl ?_))
 try simp only[BH.x0,F,go_sem]
 rintro l7 aK
 subst aK
 simp only at h0
 refine rS ?_
 try simp only[BH.x0,F,go_sem]
 obtain rfl:=oi h0
 refine Ag rfl ?_
 try simp only[F,go_sem]
def Hw.c:SC:=
 SQ [RG [wE 3 79 1 [1],wA 4 25],RG [wJ 8 79 3 0,wD 9 3 8 [8],wC 10 39 #[.tmp 9,.const (.int .i64 3)] #[3,3] 3 [9],wG 5 10 3 [10]],.aO [wV 11 5 3,wV 12 0 44,wU 13 105 12 44 95,wV 14 5 3,oQ 15 (.index 95 (.tmp 13) (.tmp 14)) 3,oQ 16 (.build 23 #[(0,.tmp 11),(1,.tmp 15)]) 23,wJ 17 79 3 1,wD 18 3 17,wC 19 39 #[.tmp 18,.const (.int .i64 6)] #[3,3] 3,wJ 20 79 3 2,wD 21 3 20,wC 22 39 #[.tmp 21,
 .const (.int .i64 50)] #[3,3] 3,wJ 23 79 3 3,wD 24 3 23,wC 25 39 #[.tmp 24,.const (.int .i64 50)] #[3,3] 3,oQ 26 (.build 25 #[(0,.tmp 16),(1,.tmp 19),(2,.tmp 22),(3,.tmp 25)]) 25,wA 6 25,wS 25 6 26] [[],[],[1],[],[1,2,3],[0,1,2,3,4],[],[6],[6,7,1,2],[],[9],[9,10,6,7,1,2,8],[],[12],[12,13,9,10,6,7,1,2,8,11],[0,1,2,3,4,5,6,7,8,9,10,11,12,13,14],[],[16,0,1,2,3,4,5,6,7,8,9,10,11,12,13,14,15]] [0,11,
 12,13,14,15,16,17,18,19,20,21,22,23,24,25,26],SQ [RG [wF 27 25 6 1,wD 28 3 27 [27],wK 29 .eql 3 28 0 3 4 [28],wV 30 29 4 [29],gd 30 true (wF 31 25 6 0),gd 30 true (wF 32 23 31 1 [31]),gd 30 true (wD 33 3 32 [32]),gd 30 true (wK 34 .gtr 3 33 0 3 4 [33]),wZ 35 30 34 4 [30,34]],CN 35 (SQ [RG [wF 36 25 6 2,⟨none,.store 3 (.tmp 36) (.const (.int .i64 0)),0,none,[36]⟩],RG [wV 37 5 3 [5],
 wJ 38 79 3 2 [3],wD 39 3 38 [38],wF 40 25 6 0,wF 41 23 40 1 [40],wD 42 3 41 [41],wW 43 39 39 42 3 3 3 [39,42],oQ 44 (.build 23 #[(0,.tmp 37),(1,.tmp 43)]) 23 [37,43],wF 45 25 6 4,wS 23 45 44 [44,45]],RG [wD 46 25 6 [6],wS 25 4 46 [46]],.ret]) .skip],SQ [RG [wF 47 25 6 1,wD 48 3 47 [47],wK 49 .eql 3 48 0 3 4 [48]],CN 49 (RG [wF 50 25 6 1,⟨none,.store 3 (.tmp 50) (.const (.int .i64 7)),0,none,
 [50]⟩]) .skip],RG [oQ 51 (.buildSlice 182 5 #[(0,.const (.string ⟨#[]⟩)),(1,.const (.string ⟨#[97]⟩)),(2,.const (.string ⟨#[112,105,101,99,101,32,49,55]⟩)),(3,.const (.string ⟨#[48,32,48,32,49,32,48,32,48,32,48]⟩)),(4,.const (.string ⟨#[97,32,116,101,120,116,32,111,102,32,97,32,108,101,110,103,116,104,32,116,104,97,116,32,116,97,107,101,115,32,116,104,114,101,101,32,104,97,108,118,101,115,32,111,
 102,32,97,32,112,97,103,101]⟩))]) 182,wG 7 51 182 [51]],RG [wV 52 7 182 [7],wJ 53 79 3 4 [3],wD 54 3 53 [53],wC 55 39 #[.tmp 54,.const (.int .i64 5)] #[3,3] 3 [54],wI 56 182 52 55 [52,55],wD 57 9 56 [56],wF 58 25 6 5,wS 9 58 57 [57,58]],RG [wD 59 25 6 [6],wS 25 4 59 [59]],.ret]
def Eh (k:Nat) (l0:(List Ab)) (n1:(Aa 5 Int)):Option (Ab):=
 (n1.at? 0).bind fun x1=>
 (B7 k x1 3).bind fun x2=>
 (Ck k l0).bind fun x3=>
 (x3.at? x2).bind fun x4=>
 (n1.at? 1).bind fun x5=>
 (B7 k x5 6).bind fun x6=>
 (n1.at? 2).bind fun x7=>
 (B7 k x7 50).bind fun x8=>
 (n1.at? 3).bind fun x9=>
 (B7 k x9 50).bind fun cE=>
 bif decide (x6=(0:Int)) then
  bif decide ((0:Int)<x4) then
   (B7 k x7 x4).bind fun cF=>
   some (⟨(⟨x2,x4⟩:Entry),x6,0,cE,(⟨x2,cF⟩:Entry),ByteArray.empty⟩:Ab)
  else
   (n1.at? 4).bind fun bM=>
   (B7 k bM 5).bind fun cM=>
   (at? [ByteArray.empty,(⟨#[97]⟩:ByteArray),(⟨#[112,105,101,99,101,32,49,55]⟩:ByteArray),(⟨#[48,32,48,32,49,32,48,32,48,32,48]⟩:ByteArray),(⟨#[97,32,116,101,120,116,32,111,102,32,97,32,108,101,110,103,116,104,32,116,104,97,116,32,116,97,107,101,115,32,116,104,114,101,101,32,104,97,108,118,101,115,32,111,102,32,97,32,112,97,103,101]⟩:ByteArray)] cM).bind fun dx=>
   some (⟨(⟨x2,x4⟩:Entry),7,x8,cE,(⟨0,0⟩:Entry),dx⟩:Ab)
 else
  (n1.at? 4).bind fun iV=>
  (B7 k iV 5).bind fun nJ=>
  (at? [ByteArray.empty,(⟨#[97]⟩:ByteArray),(⟨#[112,105,101,99,101,32,49,55]⟩:ByteArray),(⟨#[48,32,48,32,49,32,48,32,48,32,48]⟩:ByteArray),(⟨#[97,32,116,101,120,116,32,111,102,32,97,32,108,101,110,103,116,104,32,116,104,97,116,32,116,97,107,101,115,32,116,104,114,101,101,32,104,97,108,118,101,115,32,111,102,32,97,32,112,97,103,101]⟩:ByteArray)] nJ).bind fun kD=>
  some (⟨(⟨x2,x4⟩:Entry),x6,x8,cE,(⟨0,0⟩:Entry),kD⟩:Ab)
theorem IW (k:Nat) (l0:(List Ab)) (n1:(Aa 5 Int)) (r:Ab) (h0:Eh k l0 n1=some r):Aw Try.prog 95 [.sl 8 (List.map Ab.c l0),.agg ((Aa.c (n:=5) eI) n1)] (fun y=>y=.agg (Ab.c r)):=by
 refine PB Try.f95 Hw.c [.cell 4 25] ?_
 simp only[Eh]at h0
 try simp only[Hw.c,go_sem]
 obtain⟨x1,iW,h0⟩:=bs h0
 have xc:=Ao.bH ml (Ao.self xg n1) iW
 have sv:=xc.2
 try simp only[AA,Az,go_sem]at sv
 have F:=an (aq iW) sv
 try simp only[F,go_sem]
 refine au h0 (CQ k _ _) ?_ (fun x2 h0=>?_)<;>try simp only[F,go_sem]
 refine AL Ax aS 1000 ?_
 try simp only[F,go_sem]
 refine cn h0 (HM k _) ?_ (fun x3 h0=>?_)<;>try simp only[F,go_sem]
 obtain⟨x4,bN,h0⟩:=bs h0
 have iC:=(Ao.aeH ml bN).2
 try simp only[go_sem]at iC
 have F:=an (aq bN) (an iC F)
 try simp only[F,go_sem]
 obtain⟨x5,cw,h0⟩:=bs h0
 have xd:=Ao.bH ml (Ao.self xg n1) cw
 have sw:=xd.2
 try simp only[AA,Az,go_sem]at sw
 have F:=an (aq cw) (an sw F)
 try simp only[F,go_sem]
 refine cn h0 (CQ k _ _) ?_ (fun x6 h0=>?_)<;>try simp only[F,go_sem]
 obtain⟨x7,e9,h0⟩:=bs h0
 have qH:=Ao.bH ml (Ao.self xg n1) e9
 have nI:=qH.2
 try simp only[AA,Az,go_sem]at nI
 have F:=an (aq e9) (an nI F)
 try simp only[F,go_sem]
 refine cn h0 (CQ k _ _) ?_ (fun x8 h0=>?_)<;>try simp only[F,go_sem]
 obtain⟨x9,ft,h0⟩:=bs h0
 have oT:=Ao.bH ml (Ao.self xg n1) ft
 have sx:=oT.2
 try simp only[AA,Az,go_sem]at sx
 have F:=an (aq ft) (an sx F)
 try simp only[F,go_sem]
 refine cn h0 (CQ k _ _) ?_ (fun cE h0=>?_)<;>try simp only[F,go_sem]
 refine aF ?_
 try simp only[F,go_sem]
 refine AF F h0 ?_ ?_<;>intro F h0<;>try simp only[F,go_sem]
 refine AF F h0 ?_ ?_<;>intro F h0<;>try simp only[F,go_sem]
 refine au h0 (CQ k _ _) ?_ (fun cF h0=>?_)<;>try simp only[F,go_sem]
 obtain rfl:=oi h0
 refine Ag rfl ?_
 try simp only[F,go_sem]
 obtain⟨bM,sE,h0⟩:=bs h0
 have aqL:=Ao.bH ml (Ao.self xg n1) sE
 have ajy:=aqL.2
 try simp only[AA,Az,go_sem]at ajy
 have F:=an (aq sE) (an ajy F)
 try simp only[F,go_sem]
 refine au h0 (CQ k _ _) ?_ (fun cM h0=>?_)<;>try simp only[F,go_sem]
 obtain⟨dx,oY,h0⟩:=bs h0
 have agy:=aC oY
 simp only[F,go_sem]at agy
 have ag0:=aD eS oY
 try simp only[F,go_sem]at ag0
 have F:=an agy (an ag0 F)
 try simp only[F,go_sem]
 obtain rfl:=oi h0
 refine Ag rfl ?_
 try simp only[F,go_sem]
 obtain⟨iV,oZ,h0⟩:=bs h0
 have ab1:=Ao.bH ml (Ao.self xg n1) oZ
 have aal:=ab1.2
 try simp only[AA,Az,go_sem]at aal
 have F:=an (aq oZ) (an aal F)
 try simp only[F,go_sem]
 refine au h0 (CQ k _ _) ?_ (fun nJ h0=>?_)<;>try simp only[F,go_sem]
 obtain⟨kD,o8,h0⟩:=bs h0
 have xM:=aC o8
 simp only[F,go_sem]at xM
 have ag1:=aD eS o8
 try simp only[F,go_sem]at ag1
 have F:=an xM (an ag1 F)
 try simp only[F,go_sem]
 obtain rfl:=oi h0
 refine Ag rfl ?_
 try simp only[F,go_sem]
def Ey.s0:SC:=
 SQ [SQ [RG [wV 35 9 3,wF 36 48 3 0,wF 37 46 36 0 [36],wD 38 44 37 [37],wL 39 38 44 3 [38],wO 40 .lss 3 35 39 3 4 [35,39]],CN 40 .skip (.exit 0)],.block 1 (.aO [wV 43 8 27,wF 44 48 3 0,wF 45 46 44 0,wD 46 44 45,wV 47 9 3,wI 48 44 46 47,wD 49 25 48,wV 50 9 3,wF 51 48 7 2,wD 52 3 51,wC 53 68 #[.tmp 49,.tmp 50,.tmp 52] #[25,3,3] 27,wP 54 43 53 27 27 27,wG 8 54 27] [[],[],[1],[1,2],[],[1,2,3,4],[1,2,
 3,4,5],[],[],[8],[1,2,3,4,5,6,7,8,9],[0,1,2,3,4,5,6,7,8,9,10],[0,1,2,3,4,5,6,7,8,9,10,11]] [43,44,45,46,47,48,49,50,51,52,53,54]),RG [wV 41 9 3 [9],wK 42 .add 3 41 1 3 3 [41],wG 9 42 3 [42]]]
def Ey.c:SC:=
 SQ [RG [wE 2 42 0 [0],wE 3 48 1 [1],oQ 4 (.assign (.const (.slice none 0 0))) 82 [4],wA 5 48,wN 6 0 28 [6]],SQ [RG [wD 14 42 2,wD 15 48 3,wW 16 25 14 15 42 48 28 [14,15],wK 17 .neq 28 16 0 28 4 [16]],CN 17 (SQ [RG [oQ 18 (.build 48 #[]) 48,oQ 4 (.assign (.const (.slice none 0 0))) 82,wS 48 5 18 [18],wN 6 94 28],.ret]) .skip],SQ [RG [wF 19 48 3 2,wD 20 3 19 [19],wK 21 .eql 3 20 1000000 3 4 [20]],
 CN 21 (SQ [RG [oQ 22 (.build 48 #[]) 48,oQ 4 (.assign (.const (.slice none 0 0))) 82,wS 48 5 22 [22],wN 6 2 28],.ret]) .skip],.aO [wF 23 48 3 0,wF 24 46 23 0,wD 25 44 24,wU 26 100 25 44 44,oQ 27 (.build 46 #[(0,.tmp 26)]) 46,wF 28 48 3 1,wD 29 3 28,oQ 30 (.binOp .sub 3 (.const (.int .i64 1)) (.tmp 29) 3) 3,wF 31 48 3 2,wD 32 3 31,wK 33 .add 3 32 1 3 3,oQ 34 (.build 48 #[(0,.tmp 27),(1,.tmp 30),
 (2,.tmp 33)]) 48,wA 7 48,wS 48 7 34] [[],[0],[0,1],[0,1,2],[0,1,2,3],[],[5],[5,6],[],[8],[8,9],[0,1,2,3,4,5,6,7,8,9,10],[],[12,0,1,2,3,4,5,6,7,8,9,10,11]] [23,24,25,26,27,28,29,30,31,32,33,34],RG [oQ 8 (.assign (.const (.slice none 0 0))) 27],SQ [RG [wN 9 0 3],.block 0 (.loop Ey.s0)],RG [wV 55 8 27,wL 56 55 27 3 [55],oQ 57 (.binOp .add 3 (.const (.int .i64 1)) (.tmp 56) 3) 3 [56],wF 58 48 7 3,
 wS 3 58 57 [57,58]],RG [wD 59 42 2 [2],wU 60 35 59 42 42 [59],wA 10 42,wS 42 10 60 [60]],RG [wD 61 42 10,wF 62 48 7 1,wD 63 3 62 [62],wV 64 8 27 [8],wC 65 77 #[.tmp 61,.tmp 63,.const (.int .i64 1),.tmp 64] #[42,3,3,27] 42 [61,63,64],wA 11 42,wS 42 11 65 [65]],RG [wD 66 42 11,wU 67 35 66 42 42 [66],wA 12 42,wS 42 12 67 [67]],.aO [wD 68 42 12,wF 69 48 7 1,wD 70 3 69,wF 71 48 7 2,wD 72 3 71,
 wF 73 48 3 0,wF 74 46 73 0,wD 75 44 74,wL 76 75 44 3,wW 77 144 72 76 3 3 122,oQ 78 (.buildSlice 27 1 #[(0,.tmp 77)]) 27,wC 79 77 #[.tmp 68,.tmp 70,.const (.int .i64 0),.tmp 78] #[42,3,3,27] 42,wA 13 42,wS 42 13 79] [[],[],[1],[],[3],[],[5],[5,6],[5,6,7],[3,4,5,6,7,8],[3,4,5,6,7,8,9],[0,1,2,3,4,5,6,7,8,9,10],[],[12,0,1,2,3,4,5,6,7,8,9,10,11]] [3,68,69,70,71,72,73,74,75,76,77,78,79],
 .aO [wD 80 42 10,wD 81 42 11,wD 82 42 12,wD 83 42 13,wD 84 42 13,wU 85 35 84 42 42,oQ 86 (.buildSlice 82 5 #[(0,.tmp 80),(1,.tmp 81),(2,.tmp 82),(3,.tmp 83),(4,.tmp 85)]) 82,wD 87 48 7,wG 4 86 82,wS 48 5 87,wN 6 0 28] [[],[],[],[],[],[4],[0,1,2,3,4,5],[],[0,1,2,3,4,5,6],[7,0,1,2,3,4,5,6,8],[7,0,1,2,3,4,5,6,8,9]] [7,10,11,12,13,80,81,82,83,84,85,86,87],.ret]
def Cg.b0 (k:Nat) (l1:Ay):(Int×(List (Aa 32 Int)))->Option (AT (Int×(List (Aa 32 Int))) ((List (Aa 32 Int))) ((List Ac)×Ay×Int)):=fun s=>match s with
 |(i5,l6)=>
   bif decide (i5<(l1.Ai.Al.length:Int)) then
    (at? l1.Ai.Al i5).bind fun x9=>
    (Ch k x9 i5 (ab (l1.AG+1))).bind fun cE=>
    (dM 32 l6 cE).bind fun gq=>
    some (.next (ab (i5+1),gq))
   else
    some (.brk l6)
def Cg.h0 (d0:Ac) (l1:Ay) (x4:(List Ab)):(Int×(List (Aa 32 Int)))->St:=fun s=>match s with
 |(i5,l6)=>⟨[(2,.ptr 0 0 0),(3,.ptr 0 1 0),(5,.ptr 0 2 0),(7,.ptr 0 4 0),(8,.loc 0 5 32 0 l6.length l6.length),(9,.int .i64 i5)],[(0,.box ([.sl 64 (List.map (Aa.c (n:=2) (Aa.c (n:=32) af)) d0.Ae),.sl 65 (List.map Aq.c d0.Ad)])),(1,.box ([.sl 8 (List.map Ab.c l1.Ai.Al),.int .i64 l1.BB,.int .i64 l1.AG,.int .i64 l1.Used])),(2,.box ([.loc 0 3 8 0 0 0,.int .i64 0,.int .i64 0,.int .i64 0])),(3,.arr 25 8 (List.map Ab.c [])),(4,.box ([.sl 8 (List.map Ab.c x4),.int .i64 (ab (1 - l1.BB)),.int .i64 (ab (l1.AG+1)),.int .i64 0])),(5,.arr 122 32 (List.map (Aa.c (n:=32) af) l6))],[],6,Try.f145.ntmps⟩
def Cg.x0 (d0:Ac) (l1:Ay) (x4:(List Ab)):(List (Aa 32 Int))->St:=fun l7=>⟨[(2,.ptr 0 0 0),(3,.ptr 0 1 0),(5,.ptr 0 2 0),(7,.ptr 0 4 0),(8,.loc 0 5 32 0 l7.length l7.length)],[(0,.box ([.sl 64 (List.map (Aa.c (n:=2) (Aa.c (n:=32) af)) d0.Ae),.sl 65 (List.map Aq.c d0.Ad)])),(1,.box ([.sl 8 (List.map Ab.c l1.Ai.Al),.int .i64 l1.BB,.int .i64 l1.AG,.int .i64 l1.Used])),(2,.box ([.loc 0 3 8 0 0 0,.int .i64 0,.int .i64 0,.int .i64 0])),(3,.arr 25 8 (List.map Ab.c [])),(4,.box ([.sl 8 (List.map Ab.c x4),.int .i64 (ab (1 - l1.BB)),.int .i64 (ab (l1.AG+1)),.int .i64 0])),(5,.arr 122 32 (List.map (Aa.c (n:=32) af) l7))],[],6,Try.f145.ntmps⟩
def Cg (k:Nat) (d0:Ac) (l1:Ay):Option ((List Ac)×Ay×Int):=
 (CX k d0 l1).bind fun x1=>
 bif (!decide (x1=(0:Int))) then
  some ([],(⟨(⟨[]⟩:Ai),0,0,0⟩:Ay),94)
 else
  bif decide (l1.AG=(1000000:Int)) then
   some ([],(⟨(⟨[]⟩:Ai),0,0,0⟩:Ay),2)
  else
   (E7 k l1.Ai.Al).bind fun x4=>
   (aj (Cg.b0 k l1) k (0,[])).bind fun r12=>match r12 with
   |.next _=>none
   |.ret v_=>some v_
   |.brk l7=>
    (Dz k d0).bind fun cF=>
    (BK k cF (ab (1 - l1.BB)) 1 l7).bind fun bM=>
    (Dz k bM).bind fun cM=>
    (DV k (ab (l1.AG+1)) (l1.Ai.Al.length:Int)).bind fun dx=>
    (BK k cM (ab (1 - l1.BB)) 0 [dx]).bind fun iV=>
    (Dz k iV).bind fun nJ=>
    some ([cF,bM,cM,iV,nJ],(⟨(⟨x4⟩:Ai),ab (1 - l1.BB),ab (l1.AG+1),ab (1+((l7.length:Nat):Int))⟩:Ay),0)
theorem IJ (k:Nat) (d0:Ac) (l1:Ay) (r:(List Ac)×Ay×Int) (h0:Cg k d0 l1=some r):Aw Try.prog 145 [.agg (Ac.c d0),.agg (Ay.c l1)] (fun y=>y=.ar [.sl 2 (List.map Ac.c r.1),.agg (Ay.c r.2.1),.int .i64 r.2.2]):=by
 refine PB Try.f145 Ey.c [.tmp 4,.cell 5 48,.tmp 6] ?_
 simp only[Cg]at h0
 try simp only[Ey.c,go_sem]
 refine au h0 (FI k _ _) ?_ (fun x1 h0=>?_)<;>try simp only[go_sem]
 refine Cr h0 ?_ ?_<;>intro c2 h0<;>have F:=c2<;>try simp only[F,go_sem]
 obtain rfl:=oi h0
 refine Ag rfl ?_
 try simp only[F,go_sem]
 refine AF F h0 ?_ ?_<;>intro F h0<;>try simp only[F,go_sem]
 obtain rfl:=oi h0
 refine Ag rfl ?_
 try simp only[F,go_sem]
 refine AL Ax aS 1000 ?_
 try simp only[F,go_sem]
 refine cn h0 (IQ k _) ?_ (fun x4 h0=>?_)<;>try simp only[F,go_sem]
 refine aF ?_
 try simp only[F,go_sem]
 obtain⟨r12,arc,h0⟩:=bs h0
 refine Bf arc (Cg.h0 d0 l1 x4) (Cg.x0 d0 l1 x4) ?_ ?_ ?_
 refine Ah.go [2,3,5,7,8,9] [0,16,48,49,384,416] rfl ?_
 try simp only[Cg.h0,F,go_sem]
 rintro⟨i5,l6⟩ cO Bm Bn h1 aJ aH bK
 refine rS ?_
 simp only[Cg.b0]at h1
 try simp only[Ey.s0,Cg.h0,F,go_sem]
 refine AF F h1 ?_ ?_<;>intro F h1<;>try simp only[F,go_sem]
 refine AL Ax aS 1000 ?_
 try simp only[F,go_sem]
 obtain⟨x9,ft,h1⟩:=bs h1
 have F:=an (aC ft) (an (aD Ab.c ft) F)
 try simp only[F,go_sem]
 refine cn h1 (FO k _ _ _) ?_ (fun cE h1=>?_)<;>try simp only[F,go_sem]
 obtain⟨gq,nL,h1⟩:=bs h1
 have aao:=gT (Aa.c (n:=32) af) nL
 try simp only[F,go_sem]at aao
 have F:=an aao F
 try simp only[F,go_sem]
 refine aF ?_
 try simp only[F,go_sem]
 refine AB (aJ _ _ (oi h1).symm (Ah.go [2,3,5,7,8,9] [0,1,2,3,4,5] rfl ?_))
 try simp only[Cg.h0,F,go_sem]
 refine AB (aH _ _ (oi h1).symm (Ah.go [2,3,5,7,8] [0,1,2,3,4,5] rfl ?_))
 try simp only[Cg.x0,F,go_sem]
 rintro l7 aK
 subst aK
 simp only at h0
 refine rS ?_
 try simp only[Cg.x0,F,go_sem]
 refine au h0 (Fu k _) ?_ (fun cF h0=>?_)<;>try simp only[F,go_sem]
 refine zqT [5] h0 (FQ k _ _ _ _) ?_ fun bM h0=>?_<;>try simp only[F,go_sem]
 refine au h0 (Fu k _) ?_ (fun cM h0=>?_)<;>try simp only[F,go_sem]
 refine AL Ax aS 1000 ?_
 try simp only[F,go_sem]
 refine cn h0 (FL k _ _) ?_ (fun dx h0=>?_)<;>try simp only[F,go_sem]
 obtain⟨iV,oZ,h0⟩:=bs h0
 refine D1 1000 [486] [] (A6.ao3 (FQ k _ _ _ _ _ oZ) ?_) ?_ rfl ?_
 simp only[AV.ai,AV.aG,go_sem]
 try simp only[F,go_sem]
 try simp only[F,go_sem]
 refine aF ?_
 try simp only[F,go_sem]
 refine AL Ax aS 1000 ?_
 try simp only[F,go_sem]
 refine cn h0 (Fu k _) ?_ (fun nJ h0=>?_)<;>try simp only[F,go_sem]
 refine aF ?_
 try simp only[F,go_sem]
 obtain rfl:=oi h0
 refine Ag rfl ?_
 try simp only[F,go_sem]
def GQ.c:SC:=
 SQ [RG [wE 3 42 0 [0],wE 4 48 1 [1],wE 5 81 2 [2],wA 6 42,wA 7 48],SQ [RG [wF 17 81 5 0,wD 18 3 17 [17],wC 19 39 #[.tmp 18,.const (.int .i64 8)] #[3,3] 3 [18]],.block 0 (SQ [RG [wK 21 .eql 3 19 5 3 4,wG 20 21 4 [21]],CN 20 (SQ [.aO [wD 22 42 3,wU 23 35 22 42 42,wD 24 48 4,wS 42 6 23,wS 48 7 24] [[],[0],[],[0,1],[2,0,1,3]] [3,4,22,23,24],.ret]) (SQ [RG [wK 26 .eql 3 19 6 3 4,wG 25 26 4 [26]],
 CN 25 (SQ [RG [wD 28 42 3,wD 29 48 4,wW 30 145 28 29 42 48 83 [28,29],wV 27 30 83 [30],wX 31 27 0 82,wX 32 27 1 48,wX 33 27 2 28 [27],wA 9 48,wG 8 31 82 [31],wS 48 9 32 [32],wG 10 33 28 [33]],SQ [RG [wV 34 10 28 [10],wK 35 .eql 28 34 0 28 4 [34]],CN 35 (SQ [.aO [wV 36 8 82,wV 37 8 82,wL 38 37 82 3,wK 39 .sub 3 38 1 3 3,wI 40 82 36 39,wD 41 42 40,wD 42 48 9,wS 42 6 41,wS 48 7 42] [[],[],[1],[1,
 2],[0,1,2,3],[0,1,2,3,4],[],[0,1,2,3,4,5],[6,0,1,2,3,4,5,7]] [8,9,36,37,38,39,40,41,42],.ret]) .skip],.aO [wD 43 42 3,wD 44 48 4,wS 42 6 43,wS 48 7 44] [[],[],[0],[1,0,2]] [3,4,43,44],.ret]) (SQ [RG [wK 46 .eql 3 19 7 3 4 [19],wG 45 46 4 [46]],CN 45 (SQ [RG [wD 48 42 3,wF 49 81 5 2 [5],wD 50 63 49 [49],wW 51 37 48 50 42 63 42 [48,50],wU 52 33 51 42 50 [51],wV 47 52 50 [52],wX 53 47 0 42,
 wX 54 47 1 48,wX 55 47 2 28 [47],wA 11 42,wA 12 48,wS 42 11 53 [53],wS 48 12 54 [54],wG 13 55 28 [55]],SQ [RG [wV 56 13 28 [13],wK 57 .eql 28 56 0 28 4 [56]],CN 57 (SQ [.aO [wD 58 42 11,wD 59 48 12,wS 42 6 58,wS 48 7 59] [[],[],[0],[1,0,2]] [11,12,58,59],.ret]) .skip],.aO [wD 60 42 3,wD 61 48 4,wS 42 6 60,wS 48 7 61] [[],[],[0],[1,0,2]] [3,4,60,61],.ret]) .skip])])])],.aO [wD 63 42 3,
 wD 64 48 4,wF 65 48 4 0,wF 66 46 65 0,wD 67 44 66,wF 68 81 5 1,wD 69 79 68,wW 70 95 67 69 44 79 25,wC 71 21 #[.tmp 63,.tmp 64,.tmp 70] #[42,48,25] 50,wV 62 71 50,wX 72 62 0 42,wX 73 62 1 48,wX 74 62 2 28,wA 14 42,wA 15 48,wS 42 14 72,wS 48 15 73,wG 16 74 28] [[],[],[],[2],[2,3],[],[5],[2,3,4,5,6],[0,1,2,3,4,5,6,7],[0,1,2,3,4,5,6,7,8],[0,1,2,3,4,5,6,7,8,9],[0,1,2,3,4,5,6,7,8,9],[0,1,2,3,4,5,6,7,8,
 9],[],[],[13,0,1,2,3,4,5,6,7,8,9,10,14],[14,0,1,2,3,4,5,6,7,8,9,11,13,10,15],[0,1,2,3,4,5,6,7,8,9,12,14,11,13,10,15,16]] [5,62,63,64,65,66,67,68,69,70,71,72,73,74],SQ [RG [wV 75 16 28 [16],wK 76 .eql 28 75 0 28 4 [75]],CN 76 (SQ [.aO [wD 77 42 14,wD 78 48 15,wS 42 6 77,wS 48 7 78] [[],[],[0],[1,0,2]] [14,15,77,78],.ret]) .skip],.aO [wD 79 42 3,wD 80 48 4,wS 42 6 79,wS 48 7 80] [[],[],[0],[1,0,
 2]] [3,4,79,80],.ret]
def E8 (k:Nat) (d0:Ac) (x1:Ay) (y2:Bz):Option (Ac×Ay):=
 (B7 k y2.Kind 8).bind fun x2=>
 bif decide (x2=(5:Int)) then
  (Dz k d0).bind fun x4=>
  some (x4,x1)
 else
  bif decide (x2=(6:Int)) then
   (Cg k d0 x1).bind fun x6=>
   bif decide (x6.2.2=(0:Int)) then
    (at? x6.1 (ab ((x6.1.length:Int) - 1))).bind fun x8=>
    some (x8,x6.2.1)
   else
    some (d0,x1)
  else
   bif decide (x2=(7:Int)) then
    (BH k d0 y2.Df).bind fun cE=>
    (Dn k cE).bind fun df=>
    bif decide (df.2.2=(0:Int)) then
     some (df.1,df.2.1)
    else
     some (d0,x1)
   else
    (Eh k x1.Ai.Al y2.Ab).bind fun cF=>
    (CW k d0 x1 cF).bind fun bM=>
    bif decide (bM.2.2=(0:Int)) then
     some (bM.1,bM.2.1)
    else
     some (d0,x1)
theorem IS (k:Nat) (d0:Ac) (x1:Ay) (y2:Bz) (r:Ac×Ay) (h0:E8 k d0 x1 y2=some r):Aw Try.prog 118 [.agg (Ac.c d0),.agg (Ay.c x1),.agg (Bz.c y2)] (fun y=>y=.ar [.agg (Ac.c r.1),.agg (Ay.c r.2)]):=by
 refine PB Try.f118 GQ.c [.cell 6 42,.cell 7 48] ?_
 simp only[E8]at h0
 try simp only[GQ.c,go_sem]
 refine au h0 (CQ k _ _) ?_ (fun x2 h0=>?_)<;>try simp only[go_sem]
 refine AS h0 ?_ ?_<;>intro c3 h0<;>have F:=c3<;>try simp only[F,go_sem]
 refine AL Ax aS 1000 ?_
 try simp only[F,go_sem]
 refine cn h0 (Fu k _) ?_ (fun x4 h0=>?_)<;>try simp only[F,go_sem]
 refine aF ?_
 try simp only[F,go_sem]
 obtain rfl:=oi h0
 refine Ag rfl ?_
 try simp only[F,go_sem]
 refine AF F h0 ?_ ?_<;>intro F h0<;>try simp only[F,go_sem]
 refine au h0 (IJ k _ _) ?_ (fun x6 h0=>?_)<;>try simp only[F,go_sem]
 refine AF F h0 ?_ ?_<;>intro F h0<;>try simp only[F,go_sem]
 refine AL Ax aS 1000 ?_
 try simp only[F,go_sem]
 obtain⟨x8,jW,h0⟩:=bs h0
 have F:=an (aC jW) (an (aD Ac.c jW) F)
 try simp only[F,go_sem]
 refine aF ?_
 try simp only[F,go_sem]
 obtain rfl:=oi h0
 refine Ag rfl ?_
 try simp only[F,go_sem]
 refine AL Ax aS 1000 ?_
 try simp only[F,go_sem]
 refine aF ?_
 try simp only[F,go_sem]
 obtain rfl:=oi h0
 refine Ag rfl ?_
 try simp only[F,go_sem]
 refine AF F h0 ?_ ?_<;>intro F h0<;>try simp only[F,go_sem]
 refine au h0 (ID k _ _) ?_ (fun cE h0=>?_)<;>try simp only[F,go_sem]
 refine au h0 (II k _) ?_ (fun df h0=>?_)<;>try simp only[F,go_sem]
 refine AF F h0 ?_ ?_<;>intro F h0<;>try simp only[F,go_sem]
 refine AL Ax aS 1000 ?_
 try simp only[F,go_sem]
 refine aF ?_
 try simp only[F,go_sem]
 obtain rfl:=oi h0
 refine Ag rfl ?_
 try simp only[F,go_sem]
 refine AL Ax aS 1000 ?_
 try simp only[F,go_sem]
 refine aF ?_
 try simp only[F,go_sem]
 obtain rfl:=oi h0
 refine Ag rfl ?_
 try simp only[F,go_sem]
 refine AL Ax aS 1000 ?_
 try simp only[F,go_sem]
 refine cn h0 (IW k _ _) ?_ (fun cF h0=>?_)<;>try simp only[F,go_sem]
 refine cn h0 (HD k _ _ _) ?_ (fun bM h0=>?_)<;>try simp only[F,go_sem]
 refine aF ?_
 try simp only[F,go_sem]
 refine AF F h0 ?_ ?_<;>intro F h0<;>try simp only[F,go_sem]
 refine AL Ax aS 1000 ?_
 try simp only[F,go_sem]
 refine aF ?_
 try simp only[F,go_sem]
 obtain rfl:=oi h0
 refine Ag rfl ?_
 try simp only[F,go_sem]
 refine AL Ax aS 1000 ?_
 try simp only[F,go_sem]
 refine aF ?_
 try simp only[F,go_sem]
 obtain rfl:=oi h0
 refine Ag rfl ?_
 try simp only[F,go_sem]
def EF.s0:SC:=
 SQ [SQ [RG [wV 11 6 3,wV 12 0 33,wL 13 12 33 3 [12],wO 14 .lss 3 11 13 3 4 [11,13],wV 15 14 4 [14],gd 15 true (wV 16 6 3),gd 15 true (wK 17 .lss 3 16 12 3 4 [16]),wZ 18 15 17 4 [15,17]],CN 18 .skip (.exit 0)],.block 1 (.aO [wD 22 42 4,wD 23 48 5,wV 24 0 33,wV 25 6 3,wI 26 33 24 25,wD 27 81 26,wC 28 118 #[.tmp 22,.tmp 23,.tmp 27] #[42,48,81] 76,wV 21 28 76,wX 29 21 0 42,wX 30 21 1 48,wS 42 4 29,
 wS 48 5 30] [[],[],[],[],[2,3],[2,3,4],[0,1,2,3,4,5],[0,1,2,3,4,5,6],[0,1,2,3,4,5,6,7],[0,1,2,3,4,5,6,7],[0,1,2,3,4,5,6,7,8],[0,1,2,3,4,5,6,7,9,8,10]] [21,22,23,24,25,26,27,28,29,30]),RG [wV 19 6 3 [6],wK 20 .add 3 19 1 3 3 [19],wG 6 20 3 [20]]]
def EF.c:SC:=
 SQ [RG [wA 2 42,wA 3 48],RG [wC 8 117 #[] #[] 76,wV 7 8 76 [8],wX 9 7 0 42,wX 10 7 1 48 [7],wA 4 42,wA 5 48,wS 42 4 9 [9],wS 48 5 10 [10]],SQ [RG [wN 6 0 3],.block 0 (.loop EF.s0)],.aO [wD 31 42 4,wD 32 48 5,wS 42 2 31,wS 48 3 32] [[],[],[0],[1,0,2]] [4,5,31,32],.ret]
def BQ.b0 (k:Nat) (l0:(List Bz)):(Ac×Ay×Int)->Option (AT (Ac×Ay×Int) (Ac×Ay) (Ac×Ay)):=fun s=>match s with
 |(s2,s3,i4)=>
   bif decide (i4<(l0.length:Int)) then
    bif decide (i4<(12:Int)) then
     (at? l0 i4).bind fun x9=>
     (E8 k s2 s3 x9).bind fun cE=>
     some (.next (cE.1,cE.2,ab (i4+1)))
    else
     some (.brk (s2,s3))
   else
    some (.brk (s2,s3))
def BQ.h0 (l0:(List Bz)):(Ac×Ay×Int)->St:=fun s=>match s with
 |(s2,s3,i4)=>⟨[(0,.sl 7 (List.map Bz.c l0)),(2,.ptr 0 0 0),(3,.ptr 0 3 0),(4,.ptr 0 5 0),(5,.ptr 0 6 0),(6,.int .i64 i4)],[(0,.box ([.loc 0 1 64 0 0 0,.loc 0 2 65 0 0 0])),(1,.arr 139 64 (List.map (Aa.c (n:=2) (Aa.c (n:=32) af)) [])),(2,.arr 141 65 (List.map Aq.c [])),(3,.box ([.loc 0 4 8 0 0 0,.int .i64 0,.int .i64 0,.int .i64 0])),(4,.arr 25 8 (List.map Ab.c [])),(5,.box ([.sl 64 (List.map (Aa.c (n:=2) (Aa.c (n:=32) af)) s2.Ae),.sl 65 (List.map Aq.c s2.Ad)])),(6,.box ([.sl 8 (List.map Ab.c s3.Ai.Al),.int .i64 s3.BB,.int .i64 s3.AG,.int .i64 s3.Used]))],[],7,Try.f70.ntmps⟩
def BQ.x0:(Ac×Ay)->St:=fun s=>match s with
 |(s5,s6)=>⟨[(2,.ptr 0 0 0),(3,.ptr 0 3 0),(4,.ptr 0 5 0),(5,.ptr 0 6 0)],[(0,.box ([.loc 0 1 64 0 0 0,.loc 0 2 65 0 0 0])),(1,.arr 139 64 (List.map (Aa.c (n:=2) (Aa.c (n:=32) af)) [])),(2,.arr 141 65 (List.map Aq.c [])),(3,.box ([.loc 0 4 8 0 0 0,.int .i64 0,.int .i64 0,.int .i64 0])),(4,.arr 25 8 (List.map Ab.c [])),(5,.box ([.sl 64 (List.map (Aa.c (n:=2) (Aa.c (n:=32) af)) s5.Ae),.sl 65 (List.map Aq.c s5.Ad)])),(6,.box ([.sl 8 (List.map Ab.c s6.Ai.Al),.int .i64 s6.BB,.int .i64 s6.AG,.int .i64 s6.Used]))],[],7,Try.f70.ntmps⟩
def BQ (k:Nat) (l0:(List Bz)):Option (Ac×Ay):=
 (E3 k).bind fun x1=>
 (aj (BQ.b0 k l0) k (x1.1,x1.2,0)).bind fun r11=>match r11 with
 |.next _=>none
 |.ret v_=>some v_
 |.brk (s5,s6)=>
  some (s5,s6)
theorem HG (k:Nat) (l0:(List Bz)) (r:Ac×Ay) (h0:BQ k l0=some r):Aw Try.prog 70 [.sl 7 (List.map Bz.c l0)] (fun y=>y=.ar [.agg (Ac.c r.1),.agg (Ay.c r.2)]):=by
 refine PB Try.f70 EF.c [.cell 2 42,.cell 3 48] ?_
 simp only[BQ]at h0
 try simp only[EF.c,go_sem]
 refine au h0 (IG k) ?_ (fun x1 h0=>?_)<;>try simp only[go_sem]
 obtain⟨r11,arb,h0⟩:=bs h0
 refine Bf arb (BQ.h0 l0) (BQ.x0) ?_ ?_ ?_
 refine Ah.go [0,2,3,4,5,6] [0,1,2,16,17,96,112] rfl ?_
 try simp only[BQ.h0,go_sem]
 rintro⟨s2,s3,i4⟩ cO Bm Bn h1 aJ aH bK
 refine rS ?_
 simp only[BQ.b0]at h1
 try simp only[EF.s0,BQ.h0,go_sem]
 refine AS h1 ?_ ?_<;>intro c7 h1<;>have F:=c7<;>try simp only[F,go_sem]
 refine AF F h1 ?_ ?_<;>intro F h1<;>try simp only[F,go_sem]
 refine AL Ax aS 1000 ?_
 try simp only[F,go_sem]
 obtain⟨x9,ft,h1⟩:=bs h1
 have F:=an (aC ft) (an (aD Bz.c ft) F)
 try simp only[F,go_sem]
 refine cn h1 (IS k _ _ _) ?_ (fun cE h1=>?_)<;>try simp only[F,go_sem]
 refine aF ?_
 try simp only[F,go_sem]
 refine AB (aJ _ _ (oi h1).symm (Ah.go [0,2,3,4,5,6] [0,1,2,3,4,5,6] rfl ?_))
 try simp only[BQ.h0,F,go_sem]
 refine AB (aH _ _ (oi h1).symm (Ah.go [2,3,4,5] [0,1,2,3,4,5,6] rfl ?_))
 try simp only[BQ.x0,F,go_sem]
 refine AB (aH _ _ (oi h1).symm (Ah.go [2,3,4,5] [0,1,2,3,4,5,6] rfl ?_))
 try simp only[BQ.x0,F,go_sem]
 rintro⟨s5,s6⟩ aK
 subst aK
 simp only at h0
 refine rS ?_
 try simp only[BQ.x0,go_sem]
 refine AL Ax aS 1000 ?_
 try simp only[go_sem]
 refine aF ?_
 try simp only[go_sem]
 obtain rfl:=oi h0
 refine Ag rfl ?_
 try simp only[go_sem]
end Go.Abs
namespace Go.Abs
open Go Go.Proofs Go.RowKit Go.Lib
def AO.s0:SC:=
 SQ [SQ [RG [wV 16 9 3,wV 17 1 34,wL 18 17 34 3 [17],wO 19 .lss 3 16 18 3 4 [16,18],wV 20 19 4 [19],gd 20 true (wV 21 9 3),gd 20 true (wK 22 .lss 3 21 6 3 4 [21]),wZ 23 20 22 4 [20,22]],CN 23 .skip (.exit 0)],.block 1 (SQ [RG [wV 26 1 34,wV 27 9 3,wI 28 34 26 27 [26,27],wD 29 190 28 [28],wA 10 190,wS 190 10 29 [29]],.aO [wF 30 42 7 0,wD 31 39 30,wF 32 190 10 0,wD 33 3 32,wC 34 39 #[.tmp 33,
 .const (.int .i64 602)] #[3,3] 3,wF 35 190 10 1,wD 36 3 35,wC 37 39 #[.tmp 36,.const (.int .i64 2)] #[3,3] 3,wF 38 190 10 2,wD 39 3 38,wC 40 39 #[.tmp 39,.const (.int .i64 32)] #[3,3] 3,wF 41 190 10 3,wD 42 3 41,wY 43 3 5 42 5,wI 44 39 31 34,wI 45 139 44 37,wI 46 122 45 40,wS 5 46 43] [[],[0],[],[2],[2,3],[],[5],[5,6,2,3,4],[],[8],[8,9,5,6,2,3,4,7],[],[11],[11,12],[0,1,2,3,4],[0,1,2,3,4,14,5,6,7],
 [0,1,2,3,4,14,5,6,7,15,8,9,10,11,12,13],[0,1,2,3,4,14,5,6,7,15,8,9,10,11,12,13,16]] [10,30,31,32,33,34,35,36,37,38,39,40,41,42,43,44,45,46]]),RG [wV 24 9 3 [9],wK 25 .add 3 24 1 3 3 [24],wG 9 25 3 [25]]]
def AO.c:SC:=
 SQ [RG [wA 6 42],RG [wV 12 0 33 [0],wU 13 70 12 33 76 [12],wV 11 13 76 [13],wX 14 11 0 42,wX 15 11 1 48 [11],wA 7 42,wA 8 48,wS 42 7 14 [14],wS 48 8 15 [8,15]],SQ [RG [wN 9 0 3],.block 0 (.loop AO.s0)],SQ [RG [wV 47 2 3,wK 48 .gtr 3 47 0 3 4 [47],wV 49 48 4 [48],gd 49 true (wF 50 42 7 1),gd 49 true (wD 51 40 50 [50]),gd 49 true (wL 52 51 40 3 [51]),gd 49 true (wK 53 .gtr 3 52 0 3 4 [52]),
 wZ 54 49 53 4 [49,53]],CN 54 (.aO [wF 55 42 7 1,wD 56 40 55,wF 57 42 7 1,wD 58 40 57,wL 59 58 40 3,wV 60 2 3,wF 61 42 7 1,wD 62 40 61,wL 63 62 40 3,wK 64 .add 3 63 1 3 3,wW 65 39 60 64 3 3 3,wO 66 .sub 3 59 65 3 3,oQ 67 (.slice 40 (.tmp 56) none (some (.tmp 66)) none) 40,wF 68 42 7 1,wS 40 68 67] [[],[0],[],[2],[2,3],[],[],[6],[6,7],[6,7,8],[5,6,7,8,9],[2,3,4,5,6,7,8,9,10],[0,1,2,3,4,5,6,7,8,9,
 10,11],[0,1,2,3,4,5,6,7,8,9,10,11,12],[0,1,2,3,4,5,6,7,8,9,10,11,12,13]] [2,55,56,57,58,59,60,61,62,63,64,65,66,67,68]) .skip],RG [wD 69 42 7 [7],wS 42 6 69 [69]],.ret]
theorem AO.rs:Try.f69.results.toList=[.cell 6 42]:=rfl
abbrev AE:=Aa 2 (Aa 32 Int)
def dq:AE->List AV:=Aa.c (n:=2) (Aa.c (n:=32) af)
def abk (k:Nat) (P:List AE) (s:Bb):Option (List AE):=
 (B7 k s.AE 602).bind fun a=>
 (B7 k s.DD 2).bind fun b=>
 (B7 k s.At 32).bind fun c=>
 (at? P a).bind fun p=>(p.at? b).bind fun h=>(h.at? c).bind fun _=>
 some (P.set a.toNat (p.set b (h.set c (IntKind.u8.wrap s.CH))))
def rG (k:Nat):List AE->List Bb->Option (List AE)
 |P,[]=>some P
 |P,s::l=>(abk k P s).bind fun P=>rG k P l
def EZ (k:Nat) (l0:List Bz) (gv:List Bb) (ja:Int):Option Ac:=
 if gv.length<=4611686018427387904 then
 (BQ k l0).bind fun r=>
 (rG k r.1.Ae (gv.take 6)).bind fun P=>
 bif decide (0<ja) then
  bif decide ((0:Int)<(r.1.Ad.length:Int)) then
   (B7 k ja (ab ((r.1.Ad.length:Int)+1))).bind fun n=>
   (nq r.1.Ad.length (ab ((r.1.Ad.length:Int) - n))).bind fun _=>
   some ⟨P,r.1.Ad.take (ab ((r.1.Ad.length:Int) - n)).toNat⟩
  else some ⟨P,r.1.Ad⟩
 else some ⟨P,r.1.Ad⟩
 else none
def gK (x y:AV):Av:=[(0,.box [.loc 0 1 64 0 0 0,.loc 0 2 65 0 0 0]),(1,.arr 139 64 []),(2,.arr 141 65 []),(3,.box [x,y])]
def jr (x y:AV) (ck:List Bb) (cut:Int) (i:Int):St:=⟨[(1,.sl 4 (List.map Bb.c ck)),(2,.int .i64 cut),(6,.ptr 0 0 0),(7,.ptr 0 3 0),(9,.int .i64 i)],gK x y,[],4,Try.f69.ntmps⟩
def imB (x y:AV) (ck:List Bb) (cut:Int) (i:Int) (s:Bb):St:=⟨[(1,.sl 4 (List.map Bb.c ck)),(2,.int .i64 cut),(6,.ptr 0 0 0),(7,.ptr 0 3 0),(9,.int .i64 i),(10,.ptr 0 4 0)],[(0,.box [.loc 0 1 64 0 0 0,.loc 0 2 65 0 0 0]),(1,.arr 139 64 []),(2,.arr 141 65 []),(3,.box [x,y]),(4,.box (Bb.c s))],[],5,Try.f69.ntmps⟩
def rF (x y:AV) (ck:List Bb) (cut:Int) (i:Int) (b:Int) (p:Value):St:=⟨[(1,.sl 4 (List.map Bb.c ck)),(2,.int .i64 cut),(6,.ptr 0 0 0),(7,.ptr 0 3 0),(9,.int .i64 i),(43,.int .u8 b),(46,.raw p)],gK x y,[],4,Try.f69.ntmps⟩
def AO.o0:SC:=
 AO.c.fst
def AO.o1:SC:=
 AO.c.snd.fst
def AO.o2:SC:=
 AO.c.snd.snd.fst.fst
def AO.o7:SC:=
 AO.c.snd.snd.snd
def AO.q0:SC:=
 AO.s0.fst
def AO.x:SC:=
 AO.s0.snd.fst.body
def AO.x5:SC:=
 AO.x.fst
def SC.acV:SC->List An
 |.aO l _ _=>l
 |_=>[]
def AO.r4:SC:=
 AO.s0.snd.snd
theorem an6 (k:Nat) (l:List Bz) (ck:List Bb) (cut:Int) (r:Ac×Ay) (h0:BQ k l=some r) (Φ:Exit->St->Prop):
  AK Try.prog Try.f69.ntmps Φ [.sc AO.o0,.sc AO.o1,.sc AO.o2,.back (fun st=>Ah Try.f69.ntmps st (jr (.sl 64 (List.map dq r.1.Ae)) (.sl 65 (List.map Aq.c r.1.Ad)) ck cut 0))]
   (St.enter [.sl 7 (List.map Bz.c l),.sl 4 (List.map Bb.c ck),.int .i64 cut] [] Try.f69.ntmps):=by
 refine rS ?_
 simp only[AO.o0,AO.o1,AO.o2,AO.c,SC.fst,SC.snd,go_sem]
 refine jx (HG k l r h0) ?_ ?_
 ·simp only[go_sem]
 simp only[go_sem]
 refine AB ?_
 refine Ah.go [1,2,6,7,9] [0,1,2,96] rfl ?_
 simp only[jr,gK,dq,go_sem]
theorem an7 (pv wv:Value) (ck:List Bb) (cut:Int) (i:Int) (h1:decide (i<(ck.length:Int))=true) (h2:decide (i<6)=true) (Φ:Exit->St->Prop):
  AK Try.prog Try.f69.ntmps Φ [.sc AO.q0,.back (fun st=>Ah Try.f69.ntmps st (jr (.raw pv) (.raw wv) ck cut i))] (jr (.raw pv) (.raw wv) ck cut i):=by
 refine rS ?_
 simp only[jr,gK,AO.q0,AO.s0,SC.fst,SC.snd,h1,h2,go_sem]
 refine AB ?_
 refine Ah.go [1,2,6,7,9] [0,1,2,3] rfl ?_
 simp only[go_sem]
theorem aoa (pv wv:Value) (ck:List Bb) (cut:Int) (i:Int) (h:(decide (i<(ck.length:Int))&&decide (i<6))=false) (B:St->Prop):
  AK Try.prog Try.f69.ntmps (fun e st=>e=.exit 0/\Ah Try.f69.ntmps st (jr (.raw pv) (.raw wv) ck cut i)) [.sc AO.q0,.back B] (jr (.raw pv) (.raw wv) ck cut i):=by
 refine rS ?_
 simp only[jr,gK,AO.q0,AO.s0,SC.fst,SC.snd,go_sem]
 cases h1:decide (i<(ck.length:Int)) with
 |false=>
  simp only[h1,go_sem]
  refine⟨rfl,Ah.go [1,2,6,7,9] [0,1,2,3] rfl ?_⟩
  simp only[go_sem]
 |true=>
  rw[h1,BO]at h
  simp only[h1,h,go_sem]
  refine⟨rfl,Ah.go [1,2,6,7,9] [0,1,2,3] rfl ?_⟩
  simp only[go_sem]
theorem aob (pv wv:Value) (ck:List Bb) (cut:Int) (i:Int) (s:Bb) (hs:at? ck i=some s) (Φ:Exit->St->Prop):
  AK Try.prog Try.f69.ntmps Φ [.sc AO.x5,.back (fun st=>Ah Try.f69.ntmps st (imB (.raw pv) (.raw wv) ck cut i s))] (jr (.raw pv) (.raw wv) ck cut i):=by
 refine rS ?_
 simp only[jr,gK,AO.x5,AO.x,AO.s0,SC.fst,SC.snd,SC.body,aC hs,aD Bb.c hs,go_sem]
 refine AB ?_
 refine Ah.go [1,2,6,7,9,10] [0,1,2,3,68] rfl ?_
 simp only[imB,go_sem]
theorem an9 (pv wv:Value) (ck:List Bb) (cut:Int) (i:Int) (b:Int) (p:Value) (Φ:Exit->St->Prop):
  AK Try.prog Try.f69.ntmps Φ [.al 1,.sc AO.r4,.back (fun st=>Ah Try.f69.ntmps st (jr (.raw pv) (.raw wv) ck cut (ab (i+1))))] (rF (.raw pv) (.raw wv) ck cut i b p):=by
 refine rS ?_
 simp only[rF,gK,AO.r4,AO.s0,SC.snd,go_sem]
 refine AB ?_
 refine Ah.go [1,2,6,7,9] [0,1,2,3] rfl ?_
 simp only[jr,gK,go_sem]
def AO.x6:SC:=
 AO.x.snd
def AO.ops:List An:=AO.x6.acV.take 17

def AO.mo:List (List Nat):=match AO.x6 with
 |.aO _ b _=>b
 |_=>[]
def AO.lst:An:=wS 5 46 43

theorem an5 (k:Nat) (c off n cp:Nat) (wv:Value) (ck:List Bb) (cut i:Int) (s:Bb) (a b d:Int) (ha:B7 k s.AE 602=some a) (hb:B7 k s.DD 2=some b) (hd:B7 k s.At 32=some d)
  (ra:fW a n=some a.toNat) (rb:fW b 2=some b.toNat) (rd:fW d 32=some d.toNat):
  DG Try.prog T (fun acc ao=>calm AO.ops AO.mo acc.reverse=true/\(fun ao=>Ah Try.f69.ntmps ao (rF (.raw (.slice (some ⟨c,off,none⟩) n cp)) (.raw wv) ck cut i (IntKind.u8.wrap s.CH) (.pointer (some (((Addr.add ⟨c,off,none⟩ (a.toNat*64)).add (b.toNat*32)).add (d.toNat*1)))))) { ao with tm:=cA ao.tm [] })
   (jv T 1000 AO.ops [] (imB (.raw (.slice (some ⟨c,off,none⟩) n cp)) (.raw wv) ck cut i s)):=by
 simp only[AO.ops,AO.mo,AO.x6,AO.x,AO.s0,SC.fst,SC.snd,SC.body,SC.acV,List.take_succ_cons,List.take_zero,imB,Bb.c,go_sem]
 refine uW (CQ k _ _ _ ha) ?_ ?_
 ·simp only[go_sem]
 simp only[go_sem]
 refine uW (CQ k _ _ _ hb) ?_ ?_
 ·simp only[go_sem]
 simp only[go_sem]
 refine uW (CQ k _ _ _ hd) ?_ ?_
 ·simp only[go_sem]
 simp only[ra,rb,rd,go_sem]
 refine GJ ?_
 refine⟨afM (by simp only[mR,List.reverse_cons,List.reverse_nil,BM,Bq,List.map_cons,List.map_nil,List.append_nil];rfl) (by first|decide +kernel|rfl),?_⟩
 refine Ah.go [1,2,6,7,9,43,46] [0,1,2,3] rfl ?_
 simp only[rF,gK,go_sem]
theorem xG (p:AE):(dq p).length=64:=fv p
theorem aa2 {p:AE}{x:AV} (h:x∈dq p):∃ m,x=.int .u8 m:=by
 unfold dq Aa.c at h
 obtain⟨l,h1,h2⟩:=List.mem_flatten.1 h
 obtain⟨q,_,rfl⟩:=List.mem_map.1 h1
 obtain⟨l,h1,h3⟩:=List.mem_flatten.1 h2
 obtain⟨z,_,rfl⟩:=List.mem_map.1 h1
 unfold af at h3
 exact⟨z,CM.1 h3⟩
theorem aju {x:Aq}{y:AV} (h:y∈Aq.c x):y.leaf=true:=by
 unfold Aq.c at h
 rcases Ba.1 h with h|h
 ·rw[CM.1 h];rfl
 ·obtain⟨m,rfl⟩:=aa2 h;rfl
theorem aq7 (x:Aq):∃ (o:Nat) (m:Int),(Aq.c x)[o]?=some (AV.int .u8 m):=by
 have hl:=xG x.AE
 obtain⟨y,hy⟩:∃ y,(dq x.AE)[0]?=some y:=⟨_,gG (by omega)⟩
 obtain⟨m,rfl⟩:=aa2 (AW hy)
 refine⟨1,m,?_⟩
 unfold Aq.c
 rw[CE (by simp)]
 exact hy
structure CT (N0:Nat) (fm:FM) (pv wv:Value) (P:List AE) (W:List Aq):Prop where
 pg:VR fm [] (.sl 64 (List.map dq P)) pv
 wt:VR fm [] (.sl 65 (List.map Aq.c W)) wv
 zy:∀ b o m,b<N0->fm b o≠some (.int .u8 m)
 new:∀ b o v,N0<=b->fm b o=some v->fm.t b≠0
theorem VR.u8 {fm:FM}{ts:List Ak}{m:Int}{v:Value} (h:VR fm ts (.int .u8 m) v):v=.int .u8 m:=by cases h;rfl
theorem CT.open {N0:Nat}{fm:FM}{pv wv:Value}{P:List AE}{W:List Aq} (h:CT N0 fm pv wv P W) (hP:P≠[]):∃ c off cap,pv=.slice (some ⟨c,off,none⟩) P.length cap/\(P.length<=cap/\P.length<=maxLen)/\N0<=c/\fm.t c=64/\
  ∀ (i:Nat) (p:AE) (o:Nat) (m:Int),P[i]?=some p->(dq p)[o]?=some (.int .u8 m)->fm c (off+(i*64+o))=some (.int .u8 m):=by
 have pZ:=h.pg
 generalize he:List.map dq P=es at pZ
 cases pZ with
 |cd e a cap=>exact absurd (List.map_eq_nil_iff.1 he) hP
 |sl _ cb off _ cap u bU h1 h2 h3 h4=>
  have hlen:es.length=P.length:=by rw[<-he];simp
  have key:∀ (i:Nat) (p:AE) (o:Nat) (m:Int),P[i]?=some p->(dq p)[o]?=some (.int .u8 m)->fm cb (off+(i*64+o))=some (.int .u8 m)/\(fm.t cb=0\/fm.t cb=64):=by
   intro i p o m hi ho
   have eP:es[i]?=some (dq p):=by rw[<-he,Bx,hi];rfl
   have h5:=h2 i _ o _ eP ho
   have h6:=(h4 i _ o _ eP ho).u8
   rw[h6]at h5
   exact h5
  obtain⟨p,l,rfl⟩:∃ p l,P=p::l:=by
   cases P with
   |nil=>exact absurd rfl hP
   |cons p l=>exact⟨p,l,rfl⟩
  obtain⟨y,hy⟩:∃ y,(dq p)[0]?=some y:=⟨_,gG (by rw[xG];decide)⟩
  obtain⟨m,rfl⟩:=aa2 (AW hy)
  obtain⟨h5,h6⟩:=key 0 p 0 m rfl hy
  have hN:N0<=cb:=by
   by_cases hb:cb<N0
   ·exact absurd h5 (h.zy cb _ m hb)
   ·omega
  rw[hlen]at bU
  refine⟨cb,off,cap,by rw[hlen],bU,hN,h6.resolve_left (h.new cb _ _ hN h5),fun i p o m hi ho=>(key i p o m hi ho).1⟩
theorem aif {fm:FM}{c off cap:Nat}{P:List AE} (bU:P.length<=cap/\P.length<=maxLen) (ht:fm.t c=64) (hc:∀ (i:Nat) (p:AE) (o:Nat) (m:Int),P[i]?=some p->(dq p)[o]?=some (.int .u8 m)->fm c (off+(i*64+o))=some (.int .u8 m)):
  VR fm [] (.sl 64 (List.map dq P)) (.slice (some ⟨c,off,none⟩) P.length cap):=by
 have hlen:(List.map dq P).length=P.length:=by simp
 have get:∀ (i:Nat) (cc:List AV) (o:Nat) (x:AV),(List.map dq P)[i]?=some cc->cc[o]?=some x->∃ m,x=.int .u8 m/\fm c (off+(i*64+o))=some (.int .u8 m):=by
  intro i cc o x hi ho
  rw[Bx,mS]at hi
  obtain⟨p,hp,rfl⟩:=hi
  obtain⟨m,rfl⟩:=aa2 (AW ho)
  exact⟨m,rfl,hc i p o m hp ho⟩
 rw[<-hlen]at bU ⊢
 refine .sl (List.map dq P) c off 64 cap (fun i o=>(fm c (off+(i*64+o))).getD default) bU ?_ ?_ ?_ ?_
 ·intro cc b9
  obtain⟨p,_,rfl⟩:=List.mem_map.1 b9
  exact xG p
 all_goals
  intro i cc o x hi ho
  obtain⟨m,rfl,h5⟩:=get i cc o x hi ho
 ·rw[h5];exact⟨h5,.inr ht⟩
 ·rfl
 ·rw[h5];exact .int _ _
theorem apx {P:List AE}{p:AE}{h:Aa 32 Int}{a b d:Int}{m0:Int} (m:Int) (hp:at? P a=some p) (hh:p.at? b=some h) (hm:h.at? d=some m0):
  b.toNat*32+d.toNat<64/\a.toNat<P.length/\(dq p)[b.toNat*32+d.toNat]?=some (.int .u8 m0)/\P[a.toNat]?=some p/\
  ∀ (i:Nat) (q:AE) (o:Nat) (n:Int),(P.set a.toNat (p.set b (h.set d m)))[i]?=some q->(dq q)[o]?=some (.int .u8 n)->
   (i=a.toNat/\o=b.toNat*32+d.toNat/\n=m)\/(¬ (i=a.toNat/\o=b.toNat*32+d.toNat)/\∃ q',P[i]?=some q'/\(dq q')[o]?=some (.int .u8 n)):=by
 have U:=Ao.at fu (Ao.at ga (Ao.self fv p) hh) hm
 have hb:=U.bound fu
 have hg:=U.get fu
 rw[fv]at hb
 have e:0+b.toNat*32+d.toNat*1=b.toNat*32+d.toNat:=by omega
 rw[e]at hb hg
 have vK:P[a.toNat]?=some p:=by
  unfold at? at hp
  split at hp
  ·exact hp
  ·cases hp
 have ae:=(gS.1 vK).1
 have hl:=xG p
 refine⟨by omega,ae,?_,vK,?_⟩
 ·have h1:(((dq p).drop (b.toNat*32+d.toNat)).take 1)[0]?=some (.int .u8 m0):=by
   show (((Aa.c (n:=2) (Aa.c (n:=32) af) p).drop (b.toNat*32+d.toNat)).take 1)[0]?=_
   rw[hg];rfl
  rw[BP,if_pos (by decide),Cf,Nat.add_zero]at h1
  exact h1
 ·intro i q o n hi ho
  by_cases hia:i=a.toNat
  ·subst hia
   rw[List.getElem?_set_self ae]at hi
   obtain rfl:=oi hi
   have hu:dq (p.set b (h.set d m))=(dq p).take (b.toNat*32+d.toNat)++([.int .u8 m]++(dq p).drop (b.toNat*32+d.toNat+1)):=by
    have:=U.ow m
    rw[e]at this
    exact this.symm
   rw[hu]at ho
   by_cases h1:o<b.toNat*32+d.toNat
   ·rw[Ct (by simp;omega),BP,if_pos h1]at ho
    exact .inr ⟨fun hh=>by omega,p,vK,ho⟩
   ·rw[CE (by simp;omega)]at ho
    simp only[A9,Nat.min_eq_left (show b.toNat*32+d.toNat<=(dq p).length by omega)]at ho
    by_cases h2:o=b.toNat*32+d.toNat
    ·subst h2
     rw[Nat.sub_self]at ho
     simp only[List.singleton_append,BV,oE,AV.int.injEq,true_and]at ho
     exact .inl ⟨rfl,rfl,ho.symm⟩
    ·obtain⟨z,rfl⟩:∃ z,o=b.toNat*32+d.toNat+1+z:=⟨o - (b.toNat*32+d.toNat+1),by omega⟩
     have e3:b.toNat*32+d.toNat+1+z - (b.toNat*32+d.toNat)=z+1:=by omega
     rw[e3,List.singleton_append,Cb,Cf]at ho
     exact .inr ⟨fun hh=>by omega,p,vK,ho⟩
  ·rw[List.getElem?_set_ne (fun e=>hia e.symm)]at hi
   exact .inr ⟨fun hh=>hia hh.1,q,hi,ho⟩
theorem CT.w9 {N0:Nat}{fm:FM}{pv wv:Value}{P:List AE}{W:List Aq} (hF:CT N0 fm pv wv P W) {c off cap:Nat} (hpv:pv=.slice (some ⟨c,off,none⟩) P.length cap) (bU:P.length<=cap/\P.length<=maxLen) (hN:N0<=c) (ht:fm.t c=64)
  (hc:∀ (i:Nat) (p:AE) (o:Nat) (m:Int),P[i]?=some p->(dq p)[o]?=some (.int .u8 m)->fm c (off+(i*64+o))=some (.int .u8 m))
  {p:AE}{h:Aa 32 Int}{a b d:Int}{m0:Int} (m:Int) (hp:at? P a=some p) (hh:p.at? b=some h) (hm:h.at? d=some m0):
  CT N0 (fm.lu c (off+(a.toNat*64+(b.toNat*32+d.toNat))) (.int .u8 m)) pv wv (P.set a.toNat (p.set b (h.set d m))) W/\fm c (off+(a.toNat*64+(b.toNat*32+d.toNat)))=some (.int .u8 m0):=by
 obtain⟨k1,k2,k3,k4,k5⟩:=apx m hp hh hm
 have hold:=hc _ _ _ _ k4 k3
 refine⟨⟨?_,?_,?_,?_⟩,hold⟩
 ·rw[hpv]
  have hlen:(P.set a.toNat (p.set b (h.set d m))).length=P.length:=by simp
  rw[<-hlen]
  refine aif (by rw[hlen];exact bU) ht ?_
  intro i q o n hi ho
  have arT:o<64:=by rw[<-xG q];exact(gS.1 ho).1
  unfold FM.lu
  simp only
  rcases k5 i q o n hi ho with ⟨rfl,rfl,rfl⟩|⟨bg,q',h1,h2⟩
  ·rw[if_pos ⟨trivial,rfl⟩]
  ·rw[if_neg]
   ·exact hc i q' o n h1 h2
   ·rintro⟨_,e⟩
    apply bg
    constructor<;>omega
 ·have tS:=hF.wt
  generalize he:List.map Aq.c W=es at tS
  generalize wv=wv' at tS
  cases tS with
  |cd e a cap=>exact .cd _ _ _
  |sl _ cb off' _ uO u yk h1 h2 h3 h4=>
   have aoB:∀ (i:Nat) (cc:List AV) (o:Nat) (x:AV),es[i]?=some cc->cc[o]?=some x->x.leaf=true:=by
    intro i cc o x hi ho
    rw[<-he,Bx,mS]at hi
    obtain⟨z,_,rfl⟩:=hi
    exact aju (AW ho)
   have bg:∀ (i:Nat) (cc:List AV) (o:Nat) (x:AV),es[i]?=some cc->cc[o]?=some x->cb≠c:=by
    rintro i cc o x hi ho rfl
    rw[<-he,Bx,mS]at hi
    obtain⟨z,hz,rfl⟩:=hi
    have:=(h2 i _ o x (by rw[<-he,Bx,hz];rfl) ho).2
    omega
   refine .sl es cb off' 65 uO u yk h1 (fun i cc o x hi ho=>⟨?_,(h2 i cc o x hi ho).2⟩) h3 (fun i cc o x hi ho=>(h4 i cc o x hi ho).leaf (aoB i cc o x hi ho))
   unfold FM.lu
   simp only
   rw[if_neg (fun hh=>bg i cc o x hi ho hh.1)]
   exact(h2 i cc o x hi ho).1
 ·intro b' o n hb
  unfold FM.lu
  simp only
  rw[if_neg (fun hh=>by omega)]
  exact hF.zy b' o n hb
 ·intro b' o v hb hv
  by_cases n6:b'=c
  ·subst n6;show fm.t b'≠0;omega
  ·unfold FM.lu at hv
   simp only at hv
   rw[if_neg (fun hh=>n6 hh.1)]at hv
   exact hF.new b' o v hb hv
theorem CT.up {N0:Nat}{fm fm':FM}{pv wv:Value}{P:List AE}{W:List Aq} (hF:CT N0 fm pv wv P W) (bo:AN N0 fm fm'):CT N0 fm' pv wv P W:=
 ⟨hF.pg.mono bo.le (As.refl _),hF.wt.mono bo.le (As.refl _),fun b o m hb=>by rw[bo.fix b o hb];exact hF.zy b o m hb,fun b o v hb hv=>by
  rcases bo.new b o v hv with e|e
  ·rw[bo.le.tg _ _ _ e];exact hF.new b o v hb e
  ·exact e⟩
theorem HR.ap9 {N0:Nat}{W0:World}{fm:FM}{ts:List Ak}{H H':Heap}{w:World} (h:HR N0 W0 fm ts H w) (hlen:H'.length=H.length)
  (hg:∀ l k b',H'.get l k=some b'->∃ b,H.get l k=some b/\BR fm (ts.drop l) w N0 (tb ts l k) b'):HR N0 W0 fm ts H' w:=by
 refine⟨h.len.trans hlen.symm,fun l k b' hb=>(hg l k b' hb).choose_spec.2,?_,h.bO,?_,h.dg,h.size,h.cT,h.dZ⟩
 ·intro l k l' k' b b' c h1 h2 h3 h4
  obtain⟨b1,g1,_⟩:=hg l k b h1
  obtain⟨b2,g2,_⟩:=hg l' k' b' h2
  exact h.inj l k l' k' b1 b2 c g1 g2 h3 h4
 ·intro l k b c o h1 h2
  obtain⟨b1,g1,_⟩:=hg l k b h1
  exact h.dh l k b1 c o g1 h2
theorem an2 (x y:AV) (l k:Nat) (b:AH) (h:Heap.get [gK x y] l k=some b):(l=0/\k=3/\b=.box [x,y])\/(¬ (l=0/\k=3)/\∀ x' y',Heap.get [gK x' y'] l k=some b):=by
 cases l with
 |succ l=>simp[Heap.get,gK]at h
 |zero=>
  simp only[Heap.get,gK,BV,Af]at h
  by_cases h3:k=3
  ·subst h3
   left
   refine⟨rfl,rfl,?_⟩
   simpa [look] using h.symm
  ·right
   refine⟨fun e=>h3 e.2,fun x' y'=>?_⟩
   rw[<-h]
   simp only[Heap.get,gK,BV,Af,look]
   simp[h3,Ne.symm h3]
theorem HA.cells {N0:Nat}{W0:World}{fm:FM}{ts:List Ak}{a:Act}{w:World}{x y:AV}{ck:List Bb}{cut i:Int} (h:SR N0 W0 Try.f69.ntmps (jr x y ck cut i) a w fm ts):∃ pv wv,VR fm ts x pv/\VR fm ts y wv/\(pv.oneCell'=true/\wv.oneCell'=true)/\
  ∀ x' y',x'.flat=true->y'.flat=true->VR fm ts x' pv->VR fm ts y' wv->SR N0 W0 Try.f69.ntmps (jr x' y' ck cut i) a w fm ts:=by
 have h0:Heap.get [gK x y] 0 3=some (.box [x,y]):=by simp[Heap.get,gK,look]
 have hb:=h.hr.al 0 3 _ h0
 generalize ht:tb ts 0 3=t at hb
 cases hb with
 |box c cs hN hB=>
  obtain⟨cl,et,c1,c2,c3⟩:=hB
  have h2:cl.size=2:=c2
  have e0:cl[0]?=some (cl[0]'(by omega)):=Bv _
  have e1:cl[1]?=some (cl[1]'(by omega)):=Bv _
  obtain⟨f0,v0⟩:=c3 0 _ _ rfl e0
  obtain⟨f1,v1⟩:=c3 1 _ _ rfl e1
  refine⟨_,_,v0,v1,⟨v0.aeh f0,v1.aeh f1⟩,fun x' y' fx fy vx vy=>?_⟩
  refine⟨?_,h.tm,h.nx,h.size,h.dX⟩
  refine HR.ap9 (H:=(gK x y)::[]) h.hr rfl ?_
  intro l k b' hb
  rcases an2 x' y' l k b' hb with ⟨rfl,rfl,rfl⟩|⟨_,bg⟩
  ·refine⟨_,h0,?_⟩
   rw[ht]
   refine .box c _ hN ⟨cl,et,c1,h2,?_⟩
   intro o z v h1 h2
   match o,h1 with
   |0,h1=>cases h1;rw[e0]at h2;cases h2;exact⟨fx,vx⟩
   |1,h1=>cases h1;rw[e1]at h2;cases h2;exact⟨fy,vy⟩
  ·exact⟨b',bg x y,h.hr.al l k b' (bg x y)⟩
theorem aoc (k:Nat) (P:List AE) (W:List Aq) (ck:List Bb) (cut i:Int) (r:Ac)
  (h:(bif decide (0<cut) then
   bif decide ((0:Int)<(W.length:Int)) then
    (B7 k cut (ab ((W.length:Int)+1))).bind fun n=>
    (nq W.length (ab ((W.length:Int) - n))).bind fun _=>
    some (⟨P,W.take (ab ((W.length:Int) - n)).toNat⟩:Ac)
   else some ⟨P,W⟩
  else some ⟨P,W⟩)=some r):
  AK Try.prog Try.f69.ntmps (fun e st=>e=.ret/\Dx T Try.f69.results.toList (fun y=>NL y (.agg (Ac.c r))) .ret st) [.sc AO.o7] (jr (.sl 64 (List.map dq P)) (.sl 65 (List.map Aq.c W)) ck cut i):=by
 refine rS ?_
 simp only[AO.o7,AO.c,jr,gK,SC.snd,go_sem]
 cases h1:decide (0<cut) with
 |false=>
  simp only[h1,Aj]at h
  obtain rfl:=oi h
  simp only[h1,go_sem]
  refine⟨rfl,Ag (P:=Try.prog) (n:=Try.f69.ntmps) rfl ?_⟩
  simp only[AO.rs,dq,List.map_take,go_sem]
 |true=>
  simp only[h1,Am]at h
  cases h2:decide ((0:Int)<(W.length:Int)) with
  |false=>
   simp only[h2,Aj]at h
   obtain rfl:=oi h
   simp only[h1,h2,go_sem]
   refine⟨rfl,Ag (P:=Try.prog) (n:=Try.f69.ntmps) rfl ?_⟩
   simp only[AO.rs,dq,List.map_take,go_sem]
  |true=>
   simp only[h2,Am]at h
   obtain⟨n,hn,h⟩:=bs h
   obtain⟨b,hb,h⟩:=bs h
   obtain rfl:=oi h
   simp only[h1,h2,go_sem]
   refine AL Ax aS 1000 ?_
   simp only[go_sem]
   refine uW (CQ k _ _ _ hn) ?_ ?_
   ·simp only[go_sem]
   have lhb:=ahn hb
   simp only[ahm hb,go_sem]
   refine aF ?_
   simp only[go_sem]
   refine⟨rfl,Ag (P:=Try.prog) (n:=Try.f69.ntmps) rfl ?_⟩
   simp only[AO.rs,dq,List.map_take,go_sem]
def FM.eV (fm:FM):FM:=⟨fun b o=>match fm b o with
 |some (.int .u8 _)=>none
 |x=>x,fun _=>0⟩
theorem FM.ao0 {fm:FM}{b o:Nat}{v:Value} (h:fm b o=some v) (hn:∀ m,v≠.int .u8 m):fm.eV b o=some v:=by
 show (match fm b o with
  |some (.int .u8 _)=>none
  |x=>x)=some v
 rw[h]
 split
 ·rename_i m e
  exact absurd (oi e) (hn m)
 ·rfl
theorem FM.aeb {fm:FM}{b o:Nat}{v:Value} (h:fm.eV b o=some v):fm b o=some v/\∀ m,v≠.int .u8 m:=by
 have h':(match fm b o with
  |some (.int .u8 _)=>none
  |x=>x)=some v:=h
 split at h'
 ·cases h'
 ·rename_i bg
  refine⟨h',fun m e=>?_⟩
  subst e
  exact bg m h'
theorem ahZ:∀ {l:List (List AV)},(∀ c∈l,AV.jt c=true)->AV.jt l.flatten=true
 |[],_=>rfl
 |c::l,h=>by
  rw[Cu,aea,h c (List.mem_cons_self ..),ahZ (fun c hc=>h c (List.mem_cons_of_mem _ hc))];rfl
theorem aoY {n:Nat} (v:Aa n Int):AV.jt (Aa.c (n:=n) eI v)=true:=by
 unfold Aa.c
 refine ahZ fun c hc=>?_
 obtain⟨x,_,rfl⟩:=List.mem_map.1 hc
 rfl
theorem aoZ (l:List Bz):AV.eV (.sl 7 (List.map Bz.c l))=true:=abx (fun x=>by
 cases x
 simp only[Bz.c,Bq,BM,AV.jt,AV.oH,AV.eV,aea,aoY,BO,Bool.and_true]
 exact abx (fun x=>by rfl) _) l
theorem ah0 (l:List Bb):AV.eV (.sl 4 (List.map Bb.c l))=true:=abx (fun x=>by cases x;simp[Bb.c,AV.jt,AV.oH,AV.eV,go_sem]) l
theorem CT.close {N0:Nat}{fm fm':FM}{pv wv:Value}{P:List AE}{W:List Aq} (hF:CT N0 fm pv wv P W) (hc:∀ b o v,N0<=b->fm b o=some v->fm' b o=some v) (ht:∀ b,N0<=b->fm'.t b=fm.t b):
  VR fm' [] (.sl 64 (List.map dq P)) pv/\VR fm' [] (.sl 65 (List.map Aq.c W)) wv:=by
 constructor
 ·by_cases hP:P=[]
  ·subst hP
   have:=hF.pg
   cases this with
   |cd e a cap=>exact .cd _ _ _
   |sl _ cb off _ cap u bU h1 h2 h3 h4=>exact .sl [] cb off 64 cap u bU (fun cc h=>by simp at h) (fun i c o x h=>by simp at h) (fun i c o x h=>by simp at h) (fun i c o x h=>by simp at h)
  ·obtain⟨c,off,cap,rfl,bU,hN,oz,hce⟩:=hF.open hP
   exact aif bU (by rw[ht c hN];exact oz) (fun i p o m h1 h2=>hc _ _ _ hN (hce i p o m h1 h2))
 ·have tS:=hF.wt
  generalize he:List.map Aq.c W=es at tS
  generalize wv=wv' at tS
  cases tS with
  |cd e a cap=>exact .cd _ _ _
  |sl _ cb off' _ uO u yk h1 h2 h3 h4=>
   have key:∀ (i:Nat) (cc:List AV) (o:Nat) (x:AV),es[i]?=some cc->cc[o]?=some x->x.leaf=true/\N0<=cb:=by
    intro i cc o x hi ho
    have eP:=hi
    rw[<-he,Bx,mS]at hi
    obtain⟨z,_,rfl⟩:=hi
    refine⟨aju (AW ho),?_⟩
    obtain⟨o',m,hm⟩:=aq7 z
    have h5:=(h2 i _ o' _ eP hm).1
    rw[(h4 i _ o' _ eP hm).u8]at h5
    by_cases hb:cb<N0
    ·exact absurd h5 (hF.zy cb _ m hb)
    ·omega
   refine .sl es cb off' 65 uO u yk h1 (fun i cc o x hi ho=>?_) h3 (fun i cc o x hi ho=>(h4 i cc o x hi ho).leaf (key i cc o x hi ho).1)
   obtain⟨_,hN⟩:=key i cc o x hi ho
   obtain⟨a1,a2⟩:=h2 i cc o x hi ho
   exact⟨hc _ _ _ hN a1,by rw[ht cb hN];exact a2⟩
theorem an3 (x y:Value):∀ l k b,Heap.get [gK (.raw x) (.raw y)] l k=some b->b.eV=true:=by
 intro l k b h
 cases l with
 |succ l=>simp[Heap.get,gK]at h
 |zero=>
  simp only[Heap.get,gK,BV,Af,look]at h
  repeat' split at h
  all_goals first|cases h|skip
  all_goals rfl
theorem an4 (pv wv:Value) (ck:List Bb) (cut i b:Int) (p:Value):∀ t x,look (rF (.raw pv) (.raw wv) ck cut i b p).tm t=some x->x.eV=true:=by
 intro t x h
 simp only[rF,look]at h
 repeat' split at h
 all_goals first|cases h|skip
 ·exact ah0 ck
 all_goals rfl
theorem aod {i:Int} (h0:0<=i) (h6:i<6):ab (i+1)=i+1:=by
 have h:i=0\/i=1\/i=2\/i=3\/i=4\/i=5:=by omega
 rcases h with rfl|rfl|rfl|rfl|rfl|rfl<;>decide
def Ci:Code:=Try.f69.body.getD .skip
def afP:Code->Code
 |.loop b=>b
 |.block _ b=>afP b
 |x=>x
def alH:Code->Code
 |.block _ b=>b
 |x=>x
def aaY:Code->Nat
 |.region r _ _=>r
 |_=>0
def CO:Code:=afP (ah (bc (ah (ah Ci))))
def CZ:Code:=alH (bc (ah CO))
theorem aof (k:Nat) (P:List AE) (s:Bb) (l:List Bb) (r:List AE) (h:rG k P (s::l)=some r):∃ a b d p hf m0,B7 k s.AE 602=some a/\B7 k s.DD 2=some b/\B7 k s.At 32=some d/\at? P a=some p/\p.at? b=some hf/\hf.at? d=some m0/\rG k (P.set a.toNat (p.set b (hf.set d (IntKind.u8.wrap s.CH)))) l=some r:=by
 simp only[rG,abk]at h
 obtain⟨P',h1,h2⟩:=bs h
 obtain⟨a,ha,h1⟩:=bs h1
 obtain⟨b,hb,h1⟩:=bs h1
 obtain⟨d,hd,h1⟩:=bs h1
 obtain⟨p,hp,h1⟩:=bs h1
 obtain⟨hf,hh,h1⟩:=bs h1
 obtain⟨m0,hm,h1⟩:=bs h1
 obtain rfl:=oi h1
 exact⟨a,b,d,p,hf,m0,ha,hb,hd,hp,hh,hm,h2⟩
theorem an8 (ck:List Bb) (i:Int) (hi:0<=i) (h1:i<(ck.length:Int)) (h2:i<6):∃ s,at? ck i=some s/\(ck.drop i.toNat).take (6 - i.toNat)=s::(ck.drop (i.toNat+1)).take (6 - (i.toNat+1)):=by
 have ae:i.toNat<ck.length:=by omega
 refine⟨ck[i.toNat],by unfold at?;rw[if_pos ⟨hi,h1⟩,gG ae],?_⟩
 obtain⟨z,hz⟩:∃ z,6 - i.toNat=z+1:=⟨5 - i.toNat,by omega⟩
 rw[List.drop_eq_getElem_cons ae,hz,List.take_succ_cons]
 congr 2
 omega
theorem IF (k:Nat) (l0:List Bz) (gv:List Bb) (ja:Int) (r:Ac) (h0:EZ k l0 gv ja=some r):Aw Try.prog 69 [.sl 7 (List.map Bz.c l0),.sl 4 (List.map Bb.c gv),.int .i64 ja] (fun y=>y=.agg (Ac.c r)):=by
 unfold EZ at h0
 split at h0
 rotate_left
 ·cases h0
 obtain⟨r1,hJ,h0⟩:=bs h0
 obtain⟨Pf,hPf,h0⟩:=bs h0
 refine⟨⟨Try.f69,by rfl,by rfl,by rfl⟩,fun fm w vs bB hv=>?_⟩
 have jI:Try.f69.ntmps=70:=by rfl
 refine callsIn_wide.1 (callsIn_of_wp_marks (F:=FW) (n:=0) (fn:=Try.f69) (c:=Ci) (by rfl) (by rfl) trivial ?_)
 have hold:∀ b o v,fm b o=some v->b<w.heap.size:=fun b o v h=>World.block_lt_of_cell? w _ (bB b o v h)
 have adB:Du fm.eV w:=fun b o v h=>bB b o v (FM.aeb h).1
 have hv0:Au fm.eV [] [.sl 7 (List.map Bz.c l0),.sl 4 (List.map Bb.c gv),.int .i64 ja] vs:=by
  refine⟨hv.1,fun i x v p q=>?_⟩
  have h8:x.eV=true:=by
   match i,p with
   |0,p=>cases p;exact aoZ l0
   |1,p=>cases p;exact ah0 gv
   |2,p=>cases p;rfl
   |i+3,p=>simp at p
  exact(hv.2 i x v p q).xa (fun b o v h hn=>FM.ao0 h hn) (fun b=>.inr rfl) h8
 have hS:=SR.enter (HR.nothing adB) (vs:=vs) (args:=[.sl 7 (List.map Bz.c l0),.sl 4 (List.map Bb.c gv),.int .i64 ja]) (n:=Try.f69.ntmps) ⟨hv0.1,fun i x v p q=>(hv0.2 i x v p q).mono (AZ.refl _) (As.nil _)⟩ (by rw[jI];simp)
 have e69:Ci=.seq (bc Ci) (.seq (bc (ah Ci)) (.seq (.seq (bc (bc (ah (ah Ci)))) (.block 0 (.loop CO))) (ah (ah (ah Ci))))):=by rfl
 refine(show K Try.prog _ [.code Ci] .normal _ w from ?_)
 rw[e69]
 refine C1 ?_
 refine CI (t:=[.code (bc (ah Ci)),.code (bc (bc (ah (ah Ci)))),.code (.block 0 (.loop CO)),.code (ah (ah (ah Ci)))])
  (fun e a w h=>CA _ _ _ (CI (fun e a w h=>CA _ _ _ (CA _ _ _ h)) _ _ _ h)) _ _ _ ?_
 refine AK.nD (cs:=[.code (bc Ci),.code (bc (ah Ci)),.code (bc (bc (ah (ah Ci))))]) (t:=[.code (.block 0 (.loop CO)),.code (ah (ah (ah Ci)))]) (Φ:=fun _ _=>False) (todo:=[.sc AO.o0,.sc AO.o1,.sc AO.o2]) hS (an6 k l0 gv ja r1 hJ _)
  (fun R hR=>.sc (by rfl) (by rfl) (.sc (by rfl) (by rfl) (.sc (by rfl) (by rfl) (.back hR .nil)))) ?_ (fun _ _ _ _ _ _ h=>h.elim)
 rintro wH a0 w0 fm0 fY lR yc xY
 obtain⟨dR,dL,dt,jC⟩:=lR _ _ _ _ _ _ yc
 have ahq:AN w.heap.size fm.eV dR:=xY.cS.trans jC.cS
 have jH:∀ b o m,b<w.heap.size->dR b o≠some (.int .u8 m):=by
  intro b o m hb h
  rw[ahq.fix b o hb]at h
  exact(FM.aeb h).2 m rfl
 have dw:∀ b o v,w.heap.size<=b->dR b o=some v->dR.t b≠0:=by
  intro b o v hb h
  rcases ahq.new b o v h with e|e
  ·exact absurd (hold _ _ _ (FM.aeb e).1) (by omega)
  ·exact e
 obtain⟨pv,wv,hpv,hwv,⟨o1,o2⟩,adx⟩:=HA.cells dt
 have anL:VR dR [] (.sl 64 (List.map dq r1.1.Ae)) pv:=(dt.hr.pe (Au.one hpv) (ys:=[.sl 64 (List.map dq r1.1.Ae)]) rfl).2 0 _ _ rfl rfl
 have an0:VR dR [] (.sl 65 (List.map Aq.c r1.1.Ad)) wv:=(dt.hr.pe (Au.one hwv) (ys:=[.sl 65 (List.map Aq.c r1.1.Ad)]) rfl).2 0 _ _ rfl rfl
 have eK:=adx (.raw pv) (.raw wv) rfl rfl (.raw _ o1) (.raw _ o2)
 have hF1:CT w.heap.size dR pv wv r1.1.Ae r1.1.Ad:=⟨anL,an0,jH,dw⟩
 refine D8 ?_
 refine FD (I:=fun m a w'=>∃ i P fm' ts',SR w.heap.size w Try.f69.ntmps (jr (.raw pv) (.raw wv) gv ja i) a w' fm' ts'/\CT w.heap.size fm' pv wv P r1.1.Ad/\rG k P ((gv.drop i.toNat).take (6 - i.toNat))=some Pf/\(0<=i/\i<=6)/\m=6 - i.toNat) 6
  ⟨0,_,dR,dL,eK,hF1,hPf,⟨by decide,by decide⟩,rfl⟩ ?_
 rintro m a w2 ⟨i,P,dS,du,eK,hF2,eb,⟨pO,hi6⟩,rfl⟩
 have eB:CO=.seq (bc CO) (.seq (.block 1 (.seq (bc CZ) (.region (aaY (ah CZ)) (uU (ah CZ)) true))) (ah (ah CO))):=by rfl
 rw[eB]
 refine C1 ?_
 cases hc:(decide (i<(gv.length:Int))&&decide (i<6)) with
 |false=>
  refine AK.nD (cs:=[.code (bc CO)]) (t:=[.code (.seq (.block 1 (.seq (bc CZ) (.region (aaY (ah CZ)) (uU (ah CZ)) true))) (ah (ah CO))),.back _,.al 0,.code (ah (ah (ah Ci)))]) (todo:=[.sc AO.q0]) eK (aoa pv wv gv ja i hc (fun _=>False)) (fun R hR=>.sc (by rfl) (by rfl) (.back hR .nil)) (fun _ _ _ _ _ h=>h.elim) ?_
  rintro e st3 a3 w3 iK jU ⟨rfl,vR⟩ ig jD
  obtain⟨fm4,ts4,lM,vt⟩:=vR _ _ _ _ _ _ ig
  have xX:=(hF2.up jD.cS).up vt.cS
  refine(show K Try.prog _ [.code (ah (ah (ah Ci)))] .normal a3 w3 from ?_)
  have tK:(gv.drop i.toNat).take (6 - i.toNat)=[]:=by
   simp only[Bool.and_eq_false_iff,decide_eq_false_iff_not]at hc
   by_cases h6:i=6
   ·subst h6;rfl
   ·rw[List.drop_eq_nil_of_le (by omega),List.take_nil]
  rw[tK]at eb
  obtain rfl:=oi eb
  obtain⟨pv',wv',anK,anZ,_,ana⟩:=HA.cells lM
  cases anK
  cases anZ
  have tj:=ana (.sl 64 (List.map dq P)) (.sl 65 (List.map Aq.c r1.1.Ad)) rfl rfl (xX.pg.mono (AZ.refl _) (As.nil _)) (xX.wt.mono (AZ.refl _) (As.nil _))
  refine AK.last tj (aoc k P r1.1.Ad gv ja i r h0) (by rfl) (by rfl) ?_
  rintro e7 st7 a7 w7 fm7 ts7 ⟨rfl,hE⟩ tk ya
  obtain⟨u,sW,h1,h2,⟨h3,h3'⟩,h4⟩:=ac7 (P:=Try.prog) Ax tk hE
  have vr:=(xX.up ya.cS).up h4
  show LeavesInM FW 0 Try.prog Try.f69 a7.tmps _ a7.defers .returning w7
  rw[tk.dX.1]
  have lN:=tk.hr.dg
  let sX:FM:=⟨fun b o=>if b<w.heap.size then fm b o else sW b o,fun b=>if b<w.heap.size then fm.t b else sW.t b⟩
  have lo:∀ b o,b<w.heap.size->sX b o=fm b o:=fun b o h=>if_pos h
  have hi:∀ b o,w.heap.size<=b->sX b o=sW b o:=fun b o h=>if_neg (by omega)
  have mM:∀ b,b<w.heap.size->sX.t b=fm.t b:=fun b h=>if_pos h
  have hit:∀ b,w.heap.size<=b->sX.t b=sW.t b:=fun b h=>if_neg (by omega)
  have bp:VR sX [] (.agg (Ac.c r)) u:=by
   have hd:Ac.c r=[.sl 64 (List.map dq r.Ae),.sl 65 (List.map Aq.c r.Ad)]:=by cases r;simp[Ac.c,dq]
   rw[hd]at h2 ⊢
   cases h2 with
   |agg cs vs' g1 g2 g3=>
    have g1':vs'.size=2:=g1.symm
    have e0:vs'[0]?=some (vs'[0]'(by omega)):=Bv _
    have e1:vs'[1]?=some (vs'[1]'(by omega)):=Bv _
    have hF9:CT w.heap.size sW (vs'[0]'(by omega)) (vs'[1]'(by omega)) r.Ae r.Ad:=⟨g3 0 _ _ rfl e0,g3 1 _ _ rfl e1,vr.zy,vr.new⟩
    obtain⟨q1,q2⟩:=hF9.close (fm':=sX) (fun b o v hb hv=>by rw[hi b o hb];exact hv) hit
    refine .agg _ _ g1 g2 ?_
    intro j x v a b
    match j,a with
    |0,a=>cases a;rw[e0]at b;cases b;exact q1
    |1,a=>cases a;rw[e1]at b;cases b;exact q2
    |j+2,a=>simp at a
  refine⟨u,h1,u,_,sX,rfl,rfl,⟨?_,?_⟩,bp,⟨⟨?_,?_⟩,lo,mM,?_⟩,lN⟩
  ·intro b o v hv
   by_cases hb:b<w.heap.size
   ·rw[lo b o hb]at hv
    exact(World.cell?_of_block (w:=w) (a:=⟨b,o,none⟩) (lN.block b hb)).trans (bB b o v hv)
   ·rw[hi b o (by omega)]at hv
    exact h3 b o v hv
  ·intro b o v hb hv ht
   rw[hi b o hb]at hv
   rw[hit b hb]at ht
   exact h3' b o v hb hv ht
  ·intro b o v hv
   rw[lo b o (hold b o v hv)];exact hv
  ·intro b o v hv
   exact mM b (hold b o v hv)
  ·intro b o v hv
   by_cases hb:b<w.heap.size
   ·rw[lo b o hb]at hv;exact .inl hv
   ·rw[hi b o (by omega)]at hv
    rw[hit b (by omega)]
    exact .inr (vr.new b o v (by omega) hv)
 |true=>
  simp only[A7,decide_eq_true_eq]at hc
  obtain⟨mC,mD⟩:=hc
  obtain⟨sp,ou,anz⟩:=an8 gv i pO mC mD
  rw[anz]at eb
  obtain⟨qa,qb,qd,p,hf,m0,ha,hb,hd,hp,hh,hm,eb⟩:=aof k P sp _ Pf eb
  have hP:P≠[]:=by
   rintro rfl
   unfold at? at hp
   split at hp<;>simp at hp
  refine AK.nD (cs:=[.code (bc CO)]) (t:=[.code (.seq (.block 1 (.seq (bc CZ) (.region (aaY (ah CZ)) (uU (ah CZ)) true))) (ah (ah CO))),.back _,.al 0,.code (ah (ah (ah Ci)))]) (todo:=[.sc AO.q0]) eK (an7 pv wv gv ja i (by simpa using mC) (by simpa using mD) (fun _ _=>False)) (fun R hR=>.sc (by rfl) (by rfl) (.back hR .nil)) ?_ (fun _ _ _ _ _ _ h=>h.elim)
  rintro st3 a3 w3 iK jU vR ig jD
  obtain⟨fm4,ts4,lM,vt⟩:=vR _ _ _ _ _ _ ig
  have xX:=(hF2.up jD.cS).up vt.cS
  refine C1 ?_
  refine D8 ?_
  refine C1 ?_
  refine AK.nD (cs:=[.code (bc CZ)]) (t:=[.code (.region (aaY (ah CZ)) (uU (ah CZ)) true),.al 1,.code (ah (ah CO)),.back _,.al 0,.code (ah (ah (ah Ci)))]) (todo:=[.sc AO.x5]) lM (aob pv wv gv ja i sp ou (fun _ _=>False)) (fun R hR=>.sc (by rfl) (by rfl) (.back hR .nil)) ?_ (fun _ _ _ _ _ _ h=>h.elim)
  rintro st5 a5 w5 xQ ts5 hw5 tj xZ
  obtain⟨fm6,ts6,yd,hL6⟩:=hw5 _ _ _ _ _ _ tj
  have hF6:=(xX.up xZ.cS).up hL6.cS
  obtain⟨c,off,cap,rfl,bU,hN,oz,hce⟩:=hF6.open hP
  have ra:=aC hp
  have rb:=aq hh
  have rd:=aq hm
  refine Ii Ax aS (B:=fun ao=>Ah Try.f69.ntmps ao (rF (.raw (.slice (some ⟨c,off,none⟩) P.length cap)) (.raw wv) gv ja i (IntKind.u8.wrap sp.CH) (.pointer (some (((Addr.add ⟨c,off,none⟩ (qa.toNat*64)).add (qb.toNat*32)).add (qd.toNat*1)))))) (ops0:=AO.x6.acV) (ops:=AO.ops) (o:=AO.lst) (befs:=AO.mo) (drop:=[10,30,31,32,33,34,35,36,37,38,39,40,41,42,43,44,45,46]) 1000 (by rfl) (by decide +kernel) (an5 k c off P.length cap wv gv ja i sp qa qb qd ha hb hd ra rb rd) yd (by rfl) (by rfl) ?_
  rintro st7 a7 w7 fm7 ts7 hw7 tk ya
  obtain⟨sW,ts8,pK,hL8⟩:=hw7 _ _ _ _ _ _ tk
  have vr:=(hF6.up ya.cS).up hL8.cS
  obtain⟨c',off',uO,heq,yk,nf,tQ,am9⟩:=vr.open hP
  cases heq
  obtain⟨hF9,abg⟩:=vr.w9 rfl yk nf tQ am9 (IntKind.u8.wrap sp.CH) hp hh hm
  obtain⟨cells,et,bu⟩:=pK.hr.dZ c _ _ nf abg (by omega)
  obtain⟨o3,e3,g3,d3⟩:∃ o,(uU (ah CZ))[AO.ops.length]?=some o/\o.guard=none/\o.op=.store 5 (.tmp 46) (.tmp 43)/\o.dst=none:=⟨_,rfl,rfl,rfl,rfl⟩
  refine Fp e3 g3 ?_
  obtain⟨v46,h46,r46⟩:=pK.tm 46 _ rfl
  obtain⟨v43,h43,r43⟩:=pK.tm 43 _ rfl
  obtain rfl:=r43.u8
  have e46:v46=.pointer (some ⟨c,off+(qa.toNat*64+(qb.toNat*32+qd.toNat)),none⟩):=by
   cases r46
   rw[Addr.add_lit,Addr.add_lit,Addr.add_lit]
   congr 3
   omega
  subst e46
  have w46:a7.eval (.tmp 46)=.pointer (some ⟨c,off+(qa.toNat*64+(qb.toNat*32+qd.toNat)),none⟩):=by simp[Act.eval,Array.getD_eq_getD_getElem?,h46]
  have w43:a7.eval (.tmp 43)=.int .u8 (IntKind.u8.wrap sp.CH):=by simp[Act.eval,Array.getD_eq_getD_getElem?,h43]
  have ym:=pK.hr.bO _ _ _ abg
  have hj:off+(qa.toNat*64+(qb.toNat*32+qd.toNat))<cells.size:=by
   simp only[World.cell?,bu]at ym
   by_cases hj:off+(qa.toNat*64+(qb.toNat*32+qd.toNat))<cells.size
   ·exact hj
   ·simp[Array.getElem?_eq_none (by omega:cells.size<=off+(qa.toNat*64+(qb.toNat*32+qd.toNat)))]at ym
  obtain⟨inf,ba,aw⟩:∃ inf,Try.prog.info? 5=some inf/\inf.size=1:=⟨_,rfl,rfl⟩
  have yZ:=aey (P:=Try.prog) (w:=w7) (t:=5) (v:=.int .u8 (IntKind.u8.wrap sp.CH)) ba (by rw[aw];rfl) bu (show off+(qa.toNat*64+(qb.toNat*32+qd.toNat))+1<=cells.size from hj) (by intro u hu;simp[Value.cells]at hu;subst hu;rfl)
  have bf:(execOp a7.eval o3).run Try.prog w7=.ok .skip (w7.setRow c (cells.toList.take (off+(qa.toNat*64+(qb.toNat*32+qd.toNat)))++([Value.int .u8 (IntKind.u8.wrap sp.CH)]++cells.toList.drop (off+(qa.toNat*64+(qb.toNat*32+qd.toNat))+1))).toArray):=by
   simp only[execOp,d3.1,w46,w43,Sem.run_bind,yZ]
   rfl
  refine aei (fun c h=>by rw[d3.1]at h;cases h) bf ?_
  rw[d3.2]
  have hr9:=pK.hr.xa (y:=.int .u8 (IntKind.u8.wrap sp.CH)) nf abg bu (an3 _ _)
  have hS9:SR w.heap.size w Try.f69.ntmps (rF (.raw (.slice (some ⟨c,off,none⟩) P.length cap)) (.raw wv) gv ja i (IntKind.u8.wrap sp.CH) (.pointer (some (((Addr.add ⟨c,off,none⟩ (qa.toNat*64)).add (qb.toNat*32)).add (qd.toNat*1))))) (a7.put none undef)
    (w7.setRow c (cells.toList.take (off+(qa.toNat*64+(qb.toNat*32+qd.toNat)))++([Value.int .u8 (IntKind.u8.wrap sp.CH)]++cells.toList.drop (off+(qa.toNat*64+(qb.toNat*32+qd.toNat))+1))).toArray)
    (sW.lu c (off+(qa.toNat*64+(qb.toNat*32+qd.toNat))) (.int .u8 (IntKind.u8.wrap sp.CH))) ts8:=by
   refine⟨hr9,?_,pK.nx,pK.size,pK.dX⟩
   intro t x hx
   obtain⟨v,h1,h2⟩:=pK.tm t x hx
   exact⟨v,h1,h2.xa (FM.ai5 abg) (fun b=>.inl rfl) (an4 _ _ _ _ _ _ _ t x hx)⟩
  refine(show K Try.prog _ [.al 1,.code (ah (ah CO)),.back _,.al 0,.code (ah (ah (ah Ci)))] .normal _ _ from ?_)
  refine AK.nD (cs:=[.al 1,.code (ah (ah CO))]) (t:=[.back _,.al 0,.code (ah (ah (ah Ci)))]) (todo:=[.al 1,.sc AO.r4]) hS9 (an9 _ wv gv ja i _ _ (fun _ _=>False)) (fun R hR=>.al (.sc (by rfl) (by rfl) (.back hR .nil))) ?_ (fun _ _ _ _ _ _ h=>h.elim)
  rintro ar4 a10 w10 arx ar5 anX am1 amY
  obtain⟨amN,aqD,ag3,amZ⟩:=anX _ _ _ _ _ _ am1
  have amW:=(hF9.up amY.cS).up amZ.cS
  refine(show ∃ m',m'<6 - i.toNat/\_ from ?_)
  have ew:ab (i+1)=i+1:=aod pO mD
  have en:(i+1).toNat=i.toNat+1:=by omega
  rw[ew]at ag3
  exact⟨6 - (i+1).toNat,by omega,i+1,_,amN,aqD,ag3,amW,by rw[en];exact eb,⟨by omega,by omega⟩,rfl⟩
def G4.c:SC:=
 SQ [RG [wE 1 36 0 [0],wA 2 42],RG [wF 4 36 1 0,wD 5 33 4 [4],wF 6 36 1 1,wD 7 34 6 [6],wF 8 36 1 2,wD 9 3 8 [8],wC 10 69 #[.tmp 5,.tmp 7,.tmp 9] #[33,34,3] 42 [5,7,9],wA 3 42,wS 42 3 10 [10]],SQ [RG [wF 11 36 1 3 [1],wD 12 4 11 [11]],CN 12 (RG [oQ 13 (.buildSlice 39 0 #[]) 39,wF 14 42 3 0,wD 15 39 14 [14],oQ 16 (.slice 39 (.tmp 15) (some (.const (.int .i64 1))) none none) 39 [15],
 wP 17 13 16 39 39 39 [13,16],wF 18 42 3 0,wS 39 18 17 [17,18]]) .skip],RG [wD 19 42 3 [3],wS 42 2 19 [19]],.ret]
def ET (k:Nat) (x0:Cd):Option (Ac):=
 (EZ k x0.Dl x0.Ei x0.Cut).bind fun x1=>
 bif x0.Fw then
  (bY x1.Ae 1 x1.Ae.length).bind fun l3=>
  (eW l3.length 64).bind fun _=>
  some (⟨l3,x1.Ad⟩:Ac)
 else
  some x1
theorem Iv (k:Nat) (x0:Cd) (r:Ac) (h0:ET k x0=some r):Aw Try.prog 18 [.agg (Cd.c x0)] (fun y=>y=.agg (Ac.c r)):=by
 refine PB Try.f18 G4.c [.cell 2 42] ?_
 simp only[ET]at h0
 try simp only[G4.c,go_sem]
 refine au h0 (IF k _ _ _) ?_ (fun x1 h0=>?_)<;>try simp only[go_sem]
 refine AS h0 ?_ ?_<;>intro c2 h0<;>have F:=c2<;>try simp only[F,go_sem]
 obtain⟨l3,yl3,h0⟩:=bs h0
 have agq:=wR (Aa.c (n:=2) (Aa.c (n:=32) af)) yl3
 try simp only[go_sem]at agq
 have F:=an agq F
 try simp only[sf yl3,F,go_sem]
 obtain⟨u4,yu4,h0⟩:=bs h0
 try simp only[lh yu4,F,go_sem]
 obtain rfl:=oi h0
 refine Ag rfl ?_
 try simp only[F,go_sem]
 obtain rfl:=oi h0
 refine Ag rfl ?_
 try simp only[F,go_sem]
def G5.c:SC:=
 SQ [RG [wE 2 36 0 [0],wE 3 38 1 [1],wA 4 48],RG [wF 8 36 2 0 [2],wD 9 33 8 [8],wU 10 70 9 33 76 [9],wV 7 10 76 [10],wX 11 7 0 42,wX 12 7 1 48 [7],wA 5 42,wA 6 48,wS 42 5 11 [5,11],wS 48 6 12 [12]],SQ [RG [wF 13 38 3 0,wD 14 3 13 [13],wC 15 39 #[.tmp 14,.const (.int .i64 8)] #[3,3] 3 [14]],.block 0 (SQ [RG [wK 17 .eql 3 15 0 3 4,wG 16 17 4 [17]],CN 16 (RG [wF 18 48 6 2,wD 19 3 18 [18],
 wF 20 38 3 1 [3],wD 21 3 20 [20],wO 22 .add 3 19 21 3 3 [19,21],wF 23 48 6 2,wS 3 23 22 [22,23]]) (SQ [RG [wK 25 .eql 3 15 1 3 4,wG 24 25 4 [25]],CN 24 (RG [wF 26 48 6 3,wD 27 3 26 [26],wF 28 38 3 1 [3],wD 29 3 28 [28],wO 30 .add 3 27 29 3 3 [27,29],wF 31 48 6 3,wS 3 31 30 [30,31]]) (SQ [RG [wK 33 .eql 3 15 2 3 4,wG 32 33 4 [33]],CN 32 (RG [wF 34 48 6 1,wD 35 3 34 [34],wF 36 38 3 1 [3],
 wD 37 3 36 [36],wO 38 .add 3 35 37 3 3 [35,37],wF 39 48 6 1,wS 3 39 38 [38,39]]) (SQ [RG [wK 41 .eql 3 15 3 3 4 [15],wG 40 41 4 [41]],CN 40 (SQ [RG [wF 42 48 6 0,wF 43 46 42 0 [42],wD 44 44 43 [43],wL 45 44 44 3 [44],wK 46 .gtr 3 45 0 3 4 [45]],CN 46 (RG [oQ 47 (.buildSlice 44 0 #[]) 44,wF 48 48 6 0,wF 49 46 48 0 [48],wD 50 44 49 [49],
 oQ 51 (.slice 44 (.tmp 50) (some (.const (.int .i64 1))) none none) 44 [50],wP 52 47 51 44 44 44 [47,51],wF 53 48 6 0,wF 54 46 53 0 [53],wS 44 54 52 [52,54]]) .skip]) .skip])])])])],RG [wD 55 48 6 [6],wS 48 4 55 [55]],.ret]
def EU (k:Nat) (x0:Cd) (c1:Cs):Option (Ay):=
 (BQ k x0.Dl).bind fun x1=>
 (B7 k c1.DE 8).bind fun x2=>
 bif decide (x2=(0:Int)) then
  some (⟨x1.2.Ai,x1.2.BB,ab (x1.2.AG+c1.By),x1.2.Used⟩:Ay)
 else
  bif decide (x2=(1:Int)) then
   some (⟨x1.2.Ai,x1.2.BB,x1.2.AG,ab (x1.2.Used+c1.By)⟩:Ay)
  else
   bif decide (x2=(2:Int)) then
    some (⟨x1.2.Ai,ab (x1.2.BB+c1.By),x1.2.AG,x1.2.Used⟩:Ay)
   else
    bif decide (x2=(3:Int)) then
     bif decide ((0:Int)<(x1.2.Ai.Al.length:Int)) then
      (bY x1.2.Ai.Al 1 x1.2.Ai.Al.length).bind fun l8=>
      (eW l8.length 72).bind fun _=>
      some (⟨(⟨l8⟩:Ai),x1.2.BB,x1.2.AG,x1.2.Used⟩:Ay)
     else
      some x1.2
    else
     some x1.2
theorem Iw (k:Nat) (x0:Cd) (c1:Cs) (r:Ay) (h0:EU k x0 c1=some r):Aw Try.prog 19 [.agg (Cd.c x0),.agg (Cs.c c1)] (fun y=>y=.agg (Ay.c r)):=by
 refine PB Try.f19 G5.c [.cell 4 48] ?_
 simp only[EU]at h0
 try simp only[G5.c,go_sem]
 refine au h0 (HG k _) ?_ (fun x1 h0=>?_)<;>try simp only[go_sem]
 refine au h0 (CQ k _ _) ?_ (fun x2 h0=>?_)<;>try simp only[go_sem]
 refine AS h0 ?_ ?_<;>intro c3 h0<;>have F:=c3<;>try simp only[F,go_sem]
 obtain rfl:=oi h0
 refine Ag rfl ?_
 try simp only[F,go_sem]
 refine AF F h0 ?_ ?_<;>intro F h0<;>try simp only[F,go_sem]
 obtain rfl:=oi h0
 refine Ag rfl ?_
 try simp only[F,go_sem]
 refine AF F h0 ?_ ?_<;>intro F h0<;>try simp only[F,go_sem]
 obtain rfl:=oi h0
 refine Ag rfl ?_
 try simp only[F,go_sem]
 refine AF F h0 ?_ ?_<;>intro F h0<;>try simp only[F,go_sem]
 refine AF F h0 ?_ ?_<;>intro F h0<;>try simp only[F,go_sem]
 obtain⟨l8,kE,h0⟩:=bs h0
 have nb:=wR Ab.c kE
 try simp only[go_sem]at nb
 have F:=an nb F
 try simp only[sf kE,F,go_sem]
 obtain⟨u9,yu9,h0⟩:=bs h0
 try simp only[lh yu9,F,go_sem]
 obtain rfl:=oi h0
 refine Ag rfl ?_
 try simp only[F,go_sem]
 obtain rfl:=oi h0
 refine Ag rfl ?_
 try simp only[F,go_sem]
 obtain rfl:=oi h0
 refine Ag rfl ?_
 try simp only[F,go_sem]
def Db.s1:SC:=
 SQ [SQ [RG [wV 45 7 3,wF 46 42 2 1,wD 47 40 46 [46],wL 48 47 40 3 [47],wO 49 .lss 3 45 48 3 4 [45,48],wV 50 49 4 [49],gd 50 true (wV 51 5 4),wZ 52 50 51 4 [50,51]],CN 52 .skip (.exit 2)],.block 3 (.aO [wF 55 42 2 1,wD 56 40 55,wV 57 7 3,wI 58 40 56 57,wD 59 141 58,wF 60 42 3 1,wD 61 40 60,wV 62 7 3,wI 63 40 61 62,wD 64 141 63,wO 65 .eql 141 59 64 141 4,wG 5 65 4] [[],[0],[],[0,1,2],[0,1,2,3],[],
 [5],[],[5,6,7],[5,6,7,8],[0,1,2,3,4,5,6,7,8,9],[0,1,2,3,4,5,6,7,8,9,10]] [55,56,57,58,59,60,61,62,63,64,65]),RG [wV 53 7 3 [7],wK 54 .add 3 53 1 3 3 [53],wG 7 54 3 [54]]]
def Db.s0:SC:=
 SQ [SQ [RG [wV 24 6 3,wF 25 42 2 0,wD 26 39 25 [25],wL 27 26 39 3 [26],wO 28 .lss 3 24 27 3 4 [24,27],wV 29 28 4 [28],gd 29 true (wV 30 5 4),wZ 31 29 30 4 [29,30]],CN 31 .skip (.exit 0)],.block 1 (.aO [wF 34 42 2 0,wD 35 39 34,wV 36 6 3,wI 37 39 35 36,wD 38 139 37,wF 39 42 3 0,wD 40 39 39,wV 41 6 3,wI 42 39 40 41,wD 43 139 42,wO 44 .eql 139 38 43 139 4,wG 5 44 4] [[],[0],[],[0,1,2],[0,1,2,3],[],
 [5],[],[5,6,7],[5,6,7,8],[0,1,2,3,4,5,6,7,8,9],[0,1,2,3,4,5,6,7,8,9,10]] [34,35,36,37,38,39,40,41,42,43,44]),RG [wV 32 6 3 [6],wK 33 .add 3 32 1 3 3 [32],wG 6 33 3 [33]]]
def Db.c:SC:=
 SQ [RG [wE 2 42 0 [0],wE 3 42 1 [1],wB 4 false 4 [4]],RG [wF 8 42 2 0,wD 9 39 8 [8],wL 10 9 39 3 [9],wF 11 42 3 0,wD 12 39 11 [11],wL 13 12 39 3 [12],wO 14 .eql 3 10 13 3 4 [10,13],wV 15 14 4 [14],gd 15 true (wF 16 42 2 1),gd 15 true (wD 17 40 16 [16]),gd 15 true (wL 18 17 40 3 [17]),gd 15 true (wF 19 42 3 1),gd 15 true (wD 20 40 19 [19]),gd 15 true (wL 21 20 40 3 [20]),
 gd 15 true (wO 22 .eql 3 18 21 3 4 [18,21]),wZ 23 15 22 4 [15,22],wG 5 23 4 [23]],SQ [RG [wN 6 0 3],.block 0 (.loop Db.s0)],SQ [RG [wN 7 0 3],.block 2 (.loop Db.s1)],RG [wV 66 5 4 [5],wG 4 66 4 [66]],.ret]
def AU.b0 (k:Nat) (a0:Ac) (b1:Ac):(Bool×Int)->Option (AT (Bool×Int) (Bool) (Bool)):=fun s=>match s with
 |(b2,i3)=>
   bif decide (i3<(a0.Ae.length:Int)) then
    bif b2 then
     (at? a0.Ae i3).bind fun x7=>
     (at? b1.Ae i3).bind fun x8=>
     some (.next ((Aa.eq (Aa.eq (fun(x y:Int)=>decide (x=y))) x7 x8),ab (i3+1)))
    else
     some (.brk b2)
   else
    some (.brk b2)
def AU.b1 (k:Nat) (a0:Ac) (b1:Ac):(Bool×Int)->Option (AT (Bool×Int) (Bool) (Bool)):=fun s=>match s with
 |(mn,i11)=>
   bif decide (i11<(a0.Ad.length:Int)) then
    bif mn then
     (at? a0.Ad i11).bind fun cM=>
     (at? b1.Ad i11).bind fun dx=>
     some (.next ((decide (cM.At=dx.At)&&(Aa.eq (Aa.eq (fun(x y:Int)=>decide (x=y))) cM.AE dx.AE)),ab (i11+1)))
    else
     some (.brk mn)
   else
    some (.brk mn)
def AU.afo (k:Nat) (a0:Ac):Unit->Option (AT (Unit) (Unit) (Bool)):=fun _=>
 bif decide ((0:Int)<(a0.Ae.length:Int)) then
  some (.brk ())
 else
  some (.brk ())
def AU.pd (k:Nat) (a0:Ac):Unit->Option (AT (Unit) (Unit) (Bool)):=fun _=>
 bif decide ((0:Int)<(a0.Ad.length:Int)) then
  some (.brk ())
 else
  some (.brk ())
def AU.h0 (a0:Ac) (b1:Ac):(Bool×Int)->St:=fun s=>match s with
 |(b2,i3)=>⟨[(2,.ptr 0 0 0),(3,.ptr 0 1 0),(5,.bool b2),(6,.int .i64 i3)],[(0,.box ([.sl 64 (List.map (Aa.c (n:=2) (Aa.c (n:=32) af)) a0.Ae),.sl 65 (List.map Aq.c a0.Ad)])),(1,.box ([.sl 64 (List.map (Aa.c (n:=2) (Aa.c (n:=32) af)) b1.Ae),.sl 65 (List.map Aq.c b1.Ad)]))],[],2,Try.f22.ntmps⟩
def AU.x0 (a0:Ac) (b1:Ac):Bool->St:=fun b4=>⟨[(2,.ptr 0 0 0),(3,.ptr 0 1 0),(5,.bool b4)],[(0,.box ([.sl 64 (List.map (Aa.c (n:=2) (Aa.c (n:=32) af)) a0.Ae),.sl 65 (List.map Aq.c a0.Ad)])),(1,.box ([.sl 64 (List.map (Aa.c (n:=2) (Aa.c (n:=32) af)) b1.Ae),.sl 65 (List.map Aq.c b1.Ad)]))],[],2,Try.f22.ntmps⟩
def AU.h1 (a0:Ac) (b1:Ac):(Bool×Int)->St:=fun s=>match s with
 |(mn,i11)=>⟨[(2,.ptr 0 0 0),(3,.ptr 0 1 0),(5,.bool mn),(7,.int .i64 i11)],[(0,.box ([.sl 64 (List.map (Aa.c (n:=2) (Aa.c (n:=32) af)) a0.Ae),.sl 65 (List.map Aq.c a0.Ad)])),(1,.box ([.sl 64 (List.map (Aa.c (n:=2) (Aa.c (n:=32) af)) b1.Ae),.sl 65 (List.map Aq.c b1.Ad)]))],[],2,Try.f22.ntmps⟩
def AU.x1:Bool->St:=fun b12=>⟨[(5,.bool b12)],[],[],1,Try.f22.ntmps⟩
def AU.ado (a0:Ac) (b1:Ac):Unit->St:=fun _=>⟨[(2,.ptr 0 0 0),(3,.ptr 0 1 0),(5,.bool false),(6,.int .i64 0)],[(0,.box ([.sl 64 (List.map (Aa.c (n:=2) (Aa.c (n:=32) af)) a0.Ae),.sl 65 (List.map Aq.c a0.Ad)])),(1,.box ([.sl 64 (List.map (Aa.c (n:=2) (Aa.c (n:=32) af)) b1.Ae),.sl 65 (List.map Aq.c b1.Ad)]))],[],2,Try.f22.ntmps⟩
def AU.ab9 (a0:Ac) (b1:Ac):Unit->St:=fun _=>⟨[(2,.ptr 0 0 0),(3,.ptr 0 1 0),(5,.bool false)],[(0,.box ([.sl 64 (List.map (Aa.c (n:=2) (Aa.c (n:=32) af)) a0.Ae),.sl 65 (List.map Aq.c a0.Ad)])),(1,.box ([.sl 64 (List.map (Aa.c (n:=2) (Aa.c (n:=32) af)) b1.Ae),.sl 65 (List.map Aq.c b1.Ad)]))],[],2,Try.f22.ntmps⟩
def AU.pI (a0:Ac) (b1:Ac):Unit->St:=fun _=>⟨[(2,.ptr 0 0 0),(3,.ptr 0 1 0),(5,.bool false),(7,.int .i64 0)],[(0,.box ([.sl 64 (List.map (Aa.c (n:=2) (Aa.c (n:=32) af)) a0.Ae),.sl 65 (List.map Aq.c a0.Ad)])),(1,.box ([.sl 64 (List.map (Aa.c (n:=2) (Aa.c (n:=32) af)) b1.Ae),.sl 65 (List.map Aq.c b1.Ad)]))],[],2,Try.f22.ntmps⟩
def AU.sD:Unit->St:=fun _=>⟨[(5,.bool false)],[],[],1,Try.f22.ntmps⟩
def AU (k:Nat) (a0:Ac) (b1:Ac):Option (Bool):=
 bif decide ((a0.Ae.length:Int)=(b1.Ae.length:Int)) then
  (aj (AU.b0 k a0 b1) k (decide ((a0.Ad.length:Int)=(b1.Ad.length:Int)),0)).bind fun r9=>match r9 with
  |.next _=>none
  |.ret v_=>some v_
  |.brk b4=>
   (aj (AU.b1 k a0 b1) k (b4,0)).bind fun zX=>match zX with
   |.next _=>none
   |.ret v_=>some v_
   |.brk b12=>
    some b12
 else
  (aj (AU.afo k a0) k ()).bind fun zZ=>match zZ with
  |.next _=>none
  |.ret v_=>some v_
  |.brk _=>
   (aj (AU.pd k a0) k ()).bind fun rX=>match rX with
   |.next _=>none
   |.ret v_=>some v_
   |.brk _=>
    some false
theorem IL (k:Nat) (a0:Ac) (b1:Ac) (r:Bool) (h0:AU k a0 b1=some r):Aw Try.prog 22 [.agg (Ac.c a0),.agg (Ac.c b1)] (fun y=>y=.bool r):=by
 refine PB Try.f22 Db.c [.tmp 4] ?_
 simp only[AU]at h0
 try simp only[Db.c,go_sem]
 refine AS h0 ?_ ?_<;>intro c1 h0<;>have F:=c1<;>try simp only[F,go_sem]
 obtain⟨r9,uC,h0⟩:=bs h0
 refine Bf uC (AU.h0 a0 b1) (AU.x0 a0 b1) ?_ ?_ ?_
 refine Ah.go [2,3,5,6] [0,16] rfl ?_
 try simp only[AU.h0,F,go_sem]
 rintro⟨b2,i3⟩ cO Bm Bn h1 aJ aH bK
 refine rS ?_
 simp only[AU.b0]at h1
 try simp only[Db.s0,AU.h0,F,go_sem]
 refine AF F h1 ?_ ?_<;>intro F h1<;>try simp only[F,go_sem]
 refine AF F h1 ?_ ?_<;>intro F h1<;>try simp only[F,go_sem]
 refine AL Ax aS 1000 ?_
 try simp only[F,go_sem]
 obtain⟨x7,e9,h1⟩:=bs h1
 have F:=an (aC e9) (an (aD (Aa.c (n:=2) (Aa.c (n:=32) af)) e9) F)
 try simp only[F,go_sem]
 obtain⟨x8,jW,h1⟩:=bs h1
 have F:=an (aC jW) (an (aD (Aa.c (n:=2) (Aa.c (n:=32) af)) jW) F)
 try simp only[F,go_sem]
 refine aF ?_
 try simp only[F,go_sem]
 refine AB (aJ _ _ (oi h1).symm (Ah.go [2,3,5,6] [0,1] rfl ?_))
 try simp only[AU.h0,F,go_sem]
 refine AB (aH _ _ (oi h1).symm (Ah.go [2,3,5] [0,1] rfl ?_))
 try simp only[AU.x0,F,go_sem]
 refine AB (aH _ _ (oi h1).symm (Ah.go [2,3,5] [0,1] rfl ?_))
 try simp only[AU.x0,F,go_sem]
 rintro b4 aK
 subst aK
 simp only at h0
 refine rS ?_
 try simp only[AU.x0,F,go_sem]
 obtain⟨zX,aeX,h0⟩:=bs h0
 refine Bf aeX (AU.h1 a0 b1) (AU.x1) ?_ ?_ ?_
 refine Ah.go [2,3,5,7] [0,1] rfl ?_
 try simp only[AU.h1,F,go_sem]
 rintro⟨mn,i11⟩ cO Bm Bn h1 aJ aH bK
 refine rS ?_
 simp only[AU.b1]at h1
 try simp only[Db.s1,AU.h1,F,go_sem]
 refine AF F h1 ?_ ?_<;>intro F h1<;>try simp only[F,go_sem]
 refine AF F h1 ?_ ?_<;>intro F h1<;>try simp only[F,go_sem]
 refine AL Ax aS 1000 ?_
 try simp only[F,go_sem]
 obtain⟨cM,oX,h1⟩:=bs h1
 have F:=an (aC oX) (an (aD Aq.c oX) F)
 try simp only[F,go_sem]
 obtain⟨dx,oY,h1⟩:=bs h1
 have F:=an (aC oY) (an (aD Aq.c oY) F)
 try simp only[F,go_sem]
 refine aF ?_
 try simp only[F,go_sem]
 refine AB (aJ _ _ (oi h1).symm (Ah.go [2,3,5,7] [0,1] rfl ?_))
 try simp only[AU.h1,F,go_sem]
 refine AB (aH _ _ (oi h1).symm (Ah.go [5] [] rfl ?_))
 try simp only[AU.x1,F,go_sem]
 refine AB (aH _ _ (oi h1).symm (Ah.go [5] [] rfl ?_))
 try simp only[AU.x1,F,go_sem]
 rintro b12 aK
 subst aK
 simp only at h0
 refine rS ?_
 try simp only[AU.x1,F,go_sem]
 obtain rfl:=oi h0
 refine Ag rfl ?_
 try simp only[F,go_sem]
 obtain⟨zZ,aeZ,h0⟩:=bs h0
 refine Bf aeZ (AU.ado a0 b1) (AU.ab9 a0 b1) ?_ ?_ ?_
 refine Ah.go [2,3,5,6] [0,16] rfl ?_
 try simp only[AU.ado,F,go_sem]
 rintro _ cO Bm Bn h1 aJ aH bK
 refine rS ?_
 simp only[AU.afo]at h1
 try simp only[Db.s0,AU.ado,F,go_sem]
 refine AF F h1 ?_ ?_<;>intro F h1<;>try simp only[F,go_sem]
 refine AB (aH _ _ (oi h1).symm (Ah.go [2,3,5] [0,1] rfl ?_))
 try simp only[AU.ab9,F,go_sem]
 refine AB (aH _ _ (oi h1).symm (Ah.go [2,3,5] [0,1] rfl ?_))
 try simp only[AU.ab9,F,go_sem]
 rintro _ aK
 subst aK
 simp only at h0
 refine rS ?_
 try simp only[AU.ab9,F,go_sem]
 obtain⟨rX,aay,h0⟩:=bs h0
 refine Bf aay (AU.pI a0 b1) (AU.sD) ?_ ?_ ?_
 refine Ah.go [2,3,5,7] [0,1] rfl ?_
 try simp only[AU.pI,F,go_sem]
 rintro _ cO Bm Bn h1 aJ aH bK
 refine rS ?_
 simp only[AU.pd]at h1
 try simp only[Db.s1,AU.pI,F,go_sem]
 refine AF F h1 ?_ ?_<;>intro F h1<;>try simp only[F,go_sem]
 refine AB (aH _ _ (oi h1).symm (Ah.go [5] [] rfl ?_))
 try simp only[AU.sD,F,go_sem]
 refine AB (aH _ _ (oi h1).symm (Ah.go [5] [] rfl ?_))
 try simp only[AU.sD,F,go_sem]
 rintro _ aK
 subst aK
 simp only at h0
 refine rS ?_
 try simp only[AU.sD,F,go_sem]
 obtain rfl:=oi h0
 refine Ag rfl ?_
 try simp only[F,go_sem]
def Hk.c:SC:=
 SQ [RG [wE 2 46 0 [0],wE 3 46 1 [1],wB 4 false 4 [4]],RG [wF 5 46 2 0 [2],wD 6 44 5 [5],wF 7 46 3 0 [3],wD 8 44 7 [7],wW 9 59 6 8 44 44 4 [6,8],wG 4 9 4 [9]],.ret]
def E4 (k:Nat) (a0:Ai) (b1:Ai):Option (Bool):=
 (B8 k a0.Al b1.Al).bind fun x1=>
 some x1
theorem IK (k:Nat) (a0:Ai) (b1:Ai) (r:Bool) (h0:E4 k a0 b1=some r):Aw Try.prog 42 [.agg (Ai.c a0),.agg (Ai.c b1)] (fun y=>y=.bool r):=by
 refine PB Try.f42 Hk.c [.tmp 4] ?_
 simp only[E4]at h0
 try simp only[Hk.c,go_sem]
 refine au h0 (HH k _ _) ?_ (fun x1 h0=>?_)<;>try simp only[go_sem]
 obtain rfl:=oi h0
 refine Ag rfl ?_
 try simp only[go_sem]
def G8.c:SC:=
 SQ [RG [wE 2 48 0 [0],wE 3 48 1 [1],wB 4 false 4 [4]],RG [wF 6 48 2 0,wD 7 46 6 [6],wF 8 48 3 0,wD 9 46 8 [8],wW 10 42 7 9 46 46 4 [7,9],wG 5 10 4 [10]],RG [wV 11 5 4 [5],wV 12 11 4 [11],gd 12 true (wF 13 48 2 1),gd 12 true (wD 14 3 13 [13]),gd 12 true (wF 15 48 3 1),gd 12 true (wD 16 3 15 [15]),gd 12 true (wO 17 .eql 3 14 16 3 4 [14,16]),wZ 18 12 17 4 [12,17],wV 19 18 4 [18],
 gd 19 true (wF 20 48 2 2),gd 19 true (wD 21 3 20 [20]),gd 19 true (wF 22 48 3 2),gd 19 true (wD 23 3 22 [22]),gd 19 true (wO 24 .eql 3 21 23 3 4 [21,23]),wZ 25 19 24 4 [19,24],wV 26 25 4 [25],gd 26 true (wF 27 48 2 3 [2]),gd 26 true (wD 28 3 27 [27]),gd 26 true (wF 29 48 3 3 [3]),gd 26 true (wD 30 3 29 [29]),gd 26 true (wO 31 .eql 3 28 30 3 4 [28,30]),wZ 32 26 31 4 [26,31],wG 4 32 4 [32]],.ret]
def DX (k:Nat) (a0:Ay) (b1:Ay):Option (Bool):=
 (E4 k a0.Ai b1.Ai).bind fun x1=>
 bif x1 then
  bif decide (a0.BB=b1.BB) then
   bif decide (a0.AG=b1.AG) then
    some (decide (a0.Used=b1.Used))
   else
    some false
  else
   some false
 else
  some false
theorem IM (k:Nat) (a0:Ay) (b1:Ay) (r:Bool) (h0:DX k a0 b1=some r):Aw Try.prog 23 [.agg (Ay.c a0),.agg (Ay.c b1)] (fun y=>y=.bool r):=by
 refine PB Try.f23 G8.c [.tmp 4] ?_
 simp only[DX]at h0
 try simp only[G8.c,go_sem]
 refine au h0 (IK k _ _) ?_ (fun x1 h0=>?_)<;>try simp only[go_sem]
 refine AS h0 ?_ ?_<;>intro c2 h0<;>have F:=c2<;>try simp only[F,go_sem]
 refine AF F h0 ?_ ?_<;>intro F h0<;>try simp only[F,go_sem]
 refine AF F h0 ?_ ?_<;>intro F h0<;>try simp only[F,go_sem]
 obtain rfl:=oi h0
 refine Ag rfl ?_
 try simp only[F,go_sem]
 obtain rfl:=oi h0
 refine Ag rfl ?_
 try simp only[F,go_sem]
 obtain rfl:=oi h0
 refine Ag rfl ?_
 try simp only[F,go_sem]
 obtain rfl:=oi h0
 refine Ag rfl ?_
 try simp only[F,go_sem]
def F4.c:SC:=
 SQ [RG [wE 2 36 0 [0],wE 3 38 1 [1],wB 4 false 4 [4]],RG [wC 16 14 #[] #[] 4,wG 5 16 4 [16]],RG [wD 17 36 2,wU 18 18 17 36 42 [17],wA 6 42,wS 42 6 18 [18]],RG [wD 19 36 2 [2],wD 20 38 3,wW 21 19 19 20 36 38 48 [19,20],wA 7 48,wS 48 7 21 [21]],RG [wD 23 42 6,wD 24 48 7,wF 25 38 3 2,wD 26 25 25 [25],wC 27 20 #[.tmp 23,.tmp 24,.tmp 26] #[42,48,25] 50 [23,24,26],wV 22 27 50 [27],wX 28 22 0 42,
 wX 29 22 1 48,wX 30 22 2 28 [22],wA 8 42,wA 9 48,wS 42 8 28 [28],wS 48 9 29 [29],wG 10 30 28 [30]],RG [wD 32 42 6,wD 33 48 7,wF 34 38 3 2 [3],wD 35 25 34 [34],wC 36 21 #[.tmp 32,.tmp 33,.tmp 35] #[42,48,25] 50 [32,33,35],wV 31 36 50 [36],wX 37 31 0 42,wX 38 31 1 48,wX 39 31 2 28 [31],wA 11 42,wA 12 48,wS 42 11 37 [37],wS 48 12 38 [38],wG 13 39 28 [39]],RG [wD 40 42 8 [8],wD 41 42 11 [11],
 wW 42 22 40 41 42 42 4 [40,41],wG 14 42 4 [42]],RG [wD 43 48 9 [9],wD 44 48 12 [12],wW 45 23 43 44 48 48 4 [43,44],wG 15 45 4 [45]],.aO [wV 46 5 4,wV 47 46 4,gd 47 true (wD 48 42 6),gd 47 true (wD 49 48 7),gd 47 true (wW 50 24 48 49 42 48 28),gd 47 true (wD 51 42 6),gd 47 true (wD 52 48 7),gd 47 true (wW 53 25 51 52 42 48 28),gd 47 true (wO 54 .eql 28 50 53 28 4),wZ 55 47 54 4,wV 56 55 4,
 gd 56 true (wV 57 14 4),wZ 58 56 57 4,wV 59 58 4,gd 59 true (wV 60 15 4),wZ 61 59 60 4,wV 62 61 4,gd 62 true (wV 63 10 28),gd 62 true (wV 64 13 28),gd 62 true (wO 65 .eql 28 63 64 28 4),wZ 66 62 65 4,wG 4 66 4] [[],[0],[0,1],[0,1],[0,1,2,3],[0,1],[0,1],[0,1,5,6,2,3,4],[0,1,2,3,4,5,6,7],[0,1,2,3,4,5,6,7,8],[0,1,2,3,4,5,6,7,8,9],[0,1,2,3,4,5,6,7,8,9,10],[0,1,2,3,4,5,6,7,8,9,10,11],[0,1,2,3,4,5,6,7,
 8,9,10,11,12],[0,1,2,3,4,5,6,7,8,9,10,11,12,13],[0,1,2,3,4,5,6,7,8,9,10,11,12,13,14],[0,1,2,3,4,5,6,7,8,9,10,11,12,13,14,15],[0,1,2,3,4,5,6,7,8,9,10,11,12,13,14,15,16],[0,1,2,3,4,5,6,7,8,9,10,11,12,13,14,15,16],[0,1,2,3,4,5,6,7,8,9,10,11,12,13,14,15,16,17,18],[0,1,2,3,4,5,6,7,8,9,10,11,12,13,14,15,16,17,18,19],[0,1,2,3,4,5,6,7,8,9,10,11,12,13,14,15,16,17,18,19,20]] [5,6,7,10,13,14,15,46,47,48,49,
 50,51,52,53,54,55,56,57,58,59,60,61,62,63,64,65,66],.ret]
def ES (k:Nat) (x0:Cd) (c1:Cs):Option (Bool):=
 (Fq k).bind fun x1=>
 (ET k x0).bind fun x2=>
 (EU k x0 c1).bind fun x3=>
 (jY k x2 x3 c1.Ab).bind fun x4=>
 (CW k x2 x3 c1.Ab).bind fun x5=>
 (AU k x4.1 x5.1).bind fun x6=>
 (DX k x4.2.1 x5.2.1).bind fun x7=>
 bif x1 then
  (kJ k x2 x3).bind fun x9=>
  (CX k x2 x3).bind fun cE=>
  bif decide (x9=cE) then
   bif x6 then
    bif x7 then
     some (decide (x4.2.2=x5.2.2))
    else
     some false
   else
    some false
  else
   some false
 else
  some false
theorem Iu (k:Nat) (x0:Cd) (c1:Cs) (r:Bool) (h0:ES k x0 c1=some r):Aw Try.prog 4 [.agg (Cd.c x0),.agg (Cs.c c1)] (fun y=>y=.bool r):=by
 refine PB Try.f4 F4.c [.tmp 4] ?_
 simp only[ES]at h0
 try simp only[F4.c,go_sem]
 refine au h0 (Ix k) ?_ (fun x1 h0=>?_)<;>try simp only[go_sem]
 refine au h0 (Iv k _) ?_ (fun x2 h0=>?_)<;>try simp only[go_sem]
 refine au h0 (Iw k _ _) ?_ (fun x3 h0=>?_)<;>try simp only[go_sem]
 refine au h0 (acq k _ _ _) ?_ (fun x4 h0=>?_)<;>try simp only[go_sem]
 refine au h0 (HD k _ _ _) ?_ (fun x5 h0=>?_)<;>try simp only[go_sem]
 refine au h0 (IL k _ _) ?_ (fun x6 h0=>?_)<;>try simp only[go_sem]
 refine au h0 (IM k _ _) ?_ (fun x7 h0=>?_)<;>try simp only[go_sem]
 refine AL Ax aS 1000 ?_
 try simp only[go_sem]
 refine Fi h0 ?_ ?_<;>intro c8 h0<;>have F:=c8<;>try simp only[F,go_sem]
 refine cn h0 (afs k _ _) ?_ (fun x9 h0=>?_)<;>try simp only[F,go_sem]
 refine cn h0 (FI k _ _) ?_ (fun cE h0=>?_)<;>try simp only[F,go_sem]
 refine DF F h0 ?_ ?_<;>intro F h0<;>try simp only[F,go_sem]
 refine DF F h0 ?_ ?_<;>intro F h0<;>try simp only[F,go_sem]
 refine DF F h0 ?_ ?_<;>intro F h0<;>try simp only[F,go_sem]
 refine aF ?_
 try simp only[F,go_sem]
 obtain rfl:=oi h0
 refine Ag rfl ?_
 try simp only[F,go_sem]
 refine aF ?_
 try simp only[F,go_sem]
 obtain rfl:=oi h0
 refine Ag rfl ?_
 try simp only[F,go_sem]
 refine aF ?_
 try simp only[F,go_sem]
 obtain rfl:=oi h0
 refine Ag rfl ?_
 try simp only[F,go_sem]
 refine aF ?_
 try simp only[F,go_sem]
 obtain rfl:=oi h0
 refine Ag rfl ?_
 try simp only[F,go_sem]
 refine aF ?_
 try simp only[F,go_sem]
 obtain rfl:=oi h0
 refine Ag rfl ?_
 try simp only[F,go_sem]
end Go.Abs
namespace Go.Abs
open Go Go.Proofs Go.RowKit
def qB:Nat:=reachBytes
theorem aik:qB<=140737488351232:=by decide
theorem iz:Reads qB Try.prog 3 eI gZ:=Reads.int Try.underlying3
theorem apY:Reads qB Try.prog 79 (Aa.c (n:=5) eI) (fun x:(Aa 5 Int)=>∀ a∈x.l,gZ a):=(Reads.array Try.underlying79 (by kernel_rfl) (Bj.cons (off:=0) (sz:=1) (off':=1) (tot:=5) rfl (by kernel_rfl) rfl iz (Bj.cons (off:=1) (sz:=1) (off':=2) (tot:=5) rfl (by kernel_rfl) rfl iz (Bj.cons (off:=2) (sz:=1) (off':=3) (tot:=5) rfl (by kernel_rfl) rfl iz (Bj.cons (off:=3) (sz:=1) (off':=4) (tot:=5) rfl (by kernel_rfl) rfl iz (Bj.cons (off:=4) (sz:=1) (off':=5) (tot:=5) rfl (by kernel_rfl) rfl iz (Bj.nil (off:=5) (tot:=5) (by decide)))))))).as (fun p=>⟨[p.1,p.2.1,p.2.2.1,p.2.2.2.1,p.2.2.2.2.1],rfl⟩) (fun _=>rfl) (fun _ h=>by intro a ha;simp only[BE,List.not_mem_nil,or_false]at ha;rcases ha with rfl|rfl|rfl|rfl|rfl;exact h.1;exact h.2.1;exact h.2.2.1;exact h.2.2.2.1;exact h.2.2.2.2.1)
theorem apX:Reads qB Try.prog 63 (eL 1 eI) (fun l=>l.length<=Go.maxLen/\l.length*8<=qB/\∀ a∈l,gZ a):=Reads.slice Try.underlying63 (by kernel_rfl) (by kernel_rfl) (by decide) iz
def Bz.q (x:Bz):Prop:=gZ x.Kind/\(fun x:(Aa 5 Int)=>∀ a∈x.l,gZ a) x.Ab/\(fun l=>l.length<=Go.maxLen/\l.length*8<=qB/\∀ a∈l,gZ a) x.Df
theorem apZ:Reads qB Try.prog 81 Bz.c Bz.q:=(Reads.struct Try.underlying81 (by kernel_rfl) (Bj.cons (off:=0) (sz:=1) (off':=1) (tot:=7) rfl (by kernel_rfl) rfl iz (Bj.cons (off:=1) (sz:=5) (off':=6) (tot:=7) rfl (by kernel_rfl) rfl apY (Bj.cons (off:=6) (sz:=1) (off':=7) (tot:=7) rfl (by kernel_rfl) rfl apX (Bj.nil (off:=7) (tot:=7) (by decide)))))).as (fun p=>⟨p.1,p.2.1,p.2.2.1⟩) (fun _=>rfl) (fun _ h=>⟨h.1,h.2.1,h.2.2.1⟩)
theorem apS:Reads qB Try.prog 33 (eL 7 Bz.c) (fun l=>l.length<=Go.maxLen/\l.length*72<=qB/\∀ a∈l,Bz.q a):=Reads.slice Try.underlying33 (by kernel_rfl) (by kernel_rfl) (by decide) apZ
def Bb.q (x:Bb):Prop:=gZ x.AE/\gZ x.DD/\gZ x.At/\gZ x.CH
theorem apQ:Reads qB Try.prog 190 Bb.c Bb.q:=(Reads.struct Try.underlying190 (by kernel_rfl) (Bj.cons (off:=0) (sz:=1) (off':=1) (tot:=4) rfl (by kernel_rfl) rfl iz (Bj.cons (off:=1) (sz:=1) (off':=2) (tot:=4) rfl (by kernel_rfl) rfl iz (Bj.cons (off:=2) (sz:=1) (off':=3) (tot:=4) rfl (by kernel_rfl) rfl iz (Bj.cons (off:=3) (sz:=1) (off':=4) (tot:=4) rfl (by kernel_rfl) rfl iz (Bj.nil (off:=4) (tot:=4) (by decide))))))).as (fun p=>⟨p.1,p.2.1,p.2.2.1,p.2.2.2.1⟩) (fun _=>rfl) (fun _ h=>⟨h.1,h.2.1,h.2.2.1,h.2.2.2.1⟩)
theorem apT:Reads qB Try.prog 34 (eL 4 Bb.c) (fun l=>l.length<=Go.maxLen/\l.length*32<=qB/\∀ a∈l,Bb.q a):=Reads.slice Try.underlying34 (by kernel_rfl) (by kernel_rfl) (by decide) apQ
theorem apW:Reads qB Try.prog 4 eB (fun _=>True):=Reads.bool Try.underlying4
def Cd.q (x:Cd):Prop:=(fun l=>l.length<=Go.maxLen/\l.length*72<=qB/\∀ a∈l,Bz.q a) x.Dl/\(fun l=>l.length<=Go.maxLen/\l.length*32<=qB/\∀ a∈l,Bb.q a) x.Ei/\gZ x.Cut/\(fun _=>True) x.Fw
theorem apU:Reads qB Try.prog 36 Cd.c Cd.q:=(Reads.struct Try.underlying36 (by kernel_rfl) (Bj.cons (off:=0) (sz:=1) (off':=1) (tot:=4) rfl (by kernel_rfl) rfl apS (Bj.cons (off:=1) (sz:=1) (off':=2) (tot:=4) rfl (by kernel_rfl) rfl apT (Bj.cons (off:=2) (sz:=1) (off':=3) (tot:=4) rfl (by kernel_rfl) rfl iz (Bj.cons (off:=3) (sz:=1) (off':=4) (tot:=4) rfl (by kernel_rfl) rfl apW (Bj.nil (off:=4) (tot:=4) (by decide))))))).as (fun p=>⟨p.1,p.2.1,p.2.2.1,p.2.2.2.1⟩) (fun _=>rfl) (fun _ h=>⟨h.1,h.2.1,h.2.2.1,h.2.2.2.1⟩)
def Entry.q (x:Entry):Prop:=gZ x.Ap/\gZ x.No
theorem ais:Reads qB Try.prog 23 Entry.c Entry.q:=(Reads.struct Try.underlying23 (by kernel_rfl) (Bj.cons (off:=0) (sz:=1) (off':=1) (tot:=2) rfl (by kernel_rfl) rfl iz (Bj.cons (off:=1) (sz:=1) (off':=2) (tot:=2) rfl (by kernel_rfl) rfl iz (Bj.nil (off:=2) (tot:=2) (by decide))))).as (fun p=>⟨p.1,p.2.1⟩) (fun _=>rfl) (fun _ h=>⟨h.1,h.2.1⟩)
theorem ap0:Reads qB Try.prog 9 eS (fun s=>s.size<=Go.maxLen):=Reads.string Try.underlying9
def Ab.q (x:Ab):Prop:=Entry.q x.At/\gZ x.Kind/\gZ x.Day/\gZ x.Bh/\Entry.q x.Of/\(fun s=>s.size<=Go.maxLen) x.Text
theorem apR:Reads qB Try.prog 25 Ab.c Ab.q:=(Reads.struct Try.underlying25 (by kernel_rfl) (Bj.cons (off:=0) (sz:=2) (off':=2) (tot:=8) rfl (by kernel_rfl) rfl ais (Bj.cons (off:=2) (sz:=1) (off':=3) (tot:=8) rfl (by kernel_rfl) rfl iz (Bj.cons (off:=3) (sz:=1) (off':=4) (tot:=8) rfl (by kernel_rfl) rfl iz (Bj.cons (off:=4) (sz:=1) (off':=5) (tot:=8) rfl (by kernel_rfl) rfl iz (Bj.cons (off:=5) (sz:=2) (off':=7) (tot:=8) rfl (by kernel_rfl) rfl ais (Bj.cons (off:=7) (sz:=1) (off':=8) (tot:=8) rfl (by kernel_rfl) rfl ap0 (Bj.nil (off:=8) (tot:=8) (by decide))))))))).as (fun p=>⟨p.1,p.2.1,p.2.2.1,p.2.2.2.1,p.2.2.2.2.1,p.2.2.2.2.2.1⟩) (fun _=>rfl) (fun _ h=>⟨h.1,h.2.1,h.2.2.1,h.2.2.2.1,h.2.2.2.2.1,h.2.2.2.2.2.1⟩)
def Cs.q (x:Cs):Prop:=gZ x.DE/\gZ x.By/\Ab.q x.Ab
theorem apV:Reads qB Try.prog 38 Cs.c Cs.q:=(Reads.struct Try.underlying38 (by kernel_rfl) (Bj.cons (off:=0) (sz:=1) (off':=1) (tot:=10) rfl (by kernel_rfl) rfl iz (Bj.cons (off:=1) (sz:=1) (off':=2) (tot:=10) rfl (by kernel_rfl) rfl iz (Bj.cons (off:=2) (sz:=8) (off':=10) (tot:=10) rfl (by kernel_rfl) rfl apR (Bj.nil (off:=10) (tot:=10) (by decide)))))).as (fun p=>⟨p.1,p.2.1,p.2.2.1⟩) (fun _=>rfl) (fun _ h=>⟨h.1,h.2.1,h.2.2.1⟩)
end Go.Abs
namespace Go.Abs
open Go
theorem apK {i d:Nat}:(List.range' i (d+1))=i::List.range' (i+1) d:=by
 rw[List.range'_succ]
theorem ajr {R:Type}{body:Int->Option (AT Int Unit R)}{n:Nat}{f:Nat->Option R} (hn:n<=9223372036854775807) {k:Nat} (hk:n<k)
  (h1:∀ i,i<n->body (i:Int)=some (match f i with|some r=>.ret r|none=>.next (ab ((i:Int)+1)))) (h2:body (n:Int)=some (.brk ())):
  aj body k 0=some (match (List.range n).findSome? f with|some r=>.ret r|none=>.brk ()):=by
 have h:=aq3 (body:=body) (n:=n) (g:=f) hn h1 h2 k n 0 (by omega) hk
 rw[CV]at h
 rw[h]
 have key:∀ d i,scan f i d=(List.range' i d).findSome? f:=by
  intro d
  induction d with
  |zero=>intro i;rfl
  |succ d ih=>
   intro i
   rw[apK,List.findSome?_cons,scan,ih]
   cases f i<;>rfl
 rw[key,List.range_eq_range']
 cases (List.range' 0 n).findSome? f<;>rfl
theorem aeP {R:Type}{body:Int->Option (AT Int Unit R)}{n:Nat}{p:Nat->Bool}{c:R} (hn:n<=9223372036854775807) {k:Nat} (hk:n<k)
  (h1:∀ i,i<n->body (i:Int)=some (bif p i then .next (ab ((i:Int)+1)) else .ret c)) (h2:body (n:Int)=some (.brk ())):
  aj body k 0=some (bif (List.range n).all p then .brk () else .ret c):=by
 have h:=ajr (body:=body) (n:=n) (f:=fun i=>bif p i then none else some c) hn hk (fun i hi=>by rw[h1 i hi];cases p i<;>rfl) h2
 rw[h]
 have:∀ l:List Nat,l.findSome? (fun i=>bif p i then none else some c)=bif l.all p then none else some c:=by
  intro l
  induction l with
  |nil=>rfl
  |cons x l ih=>
   rw[List.findSome?_cons,List.all_cons]
   cases hp:p x with
   |true=>simpa using ih
   |false=>simp
 rw[this]
 cases (List.range n).all p<;>rfl
theorem ab6 {α R:Type}{l:List α}{body:Int->Option (AT Int Unit R)}{p:α->Bool}{c:R} (hn:l.length<=9223372036854775807) {k:Nat} (hk:l.length<k)
  (h1:∀ (i:Nat) x,l[i]?=some x->body (i:Int)=some (bif p x then .next (ab ((i:Int)+1)) else .ret c)) (h2:body (l.length:Int)=some (.brk ())):
  aj body k 0=some (bif l.all p then .brk () else .ret c):=by
 have h:=aq1 (body:=body) (l:=l) (f:=fun i=>bif p i then none else some c) hn hk (fun i x hi=>by rw[h1 i x hi];cases p x<;>rfl) h2
 rw[h]
 have:l.findSome? (fun i=>bif p i then none else some c)=bif l.all p then none else some c:=by
  clear h h1 h2 hn hk
  induction l with
  |nil=>rfl
  |cons x l ih=>
   rw[List.findSome?_cons,List.all_cons]
   cases hp:p x with
   |true=>simpa using ih
   |false=>simp
 rw[this]
 cases l.all p<;>rfl
theorem ab7 {S R τ:Type}{n:Nat}{body:τ->Option (AT τ S R)} (mk:Int->S->τ) (f:S->Nat->S) (Inv:Nat->S->Prop) (hn:n<=9223372036854775807) {k:Nat} (hk:n<k) {s0:S} (h0:Inv 0 s0)
  (h1:∀ i s,i<n->Inv i s->body (mk (i:Int) s)=some (.next (mk (ab ((i:Int)+1)) (f s i)))/\Inv (i+1) (f s i)) (h2:∀ s,Inv n s->body (mk (n:Int) s)=some (.brk s)):
  aj body k (mk 0 s0)=some (.brk ((List.range n).foldl f s0))/\Inv n ((List.range n).foldl f s0):=by
 have h:=qJ (l:=List.range n) (body:=body) mk f Inv (by simpa using hn) (k:=k) (by simpa using hk) h0 (fun i x s hx hI=>by
  have hi:i<n:=by have:=(gS.1 hx).1;simpa using this
  have e:x=i:=by have:=hx;rw[List.getElem?_range hi]at this;exact(oi this).symm
  subst e
  exact h1 x s hi hI) (fun s hI=>by have:=h2 s (by simpa using hI);simpa using this)
 exact⟨h.1,by simpa using h.2⟩
theorem adb {α:Type} (g:Nat->α):∀ (l:List Nat) (s:List α),l.foldl (fun s i=>s++[g i]) s=s++l.map g
 |[],s=>by simp
 |x::l,s=>by simp[adb g l]
theorem aq2 {S E R τ:Type}{n:Nat}{body:τ->Option (AT τ E R)} (mk:Int->S->τ) (g:S->E) (f:S->Nat->Option S) (c:R) (Inv:Nat->S->Prop) (hn:n<=9223372036854775807) {k:Nat} (hk:n<k) {s0:S} (h0:Inv 0 s0)
  (h1:∀ i s,i<n->Inv i s->body (mk (i:Int) s)=some (match f s i with|some s'=>.next (mk (ab ((i:Int)+1)) s')|none=>.ret c)/\∀ s',f s i=some s'->Inv (i+1) s') (h2:∀ s,Inv n s->body (mk (n:Int) s)=some (.brk (g s))):
  aj body k (mk 0 s0)=some (match (List.range n).foldlM f s0 with|some s=>.brk (g s)|none=>.ret c)/\∀ s,(List.range n).foldlM f s0=some s->Inv n s:=by
 have key:∀ (d i k:Nat) (s:S),i+d=n->d<k->Inv i s->aj body k (mk (i:Int) s)=some (match (List.range' i d).foldlM f s with|some s=>.brk (g s)|none=>.ret c)/\∀ s',(List.range' i d).foldlM f s=some s'->Inv n s':=by
  intro d
  induction d with
  |zero=>
   intro i k s hi hk hI
   cases k with
   |zero=>omega
   |succ k=>
    have:i=n:=by omega
    subst this
    refine⟨?_,fun s' hs=>?_⟩
    ·rw[aj,h2 s hI];rfl
    ·have:s=s':=oi hs
     exact this▸hI
  |succ d ih=>
   intro i k s hi hk hI
   cases k with
   |zero=>omega
   |succ k=>
    obtain⟨g1,g2⟩:=h1 i s (by omega) hI
    rw[List.range'_succ,List.foldlM_cons,aj,g1]
    cases hf:f s i with
    |none=>exact⟨rfl,fun s' hs=>by cases hs⟩
    |some s1=>
     have:ab ((i:Int)+1)=((i+1:Nat):Int):=by rw[aV (by omega) (by omega)];omega
     simp only[this]
     exact ih (i+1) k s1 (by omega) (by omega) (g2 s1 hf)
 have:=key n 0 k s0 (by omega) hk h0
 rw[List.range_eq_range']
 exact this
end Go.Abs
namespace Go.Abs
open Go Go.Proofs
def be (n:Int):Nat->List Int
 |0=>[]
 |w+1=>IntKind.u8.wrap (Int.fdiv n (2 ^ (8*w)))::be n w
theorem dO (n:Int):∀ w,(be n w).length=w
 |0=>rfl
 |w+1=>by simp[be,dO n w]
theorem acF {body:Int×List Int->Option (AT (Int×List Int) (List Int) (List Int))}{n:Int}
  (hb:∀ i l,body (i,l)=bif decide ((0:Int)<=i) then (lq (ab (8*i))).bind fun _=>(fG 1 l (IntKind.u8.wrap (Int.fdiv n (2 ^ (min (Int.toNat (ab (8*i))) 64))))).bind fun l'=>some (.next (ab (i - 1),l')) else some (.brk l)):
  ∀ (w m:Nat) (l:List Int),w<=8->l.length+w<=1000000->w<m->aj body m (ab ((w:Int) - 1),l)=some (.brk (l++be n w)):=by
 intro w
 induction w with
 |zero=>
  intro m l _ _ hm
  obtain⟨m,rfl⟩:∃ m',m=m'+1:=⟨m - 1,by omega⟩
  have e:ab (((0:Nat):Int) - 1)=-1:=by rw[aV]<;>simp
  simp only[aj,hb,e,be,List.append_nil,(by decide:decide ((0:Int)<=-1)=false),Aj]
 |succ w ih=>
  intro m l hw hl hm
  obtain⟨m,rfl⟩:∃ m',m=m'+1:=⟨m - 1,by omega⟩
  have e:ab (((w+1:Nat):Int) - 1)=w:=by rw[aV]<;>omega
  have e8:ab (8*(w:Int))=8*(w:Int):=by rw[aV]<;>omega
  have et:min (Int.toNat (8*(w:Int))) 64=8*w:=by omega
  have hsh:lq (8*(w:Int))=some ():=by unfold lq;rw[if_neg (by omega)]
  have hp:fG 1 l (IntKind.u8.wrap (Int.fdiv n (2 ^ (8*w))))=some (l++[IntKind.u8.wrap (Int.fdiv n (2 ^ (8*w)))]):=qx (by omega) (by omega)
  have hd:decide ((0:Int)<=(w:Int))=true:=by simp
  simp only[aj,hb,e,e8,et,hsh,hd,Am,Af,hp]
  rw[ih m _ (by omega) (by simp;omega) (by omega)]
  simp[be]
theorem abA {k:Nat} (n:Int) {w:Nat} (hw:w<=8) (hk:w<k):Cc k n w=some (be n w):=by
 unfold Cc
 rw[acF (n:=n) (fun i l=>rfl) w k [] hw (by simp;omega) hk]
 rfl
theorem aee {k:Nat} (n:Int) {w:Nat} (hw:w<=8) (hk:w<k):BT k n w=some (be n w):=by
 unfold BT
 rw[acF (n:=n) (fun i l=>rfl) w k [] hw (by simp;omega) hk]
 rfl
theorem lz {α:Type}{b:Nat}{l x:List α} (h:(l.length+x.length)*b<=140737488355328) (h2:l.length+x.length<4611686018427387904):dM b l x=some (l++x):=by
 unfold dM;rw[if_pos ⟨h,h2⟩]
def enc (r:Ab):List Int:=be r.At.Ap 1++be r.At.No 2++be r.Kind 1++be r.Day 4++be r.Bh 4++be r.Of.Ap 1++be r.Of.No 2++be (r.Text.size:Int) 1++ib r.Text
theorem xH (r:Ab):(enc r).length=16+r.Text.size:=by
 simp only[enc,A8,dO,ku]<;>omega
theorem alB {k:Nat} (hk:20<k) {r:Ab} (ht:r.Text.size<=1000):E6 k r=some (enc r):=by
 have h1:∀ n:Int,BT k n 1=some (be n 1):=fun n=>aee n (w:=1) (by decide) (by omega)
 have h2:∀ n:Int,BT k n 2=some (be n 2):=fun n=>aee n (w:=2) (by decide) (by omega)
 have h4:∀ n:Int,BT k n 4=some (be n 4):=fun n=>aee n (w:=4) (by decide) (by omega)
 have hs:aad r.Text=some ():=by unfold aad;rw[if_pos (by omega)]
 unfold E6 enc
 simp only[h1,h2,h4,hs,Af]
 repeat rw[lz (by (simp only[A8,dO,ku])<;>omega) (by (simp only[A8,dO,ku])<;>omega),Af]
theorem acL {k:Nat} (n:Int) {w:Nat} (l:List Int) (wd:Int) (hwd:wd=w) (hw:w<=8) (hl:l.length+w<=1000000) (hk:w<k):aj (cz.b1 k (⟨[n,wd],rfl⟩:Aa 2 Int)) k (ab (wd - 1),l)=some (.brk (l++be n w)):=by
 subst hwd
 exact acF (n:=n) (fun i l=>by
  unfold cz.b1
  have h:(⟨[n,(w:Int)],rfl⟩:Aa 2 Int).at? 0=some n:=rfl
  simp only[h,Af]) w k l hw hl hk
theorem alS {k:Nat} (hk:20<k) {r:Ab} (ht:r.Text.size<=1000):cz k r=some (enc r):=by
 unfold cz
 have one:∀ (n:Int) (l:List Int),l.length<=1000->aj (cz.b1 k (⟨[n,1],rfl⟩:Aa 2 Int)) k (ab (1 - 1),l)=some (.brk (l++be n 1)):=fun n l hl=>acL n (w:=1) l 1 rfl (by decide) (by omega) (by omega)
 have two:∀ (n:Int) (l:List Int),l.length<=1000->aj (cz.b1 k (⟨[n,2],rfl⟩:Aa 2 Int)) k (ab (2 - 1),l)=some (.brk (l++be n 2)):=fun n l hl=>acL n (w:=2) l 2 rfl (by decide) (by omega) (by omega)
 have four:∀ (n:Int) (l:List Int),l.length<=1000->aj (cz.b1 k (⟨[n,4],rfl⟩:Aa 2 Int)) k (ab (4 - 1),l)=some (.brk (l++be n 4)):=fun n l hl=>acL n (w:=4) l 4 rfl (by decide) (by omega) (by omega)
 have st:∀ (i:Int) (l:List Int) (n wd:Int) (l':List Int),i<8->at? [(⟨[r.At.Ap,1],rfl⟩:(Aa 2 Int)),(⟨[r.At.No,2],rfl⟩:(Aa 2 Int)),(⟨[r.Kind,1],rfl⟩:(Aa 2 Int)),(⟨[r.Day,4],rfl⟩:(Aa 2 Int)),(⟨[r.Bh,4],rfl⟩:(Aa 2 Int)),(⟨[r.Of.Ap,1],rfl⟩:(Aa 2 Int)),(⟨[r.Of.No,2],rfl⟩:(Aa 2 Int)),(⟨[(r.Text.size:Int),1],rfl⟩:(Aa 2 Int))] i=some (⟨[n,wd],rfl⟩:Aa 2 Int)->
   aj (cz.b1 k (⟨[n,wd],rfl⟩:Aa 2 Int)) k (ab (wd - 1),l)=some (.brk l')->cz.b0 k r (i,l)=some (.next (ab (i+1),l')):=by
  intro i l n wd l' hi ha hw
  unfold cz.b0
  have h1:(⟨[n,wd],rfl⟩:Aa 2 Int).at? 1=some wd:=rfl
  simp only[AD hi,Am,ha,Af,h1,hw]
 obtain⟨m,rfl⟩:∃ m,k=m+9:=⟨k - 9,by omega⟩
 have nx:∀ (q:Nat) (i:Int) (l l':List Int),cz.b0 (m+9) r (i,l)=some (.next (ab (i+1),l'))->aj (cz.b0 (m+9) r) (q+1) (i,l)=aj (cz.b0 (m+9) r) q (ab (i+1),l'):=by
  intro q i l l' h
  simp only[aj,h]
 rw[nx (m+8) 0 _ _ (st 0 _ _ _ _ (by decide) rfl (one _ _ (by simp))),(by decide:ab (0+1)=1),
  nx (m+7) 1 _ _ (st 1 _ _ _ _ (by decide) rfl (two _ _ (by (simp only[A8,dO,Az])<;>omega))),(by decide:ab (1+1)=2),
  nx (m+6) 2 _ _ (st 2 _ _ _ _ (by decide) rfl (one _ _ (by (simp only[A8,dO,Az])<;>omega))),(by decide:ab (2+1)=3),
  nx (m+5) 3 _ _ (st 3 _ _ _ _ (by decide) rfl (four _ _ (by (simp only[A8,dO,Az])<;>omega))),(by decide:ab (3+1)=4),
  nx (m+4) 4 _ _ (st 4 _ _ _ _ (by decide) rfl (four _ _ (by (simp only[A8,dO,Az])<;>omega))),(by decide:ab (4+1)=5),
  nx (m+3) 5 _ _ (st 5 _ _ _ _ (by decide) rfl (one _ _ (by (simp only[A8,dO,Az])<;>omega))),(by decide:ab (5+1)=6),
  nx (m+2) 6 _ _ (st 6 _ _ _ _ (by decide) rfl (two _ _ (by (simp only[A8,dO,Az])<;>omega))),(by decide:ab (6+1)=7),
  nx (m+1) 7 _ _ (st 7 _ _ _ _ (by decide) rfl (one _ _ (by (simp only[A8,dO,Az])<;>omega))),(by decide:ab (7+1)=8)]
 have vH:∀ l,aj (cz.b0 (m+9) r) (m+1) (8,l)=some (.brk l):=fun l=>by
  have:cz.b0 (m+9) r (8,l)=some (.brk l):=by
   unfold cz.b0
   simp only[(by decide:decide ((8:Int)<8)=false),Aj]
  simp only[aj,this]
 rw[vH]
 simp only[Af]
 rw[lz (by (simp only[A8,dO,ku,Az])<;>omega) (by (simp only[A8,dO,ku,Az])<;>omega)]
 simp only[Af,BM,enc]
def within (n lo hi:Int):Bool:=decide (lo<=n)&&decide (n<=hi)
theorem zp (k:Nat) (n lo hi:Int):lA k n lo hi=some (within n lo hi):=by
 unfold lA within
 cases decide (lo<=n)<;>rfl
theorem zn (k:Nat) (n lo hi:Int):C6 k n lo hi=some (within n lo hi):=by
 unfold C6 within
 cases decide (lo<=n)<;>rfl
def kL (p:Entry):Bool:=within p.Ap 0 5&&within p.No 0 9999
theorem aon (k:Nat) (p:Entry):uL k p=some (kL p):=by
 unfold uL kL
 simp only[zp,Af]
 cases within p.Ap 0 5<;>rfl
theorem aom (k:Nat) (p:Entry):Ef k p=some (kL p):=by
 unfold Ef kL
 simp only[zn,Af]
 cases within p.Ap 0 5<;>rfl
def sL (x:Int):Bool:=!decide (x<32)&&!decide (126<x)
def oS (s:ByteArray):Bool:=!decide ((200:Int)<(s.size:Int))&&(ib s).all sL
theorem aiL {s:ByteArray}{i:Nat}{x:Int} (h:(ib s)[i]?=some x):sa s (i:Int)=some x:=by
 have hi:i<s.size:=by have:=(gS.1 h).1;rwa [ku]at this
 unfold sa
 rw[if_pos (by omega)]
 unfold ib at h
 rw[Bx,mS]at h
 obtain⟨c,h1,rfl⟩:=h
 simp[List.getD,h1]
theorem aop {k:Nat} (hk:1000<k) (s:ByteArray):gW k s=some (oS s):=by
 unfold gW oS
 by_cases h:(200:Int)<(s.size:Int)
 ·simp[h]
 ·have hl:(ib s).length<=200:=by rw[ku];omega
  have:=ab6 (l:=ib s) (body:=gW.b0 k s) (p:=sL) (c:=false) (by omega) (k:=k) (by omega) (fun i x hx=>by
   have hi:i<s.size:=by have:=(gS.1 hx).1;rwa [ku]at this
   unfold gW.b0 sL
   simp only[AD (show ((i:Int)<(s.size:Int)) by omega),Am,aiL hx,Af]
   cases decide (x<32)<;>cases decide (126<x)<;>rfl) (by
   unfold gW.b0
   simp only[ku,(by simp:decide ((s.size:Int)<(s.size:Int))=false),Aj])
  simp only[AI h,Aj,Bs,BO]
  rw[this]
  cases (ib s).all sL<;>rfl
theorem aoo {k:Nat} (hk:1000<k) (s:ByteArray):Cm k s=some (oS s):=by
 unfold Cm oS
 by_cases h:(200:Int)<(s.size:Int)
 ·simp[h]
 ·have hl:(ib s).length<=200:=by rw[ku];omega
  have:=ab6 (l:=ib s) (body:=Cm.b0 k s) (p:=sL) (c:=false) (by omega) (k:=k) (by omega) (fun i x hx=>by
   have hi:i<s.size:=by have:=(gS.1 hx).1;rwa [ku]at this
   unfold Cm.b0 sL
   simp only[AD (show ((i:Int)<(s.size:Int)) by omega),Am,aiL hx,Af]
   cases decide (x<32)<;>cases decide (126<x)<;>rfl) (by
   unfold Cm.b0
   simp only[ku,(by simp:decide ((s.size:Int)<(s.size:Int))=false),Aj])
  simp only[AI h,Aj,Bs,BO]
  rw[this]
  cases (ib s).all sL<;>rfl
def cZ (r:Ab):Bool:=
 kL r.At&&(within r.Kind 0 40&&(within r.Day 0 100000&&(within r.Bh 0 100000&&(oS r.Text&&
  (bif !decide (r.Kind=(0:Int)) then decide (r.Of.Ap=(0:Int))&&decide (r.Of.No=(0:Int))
   else decide (r.Day=(0:Int))&&((r.Text.toList==ByteArray.empty.toList)&&(kL r.Of&&(decide (r.Of.Ap=r.At.Ap)&&decide (r.Of.No<r.At.No)))))))))
theorem ahz {k:Nat} (hk:1000<k) (r:Ab):po k r=some (cZ r):=by
 unfold po cZ
 simp only[aon,zp,aop hk,Af]
 cases kL r.At<;>simp only[Am,Aj,BO,Bool.false_and]
 cases within r.Kind 0 40<;>simp only[Am,Aj,BO,Bool.false_and]
 cases within r.Day 0 100000<;>simp only[Am,Aj,BO,Bool.false_and]
 cases within r.Bh 0 100000<;>simp only[Am,Aj,BO,Bool.false_and]
 cases oS r.Text<;>simp only[Am,Aj,BO,Bool.false_and,AX,Bs]
 cases decide (r.Kind=(0:Int))<;>simp only[Am,Aj,BO,Bool.false_and,AX,Bs]
 cases decide (r.Day=(0:Int))<;>simp only[Am,Aj,BO,Bool.false_and]
 cases (r.Text.toList==ByteArray.empty.toList)<;>simp only[Am,Aj,BO,Bool.false_and]
 cases kL r.Of<;>simp only[Am,Aj,BO,Bool.false_and]
 cases decide (r.Of.Ap=r.At.Ap)<;>simp only[Am,Aj,BO,Bool.false_and]
theorem xz {k:Nat} (hk:1000<k) (r:Ab):Ed k r=some (bif cZ r then 0 else 90):=by
 unfold Ed cZ
 simp only[aom,zn,aoo hk,Af]
 cases kL r.At<;>simp only[Am,Aj,BO,Bool.false_and]
 cases within r.Kind 0 40<;>simp only[Am,Aj,BO,Bool.false_and]
 cases within r.Day 0 100000<;>simp only[Am,Aj,BO,Bool.false_and]
 cases within r.Bh 0 100000<;>simp only[Am,Aj,BO,Bool.false_and]
 cases oS r.Text<;>simp only[Am,Aj,BO,Bool.false_and,AX,Bs]
 cases decide (r.Kind=(0:Int))<;>simp only[Am,Aj,BO,Bool.false_and,AX,Bs]
 ·cases (decide (r.Of.Ap=(0:Int))&&decide (r.Of.No=(0:Int)))<;>rfl
 cases decide (r.Day=(0:Int))<;>simp only[Am,Aj,BO,Bool.false_and]
 cases (r.Text.toList==ByteArray.empty.toList)<;>simp only[Am,Aj,BO,Bool.false_and]
 cases kL r.Of<;>simp only[Am,Aj,BO,Bool.false_and]
 cases decide (r.Of.Ap=r.At.Ap)<;>simp only[Am,Aj,BO,Bool.false_and]
 by_cases h:r.At.No<=r.Of.No
 ·simp[h,show ¬ r.Of.No<r.At.No by omega]
 ·simp[h,show r.Of.No<r.At.No by omega]
theorem wh {r:Ab} (h:cZ r=true):r.Text.size<=200:=by
 unfold cZ oS at h
 simp only[A7,Bool.not_eq_true',decide_eq_false_iff_not]at h
 omega
theorem ak7 (k:Nat) (f e n:Int):xl k f e n=some ⟨[f,IntKind.u8.wrap (Int.fdiv e (2 ^ 16)),IntKind.u8.wrap (Int.fdiv e (2 ^ 8)),IntKind.u8.wrap e,IntKind.u8.wrap (Int.fdiv n (2 ^ 8)),IntKind.u8.wrap n,
  0,0,0,0,0,0,0,0,0,0,0,0,0,0,0,0,0,0,0,0,0,0,0,0,0,165],rfl⟩:=by rfl
theorem nN (e:Int):be e 3=[IntKind.u8.wrap (Int.fdiv e (2 ^ 16)),IntKind.u8.wrap (Int.fdiv e (2 ^ 8)),IntKind.u8.wrap e]:=by
 simp[be]
theorem xj (e:Int):be e 2=[IntKind.u8.wrap (Int.fdiv e (2 ^ 8)),IntKind.u8.wrap e]:=by
 simp[be]
def iP (e n:Int) (ax:Int) (code:List Int) (i:Nat):List Int:=
 [112]++be e 3++be n 2++[IntKind.u8.wrap (i:Int),IntKind.u8.wrap ax]++((code.drop (23*i)).take 23++List.replicate (23 - min (code.drop (23*i)).length 23) 0)++[165]
theorem ads (e n ax:Int) (code:List Int) (i:Nat):(iP e n ax code i).length=32:=by
 simp only[iP,A8,dO,AA,Az,A9,CU]
 omega
def dP (e n:Int) (ax:Int) (code:List Int) (i:Nat):Aa 32 Int:=⟨iP e n ax code i,ads e n ax code i⟩
def bD (len:Nat):Nat:=(len+22) / 23
theorem aaX {len:Nat} (h:len<=1000):ab (Int.tdiv (ab ((ab ((len:Int)+23)) - 1)) 23)=(bD len:Int):=by
 rw[aV (n:=(len:Int)+23) (by omega) (by omega),aV (n:=(len:Int)+23 - 1) (by omega) (by omega)]
 have e:((len:Int)+23 - 1)=((len+22:Nat):Int):=by omega
 rw[e]
 have:Int.tdiv ((len+22:Nat):Int) 23=(((len+22) / 23:Nat):Int):=by
  rw[show (23:Int)=((23:Nat):Int) from rfl,<-Int.ofNat_tdiv]
 rw[this,aV (by omega) (by omega)]
 rfl
theorem acK {len i:Nat} (h:i<bD len):23*i<len:=by unfold bD at h;omega
theorem apJ {e n:Int}{ax:Int}{code:List Int}{i:Nat}{l:List Int} (hl:l=(code.drop (23*i)).take 23):
  (((⟨[112,IntKind.u8.wrap (Int.fdiv e (2 ^ 16)),IntKind.u8.wrap (Int.fdiv e (2 ^ 8)),IntKind.u8.wrap e,IntKind.u8.wrap (Int.fdiv n (2 ^ 8)),IntKind.u8.wrap n,
   0,0,0,0,0,0,0,0,0,0,0,0,0,0,0,0,0,0,0,0,0,0,0,0,0,165],rfl⟩:Aa 32 Int).set 6 (IntKind.u8.wrap (i:Int))).set 7 (IntKind.u8.wrap ax)).put 8 23 l=dP e n ax code i:=by
 apply Aa.ext
 have hle:l.length<=23:=by rw[hl,A9];omega
 have anD:min l.length 23=l.length:=by omega
 have od:l.length=min (code.drop (23*i)).length 23:=by rw[hl,A9];omega
 unfold Aa.put
 rw[dif_pos (by decide)]
 show List.take 8 _++(List.take 23 l++List.drop (8+min l.length 23) _)=iP e n ax code i
 rw[anD,CB hle]
 have hd:∀ m,m<=23->List.drop (8+m) ((((⟨[112,IntKind.u8.wrap (Int.fdiv e (2 ^ 16)),IntKind.u8.wrap (Int.fdiv e (2 ^ 8)),IntKind.u8.wrap e,IntKind.u8.wrap (Int.fdiv n (2 ^ 8)),IntKind.u8.wrap n,
   0,0,0,0,0,0,0,0,0,0,0,0,0,0,0,0,0,0,0,0,0,0,0,0,0,165],rfl⟩:Aa 32 Int).set 6 (IntKind.u8.wrap (i:Int))).set 7 (IntKind.u8.wrap ax)).l)=List.replicate (23 - m) 0++[165]:=by
  intro m hm
  rw[<-List.drop_drop]
  show List.drop m (List.replicate 23 (0:Int)++[(165:Int)])=_
  rw[DS (by simp;exact hm),List.drop_replicate]
 rw[hd _ hle]
 show [112,IntKind.u8.wrap (Int.fdiv e (2 ^ 16)),IntKind.u8.wrap (Int.fdiv e (2 ^ 8)),IntKind.u8.wrap e,IntKind.u8.wrap (Int.fdiv n (2 ^ 8)),IntKind.u8.wrap n,IntKind.u8.wrap (i:Int),IntKind.u8.wrap ax]++_=_
 unfold iP
 rw[nN,xj,<-od,<-hl]
 simp
theorem aid {k:Nat} (hk:100000<k) {r:Ab} (ht:r.Text.size<=200) (n e:Int):
  gg k r n e=some ((List.range (bD (enc r).length)).map (dP e n (bD (enc r).length) (enc r))):=by
 have hlen:=xH r
 have hc:bD (enc r).length<=10:=by unfold bD;omega
 unfold gg
 rw[alS (by omega) (by omega)]
 simp only[Af]
 have h:=ab7 (n:=bD (enc r).length) (body:=gg.b0 k n e (enc r)) (fun i s=>(i,s)) (fun s i=>s++[dP e n (bD (enc r).length) (enc r) i]) (fun i s=>s.length=i) (by omega) (k:=k) (by omega) (s0:=[]) rfl (fun i s hi hs=>by
  have ae:=acK hi
  refine⟨?_,by simp[hs]⟩
  unfold gg.b0
  have eU:ab ((i:Int)*23)=((23*i:Nat):Int):=by rw[aV]<;>omega
  have lS:ab ((ab ((i:Int)+1))*23)=((23*(i+1):Nat):Int):=by
   rw[aV (n:=(i:Int)+1) (by omega) (by omega),aV]<;>omega
  have vP:bY (enc r) ((23*i:Nat):Int) (min ((enc r).length:Int) ((23*(i+1):Nat):Int))=some (((enc r).drop (23*i)).take 23):=by
   unfold bY
   rw[if_pos (by omega)]
   congr 1
   have e1:(min ((enc r).length:Int) ((23*(i+1):Nat):Int)).toNat - (((23*i:Nat):Int)).toNat=min 23 ((enc r).drop (23*i)).length:=by
    rw[Bi];omega
   rw[e1,Cl]
   rw[<-List.take_take,CK]
  simp only[aaX (show (enc r).length<=1000 by omega),AD (show (i:Int)<(bD (enc r).length:Int) by omega),Am,ak7,Af,eU,lS,vP]
  rw[apJ rfl,qx (by rw[hs];omega) (by rw[hs];omega)]
  rfl) (fun s hs=>by
  unfold gg.b0
  simp only[aaX (show (enc r).length<=1000 by omega),(by simp:decide ((bD (enc r).length:Int)<(bD (enc r).length:Int))=false),Aj])
 have h1:=h.1
 rw[h1]
 simp only[Af]
 rw[adb]
 rfl
theorem alX (l:List Int):mr (List.replicate 23 (0:Int)) 0 23 l=l.take 23++List.replicate (23 - min l.length 23) 0:=by
 unfold mr
 rw[List.drop_replicate,Cq,List.take_zero,BM]
theorem aqX (e n ax:Int) (code:List Int) (i:Nat):Aa.ny 32 (iP e n ax code i)=some (dP e n ax code i):=by
 unfold Aa.ny
 rw[dif_pos (by rw[ads];exact Bd _)]
 congr 1
 apply Aa.ext
 show List.take 32 (iP e n ax code i)=iP e n ax code i
 rw[CB (by rw[ads];exact Bd _)]
theorem adt {k:Nat} (hk:100000<k) {r:Ab} (ht:r.Text.size<=200) (n e:Int):
  Ch k r n e=some ((List.range (bD (enc r).length)).map (dP e n (bD (enc r).length) (enc r))):=by
 have hlen:=xH r
 have hc:bD (enc r).length<=10:=by unfold bD;omega
 unfold Ch
 rw[alB (by omega) (by omega)]
 simp only[Af]
 have h:=ab7 (n:=bD (enc r).length) (body:=Ch.b0 k n e (enc r)) (fun i s=>(i,s)) (fun s i=>s++[dP e n (bD (enc r).length) (enc r) i]) (fun i s=>s.length=i) (by omega) (k:=k) (by omega) (s0:=[]) rfl (fun i s hi hs=>by
  have ae:=acK hi
  refine⟨?_,by simp[hs]⟩
  unfold Ch.b0
  have eU:ab (23*(i:Int))=((23*i:Nat):Int):=by rw[aV]<;>omega
  have vP:bY (enc r) ((23*i:Nat):Int) ((enc r).length:Int)=some ((enc r).drop (23*i)):=by
   unfold bY
   rw[if_pos (by omega)]
   congr 1
   rw[Cl,Cl,<-Bi,CK]
  have h3:Cc k e 3=some (be e 3):=abA e (w:=3) (by decide) (by omega)
  have h2:Cc k n 2=some (be n 2):=abA n (w:=2) (by decide) (by omega)
  have hm:ma 23 1 (0:Int)=some (List.replicate 23 0):=by rfl
  have ca:(mr (List.replicate 23 (0:Int)) 0 23 ((enc r).drop (23*i))).length=23:=by rw[af1 _ (by simp)];simp
  simp only[aaX (show (enc r).length<=1000 by omega),AD (show (i:Int)<(bD (enc r).length:Int) by omega),Am,h3,h2,hm,Af,eU,vP]
  rw[lz (by (simp only[A8,dO,AA,Az])<;>omega) (by (simp only[A8,dO,AA,Az])<;>omega)]
  simp only[Af]
  rw[lz (by (simp only[A8,dO,AA,Az])<;>omega) (by (simp only[A8,dO,AA,Az])<;>omega)]
  simp only[Af]
  rw[lz (by (simp only[A8,dO,AA,Az])<;>omega) (by (simp only[A8,dO,AA,Az])<;>omega)]
  simp only[Af]
  rw[lz (by (simp only[A8,dO,AA,Az,ca])<;>omega) (by (simp only[A8,dO,AA,Az,ca])<;>omega)]
  simp only[Af]
  rw[qx (by (simp only[A8,dO,AA,Az,ca])<;>omega) (by (simp only[A8,dO,AA,Az,ca])<;>omega)]
  simp only[Af]
  have hl:[112]++be e 3++be n 2++[IntKind.u8.wrap (i:Int),IntKind.u8.wrap (bD (enc r).length:Int)]++mr (List.replicate 23 (0:Int)) 0 23 ((enc r).drop (23*i))++[165]=iP e n (bD (enc r).length) (enc r) i:=by
   rw[alX];rfl
  rw[hl,aqX]
  simp only[Af]
  rw[qx (by rw[hs];omega) (by rw[hs];omega)]
  rfl) (fun s hs=>by
  unfold Ch.b0
  simp only[aaX (show (enc r).length<=1000 by omega),(by simp:decide ((bD (enc r).length:Int)<(bD (enc r).length:Int))=false),Aj])
 have h1:=h.1
 rw[h1]
 simp only[Af]
 rw[adb]
 rfl
theorem aqV (v:Aa 32 Int):Aa.eq (fun(x y:Int)=>decide (x=y)) v v=true:=by
 unfold Aa.eq
 rw[List.all_eq_true]
 intro p hp
 obtain⟨i,hi⟩:=BD.1 hp
 rw[List.getElem?_zip_eq_some]at hi
 obtain⟨h1,h2⟩:=hi
 rw[h1]at h2
 simp only[oE]at h2
 simp[h2]
theorem aqg:Fq 18446744073709551616=some true:=by decide +kernel
end Go.Abs
namespace Go.Abs
open Go
def AY (l:List Int):Prop:=∀ x∈l,0<=x/\x<256
theorem AY.take {l:List Int} (h:AY l) (n:Nat):AY (l.take n):=fun x hx=>h x (BY hx)
theorem AY.drop {l:List Int} (h:AY l) (n:Nat):AY (l.drop n):=fun x hx=>h x (Cj hx)
theorem qK (x:Int):IntKind.u8.wrap x=x % 256:=by
 simp only[IntKind.wrap,IntKind.bits,IntKind.signed]
 simp
theorem apk {n b:Int} (h0:0<=n) (h1:n<2 ^ 40) (h2:0<=b) (h3:b<256):fK .i64 (ab (n*2 ^ 8)) (ab b)=n*256+b:=by
 have e8:((2:Int) ^ 8)=256:=by decide
 have e40:((2:Int) ^ 40)=1099511627776:=by decide
 rw[e40]at h1
 rw[e8,aV (n:=n*256) (by omega) (by omega),aV (n:=b) (by omega) (by omega)]
 obtain⟨m,rfl⟩:=Int.eq_ofNat_of_zero_le h0
 obtain⟨c,rfl⟩:=Int.eq_ofNat_of_zero_le h2
 unfold fK
 have t1:(BitVec.ofInt IntKind.i64.bits ((m:Int)*256)).toNat=m*256:=by
  rw[BitVec.toNat_ofInt]
  have:((m:Int)*256) % ((2 ^ IntKind.i64.bits:Nat):Int)=(m:Int)*256:=by
   rw[show ((2 ^ IntKind.i64.bits:Nat):Int)=18446744073709551616 from rfl];omega
  rw[this];omega
 have t2:(BitVec.ofInt IntKind.i64.bits (c:Int)).toNat=c:=by
  rw[BitVec.toNat_ofInt]
  have:(c:Int) % ((2 ^ IntKind.i64.bits:Nat):Int)=(c:Int):=by
   rw[show ((2 ^ IntKind.i64.bits:Nat):Int)=18446744073709551616 from rfl];omega
  rw[this];omega
 rw[BitVec.toNat_or,t1,t2]
 have:m*256 ||| c=m*256+c:=by
  have:=Nat.shiftLeft_add_eq_or_of_lt (b:=c) (i:=8) (by omega) m
  rw[Nat.shiftLeft_eq]at this
  exact this.symm
 rw[this]
 exact aV (by omega) (by omega)
def oO (n:Int) (l:List Int):Int:=l.foldl (fun n b=>n*256+b) n
def bl (l:List Int):Int:=oO 0 l
theorem aio (a:Int):bl [a]=a:=by simp[bl,oO]
theorem ail:∀ {l:List Int}{n:Int}{w:Nat},AY l->0<=n->n<256 ^ w->0<=oO n l/\oO n l<256 ^ (w+l.length)
 |[],n,w,_,h0,h1=>⟨h0,h1⟩
 |b::l,n,w,hb,h0,h1=>by
  have fC:=hb b (by simp)
  have h2:n*256+b<256 ^ (w+1):=by
   rw[Int.pow_succ];omega
  have:=ail (l:=l) (n:=n*256+b) (w:=w+1) (fun x hx=>hb x (by simp[hx])) (by omega) h2
  rw[show w+(b::l).length=w+1+l.length by simp;omega]
  exact this
theorem aes {l:List Int} (hb:AY l):0<=bl l/\bl l<256 ^ l.length:=by
 have:=ail (l:=l) (n:=0) (w:=0) hb (by omega) (by decide)
 unfold bl;simpa using this
theorem ain {R:Type}{l:List Int} (hb:AY l) (hl:l.length<=5) {body:Int×Int->Option (AT (Int×Int) Int R)}{k:Nat} (hk:10<k)
  (h1:∀ (i:Nat) x s,l[i]?=some x->body (s,(i:Int))=some (.next (fK .i64 (ab (s*2 ^ 8)) (ab x),ab ((i:Int)+1)))) (h2:∀ s,body (s,(l.length:Int))=some (.brk s)):
  aj body k (0,0)=some (.brk (bl l)):=by
 have h:=qJ (l:=l) (body:=body) (fun i s=>(s,i)) (fun s x=>s*256+x) (fun i s=>0<=s/\s<256 ^ i) (by omega) (k:=k) (by omega) (s0:=0) (by simp) (fun i x s hx hs=>by
  have hi:=(gS.1 hx).1
  have kV:=hb x (AW hx)
  have ot:s<2 ^ 40:=by
   have:(256:Int) ^ i<=256 ^ 5:=by
    have:i=0\/i=1\/i=2\/i=3\/i=4:=by omega
    rcases this with rfl|rfl|rfl|rfl|rfl<;>decide
   have e:(256:Int) ^ 5=2 ^ 40:=by decide
   omega
  refine⟨?_,by omega,by rw[Int.pow_succ];omega⟩
  rw[h1 i x s hx,apk hs.1 ot kV.1 kV.2]) (fun s hs=>h2 s)
 exact h.1
theorem aqw (s:ByteArray):strOf (s.data.toList.map fun c=>(c.toNat:Int))=s:=by
 unfold strOf
 rw[List.map_map]
 have:((fun n:Int=>UInt8.ofNat n.toNat) ∘ fun c:UInt8=>(c.toNat:Int))=id:=by
  funext c;simp
 rw[this,List.map_id]
end Go.Abs
namespace Go.Abs
def fA (a b:Int×Int):Prop:=a.1<b.1\/(a.1=b.1/\a.2<b.2)
instance (a b:Int×Int):Decidable (fA a b):=inferInstanceAs (Decidable (_\/_))
theorem agb {a b c:Int×Int} (h:fA a b) (g:fA b c):fA a c:=by unfold fA at *;omega
theorem acW (a:Int×Int):¬ fA a a:=by unfold fA;omega
theorem amx (a b:Int×Int):fA a b\/a=b\/fA b a:=by
 obtain⟨a1,a2⟩:=a;obtain⟨b1,b2⟩:=b
 unfold fA;simp only[Prod.mk.injEq];omega
section
variable {α:Type} (key:α->Int×Int)
def CD (l:List α):Prop:=l.Pairwise fun x y=>fA (key x) (key y)
def ax (l:List α) (h:Int):Nat:=l.countP fun x=>decide ((key x).1=h)
theorem sO (h:Int):ax key [] h=0:=rfl
theorem uR (l m:List α) (h:Int):ax key (l++m) h=ax key l h+ax key m h:=by
 unfold ax;exact List.countP_append
theorem nS (x:α) (l:List α) (h:Int):ax key (x::l) h=ax key l h+if (key x).1=h then 1 else 0:=by
 unfold ax;rw[List.countP_cons];simp only[decide_eq_true_eq]
theorem alR {l:List α}{h:Int} (H:∀ x∈l,(key x).1≠h):ax key l h=0:=by
 unfold ax;rw[List.countP_eq_zero];intro x hx;simp[H x hx]
def VL:(Int->Int)->List α->Prop
 |_,[]=>True
 |c,x::l=>(key x).2=c (key x).1/\VL (fun h=>if h=(key x).1 then c h+1 else c h) l
theorem El:∀ {l:List α}{c d:Int->Int} (H:∀ x∈l,c (key x).1=d (key x).1),VL key c l->VL key d l
 |[],_,_,_,_=>trivial
 |x::l,c,d,H,h=>by
  refine⟨by rw[<-H x (by simp)];exact h.1,El (l:=l) (fun y hy=>?_) h.2⟩
  have:=H y (by simp[hy])
  by_cases e:(key y).1=(key x).1
  ·simp only[e,if_true];rw[H x (by simp)]
  ·simp only[if_neg e];exact this
theorem Ek:∀ {l m:List α}{c:Int->Int},VL key c (l++m)↔VL key c l/\VL key (fun h=>c h+ax key l h) m
 |[],m,c=>by
  simp only[BM,sO,VL,true_and]
  constructor<;>exact El key (fun x _=>by simp)
 |x::l,m,c=>by
  simp only[Bq,VL]
  rw[Ek (l:=l)]
  constructor
  ·rintro⟨h1,h2,h3⟩
   refine⟨⟨h1,h2⟩,El key (fun y _=>?_) h3⟩
   rw[nS]
   by_cases e:(key y).1=(key x).1
   ·simp only[e,if_true];omega
   ·simp only[if_neg e,if_neg (Ne.symm e)];omega
  ·rintro⟨⟨h1,h2⟩,h3⟩
   refine⟨h1,h2,El key (fun y _=>?_) h3⟩
   rw[nS]
   by_cases e:(key y).1=(key x).1
   ·simp only[e,if_true];omega
   ·simp only[if_neg e,if_neg (Ne.symm e)];omega
def Dh (l:List α):Prop:=CD key l/\VL key (fun _=>0) l
theorem HP:∀ {l:List α}{c:Int->Int},VL key c l->∀ x∈l,c (key x).1<=(key x).2/\(key x).2<c (key x).1+ax key l (key x).1
 |y::l,c,h,x,hx=>by
  rw[nS]
  rcases BE.1 hx with rfl|hx
  ·have:=h.1;simp only[if_true];omega
  ·have:=HP h.2 x hx
   by_cases e:(key x).1=(key y).1
   ·simp only[e,if_true]at this ⊢;omega
   ·simp only[if_neg e,if_neg (Ne.symm e)]at this ⊢;omega
theorem Fx:∀ {l:List α}{c:Int->Int},VL key c l->∀ (h n:Int),c h<=n->n<c h+ax key l h->∃ x∈l,key x=(h,n)
 |[],c,_,h,n,h1,h2=>by rw[sO]at h2;omega
 |y::l,c,hv,h,n,h1,h2=>by
  rw[nS]at h2
  by_cases e:(key y).1=h
  ·by_cases e2:n=c h
   ·refine⟨y,by simp,?_⟩
    have h3:=hv.1
    rw[e]at h3
    exact Prod.ext e (by rw[h3,e2])
   ·obtain⟨x,hx,hk⟩:=Fx hv.2 h n (by rw[if_pos e.symm];omega) (by rw[if_pos e.symm];rw[if_pos e]at h2;omega)
    exact⟨x,by simp[hx],hk⟩
  ·obtain⟨x,hx,hk⟩:=Fx hv.2 h n (by rw[if_neg (Ne.symm e)];omega) (by rw[if_neg (Ne.symm e)];rw[if_neg e]at h2;omega)
   exact⟨x,by simp[hx],hk⟩
def pos (l:List α) (e:Int×Int):Nat:=l.countP fun x=>decide (fA (key x) e)
theorem zS (l:List α) (e:Int×Int):pos key l e<=l.length:=List.countP_le_length
def ej (l:List α) (r:α):List α:=l.take (pos key l (key r))++r::l.drop (pos key l (key r))
theorem apD (x:α) (l:List α) (e:Int×Int):pos key (x::l) e=pos key l e+if fA (key x) e then 1 else 0:=by
 unfold pos;rw[List.countP_cons];simp only[decide_eq_true_eq]
theorem apE {l:List α}{e:Int×Int} (H:∀ x∈l,¬ fA (key x) e):pos key l e=0:=by
 unfold pos;rw[List.countP_eq_zero];intro x hx;simp[H x hx]
theorem abT:∀ {l:List α},CD key l->∀ (e:Int×Int),(∀ x∈l.take (pos key l e),fA (key x) e)/\(∀ x∈l.drop (pos key l e),¬ fA (key x) e)
 |[],_,e=>by simp
 |y::l,hs,e=>by
  have tN:=List.pairwise_cons.1 hs
  by_cases h:fA (key y) e
  ·obtain⟨h1,h2⟩:=abT tN.2 e
   rw[apD,if_pos h]
   refine⟨fun x hx=>?_,fun x hx=>?_⟩
   ·rw[List.take_succ_cons]at hx
    rcases BE.1 hx with rfl|hx
    ·exact h
    ·exact h1 x hx
   ·rw[List.drop_succ_cons]at hx;exact h2 x hx
  ·have hz:pos key (y::l) e=0:=apE key (fun x hx=>by
    rcases BE.1 hx with rfl|hx
    ·exact h
    ·intro hc;exact h (agb (tN.1 x hx) hc))
   rw[hz]
   refine⟨by simp,fun x hx=>?_⟩
   rw[List.drop_zero]at hx
   rcases BE.1 hx with rfl|hx
   ·exact h
   ·intro hc;exact h (agb (tN.1 x hx) hc)
theorem qz {l:List α} (hs:CD key l) (e:Int×Int) {i:Nat}{x:α} (hx:l[i]?=some x):fA (key x) e↔i<pos key l e:=by
 obtain⟨h1,h2⟩:=abT key hs e
 constructor
 ·intro h
  rcases Nat.lt_or_ge i (pos key l e) with hi|hi
  ·exact hi
  ·exact absurd h (h2 x (BD.2 ⟨i - pos key l e,by rw[Cf,Nat.add_sub_cancel' hi];exact hx⟩))
 ·intro h
  exact h1 x (BD.2 ⟨i,by rw[BP,if_pos h];exact hx⟩)
theorem abr {l:List α}{r x:α}:x∈ej key l r↔x=r\/x∈l:=by
 unfold ej
 rw[Ba,BE]
 constructor
 ·rintro(h|h|h)
  ·exact .inr (BY h)
  ·exact .inl h
  ·exact .inr (Cj h)
 ·rintro(h|h)
  ·exact .inr (.inl h)
  ·rw[<-C2 (pos key l (key r)) l,Ba]at h
   rcases h with h|h
   ·exact .inl h
   ·exact .inr (.inr h)
theorem zo (l:List α) (r:α):(ej key l r).length=l.length+1:=by
 have:=zS key l (key r)
 unfold ej;simp;omega
theorem alQ (l:List α) (r:α) (h:Int):ax key (ej key l r) h=ax key l h+if (key r).1=h then 1 else 0:=by
 unfold ej
 rw[uR,nS]
 have:=uR key (l.take (pos key l (key r))) (l.drop (pos key l (key r))) h
 rw[C2]at this
 omega
theorem aqu {l:List α} (hs:CD key l) {r:α} (hn:∀ x∈l,key x≠key r):CD key (ej key l r):=by
 obtain⟨h1,h2⟩:=abT key hs (key r)
 unfold CD ej
 have h:=hs
 unfold CD at h
 rw[<-C2 (pos key l (key r)) l,List.pairwise_append]at h
 rw[List.pairwise_append,List.pairwise_cons]
 refine⟨h.1,⟨fun x hx=>?_,h.2.1⟩,fun x hx y hy=>?_⟩
 ·rcases amx (key x) (key r) with e|e|e
  ·exact absurd e (h2 x hx)
  ·exact absurd e (hn x (Cj hx))
  ·exact e
 ·rcases BE.1 hy with rfl|hy
  ·exact h1 x hx
  ·exact h.2.2 x hx y hy
theorem aeM {l:List α} (hv:Dh key l):∀ x∈l,0<=(key x).2/\(key x).2<ax key l (key x).1:=fun x hx=>by
 have:=HP key hv.2 x hx;omega
theorem ajf {l:List α} (hv:Dh key l) {h n:Int} (h0:0<=n) (h1:n<ax key l h):∃ x∈l,key x=(h,n):=Fx key hv.2 h n (by omega) (by omega)
theorem ajg {l:List α} (hv:Dh key l) {r:α} (hr:(key r).2=ax key l (key r).1):Dh key (ej key l r):=by
 have hn:∀ x∈l,key x≠key r:=fun x hx e=>by
  have:=aeM key hv x hx
  rw[e]at this;omega
 refine⟨aqu key hv.1 hn,?_⟩
 obtain⟨h1,h2⟩:=abT key hv.1 (key r)
 have hd:∀ x∈l.drop (pos key l (key r)),(key x).1≠(key r).1:=fun x hx e=>by
  have:=aeM key hv x (Cj hx)
  apply h2 x hx
  rw[e]at this
  exact .inr ⟨e,by omega⟩
 have ze:=hv.2
 rw[<-C2 (pos key l (key r)) l,Ek]at ze
 unfold ej
 rw[Ek]
 refine⟨ze.1,?_,?_⟩
 ·have e:=uR key (l.take (pos key l (key r))) (l.drop (pos key l (key r))) (key r).1
  rw[C2,alR key hd]at e
  rw[hr];show ((ax key l (key r).1:Nat):Int)=0+((ax key (l.take (pos key l (key r))) (key r).1:Nat):Int);omega
 ·refine El key (fun x hx=>?_) ze.2
  rw[if_neg (hd x hx)]
theorem aqt {l:List α} (hs:CD key l) {x y:α} (hx:x∈l) (hy:y∈l) (e:key x=key y):x=y:=by
 obtain⟨i,hi⟩:=BD.1 hx
 obtain⟨j,hj⟩:=BD.1 hy
 have h1:=(qz key hs (key y) hi)
 have h2:=(qz key hs (key y) hj)
 have h3:=(qz key hs (key x) hi)
 have h4:=(qz key hs (key x) hj)
 have pP:i=j:=by
  rcases Nat.lt_trichotomy i j with h|h|h
  ·have hp:=List.pairwise_iff_getElem.1 hs i j (gS.1 hi).1 (gS.1 hj).1 h
   rw[(gS.1 hi).2,(gS.1 hj).2,e]at hp
   exact absurd hp (acW _)
  ·exact h
  ·have hp:=List.pairwise_iff_getElem.1 hs j i (gS.1 hj).1 (gS.1 hi).1 h
   rw[(gS.1 hi).2,(gS.1 hj).2,e]at hp
   exact absurd hp (acW _)
 subst pP
 exact oi (hi.symm.trans hj)
end
end Go.Abs
namespace Go.Abs
section
variable {α:Type} [DecidableEq α] (key:α->Int×Int)
def gE (l:List α) (e:Int×Int):Option α:=l.find? fun x=>decide (key x=e)
theorem agH {l:List α}{e:Int×Int}{x:α} (h:gE key l e=some x):x∈l/\key x=e:=by
 unfold gE at h
 have h1:=List.find?_some h
 exact⟨List.mem_of_find?_eq_some h,by simpa using h1⟩
theorem xO {l:List α}{e:Int×Int} (h:gE key l e=none):∀ x∈l,key x≠e:=by
 unfold gE at h
 rw[List.find?_eq_none]at h
 intro x hx;simpa using h x hx
theorem aa7 {l:List α}{e:Int×Int} (h:∀ x∈l,key x≠e):gE key l e=none:=by
 unfold gE;rw[List.find?_eq_none];intro x hx;simpa using h x hx
theorem agF {l:List α} (hs:CD key l) {x:α} (hx:x∈l):gE key l (key x)=some x:=by
 cases h:gE key l (key x) with
 |none=>exact absurd rfl (xO key h x hx)
 |some y=>obtain⟨h1,h2⟩:=agH key h;rw[aqt key hs h1 hx h2]
theorem agG {l:List α} (hs:CD key l) (e:Int×Int):gE key l e=(l[pos key l e]?).filter fun x=>decide (key x=e):=by
 cases h:gE key l e with
 |some x=>
  obtain⟨h1,h2⟩:=agH key h
  obtain⟨i,hi⟩:=BD.1 h1
  have hp:i=pos key l e:=by
   rcases Nat.lt_trichotomy i (pos key l e) with g|g|g
   ·have:=(qz key hs e hi).2 g;rw[h2]at this;exact absurd this (acW _)
   ·exact g
   ·have ae:pos key l e<l.length:=by have:=(gS.1 hi).1;omega
    have hy:l[pos key l e]?=some l[pos key l e]:=gG ae
    have h3:¬ fA (key l[pos key l e]) e:=fun c=>by have:=(qz key hs e hy).1 c;omega
    have hp:=List.pairwise_iff_getElem.1 hs (pos key l e) i ae (gS.1 hi).1 g
    rw[(gS.1 hi).2,h2]at hp
    exact absurd hp h3
  rw[<-hp,hi]
  simp[Option.filter,h2]
 |none=>
  have hn:=xO key h
  cases hq:l[pos key l e]? with
  |none=>rfl
  |some y=>
   have:=hn y (AW hq)
   simp[Option.filter,this]
def jn (out:List α) (r:α):Option (List α):=match gE key out (key r) with
 |some x=>if x=r then some out else none
 |none=>some (ej key out r)
def cs (a:List α) (m:Nat) (r:α):Option Nat:=match gE key a (key r) with
 |some x=>if x=r then some m else none
 |none=>some (m+1)
end
end Go.Abs
namespace Go.Abs
section
variable {α:Type} (key:α->Int×Int)
def bk (out l:List α):List α:=l.foldl (ej key) out
structure BI (done out:List α):Prop where
 mem:∀ x,x∈out↔x∈done
 val:Dh key out
 num:∀ h,ax key out h=ax key done h
 len:out.length=done.length
theorem BI.nil:BI key [] []:=⟨fun x=>Iff.rfl,⟨.nil,trivial⟩,fun h=>rfl,rfl⟩
theorem BI.step {done out:List α}{r:α} (hJ:BI key done out) (hr:(key r).2=ax key done (key r).1):BI key (done++[r]) (ej key out r):=by
 refine⟨fun x=>?_,ajg key hJ.val (by rw[hJ.num];exact hr),fun h=>?_,?_⟩
 ·rw[abr,hJ.mem,Ba,CM];exact Or.comm
 ·rw[alQ,hJ.num,uR,nS,sO];omega
 ·rw[zo,hJ.len];simp
theorem BI.no {done out:List α}{r:α} (hJ:BI key done out) (hr:(key r).2=ax key done (key r).1):∀ x∈out,key x≠key r:=fun x hx e=>by
 have:=aeM key hJ.val x hx
 rw[e,hJ.num]at this;omega
theorem BI.all:∀ {m done out:List α},BI key done out->VL key (fun h=>ax key done h) m->BI key (done++m) (bk key out m)
 |[],done,out,hJ,_=>by rw[List.append_nil];exact hJ
 |r::m,done,out,hJ,hv=>by
  have h1:=BI.step key hJ (r:=r) hv.1
  have:=BI.all (m:=m) h1 (El key (fun x _=>by
   rw[uR,nS,sO]
   by_cases e:(key x).1=(key r).1
   ·rw[if_pos e,if_pos e.symm];simp
   ·rw[if_neg e,if_neg (Ne.symm e)];simp) hv.2)
  simpa [bk] using this
theorem BI.of {l:List α} (h:VL key (fun _=>0) l):BI key l (bk key [] l):=by
 have:=BI.all key (m:=l) (BI.nil key) h
 simpa using this
end
section
variable {α:Type} [DecidableEq α] (key:α->Int×Int)
end
end Go.Abs
namespace Go.Abs
open Go Go.Proofs
theorem afp (s:ByteArray):s.toList=s.data.toList:=by
 have key:∀ (d i:Nat) (r:List UInt8),i+d=s.size->ByteArray.toList.loop s i r=r.reverse++s.data.toList.drop i:=by
  intro d
  induction d with
  |zero=>
   intro i r h
   rw[ByteArray.toList.loop,if_neg (by omega)]
   have hl:s.data.toList.length=s.size:=rfl
   rw[Dy (by omega),List.append_nil]
  |succ d ih=>
   intro i r h
   have hl:s.data.toList.length=s.size:=rfl
   have hi:i<s.data.toList.length:=by omega
   rw[ByteArray.toList.loop,if_pos (by omega),ih (i+1) _ (by omega),List.drop_eq_getElem_cons hi]
   have e:s.get! i=s.data.toList[i]:=by
    show s.data[i]! = _
    rw[getElem!_pos s.data i (by simpa using hi)];simp
   rw[e];simp
 have:=key s.size 0 [] (by omega)
 simpa [ByteArray.toList] using this
theorem ak5 {a b:ByteArray}:a.toList=b.toList↔a=b:=by
 constructor
 ·intro h
  rw[afp,afp]at h
  cases a;cases b
  rename_i x y
  have:x=y:=Array.toList_inj.1 h
  rw[this]
 ·rintro rfl;rfl
def la (x r:Ab):Bool:=(decide (x.At.Ap=r.At.Ap)&&(decide (x.At.No=r.At.No)&&(decide (x.Kind=r.Kind)&&(decide (x.Day=r.Day)&&(decide (x.Bh=r.Bh)&&(decide (x.Of.Ap=r.Of.Ap)&&(decide (x.Of.No=r.Of.No)&&(x.Text.toList==r.Text.toList))))))))
theorem wi {x r:Ab}:la x r=true↔x=r:=by
 obtain⟨⟨a1,a2⟩,a3,a4,a5,⟨a6,a7⟩,a8⟩:=x
 obtain⟨⟨b1,b2⟩,b3,b4,b5,⟨b6,b7⟩,b8⟩:=r
 simp only[la,A7,decide_eq_true_eq,beq_iff_eq,ak5,Ab.mk.injEq,Entry.mk.injEq]
 constructor
 ·rintro⟨h1,h2,h3,h4,h5,h6,h7,h8⟩;exact⟨⟨h1,h2⟩,h3,h4,h5,⟨h6,h7⟩,h8⟩
 ·rintro⟨⟨h1,h2⟩,h3,h4,h5,⟨h6,h7⟩,h8⟩;exact⟨h1,h2,h3,h4,h5,h6,h7,h8⟩
theorem aiv (x:Ab):la x x=true:=wi.2 rfl
theorem aiu {x r:Ab} (h:x≠r):la x r=false:=by
 cases e:la x r with
 |false=>rfl
 |true=>exact absurd (wi.1 e) h
instance:DecidableEq Ab:=fun x y=>decidable_of_iff (la x y=true) wi
def cr (a:Entry):Int×Int:=(a.Ap,a.No)
def ag (r:Ab):Int×Int:=(r.At.Ap,r.At.No)
def sN (a b:Int):Int:=if a<b then -1 else if b<a then 1 else 0
def pB (a b:Entry):Int:=if sN a.Ap b.Ap≠0 then sN a.Ap b.Ap else sN a.No b.No
theorem alN (a b:Entry):pB a b<0↔fA (cr a) (cr b):=by
 unfold pB sN fA cr
 simp only
 repeat' split
 all_goals omega
theorem alM (a b:Entry):pB a b=0↔cr a=cr b:=by
 unfold pB sN cr
 simp only[Prod.mk.injEq]
 repeat' split
 all_goals omega
theorem alT (k:Nat) (a b:Int):uP k a b=some (sN a b):=by
 unfold uP cmp_isNaN_int sN
 simp only[Af,Aj]
 by_cases h:a<b
 ·simp[h]
 ·by_cases h2:b<a<;>simp[h,h2]
theorem apj {k:Nat} (hk:10<k) (a b:Int):gY k [a,b]=some (if a≠0 then a else b):=by
 obtain⟨m,rfl⟩:∃ m,k=m+3:=⟨k - 3,by omega⟩
 unfold gY
 have h0:at? [a,b] 0=some a:=rfl
 have h1:at? [a,b] 1=some b:=rfl
 have w0:ab (0+1)=1:=by decide
 have w1:ab (1+1)=2:=by decide
 have v1:ab 1=1:=by decide
 have v2:ab 2=2:=by decide
 have l2:decide ((2:Int)<(([a,b]:List Int).length:Int))=false:=rfl
 have l1:decide ((1:Int)<(([a,b]:List Int).length:Int))=true:=rfl
 have l0:decide ((0:Int)<(([a,b]:List Int).length:Int))=true:=rfl
 by_cases e:a=0
 ·subst e
  by_cases e2:b=0
  ·subst e2
   simp[aj,gY.b0,h0,h1,w0,w1,v1,v2,l0,l1,l2]
  ·simp[aj,gY.b0,h0,h1,w0,w1,v1,v2,l0,l1,l2,e2]
 ·simp[aj,gY.b0,h0,l0,e]
theorem afV {k:Nat} (hk:10<k) (a b:Entry):xm k a b=some (pB a b):=by
 unfold xm pB
 simp only[alT,apj hk,Af]
theorem am4 {n:Nat} (h:n<=1000000):ab (Int.fdiv (IntKind.u64.wrap (ab (n:Int))) (2 ^ 1))=((n / 2:Nat):Int):=by
 have h1:IntKind.u64.wrap (n:Int)=n:=by
  simp only[IntKind.wrap,IntKind.bits,IntKind.signed]
  simp
  omega
 rw[aV (n:=(n:Int)) (by omega) (by omega),h1,Int.fdiv_eq_ediv_of_nonneg _ (by decide)]
 have:((n:Int) / 2 ^ 1)=((n / 2:Nat):Int):=by simp
 rw[this,aV (by omega) (by omega)]
theorem aqh {k0:Nat} (ij:10<k0) {l:List Ab} (hs:CD ag l) (hl:l.length<=1000) (e:Entry):∀ (d i j k:Nat),j - i<=d->d<k->i<=pos ag l (cr e)->pos ag l (cr e)<=j->j<=l.length->
  aj (gu.b0 k0 (fun q0 q1=>qR k0 q0 q1) l e) k ((i:Int),(j:Int))=some (.brk ((pos ag l (cr e):Nat):Int)):=by
 intro d
 induction d with
 |zero=>
  intro i j k h1 h2 h3 h4 h5
  obtain⟨m,rfl⟩:∃ m,k=m+1:=⟨k - 1,by omega⟩
  have:i=pos ag l (cr e):=by omega
  have hd:decide ((i:Int)<(j:Int))=false:=by simp;omega
  simp only[aj,gu.b0,hd,Aj]
  rw[this]
 |succ d ih=>
  intro i j k h1 h2 h3 h4 h5
  obtain⟨m,rfl⟩:∃ m,k=m+1:=⟨k - 1,by omega⟩
  by_cases pP:i<j
  ·have hd:decide ((i:Int)<(j:Int))=true:=by simp;omega
   have hm:ab (Int.fdiv (IntKind.u64.wrap (ab ((i:Int)+(j:Int)))) (2 ^ 1))=(((i+j) / 2:Nat):Int):=by
    have:=am4 (n:=i+j) (by omega)
    rw[<-this];push_cast;rfl
   have ae:(i+j) / 2<l.length:=by omega
   have hx:l[(i+j) / 2]?=some l[(i+j) / 2]:=gG ae
   have jg:=qz ag hs (cr e) hx
   have hf:qR k0 l[(i+j) / 2] e=some (pB l[(i+j) / 2].At e):=by
    unfold qR;rw[afV ij];rfl
   have hc:=alN l[(i+j) / 2].At e
   have ee:cr l[(i+j) / 2].At=ag l[(i+j) / 2]:=rfl
   rw[ee]at hc
   by_cases hp:(i+j) / 2<pos ag l (cr e)
   ·have yL:decide (pB l[(i+j) / 2].At e<0)=true:=AD (hc.2 (jg.2 hp))
    have hw:ab ((((i+j) / 2:Nat):Int)+1)=(((i+j) / 2+1:Nat):Int):=by rw[aV (by omega) (by omega)];push_cast;rfl
    simp only[aj,gu.b0,hd,Am,hm,bC hx,Af,hf,yL,hw]
    exact ih _ _ _ (by omega) (by omega) (by omega) h4 h5
   ·have yL:decide (pB l[(i+j) / 2].At e<0)=false:=AI (fun c=>hp (jg.1 (hc.1 c)))
    simp only[aj,gu.b0,hd,Am,hm,bC hx,Af,hf,yL,Aj]
    exact ih _ _ _ (by omega) (by omega) h3 (by omega) (by omega)
  ·have:i=pos ag l (cr e):=by omega
   have hd:decide ((i:Int)<(j:Int))=false:=by simp;omega
   simp only[aj,gu.b0,hd,Aj]
   rw[this]
theorem amJ {k:Nat} (hk:10000<k) {b:Ai} (hs:CD ag b.Al) (hl:b.Al.length<=1000) (e:Entry):
  xq k b e=some (((pos ag b.Al (cr e):Nat):Int),(gE ag b.Al (cr e)).isSome):=by
 unfold xq gu
 have h:=aqh (k0:=k) (by omega) hs hl e b.Al.length 0 b.Al.length k (by omega) (by omega) (by omega) (zS ag _ _) (by omega)
 rw[CV]at h
 rw[h]
 simp only[Af]
 rw[agG ag hs]
 by_cases hp:pos ag b.Al (cr e)<b.Al.length
 ·have hx:b.Al[pos ag b.Al (cr e)]?=some b.Al[pos ag b.Al (cr e)]:=gG hp
  have hd:decide (((pos ag b.Al (cr e):Nat):Int)<(b.Al.length:Int))=true:=by simp;omega
  simp only[hd,Am,bC hx,Af]
  unfold qR
  rw[afV (by omega)]
  simp only[Af,hx]
  have hc:=alM b.Al[pos ag b.Al (cr e)].At e
  have ee:cr b.Al[pos ag b.Al (cr e)].At=ag b.Al[pos ag b.Al (cr e)]:=rfl
  rw[ee]at hc
  by_cases he:ag b.Al[pos ag b.Al (cr e)]=cr e
  ·rw[hc.2 he];simp[Option.filter,he]
  ·simp[Option.filter,he,mt hc.1 he]
 ·have hx:b.Al[pos ag b.Al (cr e)]?=none:=CL (by omega)
  have hd:decide (((pos ag b.Al (cr e):Nat):Int)<(b.Al.length:Int))=false:=by simp;omega
  simp only[hd,Aj,hx]
  rfl
def qX (l:List Ab):Aa 6 Int:=⟨[ax ag l 0,ax ag l 1,ax ag l 2,ax ag l 3,ax ag l 4,ax ag l 5],rfl⟩
theorem six {h:Int} (h0:0<=h) (h1:h<=5):h=0\/h=1\/h=2\/h=3\/h=4\/h=5:=by omega
theorem aaW (l:List Ab) {h:Int} (h0:0<=h) (h1:h<=5):(qX l).at? h=some ((ax ag l h:Nat):Int):=by
 rcases six h0 h1 with rfl|rfl|rfl|rfl|rfl|rfl<;>rfl
theorem alP (l:List Ab) (r:Ab) (h0:0<=r.At.Ap) (h1:r.At.Ap<=5):(qX l).set r.At.Ap ((ax ag l r.At.Ap:Nat)+1:Int)=qX (l++[r]):=by
 have hc:∀ h,ax ag (l++[r]) h=ax ag l h+if r.At.Ap=h then 1 else 0:=fun h=>by
  rw[uR,nS,sO]
  show _+(0+if r.At.Ap=h then 1 else 0)=_
  omega
 apply Aa.ext
 unfold qX
 simp only[hc]
 rcases six h0 h1 with e|e|e|e|e|e<;>rw[e]<;>simp[Aa.set]
def jm (r:Ab):Prop:=0<=r.At.Ap/\r.At.Ap<=5
theorem nB {r:Ab} (h:cZ r=true):jm r:=by
 unfold cZ kL within at h
 simp only[A7,decide_eq_true_eq]at h
 exact h.1.1
theorem afU (l:List Ab) (h:Int):ax ag l h<=l.length:=List.countP_le_length
theorem af0 {τ:Type}{body:τ->Option (AT τ (Aa 6 Int) (Aa 6 Int))} (mk:Int->Aa 6 Int->τ) {l:List Ab} (hl:l.length<=100000) (hh:∀ r∈l,jm r) {k:Nat} (hk:1000000<k)
  (h1:∀ (i:Nat) r s,l[i]?=some r->body (mk i s)=(s.at? r.At.Ap).bind fun x=>some (.next (mk (ab ((i:Int)+1)) (s.set r.At.Ap (ab (x+1)))))) (h2:∀ s,body (mk l.length s)=some (.brk s)):
  aj body k (mk 0 (Aa.rep 6 (0:Int)))=some (.brk (qX l)):=by
 have h:=qJ (l:=l) (body:=body) mk (fun s r=>match s.at? r.At.Ap with|some x=>s.set r.At.Ap (ab (x+1))|none=>s) (fun i s=>s=qX (l.take i)) (by omega) (k:=k) (by omega) (s0:=Aa.rep 6 (0:Int)) (by rfl) (fun i r s hx hs=>by
  have hi:=(gS.1 hx).1
  have hr:=hh r (AW hx)
  have e:l.take (i+1)=l.take i++[r]:=by rw[List.take_add_one,hx];rfl
  have hc:=afU (l.take i) r.At.Ap
  rw[A9]at hc
  rw[h1 i r s hx,hs,aaW _ hr.1 hr.2]
  simp only[Af]
  have hw:ab (((ax ag (l.take i) r.At.Ap:Nat):Int)+1)=((ax ag (l.take i) r.At.Ap:Nat):Int)+1:=aV (by omega) (by omega)
  rw[hw,alP _ _ hr.1 hr.2,e]
  exact⟨trivial,rfl⟩) (fun s hs=>h2 s)
 have h3:=h.2
 rw[CK]at h3
 rw[h.1,h3]
theorem am6 {k:Nat} (hk:1000000<k) {b:Ai} (hl:b.Al.length<=100000) (hh:∀ r∈b.Al,jm r):gV k b=some (qX b.Al):=by
 unfold gV
 rw[af0 (l:=b.Al) (body:=gV.b0 k b) (fun i s=>(s,i)) hl hh hk (fun i r s hx=>by
  have hi:=(gS.1 hx).1
  unfold gV.b0
  simp only[AD (show (i:Int)<(b.Al.length:Int) by omega),Am,bC hx,Af]) (fun s=>by
  unfold gV.b0
  simp only[(by simp:decide ((b.Al.length:Int)<(b.Al.length:Int))=false),Aj])]
 rfl
theorem afO {k:Nat}{l:List Ab} (hl:l.length<=1000):wy k l=some l:=by
 unfold wy eW
 rw[if_pos ⟨by omega,by omega⟩];rfl
theorem acM {k:Nat}{b:Ai} (hl:b.Al.length<=1000):uH k b=some b:=by
 unfold uH
 rw[afO hl];rfl
theorem aol {k:Nat}{l:List Ab} (hl:l.length<=1000) (r:Ab):aac k l ((pos ag l (ag r):Nat):Int) [r]=some (ej ag l r):=by
 have:=zS ag l (ag r)
 unfold aac
 rw[if_pos ⟨⟨by omega,by omega⟩,rfl,⟨by omega,by omega⟩⟩]
 rfl
end Go.Abs
namespace Go.Abs
open Go Go.Proofs
theorem aiV (l:List Int) (n:Nat):sm l (n:Int)=if l.length<n then none else some (l.take n,l.drop n):=by
 unfold sm
 by_cases h:l.length<n
 ·rw[if_pos (by omega),if_pos h]
 ·rw[if_neg (by omega),if_neg h,Cl]
theorem aec {k:Nat} (hk:100<k) {l:List Int} (hb:AY l) {n:Nat} (hn:n<=5):jO k l (n:Int)=some (if l.length<n then none else some (bl (l.take n),l.drop n)):=by
 unfold jO
 rw[aiV]
 by_cases h:l.length<n
 ·simp only[if_pos h]
 ·simp only[if_neg h]
  have hl:(l.take n).length=n:=by rw[A9];omega
  rw[ain (hb.take n) (by omega) (k:=k) (by omega) (fun i x s hx=>by
   have hi:=(gS.1 hx).1
   unfold aby
   simp only[AD (show (i:Int)<((l.take n).length:Int) by omega),Am,bC hx,Af]) (fun s=>by
   unfold aby
   simp only[(by simp:decide (((l.take n).length:Int)<((l.take n).length:Int))=false),Aj])]
  rfl
def xC (b tx:List Int):Ab:=⟨⟨bl (b.take 1),bl ((b.drop 1).take 2)⟩,bl ((b.drop 3).take 1),bl ((b.drop 4).take 4),bl ((b.drop 8).take 4),⟨bl ((b.drop 12).take 1),bl ((b.drop 13).take 2)⟩,strOf tx⟩
def cj (b:List Int):Int:=bl ((b.drop 15).take 1)
def gD (b:List Int):Option (Ab×List Int):=
 if b.length<16 then none else if (b.length:Int)<16+cj b then none else some (xC b ((b.drop 16).take (cj b).toNat),(b.drop 16).drop (cj b).toNat)
theorem al6 {k:Nat} (hk:100<k) {b:List Int} (hb:AY b):xB k b=some (gD b):=by
 have N1:∀ {l:List Int},AY l->jO k l 1=some (if l.length<1 then none else some (bl (l.take 1),l.drop 1)):=fun h=>aec hk h (n:=1) (by omega)
 have N2:∀ {l:List Int},AY l->jO k l 2=some (if l.length<2 then none else some (bl (l.take 2),l.drop 2)):=fun h=>aec hk h (n:=2) (by omega)
 have N4:∀ {l:List Int},AY l->jO k l 4=some (if l.length<4 then none else some (bl (l.take 4),l.drop 4)):=fun h=>aec hk h (n:=4) (by omega)
 unfold xB
 by_cases je:b.length<16
 ·have e:gD b=none:=by unfold gD;rw[if_pos je]
  rw[e,N1 hb,Af]
  by_cases h1:b.length<1
  ·rw[if_pos h1]
  rw[if_neg h1];simp only
  rw[N2 (hb.drop _),Af,Bi,List.drop_drop]
  by_cases h1:b.length - 1<2
  ·rw[if_pos h1]
  rw[if_neg h1];simp only
  rw[N1 (hb.drop _),Af,Bi,List.drop_drop]
  by_cases h1:b.length - (1+2)<1
  ·rw[if_pos h1]
  rw[if_neg h1];simp only
  rw[N4 (hb.drop _),Af,Bi,List.drop_drop]
  by_cases h1:b.length - (1+2+1)<4
  ·rw[if_pos h1]
  rw[if_neg h1];simp only
  rw[N4 (hb.drop _),Af,Bi,List.drop_drop]
  by_cases h1:b.length - (1+2+1+4)<4
  ·rw[if_pos h1]
  rw[if_neg h1];simp only
  rw[N1 (hb.drop _),Af,Bi,List.drop_drop]
  by_cases h1:b.length - (1+2+1+4+4)<1
  ·rw[if_pos h1]
  rw[if_neg h1];simp only
  rw[N2 (hb.drop _),Af,Bi,List.drop_drop]
  by_cases h1:b.length - (1+2+1+4+4+1)<2
  ·rw[if_pos h1]
  rw[if_neg h1];simp only
  rw[N1 (hb.drop _),Af,Bi,List.drop_drop]
  rw[if_pos (by omega)]
 ·rw[N1 hb,Af,if_neg (by omega)];simp only
  rw[N2 (hb.drop _),Af,Bi,List.drop_drop,if_neg (by omega)];simp only
  rw[N1 (hb.drop _),Af,Bi,List.drop_drop,if_neg (by omega)];simp only
  rw[N4 (hb.drop _),Af,Bi,List.drop_drop,if_neg (by omega)];simp only
  rw[N4 (hb.drop _),Af,Bi,List.drop_drop,if_neg (by omega)];simp only
  rw[N1 (hb.drop _),Af,Bi,List.drop_drop,if_neg (by omega)];simp only
  rw[N2 (hb.drop _),Af,Bi,List.drop_drop,if_neg (by omega)];simp only
  rw[N1 (hb.drop _),Af,Bi,List.drop_drop,if_neg (by omega)];simp only
  have hm:=aes ((hb.drop 15).take 1)
  have hM:bl ((b.drop (1+2+1+4+4+1+2)).take 1)=cj b:=rfl
  rw[hM]
  have rr:0<=cj b:=hm.1
  rw[if_pos rr]
  obtain⟨m,pT⟩:=Int.eq_ofNat_of_zero_le rr
  unfold gD
  rw[if_neg je,pT,aiV,Bi]
  by_cases ae:(b.length:Int)<16+(m:Int)
  ·rw[if_pos ae,if_pos (by omega)]
  ·rw[if_neg ae,if_neg (by omega)]
   rfl
theorem amc {k:Nat} (hk:1000<k) {b:List Int} (hb:AY b):
  aaQ k b=some (match gD b with|none=>(⟨⟨0,0⟩,0,0,0,⟨0,0⟩,ByteArray.empty⟩,[],false)|some p=>(p.1,p.2,cZ p.1)):=by
 unfold aaQ
 rw[al6 (by omega) hb]
 cases gD b with
 |none=>rfl
 |some p=>simp only[Af,ahz hk]
theorem rd1 {n:Int} (h0:0<=n) (h1:n<256):bl (be n 1)=n:=by
 simp only[be,qK,bl,oO,List.foldl]
 rw[Int.fdiv_eq_ediv_of_nonneg _ (by decide)]
 simp
 omega
theorem rd2 {n:Int} (h0:0<=n) (h1:n<65536):bl (be n 2)=n:=by
 simp only[be,qK,bl,oO,List.foldl]
 rw[Int.fdiv_eq_ediv_of_nonneg _ (by decide),Int.fdiv_eq_ediv_of_nonneg _ (by decide)]
 simp
 omega
theorem rd4 {n:Int} (h0:0<=n) (h1:n<4294967296):bl (be n 4)=n:=by
 simp only[be,qK,bl,oO,List.foldl]
 rw[Int.fdiv_eq_ediv_of_nonneg _ (by decide),Int.fdiv_eq_ediv_of_nonneg _ (by decide),Int.fdiv_eq_ediv_of_nonneg _ (by decide),Int.fdiv_eq_ediv_of_nonneg _ (by decide)]
 simp
 omega
theorem m7 (n:Int):∀ w,AY (be n w)
 |0=>by intro x hx;simp[be]at hx
 |w+1=>by
  intro x hx
  rcases BE.1 hx with rfl|hx
  ·rw[qK];omega
  ·exact m7 n w x hx
theorem alA (s:ByteArray):AY (ib s):=by
 intro x hx
 obtain⟨c,_,rfl⟩:=List.mem_map.1 hx
 have:=c.toNat_lt
 omega
theorem AY.append {a b:List Int} (ha:AY a) (hb:AY b):AY (a++b):=fun x hx=>by
 rcases Ba.1 hx with h|h
 ·exact ha x h
 ·exact hb x h
theorem alx (r:Ab):AY (enc r):=by
 unfold enc
 exact((((((((m7 _ _).append (m7 _ _)).append (m7 _ _)).append (m7 _ _)).append (m7 _ _)).append (m7 _ _)).append (m7 _ _)).append (m7 _ _)).append (alA _)
theorem age (r:Ab):(enc r).take 1=be r.At.Ap 1/\((enc r).drop 1).take 2=be r.At.No 2/\((enc r).drop 3).take 1=be r.Kind 1/\((enc r).drop 4).take 4=be r.Day 4/\((enc r).drop 8).take 4=be r.Bh 4/\
  ((enc r).drop 12).take 1=be r.Of.Ap 1/\((enc r).drop 13).take 2=be r.Of.No 2/\((enc r).drop 15).take 1=be (r.Text.size:Int) 1/\(enc r).drop 16=ib r.Text:=by
 unfold enc
 simp[be]
theorem abF {r:Ab} (h:cZ r=true):(0<=r.At.Ap/\r.At.Ap<=5)/\(0<=r.At.No/\r.At.No<=9999)/\(0<=r.Kind/\r.Kind<=40)/\(0<=r.Day/\r.Day<=100000)/\(0<=r.Bh/\r.Bh<=100000)/\(0<=r.Of.Ap/\r.Of.Ap<=5)/\(0<=r.Of.No/\r.Of.No<=9999):=by
 unfold cZ kL within at h
 simp only[A7,decide_eq_true_eq]at h
 obtain⟨⟨a1,a2⟩,a3,a4,a5,a6,h⟩:=h
 refine⟨a1,a2,a3,a4,a5,?_⟩
 by_cases hk:r.Kind=0
 ·simp only[hk,BC,AX,Aj,A7,decide_eq_true_eq]at h
  exact⟨h.2.2.1.1,h.2.2.1.2⟩
 ·simp only[hk,decide_false,Bs,Am,A7,decide_eq_true_eq]at h
  omega
theorem al7 {r:Ab} (ht:r.Text.size<=200):cj (enc r)=(r.Text.size:Int):=by
 unfold cj
 rw[(age r).2.2.2.2.2.2.2.1,rd1 (by omega) (by omega)]
theorem al8 {r:Ab} (h:cZ r=true) (l:List Int):gD (enc r++l)=some (r,l):=by
 have ht:=wh h
 have hlen:=xH r
 obtain⟨b1,b2,b3,b4,b5,b6,b7⟩:=abF h
 obtain⟨p1,p2,p3,p4,p5,p6,p7,p8,p9⟩:=age r
 have T:∀ (i n:Nat),i+n<=16->((enc r++l).drop i).take n=((enc r).drop i).take n:=fun i n hi=>by
  rw[DS (by omega),EX (by rw[Bi];omega)]
 have hM:cj (enc r++l)=(r.Text.size:Int):=by
  have:=al7 ht
  unfold cj at this ⊢
  rw[T 15 1 (by omega)];exact this
 have hd:(enc r++l).drop 16=ib r.Text++l:=by
  rw[DS (by omega),p9]
 unfold gD
 rw[if_neg (by rw[A8];omega),hM,if_neg (by rw[A8];omega),hd,Cl]
 have fT:=ku r.Text
 rw[EX (by omega),DS (by omega),CB (by omega),Dy (by omega),BM]
 have t0:=T 0 1 (by omega)
 simp only[List.drop_zero]at t0
 unfold xC
 rw[t0,T 1 2 (by omega),T 3 1 (by omega),T 4 4 (by omega),T 8 4 (by omega),T 12 1 (by omega),T 13 2 (by omega),p1,p2,p3,p4,p5,p6,p7,
  rd1 b1.1 (by omega),rd2 b2.1 (by omega),rd1 b3.1 (by omega),rd4 b4.1 (by omega),rd4 b5.1 (by omega),rd1 b6.1 (by omega),rd2 b7.1 (by omega)]
 have hs:strOf (ib r.Text)=r.Text:=aqw r.Text
 rw[hs]
def gL (h:Aa 32 Int):List Int:=(h.l.drop 8).take 23
def rT (c:List Int):List Int:=c++List.replicate (23*bD c.length - c.length) 0
theorem afT (n:Nat):n<=23*bD n:=by unfold bD;omega
theorem apw (c:List Int):(rT c).length=23*bD c.length:=by
 have:=afT c.length
 unfold rT;simp;omega
theorem apB (e n:Int) (c:List Int) {i:Nat} (hi:i<bD c.length):gL (dP e n (bD c.length) c i)=((rT c).drop (23*i)).take 23:=by
 have ae:=acK hi
 unfold gL dP iP rT
 simp only
 rw[nN,xj]
 simp only[Bq,BM,Cp,List.drop_succ_cons,List.drop_zero]
 rw[DS (by omega),<-Cp,EX (by simp;omega),CB (by simp;omega)]
 rw[List.take_append,List.take_replicate,Bi]
 congr 2
 have:=afT c.length
 omega
theorem chunks (P:List Int) (w:Nat):∀ n,((List.range n).map fun i=>(P.drop (w*i)).take w).flatten=P.take (w*n)
 |0=>by simp
 |n+1=>by
  rw[List.range_succ,Dg,List.flatten_append,chunks P w n]
  simp only[List.map_cons,List.map_nil,Cu,List.flatten_nil,List.append_nil]
  rw[Nat.mul_succ,List.take_add]
theorem aou (e n:Int) (c:List Int):(((List.range (bD c.length)).map (dP e n (bD c.length) c)).map gL).flatten=rT c:=by
 have:(((List.range (bD c.length)).map (dP e n (bD c.length) c)).map gL)=(List.range (bD c.length)).map fun i=>((rT c).drop (23*i)).take 23:=by
  rw[List.map_map]
  apply List.map_congr_left
  intro i hi
  exact apB e n c (List.mem_range.1 hi)
 rw[this,chunks,<-apw,CK]
def cC (r:Ab) (n e:Int):List (Aa 32 Int):=(List.range (bD (enc r).length)).map (dP e n (bD (enc r).length) (enc r))
theorem kO (r:Ab) (n e:Int):(cC r n e).length=bD (enc r).length:=by simp[cC]
theorem uS (r:Ab):0<bD (enc r).length:=by rw[xH];unfold bD;omega
theorem rd3 {n:Int} (h0:0<=n) (h1:n<16777216):bl (be n 3)=n:=by
 simp only[be,qK,bl,oO,List.foldl]
 rw[Int.fdiv_eq_ediv_of_nonneg _ (by decide),Int.fdiv_eq_ediv_of_nonneg _ (by decide),Int.fdiv_eq_ediv_of_nonneg _ (by decide)]
 simp
 omega
theorem qI (v w:Aa 32 Int):Aa.eq (fun(x y:Int)=>decide (x=y)) v w=true↔v=w:=by
 constructor
 ·intro h
  unfold Aa.eq at h
  rw[List.all_eq_true]at h
  apply Aa.ext
  apply List.ext_getElem (by rw[v.h,w.h])
  intro i h1 h2
  have:=h (v.l[i],w.l[i]) (List.mem_iff_getElem.2 ⟨i,by simp;omega,by simp⟩)
  simpa using this
 ·rintro rfl;exact aqV _
theorem aqf {α R:Type}{body:Bool×Int->Option (AT (Bool×Int) Bool R)}{a b:List α} (vw:a.length=b.length) (hl:a.length<=1000000) {eq:α->α->Bool} (he:∀ x y,eq x y=true↔x=y) {k:Nat} (hk:10000000<k)
  (h1:∀ (i:Nat) x y,a[i]?=some x->b[i]?=some y->body (true,(i:Int))=some (.next (eq x y,ab ((i:Int)+1))))
  (h2:∀ i:Nat,i<=a.length->body (false,(i:Int))=some (.brk false)) (h3:body (true,(a.length:Int))=some (.brk true)):
  ∃ c:Bool,aj body k (true,0)=some (.brk c)/\(c=true↔a=b):=by
 have key:∀ (d i m:Nat),i+d=a.length->d+2<=m->∃ c:Bool,aj body m (true,(i:Int))=some (.brk c)/\(c=true↔a.drop i=b.drop i):=by
  intro d
  induction d with
  |zero=>
   intro i m h4 h5
   obtain⟨m,rfl⟩:∃ q,m=q+1:=⟨m - 1,by omega⟩
   have:i=a.length:=by omega
   subst this
   refine⟨true,by simp only[aj,h3],?_⟩
   rw[Dy (Bd _),Dy (by omega)]
   simp
  |succ d ih=>
   intro i m h4 h5
   obtain⟨m,rfl⟩:∃ q,m=q+1:=⟨m - 1,by omega⟩
   have ha:a[i]?=some (a[i]'(by omega)):=gG (by omega)
   have hb:b[i]?=some (b[i]'(by omega)):=gG (by omega)
   have hw:ab ((i:Int)+1)=((i+1:Nat):Int):=by rw[aV (by omega) (by omega)];omega
   rw[List.drop_eq_getElem_cons (show i<a.length by omega),List.drop_eq_getElem_cons (show i<b.length by omega)]
   simp only[aj,h1 i _ _ ha hb,hw]
   cases hq:eq (a[i]'(by omega)) (b[i]'(by omega)) with
   |true=>
    obtain⟨c,h6,h7⟩:=ih (i+1) m (by omega) (by omega)
    refine⟨c,h6,?_⟩
    rw[h7,(he _ _).1 hq]
    exact⟨fun h=>by rw[h],fun h=>(List.cons.inj h).2⟩
   |false=>
    obtain⟨m,rfl⟩:∃ q,m=q+1:=⟨m - 1,by omega⟩
    refine⟨false,by simp only[aj,h2 (i+1) (by omega)],?_⟩
    constructor
    ·intro h;cases h
    ·intro h
     have:=(List.cons.inj h).1
     rw[(he _ _).2 this]at hq;cases hq
 have:=key a.length 0 k (by omega) (by omega)
 simpa using this
end Go.Abs
end
