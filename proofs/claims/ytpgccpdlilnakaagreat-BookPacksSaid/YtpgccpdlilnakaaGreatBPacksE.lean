/-
  Part 5 of the proof: a machine over named blocks, what each function computes, and what follows. No condition.
-/
import Derived.Test.YtpgccpdlilnakaaGreatBPacksD
set_option linter.unusedVariables false
set_option linter.unusedSimpArgs false
set_option linter.all false
set_option maxRecDepth 100000
set_option maxHeartbeats 8000000
noncomputable section
namespace Go.Abs
open Go.Proofs
def Hk.c:SC:=
 SQ [RG [wA 4 92],RG [oQ 6 (.buildSlice 82 1 #[(0,.const (.int .u8 104))]) 82,wV 7 0 3 [0],wC 8 86 #[.tmp 7,.const (.int .i64 3)] #[3,3] 82 [7],wP 9 6 8 82 82 82 [6,8],wG 5 9 82 [9]],RG [wV 10 5 82 [5],wV 11 1 3 [1],wC 12 86 #[.tmp 11,.const (.int .i64 2)] #[3,3] 82 [11],wP 13 10 12 82 82 82 [10,12],wG 5 13 82 [13]],RG [wV 14 5 82 [5],oQ 15 (.call ⟨.builtin .append,#[.tmp 14,.const (.int .i64 25)],
 #[82,3]⟩) 82 [14],oQ 16 (.buildSlice 82 1 #[(0,.const (.int .u8 165))]) 82,wP 17 15 16 82 82 82 [15,16],wG 5 17 82 [17]],RG [wV 18 5 82 [5],oQ 19 (.sliceToArrayPointer 92 (.tmp 18)) 0 [18],wD 20 92 19 [19],wS 92 4 20 [20]],.ret]
def D0 (k:Nat) (qi:Int) (qf:Int):Option ((Aa 32 Int)):=
 (Cd k qi 3).bind fun x1=>
 (dN 1 [104] x1).bind fun l2=>
 (Cd k qf 2).bind fun x3=>
 (dN 1 l2 x3).bind fun l4=>
 (dN 1 l4 (List.replicate 25 (0:Int))).bind fun l5=>
 (fJ 1 l5 165).bind fun l6=>
 (Aa.nP 32 l6).bind fun v7=>
 some v7
theorem FQ (k:Nat) (qi:Int) (qf:Int) (r:(Aa 32 Int)) (h0:D0 k qi qf=some r):Ay Tryz.prog 50 [.int .i64 qi,.int .i64 qf] (fun y=>y=.agg ((Aa.c (n:=32) af) r)):=by
 refine PB Tryz.f50 Hk.c [.cell 4 92] ?_
 simp only[D0]at h0
 try simp only[Hk.c,go_sem]
 refine au h0 (Fw k _ _) ?_ (fun x1 h0=>?_)<;>try simp only[go_sem]
 obtain⟨l2,yl2,h0⟩:=bs h0
 have akr:=gM af yl2
 try simp only[go_sem]at akr
 have F:=akr
 try simp only[F,go_sem]
 refine au h0 (Fw k _ _) ?_ (fun x3 h0=>?_)<;>try simp only[F,go_sem]
 obtain⟨l4,yl4,h0⟩:=bs h0
 have akw:=gM af yl4
 try simp only[F,go_sem]at akw
 have F:=an akw F
 try simp only[F,go_sem]
 obtain⟨l5,yl5,h0⟩:=bs h0
 have aaT:=gM af yl5
 try simp only[(@id (Int.toNat 25=25) rfl),(by decide:room 25 1),(by decide:(0:Int)<=25),(by decide:¬ ([3]:List TypeId)=[82]),F,go_sem]at aaT
 have F:=an aaT F
 try simp only[(@id (Int.toNat 25=25) rfl),(by decide:room 25 1),(by decide:(0:Int)<=25),(by decide:¬ ([3]:List TypeId)=[82]),F,go_sem]
 obtain⟨l6,kg,h0⟩:=bs h0
 have tu:=pu af kg
 try simp only[F,go_sem]at tu
 have F:=an tu F
 try simp only[F,go_sem]
 obtain⟨v7,yv7,h0⟩:=bs h0
 have akB:=acI yv7
 try simp only[F,go_sem]at akB
 have F:=an akB (an (ajY (E:=af) yv7) (an (ajX (E:=af) yv7) F))
 try simp only[F,go_sem]
 obtain rfl:=oi h0
 refine Ag rfl ?_
 try simp only[F,go_sem]
def G0.c:SC:=
 SQ [RG [wA 0 36,wA 1 42],RG [oQ 3 (.makeSlice 33 (.const (.int .i64 602)) (.const (.int .i64 602))) 33,oQ 4 (.build 36 #[(0,.tmp 3)]) 36 [3],wA 2 36,wS 36 2 4 [4]],.aL [wF 5 36 2 0,wD 6 33 5,wC 7 50 #[.const (.int .i64 1),.const (.int .i64 0)] #[3,3] 92,wJ 8 33 6 0,wJ 9 113 8 0,wS 92 9 7] [[],[0],[],[0,1],[0,1,3,2],[0,1,3,2,4]] [5,6,7,8,9],RG [wD 10 36 2 [2],oQ 11 (.build 42 #[(2,
 .const (.int .i64 1)),(3,.const (.int .i64 1))]) 42,wS 36 0 10 [10],wS 42 1 11 [11]],.ret]
def Ej (k:Nat):Option (Ac×Aw):=
 (kM 602 64 ((Aa.rep 2 ((Aa.rep 32 (0:Int)):(Aa 32 Int))):(Aa 2 (Aa 32 Int)))).bind fun l1=>
 (D0 k 1 0).bind fun x2=>
 (at? l1 0).bind fun x3=>
 (x3.at? 0).bind fun x4=>
 (dM l1 0 (x3.set 0 x2)).bind fun l6=>
 some ((⟨l6,[]⟩:Ac),(⟨(⟨[]⟩:Ah),0,1,1⟩:Aw))
theorem HM (k:Nat) (r:Ac×Aw) (h0:Ej k=some r):Ay Tryz.prog 11 [] (fun y=>y=.ar [.agg (Ac.c r.1),.agg (Aw.c r.2)]):=by
 refine PB Tryz.f11 G0.c [.cell 0 36,.cell 1 42] ?_
 simp only[Ej]at h0
 try simp only[G0.c,go_sem]
 have hz:=bs h0;clear h0;cases hz;rename_i l1 hz;cases hz;rename_i rn h0
 obtain⟨_,aeq⟩:=aeC rn
 have adF:List.replicate 602 (Aa.c (n:=2) (Aa.c (n:=32) af) (Aa.rep 2 ((Aa.rep 32 (0:Int)):(Aa 32 Int))))=List.map (Aa.c (n:=2) (Aa.c (n:=32) af)) l1:=aeB (Aa.c (n:=2) (Aa.c (n:=32) af)) rn
 have aeL:l1.length=602:=aeA rn
 have afk:List.take 602 (List.map (Aa.c (n:=2) (Aa.c (n:=32) af)) l1)=List.map (Aa.c (n:=2) (Aa.c (n:=32) af)) l1:=aeD (Aa.c (n:=2) (Aa.c (n:=32) af)) rn
 have F:=an adF (an aeL (an afk ((@id (Int.toNat 602=602) rfl))))
 try simp only[aey aeq,F,go_sem]
 refine AL AB aQ 1000 ?_
 try simp only[F,go_sem]
 refine cz h0 (FQ k _ _) ?_ (fun x2 h0=>?_)<;>try simp only[F,go_sem]
 have hz:=bs h0;clear h0;cases hz;rename_i x3 hz;cases hz;rename_i cY h0
 have yD:=aC cY
 simp only[F,go_sem]at yD
 have F:=an yD (an (aE (Aa.c (n:=2) (Aa.c (n:=32) af)) cY) F)
 try simp only[F,go_sem]
 have hz:=bs h0;clear h0;cases hz;rename_i x4 hz;cases hz;rename_i bS h0
 have iW:=Ap.bI gL (Ap.self fM x3) bS
 have jK:=iW.2
 try simp only[AA,Az,go_sem]at jK
 have F:=an (aw bS) (an jK F)
 try simp only[F,go_sem]
 have hz:=bs h0;clear h0;cases hz;rename_i l6 hz;cases hz;rename_i kg h0
 have q5:=iW.1.ow x2
 try simp only[AA,Az,go_sem]at q5
 have rJ:=lI (Aa.c (n:=2) (Aa.c (n:=32) af)) kg
 try simp only[go_sem]at rJ
 have aaH:=lJ (Aa.c (n:=2) (Aa.c (n:=32) af)) kg
 try simp only[F,go_sem]at aaH
 have F:=an rJ (an (kP kg) (an aaH F))
 try simp only[q5,F,go_sem]
 refine aK ?_
 try simp only[F,go_sem]
 obtain rfl:=oi h0
 refine Ag rfl ?_
 try simp only[F,go_sem]
def Hm.c:SC:=
 SQ [RG [wB 6 false 4 [6]],RG [wV 7 0 3,wV 8 1 3 [1],wO 9 .geq 3 7 8 3 4 [7,8],wV 10 9 4 [9],gd 10 true (wV 11 0 3 [0]),gd 10 true (wV 12 2 3 [2]),gd 10 true (wO 13 .leq 3 11 12 3 4 [11,12]),wZ 14 10 13 4 [10,13],wG 6 14 4 [14]],.ret]
def C8 (k:Nat) (n0:Int) (ab0:Int) (abP:Int):Option (Bool):=
 bif decide (ab0<=n0) then
  some (decide (n0<=abP))
 else
  some false
theorem D1 (k:Nat) (n0:Int) (ab0:Int) (abP:Int) (r:Bool) (h0:C8 k n0 ab0 abP=some r):Ay Tryz.prog 54 [.int .i64 n0,.int .i64 ab0,.int .i64 abP] (fun y=>y=.bool r):=by
 refine PB Tryz.f54 Hm.c [.tmp 6] ?_
 simp only[C8]at h0
 try simp only[Hm.c,go_sem]
 refine AR h0 ?_ ?_<;>intro c1 h0<;>have F:=c1<;>try simp only[F,go_sem]
 obtain rfl:=oi h0
 refine Ag rfl ?_
 try simp only[F,go_sem]
 obtain rfl:=oi h0
 refine Ag rfl ?_
 try simp only[F,go_sem]
def EJ.s0:SC:=
 SQ [SQ [RG [wV 12 6 3,wV 13 0 38,wL 14 13 38 3 [13],wO 15 .lss 3 12 14 3 4 [12,14],wV 16 15 4 [15],gd 16 true (wV 17 5 4),wZ 18 16 17 4 [16,17]],CN 18 .skip (.exit 0)],.block 1 (.aL [wV 21 0 38,wV 22 6 3,wI 23 38 21 22,wD 24 29 23,wV 25 1 38,wV 26 6 3,wI 27 38 25 26,wD 28 29 27,wO 29 .eql 29 24 28 29 4,wG 5 29 4] [[],[],[0,1],[0,1,2],[],[],[4,5],[4,5,6],[0,1,2,3,4,5,6,7],[0,1,2,3,4,5,6,7,
 8]] [21,22,23,24,25,26,27,28,29]),RG [wV 19 6 3 [6],wK 20 .add 3 19 1 3 3 [19],wG 6 20 3 [20]]]
def EJ.c:SC:=
 SQ [RG [wB 4 false 4 [4]],RG [wV 7 0 38,wL 8 7 38 3 [7],wV 9 1 38,wL 10 9 38 3 [9],wO 11 .eql 3 8 10 3 4 [8,10],wG 5 11 4 [11]],SQ [RG [wN 6 0 3],.block 0 (.loop EJ.s0)],RG [wV 30 5 4 [5],wG 4 30 4 [30]],.ret]
def B9.b0 (k:Nat) (a0:(List Ab)) (b1:(List Ab)):(Bool×Int)->Option (AT (Bool×Int) (Bool) (Bool)):=fun s=>match s with
 |(b2,i3)=>
   bif decide (i3<(a0.length:Int)) then
    bif b2 then
     (at? a0 i3).bind fun x7=>
     (at? b1 i3).bind fun x8=>
     some (.next ((decide (x7.At.Aq=x8.At.Aq)&&(decide (x7.At.No=x8.At.No)&&(decide (x7.Kind=x8.Kind)&&(decide (x7.Day=x8.Day)&&(decide (x7.Bn=x8.Bn)&&(decide (x7.Of.Aq=x8.Of.Aq)&&(decide (x7.Of.No=x8.Of.No)&&(x7.Text.toList==x8.Text.toList)))))))),ab (i3+1)))
    else
     some (.brk b2)
   else
    some (.brk b2)
def B9.h0 (a0:(List Ab)) (b1:(List Ab)):(Bool×Int)->St:=fun s=>match s with
 |(b2,i3)=>⟨[(0,.sl 8 (List.map Ab.c a0)),(1,.sl 8 (List.map Ab.c b1)),(5,.bool b2),(6,.int .i64 i3)],[],[],1,Tryz.f66.ntmps⟩
def B9.x0:Bool->St:=fun b4=>⟨[(5,.bool b4)],[],[],1,Tryz.f66.ntmps⟩
def B9 (k:Nat) (a0:(List Ab)) (b1:(List Ab)):Option (Bool):=
 (aj (B9.b0 k a0 b1) k (decide ((a0.length:Int)=(b1.length:Int)),0)).bind fun r9=>match r9 with
 |.next _=>none
 |.ret v_=>some v_
 |.brk b4=>
  some b4
theorem HQ (k:Nat) (a0:(List Ab)) (b1:(List Ab)) (r:Bool) (h0:B9 k a0 b1=some r):Ay Tryz.prog 66 [.sl 8 (List.map Ab.c a0),.sl 8 (List.map Ab.c b1)] (fun y=>y=.bool r):=by
 refine PB Tryz.f66 EJ.c [.tmp 4] ?_
 simp only[B9]at h0
 try simp only[EJ.c,go_sem]
 obtain⟨r9,vq,h0⟩:=bs h0
 refine Bf vq (B9.h0 a0 b1) (B9.x0) ?_ ?_ ?_
 refine Ai.go [0,1,5,6] [] rfl ?_
 try simp only[B9.h0,go_sem]
 rintro⟨b2,i3⟩ cP Bl Bm h1 aH aF bL
 refine rS ?_
 simp only[B9.b0]at h1
 try simp only[EJ.s0,B9.h0,go_sem]
 refine AR h1 ?_ ?_<;>intro c5 h1<;>have F:=c5<;>try simp only[F,go_sem]
 refine AF F h1 ?_ ?_<;>intro F h1<;>try simp only[F,go_sem]
 refine AL AB aQ 1000 ?_
 try simp only[F,go_sem]
 obtain⟨x7,eG,h1⟩:=bs h1
 have F:=an (aC eG) (an (aE Ab.c eG) F)
 try simp only[F,go_sem]
 obtain⟨x8,iZ,h1⟩:=bs h1
 have F:=an (aC iZ) (an (aE Ab.c iZ) F)
 try simp only[F,go_sem]
 refine aK ?_
 try simp only[F,go_sem]
 refine AD (aH _ _ (oi h1).symm (Ai.go [0,1,5,6] [] rfl ?_))
 try simp only[B9.h0,F,go_sem]
 refine AD (aF _ _ (oi h1).symm (Ai.go [5] [] rfl ?_))
 try simp only[B9.x0,F,go_sem]
 refine AD (aF _ _ (oi h1).symm (Ai.go [5] [] rfl ?_))
 try simp only[B9.x0,F,go_sem]
 rintro b4 aI
 subst aI
 simp only at h0
 refine rS ?_
 try simp only[B9.x0,go_sem]
 obtain rfl:=oi h0
 refine Ag rfl ?_
 try simp only[go_sem]
def EO.s0:SC:=
 SQ [SQ [RG [wV 14 3 3,wF 15 36 1 1,wD 16 34 15 [15],wL 17 16 34 3 [16],wO 18 .lss 3 14 17 3 4 [14,17]],CN 18 .skip (.exit 0)],.block 1 (SQ [RG [wF 21 36 1 1,wD 22 34 21 [21],wV 23 3 3,wI 24 34 22 23 [22,23],wF 25 116 24 0 [24],wD 26 3 25 [25],wC 27 54 #[.tmp 26,.const (.int .i64 0),.const (.int .i64 601)] #[3,3,3] 4 [26],wQ 28 27 4 [27]],CN 28 (SQ [RG [wB 2 false 4],.ret]) .skip]),
 RG [wV 19 3 3 [3],wK 20 .add 3 19 1 3 3 [19],wG 3 20 3 [20]]]
def EO.c:SC:=
 SQ [RG [wE 1 36 0 [0],wB 2 false 4 [2]],SQ [RG [wF 4 36 1 0,wD 5 33 4 [4],wL 6 5 33 3 [5],wK 7 .neq 3 6 602 3 4 [6],wV 8 7 4 [7],gd 8 false (wF 9 36 1 1),gd 8 false (wD 10 34 9 [9]),gd 8 false (wL 11 10 34 3 [10]),gd 8 false (wK 12 .gtr 3 11 1200 3 4 [11]),wT 13 8 12 4 [8,12]],CN 13 (SQ [RG [wB 2 false 4],.ret]) .skip],SQ [RG [wN 3 0 3],.block 0 (.loop EO.s0)],RG [wB 2 true 4],.ret]
def B7.b0 (k:Nat) (d0:Ac):Int->Option (AT (Int) (Unit) (Bool)):=fun i3=>
 bif decide (i3<(d0.Ad.length:Int)) then
  (at? d0.Ad i3).bind fun x5=>
  (C8 k x5.At 0 601).bind fun x6=>
  bif (!x6) then
   some (.ret false)
  else
   some (.next (ab (i3+1)))
 else
  some (.brk ())
def B7.h0 (d0:Ac):Int->St:=fun i3=>⟨[(1,.ptr 0 0 0),(3,.int .i64 i3)],[(0,.box ([.sl 64 (List.map (Aa.c (n:=2) (Aa.c (n:=32) af)) d0.Af),.sl 65 (List.map Ao.c d0.Ad)]))],[],1,Tryz.f80.ntmps⟩
def B7.x0:Unit->St:=fun _=>⟨[],[],[],1,Tryz.f80.ntmps⟩
def B7 (k:Nat) (d0:Ac):Option (Bool):=
 bif decide ((d0.Af.length:Int)=(602:Int)) then
  bif decide ((1200:Int)<(d0.Ad.length:Int)) then
   some false
  else
   (aj (B7.b0 k d0) k 0).bind fun r8=>match r8 with
   |.next _=>none
   |.ret v_=>some v_
   |.brk _=>
    some true
 else
  some false
theorem Fu (k:Nat) (d0:Ac) (r:Bool) (h0:B7 k d0=some r):Ay Tryz.prog 80 [.agg (Ac.c d0)] (fun y=>y=.bool r):=by
 refine PB Tryz.f80 EO.c [.tmp 2] ?_
 simp only[B7]at h0
 try simp only[EO.c,go_sem]
 refine AR h0 ?_ ?_<;>intro c1 h0<;>have F:=c1<;>try simp only[F,go_sem]
 refine AF F h0 ?_ ?_<;>intro F h0<;>try simp only[F,go_sem]
 obtain rfl:=oi h0
 refine Ag rfl ?_
 try simp only[F,go_sem]
 obtain⟨r8,rp,h0⟩:=bs h0
 refine Bf rp (B7.h0 d0) (B7.x0) ?_ ?_ ?_
 refine Ai.go [1,3] [0] rfl ?_
 try simp only[B7.h0,F,go_sem]
 rintro i3 cP Bl Bm h1 aH aF bL
 refine rS ?_
 simp only[B7.b0]at h1
 try simp only[EO.s0,B7.h0,F,go_sem]
 refine AF F h1 ?_ ?_<;>intro F h1<;>try simp only[F,go_sem]
 obtain⟨x5,cE,h1⟩:=bs h1
 have F:=an (aC cE) (an (aE Ao.c cE) F)
 try simp only[F,go_sem]
 refine au h1 (D1 k _ _ _) ?_ (fun x6 h1=>?_)<;>try simp only[F,go_sem]
 refine Bx F h1 ?_ ?_<;>intro F h1<;>try simp only[F,go_sem]
 obtain rfl:=bL _ (oi h1).symm
 simp only at h0
 obtain rfl:=oi h0
 refine Ag rfl ?_
 try simp only[F,go_sem]
 refine AD (aH _ _ (oi h1).symm (Ai.go [1,3] [0] rfl ?_))
 try simp only[B7.h0,F,go_sem]
 refine AD (aF _ _ (oi h1).symm (Ai.go [] [] rfl ?_))
 try simp only[B7.x0,F,go_sem]
 rintro _ aI
 subst aI
 simp only at h0
 refine rS ?_
 try simp only[B7.x0,F,go_sem]
 obtain rfl:=oi h0
 refine Ag rfl ?_
 try simp only[F,go_sem]
 obtain rfl:=oi h0
 refine Ag rfl ?_
 try simp only[F,go_sem]
def Df.s0:SC:=
 SQ [SQ [RG [wV 9 4 3,wF 10 36 1 1,wD 11 34 10 [10],wL 12 11 34 3 [11],wO 13 .lss 3 9 12 3 4 [9,12]],CN 13 .skip (.exit 0)],.block 1 (.aL [wV 16 3 33,wF 17 36 1 1,wD 18 34 17,wV 19 4 3,wI 20 34 18 19,wF 21 116 20 0,wD 22 3 21,wF 23 36 1 1,wD 24 34 23,wV 25 4 3,wI 26 34 24 25,wF 27 116 26 1,wD 28 113 27,wI 29 33 16 22,wS 113 29 28] [[],[],[1],[],[1,2,3],[1,2,3,4],[1,2,3,4,5],[],[7],[],[7,8,9],[7,
 8,9,10],[7,8,9,10,11],[0,1,2,3,4,5,6,7,8,9,10,11,12],[0,1,2,3,4,5,6,7,8,9,10,11,12,13]] [16,17,18,19,20,21,22,23,24,25,26,27,28,29]),RG [wV 14 4 3 [4],wK 15 .add 3 14 1 3 3 [14],wG 4 15 3 [15]]]
def Df.c:SC:=
 SQ [RG [wE 1 36 0 [0],oQ 2 (.assign (.const (.slice none 0 0))) 33 [2]],RG [oQ 5 (.buildSlice 33 0 #[]) 33,wF 6 36 1 0,wD 7 33 6 [6],wP 8 5 7 33 33 33 [5,7],wG 3 8 33 [8]],SQ [RG [wN 4 0 3],.block 0 (.loop Df.s0)],RG [wV 30 3 33 [3],wG 2 30 33 [30]],.ret]
theorem Df.rs:Tryz.f81.results.toList=[.tmp 2]:=rfl
def Cq.b0 (k:Nat) (d0:Ac):(Int×(List (Aa 2 (Aa 32 Int))))->Option (AT (Int×(List (Aa 2 (Aa 32 Int)))) ((List (Aa 2 (Aa 32 Int)))) ((List (Aa 2 (Aa 32 Int))))):=fun s=>match s with
 |(i2,l3)=>
   bif decide (i2<(d0.Ad.length:Int)) then
    (at? d0.Ad i2).bind fun x6=>
    (at? l3 x6.At).bind fun x7=>
    (dM l3 x6.At x6.AH).bind fun l8=>
    some (.next (ab (i2+1),l8))
   else
    some (.brk l3)
def Cq.h0 (d0:Ac):(Int×(List (Aa 2 (Aa 32 Int))))->St:=fun s=>match s with
 |(i2,l3)=>⟨[(1,.ptr 0 0 0),(3,.loc 0 1 64 0 l3.length l3.length),(4,.int .i64 i2)],[(0,.box ([.sl 64 (List.map (Aa.c (n:=2) (Aa.c (n:=32) af)) d0.Af),.sl 65 (List.map Ao.c d0.Ad)])),(1,.arr 113 64 (List.map (Aa.c (n:=2) (Aa.c (n:=32) af)) l3))],[],2,Tryz.f81.ntmps⟩
def Cq.x0:(List (Aa 2 (Aa 32 Int)))->St:=fun l4=>⟨[(3,.loc 0 0 64 0 l4.length l4.length)],[(0,.arr 113 64 (List.map (Aa.c (n:=2) (Aa.c (n:=32) af)) l4))],[],1,Tryz.f81.ntmps⟩
def Cq (k:Nat) (d0:Ac):Option ((List (Aa 2 (Aa 32 Int)))):=
 (fo d0.Af.length 64).bind fun _=>
 (aj (Cq.b0 k d0) k (0,d0.Af)).bind fun r9=>match r9 with
 |.next _=>none
 |.ret v_=>some v_
 |.brk l4=>
  some l4
theorem FU (k:Nat) (d0:Ac) (r:(List (Aa 2 (Aa 32 Int)))) (h0:Cq k d0=some r):Ay Tryz.prog 81 [.agg (Ac.c d0)] (fun y=>y=.sl 64 (List.map (Aa.c (n:=2) (Aa.c (n:=32) af)) r)):=by
 refine PB Tryz.f81 Df.c [.tmp 2] ?_
 simp only[Cq]at h0
 try simp only[Df.c,go_sem]
 obtain⟨u1,iX,h0⟩:=bs h0
 try simp only[lH iX,go_sem]
 obtain⟨r9,vq,h0⟩:=bs h0
 refine Bf vq (Cq.h0 d0) (Cq.x0) ?_ ?_ ?_
 refine Ai.go [1,3,4] [0,32] rfl ?_
 try simp only[Cq.h0,go_sem]
 rintro⟨i2,l3⟩ cP Bl Bm h1 aH aF bL
 refine rS ?_
 simp only[Cq.b0]at h1
 try simp only[Df.s0,Cq.h0,go_sem]
 refine AR h1 ?_ ?_<;>intro c5 h1<;>have F:=c5<;>try simp only[F,go_sem]
 refine AL AB aQ 1000 ?_
 try simp only[F,go_sem]
 obtain⟨x6,ee,h1⟩:=bs h1
 have F:=an (aC ee) (an (aE Ao.c ee) F)
 try simp only[F,go_sem]
 obtain⟨x7,eG,h1⟩:=bs h1
 have F:=an (aC eG) (an (aE (Aa.c (n:=2) (Aa.c (n:=32) af)) eG) F)
 try simp only[F,go_sem]
 obtain⟨l8,kW,h1⟩:=bs h1
 have nu:=lI (Aa.c (n:=2) (Aa.c (n:=32) af)) kW
 try simp only[go_sem]at nu
 have F:=an nu (an (kP kW) (an (lJ (Aa.c (n:=2) (Aa.c (n:=32) af)) kW) F))
 try simp only[F,go_sem]
 refine aK ?_
 try simp only[F,go_sem]
 refine AD (aH _ _ (oi h1).symm (Ai.go [1,3,4] [0,1] rfl ?_))
 try simp only[Cq.h0,F,go_sem]
 refine AD (aF _ _ (oi h1).symm (Ai.go [3] [1] rfl ?_))
 try simp only[Cq.x0,F,go_sem]
 rintro l4 aI
 subst aI
 simp only at h0
 refine rS ?_
 try simp only[Cq.x0,go_sem]
 obtain rfl:=oi h0
 refine Ag rfl ?_
 try simp only[go_sem]
def Cy.b0 (k:Nat) (d0:Ac):(Int×(List (Aa 2 (Aa 32 Int))))->Option (AT (Int×(List (Aa 2 (Aa 32 Int)))) ((List (Aa 2 (Aa 32 Int)))) ((List (Aa 2 (Aa 32 Int))))):=fun s=>match s with
 |(i2,l3)=>
   bif decide (i2<(d0.Ad.length:Int)) then
    (at? d0.Ad i2).bind fun x6=>
    (at? l3 x6.At).bind fun x7=>
    (dM l3 x6.At x6.AH).bind fun l8=>
    some (.next (ab (i2+1),l8))
   else
    some (.brk l3)
def Cy.h0 (H:Heap) (d0:Ac):(Int×(List (Aa 2 (Aa 32 Int))))->St:=fun s=>match s with
 |(i2,l3)=>⟨[(1,.ptr 0 0 0),(3,.loc 0 1 64 0 l3.length l3.length),(4,.int .i64 i2)],[(0,.box ([.sl 64 (List.map (Aa.c (n:=2) (Aa.c (n:=32) af)) d0.Af),.sl 65 (List.map Ao.c d0.Ad)])),(1,.arr 113 64 (List.map (Aa.c (n:=2) (Aa.c (n:=32) af)) l3))],H,2,Tryz.f81.ntmps⟩
def Cy.x0 (H:Heap):(List (Aa 2 (Aa 32 Int)))->St:=fun l4=>⟨[(3,.loc 0 0 64 0 l4.length l4.length)],[(0,.arr 113 64 (List.map (Aa.c (n:=2) (Aa.c (n:=32) af)) l4))],H,1,Tryz.f81.ntmps⟩
def Cy (k:Nat) (d0:Ac):Option ((List (Aa 2 (Aa 32 Int)))):=
 (fo d0.Af.length 64).bind fun _=>
 (aj (Cy.b0 k d0) k (0,d0.Af)).bind fun r9=>match r9 with
 |.next _=>none
 |.ret v_=>some v_
 |.brk l4=>
  some l4
theorem I3 (k:Nat) (d0:Ac) (r:(List (Aa 2 (Aa 32 Int)))) (h0:Cy k d0=some r):A6 Tryz.prog 81 [.agg (Ac.c d0)] [] (fun y fr=>y=.loc 0 0 64 0 r.length r.length/\fr=[(0,.arr 113 64 (List.map (Aa.c (n:=2) (Aa.c (n:=32) af)) r))]):=by
 have hr:=A6.own (et:=113) (sz:=64) (ls:=List.map (Aa.c (n:=2) (Aa.c (n:=32) af)) r) (A6.gr AB (f:=81) (fn:=Tryz.f81) (sc:=Df.c) (args:=[.agg (Ac.c d0)]) (fr0:=[]) (by rfl) (by rfl) (by decide +kernel) (by rfl) (by decide +kernel) (Nat.le_of_ble_eq_true rfl) (fun H=>?_))
 simpa only [Bh] using hr
 refine rS ?_
 simp only[Cy]at h0
 try simp only[Df.c,go_sem]
 obtain⟨u1,iX,h0⟩:=bs h0
 try simp only[lH iX,go_sem]
 obtain⟨r9,vq,h0⟩:=bs h0
 refine Bf vq (Cy.h0 H d0) (Cy.x0 H) ?_ ?_ ?_
 refine Ai.go [1,3,4] [16,48] rfl ?_
 try simp only[Cy.h0,go_sem]
 rintro⟨i2,l3⟩ cP Bl Bm h1 aH aF bL
 refine rS ?_
 simp only[Cy.b0]at h1
 try simp only[Df.s0,Cy.h0,go_sem]
 refine AR h1 ?_ ?_<;>intro c5 h1<;>have F:=c5<;>try simp only[F,go_sem]
 refine AL AB aQ 1000 ?_
 try simp only[F,go_sem]
 obtain⟨x6,ee,h1⟩:=bs h1
 have F:=an (aC ee) (an (aE Ao.c ee) F)
 try simp only[F,go_sem]
 obtain⟨x7,eG,h1⟩:=bs h1
 have F:=an (aC eG) (an (aE (Aa.c (n:=2) (Aa.c (n:=32) af)) eG) F)
 try simp only[F,go_sem]
 obtain⟨l8,kW,h1⟩:=bs h1
 have nu:=lI (Aa.c (n:=2) (Aa.c (n:=32) af)) kW
 try simp only[go_sem]at nu
 have F:=an nu (an (kP kW) (an (lJ (Aa.c (n:=2) (Aa.c (n:=32) af)) kW) F))
 try simp only[F,go_sem]
 refine aK ?_
 try simp only[F,go_sem]
 refine AD (aH _ _ (oi h1).symm (Ai.go [1,3,4] [0,1] rfl ?_))
 try simp only[Cy.h0,F,go_sem]
 refine AD (aF _ _ (oi h1).symm (Ai.go [3] [1] rfl ?_))
 try simp only[Cy.x0,F,go_sem]
 rintro l4 aI
 subst aI
 simp only at h0
 refine rS ?_
 try simp only[Cy.x0,go_sem]
 obtain rfl:=oi h0
 refine Da rfl ?_
 try simp only[Df.rs,m8,A0,b9,tM,vP,Be,CO,go_sem]
def D7.c:SC:=
 SQ [RG [oQ 2 (.assign (.const (.slice none 0 0))) 38 [2]],RG [oQ 3 (.buildSlice 38 0 #[]) 38,wV 4 0 38 [0],wP 5 3 4 38 38 38 [3,4],wG 2 5 38 [5]],.ret]
theorem D7.rs:Tryz.f46.results.toList=[.tmp 2]:=rfl
def Fa (k:Nat) (l0:(List Ab)):Option ((List Ab)):=
 (fo l0.length 72).bind fun _=>
 some l0
theorem IZ (k:Nat) (l0:(List Ab)) (r:(List Ab)) (h0:Fa k l0=some r):Ay Tryz.prog 46 [.sl 8 (List.map Ab.c l0)] (fun y=>y=.sl 8 (List.map Ab.c r)):=by
 refine PB Tryz.f46 D7.c [.tmp 2] ?_
 simp only[Fa]at h0
 try simp only[D7.c,go_sem]
 obtain⟨u1,iX,h0⟩:=bs h0
 try simp only[lH iX,go_sem]
 obtain rfl:=oi h0
 refine Ag rfl ?_
 try simp only[go_sem]
def Ek (k:Nat) (l0:(List Ab)):Option ((List Ab)):=
 (fo l0.length 72).bind fun _=>
 some l0
theorem HU (k:Nat) (l0:(List Ab)) (r:(List Ab)) (h0:Ek k l0=some r):A6 Tryz.prog 46 [.sl 8 (List.map Ab.c l0)] [] (fun y fr=>y=.loc 0 0 8 0 r.length r.length/\fr=[(0,.arr 29 8 (List.map Ab.c r))]):=by
 have hr:=A6.own (et:=29) (sz:=8) (ls:=List.map Ab.c r) (A6.gr AB (f:=46) (fn:=Tryz.f46) (sc:=D7.c) (args:=[.sl 8 (List.map Ab.c l0)]) (fr0:=[]) (by rfl) (by rfl) (by decide +kernel) (by rfl) (by decide +kernel) (Nat.le_of_ble_eq_true rfl) (fun H=>?_))
 simpa only [Bh] using hr
 refine rS ?_
 simp only[Ek]at h0
 try simp only[D7.c,go_sem]
 obtain⟨u1,iX,h0⟩:=bs h0
 try simp only[lH iX,go_sem]
 obtain rfl:=oi h0
 refine Da rfl ?_
 try simp only[D7.rs,m8,A0,b9,tM,vP,Be,CO,go_sem]
def EH.s0:SC:=
 SQ [SQ [RG [wV 5 4 3,wV 6 0 38,wL 7 6 38 3 [6],wO 8 .lss 3 5 7 3 4 [5,7]],CN 8 .skip (.exit 0)],.block 1 (RG [wV 11 0 38,wV 12 4 3,wI 13 38 11 12 [11,12],wF 14 29 13 0 [13],wF 15 27 14 0 [14],wD 16 3 15 [15],wI 17 55 3 16,wD 18 3 17 [17],wK 19 .add 3 18 1 3 3 [18],wI 20 55 3 16 [16],wS 3 20 19 [19,20]]),RG [wV 9 4 3 [4],wK 10 .add 3 9 1 3 3 [9],wG 4 10 3 [10]]]
def EH.c:SC:=
 SQ [RG [wA 2 55],RG [wA 3 55],SQ [RG [wN 4 0 3],.block 0 (.loop EH.s0)],RG [wD 21 55 3 [3],wS 55 2 21 [21]],.ret]
def Cm.b0 (k:Nat) (l0:(List Ab)):((Aa 6 Int)×Int)->Option (AT ((Aa 6 Int)×Int) ((Aa 6 Int)) ((Aa 6 Int))):=fun s=>match s with
 |(s1,i2)=>
   bif decide (i2<(l0.length:Int)) then
    (at? l0 i2).bind fun x5=>
    (s1.at? x5.At.Aq).bind fun x6=>
    some (.next (s1.set x5.At.Aq (ab (x6+1)),ab (i2+1)))
   else
    some (.brk s1)
def Cm.h0 (l0:(List Ab)):((Aa 6 Int)×Int)->St:=fun s=>match s with
 |(s1,i2)=>⟨[(0,.sl 8 (List.map Ab.c l0)),(2,.ptr 0 0 0),(3,.ptr 0 1 0),(4,.int .i64 i2)],[(0,.box (Aa.c (n:=6) eI (Aa.rep 6 (0:Int)))),(1,.box (Aa.c (n:=6) eI s1))],[],2,Tryz.f58.ntmps⟩
def Cm.x0:(Aa 6 Int)->St:=fun s3=>⟨[(2,.ptr 0 0 0),(3,.ptr 0 1 0)],[(0,.box (Aa.c (n:=6) eI (Aa.rep 6 (0:Int)))),(1,.box (Aa.c (n:=6) eI s3))],[],2,Tryz.f58.ntmps⟩
def Cm (k:Nat) (l0:(List Ab)):Option ((Aa 6 Int)):=
 (aj (Cm.b0 k l0) k ((Aa.rep 6 (0:Int)),0)).bind fun r8=>match r8 with
 |.next _=>none
 |.ret v_=>some v_
 |.brk s3=>
  some s3
theorem HW (k:Nat) (l0:(List Ab)) (r:(Aa 6 Int)) (h0:Cm k l0=some r):Ay Tryz.prog 58 [.sl 8 (List.map Ab.c l0)] (fun y=>y=.agg ((Aa.c (n:=6) eI) r)):=by
 refine PB Tryz.f58 EH.c [.cell 2 55] ?_
 simp only[Cm]at h0
 try simp only[EH.c,go_sem]
 obtain⟨r8,rp,h0⟩:=bs h0
 refine Bf rp (Cm.h0 l0) (Cm.x0) ?_ ?_ ?_
 refine Ai.go [0,2,3,4] [0,16] rfl ?_
 try simp only[Cm.h0,go_sem]
 rintro⟨s1,i2⟩ cP Bl Bm h1 aH aF bL
 refine rS ?_
 simp only[Cm.b0]at h1
 try simp only[EH.s0,Cm.h0,go_sem]
 refine AR h1 ?_ ?_<;>intro c4 h1<;>have F:=c4<;>try simp only[F,go_sem]
 obtain⟨x5,cE,h1⟩:=bs h1
 have F:=an (aC cE) (an (aE Ab.c cE) F)
 try simp only[F,go_sem]
 obtain⟨x6,ee,h1⟩:=bs h1
 have rj:=Ap.bI mE (Ap.self akR s1) ee
 have nZ:=rj.2
 try simp only[AA,Az,go_sem]at nZ
 have q7:=rj.1.ow (ab (x6+1))
 try simp only[AA,Az,go_sem]at q7
 have F:=an (aw ee) (an nZ F)
 try simp only[q7,F,go_sem]
 refine AD (aH _ _ (oi h1).symm (Ai.go [0,2,3,4] [0,1] rfl ?_))
 try simp only[Cm.h0,F,go_sem]
 refine AD (aF _ _ (oi h1).symm (Ai.go [2,3] [0,1] rfl ?_))
 try simp only[Cm.x0,F,go_sem]
 rintro s3 aI
 subst aI
 simp only at h0
 refine rS ?_
 try simp only[Cm.x0,go_sem]
 obtain rfl:=oi h0
 refine Ag rfl ?_
 try simp only[go_sem]
def Et.s0:SC:=
 SQ [SQ [RG [wV 6 5 3,wV 7 0 38,wL 8 7 38 3 [7],wO 9 .lss 3 6 8 3 4 [6,8]],CN 9 .skip (.exit 0)],.block 1 (SQ [.aL [wV 12 0 38,wV 13 5 3,wI 14 38 12 13,wF 15 29 14 0,wD 16 27 15,wD 17 27 3,wO 18 .eql 27 16 17 27 4] [[],[],[0,1],[0,1,2],[0,1,2,3],[],[0,1,2,3,4,5]] [12,13,14,15,16,17],CN 18 (SQ [RG [wV 19 5 3 [5],wG 4 19 3 [19]],.ret]) .skip]),RG [wV 10 5 3 [5],wK 11 .add 3 10 1 3 3 [10],
 wG 5 11 3 [11]]]
def Et.c:SC:=
 SQ [RG [wE 3 27 1 [1],wN 4 0 3 [4]],SQ [RG [wN 5 0 3],.block 0 (.loop Et.s0)],RG [wN 4 (-1) 3],.ret]
def BU.b0 (k:Nat) (l0:(List Ab)) (jM:Entry):Int->Option (AT (Int) (Unit) (Int)):=fun i1=>
 bif decide (i1<(l0.length:Int)) then
  (at? l0 i1).bind fun x3=>
  bif (decide (x3.At.Aq=jM.Aq)&&decide (x3.At.No=jM.No)) then
   some (.ret i1)
  else
   some (.next (ab (i1+1)))
 else
  some (.brk ())
def BU.h0 (l0:(List Ab)) (jM:Entry):Int->St:=fun i1=>⟨[(0,.sl 8 (List.map Ab.c l0)),(3,.ptr 0 0 0),(5,.int .i64 i1)],[(0,.box ([.int .i64 jM.Aq,.int .i64 jM.No]))],[],1,Tryz.f109.ntmps⟩
def BU.x0:Unit->St:=fun _=>⟨[],[],[],1,Tryz.f109.ntmps⟩
def BU (k:Nat) (l0:(List Ab)) (jM:Entry):Option (Int):=
 (aj (BU.b0 k l0 jM) k 0).bind fun r5=>match r5 with
 |.next _=>none
 |.ret v_=>some v_
 |.brk _=>
  some (-1)
theorem HV (k:Nat) (l0:(List Ab)) (jM:Entry) (r:Int) (h0:BU k l0 jM=some r):Ay Tryz.prog 109 [.sl 8 (List.map Ab.c l0),.agg (Entry.c jM)] (fun y=>y=.int .i64 r):=by
 refine PB Tryz.f109 Et.c [.tmp 4] ?_
 simp only[BU]at h0
 try simp only[Et.c,go_sem]
 obtain⟨r5,yr5,h0⟩:=bs h0
 refine Bf yr5 (BU.h0 l0 jM) (BU.x0) ?_ ?_ ?_
 refine Ai.go [0,3,5] [0] rfl ?_
 try simp only[BU.h0,go_sem]
 rintro i1 cP Bl Bm h1 aH aF bL
 refine rS ?_
 simp only[BU.b0]at h1
 try simp only[Et.s0,BU.h0,go_sem]
 refine AR h1 ?_ ?_<;>intro c2 h1<;>have F:=c2<;>try simp only[F,go_sem]
 refine AL AB aQ 1000 ?_
 try simp only[F,go_sem]
 obtain⟨x3,cY,h1⟩:=bs h1
 have F:=an (aC cY) (an (aE Ab.c cY) F)
 try simp only[F,go_sem]
 refine aK ?_
 try simp only[F,go_sem]
 refine AF F h1 ?_ ?_<;>intro F h1<;>try simp only[F,go_sem]
 obtain rfl:=bL _ (oi h1).symm
 simp only at h0
 obtain rfl:=oi h0
 refine Ag rfl ?_
 try simp only[F,go_sem]
 refine AD (aH _ _ (oi h1).symm (Ai.go [0,3,5] [0] rfl ?_))
 try simp only[BU.h0,F,go_sem]
 refine AD (aF _ _ (oi h1).symm (Ai.go [] [] rfl ?_))
 try simp only[BU.x0,F,go_sem]
 rintro _ aI
 subst aI
 simp only at h0
 refine rS ?_
 try simp only[BU.x0,go_sem]
 obtain rfl:=oi h0
 refine Ag rfl ?_
 try simp only[go_sem]
def G1.c:SC:=
 SQ [RG [wE 2 27 0 [0],wE 3 27 1 [1],wB 4 false 4 [4]],RG [wF 5 27 2 0,wD 6 3 5 [5],wF 7 27 3 0,wD 8 3 7 [7],wO 9 .lss 3 6 8 3 4 [6,8],wV 10 9 4 [9],gd 10 false (wF 11 27 2 0),gd 10 false (wD 12 3 11 [11]),gd 10 false (wF 13 27 3 0),gd 10 false (wD 14 3 13 [13]),gd 10 false (wO 15 .eql 3 12 14 3 4 [12,14]),gd 10 false (wV 16 15 4 [15]),gd 16 true (wF 17 27 2 1 [2]),gd 16 true (wD 18 3 17 [17]),
 gd 16 true (wF 19 27 3 1 [3]),gd 16 true (wD 20 3 19 [19]),gd 16 true (wO 21 .lss 3 18 20 3 4 [18,20]),gd 10 false (wZ 22 16 21 4 [16,21]),wT 23 10 22 4 [10,22],wG 4 23 4 [23]],.ret]
def E8 (k:Nat) (a0:Entry) (b1:Entry):Option (Bool):=
 bif (!decide (a0.Aq<b1.Aq)) then
  bif decide (a0.Aq=b1.Aq) then
   some (decide (a0.No<b1.No))
  else
   some false
 else
  some true
theorem IX (k:Nat) (a0:Entry) (b1:Entry) (r:Bool) (h0:E8 k a0 b1=some r):Ay Tryz.prog 110 [.agg (Entry.c a0),.agg (Entry.c b1)] (fun y=>y=.bool r):=by
 refine PB Tryz.f110 G1.c [.tmp 4] ?_
 simp only[E8]at h0
 try simp only[G1.c,go_sem]
 refine Cr h0 ?_ ?_<;>intro c1 h0<;>have F:=c1<;>try simp only[F,go_sem]
 refine AF F h0 ?_ ?_<;>intro F h0<;>try simp only[F,go_sem]
 obtain rfl:=oi h0
 refine Ag rfl ?_
 try simp only[F,go_sem]
 obtain rfl:=oi h0
 refine Ag rfl ?_
 try simp only[F,go_sem]
 obtain rfl:=oi h0
 refine Ag rfl ?_
 try simp only[F,go_sem]
def ES.s0:SC:=
 SQ [SQ [.aL [wV 39 7 3,wV 40 0 38,wL 41 40 38 3,wO 42 .lss 3 39 41 3 4,wV 43 42 4,gd 43 true (wV 44 0 38),gd 43 true (wV 45 7 3),gd 43 true (wI 46 38 44 45),gd 43 true (wF 47 29 46 0),gd 43 true (wD 48 27 47),gd 43 true (wF 49 29 3 0),gd 43 true (wD 50 27 49),gd 43 true (wW 51 110 48 50 27 27 4),wZ 52 43 51 4] [[],[],[1],[0,1,2],[0,1,2,3],[0,1,2,3,4],[0,1,2,3,4],[0,1,2,3,4,5,6],[0,1,2,3,4,5,6,
 7],[0,1,2,3,4,5,6,7,8],[0,1,2,3,4],[0,1,2,3,4,10],[0,1,2,3,4,5,6,7,8,9,10,11],[0,1,2,3,4,5,6,7,8,9,10,11,12]] [39,40,41,42,43,44,45,46,47,48,49,50,51],CN 52 .skip (.exit 0)],.block 1 (RG [wV 53 7 3 [7],wK 54 .add 3 53 1 3 3 [53],wG 7 54 3 [54]])]
def ES.c:SC:=
 SQ [RG [wE 3 29 1 [1],oQ 4 (.assign (.const (.slice none 0 0))) 38 [4],wN 5 0 45 [5]],RG [wV 8 0 38,wF 9 29 3 0,wD 10 27 9 [9],wW 11 109 8 10 38 27 3 [8,10],wG 6 11 3 [11]],SQ [.aL [wV 12 6 3,wK 13 .geq 3 12 0 3 4,wV 14 13 4,gd 14 true (wV 15 0 38),gd 14 true (wV 16 6 3),gd 14 true (wI 17 38 15 16),gd 14 true (wD 18 29 17),gd 14 true (wD 19 29 3),gd 14 true (wO 20 .eql 29 18 19 29 4),
 wZ 21 14 20 4] [[],[0],[0,1],[0,1,2],[0,1,2],[0,1,2,3,4],[0,1,2,3,4,5],[0,1,2],[0,1,2,3,4,5,6,7],[0,1,2,3,4,5,6,7,8]] [12,13,14,15,16,17,18,19,20],CN 21 (SQ [RG [wV 22 0 38 [0],wU 23 46 22 38 38 [22],wG 4 23 38 [23],wN 5 0 45],.ret]) .skip],SQ [RG [wV 24 6 3 [6],wK 25 .geq 3 24 0 3 4 [24]],CN 25 (SQ [RG [oQ 4 (.assign (.const (.slice none 0 0))) 38,wN 5 92 45],.ret]) .skip],
 SQ [.aL [wF 26 29 3 0,wF 27 27 26 1,wD 28 3 27,wV 29 0 38,wU 30 58 29 38 55,wF 31 29 3 0,wF 32 27 31 0,wD 33 3 32,oQ 34 (.index 55 (.tmp 30) (.tmp 33)) 3,wO 35 .gtr 3 28 34 3 4] [[],[0],[0,1],[],[3],[],[5],[5,6],[3,4,5,6,7],[0,1,2,3,4,5,6,7,8]] [26,27,28,29,30,31,32,33,34],CN 35 (SQ [RG [oQ 4 (.assign (.const (.slice none 0 0))) 38,wN 5 93 45],.ret]) .skip],SQ [RG [wV 36 0 38,wL 37 36 38 3 [36],
 wK 38 .eql 3 37 60 3 4 [37]],CN 38 (SQ [RG [oQ 4 (.assign (.const (.slice none 0 0))) 38,wN 5 2 45],.ret]) .skip],RG [wN 7 0 3],.block 0 (.loop ES.s0),.aL [wV 55 0 38,wV 56 7 3,oQ 57 (.slice 38 (.tmp 55) none (some (.tmp 56)) none) 38,wU 58 46 57 38 38,wD 59 29 3,oQ 60 (.buildSlice 38 1 #[(0,.tmp 59)]) 38,wP 61 58 60 38 38 38,wV 62 0 38,wV 63 7 3,
 oQ 64 (.slice 38 (.tmp 62) (some (.tmp 63)) none none) 38,wP 65 61 64 38 38 38,wG 4 65 38,wN 5 0 45] [[],[],[0,1],[0,1,2],[],[4],[0,1,2,3,4,5],[],[],[7,8],[0,1,2,3,4,5,6,7,8,9],[0,1,2,3,4,5,6,7,8,9,10],[0,1,2,3,4,5,6,7,8,9,10,11]] [0,3,7,55,56,57,58,59,60,61,62,63,64,65],.ret]
def Ca.b0 (k:Nat) (l0:(List Ab)) (r1:Ab):Int->Option (AT (Int) (Int) ((List Ab)×Int)):=fun i11=>
 bif decide (i11<(l0.length:Int)) then
  (at? l0 i11).bind fun bJ=>
  (E8 k bJ.At r1.At).bind fun cU=>
  bif cU then
   some (.next (ab (i11+1)))
  else
   some (.brk i11)
 else
  some (.brk i11)
def Ca.h0 (l0:(List Ab)) (r1:Ab):Int->St:=fun i11=>⟨[(0,.sl 8 (List.map Ab.c l0)),(3,.ptr 0 0 0),(7,.int .i64 i11)],[(0,.box ([.int .i64 r1.At.Aq,.int .i64 r1.At.No,.int .i64 r1.Kind,.int .i64 r1.Day,.int .i64 r1.Bn,.int .i64 r1.Of.Aq,.int .i64 r1.Of.No,.str r1.Text]))],[],1,Tryz.f91.ntmps⟩
def Ca.x0 (l0:(List Ab)) (r1:Ab):Int->St:=fun i12=>⟨[(0,.sl 8 (List.map Ab.c l0)),(3,.ptr 0 0 0),(7,.int .i64 i12)],[(0,.box ([.int .i64 r1.At.Aq,.int .i64 r1.At.No,.int .i64 r1.Kind,.int .i64 r1.Day,.int .i64 r1.Bn,.int .i64 r1.Of.Aq,.int .i64 r1.Of.No,.str r1.Text]))],[],1,Tryz.f91.ntmps⟩
def Ca (k:Nat) (l0:(List Ab)) (r1:Ab):Option ((List Ab)×Int):=
 (BU k l0 r1.At).bind fun x1=>
 bif decide ((0:Int)<=x1) then
  (at? l0 x1).bind fun x3=>
  bif (decide (x3.At.Aq=r1.At.Aq)&&(decide (x3.At.No=r1.At.No)&&(decide (x3.Kind=r1.Kind)&&(decide (x3.Day=r1.Day)&&(decide (x3.Bn=r1.Bn)&&(decide (x3.Of.Aq=r1.Of.Aq)&&(decide (x3.Of.No=r1.Of.No)&&(x3.Text.toList==r1.Text.toList)))))))) then
   (Ek k l0).bind fun x6=>
   some (x6,0)
  else
   some ([],92)
 else
  (Cm k l0).bind fun x7=>
  (x7.at? r1.At.Aq).bind fun x8=>
  bif decide (x8<r1.At.No) then
   some ([],93)
  else
   bif decide ((l0.length:Int)=(60:Int)) then
    some ([],2)
   else
    (aj (Ca.b0 k l0 r1) k 0).bind fun r17=>match r17 with
    |.next _=>none
    |.ret v_=>some v_
    |.brk i12=>
     (cg l0 0 i12).bind fun qK=>
     (Ek k qK).bind fun eW=>
     (fJ 72 eW r1).bind fun l21=>
     (cg l0 i12 l0.length).bind fun l22=>
     (dN 72 l21 l22).bind fun sD=>
     some (sD,0)
theorem FR (k:Nat) (l0:(List Ab)) (r1:Ab) (r:(List Ab)×Int) (h0:Ca k l0 r1=some r):Ay Tryz.prog 91 [.sl 8 (List.map Ab.c l0),.agg (Ab.c r1)] (fun y=>y=.ar [.sl 8 (List.map Ab.c r.1),.int .i64 r.2]):=by
 refine PB Tryz.f91 ES.c [.tmp 4,.tmp 5] ?_
 simp only[Ca]at h0
 try simp only[ES.c,go_sem]
 refine au h0 (HV k _ _) ?_ (fun x1 h0=>?_)<;>try simp only[go_sem]
 refine AL AB aQ 1000 ?_
 try simp only[go_sem]
 refine FF h0 ?_ ?_<;>intro c2 h0<;>have F:=c2<;>try simp only[F,go_sem]
 obtain⟨x3,cY,h0⟩:=bs h0
 have F:=an (aC cY) (an (aE Ab.c cY) F)
 try simp only[F,go_sem]
 refine aK ?_
 try simp only[F,go_sem]
 refine AF F h0 ?_ ?_<;>intro F h0<;>try simp only[F,go_sem]
 obtain⟨x6,ee,h0⟩:=bs h0
 refine CJ AB 1000 [] [] (HU k _ _ ee) ?_ rfl ?_
 try simp only[fS,Bh,F,go_sem]
 try simp only[F,go_sem]
 obtain rfl:=oi h0
 refine Ag rfl ?_
 try simp only[F,go_sem]
 obtain rfl:=oi h0
 refine Ag rfl ?_
 try simp only[F,go_sem]
 refine aK ?_
 try simp only[F,go_sem]
 refine AL AB aQ 1000 ?_
 try simp only[F,go_sem]
 refine cz h0 (HW k _) ?_ (fun x7 h0=>?_)<;>try simp only[F,go_sem]
 obtain⟨x8,iZ,h0⟩:=bs h0
 have acG:=(Ap.afg mE iZ).2
 try simp only[go_sem]at acG
 have F:=an (aw iZ) (an acG F)
 try simp only[F,go_sem]
 refine aK ?_
 try simp only[F,go_sem]
 refine AF F h0 ?_ ?_<;>intro F h0<;>try simp only[F,go_sem]
 obtain rfl:=oi h0
 refine Ag rfl ?_
 try simp only[F,go_sem]
 refine AF F h0 ?_ ?_<;>intro F h0<;>try simp only[F,go_sem]
 obtain rfl:=oi h0
 refine Ag rfl ?_
 try simp only[F,go_sem]
 obtain⟨r17,afy,h0⟩:=bs h0
 refine Bf afy (Ca.h0 l0 r1) (Ca.x0 l0 r1) ?_ ?_ ?_
 refine Ai.go [0,3,7] [0] rfl ?_
 try simp only[Ca.h0,F,go_sem]
 rintro i11 cP Bl Bm h1 aH aF bL
 refine rS ?_
 simp only[Ca.b0]at h1
 try simp only[ES.s0,Ca.h0,F,go_sem]
 refine AL AB aQ 1000 ?_
 try simp only[F,go_sem]
 refine DF F h1 ?_ ?_<;>intro F h1<;>try simp only[F,go_sem]
 obtain⟨bJ,pI,h1⟩:=bs h1
 have F:=an (aC pI) (an (aE Ab.c pI) F)
 try simp only[F,go_sem]
 refine cz h1 (IX k _ _) ?_ (fun cU h1=>?_)<;>try simp only[F,go_sem]
 refine aK ?_
 try simp only[F,go_sem]
 refine AF F h1 ?_ ?_<;>intro F h1<;>try simp only[F,go_sem]
 refine AD (aH _ _ (oi h1).symm (Ai.go [0,3,7] [0] rfl ?_))
 try simp only[Ca.h0,F,go_sem]
 refine AD (aF _ _ (oi h1).symm (Ai.go [0,3,7] [0] rfl ?_))
 try simp only[Ca.x0,F,go_sem]
 refine aK ?_
 try simp only[F,go_sem]
 refine AD (aF _ _ (oi h1).symm (Ai.go [0,3,7] [0] rfl ?_))
 try simp only[Ca.x0,F,go_sem]
 rintro i12 aI
 subst aI
 simp only at h0
 refine rS ?_
 try simp only[Ca.x0,F,go_sem]
 refine AL AB aQ 1000 ?_
 try simp only[F,go_sem]
 obtain⟨qK,vn,h0⟩:=bs h0
 have yB:=afd Ab.c vn
 try simp only[go_sem]at yB
 have F:=an yB F
 try simp only[aaG vn,F,go_sem]
 obtain⟨eW,ca,h0⟩:=bs h0
 refine D6 1000 [] [] (HU k _ _ ca) ?_ rfl ?_
 try simp only[fS,Bh,F,go_sem]
 try simp only[F,go_sem]
 obtain⟨l21,arA,h0⟩:=bs h0
 have aks:=pu Ab.c arA
 try simp only[F,go_sem]at aks
 have F:=an aks F
 try simp only[F,go_sem]
 obtain⟨l22,acP,h0⟩:=bs h0
 have ag0:=xJ Ab.c acP
 try simp only[go_sem]at ag0
 have F:=an ag0 F
 try simp only[sU acP,F,go_sem]
 obtain⟨sD,vp,h0⟩:=bs h0
 have aaS:=gM Ab.c vp
 try simp only[F,go_sem]at aaS
 have F:=an aaS F
 try simp only[F,go_sem]
 refine aK ?_
 try simp only[F,go_sem]
 obtain rfl:=oi h0
 refine Ag rfl ?_
 try simp only[F,go_sem]
def Ez.s0:SC:=
 SQ [SQ [RG [wV 5 4 3,wV 6 0 82,wL 7 6 82 3 [6],wO 8 .lss 3 5 7 3 4 [5,7]],CN 8 .skip (.exit 0)],.block 1 (RG [wV 11 3 3 [3],oQ 12 (.binOp .shl 3 (.tmp 11) (.const (.int .u64 8)) 172) 3 [11],wV 13 0 82,wV 14 4 3,wI 15 82 13 14 [13,14],wD 16 5 15 [15],wY 17 5 3 16 3 [16],wO 18 .or 3 12 17 3 3 [12,17],wG 3 18 3 [18]]),RG [wV 9 4 3 [4],wK 10 .add 3 9 1 3 3 [9],wG 4 10 3 [10]]]
def Ez.c:SC:=
 SQ [RG [wN 2 0 3 [2]],RG [wN 3 0 3],SQ [RG [wN 4 0 3],.block 0 (.loop Ez.s0)],RG [wV 19 3 3 [3],wG 2 19 3 [19]],.ret]
def BM.b0 (k:Nat) (b0:(List Int)):(Int×Int)->Option (AT (Int×Int) (Int) (Int)):=fun s=>match s with
 |(i1,i2)=>
   bif decide (i2<(b0.length:Int)) then
    (at? b0 i2).bind fun x5=>
    some (.next (fZ .i64 (ab (i1*2 ^ 8)) (ab x5),ab (i2+1)))
   else
    some (.brk i1)
def BM.h0 (b0:(List Int)):(Int×Int)->St:=fun s=>match s with
 |(i1,i2)=>⟨[(0,.sl 1 (List.map af b0)),(3,.int .i64 i1),(4,.int .i64 i2)],[],[],1,Tryz.f121.ntmps⟩
def BM.x0:Int->St:=fun i3=>⟨[(3,.int .i64 i3)],[],[],1,Tryz.f121.ntmps⟩
def BM (k:Nat) (b0:(List Int)):Option (Int):=
 (aj (BM.b0 k b0) k (0,0)).bind fun r6=>match r6 with
 |.next _=>none
 |.ret v_=>some v_
 |.brk i3=>
  some i3
theorem Du (k:Nat) (b0:(List Int)) (r:Int) (h0:BM k b0=some r):Ay Tryz.prog 121 [.sl 1 (List.map af b0)] (fun y=>y=.int .i64 r):=by
 refine PB Tryz.f121 Ez.c [.tmp 2] ?_
 simp only[BM]at h0
 try simp only[Ez.c,go_sem]
 obtain⟨r6,yr6,h0⟩:=bs h0
 refine Bf yr6 (BM.h0 b0) (BM.x0) ?_ ?_ ?_
 refine Ai.go [0,3,4] [] rfl ?_
 try simp only[BM.h0,go_sem]
 rintro⟨i1,i2⟩ cP Bl Bm h1 aH aF bL
 refine rS ?_
 simp only[BM.b0]at h1
 try simp only[Ez.s0,BM.h0,go_sem]
 refine AR h1 ?_ ?_<;>intro c4 h1<;>have F:=c4<;>try simp only[F,go_sem]
 try simp only[(@id (min (Int.toNat 8) 64=8) rfl),F,go_sem]
 obtain⟨x5,cE,h1⟩:=bs h1
 have F:=an (aC cE) (an (aE af cE) F)
 try simp only[F,go_sem]
 refine AD (aH _ _ (oi h1).symm (Ai.go [0,3,4] [] rfl ?_))
 try simp only[BM.h0,F,go_sem]
 refine AD (aF _ _ (oi h1).symm (Ai.go [3] [] rfl ?_))
 try simp only[BM.x0,F,go_sem]
 rintro i3 aI
 subst aI
 simp only at h0
 refine rS ?_
 try simp only[BM.x0,go_sem]
 obtain rfl:=oi h0
 refine Ag rfl ?_
 try simp only[go_sem]
def GX.c:SC:=
 SQ [RG [wE 1 92 0 [0],wN 2 0 3 [2]],RG [oQ 4 (.slice 92 (.tmp 1) (some (.const (.int .i64 1))) (some (.const (.int .i64 4))) none) 82,wU 5 121 4 82 3 [4],wG 3 5 3 [5]],SQ [RG [wJ 6 92 1 0,wD 7 5 6 [6],oQ 8 (.binOp .neq 5 (.tmp 7) (.const (.int .u8 104)) 5) 4 [7],wV 9 8 4 [8],gd 9 true (wJ 10 92 1 0),gd 9 true (wD 11 5 10 [10]),
 gd 9 true (oQ 12 (.binOp .neq 5 (.tmp 11) (.const (.int .u8 112)) 5) 4 [11]),wZ 13 9 12 4 [9,12],wV 14 13 4 [13],gd 14 false (wJ 15 92 1 31 [1]),gd 14 false (wD 16 5 15 [15]),gd 14 false (oQ 17 (.binOp .neq 5 (.tmp 16) (.const (.int .u8 165)) 5) 4 [16]),wT 18 14 17 4 [14,17],wV 19 18 4 [18],gd 19 false (wV 20 3 3),gd 19 false (wK 21 .gtr 3 20 1000000 3 4 [20]),wT 22 19 21 4 [19,21]],
 CN 22 (SQ [RG [wN 2 0 3],.ret]) .skip],RG [wV 23 3 3 [3],wG 2 23 3 [23]],.ret]
def DZ (k:Nat) (dK:(Aa 32 Int)):Option (Int):=
 (BM k ((dK.l.drop 1).take 3)).bind fun x1=>
 (dK.at? 0).bind fun x2=>
 bif (!decide (x2=(104:Int))) then
  bif decide (x2=(112:Int)) then
   (dK.at? 31).bind fun x5=>
   bif decide (x5=(165:Int)) then
    bif decide ((1000000:Int)<x1) then
     some 0
    else
     some x1
   else
    some 0
  else
   some 0
 else
  (dK.at? 31).bind fun x8=>
  bif decide (x8=(165:Int)) then
   bif decide ((1000000:Int)<x1) then
    some 0
   else
    some x1
  else
   some 0
theorem FP (k:Nat) (dK:(Aa 32 Int)) (r:Int) (h0:DZ k dK=some r):Ay Tryz.prog 105 [.agg ((Aa.c (n:=32) af) dK)] (fun y=>y=.int .i64 r):=by
 refine PB Tryz.f105 GX.c [.tmp 2] ?_
 simp only[DZ]at h0
 have F:=an (@id (Int.toNat 1=1) rfl) (an (@id (Int.toNat 4=4) rfl) (an (@id (bounds 32 (some (.int .i64 1)) (some (.int .i64 4))=some (1,4)) rfl) ((@id (4 - 1=3) rfl))))
 try simp only[GX.c,F,go_sem]
 refine zqL h0 (Du k _) ?_ (fun x1 h0=>?_)
 try simp only[aid,aie,F,go_sem]
 try simp only[F,go_sem]
 obtain⟨x2,ec,h0⟩:=bs h0
 have uZ:=Ap.bI fL (Ap.self gA dK) ec
 have nY:=uZ.2
 try simp only[AA,Az,go_sem]at nY
 have F:=an (aw ec) (an nY F)
 try simp only[F,go_sem]
 refine Bx F h0 ?_ ?_<;>intro F h0<;>try simp only[F,go_sem]
 refine AF F h0 ?_ ?_<;>intro F h0<;>try simp only[F,go_sem]
 obtain⟨x5,cE,h0⟩:=bs h0
 have xN:=Ap.bI fL (Ap.self gA dK) cE
 have tj:=xN.2
 try simp only[AA,Az,go_sem]at tj
 have F:=an (aw cE) (an tj F)
 try simp only[F,go_sem]
 refine AF F h0 ?_ ?_<;>intro F h0<;>try simp only[F,go_sem]
 refine AF F h0 ?_ ?_<;>intro F h0<;>try simp only[F,go_sem]
 obtain rfl:=oi h0
 refine Ag rfl ?_
 try simp only[F,go_sem]
 obtain rfl:=oi h0
 refine Ag rfl ?_
 try simp only[F,go_sem]
 obtain rfl:=oi h0
 refine Ag rfl ?_
 try simp only[F,go_sem]
 obtain rfl:=oi h0
 refine Ag rfl ?_
 try simp only[F,go_sem]
 obtain⟨x8,iZ,h0⟩:=bs h0
 have acG:=Ap.bI fL (Ap.self gA dK) iZ
 have akl:=acG.2
 try simp only[AA,Az,go_sem]at akl
 have F:=an (aw iZ) (an akl F)
 try simp only[F,go_sem]
 refine AF F h0 ?_ ?_<;>intro F h0<;>try simp only[F,go_sem]
 refine AF F h0 ?_ ?_<;>intro F h0<;>try simp only[F,go_sem]
 obtain rfl:=oi h0
 refine Ag rfl ?_
 try simp only[F,go_sem]
 obtain rfl:=oi h0
 refine Ag rfl ?_
 try simp only[F,go_sem]
 obtain rfl:=oi h0
 refine Ag rfl ?_
 try simp only[F,go_sem]
def GY.c:SC:=
 SQ [RG [wA 6 92],RG [wV 7 0 33 [0],wV 8 1 3 [1],oQ 9 (.binOp .mul 3 (.const (.int .i64 301)) (.tmp 8) 3) 3 [8],wV 10 2 3,wK 11 .quo 3 10 2 3 3 [10],wO 12 .add 3 9 11 3 3 [9,11],wV 13 2 3 [2],wK 14 .rem 3 13 2 3 3 [13],wI 15 33 7 12 [7,12],wI 16 113 15 14 [14,15],wD 17 92 16 [16],wS 92 6 17 [17]],.ret]
def Dt (k:Nat) (l0:(List (Aa 2 (Aa 32 Int)))) (aW:Int) (n2:Int):Option ((Aa 32 Int)):=
 (at? l0 (ab ((ab (301*aW))+(ab (Int.tdiv n2 2))))).bind fun x1=>
 (x1.at? (Int.tmod n2 2)).bind fun x2=>
 some x2
theorem Fe (k:Nat) (l0:(List (Aa 2 (Aa 32 Int)))) (aW:Int) (n2:Int) (r:(Aa 32 Int)) (h0:Dt k l0 aW n2=some r):Ay Tryz.prog 106 [.sl 64 (List.map (Aa.c (n:=2) (Aa.c (n:=32) af)) l0),.int .i64 aW,.int .i64 n2] (fun y=>y=.agg ((Aa.c (n:=32) af) r)):=by
 refine PB Tryz.f106 GY.c [.cell 6 92] ?_
 simp only[Dt]at h0
 try simp only[GY.c,go_sem]
 obtain⟨x1,jq,h0⟩:=bs h0
 have F:=an (aC jq) (aE (Aa.c (n:=2) (Aa.c (n:=32) af)) jq)
 try simp only[F,go_sem]
 obtain⟨x2,ec,h0⟩:=bs h0
 have uZ:=Ap.bI gL (Ap.self fM x1) ec
 have nY:=uZ.2
 try simp only[AA,Az,go_sem]at nY
 have F:=an (aw ec) (an nY F)
 try simp only[F,go_sem]
 obtain rfl:=oi h0
 refine Ag rfl ?_
 try simp only[F,go_sem]
def Hz.c:SC:=
 SQ [RG [wE 1 29 0 [0],oQ 2 (.assign (.const (.slice none 0 0))) 82 [2]],RG [wF 4 29 1 0,wF 5 27 4 0 [4],wD 6 3 5 [5],wC 7 86 #[.tmp 6,.const (.int .i64 1)] #[3,3] 82 [6],wG 3 7 82 [7]],RG [wV 8 3 82 [3],wF 9 29 1 0,wF 10 27 9 1 [9],wD 11 3 10 [10],wC 12 86 #[.tmp 11,.const (.int .i64 2)] #[3,3] 82 [11],wP 13 8 12 82 82 82 [8,12],wG 3 13 82 [13]],RG [wV 14 3 82 [3],wF 15 29 1 1,wD 16 3 15 [15],
 wC 17 86 #[.tmp 16,.const (.int .i64 1)] #[3,3] 82 [16],wP 18 14 17 82 82 82 [14,17],wG 3 18 82 [18]],RG [wV 19 3 82 [3],wF 20 29 1 2,wD 21 3 20 [20],wC 22 86 #[.tmp 21,.const (.int .i64 4)] #[3,3] 82 [21],wP 23 19 22 82 82 82 [19,22],wG 3 23 82 [23]],RG [wV 24 3 82 [3],wF 25 29 1 3,wD 26 3 25 [25],wC 27 86 #[.tmp 26,.const (.int .i64 4)] #[3,3] 82 [26],wP 28 24 27 82 82 82 [24,27],
 wG 3 28 82 [28]],RG [wV 29 3 82 [3],wF 30 29 1 4,wF 31 27 30 0 [30],wD 32 3 31 [31],wC 33 86 #[.tmp 32,.const (.int .i64 1)] #[3,3] 82 [32],wP 34 29 33 82 82 82 [29,33],wG 3 34 82 [34]],RG [wV 35 3 82 [3],wF 36 29 1 4,wF 37 27 36 1 [36],wD 38 3 37 [37],wC 39 86 #[.tmp 38,.const (.int .i64 2)] #[3,3] 82 [38],wP 40 35 39 82 82 82 [35,39],wG 3 40 82 [40]],RG [wV 41 3 82 [3],wF 42 29 1 5,
 wD 43 9 42 [42],wL 44 43 9 3 [43],wC 45 86 #[.tmp 44,.const (.int .i64 1)] #[3,3] 82 [44],wP 46 41 45 82 82 82 [41,45],wG 3 46 82 [46]],RG [wV 47 3 82 [3],wF 48 29 1 5 [1],wD 49 9 48 [48],wY 50 9 82 49 82 [49],wP 51 47 50 82 82 82 [47,50],wG 2 51 82 [51]],.ret]
def E9 (k:Nat) (r0:Ab):Option ((List Int)):=
 (BV k r0.At.Aq 1).bind fun x2=>
 (BV k r0.At.No 2).bind fun x4=>
 (dN 1 x2 x4).bind fun l5=>
 (BV k r0.Kind 1).bind fun x7=>
 (dN 1 l5 x7).bind fun l8=>
 (BV k r0.Day 4).bind fun cm=>
 (dN 1 l8 cm).bind fun fI=>
 (BV k r0.Bn 4).bind fun cI=>
 (dN 1 fI cI).bind fun cD=>
 (BV k r0.Of.Aq 1).bind fun dt=>
 (dN 1 cD dt).bind fun sB=>
 (BV k r0.Of.No 2).bind fun kV=>
 (dN 1 sB kV).bind fun sC=>
 (BV k (r0.Text.size:Int) 1).bind fun n6=>
 (dN 1 sC n6).bind fun sD=>
 (aaF r0.Text).bind fun _=>
 (dN 1 sD (iC r0.Text)).bind fun l25=>
 some l25
theorem IY (k:Nat) (r0:Ab) (r:(List Int)) (h0:E9 k r0=some r):Ay Tryz.prog 85 [.agg (Ab.c r0)] (fun y=>y=.sl 1 (List.map af r)):=by
 refine PB Tryz.f85 Hz.c [.tmp 2] ?_
 simp only[E9]at h0
 try simp only[Hz.c,go_sem]
 obtain⟨x2,ec,h0⟩:=bs h0
 refine CJ AB 1000 [] [] (DK k _ _ _ ec) ?_ rfl ?_
 try simp only[fS,Bh,go_sem]
 try simp only[go_sem]
 obtain⟨x4,bS,h0⟩:=bs h0
 refine CJ AB 1000 [] [] (DK k _ _ _ bS) ?_ rfl ?_
 try simp only[fS,Bh,go_sem]
 try simp only[go_sem]
 obtain⟨l5,yl5,h0⟩:=bs h0
 have aaT:=gM af yl5
 try simp only[go_sem]at aaT
 have F:=aaT
 try simp only[F,go_sem]
 obtain⟨x7,eG,h0⟩:=bs h0
 refine CJ AB 1000 [] [] (DK k _ _ _ eG) ?_ rfl ?_
 try simp only[fS,Bh,F,go_sem]
 try simp only[F,go_sem]
 obtain⟨l8,kW,h0⟩:=bs h0
 have aky:=gM af kW
 try simp only[F,go_sem]at aky
 have F:=an aky F
 try simp only[F,go_sem]
 obtain⟨cm,nh,h0⟩:=bs h0
 refine CJ AB 1000 [] [] (DK k _ _ _ nh) ?_ rfl ?_
 try simp only[fS,Bh,F,go_sem]
 try simp only[F,go_sem]
 obtain⟨fI,mC,h0⟩:=bs h0
 have tn:=gM af mC
 try simp only[F,go_sem]at tn
 have F:=an tn F
 try simp only[F,go_sem]
 obtain⟨cI,rq,h0⟩:=bs h0
 refine CJ AB 1000 [] [] (DK k _ _ _ rq) ?_ rfl ?_
 try simp only[fS,Bh,F,go_sem]
 try simp only[F,go_sem]
 obtain⟨cD,pG,h0⟩:=bs h0
 have aaR:=gM af pG
 try simp only[F,go_sem]at aaR
 have F:=an aaR F
 try simp only[F,go_sem]
 obtain⟨dt,ni,h0⟩:=bs h0
 refine CJ AB 1000 [] [] (DK k _ _ _ ni) ?_ rfl ?_
 try simp only[fS,Bh,F,go_sem]
 try simp only[F,go_sem]
 obtain⟨sB,aaW,h0⟩:=bs h0
 have tq:=gM af aaW
 try simp only[F,go_sem]at tq
 have F:=an tq F
 try simp only[F,go_sem]
 obtain⟨kV,pL,h0⟩:=bs h0
 refine CJ AB 1000 [] [] (DK k _ _ _ pL) ?_ rfl ?_
 try simp only[fS,Bh,F,go_sem]
 try simp only[F,go_sem]
 obtain⟨sC,aaX,h0⟩:=bs h0
 have tr:=gM af aaX
 try simp only[F,go_sem]at tr
 have F:=an tr F
 try simp only[F,go_sem]
 obtain⟨n6,xS,h0⟩:=bs h0
 refine CJ AB 1000 [] [] (DK k _ _ _ xS) ?_ rfl ?_
 try simp only[fS,Bh,F,go_sem]
 try simp only[F,go_sem]
 obtain⟨sD,vp,h0⟩:=bs h0
 have aaS:=gM af vp
 try simp only[F,go_sem]at aaS
 have F:=an aaS F
 try simp only[F,go_sem]
 obtain⟨u24,arO,h0⟩:=bs h0
 have F:=an afc F
 try simp only[aqT arO,F,go_sem]
 obtain⟨l25,aaY,h0⟩:=bs h0
 have aku:=gM af aaY
 try simp only[F,go_sem]at aku
 have F:=an aku F
 try simp only[F,go_sem]
 obtain rfl:=oi h0
 refine Ag rfl ?_
 try simp only[F,go_sem]
def EE.s0:SC:=
 SQ [SQ [RG [wV 20 10 3,wV 21 8 3,wO 22 .lss 3 20 21 3 4 [20,21]],CN 22 .skip (.exit 0)],.block 1 (SQ [RG [oQ 25 (.buildSlice 82 1 #[(0,.const (.int .u8 112))]) 82,wG 11 25 82 [25]],RG [wV 26 11 82 [11],wV 27 2 3,wC 28 86 #[.tmp 27,.const (.int .i64 3)] #[3,3] 82 [27],wP 29 26 28 82 82 82 [26,28],wG 11 29 82 [29]],RG [wV 30 11 82 [11],wV 31 1 3,wC 32 86 #[.tmp 31,.const (.int .i64 2)] #[3,
 3] 82 [31],wP 33 30 32 82 82 82 [30,32],wG 11 33 82 [33]],RG [wV 34 11 82 [11],wV 35 10 3,wY 36 3 5 35 5 [35],wV 37 8 3,wY 38 3 5 37 5 [37],oQ 39 (.buildSlice 82 2 #[(0,.tmp 36),(1,.tmp 38)]) 82 [36,38],wP 40 34 39 82 82 82 [34,39],wG 11 40 82 [40]],RG [oQ 41 (.makeSlice 82 (.const (.int .i64 23)) (.const (.int .i64 23))) 82,wG 12 41 82 [41]],RG [wV 42 12 82,wV 43 7 82,wV 44 10 3,
 oQ 45 (.binOp .mul 3 (.const (.int .i64 23)) (.tmp 44) 3) 3 [44],oQ 46 (.slice 82 (.tmp 43) (some (.tmp 45)) none none) 82 [43,45],oQ 47 (.call ⟨.builtin .copy,#[.tmp 42,.tmp 46],#[82,82]⟩) 3 [42,46,47]],RG [wV 48 11 82 [11],wV 49 12 82 [12],wP 50 48 49 82 82 82 [48,49],oQ 51 (.buildSlice 82 1 #[(0,.const (.int .u8 165))]) 82,wP 52 50 51 82 82 82 [50,51],wG 11 52 82 [52]],RG [wV 53 9 85 [9],
 wV 54 11 82 [11],oQ 55 (.sliceToArrayPointer 92 (.tmp 54)) 0 [54],wD 56 92 55 [55],oQ 57 (.buildSlice 85 1 #[(0,.tmp 56)]) 85 [56],wP 58 53 57 85 85 85 [53,57],wG 9 58 85 [58]]]),RG [wV 23 10 3 [10],wK 24 .add 3 23 1 3 3 [23],wG 10 24 3 [24]]]
def EE.c:SC:=
 SQ [RG [wE 3 29 0 [0],oQ 6 (.assign (.const (.slice none 0 0))) 85 [6]],RG [wD 13 29 3 [3],wU 14 85 13 29 82 [13],wG 7 14 82 [14]],RG [wV 15 7 82,wL 16 15 82 3 [15],wK 17 .add 3 16 23 3 3 [16],wK 18 .sub 3 17 1 3 3 [17],wK 19 .quo 3 18 23 3 3 [18],wG 8 19 3 [19]],RG [oQ 9 (.assign (.const (.slice none 0 0))) 85],SQ [RG [wN 10 0 3],.block 0 (.loop EE.s0)],RG [wV 59 9 85 [9],wG 6 59 85 [59]],.ret]
def Ci.b0 (k:Nat) (k1:Int) (fC:Int) (x1:(List Int)):(Int×(List (Aa 32 Int)))->Option (AT (Int×(List (Aa 32 Int))) ((List (Aa 32 Int))) ((List (Aa 32 Int)))):=fun s=>match s with
 |(i2,l3)=>
   bif decide (i2<ab (Int.tdiv (ab ((ab ((x1.length:Int)+23)) - 1)) 23)) then
    (Cd k fC 3).bind fun x6=>
    (dN 1 [112] x6).bind fun l7=>
    (Cd k k1 2).bind fun x8=>
    (dN 1 l7 x8).bind fun l9=>
    (dN 1 l9 [IntKind.u8.wrap i2,IntKind.u8.wrap (ab (Int.tdiv (ab ((ab ((x1.length:Int)+23)) - 1)) 23))]).bind fun jl=>
    (kM 23 1 (0:Int)).bind fun fI=>
    (cg x1 (ab (23*i2)) x1.length).bind fun fW=>
    (dN 1 jl (mM fI 0 23 fW)).bind fun cD=>
    (fJ 1 cD 165).bind fun qJ=>
    (Aa.nP 32 qJ).bind fun v16=>
    (fJ 32 l3 v16).bind fun sB=>
    some (.next (ab (i2+1),sB))
   else
    some (.brk l3)
def Ci.h0 (k1:Int) (fC:Int) (x1:(List Int)):(Int×(List (Aa 32 Int)))->St:=fun s=>match s with
 |(i2,l3)=>⟨[(1,.int .i64 k1),(2,.int .i64 fC),(7,.sl 1 (List.map af x1)),(8,.int .i64 (ab (Int.tdiv (ab ((ab ((x1.length:Int)+23)) - 1)) 23))),(9,.loc 0 0 32 0 l3.length l3.length),(10,.int .i64 i2)],[(0,.arr 92 32 (List.map (Aa.c (n:=32) af) l3))],[],1,Tryz.f47.ntmps⟩
def Ci.x0:(List (Aa 32 Int))->St:=fun l4=>⟨[(9,.loc 0 0 32 0 l4.length l4.length)],[(0,.arr 92 32 (List.map (Aa.c (n:=32) af) l4))],[],1,Tryz.f47.ntmps⟩
def Ci (k:Nat) (r0:Ab) (k1:Int) (fC:Int):Option ((List (Aa 32 Int))):=
 (E9 k r0).bind fun x1=>
 (aj (Ci.b0 k k1 fC x1) k (0,[])).bind fun r18=>match r18 with
 |.next _=>none
 |.ret v_=>some v_
 |.brk l4=>
  some l4
theorem FT (k:Nat) (r0:Ab) (k1:Int) (fC:Int) (r:(List (Aa 32 Int))) (h0:Ci k r0 k1 fC=some r):Ay Tryz.prog 47 [.agg (Ab.c r0),.int .i64 k1,.int .i64 fC] (fun y=>y=.sl 32 (List.map (Aa.c (n:=32) af) r)):=by
 refine PB Tryz.f47 EE.c [.tmp 6] ?_
 simp only[Ci]at h0
 try simp only[EE.c,go_sem]
 refine au h0 (IY k _) ?_ (fun x1 h0=>?_)<;>try simp only[go_sem]
 obtain⟨r18,afz,h0⟩:=bs h0
 refine Bf afz (Ci.h0 k1 fC x1) (Ci.x0) ?_ ?_ ?_
 refine Ai.go [1,2,7,8,9,10] [176] rfl ?_
 try simp only[Ci.h0,go_sem]
 rintro⟨i2,l3⟩ cP Bl Bm h1 aH aF bL
 refine rS ?_
 simp only[Ci.b0]at h1
 try simp only[EE.s0,Ci.h0,go_sem]
 refine AR h1 ?_ ?_<;>intro c5 h1<;>have F:=c5<;>try simp only[F,go_sem]
 refine au h1 (Fw k _ _) ?_ (fun x6 h1=>?_)<;>try simp only[F,go_sem]
 obtain⟨l7,yl7,h1⟩:=bs h1
 have akx:=gM af yl7
 try simp only[F,go_sem]at akx
 have F:=an akx F
 try simp only[F,go_sem]
 refine au h1 (Fw k _ _) ?_ (fun x8 h1=>?_)<;>try simp only[F,go_sem]
 obtain⟨l9,yl9,h1⟩:=bs h1
 have akz:=gM af yl9
 try simp only[F,go_sem]at akz
 have F:=an akz F
 try simp only[F,go_sem]
 obtain⟨jl,acN,h1⟩:=bs h1
 have akm:=gM af acN
 try simp only[F,go_sem]at akm
 have F:=an akm F
 try simp only[F,go_sem]
 obtain⟨fI,mC,h1⟩:=bs h1
 obtain⟨_,aoV⟩:=aeC mC
 have abD:List.replicate 23 ([.int .u8 0])=List.map af fI:=aeB af mC
 have apo:fI.length=23:=aeA mC
 have aq5:List.take 23 (List.map af fI)=List.map af fI:=aeD af mC
 have F:=an abD (an apo (an aq5 (an (@id (Int.toNat 23=23) rfl) F)))
 try simp only[aey aoV,F,go_sem]
 obtain⟨fW,vm,h1⟩:=bs h1
 have tP:=xJ af vm
 try simp only[go_sem]at tP
 have q13:=amp af fI 0 23 fW
 have ais:(mM fI 0 23 fW).length=23:=by rw[agF]<;>simp only[tP,F,go_sem]
 try simp only[tP,F,go_sem]at q13
 have aq0:List.take 23 (List.map af (mM fI 0 23 fW))=List.map af (mM fI 0 23 fW):=CF (by rw[Bh,ais]<;>exact Be _)
 have F:=an tP (an ais (an aq0 F))
 try simp only[sU vm,q13,F,go_sem]
 obtain⟨cD,pG,h1⟩:=bs h1
 have aaR:=gM af pG
 try simp only[F,go_sem]at aaR
 have F:=an aaR F
 try simp only[F,go_sem]
 obtain⟨qJ,arz,h1⟩:=bs h1
 have ako:=pu af arz
 try simp only[F,go_sem]at ako
 have F:=an ako F
 try simp only[F,go_sem]
 obtain⟨v16,afC,h1⟩:=bs h1
 have akA:=acI afC
 try simp only[F,go_sem]at akA
 have F:=an akA (an (ajY (E:=af) afC) (an (ajX (E:=af) afC) F))
 try simp only[F,go_sem]
 obtain⟨sB,aaW,h1⟩:=bs h1
 have tq:=pu (Aa.c (n:=32) af) aaW
 try simp only[F,go_sem]at tq
 have F:=an tq F
 try simp only[F,go_sem]
 refine AD (aH _ _ (oi h1).symm (Ai.go [1,2,7,8,9,10] [0] rfl ?_))
 try simp only[Ci.h0,F,go_sem]
 refine AD (aF _ _ (oi h1).symm (Ai.go [9] [0] rfl ?_))
 try simp only[Ci.x0,F,go_sem]
 rintro l4 aI
 subst aI
 simp only at h0
 refine rS ?_
 try simp only[Ci.x0,go_sem]
 obtain rfl:=oi h0
 refine Ag rfl ?_
 try simp only[go_sem]
def GZ.c:SC:=
 SQ [RG [wE 1 27 0 [0],wB 2 false 4 [2]],RG [wF 3 27 1 0,wD 4 3 3 [3],wC 5 54 #[.tmp 4,.const (.int .i64 0),.const (.int .i64 5)] #[3,3,3] 4 [4],wV 6 5 4 [5],gd 6 true (wF 7 27 1 1 [1]),gd 6 true (wD 8 3 7 [7]),gd 6 true (wC 9 54 #[.tmp 8,.const (.int .i64 0),.const (.int .i64 9999)] #[3,3,3] 4 [8]),wZ 10 6 9 4 [6,9],wG 2 10 4 [10]],.ret]
def Ei (k:Nat) (p0:Entry):Option (Bool):=
 (C8 k p0.Aq 0 5).bind fun x1=>
 bif x1 then
  (C8 k p0.No 0 9999).bind fun x3=>
  some x3
 else
  some false
theorem HK (k:Nat) (p0:Entry) (r:Bool) (h0:Ei k p0=some r):Ay Tryz.prog 107 [.agg (Entry.c p0)] (fun y=>y=.bool r):=by
 refine PB Tryz.f107 GZ.c [.tmp 2] ?_
 simp only[Ei]at h0
 try simp only[GZ.c,go_sem]
 refine au h0 (D1 k _ _ _) ?_ (fun x1 h0=>?_)<;>try simp only[go_sem]
 refine AR h0 ?_ ?_<;>intro c2 h0<;>have F:=c2<;>try simp only[F,go_sem]
 refine au h0 (D1 k _ _ _) ?_ (fun x3 h0=>?_)<;>try simp only[F,go_sem]
 obtain rfl:=oi h0
 refine Ag rfl ?_
 try simp only[F,go_sem]
 obtain rfl:=oi h0
 refine Ag rfl ?_
 try simp only[F,go_sem]
def Es.s0:SC:=
 SQ [SQ [RG [wV 7 3 3,wV 8 0 9,wL 9 8 9 3 [8],wO 10 .lss 3 7 9 3 4 [7,9]],CN 10 .skip (.exit 0)],.block 1 (SQ [RG [wV 13 0 9,wV 14 3 3,oQ 15 (.index 9 (.tmp 13) (.tmp 14)) 5 [13,14],oQ 16 (.binOp .lss 5 (.tmp 15) (.const (.int .u8 32)) 5) 4 [15],wV 17 16 4 [16],gd 17 false (wV 18 0 9),gd 17 false (wV 19 3 3),gd 17 false (oQ 20 (.index 9 (.tmp 18) (.tmp 19)) 5 [18,19]),
 gd 17 false (oQ 21 (.binOp .gtr 5 (.tmp 20) (.const (.int .u8 126)) 5) 4 [20]),wT 22 17 21 4 [17,21]],CN 22 (SQ [RG [wB 2 false 4],.ret]) .skip]),RG [wV 11 3 3 [3],wK 12 .add 3 11 1 3 3 [11],wG 3 12 3 [12]]]
def Es.c:SC:=
 SQ [RG [wB 2 false 4 [2]],SQ [RG [wV 4 0 9,wL 5 4 9 3 [4],wK 6 .gtr 3 5 200 3 4 [5]],CN 6 (SQ [RG [wB 2 false 4],.ret]) .skip],SQ [RG [wN 3 0 3],.block 0 (.loop Es.s0)],RG [wB 2 true 4],.ret]
def Cp.b0 (k:Nat) (s0:ByteArray):Int->Option (AT (Int) (Unit) (Bool)):=fun i2=>
 bif decide (i2<(s0.size:Int)) then
  (sS s0 i2).bind fun i4=>
  bif (!decide (i4<(32:Int))) then
   bif decide ((126:Int)<i4) then
    some (.ret false)
   else
    some (.next (ab (i2+1)))
  else
   some (.ret false)
 else
  some (.brk ())
def Cp.h0 (s0:ByteArray):Int->St:=fun i2=>⟨[(0,.str s0),(3,.int .i64 i2)],[],[],1,Tryz.f108.ntmps⟩
def Cp.x0:Unit->St:=fun _=>⟨[],[],[],1,Tryz.f108.ntmps⟩
def Cp (k:Nat) (s0:ByteArray):Option (Bool):=
 bif decide ((200:Int)<(s0.size:Int)) then
  some false
 else
  (aj (Cp.b0 k s0) k 0).bind fun r7=>match r7 with
  |.next _=>none
  |.ret v_=>some v_
  |.brk _=>
   some true
theorem I1 (k:Nat) (s0:ByteArray) (r:Bool) (h0:Cp k s0=some r):Ay Tryz.prog 108 [.str s0] (fun y=>y=.bool r):=by
 refine PB Tryz.f108 Es.c [.tmp 2] ?_
 simp only[Cp]at h0
 try simp only[Es.c,go_sem]
 refine AR h0 ?_ ?_<;>intro c1 h0<;>have F:=c1<;>try simp only[F,go_sem]
 obtain rfl:=oi h0
 refine Ag rfl ?_
 try simp only[F,go_sem]
 obtain⟨r7,kX,h0⟩:=bs h0
 refine Bf kX (Cp.h0 s0) (Cp.x0) ?_ ?_ ?_
 refine Ai.go [0,3] [] rfl ?_
 try simp only[Cp.h0,F,go_sem]
 rintro i2 cP Bl Bm h1 aH aF bL
 refine rS ?_
 simp only[Cp.b0]at h1
 try simp only[Es.s0,Cp.h0,F,go_sem]
 refine AF F h1 ?_ ?_<;>intro F h1<;>try simp only[F,go_sem]
 obtain⟨i4,yi4,h1⟩:=bs h1
 have F:=an (ajn yi4) (an (ajm yi4) F)
 try simp only[F,go_sem]
 refine Bx F h1 ?_ ?_<;>intro F h1<;>try simp only[F,go_sem]
 refine AF F h1 ?_ ?_<;>intro F h1<;>try simp only[F,go_sem]
 obtain rfl:=bL _ (oi h1).symm
 simp only at h0
 obtain rfl:=oi h0
 refine Ag rfl ?_
 try simp only[F,go_sem]
 refine AD (aH _ _ (oi h1).symm (Ai.go [0,3] [] rfl ?_))
 try simp only[Cp.h0,F,go_sem]
 obtain rfl:=bL _ (oi h1).symm
 simp only at h0
 obtain rfl:=oi h0
 refine Ag rfl ?_
 try simp only[F,go_sem]
 refine AD (aF _ _ (oi h1).symm (Ai.go [] [] rfl ?_))
 try simp only[Cp.x0,F,go_sem]
 rintro _ aI
 subst aI
 simp only at h0
 refine rS ?_
 try simp only[Cp.x0,F,go_sem]
 obtain rfl:=oi h0
 refine Ag rfl ?_
 try simp only[F,go_sem]
def HB.c:SC:=
 SQ [RG [wE 1 29 0 [0],wN 2 0 45 [2]],SQ [RG [wF 3 29 1 0,wD 4 27 3 [3],wU 5 107 4 27 4 [4],wQ 6 5 4 [5],wV 7 6 4 [6],gd 7 false (wF 8 29 1 1),gd 7 false (wD 9 3 8 [8]),gd 7 false (wC 10 54 #[.tmp 9,.const (.int .i64 0),.const (.int .i64 40)] #[3,3,3] 4 [9]),gd 7 false (wQ 11 10 4 [10]),wT 12 7 11 4 [7,11],wV 13 12 4 [12],gd 13 false (wF 14 29 1 2),gd 13 false (wD 15 3 14 [14]),
 gd 13 false (wC 16 54 #[.tmp 15,.const (.int .i64 0),.const (.int .i64 100000)] #[3,3,3] 4 [15]),gd 13 false (wQ 17 16 4 [16]),wT 18 13 17 4 [13,17],wV 19 18 4 [18],gd 19 false (wF 20 29 1 3),gd 19 false (wD 21 3 20 [20]),gd 19 false (wC 22 54 #[.tmp 21,.const (.int .i64 0),.const (.int .i64 100000)] #[3,3,3] 4 [21]),gd 19 false (wQ 23 22 4 [22]),wT 24 19 23 4 [19,23],wV 25 24 4 [24],
 gd 25 false (wF 26 29 1 5),gd 25 false (wD 27 9 26 [26]),gd 25 false (wU 28 108 27 9 4 [27]),gd 25 false (wQ 29 28 4 [28]),wT 30 25 29 4 [25,29]],CN 30 (SQ [RG [wN 2 90 45],.ret]) .skip],SQ [RG [wF 31 29 1 1,wD 32 3 31 [31],wK 33 .eql 3 32 0 3 4 [32]],CN 33 (SQ [SQ [RG [wF 34 29 1 2,wD 35 3 34 [34],wK 36 .neq 3 35 0 3 4 [35],wV 37 36 4 [36],gd 37 false (wF 38 29 1 5),gd 37 false (wD 39 9 38 [38]),
 gd 37 false (oQ 40 (.binOp .neq 9 (.tmp 39) (.const (.string ⟨#[]⟩)) 9) 4 [39]),wT 41 37 40 4 [37,40],wV 42 41 4 [41],gd 42 false (wF 43 29 1 4),gd 42 false (wD 44 27 43 [43]),gd 42 false (wU 45 107 44 27 4 [44]),gd 42 false (wQ 46 45 4 [45]),wT 47 42 46 4 [42,46],wV 48 47 4 [47],gd 48 false (wF 49 29 1 4),gd 48 false (wF 50 27 49 0 [49]),gd 48 false (wD 51 3 50 [50]),gd 48 false (wF 52 29 1 0),
 gd 48 false (wF 53 27 52 0 [52]),gd 48 false (wD 54 3 53 [53]),gd 48 false (wO 55 .neq 3 51 54 3 4 [51,54]),wT 56 48 55 4 [48,55],wV 57 56 4 [56],gd 57 false (wF 58 29 1 4),gd 57 false (wF 59 27 58 1 [58]),gd 57 false (wD 60 3 59 [59]),gd 57 false (wF 61 29 1 0 [1]),gd 57 false (wF 62 27 61 1 [61]),gd 57 false (wD 63 3 62 [62]),gd 57 false (wO 64 .geq 3 60 63 3 4 [60,63]),wT 65 57 64 4 [57,64]],
 CN 65 (SQ [RG [wN 2 90 45],.ret]) .skip],RG [wN 2 0 45],.ret]) .skip],SQ [RG [wF 66 29 1 4 [1],wD 67 27 66 [66],oQ 68 (.build 27 #[]) 27,wO 69 .neq 27 67 68 27 4 [67,68]],CN 69 (SQ [RG [wN 2 90 45],.ret]) .skip],RG [wN 2 0 45],.ret]
def Eg (k:Nat) (r0:Ab):Option (Int):=
 (Ei k r0.At).bind fun x1=>
 bif x1 then
  (C8 k r0.Kind 0 40).bind fun x3=>
  bif x3 then
   (C8 k r0.Day 0 100000).bind fun x5=>
   bif x5 then
    (C8 k r0.Bn 0 100000).bind fun x7=>
    bif x7 then
     (Cp k r0.Text).bind fun x9=>
     bif (!x9) then
      some 90
     else
      bif decide (r0.Kind=(0:Int)) then
       bif decide (r0.Day=(0:Int)) then
        bif (r0.Text.toList==ByteArray.empty.toList) then
         (Ei k r0.Of).bind fun bJ=>
         bif bJ then
          bif decide (r0.Of.Aq=r0.At.Aq) then
           bif decide (r0.At.No<=r0.Of.No) then
            some 90
           else
            some 0
          else
           some 90
         else
          some 90
        else
         some 90
       else
        some 90
      else
       bif (!(decide (r0.Of.Aq=(0:Int))&&decide (r0.Of.No=(0:Int)))) then
        some 90
       else
        some 0
    else
     some 90
   else
    some 90
  else
   some 90
 else
  some 90
theorem HJ (k:Nat) (r0:Ab) (r:Int) (h0:Eg k r0=some r):Ay Tryz.prog 90 [.agg (Ab.c r0)] (fun y=>y=.int .i64 r):=by
 refine PB Tryz.f90 HB.c [.tmp 2] ?_
 simp only[Eg]at h0
 try simp only[HB.c,go_sem]
 refine au h0 (HK k _) ?_ (fun x1 h0=>?_)<;>try simp only[go_sem]
 refine AR h0 ?_ ?_<;>intro c2 h0<;>have F:=c2<;>try simp only[F,go_sem]
 refine au h0 (D1 k _ _ _) ?_ (fun x3 h0=>?_)<;>try simp only[F,go_sem]
 refine AF F h0 ?_ ?_<;>intro F h0<;>try simp only[F,go_sem]
 refine au h0 (D1 k _ _ _) ?_ (fun x5 h0=>?_)<;>try simp only[F,go_sem]
 refine AF F h0 ?_ ?_<;>intro F h0<;>try simp only[F,go_sem]
 refine au h0 (D1 k _ _ _) ?_ (fun x7 h0=>?_)<;>try simp only[F,go_sem]
 refine AF F h0 ?_ ?_<;>intro F h0<;>try simp only[F,go_sem]
 refine au h0 (I1 k _) ?_ (fun x9 h0=>?_)<;>try simp only[F,go_sem]
 refine Bx F h0 ?_ ?_<;>intro F h0<;>try simp only[F,go_sem]
 obtain rfl:=oi h0
 refine Ag rfl ?_
 try simp only[F,go_sem]
 refine AF F h0 ?_ ?_<;>intro F h0<;>try simp only[F,go_sem]
 refine AF F h0 ?_ ?_<;>intro F h0<;>try simp only[F,go_sem]
 refine AF F h0 ?_ ?_<;>intro F h0<;>try simp only[F,go_sem]
 refine au h0 (HK k _) ?_ (fun bJ h0=>?_)<;>try simp only[F,go_sem]
 refine AF F h0 ?_ ?_<;>intro F h0<;>try simp only[F,go_sem]
 refine AF F h0 ?_ ?_<;>intro F h0<;>try simp only[F,go_sem]
 refine AF F h0 ?_ ?_<;>intro F h0<;>try simp only[F,go_sem]
 obtain rfl:=oi h0
 refine Ag rfl ?_
 try simp only[F,go_sem]
 obtain rfl:=oi h0
 refine Ag rfl ?_
 try simp only[F,go_sem]
 obtain rfl:=oi h0
 refine Ag rfl ?_
 try simp only[F,go_sem]
 obtain rfl:=oi h0
 refine Ag rfl ?_
 try simp only[F,go_sem]
 obtain rfl:=oi h0
 refine Ag rfl ?_
 try simp only[F,go_sem]
 obtain rfl:=oi h0
 refine Ag rfl ?_
 try simp only[F,go_sem]
 refine Bx F h0 ?_ ?_<;>intro F h0<;>try simp only[F,go_sem]
 obtain rfl:=oi h0
 refine Ag rfl ?_
 try simp only[F,go_sem]
 obtain rfl:=oi h0
 refine Ag rfl ?_
 try simp only[F,go_sem]
 obtain rfl:=oi h0
 refine Ag rfl ?_
 try simp only[F,go_sem]
 obtain rfl:=oi h0
 refine Ag rfl ?_
 try simp only[F,go_sem]
 obtain rfl:=oi h0
 refine Ag rfl ?_
 try simp only[F,go_sem]
 obtain rfl:=oi h0
 refine Ag rfl ?_
 try simp only[F,go_sem]
def G6.c:SC:=
 SQ [RG [wA 2 29,wN 3 0 45 [3]],SQ [RG [wV 5 0 82,wL 6 5 82 3 [5],wK 7 .lss 3 6 16 3 4 [6],wV 8 7 4 [7],gd 8 false (wV 9 0 82),gd 8 false (wL 10 9 82 3 [9]),gd 8 false (wV 11 0 82),gd 8 false (wJ 12 82 11 15 [11]),gd 8 false (wD 13 5 12 [12]),gd 8 false (wY 14 5 3 13 3 [13]),gd 8 false (oQ 15 (.binOp .add 3 (.const (.int .i64 16)) (.tmp 14) 3) 3 [14]),gd 8 false (wO 16 .neq 3 10 15 3 4 [10,15]),
 wT 17 8 16 4 [8,16]],CN 17 (SQ [RG [oQ 18 (.build 29 #[]) 29,wS 29 2 18 [18],wN 3 90 45],.ret]) .skip],.aL [wV 19 0 82,oQ 20 (.slice 82 (.tmp 19) none (some (.const (.int .i64 1))) none) 82,wU 21 121 20 82 3,wV 22 0 82,oQ 23 (.slice 82 (.tmp 22) (some (.const (.int .i64 1))) (some (.const (.int .i64 3))) none) 82,wU 24 121 23 82 3,oQ 25 (.build 27 #[(0,.tmp 21),(1,.tmp 24)]) 27,wV 26 0 82,
 oQ 27 (.slice 82 (.tmp 26) (some (.const (.int .i64 3))) (some (.const (.int .i64 4))) none) 82,wU 28 121 27 82 3,wV 29 0 82,oQ 30 (.slice 82 (.tmp 29) (some (.const (.int .i64 4))) (some (.const (.int .i64 8))) none) 82,wU 31 121 30 82 3,wV 32 0 82,oQ 33 (.slice 82 (.tmp 32) (some (.const (.int .i64 8))) (some (.const (.int .i64 12))) none) 82,wU 34 121 33 82 3,wV 35 0 82,
 oQ 36 (.slice 82 (.tmp 35) (some (.const (.int .i64 12))) (some (.const (.int .i64 13))) none) 82,wU 37 121 36 82 3,wV 38 0 82,oQ 39 (.slice 82 (.tmp 38) (some (.const (.int .i64 13))) (some (.const (.int .i64 15))) none) 82,wU 40 121 39 82 3,oQ 41 (.build 27 #[(0,.tmp 37),(1,.tmp 40)]) 27,wV 42 0 82,oQ 43 (.slice 82 (.tmp 42) (some (.const (.int .i64 16))) none none) 82,wY 44 82 9 43 9,
 oQ 45 (.build 29 #[(0,.tmp 25),(1,.tmp 28),(2,.tmp 31),(3,.tmp 34),(4,.tmp 41),(5,.tmp 44)]) 29,wA 4 29,wS 29 4 45] [[],[0],[0,1],[],[3],[3,4,0,1,2],[0,1,2,3,4,5],[],[7],[7,8,3,4,0,1,2,5],[],[10],[10,11,7,8,3,4,0,1,2,5,9],[],[13],[13,14,10,11,7,8,3,4,0,1,2,5,9,12],[],[16],[16,17,13,14,10,11,7,8,3,4,0,1,2,5,9,12,15],[],[19],[19,20,16,17,13,14,10,11,7,8,3,4,0,1,2,5,9,12,15,18],[16,17,13,14,10,11,7,
 8,3,4,0,1,2,5,9,12,15,18,19,20,21],[],[23],[23,24],[0,1,2,3,4,5,6,7,8,9,10,11,12,13,14,15,16,17,18,19,20,21,22,23,24,25],[],[27,0,1,2,3,4,5,6,7,8,9,10,11,12,13,14,15,16,17,18,19,20,21,22,23,24,25,26]] [0,19,20,21,22,23,24,25,26,27,28,29,30,31,32,33,34,35,36,37,38,39,40,41,42,43,44,45],SQ [RG [wD 46 29 4,wU 47 90 46 29 45 [46],wK 48 .neq 45 47 0 45 4 [47]],CN 48 (SQ [RG [oQ 49 (.build 29 #[]) 29,
 wS 29 2 49 [49],wN 3 90 45],.ret]) .skip],RG [wD 50 29 4 [4],wS 29 2 50 [50],wN 3 0 45],.ret]
def Eh (k:Nat) (b0:(List Int)):Option (Ab×Int):=
 bif (!decide ((b0.length:Int)<(16:Int))) then
  (at? b0 15).bind fun x2=>
  bif (!decide ((b0.length:Int)=ab (16+(ab x2)))) then
   some ((⟨(⟨0,0⟩:Entry),0,0,0,(⟨0,0⟩:Entry),ByteArray.empty⟩:Ab),90)
  else
   (cg b0 0 1).bind fun l4=>
   (BM k l4).bind fun x5=>
   (cg b0 1 3).bind fun l6=>
   (BM k l6).bind fun x7=>
   (cg b0 3 4).bind fun l8=>
   (BM k l8).bind fun x9=>
   (cg b0 4 8).bind fun jl=>
   (BM k jl).bind fun cT=>
   (cg b0 8 12).bind fun fW=>
   (BM k fW).bind fun cI=>
   (cg b0 12 13).bind fun cD=>
   (BM k cD).bind fun cU=>
   (cg b0 13 15).bind fun l16=>
   (BM k l16).bind fun jo=>
   (cg b0 16 b0.length).bind fun qK=>
   (Eg k (⟨(⟨x5,x7⟩:Entry),x9,cT,cI,(⟨cU,jo⟩:Entry),strOf qK⟩:Ab)).bind fun kV=>
   bif (!decide (kV=(0:Int))) then
    some ((⟨(⟨0,0⟩:Entry),0,0,0,(⟨0,0⟩:Entry),ByteArray.empty⟩:Ab),90)
   else
    some ((⟨(⟨x5,x7⟩:Entry),x9,cT,cI,(⟨cU,jo⟩:Entry),strOf qK⟩:Ab),0)
 else
  some ((⟨(⟨0,0⟩:Entry),0,0,0,(⟨0,0⟩:Entry),ByteArray.empty⟩:Ab),90)
theorem IS (k:Nat) (b0:(List Int)) (r:Ab×Int) (h0:Eh k b0=some r):Ay Tryz.prog 128 [.sl 1 (List.map af b0)] (fun y=>y=.ar [.agg (Ab.c r.1),.int .i64 r.2]):=by
 refine PB Tryz.f128 G6.c [.cell 2 29,.tmp 3] ?_
 simp only[Eh]at h0
 try simp only[G6.c,go_sem]
 refine Cr h0 ?_ ?_<;>intro c1 h0<;>have F:=c1<;>try simp only[F,go_sem]
 obtain⟨x2,ec,h0⟩:=bs h0
 have F:=an (aC ec) (an (aE af ec) F)
 try simp only[F,go_sem]
 refine Bx F h0 ?_ ?_<;>intro F h0<;>try simp only[F,go_sem]
 obtain rfl:=oi h0
 refine Ag rfl ?_
 try simp only[F,go_sem]
 refine AL AB aQ 1000 ?_
 try simp only[F,go_sem]
 obtain⟨l4,yl4,h0⟩:=bs h0
 have ag7:=afd af yl4
 try simp only[go_sem]at ag7
 have F:=an ag7 F
 try simp only[aaG yl4,F,go_sem]
 refine cz h0 (Du k _) ?_ (fun x5 h0=>?_)<;>try simp only[F,go_sem]
 obtain⟨l6,kg,h0⟩:=bs h0
 have rJ:=q9 af kg
 try simp only[go_sem]at rJ
 have F:=an rJ F
 try simp only[uU kg,F,go_sem]
 refine cz h0 (Du k _) ?_ (fun x7 h0=>?_)<;>try simp only[F,go_sem]
 obtain⟨l8,kW,h0⟩:=bs h0
 have nu:=q9 af kW
 try simp only[go_sem]at nu
 have F:=an nu F
 try simp only[uU kW,F,go_sem]
 refine cz h0 (Du k _) ?_ (fun x9 h0=>?_)<;>try simp only[F,go_sem]
 obtain⟨jl,acN,h0⟩:=bs h0
 have agX:=q9 af acN
 try simp only[go_sem]at agX
 have F:=an agX F
 try simp only[uU acN,F,go_sem]
 refine cz h0 (Du k _) ?_ (fun cT h0=>?_)<;>try simp only[F,go_sem]
 obtain⟨fW,vm,h0⟩:=bs h0
 have tP:=q9 af vm
 try simp only[go_sem]at tP
 have F:=an tP F
 try simp only[uU vm,F,go_sem]
 refine cz h0 (Du k _) ?_ (fun cI h0=>?_)<;>try simp only[F,go_sem]
 obtain⟨cD,pG,h0⟩:=bs h0
 have yA:=q9 af pG
 try simp only[go_sem]at yA
 have F:=an yA F
 try simp only[uU pG,F,go_sem]
 refine cz h0 (Du k _) ?_ (fun cU h0=>?_)<;>try simp only[F,go_sem]
 obtain⟨l16,acO,h0⟩:=bs h0
 have agY:=q9 af acO
 try simp only[go_sem]at agY
 have F:=an agY F
 try simp only[uU acO,F,go_sem]
 refine cz h0 (Du k _) ?_ (fun jo h0=>?_)<;>try simp only[F,go_sem]
 obtain⟨qK,vn,h0⟩:=bs h0
 have yB:=xJ af vn
 try simp only[go_sem]at yB
 have F:=an yB F
 try simp only[sU vn,adj,aju,F,go_sem]
 refine aK ?_
 try simp only[F,go_sem]
 refine au h0 (HJ k _) ?_ (fun kV h0=>?_)<;>try simp only[F,go_sem]
 refine Bx F h0 ?_ ?_<;>intro F h0<;>try simp only[F,go_sem]
 obtain rfl:=oi h0
 refine Ag rfl ?_
 try simp only[F,go_sem]
 obtain rfl:=oi h0
 refine Ag rfl ?_
 try simp only[F,go_sem]
 obtain rfl:=oi h0
 refine Ag rfl ?_
 try simp only[F,go_sem]
def Dv.s1:SC:=
 SQ [SQ [RG [wV 106 20 3,wV 107 13 3,wO 108 .lss 3 106 107 3 4 [106,107]],CN 108 .skip (.exit 2)],.block 3 (SQ [.aL [wV 111 0 33,wV 112 1 3,wV 113 2 3,wV 114 20 3,wO 115 .add 3 113 114 3 3,wC 116 106 #[.tmp 111,.tmp 112,.tmp 115] #[33,3,3] 92,wV 117 19 85,wV 118 20 3,wI 119 85 117 118,wD 120 92 119,wO 121 .neq 92 116 120 92 4] [[],[],[],[],[2,3],[0,1,2,3,4],[],[],[6,7],[6,7,8],[0,1,2,3,4,5,6,7,8,
 9]] [111,112,113,114,115,116,117,118,119,120],CN 121 (SQ [RG [oQ 122 (.build 29 #[]) 29,wS 29 8 122 [122],wN 9 0 3,wN 10 0 3,wB 11 false 4],.ret]) .skip]),RG [wV 109 20 3 [20],wK 110 .add 3 109 1 3 3 [109],wG 20 110 3 [110]]]
def Dv.s0:SC:=
 SQ [SQ [RG [wV 55 16 3,wV 56 13 3,wO 57 .lss 3 55 56 3 4 [55,56]],CN 57 .skip (.exit 0)],.block 1 (SQ [RG [wV 60 0 33,wV 61 1 3,wV 62 2 3,wV 63 16 3,wO 64 .add 3 62 63 3 3 [62,63],wC 65 106 #[.tmp 60,.tmp 61,.tmp 64] #[33,3,3] 92 [60,61,64],wS 92 12 65 [65]],RG [wV 66 15 82 [15],oQ 67 (.slice 92 (.tmp 12) (some (.const (.int .i64 8))) (some (.const (.int .i64 31))) none) 82,
 wP 68 66 67 82 82 82 [66,67],wG 15 68 82 [68]]]),RG [wV 58 16 3 [16],wK 59 .add 3 58 1 3 3 [58],wG 16 59 3 [59]]]
def Dv.c:SC:=
 SQ [RG [wA 8 29,wN 9 0 3 [9],wN 10 0 3 [10],wB 11 false 4 [11]],SQ [RG [wV 21 2 3,wK 22 .geq 3 21 602 3 4 [21],wV 23 22 4 [22],gd 23 false (wV 24 3 3),gd 23 false (wK 25 .geq 3 24 60 3 4 [24]),wT 26 23 25 4 [23,25]],CN 26 (SQ [RG [oQ 27 (.build 29 #[]) 29,wS 29 8 27 [27],wN 9 0 3,wN 10 0 3,wB 11 false 4],.ret]) .skip],RG [wV 28 0 33,wV 29 1 3,wV 30 2 3,wC 31 106 #[.tmp 28,.tmp 29,.tmp 30] #[33,3,
 3] 92 [28,29,30],wA 12 92,wS 92 12 31 [31]],RG [wJ 32 92 12 7,wD 33 5 32 [32],wY 34 5 3 33 3 [33],wG 13 34 3 [34]],RG [wD 35 92 12,wU 36 105 35 92 3 [35],wG 14 36 3 [36]],SQ [RG [wJ 37 92 12 0,wD 38 5 37 [37],oQ 39 (.binOp .neq 5 (.tmp 38) (.const (.int .u8 112)) 5) 4 [38],wV 40 39 4 [39],gd 40 false (wV 41 14 3),gd 40 false (wK 42 .eql 3 41 0 3 4 [41]),wT 43 40 42 4 [40,42],wV 44 43 4 [43],
 gd 44 false (wV 45 13 3),gd 44 false (wK 46 .eql 3 45 0 3 4 [45]),wT 47 44 46 4 [44,46],wV 48 47 4 [47],gd 48 false (wV 49 2 3),gd 48 false (wV 50 13 3),gd 48 false (wO 51 .add 3 49 50 3 3 [49,50]),gd 48 false (wK 52 .gtr 3 51 602 3 4 [51]),wT 53 48 52 4 [48,52]],CN 53 (SQ [RG [oQ 54 (.build 29 #[]) 29,wS 29 8 54 [54],wN 9 0 3,wN 10 0 3,wB 11 false 4],.ret]) .skip],
 RG [oQ 15 (.assign (.const (.slice none 0 0))) 82],SQ [RG [wN 16 0 3],.block 0 (.loop Dv.s0)],SQ [RG [wV 69 15 82,wL 70 69 82 3 [69],wK 71 .lss 3 70 16 3 4 [70],wV 72 71 4 [71],gd 72 false (wV 73 15 82),gd 72 false (wL 74 73 82 3 [73]),gd 72 false (wV 75 15 82),gd 72 false (wJ 76 82 75 15 [75]),gd 72 false (wD 77 5 76 [76]),gd 72 false (wY 78 5 3 77 3 [77]),
 gd 72 false (oQ 79 (.binOp .add 3 (.const (.int .i64 16)) (.tmp 78) 3) 3 [78]),gd 72 false (wO 80 .lss 3 74 79 3 4 [74,79]),wT 81 72 80 4 [72,80]],CN 81 (SQ [RG [oQ 82 (.build 29 #[]) 29,wS 29 8 82 [82],wN 9 0 3,wN 10 0 3,wB 11 false 4],.ret]) .skip],RG [wV 84 15 82,wV 85 15 82 [15],wJ 86 82 85 15 [85],wD 87 5 86 [86],wY 88 5 3 87 3 [87],
 oQ 89 (.binOp .add 3 (.const (.int .i64 16)) (.tmp 88) 3) 3 [88],oQ 90 (.slice 82 (.tmp 84) none (some (.tmp 89)) none) 82 [84,89],wU 91 128 90 82 197 [90],wV 83 91 197 [91],wX 92 83 0 29,wX 93 83 1 45 [83],wA 17 29,wS 29 17 92 [92],wG 18 93 45 [93]],SQ [RG [wV 94 18 45 [18],wK 95 .neq 45 94 0 45 4 [94]],CN 95 (SQ [RG [oQ 96 (.build 29 #[]) 29,wS 29 8 96 [96],wN 9 0 3,wN 10 0 3,wB 11 false 4],
 .ret]) .skip],RG [wD 97 29 17,wV 98 3 3 [3],wV 99 14 3,wC 100 47 #[.tmp 97,.tmp 98,.tmp 99] #[29,3,3] 85 [97,98,99],wG 19 100 85 [100]],SQ [RG [wV 101 19 85,wL 102 101 85 3 [101],wV 103 13 3,wO 104 .neq 3 102 103 3 4 [102,103]],CN 104 (SQ [RG [oQ 105 (.build 29 #[]) 29,wS 29 8 105 [105],wN 9 0 3,wN 10 0 3,wB 11 false 4],.ret]) .skip],SQ [RG [wN 20 0 3],.block 2 (.loop Dv.s1)],
 RG [wD 123 29 17 [17],wV 124 13 3 [13],wV 125 14 3 [14],wS 29 8 123 [123],wG 9 124 3 [124],wG 10 125 3 [125],wB 11 true 4],.ret]
def BB.b0 (k:Nat) (l0:(List (Aa 2 (Aa 32 Int)))) (a1:Int) (gN:Int) (x4:Int):((Aa 32 Int)×Int×(List Int))->Option (AT ((Aa 32 Int)×Int×(List Int)) ((List Int)) (Ab×Int×Int×Bool)):=fun s=>match s with
 |(s11,i12,j6)=>
   bif decide (i12<ab x4) then
    (Dt k l0 a1 (ab (gN+i12))).bind fun dt=>
    (dN 1 j6 ((dt.l.drop 8).take 23)).bind fun sB=>
    some (.next (dt,ab (i12+1),sB))
   else
    some (.brk j6)
def BB.b1 (k:Nat) (l0:(List (Aa 2 (Aa 32 Int)))) (a1:Int) (gN:Int) (x4:Int) (ng:(List (Aa 32 Int))):Int->Option (AT (Int) (Unit) (Ab×Int×Int×Bool)):=fun i27=>
 bif decide (i27<ab x4) then
  (Dt k l0 a1 (ab (gN+i27))).bind fun vg=>
  (at? ng i27).bind fun x30=>
  bif (!(Aa.eq (fun(x y:Int)=>decide (x=y)) vg x30)) then
   some (.ret ((⟨(⟨0,0⟩:Entry),0,0,0,(⟨0,0⟩:Entry),ByteArray.empty⟩:Ab),0,0,false))
  else
   some (.next (ab (i27+1)))
 else
  some (.brk ())
def BB.h0 (l0:(List (Aa 2 (Aa 32 Int)))) (a1:Int) (gN:Int) (k3:Int) (x4:Int) (x5:Int):((Aa 32 Int)×Int×(List Int))->St:=fun s=>match s with
 |(s11,i12,j6)=>⟨[(0,.sl 64 (List.map (Aa.c (n:=2) (Aa.c (n:=32) af)) l0)),(1,.int .i64 a1),(2,.int .i64 gN),(3,.int .i64 k3),(8,.ptr 0 0 0),(12,.ptr 0 1 0),(13,.int .i64 (ab x4)),(14,.int .i64 x5),(15,.loc 0 2 1 0 j6.length j6.length),(16,.int .i64 i12)],[(0,.box ([.int .i64 0,.int .i64 0,.int .i64 0,.int .i64 0,.int .i64 0,.int .i64 0,.int .i64 0,.str ByteArray.empty])),(1,.box (Aa.c (n:=32) af s11)),(2,.arr 5 1 (List.map af j6))],[],3,Tryz.f122.ntmps⟩
def BB.x0 (l0:(List (Aa 2 (Aa 32 Int)))) (a1:Int) (gN:Int) (k3:Int) (x4:Int) (x5:Int):(List Int)->St:=fun cD=>⟨[(0,.sl 64 (List.map (Aa.c (n:=2) (Aa.c (n:=32) af)) l0)),(1,.int .i64 a1),(2,.int .i64 gN),(3,.int .i64 k3),(8,.ptr 0 0 0),(13,.int .i64 (ab x4)),(14,.int .i64 x5),(15,.loc 0 1 1 0 cD.length cD.length)],[(0,.box ([.int .i64 0,.int .i64 0,.int .i64 0,.int .i64 0,.int .i64 0,.int .i64 0,.int .i64 0,.str ByteArray.empty])),(1,.arr 5 1 (List.map af cD))],[],2,Tryz.f122.ntmps⟩
def BB.h1 (l0:(List (Aa 2 (Aa 32 Int)))) (a1:Int) (gN:Int) (x4:Int) (x5:Int) (eY:Ab×Int) (ng:(List (Aa 32 Int))):Int->St:=fun i27=>⟨[(0,.sl 64 (List.map (Aa.c (n:=2) (Aa.c (n:=32) af)) l0)),(1,.int .i64 a1),(2,.int .i64 gN),(8,.ptr 0 0 0),(13,.int .i64 (ab x4)),(14,.int .i64 x5),(17,.ptr 0 1 0),(19,.sl 32 (List.map (Aa.c (n:=32) af) ng)),(20,.int .i64 i27)],[(0,.box ([.int .i64 0,.int .i64 0,.int .i64 0,.int .i64 0,.int .i64 0,.int .i64 0,.int .i64 0,.str ByteArray.empty])),(1,.box ([.int .i64 eY.1.At.Aq,.int .i64 eY.1.At.No,.int .i64 eY.1.Kind,.int .i64 eY.1.Day,.int .i64 eY.1.Bn,.int .i64 eY.1.Of.Aq,.int .i64 eY.1.Of.No,.str eY.1.Text]))],[],2,Tryz.f122.ntmps⟩
def BB.x1 (x4:Int) (x5:Int) (eY:Ab×Int):Unit->St:=fun _=>⟨[(8,.ptr 0 0 0),(13,.int .i64 (ab x4)),(14,.int .i64 x5),(17,.ptr 0 1 0)],[(0,.box ([.int .i64 0,.int .i64 0,.int .i64 0,.int .i64 0,.int .i64 0,.int .i64 0,.int .i64 0,.str ByteArray.empty])),(1,.box ([.int .i64 eY.1.At.Aq,.int .i64 eY.1.At.No,.int .i64 eY.1.Kind,.int .i64 eY.1.Day,.int .i64 eY.1.Bn,.int .i64 eY.1.Of.Aq,.int .i64 eY.1.Of.No,.str eY.1.Text]))],[],2,Tryz.f122.ntmps⟩
def BB (k:Nat) (l0:(List (Aa 2 (Aa 32 Int)))) (a1:Int) (gN:Int) (k3:Int):Option (Ab×Int×Int×Bool):=
 bif (!decide ((602:Int)<=gN)) then
  bif decide ((60:Int)<=k3) then
   some ((⟨(⟨0,0⟩:Entry),0,0,0,(⟨0,0⟩:Entry),ByteArray.empty⟩:Ab),0,0,false)
  else
   (Dt k l0 a1 gN).bind fun x3=>
   (x3.at? 7).bind fun x4=>
   (DZ k x3).bind fun x5=>
   (x3.at? 0).bind fun x6=>
   bif decide (x6=(112:Int)) then
    bif (!decide (x5=(0:Int))) then
     bif (!decide (ab x4=(0:Int))) then
      bif decide ((602:Int)<ab (gN+(ab x4))) then
       some ((⟨(⟨0,0⟩:Entry),0,0,0,(⟨0,0⟩:Entry),ByteArray.empty⟩:Ab),0,0,false)
      else
       (aj (BB.b0 k l0 a1 gN x4) k (x3,0,[])).bind fun r18=>match r18 with
       |.next _=>none
       |.ret v_=>some v_
       |.brk cD=>
        bif (!decide (((cD.length:Nat):Int)<(16:Int))) then
         (at? cD 15).bind fun eW=>
         bif decide (((cD.length:Nat):Int)<ab (16+(ab eW))) then
          some ((⟨(⟨0,0⟩:Entry),0,0,0,(⟨0,0⟩:Entry),ByteArray.empty⟩:Ab),0,0,false)
         else
          (nK cD.length (ab (16+(ab eW)))).bind fun _=>
          (Eh k (cD.take ((ab (16+(ab eW))).toNat))).bind fun eY=>
          bif (!decide (eY.2=(0:Int))) then
           some ((⟨(⟨0,0⟩:Entry),0,0,0,(⟨0,0⟩:Entry),ByteArray.empty⟩:Ab),0,0,false)
          else
           (Ci k eY.1 k3 x5).bind fun ng=>
           bif (!decide ((ng.length:Int)=ab x4)) then
            some ((⟨(⟨0,0⟩:Entry),0,0,0,(⟨0,0⟩:Entry),ByteArray.empty⟩:Ab),0,0,false)
           else
            (aj (BB.b1 k l0 a1 gN x4 ng) k 0).bind fun r32=>match r32 with
            |.next _=>none
            |.ret v_=>some v_
            |.brk _=>
             some (eY.1,ab x4,x5,true)
        else
         some ((⟨(⟨0,0⟩:Entry),0,0,0,(⟨0,0⟩:Entry),ByteArray.empty⟩:Ab),0,0,false)
     else
      some ((⟨(⟨0,0⟩:Entry),0,0,0,(⟨0,0⟩:Entry),ByteArray.empty⟩:Ab),0,0,false)
    else
     some ((⟨(⟨0,0⟩:Entry),0,0,0,(⟨0,0⟩:Entry),ByteArray.empty⟩:Ab),0,0,false)
   else
    some ((⟨(⟨0,0⟩:Entry),0,0,0,(⟨0,0⟩:Entry),ByteArray.empty⟩:Ab),0,0,false)
 else
  some ((⟨(⟨0,0⟩:Entry),0,0,0,(⟨0,0⟩:Entry),ByteArray.empty⟩:Ab),0,0,false)
theorem I2 (k:Nat) (l0:(List (Aa 2 (Aa 32 Int)))) (a1:Int) (gN:Int) (k3:Int) (r:Ab×Int×Int×Bool) (h0:BB k l0 a1 gN k3=some r):Ay Tryz.prog 122 [.sl 64 (List.map (Aa.c (n:=2) (Aa.c (n:=32) af)) l0),.int .i64 a1,.int .i64 gN,.int .i64 k3] (fun y=>y=.ar [.agg (Ab.c r.1),.int .i64 r.2.1,.int .i64 r.2.2.1,.bool r.2.2.2]):=by
 refine PB Tryz.f122 Dv.c [.cell 8 29,.tmp 9,.tmp 10,.tmp 11] ?_
 simp only[BB]at h0
 try simp only[Dv.c,go_sem]
 refine Cr h0 ?_ ?_<;>intro c1 h0<;>have F:=c1<;>try simp only[F,go_sem]
 refine AF F h0 ?_ ?_<;>intro F h0<;>try simp only[F,go_sem]
 obtain rfl:=oi h0
 refine Ag rfl ?_
 try simp only[F,go_sem]
 refine au h0 (Fe k _ _ _) ?_ (fun x3 h0=>?_)<;>try simp only[F,go_sem]
 obtain⟨x4,bS,h0⟩:=bs h0
 have iW:=Ap.bI fL (Ap.self gA x3) bS
 have jK:=iW.2
 try simp only[AA,Az,go_sem]at jK
 have F:=an (aw bS) (an jK F)
 try simp only[F,go_sem]
 refine au h0 (FP k _) ?_ (fun x5 h0=>?_)<;>try simp only[F,go_sem]
 obtain⟨x6,ee,h0⟩:=bs h0
 have rj:=Ap.bI fL (Ap.self gA x3) ee
 have nZ:=rj.2
 try simp only[AA,Az,go_sem]at nZ
 have F:=an (aw ee) (an nZ F)
 try simp only[F,go_sem]
 refine AF F h0 ?_ ?_<;>intro F h0<;>try simp only[F,go_sem]
 refine Bx F h0 ?_ ?_<;>intro F h0<;>try simp only[F,go_sem]
 refine Bx F h0 ?_ ?_<;>intro F h0<;>try simp only[F,go_sem]
 refine AF F h0 ?_ ?_<;>intro F h0<;>try simp only[F,go_sem]
 obtain rfl:=oi h0
 refine Ag rfl ?_
 try simp only[F,go_sem]
 obtain⟨r18,afz,h0⟩:=bs h0
 refine Bf afz (BB.h0 l0 a1 gN k3 x4 x5) (BB.x0 l0 a1 gN k3 x4 x5) ?_ ?_ ?_
 refine Ai.go [0,1,2,3,8,12,13,14,15,16] [0,224,640] rfl ?_
 try simp only[BB.h0,F,go_sem]
 rintro⟨s11,i12,j6⟩ cP Bl Bm h1 aH aF bL
 refine rS ?_
 simp only[BB.b0]at h1
 try simp only[Dv.s0,BB.h0,F,go_sem]
 refine AF F h1 ?_ ?_<;>intro F h1<;>try simp only[F,go_sem]
 refine au h1 (Fe k _ _ _) ?_ (fun dt h1=>?_)<;>try simp only[F,go_sem]
 have F:=an (@id (Int.toNat 8=8) rfl) (an (@id (Int.toNat 31=31) rfl) (an (@id (bounds 32 (some (.int .i64 8)) (some (.int .i64 31))=some (8,31)) rfl) (an (@id (31 - 8=23) rfl) F)))
 try simp only[F,go_sem]
 obtain⟨sB,aaW,h1⟩:=bs h1
 have tq:=gM af aaW
 try simp only[F,go_sem]at tq
 have F:=an tq F
 try simp only[aic,F,go_sem]
 refine AD (aH _ _ (oi h1).symm (Ai.go [0,1,2,3,8,12,13,14,15,16] [0,1,2] rfl ?_))
 try simp only[BB.h0,F,go_sem]
 refine AD (aF _ _ (oi h1).symm (Ai.go [0,1,2,3,8,13,14,15] [0,2] rfl ?_))
 try simp only[BB.x0,F,go_sem]
 rintro cD aI
 subst aI
 simp only at h0
 refine rS ?_
 try simp only[BB.x0,F,go_sem]
 refine Bx F h0 ?_ ?_<;>intro F h0<;>try simp only[F,go_sem]
 obtain⟨eW,ca,h0⟩:=bs h0
 have F:=an (aC ca) (an (aE af ca) F)
 try simp only[F,go_sem]
 refine AF F h0 ?_ ?_<;>intro F h0<;>try simp only[F,go_sem]
 obtain rfl:=oi h0
 refine Ag rfl ?_
 try simp only[F,go_sem]
 obtain⟨u22,akC,h0⟩:=bs h0
 have ait:=ah2 akC
 try simp only[go_sem]at ait
 have F:=an ait F
 try simp only[ah1 akC,F,go_sem]
 refine zqT [1] h0 (IS k _) ?_ fun eY h0=>?_
 try simp only[tM af cD ((ab (16+(ab eW))).toNat),F,go_sem]
 try simp only[F,go_sem]
 refine Bx F h0 ?_ ?_<;>intro F h0<;>try simp only[F,go_sem]
 obtain rfl:=oi h0
 refine Ag rfl ?_
 try simp only[F,go_sem]
 refine au h0 (FT k _ _ _) ?_ (fun ng h0=>?_)<;>try simp only[F,go_sem]
 refine Bx F h0 ?_ ?_<;>intro F h0<;>try simp only[F,go_sem]
 obtain rfl:=oi h0
 refine Ag rfl ?_
 try simp only[F,go_sem]
 obtain⟨r32,arG,h0⟩:=bs h0
 refine Bf arG (BB.h1 l0 a1 gN x4 x5 eY ng) (BB.x1 x4 x5 eY) ?_ ?_ ?_
 refine Ai.go [0,1,2,8,13,14,17,19,20] [0,386] rfl ?_
 try simp only[BB.h1,F,go_sem]
 rintro i27 cP Bl Bm h1 aH aF bL
 refine rS ?_
 simp only[BB.b1]at h1
 try simp only[Dv.s1,BB.h1,F,go_sem]
 refine AF F h1 ?_ ?_<;>intro F h1<;>try simp only[F,go_sem]
 refine AL AB aQ 1000 ?_
 try simp only[F,go_sem]
 refine cz h1 (Fe k _ _ _) ?_ (fun vg h1=>?_)<;>try simp only[F,go_sem]
 obtain⟨x30,akF,h1⟩:=bs h1
 have F:=an (aC akF) (an (aE (Aa.c (n:=32) af) akF) F)
 try simp only[F,go_sem]
 refine aK ?_
 try simp only[F,go_sem]
 refine Bx F h1 ?_ ?_<;>intro F h1<;>try simp only[F,go_sem]
 obtain rfl:=bL _ (oi h1).symm
 simp only at h0
 obtain rfl:=oi h0
 refine Ag rfl ?_
 try simp only[F,go_sem]
 refine AD (aH _ _ (oi h1).symm (Ai.go [0,1,2,8,13,14,17,19,20] [0,1] rfl ?_))
 try simp only[BB.h1,F,go_sem]
 refine AD (aF _ _ (oi h1).symm (Ai.go [8,13,14,17] [0,1] rfl ?_))
 try simp only[BB.x1,F,go_sem]
 rintro _ aI
 subst aI
 simp only at h0
 refine rS ?_
 try simp only[BB.x1,F,go_sem]
 obtain rfl:=oi h0
 refine Ag rfl ?_
 try simp only[F,go_sem]
 obtain rfl:=oi h0
 refine Ag rfl ?_
 try simp only[F,go_sem]
 obtain rfl:=oi h0
 refine Ag rfl ?_
 try simp only[F,go_sem]
 obtain rfl:=oi h0
 refine Ag rfl ?_
 try simp only[F,go_sem]
 obtain rfl:=oi h0
 refine Ag rfl ?_
 try simp only[F,go_sem]
 obtain rfl:=oi h0
 refine Ag rfl ?_
 try simp only[F,go_sem]
def Er.s0:SC:=
 .block 1 (SQ [RG [wV 43 0 33,wV 44 1 3,wF 45 151 8 2,wD 46 3 45 [45],wF 47 151 8 1,wD 48 38 47 [47],wL 49 48 38 3 [48],wC 50 122 #[.tmp 43,.tmp 44,.tmp 46,.tmp 49] #[33,3,3,3] 191 [43,44,46,49],wV 42 50 191 [50],wX 51 42 0 29,wX 52 42 1 3,wX 53 42 2 3,wX 54 42 3 4 [42],wA 11 29,wS 29 11 51 [51],wG 12 52 3 [52],wG 13 53 3 [53],wG 14 54 4 [54]],SQ [RG [wV 55 14 4 [14],wQ 56 55 4 [55],
 wV 57 56 4 [56],gd 57 false (wV 58 13 3),gd 57 false (wV 59 9 3 [9]),gd 57 false (wO 60 .lss 3 58 59 3 4 [58,59]),wT 61 57 60 4 [57,60],wV 62 61 4 [61],gd 62 false (wV 63 10 38),gd 62 false (wF 64 29 11 0),gd 62 false (wD 65 27 64 [64]),gd 62 false (wW 66 109 63 65 38 27 3 [63,65]),gd 62 false (wK 67 .geq 3 66 0 3 4 [66]),wT 68 62 67 4 [62,67]],CN 68 (.exit 0) .skip],RG [wV 70 10 38 [10],
 wD 71 29 11,wW 72 91 70 71 38 29 159 [70,71],wV 69 72 159 [72],wX 73 69 0 38,wX 74 69 1 45 [69],wG 15 73 38 [73],wG 16 74 45 [74]],SQ [RG [wV 75 16 45 [16],wK 76 .neq 45 75 0 45 4 [75]],CN 76 (.exit 0) .skip],RG [wV 77 15 38 [15],wG 10 77 38 [77]],RG [wF 78 151 8 1,wD 79 38 78 [78],wD 80 29 11 [11],oQ 81 (.buildSlice 38 1 #[(0,.tmp 80)]) 38 [80],wP 82 79 81 38 38 38 [79,81],wF 83 151 8 1,
 wS 38 83 82 [82,83]],RG [wF 84 151 8 2,wD 85 3 84 [84],wV 86 12 3 [12],wO 87 .add 3 85 86 3 3 [85,86],wF 88 151 8 2,wS 3 88 87 [87,88]],RG [wV 89 13 3 [13],wG 9 89 3 [89]]])
def Er.c:SC:=
 SQ [RG [wA 4 151],RG [wV 17 0 33,wV 18 1 3,wC 19 106 #[.tmp 17,.tmp 18,.const (.int .i64 0)] #[33,3,3] 92 [17,18],wA 5 92,wS 92 5 19 [19]],RG [wD 20 92 5,wU 21 105 20 92 3 [20],wG 6 21 3 [21]],RG [oQ 22 (.slice 92 (.tmp 5) (some (.const (.int .i64 4))) (some (.const (.int .i64 6))) none) 82,wU 23 121 22 82 3 [22],wG 7 23 3 [23]],SQ [.aL [wJ 24 92 5 0,wD 25 5 24,
 oQ 26 (.binOp .neq 5 (.tmp 25) (.const (.int .u8 104)) 5) 4,wV 27 26 4,gd 27 false (wV 28 6 3),gd 27 false (wK 29 .eql 3 28 0 3 4),wT 30 27 29 4,wV 31 30 4,gd 31 false (wD 32 92 5),gd 31 false (wV 33 6 3),gd 31 false (wV 34 7 3),gd 31 false (wW 35 50 33 34 3 3 92),gd 31 false (wO 36 .neq 92 32 35 92 4),wT 37 31 36 4] [[],[0],[0,1],[0,1,2],[0,1,2,3],[0,1,2,3,4],[0,1,2,3,4,5],[0,1,2,3,4,5,6],[0,1,2,
 3,4,5,6,7],[0,1,2,3,4,5,6,7],[0,1,2,3,4,5,6,7],[0,1,2,3,4,5,6,7,9,10],[0,1,2,3,4,5,6,7,8,9,10,11],[0,1,2,3,4,5,6,7,8,9,10,11,12]] [5,24,25,26,27,28,29,30,31,32,33,34,35,36],CN 37 (SQ [RG [oQ 38 (.build 151 #[]) 151,wS 151 4 38 [38]],.ret]) .skip],RG [wV 39 6 3,oQ 40 (.build 151 #[(0,.tmp 39),(2,.const (.int .i64 1))]) 151 [39],wA 8 151,wS 151 8 40 [40]],RG [wV 41 6 3 [6],wG 9 41 3 [41]],
 RG [oQ 10 (.assign (.const (.slice none 0 0))) 38],.block 0 (.loop Er.s0),SQ [RG [wF 90 151 8 1,wD 91 38 90 [90],wL 92 91 38 3 [91],wV 93 7 3 [7],wO 94 .lss 3 92 93 3 4 [92,93]],CN 94 (SQ [RG [oQ 95 (.build 151 #[]) 151,wS 151 4 95 [95]],.ret]) .skip],RG [wD 96 151 8 [8],wS 151 4 96 [96]],.ret]
def BD.b0 (k:Nat) (l0:(List (Aa 2 (Aa 32 Int)))) (a1:Int):(Int×(List Ab)×Int×(List Ab))->Option (AT (Int×(List Ab)×Int×(List Ab)) (Int×(List Ab)) (CH)):=fun s=>match s with
 |(i9,jl,i11,fW)=>
   (BB k l0 a1 i11 ((fW.length:Nat):Int)).bind fun cU=>
   bif cU.2.2.2 then
    bif (!decide (cU.2.2.1<i9)) then
     (BU k jl cU.1.At).bind fun kU=>
     bif decide ((0:Int)<=kU) then
      some (.brk (i11,fW))
     else
      (Ca k jl cU.1).bind fun eW=>
      bif (!decide (eW.2=(0:Int))) then
       some (.brk (i11,fW))
      else
       (fJ 72 fW cU.1).bind fun l22=>
       some (.next (cU.2.2.1,eW.1,ab (i11+cU.2.1),l22))
    else
     some (.brk (i11,fW))
   else
    some (.brk (i11,fW))
def BD.h0 (l0:(List (Aa 2 (Aa 32 Int)))) (a1:Int) (x2:Int) (x3:Int):(Int×(List Ab)×Int×(List Ab))->St:=fun s=>match s with
 |(i9,jl,i11,fW)=>⟨[(0,.sl 64 (List.map (Aa.c (n:=2) (Aa.c (n:=32) af)) l0)),(1,.int .i64 a1),(4,.ptr 0 0 0),(7,.int .i64 x3),(8,.ptr 0 2 0),(9,.int .i64 i9),(10,.sl 8 (List.map Ab.c jl))],[(0,.box ([.int .i64 0,.loc 0 1 8 0 0 0,.int .i64 0])),(1,.arr 29 8 (List.map Ab.c [])),(2,.box ([.int .i64 x2,.loc 0 3 8 0 fW.length fW.length,.int .i64 i11])),(3,.arr 29 8 (List.map Ab.c fW))],[],4,Tryz.f104.ntmps⟩
def BD.x0 (x2:Int) (x3:Int):(Int×(List Ab))->St:=fun s=>match s with
 |(i13,cD)=>⟨[(4,.ptr 0 0 0),(7,.int .i64 x3),(8,.ptr 0 2 0)],[(0,.box ([.int .i64 0,.loc 0 1 8 0 0 0,.int .i64 0])),(1,.arr 29 8 (List.map Ab.c [])),(2,.box ([.int .i64 x2,.loc 0 3 8 0 cD.length cD.length,.int .i64 i13])),(3,.arr 29 8 (List.map Ab.c cD))],[],4,Tryz.f104.ntmps⟩
def BD (k:Nat) (l0:(List (Aa 2 (Aa 32 Int)))) (a1:Int):Option (CH):=
 (Dt k l0 a1 0).bind fun x1=>
 (DZ k x1).bind fun x2=>
 (BM k ((x1.l.drop 4).take 2)).bind fun x3=>
 (x1.at? 0).bind fun x4=>
 bif decide (x4=(104:Int)) then
  bif (!decide (x2=(0:Int))) then
   (D0 k x2 x3).bind fun x7=>
   bif (!(Aa.eq (fun(x y:Int)=>decide (x=y)) x1 x7)) then
    some (⟨0,[],0⟩:CH)
   else
    (aj (BD.b0 k l0 a1) k (x2,[],1,[])).bind fun r23=>match r23 with
    |.next _=>none
    |.ret v_=>some v_
    |.brk (i13,cD)=>
     bif decide (((cD.length:Nat):Int)<x3) then
      some (⟨0,[],0⟩:CH)
     else
      some (⟨x2,cD,i13⟩:CH)
  else
   some (⟨0,[],0⟩:CH)
 else
  some (⟨0,[],0⟩:CH)
theorem HS (k:Nat) (l0:(List (Aa 2 (Aa 32 Int)))) (a1:Int) (r:CH) (h0:BD k l0 a1=some r):Ay Tryz.prog 104 [.sl 64 (List.map (Aa.c (n:=2) (Aa.c (n:=32) af)) l0),.int .i64 a1] (fun y=>y=.agg (CH.c r)):=by
 refine PB Tryz.f104 Er.c [.cell 4 151] ?_
 simp only[BD]at h0
 try simp only[Er.c,go_sem]
 refine au h0 (Fe k _ _ _) ?_ (fun x1 h0=>?_)<;>try simp only[go_sem]
 refine au h0 (FP k _) ?_ (fun x2 h0=>?_)<;>try simp only[go_sem]
 have F:=an (@id (Int.toNat 4=4) rfl) (an (@id (Int.toNat 6=6) rfl) (an (@id (bounds 32 (some (.int .i64 4)) (some (.int .i64 6))=some (4,6)) rfl) ((@id (6 - 4=2) rfl))))
 try simp only[F,go_sem]
 refine zqL h0 (Du k _) ?_ (fun x3 h0=>?_)
 try simp only[aid,aie,F,go_sem]
 try simp only[F,go_sem]
 refine AL AB aQ 1000 ?_
 try simp only[F,go_sem]
 obtain⟨x4,bS,h0⟩:=bs h0
 have iW:=Ap.bI fL (Ap.self gA x1) bS
 have jK:=iW.2
 try simp only[AA,Az,go_sem]at jK
 have F:=an (aw bS) (an jK F)
 try simp only[F,go_sem]
 refine DF F h0 ?_ ?_<;>intro F h0<;>try simp only[F,go_sem]
 refine Fi F h0 ?_ ?_<;>intro F h0<;>try simp only[F,go_sem]
 refine cz h0 (FQ k _ _) ?_ (fun x7 h0=>?_)<;>try simp only[F,go_sem]
 refine aK ?_
 try simp only[F,go_sem]
 refine Bx F h0 ?_ ?_<;>intro F h0<;>try simp only[F,go_sem]
 obtain rfl:=oi h0
 refine Ag rfl ?_
 try simp only[F,go_sem]
 obtain⟨r23,afB,h0⟩:=bs h0
 refine Bf afB (BD.h0 l0 a1 x2 x3) (BD.x0 x2 x3) ?_ ?_ ?_
 refine Ai.trans (Ai.fz 512 rfl (fun _ h=>by cases h)) ?_
 refine Ai.go [0,1,4,7,8,9,10] [0,1,448,464] rfl ?_
 try simp only[BD.h0,F,go_sem]
 rintro⟨i9,jl,i11,fW⟩ cP Bl Bm h1 aH aF bL
 refine rS ?_
 simp only[BD.b0]at h1
 try simp only[Er.s0,BD.h0,F,go_sem]
 refine au h1 (I2 k _ _ _ _) ?_ (fun cU h1=>?_)<;>try simp only[F,go_sem]
 refine AF F h1 ?_ ?_<;>intro F h1<;>try simp only[F,go_sem]
 refine Bx F h1 ?_ ?_<;>intro F h1<;>try simp only[F,go_sem]
 refine au h1 (HV k _ _) ?_ (fun kU h1=>?_)<;>try simp only[F,go_sem]
 refine AF F h1 ?_ ?_<;>intro F h1<;>try simp only[F,go_sem]
 refine AD (aF _ _ (oi h1).symm (Ai.go [4,7,8] [0,1,2,3] rfl ?_))
 try simp only[BD.x0,F,go_sem]
 refine au h1 (FR k _ _) ?_ (fun eW h1=>?_)<;>try simp only[F,go_sem]
 refine Bx F h1 ?_ ?_<;>intro F h1<;>try simp only[F,go_sem]
 refine AD (aF _ _ (oi h1).symm (Ai.go [4,7,8] [0,1,2,3] rfl ?_))
 try simp only[BD.x0,F,go_sem]
 obtain⟨l22,acP,h1⟩:=bs h1
 have akt:=pu Ab.c acP
 try simp only[F,go_sem]at akt
 have F:=an akt F
 try simp only[F,go_sem]
 refine AD (aH _ _ (oi h1).symm (Ai.go [0,1,4,7,8,9,10] [0,1,2,3] rfl ?_))
 try simp only[BD.h0,F,go_sem]
 refine AD (aF _ _ (oi h1).symm (Ai.go [4,7,8] [0,1,2,3] rfl ?_))
 try simp only[BD.x0,F,go_sem]
 refine AD (aF _ _ (oi h1).symm (Ai.go [4,7,8] [0,1,2,3] rfl ?_))
 try simp only[BD.x0,F,go_sem]
 rintro⟨i13,cD⟩ aI
 subst aI
 simp only at h0
 refine rS ?_
 try simp only[BD.x0,F,go_sem]
 refine AF F h0 ?_ ?_<;>intro F h0<;>try simp only[F,go_sem]
 obtain rfl:=oi h0
 refine Ag rfl ?_
 try simp only[F,go_sem]
 obtain rfl:=oi h0
 refine Ag rfl ?_
 try simp only[F,go_sem]
 refine aK ?_
 try simp only[F,go_sem]
 obtain rfl:=oi h0
 refine Ag rfl ?_
 try simp only[F,go_sem]
 refine aK ?_
 try simp only[F,go_sem]
 obtain rfl:=oi h0
 refine Ag rfl ?_
 try simp only[F,go_sem]
def Hy.c:SC:=
 SQ [RG [wN 2 0 3 [2],wA 3 151,wB 4 false 4 [4]],RG [wV 7 0 33,wC 8 104 #[.tmp 7,.const (.int .i64 0)] #[33,3] 151 [7],wA 5 151,wS 151 5 8 [8]],RG [wV 9 0 33 [0],wC 10 104 #[.tmp 9,.const (.int .i64 1)] #[33,3] 151 [9],wA 6 151,wS 151 6 10 [10]],SQ [RG [wF 11 151 5 0,wD 12 3 11 [11],wK 13 .eql 3 12 0 3 4 [12],wV 14 13 4 [13],gd 14 true (wF 15 151 6 0),gd 14 true (wD 16 3 15 [15]),
 gd 14 true (wK 17 .eql 3 16 0 3 4 [16]),wZ 18 14 17 4 [14,17]],CN 18 (SQ [RG [oQ 19 (.build 151 #[]) 151,wN 2 0 3,wS 151 3 19 [19],wB 4 false 4],.ret]) .skip],SQ [RG [wF 20 151 6 0,wD 21 3 20 [20],wF 22 151 5 0,wD 23 3 22 [22],wO 24 .gtr 3 21 23 3 4 [21,23]],CN 24 (SQ [.aL [wD 25 151 6,wN 2 1 3,wS 151 3 25,wB 4 true 4] [[],[],[0,1],[0,1,2]] [6,25],.ret]) .skip],.aL [wD 26 151 5,wN 2 0 3,
 wS 151 3 26,wB 4 true 4] [[],[],[0,1],[0,1,2]] [5,26],.ret]
def DJ (k:Nat) (l0:(List (Aa 2 (Aa 32 Int)))):Option (Int×CH×Bool):=
 (BD k l0 0).bind fun x1=>
 (BD k l0 1).bind fun x2=>
 bif decide (x1.Ax=(0:Int)) then
  bif decide (x2.Ax=(0:Int)) then
   some (0,(⟨0,[],0⟩:CH),false)
  else
   bif decide (x1.Ax<x2.Ax) then
    some (1,x2,true)
   else
    some (0,x1,true)
 else
  bif decide (x1.Ax<x2.Ax) then
   some (1,x2,true)
  else
   some (0,x1,true)
theorem HX (k:Nat) (l0:(List (Aa 2 (Aa 32 Int)))) (r:Int×CH×Bool) (h0:DJ k l0=some r):Ay Tryz.prog 82 [.sl 64 (List.map (Aa.c (n:=2) (Aa.c (n:=32) af)) l0)] (fun y=>y=.ar [.int .i64 r.1,.agg (CH.c r.2.1),.bool r.2.2]):=by
 refine PB Tryz.f82 Hy.c [.tmp 2,.cell 3 151,.tmp 4] ?_
 simp only[DJ]at h0
 try simp only[Hy.c,go_sem]
 refine au h0 (HS k _ _) ?_ (fun x1 h0=>?_)<;>try simp only[go_sem]
 refine au h0 (HS k _ _) ?_ (fun x2 h0=>?_)<;>try simp only[go_sem]
 refine AR h0 ?_ ?_<;>intro c3 h0<;>have F:=c3<;>try simp only[F,go_sem]
 refine AF F h0 ?_ ?_<;>intro F h0<;>try simp only[F,go_sem]
 obtain rfl:=oi h0
 refine Ag rfl ?_
 try simp only[F,go_sem]
 refine AF F h0 ?_ ?_<;>intro F h0<;>try simp only[F,go_sem]
 refine AL AB aQ 1000 ?_
 try simp only[F,go_sem]
 refine aK ?_
 try simp only[F,go_sem]
 obtain rfl:=oi h0
 refine Ag rfl ?_
 try simp only[F,go_sem]
 refine AL AB aQ 1000 ?_
 try simp only[F,go_sem]
 refine aK ?_
 try simp only[F,go_sem]
 obtain rfl:=oi h0
 refine Ag rfl ?_
 try simp only[F,go_sem]
 refine AF F h0 ?_ ?_<;>intro F h0<;>try simp only[F,go_sem]
 refine AL AB aQ 1000 ?_
 try simp only[F,go_sem]
 refine aK ?_
 try simp only[F,go_sem]
 obtain rfl:=oi h0
 refine Ag rfl ?_
 try simp only[F,go_sem]
 refine AL AB aQ 1000 ?_
 try simp only[F,go_sem]
 refine aK ?_
 try simp only[F,go_sem]
 obtain rfl:=oi h0
 refine Ag rfl ?_
 try simp only[F,go_sem]
def EP.s0:SC:=
 SQ [SQ [RG [wV 5 4 3,wV 6 0 38,wL 7 6 38 3 [6],wO 8 .lss 3 5 7 3 4 [5,7]],CN 8 .skip (.exit 0)],.block 1 (RG [wV 12 3 38 [3],wV 13 0 38,wV 14 4 3,wI 15 38 13 14 [13,14],wD 16 29 15 [15],wW 17 91 12 16 38 29 159 [12,16],wV 11 17 159 [17],wX 18 11 0 38,wX 19 11 1 45 [11,19],wG 3 18 38 [18]]),RG [wV 9 4 3 [4],wK 10 .add 3 9 1 3 3 [9],wG 4 10 3 [10]]]
def EP.c:SC:=
 SQ [RG [wA 2 40],RG [oQ 3 (.assign (.const (.slice none 0 0))) 38],SQ [RG [wN 4 0 3],.block 0 (.loop EP.s0)],RG [wV 20 3 38 [3],oQ 21 (.build 40 #[(0,.tmp 20)]) 40 [20],wS 40 2 21 [21]],.ret]
def BX.b0 (k:Nat) (l0:(List Ab)):((List Ab)×Int)->Option (AT ((List Ab)×Int) ((List Ab)) (Ah)):=fun s=>match s with
 |(l1,i2)=>
   bif decide (i2<(l0.length:Int)) then
    (at? l0 i2).bind fun x5=>
    (Ca k l1 x5).bind fun x6=>
    some (.next (x6.1,ab (i2+1)))
   else
    some (.brk l1)
def BX.h0 (l0:(List Ab)):((List Ab)×Int)->St:=fun s=>match s with
 |(l1,i2)=>⟨[(0,.sl 8 (List.map Ab.c l0)),(2,.ptr 0 0 0),(3,.sl 8 (List.map Ab.c l1)),(4,.int .i64 i2)],[(0,.box ([.loc 0 1 8 0 0 0])),(1,.arr 29 8 (List.map Ab.c []))],[],2,Tryz.f83.ntmps⟩
def BX.x0:(List Ab)->St:=fun l3=>⟨[(2,.ptr 0 0 0),(3,.sl 8 (List.map Ab.c l3))],[(0,.box ([.loc 0 1 8 0 0 0])),(1,.arr 29 8 (List.map Ab.c []))],[],2,Tryz.f83.ntmps⟩
def BX (k:Nat) (l0:(List Ab)):Option (Ah):=
 (aj (BX.b0 k l0) k ([],0)).bind fun r7=>match r7 with
 |.next _=>none
 |.ret v_=>some v_
 |.brk l3=>
  some (⟨l3⟩:Ah)
theorem HT (k:Nat) (l0:(List Ab)) (r:Ah) (h0:BX k l0=some r):Ay Tryz.prog 83 [.sl 8 (List.map Ab.c l0)] (fun y=>y=.agg (Ah.c r)):=by
 refine PB Tryz.f83 EP.c [.cell 2 40] ?_
 simp only[BX]at h0
 try simp only[EP.c,go_sem]
 obtain⟨r7,kX,h0⟩:=bs h0
 refine Bf kX (BX.h0 l0) (BX.x0) ?_ ?_ ?_
 refine Ai.trans (Ai.fz 16 rfl (fun _ h=>by cases h)) ?_
 refine Ai.go [0,2,3,4] [0,1] rfl ?_
 try simp only[BX.h0,go_sem]
 rintro⟨l1,i2⟩ cP Bl Bm h1 aH aF bL
 refine rS ?_
 simp only[BX.b0]at h1
 try simp only[EP.s0,BX.h0,go_sem]
 refine AR h1 ?_ ?_<;>intro c4 h1<;>have F:=c4<;>try simp only[F,go_sem]
 obtain⟨x5,cE,h1⟩:=bs h1
 have F:=an (aC cE) (an (aE Ab.c cE) F)
 try simp only[F,go_sem]
 refine au h1 (FR k _ _) ?_ (fun x6 h1=>?_)<;>try simp only[F,go_sem]
 refine AD (aH _ _ (oi h1).symm (Ai.go [0,2,3,4] [0,1] rfl ?_))
 try simp only[BX.h0,F,go_sem]
 refine AD (aF _ _ (oi h1).symm (Ai.go [2,3] [0,1] rfl ?_))
 try simp only[BX.x0,F,go_sem]
 rintro l3 aI
 subst aI
 simp only at h0
 refine rS ?_
 try simp only[BX.x0,go_sem]
 obtain rfl:=oi h0
 refine Ag rfl ?_
 try simp only[go_sem]
def ER.s0:SC:=
 SQ [SQ [RG [wV 10 8 3,wK 11 .lss 3 10 602 3 4 [10]],CN 11 .skip (.exit 0)],.block 1 (RG [wV 14 7 3 [7],wV 15 0 33,wV 16 1 3,wV 17 8 3,wC 18 106 #[.tmp 15,.tmp 16,.tmp 17] #[33,3,3] 92 [15,16,17],wU 19 105 18 92 3 [18],oQ 20 (.call ⟨.builtin .max,#[.tmp 14,.tmp 19],#[3,3]⟩) 3 [14,19],wG 7 20 3 [20]]),RG [wV 12 8 3 [8],wK 13 .add 3 12 1 3 3 [12],wG 8 13 3 [13]]]
def ER.c:SC:=
 SQ [RG [wN 6 0 3 [6]],RG [wN 7 0 3],SQ [RG [wV 9 2 3 [2],wG 8 9 3 [9]],.block 0 (.loop ER.s0)],RG [wV 21 7 3 [7],wG 6 21 3 [21]],.ret]
def BJ.b0 (k:Nat) (l0:(List (Aa 2 (Aa 32 Int)))) (a1:Int):(Int×Int)->Option (AT (Int×Int) (Int) (Int)):=fun s=>match s with
 |(i1,i2)=>
   bif decide (i2<(602:Int)) then
    (Dt k l0 a1 i2).bind fun x5=>
    (DZ k x5).bind fun x6=>
    some (.next (max i1 x6,ab (i2+1)))
   else
    some (.brk i1)
def BJ.h0 (l0:(List (Aa 2 (Aa 32 Int)))) (a1:Int):(Int×Int)->St:=fun s=>match s with
 |(i1,i2)=>⟨[(0,.sl 64 (List.map (Aa.c (n:=2) (Aa.c (n:=32) af)) l0)),(1,.int .i64 a1),(7,.int .i64 i1),(8,.int .i64 i2)],[],[],1,Tryz.f84.ntmps⟩
def BJ.x0:Int->St:=fun i3=>⟨[(7,.int .i64 i3)],[],[],1,Tryz.f84.ntmps⟩
def BJ (k:Nat) (l0:(List (Aa 2 (Aa 32 Int)))) (a1:Int) (aX:Int):Option (Int):=
 (aj (BJ.b0 k l0 a1) k (0,aX)).bind fun r7=>match r7 with
 |.next _=>none
 |.ret v_=>some v_
 |.brk i3=>
  some i3
theorem Fc (k:Nat) (l0:(List (Aa 2 (Aa 32 Int)))) (a1:Int) (aX:Int) (r:Int) (h0:BJ k l0 a1 aX=some r):Ay Tryz.prog 84 [.sl 64 (List.map (Aa.c (n:=2) (Aa.c (n:=32) af)) l0),.int .i64 a1,.int .i64 aX] (fun y=>y=.int .i64 r):=by
 refine PB Tryz.f84 ER.c [.tmp 6] ?_
 simp only[BJ]at h0
 try simp only[ER.c,go_sem]
 obtain⟨r7,kX,h0⟩:=bs h0
 refine Bf kX (BJ.h0 l0 a1) (BJ.x0) ?_ ?_ ?_
 refine Ai.go [0,1,7,8] [] rfl ?_
 try simp only[BJ.h0,go_sem]
 rintro⟨i1,i2⟩ cP Bl Bm h1 aH aF bL
 refine rS ?_
 simp only[BJ.b0]at h1
 try simp only[ER.s0,BJ.h0,go_sem]
 refine AR h1 ?_ ?_<;>intro c4 h1<;>have F:=c4<;>try simp only[F,go_sem]
 refine au h1 (Fe k _ _ _) ?_ (fun x5 h1=>?_)<;>try simp only[F,go_sem]
 refine au h1 (FP k _) ?_ (fun x6 h1=>?_)<;>try simp only[F,go_sem]
 refine AD (aH _ _ (oi h1).symm (Ai.go [0,1,7,8] [] rfl ?_))
 try simp only[BJ.h0,F,go_sem]
 refine AD (aF _ _ (oi h1).symm (Ai.go [7] [] rfl ?_))
 try simp only[BJ.x0,F,go_sem]
 rintro i3 aI
 subst aI
 simp only at h0
 refine rS ?_
 try simp only[BJ.x0,go_sem]
 obtain rfl:=oi h0
 refine Ag rfl ?_
 try simp only[go_sem]
def Hi.c:SC:=
 SQ [RG [wE 2 36 0 [0],wE 3 42 1 [1],wN 4 0 45 [4]],SQ [RG [wD 9 36 2,wU 10 80 9 36 4 [9],wQ 11 10 4 [10],wV 12 11 4 [11],gd 12 false (wF 13 42 3 2),gd 12 false (wD 14 3 13 [13]),gd 12 false (wC 15 54 #[.tmp 14,.const (.int .i64 1),.const (.int .i64 1000000)] #[3,3,3] 4 [14]),gd 12 false (wQ 16 15 4 [15]),wT 17 12 16 4 [12,16]],CN 17 (SQ [RG [wN 4 94 45],.ret]) .skip],RG [wD 18 36 2 [2],
 wU 19 81 18 36 33 [18],wG 5 19 33 [19]],RG [wV 21 5 33,wU 22 82 21 33 152 [21],wV 20 22 152 [22],wX 23 20 0 3,wX 24 20 1 151,wX 25 20 2 4 [20],wA 7 151,wG 6 23 3 [23],wS 151 7 24 [24],wG 8 25 4 [25]],SQ [.aL [wV 26 8 4,wQ 27 26 4,wV 28 27 4,gd 28 false (wF 29 42 3 1),gd 28 false (wD 30 3 29),gd 28 false (wV 31 6 3),gd 28 false (wO 32 .neq 3 30 31 3 4),wT 33 28 32 4,wV 34 33 4,
 gd 34 false (wF 35 42 3 3),gd 34 false (wD 36 3 35),gd 34 false (wF 37 151 7 2),gd 34 false (wD 38 3 37),gd 34 false (wO 39 .neq 3 36 38 3 4),wT 40 34 39 4,wV 41 40 4,gd 41 false (wF 42 42 3 0),gd 41 false (wF 43 40 42 0),gd 41 false (wD 44 38 43),gd 41 false (wF 45 151 7 1),gd 41 false (wD 46 38 45),gd 41 false (wU 47 83 46 38 40),gd 41 false (oQ 48 (.field 40 (.tmp 47) 0) 38),
 gd 41 false (wW 49 66 44 48 38 38 4),gd 41 false (wQ 50 49 4),wT 51 41 50 4] [[],[0],[0,1],[0,1,2],[0,1,2,3],[0,1,2],[0,1,2,3,4,5],[0,1,2,3,4,5,6],[0,1,2,3,4,5,6,7],[0,1,2,3,4,5,6,7,8],[0,1,2,3,4,5,6,7,8,9],[0,1,2,3,4,5,6,7,8],[0,1,2,3,4,5,6,7,8,11],[0,1,2,3,4,5,6,7,8,9,10,11,12],[0,1,2,3,4,5,6,7,8,9,10,11,12,13],[0,1,2,3,4,5,6,7,8,9,10,11,12,13,14],[0,1,2,3,4,5,6,7,8,9,10,11,12,13,14,15],[0,1,2,
 3,4,5,6,7,8,9,10,11,12,13,14,15,16],[0,1,2,3,4,5,6,7,8,9,10,11,12,13,14,15,16,17],[0,1,2,3,4,5,6,7,8,9,10,11,12,13,14,15],[0,1,2,3,4,5,6,7,8,9,10,11,12,13,14,15,19],[0,1,2,3,4,5,6,7,8,9,10,11,12,13,14,15,19,20],[0,1,2,3,4,5,6,7,8,9,10,11,12,13,14,15,19,20,21],[0,1,2,3,4,5,6,7,8,9,10,11,12,13,14,15,16,17,18,19,20,21,22],[0,1,2,3,4,5,6,7,8,9,10,11,12,13,14,15,16,17,18,19,20,21,22,23],[0,1,2,3,4,5,6,
 7,8,9,10,11,12,13,14,15,16,17,18,19,20,21,22,23,24]] [8,26,27,28,29,30,31,32,33,34,35,36,37,38,39,40,41,42,43,44,45,46,47,48,49,50],CN 51 (SQ [RG [wN 4 94 45],.ret]) .skip],SQ [.aL [wV 52 5 33,wC 53 84 #[.tmp 52,.const (.int .i64 0),.const (.int .i64 0)] #[33,3,3] 3,wF 54 42 3 2,wD 55 3 54,wO 56 .gtr 3 53 55 3 4,wV 57 56 4,gd 57 false (wV 58 5 33),gd 57 false (wC 59 84 #[.tmp 58,
 .const (.int .i64 1),.const (.int .i64 0)] #[33,3,3] 3),gd 57 false (wF 60 42 3 2),gd 57 false (wD 61 3 60),gd 57 false (wO 62 .gtr 3 59 61 3 4),wT 63 57 62 4,wV 64 63 4,gd 64 false (wV 65 5 33),gd 64 false (wV 66 6 3),gd 64 false (wF 67 151 7 2),gd 64 false (wD 68 3 67),gd 64 false (wC 69 84 #[.tmp 65,.tmp 66,.tmp 68] #[33,3,3] 3),gd 64 false (wF 70 42 3 2),gd 64 false (wD 71 3 70),
 gd 64 false (wO 72 .geq 3 69 71 3 4),wT 73 64 72 4] [[],[0],[],[2],[0,1,2,3],[0,1,2,3,4],[0,1,2,3,4,5],[0,1,2,3,4,5,6],[0,1,2,3,4,5],[0,1,2,3,4,5,8],[0,1,2,3,4,5,6,7,8,9],[0,1,2,3,4,5,6,7,8,9,10],[0,1,2,3,4,5,6,7,8,9,10,11],[0,1,2,3,4,5,6,7,8,9,10,11,12],[0,1,2,3,4,5,6,7,8,9,10,11,12],[0,1,2,3,4,5,6,7,8,9,10,11,12],[0,1,2,3,4,5,6,7,8,9,10,11,12,15],[0,1,2,3,4,5,6,7,8,9,10,11,12,13,14,15,16],[0,1,
 2,3,4,5,6,7,8,9,10,11,12],[0,1,2,3,4,5,6,7,8,9,10,11,12,18],[0,1,2,3,4,5,6,7,8,9,10,11,12,13,14,15,16,17,18,19],[0,1,2,3,4,5,6,7,8,9,10,11,12,13,14,15,16,17,18,19,20]] [3,5,6,7,52,53,54,55,56,57,58,59,60,61,62,63,64,65,66,67,68,69,70,71,72],CN 73 (SQ [RG [wN 4 94 45],.ret]) .skip],RG [wN 4 0 45],.ret]
def Dj (k:Nat) (d0:Ac) (l1:Aw):Option (Int):=
 (B7 k d0).bind fun x1=>
 bif x1 then
  (C8 k l1.Ax 1 1000000).bind fun x3=>
  bif (!x3) then
   some 94
  else
   (Cq k d0).bind fun x5=>
   (DJ k x5).bind fun x6=>
   bif x6.2.2 then
    bif decide (l1.Bj=x6.1) then
     bif decide (l1.Used=x6.2.1.Used) then
      (BX k x6.2.1.Aj).bind fun cm=>
      (B9 k l1.Ah.Aj cm.Aj).bind fun cT=>
      bif (!cT) then
       some 94
      else
       (BJ k x5 0 0).bind fun cI=>
       bif (!decide (l1.Ax<cI)) then
        (BJ k x5 1 0).bind fun cU=>
        bif (!decide (l1.Ax<cU)) then
         (BJ k x5 x6.1 x6.2.1.Used).bind fun jo=>
         bif decide (l1.Ax<=jo) then
          some 94
         else
          some 0
        else
         some 94
       else
        some 94
     else
      some 94
    else
     some 94
   else
    some 94
 else
  some 94
theorem HI (k:Nat) (d0:Ac) (l1:Aw) (r:Int) (h0:Dj k d0 l1=some r):Ay Tryz.prog 45 [.agg (Ac.c d0),.agg (Aw.c l1)] (fun y=>y=.int .i64 r):=by
 refine PB Tryz.f45 Hi.c [.tmp 4] ?_
 simp only[Dj]at h0
 try simp only[Hi.c,go_sem]
 refine au h0 (Fu k _) ?_ (fun x1 h0=>?_)<;>try simp only[go_sem]
 refine AR h0 ?_ ?_<;>intro c2 h0<;>have F:=c2<;>try simp only[F,go_sem]
 refine au h0 (D1 k _ _ _) ?_ (fun x3 h0=>?_)<;>try simp only[F,go_sem]
 refine Bx F h0 ?_ ?_<;>intro F h0<;>try simp only[F,go_sem]
 obtain rfl:=oi h0
 refine Ag rfl ?_
 try simp only[F,go_sem]
 refine au h0 (FU k _) ?_ (fun x5 h0=>?_)<;>try simp only[F,go_sem]
 refine au h0 (HX k _) ?_ (fun x6 h0=>?_)<;>try simp only[F,go_sem]
 refine AL AB aQ 1000 ?_
 try simp only[F,go_sem]
 refine DF F h0 ?_ ?_<;>intro F h0<;>try simp only[F,go_sem]
 refine DF F h0 ?_ ?_<;>intro F h0<;>try simp only[F,go_sem]
 refine DF F h0 ?_ ?_<;>intro F h0<;>try simp only[F,go_sem]
 refine cz h0 (HT k _) ?_ (fun cm h0=>?_)<;>try simp only[F,go_sem]
 refine cz h0 (HQ k _ _) ?_ (fun cT h0=>?_)<;>try simp only[F,go_sem]
 refine aK ?_
 try simp only[F,go_sem]
 refine Bx F h0 ?_ ?_<;>intro F h0<;>try simp only[F,go_sem]
 obtain rfl:=oi h0
 refine Ag rfl ?_
 try simp only[F,go_sem]
 refine AL AB aQ 1000 ?_
 try simp only[F,go_sem]
 refine cz h0 (Fc k _ _ _) ?_ (fun cI h0=>?_)<;>try simp only[F,go_sem]
 refine Fi F h0 ?_ ?_<;>intro F h0<;>try simp only[F,go_sem]
 refine cz h0 (Fc k _ _ _) ?_ (fun cU h0=>?_)<;>try simp only[F,go_sem]
 refine Fi F h0 ?_ ?_<;>intro F h0<;>try simp only[F,go_sem]
 refine cz h0 (Fc k _ _ _) ?_ (fun jo h0=>?_)<;>try simp only[F,go_sem]
 refine aK ?_
 try simp only[F,go_sem]
 refine AF F h0 ?_ ?_<;>intro F h0<;>try simp only[F,go_sem]
 obtain rfl:=oi h0
 refine Ag rfl ?_
 try simp only[F,go_sem]
 obtain rfl:=oi h0
 refine Ag rfl ?_
 try simp only[F,go_sem]
 refine aK ?_
 try simp only[F,go_sem]
 obtain rfl:=oi h0
 refine Ag rfl ?_
 try simp only[F,go_sem]
 refine aK ?_
 try simp only[F,go_sem]
 obtain rfl:=oi h0
 refine Ag rfl ?_
 try simp only[F,go_sem]
 refine aK ?_
 try simp only[F,go_sem]
 obtain rfl:=oi h0
 refine Ag rfl ?_
 try simp only[F,go_sem]
 refine aK ?_
 try simp only[F,go_sem]
 obtain rfl:=oi h0
 refine Ag rfl ?_
 try simp only[F,go_sem]
 refine aK ?_
 try simp only[F,go_sem]
 obtain rfl:=oi h0
 refine Ag rfl ?_
 try simp only[F,go_sem]
 obtain rfl:=oi h0
 refine Ag rfl ?_
 try simp only[F,go_sem]
def D8.c:SC:=
 SQ [RG [wE 1 36 0 [0],wA 2 36],.aL [oQ 3 (.buildSlice 33 0 #[]) 33,wF 4 36 1 0,wD 5 33 4,wP 6 3 5 33 33 33,oQ 7 (.buildSlice 34 0 #[]) 34,wF 8 36 1 1,wD 9 34 8,wP 10 7 9 34 34 34,oQ 11 (.build 36 #[(0,.tmp 6),(1,.tmp 10)]) 36,wS 36 2 11] [[],[],[1],[0,1,2],[],[],[5],[4,5,6,0,1,2,3],[0,1,2,3,4,5,6,7],[0,1,2,3,4,5,6,7,8]] [1,3,4,5,6,7,8,9,10,11],.ret]
theorem D8.rs:Tryz.f87.results.toList=[.cell 2 36]:=rfl
def DY (k:Nat) (d0:Ac):Option (Ac):=
 (fo d0.Af.length 64).bind fun _=>
 (fo d0.Ad.length 72).bind fun _=>
 some d0
theorem FO (k:Nat) (d0:Ac) (r:Ac) (h0:DY k d0=some r):Ay Tryz.prog 87 [.agg (Ac.c d0)] (fun y=>y=.agg (Ac.c r)):=by
 refine PB Tryz.f87 D8.c [.cell 2 36] ?_
 simp only[DY]at h0
 try simp only[D8.c,go_sem]
 refine AL AB aQ 1000 ?_
 try simp only[go_sem]
 obtain⟨u1,iX,h0⟩:=bs h0
 try simp only[lH iX,go_sem]
 obtain⟨u2,yu2,h0⟩:=bs h0
 try simp only[lH yu2,go_sem]
 refine aK ?_
 try simp only[go_sem]
 obtain rfl:=oi h0
 refine Ag rfl ?_
 try simp only[go_sem]
def E5 (k:Nat) (d0:Ac):Option (Ac):=
 (fo d0.Af.length 64).bind fun _=>
 (fo d0.Ad.length 72).bind fun _=>
 some d0
theorem IP (k:Nat) (d0:Ac) (r:Ac) (h0:E5 k d0=some r):A6 Tryz.prog 87 [.agg (Ac.c d0)] [] (fun y fr=>y=.agg [.loc 0 0 64 0 r.Af.length r.Af.length,.loc 0 1 65 0 r.Ad.length r.Ad.length]/\fr=[(0,.arr 113 64 (List.map (Aa.c (n:=2) (Aa.c (n:=32) af)) r.Af)),(1,.arr 116 65 (List.map Ao.c r.Ad))]):=by
 refine A6.gr AB (f:=87) (fn:=Tryz.f87) (sc:=D8.c) (by rfl) (by rfl) (by decide +kernel) (by rfl) (by decide +kernel) (Nat.le_of_ble_eq_true rfl) (fun H=>?_)
 refine rS ?_
 simp only[E5]at h0
 try simp only[D8.c,go_sem]
 refine AL AB aQ 1000 ?_
 try simp only[go_sem]
 obtain⟨u1,iX,h0⟩:=bs h0
 try simp only[lH iX,go_sem]
 obtain⟨u2,yu2,h0⟩:=bs h0
 try simp only[lH yu2,go_sem]
 refine aK ?_
 try simp only[go_sem]
 obtain rfl:=oi h0
 refine GM [48,112] (by simp) rfl rfl ?_
 try simp only[D8.rs,adW,b9,Ae,go_sem]
def Hj.c:SC:=
 SQ [RG [wE 1 36 0 [0],wA 2 36],SQ [RG [wD 3 36 1,wU 4 80 3 36 4 [3],wQ 5 4 4 [4]],CN 5 (SQ [RG [wD 6 36 1 [1],wU 7 87 6 36 36 [6],wS 36 2 7 [7]],.ret]) .skip],RG [wD 8 36 1 [1],wU 9 81 8 36 33 [8],oQ 10 (.build 36 #[(0,.tmp 9)]) 36 [9],wS 36 2 10 [10]],.ret]
def DI (k:Nat) (d0:Ac):Option (Ac):=
 (B7 k d0).bind fun x1=>
 bif (!x1) then
  (DY k d0).bind fun x3=>
  some x3
 else
  (Cq k d0).bind fun x4=>
  some (⟨x4,[]⟩:Ac)
theorem Fv (k:Nat) (d0:Ac) (r:Ac) (h0:DI k d0=some r):Ay Tryz.prog 48 [.agg (Ac.c d0)] (fun y=>y=.agg (Ac.c r)):=by
 refine PB Tryz.f48 Hj.c [.cell 2 36] ?_
 simp only[DI]at h0
 try simp only[Hj.c,go_sem]
 refine au h0 (Fu k _) ?_ (fun x1 h0=>?_)<;>try simp only[go_sem]
 refine Cr h0 ?_ ?_<;>intro c2 h0<;>have F:=c2<;>try simp only[F,go_sem]
 refine au h0 (FO k _) ?_ (fun x3 h0=>?_)<;>try simp only[F,go_sem]
 obtain rfl:=oi h0
 refine Ag rfl ?_
 try simp only[F,go_sem]
 refine au h0 (FU k _) ?_ (fun x4 h0=>?_)<;>try simp only[F,go_sem]
 obtain rfl:=oi h0
 refine Ag rfl ?_
 try simp only[F,go_sem]
def EF.s0:SC:=
 SQ [SQ [RG [wV 18 11 3,wV 19 3 85,wL 20 19 85 3 [19],wO 21 .lss 3 18 20 3 4 [18,20]],CN 21 .skip (.exit 0)],.block 1 (SQ [RG [wV 24 2 3,wV 25 11 3,wO 26 .add 3 24 25 3 3 [24,25],wG 12 26 3 [26]],RG [wV 27 1 3,oQ 28 (.binOp .mul 3 (.const (.int .i64 301)) (.tmp 27) 3) 3 [27],wV 29 12 3,wK 30 .quo 3 29 2 3 3 [29],wO 31 .add 3 28 30 3 3 [28,30],wG 13 31 3 [31]],.aL [wV 32 10 33,wV 33 13 3,
 wV 34 12 3,wK 35 .rem 3 34 2 3 3,wV 36 3 85,wV 37 11 3,wI 38 85 36 37,wD 39 92 38,wI 40 33 32 33,wI 41 113 40 35,wS 92 41 39] [[],[],[],[2],[],[],[4,5],[4,5,6],[0,1],[0,1,8,2,3,4,5,6,7],[0,1,8,2,3,4,5,6,7,9]] [32,33,34,35,36,37,38,39,40,41],RG [wV 42 11 3,wV 43 3 85,wL 44 43 85 3 [43],wK 45 .sub 3 44 1 3 3 [44],wO 46 .eql 3 42 45 3 4 [42,45],wV 47 46 4 [46],gd 47 false (wV 48 12 3),
 gd 47 false (wK 49 .add 3 48 1 3 3 [48]),gd 47 false (wK 50 .quo 3 49 2 3 3 [49]),gd 47 false (wV 51 12 3 [12]),gd 47 false (wK 52 .quo 3 51 2 3 3 [51]),gd 47 false (wO 53 .neq 3 50 52 3 4 [50,52]),wT 54 47 53 4 [47,53]],CN 54 (.aL [wF 55 36 9 1,wD 56 34 55,wV 57 13 3,wV 58 10 33,wV 59 13 3,wI 60 33 58 59,wD 61 113 60,oQ 62 (.build 116 #[(0,.tmp 57),(1,.tmp 61)]) 116,
 oQ 63 (.buildSlice 34 1 #[(0,.tmp 62)]) 34,wP 64 56 63 34 34 34,wF 65 36 9 1,wS 34 65 64] [[],[0],[],[],[],[3,4],[3,4,5],[2,3,4,5,6],[2,3,4,5,6,7],[0,1,2,3,4,5,6,7,8],[0,1,2,3,4,5,6,7,8,9],[0,1,2,3,4,5,6,7,8,9,10]] [13,55,56,57,58,59,60,61,62,63,64,65]) .skip]),RG [wV 22 11 3 [11],wK 23 .add 3 22 1 3 3 [22],wG 11 23 3 [23]]]
def EF.c:SC:=
 SQ [RG [wE 4 36 0 [0],wA 8 36],RG [wD 14 36 4,wU 15 87 14 36 36 [14],wA 9 36,wS 36 9 15 [15]],RG [wD 16 36 4 [4],wU 17 81 16 36 33 [16],wG 10 17 33 [17]],SQ [RG [wN 11 0 3],.block 0 (.loop EF.s0)],RG [wD 66 36 9 [9],wS 36 8 66 [66]],.ret]
def BK.b0 (k:Nat) (a1:Int) (aX:Int) (l3:(List (Aa 32 Int))):(Int×(List Ao)×(List (Aa 2 (Aa 32 Int))))->Option (AT (Int×(List Ao)×(List (Aa 2 (Aa 32 Int)))) ((List Ao)) (Ac)):=fun s=>match s with
 |(i5,l6,l7)=>
   bif decide (i5<(l3.length:Int)) then
    (at? l3 i5).bind fun cm=>
    (at? l7 (ab ((ab (301*a1))+(ab (Int.tdiv (ab (aX+i5)) 2))))).bind fun cT=>
    (cT.at? (Int.tmod (ab (aX+i5)) 2)).bind fun ij=>
    (dM l7 (ab ((ab (301*a1))+(ab (Int.tdiv (ab (aX+i5)) 2)))) (cT.set (Int.tmod (ab (aX+i5)) 2) cm)).bind fun cD=>
    bif (!decide (i5=ab ((l3.length:Int) - 1))) then
     bif (!decide (ab (Int.tdiv (ab ((ab (aX+i5))+1)) 2)=ab (Int.tdiv (ab (aX+i5)) 2))) then
      (at? cD (ab ((ab (301*a1))+(ab (Int.tdiv (ab (aX+i5)) 2))))).bind fun jo=>
      (fJ 72 l6 (⟨ab ((ab (301*a1))+(ab (Int.tdiv (ab (aX+i5)) 2))),jo⟩:Ao)).bind fun qK=>
      some (.next (ab (i5+1),qK,cD))
     else
      some (.next (ab (i5+1),l6,cD))
    else
     (at? cD (ab ((ab (301*a1))+(ab (Int.tdiv (ab (aX+i5)) 2))))).bind fun kV=>
     (fJ 72 l6 (⟨ab ((ab (301*a1))+(ab (Int.tdiv (ab (aX+i5)) 2))),kV⟩:Ao)).bind fun sC=>
     some (.next (ab (i5+1),sC,cD))
   else
    some (.brk l6)
def BK.h0 (a1:Int) (aX:Int) (l3:(List (Aa 32 Int))) (x2:Ac):(Int×(List Ao)×(List (Aa 2 (Aa 32 Int))))->St:=fun s=>match s with
 |(i5,l6,l7)=>⟨[(1,.int .i64 a1),(2,.int .i64 aX),(3,.sl 32 (List.map (Aa.c (n:=32) af) l3)),(8,.ptr 0 0 0),(9,.ptr 0 3 0),(10,.loc 0 5 64 0 l7.length l7.length),(11,.int .i64 i5)],[(0,.box ([.loc 0 1 64 0 0 0,.loc 0 2 65 0 0 0])),(1,.arr 113 64 (List.map (Aa.c (n:=2) (Aa.c (n:=32) af)) [])),(2,.arr 116 65 (List.map Ao.c [])),(3,.box ([.sl 64 (List.map (Aa.c (n:=2) (Aa.c (n:=32) af)) x2.Af),.loc 0 4 65 0 l6.length l6.length])),(4,.arr 116 65 (List.map Ao.c l6)),(5,.arr 113 64 (List.map (Aa.c (n:=2) (Aa.c (n:=32) af)) l7))],[],6,Tryz.f49.ntmps⟩
def BK.x0 (x2:Ac):(List Ao)->St:=fun l8=>⟨[(8,.ptr 0 0 0),(9,.ptr 0 3 0)],[(0,.box ([.loc 0 1 64 0 0 0,.loc 0 2 65 0 0 0])),(1,.arr 113 64 (List.map (Aa.c (n:=2) (Aa.c (n:=32) af)) [])),(2,.arr 116 65 (List.map Ao.c [])),(3,.box ([.sl 64 (List.map (Aa.c (n:=2) (Aa.c (n:=32) af)) x2.Af),.loc 0 4 65 0 l8.length l8.length])),(4,.arr 116 65 (List.map Ao.c l8))],[],5,Tryz.f49.ntmps⟩
def BK (k:Nat) (d0:Ac) (a1:Int) (aX:Int) (l3:(List (Aa 32 Int))):Option (Ac):=
 (E5 k d0).bind fun x2=>
 (Cy k d0).bind fun x4=>
 (aj (BK.b0 k a1 aX l3) k (0,x2.Ad,x4)).bind fun sP=>match sP with
 |.next _=>none
 |.ret v_=>some v_
 |.brk l8=>
  some (⟨x2.Af,l8⟩:Ac)
theorem FV (k:Nat) (d0:Ac) (a1:Int) (aX:Int) (l3:(List (Aa 32 Int))) (r:Ac) (h0:BK k d0 a1 aX l3=some r):Ay Tryz.prog 49 [.agg (Ac.c d0),.int .i64 a1,.int .i64 aX,.sl 32 (List.map (Aa.c (n:=32) af) l3)] (fun y=>y=.agg (Ac.c r)):=by
 refine PB Tryz.f49 EF.c [.cell 8 36] ?_
 simp only[BK]at h0
 try simp only[EF.c,go_sem]
 obtain⟨x2,ec,h0⟩:=bs h0
 refine H7 [] [] (IP k _ _ ec) ?_ rfl ?_
 try simp only[fS,go_sem]
 try simp only[go_sem]
 refine AK.tf (Ai.fz 48 rfl (fun _ h=>by cases h)) ?_
 try simp only[go_sem]
 refine rS ?_
 try simp only[go_sem]
 obtain⟨x4,bS,h0⟩:=bs h0
 refine CJ AB 1000 [] [] (I3 k _ _ bS) ?_ rfl ?_
 try simp only[fS,Bh,go_sem]
 try simp only[go_sem]
 obtain⟨sP,aa0,h0⟩:=bs h0
 refine Bf aa0 (BK.h0 a1 aX l3 x2) (BK.x0 x2) ?_ ?_ ?_
 refine Ai.go [1,2,3,8,9,10,11] [16,17,18,64,49,112] rfl ?_
 try simp only[BK.h0,go_sem]
 rintro⟨i5,l6,l7⟩ cP Bl Bm h1 aH aF bL
 refine rS ?_
 simp only[BK.b0]at h1
 try simp only[EF.s0,BK.h0,go_sem]
 refine AR h1 ?_ ?_<;>intro c9 h1<;>have F:=c9<;>try simp only[F,go_sem]
 refine AL AB aQ 1000 ?_
 try simp only[F,go_sem]
 obtain⟨cm,nh,h1⟩:=bs h1
 have F:=an (aC nh) (an (aE (Aa.c (n:=32) af) nh) F)
 try simp only[F,go_sem]
 obtain⟨cT,mD,h1⟩:=bs h1
 have F:=an (aC mD) (an (aE (Aa.c (n:=2) (Aa.c (n:=32) af)) mD) F)
 try simp only[F,go_sem]
 obtain⟨ij,pH,h1⟩:=bs h1
 have ajH:=Ap.bI gL (Ap.self fM cT) pH
 have aj6:=ajH.2
 try simp only[AA,Az,go_sem]at aj6
 have F:=an (aw pH) (an aj6 F)
 try simp only[F,go_sem]
 obtain⟨cD,pG,h1⟩:=bs h1
 have q13:=ajH.1.ow cm
 try simp only[AA,Az,go_sem]at q13
 have yA:=lI (Aa.c (n:=2) (Aa.c (n:=32) af)) pG
 try simp only[go_sem]at yA
 have F:=an yA (an (kP pG) (an (lJ (Aa.c (n:=2) (Aa.c (n:=32) af)) pG) F))
 try simp only[q13,F,go_sem]
 refine aK ?_
 try simp only[F,go_sem]
 refine Bx F h1 ?_ ?_<;>intro F h1<;>try simp only[F,go_sem]
 refine Bx F h1 ?_ ?_<;>intro F h1<;>try simp only[F,go_sem]
 refine AL AB aQ 1000 ?_
 try simp only[F,go_sem]
 obtain⟨jo,pK,h1⟩:=bs h1
 have ahc:=aC pK
 simp only[F,go_sem]at ahc
 have F:=an ahc (an (aE (Aa.c (n:=2) (Aa.c (n:=32) af)) pK) F)
 try simp only[F,go_sem]
 obtain⟨qK,vn,h1⟩:=bs h1
 have akq:=pu Ao.c vn
 try simp only[F,go_sem]at akq
 have F:=an akq F
 try simp only[F,go_sem]
 refine aK ?_
 try simp only[F,go_sem]
 refine AD (aH _ _ (oi h1).symm (Ai.go [1,2,3,8,9,10,11] [0,1,2,3,4,5] rfl ?_))
 try simp only[BK.h0,F,go_sem]
 refine AD (aH _ _ (oi h1).symm (Ai.go [1,2,3,8,9,10,11] [0,1,2,3,4,5] rfl ?_))
 try simp only[BK.h0,F,go_sem]
 refine AL AB aQ 1000 ?_
 try simp only[F,go_sem]
 obtain⟨kV,pL,h1⟩:=bs h1
 have yC:=aC pL
 simp only[F,go_sem]at yC
 have F:=an yC (an (aE (Aa.c (n:=2) (Aa.c (n:=32) af)) pL) F)
 try simp only[F,go_sem]
 obtain⟨sC,aaX,h1⟩:=bs h1
 have tr:=pu Ao.c aaX
 try simp only[F,go_sem]at tr
 have F:=an tr F
 try simp only[F,go_sem]
 refine aK ?_
 try simp only[F,go_sem]
 refine AD (aH _ _ (oi h1).symm (Ai.go [1,2,3,8,9,10,11] [0,1,2,3,4,5] rfl ?_))
 try simp only[BK.h0,F,go_sem]
 refine AD (aF _ _ (oi h1).symm (Ai.go [8,9] [0,1,2,3,4] rfl ?_))
 try simp only[BK.x0,F,go_sem]
 rintro l8 aI
 subst aI
 simp only at h0
 refine rS ?_
 try simp only[BK.x0,go_sem]
 obtain rfl:=oi h0
 refine Ag rfl ?_
 try simp only[go_sem]
def F9.s0:SC:=
 SQ [SQ [RG [wV 35 9 3,wF 36 42 3 0,wF 37 40 36 0 [36],wD 38 38 37 [37],wL 39 38 38 3 [38],wO 40 .lss 3 35 39 3 4 [35,39]],CN 40 .skip (.exit 0)],.block 1 (.aL [wV 43 8 85,wF 44 42 3 0,wF 45 40 44 0,wD 46 38 45,wV 47 9 3,wI 48 38 46 47,wD 49 29 48,wV 50 9 3,wF 51 42 7 2,wD 52 3 51,wC 53 47 #[.tmp 49,.tmp 50,.tmp 52] #[29,3,3] 85,wP 54 43 53 85 85 85,wG 8 54 85] [[],[],[1],[1,2],[],[1,2,3,4],[1,2,
 3,4,5],[],[],[8],[1,2,3,4,5,6,7,8,9],[0,1,2,3,4,5,6,7,8,9,10],[0,1,2,3,4,5,6,7,8,9,10,11]] [43,44,45,46,47,48,49,50,51,52,53,54]),RG [wV 41 9 3 [9],wK 42 .add 3 41 1 3 3 [41],wG 9 42 3 [42]]]
def F9.c:SC:=
 SQ [RG [wE 2 36 0 [0],wE 3 42 1 [1],oQ 4 (.assign (.const (.slice none 0 0))) 44 [4],wA 5 42,wN 6 0 45 [6]],SQ [RG [wD 14 36 2,wD 15 42 3,wW 16 45 14 15 36 42 45 [14,15],wK 17 .neq 45 16 0 45 4 [16]],CN 17 (SQ [RG [oQ 18 (.build 42 #[]) 42,oQ 4 (.assign (.const (.slice none 0 0))) 44,wS 42 5 18 [18],wN 6 94 45],.ret]) .skip],SQ [RG [wF 19 42 3 2,wD 20 3 19 [19],wK 21 .eql 3 20 1000000 3 4 [20]],
 CN 21 (SQ [RG [oQ 22 (.build 42 #[]) 42,oQ 4 (.assign (.const (.slice none 0 0))) 44,wS 42 5 22 [22],wN 6 2 45],.ret]) .skip],.aL [wF 23 42 3 0,wF 24 40 23 0,wD 25 38 24,wU 26 46 25 38 38,oQ 27 (.build 40 #[(0,.tmp 26)]) 40,wF 28 42 3 1,wD 29 3 28,oQ 30 (.binOp .sub 3 (.const (.int .i64 1)) (.tmp 29) 3) 3,wF 31 42 3 2,wD 32 3 31,wK 33 .add 3 32 1 3 3,oQ 34 (.build 42 #[(0,.tmp 27),(1,.tmp 30),
 (2,.tmp 33)]) 42,wA 7 42,wS 42 7 34] [[],[0],[0,1],[0,1,2],[0,1,2,3],[],[5],[5,6],[],[8],[8,9],[0,1,2,3,4,5,6,7,8,9,10],[],[12,0,1,2,3,4,5,6,7,8,9,10,11]] [23,24,25,26,27,28,29,30,31,32,33,34],RG [oQ 8 (.assign (.const (.slice none 0 0))) 85],SQ [RG [wN 9 0 3],.block 0 (.loop F9.s0)],RG [wV 55 8 85,wL 56 55 85 3 [55],oQ 57 (.binOp .add 3 (.const (.int .i64 1)) (.tmp 56) 3) 3 [56],wF 58 42 7 3,
 wS 3 58 57 [57,58]],RG [wD 59 36 2 [2],wU 60 48 59 36 36 [59],wA 10 36,wS 36 10 60 [60]],RG [wD 61 36 10,wF 62 42 7 1,wD 63 3 62 [62],wV 64 8 85 [8],wC 65 49 #[.tmp 61,.tmp 63,.const (.int .i64 1),.tmp 64] #[36,3,3,85] 36 [61,63,64],wA 11 36,wS 36 11 65 [65]],RG [wD 66 36 11,wU 67 48 66 36 36 [66],wA 12 36,wS 36 12 67 [67]],.aL [wD 68 36 12,wF 69 42 7 1,wD 70 3 69,wF 71 42 7 2,wD 72 3 71,
 wF 73 42 3 0,wF 74 40 73 0,wD 75 38 74,wL 76 75 38 3,wW 77 50 72 76 3 3 92,oQ 78 (.buildSlice 85 1 #[(0,.tmp 77)]) 85,wC 79 49 #[.tmp 68,.tmp 70,.const (.int .i64 0),.tmp 78] #[36,3,3,85] 36,wA 13 36,wS 36 13 79] [[],[],[1],[],[3],[],[5],[5,6],[5,6,7],[3,4,5,6,7,8],[3,4,5,6,7,8,9],[0,1,2,3,4,5,6,7,8,9,10],[],[12,0,1,2,3,4,5,6,7,8,9,10,11]] [3,68,69,70,71,72,73,74,75,76,77,78,79],
 .aL [wD 80 36 10,wD 81 36 11,wD 82 36 12,wD 83 36 13,wD 84 36 13,wU 85 48 84 36 36,oQ 86 (.buildSlice 44 5 #[(0,.tmp 80),(1,.tmp 81),(2,.tmp 82),(3,.tmp 83),(4,.tmp 85)]) 44,wD 87 42 7,wG 4 86 44,wS 42 5 87,wN 6 0 45] [[],[],[],[],[],[4],[0,1,2,3,4,5],[],[0,1,2,3,4,5,6],[7,0,1,2,3,4,5,6,8],[7,0,1,2,3,4,5,6,8,9]] [7,10,11,12,13,80,81,82,83,84,85,86,87],.ret]
def BH.b0 (k:Nat) (l1:Aw):(Int×(List (Aa 32 Int)))->Option (AT (Int×(List (Aa 32 Int))) ((List (Aa 32 Int))) ((List Ac)×Aw×Int)):=fun s=>match s with
 |(i5,l6)=>
   bif decide (i5<(l1.Ah.Aj.length:Int)) then
    (at? l1.Ah.Aj i5).bind fun x9=>
    (Ci k x9 i5 (ab (l1.Ax+1))).bind fun cm=>
    (dN 32 l6 cm).bind fun fI=>
    some (.next (ab (i5+1),fI))
   else
    some (.brk l6)
def BH.h0 (d0:Ac) (l1:Aw) (x4:(List Ab)):(Int×(List (Aa 32 Int)))->St:=fun s=>match s with
 |(i5,l6)=>⟨[(2,.ptr 0 0 0),(3,.ptr 0 1 0),(5,.ptr 0 2 0),(7,.ptr 0 4 0),(8,.loc 0 5 32 0 l6.length l6.length),(9,.int .i64 i5)],[(0,.box ([.sl 64 (List.map (Aa.c (n:=2) (Aa.c (n:=32) af)) d0.Af),.sl 65 (List.map Ao.c d0.Ad)])),(1,.box ([.sl 8 (List.map Ab.c l1.Ah.Aj),.int .i64 l1.Bj,.int .i64 l1.Ax,.int .i64 l1.Used])),(2,.box ([.loc 0 3 8 0 0 0,.int .i64 0,.int .i64 0,.int .i64 0])),(3,.arr 29 8 (List.map Ab.c [])),(4,.box ([.sl 8 (List.map Ab.c x4),.int .i64 (ab (1 - l1.Bj)),.int .i64 (ab (l1.Ax+1)),.int .i64 0])),(5,.arr 92 32 (List.map (Aa.c (n:=32) af) l6))],[],6,Tryz.f9.ntmps⟩
def BH.x0 (d0:Ac) (l1:Aw) (x4:(List Ab)):(List (Aa 32 Int))->St:=fun l7=>⟨[(2,.ptr 0 0 0),(3,.ptr 0 1 0),(5,.ptr 0 2 0),(7,.ptr 0 4 0),(8,.loc 0 5 32 0 l7.length l7.length)],[(0,.box ([.sl 64 (List.map (Aa.c (n:=2) (Aa.c (n:=32) af)) d0.Af),.sl 65 (List.map Ao.c d0.Ad)])),(1,.box ([.sl 8 (List.map Ab.c l1.Ah.Aj),.int .i64 l1.Bj,.int .i64 l1.Ax,.int .i64 l1.Used])),(2,.box ([.loc 0 3 8 0 0 0,.int .i64 0,.int .i64 0,.int .i64 0])),(3,.arr 29 8 (List.map Ab.c [])),(4,.box ([.sl 8 (List.map Ab.c x4),.int .i64 (ab (1 - l1.Bj)),.int .i64 (ab (l1.Ax+1)),.int .i64 0])),(5,.arr 92 32 (List.map (Aa.c (n:=32) af) l7))],[],6,Tryz.f9.ntmps⟩
def BH (k:Nat) (d0:Ac) (l1:Aw):Option ((List Ac)×Aw×Int):=
 (Dj k d0 l1).bind fun x1=>
 bif (!decide (x1=(0:Int))) then
  some ([],(⟨(⟨[]⟩:Ah),0,0,0⟩:Aw),94)
 else
  bif decide (l1.Ax=(1000000:Int)) then
   some ([],(⟨(⟨[]⟩:Ah),0,0,0⟩:Aw),2)
  else
   (Fa k l1.Ah.Aj).bind fun x4=>
   (aj (BH.b0 k l1) k (0,[])).bind fun r12=>match r12 with
   |.next _=>none
   |.ret v_=>some v_
   |.brk l7=>
    (DI k d0).bind fun cI=>
    (BK k cI (ab (1 - l1.Bj)) 1 l7).bind fun bJ=>
    (DI k bJ).bind fun cU=>
    (D0 k (ab (l1.Ax+1)) (l1.Ah.Aj.length:Int)).bind fun dt=>
    (BK k cU (ab (1 - l1.Bj)) 0 [dt]).bind fun jo=>
    (DI k jo).bind fun kU=>
    some ([cI,bJ,cU,jo,kU],(⟨(⟨x4⟩:Ah),ab (1 - l1.Bj),ab (l1.Ax+1),ab (1+((l7.length:Nat):Int))⟩:Aw),0)
theorem HN (k:Nat) (d0:Ac) (l1:Aw) (r:(List Ac)×Aw×Int) (h0:BH k d0 l1=some r):Ay Tryz.prog 9 [.agg (Ac.c d0),.agg (Aw.c l1)] (fun y=>y=.ar [.sl 2 (List.map Ac.c r.1),.agg (Aw.c r.2.1),.int .i64 r.2.2]):=by
 refine PB Tryz.f9 F9.c [.tmp 4,.cell 5 42,.tmp 6] ?_
 simp only[BH]at h0
 try simp only[F9.c,go_sem]
 refine au h0 (HI k _ _) ?_ (fun x1 h0=>?_)<;>try simp only[go_sem]
 refine Cr h0 ?_ ?_<;>intro c2 h0<;>have F:=c2<;>try simp only[F,go_sem]
 obtain rfl:=oi h0
 refine Ag rfl ?_
 try simp only[F,go_sem]
 refine AF F h0 ?_ ?_<;>intro F h0<;>try simp only[F,go_sem]
 obtain rfl:=oi h0
 refine Ag rfl ?_
 try simp only[F,go_sem]
 refine AL AB aQ 1000 ?_
 try simp only[F,go_sem]
 refine cz h0 (IZ k _) ?_ (fun x4 h0=>?_)<;>try simp only[F,go_sem]
 refine aK ?_
 try simp only[F,go_sem]
 obtain⟨r12,afx,h0⟩:=bs h0
 refine Bf afx (BH.h0 d0 l1 x4) (BH.x0 d0 l1 x4) ?_ ?_ ?_
 refine Ai.go [2,3,5,7,8,9] [0,16,48,49,384,416] rfl ?_
 try simp only[BH.h0,F,go_sem]
 rintro⟨i5,l6⟩ cP Bl Bm h1 aH aF bL
 refine rS ?_
 simp only[BH.b0]at h1
 try simp only[F9.s0,BH.h0,F,go_sem]
 refine AF F h1 ?_ ?_<;>intro F h1<;>try simp only[F,go_sem]
 refine AL AB aQ 1000 ?_
 try simp only[F,go_sem]
 obtain⟨x9,fb,h1⟩:=bs h1
 have F:=an (aC fb) (an (aE Ab.c fb) F)
 try simp only[F,go_sem]
 refine cz h1 (FT k _ _ _) ?_ (fun cm h1=>?_)<;>try simp only[F,go_sem]
 obtain⟨fI,mC,h1⟩:=bs h1
 have tn:=gM (Aa.c (n:=32) af) mC
 try simp only[F,go_sem]at tn
 have F:=an tn F
 try simp only[F,go_sem]
 refine aK ?_
 try simp only[F,go_sem]
 refine AD (aH _ _ (oi h1).symm (Ai.go [2,3,5,7,8,9] [0,1,2,3,4,5] rfl ?_))
 try simp only[BH.h0,F,go_sem]
 refine AD (aF _ _ (oi h1).symm (Ai.go [2,3,5,7,8] [0,1,2,3,4,5] rfl ?_))
 try simp only[BH.x0,F,go_sem]
 rintro l7 aI
 subst aI
 simp only at h0
 refine rS ?_
 try simp only[BH.x0,F,go_sem]
 refine au h0 (Fv k _) ?_ (fun cI h0=>?_)<;>try simp only[F,go_sem]
 refine zqT [5] h0 (FV k _ _ _ _) ?_ fun bJ h0=>?_<;>try simp only[F,go_sem]
 refine au h0 (Fv k _) ?_ (fun cU h0=>?_)<;>try simp only[F,go_sem]
 refine AL AB aQ 1000 ?_
 try simp only[F,go_sem]
 refine cz h0 (FQ k _ _) ?_ (fun dt h0=>?_)<;>try simp only[F,go_sem]
 obtain⟨jo,pK,h0⟩:=bs h0
 refine D6 1000 [486] [] (A6.apr (FV k _ _ _ _ _ pK) ?_) ?_ rfl ?_
 simp only[AV.ai,AV.aG,go_sem]
 try simp only[F,go_sem]
 try simp only[F,go_sem]
 refine aK ?_
 try simp only[F,go_sem]
 refine AL AB aQ 1000 ?_
 try simp only[F,go_sem]
 refine cz h0 (Fv k _) ?_ (fun kU h0=>?_)<;>try simp only[F,go_sem]
 refine aK ?_
 try simp only[F,go_sem]
 obtain rfl:=oi h0
 refine Ag rfl ?_
 try simp only[F,go_sem]
def Ha.c:SC:=
 SQ [RG [wN 4 0 3 [4]],RG [wV 5 0 3 [0],wV 6 1 3,wO 7 .rem 3 5 6 3 3 [5,6],wV 8 1 3,wO 9 .add 3 7 8 3 3 [7,8],wV 10 1 3 [1],wO 11 .rem 3 9 10 3 3 [9,10],wG 4 11 3 [11]],.ret]
def B8 (k:Nat) (n0:Int) (m1:Int):Option (Int):=
 (pk m1).bind fun _=>
 some (Int.tmod (ab ((Int.tmod n0 m1)+m1)) m1)
theorem CU (k:Nat) (n0:Int) (m1:Int) (r:Int) (h0:B8 k n0 m1=some r):Ay Tryz.prog 16 [.int .i64 n0,.int .i64 m1] (fun y=>y=.int .i64 r):=by
 refine PB Tryz.f16 Ha.c [.tmp 4] ?_
 simp only[B8]at h0
 try simp only[Ha.c,go_sem]
 obtain⟨u1,iX,h0⟩:=bs h0
 have F:=aeM iX
 try simp only[F,go_sem]
 obtain rfl:=oi h0
 refine Ag rfl ?_
 try simp only[F,go_sem]
def Hn.c:SC:=
 SQ [RG [wE 3 36 0 [0],wE 4 42 1 [1],wE 5 29 2 [2],wA 6 36,wA 7 42,wN 8 0 45 [8]],SQ [RG [wD 14 36 3,wD 15 42 4,wW 16 45 14 15 36 42 45 [14,15],wK 17 .neq 45 16 0 45 4 [16]],CN 17 (SQ [RG [oQ 18 (.build 36 #[]) 36,oQ 19 (.build 42 #[]) 42,wS 36 6 18 [18],wS 42 7 19 [19],wN 8 94 45],.ret]) .skip],SQ [RG [wD 20 29 5,wU 21 90 20 29 45 [20],wK 22 .neq 45 21 0 45 4 [21]],
 CN 22 (SQ [RG [oQ 23 (.build 36 #[]) 36,oQ 24 (.build 42 #[]) 42,wS 36 6 23 [23],wS 42 7 24 [24],wN 8 90 45],.ret]) .skip],RG [wF 26 42 4 0,wF 27 40 26 0 [26],wD 28 38 27 [27],wD 29 29 5,wW 30 91 28 29 38 29 159 [28,29],wV 25 30 159 [30],wX 31 25 0 38,wX 32 25 1 45 [25],wG 9 31 38 [31],wG 10 32 45 [32]],SQ [RG [wV 33 10 45,wK 34 .neq 45 33 0 45 4 [33]],CN 34 (SQ [RG [oQ 35 (.build 36 #[]) 36,
 oQ 36 (.build 42 #[]) 42,wV 37 10 45 [10],wS 36 6 35 [35],wS 42 7 36 [36],wG 8 37 45 [37]],.ret]) .skip],RG [wD 38 42 4,wA 11 42,wS 42 11 38 [38]],RG [wV 39 9 38,oQ 40 (.build 40 #[(0,.tmp 39)]) 40 [39],wF 41 42 11 0,wS 40 41 40 [40,41]],SQ [RG [wV 42 9 38 [9],wL 43 42 38 3 [42],wF 44 42 4 0,wF 45 40 44 0 [44],wD 46 38 45 [45],wL 47 46 38 3 [46],wO 48 .eql 3 43 47 3 4 [43,47]],
 CN 48 (SQ [.aL [wD 49 36 3,wU 50 87 49 36 36,wD 51 42 11,wS 36 6 50,wS 42 7 51,wN 8 0 45] [[],[0],[],[0,1],[2,0,1,3],[2,0,1,3,4]] [3,11,49,50,51],.ret]) .skip],RG [wD 52 29 5 [5],wF 53 42 4 0,wF 54 40 53 0 [53],wD 55 38 54 [54],wL 56 55 38 3 [55],wF 57 42 4 2,wD 58 3 57 [57],wC 59 47 #[.tmp 52,.tmp 56,.tmp 58] #[29,3,3] 85 [52,56,58],wG 12 59 85 [59]],RG [wD 60 36 3 [3],wF 61 42 4 1,
 wD 62 3 61 [61],wF 63 42 4 3,wD 64 3 63 [63],wV 65 12 85,wC 66 49 #[.tmp 60,.tmp 62,.tmp 64,.tmp 65] #[36,3,3,85] 36 [60,62,64,65],wA 13 36,wS 36 13 66 [66]],SQ [RG [wF 67 36 13 1,wD 68 34 67 [67],wL 69 68 34 3 [68],wK 70 .gtr 3 69 1200 3 4 [69]],CN 70 (SQ [RG [oQ 71 (.build 36 #[]) 36,oQ 72 (.build 42 #[]) 42,wS 36 6 71 [71],wS 42 7 72 [72],wN 8 2 45],.ret]) .skip],RG [wF 73 42 4 3 [4],
 wD 74 3 73 [73],wV 75 12 85 [12],wL 76 75 85 3 [75],wO 77 .add 3 74 76 3 3 [74,76],wF 78 42 11 3,wS 3 78 77 [77,78]],.aL [wD 79 36 13,wD 80 42 11,wS 36 6 79,wS 42 7 80,wN 8 0 45] [[],[],[0],[1,0,2],[1,0,2,3]] [11,13,79,80],.ret]
def Di (k:Nat) (d0:Ac) (l1:Aw) (r2:Ab):Option (Ac×Aw×Int):=
 (Dj k d0 l1).bind fun x1=>
 bif (!decide (x1=(0:Int))) then
  some ((⟨[],[]⟩:Ac),(⟨(⟨[]⟩:Ah),0,0,0⟩:Aw),94)
 else
  (Eg k r2).bind fun x3=>
  bif (!decide (x3=(0:Int))) then
   some ((⟨[],[]⟩:Ac),(⟨(⟨[]⟩:Ah),0,0,0⟩:Aw),90)
  else
   (Ca k l1.Ah.Aj r2).bind fun x5=>
   bif (!decide (x5.2=(0:Int))) then
    some ((⟨[],[]⟩:Ac),(⟨(⟨[]⟩:Ah),0,0,0⟩:Aw),x5.2)
   else
    bif decide ((x5.1.length:Int)=(l1.Ah.Aj.length:Int)) then
     (DY k d0).bind fun x8=>
     some (x8,(⟨(⟨x5.1⟩:Ah),l1.Bj,l1.Ax,l1.Used⟩:Aw),0)
    else
     (Ci k r2 (l1.Ah.Aj.length:Int) l1.Ax).bind fun x9=>
     (BK k d0 l1.Bj l1.Used x9).bind fun cm=>
     bif decide ((1200:Int)<(cm.Ad.length:Int)) then
      some ((⟨[],[]⟩:Ac),(⟨(⟨[]⟩:Ah),0,0,0⟩:Aw),2)
     else
      some (cm,(⟨(⟨x5.1⟩:Ah),l1.Bj,l1.Ax,ab (l1.Used+(x9.length:Int))⟩:Aw),0)
theorem IN (k:Nat) (d0:Ac) (l1:Aw) (r2:Ab) (r:Ac×Aw×Int) (h0:Di k d0 l1 r2=some r):Ay Tryz.prog 59 [.agg (Ac.c d0),.agg (Aw.c l1),.agg (Ab.c r2)] (fun y=>y=.ar [.agg (Ac.c r.1),.agg (Aw.c r.2.1),.int .i64 r.2.2]):=by
 refine PB Tryz.f59 Hn.c [.cell 6 36,.cell 7 42,.tmp 8] ?_
 simp only[Di]at h0
 try simp only[Hn.c,go_sem]
 refine au h0 (HI k _ _) ?_ (fun x1 h0=>?_)<;>try simp only[go_sem]
 refine Cr h0 ?_ ?_<;>intro c2 h0<;>have F:=c2<;>try simp only[F,go_sem]
 obtain rfl:=oi h0
 refine Ag rfl ?_
 try simp only[F,go_sem]
 refine au h0 (HJ k _) ?_ (fun x3 h0=>?_)<;>try simp only[F,go_sem]
 refine Bx F h0 ?_ ?_<;>intro F h0<;>try simp only[F,go_sem]
 obtain rfl:=oi h0
 refine Ag rfl ?_
 try simp only[F,go_sem]
 refine au h0 (FR k _ _) ?_ (fun x5 h0=>?_)<;>try simp only[F,go_sem]
 refine Bx F h0 ?_ ?_<;>intro F h0<;>try simp only[F,go_sem]
 obtain rfl:=oi h0
 refine Ag rfl ?_
 try simp only[F,go_sem]
 refine AF F h0 ?_ ?_<;>intro F h0<;>try simp only[F,go_sem]
 refine AL AB aQ 1000 ?_
 try simp only[F,go_sem]
 refine cz h0 (FO k _) ?_ (fun x8 h0=>?_)<;>try simp only[F,go_sem]
 refine aK ?_
 try simp only[F,go_sem]
 obtain rfl:=oi h0
 refine Ag rfl ?_
 try simp only[F,go_sem]
 refine au h0 (FT k _ _ _) ?_ (fun x9 h0=>?_)<;>try simp only[F,go_sem]
 refine au h0 (FV k _ _ _ _) ?_ (fun cm h0=>?_)<;>try simp only[F,go_sem]
 refine AF F h0 ?_ ?_<;>intro F h0<;>try simp only[F,go_sem]
 obtain rfl:=oi h0
 refine Ag rfl ?_
 try simp only[F,go_sem]
 refine AL AB aQ 1000 ?_
 try simp only[F,go_sem]
 refine aK ?_
 try simp only[F,go_sem]
 obtain rfl:=oi h0
 refine Ag rfl ?_
 try simp only[F,go_sem]
def Ho.c:SC:=
 SQ [RG [wE 1 36 0 [0],wA 2 36,wA 3 42,wN 4 0 45 [4]],SQ [RG [wD 10 36 1,wU 11 80 10 36 4 [10],wQ 12 11 4 [11]],CN 12 (SQ [RG [oQ 13 (.build 36 #[]) 36,oQ 14 (.build 42 #[]) 42,wS 36 2 13 [13],wS 42 3 14 [14],wN 4 94 45],.ret]) .skip],RG [wD 15 36 1 [1],wU 16 81 15 36 33 [15],wG 5 16 33 [16]],RG [wV 18 5 33,wU 19 82 18 33 152 [18],wV 17 19 152 [19],wX 20 17 0 3,wX 21 17 1 151,wX 22 17 2 4 [17],
 wA 7 151,wG 6 20 3 [20],wS 151 7 21 [21],wG 8 22 4 [22]],SQ [RG [wV 23 8 4 [8],wQ 24 23 4 [23]],CN 24 (SQ [RG [oQ 25 (.build 36 #[]) 36,oQ 26 (.build 42 #[]) 42,wS 36 2 25 [25],wS 42 3 26 [26],wN 4 95 45],.ret]) .skip],RG [wV 27 5 33,wC 28 84 #[.tmp 27,.const (.int .i64 0),.const (.int .i64 0)] #[33,3,3] 3 [27],wV 29 5 33,wC 30 84 #[.tmp 29,.const (.int .i64 1),.const (.int .i64 0)] #[33,3,
 3] 3 [29],oQ 31 (.call ⟨.builtin .max,#[.tmp 28,.tmp 30],#[3,3]⟩) 3 [28,30],wK 32 .add 3 31 1 3 3 [31],wG 9 32 3 [32]],SQ [RG [wV 33 9 3,wK 34 .gtr 3 33 1000000 3 4 [33]],CN 34 (SQ [RG [oQ 35 (.build 36 #[]) 36,oQ 36 (.build 42 #[]) 42,wS 36 2 35 [35],wS 42 3 36 [36],wN 4 2 45],.ret]) .skip],.aL [wV 37 5 33,oQ 38 (.build 36 #[(0,.tmp 37)]) 36,wF 39 151 7 1,wD 40 38 39,wU 41 83 40 38 40,
 wV 42 6 3,wV 43 9 3,wF 44 151 7 2,wD 45 3 44,oQ 46 (.build 42 #[(0,.tmp 41),(1,.tmp 42),(2,.tmp 43),(3,.tmp 45)]) 42,wS 36 2 38,wS 42 3 46,wN 4 0 45] [[],[0],[],[2],[2,3],[],[],[],[7],[2,3,4,5,6,7,8],[0,1,2,3,4],[2,3,4,5,6,7,8,9,0,1,10],[2,3,4,5,6,7,8,9,0,1,10,11]] [5,6,7,9,37,38,39,40,41,42,43,44,45,46],.ret]
def Ds (k:Nat) (d0:Ac):Option (Ac×Aw×Int):=
 (B7 k d0).bind fun x1=>
 bif (!x1) then
  some ((⟨[],[]⟩:Ac),(⟨(⟨[]⟩:Ah),0,0,0⟩:Aw),94)
 else
  (Cq k d0).bind fun x3=>
  (DJ k x3).bind fun x4=>
  bif (!x4.2.2) then
   some ((⟨[],[]⟩:Ac),(⟨(⟨[]⟩:Ah),0,0,0⟩:Aw),95)
  else
   (BJ k x3 0 0).bind fun x6=>
   (BJ k x3 1 0).bind fun x7=>
   bif decide ((1000000:Int)<ab ((max x6 x7)+1)) then
    some ((⟨[],[]⟩:Ac),(⟨(⟨[]⟩:Ah),0,0,0⟩:Aw),2)
   else
    (BX k x4.2.1.Aj).bind fun x9=>
    some ((⟨x3,[]⟩:Ac),(⟨x9,x4.1,ab ((max x6 x7)+1),x4.2.1.Used⟩:Aw),0)
theorem IU (k:Nat) (d0:Ac) (r:Ac×Aw×Int) (h0:Ds k d0=some r):Ay Tryz.prog 64 [.agg (Ac.c d0)] (fun y=>y=.ar [.agg (Ac.c r.1),.agg (Aw.c r.2.1),.int .i64 r.2.2]):=by
 refine PB Tryz.f64 Ho.c [.cell 2 36,.cell 3 42,.tmp 4] ?_
 simp only[Ds]at h0
 try simp only[Ho.c,go_sem]
 refine au h0 (Fu k _) ?_ (fun x1 h0=>?_)<;>try simp only[go_sem]
 refine Cr h0 ?_ ?_<;>intro c2 h0<;>have F:=c2<;>try simp only[F,go_sem]
 obtain rfl:=oi h0
 refine Ag rfl ?_
 try simp only[F,go_sem]
 refine au h0 (FU k _) ?_ (fun x3 h0=>?_)<;>try simp only[F,go_sem]
 refine au h0 (HX k _) ?_ (fun x4 h0=>?_)<;>try simp only[F,go_sem]
 refine Bx F h0 ?_ ?_<;>intro F h0<;>try simp only[F,go_sem]
 obtain rfl:=oi h0
 refine Ag rfl ?_
 try simp only[F,go_sem]
 refine au h0 (Fc k _ _ _) ?_ (fun x6 h0=>?_)<;>try simp only[F,go_sem]
 refine au h0 (Fc k _ _ _) ?_ (fun x7 h0=>?_)<;>try simp only[F,go_sem]
 refine AF F h0 ?_ ?_<;>intro F h0<;>try simp only[F,go_sem]
 obtain rfl:=oi h0
 refine Ag rfl ?_
 try simp only[F,go_sem]
 refine AL AB aQ 1000 ?_
 try simp only[F,go_sem]
 refine cz h0 (HT k _) ?_ (fun x9 h0=>?_)<;>try simp only[F,go_sem]
 refine aK ?_
 try simp only[F,go_sem]
 obtain rfl:=oi h0
 refine Ag rfl ?_
 try simp only[F,go_sem]
def EI.s0:SC:=
 SQ [SQ [RG [wV 18 6 3,wF 19 36 2 1,wD 20 34 19 [19],wL 21 20 34 3 [20],wO 22 .lss 3 18 21 3 4 [18,21]],CN 22 .skip (.exit 0)],.block 1 (SQ [RG [wN 7 0 3],SQ [RG [wV 25 1 58,wL 26 25 58 3 [25],wK 27 .gtr 3 26 0 3 4 [26]],CN 27 (RG [wV 28 1 58,wV 29 6 3,wV 30 1 58,wL 31 30 58 3 [30],wO 32 .rem 3 29 31 3 3 [29,31],wI 33 58 28 32 [28,32],wD 34 3 33 [33],wC 35 16 #[.tmp 34,.const (.int .i64 4)] #[3,
 3] 3 [34],wG 7 35 3 [35]]) .skip],RG [wF 36 36 2 1,wD 37 34 36 [36],wV 38 6 3,wI 39 34 37 38 [37,38],wD 40 116 39 [39],wA 8 116,wS 116 8 40 [40]],SQ [RG [wV 41 7 3,wK 42 .and 3 41 1 3 3 [41],wK 43 .eql 3 42 1 3 4 [42]],CN 43 (.aL [wV 44 5 33,wF 45 116 8 0,wD 46 3 45,wF 47 116 8 1,wJ 48 113 47 0,wD 49 92 48,wI 50 33 44 46,wJ 51 113 50 0,wS 92 51 49] [[],[],[1],[],[3],[3,4],[0,1,2],[0,1,2,6,3,4,
 5],[0,1,2,6,3,4,5,7]] [44,45,46,47,48,49,50,51]) .skip],RG [wV 52 7 3 [7],wK 53 .and 3 52 2 3 3 [52],wK 54 .eql 3 53 2 3 4 [53]],CN 54 (.aL [wV 55 5 33,wF 56 116 8 0,wD 57 3 56,wF 58 116 8 1,wJ 59 113 58 1,wD 60 92 59,wI 61 33 55 57,wJ 62 113 61 1,wS 92 62 60] [[],[],[1],[],[3],[3,4],[0,1,2],[0,1,2,6,3,4,5],[0,1,2,6,3,4,5,7]] [8,55,56,57,58,59,60,61,62]) .skip]),RG [wV 23 6 3 [6],
 wK 24 .add 3 23 1 3 3 [23],wG 6 24 3 [24]]]
def EI.c:SC:=
 SQ [RG [wE 2 36 0 [0],wA 4 36],SQ [RG [wD 9 36 2,wU 10 80 9 36 4 [9],wQ 11 10 4 [10]],CN 11 (SQ [RG [wD 12 36 2 [2],wU 13 87 12 36 36 [12],wS 36 4 13 [13]],.ret]) .skip],RG [oQ 14 (.buildSlice 33 0 #[]) 33,wF 15 36 2 0,wD 16 33 15 [15],wP 17 14 16 33 33 33 [14,16],wG 5 17 33 [17]],SQ [RG [wN 6 0 3],.block 0 (.loop EI.s0)],RG [wV 63 5 33 [5],oQ 64 (.build 36 #[(0,.tmp 63)]) 36 [63],
 wS 36 4 64 [64]],.ret]
def BL.b0 (k:Nat) (d0:Ac) (dx:(List Int)):(Int×(List (Aa 2 (Aa 32 Int))))->Option (AT (Int×(List (Aa 2 (Aa 32 Int)))) ((List (Aa 2 (Aa 32 Int)))) (Ac)):=fun s=>match s with
 |(i5,l6)=>
   bif decide (i5<(d0.Ad.length:Int)) then
    bif decide ((0:Int)<(dx.length:Int)) then
     (pk (dx.length:Int)).bind fun _=>
     (at? dx (Int.tmod i5 (dx.length:Int))).bind fun cT=>
     (B8 k cT 4).bind fun ij=>
     (at? d0.Ad i5).bind fun cI=>
     bif decide (dW .i64 ij 1=(1:Int)) then
      (cI.AH.at? 0).bind fun cU=>
      (at? l6 cI.At).bind fun dt=>
      (dt.at? 0).bind fun jo=>
      (dM l6 cI.At (dt.set 0 cU)).bind fun l19=>
      bif decide (dW .i64 ij 2=(2:Int)) then
       (cI.AH.at? 1).bind fun n5=>
       (at? l19 cI.At).bind fun n6=>
       (n6.at? 1).bind fun eY=>
       (dM l19 cI.At (n6.set 1 n5)).bind fun l25=>
       some (.next (ab (i5+1),l25))
      else
       some (.next (ab (i5+1),l19))
     else
      bif decide (dW .i64 ij 2=(2:Int)) then
       (cI.AH.at? 1).bind fun xR=>
       (at? l6 cI.At).bind fun x28=>
       (x28.at? 1).bind fun vg=>
       (dM l6 cI.At (x28.set 1 xR)).bind fun l31=>
       some (.next (ab (i5+1),l31))
      else
       some (.next (ab (i5+1),l6))
    else
     (at? d0.Ad i5).bind fun ik=>
     bif decide (dW .i64 0 1=(1:Int)) then
      (ik.AH.at? 0).bind fun x34=>
      (at? l6 ik.At).bind fun vk=>
      (vk.at? 0).bind fun x36=>
      (dM l6 ik.At (vk.set 0 x34)).bind fun l38=>
      bif decide (dW .i64 0 2=(2:Int)) then
       (ik.AH.at? 1).bind fun x40=>
       (at? l38 ik.At).bind fun x41=>
       (x41.at? 1).bind fun x42=>
       (dM l38 ik.At (x41.set 1 x40)).bind fun l44=>
       some (.next (ab (i5+1),l44))
      else
       some (.next (ab (i5+1),l38))
     else
      bif decide (dW .i64 0 2=(2:Int)) then
       (ik.AH.at? 1).bind fun x46=>
       (at? l6 ik.At).bind fun x47=>
       (x47.at? 1).bind fun x48=>
       (dM l6 ik.At (x47.set 1 x46)).bind fun l50=>
       some (.next (ab (i5+1),l50))
      else
       some (.next (ab (i5+1),l6))
   else
    some (.brk l6)
def BL.h0 (d0:Ac) (dx:(List Int)):(Int×(List (Aa 2 (Aa 32 Int))))->St:=fun s=>match s with
 |(i5,l6)=>⟨[(1,.sl 1 (List.map eI dx)),(2,.ptr 0 0 0),(4,.ptr 0 1 0),(5,.loc 0 4 64 0 l6.length l6.length),(6,.int .i64 i5)],[(0,.box ([.sl 64 (List.map (Aa.c (n:=2) (Aa.c (n:=32) af)) d0.Af),.sl 65 (List.map Ao.c d0.Ad)])),(1,.box ([.loc 0 2 64 0 0 0,.loc 0 3 65 0 0 0])),(2,.arr 113 64 (List.map (Aa.c (n:=2) (Aa.c (n:=32) af)) [])),(3,.arr 116 65 (List.map Ao.c [])),(4,.arr 113 64 (List.map (Aa.c (n:=2) (Aa.c (n:=32) af)) l6))],[],5,Tryz.f65.ntmps⟩
def BL.x0:(List (Aa 2 (Aa 32 Int)))->St:=fun l7=>⟨[(4,.ptr 0 0 0),(5,.loc 0 3 64 0 l7.length l7.length)],[(0,.box ([.loc 0 1 64 0 0 0,.loc 0 2 65 0 0 0])),(1,.arr 113 64 (List.map (Aa.c (n:=2) (Aa.c (n:=32) af)) [])),(2,.arr 116 65 (List.map Ao.c [])),(3,.arr 113 64 (List.map (Aa.c (n:=2) (Aa.c (n:=32) af)) l7))],[],4,Tryz.f65.ntmps⟩
def BL (k:Nat) (d0:Ac) (dx:(List Int)):Option (Ac):=
 (B7 k d0).bind fun x1=>
 bif (!x1) then
  (DY k d0).bind fun x3=>
  some x3
 else
  (fo d0.Af.length 64).bind fun _=>
  (aj (BL.b0 k d0 dx) k (0,d0.Af)).bind fun r51=>match r51 with
  |.next _=>none
  |.ret v_=>some v_
  |.brk l7=>
   some (⟨l7,[]⟩:Ac)
theorem IQ (k:Nat) (d0:Ac) (dx:(List Int)) (r:Ac) (h0:BL k d0 dx=some r):Ay Tryz.prog 65 [.agg (Ac.c d0),.sl 1 (List.map eI dx)] (fun y=>y=.agg (Ac.c r)):=by
 refine PB Tryz.f65 EI.c [.cell 4 36] ?_
 simp only[BL]at h0
 try simp only[EI.c,go_sem]
 refine au h0 (Fu k _) ?_ (fun x1 h0=>?_)<;>try simp only[go_sem]
 refine Cr h0 ?_ ?_<;>intro c2 h0<;>have F:=c2<;>try simp only[F,go_sem]
 refine au h0 (FO k _) ?_ (fun x3 h0=>?_)<;>try simp only[F,go_sem]
 obtain rfl:=oi h0
 refine Ag rfl ?_
 try simp only[F,go_sem]
 obtain⟨u4,yu4,h0⟩:=bs h0
 try simp only[lH yu4,F,go_sem]
 obtain⟨r51,arJ,h0⟩:=bs h0
 refine Bf arJ (BL.h0 d0 dx) (BL.x0) ?_ ?_ ?_
 refine Ai.go [1,2,4,5,6] [0,16,17,18,80] rfl ?_
 try simp only[BL.h0,F,go_sem]
 rintro⟨i5,l6⟩ cP Bl Bm h1 aH aF bL
 refine rS ?_
 simp only[BL.b0]at h1
 try simp only[EI.s0,BL.h0,F,go_sem]
 refine AF F h1 ?_ ?_<;>intro F h1<;>try simp only[F,go_sem]
 refine AF F h1 ?_ ?_<;>intro F h1<;>try simp only[F,go_sem]
 obtain⟨u10,arK,h1⟩:=bs h1
 have F:=an (aeM arK) F
 try simp only[F,go_sem]
 obtain⟨cT,mD,h1⟩:=bs h1
 have F:=an (aC mD) (an (aE eI mD) F)
 try simp only[F,go_sem]
 refine au h1 (CU k _ _) ?_ (fun ij h1=>?_)<;>try simp only[F,go_sem]
 obtain⟨cI,rq,h1⟩:=bs h1
 have F:=an (aC rq) (an (aE Ao.c rq) F)
 try simp only[F,go_sem]
 refine AF F h1 ?_ ?_<;>intro F h1<;>try simp only[F,go_sem]
 refine AL AB aQ 1000 ?_
 try simp only[F,go_sem]
 obtain⟨cU,pJ,h1⟩:=bs h1
 have acE:=Ap.bI gL (Ap.skip (Ap.self fM cI.AH) ([.int .i64 cI.At]:List AV)) pJ
 have aaN:=acE.2
 try simp only[AA,Az,go_sem]at aaN
 have F:=an (aw pJ) (an aaN F)
 try simp only[F,go_sem]
 obtain⟨dt,ni,h1⟩:=bs h1
 have F:=an (aC ni) (an (aE (Aa.c (n:=2) (Aa.c (n:=32) af)) ni) F)
 try simp only[F,go_sem]
 obtain⟨jo,pK,h1⟩:=bs h1
 have acF:=Ap.bI gL (Ap.self fM dt) pK
 have aaO:=acF.2
 try simp only[AA,Az,go_sem]at aaO
 have F:=an (aw pK) (an aaO F)
 try simp only[F,go_sem]
 obtain⟨l19,afr,h1⟩:=bs h1
 have q18:=acF.1.ow cU
 try simp only[AA,Az,go_sem]at q18
 have agZ:=lI (Aa.c (n:=2) (Aa.c (n:=32) af)) afr
 try simp only[go_sem]at agZ
 have F:=an agZ (an (kP afr) (an (lJ (Aa.c (n:=2) (Aa.c (n:=32) af)) afr) F))
 try simp only[q18,F,go_sem]
 refine aK ?_
 try simp only[F,go_sem]
 refine AF F h1 ?_ ?_<;>intro F h1<;>try simp only[F,go_sem]
 refine AL AB aQ 1000 ?_
 try simp only[F,go_sem]
 obtain⟨n5,fY,h1⟩:=bs h1
 have u0:=Ap.bI gL (Ap.skip (Ap.self fM cI.AH) ([.int .i64 cI.At]:List AV)) fY
 have aaP:=u0.2
 try simp only[AA,Az,go_sem]at aaP
 have F:=an (aw fY) (an aaP F)
 try simp only[F,go_sem]
 obtain⟨n6,xS,h1⟩:=bs h1
 have ahd:=aC xS
 simp only[F,go_sem]at ahd
 have F:=an ahd (an (aE (Aa.c (n:=2) (Aa.c (n:=32) af)) xS) F)
 try simp only[F,go_sem]
 obtain⟨eY,iY,h1⟩:=bs h1
 have aaJ:=Ap.bI gL (Ap.self fM n6) iY
 have aka:=aaJ.2
 try simp only[AA,Az,go_sem]at aka
 have F:=an (aw iY) (an aka F)
 try simp only[F,go_sem]
 obtain⟨l25,aaY,h1⟩:=bs h1
 have q24:=aaJ.1.ow n5
 try simp only[AA,Az,go_sem]at q24
 have ag2:=lI (Aa.c (n:=2) (Aa.c (n:=32) af)) aaY
 try simp only[go_sem]at ag2
 have ajB:=lJ (Aa.c (n:=2) (Aa.c (n:=32) af)) aaY
 try simp only[F,go_sem]at ajB
 have F:=an ag2 (an (kP aaY) (an ajB F))
 try simp only[q24,F,go_sem]
 refine aK ?_
 try simp only[F,go_sem]
 refine AD (aH _ _ (oi h1).symm (Ai.go [1,2,4,5,6] [0,1,2,3,4] rfl ?_))
 try simp only[BL.h0,F,go_sem]
 refine AD (aH _ _ (oi h1).symm (Ai.go [1,2,4,5,6] [0,1,2,3,4] rfl ?_))
 try simp only[BL.h0,F,go_sem]
 refine AF F h1 ?_ ?_<;>intro F h1<;>try simp only[F,go_sem]
 refine AL AB aQ 1000 ?_
 try simp only[F,go_sem]
 obtain⟨xR,akD,h1⟩:=bs h1
 have arb:=Ap.bI gL (Ap.skip (Ap.self fM cI.AH) ([.int .i64 cI.At]:List AV)) akD
 have akb:=arb.2
 try simp only[AA,Az,go_sem]at akb
 have F:=an (aw akD) (an akb F)
 try simp only[F,go_sem]
 obtain⟨x28,akE,h1⟩:=bs h1
 have F:=an (aC akE) (an (aE (Aa.c (n:=2) (Aa.c (n:=32) af)) akE) F)
 try simp only[F,go_sem]
 obtain⟨vg,acQ,h1⟩:=bs h1
 have ajK:=Ap.bI gL (Ap.self fM x28) acQ
 have akc:=ajK.2
 try simp only[AA,Az,go_sem]at akc
 have F:=an (aw acQ) (an akc F)
 try simp only[F,go_sem]
 obtain⟨l31,afs,h1⟩:=bs h1
 have q30:=ajK.1.ow xR
 try simp only[AA,Az,go_sem]at q30
 have ag4:=lI (Aa.c (n:=2) (Aa.c (n:=32) af)) afs
 try simp only[go_sem]at ag4
 have F:=an ag4 (an (kP afs) (an (lJ (Aa.c (n:=2) (Aa.c (n:=32) af)) afs) F))
 try simp only[q30,F,go_sem]
 refine aK ?_
 try simp only[F,go_sem]
 refine AD (aH _ _ (oi h1).symm (Ai.go [1,2,4,5,6] [0,1,2,3,4] rfl ?_))
 try simp only[BL.h0,F,go_sem]
 refine AD (aH _ _ (oi h1).symm (Ai.go [1,2,4,5,6] [0,1,2,3,4] rfl ?_))
 try simp only[BL.h0,F,go_sem]
 obtain⟨ik,aa1,h1⟩:=bs h1
 have F:=an (aC aa1) (an (aE Ao.c aa1) F)
 try simp only[F,go_sem]
 refine AF F h1 ?_ ?_<;>intro F h1<;>try simp only[F,go_sem]
 refine AL AB aQ 1000 ?_
 try simp only[F,go_sem]
 obtain⟨x34,akG,h1⟩:=bs h1
 have ard:=Ap.bI gL (Ap.skip (Ap.self fM ik.AH) ([.int .i64 ik.At]:List AV)) akG
 have akf:=ard.2
 try simp only[AA,Az,go_sem]at akf
 have F:=an (aw akG) (an akf F)
 try simp only[F,go_sem]
 obtain⟨vk,acT,h1⟩:=bs h1
 have F:=an (aC acT) (an (aE (Aa.c (n:=2) (Aa.c (n:=32) af)) acT) F)
 try simp only[F,go_sem]
 obtain⟨x36,akH,h1⟩:=bs h1
 have ajM:=Ap.bI gL (Ap.self fM vk) akH
 have akg:=ajM.2
 try simp only[AA,Az,go_sem]at akg
 have F:=an (aw akH) (an akg F)
 try simp only[F,go_sem]
 obtain⟨l38,afu,h1⟩:=bs h1
 have q37:=ajM.1.ow x34
 try simp only[AA,Az,go_sem]at q37
 have ag6:=lI (Aa.c (n:=2) (Aa.c (n:=32) af)) afu
 try simp only[go_sem]at ag6
 have F:=an ag6 (an (kP afu) (an (lJ (Aa.c (n:=2) (Aa.c (n:=32) af)) afu) F))
 try simp only[q37,F,go_sem]
 refine aK ?_
 try simp only[F,go_sem]
 refine AF F h1 ?_ ?_<;>intro F h1<;>try simp only[F,go_sem]
 refine AL AB aQ 1000 ?_
 try simp only[F,go_sem]
 obtain⟨x40,akI,h1⟩:=bs h1
 have are:=Ap.bI gL (Ap.skip (Ap.self fM ik.AH) ([.int .i64 ik.At]:List AV)) akI
 have akh:=are.2
 try simp only[AA,Az,go_sem]at akh
 have F:=an (aw akI) (an akh F)
 try simp only[F,go_sem]
 obtain⟨x41,akJ,h1⟩:=bs h1
 have ahe:=aC akJ
 simp only[F,go_sem]at ahe
 have F:=an ahe (an (aE (Aa.c (n:=2) (Aa.c (n:=32) af)) akJ) F)
 try simp only[F,go_sem]
 obtain⟨x42,akK,h1⟩:=bs h1
 have ajN:=Ap.bI gL (Ap.self fM x41) akK
 have aki:=ajN.2
 try simp only[AA,Az,go_sem]at aki
 have F:=an (aw akK) (an aki F)
 try simp only[F,go_sem]
 obtain⟨l44,afv,h1⟩:=bs h1
 have q43:=ajN.1.ow x40
 try simp only[AA,Az,go_sem]at q43
 have ag8:=lI (Aa.c (n:=2) (Aa.c (n:=32) af)) afv
 try simp only[go_sem]at ag8
 have ajC:=lJ (Aa.c (n:=2) (Aa.c (n:=32) af)) afv
 try simp only[F,go_sem]at ajC
 have F:=an ag8 (an (kP afv) (an ajC F))
 try simp only[q43,F,go_sem]
 refine aK ?_
 try simp only[F,go_sem]
 refine AD (aH _ _ (oi h1).symm (Ai.go [1,2,4,5,6] [0,1,2,3,4] rfl ?_))
 try simp only[BL.h0,F,go_sem]
 refine AD (aH _ _ (oi h1).symm (Ai.go [1,2,4,5,6] [0,1,2,3,4] rfl ?_))
 try simp only[BL.h0,F,go_sem]
 refine AF F h1 ?_ ?_<;>intro F h1<;>try simp only[F,go_sem]
 refine AL AB aQ 1000 ?_
 try simp only[F,go_sem]
 obtain⟨x46,akL,h1⟩:=bs h1
 have arf:=Ap.bI gL (Ap.skip (Ap.self fM ik.AH) ([.int .i64 ik.At]:List AV)) akL
 have akj:=arf.2
 try simp only[AA,Az,go_sem]at akj
 have F:=an (aw akL) (an akj F)
 try simp only[F,go_sem]
 obtain⟨x47,akM,h1⟩:=bs h1
 have F:=an (aC akM) (an (aE (Aa.c (n:=2) (Aa.c (n:=32) af)) akM) F)
 try simp only[F,go_sem]
 obtain⟨x48,akN,h1⟩:=bs h1
 have ajO:=Ap.bI gL (Ap.self fM x47) akN
 have akk:=ajO.2
 try simp only[AA,Az,go_sem]at akk
 have F:=an (aw akN) (an akk F)
 try simp only[F,go_sem]
 obtain⟨l50,afw,h1⟩:=bs h1
 have q49:=ajO.1.ow x46
 try simp only[AA,Az,go_sem]at q49
 have ag9:=lI (Aa.c (n:=2) (Aa.c (n:=32) af)) afw
 try simp only[go_sem]at ag9
 have F:=an ag9 (an (kP afw) (an (lJ (Aa.c (n:=2) (Aa.c (n:=32) af)) afw) F))
 try simp only[q49,F,go_sem]
 refine aK ?_
 try simp only[F,go_sem]
 refine AD (aH _ _ (oi h1).symm (Ai.go [1,2,4,5,6] [0,1,2,3,4] rfl ?_))
 try simp only[BL.h0,F,go_sem]
 refine AD (aH _ _ (oi h1).symm (Ai.go [1,2,4,5,6] [0,1,2,3,4] rfl ?_))
 try simp only[BL.h0,F,go_sem]
 refine AD (aF _ _ (oi h1).symm (Ai.go [4,5] [1,2,3,4] rfl ?_))
 try simp only[BL.x0,F,go_sem]
 rintro l7 aI
 subst aI
 simp only at h0
 refine rS ?_
 try simp only[BL.x0,F,go_sem]
 obtain rfl:=oi h0
 refine Ag rfl ?_
 try simp only[F,go_sem]
def HA.c:SC:=
 SQ [RG [wE 3 119 1 [1],wA 4 29],RG [wJ 8 119 3 0,wD 9 3 8 [8],wC 10 16 #[.tmp 9,.const (.int .i64 3)] #[3,3] 3 [9],wG 5 10 3 [10]],.aL [wV 11 5 3,wV 12 0 38,wU 13 58 12 38 55,wV 14 5 3,oQ 15 (.index 55 (.tmp 13) (.tmp 14)) 3,oQ 16 (.build 27 #[(0,.tmp 11),(1,.tmp 15)]) 27,wJ 17 119 3 1,wD 18 3 17,wC 19 16 #[.tmp 18,.const (.int .i64 6)] #[3,3] 3,wJ 20 119 3 2,wD 21 3 20,wC 22 16 #[.tmp 21,
 .const (.int .i64 50)] #[3,3] 3,wJ 23 119 3 3,wD 24 3 23,wC 25 16 #[.tmp 24,.const (.int .i64 50)] #[3,3] 3,oQ 26 (.build 29 #[(0,.tmp 16),(1,.tmp 19),(2,.tmp 22),(3,.tmp 25)]) 29,wA 6 29,wS 29 6 26] [[],[],[1],[],[1,2,3],[0,1,2,3,4],[],[6],[6,7,1,2],[],[9],[9,10,6,7,1,2,8],[],[12],[12,13,9,10,6,7,1,2,8,11],[0,1,2,3,4,5,6,7,8,9,10,11,12,13,14],[],[16,0,1,2,3,4,5,6,7,8,9,10,11,12,13,14,15]] [0,11,
 12,13,14,15,16,17,18,19,20,21,22,23,24,25,26],SQ [RG [wF 27 29 6 1,wD 28 3 27 [27],wK 29 .eql 3 28 0 3 4 [28],wV 30 29 4 [29],gd 30 true (wF 31 29 6 0),gd 30 true (wF 32 27 31 1 [31]),gd 30 true (wD 33 3 32 [32]),gd 30 true (wK 34 .gtr 3 33 0 3 4 [33]),wZ 35 30 34 4 [30,34]],CN 35 (SQ [RG [wF 36 29 6 2,⟨none,.store 3 (.tmp 36) (.const (.int .i64 0)),0,none,[36]⟩],RG [wV 37 5 3 [5],
 wJ 38 119 3 2 [3],wD 39 3 38 [38],wF 40 29 6 0,wF 41 27 40 1 [40],wD 42 3 41 [41],wW 43 16 39 42 3 3 3 [39,42],oQ 44 (.build 27 #[(0,.tmp 37),(1,.tmp 43)]) 27 [37,43],wF 45 29 6 4,wS 27 45 44 [44,45]],RG [wD 46 29 6 [6],wS 29 4 46 [46]],.ret]) .skip],SQ [RG [wF 47 29 6 1,wD 48 3 47 [47],wK 49 .eql 3 48 0 3 4 [48]],CN 49 (RG [wF 50 29 6 1,⟨none,.store 3 (.tmp 50) (.const (.int .i64 7)),0,none,
 [50]⟩]) .skip],RG [oQ 51 (.buildSlice 176 5 #[(0,.const (.string ⟨#[]⟩)),(1,.const (.string ⟨#[97]⟩)),(2,.const (.string ⟨#[112,105,101,99,101,32,49,55]⟩)),(3,.const (.string ⟨#[48,32,48,32,49,32,48,32,48,32,48]⟩)),(4,.const (.string ⟨#[97,32,116,101,120,116,32,111,102,32,97,32,108,101,110,103,116,104,32,116,104,97,116,32,116,97,107,101,115,32,116,104,114,101,101,32,104,97,108,118,101,115,32,111,
 102,32,97,32,112,97,103,101]⟩))]) 176,wG 7 51 176 [51]],RG [wV 52 7 176 [7],wJ 53 119 3 4 [3],wD 54 3 53 [53],wC 55 16 #[.tmp 54,.const (.int .i64 5)] #[3,3] 3 [54],wI 56 176 52 55 [52,55],wD 57 9 56 [56],wF 58 29 6 5,wS 9 58 57 [57,58]],RG [wD 59 29 6 [6],wS 29 4 59 [59]],.ret]
def El (k:Nat) (l0:(List Ab)) (n1:(Aa 5 Int)):Option (Ab):=
 (n1.at? 0).bind fun x1=>
 (B8 k x1 3).bind fun x2=>
 (Cm k l0).bind fun x3=>
 (x3.at? x2).bind fun x4=>
 (n1.at? 1).bind fun x5=>
 (B8 k x5 6).bind fun x6=>
 (n1.at? 2).bind fun x7=>
 (B8 k x7 50).bind fun x8=>
 (n1.at? 3).bind fun x9=>
 (B8 k x9 50).bind fun cm=>
 bif decide (x6=(0:Int)) then
  bif decide ((0:Int)<x4) then
   (B8 k x7 x4).bind fun cI=>
   some (⟨(⟨x2,x4⟩:Entry),x6,0,cm,(⟨x2,cI⟩:Entry),ByteArray.empty⟩:Ab)
  else
   (n1.at? 4).bind fun bJ=>
   (B8 k bJ 5).bind fun cU=>
   (at? [ByteArray.empty,(⟨#[97]⟩:ByteArray),(⟨#[112,105,101,99,101,32,49,55]⟩:ByteArray),(⟨#[48,32,48,32,49,32,48,32,48,32,48]⟩:ByteArray),(⟨#[97,32,116,101,120,116,32,111,102,32,97,32,108,101,110,103,116,104,32,116,104,97,116,32,116,97,107,101,115,32,116,104,114,101,101,32,104,97,108,118,101,115,32,111,102,32,97,32,112,97,103,101]⟩:ByteArray)] cU).bind fun dt=>
   some (⟨(⟨x2,x4⟩:Entry),7,x8,cm,(⟨0,0⟩:Entry),dt⟩:Ab)
 else
  (n1.at? 4).bind fun jo=>
  (B8 k jo 5).bind fun kU=>
  (at? [ByteArray.empty,(⟨#[97]⟩:ByteArray),(⟨#[112,105,101,99,101,32,49,55]⟩:ByteArray),(⟨#[48,32,48,32,49,32,48,32,48,32,48]⟩:ByteArray),(⟨#[97,32,116,101,120,116,32,111,102,32,97,32,108,101,110,103,116,104,32,116,104,97,116,32,116,97,107,101,115,32,116,104,114,101,101,32,104,97,108,118,101,115,32,111,102,32,97,32,112,97,103,101]⟩:ByteArray)] kU).bind fun kV=>
  some (⟨(⟨x2,x4⟩:Entry),x6,x8,cm,(⟨0,0⟩:Entry),kV⟩:Ab)
theorem I4 (k:Nat) (l0:(List Ab)) (n1:(Aa 5 Int)) (r:Ab) (h0:El k l0 n1=some r):Ay Tryz.prog 88 [.sl 8 (List.map Ab.c l0),.agg ((Aa.c (n:=5) eI) n1)] (fun y=>y=.agg (Ab.c r)):=by
 refine PB Tryz.f88 HA.c [.cell 4 29] ?_
 simp only[El]at h0
 try simp only[HA.c,go_sem]
 obtain⟨x1,jq,h0⟩:=bs h0
 have xM:=Ap.bI mE (Ap.self xU n1) jq
 have th:=xM.2
 try simp only[AA,Az,go_sem]at th
 have F:=an (aw jq) th
 try simp only[F,go_sem]
 refine au h0 (CU k _ _) ?_ (fun x2 h0=>?_)<;>try simp only[F,go_sem]
 refine AL AB aQ 1000 ?_
 try simp only[F,go_sem]
 refine cz h0 (HW k _) ?_ (fun x3 h0=>?_)<;>try simp only[F,go_sem]
 obtain⟨x4,bS,h0⟩:=bs h0
 have iW:=(Ap.afg mE bS).2
 try simp only[go_sem]at iW
 have F:=an (aw bS) (an iW F)
 try simp only[F,go_sem]
 obtain⟨x5,cE,h0⟩:=bs h0
 have xN:=Ap.bI mE (Ap.self xU n1) cE
 have tj:=xN.2
 try simp only[AA,Az,go_sem]at tj
 have F:=an (aw cE) (an tj F)
 try simp only[F,go_sem]
 refine cz h0 (CU k _ _) ?_ (fun x6 h0=>?_)<;>try simp only[F,go_sem]
 obtain⟨x7,eG,h0⟩:=bs h0
 have rk:=Ap.bI mE (Ap.self xU n1) eG
 have n4:=rk.2
 try simp only[AA,Az,go_sem]at n4
 have F:=an (aw eG) (an n4 F)
 try simp only[F,go_sem]
 refine cz h0 (CU k _ _) ?_ (fun x8 h0=>?_)<;>try simp only[F,go_sem]
 obtain⟨x9,fb,h0⟩:=bs h0
 have pD:=Ap.bI mE (Ap.self xU n1) fb
 have tk:=pD.2
 try simp only[AA,Az,go_sem]at tk
 have F:=an (aw fb) (an tk F)
 try simp only[F,go_sem]
 refine cz h0 (CU k _ _) ?_ (fun cm h0=>?_)<;>try simp only[F,go_sem]
 refine aK ?_
 try simp only[F,go_sem]
 refine AF F h0 ?_ ?_<;>intro F h0<;>try simp only[F,go_sem]
 refine AF F h0 ?_ ?_<;>intro F h0<;>try simp only[F,go_sem]
 refine au h0 (CU k _ _) ?_ (fun cI h0=>?_)<;>try simp only[F,go_sem]
 obtain rfl:=oi h0
 refine Ag rfl ?_
 try simp only[F,go_sem]
 obtain⟨bJ,pI,h0⟩:=bs h0
 have aq9:=Ap.bI mE (Ap.self xU n1) pI
 have aj8:=aq9.2
 try simp only[AA,Az,go_sem]at aj8
 have F:=an (aw pI) (an aj8 F)
 try simp only[F,go_sem]
 refine au h0 (CU k _ _) ?_ (fun cU h0=>?_)<;>try simp only[F,go_sem]
 obtain⟨dt,ni,h0⟩:=bs h0
 have ahb:=aC ni
 simp only[F,go_sem]at ahb
 have ahE:=aE eS ni
 try simp only[F,go_sem]at ahE
 have F:=an ahb (an ahE F)
 try simp only[F,go_sem]
 obtain rfl:=oi h0
 refine Ag rfl ?_
 try simp only[F,go_sem]
 obtain⟨jo,pK,h0⟩:=bs h0
 have acF:=Ap.bI mE (Ap.self xU n1) pK
 have aaO:=acF.2
 try simp only[AA,Az,go_sem]at aaO
 have F:=an (aw pK) (an aaO F)
 try simp only[F,go_sem]
 refine au h0 (CU k _ _) ?_ (fun kU h0=>?_)<;>try simp only[F,go_sem]
 obtain⟨kV,pL,h0⟩:=bs h0
 have yC:=aC pL
 simp only[F,go_sem]at yC
 have ahF:=aE eS pL
 try simp only[F,go_sem]at ahF
 have F:=an yC (an ahF F)
 try simp only[F,go_sem]
 obtain rfl:=oi h0
 refine Ag rfl ?_
 try simp only[F,go_sem]
def Hu.c:SC:=
 SQ [RG [wE 3 36 0 [0],wE 4 42 1 [1],wE 5 144 2 [2],wA 6 36,wA 7 42],SQ [RG [wF 17 144 5 0,wD 18 3 17 [17],wC 19 16 #[.tmp 18,.const (.int .i64 8)] #[3,3] 3 [18]],.block 0 (SQ [RG [wK 21 .eql 3 19 5 3 4,wG 20 21 4 [21]],CN 20 (SQ [.aL [wD 22 36 3,wU 23 48 22 36 36,wD 24 42 4,wS 36 6 23,wS 42 7 24] [[],[0],[],[0,1],[2,0,1,3]] [3,4,22,23,24],.ret]) (SQ [RG [wK 26 .eql 3 19 6 3 4,wG 25 26 4 [26]],
 CN 25 (SQ [RG [wD 28 36 3,wD 29 42 4,wW 30 9 28 29 36 42 46 [28,29],wV 27 30 46 [30],wX 31 27 0 44,wX 32 27 1 42,wX 33 27 2 45 [27],wA 9 42,wG 8 31 44 [31],wS 42 9 32 [32],wG 10 33 45 [33]],SQ [RG [wV 34 10 45 [10],wK 35 .eql 45 34 0 45 4 [34]],CN 35 (SQ [.aL [wV 36 8 44,wV 37 8 44,wL 38 37 44 3,wK 39 .sub 3 38 1 3 3,wI 40 44 36 39,wD 41 36 40,wD 42 42 9,wS 36 6 41,wS 42 7 42] [[],[],[1],[1,2],
 [0,1,2,3],[0,1,2,3,4],[],[0,1,2,3,4,5],[6,0,1,2,3,4,5,7]] [8,9,36,37,38,39,40,41,42],.ret]) .skip],.aL [wD 43 36 3,wD 44 42 4,wS 36 6 43,wS 42 7 44] [[],[],[0],[1,0,2]] [3,4,43,44],.ret]) (SQ [RG [wK 46 .eql 3 19 7 3 4 [19],wG 45 46 4 [46]],CN 45 (SQ [RG [wD 48 36 3,wF 49 144 5 2 [5],wD 50 58 49 [49],wW 51 65 48 50 36 58 36 [48,50],wU 52 64 51 36 88 [51],wV 47 52 88 [52],wX 53 47 0 36,
 wX 54 47 1 42,wX 55 47 2 45 [47],wA 11 36,wA 12 42,wS 36 11 53 [53],wS 42 12 54 [54],wG 13 55 45 [55]],SQ [RG [wV 56 13 45 [13],wK 57 .eql 45 56 0 45 4 [56]],CN 57 (SQ [.aL [wD 58 36 11,wD 59 42 12,wS 36 6 58,wS 42 7 59] [[],[],[0],[1,0,2]] [11,12,58,59],.ret]) .skip],.aL [wD 60 36 3,wD 61 42 4,wS 36 6 60,wS 42 7 61] [[],[],[0],[1,0,2]] [3,4,60,61],.ret]) .skip])])])],.aL [wD 63 36 3,
 wD 64 42 4,wF 65 42 4 0,wF 66 40 65 0,wD 67 38 66,wF 68 144 5 1,wD 69 119 68,wW 70 88 67 69 38 119 29,wC 71 59 #[.tmp 63,.tmp 64,.tmp 70] #[36,42,29] 88,wV 62 71 88,wX 72 62 0 36,wX 73 62 1 42,wX 74 62 2 45,wA 14 36,wA 15 42,wS 36 14 72,wS 42 15 73,wG 16 74 45] [[],[],[],[2],[2,3],[],[5],[2,3,4,5,6],[0,1,2,3,4,5,6,7],[0,1,2,3,4,5,6,7,8],[0,1,2,3,4,5,6,7,8,9],[0,1,2,3,4,5,6,7,8,9],[0,1,2,3,4,5,6,7,
 8,9],[],[],[13,0,1,2,3,4,5,6,7,8,9,10,14],[14,0,1,2,3,4,5,6,7,8,9,11,13,10,15],[0,1,2,3,4,5,6,7,8,9,12,14,11,13,10,15,16]] [5,62,63,64,65,66,67,68,69,70,71,72,73,74],SQ [RG [wV 75 16 45 [16],wK 76 .eql 45 75 0 45 4 [75]],CN 76 (SQ [.aL [wD 77 36 14,wD 78 42 15,wS 36 6 77,wS 42 7 78] [[],[],[0],[1,0,2]] [14,15,77,78],.ret]) .skip],.aL [wD 79 36 3,wD 80 42 4,wS 36 6 79,wS 42 7 80] [[],[],[0],[1,
 0,2]] [3,4,79,80],.ret]
def Fb (k:Nat) (d0:Ac) (x1:Aw) (y2:BC):Option (Ac×Aw):=
 (B8 k y2.Kind 8).bind fun x2=>
 bif decide (x2=(5:Int)) then
  (DI k d0).bind fun x4=>
  some (x4,x1)
 else
  bif decide (x2=(6:Int)) then
   (BH k d0 x1).bind fun x6=>
   bif decide (x6.2.2=(0:Int)) then
    (at? x6.1 (ab ((x6.1.length:Int) - 1))).bind fun x8=>
    some (x8,x6.2.1)
   else
    some (d0,x1)
  else
   bif decide (x2=(7:Int)) then
    (BL k d0 y2.Dh).bind fun cm=>
    (Ds k cm).bind fun cT=>
    bif decide (cT.2.2=(0:Int)) then
     some (cT.1,cT.2.1)
    else
     some (d0,x1)
   else
    (El k x1.Ah.Aj y2.Ab).bind fun cI=>
    (Di k d0 x1 cI).bind fun bJ=>
    bif decide (bJ.2.2=(0:Int)) then
     some (bJ.1,bJ.2.1)
    else
     some (d0,x1)
theorem I0 (k:Nat) (d0:Ac) (x1:Aw) (y2:BC) (r:Ac×Aw) (h0:Fb k d0 x1 y2=some r):Ay Tryz.prog 74 [.agg (Ac.c d0),.agg (Aw.c x1),.agg (BC.c y2)] (fun y=>y=.ar [.agg (Ac.c r.1),.agg (Aw.c r.2)]):=by
 refine PB Tryz.f74 Hu.c [.cell 6 36,.cell 7 42] ?_
 simp only[Fb]at h0
 try simp only[Hu.c,go_sem]
 refine au h0 (CU k _ _) ?_ (fun x2 h0=>?_)<;>try simp only[go_sem]
 refine AR h0 ?_ ?_<;>intro c3 h0<;>have F:=c3<;>try simp only[F,go_sem]
 refine AL AB aQ 1000 ?_
 try simp only[F,go_sem]
 refine cz h0 (Fv k _) ?_ (fun x4 h0=>?_)<;>try simp only[F,go_sem]
 refine aK ?_
 try simp only[F,go_sem]
 obtain rfl:=oi h0
 refine Ag rfl ?_
 try simp only[F,go_sem]
 refine AF F h0 ?_ ?_<;>intro F h0<;>try simp only[F,go_sem]
 refine au h0 (HN k _ _) ?_ (fun x6 h0=>?_)<;>try simp only[F,go_sem]
 refine AF F h0 ?_ ?_<;>intro F h0<;>try simp only[F,go_sem]
 refine AL AB aQ 1000 ?_
 try simp only[F,go_sem]
 obtain⟨x8,iZ,h0⟩:=bs h0
 have F:=an (aC iZ) (an (aE Ac.c iZ) F)
 try simp only[F,go_sem]
 refine aK ?_
 try simp only[F,go_sem]
 obtain rfl:=oi h0
 refine Ag rfl ?_
 try simp only[F,go_sem]
 refine AL AB aQ 1000 ?_
 try simp only[F,go_sem]
 refine aK ?_
 try simp only[F,go_sem]
 obtain rfl:=oi h0
 refine Ag rfl ?_
 try simp only[F,go_sem]
 refine AF F h0 ?_ ?_<;>intro F h0<;>try simp only[F,go_sem]
 refine au h0 (IQ k _ _) ?_ (fun cm h0=>?_)<;>try simp only[F,go_sem]
 refine au h0 (IU k _) ?_ (fun cT h0=>?_)<;>try simp only[F,go_sem]
 refine AF F h0 ?_ ?_<;>intro F h0<;>try simp only[F,go_sem]
 refine AL AB aQ 1000 ?_
 try simp only[F,go_sem]
 refine aK ?_
 try simp only[F,go_sem]
 obtain rfl:=oi h0
 refine Ag rfl ?_
 try simp only[F,go_sem]
 refine AL AB aQ 1000 ?_
 try simp only[F,go_sem]
 refine aK ?_
 try simp only[F,go_sem]
 obtain rfl:=oi h0
 refine Ag rfl ?_
 try simp only[F,go_sem]
 refine AL AB aQ 1000 ?_
 try simp only[F,go_sem]
 refine cz h0 (I4 k _ _) ?_ (fun cI h0=>?_)<;>try simp only[F,go_sem]
 refine cz h0 (IN k _ _ _) ?_ (fun bJ h0=>?_)<;>try simp only[F,go_sem]
 refine aK ?_
 try simp only[F,go_sem]
 refine AF F h0 ?_ ?_<;>intro F h0<;>try simp only[F,go_sem]
 refine AL AB aQ 1000 ?_
 try simp only[F,go_sem]
 refine aK ?_
 try simp only[F,go_sem]
 obtain rfl:=oi h0
 refine Ag rfl ?_
 try simp only[F,go_sem]
 refine AL AB aQ 1000 ?_
 try simp only[F,go_sem]
 refine aK ?_
 try simp only[F,go_sem]
 obtain rfl:=oi h0
 refine Ag rfl ?_
 try simp only[F,go_sem]
def EC.s0:SC:=
 SQ [SQ [RG [wV 11 6 3,wV 12 0 22,wL 13 12 22 3 [12],wO 14 .lss 3 11 13 3 4 [11,13],wV 15 14 4 [14],gd 15 true (wV 16 6 3),gd 15 true (wK 17 .lss 3 16 12 3 4 [16]),wZ 18 15 17 4 [15,17]],CN 18 .skip (.exit 0)],.block 1 (.aL [wD 22 36 4,wD 23 42 5,wV 24 0 22,wV 25 6 3,wI 26 22 24 25,wD 27 144 26,wC 28 74 #[.tmp 22,.tmp 23,.tmp 27] #[36,42,144] 48,wV 21 28 48,wX 29 21 0 36,wX 30 21 1 42,wS 36 4 29,
 wS 42 5 30] [[],[],[],[],[2,3],[2,3,4],[0,1,2,3,4,5],[0,1,2,3,4,5,6],[0,1,2,3,4,5,6,7],[0,1,2,3,4,5,6,7],[0,1,2,3,4,5,6,7,8],[0,1,2,3,4,5,6,7,9,8,10]] [21,22,23,24,25,26,27,28,29,30]),RG [wV 19 6 3 [6],wK 20 .add 3 19 1 3 3 [19],wG 6 20 3 [20]]]
def EC.c:SC:=
 SQ [RG [wA 2 36,wA 3 42],RG [wC 8 11 #[] #[] 48,wV 7 8 48 [8],wX 9 7 0 36,wX 10 7 1 42 [7],wA 4 36,wA 5 42,wS 36 4 9 [9],wS 42 5 10 [10]],SQ [RG [wN 6 0 3],.block 0 (.loop EC.s0)],.aL [wD 31 36 4,wD 32 42 5,wS 36 2 31,wS 42 3 32] [[],[],[0],[1,0,2]] [4,5,31,32],.ret]
def BT.b0 (k:Nat) (l0:(List BC)):(Ac×Aw×Int)->Option (AT (Ac×Aw×Int) (Ac×Aw) (Ac×Aw)):=fun s=>match s with
 |(s2,s3,i4)=>
   bif decide (i4<(l0.length:Int)) then
    bif decide (i4<(12:Int)) then
     (at? l0 i4).bind fun x9=>
     (Fb k s2 s3 x9).bind fun cm=>
     some (.next (cm.1,cm.2,ab (i4+1)))
    else
     some (.brk (s2,s3))
   else
    some (.brk (s2,s3))
def BT.h0 (l0:(List BC)):(Ac×Aw×Int)->St:=fun s=>match s with
 |(s2,s3,i4)=>⟨[(0,.sl 7 (List.map BC.c l0)),(2,.ptr 0 0 0),(3,.ptr 0 3 0),(4,.ptr 0 5 0),(5,.ptr 0 6 0),(6,.int .i64 i4)],[(0,.box ([.loc 0 1 64 0 0 0,.loc 0 2 65 0 0 0])),(1,.arr 113 64 (List.map (Aa.c (n:=2) (Aa.c (n:=32) af)) [])),(2,.arr 116 65 (List.map Ao.c [])),(3,.box ([.loc 0 4 8 0 0 0,.int .i64 0,.int .i64 0,.int .i64 0])),(4,.arr 29 8 (List.map Ab.c [])),(5,.box ([.sl 64 (List.map (Aa.c (n:=2) (Aa.c (n:=32) af)) s2.Af),.sl 65 (List.map Ao.c s2.Ad)])),(6,.box ([.sl 8 (List.map Ab.c s3.Ah.Aj),.int .i64 s3.Bj,.int .i64 s3.Ax,.int .i64 s3.Used]))],[],7,Tryz.f36.ntmps⟩
def BT.x0:(Ac×Aw)->St:=fun s=>match s with
 |(s5,s6)=>⟨[(2,.ptr 0 0 0),(3,.ptr 0 3 0),(4,.ptr 0 5 0),(5,.ptr 0 6 0)],[(0,.box ([.loc 0 1 64 0 0 0,.loc 0 2 65 0 0 0])),(1,.arr 113 64 (List.map (Aa.c (n:=2) (Aa.c (n:=32) af)) [])),(2,.arr 116 65 (List.map Ao.c [])),(3,.box ([.loc 0 4 8 0 0 0,.int .i64 0,.int .i64 0,.int .i64 0])),(4,.arr 29 8 (List.map Ab.c [])),(5,.box ([.sl 64 (List.map (Aa.c (n:=2) (Aa.c (n:=32) af)) s5.Af),.sl 65 (List.map Ao.c s5.Ad)])),(6,.box ([.sl 8 (List.map Ab.c s6.Ah.Aj),.int .i64 s6.Bj,.int .i64 s6.Ax,.int .i64 s6.Used]))],[],7,Tryz.f36.ntmps⟩
def BT (k:Nat) (l0:(List BC)):Option (Ac×Aw):=
 (Ej k).bind fun x1=>
 (aj (BT.b0 k l0) k (x1.1,x1.2,0)).bind fun r11=>match r11 with
 |.next _=>none
 |.ret v_=>some v_
 |.brk (s5,s6)=>
  some (s5,s6)
theorem HL (k:Nat) (l0:(List BC)) (r:Ac×Aw) (h0:BT k l0=some r):Ay Tryz.prog 36 [.sl 7 (List.map BC.c l0)] (fun y=>y=.ar [.agg (Ac.c r.1),.agg (Aw.c r.2)]):=by
 refine PB Tryz.f36 EC.c [.cell 2 36,.cell 3 42] ?_
 simp only[BT]at h0
 try simp only[EC.c,go_sem]
 refine au h0 (HM k) ?_ (fun x1 h0=>?_)<;>try simp only[go_sem]
 obtain⟨r11,arC,h0⟩:=bs h0
 refine Bf arC (BT.h0 l0) (BT.x0) ?_ ?_ ?_
 refine Ai.go [0,2,3,4,5,6] [0,1,2,16,17,96,112] rfl ?_
 try simp only[BT.h0,go_sem]
 rintro⟨s2,s3,i4⟩ cP Bl Bm h1 aH aF bL
 refine rS ?_
 simp only[BT.b0]at h1
 try simp only[EC.s0,BT.h0,go_sem]
 refine AR h1 ?_ ?_<;>intro c7 h1<;>have F:=c7<;>try simp only[F,go_sem]
 refine AF F h1 ?_ ?_<;>intro F h1<;>try simp only[F,go_sem]
 refine AL AB aQ 1000 ?_
 try simp only[F,go_sem]
 obtain⟨x9,fb,h1⟩:=bs h1
 have F:=an (aC fb) (an (aE BC.c fb) F)
 try simp only[F,go_sem]
 refine cz h1 (I0 k _ _ _) ?_ (fun cm h1=>?_)<;>try simp only[F,go_sem]
 refine aK ?_
 try simp only[F,go_sem]
 refine AD (aH _ _ (oi h1).symm (Ai.go [0,2,3,4,5,6] [0,1,2,3,4,5,6] rfl ?_))
 try simp only[BT.h0,F,go_sem]
 refine AD (aF _ _ (oi h1).symm (Ai.go [2,3,4,5] [0,1,2,3,4,5,6] rfl ?_))
 try simp only[BT.x0,F,go_sem]
 refine AD (aF _ _ (oi h1).symm (Ai.go [2,3,4,5] [0,1,2,3,4,5,6] rfl ?_))
 try simp only[BT.x0,F,go_sem]
 rintro⟨s5,s6⟩ aI
 subst aI
 simp only at h0
 refine rS ?_
 try simp only[BT.x0,go_sem]
 refine AL AB aQ 1000 ?_
 try simp only[go_sem]
 refine aK ?_
 try simp only[go_sem]
 obtain rfl:=oi h0
 refine Ag rfl ?_
 try simp only[go_sem]
end Go.Abs
namespace Go.Abs
open Go Go.Proofs Go.RowKit Go.Lib
def AO.s0:SC:=
 SQ [SQ [RG [wV 16 9 3,wV 17 1 23,wL 18 17 23 3 [17],wO 19 .lss 3 16 18 3 4 [16,18],wV 20 19 4 [19],gd 20 true (wV 21 9 3),gd 20 true (wK 22 .lss 3 21 6 3 4 [21]),wZ 23 20 22 4 [20,22]],CN 23 .skip (.exit 0)],.block 1 (SQ [RG [wV 26 1 23,wV 27 9 3,wI 28 23 26 27 [26,27],wD 29 141 28 [28],wA 10 141,wS 141 10 29 [29]],.aL [wF 30 36 7 0,wD 31 33 30,wF 32 141 10 0,wD 33 3 32,wC 34 16 #[.tmp 33,
 .const (.int .i64 602)] #[3,3] 3,wF 35 141 10 1,wD 36 3 35,wC 37 16 #[.tmp 36,.const (.int .i64 2)] #[3,3] 3,wF 38 141 10 2,wD 39 3 38,wC 40 16 #[.tmp 39,.const (.int .i64 32)] #[3,3] 3,wF 41 141 10 3,wD 42 3 41,wY 43 3 5 42 5,wI 44 33 31 34,wI 45 113 44 37,wI 46 92 45 40,wS 5 46 43] [[],[0],[],[2],[2,3],[],[5],[5,6,2,3,4],[],[8],[8,9,5,6,2,3,4,7],[],[11],[11,12],[0,1,2,3,4],[0,1,2,3,4,14,5,6,7],
 [0,1,2,3,4,14,5,6,7,15,8,9,10,11,12,13],[0,1,2,3,4,14,5,6,7,15,8,9,10,11,12,13,16]] [10,30,31,32,33,34,35,36,37,38,39,40,41,42,43,44,45,46]]),RG [wV 24 9 3 [9],wK 25 .add 3 24 1 3 3 [24],wG 9 25 3 [25]]]
def AO.c:SC:=
 SQ [RG [wA 6 36],RG [wV 12 0 22 [0],wU 13 36 12 22 48 [12],wV 11 13 48 [13],wX 14 11 0 36,wX 15 11 1 42 [11],wA 7 36,wA 8 42,wS 36 7 14 [14],wS 42 8 15 [8,15]],SQ [RG [wN 9 0 3],.block 0 (.loop AO.s0)],SQ [RG [wV 47 2 3,wK 48 .gtr 3 47 0 3 4 [47],wV 49 48 4 [48],gd 49 true (wF 50 36 7 1),gd 49 true (wD 51 34 50 [50]),gd 49 true (wL 52 51 34 3 [51]),gd 49 true (wK 53 .gtr 3 52 0 3 4 [52]),
 wZ 54 49 53 4 [49,53]],CN 54 (.aL [wF 55 36 7 1,wD 56 34 55,wF 57 36 7 1,wD 58 34 57,wL 59 58 34 3,wV 60 2 3,wF 61 36 7 1,wD 62 34 61,wL 63 62 34 3,wK 64 .add 3 63 1 3 3,wW 65 16 60 64 3 3 3,wO 66 .sub 3 59 65 3 3,oQ 67 (.slice 34 (.tmp 56) none (some (.tmp 66)) none) 34,wF 68 36 7 1,wS 34 68 67] [[],[0],[],[2],[2,3],[],[],[6],[6,7],[6,7,8],[5,6,7,8,9],[2,3,4,5,6,7,8,9,10],[0,1,2,3,4,5,6,7,8,9,
 10,11],[0,1,2,3,4,5,6,7,8,9,10,11,12],[0,1,2,3,4,5,6,7,8,9,10,11,12,13]] [2,55,56,57,58,59,60,61,62,63,64,65,66,67,68]) .skip],RG [wD 69 36 7 [7],wS 36 6 69 [69]],.ret]
theorem AO.rs:Tryz.f35.results.toList=[.cell 6 36]:=rfl
abbrev AH:=Aa 2 (Aa 32 Int)
def dB:AH->List AV:=Aa.c (n:=2) (Aa.c (n:=32) af)
def abV (k:Nat) (P:List AH) (s:Bd):Option (List AH):=
 (B8 k s.AH 602).bind fun a=>
 (B8 k s.DL 2).bind fun b=>
 (B8 k s.At 32).bind fun c=>
 (at? P a).bind fun p=>(p.at? b).bind fun h=>(h.at? c).bind fun _=>
 some (P.set a.toNat (p.set b (h.set c (IntKind.u8.wrap s.CL))))
def sy (k:Nat):List AH->List Bd->Option (List AH)
 |P,[]=>some P
 |P,s::l=>(abV k P s).bind fun P=>sy k P l
def E6 (k:Nat) (l0:List BC) (gJ:List Bd) (jv:Int):Option Ac:=
 if gJ.length<=4611686018427387904 then
 (BT k l0).bind fun r=>
 (sy k r.1.Af (gJ.take 6)).bind fun P=>
 bif decide (0<jv) then
  bif decide ((0:Int)<(r.1.Ad.length:Int)) then
   (B8 k jv (ab ((r.1.Ad.length:Int)+1))).bind fun n=>
   (nK r.1.Ad.length (ab ((r.1.Ad.length:Int) - n))).bind fun _=>
   some ⟨P,r.1.Ad.take (ab ((r.1.Ad.length:Int) - n)).toNat⟩
  else some ⟨P,r.1.Ad⟩
 else some ⟨P,r.1.Ad⟩
 else none
def gX (x y:AV):Au:=[(0,.box [.loc 0 1 64 0 0 0,.loc 0 2 65 0 0 0]),(1,.arr 113 64 []),(2,.arr 116 65 []),(3,.box [x,y])]
def jH (x y:AV) (cu:List Bd) (cut:Int) (i:Int):St:=⟨[(1,.sl 4 (List.map Bd.c cu)),(2,.int .i64 cut),(6,.ptr 0 0 0),(7,.ptr 0 3 0),(9,.int .i64 i)],gX x y,[],4,Tryz.f35.ntmps⟩
def imB (x y:AV) (cu:List Bd) (cut:Int) (i:Int) (s:Bd):St:=⟨[(1,.sl 4 (List.map Bd.c cu)),(2,.int .i64 cut),(6,.ptr 0 0 0),(7,.ptr 0 3 0),(9,.int .i64 i),(10,.ptr 0 4 0)],[(0,.box [.loc 0 1 64 0 0 0,.loc 0 2 65 0 0 0]),(1,.arr 113 64 []),(2,.arr 116 65 []),(3,.box [x,y]),(4,.box (Bd.c s))],[],5,Tryz.f35.ntmps⟩
def sx (x y:AV) (cu:List Bd) (cut:Int) (i:Int) (b:Int) (p:Value):St:=⟨[(1,.sl 4 (List.map Bd.c cu)),(2,.int .i64 cut),(6,.ptr 0 0 0),(7,.ptr 0 3 0),(9,.int .i64 i),(43,.int .u8 b),(46,.raw p)],gX x y,[],4,Tryz.f35.ntmps⟩
def AO.o0:SC:=
 AO.c.fst
def AO.o1:SC:=
 AO.c.snd.fst
def AO.o2:SC:=
 AO.c.snd.snd.fst.fst
def AO.o7:SC:=
 AO.c.snd.snd.snd
def AO.q0:SC:=
 AO.s0.fst
def AO.x:SC:=
 AO.s0.snd.fst.body
def AO.x5:SC:=
 AO.x.fst
def SC.adw:SC->List An
 |.aL l _ _=>l
 |_=>[]
def AO.r4:SC:=
 AO.s0.snd.snd
theorem aot (k:Nat) (l:List BC) (cu:List Bd) (cut:Int) (r:Ac×Aw) (h0:BT k l=some r) (Φ:Exit->St->Prop):
  AK Tryz.prog Tryz.f35.ntmps Φ [.sc AO.o0,.sc AO.o1,.sc AO.o2,.back (fun st=>Ai Tryz.f35.ntmps st (jH (.sl 64 (List.map dB r.1.Af)) (.sl 65 (List.map Ao.c r.1.Ad)) cu cut 0))]
   (St.enter [.sl 7 (List.map BC.c l),.sl 4 (List.map Bd.c cu),.int .i64 cut] [] Tryz.f35.ntmps):=by
 refine rS ?_
 simp only[AO.o0,AO.o1,AO.o2,AO.c,SC.fst,SC.snd,go_sem]
 refine jL (HL k l r h0) ?_ ?_
 ·simp only[go_sem]
 simp only[go_sem]
 refine AD ?_
 refine Ai.go [1,2,6,7,9] [0,1,2,96] rfl ?_
 simp only[jH,gX,dB,go_sem]
theorem aou (pv wv:Value) (cu:List Bd) (cut:Int) (i:Int) (h1:decide (i<(cu.length:Int))=true) (h2:decide (i<6)=true) (Φ:Exit->St->Prop):
  AK Tryz.prog Tryz.f35.ntmps Φ [.sc AO.q0,.back (fun st=>Ai Tryz.f35.ntmps st (jH (.raw pv) (.raw wv) cu cut i))] (jH (.raw pv) (.raw wv) cu cut i):=by
 refine rS ?_
 simp only[jH,gX,AO.q0,AO.s0,SC.fst,SC.snd,h1,h2,go_sem]
 refine AD ?_
 refine Ai.go [1,2,6,7,9] [0,1,2,3] rfl ?_
 simp only[go_sem]
theorem aox (pv wv:Value) (cu:List Bd) (cut:Int) (i:Int) (h:(decide (i<(cu.length:Int))&&decide (i<6))=false) (B:St->Prop):
  AK Tryz.prog Tryz.f35.ntmps (fun e st=>e=.exit 0/\Ai Tryz.f35.ntmps st (jH (.raw pv) (.raw wv) cu cut i)) [.sc AO.q0,.back B] (jH (.raw pv) (.raw wv) cu cut i):=by
 refine rS ?_
 simp only[jH,gX,AO.q0,AO.s0,SC.fst,SC.snd,go_sem]
 cases h1:decide (i<(cu.length:Int)) with
 |false=>
  simp only[h1,go_sem]
  refine⟨rfl,Ai.go [1,2,6,7,9] [0,1,2,3] rfl ?_⟩
  simp only[go_sem]
 |true=>
  rw[h1,BQ]at h
  simp only[h1,h,go_sem]
  refine⟨rfl,Ai.go [1,2,6,7,9] [0,1,2,3] rfl ?_⟩
  simp only[go_sem]
theorem aoy (pv wv:Value) (cu:List Bd) (cut:Int) (i:Int) (s:Bd) (hs:at? cu i=some s) (Φ:Exit->St->Prop):
  AK Tryz.prog Tryz.f35.ntmps Φ [.sc AO.x5,.back (fun st=>Ai Tryz.f35.ntmps st (imB (.raw pv) (.raw wv) cu cut i s))] (jH (.raw pv) (.raw wv) cu cut i):=by
 refine rS ?_
 simp only[jH,gX,AO.x5,AO.x,AO.s0,SC.fst,SC.snd,SC.body,aC hs,aE Bd.c hs,go_sem]
 refine AD ?_
 refine Ai.go [1,2,6,7,9,10] [0,1,2,3,68] rfl ?_
 simp only[imB,go_sem]
theorem aow (pv wv:Value) (cu:List Bd) (cut:Int) (i:Int) (b:Int) (p:Value) (Φ:Exit->St->Prop):
  AK Tryz.prog Tryz.f35.ntmps Φ [.ao 1,.sc AO.r4,.back (fun st=>Ai Tryz.f35.ntmps st (jH (.raw pv) (.raw wv) cu cut (ab (i+1))))] (sx (.raw pv) (.raw wv) cu cut i b p):=by
 refine rS ?_
 simp only[sx,gX,AO.r4,AO.s0,SC.snd,go_sem]
 refine AD ?_
 refine Ai.go [1,2,6,7,9] [0,1,2,3] rfl ?_
 simp only[jH,gX,go_sem]
def AO.x6:SC:=
 AO.x.snd
def AO.ops:List An:=AO.x6.adw.take 17

def AO.mH:List (List Nat):=match AO.x6 with
 |.aL _ b _=>b
 |_=>[]
def AO.lst:An:=wS 5 46 43

theorem aos (k:Nat) (c off n cp:Nat) (wv:Value) (cu:List Bd) (cut i:Int) (s:Bd) (a b d:Int) (ha:B8 k s.AH 602=some a) (hb:B8 k s.DL 2=some b) (hd:B8 k s.At 32=some d)
  (ra:gq a n=some a.toNat) (rb:gq b 2=some b.toNat) (rd:gq d 32=some d.toNat):
  DG Tryz.prog T (fun acc aq=>calm AO.ops AO.mH acc.reverse=true/\(fun aq=>Ai Tryz.f35.ntmps aq (sx (.raw (.slice (some ⟨c,off,none⟩) n cp)) (.raw wv) cu cut i (IntKind.u8.wrap s.CL) (.pointer (some (((Addr.add ⟨c,off,none⟩ (a.toNat*64)).add (b.toNat*32)).add (d.toNat*1)))))) { aq with tm:=cw aq.tm [] })
   (iT T 1000 AO.ops [] (imB (.raw (.slice (some ⟨c,off,none⟩) n cp)) (.raw wv) cu cut i s)):=by
 simp only[AO.ops,AO.mH,AO.x6,AO.x,AO.s0,SC.fst,SC.snd,SC.body,SC.adw,List.take_succ_cons,List.take_zero,imB,Bd.c,go_sem]
 refine vQ (CU k _ _ _ ha) ?_ ?_
 ·simp only[go_sem]
 simp only[go_sem]
 refine vQ (CU k _ _ _ hb) ?_ ?_
 ·simp only[go_sem]
 simp only[go_sem]
 refine vQ (CU k _ _ _ hd) ?_ ?_
 ·simp only[go_sem]
 simp only[ra,rb,rd,go_sem]
 refine GQ ?_
 refine⟨agp (by simp only[nc,List.reverse_cons,List.reverse_nil,Bt,Bg,List.map_cons,List.map_nil,List.append_nil];rfl) (by first|decide +kernel|rfl),?_⟩
 refine Ai.go [1,2,6,7,9,43,46] [0,1,2,3] rfl ?_
 simp only[sx,gX,go_sem]
theorem yv (p:AH):(dB p).length=64:=fM p
theorem abz {p:AH}{x:AV} (h:x∈dB p):∃ m,x=.int .u8 m:=by
 unfold dB Aa.c at h
 obtain⟨l,h1,h2⟩:=List.mem_flatten.1 h
 obtain⟨q,_,rfl⟩:=List.mem_map.1 h1
 obtain⟨l,h1,h3⟩:=List.mem_flatten.1 h2
 obtain⟨z,_,rfl⟩:=List.mem_map.1 h1
 unfold af at h3
 exact⟨z,CG.1 h3⟩
theorem aj4 {x:Ao}{y:AV} (h:y∈Ao.c x):y.leaf=true:=by
 unfold Ao.c at h
 rcases Bb.1 h with h|h
 ·rw[CG.1 h];rfl
 ·obtain⟨m,rfl⟩:=abz h;rfl
theorem arx (x:Ao):∃ (o:Nat) (m:Int),(Ao.c x)[o]?=some (AV.int .u8 m):=by
 have hl:=yv x.AH
 obtain⟨y,hy⟩:∃ y,(dB x.AH)[0]?=some y:=⟨_,gG (by omega)⟩
 obtain⟨m,rfl⟩:=abz (AU hy)
 refine⟨1,m,?_⟩
 unfold Ao.c
 rw[CE (by simp)]
 exact hy
structure CX (N0:Nat) (fm:FM) (pv wv:Value) (P:List AH) (W:List Ao):Prop where
 pg:VR fm [] (.sl 64 (List.map dB P)) pv
 wt:VR fm [] (.sl 65 (List.map Ao.c W)) wv
 aae:∀ b o m,b<N0->fm b o≠some (.int .u8 m)
 new:∀ b o v,N0<=b->fm b o=some v->fm.t b≠0
theorem VR.u8 {fm:FM}{ts:List Al}{m:Int}{v:Value} (h:VR fm ts (.int .u8 m) v):v=.int .u8 m:=by cases h;rfl
theorem CX.open {N0:Nat}{fm:FM}{pv wv:Value}{P:List AH}{W:List Ao} (h:CX N0 fm pv wv P W) (hP:P≠[]):∃ c off cap,pv=.slice (some ⟨c,off,none⟩) P.length cap/\(P.length<=cap/\P.length<=maxLen)/\N0<=c/\fm.t c=64/\
  ∀ (i:Nat) (p:AH) (o:Nat) (m:Int),P[i]?=some p->(dB p)[o]?=some (.int .u8 m)->fm c (off+(i*64+o))=some (.int .u8 m):=by
 have qC:=h.pg
 generalize he:List.map dB P=es at qC
 cases qC with
 |ck e a cap=>exact absurd (List.map_eq_nil_iff.1 he) hP
 |sl _ cb off _ cap u bX h1 h2 h3 h4=>
  have hlen:es.length=P.length:=by rw[<-he];simp
  have key:∀ (i:Nat) (p:AH) (o:Nat) (m:Int),P[i]?=some p->(dB p)[o]?=some (.int .u8 m)->fm cb (off+(i*64+o))=some (.int .u8 m)/\(fm.t cb=0\/fm.t cb=64):=by
   intro i p o m hi ho
   have ff:es[i]?=some (dB p):=by rw[<-he,BA,hi];rfl
   have h5:=h2 i _ o _ ff ho
   have h6:=(h4 i _ o _ ff ho).u8
   rw[h6]at h5
   exact h5
  obtain⟨p,l,rfl⟩:∃ p l,P=p::l:=by
   cases P with
   |nil=>exact absurd rfl hP
   |cons p l=>exact⟨p,l,rfl⟩
  obtain⟨y,hy⟩:∃ y,(dB p)[0]?=some y:=⟨_,gG (by rw[yv];decide)⟩
  obtain⟨m,rfl⟩:=abz (AU hy)
  obtain⟨h5,h6⟩:=key 0 p 0 m rfl hy
  have hN:N0<=cb:=by
   by_cases hb:cb<N0
   ·exact absurd h5 (h.aae cb _ m hb)
   ·omega
  rw[hlen]at bX
  refine⟨cb,off,cap,by rw[hlen],bX,hN,h6.resolve_left (h.new cb _ _ hN h5),fun i p o m hi ho=>(key i p o m hi ho).1⟩
theorem aiT {fm:FM}{c off cap:Nat}{P:List AH} (bX:P.length<=cap/\P.length<=maxLen) (ht:fm.t c=64) (hc:∀ (i:Nat) (p:AH) (o:Nat) (m:Int),P[i]?=some p->(dB p)[o]?=some (.int .u8 m)->fm c (off+(i*64+o))=some (.int .u8 m)):
  VR fm [] (.sl 64 (List.map dB P)) (.slice (some ⟨c,off,none⟩) P.length cap):=by
 have hlen:(List.map dB P).length=P.length:=by simp
 have get:∀ (i:Nat) (cc:List AV) (o:Nat) (x:AV),(List.map dB P)[i]?=some cc->cc[o]?=some x->∃ m,x=.int .u8 m/\fm c (off+(i*64+o))=some (.int .u8 m):=by
  intro i cc o x hi ho
  rw[BA,mS]at hi
  obtain⟨p,hp,rfl⟩:=hi
  obtain⟨m,rfl⟩:=abz (AU ho)
  exact⟨m,rfl,hc i p o m hp ho⟩
 rw[<-hlen]at bX ⊢
 refine .sl (List.map dB P) c off 64 cap (fun i o=>(fm c (off+(i*64+o))).getD default) bX ?_ ?_ ?_ ?_
 ·intro cc cj
  obtain⟨p,_,rfl⟩:=List.mem_map.1 cj
  exact yv p
 all_goals
  intro i cc o x hi ho
  obtain⟨m,rfl,h5⟩:=get i cc o x hi ho
 ·rw[h5];exact⟨h5,.inr ht⟩
 ·rfl
 ·rw[h5];exact .int _ _
theorem apU {P:List AH}{p:AH}{h:Aa 32 Int}{a b d:Int}{m0:Int} (m:Int) (hp:at? P a=some p) (hh:p.at? b=some h) (hm:h.at? d=some m0):
  b.toNat*32+d.toNat<64/\a.toNat<P.length/\(dB p)[b.toNat*32+d.toNat]?=some (.int .u8 m0)/\P[a.toNat]?=some p/\
  ∀ (i:Nat) (q:AH) (o:Nat) (n:Int),(P.set a.toNat (p.set b (h.set d m)))[i]?=some q->(dB q)[o]?=some (.int .u8 n)->
   (i=a.toNat/\o=b.toNat*32+d.toNat/\n=m)\/(¬ (i=a.toNat/\o=b.toNat*32+d.toNat)/\∃ q',P[i]?=some q'/\(dB q')[o]?=some (.int .u8 n)):=by
 have U:=Ap.at fL (Ap.at gA (Ap.self fM p) hh) hm
 have hb:=U.bound fL
 have hg:=U.get fL
 rw[fM]at hb
 have e:0+b.toNat*32+d.toNat*1=b.toNat*32+d.toNat:=by omega
 rw[e]at hb hg
 have xa:P[a.toNat]?=some p:=by
  unfold at? at hp
  split at hp
  ·exact hp
  ·cases hp
 have ae:=(gS.1 xa).1
 have hl:=yv p
 refine⟨by omega,ae,?_,xa,?_⟩
 ·have h1:(((dB p).drop (b.toNat*32+d.toNat)).take 1)[0]?=some (.int .u8 m0):=by
   show (((Aa.c (n:=2) (Aa.c (n:=32) af) p).drop (b.toNat*32+d.toNat)).take 1)[0]?=_
   rw[hg];rfl
  rw[BS,if_pos (by decide),Cg,Nat.add_zero]at h1
  exact h1
 ·intro i q o n hi ho
  by_cases hia:i=a.toNat
  ·subst hia
   rw[List.getElem?_set_self ae]at hi
   obtain rfl:=oi hi
   have hu:dB (p.set b (h.set d m))=(dB p).take (b.toNat*32+d.toNat)++([.int .u8 m]++(dB p).drop (b.toNat*32+d.toNat+1)):=by
    have:=U.ow m
    rw[e]at this
    exact this.symm
   rw[hu]at ho
   by_cases h1:o<b.toNat*32+d.toNat
   ·rw[Ct (by simp;omega),BS,if_pos h1]at ho
    exact .inr ⟨fun hh=>by omega,p,xa,ho⟩
   ·rw[CE (by simp;omega)]at ho
    simp only[Ba,Nat.min_eq_left (show b.toNat*32+d.toNat<=(dB p).length by omega)]at ho
    by_cases h2:o=b.toNat*32+d.toNat
    ·subst h2
     rw[Nat.sub_self]at ho
     simp only[List.singleton_append,BP,oE,AV.int.injEq,true_and]at ho
     exact .inl ⟨rfl,rfl,ho.symm⟩
    ·obtain⟨z,rfl⟩:∃ z,o=b.toNat*32+d.toNat+1+z:=⟨o - (b.toNat*32+d.toNat+1),by omega⟩
     have e3:b.toNat*32+d.toNat+1+z - (b.toNat*32+d.toNat)=z+1:=by omega
     rw[e3,List.singleton_append,Cc,Cg]at ho
     exact .inr ⟨fun hh=>by omega,p,xa,ho⟩
  ·rw[List.getElem?_set_ne (fun e=>hia e.symm)]at hi
   exact .inr ⟨fun hh=>hia hh.1,q,hi,ho⟩
theorem CX.uX {N0:Nat}{fm:FM}{pv wv:Value}{P:List AH}{W:List Ao} (hF:CX N0 fm pv wv P W) {c off cap:Nat} (hpv:pv=.slice (some ⟨c,off,none⟩) P.length cap) (bX:P.length<=cap/\P.length<=maxLen) (hN:N0<=c) (ht:fm.t c=64)
  (hc:∀ (i:Nat) (p:AH) (o:Nat) (m:Int),P[i]?=some p->(dB p)[o]?=some (.int .u8 m)->fm c (off+(i*64+o))=some (.int .u8 m))
  {p:AH}{h:Aa 32 Int}{a b d:Int}{m0:Int} (m:Int) (hp:at? P a=some p) (hh:p.at? b=some h) (hm:h.at? d=some m0):
  CX N0 (fm.lN c (off+(a.toNat*64+(b.toNat*32+d.toNat))) (.int .u8 m)) pv wv (P.set a.toNat (p.set b (h.set d m))) W/\fm c (off+(a.toNat*64+(b.toNat*32+d.toNat)))=some (.int .u8 m0):=by
 obtain⟨k1,k2,k3,k4,k5⟩:=apU m hp hh hm
 have hold:=hc _ _ _ _ k4 k3
 refine⟨⟨?_,?_,?_,?_⟩,hold⟩
 ·rw[hpv]
  have hlen:(P.set a.toNat (p.set b (h.set d m))).length=P.length:=by simp
  rw[<-hlen]
  refine aiT (by rw[hlen];exact bX) ht ?_
  intro i q o n hi ho
  have asi:o<64:=by rw[<-yv q];exact(gS.1 ho).1
  unfold FM.lN
  simp only
  rcases k5 i q o n hi ho with ⟨rfl,rfl,rfl⟩|⟨bj,q',h1,h2⟩
  ·rw[if_pos ⟨trivial,rfl⟩]
  ·rw[if_neg]
   ·exact hc i q' o n h1 h2
   ·rintro⟨_,e⟩
    apply bj
    constructor<;>omega
 ·have uD:=hF.wt
  generalize he:List.map Ao.c W=es at uD
  generalize wv=wv' at uD
  cases uD with
  |ck e a cap=>exact .ck _ _ _
  |sl _ cb off' _ vI u yZ h1 h2 h3 h4=>
   have aoY:∀ (i:Nat) (cc:List AV) (o:Nat) (x:AV),es[i]?=some cc->cc[o]?=some x->x.leaf=true:=by
    intro i cc o x hi ho
    rw[<-he,BA,mS]at hi
    obtain⟨z,_,rfl⟩:=hi
    exact aj4 (AU ho)
   have bj:∀ (i:Nat) (cc:List AV) (o:Nat) (x:AV),es[i]?=some cc->cc[o]?=some x->cb≠c:=by
    rintro i cc o x hi ho rfl
    rw[<-he,BA,mS]at hi
    obtain⟨z,hz,rfl⟩:=hi
    have:=(h2 i _ o x (by rw[<-he,BA,hz];rfl) ho).2
    omega
   refine .sl es cb off' 65 vI u yZ h1 (fun i cc o x hi ho=>⟨?_,(h2 i cc o x hi ho).2⟩) h3 (fun i cc o x hi ho=>(h4 i cc o x hi ho).leaf (aoY i cc o x hi ho))
   unfold FM.lN
   simp only
   rw[if_neg (fun hh=>bj i cc o x hi ho hh.1)]
   exact(h2 i cc o x hi ho).1
 ·intro b' o n hb
  unfold FM.lN
  simp only
  rw[if_neg (fun hh=>by omega)]
  exact hF.aae b' o n hb
 ·intro b' o v hb hv
  by_cases oF:b'=c
  ·subst oF;show fm.t b'≠0;omega
  ·unfold FM.lN at hv
   simp only at hv
   rw[if_neg (fun hh=>oF hh.1)]at hv
   exact hF.new b' o v hb hv
theorem CX.up {N0:Nat}{fm fm':FM}{pv wv:Value}{P:List AH}{W:List Ao} (hF:CX N0 fm pv wv P W) (bw:AM N0 fm fm'):CX N0 fm' pv wv P W:=
 ⟨hF.pg.mono bw.le (As.refl _),hF.wt.mono bw.le (As.refl _),fun b o m hb=>by rw[bw.fix b o hb];exact hF.aae b o m hb,fun b o v hb hv=>by
  rcases bw.new b o v hv with e|e
  ·rw[bw.le.tg _ _ _ e];exact hF.new b o v hb e
  ·exact e⟩
theorem HR.aqw {N0:Nat}{W0:World}{fm:FM}{ts:List Al}{H H':Heap}{w:World} (h:HR N0 W0 fm ts H w) (hlen:H'.length=H.length)
  (hg:∀ l k b',H'.get l k=some b'->∃ b,H.get l k=some b/\BR fm (ts.drop l) w N0 (tb ts l k) b'):HR N0 W0 fm ts H' w:=by
 refine⟨h.len.trans hlen.symm,fun l k b' hb=>(hg l k b' hb).choose_spec.2,?_,h.bP,?_,h.dk,h.size,h.cX,h.ej⟩
 ·intro l k l' k' b b' c h1 h2 h3 h4
  obtain⟨b1,g1,_⟩:=hg l k b h1
  obtain⟨b2,g2,_⟩:=hg l' k' b' h2
  exact h.inj l k l' k' b1 b2 c g1 g2 h3 h4
 ·intro l k b c o h1 h2
  obtain⟨b1,g1,_⟩:=hg l k b h1
  exact h.df l k b1 c o g1 h2
theorem aop (x y:AV) (l k:Nat) (b:AG) (h:Heap.get [gX x y] l k=some b):(l=0/\k=3/\b=.box [x,y])\/(¬ (l=0/\k=3)/\∀ x' y',Heap.get [gX x' y'] l k=some b):=by
 cases l with
 |succ l=>simp[Heap.get,gX]at h
 |zero=>
  simp only[Heap.get,gX,BP,Ae]at h
  by_cases h3:k=3
  ·subst h3
   left
   refine⟨rfl,rfl,?_⟩
   simpa [look] using h.symm
  ·right
   refine⟨fun e=>h3 e.2,fun x' y'=>?_⟩
   rw[<-h]
   simp only[Heap.get,gX,BP,Ae,look]
   simp[h3,Ne.symm h3]
theorem HF.cells {N0:Nat}{W0:World}{fm:FM}{ts:List Al}{a:Act}{w:World}{x y:AV}{cu:List Bd}{cut i:Int} (h:SR N0 W0 Tryz.f35.ntmps (jH x y cu cut i) a w fm ts):∃ pv wv,VR fm ts x pv/\VR fm ts y wv/\(pv.oneCell'=true/\wv.oneCell'=true)/\
  ∀ x' y',x'.flat=true->y'.flat=true->VR fm ts x' pv->VR fm ts y' wv->SR N0 W0 Tryz.f35.ntmps (jH x' y' cu cut i) a w fm ts:=by
 have h0:Heap.get [gX x y] 0 3=some (.box [x,y]):=by simp[Heap.get,gX,look]
 have hb:=h.hr.ao 0 3 _ h0
 generalize ht:tb ts 0 3=t at hb
 cases hb with
 |box c cs hN hB=>
  obtain⟨cl,et,c1,c2,c3⟩:=hB
  have h2:cl.size=2:=c2
  have e0:cl[0]?=some (cl[0]'(by omega)):=Bo _
  have e1:cl[1]?=some (cl[1]'(by omega)):=Bo _
  obtain⟨f0,v0⟩:=c3 0 _ _ rfl e0
  obtain⟨f1,v1⟩:=c3 1 _ _ rfl e1
  refine⟨_,_,v0,v1,⟨v0.aeN f0,v1.aeN f1⟩,fun x' y' fx fy vx vy=>?_⟩
  refine⟨?_,h.tm,h.nx,h.size,h.dP⟩
  refine HR.aqw (H:=(gX x y)::[]) h.hr rfl ?_
  intro l k b' hb
  rcases aop x' y' l k b' hb with ⟨rfl,rfl,rfl⟩|⟨_,bj⟩
  ·refine⟨_,h0,?_⟩
   rw[ht]
   refine .box c _ hN ⟨cl,et,c1,h2,?_⟩
   intro o z v h1 h2
   match o,h1 with
   |0,h1=>cases h1;rw[e0]at h2;cases h2;exact⟨fx,vx⟩
   |1,h1=>cases h1;rw[e1]at h2;cases h2;exact⟨fy,vy⟩
  ·exact⟨b',bj x y,h.hr.ao l k b' (bj x y)⟩
theorem aoz (k:Nat) (P:List AH) (W:List Ao) (cu:List Bd) (cut i:Int) (r:Ac)
  (h:(bif decide (0<cut) then
   bif decide ((0:Int)<(W.length:Int)) then
    (B8 k cut (ab ((W.length:Int)+1))).bind fun n=>
    (nK W.length (ab ((W.length:Int) - n))).bind fun _=>
    some (⟨P,W.take (ab ((W.length:Int) - n)).toNat⟩:Ac)
   else some ⟨P,W⟩
  else some ⟨P,W⟩)=some r):
  AK Tryz.prog Tryz.f35.ntmps (fun e st=>e=.ret/\DD T Tryz.f35.results.toList (fun y=>NL y (.agg (Ac.c r))) .ret st) [.sc AO.o7] (jH (.sl 64 (List.map dB P)) (.sl 65 (List.map Ao.c W)) cu cut i):=by
 refine rS ?_
 simp only[AO.o7,AO.c,jH,gX,SC.snd,go_sem]
 cases h1:decide (0<cut) with
 |false=>
  simp only[h1,Ak]at h
  obtain rfl:=oi h
  simp only[h1,go_sem]
  refine⟨rfl,Ag (P:=Tryz.prog) (n:=Tryz.f35.ntmps) rfl ?_⟩
  simp only[AO.rs,dB,List.map_take,go_sem]
 |true=>
  simp only[h1,Am]at h
  cases h2:decide ((0:Int)<(W.length:Int)) with
  |false=>
   simp only[h2,Ak]at h
   obtain rfl:=oi h
   simp only[h1,h2,go_sem]
   refine⟨rfl,Ag (P:=Tryz.prog) (n:=Tryz.f35.ntmps) rfl ?_⟩
   simp only[AO.rs,dB,List.map_take,go_sem]
  |true=>
   simp only[h2,Am]at h
   obtain⟨n,hn,h⟩:=bs h
   obtain⟨b,hb,h⟩:=bs h
   obtain rfl:=oi h
   simp only[h1,h2,go_sem]
   refine AL AB aQ 1000 ?_
   simp only[go_sem]
   refine vQ (CU k _ _ _ hn) ?_ ?_
   ·simp only[go_sem]
   have lhb:=ah2 hb
   simp only[ah1 hb,go_sem]
   refine aK ?_
   simp only[go_sem]
   refine⟨rfl,Ag (P:=Tryz.prog) (n:=Tryz.f35.ntmps) rfl ?_⟩
   simp only[AO.rs,dB,List.map_take,go_sem]
def FM.fj (fm:FM):FM:=⟨fun b o=>match fm b o with
 |some (.int .u8 _)=>none
 |x=>x,fun _=>0⟩
theorem FM.apm {fm:FM}{b o:Nat}{v:Value} (h:fm b o=some v) (hn:∀ m,v≠.int .u8 m):fm.fj b o=some v:=by
 show (match fm b o with
  |some (.int .u8 _)=>none
  |x=>x)=some v
 rw[h]
 split
 ·rename_i m e
  exact absurd (oi e) (hn m)
 ·rfl
theorem FM.aeH {fm:FM}{b o:Nat}{v:Value} (h:fm.fj b o=some v):fm b o=some v/\∀ m,v≠.int .u8 m:=by
 have h':(match fm b o with
  |some (.int .u8 _)=>none
  |x=>x)=some v:=h
 split at h'
 ·cases h'
 ·rename_i bj
  refine⟨h',fun m e=>?_⟩
  subst e
  exact bj m h'
theorem aiF:∀ {l:List (List AV)},(∀ c∈l,AV.jI c=true)->AV.jI l.flatten=true
 |[],_=>rfl
 |c::l,h=>by
  rw[Cx,aeG,h c (List.mem_cons_self ..),aiF (fun c hc=>h c (List.mem_cons_of_mem _ hc))];rfl
theorem apk {n:Nat} (v:Aa n Int):AV.jI (Aa.c (n:=n) eI v)=true:=by
 unfold Aa.c
 refine aiF fun c hc=>?_
 obtain⟨x,_,rfl⟩:=List.mem_map.1 hc
 rfl
theorem apl (l:List BC):AV.fj (.sl 7 (List.map BC.c l))=true:=ab9 (fun x=>by
 cases x
 simp only[BC.c,Bg,Bt,AV.jI,AV.pf,AV.fj,aeG,apk,BQ,Bool.and_true]
 exact ab9 (fun x=>by rfl) _) l
theorem aiG (l:List Bd):AV.fj (.sl 4 (List.map Bd.c l))=true:=ab9 (fun x=>by cases x;simp[Bd.c,AV.jI,AV.pf,AV.fj,go_sem]) l
theorem CX.close {N0:Nat}{fm fm':FM}{pv wv:Value}{P:List AH}{W:List Ao} (hF:CX N0 fm pv wv P W) (hc:∀ b o v,N0<=b->fm b o=some v->fm' b o=some v) (ht:∀ b,N0<=b->fm'.t b=fm.t b):
  VR fm' [] (.sl 64 (List.map dB P)) pv/\VR fm' [] (.sl 65 (List.map Ao.c W)) wv:=by
 constructor
 ·by_cases hP:P=[]
  ·subst hP
   have:=hF.pg
   cases this with
   |ck e a cap=>exact .ck _ _ _
   |sl _ cb off _ cap u bX h1 h2 h3 h4=>exact .sl [] cb off 64 cap u bX (fun cc h=>by simp at h) (fun i c o x h=>by simp at h) (fun i c o x h=>by simp at h) (fun i c o x h=>by simp at h)
  ·obtain⟨c,off,cap,rfl,bX,hN,o8,hce⟩:=hF.open hP
   exact aiT bX (by rw[ht c hN];exact o8) (fun i p o m h1 h2=>hc _ _ _ hN (hce i p o m h1 h2))
 ·have uD:=hF.wt
  generalize he:List.map Ao.c W=es at uD
  generalize wv=wv' at uD
  cases uD with
  |ck e a cap=>exact .ck _ _ _
  |sl _ cb off' _ vI u yZ h1 h2 h3 h4=>
   have key:∀ (i:Nat) (cc:List AV) (o:Nat) (x:AV),es[i]?=some cc->cc[o]?=some x->x.leaf=true/\N0<=cb:=by
    intro i cc o x hi ho
    have ff:=hi
    rw[<-he,BA,mS]at hi
    obtain⟨z,_,rfl⟩:=hi
    refine⟨aj4 (AU ho),?_⟩
    obtain⟨o',m,hm⟩:=arx z
    have h5:=(h2 i _ o' _ ff hm).1
    rw[(h4 i _ o' _ ff hm).u8]at h5
    by_cases hb:cb<N0
    ·exact absurd h5 (hF.aae cb _ m hb)
    ·omega
   refine .sl es cb off' 65 vI u yZ h1 (fun i cc o x hi ho=>?_) h3 (fun i cc o x hi ho=>(h4 i cc o x hi ho).leaf (key i cc o x hi ho).1)
   obtain⟨_,hN⟩:=key i cc o x hi ho
   obtain⟨a1,a2⟩:=h2 i cc o x hi ho
   exact⟨hc _ _ _ hN a1,by rw[ht cb hN];exact a2⟩
theorem aoq (x y:Value):∀ l k b,Heap.get [gX (.raw x) (.raw y)] l k=some b->b.fj=true:=by
 intro l k b h
 cases l with
 |succ l=>simp[Heap.get,gX]at h
 |zero=>
  simp only[Heap.get,gX,BP,Ae,look]at h
  repeat' split at h
  all_goals first|cases h|skip
  all_goals rfl
theorem aor (pv wv:Value) (cu:List Bd) (cut i b:Int) (p:Value):∀ t x,look (sx (.raw pv) (.raw wv) cu cut i b p).tm t=some x->x.fj=true:=by
 intro t x h
 simp only[sx,look]at h
 repeat' split at h
 all_goals first|cases h|skip
 ·exact aiG cu
 all_goals rfl
theorem aoA {i:Int} (h0:0<=i) (h6:i<6):ab (i+1)=i+1:=by
 have h:i=0\/i=1\/i=2\/i=3\/i=4\/i=5:=by omega
 rcases h with rfl|rfl|rfl|rfl|rfl|rfl<;>decide
def Cj:Code:=Tryz.f35.body.getD .skip
def ags:Code->Code
 |.loop b=>b
 |.block _ b=>ags b
 |x=>x
def ama:Code->Code
 |.block _ b=>b
 |x=>x
def abu:Code->Nat
 |.region r _ _=>r
 |_=>0
def CS:Code:=ags (ah (bh (ah (ah Cj))))
def C0:Code:=ama (bh (ah CS))
theorem aoC (k:Nat) (P:List AH) (s:Bd) (l:List Bd) (r:List AH) (h:sy k P (s::l)=some r):∃ a b d p hf m0,B8 k s.AH 602=some a/\B8 k s.DL 2=some b/\B8 k s.At 32=some d/\at? P a=some p/\p.at? b=some hf/\hf.at? d=some m0/\sy k (P.set a.toNat (p.set b (hf.set d (IntKind.u8.wrap s.CL)))) l=some r:=by
 simp only[sy,abV]at h
 obtain⟨P',h1,h2⟩:=bs h
 obtain⟨a,ha,h1⟩:=bs h1
 obtain⟨b,hb,h1⟩:=bs h1
 obtain⟨d,hd,h1⟩:=bs h1
 obtain⟨p,hp,h1⟩:=bs h1
 obtain⟨hf,hh,h1⟩:=bs h1
 obtain⟨m0,hm,h1⟩:=bs h1
 obtain rfl:=oi h1
 exact⟨a,b,d,p,hf,m0,ha,hb,hd,hp,hh,hm,h2⟩
theorem aov (cu:List Bd) (i:Int) (hi:0<=i) (h1:i<(cu.length:Int)) (h2:i<6):∃ s,at? cu i=some s/\(cu.drop i.toNat).take (6 - i.toNat)=s::(cu.drop (i.toNat+1)).take (6 - (i.toNat+1)):=by
 have ae:i.toNat<cu.length:=by omega
 refine⟨cu[i.toNat],by unfold at?;rw[if_pos ⟨hi,h1⟩,gG ae],?_⟩
 obtain⟨z,hz⟩:∃ z,6 - i.toNat=z+1:=⟨5 - i.toNat,by omega⟩
 rw[List.drop_eq_getElem_cons ae,hz,List.take_succ_cons]
 congr 2
 omega
theorem IT (k:Nat) (l0:List BC) (gJ:List Bd) (jv:Int) (r:Ac) (h0:E6 k l0 gJ jv=some r):Ay Tryz.prog 35 [.sl 7 (List.map BC.c l0),.sl 4 (List.map Bd.c gJ),.int .i64 jv] (fun y=>y=.agg (Ac.c r)):=by
 unfold E6 at h0
 split at h0
 rotate_left
 ·cases h0
 obtain⟨r1,hJ,h0⟩:=bs h0
 obtain⟨Pf,hPf,h0⟩:=bs h0
 refine⟨⟨Tryz.f35,by rfl,by rfl,by rfl⟩,fun fm w vs bC hv=>?_⟩
 have j3:Tryz.f35.ntmps=70:=by rfl
 refine callsIn_wide.1 (callsIn_of_wp_marks (F:=FW) (n:=0) (fn:=Tryz.f35) (c:=Cj) (by rfl) (by rfl) trivial ?_)
 have hold:∀ b o v,fm b o=some v->b<w.heap.size:=fun b o v h=>World.block_lt_of_cell? w _ (bC b o v h)
 have ad9:Dy fm.fj w:=fun b o v h=>bC b o v (FM.aeH h).1
 have hv0:Av fm.fj [] [.sl 7 (List.map BC.c l0),.sl 4 (List.map Bd.c gJ),.int .i64 jv] vs:=by
  refine⟨hv.1,fun i x v p q=>?_⟩
  have h8:x.fj=true:=by
   match i,p with
   |0,p=>cases p;exact apl l0
   |1,p=>cases p;exact aiG gJ
   |2,p=>cases p;rfl
   |i+3,p=>simp at p
  exact(hv.2 i x v p q).xK (fun b o v h hn=>FM.apm h hn) (fun b=>.inr rfl) h8
 have hS:=SR.enter (HR.nothing ad9) (vs:=vs) (args:=[.sl 7 (List.map BC.c l0),.sl 4 (List.map Bd.c gJ),.int .i64 jv]) (n:=Tryz.f35.ntmps) ⟨hv0.1,fun i x v p q=>(hv0.2 i x v p q).mono (AY.refl _) (As.nil _)⟩ (by rw[j3];simp)
 have e69:Cj=.seq (bh Cj) (.seq (bh (ah Cj)) (.seq (.seq (bh (bh (ah (ah Cj)))) (.block 0 (.loop CS))) (ah (ah (ah Cj))))):=by rfl
 refine(show K Tryz.prog _ [.code Cj] .normal _ w from ?_)
 rw[e69]
 refine C3 ?_
 refine CM (t:=[.code (bh (ah Cj)),.code (bh (bh (ah (ah Cj)))),.code (.block 0 (.loop CS)),.code (ah (ah (ah Cj)))])
  (fun e a w h=>CD _ _ _ (CM (fun e a w h=>CD _ _ _ (CD _ _ _ h)) _ _ _ h)) _ _ _ ?_
 refine AK.nV (cs:=[.code (bh Cj),.code (bh (ah Cj)),.code (bh (bh (ah (ah Cj))))]) (t:=[.code (.block 0 (.loop CS)),.code (ah (ah (ah Cj)))]) (Φ:=fun _ _=>False) (todo:=[.sc AO.o0,.sc AO.o1,.sc AO.o2]) hS (aot k l0 gJ jv r1 hJ _)
  (fun R hR=>.sc (by rfl) (by rfl) (.sc (by rfl) (by rfl) (.sc (by rfl) (by rfl) (.back hR .nil)))) ?_ (fun _ _ _ _ _ _ h=>h.elim)
 rintro xH a0 w0 fm0 gv mj yU yQ
 obtain⟨ei,dV,dC,jS⟩:=mj _ _ _ _ _ _ yU
 have ah6:AM w.heap.size fm.fj ei:=yQ.de.trans jS.de
 have jZ:∀ b o m,b<w.heap.size->ei b o≠some (.int .u8 m):=by
  intro b o m hb h
  rw[ah6.fix b o hb]at h
  exact(FM.aeH h).2 m rfl
 have dE:∀ b o v,w.heap.size<=b->ei b o=some v->ei.t b≠0:=by
  intro b o v hb h
  rcases ah6.new b o v h with e|e
  ·exact absurd (hold _ _ _ (FM.aeH e).1) (by omega)
  ·exact e
 obtain⟨pv,wv,hpv,hwv,⟨o1,o2⟩,ad4⟩:=HF.cells dC
 have an8:VR ei [] (.sl 64 (List.map dB r1.1.Af)) pv:=(dC.hr.pQ (Av.one hpv) (ys:=[.sl 64 (List.map dB r1.1.Af)]) rfl).2 0 _ _ rfl rfl
 have aol:VR ei [] (.sl 65 (List.map Ao.c r1.1.Ad)) wv:=(dC.hr.pQ (Av.one hwv) (ys:=[.sl 65 (List.map Ao.c r1.1.Ad)]) rfl).2 0 _ _ rfl rfl
 have eZ:=ad4 (.raw pv) (.raw wv) rfl rfl (.raw _ o1) (.raw _ o2)
 have hF1:CX w.heap.size ei pv wv r1.1.Af r1.1.Ad:=⟨an8,aol,jZ,dE⟩
 refine Ec ?_
 refine FI (I:=fun m a w'=>∃ i P fm' ts',SR w.heap.size w Tryz.f35.ntmps (jH (.raw pv) (.raw wv) gJ jv i) a w' fm' ts'/\CX w.heap.size fm' pv wv P r1.1.Ad/\sy k P ((gJ.drop i.toNat).take (6 - i.toNat))=some Pf/\(0<=i/\i<=6)/\m=6 - i.toNat) 6
  ⟨0,_,ei,dV,eZ,hF1,hPf,⟨by decide,by decide⟩,rfl⟩ ?_
 rintro m a w2 ⟨i,P,dn,cK,eZ,hF2,dJ,⟨qu,hi6⟩,rfl⟩
 have eB:CS=.seq (bh CS) (.seq (.block 1 (.seq (bh C0) (.region (abu (ah C0)) (vO (ah C0)) true))) (ah (ah CS))):=by rfl
 rw[eB]
 refine C3 ?_
 cases hc:(decide (i<(gJ.length:Int))&&decide (i<6)) with
 |false=>
  refine AK.nV (cs:=[.code (bh CS)]) (t:=[.code (.seq (.block 1 (.seq (bh C0) (.region (abu (ah C0)) (vO (ah C0)) true))) (ah (ah CS))),.back _,.ao 0,.code (ah (ah (ah Cj)))]) (todo:=[.sc AO.q0]) eZ (aox pv wv gJ jv i hc (fun _=>False)) (fun R hR=>.sc (by rfl) (by rfl) (.back hR .nil)) (fun _ _ _ _ _ h=>h.elim) ?_
  rintro e st3 a3 w3 jf ke ⟨rfl,xg⟩ iD jT
  obtain⟨fm4,ts4,mf,wi⟩:=xg _ _ _ _ _ _ iD
  have yP:=(hF2.up jT.de).up wi.de
  refine(show K Tryz.prog _ [.code (ah (ah (ah Cj)))] .normal a3 w3 from ?_)
  have uv:(gJ.drop i.toNat).take (6 - i.toNat)=[]:=by
   simp only[Bool.and_eq_false_iff,decide_eq_false_iff_not]at hc
   by_cases h6:i=6
   ·subst h6;rfl
   ·rw[List.drop_eq_nil_of_le (by omega),List.take_nil]
  rw[uv]at dJ
  obtain rfl:=oi dJ
  obtain⟨pv',wv',an7,aok,_,anB⟩:=HF.cells mf
  cases an7
  cases aok
  have ua:=anB (.sl 64 (List.map dB P)) (.sl 65 (List.map Ao.c r1.1.Ad)) rfl rfl (yP.pg.mono (AY.refl _) (As.nil _)) (yP.wt.mono (AY.refl _) (As.nil _))
  refine AK.last ua (aoz k P r1.1.Ad gJ jv i r h0) (by rfl) (by rfl) ?_
  rintro e7 st7 a7 w7 fm7 ts7 ⟨rfl,hE⟩ ub yS
  obtain⟨u,tS,h1,h2,⟨h3,h3'⟩,h4⟩:=adI (P:=Tryz.prog) AB ub hE
  have wh:=(yP.up yS.de).up h4
  show LeavesInM FW 0 Tryz.prog Tryz.f35 a7.tmps _ a7.defers .returning w7
  rw[ub.dP.1]
  have mg:=ub.hr.dk
  let tT:FM:=⟨fun b o=>if b<w.heap.size then fm b o else tS b o,fun b=>if b<w.heap.size then fm.t b else tS.t b⟩
  have lo:∀ b o,b<w.heap.size->tT b o=fm b o:=fun b o h=>if_pos h
  have hi:∀ b o,w.heap.size<=b->tT b o=tS b o:=fun b o h=>if_neg (by omega)
  have mq:∀ b,b<w.heap.size->tT.t b=fm.t b:=fun b h=>if_pos h
  have hit:∀ b,w.heap.size<=b->tT.t b=tS.t b:=fun b h=>if_neg (by omega)
  have bg:VR tT [] (.agg (Ac.c r)) u:=by
   have hd:Ac.c r=[.sl 64 (List.map dB r.Af),.sl 65 (List.map Ao.c r.Ad)]:=by cases r;simp[Ac.c,dB]
   rw[hd]at h2 ⊢
   cases h2 with
   |agg cs vs' g1 g2 g3=>
    have g1':vs'.size=2:=g1.symm
    have e0:vs'[0]?=some (vs'[0]'(by omega)):=Bo _
    have e1:vs'[1]?=some (vs'[1]'(by omega)):=Bo _
    have hF9:CX w.heap.size tS (vs'[0]'(by omega)) (vs'[1]'(by omega)) r.Af r.Ad:=⟨g3 0 _ _ rfl e0,g3 1 _ _ rfl e1,wh.aae,wh.new⟩
    obtain⟨q1,q2⟩:=hF9.close (fm':=tT) (fun b o v hb hv=>by rw[hi b o hb];exact hv) hit
    refine .agg _ _ g1 g2 ?_
    intro j x v a b
    match j,a with
    |0,a=>cases a;rw[e0]at b;cases b;exact q1
    |1,a=>cases a;rw[e1]at b;cases b;exact q2
    |j+2,a=>simp at a
  refine⟨u,h1,u,_,tT,rfl,rfl,⟨?_,?_⟩,bg,⟨⟨?_,?_⟩,lo,mq,?_⟩,mg⟩
  ·intro b o v hv
   by_cases hb:b<w.heap.size
   ·rw[lo b o hb]at hv
    exact(World.cell?_of_block (w:=w) (a:=⟨b,o,none⟩) (mg.block b hb)).trans (bC b o v hv)
   ·rw[hi b o (by omega)]at hv
    exact h3 b o v hv
  ·intro b o v hb hv ht
   rw[hi b o hb]at hv
   rw[hit b hb]at ht
   exact h3' b o v hb hv ht
  ·intro b o v hv
   rw[lo b o (hold b o v hv)];exact hv
  ·intro b o v hv
   exact mq b (hold b o v hv)
  ·intro b o v hv
   by_cases hb:b<w.heap.size
   ·rw[lo b o hb]at hv;exact .inl hv
   ·rw[hi b o (by omega)]at hv
    rw[hit b (by omega)]
    exact .inr (wh.new b o v (by omega) hv)
 |true=>
  simp only[A1,decide_eq_true_eq]at hc
  obtain⟨mR,mT⟩:=hc
  obtain⟨sp,oY,anW⟩:=aov gJ i qu mR mT
  rw[anW]at dJ
  obtain⟨qa,qb,qd,p,hf,m0,ha,hb,hd,hp,hh,hm,dJ⟩:=aoC k P sp _ Pf dJ
  have hP:P≠[]:=by
   rintro rfl
   unfold at? at hp
   split at hp<;>simp at hp
  refine AK.nV (cs:=[.code (bh CS)]) (t:=[.code (.seq (.block 1 (.seq (bh C0) (.region (abu (ah C0)) (vO (ah C0)) true))) (ah (ah CS))),.back _,.ao 0,.code (ah (ah (ah Cj)))]) (todo:=[.sc AO.q0]) eZ (aou pv wv gJ jv i (by simpa using mR) (by simpa using mT) (fun _ _=>False)) (fun R hR=>.sc (by rfl) (by rfl) (.back hR .nil)) ?_ (fun _ _ _ _ _ _ h=>h.elim)
  rintro st3 a3 w3 jf ke xg iD jT
  obtain⟨fm4,ts4,mf,wi⟩:=xg _ _ _ _ _ _ iD
  have yP:=(hF2.up jT.de).up wi.de
  refine C3 ?_
  refine Ec ?_
  refine C3 ?_
  refine AK.nV (cs:=[.code (bh C0)]) (t:=[.code (.region (abu (ah C0)) (vO (ah C0)) true),.ao 1,.code (ah (ah CS)),.back _,.ao 0,.code (ah (ah (ah Cj)))]) (todo:=[.sc AO.x5]) mf (aoy pv wv gJ jv i sp oY (fun _ _=>False)) (fun R hR=>.sc (by rfl) (by rfl) (.back hR .nil)) ?_ (fun _ _ _ _ _ _ h=>h.elim)
  rintro st5 a5 w5 yG ts5 hw5 ua yR
  obtain⟨fm6,ts6,yV,hL6⟩:=hw5 _ _ _ _ _ _ ua
  have hF6:=(yP.up yR.de).up hL6.de
  obtain⟨c,off,cap,rfl,bX,hN,o8,hce⟩:=hF6.open hP
  have ra:=aC hp
  have rb:=aw hh
  have rd:=aw hm
  refine Iu AB aQ (B:=fun aq=>Ai Tryz.f35.ntmps aq (sx (.raw (.slice (some ⟨c,off,none⟩) P.length cap)) (.raw wv) gJ jv i (IntKind.u8.wrap sp.CL) (.pointer (some (((Addr.add ⟨c,off,none⟩ (qa.toNat*64)).add (qb.toNat*32)).add (qd.toNat*1)))))) (ops0:=AO.x6.adw) (ops:=AO.ops) (o:=AO.lst) (befs:=AO.mH) (drop:=[10,30,31,32,33,34,35,36,37,38,39,40,41,42,43,44,45,46]) 1000 (by rfl) (by decide +kernel) (aos k c off P.length cap wv gJ jv i sp qa qb qd ha hb hd ra rb rd) yV (by rfl) (by rfl) ?_
  rintro st7 a7 w7 fm7 ts7 hw7 ub yS
  obtain⟨tS,ts8,qo,hL8⟩:=hw7 _ _ _ _ _ _ ub
  have wh:=(hF6.up yS.de).up hL8.de
  obtain⟨c',off',vI,heq,yZ,nA,uB,anA⟩:=wh.open hP
  cases heq
  obtain⟨hF9,abR⟩:=wh.uX rfl yZ nA uB anA (IntKind.u8.wrap sp.CL) hp hh hm
  obtain⟨cells,et,bz⟩:=qo.hr.ej c _ _ nA abR (by omega)
  obtain⟨o3,e3,g3,d3⟩:∃ o,(vO (ah C0))[AO.ops.length]?=some o/\o.guard=none/\o.op=.store 5 (.tmp 46) (.tmp 43)/\o.dst=none:=⟨_,rfl,rfl,rfl,rfl⟩
  refine Fp e3 g3 ?_
  obtain⟨v46,h46,r46⟩:=qo.tm 46 _ rfl
  obtain⟨v43,h43,r43⟩:=qo.tm 43 _ rfl
  obtain rfl:=r43.u8
  have e46:v46=.pointer (some ⟨c,off+(qa.toNat*64+(qb.toNat*32+qd.toNat)),none⟩):=by
   cases r46
   rw[Addr.add_lit,Addr.add_lit,Addr.add_lit]
   congr 3
   omega
  subst e46
  have w46:a7.eval (.tmp 46)=.pointer (some ⟨c,off+(qa.toNat*64+(qb.toNat*32+qd.toNat)),none⟩):=by simp[Act.eval,Array.getD_eq_getD_getElem?,h46]
  have w43:a7.eval (.tmp 43)=.int .u8 (IntKind.u8.wrap sp.CL):=by simp[Act.eval,Array.getD_eq_getD_getElem?,h43]
  have y7:=qo.hr.bP _ _ _ abR
  have hj:off+(qa.toNat*64+(qb.toNat*32+qd.toNat))<cells.size:=by
   simp only[World.cell?,bz]at y7
   by_cases hj:off+(qa.toNat*64+(qb.toNat*32+qd.toNat))<cells.size
   ·exact hj
   ·simp[Array.getElem?_eq_none (by omega:cells.size<=off+(qa.toNat*64+(qb.toNat*32+qd.toNat)))]at y7
  obtain⟨inf,bd,ax⟩:∃ inf,Tryz.prog.info? 5=some inf/\inf.size=1:=⟨_,rfl,rfl⟩
  have zK:=ae6 (P:=Tryz.prog) (w:=w7) (t:=5) (v:=.int .u8 (IntKind.u8.wrap sp.CL)) bd (by rw[ax];rfl) bz (show off+(qa.toNat*64+(qb.toNat*32+qd.toNat))+1<=cells.size from hj) (by intro u hu;simp[Value.cells]at hu;subst hu;rfl)
  have bm:(execOp a7.eval o3).run Tryz.prog w7=.ok .skip (w7.setRow c (cells.toList.take (off+(qa.toNat*64+(qb.toNat*32+qd.toNat)))++([Value.int .u8 (IntKind.u8.wrap sp.CL)]++cells.toList.drop (off+(qa.toNat*64+(qb.toNat*32+qd.toNat))+1))).toArray):=by
   simp only[execOp,d3.1,w46,w43,Sem.run_bind,zK]
   rfl
  refine aeO (fun c h=>by rw[d3.1]at h;cases h) bm ?_
  rw[d3.2]
  have hr9:=qo.hr.xK (y:=.int .u8 (IntKind.u8.wrap sp.CL)) nA abR bz (aoq _ _)
  have hS9:SR w.heap.size w Tryz.f35.ntmps (sx (.raw (.slice (some ⟨c,off,none⟩) P.length cap)) (.raw wv) gJ jv i (IntKind.u8.wrap sp.CL) (.pointer (some (((Addr.add ⟨c,off,none⟩ (qa.toNat*64)).add (qb.toNat*32)).add (qd.toNat*1))))) (a7.put none undef)
    (w7.setRow c (cells.toList.take (off+(qa.toNat*64+(qb.toNat*32+qd.toNat)))++([Value.int .u8 (IntKind.u8.wrap sp.CL)]++cells.toList.drop (off+(qa.toNat*64+(qb.toNat*32+qd.toNat))+1))).toArray)
    (tS.lN c (off+(qa.toNat*64+(qb.toNat*32+qd.toNat))) (.int .u8 (IntKind.u8.wrap sp.CL))) ts8:=by
   refine⟨hr9,?_,qo.nx,qo.size,qo.dP⟩
   intro t x hx
   obtain⟨v,h1,h2⟩:=qo.tm t x hx
   exact⟨v,h1,h2.xK (FM.ajF abR) (fun b=>.inl rfl) (aor _ _ _ _ _ _ _ t x hx)⟩
  refine(show K Tryz.prog _ [.ao 1,.code (ah (ah CS)),.back _,.ao 0,.code (ah (ah (ah Cj)))] .normal _ _ from ?_)
  refine AK.nV (cs:=[.ao 1,.code (ah (ah CS))]) (t:=[.back _,.ao 0,.code (ah (ah (ah Cj)))]) (todo:=[.ao 1,.sc AO.r4]) hS9 (aow _ wv gJ jv i _ _ (fun _ _=>False)) (fun R hR=>.ao (.sc (by rfl) (by rfl) (.back hR .nil))) ?_ (fun _ _ _ _ _ _ h=>h.elim)
  rintro asu a10 w10 arX asv aoj anr ano
  obtain⟨ang,aq1,ahH,anp⟩:=aoj _ _ _ _ _ _ anr
  have anm:=(hF9.up ano.de).up anp.de
  refine(show ∃ m',m'<6 - i.toNat/\_ from ?_)
  have ew:ab (i+1)=i+1:=aoA qu mT
  have en:(i+1).toNat=i.toNat+1:=by omega
  rw[ew]at ahH
  exact⟨6 - (i+1).toNat,by omega,i+1,_,ang,aq1,ahH,anm,by rw[en];exact dJ,⟨by omega,by omega⟩,rfl⟩
def F6.c:SC:=
 SQ [RG [wE 1 25 0 [0],wA 2 36],RG [wF 4 25 1 0,wD 5 22 4 [4],wF 6 25 1 1,wD 7 23 6 [6],wF 8 25 1 2,wD 9 3 8 [8],wC 10 35 #[.tmp 5,.tmp 7,.tmp 9] #[22,23,3] 36 [5,7,9],wA 3 36,wS 36 3 10 [10]],SQ [RG [wF 11 25 1 3 [1],wD 12 4 11 [11]],CN 12 (RG [oQ 13 (.buildSlice 33 0 #[]) 33,wF 14 36 3 0,wD 15 33 14 [14],oQ 16 (.slice 33 (.tmp 15) (some (.const (.int .i64 1))) none none) 33 [15],
 wP 17 13 16 33 33 33 [13,16],wF 18 36 3 0,wS 33 18 17 [17,18]]) .skip],RG [wD 19 36 3 [3],wS 36 2 19 [19]],.ret]
def EX (k:Nat) (x0:Ce):Option (Ac):=
 (E6 k x0.Dp x0.Em x0.Cut).bind fun x1=>
 bif x0.Fx then
  (cg x1.Af 1 x1.Af.length).bind fun l3=>
  (fo l3.length 64).bind fun _=>
  some (⟨l3,x1.Ad⟩:Ac)
 else
  some x1
theorem IF (k:Nat) (x0:Ce) (r:Ac) (h0:EX k x0=some r):Ay Tryz.prog 6 [.agg (Ce.c x0)] (fun y=>y=.agg (Ac.c r)):=by
 refine PB Tryz.f6 F6.c [.cell 2 36] ?_
 simp only[EX]at h0
 try simp only[F6.c,go_sem]
 refine au h0 (IT k _ _ _) ?_ (fun x1 h0=>?_)<;>try simp only[go_sem]
 refine AR h0 ?_ ?_<;>intro c2 h0<;>have F:=c2<;>try simp only[F,go_sem]
 obtain⟨l3,yl3,h0⟩:=bs h0
 have ag3:=xJ (Aa.c (n:=2) (Aa.c (n:=32) af)) yl3
 try simp only[go_sem]at ag3
 have F:=an ag3 F
 try simp only[sU yl3,F,go_sem]
 obtain⟨u4,yu4,h0⟩:=bs h0
 try simp only[lH yu4,F,go_sem]
 obtain rfl:=oi h0
 refine Ag rfl ?_
 try simp only[F,go_sem]
 obtain rfl:=oi h0
 refine Ag rfl ?_
 try simp only[F,go_sem]
def F7.c:SC:=
 SQ [RG [wE 2 25 0 [0],wE 3 31 1 [1],wA 4 42],RG [wF 8 25 2 0 [2],wD 9 22 8 [8],wU 10 36 9 22 48 [9],wV 7 10 48 [10],wX 11 7 0 36,wX 12 7 1 42 [7],wA 5 36,wA 6 42,wS 36 5 11 [5,11],wS 42 6 12 [12]],SQ [RG [wF 13 31 3 0,wD 14 3 13 [13],wC 15 16 #[.tmp 14,.const (.int .i64 8)] #[3,3] 3 [14]],.block 0 (SQ [RG [wK 17 .eql 3 15 0 3 4,wG 16 17 4 [17]],CN 16 (RG [wF 18 42 6 2,wD 19 3 18 [18],
 wF 20 31 3 1 [3],wD 21 3 20 [20],wO 22 .add 3 19 21 3 3 [19,21],wF 23 42 6 2,wS 3 23 22 [22,23]]) (SQ [RG [wK 25 .eql 3 15 1 3 4,wG 24 25 4 [25]],CN 24 (RG [wF 26 42 6 3,wD 27 3 26 [26],wF 28 31 3 1 [3],wD 29 3 28 [28],wO 30 .add 3 27 29 3 3 [27,29],wF 31 42 6 3,wS 3 31 30 [30,31]]) (SQ [RG [wK 33 .eql 3 15 2 3 4,wG 32 33 4 [33]],CN 32 (RG [wF 34 42 6 1,wD 35 3 34 [34],wF 36 31 3 1 [3],
 wD 37 3 36 [36],wO 38 .add 3 35 37 3 3 [35,37],wF 39 42 6 1,wS 3 39 38 [38,39]]) (SQ [RG [wK 41 .eql 3 15 3 3 4 [15],wG 40 41 4 [41]],CN 40 (SQ [RG [wF 42 42 6 0,wF 43 40 42 0 [42],wD 44 38 43 [43],wL 45 44 38 3 [44],wK 46 .gtr 3 45 0 3 4 [45]],CN 46 (RG [oQ 47 (.buildSlice 38 0 #[]) 38,wF 48 42 6 0,wF 49 40 48 0 [48],wD 50 38 49 [49],
 oQ 51 (.slice 38 (.tmp 50) (some (.const (.int .i64 1))) none none) 38 [50],wP 52 47 51 38 38 38 [47,51],wF 53 42 6 0,wF 54 40 53 0 [53],wS 38 54 52 [52,54]]) .skip]) .skip])])])])],RG [wD 55 42 6 [6],wS 42 4 55 [55]],.ret]
def EY (k:Nat) (x0:Ce) (c1:Cw):Option (Aw):=
 (BT k x0.Dp).bind fun x1=>
 (B8 k c1.DM 8).bind fun x2=>
 bif decide (x2=(0:Int)) then
  some (⟨x1.2.Ah,x1.2.Bj,ab (x1.2.Ax+c1.By),x1.2.Used⟩:Aw)
 else
  bif decide (x2=(1:Int)) then
   some (⟨x1.2.Ah,x1.2.Bj,x1.2.Ax,ab (x1.2.Used+c1.By)⟩:Aw)
  else
   bif decide (x2=(2:Int)) then
    some (⟨x1.2.Ah,ab (x1.2.Bj+c1.By),x1.2.Ax,x1.2.Used⟩:Aw)
   else
    bif decide (x2=(3:Int)) then
     bif decide ((0:Int)<(x1.2.Ah.Aj.length:Int)) then
      (cg x1.2.Ah.Aj 1 x1.2.Ah.Aj.length).bind fun l8=>
      (fo l8.length 72).bind fun _=>
      some (⟨(⟨l8⟩:Ah),x1.2.Bj,x1.2.Ax,x1.2.Used⟩:Aw)
     else
      some x1.2
    else
     some x1.2
theorem IG (k:Nat) (x0:Ce) (c1:Cw) (r:Aw) (h0:EY k x0 c1=some r):Ay Tryz.prog 7 [.agg (Ce.c x0),.agg (Cw.c c1)] (fun y=>y=.agg (Aw.c r)):=by
 refine PB Tryz.f7 F7.c [.cell 4 42] ?_
 simp only[EY]at h0
 try simp only[F7.c,go_sem]
 refine au h0 (HL k _) ?_ (fun x1 h0=>?_)<;>try simp only[go_sem]
 refine au h0 (CU k _ _) ?_ (fun x2 h0=>?_)<;>try simp only[go_sem]
 refine AR h0 ?_ ?_<;>intro c3 h0<;>have F:=c3<;>try simp only[F,go_sem]
 obtain rfl:=oi h0
 refine Ag rfl ?_
 try simp only[F,go_sem]
 refine AF F h0 ?_ ?_<;>intro F h0<;>try simp only[F,go_sem]
 obtain rfl:=oi h0
 refine Ag rfl ?_
 try simp only[F,go_sem]
 refine AF F h0 ?_ ?_<;>intro F h0<;>try simp only[F,go_sem]
 obtain rfl:=oi h0
 refine Ag rfl ?_
 try simp only[F,go_sem]
 refine AF F h0 ?_ ?_<;>intro F h0<;>try simp only[F,go_sem]
 refine AF F h0 ?_ ?_<;>intro F h0<;>try simp only[F,go_sem]
 obtain⟨l8,kW,h0⟩:=bs h0
 have nu:=xJ Ab.c kW
 try simp only[go_sem]at nu
 have F:=an nu F
 try simp only[sU kW,F,go_sem]
 obtain⟨u9,yu9,h0⟩:=bs h0
 try simp only[lH yu9,F,go_sem]
 obtain rfl:=oi h0
 refine Ag rfl ?_
 try simp only[F,go_sem]
 obtain rfl:=oi h0
 refine Ag rfl ?_
 try simp only[F,go_sem]
 obtain rfl:=oi h0
 refine Ag rfl ?_
 try simp only[F,go_sem]
def Fm.c:SC:=
 .aL [wD 2 44 0,wD 3 99 1,oQ 4 (.nilCheck (.tmp 3)) 0,wF 5 102 4 0,wD 6 36 5,wU 7 40 6 36 99,oQ 8 (.nilCheck (.tmp 7)) 0,wF 9 102 8 0,wD 10 36 9,oQ 11 (.buildSlice 44 1 #[(0,.tmp 10)]) 44,wP 12 2 11 44 44 44,wS 44 0 12] [[],[],[1],[1,2],[1,2,3],[1,2,3,4],[1,2,3,4,5],[1,2,3,4,5,6],[1,2,3,4,5,6,7],[1,2,3,4,5,6,7,8],[0,1,2,3,4,5,6,7,8,9],[0,1,2,3,4,5,6,7,8,9,10]] [0,1,2,3,4,5,6,7,8,9,10,11,12]
theorem Fm.rs:Tryz.f41.results.toList=[]:=rfl
def pS (k:Nat) (c0:(List Ac)) (c1:az):Option ((List Ac)×az):=
 (mK k c1.Ac).bind fun x2=>
 (fJ 48 c0 x2.Ac).bind fun l3=>
 some (l3,c1)
theorem ya (k:Nat) (c0:(List Ac)) (c1:az) (r:(List Ac)×az) (h0:pS k c0 c1=some r):Dr Tryz.prog 41 [.ptr 1 0 0,.ptr 1 2 0] [(0,.box ([.loc 0 1 2 0 c0.length c0.length])),(1,.arr 36 2 (List.map Ac.c c0)),(2,.box ([.ptr 0 3 0])),(3,.box ([.loc 0 4 64 0 c1.Ac.Af.length c1.Ac.Af.length,.loc 0 5 65 0 c1.Ac.Ad.length c1.Ac.Ad.length])),(4,.arr 113 64 (List.map (Aa.c (n:=2) (Aa.c (n:=32) af)) c1.Ac.Af)),(5,.arr 116 65 (List.map Ao.c c1.Ac.Ad))] (fun y fr X'=>y=.ar []/\fr=[]/\X'=[(0,.box ([.loc 0 1 2 0 r.1.length r.1.length])),(1,.arr 36 2 (List.map Ac.c r.1)),(2,.box ([.ptr 0 3 0])),(3,.box ([.loc 0 4 64 0 r.2.Ac.Af.length r.2.Ac.Af.length,.loc 0 5 65 0 r.2.Ac.Ad.length r.2.Ac.Ad.length])),(4,.arr 113 64 (List.map (Aa.c (n:=2) (Aa.c (n:=32) af)) r.2.Ac.Af)),(5,.arr 116 65 (List.map Ao.c r.2.Ac.Ad))]):=by
 refine Dr.gr AB (fn:=Tryz.f41) (sc:=Fm.c) (by rfl) (by rfl) (by decide +kernel) (by rfl) (by decide +kernel) (Nat.le_of_ble_eq_true rfl) (fun f1 H=>?_)
 refine rS ?_
 simp only[Bg,Bt]
 simp only[pS]at h0
 try simp only[Fm.c,go_sem]
 refine AL AB aQ 1000 ?_
 try simp only[go_sem]
 obtain⟨x2,ec,h0⟩:=bs h0
 refine Ij 1000 [(1,4),(1,5)] (tD k _ _ ec) ?_ rfl ⟨(by simp[AG.lo,AV.lo]),Lf.map (Lf.vec (Lf.vec aes)) _,Lf.map ain _,trivial⟩ ?_
 try simp only[cQ,only,go_sem]
 try simp only[go_sem]
 obtain⟨l3,yl3,h0⟩:=bs h0
 have akv:=pu Ac.c yl3
 try simp only[go_sem]at akv
 have F:=akv
 try simp only[F,go_sem]
 refine aK ?_
 try simp only[F,go_sem]
 obtain rfl:=oi h0
 refine FB (by simp) ?_ ?_
 try simp only[Fm.rs,b9,Ae,F,go_sem]
 try simp only[Bg,Bt,F,go_sem]
def F8.s0:SC:=
 SQ [RG [wO 41 .lss 3 40 39 3 0],CN 41 .skip (.exit 0),.block 1 (SQ [RG [wV 42 40 3,wI 43 38 38 40,wD 44 29 43 [43],wA 11 29,wG 10 42 3 [42],wS 29 11 44 [44]],RG [wV 45 9 97 [9],wD 46 29 11 [11],wV 47 10 3 [10],wF 48 42 8 2,wD 49 3 48 [48],wC 50 39 #[.tmp 46,.tmp 47,.tmp 49] #[29,3,3] 97 [46,47,49],wP 51 45 50 97 97 97 [45,50],wG 9 51 97 [51]]]),RG [wK 52 .add 3 40 1 3 3 [40],wV 40 52 3 [52]]]
def F8.c:SC:=
 SQ [RG [wE 2 36 0 [0],wE 3 42 1 [1],oQ 4 (.assign (.const (.slice none 0 0))) 44 [4],wA 5 42,wN 6 0 45 [6]],SQ [RG [wD 15 36 2,wD 16 42 3,wW 17 37 15 16 36 42 45 [15,16],wG 7 17 45 [17]],RG [wV 18 7 45,wK 19 .neq 45 18 0 45 4 [18]],CN 19 (SQ [RG [oQ 20 (.build 42 #[]) 42,wV 21 7 45 [7],oQ 4 (.assign (.const (.slice none 0 0))) 44,wS 42 5 20 [20],wG 6 21 45 [21]],.ret]) .skip],SQ [RG [wF 22 42 3 2,
 wD 23 3 22 [22],wK 24 .eql 3 23 1000000 3 4 [23]],CN 24 (SQ [RG [oQ 25 (.build 42 #[]) 42,oQ 4 (.assign (.const (.slice none 0 0))) 44,wS 42 5 25 [25],wN 6 2 45],.ret]) .skip],RG [wD 26 42 3,wU 27 38 26 42 42 [26],wA 8 42,wS 42 8 27 [27]],.aL [wF 28 42 3 1,wD 29 3 28,oQ 30 (.binOp .sub 3 (.const (.int .i64 1)) (.tmp 29) 3) 3,wF 31 42 3 2,wD 32 3 31,wK 33 .add 3 32 1 3 3,wF 34 42 8 1,wS 3 34 30,
 wF 35 42 8 2,wS 3 35 33] [[],[0],[0,1],[],[3],[3,4],[0,1,2],[0,1,2,6],[0,1,2,3,4,5,6,7],[0,1,2,3,4,5,6,7,8]] [28,29,30,31,32,33,34,35],RG [oQ 9 (.assign (.const (.slice none 0 0))) 97],SQ [RG [wF 36 42 3 0,wF 37 40 36 0 [36],wD 38 38 37 [37],wL 39 38 38 3,oQ 40 (.move (.const (.int .i64 0))) 3],.block 0 (.loop F8.s0)],RG [wV 53 9 97,wL 54 53 97 3 [53],
 oQ 55 (.binOp .add 3 (.const (.int .i64 1)) (.tmp 54) 3) 3 [54],wF 56 42 8 3,wS 3 56 55 [55,56]],RG [wD 57 36 2 [2],wU 58 40 57 36 99 [57],wA 12 99,wS 99 12 58 [58]],RG [wA 13 44],RG [oQ 59 (.makeFunc (.func 41) #[] #[.tmp 13,.tmp 12]) 1,wG 14 59 1 [59]],RG [wD 60 99 12,wU 61 42 60 99 99 [60,61]],RG [wV 62 14 1,oQ 63 (.call ⟨.value (.tmp 62),#[],#[]⟩) 0 [62,63]],RG [wD 64 99 12,wF 65 42 8 1,
 wD 66 3 65 [65],wV 67 9 97 [9],wC 68 43 #[.tmp 64,.tmp 66,.const (.int .i64 1),.tmp 67] #[99,3,3,97] 0 [64,66,67,68]],RG [wV 69 14 1,oQ 70 (.call ⟨.value (.tmp 69),#[],#[]⟩) 0 [69,70]],RG [wD 71 99 12,wU 72 42 71 99 99 [71,72]],RG [wV 73 14 1,oQ 74 (.call ⟨.value (.tmp 73),#[],#[]⟩) 0 [73,74]],.aL [wD 75 99 12,wF 76 42 8 1,wD 77 3 76,wF 78 42 8 2,wD 79 3 78,wF 80 42 3 0,wF 81 40 80 0,
 wD 82 38 81,wL 83 82 38 3,wW 84 44 79 83 3 3 105,oQ 85 (.buildSlice 97 1 #[(0,.tmp 84)]) 97,wC 86 43 #[.tmp 75,.tmp 77,.const (.int .i64 0),.tmp 85] #[99,3,3,97] 0] [[],[],[1],[],[3],[],[5],[5,6],[5,6,7],[3,4,5,6,7,8],[3,4,5,6,7,8,9],[0,1,2,3,4,5,6,7,8,9,10]] [3,75,76,77,78,79,80,81,82,83,84,85,86],RG [wV 87 14 1,oQ 88 (.call ⟨.value (.tmp 87),#[],#[]⟩) 0 [87,88]],RG [wD 89 99 12 [12],
 wU 90 42 89 99 99 [89,90]],RG [wV 91 14 1 [14],oQ 92 (.call ⟨.value (.tmp 91),#[],#[]⟩) 0 [91,92]],.aL [wD 93 44 13,wD 94 42 8,wG 4 93 44,wS 42 5 94,wN 6 0 45] [[],[],[0],[1,0,2],[1,0,2,3]] [8,13,93,94],.ret]
def fO.b0 (k:Nat) (l1:Aw):(Int×(List (Aa 32 Int)))->Option (AT (Int×(List (Aa 32 Int))) ((List (Aa 32 Int))) ((List Ac)×Aw×Int)):=fun s=>match s with
 |(i5,l6)=>
   bif decide (i5<(l1.Ah.Aj.length:Int)) then
    (at? l1.Ah.Aj i5).bind fun x9=>
    (ga k x9 i5 (ab (l1.Ax+1))).bind fun cm=>
    (dN 32 l6 cm).bind fun fI=>
    some (.next (ab (i5+1),fI))
   else
    some (.brk l6)
def fO.h0 (d0:Ac) (l1:Aw) (x4:Aw):(Int×(List (Aa 32 Int)))->St:=fun s=>match s with
 |(i5,l6)=>⟨[(2,.ptr 0 0 0),(3,.ptr 0 1 0),(5,.ptr 0 2 0),(8,.ptr 0 4 0),(9,.loc 0 5 32 0 l6.length l6.length),(38,.sl 8 (List.map Ab.c l1.Ah.Aj)),(39,.int .i64 (l1.Ah.Aj.length:Int)),(40,.int .i64 i5)],[(0,.box ([.sl 64 (List.map (Aa.c (n:=2) (Aa.c (n:=32) af)) d0.Af),.sl 65 (List.map Ao.c d0.Ad)])),(1,.box ([.sl 8 (List.map Ab.c l1.Ah.Aj),.int .i64 l1.Bj,.int .i64 l1.Ax,.int .i64 l1.Used])),(2,.box ([.loc 0 3 8 0 0 0,.int .i64 0,.int .i64 0,.int .i64 0])),(3,.arr 29 8 (List.map Ab.c [])),(4,.box ([.sl 8 (List.map Ab.c x4.Ah.Aj),.int .i64 (ab (1 - l1.Bj)),.int .i64 (ab (l1.Ax+1)),.int .i64 x4.Used])),(5,.arr 105 32 (List.map (Aa.c (n:=32) af) l6))],[],6,Tryz.f8.ntmps⟩
def fO.x0 (d0:Ac) (l1:Aw) (x4:Aw):(List (Aa 32 Int))->St:=fun l7=>⟨[(2,.ptr 0 0 0),(3,.ptr 0 1 0),(5,.ptr 0 2 0),(8,.ptr 0 4 0),(9,.loc 0 5 32 0 l7.length l7.length)],[(0,.box ([.sl 64 (List.map (Aa.c (n:=2) (Aa.c (n:=32) af)) d0.Af),.sl 65 (List.map Ao.c d0.Ad)])),(1,.box ([.sl 8 (List.map Ab.c l1.Ah.Aj),.int .i64 l1.Bj,.int .i64 l1.Ax,.int .i64 l1.Used])),(2,.box ([.loc 0 3 8 0 0 0,.int .i64 0,.int .i64 0,.int .i64 0])),(3,.arr 29 8 (List.map Ab.c [])),(4,.box ([.sl 8 (List.map Ab.c x4.Ah.Aj),.int .i64 (ab (1 - l1.Bj)),.int .i64 (ab (l1.Ax+1)),.int .i64 x4.Used])),(5,.arr 105 32 (List.map (Aa.c (n:=32) af) l7))],[],6,Tryz.f8.ntmps⟩
def fO (k:Nat) (d0:Ac) (l1:Aw):Option ((List Ac)×Aw×Int):=
 (mJ k d0 l1).bind fun x1=>
 bif (!decide (x1=(0:Int))) then
  some ([],(⟨(⟨[]⟩:Ah),0,0,0⟩:Aw),x1)
 else
  bif decide (l1.Ax=(1000000:Int)) then
   some ([],(⟨(⟨[]⟩:Ah),0,0,0⟩:Aw),2)
  else
   (ry k l1).bind fun x4=>
   (aj (fO.b0 k l1) k (0,[])).bind fun r12=>match r12 with
   |.next _=>none
   |.ret v_=>some v_
   |.brk l7=>
    (mK k d0).bind fun bJ=>
    (fA k bJ).bind fun dt=>
    (pS k [] (⟨(⟨dt.Ac.Af,[]⟩:Ac)⟩:az)).bind fun kU=>
    (bK k kU.2 (ab (1 - l1.Bj)) 1 l7).bind fun eW=>
    (pS k kU.1 eW).bind fun n6=>
    (fA k n6.2).bind fun x24=>
    (pS k n6.1 (⟨(⟨x24.Ac.Af,[]⟩:Ac)⟩:az)).bind fun xQ=>
    (tE k (ab (l1.Ax+1)) (l1.Ah.Aj.length:Int)).bind fun xR=>
    (bK k xQ.2 (ab (1 - l1.Bj)) 0 [xR]).bind fun vg=>
    (pS k xQ.1 vg).bind fun vj=>
    (fA k vj.2).bind fun x33=>
    (pS k vj.1 (⟨(⟨x33.Ac.Af,[]⟩:Ac)⟩:az)).bind fun vk=>
    some (vk.1,(⟨x4.Ah,ab (1 - l1.Bj),ab (l1.Ax+1),ab (1+((l7.length:Nat):Int))⟩:Aw),0)
theorem alN (k:Nat) (d0:Ac) (l1:Aw) (r:(List Ac)×Aw×Int) (h0:fO k d0 l1=some r):Ay Tryz.prog 8 [.agg (Ac.c d0),.agg (Aw.c l1)] (fun y=>y=.ar [.sl 2 (List.map Ac.c r.1),.agg (Aw.c r.2.1),.int .i64 r.2.2]):=by
 refine PB Tryz.f8 F8.c [.tmp 4,.cell 5 42,.tmp 6] ?_
 simp only[fO]at h0
 try simp only[F8.c,go_sem]
 refine au h0 (af2 k _ _) ?_ (fun x1 h0=>?_)<;>try simp only[go_sem]
 refine Cr h0 ?_ ?_<;>intro c2 h0<;>have F:=c2<;>try simp only[F,go_sem]
 obtain rfl:=oi h0
 refine Ag rfl ?_
 try simp only[F,go_sem]
 refine AF F h0 ?_ ?_<;>intro F h0<;>try simp only[F,go_sem]
 obtain rfl:=oi h0
 refine Ag rfl ?_
 try simp only[F,go_sem]
 refine au h0 (af8 k _) ?_ (fun x4 h0=>?_)<;>try simp only[F,go_sem]
 refine AL AB aQ 1000 ?_
 try simp only[F,go_sem]
 refine aK ?_
 try simp only[F,go_sem]
 obtain⟨r12,afx,h0⟩:=bs h0
 refine Bf afx (fO.h0 d0 l1 x4) (fO.x0 d0 l1 x4) ?_ ?_ ?_
 refine Ai.go [2,3,5,8,9,38,39,40] [0,16,48,49,256,448] rfl ?_
 try simp only[fO.h0,F,go_sem]
 rintro⟨i5,l6⟩ cP Bl Bm h1 aH aF bL
 refine rS ?_
 simp only[fO.b0]at h1
 try simp only[F8.s0,fO.h0,F,go_sem]
 refine AF F h1 ?_ ?_<;>intro F h1<;>try simp only[F,go_sem]
 obtain⟨x9,fb,h1⟩:=bs h1
 have F:=an (aC fb) (an (aE Ab.c fb) F)
 try simp only[F,go_sem]
 refine au h1 (abk k _ _ _) ?_ (fun cm h1=>?_)<;>try simp only[F,go_sem]
 obtain⟨fI,mC,h1⟩:=bs h1
 have tn:=gM (Aa.c (n:=32) af) mC
 try simp only[F,go_sem]at tn
 have F:=an tn F
 try simp only[F,go_sem]
 refine AD (aH _ _ (oi h1).symm (Ai.go [2,3,5,8,9,38,39,40] [0,1,2,3,4,5] rfl ?_))
 try simp only[fO.h0,F,go_sem]
 refine AD (aF _ _ (oi h1).symm (Ai.go [2,3,5,8,9] [0,1,2,3,4,5] rfl ?_))
 try simp only[fO.x0,F,go_sem]
 rintro l7 aI
 subst aI
 simp only at h0
 refine rS ?_
 try simp only[fO.x0,F,go_sem]
 obtain⟨bJ,pI,h0⟩:=bs h0
 refine CJ AB 1000 [] [] (tD k _ _ pI) ?_ rfl ?_
 try simp only[fS,F,go_sem]
 try simp only[F,go_sem]
 obtain⟨dt,ni,h0⟩:=bs h0
 refine CR [3,5,8,9,12,13,14] [102,103,104,1,2,3,4,5,118,150,151] 11 rfl ?_
 try simp only[F,go_sem]
 refine CQ (vD k _ _ ni) ?_ ?_
 try simp only[F,go_sem]
 try simp only[List.take_succ_cons,List.drop_succ_cons,AA,Az,F,go_sem]
 refine rS ?_
 try simp only[F,go_sem]
 obtain⟨kU,arQ,h0⟩:=bs h0
 refine FC 0 1 116 65 rfl rfl ?_
 try simp only[F,go_sem]
 refine CR [3,5,8,9,12,13,14] [9,10,8,0,1,43,3,4,5,6,7] 11 rfl ?_
 try simp only[F,go_sem]
 refine CQ (ya k _ _ _ arQ) ?_ ?_
 try simp only[F,go_sem]
 try simp only[List.take_succ_cons,List.drop_succ_cons,AA,Az,F,go_sem]
 refine rS ?_
 try simp only[F,go_sem]
 obtain⟨eW,ca,h0⟩:=bs h0
 refine GL 10 rfl (fun _ h=>by cases h) ?_
 try simp only[F,go_sem]
 refine CR [3,5,8,12,13,14] [3,4,5,6,7,8,9,2,0,1] 10 rfl ?_
 try simp only[F,go_sem]
 refine CQ (ac8 k _ _ _ _ _ ca) ?_ ?_
 try simp only[F,go_sem]
 try simp only[List.take_succ_cons,List.drop_succ_cons,AA,Az,F,go_sem]
 refine rS ?_
 try simp only[F,go_sem]
 obtain⟨n6,xS,h0⟩:=bs h0
 refine CR [3,5,8,12,13,14] [8,9,7,0,1,2,3,4,5,6] 10 rfl ?_
 try simp only[F,go_sem]
 refine CQ (ya k _ _ _ xS) ?_ ?_
 try simp only[F,go_sem]
 try simp only[List.take_succ_cons,List.drop_succ_cons,AA,Az,F,go_sem]
 refine rS ?_
 try simp only[F,go_sem]
 obtain⟨x24,arS,h0⟩:=bs h0
 refine CR [3,5,8,12,13,14] [3,4,5,6,7,8,9,2,0,1] 10 rfl ?_
 try simp only[F,go_sem]
 refine CQ (vD k _ _ arS) ?_ ?_
 try simp only[F,go_sem]
 try simp only[List.take_succ_cons,List.drop_succ_cons,AA,Az,F,go_sem]
 refine rS ?_
 try simp only[F,go_sem]
 obtain⟨xQ,kY,h0⟩:=bs h0
 refine FC 0 1 116 65 rfl rfl ?_
 try simp only[F,go_sem]
 refine CR [3,5,8,12,13,14] [8,9,7,0,1,42,3,4,5,6] 10 rfl ?_
 try simp only[F,go_sem]
 refine CQ (ya k _ _ _ kY) ?_ ?_
 try simp only[F,go_sem]
 try simp only[List.take_succ_cons,List.drop_succ_cons,AA,Az,F,go_sem]
 refine rS ?_
 try simp only[F,go_sem]
 refine H9 AB aQ (ops:=[⟨some 75,.load 99 (.tmp 12),99,none,[]⟩,⟨some 76,.fieldAddr 42 (.tmp 8) 1,0,none,[]⟩,⟨some 77,.load 3 (.tmp 76),3,none,[]⟩,⟨some 78,.fieldAddr 42 (.tmp 8) 2,0,none,[]⟩,⟨some 79,.load 3 (.tmp 78),3,none,[]⟩,⟨some 80,.fieldAddr 42 (.tmp 3) 0,0,none,[]⟩,⟨some 81,.fieldAddr 40 (.tmp 80) 0,0,none,[]⟩,⟨some 82,.load 38 (.tmp 81),38,none,[]⟩,⟨some 83,.call ⟨.builtin .len,#[.tmp 82],#[38]⟩,3,none,[]⟩,⟨some 84,.call ⟨.value (.func 44),#[.tmp 79,.tmp 83],#[3,3]⟩,105,none,[]⟩,⟨some 85,.buildSlice 97 1 #[(0,.tmp 84)],97,none,[]⟩]) (o:=⟨some 86,.call ⟨.value (.func 43),#[.tmp 75,.tmp 77,.const (.int .i64 0),.tmp 85],#[99,3,3,97]⟩,0,none,[]⟩) 1000 rfl (by rfl) ?_
 try simp only[F,go_sem]
 refine cz h0 (ac9 k _ _) ?_ (fun xR h0=>?_)<;>try simp only[F,go_sem]
 refine aK ?_
 try simp only[F,go_sem]
 obtain⟨vg,acQ,h0⟩:=bs h0
 refine GL 186 rfl (fun _ h=>by cases h) ?_
 try simp only[F,go_sem]
 refine CR [5,8,12,13,14] [3,4,5,7,8,9,2,0,1] 9 rfl ?_
 try simp only[F,go_sem]
 refine CQ (ac8 k _ _ _ _ _ acQ) ?_ ?_
 try simp only[F,go_sem]
 try simp only[List.take_succ_cons,List.drop_succ_cons,AA,Az,F,go_sem]
 refine rS ?_
 try simp only[F,go_sem]
 obtain⟨vj,acR,h0⟩:=bs h0
 refine CR [5,8,12,13,14] [7,8,6,0,1,2,3,4,5] 9 rfl ?_
 try simp only[F,go_sem]
 refine CQ (ya k _ _ _ acR) ?_ ?_
 try simp only[F,go_sem]
 try simp only[List.take_succ_cons,List.drop_succ_cons,AA,Az,F,go_sem]
 refine rS ?_
 try simp only[F,go_sem]
 obtain⟨x33,acS,h0⟩:=bs h0
 refine CR [5,8,13,14] [3,4,5,6,7,8,0,1,2] 9 rfl ?_
 try simp only[F,go_sem]
 refine CQ (vD k _ _ acS) ?_ ?_
 try simp only[F,go_sem]
 try simp only[List.take_succ_cons,List.drop_succ_cons,AA,Az,F,go_sem]
 refine rS ?_
 try simp only[F,go_sem]
 obtain⟨vk,acT,h0⟩:=bs h0
 refine FC 0 1 116 65 rfl rfl ?_
 try simp only[F,go_sem]
 refine CR [5,8,13] [6,7,8,0,1,41,3,4,5] 9 rfl ?_
 try simp only[F,go_sem]
 refine CQ (ya k _ _ _ acT) ?_ ?_
 try simp only[F,go_sem]
 try simp only[List.take_succ_cons,List.drop_succ_cons,AA,Az,F,go_sem]
 refine rS ?_
 try simp only[F,go_sem]
 refine AL AB aQ 1000 ?_
 try simp only[F,go_sem]
 refine aK ?_
 try simp only[F,go_sem]
 obtain rfl:=oi h0
 refine Ag rfl ?_
 try simp only[F,go_sem]
def Dc.s1:SC:=
 SQ [SQ [RG [wV 45 7 3,wF 46 36 2 1,wD 47 34 46 [46],wL 48 47 34 3 [47],wO 49 .lss 3 45 48 3 4 [45,48],wV 50 49 4 [49],gd 50 true (wV 51 5 4),wZ 52 50 51 4 [50,51]],CN 52 .skip (.exit 2)],.block 3 (.aL [wF 55 36 2 1,wD 56 34 55,wV 57 7 3,wI 58 34 56 57,wD 59 116 58,wF 60 36 3 1,wD 61 34 60,wV 62 7 3,wI 63 34 61 62,wD 64 116 63,wO 65 .eql 116 59 64 116 4,wG 5 65 4] [[],[0],[],[0,1,2],[0,1,2,3],[],
 [5],[],[5,6,7],[5,6,7,8],[0,1,2,3,4,5,6,7,8,9],[0,1,2,3,4,5,6,7,8,9,10]] [55,56,57,58,59,60,61,62,63,64,65]),RG [wV 53 7 3 [7],wK 54 .add 3 53 1 3 3 [53],wG 7 54 3 [54]]]
def Dc.s0:SC:=
 SQ [SQ [RG [wV 24 6 3,wF 25 36 2 0,wD 26 33 25 [25],wL 27 26 33 3 [26],wO 28 .lss 3 24 27 3 4 [24,27],wV 29 28 4 [28],gd 29 true (wV 30 5 4),wZ 31 29 30 4 [29,30]],CN 31 .skip (.exit 0)],.block 1 (.aL [wF 34 36 2 0,wD 35 33 34,wV 36 6 3,wI 37 33 35 36,wD 38 113 37,wF 39 36 3 0,wD 40 33 39,wV 41 6 3,wI 42 33 40 41,wD 43 113 42,wO 44 .eql 113 38 43 113 4,wG 5 44 4] [[],[0],[],[0,1,2],[0,1,2,3],[],
 [5],[],[5,6,7],[5,6,7,8],[0,1,2,3,4,5,6,7,8,9],[0,1,2,3,4,5,6,7,8,9,10]] [34,35,36,37,38,39,40,41,42,43,44]),RG [wV 32 6 3 [6],wK 33 .add 3 32 1 3 3 [32],wG 6 33 3 [33]]]
def Dc.c:SC:=
 SQ [RG [wE 2 36 0 [0],wE 3 36 1 [1],wB 4 false 4 [4]],RG [wF 8 36 2 0,wD 9 33 8 [8],wL 10 9 33 3 [9],wF 11 36 3 0,wD 12 33 11 [11],wL 13 12 33 3 [12],wO 14 .eql 3 10 13 3 4 [10,13],wV 15 14 4 [14],gd 15 true (wF 16 36 2 1),gd 15 true (wD 17 34 16 [16]),gd 15 true (wL 18 17 34 3 [17]),gd 15 true (wF 19 36 3 1),gd 15 true (wD 20 34 19 [19]),gd 15 true (wL 21 20 34 3 [20]),
 gd 15 true (wO 22 .eql 3 18 21 3 4 [18,21]),wZ 23 15 22 4 [15,22],wG 5 23 4 [23]],SQ [RG [wN 6 0 3],.block 0 (.loop Dc.s0)],SQ [RG [wN 7 0 3],.block 2 (.loop Dc.s1)],RG [wV 66 5 4 [5],wG 4 66 4 [66]],.ret]
def AX.b0 (k:Nat) (a0:Ac) (b1:Ac):(Bool×Int)->Option (AT (Bool×Int) (Bool) (Bool)):=fun s=>match s with
 |(b2,i3)=>
   bif decide (i3<(a0.Af.length:Int)) then
    bif b2 then
     (at? a0.Af i3).bind fun x7=>
     (at? b1.Af i3).bind fun x8=>
     some (.next ((Aa.eq (Aa.eq (fun(x y:Int)=>decide (x=y))) x7 x8),ab (i3+1)))
    else
     some (.brk b2)
   else
    some (.brk b2)
def AX.b1 (k:Nat) (a0:Ac) (b1:Ac):(Bool×Int)->Option (AT (Bool×Int) (Bool) (Bool)):=fun s=>match s with
 |(mG,i11)=>
   bif decide (i11<(a0.Ad.length:Int)) then
    bif mG then
     (at? a0.Ad i11).bind fun cU=>
     (at? b1.Ad i11).bind fun dt=>
     some (.next ((decide (cU.At=dt.At)&&(Aa.eq (Aa.eq (fun(x y:Int)=>decide (x=y))) cU.AH dt.AH)),ab (i11+1)))
    else
     some (.brk mG)
   else
    some (.brk mG)
def AX.afX (k:Nat) (a0:Ac):Unit->Option (AT (Unit) (Unit) (Bool)):=fun _=>
 bif decide ((0:Int)<(a0.Af.length:Int)) then
  some (.brk ())
 else
  some (.brk ())
def AX.pP (k:Nat) (a0:Ac):Unit->Option (AT (Unit) (Unit) (Bool)):=fun _=>
 bif decide ((0:Int)<(a0.Ad.length:Int)) then
  some (.brk ())
 else
  some (.brk ())
def AX.h0 (a0:Ac) (b1:Ac):(Bool×Int)->St:=fun s=>match s with
 |(b2,i3)=>⟨[(2,.ptr 0 0 0),(3,.ptr 0 1 0),(5,.bool b2),(6,.int .i64 i3)],[(0,.box ([.sl 64 (List.map (Aa.c (n:=2) (Aa.c (n:=32) af)) a0.Af),.sl 65 (List.map Ao.c a0.Ad)])),(1,.box ([.sl 64 (List.map (Aa.c (n:=2) (Aa.c (n:=32) af)) b1.Af),.sl 65 (List.map Ao.c b1.Ad)]))],[],2,Tryz.f14.ntmps⟩
def AX.x0 (a0:Ac) (b1:Ac):Bool->St:=fun b4=>⟨[(2,.ptr 0 0 0),(3,.ptr 0 1 0),(5,.bool b4)],[(0,.box ([.sl 64 (List.map (Aa.c (n:=2) (Aa.c (n:=32) af)) a0.Af),.sl 65 (List.map Ao.c a0.Ad)])),(1,.box ([.sl 64 (List.map (Aa.c (n:=2) (Aa.c (n:=32) af)) b1.Af),.sl 65 (List.map Ao.c b1.Ad)]))],[],2,Tryz.f14.ntmps⟩
def AX.h1 (a0:Ac) (b1:Ac):(Bool×Int)->St:=fun s=>match s with
 |(mG,i11)=>⟨[(2,.ptr 0 0 0),(3,.ptr 0 1 0),(5,.bool mG),(7,.int .i64 i11)],[(0,.box ([.sl 64 (List.map (Aa.c (n:=2) (Aa.c (n:=32) af)) a0.Af),.sl 65 (List.map Ao.c a0.Ad)])),(1,.box ([.sl 64 (List.map (Aa.c (n:=2) (Aa.c (n:=32) af)) b1.Af),.sl 65 (List.map Ao.c b1.Ad)]))],[],2,Tryz.f14.ntmps⟩
def AX.x1:Bool->St:=fun b12=>⟨[(5,.bool b12)],[],[],1,Tryz.f14.ntmps⟩
def AX.adX (a0:Ac) (b1:Ac):Unit->St:=fun _=>⟨[(2,.ptr 0 0 0),(3,.ptr 0 1 0),(5,.bool false),(6,.int .i64 0)],[(0,.box ([.sl 64 (List.map (Aa.c (n:=2) (Aa.c (n:=32) af)) a0.Af),.sl 65 (List.map Ao.c a0.Ad)])),(1,.box ([.sl 64 (List.map (Aa.c (n:=2) (Aa.c (n:=32) af)) b1.Af),.sl 65 (List.map Ao.c b1.Ad)]))],[],2,Tryz.f14.ntmps⟩
def AX.acM (a0:Ac) (b1:Ac):Unit->St:=fun _=>⟨[(2,.ptr 0 0 0),(3,.ptr 0 1 0),(5,.bool false)],[(0,.box ([.sl 64 (List.map (Aa.c (n:=2) (Aa.c (n:=32) af)) a0.Af),.sl 65 (List.map Ao.c a0.Ad)])),(1,.box ([.sl 64 (List.map (Aa.c (n:=2) (Aa.c (n:=32) af)) b1.Af),.sl 65 (List.map Ao.c b1.Ad)]))],[],2,Tryz.f14.ntmps⟩
def AX.ql (a0:Ac) (b1:Ac):Unit->St:=fun _=>⟨[(2,.ptr 0 0 0),(3,.ptr 0 1 0),(5,.bool false),(7,.int .i64 0)],[(0,.box ([.sl 64 (List.map (Aa.c (n:=2) (Aa.c (n:=32) af)) a0.Af),.sl 65 (List.map Ao.c a0.Ad)])),(1,.box ([.sl 64 (List.map (Aa.c (n:=2) (Aa.c (n:=32) af)) b1.Af),.sl 65 (List.map Ao.c b1.Ad)]))],[],2,Tryz.f14.ntmps⟩
def AX.tv:Unit->St:=fun _=>⟨[(5,.bool false)],[],[],1,Tryz.f14.ntmps⟩
def AX (k:Nat) (a0:Ac) (b1:Ac):Option (Bool):=
 bif decide ((a0.Af.length:Int)=(b1.Af.length:Int)) then
  (aj (AX.b0 k a0 b1) k (decide ((a0.Ad.length:Int)=(b1.Ad.length:Int)),0)).bind fun r9=>match r9 with
  |.next _=>none
  |.ret v_=>some v_
  |.brk b4=>
   (aj (AX.b1 k a0 b1) k (b4,0)).bind fun r17=>match r17 with
   |.next _=>none
   |.ret v_=>some v_
   |.brk b12=>
    some b12
 else
  (aj (AX.afX k a0) k ()).bind fun r19=>match r19 with
  |.next _=>none
  |.ret v_=>some v_
  |.brk _=>
   (aj (AX.pP k a0) k ()).bind fun sP=>match sP with
   |.next _=>none
   |.ret v_=>some v_
   |.brk _=>
    some false
theorem HO (k:Nat) (a0:Ac) (b1:Ac) (r:Bool) (h0:AX k a0 b1=some r):Ay Tryz.prog 14 [.agg (Ac.c a0),.agg (Ac.c b1)] (fun y=>y=.bool r):=by
 refine PB Tryz.f14 Dc.c [.tmp 4] ?_
 simp only[AX]at h0
 try simp only[Dc.c,go_sem]
 refine AR h0 ?_ ?_<;>intro c1 h0<;>have F:=c1<;>try simp only[F,go_sem]
 obtain⟨r9,vq,h0⟩:=bs h0
 refine Bf vq (AX.h0 a0 b1) (AX.x0 a0 b1) ?_ ?_ ?_
 refine Ai.go [2,3,5,6] [0,16] rfl ?_
 try simp only[AX.h0,F,go_sem]
 rintro⟨b2,i3⟩ cP Bl Bm h1 aH aF bL
 refine rS ?_
 simp only[AX.b0]at h1
 try simp only[Dc.s0,AX.h0,F,go_sem]
 refine AF F h1 ?_ ?_<;>intro F h1<;>try simp only[F,go_sem]
 refine AF F h1 ?_ ?_<;>intro F h1<;>try simp only[F,go_sem]
 refine AL AB aQ 1000 ?_
 try simp only[F,go_sem]
 obtain⟨x7,eG,h1⟩:=bs h1
 have F:=an (aC eG) (an (aE (Aa.c (n:=2) (Aa.c (n:=32) af)) eG) F)
 try simp only[F,go_sem]
 obtain⟨x8,iZ,h1⟩:=bs h1
 have F:=an (aC iZ) (an (aE (Aa.c (n:=2) (Aa.c (n:=32) af)) iZ) F)
 try simp only[F,go_sem]
 refine aK ?_
 try simp only[F,go_sem]
 refine AD (aH _ _ (oi h1).symm (Ai.go [2,3,5,6] [0,1] rfl ?_))
 try simp only[AX.h0,F,go_sem]
 refine AD (aF _ _ (oi h1).symm (Ai.go [2,3,5] [0,1] rfl ?_))
 try simp only[AX.x0,F,go_sem]
 refine AD (aF _ _ (oi h1).symm (Ai.go [2,3,5] [0,1] rfl ?_))
 try simp only[AX.x0,F,go_sem]
 rintro b4 aI
 subst aI
 simp only at h0
 refine rS ?_
 try simp only[AX.x0,F,go_sem]
 obtain⟨r17,afy,h0⟩:=bs h0
 refine Bf afy (AX.h1 a0 b1) (AX.x1) ?_ ?_ ?_
 refine Ai.go [2,3,5,7] [0,1] rfl ?_
 try simp only[AX.h1,F,go_sem]
 rintro⟨mG,i11⟩ cP Bl Bm h1 aH aF bL
 refine rS ?_
 simp only[AX.b1]at h1
 try simp only[Dc.s1,AX.h1,F,go_sem]
 refine AF F h1 ?_ ?_<;>intro F h1<;>try simp only[F,go_sem]
 refine AF F h1 ?_ ?_<;>intro F h1<;>try simp only[F,go_sem]
 refine AL AB aQ 1000 ?_
 try simp only[F,go_sem]
 obtain⟨cU,pJ,h1⟩:=bs h1
 have F:=an (aC pJ) (an (aE Ao.c pJ) F)
 try simp only[F,go_sem]
 obtain⟨dt,ni,h1⟩:=bs h1
 have F:=an (aC ni) (an (aE Ao.c ni) F)
 try simp only[F,go_sem]
 refine aK ?_
 try simp only[F,go_sem]
 refine AD (aH _ _ (oi h1).symm (Ai.go [2,3,5,7] [0,1] rfl ?_))
 try simp only[AX.h1,F,go_sem]
 refine AD (aF _ _ (oi h1).symm (Ai.go [5] [] rfl ?_))
 try simp only[AX.x1,F,go_sem]
 refine AD (aF _ _ (oi h1).symm (Ai.go [5] [] rfl ?_))
 try simp only[AX.x1,F,go_sem]
 rintro b12 aI
 subst aI
 simp only at h0
 refine rS ?_
 try simp only[AX.x1,F,go_sem]
 obtain rfl:=oi h0
 refine Ag rfl ?_
 try simp only[F,go_sem]
 obtain⟨r19,afA,h0⟩:=bs h0
 refine Bf afA (AX.adX a0 b1) (AX.acM a0 b1) ?_ ?_ ?_
 refine Ai.go [2,3,5,6] [0,16] rfl ?_
 try simp only[AX.adX,F,go_sem]
 rintro _ cP Bl Bm h1 aH aF bL
 refine rS ?_
 simp only[AX.afX]at h1
 try simp only[Dc.s0,AX.adX,F,go_sem]
 refine AF F h1 ?_ ?_<;>intro F h1<;>try simp only[F,go_sem]
 refine AD (aF _ _ (oi h1).symm (Ai.go [2,3,5] [0,1] rfl ?_))
 try simp only[AX.acM,F,go_sem]
 refine AD (aF _ _ (oi h1).symm (Ai.go [2,3,5] [0,1] rfl ?_))
 try simp only[AX.acM,F,go_sem]
 rintro _ aI
 subst aI
 simp only at h0
 refine rS ?_
 try simp only[AX.acM,F,go_sem]
 obtain⟨sP,aa0,h0⟩:=bs h0
 refine Bf aa0 (AX.ql a0 b1) (AX.tv) ?_ ?_ ?_
 refine Ai.go [2,3,5,7] [0,1] rfl ?_
 try simp only[AX.ql,F,go_sem]
 rintro _ cP Bl Bm h1 aH aF bL
 refine rS ?_
 simp only[AX.pP]at h1
 try simp only[Dc.s1,AX.ql,F,go_sem]
 refine AF F h1 ?_ ?_<;>intro F h1<;>try simp only[F,go_sem]
 refine AD (aF _ _ (oi h1).symm (Ai.go [5] [] rfl ?_))
 try simp only[AX.tv,F,go_sem]
 refine AD (aF _ _ (oi h1).symm (Ai.go [5] [] rfl ?_))
 try simp only[AX.tv,F,go_sem]
 rintro _ aI
 subst aI
 simp only at h0
 refine rS ?_
 try simp only[AX.tv,F,go_sem]
 obtain rfl:=oi h0
 refine Ag rfl ?_
 try simp only[F,go_sem]
def Ey.s0:SC:=
 SQ [SQ [RG [wV 12 6 3,wV 13 0 44,wL 14 13 44 3 [13],wO 15 .lss 3 12 14 3 4 [12,14],wV 16 15 4 [15],gd 16 true (wV 17 5 4),wZ 18 16 17 4 [16,17]],CN 18 .skip (.exit 0)],.block 1 (.aL [wV 21 0 44,wV 22 6 3,wI 23 44 21 22,wD 24 36 23,wV 25 1 44,wV 26 6 3,wI 27 44 25 26,wD 28 36 27,wW 29 14 24 28 36 36 4,wG 5 29 4] [[],[],[0,1],[0,1,2],[],[],[4,5],[4,5,6],[0,1,2,3,4,5,6,7],[0,1,2,3,4,5,6,7,8]] [21,
 22,23,24,25,26,27,28,29]),RG [wV 19 6 3 [6],wK 20 .add 3 19 1 3 3 [19],wG 6 20 3 [20]]]
def Ey.c:SC:=
 SQ [RG [wB 4 false 4 [4]],RG [wV 7 0 44,wL 8 7 44 3 [7],wV 9 1 44,wL 10 9 44 3 [9],wO 11 .eql 3 8 10 3 4 [8,10],wG 5 11 4 [11]],SQ [RG [wN 6 0 3],.block 0 (.loop Ey.s0)],RG [wV 30 5 4 [5],wG 4 30 4 [30]],.ret]
def Ch.b0 (k:Nat) (a0:(List Ac)) (b1:(List Ac)):(Bool×Int)->Option (AT (Bool×Int) (Bool) (Bool)):=fun s=>match s with
 |(b2,i3)=>
   bif decide (i3<(a0.length:Int)) then
    bif b2 then
     (at? a0 i3).bind fun x7=>
     (at? b1 i3).bind fun x8=>
     (AX k x7 x8).bind fun x9=>
     some (.next (x9,ab (i3+1)))
    else
     some (.brk b2)
   else
    some (.brk b2)
def Ch.h0 (a0:(List Ac)) (b1:(List Ac)):(Bool×Int)->St:=fun s=>match s with
 |(b2,i3)=>⟨[(0,.sl 2 (List.map Ac.c a0)),(1,.sl 2 (List.map Ac.c b1)),(5,.bool b2),(6,.int .i64 i3)],[],[],1,Tryz.f12.ntmps⟩
def Ch.x0:Bool->St:=fun b4=>⟨[(5,.bool b4)],[],[],1,Tryz.f12.ntmps⟩
def Ch (k:Nat) (a0:(List Ac)) (b1:(List Ac)):Option (Bool):=
 (aj (Ch.b0 k a0 b1) k (decide ((a0.length:Int)=(b1.length:Int)),0)).bind fun r10=>match r10 with
 |.next _=>none
 |.ret v_=>some v_
 |.brk b4=>
  some b4
theorem IW (k:Nat) (a0:(List Ac)) (b1:(List Ac)) (r:Bool) (h0:Ch k a0 b1=some r):Ay Tryz.prog 12 [.sl 2 (List.map Ac.c a0),.sl 2 (List.map Ac.c b1)] (fun y=>y=.bool r):=by
 refine PB Tryz.f12 Ey.c [.tmp 4] ?_
 simp only[Ch]at h0
 try simp only[Ey.c,go_sem]
 obtain⟨r10,arB,h0⟩:=bs h0
 refine Bf arB (Ch.h0 a0 b1) (Ch.x0) ?_ ?_ ?_
 refine Ai.go [0,1,5,6] [] rfl ?_
 try simp only[Ch.h0,go_sem]
 rintro⟨b2,i3⟩ cP Bl Bm h1 aH aF bL
 refine rS ?_
 simp only[Ch.b0]at h1
 try simp only[Ey.s0,Ch.h0,go_sem]
 refine AR h1 ?_ ?_<;>intro c5 h1<;>have F:=c5<;>try simp only[F,go_sem]
 refine AF F h1 ?_ ?_<;>intro F h1<;>try simp only[F,go_sem]
 refine AL AB aQ 1000 ?_
 try simp only[F,go_sem]
 obtain⟨x7,eG,h1⟩:=bs h1
 have F:=an (aC eG) (an (aE Ac.c eG) F)
 try simp only[F,go_sem]
 obtain⟨x8,iZ,h1⟩:=bs h1
 have F:=an (aC iZ) (an (aE Ac.c iZ) F)
 try simp only[F,go_sem]
 refine cz h1 (HO k _ _) ?_ (fun x9 h1=>?_)<;>try simp only[F,go_sem]
 refine aK ?_
 try simp only[F,go_sem]
 refine AD (aH _ _ (oi h1).symm (Ai.go [0,1,5,6] [] rfl ?_))
 try simp only[Ch.h0,F,go_sem]
 refine AD (aF _ _ (oi h1).symm (Ai.go [5] [] rfl ?_))
 try simp only[Ch.x0,F,go_sem]
 refine AD (aF _ _ (oi h1).symm (Ai.go [5] [] rfl ?_))
 try simp only[Ch.x0,F,go_sem]
 rintro b4 aI
 subst aI
 simp only at h0
 refine rS ?_
 try simp only[Ch.x0,go_sem]
 obtain rfl:=oi h0
 refine Ag rfl ?_
 try simp only[go_sem]
def Hl.c:SC:=
 SQ [RG [wE 2 40 0 [0],wE 3 40 1 [1],wB 4 false 4 [4]],RG [wF 5 40 2 0 [2],wD 6 38 5 [5],wF 7 40 3 0 [3],wD 8 38 7 [7],wW 9 66 6 8 38 38 4 [6,8],wG 4 9 4 [9]],.ret]
def E7 (k:Nat) (a0:Ah) (b1:Ah):Option (Bool):=
 (B9 k a0.Aj b1.Aj).bind fun x1=>
 some x1
theorem IV (k:Nat) (a0:Ah) (b1:Ah) (r:Bool) (h0:E7 k a0 b1=some r):Ay Tryz.prog 51 [.agg (Ah.c a0),.agg (Ah.c b1)] (fun y=>y=.bool r):=by
 refine PB Tryz.f51 Hl.c [.tmp 4] ?_
 simp only[E7]at h0
 try simp only[Hl.c,go_sem]
 refine au h0 (HQ k _ _) ?_ (fun x1 h0=>?_)<;>try simp only[go_sem]
 obtain rfl:=oi h0
 refine Ag rfl ?_
 try simp only[go_sem]
def G8.c:SC:=
 SQ [RG [wE 2 42 0 [0],wE 3 42 1 [1],wB 4 false 4 [4]],RG [wF 6 42 2 0,wD 7 40 6 [6],wF 8 42 3 0,wD 9 40 8 [8],wW 10 51 7 9 40 40 4 [7,9],wG 5 10 4 [10]],RG [wV 11 5 4 [5],wV 12 11 4 [11],gd 12 true (wF 13 42 2 1),gd 12 true (wD 14 3 13 [13]),gd 12 true (wF 15 42 3 1),gd 12 true (wD 16 3 15 [15]),gd 12 true (wO 17 .eql 3 14 16 3 4 [14,16]),wZ 18 12 17 4 [12,17],wV 19 18 4 [18],
 gd 19 true (wF 20 42 2 2),gd 19 true (wD 21 3 20 [20]),gd 19 true (wF 22 42 3 2),gd 19 true (wD 23 3 22 [22]),gd 19 true (wO 24 .eql 3 21 23 3 4 [21,23]),wZ 25 19 24 4 [19,24],wV 26 25 4 [25],gd 26 true (wF 27 42 2 3 [2]),gd 26 true (wD 28 3 27 [27]),gd 26 true (wF 29 42 3 3 [3]),gd 26 true (wD 30 3 29 [29]),gd 26 true (wO 31 .eql 3 28 30 3 4 [28,30]),wZ 32 26 31 4 [26,31],wG 4 32 4 [32]],.ret]
def DH (k:Nat) (a0:Aw) (b1:Aw):Option (Bool):=
 (E7 k a0.Ah b1.Ah).bind fun x1=>
 bif x1 then
  bif decide (a0.Bj=b1.Bj) then
   bif decide (a0.Ax=b1.Ax) then
    some (decide (a0.Used=b1.Used))
   else
    some false
  else
   some false
 else
  some false
theorem HP (k:Nat) (a0:Aw) (b1:Aw) (r:Bool) (h0:DH k a0 b1=some r):Ay Tryz.prog 13 [.agg (Aw.c a0),.agg (Aw.c b1)] (fun y=>y=.bool r):=by
 refine PB Tryz.f13 G8.c [.tmp 4] ?_
 simp only[DH]at h0
 try simp only[G8.c,go_sem]
 refine au h0 (IV k _ _) ?_ (fun x1 h0=>?_)<;>try simp only[go_sem]
 refine AR h0 ?_ ?_<;>intro c2 h0<;>have F:=c2<;>try simp only[F,go_sem]
 refine AF F h0 ?_ ?_<;>intro F h0<;>try simp only[F,go_sem]
 refine AF F h0 ?_ ?_<;>intro F h0<;>try simp only[F,go_sem]
 obtain rfl:=oi h0
 refine Ag rfl ?_
 try simp only[F,go_sem]
 obtain rfl:=oi h0
 refine Ag rfl ?_
 try simp only[F,go_sem]
 obtain rfl:=oi h0
 refine Ag rfl ?_
 try simp only[F,go_sem]
 obtain rfl:=oi h0
 refine Ag rfl ?_
 try simp only[F,go_sem]
def F3.c:SC:=
 SQ [RG [wE 2 25 0 [0],wE 3 31 1 [1],wB 4 false 4 [4]],RG [wC 22 5 #[] #[] 4,wG 5 22 4 [22]],RG [wD 23 25 2,wU 24 6 23 25 36 [23],wA 6 36,wS 36 6 24 [24]],RG [wD 25 25 2 [2],wD 26 31 3 [3],wW 27 7 25 26 25 31 42 [25,26],wA 7 42,wS 42 7 27 [27]],RG [wD 29 36 6,wD 30 42 7,wW 31 8 29 30 36 42 46 [29,30],wV 28 31 46 [31],wX 32 28 0 44,wX 33 28 1 42,wX 34 28 2 45 [28],wA 9 42,wG 8 32 44 [32],
 wS 42 9 33 [33],wG 10 34 45 [34]],RG [wD 36 36 6 [6],wD 37 42 7 [7],wW 38 9 36 37 36 42 46 [36,37],wV 35 38 46 [38],wX 39 35 0 44,wX 40 35 1 42,wX 41 35 2 45 [35],wA 12 42,wG 11 39 44 [39],wS 42 12 40 [40],wG 13 41 45 [41]],RG [wC 43 10 #[] #[] 48,wV 42 43 48 [43],wX 44 42 0 36,wX 45 42 1 42 [42],wA 14 36,wA 15 42,wS 36 14 44 [44],wS 42 15 45 [45]],RG [wC 47 11 #[] #[] 48,wV 46 47 48 [47],
 wX 48 46 0 36,wX 49 46 1 42 [46],wA 16 36,wA 17 42,wS 36 16 48 [48],wS 42 17 49 [49]],RG [wV 50 8 44 [8],wV 51 11 44 [11],wW 52 12 50 51 44 44 4 [50,51],wG 18 52 4 [52]],RG [wD 53 42 9 [9],wD 54 42 12 [12],wW 55 13 53 54 42 42 4 [53,54],wG 19 55 4 [55]],RG [wD 56 36 14 [14],wD 57 36 16 [16],wW 58 14 56 57 36 36 4 [56,57],wG 20 58 4 [58]],RG [wD 59 42 15 [15],wD 60 42 17 [17],
 wW 61 13 59 60 42 42 4 [59,60],wG 21 61 4 [61]],RG [wV 62 5 4 [5],wV 63 62 4 [62],gd 63 true (wV 64 18 4 [18]),wZ 65 63 64 4 [63,64],wV 66 65 4 [65],gd 66 true (wV 67 19 4 [19]),wZ 68 66 67 4 [66,67],wV 69 68 4 [68],gd 69 true (wV 70 10 45 [10]),gd 69 true (wV 71 13 45 [13]),gd 69 true (wO 72 .eql 45 70 71 45 4 [70,71]),wZ 73 69 72 4 [69,72],wV 74 73 4 [73],gd 74 true (wV 75 20 4 [20]),
 wZ 76 74 75 4 [74,75],wV 77 76 4 [76],gd 77 true (wV 78 21 4 [21]),wZ 79 77 78 4 [77,78],wG 4 79 4 [79]],.ret]
def EW (k:Nat) (x0:Ce) (c1:Cw):Option (Bool):=
 (Fq k).bind fun x1=>
 (EX k x0).bind fun x2=>
 (EY k x0 c1).bind fun x3=>
 (fO k x2 x3).bind fun x4=>
 (BH k x2 x3).bind fun x5=>
 (vz k).bind fun x6=>
 (Ej k).bind fun x7=>
 (Ch k x4.1 x5.1).bind fun x8=>
 (DH k x4.2.1 x5.2.1).bind fun x9=>
 (AX k x6.1 x7.1).bind fun cm=>
 (DH k x6.2 x7.2).bind fun cT=>
 bif x1 then
  bif x8 then
   bif x9 then
    bif decide (x4.2.2=x5.2.2) then
     bif cm then
      some cT
     else
      some false
    else
     some false
   else
    some false
  else
   some false
 else
  some false
theorem IE (k:Nat) (x0:Ce) (c1:Cw) (r:Bool) (h0:EW k x0 c1=some r):Ay Tryz.prog 3 [.agg (Ce.c x0),.agg (Cw.c c1)] (fun y=>y=.bool r):=by
 refine PB Tryz.f3 F3.c [.tmp 4] ?_
 simp only[EW]at h0
 try simp only[F3.c,go_sem]
 refine au h0 (II k) ?_ (fun x1 h0=>?_)<;>try simp only[go_sem]
 refine au h0 (IF k _) ?_ (fun x2 h0=>?_)<;>try simp only[go_sem]
 refine au h0 (IG k _ _) ?_ (fun x3 h0=>?_)<;>try simp only[go_sem]
 refine au h0 (alN k _ _) ?_ (fun x4 h0=>?_)<;>try simp only[go_sem]
 refine au h0 (HN k _ _) ?_ (fun x5 h0=>?_)<;>try simp only[go_sem]
 refine au h0 (af4 k) ?_ (fun x6 h0=>?_)<;>try simp only[go_sem]
 refine au h0 (HM k) ?_ (fun x7 h0=>?_)<;>try simp only[go_sem]
 refine au h0 (IW k _ _) ?_ (fun x8 h0=>?_)<;>try simp only[go_sem]
 refine au h0 (HP k _ _) ?_ (fun x9 h0=>?_)<;>try simp only[go_sem]
 refine au h0 (HO k _ _) ?_ (fun cm h0=>?_)<;>try simp only[go_sem]
 refine au h0 (HP k _ _) ?_ (fun cT h0=>?_)<;>try simp only[go_sem]
 refine AR h0 ?_ ?_<;>intro eJ h0<;>have F:=eJ<;>try simp only[F,go_sem]
 refine AF F h0 ?_ ?_<;>intro F h0<;>try simp only[F,go_sem]
 refine AF F h0 ?_ ?_<;>intro F h0<;>try simp only[F,go_sem]
 refine AF F h0 ?_ ?_<;>intro F h0<;>try simp only[F,go_sem]
 refine AF F h0 ?_ ?_<;>intro F h0<;>try simp only[F,go_sem]
 obtain rfl:=oi h0
 refine Ag rfl ?_
 try simp only[F,go_sem]
 obtain rfl:=oi h0
 refine Ag rfl ?_
 try simp only[F,go_sem]
 obtain rfl:=oi h0
 refine Ag rfl ?_
 try simp only[F,go_sem]
 obtain rfl:=oi h0
 refine Ag rfl ?_
 try simp only[F,go_sem]
 obtain rfl:=oi h0
 refine Ag rfl ?_
 try simp only[F,go_sem]
 obtain rfl:=oi h0
 refine Ag rfl ?_
 try simp only[F,go_sem]
end Go.Abs
namespace Go.Abs
open Go Go.Proofs Go.RowKit
def qB:Nat:=reachBytes
theorem aiX:qB<=140737488351232:=by decide
theorem iS:Reads qB Tryz.prog 3 eI iA:=Reads.int Tryz.underlying3
theorem aqd:Reads qB Tryz.prog 119 (Aa.c (n:=5) eI) (fun x:(Aa 5 Int)=>∀ a∈x.l,iA a):=(Reads.array Tryz.underlying119 (by kernel_rfl) (Bq.cons (off:=0) (sz:=1) (off':=1) (tot:=5) rfl (by kernel_rfl) rfl iS (Bq.cons (off:=1) (sz:=1) (off':=2) (tot:=5) rfl (by kernel_rfl) rfl iS (Bq.cons (off:=2) (sz:=1) (off':=3) (tot:=5) rfl (by kernel_rfl) rfl iS (Bq.cons (off:=3) (sz:=1) (off':=4) (tot:=5) rfl (by kernel_rfl) rfl iS (Bq.cons (off:=4) (sz:=1) (off':=5) (tot:=5) rfl (by kernel_rfl) rfl iS (Bq.nil (off:=5) (tot:=5) (by decide)))))))).as (fun p=>⟨[p.1,p.2.1,p.2.2.1,p.2.2.2.1,p.2.2.2.2.1],rfl⟩) (fun _=>rfl) (fun _ h=>by intro a ha;simp only[BE,List.not_mem_nil,or_false]at ha;rcases ha with rfl|rfl|rfl|rfl|rfl;exact h.1;exact h.2.1;exact h.2.2.1;exact h.2.2.2.1;exact h.2.2.2.2.1)
theorem aqm:Reads qB Tryz.prog 58 (eL 1 eI) (fun l=>l.length<=Go.maxLen/\l.length*8<=qB/\∀ a∈l,iA a):=Reads.slice Tryz.underlying58 (by kernel_rfl) (by kernel_rfl) (by decide) iS
def BC.q (x:BC):Prop:=iA x.Kind/\(fun x:(Aa 5 Int)=>∀ a∈x.l,iA a) x.Ab/\(fun l=>l.length<=Go.maxLen/\l.length*8<=qB/\∀ a∈l,iA a) x.Dh
theorem aqf:Reads qB Tryz.prog 144 BC.c BC.q:=(Reads.struct Tryz.underlying144 (by kernel_rfl) (Bq.cons (off:=0) (sz:=1) (off':=1) (tot:=7) rfl (by kernel_rfl) rfl iS (Bq.cons (off:=1) (sz:=5) (off':=6) (tot:=7) rfl (by kernel_rfl) rfl aqd (Bq.cons (off:=6) (sz:=1) (off':=7) (tot:=7) rfl (by kernel_rfl) rfl aqm (Bq.nil (off:=7) (tot:=7) (by decide)))))).as (fun p=>⟨p.1,p.2.1,p.2.2.1⟩) (fun _=>rfl) (fun _ h=>⟨h.1,h.2.1,h.2.2.1⟩)
theorem aqg:Reads qB Tryz.prog 22 (eL 7 BC.c) (fun l=>l.length<=Go.maxLen/\l.length*72<=qB/\∀ a∈l,BC.q a):=Reads.slice Tryz.underlying22 (by kernel_rfl) (by kernel_rfl) (by decide) aqf
def Bd.q (x:Bd):Prop:=iA x.AH/\iA x.DL/\iA x.At/\iA x.CL
theorem aqe:Reads qB Tryz.prog 141 Bd.c Bd.q:=(Reads.struct Tryz.underlying141 (by kernel_rfl) (Bq.cons (off:=0) (sz:=1) (off':=1) (tot:=4) rfl (by kernel_rfl) rfl iS (Bq.cons (off:=1) (sz:=1) (off':=2) (tot:=4) rfl (by kernel_rfl) rfl iS (Bq.cons (off:=2) (sz:=1) (off':=3) (tot:=4) rfl (by kernel_rfl) rfl iS (Bq.cons (off:=3) (sz:=1) (off':=4) (tot:=4) rfl (by kernel_rfl) rfl iS (Bq.nil (off:=4) (tot:=4) (by decide))))))).as (fun p=>⟨p.1,p.2.1,p.2.2.1,p.2.2.2.1⟩) (fun _=>rfl) (fun _ h=>⟨h.1,h.2.1,h.2.2.1,h.2.2.2.1⟩)
theorem aqh:Reads qB Tryz.prog 23 (eL 4 Bd.c) (fun l=>l.length<=Go.maxLen/\l.length*32<=qB/\∀ a∈l,Bd.q a):=Reads.slice Tryz.underlying23 (by kernel_rfl) (by kernel_rfl) (by decide) aqe
theorem aql:Reads qB Tryz.prog 4 eB (fun _=>True):=Reads.bool Tryz.underlying4
def Ce.q (x:Ce):Prop:=(fun l=>l.length<=Go.maxLen/\l.length*72<=qB/\∀ a∈l,BC.q a) x.Dp/\(fun l=>l.length<=Go.maxLen/\l.length*32<=qB/\∀ a∈l,Bd.q a) x.Em/\iA x.Cut/\(fun _=>True) x.Fx
theorem aqi:Reads qB Tryz.prog 25 Ce.c Ce.q:=(Reads.struct Tryz.underlying25 (by kernel_rfl) (Bq.cons (off:=0) (sz:=1) (off':=1) (tot:=4) rfl (by kernel_rfl) rfl aqg (Bq.cons (off:=1) (sz:=1) (off':=2) (tot:=4) rfl (by kernel_rfl) rfl aqh (Bq.cons (off:=2) (sz:=1) (off':=3) (tot:=4) rfl (by kernel_rfl) rfl iS (Bq.cons (off:=3) (sz:=1) (off':=4) (tot:=4) rfl (by kernel_rfl) rfl aql (Bq.nil (off:=4) (tot:=4) (by decide))))))).as (fun p=>⟨p.1,p.2.1,p.2.2.1,p.2.2.2.1⟩) (fun _=>rfl) (fun _ h=>⟨h.1,h.2.1,h.2.2.1,h.2.2.2.1⟩)
def Entry.q (x:Entry):Prop:=iA x.Aq/\iA x.No
theorem ai5:Reads qB Tryz.prog 27 Entry.c Entry.q:=(Reads.struct Tryz.underlying27 (by kernel_rfl) (Bq.cons (off:=0) (sz:=1) (off':=1) (tot:=2) rfl (by kernel_rfl) rfl iS (Bq.cons (off:=1) (sz:=1) (off':=2) (tot:=2) rfl (by kernel_rfl) rfl iS (Bq.nil (off:=2) (tot:=2) (by decide))))).as (fun p=>⟨p.1,p.2.1⟩) (fun _=>rfl) (fun _ h=>⟨h.1,h.2.1⟩)
theorem aqn:Reads qB Tryz.prog 9 eS (fun s=>s.size<=Go.maxLen):=Reads.string Tryz.underlying9
def Ab.q (x:Ab):Prop:=Entry.q x.At/\iA x.Kind/\iA x.Day/\iA x.Bn/\Entry.q x.Of/\(fun s=>s.size<=Go.maxLen) x.Text
theorem aqj:Reads qB Tryz.prog 29 Ab.c Ab.q:=(Reads.struct Tryz.underlying29 (by kernel_rfl) (Bq.cons (off:=0) (sz:=2) (off':=2) (tot:=8) rfl (by kernel_rfl) rfl ai5 (Bq.cons (off:=2) (sz:=1) (off':=3) (tot:=8) rfl (by kernel_rfl) rfl iS (Bq.cons (off:=3) (sz:=1) (off':=4) (tot:=8) rfl (by kernel_rfl) rfl iS (Bq.cons (off:=4) (sz:=1) (off':=5) (tot:=8) rfl (by kernel_rfl) rfl iS (Bq.cons (off:=5) (sz:=2) (off':=7) (tot:=8) rfl (by kernel_rfl) rfl ai5 (Bq.cons (off:=7) (sz:=1) (off':=8) (tot:=8) rfl (by kernel_rfl) rfl aqn (Bq.nil (off:=8) (tot:=8) (by decide))))))))).as (fun p=>⟨p.1,p.2.1,p.2.2.1,p.2.2.2.1,p.2.2.2.2.1,p.2.2.2.2.2.1⟩) (fun _=>rfl) (fun _ h=>⟨h.1,h.2.1,h.2.2.1,h.2.2.2.1,h.2.2.2.2.1,h.2.2.2.2.2.1⟩)
def Cw.q (x:Cw):Prop:=iA x.DM/\iA x.By/\Ab.q x.Ab
theorem aqk:Reads qB Tryz.prog 31 Cw.c Cw.q:=(Reads.struct Tryz.underlying31 (by kernel_rfl) (Bq.cons (off:=0) (sz:=1) (off':=1) (tot:=10) rfl (by kernel_rfl) rfl iS (Bq.cons (off:=1) (sz:=1) (off':=2) (tot:=10) rfl (by kernel_rfl) rfl iS (Bq.cons (off:=2) (sz:=8) (off':=10) (tot:=10) rfl (by kernel_rfl) rfl aqj (Bq.nil (off:=10) (tot:=10) (by decide)))))).as (fun p=>⟨p.1,p.2.1,p.2.2.1⟩) (fun _=>rfl) (fun _ h=>⟨h.1,h.2.1,h.2.2.1⟩)
end Go.Abs
namespace Go.Abs
open Go
theorem ap7 {i d:Nat}:(List.range' i (d+1))=i::List.range' (i+1) d:=by
 rw[List.range'_succ]
theorem aj1 {R:Type}{body:Int->Option (AT Int Unit R)}{n:Nat}{f:Nat->Option R} (hn:n<=9223372036854775807) {k:Nat} (hk:n<k)
  (h1:∀ i,i<n->body (i:Int)=some (match f i with|some r=>.ret r|none=>.next (ab ((i:Int)+1)))) (h2:body (n:Int)=some (.brk ())):
  aj body k 0=some (match (List.range n).findSome? f with|some r=>.ret r|none=>.brk ()):=by
 have h:=aru (body:=body) (n:=n) (g:=f) hn h1 h2 k n 0 (by omega) hk
 rw[CY]at h
 rw[h]
 have key:∀ d i,scan f i d=(List.range' i d).findSome? f:=by
  intro d
  induction d with
  |zero=>intro i;rfl
  |succ d ih=>
   intro i
   rw[ap7,List.findSome?_cons,scan,ih]
   cases f i<;>rfl
 rw[key,List.range_eq_range']
 cases (List.range' 0 n).findSome? f<;>rfl
theorem afo {R:Type}{body:Int->Option (AT Int Unit R)}{n:Nat}{p:Nat->Bool}{c:R} (hn:n<=9223372036854775807) {k:Nat} (hk:n<k)
  (h1:∀ i,i<n->body (i:Int)=some (bif p i then .next (ab ((i:Int)+1)) else .ret c)) (h2:body (n:Int)=some (.brk ())):
  aj body k 0=some (bif (List.range n).all p then .brk () else .ret c):=by
 have h:=aj1 (body:=body) (n:=n) (f:=fun i=>bif p i then none else some c) hn hk (fun i hi=>by rw[h1 i hi];cases p i<;>rfl) h2
 rw[h]
 have:∀ l:List Nat,l.findSome? (fun i=>bif p i then none else some c)=bif l.all p then none else some c:=by
  intro l
  induction l with
  |nil=>rfl
  |cons x l ih=>
   rw[List.findSome?_cons,List.all_cons]
   cases hp:p x with
   |true=>simpa using ih
   |false=>simp
 rw[this]
 cases (List.range n).all p<;>rfl
theorem acK {α R:Type}{l:List α}{body:Int->Option (AT Int Unit R)}{p:α->Bool}{c:R} (hn:l.length<=9223372036854775807) {k:Nat} (hk:l.length<k)
  (h1:∀ (i:Nat) x,l[i]?=some x->body (i:Int)=some (bif p x then .next (ab ((i:Int)+1)) else .ret c)) (h2:body (l.length:Int)=some (.brk ())):
  aj body k 0=some (bif l.all p then .brk () else .ret c):=by
 have h:=ars (body:=body) (l:=l) (f:=fun i=>bif p i then none else some c) hn hk (fun i x hi=>by rw[h1 i x hi];cases p x<;>rfl) h2
 rw[h]
 have:l.findSome? (fun i=>bif p i then none else some c)=bif l.all p then none else some c:=by
  clear h h1 h2 hn hk
  induction l with
  |nil=>rfl
  |cons x l ih=>
   rw[List.findSome?_cons,List.all_cons]
   cases hp:p x with
   |true=>simpa using ih
   |false=>simp
 rw[this]
 cases l.all p<;>rfl
theorem acL {S R τ:Type}{n:Nat}{body:τ->Option (AT τ S R)} (mk:Int->S->τ) (f:S->Nat->S) (Inv:Nat->S->Prop) (hn:n<=9223372036854775807) {k:Nat} (hk:n<k) {s0:S} (h0:Inv 0 s0)
  (h1:∀ i s,i<n->Inv i s->body (mk (i:Int) s)=some (.next (mk (ab ((i:Int)+1)) (f s i)))/\Inv (i+1) (f s i)) (h2:∀ s,Inv n s->body (mk (n:Int) s)=some (.brk s)):
  aj body k (mk 0 s0)=some (.brk ((List.range n).foldl f s0))/\Inv n ((List.range n).foldl f s0):=by
 have h:=pF (l:=List.range n) (body:=body) mk f Inv (by simpa using hn) (k:=k) (by simpa using hk) h0 (fun i x s hx hI=>by
  have hi:i<n:=by have:=(gS.1 hx).1;simpa using this
  have e:x=i:=by have:=hx;rw[List.getElem?_range hi]at this;exact(oi this).symm
  subst e
  exact h1 x s hi hI) (fun s hI=>by have:=h2 s (by simpa using hI);simpa using this)
 exact⟨h.1,by simpa using h.2⟩
theorem adL {α:Type} (g:Nat->α):∀ (l:List Nat) (s:List α),l.foldl (fun s i=>s++[g i]) s=s++l.map g
 |[],s=>by simp
 |x::l,s=>by simp[adL g l]
theorem art {S E R τ:Type}{n:Nat}{body:τ->Option (AT τ E R)} (mk:Int->S->τ) (g:S->E) (f:S->Nat->Option S) (c:R) (Inv:Nat->S->Prop) (hn:n<=9223372036854775807) {k:Nat} (hk:n<k) {s0:S} (h0:Inv 0 s0)
  (h1:∀ i s,i<n->Inv i s->body (mk (i:Int) s)=some (match f s i with|some s'=>.next (mk (ab ((i:Int)+1)) s')|none=>.ret c)/\∀ s',f s i=some s'->Inv (i+1) s') (h2:∀ s,Inv n s->body (mk (n:Int) s)=some (.brk (g s))):
  aj body k (mk 0 s0)=some (match (List.range n).foldlM f s0 with|some s=>.brk (g s)|none=>.ret c)/\∀ s,(List.range n).foldlM f s0=some s->Inv n s:=by
 have key:∀ (d i k:Nat) (s:S),i+d=n->d<k->Inv i s->aj body k (mk (i:Int) s)=some (match (List.range' i d).foldlM f s with|some s=>.brk (g s)|none=>.ret c)/\∀ s',(List.range' i d).foldlM f s=some s'->Inv n s':=by
  intro d
  induction d with
  |zero=>
   intro i k s hi hk hI
   cases k with
   |zero=>omega
   |succ k=>
    have:i=n:=by omega
    subst this
    refine⟨?_,fun s' hs=>?_⟩
    ·rw[aj,h2 s hI];rfl
    ·have:s=s':=oi hs
     exact this▸hI
  |succ d ih=>
   intro i k s hi hk hI
   cases k with
   |zero=>omega
   |succ k=>
    obtain⟨g1,g2⟩:=h1 i s (by omega) hI
    rw[List.range'_succ,List.foldlM_cons,aj,g1]
    cases hf:f s i with
    |none=>exact⟨rfl,fun s' hs=>by cases hs⟩
    |some s1=>
     have:ab ((i:Int)+1)=((i+1:Nat):Int):=by rw[aU (by omega) (by omega)];omega
     simp only[this]
     exact ih (i+1) k s1 (by omega) (by omega) (g2 s1 hf)
 have:=key n 0 k s0 (by omega) hk h0
 rw[List.range_eq_range']
 exact this
end Go.Abs
namespace Go.Abs
open Go Go.Proofs
def be (n:Int):Nat->List Int
 |0=>[]
 |w+1=>IntKind.u8.wrap (Int.fdiv n (2 ^ (8*w)))::be n w
theorem dX (n:Int):∀ w,(be n w).length=w
 |0=>rfl
 |w+1=>by simp[be,dX n w]
theorem adi {body:Int×List Int->Option (AT (Int×List Int) (List Int) (List Int))}{n:Int}
  (hb:∀ i l,body (i,l)=bif decide ((0:Int)<=i) then (lL (ab (8*i))).bind fun _=>(fJ 1 l (IntKind.u8.wrap (Int.fdiv n (2 ^ (min (Int.toNat (ab (8*i))) 64))))).bind fun l'=>some (.next (ab (i - 1),l')) else some (.brk l)):
  ∀ (w m:Nat) (l:List Int),w<=8->l.length+w<=1000000->w<m->aj body m (ab ((w:Int) - 1),l)=some (.brk (l++be n w)):=by
 intro w
 induction w with
 |zero=>
  intro m l _ _ hm
  obtain⟨m,rfl⟩:∃ m',m=m'+1:=⟨m - 1,by omega⟩
  have e:ab (((0:Nat):Int) - 1)=-1:=by rw[aU]<;>simp
  simp only[aj,hb,e,be,List.append_nil,(by decide:decide ((0:Int)<=-1)=false),Ak]
 |succ w ih=>
  intro m l hw hl hm
  obtain⟨m,rfl⟩:∃ m',m=m'+1:=⟨m - 1,by omega⟩
  have e:ab (((w+1:Nat):Int) - 1)=w:=by rw[aU]<;>omega
  have e8:ab (8*(w:Int))=8*(w:Int):=by rw[aU]<;>omega
  have et:min (Int.toNat (8*(w:Int))) 64=8*w:=by omega
  have hsh:lL (8*(w:Int))=some ():=by unfold lL;rw[if_neg (by omega)]
  have hp:fJ 1 l (IntKind.u8.wrap (Int.fdiv n (2 ^ (8*w))))=some (l++[IntKind.u8.wrap (Int.fdiv n (2 ^ (8*w)))]):=pq (by omega) (by omega)
  have hd:decide ((0:Int)<=(w:Int))=true:=by simp
  simp only[aj,hb,e,e8,et,hsh,hd,Am,Ae,hp]
  rw[ih m _ (by omega) (by simp;omega) (by omega)]
  simp[be]
theorem acd {k:Nat} (n:Int) {w:Nat} (hw:w<=8) (hk:w<k):Cd k n w=some (be n w):=by
 unfold Cd
 rw[adi (n:=n) (fun i l=>rfl) w k [] hw (by simp;omega) hk]
 rfl
theorem aeK {k:Nat} (n:Int) {w:Nat} (hw:w<=8) (hk:w<k):BV k n w=some (be n w):=by
 unfold BV
 rw[adi (n:=n) (fun i l=>rfl) w k [] hw (by simp;omega) hk]
 rfl
theorem lQ {α:Type}{b:Nat}{l x:List α} (h:(l.length+x.length)*b<=140737488355328) (h2:l.length+x.length<4611686018427387904):dN b l x=some (l++x):=by
 unfold dN;rw[if_pos ⟨h,h2⟩]
def enc (r:Ab):List Int:=be r.At.Aq 1++be r.At.No 2++be r.Kind 1++be r.Day 4++be r.Bn 4++be r.Of.Aq 1++be r.Of.No 2++be (r.Text.size:Int) 1++iC r.Text
theorem yw (r:Ab):(enc r).length=16+r.Text.size:=by
 simp only[enc,A9,dX,kQ]<;>omega
theorem al5 {k:Nat} (hk:20<k) {r:Ab} (ht:r.Text.size<=1000):E9 k r=some (enc r):=by
 have h1:∀ n:Int,BV k n 1=some (be n 1):=fun n=>aeK n (w:=1) (by decide) (by omega)
 have h2:∀ n:Int,BV k n 2=some (be n 2):=fun n=>aeK n (w:=2) (by decide) (by omega)
 have h4:∀ n:Int,BV k n 4=some (be n 4):=fun n=>aeK n (w:=4) (by decide) (by omega)
 have hs:aaF r.Text=some ():=by unfold aaF;rw[if_pos (by omega)]
 unfold E9 enc
 simp only[h1,h2,h4,hs,Ae]
 repeat rw[lQ (by (simp only[A9,dX,kQ])<;>omega) (by (simp only[A9,dX,kQ])<;>omega),Ae]
theorem adp {k:Nat} (n:Int) {w:Nat} (l:List Int) (wd:Int) (hwd:wd=w) (hw:w<=8) (hl:l.length+w<=1000000) (hk:w<k):aj (cF.b1 k (⟨[n,wd],rfl⟩:Aa 2 Int)) k (ab (wd - 1),l)=some (.brk (l++be n w)):=by
 subst hwd
 exact adi (n:=n) (fun i l=>by
  unfold cF.b1
  have h:(⟨[n,(w:Int)],rfl⟩:Aa 2 Int).at? 0=some n:=rfl
  simp only[h,Ae]) w k l hw hl hk
theorem amk {k:Nat} (hk:20<k) {r:Ab} (ht:r.Text.size<=1000):cF k r=some (enc r):=by
 unfold cF
 have one:∀ (n:Int) (l:List Int),l.length<=1000->aj (cF.b1 k (⟨[n,1],rfl⟩:Aa 2 Int)) k (ab (1 - 1),l)=some (.brk (l++be n 1)):=fun n l hl=>adp n (w:=1) l 1 rfl (by decide) (by omega) (by omega)
 have two:∀ (n:Int) (l:List Int),l.length<=1000->aj (cF.b1 k (⟨[n,2],rfl⟩:Aa 2 Int)) k (ab (2 - 1),l)=some (.brk (l++be n 2)):=fun n l hl=>adp n (w:=2) l 2 rfl (by decide) (by omega) (by omega)
 have four:∀ (n:Int) (l:List Int),l.length<=1000->aj (cF.b1 k (⟨[n,4],rfl⟩:Aa 2 Int)) k (ab (4 - 1),l)=some (.brk (l++be n 4)):=fun n l hl=>adp n (w:=4) l 4 rfl (by decide) (by omega) (by omega)
 have st:∀ (i:Int) (l:List Int) (n wd:Int) (l':List Int),i<8->at? [(⟨[r.At.Aq,1],rfl⟩:(Aa 2 Int)),(⟨[r.At.No,2],rfl⟩:(Aa 2 Int)),(⟨[r.Kind,1],rfl⟩:(Aa 2 Int)),(⟨[r.Day,4],rfl⟩:(Aa 2 Int)),(⟨[r.Bn,4],rfl⟩:(Aa 2 Int)),(⟨[r.Of.Aq,1],rfl⟩:(Aa 2 Int)),(⟨[r.Of.No,2],rfl⟩:(Aa 2 Int)),(⟨[(r.Text.size:Int),1],rfl⟩:(Aa 2 Int))] i=some (⟨[n,wd],rfl⟩:Aa 2 Int)->
   aj (cF.b1 k (⟨[n,wd],rfl⟩:Aa 2 Int)) k (ab (wd - 1),l)=some (.brk l')->cF.b0 k r (i,l)=some (.next (ab (i+1),l')):=by
  intro i l n wd l' hi ha hw
  unfold cF.b0
  have h1:(⟨[n,wd],rfl⟩:Aa 2 Int).at? 1=some wd:=rfl
  simp only[AE hi,Am,ha,Ae,h1,hw]
 obtain⟨m,rfl⟩:∃ m,k=m+9:=⟨k - 9,by omega⟩
 have nx:∀ (q:Nat) (i:Int) (l l':List Int),cF.b0 (m+9) r (i,l)=some (.next (ab (i+1),l'))->aj (cF.b0 (m+9) r) (q+1) (i,l)=aj (cF.b0 (m+9) r) q (ab (i+1),l'):=by
  intro q i l l' h
  simp only[aj,h]
 rw[nx (m+8) 0 _ _ (st 0 _ _ _ _ (by decide) rfl (one _ _ (by simp))),(by decide:ab (0+1)=1),
  nx (m+7) 1 _ _ (st 1 _ _ _ _ (by decide) rfl (two _ _ (by (simp only[A9,dX,Az])<;>omega))),(by decide:ab (1+1)=2),
  nx (m+6) 2 _ _ (st 2 _ _ _ _ (by decide) rfl (one _ _ (by (simp only[A9,dX,Az])<;>omega))),(by decide:ab (2+1)=3),
  nx (m+5) 3 _ _ (st 3 _ _ _ _ (by decide) rfl (four _ _ (by (simp only[A9,dX,Az])<;>omega))),(by decide:ab (3+1)=4),
  nx (m+4) 4 _ _ (st 4 _ _ _ _ (by decide) rfl (four _ _ (by (simp only[A9,dX,Az])<;>omega))),(by decide:ab (4+1)=5),
  nx (m+3) 5 _ _ (st 5 _ _ _ _ (by decide) rfl (one _ _ (by (simp only[A9,dX,Az])<;>omega))),(by decide:ab (5+1)=6),
  nx (m+2) 6 _ _ (st 6 _ _ _ _ (by decide) rfl (two _ _ (by (simp only[A9,dX,Az])<;>omega))),(by decide:ab (6+1)=7),
  nx (m+1) 7 _ _ (st 7 _ _ _ _ (by decide) rfl (one _ _ (by (simp only[A9,dX,Az])<;>omega))),(by decide:ab (7+1)=8)]
 have qq:∀ l,aj (cF.b0 (m+9) r) (m+1) (8,l)=some (.brk l):=fun l=>by
  have:cF.b0 (m+9) r (8,l)=some (.brk l):=by
   unfold cF.b0
   simp only[(by decide:decide ((8:Int)<8)=false),Ak]
  simp only[aj,this]
 rw[qq]
 simp only[Ae]
 rw[lQ (by (simp only[A9,dX,kQ,Az])<;>omega) (by (simp only[A9,dX,kQ,Az])<;>omega)]
 simp only[Ae,Bt,enc]
def within (n lo hi:Int):Bool:=decide (lo<=n)&&decide (n<=hi)
theorem aaa (k:Nat) (n lo hi:Int):lR k n lo hi=some (within n lo hi):=by
 unfold lR within
 cases decide (lo<=n)<;>rfl
theorem z7 (k:Nat) (n lo hi:Int):C8 k n lo hi=some (within n lo hi):=by
 unfold C8 within
 cases decide (lo<=n)<;>rfl
def lj (p:Entry):Bool:=within p.Aq 0 5&&within p.No 0 9999
theorem aoK (k:Nat) (p:Entry):vF k p=some (lj p):=by
 unfold vF lj
 simp only[aaa,Ae]
 cases within p.Aq 0 5<;>rfl
theorem aoJ (k:Nat) (p:Entry):Ei k p=some (lj p):=by
 unfold Ei lj
 simp only[z7,Ae]
 cases within p.Aq 0 5<;>rfl
def tI (x:Int):Bool:=!decide (x<32)&&!decide (126<x)
def pC (s:ByteArray):Bool:=!decide ((200:Int)<(s.size:Int))&&(iC s).all tI
theorem ajo {s:ByteArray}{i:Nat}{x:Int} (h:(iC s)[i]?=some x):sS s (i:Int)=some x:=by
 have hi:i<s.size:=by have:=(gS.1 h).1;rwa [kQ]at this
 unfold sS
 rw[if_pos (by omega)]
 unfold iC at h
 rw[BA,mS]at h
 obtain⟨c,h1,rfl⟩:=h
 simp[List.getD,h1]
theorem aoM {k:Nat} (hk:1000<k) (s:ByteArray):im k s=some (pC s):=by
 unfold im pC
 by_cases h:(200:Int)<(s.size:Int)
 ·simp[h]
 ·have hl:(iC s).length<=200:=by rw[kQ];omega
  have:=acK (l:=iC s) (body:=im.b0 k s) (p:=tI) (c:=false) (by omega) (k:=k) (by omega) (fun i x hx=>by
   have hi:i<s.size:=by have:=(gS.1 hx).1;rwa [kQ]at this
   unfold im.b0 tI
   simp only[AE (show ((i:Int)<(s.size:Int)) by omega),Am,ajo hx,Ae]
   cases decide (x<32)<;>cases decide (126<x)<;>rfl) (by
   unfold im.b0
   simp only[kQ,(by simp:decide ((s.size:Int)<(s.size:Int))=false),Ak])
  simp only[AI h,Ak,Bs,BQ]
  rw[this]
  cases (iC s).all tI<;>rfl
theorem aoL {k:Nat} (hk:1000<k) (s:ByteArray):Cp k s=some (pC s):=by
 unfold Cp pC
 by_cases h:(200:Int)<(s.size:Int)
 ·simp[h]
 ·have hl:(iC s).length<=200:=by rw[kQ];omega
  have:=acK (l:=iC s) (body:=Cp.b0 k s) (p:=tI) (c:=false) (by omega) (k:=k) (by omega) (fun i x hx=>by
   have hi:i<s.size:=by have:=(gS.1 hx).1;rwa [kQ]at this
   unfold Cp.b0 tI
   simp only[AE (show ((i:Int)<(s.size:Int)) by omega),Am,ajo hx,Ae]
   cases decide (x<32)<;>cases decide (126<x)<;>rfl) (by
   unfold Cp.b0
   simp only[kQ,(by simp:decide ((s.size:Int)<(s.size:Int))=false),Ak])
  simp only[AI h,Ak,Bs,BQ]
  rw[this]
  cases (iC s).all tI<;>rfl
def dg (r:Ab):Bool:=
 lj r.At&&(within r.Kind 0 40&&(within r.Day 0 100000&&(within r.Bn 0 100000&&(pC r.Text&&
  (bif !decide (r.Kind=(0:Int)) then decide (r.Of.Aq=(0:Int))&&decide (r.Of.No=(0:Int))
   else decide (r.Day=(0:Int))&&((r.Text.toList==ByteArray.empty.toList)&&(lj r.Of&&(decide (r.Of.Aq=r.At.Aq)&&decide (r.Of.No<r.At.No)))))))))
theorem aif {k:Nat} (hk:1000<k) (r:Ab):pV k r=some (dg r):=by
 unfold pV dg
 simp only[aoK,aaa,aoM hk,Ae]
 cases lj r.At<;>simp only[Am,Ak,BQ,Bool.false_and]
 cases within r.Kind 0 40<;>simp only[Am,Ak,BQ,Bool.false_and]
 cases within r.Day 0 100000<;>simp only[Am,Ak,BQ,Bool.false_and]
 cases within r.Bn 0 100000<;>simp only[Am,Ak,BQ,Bool.false_and]
 cases pC r.Text<;>simp only[Am,Ak,BQ,Bool.false_and,AW,Bs]
 cases decide (r.Kind=(0:Int))<;>simp only[Am,Ak,BQ,Bool.false_and,AW,Bs]
 cases decide (r.Day=(0:Int))<;>simp only[Am,Ak,BQ,Bool.false_and]
 cases (r.Text.toList==ByteArray.empty.toList)<;>simp only[Am,Ak,BQ,Bool.false_and]
 cases lj r.Of<;>simp only[Am,Ak,BQ,Bool.false_and]
 cases decide (r.Of.Aq=r.At.Aq)<;>simp only[Am,Ak,BQ,Bool.false_and]
theorem ym {k:Nat} (hk:1000<k) (r:Ab):Eg k r=some (bif dg r then 0 else 90):=by
 unfold Eg dg
 simp only[aoJ,z7,aoL hk,Ae]
 cases lj r.At<;>simp only[Am,Ak,BQ,Bool.false_and]
 cases within r.Kind 0 40<;>simp only[Am,Ak,BQ,Bool.false_and]
 cases within r.Day 0 100000<;>simp only[Am,Ak,BQ,Bool.false_and]
 cases within r.Bn 0 100000<;>simp only[Am,Ak,BQ,Bool.false_and]
 cases pC r.Text<;>simp only[Am,Ak,BQ,Bool.false_and,AW,Bs]
 cases decide (r.Kind=(0:Int))<;>simp only[Am,Ak,BQ,Bool.false_and,AW,Bs]
 ·cases (decide (r.Of.Aq=(0:Int))&&decide (r.Of.No=(0:Int)))<;>rfl
 cases decide (r.Day=(0:Int))<;>simp only[Am,Ak,BQ,Bool.false_and]
 cases (r.Text.toList==ByteArray.empty.toList)<;>simp only[Am,Ak,BQ,Bool.false_and]
 cases lj r.Of<;>simp only[Am,Ak,BQ,Bool.false_and]
 cases decide (r.Of.Aq=r.At.Aq)<;>simp only[Am,Ak,BQ,Bool.false_and]
 by_cases h:r.At.No<=r.Of.No
 ·simp[h,show ¬ r.Of.No<r.At.No by omega]
 ·simp[h,show r.Of.No<r.At.No by omega]
theorem sQ {r:Ab} (h:dg r=true):r.Text.size<=200:=by
 unfold dg pC at h
 simp only[A1,Bool.not_eq_true',decide_eq_false_iff_not]at h
 omega
theorem alG (k:Nat) (f e n:Int):yc k f e n=some ⟨[f,IntKind.u8.wrap (Int.fdiv e (2 ^ 16)),IntKind.u8.wrap (Int.fdiv e (2 ^ 8)),IntKind.u8.wrap e,IntKind.u8.wrap (Int.fdiv n (2 ^ 8)),IntKind.u8.wrap n,
  0,0,0,0,0,0,0,0,0,0,0,0,0,0,0,0,0,0,0,0,0,0,0,0,0,165],rfl⟩:=by rfl
theorem n8 (e:Int):be e 3=[IntKind.u8.wrap (Int.fdiv e (2 ^ 16)),IntKind.u8.wrap (Int.fdiv e (2 ^ 8)),IntKind.u8.wrap e]:=by
 simp[be]
theorem xX (e:Int):be e 2=[IntKind.u8.wrap (Int.fdiv e (2 ^ 8)),IntKind.u8.wrap e]:=by
 simp[be]
def jj (e n:Int) (aA:Int) (code:List Int) (i:Nat):List Int:=
 [112]++be e 3++be n 2++[IntKind.u8.wrap (i:Int),IntKind.u8.wrap aA]++((code.drop (23*i)).take 23++List.replicate (23 - min (code.drop (23*i)).length 23) 0)++[165]
theorem ad1 (e n aA:Int) (code:List Int) (i:Nat):(jj e n aA code i).length=32:=by
 simp only[jj,A9,dX,AA,Az,Ba,CP]
 omega
def dH (e n:Int) (aA:Int) (code:List Int) (i:Nat):Aa 32 Int:=⟨jj e n aA code i,ad1 e n aA code i⟩
def bB (len:Nat):Nat:=(len+22) / 23
theorem abq {len:Nat} (h:len<=1000):ab (Int.tdiv (ab ((ab ((len:Int)+23)) - 1)) 23)=(bB len:Int):=by
 rw[aU (n:=(len:Int)+23) (by omega) (by omega),aU (n:=(len:Int)+23 - 1) (by omega) (by omega)]
 have e:((len:Int)+23 - 1)=((len+22:Nat):Int):=by omega
 rw[e]
 have:Int.tdiv ((len+22:Nat):Int) 23=(((len+22) / 23:Nat):Int):=by
  rw[show (23:Int)=((23:Nat):Int) from rfl,<-Int.ofNat_tdiv]
 rw[this,aU (by omega) (by omega)]
 rfl
theorem ado {len i:Nat} (h:i<bB len):23*i<len:=by unfold bB at h;omega
theorem ap6 {e n:Int}{aA:Int}{code:List Int}{i:Nat}{l:List Int} (hl:l=(code.drop (23*i)).take 23):
  (((⟨[112,IntKind.u8.wrap (Int.fdiv e (2 ^ 16)),IntKind.u8.wrap (Int.fdiv e (2 ^ 8)),IntKind.u8.wrap e,IntKind.u8.wrap (Int.fdiv n (2 ^ 8)),IntKind.u8.wrap n,
   0,0,0,0,0,0,0,0,0,0,0,0,0,0,0,0,0,0,0,0,0,0,0,0,0,165],rfl⟩:Aa 32 Int).set 6 (IntKind.u8.wrap (i:Int))).set 7 (IntKind.u8.wrap aA)).put 8 23 l=dH e n aA code i:=by
 apply Aa.ext
 have hle:l.length<=23:=by rw[hl,Ba];omega
 have an0:min l.length 23=l.length:=by omega
 have iI:l.length=min (code.drop (23*i)).length 23:=by rw[hl,Ba];omega
 unfold Aa.put
 rw[dif_pos (by decide)]
 show List.take 8 _++(List.take 23 l++List.drop (8+min l.length 23) _)=jj e n aA code i
 rw[an0,CF hle]
 have hd:∀ m,m<=23->List.drop (8+m) ((((⟨[112,IntKind.u8.wrap (Int.fdiv e (2 ^ 16)),IntKind.u8.wrap (Int.fdiv e (2 ^ 8)),IntKind.u8.wrap e,IntKind.u8.wrap (Int.fdiv n (2 ^ 8)),IntKind.u8.wrap n,
   0,0,0,0,0,0,0,0,0,0,0,0,0,0,0,0,0,0,0,0,0,0,0,0,0,165],rfl⟩:Aa 32 Int).set 6 (IntKind.u8.wrap (i:Int))).set 7 (IntKind.u8.wrap aA)).l)=List.replicate (23 - m) 0++[165]:=by
  intro m hm
  rw[<-List.drop_drop]
  show List.drop m (List.replicate 23 (0:Int)++[(165:Int)])=_
  rw[DW (by simp;exact hm),List.drop_replicate]
 rw[hd _ hle]
 show [112,IntKind.u8.wrap (Int.fdiv e (2 ^ 16)),IntKind.u8.wrap (Int.fdiv e (2 ^ 8)),IntKind.u8.wrap e,IntKind.u8.wrap (Int.fdiv n (2 ^ 8)),IntKind.u8.wrap n,IntKind.u8.wrap (i:Int),IntKind.u8.wrap aA]++_=_
 unfold jj
 rw[n8,xX,<-iI,<-hl]
 simp
theorem aeW {k:Nat} (hk:100000<k) {r:Ab} (ht:r.Text.size<=200) (n e:Int):
  ga k r n e=some ((List.range (bB (enc r).length)).map (dH e n (bB (enc r).length) (enc r))):=by
 have hlen:=yw r
 have hc:bB (enc r).length<=10:=by unfold bB;omega
 unfold ga
 rw[amk (by omega) (by omega)]
 simp only[Ae]
 have h:=acL (n:=bB (enc r).length) (body:=ga.b0 k n e (enc r)) (fun i s=>(i,s)) (fun s i=>s++[dH e n (bB (enc r).length) (enc r) i]) (fun i s=>s.length=i) (by omega) (k:=k) (by omega) (s0:=[]) rfl (fun i s hi hs=>by
  have ae:=ado hi
  refine⟨?_,by simp[hs]⟩
  unfold ga.b0
  have eo:ab ((i:Int)*23)=((23*i:Nat):Int):=by rw[aU]<;>omega
  have jE:ab ((ab ((i:Int)+1))*23)=((23*(i+1):Nat):Int):=by
   rw[aU (n:=(i:Int)+1) (by omega) (by omega),aU]<;>omega
  have xe:cg (enc r) ((23*i:Nat):Int) (min ((enc r).length:Int) ((23*(i+1):Nat):Int))=some (((enc r).drop (23*i)).take 23):=by
   unfold cg
   rw[if_pos (by omega)]
   congr 1
   have e1:(min ((enc r).length:Int) ((23*(i+1):Nat):Int)).toNat - (((23*i:Nat):Int)).toNat=min 23 ((enc r).drop (23*i)).length:=by
    rw[Bp];omega
   rw[e1,Cn]
   rw[<-List.take_take,CO]
  simp only[abq (show (enc r).length<=1000 by omega),AE (show (i:Int)<(bB (enc r).length:Int) by omega),Am,alG,Ae,eo,jE,xe]
  rw[ap6 rfl,pq (by rw[hs];omega) (by rw[hs];omega)]
  rfl) (fun s hs=>by
  unfold ga.b0
  simp only[abq (show (enc r).length<=1000 by omega),(by simp:decide ((bB (enc r).length:Int)<(bB (enc r).length:Int))=false),Ak])
 have h1:=h.1
 rw[h1]
 simp only[Ae]
 rw[adL]
 rfl
theorem amo (l:List Int):mM (List.replicate 23 (0:Int)) 0 23 l=l.take 23++List.replicate (23 - min l.length 23) 0:=by
 unfold mM
 rw[List.drop_replicate,Co,List.take_zero,Bt]
theorem arn (e n aA:Int) (code:List Int) (i:Nat):Aa.nP 32 (jj e n aA code i)=some (dH e n aA code i):=by
 unfold Aa.nP
 rw[dif_pos (by rw[ad1];exact Be _)]
 congr 1
 apply Aa.ext
 show List.take 32 (jj e n aA code i)=jj e n aA code i
 rw[CF (by rw[ad1];exact Be _)]
theorem abL {k:Nat} (hk:100000<k) {r:Ab} (ht:r.Text.size<=200) (n e:Int):
  Ci k r n e=some ((List.range (bB (enc r).length)).map (dH e n (bB (enc r).length) (enc r))):=by
 have hlen:=yw r
 have hc:bB (enc r).length<=10:=by unfold bB;omega
 unfold Ci
 rw[al5 (by omega) (by omega)]
 simp only[Ae]
 have h:=acL (n:=bB (enc r).length) (body:=Ci.b0 k n e (enc r)) (fun i s=>(i,s)) (fun s i=>s++[dH e n (bB (enc r).length) (enc r) i]) (fun i s=>s.length=i) (by omega) (k:=k) (by omega) (s0:=[]) rfl (fun i s hi hs=>by
  have ae:=ado hi
  refine⟨?_,by simp[hs]⟩
  unfold Ci.b0
  have eo:ab (23*(i:Int))=((23*i:Nat):Int):=by rw[aU]<;>omega
  have xe:cg (enc r) ((23*i:Nat):Int) ((enc r).length:Int)=some ((enc r).drop (23*i)):=by
   unfold cg
   rw[if_pos (by omega)]
   congr 1
   rw[Cn,Cn,<-Bp,CO]
  have h3:Cd k e 3=some (be e 3):=acd e (w:=3) (by decide) (by omega)
  have h2:Cd k n 2=some (be n 2):=acd n (w:=2) (by decide) (by omega)
  have hm:kM 23 1 (0:Int)=some (List.replicate 23 0):=by rfl
  have bF:(mM (List.replicate 23 (0:Int)) 0 23 ((enc r).drop (23*i))).length=23:=by rw[agF _ (by simp)];simp
  simp only[abq (show (enc r).length<=1000 by omega),AE (show (i:Int)<(bB (enc r).length:Int) by omega),Am,h3,h2,hm,Ae,eo,xe]
  rw[lQ (by (simp only[A9,dX,AA,Az])<;>omega) (by (simp only[A9,dX,AA,Az])<;>omega)]
  simp only[Ae]
  rw[lQ (by (simp only[A9,dX,AA,Az])<;>omega) (by (simp only[A9,dX,AA,Az])<;>omega)]
  simp only[Ae]
  rw[lQ (by (simp only[A9,dX,AA,Az])<;>omega) (by (simp only[A9,dX,AA,Az])<;>omega)]
  simp only[Ae]
  rw[lQ (by (simp only[A9,dX,AA,Az,bF])<;>omega) (by (simp only[A9,dX,AA,Az,bF])<;>omega)]
  simp only[Ae]
  rw[pq (by (simp only[A9,dX,AA,Az,bF])<;>omega) (by (simp only[A9,dX,AA,Az,bF])<;>omega)]
  simp only[Ae]
  have hl:[112]++be e 3++be n 2++[IntKind.u8.wrap (i:Int),IntKind.u8.wrap (bB (enc r).length:Int)]++mM (List.replicate 23 (0:Int)) 0 23 ((enc r).drop (23*i))++[165]=jj e n (bB (enc r).length) (enc r) i:=by
   rw[amo];rfl
  rw[hl,arn]
  simp only[Ae]
  rw[pq (by rw[hs];omega) (by rw[hs];omega)]
  rfl) (fun s hs=>by
  unfold Ci.b0
  simp only[abq (show (enc r).length<=1000 by omega),(by simp:decide ((bB (enc r).length:Int)<(bB (enc r).length:Int))=false),Ak])
 have h1:=h.1
 rw[h1]
 simp only[Ae]
 rw[adL]
 rfl
theorem ark (v:Aa 32 Int):Aa.eq (fun(x y:Int)=>decide (x=y)) v v=true:=by
 unfold Aa.eq
 rw[List.all_eq_true]
 intro p hp
 obtain⟨i,hi⟩:=BF.1 hp
 rw[List.getElem?_zip_eq_some]at hi
 obtain⟨h1,h2⟩:=hi
 rw[h1]at h2
 simp only[oE]at h2
 simp[h2]
theorem aqD:Fq 18446744073709551616=some true:=by decide +kernel
end Go.Abs
namespace Go.Abs
open Go
def AZ (l:List Int):Prop:=∀ x∈l,0<=x/\x<256
theorem AZ.take {l:List Int} (h:AZ l) (n:Nat):AZ (l.take n):=fun x hx=>h x (BZ hx)
theorem AZ.drop {l:List Int} (h:AZ l) (n:Nat):AZ (l.drop n):=fun x hx=>h x (Cl hx)
theorem rm (x:Int):IntKind.u8.wrap x=x % 256:=by
 simp only[IntKind.wrap,IntKind.bits,IntKind.signed]
 simp
theorem apI {n b:Int} (h0:0<=n) (h1:n<2 ^ 40) (h2:0<=b) (h3:b<256):fZ .i64 (ab (n*2 ^ 8)) (ab b)=n*256+b:=by
 have e8:((2:Int) ^ 8)=256:=by decide
 have e40:((2:Int) ^ 40)=1099511627776:=by decide
 rw[e40]at h1
 rw[e8,aU (n:=n*256) (by omega) (by omega),aU (n:=b) (by omega) (by omega)]
 obtain⟨m,rfl⟩:=Int.eq_ofNat_of_zero_le h0
 obtain⟨c,rfl⟩:=Int.eq_ofNat_of_zero_le h2
 unfold fZ
 have t1:(BitVec.ofInt IntKind.i64.bits ((m:Int)*256)).toNat=m*256:=by
  rw[BitVec.toNat_ofInt]
  have:((m:Int)*256) % ((2 ^ IntKind.i64.bits:Nat):Int)=(m:Int)*256:=by
   rw[show ((2 ^ IntKind.i64.bits:Nat):Int)=18446744073709551616 from rfl];omega
  rw[this];omega
 have t2:(BitVec.ofInt IntKind.i64.bits (c:Int)).toNat=c:=by
  rw[BitVec.toNat_ofInt]
  have:(c:Int) % ((2 ^ IntKind.i64.bits:Nat):Int)=(c:Int):=by
   rw[show ((2 ^ IntKind.i64.bits:Nat):Int)=18446744073709551616 from rfl];omega
  rw[this];omega
 rw[BitVec.toNat_or,t1,t2]
 have:m*256 ||| c=m*256+c:=by
  have:=Nat.shiftLeft_add_eq_or_of_lt (b:=c) (i:=8) (by omega) m
  rw[Nat.shiftLeft_eq]at this
  exact this.symm
 rw[this]
 exact aU (by omega) (by omega)
def pt (n:Int) (l:List Int):Int:=l.foldl (fun n b=>n*256+b) n
def bp (l:List Int):Int:=pt 0 l
theorem ai1 (a:Int):bp [a]=a:=by simp[bp,pt]
theorem aiY:∀ {l:List Int}{n:Int}{w:Nat},AZ l->0<=n->n<256 ^ w->0<=pt n l/\pt n l<256 ^ (w+l.length)
 |[],n,w,_,h0,h1=>⟨h0,h1⟩
 |b::l,n,w,hb,h0,h1=>by
  have fT:=hb b (by simp)
  have h2:n*256+b<256 ^ (w+1):=by
   rw[Int.pow_succ];omega
  have:=aiY (l:=l) (n:=n*256+b) (w:=w+1) (fun x hx=>hb x (by simp[hx])) (by omega) h2
  rw[show w+(b::l).length=w+1+l.length by simp;omega]
  exact this
theorem ae0 {l:List Int} (hb:AZ l):0<=bp l/\bp l<256 ^ l.length:=by
 have:=aiY (l:=l) (n:=0) (w:=0) hb (by omega) (by decide)
 unfold bp;simpa using this
theorem ai0 {R:Type}{l:List Int} (hb:AZ l) (hl:l.length<=5) {body:Int×Int->Option (AT (Int×Int) Int R)}{k:Nat} (hk:10<k)
  (h1:∀ (i:Nat) x s,l[i]?=some x->body (s,(i:Int))=some (.next (fZ .i64 (ab (s*2 ^ 8)) (ab x),ab ((i:Int)+1)))) (h2:∀ s,body (s,(l.length:Int))=some (.brk s)):
  aj body k (0,0)=some (.brk (bp l)):=by
 have h:=pF (l:=l) (body:=body) (fun i s=>(s,i)) (fun s x=>s*256+x) (fun i s=>0<=s/\s<256 ^ i) (by omega) (k:=k) (by omega) (s0:=0) (by simp) (fun i x s hx hs=>by
  have hi:=(gS.1 hx).1
  have iz:=hb x (AU hx)
  have oW:s<2 ^ 40:=by
   have:(256:Int) ^ i<=256 ^ 5:=by
    have:i=0\/i=1\/i=2\/i=3\/i=4:=by omega
    rcases this with rfl|rfl|rfl|rfl|rfl<;>decide
   have e:(256:Int) ^ 5=2 ^ 40:=by decide
   omega
  refine⟨?_,by omega,by rw[Int.pow_succ];omega⟩
  rw[h1 i x s hx,apI hs.1 oW iz.1 iz.2]) (fun s hs=>h2 s)
 exact h.1
theorem aqU (s:ByteArray):strOf (s.data.toList.map fun c=>(c.toNat:Int))=s:=by
 unfold strOf
 rw[List.map_map]
 have:((fun n:Int=>UInt8.ofNat n.toNat) ∘ fun c:UInt8=>(c.toNat:Int))=id:=by
  funext c;simp
 rw[this,List.map_id]
end Go.Abs
namespace Go.Abs
def fQ (a b:Int×Int):Prop:=a.1<b.1\/(a.1=b.1/\a.2<b.2)
instance (a b:Int×Int):Decidable (fQ a b):=inferInstanceAs (Decidable (_\/_))
theorem agP {a b c:Int×Int} (h:fQ a b) (g:fQ b c):fQ a c:=by unfold fQ at *;omega
theorem adx (a:Int×Int):¬ fQ a a:=by unfold fQ;omega
theorem amZ (a b:Int×Int):fQ a b\/a=b\/fQ b a:=by
 obtain⟨a1,a2⟩:=a;obtain⟨b1,b2⟩:=b
 unfold fQ;simp only[Prod.mk.injEq];omega
section
variable {α:Type} (key:α->Int×Int)
def CI (l:List α):Prop:=l.Pairwise fun x y=>fQ (key x) (key y)
def aA (l:List α) (h:Int):Nat:=l.countP fun x=>decide ((key x).1=h)
theorem tL (h:Int):aA key [] h=0:=rfl
theorem vL (l m:List α) (h:Int):aA key (l++m) h=aA key l h+aA key m h:=by
 unfold aA;exact List.countP_append
theorem oj (x:α) (l:List α) (h:Int):aA key (x::l) h=aA key l h+if (key x).1=h then 1 else 0:=by
 unfold aA;rw[List.countP_cons];simp only[decide_eq_true_eq]
theorem amj {l:List α}{h:Int} (H:∀ x∈l,(key x).1≠h):aA key l h=0:=by
 unfold aA;rw[List.countP_eq_zero];intro x hx;simp[H x hx]
def VL:(Int->Int)->List α->Prop
 |_,[]=>True
 |c,x::l=>(key x).2=c (key x).1/\VL (fun h=>if h=(key x).1 then c h+1 else c h) l
theorem Eo:∀ {l:List α}{c d:Int->Int} (H:∀ x∈l,c (key x).1=d (key x).1),VL key c l->VL key d l
 |[],_,_,_,_=>trivial
 |x::l,c,d,H,h=>by
  refine⟨by rw[<-H x (by simp)];exact h.1,Eo (l:=l) (fun y hy=>?_) h.2⟩
  have:=H y (by simp[hy])
  by_cases e:(key y).1=(key x).1
  ·simp only[e,if_true];rw[H x (by simp)]
  ·simp only[if_neg e];exact this
theorem En:∀ {l m:List α}{c:Int->Int},VL key c (l++m)↔VL key c l/\VL key (fun h=>c h+aA key l h) m
 |[],m,c=>by
  simp only[Bt,tL,VL,true_and]
  constructor<;>exact Eo key (fun x _=>by simp)
 |x::l,m,c=>by
  simp only[Bg,VL]
  rw[En (l:=l)]
  constructor
  ·rintro⟨h1,h2,h3⟩
   refine⟨⟨h1,h2⟩,Eo key (fun y _=>?_) h3⟩
   rw[oj]
   by_cases e:(key y).1=(key x).1
   ·simp only[e,if_true];omega
   ·simp only[if_neg e,if_neg (Ne.symm e)];omega
  ·rintro⟨⟨h1,h2⟩,h3⟩
   refine⟨h1,h2,Eo key (fun y _=>?_) h3⟩
   rw[oj]
   by_cases e:(key y).1=(key x).1
   ·simp only[e,if_true];omega
   ·simp only[if_neg e,if_neg (Ne.symm e)];omega
def Dk (l:List α):Prop:=CI key l/\VL key (fun _=>0) l
theorem HZ:∀ {l:List α}{c:Int->Int},VL key c l->∀ x∈l,c (key x).1<=(key x).2/\(key x).2<c (key x).1+aA key l (key x).1
 |y::l,c,h,x,hx=>by
  rw[oj]
  rcases BE.1 hx with rfl|hx
  ·have:=h.1;simp only[if_true];omega
  ·have:=HZ h.2 x hx
   by_cases e:(key x).1=(key y).1
   ·simp only[e,if_true]at this ⊢;omega
   ·simp only[if_neg e,if_neg (Ne.symm e)]at this ⊢;omega
theorem Fy:∀ {l:List α}{c:Int->Int},VL key c l->∀ (h n:Int),c h<=n->n<c h+aA key l h->∃ x∈l,key x=(h,n)
 |[],c,_,h,n,h1,h2=>by rw[tL]at h2;omega
 |y::l,c,hv,h,n,h1,h2=>by
  rw[oj]at h2
  by_cases e:(key y).1=h
  ·by_cases e2:n=c h
   ·refine⟨y,by simp,?_⟩
    have h3:=hv.1
    rw[e]at h3
    exact Prod.ext e (by rw[h3,e2])
   ·obtain⟨x,hx,hk⟩:=Fy hv.2 h n (by rw[if_pos e.symm];omega) (by rw[if_pos e.symm];rw[if_pos e]at h2;omega)
    exact⟨x,by simp[hx],hk⟩
  ·obtain⟨x,hx,hk⟩:=Fy hv.2 h n (by rw[if_neg (Ne.symm e)];omega) (by rw[if_neg (Ne.symm e)];rw[if_neg e]at h2;omega)
   exact⟨x,by simp[hx],hk⟩
def pos (l:List α) (e:Int×Int):Nat:=l.countP fun x=>decide (fQ (key x) e)
theorem aay (l:List α) (e:Int×Int):pos key l e<=l.length:=List.countP_le_length
def eF (l:List α) (r:α):List α:=l.take (pos key l (key r))++r::l.drop (pos key l (key r))
theorem ap0 (x:α) (l:List α) (e:Int×Int):pos key (x::l) e=pos key l e+if fQ (key x) e then 1 else 0:=by
 unfold pos;rw[List.countP_cons];simp only[decide_eq_true_eq]
theorem ap1 {l:List α}{e:Int×Int} (H:∀ x∈l,¬ fQ (key x) e):pos key l e=0:=by
 unfold pos;rw[List.countP_eq_zero];intro x hx;simp[H x hx]
theorem acy:∀ {l:List α},CI key l->∀ (e:Int×Int),(∀ x∈l.take (pos key l e),fQ (key x) e)/\(∀ x∈l.drop (pos key l e),¬ fQ (key x) e)
 |[],_,e=>by simp
 |y::l,hs,e=>by
  have uy:=List.pairwise_cons.1 hs
  by_cases h:fQ (key y) e
  ·obtain⟨h1,h2⟩:=acy uy.2 e
   rw[ap0,if_pos h]
   refine⟨fun x hx=>?_,fun x hx=>?_⟩
   ·rw[List.take_succ_cons]at hx
    rcases BE.1 hx with rfl|hx
    ·exact h
    ·exact h1 x hx
   ·rw[List.drop_succ_cons]at hx;exact h2 x hx
  ·have hz:pos key (y::l) e=0:=ap1 key (fun x hx=>by
    rcases BE.1 hx with rfl|hx
    ·exact h
    ·intro hc;exact h (agP (uy.1 x hx) hc))
   rw[hz]
   refine⟨by simp,fun x hx=>?_⟩
   rw[List.drop_zero]at hx
   rcases BE.1 hx with rfl|hx
   ·exact h
   ·intro hc;exact h (agP (uy.1 x hx) hc)
theorem qZ {l:List α} (hs:CI key l) (e:Int×Int) {i:Nat}{x:α} (hx:l[i]?=some x):fQ (key x) e↔i<pos key l e:=by
 obtain⟨h1,h2⟩:=acy key hs e
 constructor
 ·intro h
  rcases Nat.lt_or_ge i (pos key l e) with hi|hi
  ·exact hi
  ·exact absurd h (h2 x (BF.2 ⟨i - pos key l e,by rw[Cg,Nat.add_sub_cancel' hi];exact hx⟩))
 ·intro h
  exact h1 x (BF.2 ⟨i,by rw[BS,if_pos h];exact hx⟩)
theorem ab5 {l:List α}{r x:α}:x∈eF key l r↔x=r\/x∈l:=by
 unfold eF
 rw[Bb,BE]
 constructor
 ·rintro(h|h|h)
  ·exact .inr (BZ h)
  ·exact .inl h
  ·exact .inr (Cl h)
 ·rintro(h|h)
  ·exact .inr (.inl h)
  ·rw[<-C4 (pos key l (key r)) l,Bb]at h
   rcases h with h|h
   ·exact .inl h
   ·exact .inr (.inr h)
theorem z8 (l:List α) (r:α):(eF key l r).length=l.length+1:=by
 have:=aay key l (key r)
 unfold eF;simp;omega
theorem ami (l:List α) (r:α) (h:Int):aA key (eF key l r) h=aA key l h+if (key r).1=h then 1 else 0:=by
 unfold eF
 rw[vL,oj]
 have:=vL key (l.take (pos key l (key r))) (l.drop (pos key l (key r))) h
 rw[C4]at this
 omega
theorem aqS {l:List α} (hs:CI key l) {r:α} (hn:∀ x∈l,key x≠key r):CI key (eF key l r):=by
 obtain⟨h1,h2⟩:=acy key hs (key r)
 unfold CI eF
 have h:=hs
 unfold CI at h
 rw[<-C4 (pos key l (key r)) l,List.pairwise_append]at h
 rw[List.pairwise_append,List.pairwise_cons]
 refine⟨h.1,⟨fun x hx=>?_,h.2.1⟩,fun x hx y hy=>?_⟩
 ·rcases amZ (key x) (key r) with e|e|e
  ·exact absurd e (h2 x hx)
  ·exact absurd e (hn x (Cl hx))
  ·exact e
 ·rcases BE.1 hy with rfl|hy
  ·exact h1 x hx
  ·exact h.2.2 x hx y hy
theorem afm {l:List α} (hv:Dk key l):∀ x∈l,0<=(key x).2/\(key x).2<aA key l (key x).1:=fun x hx=>by
 have:=HZ key hv.2 x hx;omega
theorem ajP {l:List α} (hv:Dk key l) {h n:Int} (h0:0<=n) (h1:n<aA key l h):∃ x∈l,key x=(h,n):=Fy key hv.2 h n (by omega) (by omega)
theorem ajQ {l:List α} (hv:Dk key l) {r:α} (hr:(key r).2=aA key l (key r).1):Dk key (eF key l r):=by
 have hn:∀ x∈l,key x≠key r:=fun x hx e=>by
  have:=afm key hv x hx
  rw[e]at this;omega
 refine⟨aqS key hv.1 hn,?_⟩
 obtain⟨h1,h2⟩:=acy key hv.1 (key r)
 have hd:∀ x∈l.drop (pos key l (key r)),(key x).1≠(key r).1:=fun x hx e=>by
  have:=afm key hv x (Cl hx)
  apply h2 x hx
  rw[e]at this
  exact .inr ⟨e,by omega⟩
 have zU:=hv.2
 rw[<-C4 (pos key l (key r)) l,En]at zU
 unfold eF
 rw[En]
 refine⟨zU.1,?_,?_⟩
 ·have e:=vL key (l.take (pos key l (key r))) (l.drop (pos key l (key r))) (key r).1
  rw[C4,amj key hd]at e
  rw[hr];show ((aA key l (key r).1:Nat):Int)=0+((aA key (l.take (pos key l (key r))) (key r).1:Nat):Int);omega
 ·refine Eo key (fun x hx=>?_) zU.2
  rw[if_neg (hd x hx)]
theorem aqR {l:List α} (hs:CI key l) {x y:α} (hx:x∈l) (hy:y∈l) (e:key x=key y):x=y:=by
 obtain⟨i,hi⟩:=BF.1 hx
 obtain⟨j,hj⟩:=BF.1 hy
 have h1:=(qZ key hs (key y) hi)
 have h2:=(qZ key hs (key y) hj)
 have h3:=(qZ key hs (key x) hi)
 have h4:=(qZ key hs (key x) hj)
 have nE:i=j:=by
  rcases Nat.lt_trichotomy i j with h|h|h
  ·have hp:=List.pairwise_iff_getElem.1 hs i j (gS.1 hi).1 (gS.1 hj).1 h
   rw[(gS.1 hi).2,(gS.1 hj).2,e]at hp
   exact absurd hp (adx _)
  ·exact h
  ·have hp:=List.pairwise_iff_getElem.1 hs j i (gS.1 hj).1 (gS.1 hi).1 h
   rw[(gS.1 hi).2,(gS.1 hj).2,e]at hp
   exact absurd hp (adx _)
 subst nE
 exact oi (hi.symm.trans hj)
end
end Go.Abs
namespace Go.Abs
section
variable {α:Type} [DecidableEq α] (key:α->Int×Int)
def gR (l:List α) (e:Int×Int):Option α:=l.find? fun x=>decide (key x=e)
theorem ahk {l:List α}{e:Int×Int}{x:α} (h:gR key l e=some x):x∈l/\key x=e:=by
 unfold gR at h
 have h1:=List.find?_some h
 exact⟨List.mem_of_find?_eq_some h,by simpa using h1⟩
theorem yE {l:List α}{e:Int×Int} (h:gR key l e=none):∀ x∈l,key x≠e:=by
 unfold gR at h
 rw[List.find?_eq_none]at h
 intro x hx;simpa using h x hx
theorem abE {l:List α}{e:Int×Int} (h:∀ x∈l,key x≠e):gR key l e=none:=by
 unfold gR;rw[List.find?_eq_none];intro x hx;simpa using h x hx
theorem ahi {l:List α} (hs:CI key l) {x:α} (hx:x∈l):gR key l (key x)=some x:=by
 cases h:gR key l (key x) with
 |none=>exact absurd rfl (yE key h x hx)
 |some y=>obtain⟨h1,h2⟩:=ahk key h;rw[aqR key hs h1 hx h2]
theorem ahj {l:List α} (hs:CI key l) (e:Int×Int):gR key l e=(l[pos key l e]?).filter fun x=>decide (key x=e):=by
 cases h:gR key l e with
 |some x=>
  obtain⟨h1,h2⟩:=ahk key h
  obtain⟨i,hi⟩:=BF.1 h1
  have hp:i=pos key l e:=by
   rcases Nat.lt_trichotomy i (pos key l e) with g|g|g
   ·have:=(qZ key hs e hi).2 g;rw[h2]at this;exact absurd this (adx _)
   ·exact g
   ·have ae:pos key l e<l.length:=by have:=(gS.1 hi).1;omega
    have hy:l[pos key l e]?=some l[pos key l e]:=gG ae
    have h3:¬ fQ (key l[pos key l e]) e:=fun c=>by have:=(qZ key hs e hy).1 c;omega
    have hp:=List.pairwise_iff_getElem.1 hs (pos key l e) i ae (gS.1 hi).1 g
    rw[(gS.1 hi).2,h2]at hp
    exact absurd hp h3
  rw[<-hp,hi]
  simp[Option.filter,h2]
 |none=>
  have hn:=yE key h
  cases hq:l[pos key l e]? with
  |none=>rfl
  |some y=>
   have:=hn y (AU hq)
   simp[Option.filter,this]
def jn (out:List α) (r:α):Option (List α):=match gR key out (key r) with
 |some x=>if x=r then some out else none
 |none=>some (eF key out r)
def cs (a:List α) (m:Nat) (r:α):Option Nat:=match gR key a (key r) with
 |some x=>if x=r then some m else none
 |none=>some (m+1)
end
end Go.Abs
namespace Go.Abs
section
variable {α:Type} (key:α->Int×Int)
def bk (out l:List α):List α:=l.foldl (eF key) out
structure BI (done out:List α):Prop where
 mem:∀ x,x∈out↔x∈done
 val:Dk key out
 num:∀ h,aA key out h=aA key done h
 len:out.length=done.length
theorem BI.nil:BI key [] []:=⟨fun x=>Iff.rfl,⟨.nil,trivial⟩,fun h=>rfl,rfl⟩
theorem BI.step {done out:List α}{r:α} (hJ:BI key done out) (hr:(key r).2=aA key done (key r).1):BI key (done++[r]) (eF key out r):=by
 refine⟨fun x=>?_,ajQ key hJ.val (by rw[hJ.num];exact hr),fun h=>?_,?_⟩
 ·rw[ab5,hJ.mem,Bb,CG];exact Or.comm
 ·rw[ami,hJ.num,vL,oj,tL];omega
 ·rw[z8,hJ.len];simp
theorem BI.no {done out:List α}{r:α} (hJ:BI key done out) (hr:(key r).2=aA key done (key r).1):∀ x∈out,key x≠key r:=fun x hx e=>by
 have:=afm key hJ.val x hx
 rw[e,hJ.num]at this;omega
theorem BI.all:∀ {m done out:List α},BI key done out->VL key (fun h=>aA key done h) m->BI key (done++m) (bk key out m)
 |[],done,out,hJ,_=>by rw[List.append_nil];exact hJ
 |r::m,done,out,hJ,hv=>by
  have h1:=BI.step key hJ (r:=r) hv.1
  have:=BI.all (m:=m) h1 (Eo key (fun x _=>by
   rw[vL,oj,tL]
   by_cases e:(key x).1=(key r).1
   ·rw[if_pos e,if_pos e.symm];simp
   ·rw[if_neg e,if_neg (Ne.symm e)];simp) hv.2)
  simpa [bk] using this
theorem BI.of {l:List α} (h:VL key (fun _=>0) l):BI key l (bk key [] l):=by
 have:=BI.all key (m:=l) (BI.nil key) h
 simpa using this
end
section
variable {α:Type} [DecidableEq α] (key:α->Int×Int)
end
end Go.Abs
end
