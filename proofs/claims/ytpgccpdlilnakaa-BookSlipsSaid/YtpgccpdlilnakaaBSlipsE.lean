/-
  Part 5 of the proof: a machine over named blocks, what each function computes, and what follows. No condition.
-/
import Derived.RangeFuncLeaves
import Derived.Test.YtpgccpdlilnakaaBSlipsD
set_option linter.unusedVariables false
set_option linter.unusedSimpArgs false
set_option linter.all false
set_option maxRecDepth 100000
set_option maxHeartbeats 8000000
namespace Go.Abs
open Go Go.Proofs Go.RowKit Go.Lib
def F124.c:SC:=
 (.seq
 (.reg [oq 4 (.alloc 145) 0 [],
 sb 5 false 4 [5]])
 (.seq
 (.reg [mv 12 0 130 [],
 mv 13 1 3 [],
 oq 14 (.call ⟨.value (.func 125),#[.tmp 12,.tmp 13,.const (.int .i64 0)],#[130,3,3]⟩) 126 [12,13],
 oq 6 (.alloc 126) 0 [],
 ⟨none,.store 126 (.tmp 6) (.tmp 14),0,none,[14]⟩])
 (.seq
 (.reg [ld 15 126 6 [],
 cf1 16 126 15 126 3 [15],
 sg 7 16 3 [16]])
 (.seq
 (.reg [oq 17 (.indexAddr 126 (.tmp 6) (.const (.int .i64 4))) 0 [],
 ld 18 5 17 [17],
 oq 19 (.convert 5 3 (.tmp 18)) 3 [18],
 oq 20 (.binOp .shl 3 (.tmp 19) (.const (.int .u64 8)) 211) 3 [19],
 oq 21 (.indexAddr 126 (.tmp 6) (.const (.int .i64 5))) 0 [],
 ld 22 5 21 [21],
 oq 23 (.convert 5 3 (.tmp 22)) 3 [22],
 b2 24 .or 3 20 23 3 3 [20,23],
 sg 8 24 3 [24]])
 (.seq
 (.seq
 (.dreg [mv 25 7 3 [],
 bn 26 .eql 3 25 0 3 4 [],
 mv 27 26 4 [],
 og 28 (.load 126 (.tmp 6)) 126 27 false [],
 og 29 (.move (.tmp 7)) 3 27 false [],
 og 30 (.move (.tmp 8)) 3 27 false [],
 og 31 (.call ⟨.value (.func 101),#[.tmp 29,.tmp 30],#[3,3]⟩) 126 27 false [],
 og 32 (.binOp .neq 126 (.tmp 28) (.tmp 31) 126) 4 27 false [],
 oq 33 (.pick (.tmp 27) (.const (.bool true)) (.tmp 32)) 4 []] [[],[0],[0,1],[0,1,2],[0,1,2],[0,1,2],[0,1,2,4,5],[0,1,2,3,4,5,6],[0,1,2,3,4,5,6,7]] [6,25,26,27,28,29,30,31,32])
 (.cond (.tmp 33)
 (.seq
 (.reg [oq 34 (.build 145 #[]) 145 [],
 ⟨none,.store 145 (.tmp 4) (.tmp 34),0,none,[34]⟩,
 sb 5 false 4 []])
 .ret)
 .skip))
 (.seq
 (.reg [mv 35 0 130 [],
 mv 36 1 3 [],
 mv 37 7 3 [7],
 oq 38 (.build 145 #[(0,.tmp 35),(1,.tmp 36),(2,.tmp 37),(3,.const (.int .i64 1))]) 145 [35,36,37],
 oq 9 (.alloc 145) 0 [],
 ⟨none,.store 145 (.tmp 9) (.tmp 38),0,none,[38]⟩])
 (.seq
 (.seq
 (.reg [mv 39 0 130 [0],
 mv 40 1 3 [1],
 cf2 41 147 39 40 130 3 224 [39,40]])
 (.block 0
 .other))
 (.seq
 (.dreg [ld 58 145 9 [],
 fa 59 145 9 5 [],
 ld 60 3 59 [],
 mv 61 8 3 [],
 b2 62 .geq 3 60 61 3 4 [],
 ⟨none,.store 145 (.tmp 4) (.tmp 58),0,none,[]⟩,
 sg 5 62 4 []] [[],[],[1],[],[1,2,3],[0],[1,2,3,4,0,5]] [8,9,58,59,60,61,62])
 .ret))))))))
theorem F124.rs:Try.f124.results.toList=[.cell 4 145,.tmp 5]:=rfl
def F124.o0:SC:=F124.c.fst

def F124.o1:SC:=F124.c.snd.fst

def F124.o2:SC:=F124.c.snd.snd.fst

def F124.o3:SC:=F124.c.snd.snd.snd.fst

def F124.o4:SC:=F124.c.snd.snd.snd.snd.fst

def F124.o5:SC:=F124.c.snd.snd.snd.snd.snd.fst

def F124.o6:SC:=F124.c.snd.snd.snd.snd.snd.snd.fst.fst

def F124.o7:SC:=F124.c.snd.snd.snd.snd.snd.snd.snd

def Zee (x3 x4:Int):Int:=bOr .i64 (w64 ((w64 x3)*2 ^ 8)) (w64 x4)
def ZgY:book_journal:=⟨none,0,0,0,(⟨[]⟩:Book),0⟩
def Zkv (d:book_disk) (area e:Int):book_journal:=⟨some d,area,e,1,⟨[]⟩,0⟩
def Zdy (k:Nat) (J:book_journal) (x:Record×Int):Option book_journal:=
 (Zc6 k J.book x.1).bind fun b=>some ⟨J.disk,J.area,J.epoch,x.2,b.1,w64 (J.records+1)⟩
def Zch (k:Nat):book_journal→List (Record×Int)→Option book_journal
 |J,[]=>some J
 |J,x::l=>(Zdy k J x).bind fun J=>Zch k J l
def Zbk (k:Nat) (d0:book_disk) (area1:Int):Option (book_journal×Bool):=
 (ZaU k d0 area1 0).bind fun x1=>
 (Zbd k x1).bind fun x2=>
 (x1.at? 4).bind fun x3=>
 (x1.at? 5).bind fun x4=>
 bif (!decide (x2=(0:Int))) then
  (Zf1 k x2 (bOr .i64 (w64 ((w64 x3)*2 ^ 8)) (w64 x4))).bind fun x6=>
  bif (!(Vec.eq (fun(x y:Int)=>decide (x=y)) x1 x6)) then
   some (ZgY,false)
  else
   (Zbv k d0 area1).bind fun xs=>
   (Zch k (Zkv d0 area1 x2) xs).bind fun J=>
   some (J,decide (J.records≥Zee x3 x4))
 else
  some (ZgY,false)
noncomputable def ZvM (d:book_disk) (area e cnt:Int):St:=⟨[(4,.ptr 0 0 0),(8,.int .i64 cnt),(9,.ptr 0 1 0),(41,Zfv d area)],[(0,.box (book_journal.c ZgY)),(1,.box (book_journal.c (Zkv d area e)))],[],2,Try.f124.ntmps⟩
noncomputable def opE (L:Prop) (e:Exit) (st:St):Prop:=e=.ret∧L∧Zmn T Try.f124.results.toList (fun y=>NL y (.tup [.agg (book_journal.c ZgY),.bool false])) .ret st
noncomputable def opB (k:Nat) (d:book_disk) (area:Int) (r:book_journal×Bool) (st:St):Prop:=
 ∃ e x3 x4 xs J,Zbv k d area=some xs∧Zch k (Zkv d area e) xs=some J∧r=(J,decide (J.records≥Zee x3 x4))∧ZaE Try.f124.ntmps st (ZvM d area e (Zee x3 x4))
theorem ZsR (k:Nat) (d:book_disk) (area:Int) (r:book_journal×Bool) (h0:Zbk k d area=some r):
  AK Try.prog Try.f124.ntmps (opE (r=(ZgY,false))) [.sc F124.o0,.sc F124.o1,.sc F124.o2,.sc F124.o3,.sc F124.o4,.sc F124.o5,.sc F124.o6,.back (opB k d area r)] (St.enter [.rptr 2 [book_disk.c d] 0 0,.int .i64 area] [] Try.f124.ntmps):=by
 refine Zae Za9 1000 _ _ ?_
 simp only[Zbk]at h0
 simp only[F124.o0,F124.o1,F124.o2,F124.o3,F124.o4,F124.o5,F124.o6,F124.c,SC.fst,SC.snd,go_sem]
 obtain⟨x1,yx1,h0⟩:=bind_some h0
 refine Zba Za9 1000 (Zbu k _ _ _ _ yx1) ?_ (by first|rfl|simp[AV.refsL,AV.refs,AV.scal,AV.leaf]) ?_
 ·try simp only[go_sem]
 try simp only[go_sem]
 obtain⟨x2,yx2,h0⟩:=bind_some h0
 refine Zba Za9 1000 (Zcc k _ _ yx2) ?_ (by first|rfl|simp[AV.refsL,AV.refs,AV.scal,AV.leaf]) ?_
 ·try simp only[go_sem]
 try simp only[go_sem]
 obtain⟨x3,yx3,h0⟩:=bind_some h0
 have uyx3:=UpdE.at (fun q_=>(Zaw.len q_:(eU8 q_).length=1)) (UpdE.self (fun q_=>((VK.vec Zaw 32).len q_:(Vec.c (n:=32) eU8 q_).length=32)) x1) yx3
 have buyx3:=uyx3.bound (fun q_=>(Zaw.len q_:(eU8 q_).length=1))
 have guyx3:=uyx3.get (fun q_=>(Zaw.len q_:(eU8 q_).length=1))
 try simp only[List.length_cons,List.length_nil,go_sem]at buyx3 guyx3
 try simp only[Zaa yx3,buyx3,guyx3,(@id (min (Int.toNat 8) 64=8) rfl),go_sem]
 obtain⟨x4,yx4,h0⟩:=bind_some h0
 have uyx4:=UpdE.at (fun q_=>(Zaw.len q_:(eU8 q_).length=1)) (UpdE.self (fun q_=>((VK.vec Zaw 32).len q_:(Vec.c (n:=32) eU8 q_).length=32)) x1) yx4
 have buyx4:=uyx4.bound (fun q_=>(Zaw.len q_:(eU8 q_).length=1))
 have guyx4:=uyx4.get (fun q_=>(Zaw.len q_:(eU8 q_).length=1))
 try simp only[List.length_cons,List.length_nil,go_sem]at buyx4 guyx4
 try simp only[Zaa yx4,buyx4,guyx4,Zaa yx3,buyx3,guyx3,go_sem]
 refine Zas Za9 Zat 1000 ?_
 try simp only[Zaa yx3,buyx3,guyx3,Zaa yx4,buyx4,guyx4,go_sem]
 refine ZgC h0 (fun c5 h0=>?_) (fun c5 h0=>?_)
 ·have c5:=ZaB c5
  try simp only[c5,Zaa yx3,buyx3,guyx3,Zaa yx4,buyx4,guyx4,go_sem]
  obtain⟨x6,yx6,h0⟩:=bind_some h0
  refine ZaC 1000 (ZhA k _ _ _ yx6) ?_ (by first|rfl|simp[AV.refsL,AV.refs,AV.scal,AV.leaf]) ?_
  ·try simp only[Zaa yx3,buyx3,guyx3,Zaa yx4,buyx4,guyx4,c5,go_sem]
  try simp only[Zaa yx3,buyx3,guyx3,Zaa yx4,buyx4,guyx4,c5,go_sem]
  refine Za4 ⟨Za3 (by simp only[ZcE,List.reverse_cons,List.reverse_nil,List.nil_append,List.cons_append,List.map_cons,List.map_nil,List.append_nil];rfl) (by first|decide +kernel|rfl),Zae Za9 1000 _ _ ?_⟩
  try simp only[Zaa yx3,buyx3,guyx3,Zaa yx4,buyx4,guyx4,c5,go_sem]
  refine Zab h0 (fun c7 h0=>?_) (fun c7 h0=>?_)
  ·have c7:=ZaB c7
   try simp only[c7,Zaa yx3,buyx3,guyx3,Zaa yx4,buyx4,guyx4,c5,go_sem]
   obtain rfl:=oi h0
   refine⟨rfl,rfl,Zac (P:=Try.prog) (n:=Try.f124.ntmps) rfl ?_⟩
   try simp only[F124.rs,ZgY,Zaa yx3,buyx3,guyx3,Zaa yx4,buyx4,guyx4,c5,c7,go_sem]
  ·have c7:=ZaA c7
   try simp only[c7,Zaa yx3,buyx3,guyx3,Zaa yx4,buyx4,guyx4,c5,go_sem]
   obtain⟨xs,yxs,h0⟩:=bind_some h0
   obtain⟨J,yJ,h0⟩:=bind_some h0
   obtain rfl:=oi h0
   refine Zba Za9 1000 (Zh1 d area) ?_ (by first|rfl|simp[AV.refsL,AV.refs,AV.scal,AV.leaf]) ?_
   ·try simp only[go_sem]
   try simp only[Zfv,go_sem]
   refine Zaf ⟨x2,x3,x4,xs,J,yxs,yJ,rfl,?_⟩
   refine(ZaE.fz 1 rfl (fun _ h=>by cases h)).trans ?_
   simp only[go_sem]
   refine(ZaE.fz 528 rfl (fun _ h=>by cases h)).trans ?_
   simp only[go_sem]
   refine ZaE.go [4,8,9,41] [0,512] rfl ?_
   simp only[Zfv,Zee,ZgY,Zkv,go_sem]
 ·have c5:=ZaA c5
  try simp only[c5,Zaa yx3,buyx3,guyx3,Zaa yx4,buyx4,guyx4,go_sem]
  refine Za4 ⟨Za3 (by simp only[ZcE,List.reverse_cons,List.reverse_nil,List.nil_append,List.cons_append,List.map_cons,List.map_nil,List.append_nil];rfl) (by first|decide +kernel|rfl),Zae Za9 1000 _ _ ?_⟩
  try simp only[Zaa yx3,buyx3,guyx3,Zaa yx4,buyx4,guyx4,c5,go_sem]
  obtain rfl:=oi h0
  refine⟨rfl,rfl,Zac (P:=Try.prog) (n:=Try.f124.ntmps) rfl ?_⟩
  try simp only[F124.rs,ZgY,Zaa yx3,buyx3,guyx3,Zaa yx4,buyx4,guyx4,c5,go_sem]
def F124.oa:SC:=.seq (.reg [oq 10 (.alloc 25) 0 [],⟨none,.store 25 (.tmp 10) (.tmp 42),0,none,[42]⟩]) (.reg [sg 11 43 3 [43]])

def F124.ob:SC:=.block 1 (.seq (.reg [fa 45 145 9 4 [],ld 46 46 45 [45],ld 47 25 10 [],cf2 48 71 46 47 46 25 73 [46,47],
 mv 44 48 73 [48],xt 49 44 0 46 [],xt 50 44 1 28 [44,50],fa 51 145 9 4 [],⟨none,.store 46 (.tmp 51) (.tmp 49),0,none,[49,51]⟩])
 (.seq (.reg [mv 52 11 3 [11],fa 53 145 9 3 [],⟨none,.store 3 (.tmp 53) (.tmp 52),0,none,[52,53]⟩])
 (.reg [fa 54 145 9 5 [],ld 55 3 54 [54],bn 56 .add 3 55 1 3 3 [55],fa 57 145 9 5 [],⟨none,.store 3 (.tmp 57) (.tmp 56),0,none,[56,57]⟩])))
noncomputable def opC (J:book_journal):Fra:=[(0,.box (book_journal.c ZgY)),(1,.box (book_journal.c J))]
noncomputable def opS (x:Record×Int) (f:Fra) (J:book_journal):St:=⟨[(9,.ptr 2 1 0),(42,.agg (Record.c x.1)),(43,.int .i64 x.2)],[],[f,opC J],0,Try.f124.ntmps⟩
noncomputable def opA (x:Record×Int) (f:Fra) (J:book_journal):St:=⟨[(9,.ptr 2 1 0),(10,.ptr 0 0 0),(11,.int .i64 x.2)],[(0,.box (Record.c x.1))],[f,opC J],1,Try.f124.ntmps⟩
noncomputable def opN (f:Fra) (J:book_journal):St:=⟨[],[],[f,opC J],0,Try.f124.ntmps⟩
noncomputable def opR (J:book_journal) (cnt:Int):St:=⟨[(4,.ptr 0 0 0),(8,.int .i64 cnt),(9,.ptr 0 1 0)],opC J,[],2,Try.f124.ntmps⟩
theorem Zon [Md] (x:Record×Int) (f:Fra) (J:book_journal) (Φ:Exit→St→Prop):AK Try.prog Try.f124.ntmps Φ [.sc F124.oa,.back (fun st=>ZaE Try.f124.ntmps st (opA x f J))] (opS x f J):=by
 refine Zae Za9 1000 _ _ ?_
 simp only[F124.oa,opS,opC,ZgY,go_sem]
 show ZaE Try.f124.ntmps _ (opA x f J)
 refine ZaE.go [9,10,11] [0] rfl ?_
 simp only[opC,ZgY,go_sem]
theorem Zs1 [Md] (k:Nat) (x:Record×Int) (f:Fra) (J J':book_journal) (h0:Zdy k J x=some J') (Φ:Exit→St→Prop):AK Try.prog Try.f124.ntmps Φ [.sc F124.ob,.back (fun st=>ZaE Try.f124.ntmps st (opN f J'))] (opA x f J):=by
 refine Zae Za9 1000 _ _ ?_
 simp only[Zdy]at h0
 obtain⟨b,yb,h0⟩:=bind_some h0
 obtain rfl:=oi h0
 simp only[F124.ob,opA,opC,ZgY,go_sem]
 refine Zba Za9 1000 (ZeN k J.book x.1 b yb) ?_ (by first|rfl|simp[AV.refsL,AV.refs,AV.scal,AV.leaf]) ?_
 ·simp only[go_sem]
 simp only[go_sem]
 show ZaE Try.f124.ntmps _ (opN f _)
 refine ZaE.go [] [] rfl ?_
 simp only[opC,ZgY,go_sem]
theorem Zsv [Md] (J:book_journal) (cnt:Int):AK Try.prog Try.f124.ntmps (fun e st=>e=.ret∧Zmn T Try.f124.results.toList (fun y=>NL y (.tup [.agg (book_journal.c J),.bool (decide (J.records≥cnt))])) .ret st) [.sc F124.o7] (opR J cnt):=by
 refine Zae Za9 1000 _ _ ?_
 simp only[F124.o7,F124.c,opR,opC,ZgY,SC.snd,go_sem]
 refine Zas Za9 Zat 1000 ?_
 simp only[go_sem]
 refine Za4 ⟨Za3 (by simp only[ZcE,List.reverse_cons,List.reverse_nil,List.nil_append,List.cons_append,List.map_cons,List.map_nil,List.append_nil];rfl) (by first|decide +kernel|rfl),Zae Za9 1000 _ _ ?_⟩
 simp only[go_sem]
 refine⟨rfl,Zac (P:=Try.prog) (n:=Try.f124.ntmps) rfl ?_⟩
 simp only[F124.rs,go_sem]
noncomputable def Zg2:Code:=Try.f124.body.getD .skip
noncomputable def Zm1:Code:=ZpS (ZaH (Zds (ZaH (ZaH (ZaH (ZaH (ZaH (ZaH Zg2))))))))
def ZtV:Code→Code
 |.rangeFunc _ _ a _=>a
 |x=>x
def Zu7:Code→Code
 |.rangeFunc _ _ _ b=>b
 |x=>x
theorem Zh7 {k:Nat}{x:Record×Int}:∀ {J:book_journal}{l:List (Record×Int)},Zch k J (l++[x])=(Zch k J l).bind fun J=>Zdy k J x
 |J,[]=>by simp only[List.nil_append,Zch,Option.bind_some];cases Zdy k J x<;>rfl
 |J,y::l=>by
  simp only[List.cons_append,Zch]
  cases Zdy k J y with
  |none=>rfl
  |some J'=>simp only[Option.bind_some];exact Zh7
theorem Zid {k:Nat}:∀ {J:book_journal}{l m:List (Record×Int)}{Z:book_journal},Zch k J (l++m)=some Z→∃ J',Zch k J l=some J'
 |J,[],m,Z,h=>⟨J,rfl⟩
 |J,y::l,m,Z,h=>by
  simp only[List.cons_append,Zch]at h ⊢
  obtain⟨J',h1,h2⟩:=bind_some h
  rw[h1]
  exact Zid h2
noncomputable def ZtH (k:Nat) (J0:book_journal) (pre:List (Record×Int)):Fra:=opC ((Zch k J0 pre).getD J0)
noncomputable def Zhg (a:Act) (D:Nat) (fn:FuncId) (s:LoopState) (p:Option Code):Loop:={ state:=s,pending:=p,fn,tmps:=a.tmps,params:=#[42,43],assign:=ZtV Zm1,body:=Zu7 Zm1,defers:=D }
theorem Zvu [Md] {Q:Exit→Act→World→Prop}{N0:Nat}{W1:World}{fm:FM}{ts:List Tie}{a:Act}{w:World}{x:Record×Int}{f:Fra}{J:book_journal} (hS:SR N0 W1 Try.f124.ntmps (opS x f J) a w fm ts)
  (hn:∀ a' w' fm' ts',SR N0 W1 Try.f124.ntmps (opA x f J) a' w' fm' ts'→Later N0 fm ts fm' ts'→Q .normal a' w'):(ZtV Zm1).wpIn FW 0 Try.prog Q a w:=by
 refine(show K Try.prog Q ([.code (ZtV Zm1)]++[]) .normal a w from ?_)
 refine AK.segs (Φ:=fun _ _=>False) (todo:=[.sc F124.oa]) hS (Zon x f J _) (fun R hR=>.sc (by rfl) (by rfl) (.back hR .nil)) ?_ (fun _ _ _ _ _ _ h=>h.elim)
 intro st' a' w' fm' ts' hw hS' hL
 obtain⟨fm2,ts2,h1,h2⟩:=hw _ _ _ _ _ _ hS'
 exact hn _ _ _ _ h1 (hL.trans h2)
theorem ZvG [Md] (k:Nat) {Q:Exit→Act→World→Prop}{N0:Nat}{W1:World}{fm:FM}{ts:List Tie}{a:Act}{w:World}{x:Record×Int}{f:Fra}{J J':book_journal} (h0:Zdy k J x=some J') (hS:SR N0 W1 Try.f124.ntmps (opA x f J) a w fm ts)
  (hn:∀ a' w' fm' ts',SR N0 W1 Try.f124.ntmps (opN f J') a' w' fm' ts'→Later N0 fm ts fm' ts'→Q .normal a' w'):(Zu7 Zm1).wpIn FW 0 Try.prog Q a w:=by
 refine(show K Try.prog Q ([.code (Zu7 Zm1)]++[]) .normal a w from ?_)
 refine AK.segs (Φ:=fun _ _=>False) (todo:=[.sc F124.ob]) hS (Zs1 k x f J J' h0 _) (fun R hR=>.sc (by rfl) (by rfl) (.back hR .nil)) ?_ (fun _ _ _ _ _ _ h=>h.elim)
 intro st' a' w' fm' ts' hw hS' hL
 obtain⟨fm2,ts2,h1,h2⟩:=hw _ _ _ _ _ _ hS'
 exact hn _ _ _ _ h1 (hL.trans h2)
theorem ZgA {N0 l:Nat}{W:World}{o o':Obj} (hN:N0≤l) (h:W.heap[l]?=some o):Below N0 W (W.putObj l o'):=
 (Below.refl N0 W).grown (grownBy_putObj' W l o') (by have:=(Array.getElem?_eq_some_iff.1 h).1;omega) (fun k e=>by cases e;omega)
theorem Zvl (k:Nat) (J0:book_journal) (xs:List (Record×Int)) (Z:book_journal) (hZ:Zch k J0 xs=some Z) {N0:Nat}{W1:World}{l D:Nat}{fn:FuncId}{tc:Tie}{a:Act}{c9:Nat} (hN:N0≤l) (hsz:a.tmps.size=Try.f124.ntmps)
  (hl:W1.heap[l]?=some (.loop (Zhg a D fn .ready none))) (h9:tc 1=some (.box c9)) (ha:a.tmps[9]?=some (.pointer (some ⟨c9,0,none⟩))):YC N0 W1 l tc (ZtH k J0) xs:=by
 intro pre x hpx f fm ts w vs hr hts hvs
 obtain⟨suf,hsuf⟩:=hpx
 obtain⟨J',hJ'⟩:=Zid (l:=pre++[x]) (m:=suf) (by rw[hsuf];exact hZ)
 have hJ2:=hJ'
 rw[Zh7]at hJ2
 obtain⟨J,hJ,hst⟩:=bind_some hJ2
 have hlw:=hr.oth l _ hl rfl
 have hnt:Try.f124.ntmps=63:=by rfl
 obtain⟨v0,v1,rfl⟩:∃ v0 v1,vs=[v0,v1]:=by
  have:=hvs.1
  match vs,this with
  |[v0,v1],_=>exact⟨v0,v1,rfl⟩
 have hy:=run_yield (P:=Try.prog) (args:=#[v0,v1]) hlw (by rfl)
 refine⟨_,_,_,_,hy,?_⟩
 have hr':HR N0 W1 fm ts [f,opC J] w:=by
  have h:=hr
  unfold ZtH at h
  rw[hJ]at h
  exact h
 have hSS:@SR ⟨some l,[]⟩ N0 W1 Try.f124.ntmps (opS x f J) { tmps:=(a.tmps.setIfInBounds 42 v0).setIfInBounds 43 v1,defers:=[] } w fm (Zci::ts):=by
  refine @SR.mk ⟨some l,[]⟩ _ _ _ _ _ _ _ _ hr'.push ?_ (fun _ _=>rfl) (by simp[hsz]) rfl
  intro t y hy
  unfold opS at hy
  simp only[look]at hy
  split at hy
  ·subst_vars
   obtain rfl:=oi hy
   refine⟨_,by rw[Array.getElem?_setIfInBounds,if_neg (by decide),Array.getElem?_setIfInBounds,if_neg (by decide)];exact ha,.ptr 2 1 0 c9 ?_⟩
   have h1:=hts 0 1
   have h2:tb (ts.drop 1) 0 1=some (.box c9):=h1.box h9
   rw[Zbl]at h2
   exact h2
  ·split at hy
   ·subst_vars
    obtain rfl:=oi hy
    refine⟨v0,by rw[Array.getElem?_setIfInBounds,if_neg (by decide),Array.getElem?_setIfInBounds,if_pos rfl,if_pos (by rw[hsz,hnt];decide)],?_⟩
    have:=hvs.2 0 _ v0 rfl rfl
    have h3:VR fm [] (.agg (Record.c x.1)) v0:=(hr.bareL (VRs.one this) (ys:=[.agg (Record.c x.1)]) (by simp only[AV.frzL,AV.frz,(Zk2.ice x.1).frz,Option.map_some])).2 0 _ _ rfl rfl
    exact h3.mono (Zdw.refl _) (ZaS.nil _)
   ·split at hy
    ·subst_vars
     obtain rfl:=oi hy
     refine⟨v1,by rw[Array.getElem?_setIfInBounds,if_pos rfl,if_pos (by rw[Array.size_setIfInBounds,hsz,hnt];decide)],?_⟩
     have:=hvs.2 1 _ v1 rfl rfl
     have h3:VR fm [] (.int .i64 x.2) v1:=(hr.bareL (VRs.one this) (ys:=[.int .i64 x.2]) rfl).2 0 _ _ rfl rfl
     exact h3.mono (Zdw.refl _) (ZaS.nil _)
    ·cases hy
 refine roundIn_of_wpIn trivial ?_
 have hfold:(((Zhg a D fn .ready none).params.zip #[v0,v1]).foldl (fun tmps (x:Tmp×Value)=>match x with|(t,a)=>tmps.setIfInBounds t a) (Zhg a D fn .ready none).tmps)=(a.tmps.setIfInBounds 42 v0).setIfInBounds 43 v1:=by
  simp[Zhg]
 rw[hfold]
 refine @Zvu ⟨some l,[]⟩ _ _ _ _ _ _ _ x f J hSS ?_
 intro a1 w1 fm1 ts1 hS1 hL1
 obtain⟨g1,g2,g3,g4,g5⟩:=hS1
 have hl1:=g1.oth l _ hl rfl
 refine⟨_,run_beginRound hl1 rfl,?_⟩
 have hS1':@SR ⟨some l,[]⟩ N0 (w1.putObj l (.loop { Zhg a D fn .ready none with state:=.busy })) Try.f124.ntmps (opA x f J) a1 (w1.putObj l (.loop { Zhg a D fn .ready none with state:=.busy })) fm1 ts1:=
  @SR.mk ⟨some l,[]⟩ _ _ _ _ _ _ _ _ (g1.other hl1 rfl hN) g2 g3 g4 g5
 refine @ZvG ⟨some l,[]⟩ k _ _ _ _ _ _ _ x f J J' hst hS1' ?_
 intro a2 w2 fm2 ts2 hS2 hL2
 obtain⟨k1,k2,k3,k4,k5⟩:=hS2
 have hlt:=(Array.getElem?_eq_some_iff.1 hl1).1
 have hl2:=k1.oth l (.loop { Zhg a D fn .ready none with state:=.busy }) (World.putObj_heap_same hlt) rfl
 refine⟨_,_,run_endRound none hl2,rfl,fm2,ts2.drop 1,?_,hL1.fle.trans hL2.fle,?_,?_⟩
 ·have k6:=k1.other (o':=.loop { Zhg a D fn .ready none with state:=.ready,pending:=none }) hl2 rfl hN
  cases ts2 with
  |nil=>have:=k6.len;simp at this
  |cons t0 rest=>
   have k7:=k6.pop
   have hbel:Below N0 W1 (w2.putObj l (.loop { Zhg a D fn .ready none with state:=.ready,pending:=none })):=
    ((g1.bel.trans (ZgA hN hl1)).trans k1.bel).trans (ZgA hN hl2)
   have hoth:∀ (b:Nat) (o:Obj),W1.heap[b]?=some o→ZuY o=true→(w2.putObj l (.loop { Zhg a D fn .ready none with state:=.ready,pending:=none })).heap[b]?=some o:=by
    intro b o hb ho
    by_cases hbl:b=l
    ·subst hbl
     rw[hl]at hb
     obtain rfl:=oi hb
     exact World.putObj_heap_same (Array.getElem?_eq_some_iff.1 hl2).1
    ·rw[World.putObj_heap_other (by omega)]
     refine k1.oth b o ?_ ho
     rw[World.putObj_heap_other (by omega)]
     exact g1.oth b o hb ho
   have k8:HR N0 W1 fm2 rest [f,opC J'] (w2.putObj l (.loop { Zhg a D fn .ready none with state:=.ready,pending:=none })):={ k7 with bel:=hbel,oth:=hoth }
   unfold ZtH
   rw[hJ']
   exact k8
 ·have h:=hL1.tle.trans hL2.tle
  simpa using h
 ·intro l' k' h
  exact hL2.no l' k' (hL1.no l' k' (by simpa using h))
theorem Zev (k:Nat) (d0:book_disk) (area1:Int) (r:book_journal×Bool) (h0:Zbk k d0 area1=some r):Za6 Try.prog 124 [.rptr 2 [book_disk.c d0] 0 0,.int .i64 area1] (fun y=>y=.tup [.agg (book_journal.c r.1),.bool r.2]):=by
 refine⟨⟨Try.f124,by rfl,by rfl,by rfl⟩,fun fm w vs hin hv=>?_⟩
 have hnt:Try.f124.ntmps=63:=by rfl
 refine callsIn_wide.1 (callsIn_of_wp_marks (F:=FW) (n:=0) (fn:=Try.f124) (c:=Zg2) (by rfl) (by rfl) trivial ?_)
 have hS:=SR.enter (HR.nothing hin) (vs:=vs) (args:=[.rptr 2 [book_disk.c d0] 0 0,.int .i64 area1]) (n:=Try.f124.ntmps) ⟨hv.1,fun i x v p q=>(hv.2 i x v p q).mono (Zdw.refl _) (ZaS.nil _)⟩ (by rw[hnt];simp)
 have e124:Zg2=.seq (Zds Zg2) (.seq (Zds (ZaH Zg2)) (.seq (Zds (ZaH (ZaH Zg2))) (.seq (Zds (ZaH (ZaH (ZaH Zg2)))) (.seq (Zds (ZaH (ZaH (ZaH (ZaH Zg2))))) (.seq (Zds (ZaH (ZaH (ZaH (ZaH (ZaH Zg2)))))) (.seq (.seq (Zds (Zds (ZaH (ZaH (ZaH (ZaH (ZaH (ZaH Zg2)))))))) (.block 0 Zm1)) (ZaH (ZaH (ZaH (ZaH (ZaH (ZaH (ZaH Zg2))))))))))))):=by rfl
 refine(show K Try.prog _ [.code Zg2] .normal _ w from ?_)
 rw[e124]
 refine ZkO ?_
 refine ZcX (t:=[.code (Zds (ZaH Zg2)),.code (Zds (ZaH (ZaH Zg2))),.code (Zds (ZaH (ZaH (ZaH Zg2)))),.code (Zds (ZaH (ZaH (ZaH (ZaH Zg2))))),.code (Zds (ZaH (ZaH (ZaH (ZaH (ZaH Zg2)))))),.code (Zds (Zds (ZaH (ZaH (ZaH (ZaH (ZaH (ZaH Zg2)))))))),.code (.block 0 Zm1),.code (ZaH (ZaH (ZaH (ZaH (ZaH (ZaH (ZaH Zg2)))))))])
  (fun e a w h=>ZdK _ _ _ (ZcX (fun e a w h=>ZdK _ _ _ (ZcX (fun e a w h=>ZdK _ _ _ (ZcX (fun e a w h=>ZdK _ _ _ (ZcX (fun e a w h=>ZdK _ _ _ (ZcX (fun e a w h=>ZdK _ _ _ (ZdK _ _ _ h)) _ _ _ h)) _ _ _ h)) _ _ _ h)) _ _ _ h)) _ _ _ h)) _ _ _ ?_
 refine AK.segs (cs:=[.code (Zds Zg2),.code (Zds (ZaH Zg2)),.code (Zds (ZaH (ZaH Zg2))),.code (Zds (ZaH (ZaH (ZaH Zg2)))),.code (Zds (ZaH (ZaH (ZaH (ZaH Zg2))))),.code (Zds (ZaH (ZaH (ZaH (ZaH (ZaH Zg2)))))),.code (Zds (Zds (ZaH (ZaH (ZaH (ZaH (ZaH (ZaH Zg2))))))))])
  (t:=[.code (.block 0 Zm1),.code (ZaH (ZaH (ZaH (ZaH (ZaH (ZaH (ZaH Zg2)))))))]) (todo:=[.sc F124.o0,.sc F124.o1,.sc F124.o2,.sc F124.o3,.sc F124.o4,.sc F124.o5,.sc F124.o6]) hS (ZsR k d0 area1 r h0)
  (fun R hR=>.sc (by rfl) (by rfl) (.sc (by rfl) (by rfl) (.sc (by rfl) (by rfl) (.sc (by rfl) (by rfl) (.sc (by rfl) (by rfl) (.sc (by rfl) (by rfl) (.sc (by rfl) (by rfl) (.back hR .nil)))))))) ?_ ?_
 rotate_left
 ·
  rintro e st a w2 fm2 ts2 ⟨rfl,rfl,hE⟩ hS2 hL2
  refine Zdn ?_ _
  obtain⟨u,fm3,h1,h2,h3,h4⟩:=ZrK (P:=Try.prog) Za9 hS2 hE
  show LeavesInM FW 0 Try.prog Try.f124 a.tmps _ a.defers .returning w2
  rw[hS2.dfr]
  exact⟨u,h1,u,_,fm3,rfl,rfl,h3,h2,hL2.fle.trans h4,hS2.hr.bel⟩
 ·rintro st0 a0 w0 fm0 ts0 ⟨e,x3,x4,xs,J,hxs,hJ,rfl,hw⟩ hS0 hL0
  obtain⟨fm1,ts1,hS1,hL1⟩:=hw _ _ _ _ _ _ hS0
  have hL01:=hL0.trans hL1
  obtain⟨tc,rfl⟩:∃ tc,ts1=[tc]:=by
   have:=hS1.hr.len
   match ts1,this with
   |[tc],_=>exact⟨tc,rfl⟩
  refine Zke ?_
  have e2:Zm1=.rangeFunc (.tmp 41) #[42,43] (ZtV Zm1) (Zu7 Zm1):=by rfl
  rw[e2]
  refine(show (Code.rangeFunc (.tmp 41) #[42,43] (ZtV Zm1) (Zu7 Zm1)).wpIn FW 0 Try.prog (K Try.prog _ [.blk 0,.code (ZaH (ZaH (ZaH (ZaH (ZaH (ZaH (ZaH Zg2)))))))]) a0 w0 from ?_)
  refine wpIn_rangeFunc ?_
  intro fn _
  obtain⟨v41,h41,r41⟩:=hS1.tm 41 (Zfv d0 area1) rfl
  obtain⟨p9,h9,r9⟩:=hS1.tm 9 (.ptr 0 1 0) rfl
  obtain⟨c9,rfl,hc9⟩:∃ c9,p9=.pointer (some ⟨c9,0,none⟩)∧tc 1=some (.box c9):=by
   cases r9 with
   |ptr _ _ _ c h=>exact⟨c,rfl,h⟩
  obtain⟨vd,va,rfl,hd,ha⟩:∃ vd va,v41=.func (.func 153) #[] #[vd,va]∧VR fm1 [] (.rptr 1 [[.rptr 2 [book_disk.c d0] 0 0]] 0 0) vd∧VR fm1 [] (.rptr 1 [[.int .i64 area1]] 0 0) va:=by
   have hb:VR fm1 [] (Zfv d0 area1) v41:=(hS1.hr.bareL (VRs.one r41) (ys:=[Zfv d0 area1]) (by simp only[Zfv,AV.frzL,AV.frz])).2 0 _ _ rfl rfl
   unfold Zfv at hb
   cases hb with
   |fn f first cap vf vc h1 h2 h3 h4=>
    have e1:vf=#[]:=Array.size_eq_zero_iff.1 (by simpa using h1.symm)
    obtain⟨l,rfl⟩:∃ l,vc=l.toArray:=⟨vc.toList,by simp⟩
    match l,h2,h4 with
    |[vd,va],h2,h4=>exact⟨vd,va,by rw[e1],h4 0 _ vd rfl rfl,h4 1 _ va rfl rfl⟩
  have hN1:w.heap.size≤w0.heap.size:=hS1.hr.size
  obtain⟨rec,hrec⟩:∃ rec,rec=Zhg a0 w0.heap.size fn .ready none:=⟨_,rfl⟩
  obtain⟨W1,hW1⟩:∃ W1,W1=(w0.alloc (.deferred (some []))).alloc (.loop rec):=⟨_,rfl⟩
  have hl:W1.heap[w0.heap.size+1]?=some (.loop rec):=by
   rw[hW1];have:=World.alloc_heap_new (w0.alloc (.deferred (some []))) (.loop rec);rwa [World.size_alloc]at this
  have hD:W1.heap[w0.heap.size]?=some (.deferred (some [])):=by
   rw[hW1];exact(Below.heap_alloc _ _ _ (by simp)).trans (World.alloc_heap_new w0 _)
  have hr1:HR w.heap.size W1 fm1 [tc] [ZtH k (Zkv d0 area1 e) []] W1:=by
   rw[hW1];exact((hS1.hr.alloc _).alloc _).rebase
  have hbW:Below w.heap.size w W1:=by
   rw[hW1];exact(hS1.hr.bel.alloc hN1 _).alloc (by simp;omega) _
  have hv41:a0.eval (.tmp 41)=.func (.func 153) #[] #[vd,va]:=by simp[Act.eval,Array.getD_eq_getD_getElem?,h41]
  refine⟨w0.heap.size+1,[{ target:=.collected w0.heap.size,args:=#[] }],W1,{ target:=.fn (.func 153) #[vd,va],args:=#[.func (.yield (w0.heap.size+1)) #[] #[]] },W1,153,
   #[.func (.yield (w0.heap.size+1)) #[] #[]]++#[vd,va],W1,?_,?_,?_,?_,(fun h=>by simp[FW]at h),?_⟩
  ·rw[hW1,hrec];exact run_enterLoop_outer _ _ _ _ _
  ·simp[resolve,Deferred.ofValue,Act.eval,h41]
  ·intro f' hf';trivial
  ·simp[invoke,callFunc];rfl
  refine callsIn_wide.2 ?_
  refine(Zv8 k d0 area1 xs hxs (Zvl k (Zkv d0 area1 e) xs J hJ (by omega) hS1.size (by rw[hl,hrec]) hc9 h9) hr1 hd ha).mono ?_
  rintro e3 w3 ⟨⟨v,rfl⟩,fm3,ts3,hr3,hup3,hts3,hno3⟩
  have hNl:w.heap.size≤w0.heap.size+1:=by omega
  have hl3:=hr3.oth _ _ hl rfl
  refine⟨_,_,run_endLoop hl3 (by rw[hrec];simp[Zhg]),?_⟩
  have hr4:=hr3.other (o':=.loop { rec with state:=.exhausted }) hl3 rfl hNl
  have hC:ZtH k (Zkv d0 area1 e) xs=opC J:=by unfold ZtH;rw[hJ];rfl
  rw[hC]at hr4
  have hD4:(w3.putObj (w0.heap.size+1) (.loop { rec with state:=.exhausted })).heap[w0.heap.size]?=some (.deferred (some [])):=by
   rw[World.putObj_heap_other (by omega)];exact hr3.oth _ _ hD rfl
  have hb4:Below w.heap.size w3 (w3.putObj (w0.heap.size+1) (.loop { rec with state:=.exhausted })):=ZgA hNl hl3
  generalize hw4:w3.putObj (w0.heap.size+1) (.loop { rec with state:=.exhausted })=w4 at hr4 hD4 hb4 ⊢
  have hpend:rec.pending=none:=by rw[hrec];rfl
  rw[hpend]
  refine(show K Try.prog _ [.code (ZaH (ZaH (ZaH (ZaH (ZaH (ZaH (ZaH Zg2)))))))] .normal _ w4 from ?_)
  have hSR:@SR ⟨none,[{ target:=.collected w0.heap.size,args:=#[] }]⟩ w.heap.size w4 Try.f124.ntmps (opR J (Zee x3 x4)) { a0 with defers:=[{ target:=.collected w0.heap.size,args:=#[] }]++a0.defers } w4 fm3 ts3:=by
   have hdf:=hS1.dfr
   refine @SR.mk ⟨none,[{ target:=.collected w0.heap.size,args:=#[] }]⟩ _ _ _ _ _ _ _ _ hr4 ?_ (fun k hk=>hno3 0 k (hS1.nx k hk)) hS1.size ?_
   ·intro t x hx
    have hx':look (ZvM d0 area1 e (Zee x3 x4)).tm t=some x:=ZiC (a:=(opR J (Zee x3 x4)).tm) [(41,Zfv d0 area1)] hx
    obtain⟨u,h1,h2⟩:=hS1.tm t x hx'
    exact⟨u,h1,h2.mono hup3.le hts3⟩
   ·show [_]++a0.defers=_
    rw[hdf];rfl
  rw[Zv5 md0 ⟨none,[{ target:=.collected w0.heap.size,args:=#[] }]⟩ rfl]
  refine @AK.last ⟨none,[{ target:=.collected w0.heap.size,args:=#[] }]⟩ _ _ _ _ _ _ _ _ _ _ (fun e st=>e=.ret∧Zmn T Try.f124.results.toList (fun y=>NL y (.tup [.agg (book_journal.c J),.bool (decide (J.records≥Zee x3 x4))])) .ret st) _ F124.o7 hSR
   (@Zsv ⟨none,[{ target:=.collected w0.heap.size,args:=#[] }]⟩ J (Zee x3 x4)) (by rfl) (by rfl) ?_
  rintro e5 st5 a5 w5 fm5 ts5 ⟨rfl,hE⟩ hS5 hL5
  obtain⟨s1,s2,s3,s4,s5⟩:=hS5
  have s5':a5.defers=[{ target:=.collected w0.heap.size,args:=#[] }]:=s5
  have hD5:=s1.oth _ _ hD4 rfl
  show LeavesInM FW 0 Try.prog Try.f124 a5.tmps _ a5.defers .returning w5
  rw[s5']
  refine⟨by simp,.inl ⟨w0.heap.size,_,rfl,run_takeDeferred hD5,?_⟩⟩
  have hS6:@SR md0 w.heap.size (w5.putObj w0.heap.size (.deferred none)) Try.f124.ntmps st5 { a5 with defers:=[] } (w5.putObj w0.heap.size (.deferred none)) fm5 ts5:=@SR.mk md0 _ _ _ _ _ _ _ _ (s1.other hD5 rfl hN1) s2 s3 s4 rfl
  obtain⟨u,fm6,h1,h2,h3,h4⟩:=ZrK (P:=Try.prog) Za9 hS6 hE
  exact⟨u,h1,u,_,fm6,rfl,rfl,h3,h2,((hL01.fle.trans hup3).trans hL5.fle).trans h4,(((hbW.trans hr3.bel).trans hb4).trans s1.bel).trans (ZgA hN1 hD5)⟩
def F80.c:SC:=
 (.seq
 (.reg [oq 2 (.alloc 145) 0 [],
 sb 3 false 4 [3]])
 (.seq
 (.reg [mv 9 0 130 [],
 oq 10 (.call ⟨.value (.func 124),#[.tmp 9,.const (.int .i64 0)],#[130,3]⟩) 146 [9],
 mv 8 10 146 [10],
 xt 11 8 0 145 [],
 xt 12 8 1 4 [8],
 oq 4 (.alloc 145) 0 [],
 ⟨none,.store 145 (.tmp 4) (.tmp 11),0,none,[11]⟩,
 sg 5 12 4 [12]])
 (.seq
 (.reg [mv 14 0 130 [0],
 oq 15 (.call ⟨.value (.func 124),#[.tmp 14,.const (.int .i64 1)],#[130,3]⟩) 146 [14],
 mv 13 15 146 [15],
 xt 16 13 0 145 [],
 xt 17 13 1 4 [13],
 oq 6 (.alloc 145) 0 [],
 ⟨none,.store 145 (.tmp 6) (.tmp 16),0,none,[16]⟩,
 sg 7 17 4 [17]])
 (.seq
 (.seq
 (.reg [mv 18 7 4 [7],
 mv 19 18 4 [18],
 og 20 (.move (.tmp 5)) 4 19 true [],
 og 21 (.unOp .not 4 (.tmp 20)) 4 19 true [20],
 og 22 (.move (.tmp 21)) 4 19 true [21],
 og 23 (.fieldAddr 145 (.tmp 6) 2) 0 22 false [],
 og 24 (.load 3 (.tmp 23)) 3 22 false [23],
 og 25 (.fieldAddr 145 (.tmp 4) 2) 0 22 false [],
 og 26 (.load 3 (.tmp 25)) 3 22 false [25],
 og 27 (.binOp .gtr 3 (.tmp 24) (.tmp 26) 3) 4 22 false [24,26],
 og 28 (.pick (.tmp 22) (.const (.bool true)) (.tmp 27)) 4 19 true [22,27],
 oq 29 (.pick (.tmp 19) (.tmp 28) (.const (.bool false))) 4 [19,28]])
 (.cond (.tmp 29)
 (.seq
 (.reg [ld 30 145 6 [6],
 ⟨none,.store 145 (.tmp 2) (.tmp 30),0,none,[30]⟩,
 sb 3 true 4 []])
 .ret)
 .skip))
 (.seq
 (.reg [ld 31 145 4 [4],
 mv 32 5 4 [5],
 ⟨none,.store 145 (.tmp 2) (.tmp 31),0,none,[31]⟩,
 sg 3 32 4 [32]])
 .ret)))))
theorem F80.rs:Try.f80.results.toList=[.cell 2 145,.tmp 3]:=rfl
def ZbL (k:Nat) (d0:book_disk):Option (book_journal×Bool):=
 (Zbk k d0 0).bind fun x1=>
 (Zbk k d0 1).bind fun x2=>
 bif x2.2 then
  bif x1.2 then
   bif decide (x1.1.epoch<x2.1.epoch) then
    some (x2.1,true)
   else
    some (x1.1,true)
  else
   some (x2.1,true)
 else
  some (x1.1,x1.2)
theorem ZdX (k:Nat) (d0:book_disk) (r:book_journal×Bool) (h0:ZbL k d0=some r):Za6 Try.prog 80 [.rptr 2 [book_disk.c d0] 0 0] (fun y=>y=.tup [.agg (book_journal.c r.1),.bool r.2]):=by
 refine PB (fn:=Try.f80) (sc:=F80.c) ?_
 refine rS ?_
 simp only[ZbL]at h0
 try simp only[F80.c,go_sem]
 obtain⟨x1,yx1,h0⟩:=bs h0
 refine zc0 (Zev k _ _ _ yx1) ?_ (by first|rfl|(simp[AV.refsL,AV.refs,AV.scal,AV.leaf];done)|simp[AV.refsL,AV.refs,AV.scal,AV.leaf,go_sem]) ?_
 try simp only[go_sem]
 try simp only[go_sem]
 obtain⟨x2,yx2,h0⟩:=bs h0
 refine zc0 (Zev k _ _ _ yx2) ?_ (by first|rfl|(simp[AV.refsL,AV.refs,AV.scal,AV.leaf];done)|simp[AV.refsL,AV.refs,AV.scal,AV.leaf,go_sem]) ?_
 try simp only[go_sem]
 try simp only[go_sem]
 refine Zab h0 ?_ ?_<;>intro c3 h0
 try simp only[c3,go_sem]
 refine Zab h0 ?_ ?_<;>intro c4 h0
 try simp only[c4,c3,go_sem]
 refine Zab h0 ?_ ?_<;>intro c5 h0
 try simp only[c5,c3,c4,go_sem]
 obtain rfl:=oi h0
 refine Zac rfl ?_
 try simp only[F80.rs,c3,c4,c5,go_sem]
 try simp only[c5,c3,c4,go_sem]
 obtain rfl:=oi h0
 refine Zac rfl ?_
 try simp only[F80.rs,c3,c4,c5,go_sem]
 try simp only[c4,c3,go_sem]
 obtain rfl:=oi h0
 refine Zac rfl ?_
 try simp only[F80.rs,c3,c4,go_sem]
 try simp only[c3,go_sem]
 obtain rfl:=oi h0
 refine Zac rfl ?_
 try simp only[F80.rs,c3,go_sem]
def F81.s0:SC:=
 (.seq
 (.reg [b2 14 .lss 3 13 12 3 0 []])
 (.seq
 (.cond (.tmp 14)
 .skip
 (.exit 0))
 (.seq
 (.block 1
 (.seq
 (.reg [mv 15 13 3 [],
 sg 5 15 3 [15]])
 (.seq
 (.dreg [mv 16 0 44 [],
 mv 17 5 3 [],
 ia 18 44 16 17 [],
 ld 19 25 18 [],
 mv 20 1 44 [],
 mv 21 5 3 [],
 ia 22 44 20 21 [],
 ld 23 25 22 [],
 b2 24 .neq 25 19 23 25 4 []] [[],[],[0,1],[0,1,2],[],[],[4,5],[4,5,6],[0,1,2,3,4,5,6,7]] [5,16,17,18,19,20,21,22,23])
 (.cond (.tmp 24)
 (.seq
 (.reg [sb 4 false 4 []])
 .ret)
 .skip))))
 (.reg [bn 25 .add 3 13 1 3 3 [13],
 mv 13 25 3 [25]]))))
def F81.c:SC:=
 (.seq
 (.reg [sb 4 false 4 [4]])
 (.seq
 (.seq
 (.reg [mv 6 0 44 [],
 ln 7 6 44 3 [6],
 mv 8 1 44 [],
 ln 9 8 44 3 [8],
 b2 10 .neq 3 7 9 3 4 [7,9]])
 (.cond (.tmp 10)
 (.seq
 (.reg [sb 4 false 4 []])
 .ret)
 .skip))
 (.seq
 (.seq
 (.reg [mv 11 0 44 [],
 ln 12 11 44 3 [11],
 oq 13 (.move (.const (.int .i64 0))) 3 []])
 (.block 0
 (.loop F81.s0)))
 (.seq
 (.reg [sb 4 true 4 []])
 .ret))))
theorem F81.rs:Try.f81.results.toList=[.tmp 4]:=rfl
def Zam.b0 (k:Nat) (s10:(List Record)) (s21:(List Record)):Int→Option (Stp (Int) (Unit) (Bool)):=fun(i2:Int)=>
 bif decide (i2<(s10.length:Int)) then
  (at? s10 i2).bind fun x4=>
  (at? s21 i2).bind fun x5=>
  bif (!(decide (x4.At.House=x5.At.House)&&(decide (x4.At.No=x5.At.No)&&(decide (x4.Kind=x5.Kind)&&(decide (x4.Day=x5.Day)&&(decide (x4.Known=x5.Known)&&(decide (x4.Of.House=x5.Of.House)&&(decide (x4.Of.No=x5.Of.No)&&(x4.Text.toList==x5.Text.toList))))))))) then
   some (.ret false)
  else
   some (.next (w64 (i2+1)))
 else
  some (.brk ())
noncomputable def Zam.h0 (s10:(List Record)) (s21:(List Record)):Int→St:=fun(i2:Int)=>⟨[(0,.sl 8 (List.map Record.c s10)),(1,.sl 8 (List.map Record.c s21)),(12,.int .i64 (s10.length:Int)),(13,.int .i64 i2)],[],[],1,Try.f81.ntmps⟩
noncomputable def Zam.x0:Unit→St:=fun(_:Unit)=>⟨[],[],[],1,Try.f81.ntmps⟩
def Zam (k:Nat) (s10:(List Record)) (s21:(List Record)):Option (Bool):=
 bif (!decide ((s10.length:Int)=(s21.length:Int))) then
  some false
 else
  (whl (Zam.b0 k s10 s21) k 0).bind fun r7=>match r7 with
  |.next _=>none
  |.ret v_=>some v_
  |.brk _=>
   some true
theorem ZdJ (k:Nat) (s10:(List Record)) (s21:(List Record)) (r:Bool) (h0:Zam k s10 s21=some r):Za6 Try.prog 81 [.sl 8 (List.map Record.c s10),.sl 8 (List.map Record.c s21)] (fun y=>y=.bool r):=by
 refine PB (fn:=Try.f81) (sc:=F81.c) ?_
 refine rS ?_
 simp only[Zam]at h0
 try simp only[F81.c,go_sem]
 refine Zab h0 ?_ ?_<;>intro c1 h0
 have c1:=ZaB c1
 try simp only[c1,go_sem]
 obtain rfl:=oi h0
 refine Zac rfl ?_
 try simp only[F81.rs,c1,go_sem]
 have c1:=ZaA c1
 try simp only[c1,go_sem]
 obtain⟨r7,yr7,h0⟩:=bs h0
 refine Zaz yr7 (Zam.h0 s10 s21) (Zam.x0) ?_ ?_ ?_
 refine ZaE.go [0,1,12,13] [] rfl ?_
 try simp only[Zam.h0,c1,go_sem]
 rintro i2 x_1 Bk1 Br1 h1 hnext1 hbrk1 hret1
 refine rS ?_
 simp only[Zam.b0]at h1
 try simp only[F81.s0,Zam.h0,c1,go_sem]
 refine Zab h1 ?_ ?_<;>intro c3 h1
 try simp only[c3,c1,go_sem]
 refine Zas Za9 Zat 1000 ?_
 try simp only[c1,c3,go_sem]
 obtain⟨x4,yx4,h1⟩:=bs h1
 try simp only[aa yx4,c1,c3,go_sem]
 obtain⟨x5,yx5,h1⟩:=bs h1
 try simp only[aa yx5,c1,c3,aa yx4,go_sem]
 refine Za4 ⟨Za3 (by simp only[ZcE,List.reverse_cons,List.reverse_nil,List.nil_append,List.cons_append,List.map_cons,List.map_nil,List.append_nil];rfl) (by first|decide +kernel|rfl),Zae Za9 1000 _ _ ?_⟩
 try simp only[c1,c3,aa yx4,aa yx5,go_sem]
 refine Zab h1 ?_ ?_<;>intro c6 h1
 have c6:=ZaB c6
 try simp only[c6,c1,c3,aa yx4,aa yx5,go_sem]
 obtain rfl:=hret1 _ (oi h1).symm
 simp only at h0
 obtain rfl:=oi h0
 refine Zac rfl ?_
 try simp only[F81.rs,c1,c3,aa yx4,aa yx5,c6,go_sem]
 have c6:=ZaA c6
 try simp only[c6,c1,c3,aa yx4,aa yx5,go_sem]
 refine Zaf (hnext1 _ _ (oi h1).symm ?_)
 refine ZaE.go [0,1,12,13] [] rfl ?_
 try simp only[Zam.h0,c1,c3,aa yx4,aa yx5,c6,go_sem]
 try simp only[c3,c1,go_sem]
 refine Zaf (hbrk1 _ _ (oi h1).symm ?_)
 refine ZaE.go [] [] rfl ?_
 try simp only[Zam.x0,c1,c3,go_sem]
 rintro _ hr_
 subst hr_
 simp only at h0
 refine rS ?_
 try simp only[Zam.x0,c1,go_sem]
 obtain rfl:=oi h0
 refine Zac rfl ?_
 try simp only[F81.rs,c1,go_sem]
def F82.s0:SC:=
 (.seq
 (.seq
 (.reg [mv 10 8 3 [],
 bn 11 .lss 3 10 602 3 4 [10]])
 (.cond (.tmp 11)
 .skip
 (.exit 0)))
 (.seq
 (.block 1
 (.reg [mv 14 7 3 [7],
 mv 15 0 130 [],
 mv 16 1 3 [],
 mv 17 8 3 [],
 oq 18 (.call ⟨.value (.func 125),#[.tmp 15,.tmp 16,.tmp 17],#[130,3,3]⟩) 126 [15,16,17],
 cf1 19 126 18 126 3 [18],
 oq 20 (.call ⟨.builtin .max,#[.tmp 14,.tmp 19],#[3,3]⟩) 3 [14,19],
 sg 7 20 3 [20]]))
 (.reg [mv 12 8 3 [8],
 bn 13 .add 3 12 1 3 3 [12],
 sg 8 13 3 [13]])))
def F82.c:SC:=
 (.seq
 (.reg [sn 6 0 3 [6]])
 (.seq
 (.reg [sn 7 0 3 []])
 (.seq
 (.seq
 (.reg [mv 9 2 3 [2],
 sg 8 9 3 [9]])
 (.block 0
 (.loop F82.s0)))
 (.seq
 (.reg [mv 21 7 3 [7],
 sg 6 21 3 [21]])
 .ret))))
theorem F82.rs:Try.f82.results.toList=[.tmp 6]:=rfl
def Zap.b0 (k:Nat) (d0:book_disk) (area1:Int):(Int×Int)→Option (Stp (Int×Int) (Int) (Int)):=fun(s:Int×Int)=>match s with
 |(i1,i2)=>
   bif decide (i2<(602:Int)) then
    (ZaU k d0 area1 i2).bind fun x5=>
    (Zbd k x5).bind fun x6=>
    some (.next (max i1 x6,w64 (i2+1)))
   else
    some (.brk i1)
noncomputable def Zap.h0 (d0:book_disk) (area1:Int):(Int×Int)→St:=fun(s:Int×Int)=>match s with
 |(i1,i2)=>⟨[(0,.rptr 2 [book_disk.c d0] 0 0),(1,.int .i64 area1),(7,.int .i64 i1),(8,.int .i64 i2)],[],[],1,Try.f82.ntmps⟩
noncomputable def Zap.x0:Int→St:=fun(i3:Int)=>⟨[(7,.int .i64 i3)],[],[],1,Try.f82.ntmps⟩
def Zap (k:Nat) (d0:book_disk) (area1:Int) (from2:Int):Option (Int):=
 (whl (Zap.b0 k d0 area1) k (0,from2)).bind fun r7=>match r7 with
 |.next _=>none
 |.ret v_=>some v_
 |.brk i3=>
  some i3
theorem Zb4 (k:Nat) (d0:book_disk) (area1:Int) (from2:Int) (r:Int) (h0:Zap k d0 area1 from2=some r):Za6 Try.prog 82 [.rptr 2 [book_disk.c d0] 0 0,.int .i64 area1,.int .i64 from2] (fun y=>y=.int .i64 r):=by
 refine PB (fn:=Try.f82) (sc:=F82.c) ?_
 refine rS ?_
 simp only[Zap]at h0
 try simp only[F82.c,go_sem]
 obtain⟨r7,yr7,h0⟩:=bs h0
 refine Zaz yr7 (Zap.h0 d0 area1) (Zap.x0) ?_ ?_ ?_
 refine ZaE.go [0,1,7,8] [] rfl ?_
 try simp only[Zap.h0,go_sem]
 rintro⟨i1,i2⟩ x_1 Bk1 Br1 h1 hnext1 hbrk1 hret1
 refine rS ?_
 simp only[Zap.b0]at h1
 try simp only[F82.s0,Zap.h0,go_sem]
 refine Zab h1 ?_ ?_<;>intro c4 h1
 try simp only[c4,go_sem]
 obtain⟨x5,yx5,h1⟩:=bs h1
 refine zc0 (Zbu k _ _ _ _ yx5) ?_ (by first|rfl|(simp[AV.refsL,AV.refs,AV.scal,AV.leaf];done)|simp[AV.refsL,AV.refs,AV.scal,AV.leaf,go_sem]) ?_
 try simp only[c4,go_sem]
 try simp only[c4,go_sem]
 obtain⟨x6,yx6,h1⟩:=bs h1
 refine zc0 (Zcc k _ _ yx6) ?_ (by first|rfl|(simp[AV.refsL,AV.refs,AV.scal,AV.leaf];done)|simp[AV.refsL,AV.refs,AV.scal,AV.leaf,go_sem]) ?_
 try simp only[c4,go_sem]
 try simp only[c4,go_sem]
 refine Zaf (hnext1 _ _ (oi h1).symm ?_)
 refine ZaE.go [0,1,7,8] [] rfl ?_
 try simp only[Zap.h0,c4,go_sem]
 try simp only[c4,go_sem]
 refine Zaf (hbrk1 _ _ (oi h1).symm ?_)
 refine ZaE.go [7] [] rfl ?_
 try simp only[Zap.x0,c4,go_sem]
 rintro i3 hr_
 subst hr_
 simp only at h0
 refine rS ?_
 try simp only[Zap.x0,go_sem]
 obtain rfl:=oi h0
 refine Zac rfl ?_
 try simp only[F82.rs,go_sem]
def F24.c:SC:=
 (.seq
 (.reg [oq 2 (.box 42 (.tmp 0)) 0 [0],
 oq 3 (.box 48 (.tmp 1)) 0 [1],
 sn 4 0 28 [4]])
 (.seq
 (.seq
 (.reg [ld 8 42 2 [],
 cf1 9 78 8 42 4 [8],
 oq 10 (.unOp .not 4 (.tmp 9)) 4 [9]])
 (.cond (.tmp 10)
 (.seq
 (.reg [sn 4 94 28 []])
 .ret)
 .skip))
 (.seq
 (.reg [ld 11 42 2 [2],
 cf1 12 72 11 42 130 [11],
 cf1 13 79 12 130 130 [12],
 sg 5 13 130 [13]])
 (.seq
 (.reg [mv 15 5 130 [],
 cf1 16 80 15 130 146 [15],
 mv 14 16 146 [16],
 xt 17 14 0 145 [],
 xt 18 14 1 4 [14],
 oq 6 (.alloc 145) 0 [],
 ⟨none,.store 145 (.tmp 6) (.tmp 17),0,none,[17]⟩,
 sg 7 18 4 [18]])
 (.seq
 (.seq
 (.reg [mv 19 7 4 [7],
 oq 20 (.unOp .not 4 (.tmp 19)) 4 [19],
 mv 21 20 4 [20],
 og 22 (.fieldAddr 48 (.tmp 3) 1) 0 21 false [],
 og 23 (.load 3 (.tmp 22)) 3 21 false [22],
 og 24 (.fieldAddr 145 (.tmp 6) 1) 0 21 false [],
 og 25 (.load 3 (.tmp 24)) 3 21 false [24],
 og 26 (.binOp .neq 3 (.tmp 23) (.tmp 25) 3) 4 21 false [23,25],
 oq 27 (.pick (.tmp 21) (.const (.bool true)) (.tmp 26)) 4 [21,26],
 mv 28 27 4 [27],
 og 29 (.fieldAddr 48 (.tmp 3) 3) 0 28 false [],
 og 30 (.load 3 (.tmp 29)) 3 28 false [29],
 og 31 (.fieldAddr 145 (.tmp 6) 3) 0 28 false [],
 og 32 (.load 3 (.tmp 31)) 3 28 false [31],
 og 33 (.binOp .neq 3 (.tmp 30) (.tmp 32) 3) 4 28 false [30,32],
 oq 34 (.pick (.tmp 28) (.const (.bool true)) (.tmp 33)) 4 [28,33],
 mv 35 34 4 [34],
 og 36 (.fieldAddr 48 (.tmp 3) 0) 0 35 false [],
 og 37 (.fieldAddr 46 (.tmp 36) 0) 0 35 false [36],
 og 38 (.load 44 (.tmp 37)) 44 35 false [37],
 og 39 (.fieldAddr 145 (.tmp 6) 4) 0 35 false [],
 og 40 (.fieldAddr 46 (.tmp 39) 0) 0 35 false [39],
 og 41 (.load 44 (.tmp 40)) 44 35 false [40],
 og 42 (.call ⟨.value (.func 81),#[.tmp 38,.tmp 41],#[44,44]⟩) 4 35 false [38,41],
 og 43 (.unOp .not 4 (.tmp 42)) 4 35 false [42],
 oq 44 (.pick (.tmp 35) (.const (.bool true)) (.tmp 43)) 4 [35,43],
 mv 45 44 4 [44],
 og 46 (.fieldAddr 48 (.tmp 3) 2) 0 45 false [],
 og 47 (.load 3 (.tmp 46)) 3 45 false [46],
 og 48 (.call ⟨.value (.func 65),#[.tmp 47,.const (.int .i64 1),.const (.int .i64 1000000)],#[3,3,3]⟩) 4 45 false [47],
 og 49 (.unOp .not 4 (.tmp 48)) 4 45 false [48],
 oq 50 (.pick (.tmp 45) (.const (.bool true)) (.tmp 49)) 4 [45,49]])
 (.cond (.tmp 50)
 (.seq
 (.reg [sn 4 94 28 []])
 .ret)
 .skip))
 (.seq
 (.seq
 (.dreg [fa 51 48 3 2 [],
 ld 52 3 51 [],
 mv 53 5 130 [],
 oq 54 (.call ⟨.value (.func 82),#[.tmp 53,.const (.int .i64 0),.const (.int .i64 0)],#[130,3,3]⟩) 3 [],
 mv 55 5 130 [],
 oq 56 (.call ⟨.value (.func 82),#[.tmp 55,.const (.int .i64 1),.const (.int .i64 0)],#[130,3,3]⟩) 3 [],
 oq 57 (.call ⟨.builtin .max,#[.tmp 54,.tmp 56],#[3,3]⟩) 3 [],
 b2 58 .lss 3 52 57 3 4 [],
 mv 59 58 4 [],
 og 60 (.fieldAddr 48 (.tmp 3) 2) 0 59 false [],
 og 61 (.load 3 (.tmp 60)) 3 59 false [],
 og 62 (.move (.tmp 5)) 130 59 false [],
 og 63 (.fieldAddr 145 (.tmp 6) 1) 0 59 false [],
 og 64 (.load 3 (.tmp 63)) 3 59 false [],
 og 65 (.fieldAddr 145 (.tmp 6) 3) 0 59 false [],
 og 66 (.load 3 (.tmp 65)) 3 59 false [],
 og 67 (.call ⟨.value (.func 82),#[.tmp 62,.tmp 64,.tmp 66],#[130,3,3]⟩) 3 59 false [],
 og 68 (.binOp .leq 3 (.tmp 61) (.tmp 67) 3) 4 59 false [],
 oq 69 (.pick (.tmp 59) (.const (.bool true)) (.tmp 68)) 4 []] [[],[0],[],[2],[],[4,2,3],[2,3,4,5],[0,1,2,3,4,5,6],[0,1,2,3,4,5,6,7],[0,1,2,3,4,5,6,7,8],[0,1,2,3,4,5,6,7,8,9],[0,1,2,3,4,5,6,7,8],[0,1,2,3,4,5,6,7,8],[0,1,2,3,4,5,6,7,8,12],[0,1,2,3,4,5,6,7,8],[0,1,2,3,4,5,6,7,8,14],[0,1,2,3,4,5,6,7,8,11,12,13,14,15],[0,1,2,3,4,5,6,7,8,9,10,11,12,13,14,15,16],[0,1,2,3,4,5,6,7,8,9,10,11,12,13,14,15,16,17]] [3,5,6,51,52,53,54,55,56,57,58,59,60,61,62,63,64,65,66,67,68])
 (.cond (.tmp 69)
 (.seq
 (.reg [sn 4 94 28 []])
 .ret)
 .skip))
 (.seq
 (.reg [sn 4 0 28 []])
 .ret)))))))
theorem F24.rs:Try.f24.results.toList=[.tmp 4]:=rfl
def Zb3 (k:Nat) (d0:Disk) (l1:Ledger):Option (Int):=
 (Zcj k d0).bind fun x1=>
 bif (!x1) then
  some 94
 else
  (Zbn k d0).bind fun x4=>
  (Zax k x4).bind fun x6=>
  (ZbL k (⟨(⟨x6.Disk.Pages,[]⟩:Disk)⟩:book_disk)).bind fun x7=>
  bif x7.2 then
   bif decide (l1.Area=x7.1.area) then
    bif decide (l1.Used=x7.1.used) then
     (Zam k l1.Book.Records x7.1.book.Records).bind fun x11=>
     bif x11 then
      (Za8 k l1.Epoch 1 1000000).bind fun x13=>
      bif (!x13) then
       some 94
      else
       (Zap k (⟨(⟨x6.Disk.Pages,[]⟩:Disk)⟩:book_disk) 0 0).bind fun x15=>
       (Zap k (⟨(⟨x6.Disk.Pages,[]⟩:Disk)⟩:book_disk) 1 0).bind fun x16=>
       bif (!decide (l1.Epoch<max x15 x16)) then
        (Zap k (⟨(⟨x6.Disk.Pages,[]⟩:Disk)⟩:book_disk) x7.1.area x7.1.used).bind fun x18=>
        bif decide (l1.Epoch≤x18) then
         some 94
        else
         some 0
       else
        some 94
     else
      some 94
    else
     some 94
   else
    some 94
  else
   some 94
theorem ZdI (k:Nat) (d0:Disk) (l1:Ledger) (r:Int) (h0:Zb3 k d0 l1=some r):Za6 Try.prog 24 [.agg (Disk.c d0),.agg (Ledger.c l1)] (fun y=>y=.int .i64 r):=by
 refine PB (fn:=Try.f24) (sc:=F24.c) ?_
 refine rS ?_
 simp only[Zb3]at h0
 try simp only[F24.c,go_sem]
 obtain⟨x1,yx1,h0⟩:=bs h0
 refine zc0 (Zdf k _ _ yx1) ?_ (by first|rfl|(simp[AV.refsL,AV.refs,AV.scal,AV.leaf];done)|simp[AV.refsL,AV.refs,AV.scal,AV.leaf,go_sem]) ?_
 try simp only[go_sem]
 try simp only[go_sem]
 refine Zab h0 ?_ ?_<;>intro c2 h0
 have c2:=ZaB c2
 try simp only[c2,go_sem]
 obtain rfl:=oi h0
 refine Zac rfl ?_
 try simp only[F24.rs,c2,go_sem]
 have c2:=ZaA c2
 try simp only[c2,go_sem]
 obtain⟨x4,yx4,h0⟩:=bs h0
 refine Zei Za9 1000 [] [] (ZbA k _ _ yx4) ?_ rfl ?_
 try simp only[gOK,c2,go_sem]
 try simp only[c2,go_sem]
 obtain⟨x6,yx6,h0⟩:=bs h0
 refine Zfk [3,10] [112,113,114,16] 4 rfl ?_
 try simp only[c2,go_sem]
 refine Zeq (Zcp k _ _ yx6) ?_ ?_
 try simp only[c2,go_sem]
 try simp only[List.take_succ_cons,List.drop_succ_cons,List.length_cons,List.length_nil,c2,go_sem]
 refine AK.weak (ZaE.fz 1 rfl (fun _ h=>by cases h)) ?_
 try simp only[c2,go_sem]
 refine AK.nlbox 0 1 65 rfl rfl ?_
 try simp only[c2,go_sem]
 refine AK.weak (ZaE.fz 0 rfl (fun _ h=>by cases h;rfl)) ?_
 try simp only[c2,go_sem]
 refine rS ?_
 try simp only[c2,go_sem]
 obtain⟨x7,yx7,h0⟩:=bs h0
 refine zc0 (ZdX k _ _ yx7) ?_ (by first|rfl|(simp[AV.refsL,AV.refs,AV.scal,AV.leaf];done)|simp[AV.refsL,AV.refs,AV.scal,AV.leaf,go_sem]) ?_
 try simp only[c2,go_sem]
 try simp only[c2,go_sem]
 refine Zab h0 ?_ ?_<;>intro c8 h0
 try simp only[c8,c2,go_sem]
 refine Zab h0 ?_ ?_<;>intro c9 h0
 try simp only[c9,c2,c8,go_sem]
 refine Zab h0 ?_ ?_<;>intro c10 h0
 try simp only[c10,c2,c8,c9,go_sem]
 obtain⟨x11,yx11,h0⟩:=bs h0
 refine zc0 (ZdJ k _ _ _ yx11) ?_ (by first|rfl|(simp[AV.refsL,AV.refs,AV.scal,AV.leaf];done)|simp[AV.refsL,AV.refs,AV.scal,AV.leaf,go_sem]) ?_
 try simp only[c2,c8,c9,c10,go_sem]
 try simp only[c2,c8,c9,c10,go_sem]
 refine Zab h0 ?_ ?_<;>intro c12 h0
 try simp only[c12,c2,c8,c9,c10,go_sem]
 obtain⟨x13,yx13,h0⟩:=bs h0
 refine zc0 (ZaF k _ _ _ _ yx13) ?_ (by first|rfl|(simp[AV.refsL,AV.refs,AV.scal,AV.leaf];done)|simp[AV.refsL,AV.refs,AV.scal,AV.leaf,go_sem]) ?_
 try simp only[c2,c8,c9,c10,c12,go_sem]
 try simp only[c2,c8,c9,c10,c12,go_sem]
 refine Zab h0 ?_ ?_<;>intro c14 h0
 have c14:=ZaB c14
 try simp only[c14,c2,c8,c9,c10,c12,go_sem]
 obtain rfl:=oi h0
 refine Zac rfl ?_
 try simp only[F24.rs,c2,c8,c9,c10,c12,c14,go_sem]
 have c14:=ZaA c14
 try simp only[c14,c2,c8,c9,c10,c12,go_sem]
 refine Zas Za9 Zat 1000 ?_
 try simp only[c2,c8,c9,c10,c12,c14,go_sem]
 obtain⟨x15,yx15,h0⟩:=bs h0
 refine ZaC 1000 (Zb4 k _ _ _ _ yx15) ?_ (by first|rfl|(simp[AV.refsL,AV.refs,AV.scal,AV.leaf];done)|simp[AV.refsL,AV.refs,AV.scal,AV.leaf,go_sem]) ?_
 try simp only[c2,c8,c9,c10,c12,c14,go_sem]
 try simp only[c2,c8,c9,c10,c12,c14,go_sem]
 obtain⟨x16,yx16,h0⟩:=bs h0
 refine ZaC 1000 (Zb4 k _ _ _ _ yx16) ?_ (by first|rfl|(simp[AV.refsL,AV.refs,AV.scal,AV.leaf];done)|simp[AV.refsL,AV.refs,AV.scal,AV.leaf,go_sem]) ?_
 try simp only[c2,c8,c9,c10,c12,c14,go_sem]
 try simp only[c2,c8,c9,c10,c12,c14,go_sem]
 refine ZgC h0 ?_ ?_<;>intro c17 h0
 have c17:=ZaB c17
 try simp only[c17,c2,c8,c9,c10,c12,c14,go_sem]
 obtain⟨x18,yx18,h0⟩:=bs h0
 refine ZaC 1000 (Zb4 k _ _ _ _ yx18) ?_ (by first|rfl|(simp[AV.refsL,AV.refs,AV.scal,AV.leaf];done)|simp[AV.refsL,AV.refs,AV.scal,AV.leaf,go_sem]) ?_
 try simp only[c2,c8,c9,c10,c12,c14,c17,go_sem]
 try simp only[c2,c8,c9,c10,c12,c14,c17,go_sem]
 refine Za4 ⟨Za3 (by simp only[ZcE,List.reverse_cons,List.reverse_nil,List.nil_append,List.cons_append,List.map_cons,List.map_nil,List.append_nil];rfl) (by first|decide +kernel|rfl),Zae Za9 1000 _ _ ?_⟩
 try simp only[c2,c8,c9,c10,c12,c14,c17,go_sem]
 refine Zab h0 ?_ ?_<;>intro c19 h0
 try simp only[c19,c2,c8,c9,c10,c12,c14,c17,go_sem]
 obtain rfl:=oi h0
 refine Zac rfl ?_
 try simp only[F24.rs,c2,c8,c9,c10,c12,c14,c17,c19,go_sem]
 try simp only[c19,c2,c8,c9,c10,c12,c14,c17,go_sem]
 obtain rfl:=oi h0
 refine Zac rfl ?_
 try simp only[F24.rs,c2,c8,c9,c10,c12,c14,c17,c19,go_sem]
 have c17:=ZaA c17
 try simp only[c17,c2,c8,c9,c10,c12,c14,go_sem]
 refine Za4 ⟨Za3 (by simp only[ZcE,List.reverse_cons,List.reverse_nil,List.nil_append,List.cons_append,List.map_cons,List.map_nil,List.append_nil];rfl) (by first|decide +kernel|rfl),Zae Za9 1000 _ _ ?_⟩
 try simp only[c2,c8,c9,c10,c12,c14,c17,go_sem]
 obtain rfl:=oi h0
 refine Zac rfl ?_
 try simp only[F24.rs,c2,c8,c9,c10,c12,c14,c17,go_sem]
 try simp only[c12,c2,c8,c9,c10,go_sem]
 obtain rfl:=oi h0
 refine Zac rfl ?_
 try simp only[F24.rs,c2,c8,c9,c10,c12,go_sem]
 try simp only[c10,c2,c8,c9,go_sem]
 obtain rfl:=oi h0
 refine Zac rfl ?_
 try simp only[F24.rs,c2,c8,c9,c10,go_sem]
 try simp only[c9,c2,c8,go_sem]
 obtain rfl:=oi h0
 refine Zac rfl ?_
 try simp only[F24.rs,c2,c8,c9,go_sem]
 try simp only[c8,c2,go_sem]
 obtain rfl:=oi h0
 refine Zac rfl ?_
 try simp only[F24.rs,c2,c8,go_sem]
def F73.c:SC:=
 (.seq
 (.reg [oq 1 (.box 48 (.tmp 0)) 0 [0],
 oq 2 (.alloc 48) 0 []])
 (.seq
 (.reg [fa 3 48 1 0 [],
 ld 4 46 3 [3],
 cf1 5 96 4 46 46 [4],
 fa 6 48 1 0 [],
 ⟨none,.store 46 (.tmp 6) (.tmp 5),0,none,[5,6]⟩])
 (.seq
 (.reg [ld 7 48 1 [1],
 ⟨none,.store 48 (.tmp 2) (.tmp 7),0,none,[7]⟩])
 .ret)))
theorem F73.rs:Try.f73.results.toList=[.cell 2 48]:=rfl
def Zbe (k:Nat) (l0:Ledger):Option (Ledger):=
 (Zda k l0.Book).bind fun x1=>
 some (⟨x1,l0.Area,l0.Epoch,l0.Used⟩:Ledger)
theorem ZcI (k:Nat) (l0:Ledger) (r:Ledger) (h0:Zbe k l0=some r):Za6 Try.prog 73 [.agg (Ledger.c l0)] (fun y=>y=.agg (Ledger.c r)):=by
 refine PB (fn:=Try.f73) (sc:=F73.c) ?_
 refine rS ?_
 simp only[Zbe]at h0
 try simp only[F73.c,go_sem]
 obtain⟨x1,yx1,h0⟩:=bs h0
 refine zc0 (Zgd k _ _ yx1) ?_ (by first|rfl|(simp[AV.refsL,AV.refs,AV.scal,AV.leaf];done)|simp[AV.refsL,AV.refs,AV.scal,AV.leaf,go_sem]) ?_
 try simp only[go_sem]
 try simp only[go_sem]
 obtain rfl:=oi h0
 refine Zac rfl ?_
 try simp only[F73.rs,go_sem]
def F74.s1:SC:=
 (.block 3
 (.seq
 (.reg [mv 37 2 3 [],
 mv 38 9 3 [],
 b2 39 .add 3 37 38 3 3 [37,38],
 bn 40 .rem 3 39 2 3 3 [39],
 mv 41 3 124 [],
 mv 42 9 3 [],
 ia 43 124 41 42 [41,42],
 ld 44 126 43 [43],
 ia 45 139 11 40 [40],
 ⟨none,.store 122 (.tmp 45) (.tmp 44),0,none,[44,45]⟩])
 (.seq
 (.reg [mv 46 9 3 [9],
 bn 47 .add 3 46 1 3 3 [46],
 sg 9 47 3 [47]])
 (.seq
 (.reg [mv 48 9 3 [],
 mv 49 3 124 [],
 ln 50 49 124 3 [49],
 b2 51 .eql 3 48 50 3 4 [48,50],
 mv 52 51 4 [51],
 og 53 (.move (.tmp 2)) 3 52 false [],
 og 54 (.move (.tmp 9)) 3 52 false [],
 og 55 (.binOp .add 3 (.tmp 53) (.tmp 54) 3) 3 52 false [53,54],
 og 56 (.binOp .rem 3 (.tmp 55) (.const (.int .i64 2)) 3) 3 52 false [55],
 og 57 (.binOp .eql 3 (.tmp 56) (.const (.int .i64 0)) 3) 4 52 false [56],
 oq 58 (.pick (.tmp 52) (.const (.bool true)) (.tmp 57)) 4 [52,57]])
 (.cond (.tmp 58)
 (.exit 2)
 .skip)))))
def F74.s0:SC:=
 (.seq
 (.seq
 (.reg [mv 18 9 3 [],
 mv 19 3 124 [],
 ln 20 19 124 3 [19],
 b2 21 .lss 3 18 20 3 4 [18,20]])
 (.cond (.tmp 21)
 .skip
 (.exit 0)))
 (.block 1
 (.seq
 (.reg [mv 22 1 3 [],
 bn 23 .mul 3 22 301 3 3 [22],
 mv 24 2 3 [],
 mv 25 9 3 [],
 b2 26 .add 3 24 25 3 3 [24,25],
 bn 27 .quo 3 26 2 3 3 [26],
 b2 28 .add 3 23 27 3 3 [23,27],
 sg 10 28 3 [28]])
 (.seq
 (.reg [mv 29 8 130 [],
 oq 30 (.nilCheck (.tmp 29)) 0 [29],
 fa 31 134 30 0 [30],
 fa 32 42 31 0 [31],
 ld 33 39 32 [32],
 mv 34 10 3 [],
 ia 35 39 33 34 [33,34],
 ld 36 139 35 [35],
 oq 11 (.alloc 139) 0 [],
 ⟨none,.store 139 (.tmp 11) (.tmp 36),0,none,[36]⟩])
 (.seq
 (.block 2
 (.loop F74.s1))
 (.dreg [mv 59 0 130 [],
 mv 60 0 130 [],
 oq 61 (.nilCheck (.tmp 60)) 0 [],
 fa 62 134 61 0 [],
 fa 63 42 62 1 [],
 ld 64 40 63 [],
 mv 65 10 3 [],
 ld 66 139 11 [],
 oq 67 (.build 141 #[(0,.tmp 65),(1,.tmp 66)]) 141 [],
 oq 68 (.buildSlice 40 1 #[(0,.tmp 67)]) 40 [],
 oq 69 (.call ⟨.builtin .append,#[.tmp 64,.tmp 68],#[40,40]⟩) 40 [],
 oq 70 (.nilCheck (.tmp 59)) 0 [],
 fa 71 134 70 0 [],
 fa 72 42 71 1 [],
 ⟨none,.store 40 (.tmp 72) (.tmp 69),0,none,[]⟩] [[],[],[1],[1,2],[1,2,3],[1,2,3,4],[],[],[6,7],[6,7,8],[1,2,3,4,5,6,7,8,9],[0,1,2,3,4,5,6,7,8,9,10],[0,1,2,3,4,5,6,7,8,9,10,11],[0,1,2,3,4,5,6,7,8,9,10,11,12],[0,1,2,3,4,5,6,7,8,9,10,11,12,13]] [10,11,59,60,61,62,63,64,65,66,67,68,69,70,71,72]))))))
def F74.c:SC:=
 (.seq
 (.reg [mv 12 0 130 [],
 oq 13 (.nilCheck (.tmp 12)) 0 [12],
 fa 14 134 13 0 [13],
 ld 15 42 14 [14],
 cf1 16 72 15 42 130 [15],
 cf1 17 79 16 130 130 [16],
 sg 8 17 130 [17]])
 (.seq
 (.reg [sn 9 0 3 []])
 (.block 0
 (.loop F74.s0))))
theorem F74.rs:Try.f74.results.toList=[]:=rfl
def Zag.b1 (k:Nat) (from2:Int) (l3:(List (Vec 32 Int))):((Vec 2 (Vec 32 Int))×Int)→Option (Stp ((Vec 2 (Vec 32 Int))×Int) ((Vec 2 (Vec 32 Int))×Int) (book_disk)):=fun(s:(Vec 2 (Vec 32 Int))×Int)=>match s with
 |(s10,i11)=>
   (at? l3 i11).bind fun x14=>
   (s10.at? (Int.tmod (w64 (from2+i11)) 2)).bind fun x15=>
   bif (!decide (w64 (i11+1)=(l3.length:Int))) then
    bif decide (Int.tmod (w64 (from2+(w64 (i11+1)))) 2=(0:Int)) then
     some (.brk (s10.set (Int.tmod (w64 (from2+i11)) 2) x14,w64 (i11+1)))
    else
     some (.next (s10.set (Int.tmod (w64 (from2+i11)) 2) x14,w64 (i11+1)))
   else
    some (.brk (s10.set (Int.tmod (w64 (from2+i11)) 2) x14,w64 (i11+1)))
def Zag.b0 (k:Nat) (area1:Int) (from2:Int) (l3:(List (Vec 32 Int))) (x4:book_disk):(Int×(List Write))→Option (Stp (Int×(List Write)) ((List Write)) (book_disk)):=fun(s:Int×(List Write))=>match s with
 |(i5,l6)=>
   bif decide (i5<(l3.length:Int)) then
    (at? x4.Disk.Pages (w64 ((w64 (area1*301))+(w64 (Int.tdiv (w64 (from2+i5)) 2))))).bind fun x9=>
    (whl (Zag.b1 k from2 l3) k (x9,i5)).bind fun r19=>match r19 with
    |.next _=>none
    |.ret v_=>some (.ret v_)
    |.brk (s12,i13)=>
     (ZeY 72 l6 (⟨w64 ((w64 (area1*301))+(w64 (Int.tdiv (w64 (from2+i5)) 2))),s12⟩:Write)).bind fun l20=>
     some (.next (i13,l20))
   else
    some (.brk l6)
noncomputable def Zag.h1 (f1:Fra) (H:Zar) (d0:book_disk) (area1:Int) (from2:Int) (l3:(List (Vec 32 Int))) (x4:book_disk) (i5:Int) (l6:(List Write)):((Vec 2 (Vec 32 Int))×Int)→St:=fun(s:(Vec 2 (Vec 32 Int))×Int)=>match s with
 |(s10,i11)=>⟨[(0,.ptr 1 0 0),(1,.int .i64 area1),(2,.int .i64 from2),(3,.sl 32 (List.map (Vec.c (n:=32) eU8) l3)),(8,.ptr 0 0 0),(9,.int .i64 i11),(10,.int .i64 (w64 ((w64 (area1*301))+(w64 (Int.tdiv (w64 (from2+i5)) 2))))),(11,.ptr 0 2 0)],[(0,.box ([.loc 0 1 64 0 x4.Disk.Pages.length x4.Disk.Pages.length,.nil])),(1,.arr 139 64 (List.map (Vec.c (n:=2) (Vec.c (n:=32) eU8)) x4.Disk.Pages)),(2,.box (Vec.c (n:=2) (Vec.c (n:=32) eU8) s10))],((0,.box ([.loc 0 1 64 0 d0.Disk.Pages.length d0.Disk.Pages.length,.loc 0 2 65 0 l6.length l6.length]))::(1,.arr 139 64 (List.map (Vec.c (n:=2) (Vec.c (n:=32) eU8)) d0.Disk.Pages))::(2,.arr 141 65 (List.map Write.c l6))::f1)::H,3,Try.f74.ntmps⟩
noncomputable def Zag.x1 (f1:Fra) (H:Zar) (d0:book_disk) (area1:Int) (from2:Int) (l3:(List (Vec 32 Int))) (x4:book_disk) (i5:Int) (l6:(List Write)):((Vec 2 (Vec 32 Int))×Int)→St:=fun(s:(Vec 2 (Vec 32 Int))×Int)=>match s with
 |(s12,i13)=>⟨[(0,.ptr 1 0 0),(1,.int .i64 area1),(2,.int .i64 from2),(3,.sl 32 (List.map (Vec.c (n:=32) eU8) l3)),(8,.ptr 0 0 0),(9,.int .i64 i13),(10,.int .i64 (w64 ((w64 (area1*301))+(w64 (Int.tdiv (w64 (from2+i5)) 2))))),(11,.ptr 0 2 0)],[(0,.box ([.loc 0 1 64 0 x4.Disk.Pages.length x4.Disk.Pages.length,.nil])),(1,.arr 139 64 (List.map (Vec.c (n:=2) (Vec.c (n:=32) eU8)) x4.Disk.Pages)),(2,.box (Vec.c (n:=2) (Vec.c (n:=32) eU8) s12))],((0,.box ([.loc 0 1 64 0 d0.Disk.Pages.length d0.Disk.Pages.length,.loc 0 2 65 0 l6.length l6.length]))::(1,.arr 139 64 (List.map (Vec.c (n:=2) (Vec.c (n:=32) eU8)) d0.Disk.Pages))::(2,.arr 141 65 (List.map Write.c l6))::f1)::H,3,Try.f74.ntmps⟩
noncomputable def Zag.h0 (f1:Fra) (H:Zar) (d0:book_disk) (area1:Int) (from2:Int) (l3:(List (Vec 32 Int))) (x4:book_disk):(Int×(List Write))→St:=fun(s:Int×(List Write))=>match s with
 |(i5,l6)=>⟨[(0,.ptr 1 0 0),(1,.int .i64 area1),(2,.int .i64 from2),(3,.sl 32 (List.map (Vec.c (n:=32) eU8) l3)),(8,.ptr 0 0 0),(9,.int .i64 i5)],[(0,.box ([.loc 0 1 64 0 x4.Disk.Pages.length x4.Disk.Pages.length,.nil])),(1,.arr 139 64 (List.map (Vec.c (n:=2) (Vec.c (n:=32) eU8)) x4.Disk.Pages))],((0,.box ([.loc 0 1 64 0 d0.Disk.Pages.length d0.Disk.Pages.length,.loc 0 2 65 0 l6.length l6.length]))::(1,.arr 139 64 (List.map (Vec.c (n:=2) (Vec.c (n:=32) eU8)) d0.Disk.Pages))::(2,.arr 141 65 (List.map Write.c l6))::f1)::H,2,Try.f74.ntmps⟩
noncomputable def Zag.x0 (f1:Fra) (H:Zar) (d0:book_disk):(List Write)→St:=fun(l7:(List Write))=>⟨[],[],((0,.box ([.loc 0 1 64 0 d0.Disk.Pages.length d0.Disk.Pages.length,.loc 0 2 65 0 l7.length l7.length]))::(1,.arr 139 64 (List.map (Vec.c (n:=2) (Vec.c (n:=32) eU8)) d0.Disk.Pages))::(2,.arr 141 65 (List.map Write.c l7))::f1)::H,1,Try.f74.ntmps⟩
def Zag (k:Nat) (d0:book_disk) (area1:Int) (from2:Int) (l3:(List (Vec 32 Int))):Option (book_disk):=
 (Zbn k d0.Disk).bind fun x2=>
 (Zax k x2).bind fun x4=>
 (whl (Zag.b0 k area1 from2 l3 x4) k (0,d0.Disk.Wait)).bind fun r21=>match r21 with
 |.next _=>none
 |.ret v_=>some v_
 |.brk l7=>
  some (⟨(⟨d0.Disk.Pages,l7⟩:Disk)⟩:book_disk)
theorem ZgM (k:Nat) (d0:book_disk) (area1:Int) (from2:Int) (l3:(List (Vec 32 Int))) (r:book_disk) (h0:Zag k d0 area1 from2 l3=some r):Zmg Try.prog 74 [.ptr 1 0 0,.int .i64 area1,.int .i64 from2,.sl 32 (List.map (Vec.c (n:=32) eU8) l3)] [(0,.box ([.loc 0 1 64 0 d0.Disk.Pages.length d0.Disk.Pages.length,.loc 0 2 65 0 d0.Disk.Wait.length d0.Disk.Wait.length])),(1,.arr 139 64 (List.map (Vec.c (n:=2) (Vec.c (n:=32) eU8)) d0.Disk.Pages)),(2,.arr 141 65 (List.map Write.c d0.Disk.Wait))] (fun y fr X'=>y=.tup []∧fr=[]∧X'=[(0,.box ([.loc 0 1 64 0 r.Disk.Pages.length r.Disk.Pages.length,.loc 0 2 65 0 r.Disk.Wait.length r.Disk.Wait.length])),(1,.arr 139 64 (List.map (Vec.c (n:=2) (Vec.c (n:=32) eU8)) r.Disk.Pages)),(2,.arr 141 65 (List.map Write.c r.Disk.Wait))]):=by
 refine Zmg.of_body Za9 (fn:=Try.f74) (sc:=F74.c) (by rfl) (by rfl) (by decide +kernel) (by rfl) (by decide +kernel) (Nat.le_of_ble_eq_true rfl) (fun f1 H=>?_)
 refine rS ?_
 simp only[List.cons_append,List.nil_append]
 simp only[Zag]at h0
 try simp only[F74.c,go_sem]
 obtain⟨x2,yx2,h0⟩:=bs h0
 refine ZmV Za9 1000 (ZbA k _ _ yx2) ?_ rfl ⟨(by simp[Blk.lo,AV.lo]),Lf.map (Lf.vec (Lf.vec ZtR)) _,Lf.map Zqi _,trivial⟩ ?_
 try simp only[boxF,go_sem]
 try simp only[go_sem]
 obtain⟨x4,yx4,h0⟩:=bs h0
 refine Zfk [0,1,2,3] [64,65,66] 3 rfl ?_
 try simp only[go_sem]
 refine Zeq (Zcp k _ _ yx4) ?_ ?_
 try simp only[go_sem]
 try simp only[List.take_succ_cons,List.drop_succ_cons,List.length_cons,List.length_nil,go_sem]
 refine rS ?_
 try simp only[go_sem]
 obtain⟨r21,yr21,h0⟩:=bs h0
 refine Zaz yr21 (Zag.h0 f1 H d0 area1 from2 l3 x4) (Zag.x0 f1 H d0) ?_ ?_ ?_
 refine ZaE.go [0,1,2,3,8,9] [0,1] rfl ?_
 try simp only[Zag.h0,go_sem]
 repeat' (first|exact NL.refl _|exact NL.nil _|exact NLs.refl _|exact NLs.nil|exact Zex.refl _|exact Zex.nil|exact NLT.nil|exact NLF.nil|refine NLT.cons _ _ _ _ _ ?_ ?_|refine NLF.cons _ _ _ _ _ ?_ ?_|refine NLB.box _ _ ?_|refine NLB.arr _ _ _ _ ?_|refine NLs.cons ?_ ?_|refine NLs.append ?_ ?_|refine NL.aggs ?_|refine NL.tups ?_|refine NL.sls ?_|refine Zex.append ?_ ?_|refine Zex.cons ?_ ?_|refine And.intro ?_ ?_|rfl)
 rintro⟨i5,l6⟩ x_1 Bk1 Br1 h1 hnext1 hbrk1 hret1
 refine rS ?_
 simp only[Zag.b0]at h1
 try simp only[F74.s0,Zag.h0,go_sem]
 refine Zab h1 ?_ ?_<;>intro c8 h1
 try simp only[c8,go_sem]
 obtain⟨x9,yx9,h1⟩:=bs h1
 try simp only[ZaR yx9,Za1 (Vec.c (n:=2) (Vec.c (n:=32) eU8)) yx9,c8,go_sem]
 obtain⟨r19,yr19,h1⟩:=bs h1
 refine Zaz yr19 (Zag.h1 f1 H d0 area1 from2 l3 x4 i5 l6) (Zag.x1 f1 H d0 area1 from2 l3 x4 i5 l6) ?_ ?_ ?_
 refine ZaE.go [0,1,2,3,8,9,10,11] [0,1,322] rfl ?_
 try simp only[Zag.h1,c8,ZaR yx9,Za1 (Vec.c (n:=2) (Vec.c (n:=32) eU8)) yx9,go_sem]
 repeat' (first|exact NL.refl _|exact NL.nil _|exact NLs.refl _|exact NLs.nil|exact Zex.refl _|exact Zex.nil|exact NLT.nil|exact NLF.nil|refine NLT.cons _ _ _ _ _ ?_ ?_|refine NLF.cons _ _ _ _ _ ?_ ?_|refine NLB.box _ _ ?_|refine NLB.arr _ _ _ _ ?_|refine NLs.cons ?_ ?_|refine NLs.append ?_ ?_|refine NL.aggs ?_|refine NL.tups ?_|refine NL.sls ?_|refine Zex.append ?_ ?_|refine Zex.cons ?_ ?_|refine And.intro ?_ ?_|rfl)
 rintro⟨s10,i11⟩ x_2 Bk2 Br2 h2 hnext2 hbrk2 hret2
 refine rS ?_
 simp only[Zag.b1]at h2
 try simp only[F74.s1,Zag.h1,c8,ZaR yx9,Za1 (Vec.c (n:=2) (Vec.c (n:=32) eU8)) yx9,go_sem]
 obtain⟨x14,yx14,h2⟩:=bs h2
 try simp only[aa yx14,c8,ZaR yx9,Za1 (Vec.c (n:=2) (Vec.c (n:=32) eU8)) yx9,go_sem]
 obtain⟨x15,yx15,h2⟩:=bs h2
 have uyx15:=UpdE.at (fun q_=>((VK.vec Zaw 32).len q_:((Vec.c (n:=32) eU8) q_).length=32)) (UpdE.self (fun q_=>((VK.vec (VK.vec Zaw 32) 2).len q_:(Vec.c (n:=2) (Vec.c (n:=32) eU8) q_).length=64)) s10) yx15
 have buyx15:=uyx15.bound (fun q_=>((VK.vec Zaw 32).len q_:((Vec.c (n:=32) eU8) q_).length=32))
 have guyx15:=uyx15.get (fun q_=>((VK.vec Zaw 32).len q_:((Vec.c (n:=32) eU8) q_).length=32))
 try simp only[List.length_cons,List.length_nil,go_sem]at buyx15 guyx15
 have q16:=uyx15.ow x14
 try simp only[List.length_cons,List.length_nil,go_sem]at q16
 try simp only[Zaa yx15,buyx15,guyx15,q16,c8,ZaR yx9,Za1 (Vec.c (n:=2) (Vec.c (n:=32) eU8)) yx9,aa yx14,go_sem]
 refine Zab h2 ?_ ?_<;>intro c17 h2
 have c17:=ZaB c17
 try simp only[c17,c8,ZaR yx9,Za1 (Vec.c (n:=2) (Vec.c (n:=32) eU8)) yx9,aa yx14,Zaa yx15,buyx15,guyx15,go_sem]
 refine Zab h2 ?_ ?_<;>intro c18 h2
 try simp only[c18,c8,ZaR yx9,Za1 (Vec.c (n:=2) (Vec.c (n:=32) eU8)) yx9,aa yx14,Zaa yx15,buyx15,guyx15,c17,go_sem]
 refine Zaf (hbrk2 _ _ (oi h2).symm ?_)
 refine ZaE.go [0,1,2,3,8,9,10,11] [0,1,2] rfl ?_
 try simp only[Zag.x1,c8,ZaR yx9,Za1 (Vec.c (n:=2) (Vec.c (n:=32) eU8)) yx9,aa yx14,Zaa yx15,buyx15,guyx15,c17,c18,go_sem]
 repeat' (first|exact NL.refl _|exact NL.nil _|exact NLs.refl _|exact NLs.nil|exact Zex.refl _|exact Zex.nil|exact NLT.nil|exact NLF.nil|refine NLT.cons _ _ _ _ _ ?_ ?_|refine NLF.cons _ _ _ _ _ ?_ ?_|refine NLB.box _ _ ?_|refine NLB.arr _ _ _ _ ?_|refine NLs.cons ?_ ?_|refine NLs.append ?_ ?_|refine NL.aggs ?_|refine NL.tups ?_|refine NL.sls ?_|refine Zex.append ?_ ?_|refine Zex.cons ?_ ?_|refine And.intro ?_ ?_|rfl)
 try simp only[c18,c8,ZaR yx9,Za1 (Vec.c (n:=2) (Vec.c (n:=32) eU8)) yx9,aa yx14,Zaa yx15,buyx15,guyx15,c17,go_sem]
 refine Zaf (hnext2 _ _ (oi h2).symm ?_)
 refine ZaE.go [0,1,2,3,8,9,10,11] [0,1,2] rfl ?_
 try simp only[Zag.h1,c8,ZaR yx9,Za1 (Vec.c (n:=2) (Vec.c (n:=32) eU8)) yx9,aa yx14,Zaa yx15,buyx15,guyx15,c17,c18,go_sem]
 repeat' (first|exact NL.refl _|exact NL.nil _|exact NLs.refl _|exact NLs.nil|exact Zex.refl _|exact Zex.nil|exact NLT.nil|exact NLF.nil|refine NLT.cons _ _ _ _ _ ?_ ?_|refine NLF.cons _ _ _ _ _ ?_ ?_|refine NLB.box _ _ ?_|refine NLB.arr _ _ _ _ ?_|refine NLs.cons ?_ ?_|refine NLs.append ?_ ?_|refine NL.aggs ?_|refine NL.tups ?_|refine NL.sls ?_|refine Zex.append ?_ ?_|refine Zex.cons ?_ ?_|refine And.intro ?_ ?_|rfl)
 have c17:=ZaA c17
 try simp only[c17,c8,ZaR yx9,Za1 (Vec.c (n:=2) (Vec.c (n:=32) eU8)) yx9,aa yx14,Zaa yx15,buyx15,guyx15,go_sem]
 refine Zaf (hbrk2 _ _ (oi h2).symm ?_)
 refine ZaE.go [0,1,2,3,8,9,10,11] [0,1,2] rfl ?_
 try simp only[Zag.x1,c8,ZaR yx9,Za1 (Vec.c (n:=2) (Vec.c (n:=32) eU8)) yx9,aa yx14,Zaa yx15,buyx15,guyx15,c17,go_sem]
 repeat' (first|exact NL.refl _|exact NL.nil _|exact NLs.refl _|exact NLs.nil|exact Zex.refl _|exact Zex.nil|exact NLT.nil|exact NLF.nil|refine NLT.cons _ _ _ _ _ ?_ ?_|refine NLF.cons _ _ _ _ _ ?_ ?_|refine NLB.box _ _ ?_|refine NLB.arr _ _ _ _ ?_|refine NLs.cons ?_ ?_|refine NLs.append ?_ ?_|refine NL.aggs ?_|refine NL.tups ?_|refine NL.sls ?_|refine Zex.append ?_ ?_|refine Zex.cons ?_ ?_|refine And.intro ?_ ?_|rfl)
 rintro⟨s12,i13⟩ hr_
 subst hr_
 simp only at h1
 refine rS ?_
 try simp only[Zag.x1,c8,ZaR yx9,Za1 (Vec.c (n:=2) (Vec.c (n:=32) eU8)) yx9,go_sem]
 refine Zas Za9 Zat 1000 ?_
 try simp only[c8,ZaR yx9,Za1 (Vec.c (n:=2) (Vec.c (n:=32) eU8)) yx9,go_sem]
 obtain⟨l20,yl20,h1⟩:=bs h1
 have eyl20:=ZeB Write.c yl20
 have tyl20:=ZdF Write.c yl20
 have nyl20:=ZdS yl20
 have myl20:=Zd6 yl20
 try simp only[c8,ZaR yx9,Za1 (Vec.c (n:=2) (Vec.c (n:=32) eU8)) yx9,go_sem]at eyl20 tyl20 nyl20 myl20
 try simp only[myl20,eyl20,c8,ZaR yx9,Za1 (Vec.c (n:=2) (Vec.c (n:=32) eU8)) yx9,nyl20,tyl20,go_sem]
 refine Za4 ⟨Za3 (by simp only[ZcE,List.reverse_cons,List.reverse_nil,List.nil_append,List.cons_append,List.map_cons,List.map_nil,List.append_nil];rfl) (by first|decide +kernel|rfl),Zae Za9 1000 _ _ ?_⟩
 try simp only[c8,ZaR yx9,Za1 (Vec.c (n:=2) (Vec.c (n:=32) eU8)) yx9,eyl20,nyl20,tyl20,go_sem]
 refine Zaf (hnext1 _ _ (oi h1).symm ?_)
 refine ZaE.go [0,1,2,3,8,9] [0,1] rfl ?_
 try simp only[Zag.h0,c8,ZaR yx9,Za1 (Vec.c (n:=2) (Vec.c (n:=32) eU8)) yx9,eyl20,nyl20,tyl20,go_sem]
 repeat' (first|exact NL.refl _|exact NL.nil _|exact NLs.refl _|exact NLs.nil|exact Zex.refl _|exact Zex.nil|exact NLT.nil|exact NLF.nil|refine NLT.cons _ _ _ _ _ ?_ ?_|refine NLF.cons _ _ _ _ _ ?_ ?_|refine NLB.box _ _ ?_|refine NLB.arr _ _ _ _ ?_|refine NLs.cons ?_ ?_|refine NLs.append ?_ ?_|refine NL.aggs ?_|refine NL.tups ?_|refine NL.sls ?_|refine Zex.append ?_ ?_|refine Zex.cons ?_ ?_|refine And.intro ?_ ?_|rfl)
 try simp only[c8,go_sem]
 refine Zaf (hbrk1 _ _ (oi h1).symm ?_)
 refine ZaE.go [] [] rfl ?_
 try simp only[Zag.x0,c8,go_sem]
 rintro l7 hr_
 subst hr_
 simp only at h0
 refine rS ?_
 try simp only[Zag.x0,go_sem]
 obtain rfl:=oi h0
 refine Zl5 (by simp) ?_ ?_
 try simp only[F74.rs,Zb6,Option.bind_some,go_sem]
 try simp only[List.cons_append,List.nil_append,go_sem]
def F20.c:SC:=
 (.seq
 (.reg [oq 3 (.box 42 (.tmp 0)) 0 [0],
 oq 4 (.box 48 (.tmp 1)) 0 [1],
 oq 5 (.box 25 (.tmp 2)) 0 [2],
 oq 6 (.alloc 42) 0 [],
 oq 7 (.alloc 48) 0 [],
 sn 8 0 28 [8]])
 (.seq
 (.seq
 (.reg [ld 15 42 3 [],
 ld 16 48 4 [],
 cf2 17 24 15 16 42 48 28 [15,16],
 sg 9 17 28 [17]])
 (.seq
 (.reg [mv 18 9 28 [],
 bn 19 .neq 28 18 0 28 4 [18]])
 (.cond (.tmp 19)
 (.seq
 (.reg [oq 20 (.build 42 #[]) 42 [],
 oq 21 (.build 48 #[]) 48 [],
 mv 22 9 28 [9],
 ⟨none,.store 42 (.tmp 6) (.tmp 20),0,none,[20]⟩,
 ⟨none,.store 48 (.tmp 7) (.tmp 21),0,none,[21]⟩,
 sg 8 22 28 [22]])
 .ret)
 .skip)))
 (.seq
 (.reg [fa 24 48 4 0 [],
 ld 25 46 24 [24],
 ld 26 25 5 [],
 cf2 27 71 25 26 46 25 73 [25,26],
 mv 23 27 73 [27],
 xt 28 23 0 46 [],
 xt 29 23 1 28 [23],
 oq 10 (.alloc 46) 0 [],
 ⟨none,.store 46 (.tmp 10) (.tmp 28),0,none,[28]⟩,
 sg 11 29 28 [29]])
 (.seq
 (.seq
 (.reg [mv 30 11 28 [],
 bn 31 .neq 28 30 0 28 4 [30]])
 (.cond (.tmp 31)
 (.seq
 (.reg [oq 32 (.build 42 #[]) 42 [],
 oq 33 (.build 48 #[]) 48 [],
 mv 34 11 28 [11],
 ⟨none,.store 42 (.tmp 6) (.tmp 32),0,none,[32]⟩,
 ⟨none,.store 48 (.tmp 7) (.tmp 33),0,none,[33]⟩,
 sg 8 34 28 [34]])
 .ret)
 .skip))
 (.seq
 (.reg [ld 35 42 3 [3],
 cf1 36 72 35 42 130 [35],
 sg 12 36 130 [36]])
 (.seq
 (.reg [ld 37 48 4 [],
 cf1 38 73 37 48 48 [37],
 oq 13 (.alloc 48) 0 [],
 ⟨none,.store 48 (.tmp 13) (.tmp 38),0,none,[38]⟩])
 (.seq
 (.seq
 (.reg [fa 39 46 10 0 [],
 ld 40 44 39 [39],
 ln 41 40 44 3 [40],
 fa 42 48 4 0 [],
 fa 43 46 42 0 [42],
 ld 44 44 43 [43],
 ln 45 44 44 3 [44],
 b2 46 .eql 3 41 45 3 4 [41,45]])
 (.cond (.tmp 46)
 (.seq
 (.dreg [mv 47 12 130 [],
 oq 48 (.nilCheck (.tmp 47)) 0 [],
 fa 49 134 48 0 [],
 ld 50 42 49 [],
 ld 51 48 13 [],
 ⟨none,.store 42 (.tmp 6) (.tmp 50),0,none,[]⟩,
 ⟨none,.store 48 (.tmp 7) (.tmp 51),0,none,[]⟩,
 sn 8 0 28 []] [[],[0],[0,1],[0,1,2],[],[0,1,2,3],[4,0,1,2,3,5],[4,0,1,2,3,5,6]] [12,13,47,48,49,50,51])
 .ret)
 .skip))
 (.seq
 (.reg [ld 52 25 5 [5],
 fa 53 48 4 0 [],
 fa 54 46 53 0 [53],
 ld 55 44 54 [54],
 ln 56 55 44 3 [55],
 fa 57 48 4 2 [],
 ld 58 3 57 [57],
 oq 59 (.call ⟨.value (.func 66),#[.tmp 52,.tmp 56,.tmp 58],#[25,3,3]⟩) 124 [52,56,58],
 sg 14 59 124 [59]])
 (.seq
 (.seq
 (.reg [fa 60 48 4 3 [],
 ld 61 3 60 [60],
 mv 62 14 124 [],
 ln 63 62 124 3 [62],
 b2 64 .add 3 61 63 3 3 [61,63],
 bn 65 .gtr 3 64 602 3 4 [64]])
 (.cond (.tmp 65)
 (.seq
 (.reg [oq 66 (.build 42 #[]) 42 [],
 oq 67 (.build 48 #[]) 48 [],
 ⟨none,.store 42 (.tmp 6) (.tmp 66),0,none,[66]⟩,
 ⟨none,.store 48 (.tmp 7) (.tmp 67),0,none,[67]⟩,
 sn 8 2 28 []])
 .ret)
 .skip))
 (.seq
 (.reg [mv 68 12 130 [],
 fa 69 48 4 1 [],
 ld 70 3 69 [69],
 fa 71 48 4 3 [],
 ld 72 3 71 [71],
 mv 73 14 124 [],
 oq 74 (.call ⟨.value (.func 74),#[.tmp 68,.tmp 70,.tmp 72,.tmp 73],#[130,3,3,124]⟩) 0 [68,70,72,73,74]])
 (.seq
 (.seq
 (.reg [mv 75 12 130 [],
 oq 76 (.nilCheck (.tmp 75)) 0 [75],
 fa 77 134 76 0 [76],
 fa 78 42 77 1 [77],
 ld 79 40 78 [78],
 ln 80 79 40 3 [79],
 bn 81 .gtr 3 80 1200 3 4 [80]])
 (.cond (.tmp 81)
 (.seq
 (.reg [oq 82 (.build 42 #[]) 42 [],
 oq 83 (.build 48 #[]) 48 [],
 ⟨none,.store 42 (.tmp 6) (.tmp 82),0,none,[82]⟩,
 ⟨none,.store 48 (.tmp 7) (.tmp 83),0,none,[83]⟩,
 sn 8 2 28 []])
 .ret)
 .skip))
 (.seq
 (.dreg [ld 84 46 10 [],
 fa 85 48 4 3 [],
 ld 86 3 85 [],
 mv 87 14 124 [],
 ln 88 87 124 3 [],
 b2 89 .add 3 86 88 3 3 [],
 fa 90 48 13 0 [],
 ⟨none,.store 46 (.tmp 90) (.tmp 84),0,none,[]⟩,
 fa 91 48 13 3 [],
 ⟨none,.store 3 (.tmp 91) (.tmp 89),0,none,[]⟩] [[],[],[1],[],[3],[1,2,3,4],[0],[0,6],[0,1,2,3,4,5,6,7],[0,1,2,3,4,5,6,7,8]] [4,10,14,84,85,86,87,88,89,90,91])
 (.seq
 (.dreg [mv 92 12 130 [],
 oq 93 (.nilCheck (.tmp 92)) 0 [],
 fa 94 134 93 0 [],
 ld 95 42 94 [],
 ld 96 48 13 [],
 ⟨none,.store 42 (.tmp 6) (.tmp 95),0,none,[]⟩,
 ⟨none,.store 48 (.tmp 7) (.tmp 96),0,none,[]⟩,
 sn 8 0 28 []] [[],[0],[0,1],[0,1,2],[],[0,1,2,3],[4,0,1,2,3,5],[4,0,1,2,3,5,6]] [12,13,92,93,94,95,96])
 .ret)))))))))))))
theorem F20.rs:Try.f20.results.toList=[.cell 6 42,.cell 7 48,.tmp 8]:=rfl
def Zbo (k:Nat) (d0:Disk) (l1:Ledger) (r2:Record):Option (Disk×Ledger×Int):=
 (Zb3 k d0 l1).bind fun x1=>
 bif (!decide (x1=(0:Int))) then
  some ((⟨[],[]⟩:Disk),(⟨(⟨[]⟩:Book),0,0,0⟩:Ledger),x1)
 else
  (Zc6 k l1.Book r2).bind fun x3=>
  bif (!decide (x3.2=(0:Int))) then
   some ((⟨[],[]⟩:Disk),(⟨(⟨[]⟩:Book),0,0,0⟩:Ledger),x3.2)
  else
   (Zbn k d0).bind fun x6=>
   (Zbe k l1).bind fun x7=>
   bif decide ((x3.1.Records.length:Int)=(l1.Book.Records.length:Int)) then
    some (x6.Disk,x7,0)
   else
    (ZaL k r2 (l1.Book.Records.length:Int) l1.Epoch).bind fun x9=>
    bif decide ((602:Int)<w64 (l1.Used+(x9.length:Int))) then
     some ((⟨[],[]⟩:Disk),(⟨(⟨[]⟩:Book),0,0,0⟩:Ledger),2)
    else
     (Zag k x6 l1.Area l1.Used x9).bind fun x12=>
     bif decide ((1200:Int)<((x12.Disk.Wait.length:Nat):Int)) then
      some ((⟨[],[]⟩:Disk),(⟨(⟨[]⟩:Book),0,0,0⟩:Ledger),2)
     else
      some (x12.Disk,(⟨x3.1,x7.Area,x7.Epoch,w64 (l1.Used+(x9.length:Int))⟩:Ledger),0)
theorem Zdg (k:Nat) (d0:Disk) (l1:Ledger) (r2:Record) (r:Disk×Ledger×Int) (h0:Zbo k d0 l1 r2=some r):Za6 Try.prog 20 [.agg (Disk.c d0),.agg (Ledger.c l1),.agg (Record.c r2)] (fun y=>y=.tup [.agg (Disk.c r.1),.agg (Ledger.c r.2.1),.int .i64 r.2.2]):=by
 refine PB (fn:=Try.f20) (sc:=F20.c) ?_
 refine rS ?_
 simp only[Zbo]at h0
 try simp only[F20.c,go_sem]
 obtain⟨x1,yx1,h0⟩:=bs h0
 refine zc0 (ZdI k _ _ _ yx1) ?_ (by first|rfl|(simp[AV.refsL,AV.refs,AV.scal,AV.leaf];done)|simp[AV.refsL,AV.refs,AV.scal,AV.leaf,go_sem]) ?_
 try simp only[go_sem]
 try simp only[go_sem]
 refine Zab h0 ?_ ?_<;>intro c2 h0
 have c2:=ZaB c2
 try simp only[c2,go_sem]
 obtain rfl:=oi h0
 refine Zac rfl ?_
 try simp only[F20.rs,c2,go_sem]
 have c2:=ZaA c2
 try simp only[c2,go_sem]
 obtain⟨x3,yx3,h0⟩:=bs h0
 refine zc0 (ZeN k _ _ _ yx3) ?_ (by first|rfl|(simp[AV.refsL,AV.refs,AV.scal,AV.leaf];done)|simp[AV.refsL,AV.refs,AV.scal,AV.leaf,go_sem]) ?_
 try simp only[c2,go_sem]
 try simp only[c2,go_sem]
 refine Zab h0 ?_ ?_<;>intro c4 h0
 have c4:=ZaB c4
 try simp only[c4,c2,go_sem]
 obtain rfl:=oi h0
 refine Zac rfl ?_
 try simp only[F20.rs,c2,c4,go_sem]
 have c4:=ZaA c4
 try simp only[c4,c2,go_sem]
 obtain⟨x6,yx6,h0⟩:=bs h0
 refine Zei Za9 1000 [] [] (ZbA k _ _ yx6) ?_ rfl ?_
 try simp only[gOK,c2,c4,go_sem]
 try simp only[c2,c4,go_sem]
 obtain⟨x7,yx7,h0⟩:=bs h0
 refine zc0 (ZcI k _ _ yx7) ?_ (by first|rfl|(simp[AV.refsL,AV.refs,AV.scal,AV.leaf];done)|simp[AV.refsL,AV.refs,AV.scal,AV.leaf,go_sem]) ?_
 try simp only[c2,c4,go_sem]
 try simp only[c2,c4,go_sem]
 refine Zab h0 ?_ ?_<;>intro c8 h0
 try simp only[c8,c2,c4,go_sem]
 refine Zas Za9 Zat 1000 ?_
 try simp only[c2,c4,c8,go_sem]
 refine Za4 ⟨Za3 (by simp only[ZcE,List.reverse_cons,List.reverse_nil,List.nil_append,List.cons_append,List.map_cons,List.map_nil,List.append_nil];rfl) (by first|decide +kernel|rfl),Zae Za9 1000 _ _ ?_⟩
 try simp only[c2,c4,c8,go_sem]
 obtain rfl:=oi h0
 refine Zac rfl ?_
 try simp only[F20.rs,c2,c4,c8,go_sem]
 try simp only[c8,c2,c4,go_sem]
 obtain⟨x9,yx9,h0⟩:=bs h0
 refine zc0 (Ze9 k _ _ _ _ yx9) ?_ (by first|rfl|(simp[AV.refsL,AV.refs,AV.scal,AV.leaf];done)|simp[AV.refsL,AV.refs,AV.scal,AV.leaf,go_sem]) ?_
 try simp only[c2,c4,c8,go_sem]
 try simp only[c2,c4,c8,go_sem]
 refine Zab h0 ?_ ?_<;>intro c10 h0
 try simp only[c10,c2,c4,c8,go_sem]
 obtain rfl:=oi h0
 refine Zac rfl ?_
 try simp only[F20.rs,c2,c4,c8,c10,go_sem]
 try simp only[c10,c2,c4,c8,go_sem]
 obtain⟨x12,yx12,h0⟩:=bs h0
 refine Zfk [4,6,7,9,10,11,12,13,14,19,31,46,65] [400,401,402,16,48,49,50,64,65,304,464] 11 rfl ?_
 try simp only[c2,c4,c8,c10,go_sem]
 refine Zeq (ZgM k _ _ _ _ _ yx12) ?_ ?_
 try simp only[c2,c4,c8,c10,go_sem]
 try simp only[List.take_succ_cons,List.drop_succ_cons,List.length_cons,List.length_nil,c2,c4,c8,c10,go_sem]
 refine rS ?_
 try simp only[c2,c4,c8,c10,go_sem]
 refine Zab h0 ?_ ?_<;>intro c13 h0
 try simp only[c13,c2,c4,c8,c10,go_sem]
 obtain rfl:=oi h0
 refine Zac rfl ?_
 try simp only[F20.rs,c2,c4,c8,c10,c13,go_sem]
 try simp only[c13,c2,c4,c8,c10,go_sem]
 refine Zas Za9 Zat 1000 ?_
 try simp only[c2,c4,c8,c10,c13,go_sem]
 refine Za4 ⟨Za3 (by simp only[ZcE,List.reverse_cons,List.reverse_nil,List.nil_append,List.cons_append,List.map_cons,List.map_nil,List.append_nil];rfl) (by first|decide +kernel|rfl),Zae Za9 1000 _ _ ?_⟩
 try simp only[c2,c4,c8,c10,c13,go_sem]
 refine Zas Za9 Zat 1000 ?_
 try simp only[c2,c4,c8,c10,c13,go_sem]
 refine Za4 ⟨Za3 (by simp only[ZcE,List.reverse_cons,List.reverse_nil,List.nil_append,List.cons_append,List.map_cons,List.map_nil,List.append_nil];rfl) (by first|decide +kernel|rfl),Zae Za9 1000 _ _ ?_⟩
 try simp only[c2,c4,c8,c10,c13,go_sem]
 obtain rfl:=oi h0
 refine Zac rfl ?_
 try simp only[F20.rs,c2,c4,c8,c10,c13,go_sem]
def F26.c:SC:=
 (.seq
 (.reg [oq 1 (.box 25 (.tmp 0)) 0 [0],
 oq 2 (.assign (.const (.slice none 0 0))) 56 [2],
 sn 3 0 28 [3]])
 (.seq
 (.seq
 (.reg [ld 5 25 1 [],
 cf1 6 30 5 25 28 [5],
 sg 4 6 28 [6]])
 (.seq
 (.reg [mv 7 4 28 [],
 bn 8 .neq 28 7 0 28 4 [7]])
 (.cond (.tmp 8)
 (.seq
 (.reg [mv 9 4 28 [4],
 oq 2 (.assign (.const (.slice none 0 0))) 56 [],
 sg 3 9 28 [9]])
 .ret)
 .skip)))
 (.seq
 (.reg [ld 10 25 1 [1],
 cf1 11 88 10 25 56 [10],
 sg 2 11 56 [11],
 sn 3 0 28 []])
 .ret)))
theorem F26.rs:Try.f26.results.toList=[.tmp 2,.tmp 3]:=rfl
def Zgz (k:Nat) (r0:Record):Option ((List Int)×Int):=
 (Zcz k r0).bind fun x1=>
 bif (!decide (x1=(0:Int))) then
  some ([],x1)
 else
  (Zav k r0).bind fun x3=>
  some (x3,0)
theorem Zjg (k:Nat) (r0:Record) (r:(List Int)×Int) (h0:Zgz k r0=some r):Za6 Try.prog 26 [.agg (Record.c r0)] (fun y=>y=.tup [.sl 1 (List.map eU8 r.1),.int .i64 r.2]):=by
 refine PB (fn:=Try.f26) (sc:=F26.c) ?_
 refine rS ?_
 simp only[Zgz]at h0
 try simp only[F26.c,go_sem]
 obtain⟨x1,yx1,h0⟩:=bs h0
 refine zc0 (ZdG k _ _ yx1) ?_ (by first|rfl|(simp[AV.refsL,AV.refs,AV.scal,AV.leaf];done)|simp[AV.refsL,AV.refs,AV.scal,AV.leaf,go_sem]) ?_
 try simp only[go_sem]
 try simp only[go_sem]
 refine Zab h0 ?_ ?_<;>intro c2 h0
 have c2:=ZaB c2
 try simp only[c2,go_sem]
 obtain rfl:=oi h0
 refine Zac rfl ?_
 try simp only[F26.rs,c2,go_sem]
 have c2:=ZaA c2
 try simp only[c2,go_sem]
 obtain⟨x3,yx3,h0⟩:=bs h0
 refine zc0 (ZgJ k _ _ yx3) ?_ (by first|rfl|(simp[AV.refsL,AV.refs,AV.scal,AV.leaf];done)|simp[AV.refsL,AV.refs,AV.scal,AV.leaf,go_sem]) ?_
 try simp only[c2,go_sem]
 try simp only[c2,go_sem]
 obtain rfl:=oi h0
 refine Zac rfl ?_
 try simp only[F26.rs,c2,go_sem]
def F32.c:SC:=
 (.seq
 (.reg [oq 1 (.box 42 (.tmp 0)) 0 [0],
 oq 2 (.alloc 42) 0 [],
 oq 3 (.alloc 48) 0 [],
 sn 4 0 28 [4]])
 (.seq
 (.seq
 (.reg [ld 9 42 1 [],
 cf1 10 78 9 42 4 [9],
 oq 11 (.unOp .not 4 (.tmp 10)) 4 [10]])
 (.cond (.tmp 11)
 (.seq
 (.reg [oq 12 (.build 42 #[]) 42 [],
 oq 13 (.build 48 #[]) 48 [],
 ⟨none,.store 42 (.tmp 2) (.tmp 12),0,none,[12]⟩,
 ⟨none,.store 48 (.tmp 3) (.tmp 13),0,none,[13]⟩,
 sn 4 94 28 []])
 .ret)
 .skip))
 (.seq
 (.reg [ld 14 42 1 [1],
 cf1 15 72 14 42 130 [14],
 cf1 16 79 15 130 130 [15],
 sg 5 16 130 [16]])
 (.seq
 (.reg [mv 18 5 130 [],
 cf1 19 80 18 130 146 [18],
 mv 17 19 146 [19],
 xt 20 17 0 145 [],
 xt 21 17 1 4 [17],
 oq 6 (.alloc 145) 0 [],
 ⟨none,.store 145 (.tmp 6) (.tmp 20),0,none,[20]⟩,
 sg 7 21 4 [21]])
 (.seq
 (.seq
 (.reg [mv 22 7 4 [7],
 oq 23 (.unOp .not 4 (.tmp 22)) 4 [22]])
 (.cond (.tmp 23)
 (.seq
 (.reg [oq 24 (.build 42 #[]) 42 [],
 oq 25 (.build 48 #[]) 48 [],
 ⟨none,.store 42 (.tmp 2) (.tmp 24),0,none,[24]⟩,
 ⟨none,.store 48 (.tmp 3) (.tmp 25),0,none,[25]⟩,
 sn 4 95 28 []])
 .ret)
 .skip))
 (.seq
 (.reg [mv 26 5 130 [],
 oq 27 (.call ⟨.value (.func 82),#[.tmp 26,.const (.int .i64 0),.const (.int .i64 0)],#[130,3,3]⟩) 3 [26],
 mv 28 5 130 [],
 oq 29 (.call ⟨.value (.func 82),#[.tmp 28,.const (.int .i64 1),.const (.int .i64 0)],#[130,3,3]⟩) 3 [28],
 oq 30 (.call ⟨.builtin .max,#[.tmp 27,.tmp 29],#[3,3]⟩) 3 [27,29],
 oq 31 (.binOp .add 3 (.const (.int .i64 1)) (.tmp 30) 3) 3 [30],
 sg 8 31 3 [31]])
 (.seq
 (.seq
 (.reg [mv 32 8 3 [],
 bn 33 .gtr 3 32 1000000 3 4 [32]])
 (.cond (.tmp 33)
 (.seq
 (.reg [oq 34 (.build 42 #[]) 42 [],
 oq 35 (.build 48 #[]) 48 [],
 ⟨none,.store 42 (.tmp 2) (.tmp 34),0,none,[34]⟩,
 ⟨none,.store 48 (.tmp 3) (.tmp 35),0,none,[35]⟩,
 sn 4 2 28 []])
 .ret)
 .skip))
 (.seq
 (.dreg [mv 36 5 130 [],
 oq 37 (.nilCheck (.tmp 36)) 0 [],
 fa 38 134 37 0 [],
 ld 39 42 38 [],
 fa 40 145 6 4 [],
 ld 41 46 40 [],
 fa 42 145 6 1 [],
 ld 43 3 42 [],
 mv 44 8 3 [],
 fa 45 145 6 3 [],
 ld 46 3 45 [],
 oq 47 (.build 48 #[(0,.tmp 41),(1,.tmp 43),(2,.tmp 44),(3,.tmp 46)]) 48 [],
 ⟨none,.store 42 (.tmp 2) (.tmp 39),0,none,[]⟩,
 ⟨none,.store 48 (.tmp 3) (.tmp 47),0,none,[]⟩,
 sn 4 0 28 []] [[],[0],[0,1],[0,1,2],[],[4],[],[6],[],[],[9],[4,5,6,7,8,9,10],[0,1,2,3],[4,5,6,7,8,9,10,11,0,1,2,3,12],[4,5,6,7,8,9,10,11,0,1,2,3,12,13]] [5,6,8,36,37,38,39,40,41,42,43,44,45,46,47])
 .ret))))))))
theorem F32.rs:Try.f32.results.toList=[.cell 2 42,.cell 3 48,.tmp 4]:=rfl
def ZcS (k:Nat) (d0:Disk):Option (Disk×Ledger×Int):=
 (Zcj k d0).bind fun x1=>
 bif (!x1) then
  some ((⟨[],[]⟩:Disk),(⟨(⟨[]⟩:Book),0,0,0⟩:Ledger),94)
 else
  (Zbn k d0).bind fun x4=>
  (Zax k x4).bind fun x6=>
  (ZbL k (⟨(⟨x6.Disk.Pages,[]⟩:Disk)⟩:book_disk)).bind fun x7=>
  bif (!x7.2) then
   some ((⟨[],[]⟩:Disk),(⟨(⟨[]⟩:Book),0,0,0⟩:Ledger),95)
  else
   (Zap k (⟨(⟨x6.Disk.Pages,[]⟩:Disk)⟩:book_disk) 0 0).bind fun x9=>
   (Zap k (⟨(⟨x6.Disk.Pages,[]⟩:Disk)⟩:book_disk) 1 0).bind fun x10=>
   bif decide ((1000000:Int)<w64 (1+(max x9 x10))) then
    some ((⟨[],[]⟩:Disk),(⟨(⟨[]⟩:Book),0,0,0⟩:Ledger),2)
   else
    some ((⟨((⟨(⟨x6.Disk.Pages,[]⟩:Disk)⟩:book_disk).Disk).Pages,((⟨(⟨x6.Disk.Pages,[]⟩:Disk)⟩:book_disk).Disk).Wait⟩:Disk),(⟨x7.1.book,x7.1.area,w64 (1+(max x9 x10)),x7.1.used⟩:Ledger),0)
theorem ZdN (k:Nat) (d0:Disk) (r:Disk×Ledger×Int) (h0:ZcS k d0=some r):Za6 Try.prog 32 [.agg (Disk.c d0)] (fun y=>y=.tup [.agg (Disk.c r.1),.agg (Ledger.c r.2.1),.int .i64 r.2.2]):=by
 refine PB (fn:=Try.f32) (sc:=F32.c) ?_
 refine rS ?_
 simp only[ZcS]at h0
 try simp only[F32.c,go_sem]
 obtain⟨x1,yx1,h0⟩:=bs h0
 refine zc0 (Zdf k _ _ yx1) ?_ (by first|rfl|(simp[AV.refsL,AV.refs,AV.scal,AV.leaf];done)|simp[AV.refsL,AV.refs,AV.scal,AV.leaf,go_sem]) ?_
 try simp only[go_sem]
 try simp only[go_sem]
 refine Zab h0 ?_ ?_<;>intro c2 h0
 have c2:=ZaB c2
 try simp only[c2,go_sem]
 obtain rfl:=oi h0
 refine Zac rfl ?_
 try simp only[F32.rs,c2,go_sem]
 have c2:=ZaA c2
 try simp only[c2,go_sem]
 obtain⟨x4,yx4,h0⟩:=bs h0
 refine Zei Za9 1000 [] [] (ZbA k _ _ yx4) ?_ rfl ?_
 try simp only[gOK,c2,go_sem]
 try simp only[c2,go_sem]
 obtain⟨x6,yx6,h0⟩:=bs h0
 refine Zfk [2,3,11] [128,129,130,16,17,18,32,33] 8 rfl ?_
 try simp only[c2,go_sem]
 refine Zeq (Zcp k _ _ yx6) ?_ ?_
 try simp only[c2,go_sem]
 try simp only[List.take_succ_cons,List.drop_succ_cons,List.length_cons,List.length_nil,c2,go_sem]
 refine AK.weak (ZaE.fz 1 rfl (fun _ h=>by cases h)) ?_
 try simp only[c2,go_sem]
 refine AK.nlbox 0 1 65 rfl rfl ?_
 try simp only[c2,go_sem]
 refine AK.weak (ZaE.fz 0 rfl (fun _ h=>by cases h;rfl)) ?_
 try simp only[c2,go_sem]
 refine rS ?_
 try simp only[c2,go_sem]
 obtain⟨x7,yx7,h0⟩:=bs h0
 refine zc0 (ZdX k _ _ yx7) ?_ (by first|rfl|(simp[AV.refsL,AV.refs,AV.scal,AV.leaf];done)|simp[AV.refsL,AV.refs,AV.scal,AV.leaf,go_sem]) ?_
 try simp only[c2,go_sem]
 try simp only[c2,go_sem]
 refine Zab h0 ?_ ?_<;>intro c8 h0
 have c8:=ZaB c8
 try simp only[c8,c2,go_sem]
 obtain rfl:=oi h0
 refine Zac rfl ?_
 try simp only[F32.rs,c2,c8,go_sem]
 have c8:=ZaA c8
 try simp only[c8,c2,go_sem]
 obtain⟨x9,yx9,h0⟩:=bs h0
 refine zc0 (Zb4 k _ _ _ _ yx9) ?_ (by first|rfl|(simp[AV.refsL,AV.refs,AV.scal,AV.leaf];done)|simp[AV.refsL,AV.refs,AV.scal,AV.leaf,go_sem]) ?_
 try simp only[c2,c8,go_sem]
 try simp only[c2,c8,go_sem]
 obtain⟨x10,yx10,h0⟩:=bs h0
 refine zc0 (Zb4 k _ _ _ _ yx10) ?_ (by first|rfl|(simp[AV.refsL,AV.refs,AV.scal,AV.leaf];done)|simp[AV.refsL,AV.refs,AV.scal,AV.leaf,go_sem]) ?_
 try simp only[c2,c8,go_sem]
 try simp only[c2,c8,go_sem]
 refine Zab h0 ?_ ?_<;>intro c11 h0
 try simp only[c11,c2,c8,go_sem]
 obtain rfl:=oi h0
 refine Zac rfl ?_
 try simp only[F32.rs,c2,c8,c11,go_sem]
 try simp only[c11,c2,c8,go_sem]
 refine Zas Za9 Zat 1000 ?_
 try simp only[c2,c8,c11,go_sem]
 refine Za4 ⟨Za3 (by simp only[ZcE,List.reverse_cons,List.reverse_nil,List.nil_append,List.cons_append,List.map_cons,List.map_nil,List.append_nil];rfl) (by first|decide +kernel|rfl),Zae Za9 1000 _ _ ?_⟩
 try simp only[c2,c8,c11,go_sem]
 obtain rfl:=oi h0
 refine Zac rfl ?_
 try simp only[F32.rs,c2,c8,c11,go_sem]
def F36.s1:SC:=
 (.seq
 (.reg [bn 42 .lss 3 41 2 3 0 []])
 (.seq
 (.cond (.tmp 42)
 .skip
 (.exit 2))
 (.seq
 (.block 3
 (.seq
 (.reg [mv 43 41 3 [],
 sg 9 43 3 [43]])
 (.seq
 (.reg [mv 44 8 3 [],
 mv 45 9 3 [],
 b2 46 .shr 3 44 45 3 3 [44,45],
 bn 47 .and 3 46 1 3 3 [46],
 bn 48 .eql 3 47 1 3 4 [47]])
 (.cond (.tmp 48)
 (.dreg [mv 49 5 130 [],
 oq 50 (.nilCheck (.tmp 49)) 0 [],
 fa 51 134 50 0 [],
 fa 52 42 51 0 [],
 ld 53 39 52 [],
 fa 54 141 7 0 [],
 ld 55 3 54 [],
 mv 56 9 3 [],
 mv 57 9 3 [],
 fa 58 141 7 1 [],
 ia 59 139 58 57 [],
 ld 60 122 59 [],
 ia 61 39 53 55 [],
 ia 62 139 61 56 [],
 ⟨none,.store 122 (.tmp 62) (.tmp 60),0,none,[]⟩] [[],[0],[0,1],[0,1,2],[0,1,2,3],[],[5],[],[],[],[9,8],[9,8,10],[0,1,2,3,4,5,6],[0,1,2,3,4,5,6,12,7,8,9,10,11],[0,1,2,3,4,5,6,12,7,8,9,10,11,13]] [9,49,50,51,52,53,54,55,56,57,58,59,60,61,62])
 .skip))))
 (.reg [bn 63 .add 3 41 1 3 3 [41],
 mv 41 63 3 [63]]))))
def F36.s0:SC:=
 (.seq
 (.reg [b2 26 .lss 3 25 24 3 0 []])
 (.seq
 (.cond (.tmp 26)
 .skip
 (.exit 0))
 (.seq
 (.block 1
 (.seq
 (.reg [mv 27 25 3 [],
 ia 28 40 23 25 [],
 ld 29 141 28 [28],
 oq 7 (.alloc 141) 0 [],
 sg 6 27 3 [27],
 ⟨none,.store 141 (.tmp 7) (.tmp 29),0,none,[29]⟩])
 (.seq
 (.reg [sn 8 0 3 []])
 (.seq
 (.seq
 (.reg [mv 30 1 63 [],
 ln 31 30 63 3 [30],
 bn 32 .gtr 3 31 0 3 4 [31]])
 (.cond (.tmp 32)
 (.reg [mv 33 1 63 [],
 mv 34 6 3 [6],
 mv 35 1 63 [],
 ln 36 35 63 3 [35],
 b2 37 .rem 3 34 36 3 3 [34,36],
 ia 38 63 33 37 [33,37],
 ld 39 3 38 [38],
 bn 40 .and 3 39 3 3 3 [39],
 sg 8 40 3 [40]])
 .skip))
 (.seq
 (.reg [oq 41 (.move (.const (.int .i64 0))) 3 []])
 (.block 2
 (.loop F36.s1)))))))
 (.reg [bn 64 .add 3 25 1 3 3 [25],
 mv 25 64 3 [64]]))))
def F36.c:SC:=
 (.seq
 (.reg [oq 2 (.box 42 (.tmp 0)) 0 [0],
 oq 4 (.alloc 42) 0 []])
 (.seq
 (.reg [ld 10 42 2 [],
 cf1 11 72 10 42 130 [10],
 sg 5 11 130 [11]])
 (.seq
 (.seq
 (.reg [ld 12 42 2 [2],
 cf1 13 78 12 42 4 [12],
 oq 14 (.unOp .not 4 (.tmp 13)) 4 [13]])
 (.cond (.tmp 14)
 (.seq
 (.reg [mv 15 5 130 [5],
 oq 16 (.nilCheck (.tmp 15)) 0 [15],
 fa 17 134 16 0 [16],
 ld 18 42 17 [17],
 ⟨none,.store 42 (.tmp 4) (.tmp 18),0,none,[18]⟩])
 .ret)
 .skip))
 (.seq
 (.seq
 (.reg [mv 19 5 130 [],
 oq 20 (.nilCheck (.tmp 19)) 0 [19],
 fa 21 134 20 0 [20],
 fa 22 42 21 1 [21],
 ld 23 40 22 [22],
 ln 24 23 40 3 [],
 oq 25 (.move (.const (.int .i64 0))) 3 []])
 (.block 0
 (.loop F36.s0)))
 (.seq
 (.reg [mv 65 5 130 [],
 oq 66 (.nilCheck (.tmp 65)) 0 [65],
 fa 67 134 66 0 [66],
 fa 68 42 67 1 [67],
 ⟨none,.store 40 (.tmp 68) (.const (.slice none 0 0)),0,none,[68]⟩])
 (.seq
 (.reg [mv 69 5 130 [5],
 oq 70 (.nilCheck (.tmp 69)) 0 [69],
 fa 71 134 70 0 [70],
 ld 72 42 71 [71],
 ⟨none,.store 42 (.tmp 4) (.tmp 72),0,none,[72]⟩])
 .ret))))))
theorem F36.rs:Try.f36.results.toList=[.cell 4 42]:=rfl
def Zan.b1 (k:Nat) (x9:Write) (x12:Int):(Int×(List (Vec 2 (Vec 32 Int))))→Option (Stp (Int×(List (Vec 2 (Vec 32 Int)))) ((List (Vec 2 (Vec 32 Int)))) (Disk)):=fun(s:Int×(List (Vec 2 (Vec 32 Int))))=>match s with
 |(i13,l14)=>
   bif decide (i13<(2:Int)) then
    (sh? i13).bind fun _=>
    bif decide (ZpH .i64 (Int.fdiv (ZpH .i64 x12 3) (2 ^ (min (Int.toNat i13) 64))) 1=(1:Int)) then
     (x9.Page.at? i13).bind fun x19=>
     (at? l14 x9.At).bind fun x20=>
     (x20.at? i13).bind fun x21=>
     (ZlT l14 x9.At (x20.set i13 x19)).bind fun l23=>
     some (.next (w64 (i13+1),l23))
    else
     some (.next (w64 (i13+1),l14))
   else
    some (.brk l14)
def Zan.b1_2 (k:Nat) (x9:Write):(Int×(List (Vec 2 (Vec 32 Int))))→Option (Stp (Int×(List (Vec 2 (Vec 32 Int)))) ((List (Vec 2 (Vec 32 Int)))) (Disk)):=fun(s:Int×(List (Vec 2 (Vec 32 Int))))=>match s with
 |(i25,l26)=>
   bif decide (i25<(2:Int)) then
    (sh? i25).bind fun _=>
    bif decide (ZpH .i64 (Int.fdiv 0 (2 ^ (min (Int.toNat i25) 64))) 1=(1:Int)) then
     (x9.Page.at? i25).bind fun x31=>
     (at? l26 x9.At).bind fun x32=>
     (x32.at? i25).bind fun x33=>
     (ZlT l26 x9.At (x32.set i25 x31)).bind fun l35=>
     some (.next (w64 (i25+1),l35))
    else
     some (.next (w64 (i25+1),l26))
   else
    some (.brk l26)
def Zan.b0 (k:Nat) (picks1:(List Int)) (x2:book_disk):(Int×(List (Vec 2 (Vec 32 Int))))→Option (Stp (Int×(List (Vec 2 (Vec 32 Int)))) ((List (Vec 2 (Vec 32 Int)))) (Disk)):=fun(s:Int×(List (Vec 2 (Vec 32 Int))))=>match s with
 |(i5,l6)=>
   bif decide (i5<((x2.Disk.Wait.length:Nat):Int)) then
    (at? x2.Disk.Wait i5).bind fun x9=>
    bif decide ((0:Int)<(picks1.length:Int)) then
     (nz? (picks1.length:Int)).bind fun _=>
     (at? picks1 (Int.tmod i5 (picks1.length:Int))).bind fun x12=>
     (whl (Zan.b1 k x9 x12) k (0,l6)).bind fun r24=>match r24 with
     |.next _=>none
     |.ret v_=>some (.ret v_)
     |.brk l15=>
      some (.next (w64 (i5+1),l15))
    else
     (whl (Zan.b1_2 k x9) k (0,l6)).bind fun r36=>match r36 with
     |.next _=>none
     |.ret v_=>some (.ret v_)
     |.brk l27=>
      some (.next (w64 (i5+1),l27))
   else
    some (.brk l6)
noncomputable def Zan.h1 (picks1:(List Int)) (x2:book_disk) (i5:Int) (x9:Write) (x12:Int):(Int×(List (Vec 2 (Vec 32 Int))))→St:=fun(s:Int×(List (Vec 2 (Vec 32 Int))))=>match s with
 |(i13,l14)=>⟨[(1,.sl 1 (List.map eI picks1)),(4,.ptr 0 0 0),(5,.ptr 0 3 0),(7,.ptr 0 6 0),(8,.int .i64 (ZpH .i64 x12 3)),(23,.loc 0 5 65 0 x2.Disk.Wait.length x2.Disk.Wait.length),(24,.int .i64 ((x2.Disk.Wait.length:Nat):Int)),(25,.int .i64 i5),(41,.int .i64 i13)],[(0,.box ([.loc 0 1 64 0 0 0,.loc 0 2 65 0 0 0])),(1,.arr 139 64 (List.map (Vec.c (n:=2) (Vec.c (n:=32) eU8)) [])),(2,.arr 141 65 (List.map Write.c [])),(3,.box ([.loc 0 4 64 0 l14.length l14.length,.loc 0 5 65 0 x2.Disk.Wait.length x2.Disk.Wait.length])),(4,.arr 139 64 (List.map (Vec.c (n:=2) (Vec.c (n:=32) eU8)) l14)),(5,.arr 141 65 (List.map Write.c x2.Disk.Wait)),(6,.box ([.int .i64 x9.At]++(Vec.c (n:=2) (Vec.c (n:=32) eU8) x9.Page)))],[],7,Try.f36.ntmps⟩
noncomputable def Zan.x1 (picks1:(List Int)) (x2:book_disk) (i5:Int):(List (Vec 2 (Vec 32 Int)))→St:=fun(l15:(List (Vec 2 (Vec 32 Int))))=>⟨[(1,.sl 1 (List.map eI picks1)),(4,.ptr 0 0 0),(5,.ptr 0 3 0),(23,.loc 0 5 65 0 x2.Disk.Wait.length x2.Disk.Wait.length),(24,.int .i64 ((x2.Disk.Wait.length:Nat):Int)),(25,.int .i64 i5)],[(0,.box ([.loc 0 1 64 0 0 0,.loc 0 2 65 0 0 0])),(1,.arr 139 64 (List.map (Vec.c (n:=2) (Vec.c (n:=32) eU8)) [])),(2,.arr 141 65 (List.map Write.c [])),(3,.box ([.loc 0 4 64 0 l15.length l15.length,.loc 0 5 65 0 x2.Disk.Wait.length x2.Disk.Wait.length])),(4,.arr 139 64 (List.map (Vec.c (n:=2) (Vec.c (n:=32) eU8)) l15)),(5,.arr 141 65 (List.map Write.c x2.Disk.Wait))],[],6,Try.f36.ntmps⟩
noncomputable def Zan.h1_2 (picks1:(List Int)) (x2:book_disk) (i5:Int) (x9:Write):(Int×(List (Vec 2 (Vec 32 Int))))→St:=fun(s:Int×(List (Vec 2 (Vec 32 Int))))=>match s with
 |(i25,l26)=>⟨[(1,.sl 1 (List.map eI picks1)),(4,.ptr 0 0 0),(5,.ptr 0 3 0),(7,.ptr 0 6 0),(8,.int .i64 0),(23,.loc 0 5 65 0 x2.Disk.Wait.length x2.Disk.Wait.length),(24,.int .i64 ((x2.Disk.Wait.length:Nat):Int)),(25,.int .i64 i5),(41,.int .i64 i25)],[(0,.box ([.loc 0 1 64 0 0 0,.loc 0 2 65 0 0 0])),(1,.arr 139 64 (List.map (Vec.c (n:=2) (Vec.c (n:=32) eU8)) [])),(2,.arr 141 65 (List.map Write.c [])),(3,.box ([.loc 0 4 64 0 l26.length l26.length,.loc 0 5 65 0 x2.Disk.Wait.length x2.Disk.Wait.length])),(4,.arr 139 64 (List.map (Vec.c (n:=2) (Vec.c (n:=32) eU8)) l26)),(5,.arr 141 65 (List.map Write.c x2.Disk.Wait)),(6,.box ([.int .i64 x9.At]++(Vec.c (n:=2) (Vec.c (n:=32) eU8) x9.Page)))],[],7,Try.f36.ntmps⟩
noncomputable def Zan.x1_2 (picks1:(List Int)) (x2:book_disk) (i5:Int):(List (Vec 2 (Vec 32 Int)))→St:=fun(l27:(List (Vec 2 (Vec 32 Int))))=>⟨[(1,.sl 1 (List.map eI picks1)),(4,.ptr 0 0 0),(5,.ptr 0 3 0),(23,.loc 0 5 65 0 x2.Disk.Wait.length x2.Disk.Wait.length),(24,.int .i64 ((x2.Disk.Wait.length:Nat):Int)),(25,.int .i64 i5)],[(0,.box ([.loc 0 1 64 0 0 0,.loc 0 2 65 0 0 0])),(1,.arr 139 64 (List.map (Vec.c (n:=2) (Vec.c (n:=32) eU8)) [])),(2,.arr 141 65 (List.map Write.c [])),(3,.box ([.loc 0 4 64 0 l27.length l27.length,.loc 0 5 65 0 x2.Disk.Wait.length x2.Disk.Wait.length])),(4,.arr 139 64 (List.map (Vec.c (n:=2) (Vec.c (n:=32) eU8)) l27)),(5,.arr 141 65 (List.map Write.c x2.Disk.Wait))],[],6,Try.f36.ntmps⟩
noncomputable def Zan.h0 (picks1:(List Int)) (x2:book_disk):(Int×(List (Vec 2 (Vec 32 Int))))→St:=fun(s:Int×(List (Vec 2 (Vec 32 Int))))=>match s with
 |(i5,l6)=>⟨[(1,.sl 1 (List.map eI picks1)),(4,.ptr 0 0 0),(5,.ptr 0 3 0),(23,.loc 0 5 65 0 x2.Disk.Wait.length x2.Disk.Wait.length),(24,.int .i64 ((x2.Disk.Wait.length:Nat):Int)),(25,.int .i64 i5)],[(0,.box ([.loc 0 1 64 0 0 0,.loc 0 2 65 0 0 0])),(1,.arr 139 64 (List.map (Vec.c (n:=2) (Vec.c (n:=32) eU8)) [])),(2,.arr 141 65 (List.map Write.c [])),(3,.box ([.loc 0 4 64 0 l6.length l6.length,.loc 0 5 65 0 x2.Disk.Wait.length x2.Disk.Wait.length])),(4,.arr 139 64 (List.map (Vec.c (n:=2) (Vec.c (n:=32) eU8)) l6)),(5,.arr 141 65 (List.map Write.c x2.Disk.Wait))],[],6,Try.f36.ntmps⟩
noncomputable def Zan.x0 (x2:book_disk):(List (Vec 2 (Vec 32 Int)))→St:=fun(l7:(List (Vec 2 (Vec 32 Int))))=>⟨[(4,.ptr 0 0 0),(5,.ptr 0 3 0)],[(0,.box ([.loc 0 1 64 0 0 0,.loc 0 2 65 0 0 0])),(1,.arr 139 64 (List.map (Vec.c (n:=2) (Vec.c (n:=32) eU8)) [])),(2,.arr 141 65 (List.map Write.c [])),(3,.box ([.loc 0 4 64 0 l7.length l7.length,.loc 0 5 65 0 x2.Disk.Wait.length x2.Disk.Wait.length])),(4,.arr 139 64 (List.map (Vec.c (n:=2) (Vec.c (n:=32) eU8)) l7)),(5,.arr 141 65 (List.map Write.c x2.Disk.Wait))],[],6,Try.f36.ntmps⟩
def Zan (k:Nat) (d0:Disk) (picks1:(List Int)):Option (Disk):=
 (Zbn k d0).bind fun x2=>
 (Zcj k d0).bind fun x3=>
 bif (!x3) then
  some x2.Disk
 else
  (whl (Zan.b0 k picks1 x2) k (0,x2.Disk.Pages)).bind fun r37=>match r37 with
  |.next _=>none
  |.ret v_=>some v_
  |.brk l7=>
   some (⟨l7,[]⟩:Disk)
theorem Zdz (k:Nat) (d0:Disk) (picks1:(List Int)) (r:Disk) (h0:Zan k d0 picks1=some r):Za6 Try.prog 36 [.agg (Disk.c d0),.sl 1 (List.map eI picks1)] (fun y=>y=.agg (Disk.c r)):=by
 refine PB (fn:=Try.f36) (sc:=F36.c) ?_
 refine rS ?_
 simp only[Zan]at h0
 try simp only[F36.c,go_sem]
 obtain⟨x2,yx2,h0⟩:=bs h0
 refine Zei Za9 1000 [] [] (ZbA k _ _ yx2) ?_ rfl ?_
 try simp only[gOK,go_sem]
 try simp only[go_sem]
 obtain⟨x3,yx3,h0⟩:=bs h0
 refine zc0 (Zdf k _ _ yx3) ?_ (by first|rfl|(simp[AV.refsL,AV.refs,AV.scal,AV.leaf];done)|simp[AV.refsL,AV.refs,AV.scal,AV.leaf,go_sem]) ?_
 try simp only[go_sem]
 try simp only[go_sem]
 refine Zab h0 ?_ ?_<;>intro c4 h0
 have c4:=ZaB c4
 try simp only[c4,go_sem]
 obtain rfl:=oi h0
 refine Zac rfl ?_
 try simp only[F36.rs,c4,go_sem]
 have c4:=ZaA c4
 try simp only[c4,go_sem]
 obtain⟨r37,yr37,h0⟩:=bs h0
 refine Zaz yr37 (Zan.h0 picks1 x2) (Zan.x0 x2) ?_ ?_ ?_
 refine ZaE.go [1,4,5,23,24,25] [16,17,18,48,49,50] rfl ?_
 try simp only[Zan.h0,c4,go_sem]
 rintro⟨i5,l6⟩ x_1 Bk1 Br1 h1 hnext1 hbrk1 hret1
 refine rS ?_
 simp only[Zan.b0]at h1
 try simp only[F36.s0,Zan.h0,c4,go_sem]
 refine Zab h1 ?_ ?_<;>intro c8 h1
 try simp only[c8,c4,go_sem]
 obtain⟨x9,yx9,h1⟩:=bs h1
 try simp only[aa yx9,c4,c8,go_sem]
 refine Zab h1 ?_ ?_<;>intro c10 h1
 try simp only[c10,c4,c8,aa yx9,go_sem]
 obtain⟨u11,yu11,h1⟩:=bs h1
 try simp only[Zb0 yu11,c4,c8,aa yx9,c10,go_sem]
 obtain⟨x12,yx12,h1⟩:=bs h1
 try simp only[aa yx12,c4,c8,aa yx9,c10,Zb0 yu11,go_sem]
 obtain⟨r24,yr24,h1⟩:=bs h1
 refine Zaz yr24 (Zan.h1 picks1 x2 i5 x9 x12) (Zan.x1 picks1 x2 i5) ?_ ?_ ?_
 refine ZaE.go [1,4,5,7,8,23,24,25,41] [0,1,2,3,4,5,70] rfl ?_
 try simp only[Zan.h1,c4,c8,aa yx9,c10,Zb0 yu11,aa yx12,go_sem]
 rintro⟨i13,l14⟩ x_2 Bk2 Br2 h2 hnext2 hbrk2 hret2
 refine rS ?_
 simp only[Zan.b1]at h2
 try simp only[F36.s1,Zan.h1,c4,c8,aa yx9,c10,Zb0 yu11,aa yx12,go_sem]
 refine Zab h2 ?_ ?_<;>intro c16 h2
 try simp only[c16,c4,c8,aa yx9,c10,Zb0 yu11,aa yx12,go_sem]
 obtain⟨u17,yu17,h2⟩:=bs h2
 try simp only[Zdl yu17,c4,c8,aa yx9,c10,Zb0 yu11,aa yx12,c16,go_sem]
 refine Zab h2 ?_ ?_<;>intro c18 h2
 try simp only[c18,c4,c8,aa yx9,c10,Zb0 yu11,aa yx12,c16,Zdl yu17,go_sem]
 refine Zas Za9 Zat 1000 ?_
 try simp only[c4,c8,aa yx9,c10,Zb0 yu11,aa yx12,c16,Zdl yu17,c18,go_sem]
 obtain⟨x19,yx19,h2⟩:=bs h2
 have uyx19:=UpdE.at (fun q_=>((VK.vec Zaw 32).len q_:((Vec.c (n:=32) eU8) q_).length=32)) (UpdE.skip (UpdE.self (fun q_=>((VK.vec (VK.vec Zaw 32) 2).len q_:(Vec.c (n:=2) (Vec.c (n:=32) eU8) q_).length=64)) x9.Page) ([.int .i64 x9.At]:List AV)) yx19
 have buyx19:=uyx19.bound (fun q_=>((VK.vec Zaw 32).len q_:((Vec.c (n:=32) eU8) q_).length=32))
 have guyx19:=uyx19.get (fun q_=>((VK.vec Zaw 32).len q_:((Vec.c (n:=32) eU8) q_).length=32))
 try simp only[List.length_cons,List.length_nil,go_sem]at buyx19 guyx19
 try simp only[Zaa yx19,buyx19,guyx19,c4,c8,aa yx9,c10,Zb0 yu11,aa yx12,c16,Zdl yu17,c18,go_sem]
 obtain⟨x20,yx20,h2⟩:=bs h2
 try simp only[ZaR yx20,Za1 (Vec.c (n:=2) (Vec.c (n:=32) eU8)) yx20,c4,c8,aa yx9,c10,Zb0 yu11,aa yx12,c16,Zdl yu17,c18,Zaa yx19,buyx19,guyx19,go_sem]
 obtain⟨x21,yx21,h2⟩:=bs h2
 have uyx21:=UpdE.at (fun q_=>((VK.vec Zaw 32).len q_:((Vec.c (n:=32) eU8) q_).length=32)) (UpdE.self (fun q_=>((VK.vec (VK.vec Zaw 32) 2).len q_:(Vec.c (n:=2) (Vec.c (n:=32) eU8) q_).length=64)) x20) yx21
 have buyx21:=uyx21.bound (fun q_=>((VK.vec Zaw 32).len q_:((Vec.c (n:=32) eU8) q_).length=32))
 have guyx21:=uyx21.get (fun q_=>((VK.vec Zaw 32).len q_:((Vec.c (n:=32) eU8) q_).length=32))
 try simp only[List.length_cons,List.length_nil,go_sem]at buyx21 guyx21
 try simp only[Zaa yx21,buyx21,guyx21,c4,c8,aa yx9,c10,Zb0 yu11,aa yx12,c16,Zdl yu17,c18,Zaa yx19,buyx19,guyx19,ZaR yx20,Za1 (Vec.c (n:=2) (Vec.c (n:=32) eU8)) yx20,go_sem]
 obtain⟨l23,yl23,h2⟩:=bs h2
 have q22:=uyx21.ow x19
 try simp only[List.length_cons,List.length_nil,go_sem]at q22
 have eyl23:=Zka (Vec.c (n:=2) (Vec.c (n:=32) eU8)) yl23
 try simp only[go_sem]at eyl23
 try simp only[q22,eyl23,c4,c8,aa yx9,c10,Zb0 yu11,aa yx12,c16,Zdl yu17,c18,Zaa yx19,buyx19,guyx19,ZaR yx20,Za1 (Vec.c (n:=2) (Vec.c (n:=32) eU8)) yx20,Zaa yx21,buyx21,guyx21,Zdc yl23,Zdh (Vec.c (n:=2) (Vec.c (n:=32) eU8)) yl23,go_sem]
 refine Za4 ⟨Za3 (by simp only[ZcE,List.reverse_cons,List.reverse_nil,List.nil_append,List.cons_append,List.map_cons,List.map_nil,List.append_nil];rfl) (by first|decide +kernel|rfl),Zae Za9 1000 _ _ ?_⟩
 try simp only[c4,c8,aa yx9,c10,Zb0 yu11,aa yx12,c16,Zdl yu17,c18,Zaa yx19,buyx19,guyx19,ZaR yx20,Za1 (Vec.c (n:=2) (Vec.c (n:=32) eU8)) yx20,Zaa yx21,buyx21,guyx21,eyl23,Zdc yl23,Zdh (Vec.c (n:=2) (Vec.c (n:=32) eU8)) yl23,go_sem]
 refine Zaf (hnext2 _ _ (oi h2).symm ?_)
 refine ZaE.go [1,4,5,7,8,23,24,25,41] [0,1,2,3,4,5,6] rfl ?_
 try simp only[Zan.h1,c4,c8,aa yx9,c10,Zb0 yu11,aa yx12,c16,Zdl yu17,c18,Zaa yx19,buyx19,guyx19,ZaR yx20,Za1 (Vec.c (n:=2) (Vec.c (n:=32) eU8)) yx20,Zaa yx21,buyx21,guyx21,eyl23,Zdc yl23,Zdh (Vec.c (n:=2) (Vec.c (n:=32) eU8)) yl23,go_sem]
 try simp only[c18,c4,c8,aa yx9,c10,Zb0 yu11,aa yx12,c16,Zdl yu17,go_sem]
 refine Zaf (hnext2 _ _ (oi h2).symm ?_)
 refine ZaE.go [1,4,5,7,8,23,24,25,41] [0,1,2,3,4,5,6] rfl ?_
 try simp only[Zan.h1,c4,c8,aa yx9,c10,Zb0 yu11,aa yx12,c16,Zdl yu17,c18,go_sem]
 try simp only[c16,c4,c8,aa yx9,c10,Zb0 yu11,aa yx12,go_sem]
 refine Zaf (hbrk2 _ _ (oi h2).symm ?_)
 refine ZaE.go [1,4,5,23,24,25] [0,1,2,3,4,5] rfl ?_
 try simp only[Zan.x1,c4,c8,aa yx9,c10,Zb0 yu11,aa yx12,c16,go_sem]
 rintro l15 hr_
 subst hr_
 simp only at h1
 refine rS ?_
 try simp only[Zan.x1,c4,c8,aa yx9,c10,Zb0 yu11,aa yx12,go_sem]
 refine Zaf (hnext1 _ _ (oi h1).symm ?_)
 refine ZaE.go [1,4,5,23,24,25] [0,1,2,3,4,5] rfl ?_
 try simp only[Zan.h0,c4,c8,aa yx9,c10,Zb0 yu11,aa yx12,go_sem]
 try simp only[c10,c4,c8,aa yx9,go_sem]
 obtain⟨r36,yr36,h1⟩:=bs h1
 refine Zaz yr36 (Zan.h1_2 picks1 x2 i5 x9) (Zan.x1_2 picks1 x2 i5) ?_ ?_ ?_
 refine ZaE.go [1,4,5,7,8,23,24,25,41] [0,1,2,3,4,5,70] rfl ?_
 try simp only[Zan.h1_2,c4,c8,aa yx9,c10,go_sem]
 rintro⟨i25,l26⟩ x_2 Bk2 Br2 h2 hnext2 hbrk2 hret2
 refine rS ?_
 simp only[Zan.b1_2]at h2
 try simp only[F36.s1,Zan.h1_2,c4,c8,aa yx9,c10,go_sem]
 refine Zab h2 ?_ ?_<;>intro c28 h2
 try simp only[c28,c4,c8,aa yx9,c10,go_sem]
 obtain⟨u29,yu29,h2⟩:=bs h2
 try simp only[Zdl yu29,c4,c8,aa yx9,c10,c28,go_sem]
 refine Zab h2 ?_ ?_<;>intro c30 h2
 try simp only[c30,c4,c8,aa yx9,c10,c28,Zdl yu29,go_sem]
 refine Zas Za9 Zat 1000 ?_
 try simp only[c4,c8,aa yx9,c10,c28,Zdl yu29,c30,go_sem]
 obtain⟨x31,yx31,h2⟩:=bs h2
 have uyx31:=UpdE.at (fun q_=>((VK.vec Zaw 32).len q_:((Vec.c (n:=32) eU8) q_).length=32)) (UpdE.skip (UpdE.self (fun q_=>((VK.vec (VK.vec Zaw 32) 2).len q_:(Vec.c (n:=2) (Vec.c (n:=32) eU8) q_).length=64)) x9.Page) ([.int .i64 x9.At]:List AV)) yx31
 have buyx31:=uyx31.bound (fun q_=>((VK.vec Zaw 32).len q_:((Vec.c (n:=32) eU8) q_).length=32))
 have guyx31:=uyx31.get (fun q_=>((VK.vec Zaw 32).len q_:((Vec.c (n:=32) eU8) q_).length=32))
 try simp only[List.length_cons,List.length_nil,go_sem]at buyx31 guyx31
 try simp only[Zaa yx31,buyx31,guyx31,c4,c8,aa yx9,c10,c28,Zdl yu29,c30,go_sem]
 obtain⟨x32,yx32,h2⟩:=bs h2
 try simp only[ZaR yx32,Za1 (Vec.c (n:=2) (Vec.c (n:=32) eU8)) yx32,c4,c8,aa yx9,c10,c28,Zdl yu29,c30,Zaa yx31,buyx31,guyx31,go_sem]
 obtain⟨x33,yx33,h2⟩:=bs h2
 have uyx33:=UpdE.at (fun q_=>((VK.vec Zaw 32).len q_:((Vec.c (n:=32) eU8) q_).length=32)) (UpdE.self (fun q_=>((VK.vec (VK.vec Zaw 32) 2).len q_:(Vec.c (n:=2) (Vec.c (n:=32) eU8) q_).length=64)) x32) yx33
 have buyx33:=uyx33.bound (fun q_=>((VK.vec Zaw 32).len q_:((Vec.c (n:=32) eU8) q_).length=32))
 have guyx33:=uyx33.get (fun q_=>((VK.vec Zaw 32).len q_:((Vec.c (n:=32) eU8) q_).length=32))
 try simp only[List.length_cons,List.length_nil,go_sem]at buyx33 guyx33
 try simp only[Zaa yx33,buyx33,guyx33,c4,c8,aa yx9,c10,c28,Zdl yu29,c30,Zaa yx31,buyx31,guyx31,ZaR yx32,Za1 (Vec.c (n:=2) (Vec.c (n:=32) eU8)) yx32,go_sem]
 obtain⟨l35,yl35,h2⟩:=bs h2
 have q34:=uyx33.ow x31
 try simp only[List.length_cons,List.length_nil,go_sem]at q34
 have eyl35:=Zka (Vec.c (n:=2) (Vec.c (n:=32) eU8)) yl35
 try simp only[go_sem]at eyl35
 try simp only[q34,eyl35,c4,c8,aa yx9,c10,c28,Zdl yu29,c30,Zaa yx31,buyx31,guyx31,ZaR yx32,Za1 (Vec.c (n:=2) (Vec.c (n:=32) eU8)) yx32,Zaa yx33,buyx33,guyx33,Zdc yl35,Zdh (Vec.c (n:=2) (Vec.c (n:=32) eU8)) yl35,go_sem]
 refine Za4 ⟨Za3 (by simp only[ZcE,List.reverse_cons,List.reverse_nil,List.nil_append,List.cons_append,List.map_cons,List.map_nil,List.append_nil];rfl) (by first|decide +kernel|rfl),Zae Za9 1000 _ _ ?_⟩
 try simp only[c4,c8,aa yx9,c10,c28,Zdl yu29,c30,Zaa yx31,buyx31,guyx31,ZaR yx32,Za1 (Vec.c (n:=2) (Vec.c (n:=32) eU8)) yx32,Zaa yx33,buyx33,guyx33,eyl35,Zdc yl35,Zdh (Vec.c (n:=2) (Vec.c (n:=32) eU8)) yl35,go_sem]
 refine Zaf (hnext2 _ _ (oi h2).symm ?_)
 refine ZaE.go [1,4,5,7,8,23,24,25,41] [0,1,2,3,4,5,6] rfl ?_
 try simp only[Zan.h1_2,c4,c8,aa yx9,c10,c28,Zdl yu29,c30,Zaa yx31,buyx31,guyx31,ZaR yx32,Za1 (Vec.c (n:=2) (Vec.c (n:=32) eU8)) yx32,Zaa yx33,buyx33,guyx33,eyl35,Zdc yl35,Zdh (Vec.c (n:=2) (Vec.c (n:=32) eU8)) yl35,go_sem]
 try simp only[c30,c4,c8,aa yx9,c10,c28,Zdl yu29,go_sem]
 refine Zaf (hnext2 _ _ (oi h2).symm ?_)
 refine ZaE.go [1,4,5,7,8,23,24,25,41] [0,1,2,3,4,5,6] rfl ?_
 try simp only[Zan.h1_2,c4,c8,aa yx9,c10,c28,Zdl yu29,c30,go_sem]
 try simp only[c28,c4,c8,aa yx9,c10,go_sem]
 refine Zaf (hbrk2 _ _ (oi h2).symm ?_)
 refine ZaE.go [1,4,5,23,24,25] [0,1,2,3,4,5] rfl ?_
 try simp only[Zan.x1_2,c4,c8,aa yx9,c10,c28,go_sem]
 rintro l27 hr_
 subst hr_
 simp only at h1
 refine rS ?_
 try simp only[Zan.x1_2,c4,c8,aa yx9,c10,go_sem]
 refine Zaf (hnext1 _ _ (oi h1).symm ?_)
 refine ZaE.go [1,4,5,23,24,25] [0,1,2,3,4,5] rfl ?_
 try simp only[Zan.h0,c4,c8,aa yx9,c10,go_sem]
 try simp only[c8,c4,go_sem]
 refine Zaf (hbrk1 _ _ (oi h1).symm ?_)
 refine ZaE.go [4,5] [0,1,2,3,4,5] rfl ?_
 try simp only[Zan.x0,c4,c8,go_sem]
 rintro l7 hr_
 subst hr_
 simp only at h0
 refine rS ?_
 try simp only[Zan.x0,c4,go_sem]
 obtain rfl:=oi h0
 refine Zac rfl ?_
 try simp only[F36.rs,c4,go_sem]
def F43.c:SC:=
 (.seq
 (.reg [oq 0 (.alloc 42) 0 [],
 oq 1 (.alloc 48) 0 []])
 (.seq
 (.reg [oq 3 (.makeSlice 39 (.const (.int .i64 602)) (.const (.int .i64 602))) 39 [],
 oq 4 (.build 42 #[(0,.tmp 3)]) 42 [3],
 oq 2 (.alloc 42) 0 [],
 ⟨none,.store 42 (.tmp 2) (.tmp 4),0,none,[4]⟩])
 (.seq
 (.dreg [fa 5 42 2 0 [],
 ld 6 39 5 [],
 oq 7 (.call ⟨.value (.func 101),#[.const (.int .i64 1),.const (.int .i64 0)],#[3,3]⟩) 126 [],
 oq 8 (.indexAddr 39 (.tmp 6) (.const (.int .i64 0))) 0 [],
 oq 9 (.indexAddr 139 (.tmp 8) (.const (.int .i64 0))) 0 [],
 ⟨none,.store 122 (.tmp 9) (.tmp 7),0,none,[]⟩] [[],[0],[],[0,1],[0,1,3,2],[0,1,3,2,4]] [5,6,7,8,9])
 (.seq
 (.reg [ld 10 42 2 [2],
 oq 11 (.build 48 #[(2,.const (.int .i64 1)),(3,.const (.int .i64 1))]) 48 [],
 ⟨none,.store 42 (.tmp 0) (.tmp 10),0,none,[10]⟩,
 ⟨none,.store 48 (.tmp 1) (.tmp 11),0,none,[11]⟩])
 .ret))))
theorem F43.rs:Try.f43.results.toList=[.cell 0 42,.cell 1 48]:=rfl
def ZfR (k:Nat):Option (Disk×Ledger):=
 (ZpI 602 64 ((Vec.rep 2 ((Vec.rep 32 (0:Int)):(Vec 32 Int))):(Vec 2 (Vec 32 Int)))).bind fun l1=>
 (Zf1 k 1 0).bind fun x2=>
 (at? l1 0).bind fun x3=>
 (x3.at? 0).bind fun x4=>
 (ZlT l1 0 (x3.set 0 x2)).bind fun l6=>
 some ((⟨l6,[]⟩:Disk),(⟨(⟨[]⟩:Book),0,1,1⟩:Ledger))
theorem ZiS (k:Nat) (r:Disk×Ledger) (h0:ZfR k=some r):Za6 Try.prog 43 [] (fun y=>y=.tup [.agg (Disk.c r.1),.agg (Ledger.c r.2)]):=by
 refine PB (fn:=Try.f43) (sc:=F43.c) ?_
 refine rS ?_
 simp only[ZfR]at h0
 try simp only[F43.c,go_sem]
 have hz:=bs h0;clear h0;cases hz;rename_i l1 hz;cases hz;rename_i yl1 h0
 obtain⟨_,kyl1⟩:=Zr3 yl1
 have eyl1:List.replicate 602 (Vec.c (n:=2) (Vec.c (n:=32) eU8) (Vec.rep 2 ((Vec.rep 32 (0:Int)):(Vec 32 Int))))=List.map (Vec.c (n:=2) (Vec.c (n:=32) eU8)) l1:=Ztw (Vec.c (n:=2) (Vec.c (n:=32) eU8)) yl1
 have nyl1:l1.length=602:=Zse yl1
 have tyl1:List.take 602 (List.map (Vec.c (n:=2) (Vec.c (n:=32) eU8)) l1)=List.map (Vec.c (n:=2) (Vec.c (n:=32) eU8)) l1:=Zqp (Vec.c (n:=2) (Vec.c (n:=32) eU8)) yl1
 try simp only[ZsC kyl1,eyl1,nyl1,tyl1,(@id (Int.toNat 602=602) rfl),go_sem]
 refine Zas Za9 Zat 1000 ?_
 try simp only[eyl1,nyl1,tyl1,(@id (Int.toNat 602=602) rfl),go_sem]
 have hz:=bs h0;clear h0;cases hz;rename_i x2 hz;cases hz;rename_i yx2 h0
 refine ZaC 1000 (ZhA k _ _ _ yx2) ?_ (by first|rfl|(simp[AV.refsL,AV.refs,AV.scal,AV.leaf];done)|simp[AV.refsL,AV.refs,AV.scal,AV.leaf,go_sem]) ?_
 try simp only[eyl1,nyl1,tyl1,(@id (Int.toNat 602=602) rfl),go_sem]
 try simp only[eyl1,nyl1,tyl1,(@id (Int.toNat 602=602) rfl),go_sem]
 have hz:=bs h0;clear h0;cases hz;rename_i x3 hz;cases hz;rename_i yx3 h0
 have eyx3:=ZaR yx3
 simp only[eyl1,nyl1,tyl1,(@id (Int.toNat 602=602) rfl),go_sem]at eyx3
 try simp only[eyx3,Za1 (Vec.c (n:=2) (Vec.c (n:=32) eU8)) yx3,eyl1,nyl1,tyl1,(@id (Int.toNat 602=602) rfl),go_sem]
 have hz:=bs h0;clear h0;cases hz;rename_i x4 hz;cases hz;rename_i yx4 h0
 have uyx4:=UpdE.at (fun q_=>((VK.vec Zaw 32).len q_:((Vec.c (n:=32) eU8) q_).length=32)) (UpdE.self (fun q_=>((VK.vec (VK.vec Zaw 32) 2).len q_:(Vec.c (n:=2) (Vec.c (n:=32) eU8) q_).length=64)) x3) yx4
 have buyx4:=uyx4.bound (fun q_=>((VK.vec Zaw 32).len q_:((Vec.c (n:=32) eU8) q_).length=32))
 have guyx4:=uyx4.get (fun q_=>((VK.vec Zaw 32).len q_:((Vec.c (n:=32) eU8) q_).length=32))
 try simp only[List.length_cons,List.length_nil,go_sem]at buyx4 guyx4
 try simp only[Zaa yx4,buyx4,guyx4,eyl1,nyl1,tyl1,(@id (Int.toNat 602=602) rfl),eyx3,Za1 (Vec.c (n:=2) (Vec.c (n:=32) eU8)) yx3,go_sem]
 have hz:=bs h0;clear h0;cases hz;rename_i l6 hz;cases hz;rename_i yl6 h0
 have q5:=uyx4.ow x2
 try simp only[List.length_cons,List.length_nil,go_sem]at q5
 have eyl6:=Zka (Vec.c (n:=2) (Vec.c (n:=32) eU8)) yl6
 try simp only[go_sem]at eyl6
 have tyl6:=Zdh (Vec.c (n:=2) (Vec.c (n:=32) eU8)) yl6
 try simp only[eyl1,nyl1,tyl1,(@id (Int.toNat 602=602) rfl),eyx3,Za1 (Vec.c (n:=2) (Vec.c (n:=32) eU8)) yx3,Zaa yx4,buyx4,guyx4,go_sem]at tyl6
 try simp only[q5,eyl6,eyl1,nyl1,tyl1,(@id (Int.toNat 602=602) rfl),eyx3,Za1 (Vec.c (n:=2) (Vec.c (n:=32) eU8)) yx3,Zaa yx4,buyx4,guyx4,Zdc yl6,tyl6,go_sem]
 refine Za4 ⟨Za3 (by simp only[ZcE,List.reverse_cons,List.reverse_nil,List.nil_append,List.cons_append,List.map_cons,List.map_nil,List.append_nil];rfl) (by first|decide +kernel|rfl),Zae Za9 1000 _ _ ?_⟩
 try simp only[eyl1,nyl1,tyl1,(@id (Int.toNat 602=602) rfl),eyx3,Za1 (Vec.c (n:=2) (Vec.c (n:=32) eU8)) yx3,Zaa yx4,buyx4,guyx4,eyl6,Zdc yl6,tyl6,go_sem]
 obtain rfl:=oi h0
 refine Zac rfl ?_
 try simp only[F43.rs,eyl1,nyl1,tyl1,(@id (Int.toNat 602=602) rfl),eyx3,Za1 (Vec.c (n:=2) (Vec.c (n:=32) eU8)) yx3,Zaa yx4,buyx4,guyx4,eyl6,Zdc yl6,tyl6,go_sem]
end Go.Abs
namespace Go.Abs
open Go Go.Proofs Go.RowKit Go.Lib
def F14.c:SC:=
 (.seq
 (.reg [sb 0 false 4 [0]])
 (.seq
 (.reg [oq 26 (.build 23 #[(0,.const (.int .i64 2))]) 23 [],
 oq 27 (.build 25 #[(0,.tmp 26),(1,.const (.int .i64 5)),(2,.const (.int .i64 10)),(3,.const (.int .i64 12)),(5,.const (.string ⟨#[98,101,110,116,32,49,48,48,48]⟩))]) 25 [26],
 oq 1 (.alloc 25) 0 [],
 ⟨none,.store 25 (.tmp 1) (.tmp 27),0,none,[27]⟩])
 (.seq
 (.reg [ld 29 25 1 [],
 cf1 30 26 29 25 57 [29],
 mv 28 30 57 [30],
 xt 31 28 0 56 [],
 xt 32 28 1 28 [28],
 sg 2 31 56 [31],
 sg 3 32 28 [32]])
 (.seq
 (.reg [ld 34 25 1 [],
 oq 35 (.call ⟨.value (.func 15),#[.tmp 34,.const (.int .i64 0),.const (.int .i64 1)],#[25,3,3]⟩) 29 [34],
 mv 33 35 29 [35],
 xt 36 33 0 27 [],
 xt 37 33 1 28 [33],
 sg 4 36 27 [36],
 sg 5 37 28 [37]])
 (.seq
 (.reg [oq 39 (.call ⟨.value (.func 43),#[],#[]⟩) 76 [],
 mv 38 39 76 [39],
 xt 40 38 0 42 [],
 xt 41 38 1 48 [38],
 oq 6 (.alloc 42) 0 [],
 oq 7 (.alloc 48) 0 [],
 ⟨none,.store 42 (.tmp 6) (.tmp 40),0,none,[40]⟩,
 ⟨none,.store 48 (.tmp 7) (.tmp 41),0,none,[41]⟩])
 (.seq
 (.reg [ld 43 42 6 [6],
 ld 44 48 7 [7],
 ld 45 25 1 [],
 oq 46 (.call ⟨.value (.func 20),#[.tmp 43,.tmp 44,.tmp 45],#[42,48,25]⟩) 50 [43,44,45],
 mv 42 46 50 [46],
 xt 47 42 0 42 [],
 xt 48 42 1 48 [],
 xt 49 42 2 28 [42],
 oq 8 (.alloc 42) 0 [],
 oq 9 (.alloc 48) 0 [],
 ⟨none,.store 42 (.tmp 8) (.tmp 47),0,none,[47]⟩,
 ⟨none,.store 48 (.tmp 9) (.tmp 48),0,none,[48]⟩,
 sg 10 49 28 [49]])
 (.seq
 (.reg [ld 51 42 8 [],
 oq 52 (.buildSlice 63 2 #[(0,.const (.int .i64 2)),(1,.const (.int .i64 0))]) 63 [],
 cf2 53 36 51 52 42 63 42 [51,52],
 cf1 54 32 53 42 50 [53],
 mv 50 54 50 [54],
 xt 55 50 0 42 [],
 xt 56 50 1 48 [],
 xt 57 50 2 28 [50],
 oq 11 (.alloc 42) 0 [],
 oq 12 (.alloc 48) 0 [],
 ⟨none,.store 42 (.tmp 11) (.tmp 55),0,none,[55]⟩,
 ⟨none,.store 48 (.tmp 12) (.tmp 56),0,none,[56]⟩,
 sg 13 57 28 [57]])
 (.seq
 (.reg [ld 59 42 11 [11],
 ld 60 48 12 [],
 ld 61 25 1 [1],
 oq 62 (.call ⟨.value (.func 20),#[.tmp 59,.tmp 60,.tmp 61],#[42,48,25]⟩) 50 [59,60,61],
 mv 58 62 50 [62],
 xt 63 58 0 42 [],
 xt 64 58 1 48 [],
 xt 65 58 2 28 [58],
 oq 14 (.alloc 42) 0 [],
 oq 15 (.alloc 48) 0 [],
 ⟨none,.store 42 (.tmp 14) (.tmp 63),0,none,[63]⟩,
 ⟨none,.store 48 (.tmp 15) (.tmp 64),0,none,[64]⟩,
 sg 16 65 28 [65]])
 (.seq
 (.reg [ld 67 42 14 [],
 oq 68 (.buildSlice 63 2 #[(0,.const (.int .i64 0)),(1,.const (.int .i64 1))]) 63 [],
 cf2 69 36 67 68 42 63 42 [67,68],
 cf1 70 32 69 42 50 [69],
 mv 66 70 50 [70],
 xt 71 66 0 42 [],
 xt 72 66 1 48 [],
 xt 73 66 2 28 [66],
 oq 17 (.alloc 42) 0 [],
 oq 18 (.alloc 48) 0 [],
 ⟨none,.store 42 (.tmp 17) (.tmp 71),0,none,[17,71]⟩,
 ⟨none,.store 48 (.tmp 18) (.tmp 72),0,none,[72]⟩,
 sg 19 73 28 [73]])
 (.seq
 (.reg [ld 75 42 14 [14],
 oq 76 (.buildSlice 63 2 #[(0,.const (.int .i64 3)),(1,.const (.int .i64 3))]) 63 [],
 cf2 77 36 75 76 42 63 42 [75,76],
 cf1 78 32 77 42 50 [77],
 mv 74 78 50 [78],
 xt 79 74 0 42 [],
 xt 80 74 1 48 [],
 xt 81 74 2 28 [74],
 oq 20 (.alloc 42) 0 [],
 oq 21 (.alloc 48) 0 [],
 ⟨none,.store 42 (.tmp 20) (.tmp 79),0,none,[20,79]⟩,
 ⟨none,.store 48 (.tmp 21) (.tmp 80),0,none,[80]⟩,
 sg 22 81 28 [81]])
 (.seq
 (.reg [mv 82 3 28 [3],
 bn 83 .eql 28 82 0 28 4 [82],
 mv 84 83 4 [83],
 og 85 (.move (.tmp 5)) 28 84 true [5],
 og 86 (.binOp .eql 28 (.tmp 85) (.const (.int .i64 0)) 28) 4 84 true [85],
 oq 87 (.pick (.tmp 84) (.tmp 86) (.const (.bool false))) 4 [84,86],
 mv 88 87 4 [87],
 og 89 (.move (.tmp 10)) 28 88 true [10],
 og 90 (.binOp .eql 28 (.tmp 89) (.const (.int .i64 0)) 28) 4 88 true [89],
 oq 91 (.pick (.tmp 88) (.tmp 90) (.const (.bool false))) 4 [88,90],
 mv 92 91 4 [91],
 og 93 (.move (.tmp 13)) 28 92 true [13],
 og 94 (.binOp .eql 28 (.tmp 93) (.const (.int .i64 0)) 28) 4 92 true [93],
 oq 95 (.pick (.tmp 92) (.tmp 94) (.const (.bool false))) 4 [92,94],
 mv 96 95 4 [95],
 og 97 (.move (.tmp 16)) 28 96 true [16],
 og 98 (.binOp .eql 28 (.tmp 97) (.const (.int .i64 0)) 28) 4 96 true [97],
 oq 99 (.pick (.tmp 96) (.tmp 98) (.const (.bool false))) 4 [96,98],
 mv 100 99 4 [99],
 og 101 (.move (.tmp 19)) 28 100 true [19],
 og 102 (.binOp .eql 28 (.tmp 101) (.const (.int .i64 0)) 28) 4 100 true [101],
 oq 103 (.pick (.tmp 100) (.tmp 102) (.const (.bool false))) 4 [100,102],
 mv 104 103 4 [103],
 og 105 (.move (.tmp 22)) 28 104 true [22],
 og 106 (.binOp .eql 28 (.tmp 105) (.const (.int .i64 0)) 28) 4 104 true [105],
 oq 107 (.pick (.tmp 104) (.tmp 106) (.const (.bool false))) 4 [104,106],
 sg 23 107 4 [107]])
 (.seq
 (.reg [mv 108 2 56 [2],
 ln 109 108 56 3 [108],
 bn 110 .eql 3 109 25 3 4 [109],
 mv 111 110 4 [110],
 og 112 (.move (.tmp 4)) 27 111 true [],
 og 113 (.call ⟨.builtin .len,#[.tmp 112],#[27]⟩) 3 111 true [112],
 og 114 (.binOp .eql 3 (.tmp 113) (.const (.int .i64 2)) 3) 4 111 true [113],
 oq 115 (.pick (.tmp 111) (.tmp 114) (.const (.bool false))) 4 [111,114],
 mv 116 115 4 [115],
 og 117 (.move (.tmp 4)) 27 116 true [],
 og 118 (.indexAddr 27 (.tmp 117) (.const (.int .i64 1))) 0 116 true [117],
 og 119 (.indexAddr 122 (.tmp 118) (.const (.int .i64 6))) 0 116 true [118],
 og 120 (.load 5 (.tmp 119)) 5 116 true [119],
 og 121 (.binOp .eql 5 (.tmp 120) (.const (.int .u8 1)) 5) 4 116 true [120],
 oq 122 (.pick (.tmp 116) (.tmp 121) (.const (.bool false))) 4 [116,121],
 mv 123 122 4 [122],
 og 124 (.move (.tmp 4)) 27 123 true [],
 og 125 (.indexAddr 27 (.tmp 124) (.const (.int .i64 1))) 0 123 true [124],
 og 126 (.indexAddr 122 (.tmp 125) (.const (.int .i64 7))) 0 123 true [125],
 og 127 (.load 5 (.tmp 126)) 5 123 true [126],
 og 128 (.binOp .eql 5 (.tmp 127) (.const (.int .u8 2)) 5) 4 123 true [127],
 oq 129 (.pick (.tmp 123) (.tmp 128) (.const (.bool false))) 4 [123,128],
 mv 130 129 4 [129],
 og 131 (.move (.tmp 4)) 27 130 true [4],
 og 132 (.indexAddr 27 (.tmp 131) (.const (.int .i64 0))) 0 130 true [131],
 og 133 (.indexAddr 122 (.tmp 132) (.const (.int .i64 31))) 0 130 true [132],
 og 134 (.load 5 (.tmp 133)) 5 130 true [133],
 og 135 (.binOp .eql 5 (.tmp 134) (.const (.int .u8 165)) 5) 4 130 true [134],
 oq 136 (.pick (.tmp 130) (.tmp 135) (.const (.bool false))) 4 [130,135],
 sg 24 136 4 [136]])
 (.seq
 (.reg [fa 137 42 8 1 [8],
 ld 138 40 137 [137],
 ln 139 138 40 3 [138],
 bn 140 .eql 3 139 2 3 4 [139],
 mv 141 140 4 [140],
 og 142 (.fieldAddr 48 (.tmp 9) 3) 0 141 true [9],
 og 143 (.load 3 (.tmp 142)) 3 141 true [142],
 og 144 (.binOp .eql 3 (.tmp 143) (.const (.int .i64 3)) 3) 4 141 true [143],
 oq 145 (.pick (.tmp 141) (.tmp 144) (.const (.bool false))) 4 [141,144],
 mv 146 145 4 [145],
 og 147 (.fieldAddr 48 (.tmp 12) 0) 0 146 true [],
 og 148 (.fieldAddr 46 (.tmp 147) 0) 0 146 true [147],
 og 149 (.load 44 (.tmp 148)) 44 146 true [148],
 og 150 (.call ⟨.builtin .len,#[.tmp 149],#[44]⟩) 3 146 true [149],
 og 151 (.binOp .eql 3 (.tmp 150) (.const (.int .i64 0)) 3) 4 146 true [150],
 oq 152 (.pick (.tmp 146) (.tmp 151) (.const (.bool false))) 4 [146,151],
 mv 153 152 4 [152],
 og 154 (.fieldAddr 48 (.tmp 12) 2) 0 153 true [12],
 og 155 (.load 3 (.tmp 154)) 3 153 true [154],
 og 156 (.binOp .eql 3 (.tmp 155) (.const (.int .i64 2)) 3) 4 153 true [155],
 oq 157 (.pick (.tmp 153) (.tmp 156) (.const (.bool false))) 4 [153,156],
 mv 158 157 4 [157],
 og 159 (.fieldAddr 48 (.tmp 15) 3) 0 158 true [15],
 og 160 (.load 3 (.tmp 159)) 3 158 true [159],
 og 161 (.binOp .eql 3 (.tmp 160) (.const (.int .i64 3)) 3) 4 158 true [160],
 oq 162 (.pick (.tmp 158) (.tmp 161) (.const (.bool false))) 4 [158,161],
 sg 25 162 4 [162]])
 (.seq
 (.reg [mv 163 23 4 [23],
 mv 164 163 4 [163],
 og 165 (.move (.tmp 24)) 4 164 true [24],
 oq 166 (.pick (.tmp 164) (.tmp 165) (.const (.bool false))) 4 [164,165],
 mv 167 166 4 [166],
 og 168 (.move (.tmp 25)) 4 167 true [25],
 oq 169 (.pick (.tmp 167) (.tmp 168) (.const (.bool false))) 4 [167,168],
 mv 170 169 4 [169],
 og 171 (.fieldAddr 48 (.tmp 18) 0) 0 170 true [],
 og 172 (.fieldAddr 46 (.tmp 171) 0) 0 170 true [171],
 og 173 (.load 44 (.tmp 172)) 44 170 true [172],
 og 174 (.call ⟨.builtin .len,#[.tmp 173],#[44]⟩) 3 170 true [173],
 og 175 (.binOp .eql 3 (.tmp 174) (.const (.int .i64 0)) 3) 4 170 true [174],
 oq 176 (.pick (.tmp 170) (.tmp 175) (.const (.bool false))) 4 [170,175],
 mv 177 176 4 [176],
 og 178 (.fieldAddr 48 (.tmp 18) 2) 0 177 true [18],
 og 179 (.load 3 (.tmp 178)) 3 177 true [178],
 og 180 (.binOp .eql 3 (.tmp 179) (.const (.int .i64 3)) 3) 4 177 true [179],
 oq 181 (.pick (.tmp 177) (.tmp 180) (.const (.bool false))) 4 [177,180],
 mv 182 181 4 [181],
 og 183 (.fieldAddr 48 (.tmp 21) 0) 0 182 true [],
 og 184 (.fieldAddr 46 (.tmp 183) 0) 0 182 true [183],
 og 185 (.load 44 (.tmp 184)) 44 182 true [184],
 og 186 (.call ⟨.builtin .len,#[.tmp 185],#[44]⟩) 3 182 true [185],
 og 187 (.binOp .eql 3 (.tmp 186) (.const (.int .i64 1)) 3) 4 182 true [186],
 oq 188 (.pick (.tmp 182) (.tmp 187) (.const (.bool false))) 4 [182,187],
 mv 189 188 4 [188],
 og 190 (.fieldAddr 48 (.tmp 21) 2) 0 189 true [21],
 og 191 (.load 3 (.tmp 190)) 3 189 true [190],
 og 192 (.binOp .eql 3 (.tmp 191) (.const (.int .i64 3)) 3) 4 189 true [191],
 oq 193 (.pick (.tmp 189) (.tmp 192) (.const (.bool false))) 4 [189,192],
 sg 0 193 4 [193]])
 .ret))))))))))))))
theorem F14.rs:Try.f14.results.toList=[.tmp 0]:=rfl
def ZhV (k:Nat):Option (Bool):=
 (Zgz k (⟨(⟨2,0⟩:Entry),5,10,12,(⟨0,0⟩:Entry),(⟨#[98,101,110,116,32,49,48,48,48]⟩:ByteArray)⟩:Record)).bind fun x1=>
 (ZaY k (⟨(⟨2,0⟩:Entry),5,10,12,(⟨0,0⟩:Entry),(⟨#[98,101,110,116,32,49,48,48,48]⟩:ByteArray)⟩:Record) 0 1).bind fun x2=>
 (ZfR k).bind fun x3=>
 (Zbo k x3.1 x3.2 (⟨(⟨2,0⟩:Entry),5,10,12,(⟨0,0⟩:Entry),(⟨#[98,101,110,116,32,49,48,48,48]⟩:ByteArray)⟩:Record)).bind fun x4=>
 (Zan k x4.1 [2,0]).bind fun x5=>
 (ZcS k x5).bind fun x6=>
 (Zbo k x6.1 x6.2.1 (⟨(⟨2,0⟩:Entry),5,10,12,(⟨0,0⟩:Entry),(⟨#[98,101,110,116,32,49,48,48,48]⟩:ByteArray)⟩:Record)).bind fun x7=>
 (Zan k x7.1 [0,1]).bind fun x8=>
 (ZcS k x8).bind fun x9=>
 (Zan k x7.1 [3,3]).bind fun x10=>
 (ZcS k x10).bind fun x11=>
 bif decide (x1.2=(0:Int)) then
  bif decide (x2.2=(0:Int)) then
   bif decide (x4.2.2=(0:Int)) then
    bif decide (x6.2.2=(0:Int)) then
     bif decide (x7.2.2=(0:Int)) then
      bif decide (x9.2.2=(0:Int)) then
       bif decide ((x1.1.length:Int)=(25:Int)) then
        bif decide ((x2.1.length:Int)=(2:Int)) then
         (at? x2.1 1).bind fun x20=>
         (x20.at? 6).bind fun x21=>
         bif decide (x21=(1:Int)) then
          (x20.at? 7).bind fun x23=>
          bif decide (x23=(2:Int)) then
           (at? x2.1 0).bind fun x25=>
           (x25.at? 31).bind fun x26=>
           bif decide ((x4.1.Wait.length:Int)=(2:Int)) then
            bif decide (x4.2.1.Used=(3:Int)) then
             bif decide ((x6.2.1.Book.Records.length:Int)=(0:Int)) then
              bif decide (x6.2.1.Epoch=(2:Int)) then
               bif decide (x11.2.2=(0:Int)) then
                bif decide (x26=(165:Int)) then
                 bif decide (x7.2.1.Used=(3:Int)) then
                  bif decide ((x9.2.1.Book.Records.length:Int)=(0:Int)) then
                   bif decide (x9.2.1.Epoch=(3:Int)) then
                    bif decide ((x11.2.1.Book.Records.length:Int)=(1:Int)) then
                     some (decide (x11.2.1.Epoch=(3:Int)))
                    else
                     none
                   else
                    none
                  else
                   none
                 else
                  none
                else
                 none
               else
                none
              else
               none
             else
              none
            else
             none
           else
            none
          else
           none
         else
          none
        else
         none
       else
        none
      else
       none
     else
      none
    else
     none
   else
    none
  else
   none
 else
  none
theorem ZlN (k:Nat) (r:Bool) (h0:ZhV k=some r):Za6 Try.prog 14 [] (fun y=>y=.bool r):=by
 refine Za6.nlr (Za6.of_body Za9 (fn:=Try.f14) (sc:=F14.c) (by rfl) (by rfl) (by decide +kernel) (by rfl) (by decide +kernel) (Nat.le_of_ble_eq_true rfl) ?_)
 refine Zae Za9 1000 _ _ ?_
 simp only[ZhV]at h0
 try simp only[F14.c,go_sem]
 obtain⟨x1,yx1,h0⟩:=bind_some h0
 refine Zba Za9 1000 (Zjg k _ _ yx1) ?_ (by first|rfl|simp[AV.refsL,AV.refs,AV.scal,AV.leaf]) ?_
 ·try simp only[go_sem]
 try simp only[go_sem]
 obtain⟨x2,yx2,h0⟩:=bind_some h0
 refine Zba Za9 1000 (Zji k _ _ _ _ yx2) ?_ (by first|rfl|simp[AV.refsL,AV.refs,AV.scal,AV.leaf]) ?_
 ·try simp only[go_sem]
 try simp only[go_sem]
 obtain⟨x3,yx3,h0⟩:=bind_some h0
 refine Zba Za9 1000 (ZiS k _ yx3) ?_ (by first|rfl|simp[AV.refsL,AV.refs,AV.scal,AV.leaf]) ?_
 ·try simp only[go_sem]
 try simp only[go_sem]
 obtain⟨x4,yx4,h0⟩:=bind_some h0
 refine Zba Za9 1000 (Zdg k _ _ _ _ yx4) ?_ (by first|rfl|simp[AV.refsL,AV.refs,AV.scal,AV.leaf]) ?_
 ·try simp only[go_sem]
 try simp only[go_sem]
 obtain⟨x5,yx5,h0⟩:=bind_some h0
 refine ZgF Za9 1000 [656] (Zdz k _ _ _ yx5) ?_ ?_
 ·try simp only[go_sem]
 try simp only[go_sem]
 obtain⟨x6,yx6,h0⟩:=bind_some h0
 refine Zba Za9 1000 (ZdN k _ _ yx6) ?_ (by first|rfl|simp[AV.refsL,AV.refs,AV.scal,AV.leaf]) ?_
 ·try simp only[go_sem]
 try simp only[go_sem]
 obtain⟨x7,yx7,h0⟩:=bind_some h0
 refine Zba Za9 1000 (Zdg k _ _ _ _ yx7) ?_ (by first|rfl|simp[AV.refsL,AV.refs,AV.scal,AV.leaf]) ?_
 ·try simp only[go_sem]
 try simp only[go_sem]
 obtain⟨x8,yx8,h0⟩:=bind_some h0
 refine ZgF Za9 1000 [1072] (Zdz k _ _ _ yx8) ?_ ?_
 ·try simp only[go_sem]
 try simp only[go_sem]
 obtain⟨x9,yx9,h0⟩:=bind_some h0
 refine Zba Za9 1000 (ZdN k _ _ yx9) ?_ (by first|rfl|simp[AV.refsL,AV.refs,AV.scal,AV.leaf]) ?_
 ·try simp only[go_sem]
 try simp only[go_sem]
 obtain⟨x10,yx10,h0⟩:=bind_some h0
 refine ZgF Za9 1000 [1280] (Zdz k _ _ _ yx10) ?_ ?_
 ·try simp only[go_sem]
 try simp only[go_sem]
 obtain⟨x11,yx11,h0⟩:=bind_some h0
 refine Zba Za9 1000 (ZdN k _ _ yx11) ?_ (by first|rfl|simp[AV.refsL,AV.refs,AV.scal,AV.leaf]) ?_
 ·try simp only[go_sem]
 try simp only[go_sem]
 refine Zab h0 (fun c12 h0=>?_) (fun c12 h0=>?_)
 ·try simp only[c12,go_sem]
  refine Zab h0 (fun c13 h0=>?_) (fun c13 h0=>?_)
  ·try simp only[c13,c12,go_sem]
   refine Zab h0 (fun c14 h0=>?_) (fun c14 h0=>?_)
   ·try simp only[c14,c12,c13,go_sem]
    refine Zab h0 (fun c15 h0=>?_) (fun c15 h0=>?_)
    ·try simp only[c15,c12,c13,c14,go_sem]
     refine Zab h0 (fun c16 h0=>?_) (fun c16 h0=>?_)
     ·try simp only[c16,c12,c13,c14,c15,go_sem]
      refine Zab h0 (fun c17 h0=>?_) (fun c17 h0=>?_)
      ·try simp only[c17,c12,c13,c14,c15,c16,go_sem]
       refine Zab h0 (fun c18 h0=>?_) (fun c18 h0=>?_)
       ·try simp only[c18,c12,c13,c14,c15,c16,c17,go_sem]
        refine Zab h0 (fun c19 h0=>?_) (fun c19 h0=>?_)
        ·try simp only[c19,c12,c13,c14,c15,c16,c17,c18,go_sem]
         obtain⟨x20,yx20,h0⟩:=bind_some h0
         try simp only[ZaR yx20,Za1 (Vec.c (n:=32) eU8) yx20,c12,c13,c14,c15,c16,c17,c18,c19,go_sem]
         obtain⟨x21,yx21,h0⟩:=bind_some h0
         have uyx21:=UpdE.at (fun q_=>(Zaw.len q_:(eU8 q_).length=1)) (UpdE.self (fun q_=>((VK.vec Zaw 32).len q_:(Vec.c (n:=32) eU8 q_).length=32)) x20) yx21
         have buyx21:=uyx21.bound (fun q_=>(Zaw.len q_:(eU8 q_).length=1))
         have guyx21:=uyx21.get (fun q_=>(Zaw.len q_:(eU8 q_).length=1))
         try simp only[List.length_cons,List.length_nil,go_sem]at buyx21 guyx21
         try simp only[Zaa yx21,buyx21,guyx21,c12,c13,c14,c15,c16,c17,c18,c19,ZaR yx20,Za1 (Vec.c (n:=32) eU8) yx20,go_sem]
         refine Zab h0 (fun c22 h0=>?_) (fun c22 h0=>?_)
         ·try simp only[c22,ZaR yx20,Za1 (Vec.c (n:=32) eU8) yx20,c12,c13,c14,c15,c16,c17,c18,c19,Zaa yx21,buyx21,guyx21,go_sem]
          obtain⟨x23,yx23,h0⟩:=bind_some h0
          have uyx23:=UpdE.at (fun q_=>(Zaw.len q_:(eU8 q_).length=1)) (UpdE.self (fun q_=>((VK.vec Zaw 32).len q_:(Vec.c (n:=32) eU8 q_).length=32)) x20) yx23
          have buyx23:=uyx23.bound (fun q_=>(Zaw.len q_:(eU8 q_).length=1))
          have guyx23:=uyx23.get (fun q_=>(Zaw.len q_:(eU8 q_).length=1))
          try simp only[List.length_cons,List.length_nil,go_sem]at buyx23 guyx23
          try simp only[Zaa yx23,buyx23,guyx23,c12,c13,c14,c15,c16,c17,c18,c19,ZaR yx20,Za1 (Vec.c (n:=32) eU8) yx20,Zaa yx21,buyx21,guyx21,c22,go_sem]
          refine Zab h0 (fun c24 h0=>?_) (fun c24 h0=>?_)
          ·try simp only[c24,c12,c13,c14,c15,c16,c17,c18,c19,ZaR yx20,Za1 (Vec.c (n:=32) eU8) yx20,Zaa yx21,buyx21,guyx21,c22,Zaa yx23,buyx23,guyx23,go_sem]
           obtain⟨x25,yx25,h0⟩:=bind_some h0
           try simp only[ZaR yx25,Za1 (Vec.c (n:=32) eU8) yx25,c12,c13,c14,c15,c16,c17,c18,c19,ZaR yx20,Za1 (Vec.c (n:=32) eU8) yx20,Zaa yx21,buyx21,guyx21,c22,Zaa yx23,buyx23,guyx23,c24,go_sem]
           obtain⟨x26,yx26,h0⟩:=bind_some h0
           have uyx26:=UpdE.at (fun q_=>(Zaw.len q_:(eU8 q_).length=1)) (UpdE.self (fun q_=>((VK.vec Zaw 32).len q_:(Vec.c (n:=32) eU8 q_).length=32)) x25) yx26
           have buyx26:=uyx26.bound (fun q_=>(Zaw.len q_:(eU8 q_).length=1))
           have guyx26:=uyx26.get (fun q_=>(Zaw.len q_:(eU8 q_).length=1))
           try simp only[List.length_cons,List.length_nil,go_sem]at buyx26 guyx26
           try simp only[Zaa yx26,buyx26,guyx26,c12,c13,c14,c15,c16,c17,c18,c19,ZaR yx20,Za1 (Vec.c (n:=32) eU8) yx20,Zaa yx21,buyx21,guyx21,c22,Zaa yx23,buyx23,guyx23,c24,ZaR yx25,Za1 (Vec.c (n:=32) eU8) yx25,go_sem]
           refine Zab h0 (fun c27 h0=>?_) (fun c27 h0=>?_)
           ·try simp only[c27,c12,c13,c14,c15,c16,c17,c18,c19,ZaR yx20,Za1 (Vec.c (n:=32) eU8) yx20,Zaa yx21,buyx21,guyx21,c22,Zaa yx23,buyx23,guyx23,c24,ZaR yx25,Za1 (Vec.c (n:=32) eU8) yx25,Zaa yx26,buyx26,guyx26,go_sem]
            refine Zab h0 (fun c28 h0=>?_) (fun c28 h0=>?_)
            ·try simp only[c28,c12,c13,c14,c15,c16,c17,c18,c19,ZaR yx20,Za1 (Vec.c (n:=32) eU8) yx20,Zaa yx21,buyx21,guyx21,c22,Zaa yx23,buyx23,guyx23,c24,ZaR yx25,Za1 (Vec.c (n:=32) eU8) yx25,Zaa yx26,buyx26,guyx26,c27,go_sem]
             refine Zab h0 (fun c29 h0=>?_) (fun c29 h0=>?_)
             ·try simp only[c29,c12,c13,c14,c15,c16,c17,c18,c19,ZaR yx20,Za1 (Vec.c (n:=32) eU8) yx20,Zaa yx21,buyx21,guyx21,c22,Zaa yx23,buyx23,guyx23,c24,ZaR yx25,Za1 (Vec.c (n:=32) eU8) yx25,Zaa yx26,buyx26,guyx26,c27,c28,go_sem]
              refine Zab h0 (fun c30 h0=>?_) (fun c30 h0=>?_)
              ·try simp only[c30,c12,c13,c14,c15,c16,c17,c18,c19,ZaR yx20,Za1 (Vec.c (n:=32) eU8) yx20,Zaa yx21,buyx21,guyx21,c22,Zaa yx23,buyx23,guyx23,c24,ZaR yx25,Za1 (Vec.c (n:=32) eU8) yx25,Zaa yx26,buyx26,guyx26,c27,c28,c29,go_sem]
               refine Zab h0 (fun c31 h0=>?_) (fun c31 h0=>?_)
               ·try simp only[c31,c12,c13,c14,c15,c16,c17,c18,c19,ZaR yx20,Za1 (Vec.c (n:=32) eU8) yx20,Zaa yx21,buyx21,guyx21,c22,Zaa yx23,buyx23,guyx23,c24,ZaR yx25,Za1 (Vec.c (n:=32) eU8) yx25,Zaa yx26,buyx26,guyx26,c27,c28,c29,c30,go_sem]
                refine Zab h0 (fun c32 h0=>?_) (fun c32 h0=>?_)
                ·try simp only[c32,c12,c13,c14,c15,c16,c17,c18,c19,ZaR yx20,Za1 (Vec.c (n:=32) eU8) yx20,Zaa yx21,buyx21,guyx21,c22,Zaa yx23,buyx23,guyx23,c24,ZaR yx25,Za1 (Vec.c (n:=32) eU8) yx25,Zaa yx26,buyx26,guyx26,c27,c28,c29,c30,c31,go_sem]
                 refine Zab h0 (fun c33 h0=>?_) (fun c33 h0=>?_)
                 ·try simp only[c33,c12,c13,c14,c15,c16,c17,c18,c19,ZaR yx20,Za1 (Vec.c (n:=32) eU8) yx20,Zaa yx21,buyx21,guyx21,c22,Zaa yx23,buyx23,guyx23,c24,ZaR yx25,Za1 (Vec.c (n:=32) eU8) yx25,Zaa yx26,buyx26,guyx26,c27,c28,c29,c30,c31,c32,go_sem]
                  refine Zab h0 (fun c34 h0=>?_) (fun c34 h0=>?_)
                  ·try simp only[c34,c12,c13,c14,c15,c16,c17,c18,c19,ZaR yx20,Za1 (Vec.c (n:=32) eU8) yx20,Zaa yx21,buyx21,guyx21,c22,Zaa yx23,buyx23,guyx23,c24,ZaR yx25,Za1 (Vec.c (n:=32) eU8) yx25,Zaa yx26,buyx26,guyx26,c27,c28,c29,c30,c31,c32,c33,go_sem]
                   refine Zab h0 (fun c35 h0=>?_) (fun c35 h0=>?_)
                   ·try simp only[c35,c12,c13,c14,c15,c16,c17,c18,c19,ZaR yx20,Za1 (Vec.c (n:=32) eU8) yx20,Zaa yx21,buyx21,guyx21,c22,Zaa yx23,buyx23,guyx23,c24,ZaR yx25,Za1 (Vec.c (n:=32) eU8) yx25,Zaa yx26,buyx26,guyx26,c27,c28,c29,c30,c31,c32,c33,c34,go_sem]
                    refine Zab h0 (fun c36 h0=>?_) (fun c36 h0=>?_)
                    ·try simp only[c36,c12,c13,c14,c15,c16,c17,c18,c19,ZaR yx20,Za1 (Vec.c (n:=32) eU8) yx20,Zaa yx21,buyx21,guyx21,c22,Zaa yx23,buyx23,guyx23,c24,ZaR yx25,Za1 (Vec.c (n:=32) eU8) yx25,Zaa yx26,buyx26,guyx26,c27,c28,c29,c30,c31,c32,c33,c34,c35,go_sem]
                     obtain rfl:=oi h0
                     refine Zac rfl ?_
                     try simp only[F14.rs,c12,c13,c14,c15,c16,c17,c18,c19,ZaR yx20,Za1 (Vec.c (n:=32) eU8) yx20,Zaa yx21,buyx21,guyx21,c22,Zaa yx23,buyx23,guyx23,c24,ZaR yx25,Za1 (Vec.c (n:=32) eU8) yx25,Zaa yx26,buyx26,guyx26,c27,c28,c29,c30,c31,c32,c33,c34,c35,c36,go_sem]
                    ·cases h0
                   ·cases h0
                  ·cases h0
                 ·cases h0
                ·cases h0
               ·cases h0
              ·cases h0
             ·cases h0
            ·cases h0
           ·cases h0
          ·cases h0
         ·cases h0
        ·cases h0
       ·cases h0
      ·cases h0
     ·cases h0
    ·cases h0
   ·cases h0
  ·cases h0
 ·cases h0
def F51.s0:SC:=
 (.seq
 (.reg [b2 14 .lss 3 13 12 3 0 []])
 (.seq
 (.cond (.tmp 14)
 .skip
 (.exit 0))
 (.seq
 (.block 1
 (.seq
 (.reg [mv 15 13 3 [],
 ia 16 44 11 13 [],
 ld 17 25 16 [16],
 oq 5 (.alloc 25) 0 [],
 sg 4 15 3 [15],
 ⟨none,.store 25 (.tmp 5) (.tmp 17),0,none,[17]⟩])
 (.seq
 (.seq
 (.dreg [ld 18 25 5 [],
 cf1 19 92 18 25 4 [],
 oq 20 (.unOp .not 4 (.tmp 19)) 4 [],
 mv 21 20 4 [],
 og 22 (.move (.tmp 4)) 3 21 false [],
 og 23 (.binOp .gtr 3 (.tmp 22) (.const (.int .i64 0)) 3) 4 21 false [],
 og 24 (.move (.tmp 23)) 4 21 false [],
 og 25 (.fieldAddr 46 (.tmp 1) 0) 0 24 true [],
 og 26 (.load 44 (.tmp 25)) 44 24 true [],
 og 27 (.move (.tmp 4)) 3 24 true [],
 og 28 (.binOp .sub 3 (.tmp 27) (.const (.int .i64 1)) 3) 3 24 true [],
 og 29 (.indexAddr 44 (.tmp 26) (.tmp 28)) 0 24 true [],
 og 30 (.fieldAddr 25 (.tmp 29) 0) 0 24 true [],
 og 31 (.load 23 (.tmp 30)) 23 24 true [],
 og 32 (.fieldAddr 25 (.tmp 5) 0) 0 24 true [],
 og 33 (.load 23 (.tmp 32)) 23 24 true [],
 og 34 (.call ⟨.value (.func 103),#[.tmp 31,.tmp 33],#[23,23]⟩) 3 24 true [],
 og 35 (.binOp .geq 3 (.tmp 34) (.const (.int .i64 0)) 3) 4 24 true [],
 og 36 (.pick (.tmp 24) (.tmp 35) (.const (.bool false))) 4 21 false [],
 oq 37 (.pick (.tmp 21) (.const (.bool true)) (.tmp 36)) 4 [],
 mv 38 37 4 [],
 og 39 (.fieldAddr 25 (.tmp 5) 0) 0 38 false [],
 og 40 (.fieldAddr 23 (.tmp 39) 1) 0 38 false [],
 og 41 (.load 3 (.tmp 40)) 3 38 false [],
 og 42 (.fieldAddr 25 (.tmp 5) 0) 0 38 false [],
 og 43 (.fieldAddr 23 (.tmp 42) 0) 0 38 false [],
 og 44 (.load 3 (.tmp 43)) 3 38 false [],
 og 45 (.indexAddr 95 (.tmp 3) (.tmp 44)) 0 38 false [],
 og 46 (.load 3 (.tmp 45)) 3 38 false [],
 og 47 (.binOp .neq 3 (.tmp 41) (.tmp 46) 3) 4 38 false [],
 oq 48 (.pick (.tmp 38) (.const (.bool true)) (.tmp 47)) 4 []] [[],[0],[0,1],[0,1,2],[0,1,2,3],[0,1,2,3,4],[0,1,2,3,4,5],[0,1,2,3,4,5,6],[0,1,2,3,4,5,6,7],[0,1,2,3,4,5,6],[0,1,2,3,4,5,6,9],[0,1,2,3,4,5,6,7,8,9,10],[0,1,2,3,4,5,6,7,8,9,10,11],[0,1,2,3,4,5,6,7,8,9,10,11,12],[0,1,2,3,4,5,6],[0,1,2,3,4,5,6,14],[0,1,2,3,4,5,6,7,8,9,10,11,12,13,14,15],[0,1,2,3,4,5,6,7,8,9,10,11,12,13,14,15,16],[0,1,2,3,4,5,6,7,8,9,10,11,12,13,14,15,16,17],[0,1,2,3,4,5,6,7,8,9,10,11,12,13,14,15,16,17,18],[0,1,2,3,4,5,6,7,8,9,10,11,12,13,14,15,16,17,18,19],[0,1,2,3,4,5,6,7,8,9,10,11,12,13,14,15,16,17,18,19,20],[0,1,2,3,4,5,6,7,8,9,10,11,12,13,14,15,16,17,18,19,20,21],[0,1,2,3,4,5,6,7,8,9,10,11,12,13,14,15,16,17,18,19,20,21,22],[0,1,2,3,4,5,6,7,8,9,10,11,12,13,14,15,16,17,18,19,20],[0,1,2,3,4,5,6,7,8,9,10,11,12,13,14,15,16,17,18,19,20,24],[0,1,2,3,4,5,6,7,8,9,10,11,12,13,14,15,16,17,18,19,20,24,25],[0,1,2,3,4,5,6,7,8,9,10,11,12,13,14,15,16,17,18,19,20,24,25,26],[0,1,2,3,4,5,6,7,8,9,10,11,12,13,14,15,16,17,18,19,20,24,25,26,27],[0,1,2,3,4,5,6,7,8,9,10,11,12,13,14,15,16,17,18,19,20,21,22,23,24,25,26,27,28],[0,1,2,3,4,5,6,7,8,9,10,11,12,13,14,15,16,17,18,19,20,21,22,23,24,25,26,27,28,29]] [4,18,19,20,21,22,23,24,25,26,27,28,29,30,31,32,33,34,35,36,37,38,39,40,41,42,43,44,45,46,47])
 (.cond (.tmp 48)
 (.seq
 (.reg [sn 2 91 28 []])
 .ret)
 .skip))
 (.reg [fa 49 25 5 0 [5],
 fa 50 23 49 0 [49],
 ld 51 3 50 [50],
 ia 52 95 3 51 [],
 ld 53 3 52 [52],
 bn 54 .add 3 53 1 3 3 [53],
 ia 55 95 3 51 [51],
 ⟨none,.store 3 (.tmp 55) (.tmp 54),0,none,[54,55]⟩]))))
 (.reg [bn 56 .add 3 13 1 3 3 [13],
 mv 13 56 3 [56]]))))
def F51.c:SC:=
 (.seq
 (.reg [oq 1 (.box 46 (.tmp 0)) 0 [0],
 sn 2 0 28 [2]])
 (.seq
 (.reg [oq 3 (.alloc 95) 0 []])
 (.seq
 (.seq
 (.reg [fa 6 46 1 0 [],
 ld 7 44 6 [6],
 ln 8 7 44 3 [7],
 bn 9 .gtr 3 8 60 3 4 [8]])
 (.cond (.tmp 9)
 (.seq
 (.reg [sn 2 91 28 []])
 .ret)
 .skip))
 (.seq
 (.seq
 (.reg [fa 10 46 1 0 [],
 ld 11 44 10 [10],
 ln 12 11 44 3 [],
 oq 13 (.move (.const (.int .i64 0))) 3 []])
 (.block 0
 (.loop F51.s0)))
 (.seq
 (.reg [sn 2 0 28 []])
 .ret)))))
theorem F51.rs:Try.f51.results.toList=[.tmp 2]:=rfl
def ZaO.b0 (k:Nat) (b0:Book):((Vec 6 Int)×Int)→Option (Stp ((Vec 6 Int)×Int) (Unit) (Int)):=fun(s:(Vec 6 Int)×Int)=>match s with
 |(s2,i3)=>
   bif decide (i3<(b0.Records.length:Int)) then
    (at? b0.Records i3).bind fun x5=>
    (Zbf k x5).bind fun x6=>
    bif x6 then
     bif decide ((0:Int)<i3) then
      (at? b0.Records (w64 (i3 - 1))).bind fun x9=>
      (Zc5 k x9.At x5.At).bind fun x10=>
      bif (!decide ((0:Int)≤x10)) then
       (s2.at? x5.At.House).bind fun x12=>
       bif (!decide (x5.At.No=x12)) then
        some (.ret 91)
       else
        some (.next (s2.set x5.At.House (w64 (x12+1)),w64 (i3+1)))
      else
       some (.ret 91)
     else
      (s2.at? x5.At.House).bind fun x15=>
      bif (!decide (x5.At.No=x15)) then
       some (.ret 91)
      else
       some (.next (s2.set x5.At.House (w64 (x15+1)),w64 (i3+1)))
    else
     some (.ret 91)
   else
    some (.brk ())
noncomputable def ZaO.h0 (b0:Book):((Vec 6 Int)×Int)→St:=fun(s:(Vec 6 Int)×Int)=>match s with
 |(s2,i3)=>⟨[(1,.ptr 0 0 0),(3,.ptr 0 1 0),(11,.sl 8 (List.map Record.c b0.Records)),(12,.int .i64 (b0.Records.length:Int)),(13,.int .i64 i3)],[(0,.box ([.sl 8 (List.map Record.c b0.Records)])),(1,.box (Vec.c (n:=6) eI s2))],[],2,Try.f51.ntmps⟩
noncomputable def ZaO.x0:Unit→St:=fun(_:Unit)=>⟨[],[],[],1,Try.f51.ntmps⟩
def ZaO (k:Nat) (b0:Book):Option (Int):=
 bif decide ((60:Int)<(b0.Records.length:Int)) then
  some 91
 else
  (whl (ZaO.b0 k b0) k ((Vec.rep 6 (0:Int)),0)).bind fun r18=>match r18 with
  |.next _=>none
  |.ret v_=>some v_
  |.brk _=>
   some 0
theorem ZjF (k:Nat) (b0:Book) (r:Int) (h0:ZaO k b0=some r):Za6 Try.prog 51 [.agg (Book.c b0)] (fun y=>y=.int .i64 r):=by
 refine PB (fn:=Try.f51) (sc:=F51.c) ?_
 refine rS ?_
 simp only[ZaO]at h0
 try simp only[F51.c,go_sem]
 refine Zab h0 ?_ ?_<;>intro c1 h0
 try simp only[c1,go_sem]
 obtain rfl:=oi h0
 refine Zac rfl ?_
 try simp only[F51.rs,c1,go_sem]
 try simp only[c1,go_sem]
 obtain⟨r18,yr18,h0⟩:=bs h0
 refine Zaz yr18 (ZaO.h0 b0) (ZaO.x0) ?_ ?_ ?_
 refine ZaE.go [1,3,11,12,13] [0,32] rfl ?_
 try simp only[ZaO.h0,c1,go_sem]
 rintro⟨s2,i3⟩ x_1 Bk1 Br1 h1 hnext1 hbrk1 hret1
 refine rS ?_
 simp only[ZaO.b0]at h1
 try simp only[F51.s0,ZaO.h0,c1,go_sem]
 refine Zab h1 ?_ ?_<;>intro c4 h1
 try simp only[c4,c1,go_sem]
 obtain⟨x5,yx5,h1⟩:=bs h1
 try simp only[aa yx5,c1,c4,go_sem]
 refine Zas Za9 Zat 1000 ?_
 try simp only[c1,c4,aa yx5,go_sem]
 obtain⟨x6,yx6,h1⟩:=bs h1
 refine ZaC 1000 (ZbS k _ _ yx6) ?_ (by first|rfl|(simp[AV.refsL,AV.refs,AV.scal,AV.leaf];done)|simp[AV.refsL,AV.refs,AV.scal,AV.leaf,go_sem]) ?_
 try simp only[c1,c4,aa yx5,go_sem]
 try simp only[c1,c4,aa yx5,go_sem]
 refine ZgC h1 ?_ ?_<;>intro c7 h1
 try simp only[c7,c1,c4,aa yx5,go_sem]
 refine ZgC h1 ?_ ?_<;>intro c8 h1
 try simp only[c8,c1,c4,aa yx5,c7,go_sem]
 obtain⟨x9,yx9,h1⟩:=bs h1
 try simp only[aa yx9,c1,c4,aa yx5,c7,c8,go_sem]
 obtain⟨x10,yx10,h1⟩:=bs h1
 refine ZaC 1000 (Zfu k _ _ _ yx10) ?_ (by first|rfl|(simp[AV.refsL,AV.refs,AV.scal,AV.leaf];done)|simp[AV.refsL,AV.refs,AV.scal,AV.leaf,go_sem]) ?_
 try simp only[c1,c4,aa yx5,c7,c8,aa yx9,go_sem]
 try simp only[c1,c4,aa yx5,c7,c8,aa yx9,go_sem]
 refine ZgC h1 ?_ ?_<;>intro c11 h1
 have c11:=ZaB c11
 try simp only[c11,c1,c4,aa yx5,c7,c8,aa yx9,go_sem]
 obtain⟨x12,yx12,h1⟩:=bs h1
 have uyx12:=UpdE.at (fun q_=>(ZaN.len q_:(eI q_).length=1)) (UpdE.self (fun q_=>((VK.vec ZaN 6).len q_:(Vec.c (n:=6) eI q_).length=6)) s2) yx12
 have buyx12:=uyx12.bound (fun q_=>(ZaN.len q_:(eI q_).length=1))
 have guyx12:=uyx12.get (fun q_=>(ZaN.len q_:(eI q_).length=1))
 try simp only[List.length_cons,List.length_nil,go_sem]at buyx12 guyx12
 try simp only[Zaa yx12,buyx12,guyx12,c1,c4,aa yx5,c7,c8,aa yx9,c11,go_sem]
 refine Za4 ⟨Za3 (by simp only[ZcE,List.reverse_cons,List.reverse_nil,List.nil_append,List.cons_append,List.map_cons,List.map_nil,List.append_nil];rfl) (by first|decide +kernel|rfl),Zae Za9 1000 _ _ ?_⟩
 try simp only[c1,c4,aa yx5,c7,c8,aa yx9,c11,Zaa yx12,buyx12,guyx12,go_sem]
 refine Zab h1 ?_ ?_<;>intro c13 h1
 have c13:=ZaB c13
 try simp only[c13,c1,c4,aa yx5,c7,c8,aa yx9,c11,Zaa yx12,buyx12,guyx12,go_sem]
 obtain rfl:=hret1 _ (oi h1).symm
 simp only at h0
 obtain rfl:=oi h0
 refine Zac rfl ?_
 try simp only[F51.rs,c1,c4,aa yx5,c7,c8,aa yx9,c11,Zaa yx12,buyx12,guyx12,c13,go_sem]
 have c13:=ZaA c13
 have q14:=uyx12.ow (w64 (x12+1))
 try simp only[List.length_cons,List.length_nil,go_sem]at q14
 try simp only[c13,Zaa yx12,buyx12,guyx12,q14,c1,c4,aa yx5,c7,c8,aa yx9,c11,go_sem]
 refine Zaf (hnext1 _ _ (oi h1).symm ?_)
 refine ZaE.go [1,3,11,12,13] [0,1] rfl ?_
 try simp only[ZaO.h0,c1,c4,aa yx5,c7,c8,aa yx9,c11,Zaa yx12,buyx12,guyx12,c13,go_sem]
 have c11:=ZaA c11
 try simp only[c11,c1,c4,aa yx5,c7,c8,aa yx9,go_sem]
 refine Za4 ⟨Za3 (by simp only[ZcE,List.reverse_cons,List.reverse_nil,List.nil_append,List.cons_append,List.map_cons,List.map_nil,List.append_nil];rfl) (by first|decide +kernel|rfl),Zae Za9 1000 _ _ ?_⟩
 try simp only[c1,c4,aa yx5,c7,c8,aa yx9,c11,go_sem]
 obtain rfl:=hret1 _ (oi h1).symm
 simp only at h0
 obtain rfl:=oi h0
 refine Zac rfl ?_
 try simp only[F51.rs,c1,c4,aa yx5,c7,c8,aa yx9,c11,go_sem]
 try simp only[c8,c1,c4,aa yx5,c7,go_sem]
 obtain⟨x15,yx15,h1⟩:=bs h1
 have uyx15:=UpdE.at (fun q_=>(ZaN.len q_:(eI q_).length=1)) (UpdE.self (fun q_=>((VK.vec ZaN 6).len q_:(Vec.c (n:=6) eI q_).length=6)) s2) yx15
 have buyx15:=uyx15.bound (fun q_=>(ZaN.len q_:(eI q_).length=1))
 have guyx15:=uyx15.get (fun q_=>(ZaN.len q_:(eI q_).length=1))
 try simp only[List.length_cons,List.length_nil,go_sem]at buyx15 guyx15
 try simp only[Zaa yx15,buyx15,guyx15,c1,c4,aa yx5,c7,c8,go_sem]
 refine Za4 ⟨Za3 (by simp only[ZcE,List.reverse_cons,List.reverse_nil,List.nil_append,List.cons_append,List.map_cons,List.map_nil,List.append_nil];rfl) (by first|decide +kernel|rfl),Zae Za9 1000 _ _ ?_⟩
 try simp only[c1,c4,aa yx5,c7,c8,Zaa yx15,buyx15,guyx15,go_sem]
 refine Zab h1 ?_ ?_<;>intro c16 h1
 have c16:=ZaB c16
 try simp only[c16,c1,c4,aa yx5,c7,c8,Zaa yx15,buyx15,guyx15,go_sem]
 obtain rfl:=hret1 _ (oi h1).symm
 simp only at h0
 obtain rfl:=oi h0
 refine Zac rfl ?_
 try simp only[F51.rs,c1,c4,aa yx5,c7,c8,Zaa yx15,buyx15,guyx15,c16,go_sem]
 have c16:=ZaA c16
 have q17:=uyx15.ow (w64 (x15+1))
 try simp only[List.length_cons,List.length_nil,go_sem]at q17
 try simp only[c16,Zaa yx15,buyx15,guyx15,q17,c1,c4,aa yx5,c7,c8,go_sem]
 refine Zaf (hnext1 _ _ (oi h1).symm ?_)
 refine ZaE.go [1,3,11,12,13] [0,1] rfl ?_
 try simp only[ZaO.h0,c1,c4,aa yx5,c7,c8,Zaa yx15,buyx15,guyx15,c16,go_sem]
 try simp only[c7,c1,c4,aa yx5,go_sem]
 refine Za4 ⟨Za3 (by simp only[ZcE,List.reverse_cons,List.reverse_nil,List.nil_append,List.cons_append,List.map_cons,List.map_nil,List.append_nil];rfl) (by first|decide +kernel|rfl),Zae Za9 1000 _ _ ?_⟩
 try simp only[c1,c4,aa yx5,c7,go_sem]
 obtain rfl:=hret1 _ (oi h1).symm
 simp only at h0
 obtain rfl:=oi h0
 refine Zac rfl ?_
 try simp only[F51.rs,c1,c4,aa yx5,c7,go_sem]
 try simp only[c4,c1,go_sem]
 refine Zaf (hbrk1 _ _ (oi h1).symm ?_)
 refine ZaE.go [] [] rfl ?_
 try simp only[ZaO.x0,c1,c4,go_sem]
 rintro _ hr_
 subst hr_
 simp only at h0
 refine rS ?_
 try simp only[ZaO.x0,c1,go_sem]
 obtain rfl:=oi h0
 refine Zac rfl ?_
 try simp only[F51.rs,c1,go_sem]
def F53.c:SC:=
 (.seq
 (.reg [oq 1 (.box 46 (.tmp 0)) 0 [0],
 oq 2 (.alloc 95) 0 [],
 sn 3 0 28 [3]])
 (.seq
 (.seq
 (.reg [ld 5 46 1 [],
 cf1 6 51 5 46 28 [5],
 sg 4 6 28 [6]])
 (.seq
 (.reg [mv 7 4 28 [],
 bn 8 .neq 28 7 0 28 4 [7]])
 (.cond (.tmp 8)
 (.seq
 (.reg [oq 9 (.build 95 #[]) 95 [],
 mv 10 4 28 [4],
 ⟨none,.store 95 (.tmp 2) (.tmp 9),0,none,[9]⟩,
 sg 3 10 28 [10]])
 .ret)
 .skip)))
 (.seq
 (.reg [ld 11 46 1 [1],
 cf1 12 104 11 46 95 [11],
 ⟨none,.store 95 (.tmp 2) (.tmp 12),0,none,[12]⟩,
 sn 3 0 28 []])
 .ret)))
theorem F53.rs:Try.f53.results.toList=[.cell 2 95,.tmp 3]:=rfl
def Zew (k:Nat) (b0:Book):Option ((Vec 6 Int)×Int):=
 (ZaO k b0).bind fun x1=>
 bif (!decide (x1=(0:Int))) then
  some ((Vec.rep 6 (0:Int)),x1)
 else
  (ZaK k b0).bind fun x3=>
  some (x3,0)
theorem Zh4 (k:Nat) (b0:Book) (r:(Vec 6 Int)×Int) (h0:Zew k b0=some r):Za6 Try.prog 53 [.agg (Book.c b0)] (fun y=>y=.tup [.agg ((Vec.c (n:=6) eI) r.1),.int .i64 r.2]):=by
 refine PB (fn:=Try.f53) (sc:=F53.c) ?_
 refine rS ?_
 simp only[Zew]at h0
 try simp only[F53.c,go_sem]
 obtain⟨x1,yx1,h0⟩:=bs h0
 refine zc0 (ZjF k _ _ yx1) ?_ (by first|rfl|(simp[AV.refsL,AV.refs,AV.scal,AV.leaf];done)|simp[AV.refsL,AV.refs,AV.scal,AV.leaf,go_sem]) ?_
 try simp only[go_sem]
 try simp only[go_sem]
 refine Zab h0 ?_ ?_<;>intro c2 h0
 have c2:=ZaB c2
 try simp only[c2,go_sem]
 obtain rfl:=oi h0
 refine Zac rfl ?_
 try simp only[F53.rs,c2,go_sem]
 have c2:=ZaA c2
 try simp only[c2,go_sem]
 obtain⟨x3,yx3,h0⟩:=bs h0
 refine zc0 (ZcC k _ _ yx3) ?_ (by first|rfl|(simp[AV.refsL,AV.refs,AV.scal,AV.leaf];done)|simp[AV.refsL,AV.refs,AV.scal,AV.leaf,go_sem]) ?_
 try simp only[c2,go_sem]
 try simp only[c2,go_sem]
 obtain rfl:=oi h0
 refine Zac rfl ?_
 try simp only[F53.rs,c2,go_sem]
def F39.c:SC:=
 (.seq
 (.reg [sn 4 0 3 [4]])
 (.seq
 (.reg [mv 5 0 3 [0],
 mv 6 1 3 [],
 b2 7 .rem 3 5 6 3 3 [5,6],
 mv 8 1 3 [],
 b2 9 .add 3 7 8 3 3 [7,8],
 mv 10 1 3 [1],
 b2 11 .rem 3 9 10 3 3 [9,10],
 sg 4 11 3 [11]])
 .ret))
theorem F39.rs:Try.f39.results.toList=[.tmp 4]:=rfl
def Zc1 (k:Nat) (n0:Int) (m1:Int):Option (Int):=
 (nz? m1).bind fun _=>
 some (Int.tmod (w64 ((Int.tmod n0 m1)+m1)) m1)
theorem ZbU (k:Nat) (n0:Int) (m1:Int) (r:Int) (h0:Zc1 k n0 m1=some r):Za6 Try.prog 39 [.int .i64 n0,.int .i64 m1] (fun y=>y=.int .i64 r):=by
 refine PB (fn:=Try.f39) (sc:=F39.c) ?_
 refine rS ?_
 simp only[Zc1]at h0
 try simp only[F39.c,go_sem]
 obtain⟨u1,yu1,h0⟩:=bs h0
 try simp only[Zb0 yu1,go_sem]
 obtain rfl:=oi h0
 refine Zac rfl ?_
 try simp only[F39.rs,Zb0 yu1,go_sem]
def F112.c:SC:=
 (.seq
 (.reg [sb 2 false 4 [2]])
 (.seq
 (.reg [mv 3 0 3 [0],
 oq 4 (.call ⟨.value (.func 65),#[.tmp 3,.const (.int .i64 0),.const (.int .i64 5)],#[3,3,3]⟩) 4 [3],
 sg 2 4 4 [4]])
 .ret))
theorem F112.rs:Try.f112.results.toList=[.tmp 2]:=rfl
def Zb7 (k:Nat) (n0:Int):Option (Bool):=
 (Za8 k n0 0 5).bind fun x1=>
 some x1
theorem Zcd (k:Nat) (n0:Int) (r:Bool) (h0:Zb7 k n0=some r):Za6 Try.prog 112 [.int .i64 n0] (fun y=>y=.bool r):=by
 refine PB (fn:=Try.f112) (sc:=F112.c) ?_
 refine rS ?_
 simp only[Zb7]at h0
 try simp only[F112.c,go_sem]
 obtain⟨x1,yx1,h0⟩:=bs h0
 refine zc0 (ZaF k _ _ _ _ yx1) ?_ (by first|rfl|(simp[AV.refsL,AV.refs,AV.scal,AV.leaf];done)|simp[AV.refsL,AV.refs,AV.scal,AV.leaf,go_sem]) ?_
 try simp only[go_sem]
 try simp only[go_sem]
 obtain rfl:=oi h0
 refine Zac rfl ?_
 try simp only[F112.rs,go_sem]
def F111.s1:SC:=
 (.seq
 (.reg [bn 26 .lss 3 25 6 3 0 []])
 (.seq
 (.cond (.tmp 26)
 .skip
 (.exit 2))
 (.seq
 (.block 3
 (.seq
 (.reg [oq 27 (.index 95 (.tmp 24) (.tmp 25)) 3 [],
 sg 6 27 3 [27]])
 (.seq
 (.reg [mv 28 6 3 [6],
 oq 29 (.call ⟨.value (.func 65),#[.tmp 28,.const (.int .i64 0),.const (.int .i64 60)],#[3,3,3]⟩) 4 [28],
 oq 30 (.unOp .not 4 (.tmp 29)) 4 [29]])
 (.cond (.tmp 30)
 (.seq
 (.reg [sn 2 96 28 []])
 .ret)
 .skip))))
 (.reg [bn 31 .add 3 25 1 3 3 [25],
 mv 25 31 3 [31]]))))
def F111.s0:SC:=
 (.seq
 (.reg [bn 22 .lss 3 21 6 3 0 []])
 (.seq
 (.cond (.tmp 22)
 .skip
 (.exit 0))
 (.seq
 (.block 1
 (.seq
 (.reg [oq 23 (.index 105 (.tmp 20) (.tmp 21)) 95 [],
 oq 4 (.alloc 95) 0 [],
 ⟨none,.store 95 (.tmp 4) (.tmp 23),0,none,[23]⟩])
 (.seq
 (.reg [ld 24 95 4 [4],
 oq 25 (.move (.const (.int .i64 0))) 3 []])
 (.block 2
 (.loop F111.s1)))))
 (.reg [bn 32 .add 3 21 1 3 3 [21],
 mv 21 32 3 [32]]))))
def F111.c:SC:=
 (.seq
 (.reg [oq 1 (.box 107 (.tmp 0)) 0 [0],
 sn 2 0 28 [2]])
 (.seq
 (.seq
 (.reg [fa 7 107 1 0 [],
 ld 8 3 7 [7],
 cf1 9 112 8 3 4 [8],
 oq 10 (.unOp .not 4 (.tmp 9)) 4 [9],
 mv 11 10 4 [10],
 og 12 (.fieldAddr 107 (.tmp 1) 1) 0 11 false [],
 og 13 (.load 42 (.tmp 12)) 42 11 false [12],
 og 14 (.fieldAddr 107 (.tmp 1) 2) 0 11 false [],
 og 15 (.load 48 (.tmp 14)) 48 11 false [14],
 og 16 (.call ⟨.value (.func 24),#[.tmp 13,.tmp 15],#[42,48]⟩) 28 11 false [13,15],
 og 17 (.binOp .neq 28 (.tmp 16) (.const (.int .i64 0)) 28) 4 11 false [16],
 oq 18 (.pick (.tmp 11) (.const (.bool true)) (.tmp 17)) 4 [11,17]])
 (.cond (.tmp 18)
 (.seq
 (.reg [sn 2 96 28 []])
 .ret)
 .skip))
 (.seq
 (.seq
 (.reg [fa 19 107 1 3 [1],
 ld 20 105 19 [19],
 oq 21 (.move (.const (.int .i64 0))) 3 []])
 (.block 0
 (.loop F111.s0)))
 (.seq
 (.reg [sn 2 0 28 []])
 .ret))))
theorem F111.rs:Try.f111.results.toList=[.tmp 2]:=rfl
def Zal.b1 (k:Nat) (x7:(Vec 6 Int)):Int→Option (Stp (Int) (Unit) (Int)):=fun(i8:Int)=>
 bif decide (i8<(6:Int)) then
  (x7.at? i8).bind fun x10=>
  (Za8 k x10 0 60).bind fun x11=>
  bif (!x11) then
   some (.ret 96)
  else
   some (.next (w64 (i8+1)))
 else
  some (.brk ())
def Zal.b0 (k:Nat) (hh0:House):Int→Option (Stp (Int) (Unit) (Int)):=fun(i5:Int)=>
 bif decide (i5<(6:Int)) then
  (hh0.Known.at? i5).bind fun x7=>
  (whl (Zal.b1 k x7) k 0).bind fun r13=>match r13 with
  |.next _=>none
  |.ret v_=>some (.ret v_)
  |.brk _=>
   some (.next (w64 (i5+1)))
 else
  some (.brk ())
noncomputable def Zal.h1 (hh0:House) (i5:Int) (x7:(Vec 6 Int)):Int→St:=fun(i8:Int)=>⟨[(20,.agg (Vec.c (n:=6) (Vec.c (n:=6) eI) hh0.Known)),(21,.int .i64 i5),(24,.agg (Vec.c (n:=6) eI x7)),(25,.int .i64 i8)],[],[],1,Try.f111.ntmps⟩
noncomputable def Zal.x1 (hh0:House) (i5:Int):Unit→St:=fun(_:Unit)=>⟨[(20,.agg (Vec.c (n:=6) (Vec.c (n:=6) eI) hh0.Known)),(21,.int .i64 i5)],[],[],1,Try.f111.ntmps⟩
noncomputable def Zal.h0 (hh0:House):Int→St:=fun(i5:Int)=>⟨[(20,.agg (Vec.c (n:=6) (Vec.c (n:=6) eI) hh0.Known)),(21,.int .i64 i5)],[],[],1,Try.f111.ntmps⟩
noncomputable def Zal.x0:Unit→St:=fun(_:Unit)=>⟨[],[],[],1,Try.f111.ntmps⟩
def Zal (k:Nat) (hh0:House):Option (Int):=
 (Zb7 k hh0.Me).bind fun x1=>
 bif x1 then
  (Zb3 k hh0.Disk hh0.Ledger).bind fun x3=>
  bif (!decide (x3=(0:Int))) then
   some 96
  else
   (whl (Zal.b0 k hh0) k 0).bind fun r14=>match r14 with
   |.next _=>none
   |.ret v_=>some v_
   |.brk _=>
    some 0
 else
  some 96
theorem Zcb (k:Nat) (hh0:House) (r:Int) (h0:Zal k hh0=some r):Za6 Try.prog 111 [.agg (House.c hh0)] (fun y=>y=.int .i64 r):=by
 refine PB (fn:=Try.f111) (sc:=F111.c) ?_
 refine rS ?_
 simp only[Zal]at h0
 try simp only[F111.c,go_sem]
 obtain⟨x1,yx1,h0⟩:=bs h0
 refine zc0 (Zcd k _ _ yx1) ?_ (by first|rfl|(simp[AV.refsL,AV.refs,AV.scal,AV.leaf];done)|simp[AV.refsL,AV.refs,AV.scal,AV.leaf,go_sem]) ?_
 try simp only[go_sem]
 try simp only[go_sem]
 refine Zab h0 ?_ ?_<;>intro c2 h0
 try simp only[c2,go_sem]
 obtain⟨x3,yx3,h0⟩:=bs h0
 refine zc0 (ZdI k _ _ _ yx3) ?_ (by first|rfl|(simp[AV.refsL,AV.refs,AV.scal,AV.leaf];done)|simp[AV.refsL,AV.refs,AV.scal,AV.leaf,go_sem]) ?_
 try simp only[c2,go_sem]
 try simp only[c2,go_sem]
 refine Zab h0 ?_ ?_<;>intro c4 h0
 have c4:=ZaB c4
 try simp only[c4,c2,go_sem]
 obtain rfl:=oi h0
 refine Zac rfl ?_
 try simp only[F111.rs,c2,c4,go_sem]
 have c4:=ZaA c4
 try simp only[c4,c2,go_sem]
 obtain⟨r14,yr14,h0⟩:=bs h0
 refine Zaz yr14 (Zal.h0 hh0) (Zal.x0) ?_ ?_ ?_
 refine ZaE.go [20,21] [] rfl ?_
 try simp only[Zal.h0,c2,c4,go_sem]
 rintro i5 x_1 Bk1 Br1 h1 hnext1 hbrk1 hret1
 refine rS ?_
 simp only[Zal.b0]at h1
 try simp only[F111.s0,Zal.h0,c2,c4,go_sem]
 refine Zab h1 ?_ ?_<;>intro c6 h1
 try simp only[c6,c2,c4,go_sem]
 obtain⟨x7,yx7,h1⟩:=bs h1
 have uyx7:=UpdE.idx (fun q_=>((VK.vec ZaN 6).len q_:((Vec.c (n:=6) eI) q_).length=6)) yx7
 have buyx7:=uyx7.bound (fun q_=>((VK.vec ZaN 6).len q_:((Vec.c (n:=6) eI) q_).length=6))
 have guyx7:=uyx7.get (fun q_=>((VK.vec ZaN 6).len q_:((Vec.c (n:=6) eI) q_).length=6))
 try simp only[go_sem]at buyx7 guyx7
 try simp only[Zaa yx7,buyx7,guyx7,c2,c4,c6,go_sem]
 obtain⟨r13,yr13,h1⟩:=bs h1
 refine Zaz yr13 (Zal.h1 hh0 i5 x7) (Zal.x1 hh0 i5) ?_ ?_ ?_
 refine ZaE.go [20,21,24,25] [] rfl ?_
 try simp only[Zal.h1,c2,c4,c6,Zaa yx7,buyx7,guyx7,go_sem]
 rintro i8 x_2 Bk2 Br2 h2 hnext2 hbrk2 hret2
 refine rS ?_
 simp only[Zal.b1]at h2
 try simp only[F111.s1,Zal.h1,c2,c4,c6,Zaa yx7,buyx7,guyx7,go_sem]
 refine Zab h2 ?_ ?_<;>intro c9 h2
 try simp only[c9,c2,c4,c6,Zaa yx7,buyx7,guyx7,go_sem]
 obtain⟨x10,yx10,h2⟩:=bs h2
 have uyx10:=UpdE.idx (fun q_=>(ZaN.len q_:(eI q_).length=1)) yx10
 have buyx10:=uyx10.bound (fun q_=>(ZaN.len q_:(eI q_).length=1))
 have guyx10:=uyx10.get (fun q_=>(ZaN.len q_:(eI q_).length=1))
 try simp only[go_sem]at buyx10 guyx10
 try simp only[Zaa yx10,buyx10,guyx10,c2,c4,c6,Zaa yx7,buyx7,guyx7,c9,go_sem]
 obtain⟨x11,yx11,h2⟩:=bs h2
 refine zc0 (ZaF k _ _ _ _ yx11) ?_ (by first|rfl|(simp[AV.refsL,AV.refs,AV.scal,AV.leaf];done)|simp[AV.refsL,AV.refs,AV.scal,AV.leaf,go_sem]) ?_
 try simp only[c2,c4,c6,Zaa yx7,buyx7,guyx7,c9,Zaa yx10,buyx10,guyx10,go_sem]
 try simp only[c2,c4,c6,Zaa yx7,buyx7,guyx7,c9,Zaa yx10,buyx10,guyx10,go_sem]
 refine Zab h2 ?_ ?_<;>intro c12 h2
 have c12:=ZaB c12
 try simp only[c12,c2,c4,c6,Zaa yx7,buyx7,guyx7,c9,Zaa yx10,buyx10,guyx10,go_sem]
 obtain rfl:=hret2 _ (oi h2).symm
 simp only at h1
 obtain rfl:=hret1 _ (oi h1).symm
 simp only at h0
 obtain rfl:=oi h0
 refine Zac rfl ?_
 try simp only[F111.rs,c2,c4,c6,Zaa yx7,buyx7,guyx7,c9,Zaa yx10,buyx10,guyx10,c12,go_sem]
 have c12:=ZaA c12
 try simp only[c12,c2,c4,c6,Zaa yx7,buyx7,guyx7,c9,Zaa yx10,buyx10,guyx10,go_sem]
 refine Zaf (hnext2 _ _ (oi h2).symm ?_)
 refine ZaE.go [20,21,24,25] [] rfl ?_
 try simp only[Zal.h1,c2,c4,c6,Zaa yx7,buyx7,guyx7,c9,Zaa yx10,buyx10,guyx10,c12,go_sem]
 try simp only[c9,c2,c4,c6,Zaa yx7,buyx7,guyx7,go_sem]
 refine Zaf (hbrk2 _ _ (oi h2).symm ?_)
 refine ZaE.go [20,21] [] rfl ?_
 try simp only[Zal.x1,c2,c4,c6,Zaa yx7,buyx7,guyx7,c9,go_sem]
 rintro _ hr_
 subst hr_
 simp only at h1
 refine rS ?_
 try simp only[Zal.x1,c2,c4,c6,Zaa yx7,buyx7,guyx7,go_sem]
 refine Zaf (hnext1 _ _ (oi h1).symm ?_)
 refine ZaE.go [20,21] [] rfl ?_
 try simp only[Zal.h0,c2,c4,c6,Zaa yx7,buyx7,guyx7,go_sem]
 try simp only[c6,c2,c4,go_sem]
 refine Zaf (hbrk1 _ _ (oi h1).symm ?_)
 refine ZaE.go [] [] rfl ?_
 try simp only[Zal.x0,c2,c4,c6,go_sem]
 rintro _ hr_
 subst hr_
 simp only at h0
 refine rS ?_
 try simp only[Zal.x0,c2,c4,go_sem]
 obtain rfl:=oi h0
 refine Zac rfl ?_
 try simp only[F111.rs,c2,c4,go_sem]
 try simp only[c2,go_sem]
 obtain rfl:=oi h0
 refine Zac rfl ?_
 try simp only[F111.rs,c2,go_sem]
def F62.c:SC:=
 (.seq
 (.reg [oq 2 (.box 107 (.tmp 0)) 0 [0],
 oq 4 (.alloc 107) 0 [],
 sn 5 0 28 [5]])
 (.seq
 (.seq
 (.reg [ld 10 107 2 [],
 cf1 11 111 10 107 28 [10],
 sg 6 11 28 [11]])
 (.seq
 (.reg [mv 12 6 28 [],
 bn 13 .neq 28 12 0 28 4 [12]])
 (.cond (.tmp 13)
 (.seq
 (.reg [oq 14 (.build 107 #[]) 107 [],
 mv 15 6 28 [6],
 ⟨none,.store 107 (.tmp 4) (.tmp 14),0,none,[14]⟩,
 sg 5 15 28 [15]])
 .ret)
 .skip)))
 (.seq
 (.reg [fa 17 107 2 1 [],
 ld 18 42 17 [17],
 mv 19 1 63 [1],
 cf2 20 36 18 19 42 63 42 [18,19],
 cf1 21 32 20 42 50 [20],
 mv 16 21 50 [21],
 xt 22 16 0 42 [],
 xt 23 16 1 48 [],
 xt 24 16 2 28 [16],
 oq 7 (.alloc 42) 0 [],
 oq 8 (.alloc 48) 0 [],
 ⟨none,.store 42 (.tmp 7) (.tmp 22),0,none,[22]⟩,
 ⟨none,.store 48 (.tmp 8) (.tmp 23),0,none,[23]⟩,
 sg 9 24 28 [24]])
 (.seq
 (.seq
 (.reg [mv 25 9 28 [],
 bn 26 .neq 28 25 0 28 4 [25]])
 (.cond (.tmp 26)
 (.seq
 (.reg [oq 27 (.build 107 #[]) 107 [],
 mv 28 9 28 [9],
 ⟨none,.store 107 (.tmp 4) (.tmp 27),0,none,[27]⟩,
 sg 5 28 28 [28]])
 .ret)
 .skip))
 (.seq
 (.reg [fa 29 107 2 0 [2],
 ld 30 3 29 [29],
 ld 31 42 7 [7],
 ld 32 48 8 [8],
 oq 33 (.build 107 #[(0,.tmp 30),(1,.tmp 31),(2,.tmp 32)]) 107 [30,31,32],
 ⟨none,.store 107 (.tmp 4) (.tmp 33),0,none,[33]⟩,
 sn 5 0 28 []])
 .ret)))))
theorem F62.rs:Try.f62.results.toList=[.cell 4 107,.tmp 5]:=rfl
def ZbN (k:Nat) (hh0:House) (picks1:(List Int)):Option (House×Int):=
 (Zal k hh0).bind fun x1=>
 bif (!decide (x1=(0:Int))) then
  some ((⟨0,(⟨[],[]⟩:Disk),(⟨(⟨[]⟩:Book),0,0,0⟩:Ledger),(Vec.rep 6 ((Vec.rep 6 (0:Int)):(Vec 6 Int)))⟩:House),x1)
 else
  (Zan k hh0.Disk picks1).bind fun x3=>
  (ZcS k x3).bind fun x4=>
  bif (!decide (x4.2.2=(0:Int))) then
   some ((⟨0,(⟨[],[]⟩:Disk),(⟨(⟨[]⟩:Book),0,0,0⟩:Ledger),(Vec.rep 6 ((Vec.rep 6 (0:Int)):(Vec 6 Int)))⟩:House),x4.2.2)
  else
   some ((⟨hh0.Me,x4.1,x4.2.1,(Vec.rep 6 ((Vec.rep 6 (0:Int)):(Vec 6 Int)))⟩:House),0)
theorem Zff (k:Nat) (hh0:House) (picks1:(List Int)) (r:House×Int) (h0:ZbN k hh0 picks1=some r):Za6 Try.prog 62 [.agg (House.c hh0),.sl 1 (List.map eI picks1)] (fun y=>y=.tup [.agg (House.c r.1),.int .i64 r.2]):=by
 refine PB (fn:=Try.f62) (sc:=F62.c) ?_
 refine rS ?_
 simp only[ZbN]at h0
 try simp only[F62.c,go_sem]
 obtain⟨x1,yx1,h0⟩:=bs h0
 refine zc0 (Zcb k _ _ yx1) ?_ (by first|rfl|(simp[AV.refsL,AV.refs,AV.scal,AV.leaf];done)|simp[AV.refsL,AV.refs,AV.scal,AV.leaf,go_sem]) ?_
 try simp only[go_sem]
 try simp only[go_sem]
 refine Zab h0 ?_ ?_<;>intro c2 h0
 have c2:=ZaB c2
 try simp only[c2,go_sem]
 obtain rfl:=oi h0
 refine Zac rfl ?_
 try simp only[F62.rs,c2,go_sem]
 have c2:=ZaA c2
 try simp only[c2,go_sem]
 obtain⟨x3,yx3,h0⟩:=bs h0
 refine zc0 (Zdz k _ _ _ yx3) ?_ (by first|rfl|(simp[AV.refsL,AV.refs,AV.scal,AV.leaf];done)|simp[AV.refsL,AV.refs,AV.scal,AV.leaf,go_sem]) ?_
 try simp only[c2,go_sem]
 try simp only[c2,go_sem]
 obtain⟨x4,yx4,h0⟩:=bs h0
 refine zc0 (ZdN k _ _ yx4) ?_ (by first|rfl|(simp[AV.refsL,AV.refs,AV.scal,AV.leaf];done)|simp[AV.refsL,AV.refs,AV.scal,AV.leaf,go_sem]) ?_
 try simp only[c2,go_sem]
 try simp only[c2,go_sem]
 refine Zab h0 ?_ ?_<;>intro c5 h0
 have c5:=ZaB c5
 try simp only[c5,c2,go_sem]
 obtain rfl:=oi h0
 refine Zac rfl ?_
 try simp only[F62.rs,c2,c5,go_sem]
 have c5:=ZaA c5
 try simp only[c5,c2,go_sem]
 obtain rfl:=oi h0
 refine Zac rfl ?_
 try simp only[F62.rs,c2,c5,go_sem]
def F34.c:SC:=
 (.seq
 (.reg [oq 1 (.box 42 (.tmp 0)) 0 [0],
 oq 2 (.alloc 42) 0 []])
 (.seq
 (.reg [ld 4 42 1 [],
 cf1 5 72 4 42 130 [4],
 sg 3 5 130 [5]])
 (.seq
 (.seq
 (.reg [ld 6 42 1 [1],
 cf1 7 78 6 42 4 [6],
 oq 8 (.unOp .not 4 (.tmp 7)) 4 [7]])
 (.cond (.tmp 8)
 (.seq
 (.reg [mv 9 3 130 [3],
 oq 10 (.nilCheck (.tmp 9)) 0 [9],
 fa 11 134 10 0 [10],
 ld 12 42 11 [11],
 ⟨none,.store 42 (.tmp 2) (.tmp 12),0,none,[12]⟩])
 .ret)
 .skip))
 (.seq
 (.reg [mv 13 3 130 [3],
 cf1 14 79 13 130 130 [13],
 oq 15 (.nilCheck (.tmp 14)) 0 [14],
 fa 16 134 15 0 [15],
 ld 17 42 16 [16],
 ⟨none,.store 42 (.tmp 2) (.tmp 17),0,none,[17]⟩])
 .ret))))
theorem F34.rs:Try.f34.results.toList=[.cell 2 42]:=rfl
def Zfd (k:Nat) (d0:Disk):Option (Disk):=
 (Zbn k d0).bind fun x2=>
 (Zcj k d0).bind fun x3=>
 bif (!x3) then
  some x2.Disk
 else
  (Zax k x2).bind fun x6=>
  some (⟨x6.Disk.Pages,[]⟩:Disk)
theorem ZkX (k:Nat) (d0:Disk) (r:Disk) (h0:Zfd k d0=some r):Za6 Try.prog 34 [.agg (Disk.c d0)] (fun y=>y=.agg (Disk.c r)):=by
 refine PB (fn:=Try.f34) (sc:=F34.c) ?_
 refine rS ?_
 simp only[Zfd]at h0
 try simp only[F34.c,go_sem]
 obtain⟨x2,yx2,h0⟩:=bs h0
 refine Zei Za9 1000 [] [] (ZbA k _ _ yx2) ?_ rfl ?_
 try simp only[gOK,go_sem]
 try simp only[go_sem]
 obtain⟨x3,yx3,h0⟩:=bs h0
 refine zc0 (Zdf k _ _ yx3) ?_ (by first|rfl|(simp[AV.refsL,AV.refs,AV.scal,AV.leaf];done)|simp[AV.refsL,AV.refs,AV.scal,AV.leaf,go_sem]) ?_
 try simp only[go_sem]
 try simp only[go_sem]
 refine Zab h0 ?_ ?_<;>intro c4 h0
 have c4:=ZaB c4
 try simp only[c4,go_sem]
 obtain rfl:=oi h0
 refine Zac rfl ?_
 try simp only[F34.rs,c4,go_sem]
 have c4:=ZaA c4
 try simp only[c4,go_sem]
 obtain⟨x6,yx6,h0⟩:=bs h0
 refine Zfk [2,8] [48,49,50,16,17,18] 6 rfl ?_
 try simp only[c4,go_sem]
 refine Zeq (Zcp k _ _ yx6) ?_ ?_
 try simp only[c4,go_sem]
 try simp only[List.take_succ_cons,List.drop_succ_cons,List.length_cons,List.length_nil,c4,go_sem]
 refine rS ?_
 try simp only[c4,go_sem]
 obtain rfl:=oi h0
 refine Zac rfl ?_
 try simp only[F34.rs,c4,go_sem]
def F113.c:SC:=
 (.seq
 (.reg [oq 1 (.box 107 (.tmp 0)) 0 [0],
 oq 2 (.alloc 107) 0 []])
 (.seq
 (.reg [fa 3 107 1 1 [],
 ld 4 42 3 [3],
 cf1 5 34 4 42 42 [4],
 fa 6 107 1 1 [],
 ⟨none,.store 42 (.tmp 6) (.tmp 5),0,none,[5,6]⟩])
 (.seq
 (.reg [fa 7 107 1 2 [],
 ld 8 48 7 [7],
 cf1 9 73 8 48 48 [8],
 fa 10 107 1 2 [],
 ⟨none,.store 48 (.tmp 10) (.tmp 9),0,none,[9,10]⟩])
 (.seq
 (.reg [ld 11 107 1 [1],
 ⟨none,.store 107 (.tmp 2) (.tmp 11),0,none,[11]⟩])
 .ret))))
theorem F113.rs:Try.f113.results.toList=[.cell 2 107]:=rfl
def Zdd (k:Nat) (hh0:House):Option (House):=
 (Zfd k hh0.Disk).bind fun x1=>
 (Zbe k hh0.Ledger).bind fun x2=>
 some (⟨hh0.Me,x1,x2,hh0.Known⟩:House)
theorem Zge (k:Nat) (hh0:House) (r:House) (h0:Zdd k hh0=some r):Za6 Try.prog 113 [.agg (House.c hh0)] (fun y=>y=.agg (House.c r)):=by
 refine PB (fn:=Try.f113) (sc:=F113.c) ?_
 refine rS ?_
 simp only[Zdd]at h0
 try simp only[F113.c,go_sem]
 obtain⟨x1,yx1,h0⟩:=bs h0
 refine zc0 (ZkX k _ _ yx1) ?_ (by first|rfl|(simp[AV.refsL,AV.refs,AV.scal,AV.leaf];done)|simp[AV.refsL,AV.refs,AV.scal,AV.leaf,go_sem]) ?_
 try simp only[go_sem]
 try simp only[go_sem]
 obtain⟨x2,yx2,h0⟩:=bs h0
 refine zc0 (ZcI k _ _ yx2) ?_ (by first|rfl|(simp[AV.refsL,AV.refs,AV.scal,AV.leaf];done)|simp[AV.refsL,AV.refs,AV.scal,AV.leaf,go_sem]) ?_
 try simp only[go_sem]
 try simp only[go_sem]
 obtain rfl:=oi h0
 refine Zac rfl ?_
 try simp only[F113.rs,go_sem]
def F63.s0:SC:=
 (.seq
 (.reg [b2 43 .lss 3 42 41 3 0 []])
 (.seq
 (.cond (.tmp 43)
 .skip
 (.exit 0))
 (.seq
 (.block 1
 (.seq
 (.reg [ia 44 44 40 42 [],
 ld 45 25 44 [44],
 oq 10 (.alloc 25) 0 [],
 ⟨none,.store 25 (.tmp 10) (.tmp 45),0,none,[45]⟩])
 (.seq
 (.dreg [fa 46 25 10 0 [],
 fa 47 23 46 1 [],
 ld 48 3 47 [],
 mv 49 1 3 [],
 fa 50 25 10 0 [],
 fa 51 23 50 0 [],
 ld 52 3 51 [],
 fa 53 107 2 3 [],
 ia 54 105 53 49 [],
 ia 55 95 54 52 [],
 ld 56 3 55 [],
 b2 57 .geq 3 48 56 3 4 [],
 mv 58 57 4 [],
 og 59 (.fieldAddr 116 (.tmp 8) 3) 0 58 true [],
 og 60 (.load 44 (.tmp 59)) 44 58 true [],
 og 61 (.call ⟨.builtin .len,#[.tmp 60],#[44]⟩) 3 58 true [],
 og 62 (.binOp .lss 3 (.tmp 61) (.const (.int .i64 8)) 3) 4 58 true [],
 oq 63 (.pick (.tmp 58) (.tmp 62) (.const (.bool false))) 4 []] [[],[0],[0,1],[],[],[4],[4,5],[],[7,3],[7,3,8,4,5,6],[7,3,8,4,5,6,9],[0,1,2,7,3,8,4,5,6,9,10],[0,1,2,7,3,8,4,5,6,9,10,11],[0,1,2,7,3,8,4,5,6,9,10,11,12],[0,1,2,7,3,8,4,5,6,9,10,11,12,13],[0,1,2,7,3,8,4,5,6,9,10,11,12,13,14],[0,1,2,7,3,8,4,5,6,9,10,11,12,13,14,15],[0,1,2,7,3,8,4,5,6,9,10,11,12,13,14,15,16]] [46,47,48,49,50,51,52,53,54,55,56,57,58,59,60,61,62])
 (.cond (.tmp 63)
 (.reg [fa 64 116 8 3 [],
 ld 65 44 64 [64],
 ld 66 25 10 [10],
 oq 67 (.buildSlice 44 1 #[(0,.tmp 66)]) 44 [66],
 oq 68 (.call ⟨.builtin .append,#[.tmp 65,.tmp 67],#[44,44]⟩) 44 [65,67],
 fa 69 116 8 3 [],
 ⟨none,.store 44 (.tmp 69) (.tmp 68),0,none,[68,69]⟩])
 .skip))))
 (.reg [bn 70 .add 3 42 1 3 3 [42],
 mv 42 70 3 [70]]))))
def F63.c:SC:=
 (.seq
 (.reg [oq 2 (.box 107 (.tmp 0)) 0 [0],
 oq 4 (.alloc 107) 0 [],
 oq 5 (.alloc 116) 0 [],
 sn 6 0 28 [6]])
 (.seq
 (.seq
 (.reg [ld 11 107 2 [],
 cf1 12 111 11 107 28 [11],
 sg 7 12 28 [12]])
 (.seq
 (.reg [mv 13 7 28 [],
 bn 14 .neq 28 13 0 28 4 [13]])
 (.cond (.tmp 14)
 (.seq
 (.reg [oq 15 (.build 107 #[]) 107 [],
 oq 16 (.build 116 #[]) 116 [],
 mv 17 7 28 [7],
 ⟨none,.store 107 (.tmp 4) (.tmp 15),0,none,[15]⟩,
 ⟨none,.store 116 (.tmp 5) (.tmp 16),0,none,[16]⟩,
 sg 6 17 28 [17]])
 .ret)
 .skip)))
 (.seq
 (.seq
 (.reg [mv 18 1 3 [],
 cf1 19 112 18 3 4 [18],
 oq 20 (.unOp .not 4 (.tmp 19)) 4 [19],
 mv 21 20 4 [20],
 og 22 (.move (.tmp 1)) 3 21 false [],
 og 23 (.fieldAddr 107 (.tmp 2) 0) 0 21 false [],
 og 24 (.load 3 (.tmp 23)) 3 21 false [23],
 og 25 (.binOp .eql 3 (.tmp 22) (.tmp 24) 3) 4 21 false [22,24],
 oq 26 (.pick (.tmp 21) (.const (.bool true)) (.tmp 25)) 4 [21,25]])
 (.cond (.tmp 26)
 (.seq
 (.reg [oq 27 (.build 107 #[]) 107 [],
 oq 28 (.build 116 #[]) 116 [],
 ⟨none,.store 107 (.tmp 4) (.tmp 27),0,none,[27]⟩,
 ⟨none,.store 116 (.tmp 5) (.tmp 28),0,none,[28]⟩,
 sn 6 1 28 []])
 .ret)
 .skip))
 (.seq
 (.dreg [fa 29 107 2 0 [],
 ld 30 3 29 [],
 mv 31 1 3 [],
 fa 32 107 2 2 [],
 fa 33 48 32 0 [],
 ld 34 46 33 [],
 cf1 35 104 34 46 95 [],
 oq 36 (.build 116 #[(0,.tmp 30),(1,.tmp 31),(2,.tmp 35)]) 116 [],
 oq 8 (.alloc 116) 0 [],
 ⟨none,.store 116 (.tmp 8) (.tmp 36),0,none,[]⟩] [[],[0],[],[],[3],[3,4],[3,4,5],[0,1,2,3,4,5,6],[],[8,0,1,2,3,4,5,6,7]] [29,30,31,32,33,34,35,36])
 (.seq
 (.seq
 (.reg [fa 37 107 2 2 [],
 fa 38 48 37 0 [37],
 fa 39 46 38 0 [38],
 ld 40 44 39 [39],
 ln 41 40 44 3 [],
 oq 42 (.move (.const (.int .i64 0))) 3 []])
 (.block 0
 (.loop F63.s0)))
 (.seq
 (.dreg [ld 71 107 2 [],
 cf1 72 113 71 107 107 [],
 ld 73 116 8 [],
 ⟨none,.store 107 (.tmp 4) (.tmp 72),0,none,[]⟩,
 ⟨none,.store 116 (.tmp 5) (.tmp 73),0,none,[]⟩,
 sn 6 0 28 []] [[],[0],[],[0,1],[2,0,1,3],[2,0,1,3,4]] [2,8,71,72,73])
 .ret))))))
theorem F63.rs:Try.f63.results.toList=[.cell 4 107,.cell 5 116,.tmp 6]:=rfl
def Za7.b0 (k:Nat) (hh0:House) (to1:Int):(Int×(List Record))→Option (Stp (Int×(List Record)) ((List Record)) (House×Slip×Int)):=fun(s:Int×(List Record))=>match s with
 |(i7,l8)=>
   bif decide (i7<(hh0.Ledger.Book.Records.length:Int)) then
    (at? hh0.Ledger.Book.Records i7).bind fun x11=>
    (hh0.Known.at? to1).bind fun x12=>
    (x12.at? x11.At.House).bind fun x13=>
    bif decide (x13≤x11.At.No) then
     bif decide (((l8.length:Nat):Int)<(8:Int)) then
      (ZeY 72 l8 x11).bind fun l16=>
      some (.next (w64 (i7+1),l16))
     else
      some (.next (w64 (i7+1),l8))
    else
     some (.next (w64 (i7+1),l8))
   else
    some (.brk l8)
noncomputable def Za7.h0 (hh0:House) (to1:Int) (x6:(Vec 6 Int)):(Int×(List Record))→St:=fun(s:Int×(List Record))=>match s with
 |(i7,l8)=>⟨[(1,.int .i64 to1),(2,.ptr 0 0 0),(4,.ptr 0 1 0),(5,.ptr 0 5 0),(8,.ptr 0 7 0),(40,.sl 8 (List.map Record.c hh0.Ledger.Book.Records)),(41,.int .i64 (hh0.Ledger.Book.Records.length:Int)),(42,.int .i64 i7)],[(0,.box ([.int .i64 hh0.Me,.sl 64 (List.map (Vec.c (n:=2) (Vec.c (n:=32) eU8)) hh0.Disk.Pages),.sl 65 (List.map Write.c hh0.Disk.Wait),.sl 8 (List.map Record.c hh0.Ledger.Book.Records),.int .i64 hh0.Ledger.Area,.int .i64 hh0.Ledger.Epoch,.int .i64 hh0.Ledger.Used]++(Vec.c (n:=6) (Vec.c (n:=6) eI) hh0.Known))),(1,.box ([.int .i64 0,.loc 0 2 64 0 0 0,.loc 0 3 65 0 0 0,.loc 0 4 8 0 0 0,.int .i64 0,.int .i64 0,.int .i64 0]++(Vec.c (n:=6) (Vec.c (n:=6) eI) (Vec.rep 6 ((Vec.rep 6 (0:Int)):(Vec 6 Int)))))),(2,.arr 139 64 (List.map (Vec.c (n:=2) (Vec.c (n:=32) eU8)) [])),(3,.arr 141 65 (List.map Write.c [])),(4,.arr 25 8 (List.map Record.c [])),(5,.box ([.int .i64 0,.int .i64 0]++(Vec.c (n:=6) eI (Vec.rep 6 (0:Int))++([.loc 0 6 8 0 0 0])))),(6,.arr 25 8 (List.map Record.c [])),(7,.box ([.int .i64 hh0.Me,.int .i64 to1]++(Vec.c (n:=6) eI x6++([.loc 0 8 8 0 l8.length l8.length])))),(8,.arr 25 8 (List.map Record.c l8))],[],9,Try.f63.ntmps⟩
noncomputable def Za7.x0 (hh0:House) (to1:Int) (x6:(Vec 6 Int)):(List Record)→St:=fun(l9:(List Record))=>⟨[(2,.ptr 0 0 0),(4,.ptr 0 1 0),(5,.ptr 0 5 0),(8,.ptr 0 7 0)],[(0,.box ([.int .i64 hh0.Me,.sl 64 (List.map (Vec.c (n:=2) (Vec.c (n:=32) eU8)) hh0.Disk.Pages),.sl 65 (List.map Write.c hh0.Disk.Wait),.sl 8 (List.map Record.c hh0.Ledger.Book.Records),.int .i64 hh0.Ledger.Area,.int .i64 hh0.Ledger.Epoch,.int .i64 hh0.Ledger.Used]++(Vec.c (n:=6) (Vec.c (n:=6) eI) hh0.Known))),(1,.box ([.int .i64 0,.loc 0 2 64 0 0 0,.loc 0 3 65 0 0 0,.loc 0 4 8 0 0 0,.int .i64 0,.int .i64 0,.int .i64 0]++(Vec.c (n:=6) (Vec.c (n:=6) eI) (Vec.rep 6 ((Vec.rep 6 (0:Int)):(Vec 6 Int)))))),(2,.arr 139 64 (List.map (Vec.c (n:=2) (Vec.c (n:=32) eU8)) [])),(3,.arr 141 65 (List.map Write.c [])),(4,.arr 25 8 (List.map Record.c [])),(5,.box ([.int .i64 0,.int .i64 0]++(Vec.c (n:=6) eI (Vec.rep 6 (0:Int))++([.loc 0 6 8 0 0 0])))),(6,.arr 25 8 (List.map Record.c [])),(7,.box ([.int .i64 hh0.Me,.int .i64 to1]++(Vec.c (n:=6) eI x6++([.loc 0 8 8 0 l9.length l9.length])))),(8,.arr 25 8 (List.map Record.c l9))],[],9,Try.f63.ntmps⟩
def Za7 (k:Nat) (hh0:House) (to1:Int):Option (House×Slip×Int):=
 (Zal k hh0).bind fun x1=>
 bif (!decide (x1=(0:Int))) then
  some ((⟨0,(⟨[],[]⟩:Disk),(⟨(⟨[]⟩:Book),0,0,0⟩:Ledger),(Vec.rep 6 ((Vec.rep 6 (0:Int)):(Vec 6 Int)))⟩:House),(⟨0,0,(Vec.rep 6 (0:Int)),[]⟩:Slip),x1)
 else
  (Zb7 k to1).bind fun x3=>
  bif x3 then
   bif decide (to1=hh0.Me) then
    some ((⟨0,(⟨[],[]⟩:Disk),(⟨(⟨[]⟩:Book),0,0,0⟩:Ledger),(Vec.rep 6 ((Vec.rep 6 (0:Int)):(Vec 6 Int)))⟩:House),(⟨0,0,(Vec.rep 6 (0:Int)),[]⟩:Slip),1)
   else
    (ZaK k hh0.Ledger.Book).bind fun x6=>
    (whl (Za7.b0 k hh0 to1) k (0,[])).bind fun r17=>match r17 with
    |.next _=>none
    |.ret v_=>some v_
    |.brk l9=>
     (Zdd k hh0).bind fun x18=>
     some (x18,(⟨hh0.Me,to1,x6,l9⟩:Slip),0)
  else
   some ((⟨0,(⟨[],[]⟩:Disk),(⟨(⟨[]⟩:Book),0,0,0⟩:Ledger),(Vec.rep 6 ((Vec.rep 6 (0:Int)):(Vec 6 Int)))⟩:House),(⟨0,0,(Vec.rep 6 (0:Int)),[]⟩:Slip),1)
theorem ZgD (k:Nat) (hh0:House) (to1:Int) (r:House×Slip×Int) (h0:Za7 k hh0 to1=some r):Za6 Try.prog 63 [.agg (House.c hh0),.int .i64 to1] (fun y=>y=.tup [.agg (House.c r.1),.agg (Slip.c r.2.1),.int .i64 r.2.2]):=by
 refine PB (fn:=Try.f63) (sc:=F63.c) ?_
 refine rS ?_
 simp only[Za7]at h0
 try simp only[F63.c,go_sem]
 obtain⟨x1,yx1,h0⟩:=bs h0
 refine zc0 (Zcb k _ _ yx1) ?_ (by first|rfl|(simp[AV.refsL,AV.refs,AV.scal,AV.leaf];done)|simp[AV.refsL,AV.refs,AV.scal,AV.leaf,go_sem]) ?_
 try simp only[go_sem]
 try simp only[go_sem]
 refine Zab h0 ?_ ?_<;>intro c2 h0
 have c2:=ZaB c2
 try simp only[c2,go_sem]
 obtain rfl:=oi h0
 refine Zac rfl ?_
 try simp only[F63.rs,c2,go_sem]
 have c2:=ZaA c2
 try simp only[c2,go_sem]
 obtain⟨x3,yx3,h0⟩:=bs h0
 refine zc0 (Zcd k _ _ yx3) ?_ (by first|rfl|(simp[AV.refsL,AV.refs,AV.scal,AV.leaf];done)|simp[AV.refsL,AV.refs,AV.scal,AV.leaf,go_sem]) ?_
 try simp only[c2,go_sem]
 try simp only[c2,go_sem]
 refine Zab h0 ?_ ?_<;>intro c4 h0
 try simp only[c4,c2,go_sem]
 refine Zab h0 ?_ ?_<;>intro c5 h0
 try simp only[c5,c2,c4,go_sem]
 obtain rfl:=oi h0
 refine Zac rfl ?_
 try simp only[F63.rs,c2,c4,c5,go_sem]
 try simp only[c5,c2,c4,go_sem]
 refine Zas Za9 Zat 1000 ?_
 try simp only[c2,c4,c5,go_sem]
 obtain⟨x6,yx6,h0⟩:=bs h0
 refine ZaC 1000 (ZcC k _ _ yx6) ?_ (by first|rfl|(simp[AV.refsL,AV.refs,AV.scal,AV.leaf];done)|simp[AV.refsL,AV.refs,AV.scal,AV.leaf,go_sem]) ?_
 try simp only[c2,c4,c5,go_sem]
 try simp only[c2,c4,c5,go_sem]
 refine Za4 ⟨Za3 (by simp only[ZcE,List.reverse_cons,List.reverse_nil,List.nil_append,List.cons_append,List.map_cons,List.map_nil,List.append_nil];rfl) (by first|decide +kernel|rfl),Zae Za9 1000 _ _ ?_⟩
 try simp only[c2,c4,c5,go_sem]
 obtain⟨r17,yr17,h0⟩:=bs h0
 refine Zaz yr17 (Za7.h0 hh0 to1 x6) (Za7.x0 hh0 to1 x6) ?_ ?_ ?_
 refine ZaE.go [1,2,4,5,8,40,41,42] [0,16,17,18,19,32,33,416,432] rfl ?_
 try simp only[Za7.h0,c2,c4,c5,go_sem]
 rintro⟨i7,l8⟩ x_1 Bk1 Br1 h1 hnext1 hbrk1 hret1
 refine rS ?_
 simp only[Za7.b0]at h1
 try simp only[F63.s0,Za7.h0,c2,c4,c5,go_sem]
 refine Zab h1 ?_ ?_<;>intro c10 h1
 try simp only[c10,c2,c4,c5,go_sem]
 obtain⟨x11,yx11,h1⟩:=bs h1
 try simp only[aa yx11,c2,c4,c5,c10,go_sem]
 refine Zas Za9 Zat 1000 ?_
 try simp only[c2,c4,c5,c10,aa yx11,go_sem]
 obtain⟨x12,yx12,h1⟩:=bs h1
 have uyx12:=UpdE.at (fun q_=>((VK.vec ZaN 6).len q_:((Vec.c (n:=6) eI) q_).length=6)) (UpdE.skip (UpdE.self (fun q_=>((VK.vec (VK.vec ZaN 6) 6).len q_:(Vec.c (n:=6) (Vec.c (n:=6) eI) q_).length=36)) hh0.Known) ([.int .i64 hh0.Me,.sl 64 (List.map (Vec.c (n:=2) (Vec.c (n:=32) eU8)) hh0.Disk.Pages),.sl 65 (List.map Write.c hh0.Disk.Wait),.sl 8 (List.map Record.c hh0.Ledger.Book.Records),.int .i64 hh0.Ledger.Area,.int .i64 hh0.Ledger.Epoch,.int .i64 hh0.Ledger.Used]:List AV)) yx12
 have buyx12:=uyx12.bound (fun q_=>((VK.vec ZaN 6).len q_:((Vec.c (n:=6) eI) q_).length=6))
 have guyx12:=uyx12.get (fun q_=>((VK.vec ZaN 6).len q_:((Vec.c (n:=6) eI) q_).length=6))
 try simp only[List.length_cons,List.length_nil,go_sem]at buyx12 guyx12
 try simp only[Zaa yx12,buyx12,guyx12,c2,c4,c5,c10,aa yx11,go_sem]
 obtain⟨x13,yx13,h1⟩:=bs h1
 have uyx13:=UpdE.at (fun q_=>(ZaN.len q_:(eI q_).length=1)) uyx12 yx13
 have buyx13:=uyx13.bound (fun q_=>(ZaN.len q_:(eI q_).length=1))
 have guyx13:=uyx13.get (fun q_=>(ZaN.len q_:(eI q_).length=1))
 try simp only[go_sem]at buyx13 guyx13
 try simp only[Zaa yx13,buyx13,guyx13,c2,c4,c5,c10,aa yx11,Zaa yx12,buyx12,guyx12,go_sem]
 refine ZgC h1 ?_ ?_<;>intro c14 h1
 try simp only[c14,c2,c4,c5,c10,aa yx11,Zaa yx12,buyx12,guyx12,Zaa yx13,buyx13,guyx13,go_sem]
 refine Za4 ⟨Za3 (by simp only[ZcE,List.reverse_cons,List.reverse_nil,List.nil_append,List.cons_append,List.map_cons,List.map_nil,List.append_nil];rfl) (by first|decide +kernel|rfl),Zae Za9 1000 _ _ ?_⟩
 try simp only[c2,c4,c5,c10,aa yx11,Zaa yx12,buyx12,guyx12,Zaa yx13,buyx13,guyx13,c14,go_sem]
 refine Zab h1 ?_ ?_<;>intro c15 h1
 try simp only[c15,c2,c4,c5,c10,aa yx11,Zaa yx12,buyx12,guyx12,Zaa yx13,buyx13,guyx13,c14,go_sem]
 obtain⟨l16,yl16,h1⟩:=bs h1
 have eyl16:=ZeB Record.c yl16
 have tyl16:=ZdF Record.c yl16
 have nyl16:=ZdS yl16
 have myl16:=Zd6 yl16
 try simp only[c2,c4,c5,c10,aa yx11,Zaa yx12,buyx12,guyx12,Zaa yx13,buyx13,guyx13,c14,c15,go_sem]at eyl16 tyl16 nyl16 myl16
 try simp only[myl16,eyl16,c2,c4,c5,c10,aa yx11,Zaa yx12,buyx12,guyx12,Zaa yx13,buyx13,guyx13,c14,c15,nyl16,tyl16,go_sem]
 refine Zaf (hnext1 _ _ (oi h1).symm ?_)
 refine ZaE.go [1,2,4,5,8,40,41,42] [0,1,2,3,4,5,6,7,8] rfl ?_
 try simp only[Za7.h0,c2,c4,c5,c10,aa yx11,Zaa yx12,buyx12,guyx12,Zaa yx13,buyx13,guyx13,c14,c15,eyl16,nyl16,tyl16,go_sem]
 try simp only[c15,c2,c4,c5,c10,aa yx11,Zaa yx12,buyx12,guyx12,Zaa yx13,buyx13,guyx13,c14,go_sem]
 refine Zaf (hnext1 _ _ (oi h1).symm ?_)
 refine ZaE.go [1,2,4,5,8,40,41,42] [0,1,2,3,4,5,6,7,8] rfl ?_
 try simp only[Za7.h0,c2,c4,c5,c10,aa yx11,Zaa yx12,buyx12,guyx12,Zaa yx13,buyx13,guyx13,c14,c15,go_sem]
 try simp only[c14,c2,c4,c5,c10,aa yx11,Zaa yx12,buyx12,guyx12,Zaa yx13,buyx13,guyx13,go_sem]
 refine Za4 ⟨Za3 (by simp only[ZcE,List.reverse_cons,List.reverse_nil,List.nil_append,List.cons_append,List.map_cons,List.map_nil,List.append_nil];rfl) (by first|decide +kernel|rfl),Zae Za9 1000 _ _ ?_⟩
 try simp only[c2,c4,c5,c10,aa yx11,Zaa yx12,buyx12,guyx12,Zaa yx13,buyx13,guyx13,c14,go_sem]
 refine Zaf (hnext1 _ _ (oi h1).symm ?_)
 refine ZaE.go [1,2,4,5,8,40,41,42] [0,1,2,3,4,5,6,7,8] rfl ?_
 try simp only[Za7.h0,c2,c4,c5,c10,aa yx11,Zaa yx12,buyx12,guyx12,Zaa yx13,buyx13,guyx13,c14,go_sem]
 try simp only[c10,c2,c4,c5,go_sem]
 refine Zaf (hbrk1 _ _ (oi h1).symm ?_)
 refine ZaE.go [2,4,5,8] [0,1,2,3,4,5,6,7,8] rfl ?_
 try simp only[Za7.x0,c2,c4,c5,c10,go_sem]
 rintro l9 hr_
 subst hr_
 simp only at h0
 refine rS ?_
 try simp only[Za7.x0,c2,c4,c5,go_sem]
 refine Zas Za9 Zat 1000 ?_
 try simp only[c2,c4,c5,go_sem]
 obtain⟨x18,yx18,h0⟩:=bs h0
 refine ZaC 1000 (Zge k _ _ yx18) ?_ (by first|rfl|(simp[AV.refsL,AV.refs,AV.scal,AV.leaf];done)|simp[AV.refsL,AV.refs,AV.scal,AV.leaf,go_sem]) ?_
 try simp only[c2,c4,c5,go_sem]
 try simp only[c2,c4,c5,go_sem]
 refine Za4 ⟨Za3 (by simp only[ZcE,List.reverse_cons,List.reverse_nil,List.nil_append,List.cons_append,List.map_cons,List.map_nil,List.append_nil];rfl) (by first|decide +kernel|rfl),Zae Za9 1000 _ _ ?_⟩
 try simp only[c2,c4,c5,go_sem]
 obtain rfl:=oi h0
 refine Zac rfl ?_
 try simp only[F63.rs,c2,c4,c5,go_sem]
 try simp only[c4,c2,go_sem]
 obtain rfl:=oi h0
 refine Zac rfl ?_
 try simp only[F63.rs,c2,c4,go_sem]
def F152.s0:SC:=
 (.seq
 (.reg [b2 9 .lss 3 8 7 3 0 []])
 (.seq
 (.cond (.tmp 9)
 .skip
 (.exit 0))
 (.seq
 (.block 1
 (.seq
 (.reg [mv 10 8 3 [],
 sg 5 10 3 [10]])
 (.seq
 (.reg [mv 11 1 159 [],
 mv 12 0 44 [],
 mv 13 5 3 [],
 ia 14 44 12 13 [12,13],
 ld 15 25 14 [14],
 oq 16 (.call ⟨.value (.tmp 11),#[.tmp 15],#[25]⟩) 4 [11,15]])
 (.cond (.tmp 16)
 (.seq
 (.reg [mv 17 5 3 [5],
 sg 4 17 3 [17]])
 .ret)
 .skip))))
 (.reg [bn 18 .add 3 8 1 3 3 [8],
 mv 8 18 3 [18]]))))
def F152.c:SC:=
 (.seq
 (.reg [sn 4 0 3 [4]])
 (.seq
 (.seq
 (.reg [mv 6 0 44 [],
 ln 7 6 44 3 [6],
 oq 8 (.move (.const (.int .i64 0))) 3 []])
 (.block 0
 (.loop F152.s0)))
 (.seq
 (.reg [sn 4 (-1) 3 []])
 .ret)))
theorem F152.rs:Try.f152.results.toList=[.tmp 4]:=rfl
def Zaj.b0 (k:Nat) (f1:Record→Option (Bool)) (s0:(List Record)):Int→Option (Stp (Int) (Unit) (Int)):=fun(i1:Int)=>
 bif decide (i1<(s0.length:Int)) then
  (at? s0 i1).bind fun x3=>
  (f1 x3).bind fun x4=>
  bif x4 then
   some (.ret i1)
  else
   some (.next (w64 (i1+1)))
 else
  some (.brk ())
noncomputable def Zaj.h0 (f1_f:Nat) (f1_c:List AV) (s0:(List Record)):Int→St:=fun(i1:Int)=>⟨[(0,.sl 8 (List.map Record.c s0)),(1,.fn (.func f1_f) [] f1_c),(7,.int .i64 (s0.length:Int)),(8,.int .i64 i1)],[],[],1,Try.f152.ntmps⟩
noncomputable def Zaj.x0:Unit→St:=fun(_:Unit)=>⟨[],[],[],1,Try.f152.ntmps⟩
def Zaj (k:Nat) (s0:(List Record)) (f1:Record→Option (Bool)):Option (Int):=
 (whl (Zaj.b0 k f1 s0) k 0).bind fun r6=>match r6 with
 |.next _=>none
 |.ret v_=>some v_
 |.brk _=>
  some (-1)
theorem Zdo (k:Nat) (s0:(List Record)) (f1_f:Nat) (f1_c:List AV) (f1_i:Ice f1_c) (f1:Record→Option (Bool)) (f1_h:∀ q0 qr,f1 q0=some qr→Za6 Try.prog f1_f (.agg (Record.c q0)::f1_c) (fun y=>y=.bool qr)) (r:Int) (h0:Zaj k s0 f1=some r):Za6 Try.prog 152 [.sl 8 (List.map Record.c s0),.fn (.func f1_f) [] f1_c] (fun y=>y=.int .i64 r):=by
 refine PB (fn:=Try.f152) (sc:=F152.c) ?_
 refine rS ?_
 simp only[Zaj]at h0
 try simp only[F152.c,f1_i.sh,f1_i.frz,f1_i.br,f1_i.refs,f1_i.imp,f1_i.ren,f1_i.un,go_sem]
 obtain⟨r6,yr6,h0⟩:=bs h0
 refine Zaz yr6 (Zaj.h0 f1_f f1_c s0) (Zaj.x0) ?_ ?_ ?_
 refine ZaE.go [0,1,7,8] [] rfl ?_
 try simp only[Zaj.h0,f1_i.sh,f1_i.frz,f1_i.br,f1_i.refs,f1_i.imp,f1_i.ren,f1_i.un,go_sem]
 rintro i1 x_1 Bk1 Br1 h1 hnext1 hbrk1 hret1
 refine rS ?_
 simp only[Zaj.b0]at h1
 try simp only[F152.s0,Zaj.h0,f1_i.sh,f1_i.frz,f1_i.br,f1_i.refs,f1_i.imp,f1_i.ren,f1_i.un,go_sem]
 refine Zab h1 ?_ ?_<;>intro c2 h1
 try simp only[c2,f1_i.sh,f1_i.frz,f1_i.br,f1_i.refs,f1_i.imp,f1_i.ren,f1_i.un,go_sem]
 obtain⟨x3,yx3,h1⟩:=bs h1
 try simp only[aa yx3,f1_i.sh,f1_i.frz,f1_i.br,f1_i.refs,f1_i.imp,f1_i.ren,f1_i.un,c2,go_sem]
 obtain⟨x4,yx4,h1⟩:=bs h1
 refine zc0 (f1_h _ _ yx4) ?_ (by first|rfl|(simp[AV.refsL,AV.refs,AV.scal,AV.leaf,f1_i.refs];done)|simp[AV.refsL,AV.refs,AV.scal,AV.leaf,go_sem]) ?_
 try simp only[f1_i.sh,f1_i.frz,f1_i.br,f1_i.refs,f1_i.imp,f1_i.ren,f1_i.un,c2,aa yx3,go_sem]
 try simp only[f1_i.sh,f1_i.frz,f1_i.br,f1_i.refs,f1_i.imp,f1_i.ren,f1_i.un,c2,aa yx3,go_sem]
 refine Zab h1 ?_ ?_<;>intro c5 h1
 try simp only[c5,f1_i.sh,f1_i.frz,f1_i.br,f1_i.refs,f1_i.imp,f1_i.ren,f1_i.un,c2,aa yx3,go_sem]
 obtain rfl:=hret1 _ (oi h1).symm
 simp only at h0
 obtain rfl:=oi h0
 refine Zac rfl ?_
 try simp only[F152.rs,f1_i.sh,f1_i.frz,f1_i.br,f1_i.refs,f1_i.imp,f1_i.ren,f1_i.un,c2,aa yx3,c5,go_sem]
 try simp only[c5,f1_i.sh,f1_i.frz,f1_i.br,f1_i.refs,f1_i.imp,f1_i.ren,f1_i.un,c2,aa yx3,go_sem]
 refine Zaf (hnext1 _ _ (oi h1).symm ?_)
 refine ZaE.go [0,1,7,8] [] rfl ?_
 try simp only[Zaj.h0,f1_i.sh,f1_i.frz,f1_i.br,f1_i.refs,f1_i.imp,f1_i.ren,f1_i.un,c2,aa yx3,c5,go_sem]
 try simp only[c2,f1_i.sh,f1_i.frz,f1_i.br,f1_i.refs,f1_i.imp,f1_i.ren,f1_i.un,go_sem]
 refine Zaf (hbrk1 _ _ (oi h1).symm ?_)
 refine ZaE.go [] [] rfl ?_
 try simp only[Zaj.x0,f1_i.sh,f1_i.frz,f1_i.br,f1_i.refs,f1_i.imp,f1_i.ren,f1_i.un,c2,go_sem]
 rintro _ hr_
 subst hr_
 simp only at h0
 refine rS ?_
 try simp only[Zaj.x0,f1_i.sh,f1_i.frz,f1_i.br,f1_i.refs,f1_i.imp,f1_i.ren,f1_i.un,go_sem]
 obtain rfl:=oi h0
 refine Zac rfl ?_
 try simp only[F152.rs,f1_i.sh,f1_i.frz,f1_i.br,f1_i.refs,f1_i.imp,f1_i.ren,f1_i.un,go_sem]
def F142.c:SC:=
 (.seq
 (.reg [sb 4 false 4 [4]])
 (.seq
 (.reg [mv 5 0 44 [0],
 mv 6 1 159 [1],
 cf2 7 152 5 6 44 159 3 [5,6],
 bn 8 .geq 3 7 0 3 4 [7],
 sg 4 8 4 [8]])
 .ret))
theorem F142.rs:Try.f142.results.toList=[.tmp 4]:=rfl
def ZaJ (k:Nat) (s0:(List Record)) (f1:Record→Option (Bool)):Option (Bool):=
 (Zaj k s0 f1).bind fun x1=>
 some (decide ((0:Int)≤x1))
theorem ZcR (k:Nat) (s0:(List Record)) (f1_f:Nat) (f1_c:List AV) (f1_i:Ice f1_c) (f1:Record→Option (Bool)) (f1_h:∀ q0 qr,f1 q0=some qr→Za6 Try.prog f1_f (.agg (Record.c q0)::f1_c) (fun y=>y=.bool qr)) (r:Bool) (h0:ZaJ k s0 f1=some r):Za6 Try.prog 142 [.sl 8 (List.map Record.c s0),.fn (.func f1_f) [] f1_c] (fun y=>y=.bool r):=by
 refine PB (fn:=Try.f142) (sc:=F142.c) ?_
 refine rS ?_
 simp only[ZaJ]at h0
 try simp only[F142.c,f1_i.sh,f1_i.frz,f1_i.br,f1_i.refs,f1_i.imp,f1_i.ren,f1_i.un,go_sem]
 obtain⟨x1,yx1,h0⟩:=bs h0
 refine zc0 (Zdo k _ f1_f f1_c f1_i f1 f1_h _ yx1) ?_ (by first|rfl|(simp[AV.refsL,AV.refs,AV.scal,AV.leaf,f1_i.refs];done)|simp[AV.refsL,AV.refs,AV.scal,AV.leaf,go_sem]) ?_
 try simp only[f1_i.sh,f1_i.frz,f1_i.br,f1_i.refs,f1_i.imp,f1_i.ren,f1_i.un,go_sem]
 try simp only[f1_i.sh,f1_i.frz,f1_i.br,f1_i.refs,f1_i.imp,f1_i.ren,f1_i.un,go_sem]
 obtain rfl:=oi h0
 refine Zac rfl ?_
 try simp only[F142.rs,f1_i.sh,f1_i.frz,f1_i.br,f1_i.refs,f1_i.imp,f1_i.ren,f1_i.un,go_sem]
def F143.c:SC:=
 (.seq
 (.reg [oq 1 (.box 25 (.tmp 0)) 0 [0],
 sb 2 false 4 [2]])
 (.seq
 (.reg [ld 3 25 1 [1],
 cf1 4 92 3 25 4 [3],
 oq 5 (.unOp .not 4 (.tmp 4)) 4 [4],
 sg 2 5 4 [5]])
 .ret))
theorem F143.rs:Try.f143.results.toList=[.tmp 2]:=rfl
def ZbO (k:Nat) (r0:Record):Option (Bool):=
 (Zbf k r0).bind fun x1=>
 some (!x1)
theorem ZhR (k:Nat) (r0:Record) (r:Bool) (h0:ZbO k r0=some r):Za6 Try.prog 143 [.agg (Record.c r0)] (fun y=>y=.bool r):=by
 refine PB (fn:=Try.f143) (sc:=F143.c) ?_
 refine rS ?_
 simp only[ZbO]at h0
 try simp only[F143.c,go_sem]
 obtain⟨x1,yx1,h0⟩:=bs h0
 refine zc0 (ZbS k _ _ yx1) ?_ (by first|rfl|(simp[AV.refsL,AV.refs,AV.scal,AV.leaf];done)|simp[AV.refsL,AV.refs,AV.scal,AV.leaf,go_sem]) ?_
 try simp only[go_sem]
 try simp only[go_sem]
 obtain rfl:=oi h0
 refine Zac rfl ?_
 try simp only[F143.rs,go_sem]
def F114.s0:SC:=
 (.seq
 (.reg [bn 31 .lss 3 30 6 3 0 []])
 (.seq
 (.cond (.tmp 31)
 .skip
 (.exit 0))
 (.seq
 (.block 1
 (.seq
 (.reg [oq 32 (.index 95 (.tmp 29) (.tmp 30)) 3 [],
 sg 4 32 3 [32]])
 (.seq
 (.reg [mv 33 4 3 [4],
 oq 34 (.call ⟨.value (.func 65),#[.tmp 33,.const (.int .i64 0),.const (.int .i64 60)],#[3,3,3]⟩) 4 [33],
 oq 35 (.unOp .not 4 (.tmp 34)) 4 [34]])
 (.cond (.tmp 35)
 (.seq
 (.reg [sb 2 false 4 []])
 .ret)
 .skip))))
 (.reg [bn 36 .add 3 30 1 3 3 [30],
 mv 30 36 3 [36]]))))
def F114.c:SC:=
 (.seq
 (.reg [oq 1 (.box 116 (.tmp 0)) 0 [0],
 sb 2 false 4 [2]])
 (.seq
 (.seq
 (.reg [fa 5 116 1 0 [],
 ld 6 3 5 [5],
 cf1 7 112 6 3 4 [6],
 oq 8 (.unOp .not 4 (.tmp 7)) 4 [7],
 mv 9 8 4 [8],
 og 10 (.fieldAddr 116 (.tmp 1) 1) 0 9 false [],
 og 11 (.load 3 (.tmp 10)) 3 9 false [10],
 og 12 (.call ⟨.value (.func 112),#[.tmp 11],#[3]⟩) 4 9 false [11],
 og 13 (.unOp .not 4 (.tmp 12)) 4 9 false [12],
 oq 14 (.pick (.tmp 9) (.const (.bool true)) (.tmp 13)) 4 [9,13],
 mv 15 14 4 [14],
 og 16 (.fieldAddr 116 (.tmp 1) 0) 0 15 false [],
 og 17 (.load 3 (.tmp 16)) 3 15 false [16],
 og 18 (.fieldAddr 116 (.tmp 1) 1) 0 15 false [],
 og 19 (.load 3 (.tmp 18)) 3 15 false [18],
 og 20 (.binOp .eql 3 (.tmp 17) (.tmp 19) 3) 4 15 false [17,19],
 oq 21 (.pick (.tmp 15) (.const (.bool true)) (.tmp 20)) 4 [15,20],
 mv 22 21 4 [21],
 og 23 (.fieldAddr 116 (.tmp 1) 3) 0 22 false [],
 og 24 (.load 44 (.tmp 23)) 44 22 false [23],
 og 25 (.call ⟨.builtin .len,#[.tmp 24],#[44]⟩) 3 22 false [24],
 og 26 (.binOp .gtr 3 (.tmp 25) (.const (.int .i64 8)) 3) 4 22 false [25],
 oq 27 (.pick (.tmp 22) (.const (.bool true)) (.tmp 26)) 4 [22,26]])
 (.cond (.tmp 27)
 (.seq
 (.reg [sb 2 false 4 []])
 .ret)
 .skip))
 (.seq
 (.seq
 (.reg [fa 28 116 1 2 [],
 ld 29 95 28 [28],
 oq 30 (.move (.const (.int .i64 0))) 3 []])
 (.block 0
 (.loop F114.s0)))
 (.seq
 (.reg [fa 37 116 1 3 [1],
 ld 38 44 37 [37],
 oq 39 (.call ⟨.value (.func 142),#[.tmp 38,.func 143],#[44,159]⟩) 4 [38],
 oq 40 (.unOp .not 4 (.tmp 39)) 4 [39],
 sg 2 40 4 [40]])
 .ret))))
theorem F114.rs:Try.f114.results.toList=[.tmp 2]:=rfl
def ZaM.b0 (k:Nat) (s0:Slip):Int→Option (Stp (Int) (Unit) (Bool)):=fun(i7:Int)=>
 bif decide (i7<(6:Int)) then
  (s0.Have.at? i7).bind fun x9=>
  (Za8 k x9 0 60).bind fun x10=>
  bif (!x10) then
   some (.ret false)
  else
   some (.next (w64 (i7+1)))
 else
  some (.brk ())
noncomputable def ZaM.h0 (s0:Slip):Int→St:=fun(i7:Int)=>⟨[(1,.ptr 0 0 0),(29,.agg (Vec.c (n:=6) eI s0.Have)),(30,.int .i64 i7)],[(0,.box ([.int .i64 s0.From,.int .i64 s0.To]++(Vec.c (n:=6) eI s0.Have++([.sl 8 (List.map Record.c s0.Records)]))))],[],1,Try.f114.ntmps⟩
noncomputable def ZaM.x0 (s0:Slip):Unit→St:=fun(_:Unit)=>⟨[(1,.ptr 0 0 0)],[(0,.box ([.int .i64 s0.From,.int .i64 s0.To]++(Vec.c (n:=6) eI s0.Have++([.sl 8 (List.map Record.c s0.Records)]))))],[],1,Try.f114.ntmps⟩
def ZaM (k:Nat) (s0:Slip):Option (Bool):=
 (Zb7 k s0.From).bind fun x1=>
 bif x1 then
  (Zb7 k s0.To).bind fun x3=>
  bif x3 then
   bif (!decide (s0.From=s0.To)) then
    bif decide ((8:Int)<(s0.Records.length:Int)) then
     some false
    else
     (whl (ZaM.b0 k s0) k 0).bind fun r12=>match r12 with
     |.next _=>none
     |.ret v_=>some v_
     |.brk _=>
      (ZaJ k s0.Records (fun q0=>ZbO k q0)).bind fun x13=>
      some (!x13)
   else
    some false
  else
   some false
 else
  some false
theorem Zjh (k:Nat) (s0:Slip) (r:Bool) (h0:ZaM k s0=some r):Za6 Try.prog 114 [.agg (Slip.c s0)] (fun y=>y=.bool r):=by
 refine PB (fn:=Try.f114) (sc:=F114.c) ?_
 refine rS ?_
 simp only[ZaM]at h0
 try simp only[F114.c,go_sem]
 obtain⟨x1,yx1,h0⟩:=bs h0
 refine zc0 (Zcd k _ _ yx1) ?_ (by first|rfl|(simp[AV.refsL,AV.refs,AV.scal,AV.leaf];done)|simp[AV.refsL,AV.refs,AV.scal,AV.leaf,go_sem]) ?_
 try simp only[go_sem]
 try simp only[go_sem]
 refine Zab h0 ?_ ?_<;>intro c2 h0
 try simp only[c2,go_sem]
 obtain⟨x3,yx3,h0⟩:=bs h0
 refine zc0 (Zcd k _ _ yx3) ?_ (by first|rfl|(simp[AV.refsL,AV.refs,AV.scal,AV.leaf];done)|simp[AV.refsL,AV.refs,AV.scal,AV.leaf,go_sem]) ?_
 try simp only[c2,go_sem]
 try simp only[c2,go_sem]
 refine Zab h0 ?_ ?_<;>intro c4 h0
 try simp only[c4,c2,go_sem]
 refine Zab h0 ?_ ?_<;>intro c5 h0
 have c5:=ZaB c5
 try simp only[c5,c2,c4,go_sem]
 refine Zab h0 ?_ ?_<;>intro c6 h0
 try simp only[c6,c2,c4,c5,go_sem]
 obtain rfl:=oi h0
 refine Zac rfl ?_
 try simp only[F114.rs,c2,c4,c5,c6,go_sem]
 try simp only[c6,c2,c4,c5,go_sem]
 obtain⟨r12,yr12,h0⟩:=bs h0
 refine Zaz yr12 (ZaM.h0 s0) (ZaM.x0 s0) ?_ ?_ ?_
 refine ZaE.go [1,29,30] [0] rfl ?_
 try simp only[ZaM.h0,c2,c4,c5,c6,go_sem]
 rintro i7 x_1 Bk1 Br1 h1 hnext1 hbrk1 hret1
 refine rS ?_
 simp only[ZaM.b0]at h1
 try simp only[F114.s0,ZaM.h0,c2,c4,c5,c6,go_sem]
 refine Zab h1 ?_ ?_<;>intro c8 h1
 try simp only[c8,c2,c4,c5,c6,go_sem]
 obtain⟨x9,yx9,h1⟩:=bs h1
 have uyx9:=UpdE.idx (fun q_=>(ZaN.len q_:(eI q_).length=1)) yx9
 have buyx9:=uyx9.bound (fun q_=>(ZaN.len q_:(eI q_).length=1))
 have guyx9:=uyx9.get (fun q_=>(ZaN.len q_:(eI q_).length=1))
 try simp only[go_sem]at buyx9 guyx9
 try simp only[Zaa yx9,buyx9,guyx9,c2,c4,c5,c6,c8,go_sem]
 obtain⟨x10,yx10,h1⟩:=bs h1
 refine zc0 (ZaF k _ _ _ _ yx10) ?_ (by first|rfl|(simp[AV.refsL,AV.refs,AV.scal,AV.leaf];done)|simp[AV.refsL,AV.refs,AV.scal,AV.leaf,go_sem]) ?_
 try simp only[c2,c4,c5,c6,c8,Zaa yx9,buyx9,guyx9,go_sem]
 try simp only[c2,c4,c5,c6,c8,Zaa yx9,buyx9,guyx9,go_sem]
 refine Zab h1 ?_ ?_<;>intro c11 h1
 have c11:=ZaB c11
 try simp only[c11,c2,c4,c5,c6,c8,Zaa yx9,buyx9,guyx9,go_sem]
 obtain rfl:=hret1 _ (oi h1).symm
 simp only at h0
 obtain rfl:=oi h0
 refine Zac rfl ?_
 try simp only[F114.rs,c2,c4,c5,c6,c8,Zaa yx9,buyx9,guyx9,c11,go_sem]
 have c11:=ZaA c11
 try simp only[c11,c2,c4,c5,c6,c8,Zaa yx9,buyx9,guyx9,go_sem]
 refine Zaf (hnext1 _ _ (oi h1).symm ?_)
 refine ZaE.go [1,29,30] [0] rfl ?_
 try simp only[ZaM.h0,c2,c4,c5,c6,c8,Zaa yx9,buyx9,guyx9,c11,go_sem]
 try simp only[c8,c2,c4,c5,c6,go_sem]
 refine Zaf (hbrk1 _ _ (oi h1).symm ?_)
 refine ZaE.go [1] [0] rfl ?_
 try simp only[ZaM.x0,c2,c4,c5,c6,c8,go_sem]
 rintro _ hr_
 subst hr_
 simp only at h0
 refine rS ?_
 try simp only[ZaM.x0,c2,c4,c5,c6,go_sem]
 obtain⟨x13,yx13,h0⟩:=bs h0
 refine zc0 (ZcR k _ 143 [] ⟨fun _=>rfl,fun _=>rfl,fun _ _=>rfl,rfl,fun _=>rfl,fun _=>rfl,fun _=>rfl⟩ (fun q0=>ZbO k q0) (fun q0 qr qh=>ZhR k q0 qr qh) _ yx13) ?_ (by first|rfl|(simp[AV.refsL,AV.refs,AV.scal,AV.leaf];done)|simp[AV.refsL,AV.refs,AV.scal,AV.leaf,go_sem]) ?_
 try simp only[c2,c4,c5,c6,go_sem]
 try simp only[c2,c4,c5,c6,go_sem]
 obtain rfl:=oi h0
 refine Zac rfl ?_
 try simp only[F114.rs,c2,c4,c5,c6,go_sem]
 have c5:=ZaA c5
 try simp only[c5,c2,c4,go_sem]
 obtain rfl:=oi h0
 refine Zac rfl ?_
 try simp only[F114.rs,c2,c4,c5,go_sem]
 try simp only[c4,c2,go_sem]
 obtain rfl:=oi h0
 refine Zac rfl ?_
 try simp only[F114.rs,c2,c4,go_sem]
 try simp only[c2,go_sem]
 obtain rfl:=oi h0
 refine Zac rfl ?_
 try simp only[F114.rs,c2,go_sem]
def F64.s1:SC:=
 (.seq
 (.reg [bn 85 .lss 3 84 6 3 0 []])
 (.seq
 (.cond (.tmp 85)
 .skip
 (.exit 2))
 (.seq
 (.block 3
 (.seq
 (.reg [mv 86 84 3 [],
 oq 87 (.index 95 (.tmp 83) (.tmp 84)) 3 [],
 sg 11 86 3 [86],
 sg 12 87 3 [87]])
 (.dreg [fa 88 116 3 0 [],
 ld 89 3 88 [],
 mv 90 11 3 [],
 fa 91 116 3 0 [],
 ld 92 3 91 [],
 mv 93 11 3 [],
 fa 94 107 2 3 [],
 ia 95 105 94 92 [],
 ia 96 95 95 93 [],
 ld 97 3 96 [],
 mv 98 12 3 [],
 oq 99 (.call ⟨.builtin .max,#[.tmp 97,.tmp 98],#[3,3]⟩) 3 [],
 fa 100 107 2 3 [],
 ia 101 105 100 89 [],
 ia 102 95 101 90 [],
 ⟨none,.store 3 (.tmp 102) (.tmp 99),0,none,[]⟩] [[],[0],[],[],[3],[],[],[6,3,4],[6,3,4,7,5],[6,3,4,7,5,8],[],[6,3,4,7,5,8,9,10],[],[12,0,1],[12,0,1,13,2,3,4,5,6,7,8,9,10,11],[12,0,1,13,2,3,4,5,6,7,8,9,10,11,14]] [11,12,88,89,90,91,92,93,94,95,96,97,98,99,100,101,102])))
 (.reg [bn 103 .add 3 84 1 3 3 [84],
 mv 84 103 3 [103]]))))
def F64.s0:SC:=
 (.seq
 (.reg [b2 48 .lss 3 47 46 3 0 []])
 (.seq
 (.cond (.tmp 48)
 .skip
 (.exit 0))
 (.seq
 (.block 1
 (.seq
 (.reg [ia 49 44 45 47 [],
 ld 50 25 49 [49],
 oq 9 (.alloc 25) 0 [],
 ⟨none,.store 25 (.tmp 9) (.tmp 50),0,none,[50]⟩])
 (.seq
 (.seq
 (.dreg [fa 51 25 9 0 [],
 fa 52 23 51 1 [],
 ld 53 3 52 [],
 fa 54 107 2 2 [],
 fa 55 48 54 0 [],
 ld 56 46 55 [],
 cf1 57 104 56 46 95 [],
 fa 58 25 9 0 [],
 fa 59 23 58 0 [],
 ld 60 3 59 [],
 oq 61 (.index 95 (.tmp 57) (.tmp 60)) 3 [],
 b2 62 .gtr 3 53 61 3 4 []] [[],[0],[0,1],[],[3],[3,4],[3,4,5],[],[7],[7,8],[3,4,5,6,7,8,9],[0,1,2,3,4,5,6,7,8,9,10]] [51,52,53,54,55,56,57,58,59,60,61])
 (.cond (.tmp 62)
 (.exit 1)
 .skip))
 (.seq
 (.reg [sn 10 0 28 [10]])
 (.seq
 (.reg [fa 64 107 2 1 [],
 ld 65 42 64 [64],
 fa 66 107 2 2 [],
 ld 67 48 66 [66],
 ld 68 25 9 [9],
 oq 69 (.call ⟨.value (.func 20),#[.tmp 65,.tmp 67,.tmp 68],#[42,48,25]⟩) 50 [65,67,68],
 mv 63 69 50 [69],
 xt 70 63 0 42 [],
 xt 71 63 1 48 [],
 xt 72 63 2 28 [63],
 fa 73 107 2 1 [],
 ⟨none,.store 42 (.tmp 73) (.tmp 70),0,none,[70,73]⟩,
 fa 74 107 2 2 [],
 ⟨none,.store 48 (.tmp 74) (.tmp 71),0,none,[71,74]⟩,
 sg 10 72 28 [72]])
 (.seq
 (.reg [mv 75 10 28 [],
 bn 76 .neq 28 75 0 28 4 [75]])
 (.cond (.tmp 76)
 (.seq
 (.reg [oq 77 (.build 107 #[]) 107 [],
 mv 78 10 28 [10],
 ⟨none,.store 107 (.tmp 4) (.tmp 77),0,none,[77]⟩,
 oq 5 (.assign (.const (.slice none 0 0))) 109 [],
 sg 6 78 28 [78]])
 .ret)
 .skip)))))))
 (.reg [bn 79 .add 3 47 1 3 3 [47],
 mv 47 79 3 [79]]))))
def F64.c:SC:=
 (.seq
 (.reg [oq 2 (.box 107 (.tmp 0)) 0 [0],
 oq 3 (.box 116 (.tmp 1)) 0 [1],
 oq 4 (.alloc 107) 0 [],
 oq 5 (.assign (.const (.slice none 0 0))) 109 [5],
 sn 6 0 28 [6]])
 (.seq
 (.seq
 (.reg [ld 13 107 2 [],
 cf1 14 111 13 107 28 [13],
 sg 7 14 28 [14]])
 (.seq
 (.reg [mv 15 7 28 [],
 bn 16 .neq 28 15 0 28 4 [15]])
 (.cond (.tmp 16)
 (.seq
 (.reg [oq 17 (.build 107 #[]) 107 [],
 mv 18 7 28 [7],
 ⟨none,.store 107 (.tmp 4) (.tmp 17),0,none,[17]⟩,
 oq 5 (.assign (.const (.slice none 0 0))) 109 [],
 sg 6 18 28 [18]])
 .ret)
 .skip)))
 (.seq
 (.seq
 (.reg [ld 19 116 3 [],
 cf1 20 114 19 116 4 [19],
 oq 21 (.unOp .not 4 (.tmp 20)) 4 [20],
 mv 22 21 4 [21],
 og 23 (.fieldAddr 116 (.tmp 3) 1) 0 22 false [],
 og 24 (.load 3 (.tmp 23)) 3 22 false [23],
 og 25 (.fieldAddr 107 (.tmp 2) 0) 0 22 false [],
 og 26 (.load 3 (.tmp 25)) 3 22 false [25],
 og 27 (.binOp .neq 3 (.tmp 24) (.tmp 26) 3) 4 22 false [24,26],
 oq 28 (.pick (.tmp 22) (.const (.bool true)) (.tmp 27)) 4 [22,27]])
 (.cond (.tmp 28)
 (.seq
 (.reg [oq 29 (.build 107 #[]) 107 [],
 ⟨none,.store 107 (.tmp 4) (.tmp 29),0,none,[29]⟩,
 oq 5 (.assign (.const (.slice none 0 0))) 109 [],
 sn 6 97 28 []])
 .ret)
 .skip))
 (.seq
 (.dreg [fa 30 107 2 0 [],
 ld 31 3 30 [],
 fa 32 107 2 1 [],
 ld 33 42 32 [],
 cf1 34 72 33 42 130 [],
 oq 35 (.nilCheck (.tmp 34)) 0 [],
 fa 36 134 35 0 [],
 ld 37 42 36 [],
 fa 38 107 2 2 [],
 ld 39 48 38 [],
 cf1 40 73 39 48 48 [],
 fa 41 107 2 3 [],
 ld 42 105 41 [],
 oq 43 (.build 107 #[(0,.tmp 31),(1,.tmp 37),(2,.tmp 40),(3,.tmp 42)]) 107 [],
 ⟨none,.store 107 (.tmp 2) (.tmp 43),0,none,[]⟩] [[],[0],[],[2],[2,3],[2,3,4],[2,3,4,5],[2,3,4,5,6],[],[8],[8,9,2,3,4],[],[11],[0,1,2,3,4,5,6,7,8,9,10,11,12],[0,1,2,3,4,5,6,7,8,9,10,11,12,13]] [30,31,32,33,34,35,36,37,38,39,40,41,42,43])
 (.seq
 (.seq
 (.reg [fa 44 116 3 3 [],
 ld 45 44 44 [44],
 ln 46 45 44 3 [],
 oq 47 (.move (.const (.int .i64 0))) 3 []])
 (.block 0
 (.loop F64.s0)))
 (.seq
 (.reg [ld 80 107 2 [],
 cf1 81 113 80 107 107 [80],
 ⟨none,.store 107 (.tmp 2) (.tmp 81),0,none,[81]⟩])
 (.seq
 (.seq
 (.reg [fa 82 116 3 2 [],
 ld 83 95 82 [82],
 oq 84 (.move (.const (.int .i64 0))) 3 []])
 (.block 2
 (.loop F64.s1)))
 (.seq
 (.seq
 (.reg [fa 104 116 3 3 [],
 ld 105 44 104 [104],
 ln 106 105 44 3 [105],
 bn 107 .eql 3 106 0 3 4 [106]])
 (.cond (.tmp 107)
 (.seq
 (.reg [ld 108 107 2 [2],
 ⟨none,.store 107 (.tmp 4) (.tmp 108),0,none,[108]⟩,
 oq 5 (.assign (.const (.slice none 0 0))) 109 [],
 sn 6 0 28 []])
 .ret)
 .skip))
 (.seq
 (.dreg [ld 109 107 2 [],
 fa 110 107 2 0 [],
 ld 111 3 110 [],
 fa 112 116 3 0 [],
 ld 113 3 112 [],
 fa 114 107 2 2 [],
 fa 115 48 114 0 [],
 ld 116 46 115 [],
 cf1 117 104 116 46 95 [],
 oq 118 (.build 116 #[(0,.tmp 111),(1,.tmp 113),(2,.tmp 117)]) 116 [],
 oq 119 (.buildSlice 109 1 #[(0,.tmp 118)]) 109 [],
 ⟨none,.store 107 (.tmp 4) (.tmp 109),0,none,[]⟩,
 sg 5 119 109 [],
 sn 6 0 28 []] [[],[],[1],[],[3],[],[5],[5,6],[5,6,7],[1,2,3,4,5,6,7,8],[1,2,3,4,5,6,7,8,9],[0,5,6,7,8],[1,2,3,4,5,6,7,8,9,10,0,11],[1,2,3,4,5,6,7,8,9,10,0,11,12]] [2,3,109,110,111,112,113,114,115,116,117,118,119])
 .ret)))))))))
theorem F64.rs:Try.f64.results.toList=[.cell 4 107,.tmp 5,.tmp 6]:=rfl
def Zao.b0 (k:Nat) (s1:Slip):(House×Int)→Option (Stp (House×Int) (House) (House×(List Slip)×Int)):=fun(s:House×Int)=>match s with
 |(s9,i10)=>
   bif decide (i10<(s1.Records.length:Int)) then
    (at? s1.Records i10).bind fun x13=>
    (ZaK k s9.Ledger.Book).bind fun x14=>
    (x14.at? x13.At.House).bind fun x15=>
    bif decide (x15<x13.At.No) then
     some (.next (s9,w64 (i10+1)))
    else
     (Zbo k s9.Disk s9.Ledger x13).bind fun x17=>
     bif (!decide (x17.2.2=(0:Int))) then
      some (.ret ((⟨0,(⟨[],[]⟩:Disk),(⟨(⟨[]⟩:Book),0,0,0⟩:Ledger),(Vec.rep 6 ((Vec.rep 6 (0:Int)):(Vec 6 Int)))⟩:House),[],x17.2.2))
     else
      some (.next ((⟨s9.Me,x17.1,x17.2.1,s9.Known⟩:House),w64 (i10+1)))
   else
    some (.brk s9)
def Zao.b1 (k:Nat) (s1:Slip):(House×Int)→Option (Stp (House×Int) (House) (House×(List Slip)×Int)):=fun(s:House×Int)=>match s with
 |(s21,i22)=>
   bif decide (i22<(6:Int)) then
    (s1.Have.at? i22).bind fun x25=>
    (s21.Known.at? s1.From).bind fun x26=>
    (x26.at? i22).bind fun x27=>
    some (.next ((⟨s21.Me,s21.Disk,s21.Ledger,s21.Known.set s1.From (x26.set i22 (max x27 x25))⟩:House),w64 (i22+1)))
   else
    some (.brk s21)
noncomputable def Zao.h0 (s1:Slip):(House×Int)→St:=fun(s:House×Int)=>match s with
 |(s9,i10)=>⟨[(2,.ptr 0 0 0),(3,.ptr 0 1 0),(4,.ptr 0 2 0),(45,.sl 8 (List.map Record.c s1.Records)),(46,.int .i64 (s1.Records.length:Int)),(47,.int .i64 i10)],[(0,.box ([.int .i64 s9.Me,.sl 64 (List.map (Vec.c (n:=2) (Vec.c (n:=32) eU8)) s9.Disk.Pages),.sl 65 (List.map Write.c s9.Disk.Wait),.sl 8 (List.map Record.c s9.Ledger.Book.Records),.int .i64 s9.Ledger.Area,.int .i64 s9.Ledger.Epoch,.int .i64 s9.Ledger.Used]++(Vec.c (n:=6) (Vec.c (n:=6) eI) s9.Known))),(1,.box ([.int .i64 s1.From,.int .i64 s1.To]++(Vec.c (n:=6) eI s1.Have++([.sl 8 (List.map Record.c s1.Records)])))),(2,.box ([.int .i64 0,.loc 0 3 64 0 0 0,.loc 0 4 65 0 0 0,.loc 0 5 8 0 0 0,.int .i64 0,.int .i64 0,.int .i64 0]++(Vec.c (n:=6) (Vec.c (n:=6) eI) (Vec.rep 6 ((Vec.rep 6 (0:Int)):(Vec 6 Int)))))),(3,.arr 139 64 (List.map (Vec.c (n:=2) (Vec.c (n:=32) eU8)) [])),(4,.arr 141 65 (List.map Write.c [])),(5,.arr 25 8 (List.map Record.c []))],[],6,Try.f64.ntmps⟩
noncomputable def Zao.x0 (s1:Slip):House→St:=fun(s11:House)=>⟨[(2,.ptr 0 0 0),(3,.ptr 0 1 0),(4,.ptr 0 2 0)],[(0,.box ([.int .i64 s11.Me,.sl 64 (List.map (Vec.c (n:=2) (Vec.c (n:=32) eU8)) s11.Disk.Pages),.sl 65 (List.map Write.c s11.Disk.Wait),.sl 8 (List.map Record.c s11.Ledger.Book.Records),.int .i64 s11.Ledger.Area,.int .i64 s11.Ledger.Epoch,.int .i64 s11.Ledger.Used]++(Vec.c (n:=6) (Vec.c (n:=6) eI) s11.Known))),(1,.box ([.int .i64 s1.From,.int .i64 s1.To]++(Vec.c (n:=6) eI s1.Have++([.sl 8 (List.map Record.c s1.Records)])))),(2,.box ([.int .i64 0,.loc 0 3 64 0 0 0,.loc 0 4 65 0 0 0,.loc 0 5 8 0 0 0,.int .i64 0,.int .i64 0,.int .i64 0]++(Vec.c (n:=6) (Vec.c (n:=6) eI) (Vec.rep 6 ((Vec.rep 6 (0:Int)):(Vec 6 Int)))))),(3,.arr 139 64 (List.map (Vec.c (n:=2) (Vec.c (n:=32) eU8)) [])),(4,.arr 141 65 (List.map Write.c [])),(5,.arr 25 8 (List.map Record.c []))],[],6,Try.f64.ntmps⟩
noncomputable def Zao.h1 (s1:Slip):(House×Int)→St:=fun(s:House×Int)=>match s with
 |(s21,i22)=>⟨[(2,.ptr 0 0 0),(3,.ptr 0 1 0),(4,.ptr 0 2 0),(83,.agg (Vec.c (n:=6) eI s1.Have)),(84,.int .i64 i22)],[(0,.box ([.int .i64 s21.Me,.sl 64 (List.map (Vec.c (n:=2) (Vec.c (n:=32) eU8)) s21.Disk.Pages),.sl 65 (List.map Write.c s21.Disk.Wait),.sl 8 (List.map Record.c s21.Ledger.Book.Records),.int .i64 s21.Ledger.Area,.int .i64 s21.Ledger.Epoch,.int .i64 s21.Ledger.Used]++(Vec.c (n:=6) (Vec.c (n:=6) eI) s21.Known))),(1,.box ([.int .i64 s1.From,.int .i64 s1.To]++(Vec.c (n:=6) eI s1.Have++([.sl 8 (List.map Record.c s1.Records)])))),(2,.box ([.int .i64 0,.loc 0 3 64 0 0 0,.loc 0 4 65 0 0 0,.loc 0 5 8 0 0 0,.int .i64 0,.int .i64 0,.int .i64 0]++(Vec.c (n:=6) (Vec.c (n:=6) eI) (Vec.rep 6 ((Vec.rep 6 (0:Int)):(Vec 6 Int)))))),(3,.arr 139 64 (List.map (Vec.c (n:=2) (Vec.c (n:=32) eU8)) [])),(4,.arr 141 65 (List.map Write.c [])),(5,.arr 25 8 (List.map Record.c []))],[],6,Try.f64.ntmps⟩
noncomputable def Zao.x1 (s1:Slip):House→St:=fun(s23:House)=>⟨[(2,.ptr 0 0 0),(3,.ptr 0 1 0),(4,.ptr 0 2 0)],[(0,.box ([.int .i64 s23.Me,.sl 64 (List.map (Vec.c (n:=2) (Vec.c (n:=32) eU8)) s23.Disk.Pages),.sl 65 (List.map Write.c s23.Disk.Wait),.sl 8 (List.map Record.c s23.Ledger.Book.Records),.int .i64 s23.Ledger.Area,.int .i64 s23.Ledger.Epoch,.int .i64 s23.Ledger.Used]++(Vec.c (n:=6) (Vec.c (n:=6) eI) s23.Known))),(1,.box ([.int .i64 s1.From,.int .i64 s1.To]++(Vec.c (n:=6) eI s1.Have++([.sl 8 (List.map Record.c s1.Records)])))),(2,.box ([.int .i64 0,.loc 0 3 64 0 0 0,.loc 0 4 65 0 0 0,.loc 0 5 8 0 0 0,.int .i64 0,.int .i64 0,.int .i64 0]++(Vec.c (n:=6) (Vec.c (n:=6) eI) (Vec.rep 6 ((Vec.rep 6 (0:Int)):(Vec 6 Int)))))),(3,.arr 139 64 (List.map (Vec.c (n:=2) (Vec.c (n:=32) eU8)) [])),(4,.arr 141 65 (List.map Write.c [])),(5,.arr 25 8 (List.map Record.c []))],[],6,Try.f64.ntmps⟩
def Zao (k:Nat) (hh0:House) (s1:Slip):Option (House×(List Slip)×Int):=
 (Zal k hh0).bind fun x1=>
 bif (!decide (x1=(0:Int))) then
  some ((⟨0,(⟨[],[]⟩:Disk),(⟨(⟨[]⟩:Book),0,0,0⟩:Ledger),(Vec.rep 6 ((Vec.rep 6 (0:Int)):(Vec 6 Int)))⟩:House),[],x1)
 else
  (ZaM k s1).bind fun x3=>
  bif x3 then
   bif (!decide (s1.To=hh0.Me)) then
    some ((⟨0,(⟨[],[]⟩:Disk),(⟨(⟨[]⟩:Book),0,0,0⟩:Ledger),(Vec.rep 6 ((Vec.rep 6 (0:Int)):(Vec 6 Int)))⟩:House),[],97)
   else
    (Zbn k hh0.Disk).bind fun x7=>
    (Zbe k hh0.Ledger).bind fun x8=>
    (whl (Zao.b0 k s1) k ((⟨hh0.Me,x7.Disk,x8,hh0.Known⟩:House),0)).bind fun r19=>match r19 with
    |.next _=>none
    |.ret v_=>some v_
    |.brk s11=>
     (Zdd k s11).bind fun x20=>
     (whl (Zao.b1 k s1) k (x20,0)).bind fun r29=>match r29 with
     |.next _=>none
     |.ret v_=>some v_
     |.brk s23=>
      bif decide ((s1.Records.length:Int)=(0:Int)) then
       some (s23,[],0)
      else
       (ZaK k s23.Ledger.Book).bind fun x31=>
       some (s23,[(⟨s23.Me,s1.From,x31,[]⟩:Slip)],0)
  else
   some ((⟨0,(⟨[],[]⟩:Disk),(⟨(⟨[]⟩:Book),0,0,0⟩:Ledger),(Vec.rep 6 ((Vec.rep 6 (0:Int)):(Vec 6 Int)))⟩:House),[],97)
theorem Zfo (k:Nat) (hh0:House) (s1:Slip) (r:House×(List Slip)×Int) (h0:Zao k hh0 s1=some r):Za6 Try.prog 64 [.agg (House.c hh0),.agg (Slip.c s1)] (fun y=>y=.tup [.agg (House.c r.1),.sl 9 (List.map Slip.c r.2.1),.int .i64 r.2.2]):=by
 refine PB (fn:=Try.f64) (sc:=F64.c) ?_
 refine rS ?_
 simp only[Zao]at h0
 try simp only[F64.c,go_sem]
 obtain⟨x1,yx1,h0⟩:=bs h0
 refine zc0 (Zcb k _ _ yx1) ?_ (by first|rfl|(simp[AV.refsL,AV.refs,AV.scal,AV.leaf];done)|simp[AV.refsL,AV.refs,AV.scal,AV.leaf,go_sem]) ?_
 try simp only[go_sem]
 try simp only[go_sem]
 refine Zab h0 ?_ ?_<;>intro c2 h0
 have c2:=ZaB c2
 try simp only[c2,go_sem]
 obtain rfl:=oi h0
 refine Zac rfl ?_
 try simp only[F64.rs,c2,go_sem]
 have c2:=ZaA c2
 try simp only[c2,go_sem]
 obtain⟨x3,yx3,h0⟩:=bs h0
 refine zc0 (Zjh k _ _ yx3) ?_ (by first|rfl|(simp[AV.refsL,AV.refs,AV.scal,AV.leaf];done)|simp[AV.refsL,AV.refs,AV.scal,AV.leaf,go_sem]) ?_
 try simp only[c2,go_sem]
 try simp only[c2,go_sem]
 refine Zab h0 ?_ ?_<;>intro c4 h0
 try simp only[c4,c2,go_sem]
 refine Zab h0 ?_ ?_<;>intro c5 h0
 have c5:=ZaB c5
 try simp only[c5,c2,c4,go_sem]
 obtain rfl:=oi h0
 refine Zac rfl ?_
 try simp only[F64.rs,c2,c4,c5,go_sem]
 have c5:=ZaA c5
 try simp only[c5,c2,c4,go_sem]
 refine Zas Za9 Zat 1000 ?_
 try simp only[c2,c4,c5,go_sem]
 obtain⟨x7,yx7,h0⟩:=bs h0
 refine ZiN 1000 [] [] (ZbA k _ _ yx7) ?_ rfl ?_
 try simp only[gOK,c2,c4,c5,go_sem]
 try simp only[c2,c4,c5,go_sem]
 obtain⟨x8,yx8,h0⟩:=bs h0
 refine ZaC 1000 (ZcI k _ _ yx8) ?_ (by first|rfl|(simp[AV.refsL,AV.refs,AV.scal,AV.leaf];done)|simp[AV.refsL,AV.refs,AV.scal,AV.leaf,go_sem]) ?_
 try simp only[c2,c4,c5,go_sem]
 try simp only[c2,c4,c5,go_sem]
 refine Za4 ⟨Za3 (by simp only[ZcE,List.reverse_cons,List.reverse_nil,List.nil_append,List.cons_append,List.map_cons,List.map_nil,List.append_nil];rfl) (by first|decide +kernel|rfl),Zae Za9 1000 _ _ ?_⟩
 try simp only[c2,c4,c5,go_sem]
 obtain⟨r19,yr19,h0⟩:=bs h0
 refine Zaz yr19 (Zao.h0 s1) (Zao.x0 s1) ?_ ?_ ?_
 refine ZaE.trans (ZaE.fz 385 rfl (fun _ h=>by cases h)) ?_
 refine ZaE.trans (ZaE.fz 386 rfl (fun _ h=>by cases h)) ?_
 refine ZaE.go [2,3,4,45,46,47] [0,16,32,33,34,35] rfl ?_
 try simp only[Zao.h0,c2,c4,c5,go_sem]
 rintro⟨s9,i10⟩ x_1 Bk1 Br1 h1 hnext1 hbrk1 hret1
 refine rS ?_
 simp only[Zao.b0]at h1
 try simp only[F64.s0,Zao.h0,c2,c4,c5,go_sem]
 refine Zab h1 ?_ ?_<;>intro c12 h1
 try simp only[c12,c2,c4,c5,go_sem]
 obtain⟨x13,yx13,h1⟩:=bs h1
 try simp only[aa yx13,c2,c4,c5,c12,go_sem]
 refine Zas Za9 Zat 1000 ?_
 try simp only[c2,c4,c5,c12,aa yx13,go_sem]
 obtain⟨x14,yx14,h1⟩:=bs h1
 refine ZaC 1000 (ZcC k _ _ yx14) ?_ (by first|rfl|(simp[AV.refsL,AV.refs,AV.scal,AV.leaf];done)|simp[AV.refsL,AV.refs,AV.scal,AV.leaf,go_sem]) ?_
 try simp only[c2,c4,c5,c12,aa yx13,go_sem]
 try simp only[c2,c4,c5,c12,aa yx13,go_sem]
 obtain⟨x15,yx15,h1⟩:=bs h1
 have uyx15:=UpdE.idx (fun q_=>(ZaN.len q_:(eI q_).length=1)) yx15
 have buyx15:=uyx15.bound (fun q_=>(ZaN.len q_:(eI q_).length=1))
 have guyx15:=uyx15.get (fun q_=>(ZaN.len q_:(eI q_).length=1))
 try simp only[go_sem]at buyx15 guyx15
 try simp only[Zaa yx15,buyx15,guyx15,c2,c4,c5,c12,aa yx13,go_sem]
 refine Za4 ⟨Za3 (by simp only[ZcE,List.reverse_cons,List.reverse_nil,List.nil_append,List.cons_append,List.map_cons,List.map_nil,List.append_nil];rfl) (by first|decide +kernel|rfl),Zae Za9 1000 _ _ ?_⟩
 try simp only[c2,c4,c5,c12,aa yx13,Zaa yx15,buyx15,guyx15,go_sem]
 refine Zab h1 ?_ ?_<;>intro c16 h1
 try simp only[c16,c2,c4,c5,c12,aa yx13,Zaa yx15,buyx15,guyx15,go_sem]
 refine Zaf (hnext1 _ _ (oi h1).symm ?_)
 refine ZaE.go [2,3,4,45,46,47] [0,1,2,3,4,5] rfl ?_
 try simp only[Zao.h0,c2,c4,c5,c12,aa yx13,Zaa yx15,buyx15,guyx15,c16,go_sem]
 try simp only[c16,c2,c4,c5,c12,aa yx13,Zaa yx15,buyx15,guyx15,go_sem]
 obtain⟨x17,yx17,h1⟩:=bs h1
 refine zc0 (Zdg k _ _ _ _ yx17) ?_ (by first|rfl|(simp[AV.refsL,AV.refs,AV.scal,AV.leaf];done)|simp[AV.refsL,AV.refs,AV.scal,AV.leaf,go_sem]) ?_
 try simp only[c2,c4,c5,c12,aa yx13,Zaa yx15,buyx15,guyx15,c16,go_sem]
 try simp only[c2,c4,c5,c12,aa yx13,Zaa yx15,buyx15,guyx15,c16,go_sem]
 refine Zab h1 ?_ ?_<;>intro c18 h1
 have c18:=ZaB c18
 try simp only[c18,c2,c4,c5,c12,aa yx13,Zaa yx15,buyx15,guyx15,c16,go_sem]
 obtain rfl:=hret1 _ (oi h1).symm
 simp only at h0
 obtain rfl:=oi h0
 refine Zac rfl ?_
 try simp only[F64.rs,c2,c4,c5,c12,aa yx13,Zaa yx15,buyx15,guyx15,c16,c18,go_sem]
 have c18:=ZaA c18
 try simp only[c18,c2,c4,c5,c12,aa yx13,Zaa yx15,buyx15,guyx15,c16,go_sem]
 refine Zaf (hnext1 _ _ (oi h1).symm ?_)
 refine ZaE.go [2,3,4,45,46,47] [0,1,2,3,4,5] rfl ?_
 try simp only[Zao.h0,c2,c4,c5,c12,aa yx13,Zaa yx15,buyx15,guyx15,c16,c18,go_sem]
 try simp only[c12,c2,c4,c5,go_sem]
 refine Zaf (hbrk1 _ _ (oi h1).symm ?_)
 refine ZaE.go [2,3,4] [0,1,2,3,4,5] rfl ?_
 try simp only[Zao.x0,c2,c4,c5,c12,go_sem]
 rintro s11 hr_
 subst hr_
 simp only at h0
 refine rS ?_
 try simp only[Zao.x0,c2,c4,c5,go_sem]
 obtain⟨x20,yx20,h0⟩:=bs h0
 refine zc0 (Zge k _ _ yx20) ?_ (by first|rfl|(simp[AV.refsL,AV.refs,AV.scal,AV.leaf];done)|simp[AV.refsL,AV.refs,AV.scal,AV.leaf,go_sem]) ?_
 try simp only[c2,c4,c5,go_sem]
 try simp only[c2,c4,c5,go_sem]
 obtain⟨r29,yr29,h0⟩:=bs h0
 refine Zaz yr29 (Zao.h1 s1) (Zao.x1 s1) ?_ ?_ ?_
 refine ZaE.go [2,3,4,83,84] [0,1,2,3,4,5] rfl ?_
 try simp only[Zao.h1,c2,c4,c5,go_sem]
 rintro⟨s21,i22⟩ x_1 Bk1 Br1 h1 hnext1 hbrk1 hret1
 refine rS ?_
 simp only[Zao.b1]at h1
 try simp only[F64.s1,Zao.h1,c2,c4,c5,go_sem]
 refine Zab h1 ?_ ?_<;>intro c24 h1
 try simp only[c24,c2,c4,c5,go_sem]
 obtain⟨x25,yx25,h1⟩:=bs h1
 have uyx25:=UpdE.idx (fun q_=>(ZaN.len q_:(eI q_).length=1)) yx25
 have buyx25:=uyx25.bound (fun q_=>(ZaN.len q_:(eI q_).length=1))
 have guyx25:=uyx25.get (fun q_=>(ZaN.len q_:(eI q_).length=1))
 try simp only[go_sem]at buyx25 guyx25
 try simp only[Zaa yx25,buyx25,guyx25,c2,c4,c5,c24,go_sem]
 refine Zas Za9 Zat 1000 ?_
 try simp only[c2,c4,c5,c24,Zaa yx25,buyx25,guyx25,go_sem]
 obtain⟨x26,yx26,h1⟩:=bs h1
 have uyx26:=UpdE.at (fun q_=>((VK.vec ZaN 6).len q_:((Vec.c (n:=6) eI) q_).length=6)) (UpdE.skip (UpdE.self (fun q_=>((VK.vec (VK.vec ZaN 6) 6).len q_:(Vec.c (n:=6) (Vec.c (n:=6) eI) q_).length=36)) s21.Known) ([.int .i64 s21.Me,.sl 64 (List.map (Vec.c (n:=2) (Vec.c (n:=32) eU8)) s21.Disk.Pages),.sl 65 (List.map Write.c s21.Disk.Wait),.sl 8 (List.map Record.c s21.Ledger.Book.Records),.int .i64 s21.Ledger.Area,.int .i64 s21.Ledger.Epoch,.int .i64 s21.Ledger.Used]:List AV)) yx26
 have buyx26:=uyx26.bound (fun q_=>((VK.vec ZaN 6).len q_:((Vec.c (n:=6) eI) q_).length=6))
 have guyx26:=uyx26.get (fun q_=>((VK.vec ZaN 6).len q_:((Vec.c (n:=6) eI) q_).length=6))
 try simp only[List.length_cons,List.length_nil,go_sem]at buyx26 guyx26
 try simp only[Zaa yx26,buyx26,guyx26,c2,c4,c5,c24,Zaa yx25,buyx25,guyx25,go_sem]
 obtain⟨x27,yx27,h1⟩:=bs h1
 have uyx27:=UpdE.at (fun q_=>(ZaN.len q_:(eI q_).length=1)) uyx26 yx27
 have buyx27:=uyx27.bound (fun q_=>(ZaN.len q_:(eI q_).length=1))
 have guyx27:=uyx27.get (fun q_=>(ZaN.len q_:(eI q_).length=1))
 try simp only[go_sem]at buyx27 guyx27
 have q28:=uyx27.ow (max x27 x25)
 try simp only[List.length_cons,List.length_nil,go_sem]at q28
 try simp only[Zaa yx27,buyx27,guyx27,Zaa yx26,buyx26,guyx26,q28,c2,c4,c5,c24,Zaa yx25,buyx25,guyx25,go_sem]
 refine Za4 ⟨Za3 (by simp only[ZcE,List.reverse_cons,List.reverse_nil,List.nil_append,List.cons_append,List.map_cons,List.map_nil,List.append_nil];rfl) (by first|decide +kernel|rfl),Zae Za9 1000 _ _ ?_⟩
 try simp only[c2,c4,c5,c24,Zaa yx25,buyx25,guyx25,Zaa yx26,buyx26,guyx26,Zaa yx27,buyx27,guyx27,go_sem]
 refine Zaf (hnext1 _ _ (oi h1).symm ?_)
 refine ZaE.go [2,3,4,83,84] [0,1,2,3,4,5] rfl ?_
 try simp only[Zao.h1,c2,c4,c5,c24,Zaa yx25,buyx25,guyx25,Zaa yx26,buyx26,guyx26,Zaa yx27,buyx27,guyx27,go_sem]
 try simp only[c24,c2,c4,c5,go_sem]
 refine Zaf (hbrk1 _ _ (oi h1).symm ?_)
 refine ZaE.go [2,3,4] [0,1,2,3,4,5] rfl ?_
 try simp only[Zao.x1,c2,c4,c5,c24,go_sem]
 rintro s23 hr_
 subst hr_
 simp only at h0
 refine rS ?_
 try simp only[Zao.x1,c2,c4,c5,go_sem]
 refine Zab h0 ?_ ?_<;>intro c30 h0
 try simp only[c30,c2,c4,c5,go_sem]
 obtain rfl:=oi h0
 refine Zac rfl ?_
 try simp only[F64.rs,c2,c4,c5,c30,go_sem]
 try simp only[c30,c2,c4,c5,go_sem]
 refine Zas Za9 Zat 1000 ?_
 try simp only[c2,c4,c5,c30,go_sem]
 obtain⟨x31,yx31,h0⟩:=bs h0
 refine ZaC 1000 (ZcC k _ _ yx31) ?_ (by first|rfl|(simp[AV.refsL,AV.refs,AV.scal,AV.leaf];done)|simp[AV.refsL,AV.refs,AV.scal,AV.leaf,go_sem]) ?_
 try simp only[c2,c4,c5,c30,go_sem]
 try simp only[c2,c4,c5,c30,go_sem]
 refine Za4 ⟨Za3 (by simp only[ZcE,List.reverse_cons,List.reverse_nil,List.nil_append,List.cons_append,List.map_cons,List.map_nil,List.append_nil];rfl) (by first|decide +kernel|rfl),Zae Za9 1000 _ _ ?_⟩
 try simp only[c2,c4,c5,c30,go_sem]
 obtain rfl:=oi h0
 refine Zac rfl ?_
 try simp only[F64.rs,c2,c4,c5,c30,go_sem]
 all_goals repeat' (first|exact NL.refl _|exact NL.nil _|exact NLs.refl _|exact NLs.nil|exact Zex.refl _|exact Zex.nil|exact NLT.nil|exact NLF.nil|refine NLT.cons _ _ _ _ _ ?_ ?_|refine NLF.cons _ _ _ _ _ ?_ ?_|refine NLB.box _ _ ?_|refine NLB.arr _ _ _ _ ?_|refine NLs.cons ?_ ?_|refine NLs.append ?_ ?_|refine NL.aggs ?_|refine NL.tups ?_|refine NL.sls ?_|refine Zex.append ?_ ?_|refine Zex.cons ?_ ?_|refine And.intro ?_ ?_|rfl)
 try simp only[c4,c2,go_sem]
 obtain rfl:=oi h0
 refine Zac rfl ?_
 try simp only[F64.rs,c2,c4,go_sem]
def F109.c:SC:=
 (.seq
 (.reg [oq 2 (.alloc 107) 0 [],
 sn 3 0 28 [3]])
 (.seq
 (.seq
 (.reg [mv 5 0 3 [],
 cf1 6 112 5 3 4 [5],
 oq 7 (.unOp .not 4 (.tmp 6)) 4 [6]])
 (.cond (.tmp 7)
 (.seq
 (.reg [oq 8 (.build 107 #[]) 107 [],
 ⟨none,.store 107 (.tmp 2) (.tmp 8),0,none,[8]⟩,
 sn 3 1 28 []])
 .ret)
 .skip))
 (.seq
 (.reg [mv 9 0 3 [0],
 oq 10 (.build 107 #[(0,.tmp 9)]) 107 [9],
 oq 4 (.alloc 107) 0 [],
 ⟨none,.store 107 (.tmp 4) (.tmp 10),0,none,[10]⟩])
 (.seq
 (.reg [oq 12 (.call ⟨.value (.func 43),#[],#[]⟩) 76 [],
 mv 11 12 76 [12],
 xt 13 11 0 42 [],
 xt 14 11 1 48 [11],
 fa 15 107 4 1 [],
 ⟨none,.store 42 (.tmp 15) (.tmp 13),0,none,[13,15]⟩,
 fa 16 107 4 2 [],
 ⟨none,.store 48 (.tmp 16) (.tmp 14),0,none,[14,16]⟩])
 (.seq
 (.reg [ld 17 107 4 [4],
 ⟨none,.store 107 (.tmp 2) (.tmp 17),0,none,[17]⟩,
 sn 3 0 28 []])
 .ret)))))
theorem F109.rs:Try.f109.results.toList=[.cell 2 107,.tmp 3]:=rfl
def ZcN (k:Nat) (me0:Int):Option (House×Int):=
 (Zb7 k me0).bind fun x1=>
 bif (!x1) then
  some ((⟨0,(⟨[],[]⟩:Disk),(⟨(⟨[]⟩:Book),0,0,0⟩:Ledger),(Vec.rep 6 ((Vec.rep 6 (0:Int)):(Vec 6 Int)))⟩:House),1)
 else
  (ZfR k).bind fun x3=>
  some ((⟨me0,x3.1,x3.2,(Vec.rep 6 ((Vec.rep 6 (0:Int)):(Vec 6 Int)))⟩:House),0)
theorem ZhO (k:Nat) (me0:Int) (r:House×Int) (h0:ZcN k me0=some r):Za6 Try.prog 109 [.int .i64 me0] (fun y=>y=.tup [.agg (House.c r.1),.int .i64 r.2]):=by
 refine PB (fn:=Try.f109) (sc:=F109.c) ?_
 refine rS ?_
 simp only[ZcN]at h0
 try simp only[F109.c,go_sem]
 obtain⟨x1,yx1,h0⟩:=bs h0
 refine zc0 (Zcd k _ _ yx1) ?_ (by first|rfl|(simp[AV.refsL,AV.refs,AV.scal,AV.leaf];done)|simp[AV.refsL,AV.refs,AV.scal,AV.leaf,go_sem]) ?_
 try simp only[go_sem]
 try simp only[go_sem]
 refine Zab h0 ?_ ?_<;>intro c2 h0
 have c2:=ZaB c2
 try simp only[c2,go_sem]
 obtain rfl:=oi h0
 refine Zac rfl ?_
 try simp only[F109.rs,c2,go_sem]
 have c2:=ZaA c2
 try simp only[c2,go_sem]
 obtain⟨x3,yx3,h0⟩:=bs h0
 refine zc0 (ZiS k _ yx3) ?_ (by first|rfl|(simp[AV.refsL,AV.refs,AV.scal,AV.leaf];done)|simp[AV.refsL,AV.refs,AV.scal,AV.leaf,go_sem]) ?_
 try simp only[c2,go_sem]
 try simp only[c2,go_sem]
 obtain rfl:=oi h0
 refine Zac rfl ?_
 try simp only[F109.rs,c2,go_sem]
def F110.c:SC:=
 (.seq
 (.reg [oq 2 (.box 107 (.tmp 0)) 0 [0],
 oq 3 (.box 25 (.tmp 1)) 0 [1],
 oq 4 (.alloc 107) 0 [],
 oq 5 (.alloc 25) 0 [],
 sn 6 0 28 [6]])
 (.seq
 (.seq
 (.reg [ld 9 107 2 [],
 cf1 10 111 9 107 28 [9],
 sg 7 10 28 [10]])
 (.seq
 (.reg [mv 11 7 28 [],
 bn 12 .neq 28 11 0 28 4 [11]])
 (.cond (.tmp 12)
 (.seq
 (.reg [oq 13 (.build 107 #[]) 107 [],
 oq 14 (.build 25 #[]) 25 [],
 mv 15 7 28 [7],
 ⟨none,.store 107 (.tmp 4) (.tmp 13),0,none,[13]⟩,
 ⟨none,.store 25 (.tmp 5) (.tmp 14),0,none,[14]⟩,
 sg 6 15 28 [15]])
 .ret)
 .skip)))
 (.seq
 (.dreg [fa 16 107 2 0 [],
 ld 17 3 16 [],
 fa 18 107 2 2 [],
 fa 19 48 18 0 [],
 ld 20 46 19 [],
 cf1 21 104 20 46 95 [],
 fa 22 107 2 0 [],
 ld 23 3 22 [],
 oq 24 (.index 95 (.tmp 21) (.tmp 23)) 3 [],
 oq 25 (.build 23 #[(0,.tmp 17),(1,.tmp 24)]) 23 [],
 fa 26 25 3 0 [],
 ⟨none,.store 23 (.tmp 26) (.tmp 25),0,none,[]⟩] [[],[0],[],[2],[2,3],[2,3,4],[],[6],[2,3,4,5,6,7],[0,1,2,3,4,5,6,7,8],[0,1,2,3,4,5,6,7,8,9],[0,1,2,3,4,5,6,7,8,9,10]] [16,17,18,19,20,21,22,23,24,25,26])
 (.seq
 (.reg [sn 8 0 28 [8]])
 (.seq
 (.seq
 (.reg [fa 28 107 2 1 [],
 ld 29 42 28 [28],
 fa 30 107 2 2 [],
 ld 31 48 30 [30],
 ld 32 25 3 [],
 oq 33 (.call ⟨.value (.func 20),#[.tmp 29,.tmp 31,.tmp 32],#[42,48,25]⟩) 50 [29,31,32],
 mv 27 33 50 [33],
 xt 34 27 0 42 [],
 xt 35 27 1 48 [],
 xt 36 27 2 28 [27],
 fa 37 107 2 1 [],
 ⟨none,.store 42 (.tmp 37) (.tmp 34),0,none,[34,37]⟩,
 fa 38 107 2 2 [],
 ⟨none,.store 48 (.tmp 38) (.tmp 35),0,none,[35,38]⟩,
 sg 8 36 28 [36]])
 (.seq
 (.reg [mv 39 8 28 [],
 bn 40 .neq 28 39 0 28 4 [39]])
 (.cond (.tmp 40)
 (.seq
 (.reg [oq 41 (.build 107 #[]) 107 [],
 oq 42 (.build 25 #[]) 25 [],
 mv 43 8 28 [8],
 ⟨none,.store 107 (.tmp 4) (.tmp 41),0,none,[41]⟩,
 ⟨none,.store 25 (.tmp 5) (.tmp 42),0,none,[42]⟩,
 sg 6 43 28 [43]])
 .ret)
 .skip)))
 (.seq
 (.dreg [ld 44 107 2 [],
 ld 45 25 3 [],
 ⟨none,.store 107 (.tmp 4) (.tmp 44),0,none,[]⟩,
 ⟨none,.store 25 (.tmp 5) (.tmp 45),0,none,[]⟩,
 sn 6 0 28 []] [[],[],[0],[1,0,2],[1,0,2,3]] [2,3,44,45])
 .ret))))))
theorem F110.rs:Try.f110.results.toList=[.cell 4 107,.cell 5 25,.tmp 6]:=rfl
def Zd5 (k:Nat) (hh0:House) (r1:Record):Option (House×Record×Int):=
 (Zal k hh0).bind fun x1=>
 bif (!decide (x1=(0:Int))) then
  some ((⟨0,(⟨[],[]⟩:Disk),(⟨(⟨[]⟩:Book),0,0,0⟩:Ledger),(Vec.rep 6 ((Vec.rep 6 (0:Int)):(Vec 6 Int)))⟩:House),(⟨(⟨0,0⟩:Entry),0,0,0,(⟨0,0⟩:Entry),ByteArray.empty⟩:Record),x1)
 else
  (ZaK k hh0.Ledger.Book).bind fun x3=>
  (x3.at? hh0.Me).bind fun x4=>
  (Zbo k hh0.Disk hh0.Ledger (⟨(⟨hh0.Me,x4⟩:Entry),r1.Kind,r1.Day,r1.Known,r1.Of,r1.Text⟩:Record)).bind fun x5=>
  bif (!decide (x5.2.2=(0:Int))) then
   some ((⟨0,(⟨[],[]⟩:Disk),(⟨(⟨[]⟩:Book),0,0,0⟩:Ledger),(Vec.rep 6 ((Vec.rep 6 (0:Int)):(Vec 6 Int)))⟩:House),(⟨(⟨0,0⟩:Entry),0,0,0,(⟨0,0⟩:Entry),ByteArray.empty⟩:Record),x5.2.2)
  else
   some ((⟨hh0.Me,x5.1,x5.2.1,hh0.Known⟩:House),(⟨(⟨hh0.Me,x4⟩:Entry),r1.Kind,r1.Day,r1.Known,r1.Of,r1.Text⟩:Record),0)
theorem Zlf (k:Nat) (hh0:House) (r1:Record) (r:House×Record×Int) (h0:Zd5 k hh0 r1=some r):Za6 Try.prog 110 [.agg (House.c hh0),.agg (Record.c r1)] (fun y=>y=.tup [.agg (House.c r.1),.agg (Record.c r.2.1),.int .i64 r.2.2]):=by
 refine PB (fn:=Try.f110) (sc:=F110.c) ?_
 refine rS ?_
 simp only[Zd5]at h0
 try simp only[F110.c,go_sem]
 obtain⟨x1,yx1,h0⟩:=bs h0
 refine zc0 (Zcb k _ _ yx1) ?_ (by first|rfl|(simp[AV.refsL,AV.refs,AV.scal,AV.leaf];done)|simp[AV.refsL,AV.refs,AV.scal,AV.leaf,go_sem]) ?_
 try simp only[go_sem]
 try simp only[go_sem]
 refine Zab h0 ?_ ?_<;>intro c2 h0
 have c2:=ZaB c2
 try simp only[c2,go_sem]
 obtain rfl:=oi h0
 refine Zac rfl ?_
 try simp only[F110.rs,c2,go_sem]
 have c2:=ZaA c2
 try simp only[c2,go_sem]
 refine Zas Za9 Zat 1000 ?_
 try simp only[c2,go_sem]
 obtain⟨x3,yx3,h0⟩:=bs h0
 refine ZaC 1000 (ZcC k _ _ yx3) ?_ (by first|rfl|(simp[AV.refsL,AV.refs,AV.scal,AV.leaf];done)|simp[AV.refsL,AV.refs,AV.scal,AV.leaf,go_sem]) ?_
 try simp only[c2,go_sem]
 try simp only[c2,go_sem]
 obtain⟨x4,yx4,h0⟩:=bs h0
 have uyx4:=UpdE.idx (fun q_=>(ZaN.len q_:(eI q_).length=1)) yx4
 have buyx4:=uyx4.bound (fun q_=>(ZaN.len q_:(eI q_).length=1))
 have guyx4:=uyx4.get (fun q_=>(ZaN.len q_:(eI q_).length=1))
 try simp only[go_sem]at buyx4 guyx4
 try simp only[Zaa yx4,buyx4,guyx4,c2,go_sem]
 refine Za4 ⟨Za3 (by simp only[ZcE,List.reverse_cons,List.reverse_nil,List.nil_append,List.cons_append,List.map_cons,List.map_nil,List.append_nil];rfl) (by first|decide +kernel|rfl),Zae Za9 1000 _ _ ?_⟩
 try simp only[c2,Zaa yx4,buyx4,guyx4,go_sem]
 obtain⟨x5,yx5,h0⟩:=bs h0
 refine zc0 (Zdg k _ _ _ _ yx5) ?_ (by first|rfl|(simp[AV.refsL,AV.refs,AV.scal,AV.leaf];done)|simp[AV.refsL,AV.refs,AV.scal,AV.leaf,go_sem]) ?_
 try simp only[c2,Zaa yx4,buyx4,guyx4,go_sem]
 try simp only[c2,Zaa yx4,buyx4,guyx4,go_sem]
 refine Zab h0 ?_ ?_<;>intro c6 h0
 have c6:=ZaB c6
 try simp only[c6,c2,Zaa yx4,buyx4,guyx4,go_sem]
 obtain rfl:=oi h0
 refine Zac rfl ?_
 try simp only[F110.rs,c2,Zaa yx4,buyx4,guyx4,c6,go_sem]
 have c6:=ZaA c6
 try simp only[c6,c2,Zaa yx4,buyx4,guyx4,go_sem]
 refine Zas Za9 Zat 1000 ?_
 try simp only[c2,Zaa yx4,buyx4,guyx4,c6,go_sem]
 refine Za4 ⟨Za3 (by simp only[ZcE,List.reverse_cons,List.reverse_nil,List.nil_append,List.cons_append,List.map_cons,List.map_nil,List.append_nil];rfl) (by first|decide +kernel|rfl),Zae Za9 1000 _ _ ?_⟩
 try simp only[c2,Zaa yx4,buyx4,guyx4,c6,go_sem]
 obtain rfl:=oi h0
 refine Zac rfl ?_
 try simp only[F110.rs,c2,Zaa yx4,buyx4,guyx4,c6,go_sem]
def F61.s1:SC:=
 (.seq
 (.seq
 (.reg [mv 41 10 3 [],
 mv 42 0 104 [],
 ln 43 42 104 3 [42],
 b2 44 .lss 3 41 43 3 4 [41,43],
 mv 45 44 4 [44],
 og 46 (.move (.tmp 10)) 3 45 true [],
 og 47 (.binOp .lss 3 (.tmp 46) (.const (.int .i64 14)) 3) 4 45 true [46],
 oq 48 (.pick (.tmp 45) (.tmp 47) (.const (.bool false))) 4 [45,47]])
 (.cond (.tmp 48)
 .skip
 (.exit 2)))
 (.seq
 (.block 3
 (.seq
 (.reg [mv 51 0 104 [],
 mv 52 10 3 [],
 ia 53 104 51 52 [51,52],
 ld 54 179 53 [53],
 oq 11 (.alloc 179) 0 [],
 ⟨none,.store 179 (.tmp 11) (.tmp 54),0,none,[54]⟩])
 (.seq
 (.reg [fa 55 179 11 1 [],
 ld 56 3 55 [55],
 oq 57 (.call ⟨.value (.func 39),#[.tmp 56,.const (.int .i64 3)],#[3,3]⟩) 3 [56],
 sg 12 57 3 [57]])
 (.seq
 (.reg [fa 58 179 11 0 [],
 ld 59 3 58 [58],
 oq 60 (.call ⟨.value (.func 39),#[.tmp 59,.const (.int .i64 8)],#[3,3]⟩) 3 [59]])
 (.block 4
 (.seq
 (.seq
 (.reg [bn 104 .eql 3 60 3 3 4 [],
 sg 103 104 4 [104]])
 (.cond (.tmp 103)
 .skip
 (.reg [bn 105 .eql 3 60 4 3 4 [],
 sg 103 105 4 [105]])))
 (.cond (.tmp 103)
 (.seq
 (.dreg [mv 107 12 3 [],
 ia 108 108 5 107 [],
 ld 109 107 108 [],
 mv 110 12 3 [],
 bn 111 .add 3 110 1 3 3 [],
 fa 112 179 11 2 [],
 ld 113 3 112 [],
 oq 114 (.call ⟨.value (.func 39),#[.tmp 113,.const (.int .i64 2)],#[3,3]⟩) 3 [],
 b2 115 .add 3 111 114 3 3 [],
 bn 116 .rem 3 115 3 3 3 [],
 cf2 117 63 109 116 107 3 117 [],
 mv 106 117 117 [],
 xt 118 106 0 107 [],
 xt 119 106 1 116 [],
 xt 120 106 2 28 [],
 oq 13 (.alloc 107) 0 [],
 oq 14 (.alloc 116) 0 [],
 ⟨none,.store 107 (.tmp 13) (.tmp 118),0,none,[]⟩,
 ⟨none,.store 116 (.tmp 14) (.tmp 119),0,none,[]⟩,
 sg 15 120 28 []] [[],[0],[0,1],[],[3],[],[5],[5,6],[3,4,5,6,7],[3,4,5,6,7,8],[0,1,2,3,4,5,6,7,8,9],[0,1,2,3,4,5,6,7,8,9,10],[0,1,2,3,4,5,6,7,8,9,10,11],[0,1,2,3,4,5,6,7,8,9,10,11],[0,1,2,3,4,5,6,7,8,9,10,11],[],[],[15,0,1,2,3,4,5,6,7,8,9,10,11,12,16],[16,0,1,2,3,4,5,6,7,8,9,10,11,13,15,12,17],[0,1,2,3,4,5,6,7,8,9,10,11,14,16,13,15,12,17,18]] [11,106,107,108,109,110,111,112,113,114,115,116,117,118,119,120])
 (.seq
 (.seq
 (.reg [mv 121 15 28 [15],
 bn 122 .neq 28 121 0 28 4 [121]])
 (.cond (.tmp 122)
 (.seq
 (.reg [ld 123 108 5 [5],
 ⟨none,.store 108 (.tmp 2) (.tmp 123),0,none,[123]⟩,
 oq 3 (.assign (.const (.slice none 0 0))) 109 [],
 sb 4 false 4 []])
 .ret)
 .skip))
 (.seq
 (.reg [mv 124 12 3 [12],
 ld 125 107 13 [13],
 ia 126 108 5 124 [124],
 ⟨none,.store 107 (.tmp 126) (.tmp 125),0,none,[125,126]⟩])
 (.reg [mv 127 9 109 [9],
 ld 128 116 14 [14],
 oq 129 (.buildSlice 109 1 #[(0,.tmp 128)]) 109 [128],
 oq 130 (.call ⟨.builtin .append,#[.tmp 127,.tmp 129],#[109,109]⟩) 109 [127,129],
 sg 9 130 109 [130]]))))
 (.seq
 (.seq
 (.reg [bn 132 .eql 3 60 5 3 4 [],
 sg 131 132 4 [132]])
 (.cond (.tmp 131)
 .skip
 (.reg [bn 133 .eql 3 60 6 3 4 [],
 sg 131 133 4 [133]])))
 (.cond (.tmp 131)
 (.seq
 (.seq
 (.reg [mv 134 9 109 [],
 ln 135 134 109 3 [134],
 bn 136 .eql 3 135 0 3 4 [135]])
 (.cond (.tmp 136)
 (.exit 3)
 .skip))
 (.seq
 (.reg [fa 137 179 11 2 [],
 ld 138 3 137 [137],
 mv 139 9 109 [],
 ln 140 139 109 3 [139],
 cf2 141 39 138 140 3 3 3 [138,140],
 sg 16 141 3 [141]])
 (.seq
 (.reg [mv 142 9 109 [],
 mv 143 16 3 [],
 ia 144 109 142 143 [142,143],
 ld 145 116 144 [144],
 oq 17 (.alloc 116) 0 [],
 ⟨none,.store 116 (.tmp 17) (.tmp 145),0,none,[145]⟩])
 (.seq
 (.seq
 (.reg [fa 146 116 17 1 [],
 ld 147 3 146 [146],
 bn 148 .lss 3 147 0 3 4 [147],
 mv 149 148 4 [148],
 og 150 (.fieldAddr 116 (.tmp 17) 1) 0 149 false [],
 og 151 (.load 3 (.tmp 150)) 3 149 false [150],
 og 152 (.binOp .gtr 3 (.tmp 151) (.const (.int .i64 2)) 3) 4 149 false [151],
 oq 153 (.pick (.tmp 149) (.const (.bool true)) (.tmp 152)) 4 [149,152]])
 (.cond (.tmp 153)
 (.seq
 (.reg [ld 154 108 5 [5],
 ⟨none,.store 108 (.tmp 2) (.tmp 154),0,none,[154]⟩,
 oq 3 (.assign (.const (.slice none 0 0))) 109 [],
 sb 4 false 4 []])
 .ret)
 .skip))
 (.seq
 (.dreg [fa 156 116 17 1 [],
 ld 157 3 156 [],
 ia 158 108 5 157 [],
 ld 159 107 158 [],
 ld 160 116 17 [],
 cf2 161 64 159 160 107 116 119 [],
 mv 155 161 119 [],
 xt 162 155 0 107 [],
 xt 163 155 1 109 [],
 xt 164 155 2 28 [],
 oq 18 (.alloc 107) 0 [],
 ⟨none,.store 107 (.tmp 18) (.tmp 162),0,none,[]⟩,
 sg 19 163 109 [],
 sg 20 164 28 []] [[],[0],[0,1],[0,1,2],[],[0,1,2,3,4],[0,1,2,3,4,5],[0,1,2,3,4,5,6],[0,1,2,3,4,5,6],[0,1,2,3,4,5,6],[],[10,0,1,2,3,4,5,6,7],[0,1,2,3,4,5,6,8,10,7,11],[0,1,2,3,4,5,6,9,8,10,7,11,12]] [155,156,157,158,159,160,161,162,163,164])
 (.seq
 (.seq
 (.reg [mv 165 20 28 [20],
 bn 166 .neq 28 165 0 28 4 [165]])
 (.cond (.tmp 166)
 (.seq
 (.reg [ld 167 108 5 [5],
 ⟨none,.store 108 (.tmp 2) (.tmp 167),0,none,[167]⟩,
 oq 3 (.assign (.const (.slice none 0 0))) 109 [],
 sb 4 false 4 []])
 .ret)
 .skip))
 (.seq
 (.reg [fa 168 116 17 1 [17],
 ld 169 3 168 [168],
 ld 170 107 18 [18],
 ia 171 108 5 169 [169],
 ⟨none,.store 107 (.tmp 171) (.tmp 170),0,none,[170,171]⟩])
 (.seq
 (.seq
 (.reg [fa 172 179 11 1 [11],
 ld 173 3 172 [172],
 bn 174 .rem 3 173 2 3 3 [173],
 bn 175 .eql 3 174 0 3 4 [174]])
 (.cond (.tmp 175)
 (.dreg [oq 176 (.buildSlice 109 0 #[]) 109 [],
 mv 177 9 109 [],
 mv 178 16 3 [],
 oq 179 (.slice 109 (.tmp 177) none (some (.tmp 178)) none) 109 [],
 oq 180 (.call ⟨.builtin .append,#[.tmp 176,.tmp 179],#[109,109]⟩) 109 [],
 mv 181 9 109 [],
 mv 182 16 3 [],
 bn 183 .add 3 182 1 3 3 [],
 oq 184 (.slice 109 (.tmp 181) (some (.tmp 183)) none none) 109 [],
 oq 185 (.call ⟨.builtin .append,#[.tmp 180,.tmp 184],#[109,109]⟩) 109 [],
 sg 9 185 109 []] [[],[],[],[1,2],[0,1,2,3],[],[],[6],[5,6,7],[0,1,2,3,4,5,6,7,8],[0,1,2,3,4,5,6,7,8,9]] [16,176,177,178,179,180,181,182,183,184,185])
 .skip))
 (.reg [mv 186 9 109 [9],
 mv 187 19 109 [19],
 oq 188 (.call ⟨.builtin .append,#[.tmp 186,.tmp 187],#[109,109]⟩) 109 [186,187],
 sg 9 188 109 [188]])))))))))
 (.seq
 (.reg [bn 190 .eql 3 60 7 3 4 [60],
 sg 189 190 4 [190]])
 (.cond (.tmp 189)
 (.seq
 (.dreg [mv 192 12 3 [],
 ia 193 108 5 192 [],
 ld 194 107 193 [],
 fa 195 179 11 4 [],
 ld 196 63 195 [],
 cf2 197 62 194 196 107 63 112 [],
 mv 191 197 112 [],
 xt 198 191 0 107 [],
 xt 199 191 1 28 [],
 oq 21 (.alloc 107) 0 [],
 ⟨none,.store 107 (.tmp 21) (.tmp 198),0,none,[]⟩,
 sg 22 199 28 []] [[],[0],[0,1],[],[3],[0,1,2,3,4],[0,1,2,3,4,5],[0,1,2,3,4,5,6],[0,1,2,3,4,5,6],[],[9,0,1,2,3,4,5,6,7],[0,1,2,3,4,5,6,8,9,7,10]] [11,191,192,193,194,195,196,197,198,199])
 (.seq
 (.seq
 (.reg [mv 200 22 28 [22],
 bn 201 .neq 28 200 0 28 4 [200]])
 (.cond (.tmp 201)
 (.seq
 (.reg [ld 202 108 5 [5],
 ⟨none,.store 108 (.tmp 2) (.tmp 202),0,none,[202]⟩,
 oq 3 (.assign (.const (.slice none 0 0))) 109 [],
 sb 4 false 4 []])
 .ret)
 .skip))
 (.reg [mv 203 12 3 [12],
 ld 204 107 21 [21],
 ia 205 108 5 203 [203],
 ⟨none,.store 107 (.tmp 205) (.tmp 204),0,none,[204,205]⟩])))
 (.seq
 (.dreg [mv 62 12 3 [],
 ia 63 108 5 62 [],
 ld 64 107 63 [],
 fa 65 179 11 3 [],
 oq 66 (.indexAddr 79 (.tmp 65) (.const (.int .i64 1))) 0 [],
 ld 67 3 66 [],
 oq 68 (.call ⟨.value (.func 39),#[.tmp 67,.const (.int .i64 40)],#[3,3]⟩) 3 [],
 oq 69 (.binOp .add 3 (.const (.int .i64 1)) (.tmp 68) 3) 3 [],
 fa 70 179 11 3 [],
 oq 71 (.indexAddr 79 (.tmp 70) (.const (.int .i64 2))) 0 [],
 ld 72 3 71 [],
 oq 73 (.call ⟨.value (.func 39),#[.tmp 72,.const (.int .i64 50)],#[3,3]⟩) 3 [],
 fa 74 179 11 3 [],
 oq 75 (.indexAddr 79 (.tmp 74) (.const (.int .i64 3))) 0 [],
 ld 76 3 75 [],
 oq 77 (.call ⟨.value (.func 39),#[.tmp 76,.const (.int .i64 50)],#[3,3]⟩) 3 [],
 oq 78 (.buildSlice 182 3 #[(0,.const (.string ⟨#[]⟩)),(1,.const (.string ⟨#[115,101,116]⟩)),(2,.const (.string ⟨#[97,32,116,101,120,116,32,116,104,97,116,32,105,115,32,99,117,116,32,105,110,116,111,32,116,104,114,101,101,32,112,97,114,116,115,32,111,102,32,97,32,112,97,103,101,44,32,97,116,32,108,101,97,115,116]⟩))]) 182 [],
 fa 79 179 11 3 [],
 oq 80 (.indexAddr 79 (.tmp 79) (.const (.int .i64 4))) 0 [],
 ld 81 3 80 [],
 oq 82 (.call ⟨.value (.func 39),#[.tmp 81,.const (.int .i64 3)],#[3,3]⟩) 3 [],
 ia 83 182 78 82 [],
 ld 84 9 83 [],
 oq 85 (.build 25 #[(1,.tmp 69),(2,.tmp 73),(3,.tmp 77),(5,.tmp 84)]) 25 [],
 cf2 86 110 64 85 107 25 180 [],
 mv 61 86 180 [],
 xt 87 61 0 107 [],
 xt 88 61 1 25 [],
 xt 89 61 2 28 [],
 oq 23 (.alloc 107) 0 [],
 oq 24 (.alloc 25) 0 [],
 ⟨none,.store 107 (.tmp 23) (.tmp 87),0,none,[]⟩,
 ⟨none,.store 25 (.tmp 24) (.tmp 88),0,none,[]⟩,
 sg 25 89 28 []] [[],[0],[0,1],[],[3],[3,4],[3,4,5],[3,4,5,6],[],[8],[8,9],[8,9,10,3,4,5,6],[],[12],[12,13],[12,13,14,8,9,10,3,4,5,6,11],[],[],[17],[17,18],[17,18,19,12,13,14,8,9,10,3,4,5,6,11,15],[16,17,18,19,12,13,14,8,9,10,3,4,5,6,11,15,20],[16,17,18,19,12,13,14,8,9,10,3,4,5,6,11,15,20,21],[3,4,5,6,7,8,9,10,11,12,13,14,15,16,17,18,19,20,21,22],[0,1,2,3,4,5,6,7,8,9,10,11,12,13,14,15,16,17,18,19,20,21,22,23],[0,1,2,3,4,5,6,7,8,9,10,11,12,13,14,15,16,17,18,19,20,21,22,23,24],[0,1,2,3,4,5,6,7,8,9,10,11,12,13,14,15,16,17,18,19,20,21,22,23,24,25],[0,1,2,3,4,5,6,7,8,9,10,11,12,13,14,15,16,17,18,19,20,21,22,23,24,25],[0,1,2,3,4,5,6,7,8,9,10,11,12,13,14,15,16,17,18,19,20,21,22,23,24,25],[],[],[29,0,1,2,3,4,5,6,7,8,9,10,11,12,13,14,15,16,17,18,19,20,21,22,23,24,25,26,30],[30,0,1,2,3,4,5,6,7,8,9,10,11,12,13,14,15,16,17,18,19,20,21,22,23,24,25,27,29,26,31],[0,1,2,3,4,5,6,7,8,9,10,11,12,13,14,15,16,17,18,19,20,21,22,23,24,25,28,30,27,29,26,31,32]] [11,61,62,63,64,65,66,67,68,69,70,71,72,73,74,75,76,77,78,79,80,81,82,83,84,85,86,87,88,89])
 (.seq
 (.seq
 (.reg [mv 90 25 28 [25],
 bn 91 .neq 28 90 0 28 4 [90],
 mv 92 91 4 [91],
 og 93 (.fieldAddr 25 (.tmp 24) 0) 0 92 false [24],
 og 94 (.fieldAddr 23 (.tmp 93) 0) 0 92 false [93],
 og 95 (.load 3 (.tmp 94)) 3 92 false [94],
 og 96 (.move (.tmp 12)) 3 92 false [],
 og 97 (.binOp .neq 3 (.tmp 95) (.tmp 96) 3) 4 92 false [95,96],
 oq 98 (.pick (.tmp 92) (.const (.bool true)) (.tmp 97)) 4 [92,97]])
 (.cond (.tmp 98)
 (.seq
 (.reg [ld 99 108 5 [5],
 ⟨none,.store 108 (.tmp 2) (.tmp 99),0,none,[99]⟩,
 oq 3 (.assign (.const (.slice none 0 0))) 109 [],
 sb 4 false 4 []])
 .ret)
 .skip))
 (.reg [mv 100 12 3 [12],
 ld 101 107 23 [23],
 ia 102 108 5 100 [100],
 ⟨none,.store 107 (.tmp 102) (.tmp 101),0,none,[101,102]⟩]))))))))))))))
 (.reg [mv 49 10 3 [10],
 bn 50 .add 3 49 1 3 3 [49],
 sg 10 50 3 [50]])))
def F61.s0:SC:=
 (.seq
 (.seq
 (.reg [mv 26 6 3 [],
 bn 27 .lss 3 26 3 3 4 [26]])
 (.cond (.tmp 27)
 .skip
 (.exit 0)))
 (.seq
 (.block 1
 (.seq
 (.reg [mv 31 6 3 [],
 cf1 32 109 31 3 112 [31],
 mv 30 32 112 [32],
 xt 33 30 0 107 [],
 xt 34 30 1 28 [30],
 oq 7 (.alloc 107) 0 [],
 ⟨none,.store 107 (.tmp 7) (.tmp 33),0,none,[33]⟩,
 sg 8 34 28 [34]])
 (.seq
 (.seq
 (.reg [mv 35 8 28 [8],
 bn 36 .neq 28 35 0 28 4 [35]])
 (.cond (.tmp 36)
 (.seq
 (.reg [ld 37 108 5 [5],
 ⟨none,.store 108 (.tmp 2) (.tmp 37),0,none,[37]⟩,
 oq 3 (.assign (.const (.slice none 0 0))) 109 [],
 sb 4 false 4 []])
 .ret)
 .skip))
 (.reg [mv 38 6 3 [],
 ld 39 107 7 [7],
 ia 40 108 5 38 [38],
 ⟨none,.store 107 (.tmp 40) (.tmp 39),0,none,[39,40]⟩]))))
 (.reg [mv 28 6 3 [6],
 bn 29 .add 3 28 1 3 3 [28],
 sg 6 29 3 [29]])))
def F61.c:SC:=
 (.seq
 (.reg [oq 2 (.alloc 108) 0 [],
 oq 3 (.assign (.const (.slice none 0 0))) 109 [3],
 sb 4 false 4 [4]])
 (.seq
 (.reg [oq 5 (.alloc 108) 0 []])
 (.seq
 (.seq
 (.reg [sn 6 0 3 []])
 (.block 0
 (.loop F61.s0)))
 (.seq
 (.reg [oq 9 (.assign (.const (.slice none 0 0))) 109 []])
 (.seq
 (.seq
 (.reg [sn 10 0 3 []])
 (.block 2
 (.loop F61.s1)))
 (.seq
 (.reg [ld 206 108 5 [5],
 mv 207 9 109 [9],
 ⟨none,.store 108 (.tmp 2) (.tmp 206),0,none,[206]⟩,
 sg 3 207 109 [207],
 sb 4 true 4 []])
 .ret))))))
theorem F61.rs:Try.f61.results.toList=[.cell 2 108,.tmp 3,.tmp 4]:=rfl
def Zaq.b0 (k:Nat):((Vec 3 House)×Int)→Option (Stp ((Vec 3 House)×Int) ((Vec 3 House)) ((Vec 3 House)×(List Slip)×Bool)):=fun(s:(Vec 3 House)×Int)=>match s with
 |(s1,i2)=>
   bif decide (i2<(3:Int)) then
    (ZcN k i2).bind fun x5=>
    bif (!decide (x5.2=(0:Int))) then
     some (.ret (s1,[],false))
    else
     (s1.at? i2).bind fun x7=>
     some (.next (s1.set i2 x5.1,w64 (i2+1)))
   else
    some (.brk s1)
def Zaq.b1 (k:Nat) (l0:(List R09_Act)):((Vec 3 House)×Int×(List Slip))→Option (Stp ((Vec 3 House)×Int×(List Slip)) ((Vec 3 House)×(List Slip)) ((Vec 3 House)×(List Slip)×Bool)):=fun(s:(Vec 3 House)×Int×(List Slip))=>match s with
 |(s10,i11,l12)=>
   bif decide (i11<(l0.length:Int)) then
    bif decide (i11<(14:Int)) then
     (at? l0 i11).bind fun x17=>
     (Zc1 k x17.House 3).bind fun x18=>
     (Zc1 k x17.Kind 8).bind fun x19=>
     bif decide (x19=(3:Int)) then
      (s10.at? x18).bind fun x21=>
      (Zc1 k x17.To 2).bind fun x22=>
      (Za7 k x21 (Int.tmod (w64 ((w64 (x18+1))+x22)) 3)).bind fun x23=>
      bif (!decide (x23.2.2=(0:Int))) then
       some (.ret (s10,[],false))
      else
       (ZeY 88 l12 x23.2.1).bind fun l26=>
       some (.next (s10.set x18 x23.1,w64 (i11+1),l26))
     else
      bif decide (x19=(4:Int)) then
       (s10.at? x18).bind fun x28=>
       (Zc1 k x17.To 2).bind fun x29=>
       (Za7 k x28 (Int.tmod (w64 ((w64 (x18+1))+x29)) 3)).bind fun x30=>
       bif (!decide (x30.2.2=(0:Int))) then
        some (.ret (s10,[],false))
       else
        (ZeY 88 l12 x30.2.1).bind fun l33=>
        some (.next (s10.set x18 x30.1,w64 (i11+1),l33))
      else
       bif decide (x19=(5:Int)) then
        bif decide (((l12.length:Nat):Int)=(0:Int)) then
         some (.next (s10,w64 (i11+1),l12))
        else
         (Zc1 k x17.To ((l12.length:Nat):Int)).bind fun x36=>
         (at? l12 x36).bind fun x37=>
         bif (!decide (x37.To<(0:Int))) then
          bif decide ((2:Int)<x37.To) then
           some (.ret (s10,[],false))
          else
           (s10.at? x37.To).bind fun x40=>
           (Zao k x40 x37).bind fun x41=>
           bif (!decide (x41.2.2=(0:Int))) then
            some (.ret (s10,[],false))
           else
            bif decide (Int.tmod x17.House 2=(0:Int)) then
             (hs? l12.length x36).bind fun _=>
             (ZhQ x36.toNat 88).bind fun _=>
             (ls? l12.length (w64 (x36+1))).bind fun _=>
             (Zjd 88 (l12.take x36.toNat) ((l12.drop ((w64 (x36+1)).toNat)).take (l12.length - (w64 (x36+1)).toNat))).bind fun l50=>
             (Zjd 88 l50 x41.2.1).bind fun l51=>
             some (.next (s10.set x37.To x41.1,w64 (i11+1),l51))
            else
             (Zjd 88 l12 x41.2.1).bind fun l52=>
             some (.next (s10.set x37.To x41.1,w64 (i11+1),l52))
         else
          some (.ret (s10,[],false))
       else
        bif decide (x19=(6:Int)) then
         bif decide (((l12.length:Nat):Int)=(0:Int)) then
          some (.next (s10,w64 (i11+1),l12))
         else
          (Zc1 k x17.To ((l12.length:Nat):Int)).bind fun x55=>
          (at? l12 x55).bind fun x56=>
          bif (!decide (x56.To<(0:Int))) then
           bif decide ((2:Int)<x56.To) then
            some (.ret (s10,[],false))
           else
            (s10.at? x56.To).bind fun x59=>
            (Zao k x59 x56).bind fun x60=>
            bif (!decide (x60.2.2=(0:Int))) then
             some (.ret (s10,[],false))
            else
             bif decide (Int.tmod x17.House 2=(0:Int)) then
              (hs? l12.length x55).bind fun _=>
              (ZhQ x55.toNat 88).bind fun _=>
              (ls? l12.length (w64 (x55+1))).bind fun _=>
              (Zjd 88 (l12.take x55.toNat) ((l12.drop ((w64 (x55+1)).toNat)).take (l12.length - (w64 (x55+1)).toNat))).bind fun l69=>
              (Zjd 88 l69 x60.2.1).bind fun l70=>
              some (.next (s10.set x56.To x60.1,w64 (i11+1),l70))
             else
              (Zjd 88 l12 x60.2.1).bind fun l71=>
              some (.next (s10.set x56.To x60.1,w64 (i11+1),l71))
          else
           some (.ret (s10,[],false))
        else
         bif decide (x19=(7:Int)) then
          (s10.at? x18).bind fun x73=>
          (ZbN k x73 x17.Picks).bind fun x74=>
          bif (!decide (x74.2=(0:Int))) then
           some (.ret (s10,[],false))
          else
           some (.next (s10.set x18 x74.1,w64 (i11+1),l12))
         else
          (s10.at? x18).bind fun x77=>
          (x17.Record.at? 1).bind fun x78=>
          (Zc1 k x78 40).bind fun x79=>
          (x17.Record.at? 2).bind fun x80=>
          (Zc1 k x80 50).bind fun x81=>
          (x17.Record.at? 3).bind fun x82=>
          (Zc1 k x82 50).bind fun x83=>
          (x17.Record.at? 4).bind fun x84=>
          (Zc1 k x84 3).bind fun x85=>
          (at? [ByteArray.empty,(⟨#[115,101,116]⟩:ByteArray),(⟨#[97,32,116,101,120,116,32,116,104,97,116,32,105,115,32,99,117,116,32,105,110,116,111,32,116,104,114,101,101,32,112,97,114,116,115,32,111,102,32,97,32,112,97,103,101,44,32,97,116,32,108,101,97,115,116]⟩:ByteArray)] x85).bind fun x86=>
          (Zd5 k x77 (⟨(⟨0,0⟩:Entry),w64 (1+x79),x81,x83,(⟨0,0⟩:Entry),x86⟩:Record)).bind fun x87=>
          bif decide (x87.2.2=(0:Int)) then
           bif (!decide (x87.2.1.At.House=x18)) then
            some (.ret (s10,[],false))
           else
            some (.next (s10.set x18 x87.1,w64 (i11+1),l12))
          else
           some (.ret (s10,[],false))
    else
     some (.brk (s10,l12))
   else
    some (.brk (s10,l12))
noncomputable def Zaq.h0 (l0:(List R09_Act)):((Vec 3 House)×Int)→St:=fun(s:(Vec 3 House)×Int)=>match s with
 |(s1,i2)=>⟨[(0,.sl 9 (List.map R09_Act.c l0)),(2,.ptr 0 0 0),(5,.ptr 0 1 0),(6,.int .i64 i2)],[(0,.box (Vec.c (n:=3) House.c (Vec.rep 3 ((⟨0,(⟨[],[]⟩:Disk),(⟨(⟨[]⟩:Book),0,0,0⟩:Ledger),(Vec.rep 6 ((Vec.rep 6 (0:Int)):(Vec 6 Int)))⟩:House):House)))),(1,.box (Vec.c (n:=3) House.c s1))],[],2,Try.f61.ntmps⟩
noncomputable def Zaq.x0 (l0:(List R09_Act)):(Vec 3 House)→St:=fun(s3:(Vec 3 House))=>⟨[(0,.sl 9 (List.map R09_Act.c l0)),(2,.ptr 0 0 0),(5,.ptr 0 1 0)],[(0,.box (Vec.c (n:=3) House.c (Vec.rep 3 ((⟨0,(⟨[],[]⟩:Disk),(⟨(⟨[]⟩:Book),0,0,0⟩:Ledger),(Vec.rep 6 ((Vec.rep 6 (0:Int)):(Vec 6 Int)))⟩:House):House)))),(1,.box (Vec.c (n:=3) House.c s3))],[],2,Try.f61.ntmps⟩
noncomputable def Zaq.h1 (l0:(List R09_Act)):((Vec 3 House)×Int×(List Slip))→St:=fun(s:(Vec 3 House)×Int×(List Slip))=>match s with
 |(s10,i11,l12)=>⟨[(0,.sl 9 (List.map R09_Act.c l0)),(2,.ptr 0 0 0),(5,.ptr 0 1 0),(9,.loc 0 2 9 0 l12.length l12.length),(10,.int .i64 i11)],[(0,.box (Vec.c (n:=3) House.c (Vec.rep 3 ((⟨0,(⟨[],[]⟩:Disk),(⟨(⟨[]⟩:Book),0,0,0⟩:Ledger),(Vec.rep 6 ((Vec.rep 6 (0:Int)):(Vec 6 Int)))⟩:House):House)))),(1,.box (Vec.c (n:=3) House.c s10)),(2,.arr 116 9 (List.map Slip.c l12))],[],3,Try.f61.ntmps⟩
noncomputable def Zaq.x1:((Vec 3 House)×(List Slip))→St:=fun(s:(Vec 3 House)×(List Slip))=>match s with
 |(s13,l14)=>⟨[(2,.ptr 0 0 0),(5,.ptr 0 1 0),(9,.loc 0 2 9 0 l14.length l14.length)],[(0,.box (Vec.c (n:=3) House.c (Vec.rep 3 ((⟨0,(⟨[],[]⟩:Disk),(⟨(⟨[]⟩:Book),0,0,0⟩:Ledger),(Vec.rep 6 ((Vec.rep 6 (0:Int)):(Vec 6 Int)))⟩:House):House)))),(1,.box (Vec.c (n:=3) House.c s13)),(2,.arr 116 9 (List.map Slip.c l14))],[],3,Try.f61.ntmps⟩
def Zaq (k:Nat) (l0:(List R09_Act)):Option ((Vec 3 House)×(List Slip)×Bool):=
 (whl (Zaq.b0 k) k ((Vec.rep 3 ((⟨0,(⟨[],[]⟩:Disk),(⟨(⟨[]⟩:Book),0,0,0⟩:Ledger),(Vec.rep 6 ((Vec.rep 6 (0:Int)):(Vec 6 Int)))⟩:House):House)),0)).bind fun r9=>match r9 with
 |.next _=>none
 |.ret v_=>some v_
 |.brk s3=>
  (whl (Zaq.b1 k l0) k (s3,0,[])).bind fun r91=>match r91 with
  |.next _=>none
  |.ret v_=>some v_
  |.brk (s13,l14)=>
   some (s13,l14,true)
theorem Zkb (k:Nat) (l0:(List R09_Act)) (r:(Vec 3 House)×(List Slip)×Bool) (h0:Zaq k l0=some r):Za6 Try.prog 61 [.sl 9 (List.map R09_Act.c l0)] (fun y=>y=.tup [.agg ((Vec.c (n:=3) House.c) r.1),.sl 9 (List.map Slip.c r.2.1),.bool r.2.2]):=by
 refine PB (fn:=Try.f61) (sc:=F61.c) ?_
 refine rS ?_
 simp only[Zaq]at h0
 try simp only[F61.c,go_sem]
 obtain⟨r9,yr9,h0⟩:=bs h0
 refine Zaz yr9 (Zaq.h0 l0) (Zaq.x0 l0) ?_ ?_ ?_
 refine ZaE.go [0,2,5,6] [0,48] rfl ?_
 try simp only[Zaq.h0,go_sem]
 rintro⟨s1,i2⟩ x_1 Bk1 Br1 h1 hnext1 hbrk1 hret1
 refine rS ?_
 simp only[Zaq.b0]at h1
 try simp only[F61.s0,Zaq.h0,go_sem]
 refine Zab h1 ?_ ?_<;>intro c4 h1
 try simp only[c4,go_sem]
 obtain⟨x5,yx5,h1⟩:=bs h1
 refine zc0 (ZhO k _ _ yx5) ?_ (by first|rfl|(simp[AV.refsL,AV.refs,AV.scal,AV.leaf];done)|simp[AV.refsL,AV.refs,AV.scal,AV.leaf,go_sem]) ?_
 try simp only[c4,go_sem]
 try simp only[c4,go_sem]
 refine Zab h1 ?_ ?_<;>intro c6 h1
 have c6:=ZaB c6
 try simp only[c6,c4,go_sem]
 obtain rfl:=hret1 _ (oi h1).symm
 simp only at h0
 obtain rfl:=oi h0
 refine Zac rfl ?_
 try simp only[F61.rs,c4,c6,go_sem]
 have c6:=ZaA c6
 try simp only[c6,c4,go_sem]
 obtain⟨x7,yx7,h1⟩:=bs h1
 have uyx7:=UpdE.at (fun q_=>(Za0.len q_:(House.c q_).length=43)) (UpdE.self (fun q_=>((VK.vec Za0 3).len q_:(Vec.c (n:=3) House.c q_).length=129)) s1) yx7
 have buyx7:=uyx7.bound (fun q_=>(Za0.len q_:(House.c q_).length=43))
 have guyx7:=uyx7.get (fun q_=>(Za0.len q_:(House.c q_).length=43))
 try simp only[List.length_cons,List.length_nil,go_sem]at buyx7 guyx7
 have q8:=uyx7.ow x5.1
 try simp only[List.length_cons,List.length_nil,go_sem]at q8
 try simp only[Zaa yx7,buyx7,guyx7,q8,c4,c6,go_sem]
 refine Zaf (hnext1 _ _ (oi h1).symm ?_)
 refine ZaE.go [0,2,5,6] [0,1] rfl ?_
 try simp only[Zaq.h0,c4,c6,Zaa yx7,buyx7,guyx7,go_sem]
 try simp only[c4,go_sem]
 refine Zaf (hbrk1 _ _ (oi h1).symm ?_)
 refine ZaE.go [0,2,5] [0,1] rfl ?_
 try simp only[Zaq.x0,c4,go_sem]
 rintro s3 hr_
 subst hr_
 simp only at h0
 refine rS ?_
 try simp only[Zaq.x0,go_sem]
 obtain⟨r91,yr91,h0⟩:=bs h0
 refine Zaz yr91 (Zaq.h1 l0) (Zaq.x1) ?_ ?_ ?_
 refine ZaE.go [0,2,5,9,10] [0,1,2] rfl ?_
 try simp only[Zaq.h1,go_sem]
 rintro⟨s10,i11,l12⟩ x_1 Bk1 Br1 h1 hnext1 hbrk1 hret1
 refine rS ?_
 simp only[Zaq.b1]at h1
 try simp only[F61.s1,Zaq.h1,go_sem]
 refine Zab h1 ?_ ?_<;>intro c15 h1
 try simp only[c15,go_sem]
 refine Zab h1 ?_ ?_<;>intro c16 h1
 try simp only[c16,c15,go_sem]
 obtain⟨x17,yx17,h1⟩:=bs h1
 try simp only[aa yx17,c15,c16,go_sem]
 obtain⟨x18,yx18,h1⟩:=bs h1
 refine zc0 (ZbU k _ _ _ yx18) ?_ (by first|rfl|(simp[AV.refsL,AV.refs,AV.scal,AV.leaf];done)|simp[AV.refsL,AV.refs,AV.scal,AV.leaf,go_sem]) ?_
 try simp only[c15,c16,aa yx17,go_sem]
 try simp only[c15,c16,aa yx17,go_sem]
 obtain⟨x19,yx19,h1⟩:=bs h1
 refine zc0 (ZbU k _ _ _ yx19) ?_ (by first|rfl|(simp[AV.refsL,AV.refs,AV.scal,AV.leaf];done)|simp[AV.refsL,AV.refs,AV.scal,AV.leaf,go_sem]) ?_
 try simp only[c15,c16,aa yx17,go_sem]
 try simp only[c15,c16,aa yx17,go_sem]
 refine Zab h1 ?_ ?_<;>intro c20 h1
 try simp only[c20,c15,c16,aa yx17,go_sem]
 refine Zas Za9 Zat 1000 ?_
 try simp only[c15,c16,aa yx17,c20,go_sem]
 obtain⟨x21,yx21,h1⟩:=bs h1
 have uyx21:=UpdE.at (fun q_=>(Za0.len q_:(House.c q_).length=43)) (UpdE.self (fun q_=>((VK.vec Za0 3).len q_:(Vec.c (n:=3) House.c q_).length=129)) s10) yx21
 have buyx21:=uyx21.bound (fun q_=>(Za0.len q_:(House.c q_).length=43))
 have guyx21:=uyx21.get (fun q_=>(Za0.len q_:(House.c q_).length=43))
 try simp only[List.length_cons,List.length_nil,go_sem]at buyx21 guyx21
 try simp only[Zaa yx21,buyx21,guyx21,c15,c16,aa yx17,c20,go_sem]
 obtain⟨x22,yx22,h1⟩:=bs h1
 refine ZaC 1000 (ZbU k _ _ _ yx22) ?_ (by first|rfl|(simp[AV.refsL,AV.refs,AV.scal,AV.leaf];done)|simp[AV.refsL,AV.refs,AV.scal,AV.leaf,go_sem]) ?_
 try simp only[c15,c16,aa yx17,c20,Zaa yx21,buyx21,guyx21,go_sem]
 try simp only[c15,c16,aa yx17,c20,Zaa yx21,buyx21,guyx21,go_sem]
 obtain⟨x23,yx23,h1⟩:=bs h1
 refine ZaC 1000 (ZgD k _ _ _ yx23) ?_ (by first|rfl|(simp[AV.refsL,AV.refs,AV.scal,AV.leaf];done)|simp[AV.refsL,AV.refs,AV.scal,AV.leaf,go_sem]) ?_
 try simp only[c15,c16,aa yx17,c20,Zaa yx21,buyx21,guyx21,go_sem]
 try simp only[c15,c16,aa yx17,c20,Zaa yx21,buyx21,guyx21,go_sem]
 refine Za4 ⟨Za3 (by simp only[ZcE,List.reverse_cons,List.reverse_nil,List.nil_append,List.cons_append,List.map_cons,List.map_nil,List.append_nil];rfl) (by first|decide +kernel|rfl),Zae Za9 1000 _ _ ?_⟩
 try simp only[c15,c16,aa yx17,c20,Zaa yx21,buyx21,guyx21,go_sem]
 refine Zab h1 ?_ ?_<;>intro c24 h1
 have c24:=ZaB c24
 try simp only[c24,c15,c16,aa yx17,c20,Zaa yx21,buyx21,guyx21,go_sem]
 obtain rfl:=hret1 _ (oi h1).symm
 simp only at h0
 obtain rfl:=oi h0
 refine Zac rfl ?_
 try simp only[F61.rs,c15,c16,aa yx17,c20,Zaa yx21,buyx21,guyx21,c24,go_sem]
 have c24:=ZaA c24
 have q25:=uyx21.ow x23.1
 try simp only[List.length_cons,List.length_nil,go_sem]at q25
 try simp only[c24,Zaa yx21,buyx21,guyx21,q25,c15,c16,aa yx17,c20,go_sem]
 obtain⟨l26,yl26,h1⟩:=bs h1
 have eyl26:=ZeB Slip.c yl26
 have tyl26:=ZdF Slip.c yl26
 have nyl26:=ZdS yl26
 have myl26:=Zd6 yl26
 try simp only[c15,c16,aa yx17,c20,Zaa yx21,buyx21,guyx21,c24,go_sem]at eyl26 tyl26 nyl26 myl26
 try simp only[myl26,eyl26,c15,c16,aa yx17,c20,Zaa yx21,buyx21,guyx21,c24,nyl26,tyl26,go_sem]
 refine Zaf (hnext1 _ _ (oi h1).symm ?_)
 refine ZaE.go [0,2,5,9,10] [0,1,2] rfl ?_
 try simp only[Zaq.h1,c15,c16,aa yx17,c20,Zaa yx21,buyx21,guyx21,c24,eyl26,nyl26,tyl26,go_sem]
 try simp only[c20,c15,c16,aa yx17,go_sem]
 refine Zab h1 ?_ ?_<;>intro c27 h1
 try simp only[c27,c15,c16,aa yx17,c20,go_sem]
 refine Zas Za9 Zat 1000 ?_
 try simp only[c15,c16,aa yx17,c20,c27,go_sem]
 obtain⟨x28,yx28,h1⟩:=bs h1
 have uyx28:=UpdE.at (fun q_=>(Za0.len q_:(House.c q_).length=43)) (UpdE.self (fun q_=>((VK.vec Za0 3).len q_:(Vec.c (n:=3) House.c q_).length=129)) s10) yx28
 have buyx28:=uyx28.bound (fun q_=>(Za0.len q_:(House.c q_).length=43))
 have guyx28:=uyx28.get (fun q_=>(Za0.len q_:(House.c q_).length=43))
 try simp only[List.length_cons,List.length_nil,go_sem]at buyx28 guyx28
 try simp only[Zaa yx28,buyx28,guyx28,c15,c16,aa yx17,c20,c27,go_sem]
 obtain⟨x29,yx29,h1⟩:=bs h1
 refine ZaC 1000 (ZbU k _ _ _ yx29) ?_ (by first|rfl|(simp[AV.refsL,AV.refs,AV.scal,AV.leaf];done)|simp[AV.refsL,AV.refs,AV.scal,AV.leaf,go_sem]) ?_
 try simp only[c15,c16,aa yx17,c20,c27,Zaa yx28,buyx28,guyx28,go_sem]
 try simp only[c15,c16,aa yx17,c20,c27,Zaa yx28,buyx28,guyx28,go_sem]
 obtain⟨x30,yx30,h1⟩:=bs h1
 refine ZaC 1000 (ZgD k _ _ _ yx30) ?_ (by first|rfl|(simp[AV.refsL,AV.refs,AV.scal,AV.leaf];done)|simp[AV.refsL,AV.refs,AV.scal,AV.leaf,go_sem]) ?_
 try simp only[c15,c16,aa yx17,c20,c27,Zaa yx28,buyx28,guyx28,go_sem]
 try simp only[c15,c16,aa yx17,c20,c27,Zaa yx28,buyx28,guyx28,go_sem]
 refine Za4 ⟨Za3 (by simp only[ZcE,List.reverse_cons,List.reverse_nil,List.nil_append,List.cons_append,List.map_cons,List.map_nil,List.append_nil];rfl) (by first|decide +kernel|rfl),Zae Za9 1000 _ _ ?_⟩
 try simp only[c15,c16,aa yx17,c20,c27,Zaa yx28,buyx28,guyx28,go_sem]
 refine Zab h1 ?_ ?_<;>intro c31 h1
 have c31:=ZaB c31
 try simp only[c31,c15,c16,aa yx17,c20,c27,Zaa yx28,buyx28,guyx28,go_sem]
 obtain rfl:=hret1 _ (oi h1).symm
 simp only at h0
 obtain rfl:=oi h0
 refine Zac rfl ?_
 try simp only[F61.rs,c15,c16,aa yx17,c20,c27,Zaa yx28,buyx28,guyx28,c31,go_sem]
 have c31:=ZaA c31
 have q32:=uyx28.ow x30.1
 try simp only[List.length_cons,List.length_nil,go_sem]at q32
 try simp only[c31,Zaa yx28,buyx28,guyx28,q32,c15,c16,aa yx17,c20,c27,go_sem]
 obtain⟨l33,yl33,h1⟩:=bs h1
 have eyl33:=ZeB Slip.c yl33
 have tyl33:=ZdF Slip.c yl33
 have nyl33:=ZdS yl33
 have myl33:=Zd6 yl33
 try simp only[c15,c16,aa yx17,c20,c27,Zaa yx28,buyx28,guyx28,c31,go_sem]at eyl33 tyl33 nyl33 myl33
 try simp only[myl33,eyl33,c15,c16,aa yx17,c20,c27,Zaa yx28,buyx28,guyx28,c31,nyl33,tyl33,go_sem]
 refine Zaf (hnext1 _ _ (oi h1).symm ?_)
 refine ZaE.go [0,2,5,9,10] [0,1,2] rfl ?_
 try simp only[Zaq.h1,c15,c16,aa yx17,c20,c27,Zaa yx28,buyx28,guyx28,c31,eyl33,nyl33,tyl33,go_sem]
 try simp only[c27,c15,c16,aa yx17,c20,go_sem]
 refine Zab h1 ?_ ?_<;>intro c34 h1
 try simp only[c34,c15,c16,aa yx17,c20,c27,go_sem]
 refine Zab h1 ?_ ?_<;>intro c35 h1
 try simp only[c35,c15,c16,aa yx17,c20,c27,c34,go_sem]
 refine Zaf (hnext1 _ _ (oi h1).symm ?_)
 refine ZaE.go [0,2,5,9,10] [0,1,2] rfl ?_
 try simp only[Zaq.h1,c15,c16,aa yx17,c20,c27,c34,c35,go_sem]
 try simp only[c35,c15,c16,aa yx17,c20,c27,c34,go_sem]
 obtain⟨x36,yx36,h1⟩:=bs h1
 refine zc0 (ZbU k _ _ _ yx36) ?_ (by first|rfl|(simp[AV.refsL,AV.refs,AV.scal,AV.leaf];done)|simp[AV.refsL,AV.refs,AV.scal,AV.leaf,go_sem]) ?_
 try simp only[c15,c16,aa yx17,c20,c27,c34,c35,go_sem]
 try simp only[c15,c16,aa yx17,c20,c27,c34,c35,go_sem]
 obtain⟨x37,yx37,h1⟩:=bs h1
 try simp only[aa yx37,c15,c16,aa yx17,c20,c27,c34,c35,go_sem]
 refine Zab h1 ?_ ?_<;>intro c38 h1
 have c38:=ZaB c38
 try simp only[c38,c15,c16,aa yx17,c20,c27,c34,c35,aa yx37,go_sem]
 refine Zab h1 ?_ ?_<;>intro c39 h1
 try simp only[c39,c15,c16,aa yx17,c20,c27,c34,c35,aa yx37,c38,go_sem]
 obtain rfl:=hret1 _ (oi h1).symm
 simp only at h0
 obtain rfl:=oi h0
 refine Zac rfl ?_
 try simp only[F61.rs,c15,c16,aa yx17,c20,c27,c34,c35,aa yx37,c38,c39,go_sem]
 try simp only[c39,c15,c16,aa yx17,c20,c27,c34,c35,aa yx37,c38,go_sem]
 refine Zas Za9 Zat 1000 ?_
 try simp only[c15,c16,aa yx17,c20,c27,c34,c35,aa yx37,c38,c39,go_sem]
 obtain⟨x40,yx40,h1⟩:=bs h1
 have uyx40:=UpdE.at (fun q_=>(Za0.len q_:(House.c q_).length=43)) (UpdE.self (fun q_=>((VK.vec Za0 3).len q_:(Vec.c (n:=3) House.c q_).length=129)) s10) yx40
 have buyx40:=uyx40.bound (fun q_=>(Za0.len q_:(House.c q_).length=43))
 have guyx40:=uyx40.get (fun q_=>(Za0.len q_:(House.c q_).length=43))
 try simp only[List.length_cons,List.length_nil,go_sem]at buyx40 guyx40
 try simp only[Zaa yx40,buyx40,guyx40,c15,c16,aa yx17,c20,c27,c34,c35,aa yx37,c38,c39,go_sem]
 obtain⟨x41,yx41,h1⟩:=bs h1
 refine ZaC 1000 (Zfo k _ _ _ yx41) ?_ (by first|rfl|(simp[AV.refsL,AV.refs,AV.scal,AV.leaf];done)|simp[AV.refsL,AV.refs,AV.scal,AV.leaf,go_sem]) ?_
 try simp only[c15,c16,aa yx17,c20,c27,c34,c35,aa yx37,c38,c39,Zaa yx40,buyx40,guyx40,go_sem]
 try simp only[c15,c16,aa yx17,c20,c27,c34,c35,aa yx37,c38,c39,Zaa yx40,buyx40,guyx40,go_sem]
 refine Za4 ⟨Za3 (by simp only[ZcE,List.reverse_cons,List.reverse_nil,List.nil_append,List.cons_append,List.map_cons,List.map_nil,List.append_nil];rfl) (by first|decide +kernel|rfl),Zae Za9 1000 _ _ ?_⟩
 try simp only[c15,c16,aa yx17,c20,c27,c34,c35,aa yx37,c38,c39,Zaa yx40,buyx40,guyx40,go_sem]
 refine Zab h1 ?_ ?_<;>intro c42 h1
 have c42:=ZaB c42
 try simp only[c42,c15,c16,aa yx17,c20,c27,c34,c35,aa yx37,c38,c39,Zaa yx40,buyx40,guyx40,go_sem]
 obtain rfl:=hret1 _ (oi h1).symm
 simp only at h0
 obtain rfl:=oi h0
 refine Zac rfl ?_
 try simp only[F61.rs,c15,c16,aa yx17,c20,c27,c34,c35,aa yx37,c38,c39,Zaa yx40,buyx40,guyx40,c42,go_sem]
 have c42:=ZaA c42
 have q43:=uyx40.ow x41.1
 try simp only[List.length_cons,List.length_nil,go_sem]at q43
 try simp only[c42,Zaa yx40,buyx40,guyx40,q43,c15,c16,aa yx17,c20,c27,c34,c35,aa yx37,c38,c39,go_sem]
 refine Zab h1 ?_ ?_<;>intro c44 h1
 try simp only[c44,c15,c16,aa yx17,c20,c27,c34,c35,aa yx37,c38,c39,Zaa yx40,buyx40,guyx40,c42,go_sem]
 refine Zas Za9 Zat 1000 ?_
 try simp only[c15,c16,aa yx17,c20,c27,c34,c35,aa yx37,c38,c39,Zaa yx40,buyx40,guyx40,c42,c44,go_sem]
 obtain⟨u45,yu45,h1⟩:=bs h1
 have lyu45:=Zui yu45
 try simp only[Zl4 yu45,lyu45,c15,c16,aa yx17,c20,c27,c34,c35,aa yx37,c38,c39,Zaa yx40,buyx40,guyx40,c42,c44,go_sem]
 obtain⟨u47,yu47,h1⟩:=bs h1
 have kq46:(l12.take x36.toNat).length=x36.toNat:=by simp only[List.length_take,List.length_drop]<;>omega
 try simp only[ZfC yu47,Zbp Slip.c l12 x36.toNat,kq46,c15,c16,aa yx17,c20,c27,c34,c35,aa yx37,c38,c39,Zaa yx40,buyx40,guyx40,c42,c44,lyu45,go_sem]
 obtain⟨u48,yu48,h1⟩:=bs h1
 have lyu48:=Ztq yu48
 try simp only[Zin yu48,lyu48,c15,c16,aa yx17,c20,c27,c34,c35,aa yx37,c38,c39,Zaa yx40,buyx40,guyx40,c42,c44,lyu45,Zbp Slip.c l12 x36.toNat,kq46,go_sem]
 obtain⟨l50,yl50,h1⟩:=bs h1
 have kq49:((l12.drop ((w64 (x36+1)).toNat)).take (l12.length - (w64 (x36+1)).toNat)).length=l12.length - (w64 (x36+1)).toNat:=by simp only[List.length_take,List.length_drop]<;>omega
 have eyl50:=Zfp Slip.c yl50
 have tyl50:=ZdM Slip.c yl50
 have nyl50:=ZeF yl50
 have myl50:=ZdV yl50
 try simp only[c15,c16,aa yx17,c20,c27,c34,c35,aa yx37,c38,c39,Zaa yx40,buyx40,guyx40,c42,c44,lyu45,Zbp Slip.c l12 x36.toNat,kq46,lyu48,Zgi Slip.c l12 ((w64 (x36+1)).toNat) (l12.length - (w64 (x36+1)).toNat),kq49,go_sem]at eyl50 tyl50 nyl50 myl50
 try simp only[myl50,eyl50,Zgi Slip.c l12 ((w64 (x36+1)).toNat) (l12.length - (w64 (x36+1)).toNat),kq49,c15,c16,aa yx17,c20,c27,c34,c35,aa yx37,c38,c39,Zaa yx40,buyx40,guyx40,c42,c44,lyu45,Zbp Slip.c l12 x36.toNat,kq46,lyu48,nyl50,tyl50,go_sem]
 refine Za4 ⟨Za3 (by simp only[ZcE,List.reverse_cons,List.reverse_nil,List.nil_append,List.cons_append,List.map_cons,List.map_nil,List.append_nil];rfl) (by first|decide +kernel|rfl),Zae Za9 1000 _ _ ?_⟩
 try simp only[c15,c16,aa yx17,c20,c27,c34,c35,aa yx37,c38,c39,Zaa yx40,buyx40,guyx40,c42,c44,lyu45,Zbp Slip.c l12 x36.toNat,kq46,lyu48,eyl50,nyl50,tyl50,go_sem]
 obtain⟨l51,yl51,h1⟩:=bs h1
 have eyl51:=Zfp Slip.c yl51
 have tyl51:=ZdM Slip.c yl51
 have nyl51:=ZeF yl51
 have myl51:=ZdV yl51
 try simp only[c15,c16,aa yx17,c20,c27,c34,c35,aa yx37,c38,c39,Zaa yx40,buyx40,guyx40,c42,c44,lyu45,Zbp Slip.c l12 x36.toNat,kq46,lyu48,eyl50,nyl50,tyl50,go_sem]at eyl51 tyl51 nyl51 myl51
 try simp only[myl51,eyl51,c15,c16,aa yx17,c20,c27,c34,c35,aa yx37,c38,c39,Zaa yx40,buyx40,guyx40,c42,c44,lyu45,Zbp Slip.c l12 x36.toNat,kq46,lyu48,eyl50,nyl50,tyl50,nyl51,tyl51,go_sem]
 refine Zaf (hnext1 _ _ (oi h1).symm ?_)
 refine ZaE.go [0,2,5,9,10] [0,1,1203] rfl ?_
 try simp only[Zaq.h1,c15,c16,aa yx17,c20,c27,c34,c35,aa yx37,c38,c39,Zaa yx40,buyx40,guyx40,c42,c44,lyu45,Zbp Slip.c l12 x36.toNat,kq46,lyu48,eyl50,nyl50,tyl50,eyl51,nyl51,tyl51,go_sem]
 try simp only[c44,c15,c16,aa yx17,c20,c27,c34,c35,aa yx37,c38,c39,Zaa yx40,buyx40,guyx40,c42,go_sem]
 obtain⟨l52,yl52,h1⟩:=bs h1
 have eyl52:=Zfp Slip.c yl52
 have tyl52:=ZdM Slip.c yl52
 have nyl52:=ZeF yl52
 have myl52:=ZdV yl52
 try simp only[c15,c16,aa yx17,c20,c27,c34,c35,aa yx37,c38,c39,Zaa yx40,buyx40,guyx40,c42,c44,go_sem]at eyl52 tyl52 nyl52 myl52
 try simp only[myl52,eyl52,c15,c16,aa yx17,c20,c27,c34,c35,aa yx37,c38,c39,Zaa yx40,buyx40,guyx40,c42,c44,nyl52,tyl52,go_sem]
 refine Zaf (hnext1 _ _ (oi h1).symm ?_)
 refine ZaE.go [0,2,5,9,10] [0,1,2] rfl ?_
 try simp only[Zaq.h1,c15,c16,aa yx17,c20,c27,c34,c35,aa yx37,c38,c39,Zaa yx40,buyx40,guyx40,c42,c44,eyl52,nyl52,tyl52,go_sem]
 have c38:=ZaA c38
 try simp only[c38,c15,c16,aa yx17,c20,c27,c34,c35,aa yx37,go_sem]
 obtain rfl:=hret1 _ (oi h1).symm
 simp only at h0
 obtain rfl:=oi h0
 refine Zac rfl ?_
 try simp only[F61.rs,c15,c16,aa yx17,c20,c27,c34,c35,aa yx37,c38,go_sem]
 try simp only[c34,c15,c16,aa yx17,c20,c27,go_sem]
 refine Zab h1 ?_ ?_<;>intro c53 h1
 try simp only[c53,c15,c16,aa yx17,c20,c27,c34,go_sem]
 refine Zab h1 ?_ ?_<;>intro c54 h1
 try simp only[c54,c15,c16,aa yx17,c20,c27,c34,c53,go_sem]
 refine Zaf (hnext1 _ _ (oi h1).symm ?_)
 refine ZaE.go [0,2,5,9,10] [0,1,2] rfl ?_
 try simp only[Zaq.h1,c15,c16,aa yx17,c20,c27,c34,c53,c54,go_sem]
 try simp only[c54,c15,c16,aa yx17,c20,c27,c34,c53,go_sem]
 obtain⟨x55,yx55,h1⟩:=bs h1
 refine zc0 (ZbU k _ _ _ yx55) ?_ (by first|rfl|(simp[AV.refsL,AV.refs,AV.scal,AV.leaf];done)|simp[AV.refsL,AV.refs,AV.scal,AV.leaf,go_sem]) ?_
 try simp only[c15,c16,aa yx17,c20,c27,c34,c53,c54,go_sem]
 try simp only[c15,c16,aa yx17,c20,c27,c34,c53,c54,go_sem]
 obtain⟨x56,yx56,h1⟩:=bs h1
 try simp only[aa yx56,c15,c16,aa yx17,c20,c27,c34,c53,c54,go_sem]
 refine Zab h1 ?_ ?_<;>intro c57 h1
 have c57:=ZaB c57
 try simp only[c57,c15,c16,aa yx17,c20,c27,c34,c53,c54,aa yx56,go_sem]
 refine Zab h1 ?_ ?_<;>intro c58 h1
 try simp only[c58,c15,c16,aa yx17,c20,c27,c34,c53,c54,aa yx56,c57,go_sem]
 obtain rfl:=hret1 _ (oi h1).symm
 simp only at h0
 obtain rfl:=oi h0
 refine Zac rfl ?_
 try simp only[F61.rs,c15,c16,aa yx17,c20,c27,c34,c53,c54,aa yx56,c57,c58,go_sem]
 try simp only[c58,c15,c16,aa yx17,c20,c27,c34,c53,c54,aa yx56,c57,go_sem]
 refine Zas Za9 Zat 1000 ?_
 try simp only[c15,c16,aa yx17,c20,c27,c34,c53,c54,aa yx56,c57,c58,go_sem]
 obtain⟨x59,yx59,h1⟩:=bs h1
 have uyx59:=UpdE.at (fun q_=>(Za0.len q_:(House.c q_).length=43)) (UpdE.self (fun q_=>((VK.vec Za0 3).len q_:(Vec.c (n:=3) House.c q_).length=129)) s10) yx59
 have buyx59:=uyx59.bound (fun q_=>(Za0.len q_:(House.c q_).length=43))
 have guyx59:=uyx59.get (fun q_=>(Za0.len q_:(House.c q_).length=43))
 try simp only[List.length_cons,List.length_nil,go_sem]at buyx59 guyx59
 try simp only[Zaa yx59,buyx59,guyx59,c15,c16,aa yx17,c20,c27,c34,c53,c54,aa yx56,c57,c58,go_sem]
 obtain⟨x60,yx60,h1⟩:=bs h1
 refine ZaC 1000 (Zfo k _ _ _ yx60) ?_ (by first|rfl|(simp[AV.refsL,AV.refs,AV.scal,AV.leaf];done)|simp[AV.refsL,AV.refs,AV.scal,AV.leaf,go_sem]) ?_
 try simp only[c15,c16,aa yx17,c20,c27,c34,c53,c54,aa yx56,c57,c58,Zaa yx59,buyx59,guyx59,go_sem]
 try simp only[c15,c16,aa yx17,c20,c27,c34,c53,c54,aa yx56,c57,c58,Zaa yx59,buyx59,guyx59,go_sem]
 refine Za4 ⟨Za3 (by simp only[ZcE,List.reverse_cons,List.reverse_nil,List.nil_append,List.cons_append,List.map_cons,List.map_nil,List.append_nil];rfl) (by first|decide +kernel|rfl),Zae Za9 1000 _ _ ?_⟩
 try simp only[c15,c16,aa yx17,c20,c27,c34,c53,c54,aa yx56,c57,c58,Zaa yx59,buyx59,guyx59,go_sem]
 refine Zab h1 ?_ ?_<;>intro c61 h1
 have c61:=ZaB c61
 try simp only[c61,c15,c16,aa yx17,c20,c27,c34,c53,c54,aa yx56,c57,c58,Zaa yx59,buyx59,guyx59,go_sem]
 obtain rfl:=hret1 _ (oi h1).symm
 simp only at h0
 obtain rfl:=oi h0
 refine Zac rfl ?_
 try simp only[F61.rs,c15,c16,aa yx17,c20,c27,c34,c53,c54,aa yx56,c57,c58,Zaa yx59,buyx59,guyx59,c61,go_sem]
 have c61:=ZaA c61
 have q62:=uyx59.ow x60.1
 try simp only[List.length_cons,List.length_nil,go_sem]at q62
 try simp only[c61,Zaa yx59,buyx59,guyx59,q62,c15,c16,aa yx17,c20,c27,c34,c53,c54,aa yx56,c57,c58,go_sem]
 refine Zab h1 ?_ ?_<;>intro c63 h1
 try simp only[c63,c15,c16,aa yx17,c20,c27,c34,c53,c54,aa yx56,c57,c58,Zaa yx59,buyx59,guyx59,c61,go_sem]
 refine Zas Za9 Zat 1000 ?_
 try simp only[c15,c16,aa yx17,c20,c27,c34,c53,c54,aa yx56,c57,c58,Zaa yx59,buyx59,guyx59,c61,c63,go_sem]
 obtain⟨u64,yu64,h1⟩:=bs h1
 have lyu64:=Zui yu64
 try simp only[Zl4 yu64,lyu64,c15,c16,aa yx17,c20,c27,c34,c53,c54,aa yx56,c57,c58,Zaa yx59,buyx59,guyx59,c61,c63,go_sem]
 obtain⟨u66,yu66,h1⟩:=bs h1
 have kq65:(l12.take x55.toNat).length=x55.toNat:=by simp only[List.length_take,List.length_drop]<;>omega
 try simp only[ZfC yu66,Zbp Slip.c l12 x55.toNat,kq65,c15,c16,aa yx17,c20,c27,c34,c53,c54,aa yx56,c57,c58,Zaa yx59,buyx59,guyx59,c61,c63,lyu64,go_sem]
 obtain⟨u67,yu67,h1⟩:=bs h1
 have lyu67:=Ztq yu67
 try simp only[Zin yu67,lyu67,c15,c16,aa yx17,c20,c27,c34,c53,c54,aa yx56,c57,c58,Zaa yx59,buyx59,guyx59,c61,c63,lyu64,Zbp Slip.c l12 x55.toNat,kq65,go_sem]
 obtain⟨l69,yl69,h1⟩:=bs h1
 have kq68:((l12.drop ((w64 (x55+1)).toNat)).take (l12.length - (w64 (x55+1)).toNat)).length=l12.length - (w64 (x55+1)).toNat:=by simp only[List.length_take,List.length_drop]<;>omega
 have eyl69:=Zfp Slip.c yl69
 have tyl69:=ZdM Slip.c yl69
 have nyl69:=ZeF yl69
 have myl69:=ZdV yl69
 try simp only[c15,c16,aa yx17,c20,c27,c34,c53,c54,aa yx56,c57,c58,Zaa yx59,buyx59,guyx59,c61,c63,lyu64,Zbp Slip.c l12 x55.toNat,kq65,lyu67,Zgi Slip.c l12 ((w64 (x55+1)).toNat) (l12.length - (w64 (x55+1)).toNat),kq68,go_sem]at eyl69 tyl69 nyl69 myl69
 try simp only[myl69,eyl69,Zgi Slip.c l12 ((w64 (x55+1)).toNat) (l12.length - (w64 (x55+1)).toNat),kq68,c15,c16,aa yx17,c20,c27,c34,c53,c54,aa yx56,c57,c58,Zaa yx59,buyx59,guyx59,c61,c63,lyu64,Zbp Slip.c l12 x55.toNat,kq65,lyu67,nyl69,tyl69,go_sem]
 refine Za4 ⟨Za3 (by simp only[ZcE,List.reverse_cons,List.reverse_nil,List.nil_append,List.cons_append,List.map_cons,List.map_nil,List.append_nil];rfl) (by first|decide +kernel|rfl),Zae Za9 1000 _ _ ?_⟩
 try simp only[c15,c16,aa yx17,c20,c27,c34,c53,c54,aa yx56,c57,c58,Zaa yx59,buyx59,guyx59,c61,c63,lyu64,Zbp Slip.c l12 x55.toNat,kq65,lyu67,eyl69,nyl69,tyl69,go_sem]
 obtain⟨l70,yl70,h1⟩:=bs h1
 have eyl70:=Zfp Slip.c yl70
 have tyl70:=ZdM Slip.c yl70
 have nyl70:=ZeF yl70
 have myl70:=ZdV yl70
 try simp only[c15,c16,aa yx17,c20,c27,c34,c53,c54,aa yx56,c57,c58,Zaa yx59,buyx59,guyx59,c61,c63,lyu64,Zbp Slip.c l12 x55.toNat,kq65,lyu67,eyl69,nyl69,tyl69,go_sem]at eyl70 tyl70 nyl70 myl70
 try simp only[myl70,eyl70,c15,c16,aa yx17,c20,c27,c34,c53,c54,aa yx56,c57,c58,Zaa yx59,buyx59,guyx59,c61,c63,lyu64,Zbp Slip.c l12 x55.toNat,kq65,lyu67,eyl69,nyl69,tyl69,nyl70,tyl70,go_sem]
 refine Zaf (hnext1 _ _ (oi h1).symm ?_)
 refine ZaE.go [0,2,5,9,10] [0,1,1235] rfl ?_
 try simp only[Zaq.h1,c15,c16,aa yx17,c20,c27,c34,c53,c54,aa yx56,c57,c58,Zaa yx59,buyx59,guyx59,c61,c63,lyu64,Zbp Slip.c l12 x55.toNat,kq65,lyu67,eyl69,nyl69,tyl69,eyl70,nyl70,tyl70,go_sem]
 try simp only[c63,c15,c16,aa yx17,c20,c27,c34,c53,c54,aa yx56,c57,c58,Zaa yx59,buyx59,guyx59,c61,go_sem]
 obtain⟨l71,yl71,h1⟩:=bs h1
 have eyl71:=Zfp Slip.c yl71
 have tyl71:=ZdM Slip.c yl71
 have nyl71:=ZeF yl71
 have myl71:=ZdV yl71
 try simp only[c15,c16,aa yx17,c20,c27,c34,c53,c54,aa yx56,c57,c58,Zaa yx59,buyx59,guyx59,c61,c63,go_sem]at eyl71 tyl71 nyl71 myl71
 try simp only[myl71,eyl71,c15,c16,aa yx17,c20,c27,c34,c53,c54,aa yx56,c57,c58,Zaa yx59,buyx59,guyx59,c61,c63,nyl71,tyl71,go_sem]
 refine Zaf (hnext1 _ _ (oi h1).symm ?_)
 refine ZaE.go [0,2,5,9,10] [0,1,2] rfl ?_
 try simp only[Zaq.h1,c15,c16,aa yx17,c20,c27,c34,c53,c54,aa yx56,c57,c58,Zaa yx59,buyx59,guyx59,c61,c63,eyl71,nyl71,tyl71,go_sem]
 have c57:=ZaA c57
 try simp only[c57,c15,c16,aa yx17,c20,c27,c34,c53,c54,aa yx56,go_sem]
 obtain rfl:=hret1 _ (oi h1).symm
 simp only at h0
 obtain rfl:=oi h0
 refine Zac rfl ?_
 try simp only[F61.rs,c15,c16,aa yx17,c20,c27,c34,c53,c54,aa yx56,c57,go_sem]
 try simp only[c53,c15,c16,aa yx17,c20,c27,c34,go_sem]
 refine Zab h1 ?_ ?_<;>intro c72 h1
 try simp only[c72,c15,c16,aa yx17,c20,c27,c34,c53,go_sem]
 refine Zas Za9 Zat 1000 ?_
 try simp only[c15,c16,aa yx17,c20,c27,c34,c53,c72,go_sem]
 obtain⟨x73,yx73,h1⟩:=bs h1
 have uyx73:=UpdE.at (fun q_=>(Za0.len q_:(House.c q_).length=43)) (UpdE.self (fun q_=>((VK.vec Za0 3).len q_:(Vec.c (n:=3) House.c q_).length=129)) s10) yx73
 have buyx73:=uyx73.bound (fun q_=>(Za0.len q_:(House.c q_).length=43))
 have guyx73:=uyx73.get (fun q_=>(Za0.len q_:(House.c q_).length=43))
 try simp only[List.length_cons,List.length_nil,go_sem]at buyx73 guyx73
 try simp only[Zaa yx73,buyx73,guyx73,c15,c16,aa yx17,c20,c27,c34,c53,c72,go_sem]
 obtain⟨x74,yx74,h1⟩:=bs h1
 refine ZaC 1000 (Zff k _ _ _ yx74) ?_ (by first|rfl|(simp[AV.refsL,AV.refs,AV.scal,AV.leaf];done)|simp[AV.refsL,AV.refs,AV.scal,AV.leaf,go_sem]) ?_
 try simp only[c15,c16,aa yx17,c20,c27,c34,c53,c72,Zaa yx73,buyx73,guyx73,go_sem]
 try simp only[c15,c16,aa yx17,c20,c27,c34,c53,c72,Zaa yx73,buyx73,guyx73,go_sem]
 refine Za4 ⟨Za3 (by simp only[ZcE,List.reverse_cons,List.reverse_nil,List.nil_append,List.cons_append,List.map_cons,List.map_nil,List.append_nil];rfl) (by first|decide +kernel|rfl),Zae Za9 1000 _ _ ?_⟩
 try simp only[c15,c16,aa yx17,c20,c27,c34,c53,c72,Zaa yx73,buyx73,guyx73,go_sem]
 refine Zab h1 ?_ ?_<;>intro c75 h1
 have c75:=ZaB c75
 try simp only[c75,c15,c16,aa yx17,c20,c27,c34,c53,c72,Zaa yx73,buyx73,guyx73,go_sem]
 obtain rfl:=hret1 _ (oi h1).symm
 simp only at h0
 obtain rfl:=oi h0
 refine Zac rfl ?_
 try simp only[F61.rs,c15,c16,aa yx17,c20,c27,c34,c53,c72,Zaa yx73,buyx73,guyx73,c75,go_sem]
 have c75:=ZaA c75
 have q76:=uyx73.ow x74.1
 try simp only[List.length_cons,List.length_nil,go_sem]at q76
 try simp only[c75,Zaa yx73,buyx73,guyx73,q76,c15,c16,aa yx17,c20,c27,c34,c53,c72,go_sem]
 refine Zaf (hnext1 _ _ (oi h1).symm ?_)
 refine ZaE.go [0,2,5,9,10] [0,1,2] rfl ?_
 try simp only[Zaq.h1,c15,c16,aa yx17,c20,c27,c34,c53,c72,Zaa yx73,buyx73,guyx73,c75,go_sem]
 try simp only[c72,c15,c16,aa yx17,c20,c27,c34,c53,go_sem]
 refine Zas Za9 Zat 1000 ?_
 try simp only[c15,c16,aa yx17,c20,c27,c34,c53,c72,go_sem]
 obtain⟨x77,yx77,h1⟩:=bs h1
 have uyx77:=UpdE.at (fun q_=>(Za0.len q_:(House.c q_).length=43)) (UpdE.self (fun q_=>((VK.vec Za0 3).len q_:(Vec.c (n:=3) House.c q_).length=129)) s10) yx77
 have buyx77:=uyx77.bound (fun q_=>(Za0.len q_:(House.c q_).length=43))
 have guyx77:=uyx77.get (fun q_=>(Za0.len q_:(House.c q_).length=43))
 try simp only[List.length_cons,List.length_nil,go_sem]at buyx77 guyx77
 try simp only[Zaa yx77,buyx77,guyx77,c15,c16,aa yx17,c20,c27,c34,c53,c72,go_sem]
 obtain⟨x78,yx78,h1⟩:=bs h1
 have uyx78:=UpdE.at (fun q_=>(ZaN.len q_:(eI q_).length=1)) (UpdE.skip (UpdE.app (fun q_=>((VK.vec ZaN 5).len q_:(Vec.c (n:=5) eI q_).length=5)) [.sl 1 (List.map eI x17.Picks)] (UpdE.self (fun q_=>((VK.vec ZaN 5).len q_:(Vec.c (n:=5) eI q_).length=5)) x17.Record)) ([.int .i64 x17.Kind,.int .i64 x17.House,.int .i64 x17.To]:List AV)) yx78
 have buyx78:=uyx78.bound (fun q_=>(ZaN.len q_:(eI q_).length=1))
 have guyx78:=uyx78.get (fun q_=>(ZaN.len q_:(eI q_).length=1))
 try simp only[List.length_cons,List.length_nil,go_sem]at buyx78 guyx78
 try simp only[Zaa yx78,buyx78,guyx78,c15,c16,aa yx17,c20,c27,c34,c53,c72,Zaa yx77,buyx77,guyx77,go_sem]
 obtain⟨x79,yx79,h1⟩:=bs h1
 refine ZaC 1000 (ZbU k _ _ _ yx79) ?_ (by first|rfl|(simp[AV.refsL,AV.refs,AV.scal,AV.leaf];done)|simp[AV.refsL,AV.refs,AV.scal,AV.leaf,go_sem]) ?_
 try simp only[c15,c16,aa yx17,c20,c27,c34,c53,c72,Zaa yx77,buyx77,guyx77,Zaa yx78,buyx78,guyx78,go_sem]
 try simp only[c15,c16,aa yx17,c20,c27,c34,c53,c72,Zaa yx77,buyx77,guyx77,Zaa yx78,buyx78,guyx78,go_sem]
 obtain⟨x80,yx80,h1⟩:=bs h1
 have uyx80:=UpdE.at (fun q_=>(ZaN.len q_:(eI q_).length=1)) (UpdE.skip (UpdE.app (fun q_=>((VK.vec ZaN 5).len q_:(Vec.c (n:=5) eI q_).length=5)) [.sl 1 (List.map eI x17.Picks)] (UpdE.self (fun q_=>((VK.vec ZaN 5).len q_:(Vec.c (n:=5) eI q_).length=5)) x17.Record)) ([.int .i64 x17.Kind,.int .i64 x17.House,.int .i64 x17.To]:List AV)) yx80
 have buyx80:=uyx80.bound (fun q_=>(ZaN.len q_:(eI q_).length=1))
 have guyx80:=uyx80.get (fun q_=>(ZaN.len q_:(eI q_).length=1))
 try simp only[List.length_cons,List.length_nil,go_sem]at buyx80 guyx80
 try simp only[Zaa yx80,buyx80,guyx80,c15,c16,aa yx17,c20,c27,c34,c53,c72,Zaa yx77,buyx77,guyx77,Zaa yx78,buyx78,guyx78,go_sem]
 obtain⟨x81,yx81,h1⟩:=bs h1
 refine ZaC 1000 (ZbU k _ _ _ yx81) ?_ (by first|rfl|(simp[AV.refsL,AV.refs,AV.scal,AV.leaf];done)|simp[AV.refsL,AV.refs,AV.scal,AV.leaf,go_sem]) ?_
 try simp only[c15,c16,aa yx17,c20,c27,c34,c53,c72,Zaa yx77,buyx77,guyx77,Zaa yx78,buyx78,guyx78,Zaa yx80,buyx80,guyx80,go_sem]
 try simp only[c15,c16,aa yx17,c20,c27,c34,c53,c72,Zaa yx77,buyx77,guyx77,Zaa yx78,buyx78,guyx78,Zaa yx80,buyx80,guyx80,go_sem]
 obtain⟨x82,yx82,h1⟩:=bs h1
 have uyx82:=UpdE.at (fun q_=>(ZaN.len q_:(eI q_).length=1)) (UpdE.skip (UpdE.app (fun q_=>((VK.vec ZaN 5).len q_:(Vec.c (n:=5) eI q_).length=5)) [.sl 1 (List.map eI x17.Picks)] (UpdE.self (fun q_=>((VK.vec ZaN 5).len q_:(Vec.c (n:=5) eI q_).length=5)) x17.Record)) ([.int .i64 x17.Kind,.int .i64 x17.House,.int .i64 x17.To]:List AV)) yx82
 have buyx82:=uyx82.bound (fun q_=>(ZaN.len q_:(eI q_).length=1))
 have guyx82:=uyx82.get (fun q_=>(ZaN.len q_:(eI q_).length=1))
 try simp only[List.length_cons,List.length_nil,go_sem]at buyx82 guyx82
 try simp only[Zaa yx82,buyx82,guyx82,c15,c16,aa yx17,c20,c27,c34,c53,c72,Zaa yx77,buyx77,guyx77,Zaa yx78,buyx78,guyx78,Zaa yx80,buyx80,guyx80,go_sem]
 obtain⟨x83,yx83,h1⟩:=bs h1
 refine ZaC 1000 (ZbU k _ _ _ yx83) ?_ (by first|rfl|(simp[AV.refsL,AV.refs,AV.scal,AV.leaf];done)|simp[AV.refsL,AV.refs,AV.scal,AV.leaf,go_sem]) ?_
 try simp only[c15,c16,aa yx17,c20,c27,c34,c53,c72,Zaa yx77,buyx77,guyx77,Zaa yx78,buyx78,guyx78,Zaa yx80,buyx80,guyx80,Zaa yx82,buyx82,guyx82,go_sem]
 try simp only[c15,c16,aa yx17,c20,c27,c34,c53,c72,Zaa yx77,buyx77,guyx77,Zaa yx78,buyx78,guyx78,Zaa yx80,buyx80,guyx80,Zaa yx82,buyx82,guyx82,go_sem]
 obtain⟨x84,yx84,h1⟩:=bs h1
 have uyx84:=UpdE.at (fun q_=>(ZaN.len q_:(eI q_).length=1)) (UpdE.skip (UpdE.app (fun q_=>((VK.vec ZaN 5).len q_:(Vec.c (n:=5) eI q_).length=5)) [.sl 1 (List.map eI x17.Picks)] (UpdE.self (fun q_=>((VK.vec ZaN 5).len q_:(Vec.c (n:=5) eI q_).length=5)) x17.Record)) ([.int .i64 x17.Kind,.int .i64 x17.House,.int .i64 x17.To]:List AV)) yx84
 have buyx84:=uyx84.bound (fun q_=>(ZaN.len q_:(eI q_).length=1))
 have guyx84:=uyx84.get (fun q_=>(ZaN.len q_:(eI q_).length=1))
 try simp only[List.length_cons,List.length_nil,go_sem]at buyx84 guyx84
 try simp only[Zaa yx84,buyx84,guyx84,c15,c16,aa yx17,c20,c27,c34,c53,c72,Zaa yx77,buyx77,guyx77,Zaa yx78,buyx78,guyx78,Zaa yx80,buyx80,guyx80,Zaa yx82,buyx82,guyx82,go_sem]
 obtain⟨x85,yx85,h1⟩:=bs h1
 refine ZaC 1000 (ZbU k _ _ _ yx85) ?_ (by first|rfl|(simp[AV.refsL,AV.refs,AV.scal,AV.leaf];done)|simp[AV.refsL,AV.refs,AV.scal,AV.leaf,go_sem]) ?_
 try simp only[c15,c16,aa yx17,c20,c27,c34,c53,c72,Zaa yx77,buyx77,guyx77,Zaa yx78,buyx78,guyx78,Zaa yx80,buyx80,guyx80,Zaa yx82,buyx82,guyx82,Zaa yx84,buyx84,guyx84,go_sem]
 try simp only[c15,c16,aa yx17,c20,c27,c34,c53,c72,Zaa yx77,buyx77,guyx77,Zaa yx78,buyx78,guyx78,Zaa yx80,buyx80,guyx80,Zaa yx82,buyx82,guyx82,Zaa yx84,buyx84,guyx84,go_sem]
 obtain⟨x86,yx86,h1⟩:=bs h1
 have eyx86:=ZaR yx86
 simp only[c15,c16,aa yx17,c20,c27,c34,c53,c72,Zaa yx77,buyx77,guyx77,Zaa yx78,buyx78,guyx78,Zaa yx80,buyx80,guyx80,Zaa yx82,buyx82,guyx82,Zaa yx84,buyx84,guyx84,go_sem]at eyx86
 have gyx86:=Za1 eS yx86
 try simp only[c15,c16,aa yx17,c20,c27,c34,c53,c72,Zaa yx77,buyx77,guyx77,Zaa yx78,buyx78,guyx78,Zaa yx80,buyx80,guyx80,Zaa yx82,buyx82,guyx82,Zaa yx84,buyx84,guyx84,go_sem]at gyx86
 try simp only[eyx86,gyx86,c15,c16,aa yx17,c20,c27,c34,c53,c72,Zaa yx77,buyx77,guyx77,Zaa yx78,buyx78,guyx78,Zaa yx80,buyx80,guyx80,Zaa yx82,buyx82,guyx82,Zaa yx84,buyx84,guyx84,go_sem]
 obtain⟨x87,yx87,h1⟩:=bs h1
 refine ZaC 1000 (Zlf k _ _ _ yx87) ?_ (by first|rfl|(simp[AV.refsL,AV.refs,AV.scal,AV.leaf];done)|simp[AV.refsL,AV.refs,AV.scal,AV.leaf,go_sem]) ?_
 try simp only[c15,c16,aa yx17,c20,c27,c34,c53,c72,Zaa yx77,buyx77,guyx77,Zaa yx78,buyx78,guyx78,Zaa yx80,buyx80,guyx80,Zaa yx82,buyx82,guyx82,Zaa yx84,buyx84,guyx84,eyx86,gyx86,go_sem]
 try simp only[c15,c16,aa yx17,c20,c27,c34,c53,c72,Zaa yx77,buyx77,guyx77,Zaa yx78,buyx78,guyx78,Zaa yx80,buyx80,guyx80,Zaa yx82,buyx82,guyx82,Zaa yx84,buyx84,guyx84,eyx86,gyx86,go_sem]
 refine Za4 ⟨Za3 (by simp only[ZcE,List.reverse_cons,List.reverse_nil,List.nil_append,List.cons_append,List.map_cons,List.map_nil,List.append_nil];rfl) (by first|decide +kernel|rfl),Zae Za9 1000 _ _ ?_⟩
 try simp only[c15,c16,aa yx17,c20,c27,c34,c53,c72,Zaa yx77,buyx77,guyx77,Zaa yx78,buyx78,guyx78,Zaa yx80,buyx80,guyx80,Zaa yx82,buyx82,guyx82,Zaa yx84,buyx84,guyx84,eyx86,gyx86,go_sem]
 refine Zab h1 ?_ ?_<;>intro c88 h1
 try simp only[c88,c15,c16,aa yx17,c20,c27,c34,c53,c72,Zaa yx77,buyx77,guyx77,Zaa yx78,buyx78,guyx78,Zaa yx80,buyx80,guyx80,Zaa yx82,buyx82,guyx82,Zaa yx84,buyx84,guyx84,eyx86,gyx86,go_sem]
 refine Zab h1 ?_ ?_<;>intro c89 h1
 have c89:=ZaB c89
 try simp only[c89,c15,c16,aa yx17,c20,c27,c34,c53,c72,Zaa yx77,buyx77,guyx77,Zaa yx78,buyx78,guyx78,Zaa yx80,buyx80,guyx80,Zaa yx82,buyx82,guyx82,Zaa yx84,buyx84,guyx84,eyx86,gyx86,c88,go_sem]
 obtain rfl:=hret1 _ (oi h1).symm
 simp only at h0
 obtain rfl:=oi h0
 refine Zac rfl ?_
 try simp only[F61.rs,c15,c16,aa yx17,c20,c27,c34,c53,c72,Zaa yx77,buyx77,guyx77,Zaa yx78,buyx78,guyx78,Zaa yx80,buyx80,guyx80,Zaa yx82,buyx82,guyx82,Zaa yx84,buyx84,guyx84,eyx86,gyx86,c88,c89,go_sem]
 have c89:=ZaA c89
 have q90:=uyx77.ow x87.1
 try simp only[List.length_cons,List.length_nil,go_sem]at q90
 try simp only[c89,Zaa yx77,buyx77,guyx77,q90,c15,c16,aa yx17,c20,c27,c34,c53,c72,Zaa yx78,buyx78,guyx78,Zaa yx80,buyx80,guyx80,Zaa yx82,buyx82,guyx82,Zaa yx84,buyx84,guyx84,eyx86,gyx86,c88,go_sem]
 refine Zaf (hnext1 _ _ (oi h1).symm ?_)
 refine ZaE.go [0,2,5,9,10] [0,1,2] rfl ?_
 try simp only[Zaq.h1,c15,c16,aa yx17,c20,c27,c34,c53,c72,Zaa yx77,buyx77,guyx77,Zaa yx78,buyx78,guyx78,Zaa yx80,buyx80,guyx80,Zaa yx82,buyx82,guyx82,Zaa yx84,buyx84,guyx84,eyx86,gyx86,c88,c89,go_sem]
 try simp only[c88,c15,c16,aa yx17,c20,c27,c34,c53,c72,Zaa yx77,buyx77,guyx77,Zaa yx78,buyx78,guyx78,Zaa yx80,buyx80,guyx80,Zaa yx82,buyx82,guyx82,Zaa yx84,buyx84,guyx84,eyx86,gyx86,go_sem]
 obtain rfl:=hret1 _ (oi h1).symm
 simp only at h0
 obtain rfl:=oi h0
 refine Zac rfl ?_
 try simp only[F61.rs,c15,c16,aa yx17,c20,c27,c34,c53,c72,Zaa yx77,buyx77,guyx77,Zaa yx78,buyx78,guyx78,Zaa yx80,buyx80,guyx80,Zaa yx82,buyx82,guyx82,Zaa yx84,buyx84,guyx84,eyx86,gyx86,c88,go_sem]
 try simp only[c16,c15,go_sem]
 refine Zaf (hbrk1 _ _ (oi h1).symm ?_)
 refine ZaE.go [2,5,9] [0,1,2] rfl ?_
 try simp only[Zaq.x1,c15,c16,go_sem]
 try simp only[c15,go_sem]
 refine Zaf (hbrk1 _ _ (oi h1).symm ?_)
 refine ZaE.go [2,5,9] [0,1,2] rfl ?_
 try simp only[Zaq.x1,c15,go_sem]
 rintro⟨s13,l14⟩ hr_
 subst hr_
 simp only at h0
 refine rS ?_
 try simp only[Zaq.x1,go_sem]
 obtain rfl:=oi h0
 refine Zac rfl ?_
 try simp only[F61.rs,go_sem]
end Go.Abs
