/-
  Part 5 of the proof: a machine over named blocks, what each function computes, and what follows. No condition.
-/
import Derived.RangeFuncLeaves
import Derived.Test.YtpgccpdlilnakaaBPowerD
set_option linter.unusedVariables false
set_option linter.unusedSimpArgs false
set_option linter.all false
set_option maxRecDepth 100000
set_option maxHeartbeats 8000000
namespace Go.Abs
open Go Go.Proofs Go.RowKit Go.Lib
def F124.c:SC:=
 (.seq
 (.reg [oq 4 (.alloc 145) 0 [],
 sb 5 false 4 [5]])
 (.seq
 (.reg [mv 12 0 130 [],
 mv 13 1 3 [],
 oq 14 (.call ⟨.value (.func 125),#[.tmp 12,.tmp 13,.const (.int .i64 0)],#[130,3,3]⟩) 126 [12,13],
 oq 6 (.alloc 126) 0 [],
 ⟨none,.store 126 (.tmp 6) (.tmp 14),0,none,[14]⟩])
 (.seq
 (.reg [ld 15 126 6 [],
 cf1 16 126 15 126 3 [15],
 sg 7 16 3 [16]])
 (.seq
 (.reg [oq 17 (.indexAddr 126 (.tmp 6) (.const (.int .i64 4))) 0 [],
 ld 18 5 17 [17],
 oq 19 (.convert 5 3 (.tmp 18)) 3 [18],
 oq 20 (.binOp .shl 3 (.tmp 19) (.const (.int .u64 8)) 211) 3 [19],
 oq 21 (.indexAddr 126 (.tmp 6) (.const (.int .i64 5))) 0 [],
 ld 22 5 21 [21],
 oq 23 (.convert 5 3 (.tmp 22)) 3 [22],
 b2 24 .or 3 20 23 3 3 [20,23],
 sg 8 24 3 [24]])
 (.seq
 (.seq
 (.dreg [mv 25 7 3 [],
 bn 26 .eql 3 25 0 3 4 [],
 mv 27 26 4 [],
 og 28 (.load 126 (.tmp 6)) 126 27 false [],
 og 29 (.move (.tmp 7)) 3 27 false [],
 og 30 (.move (.tmp 8)) 3 27 false [],
 og 31 (.call ⟨.value (.func 101),#[.tmp 29,.tmp 30],#[3,3]⟩) 126 27 false [],
 og 32 (.binOp .neq 126 (.tmp 28) (.tmp 31) 126) 4 27 false [],
 oq 33 (.pick (.tmp 27) (.const (.bool true)) (.tmp 32)) 4 []] [[],[0],[0,1],[0,1,2],[0,1,2],[0,1,2],[0,1,2,4,5],[0,1,2,3,4,5,6],[0,1,2,3,4,5,6,7]] [6,25,26,27,28,29,30,31,32])
 (.cond (.tmp 33)
 (.seq
 (.reg [oq 34 (.build 145 #[]) 145 [],
 ⟨none,.store 145 (.tmp 4) (.tmp 34),0,none,[34]⟩,
 sb 5 false 4 []])
 .ret)
 .skip))
 (.seq
 (.reg [mv 35 0 130 [],
 mv 36 1 3 [],
 mv 37 7 3 [7],
 oq 38 (.build 145 #[(0,.tmp 35),(1,.tmp 36),(2,.tmp 37),(3,.const (.int .i64 1))]) 145 [35,36,37],
 oq 9 (.alloc 145) 0 [],
 ⟨none,.store 145 (.tmp 9) (.tmp 38),0,none,[38]⟩])
 (.seq
 (.seq
 (.reg [mv 39 0 130 [0],
 mv 40 1 3 [1],
 cf2 41 147 39 40 130 3 224 [39,40]])
 (.block 0
 .other))
 (.seq
 (.dreg [ld 58 145 9 [],
 fa 59 145 9 5 [],
 ld 60 3 59 [],
 mv 61 8 3 [],
 b2 62 .geq 3 60 61 3 4 [],
 ⟨none,.store 145 (.tmp 4) (.tmp 58),0,none,[]⟩,
 sg 5 62 4 []] [[],[],[1],[],[1,2,3],[0],[1,2,3,4,0,5]] [8,9,58,59,60,61,62])
 .ret))))))))
theorem F124.rs:Try.f124.results.toList=[.cell 4 145,.tmp 5]:=rfl
def F124.o0:SC:=F124.c.fst

def F124.o1:SC:=F124.c.snd.fst

def F124.o2:SC:=F124.c.snd.snd.fst

def F124.o3:SC:=F124.c.snd.snd.snd.fst

def F124.o4:SC:=F124.c.snd.snd.snd.snd.fst

def F124.o5:SC:=F124.c.snd.snd.snd.snd.snd.fst

def F124.o6:SC:=F124.c.snd.snd.snd.snd.snd.snd.fst.fst

def F124.o7:SC:=F124.c.snd.snd.snd.snd.snd.snd.snd

def Zeg (x3 x4:Int):Int:=bOr .i64 (w64 ((w64 x3)*2 ^ 8)) (w64 x4)
def ZgF:book_journal:=⟨none,0,0,0,(⟨[]⟩:Book),0⟩
def ZkK (d:book_disk) (area e:Int):book_journal:=⟨some d,area,e,1,⟨[]⟩,0⟩
def Zd6 (k:Nat) (J:book_journal) (x:Record×Int):Option book_journal:=
 (Zc5 k J.book x.1).bind fun b=>some ⟨J.disk,J.area,J.epoch,x.2,b.1,w64 (J.records+1)⟩
def Zcd (k:Nat):book_journal→List (Record×Int)→Option book_journal
 |J,[]=>some J
 |J,x::l=>(Zd6 k J x).bind fun J=>Zcd k J l
def Zbh (k:Nat) (d0:book_disk) (area1:Int):Option (book_journal×Bool):=
 (ZaM k d0 area1 0).bind fun x1=>
 (ZaZ k x1).bind fun x2=>
 (x1.at? 4).bind fun x3=>
 (x1.at? 5).bind fun x4=>
 bif (!decide (x2=(0:Int))) then
  (ZdD k x2 (bOr .i64 (w64 ((w64 x3)*2 ^ 8)) (w64 x4))).bind fun x6=>
  bif (!(Vec.eq (fun(x y:Int)=>decide (x=y)) x1 x6)) then
   some (ZgF,false)
  else
   (Zbx k d0 area1).bind fun xs=>
   (Zcd k (ZkK d0 area1 x2) xs).bind fun J=>
   some (J,decide (J.records≥Zeg x3 x4))
 else
  some (ZgF,false)
noncomputable def Zv5 (d:book_disk) (area e cnt:Int):St:=⟨[(4,.ptr 0 0 0),(8,.int .i64 cnt),(9,.ptr 0 1 0),(41,Zft d area)],[(0,.box (book_journal.c ZgF)),(1,.box (book_journal.c (ZkK d area e)))],[],2,Try.f124.ntmps⟩
noncomputable def opE (L:Prop) (e:Exit) (st:St):Prop:=e=.ret∧L∧Zlp T Try.f124.results.toList (fun y=>NL y (.tup [.agg (book_journal.c ZgF),.bool false])) .ret st
noncomputable def opB (k:Nat) (d:book_disk) (area:Int) (r:book_journal×Bool) (st:St):Prop:=
 ∃ e x3 x4 xs J,Zbx k d area=some xs∧Zcd k (ZkK d area e) xs=some J∧r=(J,decide (J.records≥Zeg x3 x4))∧Za7 Try.f124.ntmps st (Zv5 d area e (Zeg x3 x4))
theorem Ztd (k:Nat) (d:book_disk) (area:Int) (r:book_journal×Bool) (h0:Zbh k d area=some r):
  AK Try.prog Try.f124.ntmps (opE (r=(ZgF,false))) [.sc F124.o0,.sc F124.o1,.sc F124.o2,.sc F124.o3,.sc F124.o4,.sc F124.o5,.sc F124.o6,.back (opB k d area r)] (St.enter [.rptr 2 [book_disk.c d] 0 0,.int .i64 area] [] Try.f124.ntmps):=by
 refine Zag Za9 1000 _ _ ?_
 simp only[Zbh]at h0
 simp only[F124.o0,F124.o1,F124.o2,F124.o3,F124.o4,F124.o5,F124.o6,F124.c,SC.fst,SC.snd,go_sem]
 obtain⟨x1,yx1,h0⟩:=bind_some h0
 refine ZaS Za9 1000 (Zbt k _ _ _ _ yx1) ?_ (by first|rfl|simp[AV.refsL,AV.refs,AV.scal,AV.leaf]) ?_
 ·try simp only[go_sem]
 try simp only[go_sem]
 obtain⟨x2,yx2,h0⟩:=bind_some h0
 refine ZaS Za9 1000 (ZbV k _ _ yx2) ?_ (by first|rfl|simp[AV.refsL,AV.refs,AV.scal,AV.leaf]) ?_
 ·try simp only[go_sem]
 try simp only[go_sem]
 obtain⟨x3,yx3,h0⟩:=bind_some h0
 have uyx3:=UpdE.at (fun q_=>(Zar.len q_:(eU8 q_).length=1)) (UpdE.self (fun q_=>((VK.vec Zar 32).len q_:(Vec.c (n:=32) eU8 q_).length=32)) x1) yx3
 have buyx3:=uyx3.bound (fun q_=>(Zar.len q_:(eU8 q_).length=1))
 have guyx3:=uyx3.get (fun q_=>(Zar.len q_:(eU8 q_).length=1))
 try simp only[List.length_cons,List.length_nil,go_sem]at buyx3 guyx3
 try simp only[Zaa yx3,buyx3,guyx3,(@id (min (Int.toNat 8) 64=8) rfl),go_sem]
 obtain⟨x4,yx4,h0⟩:=bind_some h0
 have uyx4:=UpdE.at (fun q_=>(Zar.len q_:(eU8 q_).length=1)) (UpdE.self (fun q_=>((VK.vec Zar 32).len q_:(Vec.c (n:=32) eU8 q_).length=32)) x1) yx4
 have buyx4:=uyx4.bound (fun q_=>(Zar.len q_:(eU8 q_).length=1))
 have guyx4:=uyx4.get (fun q_=>(Zar.len q_:(eU8 q_).length=1))
 try simp only[List.length_cons,List.length_nil,go_sem]at buyx4 guyx4
 try simp only[Zaa yx4,buyx4,guyx4,Zaa yx3,buyx3,guyx3,go_sem]
 refine Zat Za9 Zau 1000 ?_
 try simp only[Zaa yx3,buyx3,guyx3,Zaa yx4,buyx4,guyx4,go_sem]
 refine ZjW h0 (fun c5 h0=>?_) (fun c5 h0=>?_)
 ·have c5:=ZaY c5
  try simp only[c5,Zaa yx3,buyx3,guyx3,Zaa yx4,buyx4,guyx4,go_sem]
  obtain⟨x6,yx6,h0⟩:=bind_some h0
  refine Zbk 1000 (Zfa k _ _ _ yx6) ?_ (by first|rfl|simp[AV.refsL,AV.refs,AV.scal,AV.leaf]) ?_
  ·try simp only[Zaa yx3,buyx3,guyx3,Zaa yx4,buyx4,guyx4,c5,go_sem]
  try simp only[Zaa yx3,buyx3,guyx3,Zaa yx4,buyx4,guyx4,c5,go_sem]
  refine ZaB ⟨ZaC (by simp only[ZdN,List.reverse_cons,List.reverse_nil,List.nil_append,List.cons_append,List.map_cons,List.map_nil,List.append_nil];rfl) (by first|decide +kernel|rfl),Zag Za9 1000 _ _ ?_⟩
  try simp only[Zaa yx3,buyx3,guyx3,Zaa yx4,buyx4,guyx4,c5,go_sem]
  refine Zab h0 (fun c7 h0=>?_) (fun c7 h0=>?_)
  ·have c7:=ZaY c7
   try simp only[c7,Zaa yx3,buyx3,guyx3,Zaa yx4,buyx4,guyx4,c5,go_sem]
   obtain rfl:=oi h0
   refine⟨rfl,rfl,Zad (P:=Try.prog) (n:=Try.f124.ntmps) rfl ?_⟩
   try simp only[F124.rs,ZgF,Zaa yx3,buyx3,guyx3,Zaa yx4,buyx4,guyx4,c5,c7,go_sem]
  ·have c7:=ZaX c7
   try simp only[c7,Zaa yx3,buyx3,guyx3,Zaa yx4,buyx4,guyx4,c5,go_sem]
   obtain⟨xs,yxs,h0⟩:=bind_some h0
   obtain⟨J,yJ,h0⟩:=bind_some h0
   obtain rfl:=oi h0
   refine ZaS Za9 1000 (ZgY d area) ?_ (by first|rfl|simp[AV.refsL,AV.refs,AV.scal,AV.leaf]) ?_
   ·try simp only[go_sem]
   try simp only[Zft,go_sem]
   refine Zaf ⟨x2,x3,x4,xs,J,yxs,yJ,rfl,?_⟩
   refine(Za7.fz 1 rfl (fun _ h=>by cases h)).trans ?_
   simp only[go_sem]
   refine(Za7.fz 528 rfl (fun _ h=>by cases h)).trans ?_
   simp only[go_sem]
   refine Za7.go [4,8,9,41] [0,512] rfl ?_
   simp only[Zft,Zeg,ZgF,ZkK,go_sem]
 ·have c5:=ZaX c5
  try simp only[c5,Zaa yx3,buyx3,guyx3,Zaa yx4,buyx4,guyx4,go_sem]
  refine ZaB ⟨ZaC (by simp only[ZdN,List.reverse_cons,List.reverse_nil,List.nil_append,List.cons_append,List.map_cons,List.map_nil,List.append_nil];rfl) (by first|decide +kernel|rfl),Zag Za9 1000 _ _ ?_⟩
  try simp only[Zaa yx3,buyx3,guyx3,Zaa yx4,buyx4,guyx4,c5,go_sem]
  obtain rfl:=oi h0
  refine⟨rfl,rfl,Zad (P:=Try.prog) (n:=Try.f124.ntmps) rfl ?_⟩
  try simp only[F124.rs,ZgF,Zaa yx3,buyx3,guyx3,Zaa yx4,buyx4,guyx4,c5,go_sem]
def F124.oa:SC:=.seq (.reg [oq 10 (.alloc 25) 0 [],⟨none,.store 25 (.tmp 10) (.tmp 42),0,none,[42]⟩]) (.reg [sg 11 43 3 [43]])

def F124.ob:SC:=.block 1 (.seq (.reg [fa 45 145 9 4 [],ld 46 46 45 [45],ld 47 25 10 [],cf2 48 71 46 47 46 25 73 [46,47],
 mv 44 48 73 [48],xt 49 44 0 46 [],xt 50 44 1 28 [44,50],fa 51 145 9 4 [],⟨none,.store 46 (.tmp 51) (.tmp 49),0,none,[49,51]⟩])
 (.seq (.reg [mv 52 11 3 [11],fa 53 145 9 3 [],⟨none,.store 3 (.tmp 53) (.tmp 52),0,none,[52,53]⟩])
 (.reg [fa 54 145 9 5 [],ld 55 3 54 [54],bn 56 .add 3 55 1 3 3 [55],fa 57 145 9 5 [],⟨none,.store 3 (.tmp 57) (.tmp 56),0,none,[56,57]⟩])))
noncomputable def opC (J:book_journal):Fra:=[(0,.box (book_journal.c ZgF)),(1,.box (book_journal.c J))]
noncomputable def opS (x:Record×Int) (f:Fra) (J:book_journal):St:=⟨[(9,.ptr 2 1 0),(42,.agg (Record.c x.1)),(43,.int .i64 x.2)],[],[f,opC J],0,Try.f124.ntmps⟩
noncomputable def opA (x:Record×Int) (f:Fra) (J:book_journal):St:=⟨[(9,.ptr 2 1 0),(10,.ptr 0 0 0),(11,.int .i64 x.2)],[(0,.box (Record.c x.1))],[f,opC J],1,Try.f124.ntmps⟩
noncomputable def opN (f:Fra) (J:book_journal):St:=⟨[],[],[f,opC J],0,Try.f124.ntmps⟩
noncomputable def opR (J:book_journal) (cnt:Int):St:=⟨[(4,.ptr 0 0 0),(8,.int .i64 cnt),(9,.ptr 0 1 0)],opC J,[],2,Try.f124.ntmps⟩
theorem Zpf [Md] (x:Record×Int) (f:Fra) (J:book_journal) (Φ:Exit→St→Prop):AK Try.prog Try.f124.ntmps Φ [.sc F124.oa,.back (fun st=>Za7 Try.f124.ntmps st (opA x f J))] (opS x f J):=by
 refine Zag Za9 1000 _ _ ?_
 simp only[F124.oa,opS,opC,ZgF,go_sem]
 show Za7 Try.f124.ntmps _ (opA x f J)
 refine Za7.go [9,10,11] [0] rfl ?_
 simp only[opC,ZgF,go_sem]
theorem Ztc [Md] (k:Nat) (x:Record×Int) (f:Fra) (J J':book_journal) (h0:Zd6 k J x=some J') (Φ:Exit→St→Prop):AK Try.prog Try.f124.ntmps Φ [.sc F124.ob,.back (fun st=>Za7 Try.f124.ntmps st (opN f J'))] (opA x f J):=by
 refine Zag Za9 1000 _ _ ?_
 simp only[Zd6]at h0
 obtain⟨b,yb,h0⟩:=bind_some h0
 obtain rfl:=oi h0
 simp only[F124.ob,opA,opC,ZgF,go_sem]
 refine ZaS Za9 1000 (Ze2 k J.book x.1 b yb) ?_ (by first|rfl|simp[AV.refsL,AV.refs,AV.scal,AV.leaf]) ?_
 ·simp only[go_sem]
 simp only[go_sem]
 show Za7 Try.f124.ntmps _ (opN f _)
 refine Za7.go [] [] rfl ?_
 simp only[opC,ZgF,go_sem]
theorem Zte [Md] (J:book_journal) (cnt:Int):AK Try.prog Try.f124.ntmps (fun e st=>e=.ret∧Zlp T Try.f124.results.toList (fun y=>NL y (.tup [.agg (book_journal.c J),.bool (decide (J.records≥cnt))])) .ret st) [.sc F124.o7] (opR J cnt):=by
 refine Zag Za9 1000 _ _ ?_
 simp only[F124.o7,F124.c,opR,opC,ZgF,SC.snd,go_sem]
 refine Zat Za9 Zau 1000 ?_
 simp only[go_sem]
 refine ZaB ⟨ZaC (by simp only[ZdN,List.reverse_cons,List.reverse_nil,List.nil_append,List.cons_append,List.map_cons,List.map_nil,List.append_nil];rfl) (by first|decide +kernel|rfl),Zag Za9 1000 _ _ ?_⟩
 simp only[go_sem]
 refine⟨rfl,Zad (P:=Try.prog) (n:=Try.f124.ntmps) rfl ?_⟩
 simp only[F124.rs,go_sem]
noncomputable def Zgw:Code:=Try.f124.body.getD .skip
noncomputable def Zmd:Code:=Zq0 (Za5 (Zdt (Za5 (Za5 (Za5 (Za5 (Za5 (Za5 Zgw))))))))
def Zui:Code→Code
 |.rangeFunc _ _ a _=>a
 |x=>x
def Zuj:Code→Code
 |.rangeFunc _ _ _ b=>b
 |x=>x
theorem Zh1 {k:Nat}{x:Record×Int}:∀ {J:book_journal}{l:List (Record×Int)},Zcd k J (l++[x])=(Zcd k J l).bind fun J=>Zd6 k J x
 |J,[]=>by simp only[List.nil_append,Zcd,Option.bind_some];cases Zd6 k J x<;>rfl
 |J,y::l=>by
  simp only[List.cons_append,Zcd]
  cases Zd6 k J y with
  |none=>rfl
  |some J'=>simp only[Option.bind_some];exact Zh1
theorem Zit {k:Nat}:∀ {J:book_journal}{l m:List (Record×Int)}{Z:book_journal},Zcd k J (l++m)=some Z→∃ J',Zcd k J l=some J'
 |J,[],m,Z,h=>⟨J,rfl⟩
 |J,y::l,m,Z,h=>by
  simp only[List.cons_append,Zcd]at h ⊢
  obtain⟨J',h1,h2⟩:=bind_some h
  rw[h1]
  exact Zit h2
noncomputable def Ztx (k:Nat) (J0:book_journal) (pre:List (Record×Int)):Fra:=opC ((Zcd k J0 pre).getD J0)
noncomputable def Zhg (a:Act) (D:Nat) (fn:FuncId) (s:LoopState) (p:Option Code):Loop:={ state:=s,pending:=p,fn,tmps:=a.tmps,params:=#[42,43],assign:=Zui Zmd,body:=Zuj Zmd,defers:=D }
theorem Zvt [Md] {Q:Exit→Act→World→Prop}{N0:Nat}{W1:World}{fm:FM}{ts:List Tie}{a:Act}{w:World}{x:Record×Int}{f:Fra}{J:book_journal} (hS:SR N0 W1 Try.f124.ntmps (opS x f J) a w fm ts)
  (hn:∀ a' w' fm' ts',SR N0 W1 Try.f124.ntmps (opA x f J) a' w' fm' ts'→Later N0 fm ts fm' ts'→Q .normal a' w'):(Zui Zmd).wpIn FW 0 Try.prog Q a w:=by
 refine(show K Try.prog Q ([.code (Zui Zmd)]++[]) .normal a w from ?_)
 refine AK.segs (Φ:=fun _ _=>False) (todo:=[.sc F124.oa]) hS (Zpf x f J _) (fun R hR=>.sc (by rfl) (by rfl) (.back hR .nil)) ?_ (fun _ _ _ _ _ _ h=>h.elim)
 intro st' a' w' fm' ts' hw hS' hL
 obtain⟨fm2,ts2,h1,h2⟩:=hw _ _ _ _ _ _ hS'
 exact hn _ _ _ _ h1 (hL.trans h2)
theorem Zvu [Md] (k:Nat) {Q:Exit→Act→World→Prop}{N0:Nat}{W1:World}{fm:FM}{ts:List Tie}{a:Act}{w:World}{x:Record×Int}{f:Fra}{J J':book_journal} (h0:Zd6 k J x=some J') (hS:SR N0 W1 Try.f124.ntmps (opA x f J) a w fm ts)
  (hn:∀ a' w' fm' ts',SR N0 W1 Try.f124.ntmps (opN f J') a' w' fm' ts'→Later N0 fm ts fm' ts'→Q .normal a' w'):(Zuj Zmd).wpIn FW 0 Try.prog Q a w:=by
 refine(show K Try.prog Q ([.code (Zuj Zmd)]++[]) .normal a w from ?_)
 refine AK.segs (Φ:=fun _ _=>False) (todo:=[.sc F124.ob]) hS (Ztc k x f J J' h0 _) (fun R hR=>.sc (by rfl) (by rfl) (.back hR .nil)) ?_ (fun _ _ _ _ _ _ h=>h.elim)
 intro st' a' w' fm' ts' hw hS' hL
 obtain⟨fm2,ts2,h1,h2⟩:=hw _ _ _ _ _ _ hS'
 exact hn _ _ _ _ h1 (hL.trans h2)
theorem Zg1 {N0 l:Nat}{W:World}{o o':Obj} (hN:N0≤l) (h:W.heap[l]?=some o):Below N0 W (W.putObj l o'):=
 (Below.refl N0 W).grown (grownBy_putObj' W l o') (by have:=(Array.getElem?_eq_some_iff.1 h).1;omega) (fun k e=>by cases e;omega)
theorem Zvv (k:Nat) (J0:book_journal) (xs:List (Record×Int)) (Z:book_journal) (hZ:Zcd k J0 xs=some Z) {N0:Nat}{W1:World}{l D:Nat}{fn:FuncId}{tc:Tie}{a:Act}{c9:Nat} (hN:N0≤l) (hsz:a.tmps.size=Try.f124.ntmps)
  (hl:W1.heap[l]?=some (.loop (Zhg a D fn .ready none))) (h9:tc 1=some (.box c9)) (ha:a.tmps[9]?=some (.pointer (some ⟨c9,0,none⟩))):YC N0 W1 l tc (Ztx k J0) xs:=by
 intro pre x hpx f fm ts w vs hr hts hvs
 obtain⟨suf,hsuf⟩:=hpx
 obtain⟨J',hJ'⟩:=Zit (l:=pre++[x]) (m:=suf) (by rw[hsuf];exact hZ)
 have hJ2:=hJ'
 rw[Zh1]at hJ2
 obtain⟨J,hJ,hst⟩:=bind_some hJ2
 have hlw:=hr.oth l _ hl rfl
 have hnt:Try.f124.ntmps=63:=by rfl
 obtain⟨v0,v1,rfl⟩:∃ v0 v1,vs=[v0,v1]:=by
  have:=hvs.1
  match vs,this with
  |[v0,v1],_=>exact⟨v0,v1,rfl⟩
 have hy:=run_yield (P:=Try.prog) (args:=#[v0,v1]) hlw (by rfl)
 refine⟨_,_,_,_,hy,?_⟩
 have hr':HR N0 W1 fm ts [f,opC J] w:=by
  have h:=hr
  unfold Ztx at h
  rw[hJ]at h
  exact h
 have hSS:@SR ⟨some l,[]⟩ N0 W1 Try.f124.ntmps (opS x f J) { tmps:=(a.tmps.setIfInBounds 42 v0).setIfInBounds 43 v1,defers:=[] } w fm (Zcc::ts):=by
  refine @SR.mk ⟨some l,[]⟩ _ _ _ _ _ _ _ _ hr'.push ?_ (fun _ _=>rfl) (by simp[hsz]) rfl
  intro t y hy
  unfold opS at hy
  simp only[look]at hy
  split at hy
  ·subst_vars
   obtain rfl:=oi hy
   refine⟨_,by rw[Array.getElem?_setIfInBounds,if_neg (by decide),Array.getElem?_setIfInBounds,if_neg (by decide)];exact ha,.ptr 2 1 0 c9 ?_⟩
   have h1:=hts 0 1
   have h2:tb (ts.drop 1) 0 1=some (.box c9):=h1.box h9
   rw[Zbg]at h2
   exact h2
  ·split at hy
   ·subst_vars
    obtain rfl:=oi hy
    refine⟨v0,by rw[Array.getElem?_setIfInBounds,if_neg (by decide),Array.getElem?_setIfInBounds,if_pos rfl,if_pos (by rw[hsz,hnt];decide)],?_⟩
    have:=hvs.2 0 _ v0 rfl rfl
    have h3:VR fm [] (.agg (Record.c x.1)) v0:=(hr.bareL (VRs.one this) (ys:=[.agg (Record.c x.1)]) (by simp only[AV.frzL,AV.frz,(Zle.ice x.1).frz,Option.map_some])).2 0 _ _ rfl rfl
    exact h3.mono (Zdq.refl _) (ZaA.nil _)
   ·split at hy
    ·subst_vars
     obtain rfl:=oi hy
     refine⟨v1,by rw[Array.getElem?_setIfInBounds,if_pos rfl,if_pos (by rw[Array.size_setIfInBounds,hsz,hnt];decide)],?_⟩
     have:=hvs.2 1 _ v1 rfl rfl
     have h3:VR fm [] (.int .i64 x.2) v1:=(hr.bareL (VRs.one this) (ys:=[.int .i64 x.2]) rfl).2 0 _ _ rfl rfl
     exact h3.mono (Zdq.refl _) (ZaA.nil _)
    ·cases hy
 refine roundIn_of_wpIn trivial ?_
 have hfold:(((Zhg a D fn .ready none).params.zip #[v0,v1]).foldl (fun tmps (x:Tmp×Value)=>match x with|(t,a)=>tmps.setIfInBounds t a) (Zhg a D fn .ready none).tmps)=(a.tmps.setIfInBounds 42 v0).setIfInBounds 43 v1:=by
  simp[Zhg]
 rw[hfold]
 refine @Zvt ⟨some l,[]⟩ _ _ _ _ _ _ _ x f J hSS ?_
 intro a1 w1 fm1 ts1 hS1 hL1
 obtain⟨g1,g2,g3,g4,g5⟩:=hS1
 have hl1:=g1.oth l _ hl rfl
 refine⟨_,run_beginRound hl1 rfl,?_⟩
 have hS1':@SR ⟨some l,[]⟩ N0 (w1.putObj l (.loop { Zhg a D fn .ready none with state:=.busy })) Try.f124.ntmps (opA x f J) a1 (w1.putObj l (.loop { Zhg a D fn .ready none with state:=.busy })) fm1 ts1:=
  @SR.mk ⟨some l,[]⟩ _ _ _ _ _ _ _ _ (g1.other hl1 rfl hN) g2 g3 g4 g5
 refine @Zvu ⟨some l,[]⟩ k _ _ _ _ _ _ _ x f J J' hst hS1' ?_
 intro a2 w2 fm2 ts2 hS2 hL2
 obtain⟨k1,k2,k3,k4,k5⟩:=hS2
 have hlt:=(Array.getElem?_eq_some_iff.1 hl1).1
 have hl2:=k1.oth l (.loop { Zhg a D fn .ready none with state:=.busy }) (World.putObj_heap_same hlt) rfl
 refine⟨_,_,run_endRound none hl2,rfl,fm2,ts2.drop 1,?_,hL1.fle.trans hL2.fle,?_,?_⟩
 ·have k6:=k1.other (o':=.loop { Zhg a D fn .ready none with state:=.ready,pending:=none }) hl2 rfl hN
  cases ts2 with
  |nil=>have:=k6.len;simp at this
  |cons t0 rest=>
   have k7:=k6.pop
   have hbel:Below N0 W1 (w2.putObj l (.loop { Zhg a D fn .ready none with state:=.ready,pending:=none })):=
    ((g1.bel.trans (Zg1 hN hl1)).trans k1.bel).trans (Zg1 hN hl2)
   have hoth:∀ (b:Nat) (o:Obj),W1.heap[b]?=some o→ZuD o=true→(w2.putObj l (.loop { Zhg a D fn .ready none with state:=.ready,pending:=none })).heap[b]?=some o:=by
    intro b o hb ho
    by_cases hbl:b=l
    ·subst hbl
     rw[hl]at hb
     obtain rfl:=oi hb
     exact World.putObj_heap_same (Array.getElem?_eq_some_iff.1 hl2).1
    ·rw[World.putObj_heap_other (by omega)]
     refine k1.oth b o ?_ ho
     rw[World.putObj_heap_other (by omega)]
     exact g1.oth b o hb ho
   have k8:HR N0 W1 fm2 rest [f,opC J'] (w2.putObj l (.loop { Zhg a D fn .ready none with state:=.ready,pending:=none })):={ k7 with bel:=hbel,oth:=hoth }
   unfold Ztx
   rw[hJ']
   exact k8
 ·have h:=hL1.tle.trans hL2.tle
  simpa using h
 ·intro l' k' h
  exact hL2.no l' k' (hL1.no l' k' (by simpa using h))
theorem Zen (k:Nat) (d0:book_disk) (area1:Int) (r:book_journal×Bool) (h0:Zbh k d0 area1=some r):Za0 Try.prog 124 [.rptr 2 [book_disk.c d0] 0 0,.int .i64 area1] (fun y=>y=.tup [.agg (book_journal.c r.1),.bool r.2]):=by
 refine⟨⟨Try.f124,by rfl,by rfl,by rfl⟩,fun fm w vs hin hv=>?_⟩
 have hnt:Try.f124.ntmps=63:=by rfl
 refine callsIn_wide.1 (callsIn_of_wp_marks (F:=FW) (n:=0) (fn:=Try.f124) (c:=Zgw) (by rfl) (by rfl) trivial ?_)
 have hS:=SR.enter (HR.nothing hin) (vs:=vs) (args:=[.rptr 2 [book_disk.c d0] 0 0,.int .i64 area1]) (n:=Try.f124.ntmps) ⟨hv.1,fun i x v p q=>(hv.2 i x v p q).mono (Zdq.refl _) (ZaA.nil _)⟩ (by rw[hnt];simp)
 have e124:Zgw=.seq (Zdt Zgw) (.seq (Zdt (Za5 Zgw)) (.seq (Zdt (Za5 (Za5 Zgw))) (.seq (Zdt (Za5 (Za5 (Za5 Zgw)))) (.seq (Zdt (Za5 (Za5 (Za5 (Za5 Zgw))))) (.seq (Zdt (Za5 (Za5 (Za5 (Za5 (Za5 Zgw)))))) (.seq (.seq (Zdt (Zdt (Za5 (Za5 (Za5 (Za5 (Za5 (Za5 Zgw)))))))) (.block 0 Zmd)) (Za5 (Za5 (Za5 (Za5 (Za5 (Za5 (Za5 Zgw))))))))))))):=by rfl
 refine(show K Try.prog _ [.code Zgw] .normal _ w from ?_)
 rw[e124]
 refine ZjY ?_
 refine ZcO (t:=[.code (Zdt (Za5 Zgw)),.code (Zdt (Za5 (Za5 Zgw))),.code (Zdt (Za5 (Za5 (Za5 Zgw)))),.code (Zdt (Za5 (Za5 (Za5 (Za5 Zgw))))),.code (Zdt (Za5 (Za5 (Za5 (Za5 (Za5 Zgw)))))),.code (Zdt (Zdt (Za5 (Za5 (Za5 (Za5 (Za5 (Za5 Zgw)))))))),.code (.block 0 Zmd),.code (Za5 (Za5 (Za5 (Za5 (Za5 (Za5 (Za5 Zgw)))))))])
  (fun e a w h=>ZdP _ _ _ (ZcO (fun e a w h=>ZdP _ _ _ (ZcO (fun e a w h=>ZdP _ _ _ (ZcO (fun e a w h=>ZdP _ _ _ (ZcO (fun e a w h=>ZdP _ _ _ (ZcO (fun e a w h=>ZdP _ _ _ (ZdP _ _ _ h)) _ _ _ h)) _ _ _ h)) _ _ _ h)) _ _ _ h)) _ _ _ h)) _ _ _ ?_
 refine AK.segs (cs:=[.code (Zdt Zgw),.code (Zdt (Za5 Zgw)),.code (Zdt (Za5 (Za5 Zgw))),.code (Zdt (Za5 (Za5 (Za5 Zgw)))),.code (Zdt (Za5 (Za5 (Za5 (Za5 Zgw))))),.code (Zdt (Za5 (Za5 (Za5 (Za5 (Za5 Zgw)))))),.code (Zdt (Zdt (Za5 (Za5 (Za5 (Za5 (Za5 (Za5 Zgw))))))))])
  (t:=[.code (.block 0 Zmd),.code (Za5 (Za5 (Za5 (Za5 (Za5 (Za5 (Za5 Zgw)))))))]) (todo:=[.sc F124.o0,.sc F124.o1,.sc F124.o2,.sc F124.o3,.sc F124.o4,.sc F124.o5,.sc F124.o6]) hS (Ztd k d0 area1 r h0)
  (fun R hR=>.sc (by rfl) (by rfl) (.sc (by rfl) (by rfl) (.sc (by rfl) (by rfl) (.sc (by rfl) (by rfl) (.sc (by rfl) (by rfl) (.sc (by rfl) (by rfl) (.sc (by rfl) (by rfl) (.back hR .nil)))))))) ?_ ?_
 rotate_left
 ·
  rintro e st a w2 fm2 ts2 ⟨rfl,rfl,hE⟩ hS2 hL2
  refine Zdg ?_ _
  obtain⟨u,fm3,h1,h2,h3,h4⟩:=Zr0 (P:=Try.prog) Za9 hS2 hE
  show LeavesInM FW 0 Try.prog Try.f124 a.tmps _ a.defers .returning w2
  rw[hS2.dfr]
  exact⟨u,h1,u,_,fm3,rfl,rfl,h3,h2,hL2.fle.trans h4,hS2.hr.bel⟩
 ·rintro st0 a0 w0 fm0 ts0 ⟨e,x3,x4,xs,J,hxs,hJ,rfl,hw⟩ hS0 hL0
  obtain⟨fm1,ts1,hS1,hL1⟩:=hw _ _ _ _ _ _ hS0
  have hL01:=hL0.trans hL1
  obtain⟨tc,rfl⟩:∃ tc,ts1=[tc]:=by
   have:=hS1.hr.len
   match ts1,this with
   |[tc],_=>exact⟨tc,rfl⟩
  refine Zjg ?_
  have e2:Zmd=.rangeFunc (.tmp 41) #[42,43] (Zui Zmd) (Zuj Zmd):=by rfl
  rw[e2]
  refine(show (Code.rangeFunc (.tmp 41) #[42,43] (Zui Zmd) (Zuj Zmd)).wpIn FW 0 Try.prog (K Try.prog _ [.blk 0,.code (Za5 (Za5 (Za5 (Za5 (Za5 (Za5 (Za5 Zgw)))))))]) a0 w0 from ?_)
  refine wpIn_rangeFunc ?_
  intro fn _
  obtain⟨v41,h41,r41⟩:=hS1.tm 41 (Zft d0 area1) rfl
  obtain⟨p9,h9,r9⟩:=hS1.tm 9 (.ptr 0 1 0) rfl
  obtain⟨c9,rfl,hc9⟩:∃ c9,p9=.pointer (some ⟨c9,0,none⟩)∧tc 1=some (.box c9):=by
   cases r9 with
   |ptr _ _ _ c h=>exact⟨c,rfl,h⟩
  obtain⟨vd,va,rfl,hd,ha⟩:∃ vd va,v41=.func (.func 153) #[] #[vd,va]∧VR fm1 [] (.rptr 1 [[.rptr 2 [book_disk.c d0] 0 0]] 0 0) vd∧VR fm1 [] (.rptr 1 [[.int .i64 area1]] 0 0) va:=by
   have hb:VR fm1 [] (Zft d0 area1) v41:=(hS1.hr.bareL (VRs.one r41) (ys:=[Zft d0 area1]) (by simp only[Zft,AV.frzL,AV.frz])).2 0 _ _ rfl rfl
   unfold Zft at hb
   cases hb with
   |fn f first cap vf vc h1 h2 h3 h4=>
    have e1:vf=#[]:=Array.size_eq_zero_iff.1 (by simpa using h1.symm)
    obtain⟨l,rfl⟩:∃ l,vc=l.toArray:=⟨vc.toList,by simp⟩
    match l,h2,h4 with
    |[vd,va],h2,h4=>exact⟨vd,va,by rw[e1],h4 0 _ vd rfl rfl,h4 1 _ va rfl rfl⟩
  have hN1:w.heap.size≤w0.heap.size:=hS1.hr.size
  obtain⟨rec,hrec⟩:∃ rec,rec=Zhg a0 w0.heap.size fn .ready none:=⟨_,rfl⟩
  obtain⟨W1,hW1⟩:∃ W1,W1=(w0.alloc (.deferred (some []))).alloc (.loop rec):=⟨_,rfl⟩
  have hl:W1.heap[w0.heap.size+1]?=some (.loop rec):=by
   rw[hW1];have:=World.alloc_heap_new (w0.alloc (.deferred (some []))) (.loop rec);rwa [World.size_alloc]at this
  have hD:W1.heap[w0.heap.size]?=some (.deferred (some [])):=by
   rw[hW1];exact(Below.heap_alloc _ _ _ (by simp)).trans (World.alloc_heap_new w0 _)
  have hr1:HR w.heap.size W1 fm1 [tc] [Ztx k (ZkK d0 area1 e) []] W1:=by
   rw[hW1];exact((hS1.hr.alloc _).alloc _).rebase
  have hbW:Below w.heap.size w W1:=by
   rw[hW1];exact(hS1.hr.bel.alloc hN1 _).alloc (by simp;omega) _
  have hv41:a0.eval (.tmp 41)=.func (.func 153) #[] #[vd,va]:=by simp[Act.eval,Array.getD_eq_getD_getElem?,h41]
  refine⟨w0.heap.size+1,[{ target:=.collected w0.heap.size,args:=#[] }],W1,{ target:=.fn (.func 153) #[vd,va],args:=#[.func (.yield (w0.heap.size+1)) #[] #[]] },W1,153,
   #[.func (.yield (w0.heap.size+1)) #[] #[]]++#[vd,va],W1,?_,?_,?_,?_,(fun h=>by simp[FW]at h),?_⟩
  ·rw[hW1,hrec];exact run_enterLoop_outer _ _ _ _ _
  ·simp[resolve,Deferred.ofValue,Act.eval,h41]
  ·intro f' hf';trivial
  ·simp[invoke,callFunc];rfl
  refine callsIn_wide.2 ?_
  refine(Zvq k d0 area1 xs hxs (Zvv k (ZkK d0 area1 e) xs J hJ (by omega) hS1.size (by rw[hl,hrec]) hc9 h9) hr1 hd ha).mono ?_
  rintro e3 w3 ⟨⟨v,rfl⟩,fm3,ts3,hr3,hup3,hts3,hno3⟩
  have hNl:w.heap.size≤w0.heap.size+1:=by omega
  have hl3:=hr3.oth _ _ hl rfl
  refine⟨_,_,run_endLoop hl3 (by rw[hrec];simp[Zhg]),?_⟩
  have hr4:=hr3.other (o':=.loop { rec with state:=.exhausted }) hl3 rfl hNl
  have hC:Ztx k (ZkK d0 area1 e) xs=opC J:=by unfold Ztx;rw[hJ];rfl
  rw[hC]at hr4
  have hD4:(w3.putObj (w0.heap.size+1) (.loop { rec with state:=.exhausted })).heap[w0.heap.size]?=some (.deferred (some [])):=by
   rw[World.putObj_heap_other (by omega)];exact hr3.oth _ _ hD rfl
  have hb4:Below w.heap.size w3 (w3.putObj (w0.heap.size+1) (.loop { rec with state:=.exhausted })):=Zg1 hNl hl3
  generalize hw4:w3.putObj (w0.heap.size+1) (.loop { rec with state:=.exhausted })=w4 at hr4 hD4 hb4 ⊢
  have hpend:rec.pending=none:=by rw[hrec];rfl
  rw[hpend]
  refine(show K Try.prog _ [.code (Za5 (Za5 (Za5 (Za5 (Za5 (Za5 (Za5 Zgw)))))))] .normal _ w4 from ?_)
  have hSR:@SR ⟨none,[{ target:=.collected w0.heap.size,args:=#[] }]⟩ w.heap.size w4 Try.f124.ntmps (opR J (Zeg x3 x4)) { a0 with defers:=[{ target:=.collected w0.heap.size,args:=#[] }]++a0.defers } w4 fm3 ts3:=by
   have hdf:=hS1.dfr
   refine @SR.mk ⟨none,[{ target:=.collected w0.heap.size,args:=#[] }]⟩ _ _ _ _ _ _ _ _ hr4 ?_ (fun k hk=>hno3 0 k (hS1.nx k hk)) hS1.size ?_
   ·intro t x hx
    have hx':look (Zv5 d0 area1 e (Zeg x3 x4)).tm t=some x:=Zip (a:=(opR J (Zeg x3 x4)).tm) [(41,Zft d0 area1)] hx
    obtain⟨u,h1,h2⟩:=hS1.tm t x hx'
    exact⟨u,h1,h2.mono hup3.le hts3⟩
   ·show [_]++a0.defers=_
    rw[hdf];rfl
  rw[ZuF md0 ⟨none,[{ target:=.collected w0.heap.size,args:=#[] }]⟩ rfl]
  refine @AK.last ⟨none,[{ target:=.collected w0.heap.size,args:=#[] }]⟩ _ _ _ _ _ _ _ _ _ _ (fun e st=>e=.ret∧Zlp T Try.f124.results.toList (fun y=>NL y (.tup [.agg (book_journal.c J),.bool (decide (J.records≥Zeg x3 x4))])) .ret st) _ F124.o7 hSR
   (@Zte ⟨none,[{ target:=.collected w0.heap.size,args:=#[] }]⟩ J (Zeg x3 x4)) (by rfl) (by rfl) ?_
  rintro e5 st5 a5 w5 fm5 ts5 ⟨rfl,hE⟩ hS5 hL5
  obtain⟨s1,s2,s3,s4,s5⟩:=hS5
  have s5':a5.defers=[{ target:=.collected w0.heap.size,args:=#[] }]:=s5
  have hD5:=s1.oth _ _ hD4 rfl
  show LeavesInM FW 0 Try.prog Try.f124 a5.tmps _ a5.defers .returning w5
  rw[s5']
  refine⟨by simp,.inl ⟨w0.heap.size,_,rfl,run_takeDeferred hD5,?_⟩⟩
  have hS6:@SR md0 w.heap.size (w5.putObj w0.heap.size (.deferred none)) Try.f124.ntmps st5 { a5 with defers:=[] } (w5.putObj w0.heap.size (.deferred none)) fm5 ts5:=@SR.mk md0 _ _ _ _ _ _ _ _ (s1.other hD5 rfl hN1) s2 s3 s4 rfl
  obtain⟨u,fm6,h1,h2,h3,h4⟩:=Zr0 (P:=Try.prog) Za9 hS6 hE
  exact⟨u,h1,u,_,fm6,rfl,rfl,h3,h2,((hL01.fle.trans hup3).trans hL5.fle).trans h4,(((hbW.trans hr3.bel).trans hb4).trans s1.bel).trans (Zg1 hN1 hD5)⟩
def F80.c:SC:=
 (.seq
 (.reg [oq 2 (.alloc 145) 0 [],
 sb 3 false 4 [3]])
 (.seq
 (.reg [mv 9 0 130 [],
 oq 10 (.call ⟨.value (.func 124),#[.tmp 9,.const (.int .i64 0)],#[130,3]⟩) 146 [9],
 mv 8 10 146 [10],
 xt 11 8 0 145 [],
 xt 12 8 1 4 [8],
 oq 4 (.alloc 145) 0 [],
 ⟨none,.store 145 (.tmp 4) (.tmp 11),0,none,[11]⟩,
 sg 5 12 4 [12]])
 (.seq
 (.reg [mv 14 0 130 [0],
 oq 15 (.call ⟨.value (.func 124),#[.tmp 14,.const (.int .i64 1)],#[130,3]⟩) 146 [14],
 mv 13 15 146 [15],
 xt 16 13 0 145 [],
 xt 17 13 1 4 [13],
 oq 6 (.alloc 145) 0 [],
 ⟨none,.store 145 (.tmp 6) (.tmp 16),0,none,[16]⟩,
 sg 7 17 4 [17]])
 (.seq
 (.seq
 (.reg [mv 18 7 4 [7],
 mv 19 18 4 [18],
 og 20 (.move (.tmp 5)) 4 19 true [],
 og 21 (.unOp .not 4 (.tmp 20)) 4 19 true [20],
 og 22 (.move (.tmp 21)) 4 19 true [21],
 og 23 (.fieldAddr 145 (.tmp 6) 2) 0 22 false [],
 og 24 (.load 3 (.tmp 23)) 3 22 false [23],
 og 25 (.fieldAddr 145 (.tmp 4) 2) 0 22 false [],
 og 26 (.load 3 (.tmp 25)) 3 22 false [25],
 og 27 (.binOp .gtr 3 (.tmp 24) (.tmp 26) 3) 4 22 false [24,26],
 og 28 (.pick (.tmp 22) (.const (.bool true)) (.tmp 27)) 4 19 true [22,27],
 oq 29 (.pick (.tmp 19) (.tmp 28) (.const (.bool false))) 4 [19,28]])
 (.cond (.tmp 29)
 (.seq
 (.reg [ld 30 145 6 [6],
 ⟨none,.store 145 (.tmp 2) (.tmp 30),0,none,[30]⟩,
 sb 3 true 4 []])
 .ret)
 .skip))
 (.seq
 (.reg [ld 31 145 4 [4],
 mv 32 5 4 [5],
 ⟨none,.store 145 (.tmp 2) (.tmp 31),0,none,[31]⟩,
 sg 3 32 4 [32]])
 .ret)))))
theorem F80.rs:Try.f80.results.toList=[.cell 2 145,.tmp 3]:=rfl
def ZbI (k:Nat) (d0:book_disk):Option (book_journal×Bool):=
 (Zbh k d0 0).bind fun x1=>
 (Zbh k d0 1).bind fun x2=>
 bif x2.2 then
  bif x1.2 then
   bif decide (x1.1.epoch<x2.1.epoch) then
    some (x2.1,true)
   else
    some (x1.1,true)
  else
   some (x2.1,true)
 else
  some (x1.1,x1.2)
theorem ZdT (k:Nat) (d0:book_disk) (r:book_journal×Bool) (h0:ZbI k d0=some r):Za0 Try.prog 80 [.rptr 2 [book_disk.c d0] 0 0] (fun y=>y=.tup [.agg (book_journal.c r.1),.bool r.2]):=by
 refine PB (fn:=Try.f80) (sc:=F80.c) ?_
 refine rS ?_
 simp only[ZbI]at h0
 try simp only[F80.c,go_sem]
 obtain⟨x1,yx1,h0⟩:=bs h0
 refine zc0 (Zen k _ _ _ yx1) ?_ (by first|rfl|(simp[AV.refsL,AV.refs,AV.scal,AV.leaf];done)|simp[AV.refsL,AV.refs,AV.scal,AV.leaf,go_sem]) ?_
 try simp only[go_sem]
 try simp only[go_sem]
 obtain⟨x2,yx2,h0⟩:=bs h0
 refine zc0 (Zen k _ _ _ yx2) ?_ (by first|rfl|(simp[AV.refsL,AV.refs,AV.scal,AV.leaf];done)|simp[AV.refsL,AV.refs,AV.scal,AV.leaf,go_sem]) ?_
 try simp only[go_sem]
 try simp only[go_sem]
 refine Zab h0 ?_ ?_<;>intro c3 h0
 try simp only[c3,go_sem]
 refine Zab h0 ?_ ?_<;>intro c4 h0
 try simp only[c4,c3,go_sem]
 refine Zab h0 ?_ ?_<;>intro c5 h0
 try simp only[c5,c3,c4,go_sem]
 obtain rfl:=oi h0
 refine Zad rfl ?_
 try simp only[F80.rs,c3,c4,c5,go_sem]
 try simp only[c5,c3,c4,go_sem]
 obtain rfl:=oi h0
 refine Zad rfl ?_
 try simp only[F80.rs,c3,c4,c5,go_sem]
 try simp only[c4,c3,go_sem]
 obtain rfl:=oi h0
 refine Zad rfl ?_
 try simp only[F80.rs,c3,c4,go_sem]
 try simp only[c3,go_sem]
 obtain rfl:=oi h0
 refine Zad rfl ?_
 try simp only[F80.rs,c3,go_sem]
def F81.s0:SC:=
 (.seq
 (.reg [b2 14 .lss 3 13 12 3 0 []])
 (.seq
 (.cond (.tmp 14)
 .skip
 (.exit 0))
 (.seq
 (.block 1
 (.seq
 (.reg [mv 15 13 3 [],
 sg 5 15 3 [15]])
 (.seq
 (.dreg [mv 16 0 44 [],
 mv 17 5 3 [],
 ia 18 44 16 17 [],
 ld 19 25 18 [],
 mv 20 1 44 [],
 mv 21 5 3 [],
 ia 22 44 20 21 [],
 ld 23 25 22 [],
 b2 24 .neq 25 19 23 25 4 []] [[],[],[0,1],[0,1,2],[],[],[4,5],[4,5,6],[0,1,2,3,4,5,6,7]] [5,16,17,18,19,20,21,22,23])
 (.cond (.tmp 24)
 (.seq
 (.reg [sb 4 false 4 []])
 .ret)
 .skip))))
 (.reg [bn 25 .add 3 13 1 3 3 [13],
 mv 13 25 3 [25]]))))
def F81.c:SC:=
 (.seq
 (.reg [sb 4 false 4 [4]])
 (.seq
 (.seq
 (.reg [mv 6 0 44 [],
 ln 7 6 44 3 [6],
 mv 8 1 44 [],
 ln 9 8 44 3 [8],
 b2 10 .neq 3 7 9 3 4 [7,9]])
 (.cond (.tmp 10)
 (.seq
 (.reg [sb 4 false 4 []])
 .ret)
 .skip))
 (.seq
 (.seq
 (.reg [mv 11 0 44 [],
 ln 12 11 44 3 [11],
 oq 13 (.move (.const (.int .i64 0))) 3 []])
 (.block 0
 (.loop F81.s0)))
 (.seq
 (.reg [sb 4 true 4 []])
 .ret))))
theorem F81.rs:Try.f81.results.toList=[.tmp 4]:=rfl
def Zal.b0 (k:Nat) (s10:(List Record)) (s21:(List Record)):Int→Option (Stp (Int) (Unit) (Bool)):=fun(i2:Int)=>
 bif decide (i2<(s10.length:Int)) then
  (at? s10 i2).bind fun x4=>
  (at? s21 i2).bind fun x5=>
  bif (!(decide (x4.At.House=x5.At.House)&&(decide (x4.At.No=x5.At.No)&&(decide (x4.Kind=x5.Kind)&&(decide (x4.Day=x5.Day)&&(decide (x4.Known=x5.Known)&&(decide (x4.Of.House=x5.Of.House)&&(decide (x4.Of.No=x5.Of.No)&&(x4.Text.toList==x5.Text.toList))))))))) then
   some (.ret false)
  else
   some (.next (w64 (i2+1)))
 else
  some (.brk ())
noncomputable def Zal.h0 (s10:(List Record)) (s21:(List Record)):Int→St:=fun(i2:Int)=>⟨[(0,.sl 8 (List.map Record.c s10)),(1,.sl 8 (List.map Record.c s21)),(12,.int .i64 (s10.length:Int)),(13,.int .i64 i2)],[],[],1,Try.f81.ntmps⟩
noncomputable def Zal.x0:Unit→St:=fun(_:Unit)=>⟨[],[],[],1,Try.f81.ntmps⟩
def Zal (k:Nat) (s10:(List Record)) (s21:(List Record)):Option (Bool):=
 bif (!decide ((s10.length:Int)=(s21.length:Int))) then
  some false
 else
  (whl (Zal.b0 k s10 s21) k 0).bind fun r7=>match r7 with
  |.next _=>none
  |.ret v_=>some v_
  |.brk _=>
   some true
theorem ZdO (k:Nat) (s10:(List Record)) (s21:(List Record)) (r:Bool) (h0:Zal k s10 s21=some r):Za0 Try.prog 81 [.sl 8 (List.map Record.c s10),.sl 8 (List.map Record.c s21)] (fun y=>y=.bool r):=by
 refine PB (fn:=Try.f81) (sc:=F81.c) ?_
 refine rS ?_
 simp only[Zal]at h0
 try simp only[F81.c,go_sem]
 refine Zab h0 ?_ ?_<;>intro c1 h0
 have c1:=ZaY c1
 try simp only[c1,go_sem]
 obtain rfl:=oi h0
 refine Zad rfl ?_
 try simp only[F81.rs,c1,go_sem]
 have c1:=ZaX c1
 try simp only[c1,go_sem]
 obtain⟨r7,yr7,h0⟩:=bs h0
 refine Zay yr7 (Zal.h0 s10 s21) (Zal.x0) ?_ ?_ ?_
 refine Za7.go [0,1,12,13] [] rfl ?_
 try simp only[Zal.h0,c1,go_sem]
 rintro i2 x_1 Bk1 Br1 h1 hnext1 hbrk1 hret1
 refine rS ?_
 simp only[Zal.b0]at h1
 try simp only[F81.s0,Zal.h0,c1,go_sem]
 refine Zab h1 ?_ ?_<;>intro c3 h1
 try simp only[c3,c1,go_sem]
 refine Zat Za9 Zau 1000 ?_
 try simp only[c1,c3,go_sem]
 obtain⟨x4,yx4,h1⟩:=bs h1
 try simp only[aa yx4,c1,c3,go_sem]
 obtain⟨x5,yx5,h1⟩:=bs h1
 try simp only[aa yx5,c1,c3,aa yx4,go_sem]
 refine ZaB ⟨ZaC (by simp only[ZdN,List.reverse_cons,List.reverse_nil,List.nil_append,List.cons_append,List.map_cons,List.map_nil,List.append_nil];rfl) (by first|decide +kernel|rfl),Zag Za9 1000 _ _ ?_⟩
 try simp only[c1,c3,aa yx4,aa yx5,go_sem]
 refine Zab h1 ?_ ?_<;>intro c6 h1
 have c6:=ZaY c6
 try simp only[c6,c1,c3,aa yx4,aa yx5,go_sem]
 obtain rfl:=hret1 _ (oi h1).symm
 simp only at h0
 obtain rfl:=oi h0
 refine Zad rfl ?_
 try simp only[F81.rs,c1,c3,aa yx4,aa yx5,c6,go_sem]
 have c6:=ZaX c6
 try simp only[c6,c1,c3,aa yx4,aa yx5,go_sem]
 refine Zaf (hnext1 _ _ (oi h1).symm ?_)
 refine Za7.go [0,1,12,13] [] rfl ?_
 try simp only[Zal.h0,c1,c3,aa yx4,aa yx5,c6,go_sem]
 try simp only[c3,c1,go_sem]
 refine Zaf (hbrk1 _ _ (oi h1).symm ?_)
 refine Za7.go [] [] rfl ?_
 try simp only[Zal.x0,c1,c3,go_sem]
 rintro _ hr_
 subst hr_
 simp only at h0
 refine rS ?_
 try simp only[Zal.x0,c1,go_sem]
 obtain rfl:=oi h0
 refine Zad rfl ?_
 try simp only[F81.rs,c1,go_sem]
def F82.s0:SC:=
 (.seq
 (.seq
 (.reg [mv 10 8 3 [],
 bn 11 .lss 3 10 602 3 4 [10]])
 (.cond (.tmp 11)
 .skip
 (.exit 0)))
 (.seq
 (.block 1
 (.reg [mv 14 7 3 [7],
 mv 15 0 130 [],
 mv 16 1 3 [],
 mv 17 8 3 [],
 oq 18 (.call ⟨.value (.func 125),#[.tmp 15,.tmp 16,.tmp 17],#[130,3,3]⟩) 126 [15,16,17],
 cf1 19 126 18 126 3 [18],
 oq 20 (.call ⟨.builtin .max,#[.tmp 14,.tmp 19],#[3,3]⟩) 3 [14,19],
 sg 7 20 3 [20]]))
 (.reg [mv 12 8 3 [8],
 bn 13 .add 3 12 1 3 3 [12],
 sg 8 13 3 [13]])))
def F82.c:SC:=
 (.seq
 (.reg [sn 6 0 3 [6]])
 (.seq
 (.reg [sn 7 0 3 []])
 (.seq
 (.seq
 (.reg [mv 9 2 3 [2],
 sg 8 9 3 [9]])
 (.block 0
 (.loop F82.s0)))
 (.seq
 (.reg [mv 21 7 3 [7],
 sg 6 21 3 [21]])
 .ret))))
theorem F82.rs:Try.f82.results.toList=[.tmp 6]:=rfl
def Zan.b0 (k:Nat) (d0:book_disk) (area1:Int):(Int×Int)→Option (Stp (Int×Int) (Int) (Int)):=fun(s:Int×Int)=>match s with
 |(i1,i2)=>
   bif decide (i2<(602:Int)) then
    (ZaM k d0 area1 i2).bind fun x5=>
    (ZaZ k x5).bind fun x6=>
    some (.next (max i1 x6,w64 (i2+1)))
   else
    some (.brk i1)
noncomputable def Zan.h0 (d0:book_disk) (area1:Int):(Int×Int)→St:=fun(s:Int×Int)=>match s with
 |(i1,i2)=>⟨[(0,.rptr 2 [book_disk.c d0] 0 0),(1,.int .i64 area1),(7,.int .i64 i1),(8,.int .i64 i2)],[],[],1,Try.f82.ntmps⟩
noncomputable def Zan.x0:Int→St:=fun(i3:Int)=>⟨[(7,.int .i64 i3)],[],[],1,Try.f82.ntmps⟩
def Zan (k:Nat) (d0:book_disk) (area1:Int) (from2:Int):Option (Int):=
 (whl (Zan.b0 k d0 area1) k (0,from2)).bind fun r7=>match r7 with
 |.next _=>none
 |.ret v_=>some v_
 |.brk i3=>
  some i3
theorem Zb8 (k:Nat) (d0:book_disk) (area1:Int) (from2:Int) (r:Int) (h0:Zan k d0 area1 from2=some r):Za0 Try.prog 82 [.rptr 2 [book_disk.c d0] 0 0,.int .i64 area1,.int .i64 from2] (fun y=>y=.int .i64 r):=by
 refine PB (fn:=Try.f82) (sc:=F82.c) ?_
 refine rS ?_
 simp only[Zan]at h0
 try simp only[F82.c,go_sem]
 obtain⟨r7,yr7,h0⟩:=bs h0
 refine Zay yr7 (Zan.h0 d0 area1) (Zan.x0) ?_ ?_ ?_
 refine Za7.go [0,1,7,8] [] rfl ?_
 try simp only[Zan.h0,go_sem]
 rintro⟨i1,i2⟩ x_1 Bk1 Br1 h1 hnext1 hbrk1 hret1
 refine rS ?_
 simp only[Zan.b0]at h1
 try simp only[F82.s0,Zan.h0,go_sem]
 refine Zab h1 ?_ ?_<;>intro c4 h1
 try simp only[c4,go_sem]
 obtain⟨x5,yx5,h1⟩:=bs h1
 refine zc0 (Zbt k _ _ _ _ yx5) ?_ (by first|rfl|(simp[AV.refsL,AV.refs,AV.scal,AV.leaf];done)|simp[AV.refsL,AV.refs,AV.scal,AV.leaf,go_sem]) ?_
 try simp only[c4,go_sem]
 try simp only[c4,go_sem]
 obtain⟨x6,yx6,h1⟩:=bs h1
 refine zc0 (ZbV k _ _ yx6) ?_ (by first|rfl|(simp[AV.refsL,AV.refs,AV.scal,AV.leaf];done)|simp[AV.refsL,AV.refs,AV.scal,AV.leaf,go_sem]) ?_
 try simp only[c4,go_sem]
 try simp only[c4,go_sem]
 refine Zaf (hnext1 _ _ (oi h1).symm ?_)
 refine Za7.go [0,1,7,8] [] rfl ?_
 try simp only[Zan.h0,c4,go_sem]
 try simp only[c4,go_sem]
 refine Zaf (hbrk1 _ _ (oi h1).symm ?_)
 refine Za7.go [7] [] rfl ?_
 try simp only[Zan.x0,c4,go_sem]
 rintro i3 hr_
 subst hr_
 simp only at h0
 refine rS ?_
 try simp only[Zan.x0,go_sem]
 obtain rfl:=oi h0
 refine Zad rfl ?_
 try simp only[F82.rs,go_sem]
def F24.c:SC:=
 (.seq
 (.reg [oq 2 (.box 42 (.tmp 0)) 0 [0],
 oq 3 (.box 48 (.tmp 1)) 0 [1],
 sn 4 0 28 [4]])
 (.seq
 (.seq
 (.reg [ld 8 42 2 [],
 cf1 9 78 8 42 4 [8],
 oq 10 (.unOp .not 4 (.tmp 9)) 4 [9]])
 (.cond (.tmp 10)
 (.seq
 (.reg [sn 4 94 28 []])
 .ret)
 .skip))
 (.seq
 (.reg [ld 11 42 2 [2],
 cf1 12 72 11 42 130 [11],
 cf1 13 79 12 130 130 [12],
 sg 5 13 130 [13]])
 (.seq
 (.reg [mv 15 5 130 [],
 cf1 16 80 15 130 146 [15],
 mv 14 16 146 [16],
 xt 17 14 0 145 [],
 xt 18 14 1 4 [14],
 oq 6 (.alloc 145) 0 [],
 ⟨none,.store 145 (.tmp 6) (.tmp 17),0,none,[17]⟩,
 sg 7 18 4 [18]])
 (.seq
 (.seq
 (.reg [mv 19 7 4 [7],
 oq 20 (.unOp .not 4 (.tmp 19)) 4 [19],
 mv 21 20 4 [20],
 og 22 (.fieldAddr 48 (.tmp 3) 1) 0 21 false [],
 og 23 (.load 3 (.tmp 22)) 3 21 false [22],
 og 24 (.fieldAddr 145 (.tmp 6) 1) 0 21 false [],
 og 25 (.load 3 (.tmp 24)) 3 21 false [24],
 og 26 (.binOp .neq 3 (.tmp 23) (.tmp 25) 3) 4 21 false [23,25],
 oq 27 (.pick (.tmp 21) (.const (.bool true)) (.tmp 26)) 4 [21,26],
 mv 28 27 4 [27],
 og 29 (.fieldAddr 48 (.tmp 3) 3) 0 28 false [],
 og 30 (.load 3 (.tmp 29)) 3 28 false [29],
 og 31 (.fieldAddr 145 (.tmp 6) 3) 0 28 false [],
 og 32 (.load 3 (.tmp 31)) 3 28 false [31],
 og 33 (.binOp .neq 3 (.tmp 30) (.tmp 32) 3) 4 28 false [30,32],
 oq 34 (.pick (.tmp 28) (.const (.bool true)) (.tmp 33)) 4 [28,33],
 mv 35 34 4 [34],
 og 36 (.fieldAddr 48 (.tmp 3) 0) 0 35 false [],
 og 37 (.fieldAddr 46 (.tmp 36) 0) 0 35 false [36],
 og 38 (.load 44 (.tmp 37)) 44 35 false [37],
 og 39 (.fieldAddr 145 (.tmp 6) 4) 0 35 false [],
 og 40 (.fieldAddr 46 (.tmp 39) 0) 0 35 false [39],
 og 41 (.load 44 (.tmp 40)) 44 35 false [40],
 og 42 (.call ⟨.value (.func 81),#[.tmp 38,.tmp 41],#[44,44]⟩) 4 35 false [38,41],
 og 43 (.unOp .not 4 (.tmp 42)) 4 35 false [42],
 oq 44 (.pick (.tmp 35) (.const (.bool true)) (.tmp 43)) 4 [35,43],
 mv 45 44 4 [44],
 og 46 (.fieldAddr 48 (.tmp 3) 2) 0 45 false [],
 og 47 (.load 3 (.tmp 46)) 3 45 false [46],
 og 48 (.call ⟨.value (.func 65),#[.tmp 47,.const (.int .i64 1),.const (.int .i64 1000000)],#[3,3,3]⟩) 4 45 false [47],
 og 49 (.unOp .not 4 (.tmp 48)) 4 45 false [48],
 oq 50 (.pick (.tmp 45) (.const (.bool true)) (.tmp 49)) 4 [45,49]])
 (.cond (.tmp 50)
 (.seq
 (.reg [sn 4 94 28 []])
 .ret)
 .skip))
 (.seq
 (.seq
 (.dreg [fa 51 48 3 2 [],
 ld 52 3 51 [],
 mv 53 5 130 [],
 oq 54 (.call ⟨.value (.func 82),#[.tmp 53,.const (.int .i64 0),.const (.int .i64 0)],#[130,3,3]⟩) 3 [],
 mv 55 5 130 [],
 oq 56 (.call ⟨.value (.func 82),#[.tmp 55,.const (.int .i64 1),.const (.int .i64 0)],#[130,3,3]⟩) 3 [],
 oq 57 (.call ⟨.builtin .max,#[.tmp 54,.tmp 56],#[3,3]⟩) 3 [],
 b2 58 .lss 3 52 57 3 4 [],
 mv 59 58 4 [],
 og 60 (.fieldAddr 48 (.tmp 3) 2) 0 59 false [],
 og 61 (.load 3 (.tmp 60)) 3 59 false [],
 og 62 (.move (.tmp 5)) 130 59 false [],
 og 63 (.fieldAddr 145 (.tmp 6) 1) 0 59 false [],
 og 64 (.load 3 (.tmp 63)) 3 59 false [],
 og 65 (.fieldAddr 145 (.tmp 6) 3) 0 59 false [],
 og 66 (.load 3 (.tmp 65)) 3 59 false [],
 og 67 (.call ⟨.value (.func 82),#[.tmp 62,.tmp 64,.tmp 66],#[130,3,3]⟩) 3 59 false [],
 og 68 (.binOp .leq 3 (.tmp 61) (.tmp 67) 3) 4 59 false [],
 oq 69 (.pick (.tmp 59) (.const (.bool true)) (.tmp 68)) 4 []] [[],[0],[],[2],[],[4,2,3],[2,3,4,5],[0,1,2,3,4,5,6],[0,1,2,3,4,5,6,7],[0,1,2,3,4,5,6,7,8],[0,1,2,3,4,5,6,7,8,9],[0,1,2,3,4,5,6,7,8],[0,1,2,3,4,5,6,7,8],[0,1,2,3,4,5,6,7,8,12],[0,1,2,3,4,5,6,7,8],[0,1,2,3,4,5,6,7,8,14],[0,1,2,3,4,5,6,7,8,11,12,13,14,15],[0,1,2,3,4,5,6,7,8,9,10,11,12,13,14,15,16],[0,1,2,3,4,5,6,7,8,9,10,11,12,13,14,15,16,17]] [3,5,6,51,52,53,54,55,56,57,58,59,60,61,62,63,64,65,66,67,68])
 (.cond (.tmp 69)
 (.seq
 (.reg [sn 4 94 28 []])
 .ret)
 .skip))
 (.seq
 (.reg [sn 4 0 28 []])
 .ret)))))))
theorem F24.rs:Try.f24.results.toList=[.tmp 4]:=rfl
def Zb5 (k:Nat) (d0:Disk) (l1:Ledger):Option (Int):=
 (ZbZ k d0).bind fun x1=>
 bif (!x1) then
  some 94
 else
  (Zbd k d0).bind fun x4=>
  (Zaq k x4).bind fun x6=>
  (ZbI k (⟨(⟨x6.Disk.Pages,[]⟩:Disk)⟩:book_disk)).bind fun x7=>
  bif x7.2 then
   bif decide (l1.Area=x7.1.area) then
    bif decide (l1.Used=x7.1.used) then
     (Zal k l1.Book.Records x7.1.book.Records).bind fun x11=>
     bif x11 then
      (ZaH k l1.Epoch 1 1000000).bind fun x13=>
      bif (!x13) then
       some 94
      else
       (Zan k (⟨(⟨x6.Disk.Pages,[]⟩:Disk)⟩:book_disk) 0 0).bind fun x15=>
       (Zan k (⟨(⟨x6.Disk.Pages,[]⟩:Disk)⟩:book_disk) 1 0).bind fun x16=>
       bif (!decide (l1.Epoch<max x15 x16)) then
        (Zan k (⟨(⟨x6.Disk.Pages,[]⟩:Disk)⟩:book_disk) x7.1.area x7.1.used).bind fun x18=>
        bif decide (l1.Epoch≤x18) then
         some 94
        else
         some 0
       else
        some 94
     else
      some 94
    else
     some 94
   else
    some 94
  else
   some 94
theorem ZdB (k:Nat) (d0:Disk) (l1:Ledger) (r:Int) (h0:Zb5 k d0 l1=some r):Za0 Try.prog 24 [.agg (Disk.c d0),.agg (Ledger.c l1)] (fun y=>y=.int .i64 r):=by
 refine PB (fn:=Try.f24) (sc:=F24.c) ?_
 refine rS ?_
 simp only[Zb5]at h0
 try simp only[F24.c,go_sem]
 obtain⟨x1,yx1,h0⟩:=bs h0
 refine zc0 (Zdb k _ _ yx1) ?_ (by first|rfl|(simp[AV.refsL,AV.refs,AV.scal,AV.leaf];done)|simp[AV.refsL,AV.refs,AV.scal,AV.leaf,go_sem]) ?_
 try simp only[go_sem]
 try simp only[go_sem]
 refine Zab h0 ?_ ?_<;>intro c2 h0
 have c2:=ZaY c2
 try simp only[c2,go_sem]
 obtain rfl:=oi h0
 refine Zad rfl ?_
 try simp only[F24.rs,c2,go_sem]
 have c2:=ZaX c2
 try simp only[c2,go_sem]
 obtain⟨x4,yx4,h0⟩:=bs h0
 refine Zd9 Za9 1000 [] [] (Zbq k _ _ yx4) ?_ rfl ?_
 try simp only[gOK,c2,go_sem]
 try simp only[c2,go_sem]
 obtain⟨x6,yx6,h0⟩:=bs h0
 refine Zbv [3,10] [112,113,114,16] 4 rfl ?_
 try simp only[c2,go_sem]
 refine Zbc (Zbe k _ _ yx6) ?_ ?_
 try simp only[c2,go_sem]
 try simp only[List.take_succ_cons,List.drop_succ_cons,List.length_cons,List.length_nil,c2,go_sem]
 refine AK.weak (Za7.fz 1 rfl (fun _ h=>by cases h)) ?_
 try simp only[c2,go_sem]
 refine AK.nlbox 0 1 65 rfl rfl ?_
 try simp only[c2,go_sem]
 refine AK.weak (Za7.fz 0 rfl (fun _ h=>by cases h;rfl)) ?_
 try simp only[c2,go_sem]
 refine rS ?_
 try simp only[c2,go_sem]
 obtain⟨x7,yx7,h0⟩:=bs h0
 refine zc0 (ZdT k _ _ yx7) ?_ (by first|rfl|(simp[AV.refsL,AV.refs,AV.scal,AV.leaf];done)|simp[AV.refsL,AV.refs,AV.scal,AV.leaf,go_sem]) ?_
 try simp only[c2,go_sem]
 try simp only[c2,go_sem]
 refine Zab h0 ?_ ?_<;>intro c8 h0
 try simp only[c8,c2,go_sem]
 refine Zab h0 ?_ ?_<;>intro c9 h0
 try simp only[c9,c2,c8,go_sem]
 refine Zab h0 ?_ ?_<;>intro c10 h0
 try simp only[c10,c2,c8,c9,go_sem]
 obtain⟨x11,yx11,h0⟩:=bs h0
 refine zc0 (ZdO k _ _ _ yx11) ?_ (by first|rfl|(simp[AV.refsL,AV.refs,AV.scal,AV.leaf];done)|simp[AV.refsL,AV.refs,AV.scal,AV.leaf,go_sem]) ?_
 try simp only[c2,c8,c9,c10,go_sem]
 try simp only[c2,c8,c9,c10,go_sem]
 refine Zab h0 ?_ ?_<;>intro c12 h0
 try simp only[c12,c2,c8,c9,c10,go_sem]
 obtain⟨x13,yx13,h0⟩:=bs h0
 refine zc0 (ZaP k _ _ _ _ yx13) ?_ (by first|rfl|(simp[AV.refsL,AV.refs,AV.scal,AV.leaf];done)|simp[AV.refsL,AV.refs,AV.scal,AV.leaf,go_sem]) ?_
 try simp only[c2,c8,c9,c10,c12,go_sem]
 try simp only[c2,c8,c9,c10,c12,go_sem]
 refine Zab h0 ?_ ?_<;>intro c14 h0
 have c14:=ZaY c14
 try simp only[c14,c2,c8,c9,c10,c12,go_sem]
 obtain rfl:=oi h0
 refine Zad rfl ?_
 try simp only[F24.rs,c2,c8,c9,c10,c12,c14,go_sem]
 have c14:=ZaX c14
 try simp only[c14,c2,c8,c9,c10,c12,go_sem]
 refine Zat Za9 Zau 1000 ?_
 try simp only[c2,c8,c9,c10,c12,c14,go_sem]
 obtain⟨x15,yx15,h0⟩:=bs h0
 refine Zbk 1000 (Zb8 k _ _ _ _ yx15) ?_ (by first|rfl|(simp[AV.refsL,AV.refs,AV.scal,AV.leaf];done)|simp[AV.refsL,AV.refs,AV.scal,AV.leaf,go_sem]) ?_
 try simp only[c2,c8,c9,c10,c12,c14,go_sem]
 try simp only[c2,c8,c9,c10,c12,c14,go_sem]
 obtain⟨x16,yx16,h0⟩:=bs h0
 refine Zbk 1000 (Zb8 k _ _ _ _ yx16) ?_ (by first|rfl|(simp[AV.refsL,AV.refs,AV.scal,AV.leaf];done)|simp[AV.refsL,AV.refs,AV.scal,AV.leaf,go_sem]) ?_
 try simp only[c2,c8,c9,c10,c12,c14,go_sem]
 try simp only[c2,c8,c9,c10,c12,c14,go_sem]
 refine ZjW h0 ?_ ?_<;>intro c17 h0
 have c17:=ZaY c17
 try simp only[c17,c2,c8,c9,c10,c12,c14,go_sem]
 obtain⟨x18,yx18,h0⟩:=bs h0
 refine Zbk 1000 (Zb8 k _ _ _ _ yx18) ?_ (by first|rfl|(simp[AV.refsL,AV.refs,AV.scal,AV.leaf];done)|simp[AV.refsL,AV.refs,AV.scal,AV.leaf,go_sem]) ?_
 try simp only[c2,c8,c9,c10,c12,c14,c17,go_sem]
 try simp only[c2,c8,c9,c10,c12,c14,c17,go_sem]
 refine ZaB ⟨ZaC (by simp only[ZdN,List.reverse_cons,List.reverse_nil,List.nil_append,List.cons_append,List.map_cons,List.map_nil,List.append_nil];rfl) (by first|decide +kernel|rfl),Zag Za9 1000 _ _ ?_⟩
 try simp only[c2,c8,c9,c10,c12,c14,c17,go_sem]
 refine Zab h0 ?_ ?_<;>intro c19 h0
 try simp only[c19,c2,c8,c9,c10,c12,c14,c17,go_sem]
 obtain rfl:=oi h0
 refine Zad rfl ?_
 try simp only[F24.rs,c2,c8,c9,c10,c12,c14,c17,c19,go_sem]
 try simp only[c19,c2,c8,c9,c10,c12,c14,c17,go_sem]
 obtain rfl:=oi h0
 refine Zad rfl ?_
 try simp only[F24.rs,c2,c8,c9,c10,c12,c14,c17,c19,go_sem]
 have c17:=ZaX c17
 try simp only[c17,c2,c8,c9,c10,c12,c14,go_sem]
 refine ZaB ⟨ZaC (by simp only[ZdN,List.reverse_cons,List.reverse_nil,List.nil_append,List.cons_append,List.map_cons,List.map_nil,List.append_nil];rfl) (by first|decide +kernel|rfl),Zag Za9 1000 _ _ ?_⟩
 try simp only[c2,c8,c9,c10,c12,c14,c17,go_sem]
 obtain rfl:=oi h0
 refine Zad rfl ?_
 try simp only[F24.rs,c2,c8,c9,c10,c12,c14,c17,go_sem]
 try simp only[c12,c2,c8,c9,c10,go_sem]
 obtain rfl:=oi h0
 refine Zad rfl ?_
 try simp only[F24.rs,c2,c8,c9,c10,c12,go_sem]
 try simp only[c10,c2,c8,c9,go_sem]
 obtain rfl:=oi h0
 refine Zad rfl ?_
 try simp only[F24.rs,c2,c8,c9,c10,go_sem]
 try simp only[c9,c2,c8,go_sem]
 obtain rfl:=oi h0
 refine Zad rfl ?_
 try simp only[F24.rs,c2,c8,c9,go_sem]
 try simp only[c8,c2,go_sem]
 obtain rfl:=oi h0
 refine Zad rfl ?_
 try simp only[F24.rs,c2,c8,go_sem]
def F73.c:SC:=
 (.seq
 (.reg [oq 1 (.box 48 (.tmp 0)) 0 [0],
 oq 2 (.alloc 48) 0 []])
 (.seq
 (.reg [fa 3 48 1 0 [],
 ld 4 46 3 [3],
 cf1 5 96 4 46 46 [4],
 fa 6 48 1 0 [],
 ⟨none,.store 46 (.tmp 6) (.tmp 5),0,none,[5,6]⟩])
 (.seq
 (.reg [ld 7 48 1 [1],
 ⟨none,.store 48 (.tmp 2) (.tmp 7),0,none,[7]⟩])
 .ret)))
theorem F73.rs:Try.f73.results.toList=[.cell 2 48]:=rfl
def Zbw (k:Nat) (l0:Ledger):Option (Ledger):=
 (ZcS k l0.Book).bind fun x1=>
 some (⟨x1,l0.Area,l0.Epoch,l0.Used⟩:Ledger)
theorem ZdR (k:Nat) (l0:Ledger) (r:Ledger) (h0:Zbw k l0=some r):Za0 Try.prog 73 [.agg (Ledger.c l0)] (fun y=>y=.agg (Ledger.c r)):=by
 refine PB (fn:=Try.f73) (sc:=F73.c) ?_
 refine rS ?_
 simp only[Zbw]at h0
 try simp only[F73.c,go_sem]
 obtain⟨x1,yx1,h0⟩:=bs h0
 refine zc0 (ZfM k _ _ yx1) ?_ (by first|rfl|(simp[AV.refsL,AV.refs,AV.scal,AV.leaf];done)|simp[AV.refsL,AV.refs,AV.scal,AV.leaf,go_sem]) ?_
 try simp only[go_sem]
 try simp only[go_sem]
 obtain rfl:=oi h0
 refine Zad rfl ?_
 try simp only[F73.rs,go_sem]
def F74.s1:SC:=
 (.block 3
 (.seq
 (.reg [mv 37 2 3 [],
 mv 38 9 3 [],
 b2 39 .add 3 37 38 3 3 [37,38],
 bn 40 .rem 3 39 2 3 3 [39],
 mv 41 3 124 [],
 mv 42 9 3 [],
 ia 43 124 41 42 [41,42],
 ld 44 126 43 [43],
 ia 45 139 11 40 [40],
 ⟨none,.store 122 (.tmp 45) (.tmp 44),0,none,[44,45]⟩])
 (.seq
 (.reg [mv 46 9 3 [9],
 bn 47 .add 3 46 1 3 3 [46],
 sg 9 47 3 [47]])
 (.seq
 (.reg [mv 48 9 3 [],
 mv 49 3 124 [],
 ln 50 49 124 3 [49],
 b2 51 .eql 3 48 50 3 4 [48,50],
 mv 52 51 4 [51],
 og 53 (.move (.tmp 2)) 3 52 false [],
 og 54 (.move (.tmp 9)) 3 52 false [],
 og 55 (.binOp .add 3 (.tmp 53) (.tmp 54) 3) 3 52 false [53,54],
 og 56 (.binOp .rem 3 (.tmp 55) (.const (.int .i64 2)) 3) 3 52 false [55],
 og 57 (.binOp .eql 3 (.tmp 56) (.const (.int .i64 0)) 3) 4 52 false [56],
 oq 58 (.pick (.tmp 52) (.const (.bool true)) (.tmp 57)) 4 [52,57]])
 (.cond (.tmp 58)
 (.exit 2)
 .skip)))))
def F74.s0:SC:=
 (.seq
 (.seq
 (.reg [mv 18 9 3 [],
 mv 19 3 124 [],
 ln 20 19 124 3 [19],
 b2 21 .lss 3 18 20 3 4 [18,20]])
 (.cond (.tmp 21)
 .skip
 (.exit 0)))
 (.block 1
 (.seq
 (.reg [mv 22 1 3 [],
 bn 23 .mul 3 22 301 3 3 [22],
 mv 24 2 3 [],
 mv 25 9 3 [],
 b2 26 .add 3 24 25 3 3 [24,25],
 bn 27 .quo 3 26 2 3 3 [26],
 b2 28 .add 3 23 27 3 3 [23,27],
 sg 10 28 3 [28]])
 (.seq
 (.reg [mv 29 8 130 [],
 oq 30 (.nilCheck (.tmp 29)) 0 [29],
 fa 31 134 30 0 [30],
 fa 32 42 31 0 [31],
 ld 33 39 32 [32],
 mv 34 10 3 [],
 ia 35 39 33 34 [33,34],
 ld 36 139 35 [35],
 oq 11 (.alloc 139) 0 [],
 ⟨none,.store 139 (.tmp 11) (.tmp 36),0,none,[36]⟩])
 (.seq
 (.block 2
 (.loop F74.s1))
 (.dreg [mv 59 0 130 [],
 mv 60 0 130 [],
 oq 61 (.nilCheck (.tmp 60)) 0 [],
 fa 62 134 61 0 [],
 fa 63 42 62 1 [],
 ld 64 40 63 [],
 mv 65 10 3 [],
 ld 66 139 11 [],
 oq 67 (.build 141 #[(0,.tmp 65),(1,.tmp 66)]) 141 [],
 oq 68 (.buildSlice 40 1 #[(0,.tmp 67)]) 40 [],
 oq 69 (.call ⟨.builtin .append,#[.tmp 64,.tmp 68],#[40,40]⟩) 40 [],
 oq 70 (.nilCheck (.tmp 59)) 0 [],
 fa 71 134 70 0 [],
 fa 72 42 71 1 [],
 ⟨none,.store 40 (.tmp 72) (.tmp 69),0,none,[]⟩] [[],[],[1],[1,2],[1,2,3],[1,2,3,4],[],[],[6,7],[6,7,8],[1,2,3,4,5,6,7,8,9],[0,1,2,3,4,5,6,7,8,9,10],[0,1,2,3,4,5,6,7,8,9,10,11],[0,1,2,3,4,5,6,7,8,9,10,11,12],[0,1,2,3,4,5,6,7,8,9,10,11,12,13]] [10,11,59,60,61,62,63,64,65,66,67,68,69,70,71,72]))))))
def F74.c:SC:=
 (.seq
 (.reg [mv 12 0 130 [],
 oq 13 (.nilCheck (.tmp 12)) 0 [12],
 fa 14 134 13 0 [13],
 ld 15 42 14 [14],
 cf1 16 72 15 42 130 [15],
 cf1 17 79 16 130 130 [16],
 sg 8 17 130 [17]])
 (.seq
 (.reg [sn 9 0 3 []])
 (.block 0
 (.loop F74.s0))))
theorem F74.rs:Try.f74.results.toList=[]:=rfl
def Zae.b1 (k:Nat) (from2:Int) (l3:(List (Vec 32 Int))):((Vec 2 (Vec 32 Int))×Int)→Option (Stp ((Vec 2 (Vec 32 Int))×Int) ((Vec 2 (Vec 32 Int))×Int) (book_disk)):=fun(s:(Vec 2 (Vec 32 Int))×Int)=>match s with
 |(s10,i11)=>
   (at? l3 i11).bind fun x14=>
   (s10.at? (Int.tmod (w64 (from2+i11)) 2)).bind fun x15=>
   bif (!decide (w64 (i11+1)=(l3.length:Int))) then
    bif decide (Int.tmod (w64 (from2+(w64 (i11+1)))) 2=(0:Int)) then
     some (.brk (s10.set (Int.tmod (w64 (from2+i11)) 2) x14,w64 (i11+1)))
    else
     some (.next (s10.set (Int.tmod (w64 (from2+i11)) 2) x14,w64 (i11+1)))
   else
    some (.brk (s10.set (Int.tmod (w64 (from2+i11)) 2) x14,w64 (i11+1)))
def Zae.b0 (k:Nat) (area1:Int) (from2:Int) (l3:(List (Vec 32 Int))) (x4:book_disk):(Int×(List Write))→Option (Stp (Int×(List Write)) ((List Write)) (book_disk)):=fun(s:Int×(List Write))=>match s with
 |(i5,l6)=>
   bif decide (i5<(l3.length:Int)) then
    (at? x4.Disk.Pages (w64 ((w64 (area1*301))+(w64 (Int.tdiv (w64 (from2+i5)) 2))))).bind fun x9=>
    (whl (Zae.b1 k from2 l3) k (x9,i5)).bind fun r19=>match r19 with
    |.next _=>none
    |.ret v_=>some (.ret v_)
    |.brk (s12,i13)=>
     (ZdM 72 l6 (⟨w64 ((w64 (area1*301))+(w64 (Int.tdiv (w64 (from2+i5)) 2))),s12⟩:Write)).bind fun l20=>
     some (.next (i13,l20))
   else
    some (.brk l6)
noncomputable def Zae.h1 (f1:Fra) (H:Zam) (d0:book_disk) (area1:Int) (from2:Int) (l3:(List (Vec 32 Int))) (x4:book_disk) (i5:Int) (l6:(List Write)):((Vec 2 (Vec 32 Int))×Int)→St:=fun(s:(Vec 2 (Vec 32 Int))×Int)=>match s with
 |(s10,i11)=>⟨[(0,.ptr 1 0 0),(1,.int .i64 area1),(2,.int .i64 from2),(3,.sl 32 (List.map (Vec.c (n:=32) eU8) l3)),(8,.ptr 0 0 0),(9,.int .i64 i11),(10,.int .i64 (w64 ((w64 (area1*301))+(w64 (Int.tdiv (w64 (from2+i5)) 2))))),(11,.ptr 0 2 0)],[(0,.box ([.loc 0 1 64 0 x4.Disk.Pages.length x4.Disk.Pages.length,.nil])),(1,.arr 139 64 (List.map (Vec.c (n:=2) (Vec.c (n:=32) eU8)) x4.Disk.Pages)),(2,.box (Vec.c (n:=2) (Vec.c (n:=32) eU8) s10))],((0,.box ([.loc 0 1 64 0 d0.Disk.Pages.length d0.Disk.Pages.length,.loc 0 2 65 0 l6.length l6.length]))::(1,.arr 139 64 (List.map (Vec.c (n:=2) (Vec.c (n:=32) eU8)) d0.Disk.Pages))::(2,.arr 141 65 (List.map Write.c l6))::f1)::H,3,Try.f74.ntmps⟩
noncomputable def Zae.x1 (f1:Fra) (H:Zam) (d0:book_disk) (area1:Int) (from2:Int) (l3:(List (Vec 32 Int))) (x4:book_disk) (i5:Int) (l6:(List Write)):((Vec 2 (Vec 32 Int))×Int)→St:=fun(s:(Vec 2 (Vec 32 Int))×Int)=>match s with
 |(s12,i13)=>⟨[(0,.ptr 1 0 0),(1,.int .i64 area1),(2,.int .i64 from2),(3,.sl 32 (List.map (Vec.c (n:=32) eU8) l3)),(8,.ptr 0 0 0),(9,.int .i64 i13),(10,.int .i64 (w64 ((w64 (area1*301))+(w64 (Int.tdiv (w64 (from2+i5)) 2))))),(11,.ptr 0 2 0)],[(0,.box ([.loc 0 1 64 0 x4.Disk.Pages.length x4.Disk.Pages.length,.nil])),(1,.arr 139 64 (List.map (Vec.c (n:=2) (Vec.c (n:=32) eU8)) x4.Disk.Pages)),(2,.box (Vec.c (n:=2) (Vec.c (n:=32) eU8) s12))],((0,.box ([.loc 0 1 64 0 d0.Disk.Pages.length d0.Disk.Pages.length,.loc 0 2 65 0 l6.length l6.length]))::(1,.arr 139 64 (List.map (Vec.c (n:=2) (Vec.c (n:=32) eU8)) d0.Disk.Pages))::(2,.arr 141 65 (List.map Write.c l6))::f1)::H,3,Try.f74.ntmps⟩
noncomputable def Zae.h0 (f1:Fra) (H:Zam) (d0:book_disk) (area1:Int) (from2:Int) (l3:(List (Vec 32 Int))) (x4:book_disk):(Int×(List Write))→St:=fun(s:Int×(List Write))=>match s with
 |(i5,l6)=>⟨[(0,.ptr 1 0 0),(1,.int .i64 area1),(2,.int .i64 from2),(3,.sl 32 (List.map (Vec.c (n:=32) eU8) l3)),(8,.ptr 0 0 0),(9,.int .i64 i5)],[(0,.box ([.loc 0 1 64 0 x4.Disk.Pages.length x4.Disk.Pages.length,.nil])),(1,.arr 139 64 (List.map (Vec.c (n:=2) (Vec.c (n:=32) eU8)) x4.Disk.Pages))],((0,.box ([.loc 0 1 64 0 d0.Disk.Pages.length d0.Disk.Pages.length,.loc 0 2 65 0 l6.length l6.length]))::(1,.arr 139 64 (List.map (Vec.c (n:=2) (Vec.c (n:=32) eU8)) d0.Disk.Pages))::(2,.arr 141 65 (List.map Write.c l6))::f1)::H,2,Try.f74.ntmps⟩
noncomputable def Zae.x0 (f1:Fra) (H:Zam) (d0:book_disk):(List Write)→St:=fun(l7:(List Write))=>⟨[],[],((0,.box ([.loc 0 1 64 0 d0.Disk.Pages.length d0.Disk.Pages.length,.loc 0 2 65 0 l7.length l7.length]))::(1,.arr 139 64 (List.map (Vec.c (n:=2) (Vec.c (n:=32) eU8)) d0.Disk.Pages))::(2,.arr 141 65 (List.map Write.c l7))::f1)::H,1,Try.f74.ntmps⟩
def Zae (k:Nat) (d0:book_disk) (area1:Int) (from2:Int) (l3:(List (Vec 32 Int))):Option (book_disk):=
 (Zbd k d0.Disk).bind fun x2=>
 (Zaq k x2).bind fun x4=>
 (whl (Zae.b0 k area1 from2 l3 x4) k (0,d0.Disk.Wait)).bind fun r21=>match r21 with
 |.next _=>none
 |.ret v_=>some v_
 |.brk l7=>
  some (⟨(⟨d0.Disk.Pages,l7⟩:Disk)⟩:book_disk)
theorem ZcD (k:Nat) (d0:book_disk) (area1:Int) (from2:Int) (l3:(List (Vec 32 Int))) (r:book_disk) (h0:Zae k d0 area1 from2 l3=some r):Zjk Try.prog 74 [.ptr 1 0 0,.int .i64 area1,.int .i64 from2,.sl 32 (List.map (Vec.c (n:=32) eU8) l3)] [(0,.box ([.loc 0 1 64 0 d0.Disk.Pages.length d0.Disk.Pages.length,.loc 0 2 65 0 d0.Disk.Wait.length d0.Disk.Wait.length])),(1,.arr 139 64 (List.map (Vec.c (n:=2) (Vec.c (n:=32) eU8)) d0.Disk.Pages)),(2,.arr 141 65 (List.map Write.c d0.Disk.Wait))] (fun y fr X'=>y=.tup []∧fr=[]∧X'=[(0,.box ([.loc 0 1 64 0 r.Disk.Pages.length r.Disk.Pages.length,.loc 0 2 65 0 r.Disk.Wait.length r.Disk.Wait.length])),(1,.arr 139 64 (List.map (Vec.c (n:=2) (Vec.c (n:=32) eU8)) r.Disk.Pages)),(2,.arr 141 65 (List.map Write.c r.Disk.Wait))]):=by
 refine Zjk.of_body Za9 (fn:=Try.f74) (sc:=F74.c) (by rfl) (by rfl) (by decide +kernel) (by rfl) (by decide +kernel) (Nat.le_of_ble_eq_true rfl) (fun f1 H=>?_)
 refine rS ?_
 simp only[List.cons_append,List.nil_append]
 simp only[Zae]at h0
 try simp only[F74.c,go_sem]
 obtain⟨x2,yx2,h0⟩:=bs h0
 refine Zm9 Za9 1000 (Zbq k _ _ yx2) ?_ rfl ⟨(by simp[Blk.lo,AV.lo]),Lf.map (Lf.vec (Lf.vec ZsR)) _,Lf.map Zms _,trivial⟩ ?_
 try simp only[boxF,go_sem]
 try simp only[go_sem]
 obtain⟨x4,yx4,h0⟩:=bs h0
 refine Zbv [0,1,2,3] [64,65,66] 3 rfl ?_
 try simp only[go_sem]
 refine Zbc (Zbe k _ _ yx4) ?_ ?_
 try simp only[go_sem]
 try simp only[List.take_succ_cons,List.drop_succ_cons,List.length_cons,List.length_nil,go_sem]
 refine rS ?_
 try simp only[go_sem]
 obtain⟨r21,yr21,h0⟩:=bs h0
 refine Zay yr21 (Zae.h0 f1 H d0 area1 from2 l3 x4) (Zae.x0 f1 H d0) ?_ ?_ ?_
 refine Za7.go [0,1,2,3,8,9] [0,1] rfl ?_
 try simp only[Zae.h0,go_sem]
 repeat' (first|exact NL.refl _|exact NL.nil _|exact NLs.refl _|exact NLs.nil|exact ZeT.refl _|exact ZeT.nil|exact NLT.nil|exact NLF.nil|refine NLT.cons _ _ _ _ _ ?_ ?_|refine NLF.cons _ _ _ _ _ ?_ ?_|refine NLB.box _ _ ?_|refine NLB.arr _ _ _ _ ?_|refine NLs.cons ?_ ?_|refine NLs.append ?_ ?_|refine NL.aggs ?_|refine NL.tups ?_|refine NL.sls ?_|refine ZeT.append ?_ ?_|refine ZeT.cons ?_ ?_|refine And.intro ?_ ?_|rfl)
 rintro⟨i5,l6⟩ x_1 Bk1 Br1 h1 hnext1 hbrk1 hret1
 refine rS ?_
 simp only[Zae.b0]at h1
 try simp only[F74.s0,Zae.h0,go_sem]
 refine Zab h1 ?_ ?_<;>intro c8 h1
 try simp only[c8,go_sem]
 obtain⟨x9,yx9,h1⟩:=bs h1
 try simp only[ZaF yx9,Zaw (Vec.c (n:=2) (Vec.c (n:=32) eU8)) yx9,c8,go_sem]
 obtain⟨r19,yr19,h1⟩:=bs h1
 refine Zay yr19 (Zae.h1 f1 H d0 area1 from2 l3 x4 i5 l6) (Zae.x1 f1 H d0 area1 from2 l3 x4 i5 l6) ?_ ?_ ?_
 refine Za7.go [0,1,2,3,8,9,10,11] [0,1,322] rfl ?_
 try simp only[Zae.h1,c8,ZaF yx9,Zaw (Vec.c (n:=2) (Vec.c (n:=32) eU8)) yx9,go_sem]
 repeat' (first|exact NL.refl _|exact NL.nil _|exact NLs.refl _|exact NLs.nil|exact ZeT.refl _|exact ZeT.nil|exact NLT.nil|exact NLF.nil|refine NLT.cons _ _ _ _ _ ?_ ?_|refine NLF.cons _ _ _ _ _ ?_ ?_|refine NLB.box _ _ ?_|refine NLB.arr _ _ _ _ ?_|refine NLs.cons ?_ ?_|refine NLs.append ?_ ?_|refine NL.aggs ?_|refine NL.tups ?_|refine NL.sls ?_|refine ZeT.append ?_ ?_|refine ZeT.cons ?_ ?_|refine And.intro ?_ ?_|rfl)
 rintro⟨s10,i11⟩ x_2 Bk2 Br2 h2 hnext2 hbrk2 hret2
 refine rS ?_
 simp only[Zae.b1]at h2
 try simp only[F74.s1,Zae.h1,c8,ZaF yx9,Zaw (Vec.c (n:=2) (Vec.c (n:=32) eU8)) yx9,go_sem]
 obtain⟨x14,yx14,h2⟩:=bs h2
 try simp only[aa yx14,c8,ZaF yx9,Zaw (Vec.c (n:=2) (Vec.c (n:=32) eU8)) yx9,go_sem]
 obtain⟨x15,yx15,h2⟩:=bs h2
 have uyx15:=UpdE.at (fun q_=>((VK.vec Zar 32).len q_:((Vec.c (n:=32) eU8) q_).length=32)) (UpdE.self (fun q_=>((VK.vec (VK.vec Zar 32) 2).len q_:(Vec.c (n:=2) (Vec.c (n:=32) eU8) q_).length=64)) s10) yx15
 have buyx15:=uyx15.bound (fun q_=>((VK.vec Zar 32).len q_:((Vec.c (n:=32) eU8) q_).length=32))
 have guyx15:=uyx15.get (fun q_=>((VK.vec Zar 32).len q_:((Vec.c (n:=32) eU8) q_).length=32))
 try simp only[List.length_cons,List.length_nil,go_sem]at buyx15 guyx15
 have q16:=uyx15.ow x14
 try simp only[List.length_cons,List.length_nil,go_sem]at q16
 try simp only[Zaa yx15,buyx15,guyx15,q16,c8,ZaF yx9,Zaw (Vec.c (n:=2) (Vec.c (n:=32) eU8)) yx9,aa yx14,go_sem]
 refine Zab h2 ?_ ?_<;>intro c17 h2
 have c17:=ZaY c17
 try simp only[c17,c8,ZaF yx9,Zaw (Vec.c (n:=2) (Vec.c (n:=32) eU8)) yx9,aa yx14,Zaa yx15,buyx15,guyx15,go_sem]
 refine Zab h2 ?_ ?_<;>intro c18 h2
 try simp only[c18,c8,ZaF yx9,Zaw (Vec.c (n:=2) (Vec.c (n:=32) eU8)) yx9,aa yx14,Zaa yx15,buyx15,guyx15,c17,go_sem]
 refine Zaf (hbrk2 _ _ (oi h2).symm ?_)
 refine Za7.go [0,1,2,3,8,9,10,11] [0,1,2] rfl ?_
 try simp only[Zae.x1,c8,ZaF yx9,Zaw (Vec.c (n:=2) (Vec.c (n:=32) eU8)) yx9,aa yx14,Zaa yx15,buyx15,guyx15,c17,c18,go_sem]
 repeat' (first|exact NL.refl _|exact NL.nil _|exact NLs.refl _|exact NLs.nil|exact ZeT.refl _|exact ZeT.nil|exact NLT.nil|exact NLF.nil|refine NLT.cons _ _ _ _ _ ?_ ?_|refine NLF.cons _ _ _ _ _ ?_ ?_|refine NLB.box _ _ ?_|refine NLB.arr _ _ _ _ ?_|refine NLs.cons ?_ ?_|refine NLs.append ?_ ?_|refine NL.aggs ?_|refine NL.tups ?_|refine NL.sls ?_|refine ZeT.append ?_ ?_|refine ZeT.cons ?_ ?_|refine And.intro ?_ ?_|rfl)
 try simp only[c18,c8,ZaF yx9,Zaw (Vec.c (n:=2) (Vec.c (n:=32) eU8)) yx9,aa yx14,Zaa yx15,buyx15,guyx15,c17,go_sem]
 refine Zaf (hnext2 _ _ (oi h2).symm ?_)
 refine Za7.go [0,1,2,3,8,9,10,11] [0,1,2] rfl ?_
 try simp only[Zae.h1,c8,ZaF yx9,Zaw (Vec.c (n:=2) (Vec.c (n:=32) eU8)) yx9,aa yx14,Zaa yx15,buyx15,guyx15,c17,c18,go_sem]
 repeat' (first|exact NL.refl _|exact NL.nil _|exact NLs.refl _|exact NLs.nil|exact ZeT.refl _|exact ZeT.nil|exact NLT.nil|exact NLF.nil|refine NLT.cons _ _ _ _ _ ?_ ?_|refine NLF.cons _ _ _ _ _ ?_ ?_|refine NLB.box _ _ ?_|refine NLB.arr _ _ _ _ ?_|refine NLs.cons ?_ ?_|refine NLs.append ?_ ?_|refine NL.aggs ?_|refine NL.tups ?_|refine NL.sls ?_|refine ZeT.append ?_ ?_|refine ZeT.cons ?_ ?_|refine And.intro ?_ ?_|rfl)
 have c17:=ZaX c17
 try simp only[c17,c8,ZaF yx9,Zaw (Vec.c (n:=2) (Vec.c (n:=32) eU8)) yx9,aa yx14,Zaa yx15,buyx15,guyx15,go_sem]
 refine Zaf (hbrk2 _ _ (oi h2).symm ?_)
 refine Za7.go [0,1,2,3,8,9,10,11] [0,1,2] rfl ?_
 try simp only[Zae.x1,c8,ZaF yx9,Zaw (Vec.c (n:=2) (Vec.c (n:=32) eU8)) yx9,aa yx14,Zaa yx15,buyx15,guyx15,c17,go_sem]
 repeat' (first|exact NL.refl _|exact NL.nil _|exact NLs.refl _|exact NLs.nil|exact ZeT.refl _|exact ZeT.nil|exact NLT.nil|exact NLF.nil|refine NLT.cons _ _ _ _ _ ?_ ?_|refine NLF.cons _ _ _ _ _ ?_ ?_|refine NLB.box _ _ ?_|refine NLB.arr _ _ _ _ ?_|refine NLs.cons ?_ ?_|refine NLs.append ?_ ?_|refine NL.aggs ?_|refine NL.tups ?_|refine NL.sls ?_|refine ZeT.append ?_ ?_|refine ZeT.cons ?_ ?_|refine And.intro ?_ ?_|rfl)
 rintro⟨s12,i13⟩ hr_
 subst hr_
 simp only at h1
 refine rS ?_
 try simp only[Zae.x1,c8,ZaF yx9,Zaw (Vec.c (n:=2) (Vec.c (n:=32) eU8)) yx9,go_sem]
 refine Zat Za9 Zau 1000 ?_
 try simp only[c8,ZaF yx9,Zaw (Vec.c (n:=2) (Vec.c (n:=32) eU8)) yx9,go_sem]
 obtain⟨l20,yl20,h1⟩:=bs h1
 have eyl20:=ZcJ Write.c yl20
 have tyl20:=Zcf Write.c yl20
 have nyl20:=Zcz yl20
 have myl20:=Zce yl20
 try simp only[c8,ZaF yx9,Zaw (Vec.c (n:=2) (Vec.c (n:=32) eU8)) yx9,go_sem]at eyl20 tyl20 nyl20 myl20
 try simp only[myl20,eyl20,c8,ZaF yx9,Zaw (Vec.c (n:=2) (Vec.c (n:=32) eU8)) yx9,nyl20,tyl20,go_sem]
 refine ZaB ⟨ZaC (by simp only[ZdN,List.reverse_cons,List.reverse_nil,List.nil_append,List.cons_append,List.map_cons,List.map_nil,List.append_nil];rfl) (by first|decide +kernel|rfl),Zag Za9 1000 _ _ ?_⟩
 try simp only[c8,ZaF yx9,Zaw (Vec.c (n:=2) (Vec.c (n:=32) eU8)) yx9,eyl20,nyl20,tyl20,go_sem]
 refine Zaf (hnext1 _ _ (oi h1).symm ?_)
 refine Za7.go [0,1,2,3,8,9] [0,1] rfl ?_
 try simp only[Zae.h0,c8,ZaF yx9,Zaw (Vec.c (n:=2) (Vec.c (n:=32) eU8)) yx9,eyl20,nyl20,tyl20,go_sem]
 repeat' (first|exact NL.refl _|exact NL.nil _|exact NLs.refl _|exact NLs.nil|exact ZeT.refl _|exact ZeT.nil|exact NLT.nil|exact NLF.nil|refine NLT.cons _ _ _ _ _ ?_ ?_|refine NLF.cons _ _ _ _ _ ?_ ?_|refine NLB.box _ _ ?_|refine NLB.arr _ _ _ _ ?_|refine NLs.cons ?_ ?_|refine NLs.append ?_ ?_|refine NL.aggs ?_|refine NL.tups ?_|refine NL.sls ?_|refine ZeT.append ?_ ?_|refine ZeT.cons ?_ ?_|refine And.intro ?_ ?_|rfl)
 try simp only[c8,go_sem]
 refine Zaf (hbrk1 _ _ (oi h1).symm ?_)
 refine Za7.go [] [] rfl ?_
 try simp only[Zae.x0,c8,go_sem]
 rintro l7 hr_
 subst hr_
 simp only at h0
 refine rS ?_
 try simp only[Zae.x0,go_sem]
 obtain rfl:=oi h0
 refine ZhN (by simp) ?_ ?_
 try simp only[F74.rs,Zb0,Option.bind_some,go_sem]
 try simp only[List.cons_append,List.nil_append,go_sem]
def F20.c:SC:=
 (.seq
 (.reg [oq 3 (.box 42 (.tmp 0)) 0 [0],
 oq 4 (.box 48 (.tmp 1)) 0 [1],
 oq 5 (.box 25 (.tmp 2)) 0 [2],
 oq 6 (.alloc 42) 0 [],
 oq 7 (.alloc 48) 0 [],
 sn 8 0 28 [8]])
 (.seq
 (.seq
 (.reg [ld 15 42 3 [],
 ld 16 48 4 [],
 cf2 17 24 15 16 42 48 28 [15,16],
 sg 9 17 28 [17]])
 (.seq
 (.reg [mv 18 9 28 [],
 bn 19 .neq 28 18 0 28 4 [18]])
 (.cond (.tmp 19)
 (.seq
 (.reg [oq 20 (.build 42 #[]) 42 [],
 oq 21 (.build 48 #[]) 48 [],
 mv 22 9 28 [9],
 ⟨none,.store 42 (.tmp 6) (.tmp 20),0,none,[20]⟩,
 ⟨none,.store 48 (.tmp 7) (.tmp 21),0,none,[21]⟩,
 sg 8 22 28 [22]])
 .ret)
 .skip)))
 (.seq
 (.reg [fa 24 48 4 0 [],
 ld 25 46 24 [24],
 ld 26 25 5 [],
 cf2 27 71 25 26 46 25 73 [25,26],
 mv 23 27 73 [27],
 xt 28 23 0 46 [],
 xt 29 23 1 28 [23],
 oq 10 (.alloc 46) 0 [],
 ⟨none,.store 46 (.tmp 10) (.tmp 28),0,none,[28]⟩,
 sg 11 29 28 [29]])
 (.seq
 (.seq
 (.reg [mv 30 11 28 [],
 bn 31 .neq 28 30 0 28 4 [30]])
 (.cond (.tmp 31)
 (.seq
 (.reg [oq 32 (.build 42 #[]) 42 [],
 oq 33 (.build 48 #[]) 48 [],
 mv 34 11 28 [11],
 ⟨none,.store 42 (.tmp 6) (.tmp 32),0,none,[32]⟩,
 ⟨none,.store 48 (.tmp 7) (.tmp 33),0,none,[33]⟩,
 sg 8 34 28 [34]])
 .ret)
 .skip))
 (.seq
 (.reg [ld 35 42 3 [3],
 cf1 36 72 35 42 130 [35],
 sg 12 36 130 [36]])
 (.seq
 (.reg [ld 37 48 4 [],
 cf1 38 73 37 48 48 [37],
 oq 13 (.alloc 48) 0 [],
 ⟨none,.store 48 (.tmp 13) (.tmp 38),0,none,[38]⟩])
 (.seq
 (.seq
 (.reg [fa 39 46 10 0 [],
 ld 40 44 39 [39],
 ln 41 40 44 3 [40],
 fa 42 48 4 0 [],
 fa 43 46 42 0 [42],
 ld 44 44 43 [43],
 ln 45 44 44 3 [44],
 b2 46 .eql 3 41 45 3 4 [41,45]])
 (.cond (.tmp 46)
 (.seq
 (.dreg [mv 47 12 130 [],
 oq 48 (.nilCheck (.tmp 47)) 0 [],
 fa 49 134 48 0 [],
 ld 50 42 49 [],
 ld 51 48 13 [],
 ⟨none,.store 42 (.tmp 6) (.tmp 50),0,none,[]⟩,
 ⟨none,.store 48 (.tmp 7) (.tmp 51),0,none,[]⟩,
 sn 8 0 28 []] [[],[0],[0,1],[0,1,2],[],[0,1,2,3],[4,0,1,2,3,5],[4,0,1,2,3,5,6]] [12,13,47,48,49,50,51])
 .ret)
 .skip))
 (.seq
 (.reg [ld 52 25 5 [5],
 fa 53 48 4 0 [],
 fa 54 46 53 0 [53],
 ld 55 44 54 [54],
 ln 56 55 44 3 [55],
 fa 57 48 4 2 [],
 ld 58 3 57 [57],
 oq 59 (.call ⟨.value (.func 66),#[.tmp 52,.tmp 56,.tmp 58],#[25,3,3]⟩) 124 [52,56,58],
 sg 14 59 124 [59]])
 (.seq
 (.seq
 (.reg [fa 60 48 4 3 [],
 ld 61 3 60 [60],
 mv 62 14 124 [],
 ln 63 62 124 3 [62],
 b2 64 .add 3 61 63 3 3 [61,63],
 bn 65 .gtr 3 64 602 3 4 [64]])
 (.cond (.tmp 65)
 (.seq
 (.reg [oq 66 (.build 42 #[]) 42 [],
 oq 67 (.build 48 #[]) 48 [],
 ⟨none,.store 42 (.tmp 6) (.tmp 66),0,none,[66]⟩,
 ⟨none,.store 48 (.tmp 7) (.tmp 67),0,none,[67]⟩,
 sn 8 2 28 []])
 .ret)
 .skip))
 (.seq
 (.reg [mv 68 12 130 [],
 fa 69 48 4 1 [],
 ld 70 3 69 [69],
 fa 71 48 4 3 [],
 ld 72 3 71 [71],
 mv 73 14 124 [],
 oq 74 (.call ⟨.value (.func 74),#[.tmp 68,.tmp 70,.tmp 72,.tmp 73],#[130,3,3,124]⟩) 0 [68,70,72,73,74]])
 (.seq
 (.seq
 (.reg [mv 75 12 130 [],
 oq 76 (.nilCheck (.tmp 75)) 0 [75],
 fa 77 134 76 0 [76],
 fa 78 42 77 1 [77],
 ld 79 40 78 [78],
 ln 80 79 40 3 [79],
 bn 81 .gtr 3 80 1200 3 4 [80]])
 (.cond (.tmp 81)
 (.seq
 (.reg [oq 82 (.build 42 #[]) 42 [],
 oq 83 (.build 48 #[]) 48 [],
 ⟨none,.store 42 (.tmp 6) (.tmp 82),0,none,[82]⟩,
 ⟨none,.store 48 (.tmp 7) (.tmp 83),0,none,[83]⟩,
 sn 8 2 28 []])
 .ret)
 .skip))
 (.seq
 (.dreg [ld 84 46 10 [],
 fa 85 48 4 3 [],
 ld 86 3 85 [],
 mv 87 14 124 [],
 ln 88 87 124 3 [],
 b2 89 .add 3 86 88 3 3 [],
 fa 90 48 13 0 [],
 ⟨none,.store 46 (.tmp 90) (.tmp 84),0,none,[]⟩,
 fa 91 48 13 3 [],
 ⟨none,.store 3 (.tmp 91) (.tmp 89),0,none,[]⟩] [[],[],[1],[],[3],[1,2,3,4],[0],[0,6],[0,1,2,3,4,5,6,7],[0,1,2,3,4,5,6,7,8]] [4,10,14,84,85,86,87,88,89,90,91])
 (.seq
 (.dreg [mv 92 12 130 [],
 oq 93 (.nilCheck (.tmp 92)) 0 [],
 fa 94 134 93 0 [],
 ld 95 42 94 [],
 ld 96 48 13 [],
 ⟨none,.store 42 (.tmp 6) (.tmp 95),0,none,[]⟩,
 ⟨none,.store 48 (.tmp 7) (.tmp 96),0,none,[]⟩,
 sn 8 0 28 []] [[],[0],[0,1],[0,1,2],[],[0,1,2,3],[4,0,1,2,3,5],[4,0,1,2,3,5,6]] [12,13,92,93,94,95,96])
 .ret)))))))))))))
theorem F20.rs:Try.f20.results.toList=[.cell 6 42,.cell 7 48,.tmp 8]:=rfl
def ZbB (k:Nat) (d0:Disk) (l1:Ledger) (r2:Record):Option (Disk×Ledger×Int):=
 (Zb5 k d0 l1).bind fun x1=>
 bif (!decide (x1=(0:Int))) then
  some ((⟨[],[]⟩:Disk),(⟨(⟨[]⟩:Book),0,0,0⟩:Ledger),x1)
 else
  (Zc5 k l1.Book r2).bind fun x3=>
  bif (!decide (x3.2=(0:Int))) then
   some ((⟨[],[]⟩:Disk),(⟨(⟨[]⟩:Book),0,0,0⟩:Ledger),x3.2)
  else
   (Zbd k d0).bind fun x6=>
   (Zbw k l1).bind fun x7=>
   bif decide ((x3.1.Records.length:Int)=(l1.Book.Records.length:Int)) then
    some (x6.Disk,x7,0)
   else
    (Za4 k r2 (l1.Book.Records.length:Int) l1.Epoch).bind fun x9=>
    bif decide ((602:Int)<w64 (l1.Used+(x9.length:Int))) then
     some ((⟨[],[]⟩:Disk),(⟨(⟨[]⟩:Book),0,0,0⟩:Ledger),2)
    else
     (Zae k x6 l1.Area l1.Used x9).bind fun x12=>
     bif decide ((1200:Int)<((x12.Disk.Wait.length:Nat):Int)) then
      some ((⟨[],[]⟩:Disk),(⟨(⟨[]⟩:Book),0,0,0⟩:Ledger),2)
     else
      some (x12.Disk,(⟨x3.1,x7.Area,x7.Epoch,w64 (l1.Used+(x9.length:Int))⟩:Ledger),0)
theorem Zda (k:Nat) (d0:Disk) (l1:Ledger) (r2:Record) (r:Disk×Ledger×Int) (h0:ZbB k d0 l1 r2=some r):Za0 Try.prog 20 [.agg (Disk.c d0),.agg (Ledger.c l1),.agg (Record.c r2)] (fun y=>y=.tup [.agg (Disk.c r.1),.agg (Ledger.c r.2.1),.int .i64 r.2.2]):=by
 refine PB (fn:=Try.f20) (sc:=F20.c) ?_
 refine rS ?_
 simp only[ZbB]at h0
 try simp only[F20.c,go_sem]
 obtain⟨x1,yx1,h0⟩:=bs h0
 refine zc0 (ZdB k _ _ _ yx1) ?_ (by first|rfl|(simp[AV.refsL,AV.refs,AV.scal,AV.leaf];done)|simp[AV.refsL,AV.refs,AV.scal,AV.leaf,go_sem]) ?_
 try simp only[go_sem]
 try simp only[go_sem]
 refine Zab h0 ?_ ?_<;>intro c2 h0
 have c2:=ZaY c2
 try simp only[c2,go_sem]
 obtain rfl:=oi h0
 refine Zad rfl ?_
 try simp only[F20.rs,c2,go_sem]
 have c2:=ZaX c2
 try simp only[c2,go_sem]
 obtain⟨x3,yx3,h0⟩:=bs h0
 refine zc0 (Ze2 k _ _ _ yx3) ?_ (by first|rfl|(simp[AV.refsL,AV.refs,AV.scal,AV.leaf];done)|simp[AV.refsL,AV.refs,AV.scal,AV.leaf,go_sem]) ?_
 try simp only[c2,go_sem]
 try simp only[c2,go_sem]
 refine Zab h0 ?_ ?_<;>intro c4 h0
 have c4:=ZaY c4
 try simp only[c4,c2,go_sem]
 obtain rfl:=oi h0
 refine Zad rfl ?_
 try simp only[F20.rs,c2,c4,go_sem]
 have c4:=ZaX c4
 try simp only[c4,c2,go_sem]
 obtain⟨x6,yx6,h0⟩:=bs h0
 refine Zd9 Za9 1000 [] [] (Zbq k _ _ yx6) ?_ rfl ?_
 try simp only[gOK,c2,c4,go_sem]
 try simp only[c2,c4,go_sem]
 obtain⟨x7,yx7,h0⟩:=bs h0
 refine zc0 (ZdR k _ _ yx7) ?_ (by first|rfl|(simp[AV.refsL,AV.refs,AV.scal,AV.leaf];done)|simp[AV.refsL,AV.refs,AV.scal,AV.leaf,go_sem]) ?_
 try simp only[c2,c4,go_sem]
 try simp only[c2,c4,go_sem]
 refine Zab h0 ?_ ?_<;>intro c8 h0
 try simp only[c8,c2,c4,go_sem]
 refine Zat Za9 Zau 1000 ?_
 try simp only[c2,c4,c8,go_sem]
 refine ZaB ⟨ZaC (by simp only[ZdN,List.reverse_cons,List.reverse_nil,List.nil_append,List.cons_append,List.map_cons,List.map_nil,List.append_nil];rfl) (by first|decide +kernel|rfl),Zag Za9 1000 _ _ ?_⟩
 try simp only[c2,c4,c8,go_sem]
 obtain rfl:=oi h0
 refine Zad rfl ?_
 try simp only[F20.rs,c2,c4,c8,go_sem]
 try simp only[c8,c2,c4,go_sem]
 obtain⟨x9,yx9,h0⟩:=bs h0
 refine zc0 (Zd3 k _ _ _ _ yx9) ?_ (by first|rfl|(simp[AV.refsL,AV.refs,AV.scal,AV.leaf];done)|simp[AV.refsL,AV.refs,AV.scal,AV.leaf,go_sem]) ?_
 try simp only[c2,c4,c8,go_sem]
 try simp only[c2,c4,c8,go_sem]
 refine Zab h0 ?_ ?_<;>intro c10 h0
 try simp only[c10,c2,c4,c8,go_sem]
 obtain rfl:=oi h0
 refine Zad rfl ?_
 try simp only[F20.rs,c2,c4,c8,c10,go_sem]
 try simp only[c10,c2,c4,c8,go_sem]
 obtain⟨x12,yx12,h0⟩:=bs h0
 refine Zbv [4,6,7,9,10,11,12,13,14,19,31,46,65] [400,401,402,16,48,49,50,64,65,304,464] 11 rfl ?_
 try simp only[c2,c4,c8,c10,go_sem]
 refine Zbc (ZcD k _ _ _ _ _ yx12) ?_ ?_
 try simp only[c2,c4,c8,c10,go_sem]
 try simp only[List.take_succ_cons,List.drop_succ_cons,List.length_cons,List.length_nil,c2,c4,c8,c10,go_sem]
 refine rS ?_
 try simp only[c2,c4,c8,c10,go_sem]
 refine Zab h0 ?_ ?_<;>intro c13 h0
 try simp only[c13,c2,c4,c8,c10,go_sem]
 obtain rfl:=oi h0
 refine Zad rfl ?_
 try simp only[F20.rs,c2,c4,c8,c10,c13,go_sem]
 try simp only[c13,c2,c4,c8,c10,go_sem]
 refine Zat Za9 Zau 1000 ?_
 try simp only[c2,c4,c8,c10,c13,go_sem]
 refine ZaB ⟨ZaC (by simp only[ZdN,List.reverse_cons,List.reverse_nil,List.nil_append,List.cons_append,List.map_cons,List.map_nil,List.append_nil];rfl) (by first|decide +kernel|rfl),Zag Za9 1000 _ _ ?_⟩
 try simp only[c2,c4,c8,c10,c13,go_sem]
 refine Zat Za9 Zau 1000 ?_
 try simp only[c2,c4,c8,c10,c13,go_sem]
 refine ZaB ⟨ZaC (by simp only[ZdN,List.reverse_cons,List.reverse_nil,List.nil_append,List.cons_append,List.map_cons,List.map_nil,List.append_nil];rfl) (by first|decide +kernel|rfl),Zag Za9 1000 _ _ ?_⟩
 try simp only[c2,c4,c8,c10,c13,go_sem]
 obtain rfl:=oi h0
 refine Zad rfl ?_
 try simp only[F20.rs,c2,c4,c8,c10,c13,go_sem]
def F26.c:SC:=
 (.seq
 (.reg [oq 1 (.box 25 (.tmp 0)) 0 [0],
 oq 2 (.assign (.const (.slice none 0 0))) 56 [2],
 sn 3 0 28 [3]])
 (.seq
 (.seq
 (.reg [ld 5 25 1 [],
 cf1 6 30 5 25 28 [5],
 sg 4 6 28 [6]])
 (.seq
 (.reg [mv 7 4 28 [],
 bn 8 .neq 28 7 0 28 4 [7]])
 (.cond (.tmp 8)
 (.seq
 (.reg [mv 9 4 28 [4],
 oq 2 (.assign (.const (.slice none 0 0))) 56 [],
 sg 3 9 28 [9]])
 .ret)
 .skip)))
 (.seq
 (.reg [ld 10 25 1 [1],
 cf1 11 88 10 25 56 [10],
 sg 2 11 56 [11],
 sn 3 0 28 []])
 .ret)))
theorem F26.rs:Try.f26.results.toList=[.tmp 2,.tmp 3]:=rfl
def ZfY (k:Nat) (r0:Record):Option ((List Int)×Int):=
 (Zcy k r0).bind fun x1=>
 bif (!decide (x1=(0:Int))) then
  some ([],x1)
 else
  (Zao k r0).bind fun x3=>
  some (x3,0)
theorem ZiE (k:Nat) (r0:Record) (r:(List Int)×Int) (h0:ZfY k r0=some r):Za0 Try.prog 26 [.agg (Record.c r0)] (fun y=>y=.tup [.sl 1 (List.map eU8 r.1),.int .i64 r.2]):=by
 refine PB (fn:=Try.f26) (sc:=F26.c) ?_
 refine rS ?_
 simp only[ZfY]at h0
 try simp only[F26.c,go_sem]
 obtain⟨x1,yx1,h0⟩:=bs h0
 refine zc0 (ZdC k _ _ yx1) ?_ (by first|rfl|(simp[AV.refsL,AV.refs,AV.scal,AV.leaf];done)|simp[AV.refsL,AV.refs,AV.scal,AV.leaf,go_sem]) ?_
 try simp only[go_sem]
 try simp only[go_sem]
 refine Zab h0 ?_ ?_<;>intro c2 h0
 have c2:=ZaY c2
 try simp only[c2,go_sem]
 obtain rfl:=oi h0
 refine Zad rfl ?_
 try simp only[F26.rs,c2,go_sem]
 have c2:=ZaX c2
 try simp only[c2,go_sem]
 obtain⟨x3,yx3,h0⟩:=bs h0
 refine zc0 (Zg3 k _ _ yx3) ?_ (by first|rfl|(simp[AV.refsL,AV.refs,AV.scal,AV.leaf];done)|simp[AV.refsL,AV.refs,AV.scal,AV.leaf,go_sem]) ?_
 try simp only[c2,go_sem]
 try simp only[c2,go_sem]
 obtain rfl:=oi h0
 refine Zad rfl ?_
 try simp only[F26.rs,c2,go_sem]
def F32.c:SC:=
 (.seq
 (.reg [oq 1 (.box 42 (.tmp 0)) 0 [0],
 oq 2 (.alloc 42) 0 [],
 oq 3 (.alloc 48) 0 [],
 sn 4 0 28 [4]])
 (.seq
 (.seq
 (.reg [ld 9 42 1 [],
 cf1 10 78 9 42 4 [9],
 oq 11 (.unOp .not 4 (.tmp 10)) 4 [10]])
 (.cond (.tmp 11)
 (.seq
 (.reg [oq 12 (.build 42 #[]) 42 [],
 oq 13 (.build 48 #[]) 48 [],
 ⟨none,.store 42 (.tmp 2) (.tmp 12),0,none,[12]⟩,
 ⟨none,.store 48 (.tmp 3) (.tmp 13),0,none,[13]⟩,
 sn 4 94 28 []])
 .ret)
 .skip))
 (.seq
 (.reg [ld 14 42 1 [1],
 cf1 15 72 14 42 130 [14],
 cf1 16 79 15 130 130 [15],
 sg 5 16 130 [16]])
 (.seq
 (.reg [mv 18 5 130 [],
 cf1 19 80 18 130 146 [18],
 mv 17 19 146 [19],
 xt 20 17 0 145 [],
 xt 21 17 1 4 [17],
 oq 6 (.alloc 145) 0 [],
 ⟨none,.store 145 (.tmp 6) (.tmp 20),0,none,[20]⟩,
 sg 7 21 4 [21]])
 (.seq
 (.seq
 (.reg [mv 22 7 4 [7],
 oq 23 (.unOp .not 4 (.tmp 22)) 4 [22]])
 (.cond (.tmp 23)
 (.seq
 (.reg [oq 24 (.build 42 #[]) 42 [],
 oq 25 (.build 48 #[]) 48 [],
 ⟨none,.store 42 (.tmp 2) (.tmp 24),0,none,[24]⟩,
 ⟨none,.store 48 (.tmp 3) (.tmp 25),0,none,[25]⟩,
 sn 4 95 28 []])
 .ret)
 .skip))
 (.seq
 (.reg [mv 26 5 130 [],
 oq 27 (.call ⟨.value (.func 82),#[.tmp 26,.const (.int .i64 0),.const (.int .i64 0)],#[130,3,3]⟩) 3 [26],
 mv 28 5 130 [],
 oq 29 (.call ⟨.value (.func 82),#[.tmp 28,.const (.int .i64 1),.const (.int .i64 0)],#[130,3,3]⟩) 3 [28],
 oq 30 (.call ⟨.builtin .max,#[.tmp 27,.tmp 29],#[3,3]⟩) 3 [27,29],
 oq 31 (.binOp .add 3 (.const (.int .i64 1)) (.tmp 30) 3) 3 [30],
 sg 8 31 3 [31]])
 (.seq
 (.seq
 (.reg [mv 32 8 3 [],
 bn 33 .gtr 3 32 1000000 3 4 [32]])
 (.cond (.tmp 33)
 (.seq
 (.reg [oq 34 (.build 42 #[]) 42 [],
 oq 35 (.build 48 #[]) 48 [],
 ⟨none,.store 42 (.tmp 2) (.tmp 34),0,none,[34]⟩,
 ⟨none,.store 48 (.tmp 3) (.tmp 35),0,none,[35]⟩,
 sn 4 2 28 []])
 .ret)
 .skip))
 (.seq
 (.dreg [mv 36 5 130 [],
 oq 37 (.nilCheck (.tmp 36)) 0 [],
 fa 38 134 37 0 [],
 ld 39 42 38 [],
 fa 40 145 6 4 [],
 ld 41 46 40 [],
 fa 42 145 6 1 [],
 ld 43 3 42 [],
 mv 44 8 3 [],
 fa 45 145 6 3 [],
 ld 46 3 45 [],
 oq 47 (.build 48 #[(0,.tmp 41),(1,.tmp 43),(2,.tmp 44),(3,.tmp 46)]) 48 [],
 ⟨none,.store 42 (.tmp 2) (.tmp 39),0,none,[]⟩,
 ⟨none,.store 48 (.tmp 3) (.tmp 47),0,none,[]⟩,
 sn 4 0 28 []] [[],[0],[0,1],[0,1,2],[],[4],[],[6],[],[],[9],[4,5,6,7,8,9,10],[0,1,2,3],[4,5,6,7,8,9,10,11,0,1,2,3,12],[4,5,6,7,8,9,10,11,0,1,2,3,12,13]] [5,6,8,36,37,38,39,40,41,42,43,44,45,46,47])
 .ret))))))))
theorem F32.rs:Try.f32.results.toList=[.cell 2 42,.cell 3 48,.tmp 4]:=rfl
def Zcq (k:Nat) (d0:Disk):Option (Disk×Ledger×Int):=
 (ZbZ k d0).bind fun x1=>
 bif (!x1) then
  some ((⟨[],[]⟩:Disk),(⟨(⟨[]⟩:Book),0,0,0⟩:Ledger),94)
 else
  (Zbd k d0).bind fun x4=>
  (Zaq k x4).bind fun x6=>
  (ZbI k (⟨(⟨x6.Disk.Pages,[]⟩:Disk)⟩:book_disk)).bind fun x7=>
  bif (!x7.2) then
   some ((⟨[],[]⟩:Disk),(⟨(⟨[]⟩:Book),0,0,0⟩:Ledger),95)
  else
   (Zan k (⟨(⟨x6.Disk.Pages,[]⟩:Disk)⟩:book_disk) 0 0).bind fun x9=>
   (Zan k (⟨(⟨x6.Disk.Pages,[]⟩:Disk)⟩:book_disk) 1 0).bind fun x10=>
   bif decide ((1000000:Int)<w64 (1+(max x9 x10))) then
    some ((⟨[],[]⟩:Disk),(⟨(⟨[]⟩:Book),0,0,0⟩:Ledger),2)
   else
    some ((⟨((⟨(⟨x6.Disk.Pages,[]⟩:Disk)⟩:book_disk).Disk).Pages,((⟨(⟨x6.Disk.Pages,[]⟩:Disk)⟩:book_disk).Disk).Wait⟩:Disk),(⟨x7.1.book,x7.1.area,w64 (1+(max x9 x10)),x7.1.used⟩:Ledger),0)
theorem ZdQ (k:Nat) (d0:Disk) (r:Disk×Ledger×Int) (h0:Zcq k d0=some r):Za0 Try.prog 32 [.agg (Disk.c d0)] (fun y=>y=.tup [.agg (Disk.c r.1),.agg (Ledger.c r.2.1),.int .i64 r.2.2]):=by
 refine PB (fn:=Try.f32) (sc:=F32.c) ?_
 refine rS ?_
 simp only[Zcq]at h0
 try simp only[F32.c,go_sem]
 obtain⟨x1,yx1,h0⟩:=bs h0
 refine zc0 (Zdb k _ _ yx1) ?_ (by first|rfl|(simp[AV.refsL,AV.refs,AV.scal,AV.leaf];done)|simp[AV.refsL,AV.refs,AV.scal,AV.leaf,go_sem]) ?_
 try simp only[go_sem]
 try simp only[go_sem]
 refine Zab h0 ?_ ?_<;>intro c2 h0
 have c2:=ZaY c2
 try simp only[c2,go_sem]
 obtain rfl:=oi h0
 refine Zad rfl ?_
 try simp only[F32.rs,c2,go_sem]
 have c2:=ZaX c2
 try simp only[c2,go_sem]
 obtain⟨x4,yx4,h0⟩:=bs h0
 refine Zd9 Za9 1000 [] [] (Zbq k _ _ yx4) ?_ rfl ?_
 try simp only[gOK,c2,go_sem]
 try simp only[c2,go_sem]
 obtain⟨x6,yx6,h0⟩:=bs h0
 refine Zbv [2,3,11] [128,129,130,16,17,18,32,33] 8 rfl ?_
 try simp only[c2,go_sem]
 refine Zbc (Zbe k _ _ yx6) ?_ ?_
 try simp only[c2,go_sem]
 try simp only[List.take_succ_cons,List.drop_succ_cons,List.length_cons,List.length_nil,c2,go_sem]
 refine AK.weak (Za7.fz 1 rfl (fun _ h=>by cases h)) ?_
 try simp only[c2,go_sem]
 refine AK.nlbox 0 1 65 rfl rfl ?_
 try simp only[c2,go_sem]
 refine AK.weak (Za7.fz 0 rfl (fun _ h=>by cases h;rfl)) ?_
 try simp only[c2,go_sem]
 refine rS ?_
 try simp only[c2,go_sem]
 obtain⟨x7,yx7,h0⟩:=bs h0
 refine zc0 (ZdT k _ _ yx7) ?_ (by first|rfl|(simp[AV.refsL,AV.refs,AV.scal,AV.leaf];done)|simp[AV.refsL,AV.refs,AV.scal,AV.leaf,go_sem]) ?_
 try simp only[c2,go_sem]
 try simp only[c2,go_sem]
 refine Zab h0 ?_ ?_<;>intro c8 h0
 have c8:=ZaY c8
 try simp only[c8,c2,go_sem]
 obtain rfl:=oi h0
 refine Zad rfl ?_
 try simp only[F32.rs,c2,c8,go_sem]
 have c8:=ZaX c8
 try simp only[c8,c2,go_sem]
 obtain⟨x9,yx9,h0⟩:=bs h0
 refine zc0 (Zb8 k _ _ _ _ yx9) ?_ (by first|rfl|(simp[AV.refsL,AV.refs,AV.scal,AV.leaf];done)|simp[AV.refsL,AV.refs,AV.scal,AV.leaf,go_sem]) ?_
 try simp only[c2,c8,go_sem]
 try simp only[c2,c8,go_sem]
 obtain⟨x10,yx10,h0⟩:=bs h0
 refine zc0 (Zb8 k _ _ _ _ yx10) ?_ (by first|rfl|(simp[AV.refsL,AV.refs,AV.scal,AV.leaf];done)|simp[AV.refsL,AV.refs,AV.scal,AV.leaf,go_sem]) ?_
 try simp only[c2,c8,go_sem]
 try simp only[c2,c8,go_sem]
 refine Zab h0 ?_ ?_<;>intro c11 h0
 try simp only[c11,c2,c8,go_sem]
 obtain rfl:=oi h0
 refine Zad rfl ?_
 try simp only[F32.rs,c2,c8,c11,go_sem]
 try simp only[c11,c2,c8,go_sem]
 refine Zat Za9 Zau 1000 ?_
 try simp only[c2,c8,c11,go_sem]
 refine ZaB ⟨ZaC (by simp only[ZdN,List.reverse_cons,List.reverse_nil,List.nil_append,List.cons_append,List.map_cons,List.map_nil,List.append_nil];rfl) (by first|decide +kernel|rfl),Zag Za9 1000 _ _ ?_⟩
 try simp only[c2,c8,c11,go_sem]
 obtain rfl:=oi h0
 refine Zad rfl ?_
 try simp only[F32.rs,c2,c8,c11,go_sem]
def F36.s1:SC:=
 (.seq
 (.reg [bn 42 .lss 3 41 2 3 0 []])
 (.seq
 (.cond (.tmp 42)
 .skip
 (.exit 2))
 (.seq
 (.block 3
 (.seq
 (.reg [mv 43 41 3 [],
 sg 9 43 3 [43]])
 (.seq
 (.reg [mv 44 8 3 [],
 mv 45 9 3 [],
 b2 46 .shr 3 44 45 3 3 [44,45],
 bn 47 .and 3 46 1 3 3 [46],
 bn 48 .eql 3 47 1 3 4 [47]])
 (.cond (.tmp 48)
 (.dreg [mv 49 5 130 [],
 oq 50 (.nilCheck (.tmp 49)) 0 [],
 fa 51 134 50 0 [],
 fa 52 42 51 0 [],
 ld 53 39 52 [],
 fa 54 141 7 0 [],
 ld 55 3 54 [],
 mv 56 9 3 [],
 mv 57 9 3 [],
 fa 58 141 7 1 [],
 ia 59 139 58 57 [],
 ld 60 122 59 [],
 ia 61 39 53 55 [],
 ia 62 139 61 56 [],
 ⟨none,.store 122 (.tmp 62) (.tmp 60),0,none,[]⟩] [[],[0],[0,1],[0,1,2],[0,1,2,3],[],[5],[],[],[],[9,8],[9,8,10],[0,1,2,3,4,5,6],[0,1,2,3,4,5,6,12,7,8,9,10,11],[0,1,2,3,4,5,6,12,7,8,9,10,11,13]] [9,49,50,51,52,53,54,55,56,57,58,59,60,61,62])
 .skip))))
 (.reg [bn 63 .add 3 41 1 3 3 [41],
 mv 41 63 3 [63]]))))
def F36.s0:SC:=
 (.seq
 (.reg [b2 26 .lss 3 25 24 3 0 []])
 (.seq
 (.cond (.tmp 26)
 .skip
 (.exit 0))
 (.seq
 (.block 1
 (.seq
 (.reg [mv 27 25 3 [],
 ia 28 40 23 25 [],
 ld 29 141 28 [28],
 oq 7 (.alloc 141) 0 [],
 sg 6 27 3 [27],
 ⟨none,.store 141 (.tmp 7) (.tmp 29),0,none,[29]⟩])
 (.seq
 (.reg [sn 8 0 3 []])
 (.seq
 (.seq
 (.reg [mv 30 1 63 [],
 ln 31 30 63 3 [30],
 bn 32 .gtr 3 31 0 3 4 [31]])
 (.cond (.tmp 32)
 (.reg [mv 33 1 63 [],
 mv 34 6 3 [6],
 mv 35 1 63 [],
 ln 36 35 63 3 [35],
 b2 37 .rem 3 34 36 3 3 [34,36],
 ia 38 63 33 37 [33,37],
 ld 39 3 38 [38],
 bn 40 .and 3 39 3 3 3 [39],
 sg 8 40 3 [40]])
 .skip))
 (.seq
 (.reg [oq 41 (.move (.const (.int .i64 0))) 3 []])
 (.block 2
 (.loop F36.s1)))))))
 (.reg [bn 64 .add 3 25 1 3 3 [25],
 mv 25 64 3 [64]]))))
def F36.c:SC:=
 (.seq
 (.reg [oq 2 (.box 42 (.tmp 0)) 0 [0],
 oq 4 (.alloc 42) 0 []])
 (.seq
 (.reg [ld 10 42 2 [],
 cf1 11 72 10 42 130 [10],
 sg 5 11 130 [11]])
 (.seq
 (.seq
 (.reg [ld 12 42 2 [2],
 cf1 13 78 12 42 4 [12],
 oq 14 (.unOp .not 4 (.tmp 13)) 4 [13]])
 (.cond (.tmp 14)
 (.seq
 (.reg [mv 15 5 130 [5],
 oq 16 (.nilCheck (.tmp 15)) 0 [15],
 fa 17 134 16 0 [16],
 ld 18 42 17 [17],
 ⟨none,.store 42 (.tmp 4) (.tmp 18),0,none,[18]⟩])
 .ret)
 .skip))
 (.seq
 (.seq
 (.reg [mv 19 5 130 [],
 oq 20 (.nilCheck (.tmp 19)) 0 [19],
 fa 21 134 20 0 [20],
 fa 22 42 21 1 [21],
 ld 23 40 22 [22],
 ln 24 23 40 3 [],
 oq 25 (.move (.const (.int .i64 0))) 3 []])
 (.block 0
 (.loop F36.s0)))
 (.seq
 (.reg [mv 65 5 130 [],
 oq 66 (.nilCheck (.tmp 65)) 0 [65],
 fa 67 134 66 0 [66],
 fa 68 42 67 1 [67],
 ⟨none,.store 40 (.tmp 68) (.const (.slice none 0 0)),0,none,[68]⟩])
 (.seq
 (.reg [mv 69 5 130 [5],
 oq 70 (.nilCheck (.tmp 69)) 0 [69],
 fa 71 134 70 0 [70],
 ld 72 42 71 [71],
 ⟨none,.store 42 (.tmp 4) (.tmp 72),0,none,[72]⟩])
 .ret))))))
theorem F36.rs:Try.f36.results.toList=[.cell 4 42]:=rfl
def Zak.b1 (k:Nat) (x9:Write) (x12:Int):(Int×(List (Vec 2 (Vec 32 Int))))→Option (Stp (Int×(List (Vec 2 (Vec 32 Int)))) ((List (Vec 2 (Vec 32 Int)))) (Disk)):=fun(s:Int×(List (Vec 2 (Vec 32 Int))))=>match s with
 |(i13,l14)=>
   bif decide (i13<(2:Int)) then
    (sh? i13).bind fun _=>
    bif decide (Zp3 .i64 (Int.fdiv (Zp3 .i64 x12 3) (2 ^ (min (Int.toNat i13) 64))) 1=(1:Int)) then
     (x9.Page.at? i13).bind fun x19=>
     (at? l14 x9.At).bind fun x20=>
     (x20.at? i13).bind fun x21=>
     (ZlP l14 x9.At (x20.set i13 x19)).bind fun l23=>
     some (.next (w64 (i13+1),l23))
    else
     some (.next (w64 (i13+1),l14))
   else
    some (.brk l14)
def Zak.b1_2 (k:Nat) (x9:Write):(Int×(List (Vec 2 (Vec 32 Int))))→Option (Stp (Int×(List (Vec 2 (Vec 32 Int)))) ((List (Vec 2 (Vec 32 Int)))) (Disk)):=fun(s:Int×(List (Vec 2 (Vec 32 Int))))=>match s with
 |(i25,l26)=>
   bif decide (i25<(2:Int)) then
    (sh? i25).bind fun _=>
    bif decide (Zp3 .i64 (Int.fdiv 0 (2 ^ (min (Int.toNat i25) 64))) 1=(1:Int)) then
     (x9.Page.at? i25).bind fun x31=>
     (at? l26 x9.At).bind fun x32=>
     (x32.at? i25).bind fun x33=>
     (ZlP l26 x9.At (x32.set i25 x31)).bind fun l35=>
     some (.next (w64 (i25+1),l35))
    else
     some (.next (w64 (i25+1),l26))
   else
    some (.brk l26)
def Zak.b0 (k:Nat) (picks1:(List Int)) (x2:book_disk):(Int×(List (Vec 2 (Vec 32 Int))))→Option (Stp (Int×(List (Vec 2 (Vec 32 Int)))) ((List (Vec 2 (Vec 32 Int)))) (Disk)):=fun(s:Int×(List (Vec 2 (Vec 32 Int))))=>match s with
 |(i5,l6)=>
   bif decide (i5<((x2.Disk.Wait.length:Nat):Int)) then
    (at? x2.Disk.Wait i5).bind fun x9=>
    bif decide ((0:Int)<(picks1.length:Int)) then
     (nz? (picks1.length:Int)).bind fun _=>
     (at? picks1 (Int.tmod i5 (picks1.length:Int))).bind fun x12=>
     (whl (Zak.b1 k x9 x12) k (0,l6)).bind fun r24=>match r24 with
     |.next _=>none
     |.ret v_=>some (.ret v_)
     |.brk l15=>
      some (.next (w64 (i5+1),l15))
    else
     (whl (Zak.b1_2 k x9) k (0,l6)).bind fun r36=>match r36 with
     |.next _=>none
     |.ret v_=>some (.ret v_)
     |.brk l27=>
      some (.next (w64 (i5+1),l27))
   else
    some (.brk l6)
noncomputable def Zak.h1 (picks1:(List Int)) (x2:book_disk) (i5:Int) (x9:Write) (x12:Int):(Int×(List (Vec 2 (Vec 32 Int))))→St:=fun(s:Int×(List (Vec 2 (Vec 32 Int))))=>match s with
 |(i13,l14)=>⟨[(1,.sl 1 (List.map eI picks1)),(4,.ptr 0 0 0),(5,.ptr 0 3 0),(7,.ptr 0 6 0),(8,.int .i64 (Zp3 .i64 x12 3)),(23,.loc 0 5 65 0 x2.Disk.Wait.length x2.Disk.Wait.length),(24,.int .i64 ((x2.Disk.Wait.length:Nat):Int)),(25,.int .i64 i5),(41,.int .i64 i13)],[(0,.box ([.loc 0 1 64 0 0 0,.loc 0 2 65 0 0 0])),(1,.arr 139 64 (List.map (Vec.c (n:=2) (Vec.c (n:=32) eU8)) [])),(2,.arr 141 65 (List.map Write.c [])),(3,.box ([.loc 0 4 64 0 l14.length l14.length,.loc 0 5 65 0 x2.Disk.Wait.length x2.Disk.Wait.length])),(4,.arr 139 64 (List.map (Vec.c (n:=2) (Vec.c (n:=32) eU8)) l14)),(5,.arr 141 65 (List.map Write.c x2.Disk.Wait)),(6,.box ([.int .i64 x9.At]++(Vec.c (n:=2) (Vec.c (n:=32) eU8) x9.Page)))],[],7,Try.f36.ntmps⟩
noncomputable def Zak.x1 (picks1:(List Int)) (x2:book_disk) (i5:Int):(List (Vec 2 (Vec 32 Int)))→St:=fun(l15:(List (Vec 2 (Vec 32 Int))))=>⟨[(1,.sl 1 (List.map eI picks1)),(4,.ptr 0 0 0),(5,.ptr 0 3 0),(23,.loc 0 5 65 0 x2.Disk.Wait.length x2.Disk.Wait.length),(24,.int .i64 ((x2.Disk.Wait.length:Nat):Int)),(25,.int .i64 i5)],[(0,.box ([.loc 0 1 64 0 0 0,.loc 0 2 65 0 0 0])),(1,.arr 139 64 (List.map (Vec.c (n:=2) (Vec.c (n:=32) eU8)) [])),(2,.arr 141 65 (List.map Write.c [])),(3,.box ([.loc 0 4 64 0 l15.length l15.length,.loc 0 5 65 0 x2.Disk.Wait.length x2.Disk.Wait.length])),(4,.arr 139 64 (List.map (Vec.c (n:=2) (Vec.c (n:=32) eU8)) l15)),(5,.arr 141 65 (List.map Write.c x2.Disk.Wait))],[],6,Try.f36.ntmps⟩
noncomputable def Zak.h1_2 (picks1:(List Int)) (x2:book_disk) (i5:Int) (x9:Write):(Int×(List (Vec 2 (Vec 32 Int))))→St:=fun(s:Int×(List (Vec 2 (Vec 32 Int))))=>match s with
 |(i25,l26)=>⟨[(1,.sl 1 (List.map eI picks1)),(4,.ptr 0 0 0),(5,.ptr 0 3 0),(7,.ptr 0 6 0),(8,.int .i64 0),(23,.loc 0 5 65 0 x2.Disk.Wait.length x2.Disk.Wait.length),(24,.int .i64 ((x2.Disk.Wait.length:Nat):Int)),(25,.int .i64 i5),(41,.int .i64 i25)],[(0,.box ([.loc 0 1 64 0 0 0,.loc 0 2 65 0 0 0])),(1,.arr 139 64 (List.map (Vec.c (n:=2) (Vec.c (n:=32) eU8)) [])),(2,.arr 141 65 (List.map Write.c [])),(3,.box ([.loc 0 4 64 0 l26.length l26.length,.loc 0 5 65 0 x2.Disk.Wait.length x2.Disk.Wait.length])),(4,.arr 139 64 (List.map (Vec.c (n:=2) (Vec.c (n:=32) eU8)) l26)),(5,.arr 141 65 (List.map Write.c x2.Disk.Wait)),(6,.box ([.int .i64 x9.At]++(Vec.c (n:=2) (Vec.c (n:=32) eU8) x9.Page)))],[],7,Try.f36.ntmps⟩
noncomputable def Zak.x1_2 (picks1:(List Int)) (x2:book_disk) (i5:Int):(List (Vec 2 (Vec 32 Int)))→St:=fun(l27:(List (Vec 2 (Vec 32 Int))))=>⟨[(1,.sl 1 (List.map eI picks1)),(4,.ptr 0 0 0),(5,.ptr 0 3 0),(23,.loc 0 5 65 0 x2.Disk.Wait.length x2.Disk.Wait.length),(24,.int .i64 ((x2.Disk.Wait.length:Nat):Int)),(25,.int .i64 i5)],[(0,.box ([.loc 0 1 64 0 0 0,.loc 0 2 65 0 0 0])),(1,.arr 139 64 (List.map (Vec.c (n:=2) (Vec.c (n:=32) eU8)) [])),(2,.arr 141 65 (List.map Write.c [])),(3,.box ([.loc 0 4 64 0 l27.length l27.length,.loc 0 5 65 0 x2.Disk.Wait.length x2.Disk.Wait.length])),(4,.arr 139 64 (List.map (Vec.c (n:=2) (Vec.c (n:=32) eU8)) l27)),(5,.arr 141 65 (List.map Write.c x2.Disk.Wait))],[],6,Try.f36.ntmps⟩
noncomputable def Zak.h0 (picks1:(List Int)) (x2:book_disk):(Int×(List (Vec 2 (Vec 32 Int))))→St:=fun(s:Int×(List (Vec 2 (Vec 32 Int))))=>match s with
 |(i5,l6)=>⟨[(1,.sl 1 (List.map eI picks1)),(4,.ptr 0 0 0),(5,.ptr 0 3 0),(23,.loc 0 5 65 0 x2.Disk.Wait.length x2.Disk.Wait.length),(24,.int .i64 ((x2.Disk.Wait.length:Nat):Int)),(25,.int .i64 i5)],[(0,.box ([.loc 0 1 64 0 0 0,.loc 0 2 65 0 0 0])),(1,.arr 139 64 (List.map (Vec.c (n:=2) (Vec.c (n:=32) eU8)) [])),(2,.arr 141 65 (List.map Write.c [])),(3,.box ([.loc 0 4 64 0 l6.length l6.length,.loc 0 5 65 0 x2.Disk.Wait.length x2.Disk.Wait.length])),(4,.arr 139 64 (List.map (Vec.c (n:=2) (Vec.c (n:=32) eU8)) l6)),(5,.arr 141 65 (List.map Write.c x2.Disk.Wait))],[],6,Try.f36.ntmps⟩
noncomputable def Zak.x0 (x2:book_disk):(List (Vec 2 (Vec 32 Int)))→St:=fun(l7:(List (Vec 2 (Vec 32 Int))))=>⟨[(4,.ptr 0 0 0),(5,.ptr 0 3 0)],[(0,.box ([.loc 0 1 64 0 0 0,.loc 0 2 65 0 0 0])),(1,.arr 139 64 (List.map (Vec.c (n:=2) (Vec.c (n:=32) eU8)) [])),(2,.arr 141 65 (List.map Write.c [])),(3,.box ([.loc 0 4 64 0 l7.length l7.length,.loc 0 5 65 0 x2.Disk.Wait.length x2.Disk.Wait.length])),(4,.arr 139 64 (List.map (Vec.c (n:=2) (Vec.c (n:=32) eU8)) l7)),(5,.arr 141 65 (List.map Write.c x2.Disk.Wait))],[],6,Try.f36.ntmps⟩
def Zak (k:Nat) (d0:Disk) (picks1:(List Int)):Option (Disk):=
 (Zbd k d0).bind fun x2=>
 (ZbZ k d0).bind fun x3=>
 bif (!x3) then
  some x2.Disk
 else
  (whl (Zak.b0 k picks1 x2) k (0,x2.Disk.Pages)).bind fun r37=>match r37 with
  |.next _=>none
  |.ret v_=>some v_
  |.brk l7=>
   some (⟨l7,[]⟩:Disk)
theorem Zd2 (k:Nat) (d0:Disk) (picks1:(List Int)) (r:Disk) (h0:Zak k d0 picks1=some r):Za0 Try.prog 36 [.agg (Disk.c d0),.sl 1 (List.map eI picks1)] (fun y=>y=.agg (Disk.c r)):=by
 refine PB (fn:=Try.f36) (sc:=F36.c) ?_
 refine rS ?_
 simp only[Zak]at h0
 try simp only[F36.c,go_sem]
 obtain⟨x2,yx2,h0⟩:=bs h0
 refine Zd9 Za9 1000 [] [] (Zbq k _ _ yx2) ?_ rfl ?_
 try simp only[gOK,go_sem]
 try simp only[go_sem]
 obtain⟨x3,yx3,h0⟩:=bs h0
 refine zc0 (Zdb k _ _ yx3) ?_ (by first|rfl|(simp[AV.refsL,AV.refs,AV.scal,AV.leaf];done)|simp[AV.refsL,AV.refs,AV.scal,AV.leaf,go_sem]) ?_
 try simp only[go_sem]
 try simp only[go_sem]
 refine Zab h0 ?_ ?_<;>intro c4 h0
 have c4:=ZaY c4
 try simp only[c4,go_sem]
 obtain rfl:=oi h0
 refine Zad rfl ?_
 try simp only[F36.rs,c4,go_sem]
 have c4:=ZaX c4
 try simp only[c4,go_sem]
 obtain⟨r37,yr37,h0⟩:=bs h0
 refine Zay yr37 (Zak.h0 picks1 x2) (Zak.x0 x2) ?_ ?_ ?_
 refine Za7.go [1,4,5,23,24,25] [16,17,18,48,49,50] rfl ?_
 try simp only[Zak.h0,c4,go_sem]
 rintro⟨i5,l6⟩ x_1 Bk1 Br1 h1 hnext1 hbrk1 hret1
 refine rS ?_
 simp only[Zak.b0]at h1
 try simp only[F36.s0,Zak.h0,c4,go_sem]
 refine Zab h1 ?_ ?_<;>intro c8 h1
 try simp only[c8,c4,go_sem]
 obtain⟨x9,yx9,h1⟩:=bs h1
 try simp only[aa yx9,c4,c8,go_sem]
 refine Zab h1 ?_ ?_<;>intro c10 h1
 try simp only[c10,c4,c8,aa yx9,go_sem]
 obtain⟨u11,yu11,h1⟩:=bs h1
 try simp only[Zb4 yu11,c4,c8,aa yx9,c10,go_sem]
 obtain⟨x12,yx12,h1⟩:=bs h1
 try simp only[aa yx12,c4,c8,aa yx9,c10,Zb4 yu11,go_sem]
 obtain⟨r24,yr24,h1⟩:=bs h1
 refine Zay yr24 (Zak.h1 picks1 x2 i5 x9 x12) (Zak.x1 picks1 x2 i5) ?_ ?_ ?_
 refine Za7.go [1,4,5,7,8,23,24,25,41] [0,1,2,3,4,5,70] rfl ?_
 try simp only[Zak.h1,c4,c8,aa yx9,c10,Zb4 yu11,aa yx12,go_sem]
 rintro⟨i13,l14⟩ x_2 Bk2 Br2 h2 hnext2 hbrk2 hret2
 refine rS ?_
 simp only[Zak.b1]at h2
 try simp only[F36.s1,Zak.h1,c4,c8,aa yx9,c10,Zb4 yu11,aa yx12,go_sem]
 refine Zab h2 ?_ ?_<;>intro c16 h2
 try simp only[c16,c4,c8,aa yx9,c10,Zb4 yu11,aa yx12,go_sem]
 obtain⟨u17,yu17,h2⟩:=bs h2
 try simp only[Zdo yu17,c4,c8,aa yx9,c10,Zb4 yu11,aa yx12,c16,go_sem]
 refine Zab h2 ?_ ?_<;>intro c18 h2
 try simp only[c18,c4,c8,aa yx9,c10,Zb4 yu11,aa yx12,c16,Zdo yu17,go_sem]
 refine Zat Za9 Zau 1000 ?_
 try simp only[c4,c8,aa yx9,c10,Zb4 yu11,aa yx12,c16,Zdo yu17,c18,go_sem]
 obtain⟨x19,yx19,h2⟩:=bs h2
 have uyx19:=UpdE.at (fun q_=>((VK.vec Zar 32).len q_:((Vec.c (n:=32) eU8) q_).length=32)) (UpdE.skip (UpdE.self (fun q_=>((VK.vec (VK.vec Zar 32) 2).len q_:(Vec.c (n:=2) (Vec.c (n:=32) eU8) q_).length=64)) x9.Page) ([.int .i64 x9.At]:List AV)) yx19
 have buyx19:=uyx19.bound (fun q_=>((VK.vec Zar 32).len q_:((Vec.c (n:=32) eU8) q_).length=32))
 have guyx19:=uyx19.get (fun q_=>((VK.vec Zar 32).len q_:((Vec.c (n:=32) eU8) q_).length=32))
 try simp only[List.length_cons,List.length_nil,go_sem]at buyx19 guyx19
 try simp only[Zaa yx19,buyx19,guyx19,c4,c8,aa yx9,c10,Zb4 yu11,aa yx12,c16,Zdo yu17,c18,go_sem]
 obtain⟨x20,yx20,h2⟩:=bs h2
 try simp only[ZaF yx20,Zaw (Vec.c (n:=2) (Vec.c (n:=32) eU8)) yx20,c4,c8,aa yx9,c10,Zb4 yu11,aa yx12,c16,Zdo yu17,c18,Zaa yx19,buyx19,guyx19,go_sem]
 obtain⟨x21,yx21,h2⟩:=bs h2
 have uyx21:=UpdE.at (fun q_=>((VK.vec Zar 32).len q_:((Vec.c (n:=32) eU8) q_).length=32)) (UpdE.self (fun q_=>((VK.vec (VK.vec Zar 32) 2).len q_:(Vec.c (n:=2) (Vec.c (n:=32) eU8) q_).length=64)) x20) yx21
 have buyx21:=uyx21.bound (fun q_=>((VK.vec Zar 32).len q_:((Vec.c (n:=32) eU8) q_).length=32))
 have guyx21:=uyx21.get (fun q_=>((VK.vec Zar 32).len q_:((Vec.c (n:=32) eU8) q_).length=32))
 try simp only[List.length_cons,List.length_nil,go_sem]at buyx21 guyx21
 try simp only[Zaa yx21,buyx21,guyx21,c4,c8,aa yx9,c10,Zb4 yu11,aa yx12,c16,Zdo yu17,c18,Zaa yx19,buyx19,guyx19,ZaF yx20,Zaw (Vec.c (n:=2) (Vec.c (n:=32) eU8)) yx20,go_sem]
 obtain⟨l23,yl23,h2⟩:=bs h2
 have q22:=uyx21.ow x19
 try simp only[List.length_cons,List.length_nil,go_sem]at q22
 have eyl23:=ZjK (Vec.c (n:=2) (Vec.c (n:=32) eU8)) yl23
 try simp only[go_sem]at eyl23
 try simp only[q22,eyl23,c4,c8,aa yx9,c10,Zb4 yu11,aa yx12,c16,Zdo yu17,c18,Zaa yx19,buyx19,guyx19,ZaF yx20,Zaw (Vec.c (n:=2) (Vec.c (n:=32) eU8)) yx20,Zaa yx21,buyx21,guyx21,ZcY yl23,Zdd (Vec.c (n:=2) (Vec.c (n:=32) eU8)) yl23,go_sem]
 refine ZaB ⟨ZaC (by simp only[ZdN,List.reverse_cons,List.reverse_nil,List.nil_append,List.cons_append,List.map_cons,List.map_nil,List.append_nil];rfl) (by first|decide +kernel|rfl),Zag Za9 1000 _ _ ?_⟩
 try simp only[c4,c8,aa yx9,c10,Zb4 yu11,aa yx12,c16,Zdo yu17,c18,Zaa yx19,buyx19,guyx19,ZaF yx20,Zaw (Vec.c (n:=2) (Vec.c (n:=32) eU8)) yx20,Zaa yx21,buyx21,guyx21,eyl23,ZcY yl23,Zdd (Vec.c (n:=2) (Vec.c (n:=32) eU8)) yl23,go_sem]
 refine Zaf (hnext2 _ _ (oi h2).symm ?_)
 refine Za7.go [1,4,5,7,8,23,24,25,41] [0,1,2,3,4,5,6] rfl ?_
 try simp only[Zak.h1,c4,c8,aa yx9,c10,Zb4 yu11,aa yx12,c16,Zdo yu17,c18,Zaa yx19,buyx19,guyx19,ZaF yx20,Zaw (Vec.c (n:=2) (Vec.c (n:=32) eU8)) yx20,Zaa yx21,buyx21,guyx21,eyl23,ZcY yl23,Zdd (Vec.c (n:=2) (Vec.c (n:=32) eU8)) yl23,go_sem]
 try simp only[c18,c4,c8,aa yx9,c10,Zb4 yu11,aa yx12,c16,Zdo yu17,go_sem]
 refine Zaf (hnext2 _ _ (oi h2).symm ?_)
 refine Za7.go [1,4,5,7,8,23,24,25,41] [0,1,2,3,4,5,6] rfl ?_
 try simp only[Zak.h1,c4,c8,aa yx9,c10,Zb4 yu11,aa yx12,c16,Zdo yu17,c18,go_sem]
 try simp only[c16,c4,c8,aa yx9,c10,Zb4 yu11,aa yx12,go_sem]
 refine Zaf (hbrk2 _ _ (oi h2).symm ?_)
 refine Za7.go [1,4,5,23,24,25] [0,1,2,3,4,5] rfl ?_
 try simp only[Zak.x1,c4,c8,aa yx9,c10,Zb4 yu11,aa yx12,c16,go_sem]
 rintro l15 hr_
 subst hr_
 simp only at h1
 refine rS ?_
 try simp only[Zak.x1,c4,c8,aa yx9,c10,Zb4 yu11,aa yx12,go_sem]
 refine Zaf (hnext1 _ _ (oi h1).symm ?_)
 refine Za7.go [1,4,5,23,24,25] [0,1,2,3,4,5] rfl ?_
 try simp only[Zak.h0,c4,c8,aa yx9,c10,Zb4 yu11,aa yx12,go_sem]
 try simp only[c10,c4,c8,aa yx9,go_sem]
 obtain⟨r36,yr36,h1⟩:=bs h1
 refine Zay yr36 (Zak.h1_2 picks1 x2 i5 x9) (Zak.x1_2 picks1 x2 i5) ?_ ?_ ?_
 refine Za7.go [1,4,5,7,8,23,24,25,41] [0,1,2,3,4,5,70] rfl ?_
 try simp only[Zak.h1_2,c4,c8,aa yx9,c10,go_sem]
 rintro⟨i25,l26⟩ x_2 Bk2 Br2 h2 hnext2 hbrk2 hret2
 refine rS ?_
 simp only[Zak.b1_2]at h2
 try simp only[F36.s1,Zak.h1_2,c4,c8,aa yx9,c10,go_sem]
 refine Zab h2 ?_ ?_<;>intro c28 h2
 try simp only[c28,c4,c8,aa yx9,c10,go_sem]
 obtain⟨u29,yu29,h2⟩:=bs h2
 try simp only[Zdo yu29,c4,c8,aa yx9,c10,c28,go_sem]
 refine Zab h2 ?_ ?_<;>intro c30 h2
 try simp only[c30,c4,c8,aa yx9,c10,c28,Zdo yu29,go_sem]
 refine Zat Za9 Zau 1000 ?_
 try simp only[c4,c8,aa yx9,c10,c28,Zdo yu29,c30,go_sem]
 obtain⟨x31,yx31,h2⟩:=bs h2
 have uyx31:=UpdE.at (fun q_=>((VK.vec Zar 32).len q_:((Vec.c (n:=32) eU8) q_).length=32)) (UpdE.skip (UpdE.self (fun q_=>((VK.vec (VK.vec Zar 32) 2).len q_:(Vec.c (n:=2) (Vec.c (n:=32) eU8) q_).length=64)) x9.Page) ([.int .i64 x9.At]:List AV)) yx31
 have buyx31:=uyx31.bound (fun q_=>((VK.vec Zar 32).len q_:((Vec.c (n:=32) eU8) q_).length=32))
 have guyx31:=uyx31.get (fun q_=>((VK.vec Zar 32).len q_:((Vec.c (n:=32) eU8) q_).length=32))
 try simp only[List.length_cons,List.length_nil,go_sem]at buyx31 guyx31
 try simp only[Zaa yx31,buyx31,guyx31,c4,c8,aa yx9,c10,c28,Zdo yu29,c30,go_sem]
 obtain⟨x32,yx32,h2⟩:=bs h2
 try simp only[ZaF yx32,Zaw (Vec.c (n:=2) (Vec.c (n:=32) eU8)) yx32,c4,c8,aa yx9,c10,c28,Zdo yu29,c30,Zaa yx31,buyx31,guyx31,go_sem]
 obtain⟨x33,yx33,h2⟩:=bs h2
 have uyx33:=UpdE.at (fun q_=>((VK.vec Zar 32).len q_:((Vec.c (n:=32) eU8) q_).length=32)) (UpdE.self (fun q_=>((VK.vec (VK.vec Zar 32) 2).len q_:(Vec.c (n:=2) (Vec.c (n:=32) eU8) q_).length=64)) x32) yx33
 have buyx33:=uyx33.bound (fun q_=>((VK.vec Zar 32).len q_:((Vec.c (n:=32) eU8) q_).length=32))
 have guyx33:=uyx33.get (fun q_=>((VK.vec Zar 32).len q_:((Vec.c (n:=32) eU8) q_).length=32))
 try simp only[List.length_cons,List.length_nil,go_sem]at buyx33 guyx33
 try simp only[Zaa yx33,buyx33,guyx33,c4,c8,aa yx9,c10,c28,Zdo yu29,c30,Zaa yx31,buyx31,guyx31,ZaF yx32,Zaw (Vec.c (n:=2) (Vec.c (n:=32) eU8)) yx32,go_sem]
 obtain⟨l35,yl35,h2⟩:=bs h2
 have q34:=uyx33.ow x31
 try simp only[List.length_cons,List.length_nil,go_sem]at q34
 have eyl35:=ZjK (Vec.c (n:=2) (Vec.c (n:=32) eU8)) yl35
 try simp only[go_sem]at eyl35
 try simp only[q34,eyl35,c4,c8,aa yx9,c10,c28,Zdo yu29,c30,Zaa yx31,buyx31,guyx31,ZaF yx32,Zaw (Vec.c (n:=2) (Vec.c (n:=32) eU8)) yx32,Zaa yx33,buyx33,guyx33,ZcY yl35,Zdd (Vec.c (n:=2) (Vec.c (n:=32) eU8)) yl35,go_sem]
 refine ZaB ⟨ZaC (by simp only[ZdN,List.reverse_cons,List.reverse_nil,List.nil_append,List.cons_append,List.map_cons,List.map_nil,List.append_nil];rfl) (by first|decide +kernel|rfl),Zag Za9 1000 _ _ ?_⟩
 try simp only[c4,c8,aa yx9,c10,c28,Zdo yu29,c30,Zaa yx31,buyx31,guyx31,ZaF yx32,Zaw (Vec.c (n:=2) (Vec.c (n:=32) eU8)) yx32,Zaa yx33,buyx33,guyx33,eyl35,ZcY yl35,Zdd (Vec.c (n:=2) (Vec.c (n:=32) eU8)) yl35,go_sem]
 refine Zaf (hnext2 _ _ (oi h2).symm ?_)
 refine Za7.go [1,4,5,7,8,23,24,25,41] [0,1,2,3,4,5,6] rfl ?_
 try simp only[Zak.h1_2,c4,c8,aa yx9,c10,c28,Zdo yu29,c30,Zaa yx31,buyx31,guyx31,ZaF yx32,Zaw (Vec.c (n:=2) (Vec.c (n:=32) eU8)) yx32,Zaa yx33,buyx33,guyx33,eyl35,ZcY yl35,Zdd (Vec.c (n:=2) (Vec.c (n:=32) eU8)) yl35,go_sem]
 try simp only[c30,c4,c8,aa yx9,c10,c28,Zdo yu29,go_sem]
 refine Zaf (hnext2 _ _ (oi h2).symm ?_)
 refine Za7.go [1,4,5,7,8,23,24,25,41] [0,1,2,3,4,5,6] rfl ?_
 try simp only[Zak.h1_2,c4,c8,aa yx9,c10,c28,Zdo yu29,c30,go_sem]
 try simp only[c28,c4,c8,aa yx9,c10,go_sem]
 refine Zaf (hbrk2 _ _ (oi h2).symm ?_)
 refine Za7.go [1,4,5,23,24,25] [0,1,2,3,4,5] rfl ?_
 try simp only[Zak.x1_2,c4,c8,aa yx9,c10,c28,go_sem]
 rintro l27 hr_
 subst hr_
 simp only at h1
 refine rS ?_
 try simp only[Zak.x1_2,c4,c8,aa yx9,c10,go_sem]
 refine Zaf (hnext1 _ _ (oi h1).symm ?_)
 refine Za7.go [1,4,5,23,24,25] [0,1,2,3,4,5] rfl ?_
 try simp only[Zak.h0,c4,c8,aa yx9,c10,go_sem]
 try simp only[c8,c4,go_sem]
 refine Zaf (hbrk1 _ _ (oi h1).symm ?_)
 refine Za7.go [4,5] [0,1,2,3,4,5] rfl ?_
 try simp only[Zak.x0,c4,c8,go_sem]
 rintro l7 hr_
 subst hr_
 simp only at h0
 refine rS ?_
 try simp only[Zak.x0,c4,go_sem]
 obtain rfl:=oi h0
 refine Zad rfl ?_
 try simp only[F36.rs,c4,go_sem]
def F43.c:SC:=
 (.seq
 (.reg [oq 0 (.alloc 42) 0 [],
 oq 1 (.alloc 48) 0 []])
 (.seq
 (.reg [oq 3 (.makeSlice 39 (.const (.int .i64 602)) (.const (.int .i64 602))) 39 [],
 oq 4 (.build 42 #[(0,.tmp 3)]) 42 [3],
 oq 2 (.alloc 42) 0 [],
 ⟨none,.store 42 (.tmp 2) (.tmp 4),0,none,[4]⟩])
 (.seq
 (.dreg [fa 5 42 2 0 [],
 ld 6 39 5 [],
 oq 7 (.call ⟨.value (.func 101),#[.const (.int .i64 1),.const (.int .i64 0)],#[3,3]⟩) 126 [],
 oq 8 (.indexAddr 39 (.tmp 6) (.const (.int .i64 0))) 0 [],
 oq 9 (.indexAddr 139 (.tmp 8) (.const (.int .i64 0))) 0 [],
 ⟨none,.store 122 (.tmp 9) (.tmp 7),0,none,[]⟩] [[],[0],[],[0,1],[0,1,3,2],[0,1,3,2,4]] [5,6,7,8,9])
 (.seq
 (.reg [ld 10 42 2 [2],
 oq 11 (.build 48 #[(2,.const (.int .i64 1)),(3,.const (.int .i64 1))]) 48 [],
 ⟨none,.store 42 (.tmp 0) (.tmp 10),0,none,[10]⟩,
 ⟨none,.store 48 (.tmp 1) (.tmp 11),0,none,[11]⟩])
 .ret))))
theorem F43.rs:Try.f43.results.toList=[.cell 0 42,.cell 1 48]:=rfl
def Zf7 (k:Nat):Option (Disk×Ledger):=
 (Zp5 602 64 ((Vec.rep 2 ((Vec.rep 32 (0:Int)):(Vec 32 Int))):(Vec 2 (Vec 32 Int)))).bind fun l1=>
 (ZdD k 1 0).bind fun x2=>
 (at? l1 0).bind fun x3=>
 (x3.at? 0).bind fun x4=>
 (ZlP l1 0 (x3.set 0 x2)).bind fun l6=>
 some ((⟨l6,[]⟩:Disk),(⟨(⟨[]⟩:Book),0,1,1⟩:Ledger))
theorem ZhU (k:Nat) (r:Disk×Ledger) (h0:Zf7 k=some r):Za0 Try.prog 43 [] (fun y=>y=.tup [.agg (Disk.c r.1),.agg (Ledger.c r.2)]):=by
 refine PB (fn:=Try.f43) (sc:=F43.c) ?_
 refine rS ?_
 simp only[Zf7]at h0
 try simp only[F43.c,go_sem]
 have hz:=bs h0;clear h0;cases hz;rename_i l1 hz;cases hz;rename_i yl1 h0
 obtain⟨_,kyl1⟩:=ZqK yl1
 have eyl1:List.replicate 602 (Vec.c (n:=2) (Vec.c (n:=32) eU8) (Vec.rep 2 ((Vec.rep 32 (0:Int)):(Vec 32 Int))))=List.map (Vec.c (n:=2) (Vec.c (n:=32) eU8)) l1:=ZsW (Vec.c (n:=2) (Vec.c (n:=32) eU8)) yl1
 have nyl1:l1.length=602:=ZsV yl1
 have tyl1:List.take 602 (List.map (Vec.c (n:=2) (Vec.c (n:=32) eU8)) l1)=List.map (Vec.c (n:=2) (Vec.c (n:=32) eU8)) l1:=ZqL (Vec.c (n:=2) (Vec.c (n:=32) eU8)) yl1
 try simp only[ZsU kyl1,eyl1,nyl1,tyl1,(@id (Int.toNat 602=602) rfl),go_sem]
 refine Zat Za9 Zau 1000 ?_
 try simp only[eyl1,nyl1,tyl1,(@id (Int.toNat 602=602) rfl),go_sem]
 have hz:=bs h0;clear h0;cases hz;rename_i x2 hz;cases hz;rename_i yx2 h0
 refine Zbk 1000 (Zfa k _ _ _ yx2) ?_ (by first|rfl|(simp[AV.refsL,AV.refs,AV.scal,AV.leaf];done)|simp[AV.refsL,AV.refs,AV.scal,AV.leaf,go_sem]) ?_
 try simp only[eyl1,nyl1,tyl1,(@id (Int.toNat 602=602) rfl),go_sem]
 try simp only[eyl1,nyl1,tyl1,(@id (Int.toNat 602=602) rfl),go_sem]
 have hz:=bs h0;clear h0;cases hz;rename_i x3 hz;cases hz;rename_i yx3 h0
 have eyx3:=ZaF yx3
 simp only[eyl1,nyl1,tyl1,(@id (Int.toNat 602=602) rfl),go_sem]at eyx3
 try simp only[eyx3,Zaw (Vec.c (n:=2) (Vec.c (n:=32) eU8)) yx3,eyl1,nyl1,tyl1,(@id (Int.toNat 602=602) rfl),go_sem]
 have hz:=bs h0;clear h0;cases hz;rename_i x4 hz;cases hz;rename_i yx4 h0
 have uyx4:=UpdE.at (fun q_=>((VK.vec Zar 32).len q_:((Vec.c (n:=32) eU8) q_).length=32)) (UpdE.self (fun q_=>((VK.vec (VK.vec Zar 32) 2).len q_:(Vec.c (n:=2) (Vec.c (n:=32) eU8) q_).length=64)) x3) yx4
 have buyx4:=uyx4.bound (fun q_=>((VK.vec Zar 32).len q_:((Vec.c (n:=32) eU8) q_).length=32))
 have guyx4:=uyx4.get (fun q_=>((VK.vec Zar 32).len q_:((Vec.c (n:=32) eU8) q_).length=32))
 try simp only[List.length_cons,List.length_nil,go_sem]at buyx4 guyx4
 try simp only[Zaa yx4,buyx4,guyx4,eyl1,nyl1,tyl1,(@id (Int.toNat 602=602) rfl),eyx3,Zaw (Vec.c (n:=2) (Vec.c (n:=32) eU8)) yx3,go_sem]
 have hz:=bs h0;clear h0;cases hz;rename_i l6 hz;cases hz;rename_i yl6 h0
 have q5:=uyx4.ow x2
 try simp only[List.length_cons,List.length_nil,go_sem]at q5
 have eyl6:=ZjK (Vec.c (n:=2) (Vec.c (n:=32) eU8)) yl6
 try simp only[go_sem]at eyl6
 have tyl6:=Zdd (Vec.c (n:=2) (Vec.c (n:=32) eU8)) yl6
 try simp only[eyl1,nyl1,tyl1,(@id (Int.toNat 602=602) rfl),eyx3,Zaw (Vec.c (n:=2) (Vec.c (n:=32) eU8)) yx3,Zaa yx4,buyx4,guyx4,go_sem]at tyl6
 try simp only[q5,eyl6,eyl1,nyl1,tyl1,(@id (Int.toNat 602=602) rfl),eyx3,Zaw (Vec.c (n:=2) (Vec.c (n:=32) eU8)) yx3,Zaa yx4,buyx4,guyx4,ZcY yl6,tyl6,go_sem]
 refine ZaB ⟨ZaC (by simp only[ZdN,List.reverse_cons,List.reverse_nil,List.nil_append,List.cons_append,List.map_cons,List.map_nil,List.append_nil];rfl) (by first|decide +kernel|rfl),Zag Za9 1000 _ _ ?_⟩
 try simp only[eyl1,nyl1,tyl1,(@id (Int.toNat 602=602) rfl),eyx3,Zaw (Vec.c (n:=2) (Vec.c (n:=32) eU8)) yx3,Zaa yx4,buyx4,guyx4,eyl6,ZcY yl6,tyl6,go_sem]
 obtain rfl:=oi h0
 refine Zad rfl ?_
 try simp only[F43.rs,eyl1,nyl1,tyl1,(@id (Int.toNat 602=602) rfl),eyx3,Zaw (Vec.c (n:=2) (Vec.c (n:=32) eU8)) yx3,Zaa yx4,buyx4,guyx4,eyl6,ZcY yl6,tyl6,go_sem]
end Go.Abs
namespace Go.Abs
open Go Go.Proofs Go.RowKit Go.Lib
def F14.c:SC:=
 (.seq
 (.reg [sb 0 false 4 [0]])
 (.seq
 (.reg [oq 26 (.build 23 #[(0,.const (.int .i64 2))]) 23 [],
 oq 27 (.build 25 #[(0,.tmp 26),(1,.const (.int .i64 5)),(2,.const (.int .i64 10)),(3,.const (.int .i64 12)),(5,.const (.string ⟨#[98,101,110,116,32,49,48,48,48]⟩))]) 25 [26],
 oq 1 (.alloc 25) 0 [],
 ⟨none,.store 25 (.tmp 1) (.tmp 27),0,none,[27]⟩])
 (.seq
 (.reg [ld 29 25 1 [],
 cf1 30 26 29 25 57 [29],
 mv 28 30 57 [30],
 xt 31 28 0 56 [],
 xt 32 28 1 28 [28],
 sg 2 31 56 [31],
 sg 3 32 28 [32]])
 (.seq
 (.reg [ld 34 25 1 [],
 oq 35 (.call ⟨.value (.func 15),#[.tmp 34,.const (.int .i64 0),.const (.int .i64 1)],#[25,3,3]⟩) 29 [34],
 mv 33 35 29 [35],
 xt 36 33 0 27 [],
 xt 37 33 1 28 [33],
 sg 4 36 27 [36],
 sg 5 37 28 [37]])
 (.seq
 (.reg [oq 39 (.call ⟨.value (.func 43),#[],#[]⟩) 76 [],
 mv 38 39 76 [39],
 xt 40 38 0 42 [],
 xt 41 38 1 48 [38],
 oq 6 (.alloc 42) 0 [],
 oq 7 (.alloc 48) 0 [],
 ⟨none,.store 42 (.tmp 6) (.tmp 40),0,none,[40]⟩,
 ⟨none,.store 48 (.tmp 7) (.tmp 41),0,none,[41]⟩])
 (.seq
 (.reg [ld 43 42 6 [6],
 ld 44 48 7 [7],
 ld 45 25 1 [],
 oq 46 (.call ⟨.value (.func 20),#[.tmp 43,.tmp 44,.tmp 45],#[42,48,25]⟩) 50 [43,44,45],
 mv 42 46 50 [46],
 xt 47 42 0 42 [],
 xt 48 42 1 48 [],
 xt 49 42 2 28 [42],
 oq 8 (.alloc 42) 0 [],
 oq 9 (.alloc 48) 0 [],
 ⟨none,.store 42 (.tmp 8) (.tmp 47),0,none,[47]⟩,
 ⟨none,.store 48 (.tmp 9) (.tmp 48),0,none,[48]⟩,
 sg 10 49 28 [49]])
 (.seq
 (.reg [ld 51 42 8 [],
 oq 52 (.buildSlice 63 2 #[(0,.const (.int .i64 2)),(1,.const (.int .i64 0))]) 63 [],
 cf2 53 36 51 52 42 63 42 [51,52],
 cf1 54 32 53 42 50 [53],
 mv 50 54 50 [54],
 xt 55 50 0 42 [],
 xt 56 50 1 48 [],
 xt 57 50 2 28 [50],
 oq 11 (.alloc 42) 0 [],
 oq 12 (.alloc 48) 0 [],
 ⟨none,.store 42 (.tmp 11) (.tmp 55),0,none,[55]⟩,
 ⟨none,.store 48 (.tmp 12) (.tmp 56),0,none,[56]⟩,
 sg 13 57 28 [57]])
 (.seq
 (.reg [ld 59 42 11 [11],
 ld 60 48 12 [],
 ld 61 25 1 [1],
 oq 62 (.call ⟨.value (.func 20),#[.tmp 59,.tmp 60,.tmp 61],#[42,48,25]⟩) 50 [59,60,61],
 mv 58 62 50 [62],
 xt 63 58 0 42 [],
 xt 64 58 1 48 [],
 xt 65 58 2 28 [58],
 oq 14 (.alloc 42) 0 [],
 oq 15 (.alloc 48) 0 [],
 ⟨none,.store 42 (.tmp 14) (.tmp 63),0,none,[63]⟩,
 ⟨none,.store 48 (.tmp 15) (.tmp 64),0,none,[64]⟩,
 sg 16 65 28 [65]])
 (.seq
 (.reg [ld 67 42 14 [],
 oq 68 (.buildSlice 63 2 #[(0,.const (.int .i64 0)),(1,.const (.int .i64 1))]) 63 [],
 cf2 69 36 67 68 42 63 42 [67,68],
 cf1 70 32 69 42 50 [69],
 mv 66 70 50 [70],
 xt 71 66 0 42 [],
 xt 72 66 1 48 [],
 xt 73 66 2 28 [66],
 oq 17 (.alloc 42) 0 [],
 oq 18 (.alloc 48) 0 [],
 ⟨none,.store 42 (.tmp 17) (.tmp 71),0,none,[17,71]⟩,
 ⟨none,.store 48 (.tmp 18) (.tmp 72),0,none,[72]⟩,
 sg 19 73 28 [73]])
 (.seq
 (.reg [ld 75 42 14 [14],
 oq 76 (.buildSlice 63 2 #[(0,.const (.int .i64 3)),(1,.const (.int .i64 3))]) 63 [],
 cf2 77 36 75 76 42 63 42 [75,76],
 cf1 78 32 77 42 50 [77],
 mv 74 78 50 [78],
 xt 79 74 0 42 [],
 xt 80 74 1 48 [],
 xt 81 74 2 28 [74],
 oq 20 (.alloc 42) 0 [],
 oq 21 (.alloc 48) 0 [],
 ⟨none,.store 42 (.tmp 20) (.tmp 79),0,none,[20,79]⟩,
 ⟨none,.store 48 (.tmp 21) (.tmp 80),0,none,[80]⟩,
 sg 22 81 28 [81]])
 (.seq
 (.reg [mv 82 3 28 [3],
 bn 83 .eql 28 82 0 28 4 [82],
 mv 84 83 4 [83],
 og 85 (.move (.tmp 5)) 28 84 true [5],
 og 86 (.binOp .eql 28 (.tmp 85) (.const (.int .i64 0)) 28) 4 84 true [85],
 oq 87 (.pick (.tmp 84) (.tmp 86) (.const (.bool false))) 4 [84,86],
 mv 88 87 4 [87],
 og 89 (.move (.tmp 10)) 28 88 true [10],
 og 90 (.binOp .eql 28 (.tmp 89) (.const (.int .i64 0)) 28) 4 88 true [89],
 oq 91 (.pick (.tmp 88) (.tmp 90) (.const (.bool false))) 4 [88,90],
 mv 92 91 4 [91],
 og 93 (.move (.tmp 13)) 28 92 true [13],
 og 94 (.binOp .eql 28 (.tmp 93) (.const (.int .i64 0)) 28) 4 92 true [93],
 oq 95 (.pick (.tmp 92) (.tmp 94) (.const (.bool false))) 4 [92,94],
 mv 96 95 4 [95],
 og 97 (.move (.tmp 16)) 28 96 true [16],
 og 98 (.binOp .eql 28 (.tmp 97) (.const (.int .i64 0)) 28) 4 96 true [97],
 oq 99 (.pick (.tmp 96) (.tmp 98) (.const (.bool false))) 4 [96,98],
 mv 100 99 4 [99],
 og 101 (.move (.tmp 19)) 28 100 true [19],
 og 102 (.binOp .eql 28 (.tmp 101) (.const (.int .i64 0)) 28) 4 100 true [101],
 oq 103 (.pick (.tmp 100) (.tmp 102) (.const (.bool false))) 4 [100,102],
 mv 104 103 4 [103],
 og 105 (.move (.tmp 22)) 28 104 true [22],
 og 106 (.binOp .eql 28 (.tmp 105) (.const (.int .i64 0)) 28) 4 104 true [105],
 oq 107 (.pick (.tmp 104) (.tmp 106) (.const (.bool false))) 4 [104,106],
 sg 23 107 4 [107]])
 (.seq
 (.reg [mv 108 2 56 [2],
 ln 109 108 56 3 [108],
 bn 110 .eql 3 109 25 3 4 [109],
 mv 111 110 4 [110],
 og 112 (.move (.tmp 4)) 27 111 true [],
 og 113 (.call ⟨.builtin .len,#[.tmp 112],#[27]⟩) 3 111 true [112],
 og 114 (.binOp .eql 3 (.tmp 113) (.const (.int .i64 2)) 3) 4 111 true [113],
 oq 115 (.pick (.tmp 111) (.tmp 114) (.const (.bool false))) 4 [111,114],
 mv 116 115 4 [115],
 og 117 (.move (.tmp 4)) 27 116 true [],
 og 118 (.indexAddr 27 (.tmp 117) (.const (.int .i64 1))) 0 116 true [117],
 og 119 (.indexAddr 122 (.tmp 118) (.const (.int .i64 6))) 0 116 true [118],
 og 120 (.load 5 (.tmp 119)) 5 116 true [119],
 og 121 (.binOp .eql 5 (.tmp 120) (.const (.int .u8 1)) 5) 4 116 true [120],
 oq 122 (.pick (.tmp 116) (.tmp 121) (.const (.bool false))) 4 [116,121],
 mv 123 122 4 [122],
 og 124 (.move (.tmp 4)) 27 123 true [],
 og 125 (.indexAddr 27 (.tmp 124) (.const (.int .i64 1))) 0 123 true [124],
 og 126 (.indexAddr 122 (.tmp 125) (.const (.int .i64 7))) 0 123 true [125],
 og 127 (.load 5 (.tmp 126)) 5 123 true [126],
 og 128 (.binOp .eql 5 (.tmp 127) (.const (.int .u8 2)) 5) 4 123 true [127],
 oq 129 (.pick (.tmp 123) (.tmp 128) (.const (.bool false))) 4 [123,128],
 mv 130 129 4 [129],
 og 131 (.move (.tmp 4)) 27 130 true [4],
 og 132 (.indexAddr 27 (.tmp 131) (.const (.int .i64 0))) 0 130 true [131],
 og 133 (.indexAddr 122 (.tmp 132) (.const (.int .i64 31))) 0 130 true [132],
 og 134 (.load 5 (.tmp 133)) 5 130 true [133],
 og 135 (.binOp .eql 5 (.tmp 134) (.const (.int .u8 165)) 5) 4 130 true [134],
 oq 136 (.pick (.tmp 130) (.tmp 135) (.const (.bool false))) 4 [130,135],
 sg 24 136 4 [136]])
 (.seq
 (.reg [fa 137 42 8 1 [8],
 ld 138 40 137 [137],
 ln 139 138 40 3 [138],
 bn 140 .eql 3 139 2 3 4 [139],
 mv 141 140 4 [140],
 og 142 (.fieldAddr 48 (.tmp 9) 3) 0 141 true [9],
 og 143 (.load 3 (.tmp 142)) 3 141 true [142],
 og 144 (.binOp .eql 3 (.tmp 143) (.const (.int .i64 3)) 3) 4 141 true [143],
 oq 145 (.pick (.tmp 141) (.tmp 144) (.const (.bool false))) 4 [141,144],
 mv 146 145 4 [145],
 og 147 (.fieldAddr 48 (.tmp 12) 0) 0 146 true [],
 og 148 (.fieldAddr 46 (.tmp 147) 0) 0 146 true [147],
 og 149 (.load 44 (.tmp 148)) 44 146 true [148],
 og 150 (.call ⟨.builtin .len,#[.tmp 149],#[44]⟩) 3 146 true [149],
 og 151 (.binOp .eql 3 (.tmp 150) (.const (.int .i64 0)) 3) 4 146 true [150],
 oq 152 (.pick (.tmp 146) (.tmp 151) (.const (.bool false))) 4 [146,151],
 mv 153 152 4 [152],
 og 154 (.fieldAddr 48 (.tmp 12) 2) 0 153 true [12],
 og 155 (.load 3 (.tmp 154)) 3 153 true [154],
 og 156 (.binOp .eql 3 (.tmp 155) (.const (.int .i64 2)) 3) 4 153 true [155],
 oq 157 (.pick (.tmp 153) (.tmp 156) (.const (.bool false))) 4 [153,156],
 mv 158 157 4 [157],
 og 159 (.fieldAddr 48 (.tmp 15) 3) 0 158 true [15],
 og 160 (.load 3 (.tmp 159)) 3 158 true [159],
 og 161 (.binOp .eql 3 (.tmp 160) (.const (.int .i64 3)) 3) 4 158 true [160],
 oq 162 (.pick (.tmp 158) (.tmp 161) (.const (.bool false))) 4 [158,161],
 sg 25 162 4 [162]])
 (.seq
 (.reg [mv 163 23 4 [23],
 mv 164 163 4 [163],
 og 165 (.move (.tmp 24)) 4 164 true [24],
 oq 166 (.pick (.tmp 164) (.tmp 165) (.const (.bool false))) 4 [164,165],
 mv 167 166 4 [166],
 og 168 (.move (.tmp 25)) 4 167 true [25],
 oq 169 (.pick (.tmp 167) (.tmp 168) (.const (.bool false))) 4 [167,168],
 mv 170 169 4 [169],
 og 171 (.fieldAddr 48 (.tmp 18) 0) 0 170 true [],
 og 172 (.fieldAddr 46 (.tmp 171) 0) 0 170 true [171],
 og 173 (.load 44 (.tmp 172)) 44 170 true [172],
 og 174 (.call ⟨.builtin .len,#[.tmp 173],#[44]⟩) 3 170 true [173],
 og 175 (.binOp .eql 3 (.tmp 174) (.const (.int .i64 0)) 3) 4 170 true [174],
 oq 176 (.pick (.tmp 170) (.tmp 175) (.const (.bool false))) 4 [170,175],
 mv 177 176 4 [176],
 og 178 (.fieldAddr 48 (.tmp 18) 2) 0 177 true [18],
 og 179 (.load 3 (.tmp 178)) 3 177 true [178],
 og 180 (.binOp .eql 3 (.tmp 179) (.const (.int .i64 3)) 3) 4 177 true [179],
 oq 181 (.pick (.tmp 177) (.tmp 180) (.const (.bool false))) 4 [177,180],
 mv 182 181 4 [181],
 og 183 (.fieldAddr 48 (.tmp 21) 0) 0 182 true [],
 og 184 (.fieldAddr 46 (.tmp 183) 0) 0 182 true [183],
 og 185 (.load 44 (.tmp 184)) 44 182 true [184],
 og 186 (.call ⟨.builtin .len,#[.tmp 185],#[44]⟩) 3 182 true [185],
 og 187 (.binOp .eql 3 (.tmp 186) (.const (.int .i64 1)) 3) 4 182 true [186],
 oq 188 (.pick (.tmp 182) (.tmp 187) (.const (.bool false))) 4 [182,187],
 mv 189 188 4 [188],
 og 190 (.fieldAddr 48 (.tmp 21) 2) 0 189 true [21],
 og 191 (.load 3 (.tmp 190)) 3 189 true [190],
 og 192 (.binOp .eql 3 (.tmp 191) (.const (.int .i64 3)) 3) 4 189 true [191],
 oq 193 (.pick (.tmp 189) (.tmp 192) (.const (.bool false))) 4 [189,192],
 sg 0 193 4 [193]])
 .ret))))))))))))))
theorem F14.rs:Try.f14.results.toList=[.tmp 0]:=rfl
def ZhD (k:Nat):Option (Bool):=
 (ZfY k (⟨(⟨2,0⟩:Entry),5,10,12,(⟨0,0⟩:Entry),(⟨#[98,101,110,116,32,49,48,48,48]⟩:ByteArray)⟩:Record)).bind fun x1=>
 (ZaR k (⟨(⟨2,0⟩:Entry),5,10,12,(⟨0,0⟩:Entry),(⟨#[98,101,110,116,32,49,48,48,48]⟩:ByteArray)⟩:Record) 0 1).bind fun x2=>
 (Zf7 k).bind fun x3=>
 (ZbB k x3.1 x3.2 (⟨(⟨2,0⟩:Entry),5,10,12,(⟨0,0⟩:Entry),(⟨#[98,101,110,116,32,49,48,48,48]⟩:ByteArray)⟩:Record)).bind fun x4=>
 (Zak k x4.1 [2,0]).bind fun x5=>
 (Zcq k x5).bind fun x6=>
 (ZbB k x6.1 x6.2.1 (⟨(⟨2,0⟩:Entry),5,10,12,(⟨0,0⟩:Entry),(⟨#[98,101,110,116,32,49,48,48,48]⟩:ByteArray)⟩:Record)).bind fun x7=>
 (Zak k x7.1 [0,1]).bind fun x8=>
 (Zcq k x8).bind fun x9=>
 (Zak k x7.1 [3,3]).bind fun x10=>
 (Zcq k x10).bind fun x11=>
 bif decide (x1.2=(0:Int)) then
  bif decide (x2.2=(0:Int)) then
   bif decide (x4.2.2=(0:Int)) then
    bif decide (x6.2.2=(0:Int)) then
     bif decide (x7.2.2=(0:Int)) then
      bif decide (x9.2.2=(0:Int)) then
       bif decide ((x1.1.length:Int)=(25:Int)) then
        bif decide ((x2.1.length:Int)=(2:Int)) then
         (at? x2.1 1).bind fun x20=>
         (x20.at? 6).bind fun x21=>
         bif decide (x21=(1:Int)) then
          (x20.at? 7).bind fun x23=>
          bif decide (x23=(2:Int)) then
           (at? x2.1 0).bind fun x25=>
           (x25.at? 31).bind fun x26=>
           bif decide ((x4.1.Wait.length:Int)=(2:Int)) then
            bif decide (x4.2.1.Used=(3:Int)) then
             bif decide ((x6.2.1.Book.Records.length:Int)=(0:Int)) then
              bif decide (x6.2.1.Epoch=(2:Int)) then
               bif decide (x11.2.2=(0:Int)) then
                bif decide (x26=(165:Int)) then
                 bif decide (x7.2.1.Used=(3:Int)) then
                  bif decide ((x9.2.1.Book.Records.length:Int)=(0:Int)) then
                   bif decide (x9.2.1.Epoch=(3:Int)) then
                    bif decide ((x11.2.1.Book.Records.length:Int)=(1:Int)) then
                     some (decide (x11.2.1.Epoch=(3:Int)))
                    else
                     none
                   else
                    none
                  else
                   none
                 else
                  none
                else
                 none
               else
                none
              else
               none
             else
              none
            else
             none
           else
            none
          else
           none
         else
          none
        else
         none
       else
        none
      else
       none
     else
      none
    else
     none
   else
    none
  else
   none
 else
  none
theorem Zlo (k:Nat) (r:Bool) (h0:ZhD k=some r):Za0 Try.prog 14 [] (fun y=>y=.bool r):=by
 refine Za0.nlr (Za0.of_body Za9 (fn:=Try.f14) (sc:=F14.c) (by rfl) (by rfl) (by decide +kernel) (by rfl) (by decide +kernel) (Nat.le_of_ble_eq_true rfl) ?_)
 refine Zag Za9 1000 _ _ ?_
 simp only[ZhD]at h0
 try simp only[F14.c,go_sem]
 obtain⟨x1,yx1,h0⟩:=bind_some h0
 refine ZaS Za9 1000 (ZiE k _ _ yx1) ?_ (by first|rfl|simp[AV.refsL,AV.refs,AV.scal,AV.leaf]) ?_
 ·try simp only[go_sem]
 try simp only[go_sem]
 obtain⟨x2,yx2,h0⟩:=bind_some h0
 refine ZaS Za9 1000 (ZiF k _ _ _ _ yx2) ?_ (by first|rfl|simp[AV.refsL,AV.refs,AV.scal,AV.leaf]) ?_
 ·try simp only[go_sem]
 try simp only[go_sem]
 obtain⟨x3,yx3,h0⟩:=bind_some h0
 refine ZaS Za9 1000 (ZhU k _ yx3) ?_ (by first|rfl|simp[AV.refsL,AV.refs,AV.scal,AV.leaf]) ?_
 ·try simp only[go_sem]
 try simp only[go_sem]
 obtain⟨x4,yx4,h0⟩:=bind_some h0
 refine ZaS Za9 1000 (Zda k _ _ _ _ yx4) ?_ (by first|rfl|simp[AV.refsL,AV.refs,AV.scal,AV.leaf]) ?_
 ·try simp only[go_sem]
 try simp only[go_sem]
 obtain⟨x5,yx5,h0⟩:=bind_some h0
 refine Zgv Za9 1000 [656] (Zd2 k _ _ _ yx5) ?_ ?_
 ·try simp only[go_sem]
 try simp only[go_sem]
 obtain⟨x6,yx6,h0⟩:=bind_some h0
 refine ZaS Za9 1000 (ZdQ k _ _ yx6) ?_ (by first|rfl|simp[AV.refsL,AV.refs,AV.scal,AV.leaf]) ?_
 ·try simp only[go_sem]
 try simp only[go_sem]
 obtain⟨x7,yx7,h0⟩:=bind_some h0
 refine ZaS Za9 1000 (Zda k _ _ _ _ yx7) ?_ (by first|rfl|simp[AV.refsL,AV.refs,AV.scal,AV.leaf]) ?_
 ·try simp only[go_sem]
 try simp only[go_sem]
 obtain⟨x8,yx8,h0⟩:=bind_some h0
 refine Zgv Za9 1000 [1072] (Zd2 k _ _ _ yx8) ?_ ?_
 ·try simp only[go_sem]
 try simp only[go_sem]
 obtain⟨x9,yx9,h0⟩:=bind_some h0
 refine ZaS Za9 1000 (ZdQ k _ _ yx9) ?_ (by first|rfl|simp[AV.refsL,AV.refs,AV.scal,AV.leaf]) ?_
 ·try simp only[go_sem]
 try simp only[go_sem]
 obtain⟨x10,yx10,h0⟩:=bind_some h0
 refine Zgv Za9 1000 [1280] (Zd2 k _ _ _ yx10) ?_ ?_
 ·try simp only[go_sem]
 try simp only[go_sem]
 obtain⟨x11,yx11,h0⟩:=bind_some h0
 refine ZaS Za9 1000 (ZdQ k _ _ yx11) ?_ (by first|rfl|simp[AV.refsL,AV.refs,AV.scal,AV.leaf]) ?_
 ·try simp only[go_sem]
 try simp only[go_sem]
 refine Zab h0 (fun c12 h0=>?_) (fun c12 h0=>?_)
 ·try simp only[c12,go_sem]
  refine Zab h0 (fun c13 h0=>?_) (fun c13 h0=>?_)
  ·try simp only[c13,c12,go_sem]
   refine Zab h0 (fun c14 h0=>?_) (fun c14 h0=>?_)
   ·try simp only[c14,c12,c13,go_sem]
    refine Zab h0 (fun c15 h0=>?_) (fun c15 h0=>?_)
    ·try simp only[c15,c12,c13,c14,go_sem]
     refine Zab h0 (fun c16 h0=>?_) (fun c16 h0=>?_)
     ·try simp only[c16,c12,c13,c14,c15,go_sem]
      refine Zab h0 (fun c17 h0=>?_) (fun c17 h0=>?_)
      ·try simp only[c17,c12,c13,c14,c15,c16,go_sem]
       refine Zab h0 (fun c18 h0=>?_) (fun c18 h0=>?_)
       ·try simp only[c18,c12,c13,c14,c15,c16,c17,go_sem]
        refine Zab h0 (fun c19 h0=>?_) (fun c19 h0=>?_)
        ·try simp only[c19,c12,c13,c14,c15,c16,c17,c18,go_sem]
         obtain⟨x20,yx20,h0⟩:=bind_some h0
         try simp only[ZaF yx20,Zaw (Vec.c (n:=32) eU8) yx20,c12,c13,c14,c15,c16,c17,c18,c19,go_sem]
         obtain⟨x21,yx21,h0⟩:=bind_some h0
         have uyx21:=UpdE.at (fun q_=>(Zar.len q_:(eU8 q_).length=1)) (UpdE.self (fun q_=>((VK.vec Zar 32).len q_:(Vec.c (n:=32) eU8 q_).length=32)) x20) yx21
         have buyx21:=uyx21.bound (fun q_=>(Zar.len q_:(eU8 q_).length=1))
         have guyx21:=uyx21.get (fun q_=>(Zar.len q_:(eU8 q_).length=1))
         try simp only[List.length_cons,List.length_nil,go_sem]at buyx21 guyx21
         try simp only[Zaa yx21,buyx21,guyx21,c12,c13,c14,c15,c16,c17,c18,c19,ZaF yx20,Zaw (Vec.c (n:=32) eU8) yx20,go_sem]
         refine Zab h0 (fun c22 h0=>?_) (fun c22 h0=>?_)
         ·try simp only[c22,ZaF yx20,Zaw (Vec.c (n:=32) eU8) yx20,c12,c13,c14,c15,c16,c17,c18,c19,Zaa yx21,buyx21,guyx21,go_sem]
          obtain⟨x23,yx23,h0⟩:=bind_some h0
          have uyx23:=UpdE.at (fun q_=>(Zar.len q_:(eU8 q_).length=1)) (UpdE.self (fun q_=>((VK.vec Zar 32).len q_:(Vec.c (n:=32) eU8 q_).length=32)) x20) yx23
          have buyx23:=uyx23.bound (fun q_=>(Zar.len q_:(eU8 q_).length=1))
          have guyx23:=uyx23.get (fun q_=>(Zar.len q_:(eU8 q_).length=1))
          try simp only[List.length_cons,List.length_nil,go_sem]at buyx23 guyx23
          try simp only[Zaa yx23,buyx23,guyx23,c12,c13,c14,c15,c16,c17,c18,c19,ZaF yx20,Zaw (Vec.c (n:=32) eU8) yx20,Zaa yx21,buyx21,guyx21,c22,go_sem]
          refine Zab h0 (fun c24 h0=>?_) (fun c24 h0=>?_)
          ·try simp only[c24,c12,c13,c14,c15,c16,c17,c18,c19,ZaF yx20,Zaw (Vec.c (n:=32) eU8) yx20,Zaa yx21,buyx21,guyx21,c22,Zaa yx23,buyx23,guyx23,go_sem]
           obtain⟨x25,yx25,h0⟩:=bind_some h0
           try simp only[ZaF yx25,Zaw (Vec.c (n:=32) eU8) yx25,c12,c13,c14,c15,c16,c17,c18,c19,ZaF yx20,Zaw (Vec.c (n:=32) eU8) yx20,Zaa yx21,buyx21,guyx21,c22,Zaa yx23,buyx23,guyx23,c24,go_sem]
           obtain⟨x26,yx26,h0⟩:=bind_some h0
           have uyx26:=UpdE.at (fun q_=>(Zar.len q_:(eU8 q_).length=1)) (UpdE.self (fun q_=>((VK.vec Zar 32).len q_:(Vec.c (n:=32) eU8 q_).length=32)) x25) yx26
           have buyx26:=uyx26.bound (fun q_=>(Zar.len q_:(eU8 q_).length=1))
           have guyx26:=uyx26.get (fun q_=>(Zar.len q_:(eU8 q_).length=1))
           try simp only[List.length_cons,List.length_nil,go_sem]at buyx26 guyx26
           try simp only[Zaa yx26,buyx26,guyx26,c12,c13,c14,c15,c16,c17,c18,c19,ZaF yx20,Zaw (Vec.c (n:=32) eU8) yx20,Zaa yx21,buyx21,guyx21,c22,Zaa yx23,buyx23,guyx23,c24,ZaF yx25,Zaw (Vec.c (n:=32) eU8) yx25,go_sem]
           refine Zab h0 (fun c27 h0=>?_) (fun c27 h0=>?_)
           ·try simp only[c27,c12,c13,c14,c15,c16,c17,c18,c19,ZaF yx20,Zaw (Vec.c (n:=32) eU8) yx20,Zaa yx21,buyx21,guyx21,c22,Zaa yx23,buyx23,guyx23,c24,ZaF yx25,Zaw (Vec.c (n:=32) eU8) yx25,Zaa yx26,buyx26,guyx26,go_sem]
            refine Zab h0 (fun c28 h0=>?_) (fun c28 h0=>?_)
            ·try simp only[c28,c12,c13,c14,c15,c16,c17,c18,c19,ZaF yx20,Zaw (Vec.c (n:=32) eU8) yx20,Zaa yx21,buyx21,guyx21,c22,Zaa yx23,buyx23,guyx23,c24,ZaF yx25,Zaw (Vec.c (n:=32) eU8) yx25,Zaa yx26,buyx26,guyx26,c27,go_sem]
             refine Zab h0 (fun c29 h0=>?_) (fun c29 h0=>?_)
             ·try simp only[c29,c12,c13,c14,c15,c16,c17,c18,c19,ZaF yx20,Zaw (Vec.c (n:=32) eU8) yx20,Zaa yx21,buyx21,guyx21,c22,Zaa yx23,buyx23,guyx23,c24,ZaF yx25,Zaw (Vec.c (n:=32) eU8) yx25,Zaa yx26,buyx26,guyx26,c27,c28,go_sem]
              refine Zab h0 (fun c30 h0=>?_) (fun c30 h0=>?_)
              ·try simp only[c30,c12,c13,c14,c15,c16,c17,c18,c19,ZaF yx20,Zaw (Vec.c (n:=32) eU8) yx20,Zaa yx21,buyx21,guyx21,c22,Zaa yx23,buyx23,guyx23,c24,ZaF yx25,Zaw (Vec.c (n:=32) eU8) yx25,Zaa yx26,buyx26,guyx26,c27,c28,c29,go_sem]
               refine Zab h0 (fun c31 h0=>?_) (fun c31 h0=>?_)
               ·try simp only[c31,c12,c13,c14,c15,c16,c17,c18,c19,ZaF yx20,Zaw (Vec.c (n:=32) eU8) yx20,Zaa yx21,buyx21,guyx21,c22,Zaa yx23,buyx23,guyx23,c24,ZaF yx25,Zaw (Vec.c (n:=32) eU8) yx25,Zaa yx26,buyx26,guyx26,c27,c28,c29,c30,go_sem]
                refine Zab h0 (fun c32 h0=>?_) (fun c32 h0=>?_)
                ·try simp only[c32,c12,c13,c14,c15,c16,c17,c18,c19,ZaF yx20,Zaw (Vec.c (n:=32) eU8) yx20,Zaa yx21,buyx21,guyx21,c22,Zaa yx23,buyx23,guyx23,c24,ZaF yx25,Zaw (Vec.c (n:=32) eU8) yx25,Zaa yx26,buyx26,guyx26,c27,c28,c29,c30,c31,go_sem]
                 refine Zab h0 (fun c33 h0=>?_) (fun c33 h0=>?_)
                 ·try simp only[c33,c12,c13,c14,c15,c16,c17,c18,c19,ZaF yx20,Zaw (Vec.c (n:=32) eU8) yx20,Zaa yx21,buyx21,guyx21,c22,Zaa yx23,buyx23,guyx23,c24,ZaF yx25,Zaw (Vec.c (n:=32) eU8) yx25,Zaa yx26,buyx26,guyx26,c27,c28,c29,c30,c31,c32,go_sem]
                  refine Zab h0 (fun c34 h0=>?_) (fun c34 h0=>?_)
                  ·try simp only[c34,c12,c13,c14,c15,c16,c17,c18,c19,ZaF yx20,Zaw (Vec.c (n:=32) eU8) yx20,Zaa yx21,buyx21,guyx21,c22,Zaa yx23,buyx23,guyx23,c24,ZaF yx25,Zaw (Vec.c (n:=32) eU8) yx25,Zaa yx26,buyx26,guyx26,c27,c28,c29,c30,c31,c32,c33,go_sem]
                   refine Zab h0 (fun c35 h0=>?_) (fun c35 h0=>?_)
                   ·try simp only[c35,c12,c13,c14,c15,c16,c17,c18,c19,ZaF yx20,Zaw (Vec.c (n:=32) eU8) yx20,Zaa yx21,buyx21,guyx21,c22,Zaa yx23,buyx23,guyx23,c24,ZaF yx25,Zaw (Vec.c (n:=32) eU8) yx25,Zaa yx26,buyx26,guyx26,c27,c28,c29,c30,c31,c32,c33,c34,go_sem]
                    refine Zab h0 (fun c36 h0=>?_) (fun c36 h0=>?_)
                    ·try simp only[c36,c12,c13,c14,c15,c16,c17,c18,c19,ZaF yx20,Zaw (Vec.c (n:=32) eU8) yx20,Zaa yx21,buyx21,guyx21,c22,Zaa yx23,buyx23,guyx23,c24,ZaF yx25,Zaw (Vec.c (n:=32) eU8) yx25,Zaa yx26,buyx26,guyx26,c27,c28,c29,c30,c31,c32,c33,c34,c35,go_sem]
                     obtain rfl:=oi h0
                     refine Zad rfl ?_
                     try simp only[F14.rs,c12,c13,c14,c15,c16,c17,c18,c19,ZaF yx20,Zaw (Vec.c (n:=32) eU8) yx20,Zaa yx21,buyx21,guyx21,c22,Zaa yx23,buyx23,guyx23,c24,ZaF yx25,Zaw (Vec.c (n:=32) eU8) yx25,Zaa yx26,buyx26,guyx26,c27,c28,c29,c30,c31,c32,c33,c34,c35,c36,go_sem]
                    ·cases h0
                   ·cases h0
                  ·cases h0
                 ·cases h0
                ·cases h0
               ·cases h0
              ·cases h0
             ·cases h0
            ·cases h0
           ·cases h0
          ·cases h0
         ·cases h0
        ·cases h0
       ·cases h0
      ·cases h0
     ·cases h0
    ·cases h0
   ·cases h0
  ·cases h0
 ·cases h0
def F34.c:SC:=
 (.seq
 (.reg [oq 1 (.box 42 (.tmp 0)) 0 [0],
 oq 2 (.alloc 42) 0 []])
 (.seq
 (.reg [ld 4 42 1 [],
 cf1 5 72 4 42 130 [4],
 sg 3 5 130 [5]])
 (.seq
 (.seq
 (.reg [ld 6 42 1 [1],
 cf1 7 78 6 42 4 [6],
 oq 8 (.unOp .not 4 (.tmp 7)) 4 [7]])
 (.cond (.tmp 8)
 (.seq
 (.reg [mv 9 3 130 [3],
 oq 10 (.nilCheck (.tmp 9)) 0 [9],
 fa 11 134 10 0 [10],
 ld 12 42 11 [11],
 ⟨none,.store 42 (.tmp 2) (.tmp 12),0,none,[12]⟩])
 .ret)
 .skip))
 (.seq
 (.reg [mv 13 3 130 [3],
 cf1 14 79 13 130 130 [13],
 oq 15 (.nilCheck (.tmp 14)) 0 [14],
 fa 16 134 15 0 [15],
 ld 17 42 16 [16],
 ⟨none,.store 42 (.tmp 2) (.tmp 17),0,none,[17]⟩])
 .ret))))
theorem F34.rs:Try.f34.results.toList=[.cell 2 42]:=rfl
def Zel (k:Nat) (d0:Disk):Option (Disk):=
 (Zbd k d0).bind fun x2=>
 (ZbZ k d0).bind fun x3=>
 bif (!x3) then
  some x2.Disk
 else
  (Zaq k x2).bind fun x6=>
  some (⟨x6.Disk.Pages,[]⟩:Disk)
theorem Zkk (k:Nat) (d0:Disk) (r:Disk) (h0:Zel k d0=some r):Za0 Try.prog 34 [.agg (Disk.c d0)] (fun y=>y=.agg (Disk.c r)):=by
 refine PB (fn:=Try.f34) (sc:=F34.c) ?_
 refine rS ?_
 simp only[Zel]at h0
 try simp only[F34.c,go_sem]
 obtain⟨x2,yx2,h0⟩:=bs h0
 refine Zd9 Za9 1000 [] [] (Zbq k _ _ yx2) ?_ rfl ?_
 try simp only[gOK,go_sem]
 try simp only[go_sem]
 obtain⟨x3,yx3,h0⟩:=bs h0
 refine zc0 (Zdb k _ _ yx3) ?_ (by first|rfl|(simp[AV.refsL,AV.refs,AV.scal,AV.leaf];done)|simp[AV.refsL,AV.refs,AV.scal,AV.leaf,go_sem]) ?_
 try simp only[go_sem]
 try simp only[go_sem]
 refine Zab h0 ?_ ?_<;>intro c4 h0
 have c4:=ZaY c4
 try simp only[c4,go_sem]
 obtain rfl:=oi h0
 refine Zad rfl ?_
 try simp only[F34.rs,c4,go_sem]
 have c4:=ZaX c4
 try simp only[c4,go_sem]
 obtain⟨x6,yx6,h0⟩:=bs h0
 refine Zbv [2,8] [48,49,50,16,17,18] 6 rfl ?_
 try simp only[c4,go_sem]
 refine Zbc (Zbe k _ _ yx6) ?_ ?_
 try simp only[c4,go_sem]
 try simp only[List.take_succ_cons,List.drop_succ_cons,List.length_cons,List.length_nil,c4,go_sem]
 refine rS ?_
 try simp only[c4,go_sem]
 obtain rfl:=oi h0
 refine Zad rfl ?_
 try simp only[F34.rs,c4,go_sem]
def F39.c:SC:=
 (.seq
 (.reg [sn 4 0 3 [4]])
 (.seq
 (.reg [mv 5 0 3 [0],
 mv 6 1 3 [],
 b2 7 .rem 3 5 6 3 3 [5,6],
 mv 8 1 3 [],
 b2 9 .add 3 7 8 3 3 [7,8],
 mv 10 1 3 [1],
 b2 11 .rem 3 9 10 3 3 [9,10],
 sg 4 11 3 [11]])
 .ret))
theorem F39.rs:Try.f39.results.toList=[.tmp 4]:=rfl
def Zdr (k:Nat) (n0:Int) (m1:Int):Option (Int):=
 (nz? m1).bind fun _=>
 some (Int.tmod (w64 ((Int.tmod n0 m1)+m1)) m1)
theorem Zc4 (k:Nat) (n0:Int) (m1:Int) (r:Int) (h0:Zdr k n0 m1=some r):Za0 Try.prog 39 [.int .i64 n0,.int .i64 m1] (fun y=>y=.int .i64 r):=by
 refine PB (fn:=Try.f39) (sc:=F39.c) ?_
 refine rS ?_
 simp only[Zdr]at h0
 try simp only[F39.c,go_sem]
 obtain⟨u1,yu1,h0⟩:=bs h0
 try simp only[Zb4 yu1,go_sem]
 obtain rfl:=oi h0
 refine Zad rfl ?_
 try simp only[F39.rs,Zb4 yu1,go_sem]
def F105.s0:SC:=
 (.seq
 (.seq
 (.reg [mv 5 4 3 [],
 mv 6 0 44 [],
 ln 7 6 44 3 [6],
 b2 8 .lss 3 5 7 3 4 [5,7]])
 (.cond (.tmp 8)
 .skip
 (.exit 0)))
 (.seq
 (.block 1
 (.reg [mv 11 0 44 [],
 mv 12 4 3 [],
 ia 13 44 11 12 [11,12],
 fa 14 25 13 0 [13],
 fa 15 23 14 0 [14],
 ld 16 3 15 [15],
 ia 17 95 3 16 [],
 ld 18 3 17 [17],
 bn 19 .add 3 18 1 3 3 [18],
 ia 20 95 3 16 [16],
 ⟨none,.store 3 (.tmp 20) (.tmp 19),0,none,[19,20]⟩]))
 (.reg [mv 9 4 3 [4],
 bn 10 .add 3 9 1 3 3 [9],
 sg 4 10 3 [10]])))
def F105.c:SC:=
 (.seq
 (.reg [oq 2 (.alloc 95) 0 []])
 (.seq
 (.reg [oq 3 (.alloc 95) 0 []])
 (.seq
 (.seq
 (.reg [sn 4 0 3 []])
 (.block 0
 (.loop F105.s0)))
 (.seq
 (.reg [ld 21 95 3 [3],
 ⟨none,.store 95 (.tmp 2) (.tmp 21),0,none,[21]⟩])
 .ret))))
theorem F105.rs:Try.f105.results.toList=[.cell 2 95]:=rfl
def Zbl.b0 (k:Nat) (l0:(List Record)):((Vec 6 Int)×Int)→Option (Stp ((Vec 6 Int)×Int) ((Vec 6 Int)) ((Vec 6 Int))):=fun(s:(Vec 6 Int)×Int)=>match s with
 |(s1,i2)=>
   bif decide (i2<(l0.length:Int)) then
    (at? l0 i2).bind fun x5=>
    (s1.at? x5.At.House).bind fun x6=>
    some (.next (s1.set x5.At.House (w64 (x6+1)),w64 (i2+1)))
   else
    some (.brk s1)
noncomputable def Zbl.h0 (l0:(List Record)):((Vec 6 Int)×Int)→St:=fun(s:(Vec 6 Int)×Int)=>match s with
 |(s1,i2)=>⟨[(0,.sl 8 (List.map Record.c l0)),(2,.ptr 0 0 0),(3,.ptr 0 1 0),(4,.int .i64 i2)],[(0,.box (Vec.c (n:=6) eI (Vec.rep 6 (0:Int)))),(1,.box (Vec.c (n:=6) eI s1))],[],2,Try.f105.ntmps⟩
noncomputable def Zbl.x0:(Vec 6 Int)→St:=fun(s3:(Vec 6 Int))=>⟨[(2,.ptr 0 0 0),(3,.ptr 0 1 0)],[(0,.box (Vec.c (n:=6) eI (Vec.rep 6 (0:Int)))),(1,.box (Vec.c (n:=6) eI s3))],[],2,Try.f105.ntmps⟩
def Zbl (k:Nat) (l0:(List Record)):Option ((Vec 6 Int)):=
 (whl (Zbl.b0 k l0) k ((Vec.rep 6 (0:Int)),0)).bind fun r8=>match r8 with
 |.next _=>none
 |.ret v_=>some v_
 |.brk s3=>
  some s3
theorem Zlq (k:Nat) (l0:(List Record)) (r:(Vec 6 Int)) (h0:Zbl k l0=some r):Za0 Try.prog 105 [.sl 8 (List.map Record.c l0)] (fun y=>y=.agg ((Vec.c (n:=6) eI) r)):=by
 refine PB (fn:=Try.f105) (sc:=F105.c) ?_
 refine rS ?_
 simp only[Zbl]at h0
 try simp only[F105.c,go_sem]
 obtain⟨r8,yr8,h0⟩:=bs h0
 refine Zay yr8 (Zbl.h0 l0) (Zbl.x0) ?_ ?_ ?_
 refine Za7.go [0,2,3,4] [0,16] rfl ?_
 try simp only[Zbl.h0,go_sem]
 rintro⟨s1,i2⟩ x_1 Bk1 Br1 h1 hnext1 hbrk1 hret1
 refine rS ?_
 simp only[Zbl.b0]at h1
 try simp only[F105.s0,Zbl.h0,go_sem]
 refine Zab h1 ?_ ?_<;>intro c4 h1
 try simp only[c4,go_sem]
 obtain⟨x5,yx5,h1⟩:=bs h1
 try simp only[aa yx5,c4,go_sem]
 obtain⟨x6,yx6,h1⟩:=bs h1
 have uyx6:=UpdE.at (fun q_=>(Zbj.len q_:(eI q_).length=1)) (UpdE.self (fun q_=>((VK.vec Zbj 6).len q_:(Vec.c (n:=6) eI q_).length=6)) s1) yx6
 have buyx6:=uyx6.bound (fun q_=>(Zbj.len q_:(eI q_).length=1))
 have guyx6:=uyx6.get (fun q_=>(Zbj.len q_:(eI q_).length=1))
 try simp only[List.length_cons,List.length_nil,go_sem]at buyx6 guyx6
 have q7:=uyx6.ow (w64 (x6+1))
 try simp only[List.length_cons,List.length_nil,go_sem]at q7
 try simp only[Zaa yx6,buyx6,guyx6,q7,c4,aa yx5,go_sem]
 refine Zaf (hnext1 _ _ (oi h1).symm ?_)
 refine Za7.go [0,2,3,4] [0,1] rfl ?_
 try simp only[Zbl.h0,c4,aa yx5,Zaa yx6,buyx6,guyx6,go_sem]
 try simp only[c4,go_sem]
 refine Zaf (hbrk1 _ _ (oi h1).symm ?_)
 refine Za7.go [2,3] [0,1] rfl ?_
 try simp only[Zbl.x0,c4,go_sem]
 rintro s3 hr_
 subst hr_
 simp only at h0
 refine rS ?_
 try simp only[Zbl.x0,go_sem]
 obtain rfl:=oi h0
 refine Zad rfl ?_
 try simp only[F105.rs,go_sem]
def F95.c:SC:=
 (.seq
 (.reg [oq 3 (.box 79 (.tmp 1)) 0 [1],
 oq 4 (.alloc 25) 0 []])
 (.seq
 (.reg [oq 8 (.indexAddr 79 (.tmp 3) (.const (.int .i64 0))) 0 [],
 ld 9 3 8 [8],
 oq 10 (.call ⟨.value (.func 39),#[.tmp 9,.const (.int .i64 3)],#[3,3]⟩) 3 [9],
 sg 5 10 3 [10]])
 (.seq
 (.dreg [mv 11 5 3 [],
 mv 12 0 44 [],
 cf1 13 105 12 44 95 [],
 mv 14 5 3 [],
 oq 15 (.index 95 (.tmp 13) (.tmp 14)) 3 [],
 oq 16 (.build 23 #[(0,.tmp 11),(1,.tmp 15)]) 23 [],
 oq 17 (.indexAddr 79 (.tmp 3) (.const (.int .i64 1))) 0 [],
 ld 18 3 17 [],
 oq 19 (.call ⟨.value (.func 39),#[.tmp 18,.const (.int .i64 6)],#[3,3]⟩) 3 [],
 oq 20 (.indexAddr 79 (.tmp 3) (.const (.int .i64 2))) 0 [],
 ld 21 3 20 [],
 oq 22 (.call ⟨.value (.func 39),#[.tmp 21,.const (.int .i64 50)],#[3,3]⟩) 3 [],
 oq 23 (.indexAddr 79 (.tmp 3) (.const (.int .i64 3))) 0 [],
 ld 24 3 23 [],
 oq 25 (.call ⟨.value (.func 39),#[.tmp 24,.const (.int .i64 50)],#[3,3]⟩) 3 [],
 oq 26 (.build 25 #[(0,.tmp 16),(1,.tmp 19),(2,.tmp 22),(3,.tmp 25)]) 25 [],
 oq 6 (.alloc 25) 0 [],
 ⟨none,.store 25 (.tmp 6) (.tmp 26),0,none,[]⟩] [[],[],[1],[],[1,2,3],[0,1,2,3,4],[],[6],[6,7,1,2],[],[9],[9,10,6,7,1,2,8],[],[12],[12,13,9,10,6,7,1,2,8,11],[0,1,2,3,4,5,6,7,8,9,10,11,12,13,14],[],[16,0,1,2,3,4,5,6,7,8,9,10,11,12,13,14,15]] [0,11,12,13,14,15,16,17,18,19,20,21,22,23,24,25,26])
 (.seq
 (.seq
 (.reg [fa 27 25 6 1 [],
 ld 28 3 27 [27],
 bn 29 .eql 3 28 0 3 4 [28],
 mv 30 29 4 [29],
 og 31 (.fieldAddr 25 (.tmp 6) 0) 0 30 true [],
 og 32 (.fieldAddr 23 (.tmp 31) 1) 0 30 true [31],
 og 33 (.load 3 (.tmp 32)) 3 30 true [32],
 og 34 (.binOp .gtr 3 (.tmp 33) (.const (.int .i64 0)) 3) 4 30 true [33],
 oq 35 (.pick (.tmp 30) (.tmp 34) (.const (.bool false))) 4 [30,34]])
 (.cond (.tmp 35)
 (.seq
 (.reg [fa 36 25 6 2 [],
 ⟨none,.store 3 (.tmp 36) (.const (.int .i64 0)),0,none,[36]⟩])
 (.seq
 (.reg [mv 37 5 3 [5],
 oq 38 (.indexAddr 79 (.tmp 3) (.const (.int .i64 2))) 0 [3],
 ld 39 3 38 [38],
 fa 40 25 6 0 [],
 fa 41 23 40 1 [40],
 ld 42 3 41 [41],
 cf2 43 39 39 42 3 3 3 [39,42],
 oq 44 (.build 23 #[(0,.tmp 37),(1,.tmp 43)]) 23 [37,43],
 fa 45 25 6 4 [],
 ⟨none,.store 23 (.tmp 45) (.tmp 44),0,none,[44,45]⟩])
 (.seq
 (.reg [ld 46 25 6 [6],
 ⟨none,.store 25 (.tmp 4) (.tmp 46),0,none,[46]⟩])
 .ret)))
 .skip))
 (.seq
 (.seq
 (.reg [fa 47 25 6 1 [],
 ld 48 3 47 [47],
 bn 49 .eql 3 48 0 3 4 [48]])
 (.cond (.tmp 49)
 (.reg [fa 50 25 6 1 [],
 ⟨none,.store 3 (.tmp 50) (.const (.int .i64 7)),0,none,[50]⟩])
 .skip))
 (.seq
 (.reg [oq 51 (.buildSlice 182 5 #[(0,.const (.string ⟨#[]⟩)),(1,.const (.string ⟨#[97]⟩)),(2,.const (.string ⟨#[112,105,101,99,101,32,49,55]⟩)),(3,.const (.string ⟨#[48,32,48,32,49,32,48,32,48,32,48]⟩)),(4,.const (.string ⟨#[97,32,116,101,120,116,32,111,102,32,97,32,108,101,110,103,116,104,32,116,104,97,116,32,116,97,107,101,115,32,116,104,114,101,101,32,104,97,108,118,101,115,32,111,102,32,97,32,112,97,103,101]⟩))]) 182 [],
 sg 7 51 182 [51]])
 (.seq
 (.reg [mv 52 7 182 [7],
 oq 53 (.indexAddr 79 (.tmp 3) (.const (.int .i64 4))) 0 [3],
 ld 54 3 53 [53],
 oq 55 (.call ⟨.value (.func 39),#[.tmp 54,.const (.int .i64 5)],#[3,3]⟩) 3 [54],
 ia 56 182 52 55 [52,55],
 ld 57 9 56 [56],
 fa 58 25 6 5 [],
 ⟨none,.store 9 (.tmp 58) (.tmp 57),0,none,[57,58]⟩])
 (.seq
 (.reg [ld 59 25 6 [6],
 ⟨none,.store 25 (.tmp 4) (.tmp 59),0,none,[59]⟩])
 .ret))))))))
theorem F95.rs:Try.f95.results.toList=[.cell 4 25]:=rfl
def ZcP (k:Nat) (l0:(List Record)) (n1:(Vec 5 Int)):Option (Record):=
 (n1.at? 0).bind fun x1=>
 (Zdr k x1 3).bind fun x2=>
 (Zbl k l0).bind fun x3=>
 (x3.at? x2).bind fun x4=>
 (n1.at? 1).bind fun x5=>
 (Zdr k x5 6).bind fun x6=>
 (n1.at? 2).bind fun x7=>
 (Zdr k x7 50).bind fun x8=>
 (n1.at? 3).bind fun x9=>
 (Zdr k x9 50).bind fun x10=>
 bif decide (x6=(0:Int)) then
  bif decide ((0:Int)<x4) then
   (Zdr k x7 x4).bind fun x13=>
   some (⟨(⟨x2,x4⟩:Entry),x6,0,x10,(⟨x2,x13⟩:Entry),ByteArray.empty⟩:Record)
  else
   (n1.at? 4).bind fun x14=>
   (Zdr k x14 5).bind fun x15=>
   (at? [ByteArray.empty,(⟨#[97]⟩:ByteArray),(⟨#[112,105,101,99,101,32,49,55]⟩:ByteArray),(⟨#[48,32,48,32,49,32,48,32,48,32,48]⟩:ByteArray),(⟨#[97,32,116,101,120,116,32,111,102,32,97,32,108,101,110,103,116,104,32,116,104,97,116,32,116,97,107,101,115,32,116,104,114,101,101,32,104,97,108,118,101,115,32,111,102,32,97,32,112,97,103,101]⟩:ByteArray)] x15).bind fun x16=>
   some (⟨(⟨x2,x4⟩:Entry),7,x8,x10,(⟨0,0⟩:Entry),x16⟩:Record)
 else
  (n1.at? 4).bind fun x17=>
  (Zdr k x17 5).bind fun x18=>
  (at? [ByteArray.empty,(⟨#[97]⟩:ByteArray),(⟨#[112,105,101,99,101,32,49,55]⟩:ByteArray),(⟨#[48,32,48,32,49,32,48,32,48,32,48]⟩:ByteArray),(⟨#[97,32,116,101,120,116,32,111,102,32,97,32,108,101,110,103,116,104,32,116,104,97,116,32,116,97,107,101,115,32,116,104,114,101,101,32,104,97,108,118,101,115,32,111,102,32,97,32,112,97,103,101]⟩:ByteArray)] x18).bind fun x19=>
  some (⟨(⟨x2,x4⟩:Entry),x6,x8,x10,(⟨0,0⟩:Entry),x19⟩:Record)
theorem Zjl (k:Nat) (l0:(List Record)) (n1:(Vec 5 Int)) (r:Record) (h0:ZcP k l0 n1=some r):Za0 Try.prog 95 [.sl 8 (List.map Record.c l0),.agg ((Vec.c (n:=5) eI) n1)] (fun y=>y=.agg (Record.c r)):=by
 refine PB (fn:=Try.f95) (sc:=F95.c) ?_
 refine rS ?_
 simp only[ZcP]at h0
 try simp only[F95.c,go_sem]
 obtain⟨x1,yx1,h0⟩:=bs h0
 have uyx1:=UpdE.at (fun q_=>(Zbj.len q_:(eI q_).length=1)) (UpdE.self (fun q_=>((VK.vec Zbj 5).len q_:(Vec.c (n:=5) eI q_).length=5)) n1) yx1
 have buyx1:=uyx1.bound (fun q_=>(Zbj.len q_:(eI q_).length=1))
 have guyx1:=uyx1.get (fun q_=>(Zbj.len q_:(eI q_).length=1))
 try simp only[List.length_cons,List.length_nil,go_sem]at buyx1 guyx1
 try simp only[Zaa yx1,buyx1,guyx1,go_sem]
 obtain⟨x2,yx2,h0⟩:=bs h0
 refine zc0 (Zc4 k _ _ _ yx2) ?_ (by first|rfl|(simp[AV.refsL,AV.refs,AV.scal,AV.leaf];done)|simp[AV.refsL,AV.refs,AV.scal,AV.leaf,go_sem]) ?_
 try simp only[Zaa yx1,buyx1,guyx1,go_sem]
 try simp only[Zaa yx1,buyx1,guyx1,go_sem]
 refine Zat Za9 Zau 1000 ?_
 try simp only[Zaa yx1,buyx1,guyx1,go_sem]
 obtain⟨x3,yx3,h0⟩:=bs h0
 refine Zbk 1000 (Zlq k _ _ yx3) ?_ (by first|rfl|(simp[AV.refsL,AV.refs,AV.scal,AV.leaf];done)|simp[AV.refsL,AV.refs,AV.scal,AV.leaf,go_sem]) ?_
 try simp only[Zaa yx1,buyx1,guyx1,go_sem]
 try simp only[Zaa yx1,buyx1,guyx1,go_sem]
 obtain⟨x4,yx4,h0⟩:=bs h0
 have uyx4:=UpdE.idx (fun q_=>(Zbj.len q_:(eI q_).length=1)) yx4
 have buyx4:=uyx4.bound (fun q_=>(Zbj.len q_:(eI q_).length=1))
 have guyx4:=uyx4.get (fun q_=>(Zbj.len q_:(eI q_).length=1))
 try simp only[go_sem]at buyx4 guyx4
 try simp only[Zaa yx4,buyx4,guyx4,Zaa yx1,buyx1,guyx1,go_sem]
 obtain⟨x5,yx5,h0⟩:=bs h0
 have uyx5:=UpdE.at (fun q_=>(Zbj.len q_:(eI q_).length=1)) (UpdE.self (fun q_=>((VK.vec Zbj 5).len q_:(Vec.c (n:=5) eI q_).length=5)) n1) yx5
 have buyx5:=uyx5.bound (fun q_=>(Zbj.len q_:(eI q_).length=1))
 have guyx5:=uyx5.get (fun q_=>(Zbj.len q_:(eI q_).length=1))
 try simp only[List.length_cons,List.length_nil,go_sem]at buyx5 guyx5
 try simp only[Zaa yx5,buyx5,guyx5,Zaa yx1,buyx1,guyx1,Zaa yx4,buyx4,guyx4,go_sem]
 obtain⟨x6,yx6,h0⟩:=bs h0
 refine Zbk 1000 (Zc4 k _ _ _ yx6) ?_ (by first|rfl|(simp[AV.refsL,AV.refs,AV.scal,AV.leaf];done)|simp[AV.refsL,AV.refs,AV.scal,AV.leaf,go_sem]) ?_
 try simp only[Zaa yx1,buyx1,guyx1,Zaa yx4,buyx4,guyx4,Zaa yx5,buyx5,guyx5,go_sem]
 try simp only[Zaa yx1,buyx1,guyx1,Zaa yx4,buyx4,guyx4,Zaa yx5,buyx5,guyx5,go_sem]
 obtain⟨x7,yx7,h0⟩:=bs h0
 have uyx7:=UpdE.at (fun q_=>(Zbj.len q_:(eI q_).length=1)) (UpdE.self (fun q_=>((VK.vec Zbj 5).len q_:(Vec.c (n:=5) eI q_).length=5)) n1) yx7
 have buyx7:=uyx7.bound (fun q_=>(Zbj.len q_:(eI q_).length=1))
 have guyx7:=uyx7.get (fun q_=>(Zbj.len q_:(eI q_).length=1))
 try simp only[List.length_cons,List.length_nil,go_sem]at buyx7 guyx7
 try simp only[Zaa yx7,buyx7,guyx7,Zaa yx1,buyx1,guyx1,Zaa yx4,buyx4,guyx4,Zaa yx5,buyx5,guyx5,go_sem]
 obtain⟨x8,yx8,h0⟩:=bs h0
 refine Zbk 1000 (Zc4 k _ _ _ yx8) ?_ (by first|rfl|(simp[AV.refsL,AV.refs,AV.scal,AV.leaf];done)|simp[AV.refsL,AV.refs,AV.scal,AV.leaf,go_sem]) ?_
 try simp only[Zaa yx1,buyx1,guyx1,Zaa yx4,buyx4,guyx4,Zaa yx5,buyx5,guyx5,Zaa yx7,buyx7,guyx7,go_sem]
 try simp only[Zaa yx1,buyx1,guyx1,Zaa yx4,buyx4,guyx4,Zaa yx5,buyx5,guyx5,Zaa yx7,buyx7,guyx7,go_sem]
 obtain⟨x9,yx9,h0⟩:=bs h0
 have uyx9:=UpdE.at (fun q_=>(Zbj.len q_:(eI q_).length=1)) (UpdE.self (fun q_=>((VK.vec Zbj 5).len q_:(Vec.c (n:=5) eI q_).length=5)) n1) yx9
 have buyx9:=uyx9.bound (fun q_=>(Zbj.len q_:(eI q_).length=1))
 have guyx9:=uyx9.get (fun q_=>(Zbj.len q_:(eI q_).length=1))
 try simp only[List.length_cons,List.length_nil,go_sem]at buyx9 guyx9
 try simp only[Zaa yx9,buyx9,guyx9,Zaa yx1,buyx1,guyx1,Zaa yx4,buyx4,guyx4,Zaa yx5,buyx5,guyx5,Zaa yx7,buyx7,guyx7,go_sem]
 obtain⟨x10,yx10,h0⟩:=bs h0
 refine Zbk 1000 (Zc4 k _ _ _ yx10) ?_ (by first|rfl|(simp[AV.refsL,AV.refs,AV.scal,AV.leaf];done)|simp[AV.refsL,AV.refs,AV.scal,AV.leaf,go_sem]) ?_
 try simp only[Zaa yx1,buyx1,guyx1,Zaa yx4,buyx4,guyx4,Zaa yx5,buyx5,guyx5,Zaa yx7,buyx7,guyx7,Zaa yx9,buyx9,guyx9,go_sem]
 try simp only[Zaa yx1,buyx1,guyx1,Zaa yx4,buyx4,guyx4,Zaa yx5,buyx5,guyx5,Zaa yx7,buyx7,guyx7,Zaa yx9,buyx9,guyx9,go_sem]
 refine ZaB ⟨ZaC (by simp only[ZdN,List.reverse_cons,List.reverse_nil,List.nil_append,List.cons_append,List.map_cons,List.map_nil,List.append_nil];rfl) (by first|decide +kernel|rfl),Zag Za9 1000 _ _ ?_⟩
 try simp only[Zaa yx1,buyx1,guyx1,Zaa yx4,buyx4,guyx4,Zaa yx5,buyx5,guyx5,Zaa yx7,buyx7,guyx7,Zaa yx9,buyx9,guyx9,go_sem]
 refine Zab h0 ?_ ?_<;>intro c11 h0
 try simp only[c11,Zaa yx1,buyx1,guyx1,Zaa yx4,buyx4,guyx4,Zaa yx5,buyx5,guyx5,Zaa yx7,buyx7,guyx7,Zaa yx9,buyx9,guyx9,go_sem]
 refine Zab h0 ?_ ?_<;>intro c12 h0
 try simp only[c12,Zaa yx7,buyx7,guyx7,Zaa yx1,buyx1,guyx1,Zaa yx4,buyx4,guyx4,Zaa yx5,buyx5,guyx5,Zaa yx9,buyx9,guyx9,c11,go_sem]
 obtain⟨x13,yx13,h0⟩:=bs h0
 refine zc0 (Zc4 k _ _ _ yx13) ?_ (by first|rfl|(simp[AV.refsL,AV.refs,AV.scal,AV.leaf];done)|simp[AV.refsL,AV.refs,AV.scal,AV.leaf,go_sem]) ?_
 try simp only[Zaa yx1,buyx1,guyx1,Zaa yx4,buyx4,guyx4,Zaa yx5,buyx5,guyx5,Zaa yx7,buyx7,guyx7,Zaa yx9,buyx9,guyx9,c11,c12,go_sem]
 try simp only[Zaa yx1,buyx1,guyx1,Zaa yx4,buyx4,guyx4,Zaa yx5,buyx5,guyx5,Zaa yx7,buyx7,guyx7,Zaa yx9,buyx9,guyx9,c11,c12,go_sem]
 obtain rfl:=oi h0
 refine Zad rfl ?_
 try simp only[F95.rs,Zaa yx1,buyx1,guyx1,Zaa yx4,buyx4,guyx4,Zaa yx5,buyx5,guyx5,Zaa yx7,buyx7,guyx7,Zaa yx9,buyx9,guyx9,c11,c12,go_sem]
 try simp only[c12,Zaa yx1,buyx1,guyx1,Zaa yx4,buyx4,guyx4,Zaa yx5,buyx5,guyx5,Zaa yx7,buyx7,guyx7,Zaa yx9,buyx9,guyx9,c11,go_sem]
 obtain⟨x14,yx14,h0⟩:=bs h0
 have uyx14:=UpdE.at (fun q_=>(Zbj.len q_:(eI q_).length=1)) (UpdE.self (fun q_=>((VK.vec Zbj 5).len q_:(Vec.c (n:=5) eI q_).length=5)) n1) yx14
 have buyx14:=uyx14.bound (fun q_=>(Zbj.len q_:(eI q_).length=1))
 have guyx14:=uyx14.get (fun q_=>(Zbj.len q_:(eI q_).length=1))
 try simp only[List.length_cons,List.length_nil,go_sem]at buyx14 guyx14
 try simp only[Zaa yx14,buyx14,guyx14,Zaa yx1,buyx1,guyx1,Zaa yx4,buyx4,guyx4,Zaa yx5,buyx5,guyx5,Zaa yx7,buyx7,guyx7,Zaa yx9,buyx9,guyx9,c11,c12,go_sem]
 obtain⟨x15,yx15,h0⟩:=bs h0
 refine zc0 (Zc4 k _ _ _ yx15) ?_ (by first|rfl|(simp[AV.refsL,AV.refs,AV.scal,AV.leaf];done)|simp[AV.refsL,AV.refs,AV.scal,AV.leaf,go_sem]) ?_
 try simp only[Zaa yx1,buyx1,guyx1,Zaa yx4,buyx4,guyx4,Zaa yx5,buyx5,guyx5,Zaa yx7,buyx7,guyx7,Zaa yx9,buyx9,guyx9,c11,c12,Zaa yx14,buyx14,guyx14,go_sem]
 try simp only[Zaa yx1,buyx1,guyx1,Zaa yx4,buyx4,guyx4,Zaa yx5,buyx5,guyx5,Zaa yx7,buyx7,guyx7,Zaa yx9,buyx9,guyx9,c11,c12,Zaa yx14,buyx14,guyx14,go_sem]
 obtain⟨x16,yx16,h0⟩:=bs h0
 have eyx16:=ZaF yx16
 simp only[Zaa yx1,buyx1,guyx1,Zaa yx4,buyx4,guyx4,Zaa yx5,buyx5,guyx5,Zaa yx7,buyx7,guyx7,Zaa yx9,buyx9,guyx9,c11,c12,Zaa yx14,buyx14,guyx14,go_sem]at eyx16
 have gyx16:=Zaw eS yx16
 try simp only[Zaa yx1,buyx1,guyx1,Zaa yx4,buyx4,guyx4,Zaa yx5,buyx5,guyx5,Zaa yx7,buyx7,guyx7,Zaa yx9,buyx9,guyx9,c11,c12,Zaa yx14,buyx14,guyx14,go_sem]at gyx16
 try simp only[eyx16,gyx16,Zaa yx1,buyx1,guyx1,Zaa yx4,buyx4,guyx4,Zaa yx5,buyx5,guyx5,Zaa yx7,buyx7,guyx7,Zaa yx9,buyx9,guyx9,c11,c12,Zaa yx14,buyx14,guyx14,go_sem]
 obtain rfl:=oi h0
 refine Zad rfl ?_
 try simp only[F95.rs,Zaa yx1,buyx1,guyx1,Zaa yx4,buyx4,guyx4,Zaa yx5,buyx5,guyx5,Zaa yx7,buyx7,guyx7,Zaa yx9,buyx9,guyx9,c11,c12,Zaa yx14,buyx14,guyx14,eyx16,gyx16,go_sem]
 try simp only[c11,Zaa yx1,buyx1,guyx1,Zaa yx4,buyx4,guyx4,Zaa yx5,buyx5,guyx5,Zaa yx7,buyx7,guyx7,Zaa yx9,buyx9,guyx9,go_sem]
 obtain⟨x17,yx17,h0⟩:=bs h0
 have uyx17:=UpdE.at (fun q_=>(Zbj.len q_:(eI q_).length=1)) (UpdE.self (fun q_=>((VK.vec Zbj 5).len q_:(Vec.c (n:=5) eI q_).length=5)) n1) yx17
 have buyx17:=uyx17.bound (fun q_=>(Zbj.len q_:(eI q_).length=1))
 have guyx17:=uyx17.get (fun q_=>(Zbj.len q_:(eI q_).length=1))
 try simp only[List.length_cons,List.length_nil,go_sem]at buyx17 guyx17
 try simp only[Zaa yx17,buyx17,guyx17,Zaa yx1,buyx1,guyx1,Zaa yx4,buyx4,guyx4,Zaa yx5,buyx5,guyx5,Zaa yx7,buyx7,guyx7,Zaa yx9,buyx9,guyx9,c11,go_sem]
 obtain⟨x18,yx18,h0⟩:=bs h0
 refine zc0 (Zc4 k _ _ _ yx18) ?_ (by first|rfl|(simp[AV.refsL,AV.refs,AV.scal,AV.leaf];done)|simp[AV.refsL,AV.refs,AV.scal,AV.leaf,go_sem]) ?_
 try simp only[Zaa yx1,buyx1,guyx1,Zaa yx4,buyx4,guyx4,Zaa yx5,buyx5,guyx5,Zaa yx7,buyx7,guyx7,Zaa yx9,buyx9,guyx9,c11,Zaa yx17,buyx17,guyx17,go_sem]
 try simp only[Zaa yx1,buyx1,guyx1,Zaa yx4,buyx4,guyx4,Zaa yx5,buyx5,guyx5,Zaa yx7,buyx7,guyx7,Zaa yx9,buyx9,guyx9,c11,Zaa yx17,buyx17,guyx17,go_sem]
 obtain⟨x19,yx19,h0⟩:=bs h0
 have eyx19:=ZaF yx19
 simp only[Zaa yx1,buyx1,guyx1,Zaa yx4,buyx4,guyx4,Zaa yx5,buyx5,guyx5,Zaa yx7,buyx7,guyx7,Zaa yx9,buyx9,guyx9,c11,Zaa yx17,buyx17,guyx17,go_sem]at eyx19
 have gyx19:=Zaw eS yx19
 try simp only[Zaa yx1,buyx1,guyx1,Zaa yx4,buyx4,guyx4,Zaa yx5,buyx5,guyx5,Zaa yx7,buyx7,guyx7,Zaa yx9,buyx9,guyx9,c11,Zaa yx17,buyx17,guyx17,go_sem]at gyx19
 try simp only[eyx19,gyx19,Zaa yx1,buyx1,guyx1,Zaa yx4,buyx4,guyx4,Zaa yx5,buyx5,guyx5,Zaa yx7,buyx7,guyx7,Zaa yx9,buyx9,guyx9,c11,Zaa yx17,buyx17,guyx17,go_sem]
 obtain rfl:=oi h0
 refine Zad rfl ?_
 try simp only[F95.rs,Zaa yx1,buyx1,guyx1,Zaa yx4,buyx4,guyx4,Zaa yx5,buyx5,guyx5,Zaa yx7,buyx7,guyx7,Zaa yx9,buyx9,guyx9,c11,Zaa yx17,buyx17,guyx17,eyx19,gyx19,go_sem]
def F38.s0:SC:=
 (.seq
 (.seq
 (.reg [mv 7 6 3 [],
 mv 8 0 68 [],
 ln 9 8 68 3 [8],
 b2 10 .lss 3 7 9 3 4 [7,9],
 mv 11 10 4 [10],
 og 12 (.move (.tmp 6)) 3 11 true [],
 og 13 (.move (.tmp 1)) 3 11 true [],
 og 14 (.binOp .lss 3 (.tmp 12) (.tmp 13) 3) 4 11 true [12,13],
 oq 15 (.pick (.tmp 11) (.tmp 14) (.const (.bool false))) 4 [11,14]])
 (.cond (.tmp 15)
 .skip
 (.exit 0)))
 (.seq
 (.block 1
 (.reg [mv 18 5 44 [],
 mv 19 5 44 [5],
 mv 20 0 68 [],
 mv 21 6 3 [],
 ia 22 68 20 21 [20,21],
 ld 23 79 22 [22],
 cf2 24 95 19 23 44 79 25 [19,23],
 oq 25 (.buildSlice 44 1 #[(0,.tmp 24)]) 44 [24],
 oq 26 (.call ⟨.builtin .append,#[.tmp 18,.tmp 25],#[44,44]⟩) 44 [18,25],
 sg 5 26 44 [26]]))
 (.reg [mv 16 6 3 [6],
 bn 17 .add 3 16 1 3 3 [16],
 sg 6 17 3 [17]])))
def F38.c:SC:=
 (.seq
 (.reg [oq 4 (.assign (.const (.slice none 0 0))) 44 [4]])
 (.seq
 (.reg [oq 5 (.assign (.const (.slice none 0 0))) 44 []])
 (.seq
 (.seq
 (.reg [sn 6 0 3 []])
 (.block 0
 (.loop F38.s0)))
 (.seq
 (.reg [mv 27 5 44 [5],
 sg 4 27 44 [27]])
 .ret))))
theorem F38.rs:Try.f38.results.toList=[.tmp 4]:=rfl
def Zaz.b0 (k:Nat) (l0:(List (Vec 5 Int))) (most1:Int):(Int×(List Record))→Option (Stp (Int×(List Record)) ((List Record)) ((List Record))):=fun(s:Int×(List Record))=>match s with
 |(i1,l2)=>
   bif decide (i1<(l0.length:Int)) then
    bif decide (i1<most1) then
     (at? l0 i1).bind fun x6=>
     (ZcP k l2 x6).bind fun x7=>
     (ZdM 72 l2 x7).bind fun l8=>
     some (.next (w64 (i1+1),l8))
    else
     some (.brk l2)
   else
    some (.brk l2)
noncomputable def Zaz.h0 (l0:(List (Vec 5 Int))) (most1:Int):(Int×(List Record))→St:=fun(s:Int×(List Record))=>match s with
 |(i1,l2)=>⟨[(0,.sl 5 (List.map (Vec.c (n:=5) eI) l0)),(1,.int .i64 most1),(5,.loc 0 0 8 0 l2.length l2.length),(6,.int .i64 i1)],[(0,.arr 25 8 (List.map Record.c l2))],[],1,Try.f38.ntmps⟩
noncomputable def Zaz.x0:(List Record)→St:=fun(l3:(List Record))=>⟨[(5,.loc 0 0 8 0 l3.length l3.length)],[(0,.arr 25 8 (List.map Record.c l3))],[],1,Try.f38.ntmps⟩
def Zaz (k:Nat) (l0:(List (Vec 5 Int))) (most1:Int):Option ((List Record)):=
 (whl (Zaz.b0 k l0 most1) k (0,[])).bind fun r9=>match r9 with
 |.next _=>none
 |.ret v_=>some v_
 |.brk l3=>
  some l3
theorem ZiD (k:Nat) (l0:(List (Vec 5 Int))) (most1:Int) (r:(List Record)) (h0:Zaz k l0 most1=some r):Za0 Try.prog 38 [.sl 5 (List.map (Vec.c (n:=5) eI) l0),.int .i64 most1] (fun y=>y=.sl 8 (List.map Record.c r)):=by
 refine PB (fn:=Try.f38) (sc:=F38.c) ?_
 refine rS ?_
 simp only[Zaz]at h0
 try simp only[F38.c,go_sem]
 obtain⟨r9,yr9,h0⟩:=bs h0
 refine Zay yr9 (Zaz.h0 l0 most1) (Zaz.x0) ?_ ?_ ?_
 refine Za7.go [0,1,5,6] [16] rfl ?_
 try simp only[Zaz.h0,go_sem]
 rintro⟨i1,l2⟩ x_1 Bk1 Br1 h1 hnext1 hbrk1 hret1
 refine rS ?_
 simp only[Zaz.b0]at h1
 try simp only[F38.s0,Zaz.h0,go_sem]
 refine Zab h1 ?_ ?_<;>intro c4 h1
 try simp only[c4,go_sem]
 refine Zab h1 ?_ ?_<;>intro c5 h1
 try simp only[c5,c4,go_sem]
 obtain⟨x6,yx6,h1⟩:=bs h1
 try simp only[aa yx6,c4,c5,go_sem]
 obtain⟨x7,yx7,h1⟩:=bs h1
 refine zc0 (Zjl k _ _ _ yx7) ?_ (by first|rfl|(simp[AV.refsL,AV.refs,AV.scal,AV.leaf];done)|simp[AV.refsL,AV.refs,AV.scal,AV.leaf,go_sem]) ?_
 try simp only[c4,c5,aa yx6,go_sem]
 try simp only[c4,c5,aa yx6,go_sem]
 obtain⟨l8,yl8,h1⟩:=bs h1
 have eyl8:=ZcJ Record.c yl8
 have tyl8:=Zcf Record.c yl8
 have nyl8:=Zcz yl8
 have myl8:=Zce yl8
 try simp only[c4,c5,aa yx6,go_sem]at eyl8 tyl8 nyl8 myl8
 try simp only[myl8,eyl8,c4,c5,aa yx6,nyl8,tyl8,go_sem]
 refine Zaf (hnext1 _ _ (oi h1).symm ?_)
 refine Za7.go [0,1,5,6] [0] rfl ?_
 try simp only[Zaz.h0,c4,c5,aa yx6,eyl8,nyl8,tyl8,go_sem]
 try simp only[c5,c4,go_sem]
 refine Zaf (hbrk1 _ _ (oi h1).symm ?_)
 refine Za7.go [5] [0] rfl ?_
 try simp only[Zaz.x0,c4,c5,go_sem]
 try simp only[c4,go_sem]
 refine Zaf (hbrk1 _ _ (oi h1).symm ?_)
 refine Za7.go [5] [0] rfl ?_
 try simp only[Zaz.x0,c4,go_sem]
 rintro l3 hr_
 subst hr_
 simp only at h0
 refine rS ?_
 try simp only[Zaz.x0,go_sem]
 obtain rfl:=oi h0
 refine Zad rfl ?_
 try simp only[F38.rs,go_sem]
def F102.c:SC:=
 (.dreg [ld 2 82 0 [],
 ld 3 130 1 [],
 oq 4 (.nilCheck (.tmp 3)) 0 [],
 fa 5 134 4 0 [],
 ld 6 42 5 [],
 cf1 7 72 6 42 130 [],
 oq 8 (.nilCheck (.tmp 7)) 0 [],
 fa 9 134 8 0 [],
 ld 10 42 9 [],
 oq 11 (.buildSlice 82 1 #[(0,.tmp 10)]) 82 [],
 oq 12 (.call ⟨.builtin .append,#[.tmp 2,.tmp 11],#[82,82]⟩) 82 [],
 ⟨none,.store 82 (.tmp 0) (.tmp 12),0,none,[]⟩] [[],[],[1],[1,2],[1,2,3],[1,2,3,4],[1,2,3,4,5],[1,2,3,4,5,6],[1,2,3,4,5,6,7],[1,2,3,4,5,6,7,8],[0,1,2,3,4,5,6,7,8,9],[0,1,2,3,4,5,6,7,8,9,10]] [0,1,2,3,4,5,6,7,8,9,10,11,12])
theorem F102.rs:Try.f102.results.toList=[]:=rfl
def ZbN (k:Nat) (c0:(List Disk)) (c1:book_disk):Option ((List Disk)×book_disk):=
 (Zbd k c1.Disk).bind fun x2=>
 (ZdM 48 c0 x2.Disk).bind fun l3=>
 some (l3,c1)
theorem Zcr (k:Nat) (c0:(List Disk)) (c1:book_disk) (r:(List Disk)×book_disk) (h0:ZbN k c0 c1=some r):Zjk Try.prog 102 [.ptr 1 0 0,.ptr 1 2 0] [(0,.box ([.loc 0 1 2 0 c0.length c0.length])),(1,.arr 42 2 (List.map Disk.c c0)),(2,.box ([.ptr 0 3 0])),(3,.box ([.loc 0 4 64 0 c1.Disk.Pages.length c1.Disk.Pages.length,.loc 0 5 65 0 c1.Disk.Wait.length c1.Disk.Wait.length])),(4,.arr 139 64 (List.map (Vec.c (n:=2) (Vec.c (n:=32) eU8)) c1.Disk.Pages)),(5,.arr 141 65 (List.map Write.c c1.Disk.Wait))] (fun y fr X'=>y=.tup []∧fr=[]∧X'=[(0,.box ([.loc 0 1 2 0 r.1.length r.1.length])),(1,.arr 42 2 (List.map Disk.c r.1)),(2,.box ([.ptr 0 3 0])),(3,.box ([.loc 0 4 64 0 r.2.Disk.Pages.length r.2.Disk.Pages.length,.loc 0 5 65 0 r.2.Disk.Wait.length r.2.Disk.Wait.length])),(4,.arr 139 64 (List.map (Vec.c (n:=2) (Vec.c (n:=32) eU8)) r.2.Disk.Pages)),(5,.arr 141 65 (List.map Write.c r.2.Disk.Wait))]):=by
 refine Zjk.of_body Za9 (fn:=Try.f102) (sc:=F102.c) (by rfl) (by rfl) (by decide +kernel) (by rfl) (by decide +kernel) (Nat.le_of_ble_eq_true rfl) (fun f1 H=>?_)
 refine rS ?_
 simp only[List.cons_append,List.nil_append]
 simp only[ZbN]at h0
 try simp only[F102.c,go_sem]
 refine Zat Za9 Zau 1000 ?_
 try simp only[go_sem]
 obtain⟨x2,yx2,h0⟩:=bs h0
 refine Zmb 1000 [(1,4),(1,5)] (Zbq k _ _ yx2) ?_ rfl ⟨(by simp[Blk.lo,AV.lo]),Lf.map (Lf.vec (Lf.vec ZsR)) _,Lf.map Zms _,trivial⟩ ?_
 try simp only[boxF,only,go_sem]
 try simp only[go_sem]
 obtain⟨l3,yl3,h0⟩:=bs h0
 have eyl3:=ZcJ Disk.c yl3
 have tyl3:=Zcf Disk.c yl3
 have nyl3:=Zcz yl3
 have myl3:=Zce yl3
 try simp only[go_sem]at eyl3 tyl3 nyl3 myl3
 try simp only[myl3,eyl3,nyl3,tyl3,go_sem]
 refine ZaB ⟨ZaC (by simp only[ZdN,List.reverse_cons,List.reverse_nil,List.nil_append,List.cons_append,List.map_cons,List.map_nil,List.append_nil];rfl) (by first|decide +kernel|rfl),Zag Za9 1000 _ _ ?_⟩
 try simp only[eyl3,nyl3,tyl3,go_sem]
 obtain rfl:=oi h0
 refine ZhN (by simp) ?_ ?_
 try simp only[F102.rs,Zb0,Option.bind_some,eyl3,nyl3,tyl3,go_sem]
 try simp only[List.cons_append,List.nil_append,eyl3,nyl3,tyl3,go_sem]
def F44.s0:SC:=
 (.seq
 (.reg [b2 41 .lss 3 40 39 3 0 []])
 (.seq
 (.cond (.tmp 41)
 .skip
 (.exit 0))
 (.seq
 (.block 1
 (.seq
 (.reg [mv 42 40 3 [],
 ia 43 44 38 40 [],
 ld 44 25 43 [43],
 oq 11 (.alloc 25) 0 [],
 sg 10 42 3 [42],
 ⟨none,.store 25 (.tmp 11) (.tmp 44),0,none,[44]⟩])
 (.reg [mv 45 9 124 [9],
 ld 46 25 11 [11],
 mv 47 10 3 [10],
 fa 48 48 8 2 [],
 ld 49 3 48 [48],
 oq 50 (.call ⟨.value (.func 66),#[.tmp 46,.tmp 47,.tmp 49],#[25,3,3]⟩) 124 [46,47,49],
 oq 51 (.call ⟨.builtin .append,#[.tmp 45,.tmp 50],#[124,124]⟩) 124 [45,50],
 sg 9 51 124 [51]])))
 (.reg [bn 52 .add 3 40 1 3 3 [40],
 mv 40 52 3 [52]]))))
def F44.c:SC:=
 (.seq
 (.reg [oq 2 (.box 42 (.tmp 0)) 0 [0],
 oq 3 (.box 48 (.tmp 1)) 0 [1],
 oq 4 (.assign (.const (.slice none 0 0))) 82 [4],
 oq 5 (.alloc 48) 0 [],
 sn 6 0 28 [6]])
 (.seq
 (.seq
 (.reg [ld 15 42 2 [],
 ld 16 48 3 [],
 cf2 17 24 15 16 42 48 28 [15,16],
 sg 7 17 28 [17]])
 (.seq
 (.reg [mv 18 7 28 [],
 bn 19 .neq 28 18 0 28 4 [18]])
 (.cond (.tmp 19)
 (.seq
 (.reg [oq 20 (.build 48 #[]) 48 [],
 mv 21 7 28 [7],
 oq 4 (.assign (.const (.slice none 0 0))) 82 [],
 ⟨none,.store 48 (.tmp 5) (.tmp 20),0,none,[20]⟩,
 sg 6 21 28 [21]])
 .ret)
 .skip)))
 (.seq
 (.seq
 (.reg [fa 22 48 3 2 [],
 ld 23 3 22 [22],
 bn 24 .eql 3 23 1000000 3 4 [23]])
 (.cond (.tmp 24)
 (.seq
 (.reg [oq 25 (.build 48 #[]) 48 [],
 oq 4 (.assign (.const (.slice none 0 0))) 82 [],
 ⟨none,.store 48 (.tmp 5) (.tmp 25),0,none,[25]⟩,
 sn 6 2 28 []])
 .ret)
 .skip))
 (.seq
 (.reg [ld 26 48 3 [],
 cf1 27 73 26 48 48 [26],
 oq 8 (.alloc 48) 0 [],
 ⟨none,.store 48 (.tmp 8) (.tmp 27),0,none,[27]⟩])
 (.seq
 (.dreg [fa 28 48 3 1 [],
 ld 29 3 28 [],
 oq 30 (.binOp .sub 3 (.const (.int .i64 1)) (.tmp 29) 3) 3 [],
 fa 31 48 3 2 [],
 ld 32 3 31 [],
 bn 33 .add 3 32 1 3 3 [],
 fa 34 48 8 1 [],
 ⟨none,.store 3 (.tmp 34) (.tmp 30),0,none,[]⟩,
 fa 35 48 8 2 [],
 ⟨none,.store 3 (.tmp 35) (.tmp 33),0,none,[]⟩] [[],[0],[0,1],[],[3],[3,4],[0,1,2],[0,1,2,6],[0,1,2,3,4,5,6,7],[0,1,2,3,4,5,6,7,8]] [28,29,30,31,32,33,34,35])
 (.seq
 (.reg [oq 9 (.assign (.const (.slice none 0 0))) 124 []])
 (.seq
 (.seq
 (.reg [fa 36 48 3 0 [],
 fa 37 46 36 0 [36],
 ld 38 44 37 [37],
 ln 39 38 44 3 [],
 oq 40 (.move (.const (.int .i64 0))) 3 []])
 (.block 0
 (.loop F44.s0)))
 (.seq
 (.reg [mv 53 9 124 [],
 ln 54 53 124 3 [53],
 oq 55 (.binOp .add 3 (.const (.int .i64 1)) (.tmp 54) 3) 3 [54],
 fa 56 48 8 3 [],
 ⟨none,.store 3 (.tmp 56) (.tmp 55),0,none,[55,56]⟩])
 (.seq
 (.reg [ld 57 42 2 [2],
 cf1 58 72 57 42 130 [57],
 oq 12 (.alloc 130) 0 [],
 ⟨none,.store 130 (.tmp 12) (.tmp 58),0,none,[58]⟩])
 (.seq
 (.reg [oq 13 (.alloc 82) 0 []])
 (.seq
 (.reg [oq 59 (.makeFunc (.func 102) #[] #[.tmp 13,.tmp 12]) 1 [],
 sg 14 59 1 [59]])
 (.seq
 (.reg [ld 60 130 12 [],
 cf1 61 79 60 130 130 [60,61]])
 (.seq
 (.reg [mv 62 14 1 [],
 oq 63 (.call ⟨.value (.tmp 62),#[],#[]⟩) 0 [62,63]])
 (.seq
 (.reg [ld 64 130 12 [],
 fa 65 48 8 1 [],
 ld 66 3 65 [65],
 mv 67 9 124 [9],
 oq 68 (.call ⟨.value (.func 74),#[.tmp 64,.tmp 66,.const (.int .i64 1),.tmp 67],#[130,3,3,124]⟩) 0 [64,66,67,68]])
 (.seq
 (.reg [mv 69 14 1 [],
 oq 70 (.call ⟨.value (.tmp 69),#[],#[]⟩) 0 [69,70]])
 (.seq
 (.reg [ld 71 130 12 [],
 cf1 72 79 71 130 130 [71,72]])
 (.seq
 (.reg [mv 73 14 1 [],
 oq 74 (.call ⟨.value (.tmp 73),#[],#[]⟩) 0 [73,74]])
 (.seq
 (.dreg [ld 75 130 12 [],
 fa 76 48 8 1 [],
 ld 77 3 76 [],
 fa 78 48 8 2 [],
 ld 79 3 78 [],
 fa 80 48 3 0 [],
 fa 81 46 80 0 [],
 ld 82 44 81 [],
 ln 83 82 44 3 [],
 cf2 84 101 79 83 3 3 126 [],
 oq 85 (.buildSlice 124 1 #[(0,.tmp 84)]) 124 [],
 oq 86 (.call ⟨.value (.func 74),#[.tmp 75,.tmp 77,.const (.int .i64 0),.tmp 85],#[130,3,3,124]⟩) 0 []] [[],[],[1],[],[3],[],[5],[5,6],[5,6,7],[3,4,5,6,7,8],[3,4,5,6,7,8,9],[0,1,2,3,4,5,6,7,8,9,10]] [3,75,76,77,78,79,80,81,82,83,84,85,86])
 (.seq
 (.reg [mv 87 14 1 [],
 oq 88 (.call ⟨.value (.tmp 87),#[],#[]⟩) 0 [87,88]])
 (.seq
 (.reg [ld 89 130 12 [12],
 cf1 90 79 89 130 130 [89,90]])
 (.seq
 (.reg [mv 91 14 1 [14],
 oq 92 (.call ⟨.value (.tmp 91),#[],#[]⟩) 0 [91,92]])
 (.seq
 (.dreg [ld 93 82 13 [],
 ld 94 48 8 [],
 sg 4 93 82 [],
 ⟨none,.store 48 (.tmp 5) (.tmp 94),0,none,[]⟩,
 sn 6 0 28 []] [[],[],[0],[1,0,2],[1,0,2,3]] [8,13,93,94])
 .ret))))))))))))))))))))))
theorem F44.rs:Try.f44.results.toList=[.tmp 4,.cell 5 48,.tmp 6]:=rfl
def ZaK.b0 (k:Nat) (l1:Ledger):(Int×(List (Vec 32 Int)))→Option (Stp (Int×(List (Vec 32 Int))) ((List (Vec 32 Int))) ((List Disk)×Ledger×Int)):=fun(s:Int×(List (Vec 32 Int)))=>match s with
 |(i5,l6)=>
   bif decide (i5<(l1.Book.Records.length:Int)) then
    (at? l1.Book.Records i5).bind fun x9=>
    (Za4 k x9 i5 (w64 (l1.Epoch+1))).bind fun x10=>
    (ZmZ 32 l6 x10).bind fun l11=>
    some (.next (w64 (i5+1),l11))
   else
    some (.brk l6)
noncomputable def ZaK.h0 (d0:Disk) (l1:Ledger) (x4:Ledger):(Int×(List (Vec 32 Int)))→St:=fun(s:Int×(List (Vec 32 Int)))=>match s with
 |(i5,l6)=>⟨[(2,.ptr 0 0 0),(3,.ptr 0 1 0),(5,.ptr 0 2 0),(8,.ptr 0 4 0),(9,.loc 0 5 32 0 l6.length l6.length),(38,.sl 8 (List.map Record.c l1.Book.Records)),(39,.int .i64 (l1.Book.Records.length:Int)),(40,.int .i64 i5)],[(0,.box ([.sl 64 (List.map (Vec.c (n:=2) (Vec.c (n:=32) eU8)) d0.Pages),.sl 65 (List.map Write.c d0.Wait)])),(1,.box ([.sl 8 (List.map Record.c l1.Book.Records),.int .i64 l1.Area,.int .i64 l1.Epoch,.int .i64 l1.Used])),(2,.box ([.loc 0 3 8 0 0 0,.int .i64 0,.int .i64 0,.int .i64 0])),(3,.arr 25 8 (List.map Record.c [])),(4,.box ([.sl 8 (List.map Record.c x4.Book.Records),.int .i64 (w64 (1 - l1.Area)),.int .i64 (w64 (l1.Epoch+1)),.int .i64 x4.Used])),(5,.arr 126 32 (List.map (Vec.c (n:=32) eU8) l6))],[],6,Try.f44.ntmps⟩
noncomputable def ZaK.x0 (d0:Disk) (l1:Ledger) (x4:Ledger):(List (Vec 32 Int))→St:=fun(l7:(List (Vec 32 Int)))=>⟨[(2,.ptr 0 0 0),(3,.ptr 0 1 0),(5,.ptr 0 2 0),(8,.ptr 0 4 0),(9,.loc 0 5 32 0 l7.length l7.length)],[(0,.box ([.sl 64 (List.map (Vec.c (n:=2) (Vec.c (n:=32) eU8)) d0.Pages),.sl 65 (List.map Write.c d0.Wait)])),(1,.box ([.sl 8 (List.map Record.c l1.Book.Records),.int .i64 l1.Area,.int .i64 l1.Epoch,.int .i64 l1.Used])),(2,.box ([.loc 0 3 8 0 0 0,.int .i64 0,.int .i64 0,.int .i64 0])),(3,.arr 25 8 (List.map Record.c [])),(4,.box ([.sl 8 (List.map Record.c x4.Book.Records),.int .i64 (w64 (1 - l1.Area)),.int .i64 (w64 (l1.Epoch+1)),.int .i64 x4.Used])),(5,.arr 126 32 (List.map (Vec.c (n:=32) eU8) l7))],[],6,Try.f44.ntmps⟩
def ZaK (k:Nat) (d0:Disk) (l1:Ledger):Option ((List Disk)×Ledger×Int):=
 (Zb5 k d0 l1).bind fun x1=>
 bif (!decide (x1=(0:Int))) then
  some ([],(⟨(⟨[]⟩:Book),0,0,0⟩:Ledger),x1)
 else
  bif decide (l1.Epoch=(1000000:Int)) then
   some ([],(⟨(⟨[]⟩:Book),0,0,0⟩:Ledger),2)
  else
   (Zbw k l1).bind fun x4=>
   (whl (ZaK.b0 k l1) k (0,[])).bind fun r12=>match r12 with
   |.next _=>none
   |.ret v_=>some v_
   |.brk l7=>
    (Zbd k d0).bind fun x14=>
    (Zaq k x14).bind fun x16=>
    (ZbN k [] (⟨(⟨x16.Disk.Pages,[]⟩:Disk)⟩:book_disk)).bind fun x18=>
    (Zae k x18.2 (w64 (1 - l1.Area)) 1 l7).bind fun x20=>
    (ZbN k x18.1 x20).bind fun x22=>
    (Zaq k x22.2).bind fun x24=>
    (ZbN k x22.1 (⟨(⟨x24.Disk.Pages,[]⟩:Disk)⟩:book_disk)).bind fun x26=>
    (ZdD k (w64 (l1.Epoch+1)) (l1.Book.Records.length:Int)).bind fun x27=>
    (Zae k x26.2 (w64 (1 - l1.Area)) 0 [x27]).bind fun x29=>
    (ZbN k x26.1 x29).bind fun x31=>
    (Zaq k x31.2).bind fun x33=>
    (ZbN k x31.1 (⟨(⟨x33.Disk.Pages,[]⟩:Disk)⟩:book_disk)).bind fun x35=>
    some (x35.1,(⟨x4.Book,w64 (1 - l1.Area),w64 (l1.Epoch+1),w64 (1+((l7.length:Nat):Int))⟩:Ledger),0)
theorem Zkj (k:Nat) (d0:Disk) (l1:Ledger) (r:(List Disk)×Ledger×Int) (h0:ZaK k d0 l1=some r):Za0 Try.prog 44 [.agg (Disk.c d0),.agg (Ledger.c l1)] (fun y=>y=.tup [.sl 2 (List.map Disk.c r.1),.agg (Ledger.c r.2.1),.int .i64 r.2.2]):=by
 refine PB (fn:=Try.f44) (sc:=F44.c) ?_
 refine rS ?_
 simp only[ZaK]at h0
 try simp only[F44.c,go_sem]
 obtain⟨x1,yx1,h0⟩:=bs h0
 refine zc0 (ZdB k _ _ _ yx1) ?_ (by first|rfl|(simp[AV.refsL,AV.refs,AV.scal,AV.leaf];done)|simp[AV.refsL,AV.refs,AV.scal,AV.leaf,go_sem]) ?_
 try simp only[go_sem]
 try simp only[go_sem]
 refine Zab h0 ?_ ?_<;>intro c2 h0
 have c2:=ZaY c2
 try simp only[c2,go_sem]
 obtain rfl:=oi h0
 refine Zad rfl ?_
 try simp only[F44.rs,c2,go_sem]
 have c2:=ZaX c2
 try simp only[c2,go_sem]
 refine Zab h0 ?_ ?_<;>intro c3 h0
 try simp only[c3,c2,go_sem]
 obtain rfl:=oi h0
 refine Zad rfl ?_
 try simp only[F44.rs,c2,c3,go_sem]
 try simp only[c3,c2,go_sem]
 obtain⟨x4,yx4,h0⟩:=bs h0
 refine zc0 (ZdR k _ _ yx4) ?_ (by first|rfl|(simp[AV.refsL,AV.refs,AV.scal,AV.leaf];done)|simp[AV.refsL,AV.refs,AV.scal,AV.leaf,go_sem]) ?_
 try simp only[c2,c3,go_sem]
 try simp only[c2,c3,go_sem]
 refine Zat Za9 Zau 1000 ?_
 try simp only[c2,c3,go_sem]
 refine ZaB ⟨ZaC (by simp only[ZdN,List.reverse_cons,List.reverse_nil,List.nil_append,List.cons_append,List.map_cons,List.map_nil,List.append_nil];rfl) (by first|decide +kernel|rfl),Zag Za9 1000 _ _ ?_⟩
 try simp only[c2,c3,go_sem]
 obtain⟨r12,yr12,h0⟩:=bs h0
 refine Zay yr12 (ZaK.h0 d0 l1 x4) (ZaK.x0 d0 l1 x4) ?_ ?_ ?_
 refine Za7.go [2,3,5,8,9,38,39,40] [0,16,48,49,256,448] rfl ?_
 try simp only[ZaK.h0,c2,c3,go_sem]
 rintro⟨i5,l6⟩ x_1 Bk1 Br1 h1 hnext1 hbrk1 hret1
 refine rS ?_
 simp only[ZaK.b0]at h1
 try simp only[F44.s0,ZaK.h0,c2,c3,go_sem]
 refine Zab h1 ?_ ?_<;>intro c8 h1
 try simp only[c8,c2,c3,go_sem]
 obtain⟨x9,yx9,h1⟩:=bs h1
 try simp only[aa yx9,c2,c3,c8,go_sem]
 obtain⟨x10,yx10,h1⟩:=bs h1
 refine zc0 (Zd3 k _ _ _ _ yx10) ?_ (by first|rfl|(simp[AV.refsL,AV.refs,AV.scal,AV.leaf];done)|simp[AV.refsL,AV.refs,AV.scal,AV.leaf,go_sem]) ?_
 try simp only[c2,c3,c8,aa yx9,go_sem]
 try simp only[c2,c3,c8,aa yx9,go_sem]
 obtain⟨l11,yl11,h1⟩:=bs h1
 have eyl11:=Zlv (Vec.c (n:=32) eU8) yl11
 have tyl11:=Zjt (Vec.c (n:=32) eU8) yl11
 have nyl11:=Zjr yl11
 have myl11:=Zjs yl11
 try simp only[c2,c3,c8,aa yx9,go_sem]at eyl11 tyl11 nyl11 myl11
 try simp only[myl11,eyl11,c2,c3,c8,aa yx9,nyl11,tyl11,go_sem]
 refine Zaf (hnext1 _ _ (oi h1).symm ?_)
 refine Za7.go [2,3,5,8,9,38,39,40] [0,1,2,3,4,5] rfl ?_
 try simp only[ZaK.h0,c2,c3,c8,aa yx9,eyl11,nyl11,tyl11,go_sem]
 try simp only[c8,c2,c3,go_sem]
 refine Zaf (hbrk1 _ _ (oi h1).symm ?_)
 refine Za7.go [2,3,5,8,9] [0,1,2,3,4,5] rfl ?_
 try simp only[ZaK.x0,c2,c3,c8,go_sem]
 rintro l7 hr_
 subst hr_
 simp only at h0
 refine rS ?_
 try simp only[ZaK.x0,c2,c3,go_sem]
 obtain⟨x14,yx14,h0⟩:=bs h0
 refine Zd9 Za9 1000 [] [] (Zbq k _ _ yx14) ?_ rfl ?_
 try simp only[gOK,c2,c3,go_sem]
 try simp only[c2,c3,go_sem]
 obtain⟨x16,yx16,h0⟩:=bs h0
 refine Zbv [3,5,8,9,12,13,14] [102,103,104,1,2,3,4,5,118,150,151] 11 rfl ?_
 try simp only[c2,c3,go_sem]
 refine Zbc (Zbe k _ _ yx16) ?_ ?_
 try simp only[c2,c3,go_sem]
 try simp only[List.take_succ_cons,List.drop_succ_cons,List.length_cons,List.length_nil,c2,c3,go_sem]
 refine rS ?_
 try simp only[c2,c3,go_sem]
 obtain⟨x18,yx18,h0⟩:=bs h0
 refine ZhO 0 1 141 65 rfl rfl ?_
 try simp only[c2,c3,go_sem]
 refine Zbv [3,5,8,9,12,13,14] [9,10,8,0,1,43,3,4,5,6,7] 11 rfl ?_
 try simp only[c2,c3,go_sem]
 refine Zbc (Zcr k _ _ _ yx18) ?_ ?_
 try simp only[c2,c3,go_sem]
 try simp only[List.take_succ_cons,List.drop_succ_cons,List.length_cons,List.length_nil,c2,c3,go_sem]
 refine rS ?_
 try simp only[c2,c3,go_sem]
 obtain⟨x20,yx20,h0⟩:=bs h0
 refine Zma 10 rfl (fun _ h=>by cases h) ?_
 try simp only[c2,c3,go_sem]
 refine Zbv [3,5,8,12,13,14] [3,4,5,6,7,8,9,2,0,1] 10 rfl ?_
 try simp only[c2,c3,go_sem]
 refine Zbc (ZcD k _ _ _ _ _ yx20) ?_ ?_
 try simp only[c2,c3,go_sem]
 try simp only[List.take_succ_cons,List.drop_succ_cons,List.length_cons,List.length_nil,c2,c3,go_sem]
 refine rS ?_
 try simp only[c2,c3,go_sem]
 obtain⟨x22,yx22,h0⟩:=bs h0
 refine Zbv [3,5,8,12,13,14] [8,9,7,0,1,2,3,4,5,6] 10 rfl ?_
 try simp only[c2,c3,go_sem]
 refine Zbc (Zcr k _ _ _ yx22) ?_ ?_
 try simp only[c2,c3,go_sem]
 try simp only[List.take_succ_cons,List.drop_succ_cons,List.length_cons,List.length_nil,c2,c3,go_sem]
 refine rS ?_
 try simp only[c2,c3,go_sem]
 obtain⟨x24,yx24,h0⟩:=bs h0
 refine Zbv [3,5,8,12,13,14] [3,4,5,6,7,8,9,2,0,1] 10 rfl ?_
 try simp only[c2,c3,go_sem]
 refine Zbc (Zbe k _ _ yx24) ?_ ?_
 try simp only[c2,c3,go_sem]
 try simp only[List.take_succ_cons,List.drop_succ_cons,List.length_cons,List.length_nil,c2,c3,go_sem]
 refine rS ?_
 try simp only[c2,c3,go_sem]
 obtain⟨x26,yx26,h0⟩:=bs h0
 refine ZhO 0 1 141 65 rfl rfl ?_
 try simp only[c2,c3,go_sem]
 refine Zbv [3,5,8,12,13,14] [8,9,7,0,1,42,3,4,5,6] 10 rfl ?_
 try simp only[c2,c3,go_sem]
 refine Zbc (Zcr k _ _ _ yx26) ?_ ?_
 try simp only[c2,c3,go_sem]
 try simp only[List.take_succ_cons,List.drop_succ_cons,List.length_cons,List.length_nil,c2,c3,go_sem]
 refine rS ?_
 try simp only[c2,c3,go_sem]
 refine ZnG Za9 Zau (ops:=[⟨some 75,.load 130 (.tmp 12),130,none,[]⟩,⟨some 76,.fieldAddr 48 (.tmp 8) 1,0,none,[]⟩,⟨some 77,.load 3 (.tmp 76),3,none,[]⟩,⟨some 78,.fieldAddr 48 (.tmp 8) 2,0,none,[]⟩,⟨some 79,.load 3 (.tmp 78),3,none,[]⟩,⟨some 80,.fieldAddr 48 (.tmp 3) 0,0,none,[]⟩,⟨some 81,.fieldAddr 46 (.tmp 80) 0,0,none,[]⟩,⟨some 82,.load 44 (.tmp 81),44,none,[]⟩,⟨some 83,.call ⟨.builtin .len,#[.tmp 82],#[44]⟩,3,none,[]⟩,⟨some 84,.call ⟨.value (.func 101),#[.tmp 79,.tmp 83],#[3,3]⟩,126,none,[]⟩,⟨some 85,.buildSlice 124 1 #[(0,.tmp 84)],124,none,[]⟩]) (o:=⟨some 86,.call ⟨.value (.func 74),#[.tmp 75,.tmp 77,.const (.int .i64 0),.tmp 85],#[130,3,3,124]⟩,0,none,[]⟩) 1000 rfl (by rfl) ?_
 try simp only[c2,c3,go_sem]
 obtain⟨x27,yx27,h0⟩:=bs h0
 refine Zbk 1000 (Zfa k _ _ _ yx27) ?_ (by first|rfl|(simp[AV.refsL,AV.refs,AV.scal,AV.leaf];done)|simp[AV.refsL,AV.refs,AV.scal,AV.leaf,go_sem]) ?_
 try simp only[c2,c3,go_sem]
 try simp only[c2,c3,go_sem]
 refine ZaB ⟨ZaC (by simp only[ZdN,List.reverse_cons,List.reverse_nil,List.nil_append,List.cons_append,List.map_cons,List.map_nil,List.append_nil];rfl) (by first|decide +kernel|rfl),Zag Za9 1000 _ _ ?_⟩
 try simp only[c2,c3,go_sem]
 obtain⟨x29,yx29,h0⟩:=bs h0
 refine Zma 186 rfl (fun _ h=>by cases h) ?_
 try simp only[c2,c3,go_sem]
 refine Zbv [5,8,12,13,14] [3,4,5,7,8,9,2,0,1] 9 rfl ?_
 try simp only[c2,c3,go_sem]
 refine Zbc (ZcD k _ _ _ _ _ yx29) ?_ ?_
 try simp only[c2,c3,go_sem]
 try simp only[List.take_succ_cons,List.drop_succ_cons,List.length_cons,List.length_nil,c2,c3,go_sem]
 refine rS ?_
 try simp only[c2,c3,go_sem]
 obtain⟨x31,yx31,h0⟩:=bs h0
 refine Zbv [5,8,12,13,14] [7,8,6,0,1,2,3,4,5] 9 rfl ?_
 try simp only[c2,c3,go_sem]
 refine Zbc (Zcr k _ _ _ yx31) ?_ ?_
 try simp only[c2,c3,go_sem]
 try simp only[List.take_succ_cons,List.drop_succ_cons,List.length_cons,List.length_nil,c2,c3,go_sem]
 refine rS ?_
 try simp only[c2,c3,go_sem]
 obtain⟨x33,yx33,h0⟩:=bs h0
 refine Zbv [5,8,13,14] [3,4,5,6,7,8,0,1,2] 9 rfl ?_
 try simp only[c2,c3,go_sem]
 refine Zbc (Zbe k _ _ yx33) ?_ ?_
 try simp only[c2,c3,go_sem]
 try simp only[List.take_succ_cons,List.drop_succ_cons,List.length_cons,List.length_nil,c2,c3,go_sem]
 refine rS ?_
 try simp only[c2,c3,go_sem]
 obtain⟨x35,yx35,h0⟩:=bs h0
 refine ZhO 0 1 141 65 rfl rfl ?_
 try simp only[c2,c3,go_sem]
 refine Zbv [5,8,13] [6,7,8,0,1,41,3,4,5] 9 rfl ?_
 try simp only[c2,c3,go_sem]
 refine Zbc (Zcr k _ _ _ yx35) ?_ ?_
 try simp only[c2,c3,go_sem]
 try simp only[List.take_succ_cons,List.drop_succ_cons,List.length_cons,List.length_nil,c2,c3,go_sem]
 refine rS ?_
 try simp only[c2,c3,go_sem]
 refine Zat Za9 Zau 1000 ?_
 try simp only[c2,c3,go_sem]
 refine ZaB ⟨ZaC (by simp only[ZdN,List.reverse_cons,List.reverse_nil,List.nil_append,List.cons_append,List.map_cons,List.map_nil,List.append_nil];rfl) (by first|decide +kernel|rfl),Zag Za9 1000 _ _ ?_⟩
 try simp only[c2,c3,go_sem]
 obtain rfl:=oi h0
 refine Zad rfl ?_
 try simp only[F44.rs,c2,c3,go_sem]
def F49.s1:SC:=
 (.seq
 (.seq
 (.reg [mv 15 7 3 [],
 fa 16 46 3 0 [],
 ld 17 44 16 [16],
 ln 18 17 44 3 [17],
 b2 19 .lss 3 15 18 3 4 [15,18]])
 (.cond (.tmp 19)
 .skip
 (.exit 2)))
 (.seq
 (.block 3
 (.dreg [mv 22 6 4 [],
 mv 23 22 4 [],
 og 24 (.fieldAddr 46 (.tmp 2) 0) 0 23 false [],
 og 25 (.load 44 (.tmp 24)) 44 23 false [],
 og 26 (.move (.tmp 5)) 3 23 false [],
 og 27 (.indexAddr 44 (.tmp 25) (.tmp 26)) 0 23 false [],
 og 28 (.load 25 (.tmp 27)) 25 23 false [],
 og 29 (.fieldAddr 46 (.tmp 3) 0) 0 23 false [],
 og 30 (.load 44 (.tmp 29)) 44 23 false [],
 og 31 (.move (.tmp 7)) 3 23 false [],
 og 32 (.indexAddr 44 (.tmp 30) (.tmp 31)) 0 23 false [],
 og 33 (.load 25 (.tmp 32)) 25 23 false [],
 og 34 (.binOp .eql 25 (.tmp 28) (.tmp 33) 25) 4 23 false [],
 oq 35 (.pick (.tmp 23) (.const (.bool true)) (.tmp 34)) 4 [],
 sg 6 35 4 []] [[],[0],[0,1],[0,1,2],[0,1],[0,1,2,3,4],[0,1,2,3,4,5],[0,1],[0,1,7],[0,1],[0,1,7,8,9],[0,1,7,8,9,10],[0,1,2,3,4,5,6,7,8,9,10,11],[0,1,2,3,4,5,6,7,8,9,10,11,12],[0,1,2,3,4,5,6,7,8,9,10,11,12,13]] [22,23,24,25,26,27,28,29,30,31,32,33,34,35]))
 (.reg [mv 20 7 3 [7],
 bn 21 .add 3 20 1 3 3 [20],
 sg 7 21 3 [21]])))
def F49.s0:SC:=
 (.seq
 (.seq
 (.reg [mv 8 5 3 [],
 fa 9 46 2 0 [],
 ld 10 44 9 [9],
 ln 11 10 44 3 [10],
 b2 12 .lss 3 8 11 3 4 [8,11]])
 (.cond (.tmp 12)
 .skip
 (.exit 0)))
 (.seq
 (.block 1
 (.seq
 (.reg [sb 6 false 4 []])
 (.seq
 (.seq
 (.reg [sn 7 0 3 []])
 (.block 2
 (.loop F49.s1)))
 (.seq
 (.reg [mv 36 6 4 [6],
 oq 37 (.unOp .not 4 (.tmp 36)) 4 [36]])
 (.cond (.tmp 37)
 (.seq
 (.reg [sb 4 false 4 []])
 .ret)
 .skip)))))
 (.reg [mv 13 5 3 [5],
 bn 14 .add 3 13 1 3 3 [13],
 sg 5 14 3 [14]])))
def F49.c:SC:=
 (.seq
 (.reg [oq 2 (.box 46 (.tmp 0)) 0 [0],
 oq 3 (.box 46 (.tmp 1)) 0 [1],
 sb 4 false 4 [4]])
 (.seq
 (.seq
 (.reg [sn 5 0 3 []])
 (.block 0
 (.loop F49.s0)))
 (.seq
 (.reg [sb 4 true 4 []])
 .ret)))
theorem F49.rs:Try.f49.results.toList=[.tmp 4]:=rfl
def Zas.b1 (k:Nat) (a0:Book) (b1:Book) (i1:Int):(Bool×Int)→Option (Stp (Bool×Int) (Bool) (Bool)):=fun(s:Bool×Int)=>match s with
 |(b3,i4)=>
   bif decide (i4<(b1.Records.length:Int)) then
    bif (!b3) then
     (at? a0.Records i1).bind fun x8=>
     (at? b1.Records i4).bind fun x9=>
     some (.next ((decide (x8.At.House=x9.At.House)&&(decide (x8.At.No=x9.At.No)&&(decide (x8.Kind=x9.Kind)&&(decide (x8.Day=x9.Day)&&(decide (x8.Known=x9.Known)&&(decide (x8.Of.House=x9.Of.House)&&(decide (x8.Of.No=x9.Of.No)&&(x8.Text.toList==x9.Text.toList)))))))),w64 (i4+1)))
    else
     some (.next (true,w64 (i4+1)))
   else
    some (.brk b3)
def Zas.b0 (k:Nat) (a0:Book) (b1:Book):Int→Option (Stp (Int) (Unit) (Bool)):=fun(i1:Int)=>
 bif decide (i1<(a0.Records.length:Int)) then
  (whl (Zas.b1 k a0 b1 i1) k (false,0)).bind fun r10=>match r10 with
  |.next _=>none
  |.ret v_=>some (.ret v_)
  |.brk b5=>
   bif (!b5) then
    some (.ret false)
   else
    some (.next (w64 (i1+1)))
 else
  some (.brk ())
noncomputable def Zas.h1 (a0:Book) (b1:Book) (i1:Int):(Bool×Int)→St:=fun(s:Bool×Int)=>match s with
 |(b3,i4)=>⟨[(2,.ptr 0 0 0),(3,.ptr 0 1 0),(5,.int .i64 i1),(6,.bool b3),(7,.int .i64 i4)],[(0,.box ([.sl 8 (List.map Record.c a0.Records)])),(1,.box ([.sl 8 (List.map Record.c b1.Records)]))],[],2,Try.f49.ntmps⟩
noncomputable def Zas.x1 (a0:Book) (b1:Book) (i1:Int):Bool→St:=fun(b5:Bool)=>⟨[(2,.ptr 0 0 0),(3,.ptr 0 1 0),(5,.int .i64 i1),(6,.bool b5)],[(0,.box ([.sl 8 (List.map Record.c a0.Records)])),(1,.box ([.sl 8 (List.map Record.c b1.Records)]))],[],2,Try.f49.ntmps⟩
noncomputable def Zas.h0 (a0:Book) (b1:Book):Int→St:=fun(i1:Int)=>⟨[(2,.ptr 0 0 0),(3,.ptr 0 1 0),(5,.int .i64 i1)],[(0,.box ([.sl 8 (List.map Record.c a0.Records)])),(1,.box ([.sl 8 (List.map Record.c b1.Records)]))],[],2,Try.f49.ntmps⟩
noncomputable def Zas.x0:Unit→St:=fun(_:Unit)=>⟨[],[],[],1,Try.f49.ntmps⟩
def Zas (k:Nat) (a0:Book) (b1:Book):Option (Bool):=
 (whl (Zas.b0 k a0 b1) k 0).bind fun r12=>match r12 with
 |.next _=>none
 |.ret v_=>some v_
 |.brk _=>
  some true
theorem Zjj (k:Nat) (a0:Book) (b1:Book) (r:Bool) (h0:Zas k a0 b1=some r):Za0 Try.prog 49 [.agg (Book.c a0),.agg (Book.c b1)] (fun y=>y=.bool r):=by
 refine PB (fn:=Try.f49) (sc:=F49.c) ?_
 refine rS ?_
 simp only[Zas]at h0
 try simp only[F49.c,go_sem]
 obtain⟨r12,yr12,h0⟩:=bs h0
 refine Zay yr12 (Zas.h0 a0 b1) (Zas.x0) ?_ ?_ ?_
 refine Za7.go [2,3,5] [0,16] rfl ?_
 try simp only[Zas.h0,go_sem]
 rintro i1 x_1 Bk1 Br1 h1 hnext1 hbrk1 hret1
 refine rS ?_
 simp only[Zas.b0]at h1
 try simp only[F49.s0,Zas.h0,go_sem]
 refine Zab h1 ?_ ?_<;>intro c2 h1
 try simp only[c2,go_sem]
 obtain⟨r10,yr10,h1⟩:=bs h1
 refine Zay yr10 (Zas.h1 a0 b1 i1) (Zas.x1 a0 b1 i1) ?_ ?_ ?_
 refine Za7.go [2,3,5,6,7] [0,1] rfl ?_
 try simp only[Zas.h1,c2,go_sem]
 rintro⟨b3,i4⟩ x_2 Bk2 Br2 h2 hnext2 hbrk2 hret2
 refine rS ?_
 simp only[Zas.b1]at h2
 try simp only[F49.s1,Zas.h1,c2,go_sem]
 refine Zab h2 ?_ ?_<;>intro c6 h2
 try simp only[c6,c2,go_sem]
 refine Zat Za9 Zau 1000 ?_
 try simp only[c2,c6,go_sem]
 refine ZjW h2 ?_ ?_<;>intro c7 h2
 have c7:=ZaY c7
 try simp only[c7,c2,c6,go_sem]
 obtain⟨x8,yx8,h2⟩:=bs h2
 try simp only[aa yx8,c2,c6,c7,go_sem]
 obtain⟨x9,yx9,h2⟩:=bs h2
 try simp only[aa yx9,c2,c6,c7,aa yx8,go_sem]
 refine ZaB ⟨ZaC (by simp only[ZdN,List.reverse_cons,List.reverse_nil,List.nil_append,List.cons_append,List.map_cons,List.map_nil,List.append_nil];rfl) (by first|decide +kernel|rfl),Zag Za9 1000 _ _ ?_⟩
 try simp only[c2,c6,c7,aa yx8,aa yx9,go_sem]
 refine Zaf (hnext2 _ _ (oi h2).symm ?_)
 refine Za7.go [2,3,5,6,7] [0,1] rfl ?_
 try simp only[Zas.h1,c2,c6,c7,aa yx8,aa yx9,go_sem]
 have c7:=ZaX c7
 try simp only[c7,c2,c6,go_sem]
 refine ZaB ⟨ZaC (by simp only[ZdN,List.reverse_cons,List.reverse_nil,List.nil_append,List.cons_append,List.map_cons,List.map_nil,List.append_nil];rfl) (by first|decide +kernel|rfl),Zag Za9 1000 _ _ ?_⟩
 try simp only[c2,c6,c7,go_sem]
 refine Zaf (hnext2 _ _ (oi h2).symm ?_)
 refine Za7.go [2,3,5,6,7] [0,1] rfl ?_
 try simp only[Zas.h1,c2,c6,c7,go_sem]
 try simp only[c6,c2,go_sem]
 refine Zaf (hbrk2 _ _ (oi h2).symm ?_)
 refine Za7.go [2,3,5,6] [0,1] rfl ?_
 try simp only[Zas.x1,c2,c6,go_sem]
 rintro b5 hr_
 subst hr_
 simp only at h1
 refine rS ?_
 try simp only[Zas.x1,c2,go_sem]
 refine Zab h1 ?_ ?_<;>intro c11 h1
 have c11:=ZaY c11
 try simp only[c11,c2,go_sem]
 obtain rfl:=hret1 _ (oi h1).symm
 simp only at h0
 obtain rfl:=oi h0
 refine Zad rfl ?_
 try simp only[F49.rs,c2,c11,go_sem]
 have c11:=ZaX c11
 try simp only[c11,c2,go_sem]
 refine Zaf (hnext1 _ _ (oi h1).symm ?_)
 refine Za7.go [2,3,5] [0,1] rfl ?_
 try simp only[Zas.h0,c2,c11,go_sem]
 try simp only[c2,go_sem]
 refine Zaf (hbrk1 _ _ (oi h1).symm ?_)
 refine Za7.go [] [] rfl ?_
 try simp only[Zas.x0,c2,go_sem]
 rintro _ hr_
 subst hr_
 simp only at h0
 refine rS ?_
 try simp only[Zas.x0,go_sem]
 obtain rfl:=oi h0
 refine Zad rfl ?_
 try simp only[F49.rs,go_sem]
def F45.c:SC:=
 (.seq
 (.reg [oq 3 (.box 46 (.tmp 0)) 0 [0],
 sb 6 false 4 [6]])
 (.seq
 (.seq
 (.reg [fa 7 46 3 0 [],
 ld 8 44 7 [7],
 ln 9 8 44 3 [8],
 mv 10 2 3 [],
 b2 11 .neq 3 9 10 3 4 [9,10],
 mv 12 11 4 [11],
 og 13 (.move (.tmp 2)) 3 12 false [],
 og 14 (.move (.tmp 1)) 44 12 false [],
 og 15 (.call ⟨.builtin .len,#[.tmp 14],#[44]⟩) 3 12 false [14],
 og 16 (.binOp .gtr 3 (.tmp 13) (.tmp 15) 3) 4 12 false [13,15],
 oq 17 (.pick (.tmp 12) (.const (.bool true)) (.tmp 16)) 4 [12,16]])
 (.cond (.tmp 17)
 (.seq
 (.reg [sb 6 false 4 []])
 .ret)
 .skip))
 (.seq
 (.dreg [ld 18 46 3 [],
 mv 19 1 44 [],
 mv 20 2 3 [],
 mv 21 2 3 [],
 oq 22 (.slice 44 (.tmp 19) none (some (.tmp 20)) (some (.tmp 21))) 44 [],
 oq 23 (.build 46 #[(0,.tmp 22)]) 46 [],
 cf2 24 49 18 23 46 46 4 [],
 sg 6 24 4 []] [[],[],[],[],[1,2,3],[1,2,3,4],[0,1,2,3,4,5],[0,1,2,3,4,5,6]] [1,2,3,18,19,20,21,22,23,24])
 .ret)))
theorem F45.rs:Try.f45.results.toList=[.tmp 6]:=rfl
def Zc3 (k:Nat) (b0:Book) (l1:(List Record)) (many2:Int):Option (Bool):=
 bif decide ((b0.Records.length:Int)=many2) then
  bif decide ((l1.length:Int)<many2) then
   some false
  else
   (s3? l1.length 0 many2 many2).bind fun _=>
   (Zas k b0 (⟨l1.take many2.toNat⟩:Book)).bind fun x4=>
   some x4
 else
  some false
theorem Zgx (k:Nat) (b0:Book) (l1:(List Record)) (many2:Int) (r:Bool) (h0:Zc3 k b0 l1 many2=some r):Za0 Try.prog 45 [.agg (Book.c b0),.sl 8 (List.map Record.c l1),.int .i64 many2] (fun y=>y=.bool r):=by
 refine PB (fn:=Try.f45) (sc:=F45.c) ?_
 refine rS ?_
 simp only[Zc3]at h0
 try simp only[F45.c,go_sem]
 refine Zab h0 ?_ ?_<;>intro c1 h0
 try simp only[c1,go_sem]
 refine Zab h0 ?_ ?_<;>intro c2 h0
 try simp only[c2,c1,go_sem]
 obtain rfl:=oi h0
 refine Zad rfl ?_
 try simp only[F45.rs,c1,c2,go_sem]
 try simp only[c2,c1,go_sem]
 refine Zat Za9 Zau 1000 ?_
 try simp only[c1,c2,go_sem]
 obtain⟨u3,yu3,h0⟩:=bs h0
 have eyu3:=Ztp yu3
 try simp only[eyu3,(@id (Int.toNat 0=0) rfl),←List.map_drop,←List.map_take,c1,c2,go_sem]
 obtain⟨x4,yx4,h0⟩:=bs h0
 refine Zbk 1000 (Zjj k _ _ _ yx4) ?_ (by first|rfl|(simp[AV.refsL,AV.refs,AV.scal,AV.leaf];done)|simp[AV.refsL,AV.refs,AV.scal,AV.leaf,go_sem]) ?_
 try simp only[c1,c2,(@id (Int.toNat 0=0) rfl),←List.map_take,go_sem]
 try simp only[c1,c2,(@id (Int.toNat 0=0) rfl),←List.map_take,go_sem]
 refine ZaB ⟨ZaC (by simp only[ZdN,List.reverse_cons,List.reverse_nil,List.nil_append,List.cons_append,List.map_cons,List.map_nil,List.append_nil];rfl) (by first|decide +kernel|rfl),Zag Za9 1000 _ _ ?_⟩
 try simp only[c1,c2,(@id (Int.toNat 0=0) rfl),←List.map_take,go_sem]
 obtain rfl:=oi h0
 refine Zad rfl ?_
 try simp only[F45.rs,c1,c2,(@id (Int.toNat 0=0) rfl),←List.map_take,go_sem]
 try simp only[c1,go_sem]
 obtain rfl:=oi h0
 refine Zad rfl ?_
 try simp only[F45.rs,c1,go_sem]
def F46.s0:SC:=
 (.seq
 (.seq
 (.reg [mv 5 4 3 [],
 mv 6 0 44 [],
 ln 7 6 44 3 [6],
 b2 8 .lss 3 5 7 3 4 [5,7],
 mv 9 8 4 [8],
 og 10 (.move (.tmp 4)) 3 9 true [],
 og 11 (.binOp .lss 3 (.tmp 10) (.const (.int .i64 12)) 3) 4 9 true [10],
 oq 12 (.pick (.tmp 9) (.tmp 11) (.const (.bool false))) 4 [9,11]])
 (.cond (.tmp 12)
 .skip
 (.exit 0)))
 (.seq
 (.block 1
 (.reg [mv 15 3 68 [3],
 mv 16 0 44 [],
 mv 17 4 3 [],
 ia 18 44 16 17 [16,17],
 fa 19 25 18 0 [18],
 fa 20 23 19 0 [19],
 ld 21 3 20 [20],
 oq 22 (.build 79 #[(0,.tmp 21),(1,.const (.int .i64 5)),(2,.const (.int .i64 0)),(3,.const (.int .i64 0)),(4,.const (.int .i64 0))]) 79 [21],
 oq 23 (.buildSlice 68 1 #[(0,.tmp 22)]) 68 [22],
 oq 24 (.call ⟨.builtin .append,#[.tmp 15,.tmp 23],#[68,68]⟩) 68 [15,23],
 sg 3 24 68 [24]]))
 (.reg [mv 13 4 3 [4],
 bn 14 .add 3 13 1 3 3 [13],
 sg 4 14 3 [14]])))
def F46.c:SC:=
 (.seq
 (.reg [oq 2 (.assign (.const (.slice none 0 0))) 68 [2]])
 (.seq
 (.reg [oq 3 (.assign (.const (.slice none 0 0))) 68 []])
 (.seq
 (.seq
 (.reg [sn 4 0 3 []])
 (.block 0
 (.loop F46.s0)))
 (.seq
 (.reg [mv 25 3 68 [3],
 sg 2 25 68 [25]])
 .ret))))
theorem F46.rs:Try.f46.results.toList=[.tmp 2]:=rfl
def ZbM.b0 (k:Nat) (l0:(List Record)):(Int×(List (Vec 5 Int)))→Option (Stp (Int×(List (Vec 5 Int))) ((List (Vec 5 Int))) ((List (Vec 5 Int)))):=fun(s:Int×(List (Vec 5 Int)))=>match s with
 |(i1,l2)=>
   bif decide (i1<(l0.length:Int)) then
    bif decide (i1<(12:Int)) then
     (at? l0 i1).bind fun x6=>
     (ZdM 40 l2 (⟨[x6.At.House,5,0,0,0],rfl⟩:(Vec 5 Int))).bind fun l7=>
     some (.next (w64 (i1+1),l7))
    else
     some (.brk l2)
   else
    some (.brk l2)
noncomputable def ZbM.h0 (l0:(List Record)):(Int×(List (Vec 5 Int)))→St:=fun(s:Int×(List (Vec 5 Int)))=>match s with
 |(i1,l2)=>⟨[(0,.sl 8 (List.map Record.c l0)),(3,.loc 0 0 5 0 l2.length l2.length),(4,.int .i64 i1)],[(0,.arr 79 5 (List.map (Vec.c (n:=5) eI) l2))],[],1,Try.f46.ntmps⟩
noncomputable def ZbM.x0:(List (Vec 5 Int))→St:=fun(l3:(List (Vec 5 Int)))=>⟨[(3,.loc 0 0 5 0 l3.length l3.length)],[(0,.arr 79 5 (List.map (Vec.c (n:=5) eI) l3))],[],1,Try.f46.ntmps⟩
def ZbM (k:Nat) (l0:(List Record)):Option ((List (Vec 5 Int))):=
 (whl (ZbM.b0 k l0) k (0,[])).bind fun r8=>match r8 with
 |.next _=>none
 |.ret v_=>some v_
 |.brk l3=>
  some l3
theorem ZrD (k:Nat) (l0:(List Record)) (r:(List (Vec 5 Int))) (h0:ZbM k l0=some r):Za0 Try.prog 46 [.sl 8 (List.map Record.c l0)] (fun y=>y=.sl 5 (List.map (Vec.c (n:=5) eI) r)):=by
 refine PB (fn:=Try.f46) (sc:=F46.c) ?_
 refine rS ?_
 simp only[ZbM]at h0
 try simp only[F46.c,go_sem]
 obtain⟨r8,yr8,h0⟩:=bs h0
 refine Zay yr8 (ZbM.h0 l0) (ZbM.x0) ?_ ?_ ?_
 refine Za7.go [0,3,4] [16] rfl ?_
 try simp only[ZbM.h0,go_sem]
 rintro⟨i1,l2⟩ x_1 Bk1 Br1 h1 hnext1 hbrk1 hret1
 refine rS ?_
 simp only[ZbM.b0]at h1
 try simp only[F46.s0,ZbM.h0,go_sem]
 refine Zab h1 ?_ ?_<;>intro c4 h1
 try simp only[c4,go_sem]
 refine Zab h1 ?_ ?_<;>intro c5 h1
 try simp only[c5,c4,go_sem]
 obtain⟨x6,yx6,h1⟩:=bs h1
 try simp only[aa yx6,(@id (Vec.c (n:=5) eI (Vec.rep 5 (0:Int))=[.int .i64 0,.int .i64 0,.int .i64 0,.int .i64 0,.int .i64 0]) rfl),(@id (Vec.c (n:=5) eI (⟨[x6.At.House,5,0,0,0],rfl⟩:(Vec 5 Int))=[.int .i64 x6.At.House,.int .i64 5,.int .i64 0,.int .i64 0,.int .i64 0]) rfl),c4,c5,go_sem]
 obtain⟨l7,yl7,h1⟩:=bs h1
 have eyl7:=ZcJ (Vec.c (n:=5) eI) yl7
 have tyl7:=Zcf (Vec.c (n:=5) eI) yl7
 have nyl7:=Zcz yl7
 have myl7:=Zce yl7
 try simp only[c4,c5,aa yx6,(@id (Vec.c (n:=5) eI (⟨[x6.At.House,5,0,0,0],rfl⟩:(Vec 5 Int))=[.int .i64 x6.At.House,.int .i64 5,.int .i64 0,.int .i64 0,.int .i64 0]) rfl),go_sem]at eyl7 tyl7 nyl7 myl7
 try simp only[myl7,eyl7,c4,c5,aa yx6,(@id (Vec.c (n:=5) eI (⟨[x6.At.House,5,0,0,0],rfl⟩:(Vec 5 Int))=[.int .i64 x6.At.House,.int .i64 5,.int .i64 0,.int .i64 0,.int .i64 0]) rfl),nyl7,tyl7,go_sem]
 refine Zaf (hnext1 _ _ (oi h1).symm ?_)
 refine Za7.go [0,3,4] [0] rfl ?_
 try simp only[ZbM.h0,c4,c5,aa yx6,(@id (Vec.c (n:=5) eI (⟨[x6.At.House,5,0,0,0],rfl⟩:(Vec 5 Int))=[.int .i64 x6.At.House,.int .i64 5,.int .i64 0,.int .i64 0,.int .i64 0]) rfl),eyl7,nyl7,tyl7,go_sem]
 try simp only[c5,c4,go_sem]
 refine Zaf (hbrk1 _ _ (oi h1).symm ?_)
 refine Za7.go [3] [0] rfl ?_
 try simp only[ZbM.x0,c4,c5,go_sem]
 try simp only[c4,go_sem]
 refine Zaf (hbrk1 _ _ (oi h1).symm ?_)
 refine Za7.go [3] [0] rfl ?_
 try simp only[ZbM.x0,c4,go_sem]
 rintro l3 hr_
 subst hr_
 simp only at h0
 refine rS ?_
 try simp only[ZbM.x0,go_sem]
 obtain rfl:=oi h0
 refine Zad rfl ?_
 try simp only[F46.rs,go_sem]
def Za6.b0 (k:Nat) (l0:(List Record)):(Int×(List (Vec 5 Int)))→Option (Stp (Int×(List (Vec 5 Int))) ((List (Vec 5 Int))) ((List (Vec 5 Int)))):=fun(s:Int×(List (Vec 5 Int)))=>match s with
 |(i1,l2)=>
   bif decide (i1<(l0.length:Int)) then
    bif decide (i1<(12:Int)) then
     (at? l0 i1).bind fun x6=>
     (ZdM 40 l2 (⟨[x6.At.House,5,0,0,0],rfl⟩:(Vec 5 Int))).bind fun l7=>
     some (.next (w64 (i1+1),l7))
    else
     some (.brk l2)
   else
    some (.brk l2)
noncomputable def Za6.h0 (H:Zam) (l0:(List Record)):(Int×(List (Vec 5 Int)))→St:=fun(s:Int×(List (Vec 5 Int)))=>match s with
 |(i1,l2)=>⟨[(0,.sl 8 (List.map Record.c l0)),(3,.loc 0 0 5 0 l2.length l2.length),(4,.int .i64 i1)],[(0,.arr 79 5 (List.map (Vec.c (n:=5) eI) l2))],H,1,Try.f46.ntmps⟩
noncomputable def Za6.x0 (H:Zam):(List (Vec 5 Int))→St:=fun(l3:(List (Vec 5 Int)))=>⟨[(3,.loc 0 0 5 0 l3.length l3.length)],[(0,.arr 79 5 (List.map (Vec.c (n:=5) eI) l3))],H,1,Try.f46.ntmps⟩
def Za6 (k:Nat) (l0:(List Record)):Option ((List (Vec 5 Int))):=
 (whl (Za6.b0 k l0) k (0,[])).bind fun r8=>match r8 with
 |.next _=>none
 |.ret v_=>some v_
 |.brk l3=>
  some l3
theorem Zji (k:Nat) (l0:(List Record)) (r:(List (Vec 5 Int))) (h0:Za6 k l0=some r):Zb7 Try.prog 46 [.sl 8 (List.map Record.c l0)] [] (fun y fr=>y=.loc 0 0 5 0 r.length r.length∧fr=[(0,.arr 79 5 (List.map (Vec.c (n:=5) eI) r))]):=by
 have hr:=Zb7.own (et:=79) (sz:=5) (ls:=List.map (Vec.c (n:=5) eI) r) (Zb7.of_body Za9 (f:=46) (fn:=Try.f46) (sc:=F46.c) (args:=[.sl 8 (List.map Record.c l0)]) (fr0:=[]) (by rfl) (by rfl) (by decide +kernel) (by rfl) (by decide +kernel) (Nat.le_of_ble_eq_true rfl) (fun H=>?_))
 simpa only [List.length_map] using hr
 refine rS ?_
 simp only[Za6]at h0
 try simp only[F46.c,go_sem]
 obtain⟨r8,yr8,h0⟩:=bs h0
 refine Zay yr8 (Za6.h0 H l0) (Za6.x0 H) ?_ ?_ ?_
 refine Za7.go [0,3,4] [32] rfl ?_
 try simp only[Za6.h0,go_sem]
 rintro⟨i1,l2⟩ x_1 Bk1 Br1 h1 hnext1 hbrk1 hret1
 refine rS ?_
 simp only[Za6.b0]at h1
 try simp only[F46.s0,Za6.h0,go_sem]
 refine Zab h1 ?_ ?_<;>intro c4 h1
 try simp only[c4,go_sem]
 refine Zab h1 ?_ ?_<;>intro c5 h1
 try simp only[c5,c4,go_sem]
 obtain⟨x6,yx6,h1⟩:=bs h1
 try simp only[aa yx6,(@id (Vec.c (n:=5) eI (Vec.rep 5 (0:Int))=[.int .i64 0,.int .i64 0,.int .i64 0,.int .i64 0,.int .i64 0]) rfl),(@id (Vec.c (n:=5) eI (⟨[x6.At.House,5,0,0,0],rfl⟩:(Vec 5 Int))=[.int .i64 x6.At.House,.int .i64 5,.int .i64 0,.int .i64 0,.int .i64 0]) rfl),c4,c5,go_sem]
 obtain⟨l7,yl7,h1⟩:=bs h1
 have eyl7:=ZcJ (Vec.c (n:=5) eI) yl7
 have tyl7:=Zcf (Vec.c (n:=5) eI) yl7
 have nyl7:=Zcz yl7
 have myl7:=Zce yl7
 try simp only[c4,c5,aa yx6,(@id (Vec.c (n:=5) eI (⟨[x6.At.House,5,0,0,0],rfl⟩:(Vec 5 Int))=[.int .i64 x6.At.House,.int .i64 5,.int .i64 0,.int .i64 0,.int .i64 0]) rfl),go_sem]at eyl7 tyl7 nyl7 myl7
 try simp only[myl7,eyl7,c4,c5,aa yx6,(@id (Vec.c (n:=5) eI (⟨[x6.At.House,5,0,0,0],rfl⟩:(Vec 5 Int))=[.int .i64 x6.At.House,.int .i64 5,.int .i64 0,.int .i64 0,.int .i64 0]) rfl),nyl7,tyl7,go_sem]
 refine Zaf (hnext1 _ _ (oi h1).symm ?_)
 refine Za7.go [0,3,4] [0] rfl ?_
 try simp only[Za6.h0,c4,c5,aa yx6,(@id (Vec.c (n:=5) eI (⟨[x6.At.House,5,0,0,0],rfl⟩:(Vec 5 Int))=[.int .i64 x6.At.House,.int .i64 5,.int .i64 0,.int .i64 0,.int .i64 0]) rfl),eyl7,nyl7,tyl7,go_sem]
 try simp only[c5,c4,go_sem]
 refine Zaf (hbrk1 _ _ (oi h1).symm ?_)
 refine Za7.go [3] [0] rfl ?_
 try simp only[Za6.x0,c4,c5,go_sem]
 try simp only[c4,go_sem]
 refine Zaf (hbrk1 _ _ (oi h1).symm ?_)
 refine Za7.go [3] [0] rfl ?_
 try simp only[Za6.x0,c4,go_sem]
 rintro l3 hr_
 subst hr_
 simp only at h0
 refine rS ?_
 try simp only[Za6.x0,go_sem]
 obtain rfl:=oi h0
 refine Zdf rfl ?_
 try simp only[F46.rs,oOK,Option.map_some,Zb0,Zf8,Zj1,Nat.le_refl,List.take_length,go_sem]
def F47.s0:SC:=
 (.seq
 (.seq
 (.reg [mv 7 6 3 [],
 mv 8 0 44 [],
 ln 9 8 44 3 [8],
 b2 10 .lss 3 7 9 3 4 [7,9]])
 (.cond (.tmp 10)
 .skip
 (.exit 0)))
 (.seq
 (.block 1
 (.seq
 (.reg [mv 13 0 44 [],
 mv 14 6 3 [],
 ia 15 44 13 14 [13,14],
 fa 16 25 15 0 [15],
 fa 17 23 16 0 [16],
 ld 18 3 17 [17],
 mv 19 1 3 [],
 b2 20 .eql 3 18 19 3 4 [18,19]])
 (.cond (.tmp 20)
 (.reg [mv 21 5 3 [5],
 bn 22 .add 3 21 1 3 3 [21],
 sg 5 22 3 [22]])
 .skip)))
 (.reg [mv 11 6 3 [6],
 bn 12 .add 3 11 1 3 3 [11],
 sg 6 12 3 [12]])))
def F47.c:SC:=
 (.seq
 (.reg [sn 4 0 3 [4]])
 (.seq
 (.reg [sn 5 0 3 []])
 (.seq
 (.seq
 (.reg [sn 6 0 3 []])
 (.block 0
 (.loop F47.s0)))
 (.seq
 (.reg [mv 23 5 3 [5],
 sg 4 23 3 [23]])
 .ret))))
theorem F47.rs:Try.f47.results.toList=[.tmp 4]:=rfl
def ZaJ.b0 (k:Nat) (l0:(List Record)) (house1:Int):(Int×Int)→Option (Stp (Int×Int) (Int) (Int)):=fun(s:Int×Int)=>match s with
 |(i1,i2)=>
   bif decide (i2<(l0.length:Int)) then
    (at? l0 i2).bind fun x5=>
    bif decide (x5.At.House=house1) then
     some (.next (w64 (i1+1),w64 (i2+1)))
    else
     some (.next (i1,w64 (i2+1)))
   else
    some (.brk i1)
noncomputable def ZaJ.h0 (l0:(List Record)) (house1:Int):(Int×Int)→St:=fun(s:Int×Int)=>match s with
 |(i1,i2)=>⟨[(0,.sl 8 (List.map Record.c l0)),(1,.int .i64 house1),(5,.int .i64 i1),(6,.int .i64 i2)],[],[],1,Try.f47.ntmps⟩
noncomputable def ZaJ.x0:Int→St:=fun(i3:Int)=>⟨[(5,.int .i64 i3)],[],[],1,Try.f47.ntmps⟩
def ZaJ (k:Nat) (l0:(List Record)) (house1:Int):Option (Int):=
 (whl (ZaJ.b0 k l0 house1) k (0,0)).bind fun r7=>match r7 with
 |.next _=>none
 |.ret v_=>some v_
 |.brk i3=>
  some i3
theorem ZjZ (k:Nat) (l0:(List Record)) (house1:Int) (r:Int) (h0:ZaJ k l0 house1=some r):Za0 Try.prog 47 [.sl 8 (List.map Record.c l0),.int .i64 house1] (fun y=>y=.int .i64 r):=by
 refine PB (fn:=Try.f47) (sc:=F47.c) ?_
 refine rS ?_
 simp only[ZaJ]at h0
 try simp only[F47.c,go_sem]
 obtain⟨r7,yr7,h0⟩:=bs h0
 refine Zay yr7 (ZaJ.h0 l0 house1) (ZaJ.x0) ?_ ?_ ?_
 refine Za7.go [0,1,5,6] [] rfl ?_
 try simp only[ZaJ.h0,go_sem]
 rintro⟨i1,i2⟩ x_1 Bk1 Br1 h1 hnext1 hbrk1 hret1
 refine rS ?_
 simp only[ZaJ.b0]at h1
 try simp only[F47.s0,ZaJ.h0,go_sem]
 refine Zab h1 ?_ ?_<;>intro c4 h1
 try simp only[c4,go_sem]
 obtain⟨x5,yx5,h1⟩:=bs h1
 try simp only[aa yx5,c4,go_sem]
 refine Zab h1 ?_ ?_<;>intro c6 h1
 try simp only[c6,c4,aa yx5,go_sem]
 refine Zaf (hnext1 _ _ (oi h1).symm ?_)
 refine Za7.go [0,1,5,6] [] rfl ?_
 try simp only[ZaJ.h0,c4,aa yx5,c6,go_sem]
 try simp only[c6,c4,aa yx5,go_sem]
 refine Zaf (hnext1 _ _ (oi h1).symm ?_)
 refine Za7.go [0,1,5,6] [] rfl ?_
 try simp only[ZaJ.h0,c4,aa yx5,c6,go_sem]
 try simp only[c4,go_sem]
 refine Zaf (hbrk1 _ _ (oi h1).symm ?_)
 refine Za7.go [5] [] rfl ?_
 try simp only[ZaJ.x0,c4,go_sem]
 rintro i3 hr_
 subst hr_
 simp only at h0
 refine rS ?_
 try simp only[ZaJ.x0,go_sem]
 obtain rfl:=oi h0
 refine Zad rfl ?_
 try simp only[F47.rs,go_sem]
def F9.s0:SC:=
 (.seq
 (.seq
 (.reg [mv 29 10 3 [],
 mv 30 0 33 [],
 ln 31 30 33 3 [30],
 b2 32 .leq 3 29 31 3 4 [29,31],
 mv 33 32 4 [32],
 og 34 (.move (.tmp 10)) 3 33 true [],
 og 35 (.binOp .leq 3 (.tmp 34) (.const (.int .i64 12)) 3) 4 33 true [34],
 oq 36 (.pick (.tmp 33) (.tmp 35) (.const (.bool false))) 4 [33,35]])
 (.cond (.tmp 36)
 .skip
 (.exit 0)))
 (.seq
 (.block 1
 (.seq
 (.reg [mv 39 1 63 [],
 oq 40 (.build 81 #[(0,.const (.int .i64 7)),(2,.tmp 39)]) 81 [39],
 oq 11 (.alloc 81) 0 [],
 ⟨none,.store 81 (.tmp 11) (.tmp 40),0,none,[40]⟩])
 (.seq
 (.mark
 (.seq
 (.reg [mv 41 10 3 [],
 mv 42 0 33 [],
 ln 43 42 33 3 [42],
 b2 44 .lss 3 41 43 3 4 [41,43],
 mv 45 44 4 [44],
 og 46 (.move (.tmp 10)) 3 45 true [],
 og 47 (.binOp .lss 3 (.tmp 46) (.const (.int .i64 12)) 3) 4 45 true [46],
 oq 48 (.pick (.tmp 45) (.tmp 47) (.const (.bool false))) 4 [45,47]])
 (.cond (.tmp 48)
 (.reg [mv 49 0 33 [],
 mv 50 10 3 [],
 ia 51 33 49 50 [49,50],
 ld 52 81 51 [51],
 ⟨none,.store 81 (.tmp 11) (.tmp 52),0,none,[52]⟩])
 .skip)))
 (.seq
 (.reg [fa 53 81 11 0 [],
 ld 54 3 53 [53],
 oq 55 (.call ⟨.value (.func 39),#[.tmp 54,.const (.int .i64 8)],#[3,3]⟩) 3 [54]])
 (.block 2
 (.seq
 (.reg [bn 99 .eql 3 55 5 3 4 [],
 sg 98 99 4 [99]])
 (.cond (.tmp 98)
 (.seq
 (.reg [ld 100 42 6 [],
 cf1 101 34 100 42 42 [100],
 ⟨none,.store 42 (.tmp 6) (.tmp 101),0,none,[101]⟩])
 (.reg [mv 102 8 44 [],
 ln 103 102 44 3 [102],
 sg 9 103 3 [103]]))
 (.seq
 (.reg [bn 105 .eql 3 55 6 3 4 [],
 sg 104 105 4 [105]])
 (.cond (.tmp 104)
 (.seq
 (.reg [ld 107 42 6 [],
 ld 108 48 7 [],
 cf2 109 44 107 108 42 48 83 [107,108],
 mv 106 109 83 [109],
 xt 110 106 0 82 [],
 xt 111 106 1 48 [],
 xt 112 106 2 28 [106],
 oq 13 (.alloc 48) 0 [],
 sg 12 110 82 [110],
 ⟨none,.store 48 (.tmp 13) (.tmp 111),0,none,[111]⟩,
 sg 14 112 28 [112]])
 (.seq
 (.seq
 (.reg [mv 113 14 28 [14],
 bn 114 .neq 28 113 0 28 4 [113],
 mv 115 114 4 [114],
 og 116 (.move (.tmp 12)) 82 115 false [],
 og 117 (.call ⟨.builtin .len,#[.tmp 116],#[82]⟩) 3 115 false [116],
 og 118 (.binOp .neq 3 (.tmp 117) (.const (.int .i64 5)) 3) 4 115 false [117],
 oq 119 (.pick (.tmp 115) (.const (.bool true)) (.tmp 118)) 4 [115,118],
 mv 120 119 4 [119],
 og 121 (.fieldAddr 48 (.tmp 13) 0) 0 120 false [],
 og 122 (.load 46 (.tmp 121)) 46 120 false [121],
 og 123 (.move (.tmp 8)) 44 120 false [],
 og 124 (.move (.tmp 8)) 44 120 false [],
 og 125 (.call ⟨.builtin .len,#[.tmp 124],#[44]⟩) 3 120 false [124],
 og 126 (.call ⟨.value (.func 45),#[.tmp 122,.tmp 123,.tmp 125],#[46,44,3]⟩) 4 120 false [122,123,125],
 og 127 (.unOp .not 4 (.tmp 126)) 4 120 false [126],
 oq 128 (.pick (.tmp 120) (.const (.bool true)) (.tmp 127)) 4 [120,127]])
 (.cond (.tmp 128)
 (.seq
 (.reg [sb 4 false 4 []])
 .ret)
 .skip))
 (.seq
 (.reg [mv 129 12 82 [12],
 oq 130 (.indexAddr 82 (.tmp 129) (.const (.int .i64 4))) 0 [129],
 ld 131 42 130 [130],
 ⟨none,.store 42 (.tmp 6) (.tmp 131),0,none,[131]⟩])
 (.seq
 (.reg [ld 132 48 13 [13],
 ⟨none,.store 48 (.tmp 7) (.tmp 132),0,none,[132]⟩])
 (.reg [mv 133 8 44 [],
 ln 134 133 44 3 [133],
 sg 9 134 3 [134]])))))
 (.seq
 (.reg [bn 136 .eql 3 55 7 3 4 [55],
 sg 135 136 4 [136]])
 (.cond (.tmp 135)
 (.seq
 (.reg [ld 138 42 6 [],
 fa 139 81 11 2 [11],
 ld 140 63 139 [139],
 cf2 141 36 138 140 42 63 42 [138,140],
 cf1 142 32 141 42 50 [141],
 mv 137 142 50 [142],
 xt 143 137 0 42 [],
 xt 144 137 1 48 [],
 xt 145 137 2 28 [137],
 oq 15 (.alloc 42) 0 [],
 oq 16 (.alloc 48) 0 [],
 ⟨none,.store 42 (.tmp 15) (.tmp 143),0,none,[143]⟩,
 ⟨none,.store 48 (.tmp 16) (.tmp 144),0,none,[144]⟩,
 sg 17 145 28 [145]])
 (.seq
 (.seq
 (.reg [mv 146 17 28 [17],
 bn 147 .neq 28 146 0 28 4 [146]])
 (.cond (.tmp 147)
 (.seq
 (.reg [sb 4 false 4 []])
 .ret)
 .skip))
 (.seq
 (.reg [fa 148 48 16 0 [],
 fa 149 46 148 0 [148],
 ld 150 44 149 [149],
 ln 151 150 44 3 [150],
 sg 18 151 3 [151]])
 (.seq
 (.seq
 (.reg [mv 152 18 3 [],
 mv 153 9 3 [9],
 b2 154 .lss 3 152 153 3 4 [152,153],
 mv 155 154 4 [154],
 og 156 (.move (.tmp 18)) 3 155 false [],
 og 157 (.move (.tmp 8)) 44 155 false [],
 og 158 (.call ⟨.builtin .len,#[.tmp 157],#[44]⟩) 3 155 false [157],
 og 159 (.binOp .gtr 3 (.tmp 156) (.tmp 158) 3) 4 155 false [156,158],
 oq 160 (.pick (.tmp 155) (.const (.bool true)) (.tmp 159)) 4 [155,159],
 mv 161 160 4 [160],
 og 162 (.fieldAddr 48 (.tmp 16) 0) 0 161 false [],
 og 163 (.load 46 (.tmp 162)) 46 161 false [162],
 og 164 (.move (.tmp 8)) 44 161 false [],
 og 165 (.move (.tmp 18)) 3 161 false [],
 og 166 (.call ⟨.value (.func 45),#[.tmp 163,.tmp 164,.tmp 165],#[46,44,3]⟩) 4 161 false [163,164,165],
 og 167 (.unOp .not 4 (.tmp 166)) 4 161 false [166],
 oq 168 (.pick (.tmp 161) (.const (.bool true)) (.tmp 167)) 4 [161,167]])
 (.cond (.tmp 168)
 (.seq
 (.reg [sb 4 false 4 []])
 .ret)
 .skip))
 (.seq
 (.reg [ld 169 42 15 [15],
 ⟨none,.store 42 (.tmp 6) (.tmp 169),0,none,[169]⟩])
 (.seq
 (.reg [ld 170 48 16 [16],
 ⟨none,.store 48 (.tmp 7) (.tmp 170),0,none,[170]⟩])
 (.seq
 (.reg [oq 171 (.buildSlice 44 0 #[]) 44 [],
 mv 172 8 44 [8],
 mv 173 18 3 [],
 oq 174 (.slice 44 (.tmp 172) none (some (.tmp 173)) none) 44 [172,173],
 oq 175 (.call ⟨.builtin .append,#[.tmp 171,.tmp 174],#[44,44]⟩) 44 [171,174],
 sg 8 175 44 [175]])
 (.reg [mv 176 18 3 [18],
 sg 9 176 3 [176]]))))))))
 (.seq
 (.dreg [mv 56 8 44 [],
 cf1 57 46 56 44 68 [],
 fa 58 81 11 1 [],
 ld 59 79 58 [],
 oq 60 (.buildSlice 68 1 #[(0,.tmp 59)]) 68 [],
 oq 61 (.call ⟨.builtin .append,#[.tmp 57,.tmp 60],#[68,68]⟩) 68 [],
 oq 62 (.call ⟨.value (.func 38),#[.tmp 61,.const (.int .i64 13)],#[68,3]⟩) 44 [],
 sg 19 62 44 []] [[],[0],[],[2],[2,3],[0,1,2,3,4],[0,1,2,3,4,5],[0,1,2,3,4,5,6]] [11,56,57,58,59,60,61,62])
 (.seq
 (.reg [mv 63 19 44 [],
 mv 64 19 44 [19],
 ln 65 64 44 3 [64],
 bn 66 .sub 3 65 1 3 3 [65],
 ia 67 44 63 66 [63,66],
 ld 68 25 67 [67],
 oq 20 (.alloc 25) 0 [],
 ⟨none,.store 25 (.tmp 20) (.tmp 68),0,none,[68]⟩])
 (.seq
 (.reg [mv 69 8 44 [],
 fa 70 25 20 0 [],
 fa 71 23 70 0 [70],
 ld 72 3 71 [71],
 cf2 73 47 69 72 44 3 3 [69,72],
 fa 74 25 20 0 [],
 fa 75 23 74 1 [74],
 ⟨none,.store 3 (.tmp 75) (.tmp 73),0,none,[73,75]⟩])
 (.seq
 (.seq
 (.reg [fa 76 25 20 1 [],
 ld 77 3 76 [76],
 bn 78 .eql 3 77 0 3 4 [77]])
 (.cond (.tmp 78)
 (.reg [fa 79 25 20 0 [],
 ld 80 23 79 [79],
 oq 81 (.build 25 #[(0,.tmp 80),(1,.const (.int .i64 9)),(5,.const (.string ⟨#[119]⟩))]) 25 [80],
 ⟨none,.store 25 (.tmp 20) (.tmp 81),0,none,[81]⟩])
 .skip))
 (.seq
 (.reg [ld 83 42 6 [],
 ld 84 48 7 [],
 ld 85 25 20 [],
 oq 86 (.call ⟨.value (.func 20),#[.tmp 83,.tmp 84,.tmp 85],#[42,48,25]⟩) 50 [83,84,85],
 mv 82 86 50 [86],
 xt 87 82 0 42 [],
 xt 88 82 1 48 [],
 xt 89 82 2 28 [82],
 oq 21 (.alloc 42) 0 [],
 oq 22 (.alloc 48) 0 [],
 ⟨none,.store 42 (.tmp 21) (.tmp 87),0,none,[87]⟩,
 ⟨none,.store 48 (.tmp 22) (.tmp 88),0,none,[88]⟩,
 sg 23 89 28 [89]])
 (.seq
 (.seq
 (.reg [mv 90 23 28 [23],
 bn 91 .neq 28 90 0 28 4 [90]])
 (.cond (.tmp 91)
 (.seq
 (.reg [sb 4 false 4 []])
 .ret)
 .skip))
 (.seq
 (.reg [mv 92 8 44 [8],
 ld 93 25 20 [20],
 oq 94 (.buildSlice 44 1 #[(0,.tmp 93)]) 44 [93],
 oq 95 (.call ⟨.builtin .append,#[.tmp 92,.tmp 94],#[44,44]⟩) 44 [92,94],
 sg 8 95 44 [95]])
 (.seq
 (.reg [ld 96 42 21 [21],
 ⟨none,.store 42 (.tmp 6) (.tmp 96),0,none,[96]⟩])
 (.reg [ld 97 48 22 [22],
 ⟨none,.store 48 (.tmp 7) (.tmp 97),0,none,[97]⟩]))))))))))))))))))))
 (.reg [mv 37 10 3 [10],
 bn 38 .add 3 37 1 3 3 [37],
 sg 10 38 3 [38]])))
def F9.c:SC:=
 (.seq
 (.reg [sb 4 false 4 [4]])
 (.seq
 (.reg [oq 24 (.call ⟨.value (.func 14),#[],#[]⟩) 4 [],
 sg 5 24 4 [24]])
 (.seq
 (.reg [oq 26 (.call ⟨.value (.func 43),#[],#[]⟩) 76 [],
 mv 25 26 76 [26],
 xt 27 25 0 42 [],
 xt 28 25 1 48 [25],
 oq 6 (.alloc 42) 0 [],
 oq 7 (.alloc 48) 0 [],
 ⟨none,.store 42 (.tmp 6) (.tmp 27),0,none,[27]⟩,
 ⟨none,.store 48 (.tmp 7) (.tmp 28),0,none,[28]⟩])
 (.seq
 (.reg [oq 8 (.assign (.const (.slice none 0 0))) 44 []])
 (.seq
 (.reg [sn 9 0 3 []])
 (.seq
 (.seq
 (.reg [sn 10 0 3 []])
 (.block 0
 (.loop F9.s0)))
 (.seq
 (.reg [mv 177 5 4 [5],
 sg 4 177 4 [177]])
 .ret)))))))
theorem F9.rs:Try.f9.results.toList=[.tmp 4]:=rfl
def Zaj.j4 (k:Nat) (l0:(List R09_Deed)) (picks1:(List Int)) (i6:Int):Option (Stp (Unit) (R09_Deed) (Bool)):=
 bif decide (i6<(l0.length:Int)) then
  bif decide (i6<(12:Int)) then
   (at? l0 i6).bind fun x13=>
   some (.brk x13)
  else
   some (.brk (⟨7,(Vec.rep 5 (0:Int)),picks1⟩:R09_Deed))
 else
  some (.brk (⟨7,(Vec.rep 5 (0:Int)),picks1⟩:R09_Deed))
def Zaj.b0 (k:Nat) (l0:(List R09_Deed)) (picks1:(List Int)):(Disk×Ledger×Int×Int×(List Record))→Option (Stp (Disk×Ledger×Int×Int×(List Record)) (Unit) (Bool)):=fun(s:Disk×Ledger×Int×Int×(List Record))=>match s with
 |(s3,s4,i5,i6,l7)=>
   bif decide (i6≤(l0.length:Int)) then
    bif decide (i6≤(12:Int)) then
     (Zaj.j4 k l0 picks1 i6).bind fun r14=>match r14 with
     |.next _=>none
     |.ret v_=>some (.ret v_)
     |.brk s10=>
      (Zdr k s10.Kind 8).bind fun x15=>
      bif decide (x15=(5:Int)) then
       (Zel k s3).bind fun x17=>
       some (.next (x17,s4,((l7.length:Nat):Int),w64 (i6+1),l7))
      else
       bif decide (x15=(6:Int)) then
        (ZaK k s3 s4).bind fun x19=>
        bif decide (x19.2.2=(0:Int)) then
         bif decide ((x19.1.length:Int)=(5:Int)) then
          (Zc3 k x19.2.1.Book l7 ((l7.length:Nat):Int)).bind fun x22=>
          bif (!x22) then
           some (.ret false)
          else
           (at? x19.1 4).bind fun x24=>
           some (.next (x24,x19.2.1,((l7.length:Nat):Int),w64 (i6+1),l7))
         else
          some (.ret false)
        else
         some (.ret false)
       else
        bif decide (x15=(7:Int)) then
         (Zak k s3 s10.Picks).bind fun x26=>
         (Zcq k x26).bind fun x27=>
         bif (!decide (x27.2.2=(0:Int))) then
          some (.ret false)
         else
          bif (!decide ((x27.2.1.Book.Records.length:Int)<i5)) then
           bif (!decide (((l7.length:Nat):Int)<(x27.2.1.Book.Records.length:Int))) then
            (Zc3 k x27.2.1.Book l7 (x27.2.1.Book.Records.length:Int)).bind fun x31=>
            bif (!x31) then
             some (.ret false)
            else
             (hs? l7.length (x27.2.1.Book.Records.length:Int)).bind fun _=>
             (ZiN x27.2.1.Book.Records.length 72).bind fun _=>
             some (.next (x27.1,x27.2.1,(x27.2.1.Book.Records.length:Int),w64 (i6+1),l7.take x27.2.1.Book.Records.length))
           else
            some (.ret false)
          else
           some (.ret false)
        else
         (Za6 k l7).bind fun x37=>
         (ZdM 40 x37 s10.Record).bind fun l38=>
         (Zaz k l38 13).bind fun x39=>
         (at? x39 (w64 ((x39.length:Int) - 1))).bind fun x40=>
         (ZaJ k l7 x40.At.House).bind fun x41=>
         bif decide (x40.Kind=(0:Int)) then
          (ZbB k s3 s4 (⟨(⟨x40.At.House,x41⟩:Entry),9,0,0,(⟨0,0⟩:Entry),(⟨#[119]⟩:ByteArray)⟩:Record)).bind fun x43=>
          bif (!decide (x43.2.2=(0:Int))) then
           some (.ret false)
          else
           (ZdM 72 l7 (⟨(⟨x40.At.House,x41⟩:Entry),9,0,0,(⟨0,0⟩:Entry),(⟨#[119]⟩:ByteArray)⟩:Record)).bind fun l45=>
           some (.next (x43.1,x43.2.1,i5,w64 (i6+1),l45))
         else
          (ZbB k s3 s4 (⟨(⟨x40.At.House,x41⟩:Entry),x40.Kind,x40.Day,x40.Known,x40.Of,x40.Text⟩:Record)).bind fun x46=>
          bif (!decide (x46.2.2=(0:Int))) then
           some (.ret false)
          else
           (ZdM 72 l7 (⟨(⟨x40.At.House,x41⟩:Entry),x40.Kind,x40.Day,x40.Known,x40.Of,x40.Text⟩:Record)).bind fun l48=>
           some (.next (x46.1,x46.2.1,i5,w64 (i6+1),l48))
    else
     some (.brk ())
   else
    some (.brk ())
noncomputable def Zaj.y4 (l0:(List R09_Deed)) (picks1:(List Int)) (x1:Bool) (s3:Disk) (s4:Ledger) (i5:Int) (i6:Int) (l7:(List Record)):R09_Deed→St:=fun(s10:R09_Deed)=>⟨[(0,.sl 7 (List.map R09_Deed.c l0)),(1,.sl 1 (List.map eI picks1)),(5,.bool x1),(6,.ptr 0 0 0),(7,.ptr 0 1 0),(8,.loc 0 2 8 0 l7.length l7.length),(9,.int .i64 i5),(10,.int .i64 i6),(11,.ptr 0 3 0)],[(0,.box ([.sl 64 (List.map (Vec.c (n:=2) (Vec.c (n:=32) eU8)) s3.Pages),.sl 65 (List.map Write.c s3.Wait)])),(1,.box ([.sl 8 (List.map Record.c s4.Book.Records),.int .i64 s4.Area,.int .i64 s4.Epoch,.int .i64 s4.Used])),(2,.arr 25 8 (List.map Record.c l7)),(3,.box ([.int .i64 s10.Kind]++(Vec.c (n:=5) eI s10.Record++([.sl 1 (List.map eI s10.Picks)]))))],[],4,Try.f9.ntmps⟩
noncomputable def Zaj.h0 (l0:(List R09_Deed)) (picks1:(List Int)) (x1:Bool):(Disk×Ledger×Int×Int×(List Record))→St:=fun(s:Disk×Ledger×Int×Int×(List Record))=>match s with
 |(s3,s4,i5,i6,l7)=>⟨[(0,.sl 7 (List.map R09_Deed.c l0)),(1,.sl 1 (List.map eI picks1)),(5,.bool x1),(6,.ptr 0 0 0),(7,.ptr 0 1 0),(8,.loc 0 2 8 0 l7.length l7.length),(9,.int .i64 i5),(10,.int .i64 i6)],[(0,.box ([.sl 64 (List.map (Vec.c (n:=2) (Vec.c (n:=32) eU8)) s3.Pages),.sl 65 (List.map Write.c s3.Wait)])),(1,.box ([.sl 8 (List.map Record.c s4.Book.Records),.int .i64 s4.Area,.int .i64 s4.Epoch,.int .i64 s4.Used])),(2,.arr 25 8 (List.map Record.c l7))],[],3,Try.f9.ntmps⟩
noncomputable def Zaj.x0 (x1:Bool):Unit→St:=fun(_:Unit)=>⟨[(5,.bool x1)],[],[],1,Try.f9.ntmps⟩
def Zaj (k:Nat) (l0:(List R09_Deed)) (picks1:(List Int)):Option (Bool):=
 (ZhD k).bind fun x1=>
 (Zf7 k).bind fun x2=>
 (whl (Zaj.b0 k l0 picks1) k (x2.1,x2.2,0,0,[])).bind fun r49=>match r49 with
 |.next _=>none
 |.ret v_=>some v_
 |.brk _=>
  some x1
theorem Zh5 (k:Nat) (l0:(List R09_Deed)) (picks1:(List Int)) (r:Bool) (h0:Zaj k l0 picks1=some r):Za0 Try.prog 9 [.sl 7 (List.map R09_Deed.c l0),.sl 1 (List.map eI picks1)] (fun y=>y=.bool r):=by
 refine PB (fn:=Try.f9) (sc:=F9.c) ?_
 refine rS ?_
 simp only[Zaj]at h0
 try simp only[F9.c,go_sem]
 obtain⟨x1,yx1,h0⟩:=bs h0
 refine zc0 (Zlo k _ yx1) ?_ (by first|rfl|(simp[AV.refsL,AV.refs,AV.scal,AV.leaf];done)|simp[AV.refsL,AV.refs,AV.scal,AV.leaf,go_sem]) ?_
 try simp only[go_sem]
 try simp only[go_sem]
 obtain⟨x2,yx2,h0⟩:=bs h0
 refine zc0 (ZhU k _ yx2) ?_ (by first|rfl|(simp[AV.refsL,AV.refs,AV.scal,AV.leaf];done)|simp[AV.refsL,AV.refs,AV.scal,AV.leaf,go_sem]) ?_
 try simp only[go_sem]
 try simp only[go_sem]
 obtain⟨r49,yr49,h0⟩:=bs h0
 refine Zay yr49 (Zaj.h0 l0 picks1 x1) (Zaj.x0 x1) ?_ ?_ ?_
 refine Za7.go [0,1,5,6,7,8,9,10] [112,128,176] rfl ?_
 try simp only[Zaj.h0,go_sem]
 rintro⟨s3,s4,i5,i6,l7⟩ x_1 Bk1 Br1 h1 hnext1 hbrk1 hret1
 refine rS ?_
 simp only[Zaj.b0]at h1
 try simp only[F9.s0,Zaj.h0,go_sem]
 refine Zab h1 ?_ ?_<;>intro c8 h1
 try simp only[c8,go_sem]
 refine Zab h1 ?_ ?_<;>intro c9 h1
 try simp only[c9,c8,go_sem]
 obtain⟨r14,yr14,h1⟩:=bs h1
 refine ZmA yr14 (Zaj.y4 l0 picks1 x1 s3 s4 i5 i6 l7) ?_ ?_
 intro Br2 h2 hbrk2 hret2
 refine rS ?_
 simp only[Zaj.j4]at h2
 try simp only[c8,c9,go_sem]
 refine Zab h2 ?_ ?_<;>intro c11 h2
 try simp only[c11,c8,c9,go_sem]
 refine Zab h2 ?_ ?_<;>intro c12 h2
 try simp only[c12,c8,c9,c11,go_sem]
 obtain⟨x13,yx13,h2⟩:=bs h2
 try simp only[aa yx13,c8,c9,c11,c12,go_sem]
 refine Zaf (hbrk2 _ _ (oi h2).symm ?_)
 refine Za7.go [0,1,5,6,7,8,9,10,11] [0,1,2,163] rfl ?_
 try simp only[Zaj.y4,c8,c9,c11,c12,aa yx13,go_sem]
 try simp only[c12,c8,c9,c11,go_sem]
 refine Zaf (hbrk2 _ _ (oi h2).symm ?_)
 refine Za7.go [0,1,5,6,7,8,9,10,11] [0,1,2,163] rfl ?_
 try simp only[Zaj.y4,c8,c9,c11,c12,go_sem]
 try simp only[c11,c8,c9,go_sem]
 refine Zaf (hbrk2 _ _ (oi h2).symm ?_)
 refine Za7.go [0,1,5,6,7,8,9,10,11] [0,1,2,163] rfl ?_
 try simp only[Zaj.y4,c8,c9,c11,go_sem]
 rintro s10 hr_
 subst hr_
 simp only at h1
 refine rS ?_
 try simp only[Zaj.y4,c8,c9,go_sem]
 obtain⟨x15,yx15,h1⟩:=bs h1
 refine zc0 (Zc4 k _ _ _ yx15) ?_ (by first|rfl|(simp[AV.refsL,AV.refs,AV.scal,AV.leaf];done)|simp[AV.refsL,AV.refs,AV.scal,AV.leaf,go_sem]) ?_
 try simp only[c8,c9,go_sem]
 try simp only[c8,c9,go_sem]
 refine Zab h1 ?_ ?_<;>intro c16 h1
 try simp only[c16,c8,c9,go_sem]
 obtain⟨x17,yx17,h1⟩:=bs h1
 refine zc0 (Zkk k _ _ yx17) ?_ (by first|rfl|(simp[AV.refsL,AV.refs,AV.scal,AV.leaf];done)|simp[AV.refsL,AV.refs,AV.scal,AV.leaf,go_sem]) ?_
 try simp only[c8,c9,c16,go_sem]
 try simp only[c8,c9,c16,go_sem]
 refine Zaf (hnext1 _ _ (oi h1).symm ?_)
 refine Za7.go [0,1,5,6,7,8,9,10] [0,1,2] rfl ?_
 try simp only[Zaj.h0,c8,c9,c16,go_sem]
 try simp only[c16,c8,c9,go_sem]
 refine Zab h1 ?_ ?_<;>intro c18 h1
 try simp only[c18,c8,c9,c16,go_sem]
 obtain⟨x19,yx19,h1⟩:=bs h1
 refine zc0 (Zkj k _ _ _ yx19) ?_ (by first|rfl|(simp[AV.refsL,AV.refs,AV.scal,AV.leaf];done)|simp[AV.refsL,AV.refs,AV.scal,AV.leaf,go_sem]) ?_
 try simp only[c8,c9,c16,c18,go_sem]
 try simp only[c8,c9,c16,c18,go_sem]
 refine Zab h1 ?_ ?_<;>intro c20 h1
 try simp only[c20,c8,c9,c16,c18,go_sem]
 refine Zab h1 ?_ ?_<;>intro c21 h1
 try simp only[c21,c8,c9,c16,c18,c20,go_sem]
 obtain⟨x22,yx22,h1⟩:=bs h1
 refine zc0 (Zgx k _ _ _ _ yx22) ?_ (by first|rfl|(simp[AV.refsL,AV.refs,AV.scal,AV.leaf];done)|simp[AV.refsL,AV.refs,AV.scal,AV.leaf,go_sem]) ?_
 try simp only[c8,c9,c16,c18,c20,c21,go_sem]
 try simp only[c8,c9,c16,c18,c20,c21,go_sem]
 refine Zab h1 ?_ ?_<;>intro c23 h1
 have c23:=ZaY c23
 try simp only[c23,c8,c9,c16,c18,c20,c21,go_sem]
 obtain rfl:=hret1 _ (oi h1).symm
 simp only at h0
 obtain rfl:=oi h0
 refine Zad rfl ?_
 try simp only[F9.rs,c8,c9,c16,c18,c20,c21,c23,go_sem]
 have c23:=ZaX c23
 try simp only[c23,c8,c9,c16,c18,c20,c21,go_sem]
 obtain⟨x24,yx24,h1⟩:=bs h1
 try simp only[aa yx24,c8,c9,c16,c18,c20,c21,c23,go_sem]
 refine Zaf (hnext1 _ _ (oi h1).symm ?_)
 refine Za7.go [0,1,5,6,7,8,9,10] [0,1,2] rfl ?_
 try simp only[Zaj.h0,c8,c9,c16,c18,c20,c21,c23,aa yx24,go_sem]
 try simp only[c21,c8,c9,c16,c18,c20,go_sem]
 obtain rfl:=hret1 _ (oi h1).symm
 simp only at h0
 obtain rfl:=oi h0
 refine Zad rfl ?_
 try simp only[F9.rs,c8,c9,c16,c18,c20,c21,go_sem]
 try simp only[c20,c8,c9,c16,c18,go_sem]
 obtain rfl:=hret1 _ (oi h1).symm
 simp only at h0
 obtain rfl:=oi h0
 refine Zad rfl ?_
 try simp only[F9.rs,c8,c9,c16,c18,c20,go_sem]
 try simp only[c18,c8,c9,c16,go_sem]
 refine Zab h1 ?_ ?_<;>intro c25 h1
 try simp only[c25,c8,c9,c16,c18,go_sem]
 obtain⟨x26,yx26,h1⟩:=bs h1
 refine zc0 (Zd2 k _ _ _ yx26) ?_ (by first|rfl|(simp[AV.refsL,AV.refs,AV.scal,AV.leaf];done)|simp[AV.refsL,AV.refs,AV.scal,AV.leaf,go_sem]) ?_
 try simp only[c8,c9,c16,c18,c25,go_sem]
 try simp only[c8,c9,c16,c18,c25,go_sem]
 obtain⟨x27,yx27,h1⟩:=bs h1
 refine zc0 (ZdQ k _ _ yx27) ?_ (by first|rfl|(simp[AV.refsL,AV.refs,AV.scal,AV.leaf];done)|simp[AV.refsL,AV.refs,AV.scal,AV.leaf,go_sem]) ?_
 try simp only[c8,c9,c16,c18,c25,go_sem]
 try simp only[c8,c9,c16,c18,c25,go_sem]
 refine Zab h1 ?_ ?_<;>intro c28 h1
 have c28:=ZaY c28
 try simp only[c28,c8,c9,c16,c18,c25,go_sem]
 obtain rfl:=hret1 _ (oi h1).symm
 simp only at h0
 obtain rfl:=oi h0
 refine Zad rfl ?_
 try simp only[F9.rs,c8,c9,c16,c18,c25,c28,go_sem]
 have c28:=ZaX c28
 try simp only[c28,c8,c9,c16,c18,c25,go_sem]
 refine Zab h1 ?_ ?_<;>intro c29 h1
 have c29:=ZaY c29
 try simp only[c29,c8,c9,c16,c18,c25,c28,go_sem]
 refine Zab h1 ?_ ?_<;>intro c30 h1
 have c30:=ZaY c30
 try simp only[c30,c8,c9,c16,c18,c25,c28,c29,go_sem]
 obtain⟨x31,yx31,h1⟩:=bs h1
 refine zc0 (Zgx k _ _ _ _ yx31) ?_ (by first|rfl|(simp[AV.refsL,AV.refs,AV.scal,AV.leaf];done)|simp[AV.refsL,AV.refs,AV.scal,AV.leaf,go_sem]) ?_
 try simp only[c8,c9,c16,c18,c25,c28,c29,c30,go_sem]
 try simp only[c8,c9,c16,c18,c25,c28,c29,c30,go_sem]
 refine Zab h1 ?_ ?_<;>intro c32 h1
 have c32:=ZaY c32
 try simp only[c32,c8,c9,c16,c18,c25,c28,c29,c30,go_sem]
 obtain rfl:=hret1 _ (oi h1).symm
 simp only at h0
 obtain rfl:=oi h0
 refine Zad rfl ?_
 try simp only[F9.rs,c8,c9,c16,c18,c25,c28,c29,c30,c32,go_sem]
 have c32:=ZaX c32
 try simp only[c32,c8,c9,c16,c18,c25,c28,c29,c30,go_sem]
 obtain⟨u33,yu33,h1⟩:=bs h1
 have lyu33:=Zvp yu33
 try simp only[go_sem]at lyu33
 try simp only[ZoW yu33,lyu33,c8,c9,c16,c18,c25,c28,c29,c30,c32,go_sem]
 obtain⟨u35,yu35,h1⟩:=bs h1
 have kq34:(l7.take x27.2.1.Book.Records.length).length=x27.2.1.Book.Records.length:=by simp only[List.length_take,List.length_drop]<;>omega
 try simp only[ZgM yu35,Zf8 Record.c l7 x27.2.1.Book.Records.length,kq34,c8,c9,c16,c18,c25,c28,c29,c30,c32,lyu33,go_sem]
 refine Zaf (hnext1 _ _ (oi h1).symm ?_)
 refine Za7.go [0,1,5,6,7,8,9,10] [0,1,820] rfl ?_
 try simp only[Zaj.h0,c8,c9,c16,c18,c25,c28,c29,c30,c32,lyu33,Zf8 Record.c l7 x27.2.1.Book.Records.length,kq34,go_sem]
 have c30:=ZaX c30
 try simp only[c30,c8,c9,c16,c18,c25,c28,c29,go_sem]
 obtain rfl:=hret1 _ (oi h1).symm
 simp only at h0
 obtain rfl:=oi h0
 refine Zad rfl ?_
 try simp only[F9.rs,c8,c9,c16,c18,c25,c28,c29,c30,go_sem]
 have c29:=ZaX c29
 try simp only[c29,c8,c9,c16,c18,c25,c28,go_sem]
 obtain rfl:=hret1 _ (oi h1).symm
 simp only at h0
 obtain rfl:=oi h0
 refine Zad rfl ?_
 try simp only[F9.rs,c8,c9,c16,c18,c25,c28,c29,go_sem]
 try simp only[c25,c8,c9,c16,c18,go_sem]
 refine Zat Za9 Zau 1000 ?_
 try simp only[c8,c9,c16,c18,c25,go_sem]
 obtain⟨x37,yx37,h1⟩:=bs h1
 refine Zmb 1000 [(0,2)] (Zji k _ _ yx37) ?_ rfl ⟨Lf.map (Lf.vec ZvW) _,trivial⟩ ?_
 try simp only[boxF,only,c8,c9,c16,c18,c25,go_sem]
 try simp only[c8,c9,c16,c18,c25,go_sem]
 obtain⟨l38,yl38,h1⟩:=bs h1
 have eyl38:=ZcJ (Vec.c (n:=5) eI) yl38
 have tyl38:=Zcf (Vec.c (n:=5) eI) yl38
 have nyl38:=Zcz yl38
 have myl38:=Zce yl38
 try simp only[c8,c9,c16,c18,c25,go_sem]at eyl38 tyl38 nyl38 myl38
 try simp only[myl38,eyl38,c8,c9,c16,c18,c25,nyl38,tyl38,go_sem]
 obtain⟨x39,yx39,h1⟩:=bs h1
 refine ZhP 1000 [164] [] (Zb7.of_pcall (ZiD k _ _ _ yx39) ?_) ?_ rfl ?_
 simp only[AV.frz,AV.frzL,go_sem]
 try simp only[c8,c9,c16,c18,c25,eyl38,nyl38,tyl38,go_sem]
 try simp only[c8,c9,c16,c18,c25,eyl38,nyl38,tyl38,go_sem]
 refine ZaB ⟨ZaC (by simp only[ZdN,List.reverse_cons,List.reverse_nil,List.nil_append,List.cons_append,List.map_cons,List.map_nil,List.append_nil];rfl) (by first|decide +kernel|rfl),Zag Za9 1000 _ _ ?_⟩
 try simp only[c8,c9,c16,c18,c25,eyl38,nyl38,tyl38,go_sem]
 obtain⟨x40,yx40,h1⟩:=bs h1
 try simp only[aa yx40,c8,c9,c16,c18,c25,eyl38,nyl38,tyl38,go_sem]
 obtain⟨x41,yx41,h1⟩:=bs h1
 refine zc0 (ZjZ k _ _ _ yx41) ?_ (by first|rfl|(simp[AV.refsL,AV.refs,AV.scal,AV.leaf];done)|simp[AV.refsL,AV.refs,AV.scal,AV.leaf,go_sem]) ?_
 try simp only[c8,c9,c16,c18,c25,eyl38,nyl38,tyl38,aa yx40,go_sem]
 try simp only[c8,c9,c16,c18,c25,eyl38,nyl38,tyl38,aa yx40,go_sem]
 refine Zab h1 ?_ ?_<;>intro c42 h1
 try simp only[c42,c8,c9,c16,c18,c25,eyl38,nyl38,tyl38,aa yx40,go_sem]
 obtain⟨x43,yx43,h1⟩:=bs h1
 refine zc0 (Zda k _ _ _ _ yx43) ?_ (by first|rfl|(simp[AV.refsL,AV.refs,AV.scal,AV.leaf];done)|simp[AV.refsL,AV.refs,AV.scal,AV.leaf,go_sem]) ?_
 try simp only[c8,c9,c16,c18,c25,eyl38,nyl38,tyl38,aa yx40,c42,go_sem]
 try simp only[c8,c9,c16,c18,c25,eyl38,nyl38,tyl38,aa yx40,c42,go_sem]
 refine Zab h1 ?_ ?_<;>intro c44 h1
 have c44:=ZaY c44
 try simp only[c44,c8,c9,c16,c18,c25,eyl38,nyl38,tyl38,aa yx40,c42,go_sem]
 obtain rfl:=hret1 _ (oi h1).symm
 simp only at h0
 obtain rfl:=oi h0
 refine Zad rfl ?_
 try simp only[F9.rs,c8,c9,c16,c18,c25,eyl38,nyl38,tyl38,aa yx40,c42,c44,go_sem]
 have c44:=ZaX c44
 try simp only[c44,c8,c9,c16,c18,c25,eyl38,nyl38,tyl38,aa yx40,c42,go_sem]
 obtain⟨l45,yl45,h1⟩:=bs h1
 have eyl45:=ZcJ Record.c yl45
 have tyl45:=Zcf Record.c yl45
 have nyl45:=Zcz yl45
 have myl45:=Zce yl45
 try simp only[c8,c9,c16,c18,c25,eyl38,nyl38,tyl38,aa yx40,c42,c44,go_sem]at eyl45 tyl45 nyl45 myl45
 try simp only[myl45,eyl45,c8,c9,c16,c18,c25,eyl38,nyl38,tyl38,aa yx40,c42,c44,nyl45,tyl45,go_sem]
 refine Zaf (hnext1 _ _ (oi h1).symm ?_)
 refine Za7.go [0,1,5,6,7,8,9,10] [0,1,2] rfl ?_
 try simp only[Zaj.h0,c8,c9,c16,c18,c25,eyl38,nyl38,tyl38,aa yx40,c42,c44,eyl45,nyl45,tyl45,go_sem]
 try simp only[c42,c8,c9,c16,c18,c25,eyl38,nyl38,tyl38,aa yx40,go_sem]
 obtain⟨x46,yx46,h1⟩:=bs h1
 refine zc0 (Zda k _ _ _ _ yx46) ?_ (by first|rfl|(simp[AV.refsL,AV.refs,AV.scal,AV.leaf];done)|simp[AV.refsL,AV.refs,AV.scal,AV.leaf,go_sem]) ?_
 try simp only[c8,c9,c16,c18,c25,eyl38,nyl38,tyl38,aa yx40,c42,go_sem]
 try simp only[c8,c9,c16,c18,c25,eyl38,nyl38,tyl38,aa yx40,c42,go_sem]
 refine Zab h1 ?_ ?_<;>intro c47 h1
 have c47:=ZaY c47
 try simp only[c47,c8,c9,c16,c18,c25,eyl38,nyl38,tyl38,aa yx40,c42,go_sem]
 obtain rfl:=hret1 _ (oi h1).symm
 simp only at h0
 obtain rfl:=oi h0
 refine Zad rfl ?_
 try simp only[F9.rs,c8,c9,c16,c18,c25,eyl38,nyl38,tyl38,aa yx40,c42,c47,go_sem]
 have c47:=ZaX c47
 try simp only[c47,c8,c9,c16,c18,c25,eyl38,nyl38,tyl38,aa yx40,c42,go_sem]
 obtain⟨l48,yl48,h1⟩:=bs h1
 have eyl48:=ZcJ Record.c yl48
 have tyl48:=Zcf Record.c yl48
 have nyl48:=Zcz yl48
 have myl48:=Zce yl48
 try simp only[c8,c9,c16,c18,c25,eyl38,nyl38,tyl38,aa yx40,c42,c47,go_sem]at eyl48 tyl48 nyl48 myl48
 try simp only[myl48,eyl48,c8,c9,c16,c18,c25,eyl38,nyl38,tyl38,aa yx40,c42,c47,nyl48,tyl48,go_sem]
 refine Zaf (hnext1 _ _ (oi h1).symm ?_)
 refine Za7.go [0,1,5,6,7,8,9,10] [0,1,2] rfl ?_
 try simp only[Zaj.h0,c8,c9,c16,c18,c25,eyl38,nyl38,tyl38,aa yx40,c42,c47,eyl48,nyl48,tyl48,go_sem]
 try simp only[c9,c8,go_sem]
 refine Zaf (hbrk1 _ _ (oi h1).symm ?_)
 refine Za7.go [5] [] rfl ?_
 try simp only[Zaj.x0,c8,c9,go_sem]
 try simp only[c8,go_sem]
 refine Zaf (hbrk1 _ _ (oi h1).symm ?_)
 refine Za7.go [5] [] rfl ?_
 try simp only[Zaj.x0,c8,go_sem]
 rintro _ hr_
 subst hr_
 simp only at h0
 refine rS ?_
 try simp only[Zaj.x0,go_sem]
 obtain rfl:=oi h0
 refine Zad rfl ?_
 try simp only[F9.rs,go_sem]
end Go.Abs
namespace Go.Abs
open Go Go.Proofs Go.RowKit
set_option maxRecDepth 20000
def qB:Nat:=reachBytes
theorem Zux:qB≤140737488351232:=by decide
theorem Zgo:Zd0 qB Try.prog 3 eI Zj8:=Zd0.int Try.underlying3
theorem ZqX:Zd0 qB Try.prog 79 (Vec.c (n:=5) eI) (fun x:(Vec 5 Int)=>∀ a∈x.l,Zj8 a):=(Zd0.array Try.underlying79 (by kernel_rfl) (Zdh.cons (off:=0) (sz:=1) (off':=1) (tot:=5) rfl (by kernel_rfl) rfl Zgo (Zdh.cons (off:=1) (sz:=1) (off':=2) (tot:=5) rfl (by kernel_rfl) rfl Zgo (Zdh.cons (off:=2) (sz:=1) (off':=3) (tot:=5) rfl (by kernel_rfl) rfl Zgo (Zdh.cons (off:=3) (sz:=1) (off':=4) (tot:=5) rfl (by kernel_rfl) rfl Zgo (Zdh.cons (off:=4) (sz:=1) (off':=5) (tot:=5) rfl (by kernel_rfl) rfl Zgo (Zdh.nil (off:=5) (tot:=5) (by decide)))))))).as (fun p=>⟨[p.1,p.2.1,p.2.2.1,p.2.2.2.1,p.2.2.2.2.1],rfl⟩) (fun _=>rfl) (fun _ h=>by intro a ha;simp only[List.mem_cons,List.not_mem_nil,or_false]at ha;rcases ha with rfl|rfl|rfl|rfl|rfl;exact h.1;exact h.2.1;exact h.2.2.1;exact h.2.2.2.1;exact h.2.2.2.2.1)
theorem Zm0:Zd0 qB Try.prog 63 (eL 1 eI) (fun l=>l.length≤Go.maxLen∧l.length*8≤qB∧∀ a∈l,Zj8 a):=Zd0.slice Try.underlying63 (by kernel_rfl) (by kernel_rfl) (by decide) Zgo
def R09_Deed.q (x:R09_Deed):Prop:=Zj8 x.Kind∧(fun x:(Vec 5 Int)=>∀ a∈x.l,Zj8 a) x.Record∧(fun l=>l.length≤Go.maxLen∧l.length*8≤qB∧∀ a∈l,Zj8 a) x.Picks
theorem ZqY:Zd0 qB Try.prog 81 R09_Deed.c R09_Deed.q:=(Zd0.struct Try.underlying81 (by kernel_rfl) (Zdh.cons (off:=0) (sz:=1) (off':=1) (tot:=7) rfl (by kernel_rfl) rfl Zgo (Zdh.cons (off:=1) (sz:=5) (off':=6) (tot:=7) rfl (by kernel_rfl) rfl ZqX (Zdh.cons (off:=6) (sz:=1) (off':=7) (tot:=7) rfl (by kernel_rfl) rfl Zm0 (Zdh.nil (off:=7) (tot:=7) (by decide)))))).as (fun p=>⟨p.1,p.2.1,p.2.2.1⟩) (fun _=>rfl) (fun _ h=>⟨h.1,h.2.1,h.2.2.1⟩)
theorem ZqW:Zd0 qB Try.prog 33 (eL 7 R09_Deed.c) (fun l=>l.length≤Go.maxLen∧l.length*72≤qB∧∀ a∈l,R09_Deed.q a):=Zd0.slice Try.underlying33 (by kernel_rfl) (by kernel_rfl) (by decide) ZqY
end Go.Abs
namespace Go.Abs
open Go
set_option linter.unusedVariables false
theorem Ziw {i d:Nat}:(List.range' i (d+1))=i::List.range' (i+1) d:=by
 rw[List.range'_succ]
theorem Zlf {R:Type}{body:Int→Option (Stp Int Unit R)}{n:Nat}{f:Nat→Option R} (hn:n≤9223372036854775807) {k:Nat} (hk:n<k)
  (h1:∀ i,i<n→body (i:Int)=some (match f i with|some r=>.ret r|none=>.next (w64 ((i:Int)+1)))) (h2:body (n:Int)=some (.brk ())):
  whl body k 0=some (match (List.range n).findSome? f with|some r=>.ret r|none=>.brk ()):=by
 have h:=Ztt (body:=body) (n:=n) (g:=f) hn h1 h2 k n 0 (by omega) hk
 rw[Int.natCast_zero]at h
 rw[h]
 have key:∀ d i,Zt0 f i d=(List.range' i d).findSome? f:=by
  intro d
  induction d with
  |zero=>intro i;rfl
  |succ d ih=>
   intro i
   rw[Ziw,List.findSome?_cons,Zt0,ih]
   cases f i<;>rfl
 rw[key,List.range_eq_range']
 cases (List.range' 0 n).findSome? f<;>rfl
theorem Zrk {R:Type}{body:Int→Option (Stp Int Unit R)}{n:Nat}{p:Nat→Bool}{c:R} (hn:n≤9223372036854775807) {k:Nat} (hk:n<k)
  (h1:∀ i,i<n→body (i:Int)=some (bif p i then .next (w64 ((i:Int)+1)) else .ret c)) (h2:body (n:Int)=some (.brk ())):
  whl body k 0=some (bif (List.range n).all p then .brk () else .ret c):=by
 have h:=Zlf (body:=body) (n:=n) (f:=fun i=>bif p i then none else some c) hn hk (fun i hi=>by rw[h1 i hi];cases p i<;>rfl) h2
 rw[h]
 have:∀ l:List Nat,l.findSome? (fun i=>bif p i then none else some c)=bif l.all p then none else some c:=by
  intro l
  induction l with
  |nil=>rfl
  |cons x l ih=>
   rw[List.findSome?_cons,List.all_cons]
   cases hp:p x with
   |true=>simpa using ih
   |false=>simp
 rw[this]
 cases (List.range n).all p<;>rfl
theorem ZjQ {α R:Type}{l:List α}{body:Int→Option (Stp Int Unit R)}{p:α→Bool}{c:R} (hn:l.length≤9223372036854775807) {k:Nat} (hk:l.length<k)
  (h1:∀ (i:Nat) x,l[i]?=some x→body (i:Int)=some (bif p x then .next (w64 ((i:Int)+1)) else .ret c)) (h2:body (l.length:Int)=some (.brk ())):
  whl body k 0=some (bif l.all p then .brk () else .ret c):=by
 have h:=Zrl (body:=body) (l:=l) (f:=fun i=>bif p i then none else some c) hn hk (fun i x hi=>by rw[h1 i x hi];cases p x<;>rfl) h2
 rw[h]
 have:l.findSome? (fun i=>bif p i then none else some c)=bif l.all p then none else some c:=by
  clear h h1 h2 hn hk
  induction l with
  |nil=>rfl
  |cons x l ih=>
   rw[List.findSome?_cons,List.all_cons]
   cases hp:p x with
   |true=>simpa using ih
   |false=>simp
 rw[this]
 cases l.all p<;>rfl
theorem ZiA {S R τ:Type}{n:Nat}{body:τ→Option (Stp τ S R)} (mk:Int→S→τ) (f:S→Nat→S) (Inv:Nat→S→Prop) (hn:n≤9223372036854775807) {k:Nat} (hk:n<k) {s0:S} (h0:Inv 0 s0)
  (h1:∀ i s,i<n→Inv i s→body (mk (i:Int) s)=some (.next (mk (w64 ((i:Int)+1)) (f s i)))∧Inv (i+1) (f s i)) (h2:∀ s,Inv n s→body (mk (n:Int) s)=some (.brk s)):
  whl body k (mk 0 s0)=some (.brk ((List.range n).foldl f s0))∧Inv n ((List.range n).foldl f s0):=by
 have h:=ZeM (l:=List.range n) (body:=body) mk f Inv (by simpa using hn) (k:=k) (by simpa using hk) h0 (fun i x s hx hI=>by
  have hi:i<n:=by have:=(gS.1 hx).1;simpa using this
  have e:x=i:=by have:=hx;rw[List.getElem?_range hi]at this;exact(oi this).symm
  subst e
  exact h1 x s hi hI) (fun s hI=>by have:=h2 s (by simpa using hI);simpa using this)
 exact⟨h.1,by simpa using h.2⟩
theorem Zih {α:Type} (g:Nat→α):∀ (l:List Nat) (s:List α),l.foldl (fun s i=>s++[g i]) s=s++l.map g
 |[],s=>by simp
 |x::l,s=>by simp[Zih g l]
end Go.Abs
namespace Go.Abs
open Go
set_option linter.unusedVariables false
end Go.Abs
namespace Go.Abs
open Go
end Go.Abs
namespace Go.Abs
open Go
set_option linter.unusedVariables false
def Byt (l:List Int):Prop:=∀ x∈l,0≤x∧x<256
theorem Byt.take {l:List Int} (h:Byt l) (n:Nat):Byt (l.take n):=fun x hx=>h x (List.mem_of_mem_take hx)
theorem Byt.drop {l:List Int} (h:Byt l) (n:Nat):Byt (l.drop n):=fun x hx=>h x (List.mem_of_mem_drop hx)
theorem ZjR (x:Int):IntKind.u8.wrap x=x % 256:=by
 simp only[IntKind.wrap,IntKind.bits,IntKind.signed]
 simp
theorem Ztg {n b:Int} (h0:0≤n) (h1:n<2 ^ 40) (h2:0≤b) (h3:b<256):bOr .i64 (w64 (n*2 ^ 8)) (w64 b)=n*256+b:=by
 have e8:((2:Int) ^ 8)=256:=by decide
 have e40:((2:Int) ^ 40)=1099511627776:=by decide
 rw[e40]at h1
 rw[e8,Za8 (n:=n*256) (by omega) (by omega),Za8 (n:=b) (by omega) (by omega)]
 obtain⟨m,rfl⟩:=Int.eq_ofNat_of_zero_le h0
 obtain⟨c,rfl⟩:=Int.eq_ofNat_of_zero_le h2
 unfold bOr
 have t1:(BitVec.ofInt IntKind.i64.bits ((m:Int)*256)).toNat=m*256:=by
  rw[BitVec.toNat_ofInt]
  have:((m:Int)*256) % ((2 ^ IntKind.i64.bits:Nat):Int)=(m:Int)*256:=by
   rw[show ((2 ^ IntKind.i64.bits:Nat):Int)=18446744073709551616 from rfl];omega
  rw[this];omega
 have t2:(BitVec.ofInt IntKind.i64.bits (c:Int)).toNat=c:=by
  rw[BitVec.toNat_ofInt]
  have:(c:Int) % ((2 ^ IntKind.i64.bits:Nat):Int)=(c:Int):=by
   rw[show ((2 ^ IntKind.i64.bits:Nat):Int)=18446744073709551616 from rfl];omega
  rw[this];omega
 rw[BitVec.toNat_or,t1,t2]
 have:m*256 ||| c=m*256+c:=by
  have:=Nat.shiftLeft_add_eq_or_of_lt (b:=c) (i:=8) (by omega) m
  rw[Nat.shiftLeft_eq]at this
  exact this.symm
 rw[this]
 exact Za8 (by omega) (by omega)
def rdA (n:Int) (l:List Int):Int:=l.foldl (fun n b=>n*256+b) n
def rdV (l:List Int):Int:=rdA 0 l
theorem ZkQ:∀ {l:List Int}{n:Int}{w:Nat},Byt l→0≤n→n<256 ^ w→0≤rdA n l∧rdA n l<256 ^ (w+l.length)
 |[],n,w,_,h0,h1=>⟨h0,h1⟩
 |b::l,n,w,hb,h0,h1=>by
  have hb0:=hb b (by simp)
  have h2:n*256+b<256 ^ (w+1):=by
   rw[Int.pow_succ];omega
  have:=ZkQ (l:=l) (n:=n*256+b) (w:=w+1) (fun x hx=>hb x (by simp[hx])) (by omega) h2
  rw[show w+(b::l).length=w+1+l.length by simp;omega]
  exact this
theorem ZiZ {l:List Int} (hb:Byt l):0≤rdV l∧rdV l<256 ^ l.length:=by
 have:=ZkQ (l:=l) (n:=0) (w:=0) hb (by omega) (by decide)
 unfold rdV;simpa using this
theorem Ztm {R:Type}{l:List Int} (hb:Byt l) (hl:l.length≤5) {body:Int×Int→Option (Stp (Int×Int) Int R)}{k:Nat} (hk:10<k)
  (h1:∀ (i:Nat) x s,l[i]?=some x→body (s,(i:Int))=some (.next (bOr .i64 (w64 (s*2 ^ 8)) (w64 x),w64 ((i:Int)+1)))) (h2:∀ s,body (s,(l.length:Int))=some (.brk s)):
  whl body k (0,0)=some (.brk (rdV l)):=by
 have h:=ZeM (l:=l) (body:=body) (fun i s=>(s,i)) (fun s x=>s*256+x) (fun i s=>0≤s∧s<256 ^ i) (by omega) (k:=k) (by omega) (s0:=0) (by simp) (fun i x s hx hs=>by
  have hi:=(gS.1 hx).1
  have hx1:=hb x (List.mem_of_getElem? hx)
  have hs2:s<2 ^ 40:=by
   have:(256:Int) ^ i≤256 ^ 5:=by
    have:i=0∨i=1∨i=2∨i=3∨i=4:=by omega
    rcases this with rfl|rfl|rfl|rfl|rfl<;>decide
   have e:(256:Int) ^ 5=2 ^ 40:=by decide
   omega
  refine⟨?_,by omega,by rw[Int.pow_succ];omega⟩
  rw[h1 i x s hx,Ztg hs.1 hs2 hx1.1 hx1.2]) (fun s hs=>h2 s)
 exact h.1
theorem ZlS (s:ByteArray):ZlR (s.data.toList.map fun c=>(c.toNat:Int))=s:=by
 unfold ZlR
 rw[List.map_map]
 have:((fun n:Int=>UInt8.ofNat n.toNat) ∘ fun c:UInt8=>(c.toNat:Int))=id:=by
  funext c;simp
 rw[this,List.map_id]
end Go.Abs
namespace Go.Abs
open Go Go.Proofs
set_option maxRecDepth 20000
set_option linter.unusedVariables false
set_option linter.unusedSimpArgs false
def be (n:Int):Nat→List Int
 |0=>[]
 |w+1=>IntKind.u8.wrap (Int.fdiv n (2 ^ (8*w)))::be n w
theorem ZeN (n:Int):∀ w,(be n w).length=w
 |0=>rfl
 |w+1=>by simp[be,ZeN n w]
theorem ZoO {body:Int×List Int→Option (Stp (Int×List Int) (List Int) (List Int))}{n:Int}
  (hb:∀ i l,body (i,l)=bif decide ((0:Int)≤i) then (sh? (w64 (8*i))).bind fun _=>(ZdM 1 l (IntKind.u8.wrap (Int.fdiv n (2 ^ (min (Int.toNat (w64 (8*i))) 64))))).bind fun l'=>some (.next (w64 (i - 1),l')) else some (.brk l)):
  ∀ (w m:Nat) (l:List Int),w≤8→l.length+w≤1000000→w<m→whl body m (w64 ((w:Int) - 1),l)=some (.brk (l++be n w)):=by
 intro w
 induction w with
 |zero=>
  intro m l _ _ hm
  obtain⟨m,rfl⟩:∃ m',m=m'+1:=⟨m - 1,by omega⟩
  have e:w64 (((0:Nat):Int) - 1)=-1:=by rw[Za8]<;>simp
  simp only[whl,hb,e,be,List.append_nil,(by decide:decide ((0:Int)≤-1)=false),cond_false]
 |succ w ih=>
  intro m l hw hl hm
  obtain⟨m,rfl⟩:∃ m',m=m'+1:=⟨m - 1,by omega⟩
  have e:w64 (((w+1:Nat):Int) - 1)=w:=by rw[Za8]<;>omega
  have e8:w64 (8*(w:Int))=8*(w:Int):=by rw[Za8]<;>omega
  have et:min (Int.toNat (8*(w:Int))) 64=8*w:=by omega
  have hsh:sh? (8*(w:Int))=some ():=by unfold sh?;rw[if_neg (by omega)]
  have hp:ZdM 1 l (IntKind.u8.wrap (Int.fdiv n (2 ^ (8*w))))=some (l++[IntKind.u8.wrap (Int.fdiv n (2 ^ (8*w)))]):=ZeH (by omega) (by omega)
  have hd:decide ((0:Int)≤(w:Int))=true:=by simp
  simp only[whl,hb,e,e8,et,hsh,hd,cond_true,Option.bind_some,hp]
  rw[ih m _ (by omega) (by simp;omega) (by omega)]
  simp[be]
theorem ZoD {α:Type}{b:Nat}{l x:List α} (h:(l.length+x.length)*b≤140737488355328) (h2:l.length+x.length<4611686018427387904):ZmZ b l x=some (l++x):=by
 unfold ZmZ;rw[if_pos ⟨h,h2⟩]
def enc (r:Record):List Int:=be r.At.House 1++be r.At.No 2++be r.Kind 1++be r.Day 4++be r.Known 4++be r.Of.House 1++be r.Of.No 2++be (r.Text.size:Int) 1++ZfJ r.Text
theorem Zj3 (r:Record):(enc r).length=16+r.Text.size:=by
 simp only[enc,List.length_append,ZeN,Zcw]<;>omega
theorem Zjz {k:Nat} (n:Int) {w:Nat} (l:List Int) (wd:Int) (hwd:wd=w) (hw:w≤8) (hl:l.length+w≤1000000) (hk:w<k):whl (Zao.b1 k (⟨[n,wd],rfl⟩:Vec 2 Int)) k (w64 (wd - 1),l)=some (.brk (l++be n w)):=by
 subst hwd
 exact ZoO (n:=n) (fun i l=>by
  unfold Zao.b1
  have h:(⟨[n,(w:Int)],rfl⟩:Vec 2 Int).at? 0=some n:=rfl
  simp only[h,Option.bind_some]) w k l hw hl hk
theorem Zlz {k:Nat} (hk:20<k) {r:Record} (ht:r.Text.size≤1000):Zao k r=some (enc r):=by
 unfold Zao
 have one:∀ (n:Int) (l:List Int),l.length≤1000→whl (Zao.b1 k (⟨[n,1],rfl⟩:Vec 2 Int)) k (w64 (1 - 1),l)=some (.brk (l++be n 1)):=fun n l hl=>Zjz n (w:=1) l 1 rfl (by decide) (by omega) (by omega)
 have two:∀ (n:Int) (l:List Int),l.length≤1000→whl (Zao.b1 k (⟨[n,2],rfl⟩:Vec 2 Int)) k (w64 (2 - 1),l)=some (.brk (l++be n 2)):=fun n l hl=>Zjz n (w:=2) l 2 rfl (by decide) (by omega) (by omega)
 have four:∀ (n:Int) (l:List Int),l.length≤1000→whl (Zao.b1 k (⟨[n,4],rfl⟩:Vec 2 Int)) k (w64 (4 - 1),l)=some (.brk (l++be n 4)):=fun n l hl=>Zjz n (w:=4) l 4 rfl (by decide) (by omega) (by omega)
 have st:∀ (i:Int) (l:List Int) (n wd:Int) (l':List Int),i<8→at? [(⟨[r.At.House,1],rfl⟩:(Vec 2 Int)),(⟨[r.At.No,2],rfl⟩:(Vec 2 Int)),(⟨[r.Kind,1],rfl⟩:(Vec 2 Int)),(⟨[r.Day,4],rfl⟩:(Vec 2 Int)),(⟨[r.Known,4],rfl⟩:(Vec 2 Int)),(⟨[r.Of.House,1],rfl⟩:(Vec 2 Int)),(⟨[r.Of.No,2],rfl⟩:(Vec 2 Int)),(⟨[(r.Text.size:Int),1],rfl⟩:(Vec 2 Int))] i=some (⟨[n,wd],rfl⟩:Vec 2 Int)→
   whl (Zao.b1 k (⟨[n,wd],rfl⟩:Vec 2 Int)) k (w64 (wd - 1),l)=some (.brk l')→Zao.b0 k r (i,l)=some (.next (w64 (i+1),l')):=by
  intro i l n wd l' hi ha hw
  unfold Zao.b0
  have h1:(⟨[n,wd],rfl⟩:Vec 2 Int).at? 1=some wd:=rfl
  simp only[decide_eq_true hi,cond_true,ha,Option.bind_some,h1,hw]
 obtain⟨m,rfl⟩:∃ m,k=m+9:=⟨k - 9,by omega⟩
 have nx:∀ (q:Nat) (i:Int) (l l':List Int),Zao.b0 (m+9) r (i,l)=some (.next (w64 (i+1),l'))→whl (Zao.b0 (m+9) r) (q+1) (i,l)=whl (Zao.b0 (m+9) r) q (w64 (i+1),l'):=by
  intro q i l l' h
  simp only[whl,h]
 rw[nx (m+8) 0 _ _ (st 0 _ _ _ _ (by decide) rfl (one _ _ (by simp))),(by decide:w64 (0+1)=1),
  nx (m+7) 1 _ _ (st 1 _ _ _ _ (by decide) rfl (two _ _ (by (simp only[List.length_append,ZeN,List.length_nil])<;>omega))),(by decide:w64 (1+1)=2),
  nx (m+6) 2 _ _ (st 2 _ _ _ _ (by decide) rfl (one _ _ (by (simp only[List.length_append,ZeN,List.length_nil])<;>omega))),(by decide:w64 (2+1)=3),
  nx (m+5) 3 _ _ (st 3 _ _ _ _ (by decide) rfl (four _ _ (by (simp only[List.length_append,ZeN,List.length_nil])<;>omega))),(by decide:w64 (3+1)=4),
  nx (m+4) 4 _ _ (st 4 _ _ _ _ (by decide) rfl (four _ _ (by (simp only[List.length_append,ZeN,List.length_nil])<;>omega))),(by decide:w64 (4+1)=5),
  nx (m+3) 5 _ _ (st 5 _ _ _ _ (by decide) rfl (one _ _ (by (simp only[List.length_append,ZeN,List.length_nil])<;>omega))),(by decide:w64 (5+1)=6),
  nx (m+2) 6 _ _ (st 6 _ _ _ _ (by decide) rfl (two _ _ (by (simp only[List.length_append,ZeN,List.length_nil])<;>omega))),(by decide:w64 (6+1)=7),
  nx (m+1) 7 _ _ (st 7 _ _ _ _ (by decide) rfl (one _ _ (by (simp only[List.length_append,ZeN,List.length_nil])<;>omega))),(by decide:w64 (7+1)=8)]
 have hend:∀ l,whl (Zao.b0 (m+9) r) (m+1) (8,l)=some (.brk l):=fun l=>by
  have:Zao.b0 (m+9) r (8,l)=some (.brk l):=by
   unfold Zao.b0
   simp only[(by decide:decide ((8:Int)<8)=false),cond_false]
  simp only[whl,this]
 rw[hend]
 simp only[Option.bind_some]
 rw[ZoD (by (simp only[List.length_append,ZeN,Zcw,List.length_nil])<;>omega) (by (simp only[List.length_append,ZeN,Zcw,List.length_nil])<;>omega)]
 simp only[Option.bind_some,List.nil_append,enc]
end Go.Abs
namespace Go.Abs
open Go Go.Proofs
set_option maxRecDepth 20000
set_option linter.unusedVariables false
set_option linter.unusedSimpArgs false
def within (n lo hi:Int):Bool:=decide (lo≤n)&&decide (n≤hi)
theorem Zdc (k:Nat) (n lo hi:Int):ZaH k n lo hi=some (within n lo hi):=by
 unfold ZaH within
 cases decide (lo≤n)<;>rfl
def ZeP (p:Entry):Bool:=within p.House 0 5&&within p.No 0 9999
theorem Zj9 (k:Nat) (p:Entry):Zc6 k p=some (ZeP p):=by
 unfold Zc6 ZeP
 simp only[Zdc,Option.bind_some]
 cases within p.House 0 5<;>rfl
def Zq1 (x:Int):Bool:=!decide (x<32)&&!decide (126<x)
def Zlc (s:ByteArray):Bool:=!decide ((200:Int)<(s.size:Int))&&(ZfJ s).all Zq1
theorem Zu0 {s:ByteArray}{i:Nat}{x:Int} (h:(ZfJ s)[i]?=some x):Ztq s (i:Int)=some x:=by
 have hi:i<s.size:=by have:=(gS.1 h).1;rwa [Zcw]at this
 unfold Ztq
 rw[if_pos (by omega)]
 unfold ZfJ at h
 rw[List.getElem?_map,mS]at h
 obtain⟨c,h1,rfl⟩:=h
 simp[List.getD,h1]
theorem Zk7 {k:Nat} (hk:1000<k) (s:ByteArray):Za3 k s=some (Zlc s):=by
 unfold Za3 Zlc
 by_cases h:(200:Int)<(s.size:Int)
 ·simp[h]
 ·have hl:(ZfJ s).length≤200:=by rw[Zcw];omega
  have:=ZjQ (l:=ZfJ s) (body:=Za3.b0 k s) (p:=Zq1) (c:=false) (by omega) (k:=k) (by omega) (fun i x hx=>by
   have hi:i<s.size:=by have:=(gS.1 hx).1;rwa [Zcw]at this
   unfold Za3.b0 Zq1
   simp only[decide_eq_true (show ((i:Int)<(s.size:Int)) by omega),cond_true,Zu0 hx,Option.bind_some]
   cases decide (x<32)<;>cases decide (126<x)<;>rfl) (by
   unfold Za3.b0
   simp only[Zcw,(by simp:decide ((s.size:Int)<(s.size:Int))=false),cond_false])
  simp only[decide_eq_false h,cond_false,Bool.not_false,Bool.true_and]
  rw[this]
  cases (ZfJ s).all Zq1<;>rfl
def ZeV (r:Record):Bool:=
 ZeP r.At&&(within r.Kind 0 40&&(within r.Day 0 100000&&(within r.Known 0 100000&&(Zlc r.Text&&
  (bif !decide (r.Kind=(0:Int)) then decide (r.Of.House=(0:Int))&&decide (r.Of.No=(0:Int))
   else decide (r.Day=(0:Int))&&((r.Text.toList==ByteArray.empty.toList)&&(ZeP r.Of&&(decide (r.Of.House=r.At.House)&&decide (r.Of.No<r.At.No)))))))))
theorem ZfS {k:Nat} (hk:1000<k) (r:Record):Zbo k r=some (ZeV r):=by
 unfold Zbo ZeV
 simp only[Zj9,Zdc,Zk7 hk,Option.bind_some]
 cases ZeP r.At<;>simp only[cond_true,cond_false,Bool.true_and,Bool.false_and]
 cases within r.Kind 0 40<;>simp only[cond_true,cond_false,Bool.true_and,Bool.false_and]
 cases within r.Day 0 100000<;>simp only[cond_true,cond_false,Bool.true_and,Bool.false_and]
 cases within r.Known 0 100000<;>simp only[cond_true,cond_false,Bool.true_and,Bool.false_and]
 cases Zlc r.Text<;>simp only[cond_true,cond_false,Bool.true_and,Bool.false_and,Bool.not_true,Bool.not_false]
 cases decide (r.Kind=(0:Int))<;>simp only[cond_true,cond_false,Bool.true_and,Bool.false_and,Bool.not_true,Bool.not_false]
 cases decide (r.Day=(0:Int))<;>simp only[cond_true,cond_false,Bool.true_and,Bool.false_and]
 cases (r.Text.toList==ByteArray.empty.toList)<;>simp only[cond_true,cond_false,Bool.true_and,Bool.false_and]
 cases ZeP r.Of<;>simp only[cond_true,cond_false,Bool.true_and,Bool.false_and]
 cases decide (r.Of.House=r.At.House)<;>simp only[cond_true,cond_false,Bool.true_and,Bool.false_and]
theorem Zfu {r:Record} (h:ZeV r=true):r.Text.size≤200:=by
 unfold ZeV Zlc at h
 simp only[Bool.and_eq_true,Bool.not_eq_true',decide_eq_false_iff_not]at h
 omega
end Go.Abs
namespace Go.Abs
open Go Go.Proofs
set_option maxRecDepth 20000
set_option linter.unusedVariables false
set_option linter.unusedSimpArgs false
theorem Zi7 (l:List Int) (n:Nat):Zla l (n:Int)=if l.length<n then none else some (l.take n,l.drop n):=by
 unfold Zla
 by_cases h:l.length<n
 ·rw[if_pos (by omega),if_pos h]
 ·rw[if_neg (by omega),if_neg h,Int.toNat_natCast]
theorem Zhf {k:Nat} (hk:100<k) {l:List Int} (hb:Byt l) {n:Nat} (hn:n≤5):Zlj k l (n:Int)=some (if l.length<n then none else some (rdV (l.take n),l.drop n)):=by
 unfold Zlj
 rw[Zi7]
 by_cases h:l.length<n
 ·simp only[if_pos h]
 ·simp only[if_neg h]
  have hl:(l.take n).length=n:=by rw[List.length_take];omega
  rw[Ztm (hb.take n) (by omega) (k:=k) (by omega) (fun i x s hx=>by
   have hi:=(gS.1 hx).1
   unfold ZuB
   simp only[decide_eq_true (show (i:Int)<((l.take n).length:Int) by omega),cond_true,ZcA hx,Option.bind_some]) (fun s=>by
   unfold ZuB
   simp only[(by simp:decide (((l.take n).length:Int)<((l.take n).length:Int))=false),cond_false])]
  rfl
def Zv1 (b tx:List Int):Record:=⟨⟨rdV (b.take 1),rdV ((b.drop 1).take 2)⟩,rdV ((b.drop 3).take 1),rdV ((b.drop 4).take 4),rdV ((b.drop 8).take 4),⟨rdV ((b.drop 12).take 1),rdV ((b.drop 13).take 2)⟩,ZlR tx⟩
def Zq9 (b:List Int):Int:=rdV ((b.drop 15).take 1)
def Zp4 (b:List Int):Option (Record×List Int):=
 if b.length<16 then none else if (b.length:Int)<16+Zq9 b then none else some (Zv1 b ((b.drop 16).take (Zq9 b).toNat),(b.drop 16).drop (Zq9 b).toNat)
theorem Znh {k:Nat} (hk:100<k) {b:List Int} (hb:Byt b):Zul k b=some (Zp4 b):=by
 have N1:∀ {l:List Int},Byt l→Zlj k l 1=some (if l.length<1 then none else some (rdV (l.take 1),l.drop 1)):=fun h=>Zhf hk h (n:=1) (by omega)
 have N2:∀ {l:List Int},Byt l→Zlj k l 2=some (if l.length<2 then none else some (rdV (l.take 2),l.drop 2)):=fun h=>Zhf hk h (n:=2) (by omega)
 have N4:∀ {l:List Int},Byt l→Zlj k l 4=some (if l.length<4 then none else some (rdV (l.take 4),l.drop 4)):=fun h=>Zhf hk h (n:=4) (by omega)
 unfold Zul
 by_cases h16:b.length<16
 ·have e:Zp4 b=none:=by unfold Zp4;rw[if_pos h16]
  rw[e,N1 hb,Option.bind_some]
  by_cases h1:b.length<1
  ·rw[if_pos h1]
  rw[if_neg h1];simp only
  rw[N2 (hb.drop _),Option.bind_some,List.length_drop,List.drop_drop]
  by_cases h1:b.length - 1<2
  ·rw[if_pos h1]
  rw[if_neg h1];simp only
  rw[N1 (hb.drop _),Option.bind_some,List.length_drop,List.drop_drop]
  by_cases h1:b.length - (1+2)<1
  ·rw[if_pos h1]
  rw[if_neg h1];simp only
  rw[N4 (hb.drop _),Option.bind_some,List.length_drop,List.drop_drop]
  by_cases h1:b.length - (1+2+1)<4
  ·rw[if_pos h1]
  rw[if_neg h1];simp only
  rw[N4 (hb.drop _),Option.bind_some,List.length_drop,List.drop_drop]
  by_cases h1:b.length - (1+2+1+4)<4
  ·rw[if_pos h1]
  rw[if_neg h1];simp only
  rw[N1 (hb.drop _),Option.bind_some,List.length_drop,List.drop_drop]
  by_cases h1:b.length - (1+2+1+4+4)<1
  ·rw[if_pos h1]
  rw[if_neg h1];simp only
  rw[N2 (hb.drop _),Option.bind_some,List.length_drop,List.drop_drop]
  by_cases h1:b.length - (1+2+1+4+4+1)<2
  ·rw[if_pos h1]
  rw[if_neg h1];simp only
  rw[N1 (hb.drop _),Option.bind_some,List.length_drop,List.drop_drop]
  rw[if_pos (by omega)]
 ·rw[N1 hb,Option.bind_some,if_neg (by omega)];simp only
  rw[N2 (hb.drop _),Option.bind_some,List.length_drop,List.drop_drop,if_neg (by omega)];simp only
  rw[N1 (hb.drop _),Option.bind_some,List.length_drop,List.drop_drop,if_neg (by omega)];simp only
  rw[N4 (hb.drop _),Option.bind_some,List.length_drop,List.drop_drop,if_neg (by omega)];simp only
  rw[N4 (hb.drop _),Option.bind_some,List.length_drop,List.drop_drop,if_neg (by omega)];simp only
  rw[N1 (hb.drop _),Option.bind_some,List.length_drop,List.drop_drop,if_neg (by omega)];simp only
  rw[N2 (hb.drop _),Option.bind_some,List.length_drop,List.drop_drop,if_neg (by omega)];simp only
  rw[N1 (hb.drop _),Option.bind_some,List.length_drop,List.drop_drop,if_neg (by omega)];simp only
  have hm:=ZiZ ((hb.drop 15).take 1)
  have hM:rdV ((b.drop (1+2+1+4+4+1+2)).take 1)=Zq9 b:=rfl
  rw[hM]
  have hm0:0≤Zq9 b:=hm.1
  rw[if_pos hm0]
  obtain⟨m,hm'⟩:=Int.eq_ofNat_of_zero_le hm0
  unfold Zp4
  rw[if_neg h16,hm',Zi7,List.length_drop]
  by_cases hlt:(b.length:Int)<16+(m:Int)
  ·rw[if_pos hlt,if_pos (by omega)]
  ·rw[if_neg hlt,if_neg (by omega)]
   rfl
theorem Zj2 {k:Nat} (hk:1000<k) {b:List Int} (hb:Byt b):
  ZdS k b=some (match Zp4 b with|none=>(⟨⟨0,0⟩,0,0,0,⟨0,0⟩,ByteArray.empty⟩,[],false)|some p=>(p.1,p.2,ZeV p.1)):=by
 unfold ZdS
 rw[Znh (by omega) hb]
 cases Zp4 b with
 |none=>rfl
 |some p=>simp only[Option.bind_some,ZfS hk]
theorem rd1 {n:Int} (h0:0≤n) (h1:n<256):rdV (be n 1)=n:=by
 simp only[be,ZjR,rdV,rdA,List.foldl]
 rw[Int.fdiv_eq_ediv_of_nonneg _ (by decide)]
 simp
 omega
theorem rd2 {n:Int} (h0:0≤n) (h1:n<65536):rdV (be n 2)=n:=by
 simp only[be,ZjR,rdV,rdA,List.foldl]
 rw[Int.fdiv_eq_ediv_of_nonneg _ (by decide),Int.fdiv_eq_ediv_of_nonneg _ (by decide)]
 simp
 omega
theorem rd4 {n:Int} (h0:0≤n) (h1:n<4294967296):rdV (be n 4)=n:=by
 simp only[be,ZjR,rdV,rdA,List.foldl]
 rw[Int.fdiv_eq_ediv_of_nonneg _ (by decide),Int.fdiv_eq_ediv_of_nonneg _ (by decide),Int.fdiv_eq_ediv_of_nonneg _ (by decide),Int.fdiv_eq_ediv_of_nonneg _ (by decide)]
 simp
 omega
theorem ZcT (n:Int):∀ w,Byt (be n w)
 |0=>by intro x hx;simp[be]at hx
 |w+1=>by
  intro x hx
  rcases List.mem_cons.1 hx with rfl|hx
  ·rw[ZjR];omega
  ·exact ZcT n w x hx
theorem ZsD (s:ByteArray):Byt (ZfJ s):=by
 intro x hx
 obtain⟨c,_,rfl⟩:=List.mem_map.1 hx
 have:=c.toNat_lt
 omega
theorem Byt.append {a b:List Int} (ha:Byt a) (hb:Byt b):Byt (a++b):=fun x hx=>by
 rcases List.mem_append.1 hx with h|h
 ·exact ha x h
 ·exact hb x h
theorem ZoK (r:Record):Byt (enc r):=by
 unfold enc
 exact((((((((ZcT _ _).append (ZcT _ _)).append (ZcT _ _)).append (ZcT _ _)).append (ZcT _ _)).append (ZcT _ _)).append (ZcT _ _)).append (ZcT _ _)).append (ZsD _)
theorem Zml (r:Record):(enc r).take 1=be r.At.House 1∧((enc r).drop 1).take 2=be r.At.No 2∧((enc r).drop 3).take 1=be r.Kind 1∧((enc r).drop 4).take 4=be r.Day 4∧((enc r).drop 8).take 4=be r.Known 4∧
  ((enc r).drop 12).take 1=be r.Of.House 1∧((enc r).drop 13).take 2=be r.Of.No 2∧((enc r).drop 15).take 1=be (r.Text.size:Int) 1∧(enc r).drop 16=ZfJ r.Text:=by
 unfold enc
 simp[be]
theorem Ziy {r:Record} (h:ZeV r=true):(0≤r.At.House∧r.At.House≤5)∧(0≤r.At.No∧r.At.No≤9999)∧(0≤r.Kind∧r.Kind≤40)∧(0≤r.Day∧r.Day≤100000)∧(0≤r.Known∧r.Known≤100000)∧(0≤r.Of.House∧r.Of.House≤5)∧(0≤r.Of.No∧r.Of.No≤9999):=by
 unfold ZeV ZeP within at h
 simp only[Bool.and_eq_true,decide_eq_true_eq]at h
 obtain⟨⟨a1,a2⟩,a3,a4,a5,a6,h⟩:=h
 refine⟨a1,a2,a3,a4,a5,?_⟩
 by_cases hk:r.Kind=0
 ·simp only[hk,decide_true,Bool.not_true,cond_false,Bool.and_eq_true,decide_eq_true_eq]at h
  exact⟨h.2.2.1.1,h.2.2.1.2⟩
 ·simp only[hk,decide_false,Bool.not_false,cond_true,Bool.and_eq_true,decide_eq_true_eq]at h
  omega
theorem ZqA {r:Record} (ht:r.Text.size≤200):Zq9 (enc r)=(r.Text.size:Int):=by
 unfold Zq9
 rw[(Zml r).2.2.2.2.2.2.2.1,rd1 (by omega) (by omega)]
theorem ZqB {r:Record} (h:ZeV r=true) (l:List Int):Zp4 (enc r++l)=some (r,l):=by
 have ht:=Zfu h
 have ZbS:=Zj3 r
 obtain⟨b1,b2,b3,b4,b5,b6,b7⟩:=Ziy h
 obtain⟨p1,p2,p3,p4,p5,p6,p7,p8,p9⟩:=Zml r
 have T:∀ (i n:Nat),i+n≤16→((enc r++l).drop i).take n=((enc r).drop i).take n:=fun i n hi=>by
  rw[List.drop_append_of_le_length (by omega),List.take_append_of_le_length (by rw[List.length_drop];omega)]
 have hM:Zq9 (enc r++l)=(r.Text.size:Int):=by
  have:=ZqA ht
  unfold Zq9 at this ⊢
  rw[T 15 1 (by omega)];exact this
 have hd:(enc r++l).drop 16=ZfJ r.Text++l:=by
  rw[List.drop_append_of_le_length (by omega),p9]
 unfold Zp4
 rw[if_neg (by rw[List.length_append];omega),hM,if_neg (by rw[List.length_append];omega),hd,Int.toNat_natCast]
 have hsl:=Zcw r.Text
 rw[List.take_append_of_le_length (by omega),List.drop_append_of_le_length (by omega),List.take_of_length_le (by omega),List.drop_of_length_le (by omega),List.nil_append]
 have t0:=T 0 1 (by omega)
 simp only[List.drop_zero]at t0
 unfold Zv1
 rw[t0,T 1 2 (by omega),T 3 1 (by omega),T 4 4 (by omega),T 8 4 (by omega),T 12 1 (by omega),T 13 2 (by omega),p1,p2,p3,p4,p5,p6,p7,
  rd1 b1.1 (by omega),rd2 b2.1 (by omega),rd1 b3.1 (by omega),rd4 b4.1 (by omega),rd4 b5.1 (by omega),rd1 b6.1 (by omega),rd2 b7.1 (by omega)]
 have hs:ZlR (ZfJ r.Text)=r.Text:=ZlS r.Text
 rw[hs]
end Go.Abs
namespace Go.Abs
open Go Go.Proofs
set_option maxRecDepth 20000
set_option linter.unusedVariables false
set_option linter.unusedSimpArgs false
theorem Zlw (k:Nat) (f e n:Int):Zem k f e n=some ⟨[f,IntKind.u8.wrap (Int.fdiv e (2 ^ 16)),IntKind.u8.wrap (Int.fdiv e (2 ^ 8)),IntKind.u8.wrap e,IntKind.u8.wrap (Int.fdiv n (2 ^ 8)),IntKind.u8.wrap n,
  0,0,0,0,0,0,0,0,0,0,0,0,0,0,0,0,0,0,0,0,0,0,0,0,0,165],rfl⟩:=by rfl
theorem Zd1 (e:Int):be e 3=[IntKind.u8.wrap (Int.fdiv e (2 ^ 16)),IntKind.u8.wrap (Int.fdiv e (2 ^ 8)),IntKind.u8.wrap e]:=by
 simp[be]
theorem Zkh (e:Int):be e 2=[IntKind.u8.wrap (Int.fdiv e (2 ^ 8)),IntKind.u8.wrap e]:=by
 simp[be]
def Zgh (e n:Int) (cnt:Int) (code:List Int) (i:Nat):List Int:=
 [112]++be e 3++be n 2++[IntKind.u8.wrap (i:Int),IntKind.u8.wrap cnt]++((code.drop (23*i)).take 23++List.replicate (23 - min (code.drop (23*i)).length 23) 0)++[165]
theorem ZqE (e n cnt:Int) (code:List Int) (i:Nat):(Zgh e n cnt code i).length=32:=by
 simp only[Zgh,List.length_append,ZeN,List.length_cons,List.length_nil,List.length_take,List.length_replicate]
 omega
def ZcB (e n:Int) (cnt:Int) (code:List Int) (i:Nat):Vec 32 Int:=⟨Zgh e n cnt code i,ZqE e n cnt code i⟩
def Zb2 (len:Nat):Nat:=(len+22) / 23
theorem Zkr {len:Nat} (h:len≤1000):w64 (Int.tdiv (w64 ((w64 ((len:Int)+23)) - 1)) 23)=(Zb2 len:Int):=by
 rw[Za8 (n:=(len:Int)+23) (by omega) (by omega),Za8 (n:=(len:Int)+23 - 1) (by omega) (by omega)]
 have e:((len:Int)+23 - 1)=((len+22:Nat):Int):=by omega
 rw[e]
 have:Int.tdiv ((len+22:Nat):Int) 23=(((len+22) / 23:Nat):Int):=by
  rw[show (23:Int)=((23:Nat):Int) from rfl,←Int.ofNat_tdiv]
 rw[this,Za8 (by omega) (by omega)]
 rfl
theorem Zrz {len i:Nat} (h:i<Zb2 len):23*i<len:=by unfold Zb2 at h;omega
theorem ZqU {e n:Int}{cnt:Int}{code:List Int}{i:Nat}{l:List Int} (hl:l=(code.drop (23*i)).take 23):
  (((⟨[112,IntKind.u8.wrap (Int.fdiv e (2 ^ 16)),IntKind.u8.wrap (Int.fdiv e (2 ^ 8)),IntKind.u8.wrap e,IntKind.u8.wrap (Int.fdiv n (2 ^ 8)),IntKind.u8.wrap n,
   0,0,0,0,0,0,0,0,0,0,0,0,0,0,0,0,0,0,0,0,0,0,0,0,0,165],rfl⟩:Vec 32 Int).set 6 (IntKind.u8.wrap (i:Int))).set 7 (IntKind.u8.wrap cnt)).put 8 23 l=ZcB e n cnt code i:=by
 apply Vec.ext
 have hle:l.length≤23:=by rw[hl,List.length_take];omega
 have hmin:min l.length 23=l.length:=by omega
 have hlm:l.length=min (code.drop (23*i)).length 23:=by rw[hl,List.length_take];omega
 unfold Vec.put
 rw[dif_pos (by decide)]
 show List.take 8 _++(List.take 23 l++List.drop (8+min l.length 23) _)=Zgh e n cnt code i
 rw[hmin,List.take_of_length_le hle]
 have hd:∀ m,m≤23→List.drop (8+m) ((((⟨[112,IntKind.u8.wrap (Int.fdiv e (2 ^ 16)),IntKind.u8.wrap (Int.fdiv e (2 ^ 8)),IntKind.u8.wrap e,IntKind.u8.wrap (Int.fdiv n (2 ^ 8)),IntKind.u8.wrap n,
   0,0,0,0,0,0,0,0,0,0,0,0,0,0,0,0,0,0,0,0,0,0,0,0,0,165],rfl⟩:Vec 32 Int).set 6 (IntKind.u8.wrap (i:Int))).set 7 (IntKind.u8.wrap cnt)).l)=List.replicate (23 - m) 0++[165]:=by
  intro m hm
  rw[←List.drop_drop]
  show List.drop m (List.replicate 23 (0:Int)++[(165:Int)])=_
  rw[List.drop_append_of_le_length (by simp;exact hm),List.drop_replicate]
 rw[hd _ hle]
 show [112,IntKind.u8.wrap (Int.fdiv e (2 ^ 16)),IntKind.u8.wrap (Int.fdiv e (2 ^ 8)),IntKind.u8.wrap e,IntKind.u8.wrap (Int.fdiv n (2 ^ 8)),IntKind.u8.wrap n,IntKind.u8.wrap (i:Int),IntKind.u8.wrap cnt]++_=_
 unfold Zgh
 rw[Zd1,Zkh,←hlm,←hl]
 simp
theorem Zgn {k:Nat} (hk:100000<k) {r:Record} (ht:r.Text.size≤200) (n e:Int):
  Za4 k r n e=some ((List.range (Zb2 (enc r).length)).map (ZcB e n (Zb2 (enc r).length) (enc r))):=by
 have ZbS:=Zj3 r
 have hc:Zb2 (enc r).length≤10:=by unfold Zb2;omega
 unfold Za4
 rw[Zlz (by omega) (by omega)]
 simp only[Option.bind_some]
 have h:=ZiA (n:=Zb2 (enc r).length) (body:=Za4.b0 k n e (enc r)) (fun i s=>(i,s)) (fun s i=>s++[ZcB e n (Zb2 (enc r).length) (enc r) i]) (fun i s=>s.length=i) (by omega) (k:=k) (by omega) (s0:=[]) rfl (fun i s hi hs=>by
  have hlt:=Zrz hi
  refine⟨?_,by simp[hs]⟩
  unfold Za4.b0
  have hw1:w64 ((i:Int)*23)=((23*i:Nat):Int):=by rw[Za8]<;>omega
  have hw2:w64 ((w64 ((i:Int)+1))*23)=((23*(i+1):Nat):Int):=by
   rw[Za8 (n:=(i:Int)+1) (by omega) (by omega),Za8]<;>omega
  have hsub:ZlT (enc r) ((23*i:Nat):Int) (min ((enc r).length:Int) ((23*(i+1):Nat):Int))=some (((enc r).drop (23*i)).take 23):=by
   unfold ZlT
   rw[if_pos (by omega)]
   congr 1
   have e1:(min ((enc r).length:Int) ((23*(i+1):Nat):Int)).toNat - (((23*i:Nat):Int)).toNat=min 23 ((enc r).drop (23*i)).length:=by
    rw[List.length_drop];omega
   rw[e1,Int.toNat_natCast]
   rw[←List.take_take,List.take_length]
  simp only[Zkr (show (enc r).length≤1000 by omega),decide_eq_true (show (i:Int)<(Zb2 (enc r).length:Int) by omega),cond_true,Zlw,Option.bind_some,hw1,hw2,hsub]
  rw[ZqU rfl,ZeH (by rw[hs];omega) (by rw[hs];omega)]
  rfl) (fun s hs=>by
  unfold Za4.b0
  simp only[Zkr (show (enc r).length≤1000 by omega),(by simp:decide ((Zb2 (enc r).length:Int)<(Zb2 (enc r).length:Int))=false),cond_false])
 have h1:=h.1
 rw[h1]
 simp only[Option.bind_some]
 rw[Zih]
 rfl
end Go.Abs
namespace Go.Abs
open Go Go.Proofs
set_option maxRecDepth 20000
set_option linter.unusedVariables false
set_option linter.unusedSimpArgs false
theorem Zri (v:Vec 32 Int):Vec.eq (fun(x y:Int)=>decide (x=y)) v v=true:=by
 unfold Vec.eq
 rw[List.all_eq_true]
 intro p hp
 obtain⟨i,hi⟩:=List.mem_iff_getElem?.1 hp
 rw[List.getElem?_zip_eq_some]at hi
 obtain⟨h1,h2⟩:=hi
 rw[h1]at h2
 simp only[oE]at h2
 simp[h2]
end Go.Abs
namespace Go.Abs
open Go Go.Proofs
set_option maxRecDepth 20000
set_option linter.unusedVariables false
set_option linter.unusedSimpArgs false
def Zc2 (h:Vec 32 Int):List Int:=(h.l.drop 8).take 23
def Zr4 (c:List Int):List Int:=c++List.replicate (23*Zb2 c.length - c.length) 0
theorem Zrx (n:Nat):n≤23*Zb2 n:=by unfold Zb2;omega
theorem ZqR (c:List Int):(Zr4 c).length=23*Zb2 c.length:=by
 have:=Zrx c.length
 unfold Zr4;simp;omega
theorem Zny (e n:Int) (c:List Int) {i:Nat} (hi:i<Zb2 c.length):Zc2 (ZcB e n (Zb2 c.length) c i)=((Zr4 c).drop (23*i)).take 23:=by
 have hlt:=Zrz hi
 unfold Zc2 ZcB Zgh Zr4
 simp only
 rw[Zd1,Zkh]
 simp only[List.cons_append,List.nil_append,List.append_assoc,List.drop_succ_cons,List.drop_zero]
 rw[List.drop_append_of_le_length (by omega),←List.append_assoc,List.take_append_of_le_length (by simp;omega),List.take_of_length_le (by simp;omega)]
 rw[List.take_append,List.take_replicate,List.length_drop]
 congr 2
 have:=Zrx c.length
 omega
theorem Zrv (P:List Int) (w:Nat):∀ n,((List.range n).map fun i=>(P.drop (w*i)).take w).flatten=P.take (w*n)
 |0=>by simp
 |n+1=>by
  rw[List.range_succ,List.map_append,List.flatten_append,Zrv P w n]
  simp only[List.map_cons,List.map_nil,List.flatten_cons,List.flatten_nil,List.append_nil]
  rw[Nat.mul_succ,List.take_add]
theorem ZlC (e n:Int) (c:List Int):(((List.range (Zb2 c.length)).map (ZcB e n (Zb2 c.length) c)).map Zc2).flatten=Zr4 c:=by
 have:(((List.range (Zb2 c.length)).map (ZcB e n (Zb2 c.length) c)).map Zc2)=(List.range (Zb2 c.length)).map fun i=>((Zr4 c).drop (23*i)).take 23:=by
  rw[List.map_map]
  apply List.map_congr_left
  intro i hi
  exact Zny e n c (List.mem_range.1 hi)
 rw[this,Zrv,←ZqR,List.take_length]
def Zax (r:Record) (n e:Int):List (Vec 32 Int):=(List.range (Zb2 (enc r).length)).map (ZcB e n (Zb2 (enc r).length) (enc r))
theorem ZaD (r:Record) (n e:Int):(Zax r n e).length=Zb2 (enc r).length:=by simp[Zax]
theorem Ze5 (r:Record):0<Zb2 (enc r).length:=by rw[Zj3];unfold Zb2;omega
theorem rd3 {n:Int} (h0:0≤n) (h1:n<16777216):rdV (be n 3)=n:=by
 simp only[be,ZjR,rdV,rdA,List.foldl]
 rw[Int.fdiv_eq_ediv_of_nonneg _ (by decide),Int.fdiv_eq_ediv_of_nonneg _ (by decide),Int.fdiv_eq_ediv_of_nonneg _ (by decide)]
 simp
 omega
theorem Zi9 (v w:Vec 32 Int):Vec.eq (fun(x y:Int)=>decide (x=y)) v w=true↔v=w:=by
 constructor
 ·intro h
  unfold Vec.eq at h
  rw[List.all_eq_true]at h
  apply Vec.ext
  apply List.ext_getElem (by rw[v.h,w.h])
  intro i h1 h2
  have:=h (v.l[i],w.l[i]) (List.mem_iff_getElem.2 ⟨i,by simp;omega,by simp⟩)
  simpa using this
 ·rintro rfl;exact Zri _
end Go.Abs
namespace Go.Abs
set_option linter.unusedVariables false
def eLt (a b:Int×Int):Prop:=a.1<b.1∨(a.1=b.1∧a.2<b.2)
instance (a b:Int×Int):Decidable (eLt a b):=inferInstanceAs (Decidable (_∨_))
theorem Zkz {a b c:Int×Int} (h:eLt a b) (g:eLt b c):eLt a c:=by unfold eLt at *;omega
theorem Zl4 (a:Int×Int):¬ eLt a a:=by unfold eLt;omega
theorem ZqD {a b:Int×Int} (h:eLt a b):¬ eLt b a:=by unfold eLt at *;omega
theorem ZsL (a b:Int×Int):eLt a b∨a=b∨eLt b a:=by
 obtain⟨a1,a2⟩:=a;obtain⟨b1,b2⟩:=b
 unfold eLt;simp only[Prod.mk.injEq];omega
section
variable {α:Type} (key:α→Int×Int)
def Srt (l:List α):Prop:=l.Pairwise fun x y=>eLt (key x) (key y)
def cnt (l:List α) (h:Int):Nat:=l.countP fun x=>decide ((key x).1=h)
theorem Zfe (h:Int):cnt key [] h=0:=rfl
theorem ZcU (l m:List α) (h:Int):cnt key (l++m) h=cnt key l h+cnt key m h:=by
 unfold cnt;exact List.countP_append
theorem ZcF (x:α) (l:List α) (h:Int):cnt key (x::l) h=cnt key l h+if (key x).1=h then 1 else 0:=by
 unfold cnt;rw[List.countP_cons];simp only[decide_eq_true_eq]
theorem Zq7 {l:List α}{h:Int} (H:∀ x∈l,(key x).1≠h):cnt key l h=0:=by
 unfold cnt;rw[List.countP_eq_zero];intro x hx;simp[H x hx]
def VL:(Int→Int)→List α→Prop
 |_,[]=>True
 |c,x::l=>(key x).2=c (key x).1∧VL (fun h=>if h=(key x).1 then c h+1 else c h) l
theorem Zf2:∀ {l:List α}{c d:Int→Int} (H:∀ x∈l,c (key x).1=d (key x).1),VL key c l→VL key d l
 |[],_,_,_,_=>trivial
 |x::l,c,d,H,h=>by
  refine⟨by rw[←H x (by simp)];exact h.1,Zf2 (l:=l) (fun y hy=>?_) h.2⟩
  have:=H y (by simp[hy])
  by_cases e:(key y).1=(key x).1
  ·simp only[e,if_true];rw[H x (by simp)]
  ·simp only[if_neg e];exact this
theorem Zek:∀ {l m:List α}{c:Int→Int},VL key c (l++m)↔VL key c l∧VL key (fun h=>c h+cnt key l h) m
 |[],m,c=>by
  simp only[List.nil_append,Zfe,VL,true_and]
  constructor<;>exact Zf2 key (fun x _=>by simp)
 |x::l,m,c=>by
  simp only[List.cons_append,VL]
  rw[Zek (l:=l)]
  constructor
  ·rintro⟨h1,h2,h3⟩
   refine⟨⟨h1,h2⟩,Zf2 key (fun y _=>?_) h3⟩
   rw[ZcF]
   by_cases e:(key y).1=(key x).1
   ·simp only[e,if_true];omega
   ·simp only[if_neg e,if_neg (Ne.symm e)];omega
  ·rintro⟨⟨h1,h2⟩,h3⟩
   refine⟨h1,h2,Zf2 key (fun y _=>?_) h3⟩
   rw[ZcF]
   by_cases e:(key y).1=(key x).1
   ·simp only[e,if_true];omega
   ·simp only[if_neg e,if_neg (Ne.symm e)];omega
def Val (l:List α):Prop:=Srt key l∧VL key (fun _=>0) l
theorem ZtD:∀ {l:List α}{c:Int→Int},VL key c l→∀ x∈l,c (key x).1≤(key x).2∧(key x).2<c (key x).1+cnt key l (key x).1
 |y::l,c,h,x,hx=>by
  rw[ZcF]
  rcases List.mem_cons.1 hx with rfl|hx
  ·have:=h.1;simp only[if_true];omega
  ·have:=ZtD h.2 x hx
   by_cases e:(key x).1=(key y).1
   ·simp only[e,if_true]at this ⊢;omega
   ·simp only[if_neg e,if_neg (Ne.symm e)]at this ⊢;omega
theorem ZnL:∀ {l:List α}{c:Int→Int},VL key c l→∀ (h n:Int),c h≤n→n<c h+cnt key l h→∃ x∈l,key x=(h,n)
 |[],c,_,h,n,h1,h2=>by rw[Zfe]at h2;omega
 |y::l,c,hv,h,n,h1,h2=>by
  rw[ZcF]at h2
  by_cases e:(key y).1=h
  ·by_cases e2:n=c h
   ·refine⟨y,by simp,?_⟩
    have h3:=hv.1
    rw[e]at h3
    exact Prod.ext e (by rw[h3,e2])
   ·obtain⟨x,hx,hk⟩:=ZnL hv.2 h n (by rw[if_pos e.symm];omega) (by rw[if_pos e.symm];rw[if_pos e]at h2;omega)
    exact⟨x,by simp[hx],hk⟩
  ·obtain⟨x,hx,hk⟩:=ZnL hv.2 h n (by rw[if_neg (Ne.symm e)];omega) (by rw[if_neg (Ne.symm e)];rw[if_neg e]at h2;omega)
   exact⟨x,by simp[hx],hk⟩
def pos (l:List α) (e:Int×Int):Nat:=l.countP fun x=>decide (eLt (key x) e)
theorem Zpl (l:List α) (e:Int×Int):pos key l e≤l.length:=List.countP_le_length
def Zil (l:List α) (r:α):List α:=l.take (pos key l (key r))++r::l.drop (pos key l (key r))
theorem ZqS (x:α) (l:List α) (e:Int×Int):pos key (x::l) e=pos key l e+if eLt (key x) e then 1 else 0:=by
 unfold pos;rw[List.countP_cons];simp only[decide_eq_true_eq]
theorem ZqT {l:List α}{e:Int×Int} (H:∀ x∈l,¬ eLt (key x) e):pos key l e=0:=by
 unfold pos;rw[List.countP_eq_zero];intro x hx;simp[H x hx]
theorem ZfD:∀ {l:List α},Srt key l→∀ (e:Int×Int),(∀ x∈l.take (pos key l e),eLt (key x) e)∧(∀ x∈l.drop (pos key l e),¬ eLt (key x) e)
 |[],_,e=>by simp
 |y::l,hs,e=>by
  have hs':=List.pairwise_cons.1 hs
  by_cases h:eLt (key y) e
  ·obtain⟨h1,h2⟩:=ZfD hs'.2 e
   rw[ZqS,if_pos h]
   refine⟨fun x hx=>?_,fun x hx=>?_⟩
   ·rw[List.take_succ_cons]at hx
    rcases List.mem_cons.1 hx with rfl|hx
    ·exact h
    ·exact h1 x hx
   ·rw[List.drop_succ_cons]at hx;exact h2 x hx
  ·have hz:pos key (y::l) e=0:=ZqT key (fun x hx=>by
    rcases List.mem_cons.1 hx with rfl|hx
    ·exact h
    ·intro hc;exact h (Zkz (hs'.1 x hx) hc))
   rw[hz]
   refine⟨by simp,fun x hx=>?_⟩
   rw[List.drop_zero]at hx
   rcases List.mem_cons.1 hx with rfl|hx
   ·exact h
   ·intro hc;exact h (Zkz (hs'.1 x hx) hc)
theorem Zpu {l:List α} (hs:Srt key l) (e:Int×Int) {i:Nat}{x:α} (hx:l[i]?=some x):eLt (key x) e↔i<pos key l e:=by
 obtain⟨h1,h2⟩:=ZfD key hs e
 constructor
 ·intro h
  rcases Nat.lt_or_ge i (pos key l e) with hi|hi
  ·exact hi
  ·exact absurd h (h2 x (List.mem_iff_getElem?.2 ⟨i - pos key l e,by rw[List.getElem?_drop,Nat.add_sub_cancel' hi];exact hx⟩))
 ·intro h
  exact h1 x (List.mem_iff_getElem?.2 ⟨i,by rw[List.getElem?_take,if_pos h];exact hx⟩)
theorem ZjA {l:List α}{r x:α}:x∈Zil key l r↔x=r∨x∈l:=by
 unfold Zil
 rw[List.mem_append,List.mem_cons]
 constructor
 ·rintro(h|h|h)
  ·exact .inr (List.mem_of_mem_take h)
  ·exact .inl h
  ·exact .inr (List.mem_of_mem_drop h)
 ·rintro(h|h)
  ·exact .inr (.inl h)
  ·rw[←List.take_append_drop (pos key l (key r)) l,List.mem_append]at h
   rcases h with h|h
   ·exact .inl h
   ·exact .inr (.inr h)
theorem Zg7 (l:List α) (r:α):(Zil key l r).length=l.length+1:=by
 have:=Zpl key l (key r)
 unfold Zil;simp;omega
theorem Zq6 (l:List α) (r:α) (h:Int):cnt key (Zil key l r) h=cnt key l h+if (key r).1=h then 1 else 0:=by
 unfold Zil
 rw[ZcU,ZcF]
 have:=ZcU key (l.take (pos key l (key r))) (l.drop (pos key l (key r))) h
 rw[List.take_append_drop]at this
 omega
theorem Zrd {l:List α} (hs:Srt key l) {r:α} (hn:∀ x∈l,key x≠key r):Srt key (Zil key l r):=by
 obtain⟨h1,h2⟩:=ZfD key hs (key r)
 unfold Srt Zil
 have h:=hs
 unfold Srt at h
 rw[←List.take_append_drop (pos key l (key r)) l,List.pairwise_append]at h
 rw[List.pairwise_append,List.pairwise_cons]
 refine⟨h.1,⟨fun x hx=>?_,h.2.1⟩,fun x hx y hy=>?_⟩
 ·rcases ZsL (key x) (key r) with e|e|e
  ·exact absurd e (h2 x hx)
  ·exact absurd e (hn x (List.mem_of_mem_drop hx))
  ·exact e
 ·rcases List.mem_cons.1 hy with rfl|hy
  ·exact h1 x hx
  ·exact h.2.2 x hx y hy
theorem Zp0 {l:List α} (hv:Val key l):∀ x∈l,0≤(key x).2∧(key x).2<cnt key l (key x).1:=fun x hx=>by
 have:=ZtD key hv.2 x hx;omega
theorem Ztr {l:List α} (hv:Val key l) {h n:Int} (h0:0≤n) (h1:n<cnt key l h):∃ x∈l,key x=(h,n):=ZnL key hv.2 h n (by omega) (by omega)
theorem Zm7 {l:List α} (hv:Val key l) {r:α} (hr:(key r).2=cnt key l (key r).1):Val key (Zil key l r):=by
 have hn:∀ x∈l,key x≠key r:=fun x hx e=>by
  have:=Zp0 key hv x hx
  rw[e]at this;omega
 refine⟨Zrd key hv.1 hn,?_⟩
 obtain⟨h1,h2⟩:=ZfD key hv.1 (key r)
 have hd:∀ x∈l.drop (pos key l (key r)),(key x).1≠(key r).1:=fun x hx e=>by
  have:=Zp0 key hv x (List.mem_of_mem_drop hx)
  apply h2 x hx
  rw[e]at this
  exact .inr ⟨e,by omega⟩
 have hv2:=hv.2
 rw[←List.take_append_drop (pos key l (key r)) l,Zek]at hv2
 unfold Zil
 rw[Zek]
 refine⟨hv2.1,?_,?_⟩
 ·have e:=ZcU key (l.take (pos key l (key r))) (l.drop (pos key l (key r))) (key r).1
  rw[List.take_append_drop,Zq7 key hd]at e
  rw[hr];show ((cnt key l (key r).1:Nat):Int)=0+((cnt key (l.take (pos key l (key r))) (key r).1:Nat):Int);omega
 ·refine Zf2 key (fun x hx=>?_) hv2.2
  rw[if_neg (hd x hx)]
theorem Zpv:∀ {l m:List α},Srt key l→Srt key m→(∀ x,x∈l↔x∈m)→l=m
 |[],[],_,_,_=>rfl
 |[],y::m,_,_,h=>by have:=(h y).2 (by simp);simp at this
 |x::l,[],_,_,h=>by have:=(h x).1 (by simp);simp at this
 |x::l,y::m,hl,hm,h=>by
  have hl':=List.pairwise_cons.1 hl
  have hm':=List.pairwise_cons.1 hm
  have exy:x=y:=by
   rcases List.mem_cons.1 ((h x).1 (by simp)) with e|e
   ·exact e
   ·rcases List.mem_cons.1 ((h y).2 (by simp)) with e2|e2
    ·exact e2.symm
    ·exact absurd (hl'.1 y e2) (ZqD (hm'.1 x e))
  subst exy
  congr 1
  refine Zpv hl'.2 hm'.2 fun z=>⟨fun hz=>?_,fun hz=>?_⟩
  ·rcases List.mem_cons.1 ((h z).1 (by simp[hz])) with e|e
   ·subst e;exact absurd (hl'.1 z hz) (Zl4 _)
   ·exact e
  ·rcases List.mem_cons.1 ((h z).2 (by simp[hz])) with e|e
   ·subst e;exact absurd (hm'.1 z hz) (Zl4 _)
   ·exact e
end
end Go.Abs
namespace Go.Abs
set_option linter.unusedVariables false
section
variable {α:Type} [DecidableEq α] (key:α→Int×Int)
def ZfF (l:List α) (e:Int×Int):Option α:=l.find? fun x=>decide (key x=e)
theorem Znl {l:List α}{e:Int×Int}{x:α} (h:ZfF key l e=some x):x∈l∧key x=e:=by
 unfold ZfF at h
 have h1:=List.find?_some h
 exact⟨List.mem_of_find?_eq_some h,by simpa using h1⟩
theorem ZiT {l:List α}{e:Int×Int} (h:ZfF key l e=none):∀ x∈l,key x≠e:=by
 unfold ZfF at h
 rw[List.find?_eq_none]at h
 intro x hx;simpa using h x hx
theorem Zmn {l:List α}{e:Int×Int} (h:∀ x∈l,key x≠e):ZfF key l e=none:=by
 unfold ZfF;rw[List.find?_eq_none];intro x hx;simpa using h x hx
theorem Zk2 {l:List α} (hs:Srt key l) (e:Int×Int):ZfF key l e=(l[pos key l e]?).filter fun x=>decide (key x=e):=by
 cases h:ZfF key l e with
 |some x=>
  obtain⟨h1,h2⟩:=Znl key h
  obtain⟨i,hi⟩:=List.mem_iff_getElem?.1 h1
  have hp:i=pos key l e:=by
   rcases Nat.lt_trichotomy i (pos key l e) with g|g|g
   ·have:=(Zpu key hs e hi).2 g;rw[h2]at this;exact absurd this (Zl4 _)
   ·exact g
   ·have hlt:pos key l e<l.length:=by have:=(gS.1 hi).1;omega
    have hy:l[pos key l e]?=some l[pos key l e]:=gG hlt
    have h3:¬ eLt (key l[pos key l e]) e:=fun c=>by have:=(Zpu key hs e hy).1 c;omega
    have hp:=List.pairwise_iff_getElem.1 hs (pos key l e) i hlt (gS.1 hi).1 g
    rw[(gS.1 hi).2,h2]at hp
    exact absurd hp h3
  rw[←hp,hi]
  simp[Option.filter,h2]
 |none=>
  have hn:=ZiT key h
  cases hq:l[pos key l e]? with
  |none=>rfl
  |some y=>
   have:=hn y (List.mem_of_getElem? hq)
   simp[Option.filter,this]
def jn (out:List α) (r:α):Option (List α):=match ZfF key out (key r) with
 |some x=>if x=r then some out else none
 |none=>some (Zil key out r)
def cs (a:List α) (m:Nat) (r:α):Option Nat:=match ZfF key a (key r) with
 |some x=>if x=r then some m else none
 |none=>some (m+1)
end
end Go.Abs
namespace Go.Abs
set_option linter.unusedVariables false
section
variable {α:Type} (key:α→Int×Int)
def bk (out l:List α):List α:=l.foldl (Zil key) out
structure BI (done out:List α):Prop where
 mem:∀ x,x∈out↔x∈done
 val:Val key out
 num:∀ h,cnt key out h=cnt key done h
 len:out.length=done.length
theorem BI.nil:BI key [] []:=⟨fun x=>Iff.rfl,⟨.nil,trivial⟩,fun h=>rfl,rfl⟩
theorem BI.step {done out:List α}{r:α} (hJ:BI key done out) (hr:(key r).2=cnt key done (key r).1):BI key (done++[r]) (Zil key out r):=by
 refine⟨fun x=>?_,Zm7 key hJ.val (by rw[hJ.num];exact hr),fun h=>?_,?_⟩
 ·rw[ZjA,hJ.mem,List.mem_append,List.mem_singleton];exact Or.comm
 ·rw[Zq6,hJ.num,ZcU,ZcF,Zfe];omega
 ·rw[Zg7,hJ.len];simp
theorem BI.no {done out:List α}{r:α} (hJ:BI key done out) (hr:(key r).2=cnt key done (key r).1):∀ x∈out,key x≠key r:=fun x hx e=>by
 have:=Zp0 key hJ.val x hx
 rw[e,hJ.num]at this;omega
theorem BI.all:∀ {m done out:List α},BI key done out→VL key (fun h=>cnt key done h) m→BI key (done++m) (bk key out m)
 |[],done,out,hJ,_=>by rw[List.append_nil];exact hJ
 |r::m,done,out,hJ,hv=>by
  have h1:=BI.step key hJ (r:=r) hv.1
  have:=BI.all (m:=m) h1 (Zf2 key (fun x _=>by
   rw[ZcU,ZcF,Zfe]
   by_cases e:(key x).1=(key r).1
   ·rw[if_pos e,if_pos e.symm];simp
   ·rw[if_neg e,if_neg (Ne.symm e)];simp) hv.2)
  simpa [bk] using this
theorem BI.of {l:List α} (h:VL key (fun _=>0) l):BI key l (bk key [] l):=by
 have:=BI.all key (m:=l) (BI.nil key) h
 simpa using this
theorem ZrF {c:Int→Int}{l:List α} (h:VL key c l) (n:Nat):VL key c (l.take n):=by
 have:=h
 rw[←List.take_append_drop n l,Zek]at this
 exact this.1
end
section
variable {α:Type} [DecidableEq α] (key:α→Int×Int)
end
end Go.Abs
namespace Go.Abs
open Go Go.Proofs
set_option maxRecDepth 20000
set_option linter.unusedVariables false
set_option linter.unusedSimpArgs false
theorem Zkf (s:ByteArray):s.toList=s.data.toList:=by
 have key:∀ (d i:Nat) (r:List UInt8),i+d=s.size→ByteArray.toList.loop s i r=r.reverse++s.data.toList.drop i:=by
  intro d
  induction d with
  |zero=>
   intro i r h
   rw[ByteArray.toList.loop,if_neg (by omega)]
   have hl:s.data.toList.length=s.size:=rfl
   rw[List.drop_of_length_le (by omega),List.append_nil]
  |succ d ih=>
   intro i r h
   have hl:s.data.toList.length=s.size:=rfl
   have hi:i<s.data.toList.length:=by omega
   rw[ByteArray.toList.loop,if_pos (by omega),ih (i+1) _ (by omega),List.drop_eq_getElem_cons hi]
   have e:s.get! i=s.data.toList[i]:=by
    show s.data[i]! = _
    rw[getElem!_pos s.data i (by simpa using hi)];simp
   rw[e];simp
 have:=key s.size 0 [] (by omega)
 simpa [ByteArray.toList] using this
theorem Zuh {a b:ByteArray}:a.toList=b.toList↔a=b:=by
 constructor
 ·intro h
  rw[Zkf,Zkf]at h
  cases a;cases b
  rename_i x y
  have:x=y:=Array.toList_inj.1 h
  rw[this]
 ·rintro rfl;rfl
def ZhC (x r:Record):Bool:=(decide (x.At.House=r.At.House)&&(decide (x.At.No=r.At.No)&&(decide (x.Kind=r.Kind)&&(decide (x.Day=r.Day)&&(decide (x.Known=r.Known)&&(decide (x.Of.House=r.Of.House)&&(decide (x.Of.No=r.Of.No)&&(x.Text.toList==r.Text.toList))))))))
theorem Ziz {x r:Record}:ZhC x r=true↔x=r:=by
 obtain⟨⟨a1,a2⟩,a3,a4,a5,⟨a6,a7⟩,a8⟩:=x
 obtain⟨⟨b1,b2⟩,b3,b4,b5,⟨b6,b7⟩,b8⟩:=r
 simp only[ZhC,Bool.and_eq_true,decide_eq_true_eq,beq_iff_eq,Zuh,Record.mk.injEq,Entry.mk.injEq]
 constructor
 ·rintro⟨h1,h2,h3,h4,h5,h6,h7,h8⟩;exact⟨⟨h1,h2⟩,h3,h4,h5,⟨h6,h7⟩,h8⟩
 ·rintro⟨⟨h1,h2⟩,h3,h4,h5,⟨h6,h7⟩,h8⟩;exact⟨h1,h2,h3,h4,h5,h6,h7,h8⟩
theorem Zja (x:Record):ZhC x x=true:=Ziz.2 rfl
theorem ZqZ {x r:Record} (h:x≠r):ZhC x r=false:=by
 cases e:ZhC x r with
 |false=>rfl
 |true=>exact absurd (Ziz.1 e) h
instance:DecidableEq Record:=fun x y=>decidable_of_iff (ZhC x y=true) Ziz
def Zg8 (a:Entry):Int×Int:=(a.House,a.No)
def Za1 (r:Record):Int×Int:=(r.At.House,r.At.No)
def ZsI (a b:Int):Int:=if a<b then -1 else if b<a then 1 else 0
def Zq2 (a b:Entry):Int:=if ZsI a.House b.House≠0 then ZsI a.House b.House else ZsI a.No b.No
theorem ZsH (a b:Entry):Zq2 a b<0↔eLt (Zg8 a) (Zg8 b):=by
 unfold Zq2 ZsI eLt Zg8
 simp only
 repeat' split
 all_goals omega
theorem ZsG (a b:Entry):Zq2 a b=0↔Zg8 a=Zg8 b:=by
 unfold Zq2 ZsI Zg8
 simp only[Prod.mk.injEq]
 repeat' split
 all_goals omega
theorem ZiI (k:Nat) (a b:Int):ZbJ k a b=some (ZsI a b):=by
 unfold ZbJ ZcE ZsI
 simp only[Option.bind_some,cond_false]
 by_cases h:a<b
 ·simp[h]
 ·by_cases h2:b<a<;>simp[h,h2]
theorem ZqP {k:Nat} (hk:10<k) (a b:Int):ZaG k [a,b]=some (if a≠0 then a else b):=by
 obtain⟨m,rfl⟩:∃ m,k=m+3:=⟨k - 3,by omega⟩
 unfold ZaG
 have h0:at? [a,b] 0=some a:=rfl
 have h1:at? [a,b] 1=some b:=rfl
 have w0:w64 (0+1)=1:=by decide
 have w1:w64 (1+1)=2:=by decide
 have v1:w64 1=1:=by decide
 have v2:w64 2=2:=by decide
 have l2:decide ((2:Int)<(([a,b]:List Int).length:Int))=false:=rfl
 have l1:decide ((1:Int)<(([a,b]:List Int).length:Int))=true:=rfl
 have l0:decide ((0:Int)<(([a,b]:List Int).length:Int))=true:=rfl
 by_cases e:a=0
 ·subst e
  by_cases e2:b=0
  ·subst e2
   simp[whl,ZaG.b0,h0,h1,w0,w1,v1,v2,l0,l1,l2]
  ·simp[whl,ZaG.b0,h0,h1,w0,w1,v1,v2,l0,l1,l2,e2]
 ·simp[whl,ZaG.b0,h0,l0,e]
theorem Zg4 {k:Nat} (hk:10<k) (a b:Entry):Zdj k a b=some (Zq2 a b):=by
 unfold Zdj Zq2
 simp only[ZiI,ZqP hk,Option.bind_some]
theorem Zno {n:Nat} (h:n≤1000000):w64 (Int.fdiv (IntKind.u64.wrap (w64 (n:Int))) (2 ^ 1))=((n / 2:Nat):Int):=by
 have h1:IntKind.u64.wrap (n:Int)=n:=by
  simp only[IntKind.wrap,IntKind.bits,IntKind.signed]
  simp
  omega
 rw[Za8 (n:=(n:Int)) (by omega) (by omega),h1,Int.fdiv_eq_ediv_of_nonneg _ (by decide)]
 have:((n:Int) / 2 ^ 1)=((n / 2:Nat):Int):=by simp
 rw[this,Za8 (by omega) (by omega)]
theorem ZlO {k0:Nat} (hk0:10<k0) {l:List Record} (hs:Srt Za1 l) (hl:l.length≤1000) (e:Entry):∀ (d i j k:Nat),j - i≤d→d<k→i≤pos Za1 l (Zg8 e)→pos Za1 l (Zg8 e)≤j→j≤l.length→
  whl (Zac.b0 k0 (fun q0 q1=>ZbY k0 q0 q1) l e) k ((i:Int),(j:Int))=some (.brk ((pos Za1 l (Zg8 e):Nat):Int)):=by
 intro d
 induction d with
 |zero=>
  intro i j k h1 h2 h3 h4 h5
  obtain⟨m,rfl⟩:∃ m,k=m+1:=⟨k - 1,by omega⟩
  have:i=pos Za1 l (Zg8 e):=by omega
  have hd:decide ((i:Int)<(j:Int))=false:=by simp;omega
  simp only[whl,Zac.b0,hd,cond_false]
  rw[this]
 |succ d ih=>
  intro i j k h1 h2 h3 h4 h5
  obtain⟨m,rfl⟩:∃ m,k=m+1:=⟨k - 1,by omega⟩
  by_cases hij:i<j
  ·have hd:decide ((i:Int)<(j:Int))=true:=by simp;omega
   have hm:w64 (Int.fdiv (IntKind.u64.wrap (w64 ((i:Int)+(j:Int)))) (2 ^ 1))=(((i+j) / 2:Nat):Int):=by
    have:=Zno (n:=i+j) (by omega)
    rw[←this];push_cast;rfl
   have hlt:(i+j) / 2<l.length:=by omega
   have hx:l[(i+j) / 2]?=some l[(i+j) / 2]:=gG hlt
   have hat:=Zpu Za1 hs (Zg8 e) hx
   have hf:ZbY k0 l[(i+j) / 2] e=some (Zq2 l[(i+j) / 2].At e):=by
    unfold ZbY;rw[Zg4 hk0];rfl
   have hc:=ZsH l[(i+j) / 2].At e
   have hkk:Zg8 l[(i+j) / 2].At=Za1 l[(i+j) / 2]:=rfl
   rw[hkk]at hc
   by_cases hp:(i+j) / 2<pos Za1 l (Zg8 e)
   ·have hneg:decide (Zq2 l[(i+j) / 2].At e<0)=true:=decide_eq_true (hc.2 (hat.2 hp))
    have hw:w64 ((((i+j) / 2:Nat):Int)+1)=(((i+j) / 2+1:Nat):Int):=by rw[Za8 (by omega) (by omega)];push_cast;rfl
    simp only[whl,Zac.b0,hd,cond_true,hm,ZcA hx,Option.bind_some,hf,hneg,hw]
    exact ih _ _ _ (by omega) (by omega) (by omega) h4 h5
   ·have hneg:decide (Zq2 l[(i+j) / 2].At e<0)=false:=decide_eq_false (fun c=>hp (hat.1 (hc.1 c)))
    simp only[whl,Zac.b0,hd,cond_true,hm,ZcA hx,Option.bind_some,hf,hneg,cond_false]
    exact ih _ _ _ (by omega) (by omega) h3 (by omega) (by omega)
  ·have:i=pos Za1 l (Zg8 e):=by omega
   have hd:decide ((i:Int)<(j:Int))=false:=by simp;omega
   simp only[whl,Zac.b0,hd,cond_false]
   rw[this]
theorem Znm {k:Nat} (hk:10000<k) {b:Book} (hs:Srt Za1 b.Records) (hl:b.Records.length≤1000) (e:Entry):
  ZeZ k b e=some (((pos Za1 b.Records (Zg8 e):Nat):Int),(ZfF Za1 b.Records (Zg8 e)).isSome):=by
 unfold ZeZ Zac
 have h:=ZlO (k0:=k) (by omega) hs hl e b.Records.length 0 b.Records.length k (by omega) (by omega) (by omega) (Zpl Za1 _ _) (by omega)
 rw[Int.natCast_zero]at h
 rw[h]
 simp only[Option.bind_some]
 rw[Zk2 Za1 hs]
 by_cases hp:pos Za1 b.Records (Zg8 e)<b.Records.length
 ·have hx:b.Records[pos Za1 b.Records (Zg8 e)]?=some b.Records[pos Za1 b.Records (Zg8 e)]:=gG hp
  have hd:decide (((pos Za1 b.Records (Zg8 e):Nat):Int)<(b.Records.length:Int))=true:=by simp;omega
  simp only[hd,cond_true,ZcA hx,Option.bind_some]
  unfold ZbY
  rw[Zg4 (by omega)]
  simp only[Option.bind_some,hx]
  have hc:=ZsG b.Records[pos Za1 b.Records (Zg8 e)].At e
  have hkk:Zg8 b.Records[pos Za1 b.Records (Zg8 e)].At=Za1 b.Records[pos Za1 b.Records (Zg8 e)]:=rfl
  rw[hkk]at hc
  by_cases he:Za1 b.Records[pos Za1 b.Records (Zg8 e)]=Zg8 e
  ·rw[hc.2 he];simp[Option.filter,he]
  ·simp[Option.filter,he,mt hc.1 he]
 ·have hx:b.Records[pos Za1 b.Records (Zg8 e)]?=none:=List.getElem?_eq_none (by omega)
  have hd:decide (((pos Za1 b.Records (Zg8 e):Nat):Int)<(b.Records.length:Int))=false:=by simp;omega
  simp only[hd,cond_false,hx]
  rfl
def Zrw (l:List Record):Vec 6 Int:=⟨[cnt Za1 l 0,cnt Za1 l 1,cnt Za1 l 2,cnt Za1 l 3,cnt Za1 l 4,cnt Za1 l 5],rfl⟩
theorem six {h:Int} (h0:0≤h) (h1:h≤5):h=0∨h=1∨h=2∨h=3∨h=4∨h=5:=by omega
theorem Zly (l:List Record) {h:Int} (h0:0≤h) (h1:h≤5):(Zrw l).at? h=some ((cnt Za1 l h:Nat):Int):=by
 rcases six h0 h1 with rfl|rfl|rfl|rfl|rfl|rfl<;>rfl
theorem Zq4 (l:List Record) (r:Record) (h0:0≤r.At.House) (h1:r.At.House≤5):(Zrw l).set r.At.House ((cnt Za1 l r.At.House:Nat)+1:Int)=Zrw (l++[r]):=by
 have hc:∀ h,cnt Za1 (l++[r]) h=cnt Za1 l h+if r.At.House=h then 1 else 0:=fun h=>by
  rw[ZcU,ZcF,Zfe]
  show _+(0+if r.At.House=h then 1 else 0)=_
  omega
 apply Vec.ext
 unfold Zrw
 simp only[hc]
 rcases six h0 h1 with e|e|e|e|e|e<;>rw[e]<;>simp[Vec.set]
def Zee (r:Record):Prop:=0≤r.At.House∧r.At.House≤5
theorem Zd7 {r:Record} (h:ZeV r=true):Zee r:=by
 unfold ZeV ZeP within at h
 simp only[Bool.and_eq_true,decide_eq_true_eq]at h
 exact h.1.1
theorem Zry (l:List Record) (h:Int):cnt Za1 l h≤l.length:=List.countP_le_length
theorem ZiS {τ:Type}{body:τ→Option (Stp τ (Vec 6 Int) (Vec 6 Int))} (mk:Int→Vec 6 Int→τ) {l:List Record} (hl:l.length≤100000) (hh:∀ r∈l,Zee r) {k:Nat} (hk:1000000<k)
  (h1:∀ (i:Nat) r s,l[i]?=some r→body (mk i s)=(s.at? r.At.House).bind fun x=>some (.next (mk (w64 ((i:Int)+1)) (s.set r.At.House (w64 (x+1)))))) (h2:∀ s,body (mk l.length s)=some (.brk s)):
  whl body k (mk 0 (Vec.rep 6 (0:Int)))=some (.brk (Zrw l)):=by
 have h:=ZeM (l:=l) (body:=body) mk (fun s r=>match s.at? r.At.House with|some x=>s.set r.At.House (w64 (x+1))|none=>s) (fun i s=>s=Zrw (l.take i)) (by omega) (k:=k) (by omega) (s0:=Vec.rep 6 (0:Int)) (by rfl) (fun i r s hx hs=>by
  have hi:=(gS.1 hx).1
  have hr:=hh r (List.mem_of_getElem? hx)
  have e:l.take (i+1)=l.take i++[r]:=by rw[List.take_add_one,hx];rfl
  have hc:=Zry (l.take i) r.At.House
  rw[List.length_take]at hc
  rw[h1 i r s hx,hs,Zly _ hr.1 hr.2]
  simp only[Option.bind_some]
  have hw:w64 (((cnt Za1 (l.take i) r.At.House:Nat):Int)+1)=((cnt Za1 (l.take i) r.At.House:Nat):Int)+1:=Za8 (by omega) (by omega)
  rw[hw,Zq4 _ _ hr.1 hr.2,e]
  exact⟨trivial,rfl⟩) (fun s hs=>h2 s)
 have h3:=h.2
 rw[List.take_length]at h3
 rw[h.1,h3]
theorem Znp {k:Nat} (hk:1000000<k) {b:Book} (hl:b.Records.length≤100000) (hh:∀ r∈b.Records,Zee r):ZaT k b=some (Zrw b.Records):=by
 unfold ZaT
 rw[ZiS (l:=b.Records) (body:=ZaT.b0 k b) (fun i s=>(s,i)) hl hh hk (fun i r s hx=>by
  have hi:=(gS.1 hx).1
  unfold ZaT.b0
  simp only[decide_eq_true (show (i:Int)<(b.Records.length:Int) by omega),cond_true,ZcA hx,Option.bind_some]) (fun s=>by
  unfold ZaT.b0
  simp only[(by simp:decide ((b.Records.length:Int)<(b.Records.length:Int))=false),cond_false])]
 rfl
theorem Zib {k:Nat}{l:List Record} (hl:l.length≤1000):ZaI k l=some l:=by
 unfold ZaI ZiN
 rw[if_pos ⟨by omega,by omega⟩];rfl
theorem Zff {k:Nat}{b:Book} (hl:b.Records.length≤1000):ZcS k b=some b:=by
 unfold ZcS
 rw[Zib hl];rfl
theorem Zk6 {k:Nat}{l:List Record} (hl:l.length≤1000) (r:Record):ZaU k l ((pos Za1 l (Za1 r):Nat):Int) [r]=some (Zil Za1 l r):=by
 have:=Zpl Za1 l (Za1 r)
 unfold ZaU
 rw[if_pos ⟨⟨by omega,by omega⟩,rfl,⟨by omega,by omega⟩⟩]
 rfl
end Go.Abs
namespace Go.Abs
open Go Go.Proofs
set_option maxRecDepth 20000
set_option linter.unusedVariables false
set_option linter.unusedSimpArgs false
section
variable {α:Type} (key:α→Int×Int)
theorem ZtC:∀ {l:List α}{c:Int→Int},VL key c l↔∀ (i:Nat) x,l[i]?=some x→(key x).2=c (key x).1+cnt key (l.take i) (key x).1
 |[],c=>by simp[VL]
 |y::l,c=>by
  unfold VL
  rw[ZtC (l:=l)]
  constructor
  ·rintro⟨h1,h2⟩ i x hx
   cases i with
   |zero=>cases hx;rw[h1];simp[Zfe]
   |succ i=>
    rw[List.getElem?_cons_succ]at hx
    rw[h2 i x hx,List.take_succ_cons,ZcF]
    by_cases e:(key x).1=(key y).1
    ·rw[if_pos e,if_pos e.symm];simp only[e];omega
    ·rw[if_neg e,if_neg (Ne.symm e)];omega
  ·intro h
   refine⟨?_,fun i x hx=>?_⟩
   ·have:=h 0 y rfl
    simpa [Zfe] using this
   ·have:=h (i+1) x (by rw[List.getElem?_cons_succ];exact hx)
    rw[this,List.take_succ_cons,ZcF]
    by_cases e:(key x).1=(key y).1
    ·rw[if_pos e,if_pos e.symm];simp only[e];omega
    ·rw[if_neg e,if_neg (Ne.symm e)];omega
end
end Go.Abs
namespace Go.Abs
open Go Go.Proofs
set_option maxRecDepth 20000
set_option linter.unusedVariables false
set_option linter.unusedSimpArgs false
theorem Zns {k:Nat} (hk:1000000<k) {l:List Record} (hl:l.length≤100000) (hh:∀ r∈l,Zee r):Zbl k l=some (Zrw l):=by
 unfold Zbl
 rw[ZiS (l:=l) (body:=Zbl.b0 k l) (fun i s=>(s,i)) hl hh hk (fun i r s hx=>by
  have hi:=(gS.1 hx).1
  unfold Zbl.b0
  simp only[decide_eq_true (show (i:Int)<(l.length:Int) by omega),cond_true,ZcA hx,Option.bind_some]) (fun s=>by
  unfold Zbl.b0
  simp only[(by simp:decide ((l.length:Int)<(l.length:Int))=false),cond_false])]
 rfl
def Zkc (l:List Record) (r:Record):List Record×Int:=match ZfF Za1 l (Za1 r) with
 |some x=>if x=r then (l,0) else ([],92)
 |none=>if (cnt Za1 l r.At.House:Int)<r.At.No then ([],93) else if (l.length:Int)=60 then ([],2) else (Zil Za1 l r,0)
theorem ZfW {k:Nat} (hk:1000000<k) {b:Book} (hs:Srt Za1 b.Records) (hl:b.Records.length≤900) (hh:∀ r∈b.Records,Zee r) (r:Record):
  Zc5 k b r=some (bif ZeV r then (⟨(Zkc b.Records r).1⟩,(Zkc b.Records r).2) else (⟨[]⟩,90)):=by
 unfold Zc5
 rw[ZfS (by omega)]
 simp only[Option.bind_some]
 cases hr:ZeV r with
 |false=>rfl
 |true=>
  have hho:=Zd7 hr
  have hkk:Zg8 r.At=Za1 r:=rfl
  simp only[Bool.not_true,cond_false,cond_true,Znm (show 10000<k by omega) hs (show b.Records.length≤1000 by omega),Option.bind_some,hkk]
  unfold Zkc
  cases hf:ZfF Za1 b.Records (Za1 r) with
  |some x=>
   have hp:=Zk2 Za1 hs (Za1 r)
   rw[hf]at hp
   have hx:b.Records[pos Za1 b.Records (Za1 r)]?=some x:=by
    cases hq:b.Records[pos Za1 b.Records (Za1 r)]? with
    |none=>rw[hq]at hp;cases hp
    |some y=>
     rw[hq]at hp
     simp only[Option.filter]at hp
     split at hp
     ·exact hp.symm
     ·cases hp
   simp only[Option.isSome_some,cond_true,ZcA hx,Option.bind_some]
   by_cases e:x=r
   ·subst e
    have:=Zja x
    unfold ZhC at this
    rw[this]
    simp only[cond_true,Zff (show b.Records.length≤1000 by omega),Option.bind_some,if_true]
   ·have:=ZqZ e
    unfold ZhC at this
    rw[this]
    simp only[cond_false,if_neg e]
  |none=>
   simp only[Option.isSome_none,cond_false,Znp hk (show b.Records.length≤100000 by omega) hh,Option.bind_some,Zly _ hho.1 hho.2]
   by_cases hc:((cnt Za1 b.Records r.At.House:Nat):Int)<r.At.No
   ·simp only[decide_eq_true hc,cond_true,if_pos hc]
   ·simp only[decide_eq_false hc,cond_false,if_neg hc]
    by_cases h60:(b.Records.length:Int)=60
    ·simp only[decide_eq_true h60,cond_true,if_pos h60]
    ·simp only[decide_eq_false h60,cond_false,if_neg h60,Zib (show b.Records.length≤1000 by omega),Option.bind_some,Zk6 (show b.Records.length≤1000 by omega)]
end Go.Abs
namespace Go.Abs
open Go Go.Proofs
set_option maxRecDepth 1000000
theorem Zpr:ZhD 18446744073709551616=some true:=by decide +kernel
end Go.Abs
namespace Go.Abs
open Go Go.Proofs
set_option maxRecDepth 20000
set_option linter.unusedVariables false
set_option linter.unusedSimpArgs false
theorem Zgq {α:Type}{l:List α}{i:Nat}{x:α} (h:l[i]?=some x):l.take (i+1)=l.take i++[x]:=by
 rw[List.take_add_one,h];rfl
end Go.Abs
