/-
  Part 4 of the proof: a machine over named blocks, what each function computes, and what follows. No condition.
-/
import Derived.Test.YtpgccpdlilnakaaProg
import Derived.Ground.Names2Prog
import Derived.Shelf.Lays
import Derived.WalkKit
import Derived.Lib.Walk
import Derived.Lib.SliceRun
import Derived.Lib.JoinLaws
import Derived.Lib.AppendZerosOnto
import Derived.Lib.Overlaps
import Derived.Laws.Externs
import Derived.Laws.IdiomCopy
import Derived.Laws.NewBlocks
import Derived.Shelf.Spec.SlicesInsert
import Derived.Tactics
import Derived.Tactics2
import Derived.Laws.Pointers
import Derived.RangeFuncLeaves
import Derived.Test.YtpgccpdlilnakaaBBooksC
set_option linter.unusedVariables false
set_option linter.unusedSimpArgs false
set_option linter.all false
set_option maxRecDepth 100000
set_option maxHeartbeats 8000000
noncomputable section
namespace Go.Abs
open Go.Proofs
structure Entry where
  Ag:Int
  No:Int
def Entry.c (x:Entry):List AV:=[.int .i64 x.Ag,.int .i64 x.No]
structure Ab where
  At:Entry
  Kind:Int
  Day:Int
  AI:Int
  Of:Entry
  Text:ByteArray
def Ab.c (x:Ab):List AV:=[.int .i64 x.At.Ag,.int .i64 x.At.No,.int .i64 x.Kind,.int .i64 x.Day,.int .i64 x.AI,.int .i64 x.Of.Ag,.int .i64 x.Of.No,.str x.Text]
structure Al where
  Ac:(List Ab)
def Al.c (x:Al):List AV:=[.sl 8 (List.map Ab.c x.Ac)]
structure B9 where
  Ab:Ab
  At:Entry
  AI:Int
def B9.c (x:B9):List AV:=[.int .i64 x.Ab.At.Ag,.int .i64 x.Ab.At.No,.int .i64 x.Ab.Kind,.int .i64 x.Ab.Day,.int .i64 x.Ab.AI,.int .i64 x.Ab.Of.Ag,.int .i64 x.Ab.Of.No,.str x.Ab.Text,.int .i64 x.At.Ag,.int .i64 x.At.No,.int .i64 x.AI]
structure Au where
  At:Int
  CD:(Aa 2 (Aa 32 Int))
def Au.c (x:Au):List AV:=[.int .i64 x.At]++(Aa.c (n:=2) (Aa.c (n:=32) ah) x.CD)
structure Af where
  AJ:(List (Aa 2 (Aa 32 Int)))
  AD:(List Au)
def Af.c (x:Af):List AV:=[.sl 64 (List.map (Aa.c (n:=2) (Aa.c (n:=32) ah)) x.AJ),.sl 65 (List.map Au.c x.AD)]
structure A9 where
  Al:Al
  Da:Int
  Cl:Int
  Used:Int
def A9.c (x:A9):List AV:=[.sl 8 (List.map Ab.c x.Al.Ac),.int .i64 x.Da,.int .i64 x.Cl,.int .i64 x.Used]
structure ar where
  Af:Af
def ar.c (x:ar):List AV:=[.sl 64 (List.map (Aa.c (n:=2) (Aa.c (n:=32) ah)) x.Af.AJ),.sl 65 (List.map Au.c x.Af.AD)]
structure bT where
  acj:(Option ar)
  aO:Int
  we:Int
  used:Int
  book:Al
  records:Int
def bT.c (x:bT):List AV:=[aP 2 ar.c x.acj,.int .i64 x.aO,.int .i64 x.we,.int .i64 x.used,.sl 8 (List.map Ab.c x.book.Ac),.int .i64 x.records]
def X3:TI:=⟨1,8,[.int .i64 0],.int .i64,0,0,false,[],[],true,[]⟩
def X4:TI:=⟨1,1,[.bool false],.bool,0,0,false,[],[],true,[]⟩
def X5:TI:=⟨1,1,[.int .u8 0],.int .u8,0,0,false,[],[],true,[]⟩
def X9:TI:=⟨1,16,[.str ByteArray.empty],.str,0,0,false,[],[],true,[]⟩
def Er:TI:=⟨1,16,[.bp],.iface,0,0,false,[],[],false,[]⟩
def EB:TI:=⟨2,16,[.int .i64 0,.int .i64 0],.struct,0,0,false,[],[(0,1,false),(1,1,false)],true,[]⟩
def EC:TI:=⟨8,72,[.int .i64 0,.int .i64 0,.int .i64 0,.int .i64 0,.int .i64 0,.int .i64 0,.int .i64 0,.str ByteArray.empty],.struct,0,0,false,[],[(0,2,true),(2,1,false),(3,1,false),(4,1,false),(5,2,true),(7,1,false)],true,[]⟩
def ED:TI:=⟨1,24,[.nil],.slice 122,32,32,true,Aa.c (n:=32) ah (Aa.rep 32 (0:Int)),[],false,[(0,122,32)]⟩
def EE:TI:=⟨1,8,[.int .i64 0],.int .i64,0,0,false,[],[],true,[]⟩
def EF:TI:=⟨1,24,[.nil],.slice 139,64,64,true,Aa.c (n:=2) (Aa.c (n:=32) ah) (Aa.rep 2 ((Aa.rep 32 (0:Int)):(Aa 32 Int))),[],false,[(0,139,64)]⟩
def EG:TI:=⟨1,24,[.nil],.slice 141,65,72,true,[.int .i64 0]++(Aa.c (n:=2) (Aa.c (n:=32) ah) (Aa.rep 2 ((Aa.rep 32 (0:Int)):(Aa 32 Int)))),[],false,[(0,141,65)]⟩
def EH:TI:=⟨2,48,[.nil,.nil],.struct,0,0,false,[],[(0,1,false),(1,1,false)],false,[(0,139,64),(1,141,65)]⟩
def EI:TI:=⟨1,24,[.nil],.slice 25,8,72,true,[.int .i64 0,.int .i64 0,.int .i64 0,.int .i64 0,.int .i64 0,.int .i64 0,.int .i64 0,.str ByteArray.empty],[],false,[(0,25,8)]⟩
def EJ:TI:=⟨1,24,[.nil],.struct,0,0,false,[],[(0,1,false)],false,[(0,25,8)]⟩
def EK:TI:=⟨4,48,[.nil,.int .i64 0,.int .i64 0,.int .i64 0],.struct,0,0,false,[],[(0,1,true),(1,1,false),(2,1,false),(3,1,false)],false,[(0,25,8)]⟩
def EL:TI:=⟨1,24,[.nil],.slice 5,1,1,false,[.int .u8 0],[],false,[(0,5,1)]⟩
def EM:TI:=⟨1,24,[.nil],.slice 3,1,8,false,[.int .i64 0],[],false,[(0,3,1)]⟩
def EN:TI:=⟨11,96,[.int .i64 0,.int .i64 0,.int .i64 0,.int .i64 0,.int .i64 0,.int .i64 0,.int .i64 0,.str ByteArray.empty,.int .i64 0,.int .i64 0,.int .i64 0],.struct,0,0,false,[],[(0,8,true),(8,2,true),(10,1,false)],true,[]⟩
def EO:TI:=⟨6,48,Aa.c (n:=6) eI (Aa.rep 6 (0:Int)),.array 6 3,1,8,false,[.int .i64 0],[],true,[]⟩
def Eh:TI:=⟨32,32,Aa.c (n:=32) ah (Aa.rep 32 (0:Int)),.array 32 5,1,1,false,[.int .u8 0],[],true,[]⟩
def Ei:TI:=⟨1,24,[.nil],.slice 126,32,32,true,Aa.c (n:=32) ah (Aa.rep 32 (0:Int)),[],false,[(0,126,32)]⟩
def Ej:TI:=⟨32,32,Aa.c (n:=32) ah (Aa.rep 32 (0:Int)),.array 32 5,1,1,false,[.int .u8 0],[],true,[]⟩
def Ek:TI:=⟨1,8,[.bf],.ptr 134,0,0,false,[],[],false,[]⟩
def El:TI:=⟨2,48,[.nil,.nil],.struct,0,0,false,[],[(0,2,true)],false,[(0,139,64),(1,141,65)]⟩
def Em:TI:=⟨64,64,Aa.c (n:=2) (Aa.c (n:=32) ah) (Aa.rep 2 ((Aa.rep 32 (0:Int)):(Aa 32 Int))),.array 2 122,32,32,true,Aa.c (n:=32) ah (Aa.rep 32 (0:Int)),[],true,[]⟩
def En:TI:=⟨65,72,[.int .i64 0]++(Aa.c (n:=2) (Aa.c (n:=32) ah) (Aa.rep 2 ((Aa.rep 32 (0:Int)):(Aa 32 Int)))),.struct,0,0,false,[],[(0,1,false),(1,64,true)],true,[]⟩
def Eo:TI:=⟨6,64,[.bf,.int .i64 0,.int .i64 0,.int .i64 0,.nil,.int .i64 0],.struct,0,0,false,[],[(0,1,false),(1,1,false),(2,1,false),(3,1,false),(4,1,true),(5,1,false)],false,[(4,25,8)]⟩
def Ep:TI:=⟨1,24,[.nil],.slice 4,1,1,false,[.bool false],[],false,[(0,4,1)]⟩
def Es:TI:=⟨2,16,Aa.c (n:=2) eI (Aa.rep 2 (0:Int)),.array 2 3,1,8,false,[.int .i64 0],[],true,[]⟩
def Et:TI:=⟨1,24,[.nil],.slice 201,2,16,true,Aa.c (n:=2) eI (Aa.rep 2 (0:Int)),[],false,[(0,201,2)]⟩
def Eu:TI:=⟨0,0,[],.struct,0,0,false,[],[],true,[]⟩
def Ew:TI:=⟨1,8,[.bf],.ptr 208,0,0,false,[],[],false,[]⟩
def Ex:TI:=⟨1,24,[.nil],.struct,0,0,false,[],[(0,1,false)],false,[(0,5,1)]⟩
def Ey:TI:=⟨1,8,[.int .u64 0],.int .u64,0,0,false,[],[],true,[]⟩
def Ez:TI:=⟨1,8,[.mp none],.map 23 4,0,0,false,[],[],false,[]⟩
def EA:TI:=⟨1,8,[.bo],.func,0,0,false,[],[],false,[]⟩
def TL:List (Nat×TI):=[(3,X3),(4,X4),(5,X5),(9,X9),(20,Er),(23,EB),(25,EC),(27,ED),(28,EE),(39,EF),(40,EG),(42,EH),(44,EI),(46,EJ),(48,EK),(56,EL),(63,EM),(94,EN),(95,EO),(122,Eh),(124,Ei),(126,Ej),(130,Ek),(134,El),(139,Em),(141,En),(145,Eo),(173,Ep),(201,Es),(202,Et),(204,Eu),(206,Ew),(208,Ex),(211,Ey),(216,Ez),(224,EA)]
def T:Aw:=look TL
theorem As:AG Try.prog T:=aks _ _ (by decide +kernel)
theorem bY:Try.prog.follows .mixedOrders=true:=by rfl
theorem GW:T 3=some X3:=rfl
theorem GY:T 4=some X4:=rfl
theorem G4:T 5=some X5:=rfl
theorem G7:T 9=some X9:=rfl
theorem GI:T 20=some Er:=rfl
theorem GR:T 23=some EB:=rfl
theorem GS:T 25=some EC:=rfl
theorem GU:T 27=some ED:=rfl
theorem GV:T 28=some EE:=rfl
theorem GX:T 39=some EF:=rfl
theorem GZ:T 40=some EG:=rfl
theorem G0:T 42=some EH:=rfl
theorem G1:T 44=some EI:=rfl
theorem G2:T 46=some EJ:=rfl
theorem G3:T 48=some EK:=rfl
theorem G5:T 56=some EL:=rfl
theorem G6:T 63=some EM:=rfl
theorem G8:T 94=some EN:=rfl
theorem G9:T 95=some EO:=rfl
theorem Gx:T 122=some Eh:=rfl
theorem Gy:T 124=some Ei:=rfl
theorem Gz:T 126=some Ej:=rfl
theorem GA:T 130=some Ek:=rfl
theorem GB:T 134=some El:=rfl
theorem GC:T 139=some Em:=rfl
theorem GF:T 141=some En:=rfl
theorem GG:T 145=some Eo:=rfl
theorem GH:T 173=some Ep:=rfl
theorem GJ:T 201=some Es:=rfl
theorem GK:T 202=some Et:=rfl
theorem GL:T 204=some Eu:=rfl
theorem GM:T 206=some Ew:=rfl
theorem GN:T 208=some Ex:=rfl
theorem GO:T 211=some Ey:=rfl
theorem GP:T 216=some Ez:=rfl
theorem GQ:T 224=some EA:=rfl
attribute [go_sem] GW X3 GY X4 G4 X5 G7 X9 GI Er GR EB GS EC GU ED GV EE GX EF GZ EG G0 EH G1 EI G2 EJ G3 EK G5 EL G6 EM G8 EN G9 EO Gx Eh Gy Ei Gz Ej GA Ek GB El GC Em GF En GG Eo GH Ep GJ Es GK Et GL Eu GM Ew GN Ex GO Ey GP Ez GQ EA
theorem aeU:VK 8 Ab.c:=⟨fun x=>rfl,fun x=>⟨fun _=>rfl,fun _=>rfl,fun _ _=>rfl,rfl,fun _=>rfl,fun _=>rfl,fun _=>rfl⟩⟩
theorem abo (v:(Aa 2 Int)):(Aa.c (n:=2) eI v).length=2:=(VK.vec oM 2).len v
theorem abn (v:(Aa 2 Int)) (k:Nat) (b:Ap):AV.cH k b (Aa.c (n:=2) eI v)=some (Aa.c (n:=2) eI v):=wo (fun _=>rfl) v
theorem afp (v:(Aa 2 Int)):Db (Aa.c (n:=2) eI v) 2 3 4 5:=vI (abo v) ((VK.vec oM 2).pM v) (abn v) rfl rfl rfl
attribute [go_sem] abo abn afp
theorem abq (v:(Aa 6 Int)):(Aa.c (n:=6) eI v).length=6:=(VK.vec oM 6).len v
theorem abp (v:(Aa 6 Int)) (k:Nat) (b:Ap):AV.cH k b (Aa.c (n:=6) eI v)=some (Aa.c (n:=6) eI v):=wo (fun _=>rfl) v
theorem afq (v:(Aa 6 Int)):Db (Aa.c (n:=6) eI v) 6 7 8 9:=vI (abq v) ((VK.vec oM 6).pM v) (abp v) rfl rfl rfl
theorem afr (a b:(Aa 6 Int)):ba (Aa.c (n:=6) eI (Aa.rep 6 (0:Int))) (Aa.c (n:=6) eI a) (Aa.c (n:=6) eI b)=some ((Aa.eq (fun(x y:Int)=>decide (x=y))) a b):=acv oM.len (fun x y=>by simp[ba,gD,eI,ah,eB,eS]) a b
attribute [go_sem] abq abp afq afr
theorem abk (v:(Aa 32 Int)):(Aa.c (n:=32) ah v).length=32:=(VK.vec lg 32).len v
theorem yK (v:(Aa 32 Int)) (k:Nat) (b:Ap):AV.cH k b (Aa.c (n:=32) ah v)=some (Aa.c (n:=32) ah v):=wo (fun _=>rfl) v
theorem afm (v:(Aa 32 Int)):Db (Aa.c (n:=32) ah v) 32 33 34 35:=vI (abk v) ((VK.vec lg 32).pM v) (yK v) rfl rfl rfl
theorem afn (a b:(Aa 32 Int)):ba (Aa.c (n:=32) ah (Aa.rep 32 (0:Int))) (Aa.c (n:=32) ah a) (Aa.c (n:=32) ah b)=some ((Aa.eq (fun(x y:Int)=>decide (x=y))) a b):=acv lg.len (fun x y=>by simp[ba,gD,eI,ah,eB,eS]) a b
attribute [go_sem] abk yK afm afn
theorem abm (v:(Aa 2 (Aa 32 Int))):(Aa.c (n:=2) (Aa.c (n:=32) ah) v).length=64:=(VK.vec (VK.vec lg 32) 2).len v
theorem abl (v:(Aa 2 (Aa 32 Int))) (k:Nat) (b:Ap):AV.cH k b (Aa.c (n:=2) (Aa.c (n:=32) ah) v)=some (Aa.c (n:=2) (Aa.c (n:=32) ah) v):=wo (fun y=>yK y k b) v
theorem afo (v:(Aa 2 (Aa 32 Int))):Db (Aa.c (n:=2) (Aa.c (n:=32) ah) v) 64 65 66 67:=vI (abm v) ((VK.vec (VK.vec lg 32) 2).pM v) (abl v) rfl rfl rfl
attribute [go_sem] abm abl afo
theorem alm:Lf Entry.c:=by
  intro x y hy
  simp only[Entry.c,AZ,BA,List.not_mem_nil,or_false]at hy
  rcases hy with hy|hy<;>first|(subst hy;rfl)
theorem aiI:Lf Au.c:=by
  intro x y hy
  simp only[Au.c,AZ,BA,List.not_mem_nil,or_false]at hy
  rcases hy with hy|hy<;>first|exact(Lf.vec (n:=2) (Lf.vec adE)) _ _ hy|(subst hy;rfl)
attribute [go_sem] Entry.c Ab.c Al.c B9.c Au.c Af.c A9.c ar.c bT.c
theorem yU {b:Bool} (h:(!b)=true):b=false:=by simpa using h
theorem yT {b:Bool} (h:(!b)=false):b=true:=by simpa using h
theorem gZ:∀ q_,(Aa.c (n:=32) ah q_).length=32:=fun q_=>(VK.vec lg 32).len q_
theorem gY:∀ q_,(ah q_).length=1:=fun q_=>lg.len q_
theorem afl:∀ q_,(Aa.c (n:=2) eI q_).length=2:=fun q_=>(VK.vec oM 2).len q_
theorem mj:∀ q_,(eI q_).length=1:=fun q_=>oM.len q_
theorem qw:∀ q_,(Aa.c (n:=2) (Aa.c (n:=32) ah) q_).length=64:=fun q_=>(VK.vec (VK.vec lg 32) 2).len q_
theorem qv:∀ q_,((Aa.c (n:=32) ah) q_).length=32:=fun q_=>(VK.vec lg 32).len q_
theorem yI:∀ q_,(Aa.c (n:=6) eI q_).length=6:=fun q_=>(VK.vec oM 6).len q_
theorem PB (fn : Func) (sc : SC) (rs : List ResultVar) {f : FuncId} {c : Code} {args : List AV} {v : AV} (h : Ar Try.prog fn.ntmps (Cv T rs fun y => NL y v) (run T 1000 [.sc sc] (St.enter args [] fn.ntmps))) (hf : Try.prog.funcs[f]? = some fn := by rfl) (hb : fn.body = some c := by rfl) (gq : (fn.name == "runtime.NumGoroutine") = false := by decide +kernel) (he : sc.bare = erase fn.ntmps c := by rfl) (dy : (erase fn.ntmps c).fits fn.ntmps = true := by decide +kernel) (dR : args.length ≤ fn.ntmps := by exact Nat.le_of_ble_eq_true rfl) (hrs : fn.results.toList = rs := by rfl) : An Try.prog f args (fun y => y = v) := An.nlr (An.ft As hf hb gq he dy dR (by rw [hrs]; exact eQ As 1000 _ _ h))
section
variable {n:Nat}{Φ:Exit->St->Prop}{f:FuncId}{args aw:List AV}{v:AV}{dst:Option Tmp}{drop:List Nat}{todo:List It}{st:St}{C:List (De×Rd)->St->Prop}{o:Ai}{os:List Ai}{acc:List (De×Rd)}{ops:List Ai}{befs:List (List Nat)}
theorem rS [Md] (h:Ar Try.prog n Φ (run T 1000 todo st)):AK Try.prog n Φ todo st:=eQ As 1000 _ _ h
theorem ay {α ρ:Type}{A:Option α}{G:α->Option ρ}{r:ρ}{vf:α->AV} (h0:A.bind G=some r) (hp:∀ x,A=some x->An Try.prog f aw (fun y=>y=vf x)) (hz:kE (AV.az (Heap.get ([]::st.fr::st.low)) args) aw) (h:∀ x,G x=some r->Ar Try.prog n Φ (run T 1000 todo (st.ga dst drop (vf x) [] (st.fr::st.low)))) (hr:∀ x,(AV.aD args).isEmpty || (vf x).cJ=true:=by intro _;first|rfl|(simp[AV.aD,AV.refs,AV.cJ,AV.leaf];done)|simp[AV.aD,AV.refs,AV.cJ,AV.leaf,go_sem]):Ar Try.prog n Φ (.call f args dst drop todo st):=let ⟨x,e,g⟩:=bind_some h0;EP As 1000 (hp x e) hz (hr x) (h x g)
theorem zqT (rs:List Nat) {α ρ:Type}{A:Option α}{G:α->Option ρ}{r:ρ}{vf:α->AV} (h0:A.bind G=some r) (hp:∀ x,A=some x->An Try.prog f aw (fun y=>y=vf x)) (hz:kE (AV.cB (only (Heap.get ([]::st.fr::st.low)) (rs.map fun k=>(1,k))) (cF (only (Heap.get ([]::st.fr::st.low)) (rs.map fun k=>(1,k))) 5) args) aw) (h:∀ x,G x=some r->Ar Try.prog n Φ (run T 1000 todo (st.ga dst drop (vf x) [] (cd st.fr rs::st.low)))):Ar Try.prog n Φ (.call f args dst drop todo st):=let ⟨x,e,g⟩:=bind_some h0;DV As 1000 rs (hp x e) hz (h x g)
theorem eJ {α ρ:Type}{A:Option α}{G:α->Option ρ}{r:ρ}{vf:α->AV} (h0:A.bind G=some r) (hp:∀ x,A=some x->An Try.prog f aw (fun y=>y=vf x)) (hz:kE (AV.az st.get args) aw) (h:∀ x,G x=some r->DG Try.prog T C (gQ T 1000 os ((⟨vf x,[]⟩,some (AV.aD args))::acc) (st.by o.dst [] ⟨vf x,[]⟩))) (hr:∀ x,(AV.aD args).isEmpty || (vf x).cJ=true:=by intro _;first|rfl|(simp[AV.aD,AV.refs,AV.cJ,AV.leaf];done)|simp[AV.aD,AV.refs,AV.cJ,AV.leaf,go_sem]):DG Try.prog T C (.call f args o os acc st):=let ⟨x,e,g⟩:=bind_some h0;EU 1000 (hp x e) hz (hr x) (h x g)
theorem aT [Md] {ds:List (De×Rd)}{oG:St} (h:Ar Try.prog n Φ (run T 1000 todo oG)) (hC:(calm ops befs ds=true/\AK Try.prog n Φ todo oG)->C acc st:=by exact fun h=>h) {sk:List (List (Nat×Nat)×Rd)} (h1:jM ds=sk:=by (simp only[jM,List.reverse_cons,List.reverse_nil,BV,A8,List.map_cons,List.map_nil,List.append_nil];rfl)) (h2:calm ops befs (lk sk)=true:=by first|decide +kernel|rfl):
    DG Try.prog T C (.done acc st):=agW As h hC h1 h2
end
theorem iL:∀ q_,(ah q_).length=1:=fun q_=>lg.len q_
theorem vy:∀ q_,(Aa.c (n:=32) ah q_).length=32:=fun q_=>(VK.vec lg 32).len q_
section
variable {n:Nat}{Φ:Exit->St->Prop}{f:FuncId}{args aw:List AV}{v:AV}{dst:Option Tmp}{drop:List Nat}{todo:List It}{st:St}{C:List (De×Rd)->St->Prop}{o:Ai}{os:List Ai}{acc:List (De×Rd)}
theorem gA [Md] (hp:An Try.prog f aw (fun y=>y=v)) (hz:kE (AV.az (Heap.get ([]::st.fr::st.low)) args) aw) (h:Ar Try.prog n Φ (run T 1000 todo (st.ga dst drop v [] (st.fr::st.low)))) (hr:(AV.aD args).isEmpty || v.cJ=true:=by first|rfl|simp[AV.aD,AV.refs,AV.cJ,AV.leaf]):Ar Try.prog n Φ (.call f args dst drop todo st):=EP As 1000 hp hz hr h
theorem dc0 [Md] (hp:An Try.prog f aw (fun y=>y=v)) (hz:kE (AV.az st.get args) aw) (h:DG Try.prog T C (gQ T 1000 os ((⟨v,[]⟩,some (AV.aD args))::acc) (st.by o.dst [] ⟨v,[]⟩))) (hr:(AV.aD args).isEmpty || v.cJ=true:=by first|rfl|simp[AV.aD,AV.refs,AV.cJ,AV.leaf]):DG Try.prog T C (.call f args o os acc st):=EU 1000 hp hz hr h
end
end Go.Abs

namespace Go.Abs
open Go.Proofs
def Fq.c:SC:=
 SQ [RG [wB 6 false 4 [6]],RG [wV 7 1 3 [1],wV 8 0 3,wO 9 .leq 3 7 8 3 4 [7,8],wV 10 9 4 [9],gd 10 true (wV 11 0 3 [0]),gd 10 true (wV 12 2 3 [2]),gd 10 true (wO 13 .leq 3 11 12 3 4 [11,12]),wZ 14 10 13 4 [10,13],wG 6 14 4 [14]],.ret]
def iP (k:Nat) (n0:Int) (xL:Int) (gn:Int):Option (Bool):=
 bif decide (xL<=n0) then
  some (decide (n0<=gn))
 else
  some false
theorem lq (k:Nat) (n0:Int) (xL:Int) (gn:Int) (r:Bool) (h0:iP k n0 xL gn=some r):An Try.prog 65 [.int .i64 n0,.int .i64 xL,.int .i64 gn] (fun y=>y=.bool r):=by
 refine PB Try.f65 Fq.c [.tmp 6] ?_
 simp only[iP]at h0
 try simp only[Fq.c,go_sem]
 refine AO h0 ?_ ?_<;>intro c1 h0<;>have F:=c1<;>try simp only[F,go_sem]
 obtain rfl:=oi h0
 refine Ad rfl ?_
 try simp only[F,go_sem]
 obtain rfl:=oi h0
 refine Ad rfl ?_
 try simp only[F,go_sem]
def E6.c:SC:=
 SQ [RG [wE 1 23 0 [0],wB 2 false 4 [2]],RG [wF 3 23 1 0,wD 4 3 3 [3],wC 5 65 #[.tmp 4,.const (.int .i64 0),.const (.int .i64 5)] #[3,3,3] 4 [4],wV 6 5 4 [5],gd 6 true (wF 7 23 1 1 [1]),gd 6 true (wD 8 3 7 [7]),gd 6 true (wC 9 65 #[.tmp 8,.const (.int .i64 0),.const (.int .i64 9999)] #[3,3,3] 4 [8]),wZ 10 6 9 4 [6,9],wG 2 10 4 [10]],.ret]
def qF (k:Nat) (x0:Entry):Option (Bool):=
 (iP k x0.Ag 0 5).bind fun x1=>
 bif x1 then
  (iP k x0.No 0 9999).bind fun x3=>
  some x3
 else
  some false
theorem abT (k:Nat) (x0:Entry) (r:Bool) (h0:qF k x0=some r):An Try.prog 133 [.agg (Entry.c x0)] (fun y=>y=.bool r):=by
 refine PB Try.f133 E6.c [.tmp 2] ?_
 simp only[qF]at h0
 try simp only[E6.c,go_sem]
 refine ay h0 (lq k _ _ _) ?_ (fun x1 h0=>?_)<;>try simp only[go_sem]
 refine AO h0 ?_ ?_<;>intro c2 h0<;>have F:=c2<;>try simp only[F,go_sem]
 refine ay h0 (lq k _ _ _) ?_ (fun x3 h0=>?_)<;>try simp only[F,go_sem]
 obtain rfl:=oi h0
 refine Ad rfl ?_
 try simp only[F,go_sem]
 obtain rfl:=oi h0
 refine Ad rfl ?_
 try simp only[F,go_sem]
def Dl.s0:SC:=
 SQ [RG [wO 10 .lss 3 9 8 3 4],CN 10 .skip (.exit 0),.block 1 (SQ [RG [wV 11 9 3,wG 3 11 3 [11]],RG [wV 12 0 9,wV 13 3 3,oQ 14 (.index 9 (.tmp 12) (.tmp 13)) 5 [12,13],oQ 15 (.binOp .lss 5 (.tmp 14) (.const (.int .u8 32)) 5) 4 [14],wV 16 15 4 [15],gd 16 false (wV 17 0 9),gd 16 false (wV 18 3 3 [3]),gd 16 false (oQ 19 (.index 9 (.tmp 17) (.tmp 18)) 5 [17,18]),
 gd 16 false (oQ 20 (.binOp .gtr 5 (.tmp 19) (.const (.int .u8 126)) 5) 4 [19]),wT 21 16 20 4 [16,20]],CN 21 (SQ [RG [wB 2 false 4],.ret]) .skip]),RG [wK 22 .add 3 9 1 3 3 [9],wV 9 22 3 [22]]]
def Dl.c:SC:=
 SQ [RG [wB 2 false 4 [2]],SQ [RG [wV 4 0 9,wL 5 4 9 3 [4],wK 6 .gtr 3 5 200 3 4 [5]],CN 6 (SQ [RG [wB 2 false 4],.ret]) .skip],SQ [RG [wV 7 0 9,wL 8 7 9 3 [7],oQ 9 (.move (.const (.int .i64 0))) 3],.block 0 (.loop Dl.s0)],RG [wB 2 true 4],.ret]
def fi.b0 (k:Nat) (s0:ByteArray):Int->Option (AW (Int) (Unit) (Bool)):=fun i2=>
 bif decide (i2<(s0.size:Int)) then
  (oF s0 i2).bind fun i4=>
  bif (!decide (i4<(32:Int))) then
   bif decide ((126:Int)<i4) then
    some (.ret false)
   else
    some (.next (af (i2+1)))
  else
   some (.ret false)
 else
  some (.brk ())
def fi.h0 (s0:ByteArray):Int->St:=fun i2=>⟨[(0,.str s0),(8,.int .i64 (s0.size:Int)),(9,.int .i64 i2)],[],[],1,Try.f134.ntmps⟩
def fi.x0:Unit->St:=fun _=>⟨[],[],[],1,Try.f134.ntmps⟩
def fi (k:Nat) (s0:ByteArray):Option (Bool):=
 bif decide ((200:Int)<(s0.size:Int)) then
  some false
 else
  (aB (fi.b0 k s0) k 0).bind fun r7=>match r7 with
  |.next _=>none
  |.ret v_=>some v_
  |.brk _=>
   some true
theorem agw (k:Nat) (s0:ByteArray) (r:Bool) (h0:fi k s0=some r):An Try.prog 134 [.str s0] (fun y=>y=.bool r):=by
 refine PB Try.f134 Dl.c [.tmp 2] ?_
 simp only[fi]at h0
 try simp only[Dl.c,go_sem]
 refine AO h0 ?_ ?_<;>intro c1 h0<;>have F:=c1<;>try simp only[F,go_sem]
 obtain rfl:=oi h0
 refine Ad rfl ?_
 try simp only[F,go_sem]
 obtain⟨r7,qs,h0⟩:=bs h0
 refine Bc qs (fi.h0 s0) (fi.x0) ?_ ?_ ?_
 refine Ae.go [0,8,9] [] rfl ?_
 try simp only[fi.h0,F,go_sem]
 rintro i2 dU Bq Bs h1 aS aY bM
 refine rS ?_
 simp only[fi.b0]at h1
 try simp only[Dl.s0,fi.h0,F,go_sem]
 refine AF F h1 ?_ ?_<;>intro F h1<;>try simp only[F,go_sem]
 obtain⟨i4,vm,h1⟩:=bs h1
 have F:=an (aen vm) (an (aem vm) F)
 try simp only[F,go_sem]
 refine Bd F h1 ?_ ?_<;>intro F h1<;>try simp only[F,go_sem]
 refine AF F h1 ?_ ?_<;>intro F h1<;>try simp only[F,go_sem]
 obtain rfl:=bM _ (oi h1).symm
 simp only at h0
 obtain rfl:=oi h0
 refine Ad rfl ?_
 try simp only[F,go_sem]
 refine Aq (aS _ _ (oi h1).symm (Ae.go [0,8,9] [] rfl ?_))
 try simp only[fi.h0,F,go_sem]
 obtain rfl:=bM _ (oi h1).symm
 simp only at h0
 obtain rfl:=oi h0
 refine Ad rfl ?_
 try simp only[F,go_sem]
 refine Aq (aY _ _ (oi h1).symm (Ae.go [] [] rfl ?_))
 try simp only[fi.x0,F,go_sem]
 rintro _ aQ
 subst aQ
 simp only at h0
 refine rS ?_
 try simp only[fi.x0,F,go_sem]
 obtain rfl:=oi h0
 refine Ad rfl ?_
 try simp only[F,go_sem]
def Fx.c:SC:=
 SQ [RG [wE 1 25 0 [0],wB 2 false 4 [2]],SQ [RG [wF 3 25 1 0,wD 4 23 3 [3],wU 5 133 4 23 4 [4],wQ 6 5 4 [5],wV 7 6 4 [6],gd 7 false (wF 8 25 1 1),gd 7 false (wD 9 3 8 [8]),gd 7 false (wC 10 65 #[.tmp 9,.const (.int .i64 0),.const (.int .i64 40)] #[3,3,3] 4 [9]),gd 7 false (wQ 11 10 4 [10]),wT 12 7 11 4 [7,11],wV 13 12 4 [12],gd 13 false (wF 14 25 1 2),gd 13 false (wD 15 3 14 [14]),
 gd 13 false (wC 16 65 #[.tmp 15,.const (.int .i64 0),.const (.int .i64 100000)] #[3,3,3] 4 [15]),gd 13 false (wQ 17 16 4 [16]),wT 18 13 17 4 [13,17],wV 19 18 4 [18],gd 19 false (wF 20 25 1 3),gd 19 false (wD 21 3 20 [20]),gd 19 false (wC 22 65 #[.tmp 21,.const (.int .i64 0),.const (.int .i64 100000)] #[3,3,3] 4 [21]),gd 19 false (wQ 23 22 4 [22]),wT 24 19 23 4 [19,23],wV 25 24 4 [24],
 gd 25 false (wF 26 25 1 5),gd 25 false (wD 27 9 26 [26]),gd 25 false (wU 28 134 27 9 4 [27]),gd 25 false (wQ 29 28 4 [28]),wT 30 25 29 4 [25,29]],CN 30 (SQ [RG [wB 2 false 4],.ret]) .skip],SQ [RG [wF 31 25 1 1,wD 32 3 31 [31],wK 33 .neq 3 32 0 3 4 [32]],CN 33 (SQ [RG [wF 34 25 1 4 [1],wD 35 23 34 [34],oQ 36 (.build 23 #[]) 23,wO 37 .eql 23 35 36 23 4 [35,36],wG 2 37 4 [37]],.ret]) .skip],
 RG [wF 38 25 1 2,wD 39 3 38 [38],wK 40 .eql 3 39 0 3 4 [39],wV 41 40 4 [40],gd 41 true (wF 42 25 1 5),gd 41 true (wD 43 9 42 [42]),gd 41 true (oQ 44 (.binOp .eql 9 (.tmp 43) (.const (.string ⟨#[]⟩)) 9) 4 [43]),wZ 45 41 44 4 [41,44],wV 46 45 4 [45],gd 46 true (wF 47 25 1 4),gd 46 true (wD 48 23 47 [47]),gd 46 true (wU 49 133 48 23 4 [48]),wZ 50 46 49 4 [46,49],wV 51 50 4 [50],
 gd 51 true (wF 52 25 1 4),gd 51 true (wF 53 23 52 0 [52]),gd 51 true (wD 54 3 53 [53]),gd 51 true (wF 55 25 1 0),gd 51 true (wF 56 23 55 0 [55]),gd 51 true (wD 57 3 56 [56]),gd 51 true (wO 58 .eql 3 54 57 3 4 [54,57]),wZ 59 51 58 4 [51,58],wV 60 59 4 [59],gd 60 true (wF 61 25 1 4),gd 60 true (wF 62 23 61 1 [61]),gd 60 true (wD 63 3 62 [62]),gd 60 true (wF 64 25 1 0 [1]),
 gd 60 true (wF 65 23 64 1 [64]),gd 60 true (wD 66 3 65 [65]),gd 60 true (wO 67 .lss 3 63 66 3 4 [63,66]),wZ 68 60 67 4 [60,67],wG 2 68 4 [68]],.ret]
def lp (k:Nat) (r0:Ab):Option (Bool):=
 (qF k r0.At).bind fun x1=>
 bif x1 then
  (iP k r0.Kind 0 40).bind fun x3=>
  bif x3 then
   (iP k r0.Day 0 100000).bind fun x5=>
   bif x5 then
    (iP k r0.AI 0 100000).bind fun x7=>
    bif x7 then
     (fi k r0.Text).bind fun x9=>
     bif (!x9) then
      some false
     else
      bif (!decide (r0.Kind=(0:Int))) then
       some (decide (r0.Of.Ag=(0:Int))&&decide (r0.Of.No=(0:Int)))
      else
       bif decide (r0.Day=(0:Int)) then
        bif (r0.Text.toList==ByteArray.empty.toList) then
         (qF k r0.Of).bind fun bO=>
         bif bO then
          bif decide (r0.Of.Ag=r0.At.Ag) then
           some (decide (r0.Of.No<r0.At.No))
          else
           some false
         else
          some false
        else
         some false
       else
        some false
    else
     some false
   else
    some false
  else
   some false
 else
  some false
theorem vS (k:Nat) (r0:Ab) (r:Bool) (h0:lp k r0=some r):An Try.prog 92 [.agg (Ab.c r0)] (fun y=>y=.bool r):=by
 refine PB Try.f92 Fx.c [.tmp 2] ?_
 simp only[lp]at h0
 try simp only[Fx.c,go_sem]
 refine ay h0 (abT k _) ?_ (fun x1 h0=>?_)<;>try simp only[go_sem]
 refine AO h0 ?_ ?_<;>intro c2 h0<;>have F:=c2<;>try simp only[F,go_sem]
 refine ay h0 (lq k _ _ _) ?_ (fun x3 h0=>?_)<;>try simp only[F,go_sem]
 refine AF F h0 ?_ ?_<;>intro F h0<;>try simp only[F,go_sem]
 refine ay h0 (lq k _ _ _) ?_ (fun x5 h0=>?_)<;>try simp only[F,go_sem]
 refine AF F h0 ?_ ?_<;>intro F h0<;>try simp only[F,go_sem]
 refine ay h0 (lq k _ _ _) ?_ (fun x7 h0=>?_)<;>try simp only[F,go_sem]
 refine AF F h0 ?_ ?_<;>intro F h0<;>try simp only[F,go_sem]
 refine ay h0 (agw k _) ?_ (fun x9 h0=>?_)<;>try simp only[F,go_sem]
 refine Bd F h0 ?_ ?_<;>intro F h0<;>try simp only[F,go_sem]
 obtain rfl:=oi h0
 refine Ad rfl ?_
 try simp only[F,go_sem]
 refine Bd F h0 ?_ ?_<;>intro F h0<;>try simp only[F,go_sem]
 obtain rfl:=oi h0
 refine Ad rfl ?_
 try simp only[F,go_sem]
 refine AF F h0 ?_ ?_<;>intro F h0<;>try simp only[F,go_sem]
 refine AF F h0 ?_ ?_<;>intro F h0<;>try simp only[F,go_sem]
 refine ay h0 (abT k _) ?_ (fun bO h0=>?_)<;>try simp only[F,go_sem]
 refine AF F h0 ?_ ?_<;>intro F h0<;>try simp only[F,go_sem]
 refine AF F h0 ?_ ?_<;>intro F h0<;>try simp only[F,go_sem]
 obtain rfl:=oi h0
 refine Ad rfl ?_
 try simp only[F,go_sem]
 obtain rfl:=oi h0
 refine Ad rfl ?_
 try simp only[F,go_sem]
 obtain rfl:=oi h0
 refine Ad rfl ?_
 try simp only[F,go_sem]
 obtain rfl:=oi h0
 refine Ad rfl ?_
 try simp only[F,go_sem]
 obtain rfl:=oi h0
 refine Ad rfl ?_
 try simp only[F,go_sem]
 obtain rfl:=oi h0
 refine Ad rfl ?_
 try simp only[F,go_sem]
 obtain rfl:=oi h0
 refine Ad rfl ?_
 try simp only[F,go_sem]
 obtain rfl:=oi h0
 refine Ad rfl ?_
 try simp only[F,go_sem]
 obtain rfl:=oi h0
 refine Ad rfl ?_
 try simp only[F,go_sem]
def Fe.c:SC:=
 SQ [RG [wE 1 25 0 [0],wN 2 0 28 [2]],SQ [RG [wD 3 25 1 [1],wU 4 92 3 25 4 [3],wQ 5 4 4 [4]],CN 5 (SQ [RG [wN 2 90 28],.ret]) .skip],RG [wN 2 0 28],.ret]
def vL (k:Nat) (r0:Ab):Option (Int):=
 (lp k r0).bind fun x1=>
 bif (!x1) then
  some 90
 else
  some 0
theorem abI (k:Nat) (r0:Ab) (r:Int) (h0:vL k r0=some r):An Try.prog 30 [.agg (Ab.c r0)] (fun y=>y=.int .i64 r):=by
 refine PB Try.f30 Fe.c [.tmp 2] ?_
 simp only[vL]at h0
 try simp only[Fe.c,go_sem]
 refine ay h0 (vS k _) ?_ (fun x1 h0=>?_)<;>try simp only[go_sem]
 refine BJ h0 ?_ ?_<;>intro c2 h0<;>have F:=c2<;>try simp only[F,go_sem]
 obtain rfl:=oi h0
 refine Ad rfl ?_
 try simp only[F,go_sem]
 obtain rfl:=oi h0
 refine Ad rfl ?_
 try simp only[F,go_sem]
def CA.s1:SC:=
 SQ [SQ [RG [wV 45 6 3,wK 46 .geq 3 45 0 3 4 [45]],CN 46 .skip (.exit 2)],.block 3 (RG [wV 49 3 56 [3],wJ 50 201 5 0,wD 51 3 50 [50],wV 52 6 3,oQ 53 (.binOp .mul 3 (.const (.int .i64 8)) (.tmp 52) 3) 3 [52],wO 54 .shr 3 51 53 3 3 [51,53],wY 55 3 5 54 5 [54],oQ 56 (.buildSlice 56 1 #[(0,.tmp 55)]) 56 [55],wP 57 49 56 56 56 56 [49,56],wG 3 57 56 [57]]),RG [wV 47 6 3 [6],wK 48 .sub 3 47 1 3 3 [47],
 wG 6 48 3 [48]]]
def CA.s0:SC:=
 SQ [RG [wO 39 .lss 3 38 37 3 0],CN 39 .skip (.exit 0),.block 1 (SQ [RG [wI 40 202 36 38,wD 41 201 40 [40],wA 5 201,wS 201 5 41 [41]],RG [wJ 42 201 5 1,wD 43 3 42 [42],wK 44 .sub 3 43 1 3 3 [43],wG 6 44 3 [44]],.block 2 (.loop CA.s1)]),RG [wK 58 .add 3 38 1 3 3 [38],wV 38 58 3 [58]]]
def CA.c:SC:=
 SQ [RG [wE 1 25 0 [0],oQ 2 (.assign (.const (.slice none 0 0))) 56 [2]],RG [oQ 3 (.assign (.const (.slice none 0 0))) 56],SQ [RG [wF 7 25 1 0,wF 8 23 7 0 [7],wD 9 3 8 [8],oQ 10 (.build 201 #[(0,.tmp 9),(1,.const (.int .i64 1))]) 201 [9],wF 11 25 1 0,wF 12 23 11 1 [11],wD 13 3 12 [12],oQ 14 (.build 201 #[(0,.tmp 13),(1,.const (.int .i64 2))]) 201 [13],wF 15 25 1 1,wD 16 3 15 [15],
 oQ 17 (.build 201 #[(0,.tmp 16),(1,.const (.int .i64 1))]) 201 [16],wF 18 25 1 2,wD 19 3 18 [18],oQ 20 (.build 201 #[(0,.tmp 19),(1,.const (.int .i64 4))]) 201 [19],wF 21 25 1 3,wD 22 3 21 [21],oQ 23 (.build 201 #[(0,.tmp 22),(1,.const (.int .i64 4))]) 201 [22],wF 24 25 1 4,wF 25 23 24 0 [24],wD 26 3 25 [25],oQ 27 (.build 201 #[(0,.tmp 26),(1,.const (.int .i64 1))]) 201 [26],wF 28 25 1 4,
 wF 29 23 28 1 [28],wD 30 3 29 [29],oQ 31 (.build 201 #[(0,.tmp 30),(1,.const (.int .i64 2))]) 201 [30],wF 32 25 1 5,wD 33 9 32 [32],wL 34 33 9 3 [33],oQ 35 (.build 201 #[(0,.tmp 34),(1,.const (.int .i64 1))]) 201 [34],oQ 36 (.buildSlice 202 8 #[(0,.tmp 10),(1,.tmp 14),(2,.tmp 17),(3,.tmp 20),(4,.tmp 23),(5,.tmp 27),(6,.tmp 31),(7,.tmp 35)]) 202 [10,14,17,20,23,27,31,35],wL 37 36 202 3,
 oQ 38 (.move (.const (.int .i64 0))) 3],.block 0 (.loop CA.s0)],RG [wV 59 3 56 [3],wF 60 25 1 5 [1],wD 61 9 60 [60],wP 62 59 61 56 9 56 [59,61],wG 2 62 56 [62]],.ret]
def dn.b1 (k:Nat) (x5:(Aa 2 Int)):(Int×(List Int))->Option (AW (Int×(List Int)) ((List Int)) ((List Int))):=fun s=>match s with
 |(i7,l8)=>
   bif decide ((0:Int)<=i7) then
    (x5.at? 0).bind fun ed=>
    (uT (af (8*i7))).bind fun _=>
    (iC 1 l8 (IntKind.u8.wrap (Int.fdiv ed (2 ^ (min (Int.toNat (af (8*i7))) 64))))).bind fun oe=>
    some (.next (af (i7 - 1),oe))
   else
    some (.brk l8)
def dn.b0 (k:Nat) (r0:Ab):(Int×(List Int))->Option (AW (Int×(List Int)) ((List Int)) ((List Int))):=fun s=>match s with
 |(i1,l2)=>
   bif decide (i1<(8:Int)) then
    (at? [(⟨[r0.At.Ag,1],rfl⟩:(Aa 2 Int)),(⟨[r0.At.No,2],rfl⟩:(Aa 2 Int)),(⟨[r0.Kind,1],rfl⟩:(Aa 2 Int)),(⟨[r0.Day,4],rfl⟩:(Aa 2 Int)),(⟨[r0.AI,4],rfl⟩:(Aa 2 Int)),(⟨[r0.Of.Ag,1],rfl⟩:(Aa 2 Int)),(⟨[r0.Of.No,2],rfl⟩:(Aa 2 Int)),(⟨[(r0.Text.size:Int),1],rfl⟩:(Aa 2 Int))] i1).bind fun x5=>
    (x5.at? 1).bind fun x6=>
    (aB (dn.b1 k x5) k (af (x6 - 1),l2)).bind fun oC=>match oC with
    |.next _=>none
    |.ret v_=>some (.ret v_)
    |.brk l9=>
     some (.next (af (i1+1),l9))
   else
    some (.brk l2)
def dn.h1 (r0:Ab) (i1:Int) (x5:(Aa 2 Int)):(Int×(List Int))->St:=fun s=>match s with
 |(i7,l8)=>⟨[(1,.ptr 0 0 0),(3,.loc 0 1 1 0 l8.length l8.length),(5,.ptr 0 2 0),(6,.int .i64 i7),(36,.loc 0 3 2 0 8 8),(37,.int .i64 8),(38,.int .i64 i1)],[(0,.box ([.int .i64 r0.At.Ag,.int .i64 r0.At.No,.int .i64 r0.Kind,.int .i64 r0.Day,.int .i64 r0.AI,.int .i64 r0.Of.Ag,.int .i64 r0.Of.No,.str r0.Text])),(1,.arr 5 1 (List.map ah l8)),(2,.box (Aa.c (n:=2) eI x5)),(3,.arr 201 2 (List.map (Aa.c (n:=2) eI) [(⟨[r0.At.Ag,1],rfl⟩:(Aa 2 Int)),(⟨[r0.At.No,2],rfl⟩:(Aa 2 Int)),(⟨[r0.Kind,1],rfl⟩:(Aa 2 Int)),(⟨[r0.Day,4],rfl⟩:(Aa 2 Int)),(⟨[r0.AI,4],rfl⟩:(Aa 2 Int)),(⟨[r0.Of.Ag,1],rfl⟩:(Aa 2 Int)),(⟨[r0.Of.No,2],rfl⟩:(Aa 2 Int)),(⟨[(r0.Text.size:Int),1],rfl⟩:(Aa 2 Int))]))],[],4,Try.f88.ntmps⟩
def dn.x1 (r0:Ab) (i1:Int):(List Int)->St:=fun l9=>⟨[(1,.ptr 0 0 0),(3,.loc 0 1 1 0 l9.length l9.length),(36,.loc 0 2 2 0 8 8),(37,.int .i64 8),(38,.int .i64 i1)],[(0,.box ([.int .i64 r0.At.Ag,.int .i64 r0.At.No,.int .i64 r0.Kind,.int .i64 r0.Day,.int .i64 r0.AI,.int .i64 r0.Of.Ag,.int .i64 r0.Of.No,.str r0.Text])),(1,.arr 5 1 (List.map ah l9)),(2,.arr 201 2 (List.map (Aa.c (n:=2) eI) [(⟨[r0.At.Ag,1],rfl⟩:(Aa 2 Int)),(⟨[r0.At.No,2],rfl⟩:(Aa 2 Int)),(⟨[r0.Kind,1],rfl⟩:(Aa 2 Int)),(⟨[r0.Day,4],rfl⟩:(Aa 2 Int)),(⟨[r0.AI,4],rfl⟩:(Aa 2 Int)),(⟨[r0.Of.Ag,1],rfl⟩:(Aa 2 Int)),(⟨[r0.Of.No,2],rfl⟩:(Aa 2 Int)),(⟨[(r0.Text.size:Int),1],rfl⟩:(Aa 2 Int))]))],[],3,Try.f88.ntmps⟩
def dn.h0 (r0:Ab):(Int×(List Int))->St:=fun s=>match s with
 |(i1,l2)=>⟨[(1,.ptr 0 0 0),(3,.loc 0 1 1 0 l2.length l2.length),(36,.loc 0 2 2 0 8 8),(37,.int .i64 8),(38,.int .i64 i1)],[(0,.box ([.int .i64 r0.At.Ag,.int .i64 r0.At.No,.int .i64 r0.Kind,.int .i64 r0.Day,.int .i64 r0.AI,.int .i64 r0.Of.Ag,.int .i64 r0.Of.No,.str r0.Text])),(1,.arr 5 1 (List.map ah l2)),(2,.arr 201 2 (List.map (Aa.c (n:=2) eI) [(⟨[r0.At.Ag,1],rfl⟩:(Aa 2 Int)),(⟨[r0.At.No,2],rfl⟩:(Aa 2 Int)),(⟨[r0.Kind,1],rfl⟩:(Aa 2 Int)),(⟨[r0.Day,4],rfl⟩:(Aa 2 Int)),(⟨[r0.AI,4],rfl⟩:(Aa 2 Int)),(⟨[r0.Of.Ag,1],rfl⟩:(Aa 2 Int)),(⟨[r0.Of.No,2],rfl⟩:(Aa 2 Int)),(⟨[(r0.Text.size:Int),1],rfl⟩:(Aa 2 Int))]))],[],3,Try.f88.ntmps⟩
def dn.x0 (r0:Ab):(List Int)->St:=fun l3=>⟨[(1,.ptr 0 0 0),(3,.loc 0 1 1 0 l3.length l3.length)],[(0,.box ([.int .i64 r0.At.Ag,.int .i64 r0.At.No,.int .i64 r0.Kind,.int .i64 r0.Day,.int .i64 r0.AI,.int .i64 r0.Of.Ag,.int .i64 r0.Of.No,.str r0.Text])),(1,.arr 5 1 (List.map ah l3))],[],2,Try.f88.ntmps⟩
def dn (k:Nat) (r0:Ab):Option ((List Int)):=
 (aB (dn.b0 k r0) k (0,[])).bind fun uM=>match uM with
 |.next _=>none
 |.ret v_=>some v_
 |.brk l3=>
  (iN 1 l3 (iH r0.Text)).bind fun l16=>
  some l16
theorem abK (k:Nat) (r0:Ab) (r:(List Int)) (h0:dn k r0=some r):An Try.prog 88 [.agg (Ab.c r0)] (fun y=>y=.sl 1 (List.map ah r)):=by
 refine PB Try.f88 CA.c [.tmp 2] ?_
 simp only[dn]at h0
 try simp only[CA.c,(@id (Aa.c (n:=2) eI (Aa.rep 2 (0:Int))=[.int .i64 0,.int .i64 0]) rfl),(@id ([.int .i64 r0.At.Ag,.int .i64 1]=Aa.c (n:=2) eI (⟨[r0.At.Ag,1],rfl⟩:(Aa 2 Int))) rfl),(@id ([.int .i64 r0.At.No,.int .i64 2]=Aa.c (n:=2) eI (⟨[r0.At.No,2],rfl⟩:(Aa 2 Int))) rfl),(@id ([.int .i64 r0.Kind,.int .i64 1]=Aa.c (n:=2) eI (⟨[r0.Kind,1],rfl⟩:(Aa 2 Int))) rfl),(@id ([.int .i64 r0.Day,.int .i64 4]=Aa.c (n:=2) eI (⟨[r0.Day,4],rfl⟩:(Aa 2 Int))) rfl),(@id ([.int .i64 r0.AI,.int .i64 4]=Aa.c (n:=2) eI (⟨[r0.AI,4],rfl⟩:(Aa 2 Int))) rfl),(@id ([.int .i64 r0.Of.Ag,.int .i64 1]=Aa.c (n:=2) eI (⟨[r0.Of.Ag,1],rfl⟩:(Aa 2 Int))) rfl),(@id ([.int .i64 r0.Of.No,.int .i64 2]=Aa.c (n:=2) eI (⟨[r0.Of.No,2],rfl⟩:(Aa 2 Int))) rfl),(@id ([.int .i64 (r0.Text.size:Int),.int .i64 1]=Aa.c (n:=2) eI (⟨[(r0.Text.size:Int),1],rfl⟩:(Aa 2 Int))) rfl),(@id (((8:Nat):Int)=8) rfl),go_sem]
 obtain⟨uM,abg,h0⟩:=bs h0
 refine Bc abg (dn.h0 r0) (dn.x0 r0) ?_ ?_ ?_
 refine Ae.go [1,3,36,37,38] [0,32,512] rfl ?_
 try simp only[dn.h0,go_sem]
 rintro⟨i1,l2⟩ dU Bq Bs h1 aS aY bM
 refine rS ?_
 simp only[dn.b0]at h1
 try simp only[CA.s0,dn.h0,go_sem]
 refine AO h1 ?_ ?_<;>intro c4 h1<;>have F:=c4<;>try simp only[F,go_sem]
 obtain⟨x5,cK,h1⟩:=bs h1
 have acE:=aG cK
 simp only[F,go_sem]at acE
 have ac4:=aF (Aa.c (n:=2) eI) cK
 try simp only[F,go_sem]at ac4
 have F:=an acE (an ac4 F)
 try simp only[F,go_sem]
 obtain⟨x6,cO,h1⟩:=bs h1
 have qg:=Ao.dm mj (Ao.self afl x5) cO
 have oO:=qg.2
 try simp only[Ay,AE,go_sem]at oO
 have F:=an (au cO) (an oO F)
 try simp only[F,go_sem]
 obtain⟨oC,vt,h1⟩:=bs h1
 refine Bc vt (dn.h1 r0 i1 x5) (dn.x1 r0 i1) ?_ ?_ ?_
 refine Ae.go [1,3,5,6,36,37,38] [0,1,51,2] rfl ?_
 try simp only[dn.h1,F,go_sem]
 rintro⟨i7,l8⟩ yD DW DY h2 iv lI xy
 refine rS ?_
 simp only[dn.b1]at h2
 try simp only[CA.s1,dn.h1,F,go_sem]
 refine AF F h2 ?_ ?_<;>intro F h2<;>try simp only[F,go_sem]
 obtain⟨ed,mf,h2⟩:=bs h2
 have yA:=Ao.dm mj (Ao.self afl x5) mf
 have u5:=yA.2
 try simp only[Ay,AE,go_sem]at u5
 have F:=an (au mf) (an u5 F)
 try simp only[F,go_sem]
 obtain⟨u12,akV,h2⟩:=bs h2
 have F:=an (aa4 akV) F
 try simp only[F,go_sem]
 obtain⟨oe,vp,h2⟩:=bs h2
 have oR:=pu ah vp
 try simp only[F,go_sem]at oR
 have F:=an oR F
 try simp only[F,go_sem]
 refine Aq (iv _ _ (oi h2).symm (Ae.go [1,3,5,6,36,37,38] [0,1,2,3] rfl ?_))
 try simp only[dn.h1,F,go_sem]
 refine Aq (lI _ _ (oi h2).symm (Ae.go [1,3,36,37,38] [0,1,3] rfl ?_))
 try simp only[dn.x1,F,go_sem]
 rintro l9 aQ
 subst aQ
 simp only at h1
 refine rS ?_
 try simp only[dn.x1,F,go_sem]
 refine Aq (aS _ _ (oi h1).symm (Ae.go [1,3,36,37,38] [0,1,2] rfl ?_))
 try simp only[dn.h0,F,go_sem]
 refine Aq (aY _ _ (oi h1).symm (Ae.go [1,3] [0,1] rfl ?_))
 try simp only[dn.x0,F,go_sem]
 rintro l3 aQ
 subst aQ
 simp only at h0
 refine rS ?_
 try simp only[dn.x0,go_sem]
 obtain⟨l16,akJ,h0⟩:=bs h0
 have afa:=yM ah akJ
 try simp only[aey,nk,(by decide:¬ ([9]:List TypeId)=[56]),go_sem]at afa
 have F:=afa
 try simp only[aey,nk,(by decide:¬ ([9]:List TypeId)=[56]),F,go_sem]
 obtain rfl:=oi h0
 refine Ad rfl ?_
 try simp only[F,go_sem]
def E0.c:SC:=
 SQ [RG [wA 6 126],RG [wA 7 126],RG [wV 8 0 5 [0],wV 9 1 3,oQ 10 (.binOp .shr 3 (.tmp 9) (.const (.int .u64 16)) 211) 3 [9],wY 11 3 5 10 5 [10],wV 12 1 3,oQ 13 (.binOp .shr 3 (.tmp 12) (.const (.int .u64 8)) 211) 3 [12],wY 14 3 5 13 5 [13],wV 15 1 3 [1],wY 16 3 5 15 5 [15],wJ 17 126 7 0,wS 5 17 8 [8,17],wJ 18 126 7 1,wS 5 18 11 [11,18],wJ 19 126 7 2,wS 5 19 14 [14,19],wJ 20 126 7 3,wS 5 20 16 [16,
 20],wJ 21 126 7 31,⟨none,.store 5 (.tmp 21) (.const (.int .u8 165)),0,none,[21]⟩],RG [wV 22 2 3,oQ 23 (.binOp .shr 3 (.tmp 22) (.const (.int .u64 8)) 211) 3 [22],wY 24 3 5 23 5 [23],wV 25 2 3 [2],wY 26 3 5 25 5 [25],wJ 27 126 7 4,wS 5 27 24 [24,27],wJ 28 126 7 5,wS 5 28 26 [26,28]],RG [wD 29 126 7 [7],wS 126 6 29 [29]],.ret]
def vN (k:Nat) (gk:Int) (cG:Int) (m5:Int):Option ((Aa 32 Int)):=
 ((Aa.rep 32 (0:Int)).at? 0).bind fun x1=>
 (((Aa.rep 32 (0:Int)).set 0 gk).at? 1).bind fun x3=>
 ((((Aa.rep 32 (0:Int)).set 0 gk).set 1 (IntKind.u8.wrap (Int.fdiv cG (2 ^ 16)))).at? 2).bind fun x5=>
 (((((Aa.rep 32 (0:Int)).set 0 gk).set 1 (IntKind.u8.wrap (Int.fdiv cG (2 ^ 16)))).set 2 (IntKind.u8.wrap (Int.fdiv cG (2 ^ 8)))).at? 3).bind fun x7=>
 ((((((Aa.rep 32 (0:Int)).set 0 gk).set 1 (IntKind.u8.wrap (Int.fdiv cG (2 ^ 16)))).set 2 (IntKind.u8.wrap (Int.fdiv cG (2 ^ 8)))).set 3 (IntKind.u8.wrap cG)).at? 31).bind fun x9=>
 (((((((Aa.rep 32 (0:Int)).set 0 gk).set 1 (IntKind.u8.wrap (Int.fdiv cG (2 ^ 16)))).set 2 (IntKind.u8.wrap (Int.fdiv cG (2 ^ 8)))).set 3 (IntKind.u8.wrap cG)).set 31 165).at? 4).bind fun ed=>
 ((((((((Aa.rep 32 (0:Int)).set 0 gk).set 1 (IntKind.u8.wrap (Int.fdiv cG (2 ^ 16)))).set 2 (IntKind.u8.wrap (Int.fdiv cG (2 ^ 8)))).set 3 (IntKind.u8.wrap cG)).set 31 165).set 4 (IntKind.u8.wrap (Int.fdiv m5 (2 ^ 8)))).at? 5).bind fun me=>
 some ((((((((Aa.rep 32 (0:Int)).set 0 gk).set 1 (IntKind.u8.wrap (Int.fdiv cG (2 ^ 16)))).set 2 (IntKind.u8.wrap (Int.fdiv cG (2 ^ 8)))).set 3 (IntKind.u8.wrap cG)).set 31 165).set 4 (IntKind.u8.wrap (Int.fdiv m5 (2 ^ 8)))).set 5 (IntKind.u8.wrap m5))
theorem abJ (k:Nat) (gk:Int) (cG:Int) (m5:Int) (r:(Aa 32 Int)) (h0:vN k gk cG m5=some r):An Try.prog 115 [.int .u8 gk,.int .i64 cG,.int .i64 m5] (fun y=>y=.agg ((Aa.c (n:=32) ah) r)):=by
 refine PB Try.f115 E0.c [.cell 6 126] ?_
 simp only[vN]at h0
 try simp only[E0.c,(@id (min (Int.toNat 16) 64=16) rfl),(@id (min (Int.toNat 8) 64=8) rfl),go_sem]
 have hz:=bs h0;clear h0;cases hz;rename_i x1 hz;cases hz;rename_i kD h0
 have yz:=Ao.dm gY (Ao.self gZ (Aa.rep 32 (0:Int))) kD
 have u3:=yz.2
 try simp only[Ay,AE,go_sem]at u3
 have q2:=yz.1.ow gk
 try simp only[Ay,AE,go_sem]at q2
 have F:=an (au kD) u3
 try simp only[q2,F,go_sem]
 have hz:=bs h0;clear h0;cases hz;rename_i x3 hz;cases hz;rename_i cv h0
 have qf:=Ao.dm gY (Ao.self gZ ((Aa.rep 32 (0:Int)).set 0 gk)) cv
 have u9:=qf.2
 try simp only[Ay,AE,go_sem]at u9
 have q4:=qf.1.ow (IntKind.u8.wrap (Int.fdiv cG (2 ^ 16)))
 try simp only[Ay,AE,go_sem]at q4
 have F:=an (au cv) (an u9 F)
 try simp only[q4,F,go_sem]
 have hz:=bs h0;clear h0;cases hz;rename_i x5 hz;cases hz;rename_i cK h0
 have aeQ:=Ao.dm gY (Ao.self gZ (((Aa.rep 32 (0:Int)).set 0 gk).set 1 (IntKind.u8.wrap (Int.fdiv cG (2 ^ 16))))) cK
 have ae6:=aeQ.2
 try simp only[Ay,AE,go_sem]at ae6
 have q6:=aeQ.1.ow (IntKind.u8.wrap (Int.fdiv cG (2 ^ 8)))
 try simp only[Ay,AE,go_sem]at q6
 have F:=an (au cK) (an ae6 F)
 try simp only[q6,F,go_sem]
 have hz:=bs h0;clear h0;cases hz;rename_i x7 hz;cases hz;rename_i jR h0
 have qi:=Ao.dm gY (Ao.self gZ ((((Aa.rep 32 (0:Int)).set 0 gk).set 1 (IntKind.u8.wrap (Int.fdiv cG (2 ^ 16)))).set 2 (IntKind.u8.wrap (Int.fdiv cG (2 ^ 8))))) jR
 have oP:=qi.2
 try simp only[Ay,AE,go_sem]at oP
 have q8:=qi.1.ow (IntKind.u8.wrap cG)
 try simp only[Ay,AE,go_sem]at q8
 have F:=an (au jR) (an oP F)
 try simp only[q8,F,go_sem]
 have hz:=bs h0;clear h0;cases hz;rename_i x9 hz;cases hz;rename_i fM h0
 have oK:=Ao.dm gY (Ao.self gZ (((((Aa.rep 32 (0:Int)).set 0 gk).set 1 (IntKind.u8.wrap (Int.fdiv cG (2 ^ 16)))).set 2 (IntKind.u8.wrap (Int.fdiv cG (2 ^ 8)))).set 3 (IntKind.u8.wrap cG))) fM
 have ve:=oK.2
 try simp only[Ay,AE,go_sem]at ve
 have uJ:=oK.1.ow 165
 try simp only[Ay,AE,go_sem]at uJ
 have F:=an (au fM) (an ve F)
 try simp only[uJ,(@id (min (Int.toNat 8) 64=8) rfl),F,go_sem]
 have hz:=bs h0;clear h0;cases hz;rename_i ed hz;cases hz;rename_i mf h0
 have yA:=Ao.dm gY (Ao.self gZ ((((((Aa.rep 32 (0:Int)).set 0 gk).set 1 (IntKind.u8.wrap (Int.fdiv cG (2 ^ 16)))).set 2 (IntKind.u8.wrap (Int.fdiv cG (2 ^ 8)))).set 3 (IntKind.u8.wrap cG)).set 31 165)) mf
 have u5:=yA.2
 try simp only[Ay,AE,go_sem]at u5
 have uK:=yA.1.ow (IntKind.u8.wrap (Int.fdiv m5 (2 ^ 8)))
 try simp only[Ay,AE,go_sem]at uK
 have F:=an (au mf) (an u5 F)
 try simp only[uK,F,go_sem]
 have hz:=bs h0;clear h0;cases hz;rename_i me hz;cases hz;rename_i qu h0
 have uY:=Ao.dm gY (Ao.self gZ (((((((Aa.rep 32 (0:Int)).set 0 gk).set 1 (IntKind.u8.wrap (Int.fdiv cG (2 ^ 16)))).set 2 (IntKind.u8.wrap (Int.fdiv cG (2 ^ 8)))).set 3 (IntKind.u8.wrap cG)).set 31 165).set 4 (IntKind.u8.wrap (Int.fdiv m5 (2 ^ 8))))) qu
 have ae1:=uY.2
 try simp only[Ay,AE,go_sem]at ae1
 have uL:=uY.1.ow (IntKind.u8.wrap m5)
 try simp only[Ay,AE,go_sem]at uL
 have F:=an (au qu) (an ae1 F)
 try simp only[uL,F,go_sem]
 obtain rfl:=oi h0
 refine Ad rfl ?_
 try simp only[F,go_sem]
def Dw.s0:SC:=
 SQ [RG [wO 21 .lss 3 20 19 3 4],CN 21 .skip (.exit 0),.block 1 (SQ [RG [wV 22 20 3,wG 10 22 3 [22]],RG [wV 23 2 3,wV 24 1 3,wC 25 115 #[.const (.int .u8 112),.tmp 23,.tmp 24] #[5,3,3] 126 [23,24],wA 11 126,wS 126 11 25 [25]],RG [wV 26 10 3,wY 27 3 5 26 5 [26],wV 28 9 3,wY 29 3 5 28 5 [28],wJ 30 126 11 6,wS 5 30 27 [27,30],wJ 31 126 11 7,wS 5 31 29 [29,31]],
 .bB [oQ 32 (.slice 126 (.tmp 11) (some (.const (.int .i64 8))) (some (.const (.int .i64 31))) none) 56,wV 33 8 56,wV 34 10 3,wK 35 .mul 3 34 23 3 3,wV 36 8 56,wL 37 36 56 3,wV 38 10 3,wK 39 .add 3 38 1 3 3,wK 40 .mul 3 39 23 3 3,oQ 41 (.call ⟨.builtin .min,#[.tmp 37,.tmp 40],#[3,3]⟩) 3,oQ 42 (.slice 56 (.tmp 33) (some (.tmp 35)) (some (.tmp 41)) none) 56,oQ 43 (.call ⟨.builtin .copy,#[.tmp 32,
 .tmp 42],#[56,56]⟩) 3] [[],[],[],[2],[],[4],[],[6],[6,7],[4,5,6,7,8],[1,2,3,4,5,6,7,8,9],[0,1,2,3,4,5,6,7,8,9,10]] [10,32,33,34,35,36,37,38,39,40,41,42,43],RG [wV 44 7 124 [7],wD 45 126 11 [11],oQ 46 (.buildSlice 124 1 #[(0,.tmp 45)]) 124 [45],wP 47 44 46 124 124 124 [44,46],wG 7 47 124 [47]]]),RG [wK 48 .add 3 20 1 3 3 [20],wV 20 48 3 [48]]]
def Dw.c:SC:=
 SQ [RG [wE 3 25 0 [0],oQ 6 (.assign (.const (.slice none 0 0))) 124 [6]],RG [oQ 7 (.assign (.const (.slice none 0 0))) 124],RG [wD 12 25 3 [3],wU 13 88 12 25 56 [12],wG 8 13 56 [13]],RG [wV 14 8 56,wL 15 14 56 3 [14],wK 16 .add 3 15 23 3 3 [15],wK 17 .sub 3 16 1 3 3 [16],wK 18 .quo 3 17 23 3 3 [17],wG 9 18 3 [18]],SQ [RG [wV 19 9 3,oQ 20 (.move (.const (.int .i64 0))) 3],.block 0 (.loop Dw.s0)],
 RG [wV 49 7 124 [7],wG 6 49 124 [49]],.ret]
def gg.b0 (k:Nat) (iB:Int) (ig:Int) (x1:(List Int)):(Int×(List (Aa 32 Int)))->Option (AW (Int×(List (Aa 32 Int))) ((List (Aa 32 Int))) ((List (Aa 32 Int)))):=fun s=>match s with
 |(i2,l3)=>
   bif decide (i2<af (Int.tdiv (af ((af ((x1.length:Int)+23)) - 1)) 23)) then
    (vN k 112 ig iB).bind fun x6=>
    (x6.at? 6).bind fun x7=>
    ((x6.set 6 (IntKind.u8.wrap i2)).at? 7).bind fun x9=>
    (ff x1 (af (i2*23)) (min (x1.length:Int) (af ((af (i2+1))*23)))).bind fun rB=>
    (iC 32 l3 (((x6.set 6 (IntKind.u8.wrap i2)).set 7 (IntKind.u8.wrap (af (Int.tdiv (af ((af ((x1.length:Int)+23)) - 1)) 23)))).put 8 23 rB)).bind fun oe=>
    some (.next (af (i2+1),oe))
   else
    some (.brk l3)
def gg.h0 (iB:Int) (ig:Int) (x1:(List Int)):(Int×(List (Aa 32 Int)))->St:=fun s=>match s with
 |(i2,l3)=>⟨[(1,.int .i64 iB),(2,.int .i64 ig),(7,.loc 0 0 32 0 l3.length l3.length),(8,.sl 1 (List.map ah x1)),(9,.int .i64 (af (Int.tdiv (af ((af ((x1.length:Int)+23)) - 1)) 23))),(19,.int .i64 (af (Int.tdiv (af ((af ((x1.length:Int)+23)) - 1)) 23))),(20,.int .i64 i2)],[(0,.arr 126 32 (List.map (Aa.c (n:=32) ah) l3))],[],1,Try.f66.ntmps⟩
def gg.x0:(List (Aa 32 Int))->St:=fun l4=>⟨[(7,.loc 0 0 32 0 l4.length l4.length)],[(0,.arr 126 32 (List.map (Aa.c (n:=32) ah) l4))],[],1,Try.f66.ntmps⟩
def gg (k:Nat) (r0:Ab) (iB:Int) (ig:Int):Option ((List (Aa 32 Int))):=
 (dn k r0).bind fun x1=>
 (aB (gg.b0 k iB ig x1) k (0,[])).bind fun oC=>match oC with
 |.next _=>none
 |.ret v_=>some v_
 |.brk l4=>
  some l4
theorem y5 (k:Nat) (r0:Ab) (iB:Int) (ig:Int) (r:(List (Aa 32 Int))) (h0:gg k r0 iB ig=some r):An Try.prog 66 [.agg (Ab.c r0),.int .i64 iB,.int .i64 ig] (fun y=>y=.sl 32 (List.map (Aa.c (n:=32) ah) r)):=by
 refine PB Try.f66 Dw.c [.tmp 6] ?_
 simp only[gg]at h0
 try simp only[Dw.c,go_sem]
 refine ay h0 (abK k _) ?_ (fun x1 h0=>?_)<;>try simp only[go_sem]
 obtain⟨oC,vt,h0⟩:=bs h0
 refine Bc vt (gg.h0 iB ig x1) (gg.x0) ?_ ?_ ?_
 refine Ae.go [1,2,7,8,9,19,20] [32] rfl ?_
 try simp only[gg.h0,go_sem]
 rintro⟨i2,l3⟩ dU Bq Bs h1 aS aY bM
 refine rS ?_
 simp only[gg.b0]at h1
 try simp only[Dw.s0,gg.h0,go_sem]
 refine AO h1 ?_ ?_<;>intro c5 h1<;>have F:=c5<;>try simp only[F,go_sem]
 refine ay h1 (abJ k _ _ _) ?_ (fun x6 h1=>?_)<;>try simp only[F,go_sem]
 obtain⟨x7,jR,h1⟩:=bs h1
 have qi:=Ao.dm gY (Ao.self gZ x6) jR
 have oP:=qi.2
 try simp only[Ay,AE,go_sem]at oP
 have q8:=qi.1.ow (IntKind.u8.wrap i2)
 try simp only[Ay,AE,go_sem]at q8
 have F:=an (au jR) (an oP F)
 try simp only[q8,F,go_sem]
 obtain⟨x9,fM,h1⟩:=bs h1
 have oK:=Ao.dm gY (Ao.self gZ (x6.set 6 (IntKind.u8.wrap i2))) fM
 have ve:=oK.2
 try simp only[Ay,AE,go_sem]at ve
 have uJ:=oK.1.ow (IntKind.u8.wrap (af (Int.tdiv (af ((af ((x1.length:Int)+23)) - 1)) 23)))
 try simp only[Ay,AE,go_sem]at uJ
 have F:=an (au fM) (an ve F)
 try simp only[uJ,F,go_sem]
 refine A1 As bY 1000 ?_
 have F:=an (@id (Int.toNat 8=8) rfl) (an (@id (Int.toNat 31=31) rfl) (an (@id (bounds 32 (some (.int .i64 8)) (some (.int .i64 31))=some (8,31)) rfl) (an (@id (31 - 8=23) rfl) F)))
 try simp only[F,go_sem]
 obtain⟨rB,vn,h1⟩:=bs h1
 have sP:=aa8 ah vn
 try simp only[go_sem]at sP
 have uK:=ajz (n:=32) ((x6.set 6 (IntKind.u8.wrap i2)).set 7 (IntKind.u8.wrap (af (Int.tdiv (af ((af ((x1.length:Int)+23)) - 1)) 23)))) 8 23 rB (by decide)
 try simp only[go_sem]at uK
 have F:=an sP F
 try simp only[akl vn,uK,F,go_sem]
 refine aT ?_
 try simp only[F,go_sem]
 obtain⟨oe,vp,h1⟩:=bs h1
 have oR:=pu (Aa.c (n:=32) ah) vp
 try simp only[F,go_sem]at oR
 have F:=an oR F
 try simp only[F,go_sem]
 refine Aq (aS _ _ (oi h1).symm (Ae.go [1,2,7,8,9,19,20] [0] rfl ?_))
 try simp only[gg.h0,F,go_sem]
 refine Aq (aY _ _ (oi h1).symm (Ae.go [7] [0] rfl ?_))
 try simp only[gg.x0,F,go_sem]
 rintro l4 aQ
 subst aQ
 simp only at h0
 refine rS ?_
 try simp only[gg.x0,go_sem]
 obtain rfl:=oi h0
 refine Ad rfl ?_
 try simp only[go_sem]
def Dq.s0:SC:=
 SQ [RG [wO 31 .lss 3 30 29 3 0],CN 31 .skip (.exit 0),.block 1 (SQ [RG [wI 32 124 28 30,wD 33 126 32 [32],wA 11 126,wS 126 11 33 [33]],RG [wV 34 9 27 [9],wD 35 126 11 [11],oQ 36 (.buildSlice 27 1 #[(0,.tmp 35)]) 27 [35],wP 37 34 36 27 27 27 [34,36],wG 9 37 27 [37]]]),RG [wK 38 .add 3 30 1 3 3 [30],wV 30 38 3 [38]]]
def Dq.c:SC:=
 SQ [RG [wE 3 25 0 [0],oQ 6 (.assign (.const (.slice none 0 0))) 27 [6],wN 7 0 28 [7]],SQ [RG [wD 12 25 3,wU 13 30 12 25 28 [12],wG 8 13 28 [13]],RG [wV 14 8 28,wK 15 .neq 28 14 0 28 4 [14]],CN 15 (SQ [RG [wV 16 8 28 [8],oQ 6 (.assign (.const (.slice none 0 0))) 27,wG 7 16 28 [16]],.ret]) .skip],SQ [RG [wV 17 1 3,wC 18 65 #[.tmp 17,.const (.int .i64 0),.const (.int .i64 59)] #[3,3,3] 4 [17],
 wQ 19 18 4 [18],wV 20 19 4 [19],gd 20 false (wV 21 2 3),gd 20 false (wC 22 65 #[.tmp 21,.const (.int .i64 1),.const (.int .i64 1000000)] #[3,3,3] 4 [21]),gd 20 false (wQ 23 22 4 [22]),wT 24 20 23 4 [20,23]],CN 24 (SQ [RG [oQ 6 (.assign (.const (.slice none 0 0))) 27,wN 7 1 28],.ret]) .skip],RG [oQ 9 (.assign (.const (.slice none 0 0))) 27],SQ [RG [wD 25 25 3 [3],wV 26 1 3 [1],wV 27 2 3 [2],
 wC 28 66 #[.tmp 25,.tmp 26,.tmp 27] #[25,3,3] 124 [25,26,27],wL 29 28 124 3,oQ 30 (.move (.const (.int .i64 0))) 3],.block 0 (.loop Dq.s0)],RG [wV 39 9 27 [9],wG 6 39 27 [39],wN 7 0 28],.ret]
def hX.b0 (k:Nat) (x7:(List (Aa 32 Int))):(Int×(List (Aa 32 Int)))->Option (AW (Int×(List (Aa 32 Int))) ((List (Aa 32 Int))) ((List (Aa 32 Int))×Int)):=fun s=>match s with
 |(i8,l9)=>
   bif decide (i8<(x7.length:Int)) then
    (at? x7 i8).bind fun cA=>
    (iC 32 l9 cA).bind fun oe=>
    some (.next (af (i8+1),oe))
   else
    some (.brk l9)
def hX.h0 (x7:(List (Aa 32 Int))):(Int×(List (Aa 32 Int)))->St:=fun s=>match s with
 |(i8,l9)=>⟨[(9,.loc 0 0 32 0 l9.length l9.length),(28,.sl 32 (List.map (Aa.c (n:=32) ah) x7)),(29,.int .i64 (x7.length:Int)),(30,.int .i64 i8)],[(0,.arr 122 32 (List.map (Aa.c (n:=32) ah) l9))],[],1,Try.f15.ntmps⟩
def hX.x0:(List (Aa 32 Int))->St:=fun jH=>⟨[(9,.loc 0 0 32 0 jH.length jH.length)],[(0,.arr 122 32 (List.map (Aa.c (n:=32) ah) jH))],[],1,Try.f15.ntmps⟩
def hX (k:Nat) (r0:Ab) (iB:Int) (ig:Int):Option ((List (Aa 32 Int))×Int):=
 (vL k r0).bind fun x1=>
 bif (!decide (x1=(0:Int))) then
  some ([],x1)
 else
  (iP k iB 0 59).bind fun x3=>
  bif x3 then
   (iP k ig 1 1000000).bind fun x5=>
   bif (!x5) then
    some ([],1)
   else
    (gg k r0 iB ig).bind fun x7=>
    (aB (hX.b0 k x7) k (0,[])).bind fun oC=>match oC with
    |.next _=>none
    |.ret v_=>some v_
    |.brk jH=>
     some (jH,0)
  else
   some ([],1)
theorem agk (k:Nat) (r0:Ab) (iB:Int) (ig:Int) (r:(List (Aa 32 Int))×Int) (h0:hX k r0 iB ig=some r):An Try.prog 15 [.agg (Ab.c r0),.int .i64 iB,.int .i64 ig] (fun y=>y=.ak [.sl 32 (List.map (Aa.c (n:=32) ah) r.1),.int .i64 r.2]):=by
 refine PB Try.f15 Dq.c [.tmp 6,.tmp 7] ?_
 simp only[hX]at h0
 try simp only[Dq.c,go_sem]
 refine ay h0 (abI k _) ?_ (fun x1 h0=>?_)<;>try simp only[go_sem]
 refine BJ h0 ?_ ?_<;>intro c2 h0<;>have F:=c2<;>try simp only[F,go_sem]
 obtain rfl:=oi h0
 refine Ad rfl ?_
 try simp only[F,go_sem]
 refine ay h0 (lq k _ _ _) ?_ (fun x3 h0=>?_)<;>try simp only[F,go_sem]
 refine AF F h0 ?_ ?_<;>intro F h0<;>try simp only[F,go_sem]
 refine ay h0 (lq k _ _ _) ?_ (fun x5 h0=>?_)<;>try simp only[F,go_sem]
 refine Bd F h0 ?_ ?_<;>intro F h0<;>try simp only[F,go_sem]
 obtain rfl:=oi h0
 refine Ad rfl ?_
 try simp only[F,go_sem]
 refine ay h0 (y5 k _ _ _) ?_ (fun x7 h0=>?_)<;>try simp only[F,go_sem]
 obtain⟨oC,vt,h0⟩:=bs h0
 refine Bc vt (hX.h0 x7) (hX.x0) ?_ ?_ ?_
 refine Ae.go [9,28,29,30] [256] rfl ?_
 try simp only[hX.h0,F,go_sem]
 rintro⟨i8,l9⟩ dU Bq Bs h1 aS aY bM
 refine rS ?_
 simp only[hX.b0]at h1
 try simp only[Dq.s0,hX.h0,F,go_sem]
 refine AF F h1 ?_ ?_<;>intro F h1<;>try simp only[F,go_sem]
 obtain⟨cA,gW,h1⟩:=bs h1
 have F:=an (aG gW) (an (aF (Aa.c (n:=32) ah) gW) F)
 try simp only[F,go_sem]
 obtain⟨oe,vp,h1⟩:=bs h1
 have oR:=pu (Aa.c (n:=32) ah) vp
 try simp only[F,go_sem]at oR
 have F:=an oR F
 try simp only[F,go_sem]
 refine Aq (aS _ _ (oi h1).symm (Ae.go [9,28,29,30] [0] rfl ?_))
 try simp only[hX.h0,F,go_sem]
 refine Aq (aY _ _ (oi h1).symm (Ae.go [9] [0] rfl ?_))
 try simp only[hX.x0,F,go_sem]
 rintro jH aQ
 subst aQ
 simp only at h0
 refine rS ?_
 try simp only[hX.x0,F,go_sem]
 obtain rfl:=oi h0
 refine Ad rfl ?_
 try simp only[F,go_sem]
 obtain rfl:=oi h0
 refine Ad rfl ?_
 try simp only[F,go_sem]
def Dj.c:SC:=
 SQ [RG [oQ 2 (.assign (.const (.slice none 0 0))) 39 [2]],SQ [RG [wV 3 0 39,oQ 4 (.binOp .eql 39 (.tmp 3) (.const (.slice none 0 0)) 39) 4 [3]],CN 4 (SQ [RG [oQ 2 (.assign (.const (.slice none 0 0))) 39],.ret]) .skip],RG [oQ 5 (.buildSlice 39 0 #[]) 39,wV 6 0 39 [0],wP 7 5 6 39 39 39 [5,6],wG 2 7 39 [7]],.ret]
theorem Dj.rs:Try.f120.results.toList=[.tmp 2]:=rfl
def aa5 (k:Nat) (s0:(List (Aa 2 (Aa 32 Int)))):Option ((List (Aa 2 (Aa 32 Int)))):=
 (nh s0.length 64).bind fun _=>
 some s0
theorem aj0 (k:Nat) (s0:(List (Aa 2 (Aa 32 Int)))) (r:(List (Aa 2 (Aa 32 Int)))) (h0:aa5 k s0=some r):AY Try.prog 120 [.sl 64 (List.map (Aa.c (n:=2) (Aa.c (n:=32) ah)) s0)] [] (fun y fr=>y=.loc 0 0 64 0 r.length r.length/\fr=[(0,.arr 139 64 (List.map (Aa.c (n:=2) (Aa.c (n:=32) ah)) r))]):=by
 have hr:=AY.own (et:=139) (sz:=64) (ls:=List.map (Aa.c (n:=2) (Aa.c (n:=32) ah)) r) (AY.ft As (f:=120) (fn:=Try.f120) (sc:=Dj.c) (args:=[.sl 64 (List.map (Aa.c (n:=2) (Aa.c (n:=32) ah)) s0)]) (fr0:=[]) (by rfl) (by rfl) (by decide +kernel) (by rfl) (by decide +kernel) (Nat.le_of_ble_eq_true rfl) (fun H=>?_))
 ·simpa only [Bh] using hr
 refine rS ?_
 simp only[aa5]at h0
 try simp only[Dj.c,go_sem]
 refine⟨fun he=>?_,?_⟩
 ·refine rS ?_
  try simp only[go_sem]
  obtain⟨u_,hu_,h0⟩:=bind_some h0
  obtain rfl:=oi h0
  refine Cx rfl ?_
  simp only[he,Dj.rs,lZ,AQ,bC,AE,List.take_nil,go_sem]
  try simp
 ·refine rS ?_
  try simp only[go_sem]
  obtain⟨u1,lh,h0⟩:=bind_some h0
  try simp only[uS lh,go_sem]
  obtain rfl:=oi h0
  refine Cx rfl ?_
  try simp only[Dj.rs,lZ,AQ,bC,vY,vZ,A7,Co,go_sem]
def Dk.c:SC:=
 SQ [RG [oQ 2 (.assign (.const (.slice none 0 0))) 40 [2]],SQ [RG [wV 3 0 40,oQ 4 (.binOp .eql 40 (.tmp 3) (.const (.slice none 0 0)) 40) 4 [3]],CN 4 (SQ [RG [oQ 2 (.assign (.const (.slice none 0 0))) 40],.ret]) .skip],RG [oQ 5 (.buildSlice 40 0 #[]) 40,wV 6 0 40 [0],wP 7 5 6 40 40 40 [5,6],wG 2 7 40 [7]],.ret]
theorem Dk.rs:Try.f121.results.toList=[.tmp 2]:=rfl
def aa6 (k:Nat) (s0:(List Au)):Option ((List Au)):=
 (nh s0.length 72).bind fun _=>
 some s0
theorem aj1 (k:Nat) (s0:(List Au)) (r:(List Au)) (h0:aa6 k s0=some r):AY Try.prog 121 [.sl 65 (List.map Au.c s0)] [] (fun y fr=>y=.loc 0 0 65 0 r.length r.length/\fr=[(0,.arr 141 65 (List.map Au.c r))]):=by
 have hr:=AY.own (et:=141) (sz:=65) (ls:=List.map Au.c r) (AY.ft As (f:=121) (fn:=Try.f121) (sc:=Dk.c) (args:=[.sl 65 (List.map Au.c s0)]) (fr0:=[]) (by rfl) (by rfl) (by decide +kernel) (by rfl) (by decide +kernel) (Nat.le_of_ble_eq_true rfl) (fun H=>?_))
 ·simpa only [Bh] using hr
 refine rS ?_
 simp only[aa6]at h0
 try simp only[Dk.c,go_sem]
 refine⟨fun he=>?_,?_⟩
 ·refine rS ?_
  try simp only[go_sem]
  obtain⟨u_,hu_,h0⟩:=bind_some h0
  obtain rfl:=oi h0
  refine Cx rfl ?_
  simp only[he,Dk.rs,lZ,AQ,bC,AE,List.take_nil,go_sem]
  try simp
 ·refine rS ?_
  try simp only[go_sem]
  obtain⟨u1,lh,h0⟩:=bind_some h0
  try simp only[uS lh,go_sem]
  obtain rfl:=oi h0
  refine Cx rfl ?_
  try simp only[Dk.rs,lZ,AQ,bC,vY,vZ,A7,Co,go_sem]
def D4.c:SC:=
 SQ [RG [wE 1 42 0 [0],oQ 2 (.assign (.const (.pointer none))) 130 [2]],.bB [wF 3 42 1 0,wD 4 39 3,wU 5 120 4 39 39,wF 6 42 1 1,wD 7 40 6,wU 8 121 7 40 40,oQ 9 (.build 42 #[(0,.tmp 5),(1,.tmp 8)]) 42,oQ 10 (.build 134 #[(0,.tmp 9)]) 134,oQ 11 (.box 134 (.tmp 10)) 130,wG 2 11 130] [[],[0],[0,1],[],[3],[3,4,0,1,2],[0,1,2,3,4,5],[0,1,2,3,4,5,6],[0,1,2,3,4,5,6,7],[0,1,2,3,4,5,6,7,8]] [1,3,4,5,6,7,8,
 9,10,11],.ret]
theorem D4.rs:Try.f72.results.toList=[.tmp 2]:=rfl
def oY (k:Nat) (d0:Af):Option (ar):=
 (aa5 k d0.AJ).bind fun x2=>
 (aa6 k d0.AD).bind fun x4=>
 some (⟨(⟨x2,x4⟩:Af)⟩:ar)
theorem sA (k:Nat) (d0:Af) (r:ar) (h0:oY k d0=some r):AY Try.prog 72 [.agg (Af.c d0)] [] (fun y fr=>y=.ptr 0 0 0/\fr=[(0,.box ([.loc 0 1 64 0 r.Af.AJ.length r.Af.AJ.length,.loc 0 2 65 0 r.Af.AD.length r.Af.AD.length])),(1,.arr 139 64 (List.map (Aa.c (n:=2) (Aa.c (n:=32) ah)) r.Af.AJ)),(2,.arr 141 65 (List.map Au.c r.Af.AD))]):=by
 refine AY.ft As (f:=72) (fn:=Try.f72) (sc:=D4.c) (by rfl) (by rfl) (by decide +kernel) (by rfl) (by decide +kernel) (Nat.le_of_ble_eq_true rfl) (fun H=>?_)
 refine rS ?_
 simp only[oY]at h0
 try simp only[D4.c,go_sem]
 refine A1 As bY 1000 ?_
 try simp only[go_sem]
 obtain⟨x2,gz,h0⟩:=bs h0
 refine Dc 1000 [] [] (aj0 k _ _ gz) ?_ rfl ?_
 try simp only[j3,Bh,go_sem]
 try simp only[go_sem]
 obtain⟨x4,cq,h0⟩:=bs h0
 refine Dc 1000 [] [] (aj1 k _ _ cq) ?_ rfl ?_
 try simp only[j3,Bh,go_sem]
 try simp only[go_sem]
 refine aT ?_
 try simp only[go_sem]
 obtain rfl:=oi h0
 refine FY [176,80,128] (by simp) rfl rfl ?_
 try simp only[D4.rs,ac3,bC,Av,go_sem]
def Dp.s0:SC:=
 SQ [RG [wO 9 .lss 3 8 7 3 0],CN 9 .skip (.exit 0),.block 1 (SQ [RG [wV 10 8 3,wG 5 10 3 [10]],RG [wV 11 1 195,wV 12 0 40,wV 13 5 3,wI 14 40 12 13 [12,13],wD 15 141 14 [14],oQ 16 (.call ⟨.value (.tmp 11),#[.tmp 15],#[141]⟩) 4 [11,15]],CN 16 (SQ [RG [wV 17 5 3 [5],wG 4 17 3 [17]],.ret]) .skip]),RG [wK 18 .add 3 8 1 3 3 [8],wV 8 18 3 [18]]]
def Dp.c:SC:=
 SQ [RG [wN 4 0 3 [4]],SQ [RG [wV 6 0 40,wL 7 6 40 3 [6],oQ 8 (.move (.const (.int .i64 0))) 3],.block 0 (.loop Dp.s0)],RG [wN 4 (-1) 3],.ret]
def iF.b0 (k:Nat) (f1:Au->Option (Bool)) (s0:(List Au)):Int->Option (AW (Int) (Unit) (Int)):=fun i1=>
 bif decide (i1<(s0.length:Int)) then
  (at? s0 i1).bind fun x3=>
  (f1 x3).bind fun x4=>
  bif x4 then
   some (.ret i1)
  else
   some (.next (af (i1+1)))
 else
  some (.brk ())
def iF.h0 (mF:Nat) (kO:List AV) (s0:(List Au)):Int->St:=fun i1=>⟨[(0,.sl 65 (List.map Au.c s0)),(1,.fn (.func mF) [] kO),(7,.int .i64 (s0.length:Int)),(8,.int .i64 i1)],[],[],1,Try.f146.ntmps⟩
def iF.x0:Unit->St:=fun _=>⟨[],[],[],1,Try.f146.ntmps⟩
def iF (k:Nat) (s0:(List Au)) (f1:Au->Option (Bool)):Option (Int):=
 (aB (iF.b0 k f1 s0) k 0).bind fun r6=>match r6 with
 |.next _=>none
 |.ret v_=>some v_
 |.brk _=>
  some (-1)
theorem aj4 (k:Nat) (s0:(List Au)) (mF:Nat) (kO:List AV) (fS:BK kO) (f1:Au->Option (Bool)) (zD:∀ q0 qr,f1 q0=some qr->An Try.prog mF (.agg (Au.c q0)::kO) (fun y=>y=.bool qr)) (r:Int) (h0:iF k s0 f1=some r):An Try.prog 146 [.sl 65 (List.map Au.c s0),.fn (.func mF) [] kO] (fun y=>y=.int .i64 r):=by
 refine PB Try.f146 Dp.c [.tmp 4] ?_
 simp only[iF]at h0
 have F:=an fS.sh (an fS.ag (an fS.br (an fS.refs (an fS.imp (an fS.aE fS.un)))))
 try simp only[Dp.c,F,go_sem]
 obtain⟨r6,yr6,h0⟩:=bs h0
 refine Bc yr6 (iF.h0 mF kO s0) (iF.x0) ?_ ?_ ?_
 refine Ae.go [0,1,7,8] [] rfl ?_
 try simp only[iF.h0,F,go_sem]
 rintro i1 dU Bq Bs h1 aS aY bM
 refine rS ?_
 simp only[iF.b0]at h1
 try simp only[Dp.s0,iF.h0,F,go_sem]
 refine AF F h1 ?_ ?_<;>intro F h1<;>try simp only[F,go_sem]
 obtain⟨x3,cv,h1⟩:=bs h1
 have F:=an (aG cv) (an (aF Au.c cv) F)
 try simp only[F,go_sem]
 refine ay h1 (zD _) ?_ (fun x4 h1=>?_) (fun _=>by simp[AV.aD,AV.refs,AV.cJ,AV.leaf,fS.refs])<;>try simp only[F,go_sem]
 refine AF F h1 ?_ ?_<;>intro F h1<;>try simp only[F,go_sem]
 obtain rfl:=bM _ (oi h1).symm
 simp only at h0
 obtain rfl:=oi h0
 refine Ad rfl ?_
 try simp only[F,go_sem]
 refine Aq (aS _ _ (oi h1).symm (Ae.go [0,1,7,8] [] rfl ?_))
 try simp only[iF.h0,F,go_sem]
 refine Aq (aY _ _ (oi h1).symm (Ae.go [] [] rfl ?_))
 try simp only[iF.x0,F,go_sem]
 rintro _ aQ
 subst aQ
 simp only at h0
 refine rS ?_
 try simp only[iF.x0,F,go_sem]
 obtain rfl:=oi h0
 refine Ad rfl ?_
 try simp only[F,go_sem]
def E1.c:SC:=
 SQ [RG [wB 4 false 4 [4]],RG [wV 5 0 40 [0],wV 6 1 195 [1],wW 7 146 5 6 40 195 3 [5,6],wK 8 .geq 3 7 0 3 4 [7],wG 4 8 4 [8]],.ret]
def aa7 (k:Nat) (s0:(List Au)) (f1:Au->Option (Bool)):Option (Bool):=
 (iF k s0 f1).bind fun x1=>
 some (decide ((0:Int)<=x1))
theorem aj2 (k:Nat) (s0:(List Au)) (mF:Nat) (kO:List AV) (fS:BK kO) (f1:Au->Option (Bool)) (zD:∀ q0 qr,f1 q0=some qr->An Try.prog mF (.agg (Au.c q0)::kO) (fun y=>y=.bool qr)) (r:Bool) (h0:aa7 k s0 f1=some r):An Try.prog 122 [.sl 65 (List.map Au.c s0),.fn (.func mF) [] kO] (fun y=>y=.bool r):=by
 refine PB Try.f122 E1.c [.tmp 4] ?_
 simp only[aa7]at h0
 have F:=an fS.sh (an fS.ag (an fS.br (an fS.refs (an fS.imp (an fS.aE fS.un)))))
 try simp only[E1.c,F,go_sem]
 refine ay h0 (aj4 k _ mF kO fS f1 zD) ?_ (fun x1 h0=>?_) (fun _=>by simp[AV.aD,AV.refs,AV.cJ,AV.leaf,fS.refs])<;>try simp only[F,go_sem]
 obtain rfl:=oi h0
 refine Ad rfl ?_
 try simp only[F,go_sem]
def E2.c:SC:=
 SQ [RG [wE 1 141 0 [0],wB 2 false 4 [2]],RG [wF 3 141 1 0 [1],wD 4 3 3 [3],wC 5 65 #[.tmp 4,.const (.int .i64 0),.const (.int .i64 601)] #[3,3,3] 4 [4],wQ 6 5 4 [5],wG 2 6 4 [6]],.ret]
def vR (k:Nat) (w0:Au):Option (Bool):=
 (iP k w0.At 0 601).bind fun x1=>
 some (!x1)
theorem agv (k:Nat) (w0:Au) (r:Bool) (h0:vR k w0=some r):An Try.prog 123 [.agg (Au.c w0)] (fun y=>y=.bool r):=by
 refine PB Try.f123 E2.c [.tmp 2] ?_
 simp only[vR]at h0
 try simp only[E2.c,go_sem]
 refine ay h0 (lq k _ _ _) ?_ (fun x1 h0=>?_)<;>try simp only[go_sem]
 obtain rfl:=oi h0
 refine Ad rfl ?_
 try simp only[go_sem]
def Fv.c:SC:=
 SQ [RG [wE 1 42 0 [0],wB 2 false 4 [2]],RG [wF 3 42 1 0,wD 4 39 3 [3],wL 5 4 39 3 [4],wK 6 .eql 3 5 602 3 4 [5],wV 7 6 4 [6],gd 7 true (wF 8 42 1 1),gd 7 true (wD 9 40 8 [8]),gd 7 true (wL 10 9 40 3 [9]),gd 7 true (wK 11 .leq 3 10 1200 3 4 [10]),wZ 12 7 11 4 [7,11],wV 13 12 4 [12],gd 13 true (wF 14 42 1 1 [1]),gd 13 true (wD 15 40 14 [14]),gd 13 true (wC 16 122 #[.tmp 15,.func 123] #[40,
 195] 4 [15]),gd 13 true (wQ 17 16 4 [16]),wZ 18 13 17 4 [13,17],wG 2 18 4 [18]],.ret]
def sD (k:Nat) (d0:Af):Option (Bool):=
 bif decide ((d0.AJ.length:Int)=(602:Int)) then
  bif decide ((d0.AD.length:Int)<=(1200:Int)) then
   (aa7 k d0.AD (fun q0=>vR k q0)).bind fun x3=>
   some (!x3)
  else
   some false
 else
  some false
theorem y4 (k:Nat) (d0:Af) (r:Bool) (h0:sD k d0=some r):An Try.prog 78 [.agg (Af.c d0)] (fun y=>y=.bool r):=by
 refine PB Try.f78 Fv.c [.tmp 2] ?_
 simp only[sD]at h0
 try simp only[Fv.c,go_sem]
 refine AO h0 ?_ ?_<;>intro c1 h0<;>have F:=c1<;>try simp only[F,go_sem]
 refine AF F h0 ?_ ?_<;>intro F h0<;>try simp only[F,go_sem]
 refine ay h0 (aj2 k _ 123 [] ⟨fun _=>rfl,fun _=>rfl,fun _ _=>rfl,rfl,fun _=>rfl,fun _=>rfl,fun _=>rfl⟩ (fun q0=>vR k q0) (fun q0 qr qh=>agv k q0 qr qh)) ?_ (fun x3 h0=>?_)<;>try simp only[F,go_sem]
 obtain rfl:=oi h0
 refine Ad rfl ?_
 try simp only[F,go_sem]
 obtain rfl:=oi h0
 refine Ad rfl ?_
 try simp only[F,go_sem]
 obtain rfl:=oi h0
 refine Ad rfl ?_
 try simp only[F,go_sem]
def CJ.s0:SC:=
 SQ [RG [wO 12 .lss 3 11 10 3 0],CN 12 .skip (.exit 0),.block 1 (SQ [RG [wI 13 40 9 11,wD 14 141 13 [13],wA 4 141,wS 141 4 14 [14]],.bB [wV 15 0 130,oQ 16 (.nilCheck (.tmp 15)) 0,wF 17 134 16 0,wF 18 42 17 0,wD 19 39 18,wF 20 141 4 0,wD 21 3 20,wF 22 141 4 1,wD 23 139 22,wI 24 39 19 21,wS 139 24 23] [[],[0],[0,1],[0,1,2],[0,1,2,3],[],[5],[],[7],[0,1,2,3,4,5,6,7,8],[0,1,2,3,4,5,6,7,8,9]] [4,15,16,
 17,18,19,20,21,22,23,24]]),RG [wK 25 .add 3 11 1 3 3 [11],wV 11 25 3 [25]]]
def CJ.c:SC:=
 SQ [RG [oQ 2 (.assign (.const (.pointer none))) 130 [2]],SQ [RG [wV 5 0 130,oQ 6 (.nilCheck (.tmp 5)) 0 [5],wF 7 134 6 0 [6],wF 8 42 7 1 [7],wD 9 40 8 [8],wL 10 9 40 3,oQ 11 (.move (.const (.int .i64 0))) 3],.block 0 (.loop CJ.s0)],RG [wV 26 0 130,oQ 27 (.nilCheck (.tmp 26)) 0 [26],wF 28 134 27 0 [27],wF 29 42 28 1 [28],⟨none,.store 40 (.tmp 29) (.const (.slice none 0 0)),0,none,[29]⟩],
 RG [wV 30 0 130 [0],wG 2 30 130 [30]],.ret]
theorem CJ.rs:Try.f79.results.toList=[.tmp 2]:=rfl
def gf.b0 (k:Nat) (d0:ar):(Int×(List (Aa 2 (Aa 32 Int))))->Option (AW (Int×(List (Aa 2 (Aa 32 Int)))) ((List (Aa 2 (Aa 32 Int)))) (ar)):=fun s=>match s with
 |(i1,l2)=>
   bif decide (i1<((d0.Af.AD.length:Nat):Int)) then
    (at? d0.Af.AD i1).bind fun x5=>
    (at? l2 x5.At).bind fun x6=>
    (fZ l2 x5.At x5.CD).bind fun l7=>
    some (.next (af (i1+1),l7))
   else
    some (.brk l2)
def gf.h0 (f1:Aj) (H:Heap) (d0:ar):(Int×(List (Aa 2 (Aa 32 Int))))->St:=fun s=>match s with
 |(i1,l2)=>⟨[(0,.ptr 1 0 0),(9,.loc 1 2 65 0 d0.Af.AD.length d0.Af.AD.length),(10,.int .i64 ((d0.Af.AD.length:Nat):Int)),(11,.int .i64 i1)],[],((0,.box ([.loc 0 1 64 0 l2.length l2.length,.loc 0 2 65 0 d0.Af.AD.length d0.Af.AD.length]))::(1,.arr 139 64 (List.map (Aa.c (n:=2) (Aa.c (n:=32) ah)) l2))::(2,.arr 141 65 (List.map Au.c d0.Af.AD))::f1)::H,1,Try.f79.ntmps⟩
def gf.x0 (f1:Aj) (H:Heap) (d0:ar):(List (Aa 2 (Aa 32 Int)))->St:=fun l3=>⟨[(0,.ptr 1 0 0)],[],((0,.box ([.loc 0 1 64 0 l3.length l3.length,.loc 0 2 65 0 d0.Af.AD.length d0.Af.AD.length]))::(1,.arr 139 64 (List.map (Aa.c (n:=2) (Aa.c (n:=32) ah)) l3))::(2,.arr 141 65 (List.map Au.c d0.Af.AD))::f1)::H,1,Try.f79.ntmps⟩
def gf (k:Nat) (d0:ar):Option (ar):=
 (aB (gf.b0 k d0) k (0,d0.Af.AJ)).bind fun r8=>match r8 with
 |.next _=>none
 |.ret v_=>some v_
 |.brk l3=>
  some (⟨(⟨l3,[]⟩:Af)⟩:ar)
theorem y3 (k:Nat) (d0:ar) (r:ar) (h0:gf k d0=some r):CM Try.prog 79 [.ptr 1 0 0] [(0,.box ([.loc 0 1 64 0 d0.Af.AJ.length d0.Af.AJ.length,.loc 0 2 65 0 d0.Af.AD.length d0.Af.AD.length])),(1,.arr 139 64 (List.map (Aa.c (n:=2) (Aa.c (n:=32) ah)) d0.Af.AJ)),(2,.arr 141 65 (List.map Au.c d0.Af.AD))] (fun y fr X'=>y=.ptr 1 0 0/\fr=[]/\X'=[(0,.box ([.loc 0 1 64 0 r.Af.AJ.length r.Af.AJ.length,.nil])),(1,.arr 139 64 (List.map (Aa.c (n:=2) (Aa.c (n:=32) ah)) r.Af.AJ)),(2,.arr 141 65 (List.map Au.c d0.Af.AD))]):=by
 refine CM.ft As (fn:=Try.f79) (sc:=CJ.c) (by rfl) (by rfl) (by decide +kernel) (by rfl) (by decide +kernel) (Nat.le_of_ble_eq_true rfl) (fun f1 H=>?_)
 refine rS ?_
 simp only[A8,BV]
 simp only[gf]at h0
 try simp only[CJ.c,go_sem]
 obtain⟨r8,qt,h0⟩:=bs h0
 refine Bc qt (gf.h0 f1 H d0) (gf.x0 f1 H d0) ?_ ?_ ?_
 refine Ae.go [0,9,10,11] [] rfl ?_
 try simp only[gf.h0,go_sem]
 rintro⟨i1,l2⟩ dU Bq Bs h1 aS aY bM
 refine rS ?_
 simp only[gf.b0]at h1
 try simp only[CJ.s0,gf.h0,go_sem]
 refine AO h1 ?_ ?_<;>intro c4 h1<;>have F:=c4<;>try simp only[F,go_sem]
 obtain⟨x5,cK,h1⟩:=bs h1
 have F:=an (aG cK) (an (aF Au.c cK) F)
 try simp only[F,go_sem]
 refine A1 As bY 1000 ?_
 try simp only[F,go_sem]
 obtain⟨x6,cO,h1⟩:=bs h1
 have F:=an (aG cO) (an (aF (Aa.c (n:=2) (Aa.c (n:=32) ah)) cO) F)
 try simp only[F,go_sem]
 obtain⟨l7,qq,h1⟩:=bs h1
 have sQ:=p4 (Aa.c (n:=2) (Aa.c (n:=32) ah)) qq
 try simp only[go_sem]at sQ
 have F:=an sQ (an (ni qq) (an (p7 (Aa.c (n:=2) (Aa.c (n:=32) ah)) qq) F))
 try simp only[F,go_sem]
 refine aT ?_
 try simp only[F,go_sem]
 refine Aq (aS _ _ (oi h1).symm (Ae.go [0,9,10,11] [] rfl ?_))
 try simp only[gf.h0,F,go_sem]
 refine Aq (aY _ _ (oi h1).symm (Ae.go [0] [] rfl ?_))
 try simp only[gf.x0,F,go_sem]
 rintro l3 aQ
 subst aQ
 simp only at h0
 refine rS ?_
 try simp only[gf.x0,go_sem]
 obtain rfl:=oi h0
 refine ES (by simp) ?_ ?_
 try simp only[CJ.rs,bC,Av,go_sem]
 try simp only[A8,BV,go_sem]
end Go.Abs
namespace Go.Abs
open Go Go.Proofs Go.RowKit Go.Lib
def D3.c:SC:=
 SQ [RG [wE 2 130 0 [0],wE 3 3 1 [1],oQ 4 (.assign (.const .nilFunc)) 224 [4]],RG [oQ 5 (.makeFunc (.func 153) #[] #[.tmp 2,.tmp 3]) 223 [2,3],wG 4 5 224 [5]],.ret]
theorem D3.rs:Try.f147.results.toList=[.tmp 4]:=rfl
def la (d:ar) (aO:Int):AV:=.fn (.func 153) [] [.aq 1 [[.aq 2 [ar.c d] 0 0]] 0 0,.aq 1 [[.int .i64 aO]] 0 0]
theorem ajC (d:ar) (aO:Int):BO Try.prog 147 [.aq 2 [ar.c d] 0 0,.int .i64 aO] [] (fun y fr H'=>y=.fn (.func 153) [] [.ptr 0 0 0,.ptr 0 1 0]/\fr=[(0,.box [.aq 2 [ar.c d] 0 0]),(1,.box [.int .i64 aO])]/\H'=[]):=by
 refine BO.ft As (fn:=Try.f147) (sc:=D3.c) (by rfl) (by rfl) (by decide +kernel) (by rfl) (by decide +kernel) (Nat.le_of_ble_eq_true rfl) ?_ (by rintro y fr H' ⟨_,_,rfl⟩;rfl)
 refine rS ?_
 simp only[D3.c,go_sem]
 refine⟨_,by rw[D3.rs];simp only[go_sem];rfl,.own [0,16] _ _ (by decide) (by decide) ?_ ?_ ⟨rfl,rfl,rfl⟩⟩
 ·simp only[bC,go_sem]
 ·simp only[iD,go_sem]
def ik (fm:FM) (w:World) (B:Nat):FM:=fun b o=>if B<=b then w.cell? ⟨b,o,none⟩ else fm b o
theorem zf {N0:Nat}{W0:World}{fm fm':FM}{ts:List Ah}{H:Heap}{w:World} (hr:HR N0 W0 fm ts H w) {c k:Nat}{x:AV} (hg:H.get 0 k=some (.box [x])) (ht:tb ts 0 k=some (.box c)) (hz:x.ag (fun _ _=>none)=some x)
  (hle:AM fm fm') (hc:∀ o v,w.cell? ⟨c,o,none⟩=some v->fm' c o=some v):VR fm' [] (.aq 1 [[x]] 0 0) (.pointer (some ⟨c,0,none⟩)):=by
 have hb:=hr.aj 0 k _ hg
 rw[ht]at hb
 cases hb with
 |box _ _ hN hB=>
  obtain⟨cells,et,c1,c2,c3⟩:=hB
  obtain⟨u,h0⟩:∃ u,cells[0]?=some u:=⟨_,Bg (by rw[c2];simp)⟩
  obtain⟨hf,hv⟩:=c3 0 x _ rfl h0
  have aV:w.cell? ⟨c,0,none⟩=some u:=by simp[World.cell?,c1,h0]
  have e9:VR fm [] x u:=(hr.oX (Am.one hv:Am fm ts [x] [u]) (ys:=[x]) (by simp only[AV.az,hz])).2 0 _ _ rfl rfl
  refine .aq [[x]] 0 0 c 0 1 (fun _ _=>u) ?_ ?_ ?_ ?_
  ·intro y hy
   rw[Cw.1 hy];rfl
  all_goals
   intro i cc o y hi ho
   obtain⟨rfl,rfl⟩:i=0/\cc=[x]:=by
    cases i with
    |zero=>exact⟨rfl,(oi hi).symm⟩
    |succ i=>simp at hi
   obtain⟨rfl,rfl⟩:o=0/\y=x:=by
    cases o with
    |zero=>exact⟨rfl,(oi ho).symm⟩
    |succ o=>simp at ho
  ·exact hc 0 _ aV
  ·exact hf
  ·exact e9.mono hle (Ak.refl _)
theorem agr (d:ar) (aO:Int):An Try.prog 147 [.aq 2 [ar.c d] 0 0,.int .i64 aO] (fun y=>y=la d aO):=by
 have hA:=ajC d aO
 refine⟨hA.1,fun fm w vs h1 h2=>Calls.mono (hA.2 w.heap.size w fm [] w vs (HR.nothing h1) (h2.mono (AM.refl _) (Ak.nil _))) ?_⟩
 rintro e w' ⟨v,av,aH,H',fm',t',ts',rfl,⟨rfl,rfl,rfl⟩,_,bu,aZ,bz,_,_,_⟩
 have hle:AM fm' (ik fm' w' w.heap.size):=fun b o v h=>by
  unfold ik
  split
  ·exact bu.bL b o v h
  ·exact h
 have bl:CK (ik fm' w' w.heap.size) w':=fun b o v h=>by
  unfold ik at h
  split at h
  ·exact h
  ·exact bu.bL b o v h
 have aav:Ax w.heap.size fm (ik fm' w' w.heap.size):=⟨fun b o v h=>hle b o v (bz.le b o v h),fun b o h=>by unfold ik;rw[if_neg (by omega)];exact bz.fix b o h⟩
 refine⟨v,la d aO,_,rfl,rfl,bl,?_,aav,bu.bJ⟩
 cases aZ with
 |fn f first cap vf vc h1 h2 h3 h4=>
  refine .fn _ _ _ vf vc h1 (by simpa using h2) (by intro i x v h;simp at h) ?_
  intro i x v hx hv
  match i,hx,hv with
  |0,hx,hv=>
   obtain rfl:=oi hx
   have hp:=h4 0 _ v rfl hv
   cases hp with
   |ptr _ _ _ c ax=>exact zf bu rfl ax rfl hle (fun o u hu=>by unfold ik;rw[if_pos];exact hu;exact(bu.aj 0 0 _ rfl).lt (by rw[ax];rfl) |>.2)
  |1,hx,hv=>
   obtain rfl:=oi hx
   have hp:=h4 1 _ v rfl hv
   cases hp with
   |ptr _ _ _ c ax=>exact zf bu rfl ax rfl hle (fun o u hu=>by unfold ik;rw[if_pos];exact hu;exact(bu.aj 0 1 _ rfl).lt (by rw[ax];rfl) |>.2)
  |i+2,hx,hv=>simp at hx
def Di.c:SC:=
 SQ [RG [oQ 2 (.assign (.const (.slice none 0 0))) 44 [2]],SQ [RG [wV 3 0 44,oQ 4 (.binOp .eql 44 (.tmp 3) (.const (.slice none 0 0)) 44) 4 [3]],CN 4 (SQ [RG [oQ 2 (.assign (.const (.slice none 0 0))) 44],.ret]) .skip],RG [oQ 5 (.buildSlice 44 0 #[]) 44,wV 6 0 44 [0],wP 7 5 6 44 44 44 [5,6],wG 2 7 44 [7]],.ret]
theorem Di.rs:Try.f119.results.toList=[.tmp 2]:=rfl
def rU (k:Nat) (s0:(List Ab)):Option ((List Ab)):=
 (nh s0.length 72).bind fun _=>
 some s0
theorem aes (k:Nat) (s0:(List Ab)) (r:(List Ab)) (h0:rU k s0=some r):AY Try.prog 119 [.sl 8 (List.map Ab.c s0)] [] (fun y fr=>y=.loc 0 0 8 0 r.length r.length/\fr=[(0,.arr 25 8 (List.map Ab.c r))]):=by
 have hr:=AY.own (et:=25) (sz:=8) (ls:=List.map Ab.c r) (AY.ft As (f:=119) (fn:=Try.f119) (sc:=Di.c) (args:=[.sl 8 (List.map Ab.c s0)]) (fr0:=[]) (by rfl) (by rfl) (by decide +kernel) (by rfl) (by decide +kernel) (Nat.le_of_ble_eq_true rfl) (fun H=>?_))
 ·simpa only [Bh] using hr
 refine rS ?_
 simp only[rU]at h0
 try simp only[Di.c,go_sem]
 refine⟨fun he=>?_,?_⟩
 ·refine rS ?_
  try simp only[go_sem]
  obtain⟨u_,hu_,h0⟩:=bind_some h0
  obtain rfl:=oi h0
  refine Cx rfl ?_
  simp only[he,Di.rs,lZ,AQ,bC,AE,List.take_nil,go_sem]
  try simp
 ·refine rS ?_
  try simp only[go_sem]
  obtain⟨u1,lh,h0⟩:=bind_some h0
  try simp only[uS lh,go_sem]
  obtain rfl:=oi h0
  refine Cx rfl ?_
  try simp only[Di.rs,lZ,AQ,bC,vY,vZ,A7,Co,go_sem]
def Fz.c:SC:=
 SQ [RG [wE 1 46 0 [0],wA 2 46],RG [wF 3 46 1 0 [1],wD 4 44 3 [3],wU 5 119 4 44 44 [4],oQ 6 (.build 46 #[(0,.tmp 5)]) 46 [5],wS 46 2 6 [6]],.ret]
def qC (k:Nat) (b0:Al):Option (Al):=
 (rU k b0.Ac).bind fun x2=>
 some (⟨x2⟩:Al)
theorem abM (k:Nat) (b0:Al) (r:Al) (h0:qC k b0=some r):An Try.prog 96 [.agg (Al.c b0)] (fun y=>y=.agg (Al.c r)):=by
 refine PB Try.f96 Fz.c [.cell 2 46] ?_
 simp only[qC]at h0
 try simp only[Fz.c,go_sem]
 obtain⟨x2,gz,h0⟩:=bs h0
 refine CP As 1000 [] [] (aes k _ _ gz) ?_ rfl ?_
 try simp only[j3,Bh,go_sem]
 try simp only[go_sem]
 obtain rfl:=oi h0
 refine Ad rfl ?_
 try simp only[go_sem]
def Dm.s0:SC:=
 SQ [SQ [RG [wV 15 9 3,wV 16 10 3,wO 17 .lss 3 15 16 3 4 [15,16]],CN 17 .skip (.exit 0)],.block 1 (SQ [RG [wV 18 9 3,wV 19 10 3,wO 20 .add 3 18 19 3 3 [18,19],wY 21 3 211 20 211 [20],oQ 22 (.binOp .shr 211 (.tmp 21) (.const (.int .u64 1)) 211) 211 [21],wY 23 211 3 22 3 [22],wG 11 23 3 [23]],.bB [wV 24 2 213,wV 25 0 44,wV 26 11 3,wI 27 44 25 26,wD 28 25 27,wD 29 23 4,
 oQ 30 (.call ⟨.value (.tmp 24),#[.tmp 28,.tmp 29],#[25,23]⟩) 3,wK 31 .lss 3 30 0 3 4] [[],[],[],[1,2],[1,2,3],[],[0,1,2,3,4,5],[0,1,2,3,4,5,6]] [24,25,26,27,28,29,30],CN 31 (RG [wV 32 11 3 [11],wK 33 .add 3 32 1 3 3 [32],wG 9 33 3 [33]]) (RG [wV 34 11 3 [11],wG 10 34 3 [34]])])]
def Dm.c:SC:=
 SQ [RG [wE 4 23 1 [1],wN 6 0 3 [6],wB 7 false 4 [7]],RG [wV 12 0 44,wL 13 12 44 3 [12],wG 8 13 3 [13]],RG [wV 14 8 3,wN 9 0 3,wG 10 14 3 [14]],.block 0 (.loop Dm.s0),.bB [wV 35 9 3,wV 36 9 3,wV 37 8 3,wO 38 .lss 3 36 37 3 4,wV 39 38 4,gd 39 true (wV 40 2 213),gd 39 true (wV 41 0 44),gd 39 true (wV 42 9 3),gd 39 true (wI 43 44 41 42),gd 39 true (wD 44 25 43),gd 39 true (wD 45 23 4),
 gd 39 true (oQ 46 (.call ⟨.value (.tmp 40),#[.tmp 44,.tmp 45],#[25,23]⟩) 3),gd 39 true (wK 47 .eql 3 46 0 3 4),wZ 48 39 47 4,wG 6 35 3,wG 7 48 4] [[],[],[],[1,2],[1,2,3],[1,2,3,4],[1,2,3,4],[1,2,3,4],[1,2,3,4,6,7],[1,2,3,4,6,7,8],[1,2,3,4],[1,2,3,4,5,6,7,8,9,10],[1,2,3,4,5,6,7,8,9,10,11],[1,2,3,4,5,6,7,8,9,10,11,12],[0,1,2,3,4,5,6,7,8,9,10,11],[1,2,3,4,5,6,7,8,9,10,11,12,13,0,14]] [0,2,4,8,9,35,
 36,37,38,39,40,41,42,43,44,45,46,47,48],.ret]
def eR.b0 (k:Nat) (pc:Ab->Entry->Option (Int)) (x0:(List Ab)) (iJ:Entry):(Int×Int)->Option (AW (Int×Int) (Int) (Int×Bool)):=fun s=>match s with
 |(i1,i2)=>
   bif decide (i1<i2) then
    (at? x0 (af (Int.fdiv (IntKind.u64.wrap (af (i1+i2))) (2 ^ 1)))).bind fun x5=>
    (pc x5 iJ).bind fun x6=>
    bif decide (x6<(0:Int)) then
     some (.next (af ((af (Int.fdiv (IntKind.u64.wrap (af (i1+i2))) (2 ^ 1)))+1),i2))
    else
     some (.next (i1,af (Int.fdiv (IntKind.u64.wrap (af (i1+i2))) (2 ^ 1))))
   else
    some (.brk i1)
def eR.h0 (nG:Nat) (mz:List AV) (x0:(List Ab)) (iJ:Entry):(Int×Int)->St:=fun s=>match s with
 |(i1,i2)=>⟨[(0,.sl 8 (List.map Ab.c x0)),(2,.fn (.func nG) [] mz),(4,.ptr 0 0 0),(8,.int .i64 (x0.length:Int)),(9,.int .i64 i1),(10,.int .i64 i2)],[(0,.box ([.int .i64 iJ.Ag,.int .i64 iJ.No]))],[],1,Try.f135.ntmps⟩
def eR.x0 (nG:Nat) (mz:List AV) (x0:(List Ab)) (iJ:Entry):Int->St:=fun i3=>⟨[(0,.sl 8 (List.map Ab.c x0)),(2,.fn (.func nG) [] mz),(4,.ptr 0 0 0),(8,.int .i64 (x0.length:Int)),(9,.int .i64 i3)],[(0,.box ([.int .i64 iJ.Ag,.int .i64 iJ.No]))],[],1,Try.f135.ntmps⟩
def eR (k:Nat) (x0:(List Ab)) (iJ:Entry) (pc:Ab->Entry->Option (Int)):Option (Int×Bool):=
 (aB (eR.b0 k pc x0 iJ) k (0,(x0.length:Int))).bind fun r8=>match r8 with
 |.next _=>none
 |.ret v_=>some v_
 |.brk i3=>
  bif decide (i3<(x0.length:Int)) then
   (at? x0 i3).bind fun dK=>
   (pc dK iJ).bind fun ed=>
   some (i3,decide (ed=(0:Int)))
  else
   some (i3,false)
theorem ajZ (k:Nat) (x0:(List Ab)) (iJ:Entry) (nG:Nat) (mz:List AV) (mA:BK mz) (pc:Ab->Entry->Option (Int)) (ab2:∀ q0 q1 qr,pc q0 q1=some qr->An Try.prog nG (.agg (Ab.c q0)::.agg (Entry.c q1)::mz) (fun y=>y=.int .i64 qr)) (r:Int×Bool) (h0:eR k x0 iJ pc=some r):An Try.prog 135 [.sl 8 (List.map Ab.c x0),.agg (Entry.c iJ),.fn (.func nG) [] mz] (fun y=>y=.ak [.int .i64 r.1,.bool r.2]):=by
 refine PB Try.f135 Dm.c [.tmp 6,.tmp 7] ?_
 simp only[eR]at h0
 have F:=an mA.sh (an mA.ag (an mA.br (an mA.refs (an mA.imp (an mA.aE mA.un)))))
 try simp only[Dm.c,F,go_sem]
 obtain⟨r8,qt,h0⟩:=bs h0
 refine Bc qt (eR.h0 nG mz x0 iJ) (eR.x0 nG mz x0 iJ) ?_ ?_ ?_
 refine Ae.go [0,2,4,8,9,10] [0] rfl ?_
 try simp only[eR.h0,F,go_sem]
 rintro⟨i1,i2⟩ dU Bq Bs h1 aS aY bM
 refine rS ?_
 simp only[eR.b0]at h1
 try simp only[Dm.s0,eR.h0,F,go_sem]
 refine AF F h1 ?_ ?_<;>intro F h1<;>try simp only[F,go_sem]
 try simp only[(@id (min (Int.toNat 1) 64=1) rfl),F,go_sem]
 refine A1 As bY 1000 ?_
 try simp only[F,go_sem]
 obtain⟨x5,cK,h1⟩:=bs h1
 have F:=an (aG cK) (an (aF Ab.c cK) F)
 try simp only[F,go_sem]
 refine eJ h1 (ab2 _ _) ?_ (fun x6 h1=>?_) (fun _=>by simp[AV.aD,AV.refs,AV.cJ,AV.leaf,mA.refs])<;>try simp only[F,go_sem]
 refine aT ?_
 try simp only[F,go_sem]
 refine AF F h1 ?_ ?_<;>intro F h1<;>try simp only[F,go_sem]
 refine Aq (aS _ _ (oi h1).symm (Ae.go [0,2,4,8,9,10] [0] rfl ?_))
 try simp only[eR.h0,F,go_sem]
 refine Aq (aS _ _ (oi h1).symm (Ae.go [0,2,4,8,9,10] [0] rfl ?_))
 try simp only[eR.h0,F,go_sem]
 refine Aq (aY _ _ (oi h1).symm (Ae.go [0,2,4,8,9] [0] rfl ?_))
 try simp only[eR.x0,F,go_sem]
 rintro i3 aQ
 subst aQ
 simp only at h0
 refine rS ?_
 try simp only[eR.x0,F,go_sem]
 refine A1 As bY 1000 ?_
 try simp only[F,go_sem]
 refine DF F h0 ?_ ?_<;>intro F h0<;>try simp only[F,go_sem]
 obtain⟨dK,jP,h0⟩:=bs h0
 have F:=an (aG jP) (an (aF Ab.c jP) F)
 try simp only[F,go_sem]
 refine eJ h0 (ab2 _ _) ?_ (fun ed h0=>?_) (fun _=>by simp[AV.aD,AV.refs,AV.cJ,AV.leaf,mA.refs])<;>try simp only[F,go_sem]
 refine aT ?_
 try simp only[F,go_sem]
 obtain rfl:=oi h0
 refine Ad rfl ?_
 try simp only[F,go_sem]
 refine aT ?_
 try simp only[F,go_sem]
 obtain rfl:=oi h0
 refine Ad rfl ?_
 try simp only[F,go_sem]
def Dn.s0:SC:=
 SQ [RG [wO 9 .lss 3 8 7 3 0],CN 9 .skip (.exit 0),.block 1 (SQ [RG [wI 10 63 6 8,wD 11 3 10 [10],wG 5 11 3 [11]],RG [wV 12 5 3,wV 13 3 3,wO 14 .neq 3 12 13 3 4 [12,13]],CN 14 (SQ [RG [wV 15 5 3 [5],wG 2 15 3 [15]],.ret]) .skip]),RG [wK 16 .add 3 8 1 3 3 [8],wV 8 16 3 [16]]]
def Dn.c:SC:=
 SQ [RG [wN 2 0 3 [2]],RG [wN 3 0 3],SQ [RG [wV 6 0 63 [0],wL 7 6 63 3,oQ 8 (.move (.const (.int .i64 0))) 3],.block 0 (.loop Dn.s0)],RG [wV 17 3 3 [3],wG 2 17 3 [17]],.ret]
def fk.b0 (k:Nat) (lf:(List Int)):Int->Option (AW (Int) (Unit) (Int)):=fun i1=>
 bif decide (i1<(lf.length:Int)) then
  (at? lf i1).bind fun x3=>
  bif (!decide (x3=(0:Int))) then
   some (.ret x3)
  else
   some (.next (af (i1+1)))
 else
  some (.brk ())
def fk.h0 (lf:(List Int)):Int->St:=fun i1=>⟨[(3,.int .i64 0),(6,.sl 1 (List.map eI lf)),(7,.int .i64 (lf.length:Int)),(8,.int .i64 i1)],[],[],1,Try.f139.ntmps⟩
def fk.x0:Unit->St:=fun _=>⟨[(3,.int .i64 0)],[],[],1,Try.f139.ntmps⟩
def fk (k:Nat) (lf:(List Int)):Option (Int):=
 (aB (fk.b0 k lf) k 0).bind fun r5=>match r5 with
 |.next _=>none
 |.ret v_=>some v_
 |.brk _=>
  some 0
theorem agL (k:Nat) (lf:(List Int)) (r:Int) (h0:fk k lf=some r):An Try.prog 139 [.sl 1 (List.map eI lf)] (fun y=>y=.int .i64 r):=by
 refine PB Try.f139 Dn.c [.tmp 2] ?_
 simp only[fk]at h0
 try simp only[Dn.c,go_sem]
 obtain⟨r5,yr5,h0⟩:=bs h0
 refine Bc yr5 (fk.h0 lf) (fk.x0) ?_ ?_ ?_
 refine Ae.go [3,6,7,8] [] rfl ?_
 try simp only[fk.h0,go_sem]
 rintro i1 dU Bq Bs h1 aS aY bM
 refine rS ?_
 simp only[fk.b0]at h1
 try simp only[Dn.s0,fk.h0,go_sem]
 refine AO h1 ?_ ?_<;>intro c2 h1<;>have F:=c2<;>try simp only[F,go_sem]
 obtain⟨x3,cv,h1⟩:=bs h1
 have F:=an (aG cv) (an (aF eI cv) F)
 try simp only[F,go_sem]
 refine Bd F h1 ?_ ?_<;>intro F h1<;>try simp only[F,go_sem]
 obtain rfl:=bM _ (oi h1).symm
 simp only at h0
 obtain rfl:=oi h0
 refine Ad rfl ?_
 try simp only[F,go_sem]
 refine Aq (aS _ _ (oi h1).symm (Ae.go [3,6,7,8] [] rfl ?_))
 try simp only[fk.h0,F,go_sem]
 refine Aq (aY _ _ (oi h1).symm (Ae.go [3] [] rfl ?_))
 try simp only[fk.x0,F,go_sem]
 rintro _ aQ
 subst aQ
 simp only at h0
 refine rS ?_
 try simp only[fk.x0,go_sem]
 obtain rfl:=oi h0
 refine Ad rfl ?_
 try simp only[go_sem]
def E9.c:SC:=
 SQ [RG [wB 2 false 4 [2]],RG [wV 3 0 3,wV 4 0 3 [0],wO 5 .neq 3 3 4 3 4 [3,4],wG 2 5 4 [5]],.ret]
def cmp_isNaN_int (k:Nat) (x0:Int):Option (Bool):=
 some false
theorem ab5 (k:Nat) (x0:Int) (r:Bool) (h0:cmp_isNaN_int k x0=some r):An Try.prog 150 [.int .i64 x0] (fun y=>y=.bool r):=by
 refine PB Try.f150 E9.c [.tmp 2] ?_
 simp only[cmp_isNaN_int]at h0
 try simp only[E9.c,go_sem]
 obtain rfl:=oi h0
 refine Ad rfl ?_
 try simp only[go_sem]
def E8.c:SC:=
 SQ [RG [wN 4 0 3 [4]],RG [wV 7 0 3,wU 8 150 7 3 4 [7],wG 5 8 4 [8]],RG [wV 9 1 3,wU 10 150 9 3 4 [9],wG 6 10 4 [10]],SQ [RG [wV 11 5 4 [5]],CN 11 (SQ [SQ [RG [wV 12 6 4 [6]],CN 12 (SQ [RG [wN 4 0 3],.ret]) .skip],RG [wN 4 (-1) 3],.ret]) .skip],SQ [RG [wV 13 6 4 [6]],CN 13 (SQ [RG [wN 4 1 3],.ret]) .skip],SQ [RG [wV 14 0 3,wV 15 1 3,wO 16 .lss 3 14 15 3 4 [14,15]],CN 16 (SQ [RG [wN 4 (-1) 3],
 .ret]) .skip],SQ [RG [wV 17 0 3 [0],wV 18 1 3 [1],wO 19 .gtr 3 17 18 3 4 [17,18]],CN 19 (SQ [RG [wN 4 1 3],.ret]) .skip],RG [wN 4 0 3],.ret]
def qJ (k:Nat) (x0:Int) (y1:Int):Option (Int):=
 (cmp_isNaN_int k x0).bind fun x1=>
 (cmp_isNaN_int k y1).bind fun x2=>
 bif x1 then
  bif x2 then
   some 0
  else
   some (-1)
 else
  bif x2 then
   some 1
  else
   bif decide (x0<y1) then
    some (-1)
   else
    bif decide (y1<x0) then
     some 1
    else
     some 0
theorem ab4 (k:Nat) (x0:Int) (y1:Int) (r:Int) (h0:qJ k x0 y1=some r):An Try.prog 140 [.int .i64 x0,.int .i64 y1] (fun y=>y=.int .i64 r):=by
 refine PB Try.f140 E8.c [.tmp 4] ?_
 simp only[qJ]at h0
 try simp only[E8.c,go_sem]
 refine ay h0 (ab5 k _) ?_ (fun x1 h0=>?_)<;>try simp only[go_sem]
 refine ay h0 (ab5 k _) ?_ (fun x2 h0=>?_)<;>try simp only[go_sem]
 refine AO h0 ?_ ?_<;>intro c3 h0<;>have F:=c3<;>try simp only[F,go_sem]
 refine AF F h0 ?_ ?_<;>intro F h0<;>try simp only[F,go_sem]
 obtain rfl:=oi h0
 refine Ad rfl ?_
 try simp only[F,go_sem]
 obtain rfl:=oi h0
 refine Ad rfl ?_
 try simp only[F,go_sem]
 refine AF F h0 ?_ ?_<;>intro F h0<;>try simp only[F,go_sem]
 obtain rfl:=oi h0
 refine Ad rfl ?_
 try simp only[F,go_sem]
 refine AF F h0 ?_ ?_<;>intro F h0<;>try simp only[F,go_sem]
 obtain rfl:=oi h0
 refine Ad rfl ?_
 try simp only[F,go_sem]
 refine AF F h0 ?_ ?_<;>intro F h0<;>try simp only[F,go_sem]
 obtain rfl:=oi h0
 refine Ad rfl ?_
 try simp only[F,go_sem]
 obtain rfl:=oi h0
 refine Ad rfl ?_
 try simp only[F,go_sem]
def EX.c:SC:=
 SQ [RG [wE 2 23 0 [0],wE 3 23 1 [1],wN 4 0 3 [4]],.bB [wF 5 23 2 0,wD 6 3 5,wF 7 23 3 0,wD 8 3 7,wW 9 140 6 8 3 3 3,wF 10 23 2 1,wD 11 3 10,wF 12 23 3 1,wD 13 3 12,wW 14 140 11 13 3 3 3,oQ 15 (.buildSlice 63 2 #[(0,.tmp 9),(1,.tmp 14)]) 63,wU 16 139 15 63 3,wG 4 16 3] [[],[0],[],[2],[0,1,2,3],[],[5],[],[7],[5,6,7,8,0,1,2,3,4],[0,1,2,3,4,5,6,7,8,9],[0,1,2,3,4,5,6,7,8,9,10],[0,1,2,3,4,5,6,7,8,9,
 10,11]] [2,3,5,6,7,8,9,10,11,12,13,14,15,16],.ret]
def qA (k:Nat) (a0:Entry) (b1:Entry):Option (Int):=
 (qJ k a0.Ag b1.Ag).bind fun x1=>
 (qJ k a0.No b1.No).bind fun x2=>
 (fk k [x1,x2]).bind fun x3=>
 some x3
theorem abL (k:Nat) (a0:Entry) (b1:Entry) (r:Int) (h0:qA k a0 b1=some r):An Try.prog 103 [.agg (Entry.c a0),.agg (Entry.c b1)] (fun y=>y=.int .i64 r):=by
 refine PB Try.f103 EX.c [.tmp 4] ?_
 simp only[qA]at h0
 try simp only[EX.c,go_sem]
 refine A1 As bY 1000 ?_
 try simp only[go_sem]
 refine eJ h0 (ab4 k _ _) ?_ (fun x1 h0=>?_)<;>try simp only[go_sem]
 refine eJ h0 (ab4 k _ _) ?_ (fun x2 h0=>?_)<;>try simp only[go_sem]
 refine eJ h0 (agL k _) ?_ (fun x3 h0=>?_)<;>try simp only[go_sem]
 refine aT ?_
 try simp only[go_sem]
 obtain rfl:=oi h0
 refine Ad rfl ?_
 try simp only[go_sem]
def E7.c:SC:=
 SQ [RG [wE 2 25 0 [0],wE 3 23 1 [1],wN 4 0 3 [4]],RG [wF 5 25 2 0 [2],wD 6 23 5 [5],wD 7 23 3 [3],wW 8 103 6 7 23 23 3 [6,7],wG 4 8 3 [8]],.ret]
def nC (k:Nat) (r0:Ab) (x1:Entry):Option (Int):=
 (qA k r0.At x1).bind fun x2=>
 some x2
theorem agu (k:Nat) (r0:Ab) (x1:Entry) (r:Int) (h0:nC k r0 x1=some r):An Try.prog 136 [.agg (Ab.c r0),.agg (Entry.c x1)] (fun y=>y=.int .i64 r):=by
 refine PB Try.f136 E7.c [.tmp 4] ?_
 simp only[nC]at h0
 try simp only[E7.c,go_sem]
 refine ay h0 (abL k _ _) ?_ (fun x2 h0=>?_)<;>try simp only[go_sem]
 obtain rfl:=oi h0
 refine Ad rfl ?_
 try simp only[go_sem]
def FA.c:SC:=
 SQ [RG [wE 2 46 0 [0],wE 3 23 1 [1],wN 4 0 3 [4],wB 5 false 4 [5]],RG [wF 6 46 2 0 [2],wD 7 44 6 [6],wD 8 23 3 [3],wC 9 135 #[.tmp 7,.tmp 8,.func 136] #[44,23,213] 164 [7,8],wX 10 9 0 3,wX 11 9 1 4 [9],wG 4 10 3 [10],wG 5 11 4 [11]],.ret]
def qE (k:Nat) (b0:Al) (dL:Entry):Option (Int×Bool):=
 (eR k b0.Ac dL (fun q0 q1=>nC k q0 q1)).bind fun x1=>
 some (x1.1,x1.2)
theorem abQ (k:Nat) (b0:Al) (dL:Entry) (r:Int×Bool) (h0:qE k b0 dL=some r):An Try.prog 97 [.agg (Al.c b0),.agg (Entry.c dL)] (fun y=>y=.ak [.int .i64 r.1,.bool r.2]):=by
 refine PB Try.f97 FA.c [.tmp 4,.tmp 5] ?_
 simp only[qE]at h0
 try simp only[FA.c,go_sem]
 refine ay h0 (ajZ k _ _ 136 [] ⟨fun _=>rfl,fun _=>rfl,fun _ _=>rfl,rfl,fun _=>rfl,fun _=>rfl,fun _=>rfl⟩ (fun q0 q1=>nC k q0 q1) (fun q0 q1 qr qh=>agu k q0 q1 qr qh)) ?_ (fun x1 h0=>?_)<;>try simp only[go_sem]
 obtain rfl:=oi h0
 refine Ad rfl ?_
 try simp only[go_sem]
end Go.Abs
namespace Go.Abs
open Go Go.Proofs Go.RowKit Go.Lib
theorem xZ {P:Program} (w:World) (dT sT ty elem:TypeId) (z b o zn agR:Nat) (a:Addr) (cu eb:Nat) (cs:List Value)
  (hu:P.underlying dT=some (.slice elem)) (hs:(P.info? elem).map (·.size)=some z) (hn:cs.length=Nat.min cu zn*z)
  (uc:∀ j v,cs[j]?=some v->w.cell? (a.add j)=some v) (hc:∀ j,j<cs.length->(w.cell? ⟨b,o+j,none⟩).isSome=true) (hf:∀ j,j<cs.length->w.frozen? ⟨b,o+j,none⟩=false) (h1:∀ v∈cs,v.oneCell'=true):
  (Builtin.copy_ #[dT,sT] ty #[.slice (some ⟨b,o,none⟩) zn agR,.slice (some a) cu eb]).run P w=.ok (goInt (Nat.min cu zn)) (w.setCells b o cs):=by
 have hl:=run_loadCells_list (P:=P) w a cs uc
 have cw:=run_storeCells_cells (P:=P) b o cs 0 w (by simpa using hc) (by simpa using hf) h1
 cases hq:P.info? elem with
 |none=>simp[hq]at hs
 |some i=>
  have hi:i.size=z:=by simpa [hq] using hs
  simp[Builtin.copy_,run_underlying hu,Builtin.lenOf,Builtin.firstCells,sizeOf,typeInfo,hq,hi,<-hn,hl,cw]
theorem ais (b n c i vb kC vc:Nat) (cs vs:List Value) (w:World) (hi:i<n) (mV:n+1<=c) (ak4:c<=9223372036854775807) (xE:vb≠b) (bV:cs.length=n*8) (lU:vs.length=8)
  (ek:∀ j v,cs[j]?=some v->w.cell? ⟨b,j,none⟩=some v) (n7:∀ j,j<(n+1)*8->(w.cell? ⟨b,j,none⟩).isSome=true) (kT:∀ j,j<(n+1)*8->w.frozen? ⟨b,j,none⟩=false)
  (aM:∀ j v,vs[j]?=some v->w.cell? ⟨vb,kC+j,none⟩=some v) (mI:∀ v∈cs,v.oneCell'=true) (qZ:∀ v∈vs,v.oneCell'=true)
  (tA tB:TypeId) (kA kB:Nat) (hsa:w.shape? vb=some (tA,kA)) (ua:w.shape? b=some (tB,kB)) (hkB:kB≠0) (hfa:w.frozen? ⟨vb,kC,none⟩=false) (hfe:w.frozen? ⟨vb,kA,none⟩=false):
  Calls Try.prog 98 #[.slice (some ⟨b,0,none⟩) n c,.int .i64 i,.slice (some ⟨vb,kC,none⟩) 1 vc] w fun e w'=>
   e=.returned (.slice (some ⟨b,0,none⟩) (n+1) c)/\w'=(w.drew.setCells b ((i+1)*8) (cs.drop (i*8))).setCells b (i*8) vs:=by
 have t44:Try.prog.underlying 44=some (.slice 25):=by rfl
 have ao:(Try.prog.info? 25).map (·.size)=some 8:=by rfl
 have hz2:¬ ((i:Int)=(n:Int)):=by omega
 have ug:IntKind.i64.wrap ((i:Int)+1)=(i:Int)+1:=by rw[IntKind.wrap_i64];omega
 have uh:IntKind.i64.wrap ((n:Int)+1)=(n:Int)+1:=by rw[IntKind.wrap_i64];omega
 have fW:(0:Int)<=(i:Int)+1:=by omega
 have bl:i<=n:=by omega
 have htn:((i:Int)+1).toNat=i+1:=by omega
 have ale:((n:Int)+1).toNat=n+1:=by omega
 have gI:¬ (c=i+1):=by omega
 have hb4:¬ (c=i):=by omega
 have hrc:¬ ((c:Int)<(n:Int)+1):=by omega
 have aal:Try.f98.ntmps=95:=by rfl
 have th:(i:Int)<=(n:Int)+1:=by omega
 have mixed:=bY
 have hz8:∀ w,(Go.sizeOf 25).run Try.prog w=.ok 8 w:=fun _=>by rfl
 have hov:∀ lb cb,(callFunc 137 #[.slice (some ⟨vb,kC,none⟩) 1 vc,.slice (some ⟨b,(i+1)*8,none⟩) lb cb]).run Try.prog w=.ok (.value (.bool false)) w:=fun lb cb=>by
  rw[run_callFunc_extern (fn:=Try.f137) (by rfl) (by kernel_rfl) (by kernel_rfl) (by kernel_rfl) (e:=Extern.SlicesOverlaps.overlaps #[44,44] #[4]) (by kernel_rfl),
   Lib.run_overlaps_apart w 44 4 25 t44 8 hz8 ⟨vb,kC,none⟩ ⟨b,(i+1)*8,none⟩ 1 vc lb cb xE tA tB kA kB hsa ua hkB hfa hfe]
  rfl
 have tp:(cs.drop (i*8)).length=(n - i)*8:=by rw[B3,bV,Nat.sub_mul]
 have adi:Nat.min (n+1 - i) (n - i)=n - i:=by simp only[Nat.min_def];split<;>omega
 have tH:Nat.min 1 (n+1 - i)=1:=by simp only[Nat.min_def];split<;>omega
 have pB:∀ j,j<(cs.drop (i*8)).length->(i+1)*8+j<(n+1)*8:=fun j hj=>by rw[tp]at hj;omega
 have ada:∀ ty dc sc,(Builtin.copy_ #[44,44] ty #[.slice (some ⟨b,(i+1)*8,none⟩) (n - i) dc,.slice (some ⟨b,i*8,none⟩) (n+1 - i) sc]).run Try.prog w.drew=.ok (goInt ((n - i:Nat):Int)) (w.drew.setCells b ((i+1)*8) (cs.drop (i*8))):=fun ty dc sc=>by
  have:=xZ (P:=Try.prog) w.drew 44 44 ty 25 8 b ((i+1)*8) (n - i) dc ⟨b,i*8,none⟩ (n+1 - i) sc (cs.drop (i*8)) t44 ao (by rw[tp,adi])
   (fun j v hj=>by rw[Addr.add_lit];exact ek (i*8+j) v (by rwa [BN]at hj))
   (fun j hj=>n7 _ (pB j hj)) (fun j hj=>kT _ (pB j hj)) (fun v hv=>mI v (BX hv))
  rw[adi]at this
  exact this
 obtain⟨W1,dQ⟩:∃ W1,W1=w.drew.setCells b ((i+1)*8) (cs.drop (i*8)):=⟨_,rfl⟩
 have aic:∀ k,k<(n+1)*8->(W1.cell? ⟨b,k,none⟩).isSome=true:=fun k hk=>by
  rw[dQ]
  exact isSome_setCells b _ _ w.drew (fun j hj=>n7 _ (pB j hj)) _ (n7 k hk)
 have ahL:∀ (W:World),(∀ x,W.cell? x=W1.cell? x)->(∀ x,W.frozen? x=W1.frozen? x)->∀ ty dc,(Builtin.copy_ #[44,44] ty #[.slice (some ⟨b,i*8,none⟩) (n+1 - i) dc,.slice (some ⟨vb,kC,none⟩) 1 vc]).run Try.prog W=.ok (goInt 1) (W.setCells b (i*8) vs):=fun W nP tg ty dc=>by
  have:=xZ (P:=Try.prog) W 44 44 ty 25 8 b (i*8) (n+1 - i) dc ⟨vb,kC,none⟩ 1 vc vs t44 ao (by rw[lU,tH])
   (fun j v hj=>by
    rw[Addr.add_lit,nP,dQ,World.cell?_setCells_out b _ _ _ _ (fun h _=>absurd h xE)]
    exact aM j v hj)
   (fun j hj=>by rw[nP];exact aic _ (by omega)) (fun j hj=>by rw[tg,dQ,World.frozen?_setCells];exact kT _ (by omega)) qZ
  rw[tH]at this
  exact this
 rw[<-dQ]at ada
 go_enter (show Try.prog.funcs[98]?=some Try.f98 from by rfl),aal
 go_wp2_with (simp only[hov])
 go_region_law_o (refine step_copy_runI rfl _ _ 44 44 rfl _ _ (by simp[Act.eval,Act.put]) (by simp[Act.eval,Act.put]) (ada _ _ _) ?_)
 go_wp2_with (at_builtin;refine wpList_copy_runI _ rfl _ _ 44 44 rfl _ _ rfl rfl (ahL _ (fun _=>rfl) (fun _=>rfl) _ _) ?_)
 go_ret
 first|exact⟨rfl,rfl⟩|exact⟨rfl,by rw[dQ]⟩
def gb:Value:=.agg #[.int .i64 0,.int .i64 0,.int .i64 0,.int .i64 0,.int .i64 0,.int .i64 0,.int .i64 0,.string ⟨#[]⟩]
theorem aip (b n c i vb kC vc:Nat) (cs vs:List Value) (w:World) (hi:i<n) (bh:n<=c) (mV:c<n+1) (ahI:(n+1)*72<=140737488355328) (bV:cs.length=n*8) (lU:vs.length=8)
  (ek:∀ j v,cs[j]?=some v->w.cell? ⟨b,j,none⟩=some v) (aM:∀ j v,vs[j]?=some v->w.cell? ⟨vb,kC+j,none⟩=some v) (mI:∀ v∈cs,v.oneCell'=true) (qZ:∀ v∈vs,v.oneCell'=true):
  Calls Try.prog 98 #[.slice (some ⟨b,0,none⟩) n c,.int .i64 i,.slice (some ⟨vb,kC,none⟩) 1 vc] w fun e w'=>
   e=.returned (.slice (some ⟨w.heap.size,0,none⟩) (n+1) (grownCap w (n+1) c 25))/\
   w'=(((w.alloc (.cells ((cs.take (i*8)).toArray++Builtin.zeroCells gb.cells (n+1 - i)++Builtin.zeroCells gb.cells (grownCap w (n+1) c 25 - (n+1))) 25)).drew.setCells w.heap.size (i*8) vs).drew).setCells w.heap.size ((i+1)*8) (cs.drop (i*8)):=by
 have t44:Try.prog.underlying 44=some (.slice 25):=by rfl
 have t3:Try.prog.underlying 3=some (.int .i64):=by rfl
 have ao:(Try.prog.info? 25).map (·.size)=some 8:=by rfl
 obtain⟨i0,rk,hz0,jE,hzb⟩:∃ i0,Try.prog.info? 25=some i0/\i0.zero=some gb/\i0.size=8/\i0.bytes=72:=⟨_,rfl,rfl,rfl,rfl⟩
 have mixed:=bY
 have aal:Try.f98.ntmps=95:=by rfl
 have hz2:¬ ((i:Int)=(n:Int)):=by omega
 have hz3:(c:Int)<(n:Int)+1:=by omega
 have jx:b<w.heap.size:=by
  have:=block_lt_of_cell (ek 0 _ (gG (by omega)));exact this
 have hvw:vb<w.heap.size:=by
  have:=block_lt_of_cell (aM 0 _ (gG (by omega)));exact this
 have cQ:(n:Int)+1 - (i:Int)=((n+1 - i:Nat):Int):=by omega
 have hik:i+(n+1 - i)=n+1:=by omega
 have hold:(Builtin.firstCells i0.size i (.slice (some ⟨b,0,none⟩) i c)).run Try.prog w.drew=.ok (cs.take (i*8)).toArray w.drew:=by
  rw[jE]
  exact run_firstCells_some w.drew 8 i ⟨b,0,none⟩ i c (cs.take (i*8)) (by rw[A6];omega) (fun j v hj=>by
   rw[Addr.add_lit,B6]
   rw[Bx]at hj
   split at hj
   ·exact ek j v hj
   ·cases hj)
 have xz:∀ ty,(Builtin.append_ #[44,3] ty #[.slice (some ⟨b,0,none⟩) i c,.int .i64 ((n:Int)+1 - (i:Int))]).run Try.prog w =
   .ok (.slice (some ⟨w.heap.size,0,none⟩) (n+1) (grownCap w (n+1) c 25)) (w.drew.alloc (.cells ((cs.take (i*8)).toArray++Builtin.zeroCells gb.cells (n+1 - i)++Builtin.zeroCells gb.cells (grownCap w (n+1) c 25 - (n+1))) 25)):=fun ty=>by
  have h:=Lib.run_append_grow_zeros w 44 3 ty 25 i0 gb .i64 .i64 t44 t3 rk hz0 (some ⟨b,0,none⟩) i c (cs.take (i*8)) hold (n+1 - i) (by omega) (by omega) (by omega) (by omega) (by rw[hzb];omega) (by rw[hzb,hik];exact growslice_fits mV ahI)
  rw[hik]at h
  rw[cQ]
  exact h
 obtain⟨G,hG⟩:∃ G,G=grownCap w (n+1) c 25:=⟨_,rfl⟩
 obtain⟨Cb,z8⟩:∃ Cb:Array Value,Cb=(cs.take (i*8)).toArray++Builtin.zeroCells gb.cells (n+1 - i)++Builtin.zeroCells gb.cells (G - (n+1)):=⟨_,rfl⟩
 rw[<-hG]at xz ⊢
 rw[<-z8]at xz ⊢
 have oc:gb.cells.size=8:=by rfl
 have hRl:(n+1)*8<=Cb.size:=by
  rw[z8,Array.size_append,Array.size_append,size_zeroCells,size_zeroCells,oc,List.size_toArray,A6,Nat.min_eq_left (by omega)]
  omega
 obtain⟨W1,dQ⟩:∃ W1,W1=w.drew.alloc (.cells Cb 25):=⟨_,rfl⟩
 rw[<-dQ]at xz
 have hN:∀ j,j<(n+1)*8->(W1.cell? ⟨w.heap.size,j,none⟩).isSome=true:=fun j hj=>by
  rw[dQ,World.cell?_alloc_at (w:=w.drew) Cb _ w.heap.size j rfl,Bg (by omega)];rfl
 have hNf:∀ j,W1.frozen? ⟨w.heap.size,j,none⟩=false:=fun j=>by rw[dQ];exact World.frozen?_alloc_at (w:=w.drew) Cb _ w.heap.size j rfl
 have hOb:∀ j v,w.cell? ⟨b,j,none⟩=some v->W1.cell? ⟨b,j,none⟩=some v:=fun j v h=>by rw[dQ,World.cell?_alloc_past (w:=w.drew) _ b j jx];exact h
 have hOv:∀ j v,w.cell? ⟨vb,j,none⟩=some v->W1.cell? ⟨vb,j,none⟩=some v:=fun j v h=>by rw[dQ,World.cell?_alloc_past (w:=w.drew) _ vb j hvw];exact h
 have tH:Nat.min 1 (n+1 - i)=1:=by simp only[Nat.min_def];split<;>omega
 have adj:Nat.min (n - i) (n - i)=n - i:=by simp only[Nat.min_def];split<;>omega
 have tp:(cs.drop (i*8)).length=(n - i)*8:=by rw[B3,bV,Nat.sub_mul]
 have pB:∀ j,j<(cs.drop (i*8)).length->(i+1)*8+j<(n+1)*8:=fun j hj=>by rw[tp]at hj;omega
 have ahM:∀ (W:World),(∀ x,W.cell? x=W1.cell? x)->(∀ x,W.frozen? x=W1.frozen? x)->∀ ty dc,(Builtin.copy_ #[44,44] ty #[.slice (some ⟨w.heap.size,i*8,none⟩) (n+1 - i) dc,.slice (some ⟨vb,kC,none⟩) 1 vc]).run Try.prog W=.ok (goInt 1) (W.setCells w.heap.size (i*8) vs):=fun W nP tg ty dc=>by
  have:=xZ (P:=Try.prog) W 44 44 ty 25 8 w.heap.size (i*8) (n+1 - i) dc ⟨vb,kC,none⟩ 1 vc vs t44 ao (by rw[lU,tH])
   (fun j v hj=>by rw[Addr.add_lit,nP];exact hOv _ v (aM j v hj))
   (fun j hj=>by rw[nP];exact hN _ (by omega)) (fun j hj=>by rw[tg];exact hNf _) qZ
  rw[tH]at this
  exact this
 have hGn:n+1<=G:=by rw[hG];exact grownCap_ge w _ _ _
 have ak2:G<=9223372036854775807:=by
  have:=grownCap_le_maxLen w (n+1) c 25 (by unfold maxLen;omega)
  rw[<-hG]at this
  unfold maxLen at this
  omega
 have hGi:¬ (G=i):=by omega
 have ak3:¬ (G=i+1):=by omega
 have xd:¬ (c=i):=by omega
 have hbN:b≠w.heap.size:=by omega
 have adb:∀ (W:World),(∀ x,W.cell? x=(W1.setCells w.heap.size (i*8) vs).cell? x)->(∀ x,W.frozen? x=(W1.setCells w.heap.size (i*8) vs).frozen? x)->∀ ty dc sc,(Builtin.copy_ #[44,44] ty #[.slice (some ⟨w.heap.size,(i+1)*8,none⟩) (n - i) dc,.slice (some ⟨b,i*8,none⟩) (n - i) sc]).run Try.prog W=.ok (goInt ((n - i:Nat):Int)) (W.setCells w.heap.size ((i+1)*8) (cs.drop (i*8))):=fun W nP tg ty dc sc=>by
  have:=xZ (P:=Try.prog) W 44 44 ty 25 8 w.heap.size ((i+1)*8) (n - i) dc ⟨b,i*8,none⟩ (n - i) sc (cs.drop (i*8)) t44 ao (by rw[tp,adj])
   (fun j v hj=>by
    rw[Addr.add_lit,nP,World.cell?_setCells_out _ _ _ _ _ (fun h _=>absurd h hbN)]
    exact hOb _ v (ek (i*8+j) v (by rwa [BN]at hj)))
   (fun j hj=>by rw[nP];exact isSome_setCells _ _ _ _ (fun t ht=>hN _ (by rw[lU]at ht;omega)) _ (hN _ (pB j hj)))
   (fun j hj=>by rw[tg,World.frozen?_setCells];exact hNf _) (fun v hv=>mI v (BX hv))
  rw[adj]at this
  exact this
 subst dQ
 have hE1:∀ x,((w.alloc (.cells Cb 25)).drew).cell? x=(w.drew.alloc (.cells Cb 25)).cell? x:=fun x=>rfl
 have hE2:∀ x,((w.alloc (.cells Cb 25)).drew).frozen? x=(w.drew.alloc (.cells Cb 25)).frozen? x:=fun x=>rfl
 have hF1:∀ x,(((w.alloc (.cells Cb 25)).drew.setCells w.heap.size (i*8) vs).drew).cell? x=((w.drew.alloc (.cells Cb 25)).setCells w.heap.size (i*8) vs).cell? x:=fun x=>rfl
 have hF2:∀ x,(((w.alloc (.cells Cb 25)).drew.setCells w.heap.size (i*8) vs).drew).frozen? x=((w.drew.alloc (.cells Cb 25)).setCells w.heap.size (i*8) vs).frozen? x:=fun x=>rfl
 have ug:IntKind.i64.wrap ((i:Int)+1)=(i:Int)+1:=by rw[IntKind.wrap_i64];omega
 have uh:IntKind.i64.wrap ((n:Int)+1)=(n:Int)+1:=by rw[IntKind.wrap_i64];omega
 have ru:IntKind.i64.wrap ((n:Int)+1 - (i:Int))=(n:Int)+1 - (i:Int):=by rw[IntKind.wrap_i64];omega
 have fW:(0:Int)<=(i:Int)+1:=by omega
 have bl:i<=n:=by omega
 have htn:((i:Int)+1).toNat=i+1:=by omega
 have th:(i:Int)<=(n:Int)+1:=by omega
 have hb5:(i:Int)<=(n:Int):=by omega
 clear cQ hik hold z8 hG hRl
 go_enter (show Try.prog.funcs[98]?=some Try.f98 from by rfl),aal
 go_wp2_with (first
  |(at_builtin;refine Lib.wpList_append_run _ rfl _ _ _ _ rfl _ _ rfl rfl _ _ (xz _) ?_)
  |(at_builtin;refine wpList_copy_runI _ rfl _ _ 44 44 rfl _ _ rfl rfl (ahM _ hE1 hE2 _ _) ?_)
  |(at_builtin;refine wpList_copy_runI _ rfl _ _ 44 44 rfl _ _ rfl rfl (adb _ (fun _=>rfl) (fun _=>rfl) _ _ _) ?_))
 go_region_law_o (refine step_copy_runI rfl _ _ 44 44 rfl (.slice (some ⟨w.heap.size,(i+1)*8,none⟩) (n - i) (G - (i+1))) (.slice (some ⟨b,i*8,none⟩) (n - i) (c - i)) (by simp[Act.eval,Act.put]) (by simp[Act.eval,Act.put]) (adb _ hF1 hF2 3 (G - (i+1)) (c - i)) ?_)
 go_wp2
 go_ret
 exact⟨rfl,rfl⟩
def D5.c:SC:=
 SQ [RG [oQ 6 (.assign (.const (.slice none 0 0))) 44 [6]],RG [wV 10 0 44,wV 11 1 3,oQ 12 (.slice 44 (.tmp 10) (some (.tmp 11)) none none) 44 [10,11,12]],RG [wV 13 2 44,wL 14 13 44 3 [13],wG 7 14 3 [14]],SQ [RG [wV 15 7 3,wK 16 .eql 3 15 0 3 4 [15]],CN 16 (SQ [RG [wV 17 0 44 [0],wG 6 17 44 [17]],.ret]) .skip],RG [wV 18 0 44,wL 19 18 44 3 [18],wG 8 19 3 [19]],SQ [RG [wV 20 1 3,wV 21 8 3,
 wO 22 .eql 3 20 21 3 4 [20,21]],CN 22 (SQ [RG [wV 23 0 44 [0],wV 24 2 44 [2],wP 25 23 24 44 44 44 [23,24],wG 6 25 44 [25]],.ret]) .skip],SQ [RG [wV 26 8 3,wV 27 7 3,wO 28 .add 3 26 27 3 3 [26,27],wV 29 0 44,oQ 30 (.call ⟨.builtin .cap,#[.tmp 29],#[44]⟩) 3 [29],wO 31 .gtr 3 28 30 3 4 [28,30]],CN 31 (SQ [RG [wV 32 0 44,wV 33 1 3,oQ 34 (.slice 44 (.tmp 32) none (some (.tmp 33)) none) 44 [32,33],
 wV 35 8 3 [8],wV 36 7 3,wO 37 .add 3 35 36 3 3 [35,36],wV 38 1 3,wO 39 .sub 3 37 38 3 3 [37,38],wP 40 34 39 44 3 44 [34,39],wG 9 40 44 [40]],RG [wV 41 9 44,wV 42 1 3,oQ 43 (.slice 44 (.tmp 41) (some (.tmp 42)) none none) 44 [41,42],wV 44 2 44 [2],oQ 45 (.call ⟨.builtin .copy,#[.tmp 43,.tmp 44],#[44,44]⟩) 3 [43,44,45]],.bB [wV 46 9 44,wV 47 1 3,wV 48 7 3,wO 49 .add 3 47 48 3 3,
 oQ 50 (.slice 44 (.tmp 46) (some (.tmp 49)) none none) 44,wV 51 0 44,wV 52 1 3,oQ 53 (.slice 44 (.tmp 51) (some (.tmp 52)) none none) 44,oQ 54 (.call ⟨.builtin .copy,#[.tmp 50,.tmp 53],#[44,44]⟩) 3] [[],[],[],[1,2],[0,1,2,3],[],[],[5,6],[0,1,2,3,4,5,6,7]] [0,1,7,46,47,48,49,50,51,52,53,54],RG [wV 55 9 44 [9],wG 6 55 44 [55]],.ret]) .skip],RG [wV 56 0 44 [0],wV 57 8 3,wV 58 7 3,
 wO 59 .add 3 57 58 3 3 [57,58],oQ 60 (.slice 44 (.tmp 56) none (some (.tmp 59)) none) 44 [56,59],wG 0 60 44 [60]],SQ [RG [wV 61 2 44,wV 62 0 44,wV 63 1 3,wV 64 7 3,wO 65 .add 3 63 64 3 3 [63,64],oQ 66 (.slice 44 (.tmp 62) (some (.tmp 65)) none none) 44 [62,65],wW 67 137 61 66 44 44 4 [61,66],wQ 68 67 4 [67]],CN 68 (SQ [.bB [wV 69 0 44,wV 70 1 3,wV 71 7 3,wO 72 .add 3 70 71 3 3,
 oQ 73 (.slice 44 (.tmp 69) (some (.tmp 72)) none none) 44,wV 74 0 44,wV 75 1 3,oQ 76 (.slice 44 (.tmp 74) (some (.tmp 75)) none none) 44,oQ 77 (.call ⟨.builtin .copy,#[.tmp 73,.tmp 76],#[44,44]⟩) 3] [[],[],[],[1,2],[0,1,2,3],[],[],[5,6],[0,1,2,3,4,5,6,7]] [7,69,70,71,72,73,74,75,76,77],RG [wV 78 0 44,wV 79 1 3 [1],oQ 80 (.slice 44 (.tmp 78) (some (.tmp 79)) none none) 44 [78,79],wV 81 2 44 [2],
 oQ 82 (.call ⟨.builtin .copy,#[.tmp 80,.tmp 81],#[44,44]⟩) 3 [80,81,82]],RG [wV 83 0 44 [0],wG 6 83 44 [83]],.ret]) .skip],RG [wV 84 0 44,wV 85 8 3 [8],oQ 86 (.slice 44 (.tmp 84) (some (.tmp 85)) none none) 44 [84,85],wV 87 2 44 [2],oQ 88 (.call ⟨.builtin .copy,#[.tmp 86,.tmp 87],#[44,44]⟩) 3 [86,87,88]],RG [wV 89 0 44,wV 90 1 3 [1],oQ 91 (.slice 44 (.tmp 89) (some (.tmp 90)) none none) 44 [89,
 90],wV 92 7 3 [7],wW 93 138 91 92 44 3 0 [91,92,93]],RG [wV 94 0 44 [0],wG 6 94 44 [94]],.ret]
theorem D5.rs:Try.f98.results.toList=[.tmp 6]:=rfl
theorem ajV {P:Program}{w:World}{g o:Nat}{us:List Value}{cur:Array Value}{e:TypeId} (hg:w.heap[g]?=some (.cells cur e (0,0))) (hle:o+us.length<=cur.size) (h1:∀ v∈us,v.oneCell'=true):
  w.setCells g o us=w.setRow g (cur.toList.take o++us++cur.toList.drop (o+us.length)).toArray:=by
 have a:=run_storeCells_at P g o e us 0 cur w hg (by simpa using hle) h1
 have b:=run_storeCells_cells (P:=P) g o us 0 w (fun j hj=>by
   simp only[World.cell?,hg,Nat.add_zero]
   rw[Bg (by omega)];rfl) (fun j hj=>by simp[World.frozen?,hg]) h1
 rw[a]at b
 simp only[Nat.add_zero]at b
 simp only[Result.ok.injEq,true_and]at b
 exact b.symm
section
variable {N0:Nat}{W0:World}{fm:FM}{ts:List Ah}{H:Heap}{w:World}
theorem HR.less {H':Heap} (h:HR N0 W0 fm ts H w) (hl:H'.length=H.length) (hs:∀ l k b,H'.get l k=some b->H.get l k=some b):HR N0 W0 fm ts H' w:=
 ⟨h.len.trans hl.symm,fun l k b a=>h.aj l k b (hs l k b a),fun l k l' k' b b' c p q=>h.inj l k l' k' b b' c (hs _ _ _ p) (hs _ _ _ q),h.bL,fun l k b c o p=>h.dx l k b c o (hs _ _ _ p),h.bJ,h.size,h.bj⟩
theorem ajU {α:Type} (L us:List α) (off n:Nat) (h:n<=off+us.length) (ho:off<=n):
  L.take off++us++L.drop (off+us.length)=((L.take n).take off++(us++(L.take n).drop (off+us.length)))++L.drop (off+us.length):=by
 have e1:(L.take n).take off=L.take off:=by rw[List.take_take,Nat.min_eq_left ho]
 have e2:(L.take n).drop (off+us.length)=[]:=by rw[List.drop_eq_nil_iff,A6];omega
 rw[e1,e2,List.append_nil]
theorem HR.lay (h:HR N0 W0 fm ts H w) {l k c cap et esz i:Nat}{es new es':List (List AV)}{us:List Value} (hg:H.get l k=some (.arr et esz es)) (ht:tb ts l k=some (.arr es.length (some (c,cap))))
  (hi:i<=es.length) (cD:i+new.length<=cap) (bx:cr new esz) (hv:Am fm [] new.flatten us) (hf:∀ x∈new.flatten,x.flat=true) (he:es'=es.take i++(new++es.drop (i+new.length))):
  HR N0 W0 fm (ca ts l k (.arr es'.length (some (c,cap)))) (H.put l k (some (.arr et esz es'))) (w.setCells c (i*esz) us):=by
 have hb:=h.aj l k _ hg
 rw[ht]at hb
 obtain⟨_,_,hA⟩:=hb.eG
 obtain⟨hA,hN⟩:=hA c cap rfl
 obtain⟨cells,c1,c2,c3,c4,c5,c6,c7,c8⟩:=hA.flat
 have df:us.length=new.length*esz:=by rw[<-hv.1,ij _ _ bx]
 have hm1:(i+new.length)*esz<=cap*esz:=Bp _ cD
 rw[Nat.add_mul]at hm1
 have hm2:es.length*esz<=cap*esz:=Bp _ c3
 have hm3:i*esz<=es.length*esz:=Bp _ hi
 have en:es'.length<=cap/\es.length<=es'.length:=by
  rw[he,BL,BL,A6,B3];omega
 rw[ajV (P:=Try.prog) c1 (by rw[df,c2];exact hm1) (hv.m6 hf)]
 have lN:es'.flatten=es.flatten.take (i*esz)++(new.flatten++es.flatten.drop ((i+new.length)*esz)):=by
  rw[he,List.flatten_append,List.flatten_append,lA es i c5,qP es _ c5]
 refine h.rR hg ht (es':=es') (us:=(cells.toList.take (es.length*esz)).take (i*esz)++(us++(cells.toList.take (es.length*esz)).drop ((i+new.length)*esz)))
  (rest:=cells.toList.drop (max (es.length*esz) ((i+new.length)*esz))) en.2 en.1 ?_ ?_ ?_ ?_ ?_
 ·rw[he];exact ma (rG c5 _) (ma bx (uy c5 _))
 ·rw[BL,BL,A6,B3,Array.length_toList,df,c2];omega
 ·rw[lN]
  exact(c7.take _).append (hv.append (c7.drop _))
 ·rw[lN]
  intro x hx
  rcases AZ.1 hx with hx|hx
  ·exact c8 x (BQ hx)
  ·rcases AZ.1 hx with hx|hx
   ·exact hf x hx
   ·exact c8 x (BX hx)
 ·have e1:(i+new.length)*esz=i*esz+us.length:=by rw[df,Nat.add_mul]
  rw[e1]
  by_cases hle:i*esz+us.length<=es.length*esz
  ·rw[Nat.max_eq_left hle]
   exact yd _ _ _ _ hle (by rw[Array.length_toList (xs:=cells),c2];exact hm2)
  ·rw[Nat.max_eq_right (by omega)]
   exact ajU _ _ _ _ (by omega) hm3
end
def sj:List AV:=[.int .i64 0,.int .i64 0,.int .i64 0,.int .i64 0,.int .i64 0,.int .i64 0,.int .i64 0,.str ⟨#[]⟩]
theorem akZ (fm:FM):Am fm [] sj gb.cells.toList:=by
 refine⟨by rfl,?_⟩
 intro i x v hx hv
 match i,hx,hv with
 |0,hx,hv=>cases hx;cases hv;exact .int _ _
 |1,hx,hv=>cases hx;cases hv;exact .int _ _
 |2,hx,hv=>cases hx;cases hv;exact .int _ _
 |3,hx,hv=>cases hx;cases hv;exact .int _ _
 |4,hx,hv=>cases hx;cases hv;exact .int _ _
 |5,hx,hv=>cases hx;cases hv;exact .int _ _
 |6,hx,hv=>cases hx;cases hv;exact .int _ _
 |7,hx,hv=>cases hx;cases hv;exact .str _
 |n+8,hx,hv=>cases hx
theorem aiq {α:Type}{L ji:List α}{i:Nat} (hi:i<L.length) (h:L.take (i+1)++(L.drop i++L.drop (i+1+(L.drop i).length))=ji):ji.take i=L.take i/\ji.drop (i+1)=L.drop i:=by
 have hl:(L.take (i+1)).length=i+1:=by rw[A6];omega
 have hd:L.drop (i+1+(L.drop i).length)=[]:=by rw[List.drop_eq_nil_iff,B3];omega
 subst h
 refine⟨?_,?_⟩
 ·rw[List.take_append_of_le_length (by omega),List.take_take,Nat.min_eq_left (by omega)]
 ·rw[List.drop_left' hl,hd,List.append_nil]
theorem air {α:Type}{L Z Y ji:List α}{x:α}{i:Nat} (hi:i<=L.length) (h:(L.take i++Z).take i++([x]++Y)=ji):ji.take (i+1)=L.take i++[x]:=by
 have hl:(L.take i).length=i:=by rw[A6];omega
 subst h
 rw[CO hl,<-Cd,CO (by rw[BL,hl];rfl)]
def uU (k:Nat) (s:List Ab) (i:Int) (v:List Ab):Option (List Ab):=
 if (0<=i/\i<=s.length)/\v.length=1/\room (s.length+1) 72 then some (s.take i.toNat++(v++s.drop i.toNat)) else none
theorem aj5 (k:Nat) (s:List Ab) (i:Int) (v:List Ab) (r:List Ab) (h0:uU k s i v=some r):
  AY Try.prog 98 [.loc 0 0 8 0 s.length s.length,.int .i64 i,.loc 0 1 8 0 v.length v.length] [(0,.arr 25 8 (List.map Ab.c s)),(1,.arr 25 8 (List.map Ab.c v))] (fun y fr=>y=.loc 0 0 8 0 r.length r.length/\fr=[(0,.arr 25 8 (List.map Ab.c r))]):=by
 unfold uU at h0
 split at h0
 ·rename_i hc
  obtain⟨⟨rk,bl⟩,n9,mV,pE⟩:=hc
  obtain rfl:=oi h0
  obtain⟨x,rfl⟩:∃ x,v=[x]:=by
   cases v with
   |nil=>simp at n9
   |cons x l=>cases l with
    |nil=>exact⟨x,rfl⟩
    |cons y l=>simp at n9
  obtain⟨i,rfl⟩:∃ j:Nat,i=j:=⟨i.toNat,by omega⟩
  simp only[CZ]
  by_cases he:i=s.length
  ·
   subst he
   have hr:=AY.own (et:=25) (sz:=8) (ls:=List.map Ab.c (s.take s.length++([x]++s.drop s.length))) (AY.ft As (f:=98) (fn:=Try.f98) (sc:=D5.c) (args:=[.loc 0 0 8 0 s.length s.length,.int .i64 s.length,.loc 0 1 8 0 1 1]) (fr0:=[(0,.arr 25 8 (List.map Ab.c s)),(1,.arr 25 8 (List.map Ab.c [x]))]) (by rfl) (by rfl) (by decide +kernel) (by rfl) (by decide +kernel) (Nat.le_of_ble_eq_true rfl) (fun H=>?_))
   ·simpa only [Bh,Ay,AE,B6] using hr
   refine rS ?_
   have nY:rD s.length (s.length:Int)=some ():=by unfold rD;rw[if_pos (by omega)]
   have hpr:room (s.length+1) 72:=⟨mV,pE⟩
   have nX:=aiL nY
   simp only[D5.c,aiK nY,nX,hpr,(@id (((1:Nat):Int)=1) rfl),(by decide:decide ((1:Int)=0)=false),(by simp:decide ((s.length:Int)=(s.length:Int))=true),go_sem]
   refine Cx rfl ?_
   simp only[D5.rs,lZ,AQ,bC,go_sem]
   first|exact(Cn (by simp)).symm|exact Cn (by simp)|(simp;done)|(simp;rw[Cn (by simp)])
  ·
   have hi:i<s.length:=by omega
   refine⟨⟨Try.f98,by rfl,by rfl,by rfl⟩,?_⟩
   intro H N0 W0 fm t ts w vs hH ht aM
   obtain⟨x0,xs,rfl⟩:∃ a l,vs=a::l:=by
    cases vs with
    |nil=>exact absurd aM.1 (by simp)
    |cons a l=>exact⟨a,l,rfl⟩
   obtain⟨x1,xs,rfl⟩:∃ a l,xs=a::l:=by
    cases xs with
    |nil=>exact absurd aM.1 (by simp)
    |cons a l=>exact⟨a,l,rfl⟩
   obtain⟨x2,xs,rfl⟩:∃ a l,xs=a::l:=by
    cases xs with
    |nil=>exact absurd aM.1 (by simp)
    |cons a l=>exact⟨a,l,rfl⟩
   obtain rfl:xs=[]:=by
    cases xs with
    |nil=>rfl
    |cons a l=>exact absurd aM.1 (by simp)
   have dg:=aM.2 0 _ x0 rfl rfl
   have kW:=aM.2 1 _ x1 rfl rfl
   have xG:=aM.2 2 _ x2 rfl rfl
   have gm:Heap.get ([(0,Ap.arr 25 8 (List.map Ab.c s)),(1,Ap.arr 25 8 (List.map Ab.c [x]))]::H) 0 0=some (.arr 25 8 (s.map Ab.c)):=rfl
   have j6:Heap.get ([(0,Ap.arr 25 8 (List.map Ab.c s)),(1,Ap.arr 25 8 (List.map Ab.c [x]))]::H) 0 1=some (.arr 25 8 ([x].map Ab.c)):=rfl
   have fV:=hH.aj 0 0 _ gm
   have fW:=hH.aj 0 1 _ j6
   cases kW
   generalize fp:s.length=n at *
   cases dg with
   |bW _ _ _ _ _ _ a' aI ax=>rw[ax]at fV;cases fV
   |bX _ _ _ _ _ _ a' aI m' c ax gp=>rw[ax]at fV;have:=fV.eG.1;simp at this;omega
   |bI _ _ _ a1 ax=>omega
   |loc _ _ _ _ _ _ c cap aI a' ax tC bh bR ha=>
    cases xG with
    |bW _ _ _ _ _ _ a2 cp2 rq=>rw[rq]at fW;cases fW
    |bX _ _ _ _ _ _ a2 cp2 m2 c2 rq pC=>rw[rq]at fW;have:=fW.eG.1;simp at this;omega
    |loc _ _ _ _ _ _ vb akx vcp va rq ak9 alc ak5 ha2=>
     have hac:a'=⟨c,0*8,none⟩:=ha (.inr rfl)
     have hva:va=⟨vb,0*8,none⟩:=ha2 (.inr rfl)
     subst hac hva
     rw[ax]at fV
     rw[rq]at fW
     obtain⟨hA,hN⟩:=fV.eG.2.2 c cap rfl
     obtain⟨hA2,hN2⟩:=fW.eG.2.2 vb akx rfl
     obtain⟨cells,c1,c2,c3,c4,c5,c6,c7,c8⟩:=hA.flat
     obtain⟨aeT,d1,d2,d3,d4,d5,d6,d7,d8⟩:=hA2.flat
     simp only[Bh,Ay,AE,B6]at c3 d3 c7 d7 c2 d2
     rw[fp]at c3 c7
     have xE:vb≠c:=by
      intro h
      subst h
      have:=hH.inj 0 0 0 1 _ _ vb gm j6 (by rw[ax];rfl) (by rw[rq];rfl)
      omega
     have cD:aI=cap:=by omega
     subst cD
     have hm8:n*8<=cells.size:=by omega
     obtain⟨cs,ek⟩:∃ cs,cs=cells.toList.take (n*8):=⟨_,rfl⟩
     obtain⟨us,lS⟩:∃ us,us=aeT.toList.take (1*8):=⟨_,rfl⟩
     rw[<-ek]at c7
     rw[<-lS]at d7
     have bV:cs.length=n*8:=by rw[ek,A6,Array.length_toList];omega
     have df:us.length=8:=by rw[lS,A6,Array.length_toList];omega
     have re:∀ j v,cs[j]?=some v->w.cell? ⟨c,j,none⟩=some v:=fun j v hj=>by
      simp only[World.cell?,c1]
      rw[ek,Bx]at hj
      split at hj
      ·rw[Array.getElem?_toList]at hj;exact hj
      ·cases hj
     have huu:∀ j v,us[j]?=some v->w.cell? ⟨vb,j,none⟩=some v:=fun j v hj=>by
      simp only[World.cell?,d1]
      rw[lS,Bx]at hj
      split at hj
      ·rw[Array.getElem?_toList]at hj;exact hj
      ·cases hj
     have mI:=c7.m6 c8
     have qZ:=d7.m6 d8
     have hsn:((s.map Ab.c).drop i).length=n - i:=by rw[B3,Bh,fp]
     have rh:Am fm [] ((s.map Ab.c).drop i).flatten (cs.drop (i*8)):=by rw[qP _ _ c5];exact c7.drop _
     have mM:∀ y∈((s.map Ab.c).drop i).flatten,y.flat=true:=fun y hy=>by rw[qP _ _ c5]at hy;exact c8 y (BX hy)
     have d8':∀ y∈([x].map Ab.c).flatten,y.flat=true:=d8
     have n6:(s.take i++([x]++s.drop i)).length=n+1:=by simp only[BL,A6,B3,Ay,AE,fp];omega
     have adD:∀ {b0 b1:Ap} (l k:Nat) (b:Ap),Heap.get ([(0,b0)]::H) l k=some b->Heap.get ([(0,b0),(1,b1)]::H) l k=some b:=by
      intro b0 b1 l k b h
      cases l with
      |zero=>
       by_cases hk:k=0
       ·subst hk;exact h
       ·simp[Heap.get,look,hk,show ¬ (0=k) by omega]at h
      |succ l=>exact h
     by_cases hrm:n+1<=aI
     ·refine(ais c n aI i vb (0*8) vcp cs us w hi hrm (by unfold maxLen at c4;omega) xE bV df re ?_ ?_ ?_ mI qZ 25 25 aeT.size cells.size ?_ ?_ ?_ ?_ ?_).mono ?_
      ·intro j hj
       simp only[World.cell?,c1]
       rw[Bg (by omega)];rfl
      ·intro j hj;simp[World.frozen?,c1]
      ·intro j v hj
       simpa using huu j v hj
      ·simp[World.shape?,d1]
      ·simp[World.shape?,c1]
      ·omega
      ·simp[World.frozen?,d1]
      ·simp[World.frozen?,d1]
      ·rintro e w' ⟨rfl,rfl⟩
       have tZ:=hH.drew.lay (c:=c) (cap:=aI) (i:=i+1) (new:=(s.map Ab.c).drop i) (us:=cs.drop (i*8)) gm (by rw[ax];simp[fp]) (by rw[Bh,fp];omega) (by rw[hsn];omega) (uy c5 _) rh mM rfl
       generalize tr:(s.map Ab.c).take (i+1)++((s.map Ab.c).drop i++(s.map Ab.c).drop (i+1+((s.map Ab.c).drop i).length))=ji at tZ
       have eY:ji.length=n+1:=by rw[<-tr];simp only[BL,A6,B3,Bh,fp];omega
       have hs2:=tZ.lay (l:=0) (k:=0) (c:=c) (cap:=aI) (et:=25) (esz:=8) (es:=ji) (i:=i) (new:=[x].map Ab.c) (us:=us) (es':=(s.take i++([x]++s.drop i)).map Ab.c) (by rfl) (by rw[cY,if_pos ⟨rfl,rfl,by simp⟩]) (by omega) (by simp;omega) d5 d7 d8' ?_
       ·refine⟨_,.loc 0 0 8 0 (n+1) (n+1),[(0,.arr 25 8 (List.map Ab.c (s.take i++([x]++s.drop i))))],fm,_,ts,rfl,⟨?_,rfl⟩,hs2.less (by rfl) ?_,?_,Ax.refl _ _,Ak.refl _,?_,?_⟩
        ·rw[n6]
        ·exact adD
        ·exact .loc 0 0 8 0 (n+1) (n+1) c aI aI _ (by show some (TB.arr (List.length (List.map Ab.c (s.take i++([x]++s.drop i)))) _)=_;rw[Bh,n6]) (by omega) (by omega) (by omega) (fun _=>rfl)
        ·exact fun _ _ h=>h
        ·intro k hk
         simp only[if_neg (show ¬ (k=0) by omega)]
         exact ht k hk
       ·obtain⟨q1,q2⟩:=aiq (L:=s.map Ab.c) (i:=i) (by rw[Bh,fp];exact hi) tr
        rw[q1,show i+([x].map Ab.c).length=i+1 from rfl,q2,C3,C3,List.map_take,List.map_drop]
     ·obtain⟨G,hG⟩:∃ G,G=grownCap w (n+1) aI 25:=⟨_,rfl⟩
      refine(aip c n aI i vb (0*8) vcp cs us w hi bh (by omega) mV bV df re ?_ mI qZ).mono ?_
      ·intro j v hj
       simpa using huu j v hj
      ·rw[<-hG]
       rintro e w' ⟨rfl,rfl⟩
       have hGn:n+1<=G:=by rw[hG];exact grownCap_ge w _ _ _
       have hGm:G<=maxLen:=by
        rw[hG]
        exact grownCap_le_maxLen w (n+1) aI 25 (by unfold maxLen;omega)
       have oc:gb.cells.size=8:=by rfl
       have ui:∀ m,(Builtin.zeroCells gb.cells m).toList=(List.replicate m gb.cells.toList).flatten:=fun m=>uv gb.cells m (by rw[oc];omega)
       have iS:((s.map Ab.c).take i++List.replicate (n+1 - i) sj).length=n+1:=by rw[BL,A6,Bh,CF,fp];omega
       have xI:∀ y∈sj,y.flat=true:=by decide
       have hs0:=hH.rE (l:=0) (k:=0) (cap:=G) (et:=25) (esz:=8) (es:=(s.map Ab.c).take i++List.replicate (n+1 - i) sj)
        (cells:=(cs.take (i*8)).toArray++Builtin.zeroCells gb.cells (n+1 - i)++Builtin.zeroCells gb.cells (G - (n+1)))
        (us:=cs.take (i*8)++(Builtin.zeroCells gb.cells (n+1 - i)).toList) (rest:=(Builtin.zeroCells gb.cells (G - (n+1))).toList) (by simp) (by rw[ax];exact .inr (.inr ⟨_,_,rfl,by rw[iS];omega⟩))
        (by rw[Array.size_append,Array.size_append,size_zeroCells,size_zeroCells,oc,List.size_toArray,A6,bV];omega) (by rw[iS];exact hGn) hGm (ma (rG c5 _) (rF rfl _)) (by omega)
        (by rw[List.flatten_append,lA _ _ c5,ui];exact(c7.take _).append (Am.replicate (akZ fm) _))
        (by
         rw[List.flatten_append,lA _ _ c5]
         intro y hy
         rcases AZ.1 hy with hy|hy
         ·exact c8 y (BQ hy)
         ·exact sR xI _ y hy)
        (by simp)
       have tZ:=hs0.drew.lay (l:=0) (k:=0) (c:=w.heap.size) (cap:=G) (et:=25) (esz:=8) (i:=i) (new:=[x].map Ab.c) (us:=us) (by rfl) (by rw[cY,if_pos ⟨rfl,rfl,by simp⟩]) (by omega) (by simp;omega) d5 d7 d8' rfl
       generalize tr:((s.map Ab.c).take i++List.replicate (n+1 - i) sj).take i++([x].map Ab.c++((s.map Ab.c).take i++List.replicate (n+1 - i) sj).drop (i+([x].map Ab.c).length))=ji at tZ
       have eY:ji.length=n+1:=by
        rw[<-tr]
        simp only[BL,A6,B3,Bh,CF,Ay,AE,fp]
        omega
       have hs2:=tZ.drew.lay (l:=0) (k:=0) (c:=w.heap.size) (cap:=G) (et:=25) (esz:=8) (es:=ji) (i:=i+1) (new:=(s.map Ab.c).drop i) (us:=cs.drop (i*8)) (es':=(s.take i++([x]++s.drop i)).map Ab.c) (by rfl) (by rw[cY,if_pos ⟨rfl,rfl,by simp[ca]⟩]) (by omega) (by rw[hsn];omega) (uy c5 _) rh mM ?_
       ·refine⟨_,.loc 0 0 8 0 (n+1) (n+1),[(0,.arr 25 8 (List.map Ab.c (s.take i++([x]++s.drop i))))],fm,_,ts,rfl,⟨?_,rfl⟩,hs2.less (by rfl) ?_,?_,Ax.refl _ _,Ak.refl _,?_,?_⟩
        ·rw[n6]
        ·exact adD
        ·exact .loc 0 0 8 0 (n+1) (n+1) w.heap.size G G _ (by show some (TB.arr (List.length (List.map Ab.c (s.take i++([x]++s.drop i)))) _)=_;rw[Bh,n6]) (by omega) (by omega) (by omega) (fun _=>rfl)
        ·exact fun _ _ h=>h
        ·intro k hk
         simp only[if_neg (show ¬ (k=0) by omega)]
         exact ht k hk
       ·have hd:ji.drop (i+1+((s.map Ab.c).drop i).length)=[]:=by rw[List.drop_eq_nil_iff,eY,hsn];omega
        have q:=air (L:=s.map Ab.c) (i:=i) (by rw[Bh,fp];exact Nat.le_of_lt hi) tr
        rw[hd,q,List.append_nil,C3,C3,List.map_take,List.map_drop,Cd]
        rfl
 ·cases h0
def Dg.s0:SC:=
 SQ [RG [wO 10 .lss 3 9 8 3 0],CN 10 .skip (.exit 0),.block 1 (SQ [RG [wI 11 44 7 9,wD 12 25 11 [11],wA 5 25,wS 25 5 12 [12]],RG [wF 13 25 5 0 [5],wF 14 23 13 0 [13],wD 15 3 14 [14],wI 16 95 3 15,wD 17 3 16 [16],wK 18 .add 3 17 1 3 3 [17],wI 19 95 3 15 [15],wS 3 19 18 [18,19]]]),RG [wK 20 .add 3 9 1 3 3 [9],wV 9 20 3 [20]]]
def Dg.c:SC:=
 SQ [RG [wE 1 46 0 [0],wA 2 95],RG [wA 3 95],SQ [RG [wF 6 46 1 0 [1],wD 7 44 6 [6],wL 8 7 44 3,oQ 9 (.move (.const (.int .i64 0))) 3],.block 0 (.loop Dg.s0)],RG [wD 21 95 3 [3],wS 95 2 21 [21]],.ret]
def eU.b0 (k:Nat) (b0:Al):((Aa 6 Int)×Int)->Option (AW ((Aa 6 Int)×Int) ((Aa 6 Int)) ((Aa 6 Int))):=fun s=>match s with
 |(s1,i2)=>
   bif decide (i2<(b0.Ac.length:Int)) then
    (at? b0.Ac i2).bind fun x5=>
    (s1.at? x5.At.Ag).bind fun x6=>
    some (.next (s1.set x5.At.Ag (af (x6+1)),af (i2+1)))
   else
    some (.brk s1)
def eU.h0 (b0:Al):((Aa 6 Int)×Int)->St:=fun s=>match s with
 |(s1,i2)=>⟨[(2,.ptr 0 0 0),(3,.ptr 0 1 0),(7,.sl 8 (List.map Ab.c b0.Ac)),(8,.int .i64 (b0.Ac.length:Int)),(9,.int .i64 i2)],[(0,.box (Aa.c (n:=6) eI (Aa.rep 6 (0:Int)))),(1,.box (Aa.c (n:=6) eI s1))],[],2,Try.f104.ntmps⟩
def eU.x0:(Aa 6 Int)->St:=fun s3=>⟨[(2,.ptr 0 0 0),(3,.ptr 0 1 0)],[(0,.box (Aa.c (n:=6) eI (Aa.rep 6 (0:Int)))),(1,.box (Aa.c (n:=6) eI s3))],[],2,Try.f104.ntmps⟩
def eU (k:Nat) (b0:Al):Option ((Aa 6 Int)):=
 (aB (eU.b0 k b0) k ((Aa.rep 6 (0:Int)),0)).bind fun r8=>match r8 with
 |.next _=>none
 |.ret v_=>some v_
 |.brk s3=>
  some s3
theorem abR (k:Nat) (b0:Al) (r:(Aa 6 Int)) (h0:eU k b0=some r):An Try.prog 104 [.agg (Al.c b0)] (fun y=>y=.agg ((Aa.c (n:=6) eI) r)):=by
 refine PB Try.f104 Dg.c [.cell 2 95] ?_
 simp only[eU]at h0
 try simp only[Dg.c,go_sem]
 obtain⟨r8,qt,h0⟩:=bs h0
 refine Bc qt (eU.h0 b0) (eU.x0) ?_ ?_ ?_
 refine Ae.go [2,3,7,8,9] [16,32] rfl ?_
 try simp only[eU.h0,go_sem]
 rintro⟨s1,i2⟩ dU Bq Bs h1 aS aY bM
 refine rS ?_
 simp only[eU.b0]at h1
 try simp only[Dg.s0,eU.h0,go_sem]
 refine AO h1 ?_ ?_<;>intro c4 h1<;>have F:=c4<;>try simp only[F,go_sem]
 obtain⟨x5,cK,h1⟩:=bs h1
 have F:=an (aG cK) (an (aF Ab.c cK) F)
 try simp only[F,go_sem]
 obtain⟨x6,cO,h1⟩:=bs h1
 have qg:=Ao.dm mj (Ao.self yI s1) cO
 have oO:=qg.2
 try simp only[Ay,AE,go_sem]at oO
 have q7:=qg.1.ow (af (x6+1))
 try simp only[Ay,AE,go_sem]at q7
 have F:=an (au cO) (an oO F)
 try simp only[q7,F,go_sem]
 refine Aq (aS _ _ (oi h1).symm (Ae.go [2,3,7,8,9] [0,1] rfl ?_))
 try simp only[eU.h0,F,go_sem]
 refine Aq (aY _ _ (oi h1).symm (Ae.go [2,3] [0,1] rfl ?_))
 try simp only[eU.x0,F,go_sem]
 rintro s3 aQ
 subst aQ
 simp only at h0
 refine rS ?_
 try simp only[eU.x0,go_sem]
 obtain rfl:=oi h0
 refine Ad rfl ?_
 try simp only[go_sem]
def Ft.c:SC:=
 SQ [RG [wE 2 46 0 [0],wE 3 25 1 [1],wA 4 46,wN 5 0 28 [5]],SQ [RG [wD 8 25 3,wU 9 92 8 25 4 [8],wQ 10 9 4 [9]],CN 10 (SQ [RG [oQ 11 (.build 46 #[]) 46,wS 46 4 11 [11],wN 5 90 28],.ret]) .skip],RG [wD 13 46 2,wF 14 25 3 0,wD 15 23 14 [14],wW 16 97 13 15 46 23 164 [13,15],wV 12 16 164 [16],wX 17 12 0 3,wX 18 12 1 4 [12],wG 6 17 3 [17],wG 7 18 4 [18]],.block 0 (SQ [.bB [wV 20 7 4,wV 21 20 4,
 gd 21 true (wF 22 46 2 0),gd 21 true (wD 23 44 22),gd 21 true (wV 24 6 3),gd 21 true (wI 25 44 23 24),gd 21 true (wD 26 25 25),gd 21 true (wD 27 25 3),gd 21 true (wO 28 .eql 25 26 27 25 4),wZ 29 21 28 4,wG 19 29 4] [[],[0],[0,1],[0,1,2],[0,1],[0,1,2,3,4],[0,1,2,3,4,5],[0,1],[0,1,2,3,4,5,6,7],[0,1,2,3,4,5,6,7,8],[0,1,2,3,4,5,6,7,8,9]] [20,21,22,23,24,25,26,27,28,29],CN 19 (SQ [RG [wD 30 46 2 [2],
 wU 31 96 30 46 46 [30],wS 46 4 31 [31],wN 5 0 28],.ret]) (SQ [RG [wV 33 7 4 [7],wG 32 33 4 [33]],CN 32 (SQ [RG [oQ 34 (.build 46 #[]) 46,wS 46 4 34 [34],wN 5 92 28],.ret]) (SQ [.bB [wF 36 25 3 0,wF 37 23 36 1,wD 38 3 37,wD 39 46 2,wU 40 104 39 46 95,wF 41 25 3 0,wF 42 23 41 0,wD 43 3 42,oQ 44 (.index 95 (.tmp 40) (.tmp 43)) 3,wO 45 .gtr 3 38 44 3 4,wG 35 45 4] [[],[0],[0,1],[],[3],[],[5],[5,6],
 [3,4,5,6,7],[0,1,2,3,4,5,6,7,8],[0,1,2,3,4,5,6,7,8,9]] [36,37,38,39,40,41,42,43,44,45],CN 35 (SQ [RG [oQ 46 (.build 46 #[]) 46,wS 46 4 46 [46],wN 5 93 28],.ret]) (SQ [RG [wF 48 46 2 0,wD 49 44 48 [48],wL 50 49 44 3 [49],wK 51 .eql 3 50 60 3 4 [50],wG 47 51 4 [51]],CN 47 (SQ [RG [oQ 52 (.build 46 #[]) 46,wS 46 4 52 [52],wN 5 2 28],.ret]) .skip])])])]),.bB [wF 53 46 2 0,wD 54 44 53,
 wU 55 119 54 44 44,wV 56 6 3,wD 57 25 3,oQ 58 (.buildSlice 44 1 #[(0,.tmp 57)]) 44,wC 59 98 #[.tmp 55,.tmp 56,.tmp 58] #[44,3,44] 44,oQ 60 (.build 46 #[(0,.tmp 59)]) 46,wS 46 4 60,wN 5 0 28] [[],[0],[0,1],[],[],[4],[0,1,2,3,4,5],[0,1,2,3,4,5,6],[0,1,2,3,4,5,6,7],[0,1,2,3,4,5,6,7,8]] [2,3,6,53,54,55,56,57,58,59,60],.ret]
def mr (k:Nat) (b0:Al) (r1:Ab):Option (Al×Int):=
 (lp k r1).bind fun x1=>
 bif (!x1) then
  some ((⟨[]⟩:Al),90)
 else
  (qE k b0 r1.At).bind fun x3=>
  bif x3.2 then
   (at? b0.Ac x3.1).bind fun x5=>
   bif (decide (x5.At.Ag=r1.At.Ag)&&(decide (x5.At.No=r1.At.No)&&(decide (x5.Kind=r1.Kind)&&(decide (x5.Day=r1.Day)&&(decide (x5.AI=r1.AI)&&(decide (x5.Of.Ag=r1.Of.Ag)&&(decide (x5.Of.No=r1.Of.No)&&(x5.Text.toList==r1.Text.toList)))))))) then
    (qC k b0).bind fun x7=>
    some (x7,0)
   else
    some ((⟨[]⟩:Al),92)
  else
   (eU k b0).bind fun x8=>
   (x8.at? r1.At.Ag).bind fun x9=>
   bif decide (x9<r1.At.No) then
    some ((⟨[]⟩:Al),93)
   else
    bif decide ((b0.Ac.length:Int)=(60:Int)) then
     some ((⟨[]⟩:Al),2)
    else
     (rU k b0.Ac).bind fun me=>
     (uU k me x3.1 [r1]).bind fun eT=>
     some ((⟨eT⟩:Al),0)
theorem vM (k:Nat) (b0:Al) (r1:Ab) (r:Al×Int) (h0:mr k b0 r1=some r):An Try.prog 71 [.agg (Al.c b0),.agg (Ab.c r1)] (fun y=>y=.ak [.agg (Al.c r.1),.int .i64 r.2]):=by
 refine PB Try.f71 Ft.c [.cell 4 46,.tmp 5] ?_
 simp only[mr]at h0
 try simp only[Ft.c,go_sem]
 refine ay h0 (vS k _) ?_ (fun x1 h0=>?_)<;>try simp only[go_sem]
 refine BJ h0 ?_ ?_<;>intro c2 h0<;>have F:=c2<;>try simp only[F,go_sem]
 obtain rfl:=oi h0
 refine Ad rfl ?_
 try simp only[F,go_sem]
 refine ay h0 (abQ k _ _) ?_ (fun x3 h0=>?_)<;>try simp only[F,go_sem]
 refine A1 As bY 1000 ?_
 try simp only[F,go_sem]
 refine DF F h0 ?_ ?_<;>intro F h0<;>try simp only[F,go_sem]
 obtain⟨x5,cK,h0⟩:=bs h0
 have F:=an (aG cK) (an (aF Ab.c cK) F)
 try simp only[F,go_sem]
 refine aT ?_
 try simp only[F,go_sem]
 refine AF F h0 ?_ ?_<;>intro F h0<;>try simp only[F,go_sem]
 refine ay h0 (abM k _) ?_ (fun x7 h0=>?_)<;>try simp only[F,go_sem]
 obtain rfl:=oi h0
 refine Ad rfl ?_
 try simp only[F,go_sem]
 obtain rfl:=oi h0
 refine Ad rfl ?_
 try simp only[F,go_sem]
 refine aT ?_
 try simp only[F,go_sem]
 refine A1 As bY 1000 ?_
 try simp only[F,go_sem]
 refine eJ h0 (abR k _) ?_ (fun x8 h0=>?_)<;>try simp only[F,go_sem]
 obtain⟨x9,fM,h0⟩:=bs h0
 have oK:=(Ao.yv mj fM).2
 try simp only[go_sem]at oK
 have F:=an (au fM) (an oK F)
 try simp only[F,go_sem]
 refine aT ?_
 try simp only[F,go_sem]
 refine AF F h0 ?_ ?_<;>intro F h0<;>try simp only[F,go_sem]
 obtain rfl:=oi h0
 refine Ad rfl ?_
 try simp only[F,go_sem]
 refine AF F h0 ?_ ?_<;>intro F h0<;>try simp only[F,go_sem]
 obtain rfl:=oi h0
 refine Ad rfl ?_
 try simp only[F,go_sem]
 refine A1 As bY 1000 ?_
 try simp only[F,go_sem]
 obtain⟨me,qu,h0⟩:=bs h0
 refine Dc 1000 [] [] (aes k _ _ qu) ?_ rfl ?_
 try simp only[j3,Bh,F,go_sem]
 try simp only[F,go_sem]
 obtain⟨eT,mg,h0⟩:=bs h0
 refine Dc 1000 [] [752,800] (aj5 k _ _ _ _ mg) ?_ rfl ?_
 try simp only[j3,Bh,F,go_sem]
 try simp only[F,go_sem]
 refine aT ?_
 try simp only[F,go_sem]
 obtain rfl:=oi h0
 refine Ad rfl ?_
 try simp only[F,go_sem]
end Go.Abs
namespace Go.Abs
open Go Go.Proofs Go.RowKit Go.Lib
def D0.c:SC:=
 SQ [RG [oQ 4 (.assign (.const (.slice none 0 0))) 56 [4]],SQ [RG [wV 6 0 206,oQ 7 (.nilCheck (.tmp 6)) 0 [6],wF 8 208 7 0 [7],wD 9 56 8 [8],wL 10 9 56 3 [9],wV 11 1 3,wO 12 .lss 3 10 11 3 4 [10,11]],CN 12 (RG [oQ 13 (.build 204 #[]) 204,oQ 14 (.makeInterface 204 (.tmp 13)) 20 [13],⟨none,.panic (.tmp 14),0,none,[14]⟩]) .skip],RG [wV 15 0 206,oQ 16 (.nilCheck (.tmp 15)) 0 [15],wF 17 208 16 0 [16],
 wD 18 56 17 [17],wV 19 1 3,oQ 20 (.slice 56 (.tmp 18) none (some (.tmp 19)) none) 56 [18,19],wG 5 20 56 [20]],RG [wV 21 0 206,wV 22 0 206 [0],oQ 23 (.nilCheck (.tmp 22)) 0 [22],wF 24 208 23 0 [23],wD 25 56 24 [24],wV 26 1 3 [1],oQ 27 (.slice 56 (.tmp 25) (some (.tmp 26)) none none) 56 [25,26],oQ 28 (.nilCheck (.tmp 21)) 0 [21],wF 29 208 28 0 [28],wS 56 29 27 [27,29]],RG [wV 30 5 56 [5],
 wG 4 30 56 [30]],.ret]
theorem D0.rs:Try.f132.results.toList=[.tmp 4]:=rfl
def CI.s0:SC:=
 SQ [RG [wO 13 .lss 3 12 11 3 0],CN 13 .skip (.exit 0),.block 1 (SQ [RG [wI 14 56 10 12,wD 15 5 14 [14],wG 7 15 5 [15]],RG [wV 16 5 3 [5],oQ 17 (.binOp .shl 3 (.tmp 16) (.const (.int .u64 8)) 211) 3 [16],wV 18 7 5 [7],wY 19 5 3 18 3 [18],wO 20 .or 3 17 19 3 3 [17,19],wG 5 20 3 [20]]]),RG [wK 21 .add 3 12 1 3 3 [12],wV 12 21 3 [21]]]
def CI.c:SC:=
 SQ [RG [wN 4 0 3 [4]],RG [wN 5 0 3],SQ [RG [wV 8 0 206 [0],wV 9 1 3 [1],wW 10 132 8 9 206 3 56 [8,9],wL 11 10 56 3,oQ 12 (.move (.const (.int .i64 0))) 3],.block 0 (.loop CI.s0)],RG [wV 22 5 3 [5],wG 4 22 3 [22]],.ret]
theorem CI.rs:Try.f131.results.toList=[.tmp 4]:=rfl
theorem tV {f:Aj}{H:Heap}{l k:Nat}{b:Option Ap}:Heap.put (f::H) (l+1) k b=f::Heap.put H l k b:=by cases b<;>rfl
theorem dz {f:Aj}{H:Heap}{l k:Nat}:Heap.get (f::H) (l+1) k=Heap.get H l k:=rfl
theorem hlen {H:Heap}{l k:Nat}{b:Option Ap}:(Heap.put H l k b).length=H.length:=by simp
def rZ (left:List Int) (n:Int):Option (List Int×List Int):=if (left.length:Int)<n then none else some (left.take n.toNat,left.drop n.toNat)
def rT:List PanicEntry:=[{ v:=.iface 204 (.agg #[]),recovered:=false }]
def dM (left:List Int):Ap:=.box [.sl 1 (List.map ah left)]
theorem aeD (left:List Int) (n:Int) (hn:0<=n) (H:Heap) (l k:Nat) (hg:Heap.get H l k=some (dM left)):Cq Try.prog 132 [.ptr (l+1) k 0,.int .i64 n] H
  (fun v fr H'=>∃ r,rZ left n=some r/\v=.sl 1 (List.map ah r.1)/\fr=[]/\H'=Heap.put H l k (some (dM r.2)))
  (fun ch H'=>rZ left n=none/\ch=rT/\H'=H):=by
 refine Cq.ft As (fn:=Try.f132) (sc:=D0.c) (by rfl) (by rfl) (by decide +kernel) (by rfl) (by decide +kernel) (Nat.le_of_ble_eq_true rfl) ?_ ?_ ?_
 ·refine rS ?_
  simp only[dM]at hg ⊢
  simp only[D0.c,dz,hg,go_sem]
  refine F2 (fun hc=>?_) (fun hc=>?_)
  ·simp only[go_sem]
   refine F1 ?_
   intro fm ts u hu
   cases hu with
   |agg cs vs h1 h2 h3=>
    have:vs=#[]:=Array.eq_empty_of_size_eq_zero (by simpa using h1.symm)
    subst this
    exact⟨by unfold rZ;rw[if_pos (by simpa using hc)],rfl,rfl⟩
  ·have ab:¬ (left.length:Int)<n:=by simpa using hc
   have h1:ff left 0 n=some (left.take n.toNat):=by unfold ff;rw[if_pos (by omega)];simp
   have h2:ff left n left.length=some (left.drop n.toNat):=by
    unfold ff;rw[if_pos (by omega)];simp only[CZ,oE]
    apply Cn;simp
   have e1:=yr ah h1
   have e2:=aeA ah h2
   simp only[go_sem]at e1 e2
   simp only[rY h1,yp h2,e1,e2,dz,tV,hg,Nat.add_one_ne_zero,go_sem]
   refine ER (.inl rfl) (y0:=.sl 1 (List.map ah (left.take n.toNat))) ?_ ?_
   ·simp only[D0.rs,bC,Av,rY h1,yp h2,e1,e2,go_sem]
   ·exact⟨_,by unfold rZ;rw[if_neg ab],rfl,rfl,by simp only[dM,rY h1,yp h2,e1,e2,go_sem]⟩
 ·rintro y fr H' ⟨r,_,_,_,rfl⟩;simp
 ·rintro ch H' ⟨_,_,rfl⟩;rfl
def adQ (k:Nat) (l:List Int):(Int×Int)->Option (AW (Int×Int) Int Unit):=fun(s:Int×Int)=>match s with
 |(out,i)=>
  bif decide (i<(l.length:Int)) then
   (at? l i).bind fun x=>
   some (.next (iO .i64 (af (out*2 ^ 8)) (af x),af (i+1)))
  else some (.brk out)
def kZ (k:Nat) (left:List Int) (n:Int):Option (Option (Int×List Int)):=
 match rZ left n with
 |none=>some none
 |some r=>(aB (adQ k r.1) k (0,0)).bind fun q=>match q with
  |.brk out=>some (some (out,r.2))
  |_=>none
def xP (l:List Int) (H:Heap):(Int×Int)->St:=fun(s:Int×Int)=>match s with
 |(out,i)=>⟨[(5,.int .i64 out),(10,.sl 1 (List.map ah l)),(11,.int .i64 (l.length:Int)),(12,.int .i64 i)],[],H,1,Try.f131.ntmps⟩
def aaM (H:Heap):Int->St:=fun(out:Int)=>⟨[(5,.int .i64 out)],[],H,1,Try.f131.ntmps⟩
theorem ov (k0:Nat) (left:List Int) (n:Int) (r:Option (Int×List Int)) (h0:kZ k0 left n=some r) (hn:0<=n) (H:Heap) (l k:Nat) (hg:Heap.get H l k=some (dM left)):Cq Try.prog 131 [.ptr (l+1) k 0,.int .i64 n] H
  (fun v fr H'=>∃ x,r=some x/\v=.int .i64 x.1/\fr=[]/\H'=Heap.put H l k (some (dM x.2)))
  (fun ch H'=>r=none/\ch=rT/\H'=H):=by
 refine Cq.ft As (fn:=Try.f131) (sc:=CI.c) (by rfl) (by rfl) (by decide +kernel) (by rfl) (by decide +kernel) (Nat.le_of_ble_eq_true rfl) ?_ ?_ ?_
 ·refine rS ?_
  simp only[CI.c,go_sem]
  refine Ci (aeD left n hn _ (l+1) k (by simpa only [dz] using hg)) ?_ ?_
  ·rintro y fr H' ⟨q,hq,rfl,rfl,rfl⟩
   refine rS ?_
   unfold kZ at h0
   rw[hq]at h0
   simp only at h0
   obtain⟨r6,yr6,h0⟩:=bs h0
   simp only[tV,go_sem]
   refine Bc yr6 (xP q.1 (Heap.put H l k (some (dM q.2)))) (aaM (Heap.put H l k (some (dM q.2)))) ?_ ?_ ?_
   ·refine Ae.go [5,10,11,12] [] rfl ?_
    try simp only[xP,go_sem]
   ·rintro⟨i1,i2⟩ dU Bq Bs h1 aS aY bM
    refine rS ?_
    simp only[adQ]at h1
    try simp only[CI.s0,xP,go_sem]
    refine AO h1 (fun c4 h1=>?_) (fun c4 h1=>?_)
    ·try simp only[c4,(@id (min (Int.toNat 8) 64=8) rfl),go_sem]
     obtain⟨x5,cK,h1⟩:=bs h1
     try simp only[aG cK,aF ah cK,c4,go_sem]
     refine Aq (aS _ _ (oi h1).symm ?_)
     refine Ae.go [5,10,11,12] [] rfl ?_
     try simp only[xP,c4,aG cK,aF ah cK,go_sem]
    ·try simp only[c4,go_sem]
     refine Aq (aY _ _ (oi h1).symm ?_)
     refine Ae.go [5] [] rfl ?_
     try simp only[aaM,c4,go_sem]
   ·rintro out aQ
    subst aQ
    simp only at h0
    refine rS ?_
    try simp only[aaM,go_sem]
    refine ER (.inl rfl) (y0:=.int .i64 out) ?_ ?_
    ·simp only[CI.rs,bC,Av,go_sem]
    ·exact⟨_,(oi h0).symm,rfl,rfl,rfl⟩
  ·rintro ch H' ⟨hq,rfl,rfl⟩
   unfold kZ at h0
   rw[hq]at h0
   exact⟨(oi h0).symm,rfl,rfl⟩
 ·rintro y fr H' ⟨r,_,_,_,rfl⟩;simp
 ·rintro ch H' ⟨_,_,rfl⟩;rfl
theorem agT (px pl pi:Value) (w:World):
  CallsD Try.prog 130 #[px,pl,pi] .returning w fun e u' w'=>e=.returned (.tuple #[])/\u'=.returning/\w'=w:=by
 have hnn:∀ w,(binOp .neq 20 .nilIface .nilIface).run Try.prog w=.ok (.bool false) w:=fun _=>by rfl
 have eu:Try.f130.ntmps=18:=by rfl
 refine callsD_of_wpS (fn:=Try.f130) (by rfl) (by rfl) fun acf cs hu=>?_
 apply wpS_seq
 apply wpS_region
 simp[wpOpsS,go_sem,recoverD,hu,eu,Exit.thenS]
 apply wpS_seq
 apply wpS_region
 simp[wpOpsS,go_sem,hnn,Exit.thenS]
 refine wpS_cond (t:=false) (by simp[Act.eval,Array.replicate]) ?_
 simp only[B7,if_false]
 refine wpS_of_wp (wp_skip ?_)
 cases acf
 simp_all [bodyPostS,results,(show Try.f130.results=#[] from rfl)]
def mi:List AV:=[.int .i64 0,.int .i64 0,.int .i64 0,.int .i64 0,.int .i64 0,.int .i64 0,.int .i64 0,.str ByteArray.empty]
def E5.r5:SC:=
 RG [oQ 17 (.build 25 #[]) 25,wS 25 0 17 [0,17],⟨none,.store 56 (.tmp 1) (.const (.slice none 0 0)),0,none,[1]⟩,⟨none,.store 4 (.tmp 2) (.const (.bool false)),0,none,[2]⟩]
theorem agS {N0:Nat}{W0:World}{fm:FM}{ts:List Ah}{fr:Aj}{low:Heap}{w:World} (hr:HR N0 W0 fm ts (fr::low) w) {px pl pi:Value}{kx kl ki:Nat}{c8:List AV}{cl ci:AV}
  (lP:VR fm ts (.ptr 0 kx 0) px) (hl:VR fm ts (.ptr 0 kl 0) pl) (hi:VR fm ts (.ptr 0 ki 0) pi) (gx:look fr kx=some (.box c8)) (h8:c8.length=8) (gl:look fr kl=some (.box [cl])) (gi:look fr ki=some (.box [ci])) (n1:kx≠kl) (n2:kx≠ki) (n3:kl≠ki):
  CallsD Try.prog 130 #[px,pl,pi] (.panicking rT) w fun e u' w'=>e=.returned (.tuple #[])/\u'=.panicking [{ v:=.iface 204 (.agg #[]),recovered:=true }]/\
   ∃ fm' ts' aH,HR N0 W0 fm' ts' (aH::low) w'/\Ax N0 fm fm'/\Ak ts ts'/\(∀ l k,tb ts l k=none->tb ts' l k=none)/\look aH kx=some (.box mi)/\look aH kl=some (.box [.nil])/\look aH ki=some (.box [.bool false]):=by
 have hnn:∀ w,(binOp .neq 20 (.iface 204 (.agg #[])) .nilIface).run Try.prog w=.ok (.bool true) w:=fun _=>by rfl
 have hta:∀ w,(Instr.typeAssert (.iface 204 (.agg #[])) 20 204 true).run Try.prog w=.ok (.tuple #[.agg #[],.bool true]) w:=fun _=>by rfl
 have eu:Try.f130.ntmps=18:=by rfl
 refine callsD_of_wpS (fn:=Try.f130) (by rfl) (by rfl) fun acf cs hu=>?_
 apply wpS_seq
 apply wpS_region
 simp[wpOpsS,go_sem,recoverD,hu,eu,rT,Exit.thenS]
 apply wpS_seq
 apply wpS_region
 simp[wpOpsS,go_sem,hnn,Exit.thenS]
 refine wpS_cond (t:=true) (by simp[Act.eval,Array.replicate]) ?_
 simp only[if_true]
 apply wpS_seq
 apply wpS_seq
 apply wpS_region
 simp[wpOpsS,go_sem,hta,Exit.thenS]
 apply wpS_seq
 apply wpS_region
 simp[wpOpsS,go_sem,Exit.thenS]
 refine wpS_cond (t:=false) (by simp[Act.eval,Array.replicate]) ?_
 simp only[B7,if_false]
 refine wpS_of_wp (wp_skip ?_)
 simp only[Exit.thenS]
 refine wpS_of_wp ?_
 refine(qn []).1 ?_
 have hd8:List.drop 8 c8=[]:=by simp[h8]
 have ahZ:(8<=c8.length)=True:=by simp[h8]
 have ug:HR N0 W0 fm ts (fr::low) (w.alloc (.cells #[] 204)):=hr.world (fun i hi=>heap_alloc_old w _ hi) ((Below.refl N0 w).alloc hr.size _)
 refine AK.last (N0:=N0) (W0:=W0) (Φ:=fun e al=>e=.normal/\∃ aH,al.low=aH::low/\look aH kx=some (.box mi)/\look aH kl=some (.box [.nil])/\look aH ki=some (.box [.bool false]))
  (st:=⟨[(0,.ptr 1 kx 0),(1,.ptr 1 kl 0),(2,.ptr 1 ki 0)],[],fr::low,0,18⟩) (n:=18) (s:=E5.r5) (fm:=fm) (ts:=cj::ts) ?_ ?_ (by rfl) (by rfl) ?_
 ·refine⟨ug.push,?_,fun _ _=>rfl,by simp,rfl,fun _ _ h=>by cases h⟩
  intro t x hx
  simp only[look]at hx
  split at hx
  ·subst_vars;obtain rfl:=oi hx;exact⟨px,by simp,lP.sh 1 (by simp)⟩
  ·split at hx
   ·subst_vars;obtain rfl:=oi hx;exact⟨pl,by simp,hl.sh 1 (by simp)⟩
   ·split at hx
    ·subst_vars;obtain rfl:=oi hx;exact⟨pi,by simp,hi.sh 1 (by simp)⟩
    ·cases hx
 ·refine rS ?_
  simp only[E5.r5,gx,gl,gi,oo,n1,n2,n3,n1.symm,n2.symm,n3.symm,hd8,ahZ,B6,if_true,if_false,go_sem]
  exact⟨rfl,_,rfl,by simp[oo,n1,n2,n3,n1.symm,n2.symm,n3.symm,mi],by simp[oo,n1,n2,n3,n1.symm,n2.symm,n3.symm],by simp[oo]⟩
 ·rintro e al a' w' fm' ts' ⟨rfl,aH,h1,h2,h3,h4⟩ hS hL
  cases ts' with
  |nil=>have:=hS.hr.len;simp at this
  |cons t1 rest=>
   have hp:=hS.hr.pop
   rw[h1]at hp
   exact⟨hS.cV.1,_,rfl,.tuple #[],by simp[results,(show Try.f130.results=#[] from rfl)],rfl,rfl,fm',rest,aH,hp,hL.cC,by simpa using hL.fu,by simpa using hL.no,h2,h3,h4⟩
def B8.c:SC:=
 SQ [RG [wA 2 25,wA 3 56,wA 4 4],RG [oQ 6 (.makeFunc (.func 130) #[] #[.tmp 2,.tmp 3,.tmp 4]) 1,⟨none,.defer ⟨.value (.tmp 6),#[],#[]⟩,0,none,[6]⟩],RG [wV 7 0 56 [0],oQ 8 (.build 208 #[(0,.tmp 7)]) 208 [7],oQ 9 (.box 208 (.tmp 8)) 206 [8],wG 5 9 206 [9]],RG [wV 10 5 206,wC 11 131 #[.tmp 10,.const (.int .i64 1)] #[206,3] 3 [10],wV 12 5 206,wC 13 131 #[.tmp 12,.const (.int .i64 2)] #[206,3] 3 [12],
 oQ 14 (.build 23 #[(0,.tmp 11),(1,.tmp 13)]) 23 [11,13],wF 15 25 2 0,wS 23 15 14 [14,15]],RG [wV 16 5 206,wC 17 131 #[.tmp 16,.const (.int .i64 1)] #[206,3] 3 [16],wF 18 25 2 1,wS 3 18 17 [17,18]],RG [wV 19 5 206,wC 20 131 #[.tmp 19,.const (.int .i64 4)] #[206,3] 3 [19],wF 21 25 2 2,wS 3 21 20 [20,21]],RG [wV 22 5 206,wC 23 131 #[.tmp 22,.const (.int .i64 4)] #[206,3] 3 [22],wF 24 25 2 3,
 wS 3 24 23 [23,24]],RG [wV 25 5 206,wC 26 131 #[.tmp 25,.const (.int .i64 1)] #[206,3] 3 [25],wV 27 5 206,wC 28 131 #[.tmp 27,.const (.int .i64 2)] #[206,3] 3 [27],oQ 29 (.build 23 #[(0,.tmp 26),(1,.tmp 28)]) 23 [26,28],wF 30 25 2 4,wS 23 30 29 [29,30]],RG [wV 31 5 206,wV 32 5 206,wC 33 131 #[.tmp 32,.const (.int .i64 1)] #[206,3] 3 [32],wW 34 132 31 33 206 3 56 [31,33],wY 35 56 9 34 9 [34],
 wF 36 25 2 5,wS 9 36 35 [35,36]],.bB [wD 37 25 2,wV 38 5 206,oQ 39 (.nilCheck (.tmp 38)) 0,wF 40 208 39 0,wD 41 56 40,wD 42 25 2,wU 43 92 42 25 4,wS 25 2 37,wS 56 3 41,wS 4 4 43] [[],[],[1],[1,2],[1,2,3],[],[5],[0,5,6],[1,2,3,4,0,5,6,7],[5,6,1,2,3,4,0,7,8]] [5,37,38,39,40,41,42,43],.ret]
theorem B8.rs:Try.f90.results.toList=[.cell 2 25,.cell 3 56,.cell 4 4]:=rfl
def SC.snd:SC->SC
 |.seq _ b=>b
 |x=>x
def SC.fst:SC->SC
 |.seq a _=>a
 |x=>x
def aA:Code->Code
 |.seq a _=>a
 |x=>x
def ae:Code->Code
 |.seq _ b=>b
 |x=>x
def B8.r0:SC:=
 B8.c.fst
def B8.rest:SC:=
 B8.c.snd.snd
def CR:Code:=Try.f90.body.getD .skip
def zp (k:Nat) (b:List Int):Option (Option (Ab×List Int)):=
 (kZ k b 1).bind fun q0=>match q0 with
 |none=>some none
 |some (ho,l0)=>
  (kZ k l0 2).bind fun q1=>match q1 with
  |none=>some none
  |some (no,l1)=>
   (kZ k l1 1).bind fun q2=>match q2 with
   |none=>some none
   |some (ki,l2)=>
    (kZ k l2 4).bind fun q3=>match q3 with
    |none=>some none
    |some (da,l3)=>
     (kZ k l3 4).bind fun q4=>match q4 with
     |none=>some none
     |some (kn,l4)=>
      (kZ k l4 1).bind fun q5=>match q5 with
      |none=>some none
      |some (oh,l5)=>
       (kZ k l5 2).bind fun q6=>match q6 with
       |none=>some none
       |some (on_,l6)=>
        (kZ k l6 1).bind fun q7=>match q7 with
        |none=>some none
        |some (m,l7)=>
         if 0<=m then match rZ l7 m with
          |none=>some none
          |some (tx,l8)=>some (some (⟨⟨ho,no⟩,ki,da,kn,⟨oh,on_⟩,strOf tx⟩,l8))
         else none
def abN (k:Nat) (b:List Int):Option (Ab×List Int×Bool):=
 (zp k b).bind fun q=>match q with
 |none=>some (⟨⟨0,0⟩,0,0,0,⟨0,0⟩,ByteArray.empty⟩,[],false)
 |some (x,left)=>(lp k x).bind fun is=>some (x,left,is)
def acg (q:Option (Ab×List Int)) (is:Bool) (e:Exit) (st:St):Prop:=
 match q with
 |none=>e=.panic rT/\(look st.tm 2=some (.ptr 1 0 0)/\look st.tm 3=some (.ptr 1 16 0)/\look st.tm 4=some (.ptr 1 32 0))/\∃ fr c8 cl ci,st.low=[fr]/\look fr 0=some (.box c8)/\c8.length=8/\look fr 16=some (.box [cl])/\look fr 32=some (.box [ci])
 |some (x,left)=>e=.ret/\(∃ fr,st.low=[fr])/\fb T st [.cell 2 25,.cell 3 56,.cell 4 4]=some [.agg (Ab.c x),.sl 1 (List.map ah left),.bool is]
def zo:Aj:=[(0,.box mi),(16,.box [.loc 0 17 1 0 0 0]),(17,.arr 5 1 []),(32,.box [.bool false])]
def zq (b:List Int):St:=⟨[(0,.sl 1 (List.map ah b)),(2,.ptr 0 0 0),(3,.ptr 0 16 0),(4,.ptr 0 32 0)],zo,[],48,Try.f90.ntmps⟩
def ach (b:List Int):St:=⟨[(0,.sl 1 (List.map ah b)),(2,.ptr 1 0 0),(3,.ptr 1 16 0),(4,.ptr 1 32 0)],[],[zo],0,Try.f90.ntmps⟩
theorem agU [Md] (k:Nat) (b:List Int) (q:Option (Ab×List Int)) (h0:zp k b=some q) (is:Bool) (xk:∀ x left,q=some (x,left)->lp k x=some is):
  AK Try.prog Try.f90.ntmps (acg q is) [.sc B8.rest] (ach b):=by
 unfold ach zo mi
 refine rS ?_
 unfold zp at h0
 simp only[B8.rest,B8.c,SC.snd,go_sem]
 obtain⟨q0,yq0,h0⟩:=bs h0
 refine Ci (ov k b 1 q0 yq0 (by decide) _ 0 _ (by simp only[dM,go_sem])) ?_ ?_
 rotate_left
 ·rintro ch H ⟨rfl,rfl,rfl⟩
  obtain rfl:=oi h0
  exact⟨rfl,⟨rfl,rfl,rfl⟩,_,_,_,_,rfl,rfl,rfl,rfl,rfl⟩
 rintro y fr H ⟨⟨ho,l0⟩,rfl,rfl,rfl,rfl⟩
 refine rS ?_
 simp only at h0
 simp only[dM,go_sem]
 obtain⟨q1,yq1,h0⟩:=bs h0
 refine Ci (ov k l0 2 q1 yq1 (by decide) _ 0 _ (by simp only[dM,go_sem])) ?_ ?_
 rotate_left
 ·rintro ch H ⟨rfl,rfl,rfl⟩
  obtain rfl:=oi h0
  exact⟨rfl,⟨rfl,rfl,rfl⟩,_,_,_,_,rfl,rfl,rfl,rfl,rfl⟩
 rintro y fr H ⟨⟨no,l1⟩,rfl,rfl,rfl,rfl⟩
 refine rS ?_
 simp only at h0
 simp only[dM,go_sem]
 obtain⟨q2,yq2,h0⟩:=bs h0
 refine Ci (ov k l1 1 q2 yq2 (by decide) _ 0 _ (by simp only[dM,go_sem])) ?_ ?_
 rotate_left
 ·rintro ch H ⟨rfl,rfl,rfl⟩
  obtain rfl:=oi h0
  exact⟨rfl,⟨rfl,rfl,rfl⟩,_,_,_,_,rfl,rfl,rfl,rfl,rfl⟩
 rintro y fr H ⟨⟨ki,l2⟩,rfl,rfl,rfl,rfl⟩
 refine rS ?_
 simp only at h0
 simp only[dM,go_sem]
 obtain⟨q3,yq3,h0⟩:=bs h0
 refine Ci (ov k l2 4 q3 yq3 (by decide) _ 0 _ (by simp only[dM,go_sem])) ?_ ?_
 rotate_left
 ·rintro ch H ⟨rfl,rfl,rfl⟩
  obtain rfl:=oi h0
  exact⟨rfl,⟨rfl,rfl,rfl⟩,_,_,_,_,rfl,rfl,rfl,rfl,rfl⟩
 rintro y fr H ⟨⟨da,l3⟩,rfl,rfl,rfl,rfl⟩
 refine rS ?_
 simp only at h0
 simp only[dM,go_sem]
 obtain⟨q4,yq4,h0⟩:=bs h0
 refine Ci (ov k l3 4 q4 yq4 (by decide) _ 0 _ (by simp only[dM,go_sem])) ?_ ?_
 rotate_left
 ·rintro ch H ⟨rfl,rfl,rfl⟩
  obtain rfl:=oi h0
  exact⟨rfl,⟨rfl,rfl,rfl⟩,_,_,_,_,rfl,rfl,rfl,rfl,rfl⟩
 rintro y fr H ⟨⟨kn,l4⟩,rfl,rfl,rfl,rfl⟩
 refine rS ?_
 simp only at h0
 simp only[dM,go_sem]
 obtain⟨q5,yq5,h0⟩:=bs h0
 refine Ci (ov k l4 1 q5 yq5 (by decide) _ 0 _ (by simp only[dM,go_sem])) ?_ ?_
 rotate_left
 ·rintro ch H ⟨rfl,rfl,rfl⟩
  obtain rfl:=oi h0
  exact⟨rfl,⟨rfl,rfl,rfl⟩,_,_,_,_,rfl,rfl,rfl,rfl,rfl⟩
 rintro y fr H ⟨⟨oh,l5⟩,rfl,rfl,rfl,rfl⟩
 refine rS ?_
 simp only at h0
 simp only[dM,go_sem]
 obtain⟨q6,yq6,h0⟩:=bs h0
 refine Ci (ov k l5 2 q6 yq6 (by decide) _ 0 _ (by simp only[dM,go_sem])) ?_ ?_
 rotate_left
 ·rintro ch H ⟨rfl,rfl,rfl⟩
  obtain rfl:=oi h0
  exact⟨rfl,⟨rfl,rfl,rfl⟩,_,_,_,_,rfl,rfl,rfl,rfl,rfl⟩
 rintro y fr H ⟨⟨on_,l6⟩,rfl,rfl,rfl,rfl⟩
 refine rS ?_
 simp only at h0
 simp only[dM,go_sem]
 obtain⟨q7,yq7,h0⟩:=bs h0
 refine Ci (ov k l6 1 q7 yq7 (by decide) _ 0 _ (by simp only[dM,go_sem])) ?_ ?_
 rotate_left
 ·rintro ch H ⟨rfl,rfl,rfl⟩
  obtain rfl:=oi h0
  exact⟨rfl,⟨rfl,rfl,rfl⟩,_,_,_,_,rfl,rfl,rfl,rfl,rfl⟩
 rintro y fr H ⟨⟨m,l7⟩,rfl,rfl,rfl,rfl⟩
 refine rS ?_
 simp only at h0
 simp only[dM,go_sem]
 split at h0
 ·rename_i hm
  refine Ci (aeD l7 m hm _ 0 _ (by simp only[dM,go_sem])) ?_ ?_
  rotate_left
  ·rintro ch H ⟨hq,rfl,rfl⟩
   rw[hq]at h0
   obtain rfl:=oi h0
   exact⟨rfl,⟨rfl,rfl,rfl⟩,_,_,_,_,rfl,rfl,rfl,rfl,rfl⟩
  rintro y fr H ⟨⟨tx,l8⟩,hq,rfl,rfl,rfl⟩
  rw[hq]at h0
  obtain rfl:=oi h0
  refine rS ?_
  simp only[dM,abY,akk,go_sem]
  refine A1 As bY 1000 ?_
  simp only[go_sem]
  refine dc0 (vS k ⟨⟨ho,no⟩,ki,da,kn,⟨oh,on_⟩,strOf tx⟩ is (xk _ _ rfl)) ?_ ?_
  ·try simp only[go_sem]
  try simp only[go_sem]
  refine aT ?_
  try simp only[go_sem]
  exact⟨rfl,⟨_,rfl⟩,by simp only[go_sem]⟩
 ·cases h0
theorem agq (k:Nat) (b:List Int) (r:Ab×List Int×Bool) (h0:abN k b=some r):An Try.prog 90 [.sl 1 (List.map ah b)] (fun y=>y=.ak [.agg (Ab.c r.1),.sl 1 (List.map ah r.2.1),.bool r.2.2]):=by
 obtain⟨q,hq,h0⟩:=bs h0
 obtain⟨is,xk⟩:∃ is,∀ x left,q=some (x,left)->lp k x=some is/\r=(x,left,is):=by
  cases q with
  |none=>exact⟨false,by rintro x left h;cases h⟩
  |some p=>
   obtain⟨x,left⟩:=p
   simp only at h0
   obtain⟨is,h1,h0⟩:=bs h0
   refine⟨is,fun x' alj h=>?_⟩
   simp only[oE,Prod.mk.injEq]at h
   obtain⟨rfl,rfl⟩:=h
   exact⟨h1,(oi h0).symm⟩
 have hrN:q=none->r=(⟨⟨0,0⟩,0,0,0,⟨0,0⟩,ByteArray.empty⟩,[],false):=by rintro rfl;exact(oi h0).symm
 refine An.nlr ⟨⟨Try.f90,by rfl,by rfl,by rfl⟩,fun fm w vs bl hv=>?_⟩
 have eu:Try.f90.ntmps=44:=by rfl
 refine calls_of_wp_defers (fn:=Try.f90) (c:=CR) (by rfl) (by rfl) ((qn []).1 ?_)
 have hS:=SR.enter (HR.nothing bl) (vs:=vs) (args:=[.sl 1 (List.map ah b)]) (n:=Try.f90.ntmps) ⟨hv.1,fun i x v p q=>(hv.2 i x v p q).mono (AM.refl _) (Ak.nil _)⟩ (by rw[eu];simp)
 have e90:CR=.seq (aA CR) (.seq (aA (ae CR)) (ae (ae CR))):=by rfl
 rw[e90]
 refine(show K Try.prog _ [.code (.seq _ _)] .normal _ w from ?_)
 refine B1 ?_
 refine AK.seg (Φ:=fun _ _=>False) (B:=fun st=>st=zq b) (s:=B8.r0) hS ?_ (by rfl) (by rfl) ?_ (fun _ _ _ _ _ _ h=>h.elim)
 ·refine rS ?_
  simp only[B8.r0,B8.c,SC.fst,go_sem]
  exact rfl
 ·rintro al a1 w1 dv cn rfl bE fy
  refine B1 ?_
  obtain⟨px,lP,vx⟩:=bE.tm 2 (.ptr 0 0 0) rfl
  obtain⟨pl,hpl,vl⟩:=bE.tm 3 (.ptr 0 16 0) rfl
  obtain⟨pi,fo,vi⟩:=bE.tm 4 (.ptr 0 32 0) rfl
  obtain⟨p0,p1,q0,q1,e1⟩:∃ p0 p1 q0 q1,aA (ae CR)=.region 1 #[⟨some 6,.makeFunc (.func 130) #[] #[.tmp 2,.tmp 3,.tmp 4],1,p0,q0,none⟩,⟨none,.defer ⟨.value (.tmp 6),#[],#[]⟩,0,p1,q1,none⟩] false:=⟨_,_,_,_,rfl⟩
  rw[e1]
  refine DD ?_
  change K Try.prog _ (Be.ops _ [0,1]::_) .normal a1 w1
  have ahR:a1.eval (.tmp 2)=px:=by simp[Act.eval,Array.getD_eq_getD_getElem?,lP]
  have ahS:a1.eval (.tmp 3)=pl:=by simp[Act.eval,Array.getD_eq_getD_getElem?,hpl]
  have ahT:a1.eval (.tmp 4)=pi:=by simp[Act.eval,Array.getD_eq_getD_getElem?,fo]
  refine CW rfl rfl ?_
  refine rJ (w':=w1) (v:=.func (.func 130) #[] #[px,pl,pi]) (fun c h=>by cases h) ?_ ?_
  ·simp[execOp,Instr.makeFunc,ahR,ahS,ahT]
  have ao:6<a1.tmps.size:=by rw[bE.size,eu];decide
  refine CW rfl rfl ?_
  refine aje (w':=w1) (d:={ target:=.fn (.func 130) #[px,pl,pi],args:=#[] }) ?_ rfl ?_
  ·have he6:(a1.put (some 6) (.func (.func 130) #[] #[px,pl,pi])).eval (.tmp 6)=.func (.func 130) #[] #[px,pl,pi]:=by
    simp[Act.eval,Act.put,Array.getD_eq_getD_getElem?,ao]
   simp[execOp,resolve,he6,Deferred.ofValue]
  refine Gc ?_
  have ahA:@SR gu w.heap.size w Try.f90.ntmps (zq b) (a1.put (some 6) (.func (.func 130) #[] #[px,pl,pi])) w1 dv cn:=by
   refine⟨bE.hr,fun t x hx=>?_,bE.nx,by rw[pW];exact bE.size,by rw[oB];exact bE.cV⟩
   obtain⟨v,h1,h2⟩:=bE.tm t x hx
   have ht6:6≠t:=by rintro rfl;simp[zq,look]at hx
   exact⟨v,by simp only[Act.put];rw[Array.getElem?_setIfInBounds,if_neg ht6];exact h1,h2⟩
  have cL:=SR.deep (tm':=[(0,.sl 1 (List.map ah b)),(2,.ptr 1 0 0),(3,.ptr 1 16 0),(4,.ptr 1 32 0)]) ahA (by
   intro t x hx
   simp only[look]at hx
   split at hx
   ·subst_vars;obtain rfl:=oi hx;exact⟨_,rfl,rfl⟩
   ·split at hx
    ·subst_vars;obtain rfl:=oi hx;exact⟨_,rfl,rfl⟩
    ·split at hx
     ·subst_vars;obtain rfl:=oi hx;exact⟨_,rfl,rfl⟩
     ·split at hx
      ·subst_vars;obtain rfl:=oi hx;exact⟨_,rfl,rfl⟩
      ·cases hx)
  have cX:=SR.qL gu ⟨none,[{ target:=.fn (.func 130) #[px,pl,pi],args:=#[] }],fun _=>none⟩ cL (a':=({ (a1.put (some 6) (.func (.func 130) #[] #[px,pl,pi])) with defers:={ target:=.fn (.func 130) #[px,pl,pi],args:=#[] }::(a1.put (some 6) (.func (.func 130) #[] #[px,pl,pi])).defers }.put none undef)) rfl (by
   have h1:=bE.cV.1
   have h2:(a1.put (some 6) (.func (.func 130) #[] #[px,pl,pi])).defers=[]:=by rw[oB];exact h1
   show _::_=_
   rw[h2]
   rfl)
  rw[D6 gu ⟨none,[{ target:=.fn (.func 130) #[px,pl,pi],args:=#[] }],fun _=>none⟩ rfl]
  refine @AK.last ⟨none,[{ target:=.fn (.func 130) #[px,pl,pi],args:=#[] }],fun _=>none⟩ _ _ _ _ _ _ _ _ _ _ (acg q is) _ B8.rest cX (@agU ⟨none,[{ target:=.fn (.func 130) #[px,pl,pi],args:=#[] }],fun _=>none⟩ k b q hq is (fun x left h=>(xk x left h).1)) (by rfl) (by rfl) ?_
  intro e al a' w' fm' ts' hE bZ hL
  obtain⟨s1,s2,s3,s4,s5⟩:=bZ
  have mM:a'.defers=[{ target:=.fn (.func 130) #[px,pl,pi],args:=#[] }]:=s5.1
  obtain⟨t1,rest,rfl⟩:∃ t1 rest,ts'=t1::rest:=by
   cases ts' with
   |nil=>have:=s1.len;simp at this
   |cons t1 rest=>exact⟨t1,rest,rfl⟩
  have adq:=s1.pop
  have xx:Ak cn rest:=by simpa using hL.fu
  have bx:∀ l k,tb cn l k=none->tb rest l k=none:=by simpa using hL.no
  cases q with
  |none=>
   obtain⟨rfl,⟨g2,g3,g4⟩,fr,c8,cl,ci,gJ,gx,h8,gl,gi⟩:=hE
   rw[gJ]at adq
   show Leaves Try.prog Try.f90 a'.tmps _ a'.defers (.panicking rT) w'
   rw[mM]
   have bz:∀ {x:AV}{v:Value},VR dv cn x v->VR fm' rest x v:=fun h=>h.mono hL.cC.le xx
   refine leaves_cons (f:=130) (args:=#[px,pl,pi]) (by simp) (by simp[invoke,callFunc];rfl) ?_
   refine(agS adq (bz vx) (bz vl) (bz vi) gx h8 gl gi (by decide) (by decide) (by decide)).mono ?_
   rintro e2 u' w2 ⟨rfl,rfl,dw,cE,fr2,gK,hf2,mW,mU,e1,e2,e3⟩
   have xw:=hrN rfl
   subst xw
   have ptr:∀ {t k:Nat},look al.tm t=some (.ptr 1 k 0)->∃ v,a'.tmps[t]?=some v/\VR dw cE (.ptr 0 k 0) v:=by
    intro t k ht
    obtain⟨v,h1,h2⟩:=s2 t _ ht
    exact⟨v,h1,(h2.un 1 (y:=.ptr 0 k 0) rfl).mono hf2.le mW⟩
   have hSf:@SR gu w.heap.size w Try.f90.ntmps ⟨[(2,.ptr 0 0 0),(3,.ptr 0 16 0),(4,.ptr 0 32 0)],fr2,[],48,Try.f90.ntmps⟩ { a' with defers:=[] } w2 dw cE:=by
    refine @SR.mk gu _ _ _ _ _ _ _ _ gK ?_ (fun k hk=>mU 0 k (bx 0 k (bE.nx k hk))) s4 ⟨rfl,fun _ _ h=>by cases h⟩
    intro t x hx
    simp only[look]at hx
    split at hx
    ·subst_vars;obtain rfl:=oi hx;exact ptr g2
    ·split at hx
     ·subst_vars;obtain rfl:=oi hx;exact ptr g3
     ·split at hx
      ·subst_vars;obtain rfl:=oi hx;exact ptr g4
      ·cases hx
   obtain⟨v,h1,h2⟩:=ng (P:=Try.prog) (fn:=Try.f90) (xs:=[.agg mi,.nil,.bool false]) As hSf (by
    rw[B8.rs]
    simp only[mi]at e1
    simp only[mi,e1,e2,e3,go_sem])
   refine⟨v,h1,v,.ak [.agg mi,.nil,.bool false],dw,rfl,?_,gK.bL,?_,?_,gK.bJ⟩
   ·exact NL.qd (AN.cons (NL.refl _) (AN.cons (NL.nil _) (AN.cons (NL.refl _) AN.nil)))
   ·have:=h2.un cE.length (y:=.ak [.agg mi,.nil,.bool false]) rfl
    rwa [List.drop_length]at this
   ·exact(fy.cC.trans hL.cC).trans hf2
  |some p=>
   obtain⟨x,left⟩:=p
   obtain⟨rfl,⟨fr,gJ⟩,tY⟩:=hE
   show Leaves Try.prog Try.f90 a'.tmps _ a'.defers .returning w'
   rw[mM]
   refine leaves_cons (f:=130) (args:=#[px,pl,pi]) (by simp) (by simp[invoke,callFunc];rfl) ?_
   refine(agT px pl pi w').mono ?_
   rintro e2 u' w2 ⟨rfl,rfl,rfl⟩
   obtain⟨ala,rfl⟩:=xk x left rfl
   have hSf:@SR gu w.heap.size w Try.f90.ntmps al { a' with defers:=[] } w2 fm' (t1::rest):=@SR.mk gu _ _ _ _ _ _ _ _ s1 s2 s3 s4 ⟨rfl,fun _ _ h=>by cases h⟩
   obtain⟨v,h1,h2⟩:=ng (P:=Try.prog) (fn:=Try.f90) (xs:=[.agg (Ab.c x),.sl 1 (List.map ah left),.bool is]) As hSf (by rw[B8.rs];exact tY)
   refine⟨v,h1,v,.ak [.agg (Ab.c x),.sl 1 (List.map ah left),.bool is],fm',rfl,.refl _,s1.bL,?_,?_,s1.bJ⟩
   ·have:=h2.un (t1::rest).length (y:=.ak [.agg (Ab.c x),.sl 1 (List.map ah left),.bool is]) (by simp only[bC,AV.un,AV.eD,(aeU.pM x).un,AQ])
    rwa [List.drop_length]at this
   ·exact fy.cC.trans hL.cC
def E3.c:SC:=
 SQ [RG [wA 6 126],RG [wV 7 0 130 [0],oQ 8 (.nilCheck (.tmp 7)) 0 [7],wF 9 134 8 0 [8],wF 10 42 9 0 [9],wD 11 39 10 [10],wV 12 1 3 [1],wK 13 .mul 3 12 301 3 3 [12],wV 14 2 3,wK 15 .quo 3 14 2 3 3 [14],wO 16 .add 3 13 15 3 3 [13,15],wV 17 2 3 [2],wK 18 .rem 3 17 2 3 3 [17],wI 19 39 11 16 [11,16],wI 20 139 19 18 [18,19],wD 21 122 20 [20],wS 126 6 21 [21]],.ret]
def mu (k:Nat) (d0:ar) (aJ:Int) (i2:Int):Option ((Aa 32 Int)):=
 (at? d0.Af.AJ (af ((af (aJ*301))+(af (Int.tdiv i2 2))))).bind fun x1=>
 (x1.at? (Int.tmod i2 2)).bind fun x2=>
 some x2
theorem qD (k:Nat) (d0:ar) (aJ:Int) (i2:Int) (r:(Aa 32 Int)) (h0:mu k d0 aJ i2=some r):An Try.prog 125 [.aq 2 [ar.c d0] 0 0,.int .i64 aJ,.int .i64 i2] (fun y=>y=.agg ((Aa.c (n:=32) ah) r)):=by
 refine PB Try.f125 E3.c [.cell 6 126] ?_
 simp only[mu]at h0
 try simp only[E3.c,go_sem]
 obtain⟨x1,kD,h0⟩:=bs h0
 have F:=an (aG kD) (aF (Aa.c (n:=2) (Aa.c (n:=32) ah)) kD)
 try simp only[F,go_sem]
 obtain⟨x2,gz,h0⟩:=bs h0
 have abc:=Ao.dm qv (Ao.self qw x1) gz
 have u7:=abc.2
 try simp only[Ay,AE,go_sem]at u7
 have F:=an (au gz) (an u7 F)
 try simp only[F,go_sem]
 obtain rfl:=oi h0
 refine Ad rfl ?_
 try simp only[F,go_sem]
def E4.c:SC:=
 SQ [RG [wE 1 126 0 [0],wN 2 0 3 [2]],RG [wJ 4 126 1 1,wD 5 5 4 [4],wY 6 5 3 5 3 [5],oQ 7 (.binOp .shl 3 (.tmp 6) (.const (.int .u64 16)) 211) 3 [6],wJ 8 126 1 2,wD 9 5 8 [8],wY 10 5 3 9 3 [9],oQ 11 (.binOp .shl 3 (.tmp 10) (.const (.int .u64 8)) 211) 3 [10],wO 12 .or 3 7 11 3 3 [7,11],wJ 13 126 1 3,wD 14 5 13 [13],wY 15 5 3 14 3 [14],wO 16 .or 3 12 15 3 3 [12,15],wG 3 16 3 [16]],
 SQ [RG [wJ 17 126 1 0,wD 18 5 17 [17],oQ 19 (.binOp .neq 5 (.tmp 18) (.const (.int .u8 104)) 5) 4 [18],wV 20 19 4 [19],gd 20 true (wJ 21 126 1 0),gd 20 true (wD 22 5 21 [21]),gd 20 true (oQ 23 (.binOp .neq 5 (.tmp 22) (.const (.int .u8 112)) 5) 4 [22]),wZ 24 20 23 4 [20,23],wV 25 24 4 [24],gd 25 false (wJ 26 126 1 31 [1]),gd 25 false (wD 27 5 26 [26]),
 gd 25 false (oQ 28 (.binOp .neq 5 (.tmp 27) (.const (.int .u8 165)) 5) 4 [27]),wT 29 25 28 4 [25,28],wV 30 29 4 [29],gd 30 false (wV 31 3 3),gd 30 false (wK 32 .gtr 3 31 1000000 3 4 [31]),wT 33 30 32 4 [30,32]],CN 33 (SQ [RG [wN 2 0 3],.ret]) .skip],RG [wV 34 3 3 [3],wG 2 34 3 [34]],.ret]
def oZ (k:Nat) (eo:(Aa 32 Int)):Option (Int):=
 (eo.at? 1).bind fun x1=>
 (eo.at? 2).bind fun x2=>
 (eo.at? 3).bind fun x3=>
 (eo.at? 0).bind fun x4=>
 bif (!decide (x4=(104:Int))) then
  bif decide (x4=(112:Int)) then
   (eo.at? 31).bind fun x7=>
   bif decide (x7=(165:Int)) then
    bif decide ((1000000:Int)<iO .i64 (iO .i64 (af ((af x1)*2 ^ 16)) (af ((af x2)*2 ^ 8))) (af x3)) then
     some 0
    else
     some (iO .i64 (iO .i64 (af ((af x1)*2 ^ 16)) (af ((af x2)*2 ^ 8))) (af x3))
   else
    some 0
  else
   some 0
 else
  (eo.at? 31).bind fun dK=>
  bif decide (dK=(165:Int)) then
   bif decide ((1000000:Int)<iO .i64 (iO .i64 (af ((af x1)*2 ^ 16)) (af ((af x2)*2 ^ 8))) (af x3)) then
    some 0
   else
    some (iO .i64 (iO .i64 (af ((af x1)*2 ^ 16)) (af ((af x2)*2 ^ 8))) (af x3))
  else
   some 0
theorem vP (k:Nat) (eo:(Aa 32 Int)) (r:Int) (h0:oZ k eo=some r):An Try.prog 126 [.agg ((Aa.c (n:=32) ah) eo)] (fun y=>y=.int .i64 r):=by
 refine PB Try.f126 E4.c [.tmp 2] ?_
 simp only[oZ]at h0
 try simp only[E4.c,go_sem]
 obtain⟨x1,kD,h0⟩:=bs h0
 have yz:=Ao.dm gY (Ao.self gZ eo) kD
 have u3:=yz.2
 try simp only[Ay,AE,go_sem]at u3
 have F:=an (au kD) u3
 try simp only[(@id (min (Int.toNat 16) 64=16) rfl),F,go_sem]
 obtain⟨x2,gz,h0⟩:=bs h0
 have abc:=Ao.dm gY (Ao.self gZ eo) gz
 have u7:=abc.2
 try simp only[Ay,AE,go_sem]at u7
 have F:=an (au gz) (an u7 F)
 try simp only[(@id (min (Int.toNat 8) 64=8) rfl),F,go_sem]
 obtain⟨x3,cv,h0⟩:=bs h0
 have qf:=Ao.dm gY (Ao.self gZ eo) cv
 have u9:=qf.2
 try simp only[Ay,AE,go_sem]at u9
 have F:=an (au cv) (an u9 F)
 try simp only[F,go_sem]
 obtain⟨x4,cq,h0⟩:=bs h0
 have nw:=Ao.dm gY (Ao.self gZ eo) cq
 have oN:=nw.2
 try simp only[Ay,AE,go_sem]at oN
 have F:=an (au cq) (an oN F)
 try simp only[F,go_sem]
 refine Bd F h0 ?_ ?_<;>intro F h0<;>try simp only[F,go_sem]
 refine AF F h0 ?_ ?_<;>intro F h0<;>try simp only[F,go_sem]
 obtain⟨x7,jR,h0⟩:=bs h0
 have qi:=Ao.dm gY (Ao.self gZ eo) jR
 have oP:=qi.2
 try simp only[Ay,AE,go_sem]at oP
 have F:=an (au jR) (an oP F)
 try simp only[F,go_sem]
 refine AF F h0 ?_ ?_<;>intro F h0<;>try simp only[F,go_sem]
 refine AF F h0 ?_ ?_<;>intro F h0<;>try simp only[F,go_sem]
 obtain rfl:=oi h0
 refine Ad rfl ?_
 try simp only[F,go_sem]
 obtain rfl:=oi h0
 refine Ad rfl ?_
 try simp only[F,go_sem]
 obtain rfl:=oi h0
 refine Ad rfl ?_
 try simp only[F,go_sem]
 obtain rfl:=oi h0
 refine Ad rfl ?_
 try simp only[F,go_sem]
 obtain⟨dK,jP,h0⟩:=bs h0
 have aku:=Ao.dm gY (Ao.self gZ eo) jP
 have aeZ:=aku.2
 try simp only[Ay,AE,go_sem]at aeZ
 have F:=an (au jP) (an aeZ F)
 try simp only[F,go_sem]
 refine AF F h0 ?_ ?_<;>intro F h0<;>try simp only[F,go_sem]
 refine AF F h0 ?_ ?_<;>intro F h0<;>try simp only[F,go_sem]
 obtain rfl:=oi h0
 refine Ad rfl ?_
 try simp only[F,go_sem]
 obtain rfl:=oi h0
 refine Ad rfl ?_
 try simp only[F,go_sem]
 obtain rfl:=oi h0
 refine Ad rfl ?_
 try simp only[F,go_sem]
def Cz.s1:SC:=
 SQ [RG [wO 76 .lss 3 75 74 3 0],CN 76 .skip (.exit 2),.block 3 (SQ [RG [wV 77 75 3,wI 78 124 73 75,wD 79 126 78 [78],wA 19 126,wG 18 77 3 [77],wS 126 19 79 [79]],.bB [wV 80 0 130,wV 81 1 3,wV 82 2 3,wV 83 18 3,wO 84 .add 3 82 83 3 3,wC 85 125 #[.tmp 80,.tmp 81,.tmp 84] #[130,3,3] 126,wD 86 126 19,wO 87 .neq 126 85 86 126 4] [[],[],[],[],[2,3],[0,1,2,3,4],[],[0,1,2,3,4,5,6]] [18,19,80,81,82,83,
 84,85,86],CN 87 (SQ [RG [oQ 88 (.build 25 #[]) 25,wS 25 8 88 [88],wN 9 0 3,wN 10 0 3],.ret]) .skip]),RG [wK 89 .add 3 75 1 3 3 [75],wV 75 89 3 [89]]]
def Cz.s0:SC:=
 SQ [RG [wO 43 .lss 3 42 41 3 4],CN 43 .skip (.exit 0),.block 1 (SQ [RG [wV 44 42 3,wG 13 44 3 [44]],RG [wV 45 0 130,wV 46 1 3,wV 47 2 3,wV 48 13 3 [13],wO 49 .add 3 47 48 3 3 [47,48],wC 50 125 #[.tmp 45,.tmp 46,.tmp 49] #[130,3,3] 126 [45,46,49],wA 14 126,wS 126 14 50 [50]],RG [wV 51 12 56 [12],oQ 52 (.slice 126 (.tmp 14) (some (.const (.int .i64 8))) (some (.const (.int .i64 31))) none) 56 [14],
 wP 53 51 52 56 56 56 [51,52],wG 12 53 56 [53]]]),RG [wK 54 .add 3 42 1 3 3 [42],wV 42 54 3 [54]]]
def Cz.c:SC:=
 SQ [RG [wA 8 25,wN 9 0 3 [9],wN 10 0 3 [10]],SQ [RG [wV 20 2 3,wK 21 .geq 3 20 602 3 4 [20]],CN 21 (SQ [RG [oQ 22 (.build 25 #[]) 25,wS 25 8 22 [22],wN 9 0 3,wN 10 0 3],.ret]) .skip],RG [wV 23 0 130,wV 24 1 3,wV 25 2 3,wC 26 125 #[.tmp 23,.tmp 24,.tmp 25] #[130,3,3] 126 [23,24,25],wA 11 126,wS 126 11 26 [26]],.bB [wD 27 126 11,wU 28 126 27 126 3,wJ 29 126 11 7,wD 30 5 29,wY 31 5 3 30 3,
 wG 9 28 3,wG 10 31 3] [[],[0],[],[2],[2,3],[0,1],[2,3,4,0,1,5]] [11,27,28,29,30,31],SQ [RG [wV 32 9 3,wK 33 .eql 3 32 0 3 4 [32],wV 34 33 4 [33],gd 34 false (wV 35 2 3),gd 34 false (wV 36 10 3),gd 34 false (wO 37 .add 3 35 36 3 3 [35,36]),gd 34 false (wK 38 .gtr 3 37 602 3 4 [37]),wT 39 34 38 4 [34,38]],CN 39 (SQ [RG [oQ 40 (.build 25 #[]) 25,wS 25 8 40 [40],wN 9 0 3,wN 10 0 3],.ret]) .skip],
 RG [oQ 12 (.assign (.const (.slice none 0 0))) 56],SQ [RG [wV 41 10 3,oQ 42 (.move (.const (.int .i64 0))) 3],.block 0 (.loop Cz.s0)],RG [wV 56 12 56 [12],wU 57 90 56 56 156 [56],wV 55 57 156 [57],wX 58 55 0 25,wX 59 55 1 56,wX 60 55 2 4 [55],wS 25 8 58 [58],wG 15 59 56 [15,59],wG 16 60 4 [60]],SQ [RG [wV 61 16 4 [16],wQ 62 61 4 [61]],CN 62 (SQ [RG [oQ 63 (.build 25 #[]) 25,wS 25 8 63 [63],
 wN 9 0 3,wN 10 0 3],.ret]) .skip],RG [wD 64 25 8,wV 65 3 3 [3],wV 66 9 3,wC 67 66 #[.tmp 64,.tmp 65,.tmp 66] #[25,3,3] 124 [64,65,66],wG 17 67 124 [67]],SQ [RG [wV 68 17 124,wL 69 68 124 3 [68],wV 70 10 3,wO 71 .neq 3 69 70 3 4 [69,70]],CN 71 (SQ [RG [oQ 72 (.build 25 #[]) 25,wS 25 8 72 [72],wN 9 0 3,wN 10 0 3],.ret]) .skip],SQ [RG [wV 73 17 124 [17],wL 74 73 124 3,
 oQ 75 (.move (.const (.int .i64 0))) 3],.block 2 (.loop Cz.s1)],RG [wD 90 25 8,wV 91 9 3 [9],wV 92 10 3 [10],wS 25 8 90 [90],wG 9 91 3 [91],wG 10 92 3 [92]],.ret]
def dp.b0 (k:Nat) (d0:ar) (aJ:Int) (bc:Int) (x4:Int):(Int×(List Int))->Option (AW (Int×(List Int)) ((List Int)) (Ab×Int×Int)):=fun s=>match s with
 |(i7,l8)=>
   bif decide (i7<af x4) then
    (mu k d0 aJ (af (bc+i7))).bind fun ed=>
    (iN 1 l8 ((ed.l.drop 8).take 23)).bind fun l12=>
    some (.next (af (i7+1),l12))
   else
    some (.brk l8)
def dp.b1 (k:Nat) (d0:ar) (aJ:Int) (bc:Int) (gU:(List (Aa 32 Int))):Int->Option (AW (Int) (Unit) (Ab×Int×Int)):=fun i18=>
 bif decide (i18<(gU.length:Int)) then
  (at? gU i18).bind fun gV=>
  (mu k d0 aJ (af (bc+i18))).bind fun qo=>
  bif (!(Aa.eq (fun(x y:Int)=>decide (x=y)) qo gV)) then
   some (.ret ((⟨(⟨0,0⟩:Entry),0,0,0,(⟨0,0⟩:Entry),ByteArray.empty⟩:Ab),0,0))
  else
   some (.next (af (i18+1)))
 else
  some (.brk ())
def dp.h0 (d0:ar) (aJ:Int) (bc:Int) (lY:Int) (x3:Int) (x4:Int):(Int×(List Int))->St:=fun s=>match s with
 |(i7,l8)=>⟨[(0,.aq 2 [ar.c d0] 0 0),(1,.int .i64 aJ),(2,.int .i64 bc),(3,.int .i64 lY),(8,.ptr 0 0 0),(9,.int .i64 x3),(10,.int .i64 (af x4)),(12,.loc 0 1 1 0 l8.length l8.length),(41,.int .i64 (af x4)),(42,.int .i64 i7)],[(0,.box ([.int .i64 0,.int .i64 0,.int .i64 0,.int .i64 0,.int .i64 0,.int .i64 0,.int .i64 0,.str ByteArray.empty])),(1,.arr 5 1 (List.map ah l8))],[],2,Try.f154.ntmps⟩
def dp.x0 (d0:ar) (aJ:Int) (bc:Int) (lY:Int) (x3:Int) (x4:Int):(List Int)->St:=fun l9=>⟨[(0,.aq 2 [ar.c d0] 0 0),(1,.int .i64 aJ),(2,.int .i64 bc),(3,.int .i64 lY),(8,.ptr 0 0 0),(9,.int .i64 x3),(10,.int .i64 (af x4)),(12,.loc 0 1 1 0 l9.length l9.length)],[(0,.box ([.int .i64 0,.int .i64 0,.int .i64 0,.int .i64 0,.int .i64 0,.int .i64 0,.int .i64 0,.str ByteArray.empty])),(1,.arr 5 1 (List.map ah l9))],[],2,Try.f154.ntmps⟩
def dp.h1 (d0:ar) (aJ:Int) (bc:Int) (x3:Int) (x4:Int) (bO:Ab×(List Int)×Bool) (gU:(List (Aa 32 Int))):Int->St:=fun i18=>⟨[(0,.aq 2 [ar.c d0] 0 0),(1,.int .i64 aJ),(2,.int .i64 bc),(8,.ptr 0 0 0),(9,.int .i64 x3),(10,.int .i64 (af x4)),(73,.sl 32 (List.map (Aa.c (n:=32) ah) gU)),(74,.int .i64 (gU.length:Int)),(75,.int .i64 i18)],[(0,.box ([.int .i64 bO.1.At.Ag,.int .i64 bO.1.At.No,.int .i64 bO.1.Kind,.int .i64 bO.1.Day,.int .i64 bO.1.AI,.int .i64 bO.1.Of.Ag,.int .i64 bO.1.Of.No,.str bO.1.Text]))],[],1,Try.f154.ntmps⟩
def dp.x1 (x3:Int) (x4:Int) (bO:Ab×(List Int)×Bool):Unit->St:=fun _=>⟨[(8,.ptr 0 0 0),(9,.int .i64 x3),(10,.int .i64 (af x4))],[(0,.box ([.int .i64 bO.1.At.Ag,.int .i64 bO.1.At.No,.int .i64 bO.1.Kind,.int .i64 bO.1.Day,.int .i64 bO.1.AI,.int .i64 bO.1.Of.Ag,.int .i64 bO.1.Of.No,.str bO.1.Text]))],[],1,Try.f154.ntmps⟩
def dp (k:Nat) (d0:ar) (aJ:Int) (bc:Int) (lY:Int):Option (Ab×Int×Int):=
 bif decide ((602:Int)<=bc) then
  some ((⟨(⟨0,0⟩:Entry),0,0,0,(⟨0,0⟩:Entry),ByteArray.empty⟩:Ab),0,0)
 else
  (mu k d0 aJ bc).bind fun x2=>
  (oZ k x2).bind fun x3=>
  (x2.at? 7).bind fun x4=>
  bif (!decide (x3=(0:Int))) then
   bif decide ((602:Int)<af (bc+(af x4))) then
    some ((⟨(⟨0,0⟩:Entry),0,0,0,(⟨0,0⟩:Entry),ByteArray.empty⟩:Ab),0,0)
   else
    (aB (dp.b0 k d0 aJ bc x4) k (0,[])).bind fun r13=>match r13 with
    |.next _=>none
    |.ret v_=>some v_
    |.brk l9=>
     (abN k l9).bind fun bO=>
     bif (!bO.2.2) then
      some ((⟨(⟨0,0⟩:Entry),0,0,0,(⟨0,0⟩:Entry),ByteArray.empty⟩:Ab),0,0)
     else
      (gg k bO.1 lY x3).bind fun gU=>
      bif (!decide ((gU.length:Int)=af x4)) then
       some ((⟨(⟨0,0⟩:Entry),0,0,0,(⟨0,0⟩:Entry),ByteArray.empty⟩:Ab),0,0)
      else
       (aB (dp.b1 k d0 aJ bc gU) k 0).bind fun r23=>match r23 with
       |.next _=>none
       |.ret v_=>some v_
       |.brk _=>
        some (bO.1,x3,af x4)
  else
   some ((⟨(⟨0,0⟩:Entry),0,0,0,(⟨0,0⟩:Entry),ByteArray.empty⟩:Ab),0,0)
theorem ags (k:Nat) (d0:ar) (aJ:Int) (bc:Int) (lY:Int) (r:Ab×Int×Int) (h0:dp k d0 aJ bc lY=some r):An Try.prog 154 [.aq 2 [ar.c d0] 0 0,.int .i64 aJ,.int .i64 bc,.int .i64 lY] (fun y=>y=.ak [.agg (Ab.c r.1),.int .i64 r.2.1,.int .i64 r.2.2]):=by
 refine PB Try.f154 Cz.c [.cell 8 25,.tmp 9,.tmp 10] ?_
 simp only[dp]at h0
 try simp only[Cz.c,go_sem]
 refine AO h0 ?_ ?_<;>intro c1 h0<;>have F:=c1<;>try simp only[F,go_sem]
 obtain rfl:=oi h0
 refine Ad rfl ?_
 try simp only[F,go_sem]
 refine ay h0 (qD k _ _ _) ?_ (fun x2 h0=>?_)<;>try simp only[F,go_sem]
 refine A1 As bY 1000 ?_
 try simp only[F,go_sem]
 refine eJ h0 (vP k _) ?_ (fun x3 h0=>?_)<;>try simp only[F,go_sem]
 obtain⟨x4,cq,h0⟩:=bs h0
 have nw:=Ao.dm gY (Ao.self gZ x2) cq
 have oN:=nw.2
 try simp only[Ay,AE,go_sem]at oN
 have F:=an (au cq) (an oN F)
 try simp only[F,go_sem]
 refine aT ?_
 try simp only[F,go_sem]
 refine Bd F h0 ?_ ?_<;>intro F h0<;>try simp only[F,go_sem]
 refine AF F h0 ?_ ?_<;>intro F h0<;>try simp only[F,go_sem]
 obtain rfl:=oi h0
 refine Ad rfl ?_
 try simp only[F,go_sem]
 obtain⟨r13,akL,h0⟩:=bs h0
 refine Bc akL (dp.h0 d0 aJ bc lY x3 x4) (dp.x0 d0 aJ bc lY x3 x4) ?_ ?_ ?_
 refine Ae.go [0,1,2,3,8,9,10,12,41,42] [0,416] rfl ?_
 try simp only[dp.h0,F,go_sem]
 rintro⟨i7,l8⟩ dU Bq Bs h1 aS aY bM
 refine rS ?_
 simp only[dp.b0]at h1
 try simp only[Cz.s0,dp.h0,F,go_sem]
 refine AF F h1 ?_ ?_<;>intro F h1<;>try simp only[F,go_sem]
 refine ay h1 (qD k _ _ _) ?_ (fun ed h1=>?_)<;>try simp only[F,go_sem]
 have F:=an (@id (Int.toNat 8=8) rfl) (an (@id (Int.toNat 31=31) rfl) (an (@id (bounds 32 (some (.int .i64 8)) (some (.int .i64 31))=some (8,31)) rfl) (an (@id (31 - 8=23) rfl) F)))
 try simp only[F,go_sem]
 obtain⟨l12,akH,h1⟩:=bs h1
 have ae7:=yM ah akH
 try simp only[F,go_sem]at ae7
 have F:=an ae7 F
 try simp only[ain,F,go_sem]
 refine Aq (aS _ _ (oi h1).symm (Ae.go [0,1,2,3,8,9,10,12,41,42] [0,1] rfl ?_))
 try simp only[dp.h0,F,go_sem]
 refine Aq (aY _ _ (oi h1).symm (Ae.go [0,1,2,3,8,9,10,12] [0,1] rfl ?_))
 try simp only[dp.x0,F,go_sem]
 rintro l9 aQ
 subst aQ
 simp only at h0
 refine rS ?_
 try simp only[dp.x0,F,go_sem]
 refine zqT [1] h0 (agq k _) ?_ fun bO h0=>?_<;>try simp only[F,go_sem]
 refine Bd F h0 ?_ ?_<;>intro F h0<;>try simp only[F,go_sem]
 obtain rfl:=oi h0
 refine Ad rfl ?_
 try simp only[F,go_sem]
 refine ay h0 (y5 k _ _ _) ?_ (fun gU h0=>?_)<;>try simp only[F,go_sem]
 refine Bd F h0 ?_ ?_<;>intro F h0<;>try simp only[F,go_sem]
 obtain rfl:=oi h0
 refine Ad rfl ?_
 try simp only[F,go_sem]
 obtain⟨r23,akQ,h0⟩:=bs h0
 refine Bc akQ (dp.h1 d0 aJ bc x3 x4 bO gU) (dp.x1 x3 x4 bO) ?_ ?_ ?_
 refine Ae.go [0,1,2,8,9,10,73,74,75] [0] rfl ?_
 try simp only[dp.h1,F,go_sem]
 rintro i18 dU Bq Bs h1 aS aY bM
 refine rS ?_
 simp only[dp.b1]at h1
 try simp only[Cz.s1,dp.h1,F,go_sem]
 refine AF F h1 ?_ ?_<;>intro F h1<;>try simp only[F,go_sem]
 obtain⟨gV,bG,h1⟩:=bs h1
 have F:=an (aG bG) (an (aF (Aa.c (n:=32) ah) bG) F)
 try simp only[F,go_sem]
 refine A1 As bY 1000 ?_
 try simp only[F,go_sem]
 refine eJ h1 (qD k _ _ _) ?_ (fun qo h1=>?_)<;>try simp only[F,go_sem]
 refine aT ?_
 try simp only[F,go_sem]
 refine Bd F h1 ?_ ?_<;>intro F h1<;>try simp only[F,go_sem]
 obtain rfl:=bM _ (oi h1).symm
 simp only at h0
 obtain rfl:=oi h0
 refine Ad rfl ?_
 try simp only[F,go_sem]
 refine Aq (aS _ _ (oi h1).symm (Ae.go [0,1,2,8,9,10,73,74,75] [0] rfl ?_))
 try simp only[dp.h1,F,go_sem]
 refine Aq (aY _ _ (oi h1).symm (Ae.go [8,9,10] [0] rfl ?_))
 try simp only[dp.x1,F,go_sem]
 rintro _ aQ
 subst aQ
 simp only at h0
 refine rS ?_
 try simp only[dp.x1,F,go_sem]
 obtain rfl:=oi h0
 refine Ad rfl ?_
 try simp only[F,go_sem]
 obtain rfl:=oi h0
 refine Ad rfl ?_
 try simp only[F,go_sem]
end Go.Abs
namespace Go.Abs
open Go Go.Proofs Go.RowKit Go.Lib
def Az.s0:SC:=
 SQ [.block 1 (SQ [RG [wD 20 130 1,wD 21 3 2,wV 22 6 3,wV 23 7 3,wC 24 154 #[.tmp 20,.tmp 21,.tmp 22,.tmp 23] #[130,3,3,3] 231 [20,21,22,23],wV 19 24 231 [24],wX 25 19 0 25,wX 26 19 1 3,wX 27 19 2 3 [19],wA 8 25,wS 25 8 25 [25],wG 9 26 3 [26],wG 10 27 3 [27]],SQ [RG [wV 28 10 3,wK 29 .eql 3 28 0 3 4 [28],wV 30 29 4 [29],gd 30 false (wV 31 9 3),gd 30 false (wV 32 5 3 [5]),
 gd 30 false (wO 33 .lss 3 31 32 3 4 [31,32]),wT 34 30 33 4 [30,33]],CN 34 .ret .skip],RG [wD 36 46 4,wD 37 25 8,wW 38 71 36 37 46 25 73 [36,37],wV 35 38 73 [38],wX 39 35 0 46,wX 40 35 1 28 [35],wA 11 46,wS 46 11 39 [39],wG 12 40 28 [40]],SQ [RG [wV 41 12 28 [12],wK 42 .neq 28 41 0 28 4 [41],wV 43 42 4 [42],gd 43 false (wF 44 46 11 0),gd 43 false (wD 45 44 44 [44]),gd 43 false (wL 46 45 44 3 [45]),
 gd 43 false (wF 47 46 4 0),gd 43 false (wD 48 44 47 [47]),gd 43 false (wL 49 48 44 3 [48]),gd 43 false (wO 50 .eql 3 46 49 3 4 [46,49]),wT 51 43 50 4 [43,50]],CN 51 .ret .skip],RG [wD 52 46 11 [11],wV 53 9 3 [9],wV 54 6 3 [6],wV 55 10 3 [10],wO 56 .add 3 54 55 3 3 [54,55],wS 46 4 52 [52],wG 5 53 3 [53],wG 6 56 3 [56]],RG [wV 57 0 230,wD 58 25 8 [8],wV 59 6 3,oQ 60 (.call ⟨.value (.tmp 57),
 #[.tmp 58,.tmp 59],#[25,3]⟩) 4 [57,58,59],wQ 61 60 4 [60]],CN 61 .ret .skip]),RG [wV 17 7 3 [7],wK 18 .add 3 17 1 3 3 [17],wG 7 18 3 [18]]]
def Az.c:SC:=
 SQ [RG [wA 4 46],RG [wD 13 130 1,wD 14 3 2,wC 15 125 #[.tmp 13,.tmp 14,.const (.int .i64 0)] #[130,3,3] 126 [13,14],wU 16 126 15 126 3 [15],wG 5 16 3 [16],wN 6 1 3],RG [wN 7 0 3],.block 0 (.loop Az.s0)]
theorem Az.rs:Try.f153.results.toList=[]:=rfl
def kK.go (k:Nat) (d:ar) (aO:Int):Nat->Al->Int->Int->Int->Option (List (Ab×Int))
 |0,_,_,_,_=>none
 |m+1,j,ep,fr,i=>(dp k d aO fr i).bind fun q=>
  bif !decide (q.2.2=0) then
   bif decide (q.2.1<ep) then some [] else
   (mr k j q.1).bind fun b=>
   bif decide (b.2=0) then
    bif decide ((b.1.Ac.length:Int)=(j.Ac.length:Int)) then some [] else
    (kK.go k d aO m b.1 q.2.1 (af (fr+q.2.2)) (af (i+1))).bind fun l=>some ((q.1,af (fr+q.2.2))::l)
   else some []
  else some []
def kK (k:Nat) (d:ar) (aO:Int):Option (List (Ab×Int)):=
 (mu k d aO 0).bind fun h=>(oZ k h).bind fun e=>kK.go k d aO k ⟨[]⟩ e 1 0
def rz (d:ar) (aO:Int) (l:Nat) (ep fr i:Int):List (Nat×AV):=
 [(0,.fn (.yield l) [] []),(1,.aq 1 [[.aq 2 [ar.c d] 0 0]] 0 0),(2,.aq 1 [[.int .i64 aO]] 0 0),(4,.ptr 0 0 0),(5,.int .i64 ep),(6,.int .i64 fr),(7,.int .i64 i)]
def uk (d:ar) (aO:Int) (l:Nat) (C:Aj) (j:Al) (ep fr i:Int):St:=⟨rz d aO l ep fr i,[(0,.box (Al.c j))],[C],1,Try.f153.ntmps⟩
def itY (d:ar) (aO:Int) (l:Nat) (C:Aj) (x:Ab) (j:Al) (ep fr i:Int):St:=
 ⟨[(0,.fn (.yield l) [] []),(1,.aq 1 [[.aq 2 [ar.c d] 0 0]] 0 0),(2,.aq 1 [[.int .i64 aO]] 0 0),(4,.ptr 0 0 0),(5,.int .i64 ep),(6,.int .i64 fr),(7,.int .i64 i),
  (57,.fn (.yield l) [] []),(58,.agg (Ab.c x)),(59,.int .i64 fr)],[(0,.box (Al.c j))],[C],1,Try.f153.ntmps⟩
def Az.p0:SC:=
 Az.c.fst
def Az.p1:SC:=
 Az.c.snd.fst
def Az.p2:SC:=
 Az.c.snd.snd.fst
def SC.body:SC->SC
 |.block _ b=>b
 |x=>x
def SC.ro:SC->List Ai
 |.ja l=>l
 |_=>[]
def Az.x:SC:=
 Az.s0.fst.body
def Az.x4:SC:=
 Az.x.fst
def Az.x5:SC:=
 Az.x.snd.fst
def Az.x6:SC:=
 Az.x.snd.snd.fst
def Az.x7:SC:=
 Az.x.snd.snd.snd.fst
def Az.x8:SC:=
 Az.x.snd.snd.snd.snd.fst
def Az.x9:List Ai:=Az.x.snd.snd.snd.snd.snd.fst.ro.take 3

def Az.r3:SC:=
 Az.s0.snd
theorem aiy (k:Nat) (d:ar) (aO:Int) (l:Nat) (C:Aj) (e:Int) (h:Aa 32 Int) (h1:mu k d aO 0=some h) (h2:oZ k h=some e) (Φ:Exit->St->Prop):
  AK Try.prog Try.f153.ntmps Φ [.sc Az.p0,.sc Az.p1,.sc Az.p2,.back (fun st=>Ae Try.f153.ntmps st (uk d aO l C ⟨[]⟩ e 1 0))]
   ⟨[(0,.fn (.yield l) [] []),(1,.aq 1 [[.aq 2 [ar.c d] 0 0]] 0 0),(2,.aq 1 [[.int .i64 aO]] 0 0)],[],[C],0,Try.f153.ntmps⟩:=by
 refine rS ?_
 simp only[Az.p0,Az.p1,Az.p2,Az.c,SC.fst,SC.snd,go_sem]
 refine gA (qD k _ _ _ _ h1) ?_ ?_
 ·simp only[go_sem]
 simp only[go_sem]
 refine gA (vP k _ _ h2) ?_ ?_
 ·simp only[go_sem]
 simp only[go_sem]
 refine Aq ?_
 refine(Ae.fz 1 rfl (fun _ h=>by cases h)).trans ?_
 simp only[go_sem]
 refine Ae.go [0,1,2,4,5,6,7] [0] rfl ?_
 simp only[rz,go_sem]
def itB (k:Nat) (d:ar) (aO:Int) (l:Nat) (C:Aj) (j:Al) (ep fr i:Int) (st:St):Prop:=
 ∃ q b,dp k d aO fr i=some q/\decide (q.2.2=0)=false/\decide (q.2.1<ep)=false/\mr k j q.1=some b/\decide (b.2=0)=true/\
  decide ((b.1.Ac.length:Int)=(j.Ac.length:Int))=false/\Ae Try.f153.ntmps st (itY d aO l C q.1 b.1 q.2.1 (af (fr+q.2.2)) i)
def itE (C:Aj) (L:Prop) (e:Exit) (st:St):Prop:=e=.ret/\st.low=[C]/\L
theorem aiA (k:Nat) (d:ar) (aO:Int) (l:Nat) (C:Aj) (m:Nat) (j:Al) (ep fr i:Int) (xs:List (Ab×Int)) (h0:kK.go k d aO (m+1) j ep fr i=some xs):
  AK Try.prog Try.f153.ntmps (itE C (xs=[])) [.sc Az.x4,.sc Az.x5,.sc Az.x6,.sc Az.x7,.sc Az.x8,.ops Az.x9,.back (itB k d aO l C j ep fr i)] (uk d aO l C j ep fr i):=by
 refine rS ?_
 simp only[kK.go]at h0
 simp only[uk,rz,Az.x4,Az.x5,Az.x6,Az.x7,Az.x8,Az.x9,Az.x,Az.s0,SC.fst,SC.snd,SC.body,SC.ro,List.take_succ_cons,List.take_zero,go_sem]
 obtain⟨q,yq,h0⟩:=bs h0
 refine gA (ags k _ _ _ _ _ yq) ?_ ?_
 ·simp only[go_sem]
 simp only[go_sem]
 refine AO h0 (fun c1 h0=>?_) (fun c1 h0=>?_)
 rotate_left
 ·have c1:=yT c1
  simp only[c1,go_sem]
  obtain rfl:=oi h0
  exact⟨rfl,rfl,rfl⟩
 have c1:=yU c1
 simp only[c1,go_sem]
 refine AO h0 (fun c2 h0=>?_) (fun c2 h0=>?_)
 ·simp only[c2,c1,go_sem]
  obtain rfl:=oi h0
  exact⟨rfl,rfl,rfl⟩
 simp only[c2,c1,go_sem]
 obtain⟨b,yb,h0⟩:=bs h0
 refine gA (vM k _ _ _ yb) ?_ ?_
 ·simp only[c1,c2,go_sem]
 simp only[c1,c2,go_sem]
 refine AO h0 (fun c3 h0=>?_) (fun c3 h0=>?_)
 rotate_left
 ·simp only[c3,c2,c1,go_sem]
  obtain rfl:=oi h0
  exact⟨rfl,rfl,rfl⟩
 simp only[c3,c2,c1,go_sem]
 refine AO h0 (fun c4 h0=>?_) (fun c4 h0=>?_)
 ·simp only[c4,c3,c2,c1,go_sem]
  obtain rfl:=oi h0
  exact⟨rfl,rfl,rfl⟩
 simp only[c4,c3,c2,c1,go_sem]
 refine Aq ⟨q,b,yq,c1,c2,yb,c3,c4,?_⟩
 refine Ae.go [0,1,2,4,5,6,7,57,58,59] [0] rfl ?_
 simp only[go_sem]
def gC:Code->Code
 |.block _ b=>b
 |.loop b=>b
 |x=>x
def mB:Code->Array Oper
 |.region _ o _=>o
 |_=>#[]
def Cg:Code:=Try.f153.body.getD .skip
def Cs:Code:=gC (gC (ae (ae (ae Cg))))
def BS:Code:=gC (aA Cs)
def CH:Array Oper:=mB (aA (ae (ae (ae (ae (ae BS))))))
def Ea:Code:=ae (ae (ae (ae (ae (ae BS)))))
def Az.qp:List Ai:=Az.x.snd.snd.snd.snd.snd.fst.ro.drop 4

def Az.z:SC:=
 Az.x.snd.snd.snd.snd.snd.snd
def YC (N0:Nat) (W1:World) (l:Nat) (tc:Ah) (C:List (Ab×Int)->Aj) (xs:List (Ab×Int)):Prop:=
 ∀ pre x,(pre++[x]) <+: xs->∀ (f:Aj) fm ts w vs,HR N0 W1 fm ts [f,C pre] w->Ak [tc] (ts.drop 1)->Am fm ts [.agg (Ab.c x.1),.int .i64 x.2] vs->
  YieldAt FW 0 Try.prog l vs.toArray w fun e w'=>e=.returned (.bool true)/\∃ fm' ts',HR N0 W1 fm' ts' [f,C (pre++[x])] w'/\Ax N0 fm fm'/\Ak ts ts'/\∀ l k,tb ts l k=none->tb ts' l k=none
def xK (d:ar) (aO:Int) (l:Nat) (C:Aj) (j:Al) (ep fr i:Int):St:=⟨(60,.bool true)::rz d aO l ep fr i,[(0,.box (Al.c j))],[C],1,Try.f153.ntmps⟩
theorem aiB (d:ar) (aO:Int) (l:Nat) (C:Aj) (j:Al) (ep fr i:Int) (Φ:Exit->St->Prop):
  AK Try.prog Try.f153.ntmps Φ [.ops Az.qp,.sc Az.z,.aj 1,.sc Az.r3,.back (fun st=>Ae Try.f153.ntmps st (uk d aO l C j ep fr (af (i+1))))] (xK d aO l C j ep fr i):=by
 refine rS ?_
 simp only[xK,rz,Az.qp,Az.z,Az.r3,Az.x,Az.s0,SC.fst,SC.snd,SC.body,SC.ro,List.drop_succ_cons,List.drop_zero,go_sem]
 refine Aq ?_
 refine Ae.go [0,1,2,4,5,6,7] [0] rfl ?_
 simp only[rz,go_sem]
theorem uu {α:Type} (b:List (Nat×α)) {t:Nat}{x:α}:∀ {a:List (Nat×α)},look a t=some x->look (a++b) t=some x
 |[],h=>by simp[look]at h
 |(k,y)::a,h=>by
  simp only[A8,look]at h ⊢
  split at h
  ·rename_i hk;rw[if_pos hk];exact h
  ·rename_i hk;rw[if_neg hk];exact uu b h
theorem aiz (k:Nat) (d:ar) (aO:Int) (xs:List (Ab×Int)) (eA:kK k d aO=some xs) {N0:Nat}{W1:World}{l:Nat}{tc:Ah}{C:List (Ab×Int)->Aj} (hY:YC N0 W1 l tc C xs) {fm:FM}{w:World}{vd va:Value}
  (hr:HR N0 W1 fm [tc] [C []] w) (hd:VR fm [] (.aq 1 [[.aq 2 [ar.c d] 0 0]] 0 0) vd) (ha:VR fm [] (.aq 1 [[.int .i64 aO]] 0 0) va):
  Calls Try.prog 153 #[.func (.yield l) #[] #[],vd,va] w fun e w'=>(∃ v,e=.returned v)/\∃ fm' ts',HR N0 W1 fm' ts' [C xs] w'/\Ax N0 fm fm'/\Ak [tc] ts'/\∀ l k,tb [tc] l k=none->tb ts' l k=none:=by
 obtain⟨h,yh,eA⟩:=bs eA
 obtain⟨e,ye,eA⟩:=bs eA
 have eu:Try.f153.ntmps=62:=by rfl
 refine calls_of_wp (fn:=Try.f153) (c:=Cg) (by rfl) (by rfl) ((qn []).1 ?_)
 have hyv:VR fm (cj::[tc]) (.fn (.yield l) [] []) (.func (.yield l) #[] #[]):=.fn _ _ _ _ _ rfl rfl (by intro i x v h;simp at h) (by intro i x v h;simp at h)
 have hS:=SR.enter hr (args:=[.fn (.yield l) [] [],.aq 1 [[.aq 2 [ar.c d] 0 0]] 0 0,.aq 1 [[.int .i64 aO]] 0 0]) (vs:=[.func (.yield l) #[] #[],vd,va]) (n:=Try.f153.ntmps) (by
  refine⟨rfl,?_⟩
  intro i x v hx hv
  match i,hx,hv with
  |0,hx,hv=>cases hx;cases hv;exact hyv
  |1,hx,hv=>cases hx;cases hv;exact hd.mono (AM.refl _) (Ak.nil _)
  |2,hx,hv=>cases hx;cases hv;exact ha.mono (AM.refl _) (Ak.nil _)
  |i+3,hx,hv=>simp at hx) (by rw[eu];simp)
 have ahe:Cg=.seq (aA Cg) (.seq (aA (ae Cg)) (.seq (aA (ae (ae Cg))) (.block 0 (.loop Cs)))):=by rfl
 refine(show K Try.prog _ [.code Cg] .normal _ w from ?_)
 rw[ahe]
 refine B1 ?_
 refine BW (t:=[.code (aA (ae Cg)),.code (aA (ae (ae Cg))),.code (.block 0 (.loop Cs))]) (fun e a w h=>BP _ _ _ (BW (fun e a w h=>BP _ _ _ h) _ _ _ h)) _ _ _ ?_
 refine AK.gR (cs:=[.code (aA Cg),.code (aA (ae Cg)),.code (aA (ae (ae Cg)))]) (t:=[.code (.block 0 (.loop Cs))]) (Φ:=fun _ _=>False) (todo:=[.sc Az.p0,.sc Az.p1,.sc Az.p2]) hS (aiy k d aO l (C []) e h yh ye _)
  (fun R hR=>.sc (by rfl) (by rfl) (.sc (by rfl) (by rfl) (.sc (by rfl) (by rfl) (.back hR .nil)))) ?_ (fun _ _ _ _ _ _ h=>h.elim)
 rintro p8 a0 w0 zJ ec lV pr po
 obtain⟨dv,cn,bE,fy⟩:=lV _ _ _ _ _ _ pr
 refine CB ?_
 refine Ee (I:=fun m a w=>∃ pre ys j ep fr i fm' ts',kK.go k d aO m j ep fr i=some ys/\pre++ys=xs/\SR N0 W1 Try.f153.ntmps (uk d aO l (C pre) j ep fr i) a w fm' ts'/\AT N0 fm (cj::[tc]) fm' ts') k
  ⟨[],xs,_,_,_,_,dv,cn,eA,rfl,bE,po.trans fy⟩ ?_
 rintro m a w2 ⟨pre,ys,j,ep,fr,i,dw,cE,fA,xq,cL,bU⟩
 cases m with
 |zero=>simp only[kK.go]at fA;cases fA
 |succ m=>
  have eB:Cs=.seq (.block 1 BS) (ae Cs):=by rfl
  have eX:BS=.seq (aA BS) (.seq (aA (ae BS)) (.seq (aA (ae (ae BS))) (.seq (aA (ae (ae (ae BS)))) (.seq (aA (ae (ae (ae (ae BS))))) (.seq (.region 9 CH false) Ea))))):=by rfl
  rw[eB]
  refine B1 ?_
  refine CB ?_
  rw[eX]
  refine B1 ?_
  refine BW (t:=[.code (aA (ae BS)),.code (aA (ae (ae BS))),.code (aA (ae (ae (ae BS)))),.code (aA (ae (ae (ae (ae BS))))),.ops CH [0,1,2],.ops CH [3,4],.code Ea,.aj 1,.code (ae Cs),.back _,.aj 0])
   (fun e a w h=>BP _ _ _ (BW (fun e a w h=>BP _ _ _ (BW (fun e a w h=>BP _ _ _ (BW (fun e a w h=>BP _ _ _ (BW (fun e a w h=>BP _ _ _ (FE _ _ _ (FD (is:=[0,1,2]) (js:=[3,4]) _ _ _ h))) _ _ _ h)) _ _ _ h)) _ _ _ h)) _ _ _ h)) _ _ _ ?_
  refine AK.gR (cs:=[.code (aA BS),.code (aA (ae BS)),.code (aA (ae (ae BS))),.code (aA (ae (ae (ae BS)))),.code (aA (ae (ae (ae (ae BS))))),.ops CH [0,1,2]]) (t:=[.ops CH [3,4],.code Ea,.aj 1,.code (ae Cs),.back _,.aj 0])
   (todo:=[.sc Az.x4,.sc Az.x5,.sc Az.x6,.sc Az.x7,.sc Az.x8,.ops Az.x9]) cL (aiA k d aO l (C pre) m j ep fr i ys fA)
   (fun R hR=>.sc (by rfl) (by rfl) (.sc (by rfl) (by rfl) (.sc (by rfl) (by rfl) (.sc (by rfl) (by rfl) (.sc (by rfl) (by rfl) (.ops (by rfl) (by decide +kernel) (by decide +kernel) (.back hR .nil))))))) ?_ ?_
  ·
   rintro yl a3 w3 eM fv ⟨q,b,yq,c1,c2,yb,c3,c4,ru⟩ cX eW
   obtain⟨nK,qc,cZ,nO⟩:=ru _ _ _ _ _ _ cX
   simp only[kK.go]at fA
   rw[yq]at fA
   simp only[Av,c1,B4,AH,c2,AB,yb,c3,c4]at fA
   obtain⟨yG,yys,fA⟩:=bs fA
   obtain rfl:=oi fA
   obtain⟨v57,h57,r57⟩:=cZ.tm 57 (.fn (.yield l) [] []) rfl
   obtain⟨v58,h58,r58⟩:=cZ.tm 58 (.agg (Ab.c q.1)) rfl
   obtain⟨v59,h59,r59⟩:=cZ.tm 59 (.int .i64 (af (fr+q.2.2))) rfl
   obtain rfl:v57=.func (.yield l) #[] #[]:=by
    cases r57 with
    |fn f first cap vf vc h1 h2 h3 h4=>
     have e1:vf=#[]:=Array.size_eq_zero_iff.1 (by simpa using h1.symm)
     have e2:vc=#[]:=Array.size_eq_zero_iff.1 (by simpa using h2.symm)
     rw[e1,e2]
   obtain⟨fn,tmps,assign,body,aK,hR⟩:=hY pre (q.1,af (fr+q.2.2)) ⟨yG,by rw[<-xq];simp⟩ _ nK qc w3 [v58,v59] cZ.hr (by have:=((bU.trans eW).trans nO).fu;simpa using this) ⟨rfl,by
    intro i x v hx hv
    match i,hx,hv with
    |0,hx,hv=>cases hx;cases hv;exact r58
    |1,hx,hv=>cases hx;cases hv;exact r59
    |i+2,hx,hv=>simp at hx⟩
   obtain⟨o3,e3,g3,d3⟩:∃ o,CH[3]?=some o/\o.guard=none/\o.op=.call ⟨.value (.tmp 57),#[.tmp 58,.tmp 59],#[25,3]⟩/\o.dst=some 60:=⟨_,rfl,rfl,rfl,rfl⟩
   refine CW e3 g3 ?_
   have v57:a3.eval (.tmp 57)=.func (.yield l) #[] #[]:=by simp[Act.eval,Array.getD_eq_getD_getElem?,h57]
   have w58:a3.eval (.tmp 58)=v58:=by simp[Act.eval,Array.getD_eq_getD_getElem?,h58]
   have w59:a3.eval (.tmp 59)=v59:=by simp[Act.eval,Array.getD_eq_getD_getElem?,h59]
   refine ad0 (w':=w3) (l:=l) (fn:=fn) (tmps:=tmps) (assign:=assign) (body:=body) (fun c h=>by rw[d3.1]at h;cases h) ?_ ?_
   ·have tY:(resolve a3.eval ⟨.value (.tmp 57),#[.tmp 58,.tmp 59],#[25,3]⟩ o3.type).run Try.prog w3=.ok { target:=.fn (.yield l) #[],args:=#[v58,v59] } w3:=by
     simp[resolve,v57,w58,w59,Deferred.ofValue]
    simp only[execOp,d3.1,Sem.run_bind,tY,Result.andThen_ok]
    simpa [invoke] using aK
   refine hR.mono ?_
   rintro e w4 ⟨rfl,mG,nq,rp,ue,xD,xn⟩
   rw[d3.2]
   have jr:SR N0 W1 Try.f153.ntmps (xK d aO l (C (pre++[(q.1,af (fr+q.2.2))])) b.1 q.2.1 (af (fr+q.2.2)) i) (a3.put (some 60) (.bool true)) w4 mG nq:=by
    refine⟨rp,?_,fun k hk=>xn 0 k (cZ.nx k hk),by rw[pW];exact cZ.size,by rw[oB];exact cZ.cV⟩
    intro t x hx
    unfold xK at hx
    simp only[look]at hx
    split at hx
    ·subst_vars
     obtain rfl:=oi hx
     refine⟨.bool true,?_,.bool true⟩
     simp only[Act.put]
     rw[Array.getElem?_setIfInBounds,if_pos rfl,if_pos (by rw[cZ.size,eu];decide)]
    ·rename_i bg
     have eO:look (itY d aO l (C pre) q.1 b.1 q.2.1 (af (fr+q.2.2)) i).tm t=some x:=by
      exact uu [(57,.fn (.yield l) [] []),(58,.agg (Ab.c q.1)),(59,.int .i64 (af (fr+q.2.2)))] hx
     obtain⟨u,h1,h2⟩:=cZ.tm t x eO
     exact⟨u,by simp only[Act.put];rw[Array.getElem?_setIfInBounds,if_neg bg];exact h1,h2.mono ue.le xD⟩
   refine AK.gR (cs:=[.ops CH [4],.code Ea,.aj 1,.code (ae Cs)]) (t:=[.back _,.aj 0]) (Φ:=fun _ _=>False) (todo:=[.ops Az.qp,.sc Az.z,.aj 1,.sc Az.r3]) jr (aiB d aO l _ _ _ _ i _)
    (fun R hR=>.ops (by rfl) (by decide +kernel) (by decide +kernel) (.sc (by rfl) (by rfl) (.aj (.sc (by rfl) (by rfl) (.back hR .nil))))) ?_ (fun _ _ _ _ _ _ h=>h.elim)
   rintro st6 a6 w6 sS ts6 hw6 jt z6
   obtain⟨qQ,r4,tf,s8⟩:=hw6 _ _ _ _ _ _ jt
   have pq:AT N0 nK qc mG nq:=⟨ue,xD.drop 1,fun l k h=>by rw[dC]at h ⊢;exact xn _ _ h⟩
   exact⟨m,Nat.lt_succ_self m,pre++[(q.1,af (fr+q.2.2))],yG,b.1,q.2.1,_,_,qQ,r4,yys,by rw[<-xq];simp,tf,((((bU.trans eW).trans nO).trans pq).trans z6).trans s8⟩
  ·
   rintro e yl a3 w3 eM fv ⟨rfl,gJ,jD⟩ cX eW
   refine CC ?_ _
   obtain⟨v,h1,h2⟩:=ng (P:=Try.prog) (fn:=Try.f153) (xs:=[]) As cX (by rw[Az.rs];rfl)
   have hL:=bU.trans eW
   have hp:=cX.hr
   rw[gJ]at hp
   cases fv with
   |nil=>have:=hp.len;simp at this
   |cons t rest=>
    have tP:=hp.pop
    rw[jD,List.append_nil]at xq
    subst xq
    exact⟨cX.cV.1,v,h1,⟨v,rfl⟩,eM,rest,tP,hL.cC,by simpa using hL.fu,by simpa using hL.no⟩
def EW.c:SC:=
 SQ [RG [wA 4 126],RG [wV 5 0 3 [0],wV 6 1 3 [1],wC 7 115 #[.const (.int .u8 104),.tmp 5,.tmp 6] #[5,3,3] 126 [5,6],wS 126 4 7 [7]],.ret]
def vQ (k:Nat) (wg:Int) (vX:Int):Option ((Aa 32 Int)):=
 (vN k 104 wg vX).bind fun x1=>
 some x1
theorem abS (k:Nat) (wg:Int) (vX:Int) (r:(Aa 32 Int)) (h0:vQ k wg vX=some r):An Try.prog 101 [.int .i64 wg,.int .i64 vX] (fun y=>y=.agg ((Aa.c (n:=32) ah) r)):=by
 refine PB Try.f101 EW.c [.cell 4 126] ?_
 simp only[vQ]at h0
 try simp only[EW.c,go_sem]
 refine ay h0 (abJ k _ _ _) ?_ (fun x1 h0=>?_)<;>try simp only[go_sem]
 obtain rfl:=oi h0
 refine Ad rfl ?_
 try simp only[go_sem]
end Go.Abs
namespace Go.Abs
open Go Go.Proofs Go.RowKit Go.Lib
def AL.c:SC:=
 SQ [RG [wA 4 145,wB 5 false 4 [5]],RG [wV 12 0 130,wV 13 1 3,wC 14 125 #[.tmp 12,.tmp 13,.const (.int .i64 0)] #[130,3,3] 126 [12,13],wA 6 126,wS 126 6 14 [14]],RG [wD 15 126 6,wU 16 126 15 126 3 [15],wG 7 16 3 [16]],RG [wJ 17 126 6 4,wD 18 5 17 [17],wY 19 5 3 18 3 [18],oQ 20 (.binOp .shl 3 (.tmp 19) (.const (.int .u64 8)) 211) 3 [19],wJ 21 126 6 5,wD 22 5 21 [21],wY 23 5 3 22 3 [22],
 wO 24 .or 3 20 23 3 3 [20,23],wG 8 24 3 [24]],SQ [.bB [wV 25 7 3,wK 26 .eql 3 25 0 3 4,wV 27 26 4,gd 27 false (wD 28 126 6),gd 27 false (wV 29 7 3),gd 27 false (wV 30 8 3),gd 27 false (wW 31 101 29 30 3 3 126),gd 27 false (wO 32 .neq 126 28 31 126 4),wT 33 27 32 4] [[],[0],[0,1],[0,1,2],[0,1,2],[0,1,2],[0,1,2,4,5],[0,1,2,3,4,5,6],[0,1,2,3,4,5,6,7]] [6,25,26,27,28,29,30,31,32],
 CN 33 (SQ [RG [oQ 34 (.build 145 #[]) 145,wS 145 4 34 [34],wB 5 false 4],.ret]) .skip],RG [wV 35 0 130,wV 36 1 3,wV 37 7 3 [7],oQ 38 (.build 145 #[(0,.tmp 35),(1,.tmp 36),(2,.tmp 37),(3,.const (.int .i64 1))]) 145 [35,36,37],wA 9 145,wS 145 9 38 [38]],SQ [RG [wV 39 0 130 [0],wV 40 1 3 [1],wW 41 147 39 40 130 3 224 [39,40]],.block 0 .other],.bB [wD 58 145 9,wF 59 145 9 5,wD 60 3 59,wV 61 8 3,
 wO 62 .geq 3 60 61 3 4,wS 145 4 58,wG 5 62 4] [[],[],[1],[],[1,2,3],[0],[1,2,3,4,0,5]] [8,9,58,59,60,61,62],.ret]
theorem AL.rs:Try.f124.results.toList=[.cell 4 145,.tmp 5]:=rfl
def AL.o0:SC:=
 AL.c.fst
def AL.o1:SC:=
 AL.c.snd.fst
def AL.o2:SC:=
 AL.c.snd.snd.fst
def AL.o3:SC:=
 AL.c.snd.snd.snd.fst
def AL.o4:SC:=
 AL.c.snd.snd.snd.snd.fst
def AL.o5:SC:=
 AL.c.snd.snd.snd.snd.snd.fst
def AL.o6:SC:=
 AL.c.snd.snd.snd.snd.snd.snd.fst.fst
def AL.o7:SC:=
 AL.c.snd.snd.snd.snd.snd.snd.snd
def m8 (x3 x4:Int):Int:=iO .i64 (af ((af x3)*2 ^ 8)) (af x4)
def iY:bT:=⟨none,0,0,0,(⟨[]⟩:Al),0⟩
def pS (d:ar) (aO e:Int):bT:=⟨some d,aO,e,1,⟨[]⟩,0⟩
def pT (k:Nat) (J:bT) (x:Ab×Int):Option bT:=
 (mr k J.book x.1).bind fun b=>some ⟨J.acj,J.aO,J.we,x.2,b.1,af (J.records+1)⟩
def kp (k:Nat):bT->List (Ab×Int)->Option bT
 |J,[]=>some J
 |J,x::l=>(pT k J x).bind fun J=>kp k J l
def sC (k:Nat) (d0:ar) (aJ:Int):Option (bT×Bool):=
 (mu k d0 aJ 0).bind fun x1=>
 (oZ k x1).bind fun x2=>
 (x1.at? 4).bind fun x3=>
 (x1.at? 5).bind fun x4=>
 bif (!decide (x2=(0:Int))) then
  (vQ k x2 (iO .i64 (af ((af x3)*2 ^ 8)) (af x4))).bind fun x6=>
  bif (!(Aa.eq (fun(x y:Int)=>decide (x=y)) x1 x6)) then
   some (iY,false)
  else
   (kK k d0 aJ).bind fun xs=>
   (kp k (pS d0 aJ x2) xs).bind fun J=>
   some (J,decide (J.records>=m8 x3 x4))
 else
  some (iY,false)
def adV (d:ar) (aO e bK:Int):St:=⟨[(4,.ptr 0 0 0),(8,.int .i64 bK),(9,.ptr 0 1 0),(41,la d aO)],[(0,.box (bT.c iY)),(1,.box (bT.c (pS d aO e)))],[],2,Try.f124.ntmps⟩
def opE (L:Prop) (e:Exit) (st:St):Prop:=e=.ret/\L/\Cv T Try.f124.results.toList (fun y=>NL y (.ak [.agg (bT.c iY),.bool false])) .ret st
def opB (k:Nat) (d:ar) (aO:Int) (r:bT×Bool) (st:St):Prop:=
 ∃ e x3 x4 xs J,kK k d aO=some xs/\kp k (pS d aO e) xs=some J/\r=(J,decide (J.records>=m8 x3 x4))/\Ae Try.f124.ntmps st (adV d aO e (m8 x3 x4))
theorem ajb (k:Nat) (d:ar) (aO:Int) (r:bT×Bool) (h0:sC k d aO=some r):
  AK Try.prog Try.f124.ntmps (opE (r=(iY,false))) [.sc AL.o0,.sc AL.o1,.sc AL.o2,.sc AL.o3,.sc AL.o4,.sc AL.o5,.sc AL.o6,.back (opB k d aO r)] (St.enter [.aq 2 [ar.c d] 0 0,.int .i64 aO] [] Try.f124.ntmps):=by
 refine rS ?_
 simp only[sC]at h0
 simp only[AL.o0,AL.o1,AL.o2,AL.o3,AL.o4,AL.o5,AL.o6,AL.c,SC.fst,SC.snd,go_sem]
 obtain⟨x1,kD,h0⟩:=bs h0
 refine gA (qD k _ _ _ _ kD) ?_ ?_
 ·try simp only[go_sem]
 try simp only[go_sem]
 obtain⟨x2,gz,h0⟩:=bs h0
 refine gA (vP k _ _ gz) ?_ ?_
 ·try simp only[go_sem]
 try simp only[go_sem]
 obtain⟨x3,cv,h0⟩:=bs h0
 have qf:=Ao.at iL (Ao.self vy x1) cv
 have iQ:=qf.bound iL
 have iR:=qf.get iL
 try simp only[Ay,AE,go_sem]at iQ iR
 try simp only[au cv,iQ,iR,(@id (min (Int.toNat 8) 64=8) rfl),go_sem]
 obtain⟨x4,cq,h0⟩:=bs h0
 have nw:=Ao.at iL (Ao.self vy x1) cq
 have jf:=nw.bound iL
 have jm:=nw.get iL
 try simp only[Ay,AE,go_sem]at jf jm
 try simp only[au cq,jf,jm,au cv,iQ,iR,go_sem]
 refine A1 As bY 1000 ?_
 try simp only[au cv,iQ,iR,au cq,jf,jm,go_sem]
 refine DZ h0 (fun c5 h0=>?_) (fun c5 h0=>?_)
 ·have c5:=yU c5
  try simp only[c5,au cv,iQ,iR,au cq,jf,jm,go_sem]
  obtain⟨x6,cO,h0⟩:=bs h0
  refine dc0 (abS k _ _ _ cO) ?_ ?_
  ·try simp only[au cv,iQ,iR,au cq,jf,jm,c5,go_sem]
  try simp only[au cv,iQ,iR,au cq,jf,jm,c5,go_sem]
  refine aT ?_
  try simp only[au cv,iQ,iR,au cq,jf,jm,c5,go_sem]
  refine AO h0 (fun c7 h0=>?_) (fun c7 h0=>?_)
  ·have c7:=yU c7
   try simp only[c7,au cv,iQ,iR,au cq,jf,jm,c5,go_sem]
   obtain rfl:=oi h0
   refine⟨rfl,rfl,Ad (P:=Try.prog) (n:=Try.f124.ntmps) rfl ?_⟩
   try simp only[AL.rs,iY,au cv,iQ,iR,au cq,jf,jm,c5,c7,go_sem]
  ·have c7:=yT c7
   try simp only[c7,au cv,iQ,iR,au cq,jf,jm,c5,go_sem]
   obtain⟨xs,yxs,h0⟩:=bs h0
   obtain⟨J,yJ,h0⟩:=bs h0
   obtain rfl:=oi h0
   refine gA (agr d aO) ?_ ?_
   ·try simp only[go_sem]
   try simp only[la,go_sem]
   refine Aq ⟨x2,x3,x4,xs,J,yxs,yJ,rfl,?_⟩
   refine(Ae.fz 1 rfl (fun _ h=>by cases h)).trans ?_
   simp only[go_sem]
   refine(Ae.fz 528 rfl (fun _ h=>by cases h)).trans ?_
   simp only[go_sem]
   refine Ae.go [4,8,9,41] [0,512] rfl ?_
   simp only[la,m8,iY,pS,go_sem]
 ·have c5:=yT c5
  try simp only[c5,au cv,iQ,iR,au cq,jf,jm,go_sem]
  refine aT ?_
  try simp only[au cv,iQ,iR,au cq,jf,jm,c5,go_sem]
  obtain rfl:=oi h0
  refine⟨rfl,rfl,Ad (P:=Try.prog) (n:=Try.f124.ntmps) rfl ?_⟩
  try simp only[AL.rs,iY,au cv,iQ,iR,au cq,jf,jm,c5,go_sem]
def AL.oa:SC:=.seq (.ja [wA 10 25,wS 25 10 42 [42]]) (.ja [wG 11 43 3 [43]])

def AL.ob:SC:=.block 1 (.seq (.ja [wF 45 145 9 4,wD 46 46 45 [45],wD 47 25 10,wW 48 71 46 47 46 25 73 [46,47],
 wV 44 48 73 [48],wX 49 44 0 46,wX 50 44 1 28 [44,50],wF 51 145 9 4,wS 46 51 49 [49,51]])
 (.seq (.ja [wV 52 11 3 [11],wF 53 145 9 3,wS 3 53 52 [52,53]])
 (.ja [wF 54 145 9 5,wD 55 3 54 [54],wK 56 .add 3 55 1 3 3 [55],wF 57 145 9 5,wS 3 57 56 [56,57]])))
def jJ (J:bT):Aj:=[(0,.box (bT.c iY)),(1,.box (bT.c J))]
def uA (x:Ab×Int) (f:Aj) (J:bT):St:=⟨[(9,.ptr 2 1 0),(42,.agg (Ab.c x.1)),(43,.int .i64 x.2)],[],[f,jJ J],0,Try.f124.ntmps⟩
def pR (x:Ab×Int) (f:Aj) (J:bT):St:=⟨[(9,.ptr 2 1 0),(10,.ptr 0 0 0),(11,.int .i64 x.2)],[(0,.box (Ab.c x.1))],[f,jJ J],1,Try.f124.ntmps⟩
def opN (f:Aj) (J:bT):St:=⟨[],[],[f,jJ J],0,Try.f124.ntmps⟩
def xQ (J:bT) (bK:Int):St:=⟨[(4,.ptr 0 0 0),(8,.int .i64 bK),(9,.ptr 0 1 0)],jJ J,[],2,Try.f124.ntmps⟩
theorem ai8 [Md] (x:Ab×Int) (f:Aj) (J:bT) (Φ:Exit->St->Prop):AK Try.prog Try.f124.ntmps Φ [.sc AL.oa,.back (fun st=>Ae Try.f124.ntmps st (pR x f J))] (uA x f J):=by
 refine rS ?_
 simp only[AL.oa,uA,jJ,iY,go_sem]
 show Ae Try.f124.ntmps _ (pR x f J)
 refine Ae.go [9,10,11] [0] rfl ?_
 simp only[jJ,iY,go_sem]
theorem aja [Md] (k:Nat) (x:Ab×Int) (f:Aj) (J J':bT) (h0:pT k J x=some J') (Φ:Exit->St->Prop):AK Try.prog Try.f124.ntmps Φ [.sc AL.ob,.back (fun st=>Ae Try.f124.ntmps st (opN f J'))] (pR x f J):=by
 refine rS ?_
 simp only[pT]at h0
 obtain⟨b,yb,h0⟩:=bs h0
 obtain rfl:=oi h0
 simp only[AL.ob,pR,jJ,iY,go_sem]
 refine gA (vM k J.book x.1 b yb) ?_ ?_
 ·simp only[go_sem]
 simp only[go_sem]
 show Ae Try.f124.ntmps _ (opN f _)
 refine Ae.go [] [] rfl ?_
 simp only[jJ,iY,go_sem]
theorem ajc [Md] (J:bT) (bK:Int):AK Try.prog Try.f124.ntmps (fun e st=>e=.ret/\Cv T Try.f124.results.toList (fun y=>NL y (.ak [.agg (bT.c J),.bool (decide (J.records>=bK))])) .ret st) [.sc AL.o7] (xQ J bK):=by
 refine rS ?_
 simp only[AL.o7,AL.c,xQ,jJ,iY,SC.snd,go_sem]
 refine A1 As bY 1000 ?_
 simp only[go_sem]
 refine aT ?_
 simp only[go_sem]
 refine⟨rfl,Ad (P:=Try.prog) (n:=Try.f124.ntmps) rfl ?_⟩
 simp only[AL.rs,go_sem]
def Bf:Code:=Try.f124.body.getD .skip
def Ca:Code:=gC (ae (aA (ae (ae (ae (ae (ae (ae Bf))))))))
def lu:Code->Code
 |.rangeFunc _ _ a _=>a
 |x=>x
def fx:Code->Code
 |.rangeFunc _ _ _ b=>b
 |x=>x
theorem adX {k:Nat}{x:Ab×Int}:∀ {J:bT}{l:List (Ab×Int)},kp k J (l++[x])=(kp k J l).bind fun J=>pT k J x
 |J,[]=>by simp only[BV,kp,Av];cases pT k J x<;>rfl
 |J,y::l=>by
  simp only[A8,kp]
  cases pT k J y with
  |none=>rfl
  |some J'=>simp only[Av];exact adX
theorem adW {k:Nat}:∀ {J:bT}{l m:List (Ab×Int)}{Z:bT},kp k J (l++m)=some Z->∃ J',kp k J l=some J'
 |J,[],m,Z,h=>⟨J,rfl⟩
 |J,y::l,m,Z,h=>by
  simp only[A8,kp]at h ⊢
  obtain⟨J',h1,h2⟩:=bs h
  rw[h1]
  exact adW h2
def rH (k:Nat) (J0:bT) (pre:List (Ab×Int)):Aj:=jJ ((kp k J0 pre).getD J0)
def jK (a:Act) (D:Nat) (fn:FuncId) (s:LoopState) (p:Option Code):Loop:={ state:=s,pending:=p,fn,tmps:=a.tmps,params:=#[42,43],assign:=lu Ca,body:=fx Ca,defers:=D }
theorem ai7 [Md] {Q:Exit->Act->World->Prop}{N0:Nat}{W1:World}{fm:FM}{ts:List Ah}{a:Act}{w:World}{x:Ab×Int}{f:Aj}{J:bT} (hS:SR N0 W1 Try.f124.ntmps (uA x f J) a w fm ts)
  (hn:∀ a' w' fm' ts',SR N0 W1 Try.f124.ntmps (pR x f J) a' w' fm' ts'->AT N0 fm ts fm' ts'->Q .normal a' w'):(lu Ca).wpIn FW 0 Try.prog Q a w:=by
 refine(show K Try.prog Q ([.code (lu Ca)]++[]) .normal a w from ?_)
 refine AK.gR (Φ:=fun _ _=>False) (todo:=[.sc AL.oa]) hS (ai8 x f J _) (fun R hR=>.sc (by rfl) (by rfl) (.back hR .nil)) ?_ (fun _ _ _ _ _ _ h=>h.elim)
 intro al a' w' fm' ts' hw bZ hL
 obtain⟨dw,cE,h1,h2⟩:=hw _ _ _ _ _ _ bZ
 exact hn _ _ _ _ h1 (hL.trans h2)
theorem ai9 [Md] (k:Nat) {Q:Exit->Act->World->Prop}{N0:Nat}{W1:World}{fm:FM}{ts:List Ah}{a:Act}{w:World}{x:Ab×Int}{f:Aj}{J J':bT} (h0:pT k J x=some J') (hS:SR N0 W1 Try.f124.ntmps (pR x f J) a w fm ts)
  (hn:∀ a' w' fm' ts',SR N0 W1 Try.f124.ntmps (opN f J') a' w' fm' ts'->AT N0 fm ts fm' ts'->Q .normal a' w'):(fx Ca).wpIn FW 0 Try.prog Q a w:=by
 refine(show K Try.prog Q ([.code (fx Ca)]++[]) .normal a w from ?_)
 refine AK.gR (Φ:=fun _ _=>False) (todo:=[.sc AL.ob]) hS (aja k x f J J' h0 _) (fun R hR=>.sc (by rfl) (by rfl) (.back hR .nil)) ?_ (fun _ _ _ _ _ _ h=>h.elim)
 intro al a' w' fm' ts' hw bZ hL
 obtain⟨dw,cE,h1,h2⟩:=hw _ _ _ _ _ _ bZ
 exact hn _ _ _ _ h1 (hL.trans h2)
theorem mq {N0 l:Nat}{W:World}{o o':Obj} (hN:N0<=l) (h:W.heap[l]?=some o):Below N0 W (W.putObj l o'):=
 (Below.refl N0 W).grown (grownBy_putObj' W l o') (by have:=(BY.1 h).1;omega) (fun k e=>by cases e;omega)
theorem ajd (k:Nat) (J0:bT) (xs:List (Ab×Int)) (Z:bT) (hZ:kp k J0 xs=some Z) {N0:Nat}{W1:World}{l D:Nat}{fn:FuncId}{tc:Ah}{a:Act}{c9:Nat} (hN:N0<=l) (ao:a.tmps.size=Try.f124.ntmps)
  (hl:W1.heap[l]?=some (.loop (jK a D fn .ready none))) (h9:tc 1=some (.box c9)) (ha:a.tmps[9]?=some (.pointer (some ⟨c9,0,none⟩))):YC N0 W1 l tc (rH k J0) xs:=by
 intro pre x lP f fm ts w vs hr e8 aM
 obtain⟨suf,aie⟩:=lP
 obtain⟨J',hJ'⟩:=adW (l:=pre++[x]) (m:=suf) (by rw[aie];exact hZ)
 have hJ2:=hJ'
 rw[adX]at hJ2
 obtain⟨J,hJ,cw⟩:=bs hJ2
 have hlw:=hr.bj l _ hl rfl
 have eu:Try.f124.ntmps=63:=by rfl
 obtain⟨v0,v1,rfl⟩:∃ v0 v1,vs=[v0,v1]:=by
  have:=aM.1
  match vs,this with
  |[v0,v1],_=>exact⟨v0,v1,rfl⟩
 have hy:=run_yield (P:=Try.prog) (args:=#[v0,v1]) hlw (by rfl)
 refine⟨_,_,_,_,hy,?_⟩
 have hr':HR N0 W1 fm ts [f,jJ J] w:=by
  have h:=hr
  unfold rH at h
  rw[hJ]at h
  exact h
 have hSS:@SR ⟨some l,[],fun _=>none⟩ N0 W1 Try.f124.ntmps (uA x f J) { tmps:=(a.tmps.setIfInBounds 42 v0).setIfInBounds 43 v1,defers:=[] } w fm (cj::ts):=by
  refine @SR.mk ⟨some l,[],fun _=>none⟩ _ _ _ _ _ _ _ _ hr'.push ?_ (fun _ _=>rfl) (by simp[ao]) ⟨rfl,fun _ _ h=>by cases h⟩
  intro t y hy
  unfold uA at hy
  simp only[look]at hy
  split at hy
  ·subst_vars
   obtain rfl:=oi hy
   refine⟨_,by rw[Array.getElem?_setIfInBounds,if_neg (by decide),Array.getElem?_setIfInBounds,if_neg (by decide)];exact ha,.ptr 2 1 0 c9 ?_⟩
   have h1:=e8 0 1
   have h2:tb (ts.drop 1) 0 1=some (.box c9):=h1.box h9
   rw[dC]at h2
   exact h2
  ·split at hy
   ·subst_vars
    obtain rfl:=oi hy
    refine⟨v0,by rw[Array.getElem?_setIfInBounds,if_neg (by decide),Array.getElem?_setIfInBounds,if_pos rfl,if_pos (by rw[ao,eu];decide)],?_⟩
    have:=aM.2 0 _ v0 rfl rfl
    have h3:VR fm [] (.agg (Ab.c x.1)) v0:=(hr.oX (Am.one this) (ys:=[.agg (Ab.c x.1)]) (by simp only[AV.az,AV.ag,(aeU.pM x.1).ag,AQ])).2 0 _ _ rfl rfl
    exact h3.mono (AM.refl _) (Ak.nil _)
   ·split at hy
    ·subst_vars
     obtain rfl:=oi hy
     refine⟨v1,by rw[Array.getElem?_setIfInBounds,if_pos rfl,if_pos (by rw[Array.size_setIfInBounds,ao,eu];decide)],?_⟩
     have:=aM.2 1 _ v1 rfl rfl
     have h3:VR fm [] (.int .i64 x.2) v1:=(hr.oX (Am.one this) (ys:=[.int .i64 x.2]) rfl).2 0 _ _ rfl rfl
     exact h3.mono (AM.refl _) (Ak.nil _)
    ·cases hy
 refine roundIn_of_wpIn trivial ?_
 have aai:(((jK a D fn .ready none).params.zip #[v0,v1]).foldl (fun tmps (x:Tmp×Value)=>match x with|(t,a)=>tmps.setIfInBounds t a) (jK a D fn .ready none).tmps)=(a.tmps.setIfInBounds 42 v0).setIfInBounds 43 v1:=by
  simp[jK]
 rw[aai]
 refine @ai7 ⟨some l,[],fun _=>none⟩ _ _ _ _ _ _ _ x f J hSS ?_
 intro a1 w1 dv cn bE fy
 obtain⟨g1,g2,g3,g4,g5⟩:=bE
 have eY:=g1.bj l _ hl rfl
 refine⟨_,run_beginRound eY rfl,?_⟩
 have aaa:@SR ⟨some l,[],fun _=>none⟩ N0 (w1.putObj l (.loop { jK a D fn .ready none with state:=.busy })) Try.f124.ntmps (pR x f J) a1 (w1.putObj l (.loop { jK a D fn .ready none with state:=.busy })) dv cn:=
  @SR.mk ⟨some l,[],fun _=>none⟩ _ _ _ _ _ _ _ _ (g1.other eY rfl hN) g2 g3 g4 ⟨g5.1,fun _ _ h=>by cases h⟩
 refine @ai9 ⟨some l,[],fun _=>none⟩ k _ _ _ _ _ _ _ x f J J' cw aaa ?_
 intro a2 w2 dw cE cL bU
 obtain⟨k1,k2,k3,k4,k5⟩:=cL
 have ab:=(BY.1 eY).1
 have iT:=k1.bj l (.loop { jK a D fn .ready none with state:=.busy }) (World.putObj_heap_same ab) rfl
 refine⟨_,_,run_endRound none iT,rfl,dw,cE.drop 1,?_,fy.cC.trans bU.cC,?_,?_⟩
 ·have k6:=k1.other (o':=.loop { jK a D fn .ready none with state:=.ready,pending:=none }) iT rfl hN
  cases cE with
  |nil=>have:=k6.len;simp at this
  |cons t0 rest=>
   have k7:=k6.pop
   have lH:Below N0 W1 (w2.putObj l (.loop { jK a D fn .ready none with state:=.ready,pending:=none })):=
    ((g1.bJ.trans (mq hN eY)).trans k1.bJ).trans (mq hN iT)
   have ah9:∀ (b:Nat) (o:Obj),W1.heap[b]?=some o->m9 o=true->(w2.putObj l (.loop { jK a D fn .ready none with state:=.ready,pending:=none })).heap[b]?=some o:=by
    intro b o hb ho
    by_cases mK:b=l
    ·subst mK
     rw[hl]at hb
     obtain rfl:=oi hb
     exact World.putObj_heap_same (BY.1 iT).1
    ·rw[World.putObj_heap_other (by omega)]
     refine k1.bj b o ?_ ho
     rw[World.putObj_heap_other (by omega)]
     exact g1.bj b o hb ho
   have k8:HR N0 W1 dw rest [f,jJ J'] (w2.putObj l (.loop { jK a D fn .ready none with state:=.ready,pending:=none })):={ k7 with bJ:=lH,bj:=ah9 }
   unfold rH
   rw[hJ']
   exact k8
 ·have h:=fy.fu.trans bU.fu
  simpa using h
 ·intro l' k' h
  exact bU.no l' k' (fy.no l' k' (by simpa using h))
theorem abP (k:Nat) (d0:ar) (aJ:Int) (r:bT×Bool) (h0:sC k d0 aJ=some r):An Try.prog 124 [.aq 2 [ar.c d0] 0 0,.int .i64 aJ] (fun y=>y=.ak [.agg (bT.c r.1),.bool r.2]):=by
 refine⟨⟨Try.f124,by rfl,by rfl,by rfl⟩,fun fm w vs bl hv=>?_⟩
 have eu:Try.f124.ntmps=63:=by rfl
 refine callsIn_wide.1 (callsIn_of_wp_marks (F:=FW) (n:=0) (fn:=Try.f124) (c:=Bf) (by rfl) (by rfl) trivial ?_)
 have hS:=SR.enter (HR.nothing bl) (vs:=vs) (args:=[.aq 2 [ar.c d0] 0 0,.int .i64 aJ]) (n:=Try.f124.ntmps) ⟨hv.1,fun i x v p q=>(hv.2 i x v p q).mono (AM.refl _) (Ak.nil _)⟩ (by rw[eu];simp)
 have ahc:Bf=.seq (aA Bf) (.seq (aA (ae Bf)) (.seq (aA (ae (ae Bf))) (.seq (aA (ae (ae (ae Bf)))) (.seq (aA (ae (ae (ae (ae Bf))))) (.seq (aA (ae (ae (ae (ae (ae Bf)))))) (.seq (.seq (aA (aA (ae (ae (ae (ae (ae (ae Bf)))))))) (.block 0 Ca)) (ae (ae (ae (ae (ae (ae (ae Bf))))))))))))):=by rfl
 refine(show K Try.prog _ [.code Bf] .normal _ w from ?_)
 rw[ahc]
 refine B1 ?_
 refine BW (t:=[.code (aA (ae Bf)),.code (aA (ae (ae Bf))),.code (aA (ae (ae (ae Bf)))),.code (aA (ae (ae (ae (ae Bf))))),.code (aA (ae (ae (ae (ae (ae Bf)))))),.code (aA (aA (ae (ae (ae (ae (ae (ae Bf)))))))),.code (.block 0 Ca),.code (ae (ae (ae (ae (ae (ae (ae Bf)))))))])
  (fun e a w h=>BP _ _ _ (BW (fun e a w h=>BP _ _ _ (BW (fun e a w h=>BP _ _ _ (BW (fun e a w h=>BP _ _ _ (BW (fun e a w h=>BP _ _ _ (BW (fun e a w h=>BP _ _ _ (BP _ _ _ h)) _ _ _ h)) _ _ _ h)) _ _ _ h)) _ _ _ h)) _ _ _ h)) _ _ _ ?_
 refine AK.gR (cs:=[.code (aA Bf),.code (aA (ae Bf)),.code (aA (ae (ae Bf))),.code (aA (ae (ae (ae Bf)))),.code (aA (ae (ae (ae (ae Bf))))),.code (aA (ae (ae (ae (ae (ae Bf)))))),.code (aA (aA (ae (ae (ae (ae (ae (ae Bf))))))))])
  (t:=[.code (.block 0 Ca),.code (ae (ae (ae (ae (ae (ae (ae Bf)))))))]) (todo:=[.sc AL.o0,.sc AL.o1,.sc AL.o2,.sc AL.o3,.sc AL.o4,.sc AL.o5,.sc AL.o6]) hS (ajb k d0 aJ r h0)
  (fun R hR=>.sc (by rfl) (by rfl) (.sc (by rfl) (by rfl) (.sc (by rfl) (by rfl) (.sc (by rfl) (by rfl) (.sc (by rfl) (by rfl) (.sc (by rfl) (by rfl) (.sc (by rfl) (by rfl) (.back hR .nil)))))))) ?_ ?_
 rotate_left
 ·
  rintro e st a w2 dw cE ⟨rfl,rfl,hE⟩ cL bU
  refine CC ?_ _
  obtain⟨u,eM,h1,h2,h3,h4⟩:=zF (P:=Try.prog) As cL hE
  show LeavesInM FW 0 Try.prog Try.f124 a.tmps _ a.defers .returning w2
  rw[cL.cV.1]
  exact⟨u,h1,u,_,eM,rfl,rfl,h3,h2,bU.cC.trans h4,cL.hr.bJ⟩
 ·rintro p8 a0 w0 zJ ec ⟨e,x3,x4,xs,J,eA,hJ,rfl,hw⟩ pr po
  obtain⟨dv,cn,bE,fy⟩:=hw _ _ _ _ _ _ pr
  have zZ:=po.trans fy
  obtain⟨tc,rfl⟩:∃ tc,cn=[tc]:=by
   have:=bE.hr.len
   match cn,this with
   |[tc],_=>exact⟨tc,rfl⟩
  refine CB ?_
  have e2:Ca=.rangeFunc (.tmp 41) #[42,43] (lu Ca) (fx Ca):=by rfl
  rw[e2]
  refine(show (Code.rangeFunc (.tmp 41) #[42,43] (lu Ca) (fx Ca)).wpIn FW 0 Try.prog (K Try.prog _ [.aj 0,.code (ae (ae (ae (ae (ae (ae (ae Bf)))))))]) a0 w0 from ?_)
  refine wpIn_rangeFunc ?_
  intro fn _
  obtain⟨v41,wq,r41⟩:=bE.tm 41 (la d0 aJ) rfl
  obtain⟨p9,h9,r9⟩:=bE.tm 9 (.ptr 0 1 0) rfl
  obtain⟨c9,rfl,hc9⟩:∃ c9,p9=.pointer (some ⟨c9,0,none⟩)/\tc 1=some (.box c9):=by
   cases r9 with
   |ptr _ _ _ c h=>exact⟨c,rfl,h⟩
  obtain⟨vd,va,rfl,hd,ha⟩:∃ vd va,v41=.func (.func 153) #[] #[vd,va]/\VR dv [] (.aq 1 [[.aq 2 [ar.c d0] 0 0]] 0 0) vd/\VR dv [] (.aq 1 [[.int .i64 aJ]] 0 0) va:=by
   have hb:VR dv [] (la d0 aJ) v41:=(bE.hr.oX (Am.one r41) (ys:=[la d0 aJ]) (by simp only[la,AV.az,AV.ag])).2 0 _ _ rfl rfl
   unfold la at hb
   cases hb with
   |fn f first cap vf vc h1 h2 h3 h4=>
    have e1:vf=#[]:=Array.size_eq_zero_iff.1 (by simpa using h1.symm)
    obtain⟨l,rfl⟩:∃ l,vc=l.toArray:=⟨vc.toList,by simp⟩
    match l,h2,h4 with
    |[vd,va],h2,h4=>exact⟨vd,va,by rw[e1],h4 0 _ vd rfl rfl,h4 1 _ va rfl rfl⟩
  have s9:w.heap.size<=w0.heap.size:=bE.hr.size
  obtain⟨rec,pH⟩:∃ rec,rec=jK a0 w0.heap.size fn .ready none:=⟨_,rfl⟩
  obtain⟨W1,dQ⟩:∃ W1,W1=(w0.alloc (.deferred (some []))).alloc (.loop rec):=⟨_,rfl⟩
  have hl:W1.heap[w0.heap.size+1]?=some (.loop rec):=by
   rw[dQ];have:=World.alloc_heap_new (w0.alloc (.deferred (some []))) (.loop rec);rwa [World.size_alloc]at this
  have hD:W1.heap[w0.heap.size]?=some (.deferred (some [])):=by
   rw[dQ];exact(Below.heap_alloc _ _ _ (by simp)).trans (World.alloc_heap_new w0 _)
  have hr1:HR w.heap.size W1 dv [tc] [rH k (pS d0 aJ e) []] W1:=by
   rw[dQ];exact((bE.hr.alloc _).alloc _).aaY
  have hbW:Below w.heap.size w W1:=by
   rw[dQ];exact(bE.hr.bJ.alloc s9 _).alloc (by simp;omega) _
  have alh:a0.eval (.tmp 41)=.func (.func 153) #[] #[vd,va]:=by simp[Act.eval,Array.getD_eq_getD_getElem?,wq]
  refine⟨w0.heap.size+1,[{ target:=.collected w0.heap.size,args:=#[] }],W1,{ target:=.fn (.func 153) #[vd,va],args:=#[.func (.yield (w0.heap.size+1)) #[] #[]] },W1,153,
   #[.func (.yield (w0.heap.size+1)) #[] #[]]++#[vd,va],W1,?_,?_,?_,?_,(fun h=>by simp[FW]at h),?_⟩
  ·rw[dQ,pH];exact run_enterLoop_outer _ _ _ _ _
  ·simp[resolve,Deferred.ofValue,Act.eval,wq]
  ·intro f' rj;trivial
  ·simp[invoke,callFunc];rfl
  refine callsIn_wide.2 ?_
  refine(aiz k d0 aJ xs eA (ajd k (pS d0 aJ e) xs J hJ (by omega) bE.size (by rw[hl,pH]) hc9 h9) hr1 hd ha).mono ?_
  rintro e3 w3 ⟨⟨v,rfl⟩,eM,fv,pG,adw,aij,ah7⟩
  have td:w.heap.size<=w0.heap.size+1:=by omega
  have tE:=pG.bj _ _ hl rfl
  refine⟨_,_,run_endLoop tE (by rw[pH];simp[jK]),?_⟩
  have tW:=pG.other (o':=.loop { rec with state:=.exhausted }) tE rfl td
  have hC:rH k (pS d0 aJ e) xs=jJ J:=by unfold rH;rw[hJ];rfl
  rw[hC]at tW
  have hD4:(w3.putObj (w0.heap.size+1) (.loop { rec with state:=.exhausted })).heap[w0.heap.size]?=some (.deferred (some [])):=by
   rw[World.putObj_heap_other (by omega)];exact pG.bj _ _ hD rfl
  have hb4:Below w.heap.size w3 (w3.putObj (w0.heap.size+1) (.loop { rec with state:=.exhausted })):=mq td tE
  generalize hw4:w3.putObj (w0.heap.size+1) (.loop { rec with state:=.exhausted })=w4 at tW hD4 hb4 ⊢
  have aao:rec.pending=none:=by rw[pH];rfl
  rw[aao]
  refine(show K Try.prog _ [.code (ae (ae (ae (ae (ae (ae (ae Bf)))))))] .normal _ w4 from ?_)
  have hSR:@SR ⟨none,[{ target:=.collected w0.heap.size,args:=#[] }],fun _=>none⟩ w.heap.size w4 Try.f124.ntmps (xQ J (m8 x3 x4)) { a0 with defers:=[{ target:=.collected w0.heap.size,args:=#[] }]++a0.defers } w4 eM fv:=by
   have mM:=bE.cV.1
   refine @SR.mk ⟨none,[{ target:=.collected w0.heap.size,args:=#[] }],fun _=>none⟩ _ _ _ _ _ _ _ _ tW ?_ (fun k hk=>ah7 0 k (bE.nx k hk)) bE.size ?_
   ·intro t x hx
    have eO:look (adV d0 aJ e (m8 x3 x4)).tm t=some x:=uu (a:=(xQ J (m8 x3 x4)).tm) [(41,la d0 aJ)] hx
    obtain⟨u,h1,h2⟩:=bE.tm t x eO
    exact⟨u,h1,h2.mono adw.le aij⟩
   ·refine⟨?_,fun _ _ h=>by cases h⟩
    show [_]++a0.defers=_
    rw[mM];rfl
  rw[D6 gu ⟨none,[{ target:=.collected w0.heap.size,args:=#[] }],fun _=>none⟩ rfl]
  refine @AK.last ⟨none,[{ target:=.collected w0.heap.size,args:=#[] }],fun _=>none⟩ _ _ _ _ _ _ _ _ _ _ (fun e st=>e=.ret/\Cv T Try.f124.results.toList (fun y=>NL y (.ak [.agg (bT.c J),.bool (decide (J.records>=m8 x3 x4))])) .ret st) _ AL.o7 hSR
   (@ajc ⟨none,[{ target:=.collected w0.heap.size,args:=#[] }],fun _=>none⟩ J (m8 x3 x4)) (by rfl) (by rfl) ?_
  rintro e5 st5 a5 w5 mG nq ⟨rfl,hE⟩ jr pq
  obtain⟨s1,s2,s3,s4,s5⟩:=jr
  have s5':a5.defers=[{ target:=.collected w0.heap.size,args:=#[] }]:=s5.1
  have zW:=s1.bj _ _ hD4 rfl
  show LeavesInM FW 0 Try.prog Try.f124 a5.tmps _ a5.defers .returning w5
  rw[s5']
  refine⟨by simp,.inl ⟨w0.heap.size,_,rfl,run_takeDeferred zW,?_⟩⟩
  have jt:@SR gu w.heap.size (w5.putObj w0.heap.size (.deferred none)) Try.f124.ntmps st5 { a5 with defers:=[] } (w5.putObj w0.heap.size (.deferred none)) mG nq:=@SR.mk gu _ _ _ _ _ _ _ _ (s1.other zW rfl s9) s2 s3 s4 ⟨rfl,fun _ _ h=>by cases h⟩
  obtain⟨u,sS,h1,h2,h3,h4⟩:=zF (P:=Try.prog) As jt hE
  exact⟨u,h1,u,_,sS,rfl,rfl,h3,h2,((zZ.cC.trans adw).trans pq.cC).trans h4,(((hbW.trans pG.bJ).trans hb4).trans s1.bJ).trans (mq s9 zW)⟩
def Fw.c:SC:=
 SQ [RG [wA 2 145,wB 3 false 4 [3]],RG [wV 9 0 130,wC 10 124 #[.tmp 9,.const (.int .i64 0)] #[130,3] 146 [9],wV 8 10 146 [10],wX 11 8 0 145,wX 12 8 1 4 [8],wA 4 145,wS 145 4 11 [11],wG 5 12 4 [12]],RG [wV 14 0 130 [0],wC 15 124 #[.tmp 14,.const (.int .i64 1)] #[130,3] 146 [14],wV 13 15 146 [15],wX 16 13 0 145,wX 17 13 1 4 [13],wA 6 145,wS 145 6 16 [16],wG 7 17 4 [17]],SQ [RG [wV 18 7 4 [7],
 wV 19 18 4 [18],gd 19 true (wV 20 5 4),gd 19 true (wQ 21 20 4 [20]),gd 19 true (wV 22 21 4 [21]),gd 22 false (wF 23 145 6 2),gd 22 false (wD 24 3 23 [23]),gd 22 false (wF 25 145 4 2),gd 22 false (wD 26 3 25 [25]),gd 22 false (wO 27 .gtr 3 24 26 3 4 [24,26]),gd 19 true (wT 28 22 27 4 [22,27]),wZ 29 19 28 4 [19,28]],CN 29 (SQ [RG [wD 30 145 6 [6],wS 145 2 30 [30],wB 3 true 4],.ret]) .skip],
 RG [wD 31 145 4 [4],wV 32 5 4 [5],wS 145 2 31 [31],wG 3 32 4 [32]],.ret]
def vO (k:Nat) (d0:ar):Option (bT×Bool):=
 (sC k d0 0).bind fun x1=>
 (sC k d0 1).bind fun x2=>
 bif x2.2 then
  bif x1.2 then
   bif decide (x1.1.we<x2.1.we) then
    some (x2.1,true)
   else
    some (x1.1,true)
  else
   some (x2.1,true)
 else
  some (x1.1,x1.2)
theorem abO (k:Nat) (d0:ar) (r:bT×Bool) (h0:vO k d0=some r):An Try.prog 80 [.aq 2 [ar.c d0] 0 0] (fun y=>y=.ak [.agg (bT.c r.1),.bool r.2]):=by
 refine PB Try.f80 Fw.c [.cell 2 145,.tmp 3] ?_
 simp only[vO]at h0
 try simp only[Fw.c,go_sem]
 refine ay h0 (abP k _ _) ?_ (fun x1 h0=>?_)<;>try simp only[go_sem]
 refine ay h0 (abP k _ _) ?_ (fun x2 h0=>?_)<;>try simp only[go_sem]
 refine AO h0 ?_ ?_<;>intro c3 h0<;>have F:=c3<;>try simp only[F,go_sem]
 refine AF F h0 ?_ ?_<;>intro F h0<;>try simp only[F,go_sem]
 refine AF F h0 ?_ ?_<;>intro F h0<;>try simp only[F,go_sem]
 obtain rfl:=oi h0
 refine Ad rfl ?_
 try simp only[F,go_sem]
 obtain rfl:=oi h0
 refine Ad rfl ?_
 try simp only[F,go_sem]
 obtain rfl:=oi h0
 refine Ad rfl ?_
 try simp only[F,go_sem]
 obtain rfl:=oi h0
 refine Ad rfl ?_
 try simp only[F,go_sem]
def Dy.s0:SC:=
 SQ [RG [wO 14 .lss 3 13 12 3 0],CN 14 .skip (.exit 0),.block 1 (SQ [RG [wV 15 13 3,wG 5 15 3 [15]],.bB [wV 16 0 44,wV 17 5 3,wI 18 44 16 17,wD 19 25 18,wV 20 1 44,wV 21 5 3,wI 22 44 20 21,wD 23 25 22,wO 24 .neq 25 19 23 25 4] [[],[],[0,1],[0,1,2],[],[],[4,5],[4,5,6],[0,1,2,3,4,5,6,7]] [5,16,17,18,19,20,21,22,23],CN 24 (SQ [RG [wB 4 false 4],.ret]) .skip]),RG [wK 25 .add 3 13 1 3 3 [13],
 wV 13 25 3 [25]]]
def Dy.c:SC:=
 SQ [RG [wB 4 false 4 [4]],SQ [RG [wV 6 0 44,wL 7 6 44 3 [6],wV 8 1 44,wL 9 8 44 3 [8],wO 10 .neq 3 7 9 3 4 [7,9]],CN 10 (SQ [RG [wB 4 false 4],.ret]) .skip],SQ [RG [wV 11 0 44,wL 12 11 44 3 [11],oQ 13 (.move (.const (.int .i64 0))) 3],.block 0 (.loop Dy.s0)],RG [wB 4 true 4],.ret]
def iE.b0 (k:Nat) (fc:(List Ab)) (mc:(List Ab)):Int->Option (AW (Int) (Unit) (Bool)):=fun i2=>
 bif decide (i2<(fc.length:Int)) then
  (at? fc i2).bind fun x4=>
  (at? mc i2).bind fun x5=>
  bif (!(decide (x4.At.Ag=x5.At.Ag)&&(decide (x4.At.No=x5.At.No)&&(decide (x4.Kind=x5.Kind)&&(decide (x4.Day=x5.Day)&&(decide (x4.AI=x5.AI)&&(decide (x4.Of.Ag=x5.Of.Ag)&&(decide (x4.Of.No=x5.Of.No)&&(x4.Text.toList==x5.Text.toList))))))))) then
   some (.ret false)
  else
   some (.next (af (i2+1)))
 else
  some (.brk ())
def iE.h0 (fc:(List Ab)) (mc:(List Ab)):Int->St:=fun i2=>⟨[(0,.sl 8 (List.map Ab.c fc)),(1,.sl 8 (List.map Ab.c mc)),(12,.int .i64 (fc.length:Int)),(13,.int .i64 i2)],[],[],1,Try.f81.ntmps⟩
def iE.x0:Unit->St:=fun _=>⟨[],[],[],1,Try.f81.ntmps⟩
def iE (k:Nat) (fc:(List Ab)) (mc:(List Ab)):Option (Bool):=
 bif (!decide ((fc.length:Int)=(mc.length:Int))) then
  some false
 else
  (aB (iE.b0 k fc mc) k 0).bind fun r7=>match r7 with
  |.next _=>none
  |.ret v_=>some v_
  |.brk _=>
   some true
theorem aj3 (k:Nat) (fc:(List Ab)) (mc:(List Ab)) (r:Bool) (h0:iE k fc mc=some r):An Try.prog 81 [.sl 8 (List.map Ab.c fc),.sl 8 (List.map Ab.c mc)] (fun y=>y=.bool r):=by
 refine PB Try.f81 Dy.c [.tmp 4] ?_
 simp only[iE]at h0
 try simp only[Dy.c,go_sem]
 refine BJ h0 ?_ ?_<;>intro c1 h0<;>have F:=c1<;>try simp only[F,go_sem]
 obtain rfl:=oi h0
 refine Ad rfl ?_
 try simp only[F,go_sem]
 obtain⟨r7,qs,h0⟩:=bs h0
 refine Bc qs (iE.h0 fc mc) (iE.x0) ?_ ?_ ?_
 refine Ae.go [0,1,12,13] [] rfl ?_
 try simp only[iE.h0,F,go_sem]
 rintro i2 dU Bq Bs h1 aS aY bM
 refine rS ?_
 simp only[iE.b0]at h1
 try simp only[Dy.s0,iE.h0,F,go_sem]
 refine AF F h1 ?_ ?_<;>intro F h1<;>try simp only[F,go_sem]
 refine A1 As bY 1000 ?_
 try simp only[F,go_sem]
 obtain⟨x4,cq,h1⟩:=bs h1
 have F:=an (aG cq) (an (aF Ab.c cq) F)
 try simp only[F,go_sem]
 obtain⟨x5,cK,h1⟩:=bs h1
 have F:=an (aG cK) (an (aF Ab.c cK) F)
 try simp only[F,go_sem]
 refine aT ?_
 try simp only[F,go_sem]
 refine Bd F h1 ?_ ?_<;>intro F h1<;>try simp only[F,go_sem]
 obtain rfl:=bM _ (oi h1).symm
 simp only at h0
 obtain rfl:=oi h0
 refine Ad rfl ?_
 try simp only[F,go_sem]
 refine Aq (aS _ _ (oi h1).symm (Ae.go [0,1,12,13] [] rfl ?_))
 try simp only[iE.h0,F,go_sem]
 refine Aq (aY _ _ (oi h1).symm (Ae.go [] [] rfl ?_))
 try simp only[iE.x0,F,go_sem]
 rintro _ aQ
 subst aQ
 simp only at h0
 refine rS ?_
 try simp only[iE.x0,F,go_sem]
 obtain rfl:=oi h0
 refine Ad rfl ?_
 try simp only[F,go_sem]
def Dz.s0:SC:=
 SQ [SQ [RG [wV 10 8 3,wK 11 .lss 3 10 602 3 4 [10]],CN 11 .skip (.exit 0)],.block 1 (RG [wV 14 7 3 [7],wV 15 0 130,wV 16 1 3,wV 17 8 3,wC 18 125 #[.tmp 15,.tmp 16,.tmp 17] #[130,3,3] 126 [15,16,17],wU 19 126 18 126 3 [18],oQ 20 (.call ⟨.builtin .max,#[.tmp 14,.tmp 19],#[3,3]⟩) 3 [14,19],wG 7 20 3 [20]]),RG [wV 12 8 3 [8],wK 13 .add 3 12 1 3 3 [12],wG 8 13 3 [13]]]
def Dz.c:SC:=
 SQ [RG [wN 6 0 3 [6]],RG [wN 7 0 3],SQ [RG [wV 9 2 3 [2],wG 8 9 3 [9]],.block 0 (.loop Dz.s0)],RG [wV 21 7 3 [7],wG 6 21 3 [21]],.ret]
def fw.b0 (k:Nat) (d0:ar) (aJ:Int):(Int×Int)->Option (AW (Int×Int) (Int) (Int)):=fun s=>match s with
 |(i1,i2)=>
   bif decide (i2<(602:Int)) then
    (mu k d0 aJ i2).bind fun x5=>
    (oZ k x5).bind fun x6=>
    some (.next (max i1 x6,af (i2+1)))
   else
    some (.brk i1)
def fw.h0 (d0:ar) (aJ:Int):(Int×Int)->St:=fun s=>match s with
 |(i1,i2)=>⟨[(0,.aq 2 [ar.c d0] 0 0),(1,.int .i64 aJ),(7,.int .i64 i1),(8,.int .i64 i2)],[],[],1,Try.f82.ntmps⟩
def fw.x0:Int->St:=fun i3=>⟨[(7,.int .i64 i3)],[],[],1,Try.f82.ntmps⟩
def fw (k:Nat) (d0:ar) (aJ:Int) (bc:Int):Option (Int):=
 (aB (fw.b0 k d0 aJ) k (0,bc)).bind fun r7=>match r7 with
 |.next _=>none
 |.ret v_=>some v_
 |.brk i3=>
  some i3
theorem sB (k:Nat) (d0:ar) (aJ:Int) (bc:Int) (r:Int) (h0:fw k d0 aJ bc=some r):An Try.prog 82 [.aq 2 [ar.c d0] 0 0,.int .i64 aJ,.int .i64 bc] (fun y=>y=.int .i64 r):=by
 refine PB Try.f82 Dz.c [.tmp 6] ?_
 simp only[fw]at h0
 try simp only[Dz.c,go_sem]
 obtain⟨r7,qs,h0⟩:=bs h0
 refine Bc qs (fw.h0 d0 aJ) (fw.x0) ?_ ?_ ?_
 refine Ae.go [0,1,7,8] [] rfl ?_
 try simp only[fw.h0,go_sem]
 rintro⟨i1,i2⟩ dU Bq Bs h1 aS aY bM
 refine rS ?_
 simp only[fw.b0]at h1
 try simp only[Dz.s0,fw.h0,go_sem]
 refine AO h1 ?_ ?_<;>intro c4 h1<;>have F:=c4<;>try simp only[F,go_sem]
 refine ay h1 (qD k _ _ _) ?_ (fun x5 h1=>?_)<;>try simp only[F,go_sem]
 refine ay h1 (vP k _) ?_ (fun x6 h1=>?_)<;>try simp only[F,go_sem]
 refine Aq (aS _ _ (oi h1).symm (Ae.go [0,1,7,8] [] rfl ?_))
 try simp only[fw.h0,F,go_sem]
 refine Aq (aY _ _ (oi h1).symm (Ae.go [7] [] rfl ?_))
 try simp only[fw.x0,F,go_sem]
 rintro i3 aQ
 subst aQ
 simp only at h0
 refine rS ?_
 try simp only[fw.x0,go_sem]
 obtain rfl:=oi h0
 refine Ad rfl ?_
 try simp only[go_sem]
def Fb.c:SC:=
 SQ [RG [wE 2 42 0 [0],wE 3 48 1 [1],wN 4 0 28 [4]],SQ [RG [wD 8 42 2,wU 9 78 8 42 4 [8],wQ 10 9 4 [9]],CN 10 (SQ [RG [wN 4 94 28],.ret]) .skip],RG [wD 11 42 2 [2],wU 12 72 11 42 130 [11],wU 13 79 12 130 130 [12],wG 5 13 130 [13]],RG [wV 15 5 130,wU 16 80 15 130 146 [15],wV 14 16 146 [16],wX 17 14 0 145,wX 18 14 1 4 [14],wA 6 145,wS 145 6 17 [17],wG 7 18 4 [18]],SQ [RG [wV 19 7 4 [7],
 wQ 20 19 4 [19],wV 21 20 4 [20],gd 21 false (wF 22 48 3 1),gd 21 false (wD 23 3 22 [22]),gd 21 false (wF 24 145 6 1),gd 21 false (wD 25 3 24 [24]),gd 21 false (wO 26 .neq 3 23 25 3 4 [23,25]),wT 27 21 26 4 [21,26],wV 28 27 4 [27],gd 28 false (wF 29 48 3 3),gd 28 false (wD 30 3 29 [29]),gd 28 false (wF 31 145 6 3),gd 28 false (wD 32 3 31 [31]),gd 28 false (wO 33 .neq 3 30 32 3 4 [30,32]),
 wT 34 28 33 4 [28,33],wV 35 34 4 [34],gd 35 false (wF 36 48 3 0),gd 35 false (wF 37 46 36 0 [36]),gd 35 false (wD 38 44 37 [37]),gd 35 false (wF 39 145 6 4),gd 35 false (wF 40 46 39 0 [39]),gd 35 false (wD 41 44 40 [40]),gd 35 false (wW 42 81 38 41 44 44 4 [38,41]),gd 35 false (wQ 43 42 4 [42]),wT 44 35 43 4 [35,43],wV 45 44 4 [44],gd 45 false (wF 46 48 3 2),gd 45 false (wD 47 3 46 [46]),
 gd 45 false (wC 48 65 #[.tmp 47,.const (.int .i64 1),.const (.int .i64 1000000)] #[3,3,3] 4 [47]),gd 45 false (wQ 49 48 4 [48]),wT 50 45 49 4 [45,49]],CN 50 (SQ [RG [wN 4 94 28],.ret]) .skip],SQ [.bB [wF 51 48 3 2,wD 52 3 51,wV 53 5 130,wC 54 82 #[.tmp 53,.const (.int .i64 0),.const (.int .i64 0)] #[130,3,3] 3,wV 55 5 130,wC 56 82 #[.tmp 55,.const (.int .i64 1),.const (.int .i64 0)] #[130,3,
 3] 3,oQ 57 (.call ⟨.builtin .max,#[.tmp 54,.tmp 56],#[3,3]⟩) 3,wO 58 .lss 3 52 57 3 4,wV 59 58 4,gd 59 false (wF 60 48 3 2),gd 59 false (wD 61 3 60),gd 59 false (wV 62 5 130),gd 59 false (wF 63 145 6 1),gd 59 false (wD 64 3 63),gd 59 false (wF 65 145 6 3),gd 59 false (wD 66 3 65),gd 59 false (wC 67 82 #[.tmp 62,.tmp 64,.tmp 66] #[130,3,3] 3),gd 59 false (wO 68 .leq 3 61 67 3 4),wT 69 59 68 4] [[],
 [0],[],[2],[],[4,2,3],[2,3,4,5],[0,1,2,3,4,5,6],[0,1,2,3,4,5,6,7],[0,1,2,3,4,5,6,7,8],[0,1,2,3,4,5,6,7,8,9],[0,1,2,3,4,5,6,7,8],[0,1,2,3,4,5,6,7,8],[0,1,2,3,4,5,6,7,8,12],[0,1,2,3,4,5,6,7,8],[0,1,2,3,4,5,6,7,8,14],[0,1,2,3,4,5,6,7,8,11,12,13,14,15],[0,1,2,3,4,5,6,7,8,9,10,11,12,13,14,15,16],[0,1,2,3,4,5,6,7,8,9,10,11,12,13,14,15,16,17]] [3,5,6,51,52,53,54,55,56,57,58,59,60,61,62,63,64,65,66,67,
 68],CN 69 (SQ [RG [wN 4 94 28],.ret]) .skip],RG [wN 4 0 28],.ret]
def yV (k:Nat) (d0:Af) (l1:A9):Option (Int):=
 (sD k d0).bind fun x1=>
 bif (!x1) then
  some 94
 else
  (oY k d0).bind fun x4=>
  (gf k x4).bind fun x6=>
  (vO k (⟨(⟨x6.Af.AJ,[]⟩:Af)⟩:ar)).bind fun x7=>
  bif x7.2 then
   bif decide (l1.Da=x7.1.aO) then
    bif decide (l1.Used=x7.1.used) then
     (iE k l1.Al.Ac x7.1.book.Ac).bind fun ed=>
     bif ed then
      (iP k l1.Cl 1 1000000).bind fun me=>
      bif (!me) then
       some 94
      else
       (fw k (⟨(⟨x6.Af.AJ,[]⟩:Af)⟩:ar) 0 0).bind fun eT=>
       (fw k (⟨(⟨x6.Af.AJ,[]⟩:Af)⟩:ar) 1 0).bind fun gU=>
       bif (!decide (l1.Cl<max eT gU)) then
        (fw k (⟨(⟨x6.Af.AJ,[]⟩:Af)⟩:ar) x7.1.aO x7.1.used).bind fun x18=>
        bif decide (l1.Cl<=x18) then
         some 94
        else
         some 0
       else
        some 94
     else
      some 94
    else
     some 94
   else
    some 94
  else
   some 94
theorem agi (k:Nat) (d0:Af) (l1:A9) (r:Int) (h0:yV k d0 l1=some r):An Try.prog 24 [.agg (Af.c d0),.agg (A9.c l1)] (fun y=>y=.int .i64 r):=by
 refine PB Try.f24 Fb.c [.tmp 4] ?_
 simp only[yV]at h0
 try simp only[Fb.c,go_sem]
 refine ay h0 (y4 k _) ?_ (fun x1 h0=>?_)<;>try simp only[go_sem]
 refine BJ h0 ?_ ?_<;>intro c2 h0<;>have F:=c2<;>try simp only[F,go_sem]
 obtain rfl:=oi h0
 refine Ad rfl ?_
 try simp only[F,go_sem]
 obtain⟨x4,cq,h0⟩:=bs h0
 refine CP As 1000 [] [] (sA k _ _ cq) ?_ rfl ?_
 try simp only[j3,F,go_sem]
 try simp only[F,go_sem]
 obtain⟨x6,cO,h0⟩:=bs h0
 refine DU [3,10] [112,113,114,16] 4 rfl ?_
 try simp only[F,go_sem]
 refine DT (y3 k _ _ cO) ?_ ?_
 try simp only[F,go_sem]
 try simp only[List.take_succ_cons,List.drop_succ_cons,Ay,AE,F,go_sem]
 refine AK.qk (Ae.fz 1 rfl (fun _ h=>by cases h)) ?_
 try simp only[F,go_sem]
 refine AK.adN 0 1 65 rfl rfl ?_
 try simp only[F,go_sem]
 refine AK.qk (Ae.fz 0 rfl (fun _ h=>by cases h;rfl)) ?_
 try simp only[F,go_sem]
 refine rS ?_
 try simp only[F,go_sem]
 refine ay h0 (abO k _) ?_ (fun x7 h0=>?_)<;>try simp only[F,go_sem]
 refine AF F h0 ?_ ?_<;>intro F h0<;>try simp only[F,go_sem]
 refine AF F h0 ?_ ?_<;>intro F h0<;>try simp only[F,go_sem]
 refine AF F h0 ?_ ?_<;>intro F h0<;>try simp only[F,go_sem]
 refine ay h0 (aj3 k _ _) ?_ (fun ed h0=>?_)<;>try simp only[F,go_sem]
 refine AF F h0 ?_ ?_<;>intro F h0<;>try simp only[F,go_sem]
 refine ay h0 (lq k _ _ _) ?_ (fun me h0=>?_)<;>try simp only[F,go_sem]
 refine Bd F h0 ?_ ?_<;>intro F h0<;>try simp only[F,go_sem]
 obtain rfl:=oi h0
 refine Ad rfl ?_
 try simp only[F,go_sem]
 refine A1 As bY 1000 ?_
 try simp only[F,go_sem]
 refine eJ h0 (sB k _ _ _) ?_ (fun eT h0=>?_)<;>try simp only[F,go_sem]
 refine eJ h0 (sB k _ _ _) ?_ (fun gU h0=>?_)<;>try simp only[F,go_sem]
 refine ET F h0 ?_ ?_<;>intro F h0<;>try simp only[F,go_sem]
 refine eJ h0 (sB k _ _ _) ?_ (fun x18 h0=>?_)<;>try simp only[F,go_sem]
 refine aT ?_
 try simp only[F,go_sem]
 refine AF F h0 ?_ ?_<;>intro F h0<;>try simp only[F,go_sem]
 obtain rfl:=oi h0
 refine Ad rfl ?_
 try simp only[F,go_sem]
 obtain rfl:=oi h0
 refine Ad rfl ?_
 try simp only[F,go_sem]
 refine aT ?_
 try simp only[F,go_sem]
 obtain rfl:=oi h0
 refine Ad rfl ?_
 try simp only[F,go_sem]
 obtain rfl:=oi h0
 refine Ad rfl ?_
 try simp only[F,go_sem]
 obtain rfl:=oi h0
 refine Ad rfl ?_
 try simp only[F,go_sem]
 obtain rfl:=oi h0
 refine Ad rfl ?_
 try simp only[F,go_sem]
 obtain rfl:=oi h0
 refine Ad rfl ?_
 try simp only[F,go_sem]
def Fu.c:SC:=
 SQ [RG [wE 1 48 0 [0],wA 2 48],RG [wF 3 48 1 0,wD 4 46 3 [3],wU 5 96 4 46 46 [4],wF 6 48 1 0,wS 46 6 5 [5,6]],RG [wD 7 48 1 [1],wS 48 2 7 [7]],.ret]
def y2 (k:Nat) (l0:A9):Option (A9):=
 (qC k l0.Al).bind fun x1=>
 some (⟨x1,l0.Da,l0.Cl,l0.Used⟩:A9)
theorem agp (k:Nat) (l0:A9) (r:A9) (h0:y2 k l0=some r):An Try.prog 73 [.agg (A9.c l0)] (fun y=>y=.agg (A9.c r)):=by
 refine PB Try.f73 Fu.c [.cell 2 48] ?_
 simp only[y2]at h0
 try simp only[Fu.c,go_sem]
 refine ay h0 (abM k _) ?_ (fun x1 h0=>?_)<;>try simp only[go_sem]
 obtain rfl:=oi h0
 refine Ad rfl ?_
 try simp only[go_sem]
def Cm.s1:SC:=
 .block 3 (SQ [RG [wV 37 2 3,wV 38 9 3,wO 39 .add 3 37 38 3 3 [37,38],wK 40 .rem 3 39 2 3 3 [39],wV 41 3 124,wV 42 9 3,wI 43 124 41 42 [41,42],wD 44 126 43 [43],wI 45 139 11 40 [40],wS 122 45 44 [44,45]],RG [wV 46 9 3 [9],wK 47 .add 3 46 1 3 3 [46],wG 9 47 3 [47]],RG [wV 48 9 3,wV 49 3 124,wL 50 49 124 3 [49],wO 51 .eql 3 48 50 3 4 [48,50],wV 52 51 4 [51],gd 52 false (wV 53 2 3),
 gd 52 false (wV 54 9 3),gd 52 false (wO 55 .add 3 53 54 3 3 [53,54]),gd 52 false (wK 56 .rem 3 55 2 3 3 [55]),gd 52 false (wK 57 .eql 3 56 0 3 4 [56]),wT 58 52 57 4 [52,57]],CN 58 (.exit 2) .skip])
def Cm.s0:SC:=
 SQ [SQ [RG [wV 18 9 3,wV 19 3 124,wL 20 19 124 3 [19],wO 21 .lss 3 18 20 3 4 [18,20]],CN 21 .skip (.exit 0)],.block 1 (SQ [RG [wV 22 1 3,wK 23 .mul 3 22 301 3 3 [22],wV 24 2 3,wV 25 9 3,wO 26 .add 3 24 25 3 3 [24,25],wK 27 .quo 3 26 2 3 3 [26],wO 28 .add 3 23 27 3 3 [23,27],wG 10 28 3 [28]],RG [wV 29 8 130,oQ 30 (.nilCheck (.tmp 29)) 0 [29],wF 31 134 30 0 [30],wF 32 42 31 0 [31],wD 33 39 32 [32],
 wV 34 10 3,wI 35 39 33 34 [33,34],wD 36 139 35 [35],wA 11 139,wS 139 11 36 [36]],.block 2 (.loop Cm.s1),.bB [wV 59 0 130,wV 60 0 130,oQ 61 (.nilCheck (.tmp 60)) 0,wF 62 134 61 0,wF 63 42 62 1,wD 64 40 63,wV 65 10 3,wD 66 139 11,oQ 67 (.build 141 #[(0,.tmp 65),(1,.tmp 66)]) 141,oQ 68 (.buildSlice 40 1 #[(0,.tmp 67)]) 40,wP 69 64 68 40 40 40,oQ 70 (.nilCheck (.tmp 59)) 0,wF 71 134 70 0,
 wF 72 42 71 1,wS 40 72 69] [[],[],[1],[1,2],[1,2,3],[1,2,3,4],[],[],[6,7],[6,7,8],[1,2,3,4,5,6,7,8,9],[0,1,2,3,4,5,6,7,8,9,10],[0,1,2,3,4,5,6,7,8,9,10,11],[0,1,2,3,4,5,6,7,8,9,10,11,12],[0,1,2,3,4,5,6,7,8,9,10,11,12,13]] [10,11,59,60,61,62,63,64,65,66,67,68,69,70,71,72]])]
def Cm.c:SC:=
 SQ [RG [wV 12 0 130,oQ 13 (.nilCheck (.tmp 12)) 0 [12],wF 14 134 13 0 [13],wD 15 42 14 [14],wU 16 72 15 42 130 [15],wU 17 79 16 130 130 [16],wG 8 17 130 [17]],RG [wN 9 0 3],.block 0 (.loop Cm.s0)]
theorem Cm.rs:Try.f74.results.toList=[]:=rfl
def dq.b1 (k:Nat) (bc:Int) (l3:(List (Aa 32 Int))):((Aa 2 (Aa 32 Int))×Int)->Option (AW ((Aa 2 (Aa 32 Int))×Int) ((Aa 2 (Aa 32 Int))×Int) (ar)):=fun s=>match s with
 |(fc,i11)=>
   (at? l3 i11).bind fun bO=>
   (fc.at? (Int.tmod (af (bc+i11)) 2)).bind fun eT=>
   bif (!decide (af (i11+1)=(l3.length:Int))) then
    bif decide (Int.tmod (af (bc+(af (i11+1)))) 2=(0:Int)) then
     some (.brk (fc.set (Int.tmod (af (bc+i11)) 2) bO,af (i11+1)))
    else
     some (.next (fc.set (Int.tmod (af (bc+i11)) 2) bO,af (i11+1)))
   else
    some (.brk (fc.set (Int.tmod (af (bc+i11)) 2) bO,af (i11+1)))
def dq.b0 (k:Nat) (aJ:Int) (bc:Int) (l3:(List (Aa 32 Int))) (x4:ar):(Int×(List Au))->Option (AW (Int×(List Au)) ((List Au)) (ar)):=fun s=>match s with
 |(i5,l6)=>
   bif decide (i5<(l3.length:Int)) then
    (at? x4.Af.AJ (af ((af (aJ*301))+(af (Int.tdiv (af (bc+i5)) 2))))).bind fun x9=>
    (aB (dq.b1 k bc l3) k (x9,i5)).bind fun uN=>match uN with
    |.next _=>none
    |.ret v_=>some (.ret v_)
    |.brk (ya,i13)=>
     (iC 72 l6 (⟨af ((af (aJ*301))+(af (Int.tdiv (af (bc+i5)) 2))),ya⟩:Au)).bind fun um=>
     some (.next (i13,um))
   else
    some (.brk l6)
def dq.h1 (f1:Aj) (H:Heap) (d0:ar) (aJ:Int) (bc:Int) (l3:(List (Aa 32 Int))) (x4:ar) (i5:Int) (l6:(List Au)):((Aa 2 (Aa 32 Int))×Int)->St:=fun s=>match s with
 |(fc,i11)=>⟨[(0,.ptr 1 0 0),(1,.int .i64 aJ),(2,.int .i64 bc),(3,.sl 32 (List.map (Aa.c (n:=32) ah) l3)),(8,.ptr 0 0 0),(9,.int .i64 i11),(10,.int .i64 (af ((af (aJ*301))+(af (Int.tdiv (af (bc+i5)) 2))))),(11,.ptr 0 2 0)],[(0,.box ([.loc 0 1 64 0 x4.Af.AJ.length x4.Af.AJ.length,.nil])),(1,.arr 139 64 (List.map (Aa.c (n:=2) (Aa.c (n:=32) ah)) x4.Af.AJ)),(2,.box (Aa.c (n:=2) (Aa.c (n:=32) ah) fc))],((0,.box ([.loc 0 1 64 0 d0.Af.AJ.length d0.Af.AJ.length,.loc 0 2 65 0 l6.length l6.length]))::(1,.arr 139 64 (List.map (Aa.c (n:=2) (Aa.c (n:=32) ah)) d0.Af.AJ))::(2,.arr 141 65 (List.map Au.c l6))::f1)::H,3,Try.f74.ntmps⟩
def dq.x1 (f1:Aj) (H:Heap) (d0:ar) (aJ:Int) (bc:Int) (l3:(List (Aa 32 Int))) (x4:ar) (i5:Int) (l6:(List Au)):((Aa 2 (Aa 32 Int))×Int)->St:=fun s=>match s with
 |(ya,i13)=>⟨[(0,.ptr 1 0 0),(1,.int .i64 aJ),(2,.int .i64 bc),(3,.sl 32 (List.map (Aa.c (n:=32) ah) l3)),(8,.ptr 0 0 0),(9,.int .i64 i13),(10,.int .i64 (af ((af (aJ*301))+(af (Int.tdiv (af (bc+i5)) 2))))),(11,.ptr 0 2 0)],[(0,.box ([.loc 0 1 64 0 x4.Af.AJ.length x4.Af.AJ.length,.nil])),(1,.arr 139 64 (List.map (Aa.c (n:=2) (Aa.c (n:=32) ah)) x4.Af.AJ)),(2,.box (Aa.c (n:=2) (Aa.c (n:=32) ah) ya))],((0,.box ([.loc 0 1 64 0 d0.Af.AJ.length d0.Af.AJ.length,.loc 0 2 65 0 l6.length l6.length]))::(1,.arr 139 64 (List.map (Aa.c (n:=2) (Aa.c (n:=32) ah)) d0.Af.AJ))::(2,.arr 141 65 (List.map Au.c l6))::f1)::H,3,Try.f74.ntmps⟩
def dq.h0 (f1:Aj) (H:Heap) (d0:ar) (aJ:Int) (bc:Int) (l3:(List (Aa 32 Int))) (x4:ar):(Int×(List Au))->St:=fun s=>match s with
 |(i5,l6)=>⟨[(0,.ptr 1 0 0),(1,.int .i64 aJ),(2,.int .i64 bc),(3,.sl 32 (List.map (Aa.c (n:=32) ah) l3)),(8,.ptr 0 0 0),(9,.int .i64 i5)],[(0,.box ([.loc 0 1 64 0 x4.Af.AJ.length x4.Af.AJ.length,.nil])),(1,.arr 139 64 (List.map (Aa.c (n:=2) (Aa.c (n:=32) ah)) x4.Af.AJ))],((0,.box ([.loc 0 1 64 0 d0.Af.AJ.length d0.Af.AJ.length,.loc 0 2 65 0 l6.length l6.length]))::(1,.arr 139 64 (List.map (Aa.c (n:=2) (Aa.c (n:=32) ah)) d0.Af.AJ))::(2,.arr 141 65 (List.map Au.c l6))::f1)::H,2,Try.f74.ntmps⟩
def dq.x0 (f1:Aj) (H:Heap) (d0:ar):(List Au)->St:=fun l7=>⟨[],[],((0,.box ([.loc 0 1 64 0 d0.Af.AJ.length d0.Af.AJ.length,.loc 0 2 65 0 l7.length l7.length]))::(1,.arr 139 64 (List.map (Aa.c (n:=2) (Aa.c (n:=32) ah)) d0.Af.AJ))::(2,.arr 141 65 (List.map Au.c l7))::f1)::H,1,Try.f74.ntmps⟩
def dq (k:Nat) (d0:ar) (aJ:Int) (bc:Int) (l3:(List (Aa 32 Int))):Option (ar):=
 (oY k d0.Af).bind fun x2=>
 (gf k x2).bind fun x4=>
 (aB (dq.b0 k aJ bc l3 x4) k (0,d0.Af.AD)).bind fun uO=>match uO with
 |.next _=>none
 |.ret v_=>some v_
 |.brk l7=>
  some (⟨(⟨d0.Af.AJ,l7⟩:Af)⟩:ar)
theorem agt (k:Nat) (d0:ar) (aJ:Int) (bc:Int) (l3:(List (Aa 32 Int))) (r:ar) (h0:dq k d0 aJ bc l3=some r):CM Try.prog 74 [.ptr 1 0 0,.int .i64 aJ,.int .i64 bc,.sl 32 (List.map (Aa.c (n:=32) ah) l3)] [(0,.box ([.loc 0 1 64 0 d0.Af.AJ.length d0.Af.AJ.length,.loc 0 2 65 0 d0.Af.AD.length d0.Af.AD.length])),(1,.arr 139 64 (List.map (Aa.c (n:=2) (Aa.c (n:=32) ah)) d0.Af.AJ)),(2,.arr 141 65 (List.map Au.c d0.Af.AD))] (fun y fr X'=>y=.ak []/\fr=[]/\X'=[(0,.box ([.loc 0 1 64 0 r.Af.AJ.length r.Af.AJ.length,.loc 0 2 65 0 r.Af.AD.length r.Af.AD.length])),(1,.arr 139 64 (List.map (Aa.c (n:=2) (Aa.c (n:=32) ah)) r.Af.AJ)),(2,.arr 141 65 (List.map Au.c r.Af.AD))]):=by
 refine CM.ft As (fn:=Try.f74) (sc:=Cm.c) (by rfl) (by rfl) (by decide +kernel) (by rfl) (by decide +kernel) (Nat.le_of_ble_eq_true rfl) (fun f1 H=>?_)
 refine rS ?_
 simp only[A8,BV]
 simp only[dq]at h0
 try simp only[Cm.c,go_sem]
 obtain⟨x2,gz,h0⟩:=bs h0
 refine FX As 1000 (sA k _ _ gz) ?_ rfl ⟨(by simp[Ap.lo,AV.lo]),Lf.map (Lf.vec (Lf.vec adE)) _,Lf.map aiI _,trivial⟩ ?_
 try simp only[cF,go_sem]
 try simp only[go_sem]
 obtain⟨x4,cq,h0⟩:=bs h0
 refine DU [0,1,2,3] [64,65,66] 3 rfl ?_
 try simp only[go_sem]
 refine DT (y3 k _ _ cq) ?_ ?_
 try simp only[go_sem]
 try simp only[List.take_succ_cons,List.drop_succ_cons,Ay,AE,go_sem]
 refine rS ?_
 try simp only[go_sem]
 obtain⟨uO,abi,h0⟩:=bs h0
 refine Bc abi (dq.h0 f1 H d0 aJ bc l3 x4) (dq.x0 f1 H d0) ?_ ?_ ?_
 refine Ae.go [0,1,2,3,8,9] [0,1] rfl ?_
 try simp only[dq.h0,go_sem]
 repeat' (first|exact NL.refl _|exact NL.nil _|exact AN.refl _|exact AN.nil|exact A5.refl _|exact A5.nil|exact Bw.nil|exact Bt.nil|refine Bw.cons _ _ _ _ _ ?_ ?_|refine Bt.cons _ _ _ _ _ ?_ ?_|refine BD.box _ _ ?_|refine BD.arr _ _ _ _ ?_|refine AN.cons ?_ ?_|refine AN.append ?_ ?_|refine NL.jS ?_|refine NL.qd ?_|refine NL.rV ?_|refine A5.append ?_ ?_|refine A5.cons ?_ ?_|with_reducible refine And.intro ?_ ?_|rfl)
 rintro⟨i5,l6⟩ dU Bq Bs h1 aS aY bM
 refine rS ?_
 simp only[dq.b0]at h1
 try simp only[Cm.s0,dq.h0,go_sem]
 refine AO h1 ?_ ?_<;>intro c8 h1<;>have F:=c8<;>try simp only[F,go_sem]
 obtain⟨x9,fM,h1⟩:=bs h1
 have F:=an (aG fM) (an (aF (Aa.c (n:=2) (Aa.c (n:=32) ah)) fM) F)
 try simp only[F,go_sem]
 obtain⟨uN,abh,h1⟩:=bs h1
 refine Bc abh (dq.h1 f1 H d0 aJ bc l3 x4 i5 l6) (dq.x1 f1 H d0 aJ bc l3 x4 i5 l6) ?_ ?_ ?_
 refine Ae.go [0,1,2,3,8,9,10,11] [0,1,322] rfl ?_
 try simp only[dq.h1,F,go_sem]
 repeat' (first|exact NL.refl _|exact NL.nil _|exact AN.refl _|exact AN.nil|exact A5.refl _|exact A5.nil|exact Bw.nil|exact Bt.nil|refine Bw.cons _ _ _ _ _ ?_ ?_|refine Bt.cons _ _ _ _ _ ?_ ?_|refine BD.box _ _ ?_|refine BD.arr _ _ _ _ ?_|refine AN.cons ?_ ?_|refine AN.append ?_ ?_|refine NL.jS ?_|refine NL.qd ?_|refine NL.rV ?_|refine A5.append ?_ ?_|refine A5.cons ?_ ?_|with_reducible refine And.intro ?_ ?_|rfl)
 rintro⟨fc,i11⟩ yD DW DY h2 iv lI xy
 refine rS ?_
 simp only[dq.b1]at h2
 try simp only[Cm.s1,dq.h1,F,go_sem]
 obtain⟨bO,vu,h2⟩:=bs h2
 have F:=an (aG vu) (an (aF (Aa.c (n:=32) ah) vu) F)
 try simp only[F,go_sem]
 obtain⟨eT,mg,h2⟩:=bs h2
 have uZ:=Ao.dm qv (Ao.self qw fc) mg
 have u6:=uZ.2
 try simp only[Ay,AE,go_sem]at u6
 have q16:=uZ.1.ow bO
 try simp only[Ay,AE,go_sem]at q16
 have F:=an (au mg) (an u6 F)
 try simp only[q16,F,go_sem]
 refine Bd F h2 ?_ ?_<;>intro F h2<;>try simp only[F,go_sem]
 refine AF F h2 ?_ ?_<;>intro F h2<;>try simp only[F,go_sem]
 refine Aq (lI _ _ (oi h2).symm (Ae.go [0,1,2,3,8,9,10,11] [0,1,2] rfl ?_))
 try simp only[dq.x1,F,go_sem]
 repeat' (first|exact NL.refl _|exact NL.nil _|exact AN.refl _|exact AN.nil|exact A5.refl _|exact A5.nil|exact Bw.nil|exact Bt.nil|refine Bw.cons _ _ _ _ _ ?_ ?_|refine Bt.cons _ _ _ _ _ ?_ ?_|refine BD.box _ _ ?_|refine BD.arr _ _ _ _ ?_|refine AN.cons ?_ ?_|refine AN.append ?_ ?_|refine NL.jS ?_|refine NL.qd ?_|refine NL.rV ?_|refine A5.append ?_ ?_|refine A5.cons ?_ ?_|with_reducible refine And.intro ?_ ?_|rfl)
 refine Aq (iv _ _ (oi h2).symm (Ae.go [0,1,2,3,8,9,10,11] [0,1,2] rfl ?_))
 try simp only[dq.h1,F,go_sem]
 repeat' (first|exact NL.refl _|exact NL.nil _|exact AN.refl _|exact AN.nil|exact A5.refl _|exact A5.nil|exact Bw.nil|exact Bt.nil|refine Bw.cons _ _ _ _ _ ?_ ?_|refine Bt.cons _ _ _ _ _ ?_ ?_|refine BD.box _ _ ?_|refine BD.arr _ _ _ _ ?_|refine AN.cons ?_ ?_|refine AN.append ?_ ?_|refine NL.jS ?_|refine NL.qd ?_|refine NL.rV ?_|refine A5.append ?_ ?_|refine A5.cons ?_ ?_|with_reducible refine And.intro ?_ ?_|rfl)
 refine Aq (lI _ _ (oi h2).symm (Ae.go [0,1,2,3,8,9,10,11] [0,1,2] rfl ?_))
 try simp only[dq.x1,F,go_sem]
 repeat' (first|exact NL.refl _|exact NL.nil _|exact AN.refl _|exact AN.nil|exact A5.refl _|exact A5.nil|exact Bw.nil|exact Bt.nil|refine Bw.cons _ _ _ _ _ ?_ ?_|refine Bt.cons _ _ _ _ _ ?_ ?_|refine BD.box _ _ ?_|refine BD.arr _ _ _ _ ?_|refine AN.cons ?_ ?_|refine AN.append ?_ ?_|refine NL.jS ?_|refine NL.qd ?_|refine NL.rV ?_|refine A5.append ?_ ?_|refine A5.cons ?_ ?_|with_reducible refine And.intro ?_ ?_|rfl)
 rintro⟨ya,i13⟩ aQ
 subst aQ
 simp only at h1
 refine rS ?_
 try simp only[dq.x1,F,go_sem]
 refine A1 As bY 1000 ?_
 try simp only[F,go_sem]
 obtain⟨um,vq,h1⟩:=bs h1
 have afb:=pu Au.c vq
 try simp only[F,go_sem]at afb
 have F:=an afb F
 try simp only[F,go_sem]
 refine aT ?_
 try simp only[F,go_sem]
 refine Aq (aS _ _ (oi h1).symm (Ae.go [0,1,2,3,8,9] [0,1] rfl ?_))
 try simp only[dq.h0,F,go_sem]
 repeat' (first|exact NL.refl _|exact NL.nil _|exact AN.refl _|exact AN.nil|exact A5.refl _|exact A5.nil|exact Bw.nil|exact Bt.nil|refine Bw.cons _ _ _ _ _ ?_ ?_|refine Bt.cons _ _ _ _ _ ?_ ?_|refine BD.box _ _ ?_|refine BD.arr _ _ _ _ ?_|refine AN.cons ?_ ?_|refine AN.append ?_ ?_|refine NL.jS ?_|refine NL.qd ?_|refine NL.rV ?_|refine A5.append ?_ ?_|refine A5.cons ?_ ?_|with_reducible refine And.intro ?_ ?_|rfl)
 refine Aq (aY _ _ (oi h1).symm (Ae.go [] [] rfl ?_))
 try simp only[dq.x0,F,go_sem]
 rintro l7 aQ
 subst aQ
 simp only at h0
 refine rS ?_
 try simp only[dq.x0,go_sem]
 obtain rfl:=oi h0
 refine ES (by simp) ?_ ?_
 try simp only[Cm.rs,bC,Av,go_sem]
 try simp only[A8,BV,go_sem]
def Fa.c:SC:=
 SQ [RG [wE 3 42 0 [0],wE 4 48 1 [1],wE 5 25 2 [2],wA 6 42,wA 7 48,wN 8 0 28 [8]],SQ [RG [wD 15 42 3,wD 16 48 4,wW 17 24 15 16 42 48 28 [15,16],wG 9 17 28 [17]],RG [wV 18 9 28,wK 19 .neq 28 18 0 28 4 [18]],CN 19 (SQ [RG [oQ 20 (.build 42 #[]) 42,oQ 21 (.build 48 #[]) 48,wV 22 9 28 [9],wS 42 6 20 [20],wS 48 7 21 [21],wG 8 22 28 [22]],.ret]) .skip],RG [wF 24 48 4 0,wD 25 46 24 [24],wD 26 25 5,
 wW 27 71 25 26 46 25 73 [25,26],wV 23 27 73 [27],wX 28 23 0 46,wX 29 23 1 28 [23],wA 10 46,wS 46 10 28 [28],wG 11 29 28 [29]],SQ [RG [wV 30 11 28,wK 31 .neq 28 30 0 28 4 [30]],CN 31 (SQ [RG [oQ 32 (.build 42 #[]) 42,oQ 33 (.build 48 #[]) 48,wV 34 11 28 [11],wS 42 6 32 [32],wS 48 7 33 [33],wG 8 34 28 [34]],.ret]) .skip],RG [wD 35 42 3 [3],wU 36 72 35 42 130 [35],wG 12 36 130 [36]],RG [wD 37 48 4,
 wU 38 73 37 48 48 [37],wA 13 48,wS 48 13 38 [38]],SQ [RG [wF 39 46 10 0,wD 40 44 39 [39],wL 41 40 44 3 [40],wF 42 48 4 0,wF 43 46 42 0 [42],wD 44 44 43 [43],wL 45 44 44 3 [44],wO 46 .eql 3 41 45 3 4 [41,45]],CN 46 (SQ [.bB [wV 47 12 130,oQ 48 (.nilCheck (.tmp 47)) 0,wF 49 134 48 0,wD 50 42 49,wD 51 48 13,wS 42 6 50,wS 48 7 51,wN 8 0 28] [[],[0],[0,1],[0,1,2],[],[0,1,2,3],[4,0,1,2,3,5],[4,0,1,2,
 3,5,6]] [12,13,47,48,49,50,51],.ret]) .skip],RG [wD 52 25 5 [5],wF 53 48 4 0,wF 54 46 53 0 [53],wD 55 44 54 [54],wL 56 55 44 3 [55],wF 57 48 4 2,wD 58 3 57 [57],wC 59 66 #[.tmp 52,.tmp 56,.tmp 58] #[25,3,3] 124 [52,56,58],wG 14 59 124 [59]],SQ [RG [wF 60 48 4 3,wD 61 3 60 [60],wV 62 14 124,wL 63 62 124 3 [62],wO 64 .add 3 61 63 3 3 [61,63],wK 65 .gtr 3 64 602 3 4 [64]],
 CN 65 (SQ [RG [oQ 66 (.build 42 #[]) 42,oQ 67 (.build 48 #[]) 48,wS 42 6 66 [66],wS 48 7 67 [67],wN 8 2 28],.ret]) .skip],RG [wV 68 12 130,wF 69 48 4 1,wD 70 3 69 [69],wF 71 48 4 3,wD 72 3 71 [71],wV 73 14 124,wC 74 74 #[.tmp 68,.tmp 70,.tmp 72,.tmp 73] #[130,3,3,124] 0 [68,70,72,73,74]],SQ [RG [wV 75 12 130,oQ 76 (.nilCheck (.tmp 75)) 0 [75],wF 77 134 76 0 [76],wF 78 42 77 1 [77],
 wD 79 40 78 [78],wL 80 79 40 3 [79],wK 81 .gtr 3 80 1200 3 4 [80]],CN 81 (SQ [RG [oQ 82 (.build 42 #[]) 42,oQ 83 (.build 48 #[]) 48,wS 42 6 82 [82],wS 48 7 83 [83],wN 8 2 28],.ret]) .skip],.bB [wD 84 46 10,wF 85 48 4 3,wD 86 3 85,wV 87 14 124,wL 88 87 124 3,wO 89 .add 3 86 88 3 3,wF 90 48 13 0,wS 46 90 84,wF 91 48 13 3,wS 3 91 89] [[],[],[1],[],[3],[1,2,3,4],[0],[0,6],[0,1,2,3,4,5,6,7],[0,1,2,3,
 4,5,6,7,8]] [4,10,14,84,85,86,87,88,89,90,91],.bB [wV 92 12 130,oQ 93 (.nilCheck (.tmp 92)) 0,wF 94 134 93 0,wD 95 42 94,wD 96 48 13,wS 42 6 95,wS 48 7 96,wN 8 0 28] [[],[0],[0,1],[0,1,2],[],[0,1,2,3],[4,0,1,2,3,5],[4,0,1,2,3,5,6]] [12,13,92,93,94,95,96],.ret]
def vK (k:Nat) (d0:Af) (l1:A9) (r2:Ab):Option (Af×A9×Int):=
 (yV k d0 l1).bind fun x1=>
 bif (!decide (x1=(0:Int))) then
  some ((⟨[],[]⟩:Af),(⟨(⟨[]⟩:Al),0,0,0⟩:A9),x1)
 else
  (mr k l1.Al r2).bind fun x3=>
  bif (!decide (x3.2=(0:Int))) then
   some ((⟨[],[]⟩:Af),(⟨(⟨[]⟩:Al),0,0,0⟩:A9),x3.2)
  else
   (oY k d0).bind fun x6=>
   (y2 k l1).bind fun x7=>
   bif decide ((x3.1.Ac.length:Int)=(l1.Al.Ac.length:Int)) then
    some (x6.Af,x7,0)
   else
    (gg k r2 (l1.Al.Ac.length:Int) l1.Cl).bind fun x9=>
    bif decide ((602:Int)<af (l1.Used+(x9.length:Int))) then
     some ((⟨[],[]⟩:Af),(⟨(⟨[]⟩:Al),0,0,0⟩:A9),2)
    else
     (dq k x6 l1.Da l1.Used x9).bind fun cA=>
     bif decide ((1200:Int)<((cA.Af.AD.length:Nat):Int)) then
      some ((⟨[],[]⟩:Af),(⟨(⟨[]⟩:Al),0,0,0⟩:A9),2)
     else
      some (cA.Af,(⟨x3.1,x7.Da,x7.Cl,af (l1.Used+(x9.length:Int))⟩:A9),0)
theorem abH (k:Nat) (d0:Af) (l1:A9) (r2:Ab) (r:Af×A9×Int) (h0:vK k d0 l1 r2=some r):An Try.prog 20 [.agg (Af.c d0),.agg (A9.c l1),.agg (Ab.c r2)] (fun y=>y=.ak [.agg (Af.c r.1),.agg (A9.c r.2.1),.int .i64 r.2.2]):=by
 refine PB Try.f20 Fa.c [.cell 6 42,.cell 7 48,.tmp 8] ?_
 simp only[vK]at h0
 try simp only[Fa.c,go_sem]
 refine ay h0 (agi k _ _) ?_ (fun x1 h0=>?_)<;>try simp only[go_sem]
 refine BJ h0 ?_ ?_<;>intro c2 h0<;>have F:=c2<;>try simp only[F,go_sem]
 obtain rfl:=oi h0
 refine Ad rfl ?_
 try simp only[F,go_sem]
 refine ay h0 (vM k _ _) ?_ (fun x3 h0=>?_)<;>try simp only[F,go_sem]
 refine Bd F h0 ?_ ?_<;>intro F h0<;>try simp only[F,go_sem]
 obtain rfl:=oi h0
 refine Ad rfl ?_
 try simp only[F,go_sem]
 obtain⟨x6,cO,h0⟩:=bs h0
 refine CP As 1000 [] [] (sA k _ _ cO) ?_ rfl ?_
 try simp only[j3,F,go_sem]
 try simp only[F,go_sem]
 refine ay h0 (agp k _) ?_ (fun x7 h0=>?_)<;>try simp only[F,go_sem]
 refine AF F h0 ?_ ?_<;>intro F h0<;>try simp only[F,go_sem]
 refine A1 As bY 1000 ?_
 try simp only[F,go_sem]
 refine aT ?_
 try simp only[F,go_sem]
 obtain rfl:=oi h0
 refine Ad rfl ?_
 try simp only[F,go_sem]
 refine ay h0 (y5 k _ _ _) ?_ (fun x9 h0=>?_)<;>try simp only[F,go_sem]
 refine AF F h0 ?_ ?_<;>intro F h0<;>try simp only[F,go_sem]
 obtain rfl:=oi h0
 refine Ad rfl ?_
 try simp only[F,go_sem]
 obtain⟨cA,gW,h0⟩:=bs h0
 refine DU [4,6,7,9,10,11,12,13,14,19,31,46,65] [400,401,402,16,48,49,50,64,65,304,464] 11 rfl ?_
 try simp only[F,go_sem]
 refine DT (agt k _ _ _ _ _ gW) ?_ ?_
 try simp only[F,go_sem]
 try simp only[List.take_succ_cons,List.drop_succ_cons,Ay,AE,F,go_sem]
 refine rS ?_
 try simp only[F,go_sem]
 refine AF F h0 ?_ ?_<;>intro F h0<;>try simp only[F,go_sem]
 obtain rfl:=oi h0
 refine Ad rfl ?_
 try simp only[F,go_sem]
 refine A1 As bY 1000 ?_
 try simp only[F,go_sem]
 refine aT ?_
 try simp only[F,go_sem]
 refine A1 As bY 1000 ?_
 try simp only[F,go_sem]
 refine aT ?_
 try simp only[F,go_sem]
 obtain rfl:=oi h0
 refine Ad rfl ?_
 try simp only[F,go_sem]
def Fc.c:SC:=
 SQ [RG [wE 1 25 0 [0],oQ 2 (.assign (.const (.slice none 0 0))) 56 [2],wN 3 0 28 [3]],SQ [RG [wD 5 25 1,wU 6 30 5 25 28 [5],wG 4 6 28 [6]],RG [wV 7 4 28,wK 8 .neq 28 7 0 28 4 [7]],CN 8 (SQ [RG [wV 9 4 28 [4],oQ 2 (.assign (.const (.slice none 0 0))) 56,wG 3 9 28 [9]],.ret]) .skip],RG [wD 10 25 1 [1],wU 11 88 10 25 56 [10],wG 2 11 56 [11],wN 3 0 28],.ret]
def yX (k:Nat) (r0:Ab):Option ((List Int)×Int):=
 (vL k r0).bind fun x1=>
 bif (!decide (x1=(0:Int))) then
  some ([],x1)
 else
  (dn k r0).bind fun x3=>
  some (x3,0)
theorem agj (k:Nat) (r0:Ab) (r:(List Int)×Int) (h0:yX k r0=some r):An Try.prog 26 [.agg (Ab.c r0)] (fun y=>y=.ak [.sl 1 (List.map ah r.1),.int .i64 r.2]):=by
 refine PB Try.f26 Fc.c [.tmp 2,.tmp 3] ?_
 simp only[yX]at h0
 try simp only[Fc.c,go_sem]
 refine ay h0 (abI k _) ?_ (fun x1 h0=>?_)<;>try simp only[go_sem]
 refine BJ h0 ?_ ?_<;>intro c2 h0<;>have F:=c2<;>try simp only[F,go_sem]
 obtain rfl:=oi h0
 refine Ad rfl ?_
 try simp only[F,go_sem]
 refine ay h0 (abK k _) ?_ (fun x3 h0=>?_)<;>try simp only[F,go_sem]
 obtain rfl:=oi h0
 refine Ad rfl ?_
 try simp only[F,go_sem]
def Fg.c:SC:=
 SQ [RG [wE 1 42 0 [0],wA 2 42,wA 3 48,wN 4 0 28 [4]],SQ [RG [wD 9 42 1,wU 10 78 9 42 4 [9],wQ 11 10 4 [10]],CN 11 (SQ [RG [oQ 12 (.build 42 #[]) 42,oQ 13 (.build 48 #[]) 48,wS 42 2 12 [12],wS 48 3 13 [13],wN 4 94 28],.ret]) .skip],RG [wD 14 42 1 [1],wU 15 72 14 42 130 [14],wU 16 79 15 130 130 [15],wG 5 16 130 [16]],RG [wV 18 5 130,wU 19 80 18 130 146 [18],wV 17 19 146 [19],wX 20 17 0 145,
 wX 21 17 1 4 [17],wA 6 145,wS 145 6 20 [20],wG 7 21 4 [21]],SQ [RG [wV 22 7 4 [7],wQ 23 22 4 [22]],CN 23 (SQ [RG [oQ 24 (.build 42 #[]) 42,oQ 25 (.build 48 #[]) 48,wS 42 2 24 [24],wS 48 3 25 [25],wN 4 95 28],.ret]) .skip],RG [wV 26 5 130,wC 27 82 #[.tmp 26,.const (.int .i64 0),.const (.int .i64 0)] #[130,3,3] 3 [26],wV 28 5 130,wC 29 82 #[.tmp 28,.const (.int .i64 1),.const (.int .i64 0)] #[130,3,
 3] 3 [28],oQ 30 (.call ⟨.builtin .max,#[.tmp 27,.tmp 29],#[3,3]⟩) 3 [27,29],oQ 31 (.binOp .add 3 (.const (.int .i64 1)) (.tmp 30) 3) 3 [30],wG 8 31 3 [31]],SQ [RG [wV 32 8 3,wK 33 .gtr 3 32 1000000 3 4 [32]],CN 33 (SQ [RG [oQ 34 (.build 42 #[]) 42,oQ 35 (.build 48 #[]) 48,wS 42 2 34 [34],wS 48 3 35 [35],wN 4 2 28],.ret]) .skip],.bB [wV 36 5 130,oQ 37 (.nilCheck (.tmp 36)) 0,wF 38 134 37 0,
 wD 39 42 38,wF 40 145 6 4,wD 41 46 40,wF 42 145 6 1,wD 43 3 42,wV 44 8 3,wF 45 145 6 3,wD 46 3 45,oQ 47 (.build 48 #[(0,.tmp 41),(1,.tmp 43),(2,.tmp 44),(3,.tmp 46)]) 48,wS 42 2 39,wS 48 3 47,wN 4 0 28] [[],[0],[0,1],[0,1,2],[],[4],[],[6],[],[],[9],[4,5,6,7,8,9,10],[0,1,2,3],[4,5,6,7,8,9,10,11,0,1,2,3,12],[4,5,6,7,8,9,10,11,0,1,2,3,12,13]] [5,6,8,36,37,38,39,40,41,42,43,44,45,46,47],.ret]
def sx (k:Nat) (d0:Af):Option (Af×A9×Int):=
 (sD k d0).bind fun x1=>
 bif (!x1) then
  some ((⟨[],[]⟩:Af),(⟨(⟨[]⟩:Al),0,0,0⟩:A9),94)
 else
  (oY k d0).bind fun x4=>
  (gf k x4).bind fun x6=>
  (vO k (⟨(⟨x6.Af.AJ,[]⟩:Af)⟩:ar)).bind fun x7=>
  bif (!x7.2) then
   some ((⟨[],[]⟩:Af),(⟨(⟨[]⟩:Al),0,0,0⟩:A9),95)
  else
   (fw k (⟨(⟨x6.Af.AJ,[]⟩:Af)⟩:ar) 0 0).bind fun x9=>
   (fw k (⟨(⟨x6.Af.AJ,[]⟩:Af)⟩:ar) 1 0).bind fun dK=>
   bif decide ((1000000:Int)<af (1+(max x9 dK))) then
    some ((⟨[],[]⟩:Af),(⟨(⟨[]⟩:Al),0,0,0⟩:A9),2)
   else
    some ((⟨((⟨(⟨x6.Af.AJ,[]⟩:Af)⟩:ar).Af).AJ,((⟨(⟨x6.Af.AJ,[]⟩:Af)⟩:ar).Af).AD⟩:Af),(⟨x7.1.book,x7.1.aO,af (1+(max x9 dK)),x7.1.used⟩:A9),0)
theorem yZ (k:Nat) (d0:Af) (r:Af×A9×Int) (h0:sx k d0=some r):An Try.prog 32 [.agg (Af.c d0)] (fun y=>y=.ak [.agg (Af.c r.1),.agg (A9.c r.2.1),.int .i64 r.2.2]):=by
 refine PB Try.f32 Fg.c [.cell 2 42,.cell 3 48,.tmp 4] ?_
 simp only[sx]at h0
 try simp only[Fg.c,go_sem]
 refine ay h0 (y4 k _) ?_ (fun x1 h0=>?_)<;>try simp only[go_sem]
 refine BJ h0 ?_ ?_<;>intro c2 h0<;>have F:=c2<;>try simp only[F,go_sem]
 obtain rfl:=oi h0
 refine Ad rfl ?_
 try simp only[F,go_sem]
 obtain⟨x4,cq,h0⟩:=bs h0
 refine CP As 1000 [] [] (sA k _ _ cq) ?_ rfl ?_
 try simp only[j3,F,go_sem]
 try simp only[F,go_sem]
 obtain⟨x6,cO,h0⟩:=bs h0
 refine DU [2,3,11] [128,129,130,16,17,18,32,33] 8 rfl ?_
 try simp only[F,go_sem]
 refine DT (y3 k _ _ cO) ?_ ?_
 try simp only[F,go_sem]
 try simp only[List.take_succ_cons,List.drop_succ_cons,Ay,AE,F,go_sem]
 refine AK.qk (Ae.fz 1 rfl (fun _ h=>by cases h)) ?_
 try simp only[F,go_sem]
 refine AK.adN 0 1 65 rfl rfl ?_
 try simp only[F,go_sem]
 refine AK.qk (Ae.fz 0 rfl (fun _ h=>by cases h;rfl)) ?_
 try simp only[F,go_sem]
 refine rS ?_
 try simp only[F,go_sem]
 refine ay h0 (abO k _) ?_ (fun x7 h0=>?_)<;>try simp only[F,go_sem]
 refine Bd F h0 ?_ ?_<;>intro F h0<;>try simp only[F,go_sem]
 obtain rfl:=oi h0
 refine Ad rfl ?_
 try simp only[F,go_sem]
 refine ay h0 (sB k _ _ _) ?_ (fun x9 h0=>?_)<;>try simp only[F,go_sem]
 refine ay h0 (sB k _ _ _) ?_ (fun dK h0=>?_)<;>try simp only[F,go_sem]
 refine AF F h0 ?_ ?_<;>intro F h0<;>try simp only[F,go_sem]
 obtain rfl:=oi h0
 refine Ad rfl ?_
 try simp only[F,go_sem]
 refine A1 As bY 1000 ?_
 try simp only[F,go_sem]
 refine aT ?_
 try simp only[F,go_sem]
 obtain rfl:=oi h0
 refine Ad rfl ?_
 try simp only[F,go_sem]
def Ct.s1:SC:=
 SQ [RG [wK 42 .lss 3 41 2 3 0],CN 42 .skip (.exit 2),.block 3 (SQ [RG [wV 43 41 3,wG 9 43 3 [43]],RG [wV 44 8 3,wV 45 9 3,wO 46 .shr 3 44 45 3 3 [44,45],wK 47 .and 3 46 1 3 3 [46],wK 48 .eql 3 47 1 3 4 [47]],CN 48 (.bB [wV 49 5 130,oQ 50 (.nilCheck (.tmp 49)) 0,wF 51 134 50 0,wF 52 42 51 0,wD 53 39 52,wF 54 141 7 0,wD 55 3 54,wV 56 9 3,wV 57 9 3,wF 58 141 7 1,wI 59 139 58 57,wD 60 122 59,
 wI 61 39 53 55,wI 62 139 61 56,wS 122 62 60] [[],[0],[0,1],[0,1,2],[0,1,2,3],[],[5],[],[],[],[9,8],[9,8,10],[0,1,2,3,4,5,6],[0,1,2,3,4,5,6,12,7,8,9,10,11],[0,1,2,3,4,5,6,12,7,8,9,10,11,13]] [9,49,50,51,52,53,54,55,56,57,58,59,60,61,62]) .skip]),RG [wK 63 .add 3 41 1 3 3 [41],wV 41 63 3 [63]]]
def Ct.s0:SC:=
 SQ [RG [wO 26 .lss 3 25 24 3 0],CN 26 .skip (.exit 0),.block 1 (SQ [RG [wV 27 25 3,wI 28 40 23 25,wD 29 141 28 [28],wA 7 141,wG 6 27 3 [27],wS 141 7 29 [29]],RG [wN 8 0 3],SQ [RG [wV 30 1 63,wL 31 30 63 3 [30],wK 32 .gtr 3 31 0 3 4 [31]],CN 32 (RG [wV 33 1 63,wV 34 6 3 [6],wV 35 1 63,wL 36 35 63 3 [35],wO 37 .rem 3 34 36 3 3 [34,36],wI 38 63 33 37 [33,37],wD 39 3 38 [38],
 wK 40 .and 3 39 3 3 3 [39],wG 8 40 3 [40]]) .skip],RG [oQ 41 (.move (.const (.int .i64 0))) 3],.block 2 (.loop Ct.s1)]),RG [wK 64 .add 3 25 1 3 3 [25],wV 25 64 3 [64]]]
def Ct.c:SC:=
 SQ [RG [wE 2 42 0 [0],wA 4 42],RG [wD 10 42 2,wU 11 72 10 42 130 [10],wG 5 11 130 [11]],SQ [RG [wD 12 42 2 [2],wU 13 78 12 42 4 [12],wQ 14 13 4 [13]],CN 14 (SQ [RG [wV 15 5 130 [5],oQ 16 (.nilCheck (.tmp 15)) 0 [15],wF 17 134 16 0 [16],wD 18 42 17 [17],wS 42 4 18 [18]],.ret]) .skip],SQ [RG [wV 19 5 130,oQ 20 (.nilCheck (.tmp 19)) 0 [19],wF 21 134 20 0 [20],wF 22 42 21 1 [21],wD 23 40 22 [22],
 wL 24 23 40 3,oQ 25 (.move (.const (.int .i64 0))) 3],.block 0 (.loop Ct.s0)],RG [wV 65 5 130,oQ 66 (.nilCheck (.tmp 65)) 0 [65],wF 67 134 66 0 [66],wF 68 42 67 1 [67],⟨none,.store 40 (.tmp 68) (.const (.slice none 0 0)),0,none,[68]⟩],RG [wV 69 5 130 [5],oQ 70 (.nilCheck (.tmp 69)) 0 [69],wF 71 134 70 0 [70],wD 72 42 71 [71],wS 42 4 72 [72]],.ret]
def bF.b1 (k:Nat) (x9:Au) (cA:Int):(Int×(List (Aa 2 (Aa 32 Int))))->Option (AW (Int×(List (Aa 2 (Aa 32 Int)))) ((List (Aa 2 (Aa 32 Int)))) (Af)):=fun s=>match s with
 |(i13,kj)=>
   bif decide (i13<(2:Int)) then
    (uT i13).bind fun _=>
    bif decide (oV .i64 (Int.fdiv (oV .i64 cA 3) (2 ^ (min (Int.toNat i13) 64))) 1=(1:Int)) then
     (x9.CD.at? i13).bind fun vk=>
     (at? kj x9.At).bind fun gV=>
     (gV.at? i13).bind fun qo=>
     (fZ kj x9.At (gV.set i13 vk)).bind fun uo=>
     some (.next (af (i13+1),uo))
    else
     some (.next (af (i13+1),kj))
   else
    some (.brk kj)
def bF.abB (k:Nat) (x9:Au):(Int×(List (Aa 2 (Aa 32 Int))))->Option (AW (Int×(List (Aa 2 (Aa 32 Int)))) ((List (Aa 2 (Aa 32 Int)))) (Af)):=fun s=>match s with
 |(i25,m1)=>
   bif decide (i25<(2:Int)) then
    (uT i25).bind fun _=>
    bif decide (oV .i64 (Int.fdiv 0 (2 ^ (min (Int.toNat i25) 64))) 1=(1:Int)) then
     (x9.CD.at? i25).bind fun x31=>
     (at? m1 x9.At).bind fun yC=>
     (yC.at? i25).bind fun x33=>
     (fZ m1 x9.At (yC.set i25 x31)).bind fun l35=>
     some (.next (af (i25+1),l35))
    else
     some (.next (af (i25+1),m1))
   else
    some (.brk m1)
def bF.b0 (k:Nat) (dZ:(List Int)) (x2:ar):(Int×(List (Aa 2 (Aa 32 Int))))->Option (AW (Int×(List (Aa 2 (Aa 32 Int)))) ((List (Aa 2 (Aa 32 Int)))) (Af)):=fun s=>match s with
 |(i5,l6)=>
   bif decide (i5<((x2.Af.AD.length:Nat):Int)) then
    (at? x2.Af.AD i5).bind fun x9=>
    bif decide ((0:Int)<(dZ.length:Int)) then
     (nz? (dZ.length:Int)).bind fun _=>
     (at? dZ (Int.tmod i5 (dZ.length:Int))).bind fun cA=>
     (aB (bF.b1 k x9 cA) k (0,l6)).bind fun r24=>match r24 with
     |.next _=>none
     |.ret v_=>some (.ret v_)
     |.brk ko=>
      some (.next (af (i5+1),ko))
    else
     (aB (bF.abB k x9) k (0,l6)).bind fun r36=>match r36 with
     |.next _=>none
     |.ret v_=>some (.ret v_)
     |.brk rC=>
      some (.next (af (i5+1),rC))
   else
    some (.brk l6)
def bF.h1 (dZ:(List Int)) (x2:ar) (i5:Int) (x9:Au) (cA:Int):(Int×(List (Aa 2 (Aa 32 Int))))->St:=fun s=>match s with
 |(i13,kj)=>⟨[(1,.sl 1 (List.map eI dZ)),(4,.ptr 0 0 0),(5,.ptr 0 3 0),(7,.ptr 0 6 0),(8,.int .i64 (oV .i64 cA 3)),(23,.loc 0 5 65 0 x2.Af.AD.length x2.Af.AD.length),(24,.int .i64 ((x2.Af.AD.length:Nat):Int)),(25,.int .i64 i5),(41,.int .i64 i13)],[(0,.box ([.loc 0 1 64 0 0 0,.loc 0 2 65 0 0 0])),(1,.arr 139 64 (List.map (Aa.c (n:=2) (Aa.c (n:=32) ah)) [])),(2,.arr 141 65 (List.map Au.c [])),(3,.box ([.loc 0 4 64 0 kj.length kj.length,.loc 0 5 65 0 x2.Af.AD.length x2.Af.AD.length])),(4,.arr 139 64 (List.map (Aa.c (n:=2) (Aa.c (n:=32) ah)) kj)),(5,.arr 141 65 (List.map Au.c x2.Af.AD)),(6,.box ([.int .i64 x9.At]++(Aa.c (n:=2) (Aa.c (n:=32) ah) x9.CD)))],[],7,Try.f36.ntmps⟩
def bF.x1 (dZ:(List Int)) (x2:ar) (i5:Int):(List (Aa 2 (Aa 32 Int)))->St:=fun ko=>⟨[(1,.sl 1 (List.map eI dZ)),(4,.ptr 0 0 0),(5,.ptr 0 3 0),(23,.loc 0 5 65 0 x2.Af.AD.length x2.Af.AD.length),(24,.int .i64 ((x2.Af.AD.length:Nat):Int)),(25,.int .i64 i5)],[(0,.box ([.loc 0 1 64 0 0 0,.loc 0 2 65 0 0 0])),(1,.arr 139 64 (List.map (Aa.c (n:=2) (Aa.c (n:=32) ah)) [])),(2,.arr 141 65 (List.map Au.c [])),(3,.box ([.loc 0 4 64 0 ko.length ko.length,.loc 0 5 65 0 x2.Af.AD.length x2.Af.AD.length])),(4,.arr 139 64 (List.map (Aa.c (n:=2) (Aa.c (n:=32) ah)) ko)),(5,.arr 141 65 (List.map Au.c x2.Af.AD))],[],6,Try.f36.ntmps⟩
def bF.sY (dZ:(List Int)) (x2:ar) (i5:Int) (x9:Au):(Int×(List (Aa 2 (Aa 32 Int))))->St:=fun s=>match s with
 |(i25,m1)=>⟨[(1,.sl 1 (List.map eI dZ)),(4,.ptr 0 0 0),(5,.ptr 0 3 0),(7,.ptr 0 6 0),(8,.int .i64 0),(23,.loc 0 5 65 0 x2.Af.AD.length x2.Af.AD.length),(24,.int .i64 ((x2.Af.AD.length:Nat):Int)),(25,.int .i64 i5),(41,.int .i64 i25)],[(0,.box ([.loc 0 1 64 0 0 0,.loc 0 2 65 0 0 0])),(1,.arr 139 64 (List.map (Aa.c (n:=2) (Aa.c (n:=32) ah)) [])),(2,.arr 141 65 (List.map Au.c [])),(3,.box ([.loc 0 4 64 0 m1.length m1.length,.loc 0 5 65 0 x2.Af.AD.length x2.Af.AD.length])),(4,.arr 139 64 (List.map (Aa.c (n:=2) (Aa.c (n:=32) ah)) m1)),(5,.arr 141 65 (List.map Au.c x2.Af.AD)),(6,.box ([.int .i64 x9.At]++(Aa.c (n:=2) (Aa.c (n:=32) ah) x9.CD)))],[],7,Try.f36.ntmps⟩
def bF.abe (dZ:(List Int)) (x2:ar) (i5:Int):(List (Aa 2 (Aa 32 Int)))->St:=fun rC=>⟨[(1,.sl 1 (List.map eI dZ)),(4,.ptr 0 0 0),(5,.ptr 0 3 0),(23,.loc 0 5 65 0 x2.Af.AD.length x2.Af.AD.length),(24,.int .i64 ((x2.Af.AD.length:Nat):Int)),(25,.int .i64 i5)],[(0,.box ([.loc 0 1 64 0 0 0,.loc 0 2 65 0 0 0])),(1,.arr 139 64 (List.map (Aa.c (n:=2) (Aa.c (n:=32) ah)) [])),(2,.arr 141 65 (List.map Au.c [])),(3,.box ([.loc 0 4 64 0 rC.length rC.length,.loc 0 5 65 0 x2.Af.AD.length x2.Af.AD.length])),(4,.arr 139 64 (List.map (Aa.c (n:=2) (Aa.c (n:=32) ah)) rC)),(5,.arr 141 65 (List.map Au.c x2.Af.AD))],[],6,Try.f36.ntmps⟩
def bF.h0 (dZ:(List Int)) (x2:ar):(Int×(List (Aa 2 (Aa 32 Int))))->St:=fun s=>match s with
 |(i5,l6)=>⟨[(1,.sl 1 (List.map eI dZ)),(4,.ptr 0 0 0),(5,.ptr 0 3 0),(23,.loc 0 5 65 0 x2.Af.AD.length x2.Af.AD.length),(24,.int .i64 ((x2.Af.AD.length:Nat):Int)),(25,.int .i64 i5)],[(0,.box ([.loc 0 1 64 0 0 0,.loc 0 2 65 0 0 0])),(1,.arr 139 64 (List.map (Aa.c (n:=2) (Aa.c (n:=32) ah)) [])),(2,.arr 141 65 (List.map Au.c [])),(3,.box ([.loc 0 4 64 0 l6.length l6.length,.loc 0 5 65 0 x2.Af.AD.length x2.Af.AD.length])),(4,.arr 139 64 (List.map (Aa.c (n:=2) (Aa.c (n:=32) ah)) l6)),(5,.arr 141 65 (List.map Au.c x2.Af.AD))],[],6,Try.f36.ntmps⟩
def bF.x0 (x2:ar):(List (Aa 2 (Aa 32 Int)))->St:=fun l7=>⟨[(4,.ptr 0 0 0),(5,.ptr 0 3 0)],[(0,.box ([.loc 0 1 64 0 0 0,.loc 0 2 65 0 0 0])),(1,.arr 139 64 (List.map (Aa.c (n:=2) (Aa.c (n:=32) ah)) [])),(2,.arr 141 65 (List.map Au.c [])),(3,.box ([.loc 0 4 64 0 l7.length l7.length,.loc 0 5 65 0 x2.Af.AD.length x2.Af.AD.length])),(4,.arr 139 64 (List.map (Aa.c (n:=2) (Aa.c (n:=32) ah)) l7)),(5,.arr 141 65 (List.map Au.c x2.Af.AD))],[],6,Try.f36.ntmps⟩
def bF (k:Nat) (d0:Af) (dZ:(List Int)):Option (Af):=
 (oY k d0).bind fun x2=>
 (sD k d0).bind fun x3=>
 bif (!x3) then
  some x2.Af
 else
  (aB (bF.b0 k dZ x2) k (0,x2.Af.AJ)).bind fun r37=>match r37 with
  |.next _=>none
  |.ret v_=>some v_
  |.brk l7=>
   some (⟨l7,[]⟩:Af)
theorem yW (k:Nat) (d0:Af) (dZ:(List Int)) (r:Af) (h0:bF k d0 dZ=some r):An Try.prog 36 [.agg (Af.c d0),.sl 1 (List.map eI dZ)] (fun y=>y=.agg (Af.c r)):=by
 refine PB Try.f36 Ct.c [.cell 4 42] ?_
 simp only[bF]at h0
 try simp only[Ct.c,go_sem]
 obtain⟨x2,gz,h0⟩:=bs h0
 refine CP As 1000 [] [] (sA k _ _ gz) ?_ rfl ?_
 try simp only[j3,go_sem]
 try simp only[go_sem]
 refine ay h0 (y4 k _) ?_ (fun x3 h0=>?_)<;>try simp only[go_sem]
 refine BJ h0 ?_ ?_<;>intro c4 h0<;>have F:=c4<;>try simp only[F,go_sem]
 obtain rfl:=oi h0
 refine Ad rfl ?_
 try simp only[F,go_sem]
 obtain⟨r37,akT,h0⟩:=bs h0
 refine Bc akT (bF.h0 dZ x2) (bF.x0 x2) ?_ ?_ ?_
 refine Ae.go [1,4,5,23,24,25] [16,17,18,48,49,50] rfl ?_
 try simp only[bF.h0,F,go_sem]
 rintro⟨i5,l6⟩ dU Bq Bs h1 aS aY bM
 refine rS ?_
 simp only[bF.b0]at h1
 try simp only[Ct.s0,bF.h0,F,go_sem]
 refine AF F h1 ?_ ?_<;>intro F h1<;>try simp only[F,go_sem]
 obtain⟨x9,fM,h1⟩:=bs h1
 have F:=an (aG fM) (an (aF Au.c fM) F)
 try simp only[F,go_sem]
 refine AF F h1 ?_ ?_<;>intro F h1<;>try simp only[F,go_sem]
 obtain⟨u11,akU,h1⟩:=bs h1
 have F:=an (ai4 akU) F
 try simp only[F,go_sem]
 obtain⟨cA,gW,h1⟩:=bs h1
 have F:=an (aG gW) (an (aF eI gW) F)
 try simp only[F,go_sem]
 obtain⟨r24,akR,h1⟩:=bs h1
 refine Bc akR (bF.h1 dZ x2 i5 x9 cA) (bF.x1 dZ x2 i5) ?_ ?_ ?_
 refine Ae.go [1,4,5,7,8,23,24,25,41] [0,1,2,3,4,5,70] rfl ?_
 try simp only[bF.h1,F,go_sem]
 rintro⟨i13,kj⟩ yD DW DY h2 iv lI xy
 refine rS ?_
 simp only[bF.b1]at h2
 try simp only[Ct.s1,bF.h1,F,go_sem]
 refine AF F h2 ?_ ?_<;>intro F h2<;>try simp only[F,go_sem]
 obtain⟨u17,akW,h2⟩:=bs h2
 have F:=an (aa4 akW) F
 try simp only[F,go_sem]
 refine AF F h2 ?_ ?_<;>intro F h2<;>try simp only[F,go_sem]
 refine A1 As bY 1000 ?_
 try simp only[F,go_sem]
 obtain⟨vk,vw,h2⟩:=bs h2
 have akv:=Ao.dm qv (Ao.skip (Ao.self qw x9.CD) ([.int .i64 x9.At]:List AV)) vw
 have ae2:=akv.2
 try simp only[Ay,AE,go_sem]at ae2
 have F:=an (au vw) (an ae2 F)
 try simp only[F,go_sem]
 obtain⟨gV,bG,h2⟩:=bs h2
 have F:=an (aG bG) (an (aF (Aa.c (n:=2) (Aa.c (n:=32) ah)) bG) F)
 try simp only[F,go_sem]
 obtain⟨qo,fg,h2⟩:=bs h2
 have u0:=Ao.dm qv (Ao.self qw gV) fg
 have ae3:=u0.2
 try simp only[Ay,AE,go_sem]at ae3
 have F:=an (au fg) (an ae3 F)
 try simp only[F,go_sem]
 obtain⟨uo,vr,h2⟩:=bs h2
 have q22:=u0.1.ow vk
 try simp only[Ay,AE,go_sem]at q22
 have acA:=p4 (Aa.c (n:=2) (Aa.c (n:=32) ah)) vr
 try simp only[go_sem]at acA
 have F:=an acA (an (ni vr) (an (p7 (Aa.c (n:=2) (Aa.c (n:=32) ah)) vr) F))
 try simp only[q22,F,go_sem]
 refine aT ?_
 try simp only[F,go_sem]
 refine Aq (iv _ _ (oi h2).symm (Ae.go [1,4,5,7,8,23,24,25,41] [0,1,2,3,4,5,6] rfl ?_))
 try simp only[bF.h1,F,go_sem]
 refine Aq (iv _ _ (oi h2).symm (Ae.go [1,4,5,7,8,23,24,25,41] [0,1,2,3,4,5,6] rfl ?_))
 try simp only[bF.h1,F,go_sem]
 refine Aq (lI _ _ (oi h2).symm (Ae.go [1,4,5,23,24,25] [0,1,2,3,4,5] rfl ?_))
 try simp only[bF.x1,F,go_sem]
 rintro ko aQ
 subst aQ
 simp only at h1
 refine rS ?_
 try simp only[bF.x1,F,go_sem]
 refine Aq (aS _ _ (oi h1).symm (Ae.go [1,4,5,23,24,25] [0,1,2,3,4,5] rfl ?_))
 try simp only[bF.h0,F,go_sem]
 obtain⟨r36,akS,h1⟩:=bs h1
 refine Bc akS (bF.sY dZ x2 i5 x9) (bF.abe dZ x2 i5) ?_ ?_ ?_
 refine Ae.go [1,4,5,7,8,23,24,25,41] [0,1,2,3,4,5,70] rfl ?_
 try simp only[bF.sY,F,go_sem]
 rintro⟨i25,m1⟩ yD DW DY h2 iv lI xy
 refine rS ?_
 simp only[bF.abB]at h2
 try simp only[Ct.s1,bF.sY,F,go_sem]
 refine AF F h2 ?_ ?_<;>intro F h2<;>try simp only[F,go_sem]
 obtain⟨u29,akX,h2⟩:=bs h2
 have F:=an (aa4 akX) F
 try simp only[F,go_sem]
 refine AF F h2 ?_ ?_<;>intro F h2<;>try simp only[F,go_sem]
 refine A1 As bY 1000 ?_
 try simp only[F,go_sem]
 obtain⟨x31,afg,h2⟩:=bs h2
 have akw:=Ao.dm qv (Ao.skip (Ao.self qw x9.CD) ([.int .i64 x9.At]:List AV)) afg
 have ae4:=akw.2
 try simp only[Ay,AE,go_sem]at ae4
 have F:=an (au afg) (an ae4 F)
 try simp only[F,go_sem]
 obtain⟨yC,afh,h2⟩:=bs h2
 have F:=an (aG afh) (an (aF (Aa.c (n:=2) (Aa.c (n:=32) ah)) afh) F)
 try simp only[F,go_sem]
 obtain⟨x33,afi,h2⟩:=bs h2
 have aeP:=Ao.dm qv (Ao.self qw yC) afi
 have ae5:=aeP.2
 try simp only[Ay,AE,go_sem]at ae5
 have F:=an (au afi) (an ae5 F)
 try simp only[F,go_sem]
 obtain⟨l35,abf,h2⟩:=bs h2
 have q34:=aeP.1.ow x31
 try simp only[Ay,AE,go_sem]at q34
 have acB:=p4 (Aa.c (n:=2) (Aa.c (n:=32) ah)) abf
 try simp only[go_sem]at acB
 have F:=an acB (an (ni abf) (an (p7 (Aa.c (n:=2) (Aa.c (n:=32) ah)) abf) F))
 try simp only[q34,F,go_sem]
 refine aT ?_
 try simp only[F,go_sem]
 refine Aq (iv _ _ (oi h2).symm (Ae.go [1,4,5,7,8,23,24,25,41] [0,1,2,3,4,5,6] rfl ?_))
 try simp only[bF.sY,F,go_sem]
 refine Aq (iv _ _ (oi h2).symm (Ae.go [1,4,5,7,8,23,24,25,41] [0,1,2,3,4,5,6] rfl ?_))
 try simp only[bF.sY,F,go_sem]
 refine Aq (lI _ _ (oi h2).symm (Ae.go [1,4,5,23,24,25] [0,1,2,3,4,5] rfl ?_))
 try simp only[bF.abe,F,go_sem]
 rintro rC aQ
 subst aQ
 simp only at h1
 refine rS ?_
 try simp only[bF.abe,F,go_sem]
 refine Aq (aS _ _ (oi h1).symm (Ae.go [1,4,5,23,24,25] [0,1,2,3,4,5] rfl ?_))
 try simp only[bF.h0,F,go_sem]
 refine Aq (aY _ _ (oi h1).symm (Ae.go [4,5] [0,1,2,3,4,5] rfl ?_))
 try simp only[bF.x0,F,go_sem]
 rintro l7 aQ
 subst aQ
 simp only at h0
 refine rS ?_
 try simp only[bF.x0,F,go_sem]
 obtain rfl:=oi h0
 refine Ad rfl ?_
 try simp only[F,go_sem]
def Fi.c:SC:=
 SQ [RG [wA 0 42,wA 1 48],RG [oQ 3 (.makeSlice 39 (.const (.int .i64 602)) (.const (.int .i64 602))) 39,oQ 4 (.build 42 #[(0,.tmp 3)]) 42 [3],wA 2 42,wS 42 2 4 [4]],.bB [wF 5 42 2 0,wD 6 39 5,wC 7 101 #[.const (.int .i64 1),.const (.int .i64 0)] #[3,3] 126,wJ 8 39 6 0,wJ 9 139 8 0,wS 122 9 7] [[],[0],[],[0,1],[0,1,3,2],[0,1,3,2,4]] [5,6,7,8,9],RG [wD 10 42 2 [2],oQ 11 (.build 48 #[(2,
 .const (.int .i64 1)),(3,.const (.int .i64 1))]) 48,wS 42 0 10 [10],wS 48 1 11 [11]],.ret]
def yY (k:Nat):Option (Af×A9):=
 (ot 602 64 ((Aa.rep 2 ((Aa.rep 32 (0:Int)):(Aa 32 Int))):(Aa 2 (Aa 32 Int)))).bind fun l1=>
 (vQ k 1 0).bind fun x2=>
 (at? l1 0).bind fun x3=>
 (x3.at? 0).bind fun x4=>
 (fZ l1 0 (x3.set 0 x2)).bind fun l6=>
 some ((⟨l6,[]⟩:Af),(⟨(⟨[]⟩:Al),0,1,1⟩:A9))
theorem agm (k:Nat) (r:Af×A9) (h0:yY k=some r):An Try.prog 43 [] (fun y=>y=.ak [.agg (Af.c r.1),.agg (A9.c r.2)]):=by
 refine PB Try.f43 Fi.c [.cell 0 42,.cell 1 48] ?_
 simp only[yY]at h0
 try simp only[Fi.c,go_sem]
 have hz:=bs h0;clear h0;cases hz;rename_i l1 hz;cases hz;rename_i yE h0
 obtain⟨_,aiF⟩:=aiQ yE
 have ahl:List.replicate 602 (Aa.c (n:=2) (Aa.c (n:=32) ah) (Aa.rep 2 ((Aa.rep 32 (0:Int)):(Aa 32 Int))))=List.map (Aa.c (n:=2) (Aa.c (n:=32) ah)) l1:=aiP (Aa.c (n:=2) (Aa.c (n:=32) ah)) yE
 have ai3:l1.length=602:=aiO yE
 have akr:List.take 602 (List.map (Aa.c (n:=2) (Aa.c (n:=32) ah)) l1)=List.map (Aa.c (n:=2) (Aa.c (n:=32) ah)) l1:=aiR (Aa.c (n:=2) (Aa.c (n:=32) ah)) yE
 have F:=an ahl (an ai3 (an akr ((@id (Int.toNat 602=602) rfl))))
 try simp only[aaJ aiF,F,go_sem]
 refine A1 As bY 1000 ?_
 try simp only[F,go_sem]
 refine eJ h0 (abS k _ _) ?_ (fun x2 h0=>?_)<;>try simp only[F,go_sem]
 have hz:=bs h0;clear h0;cases hz;rename_i x3 hz;cases hz;rename_i cv h0
 have acD:=aG cv
 simp only[F,go_sem]at acD
 have F:=an acD (an (aF (Aa.c (n:=2) (Aa.c (n:=32) ah)) cv) F)
 try simp only[F,go_sem]
 have hz:=bs h0;clear h0;cases hz;rename_i x4 hz;cases hz;rename_i cq h0
 have nw:=Ao.dm qv (Ao.self qw x3) cq
 have oN:=nw.2
 try simp only[Ay,AE,go_sem]at oN
 have F:=an (au cq) (an oN F)
 try simp only[F,go_sem]
 have hz:=bs h0;clear h0;cases hz;rename_i l6 hz;cases hz;rename_i yl6 h0
 have q5:=nw.1.ow x2
 try simp only[Ay,AE,go_sem]at q5
 have acC:=p4 (Aa.c (n:=2) (Aa.c (n:=32) ah)) yl6
 try simp only[go_sem]at acC
 have aeF:=p7 (Aa.c (n:=2) (Aa.c (n:=32) ah)) yl6
 try simp only[F,go_sem]at aeF
 have F:=an acC (an (ni yl6) (an aeF F))
 try simp only[q5,F,go_sem]
 refine aT ?_
 try simp only[F,go_sem]
 obtain rfl:=oi h0
 refine Ad rfl ?_
 try simp only[F,go_sem]
end Go.Abs
namespace Go.Abs
open Go Go.Proofs Go.RowKit Go.Lib
def D1.c:SC:=
 SQ [RG [wB 0 false 4 [0]],RG [oQ 26 (.build 23 #[(0,.const (.int .i64 2))]) 23,oQ 27 (.build 25 #[(0,.tmp 26),(1,.const (.int .i64 5)),(2,.const (.int .i64 10)),(3,.const (.int .i64 12)),(5,.const (.string ⟨#[98,101,110,116,32,49,48,48,48]⟩))]) 25 [26],wA 1 25,wS 25 1 27 [27]],RG [wD 29 25 1,wU 30 26 29 25 57 [29],wV 28 30 57 [30],wX 31 28 0 56,wX 32 28 1 28 [28],wG 2 31 56 [31],wG 3 32 28 [32]],
 RG [wD 34 25 1,wC 35 15 #[.tmp 34,.const (.int .i64 0),.const (.int .i64 1)] #[25,3,3] 29 [34],wV 33 35 29 [35],wX 36 33 0 27,wX 37 33 1 28 [33],wG 4 36 27 [36],wG 5 37 28 [37]],RG [wC 39 43 #[] #[] 76,wV 38 39 76 [39],wX 40 38 0 42,wX 41 38 1 48 [38],wA 6 42,wA 7 48,wS 42 6 40 [40],wS 48 7 41 [41]],RG [wD 43 42 6 [6],wD 44 48 7 [7],wD 45 25 1,wC 46 20 #[.tmp 43,.tmp 44,.tmp 45] #[42,48,
 25] 50 [43,44,45],wV 42 46 50 [46],wX 47 42 0 42,wX 48 42 1 48,wX 49 42 2 28 [42],wA 8 42,wA 9 48,wS 42 8 47 [47],wS 48 9 48 [48],wG 10 49 28 [49]],RG [wD 51 42 8,oQ 52 (.buildSlice 63 2 #[(0,.const (.int .i64 2)),(1,.const (.int .i64 0))]) 63,wW 53 36 51 52 42 63 42 [51,52],wU 54 32 53 42 50 [53],wV 50 54 50 [54],wX 55 50 0 42,wX 56 50 1 48,wX 57 50 2 28 [50],wA 11 42,wA 12 48,wS 42 11 55 [55],
 wS 48 12 56 [56],wG 13 57 28 [57]],RG [wD 59 42 11 [11],wD 60 48 12,wD 61 25 1 [1],wC 62 20 #[.tmp 59,.tmp 60,.tmp 61] #[42,48,25] 50 [59,60,61],wV 58 62 50 [62],wX 63 58 0 42,wX 64 58 1 48,wX 65 58 2 28 [58],wA 14 42,wA 15 48,wS 42 14 63 [63],wS 48 15 64 [64],wG 16 65 28 [65]],RG [wD 67 42 14,oQ 68 (.buildSlice 63 2 #[(0,.const (.int .i64 0)),(1,.const (.int .i64 1))]) 63,
 wW 69 36 67 68 42 63 42 [67,68],wU 70 32 69 42 50 [69],wV 66 70 50 [70],wX 71 66 0 42,wX 72 66 1 48,wX 73 66 2 28 [66],wA 17 42,wA 18 48,wS 42 17 71 [17,71],wS 48 18 72 [72],wG 19 73 28 [73]],RG [wD 75 42 14 [14],oQ 76 (.buildSlice 63 2 #[(0,.const (.int .i64 3)),(1,.const (.int .i64 3))]) 63,wW 77 36 75 76 42 63 42 [75,76],wU 78 32 77 42 50 [77],wV 74 78 50 [78],wX 79 74 0 42,wX 80 74 1 48,
 wX 81 74 2 28 [74],wA 20 42,wA 21 48,wS 42 20 79 [20,79],wS 48 21 80 [80],wG 22 81 28 [81]],RG [wV 82 3 28 [3],wK 83 .eql 28 82 0 28 4 [82],wV 84 83 4 [83],gd 84 true (wV 85 5 28 [5]),gd 84 true (wK 86 .eql 28 85 0 28 4 [85]),wZ 87 84 86 4 [84,86],wV 88 87 4 [87],gd 88 true (wV 89 10 28 [10]),gd 88 true (wK 90 .eql 28 89 0 28 4 [89]),wZ 91 88 90 4 [88,90],wV 92 91 4 [91],
 gd 92 true (wV 93 13 28 [13]),gd 92 true (wK 94 .eql 28 93 0 28 4 [93]),wZ 95 92 94 4 [92,94],wV 96 95 4 [95],gd 96 true (wV 97 16 28 [16]),gd 96 true (wK 98 .eql 28 97 0 28 4 [97]),wZ 99 96 98 4 [96,98],wV 100 99 4 [99],gd 100 true (wV 101 19 28 [19]),gd 100 true (wK 102 .eql 28 101 0 28 4 [101]),wZ 103 100 102 4 [100,102],wV 104 103 4 [103],gd 104 true (wV 105 22 28 [22]),
 gd 104 true (wK 106 .eql 28 105 0 28 4 [105]),wZ 107 104 106 4 [104,106],wG 23 107 4 [107]],RG [wV 108 2 56 [2],wL 109 108 56 3 [108],wK 110 .eql 3 109 25 3 4 [109],wV 111 110 4 [110],gd 111 true (wV 112 4 27),gd 111 true (wL 113 112 27 3 [112]),gd 111 true (wK 114 .eql 3 113 2 3 4 [113]),wZ 115 111 114 4 [111,114],wV 116 115 4 [115],gd 116 true (wV 117 4 27),gd 116 true (wJ 118 27 117 1 [117]),
 gd 116 true (wJ 119 122 118 6 [118]),gd 116 true (wD 120 5 119 [119]),gd 116 true (oQ 121 (.binOp .eql 5 (.tmp 120) (.const (.int .u8 1)) 5) 4 [120]),wZ 122 116 121 4 [116,121],wV 123 122 4 [122],gd 123 true (wV 124 4 27),gd 123 true (wJ 125 27 124 1 [124]),gd 123 true (wJ 126 122 125 7 [125]),gd 123 true (wD 127 5 126 [126]),
 gd 123 true (oQ 128 (.binOp .eql 5 (.tmp 127) (.const (.int .u8 2)) 5) 4 [127]),wZ 129 123 128 4 [123,128],wV 130 129 4 [129],gd 130 true (wV 131 4 27 [4]),gd 130 true (wJ 132 27 131 0 [131]),gd 130 true (wJ 133 122 132 31 [132]),gd 130 true (wD 134 5 133 [133]),gd 130 true (oQ 135 (.binOp .eql 5 (.tmp 134) (.const (.int .u8 165)) 5) 4 [134]),wZ 136 130 135 4 [130,135],wG 24 136 4 [136]],
 RG [wF 137 42 8 1 [8],wD 138 40 137 [137],wL 139 138 40 3 [138],wK 140 .eql 3 139 2 3 4 [139],wV 141 140 4 [140],gd 141 true (wF 142 48 9 3 [9]),gd 141 true (wD 143 3 142 [142]),gd 141 true (wK 144 .eql 3 143 3 3 4 [143]),wZ 145 141 144 4 [141,144],wV 146 145 4 [145],gd 146 true (wF 147 48 12 0),gd 146 true (wF 148 46 147 0 [147]),gd 146 true (wD 149 44 148 [148]),
 gd 146 true (wL 150 149 44 3 [149]),gd 146 true (wK 151 .eql 3 150 0 3 4 [150]),wZ 152 146 151 4 [146,151],wV 153 152 4 [152],gd 153 true (wF 154 48 12 2 [12]),gd 153 true (wD 155 3 154 [154]),gd 153 true (wK 156 .eql 3 155 2 3 4 [155]),wZ 157 153 156 4 [153,156],wV 158 157 4 [157],gd 158 true (wF 159 48 15 3 [15]),gd 158 true (wD 160 3 159 [159]),gd 158 true (wK 161 .eql 3 160 3 3 4 [160]),
 wZ 162 158 161 4 [158,161],wG 25 162 4 [162]],RG [wV 163 23 4 [23],wV 164 163 4 [163],gd 164 true (wV 165 24 4 [24]),wZ 166 164 165 4 [164,165],wV 167 166 4 [166],gd 167 true (wV 168 25 4 [25]),wZ 169 167 168 4 [167,168],wV 170 169 4 [169],gd 170 true (wF 171 48 18 0),gd 170 true (wF 172 46 171 0 [171]),gd 170 true (wD 173 44 172 [172]),gd 170 true (wL 174 173 44 3 [173]),
 gd 170 true (wK 175 .eql 3 174 0 3 4 [174]),wZ 176 170 175 4 [170,175],wV 177 176 4 [176],gd 177 true (wF 178 48 18 2 [18]),gd 177 true (wD 179 3 178 [178]),gd 177 true (wK 180 .eql 3 179 3 3 4 [179]),wZ 181 177 180 4 [177,180],wV 182 181 4 [181],gd 182 true (wF 183 48 21 0),gd 182 true (wF 184 46 183 0 [183]),gd 182 true (wD 185 44 184 [184]),gd 182 true (wL 186 185 44 3 [185]),
 gd 182 true (wK 187 .eql 3 186 1 3 4 [186]),wZ 188 182 187 4 [182,187],wV 189 188 4 [188],gd 189 true (wF 190 48 21 2 [21]),gd 189 true (wD 191 3 190 [190]),gd 189 true (wK 192 .eql 3 191 3 3 4 [191]),wZ 193 189 192 4 [189,192],wG 0 193 4 [193]],.ret]
theorem D1.rs:Try.f14.results.toList=[.tmp 0]:=rfl
def D7 (k:Nat):Option (Bool):=
 (yX k (⟨(⟨2,0⟩:Entry),5,10,12,(⟨0,0⟩:Entry),(⟨#[98,101,110,116,32,49,48,48,48]⟩:ByteArray)⟩:Ab)).bind fun x1=>
 (hX k (⟨(⟨2,0⟩:Entry),5,10,12,(⟨0,0⟩:Entry),(⟨#[98,101,110,116,32,49,48,48,48]⟩:ByteArray)⟩:Ab) 0 1).bind fun x2=>
 (yY k).bind fun x3=>
 (vK k x3.1 x3.2 (⟨(⟨2,0⟩:Entry),5,10,12,(⟨0,0⟩:Entry),(⟨#[98,101,110,116,32,49,48,48,48]⟩:ByteArray)⟩:Ab)).bind fun x4=>
 (bF k x4.1 [2,0]).bind fun x5=>
 (sx k x5).bind fun x6=>
 (vK k x6.1 x6.2.1 (⟨(⟨2,0⟩:Entry),5,10,12,(⟨0,0⟩:Entry),(⟨#[98,101,110,116,32,49,48,48,48]⟩:ByteArray)⟩:Ab)).bind fun x7=>
 (bF k x7.1 [0,1]).bind fun x8=>
 (sx k x8).bind fun x9=>
 (bF k x7.1 [3,3]).bind fun dK=>
 (sx k dK).bind fun ed=>
 bif decide (x1.2=(0:Int)) then
  bif decide (x2.2=(0:Int)) then
   bif decide (x4.2.2=(0:Int)) then
    bif decide (x6.2.2=(0:Int)) then
     bif decide (x7.2.2=(0:Int)) then
      bif decide (x9.2.2=(0:Int)) then
       bif decide ((x1.1.length:Int)=(25:Int)) then
        bif decide ((x2.1.length:Int)=(2:Int)) then
         (at? x2.1 1).bind fun gV=>
         (gV.at? 6).bind fun qo=>
         bif decide (qo=(1:Int)) then
          (gV.at? 7).bind fun x23=>
          bif decide (x23=(2:Int)) then
           (at? x2.1 0).bind fun x25=>
           (x25.at? 31).bind fun x26=>
           bif decide ((x4.1.AD.length:Int)=(2:Int)) then
            bif decide (x4.2.1.Used=(3:Int)) then
             bif decide ((x6.2.1.Al.Ac.length:Int)=(0:Int)) then
              bif decide (x6.2.1.Cl=(2:Int)) then
               bif decide (ed.2.2=(0:Int)) then
                bif decide (x26=(165:Int)) then
                 bif decide (x7.2.1.Used=(3:Int)) then
                  bif decide ((x9.2.1.Al.Ac.length:Int)=(0:Int)) then
                   bif decide (x9.2.1.Cl=(3:Int)) then
                    bif decide ((ed.2.1.Al.Ac.length:Int)=(1:Int)) then
                     some (decide (ed.2.1.Cl=(3:Int)))
                    else
                     none
                   else
                    none
                  else
                   none
                 else
                  none
                else
                 none
               else
                none
              else
               none
             else
              none
            else
             none
           else
            none
          else
           none
         else
          none
        else
         none
       else
        none
      else
       none
     else
      none
    else
     none
   else
    none
  else
   none
 else
  none
theorem Gi (k:Nat) (r:Bool) (h0:D7 k=some r):An Try.prog 14 [] (fun y=>y=.bool r):=by
 refine An.nlr (An.ft As (fn:=Try.f14) (sc:=D1.c) (by rfl) (by rfl) (by decide +kernel) (by rfl) (by decide +kernel) (Nat.le_of_ble_eq_true rfl) ?_)
 refine rS ?_
 simp only[D7]at h0
 try simp only[D1.c,go_sem]
 obtain⟨x1,kD,h0⟩:=bs h0
 refine gA (agj k _ _ kD) ?_ ?_
 ·try simp only[go_sem]
 try simp only[go_sem]
 obtain⟨x2,gz,h0⟩:=bs h0
 refine gA (agk k _ _ _ _ gz) ?_ ?_
 ·try simp only[go_sem]
 try simp only[go_sem]
 obtain⟨x3,cv,h0⟩:=bs h0
 refine gA (agm k _ cv) ?_ ?_
 ·try simp only[go_sem]
 try simp only[go_sem]
 obtain⟨x4,cq,h0⟩:=bs h0
 refine gA (abH k _ _ _ _ cq) ?_ ?_
 ·try simp only[go_sem]
 try simp only[go_sem]
 obtain⟨x5,cK,h0⟩:=bs h0
 refine DV As 1000 [656] (yW k _ _ _ cK) ?_ ?_
 ·try simp only[go_sem]
 try simp only[go_sem]
 obtain⟨x6,cO,h0⟩:=bs h0
 refine gA (yZ k _ _ cO) ?_ ?_
 ·try simp only[go_sem]
 try simp only[go_sem]
 obtain⟨x7,jR,h0⟩:=bs h0
 refine gA (abH k _ _ _ _ jR) ?_ ?_
 ·try simp only[go_sem]
 try simp only[go_sem]
 obtain⟨x8,mh,h0⟩:=bs h0
 refine DV As 1000 [1072] (yW k _ _ _ mh) ?_ ?_
 ·try simp only[go_sem]
 try simp only[go_sem]
 obtain⟨x9,fM,h0⟩:=bs h0
 refine gA (yZ k _ _ fM) ?_ ?_
 ·try simp only[go_sem]
 try simp only[go_sem]
 obtain⟨dK,jP,h0⟩:=bs h0
 refine DV As 1000 [1280] (yW k _ _ _ jP) ?_ ?_
 ·try simp only[go_sem]
 try simp only[go_sem]
 obtain⟨ed,mf,h0⟩:=bs h0
 refine gA (yZ k _ _ mf) ?_ ?_
 ·try simp only[go_sem]
 try simp only[go_sem]
 refine AO h0 (fun dE h0=>?_) (fun dE h0=>?_)
 ·try simp only[dE,go_sem]
  refine AO h0 (fun dt h0=>?_) (fun dt h0=>?_)
  ·try simp only[dt,dE,go_sem]
   refine AO h0 (fun dP h0=>?_) (fun dP h0=>?_)
   ·try simp only[dP,dE,dt,go_sem]
    refine AO h0 (fun dV h0=>?_) (fun dV h0=>?_)
    ·try simp only[dV,dE,dt,dP,go_sem]
     refine AO h0 (fun eg h0=>?_) (fun eg h0=>?_)
     ·try simp only[eg,dE,dt,dP,dV,go_sem]
      refine AO h0 (fun eH h0=>?_) (fun eH h0=>?_)
      ·try simp only[eH,dE,dt,dP,dV,eg,go_sem]
       refine AO h0 (fun eV h0=>?_) (fun eV h0=>?_)
       ·try simp only[eV,dE,dt,dP,dV,eg,eH,go_sem]
        refine AO h0 (fun fj h0=>?_) (fun fj h0=>?_)
        ·try simp only[fj,dE,dt,dP,dV,eg,eH,eV,go_sem]
         obtain⟨gV,bG,h0⟩:=bs h0
         try simp only[aG bG,aF (Aa.c (n:=32) ah) bG,dE,dt,dP,dV,eg,eH,eV,fj,go_sem]
         obtain⟨qo,fg,h0⟩:=bs h0
         have u0:=Ao.at iL (Ao.self vy gV) fg
         have fO:=u0.bound iL
         have fU:=u0.get iL
         try simp only[Ay,AE,go_sem]at fO fU
         try simp only[au fg,fO,fU,dE,dt,dP,dV,eg,eH,eV,fj,aG bG,aF (Aa.c (n:=32) ah) bG,go_sem]
         refine AO h0 (fun gh h0=>?_) (fun gh h0=>?_)
         ·try simp only[gh,aG bG,aF (Aa.c (n:=32) ah) bG,dE,dt,dP,dV,eg,eH,eV,fj,au fg,fO,fU,go_sem]
          obtain⟨x23,gX,h0⟩:=bs h0
          have aeN:=Ao.at iL (Ao.self vy gV) gX
          have gB:=aeN.bound iL
          have gH:=aeN.get iL
          try simp only[Ay,AE,go_sem]at gB gH
          try simp only[au gX,gB,gH,dE,dt,dP,dV,eg,eH,eV,fj,aG bG,aF (Aa.c (n:=32) ah) bG,au fg,fO,fU,gh,go_sem]
          refine AO h0 (fun ib h0=>?_) (fun ib h0=>?_)
          ·try simp only[ib,dE,dt,dP,dV,eg,eH,eV,fj,aG bG,aF (Aa.c (n:=32) ah) bG,au fg,fO,fU,gh,au gX,gB,gH,go_sem]
           obtain⟨x25,dN,h0⟩:=bs h0
           try simp only[aG dN,aF (Aa.c (n:=32) ah) dN,dE,dt,dP,dV,eg,eH,eV,fj,aG bG,aF (Aa.c (n:=32) ah) bG,au fg,fO,fU,gh,au gX,gB,gH,ib,go_sem]
           obtain⟨x26,jQ,h0⟩:=bs h0
           have aeO:=Ao.at iL (Ao.self vy x25) jQ
           have je:=aeO.bound iL
           have jl:=aeO.get iL
           try simp only[Ay,AE,go_sem]at je jl
           try simp only[au jQ,je,jl,dE,dt,dP,dV,eg,eH,eV,fj,aG bG,aF (Aa.c (n:=32) ah) bG,au fg,fO,fU,gh,au gX,gB,gH,ib,aG dN,aF (Aa.c (n:=32) ah) dN,go_sem]
           refine AO h0 (fun jU h0=>?_) (fun jU h0=>?_)
           ·try simp only[jU,dE,dt,dP,dV,eg,eH,eV,fj,aG bG,aF (Aa.c (n:=32) ah) bG,au fg,fO,fU,gh,au gX,gB,gH,ib,aG dN,aF (Aa.c (n:=32) ah) dN,au jQ,je,jl,go_sem]
            refine AO h0 (fun kL h0=>?_) (fun kL h0=>?_)
            ·try simp only[kL,dE,dt,dP,dV,eg,eH,eV,fj,aG bG,aF (Aa.c (n:=32) ah) bG,au fg,fO,fU,gh,au gX,gB,gH,ib,aG dN,aF (Aa.c (n:=32) ah) dN,au jQ,je,jl,jU,go_sem]
             refine AO h0 (fun lr h0=>?_) (fun lr h0=>?_)
             ·try simp only[lr,dE,dt,dP,dV,eg,eH,eV,fj,aG bG,aF (Aa.c (n:=32) ah) bG,au fg,fO,fU,gh,au gX,gB,gH,ib,aG dN,aF (Aa.c (n:=32) ah) dN,au jQ,je,jl,jU,kL,go_sem]
              refine AO h0 (fun my h0=>?_) (fun my h0=>?_)
              ·try simp only[my,dE,dt,dP,dV,eg,eH,eV,fj,aG bG,aF (Aa.c (n:=32) ah) bG,au fg,fO,fU,gh,au gX,gB,gH,ib,aG dN,aF (Aa.c (n:=32) ah) dN,au jQ,je,jl,jU,kL,lr,go_sem]
               refine AO h0 (fun nF h0=>?_) (fun nF h0=>?_)
               ·try simp only[nF,dE,dt,dP,dV,eg,eH,eV,fj,aG bG,aF (Aa.c (n:=32) ah) bG,au fg,fO,fU,gh,au gX,gB,gH,ib,aG dN,aF (Aa.c (n:=32) ah) dN,au jQ,je,jl,jU,kL,lr,my,go_sem]
                refine AO h0 (fun pa h0=>?_) (fun pa h0=>?_)
                ·try simp only[pa,dE,dt,dP,dV,eg,eH,eV,fj,aG bG,aF (Aa.c (n:=32) ah) bG,au fg,fO,fU,gh,au gX,gB,gH,ib,aG dN,aF (Aa.c (n:=32) ah) dN,au jQ,je,jl,jU,kL,lr,my,nF,go_sem]
                 refine AO h0 (fun qI h0=>?_) (fun qI h0=>?_)
                 ·try simp only[qI,dE,dt,dP,dV,eg,eH,eV,fj,aG bG,aF (Aa.c (n:=32) ah) bG,au fg,fO,fU,gh,au gX,gB,gH,ib,aG dN,aF (Aa.c (n:=32) ah) dN,au jQ,je,jl,jU,kL,lr,my,nF,pa,go_sem]
                  refine AO h0 (fun sE h0=>?_) (fun sE h0=>?_)
                  ·try simp only[sE,dE,dt,dP,dV,eg,eH,eV,fj,aG bG,aF (Aa.c (n:=32) ah) bG,au fg,fO,fU,gh,au gX,gB,gH,ib,aG dN,aF (Aa.c (n:=32) ah) dN,au jQ,je,jl,jU,kL,lr,my,nF,pa,qI,go_sem]
                   refine AO h0 (fun vU h0=>?_) (fun vU h0=>?_)
                   ·try simp only[vU,dE,dt,dP,dV,eg,eH,eV,fj,aG bG,aF (Aa.c (n:=32) ah) bG,au fg,fO,fU,gh,au gX,gB,gH,ib,aG dN,aF (Aa.c (n:=32) ah) dN,au jQ,je,jl,jU,kL,lr,my,nF,pa,qI,sE,go_sem]
                    refine AO h0 (fun za h0=>?_) (fun za h0=>?_)
                    ·try simp only[za,dE,dt,dP,dV,eg,eH,eV,fj,aG bG,aF (Aa.c (n:=32) ah) bG,au fg,fO,fU,gh,au gX,gB,gH,ib,aG dN,aF (Aa.c (n:=32) ah) dN,au jQ,je,jl,jU,kL,lr,my,nF,pa,qI,sE,vU,go_sem]
                     obtain rfl:=oi h0
                     refine Ad rfl ?_
                     try simp only[D1.rs,dE,dt,dP,dV,eg,eH,eV,fj,aG bG,aF (Aa.c (n:=32) ah) bG,au fg,fO,fU,gh,au gX,gB,gH,ib,aG dN,aF (Aa.c (n:=32) ah) dN,au jQ,je,jl,jU,kL,lr,my,nF,pa,qI,sE,vU,za,go_sem]
                    ·cases h0
                   ·cases h0
                  ·cases h0
                 ·cases h0
                ·cases h0
               ·cases h0
              ·cases h0
             ·cases h0
            ·cases h0
           ·cases h0
          ·cases h0
         ·cases h0
        ·cases h0
       ·cases h0
      ·cases h0
     ·cases h0
    ·cases h0
   ·cases h0
  ·cases h0
 ·cases h0
def Du.s0:SC:=
 SQ [SQ [RG [wV 12 6 3,wV 13 0 44,wL 14 13 44 3 [13],wO 15 .lss 3 12 14 3 4 [12,14],wV 16 15 4 [15],gd 16 true (wV 17 5 4),wZ 18 16 17 4 [16,17]],CN 18 .skip (.exit 0)],.block 1 (.bB [wV 21 0 44,wV 22 6 3,wI 23 44 21 22,wD 24 25 23,wV 25 1 44,wV 26 6 3,wI 27 44 25 26,wD 28 25 27,wO 29 .eql 25 24 28 25 4,wG 5 29 4] [[],[],[0,1],[0,1,2],[],[],[4,5],[4,5,6],[0,1,2,3,4,5,6,7],[0,1,2,3,4,5,6,7,
 8]] [21,22,23,24,25,26,27,28,29]),RG [wV 19 6 3 [6],wK 20 .add 3 19 1 3 3 [19],wG 6 20 3 [20]]]
def Du.c:SC:=
 SQ [RG [wB 4 false 4 [4]],RG [wV 7 0 44,wL 8 7 44 3 [7],wV 9 1 44,wL 10 9 44 3 [9],wO 11 .eql 3 8 10 3 4 [8,10],wG 5 11 4 [11]],SQ [RG [wN 6 0 3],.block 0 (.loop Du.s0)],RG [wV 30 5 4 [5],wG 4 30 4 [30]],.ret]
def Bu.b0 (k:Nat) (a0:(List Ab)) (b1:(List Ab)):(Bool×Int)->Option (AW (Bool×Int) (Bool) (Bool)):=fun s=>match s with
 |(b2,i3)=>
   bif decide (i3<(a0.length:Int)) then
    bif b2 then
     (at? a0 i3).bind fun x7=>
     (at? b1 i3).bind fun x8=>
     some (.next ((decide (x7.At.Ag=x8.At.Ag)&&(decide (x7.At.No=x8.At.No)&&(decide (x7.Kind=x8.Kind)&&(decide (x7.Day=x8.Day)&&(decide (x7.AI=x8.AI)&&(decide (x7.Of.Ag=x8.Of.Ag)&&(decide (x7.Of.No=x8.Of.No)&&(x7.Text.toList==x8.Text.toList)))))))),af (i3+1)))
    else
     some (.brk b2)
   else
    some (.brk b2)
def Bu.h0 (a0:(List Ab)) (b1:(List Ab)):(Bool×Int)->St:=fun s=>match s with
 |(b2,i3)=>⟨[(0,.sl 8 (List.map Ab.c a0)),(1,.sl 8 (List.map Ab.c b1)),(5,.bool b2),(6,.int .i64 i3)],[],[],1,Try.f59.ntmps⟩
def Bu.x0:Bool->St:=fun b4=>⟨[(5,.bool b4)],[],[],1,Try.f59.ntmps⟩
def Bu (k:Nat) (a0:(List Ab)) (b1:(List Ab)):Option (Bool):=
 (aB (Bu.b0 k a0 b1) k (decide ((a0.length:Int)=(b1.length:Int)),0)).bind fun r9=>match r9 with
 |.next _=>none
 |.ret v_=>some v_
 |.brk b4=>
  some b4
theorem FJ (k:Nat) (a0:(List Ab)) (b1:(List Ab)) (r:Bool) (h0:Bu k a0 b1=some r):An Try.prog 59 [.sl 8 (List.map Ab.c a0),.sl 8 (List.map Ab.c b1)] (fun y=>y=.bool r):=by
 refine PB Try.f59 Du.c [.tmp 4] ?_
 simp only[Bu]at h0
 try simp only[Du.c,go_sem]
 obtain⟨r9,yr9,h0⟩:=bs h0
 refine Bc yr9 (Bu.h0 a0 b1) (Bu.x0) ?_ ?_ ?_
 refine Ae.go [0,1,5,6] [] rfl ?_
 try simp only[Bu.h0,go_sem]
 rintro⟨b2,i3⟩ dU Bq Bs h1 aS aY bM
 refine rS ?_
 simp only[Bu.b0]at h1
 try simp only[Du.s0,Bu.h0,go_sem]
 refine AO h1 ?_ ?_<;>intro c5 h1<;>have F:=c5<;>try simp only[F,go_sem]
 refine AF F h1 ?_ ?_<;>intro F h1<;>try simp only[F,go_sem]
 refine A1 As bY 1000 ?_
 try simp only[F,go_sem]
 obtain⟨x7,jR,h1⟩:=bs h1
 have F:=an (aG jR) (an (aF Ab.c jR) F)
 try simp only[F,go_sem]
 obtain⟨x8,mh,h1⟩:=bs h1
 have F:=an (aG mh) (an (aF Ab.c mh) F)
 try simp only[F,go_sem]
 refine aT ?_
 try simp only[F,go_sem]
 refine Aq (aS _ _ (oi h1).symm (Ae.go [0,1,5,6] [] rfl ?_))
 try simp only[Bu.h0,F,go_sem]
 refine Aq (aY _ _ (oi h1).symm (Ae.go [5] [] rfl ?_))
 try simp only[Bu.x0,F,go_sem]
 refine Aq (aY _ _ (oi h1).symm (Ae.go [5] [] rfl ?_))
 try simp only[Bu.x0,F,go_sem]
 rintro b4 aQ
 subst aQ
 simp only at h0
 refine rS ?_
 try simp only[Bu.x0,go_sem]
 obtain rfl:=oi h0
 refine Ad rfl ?_
 try simp only[go_sem]
def Fh.c:SC:=
 SQ [RG [wE 2 46 0 [0],wE 3 46 1 [1],wB 4 false 4 [4]],RG [wF 5 46 2 0 [2],wD 6 44 5 [5],wF 7 46 3 0 [3],wD 8 44 7 [7],wW 9 59 6 8 44 44 4 [6,8],wG 4 9 4 [9]],.ret]
def DN (k:Nat) (a0:Al) (b1:Al):Option (Bool):=
 (Bu k a0.Ac b1.Ac).bind fun x1=>
 some x1
theorem Gq (k:Nat) (a0:Al) (b1:Al) (r:Bool) (h0:DN k a0 b1=some r):An Try.prog 42 [.agg (Al.c a0),.agg (Al.c b1)] (fun y=>y=.bool r):=by
 refine PB Try.f42 Fh.c [.tmp 4] ?_
 simp only[DN]at h0
 try simp only[Fh.c,go_sem]
 refine ay h0 (FJ k _ _) ?_ (fun x1 h0=>?_)<;>try simp only[go_sem]
 obtain rfl:=oi h0
 refine Ad rfl ?_
 try simp only[go_sem]
def Dr.s0:SC:=
 SQ [RG [wO 14 .lss 3 13 12 3 0],CN 14 .skip (.exit 0),.block 1 (SQ [RG [wV 15 13 3,wI 16 44 11 13,wD 17 25 16 [16],wA 5 25,wG 4 15 3 [15],wS 25 5 17 [17]],SQ [.bB [wD 18 25 5,wU 19 92 18 25 4,wQ 20 19 4,wV 21 20 4,gd 21 false (wV 22 4 3),gd 21 false (wK 23 .gtr 3 22 0 3 4),gd 21 false (wV 24 23 4),gd 24 true (wF 25 46 1 0),gd 24 true (wD 26 44 25),gd 24 true (wV 27 4 3),
 gd 24 true (wK 28 .sub 3 27 1 3 3),gd 24 true (wI 29 44 26 28),gd 24 true (wF 30 25 29 0),gd 24 true (wD 31 23 30),gd 24 true (wF 32 25 5 0),gd 24 true (wD 33 23 32),gd 24 true (wW 34 103 31 33 23 23 3),gd 24 true (wK 35 .geq 3 34 0 3 4),gd 21 false (wZ 36 24 35 4),wT 37 21 36 4,wV 38 37 4,gd 38 false (wF 39 25 5 0),gd 38 false (wF 40 23 39 1),gd 38 false (wD 41 3 40),gd 38 false (wF 42 25 5 0),
 gd 38 false (wF 43 23 42 0),gd 38 false (wD 44 3 43),gd 38 false (wI 45 95 3 44),gd 38 false (wD 46 3 45),gd 38 false (wO 47 .neq 3 41 46 3 4),wT 48 38 47 4] [[],[0],[0,1],[0,1,2],[0,1,2,3],[0,1,2,3,4],[0,1,2,3,4,5],[0,1,2,3,4,5,6],[0,1,2,3,4,5,6,7],[0,1,2,3,4,5,6],[0,1,2,3,4,5,6,9],[0,1,2,3,4,5,6,7,8,9,10],[0,1,2,3,4,5,6,7,8,9,10,11],[0,1,2,3,4,5,6,7,8,9,10,11,12],[0,1,2,3,4,5,6],[0,1,2,3,4,5,6,
 14],[0,1,2,3,4,5,6,7,8,9,10,11,12,13,14,15],[0,1,2,3,4,5,6,7,8,9,10,11,12,13,14,15,16],[0,1,2,3,4,5,6,7,8,9,10,11,12,13,14,15,16,17],[0,1,2,3,4,5,6,7,8,9,10,11,12,13,14,15,16,17,18],[0,1,2,3,4,5,6,7,8,9,10,11,12,13,14,15,16,17,18,19],[0,1,2,3,4,5,6,7,8,9,10,11,12,13,14,15,16,17,18,19,20],[0,1,2,3,4,5,6,7,8,9,10,11,12,13,14,15,16,17,18,19,20,21],[0,1,2,3,4,5,6,7,8,9,10,11,12,13,14,15,16,17,18,19,
 20,21,22],[0,1,2,3,4,5,6,7,8,9,10,11,12,13,14,15,16,17,18,19,20],[0,1,2,3,4,5,6,7,8,9,10,11,12,13,14,15,16,17,18,19,20,24],[0,1,2,3,4,5,6,7,8,9,10,11,12,13,14,15,16,17,18,19,20,24,25],[0,1,2,3,4,5,6,7,8,9,10,11,12,13,14,15,16,17,18,19,20,24,25,26],[0,1,2,3,4,5,6,7,8,9,10,11,12,13,14,15,16,17,18,19,20,24,25,26,27],[0,1,2,3,4,5,6,7,8,9,10,11,12,13,14,15,16,17,18,19,20,21,22,23,24,25,26,27,28],[0,1,
 2,3,4,5,6,7,8,9,10,11,12,13,14,15,16,17,18,19,20,21,22,23,24,25,26,27,28,29]] [4,18,19,20,21,22,23,24,25,26,27,28,29,30,31,32,33,34,35,36,37,38,39,40,41,42,43,44,45,46,47],CN 48 (SQ [RG [wN 2 91 28],.ret]) .skip],RG [wF 49 25 5 0 [5],wF 50 23 49 0 [49],wD 51 3 50 [50],wI 52 95 3 51,wD 53 3 52 [52],wK 54 .add 3 53 1 3 3 [53],wI 55 95 3 51 [51],wS 3 55 54 [54,55]]]),RG [wK 56 .add 3 13 1 3 3 [13],
 wV 13 56 3 [56]]]
def Dr.c:SC:=
 SQ [RG [wE 1 46 0 [0],wN 2 0 28 [2]],RG [wA 3 95],SQ [RG [wF 6 46 1 0,wD 7 44 6 [6],wL 8 7 44 3 [7],wK 9 .gtr 3 8 60 3 4 [8]],CN 9 (SQ [RG [wN 2 91 28],.ret]) .skip],SQ [RG [wF 10 46 1 0,wD 11 44 10 [10],wL 12 11 44 3,oQ 13 (.move (.const (.int .i64 0))) 3],.block 0 (.loop Dr.s0)],RG [wN 2 0 28],.ret]
def dO.b0 (k:Nat) (b0:Al):((Aa 6 Int)×Int)->Option (AW ((Aa 6 Int)×Int) (Unit) (Int)):=fun s=>match s with
 |(s2,i3)=>
   bif decide (i3<(b0.Ac.length:Int)) then
    (at? b0.Ac i3).bind fun x5=>
    (lp k x5).bind fun x6=>
    bif x6 then
     bif decide ((0:Int)<i3) then
      (at? b0.Ac (af (i3 - 1))).bind fun x9=>
      (qA k x9.At x5.At).bind fun dK=>
      bif (!decide ((0:Int)<=dK)) then
       (s2.at? x5.At.Ag).bind fun cA=>
       bif (!decide (x5.At.No=cA)) then
        some (.ret 91)
       else
        some (.next (s2.set x5.At.Ag (af (cA+1)),af (i3+1)))
      else
       some (.ret 91)
     else
      (s2.at? x5.At.Ag).bind fun eT=>
      bif (!decide (x5.At.No=eT)) then
       some (.ret 91)
      else
       some (.next (s2.set x5.At.Ag (af (eT+1)),af (i3+1)))
    else
     some (.ret 91)
   else
    some (.brk ())
def dO.h0 (b0:Al):((Aa 6 Int)×Int)->St:=fun s=>match s with
 |(s2,i3)=>⟨[(1,.ptr 0 0 0),(3,.ptr 0 1 0),(11,.sl 8 (List.map Ab.c b0.Ac)),(12,.int .i64 (b0.Ac.length:Int)),(13,.int .i64 i3)],[(0,.box ([.sl 8 (List.map Ab.c b0.Ac)])),(1,.box (Aa.c (n:=6) eI s2))],[],2,Try.f51.ntmps⟩
def dO.x0:Unit->St:=fun _=>⟨[],[],[],1,Try.f51.ntmps⟩
def dO (k:Nat) (b0:Al):Option (Int):=
 bif decide ((60:Int)<(b0.Ac.length:Int)) then
  some 91
 else
  (aB (dO.b0 k b0) k ((Aa.rep 6 (0:Int)),0)).bind fun r18=>match r18 with
  |.next _=>none
  |.ret v_=>some v_
  |.brk _=>
   some 0
theorem sv (k:Nat) (b0:Al) (r:Int) (h0:dO k b0=some r):An Try.prog 51 [.agg (Al.c b0)] (fun y=>y=.int .i64 r):=by
 refine PB Try.f51 Dr.c [.tmp 2] ?_
 simp only[dO]at h0
 try simp only[Dr.c,go_sem]
 refine AO h0 ?_ ?_<;>intro c1 h0<;>have F:=c1<;>try simp only[F,go_sem]
 obtain rfl:=oi h0
 refine Ad rfl ?_
 try simp only[F,go_sem]
 obtain⟨r18,akO,h0⟩:=bs h0
 refine Bc akO (dO.h0 b0) (dO.x0) ?_ ?_ ?_
 refine Ae.go [1,3,11,12,13] [0,32] rfl ?_
 try simp only[dO.h0,F,go_sem]
 rintro⟨s2,i3⟩ dU Bq Bs h1 aS aY bM
 refine rS ?_
 simp only[dO.b0]at h1
 try simp only[Dr.s0,dO.h0,F,go_sem]
 refine AF F h1 ?_ ?_<;>intro F h1<;>try simp only[F,go_sem]
 obtain⟨x5,cK,h1⟩:=bs h1
 have F:=an (aG cK) (an (aF Ab.c cK) F)
 try simp only[F,go_sem]
 refine A1 As bY 1000 ?_
 try simp only[F,go_sem]
 refine eJ h1 (vS k _) ?_ (fun x6 h1=>?_)<;>try simp only[F,go_sem]
 refine DF F h1 ?_ ?_<;>intro F h1<;>try simp only[F,go_sem]
 refine DF F h1 ?_ ?_<;>intro F h1<;>try simp only[F,go_sem]
 obtain⟨x9,fM,h1⟩:=bs h1
 have F:=an (aG fM) (an (aF Ab.c fM) F)
 try simp only[F,go_sem]
 refine eJ h1 (abL k _ _) ?_ (fun dK h1=>?_)<;>try simp only[F,go_sem]
 refine ET F h1 ?_ ?_<;>intro F h1<;>try simp only[F,go_sem]
 obtain⟨cA,gW,h1⟩:=bs h1
 have aeL:=Ao.dm mj (Ao.self yI s2) gW
 have ae0:=aeL.2
 try simp only[Ay,AE,go_sem]at ae0
 have F:=an (au gW) (an ae0 F)
 try simp only[F,go_sem]
 refine aT ?_
 try simp only[F,go_sem]
 refine Bd F h1 ?_ ?_<;>intro F h1<;>try simp only[F,go_sem]
 obtain rfl:=bM _ (oi h1).symm
 simp only at h0
 obtain rfl:=oi h0
 refine Ad rfl ?_
 try simp only[F,go_sem]
 have uL:=aeL.1.ow (af (cA+1))
 try simp only[Ay,AE,go_sem]at uL
 try simp only[uL,F,go_sem]
 refine Aq (aS _ _ (oi h1).symm (Ae.go [1,3,11,12,13] [0,1] rfl ?_))
 try simp only[dO.h0,F,go_sem]
 refine aT ?_
 try simp only[F,go_sem]
 obtain rfl:=bM _ (oi h1).symm
 simp only at h0
 obtain rfl:=oi h0
 refine Ad rfl ?_
 try simp only[F,go_sem]
 obtain⟨eT,mg,h1⟩:=bs h1
 have uZ:=Ao.dm mj (Ao.self yI s2) mg
 have u6:=uZ.2
 try simp only[Ay,AE,go_sem]at u6
 have F:=an (au mg) (an u6 F)
 try simp only[F,go_sem]
 refine aT ?_
 try simp only[F,go_sem]
 refine Bd F h1 ?_ ?_<;>intro F h1<;>try simp only[F,go_sem]
 obtain rfl:=bM _ (oi h1).symm
 simp only at h0
 obtain rfl:=oi h0
 refine Ad rfl ?_
 try simp only[F,go_sem]
 have q17:=uZ.1.ow (af (eT+1))
 try simp only[Ay,AE,go_sem]at q17
 try simp only[q17,F,go_sem]
 refine Aq (aS _ _ (oi h1).symm (Ae.go [1,3,11,12,13] [0,1] rfl ?_))
 try simp only[dO.h0,F,go_sem]
 refine aT ?_
 try simp only[F,go_sem]
 obtain rfl:=bM _ (oi h1).symm
 simp only at h0
 obtain rfl:=oi h0
 refine Ad rfl ?_
 try simp only[F,go_sem]
 refine Aq (aY _ _ (oi h1).symm (Ae.go [] [] rfl ?_))
 try simp only[dO.x0,F,go_sem]
 rintro _ aQ
 subst aQ
 simp only at h0
 refine rS ?_
 try simp only[dO.x0,F,go_sem]
 obtain rfl:=oi h0
 refine Ad rfl ?_
 try simp only[F,go_sem]
end Go.Abs
end
