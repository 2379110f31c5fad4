/-
  Part 4 of the proof: a machine over named blocks, what each function computes, and what follows. No condition.
-/
import Derived.Test.YtpgccpdlilnakaaGreatProg
import Derived.Ground.Names2Prog
import Derived.Shelf.Lays
import Derived.WalkKit
import Derived.Lib.Walk
import Derived.Lib.SliceRun
import Derived.Lib.JoinLaws
import Derived.Lib.AppendZerosOnto
import Derived.Lib.Overlaps
import Derived.Laws.Externs
import Derived.Laws.IdiomCopy
import Derived.Laws.NewBlocks
import Derived.Shelf.Spec.SlicesInsert
import Derived.Tactics
import Derived.Tactics2
import Derived.Laws.Pointers
import Derived.RangeFuncLeaves
import Derived.Test.YtpgccpdlilnakaaGreatBPacksC
set_option linter.unusedVariables false
set_option linter.unusedSimpArgs false
set_option linter.all false
set_option maxRecDepth 100000
set_option maxHeartbeats 8000000
noncomputable section
namespace Go.Abs
open Go.Proofs
structure BC where
  Kind:Int
  Ab:(Aa 5 Int)
  Dh:(List Int)
def BC.c (x:BC):List AV:=[.int .i64 x.Kind]++(Aa.c (n:=5) eI x.Ab++([.sl 1 (List.map eI x.Dh)]))
structure Bd where
  AH:Int
  DL:Int
  At:Int
  CL:Int
def Bd.c (x:Bd):List AV:=[.int .i64 x.AH,.int .i64 x.DL,.int .i64 x.At,.int .i64 x.CL]
structure Ce where
  Dp:(List BC)
  Em:(List Bd)
  Cut:Int
  Fx:Bool
def Ce.c (x:Ce):List AV:=[.sl 7 (List.map BC.c x.Dp),.sl 4 (List.map Bd.c x.Em),.int .i64 x.Cut,.bool x.Fx]
structure Entry where
  Aq:Int
  No:Int
def Entry.c (x:Entry):List AV:=[.int .i64 x.Aq,.int .i64 x.No]
structure Ab where
  At:Entry
  Kind:Int
  Day:Int
  Bn:Int
  Of:Entry
  Text:ByteArray
def Ab.c (x:Ab):List AV:=[.int .i64 x.At.Aq,.int .i64 x.At.No,.int .i64 x.Kind,.int .i64 x.Day,.int .i64 x.Bn,.int .i64 x.Of.Aq,.int .i64 x.Of.No,.str x.Text]
structure Cw where
  DM:Int
  By:Int
  Ab:Ab
def Cw.c (x:Cw):List AV:=[.int .i64 x.DM,.int .i64 x.By,.int .i64 x.Ab.At.Aq,.int .i64 x.Ab.At.No,.int .i64 x.Ab.Kind,.int .i64 x.Ab.Day,.int .i64 x.Ab.Bn,.int .i64 x.Ab.Of.Aq,.int .i64 x.Ab.Of.No,.str x.Ab.Text]
structure Ao where
  At:Int
  AH:(Aa 2 (Aa 32 Int))
def Ao.c (x:Ao):List AV:=[.int .i64 x.At]++(Aa.c (n:=2) (Aa.c (n:=32) af) x.AH)
structure Ac where
  Af:(List (Aa 2 (Aa 32 Int)))
  Ad:(List Ao)
def Ac.c (x:Ac):List AV:=[.sl 64 (List.map (Aa.c (n:=2) (Aa.c (n:=32) af)) x.Af),.sl 65 (List.map Ao.c x.Ad)]
structure Ah where
  Aj:(List Ab)
def Ah.c (x:Ah):List AV:=[.sl 8 (List.map Ab.c x.Aj)]
structure Aw where
  Ah:Ah
  Bj:Int
  Ax:Int
  Used:Int
def Aw.c (x:Aw):List AV:=[.sl 8 (List.map Ab.c x.Ah.Aj),.int .i64 x.Bj,.int .i64 x.Ax,.int .i64 x.Used]
structure CH where
  Ax:Int
  Aj:(List Ab)
  Used:Int
def CH.c (x:CH):List AV:=[.int .i64 x.Ax,.sl 8 (List.map Ab.c x.Aj),.int .i64 x.Used]
structure az where
  Ac:Ac
def az.c (x:az):List AV:=[.sl 64 (List.map (Aa.c (n:=2) (Aa.c (n:=32) af)) x.Ac.Af),.sl 65 (List.map Ao.c x.Ac.Ad)]
structure cV where
  agL:(Option az)
  aV:Int
  dQ:Int
  used:Int
  book:Ah
  records:Int
def cV.c (x:cV):List AV:=[aP 2 az.c x.agL,.int .i64 x.aV,.int .i64 x.dQ,.int .i64 x.used,.sl 8 (List.map Ab.c x.book.Aj),.int .i64 x.records]
def X1:TI:=⟨1,8,[.bQ],.func,0,0,false,[],[],false,[]⟩
def X3:TI:=⟨1,8,[.int .i64 0],.int .i64,0,0,false,[],[],true,[]⟩
def X4:TI:=⟨1,1,[.bool false],.bool,0,0,false,[],[],true,[]⟩
def X5:TI:=⟨1,1,[.int .u8 0],.int .u8,0,0,false,[],[],true,[]⟩
def X9:TI:=⟨1,16,[.str ByteArray.empty],.str,0,0,false,[],[],true,[]⟩
def Gh:TI:=⟨1,16,[.bV],.iface,0,0,false,[],[],false,[]⟩
def Gl:TI:=⟨1,24,[.nil],.slice 144,7,72,true,[.int .i64 0]++(Aa.c (n:=5) eI (Aa.rep 5 (0:Int))++([.nil])),[],false,[(0,144,7)]⟩
def Gm:TI:=⟨1,24,[.nil],.slice 141,4,32,true,[.int .i64 0,.int .i64 0,.int .i64 0,.int .i64 0],[],false,[(0,141,4)]⟩
def Gn:TI:=⟨4,64,[.nil,.nil,.int .i64 0,.bool false],.struct,0,0,false,[],[(0,1,false),(1,1,false),(2,1,false),(3,1,false)],false,[(0,144,7),(1,141,4)]⟩
def Gp:TI:=⟨2,16,[.int .i64 0,.int .i64 0],.struct,0,0,false,[],[(0,1,false),(1,1,false)],true,[]⟩
def Gq:TI:=⟨8,72,[.int .i64 0,.int .i64 0,.int .i64 0,.int .i64 0,.int .i64 0,.int .i64 0,.int .i64 0,.str ByteArray.empty],.struct,0,0,false,[],[(0,2,true),(2,1,false),(3,1,false),(4,1,false),(5,2,true),(7,1,false)],true,[]⟩
def Gr:TI:=⟨10,88,[.int .i64 0,.int .i64 0,.int .i64 0,.int .i64 0,.int .i64 0,.int .i64 0,.int .i64 0,.int .i64 0,.int .i64 0,.str ByteArray.empty],.struct,0,0,false,[],[(0,1,false),(1,1,false),(2,8,true)],true,[]⟩
def Gs:TI:=⟨1,24,[.nil],.slice 113,64,64,true,Aa.c (n:=2) (Aa.c (n:=32) af) (Aa.rep 2 ((Aa.rep 32 (0:Int)):(Aa 32 Int))),[],false,[(0,113,64)]⟩
def Gt:TI:=⟨1,24,[.nil],.slice 116,65,72,true,[.int .i64 0]++(Aa.c (n:=2) (Aa.c (n:=32) af) (Aa.rep 2 ((Aa.rep 32 (0:Int)):(Aa 32 Int)))),[],false,[(0,116,65)]⟩
def Gu:TI:=⟨2,48,[.nil,.nil],.struct,0,0,false,[],[(0,1,false),(1,1,false)],false,[(0,113,64),(1,116,65)]⟩
def Gv:TI:=⟨1,24,[.nil],.slice 29,8,72,true,[.int .i64 0,.int .i64 0,.int .i64 0,.int .i64 0,.int .i64 0,.int .i64 0,.int .i64 0,.str ByteArray.empty],[],false,[(0,29,8)]⟩
def Gw:TI:=⟨1,24,[.nil],.struct,0,0,false,[],[(0,1,false)],false,[(0,29,8)]⟩
def Gx:TI:=⟨4,48,[.nil,.int .i64 0,.int .i64 0,.int .i64 0],.struct,0,0,false,[],[(0,1,true),(1,1,false),(2,1,false),(3,1,false)],false,[(0,29,8)]⟩
def Gy:TI:=⟨1,24,[.nil],.slice 36,2,48,true,[.nil,.nil],[],false,[(0,36,2)]⟩
def Gz:TI:=⟨1,8,[.int .i64 0],.int .i64,0,0,false,[],[],true,[]⟩
def GA:TI:=⟨6,48,Aa.c (n:=6) eI (Aa.rep 6 (0:Int)),.array 6 3,1,8,false,[.int .i64 0],[],true,[]⟩
def GB:TI:=⟨1,24,[.nil],.slice 3,1,8,false,[.int .i64 0],[],false,[(0,3,1)]⟩
def GC:TI:=⟨1,24,[.nil],.slice 5,1,1,false,[.int .u8 0],[],false,[(0,5,1)]⟩
def GF:TI:=⟨1,24,[.nil],.slice 92,32,32,true,Aa.c (n:=32) af (Aa.rep 32 (0:Int)),[],false,[(0,92,32)]⟩
def GG:TI:=⟨32,32,Aa.c (n:=32) af (Aa.rep 32 (0:Int)),.array 32 5,1,1,false,[.int .u8 0],[],true,[]⟩
def GH:TI:=⟨1,24,[.nil],.slice 105,32,32,true,Aa.c (n:=32) af (Aa.rep 32 (0:Int)),[],false,[(0,105,32)]⟩
def GI:TI:=⟨1,8,[.bH],.ptr 102,0,0,false,[],[],false,[]⟩
def FX:TI:=⟨2,48,[.nil,.nil],.struct,0,0,false,[],[(0,2,true)],false,[(0,113,64),(1,116,65)]⟩
def FY:TI:=⟨32,32,Aa.c (n:=32) af (Aa.rep 32 (0:Int)),.array 32 5,1,1,false,[.int .u8 0],[],true,[]⟩
def FZ:TI:=⟨64,64,Aa.c (n:=2) (Aa.c (n:=32) af) (Aa.rep 2 ((Aa.rep 32 (0:Int)):(Aa 32 Int))),.array 2 92,32,32,true,Aa.c (n:=32) af (Aa.rep 32 (0:Int)),[],true,[]⟩
def F0:TI:=⟨65,72,[.int .i64 0]++(Aa.c (n:=2) (Aa.c (n:=32) af) (Aa.rep 2 ((Aa.rep 32 (0:Int)):(Aa 32 Int)))),.struct,0,0,false,[],[(0,1,false),(1,64,true)],true,[]⟩
def F1:TI:=⟨5,40,Aa.c (n:=5) eI (Aa.rep 5 (0:Int)),.array 5 3,1,8,false,[.int .i64 0],[],true,[]⟩
def F2:TI:=⟨6,64,[.bH,.int .i64 0,.int .i64 0,.int .i64 0,.nil,.int .i64 0],.struct,0,0,false,[],[(0,1,false),(1,1,false),(2,1,false),(3,1,false),(4,1,true),(5,1,false)],false,[(4,29,8)]⟩
def F4:TI:=⟨4,32,[.int .i64 0,.int .i64 0,.int .i64 0,.int .i64 0],.struct,0,0,false,[],[(0,1,false),(1,1,false),(2,1,false),(3,1,false)],true,[]⟩
def Ga:TI:=⟨7,72,[.int .i64 0]++(Aa.c (n:=5) eI (Aa.rep 5 (0:Int))++([.nil])),.struct,0,0,false,[],[(0,1,false),(1,5,true),(6,1,false)],false,[(6,3,1)]⟩
def Gb:TI:=⟨3,40,[.int .i64 0,.nil,.int .i64 0],.struct,0,0,false,[],[(0,1,false),(1,1,false),(2,1,false)],false,[(1,29,8)]⟩
def Gc:TI:=⟨2,16,Aa.c (n:=2) eI (Aa.rep 2 (0:Int)),.array 2 3,1,8,false,[.int .i64 0],[],true,[]⟩
def Gd:TI:=⟨1,24,[.nil],.slice 163,2,16,true,Aa.c (n:=2) eI (Aa.rep 2 (0:Int)),[],false,[(0,163,2)]⟩
def Ge:TI:=⟨1,8,[.int .u64 0],.int .u64,0,0,false,[],[],true,[]⟩
def Gf:TI:=⟨1,24,[.nil],.slice 9,1,16,false,[.str ByteArray.empty],[],false,[(0,9,1)]⟩
def Gg:TI:=⟨1,8,[.bQ],.func,0,0,false,[],[],false,[]⟩
def Gi:TI:=⟨0,0,[],.struct,0,0,false,[],[],true,[]⟩
def Gj:TI:=⟨1,8,[.bH],.ptr 207,0,0,false,[],[],false,[]⟩
def Gk:TI:=⟨1,24,[.nil],.struct,0,0,false,[],[(0,1,false)],false,[(0,5,1)]⟩
def TL:List (Nat×TI):=[(1,X1),(3,X3),(4,X4),(5,X5),(9,X9),(20,Gh),(22,Gl),(23,Gm),(25,Gn),(27,Gp),(29,Gq),(31,Gr),(33,Gs),(34,Gt),(36,Gu),(38,Gv),(40,Gw),(42,Gx),(44,Gy),(45,Gz),(55,GA),(58,GB),(82,GC),(85,GF),(92,GG),(97,GH),(99,GI),(102,FX),(105,FY),(113,FZ),(116,F0),(119,F1),(137,F2),(141,F4),(144,Ga),(151,Gb),(163,Gc),(164,Gd),(172,Ge),(176,Gf),(188,Gg),(203,Gi),(205,Gj),(207,Gk)]
def T:AN:=look TL
theorem AB:AQ Tryz.prog T:=aq6 _ _ (by decide +kernel)
theorem aQ:Tryz.prog.follows .mixedOrders=true:=by rfl
theorem I8:T 1=some X1:=rfl
theorem Jy:T 3=some X3:=rfl
theorem JE:T 4=some X4:=rfl
theorem JJ:T 5=some X5:=rfl
theorem JO:T 9=some X9:=rfl
theorem Jo:T 20=some Gh:=rfl
theorem Jt:T 22=some Gl:=rfl
theorem Ju:T 23=some Gm:=rfl
theorem Jv:T 25=some Gn:=rfl
theorem Jw:T 27=some Gp:=rfl
theorem Jx:T 29=some Gq:=rfl
theorem Jz:T 31=some Gr:=rfl
theorem JA:T 33=some Gs:=rfl
theorem JB:T 34=some Gt:=rfl
theorem JC:T 36=some Gu:=rfl
theorem JD:T 38=some Gv:=rfl
theorem JF:T 40=some Gw:=rfl
theorem JG:T 42=some Gx:=rfl
theorem JH:T 44=some Gy:=rfl
theorem JI:T 45=some Gz:=rfl
theorem JK:T 55=some GA:=rfl
theorem JL:T 58=some GB:=rfl
theorem JM:T 82=some GC:=rfl
theorem JN:T 85=some GF:=rfl
theorem JP:T 92=some GG:=rfl
theorem JQ:T 97=some GH:=rfl
theorem JR:T 99=some GI:=rfl
theorem I9:T 102=some FX:=rfl
theorem Ja:T 105=some FY:=rfl
theorem Jb:T 113=some FZ:=rfl
theorem Jc:T 116=some F0:=rfl
theorem Jd:T 119=some F1:=rfl
theorem Je:T 137=some F2:=rfl
theorem Jf:T 141=some F4:=rfl
theorem Jg:T 144=some Ga:=rfl
theorem Jh:T 151=some Gb:=rfl
theorem Ji:T 163=some Gc:=rfl
theorem Jj:T 164=some Gd:=rfl
theorem Jk:T 172=some Ge:=rfl
theorem Jl:T 176=some Gf:=rfl
theorem Jm:T 188=some Gg:=rfl
theorem Jp:T 203=some Gi:=rfl
theorem Jq:T 205=some Gj:=rfl
theorem Js:T 207=some Gk:=rfl
attribute [go_sem] I8 X1 Jy X3 JE X4 JJ X5 JO X9 Jo Gh Jt Gl Ju Gm Jv Gn Jw Gp Jx Gq Jz Gr JA Gs JB Gt JC Gu JD Gv JF Gw JG Gx JH Gy JI Gz JK GA JL GB JM GC JN GF JP GG JQ GH JR GI I9 FX Ja FY Jb FZ Jc F0 Jd F1 Je F2 Jf F4 Jg Ga Jh Gb Ji Gc Jj Gd Jk Ge Jl Gf Jm Gg Jp Gi Jq Gj Js Gk
theorem ajW:VK 8 Ab.c:=⟨fun x=>rfl,fun x=>⟨fun _=>rfl,fun _=>rfl,fun _ _=>rfl,rfl,fun _=>rfl,fun _=>rfl,fun _=>rfl⟩⟩
theorem afJ (v:(Aa 2 Int)):(Aa.c (n:=2) eI v).length=2:=(VK.vec pE 2).len v
theorem afI (v:(Aa 2 Int)) (k:Nat) (b:AG):AV.dG k b (Aa.c (n:=2) eI v)=some (Aa.c (n:=2) eI v):=yI (fun _=>rfl) v
theorem akV (v:(Aa 2 Int)):D4 (Aa.c (n:=2) eI v) 2 3 4 5:=xV (afJ v) ((VK.vec pE 2).sv v) (afI v) rfl rfl rfl
attribute [go_sem] afJ afI akV
theorem afH (v:(Aa 5 Int)):(Aa.c (n:=5) eI v).length=5:=(VK.vec pE 5).len v
theorem afG (v:(Aa 5 Int)) (k:Nat) (b:AG):AV.dG k b (Aa.c (n:=5) eI v)=some (Aa.c (n:=5) eI v):=yI (fun _=>rfl) v
theorem akU (v:(Aa 5 Int)):D4 (Aa.c (n:=5) eI v) 5 6 7 8:=xV (afH v) ((VK.vec pE 5).sv v) (afG v) rfl rfl rfl
attribute [go_sem] afH afG akU
theorem afL (v:(Aa 6 Int)):(Aa.c (n:=6) eI v).length=6:=(VK.vec pE 6).len v
theorem afK (v:(Aa 6 Int)) (k:Nat) (b:AG):AV.dG k b (Aa.c (n:=6) eI v)=some (Aa.c (n:=6) eI v):=yI (fun _=>rfl) v
theorem akW (v:(Aa 6 Int)):D4 (Aa.c (n:=6) eI v) 6 7 8 9:=xV (afL v) ((VK.vec pE 6).sv v) (afK v) rfl rfl rfl
attribute [go_sem] afL afK akW
theorem afN (v:(Aa 32 Int)):(Aa.c (n:=32) af v).length=32:=(VK.vec nd 32).len v
theorem acV (v:(Aa 32 Int)) (k:Nat) (b:AG):AV.dG k b (Aa.c (n:=32) af v)=some (Aa.c (n:=32) af v):=yI (fun _=>rfl) v
theorem akX (v:(Aa 32 Int)):D4 (Aa.c (n:=32) af v) 32 33 34 35:=xV (afN v) ((VK.vec nd 32).sv v) (acV v) rfl rfl rfl
theorem afM (a b:(Aa 32 Int)):bO (Aa.c (n:=32) af (Aa.rep 32 (0:Int))) (Aa.c (n:=32) af a) (Aa.c (n:=32) af b)=some ((Aa.eq (fun(x y:Int)=>decide (x=y))) a b):=agW nd.len (fun x y=>by simp[bO,kt,eI,af,eB,eS]) a b
attribute [go_sem] afN acV akX afM
theorem afF (v:(Aa 2 (Aa 32 Int))):(Aa.c (n:=2) (Aa.c (n:=32) af) v).length=64:=(VK.vec (VK.vec nd 32) 2).len v
theorem afE (v:(Aa 2 (Aa 32 Int))) (k:Nat) (b:AG):AV.dG k b (Aa.c (n:=2) (Aa.c (n:=32) af) v)=some (Aa.c (n:=2) (Aa.c (n:=32) af) v):=yI (fun y=>acV y k b) v
theorem akS (v:(Aa 2 (Aa 32 Int))):D4 (Aa.c (n:=2) (Aa.c (n:=32) af) v) 64 65 66 67:=xV (afF v) ((VK.vec (VK.vec nd 32) 2).sv v) (afE v) rfl rfl rfl
theorem akT (a b:(Aa 2 (Aa 32 Int))):bO (Aa.c (n:=2) (Aa.c (n:=32) af) (Aa.rep 2 ((Aa.rep 32 (0:Int)):(Aa 32 Int)))) (Aa.c (n:=2) (Aa.c (n:=32) af) a) (Aa.c (n:=2) (Aa.c (n:=32) af) b)=some ((Aa.eq (Aa.eq (fun(x y:Int)=>decide (x=y)))) a b):=agW (VK.vec nd 32).len afM a b
attribute [go_sem] afF afE akS akT
theorem asq:Lf Bd.c:=by
  intro x y hy
  simp only[Bd.c,Bb,BE,List.not_mem_nil,or_false]at hy
  rcases hy with hy|hy|hy|hy<;>first|(subst hy;rfl)
theorem ain:Lf Ao.c:=by
  intro x y hy
  simp only[Ao.c,Bb,BE,List.not_mem_nil,or_false]at hy
  rcases hy with hy|hy<;>first|exact(Lf.vec (n:=2) (Lf.vec aes)) _ _ hy|(subst hy;rfl)
attribute [go_sem] BC.c Bd.c Ce.c Entry.c Ab.c Cw.c Ao.c Ac.c Ah.c Aw.c CH.c az.c cV.c
theorem ac3 {b:Bool} (h:(!b)=true):b=false:=by simpa using h
theorem ac2 {b:Bool} (h:(!b)=false):b=true:=by simpa using h
theorem fM:∀ q_,(Aa.c (n:=2) (Aa.c (n:=32) af) q_).length=64:=fun q_=>(VK.vec (VK.vec nd 32) 2).len q_
theorem gL:∀ q_,((Aa.c (n:=32) af) q_).length=32:=fun q_=>(VK.vec nd 32).len q_
theorem gA:∀ q_,(Aa.c (n:=32) af q_).length=32:=fun q_=>(VK.vec nd 32).len q_
theorem fL:∀ q_,(af q_).length=1:=fun q_=>nd.len q_
theorem mE:∀ q_,(eI q_).length=1:=fun q_=>pE.len q_
theorem akR:∀ q_,(Aa.c (n:=6) eI q_).length=6:=fun q_=>(VK.vec pE 6).len q_
theorem xU:∀ q_,(Aa.c (n:=5) eI q_).length=5:=fun q_=>(VK.vec pE 5).len q_
theorem akQ:∀ q_,(Aa.c (n:=2) eI q_).length=2:=fun q_=>(VK.vec pE 2).len q_
theorem PB (fn : Func) (sc : SC) (rs : List ResultVar) {f : FuncId} {c : Code} {args : List AV} {v : AV} (h : AJ Tryz.prog fn.ntmps (DD T rs fun y => NL y v) (run T 1000 [.sc sc] (St.enter args [] fn.ntmps))) (hf : Tryz.prog.funcs[f]? = some fn := by rfl) (hb : fn.body = some c := by rfl) (jB : (fn.name == "runtime.NumGoroutine") = false := by decide +kernel) (he : sc.bare = erase fn.ntmps c := by rfl) (e9 : (erase fn.ntmps c).fits fn.ntmps = true := by decide +kernel) (fE : args.length ≤ fn.ntmps := by exact Nat.le_of_ble_eq_true rfl) (hrs : fn.results.toList = rs := by rfl) : Ay Tryz.prog f args (fun y => y = v) := Ay.nlr (Ay.gr AB hf hb jB he e9 fE (by rw [hrs]; exact ib AB 1000 _ _ h))
section
variable {n:Nat}{Φ:Exit->St->Prop}{f:FuncId}{args ay:List AV}{v:AV}{dst:Option Tmp}{drop:List Nat}{todo:List It}{st:St}{C:List (De×Rd)->St->Prop}{o:An}{os:List An}{acc:List (De×Rd)}{ops:List An}{befs:List (List Nat)}
theorem rS [Md] (h:AJ Tryz.prog n Φ (run T 1000 todo st)):AK Tryz.prog n Φ todo st:=ib AB 1000 _ _ h
theorem au {α ρ:Type}{A:Option α}{G:α->Option ρ}{r:ρ}{vf:α->AV} (h0:A.bind G=some r) (hp:∀ x,A=some x->Ay Tryz.prog f ay (fun y=>y=vf x)) (hz:kZ (AV.aG (Heap.get ([]::st.fr::st.low)) args) ay) (h:∀ x,G x=some r->AJ Tryz.prog n Φ (run T 1000 todo (st.gK dst drop (vf x) [] (st.fr::st.low)))) (hr:∀ x,(AV.aO args).isEmpty || (vf x).dh=true:=by intro _;first|rfl|(simp[AV.aO,AV.refs,AV.dh,AV.leaf];done)|simp[AV.aO,AV.refs,AV.dh,AV.leaf,go_sem]):AJ Tryz.prog n Φ (.call f args dst drop todo st):=let ⟨x,e,g⟩:=bind_some h0;GJ AB 1000 (hp x e) hz (hr x) (h x g)
theorem zqL {α ρ:Type}{A:Option α}{G:α->Option ρ}{r:ρ}{vf:α->AV} (h0:A.bind G=some r) (hp:∀ x,A=some x->Ay Tryz.prog f ay (fun y=>y=vf x)) (hz:kZ (AV.cZ (Heap.get ([]::st.fr::st.low)) (cQ (Heap.get ([]::st.fr::st.low)) 5) args) ay) (h:∀ x,G x=some r->AJ Tryz.prog n Φ (run T 1000 todo (st.gK dst drop (vf x) [] (st.fr::st.low)))) (hr:∀ x,(vf x).dh=true:=by intro _;first|rfl|(simp[AV.aO,AV.refs,AV.dh,AV.leaf];done)|simp[AV.aO,AV.refs,AV.dh,AV.leaf,go_sem]):AJ Tryz.prog n Φ (.call f args dst drop todo st):=let ⟨x,e,g⟩:=bind_some h0;H3 AB 1000 (hp x e) hz (hr x) (h x g)
theorem zqT (rs:List Nat) {α ρ:Type}{A:Option α}{G:α->Option ρ}{r:ρ}{vf:α->AV} (h0:A.bind G=some r) (hp:∀ x,A=some x->Ay Tryz.prog f ay (fun y=>y=vf x)) (hz:kZ (AV.cZ (only (Heap.get ([]::st.fr::st.low)) (rs.map fun k=>(1,k))) (cQ (only (Heap.get ([]::st.fr::st.low)) (rs.map fun k=>(1,k))) 5) args) ay) (h:∀ x,G x=some r->AJ Tryz.prog n Φ (run T 1000 todo (st.gK dst drop (vf x) [] (cw st.fr rs::st.low)))):AJ Tryz.prog n Φ (.call f args dst drop todo st):=let ⟨x,e,g⟩:=bind_some h0;Ff AB 1000 rs (hp x e) hz (h x g)
theorem cz {α ρ:Type}{A:Option α}{G:α->Option ρ}{r:ρ}{vf:α->AV} (h0:A.bind G=some r) (hp:∀ x,A=some x->Ay Tryz.prog f ay (fun y=>y=vf x)) (hz:kZ (AV.aG st.get args) ay) (h:∀ x,G x=some r->DG Tryz.prog T C (iT T 1000 os ((⟨vf x,[]⟩,some (AV.aO args))::acc) (st.by o.dst [] ⟨vf x,[]⟩))) (hr:∀ x,(AV.aO args).isEmpty || (vf x).dh=true:=by intro _;first|rfl|(simp[AV.aO,AV.refs,AV.dh,AV.leaf];done)|simp[AV.aO,AV.refs,AV.dh,AV.leaf,go_sem]):DG Tryz.prog T C (.call f args o os acc st):=let ⟨x,e,g⟩:=bind_some h0;GP 1000 (hp x e) hz (hr x) (h x g)
theorem aK [Md] {ds:List (De×Rd)}{uT:St} (h:AJ Tryz.prog n Φ (run T 1000 todo uT)) (hC:(calm ops befs ds=true/\AK Tryz.prog n Φ todo uT)->C acc st:=by exact fun h=>h) {sk:List (List (Nat×Nat)×Rd)} (h1:nc ds=sk:=by (simp only[nc,List.reverse_cons,List.reverse_nil,Bt,Bg,List.map_cons,List.map_nil,List.append_nil];rfl)) (h2:calm ops befs (oc sk)=true:=by first|decide +kernel|rfl):
    DG Tryz.prog T C (.done acc st):=amF AB h hC h1 h2
end
theorem k9:∀ q_,(af q_).length=1:=fun q_=>nd.len q_
theorem zlh:∀ q_,(Aa.c (n:=32) af q_).length=32:=fun q_=>(VK.vec nd 32).len q_
section
variable {n:Nat}{Φ:Exit->St->Prop}{f:FuncId}{args ay:List AV}{v:AV}{dst:Option Tmp}{drop:List Nat}{todo:List It}{st:St}{C:List (De×Rd)->St->Prop}{o:An}{os:List An}{acc:List (De×Rd)}
theorem jL [Md] (hp:Ay Tryz.prog f ay (fun y=>y=v)) (hz:kZ (AV.aG (Heap.get ([]::st.fr::st.low)) args) ay) (h:AJ Tryz.prog n Φ (run T 1000 todo (st.gK dst drop v [] (st.fr::st.low)))) (hr:(AV.aO args).isEmpty || v.dh=true:=by first|rfl|simp[AV.aO,AV.refs,AV.dh,AV.leaf]):AJ Tryz.prog n Φ (.call f args dst drop todo st):=GJ AB 1000 hp hz hr h
theorem vQ [Md] (hp:Ay Tryz.prog f ay (fun y=>y=v)) (hz:kZ (AV.aG st.get args) ay) (h:DG Tryz.prog T C (iT T 1000 os ((⟨v,[]⟩,some (AV.aO args))::acc) (st.by o.dst [] ⟨v,[]⟩))) (hr:(AV.aO args).isEmpty || v.dh=true:=by first|rfl|simp[AV.aO,AV.refs,AV.dh,AV.leaf]):DG Tryz.prog T C (.call f args o os acc st):=GP 1000 hp hz hr h
end
end Go.Abs

namespace Go.Abs
open Go.Proofs
def Dx.s1:SC:=
 SQ [SQ [RG [wV 45 6 3,wK 46 .geq 3 45 0 3 4 [45]],CN 46 .skip (.exit 2)],.block 3 (RG [wV 49 3 82 [3],wJ 50 163 5 0,wD 51 3 50 [50],wV 52 6 3,oQ 53 (.binOp .mul 3 (.const (.int .i64 8)) (.tmp 52) 3) 3 [52],wO 54 .shr 3 51 53 3 3 [51,53],wY 55 3 5 54 5 [54],oQ 56 (.buildSlice 82 1 #[(0,.tmp 55)]) 82 [55],wP 57 49 56 82 82 82 [49,56],wG 3 57 82 [57]]),RG [wV 47 6 3 [6],wK 48 .sub 3 47 1 3 3 [47],
 wG 6 48 3 [48]]]
def Dx.s0:SC:=
 SQ [RG [wO 39 .lss 3 38 37 3 0],CN 39 .skip (.exit 0),.block 1 (SQ [RG [wI 40 164 36 38,wD 41 163 40 [40],wA 5 163,wS 163 5 41 [41]],RG [wJ 42 163 5 1,wD 43 3 42 [42],wK 44 .sub 3 43 1 3 3 [43],wG 6 44 3 [44]],.block 2 (.loop Dx.s1)]),RG [wK 58 .add 3 38 1 3 3 [38],wV 38 58 3 [58]]]
def Dx.c:SC:=
 SQ [RG [wE 1 29 0 [0],oQ 2 (.assign (.const (.slice none 0 0))) 82 [2]],RG [oQ 3 (.assign (.const (.slice none 0 0))) 82],SQ [RG [wF 7 29 1 0,wF 8 27 7 0 [7],wD 9 3 8 [8],oQ 10 (.build 163 #[(0,.tmp 9),(1,.const (.int .i64 1))]) 163 [9],wF 11 29 1 0,wF 12 27 11 1 [11],wD 13 3 12 [12],oQ 14 (.build 163 #[(0,.tmp 13),(1,.const (.int .i64 2))]) 163 [13],wF 15 29 1 1,wD 16 3 15 [15],
 oQ 17 (.build 163 #[(0,.tmp 16),(1,.const (.int .i64 1))]) 163 [16],wF 18 29 1 2,wD 19 3 18 [18],oQ 20 (.build 163 #[(0,.tmp 19),(1,.const (.int .i64 4))]) 163 [19],wF 21 29 1 3,wD 22 3 21 [21],oQ 23 (.build 163 #[(0,.tmp 22),(1,.const (.int .i64 4))]) 163 [22],wF 24 29 1 4,wF 25 27 24 0 [24],wD 26 3 25 [25],oQ 27 (.build 163 #[(0,.tmp 26),(1,.const (.int .i64 1))]) 163 [26],wF 28 29 1 4,
 wF 29 27 28 1 [28],wD 30 3 29 [29],oQ 31 (.build 163 #[(0,.tmp 30),(1,.const (.int .i64 2))]) 163 [30],wF 32 29 1 5,wD 33 9 32 [32],wL 34 33 9 3 [33],oQ 35 (.build 163 #[(0,.tmp 34),(1,.const (.int .i64 1))]) 163 [34],oQ 36 (.buildSlice 164 8 #[(0,.tmp 10),(1,.tmp 14),(2,.tmp 17),(3,.tmp 20),(4,.tmp 23),(5,.tmp 27),(6,.tmp 31),(7,.tmp 35)]) 164 [10,14,17,20,23,27,31,35],wL 37 36 164 3,
 oQ 38 (.move (.const (.int .i64 0))) 3],.block 0 (.loop Dx.s0)],RG [wV 59 3 82 [3],wF 60 29 1 5 [1],wD 61 9 60 [60],wP 62 59 61 82 9 82 [59,61],wG 2 62 82 [62]],.ret]
def cF.b1 (k:Nat) (x5:(Aa 2 Int)):(Int×(List Int))->Option (AT (Int×(List Int)) ((List Int)) ((List Int))):=fun s=>match s with
 |(i7,l8)=>
   bif decide ((0:Int)<=i7) then
    (x5.at? 0).bind fun cT=>
    (lL (ab (8*i7))).bind fun _=>
    (fJ 1 l8 (IntKind.u8.wrap (Int.fdiv cT (2 ^ (min (Int.toNat (ab (8*i7))) 64))))).bind fun j6=>
    some (.next (ab (i7 - 1),j6))
   else
    some (.brk l8)
def cF.b0 (k:Nat) (r0:Ab):(Int×(List Int))->Option (AT (Int×(List Int)) ((List Int)) ((List Int))):=fun s=>match s with
 |(i1,l2)=>
   bif decide (i1<(8:Int)) then
    (at? [(⟨[r0.At.Aq,1],rfl⟩:(Aa 2 Int)),(⟨[r0.At.No,2],rfl⟩:(Aa 2 Int)),(⟨[r0.Kind,1],rfl⟩:(Aa 2 Int)),(⟨[r0.Day,4],rfl⟩:(Aa 2 Int)),(⟨[r0.Bn,4],rfl⟩:(Aa 2 Int)),(⟨[r0.Of.Aq,1],rfl⟩:(Aa 2 Int)),(⟨[r0.Of.No,2],rfl⟩:(Aa 2 Int)),(⟨[(r0.Text.size:Int),1],rfl⟩:(Aa 2 Int))] i1).bind fun x5=>
    (x5.at? 1).bind fun x6=>
    (aj (cF.b1 k x5) k (ab (x6 - 1),l2)).bind fun sO=>match sO with
    |.next _=>none
    |.ret v_=>some (.ret v_)
    |.brk l9=>
     some (.next (ab (i1+1),l9))
   else
    some (.brk l2)
def cF.h1 (r0:Ab) (i1:Int) (x5:(Aa 2 Int)):(Int×(List Int))->St:=fun s=>match s with
 |(i7,l8)=>⟨[(1,.ptr 0 0 0),(3,.loc 0 1 1 0 l8.length l8.length),(5,.ptr 0 2 0),(6,.int .i64 i7),(36,.loc 0 3 2 0 8 8),(37,.int .i64 8),(38,.int .i64 i1)],[(0,.box ([.int .i64 r0.At.Aq,.int .i64 r0.At.No,.int .i64 r0.Kind,.int .i64 r0.Day,.int .i64 r0.Bn,.int .i64 r0.Of.Aq,.int .i64 r0.Of.No,.str r0.Text])),(1,.arr 5 1 (List.map af l8)),(2,.box (Aa.c (n:=2) eI x5)),(3,.arr 163 2 (List.map (Aa.c (n:=2) eI) [(⟨[r0.At.Aq,1],rfl⟩:(Aa 2 Int)),(⟨[r0.At.No,2],rfl⟩:(Aa 2 Int)),(⟨[r0.Kind,1],rfl⟩:(Aa 2 Int)),(⟨[r0.Day,4],rfl⟩:(Aa 2 Int)),(⟨[r0.Bn,4],rfl⟩:(Aa 2 Int)),(⟨[r0.Of.Aq,1],rfl⟩:(Aa 2 Int)),(⟨[r0.Of.No,2],rfl⟩:(Aa 2 Int)),(⟨[(r0.Text.size:Int),1],rfl⟩:(Aa 2 Int))]))],[],4,Tryz.f68.ntmps⟩
def cF.x1 (r0:Ab) (i1:Int):(List Int)->St:=fun l9=>⟨[(1,.ptr 0 0 0),(3,.loc 0 1 1 0 l9.length l9.length),(36,.loc 0 2 2 0 8 8),(37,.int .i64 8),(38,.int .i64 i1)],[(0,.box ([.int .i64 r0.At.Aq,.int .i64 r0.At.No,.int .i64 r0.Kind,.int .i64 r0.Day,.int .i64 r0.Bn,.int .i64 r0.Of.Aq,.int .i64 r0.Of.No,.str r0.Text])),(1,.arr 5 1 (List.map af l9)),(2,.arr 163 2 (List.map (Aa.c (n:=2) eI) [(⟨[r0.At.Aq,1],rfl⟩:(Aa 2 Int)),(⟨[r0.At.No,2],rfl⟩:(Aa 2 Int)),(⟨[r0.Kind,1],rfl⟩:(Aa 2 Int)),(⟨[r0.Day,4],rfl⟩:(Aa 2 Int)),(⟨[r0.Bn,4],rfl⟩:(Aa 2 Int)),(⟨[r0.Of.Aq,1],rfl⟩:(Aa 2 Int)),(⟨[r0.Of.No,2],rfl⟩:(Aa 2 Int)),(⟨[(r0.Text.size:Int),1],rfl⟩:(Aa 2 Int))]))],[],3,Tryz.f68.ntmps⟩
def cF.h0 (r0:Ab):(Int×(List Int))->St:=fun s=>match s with
 |(i1,l2)=>⟨[(1,.ptr 0 0 0),(3,.loc 0 1 1 0 l2.length l2.length),(36,.loc 0 2 2 0 8 8),(37,.int .i64 8),(38,.int .i64 i1)],[(0,.box ([.int .i64 r0.At.Aq,.int .i64 r0.At.No,.int .i64 r0.Kind,.int .i64 r0.Day,.int .i64 r0.Bn,.int .i64 r0.Of.Aq,.int .i64 r0.Of.No,.str r0.Text])),(1,.arr 5 1 (List.map af l2)),(2,.arr 163 2 (List.map (Aa.c (n:=2) eI) [(⟨[r0.At.Aq,1],rfl⟩:(Aa 2 Int)),(⟨[r0.At.No,2],rfl⟩:(Aa 2 Int)),(⟨[r0.Kind,1],rfl⟩:(Aa 2 Int)),(⟨[r0.Day,4],rfl⟩:(Aa 2 Int)),(⟨[r0.Bn,4],rfl⟩:(Aa 2 Int)),(⟨[r0.Of.Aq,1],rfl⟩:(Aa 2 Int)),(⟨[r0.Of.No,2],rfl⟩:(Aa 2 Int)),(⟨[(r0.Text.size:Int),1],rfl⟩:(Aa 2 Int))]))],[],3,Tryz.f68.ntmps⟩
def cF.x0 (r0:Ab):(List Int)->St:=fun l3=>⟨[(1,.ptr 0 0 0),(3,.loc 0 1 1 0 l3.length l3.length)],[(0,.box ([.int .i64 r0.At.Aq,.int .i64 r0.At.No,.int .i64 r0.Kind,.int .i64 r0.Day,.int .i64 r0.Bn,.int .i64 r0.Of.Aq,.int .i64 r0.Of.No,.str r0.Text])),(1,.arr 5 1 (List.map af l3))],[],2,Tryz.f68.ntmps⟩
def cF (k:Nat) (r0:Ab):Option ((List Int)):=
 (aj (cF.b0 k r0) k (0,[])).bind fun r15=>match r15 with
 |.next _=>none
 |.ret v_=>some v_
 |.brk l3=>
  (dN 1 l3 (iC r0.Text)).bind fun l16=>
  some l16
theorem af6 (k:Nat) (r0:Ab) (r:(List Int)) (h0:cF k r0=some r):Ay Tryz.prog 68 [.agg (Ab.c r0)] (fun y=>y=.sl 1 (List.map af r)):=by
 refine PB Tryz.f68 Dx.c [.tmp 2] ?_
 simp only[cF]at h0
 try simp only[Dx.c,(@id (Aa.c (n:=2) eI (Aa.rep 2 (0:Int))=[.int .i64 0,.int .i64 0]) rfl),(@id ([.int .i64 r0.At.Aq,.int .i64 1]=Aa.c (n:=2) eI (⟨[r0.At.Aq,1],rfl⟩:(Aa 2 Int))) rfl),(@id ([.int .i64 r0.At.No,.int .i64 2]=Aa.c (n:=2) eI (⟨[r0.At.No,2],rfl⟩:(Aa 2 Int))) rfl),(@id ([.int .i64 r0.Kind,.int .i64 1]=Aa.c (n:=2) eI (⟨[r0.Kind,1],rfl⟩:(Aa 2 Int))) rfl),(@id ([.int .i64 r0.Day,.int .i64 4]=Aa.c (n:=2) eI (⟨[r0.Day,4],rfl⟩:(Aa 2 Int))) rfl),(@id ([.int .i64 r0.Bn,.int .i64 4]=Aa.c (n:=2) eI (⟨[r0.Bn,4],rfl⟩:(Aa 2 Int))) rfl),(@id ([.int .i64 r0.Of.Aq,.int .i64 1]=Aa.c (n:=2) eI (⟨[r0.Of.Aq,1],rfl⟩:(Aa 2 Int))) rfl),(@id ([.int .i64 r0.Of.No,.int .i64 2]=Aa.c (n:=2) eI (⟨[r0.Of.No,2],rfl⟩:(Aa 2 Int))) rfl),(@id ([.int .i64 (r0.Text.size:Int),.int .i64 1]=Aa.c (n:=2) eI (⟨[(r0.Text.size:Int),1],rfl⟩:(Aa 2 Int))) rfl),(@id (((8:Nat):Int)=8) rfl),go_sem]
 obtain⟨r15,arE,h0⟩:=bs h0
 refine Bf arE (cF.h0 r0) (cF.x0 r0) ?_ ?_ ?_
 refine Ai.go [1,3,36,37,38] [0,32,512] rfl ?_
 try simp only[cF.h0,go_sem]
 rintro⟨i1,l2⟩ cP Bl Bm h1 aH aF bL
 refine rS ?_
 simp only[cF.b0]at h1
 try simp only[Dx.s0,cF.h0,go_sem]
 refine AR h1 ?_ ?_<;>intro c4 h1<;>have F:=c4<;>try simp only[F,go_sem]
 obtain⟨x5,cE,h1⟩:=bs h1
 have ahf:=aC cE
 simp only[F,go_sem]at ahf
 have ahG:=aE (Aa.c (n:=2) eI) cE
 try simp only[F,go_sem]at ahG
 have F:=an ahf (an ahG F)
 try simp only[F,go_sem]
 obtain⟨x6,ee,h1⟩:=bs h1
 have rj:=Ap.bI mE (Ap.self akQ x5) ee
 have nZ:=rj.2
 try simp only[AA,Az,go_sem]at nZ
 have F:=an (aw ee) (an nZ F)
 try simp only[F,go_sem]
 obtain⟨sO,aaZ,h1⟩:=bs h1
 refine Bf aaZ (cF.h1 r0 i1 x5) (cF.x1 r0 i1) ?_ ?_ ?_
 refine Ai.go [1,3,5,6,36,37,38] [0,1,51,2] rfl ?_
 try simp only[cF.h1,F,go_sem]
 rintro⟨i7,l8⟩ x_2 FD FE h2 qz rP aeg
 refine rS ?_
 simp only[cF.b1]at h2
 try simp only[Dx.s1,cF.h1,F,go_sem]
 refine AF F h2 ?_ ?_<;>intro F h2<;>try simp only[F,go_sem]
 obtain⟨cT,mD,h2⟩:=bs h2
 have acD:=Ap.bI mE (Ap.self akQ x5) mD
 have aaM:=acD.2
 try simp only[AA,Az,go_sem]at aaM
 have F:=an (aw mD) (an aaM F)
 try simp only[F,go_sem]
 obtain⟨u12,arM,h2⟩:=bs h2
 have F:=an (aaD arM) F
 try simp only[F,go_sem]
 obtain⟨j6,aaV,h2⟩:=bs h2
 have tp:=pu af aaV
 try simp only[F,go_sem]at tp
 have F:=an tp F
 try simp only[F,go_sem]
 refine AD (qz _ _ (oi h2).symm (Ai.go [1,3,5,6,36,37,38] [0,1,2,3] rfl ?_))
 try simp only[cF.h1,F,go_sem]
 refine AD (rP _ _ (oi h2).symm (Ai.go [1,3,36,37,38] [0,1,3] rfl ?_))
 try simp only[cF.x1,F,go_sem]
 rintro l9 aI
 subst aI
 simp only at h1
 refine rS ?_
 try simp only[cF.x1,F,go_sem]
 refine AD (aH _ _ (oi h1).symm (Ai.go [1,3,36,37,38] [0,1,2] rfl ?_))
 try simp only[cF.h0,F,go_sem]
 refine AD (aF _ _ (oi h1).symm (Ai.go [1,3] [0,1] rfl ?_))
 try simp only[cF.x0,F,go_sem]
 rintro l3 aI
 subst aI
 simp only at h0
 refine rS ?_
 try simp only[cF.x0,go_sem]
 obtain⟨l16,acO,h0⟩:=bs h0
 have akp:=gM af acO
 try simp only[afc,kQ,(by decide:¬ ([9]:List TypeId)=[82]),go_sem]at akp
 have F:=akp
 try simp only[afc,kQ,(by decide:¬ ([9]:List TypeId)=[82]),F,go_sem]
 obtain rfl:=oi h0
 refine Ag rfl ?_
 try simp only[F,go_sem]
def Hw.c:SC:=
 SQ [RG [wA 6 105],RG [wA 7 105],RG [wV 8 0 5 [0],wV 9 1 3,oQ 10 (.binOp .shr 3 (.tmp 9) (.const (.int .u64 16)) 172) 3 [9],wY 11 3 5 10 5 [10],wV 12 1 3,oQ 13 (.binOp .shr 3 (.tmp 12) (.const (.int .u64 8)) 172) 3 [12],wY 14 3 5 13 5 [13],wV 15 1 3 [1],wY 16 3 5 15 5 [15],wJ 17 105 7 0,wS 5 17 8 [8,17],wJ 18 105 7 1,wS 5 18 11 [11,18],wJ 19 105 7 2,wS 5 19 14 [14,19],wJ 20 105 7 3,wS 5 20 16 [16,
 20],wJ 21 105 7 31,⟨none,.store 5 (.tmp 21) (.const (.int .u8 165)),0,none,[21]⟩],RG [wV 22 2 3,oQ 23 (.binOp .shr 3 (.tmp 22) (.const (.int .u64 8)) 172) 3 [22],wY 24 3 5 23 5 [23],wV 25 2 3 [2],wY 26 3 5 25 5 [25],wJ 27 105 7 4,wS 5 27 24 [24,27],wJ 28 105 7 5,wS 5 28 26 [26,28]],RG [wD 29 105 7 [7],wS 105 6 29 [29]],.ret]
def yc (k:Nat) (jx:Int) (dR:Int) (qQ:Int):Option ((Aa 32 Int)):=
 ((Aa.rep 32 (0:Int)).at? 0).bind fun x1=>
 (((Aa.rep 32 (0:Int)).set 0 jx).at? 1).bind fun x3=>
 ((((Aa.rep 32 (0:Int)).set 0 jx).set 1 (IntKind.u8.wrap (Int.fdiv dR (2 ^ 16)))).at? 2).bind fun x5=>
 (((((Aa.rep 32 (0:Int)).set 0 jx).set 1 (IntKind.u8.wrap (Int.fdiv dR (2 ^ 16)))).set 2 (IntKind.u8.wrap (Int.fdiv dR (2 ^ 8)))).at? 3).bind fun x7=>
 ((((((Aa.rep 32 (0:Int)).set 0 jx).set 1 (IntKind.u8.wrap (Int.fdiv dR (2 ^ 16)))).set 2 (IntKind.u8.wrap (Int.fdiv dR (2 ^ 8)))).set 3 (IntKind.u8.wrap dR)).at? 31).bind fun x9=>
 (((((((Aa.rep 32 (0:Int)).set 0 jx).set 1 (IntKind.u8.wrap (Int.fdiv dR (2 ^ 16)))).set 2 (IntKind.u8.wrap (Int.fdiv dR (2 ^ 8)))).set 3 (IntKind.u8.wrap dR)).set 31 165).at? 4).bind fun cT=>
 ((((((((Aa.rep 32 (0:Int)).set 0 jx).set 1 (IntKind.u8.wrap (Int.fdiv dR (2 ^ 16)))).set 2 (IntKind.u8.wrap (Int.fdiv dR (2 ^ 8)))).set 3 (IntKind.u8.wrap dR)).set 31 165).set 4 (IntKind.u8.wrap (Int.fdiv qQ (2 ^ 8)))).at? 5).bind fun cI=>
 some ((((((((Aa.rep 32 (0:Int)).set 0 jx).set 1 (IntKind.u8.wrap (Int.fdiv dR (2 ^ 16)))).set 2 (IntKind.u8.wrap (Int.fdiv dR (2 ^ 8)))).set 3 (IntKind.u8.wrap dR)).set 31 165).set 4 (IntKind.u8.wrap (Int.fdiv qQ (2 ^ 8)))).set 5 (IntKind.u8.wrap qQ))
theorem af5 (k:Nat) (jx:Int) (dR:Int) (qQ:Int) (r:(Aa 32 Int)) (h0:yc k jx dR qQ=some r):Ay Tryz.prog 77 [.int .u8 jx,.int .i64 dR,.int .i64 qQ] (fun y=>y=.agg ((Aa.c (n:=32) af) r)):=by
 refine PB Tryz.f77 Hw.c [.cell 6 105] ?_
 simp only[yc]at h0
 try simp only[Hw.c,(@id (min (Int.toNat 16) 64=16) rfl),(@id (min (Int.toNat 8) 64=8) rfl),go_sem]
 have hz:=bs h0;clear h0;cases hz;rename_i x1 hz;cases hz;rename_i jq h0
 have xM:=Ap.bI fL (Ap.self gA (Aa.rep 32 (0:Int))) jq
 have th:=xM.2
 try simp only[AA,Az,go_sem]at th
 have q2:=xM.1.ow jx
 try simp only[AA,Az,go_sem]at q2
 have F:=an (aw jq) th
 try simp only[q2,F,go_sem]
 have hz:=bs h0;clear h0;cases hz;rename_i x3 hz;cases hz;rename_i cY h0
 have u3:=Ap.bI fL (Ap.self gA ((Aa.rep 32 (0:Int)).set 0 jx)) cY
 have aaQ:=u3.2
 try simp only[AA,Az,go_sem]at aaQ
 have q4:=u3.1.ow (IntKind.u8.wrap (Int.fdiv dR (2 ^ 16)))
 try simp only[AA,Az,go_sem]at q4
 have F:=an (aw cY) (an aaQ F)
 try simp only[q4,F,go_sem]
 have hz:=bs h0;clear h0;cases hz;rename_i x5 hz;cases hz;rename_i cE h0
 have xN:=Ap.bI fL (Ap.self gA (((Aa.rep 32 (0:Int)).set 0 jx).set 1 (IntKind.u8.wrap (Int.fdiv dR (2 ^ 16))))) cE
 have tj:=xN.2
 try simp only[AA,Az,go_sem]at tj
 have q6:=xN.1.ow (IntKind.u8.wrap (Int.fdiv dR (2 ^ 8)))
 try simp only[AA,Az,go_sem]at q6
 have F:=an (aw cE) (an tj F)
 try simp only[q6,F,go_sem]
 have hz:=bs h0;clear h0;cases hz;rename_i x7 hz;cases hz;rename_i eG h0
 have rk:=Ap.bI fL (Ap.self gA ((((Aa.rep 32 (0:Int)).set 0 jx).set 1 (IntKind.u8.wrap (Int.fdiv dR (2 ^ 16)))).set 2 (IntKind.u8.wrap (Int.fdiv dR (2 ^ 8))))) eG
 have n4:=rk.2
 try simp only[AA,Az,go_sem]at n4
 have q8:=rk.1.ow (IntKind.u8.wrap dR)
 try simp only[AA,Az,go_sem]at q8
 have F:=an (aw eG) (an n4 F)
 try simp only[q8,F,go_sem]
 have hz:=bs h0;clear h0;cases hz;rename_i x9 hz;cases hz;rename_i fb h0
 have pD:=Ap.bI fL (Ap.self gA (((((Aa.rep 32 (0:Int)).set 0 jx).set 1 (IntKind.u8.wrap (Int.fdiv dR (2 ^ 16)))).set 2 (IntKind.u8.wrap (Int.fdiv dR (2 ^ 8)))).set 3 (IntKind.u8.wrap dR))) fb
 have tk:=pD.2
 try simp only[AA,Az,go_sem]at tk
 have q10:=pD.1.ow 165
 try simp only[AA,Az,go_sem]at q10
 have F:=an (aw fb) (an tk F)
 try simp only[q10,(@id (min (Int.toNat 8) 64=8) rfl),F,go_sem]
 have hz:=bs h0;clear h0;cases hz;rename_i cT hz;cases hz;rename_i mD h0
 have acD:=Ap.bI fL (Ap.self gA ((((((Aa.rep 32 (0:Int)).set 0 jx).set 1 (IntKind.u8.wrap (Int.fdiv dR (2 ^ 16)))).set 2 (IntKind.u8.wrap (Int.fdiv dR (2 ^ 8)))).set 3 (IntKind.u8.wrap dR)).set 31 165)) mD
 have aaM:=acD.2
 try simp only[AA,Az,go_sem]at aaM
 have q12:=acD.1.ow (IntKind.u8.wrap (Int.fdiv qQ (2 ^ 8)))
 try simp only[AA,Az,go_sem]at q12
 have F:=an (aw mD) (an aaM F)
 try simp only[q12,F,go_sem]
 have hz:=bs h0;clear h0;cases hz;rename_i cI hz;cases hz;rename_i rq h0
 have ajI:=Ap.bI fL (Ap.self gA (((((((Aa.rep 32 (0:Int)).set 0 jx).set 1 (IntKind.u8.wrap (Int.fdiv dR (2 ^ 16)))).set 2 (IntKind.u8.wrap (Int.fdiv dR (2 ^ 8)))).set 3 (IntKind.u8.wrap dR)).set 31 165).set 4 (IntKind.u8.wrap (Int.fdiv qQ (2 ^ 8))))) rq
 have aj7:=ajI.2
 try simp only[AA,Az,go_sem]at aj7
 have q14:=ajI.1.ow (IntKind.u8.wrap qQ)
 try simp only[AA,Az,go_sem]at q14
 have F:=an (aw rq) (an aj7 F)
 try simp only[q14,F,go_sem]
 obtain rfl:=oi h0
 refine Ag rfl ?_
 try simp only[F,go_sem]
def ED.s0:SC:=
 SQ [RG [wO 21 .lss 3 20 19 3 4],CN 21 .skip (.exit 0),.block 1 (SQ [RG [wV 22 20 3,wG 10 22 3 [22]],RG [wV 23 2 3,wV 24 1 3,wC 25 77 #[.const (.int .u8 112),.tmp 23,.tmp 24] #[5,3,3] 105 [23,24],wA 11 105,wS 105 11 25 [25]],RG [wV 26 10 3,wY 27 3 5 26 5 [26],wV 28 9 3,wY 29 3 5 28 5 [28],wJ 30 105 11 6,wS 5 30 27 [27,30],wJ 31 105 11 7,wS 5 31 29 [29,31]],
 .aL [oQ 32 (.slice 105 (.tmp 11) (some (.const (.int .i64 8))) (some (.const (.int .i64 31))) none) 82,wV 33 8 82,wV 34 10 3,wK 35 .mul 3 34 23 3 3,wV 36 8 82,wL 37 36 82 3,wV 38 10 3,wK 39 .add 3 38 1 3 3,wK 40 .mul 3 39 23 3 3,oQ 41 (.call ⟨.builtin .min,#[.tmp 37,.tmp 40],#[3,3]⟩) 3,oQ 42 (.slice 82 (.tmp 33) (some (.tmp 35)) (some (.tmp 41)) none) 82,oQ 43 (.call ⟨.builtin .copy,#[.tmp 32,
 .tmp 42],#[82,82]⟩) 3] [[],[],[],[2],[],[4],[],[6],[6,7],[4,5,6,7,8],[1,2,3,4,5,6,7,8,9],[0,1,2,3,4,5,6,7,8,9,10]] [10,32,33,34,35,36,37,38,39,40,41,42,43],RG [wV 44 7 97 [7],wD 45 105 11 [11],oQ 46 (.buildSlice 97 1 #[(0,.tmp 45)]) 97 [45],wP 47 44 46 97 97 97 [44,46],wG 7 47 97 [47]]]),RG [wK 48 .add 3 20 1 3 3 [20],wV 20 48 3 [48]]]
def ED.c:SC:=
 SQ [RG [wE 3 29 0 [0],oQ 6 (.assign (.const (.slice none 0 0))) 97 [6]],RG [oQ 7 (.assign (.const (.slice none 0 0))) 97],RG [wD 12 29 3 [3],wU 13 68 12 29 82 [12],wG 8 13 82 [13]],RG [wV 14 8 82,wL 15 14 82 3 [14],wK 16 .add 3 15 23 3 3 [15],wK 17 .sub 3 16 1 3 3 [16],wK 18 .quo 3 17 23 3 3 [17],wG 9 18 3 [18]],SQ [RG [wV 19 9 3,oQ 20 (.move (.const (.int .i64 0))) 3],.block 0 (.loop ED.s0)],
 RG [wV 49 7 97 [7],wG 6 49 97 [49]],.ret]
def ga.b0 (k:Nat) (kN:Int) (fC:Int) (x1:(List Int)):(Int×(List (Aa 32 Int)))->Option (AT (Int×(List (Aa 32 Int))) ((List (Aa 32 Int))) ((List (Aa 32 Int)))):=fun s=>match s with
 |(i2,l3)=>
   bif decide (i2<ab (Int.tdiv (ab ((ab ((x1.length:Int)+23)) - 1)) 23)) then
    (yc k 112 fC kN).bind fun x6=>
    (x6.at? 6).bind fun x7=>
    ((x6.set 6 (IntKind.u8.wrap i2)).at? 7).bind fun x9=>
    (cg x1 (ab (i2*23)) (min (x1.length:Int) (ab ((ab (i2+1))*23)))).bind fun fI=>
    (fJ 32 l3 (((x6.set 6 (IntKind.u8.wrap i2)).set 7 (IntKind.u8.wrap (ab (Int.tdiv (ab ((ab ((x1.length:Int)+23)) - 1)) 23)))).put 8 23 fI)).bind fun j6=>
    some (.next (ab (i2+1),j6))
   else
    some (.brk l3)
def ga.h0 (kN:Int) (fC:Int) (x1:(List Int)):(Int×(List (Aa 32 Int)))->St:=fun s=>match s with
 |(i2,l3)=>⟨[(1,.int .i64 kN),(2,.int .i64 fC),(7,.loc 0 0 32 0 l3.length l3.length),(8,.sl 1 (List.map af x1)),(9,.int .i64 (ab (Int.tdiv (ab ((ab ((x1.length:Int)+23)) - 1)) 23))),(19,.int .i64 (ab (Int.tdiv (ab ((ab ((x1.length:Int)+23)) - 1)) 23))),(20,.int .i64 i2)],[(0,.arr 105 32 (List.map (Aa.c (n:=32) af) l3))],[],1,Tryz.f39.ntmps⟩
def ga.x0:(List (Aa 32 Int))->St:=fun l4=>⟨[(7,.loc 0 0 32 0 l4.length l4.length)],[(0,.arr 105 32 (List.map (Aa.c (n:=32) af) l4))],[],1,Tryz.f39.ntmps⟩
def ga (k:Nat) (r0:Ab) (kN:Int) (fC:Int):Option ((List (Aa 32 Int))):=
 (cF k r0).bind fun x1=>
 (aj (ga.b0 k kN fC x1) k (0,[])).bind fun sO=>match sO with
 |.next _=>none
 |.ret v_=>some v_
 |.brk l4=>
  some l4
theorem abk (k:Nat) (r0:Ab) (kN:Int) (fC:Int) (r:(List (Aa 32 Int))) (h0:ga k r0 kN fC=some r):Ay Tryz.prog 39 [.agg (Ab.c r0),.int .i64 kN,.int .i64 fC] (fun y=>y=.sl 32 (List.map (Aa.c (n:=32) af) r)):=by
 refine PB Tryz.f39 ED.c [.tmp 6] ?_
 simp only[ga]at h0
 try simp only[ED.c,go_sem]
 refine au h0 (af6 k _) ?_ (fun x1 h0=>?_)<;>try simp only[go_sem]
 obtain⟨sO,aaZ,h0⟩:=bs h0
 refine Bf aaZ (ga.h0 kN fC x1) (ga.x0) ?_ ?_ ?_
 refine Ai.go [1,2,7,8,9,19,20] [32] rfl ?_
 try simp only[ga.h0,go_sem]
 rintro⟨i2,l3⟩ cP Bl Bm h1 aH aF bL
 refine rS ?_
 simp only[ga.b0]at h1
 try simp only[ED.s0,ga.h0,go_sem]
 refine AR h1 ?_ ?_<;>intro c5 h1<;>have F:=c5<;>try simp only[F,go_sem]
 refine au h1 (af5 k _ _ _) ?_ (fun x6 h1=>?_)<;>try simp only[F,go_sem]
 obtain⟨x7,eG,h1⟩:=bs h1
 have rk:=Ap.bI fL (Ap.self gA x6) eG
 have n4:=rk.2
 try simp only[AA,Az,go_sem]at n4
 have q8:=rk.1.ow (IntKind.u8.wrap i2)
 try simp only[AA,Az,go_sem]at q8
 have F:=an (aw eG) (an n4 F)
 try simp only[q8,F,go_sem]
 obtain⟨x9,fb,h1⟩:=bs h1
 have pD:=Ap.bI fL (Ap.self gA (x6.set 6 (IntKind.u8.wrap i2))) fb
 have tk:=pD.2
 try simp only[AA,Az,go_sem]at tk
 have q10:=pD.1.ow (IntKind.u8.wrap (ab (Int.tdiv (ab ((ab ((x1.length:Int)+23)) - 1)) 23)))
 try simp only[AA,Az,go_sem]at q10
 have F:=an (aw fb) (an tk F)
 try simp only[q10,F,go_sem]
 refine AL AB aQ 1000 ?_
 have F:=an (@id (Int.toNat 8=8) rfl) (an (@id (Int.toNat 31=31) rfl) (an (@id (bounds 32 (some (.int .i64 8)) (some (.int .i64 31))=some (8,31)) rfl) (an (@id (31 - 8=23) rfl) F)))
 try simp only[F,go_sem]
 obtain⟨fI,mC,h1⟩:=bs h1
 have abD:=q9 af mC
 try simp only[go_sem]at abD
 have q12:=ap5 (n:=32) ((x6.set 6 (IntKind.u8.wrap i2)).set 7 (IntKind.u8.wrap (ab (Int.tdiv (ab ((ab ((x1.length:Int)+23)) - 1)) 23)))) 8 23 fI (by decide)
 try simp only[go_sem]at q12
 have F:=an abD F
 try simp only[uU mC,q12,F,go_sem]
 refine aK ?_
 try simp only[F,go_sem]
 obtain⟨j6,aaV,h1⟩:=bs h1
 have tp:=pu (Aa.c (n:=32) af) aaV
 try simp only[F,go_sem]at tp
 have F:=an tp F
 try simp only[F,go_sem]
 refine AD (aH _ _ (oi h1).symm (Ai.go [1,2,7,8,9,19,20] [0] rfl ?_))
 try simp only[ga.h0,F,go_sem]
 refine AD (aF _ _ (oi h1).symm (Ai.go [7] [0] rfl ?_))
 try simp only[ga.x0,F,go_sem]
 rintro l4 aI
 subst aI
 simp only at h0
 refine rS ?_
 try simp only[ga.x0,go_sem]
 obtain rfl:=oi h0
 refine Ag rfl ?_
 try simp only[go_sem]
def Hq.c:SC:=
 SQ [RG [wB 6 false 4 [6]],RG [wV 7 1 3 [1],wV 8 0 3,wO 9 .leq 3 7 8 3 4 [7,8],wV 10 9 4 [9],gd 10 true (wV 11 0 3 [0]),gd 10 true (wV 12 2 3 [2]),gd 10 true (wO 13 .leq 3 11 12 3 4 [11,12]),wZ 14 10 13 4 [10,13],wG 6 14 4 [14]],.ret]
def lR (k:Nat) (n0:Int) (lo1:Int) (jz:Int):Option (Bool):=
 bif decide (lo1<=n0) then
  some (decide (n0<=jz))
 else
  some false
theorem pW (k:Nat) (n0:Int) (lo1:Int) (jz:Int) (r:Bool) (h0:lR k n0 lo1 jz=some r):Ay Tryz.prog 69 [.int .i64 n0,.int .i64 lo1,.int .i64 jz] (fun y=>y=.bool r):=by
 refine PB Tryz.f69 Hq.c [.tmp 6] ?_
 simp only[lR]at h0
 try simp only[Hq.c,go_sem]
 refine AR h0 ?_ ?_<;>intro c1 h0<;>have F:=c1<;>try simp only[F,go_sem]
 obtain rfl:=oi h0
 refine Ag rfl ?_
 try simp only[F,go_sem]
 obtain rfl:=oi h0
 refine Ag rfl ?_
 try simp only[F,go_sem]
def G2.c:SC:=
 SQ [RG [wE 1 27 0 [0],wB 2 false 4 [2]],RG [wF 3 27 1 0,wD 4 3 3 [3],wC 5 69 #[.tmp 4,.const (.int .i64 0),.const (.int .i64 5)] #[3,3,3] 4 [4],wV 6 5 4 [5],gd 6 true (wF 7 27 1 1 [1]),gd 6 true (wD 8 3 7 [7]),gd 6 true (wC 9 69 #[.tmp 8,.const (.int .i64 0),.const (.int .i64 9999)] #[3,3,3] 4 [8]),wZ 10 6 9 4 [6,9],wG 2 10 4 [10]],.ret]
def vF (k:Nat) (x0:Entry):Option (Bool):=
 (lR k x0.Aq 0 5).bind fun x1=>
 bif x1 then
  (lR k x0.No 0 9999).bind fun x3=>
  some x3
 else
  some false
theorem agb (k:Nat) (x0:Entry) (r:Bool) (h0:vF k x0=some r):Ay Tryz.prog 112 [.agg (Entry.c x0)] (fun y=>y=.bool r):=by
 refine PB Tryz.f112 G2.c [.tmp 2] ?_
 simp only[vF]at h0
 try simp only[G2.c,go_sem]
 refine au h0 (pW k _ _ _) ?_ (fun x1 h0=>?_)<;>try simp only[go_sem]
 refine AR h0 ?_ ?_<;>intro c2 h0<;>have F:=c2<;>try simp only[F,go_sem]
 refine au h0 (pW k _ _ _) ?_ (fun x3 h0=>?_)<;>try simp only[F,go_sem]
 obtain rfl:=oi h0
 refine Ag rfl ?_
 try simp only[F,go_sem]
 obtain rfl:=oi h0
 refine Ag rfl ?_
 try simp only[F,go_sem]
def Eu.s0:SC:=
 SQ [RG [wO 10 .lss 3 9 8 3 4],CN 10 .skip (.exit 0),.block 1 (SQ [RG [wV 11 9 3,wG 3 11 3 [11]],RG [wV 12 0 9,wV 13 3 3,oQ 14 (.index 9 (.tmp 12) (.tmp 13)) 5 [12,13],oQ 15 (.binOp .lss 5 (.tmp 14) (.const (.int .u8 32)) 5) 4 [14],wV 16 15 4 [15],gd 16 false (wV 17 0 9),gd 16 false (wV 18 3 3 [3]),gd 16 false (oQ 19 (.index 9 (.tmp 17) (.tmp 18)) 5 [17,18]),
 gd 16 false (oQ 20 (.binOp .gtr 5 (.tmp 19) (.const (.int .u8 126)) 5) 4 [19]),wT 21 16 20 4 [16,20]],CN 21 (SQ [RG [wB 2 false 4],.ret]) .skip]),RG [wK 22 .add 3 9 1 3 3 [9],wV 9 22 3 [22]]]
def Eu.c:SC:=
 SQ [RG [wB 2 false 4 [2]],SQ [RG [wV 4 0 9,wL 5 4 9 3 [4],wK 6 .gtr 3 5 200 3 4 [5]],CN 6 (SQ [RG [wB 2 false 4],.ret]) .skip],SQ [RG [wV 7 0 9,wL 8 7 9 3 [7],oQ 9 (.move (.const (.int .i64 0))) 3],.block 0 (.loop Eu.s0)],RG [wB 2 true 4],.ret]
def im.b0 (k:Nat) (s0:ByteArray):Int->Option (AT (Int) (Unit) (Bool)):=fun i2=>
 bif decide (i2<(s0.size:Int)) then
  (sS s0 i2).bind fun i4=>
  bif (!decide (i4<(32:Int))) then
   bif decide ((126:Int)<i4) then
    some (.ret false)
   else
    some (.next (ab (i2+1)))
  else
   some (.ret false)
 else
  some (.brk ())
def im.h0 (s0:ByteArray):Int->St:=fun i2=>⟨[(0,.str s0),(8,.int .i64 (s0.size:Int)),(9,.int .i64 i2)],[],[],1,Tryz.f113.ntmps⟩
def im.x0:Unit->St:=fun _=>⟨[],[],[],1,Tryz.f113.ntmps⟩
def im (k:Nat) (s0:ByteArray):Option (Bool):=
 bif decide ((200:Int)<(s0.size:Int)) then
  some false
 else
  (aj (im.b0 k s0) k 0).bind fun r7=>match r7 with
  |.next _=>none
  |.ret v_=>some v_
  |.brk _=>
   some true
theorem alW (k:Nat) (s0:ByteArray) (r:Bool) (h0:im k s0=some r):Ay Tryz.prog 113 [.str s0] (fun y=>y=.bool r):=by
 refine PB Tryz.f113 Eu.c [.tmp 2] ?_
 simp only[im]at h0
 try simp only[Eu.c,go_sem]
 refine AR h0 ?_ ?_<;>intro c1 h0<;>have F:=c1<;>try simp only[F,go_sem]
 obtain rfl:=oi h0
 refine Ag rfl ?_
 try simp only[F,go_sem]
 obtain⟨r7,kX,h0⟩:=bs h0
 refine Bf kX (im.h0 s0) (im.x0) ?_ ?_ ?_
 refine Ai.go [0,8,9] [] rfl ?_
 try simp only[im.h0,F,go_sem]
 rintro i2 cP Bl Bm h1 aH aF bL
 refine rS ?_
 simp only[im.b0]at h1
 try simp only[Eu.s0,im.h0,F,go_sem]
 refine AF F h1 ?_ ?_<;>intro F h1<;>try simp only[F,go_sem]
 obtain⟨i4,yi4,h1⟩:=bs h1
 have F:=an (ajn yi4) (an (ajm yi4) F)
 try simp only[F,go_sem]
 refine Bx F h1 ?_ ?_<;>intro F h1<;>try simp only[F,go_sem]
 refine AF F h1 ?_ ?_<;>intro F h1<;>try simp only[F,go_sem]
 obtain rfl:=bL _ (oi h1).symm
 simp only at h0
 obtain rfl:=oi h0
 refine Ag rfl ?_
 try simp only[F,go_sem]
 refine AD (aH _ _ (oi h1).symm (Ai.go [0,8,9] [] rfl ?_))
 try simp only[im.h0,F,go_sem]
 obtain rfl:=bL _ (oi h1).symm
 simp only at h0
 obtain rfl:=oi h0
 refine Ag rfl ?_
 try simp only[F,go_sem]
 refine AD (aF _ _ (oi h1).symm (Ai.go [] [] rfl ?_))
 try simp only[im.x0,F,go_sem]
 rintro _ aI
 subst aI
 simp only at h0
 refine rS ?_
 try simp only[im.x0,F,go_sem]
 obtain rfl:=oi h0
 refine Ag rfl ?_
 try simp only[F,go_sem]
def HC.c:SC:=
 SQ [RG [wE 1 29 0 [0],wB 2 false 4 [2]],SQ [RG [wF 3 29 1 0,wD 4 27 3 [3],wU 5 112 4 27 4 [4],wQ 6 5 4 [5],wV 7 6 4 [6],gd 7 false (wF 8 29 1 1),gd 7 false (wD 9 3 8 [8]),gd 7 false (wC 10 69 #[.tmp 9,.const (.int .i64 0),.const (.int .i64 40)] #[3,3,3] 4 [9]),gd 7 false (wQ 11 10 4 [10]),wT 12 7 11 4 [7,11],wV 13 12 4 [12],gd 13 false (wF 14 29 1 2),gd 13 false (wD 15 3 14 [14]),
 gd 13 false (wC 16 69 #[.tmp 15,.const (.int .i64 0),.const (.int .i64 100000)] #[3,3,3] 4 [15]),gd 13 false (wQ 17 16 4 [16]),wT 18 13 17 4 [13,17],wV 19 18 4 [18],gd 19 false (wF 20 29 1 3),gd 19 false (wD 21 3 20 [20]),gd 19 false (wC 22 69 #[.tmp 21,.const (.int .i64 0),.const (.int .i64 100000)] #[3,3,3] 4 [21]),gd 19 false (wQ 23 22 4 [22]),wT 24 19 23 4 [19,23],wV 25 24 4 [24],
 gd 25 false (wF 26 29 1 5),gd 25 false (wD 27 9 26 [26]),gd 25 false (wU 28 113 27 9 4 [27]),gd 25 false (wQ 29 28 4 [28]),wT 30 25 29 4 [25,29]],CN 30 (SQ [RG [wB 2 false 4],.ret]) .skip],SQ [RG [wF 31 29 1 1,wD 32 3 31 [31],wK 33 .neq 3 32 0 3 4 [32]],CN 33 (SQ [RG [wF 34 29 1 4 [1],wD 35 27 34 [34],oQ 36 (.build 27 #[]) 27,wO 37 .eql 27 35 36 27 4 [35,36],wG 2 37 4 [37]],.ret]) .skip],
 RG [wF 38 29 1 2,wD 39 3 38 [38],wK 40 .eql 3 39 0 3 4 [39],wV 41 40 4 [40],gd 41 true (wF 42 29 1 5),gd 41 true (wD 43 9 42 [42]),gd 41 true (oQ 44 (.binOp .eql 9 (.tmp 43) (.const (.string ⟨#[]⟩)) 9) 4 [43]),wZ 45 41 44 4 [41,44],wV 46 45 4 [45],gd 46 true (wF 47 29 1 4),gd 46 true (wD 48 27 47 [47]),gd 46 true (wU 49 112 48 27 4 [48]),wZ 50 46 49 4 [46,49],wV 51 50 4 [50],
 gd 51 true (wF 52 29 1 4),gd 51 true (wF 53 27 52 0 [52]),gd 51 true (wD 54 3 53 [53]),gd 51 true (wF 55 29 1 0),gd 51 true (wF 56 27 55 0 [55]),gd 51 true (wD 57 3 56 [56]),gd 51 true (wO 58 .eql 3 54 57 3 4 [54,57]),wZ 59 51 58 4 [51,58],wV 60 59 4 [59],gd 60 true (wF 61 29 1 4),gd 60 true (wF 62 27 61 1 [61]),gd 60 true (wD 63 3 62 [62]),gd 60 true (wF 64 29 1 0 [1]),
 gd 60 true (wF 65 27 64 1 [64]),gd 60 true (wD 66 3 65 [65]),gd 60 true (wO 67 .lss 3 63 66 3 4 [63,66]),wZ 68 60 67 4 [60,67],wG 2 68 4 [68]],.ret]
def pV (k:Nat) (r0:Ab):Option (Bool):=
 (vF k r0.At).bind fun x1=>
 bif x1 then
  (lR k r0.Kind 0 40).bind fun x3=>
  bif x3 then
   (lR k r0.Day 0 100000).bind fun x5=>
   bif x5 then
    (lR k r0.Bn 0 100000).bind fun x7=>
    bif x7 then
     (im k r0.Text).bind fun x9=>
     bif (!x9) then
      some false
     else
      bif (!decide (r0.Kind=(0:Int))) then
       some (decide (r0.Of.Aq=(0:Int))&&decide (r0.Of.No=(0:Int)))
      else
       bif decide (r0.Day=(0:Int)) then
        bif (r0.Text.toList==ByteArray.empty.toList) then
         (vF k r0.Of).bind fun bJ=>
         bif bJ then
          bif decide (r0.Of.Aq=r0.At.Aq) then
           some (decide (r0.Of.No<r0.At.No))
          else
           some false
         else
          some false
        else
         some false
       else
        some false
    else
     some false
   else
    some false
  else
   some false
 else
  some false
theorem adb (k:Nat) (r0:Ab) (r:Bool) (h0:pV k r0=some r):Ay Tryz.prog 95 [.agg (Ab.c r0)] (fun y=>y=.bool r):=by
 refine PB Tryz.f95 HC.c [.tmp 2] ?_
 simp only[pV]at h0
 try simp only[HC.c,go_sem]
 refine au h0 (agb k _) ?_ (fun x1 h0=>?_)<;>try simp only[go_sem]
 refine AR h0 ?_ ?_<;>intro c2 h0<;>have F:=c2<;>try simp only[F,go_sem]
 refine au h0 (pW k _ _ _) ?_ (fun x3 h0=>?_)<;>try simp only[F,go_sem]
 refine AF F h0 ?_ ?_<;>intro F h0<;>try simp only[F,go_sem]
 refine au h0 (pW k _ _ _) ?_ (fun x5 h0=>?_)<;>try simp only[F,go_sem]
 refine AF F h0 ?_ ?_<;>intro F h0<;>try simp only[F,go_sem]
 refine au h0 (pW k _ _ _) ?_ (fun x7 h0=>?_)<;>try simp only[F,go_sem]
 refine AF F h0 ?_ ?_<;>intro F h0<;>try simp only[F,go_sem]
 refine au h0 (alW k _) ?_ (fun x9 h0=>?_)<;>try simp only[F,go_sem]
 refine Bx F h0 ?_ ?_<;>intro F h0<;>try simp only[F,go_sem]
 obtain rfl:=oi h0
 refine Ag rfl ?_
 try simp only[F,go_sem]
 refine Bx F h0 ?_ ?_<;>intro F h0<;>try simp only[F,go_sem]
 obtain rfl:=oi h0
 refine Ag rfl ?_
 try simp only[F,go_sem]
 refine AF F h0 ?_ ?_<;>intro F h0<;>try simp only[F,go_sem]
 refine AF F h0 ?_ ?_<;>intro F h0<;>try simp only[F,go_sem]
 refine au h0 (agb k _) ?_ (fun bJ h0=>?_)<;>try simp only[F,go_sem]
 refine AF F h0 ?_ ?_<;>intro F h0<;>try simp only[F,go_sem]
 refine AF F h0 ?_ ?_<;>intro F h0<;>try simp only[F,go_sem]
 obtain rfl:=oi h0
 refine Ag rfl ?_
 try simp only[F,go_sem]
 obtain rfl:=oi h0
 refine Ag rfl ?_
 try simp only[F,go_sem]
 obtain rfl:=oi h0
 refine Ag rfl ?_
 try simp only[F,go_sem]
 obtain rfl:=oi h0
 refine Ag rfl ?_
 try simp only[F,go_sem]
 obtain rfl:=oi h0
 refine Ag rfl ?_
 try simp only[F,go_sem]
 obtain rfl:=oi h0
 refine Ag rfl ?_
 try simp only[F,go_sem]
 obtain rfl:=oi h0
 refine Ag rfl ?_
 try simp only[F,go_sem]
 obtain rfl:=oi h0
 refine Ag rfl ?_
 try simp only[F,go_sem]
 obtain rfl:=oi h0
 refine Ag rfl ?_
 try simp only[F,go_sem]
def Hp.c:SC:=
 SQ [RG [wE 1 29 0 [0],wN 2 0 45 [2]],SQ [RG [wD 3 29 1 [1],wU 4 95 3 29 4 [3],wQ 5 4 4 [4]],CN 5 (SQ [RG [wN 2 90 45],.ret]) .skip],RG [wN 2 0 45],.ret]
def abh (k:Nat) (r0:Ab):Option (Int):=
 (pV k r0).bind fun x1=>
 bif (!x1) then
  some 90
 else
  some 0
theorem af3 (k:Nat) (r0:Ab) (r:Int) (h0:abh k r0=some r):Ay Tryz.prog 67 [.agg (Ab.c r0)] (fun y=>y=.int .i64 r):=by
 refine PB Tryz.f67 Hp.c [.tmp 2] ?_
 simp only[abh]at h0
 try simp only[Hp.c,go_sem]
 refine au h0 (adb k _) ?_ (fun x1 h0=>?_)<;>try simp only[go_sem]
 refine Cr h0 ?_ ?_<;>intro c2 h0<;>have F:=c2<;>try simp only[F,go_sem]
 obtain rfl:=oi h0
 refine Ag rfl ?_
 try simp only[F,go_sem]
 obtain rfl:=oi h0
 refine Ag rfl ?_
 try simp only[F,go_sem]
def EB.s0:SC:=
 SQ [RG [wO 31 .lss 3 30 29 3 0],CN 31 .skip (.exit 0),.block 1 (SQ [RG [wI 32 97 28 30,wD 33 105 32 [32],wA 11 105,wS 105 11 33 [33]],RG [wV 34 9 85 [9],wD 35 105 11 [11],oQ 36 (.buildSlice 85 1 #[(0,.tmp 35)]) 85 [35],wP 37 34 36 85 85 85 [34,36],wG 9 37 85 [37]]]),RG [wK 38 .add 3 30 1 3 3 [30],wV 30 38 3 [38]]]
def EB.c:SC:=
 SQ [RG [wE 3 29 0 [0],oQ 6 (.assign (.const (.slice none 0 0))) 85 [6],wN 7 0 45 [7]],SQ [RG [wD 12 29 3,wU 13 67 12 29 45 [12],wG 8 13 45 [13]],RG [wV 14 8 45,wK 15 .neq 45 14 0 45 4 [14]],CN 15 (SQ [RG [wV 16 8 45 [8],oQ 6 (.assign (.const (.slice none 0 0))) 85,wG 7 16 45 [16]],.ret]) .skip],SQ [RG [wV 17 1 3,wC 18 69 #[.tmp 17,.const (.int .i64 0),.const (.int .i64 59)] #[3,3,3] 4 [17],
 wQ 19 18 4 [18],wV 20 19 4 [19],gd 20 false (wV 21 2 3),gd 20 false (wC 22 69 #[.tmp 21,.const (.int .i64 1),.const (.int .i64 1000000)] #[3,3,3] 4 [21]),gd 20 false (wQ 23 22 4 [22]),wT 24 20 23 4 [20,23]],CN 24 (SQ [RG [oQ 6 (.assign (.const (.slice none 0 0))) 85,wN 7 1 45],.ret]) .skip],RG [oQ 9 (.assign (.const (.slice none 0 0))) 85],SQ [RG [wD 25 29 3 [3],wV 26 1 3 [1],wV 27 2 3 [2],
 wC 28 39 #[.tmp 25,.tmp 26,.tmp 27] #[29,3,3] 97 [25,26,27],wL 29 28 97 3,oQ 30 (.move (.const (.int .i64 0))) 3],.block 0 (.loop EB.s0)],RG [wV 39 9 85 [9],wG 6 39 85 [39],wN 7 0 45],.ret]
def kj.b0 (k:Nat) (x7:(List (Aa 32 Int))):(Int×(List (Aa 32 Int)))->Option (AT (Int×(List (Aa 32 Int))) ((List (Aa 32 Int))) ((List (Aa 32 Int))×Int)):=fun s=>match s with
 |(i8,l9)=>
   bif decide (i8<(x7.length:Int)) then
    (at? x7 i8).bind fun ij=>
    (fJ 32 l9 ij).bind fun j6=>
    some (.next (ab (i8+1),j6))
   else
    some (.brk l9)
def kj.h0 (x7:(List (Aa 32 Int))):(Int×(List (Aa 32 Int)))->St:=fun s=>match s with
 |(i8,l9)=>⟨[(9,.loc 0 0 32 0 l9.length l9.length),(28,.sl 32 (List.map (Aa.c (n:=32) af) x7)),(29,.int .i64 (x7.length:Int)),(30,.int .i64 i8)],[(0,.arr 92 32 (List.map (Aa.c (n:=32) af) l9))],[],1,Tryz.f31.ntmps⟩
def kj.x0:(List (Aa 32 Int))->St:=fun jl=>⟨[(9,.loc 0 0 32 0 jl.length jl.length)],[(0,.arr 92 32 (List.map (Aa.c (n:=32) af) jl))],[],1,Tryz.f31.ntmps⟩
def kj (k:Nat) (r0:Ab) (kN:Int) (fC:Int):Option ((List (Aa 32 Int))×Int):=
 (abh k r0).bind fun x1=>
 bif (!decide (x1=(0:Int))) then
  some ([],x1)
 else
  (lR k kN 0 59).bind fun x3=>
  bif x3 then
   (lR k fC 1 1000000).bind fun x5=>
   bif (!x5) then
    some ([],1)
   else
    (ga k r0 kN fC).bind fun x7=>
    (aj (kj.b0 k x7) k (0,[])).bind fun sO=>match sO with
    |.next _=>none
    |.ret v_=>some v_
    |.brk jl=>
     some (jl,0)
  else
   some ([],1)
theorem alM (k:Nat) (r0:Ab) (kN:Int) (fC:Int) (r:(List (Aa 32 Int))×Int) (h0:kj k r0 kN fC=some r):Ay Tryz.prog 31 [.agg (Ab.c r0),.int .i64 kN,.int .i64 fC] (fun y=>y=.ar [.sl 32 (List.map (Aa.c (n:=32) af) r.1),.int .i64 r.2]):=by
 refine PB Tryz.f31 EB.c [.tmp 6,.tmp 7] ?_
 simp only[kj]at h0
 try simp only[EB.c,go_sem]
 refine au h0 (af3 k _) ?_ (fun x1 h0=>?_)<;>try simp only[go_sem]
 refine Cr h0 ?_ ?_<;>intro c2 h0<;>have F:=c2<;>try simp only[F,go_sem]
 obtain rfl:=oi h0
 refine Ag rfl ?_
 try simp only[F,go_sem]
 refine au h0 (pW k _ _ _) ?_ (fun x3 h0=>?_)<;>try simp only[F,go_sem]
 refine AF F h0 ?_ ?_<;>intro F h0<;>try simp only[F,go_sem]
 refine au h0 (pW k _ _ _) ?_ (fun x5 h0=>?_)<;>try simp only[F,go_sem]
 refine Bx F h0 ?_ ?_<;>intro F h0<;>try simp only[F,go_sem]
 obtain rfl:=oi h0
 refine Ag rfl ?_
 try simp only[F,go_sem]
 refine au h0 (abk k _ _ _) ?_ (fun x7 h0=>?_)<;>try simp only[F,go_sem]
 obtain⟨sO,aaZ,h0⟩:=bs h0
 refine Bf aaZ (kj.h0 x7) (kj.x0) ?_ ?_ ?_
 refine Ai.go [9,28,29,30] [256] rfl ?_
 try simp only[kj.h0,F,go_sem]
 rintro⟨i8,l9⟩ cP Bl Bm h1 aH aF bL
 refine rS ?_
 simp only[kj.b0]at h1
 try simp only[EB.s0,kj.h0,F,go_sem]
 refine AF F h1 ?_ ?_<;>intro F h1<;>try simp only[F,go_sem]
 obtain⟨ij,pH,h1⟩:=bs h1
 have F:=an (aC pH) (an (aE (Aa.c (n:=32) af) pH) F)
 try simp only[F,go_sem]
 obtain⟨j6,aaV,h1⟩:=bs h1
 have tp:=pu (Aa.c (n:=32) af) aaV
 try simp only[F,go_sem]at tp
 have F:=an tp F
 try simp only[F,go_sem]
 refine AD (aH _ _ (oi h1).symm (Ai.go [9,28,29,30] [0] rfl ?_))
 try simp only[kj.h0,F,go_sem]
 refine AD (aF _ _ (oi h1).symm (Ai.go [9] [0] rfl ?_))
 try simp only[kj.x0,F,go_sem]
 rintro jl aI
 subst aI
 simp only at h0
 refine rS ?_
 try simp only[kj.x0,F,go_sem]
 obtain rfl:=oi h0
 refine Ag rfl ?_
 try simp only[F,go_sem]
 obtain rfl:=oi h0
 refine Ag rfl ?_
 try simp only[F,go_sem]
def EM.c:SC:=
 SQ [RG [oQ 2 (.assign (.const (.slice none 0 0))) 33 [2]],SQ [RG [wV 3 0 33,oQ 4 (.binOp .eql 33 (.tmp 3) (.const (.slice none 0 0)) 33) 4 [3]],CN 4 (SQ [RG [oQ 2 (.assign (.const (.slice none 0 0))) 33],.ret]) .skip],RG [oQ 5 (.buildSlice 33 0 #[]) 33,wV 6 0 33 [0],wP 7 5 6 33 33 33 [5,6],wG 2 7 33 [7]],.ret]
theorem EM.rs:Tryz.f78.results.toList=[.tmp 2]:=rfl
def acv (k:Nat) (s0:(List (Aa 2 (Aa 32 Int)))):Option ((List (Aa 2 (Aa 32 Int)))):=
 (fo s0.length 64).bind fun _=>
 some s0
theorem aqL (k:Nat) (s0:(List (Aa 2 (Aa 32 Int)))) (r:(List (Aa 2 (Aa 32 Int)))) (h0:acv k s0=some r):A6 Tryz.prog 78 [.sl 64 (List.map (Aa.c (n:=2) (Aa.c (n:=32) af)) s0)] [] (fun y fr=>y=.loc 0 0 64 0 r.length r.length/\fr=[(0,.arr 113 64 (List.map (Aa.c (n:=2) (Aa.c (n:=32) af)) r))]):=by
 have hr:=A6.own (et:=113) (sz:=64) (ls:=List.map (Aa.c (n:=2) (Aa.c (n:=32) af)) r) (A6.gr AB (f:=78) (fn:=Tryz.f78) (sc:=EM.c) (args:=[.sl 64 (List.map (Aa.c (n:=2) (Aa.c (n:=32) af)) s0)]) (fr0:=[]) (by rfl) (by rfl) (by decide +kernel) (by rfl) (by decide +kernel) (Nat.le_of_ble_eq_true rfl) (fun H=>?_))
 ·simpa only [Bh] using hr
 refine rS ?_
 simp only[acv]at h0
 try simp only[EM.c,go_sem]
 refine⟨fun he=>?_,?_⟩
 ·refine rS ?_
  try simp only[go_sem]
  obtain⟨u_,hu_,h0⟩:=bind_some h0
  obtain rfl:=oi h0
  refine Da rfl ?_
  simp only[he,EM.rs,m8,A0,b9,Az,List.take_nil,go_sem]
  try simp
 ·refine rS ?_
  try simp only[go_sem]
  obtain⟨u1,iX,h0⟩:=bind_some h0
  try simp only[lH iX,go_sem]
  obtain rfl:=oi h0
  refine Da rfl ?_
  try simp only[EM.rs,m8,A0,b9,tM,vP,Be,CO,go_sem]
def EN.c:SC:=
 SQ [RG [oQ 2 (.assign (.const (.slice none 0 0))) 34 [2]],SQ [RG [wV 3 0 34,oQ 4 (.binOp .eql 34 (.tmp 3) (.const (.slice none 0 0)) 34) 4 [3]],CN 4 (SQ [RG [oQ 2 (.assign (.const (.slice none 0 0))) 34],.ret]) .skip],RG [oQ 5 (.buildSlice 34 0 #[]) 34,wV 6 0 34 [0],wP 7 5 6 34 34 34 [5,6],wG 2 7 34 [7]],.ret]
theorem EN.rs:Tryz.f79.results.toList=[.tmp 2]:=rfl
def acw (k:Nat) (s0:(List Ao)):Option ((List Ao)):=
 (fo s0.length 72).bind fun _=>
 some s0
theorem aqM (k:Nat) (s0:(List Ao)) (r:(List Ao)) (h0:acw k s0=some r):A6 Tryz.prog 79 [.sl 65 (List.map Ao.c s0)] [] (fun y fr=>y=.loc 0 0 65 0 r.length r.length/\fr=[(0,.arr 116 65 (List.map Ao.c r))]):=by
 have hr:=A6.own (et:=116) (sz:=65) (ls:=List.map Ao.c r) (A6.gr AB (f:=79) (fn:=Tryz.f79) (sc:=EN.c) (args:=[.sl 65 (List.map Ao.c s0)]) (fr0:=[]) (by rfl) (by rfl) (by decide +kernel) (by rfl) (by decide +kernel) (Nat.le_of_ble_eq_true rfl) (fun H=>?_))
 ·simpa only [Bh] using hr
 refine rS ?_
 simp only[acw]at h0
 try simp only[EN.c,go_sem]
 refine⟨fun he=>?_,?_⟩
 ·refine rS ?_
  try simp only[go_sem]
  obtain⟨u_,hu_,h0⟩:=bind_some h0
  obtain rfl:=oi h0
  refine Da rfl ?_
  simp only[he,EN.rs,m8,A0,b9,Az,List.take_nil,go_sem]
  try simp
 ·refine rS ?_
  try simp only[go_sem]
  obtain⟨u1,iX,h0⟩:=bind_some h0
  try simp only[lH iX,go_sem]
  obtain rfl:=oi h0
  refine Da rfl ?_
  try simp only[EN.rs,m8,A0,b9,tM,vP,Be,CO,go_sem]
def Fl.c:SC:=
 SQ [RG [wE 1 36 0 [0],oQ 2 (.assign (.const (.pointer none))) 99 [2]],.aL [wF 3 36 1 0,wD 4 33 3,wU 5 78 4 33 33,wF 6 36 1 1,wD 7 34 6,wU 8 79 7 34 34,oQ 9 (.build 36 #[(0,.tmp 5),(1,.tmp 8)]) 36,oQ 10 (.build 102 #[(0,.tmp 9)]) 102,oQ 11 (.box 102 (.tmp 10)) 99,wG 2 11 99] [[],[0],[0,1],[],[3],[3,4,0,1,2],[0,1,2,3,4,5],[0,1,2,3,4,5,6],[0,1,2,3,4,5,6,7],[0,1,2,3,4,5,6,7,8]] [1,3,4,5,6,7,8,9,10,
 11],.ret]
theorem Fl.rs:Tryz.f40.results.toList=[.tmp 2]:=rfl
def mK (k:Nat) (d0:Ac):Option (az):=
 (acv k d0.Af).bind fun x2=>
 (acw k d0.Ad).bind fun x4=>
 some (⟨(⟨x2,x4⟩:Ac)⟩:az)
theorem tD (k:Nat) (d0:Ac) (r:az) (h0:mK k d0=some r):A6 Tryz.prog 40 [.agg (Ac.c d0)] [] (fun y fr=>y=.ptr 0 0 0/\fr=[(0,.box ([.loc 0 1 64 0 r.Ac.Af.length r.Ac.Af.length,.loc 0 2 65 0 r.Ac.Ad.length r.Ac.Ad.length])),(1,.arr 113 64 (List.map (Aa.c (n:=2) (Aa.c (n:=32) af)) r.Ac.Af)),(2,.arr 116 65 (List.map Ao.c r.Ac.Ad))]):=by
 refine A6.gr AB (f:=40) (fn:=Tryz.f40) (sc:=Fl.c) (by rfl) (by rfl) (by decide +kernel) (by rfl) (by decide +kernel) (Nat.le_of_ble_eq_true rfl) (fun H=>?_)
 refine rS ?_
 simp only[mK]at h0
 try simp only[Fl.c,go_sem]
 refine AL AB aQ 1000 ?_
 try simp only[go_sem]
 obtain⟨x2,ec,h0⟩:=bs h0
 refine D6 1000 [] [] (aqL k _ _ ec) ?_ rfl ?_
 try simp only[fS,Bh,go_sem]
 try simp only[go_sem]
 obtain⟨x4,bS,h0⟩:=bs h0
 refine D6 1000 [] [] (aqM k _ _ bS) ?_ rfl ?_
 try simp only[fS,Bh,go_sem]
 try simp only[go_sem]
 refine aK ?_
 try simp only[go_sem]
 obtain rfl:=oi h0
 refine GM [176,80,128] (by simp) rfl rfl ?_
 try simp only[Fl.rs,adW,b9,Ae,go_sem]
def DS.s0:SC:=
 SQ [RG [wO 12 .lss 3 11 10 3 0],CN 12 .skip (.exit 0),.block 1 (SQ [RG [wI 13 34 9 11,wD 14 116 13 [13],wA 4 116,wS 116 4 14 [14]],.aL [wV 15 0 99,oQ 16 (.nilCheck (.tmp 15)) 0,wF 17 102 16 0,wF 18 36 17 0,wD 19 33 18,wF 20 116 4 0,wD 21 3 20,wF 22 116 4 1,wD 23 113 22,wI 24 33 19 21,wS 113 24 23] [[],[0],[0,1],[0,1,2],[0,1,2,3],[],[5],[],[7],[0,1,2,3,4,5,6,7,8],[0,1,2,3,4,5,6,7,8,9]] [4,15,16,
 17,18,19,20,21,22,23,24]]),RG [wK 25 .add 3 11 1 3 3 [11],wV 11 25 3 [25]]]
def DS.c:SC:=
 SQ [RG [oQ 2 (.assign (.const (.pointer none))) 99 [2]],SQ [RG [wV 5 0 99,oQ 6 (.nilCheck (.tmp 5)) 0 [5],wF 7 102 6 0 [6],wF 8 36 7 1 [7],wD 9 34 8 [8],wL 10 9 34 3,oQ 11 (.move (.const (.int .i64 0))) 3],.block 0 (.loop DS.s0)],RG [wV 26 0 99,oQ 27 (.nilCheck (.tmp 26)) 0 [26],wF 28 102 27 0 [27],wF 29 36 28 1 [28],⟨none,.store 34 (.tmp 29) (.const (.slice none 0 0)),0,none,[29]⟩],
 RG [wV 30 0 99 [0],wG 2 30 99 [30]],.ret]
theorem DS.rs:Tryz.f42.results.toList=[.tmp 2]:=rfl
def fA.b0 (k:Nat) (d0:az):(Int×(List (Aa 2 (Aa 32 Int))))->Option (AT (Int×(List (Aa 2 (Aa 32 Int)))) ((List (Aa 2 (Aa 32 Int)))) (az)):=fun s=>match s with
 |(i1,l2)=>
   bif decide (i1<((d0.Ac.Ad.length:Nat):Int)) then
    (at? d0.Ac.Ad i1).bind fun x5=>
    (at? l2 x5.At).bind fun x6=>
    (dM l2 x5.At x5.AH).bind fun l7=>
    some (.next (ab (i1+1),l7))
   else
    some (.brk l2)
def fA.h0 (f1:Au) (H:Heap) (d0:az):(Int×(List (Aa 2 (Aa 32 Int))))->St:=fun s=>match s with
 |(i1,l2)=>⟨[(0,.ptr 1 0 0),(9,.loc 1 2 65 0 d0.Ac.Ad.length d0.Ac.Ad.length),(10,.int .i64 ((d0.Ac.Ad.length:Nat):Int)),(11,.int .i64 i1)],[],((0,.box ([.loc 0 1 64 0 l2.length l2.length,.loc 0 2 65 0 d0.Ac.Ad.length d0.Ac.Ad.length]))::(1,.arr 113 64 (List.map (Aa.c (n:=2) (Aa.c (n:=32) af)) l2))::(2,.arr 116 65 (List.map Ao.c d0.Ac.Ad))::f1)::H,1,Tryz.f42.ntmps⟩
def fA.x0 (f1:Au) (H:Heap) (d0:az):(List (Aa 2 (Aa 32 Int)))->St:=fun l3=>⟨[(0,.ptr 1 0 0)],[],((0,.box ([.loc 0 1 64 0 l3.length l3.length,.loc 0 2 65 0 d0.Ac.Ad.length d0.Ac.Ad.length]))::(1,.arr 113 64 (List.map (Aa.c (n:=2) (Aa.c (n:=32) af)) l3))::(2,.arr 116 65 (List.map Ao.c d0.Ac.Ad))::f1)::H,1,Tryz.f42.ntmps⟩
def fA (k:Nat) (d0:az):Option (az):=
 (aj (fA.b0 k d0) k (0,d0.Ac.Af)).bind fun r8=>match r8 with
 |.next _=>none
 |.ret v_=>some v_
 |.brk l3=>
  some (⟨(⟨l3,[]⟩:Ac)⟩:az)
theorem vD (k:Nat) (d0:az) (r:az) (h0:fA k d0=some r):Dr Tryz.prog 42 [.ptr 1 0 0] [(0,.box ([.loc 0 1 64 0 d0.Ac.Af.length d0.Ac.Af.length,.loc 0 2 65 0 d0.Ac.Ad.length d0.Ac.Ad.length])),(1,.arr 113 64 (List.map (Aa.c (n:=2) (Aa.c (n:=32) af)) d0.Ac.Af)),(2,.arr 116 65 (List.map Ao.c d0.Ac.Ad))] (fun y fr X'=>y=.ptr 1 0 0/\fr=[]/\X'=[(0,.box ([.loc 0 1 64 0 r.Ac.Af.length r.Ac.Af.length,.nil])),(1,.arr 113 64 (List.map (Aa.c (n:=2) (Aa.c (n:=32) af)) r.Ac.Af)),(2,.arr 116 65 (List.map Ao.c d0.Ac.Ad))]):=by
 refine Dr.gr AB (fn:=Tryz.f42) (sc:=DS.c) (by rfl) (by rfl) (by decide +kernel) (by rfl) (by decide +kernel) (Nat.le_of_ble_eq_true rfl) (fun f1 H=>?_)
 refine rS ?_
 simp only[Bg,Bt]
 simp only[fA]at h0
 try simp only[DS.c,go_sem]
 obtain⟨r8,rp,h0⟩:=bs h0
 refine Bf rp (fA.h0 f1 H d0) (fA.x0 f1 H d0) ?_ ?_ ?_
 refine Ai.go [0,9,10,11] [] rfl ?_
 try simp only[fA.h0,go_sem]
 rintro⟨i1,l2⟩ cP Bl Bm h1 aH aF bL
 refine rS ?_
 simp only[fA.b0]at h1
 try simp only[DS.s0,fA.h0,go_sem]
 refine AR h1 ?_ ?_<;>intro c4 h1<;>have F:=c4<;>try simp only[F,go_sem]
 obtain⟨x5,cE,h1⟩:=bs h1
 have F:=an (aC cE) (an (aE Ao.c cE) F)
 try simp only[F,go_sem]
 refine AL AB aQ 1000 ?_
 try simp only[F,go_sem]
 obtain⟨x6,ee,h1⟩:=bs h1
 have F:=an (aC ee) (an (aE (Aa.c (n:=2) (Aa.c (n:=32) af)) ee) F)
 try simp only[F,go_sem]
 obtain⟨l7,yl7,h1⟩:=bs h1
 have aha:=lI (Aa.c (n:=2) (Aa.c (n:=32) af)) yl7
 try simp only[go_sem]at aha
 have F:=an aha (an (kP yl7) (an (lJ (Aa.c (n:=2) (Aa.c (n:=32) af)) yl7) F))
 try simp only[F,go_sem]
 refine aK ?_
 try simp only[F,go_sem]
 refine AD (aH _ _ (oi h1).symm (Ai.go [0,9,10,11] [] rfl ?_))
 try simp only[fA.h0,F,go_sem]
 refine AD (aF _ _ (oi h1).symm (Ai.go [0] [] rfl ?_))
 try simp only[fA.x0,F,go_sem]
 rintro l3 aI
 subst aI
 simp only at h0
 refine rS ?_
 try simp only[fA.x0,go_sem]
 obtain rfl:=oi h0
 refine FB (by simp) ?_ ?_
 try simp only[DS.rs,b9,Ae,go_sem]
 try simp only[Bg,Bt,go_sem]
def Ex.s0:SC:=
 SQ [RG [wO 9 .lss 3 8 7 3 0],CN 9 .skip (.exit 0),.block 1 (SQ [RG [wV 10 8 3,wG 5 10 3 [10]],RG [wV 11 1 169,wV 12 0 34,wV 13 5 3,wI 14 34 12 13 [12,13],wD 15 116 14 [14],oQ 16 (.call ⟨.value (.tmp 11),#[.tmp 15],#[116]⟩) 4 [11,15]],CN 16 (SQ [RG [wV 17 5 3 [5],wG 4 17 3 [17]],.ret]) .skip]),RG [wK 18 .add 3 8 1 3 3 [8],wV 8 18 3 [18]]]
def Ex.c:SC:=
 SQ [RG [wN 4 0 3 [4]],SQ [RG [wV 6 0 34,wL 7 6 34 3 [6],oQ 8 (.move (.const (.int .i64 0))) 3],.block 0 (.loop Ex.s0)],RG [wN 4 (-1) 3],.ret]
def iU.b0 (k:Nat) (f1:Ao->Option (Bool)) (s0:(List Ao)):Int->Option (AT (Int) (Unit) (Int)):=fun i1=>
 bif decide (i1<(s0.length:Int)) then
  (at? s0 i1).bind fun x3=>
  (f1 x3).bind fun x4=>
  bif x4 then
   some (.ret i1)
  else
   some (.next (ab (i1+1)))
 else
  some (.brk ())
def iU.h0 (qj:Nat) (nw:List AV) (s0:(List Ao)):Int->St:=fun i1=>⟨[(0,.sl 65 (List.map Ao.c s0)),(1,.fn (.func qj) [] nw),(7,.int .i64 (s0.length:Int)),(8,.int .i64 i1)],[],[],1,Tryz.f119.ntmps⟩
def iU.x0:Unit->St:=fun _=>⟨[],[],[],1,Tryz.f119.ntmps⟩
def iU (k:Nat) (s0:(List Ao)) (f1:Ao->Option (Bool)):Option (Int):=
 (aj (iU.b0 k f1 s0) k 0).bind fun r6=>match r6 with
 |.next _=>none
 |.ret v_=>some v_
 |.brk _=>
  some (-1)
theorem aqP (k:Nat) (s0:(List Ao)) (qj:Nat) (nw:List AV) (je:Cs nw) (f1:Ao->Option (Bool)) (adG:∀ q0 qr,f1 q0=some qr->Ay Tryz.prog qj (.agg (Ao.c q0)::nw) (fun y=>y=.bool qr)) (r:Int) (h0:iU k s0 f1=some r):Ay Tryz.prog 119 [.sl 65 (List.map Ao.c s0),.fn (.func qj) [] nw] (fun y=>y=.int .i64 r):=by
 refine PB Tryz.f119 Ex.c [.tmp 4] ?_
 simp only[iU]at h0
 have F:=an je.sh (an je.ai (an je.br (an je.refs (an je.imp (an je.aS je.un)))))
 try simp only[Ex.c,F,go_sem]
 obtain⟨r6,yr6,h0⟩:=bs h0
 refine Bf yr6 (iU.h0 qj nw s0) (iU.x0) ?_ ?_ ?_
 refine Ai.go [0,1,7,8] [] rfl ?_
 try simp only[iU.h0,F,go_sem]
 rintro i1 cP Bl Bm h1 aH aF bL
 refine rS ?_
 simp only[iU.b0]at h1
 try simp only[Ex.s0,iU.h0,F,go_sem]
 refine AF F h1 ?_ ?_<;>intro F h1<;>try simp only[F,go_sem]
 obtain⟨x3,cY,h1⟩:=bs h1
 have F:=an (aC cY) (an (aE Ao.c cY) F)
 try simp only[F,go_sem]
 refine au h1 (adG _) ?_ (fun x4 h1=>?_) (fun _=>by simp[AV.aO,AV.refs,AV.dh,AV.leaf,je.refs])<;>try simp only[F,go_sem]
 refine AF F h1 ?_ ?_<;>intro F h1<;>try simp only[F,go_sem]
 obtain rfl:=bL _ (oi h1).symm
 simp only at h0
 obtain rfl:=oi h0
 refine Ag rfl ?_
 try simp only[F,go_sem]
 refine AD (aH _ _ (oi h1).symm (Ai.go [0,1,7,8] [] rfl ?_))
 try simp only[iU.h0,F,go_sem]
 refine AD (aF _ _ (oi h1).symm (Ai.go [] [] rfl ?_))
 try simp only[iU.x0,F,go_sem]
 rintro _ aI
 subst aI
 simp only at h0
 refine rS ?_
 try simp only[iU.x0,F,go_sem]
 obtain rfl:=oi h0
 refine Ag rfl ?_
 try simp only[F,go_sem]
def HE.c:SC:=
 SQ [RG [wB 4 false 4 [4]],RG [wV 5 0 34 [0],wV 6 1 169 [1],wW 7 119 5 6 34 169 3 [5,6],wK 8 .geq 3 7 0 3 4 [7],wG 4 8 4 [8]],.ret]
def acx (k:Nat) (s0:(List Ao)) (f1:Ao->Option (Bool)):Option (Bool):=
 (iU k s0 f1).bind fun x1=>
 some (decide ((0:Int)<=x1))
theorem aqN (k:Nat) (s0:(List Ao)) (qj:Nat) (nw:List AV) (je:Cs nw) (f1:Ao->Option (Bool)) (adG:∀ q0 qr,f1 q0=some qr->Ay Tryz.prog qj (.agg (Ao.c q0)::nw) (fun y=>y=.bool qr)) (r:Bool) (h0:acx k s0 f1=some r):Ay Tryz.prog 99 [.sl 65 (List.map Ao.c s0),.fn (.func qj) [] nw] (fun y=>y=.bool r):=by
 refine PB Tryz.f99 HE.c [.tmp 4] ?_
 simp only[acx]at h0
 have F:=an je.sh (an je.ai (an je.br (an je.refs (an je.imp (an je.aS je.un)))))
 try simp only[HE.c,F,go_sem]
 refine au h0 (aqP k _ qj nw je f1 adG) ?_ (fun x1 h0=>?_) (fun _=>by simp[AV.aO,AV.refs,AV.dh,AV.leaf,je.refs])<;>try simp only[F,go_sem]
 obtain rfl:=oi h0
 refine Ag rfl ?_
 try simp only[F,go_sem]
def GU.c:SC:=
 SQ [RG [wE 1 116 0 [0],wB 2 false 4 [2]],RG [wF 3 116 1 0 [1],wD 4 3 3 [3],wC 5 69 #[.tmp 4,.const (.int .i64 0),.const (.int .i64 601)] #[3,3,3] 4 [4],wQ 6 5 4 [5],wG 2 6 4 [6]],.ret]
def vE (k:Nat) (w0:Ao):Option (Bool):=
 (lR k w0.At 0 601).bind fun x1=>
 some (!x1)
theorem alV (k:Nat) (w0:Ao) (r:Bool) (h0:vE k w0=some r):Ay Tryz.prog 100 [.agg (Ao.c w0)] (fun y=>y=.bool r):=by
 refine PB Tryz.f100 GU.c [.tmp 2] ?_
 simp only[vE]at h0
 try simp only[GU.c,go_sem]
 refine au h0 (pW k _ _ _) ?_ (fun x1 h0=>?_)<;>try simp only[go_sem]
 obtain rfl:=oi h0
 refine Ag rfl ?_
 try simp only[go_sem]
def Hs.c:SC:=
 SQ [RG [wE 1 36 0 [0],wB 2 false 4 [2]],RG [wF 3 36 1 0,wD 4 33 3 [3],wL 5 4 33 3 [4],wK 6 .eql 3 5 602 3 4 [5],wV 7 6 4 [6],gd 7 true (wF 8 36 1 1),gd 7 true (wD 9 34 8 [8]),gd 7 true (wL 10 9 34 3 [9]),gd 7 true (wK 11 .leq 3 10 1200 3 4 [10]),wZ 12 7 11 4 [7,11],wV 13 12 4 [12],gd 13 true (wF 14 36 1 1 [1]),gd 13 true (wD 15 34 14 [14]),gd 13 true (wC 16 99 #[.tmp 15,.func 100] #[34,
 169] 4 [15]),gd 13 true (wQ 17 16 4 [16]),wZ 18 13 17 4 [13,17],wG 2 18 4 [18]],.ret]
def tF (k:Nat) (d0:Ac):Option (Bool):=
 bif decide ((d0.Af.length:Int)=(602:Int)) then
  bif decide ((d0.Ad.length:Int)<=(1200:Int)) then
   (acx k d0.Ad (fun q0=>vE k q0)).bind fun x3=>
   some (!x3)
  else
   some false
 else
  some false
theorem ada (k:Nat) (d0:Ac) (r:Bool) (h0:tF k d0=some r):Ay Tryz.prog 71 [.agg (Ac.c d0)] (fun y=>y=.bool r):=by
 refine PB Tryz.f71 Hs.c [.tmp 2] ?_
 simp only[tF]at h0
 try simp only[Hs.c,go_sem]
 refine AR h0 ?_ ?_<;>intro c1 h0<;>have F:=c1<;>try simp only[F,go_sem]
 refine AF F h0 ?_ ?_<;>intro F h0<;>try simp only[F,go_sem]
 refine au h0 (aqN k _ 100 [] ⟨fun _=>rfl,fun _=>rfl,fun _ _=>rfl,rfl,fun _=>rfl,fun _=>rfl,fun _=>rfl⟩ (fun q0=>vE k q0) (fun q0 qr qh=>alV k q0 qr qh)) ?_ (fun x3 h0=>?_)<;>try simp only[F,go_sem]
 obtain rfl:=oi h0
 refine Ag rfl ?_
 try simp only[F,go_sem]
 obtain rfl:=oi h0
 refine Ag rfl ?_
 try simp only[F,go_sem]
 obtain rfl:=oi h0
 refine Ag rfl ?_
 try simp only[F,go_sem]
end Go.Abs
namespace Go.Abs
open Go Go.Proofs Go.RowKit Go.Lib
def Fj.c:SC:=
 SQ [RG [wE 2 99 0 [0],wE 3 3 1 [1],oQ 4 (.assign (.const .nilFunc)) 188 [4]],RG [oQ 5 (.makeFunc (.func 126) #[] #[.tmp 2,.tmp 3]) 187 [2,3],wG 4 5 188 [5]],.ret]
theorem Fj.rs:Tryz.f120.results.toList=[.tmp 4]:=rfl
def nS (d:az) (aV:Int):AV:=.fn (.func 126) [] [.aD 1 [[.aD 2 [az.c d] 0 0]] 0 0,.aD 1 [[.int .i64 aV]] 0 0]
theorem aqb (d:az) (aV:Int):CB Tryz.prog 120 [.aD 2 [az.c d] 0 0,.int .i64 aV] [] (fun y fr H'=>y=.fn (.func 126) [] [.ptr 0 0 0,.ptr 0 1 0]/\fr=[(0,.box [.aD 2 [az.c d] 0 0]),(1,.box [.int .i64 aV])]/\H'=[]):=by
 refine CB.gr AB (fn:=Tryz.f120) (sc:=Fj.c) (by rfl) (by rfl) (by decide +kernel) (by rfl) (by decide +kernel) (Nat.le_of_ble_eq_true rfl) ?_ (by rintro y fr H' ⟨_,_,rfl⟩;rfl)
 refine rS ?_
 simp only[Fj.c,go_sem]
 refine⟨_,by rw[Fj.rs];simp only[go_sem];rfl,.own [0,16] _ _ (by decide) (by decide) ?_ ?_ ⟨rfl,rfl,rfl⟩⟩
 ·simp only[b9,go_sem]
 ·simp only[lG,go_sem]
def ky (fm:FM) (w:World) (B:Nat):FM:=open Classical in ⟨fun b o=>if B<=b then w.cell? ⟨b,o,none⟩ else fm b o,fun b=>if ∃ o v,fm b o=some v then fm.t b else if B<=b then 1 else fm.t b⟩
theorem agq {N0:Nat}{W0:World}{fm fm':FM}{ts:List Al}{H:Heap}{w:World} (hr:HR N0 W0 fm ts H w) {c k:Nat}{x:AV} (hg:H.get 0 k=some (.box [x])) (ht:tb ts 0 k=some (.box c)) (hz:x.ai (fun _ _=>none)=some x)
  (hle:AY fm fm') (hc:fm'.t c=1/\∀ o v,w.cell? ⟨c,o,none⟩=some v->fm' c o=some v):VR fm' [] (.aD 1 [[x]] 0 0) (.pointer (some ⟨c,0,none⟩)):=by
 have hb:=hr.ao 0 k _ hg
 rw[ht]at hb
 cases hb with
 |box _ _ hN hB=>
  obtain⟨cells,et,c1,c2,c3⟩:=hB
  obtain⟨u,h0⟩:∃ u,cells[0]?=some u:=⟨_,Bo (by rw[c2];simp)⟩
  obtain⟨hf,hv⟩:=c3 0 x _ rfl h0
  have bz:w.cell? ⟨c,0,none⟩=some u:=by simp[World.cell?,c1,h0]
  have gp:VR fm [] x u:=(hr.pQ (Av.one hv:Av fm ts [x] [u]) (ys:=[x]) (by simp only[AV.aG,hz])).2 0 _ _ rfl rfl
  refine .aD [[x]] 0 0 c 0 1 (fun _ _=>u) ?_ ?_ ?_ ?_
  ·intro y hy
   rw[CG.1 hy];rfl
  all_goals
   intro i cc o y hi ho
   obtain⟨rfl,rfl⟩:i=0/\cc=[x]:=by
    cases i with
    |zero=>exact⟨rfl,(oi hi).symm⟩
    |succ i=>simp at hi
   obtain⟨rfl,rfl⟩:o=0/\y=x:=by
    cases o with
    |zero=>exact⟨rfl,(oi ho).symm⟩
    |succ o=>simp at ho
  ·exact⟨hc.2 0 _ bz,.inr (.inl hc.1)⟩
  ·exact hf
  ·exact gp.mono hle (As.refl _)
theorem alQ (d:az) (aV:Int):Ay Tryz.prog 120 [.aD 2 [az.c d] 0 0,.int .i64 aV] (fun y=>y=nS d aV):=by
 have hA:=aqb d aV
 refine⟨hA.1,fun fm w vs h1 h2=>Calls.mono (hA.2 w.heap.size w fm [] w vs (HR.nothing h1) (h2.mono (AY.refl _) (As.nil _))) ?_⟩
 rintro e w' ⟨v,av,aT,H',fm',t',ts',rfl,⟨rfl,rfl,rfl⟩,_,cd,bg,bw,_,_,_⟩
 have hle:AY fm' (ky fm' w' w.heap.size):=⟨fun b o v h=>by
  unfold ky
  simp only
  split
  ·exact cd.bP b o v h
  ·exact h,fun b o v h=>if_pos ⟨o,v,h⟩⟩
 have bC:Dy (ky fm' w' w.heap.size) w'/\E3 w.heap.size (ky fm' w' w.heap.size) w':=⟨fun b o v h=>by
  unfold ky at h
  simp only at h
  split at h
  ·exact h
  ·exact cd.bP b o v h,fun b o v hb h ht=>by
  unfold ky at ht
  simp only at ht
  split at ht
  ·rename_i he
   obtain⟨o',v',he⟩:=he
   exact cd.ej b o' v' hb he ht
  ·first|omega|(rw[if_pos hb]at ht;omega)⟩
 have aoh:AM w.heap.size fm (ky fm' w' w.heap.size):=⟨bw.le.trans hle,fun b o h=>by unfold ky;simp only;rw[if_neg (by omega)];exact bw.fix b o h,fun b h=>by
  unfold ky;simp only;rw[if_neg (by omega:¬ w.heap.size<=b),ite_self];exact bw.fit b h,fun b o v h=>by
  by_cases hb:w.heap.size<=b
  ·right
   unfold ky;simp only
   split
   ·rename_i he
    obtain⟨o',v',he⟩:=he
    rcases bw.new b o' v' he with e|e
    ·have:=World.block_lt_of_cell? w _ (h1 b o' v' e);simp only at this;omega
    ·exact e
   ·first|decide|(rw[if_pos hb];decide)
  ·left
   unfold ky at h
   simp only at h
   rw[if_neg hb,bw.fix b o (by omega)]at h
   exact h⟩
 refine⟨v,nS d aV,_,rfl,rfl,bC,?_,aoh,cd.dk⟩
 cases bg with
 |fn f first cap vf vc h1 h2 h3 h4=>
  refine .fn _ _ _ vf vc h1 (by simpa using h2) (by intro i x v h;simp at h) ?_
  intro i x v hx hv
  match i,hx,hv with
  |0,hx,hv=>
   obtain rfl:=oi hx
   have hp:=h4 0 _ v rfl hv
   cases hp with
   |ptr _ _ _ c aJ=>exact agq cd rfl aJ rfl hle ⟨(by unfold ky;simp only;rw[if_neg,if_pos ((cd.ao 0 0 _ rfl).lt (by rw[aJ];rfl)).2];rintro⟨o,v,he⟩;rw[cd.df 0 0 _ c o rfl (by rw[aJ];rfl)]at he;cases he),fun o u hu=>(by unfold ky;simp only;rw[if_pos ((cd.ao 0 0 _ rfl).lt (by rw[aJ];rfl)).2];exact hu)⟩
  |1,hx,hv=>
   obtain rfl:=oi hx
   have hp:=h4 1 _ v rfl hv
   cases hp with
   |ptr _ _ _ c aJ=>exact agq cd rfl aJ rfl hle ⟨(by unfold ky;simp only;rw[if_neg,if_pos ((cd.ao 0 1 _ rfl).lt (by rw[aJ];rfl)).2];rintro⟨o,v,he⟩;rw[cd.df 0 1 _ c o rfl (by rw[aJ];rfl)]at he;cases he),fun o u hu=>(by unfold ky;simp only;rw[if_pos ((cd.ao 0 1 _ rfl).lt (by rw[aJ];rfl)).2];exact hu)⟩
  |i+2,hx,hv=>simp at hx
def EG.s0:SC:=
 SQ [RG [wO 10 .lss 3 9 8 3 0],CN 10 .skip (.exit 0),.block 1 (SQ [RG [wI 11 38 7 9,wD 12 29 11 [11],wA 5 29,wS 29 5 12 [12]],RG [wF 13 29 5 0 [5],wF 14 27 13 0 [13],wD 15 3 14 [14],wI 16 55 3 15,wD 17 3 16 [16],wK 18 .add 3 17 1 3 3 [17],wI 19 55 3 15 [15],wS 3 19 18 [18,19]]]),RG [wK 20 .add 3 9 1 3 3 [9],wV 9 20 3 [20]]]
def EG.c:SC:=
 SQ [RG [wE 1 40 0 [0],wA 2 55],RG [wA 3 55],SQ [RG [wF 6 40 1 0 [1],wD 7 38 6 [6],wL 8 7 38 3,oQ 9 (.move (.const (.int .i64 0))) 3],.block 0 (.loop EG.s0)],RG [wD 21 55 3 [3],wS 55 2 21 [21]],.ret]
def il.b0 (k:Nat) (b0:Ah):((Aa 6 Int)×Int)->Option (AT ((Aa 6 Int)×Int) ((Aa 6 Int)) ((Aa 6 Int))):=fun s=>match s with
 |(s1,i2)=>
   bif decide (i2<(b0.Aj.length:Int)) then
    (at? b0.Aj i2).bind fun x5=>
    (s1.at? x5.At.Aq).bind fun x6=>
    some (.next (s1.set x5.At.Aq (ab (x6+1)),ab (i2+1)))
   else
    some (.brk s1)
def il.h0 (b0:Ah):((Aa 6 Int)×Int)->St:=fun s=>match s with
 |(s1,i2)=>⟨[(2,.ptr 0 0 0),(3,.ptr 0 1 0),(7,.sl 8 (List.map Ab.c b0.Aj)),(8,.int .i64 (b0.Aj.length:Int)),(9,.int .i64 i2)],[(0,.box (Aa.c (n:=6) eI (Aa.rep 6 (0:Int)))),(1,.box (Aa.c (n:=6) eI s1))],[],2,Tryz.f56.ntmps⟩
def il.x0:(Aa 6 Int)->St:=fun s3=>⟨[(2,.ptr 0 0 0),(3,.ptr 0 1 0)],[(0,.box (Aa.c (n:=6) eI (Aa.rep 6 (0:Int)))),(1,.box (Aa.c (n:=6) eI s3))],[],2,Tryz.f56.ntmps⟩
def il (k:Nat) (b0:Ah):Option ((Aa 6 Int)):=
 (aj (il.b0 k b0) k ((Aa.rep 6 (0:Int)),0)).bind fun r8=>match r8 with
 |.next _=>none
 |.ret v_=>some v_
 |.brk s3=>
  some s3
theorem alU (k:Nat) (b0:Ah) (r:(Aa 6 Int)) (h0:il k b0=some r):Ay Tryz.prog 56 [.agg (Ah.c b0)] (fun y=>y=.agg ((Aa.c (n:=6) eI) r)):=by
 refine PB Tryz.f56 EG.c [.cell 2 55] ?_
 simp only[il]at h0
 try simp only[EG.c,go_sem]
 obtain⟨r8,rp,h0⟩:=bs h0
 refine Bf rp (il.h0 b0) (il.x0) ?_ ?_ ?_
 refine Ai.go [2,3,7,8,9] [16,32] rfl ?_
 try simp only[il.h0,go_sem]
 rintro⟨s1,i2⟩ cP Bl Bm h1 aH aF bL
 refine rS ?_
 simp only[il.b0]at h1
 try simp only[EG.s0,il.h0,go_sem]
 refine AR h1 ?_ ?_<;>intro c4 h1<;>have F:=c4<;>try simp only[F,go_sem]
 obtain⟨x5,cE,h1⟩:=bs h1
 have F:=an (aC cE) (an (aE Ab.c cE) F)
 try simp only[F,go_sem]
 obtain⟨x6,ee,h1⟩:=bs h1
 have rj:=Ap.bI mE (Ap.self akR s1) ee
 have nZ:=rj.2
 try simp only[AA,Az,go_sem]at nZ
 have q7:=rj.1.ow (ab (x6+1))
 try simp only[AA,Az,go_sem]at q7
 have F:=an (aw ee) (an nZ F)
 try simp only[q7,F,go_sem]
 refine AD (aH _ _ (oi h1).symm (Ai.go [2,3,7,8,9] [0,1] rfl ?_))
 try simp only[il.h0,F,go_sem]
 refine AD (aF _ _ (oi h1).symm (Ai.go [2,3] [0,1] rfl ?_))
 try simp only[il.x0,F,go_sem]
 rintro s3 aI
 subst aI
 simp only at h0
 refine rS ?_
 try simp only[il.x0,go_sem]
 obtain rfl:=oi h0
 refine Ag rfl ?_
 try simp only[go_sem]
def ET.c:SC:=
 SQ [RG [oQ 2 (.assign (.const (.slice none 0 0))) 38 [2]],SQ [RG [wV 3 0 38,oQ 4 (.binOp .eql 38 (.tmp 3) (.const (.slice none 0 0)) 38) 4 [3]],CN 4 (SQ [RG [oQ 2 (.assign (.const (.slice none 0 0))) 38],.ret]) .skip],RG [oQ 5 (.buildSlice 38 0 #[]) 38,wV 6 0 38 [0],wP 7 5 6 38 38 38 [5,6],wG 2 7 38 [7]],.ret]
theorem ET.rs:Tryz.f98.results.toList=[.tmp 2]:=rfl
def xF (k:Nat) (s0:(List Ab)):Option ((List Ab)):=
 (fo s0.length 72).bind fun _=>
 some s0
theorem ajs (k:Nat) (s0:(List Ab)) (r:(List Ab)) (h0:xF k s0=some r):A6 Tryz.prog 98 [.sl 8 (List.map Ab.c s0)] [] (fun y fr=>y=.loc 0 0 8 0 r.length r.length/\fr=[(0,.arr 29 8 (List.map Ab.c r))]):=by
 have hr:=A6.own (et:=29) (sz:=8) (ls:=List.map Ab.c r) (A6.gr AB (f:=98) (fn:=Tryz.f98) (sc:=ET.c) (args:=[.sl 8 (List.map Ab.c s0)]) (fr0:=[]) (by rfl) (by rfl) (by decide +kernel) (by rfl) (by decide +kernel) (Nat.le_of_ble_eq_true rfl) (fun H=>?_))
 ·simpa only [Bh] using hr
 refine rS ?_
 simp only[xF]at h0
 try simp only[ET.c,go_sem]
 refine⟨fun he=>?_,?_⟩
 ·refine rS ?_
  try simp only[go_sem]
  obtain⟨u_,hu_,h0⟩:=bind_some h0
  obtain rfl:=oi h0
  refine Da rfl ?_
  simp only[he,ET.rs,m8,A0,b9,Az,List.take_nil,go_sem]
  try simp
 ·refine rS ?_
  try simp only[go_sem]
  obtain⟨u1,iX,h0⟩:=bind_some h0
  try simp only[lH iX,go_sem]
  obtain rfl:=oi h0
  refine Da rfl ?_
  try simp only[ET.rs,m8,A0,b9,tM,vP,Be,CO,go_sem]
def Hv.c:SC:=
 SQ [RG [wE 1 40 0 [0],wA 2 40],RG [wF 3 40 1 0 [1],wD 4 38 3 [3],wU 5 98 4 38 38 [4],oQ 6 (.build 40 #[(0,.tmp 5)]) 40 [5],wS 40 2 6 [6]],.ret]
def vA (k:Nat) (b0:Ah):Option (Ah):=
 (xF k b0.Aj).bind fun x2=>
 some (⟨x2⟩:Ah)
theorem af7 (k:Nat) (b0:Ah) (r:Ah) (h0:vA k b0=some r):Ay Tryz.prog 76 [.agg (Ah.c b0)] (fun y=>y=.agg (Ah.c r)):=by
 refine PB Tryz.f76 Hv.c [.cell 2 40] ?_
 simp only[vA]at h0
 try simp only[Hv.c,go_sem]
 obtain⟨x2,ec,h0⟩:=bs h0
 refine CJ AB 1000 [] [] (ajs k _ _ ec) ?_ rfl ?_
 try simp only[fS,Bh,go_sem]
 try simp only[go_sem]
 obtain rfl:=oi h0
 refine Ag rfl ?_
 try simp only[go_sem]
def Ew.s0:SC:=
 SQ [SQ [RG [wV 15 9 3,wV 16 10 3,wO 17 .lss 3 15 16 3 4 [15,16]],CN 17 .skip (.exit 0)],.block 1 (SQ [RG [wV 18 9 3,wV 19 10 3,wO 20 .add 3 18 19 3 3 [18,19],wY 21 3 172 20 172 [20],oQ 22 (.binOp .shr 172 (.tmp 21) (.const (.int .u64 1)) 172) 172 [21],wY 23 172 3 22 3 [22],wG 11 23 3 [23]],.aL [wV 24 2 184,wV 25 0 38,wV 26 11 3,wI 27 38 25 26,wD 28 29 27,wD 29 27 4,
 oQ 30 (.call ⟨.value (.tmp 24),#[.tmp 28,.tmp 29],#[29,27]⟩) 3,wK 31 .lss 3 30 0 3 4] [[],[],[],[1,2],[1,2,3],[],[0,1,2,3,4,5],[0,1,2,3,4,5,6]] [24,25,26,27,28,29,30],CN 31 (RG [wV 32 11 3 [11],wK 33 .add 3 32 1 3 3 [32],wG 9 33 3 [33]]) (RG [wV 34 11 3 [11],wG 10 34 3 [34]])])]
def Ew.c:SC:=
 SQ [RG [wE 4 27 1 [1],wN 6 0 3 [6],wB 7 false 4 [7]],RG [wV 12 0 38,wL 13 12 38 3 [12],wG 8 13 3 [13]],RG [wV 14 8 3,wN 9 0 3,wG 10 14 3 [14]],.block 0 (.loop Ew.s0),.aL [wV 35 9 3,wV 36 9 3,wV 37 8 3,wO 38 .lss 3 36 37 3 4,wV 39 38 4,gd 39 true (wV 40 2 184),gd 39 true (wV 41 0 38),gd 39 true (wV 42 9 3),gd 39 true (wI 43 38 41 42),gd 39 true (wD 44 29 43),gd 39 true (wD 45 27 4),
 gd 39 true (oQ 46 (.call ⟨.value (.tmp 40),#[.tmp 44,.tmp 45],#[29,27]⟩) 3),gd 39 true (wK 47 .eql 3 46 0 3 4),wZ 48 39 47 4,wG 6 35 3,wG 7 48 4] [[],[],[],[1,2],[1,2,3],[1,2,3,4],[1,2,3,4],[1,2,3,4],[1,2,3,4,6,7],[1,2,3,4,6,7,8],[1,2,3,4],[1,2,3,4,5,6,7,8,9,10],[1,2,3,4,5,6,7,8,9,10,11],[1,2,3,4,5,6,7,8,9,10,11,12],[0,1,2,3,4,5,6,7,8,9,10,11],[1,2,3,4,5,6,7,8,9,10,11,12,13,0,14]] [0,2,4,8,9,35,
 36,37,38,39,40,41,42,43,44,45,46,47,48],.ret]
def gI.b0 (k:Nat) (tJ:Ab->Entry->Option (Int)) (x0:(List Ab)) (kS:Entry):(Int×Int)->Option (AT (Int×Int) (Int) (Int×Bool)):=fun s=>match s with
 |(i1,i2)=>
   bif decide (i1<i2) then
    (at? x0 (ab (Int.fdiv (IntKind.u64.wrap (ab (i1+i2))) (2 ^ 1)))).bind fun x5=>
    (tJ x5 kS).bind fun x6=>
    bif decide (x6<(0:Int)) then
     some (.next (ab ((ab (Int.fdiv (IntKind.u64.wrap (ab (i1+i2))) (2 ^ 1)))+1),i2))
    else
     some (.next (i1,ab (Int.fdiv (IntKind.u64.wrap (ab (i1+i2))) (2 ^ 1))))
   else
    some (.brk i1)
def gI.h0 (rE:Nat) (pZ:List AV) (x0:(List Ab)) (kS:Entry):(Int×Int)->St:=fun s=>match s with
 |(i1,i2)=>⟨[(0,.sl 8 (List.map Ab.c x0)),(2,.fn (.func rE) [] pZ),(4,.ptr 0 0 0),(8,.int .i64 (x0.length:Int)),(9,.int .i64 i1),(10,.int .i64 i2)],[(0,.box ([.int .i64 kS.Aq,.int .i64 kS.No]))],[],1,Tryz.f114.ntmps⟩
def gI.x0 (rE:Nat) (pZ:List AV) (x0:(List Ab)) (kS:Entry):Int->St:=fun i3=>⟨[(0,.sl 8 (List.map Ab.c x0)),(2,.fn (.func rE) [] pZ),(4,.ptr 0 0 0),(8,.int .i64 (x0.length:Int)),(9,.int .i64 i3)],[(0,.box ([.int .i64 kS.Aq,.int .i64 kS.No]))],[],1,Tryz.f114.ntmps⟩
def gI (k:Nat) (x0:(List Ab)) (kS:Entry) (tJ:Ab->Entry->Option (Int)):Option (Int×Bool):=
 (aj (gI.b0 k tJ x0 kS) k (0,(x0.length:Int))).bind fun r8=>match r8 with
 |.next _=>none
 |.ret v_=>some v_
 |.brk i3=>
  bif decide (i3<(x0.length:Int)) then
   (at? x0 i3).bind fun cm=>
   (tJ cm kS).bind fun cT=>
   some (i3,decide (cT=(0:Int)))
  else
   some (i3,false)
theorem aqK (k:Nat) (x0:(List Ab)) (kS:Entry) (rE:Nat) (pZ:List AV) (qc:Cs pZ) (tJ:Ab->Entry->Option (Int)) (agt:∀ q0 q1 qr,tJ q0 q1=some qr->Ay Tryz.prog rE (.agg (Ab.c q0)::.agg (Entry.c q1)::pZ) (fun y=>y=.int .i64 qr)) (r:Int×Bool) (h0:gI k x0 kS tJ=some r):Ay Tryz.prog 114 [.sl 8 (List.map Ab.c x0),.agg (Entry.c kS),.fn (.func rE) [] pZ] (fun y=>y=.ar [.int .i64 r.1,.bool r.2]):=by
 refine PB Tryz.f114 Ew.c [.tmp 6,.tmp 7] ?_
 simp only[gI]at h0
 have F:=an qc.sh (an qc.ai (an qc.br (an qc.refs (an qc.imp (an qc.aS qc.un)))))
 try simp only[Ew.c,F,go_sem]
 obtain⟨r8,rp,h0⟩:=bs h0
 refine Bf rp (gI.h0 rE pZ x0 kS) (gI.x0 rE pZ x0 kS) ?_ ?_ ?_
 refine Ai.go [0,2,4,8,9,10] [0] rfl ?_
 try simp only[gI.h0,F,go_sem]
 rintro⟨i1,i2⟩ cP Bl Bm h1 aH aF bL
 refine rS ?_
 simp only[gI.b0]at h1
 try simp only[Ew.s0,gI.h0,F,go_sem]
 refine AF F h1 ?_ ?_<;>intro F h1<;>try simp only[F,go_sem]
 try simp only[(@id (min (Int.toNat 1) 64=1) rfl),F,go_sem]
 refine AL AB aQ 1000 ?_
 try simp only[F,go_sem]
 obtain⟨x5,cE,h1⟩:=bs h1
 have F:=an (aC cE) (an (aE Ab.c cE) F)
 try simp only[F,go_sem]
 refine cz h1 (agt _ _) ?_ (fun x6 h1=>?_) (fun _=>by simp[AV.aO,AV.refs,AV.dh,AV.leaf,qc.refs])<;>try simp only[F,go_sem]
 refine aK ?_
 try simp only[F,go_sem]
 refine AF F h1 ?_ ?_<;>intro F h1<;>try simp only[F,go_sem]
 refine AD (aH _ _ (oi h1).symm (Ai.go [0,2,4,8,9,10] [0] rfl ?_))
 try simp only[gI.h0,F,go_sem]
 refine AD (aH _ _ (oi h1).symm (Ai.go [0,2,4,8,9,10] [0] rfl ?_))
 try simp only[gI.h0,F,go_sem]
 refine AD (aF _ _ (oi h1).symm (Ai.go [0,2,4,8,9] [0] rfl ?_))
 try simp only[gI.x0,F,go_sem]
 rintro i3 aI
 subst aI
 simp only at h0
 refine rS ?_
 try simp only[gI.x0,F,go_sem]
 refine AL AB aQ 1000 ?_
 try simp only[F,go_sem]
 refine DF F h0 ?_ ?_<;>intro F h0<;>try simp only[F,go_sem]
 obtain⟨cm,nh,h0⟩:=bs h0
 have F:=an (aC nh) (an (aE Ab.c nh) F)
 try simp only[F,go_sem]
 refine cz h0 (agt _ _) ?_ (fun cT h0=>?_) (fun _=>by simp[AV.aO,AV.refs,AV.dh,AV.leaf,qc.refs])<;>try simp only[F,go_sem]
 refine aK ?_
 try simp only[F,go_sem]
 obtain rfl:=oi h0
 refine Ag rfl ?_
 try simp only[F,go_sem]
 refine aK ?_
 try simp only[F,go_sem]
 obtain rfl:=oi h0
 refine Ag rfl ?_
 try simp only[F,go_sem]
def EA.s0:SC:=
 SQ [RG [wO 9 .lss 3 8 7 3 0],CN 9 .skip (.exit 0),.block 1 (SQ [RG [wI 10 58 6 8,wD 11 3 10 [10],wG 5 11 3 [11]],RG [wV 12 5 3,wV 13 3 3,wO 14 .neq 3 12 13 3 4 [12,13]],CN 14 (SQ [RG [wV 15 5 3 [5],wG 2 15 3 [15]],.ret]) .skip]),RG [wK 16 .add 3 8 1 3 3 [8],wV 8 16 3 [16]]]
def EA.c:SC:=
 SQ [RG [wN 2 0 3 [2]],RG [wN 3 0 3],SQ [RG [wV 6 0 58 [0],wL 7 6 58 3,oQ 8 (.move (.const (.int .i64 0))) 3],.block 0 (.loop EA.s0)],RG [wV 17 3 3 [3],wG 2 17 3 [17]],.ret]
def iu.b0 (k:Nat) (nX:(List Int)):Int->Option (AT (Int) (Unit) (Int)):=fun i1=>
 bif decide (i1<(nX.length:Int)) then
  (at? nX i1).bind fun x3=>
  bif (!decide (x3=(0:Int))) then
   some (.ret x3)
  else
   some (.next (ab (i1+1)))
 else
  some (.brk ())
def iu.h0 (nX:(List Int)):Int->St:=fun i1=>⟨[(3,.int .i64 0),(6,.sl 1 (List.map eI nX)),(7,.int .i64 (nX.length:Int)),(8,.int .i64 i1)],[],[],1,Tryz.f123.ntmps⟩
def iu.x0:Unit->St:=fun _=>⟨[(3,.int .i64 0)],[],[],1,Tryz.f123.ntmps⟩
def iu (k:Nat) (nX:(List Int)):Option (Int):=
 (aj (iu.b0 k nX) k 0).bind fun r5=>match r5 with
 |.next _=>none
 |.ret v_=>some v_
 |.brk _=>
  some 0
theorem amg (k:Nat) (nX:(List Int)) (r:Int) (h0:iu k nX=some r):Ay Tryz.prog 123 [.sl 1 (List.map eI nX)] (fun y=>y=.int .i64 r):=by
 refine PB Tryz.f123 EA.c [.tmp 2] ?_
 simp only[iu]at h0
 try simp only[EA.c,go_sem]
 obtain⟨r5,yr5,h0⟩:=bs h0
 refine Bf yr5 (iu.h0 nX) (iu.x0) ?_ ?_ ?_
 refine Ai.go [3,6,7,8] [] rfl ?_
 try simp only[iu.h0,go_sem]
 rintro i1 cP Bl Bm h1 aH aF bL
 refine rS ?_
 simp only[iu.b0]at h1
 try simp only[EA.s0,iu.h0,go_sem]
 refine AR h1 ?_ ?_<;>intro c2 h1<;>have F:=c2<;>try simp only[F,go_sem]
 obtain⟨x3,cY,h1⟩:=bs h1
 have F:=an (aC cY) (an (aE eI cY) F)
 try simp only[F,go_sem]
 refine Bx F h1 ?_ ?_<;>intro F h1<;>try simp only[F,go_sem]
 obtain rfl:=bL _ (oi h1).symm
 simp only at h0
 obtain rfl:=oi h0
 refine Ag rfl ?_
 try simp only[F,go_sem]
 refine AD (aH _ _ (oi h1).symm (Ai.go [3,6,7,8] [] rfl ?_))
 try simp only[iu.h0,F,go_sem]
 refine AD (aF _ _ (oi h1).symm (Ai.go [3] [] rfl ?_))
 try simp only[iu.x0,F,go_sem]
 rintro _ aI
 subst aI
 simp only at h0
 refine rS ?_
 try simp only[iu.x0,go_sem]
 obtain rfl:=oi h0
 refine Ag rfl ?_
 try simp only[go_sem]
def G7.c:SC:=
 SQ [RG [wB 2 false 4 [2]],RG [wV 3 0 3,wV 4 0 3 [0],wO 5 .neq 3 3 4 3 4 [3,4],wG 2 5 4 [5]],.ret]
def cmp_isNaN_int (k:Nat) (x0:Int):Option (Bool):=
 some false
theorem agv (k:Nat) (x0:Int) (r:Bool) (h0:cmp_isNaN_int k x0=some r):Ay Tryz.prog 129 [.int .i64 x0] (fun y=>y=.bool r):=by
 refine PB Tryz.f129 G7.c [.tmp 2] ?_
 simp only[cmp_isNaN_int]at h0
 try simp only[G7.c,go_sem]
 obtain rfl:=oi h0
 refine Ag rfl ?_
 try simp only[go_sem]
def G5.c:SC:=
 SQ [RG [wN 4 0 3 [4]],RG [wV 7 0 3,wU 8 129 7 3 4 [7],wG 5 8 4 [8]],RG [wV 9 1 3,wU 10 129 9 3 4 [9],wG 6 10 4 [10]],SQ [RG [wV 11 5 4 [5]],CN 11 (SQ [SQ [RG [wV 12 6 4 [6]],CN 12 (SQ [RG [wN 4 0 3],.ret]) .skip],RG [wN 4 (-1) 3],.ret]) .skip],SQ [RG [wV 13 6 4 [6]],CN 13 (SQ [RG [wN 4 1 3],.ret]) .skip],SQ [RG [wV 14 0 3,wV 15 1 3,wO 16 .lss 3 14 15 3 4 [14,15]],CN 16 (SQ [RG [wN 4 (-1) 3],
 .ret]) .skip],SQ [RG [wV 17 0 3 [0],wV 18 1 3 [1],wO 19 .gtr 3 17 18 3 4 [17,18]],CN 19 (SQ [RG [wN 4 1 3],.ret]) .skip],RG [wN 4 0 3],.ret]
def vJ (k:Nat) (x0:Int) (y1:Int):Option (Int):=
 (cmp_isNaN_int k x0).bind fun x1=>
 (cmp_isNaN_int k y1).bind fun x2=>
 bif x1 then
  bif x2 then
   some 0
  else
   some (-1)
 else
  bif x2 then
   some 1
  else
   bif decide (x0<y1) then
    some (-1)
   else
    bif decide (y1<x0) then
     some 1
    else
     some 0
theorem agu (k:Nat) (x0:Int) (y1:Int) (r:Int) (h0:vJ k x0 y1=some r):Ay Tryz.prog 124 [.int .i64 x0,.int .i64 y1] (fun y=>y=.int .i64 r):=by
 refine PB Tryz.f124 G5.c [.tmp 4] ?_
 simp only[vJ]at h0
 try simp only[G5.c,go_sem]
 refine au h0 (agv k _) ?_ (fun x1 h0=>?_)<;>try simp only[go_sem]
 refine au h0 (agv k _) ?_ (fun x2 h0=>?_)<;>try simp only[go_sem]
 refine AR h0 ?_ ?_<;>intro c3 h0<;>have F:=c3<;>try simp only[F,go_sem]
 refine AF F h0 ?_ ?_<;>intro F h0<;>try simp only[F,go_sem]
 obtain rfl:=oi h0
 refine Ag rfl ?_
 try simp only[F,go_sem]
 obtain rfl:=oi h0
 refine Ag rfl ?_
 try simp only[F,go_sem]
 refine AF F h0 ?_ ?_<;>intro F h0<;>try simp only[F,go_sem]
 obtain rfl:=oi h0
 refine Ag rfl ?_
 try simp only[F,go_sem]
 refine AF F h0 ?_ ?_<;>intro F h0<;>try simp only[F,go_sem]
 obtain rfl:=oi h0
 refine Ag rfl ?_
 try simp only[F,go_sem]
 refine AF F h0 ?_ ?_<;>intro F h0<;>try simp only[F,go_sem]
 obtain rfl:=oi h0
 refine Ag rfl ?_
 try simp only[F,go_sem]
 obtain rfl:=oi h0
 refine Ag rfl ?_
 try simp only[F,go_sem]
def G4.c:SC:=
 SQ [RG [wE 2 27 0 [0],wE 3 27 1 [1],wN 4 0 3 [4]],.aL [wF 5 27 2 0,wD 6 3 5,wF 7 27 3 0,wD 8 3 7,wW 9 124 6 8 3 3 3,wF 10 27 2 1,wD 11 3 10,wF 12 27 3 1,wD 13 3 12,wW 14 124 11 13 3 3 3,oQ 15 (.buildSlice 58 2 #[(0,.tmp 9),(1,.tmp 14)]) 58,wU 16 123 15 58 3,wG 4 16 3] [[],[0],[],[2],[0,1,2,3],[],[5],[],[7],[5,6,7,8,0,1,2,3,4],[0,1,2,3,4,5,6,7,8,9],[0,1,2,3,4,5,6,7,8,9,10],[0,1,2,3,4,5,6,7,8,9,
 10,11]] [2,3,5,6,7,8,9,10,11,12,13,14,15,16],.ret]
def yd (k:Nat) (a0:Entry) (b1:Entry):Option (Int):=
 (vJ k a0.Aq b1.Aq).bind fun x1=>
 (vJ k a0.No b1.No).bind fun x2=>
 (iu k [x1,x2]).bind fun x3=>
 some x3
theorem alO (k:Nat) (a0:Entry) (b1:Entry) (r:Int) (h0:yd k a0 b1=some r):Ay Tryz.prog 116 [.agg (Entry.c a0),.agg (Entry.c b1)] (fun y=>y=.int .i64 r):=by
 refine PB Tryz.f116 G4.c [.tmp 4] ?_
 simp only[yd]at h0
 try simp only[G4.c,go_sem]
 refine AL AB aQ 1000 ?_
 try simp only[go_sem]
 refine cz h0 (agu k _ _) ?_ (fun x1 h0=>?_)<;>try simp only[go_sem]
 refine cz h0 (agu k _ _) ?_ (fun x2 h0=>?_)<;>try simp only[go_sem]
 refine cz h0 (amg k _) ?_ (fun x3 h0=>?_)<;>try simp only[go_sem]
 refine aK ?_
 try simp only[go_sem]
 obtain rfl:=oi h0
 refine Ag rfl ?_
 try simp only[go_sem]
def G3.c:SC:=
 SQ [RG [wE 2 29 0 [0],wE 3 27 1 [1],wN 4 0 3 [4]],RG [wF 5 29 2 0 [2],wD 6 27 5 [5],wD 7 27 3 [3],wW 8 116 6 7 27 27 3 [6,7],wG 4 8 3 [8]],.ret]
def rz (k:Nat) (r0:Ab) (x1:Entry):Option (Int):=
 (yd k r0.At x1).bind fun x2=>
 some x2
theorem alS (k:Nat) (r0:Ab) (x1:Entry) (r:Int) (h0:rz k r0 x1=some r):Ay Tryz.prog 115 [.agg (Ab.c r0),.agg (Entry.c x1)] (fun y=>y=.int .i64 r):=by
 refine PB Tryz.f115 G3.c [.tmp 4] ?_
 simp only[rz]at h0
 try simp only[G3.c,go_sem]
 refine au h0 (alO k _ _) ?_ (fun x2 h0=>?_)<;>try simp only[go_sem]
 obtain rfl:=oi h0
 refine Ag rfl ?_
 try simp only[go_sem]
def HD.c:SC:=
 SQ [RG [wE 2 40 0 [0],wE 3 27 1 [1],wN 4 0 3 [4],wB 5 false 4 [5]],RG [wF 6 40 2 0 [2],wD 7 38 6 [6],wD 8 27 3 [3],wC 9 114 #[.tmp 7,.tmp 8,.func 115] #[38,27,184] 165 [7,8],wX 10 9 0 3,wX 11 9 1 4 [9],wG 4 10 3 [10],wG 5 11 4 [11]],.ret]
def yg (k:Nat) (b0:Ah) (jM:Entry):Option (Int×Bool):=
 (gI k b0.Aj jM (fun q0 q1=>rz k q0 q1)).bind fun x1=>
 some (x1.1,x1.2)
theorem alT (k:Nat) (b0:Ah) (jM:Entry) (r:Int×Bool) (h0:yg k b0 jM=some r):Ay Tryz.prog 96 [.agg (Ah.c b0),.agg (Entry.c jM)] (fun y=>y=.ar [.int .i64 r.1,.bool r.2]):=by
 refine PB Tryz.f96 HD.c [.tmp 4,.tmp 5] ?_
 simp only[yg]at h0
 try simp only[HD.c,go_sem]
 refine au h0 (aqK k _ _ 115 [] ⟨fun _=>rfl,fun _=>rfl,fun _ _=>rfl,rfl,fun _=>rfl,fun _=>rfl,fun _=>rfl⟩ (fun q0 q1=>rz k q0 q1) (fun q0 q1 qr qh=>alS k q0 q1 qr qh)) ?_ (fun x1 h0=>?_)<;>try simp only[go_sem]
 obtain rfl:=oi h0
 refine Ag rfl ?_
 try simp only[go_sem]
end Go.Abs
namespace Go.Abs
open Go Go.Proofs Go.RowKit Go.Lib
theorem ack {P:Program} (w:World) (dT sT ty elem:TypeId) (z b o adq amu:Nat) (a:Addr) (dy fX:Nat) (cs:List Value)
  (hu:P.underlying dT=some (.slice elem)) (hs:(P.info? elem).map (·.size)=some z) (hn:cs.length=Nat.min dy adq*z)
  (zP:∀ j v,cs[j]?=some v->w.cell? (a.add j)=some v) (hc:∀ j,j<cs.length->(w.cell? ⟨b,o+j,none⟩).isSome=true) (hf:∀ j,j<cs.length->w.frozen? ⟨b,o+j,none⟩=false) (h1:∀ v∈cs,v.oneCell'=true):
  (Builtin.copy_ #[dT,sT] ty #[.slice (some ⟨b,o,none⟩) adq amu,.slice (some a) dy fX]).run P w=.ok (goInt (Nat.min dy adq)) (w.setCells b o cs):=by
 have hl:=run_loadCells_list (P:=P) w a cs zP
 have fG:=run_storeCells_cells (P:=P) b o cs 0 w (by simpa using hc) (by simpa using hf) h1
 cases hq:P.info? elem with
 |none=>simp[hq]at hs
 |some i=>
  have hi:i.size=z:=by simpa [hq] using hs
  simp[Builtin.copy_,run_underlying hu,Builtin.lenOf,Builtin.firstCells,sizeOf,typeInfo,hq,hi,<-hn,hl,fG]
theorem aoH (b n c i vb nf vc:Nat) (cs vs:List Value) (w:World) (hi:i<n) (qD:n+1<=c) (ar4:c<=9223372036854775807) (hvb:vb≠b) (bF:cs.length=n*8) (pc:vs.length=8)
  (gh:∀ j v,cs[j]?=some v->w.cell? ⟨b,j,none⟩=some v) (oY:∀ j,j<(n+1)*8->(w.cell? ⟨b,j,none⟩).isSome=true) (nD:∀ j,j<(n+1)*8->w.frozen? ⟨b,j,none⟩=false)
  (bo:∀ j v,vs[j]?=some v->w.cell? ⟨vb,nf+j,none⟩=some v) (qm:∀ v∈cs,v.oneCell'=true) (we:∀ v∈vs,v.oneCell'=true)
  (tA tB:TypeId) (kA kB:Nat) (hsa:w.shape? vb=some (tA,kA)) (zM:w.shape? b=some (tB,kB)) (hkB:kB≠0) (hfa:w.frozen? ⟨vb,nf,none⟩=false) (hfe:w.frozen? ⟨vb,kA,none⟩=false):
  Calls Tryz.prog 97 #[.slice (some ⟨b,0,none⟩) n c,.int .i64 i,.slice (some ⟨vb,nf,none⟩) 1 vc] w fun e w'=>
   e=.returned (.slice (some ⟨b,0,none⟩) (n+1) c)/\w'=(w.drew.setCells b ((i+1)*8) (cs.drop (i*8))).setCells b (i*8) vs:=by
 have t44:Tryz.prog.underlying 38=some (.slice 29):=by rfl
 have ax:(Tryz.prog.info? 29).map (·.size)=some 8:=by rfl
 have hz2:¬ ((i:Int)=(n:Int)):=by omega
 have eo:IntKind.i64.wrap ((i:Int)+1)=(i:Int)+1:=by rw[IntKind.wrap_i64];omega
 have jE:IntKind.i64.wrap ((n:Int)+1)=(n:Int)+1:=by rw[IntKind.wrap_i64];omega
 have cA:(0:Int)<=(i:Int)+1:=by omega
 have bC:i<=n:=by omega
 have htn:((i:Int)+1).toNat=i+1:=by omega
 have asj:((n:Int)+1).toNat=n+1:=by omega
 have iG:¬ (c=i+1):=by omega
 have hb4:¬ (c=i):=by omega
 have hrc:¬ ((c:Int)<(n:Int)+1):=by omega
 have aed:Tryz.f97.ntmps=95:=by rfl
 have hb3:(i:Int)<=(n:Int)+1:=by omega
 have mixed:=aQ
 have hz8:∀ w,(Go.sizeOf 29).run Tryz.prog w=.ok 8 w:=fun _=>by rfl
 have hov:∀ lb cb,(callFunc 117 #[.slice (some ⟨vb,nf,none⟩) 1 vc,.slice (some ⟨b,(i+1)*8,none⟩) lb cb]).run Tryz.prog w=.ok (.value (.bool false)) w:=fun lb cb=>by
  rw[run_callFunc_extern (fn:=Tryz.f117) (by rfl) (by kernel_rfl) (by kernel_rfl) (by kernel_rfl) (e:=Extern.SlicesOverlaps.overlaps #[38,38] #[4]) (by kernel_rfl),
   Lib.run_overlaps_apart w 38 4 29 t44 8 hz8 ⟨vb,nf,none⟩ ⟨b,(i+1)*8,none⟩ 1 vc lb cb hvb tA tB kA kB hsa zM hkB hfa hfe]
  rfl
 have za:(cs.drop (i*8)).length=(n - i)*8:=by rw[Bp,bF,Nat.sub_mul]
 have ahR:Nat.min (n+1 - i) (n - i)=n - i:=by simp only[Nat.min_def];split<;>omega
 have zr:Nat.min 1 (n+1 - i)=1:=by simp only[Nat.min_def];split<;>omega
 have um:∀ j,j<(cs.drop (i*8)).length->(i+1)*8+j<(n+1)*8:=fun j hj=>by rw[za]at hj;omega
 have ahK:∀ ty dc sc,(Builtin.copy_ #[38,38] ty #[.slice (some ⟨b,(i+1)*8,none⟩) (n - i) dc,.slice (some ⟨b,i*8,none⟩) (n+1 - i) sc]).run Tryz.prog w.drew=.ok (goInt ((n - i:Nat):Int)) (w.drew.setCells b ((i+1)*8) (cs.drop (i*8))):=fun ty dc sc=>by
  have:=ack (P:=Tryz.prog) w.drew 38 38 ty 29 8 b ((i+1)*8) (n - i) dc ⟨b,i*8,none⟩ (n+1 - i) sc (cs.drop (i*8)) t44 ax (by rw[za,ahR])
   (fun j v hj=>by rw[Addr.add_lit];exact gh (i*8+j) v (by rwa [Cg]at hj))
   (fun j hj=>oY _ (um j hj)) (fun j hj=>nD _ (um j hj)) (fun v hv=>qm v (Cl hv))
  rw[ahR]at this
  exact this
 obtain⟨W1,ji⟩:∃ W1,W1=w.drew.setCells b ((i+1)*8) (cs.drop (i*8)):=⟨_,rfl⟩
 have an9:∀ k,k<(n+1)*8->(W1.cell? ⟨b,k,none⟩).isSome=true:=fun k hk=>by
  rw[ji]
  exact isSome_setCells b _ _ w.drew (fun j hj=>oY _ (um j hj)) _ (oY k hk)
 have anD:∀ (W:World),(∀ x,W.cell? x=W1.cell? x)->(∀ x,W.frozen? x=W1.frozen? x)->∀ ty dc,(Builtin.copy_ #[38,38] ty #[.slice (some ⟨b,i*8,none⟩) (n+1 - i) dc,.slice (some ⟨vb,nf,none⟩) 1 vc]).run Tryz.prog W=.ok (goInt 1) (W.setCells b (i*8) vs):=fun W rN yW ty dc=>by
  have:=ack (P:=Tryz.prog) W 38 38 ty 29 8 b (i*8) (n+1 - i) dc ⟨vb,nf,none⟩ 1 vc vs t44 ax (by rw[pc,zr])
   (fun j v hj=>by
    rw[Addr.add_lit,rN,ji,World.cell?_setCells_out b _ _ _ _ (fun h _=>absurd h hvb)]
    exact bo j v hj)
   (fun j hj=>by rw[rN];exact an9 _ (by omega)) (fun j hj=>by rw[yW,ji,World.frozen?_setCells];exact nD _ (by omega)) we
  rw[zr]at this
  exact this
 rw[<-ji]at ahK
 go_enter (show Tryz.prog.funcs[97]?=some Tryz.f97 from by rfl),aed
 go_wp2_with (simp only[hov])
 go_region_law_o (refine step_copy_runI rfl _ _ 38 38 rfl _ _ (by simp[Act.eval,Act.put]) (by simp[Act.eval,Act.put]) (ahK _ _ _) ?_)
 go_wp2_with (at_builtin;refine wpList_copy_runI _ rfl _ _ 38 38 rfl _ _ rfl rfl (anD _ (fun _=>rfl) (fun _=>rfl) _ _) ?_)
 go_ret
 first|exact⟨rfl,rfl⟩|exact⟨rfl,by rw[ji]⟩
def jr:Value:=.agg #[.int .i64 0,.int .i64 0,.int .i64 0,.int .i64 0,.int .i64 0,.int .i64 0,.int .i64 0,.string ⟨#[]⟩]
theorem aoE (b n c i vb nf vc:Nat) (cs vs:List Value) (w:World) (hi:i<n) (bM:n<=c) (qD:c<n+1) (anx:(n+1)*72<=140737488355328) (bF:cs.length=n*8) (pc:vs.length=8)
  (gh:∀ j v,cs[j]?=some v->w.cell? ⟨b,j,none⟩=some v) (bo:∀ j v,vs[j]?=some v->w.cell? ⟨vb,nf+j,none⟩=some v) (qm:∀ v∈cs,v.oneCell'=true) (we:∀ v∈vs,v.oneCell'=true):
  Calls Tryz.prog 97 #[.slice (some ⟨b,0,none⟩) n c,.int .i64 i,.slice (some ⟨vb,nf,none⟩) 1 vc] w fun e w'=>
   e=.returned (.slice (some ⟨w.heap.size,0,none⟩) (n+1) (grownCap w (n+1) c 29))/\
   w'=(((w.alloc (.cells ((cs.take (i*8)).toArray++Builtin.zeroCells jr.cells (n+1 - i)++Builtin.zeroCells jr.cells (grownCap w (n+1) c 29 - (n+1))) 29)).drew.setCells w.heap.size (i*8) vs).drew).setCells w.heap.size ((i+1)*8) (cs.drop (i*8)):=by
 have t44:Tryz.prog.underlying 38=some (.slice 29):=by rfl
 have t3:Tryz.prog.underlying 3=some (.int .i64):=by rfl
 have ax:(Tryz.prog.info? 29).map (·.size)=some 8:=by rfl
 obtain⟨i0,qu,hz0,ml,ss⟩:∃ i0,Tryz.prog.info? 29=some i0/\i0.zero=some jr/\i0.size=8/\i0.bytes=72:=⟨_,rfl,rfl,rfl,rfl⟩
 have mixed:=aQ
 have aed:Tryz.f97.ntmps=95:=by rfl
 have hz2:¬ ((i:Int)=(n:Int)):=by omega
 have hz3:(c:Int)<(n:Int)+1:=by omega
 have gU:b<w.heap.size:=by
  have:=block_lt_of_cell (gh 0 _ (gG (by omega)));exact this
 have hvw:vb<w.heap.size:=by
  have:=block_lt_of_cell (bo 0 _ (gG (by omega)));exact this
 have eC:(n:Int)+1 - (i:Int)=((n+1 - i:Nat):Int):=by omega
 have hik:i+(n+1 - i)=n+1:=by omega
 have hold:(Builtin.firstCells i0.size i (.slice (some ⟨b,0,none⟩) i c)).run Tryz.prog w.drew=.ok (cs.take (i*8)).toArray w.drew:=by
  rw[ml]
  exact run_firstCells_some w.drew 8 i ⟨b,0,none⟩ i c (cs.take (i*8)) (by rw[Ba];omega) (fun j v hj=>by
   rw[Addr.add_lit,Co]
   rw[BS]at hj
   split at hj
   ·exact gh j v hj
   ·cases hj)
 have hrz:∀ ty,(Builtin.append_ #[38,3] ty #[.slice (some ⟨b,0,none⟩) i c,.int .i64 ((n:Int)+1 - (i:Int))]).run Tryz.prog w =
   .ok (.slice (some ⟨w.heap.size,0,none⟩) (n+1) (grownCap w (n+1) c 29)) (w.drew.alloc (.cells ((cs.take (i*8)).toArray++Builtin.zeroCells jr.cells (n+1 - i)++Builtin.zeroCells jr.cells (grownCap w (n+1) c 29 - (n+1))) 29)):=fun ty=>by
  have h:=Lib.run_append_grow_zeros w 38 3 ty 29 i0 jr .i64 .i64 t44 t3 qu hz0 (some ⟨b,0,none⟩) i c (cs.take (i*8)) hold (n+1 - i) (by omega) (by omega) (by omega) (by omega) (by rw[ss];omega) (by rw[ss,hik];exact growslice_fits qD anx)
  rw[hik]at h
  rw[eC]
  exact h
 obtain⟨G,hG⟩:∃ G,G=grownCap w (n+1) c 29:=⟨_,rfl⟩
 obtain⟨CW,ad0⟩:∃ CW:Array Value,CW=(cs.take (i*8)).toArray++Builtin.zeroCells jr.cells (n+1 - i)++Builtin.zeroCells jr.cells (G - (n+1)):=⟨_,rfl⟩
 rw[<-hG]at hrz ⊢
 rw[<-ad0]at hrz ⊢
 have su:jr.cells.size=8:=by rfl
 have hRl:(n+1)*8<=CW.size:=by
  rw[ad0,Array.size_append,Array.size_append,size_zeroCells,size_zeroCells,su,List.size_toArray,Ba,Nat.min_eq_left (by omega)]
  omega
 obtain⟨W1,ji⟩:∃ W1,W1=w.drew.alloc (.cells CW 29):=⟨_,rfl⟩
 rw[<-ji]at hrz
 have hN:∀ j,j<(n+1)*8->(W1.cell? ⟨w.heap.size,j,none⟩).isSome=true:=fun j hj=>by
  rw[ji,World.cell?_alloc_at (w:=w.drew) CW _ w.heap.size j rfl,Bo (by omega)];rfl
 have hNf:∀ j,W1.frozen? ⟨w.heap.size,j,none⟩=false:=fun j=>by rw[ji];exact World.frozen?_alloc_at (w:=w.drew) CW _ w.heap.size j rfl
 have hOb:∀ j v,w.cell? ⟨b,j,none⟩=some v->W1.cell? ⟨b,j,none⟩=some v:=fun j v h=>by rw[ji,World.cell?_alloc_past (w:=w.drew) _ b j gU];exact h
 have hOv:∀ j v,w.cell? ⟨vb,j,none⟩=some v->W1.cell? ⟨vb,j,none⟩=some v:=fun j v h=>by rw[ji,World.cell?_alloc_past (w:=w.drew) _ vb j hvw];exact h
 have zr:Nat.min 1 (n+1 - i)=1:=by simp only[Nat.min_def];split<;>omega
 have ahS:Nat.min (n - i) (n - i)=n - i:=by simp only[Nat.min_def];split<;>omega
 have za:(cs.drop (i*8)).length=(n - i)*8:=by rw[Bp,bF,Nat.sub_mul]
 have um:∀ j,j<(cs.drop (i*8)).length->(i+1)*8+j<(n+1)*8:=fun j hj=>by rw[za]at hj;omega
 have anE:∀ (W:World),(∀ x,W.cell? x=W1.cell? x)->(∀ x,W.frozen? x=W1.frozen? x)->∀ ty dc,(Builtin.copy_ #[38,38] ty #[.slice (some ⟨w.heap.size,i*8,none⟩) (n+1 - i) dc,.slice (some ⟨vb,nf,none⟩) 1 vc]).run Tryz.prog W=.ok (goInt 1) (W.setCells w.heap.size (i*8) vs):=fun W rN yW ty dc=>by
  have:=ack (P:=Tryz.prog) W 38 38 ty 29 8 w.heap.size (i*8) (n+1 - i) dc ⟨vb,nf,none⟩ 1 vc vs t44 ax (by rw[pc,zr])
   (fun j v hj=>by rw[Addr.add_lit,rN];exact hOv _ v (bo j v hj))
   (fun j hj=>by rw[rN];exact hN _ (by omega)) (fun j hj=>by rw[yW];exact hNf _) we
  rw[zr]at this
  exact this
 have hGn:n+1<=G:=by rw[hG];exact grownCap_ge w _ _ _
 have ar1:G<=9223372036854775807:=by
  have:=grownCap_le_maxLen w (n+1) c 29 (by unfold maxLen;omega)
  rw[<-hG]at this
  unfold maxLen at this
  omega
 have hGi:¬ (G=i):=by omega
 have ar2:¬ (G=i+1):=by omega
 have hci:¬ (c=i):=by omega
 have hbN:b≠w.heap.size:=by omega
 have ahL:∀ (W:World),(∀ x,W.cell? x=(W1.setCells w.heap.size (i*8) vs).cell? x)->(∀ x,W.frozen? x=(W1.setCells w.heap.size (i*8) vs).frozen? x)->∀ ty dc sc,(Builtin.copy_ #[38,38] ty #[.slice (some ⟨w.heap.size,(i+1)*8,none⟩) (n - i) dc,.slice (some ⟨b,i*8,none⟩) (n - i) sc]).run Tryz.prog W=.ok (goInt ((n - i:Nat):Int)) (W.setCells w.heap.size ((i+1)*8) (cs.drop (i*8))):=fun W rN yW ty dc sc=>by
  have:=ack (P:=Tryz.prog) W 38 38 ty 29 8 w.heap.size ((i+1)*8) (n - i) dc ⟨b,i*8,none⟩ (n - i) sc (cs.drop (i*8)) t44 ax (by rw[za,ahS])
   (fun j v hj=>by
    rw[Addr.add_lit,rN,World.cell?_setCells_out _ _ _ _ _ (fun h _=>absurd h hbN)]
    exact hOb _ v (gh (i*8+j) v (by rwa [Cg]at hj)))
   (fun j hj=>by rw[rN];exact isSome_setCells _ _ _ _ (fun t ht=>hN _ (by rw[pc]at ht;omega)) _ (hN _ (um j hj)))
   (fun j hj=>by rw[yW,World.frozen?_setCells];exact hNf _) (fun v hv=>qm v (Cl hv))
  rw[ahS]at this
  exact this
 subst ji
 have hE1:∀ x,((w.alloc (.cells CW 29)).drew).cell? x=(w.drew.alloc (.cells CW 29)).cell? x:=fun x=>rfl
 have hE2:∀ x,((w.alloc (.cells CW 29)).drew).frozen? x=(w.drew.alloc (.cells CW 29)).frozen? x:=fun x=>rfl
 have hF1:∀ x,(((w.alloc (.cells CW 29)).drew.setCells w.heap.size (i*8) vs).drew).cell? x=((w.drew.alloc (.cells CW 29)).setCells w.heap.size (i*8) vs).cell? x:=fun x=>rfl
 have hF2:∀ x,(((w.alloc (.cells CW 29)).drew.setCells w.heap.size (i*8) vs).drew).frozen? x=((w.drew.alloc (.cells CW 29)).setCells w.heap.size (i*8) vs).frozen? x:=fun x=>rfl
 have eo:IntKind.i64.wrap ((i:Int)+1)=(i:Int)+1:=by rw[IntKind.wrap_i64];omega
 have jE:IntKind.i64.wrap ((n:Int)+1)=(n:Int)+1:=by rw[IntKind.wrap_i64];omega
 have xg:IntKind.i64.wrap ((n:Int)+1 - (i:Int))=(n:Int)+1 - (i:Int):=by rw[IntKind.wrap_i64];omega
 have cA:(0:Int)<=(i:Int)+1:=by omega
 have bC:i<=n:=by omega
 have htn:((i:Int)+1).toNat=i+1:=by omega
 have hb3:(i:Int)<=(n:Int)+1:=by omega
 have hb5:(i:Int)<=(n:Int):=by omega
 clear eC hik hold ad0 hG hRl
 go_enter (show Tryz.prog.funcs[97]?=some Tryz.f97 from by rfl),aed
 go_wp2_with (first
  |(at_builtin;refine Lib.wpList_append_run _ rfl _ _ _ _ rfl _ _ rfl rfl _ _ (hrz _) ?_)
  |(at_builtin;refine wpList_copy_runI _ rfl _ _ 38 38 rfl _ _ rfl rfl (anE _ hE1 hE2 _ _) ?_)
  |(at_builtin;refine wpList_copy_runI _ rfl _ _ 38 38 rfl _ _ rfl rfl (ahL _ (fun _=>rfl) (fun _=>rfl) _ _ _) ?_))
 go_region_law_o (refine step_copy_runI rfl _ _ 38 38 rfl (.slice (some ⟨w.heap.size,(i+1)*8,none⟩) (n - i) (G - (i+1))) (.slice (some ⟨b,i*8,none⟩) (n - i) (c - i)) (by simp[Act.eval,Act.put]) (by simp[Act.eval,Act.put]) (ahL _ hF1 hF2 3 (G - (i+1)) (c - i)) ?_)
 go_wp2
 go_ret
 exact⟨rfl,rfl⟩
def Fo.c:SC:=
 SQ [RG [oQ 6 (.assign (.const (.slice none 0 0))) 38 [6]],RG [wV 10 0 38,wV 11 1 3,oQ 12 (.slice 38 (.tmp 10) (some (.tmp 11)) none none) 38 [10,11,12]],RG [wV 13 2 38,wL 14 13 38 3 [13],wG 7 14 3 [14]],SQ [RG [wV 15 7 3,wK 16 .eql 3 15 0 3 4 [15]],CN 16 (SQ [RG [wV 17 0 38 [0],wG 6 17 38 [17]],.ret]) .skip],RG [wV 18 0 38,wL 19 18 38 3 [18],wG 8 19 3 [19]],SQ [RG [wV 20 1 3,wV 21 8 3,
 wO 22 .eql 3 20 21 3 4 [20,21]],CN 22 (SQ [RG [wV 23 0 38 [0],wV 24 2 38 [2],wP 25 23 24 38 38 38 [23,24],wG 6 25 38 [25]],.ret]) .skip],SQ [RG [wV 26 8 3,wV 27 7 3,wO 28 .add 3 26 27 3 3 [26,27],wV 29 0 38,oQ 30 (.call ⟨.builtin .cap,#[.tmp 29],#[38]⟩) 3 [29],wO 31 .gtr 3 28 30 3 4 [28,30]],CN 31 (SQ [RG [wV 32 0 38,wV 33 1 3,oQ 34 (.slice 38 (.tmp 32) none (some (.tmp 33)) none) 38 [32,33],
 wV 35 8 3 [8],wV 36 7 3,wO 37 .add 3 35 36 3 3 [35,36],wV 38 1 3,wO 39 .sub 3 37 38 3 3 [37,38],wP 40 34 39 38 3 38 [34,39],wG 9 40 38 [40]],RG [wV 41 9 38,wV 42 1 3,oQ 43 (.slice 38 (.tmp 41) (some (.tmp 42)) none none) 38 [41,42],wV 44 2 38 [2],oQ 45 (.call ⟨.builtin .copy,#[.tmp 43,.tmp 44],#[38,38]⟩) 3 [43,44,45]],.aL [wV 46 9 38,wV 47 1 3,wV 48 7 3,wO 49 .add 3 47 48 3 3,
 oQ 50 (.slice 38 (.tmp 46) (some (.tmp 49)) none none) 38,wV 51 0 38,wV 52 1 3,oQ 53 (.slice 38 (.tmp 51) (some (.tmp 52)) none none) 38,oQ 54 (.call ⟨.builtin .copy,#[.tmp 50,.tmp 53],#[38,38]⟩) 3] [[],[],[],[1,2],[0,1,2,3],[],[],[5,6],[0,1,2,3,4,5,6,7]] [0,1,7,46,47,48,49,50,51,52,53,54],RG [wV 55 9 38 [9],wG 6 55 38 [55]],.ret]) .skip],RG [wV 56 0 38 [0],wV 57 8 3,wV 58 7 3,
 wO 59 .add 3 57 58 3 3 [57,58],oQ 60 (.slice 38 (.tmp 56) none (some (.tmp 59)) none) 38 [56,59],wG 0 60 38 [60]],SQ [RG [wV 61 2 38,wV 62 0 38,wV 63 1 3,wV 64 7 3,wO 65 .add 3 63 64 3 3 [63,64],oQ 66 (.slice 38 (.tmp 62) (some (.tmp 65)) none none) 38 [62,65],wW 67 117 61 66 38 38 4 [61,66],wQ 68 67 4 [67]],CN 68 (SQ [.aL [wV 69 0 38,wV 70 1 3,wV 71 7 3,wO 72 .add 3 70 71 3 3,
 oQ 73 (.slice 38 (.tmp 69) (some (.tmp 72)) none none) 38,wV 74 0 38,wV 75 1 3,oQ 76 (.slice 38 (.tmp 74) (some (.tmp 75)) none none) 38,oQ 77 (.call ⟨.builtin .copy,#[.tmp 73,.tmp 76],#[38,38]⟩) 3] [[],[],[],[1,2],[0,1,2,3],[],[],[5,6],[0,1,2,3,4,5,6,7]] [7,69,70,71,72,73,74,75,76,77],RG [wV 78 0 38,wV 79 1 3 [1],oQ 80 (.slice 38 (.tmp 78) (some (.tmp 79)) none none) 38 [78,79],wV 81 2 38 [2],
 oQ 82 (.call ⟨.builtin .copy,#[.tmp 80,.tmp 81],#[38,38]⟩) 3 [80,81,82]],RG [wV 83 0 38 [0],wG 6 83 38 [83]],.ret]) .skip],RG [wV 84 0 38,wV 85 8 3 [8],oQ 86 (.slice 38 (.tmp 84) (some (.tmp 85)) none none) 38 [84,85],wV 87 2 38 [2],oQ 88 (.call ⟨.builtin .copy,#[.tmp 86,.tmp 87],#[38,38]⟩) 3 [86,87,88]],RG [wV 89 0 38,wV 90 1 3 [1],oQ 91 (.slice 38 (.tmp 89) (some (.tmp 90)) none none) 38 [89,
 90],wV 92 7 3 [7],wW 93 118 91 92 38 3 0 [91,92,93]],RG [wV 94 0 38 [0],wG 6 94 38 [94]],.ret]
theorem Fo.rs:Tryz.f97.results.toList=[.tmp 6]:=rfl
theorem aqG {P:Program}{w:World}{g o:Nat}{us:List Value}{cur:Array Value}{e:TypeId} (hg:w.heap[g]?=some (.cells cur e (0,0))) (hle:o+us.length<=cur.size) (h1:∀ v∈us,v.oneCell'=true):
  w.setCells g o us=w.setRow g (cur.toList.take o++us++cur.toList.drop (o+us.length)).toArray:=by
 have a:=run_storeCells_at P g o e us 0 cur w hg (by simpa using hle) h1
 have b:=run_storeCells_cells (P:=P) g o us 0 w (fun j hj=>by
   simp only[World.cell?,hg,Nat.add_zero]
   rw[Bo (by omega)];rfl) (fun j hj=>by simp[World.frozen?,hg]) h1
 rw[a]at b
 simp only[Nat.add_zero]at b
 simp only[Result.ok.injEq,true_and]at b
 exact b.symm
section
variable {N0:Nat}{W0:World}{fm:FM}{ts:List Al}{H:Heap}{w:World}
theorem HR.less {H':Heap} (h:HR N0 W0 fm ts H w) (hl:H'.length=H.length) (hs:∀ l k b,H'.get l k=some b->H.get l k=some b):HR N0 W0 fm ts H' w:=
 ⟨h.len.trans hl.symm,fun l k b a=>h.ao l k b (hs l k b a),fun l k l' k' b b' c p q=>h.inj l k l' k' b b' c (hs _ _ _ p) (hs _ _ _ q),h.bP,fun l k b c o p=>h.df l k b c o (hs _ _ _ p),h.dk,h.size,h.cX,h.ej⟩
theorem aqF {α:Type} (L us:List α) (off n:Nat) (h:n<=off+us.length) (ho:off<=n):
  L.take off++us++L.drop (off+us.length)=((L.take n).take off++(us++(L.take n).drop (off+us.length)))++L.drop (off+us.length):=by
 have e1:(L.take n).take off=L.take off:=by rw[List.take_take,Nat.min_eq_left ho]
 have e2:(L.take n).drop (off+us.length)=[]:=by rw[List.drop_eq_nil_iff,Ba];omega
 rw[e1,e2,List.append_nil]
theorem HR.lay (h:HR N0 W0 fm ts H w) {l k c cap et esz i:Nat}{es new es':List (List AV)}{us:List Value} (hg:H.get l k=some (.arr et esz es)) (ht:tb ts l k=some (.arr es.length (some (c,cap))))
  (hi:i<=es.length) (bX:i+new.length<=cap) (bD:dw new esz) (hv:Av fm [] new.flatten us) (hf:∀ x∈new.flatten,x.flat=true) (he:es'=es.take i++(new++es.drop (i+new.length))):
  HR N0 W0 fm (cL ts l k (.arr es'.length (some (c,cap)))) (H.put l k (some (.arr et esz es'))) (w.setCells c (i*esz) us):=by
 have hb:=h.ao l k _ hg
 rw[ht]at hb
 obtain⟨_,_,hA⟩:=hb.gB
 obtain⟨hA,hN⟩:=hA c cap rfl
 obtain⟨cells,c1,c2,c3,c4,c5,c6,c7,c8⟩:=hA.flat
 have cH:us.length=new.length*esz:=by rw[<-hv.1,ku _ _ bD]
 have dp:(i+new.length)*esz<=cap*esz:=BW _ bX
 rw[Nat.add_mul]at dp
 have iJ:es.length*esz<=cap*esz:=BW _ c3
 have hm3:i*esz<=es.length*esz:=BW _ hi
 have gj:es'.length<=cap/\es.length<=es'.length:=by
  rw[he,A9,A9,Ba,Bp];omega
 rw[aqG (P:=Tryz.prog) c1 (by rw[cH,c2];exact dp) (hv.qR hf)]
 have oT:es'.flatten=es.flatten.take (i*esz)++(new.flatten++es.flatten.drop ((i+new.length)*esz)):=by
  rw[he,List.flatten_append,List.flatten_append,ou es i c5,vV es _ c5]
 refine h.xD hg ht (es':=es') (us:=(cells.toList.take (es.length*esz)).take (i*esz)++(us++(cells.toList.take (es.length*esz)).drop ((i+new.length)*esz)))
  (rest:=cells.toList.drop (max (es.length*esz) ((i+new.length)*esz))) gj.2 gj.1 ?_ ?_ ?_ ?_ ?_
 ·rw[he];exact pn (xp c5 _) (pn bD (aal c5 _))
 ·rw[A9,A9,Ba,Bp,Array.length_toList,cH,c2];omega
 ·rw[oT]
  exact(c7.take _).append (hv.append (c7.drop _))
 ·rw[oT]
  intro x hx
  rcases Bb.1 hx with hx|hx
  ·exact c8 x (BZ hx)
  ·rcases Bb.1 hx with hx|hx
   ·exact hf x hx
   ·exact c8 x (Cl hx)
 ·have e1:(i+new.length)*esz=i*esz+us.length:=by rw[cH,Nat.add_mul]
  rw[e1]
  by_cases hle:i*esz+us.length<=es.length*esz
  ·rw[Nat.max_eq_left hle]
   exact aco _ _ _ _ hle (by rw[Array.length_toList (xs:=cells),c2];exact iJ)
  ·rw[Nat.max_eq_right (by omega)]
   exact aqF _ _ _ _ (by omega) hm3
end
def xT:List AV:=[.int .i64 0,.int .i64 0,.int .i64 0,.int .i64 0,.int .i64 0,.int .i64 0,.int .i64 0,.str ⟨#[]⟩]
theorem arU (fm:FM):Av fm [] xT jr.cells.toList:=by
 refine⟨by rfl,?_⟩
 intro i x v hx hv
 match i,hx,hv with
 |0,hx,hv=>cases hx;cases hv;exact .int _ _
 |1,hx,hv=>cases hx;cases hv;exact .int _ _
 |2,hx,hv=>cases hx;cases hv;exact .int _ _
 |3,hx,hv=>cases hx;cases hv;exact .int _ _
 |4,hx,hv=>cases hx;cases hv;exact .int _ _
 |5,hx,hv=>cases hx;cases hv;exact .int _ _
 |6,hx,hv=>cases hx;cases hv;exact .int _ _
 |7,hx,hv=>cases hx;cases hv;exact .str _
 |n+8,hx,hv=>cases hx
theorem aoF {α:Type}{L lW:List α}{i:Nat} (hi:i<L.length) (h:L.take (i+1)++(L.drop i++L.drop (i+1+(L.drop i).length))=lW):lW.take i=L.take i/\lW.drop (i+1)=L.drop i:=by
 have hl:(L.take (i+1)).length=i+1:=by rw[Ba];omega
 have hd:L.drop (i+1+(L.drop i).length)=[]:=by rw[List.drop_eq_nil_iff,Bp];omega
 subst h
 refine⟨?_,?_⟩
 ·rw[E4 (by omega),List.take_take,Nat.min_eq_left (by omega)]
 ·rw[List.drop_left' hl,hd,List.append_nil]
theorem aoG {α:Type}{L Z Y lW:List α}{x:α}{i:Nat} (hi:i<=L.length) (h:(L.take i++Z).take i++([x]++Y)=lW):lW.take (i+1)=L.take i++[x]:=by
 have hl:(L.take i).length=i:=by rw[Ba];omega
 subst h
 rw[DV hl,<-Cu,DV (by rw[A9,hl];rfl)]
def aaE (k:Nat) (s:List Ab) (i:Int) (v:List Ab):Option (List Ab):=
 if (0<=i/\i<=s.length)/\v.length=1/\room (s.length+1) 72 then some (s.take i.toNat++(v++s.drop i.toNat)) else none
theorem aqQ (k:Nat) (s:List Ab) (i:Int) (v:List Ab) (r:List Ab) (h0:aaE k s i v=some r):
  A6 Tryz.prog 97 [.loc 0 0 8 0 s.length s.length,.int .i64 i,.loc 0 1 8 0 v.length v.length] [(0,.arr 29 8 (List.map Ab.c s)),(1,.arr 29 8 (List.map Ab.c v))] (fun y fr=>y=.loc 0 0 8 0 r.length r.length/\fr=[(0,.arr 29 8 (List.map Ab.c r))]):=by
 unfold aaE at h0
 split at h0
 ·rename_i hc
  obtain⟨⟨qu,bC⟩,sq,qD,ur⟩:=hc
  obtain rfl:=oi h0
  obtain⟨x,rfl⟩:∃ x,v=[x]:=by
   cases v with
   |nil=>simp at sq
   |cons x l=>cases l with
    |nil=>exact⟨x,rfl⟩
    |cons y l=>simp at sq
  obtain⟨i,rfl⟩:∃ j:Nat,i=j:=⟨i.toNat,by omega⟩
  simp only[Cn]
  by_cases he:i=s.length
  ·
   subst he
   have hr:=A6.own (et:=29) (sz:=8) (ls:=List.map Ab.c (s.take s.length++([x]++s.drop s.length))) (A6.gr AB (f:=97) (fn:=Tryz.f97) (sc:=Fo.c) (args:=[.loc 0 0 8 0 s.length s.length,.int .i64 s.length,.loc 0 1 8 0 1 1]) (fr0:=[(0,.arr 29 8 (List.map Ab.c s)),(1,.arr 29 8 (List.map Ab.c [x]))]) (by rfl) (by rfl) (by decide +kernel) (by rfl) (by decide +kernel) (Nat.le_of_ble_eq_true rfl) (fun H=>?_))
   ·simpa only [Bh,AA,Az,Co] using hr
   refine rS ?_
   have rY:xl s.length (s.length:Int)=some ():=by unfold xl;rw[if_pos (by omega)]
   have hpr:room (s.length+1) 72:=⟨qD,ur⟩
   have rX:=ao3 rY
   simp only[Fo.c,ao2 rY,rX,hpr,(@id (((1:Nat):Int)=1) rfl),(by decide:decide ((1:Int)=0)=false),(by simp:decide ((s.length:Int)=(s.length:Int))=true),go_sem]
   refine Da rfl ?_
   simp only[Fo.rs,m8,A0,b9,go_sem]
   first|exact(CF (by simp)).symm|exact CF (by simp)|(simp;done)|(simp;rw[CF (by simp)])
  ·
   have hi:i<s.length:=by omega
   refine⟨⟨Tryz.f97,by rfl,by rfl,by rfl⟩,?_⟩
   intro H N0 W0 fm t ts w vs hH ht bo
   obtain⟨x0,xs,rfl⟩:∃ a l,vs=a::l:=by
    cases vs with
    |nil=>exact absurd bo.1 (by simp)
    |cons a l=>exact⟨a,l,rfl⟩
   obtain⟨x1,xs,rfl⟩:∃ a l,xs=a::l:=by
    cases xs with
    |nil=>exact absurd bo.1 (by simp)
    |cons a l=>exact⟨a,l,rfl⟩
   obtain⟨x2,xs,rfl⟩:∃ a l,xs=a::l:=by
    cases xs with
    |nil=>exact absurd bo.1 (by simp)
    |cons a l=>exact⟨a,l,rfl⟩
   obtain rfl:xs=[]:=by
    cases xs with
    |nil=>rfl
    |cons a l=>exact absurd bo.1 (by simp)
   have cW:=bo.2 0 _ x0 rfl rfl
   have iz:=bo.2 1 _ x1 rfl rfl
   have sr:=bo.2 2 _ x2 rfl rfl
   have fe:Heap.get ([(0,AG.arr 29 8 (List.map Ab.c s)),(1,AG.arr 29 8 (List.map Ab.c [x]))]::H) 0 0=some (.arr 29 8 (s.map Ab.c)):=rfl
   have jW:Heap.get ([(0,AG.arr 29 8 (List.map Ab.c s)),(1,AG.arr 29 8 (List.map Ab.c [x]))]::H) 0 1=some (.arr 29 8 ([x].map Ab.c)):=rfl
   have fT:=hH.ao 0 0 _ fe
   have cA:=hH.ao 0 1 _ jW
   cases iz
   generalize gn:s.length=n at *
   cases cW with
   |cN _ _ _ _ _ _ a' aZ aJ=>rw[aJ]at fT;cases fT
   |cO _ _ _ _ _ _ a' aZ m' c aJ eO=>rw[aJ]at fT;have:=fT.gB.1;simp at this;omega
   |cr _ _ _ a1 aJ=>omega
   |loc _ _ _ _ _ _ c cap aZ a' aJ zj bM cj ha=>
    cases sr with
    |cN _ _ _ _ _ _ a2 cp2 xf=>rw[xf]at cA;cases cA
    |cO _ _ _ _ _ _ a2 cp2 m2 c2 xf zp=>rw[xf]at cA;have:=cA.gB.1;simp at this;omega
    |loc _ _ _ _ _ _ vb arh vcp va xf asb asg ar5 ha2=>
     have hac:a'=⟨c,0*8,none⟩:=ha (.inr rfl)
     have hva:va=⟨vb,0*8,none⟩:=ha2 (.inr rfl)
     subst hac hva
     rw[aJ]at fT
     rw[xf]at cA
     obtain⟨hA,hN⟩:=fT.gB.2.2 c cap rfl
     obtain⟨hA2,hN2⟩:=cA.gB.2.2 vb arh rfl
     obtain⟨cells,c1,c2,c3,c4,c5,c6,c7,c8⟩:=hA.flat
     obtain⟨ajT,d1,d2,d3,d4,d5,d6,d7,d8⟩:=hA2.flat
     simp only[Bh,AA,Az,Co]at c3 d3 c7 d7 c2 d2
     rw[gn]at c3 c7
     have hvb:vb≠c:=by
      intro h
      subst h
      have:=hH.inj 0 0 0 1 _ _ vb fe jW (by rw[aJ];rfl) (by rw[xf];rfl)
      omega
     have bX:aZ=cap:=by omega
     subst bX
     have hm8:n*8<=cells.size:=by omega
     obtain⟨cs,gh⟩:∃ cs,cs=cells.toList.take (n*8):=⟨_,rfl⟩
     obtain⟨us,o9⟩:∃ us,us=ajT.toList.take (1*8):=⟨_,rfl⟩
     rw[<-gh]at c7
     rw[<-o9]at d7
     have bF:cs.length=n*8:=by rw[gh,Ba,Array.length_toList];omega
     have cH:us.length=8:=by rw[o9,Ba,Array.length_toList];omega
     have wx:∀ j v,cs[j]?=some v->w.cell? ⟨c,j,none⟩=some v:=fun j v hj=>by
      simp only[World.cell?,c1]
      rw[gh,BS]at hj
      split at hj
      ·rw[Array.getElem?_toList]at hj;exact hj
      ·cases hj
     have huu:∀ j v,us[j]?=some v->w.cell? ⟨vb,j,none⟩=some v:=fun j v hj=>by
      simp only[World.cell?,d1]
      rw[o9,BS]at hj
      split at hj
      ·rw[Array.getElem?_toList]at hj;exact hj
      ·cases hj
     have qm:=c7.qR c8
     have we:=d7.qR d8
     have hsn:((s.map Ab.c).drop i).length=n - i:=by rw[Bp,Bh,gn]
     have wz:Av fm [] ((s.map Ab.c).drop i).flatten (cs.drop (i*8)):=by rw[vV _ _ c5];exact c7.drop _
     have ue:∀ y∈((s.map Ab.c).drop i).flatten,y.flat=true:=fun y hy=>by rw[vV _ _ c5]at hy;exact c8 y (Cl hy)
     have d8':∀ y∈([x].map Ab.c).flatten,y.flat=true:=d8
     have zJ:(s.take i++([x]++s.drop i)).length=n+1:=by simp only[A9,Ba,Bp,AA,Az,gn];omega
     have aim:∀ {b0 b1:AG} (l k:Nat) (b:AG),Heap.get ([(0,b0)]::H) l k=some b->Heap.get ([(0,b0),(1,b1)]::H) l k=some b:=by
      intro b0 b1 l k b h
      cases l with
      |zero=>
       by_cases hk:k=0
       ·subst hk;exact h
       ·simp[Heap.get,look,hk,show ¬ (0=k) by omega]at h
      |succ l=>exact h
     by_cases hrm:n+1<=aZ
     ·refine(aoH c n aZ i vb (0*8) vcp cs us w hi hrm (by unfold maxLen at c4;omega) hvb bF cH wx ?_ ?_ ?_ qm we 29 29 ajT.size cells.size ?_ ?_ ?_ ?_ ?_).mono ?_
      ·intro j hj
       simp only[World.cell?,c1]
       rw[Bo (by omega)];rfl
      ·intro j hj;simp[World.frozen?,c1]
      ·intro j v hj
       simpa using huu j v hj
      ·simp[World.shape?,d1]
      ·simp[World.shape?,c1]
      ·omega
      ·simp[World.frozen?,d1]
      ·simp[World.frozen?,d1]
      ·rintro e w' ⟨rfl,rfl⟩
       have kI:=hH.drew.lay (c:=c) (cap:=aZ) (i:=i+1) (new:=(s.map Ab.c).drop i) (us:=cs.drop (i*8)) fe (by rw[aJ];simp[gn]) (by rw[Bh,gn];omega) (by rw[hsn];omega) (aal c5 _) wz ue rfl
       generalize zd:(s.map Ab.c).take (i+1)++((s.map Ab.c).drop i++(s.map Ab.c).drop (i+1+((s.map Ab.c).drop i).length))=lW at kI
       have gm:lW.length=n+1:=by rw[<-zd];simp only[A9,Ba,Bp,Bh,gn];omega
       have oW:=kI.lay (l:=0) (k:=0) (c:=c) (cap:=aZ) (et:=29) (esz:=8) (es:=lW) (i:=i) (new:=[x].map Ab.c) (us:=us) (es':=(s.take i++([x]++s.drop i)).map Ab.c) (by rfl) (by rw[eb,if_pos ⟨rfl,rfl,by simp⟩]) (by omega) (by simp;omega) d5 d7 d8' ?_
       ·refine⟨_,.loc 0 0 8 0 (n+1) (n+1),[(0,.arr 29 8 (List.map Ab.c (s.take i++([x]++s.drop i))))],fm,_,ts,rfl,⟨?_,rfl⟩,oW.less (by rfl) ?_,?_,AM.refl _ _,As.refl _,?_,?_⟩
        ·rw[zJ]
        ·exact aim
        ·exact .loc 0 0 8 0 (n+1) (n+1) c aZ aZ _ (by show some (TB.arr (List.length (List.map Ab.c (s.take i++([x]++s.drop i)))) _)=_;rw[Bh,zJ]) (by omega) (by omega) (by omega) (fun _=>rfl)
        ·exact fun _ _ h=>h
        ·intro k hk
         simp only[if_neg (show ¬ (k=0) by omega)]
         exact ht k hk
       ·obtain⟨q1,q2⟩:=aoF (L:=s.map Ab.c) (i:=i) (by rw[Bh,gn];exact hi) zd
        rw[q1,show i+([x].map Ab.c).length=i+1 from rfl,q2,C7,C7,List.map_take,List.map_drop]
     ·obtain⟨G,hG⟩:∃ G,G=grownCap w (n+1) aZ 29:=⟨_,rfl⟩
      refine(aoE c n aZ i vb (0*8) vcp cs us w hi bM (by omega) qD bF cH wx ?_ qm we).mono ?_
      ·intro j v hj
       simpa using huu j v hj
      ·rw[<-hG]
       rintro e w' ⟨rfl,rfl⟩
       have hGn:n+1<=G:=by rw[hG];exact grownCap_ge w _ _ _
       have hGm:G<=maxLen:=by
        rw[hG]
        exact grownCap_le_maxLen w (n+1) aZ 29 (by unfold maxLen;omega)
       have su:jr.cells.size=8:=by rfl
       have zZ:∀ m,(Builtin.zeroCells jr.cells m).toList=(List.replicate m jr.cells.toList).flatten:=fun m=>aaf jr.cells m (by rw[su];omega)
       have lu:((s.map Ab.c).take i++List.replicate (n+1 - i) xT).length=n+1:=by rw[A9,Ba,Bh,CP,gn];omega
       have hzf:∀ y∈xT,y.flat=true:=by decide
       have hs0:=hH.xn (l:=0) (k:=0) (cap:=G) (et:=29) (esz:=8) (es:=(s.map Ab.c).take i++List.replicate (n+1 - i) xT)
        (cells:=(cs.take (i*8)).toArray++Builtin.zeroCells jr.cells (n+1 - i)++Builtin.zeroCells jr.cells (G - (n+1)))
        (us:=cs.take (i*8)++(Builtin.zeroCells jr.cells (n+1 - i)).toList) (rest:=(Builtin.zeroCells jr.cells (G - (n+1))).toList) (by simp) (by rw[aJ];exact .inr (.inr ⟨_,_,rfl,by rw[lu];omega⟩))
        (by rw[Array.size_append,Array.size_append,size_zeroCells,size_zeroCells,su,List.size_toArray,Ba,bF];omega) (by rw[lu];exact hGn) hGm (pn (xp c5 _) (xo rfl _)) (by omega)
        (by rw[List.flatten_append,ou _ _ c5,zZ];exact(c7.take _).append (Av.replicate (arU fm) _))
        (by
         rw[List.flatten_append,ou _ _ c5]
         intro y hy
         rcases Bb.1 hy with hy|hy
         ·exact c8 y (BZ hy)
         ·exact yF hzf _ y hy)
        (by simp)
       have kI:=hs0.drew.lay (l:=0) (k:=0) (c:=w.heap.size) (cap:=G) (et:=29) (esz:=8) (i:=i) (new:=[x].map Ab.c) (us:=us) (by rfl) (by rw[eb,if_pos ⟨rfl,rfl,by simp⟩]) (by omega) (by simp;omega) d5 d7 d8' rfl
       generalize zd:((s.map Ab.c).take i++List.replicate (n+1 - i) xT).take i++([x].map Ab.c++((s.map Ab.c).take i++List.replicate (n+1 - i) xT).drop (i+([x].map Ab.c).length))=lW at kI
       have gm:lW.length=n+1:=by
        rw[<-zd]
        simp only[A9,Ba,Bp,Bh,CP,AA,Az,gn]
        omega
       have oW:=kI.drew.lay (l:=0) (k:=0) (c:=w.heap.size) (cap:=G) (et:=29) (esz:=8) (es:=lW) (i:=i+1) (new:=(s.map Ab.c).drop i) (us:=cs.drop (i*8)) (es':=(s.take i++([x]++s.drop i)).map Ab.c) (by rfl) (by rw[eb,if_pos ⟨rfl,rfl,by simp[cL]⟩]) (by omega) (by rw[hsn];omega) (aal c5 _) wz ue ?_
       ·refine⟨_,.loc 0 0 8 0 (n+1) (n+1),[(0,.arr 29 8 (List.map Ab.c (s.take i++([x]++s.drop i))))],fm,_,ts,rfl,⟨?_,rfl⟩,oW.less (by rfl) ?_,?_,AM.refl _ _,As.refl _,?_,?_⟩
        ·rw[zJ]
        ·exact aim
        ·exact .loc 0 0 8 0 (n+1) (n+1) w.heap.size G G _ (by show some (TB.arr (List.length (List.map Ab.c (s.take i++([x]++s.drop i)))) _)=_;rw[Bh,zJ]) (by omega) (by omega) (by omega) (fun _=>rfl)
        ·exact fun _ _ h=>h
        ·intro k hk
         simp only[if_neg (show ¬ (k=0) by omega)]
         exact ht k hk
       ·have hd:lW.drop (i+1+((s.map Ab.c).drop i).length)=[]:=by rw[List.drop_eq_nil_iff,gm,hsn];omega
        have q:=aoG (L:=s.map Ab.c) (i:=i) (by rw[Bh,gn];exact Nat.le_of_lt hi) zd
        rw[hd,q,List.append_nil,C7,C7,List.map_take,List.map_drop,Cu]
        rfl
 ·cases h0
def Hr.c:SC:=
 SQ [RG [wE 2 40 0 [0],wE 3 29 1 [1],wA 4 40,wN 5 0 45 [5]],SQ [RG [wD 8 29 3,wU 9 95 8 29 4 [8],wQ 10 9 4 [9]],CN 10 (SQ [RG [oQ 11 (.build 40 #[]) 40,wS 40 4 11 [11],wN 5 90 45],.ret]) .skip],RG [wD 13 40 2,wF 14 29 3 0,wD 15 27 14 [14],wW 16 96 13 15 40 27 165 [13,15],wV 12 16 165 [16],wX 17 12 0 3,wX 18 12 1 4 [12],wG 6 17 3 [17],wG 7 18 4 [18]],.block 0 (SQ [.aL [wV 20 7 4,wV 21 20 4,
 gd 21 true (wF 22 40 2 0),gd 21 true (wD 23 38 22),gd 21 true (wV 24 6 3),gd 21 true (wI 25 38 23 24),gd 21 true (wD 26 29 25),gd 21 true (wD 27 29 3),gd 21 true (wO 28 .eql 29 26 27 29 4),wZ 29 21 28 4,wG 19 29 4] [[],[0],[0,1],[0,1,2],[0,1],[0,1,2,3,4],[0,1,2,3,4,5],[0,1],[0,1,2,3,4,5,6,7],[0,1,2,3,4,5,6,7,8],[0,1,2,3,4,5,6,7,8,9]] [20,21,22,23,24,25,26,27,28,29],CN 19 (SQ [RG [wD 30 40 2 [2],
 wU 31 76 30 40 40 [30],wS 40 4 31 [31],wN 5 0 45],.ret]) (SQ [RG [wV 33 7 4 [7],wG 32 33 4 [33]],CN 32 (SQ [RG [oQ 34 (.build 40 #[]) 40,wS 40 4 34 [34],wN 5 92 45],.ret]) (SQ [.aL [wF 36 29 3 0,wF 37 27 36 1,wD 38 3 37,wD 39 40 2,wU 40 56 39 40 55,wF 41 29 3 0,wF 42 27 41 0,wD 43 3 42,oQ 44 (.index 55 (.tmp 40) (.tmp 43)) 3,wO 45 .gtr 3 38 44 3 4,wG 35 45 4] [[],[0],[0,1],[],[3],[],[5],[5,6],
 [3,4,5,6,7],[0,1,2,3,4,5,6,7,8],[0,1,2,3,4,5,6,7,8,9]] [36,37,38,39,40,41,42,43,44,45],CN 35 (SQ [RG [oQ 46 (.build 40 #[]) 40,wS 40 4 46 [46],wN 5 93 45],.ret]) (SQ [RG [wF 48 40 2 0,wD 49 38 48 [48],wL 50 49 38 3 [49],wK 51 .eql 3 50 60 3 4 [50],wG 47 51 4 [51]],CN 47 (SQ [RG [oQ 52 (.build 40 #[]) 40,wS 40 4 52 [52],wN 5 2 45],.ret]) .skip])])])]),.aL [wF 53 40 2 0,wD 54 38 53,
 wU 55 98 54 38 38,wV 56 6 3,wD 57 29 3,oQ 58 (.buildSlice 38 1 #[(0,.tmp 57)]) 38,wC 59 97 #[.tmp 55,.tmp 56,.tmp 58] #[38,3,38] 38,oQ 60 (.build 40 #[(0,.tmp 59)]) 40,wS 40 4 60,wN 5 0 45] [[],[0],[0,1],[],[],[4],[0,1,2,3,4,5],[0,1,2,3,4,5,6],[0,1,2,3,4,5,6,7],[0,1,2,3,4,5,6,7,8]] [2,3,6,53,54,55,56,57,58,59,60],.ret]
def rv (k:Nat) (b0:Ah) (r1:Ab):Option (Ah×Int):=
 (pV k r1).bind fun x1=>
 bif (!x1) then
  some ((⟨[]⟩:Ah),90)
 else
  (yg k b0 r1.At).bind fun x3=>
  bif x3.2 then
   (at? b0.Aj x3.1).bind fun x5=>
   bif (decide (x5.At.Aq=r1.At.Aq)&&(decide (x5.At.No=r1.At.No)&&(decide (x5.Kind=r1.Kind)&&(decide (x5.Day=r1.Day)&&(decide (x5.Bn=r1.Bn)&&(decide (x5.Of.Aq=r1.Of.Aq)&&(decide (x5.Of.No=r1.Of.No)&&(x5.Text.toList==r1.Text.toList)))))))) then
    (vA k b0).bind fun x7=>
    some (x7,0)
   else
    some ((⟨[]⟩:Ah),92)
  else
   (il k b0).bind fun x8=>
   (x8.at? r1.At.Aq).bind fun x9=>
   bif decide (x9<r1.At.No) then
    some ((⟨[]⟩:Ah),93)
   else
    bif decide ((b0.Aj.length:Int)=(60:Int)) then
     some ((⟨[]⟩:Ah),2)
    else
     (xF k b0.Aj).bind fun cI=>
     (aaE k cI x3.1 [r1]).bind fun cU=>
     some ((⟨cU⟩:Ah),0)
theorem ac7 (k:Nat) (b0:Ah) (r1:Ab) (r:Ah×Int) (h0:rv k b0 r1=some r):Ay Tryz.prog 70 [.agg (Ah.c b0),.agg (Ab.c r1)] (fun y=>y=.ar [.agg (Ah.c r.1),.int .i64 r.2]):=by
 refine PB Tryz.f70 Hr.c [.cell 4 40,.tmp 5] ?_
 simp only[rv]at h0
 try simp only[Hr.c,go_sem]
 refine au h0 (adb k _) ?_ (fun x1 h0=>?_)<;>try simp only[go_sem]
 refine Cr h0 ?_ ?_<;>intro c2 h0<;>have F:=c2<;>try simp only[F,go_sem]
 obtain rfl:=oi h0
 refine Ag rfl ?_
 try simp only[F,go_sem]
 refine au h0 (alT k _ _) ?_ (fun x3 h0=>?_)<;>try simp only[F,go_sem]
 refine AL AB aQ 1000 ?_
 try simp only[F,go_sem]
 refine DF F h0 ?_ ?_<;>intro F h0<;>try simp only[F,go_sem]
 obtain⟨x5,cE,h0⟩:=bs h0
 have F:=an (aC cE) (an (aE Ab.c cE) F)
 try simp only[F,go_sem]
 refine aK ?_
 try simp only[F,go_sem]
 refine AF F h0 ?_ ?_<;>intro F h0<;>try simp only[F,go_sem]
 refine au h0 (af7 k _) ?_ (fun x7 h0=>?_)<;>try simp only[F,go_sem]
 obtain rfl:=oi h0
 refine Ag rfl ?_
 try simp only[F,go_sem]
 obtain rfl:=oi h0
 refine Ag rfl ?_
 try simp only[F,go_sem]
 refine aK ?_
 try simp only[F,go_sem]
 refine AL AB aQ 1000 ?_
 try simp only[F,go_sem]
 refine cz h0 (alU k _) ?_ (fun x8 h0=>?_)<;>try simp only[F,go_sem]
 obtain⟨x9,fb,h0⟩:=bs h0
 have pD:=(Ap.afg mE fb).2
 try simp only[go_sem]at pD
 have F:=an (aw fb) (an pD F)
 try simp only[F,go_sem]
 refine aK ?_
 try simp only[F,go_sem]
 refine AF F h0 ?_ ?_<;>intro F h0<;>try simp only[F,go_sem]
 obtain rfl:=oi h0
 refine Ag rfl ?_
 try simp only[F,go_sem]
 refine AF F h0 ?_ ?_<;>intro F h0<;>try simp only[F,go_sem]
 obtain rfl:=oi h0
 refine Ag rfl ?_
 try simp only[F,go_sem]
 refine AL AB aQ 1000 ?_
 try simp only[F,go_sem]
 obtain⟨cI,rq,h0⟩:=bs h0
 refine D6 1000 [] [] (ajs k _ _ rq) ?_ rfl ?_
 try simp only[fS,Bh,F,go_sem]
 try simp only[F,go_sem]
 obtain⟨cU,pJ,h0⟩:=bs h0
 refine D6 1000 [] [752,800] (aqQ k _ _ _ _ pJ) ?_ rfl ?_
 try simp only[fS,Bh,F,go_sem]
 try simp only[F,go_sem]
 refine aK ?_
 try simp only[F,go_sem]
 obtain rfl:=oi h0
 refine Ag rfl ?_
 try simp only[F,go_sem]
def GV.c:SC:=
 SQ [RG [wA 6 105],RG [wV 7 0 99 [0],oQ 8 (.nilCheck (.tmp 7)) 0 [7],wF 9 102 8 0 [8],wF 10 36 9 0 [9],wD 11 33 10 [10],wV 12 1 3 [1],wK 13 .mul 3 12 301 3 3 [12],wV 14 2 3,wK 15 .quo 3 14 2 3 3 [14],wO 16 .add 3 13 15 3 3 [13,15],wV 17 2 3 [2],wK 18 .rem 3 17 2 3 3 [17],wI 19 33 11 16 [11,16],wI 20 113 19 18 [18,19],wD 21 92 20 [20],wS 105 6 21 [21]],.ret]
def nm (k:Nat) (d0:az) (aW:Int) (i2:Int):Option ((Aa 32 Int)):=
 (at? d0.Ac.Af (ab ((ab (aW*301))+(ab (Int.tdiv i2 2))))).bind fun x1=>
 (x1.at? (Int.tmod i2 2)).bind fun x2=>
 some x2
theorem vB (k:Nat) (d0:az) (aW:Int) (i2:Int) (r:(Aa 32 Int)) (h0:nm k d0 aW i2=some r):Ay Tryz.prog 102 [.aD 2 [az.c d0] 0 0,.int .i64 aW,.int .i64 i2] (fun y=>y=.agg ((Aa.c (n:=32) af) r)):=by
 refine PB Tryz.f102 GV.c [.cell 6 105] ?_
 simp only[nm]at h0
 try simp only[GV.c,go_sem]
 obtain⟨x1,jq,h0⟩:=bs h0
 have F:=an (aC jq) (aE (Aa.c (n:=2) (Aa.c (n:=32) af)) jq)
 try simp only[F,go_sem]
 obtain⟨x2,ec,h0⟩:=bs h0
 have uZ:=Ap.bI gL (Ap.self fM x1) ec
 have nY:=uZ.2
 try simp only[AA,Az,go_sem]at nY
 have F:=an (aw ec) (an nY F)
 try simp only[F,go_sem]
 obtain rfl:=oi h0
 refine Ag rfl ?_
 try simp only[F,go_sem]
def GW.c:SC:=
 SQ [RG [wE 1 105 0 [0],wN 2 0 3 [2]],RG [wJ 4 105 1 1,wD 5 5 4 [4],wY 6 5 3 5 3 [5],oQ 7 (.binOp .shl 3 (.tmp 6) (.const (.int .u64 16)) 172) 3 [6],wJ 8 105 1 2,wD 9 5 8 [8],wY 10 5 3 9 3 [9],oQ 11 (.binOp .shl 3 (.tmp 10) (.const (.int .u64 8)) 172) 3 [10],wO 12 .or 3 7 11 3 3 [7,11],wJ 13 105 1 3,wD 14 5 13 [13],wY 15 5 3 14 3 [14],wO 16 .or 3 12 15 3 3 [12,15],wG 3 16 3 [16]],
 SQ [RG [wJ 17 105 1 0,wD 18 5 17 [17],oQ 19 (.binOp .neq 5 (.tmp 18) (.const (.int .u8 104)) 5) 4 [18],wV 20 19 4 [19],gd 20 true (wJ 21 105 1 0),gd 20 true (wD 22 5 21 [21]),gd 20 true (oQ 23 (.binOp .neq 5 (.tmp 22) (.const (.int .u8 112)) 5) 4 [22]),wZ 24 20 23 4 [20,23],wV 25 24 4 [24],gd 25 false (wJ 26 105 1 31 [1]),gd 25 false (wD 27 5 26 [26]),
 gd 25 false (oQ 28 (.binOp .neq 5 (.tmp 27) (.const (.int .u8 165)) 5) 4 [27]),wT 29 25 28 4 [25,28],wV 30 29 4 [29],gd 30 false (wV 31 3 3),gd 30 false (wK 32 .gtr 3 31 1000000 3 4 [31]),wT 33 30 32 4 [30,32]],CN 33 (SQ [RG [wN 2 0 3],.ret]) .skip],RG [wV 34 3 3 [3],wG 2 34 3 [34]],.ret]
def pU (k:Nat) (dK:(Aa 32 Int)):Option (Int):=
 (dK.at? 1).bind fun x1=>
 (dK.at? 2).bind fun x2=>
 (dK.at? 3).bind fun x3=>
 (dK.at? 0).bind fun x4=>
 bif (!decide (x4=(104:Int))) then
  bif decide (x4=(112:Int)) then
   (dK.at? 31).bind fun x7=>
   bif decide (x7=(165:Int)) then
    bif decide ((1000000:Int)<fZ .i64 (fZ .i64 (ab ((ab x1)*2 ^ 16)) (ab ((ab x2)*2 ^ 8))) (ab x3)) then
     some 0
    else
     some (fZ .i64 (fZ .i64 (ab ((ab x1)*2 ^ 16)) (ab ((ab x2)*2 ^ 8))) (ab x3))
   else
    some 0
  else
   some 0
 else
  (dK.at? 31).bind fun cm=>
  bif decide (cm=(165:Int)) then
   bif decide ((1000000:Int)<fZ .i64 (fZ .i64 (ab ((ab x1)*2 ^ 16)) (ab ((ab x2)*2 ^ 8))) (ab x3)) then
    some 0
   else
    some (fZ .i64 (fZ .i64 (ab ((ab x1)*2 ^ 16)) (ab ((ab x2)*2 ^ 8))) (ab x3))
  else
   some 0
theorem abj (k:Nat) (dK:(Aa 32 Int)) (r:Int) (h0:pU k dK=some r):Ay Tryz.prog 103 [.agg ((Aa.c (n:=32) af) dK)] (fun y=>y=.int .i64 r):=by
 refine PB Tryz.f103 GW.c [.tmp 2] ?_
 simp only[pU]at h0
 try simp only[GW.c,go_sem]
 obtain⟨x1,jq,h0⟩:=bs h0
 have xM:=Ap.bI fL (Ap.self gA dK) jq
 have th:=xM.2
 try simp only[AA,Az,go_sem]at th
 have F:=an (aw jq) th
 try simp only[(@id (min (Int.toNat 16) 64=16) rfl),F,go_sem]
 obtain⟨x2,ec,h0⟩:=bs h0
 have uZ:=Ap.bI fL (Ap.self gA dK) ec
 have nY:=uZ.2
 try simp only[AA,Az,go_sem]at nY
 have F:=an (aw ec) (an nY F)
 try simp only[(@id (min (Int.toNat 8) 64=8) rfl),F,go_sem]
 obtain⟨x3,cY,h0⟩:=bs h0
 have u3:=Ap.bI fL (Ap.self gA dK) cY
 have aaQ:=u3.2
 try simp only[AA,Az,go_sem]at aaQ
 have F:=an (aw cY) (an aaQ F)
 try simp only[F,go_sem]
 obtain⟨x4,bS,h0⟩:=bs h0
 have iW:=Ap.bI fL (Ap.self gA dK) bS
 have jK:=iW.2
 try simp only[AA,Az,go_sem]at jK
 have F:=an (aw bS) (an jK F)
 try simp only[F,go_sem]
 refine Bx F h0 ?_ ?_<;>intro F h0<;>try simp only[F,go_sem]
 refine AF F h0 ?_ ?_<;>intro F h0<;>try simp only[F,go_sem]
 obtain⟨x7,eG,h0⟩:=bs h0
 have rk:=Ap.bI fL (Ap.self gA dK) eG
 have n4:=rk.2
 try simp only[AA,Az,go_sem]at n4
 have F:=an (aw eG) (an n4 F)
 try simp only[F,go_sem]
 refine AF F h0 ?_ ?_<;>intro F h0<;>try simp only[F,go_sem]
 refine AF F h0 ?_ ?_<;>intro F h0<;>try simp only[F,go_sem]
 obtain rfl:=oi h0
 refine Ag rfl ?_
 try simp only[F,go_sem]
 obtain rfl:=oi h0
 refine Ag rfl ?_
 try simp only[F,go_sem]
 obtain rfl:=oi h0
 refine Ag rfl ?_
 try simp only[F,go_sem]
 obtain rfl:=oi h0
 refine Ag rfl ?_
 try simp only[F,go_sem]
 obtain⟨cm,nh,h0⟩:=bs h0
 have aq8:=Ap.bI fL (Ap.self gA dK) nh
 have aj5:=aq8.2
 try simp only[AA,Az,go_sem]at aj5
 have F:=an (aw nh) (an aj5 F)
 try simp only[F,go_sem]
 refine AF F h0 ?_ ?_<;>intro F h0<;>try simp only[F,go_sem]
 refine AF F h0 ?_ ?_<;>intro F h0<;>try simp only[F,go_sem]
 obtain rfl:=oi h0
 refine Ag rfl ?_
 try simp only[F,go_sem]
 obtain rfl:=oi h0
 refine Ag rfl ?_
 try simp only[F,go_sem]
 obtain rfl:=oi h0
 refine Ag rfl ?_
 try simp only[F,go_sem]
end Go.Abs
namespace Go.Abs
open Go Go.Proofs Go.RowKit Go.Lib
def Fk.c:SC:=
 SQ [RG [oQ 4 (.assign (.const (.slice none 0 0))) 82 [4]],SQ [RG [wV 6 0 205,oQ 7 (.nilCheck (.tmp 6)) 0 [6],wF 8 207 7 0 [7],wD 9 82 8 [8],wL 10 9 82 3 [9],wV 11 1 3,wO 12 .lss 3 10 11 3 4 [10,11]],CN 12 (RG [oQ 13 (.build 203 #[]) 203,oQ 14 (.makeInterface 203 (.tmp 13)) 20 [13],⟨none,.panic (.tmp 14),0,none,[14]⟩]) .skip],RG [wV 15 0 205,oQ 16 (.nilCheck (.tmp 15)) 0 [15],wF 17 207 16 0 [16],
 wD 18 82 17 [17],wV 19 1 3,oQ 20 (.slice 82 (.tmp 18) none (some (.tmp 19)) none) 82 [18,19],wG 5 20 82 [20]],RG [wV 21 0 205,wV 22 0 205 [0],oQ 23 (.nilCheck (.tmp 22)) 0 [22],wF 24 207 23 0 [23],wD 25 82 24 [24],wV 26 1 3 [1],oQ 27 (.slice 82 (.tmp 25) (some (.tmp 26)) none none) 82 [25,26],oQ 28 (.nilCheck (.tmp 21)) 0 [21],wF 29 207 28 0 [28],wS 82 29 27 [27,29]],RG [wV 30 5 82 [5],
 wG 4 30 82 [30]],.ret]
theorem Fk.rs:Tryz.f134.results.toList=[.tmp 4]:=rfl
def DQ.s0:SC:=
 SQ [RG [wO 13 .lss 3 12 11 3 0],CN 13 .skip (.exit 0),.block 1 (SQ [RG [wI 14 82 10 12,wD 15 5 14 [14],wG 7 15 5 [15]],RG [wV 16 5 3 [5],oQ 17 (.binOp .shl 3 (.tmp 16) (.const (.int .u64 8)) 172) 3 [16],wV 18 7 5 [7],wY 19 5 3 18 3 [18],wO 20 .or 3 17 19 3 3 [17,19],wG 5 20 3 [20]]]),RG [wK 21 .add 3 12 1 3 3 [12],wV 12 21 3 [21]]]
def DQ.c:SC:=
 SQ [RG [wN 4 0 3 [4]],RG [wN 5 0 3],SQ [RG [wV 8 0 205 [0],wV 9 1 3 [1],wW 10 134 8 9 205 3 82 [8,9],wL 11 10 82 3,oQ 12 (.move (.const (.int .i64 0))) 3],.block 0 (.loop DQ.s0)],RG [wV 22 5 3 [5],wG 4 22 3 [22]],.ret]
theorem DQ.rs:Tryz.f133.results.toList=[.tmp 4]:=rfl
theorem ahZ {f:Au}{H:Heap}{l k:Nat}{b:Option AG}:Heap.put (f::H) (l+1) k b=f::Heap.put H l k b:=by cases b<;>rfl
theorem dS {f:Au}{H:Heap}{l k:Nat}:Heap.get (f::H) (l+1) k=Heap.get H l k:=rfl
theorem hlen {H:Heap}{l k:Nat}{b:Option AG}:(Heap.put H l k b).length=H.length:=by simp
def sW (left:List Int) (n:Int):Option (List Int×List Int):=if (left.length:Int)<n then none else some (left.take n.toNat,left.drop n.toNat)
def xE:List PanicEntry:=[{ v:=.iface 203 (.agg #[]),recovered:=false }]
def fu (left:List Int):AG:=.box [.sl 1 (List.map af left)]
theorem ajy (left:List Int) (n:Int) (hn:0<=n) (H:Heap) (l k:Nat) (hg:Heap.get H l k=some (fu left)):Dl Tryz.prog 134 [.ptr (l+1) k 0,.int .i64 n] H
  (fun v fr H'=>∃ r,sW left n=some r/\v=.sl 1 (List.map af r.1)/\fr=[]/\H'=Heap.put H l k (some (fu r.2)))
  (fun ch H'=>sW left n=none/\ch=xE/\H'=H):=by
 refine Dl.gr AB (fn:=Tryz.f134) (sc:=Fk.c) (by rfl) (by rfl) (by decide +kernel) (by rfl) (by decide +kernel) (Nat.le_of_ble_eq_true rfl) ?_ ?_ ?_
 ·refine rS ?_
  simp only[fu]at hg ⊢
  simp only[Fk.c,dS,hg,go_sem]
  refine Ie (fun hc=>?_) (fun hc=>?_)
  ·simp only[go_sem]
   refine Ic ?_
   intro fm ts u hu
   cases hu with
   |agg cs vs h1 h2 h3=>
    have:vs=#[]:=Array.eq_empty_of_size_eq_zero (by simpa using h1.symm)
    subst this
    exact⟨by unfold sW;rw[if_pos (by simpa using hc)],rfl,rfl⟩
  ·have ae:¬ (left.length:Int)<n:=by simpa using hc
   have h1:cg left 0 n=some (left.take n.toNat):=by unfold cg;rw[if_pos (by omega)];simp
   have h2:cg left n left.length=some (left.drop n.toNat):=by
    unfold cg;rw[if_pos (by omega)];simp only[Cn,oE]
    apply CF;simp
   have e1:=afd af h1
   have e2:=xJ af h2
   simp only[go_sem]at e1 e2
   simp only[aaG h1,sU h2,e1,e2,dS,ahZ,hg,Nat.add_one_ne_zero,go_sem]
   refine GK (.inl rfl) (y0:=.sl 1 (List.map af (left.take n.toNat))) ?_ ?_
   ·simp only[Fk.rs,b9,Ae,aaG h1,sU h2,e1,e2,go_sem]
   ·exact⟨_,by unfold sW;rw[if_neg ae],rfl,rfl,by simp only[fu,aaG h1,sU h2,e1,e2,go_sem]⟩
 ·rintro y fr H' ⟨r,_,_,_,rfl⟩;simp
 ·rintro ch H' ⟨_,_,rfl⟩;rfl
def aca (k:Nat) (l:List Int):(Int×Int)->Option (AT (Int×Int) Int Unit):=fun(s:Int×Int)=>match s with
 |(out,i)=>
  bif decide (i<(l.length:Int)) then
   (at? l i).bind fun x=>
   some (.next (fZ .i64 (ab (out*2 ^ 8)) (ab x),ab (i+1)))
  else some (.brk out)
def j7 (k:Nat) (left:List Int) (n:Int):Option (Option (Int×List Int)):=
 match sW left n with
 |none=>some none
 |some r=>(aj (aca k r.1) k (0,0)).bind fun q=>match q with
  |.brk out=>some (some (out,r.2))
  |_=>none
def acb (l:List Int) (H:Heap):(Int×Int)->St:=fun(s:Int×Int)=>match s with
 |(out,i)=>⟨[(5,.int .i64 out),(10,.sl 1 (List.map af l)),(11,.int .i64 (l.length:Int)),(12,.int .i64 i)],[],H,1,Tryz.f133.ntmps⟩
def aeJ (H:Heap):Int->St:=fun(out:Int)=>⟨[(5,.int .i64 out)],[],H,1,Tryz.f133.ntmps⟩
theorem sI (k0:Nat) (left:List Int) (n:Int) (r:Option (Int×List Int)) (h0:j7 k0 left n=some r) (hn:0<=n) (H:Heap) (l k:Nat) (hg:Heap.get H l k=some (fu left)):Dl Tryz.prog 133 [.ptr (l+1) k 0,.int .i64 n] H
  (fun v fr H'=>∃ x,r=some x/\v=.int .i64 x.1/\fr=[]/\H'=Heap.put H l k (some (fu x.2)))
  (fun ch H'=>r=none/\ch=xE/\H'=H):=by
 refine Dl.gr AB (fn:=Tryz.f133) (sc:=DQ.c) (by rfl) (by rfl) (by decide +kernel) (by rfl) (by decide +kernel) (Nat.le_of_ble_eq_true rfl) ?_ ?_ ?_
 ·refine rS ?_
  simp only[DQ.c,go_sem]
  refine C9 (ajy left n hn _ (l+1) k (by simpa only [dS] using hg)) ?_ ?_
  ·rintro y fr H' ⟨q,hq,rfl,rfl,rfl⟩
   refine rS ?_
   unfold j7 at h0
   rw[hq]at h0
   simp only at h0
   obtain⟨r6,yr6,h0⟩:=bs h0
   simp only[ahZ,go_sem]
   refine Bf yr6 (acb q.1 (Heap.put H l k (some (fu q.2)))) (aeJ (Heap.put H l k (some (fu q.2)))) ?_ ?_ ?_
   ·refine Ai.go [5,10,11,12] [] rfl ?_
    try simp only[acb,go_sem]
   ·rintro⟨i1,i2⟩ cP Bl Bm h1 aH aF bL
    refine rS ?_
    simp only[aca]at h1
    try simp only[DQ.s0,acb,go_sem]
    refine AR h1 (fun c4 h1=>?_) (fun c4 h1=>?_)
    ·try simp only[c4,(@id (min (Int.toNat 8) 64=8) rfl),go_sem]
     obtain⟨x5,cE,h1⟩:=bs h1
     try simp only[aC cE,aE af cE,c4,go_sem]
     refine AD (aH _ _ (oi h1).symm ?_)
     refine Ai.go [5,10,11,12] [] rfl ?_
     try simp only[acb,c4,aC cE,aE af cE,go_sem]
    ·try simp only[c4,go_sem]
     refine AD (aF _ _ (oi h1).symm ?_)
     refine Ai.go [5] [] rfl ?_
     try simp only[aeJ,c4,go_sem]
   ·rintro out aI
    subst aI
    simp only at h0
    refine rS ?_
    try simp only[aeJ,go_sem]
    refine GK (.inl rfl) (y0:=.int .i64 out) ?_ ?_
    ·simp only[DQ.rs,b9,Ae,go_sem]
    ·exact⟨_,(oi h0).symm,rfl,rfl,rfl⟩
  ·rintro ch H' ⟨hq,rfl,rfl⟩
   unfold j7 at h0
   rw[hq]at h0
   exact⟨(oi h0).symm,rfl,rfl⟩
 ·rintro y fr H' ⟨r,_,_,_,rfl⟩;simp
 ·rintro ch H' ⟨_,_,rfl⟩;rfl
theorem amw (px pl pi:Value) (w:World):
  CallsD Tryz.prog 132 #[px,pl,pi] .returning w fun e u' w'=>e=.returned (.tuple #[])/\u'=.returning/\w'=w:=by
 have zx:∀ w,(binOp .neq 20 .nilIface .nilIface).run Tryz.prog w=.ok (.bool false) w:=fun _=>by rfl
 have j3:Tryz.f132.ntmps=18:=by rfl
 refine callsD_of_wpS (fn:=Tryz.f132) (by rfl) (by rfl) fun agH cs hu=>?_
 apply wpS_seq
 apply wpS_region
 simp[wpOpsS,go_sem,recoverD,hu,j3,Exit.thenS]
 apply wpS_seq
 apply wpS_region
 simp[wpOpsS,go_sem,zx,Exit.thenS]
 refine wpS_cond (t:=false) (by simp[Act.eval,Array.replicate]) ?_
 simp only[C6,if_false]
 refine wpS_of_wp (wp_skip ?_)
 cases agH
 simp_all [bodyPostS,results,(show Tryz.f132.results=#[] from rfl)]
def pM:List AV:=[.int .i64 0,.int .i64 0,.int .i64 0,.int .i64 0,.int .i64 0,.int .i64 0,.int .i64 0,.str ByteArray.empty]
def G9.r5:SC:=
 RG [oQ 17 (.build 29 #[]) 29,wS 29 0 17 [0,17],⟨none,.store 82 (.tmp 1) (.const (.slice none 0 0)),0,none,[1]⟩,⟨none,.store 4 (.tmp 2) (.const (.bool false)),0,none,[2]⟩]
theorem amv {N0:Nat}{W0:World}{fm:FM}{ts:List Al}{fr:Au}{low:Heap}{w:World} (hr:HR N0 W0 fm ts (fr::low) w) {px pl pi:Value}{kx kl ki:Nat}{c8:List AV}{cl ci:AV}
  (oU:VR fm ts (.ptr 0 kx 0) px) (hl:VR fm ts (.ptr 0 kl 0) pl) (hi:VR fm ts (.ptr 0 ki 0) pi) (gx:look fr kx=some (.box c8)) (h8:c8.length=8) (gl:look fr kl=some (.box [cl])) (gi:look fr ki=some (.box [ci])) (n1:kx≠kl) (n2:kx≠ki) (n3:kl≠ki):
  CallsD Tryz.prog 132 #[px,pl,pi] (.panicking xE) w fun e u' w'=>e=.returned (.tuple #[])/\u'=.panicking [{ v:=.iface 203 (.agg #[]),recovered:=true }]/\
   ∃ fm' ts' aT,HR N0 W0 fm' ts' (aT::low) w'/\AM N0 fm fm'/\As ts ts'/\(∀ l k,tb ts l k=none->tb ts' l k=none)/\look aT kx=some (.box pM)/\look aT kl=some (.box [.nil])/\look aT ki=some (.box [.bool false]):=by
 have zx:∀ w,(binOp .neq 20 (.iface 203 (.agg #[])) .nilIface).run Tryz.prog w=.ok (.bool true) w:=fun _=>by rfl
 have hta:∀ w,(Instr.typeAssert (.iface 203 (.agg #[])) 20 203 true).run Tryz.prog w=.ok (.tuple #[.agg #[],.bool true]) w:=fun _=>by rfl
 have j3:Tryz.f132.ntmps=18:=by rfl
 refine callsD_of_wpS (fn:=Tryz.f132) (by rfl) (by rfl) fun agH cs hu=>?_
 apply wpS_seq
 apply wpS_region
 simp[wpOpsS,go_sem,recoverD,hu,j3,xE,Exit.thenS]
 apply wpS_seq
 apply wpS_region
 simp[wpOpsS,go_sem,zx,Exit.thenS]
 refine wpS_cond (t:=true) (by simp[Act.eval,Array.replicate]) ?_
 simp only[if_true]
 apply wpS_seq
 apply wpS_seq
 apply wpS_region
 simp[wpOpsS,go_sem,hta,Exit.thenS]
 apply wpS_seq
 apply wpS_region
 simp[wpOpsS,go_sem,Exit.thenS]
 refine wpS_cond (t:=false) (by simp[Act.eval,Array.replicate]) ?_
 simp only[C6,if_false]
 refine wpS_of_wp (wp_skip ?_)
 simp only[Exit.thenS]
 refine wpS_of_wp ?_
 refine(xO []).1 ?_
 have hd8:List.drop 8 c8=[]:=by simp[h8]
 have anU:(8<=c8.length)=True:=by simp[h8]
 have eo:HR N0 W0 fm ts (fr::low) (w.alloc (.cells #[] 203)):=hr.world (fun i hi=>heap_alloc_old w _ hi) ((Below.refl N0 w).alloc hr.size _)
 refine AK.last (N0:=N0) (W0:=W0) (Φ:=fun e aq=>e=.normal/\∃ aT,aq.low=aT::low/\look aT kx=some (.box pM)/\look aT kl=some (.box [.nil])/\look aT ki=some (.box [.bool false]))
  (st:=⟨[(0,.ptr 1 kx 0),(1,.ptr 1 kl 0),(2,.ptr 1 ki 0)],[],fr::low,0,18⟩) (n:=18) (s:=G9.r5) (fm:=fm) (ts:=cS::ts) ?_ ?_ (by rfl) (by rfl) ?_
 ·refine⟨eo.push,?_,fun _ _=>rfl,by simp,rfl,fun _ _ h=>by cases h⟩
  intro t x hx
  simp only[look]at hx
  split at hx
  ·subst_vars;obtain rfl:=oi hx;exact⟨px,by simp,oU.sh 1 (by simp)⟩
  ·split at hx
   ·subst_vars;obtain rfl:=oi hx;exact⟨pl,by simp,hl.sh 1 (by simp)⟩
   ·split at hx
    ·subst_vars;obtain rfl:=oi hx;exact⟨pi,by simp,hi.sh 1 (by simp)⟩
    ·cases hx
 ·refine rS ?_
  simp only[G9.r5,gx,gl,gi,sF,n1,n2,n3,n1.symm,n2.symm,n3.symm,hd8,anU,Co,if_true,if_false,go_sem]
  exact⟨rfl,_,rfl,by simp[sF,n1,n2,n3,n1.symm,n2.symm,n3.symm,pM],by simp[sF,n1,n2,n3,n1.symm,n2.symm,n3.symm],by simp[sF]⟩
 ·rintro e aq a' w' fm' ts' ⟨rfl,aT,h1,h2,h3,h4⟩ hS hL
  cases ts' with
  |nil=>have:=hS.hr.len;simp at this
  |cons t1 rest=>
   have hp:=hS.hr.pop
   rw[h1]at hp
   exact⟨hS.dP.1,_,rfl,.tuple #[],by simp[results,(show Tryz.f132.results=#[] from rfl)],rfl,rfl,fm',rest,aT,hp,hL.de,by simpa using hL.kd,by simpa using hL.no,h2,h3,h4⟩
def CT.c:SC:=
 SQ [RG [wA 2 29,wA 3 82,wA 4 4],RG [oQ 6 (.makeFunc (.func 132) #[] #[.tmp 2,.tmp 3,.tmp 4]) 1,⟨none,.defer ⟨.value (.tmp 6),#[],#[]⟩,0,none,[6]⟩],RG [wV 7 0 82 [0],oQ 8 (.build 207 #[(0,.tmp 7)]) 207 [7],oQ 9 (.box 207 (.tmp 8)) 205 [8],wG 5 9 205 [9]],RG [wV 10 5 205,wC 11 133 #[.tmp 10,.const (.int .i64 1)] #[205,3] 3 [10],wV 12 5 205,wC 13 133 #[.tmp 12,.const (.int .i64 2)] #[205,3] 3 [12],
 oQ 14 (.build 27 #[(0,.tmp 11),(1,.tmp 13)]) 27 [11,13],wF 15 29 2 0,wS 27 15 14 [14,15]],RG [wV 16 5 205,wC 17 133 #[.tmp 16,.const (.int .i64 1)] #[205,3] 3 [16],wF 18 29 2 1,wS 3 18 17 [17,18]],RG [wV 19 5 205,wC 20 133 #[.tmp 19,.const (.int .i64 4)] #[205,3] 3 [19],wF 21 29 2 2,wS 3 21 20 [20,21]],RG [wV 22 5 205,wC 23 133 #[.tmp 22,.const (.int .i64 4)] #[205,3] 3 [22],wF 24 29 2 3,
 wS 3 24 23 [23,24]],RG [wV 25 5 205,wC 26 133 #[.tmp 25,.const (.int .i64 1)] #[205,3] 3 [25],wV 27 5 205,wC 28 133 #[.tmp 27,.const (.int .i64 2)] #[205,3] 3 [27],oQ 29 (.build 27 #[(0,.tmp 26),(1,.tmp 28)]) 27 [26,28],wF 30 29 2 4,wS 27 30 29 [29,30]],RG [wV 31 5 205,wV 32 5 205,wC 33 133 #[.tmp 32,.const (.int .i64 1)] #[205,3] 3 [32],wW 34 134 31 33 205 3 82 [31,33],wY 35 82 9 34 9 [34],
 wF 36 29 2 5,wS 9 36 35 [35,36]],.aL [wD 37 29 2,wV 38 5 205,oQ 39 (.nilCheck (.tmp 38)) 0,wF 40 207 39 0,wD 41 82 40,wD 42 29 2,wU 43 95 42 29 4,wS 29 2 37,wS 82 3 41,wS 4 4 43] [[],[],[1],[1,2],[1,2,3],[],[5],[0,5,6],[1,2,3,4,0,5,6,7],[5,6,1,2,3,4,0,7,8]] [5,37,38,39,40,41,42,43],.ret]
theorem CT.rs:Tryz.f131.results.toList=[.cell 2 29,.cell 3 82,.cell 4 4]:=rfl
def SC.snd:SC->SC
 |.seq _ b=>b
 |x=>x
def SC.fst:SC->SC
 |.seq a _=>a
 |x=>x
def bh:Code->Code
 |.seq a _=>a
 |x=>x
def ah:Code->Code
 |.seq _ b=>b
 |x=>x
def CT.r0:SC:=
 CT.c.fst
def CT.rest:SC:=
 CT.c.snd.snd
def D5:Code:=Tryz.f131.body.getD .skip
def yo (k:Nat) (b:List Int):Option (Option (Ab×List Int)):=
 (j7 k b 1).bind fun q0=>match q0 with
 |none=>some none
 |some (ho,l0)=>
  (j7 k l0 2).bind fun q1=>match q1 with
  |none=>some none
  |some (no,l1)=>
   (j7 k l1 1).bind fun q2=>match q2 with
   |none=>some none
   |some (ki,l2)=>
    (j7 k l2 4).bind fun q3=>match q3 with
    |none=>some none
    |some (da,l3)=>
     (j7 k l3 4).bind fun q4=>match q4 with
     |none=>some none
     |some (kn,l4)=>
      (j7 k l4 1).bind fun q5=>match q5 with
      |none=>some none
      |some (oh,l5)=>
       (j7 k l5 2).bind fun q6=>match q6 with
       |none=>some none
       |some (on_,l6)=>
        (j7 k l6 1).bind fun q7=>match q7 with
        |none=>some none
        |some (m,l7)=>
         if 0<=m then match sW l7 m with
          |none=>some none
          |some (tx,l8)=>some (some (⟨⟨ho,no⟩,ki,da,kn,⟨oh,on_⟩,strOf tx⟩,l8))
         else none
def abi (k:Nat) (b:List Int):Option (Ab×List Int×Bool):=
 (yo k b).bind fun q=>match q with
 |none=>some (⟨⟨0,0⟩,0,0,0,⟨0,0⟩,ByteArray.empty⟩,[],false)
 |some (x,left)=>(pV k x).bind fun is=>some (x,left,is)
def agI (q:Option (Ab×List Int)) (is:Bool) (e:Exit) (st:St):Prop:=
 match q with
 |none=>e=.panic xE/\(look st.tm 2=some (.ptr 1 0 0)/\look st.tm 3=some (.ptr 1 16 0)/\look st.tm 4=some (.ptr 1 32 0))/\∃ fr c8 cl ci,st.low=[fr]/\look fr 0=some (.box c8)/\c8.length=8/\look fr 16=some (.box [cl])/\look fr 32=some (.box [ci])
 |some (x,left)=>e=.ret/\(∃ fr,st.low=[fr])/\hX T st [.cell 2 29,.cell 3 82,.cell 4 4]=some [.agg (Ab.c x),.sl 1 (List.map af left),.bool is]
def adr:Au:=[(0,.box pM),(16,.box [.loc 0 17 1 0 0 0]),(17,.arr 5 1 []),(32,.box [.bool false])]
def ads (b:List Int):St:=⟨[(0,.sl 1 (List.map af b)),(2,.ptr 0 0 0),(3,.ptr 0 16 0),(4,.ptr 0 32 0)],adr,[],48,Tryz.f131.ntmps⟩
def agJ (b:List Int):St:=⟨[(0,.sl 1 (List.map af b)),(2,.ptr 1 0 0),(3,.ptr 1 16 0),(4,.ptr 1 32 0)],[],[adr],0,Tryz.f131.ntmps⟩
theorem amB [Md] (k:Nat) (b:List Int) (q:Option (Ab×List Int)) (h0:yo k b=some q) (is:Bool) (his:∀ x left,q=some (x,left)->pV k x=some is):
  AK Tryz.prog Tryz.f131.ntmps (agI q is) [.sc CT.rest] (agJ b):=by
 unfold agJ adr pM
 refine rS ?_
 unfold yo at h0
 simp only[CT.rest,CT.c,SC.snd,go_sem]
 obtain⟨q0,yq0,h0⟩:=bs h0
 refine C9 (sI k b 1 q0 yq0 (by decide) _ 0 _ (by simp only[fu,go_sem])) ?_ ?_
 rotate_left
 ·rintro ch H ⟨rfl,rfl,rfl⟩
  obtain rfl:=oi h0
  exact⟨rfl,⟨rfl,rfl,rfl⟩,_,_,_,_,rfl,rfl,rfl,rfl,rfl⟩
 rintro y fr H ⟨⟨ho,l0⟩,rfl,rfl,rfl,rfl⟩
 refine rS ?_
 simp only at h0
 simp only[fu,go_sem]
 obtain⟨q1,yq1,h0⟩:=bs h0
 refine C9 (sI k l0 2 q1 yq1 (by decide) _ 0 _ (by simp only[fu,go_sem])) ?_ ?_
 rotate_left
 ·rintro ch H ⟨rfl,rfl,rfl⟩
  obtain rfl:=oi h0
  exact⟨rfl,⟨rfl,rfl,rfl⟩,_,_,_,_,rfl,rfl,rfl,rfl,rfl⟩
 rintro y fr H ⟨⟨no,l1⟩,rfl,rfl,rfl,rfl⟩
 refine rS ?_
 simp only at h0
 simp only[fu,go_sem]
 obtain⟨q2,yq2,h0⟩:=bs h0
 refine C9 (sI k l1 1 q2 yq2 (by decide) _ 0 _ (by simp only[fu,go_sem])) ?_ ?_
 rotate_left
 ·rintro ch H ⟨rfl,rfl,rfl⟩
  obtain rfl:=oi h0
  exact⟨rfl,⟨rfl,rfl,rfl⟩,_,_,_,_,rfl,rfl,rfl,rfl,rfl⟩
 rintro y fr H ⟨⟨ki,l2⟩,rfl,rfl,rfl,rfl⟩
 refine rS ?_
 simp only at h0
 simp only[fu,go_sem]
 obtain⟨q3,yq3,h0⟩:=bs h0
 refine C9 (sI k l2 4 q3 yq3 (by decide) _ 0 _ (by simp only[fu,go_sem])) ?_ ?_
 rotate_left
 ·rintro ch H ⟨rfl,rfl,rfl⟩
  obtain rfl:=oi h0
  exact⟨rfl,⟨rfl,rfl,rfl⟩,_,_,_,_,rfl,rfl,rfl,rfl,rfl⟩
 rintro y fr H ⟨⟨da,l3⟩,rfl,rfl,rfl,rfl⟩
 refine rS ?_
 simp only at h0
 simp only[fu,go_sem]
 obtain⟨q4,yq4,h0⟩:=bs h0
 refine C9 (sI k l3 4 q4 yq4 (by decide) _ 0 _ (by simp only[fu,go_sem])) ?_ ?_
 rotate_left
 ·rintro ch H ⟨rfl,rfl,rfl⟩
  obtain rfl:=oi h0
  exact⟨rfl,⟨rfl,rfl,rfl⟩,_,_,_,_,rfl,rfl,rfl,rfl,rfl⟩
 rintro y fr H ⟨⟨kn,l4⟩,rfl,rfl,rfl,rfl⟩
 refine rS ?_
 simp only at h0
 simp only[fu,go_sem]
 obtain⟨q5,yq5,h0⟩:=bs h0
 refine C9 (sI k l4 1 q5 yq5 (by decide) _ 0 _ (by simp only[fu,go_sem])) ?_ ?_
 rotate_left
 ·rintro ch H ⟨rfl,rfl,rfl⟩
  obtain rfl:=oi h0
  exact⟨rfl,⟨rfl,rfl,rfl⟩,_,_,_,_,rfl,rfl,rfl,rfl,rfl⟩
 rintro y fr H ⟨⟨oh,l5⟩,rfl,rfl,rfl,rfl⟩
 refine rS ?_
 simp only at h0
 simp only[fu,go_sem]
 obtain⟨q6,yq6,h0⟩:=bs h0
 refine C9 (sI k l5 2 q6 yq6 (by decide) _ 0 _ (by simp only[fu,go_sem])) ?_ ?_
 rotate_left
 ·rintro ch H ⟨rfl,rfl,rfl⟩
  obtain rfl:=oi h0
  exact⟨rfl,⟨rfl,rfl,rfl⟩,_,_,_,_,rfl,rfl,rfl,rfl,rfl⟩
 rintro y fr H ⟨⟨on_,l6⟩,rfl,rfl,rfl,rfl⟩
 refine rS ?_
 simp only at h0
 simp only[fu,go_sem]
 obtain⟨q7,yq7,h0⟩:=bs h0
 refine C9 (sI k l6 1 q7 yq7 (by decide) _ 0 _ (by simp only[fu,go_sem])) ?_ ?_
 rotate_left
 ·rintro ch H ⟨rfl,rfl,rfl⟩
  obtain rfl:=oi h0
  exact⟨rfl,⟨rfl,rfl,rfl⟩,_,_,_,_,rfl,rfl,rfl,rfl,rfl⟩
 rintro y fr H ⟨⟨m,l7⟩,rfl,rfl,rfl,rfl⟩
 refine rS ?_
 simp only at h0
 simp only[fu,go_sem]
 split at h0
 ·rename_i hm
  refine C9 (ajy l7 m hm _ 0 _ (by simp only[fu,go_sem])) ?_ ?_
  rotate_left
  ·rintro ch H ⟨hq,rfl,rfl⟩
   rw[hq]at h0
   obtain rfl:=oi h0
   exact⟨rfl,⟨rfl,rfl,rfl⟩,_,_,_,_,rfl,rfl,rfl,rfl,rfl⟩
  rintro y fr H ⟨⟨tx,l8⟩,hq,rfl,rfl,rfl⟩
  rw[hq]at h0
  obtain rfl:=oi h0
  refine rS ?_
  simp only[fu,adj,aju,go_sem]
  refine AL AB aQ 1000 ?_
  simp only[go_sem]
  refine vQ (adb k ⟨⟨ho,no⟩,ki,da,kn,⟨oh,on_⟩,strOf tx⟩ is (his _ _ rfl)) ?_ ?_
  ·try simp only[go_sem]
  try simp only[go_sem]
  refine aK ?_
  try simp only[go_sem]
  exact⟨rfl,⟨_,rfl⟩,by simp only[go_sem]⟩
 ·cases h0
theorem alP (k:Nat) (b:List Int) (r:Ab×List Int×Bool) (h0:abi k b=some r):Ay Tryz.prog 131 [.sl 1 (List.map af b)] (fun y=>y=.ar [.agg (Ab.c r.1),.sl 1 (List.map af r.2.1),.bool r.2.2]):=by
 obtain⟨q,hq,h0⟩:=bs h0
 obtain⟨is,his⟩:∃ is,∀ x left,q=some (x,left)->pV k x=some is/\r=(x,left,is):=by
  cases q with
  |none=>exact⟨false,by rintro x left h;cases h⟩
  |some p=>
   obtain⟨x,left⟩:=p
   simp only at h0
   obtain⟨is,h1,h0⟩:=bs h0
   refine⟨is,fun x' aso h=>?_⟩
   simp only[oE,Prod.mk.injEq]at h
   obtain⟨rfl,rfl⟩:=h
   exact⟨h1,(oi h0).symm⟩
 have hrN:q=none->r=(⟨⟨0,0⟩,0,0,0,⟨0,0⟩,ByteArray.empty⟩,[],false):=by rintro rfl;exact(oi h0).symm
 refine Ay.nlr ⟨⟨Tryz.f131,by rfl,by rfl,by rfl⟩,fun fm w vs bC hv=>?_⟩
 have j3:Tryz.f131.ntmps=44:=by rfl
 refine calls_of_wp_defers (fn:=Tryz.f131) (c:=D5) (by rfl) (by rfl) ((xO []).1 ?_)
 have hS:=SR.enter (HR.nothing bC) (vs:=vs) (args:=[.sl 1 (List.map af b)]) (n:=Tryz.f131.ntmps) ⟨hv.1,fun i x v p q=>(hv.2 i x v p q).mono (AY.refl _) (As.nil _)⟩ (by rw[j3];simp)
 have e90:D5=.seq (bh D5) (.seq (bh (ah D5)) (ah (ah D5))):=by rfl
 rw[e90]
 refine(show K Tryz.prog _ [.code (.seq _ _)] .normal _ w from ?_)
 refine C3 ?_
 refine AK.seg (Φ:=fun _ _=>False) (B:=fun st=>st=ads b) (s:=CT.r0) hS ?_ (by rfl) (by rfl) ?_ (fun _ _ _ _ _ _ h=>h.elim)
 ·refine rS ?_
  simp only[CT.r0,CT.c,SC.fst,go_sem]
  exact rfl
 ·rintro aq a1 w1 ei dV rfl dC jS
  refine C3 ?_
  obtain⟨px,oU,vx⟩:=dC.tm 2 (.ptr 0 0 0) rfl
  obtain⟨pl,xb,vl⟩:=dC.tm 3 (.ptr 0 16 0) rfl
  obtain⟨pi,dY,vi⟩:=dC.tm 4 (.ptr 0 32 0) rfl
  obtain⟨p0,p1,q0,q1,e1⟩:∃ p0 p1 q0 q1,bh (ah D5)=.region 1 #[⟨some 6,.makeFunc (.func 132) #[] #[.tmp 2,.tmp 3,.tmp 4],1,p0,q0,none⟩,⟨none,.defer ⟨.value (.tmp 6),#[],#[]⟩,0,p1,q1,none⟩] false:=⟨_,_,_,_,rfl⟩
  rw[e1]
  refine FK ?_
  change K Tryz.prog _ (BG.ops _ [0,1]::_) .normal a1 w1
  have anK:a1.eval (.tmp 2)=px:=by simp[Act.eval,Array.getD_eq_getD_getElem?,oU]
  have anL:a1.eval (.tmp 3)=pl:=by simp[Act.eval,Array.getD_eq_getD_getElem?,xb]
  have anM:a1.eval (.tmp 4)=pi:=by simp[Act.eval,Array.getD_eq_getD_getElem?,dY]
  refine Fp rfl rfl ?_
  refine aat (w':=w1) (v:=.func (.func 132) #[] #[px,pl,pi]) (fun c h=>by cases h) ?_ ?_
  ·simp[execOp,Instr.makeFunc,anK,anL,anM]
  have ax:6<a1.tmps.size:=by rw[dC.size,j3];decide
  refine Fp rfl rfl ?_
  refine apC (w':=w1) (d:={ target:=.fn (.func 132) #[px,pl,pi],args:=#[] }) ?_ rfl ?_
  ·have he6:(a1.put (some 6) (.func (.func 132) #[] #[px,pl,pi])).eval (.tmp 6)=.func (.func 132) #[] #[px,pl,pi]:=by
    simp[Act.eval,Act.put,Array.getD_eq_getD_getElem?,ax]
   simp[execOp,resolve,he6,Deferred.ofValue]
  refine Iw ?_
  have ans:@SR lB w.heap.size w Tryz.f131.ntmps (ads b) (a1.put (some 6) (.func (.func 132) #[] #[px,pl,pi])) w1 ei dV:=by
   refine⟨dC.hr,fun t x hx=>?_,dC.nx,by rw[aaz];exact dC.size,by rw[xw];exact dC.dP⟩
   obtain⟨v,h1,h2⟩:=dC.tm t x hx
   have ht6:6≠t:=by rintro rfl;simp[ads,look]at hx
   exact⟨v,by simp only[Act.put];rw[Array.getElem?_setIfInBounds,if_neg ht6];exact h1,h2⟩
  have eZ:=SR.deep (tm':=[(0,.sl 1 (List.map af b)),(2,.ptr 1 0 0),(3,.ptr 1 16 0),(4,.ptr 1 32 0)]) ans (by
   intro t x hx
   simp only[look]at hx
   split at hx
   ·subst_vars;obtain rfl:=oi hx;exact⟨_,rfl,rfl⟩
   ·split at hx
    ·subst_vars;obtain rfl:=oi hx;exact⟨_,rfl,rfl⟩
    ·split at hx
     ·subst_vars;obtain rfl:=oi hx;exact⟨_,rfl,rfl⟩
     ·split at hx
      ·subst_vars;obtain rfl:=oi hx;exact⟨_,rfl,rfl⟩
      ·cases hx)
  have iD:=SR.vR lB ⟨none,[{ target:=.fn (.func 132) #[px,pl,pi],args:=#[] }],fun _=>none⟩ eZ (a':=({ (a1.put (some 6) (.func (.func 132) #[] #[px,pl,pi])) with defers:={ target:=.fn (.func 132) #[px,pl,pi],args:=#[] }::(a1.put (some 6) (.func (.func 132) #[] #[px,pl,pi])).defers }.put none undef)) rfl (by
   have h1:=dC.dP.1
   have h2:(a1.put (some 6) (.func (.func 132) #[] #[px,pl,pi])).defers=[]:=by rw[xw];exact h1
   show _::_=_
   rw[h2]
   rfl)
  rw[FJ lB ⟨none,[{ target:=.fn (.func 132) #[px,pl,pi],args:=#[] }],fun _=>none⟩ rfl]
  refine @AK.last ⟨none,[{ target:=.fn (.func 132) #[px,pl,pi],args:=#[] }],fun _=>none⟩ _ _ _ _ _ _ _ _ _ _ (agI q is) _ CT.rest iD (@amB ⟨none,[{ target:=.fn (.func 132) #[px,pl,pi],args:=#[] }],fun _=>none⟩ k b q hq is (fun x left h=>(his x left h).1)) (by rfl) (by rfl) ?_
  intro e aq a' w' fm' ts' hE cJ hL
  obtain⟨s1,s2,s3,s4,s5⟩:=cJ
  have ue:a'.defers=[{ target:=.fn (.func 132) #[px,pl,pi],args:=#[] }]:=s5.1
  obtain⟨t1,rest,rfl⟩:∃ t1 rest,ts'=t1::rest:=by
   cases ts' with
   |nil=>have:=s1.len;simp at this
   |cons t1 rest=>exact⟨t1,rest,rfl⟩
  have ahY:=s1.pop
  have abT:As dV rest:=by simpa using hL.kd
  have bD:∀ l k,tb dV l k=none->tb rest l k=none:=by simpa using hL.no
  cases q with
  |none=>
   obtain⟨rfl,⟨g2,g3,g4⟩,fr,c8,cl,ci,jZ,gx,h8,gl,gi⟩:=hE
   rw[jZ]at ahY
   show Leaves Tryz.prog Tryz.f131 a'.tmps _ a'.defers (.panicking xE) w'
   rw[ue]
   have bw:∀ {x:AV}{v:Value},VR ei dV x v->VR fm' rest x v:=fun h=>h.mono hL.de.le abT
   refine leaves_cons (f:=132) (args:=#[px,pl,pi]) (by simp) (by simp[invoke,callFunc];rfl) ?_
   refine(amv ahY (bw vx) (bw vl) (bw vi) gx h8 gl gi (by decide) (by decide) (by decide)).mono ?_
   rintro e2 u' w2 ⟨rfl,rfl,dn,cK,fr2,mX,hf2,qF,qy,e1,e2,e3⟩
   have hr0:=hrN rfl
   subst hr0
   have ptr:∀ {t k:Nat},look aq.tm t=some (.ptr 1 k 0)->∃ v,a'.tmps[t]?=some v/\VR dn cK (.ptr 0 k 0) v:=by
    intro t k ht
    obtain⟨v,h1,h2⟩:=s2 t _ ht
    exact⟨v,h1,(h2.un 1 (y:=.ptr 0 k 0) rfl).mono hf2.le qF⟩
   have hSf:@SR lB w.heap.size w Tryz.f131.ntmps ⟨[(2,.ptr 0 0 0),(3,.ptr 0 16 0),(4,.ptr 0 32 0)],fr2,[],48,Tryz.f131.ntmps⟩ { a' with defers:=[] } w2 dn cK:=by
    refine @SR.mk lB _ _ _ _ _ _ _ _ mX ?_ (fun k hk=>qy 0 k (bD 0 k (dC.nx k hk))) s4 ⟨rfl,fun _ _ h=>by cases h⟩
    intro t x hx
    simp only[look]at hx
    split at hx
    ·subst_vars;obtain rfl:=oi hx;exact ptr g2
    ·split at hx
     ·subst_vars;obtain rfl:=oi hx;exact ptr g3
     ·split at hx
      ·subst_vars;obtain rfl:=oi hx;exact ptr g4
      ·cases hx
   obtain⟨v,h1,h2⟩:=sR (P:=Tryz.prog) (fn:=Tryz.f131) (xs:=[.agg pM,.nil,.bool false]) AB hSf (by
    rw[CT.rs]
    simp only[pM]at e1
    simp only[pM,e1,e2,e3,go_sem])
   refine⟨v,h1,v,.ar [.agg pM,.nil,.bool false],dn,rfl,?_,⟨mX.bP,mX.ej⟩,?_,?_,mX.dk⟩
   ·exact NL.uW (A7.cons (NL.refl _) (A7.cons (NL.nil _) (A7.cons (NL.refl _) A7.nil)))
   ·have:=h2.un cK.length (y:=.ar [.agg pM,.nil,.bool false]) rfl
    rwa [List.drop_length]at this
   ·exact(jS.de.trans hL.de).trans hf2
  |some p=>
   obtain⟨x,left⟩:=p
   obtain⟨rfl,⟨fr,jZ⟩,aef⟩:=hE
   show Leaves Tryz.prog Tryz.f131 a'.tmps _ a'.defers .returning w'
   rw[ue]
   refine leaves_cons (f:=132) (args:=#[px,pl,pi]) (by simp) (by simp[invoke,callFunc];rfl) ?_
   refine(amw px pl pi w').mono ?_
   rintro e2 u' w2 ⟨rfl,rfl,rfl⟩
   obtain⟨asc,rfl⟩:=his x left rfl
   have hSf:@SR lB w.heap.size w Tryz.f131.ntmps aq { a' with defers:=[] } w2 fm' (t1::rest):=@SR.mk lB _ _ _ _ _ _ _ _ s1 s2 s3 s4 ⟨rfl,fun _ _ h=>by cases h⟩
   obtain⟨v,h1,h2⟩:=sR (P:=Tryz.prog) (fn:=Tryz.f131) (xs:=[.agg (Ab.c x),.sl 1 (List.map af left),.bool is]) AB hSf (by rw[CT.rs];exact aef)
   refine⟨v,h1,v,.ar [.agg (Ab.c x),.sl 1 (List.map af left),.bool is],fm',rfl,.refl _,⟨s1.bP,s1.ej⟩,?_,?_,s1.dk⟩
   ·have:=h2.un (t1::rest).length (y:=.ar [.agg (Ab.c x),.sl 1 (List.map af left),.bool is]) (by simp only[b9,AV.un,AV.gz,(ajW.sv x).un,A0])
    rwa [List.drop_length]at this
   ·exact jS.de.trans hL.de
def Dw.s1:SC:=
 SQ [RG [wO 76 .lss 3 75 74 3 0],CN 76 .skip (.exit 2),.block 3 (SQ [RG [wV 77 75 3,wI 78 97 73 75,wD 79 105 78 [78],wA 19 105,wG 18 77 3 [77],wS 105 19 79 [79]],.aL [wV 80 0 99,wV 81 1 3,wV 82 2 3,wV 83 18 3,wO 84 .add 3 82 83 3 3,wC 85 102 #[.tmp 80,.tmp 81,.tmp 84] #[99,3,3] 105,wD 86 105 19,wO 87 .neq 105 85 86 105 4] [[],[],[],[],[2,3],[0,1,2,3,4],[],[0,1,2,3,4,5,6]] [18,19,80,81,82,83,84,
 85,86],CN 87 (SQ [RG [oQ 88 (.build 29 #[]) 29,wS 29 8 88 [88],wN 9 0 3,wN 10 0 3],.ret]) .skip]),RG [wK 89 .add 3 75 1 3 3 [75],wV 75 89 3 [89]]]
def Dw.s0:SC:=
 SQ [RG [wO 43 .lss 3 42 41 3 4],CN 43 .skip (.exit 0),.block 1 (SQ [RG [wV 44 42 3,wG 13 44 3 [44]],RG [wV 45 0 99,wV 46 1 3,wV 47 2 3,wV 48 13 3 [13],wO 49 .add 3 47 48 3 3 [47,48],wC 50 102 #[.tmp 45,.tmp 46,.tmp 49] #[99,3,3] 105 [45,46,49],wA 14 105,wS 105 14 50 [50]],RG [wV 51 12 82 [12],oQ 52 (.slice 105 (.tmp 14) (some (.const (.int .i64 8))) (some (.const (.int .i64 31))) none) 82 [14],
 wP 53 51 52 82 82 82 [51,52],wG 12 53 82 [53]]]),RG [wK 54 .add 3 42 1 3 3 [42],wV 42 54 3 [54]]]
def Dw.c:SC:=
 SQ [RG [wA 8 29,wN 9 0 3 [9],wN 10 0 3 [10]],SQ [RG [wV 20 2 3,wK 21 .geq 3 20 602 3 4 [20]],CN 21 (SQ [RG [oQ 22 (.build 29 #[]) 29,wS 29 8 22 [22],wN 9 0 3,wN 10 0 3],.ret]) .skip],RG [wV 23 0 99,wV 24 1 3,wV 25 2 3,wC 26 102 #[.tmp 23,.tmp 24,.tmp 25] #[99,3,3] 105 [23,24,25],wA 11 105,wS 105 11 26 [26]],.aL [wD 27 105 11,wU 28 103 27 105 3,wJ 29 105 11 7,wD 30 5 29,wY 31 5 3 30 3,wG 9 28 3,
 wG 10 31 3] [[],[0],[],[2],[2,3],[0,1],[2,3,4,0,1,5]] [11,27,28,29,30,31],SQ [RG [wV 32 9 3,wK 33 .eql 3 32 0 3 4 [32],wV 34 33 4 [33],gd 34 false (wV 35 2 3),gd 34 false (wV 36 10 3),gd 34 false (wO 37 .add 3 35 36 3 3 [35,36]),gd 34 false (wK 38 .gtr 3 37 602 3 4 [37]),wT 39 34 38 4 [34,38]],CN 39 (SQ [RG [oQ 40 (.build 29 #[]) 29,wS 29 8 40 [40],wN 9 0 3,wN 10 0 3],.ret]) .skip],
 RG [oQ 12 (.assign (.const (.slice none 0 0))) 82],SQ [RG [wV 41 10 3,oQ 42 (.move (.const (.int .i64 0))) 3],.block 0 (.loop Dw.s0)],RG [wV 56 12 82 [12],wU 57 131 56 82 200 [56],wV 55 57 200 [57],wX 58 55 0 29,wX 59 55 1 82,wX 60 55 2 4 [55],wS 29 8 58 [58],wG 15 59 82 [15,59],wG 16 60 4 [60]],SQ [RG [wV 61 16 4 [16],wQ 62 61 4 [61]],CN 62 (SQ [RG [oQ 63 (.build 29 #[]) 29,wS 29 8 63 [63],
 wN 9 0 3,wN 10 0 3],.ret]) .skip],RG [wD 64 29 8,wV 65 3 3 [3],wV 66 9 3,wC 67 39 #[.tmp 64,.tmp 65,.tmp 66] #[29,3,3] 97 [64,65,66],wG 17 67 97 [67]],SQ [RG [wV 68 17 97,wL 69 68 97 3 [68],wV 70 10 3,wO 71 .neq 3 69 70 3 4 [69,70]],CN 71 (SQ [RG [oQ 72 (.build 29 #[]) 29,wS 29 8 72 [72],wN 9 0 3,wN 10 0 3],.ret]) .skip],SQ [RG [wV 73 17 97 [17],wL 74 73 97 3,
 oQ 75 (.move (.const (.int .i64 0))) 3],.block 2 (.loop Dw.s1)],RG [wD 90 29 8,wV 91 9 3 [9],wV 92 10 3 [10],wS 29 8 90 [90],wG 9 91 3 [91],wG 10 92 3 [92]],.ret]
def dA.b0 (k:Nat) (d0:az) (aW:Int) (aX:Int) (x4:Int):(Int×(List Int))->Option (AT (Int×(List Int)) ((List Int)) (Ab×Int×Int)):=fun s=>match s with
 |(i7,l8)=>
   bif decide (i7<ab x4) then
    (nm k d0 aW (ab (aX+i7))).bind fun cT=>
    (dN 1 l8 ((cT.l.drop 8).take 23)).bind fun fW=>
    some (.next (ab (i7+1),fW))
   else
    some (.brk l8)
def dA.b1 (k:Nat) (d0:az) (aW:Int) (aX:Int) (dt:(List (Aa 32 Int))):Int->Option (AT (Int) (Unit) (Ab×Int×Int)):=fun i18=>
 bif decide (i18<(dt.length:Int)) then
  (at? dt i18).bind fun eW=>
  (nm k d0 aW (ab (aX+i18))).bind fun n5=>
  bif (!(Aa.eq (fun(x y:Int)=>decide (x=y)) n5 eW)) then
   some (.ret ((⟨(⟨0,0⟩:Entry),0,0,0,(⟨0,0⟩:Entry),ByteArray.empty⟩:Ab),0,0))
  else
   some (.next (ab (i18+1)))
 else
  some (.brk ())
def dA.h0 (d0:az) (aW:Int) (aX:Int) (pj:Int) (x3:Int) (x4:Int):(Int×(List Int))->St:=fun s=>match s with
 |(i7,l8)=>⟨[(0,.aD 2 [az.c d0] 0 0),(1,.int .i64 aW),(2,.int .i64 aX),(3,.int .i64 pj),(8,.ptr 0 0 0),(9,.int .i64 x3),(10,.int .i64 (ab x4)),(12,.loc 0 1 1 0 l8.length l8.length),(41,.int .i64 (ab x4)),(42,.int .i64 i7)],[(0,.box ([.int .i64 0,.int .i64 0,.int .i64 0,.int .i64 0,.int .i64 0,.int .i64 0,.int .i64 0,.str ByteArray.empty])),(1,.arr 5 1 (List.map af l8))],[],2,Tryz.f127.ntmps⟩
def dA.x0 (d0:az) (aW:Int) (aX:Int) (pj:Int) (x3:Int) (x4:Int):(List Int)->St:=fun l9=>⟨[(0,.aD 2 [az.c d0] 0 0),(1,.int .i64 aW),(2,.int .i64 aX),(3,.int .i64 pj),(8,.ptr 0 0 0),(9,.int .i64 x3),(10,.int .i64 (ab x4)),(12,.loc 0 1 1 0 l9.length l9.length)],[(0,.box ([.int .i64 0,.int .i64 0,.int .i64 0,.int .i64 0,.int .i64 0,.int .i64 0,.int .i64 0,.str ByteArray.empty])),(1,.arr 5 1 (List.map af l9))],[],2,Tryz.f127.ntmps⟩
def dA.h1 (d0:az) (aW:Int) (aX:Int) (x3:Int) (x4:Int) (bJ:Ab×(List Int)×Bool) (dt:(List (Aa 32 Int))):Int->St:=fun i18=>⟨[(0,.aD 2 [az.c d0] 0 0),(1,.int .i64 aW),(2,.int .i64 aX),(8,.ptr 0 0 0),(9,.int .i64 x3),(10,.int .i64 (ab x4)),(73,.sl 32 (List.map (Aa.c (n:=32) af) dt)),(74,.int .i64 (dt.length:Int)),(75,.int .i64 i18)],[(0,.box ([.int .i64 bJ.1.At.Aq,.int .i64 bJ.1.At.No,.int .i64 bJ.1.Kind,.int .i64 bJ.1.Day,.int .i64 bJ.1.Bn,.int .i64 bJ.1.Of.Aq,.int .i64 bJ.1.Of.No,.str bJ.1.Text]))],[],1,Tryz.f127.ntmps⟩
def dA.x1 (x3:Int) (x4:Int) (bJ:Ab×(List Int)×Bool):Unit->St:=fun _=>⟨[(8,.ptr 0 0 0),(9,.int .i64 x3),(10,.int .i64 (ab x4))],[(0,.box ([.int .i64 bJ.1.At.Aq,.int .i64 bJ.1.At.No,.int .i64 bJ.1.Kind,.int .i64 bJ.1.Day,.int .i64 bJ.1.Bn,.int .i64 bJ.1.Of.Aq,.int .i64 bJ.1.Of.No,.str bJ.1.Text]))],[],1,Tryz.f127.ntmps⟩
def dA (k:Nat) (d0:az) (aW:Int) (aX:Int) (pj:Int):Option (Ab×Int×Int):=
 bif decide ((602:Int)<=aX) then
  some ((⟨(⟨0,0⟩:Entry),0,0,0,(⟨0,0⟩:Entry),ByteArray.empty⟩:Ab),0,0)
 else
  (nm k d0 aW aX).bind fun x2=>
  (pU k x2).bind fun x3=>
  (x2.at? 7).bind fun x4=>
  bif (!decide (x3=(0:Int))) then
   bif decide ((602:Int)<ab (aX+(ab x4))) then
    some ((⟨(⟨0,0⟩:Entry),0,0,0,(⟨0,0⟩:Entry),ByteArray.empty⟩:Ab),0,0)
   else
    (aj (dA.b0 k d0 aW aX x4) k (0,[])).bind fun r13=>match r13 with
    |.next _=>none
    |.ret v_=>some v_
    |.brk l9=>
     (abi k l9).bind fun bJ=>
     bif (!bJ.2.2) then
      some ((⟨(⟨0,0⟩:Entry),0,0,0,(⟨0,0⟩:Entry),ByteArray.empty⟩:Ab),0,0)
     else
      (ga k bJ.1 pj x3).bind fun dt=>
      bif (!decide ((dt.length:Int)=ab x4)) then
       some ((⟨(⟨0,0⟩:Entry),0,0,0,(⟨0,0⟩:Entry),ByteArray.empty⟩:Ab),0,0)
      else
       (aj (dA.b1 k d0 aW aX dt) k 0).bind fun r23=>match r23 with
       |.next _=>none
       |.ret v_=>some v_
       |.brk _=>
        some (bJ.1,x3,ab x4)
  else
   some ((⟨(⟨0,0⟩:Entry),0,0,0,(⟨0,0⟩:Entry),ByteArray.empty⟩:Ab),0,0)
theorem alR (k:Nat) (d0:az) (aW:Int) (aX:Int) (pj:Int) (r:Ab×Int×Int) (h0:dA k d0 aW aX pj=some r):Ay Tryz.prog 127 [.aD 2 [az.c d0] 0 0,.int .i64 aW,.int .i64 aX,.int .i64 pj] (fun y=>y=.ar [.agg (Ab.c r.1),.int .i64 r.2.1,.int .i64 r.2.2]):=by
 refine PB Tryz.f127 Dw.c [.cell 8 29,.tmp 9,.tmp 10] ?_
 simp only[dA]at h0
 try simp only[Dw.c,go_sem]
 refine AR h0 ?_ ?_<;>intro c1 h0<;>have F:=c1<;>try simp only[F,go_sem]
 obtain rfl:=oi h0
 refine Ag rfl ?_
 try simp only[F,go_sem]
 refine au h0 (vB k _ _ _) ?_ (fun x2 h0=>?_)<;>try simp only[F,go_sem]
 refine AL AB aQ 1000 ?_
 try simp only[F,go_sem]
 refine cz h0 (abj k _) ?_ (fun x3 h0=>?_)<;>try simp only[F,go_sem]
 obtain⟨x4,bS,h0⟩:=bs h0
 have iW:=Ap.bI fL (Ap.self gA x2) bS
 have jK:=iW.2
 try simp only[AA,Az,go_sem]at jK
 have F:=an (aw bS) (an jK F)
 try simp only[F,go_sem]
 refine aK ?_
 try simp only[F,go_sem]
 refine Bx F h0 ?_ ?_<;>intro F h0<;>try simp only[F,go_sem]
 refine AF F h0 ?_ ?_<;>intro F h0<;>try simp only[F,go_sem]
 obtain rfl:=oi h0
 refine Ag rfl ?_
 try simp only[F,go_sem]
 obtain⟨r13,arD,h0⟩:=bs h0
 refine Bf arD (dA.h0 d0 aW aX pj x3 x4) (dA.x0 d0 aW aX pj x3 x4) ?_ ?_ ?_
 refine Ai.go [0,1,2,3,8,9,10,12,41,42] [0,416] rfl ?_
 try simp only[dA.h0,F,go_sem]
 rintro⟨i7,l8⟩ cP Bl Bm h1 aH aF bL
 refine rS ?_
 simp only[dA.b0]at h1
 try simp only[Dw.s0,dA.h0,F,go_sem]
 refine AF F h1 ?_ ?_<;>intro F h1<;>try simp only[F,go_sem]
 refine au h1 (vB k _ _ _) ?_ (fun cT h1=>?_)<;>try simp only[F,go_sem]
 have F:=an (@id (Int.toNat 8=8) rfl) (an (@id (Int.toNat 31=31) rfl) (an (@id (bounds 32 (some (.int .i64 8)) (some (.int .i64 31))=some (8,31)) rfl) (an (@id (31 - 8=23) rfl) F)))
 try simp only[F,go_sem]
 obtain⟨fW,vm,h1⟩:=bs h1
 have akn:=gM af vm
 try simp only[F,go_sem]at akn
 have F:=an akn F
 try simp only[aic,F,go_sem]
 refine AD (aH _ _ (oi h1).symm (Ai.go [0,1,2,3,8,9,10,12,41,42] [0,1] rfl ?_))
 try simp only[dA.h0,F,go_sem]
 refine AD (aF _ _ (oi h1).symm (Ai.go [0,1,2,3,8,9,10,12] [0,1] rfl ?_))
 try simp only[dA.x0,F,go_sem]
 rintro l9 aI
 subst aI
 simp only at h0
 refine rS ?_
 try simp only[dA.x0,F,go_sem]
 refine zqT [1] h0 (alP k _) ?_ fun bJ h0=>?_<;>try simp only[F,go_sem]
 refine Bx F h0 ?_ ?_<;>intro F h0<;>try simp only[F,go_sem]
 obtain rfl:=oi h0
 refine Ag rfl ?_
 try simp only[F,go_sem]
 refine au h0 (abk k _ _ _) ?_ (fun dt h0=>?_)<;>try simp only[F,go_sem]
 refine Bx F h0 ?_ ?_<;>intro F h0<;>try simp only[F,go_sem]
 obtain rfl:=oi h0
 refine Ag rfl ?_
 try simp only[F,go_sem]
 obtain⟨r23,afB,h0⟩:=bs h0
 refine Bf afB (dA.h1 d0 aW aX x3 x4 bJ dt) (dA.x1 x3 x4 bJ) ?_ ?_ ?_
 refine Ai.go [0,1,2,8,9,10,73,74,75] [0] rfl ?_
 try simp only[dA.h1,F,go_sem]
 rintro i18 cP Bl Bm h1 aH aF bL
 refine rS ?_
 simp only[dA.b1]at h1
 try simp only[Dw.s1,dA.h1,F,go_sem]
 refine AF F h1 ?_ ?_<;>intro F h1<;>try simp only[F,go_sem]
 obtain⟨eW,ca,h1⟩:=bs h1
 have F:=an (aC ca) (an (aE (Aa.c (n:=32) af) ca) F)
 try simp only[F,go_sem]
 refine AL AB aQ 1000 ?_
 try simp only[F,go_sem]
 refine cz h1 (vB k _ _ _) ?_ (fun n5 h1=>?_)<;>try simp only[F,go_sem]
 refine aK ?_
 try simp only[F,go_sem]
 refine Bx F h1 ?_ ?_<;>intro F h1<;>try simp only[F,go_sem]
 obtain rfl:=bL _ (oi h1).symm
 simp only at h0
 obtain rfl:=oi h0
 refine Ag rfl ?_
 try simp only[F,go_sem]
 refine AD (aH _ _ (oi h1).symm (Ai.go [0,1,2,8,9,10,73,74,75] [0] rfl ?_))
 try simp only[dA.h1,F,go_sem]
 refine AD (aF _ _ (oi h1).symm (Ai.go [8,9,10] [0] rfl ?_))
 try simp only[dA.x1,F,go_sem]
 rintro _ aI
 subst aI
 simp only at h0
 refine rS ?_
 try simp only[dA.x1,F,go_sem]
 obtain rfl:=oi h0
 refine Ag rfl ?_
 try simp only[F,go_sem]
 obtain rfl:=oi h0
 refine Ag rfl ?_
 try simp only[F,go_sem]
end Go.Abs
namespace Go.Abs
open Go Go.Proofs Go.RowKit Go.Lib
def AP.s0:SC:=
 SQ [.block 1 (SQ [RG [wD 20 99 1,wD 21 3 2,wV 22 6 3,wV 23 7 3,wC 24 127 #[.tmp 20,.tmp 21,.tmp 22,.tmp 23] #[99,3,3,3] 195 [20,21,22,23],wV 19 24 195 [24],wX 25 19 0 29,wX 26 19 1 3,wX 27 19 2 3 [19],wA 8 29,wS 29 8 25 [25],wG 9 26 3 [26],wG 10 27 3 [27]],SQ [RG [wV 28 10 3,wK 29 .eql 3 28 0 3 4 [28],wV 30 29 4 [29],gd 30 false (wV 31 9 3),gd 30 false (wV 32 5 3 [5]),
 gd 30 false (wO 33 .lss 3 31 32 3 4 [31,32]),wT 34 30 33 4 [30,33]],CN 34 .ret .skip],RG [wD 36 40 4,wD 37 29 8,wW 38 70 36 37 40 29 133 [36,37],wV 35 38 133 [38],wX 39 35 0 40,wX 40 35 1 45 [35],wA 11 40,wS 40 11 39 [39],wG 12 40 45 [40]],SQ [RG [wV 41 12 45 [12],wK 42 .neq 45 41 0 45 4 [41],wV 43 42 4 [42],gd 43 false (wF 44 40 11 0),gd 43 false (wD 45 38 44 [44]),
 gd 43 false (wL 46 45 38 3 [45]),gd 43 false (wF 47 40 4 0),gd 43 false (wD 48 38 47 [47]),gd 43 false (wL 49 48 38 3 [48]),gd 43 false (wO 50 .eql 3 46 49 3 4 [46,49]),wT 51 43 50 4 [43,50]],CN 51 .ret .skip],RG [wD 52 40 11 [11],wV 53 9 3 [9],wV 54 6 3 [6],wV 55 10 3 [10],wO 56 .add 3 54 55 3 3 [54,55],wS 40 4 52 [52],wG 5 53 3 [53],wG 6 56 3 [56]],RG [wV 57 0 194,wD 58 29 8 [8],wV 59 6 3,
 oQ 60 (.call ⟨.value (.tmp 57),#[.tmp 58,.tmp 59],#[29,3]⟩) 4 [57,58,59],wQ 61 60 4 [60]],CN 61 .ret .skip]),RG [wV 17 7 3 [7],wK 18 .add 3 17 1 3 3 [17],wG 7 18 3 [18]]]
def AP.c:SC:=
 SQ [RG [wA 4 40],RG [wD 13 99 1,wD 14 3 2,wC 15 102 #[.tmp 13,.tmp 14,.const (.int .i64 0)] #[99,3,3] 105 [13,14],wU 16 103 15 105 3 [15],wG 5 16 3 [16],wN 6 1 3],RG [wN 7 0 3],.block 0 (.loop AP.s0)]
theorem AP.rs:Tryz.f126.results.toList=[]:=rfl
def ko.go (k:Nat) (d:az) (aV:Int):Nat->Ah->Int->Int->Int->Option (List (Ab×Int))
 |0,_,_,_,_=>none
 |m+1,j,ep,fr,i=>(dA k d aV fr i).bind fun q=>
  bif !decide (q.2.2=0) then
   bif decide (q.2.1<ep) then some [] else
   (rv k j q.1).bind fun b=>
   bif decide (b.2=0) then
    bif decide ((b.1.Aj.length:Int)=(j.Aj.length:Int)) then some [] else
    (ko.go k d aV m b.1 q.2.1 (ab (fr+q.2.2)) (ab (i+1))).bind fun l=>some ((q.1,ab (fr+q.2.2))::l)
   else some []
  else some []
def ko (k:Nat) (d:az) (aV:Int):Option (List (Ab×Int)):=
 (nm k d aV 0).bind fun h=>(pU k h).bind fun e=>ko.go k d aV k ⟨[]⟩ e 1 0
def xi (d:az) (aV:Int) (l:Nat) (ep fr i:Int):List (Nat×AV):=
 [(0,.fn (.yield l) [] []),(1,.aD 1 [[.aD 2 [az.c d] 0 0]] 0 0),(2,.aD 1 [[.int .i64 aV]] 0 0),(4,.ptr 0 0 0),(5,.int .i64 ep),(6,.int .i64 fr),(7,.int .i64 i)]
def aab (d:az) (aV:Int) (l:Nat) (C:Au) (j:Ah) (ep fr i:Int):St:=⟨xi d aV l ep fr i,[(0,.box (Ah.c j))],[C],1,Tryz.f126.ntmps⟩
def itY (d:az) (aV:Int) (l:Nat) (C:Au) (x:Ab) (j:Ah) (ep fr i:Int):St:=
 ⟨[(0,.fn (.yield l) [] []),(1,.aD 1 [[.aD 2 [az.c d] 0 0]] 0 0),(2,.aD 1 [[.int .i64 aV]] 0 0),(4,.ptr 0 0 0),(5,.int .i64 ep),(6,.int .i64 fr),(7,.int .i64 i),
  (57,.fn (.yield l) [] []),(58,.agg (Ab.c x)),(59,.int .i64 fr)],[(0,.box (Ah.c j))],[C],1,Tryz.f126.ntmps⟩
def AP.p0:SC:=
 AP.c.fst
def AP.p1:SC:=
 AP.c.snd.fst
def AP.p2:SC:=
 AP.c.snd.snd.fst
def SC.body:SC->SC
 |.block _ b=>b
 |x=>x
def SC.ro:SC->List An
 |.lF l=>l
 |_=>[]
def AP.x:SC:=
 AP.s0.fst.body
def AP.x4:SC:=
 AP.x.fst
def AP.x5:SC:=
 AP.x.snd.fst
def AP.x6:SC:=
 AP.x.snd.snd.fst
def AP.x7:SC:=
 AP.x.snd.snd.snd.fst
def AP.x8:SC:=
 AP.x.snd.snd.snd.snd.fst
def AP.x9:List An:=AP.x.snd.snd.snd.snd.snd.fst.ro.take 3

def AP.r3:SC:=
 AP.s0.snd
theorem aoN (k:Nat) (d:az) (aV:Int) (l:Nat) (C:Au) (e:Int) (h:Aa 32 Int) (h1:nm k d aV 0=some h) (h2:pU k h=some e) (Φ:Exit->St->Prop):
  AK Tryz.prog Tryz.f126.ntmps Φ [.sc AP.p0,.sc AP.p1,.sc AP.p2,.back (fun st=>Ai Tryz.f126.ntmps st (aab d aV l C ⟨[]⟩ e 1 0))]
   ⟨[(0,.fn (.yield l) [] []),(1,.aD 1 [[.aD 2 [az.c d] 0 0]] 0 0),(2,.aD 1 [[.int .i64 aV]] 0 0)],[],[C],0,Tryz.f126.ntmps⟩:=by
 refine rS ?_
 simp only[AP.p0,AP.p1,AP.p2,AP.c,SC.fst,SC.snd,go_sem]
 refine jL (vB k _ _ _ _ h1) ?_ ?_
 ·simp only[go_sem]
 simp only[go_sem]
 refine jL (abj k _ _ h2) ?_ ?_
 ·simp only[go_sem]
 simp only[go_sem]
 refine AD ?_
 refine(Ai.fz 1 rfl (fun _ h=>by cases h)).trans ?_
 simp only[go_sem]
 refine Ai.go [0,1,2,4,5,6,7] [0] rfl ?_
 simp only[xi,go_sem]
def itB (k:Nat) (d:az) (aV:Int) (l:Nat) (C:Au) (j:Ah) (ep fr i:Int) (st:St):Prop:=
 ∃ q b,dA k d aV fr i=some q/\decide (q.2.2=0)=false/\decide (q.2.1<ep)=false/\rv k j q.1=some b/\decide (b.2=0)=true/\
  decide ((b.1.Aj.length:Int)=(j.Aj.length:Int))=false/\Ai Tryz.f126.ntmps st (itY d aV l C q.1 b.1 q.2.1 (ab (fr+q.2.2)) i)
def itE (C:Au) (L:Prop) (e:Exit) (st:St):Prop:=e=.ret/\st.low=[C]/\L
theorem aoP (k:Nat) (d:az) (aV:Int) (l:Nat) (C:Au) (m:Nat) (j:Ah) (ep fr i:Int) (xs:List (Ab×Int)) (h0:ko.go k d aV (m+1) j ep fr i=some xs):
  AK Tryz.prog Tryz.f126.ntmps (itE C (xs=[])) [.sc AP.x4,.sc AP.x5,.sc AP.x6,.sc AP.x7,.sc AP.x8,.ops AP.x9,.back (itB k d aV l C j ep fr i)] (aab d aV l C j ep fr i):=by
 refine rS ?_
 simp only[ko.go]at h0
 simp only[aab,xi,AP.x4,AP.x5,AP.x6,AP.x7,AP.x8,AP.x9,AP.x,AP.s0,SC.fst,SC.snd,SC.body,SC.ro,List.take_succ_cons,List.take_zero,go_sem]
 obtain⟨q,yq,h0⟩:=bs h0
 refine jL (alR k _ _ _ _ _ yq) ?_ ?_
 ·simp only[go_sem]
 simp only[go_sem]
 refine AR h0 (fun c1 h0=>?_) (fun c1 h0=>?_)
 rotate_left
 ·have c1:=ac2 c1
  simp only[c1,go_sem]
  obtain rfl:=oi h0
  exact⟨rfl,rfl,rfl⟩
 have c1:=ac3 c1
 simp only[c1,go_sem]
 refine AR h0 (fun c2 h0=>?_) (fun c2 h0=>?_)
 ·simp only[c2,c1,go_sem]
  obtain rfl:=oi h0
  exact⟨rfl,rfl,rfl⟩
 simp only[c2,c1,go_sem]
 obtain⟨b,yb,h0⟩:=bs h0
 refine jL (ac7 k _ _ _ yb) ?_ ?_
 ·simp only[c1,c2,go_sem]
 simp only[c1,c2,go_sem]
 refine AR h0 (fun c3 h0=>?_) (fun c3 h0=>?_)
 rotate_left
 ·simp only[c3,c2,c1,go_sem]
  obtain rfl:=oi h0
  exact⟨rfl,rfl,rfl⟩
 simp only[c3,c2,c1,go_sem]
 refine AR h0 (fun c4 h0=>?_) (fun c4 h0=>?_)
 ·simp only[c4,c3,c2,c1,go_sem]
  obtain rfl:=oi h0
  exact⟨rfl,rfl,rfl⟩
 simp only[c4,c3,c2,c1,go_sem]
 refine AD ⟨q,b,yq,c1,c2,yb,c3,c4,?_⟩
 refine Ai.go [0,1,2,4,5,6,7,57,58,59] [0] rfl ?_
 simp only[go_sem]
def abo:Code->Code
 |.block _ b=>b
 |.loop b=>b
 |x=>x
def vO:Code->Array Oper
 |.region _ o _=>o
 |_=>#[]
def C1:Code:=Tryz.f126.body.getD .skip
def Dn:Code:=abo (abo (ah (ah (ah C1))))
def CA:Code:=abo (bh Dn)
def DN:Array Oper:=vO (bh (ah (ah (ah (ah (ah CA))))))
def Fz:Code:=ah (ah (ah (ah (ah (ah CA)))))
def AP.x9b:List An:=AP.x.snd.snd.snd.snd.snd.fst.ro.drop 4

def AP.z:SC:=
 AP.x.snd.snd.snd.snd.snd.snd
def YC (N0:Nat) (W1:World) (l:Nat) (tc:Al) (C:List (Ab×Int)->Au) (xs:List (Ab×Int)):Prop:=
 ∀ pre x,(pre++[x]) <+: xs->∀ (f:Au) fm ts w vs,HR N0 W1 fm ts [f,C pre] w->As [tc] (ts.drop 1)->Av fm ts [.agg (Ab.c x.1),.int .i64 x.2] vs->
  YieldAt FW 0 Tryz.prog l vs.toArray w fun e w'=>e=.returned (.bool true)/\∃ fm' ts',HR N0 W1 fm' ts' [f,C (pre++[x])] w'/\AM N0 fm fm'/\As ts ts'/\∀ l k,tb ts l k=none->tb ts' l k=none
def itZ (d:az) (aV:Int) (l:Nat) (C:Au) (j:Ah) (ep fr i:Int):St:=⟨(60,.bool true)::xi d aV l ep fr i,[(0,.box (Ah.c j))],[C],1,Tryz.f126.ntmps⟩
theorem aoQ (d:az) (aV:Int) (l:Nat) (C:Au) (j:Ah) (ep fr i:Int) (Φ:Exit->St->Prop):
  AK Tryz.prog Tryz.f126.ntmps Φ [.ops AP.x9b,.sc AP.z,.ao 1,.sc AP.r3,.back (fun st=>Ai Tryz.f126.ntmps st (aab d aV l C j ep fr (ab (i+1))))] (itZ d aV l C j ep fr i):=by
 refine rS ?_
 simp only[itZ,xi,AP.x9b,AP.z,AP.r3,AP.x,AP.s0,SC.fst,SC.snd,SC.body,SC.ro,List.drop_succ_cons,List.drop_zero,go_sem]
 refine AD ?_
 refine Ai.go [0,1,2,4,5,6,7] [0] rfl ?_
 simp only[xi,go_sem]
theorem aev {α:Type} (b:List (Nat×α)) {t:Nat}{x:α}:∀ {a:List (Nat×α)},look a t=some x->look (a++b) t=some x
 |[],h=>by simp[look]at h
 |(k,y)::a,h=>by
  simp only[Bg,look]at h ⊢
  split at h
  ·rename_i hk;rw[if_pos hk];exact h
  ·rename_i hk;rw[if_neg hk];exact aev b h
theorem aoO (k:Nat) (d:az) (aV:Int) (xs:List (Ab×Int)) (fH:ko k d aV=some xs) {N0:Nat}{W1:World}{l:Nat}{tc:Al}{C:List (Ab×Int)->Au} (hY:YC N0 W1 l tc C xs) {fm:FM}{w:World}{vd va:Value}
  (hr:HR N0 W1 fm [tc] [C []] w) (hd:VR fm [] (.aD 1 [[.aD 2 [az.c d] 0 0]] 0 0) vd) (ha:VR fm [] (.aD 1 [[.int .i64 aV]] 0 0) va):
  Calls Tryz.prog 126 #[.func (.yield l) #[] #[],vd,va] w fun e w'=>(∃ v,e=.returned v)/\∃ fm' ts',HR N0 W1 fm' ts' [C xs] w'/\AM N0 fm fm'/\As [tc] ts'/\∀ l k,tb [tc] l k=none->tb ts' l k=none:=by
 obtain⟨h,yh,fH⟩:=bs fH
 obtain⟨e,ye,fH⟩:=bs fH
 have j3:Tryz.f126.ntmps=62:=by rfl
 refine calls_of_wp (fn:=Tryz.f126) (c:=C1) (by rfl) (by rfl) ((xO []).1 ?_)
 have hyv:VR fm (cS::[tc]) (.fn (.yield l) [] []) (.func (.yield l) #[] #[]):=.fn _ _ _ _ _ rfl rfl (by intro i x v h;simp at h) (by intro i x v h;simp at h)
 have hS:=SR.enter hr (args:=[.fn (.yield l) [] [],.aD 1 [[.aD 2 [az.c d] 0 0]] 0 0,.aD 1 [[.int .i64 aV]] 0 0]) (vs:=[.func (.yield l) #[] #[],vd,va]) (n:=Tryz.f126.ntmps) (by
  refine⟨rfl,?_⟩
  intro i x v hx hv
  match i,hx,hv with
  |0,hx,hv=>cases hx;cases hv;exact hyv
  |1,hx,hv=>cases hx;cases hv;exact hd.mono (AY.refl _) (As.nil _)
  |2,hx,hv=>cases hx;cases hv;exact ha.mono (AY.refl _) (As.nil _)
  |i+3,hx,hv=>simp at hx) (by rw[j3];simp)
 have amY:C1=.seq (bh C1) (.seq (bh (ah C1)) (.seq (bh (ah (ah C1))) (.block 0 (.loop Dn)))):=by rfl
 refine(show K Tryz.prog _ [.code C1] .normal _ w from ?_)
 rw[amY]
 refine C3 ?_
 refine CM (t:=[.code (bh (ah C1)),.code (bh (ah (ah C1))),.code (.block 0 (.loop Dn))]) (fun e a w h=>CD _ _ _ (CM (fun e a w h=>CD _ _ _ h) _ _ _ h)) _ _ _ ?_
 refine AK.nV (cs:=[.code (bh C1),.code (bh (ah C1)),.code (bh (ah (ah C1)))]) (t:=[.code (.block 0 (.loop Dn))]) (Φ:=fun _ _=>False) (todo:=[.sc AP.p0,.sc AP.p1,.sc AP.p2]) hS (aoN k d aV l (C []) e h yh ye _)
  (fun R hR=>.sc (by rfl) (by rfl) (.sc (by rfl) (by rfl) (.sc (by rfl) (by rfl) (.back hR .nil)))) ?_ (fun _ _ _ _ _ _ h=>h.elim)
 rintro xH a0 w0 fm0 gv mj yU yQ
 obtain⟨ei,dV,dC,jS⟩:=mj _ _ _ _ _ _ yU
 refine Ec ?_
 refine FI (I:=fun m a w=>∃ pre ys j ep fr i fm' ts',ko.go k d aV m j ep fr i=some ys/\pre++ys=xs/\SR N0 W1 Tryz.f126.ntmps (aab d aV l (C pre) j ep fr i) a w fm' ts'/\A8 N0 fm (cS::[tc]) fm' ts') k
  ⟨[],xs,_,_,_,_,ei,dV,fH,rfl,dC,yQ.trans jS⟩ ?_
 rintro m a w2 ⟨pre,ys,j,ep,fr,i,dn,cK,dJ,abS,eZ,du⟩
 cases m with
 |zero=>simp only[ko.go]at dJ;cases dJ
 |succ m=>
  have eB:Dn=.seq (.block 1 CA) (ah Dn):=by rfl
  have eX:CA=.seq (bh CA) (.seq (bh (ah CA)) (.seq (bh (ah (ah CA))) (.seq (bh (ah (ah (ah CA)))) (.seq (bh (ah (ah (ah (ah CA))))) (.seq (.region 9 DN false) Fz))))):=by rfl
  rw[eB]
  refine C3 ?_
  refine Ec ?_
  rw[eX]
  refine C3 ?_
  refine CM (t:=[.code (bh (ah CA)),.code (bh (ah (ah CA))),.code (bh (ah (ah (ah CA)))),.code (bh (ah (ah (ah (ah CA))))),.ops DN [0,1,2],.ops DN [3,4],.code Fz,.ao 1,.code (ah Dn),.back _,.ao 0])
   (fun e a w h=>CD _ _ _ (CM (fun e a w h=>CD _ _ _ (CM (fun e a w h=>CD _ _ _ (CM (fun e a w h=>CD _ _ _ (CM (fun e a w h=>CD _ _ _ (Iy _ _ _ (Ix (is:=[0,1,2]) (js:=[3,4]) _ _ _ h))) _ _ _ h)) _ _ _ h)) _ _ _ h)) _ _ _ h)) _ _ _ ?_
  refine AK.nV (cs:=[.code (bh CA),.code (bh (ah CA)),.code (bh (ah (ah CA))),.code (bh (ah (ah (ah CA)))),.code (bh (ah (ah (ah (ah CA))))),.ops DN [0,1,2]]) (t:=[.ops DN [3,4],.code Fz,.ao 1,.code (ah Dn),.back _,.ao 0])
   (todo:=[.sc AP.x4,.sc AP.x5,.sc AP.x6,.sc AP.x7,.sc AP.x8,.ops AP.x9]) eZ (aoP k d aV l (C pre) m j ep fr i ys dJ)
   (fun R hR=>.sc (by rfl) (by rfl) (.sc (by rfl) (by rfl) (.sc (by rfl) (by rfl) (.sc (by rfl) (by rfl) (.sc (by rfl) (by rfl) (.ops (by rfl) (by decide +kernel) (by decide +kernel) (.back hR .nil))))))) ?_ ?_
  ·
   rintro st3 a3 w3 jf ke ⟨q,b,yq,c1,c2,yb,c3,c4,xg⟩ iD jT
   obtain⟨fm4,ts4,mf,wi⟩:=xg _ _ _ _ _ _ iD
   simp only[ko.go]at dJ
   rw[yq]at dJ
   simp only[Ae,c1,Bs,Am,c2,Ak,yb,c3,c4]at dJ
   obtain⟨ys',yys,dJ⟩:=bs dJ
   obtain rfl:=oi dJ
   obtain⟨v57,h57,r57⟩:=mf.tm 57 (.fn (.yield l) [] []) rfl
   obtain⟨v58,h58,r58⟩:=mf.tm 58 (.agg (Ab.c q.1)) rfl
   obtain⟨v59,h59,r59⟩:=mf.tm 59 (.int .i64 (ab (fr+q.2.2))) rfl
   obtain rfl:v57=.func (.yield l) #[] #[]:=by
    cases r57 with
    |fn f first cap vf vc h1 h2 h3 h4=>
     have e1:vf=#[]:=Array.size_eq_zero_iff.1 (by simpa using h1.symm)
     have e2:vc=#[]:=Array.size_eq_zero_iff.1 (by simpa using h2.symm)
     rw[e1,e2]
   obtain⟨fn,tmps,assign,body,bm,hR⟩:=hY pre (q.1,ab (fr+q.2.2)) ⟨ys',by rw[<-abS];simp⟩ _ fm4 ts4 w3 [v58,v59] mf.hr (by have:=((du.trans jT).trans wi).kd;simpa using this) ⟨rfl,by
    intro i x v hx hv
    match i,hx,hv with
    |0,hx,hv=>cases hx;cases hv;exact r58
    |1,hx,hv=>cases hx;cases hv;exact r59
    |i+2,hx,hv=>simp at hx⟩
   obtain⟨o3,e3,g3,d3⟩:∃ o,DN[3]?=some o/\o.guard=none/\o.op=.call ⟨.value (.tmp 57),#[.tmp 58,.tmp 59],#[29,3]⟩/\o.dst=some 60:=⟨_,rfl,rfl,rfl,rfl⟩
   refine Fp e3 g3 ?_
   have v57:a3.eval (.tmp 57)=.func (.yield l) #[] #[]:=by simp[Act.eval,Array.getD_eq_getD_getElem?,h57]
   have w58:a3.eval (.tmp 58)=v58:=by simp[Act.eval,Array.getD_eq_getD_getElem?,h58]
   have w59:a3.eval (.tmp 59)=v59:=by simp[Act.eval,Array.getD_eq_getD_getElem?,h59]
   refine apE (w':=w3) (l:=l) (fn:=fn) (tmps:=tmps) (assign:=assign) (body:=body) (fun c h=>by rw[d3.1]at h;cases h) ?_ ?_
   ·have aef:(resolve a3.eval ⟨.value (.tmp 57),#[.tmp 58,.tmp 59],#[29,3]⟩ o3.type).run Tryz.prog w3=.ok { target:=.fn (.yield l) #[],args:=#[v58,v59] } w3:=by
     simp[resolve,v57,w58,w59,Deferred.ofValue]
    simp only[execOp,d3.1,Sem.run_bind,aef,Result.andThen_ok]
    simpa [invoke] using bm
   refine hR.mono ?_
   rintro e w4 ⟨rfl,yG,ts5,hr5,ah8,ah4,ahT⟩
   rw[d3.2]
   have ua:SR N0 W1 Tryz.f126.ntmps (itZ d aV l (C (pre++[(q.1,ab (fr+q.2.2))])) b.1 q.2.1 (ab (fr+q.2.2)) i) (a3.put (some 60) (.bool true)) w4 yG ts5:=by
    refine⟨hr5,?_,fun k hk=>ahT 0 k (mf.nx k hk),by rw[aaz];exact mf.size,by rw[xw];exact mf.dP⟩
    intro t x hx
    unfold itZ at hx
    simp only[look]at hx
    split at hx
    ·subst_vars
     obtain rfl:=oi hx
     refine⟨.bool true,?_,.bool true⟩
     simp only[Act.put]
     rw[Array.getElem?_setIfInBounds,if_pos rfl,if_pos (by rw[mf.size,j3];decide)]
    ·rename_i bj
     have iy:look (itY d aV l (C pre) q.1 b.1 q.2.1 (ab (fr+q.2.2)) i).tm t=some x:=by
      exact aev [(57,.fn (.yield l) [] []),(58,.agg (Ab.c q.1)),(59,.int .i64 (ab (fr+q.2.2)))] hx
     obtain⟨u,h1,h2⟩:=mf.tm t x iy
     exact⟨u,by simp only[Act.put];rw[Array.getElem?_setIfInBounds,if_neg bj];exact h1,h2.mono ah8.le ah4⟩
   refine AK.nV (cs:=[.ops DN [4],.code Fz,.ao 1,.code (ah Dn)]) (t:=[.back _,.ao 0]) (Φ:=fun _ _=>False) (todo:=[.ops AP.x9b,.sc AP.z,.ao 1,.sc AP.r3]) ua (aoQ d aV l _ _ _ _ i _)
    (fun R hR=>.ops (by rfl) (by decide +kernel) (by decide +kernel) (.sc (by rfl) (by rfl) (.ao (.sc (by rfl) (by rfl) (.back hR .nil))))) ?_ (fun _ _ _ _ _ _ h=>h.elim)
   rintro st6 a6 w6 fm6 ts6 hw6 yV hL6
   obtain⟨fm7,ts7,ub,yS⟩:=hw6 _ _ _ _ _ _ yV
   have yR:A8 N0 fm4 ts4 yG ts5:=⟨ah8,ah4.drop 1,fun l k h=>by rw[fp]at h ⊢;exact ahT _ _ h⟩
   exact⟨m,Nat.lt_succ_self m,pre++[(q.1,ab (fr+q.2.2))],ys',b.1,q.2.1,_,_,fm7,ts7,yys,by rw[<-abS];simp,ub,((((du.trans jT).trans wi).trans yR).trans hL6).trans yS⟩
  ·
   rintro e st3 a3 w3 jf ke ⟨rfl,jZ,kJ⟩ iD jT
   refine Dz ?_ _
   obtain⟨v,h1,h2⟩:=sR (P:=Tryz.prog) (fn:=Tryz.f126) (xs:=[]) AB iD (by rw[AP.rs];rfl)
   have hL:=du.trans jT
   have hp:=iD.hr
   rw[jZ]at hp
   cases ke with
   |nil=>have:=hp.len;simp at this
   |cons t rest=>
    have hp':=hp.pop
    rw[kJ,List.append_nil]at abS
    subst abS
    exact⟨iD.dP.1,v,h1,⟨v,rfl⟩,jf,rest,hp',hL.de,by simpa using hL.kd,by simpa using hL.no⟩
def Hh.c:SC:=
 SQ [RG [wA 4 105],RG [wV 5 0 3 [0],wV 6 1 3 [1],wC 7 77 #[.const (.int .u8 104),.tmp 5,.tmp 6] #[5,3,3] 105 [5,6],wS 105 4 7 [7]],.ret]
def tE (k:Nat) (qi:Int) (qf:Int):Option ((Aa 32 Int)):=
 (yc k 104 qi qf).bind fun x1=>
 some x1
theorem ac9 (k:Nat) (qi:Int) (qf:Int) (r:(Aa 32 Int)) (h0:tE k qi qf=some r):Ay Tryz.prog 44 [.int .i64 qi,.int .i64 qf] (fun y=>y=.agg ((Aa.c (n:=32) af) r)):=by
 refine PB Tryz.f44 Hh.c [.cell 4 105] ?_
 simp only[tE]at h0
 try simp only[Hh.c,go_sem]
 refine au h0 (af5 k _ _ _) ?_ (fun x1 h0=>?_)<;>try simp only[go_sem]
 obtain rfl:=oi h0
 refine Ag rfl ?_
 try simp only[go_sem]
end Go.Abs
namespace Go.Abs
open Go Go.Proofs Go.RowKit Go.Lib
def A5.c:SC:=
 SQ [RG [wA 4 137,wB 5 false 4 [5]],RG [wV 12 0 99,wV 13 1 3,wC 14 102 #[.tmp 12,.tmp 13,.const (.int .i64 0)] #[99,3,3] 105 [12,13],wA 6 105,wS 105 6 14 [14]],RG [wD 15 105 6,wU 16 103 15 105 3 [15],wG 7 16 3 [16]],RG [wJ 17 105 6 4,wD 18 5 17 [17],wY 19 5 3 18 3 [18],oQ 20 (.binOp .shl 3 (.tmp 19) (.const (.int .u64 8)) 172) 3 [19],wJ 21 105 6 5,wD 22 5 21 [21],wY 23 5 3 22 3 [22],
 wO 24 .or 3 20 23 3 3 [20,23],wG 8 24 3 [24]],SQ [.aL [wV 25 7 3,wK 26 .eql 3 25 0 3 4,wV 27 26 4,gd 27 false (wD 28 105 6),gd 27 false (wV 29 7 3),gd 27 false (wV 30 8 3),gd 27 false (wW 31 44 29 30 3 3 105),gd 27 false (wO 32 .neq 105 28 31 105 4),wT 33 27 32 4] [[],[0],[0,1],[0,1,2],[0,1,2],[0,1,2],[0,1,2,4,5],[0,1,2,3,4,5,6],[0,1,2,3,4,5,6,7]] [6,25,26,27,28,29,30,31,32],
 CN 33 (SQ [RG [oQ 34 (.build 137 #[]) 137,wS 137 4 34 [34],wB 5 false 4],.ret]) .skip],RG [wV 35 0 99,wV 36 1 3,wV 37 7 3 [7],oQ 38 (.build 137 #[(0,.tmp 35),(1,.tmp 36),(2,.tmp 37),(3,.const (.int .i64 1))]) 137 [35,36,37],wA 9 137,wS 137 9 38 [38]],SQ [RG [wV 39 0 99 [0],wV 40 1 3 [1],wW 41 120 39 40 99 3 188 [39,40]],.block 0 .other],.aL [wD 58 137 9,wF 59 137 9 5,wD 60 3 59,wV 61 8 3,
 wO 62 .geq 3 60 61 3 4,wS 137 4 58,wG 5 62 4] [[],[],[1],[],[1,2,3],[0],[1,2,3,4,0,5]] [8,9,58,59,60,61,62],.ret]
theorem A5.rs:Tryz.f101.results.toList=[.cell 4 137,.tmp 5]:=rfl
def A5.o0:SC:=
 A5.c.fst
def A5.o1:SC:=
 A5.c.snd.fst
def A5.o2:SC:=
 A5.c.snd.snd.fst
def A5.o3:SC:=
 A5.c.snd.snd.snd.fst
def A5.o4:SC:=
 A5.c.snd.snd.snd.snd.fst
def A5.o5:SC:=
 A5.c.snd.snd.snd.snd.snd.fst
def A5.o6:SC:=
 A5.c.snd.snd.snd.snd.snd.snd.fst.fst
def A5.o7:SC:=
 A5.c.snd.snd.snd.snd.snd.snd.snd
def po (x3 x4:Int):Int:=fZ .i64 (ab ((ab x3)*2 ^ 8)) (ab x4)
def lC:cV:=⟨none,0,0,0,(⟨[]⟩:Ah),0⟩
def sJ (d:az) (aV e:Int):cV:=⟨some d,aV,e,1,⟨[]⟩,0⟩
def qT (k:Nat) (J:cV) (x:Ab×Int):Option cV:=
 (rv k J.book x.1).bind fun b=>some ⟨J.agL,J.aV,J.dQ,x.2,b.1,ab (J.records+1)⟩
def jJ (k:Nat):cV->List (Ab×Int)->Option cV
 |J,[]=>some J
 |J,x::l=>(qT k J x).bind fun J=>jJ k J l
def pT (k:Nat) (d0:az) (aW:Int):Option (cV×Bool):=
 (nm k d0 aW 0).bind fun x1=>
 (pU k x1).bind fun x2=>
 (x1.at? 4).bind fun x3=>
 (x1.at? 5).bind fun x4=>
 bif (!decide (x2=(0:Int))) then
  (tE k x2 (fZ .i64 (ab ((ab x3)*2 ^ 8)) (ab x4))).bind fun x6=>
  bif (!(Aa.eq (fun(x y:Int)=>decide (x=y)) x1 x6)) then
   some (lC,false)
  else
   (ko k d0 aW).bind fun xs=>
   (jJ k (sJ d0 aW x2) xs).bind fun J=>
   some (J,decide (J.records>=po x3 x4))
 else
  some (lC,false)
def aiM (d:az) (aV e aA:Int):St:=⟨[(4,.ptr 0 0 0),(8,.int .i64 aA),(9,.ptr 0 1 0),(41,nS d aV)],[(0,.box (cV.c lC)),(1,.box (cV.c (sJ d aV e)))],[],2,Tryz.f101.ntmps⟩
def opE (L:Prop) (e:Exit) (st:St):Prop:=e=.ret/\L/\DD T Tryz.f101.results.toList (fun y=>NL y (.ar [.agg (cV.c lC),.bool false])) .ret st
def opB (k:Nat) (d:az) (aV:Int) (r:cV×Bool) (st:St):Prop:=
 ∃ e x3 x4 xs J,ko k d aV=some xs/\jJ k (sJ d aV e) xs=some J/\r=(J,decide (J.records>=po x3 x4))/\Ai Tryz.f101.ntmps st (aiM d aV e (po x3 x4))
theorem apw (k:Nat) (d:az) (aV:Int) (r:cV×Bool) (h0:pT k d aV=some r):
  AK Tryz.prog Tryz.f101.ntmps (opE (r=(lC,false))) [.sc A5.o0,.sc A5.o1,.sc A5.o2,.sc A5.o3,.sc A5.o4,.sc A5.o5,.sc A5.o6,.back (opB k d aV r)] (St.enter [.aD 2 [az.c d] 0 0,.int .i64 aV] [] Tryz.f101.ntmps):=by
 refine rS ?_
 simp only[pT]at h0
 simp only[A5.o0,A5.o1,A5.o2,A5.o3,A5.o4,A5.o5,A5.o6,A5.c,SC.fst,SC.snd,go_sem]
 obtain⟨x1,jq,h0⟩:=bs h0
 refine jL (vB k _ _ _ _ jq) ?_ ?_
 ·try simp only[go_sem]
 try simp only[go_sem]
 obtain⟨x2,ec,h0⟩:=bs h0
 refine jL (abj k _ _ ec) ?_ ?_
 ·try simp only[go_sem]
 try simp only[go_sem]
 obtain⟨x3,cY,h0⟩:=bs h0
 have u3:=Ap.at k9 (Ap.self zlh x1) cY
 have lf:=u3.bound k9
 have lk:=u3.get k9
 try simp only[AA,Az,go_sem]at lf lk
 try simp only[aw cY,lf,lk,(@id (min (Int.toNat 8) 64=8) rfl),go_sem]
 obtain⟨x4,bS,h0⟩:=bs h0
 have iW:=Ap.at k9 (Ap.self zlh x1) bS
 have lU:=iW.bound k9
 have mb:=iW.get k9
 try simp only[AA,Az,go_sem]at lU mb
 try simp only[aw bS,lU,mb,aw cY,lf,lk,go_sem]
 refine AL AB aQ 1000 ?_
 try simp only[aw cY,lf,lk,aw bS,lU,mb,go_sem]
 refine FF h0 (fun c5 h0=>?_) (fun c5 h0=>?_)
 ·have c5:=ac3 c5
  try simp only[c5,aw cY,lf,lk,aw bS,lU,mb,go_sem]
  obtain⟨x6,ee,h0⟩:=bs h0
  refine vQ (ac9 k _ _ _ ee) ?_ ?_
  ·try simp only[aw cY,lf,lk,aw bS,lU,mb,c5,go_sem]
  try simp only[aw cY,lf,lk,aw bS,lU,mb,c5,go_sem]
  refine aK ?_
  try simp only[aw cY,lf,lk,aw bS,lU,mb,c5,go_sem]
  refine AR h0 (fun c7 h0=>?_) (fun c7 h0=>?_)
  ·have c7:=ac3 c7
   try simp only[c7,aw cY,lf,lk,aw bS,lU,mb,c5,go_sem]
   obtain rfl:=oi h0
   refine⟨rfl,rfl,Ag (P:=Tryz.prog) (n:=Tryz.f101.ntmps) rfl ?_⟩
   try simp only[A5.rs,lC,aw cY,lf,lk,aw bS,lU,mb,c5,c7,go_sem]
  ·have c7:=ac2 c7
   try simp only[c7,aw cY,lf,lk,aw bS,lU,mb,c5,go_sem]
   obtain⟨xs,yxs,h0⟩:=bs h0
   obtain⟨J,yJ,h0⟩:=bs h0
   obtain rfl:=oi h0
   refine jL (alQ d aV) ?_ ?_
   ·try simp only[go_sem]
   try simp only[nS,go_sem]
   refine AD ⟨x2,x3,x4,xs,J,yxs,yJ,rfl,?_⟩
   refine(Ai.fz 1 rfl (fun _ h=>by cases h)).trans ?_
   simp only[go_sem]
   refine(Ai.fz 528 rfl (fun _ h=>by cases h)).trans ?_
   simp only[go_sem]
   refine Ai.go [4,8,9,41] [0,512] rfl ?_
   simp only[nS,po,lC,sJ,go_sem]
 ·have c5:=ac2 c5
  try simp only[c5,aw cY,lf,lk,aw bS,lU,mb,go_sem]
  refine aK ?_
  try simp only[aw cY,lf,lk,aw bS,lU,mb,c5,go_sem]
  obtain rfl:=oi h0
  refine⟨rfl,rfl,Ag (P:=Tryz.prog) (n:=Tryz.f101.ntmps) rfl ?_⟩
  try simp only[A5.rs,lC,aw cY,lf,lk,aw bS,lU,mb,c5,go_sem]
def A5.oa:SC:=.seq (.lF [wA 10 29,wS 29 10 42 [42]]) (.lF [wG 11 43 3 [43]])

def A5.ob:SC:=.block 1 (.seq (.lF [wF 45 137 9 4,wD 46 40 45 [45],wD 47 29 10,wW 48 70 46 47 40 29 133 [46,47],
 wV 44 48 133 [48],wX 49 44 0 40,wX 50 44 1 45 [44,50],wF 51 137 9 4,wS 40 51 49 [49,51]])
 (.seq (.lF [wV 52 11 3 [11],wF 53 137 9 3,wS 3 53 52 [52,53]])
 (.lF [wF 54 137 9 5,wD 55 3 54 [54],wK 56 .add 3 55 1 3 3 [55],wF 57 137 9 5,wS 3 57 56 [56,57]])))
def my (J:cV):Au:=[(0,.box (cV.c lC)),(1,.box (cV.c J))]
def opS (x:Ab×Int) (f:Au) (J:cV):St:=⟨[(9,.ptr 2 1 0),(42,.agg (Ab.c x.1)),(43,.int .i64 x.2)],[],[f,my J],0,Tryz.f101.ntmps⟩
def uL (x:Ab×Int) (f:Au) (J:cV):St:=⟨[(9,.ptr 2 1 0),(10,.ptr 0 0 0),(11,.int .i64 x.2)],[(0,.box (Ab.c x.1))],[f,my J],1,Tryz.f101.ntmps⟩
def opN (f:Au) (J:cV):St:=⟨[],[],[f,my J],0,Tryz.f101.ntmps⟩
def opR (J:cV) (aA:Int):St:=⟨[(4,.ptr 0 0 0),(8,.int .i64 aA),(9,.ptr 0 1 0)],my J,[],2,Tryz.f101.ntmps⟩
theorem apt [Md] (x:Ab×Int) (f:Au) (J:cV) (Φ:Exit->St->Prop):AK Tryz.prog Tryz.f101.ntmps Φ [.sc A5.oa,.back (fun st=>Ai Tryz.f101.ntmps st (uL x f J))] (opS x f J):=by
 refine rS ?_
 simp only[A5.oa,opS,my,lC,go_sem]
 show Ai Tryz.f101.ntmps _ (uL x f J)
 refine Ai.go [9,10,11] [0] rfl ?_
 simp only[my,lC,go_sem]
theorem apv [Md] (k:Nat) (x:Ab×Int) (f:Au) (J J':cV) (h0:qT k J x=some J') (Φ:Exit->St->Prop):AK Tryz.prog Tryz.f101.ntmps Φ [.sc A5.ob,.back (fun st=>Ai Tryz.f101.ntmps st (opN f J'))] (uL x f J):=by
 refine rS ?_
 simp only[qT]at h0
 obtain⟨b,yb,h0⟩:=bs h0
 obtain rfl:=oi h0
 simp only[A5.ob,uL,my,lC,go_sem]
 refine jL (ac7 k J.book x.1 b yb) ?_ ?_
 ·simp only[go_sem]
 simp only[go_sem]
 show Ai Tryz.f101.ntmps _ (opN f _)
 refine Ai.go [] [] rfl ?_
 simp only[my,lC,go_sem]
theorem apx [Md] (J:cV) (aA:Int):AK Tryz.prog Tryz.f101.ntmps (fun e st=>e=.ret/\DD T Tryz.f101.results.toList (fun y=>NL y (.ar [.agg (cV.c J),.bool (decide (J.records>=aA))])) .ret st) [.sc A5.o7] (opR J aA):=by
 refine rS ?_
 simp only[A5.o7,A5.c,opR,my,lC,SC.snd,go_sem]
 refine AL AB aQ 1000 ?_
 simp only[go_sem]
 refine aK ?_
 simp only[go_sem]
 refine⟨rfl,Ag (P:=Tryz.prog) (n:=Tryz.f101.ntmps) rfl ?_⟩
 simp only[A5.rs,go_sem]
def BN:Code:=Tryz.f101.body.getD .skip
def CV:Code:=abo (ah (bh (ah (ah (ah (ah (ah (ah BN))))))))
def yk:Code->Code
 |.rangeFunc _ _ a _=>a
 |x=>x
def yl:Code->Code
 |.rangeFunc _ _ _ b=>b
 |x=>x
theorem aiO {k:Nat}{x:Ab×Int}:∀ {J:cV}{l:List (Ab×Int)},jJ k J (l++[x])=(jJ k J l).bind fun J=>qT k J x
 |J,[]=>by simp only[Bt,jJ,Ae];cases qT k J x<;>rfl
 |J,y::l=>by
  simp only[Bg,jJ]
  cases qT k J y with
  |none=>rfl
  |some J'=>simp only[Ae];exact aiO
theorem aiN {k:Nat}:∀ {J:cV}{l m:List (Ab×Int)}{Z:cV},jJ k J (l++m)=some Z->∃ J',jJ k J l=some J'
 |J,[],m,Z,h=>⟨J,rfl⟩
 |J,y::l,m,Z,h=>by
  simp only[Bg,jJ]at h ⊢
  obtain⟨J',h1,h2⟩:=bs h
  rw[h1]
  exact aiN h2
def xq (k:Nat) (J0:cV) (pre:List (Ab×Int)):Au:=my ((jJ k J0 pre).getD J0)
def mz (a:Act) (D:Nat) (fn:FuncId) (s:LoopState) (p:Option Code):Loop:={ state:=s,pending:=p,fn,tmps:=a.tmps,params:=#[42,43],assign:=yk CV,body:=yl CV,defers:=D }
theorem aps [Md] {Q:Exit->Act->World->Prop}{N0:Nat}{W1:World}{fm:FM}{ts:List Al}{a:Act}{w:World}{x:Ab×Int}{f:Au}{J:cV} (hS:SR N0 W1 Tryz.f101.ntmps (opS x f J) a w fm ts)
  (hn:∀ a' w' fm' ts',SR N0 W1 Tryz.f101.ntmps (uL x f J) a' w' fm' ts'->A8 N0 fm ts fm' ts'->Q .normal a' w'):(yk CV).wpIn FW 0 Tryz.prog Q a w:=by
 refine(show K Tryz.prog Q ([.code (yk CV)]++[]) .normal a w from ?_)
 refine AK.nV (Φ:=fun _ _=>False) (todo:=[.sc A5.oa]) hS (apt x f J _) (fun R hR=>.sc (by rfl) (by rfl) (.back hR .nil)) ?_ (fun _ _ _ _ _ _ h=>h.elim)
 intro aq a' w' fm' ts' hw cJ hL
 obtain⟨dn,cK,h1,h2⟩:=hw _ _ _ _ _ _ cJ
 exact hn _ _ _ _ h1 (hL.trans h2)
theorem apu [Md] (k:Nat) {Q:Exit->Act->World->Prop}{N0:Nat}{W1:World}{fm:FM}{ts:List Al}{a:Act}{w:World}{x:Ab×Int}{f:Au}{J J':cV} (h0:qT k J x=some J') (hS:SR N0 W1 Tryz.f101.ntmps (uL x f J) a w fm ts)
  (hn:∀ a' w' fm' ts',SR N0 W1 Tryz.f101.ntmps (opN f J') a' w' fm' ts'->A8 N0 fm ts fm' ts'->Q .normal a' w'):(yl CV).wpIn FW 0 Tryz.prog Q a w:=by
 refine(show K Tryz.prog Q ([.code (yl CV)]++[]) .normal a w from ?_)
 refine AK.nV (Φ:=fun _ _=>False) (todo:=[.sc A5.ob]) hS (apv k x f J J' h0 _) (fun R hR=>.sc (by rfl) (by rfl) (.back hR .nil)) ?_ (fun _ _ _ _ _ _ h=>h.elim)
 intro aq a' w' fm' ts' hw cJ hL
 obtain⟨dn,cK,h1,h2⟩:=hw _ _ _ _ _ _ cJ
 exact hn _ _ _ _ h1 (hL.trans h2)
theorem abg {N0 l:Nat}{W:World}{o o':Obj} (hN:N0<=l) (h:W.heap[l]?=some o):Below N0 W (W.putObj l o'):=
 (Below.refl N0 W).grown (grownBy_putObj' W l o') (by have:=(Cv.1 h).1;omega) (fun k e=>by cases e;omega)
theorem apy (k:Nat) (J0:cV) (xs:List (Ab×Int)) (Z:cV) (hZ:jJ k J0 xs=some Z) {N0:Nat}{W1:World}{l D:Nat}{fn:FuncId}{tc:Al}{a:Act}{c9:Nat} (hN:N0<=l) (ax:a.tmps.size=Tryz.f101.ntmps)
  (hl:W1.heap[l]?=some (.loop (mz a D fn .ready none))) (h9:tc 1=some (.box c9)) (ha:a.tmps[9]?=some (.pointer (some ⟨c9,0,none⟩))):YC N0 W1 l tc (xq k J0) xs:=by
 intro pre x oU f fm ts w vs hr iK bo
 obtain⟨suf,aob⟩:=oU
 obtain⟨J',hJ'⟩:=aiN (l:=pre++[x]) (m:=suf) (by rw[aob];exact hZ)
 have hJ2:=hJ'
 rw[aiO]at hJ2
 obtain⟨J,hJ,fG⟩:=bs hJ2
 have hlw:=hr.cX l _ hl rfl
 have j3:Tryz.f101.ntmps=63:=by rfl
 obtain⟨v0,v1,rfl⟩:∃ v0 v1,vs=[v0,v1]:=by
  have:=bo.1
  match vs,this with
  |[v0,v1],_=>exact⟨v0,v1,rfl⟩
 have hy:=run_yield (P:=Tryz.prog) (args:=#[v0,v1]) hlw (by rfl)
 refine⟨_,_,_,_,hy,?_⟩
 have hr':HR N0 W1 fm ts [f,my J] w:=by
  have h:=hr
  unfold xq at h
  rw[hJ]at h
  exact h
 have hSS:@SR ⟨some l,[],fun _=>none⟩ N0 W1 Tryz.f101.ntmps (opS x f J) { tmps:=(a.tmps.setIfInBounds 42 v0).setIfInBounds 43 v1,defers:=[] } w fm (cS::ts):=by
  refine @SR.mk ⟨some l,[],fun _=>none⟩ _ _ _ _ _ _ _ _ hr'.push ?_ (fun _ _=>rfl) (by simp[ax]) ⟨rfl,fun _ _ h=>by cases h⟩
  intro t y hy
  unfold opS at hy
  simp only[look]at hy
  split at hy
  ·subst_vars
   obtain rfl:=oi hy
   refine⟨_,by rw[Array.getElem?_setIfInBounds,if_neg (by decide),Array.getElem?_setIfInBounds,if_neg (by decide)];exact ha,.ptr 2 1 0 c9 ?_⟩
   have h1:=iK 0 1
   have h2:tb (ts.drop 1) 0 1=some (.box c9):=h1.box h9
   rw[fp]at h2
   exact h2
  ·split at hy
   ·subst_vars
    obtain rfl:=oi hy
    refine⟨v0,by rw[Array.getElem?_setIfInBounds,if_neg (by decide),Array.getElem?_setIfInBounds,if_pos rfl,if_pos (by rw[ax,j3];decide)],?_⟩
    have:=bo.2 0 _ v0 rfl rfl
    have h3:VR fm [] (.agg (Ab.c x.1)) v0:=(hr.pQ (Av.one this) (ys:=[.agg (Ab.c x.1)]) (by simp only[AV.aG,AV.ai,(ajW.sv x.1).ai,A0])).2 0 _ _ rfl rfl
    exact h3.mono (AY.refl _) (As.nil _)
   ·split at hy
    ·subst_vars
     obtain rfl:=oi hy
     refine⟨v1,by rw[Array.getElem?_setIfInBounds,if_pos rfl,if_pos (by rw[Array.size_setIfInBounds,ax,j3];decide)],?_⟩
     have:=bo.2 1 _ v1 rfl rfl
     have h3:VR fm [] (.int .i64 x.2) v1:=(hr.pQ (Av.one this) (ys:=[.int .i64 x.2]) rfl).2 0 _ _ rfl rfl
     exact h3.mono (AY.refl _) (As.nil _)
    ·cases hy
 refine roundIn_of_wpIn trivial ?_
 have anQ:(((mz a D fn .ready none).params.zip #[v0,v1]).foldl (fun tmps (x:Tmp×Value)=>match x with|(t,a)=>tmps.setIfInBounds t a) (mz a D fn .ready none).tmps)=(a.tmps.setIfInBounds 42 v0).setIfInBounds 43 v1:=by
  simp[mz]
 rw[anQ]
 refine @aps ⟨some l,[],fun _=>none⟩ _ _ _ _ _ _ _ x f J hSS ?_
 intro a1 w1 ei dV dC jS
 obtain⟨g1,g2,g3,g4,g5⟩:=dC
 have gm:=g1.cX l _ hl rfl
 refine⟨_,run_beginRound gm rfl,?_⟩
 have anq:@SR ⟨some l,[],fun _=>none⟩ N0 (w1.putObj l (.loop { mz a D fn .ready none with state:=.busy })) Tryz.f101.ntmps (uL x f J) a1 (w1.putObj l (.loop { mz a D fn .ready none with state:=.busy })) ei dV:=
  @SR.mk ⟨some l,[],fun _=>none⟩ _ _ _ _ _ _ _ _ (g1.other gm rfl hN) g2 g3 g4 ⟨g5.1,fun _ _ h=>by cases h⟩
 refine @apu ⟨some l,[],fun _=>none⟩ k _ _ _ _ _ _ _ x f J J' fG anq ?_
 intro a2 w2 dn cK eZ du
 obtain⟨k1,k2,k3,k4,k5⟩:=eZ
 have ae:=(Cv.1 gm).1
 have jY:=k1.cX l (.loop { mz a D fn .ready none with state:=.busy }) (World.putObj_heap_same ae) rfl
 refine⟨_,_,run_endRound none jY,rfl,dn,cK.drop 1,?_,jS.de.trans du.de,?_,?_⟩
 ·have k6:=k1.other (o':=.loop { mz a D fn .ready none with state:=.ready,pending:=none }) jY rfl hN
  cases cK with
  |nil=>have:=k6.len;simp at this
  |cons t0 rest=>
   have k7:=k6.pop
   have mg:Below N0 W1 (w2.putObj l (.loop { mz a D fn .ready none with state:=.ready,pending:=none })):=
    ((g1.dk.trans (abg hN gm)).trans k1.dk).trans (abg hN jY)
   have uw:∀ (b:Nat) (o:Obj),W1.heap[b]?=some o->aav o=true->(w2.putObj l (.loop { mz a D fn .ready none with state:=.ready,pending:=none })).heap[b]?=some o:=by
    intro b o hb ho
    by_cases fc:b=l
    ·subst fc
     rw[hl]at hb
     obtain rfl:=oi hb
     exact World.putObj_heap_same (Cv.1 jY).1
    ·rw[World.putObj_heap_other (by omega)]
     refine k1.cX b o ?_ ho
     rw[World.putObj_heap_other (by omega)]
     exact g1.cX b o hb ho
   have k8:HR N0 W1 dn rest [f,my J'] (w2.putObj l (.loop { mz a D fn .ready none with state:=.ready,pending:=none })):={ k7 with dk:=mg,cX:=uw }
   unfold xq
   rw[hJ']
   exact k8
 ·have h:=jS.kd.trans du.kd
  simpa using h
 ·intro l' k' h
  exact du.no l' k' (jS.no l' k' (by simpa using h))
theorem aga (k:Nat) (d0:az) (aW:Int) (r:cV×Bool) (h0:pT k d0 aW=some r):Ay Tryz.prog 101 [.aD 2 [az.c d0] 0 0,.int .i64 aW] (fun y=>y=.ar [.agg (cV.c r.1),.bool r.2]):=by
 refine⟨⟨Tryz.f101,by rfl,by rfl,by rfl⟩,fun fm w vs bC hv=>?_⟩
 have j3:Tryz.f101.ntmps=63:=by rfl
 refine callsIn_wide.1 (callsIn_of_wp_marks (F:=FW) (n:=0) (fn:=Tryz.f101) (c:=BN) (by rfl) (by rfl) trivial ?_)
 have hS:=SR.enter (HR.nothing bC) (vs:=vs) (args:=[.aD 2 [az.c d0] 0 0,.int .i64 aW]) (n:=Tryz.f101.ntmps) ⟨hv.1,fun i x v p q=>(hv.2 i x v p q).mono (AY.refl _) (As.nil _)⟩ (by rw[j3];simp)
 have amX:BN=.seq (bh BN) (.seq (bh (ah BN)) (.seq (bh (ah (ah BN))) (.seq (bh (ah (ah (ah BN)))) (.seq (bh (ah (ah (ah (ah BN))))) (.seq (bh (ah (ah (ah (ah (ah BN)))))) (.seq (.seq (bh (bh (ah (ah (ah (ah (ah (ah BN)))))))) (.block 0 CV)) (ah (ah (ah (ah (ah (ah (ah BN))))))))))))):=by rfl
 refine(show K Tryz.prog _ [.code BN] .normal _ w from ?_)
 rw[amX]
 refine C3 ?_
 refine CM (t:=[.code (bh (ah BN)),.code (bh (ah (ah BN))),.code (bh (ah (ah (ah BN)))),.code (bh (ah (ah (ah (ah BN))))),.code (bh (ah (ah (ah (ah (ah BN)))))),.code (bh (bh (ah (ah (ah (ah (ah (ah BN)))))))),.code (.block 0 CV),.code (ah (ah (ah (ah (ah (ah (ah BN)))))))])
  (fun e a w h=>CD _ _ _ (CM (fun e a w h=>CD _ _ _ (CM (fun e a w h=>CD _ _ _ (CM (fun e a w h=>CD _ _ _ (CM (fun e a w h=>CD _ _ _ (CM (fun e a w h=>CD _ _ _ (CD _ _ _ h)) _ _ _ h)) _ _ _ h)) _ _ _ h)) _ _ _ h)) _ _ _ h)) _ _ _ ?_
 refine AK.nV (cs:=[.code (bh BN),.code (bh (ah BN)),.code (bh (ah (ah BN))),.code (bh (ah (ah (ah BN)))),.code (bh (ah (ah (ah (ah BN))))),.code (bh (ah (ah (ah (ah (ah BN)))))),.code (bh (bh (ah (ah (ah (ah (ah (ah BN))))))))])
  (t:=[.code (.block 0 CV),.code (ah (ah (ah (ah (ah (ah (ah BN)))))))]) (todo:=[.sc A5.o0,.sc A5.o1,.sc A5.o2,.sc A5.o3,.sc A5.o4,.sc A5.o5,.sc A5.o6]) hS (apw k d0 aW r h0)
  (fun R hR=>.sc (by rfl) (by rfl) (.sc (by rfl) (by rfl) (.sc (by rfl) (by rfl) (.sc (by rfl) (by rfl) (.sc (by rfl) (by rfl) (.sc (by rfl) (by rfl) (.sc (by rfl) (by rfl) (.back hR .nil)))))))) ?_ ?_
 rotate_left
 ·
  rintro e st a w2 dn cK ⟨rfl,rfl,hE⟩ eZ du
  refine Dz ?_ _
  obtain⟨u,jf,h1,h2,h3,h4⟩:=adI (P:=Tryz.prog) AB eZ hE
  show LeavesInM FW 0 Tryz.prog Tryz.f101 a.tmps _ a.defers .returning w2
  rw[eZ.dP.1]
  exact⟨u,h1,u,_,jf,rfl,rfl,h3,h2,du.de.trans h4,eZ.hr.dk⟩
 ·rintro xH a0 w0 fm0 gv ⟨e,x3,x4,xs,J,fH,hJ,rfl,hw⟩ yU yQ
  obtain⟨ei,dV,dC,jS⟩:=hw _ _ _ _ _ _ yU
  have ann:=yQ.trans jS
  obtain⟨tc,rfl⟩:∃ tc,dV=[tc]:=by
   have:=dC.hr.len
   match dV,this with
   |[tc],_=>exact⟨tc,rfl⟩
  refine Ec ?_
  have e2:CV=.rangeFunc (.tmp 41) #[42,43] (yk CV) (yl CV):=by rfl
  rw[e2]
  refine(show (Code.rangeFunc (.tmp 41) #[42,43] (yk CV) (yl CV)).wpIn FW 0 Tryz.prog (K Tryz.prog _ [.ao 0,.code (ah (ah (ah (ah (ah (ah (ah BN)))))))]) a0 w0 from ?_)
  refine wpIn_rangeFunc ?_
  intro fn _
  obtain⟨v41,h41,r41⟩:=dC.tm 41 (nS d0 aW) rfl
  obtain⟨p9,h9,r9⟩:=dC.tm 9 (.ptr 0 1 0) rfl
  obtain⟨c9,rfl,hc9⟩:∃ c9,p9=.pointer (some ⟨c9,0,none⟩)/\tc 1=some (.box c9):=by
   cases r9 with
   |ptr _ _ _ c h=>exact⟨c,rfl,h⟩
  obtain⟨vd,va,rfl,hd,ha⟩:∃ vd va,v41=.func (.func 126) #[] #[vd,va]/\VR ei [] (.aD 1 [[.aD 2 [az.c d0] 0 0]] 0 0) vd/\VR ei [] (.aD 1 [[.int .i64 aW]] 0 0) va:=by
   have hb:VR ei [] (nS d0 aW) v41:=(dC.hr.pQ (Av.one r41) (ys:=[nS d0 aW]) (by simp only[nS,AV.aG,AV.ai])).2 0 _ _ rfl rfl
   unfold nS at hb
   cases hb with
   |fn f first cap vf vc h1 h2 h3 h4=>
    have e1:vf=#[]:=Array.size_eq_zero_iff.1 (by simpa using h1.symm)
    obtain⟨l,rfl⟩:∃ l,vc=l.toArray:=⟨vc.toList,by simp⟩
    match l,h2,h4 with
    |[vd,va],h2,h4=>exact⟨vd,va,by rw[e1],h4 0 _ vd rfl rfl,h4 1 _ va rfl rfl⟩
  have hN1:w.heap.size<=w0.heap.size:=dC.hr.size
  obtain⟨rec,sj⟩:∃ rec,rec=mz a0 w0.heap.size fn .ready none:=⟨_,rfl⟩
  obtain⟨W1,ji⟩:∃ W1,W1=(w0.alloc (.deferred (some []))).alloc (.loop rec):=⟨_,rfl⟩
  have hl:W1.heap[w0.heap.size+1]?=some (.loop rec):=by
   rw[ji];have:=World.alloc_heap_new (w0.alloc (.deferred (some []))) (.loop rec);rwa [World.size_alloc]at this
  have hD:W1.heap[w0.heap.size]?=some (.deferred (some [])):=by
   rw[ji];exact(Below.heap_alloc _ _ _ (by simp)).trans (World.alloc_heap_new w0 _)
  have zI:HR w.heap.size W1 ei [tc] [xq k (sJ d0 aW e) []] W1:=by
   rw[ji];exact((dC.hr.alloc _).alloc _).aqo
  have hbW:Below w.heap.size w W1:=by
   rw[ji];exact(dC.hr.dk.alloc hN1 _).alloc (by simp;omega) _
  have asm:a0.eval (.tmp 41)=.func (.func 126) #[] #[vd,va]:=by simp[Act.eval,Array.getD_eq_getD_getElem?,h41]
  refine⟨w0.heap.size+1,[{ target:=.collected w0.heap.size,args:=#[] }],W1,{ target:=.fn (.func 126) #[vd,va],args:=#[.func (.yield (w0.heap.size+1)) #[] #[]] },W1,126,
   #[.func (.yield (w0.heap.size+1)) #[] #[]]++#[vd,va],W1,?_,?_,?_,?_,(fun h=>by simp[FW]at h),?_⟩
  ·rw[ji,sj];exact run_enterLoop_outer _ _ _ _ _
  ·simp[resolve,Deferred.ofValue,Act.eval,h41]
  ·intro f' ze;trivial
  ·simp[invoke,callFunc];rfl
  refine callsIn_wide.2 ?_
  refine(aoO k d0 aW xs fH (apy k (sJ d0 aW e) xs J hJ (by omega) dC.size (by rw[hl,sj]) hc9 h9) zI hd ha).mono ?_
  rintro e3 w3 ⟨⟨v,rfl⟩,jf,ke,ux,ah7,aof,an2⟩
  have hNl:w.heap.size<=w0.heap.size+1:=by omega
  have hl3:=ux.cX _ _ hl rfl
  refine⟨_,_,run_endLoop hl3 (by rw[sj];simp[mz]),?_⟩
  have hr4:=ux.other (o':=.loop { rec with state:=.exhausted }) hl3 rfl hNl
  have hC:xq k (sJ d0 aW e) xs=my J:=by unfold xq;rw[hJ];rfl
  rw[hC]at hr4
  have hD4:(w3.putObj (w0.heap.size+1) (.loop { rec with state:=.exhausted })).heap[w0.heap.size]?=some (.deferred (some [])):=by
   rw[World.putObj_heap_other (by omega)];exact ux.cX _ _ hD rfl
  have hb4:Below w.heap.size w3 (w3.putObj (w0.heap.size+1) (.loop { rec with state:=.exhausted })):=abg hNl hl3
  generalize hw4:w3.putObj (w0.heap.size+1) (.loop { rec with state:=.exhausted })=w4 at hr4 hD4 hb4 ⊢
  have an5:rec.pending=none:=by rw[sj];rfl
  rw[an5]
  refine(show K Tryz.prog _ [.code (ah (ah (ah (ah (ah (ah (ah BN)))))))] .normal _ w4 from ?_)
  have hSR:@SR ⟨none,[{ target:=.collected w0.heap.size,args:=#[] }],fun _=>none⟩ w.heap.size w4 Tryz.f101.ntmps (opR J (po x3 x4)) { a0 with defers:=[{ target:=.collected w0.heap.size,args:=#[] }]++a0.defers } w4 jf ke:=by
   have ue:=dC.dP.1
   refine @SR.mk ⟨none,[{ target:=.collected w0.heap.size,args:=#[] }],fun _=>none⟩ _ _ _ _ _ _ _ _ hr4 ?_ (fun k hk=>an2 0 k (dC.nx k hk)) dC.size ?_
   ·intro t x hx
    have iy:look (aiM d0 aW e (po x3 x4)).tm t=some x:=aev (a:=(opR J (po x3 x4)).tm) [(41,nS d0 aW)] hx
    obtain⟨u,h1,h2⟩:=dC.tm t x iy
    exact⟨u,h1,h2.mono ah7.le aof⟩
   ·refine⟨?_,fun _ _ h=>by cases h⟩
    show [_]++a0.defers=_
    rw[ue];rfl
  rw[FJ lB ⟨none,[{ target:=.collected w0.heap.size,args:=#[] }],fun _=>none⟩ rfl]
  refine @AK.last ⟨none,[{ target:=.collected w0.heap.size,args:=#[] }],fun _=>none⟩ _ _ _ _ _ _ _ _ _ _ (fun e st=>e=.ret/\DD T Tryz.f101.results.toList (fun y=>NL y (.ar [.agg (cV.c J),.bool (decide (J.records>=po x3 x4))])) .ret st) _ A5.o7 hSR
   (@apx ⟨none,[{ target:=.collected w0.heap.size,args:=#[] }],fun _=>none⟩ J (po x3 x4)) (by rfl) (by rfl) ?_
  rintro e5 st5 a5 w5 yG ts5 ⟨rfl,hE⟩ ua yR
  obtain⟨s1,s2,s3,s4,s5⟩:=ua
  have s5':a5.defers=[{ target:=.collected w0.heap.size,args:=#[] }]:=s5.1
  have hD5:=s1.cX _ _ hD4 rfl
  show LeavesInM FW 0 Tryz.prog Tryz.f101 a5.tmps _ a5.defers .returning w5
  rw[s5']
  refine⟨by simp,.inl ⟨w0.heap.size,_,rfl,run_takeDeferred hD5,?_⟩⟩
  have yV:@SR lB w.heap.size (w5.putObj w0.heap.size (.deferred none)) Tryz.f101.ntmps st5 { a5 with defers:=[] } (w5.putObj w0.heap.size (.deferred none)) yG ts5:=@SR.mk lB _ _ _ _ _ _ _ _ (s1.other hD5 rfl hN1) s2 s3 s4 ⟨rfl,fun _ _ h=>by cases h⟩
  obtain⟨u,fm6,h1,h2,h3,h4⟩:=adI (P:=Tryz.prog) AB yV hE
  exact⟨u,h1,u,_,fm6,rfl,rfl,h3,h2,((ann.de.trans ah7).trans yR.de).trans h4,(((hbW.trans ux.dk).trans hb4).trans s1.dk).trans (abg hN1 hD5)⟩
def Ht.c:SC:=
 SQ [RG [wA 2 137,wB 3 false 4 [3]],RG [wV 9 0 99,wC 10 101 #[.tmp 9,.const (.int .i64 0)] #[99,3] 138 [9],wV 8 10 138 [10],wX 11 8 0 137,wX 12 8 1 4 [8],wA 4 137,wS 137 4 11 [11],wG 5 12 4 [12]],RG [wV 14 0 99 [0],wC 15 101 #[.tmp 14,.const (.int .i64 1)] #[99,3] 138 [14],wV 13 15 138 [15],wX 16 13 0 137,wX 17 13 1 4 [13],wA 6 137,wS 137 6 16 [16],wG 7 17 4 [17]],SQ [RG [wV 18 7 4 [7],
 wV 19 18 4 [18],gd 19 true (wV 20 5 4),gd 19 true (wQ 21 20 4 [20]),gd 19 true (wV 22 21 4 [21]),gd 22 false (wF 23 137 6 2),gd 22 false (wD 24 3 23 [23]),gd 22 false (wF 25 137 4 2),gd 22 false (wD 26 3 25 [25]),gd 22 false (wO 27 .gtr 3 24 26 3 4 [24,26]),gd 19 true (wT 28 22 27 4 [22,27]),wZ 29 19 28 4 [19,28]],CN 29 (SQ [RG [wD 30 137 6 [6],wS 137 2 30 [30],wB 3 true 4],.ret]) .skip],
 RG [wD 31 137 4 [4],wV 32 5 4 [5],wS 137 2 31 [31],wG 3 32 4 [32]],.ret]
def vC (k:Nat) (d0:az):Option (cV×Bool):=
 (pT k d0 0).bind fun x1=>
 (pT k d0 1).bind fun x2=>
 bif x2.2 then
  bif x1.2 then
   bif decide (x1.1.dQ<x2.1.dQ) then
    some (x2.1,true)
   else
    some (x1.1,true)
  else
   some (x2.1,true)
 else
  some (x1.1,x1.2)
theorem af9 (k:Nat) (d0:az) (r:cV×Bool) (h0:vC k d0=some r):Ay Tryz.prog 72 [.aD 2 [az.c d0] 0 0] (fun y=>y=.ar [.agg (cV.c r.1),.bool r.2]):=by
 refine PB Tryz.f72 Ht.c [.cell 2 137,.tmp 3] ?_
 simp only[vC]at h0
 try simp only[Ht.c,go_sem]
 refine au h0 (aga k _ _) ?_ (fun x1 h0=>?_)<;>try simp only[go_sem]
 refine au h0 (aga k _ _) ?_ (fun x2 h0=>?_)<;>try simp only[go_sem]
 refine AR h0 ?_ ?_<;>intro c3 h0<;>have F:=c3<;>try simp only[F,go_sem]
 refine AF F h0 ?_ ?_<;>intro F h0<;>try simp only[F,go_sem]
 refine AF F h0 ?_ ?_<;>intro F h0<;>try simp only[F,go_sem]
 obtain rfl:=oi h0
 refine Ag rfl ?_
 try simp only[F,go_sem]
 obtain rfl:=oi h0
 refine Ag rfl ?_
 try simp only[F,go_sem]
 obtain rfl:=oi h0
 refine Ag rfl ?_
 try simp only[F,go_sem]
 obtain rfl:=oi h0
 refine Ag rfl ?_
 try simp only[F,go_sem]
def EK.s0:SC:=
 SQ [SQ [RG [wV 10 8 3,wK 11 .lss 3 10 602 3 4 [10]],CN 11 .skip (.exit 0)],.block 1 (RG [wV 14 7 3 [7],wV 15 0 99,wV 16 1 3,wV 17 8 3,wC 18 102 #[.tmp 15,.tmp 16,.tmp 17] #[99,3,3] 105 [15,16,17],wU 19 103 18 105 3 [18],oQ 20 (.call ⟨.builtin .max,#[.tmp 14,.tmp 19],#[3,3]⟩) 3 [14,19],wG 7 20 3 [20]]),RG [wV 12 8 3 [8],wK 13 .add 3 12 1 3 3 [12],wG 8 13 3 [13]]]
def EK.c:SC:=
 SQ [RG [wN 6 0 3 [6]],RG [wN 7 0 3],SQ [RG [wV 9 2 3 [2],wG 8 9 3 [9]],.block 0 (.loop EK.s0)],RG [wV 21 7 3 [7],wG 6 21 3 [21]],.ret]
def dF.b0 (k:Nat) (d0:az) (aW:Int):(Int×Int)->Option (AT (Int×Int) (Int) (Int)):=fun s=>match s with
 |(i1,i2)=>
   bif decide (i2<(602:Int)) then
    (nm k d0 aW i2).bind fun x5=>
    (pU k x5).bind fun x6=>
    some (.next (max i1 x6,ab (i2+1)))
   else
    some (.brk i1)
def dF.h0 (d0:az) (aW:Int):(Int×Int)->St:=fun s=>match s with
 |(i1,i2)=>⟨[(0,.aD 2 [az.c d0] 0 0),(1,.int .i64 aW),(7,.int .i64 i1),(8,.int .i64 i2)],[],[],1,Tryz.f73.ntmps⟩
def dF.x0:Int->St:=fun i3=>⟨[(7,.int .i64 i3)],[],[],1,Tryz.f73.ntmps⟩
def dF (k:Nat) (d0:az) (aW:Int) (aX:Int):Option (Int):=
 (aj (dF.b0 k d0 aW) k (0,aX)).bind fun r7=>match r7 with
 |.next _=>none
 |.ret v_=>some v_
 |.brk i3=>
  some i3
theorem yf (k:Nat) (d0:az) (aW:Int) (aX:Int) (r:Int) (h0:dF k d0 aW aX=some r):Ay Tryz.prog 73 [.aD 2 [az.c d0] 0 0,.int .i64 aW,.int .i64 aX] (fun y=>y=.int .i64 r):=by
 refine PB Tryz.f73 EK.c [.tmp 6] ?_
 simp only[dF]at h0
 try simp only[EK.c,go_sem]
 obtain⟨r7,kX,h0⟩:=bs h0
 refine Bf kX (dF.h0 d0 aW) (dF.x0) ?_ ?_ ?_
 refine Ai.go [0,1,7,8] [] rfl ?_
 try simp only[dF.h0,go_sem]
 rintro⟨i1,i2⟩ cP Bl Bm h1 aH aF bL
 refine rS ?_
 simp only[dF.b0]at h1
 try simp only[EK.s0,dF.h0,go_sem]
 refine AR h1 ?_ ?_<;>intro c4 h1<;>have F:=c4<;>try simp only[F,go_sem]
 refine au h1 (vB k _ _ _) ?_ (fun x5 h1=>?_)<;>try simp only[F,go_sem]
 refine au h1 (abj k _) ?_ (fun x6 h1=>?_)<;>try simp only[F,go_sem]
 refine AD (aH _ _ (oi h1).symm (Ai.go [0,1,7,8] [] rfl ?_))
 try simp only[dF.h0,F,go_sem]
 refine AD (aF _ _ (oi h1).symm (Ai.go [7] [] rfl ?_))
 try simp only[dF.x0,F,go_sem]
 rintro i3 aI
 subst aI
 simp only at h0
 refine rS ?_
 try simp only[dF.x0,go_sem]
 obtain rfl:=oi h0
 refine Ag rfl ?_
 try simp only[go_sem]
def EL.s0:SC:=
 SQ [RG [wO 14 .lss 3 13 12 3 0],CN 14 .skip (.exit 0),.block 1 (SQ [RG [wV 15 13 3,wG 5 15 3 [15]],.aL [wV 16 0 38,wV 17 5 3,wI 18 38 16 17,wD 19 29 18,wV 20 1 38,wV 21 5 3,wI 22 38 20 21,wD 23 29 22,wO 24 .neq 29 19 23 29 4] [[],[],[0,1],[0,1,2],[],[],[4,5],[4,5,6],[0,1,2,3,4,5,6,7]] [5,16,17,18,19,20,21,22,23],CN 24 (SQ [RG [wB 4 false 4],.ret]) .skip]),RG [wK 25 .add 3 13 1 3 3 [13],
 wV 13 25 3 [25]]]
def EL.c:SC:=
 SQ [RG [wB 4 false 4 [4]],SQ [RG [wV 6 0 38,wL 7 6 38 3 [6],wV 8 1 38,wL 9 8 38 3 [8],wO 10 .neq 3 7 9 3 4 [7,9]],CN 10 (SQ [RG [wB 4 false 4],.ret]) .skip],SQ [RG [wV 11 0 38,wL 12 11 38 3 [11],oQ 13 (.move (.const (.int .i64 0))) 3],.block 0 (.loop EL.s0)],RG [wB 4 true 4],.ret]
def fK.b0 (k:Nat) (ic:(List Ab)) (pA:(List Ab)):Int->Option (AT (Int) (Unit) (Bool)):=fun i2=>
 bif decide (i2<(ic.length:Int)) then
  (at? ic i2).bind fun x4=>
  (at? pA i2).bind fun x5=>
  bif (!(decide (x4.At.Aq=x5.At.Aq)&&(decide (x4.At.No=x5.At.No)&&(decide (x4.Kind=x5.Kind)&&(decide (x4.Day=x5.Day)&&(decide (x4.Bn=x5.Bn)&&(decide (x4.Of.Aq=x5.Of.Aq)&&(decide (x4.Of.No=x5.Of.No)&&(x4.Text.toList==x5.Text.toList))))))))) then
   some (.ret false)
  else
   some (.next (ab (i2+1)))
 else
  some (.brk ())
def fK.h0 (ic:(List Ab)) (pA:(List Ab)):Int->St:=fun i2=>⟨[(0,.sl 8 (List.map Ab.c ic)),(1,.sl 8 (List.map Ab.c pA)),(12,.int .i64 (ic.length:Int)),(13,.int .i64 i2)],[],[],1,Tryz.f75.ntmps⟩
def fK.x0:Unit->St:=fun _=>⟨[],[],[],1,Tryz.f75.ntmps⟩
def fK (k:Nat) (ic:(List Ab)) (pA:(List Ab)):Option (Bool):=
 bif (!decide ((ic.length:Int)=(pA.length:Int))) then
  some false
 else
  (aj (fK.b0 k ic pA) k 0).bind fun r7=>match r7 with
  |.next _=>none
  |.ret v_=>some v_
  |.brk _=>
   some true
theorem aqO (k:Nat) (ic:(List Ab)) (pA:(List Ab)) (r:Bool) (h0:fK k ic pA=some r):Ay Tryz.prog 75 [.sl 8 (List.map Ab.c ic),.sl 8 (List.map Ab.c pA)] (fun y=>y=.bool r):=by
 refine PB Tryz.f75 EL.c [.tmp 4] ?_
 simp only[fK]at h0
 try simp only[EL.c,go_sem]
 refine Cr h0 ?_ ?_<;>intro c1 h0<;>have F:=c1<;>try simp only[F,go_sem]
 obtain rfl:=oi h0
 refine Ag rfl ?_
 try simp only[F,go_sem]
 obtain⟨r7,kX,h0⟩:=bs h0
 refine Bf kX (fK.h0 ic pA) (fK.x0) ?_ ?_ ?_
 refine Ai.go [0,1,12,13] [] rfl ?_
 try simp only[fK.h0,F,go_sem]
 rintro i2 cP Bl Bm h1 aH aF bL
 refine rS ?_
 simp only[fK.b0]at h1
 try simp only[EL.s0,fK.h0,F,go_sem]
 refine AF F h1 ?_ ?_<;>intro F h1<;>try simp only[F,go_sem]
 refine AL AB aQ 1000 ?_
 try simp only[F,go_sem]
 obtain⟨x4,bS,h1⟩:=bs h1
 have F:=an (aC bS) (an (aE Ab.c bS) F)
 try simp only[F,go_sem]
 obtain⟨x5,cE,h1⟩:=bs h1
 have F:=an (aC cE) (an (aE Ab.c cE) F)
 try simp only[F,go_sem]
 refine aK ?_
 try simp only[F,go_sem]
 refine Bx F h1 ?_ ?_<;>intro F h1<;>try simp only[F,go_sem]
 obtain rfl:=bL _ (oi h1).symm
 simp only at h0
 obtain rfl:=oi h0
 refine Ag rfl ?_
 try simp only[F,go_sem]
 refine AD (aH _ _ (oi h1).symm (Ai.go [0,1,12,13] [] rfl ?_))
 try simp only[fK.h0,F,go_sem]
 refine AD (aF _ _ (oi h1).symm (Ai.go [] [] rfl ?_))
 try simp only[fK.x0,F,go_sem]
 rintro _ aI
 subst aI
 simp only at h0
 refine rS ?_
 try simp only[fK.x0,F,go_sem]
 obtain rfl:=oi h0
 refine Ag rfl ?_
 try simp only[F,go_sem]
def He.c:SC:=
 SQ [RG [wE 2 36 0 [0],wE 3 42 1 [1],wN 4 0 45 [4]],SQ [RG [wD 8 36 2,wU 9 71 8 36 4 [8],wQ 10 9 4 [9]],CN 10 (SQ [RG [wN 4 94 45],.ret]) .skip],RG [wD 11 36 2 [2],wU 12 40 11 36 99 [11],wU 13 42 12 99 99 [12],wG 5 13 99 [13]],RG [wV 15 5 99,wU 16 72 15 99 138 [15],wV 14 16 138 [16],wX 17 14 0 137,wX 18 14 1 4 [14],wA 6 137,wS 137 6 17 [17],wG 7 18 4 [18]],SQ [RG [wV 19 7 4 [7],wQ 20 19 4 [19],
 wV 21 20 4 [20],gd 21 false (wF 22 42 3 1),gd 21 false (wD 23 3 22 [22]),gd 21 false (wF 24 137 6 1),gd 21 false (wD 25 3 24 [24]),gd 21 false (wO 26 .neq 3 23 25 3 4 [23,25]),wT 27 21 26 4 [21,26],wV 28 27 4 [27],gd 28 false (wF 29 42 3 3),gd 28 false (wD 30 3 29 [29]),gd 28 false (wF 31 137 6 3),gd 28 false (wD 32 3 31 [31]),gd 28 false (wO 33 .neq 3 30 32 3 4 [30,32]),wT 34 28 33 4 [28,33],
 wV 35 34 4 [34],gd 35 false (wF 36 42 3 0),gd 35 false (wF 37 40 36 0 [36]),gd 35 false (wD 38 38 37 [37]),gd 35 false (wF 39 137 6 4),gd 35 false (wF 40 40 39 0 [39]),gd 35 false (wD 41 38 40 [40]),gd 35 false (wW 42 75 38 41 38 38 4 [38,41]),gd 35 false (wQ 43 42 4 [42]),wT 44 35 43 4 [35,43],wV 45 44 4 [44],gd 45 false (wF 46 42 3 2),gd 45 false (wD 47 3 46 [46]),
 gd 45 false (wC 48 69 #[.tmp 47,.const (.int .i64 1),.const (.int .i64 1000000)] #[3,3,3] 4 [47]),gd 45 false (wQ 49 48 4 [48]),wT 50 45 49 4 [45,49]],CN 50 (SQ [RG [wN 4 94 45],.ret]) .skip],SQ [.aL [wF 51 42 3 2,wD 52 3 51,wV 53 5 99,wC 54 73 #[.tmp 53,.const (.int .i64 0),.const (.int .i64 0)] #[99,3,3] 3,wV 55 5 99,wC 56 73 #[.tmp 55,.const (.int .i64 1),.const (.int .i64 0)] #[99,3,3] 3,
 oQ 57 (.call ⟨.builtin .max,#[.tmp 54,.tmp 56],#[3,3]⟩) 3,wO 58 .lss 3 52 57 3 4,wV 59 58 4,gd 59 false (wF 60 42 3 2),gd 59 false (wD 61 3 60),gd 59 false (wV 62 5 99),gd 59 false (wF 63 137 6 1),gd 59 false (wD 64 3 63),gd 59 false (wF 65 137 6 3),gd 59 false (wD 66 3 65),gd 59 false (wC 67 73 #[.tmp 62,.tmp 64,.tmp 66] #[99,3,3] 3),gd 59 false (wO 68 .leq 3 61 67 3 4),wT 69 59 68 4] [[],[0],[],
 [2],[],[4,2,3],[2,3,4,5],[0,1,2,3,4,5,6],[0,1,2,3,4,5,6,7],[0,1,2,3,4,5,6,7,8],[0,1,2,3,4,5,6,7,8,9],[0,1,2,3,4,5,6,7,8],[0,1,2,3,4,5,6,7,8],[0,1,2,3,4,5,6,7,8,12],[0,1,2,3,4,5,6,7,8],[0,1,2,3,4,5,6,7,8,14],[0,1,2,3,4,5,6,7,8,11,12,13,14,15],[0,1,2,3,4,5,6,7,8,9,10,11,12,13,14,15,16],[0,1,2,3,4,5,6,7,8,9,10,11,12,13,14,15,16,17]] [3,5,6,51,52,53,54,55,56,57,58,59,60,61,62,63,64,65,66,67,68],
 CN 69 (SQ [RG [wN 4 94 45],.ret]) .skip],RG [wN 4 0 45],.ret]
def mJ (k:Nat) (d0:Ac) (l1:Aw):Option (Int):=
 (tF k d0).bind fun x1=>
 bif (!x1) then
  some 94
 else
  (mK k d0).bind fun x4=>
  (fA k x4).bind fun x6=>
  (vC k (⟨(⟨x6.Ac.Af,[]⟩:Ac)⟩:az)).bind fun x7=>
  bif x7.2 then
   bif decide (l1.Bj=x7.1.aV) then
    bif decide (l1.Used=x7.1.used) then
     (fK k l1.Ah.Aj x7.1.book.Aj).bind fun cT=>
     bif cT then
      (lR k l1.Ax 1 1000000).bind fun cI=>
      bif (!cI) then
       some 94
      else
       (dF k (⟨(⟨x6.Ac.Af,[]⟩:Ac)⟩:az) 0 0).bind fun cU=>
       (dF k (⟨(⟨x6.Ac.Af,[]⟩:Ac)⟩:az) 1 0).bind fun dt=>
       bif (!decide (l1.Ax<max cU dt)) then
        (dF k (⟨(⟨x6.Ac.Af,[]⟩:Ac)⟩:az) x7.1.aV x7.1.used).bind fun kU=>
        bif decide (l1.Ax<=kU) then
         some 94
        else
         some 0
       else
        some 94
     else
      some 94
    else
     some 94
   else
    some 94
  else
   some 94
theorem af2 (k:Nat) (d0:Ac) (l1:Aw) (r:Int) (h0:mJ k d0 l1=some r):Ay Tryz.prog 37 [.agg (Ac.c d0),.agg (Aw.c l1)] (fun y=>y=.int .i64 r):=by
 refine PB Tryz.f37 He.c [.tmp 4] ?_
 simp only[mJ]at h0
 try simp only[He.c,go_sem]
 refine au h0 (ada k _) ?_ (fun x1 h0=>?_)<;>try simp only[go_sem]
 refine Cr h0 ?_ ?_<;>intro c2 h0<;>have F:=c2<;>try simp only[F,go_sem]
 obtain rfl:=oi h0
 refine Ag rfl ?_
 try simp only[F,go_sem]
 obtain⟨x4,bS,h0⟩:=bs h0
 refine CJ AB 1000 [] [] (tD k _ _ bS) ?_ rfl ?_
 try simp only[fS,F,go_sem]
 try simp only[F,go_sem]
 obtain⟨x6,ee,h0⟩:=bs h0
 refine CR [3,10] [112,113,114,16] 4 rfl ?_
 try simp only[F,go_sem]
 refine CQ (vD k _ _ ee) ?_ ?_
 try simp only[F,go_sem]
 try simp only[List.take_succ_cons,List.drop_succ_cons,AA,Az,F,go_sem]
 refine AK.tf (Ai.fz 1 rfl (fun _ h=>by cases h)) ?_
 try simp only[F,go_sem]
 refine AK.aiD 0 1 65 rfl rfl ?_
 try simp only[F,go_sem]
 refine AK.tf (Ai.fz 0 rfl (fun _ h=>by cases h;rfl)) ?_
 try simp only[F,go_sem]
 refine rS ?_
 try simp only[F,go_sem]
 refine au h0 (af9 k _) ?_ (fun x7 h0=>?_)<;>try simp only[F,go_sem]
 refine AF F h0 ?_ ?_<;>intro F h0<;>try simp only[F,go_sem]
 refine AF F h0 ?_ ?_<;>intro F h0<;>try simp only[F,go_sem]
 refine AF F h0 ?_ ?_<;>intro F h0<;>try simp only[F,go_sem]
 refine au h0 (aqO k _ _) ?_ (fun cT h0=>?_)<;>try simp only[F,go_sem]
 refine AF F h0 ?_ ?_<;>intro F h0<;>try simp only[F,go_sem]
 refine au h0 (pW k _ _ _) ?_ (fun cI h0=>?_)<;>try simp only[F,go_sem]
 refine Bx F h0 ?_ ?_<;>intro F h0<;>try simp only[F,go_sem]
 obtain rfl:=oi h0
 refine Ag rfl ?_
 try simp only[F,go_sem]
 refine AL AB aQ 1000 ?_
 try simp only[F,go_sem]
 refine cz h0 (yf k _ _ _) ?_ (fun cU h0=>?_)<;>try simp only[F,go_sem]
 refine cz h0 (yf k _ _ _) ?_ (fun dt h0=>?_)<;>try simp only[F,go_sem]
 refine Fi F h0 ?_ ?_<;>intro F h0<;>try simp only[F,go_sem]
 refine cz h0 (yf k _ _ _) ?_ (fun kU h0=>?_)<;>try simp only[F,go_sem]
 refine aK ?_
 try simp only[F,go_sem]
 refine AF F h0 ?_ ?_<;>intro F h0<;>try simp only[F,go_sem]
 obtain rfl:=oi h0
 refine Ag rfl ?_
 try simp only[F,go_sem]
 obtain rfl:=oi h0
 refine Ag rfl ?_
 try simp only[F,go_sem]
 refine aK ?_
 try simp only[F,go_sem]
 obtain rfl:=oi h0
 refine Ag rfl ?_
 try simp only[F,go_sem]
 obtain rfl:=oi h0
 refine Ag rfl ?_
 try simp only[F,go_sem]
 obtain rfl:=oi h0
 refine Ag rfl ?_
 try simp only[F,go_sem]
 obtain rfl:=oi h0
 refine Ag rfl ?_
 try simp only[F,go_sem]
 obtain rfl:=oi h0
 refine Ag rfl ?_
 try simp only[F,go_sem]
def Hg.c:SC:=
 SQ [RG [wE 1 42 0 [0],wA 2 42],RG [wF 3 42 1 0,wD 4 40 3 [3],wU 5 76 4 40 40 [4],wF 6 42 1 0,wS 40 6 5 [5,6]],RG [wD 7 42 1 [1],wS 42 2 7 [7]],.ret]
def ry (k:Nat) (l0:Aw):Option (Aw):=
 (vA k l0.Ah).bind fun x1=>
 some (⟨x1,l0.Bj,l0.Ax,l0.Used⟩:Aw)
theorem af8 (k:Nat) (l0:Aw) (r:Aw) (h0:ry k l0=some r):Ay Tryz.prog 38 [.agg (Aw.c l0)] (fun y=>y=.agg (Aw.c r)):=by
 refine PB Tryz.f38 Hg.c [.cell 2 42] ?_
 simp only[ry]at h0
 try simp only[Hg.c,go_sem]
 refine au h0 (af7 k _) ?_ (fun x1 h0=>?_)<;>try simp only[go_sem]
 obtain rfl:=oi h0
 refine Ag rfl ?_
 try simp only[go_sem]
def Dd.s1:SC:=
 .block 3 (SQ [RG [wV 37 2 3,wV 38 9 3,wO 39 .add 3 37 38 3 3 [37,38],wK 40 .rem 3 39 2 3 3 [39],wV 41 3 97,wV 42 9 3,wI 43 97 41 42 [41,42],wD 44 105 43 [43],wI 45 113 11 40 [40],wS 92 45 44 [44,45]],RG [wV 46 9 3 [9],wK 47 .add 3 46 1 3 3 [46],wG 9 47 3 [47]],RG [wV 48 9 3,wV 49 3 97,wL 50 49 97 3 [49],wO 51 .eql 3 48 50 3 4 [48,50],wV 52 51 4 [51],gd 52 false (wV 53 2 3),gd 52 false (wV 54 9 3),
 gd 52 false (wO 55 .add 3 53 54 3 3 [53,54]),gd 52 false (wK 56 .rem 3 55 2 3 3 [55]),gd 52 false (wK 57 .eql 3 56 0 3 4 [56]),wT 58 52 57 4 [52,57]],CN 58 (.exit 2) .skip])
def Dd.s0:SC:=
 SQ [SQ [RG [wV 18 9 3,wV 19 3 97,wL 20 19 97 3 [19],wO 21 .lss 3 18 20 3 4 [18,20]],CN 21 .skip (.exit 0)],.block 1 (SQ [RG [wV 22 1 3,wK 23 .mul 3 22 301 3 3 [22],wV 24 2 3,wV 25 9 3,wO 26 .add 3 24 25 3 3 [24,25],wK 27 .quo 3 26 2 3 3 [26],wO 28 .add 3 23 27 3 3 [23,27],wG 10 28 3 [28]],RG [wV 29 8 99,oQ 30 (.nilCheck (.tmp 29)) 0 [29],wF 31 102 30 0 [30],wF 32 36 31 0 [31],wD 33 33 32 [32],
 wV 34 10 3,wI 35 33 33 34 [33,34],wD 36 113 35 [35],wA 11 113,wS 113 11 36 [36]],.block 2 (.loop Dd.s1),.aL [wV 59 0 99,wV 60 0 99,oQ 61 (.nilCheck (.tmp 60)) 0,wF 62 102 61 0,wF 63 36 62 1,wD 64 34 63,wV 65 10 3,wD 66 113 11,oQ 67 (.build 116 #[(0,.tmp 65),(1,.tmp 66)]) 116,oQ 68 (.buildSlice 34 1 #[(0,.tmp 67)]) 34,wP 69 64 68 34 34 34,oQ 70 (.nilCheck (.tmp 59)) 0,wF 71 102 70 0,
 wF 72 36 71 1,wS 34 72 69] [[],[],[1],[1,2],[1,2,3],[1,2,3,4],[],[],[6,7],[6,7,8],[1,2,3,4,5,6,7,8,9],[0,1,2,3,4,5,6,7,8,9,10],[0,1,2,3,4,5,6,7,8,9,10,11],[0,1,2,3,4,5,6,7,8,9,10,11,12],[0,1,2,3,4,5,6,7,8,9,10,11,12,13]] [10,11,59,60,61,62,63,64,65,66,67,68,69,70,71,72]])]
def Dd.c:SC:=
 SQ [RG [wV 12 0 99,oQ 13 (.nilCheck (.tmp 12)) 0 [12],wF 14 102 13 0 [13],wD 15 36 14 [14],wU 16 40 15 36 99 [15],wU 17 42 16 99 99 [16],wG 8 17 99 [17]],RG [wN 9 0 3],.block 0 (.loop Dd.s0)]
theorem Dd.rs:Tryz.f43.results.toList=[]:=rfl
def bK.b1 (k:Nat) (aX:Int) (l3:(List (Aa 32 Int))):((Aa 2 (Aa 32 Int))×Int)->Option (AT ((Aa 2 (Aa 32 Int))×Int) ((Aa 2 (Aa 32 Int))×Int) (az)):=fun s=>match s with
 |(ic,i11)=>
   (at? l3 i11).bind fun bJ=>
   (ic.at? (Int.tmod (ab (aX+i11)) 2)).bind fun cU=>
   bif (!decide (ab (i11+1)=(l3.length:Int))) then
    bif decide (Int.tmod (ab (aX+(ab (i11+1)))) 2=(0:Int)) then
     some (.brk (ic.set (Int.tmod (ab (aX+i11)) 2) bJ,ab (i11+1)))
    else
     some (.next (ic.set (Int.tmod (ab (aX+i11)) 2) bJ,ab (i11+1)))
   else
    some (.brk (ic.set (Int.tmod (ab (aX+i11)) 2) bJ,ab (i11+1)))
def bK.b0 (k:Nat) (aW:Int) (aX:Int) (l3:(List (Aa 32 Int))) (x4:az):(Int×(List Ao))->Option (AT (Int×(List Ao)) ((List Ao)) (az)):=fun s=>match s with
 |(i5,l6)=>
   bif decide (i5<(l3.length:Int)) then
    (at? x4.Ac.Af (ab ((ab (aW*301))+(ab (Int.tdiv (ab (aX+i5)) 2))))).bind fun x9=>
    (aj (bK.b1 k aX l3) k (x9,i5)).bind fun r19=>match r19 with
    |.next _=>none
    |.ret v_=>some (.ret v_)
    |.brk (s12,i13)=>
     (fJ 72 l6 (⟨ab ((ab (aW*301))+(ab (Int.tdiv (ab (aX+i5)) 2))),s12⟩:Ao)).bind fun sC=>
     some (.next (i13,sC))
   else
    some (.brk l6)
def bK.h1 (f1:Au) (H:Heap) (d0:az) (aW:Int) (aX:Int) (l3:(List (Aa 32 Int))) (x4:az) (i5:Int) (l6:(List Ao)):((Aa 2 (Aa 32 Int))×Int)->St:=fun s=>match s with
 |(ic,i11)=>⟨[(0,.ptr 1 0 0),(1,.int .i64 aW),(2,.int .i64 aX),(3,.sl 32 (List.map (Aa.c (n:=32) af) l3)),(8,.ptr 0 0 0),(9,.int .i64 i11),(10,.int .i64 (ab ((ab (aW*301))+(ab (Int.tdiv (ab (aX+i5)) 2))))),(11,.ptr 0 2 0)],[(0,.box ([.loc 0 1 64 0 x4.Ac.Af.length x4.Ac.Af.length,.nil])),(1,.arr 113 64 (List.map (Aa.c (n:=2) (Aa.c (n:=32) af)) x4.Ac.Af)),(2,.box (Aa.c (n:=2) (Aa.c (n:=32) af) ic))],((0,.box ([.loc 0 1 64 0 d0.Ac.Af.length d0.Ac.Af.length,.loc 0 2 65 0 l6.length l6.length]))::(1,.arr 113 64 (List.map (Aa.c (n:=2) (Aa.c (n:=32) af)) d0.Ac.Af))::(2,.arr 116 65 (List.map Ao.c l6))::f1)::H,3,Tryz.f43.ntmps⟩
def bK.x1 (f1:Au) (H:Heap) (d0:az) (aW:Int) (aX:Int) (l3:(List (Aa 32 Int))) (x4:az) (i5:Int) (l6:(List Ao)):((Aa 2 (Aa 32 Int))×Int)->St:=fun s=>match s with
 |(s12,i13)=>⟨[(0,.ptr 1 0 0),(1,.int .i64 aW),(2,.int .i64 aX),(3,.sl 32 (List.map (Aa.c (n:=32) af) l3)),(8,.ptr 0 0 0),(9,.int .i64 i13),(10,.int .i64 (ab ((ab (aW*301))+(ab (Int.tdiv (ab (aX+i5)) 2))))),(11,.ptr 0 2 0)],[(0,.box ([.loc 0 1 64 0 x4.Ac.Af.length x4.Ac.Af.length,.nil])),(1,.arr 113 64 (List.map (Aa.c (n:=2) (Aa.c (n:=32) af)) x4.Ac.Af)),(2,.box (Aa.c (n:=2) (Aa.c (n:=32) af) s12))],((0,.box ([.loc 0 1 64 0 d0.Ac.Af.length d0.Ac.Af.length,.loc 0 2 65 0 l6.length l6.length]))::(1,.arr 113 64 (List.map (Aa.c (n:=2) (Aa.c (n:=32) af)) d0.Ac.Af))::(2,.arr 116 65 (List.map Ao.c l6))::f1)::H,3,Tryz.f43.ntmps⟩
def bK.h0 (f1:Au) (H:Heap) (d0:az) (aW:Int) (aX:Int) (l3:(List (Aa 32 Int))) (x4:az):(Int×(List Ao))->St:=fun s=>match s with
 |(i5,l6)=>⟨[(0,.ptr 1 0 0),(1,.int .i64 aW),(2,.int .i64 aX),(3,.sl 32 (List.map (Aa.c (n:=32) af) l3)),(8,.ptr 0 0 0),(9,.int .i64 i5)],[(0,.box ([.loc 0 1 64 0 x4.Ac.Af.length x4.Ac.Af.length,.nil])),(1,.arr 113 64 (List.map (Aa.c (n:=2) (Aa.c (n:=32) af)) x4.Ac.Af))],((0,.box ([.loc 0 1 64 0 d0.Ac.Af.length d0.Ac.Af.length,.loc 0 2 65 0 l6.length l6.length]))::(1,.arr 113 64 (List.map (Aa.c (n:=2) (Aa.c (n:=32) af)) d0.Ac.Af))::(2,.arr 116 65 (List.map Ao.c l6))::f1)::H,2,Tryz.f43.ntmps⟩
def bK.x0 (f1:Au) (H:Heap) (d0:az):(List Ao)->St:=fun l7=>⟨[],[],((0,.box ([.loc 0 1 64 0 d0.Ac.Af.length d0.Ac.Af.length,.loc 0 2 65 0 l7.length l7.length]))::(1,.arr 113 64 (List.map (Aa.c (n:=2) (Aa.c (n:=32) af)) d0.Ac.Af))::(2,.arr 116 65 (List.map Ao.c l7))::f1)::H,1,Tryz.f43.ntmps⟩
def bK (k:Nat) (d0:az) (aW:Int) (aX:Int) (l3:(List (Aa 32 Int))):Option (az):=
 (mK k d0.Ac).bind fun x2=>
 (fA k x2).bind fun x4=>
 (aj (bK.b0 k aW aX l3 x4) k (0,d0.Ac.Ad)).bind fun sP=>match sP with
 |.next _=>none
 |.ret v_=>some v_
 |.brk l7=>
  some (⟨(⟨d0.Ac.Af,l7⟩:Ac)⟩:az)
theorem ac8 (k:Nat) (d0:az) (aW:Int) (aX:Int) (l3:(List (Aa 32 Int))) (r:az) (h0:bK k d0 aW aX l3=some r):Dr Tryz.prog 43 [.ptr 1 0 0,.int .i64 aW,.int .i64 aX,.sl 32 (List.map (Aa.c (n:=32) af) l3)] [(0,.box ([.loc 0 1 64 0 d0.Ac.Af.length d0.Ac.Af.length,.loc 0 2 65 0 d0.Ac.Ad.length d0.Ac.Ad.length])),(1,.arr 113 64 (List.map (Aa.c (n:=2) (Aa.c (n:=32) af)) d0.Ac.Af)),(2,.arr 116 65 (List.map Ao.c d0.Ac.Ad))] (fun y fr X'=>y=.ar []/\fr=[]/\X'=[(0,.box ([.loc 0 1 64 0 r.Ac.Af.length r.Ac.Af.length,.loc 0 2 65 0 r.Ac.Ad.length r.Ac.Ad.length])),(1,.arr 113 64 (List.map (Aa.c (n:=2) (Aa.c (n:=32) af)) r.Ac.Af)),(2,.arr 116 65 (List.map Ao.c r.Ac.Ad))]):=by
 refine Dr.gr AB (fn:=Tryz.f43) (sc:=Dd.c) (by rfl) (by rfl) (by decide +kernel) (by rfl) (by decide +kernel) (Nat.le_of_ble_eq_true rfl) (fun f1 H=>?_)
 refine rS ?_
 simp only[Bg,Bt]
 simp only[bK]at h0
 try simp only[Dd.c,go_sem]
 obtain⟨x2,ec,h0⟩:=bs h0
 refine H8 AB 1000 (tD k _ _ ec) ?_ rfl ⟨(by simp[AG.lo,AV.lo]),Lf.map (Lf.vec (Lf.vec aes)) _,Lf.map ain _,trivial⟩ ?_
 try simp only[cQ,go_sem]
 try simp only[go_sem]
 obtain⟨x4,bS,h0⟩:=bs h0
 refine CR [0,1,2,3] [64,65,66] 3 rfl ?_
 try simp only[go_sem]
 refine CQ (vD k _ _ bS) ?_ ?_
 try simp only[go_sem]
 try simp only[List.take_succ_cons,List.drop_succ_cons,AA,Az,go_sem]
 refine rS ?_
 try simp only[go_sem]
 obtain⟨sP,aa0,h0⟩:=bs h0
 refine Bf aa0 (bK.h0 f1 H d0 aW aX l3 x4) (bK.x0 f1 H d0) ?_ ?_ ?_
 refine Ai.go [0,1,2,3,8,9] [0,1] rfl ?_
 try simp only[bK.h0,go_sem]
 repeat' (first|exact NL.refl _|exact NL.nil _|exact A7.refl _|exact A7.nil|exact Bz.refl _|exact Bz.nil|exact Cb.nil|exact BY.nil|refine Cb.cons _ _ _ _ _ ?_ ?_|refine BY.cons _ _ _ _ _ ?_ ?_|refine Cf.box _ _ ?_|refine Cf.arr _ _ _ _ ?_|refine A7.cons ?_ ?_|refine A7.append ?_ ?_|refine NL.mF ?_|refine NL.uW ?_|refine NL.xG ?_|refine Bz.append ?_ ?_|refine Bz.cons ?_ ?_|with_reducible refine And.intro ?_ ?_|rfl)
 rintro⟨i5,l6⟩ cP Bl Bm h1 aH aF bL
 refine rS ?_
 simp only[bK.b0]at h1
 try simp only[Dd.s0,bK.h0,go_sem]
 refine AR h1 ?_ ?_<;>intro c8 h1<;>have F:=c8<;>try simp only[F,go_sem]
 obtain⟨x9,fb,h1⟩:=bs h1
 have F:=an (aC fb) (an (aE (Aa.c (n:=2) (Aa.c (n:=32) af)) fb) F)
 try simp only[F,go_sem]
 obtain⟨r19,afA,h1⟩:=bs h1
 refine Bf afA (bK.h1 f1 H d0 aW aX l3 x4 i5 l6) (bK.x1 f1 H d0 aW aX l3 x4 i5 l6) ?_ ?_ ?_
 refine Ai.go [0,1,2,3,8,9,10,11] [0,1,322] rfl ?_
 try simp only[bK.h1,F,go_sem]
 repeat' (first|exact NL.refl _|exact NL.nil _|exact A7.refl _|exact A7.nil|exact Bz.refl _|exact Bz.nil|exact Cb.nil|exact BY.nil|refine Cb.cons _ _ _ _ _ ?_ ?_|refine BY.cons _ _ _ _ _ ?_ ?_|refine Cf.box _ _ ?_|refine Cf.arr _ _ _ _ ?_|refine A7.cons ?_ ?_|refine A7.append ?_ ?_|refine NL.mF ?_|refine NL.uW ?_|refine NL.xG ?_|refine Bz.append ?_ ?_|refine Bz.cons ?_ ?_|with_reducible refine And.intro ?_ ?_|rfl)
 rintro⟨ic,i11⟩ x_2 FD FE h2 qz rP aeg
 refine rS ?_
 simp only[bK.b1]at h2
 try simp only[Dd.s1,bK.h1,F,go_sem]
 obtain⟨bJ,pI,h2⟩:=bs h2
 have F:=an (aC pI) (an (aE (Aa.c (n:=32) af) pI) F)
 try simp only[F,go_sem]
 obtain⟨cU,pJ,h2⟩:=bs h2
 have acE:=Ap.bI gL (Ap.self fM ic) pJ
 have aaN:=acE.2
 try simp only[AA,Az,go_sem]at aaN
 have q16:=acE.1.ow bJ
 try simp only[AA,Az,go_sem]at q16
 have F:=an (aw pJ) (an aaN F)
 try simp only[q16,F,go_sem]
 refine Bx F h2 ?_ ?_<;>intro F h2<;>try simp only[F,go_sem]
 refine AF F h2 ?_ ?_<;>intro F h2<;>try simp only[F,go_sem]
 refine AD (rP _ _ (oi h2).symm (Ai.go [0,1,2,3,8,9,10,11] [0,1,2] rfl ?_))
 try simp only[bK.x1,F,go_sem]
 repeat' (first|exact NL.refl _|exact NL.nil _|exact A7.refl _|exact A7.nil|exact Bz.refl _|exact Bz.nil|exact Cb.nil|exact BY.nil|refine Cb.cons _ _ _ _ _ ?_ ?_|refine BY.cons _ _ _ _ _ ?_ ?_|refine Cf.box _ _ ?_|refine Cf.arr _ _ _ _ ?_|refine A7.cons ?_ ?_|refine A7.append ?_ ?_|refine NL.mF ?_|refine NL.uW ?_|refine NL.xG ?_|refine Bz.append ?_ ?_|refine Bz.cons ?_ ?_|with_reducible refine And.intro ?_ ?_|rfl)
 refine AD (qz _ _ (oi h2).symm (Ai.go [0,1,2,3,8,9,10,11] [0,1,2] rfl ?_))
 try simp only[bK.h1,F,go_sem]
 repeat' (first|exact NL.refl _|exact NL.nil _|exact A7.refl _|exact A7.nil|exact Bz.refl _|exact Bz.nil|exact Cb.nil|exact BY.nil|refine Cb.cons _ _ _ _ _ ?_ ?_|refine BY.cons _ _ _ _ _ ?_ ?_|refine Cf.box _ _ ?_|refine Cf.arr _ _ _ _ ?_|refine A7.cons ?_ ?_|refine A7.append ?_ ?_|refine NL.mF ?_|refine NL.uW ?_|refine NL.xG ?_|refine Bz.append ?_ ?_|refine Bz.cons ?_ ?_|with_reducible refine And.intro ?_ ?_|rfl)
 refine AD (rP _ _ (oi h2).symm (Ai.go [0,1,2,3,8,9,10,11] [0,1,2] rfl ?_))
 try simp only[bK.x1,F,go_sem]
 repeat' (first|exact NL.refl _|exact NL.nil _|exact A7.refl _|exact A7.nil|exact Bz.refl _|exact Bz.nil|exact Cb.nil|exact BY.nil|refine Cb.cons _ _ _ _ _ ?_ ?_|refine BY.cons _ _ _ _ _ ?_ ?_|refine Cf.box _ _ ?_|refine Cf.arr _ _ _ _ ?_|refine A7.cons ?_ ?_|refine A7.append ?_ ?_|refine NL.mF ?_|refine NL.uW ?_|refine NL.xG ?_|refine Bz.append ?_ ?_|refine Bz.cons ?_ ?_|with_reducible refine And.intro ?_ ?_|rfl)
 rintro⟨s12,i13⟩ aI
 subst aI
 simp only at h1
 refine rS ?_
 try simp only[bK.x1,F,go_sem]
 refine AL AB aQ 1000 ?_
 try simp only[F,go_sem]
 obtain⟨sC,aaX,h1⟩:=bs h1
 have tr:=pu Ao.c aaX
 try simp only[F,go_sem]at tr
 have F:=an tr F
 try simp only[F,go_sem]
 refine aK ?_
 try simp only[F,go_sem]
 refine AD (aH _ _ (oi h1).symm (Ai.go [0,1,2,3,8,9] [0,1] rfl ?_))
 try simp only[bK.h0,F,go_sem]
 repeat' (first|exact NL.refl _|exact NL.nil _|exact A7.refl _|exact A7.nil|exact Bz.refl _|exact Bz.nil|exact Cb.nil|exact BY.nil|refine Cb.cons _ _ _ _ _ ?_ ?_|refine BY.cons _ _ _ _ _ ?_ ?_|refine Cf.box _ _ ?_|refine Cf.arr _ _ _ _ ?_|refine A7.cons ?_ ?_|refine A7.append ?_ ?_|refine NL.mF ?_|refine NL.uW ?_|refine NL.xG ?_|refine Bz.append ?_ ?_|refine Bz.cons ?_ ?_|with_reducible refine And.intro ?_ ?_|rfl)
 refine AD (aF _ _ (oi h1).symm (Ai.go [] [] rfl ?_))
 try simp only[bK.x0,F,go_sem]
 rintro l7 aI
 subst aI
 simp only at h0
 refine rS ?_
 try simp only[bK.x0,go_sem]
 obtain rfl:=oi h0
 refine FB (by simp) ?_ ?_
 try simp only[Dd.rs,b9,Ae,go_sem]
 try simp only[Bg,Bt,go_sem]
def Hc.c:SC:=
 SQ [RG [wE 3 36 0 [0],wE 4 42 1 [1],wE 5 29 2 [2],wA 6 36,wA 7 42,wN 8 0 45 [8]],SQ [RG [wD 15 36 3,wD 16 42 4,wW 17 37 15 16 36 42 45 [15,16],wG 9 17 45 [17]],RG [wV 18 9 45,wK 19 .neq 45 18 0 45 4 [18]],CN 19 (SQ [RG [oQ 20 (.build 36 #[]) 36,oQ 21 (.build 42 #[]) 42,wV 22 9 45 [9],wS 36 6 20 [20],wS 42 7 21 [21],wG 8 22 45 [22]],.ret]) .skip],RG [wF 24 42 4 0,wD 25 40 24 [24],wD 26 29 5,
 wW 27 70 25 26 40 29 133 [25,26],wV 23 27 133 [27],wX 28 23 0 40,wX 29 23 1 45 [23],wA 10 40,wS 40 10 28 [28],wG 11 29 45 [29]],SQ [RG [wV 30 11 45,wK 31 .neq 45 30 0 45 4 [30]],CN 31 (SQ [RG [oQ 32 (.build 36 #[]) 36,oQ 33 (.build 42 #[]) 42,wV 34 11 45 [11],wS 36 6 32 [32],wS 42 7 33 [33],wG 8 34 45 [34]],.ret]) .skip],RG [wD 35 36 3 [3],wU 36 40 35 36 99 [35],wG 12 36 99 [36]],RG [wD 37 42 4,
 wU 38 38 37 42 42 [37],wA 13 42,wS 42 13 38 [38]],SQ [RG [wF 39 40 10 0,wD 40 38 39 [39],wL 41 40 38 3 [40],wF 42 42 4 0,wF 43 40 42 0 [42],wD 44 38 43 [43],wL 45 44 38 3 [44],wO 46 .eql 3 41 45 3 4 [41,45]],CN 46 (SQ [.aL [wV 47 12 99,oQ 48 (.nilCheck (.tmp 47)) 0,wF 49 102 48 0,wD 50 36 49,wD 51 42 13,wS 36 6 50,wS 42 7 51,wN 8 0 45] [[],[0],[0,1],[0,1,2],[],[0,1,2,3],[4,0,1,2,3,5],[4,0,1,2,3,
 5,6]] [12,13,47,48,49,50,51],.ret]) .skip],RG [wD 52 29 5 [5],wF 53 42 4 0,wF 54 40 53 0 [53],wD 55 38 54 [54],wL 56 55 38 3 [55],wF 57 42 4 2,wD 58 3 57 [57],wC 59 39 #[.tmp 52,.tmp 56,.tmp 58] #[29,3,3] 97 [52,56,58],wG 14 59 97 [59]],SQ [RG [wF 60 42 4 3,wD 61 3 60 [60],wV 62 14 97,wL 63 62 97 3 [62],wO 64 .add 3 61 63 3 3 [61,63],wK 65 .gtr 3 64 602 3 4 [64]],
 CN 65 (SQ [RG [oQ 66 (.build 36 #[]) 36,oQ 67 (.build 42 #[]) 42,wS 36 6 66 [66],wS 42 7 67 [67],wN 8 2 45],.ret]) .skip],RG [wV 68 12 99,wF 69 42 4 1,wD 70 3 69 [69],wF 71 42 4 3,wD 72 3 71 [71],wV 73 14 97,wC 74 43 #[.tmp 68,.tmp 70,.tmp 72,.tmp 73] #[99,3,3,97] 0 [68,70,72,73,74]],SQ [RG [wV 75 12 99,oQ 76 (.nilCheck (.tmp 75)) 0 [75],wF 77 102 76 0 [76],wF 78 36 77 1 [77],wD 79 34 78 [78],
 wL 80 79 34 3 [79],wK 81 .gtr 3 80 1200 3 4 [80]],CN 81 (SQ [RG [oQ 82 (.build 36 #[]) 36,oQ 83 (.build 42 #[]) 42,wS 36 6 82 [82],wS 42 7 83 [83],wN 8 2 45],.ret]) .skip],.aL [wD 84 40 10,wF 85 42 4 3,wD 86 3 85,wV 87 14 97,wL 88 87 97 3,wO 89 .add 3 86 88 3 3,wF 90 42 13 0,wS 40 90 84,wF 91 42 13 3,wS 3 91 89] [[],[],[1],[],[3],[1,2,3,4],[0],[0,6],[0,1,2,3,4,5,6,7],[0,1,2,3,4,5,6,7,8]] [4,10,
 14,84,85,86,87,88,89,90,91],.aL [wV 92 12 99,oQ 93 (.nilCheck (.tmp 92)) 0,wF 94 102 93 0,wD 95 36 94,wD 96 42 13,wS 36 6 95,wS 42 7 96,wN 8 0 45] [[],[0],[0,1],[0,1,2],[],[0,1,2,3],[4,0,1,2,3,5],[4,0,1,2,3,5,6]] [12,13,92,93,94,95,96],.ret]
def mI (k:Nat) (d0:Ac) (l1:Aw) (r2:Ab):Option (Ac×Aw×Int):=
 (mJ k d0 l1).bind fun x1=>
 bif (!decide (x1=(0:Int))) then
  some ((⟨[],[]⟩:Ac),(⟨(⟨[]⟩:Ah),0,0,0⟩:Aw),x1)
 else
  (rv k l1.Ah r2).bind fun x3=>
  bif (!decide (x3.2=(0:Int))) then
   some ((⟨[],[]⟩:Ac),(⟨(⟨[]⟩:Ah),0,0,0⟩:Aw),x3.2)
  else
   (mK k d0).bind fun x6=>
   (ry k l1).bind fun x7=>
   bif decide ((x3.1.Aj.length:Int)=(l1.Ah.Aj.length:Int)) then
    some (x6.Ac,x7,0)
   else
    (ga k r2 (l1.Ah.Aj.length:Int) l1.Ax).bind fun x9=>
    bif decide ((602:Int)<ab (l1.Used+(x9.length:Int))) then
     some ((⟨[],[]⟩:Ac),(⟨(⟨[]⟩:Ah),0,0,0⟩:Aw),2)
    else
     (bK k x6 l1.Bj l1.Used x9).bind fun ij=>
     bif decide ((1200:Int)<((ij.Ac.Ad.length:Nat):Int)) then
      some ((⟨[],[]⟩:Ac),(⟨(⟨[]⟩:Ah),0,0,0⟩:Aw),2)
     else
      some (ij.Ac,(⟨x3.1,x7.Bj,x7.Ax,ab (l1.Used+(x9.length:Int))⟩:Aw),0)
theorem af1 (k:Nat) (d0:Ac) (l1:Aw) (r2:Ab) (r:Ac×Aw×Int) (h0:mI k d0 l1 r2=some r):Ay Tryz.prog 32 [.agg (Ac.c d0),.agg (Aw.c l1),.agg (Ab.c r2)] (fun y=>y=.ar [.agg (Ac.c r.1),.agg (Aw.c r.2.1),.int .i64 r.2.2]):=by
 refine PB Tryz.f32 Hc.c [.cell 6 36,.cell 7 42,.tmp 8] ?_
 simp only[mI]at h0
 try simp only[Hc.c,go_sem]
 refine au h0 (af2 k _ _) ?_ (fun x1 h0=>?_)<;>try simp only[go_sem]
 refine Cr h0 ?_ ?_<;>intro c2 h0<;>have F:=c2<;>try simp only[F,go_sem]
 obtain rfl:=oi h0
 refine Ag rfl ?_
 try simp only[F,go_sem]
 refine au h0 (ac7 k _ _) ?_ (fun x3 h0=>?_)<;>try simp only[F,go_sem]
 refine Bx F h0 ?_ ?_<;>intro F h0<;>try simp only[F,go_sem]
 obtain rfl:=oi h0
 refine Ag rfl ?_
 try simp only[F,go_sem]
 obtain⟨x6,ee,h0⟩:=bs h0
 refine CJ AB 1000 [] [] (tD k _ _ ee) ?_ rfl ?_
 try simp only[fS,F,go_sem]
 try simp only[F,go_sem]
 refine au h0 (af8 k _) ?_ (fun x7 h0=>?_)<;>try simp only[F,go_sem]
 refine AF F h0 ?_ ?_<;>intro F h0<;>try simp only[F,go_sem]
 refine AL AB aQ 1000 ?_
 try simp only[F,go_sem]
 refine aK ?_
 try simp only[F,go_sem]
 obtain rfl:=oi h0
 refine Ag rfl ?_
 try simp only[F,go_sem]
 refine au h0 (abk k _ _ _) ?_ (fun x9 h0=>?_)<;>try simp only[F,go_sem]
 refine AF F h0 ?_ ?_<;>intro F h0<;>try simp only[F,go_sem]
 obtain rfl:=oi h0
 refine Ag rfl ?_
 try simp only[F,go_sem]
 obtain⟨ij,pH,h0⟩:=bs h0
 refine CR [4,6,7,9,10,11,12,13,14,19,31,46,65] [400,401,402,16,48,49,50,64,65,304,464] 11 rfl ?_
 try simp only[F,go_sem]
 refine CQ (ac8 k _ _ _ _ _ pH) ?_ ?_
 try simp only[F,go_sem]
 try simp only[List.take_succ_cons,List.drop_succ_cons,AA,Az,F,go_sem]
 refine rS ?_
 try simp only[F,go_sem]
 refine AF F h0 ?_ ?_<;>intro F h0<;>try simp only[F,go_sem]
 obtain rfl:=oi h0
 refine Ag rfl ?_
 try simp only[F,go_sem]
 refine AL AB aQ 1000 ?_
 try simp only[F,go_sem]
 refine aK ?_
 try simp only[F,go_sem]
 refine AL AB aQ 1000 ?_
 try simp only[F,go_sem]
 refine aK ?_
 try simp only[F,go_sem]
 obtain rfl:=oi h0
 refine Ag rfl ?_
 try simp only[F,go_sem]
def Hb.c:SC:=
 SQ [RG [wE 1 29 0 [0],oQ 2 (.assign (.const (.slice none 0 0))) 82 [2],wN 3 0 45 [3]],SQ [RG [wD 5 29 1,wU 6 67 5 29 45 [5],wG 4 6 45 [6]],RG [wV 7 4 45,wK 8 .neq 45 7 0 45 4 [7]],CN 8 (SQ [RG [wV 9 4 45 [4],oQ 2 (.assign (.const (.slice none 0 0))) 82,wG 3 9 45 [9]],.ret]) .skip],RG [wD 10 29 1 [1],wU 11 68 10 29 82 [10],wG 2 11 82 [11],wN 3 0 45],.ret]
def ac5 (k:Nat) (r0:Ab):Option ((List Int)×Int):=
 (abh k r0).bind fun x1=>
 bif (!decide (x1=(0:Int))) then
  some ([],x1)
 else
  (cF k r0).bind fun x3=>
  some (x3,0)
theorem alL (k:Nat) (r0:Ab) (r:(List Int)×Int) (h0:ac5 k r0=some r):Ay Tryz.prog 30 [.agg (Ab.c r0)] (fun y=>y=.ar [.sl 1 (List.map af r.1),.int .i64 r.2]):=by
 refine PB Tryz.f30 Hb.c [.tmp 2,.tmp 3] ?_
 simp only[ac5]at h0
 try simp only[Hb.c,go_sem]
 refine au h0 (af3 k _) ?_ (fun x1 h0=>?_)<;>try simp only[go_sem]
 refine Cr h0 ?_ ?_<;>intro c2 h0<;>have F:=c2<;>try simp only[F,go_sem]
 obtain rfl:=oi h0
 refine Ag rfl ?_
 try simp only[F,go_sem]
 refine au h0 (af6 k _) ?_ (fun x3 h0=>?_)<;>try simp only[F,go_sem]
 obtain rfl:=oi h0
 refine Ag rfl ?_
 try simp only[F,go_sem]
def Hd.c:SC:=
 SQ [RG [wE 1 36 0 [0],wA 2 36,wA 3 42,wN 4 0 45 [4]],SQ [RG [wD 9 36 1,wU 10 71 9 36 4 [9],wQ 11 10 4 [10]],CN 11 (SQ [RG [oQ 12 (.build 36 #[]) 36,oQ 13 (.build 42 #[]) 42,wS 36 2 12 [12],wS 42 3 13 [13],wN 4 94 45],.ret]) .skip],RG [wD 14 36 1 [1],wU 15 40 14 36 99 [14],wU 16 42 15 99 99 [15],wG 5 16 99 [16]],RG [wV 18 5 99,wU 19 72 18 99 138 [18],wV 17 19 138 [19],wX 20 17 0 137,
 wX 21 17 1 4 [17],wA 6 137,wS 137 6 20 [20],wG 7 21 4 [21]],SQ [RG [wV 22 7 4 [7],wQ 23 22 4 [22]],CN 23 (SQ [RG [oQ 24 (.build 36 #[]) 36,oQ 25 (.build 42 #[]) 42,wS 36 2 24 [24],wS 42 3 25 [25],wN 4 95 45],.ret]) .skip],RG [wV 26 5 99,wC 27 73 #[.tmp 26,.const (.int .i64 0),.const (.int .i64 0)] #[99,3,3] 3 [26],wV 28 5 99,wC 29 73 #[.tmp 28,.const (.int .i64 1),.const (.int .i64 0)] #[99,3,
 3] 3 [28],oQ 30 (.call ⟨.builtin .max,#[.tmp 27,.tmp 29],#[3,3]⟩) 3 [27,29],oQ 31 (.binOp .add 3 (.const (.int .i64 1)) (.tmp 30) 3) 3 [30],wG 8 31 3 [31]],SQ [RG [wV 32 8 3,wK 33 .gtr 3 32 1000000 3 4 [32]],CN 33 (SQ [RG [oQ 34 (.build 36 #[]) 36,oQ 35 (.build 42 #[]) 42,wS 36 2 34 [34],wS 42 3 35 [35],wN 4 2 45],.ret]) .skip],.aL [wV 36 5 99,oQ 37 (.nilCheck (.tmp 36)) 0,wF 38 102 37 0,
 wD 39 36 38,wF 40 137 6 4,wD 41 40 40,wF 42 137 6 1,wD 43 3 42,wV 44 8 3,wF 45 137 6 3,wD 46 3 45,oQ 47 (.build 42 #[(0,.tmp 41),(1,.tmp 43),(2,.tmp 44),(3,.tmp 46)]) 42,wS 36 2 39,wS 42 3 47,wN 4 0 45] [[],[0],[0,1],[0,1,2],[],[4],[],[6],[],[],[9],[4,5,6,7,8,9,10],[0,1,2,3],[4,5,6,7,8,9,10,11,0,1,2,3,12],[4,5,6,7,8,9,10,11,0,1,2,3,12,13]] [5,6,8,36,37,38,39,40,41,42,43,44,45,46,47],.ret]
def od (k:Nat) (d0:Ac):Option (Ac×Aw×Int):=
 (tF k d0).bind fun x1=>
 bif (!x1) then
  some ((⟨[],[]⟩:Ac),(⟨(⟨[]⟩:Ah),0,0,0⟩:Aw),94)
 else
  (mK k d0).bind fun x4=>
  (fA k x4).bind fun x6=>
  (vC k (⟨(⟨x6.Ac.Af,[]⟩:Ac)⟩:az)).bind fun x7=>
  bif (!x7.2) then
   some ((⟨[],[]⟩:Ac),(⟨(⟨[]⟩:Ah),0,0,0⟩:Aw),95)
  else
   (dF k (⟨(⟨x6.Ac.Af,[]⟩:Ac)⟩:az) 0 0).bind fun x9=>
   (dF k (⟨(⟨x6.Ac.Af,[]⟩:Ac)⟩:az) 1 0).bind fun cm=>
   bif decide ((1000000:Int)<ab (1+(max x9 cm))) then
    some ((⟨[],[]⟩:Ac),(⟨(⟨[]⟩:Ah),0,0,0⟩:Aw),2)
   else
    some ((⟨((⟨(⟨x6.Ac.Af,[]⟩:Ac)⟩:az).Ac).Af,((⟨(⟨x6.Ac.Af,[]⟩:Ac)⟩:az).Ac).Ad⟩:Ac),(⟨x7.1.book,x7.1.aV,ab (1+(max x9 cm)),x7.1.used⟩:Aw),0)
theorem ac6 (k:Nat) (d0:Ac) (r:Ac×Aw×Int) (h0:od k d0=some r):Ay Tryz.prog 33 [.agg (Ac.c d0)] (fun y=>y=.ar [.agg (Ac.c r.1),.agg (Aw.c r.2.1),.int .i64 r.2.2]):=by
 refine PB Tryz.f33 Hd.c [.cell 2 36,.cell 3 42,.tmp 4] ?_
 simp only[od]at h0
 try simp only[Hd.c,go_sem]
 refine au h0 (ada k _) ?_ (fun x1 h0=>?_)<;>try simp only[go_sem]
 refine Cr h0 ?_ ?_<;>intro c2 h0<;>have F:=c2<;>try simp only[F,go_sem]
 obtain rfl:=oi h0
 refine Ag rfl ?_
 try simp only[F,go_sem]
 obtain⟨x4,bS,h0⟩:=bs h0
 refine CJ AB 1000 [] [] (tD k _ _ bS) ?_ rfl ?_
 try simp only[fS,F,go_sem]
 try simp only[F,go_sem]
 obtain⟨x6,ee,h0⟩:=bs h0
 refine CR [2,3,11] [128,129,130,16,17,18,32,33] 8 rfl ?_
 try simp only[F,go_sem]
 refine CQ (vD k _ _ ee) ?_ ?_
 try simp only[F,go_sem]
 try simp only[List.take_succ_cons,List.drop_succ_cons,AA,Az,F,go_sem]
 refine AK.tf (Ai.fz 1 rfl (fun _ h=>by cases h)) ?_
 try simp only[F,go_sem]
 refine AK.aiD 0 1 65 rfl rfl ?_
 try simp only[F,go_sem]
 refine AK.tf (Ai.fz 0 rfl (fun _ h=>by cases h;rfl)) ?_
 try simp only[F,go_sem]
 refine rS ?_
 try simp only[F,go_sem]
 refine au h0 (af9 k _) ?_ (fun x7 h0=>?_)<;>try simp only[F,go_sem]
 refine Bx F h0 ?_ ?_<;>intro F h0<;>try simp only[F,go_sem]
 obtain rfl:=oi h0
 refine Ag rfl ?_
 try simp only[F,go_sem]
 refine au h0 (yf k _ _ _) ?_ (fun x9 h0=>?_)<;>try simp only[F,go_sem]
 refine au h0 (yf k _ _ _) ?_ (fun cm h0=>?_)<;>try simp only[F,go_sem]
 refine AF F h0 ?_ ?_<;>intro F h0<;>try simp only[F,go_sem]
 obtain rfl:=oi h0
 refine Ag rfl ?_
 try simp only[F,go_sem]
 refine AL AB aQ 1000 ?_
 try simp only[F,go_sem]
 refine aK ?_
 try simp only[F,go_sem]
 obtain rfl:=oi h0
 refine Ag rfl ?_
 try simp only[F,go_sem]
def Dq.s1:SC:=
 SQ [RG [wK 42 .lss 3 41 2 3 0],CN 42 .skip (.exit 2),.block 3 (SQ [RG [wV 43 41 3,wG 9 43 3 [43]],RG [wV 44 8 3,wV 45 9 3,wO 46 .shr 3 44 45 3 3 [44,45],wK 47 .and 3 46 1 3 3 [46],wK 48 .eql 3 47 1 3 4 [47]],CN 48 (.aL [wV 49 5 99,oQ 50 (.nilCheck (.tmp 49)) 0,wF 51 102 50 0,wF 52 36 51 0,wD 53 33 52,wF 54 116 7 0,wD 55 3 54,wV 56 9 3,wV 57 9 3,wF 58 116 7 1,wI 59 113 58 57,wD 60 92 59,
 wI 61 33 53 55,wI 62 113 61 56,wS 92 62 60] [[],[0],[0,1],[0,1,2],[0,1,2,3],[],[5],[],[],[],[9,8],[9,8,10],[0,1,2,3,4,5,6],[0,1,2,3,4,5,6,12,7,8,9,10,11],[0,1,2,3,4,5,6,12,7,8,9,10,11,13]] [9,49,50,51,52,53,54,55,56,57,58,59,60,61,62]) .skip]),RG [wK 63 .add 3 41 1 3 3 [41],wV 41 63 3 [63]]]
def Dq.s0:SC:=
 SQ [RG [wO 26 .lss 3 25 24 3 0],CN 26 .skip (.exit 0),.block 1 (SQ [RG [wV 27 25 3,wI 28 34 23 25,wD 29 116 28 [28],wA 7 116,wG 6 27 3 [27],wS 116 7 29 [29]],RG [wN 8 0 3],SQ [RG [wV 30 1 58,wL 31 30 58 3 [30],wK 32 .gtr 3 31 0 3 4 [31]],CN 32 (RG [wV 33 1 58,wV 34 6 3 [6],wV 35 1 58,wL 36 35 58 3 [35],wO 37 .rem 3 34 36 3 3 [34,36],wI 38 58 33 37 [33,37],wD 39 3 38 [38],
 wK 40 .and 3 39 3 3 3 [39],wG 8 40 3 [40]]) .skip],RG [oQ 41 (.move (.const (.int .i64 0))) 3],.block 2 (.loop Dq.s1)]),RG [wK 64 .add 3 25 1 3 3 [25],wV 25 64 3 [64]]]
def Dq.c:SC:=
 SQ [RG [wE 2 36 0 [0],wA 4 36],RG [wD 10 36 2,wU 11 40 10 36 99 [10],wG 5 11 99 [11]],SQ [RG [wD 12 36 2 [2],wU 13 71 12 36 4 [12],wQ 14 13 4 [13]],CN 14 (SQ [RG [wV 15 5 99 [5],oQ 16 (.nilCheck (.tmp 15)) 0 [15],wF 17 102 16 0 [16],wD 18 36 17 [17],wS 36 4 18 [18]],.ret]) .skip],SQ [RG [wV 19 5 99,oQ 20 (.nilCheck (.tmp 19)) 0 [19],wF 21 102 20 0 [20],wF 22 36 21 1 [21],wD 23 34 22 [22],
 wL 24 23 34 3,oQ 25 (.move (.const (.int .i64 0))) 3],.block 0 (.loop Dq.s0)],RG [wV 65 5 99,oQ 66 (.nilCheck (.tmp 65)) 0 [65],wF 67 102 66 0 [66],wF 68 36 67 1 [67],⟨none,.store 34 (.tmp 68) (.const (.slice none 0 0)),0,none,[68]⟩],RG [wV 69 5 99 [5],oQ 70 (.nilCheck (.tmp 69)) 0 [69],wF 71 102 70 0 [70],wD 72 36 71 [71],wS 36 4 72 [72]],.ret]
def ba.b1 (k:Nat) (x9:Ao) (ij:Int):(Int×(List (Aa 2 (Aa 32 Int))))->Option (AT (Int×(List (Aa 2 (Aa 32 Int)))) ((List (Aa 2 (Aa 32 Int)))) (Ac)):=fun s=>match s with
 |(i13,cD)=>
   bif decide (i13<(2:Int)) then
    (lL i13).bind fun _=>
    bif decide (dW .i64 (Int.fdiv (dW .i64 ij 3) (2 ^ (min (Int.toNat i13) 64))) 1=(1:Int)) then
     (x9.AH.at? i13).bind fun kV=>
     (at? cD x9.At).bind fun eW=>
     (eW.at? i13).bind fun n5=>
     (dM cD x9.At (eW.set i13 kV)).bind fun sD=>
     some (.next (ab (i13+1),sD))
    else
     some (.next (ab (i13+1),cD))
   else
    some (.brk cD)
def ba.pP (k:Nat) (x9:Ao):(Int×(List (Aa 2 (Aa 32 Int))))->Option (AT (Int×(List (Aa 2 (Aa 32 Int)))) ((List (Aa 2 (Aa 32 Int)))) (Ac)):=fun s=>match s with
 |(i25,qL)=>
   bif decide (i25<(2:Int)) then
    (lL i25).bind fun _=>
    bif decide (dW .i64 (Int.fdiv 0 (2 ^ (min (Int.toNat i25) 64))) 1=(1:Int)) then
     (x9.AH.at? i25).bind fun vj=>
     (at? qL x9.At).bind fun ik=>
     (ik.at? i25).bind fun x33=>
     (dM qL x9.At (ik.set i25 vj)).bind fun l35=>
     some (.next (ab (i25+1),l35))
    else
     some (.next (ab (i25+1),qL))
   else
    some (.brk qL)
def ba.b0 (k:Nat) (dx:(List Int)) (x2:az):(Int×(List (Aa 2 (Aa 32 Int))))->Option (AT (Int×(List (Aa 2 (Aa 32 Int)))) ((List (Aa 2 (Aa 32 Int)))) (Ac)):=fun s=>match s with
 |(i5,l6)=>
   bif decide (i5<((x2.Ac.Ad.length:Nat):Int)) then
    (at? x2.Ac.Ad i5).bind fun x9=>
    bif decide ((0:Int)<(dx.length:Int)) then
     (pk (dx.length:Int)).bind fun _=>
     (at? dx (Int.tmod i5 (dx.length:Int))).bind fun ij=>
     (aj (ba.b1 k x9 ij) k (0,l6)).bind fun r24=>match r24 with
     |.next _=>none
     |.ret v_=>some (.ret v_)
     |.brk qJ=>
      some (.next (ab (i5+1),qJ))
    else
     (aj (ba.pP k x9) k (0,l6)).bind fun r36=>match r36 with
     |.next _=>none
     |.ret v_=>some (.ret v_)
     |.brk xk=>
      some (.next (ab (i5+1),xk))
   else
    some (.brk l6)
def ba.h1 (dx:(List Int)) (x2:az) (i5:Int) (x9:Ao) (ij:Int):(Int×(List (Aa 2 (Aa 32 Int))))->St:=fun s=>match s with
 |(i13,cD)=>⟨[(1,.sl 1 (List.map eI dx)),(4,.ptr 0 0 0),(5,.ptr 0 3 0),(7,.ptr 0 6 0),(8,.int .i64 (dW .i64 ij 3)),(23,.loc 0 5 65 0 x2.Ac.Ad.length x2.Ac.Ad.length),(24,.int .i64 ((x2.Ac.Ad.length:Nat):Int)),(25,.int .i64 i5),(41,.int .i64 i13)],[(0,.box ([.loc 0 1 64 0 0 0,.loc 0 2 65 0 0 0])),(1,.arr 113 64 (List.map (Aa.c (n:=2) (Aa.c (n:=32) af)) [])),(2,.arr 116 65 (List.map Ao.c [])),(3,.box ([.loc 0 4 64 0 cD.length cD.length,.loc 0 5 65 0 x2.Ac.Ad.length x2.Ac.Ad.length])),(4,.arr 113 64 (List.map (Aa.c (n:=2) (Aa.c (n:=32) af)) cD)),(5,.arr 116 65 (List.map Ao.c x2.Ac.Ad)),(6,.box ([.int .i64 x9.At]++(Aa.c (n:=2) (Aa.c (n:=32) af) x9.AH)))],[],7,Tryz.f34.ntmps⟩
def ba.x1 (dx:(List Int)) (x2:az) (i5:Int):(List (Aa 2 (Aa 32 Int)))->St:=fun qJ=>⟨[(1,.sl 1 (List.map eI dx)),(4,.ptr 0 0 0),(5,.ptr 0 3 0),(23,.loc 0 5 65 0 x2.Ac.Ad.length x2.Ac.Ad.length),(24,.int .i64 ((x2.Ac.Ad.length:Nat):Int)),(25,.int .i64 i5)],[(0,.box ([.loc 0 1 64 0 0 0,.loc 0 2 65 0 0 0])),(1,.arr 113 64 (List.map (Aa.c (n:=2) (Aa.c (n:=32) af)) [])),(2,.arr 116 65 (List.map Ao.c [])),(3,.box ([.loc 0 4 64 0 qJ.length qJ.length,.loc 0 5 65 0 x2.Ac.Ad.length x2.Ac.Ad.length])),(4,.arr 113 64 (List.map (Aa.c (n:=2) (Aa.c (n:=32) af)) qJ)),(5,.arr 116 65 (List.map Ao.c x2.Ac.Ad))],[],6,Tryz.f34.ntmps⟩
def ba.ql (dx:(List Int)) (x2:az) (i5:Int) (x9:Ao):(Int×(List (Aa 2 (Aa 32 Int))))->St:=fun s=>match s with
 |(i25,qL)=>⟨[(1,.sl 1 (List.map eI dx)),(4,.ptr 0 0 0),(5,.ptr 0 3 0),(7,.ptr 0 6 0),(8,.int .i64 0),(23,.loc 0 5 65 0 x2.Ac.Ad.length x2.Ac.Ad.length),(24,.int .i64 ((x2.Ac.Ad.length:Nat):Int)),(25,.int .i64 i5),(41,.int .i64 i25)],[(0,.box ([.loc 0 1 64 0 0 0,.loc 0 2 65 0 0 0])),(1,.arr 113 64 (List.map (Aa.c (n:=2) (Aa.c (n:=32) af)) [])),(2,.arr 116 65 (List.map Ao.c [])),(3,.box ([.loc 0 4 64 0 qL.length qL.length,.loc 0 5 65 0 x2.Ac.Ad.length x2.Ac.Ad.length])),(4,.arr 113 64 (List.map (Aa.c (n:=2) (Aa.c (n:=32) af)) qL)),(5,.arr 116 65 (List.map Ao.c x2.Ac.Ad)),(6,.box ([.int .i64 x9.At]++(Aa.c (n:=2) (Aa.c (n:=32) af) x9.AH)))],[],7,Tryz.f34.ntmps⟩
def ba.tv (dx:(List Int)) (x2:az) (i5:Int):(List (Aa 2 (Aa 32 Int)))->St:=fun xk=>⟨[(1,.sl 1 (List.map eI dx)),(4,.ptr 0 0 0),(5,.ptr 0 3 0),(23,.loc 0 5 65 0 x2.Ac.Ad.length x2.Ac.Ad.length),(24,.int .i64 ((x2.Ac.Ad.length:Nat):Int)),(25,.int .i64 i5)],[(0,.box ([.loc 0 1 64 0 0 0,.loc 0 2 65 0 0 0])),(1,.arr 113 64 (List.map (Aa.c (n:=2) (Aa.c (n:=32) af)) [])),(2,.arr 116 65 (List.map Ao.c [])),(3,.box ([.loc 0 4 64 0 xk.length xk.length,.loc 0 5 65 0 x2.Ac.Ad.length x2.Ac.Ad.length])),(4,.arr 113 64 (List.map (Aa.c (n:=2) (Aa.c (n:=32) af)) xk)),(5,.arr 116 65 (List.map Ao.c x2.Ac.Ad))],[],6,Tryz.f34.ntmps⟩
def ba.h0 (dx:(List Int)) (x2:az):(Int×(List (Aa 2 (Aa 32 Int))))->St:=fun s=>match s with
 |(i5,l6)=>⟨[(1,.sl 1 (List.map eI dx)),(4,.ptr 0 0 0),(5,.ptr 0 3 0),(23,.loc 0 5 65 0 x2.Ac.Ad.length x2.Ac.Ad.length),(24,.int .i64 ((x2.Ac.Ad.length:Nat):Int)),(25,.int .i64 i5)],[(0,.box ([.loc 0 1 64 0 0 0,.loc 0 2 65 0 0 0])),(1,.arr 113 64 (List.map (Aa.c (n:=2) (Aa.c (n:=32) af)) [])),(2,.arr 116 65 (List.map Ao.c [])),(3,.box ([.loc 0 4 64 0 l6.length l6.length,.loc 0 5 65 0 x2.Ac.Ad.length x2.Ac.Ad.length])),(4,.arr 113 64 (List.map (Aa.c (n:=2) (Aa.c (n:=32) af)) l6)),(5,.arr 116 65 (List.map Ao.c x2.Ac.Ad))],[],6,Tryz.f34.ntmps⟩
def ba.x0 (x2:az):(List (Aa 2 (Aa 32 Int)))->St:=fun l7=>⟨[(4,.ptr 0 0 0),(5,.ptr 0 3 0)],[(0,.box ([.loc 0 1 64 0 0 0,.loc 0 2 65 0 0 0])),(1,.arr 113 64 (List.map (Aa.c (n:=2) (Aa.c (n:=32) af)) [])),(2,.arr 116 65 (List.map Ao.c [])),(3,.box ([.loc 0 4 64 0 l7.length l7.length,.loc 0 5 65 0 x2.Ac.Ad.length x2.Ac.Ad.length])),(4,.arr 113 64 (List.map (Aa.c (n:=2) (Aa.c (n:=32) af)) l7)),(5,.arr 116 65 (List.map Ao.c x2.Ac.Ad))],[],6,Tryz.f34.ntmps⟩
def ba (k:Nat) (d0:Ac) (dx:(List Int)):Option (Ac):=
 (mK k d0).bind fun x2=>
 (tF k d0).bind fun x3=>
 bif (!x3) then
  some x2.Ac
 else
  (aj (ba.b0 k dx x2) k (0,x2.Ac.Af)).bind fun r37=>match r37 with
  |.next _=>none
  |.ret v_=>some v_
  |.brk l7=>
   some (⟨l7,[]⟩:Ac)
theorem ac4 (k:Nat) (d0:Ac) (dx:(List Int)) (r:Ac) (h0:ba k d0 dx=some r):Ay Tryz.prog 34 [.agg (Ac.c d0),.sl 1 (List.map eI dx)] (fun y=>y=.agg (Ac.c r)):=by
 refine PB Tryz.f34 Dq.c [.cell 4 36] ?_
 simp only[ba]at h0
 try simp only[Dq.c,go_sem]
 obtain⟨x2,ec,h0⟩:=bs h0
 refine CJ AB 1000 [] [] (tD k _ _ ec) ?_ rfl ?_
 try simp only[fS,go_sem]
 try simp only[go_sem]
 refine au h0 (ada k _) ?_ (fun x3 h0=>?_)<;>try simp only[go_sem]
 refine Cr h0 ?_ ?_<;>intro c4 h0<;>have F:=c4<;>try simp only[F,go_sem]
 obtain rfl:=oi h0
 refine Ag rfl ?_
 try simp only[F,go_sem]
 obtain⟨r37,arI,h0⟩:=bs h0
 refine Bf arI (ba.h0 dx x2) (ba.x0 x2) ?_ ?_ ?_
 refine Ai.go [1,4,5,23,24,25] [16,17,18,48,49,50] rfl ?_
 try simp only[ba.h0,F,go_sem]
 rintro⟨i5,l6⟩ cP Bl Bm h1 aH aF bL
 refine rS ?_
 simp only[ba.b0]at h1
 try simp only[Dq.s0,ba.h0,F,go_sem]
 refine AF F h1 ?_ ?_<;>intro F h1<;>try simp only[F,go_sem]
 obtain⟨x9,fb,h1⟩:=bs h1
 have F:=an (aC fb) (an (aE Ao.c fb) F)
 try simp only[F,go_sem]
 refine AF F h1 ?_ ?_<;>intro F h1<;>try simp only[F,go_sem]
 obtain⟨u11,arL,h1⟩:=bs h1
 have F:=an (aeM arL) F
 try simp only[F,go_sem]
 obtain⟨ij,pH,h1⟩:=bs h1
 have F:=an (aC pH) (an (aE eI pH) F)
 try simp only[F,go_sem]
 obtain⟨r24,arF,h1⟩:=bs h1
 refine Bf arF (ba.h1 dx x2 i5 x9 ij) (ba.x1 dx x2 i5) ?_ ?_ ?_
 refine Ai.go [1,4,5,7,8,23,24,25,41] [0,1,2,3,4,5,70] rfl ?_
 try simp only[ba.h1,F,go_sem]
 rintro⟨i13,cD⟩ x_2 FD FE h2 qz rP aeg
 refine rS ?_
 simp only[ba.b1]at h2
 try simp only[Dq.s1,ba.h1,F,go_sem]
 refine AF F h2 ?_ ?_<;>intro F h2<;>try simp only[F,go_sem]
 obtain⟨u17,arN,h2⟩:=bs h2
 have F:=an (aaD arN) F
 try simp only[F,go_sem]
 refine AF F h2 ?_ ?_<;>intro F h2<;>try simp only[F,go_sem]
 refine AL AB aQ 1000 ?_
 try simp only[F,go_sem]
 obtain⟨kV,pL,h2⟩:=bs h2
 have ara:=Ap.bI gL (Ap.skip (Ap.self fM x9.AH) ([.int .i64 x9.At]:List AV)) pL
 have aj9:=ara.2
 try simp only[AA,Az,go_sem]at aj9
 have F:=an (aw pL) (an aj9 F)
 try simp only[F,go_sem]
 obtain⟨eW,ca,h2⟩:=bs h2
 have F:=an (aC ca) (an (aE (Aa.c (n:=2) (Aa.c (n:=32) af)) ca) F)
 try simp only[F,go_sem]
 obtain⟨n5,fY,h2⟩:=bs h2
 have u0:=Ap.bI gL (Ap.self fM eW) fY
 have aaP:=u0.2
 try simp only[AA,Az,go_sem]at aaP
 have F:=an (aw fY) (an aaP F)
 try simp only[F,go_sem]
 obtain⟨sD,vp,h2⟩:=bs h2
 have q22:=u0.1.ow kV
 try simp only[AA,Az,go_sem]at q22
 have ag1:=lI (Aa.c (n:=2) (Aa.c (n:=32) af)) vp
 try simp only[go_sem]at ag1
 have F:=an ag1 (an (kP vp) (an (lJ (Aa.c (n:=2) (Aa.c (n:=32) af)) vp) F))
 try simp only[q22,F,go_sem]
 refine aK ?_
 try simp only[F,go_sem]
 refine AD (qz _ _ (oi h2).symm (Ai.go [1,4,5,7,8,23,24,25,41] [0,1,2,3,4,5,6] rfl ?_))
 try simp only[ba.h1,F,go_sem]
 refine AD (qz _ _ (oi h2).symm (Ai.go [1,4,5,7,8,23,24,25,41] [0,1,2,3,4,5,6] rfl ?_))
 try simp only[ba.h1,F,go_sem]
 refine AD (rP _ _ (oi h2).symm (Ai.go [1,4,5,23,24,25] [0,1,2,3,4,5] rfl ?_))
 try simp only[ba.x1,F,go_sem]
 rintro qJ aI
 subst aI
 simp only at h1
 refine rS ?_
 try simp only[ba.x1,F,go_sem]
 refine AD (aH _ _ (oi h1).symm (Ai.go [1,4,5,23,24,25] [0,1,2,3,4,5] rfl ?_))
 try simp only[ba.h0,F,go_sem]
 obtain⟨r36,arH,h1⟩:=bs h1
 refine Bf arH (ba.ql dx x2 i5 x9) (ba.tv dx x2 i5) ?_ ?_ ?_
 refine Ai.go [1,4,5,7,8,23,24,25,41] [0,1,2,3,4,5,70] rfl ?_
 try simp only[ba.ql,F,go_sem]
 rintro⟨i25,qL⟩ x_2 FD FE h2 qz rP aeg
 refine rS ?_
 simp only[ba.pP]at h2
 try simp only[Dq.s1,ba.ql,F,go_sem]
 refine AF F h2 ?_ ?_<;>intro F h2<;>try simp only[F,go_sem]
 obtain⟨u29,arP,h2⟩:=bs h2
 have F:=an (aaD arP) F
 try simp only[F,go_sem]
 refine AF F h2 ?_ ?_<;>intro F h2<;>try simp only[F,go_sem]
 refine AL AB aQ 1000 ?_
 try simp only[F,go_sem]
 obtain⟨vj,acR,h2⟩:=bs h2
 have arc:=Ap.bI gL (Ap.skip (Ap.self fM x9.AH) ([.int .i64 x9.At]:List AV)) acR
 have akd:=arc.2
 try simp only[AA,Az,go_sem]at akd
 have F:=an (aw acR) (an akd F)
 try simp only[F,go_sem]
 obtain⟨ik,aa1,h2⟩:=bs h2
 have F:=an (aC aa1) (an (aE (Aa.c (n:=2) (Aa.c (n:=32) af)) aa1) F)
 try simp only[F,go_sem]
 obtain⟨x33,acS,h2⟩:=bs h2
 have ajL:=Ap.bI gL (Ap.self fM ik) acS
 have ake:=ajL.2
 try simp only[AA,Az,go_sem]at ake
 have F:=an (aw acS) (an ake F)
 try simp only[F,go_sem]
 obtain⟨l35,aft,h2⟩:=bs h2
 have q34:=ajL.1.ow vj
 try simp only[AA,Az,go_sem]at q34
 have ag5:=lI (Aa.c (n:=2) (Aa.c (n:=32) af)) aft
 try simp only[go_sem]at ag5
 have F:=an ag5 (an (kP aft) (an (lJ (Aa.c (n:=2) (Aa.c (n:=32) af)) aft) F))
 try simp only[q34,F,go_sem]
 refine aK ?_
 try simp only[F,go_sem]
 refine AD (qz _ _ (oi h2).symm (Ai.go [1,4,5,7,8,23,24,25,41] [0,1,2,3,4,5,6] rfl ?_))
 try simp only[ba.ql,F,go_sem]
 refine AD (qz _ _ (oi h2).symm (Ai.go [1,4,5,7,8,23,24,25,41] [0,1,2,3,4,5,6] rfl ?_))
 try simp only[ba.ql,F,go_sem]
 refine AD (rP _ _ (oi h2).symm (Ai.go [1,4,5,23,24,25] [0,1,2,3,4,5] rfl ?_))
 try simp only[ba.tv,F,go_sem]
 rintro xk aI
 subst aI
 simp only at h1
 refine rS ?_
 try simp only[ba.tv,F,go_sem]
 refine AD (aH _ _ (oi h1).symm (Ai.go [1,4,5,23,24,25] [0,1,2,3,4,5] rfl ?_))
 try simp only[ba.h0,F,go_sem]
 refine AD (aF _ _ (oi h1).symm (Ai.go [4,5] [0,1,2,3,4,5] rfl ?_))
 try simp only[ba.x0,F,go_sem]
 rintro l7 aI
 subst aI
 simp only at h0
 refine rS ?_
 try simp only[ba.x0,F,go_sem]
 obtain rfl:=oi h0
 refine Ag rfl ?_
 try simp only[F,go_sem]
def GS.c:SC:=
 SQ [RG [wA 0 36,wA 1 42],RG [oQ 3 (.makeSlice 33 (.const (.int .i64 602)) (.const (.int .i64 602))) 33,oQ 4 (.build 36 #[(0,.tmp 3)]) 36 [3],wA 2 36,wS 36 2 4 [4]],.aL [wF 5 36 2 0,wD 6 33 5,wC 7 44 #[.const (.int .i64 1),.const (.int .i64 0)] #[3,3] 105,wJ 8 33 6 0,wJ 9 113 8 0,wS 92 9 7] [[],[0],[],[0,1],[0,1,3,2],[0,1,3,2,4]] [5,6,7,8,9],RG [wD 10 36 2 [2],oQ 11 (.build 42 #[(2,
 .const (.int .i64 1)),(3,.const (.int .i64 1))]) 42,wS 36 0 10 [10],wS 42 1 11 [11]],.ret]
def vz (k:Nat):Option (Ac×Aw):=
 (kM 602 64 ((Aa.rep 2 ((Aa.rep 32 (0:Int)):(Aa 32 Int))):(Aa 2 (Aa 32 Int)))).bind fun l1=>
 (tE k 1 0).bind fun x2=>
 (at? l1 0).bind fun x3=>
 (x3.at? 0).bind fun x4=>
 (dM l1 0 (x3.set 0 x2)).bind fun l6=>
 some ((⟨l6,[]⟩:Ac),(⟨(⟨[]⟩:Ah),0,1,1⟩:Aw))
theorem af4 (k:Nat) (r:Ac×Aw) (h0:vz k=some r):Ay Tryz.prog 10 [] (fun y=>y=.ar [.agg (Ac.c r.1),.agg (Aw.c r.2)]):=by
 refine PB Tryz.f10 GS.c [.cell 0 36,.cell 1 42] ?_
 simp only[vz]at h0
 try simp only[GS.c,go_sem]
 have hz:=bs h0;clear h0;cases hz;rename_i l1 hz;cases hz;rename_i rn h0
 obtain⟨_,aeq⟩:=aeC rn
 have adF:List.replicate 602 (Aa.c (n:=2) (Aa.c (n:=32) af) (Aa.rep 2 ((Aa.rep 32 (0:Int)):(Aa 32 Int))))=List.map (Aa.c (n:=2) (Aa.c (n:=32) af)) l1:=aeB (Aa.c (n:=2) (Aa.c (n:=32) af)) rn
 have aeL:l1.length=602:=aeA rn
 have afk:List.take 602 (List.map (Aa.c (n:=2) (Aa.c (n:=32) af)) l1)=List.map (Aa.c (n:=2) (Aa.c (n:=32) af)) l1:=aeD (Aa.c (n:=2) (Aa.c (n:=32) af)) rn
 have F:=an adF (an aeL (an afk ((@id (Int.toNat 602=602) rfl))))
 try simp only[aey aeq,F,go_sem]
 refine AL AB aQ 1000 ?_
 try simp only[F,go_sem]
 refine cz h0 (ac9 k _ _) ?_ (fun x2 h0=>?_)<;>try simp only[F,go_sem]
 have hz:=bs h0;clear h0;cases hz;rename_i x3 hz;cases hz;rename_i cY h0
 have yD:=aC cY
 simp only[F,go_sem]at yD
 have F:=an yD (an (aE (Aa.c (n:=2) (Aa.c (n:=32) af)) cY) F)
 try simp only[F,go_sem]
 have hz:=bs h0;clear h0;cases hz;rename_i x4 hz;cases hz;rename_i bS h0
 have iW:=Ap.bI gL (Ap.self fM x3) bS
 have jK:=iW.2
 try simp only[AA,Az,go_sem]at jK
 have F:=an (aw bS) (an jK F)
 try simp only[F,go_sem]
 have hz:=bs h0;clear h0;cases hz;rename_i l6 hz;cases hz;rename_i kg h0
 have q5:=iW.1.ow x2
 try simp only[AA,Az,go_sem]at q5
 have rJ:=lI (Aa.c (n:=2) (Aa.c (n:=32) af)) kg
 try simp only[go_sem]at rJ
 have aaH:=lJ (Aa.c (n:=2) (Aa.c (n:=32) af)) kg
 try simp only[F,go_sem]at aaH
 have F:=an rJ (an (kP kg) (an aaH F))
 try simp only[q5,F,go_sem]
 refine aK ?_
 try simp only[F,go_sem]
 obtain rfl:=oi h0
 refine Ag rfl ?_
 try simp only[F,go_sem]
end Go.Abs
namespace Go.Abs
open Go Go.Proofs Go.RowKit Go.Lib
def F5.c:SC:=
 SQ [RG [wB 0 false 4 [0]],RG [oQ 26 (.build 27 #[(0,.const (.int .i64 2))]) 27,oQ 27 (.build 29 #[(0,.tmp 26),(1,.const (.int .i64 5)),(2,.const (.int .i64 10)),(3,.const (.int .i64 12)),(5,.const (.string ⟨#[98,101,110,116,32,49,48,48,48]⟩))]) 29 [26],wA 1 29,wS 29 1 27 [27]],RG [wD 29 29 1,wU 30 30 29 29 83 [29],wV 28 30 83 [30],wX 31 28 0 82,wX 32 28 1 45 [28],wG 2 31 82 [31],wG 3 32 45 [32]],
 RG [wD 34 29 1,wC 35 31 #[.tmp 34,.const (.int .i64 0),.const (.int .i64 1)] #[29,3,3] 86 [34],wV 33 35 86 [35],wX 36 33 0 85,wX 37 33 1 45 [33],wG 4 36 85 [36],wG 5 37 45 [37]],RG [wC 39 10 #[] #[] 48,wV 38 39 48 [39],wX 40 38 0 36,wX 41 38 1 42 [38],wA 6 36,wA 7 42,wS 36 6 40 [40],wS 42 7 41 [41]],RG [wD 43 36 6 [6],wD 44 42 7 [7],wD 45 29 1,wC 46 32 #[.tmp 43,.tmp 44,.tmp 45] #[36,42,
 29] 88 [43,44,45],wV 42 46 88 [46],wX 47 42 0 36,wX 48 42 1 42,wX 49 42 2 45 [42],wA 8 36,wA 9 42,wS 36 8 47 [47],wS 42 9 48 [48],wG 10 49 45 [49]],RG [wD 51 36 8,oQ 52 (.buildSlice 58 2 #[(0,.const (.int .i64 2)),(1,.const (.int .i64 0))]) 58,wW 53 34 51 52 36 58 36 [51,52],wU 54 33 53 36 88 [53],wV 50 54 88 [54],wX 55 50 0 36,wX 56 50 1 42,wX 57 50 2 45 [50],wA 11 36,wA 12 42,wS 36 11 55 [55],
 wS 42 12 56 [56],wG 13 57 45 [57]],RG [wD 59 36 11 [11],wD 60 42 12,wD 61 29 1 [1],wC 62 32 #[.tmp 59,.tmp 60,.tmp 61] #[36,42,29] 88 [59,60,61],wV 58 62 88 [62],wX 63 58 0 36,wX 64 58 1 42,wX 65 58 2 45 [58],wA 14 36,wA 15 42,wS 36 14 63 [63],wS 42 15 64 [64],wG 16 65 45 [65]],RG [wD 67 36 14,oQ 68 (.buildSlice 58 2 #[(0,.const (.int .i64 0)),(1,.const (.int .i64 1))]) 58,
 wW 69 34 67 68 36 58 36 [67,68],wU 70 33 69 36 88 [69],wV 66 70 88 [70],wX 71 66 0 36,wX 72 66 1 42,wX 73 66 2 45 [66],wA 17 36,wA 18 42,wS 36 17 71 [17,71],wS 42 18 72 [72],wG 19 73 45 [73]],RG [wD 75 36 14 [14],oQ 76 (.buildSlice 58 2 #[(0,.const (.int .i64 3)),(1,.const (.int .i64 3))]) 58,wW 77 34 75 76 36 58 36 [75,76],wU 78 33 77 36 88 [77],wV 74 78 88 [78],wX 79 74 0 36,wX 80 74 1 42,
 wX 81 74 2 45 [74],wA 20 36,wA 21 42,wS 36 20 79 [20,79],wS 42 21 80 [80],wG 22 81 45 [81]],RG [wV 82 3 45 [3],wK 83 .eql 45 82 0 45 4 [82],wV 84 83 4 [83],gd 84 true (wV 85 5 45 [5]),gd 84 true (wK 86 .eql 45 85 0 45 4 [85]),wZ 87 84 86 4 [84,86],wV 88 87 4 [87],gd 88 true (wV 89 10 45 [10]),gd 88 true (wK 90 .eql 45 89 0 45 4 [89]),wZ 91 88 90 4 [88,90],wV 92 91 4 [91],
 gd 92 true (wV 93 13 45 [13]),gd 92 true (wK 94 .eql 45 93 0 45 4 [93]),wZ 95 92 94 4 [92,94],wV 96 95 4 [95],gd 96 true (wV 97 16 45 [16]),gd 96 true (wK 98 .eql 45 97 0 45 4 [97]),wZ 99 96 98 4 [96,98],wV 100 99 4 [99],gd 100 true (wV 101 19 45 [19]),gd 100 true (wK 102 .eql 45 101 0 45 4 [101]),wZ 103 100 102 4 [100,102],wV 104 103 4 [103],gd 104 true (wV 105 22 45 [22]),
 gd 104 true (wK 106 .eql 45 105 0 45 4 [105]),wZ 107 104 106 4 [104,106],wG 23 107 4 [107]],RG [wV 108 2 82 [2],wL 109 108 82 3 [108],wK 110 .eql 3 109 25 3 4 [109],wV 111 110 4 [110],gd 111 true (wV 112 4 85),gd 111 true (wL 113 112 85 3 [112]),gd 111 true (wK 114 .eql 3 113 2 3 4 [113]),wZ 115 111 114 4 [111,114],wV 116 115 4 [115],gd 116 true (wV 117 4 85),gd 116 true (wJ 118 85 117 1 [117]),
 gd 116 true (wJ 119 92 118 6 [118]),gd 116 true (wD 120 5 119 [119]),gd 116 true (oQ 121 (.binOp .eql 5 (.tmp 120) (.const (.int .u8 1)) 5) 4 [120]),wZ 122 116 121 4 [116,121],wV 123 122 4 [122],gd 123 true (wV 124 4 85),gd 123 true (wJ 125 85 124 1 [124]),gd 123 true (wJ 126 92 125 7 [125]),gd 123 true (wD 127 5 126 [126]),
 gd 123 true (oQ 128 (.binOp .eql 5 (.tmp 127) (.const (.int .u8 2)) 5) 4 [127]),wZ 129 123 128 4 [123,128],wV 130 129 4 [129],gd 130 true (wV 131 4 85 [4]),gd 130 true (wJ 132 85 131 0 [131]),gd 130 true (wJ 133 92 132 31 [132]),gd 130 true (wD 134 5 133 [133]),gd 130 true (oQ 135 (.binOp .eql 5 (.tmp 134) (.const (.int .u8 165)) 5) 4 [134]),wZ 136 130 135 4 [130,135],wG 24 136 4 [136]],
 RG [wF 137 36 8 1 [8],wD 138 34 137 [137],wL 139 138 34 3 [138],wK 140 .eql 3 139 2 3 4 [139],wV 141 140 4 [140],gd 141 true (wF 142 42 9 3 [9]),gd 141 true (wD 143 3 142 [142]),gd 141 true (wK 144 .eql 3 143 3 3 4 [143]),wZ 145 141 144 4 [141,144],wV 146 145 4 [145],gd 146 true (wF 147 42 12 0),gd 146 true (wF 148 40 147 0 [147]),gd 146 true (wD 149 38 148 [148]),
 gd 146 true (wL 150 149 38 3 [149]),gd 146 true (wK 151 .eql 3 150 0 3 4 [150]),wZ 152 146 151 4 [146,151],wV 153 152 4 [152],gd 153 true (wF 154 42 12 2 [12]),gd 153 true (wD 155 3 154 [154]),gd 153 true (wK 156 .eql 3 155 2 3 4 [155]),wZ 157 153 156 4 [153,156],wV 158 157 4 [157],gd 158 true (wF 159 42 15 3 [15]),gd 158 true (wD 160 3 159 [159]),gd 158 true (wK 161 .eql 3 160 3 3 4 [160]),
 wZ 162 158 161 4 [158,161],wG 25 162 4 [162]],RG [wV 163 23 4 [23],wV 164 163 4 [163],gd 164 true (wV 165 24 4 [24]),wZ 166 164 165 4 [164,165],wV 167 166 4 [166],gd 167 true (wV 168 25 4 [25]),wZ 169 167 168 4 [167,168],wV 170 169 4 [169],gd 170 true (wF 171 42 18 0),gd 170 true (wF 172 40 171 0 [171]),gd 170 true (wD 173 38 172 [172]),gd 170 true (wL 174 173 38 3 [173]),
 gd 170 true (wK 175 .eql 3 174 0 3 4 [174]),wZ 176 170 175 4 [170,175],wV 177 176 4 [176],gd 177 true (wF 178 42 18 2 [18]),gd 177 true (wD 179 3 178 [178]),gd 177 true (wK 180 .eql 3 179 3 3 4 [179]),wZ 181 177 180 4 [177,180],wV 182 181 4 [181],gd 182 true (wF 183 42 21 0),gd 182 true (wF 184 40 183 0 [183]),gd 182 true (wD 185 38 184 [184]),gd 182 true (wL 186 185 38 3 [185]),
 gd 182 true (wK 187 .eql 3 186 1 3 4 [186]),wZ 188 182 187 4 [182,187],wV 189 188 4 [188],gd 189 true (wF 190 42 21 2 [21]),gd 189 true (wD 191 3 190 [190]),gd 189 true (wK 192 .eql 3 191 3 3 4 [191]),wZ 193 189 192 4 [189,192],wG 0 193 4 [193]],.ret]
theorem F5.rs:Tryz.f5.results.toList=[.tmp 0]:=rfl
def Fq (k:Nat):Option (Bool):=
 (ac5 k (⟨(⟨2,0⟩:Entry),5,10,12,(⟨0,0⟩:Entry),(⟨#[98,101,110,116,32,49,48,48,48]⟩:ByteArray)⟩:Ab)).bind fun x1=>
 (kj k (⟨(⟨2,0⟩:Entry),5,10,12,(⟨0,0⟩:Entry),(⟨#[98,101,110,116,32,49,48,48,48]⟩:ByteArray)⟩:Ab) 0 1).bind fun x2=>
 (vz k).bind fun x3=>
 (mI k x3.1 x3.2 (⟨(⟨2,0⟩:Entry),5,10,12,(⟨0,0⟩:Entry),(⟨#[98,101,110,116,32,49,48,48,48]⟩:ByteArray)⟩:Ab)).bind fun x4=>
 (ba k x4.1 [2,0]).bind fun x5=>
 (od k x5).bind fun x6=>
 (mI k x6.1 x6.2.1 (⟨(⟨2,0⟩:Entry),5,10,12,(⟨0,0⟩:Entry),(⟨#[98,101,110,116,32,49,48,48,48]⟩:ByteArray)⟩:Ab)).bind fun x7=>
 (ba k x7.1 [0,1]).bind fun x8=>
 (od k x8).bind fun x9=>
 (ba k x7.1 [3,3]).bind fun cm=>
 (od k cm).bind fun cT=>
 bif decide (x1.2=(0:Int)) then
  bif decide (x2.2=(0:Int)) then
   bif decide (x4.2.2=(0:Int)) then
    bif decide (x6.2.2=(0:Int)) then
     bif decide (x7.2.2=(0:Int)) then
      bif decide (x9.2.2=(0:Int)) then
       bif decide ((x1.1.length:Int)=(25:Int)) then
        bif decide ((x2.1.length:Int)=(2:Int)) then
         (at? x2.1 1).bind fun eW=>
         (eW.at? 6).bind fun n5=>
         bif decide (n5=(1:Int)) then
          (eW.at? 7).bind fun eY=>
          bif decide (eY=(2:Int)) then
           (at? x2.1 0).bind fun ng=>
           (ng.at? 31).bind fun xQ=>
           bif decide ((x4.1.Ad.length:Int)=(2:Int)) then
            bif decide (x4.2.1.Used=(3:Int)) then
             bif decide ((x6.2.1.Ah.Aj.length:Int)=(0:Int)) then
              bif decide (x6.2.1.Ax=(2:Int)) then
               bif decide (cT.2.2=(0:Int)) then
                bif decide (xQ=(165:Int)) then
                 bif decide (x7.2.1.Used=(3:Int)) then
                  bif decide ((x9.2.1.Ah.Aj.length:Int)=(0:Int)) then
                   bif decide (x9.2.1.Ax=(3:Int)) then
                    bif decide ((cT.2.1.Ah.Aj.length:Int)=(1:Int)) then
                     some (decide (cT.2.1.Ax=(3:Int)))
                    else
                     none
                   else
                    none
                  else
                   none
                 else
                  none
                else
                 none
               else
                none
              else
               none
             else
              none
            else
             none
           else
            none
          else
           none
         else
          none
        else
         none
       else
        none
      else
       none
     else
      none
    else
     none
   else
    none
  else
   none
 else
  none
theorem II (k:Nat) (r:Bool) (h0:Fq k=some r):Ay Tryz.prog 5 [] (fun y=>y=.bool r):=by
 refine Ay.nlr (Ay.gr AB (fn:=Tryz.f5) (sc:=F5.c) (by rfl) (by rfl) (by decide +kernel) (by rfl) (by decide +kernel) (Nat.le_of_ble_eq_true rfl) ?_)
 refine rS ?_
 simp only[Fq]at h0
 try simp only[F5.c,go_sem]
 obtain⟨x1,jq,h0⟩:=bs h0
 refine jL (alL k _ _ jq) ?_ ?_
 ·try simp only[go_sem]
 try simp only[go_sem]
 obtain⟨x2,ec,h0⟩:=bs h0
 refine jL (alM k _ _ _ _ ec) ?_ ?_
 ·try simp only[go_sem]
 try simp only[go_sem]
 obtain⟨x3,cY,h0⟩:=bs h0
 refine jL (af4 k _ cY) ?_ ?_
 ·try simp only[go_sem]
 try simp only[go_sem]
 obtain⟨x4,bS,h0⟩:=bs h0
 refine jL (af1 k _ _ _ _ bS) ?_ ?_
 ·try simp only[go_sem]
 try simp only[go_sem]
 obtain⟨x5,cE,h0⟩:=bs h0
 refine Ff AB 1000 [656] (ac4 k _ _ _ cE) ?_ ?_
 ·try simp only[go_sem]
 try simp only[go_sem]
 obtain⟨x6,ee,h0⟩:=bs h0
 refine jL (ac6 k _ _ ee) ?_ ?_
 ·try simp only[go_sem]
 try simp only[go_sem]
 obtain⟨x7,eG,h0⟩:=bs h0
 refine jL (af1 k _ _ _ _ eG) ?_ ?_
 ·try simp only[go_sem]
 try simp only[go_sem]
 obtain⟨x8,iZ,h0⟩:=bs h0
 refine Ff AB 1000 [1072] (ac4 k _ _ _ iZ) ?_ ?_
 ·try simp only[go_sem]
 try simp only[go_sem]
 obtain⟨x9,fb,h0⟩:=bs h0
 refine jL (ac6 k _ _ fb) ?_ ?_
 ·try simp only[go_sem]
 try simp only[go_sem]
 obtain⟨cm,nh,h0⟩:=bs h0
 refine Ff AB 1000 [1280] (ac4 k _ _ _ nh) ?_ ?_
 ·try simp only[go_sem]
 try simp only[go_sem]
 obtain⟨cT,mD,h0⟩:=bs h0
 refine jL (ac6 k _ _ mD) ?_ ?_
 ·try simp only[go_sem]
 try simp only[go_sem]
 refine AR h0 (fun eJ h0=>?_) (fun eJ h0=>?_)
 ·try simp only[eJ,go_sem]
  refine AR h0 (fun ft h0=>?_) (fun ft h0=>?_)
  ·try simp only[ft,eJ,go_sem]
   refine AR h0 (fun fB h0=>?_) (fun fB h0=>?_)
   ·try simp only[fB,eJ,ft,go_sem]
    refine AR h0 (fun fP h0=>?_) (fun fP h0=>?_)
    ·try simp only[fP,eJ,ft,fB,go_sem]
     refine AR h0 (fun gb h0=>?_) (fun gb h0=>?_)
     ·try simp only[gb,eJ,ft,fB,fP,go_sem]
      refine AR h0 (fun gC h0=>?_) (fun gC h0=>?_)
      ·try simp only[gC,eJ,ft,fB,fP,gb,go_sem]
       refine AR h0 (fun gP h0=>?_) (fun gP h0=>?_)
       ·try simp only[gP,eJ,ft,fB,fP,gb,gC,go_sem]
        refine AR h0 (fun iq h0=>?_) (fun iq h0=>?_)
        ·try simp only[iq,eJ,ft,fB,fP,gb,gC,gP,go_sem]
         obtain⟨eW,ca,h0⟩:=bs h0
         try simp only[aC ca,aE (Aa.c (n:=32) af) ca,eJ,ft,fB,fP,gb,gC,gP,iq,go_sem]
         obtain⟨n5,fY,h0⟩:=bs h0
         have u0:=Ap.at k9 (Ap.self zlh eW) fY
         have jb:=u0.bound k9
         have jh:=u0.get k9
         try simp only[AA,Az,go_sem]at jb jh
         try simp only[aw fY,jb,jh,eJ,ft,fB,fP,gb,gC,gP,iq,aC ca,aE (Aa.c (n:=32) af) ca,go_sem]
         refine AR h0 (fun ju h0=>?_) (fun ju h0=>?_)
         ·try simp only[ju,aC ca,aE (Aa.c (n:=32) af) ca,eJ,ft,fB,fP,gb,gC,gP,iq,aw fY,jb,jh,go_sem]
          obtain⟨eY,iY,h0⟩:=bs h0
          have aaJ:=Ap.at k9 (Ap.self zlh eW) iY
          have jN:=aaJ.bound k9
          have jR:=aaJ.get k9
          try simp only[AA,Az,go_sem]at jN jR
          try simp only[aw iY,jN,jR,eJ,ft,fB,fP,gb,gC,gP,iq,aC ca,aE (Aa.c (n:=32) af) ca,aw fY,jb,jh,ju,go_sem]
          refine AR h0 (fun kp h0=>?_) (fun kp h0=>?_)
          ·try simp only[kp,eJ,ft,fB,fP,gb,gC,gP,iq,aC ca,aE (Aa.c (n:=32) af) ca,aw fY,jb,jh,ju,aw iY,jN,jR,go_sem]
           obtain⟨ng,fw,h0⟩:=bs h0
           try simp only[aC fw,aE (Aa.c (n:=32) af) fw,eJ,ft,fB,fP,gb,gC,gP,iq,aC ca,aE (Aa.c (n:=32) af) ca,aw fY,jb,jh,ju,aw iY,jN,jR,kp,go_sem]
           obtain⟨xQ,kY,h0⟩:=bs h0
           have ajJ:=Ap.at k9 (Ap.self zlh ng) kY
           have lT:=ajJ.bound k9
           have ma:=ajJ.get k9
           try simp only[AA,Az,go_sem]at lT ma
           try simp only[aw kY,lT,ma,eJ,ft,fB,fP,gb,gC,gP,iq,aC ca,aE (Aa.c (n:=32) af) ca,aw fY,jb,jh,ju,aw iY,jN,jR,kp,aC fw,aE (Aa.c (n:=32) af) fw,go_sem]
           refine AR h0 (fun mL h0=>?_) (fun mL h0=>?_)
           ·try simp only[mL,eJ,ft,fB,fP,gb,gC,gP,iq,aC ca,aE (Aa.c (n:=32) af) ca,aw fY,jb,jh,ju,aw iY,jN,jR,kp,aC fw,aE (Aa.c (n:=32) af) fw,aw kY,lT,ma,go_sem]
            refine AR h0 (fun nq h0=>?_) (fun nq h0=>?_)
            ·try simp only[nq,eJ,ft,fB,fP,gb,gC,gP,iq,aC ca,aE (Aa.c (n:=32) af) ca,aw fY,jb,jh,ju,aw iY,jN,jR,kp,aC fw,aE (Aa.c (n:=32) af) fw,aw kY,lT,ma,mL,go_sem]
             refine AR h0 (fun oe h0=>?_) (fun oe h0=>?_)
             ·try simp only[oe,eJ,ft,fB,fP,gb,gC,gP,iq,aC ca,aE (Aa.c (n:=32) af) ca,aw fY,jb,jh,ju,aw iY,jN,jR,kp,aC fw,aE (Aa.c (n:=32) af) fw,aw kY,lT,ma,mL,nq,go_sem]
              refine AR h0 (fun pY h0=>?_) (fun pY h0=>?_)
              ·try simp only[pY,eJ,ft,fB,fP,gb,gC,gP,iq,aC ca,aE (Aa.c (n:=32) af) ca,aw fY,jb,jh,ju,aw iY,jN,jR,kp,aC fw,aE (Aa.c (n:=32) af) fw,aw kY,lT,ma,mL,nq,oe,go_sem]
               refine AR h0 (fun rD h0=>?_) (fun rD h0=>?_)
               ·try simp only[rD,eJ,ft,fB,fP,gb,gC,gP,iq,aC ca,aE (Aa.c (n:=32) af) ca,aw fY,jb,jh,ju,aw iY,jN,jR,kp,aC fw,aE (Aa.c (n:=32) af) fw,aw kY,lT,ma,mL,nq,oe,pY,go_sem]
                refine AR h0 (fun tH h0=>?_) (fun tH h0=>?_)
                ·try simp only[tH,eJ,ft,fB,fP,gb,gC,gP,iq,aC ca,aE (Aa.c (n:=32) af) ca,aw fY,jb,jh,ju,aw iY,jN,jR,kp,aC fw,aE (Aa.c (n:=32) af) fw,aw kY,lT,ma,mL,nq,oe,pY,rD,go_sem]
                 refine AR h0 (fun vH h0=>?_) (fun vH h0=>?_)
                 ·try simp only[vH,eJ,ft,fB,fP,gb,gC,gP,iq,aC ca,aE (Aa.c (n:=32) af) ca,aw fY,jb,jh,ju,aw iY,jN,jR,kp,aC fw,aE (Aa.c (n:=32) af) fw,aw kY,lT,ma,mL,nq,oe,pY,rD,tH,go_sem]
                  refine AR h0 (fun yi h0=>?_) (fun yi h0=>?_)
                  ·try simp only[yi,eJ,ft,fB,fP,gb,gC,gP,iq,aC ca,aE (Aa.c (n:=32) af) ca,aw fY,jb,jh,ju,aw iY,jN,jR,kp,aC fw,aE (Aa.c (n:=32) af) fw,aw kY,lT,ma,mL,nq,oe,pY,rD,tH,vH,go_sem]
                   refine AR h0 (fun c35 h0=>?_) (fun c35 h0=>?_)
                   ·try simp only[c35,eJ,ft,fB,fP,gb,gC,gP,iq,aC ca,aE (Aa.c (n:=32) af) ca,aw fY,jb,jh,ju,aw iY,jN,jR,kp,aC fw,aE (Aa.c (n:=32) af) fw,aw kY,lT,ma,mL,nq,oe,pY,rD,tH,vH,yi,go_sem]
                    refine AR h0 (fun c36 h0=>?_) (fun c36 h0=>?_)
                    ·try simp only[c36,eJ,ft,fB,fP,gb,gC,gP,iq,aC ca,aE (Aa.c (n:=32) af) ca,aw fY,jb,jh,ju,aw iY,jN,jR,kp,aC fw,aE (Aa.c (n:=32) af) fw,aw kY,lT,ma,mL,nq,oe,pY,rD,tH,vH,yi,c35,go_sem]
                     obtain rfl:=oi h0
                     refine Ag rfl ?_
                     try simp only[F5.rs,eJ,ft,fB,fP,gb,gC,gP,iq,aC ca,aE (Aa.c (n:=32) af) ca,aw fY,jb,jh,ju,aw iY,jN,jR,kp,aC fw,aE (Aa.c (n:=32) af) fw,aw kY,lT,ma,mL,nq,oe,pY,rD,tH,vH,yi,c35,c36,go_sem]
                    ·cases h0
                   ·cases h0
                  ·cases h0
                 ·cases h0
                ·cases h0
               ·cases h0
              ·cases h0
             ·cases h0
            ·cases h0
           ·cases h0
          ·cases h0
         ·cases h0
        ·cases h0
       ·cases h0
      ·cases h0
     ·cases h0
    ·cases h0
   ·cases h0
  ·cases h0
 ·cases h0
def Dg.s0:SC:=
 SQ [SQ [RG [wV 9 6 3,wK 10 .geq 3 9 0 3 4 [9]],CN 10 .skip (.exit 0)],.block 1 (RG [wV 13 5 82 [5],wV 14 0 3,wV 15 6 3,oQ 16 (.binOp .mul 3 (.const (.int .i64 8)) (.tmp 15) 3) 3 [15],wO 17 .shr 3 14 16 3 3 [14,16],wY 18 3 5 17 5 [17],oQ 19 (.buildSlice 82 1 #[(0,.tmp 18)]) 82 [18],wP 20 13 19 82 82 82 [13,19],wG 5 20 82 [20]]),RG [wV 11 6 3 [6],wK 12 .sub 3 11 1 3 3 [11],wG 6 12 3 [12]]]
def Dg.c:SC:=
 SQ [RG [oQ 4 (.assign (.const (.slice none 0 0))) 82 [4]],RG [oQ 5 (.assign (.const (.slice none 0 0))) 82],SQ [RG [wV 7 1 3 [1],wK 8 .sub 3 7 1 3 3 [7],wG 6 8 3 [8]],.block 0 (.loop Dg.s0)],RG [wV 21 5 82 [5],wG 4 21 82 [21]],.ret]
theorem Dg.rs:Tryz.f86.results.toList=[.tmp 4]:=rfl
def Cd.b0 (k:Nat) (n0:Int):(Int×(List Int))->Option (AT (Int×(List Int)) ((List Int)) ((List Int))):=fun s=>match s with
 |(i1,l2)=>
   bif decide ((0:Int)<=i1) then
    (lL (ab (8*i1))).bind fun _=>
    (fJ 1 l2 (IntKind.u8.wrap (Int.fdiv n0 (2 ^ (min (Int.toNat (ab (8*i1))) 64))))).bind fun l6=>
    some (.next (ab (i1 - 1),l6))
   else
    some (.brk l2)
def Cd.h0 (n0:Int):(Int×(List Int))->St:=fun s=>match s with
 |(i1,l2)=>⟨[(0,.int .i64 n0),(5,.loc 0 0 1 0 l2.length l2.length),(6,.int .i64 i1)],[(0,.arr 5 1 (List.map af l2))],[],1,Tryz.f86.ntmps⟩
def Cd.x0:(List Int)->St:=fun l3=>⟨[(5,.loc 0 0 1 0 l3.length l3.length)],[(0,.arr 5 1 (List.map af l3))],[],1,Tryz.f86.ntmps⟩
def Cd (k:Nat) (n0:Int) (many1:Int):Option ((List Int)):=
 (aj (Cd.b0 k n0) k (ab (many1 - 1),[])).bind fun r7=>match r7 with
 |.next _=>none
 |.ret v_=>some v_
 |.brk l3=>
  some l3
theorem Fw (k:Nat) (n0:Int) (many1:Int) (r:(List Int)) (h0:Cd k n0 many1=some r):Ay Tryz.prog 86 [.int .i64 n0,.int .i64 many1] (fun y=>y=.sl 1 (List.map af r)):=by
 refine PB Tryz.f86 Dg.c [.tmp 4] ?_
 simp only[Cd]at h0
 try simp only[Dg.c,go_sem]
 obtain⟨r7,kX,h0⟩:=bs h0
 refine Bf kX (Cd.h0 n0) (Cd.x0) ?_ ?_ ?_
 refine Ai.go [0,5,6] [16] rfl ?_
 try simp only[Cd.h0,go_sem]
 rintro⟨i1,l2⟩ cP Bl Bm h1 aH aF bL
 refine rS ?_
 simp only[Cd.b0]at h1
 try simp only[Dg.s0,Cd.h0,go_sem]
 refine AR h1 ?_ ?_<;>intro c4 h1<;>have F:=c4<;>try simp only[F,go_sem]
 obtain⟨u5,yu5,h1⟩:=bs h1
 have F:=an (aaD yu5) F
 try simp only[F,go_sem]
 obtain⟨l6,kg,h1⟩:=bs h1
 have tu:=pu af kg
 try simp only[F,go_sem]at tu
 have F:=an tu F
 try simp only[F,go_sem]
 refine AD (aH _ _ (oi h1).symm (Ai.go [0,5,6] [0] rfl ?_))
 try simp only[Cd.h0,F,go_sem]
 refine AD (aF _ _ (oi h1).symm (Ai.go [5] [0] rfl ?_))
 try simp only[Cd.x0,F,go_sem]
 rintro l3 aI
 subst aI
 simp only at h0
 refine rS ?_
 try simp only[Cd.x0,go_sem]
 obtain rfl:=oi h0
 refine Ag rfl ?_
 try simp only[go_sem]
def BV.b0 (k:Nat) (n0:Int):(Int×(List Int))->Option (AT (Int×(List Int)) ((List Int)) ((List Int))):=fun s=>match s with
 |(i1,l2)=>
   bif decide ((0:Int)<=i1) then
    (lL (ab (8*i1))).bind fun _=>
    (fJ 1 l2 (IntKind.u8.wrap (Int.fdiv n0 (2 ^ (min (Int.toNat (ab (8*i1))) 64))))).bind fun l6=>
    some (.next (ab (i1 - 1),l6))
   else
    some (.brk l2)
def BV.h0 (H:Heap) (n0:Int):(Int×(List Int))->St:=fun s=>match s with
 |(i1,l2)=>⟨[(0,.int .i64 n0),(5,.loc 0 0 1 0 l2.length l2.length),(6,.int .i64 i1)],[(0,.arr 5 1 (List.map af l2))],H,1,Tryz.f86.ntmps⟩
def BV.x0 (H:Heap):(List Int)->St:=fun l3=>⟨[(5,.loc 0 0 1 0 l3.length l3.length)],[(0,.arr 5 1 (List.map af l3))],H,1,Tryz.f86.ntmps⟩
def BV (k:Nat) (n0:Int) (many1:Int):Option ((List Int)):=
 (aj (BV.b0 k n0) k (ab (many1 - 1),[])).bind fun r7=>match r7 with
 |.next _=>none
 |.ret v_=>some v_
 |.brk l3=>
  some l3
theorem DK (k:Nat) (n0:Int) (many1:Int) (r:(List Int)) (h0:BV k n0 many1=some r):A6 Tryz.prog 86 [.int .i64 n0,.int .i64 many1] [] (fun y fr=>y=.loc 0 0 1 0 r.length r.length/\fr=[(0,.arr 5 1 (List.map af r))]):=by
 have hr:=A6.own (et:=5) (sz:=1) (ls:=List.map af r) (A6.gr AB (f:=86) (fn:=Tryz.f86) (sc:=Dg.c) (args:=[.int .i64 n0,.int .i64 many1]) (fr0:=[]) (by rfl) (by rfl) (by decide +kernel) (by rfl) (by decide +kernel) (Nat.le_of_ble_eq_true rfl) (fun H=>?_))
 simpa only [Bh] using hr
 refine rS ?_
 simp only[BV]at h0
 try simp only[Dg.c,go_sem]
 obtain⟨r7,kX,h0⟩:=bs h0
 refine Bf kX (BV.h0 H n0) (BV.x0 H) ?_ ?_ ?_
 refine Ai.go [0,5,6] [32] rfl ?_
 try simp only[BV.h0,go_sem]
 rintro⟨i1,l2⟩ cP Bl Bm h1 aH aF bL
 refine rS ?_
 simp only[BV.b0]at h1
 try simp only[Dg.s0,BV.h0,go_sem]
 refine AR h1 ?_ ?_<;>intro c4 h1<;>have F:=c4<;>try simp only[F,go_sem]
 obtain⟨u5,yu5,h1⟩:=bs h1
 have F:=an (aaD yu5) F
 try simp only[F,go_sem]
 obtain⟨l6,kg,h1⟩:=bs h1
 have tu:=pu af kg
 try simp only[F,go_sem]at tu
 have F:=an tu F
 try simp only[F,go_sem]
 refine AD (aH _ _ (oi h1).symm (Ai.go [0,5,6] [0] rfl ?_))
 try simp only[BV.h0,F,go_sem]
 refine AD (aF _ _ (oi h1).symm (Ai.go [5] [0] rfl ?_))
 try simp only[BV.x0,F,go_sem]
 rintro l3 aI
 subst aI
 simp only at h0
 refine rS ?_
 try simp only[BV.x0,go_sem]
 obtain rfl:=oi h0
 refine Da rfl ?_
 try simp only[Dg.rs,m8,A0,b9,tM,vP,Be,CO,go_sem]
end Go.Abs
end
