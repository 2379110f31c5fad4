/-
  Part 4 of the proof: a machine over named blocks, what each function computes, and what follows. No condition.
-/
import Derived.Test.YtpgccpdlilnakaaProg
import Derived.Ground.Names2Prog
import Derived.Shelf.Lays
import Derived.WalkKit
import Derived.Lib.Walk
import Derived.Lib.SliceRun
import Derived.Lib.JoinLaws
import Derived.Lib.AppendZerosOnto
import Derived.Lib.Overlaps
import Derived.Laws.Externs
import Derived.Laws.IdiomCopy
import Derived.Laws.NewBlocks
import Derived.Shelf.Spec.SlicesInsert
import Derived.Tactics
import Derived.Tactics2
import Derived.Laws.Pointers
import Derived.RangeFuncLeaves
import Derived.Test.YtpgccpdlilnakaaBAppendsC
set_option linter.unusedVariables false
set_option linter.unusedSimpArgs false
set_option linter.all false
set_option maxRecDepth 100000
set_option maxHeartbeats 8000000
noncomputable section
namespace Go.Abs
open Go.Proofs
structure Bz where
  Kind:Int
  Ab:(Aa 5 Int)
  Df:(List Int)
def Bz.c (x:Bz):List AV:=[.int .i64 x.Kind]++(Aa.c (n:=5) eI x.Ab++([.sl 1 (List.map eI x.Df)]))
structure Bb where
  AE:Int
  DD:Int
  At:Int
  CH:Int
def Bb.c (x:Bb):List AV:=[.int .i64 x.AE,.int .i64 x.DD,.int .i64 x.At,.int .i64 x.CH]
structure Cd where
  Dl:(List Bz)
  Ei:(List Bb)
  Cut:Int
  Fw:Bool
def Cd.c (x:Cd):List AV:=[.sl 7 (List.map Bz.c x.Dl),.sl 4 (List.map Bb.c x.Ei),.int .i64 x.Cut,.bool x.Fw]
structure Entry where
  Ap:Int
  No:Int
def Entry.c (x:Entry):List AV:=[.int .i64 x.Ap,.int .i64 x.No]
structure Ab where
  At:Entry
  Kind:Int
  Day:Int
  Bh:Int
  Of:Entry
  Text:ByteArray
def Ab.c (x:Ab):List AV:=[.int .i64 x.At.Ap,.int .i64 x.At.No,.int .i64 x.Kind,.int .i64 x.Day,.int .i64 x.Bh,.int .i64 x.Of.Ap,.int .i64 x.Of.No,.str x.Text]
structure Cs where
  DE:Int
  By:Int
  Ab:Ab
def Cs.c (x:Cs):List AV:=[.int .i64 x.DE,.int .i64 x.By,.int .i64 x.Ab.At.Ap,.int .i64 x.Ab.At.No,.int .i64 x.Ab.Kind,.int .i64 x.Ab.Day,.int .i64 x.Ab.Bh,.int .i64 x.Ab.Of.Ap,.int .i64 x.Ab.Of.No,.str x.Ab.Text]
structure Aq where
  At:Int
  AE:(Aa 2 (Aa 32 Int))
def Aq.c (x:Aq):List AV:=[.int .i64 x.At]++(Aa.c (n:=2) (Aa.c (n:=32) af) x.AE)
structure Ac where
  Ae:(List (Aa 2 (Aa 32 Int)))
  Ad:(List Aq)
def Ac.c (x:Ac):List AV:=[.sl 64 (List.map (Aa.c (n:=2) (Aa.c (n:=32) af)) x.Ae),.sl 65 (List.map Aq.c x.Ad)]
structure Ai where
  Al:(List Ab)
def Ai.c (x:Ai):List AV:=[.sl 8 (List.map Ab.c x.Al)]
structure Ay where
  Ai:Ai
  BB:Int
  AG:Int
  Used:Int
def Ay.c (x:Ay):List AV:=[.sl 8 (List.map Ab.c x.Ai.Al),.int .i64 x.BB,.int .i64 x.AG,.int .i64 x.Used]
structure az where
  Ac:Ac
def az.c (x:az):List AV:=[.sl 64 (List.map (Aa.c (n:=2) (Aa.c (n:=32) af)) x.Ac.Ae),.sl 65 (List.map Aq.c x.Ac.Ad)]
structure cN where
  af7:(Option az)
  aW:Int
  dE:Int
  used:Int
  book:Ai
  records:Int
def cN.c (x:cN):List AV:=[aP 2 az.c x.af7,.int .i64 x.aW,.int .i64 x.dE,.int .i64 x.used,.sl 8 (List.map Ab.c x.book.Al),.int .i64 x.records]
structure CC where
  AG:Int
  Al:(List Ab)
  Used:Int
def CC.c (x:CC):List AV:=[.int .i64 x.AG,.sl 8 (List.map Ab.c x.Al),.int .i64 x.Used]
def X3:TI:=⟨1,8,[.int .i64 0],.int .i64,0,0,false,[],[],true,[]⟩
def X4:TI:=⟨1,1,[.bool false],.bool,0,0,false,[],[],true,[]⟩
def X5:TI:=⟨1,1,[.int .u8 0],.int .u8,0,0,false,[],[],true,[]⟩
def X9:TI:=⟨1,16,[.str ByteArray.empty],.str,0,0,false,[],[],true,[]⟩
def F6:TI:=⟨1,16,[.bS],.iface,0,0,false,[],[],false,[]⟩
def Gf:TI:=⟨2,16,[.int .i64 0,.int .i64 0],.struct,0,0,false,[],[(0,1,false),(1,1,false)],true,[]⟩
def Gg:TI:=⟨8,72,[.int .i64 0,.int .i64 0,.int .i64 0,.int .i64 0,.int .i64 0,.int .i64 0,.int .i64 0,.str ByteArray.empty],.struct,0,0,false,[],[(0,2,true),(2,1,false),(3,1,false),(4,1,false),(5,2,true),(7,1,false)],true,[]⟩
def Gh:TI:=⟨1,24,[.nil],.slice 122,32,32,true,Aa.c (n:=32) af (Aa.rep 32 (0:Int)),[],false,[(0,122,32)]⟩
def Gi:TI:=⟨1,8,[.int .i64 0],.int .i64,0,0,false,[],[],true,[]⟩
def Gj:TI:=⟨1,24,[.nil],.slice 81,7,72,true,[.int .i64 0]++(Aa.c (n:=5) eI (Aa.rep 5 (0:Int))++([.nil])),[],false,[(0,81,7)]⟩
def Gk:TI:=⟨1,24,[.nil],.slice 190,4,32,true,[.int .i64 0,.int .i64 0,.int .i64 0,.int .i64 0],[],false,[(0,190,4)]⟩
def Gl:TI:=⟨4,64,[.nil,.nil,.int .i64 0,.bool false],.struct,0,0,false,[],[(0,1,false),(1,1,false),(2,1,false),(3,1,false)],false,[(0,81,7),(1,190,4)]⟩
def Gm:TI:=⟨10,88,[.int .i64 0,.int .i64 0,.int .i64 0,.int .i64 0,.int .i64 0,.int .i64 0,.int .i64 0,.int .i64 0,.int .i64 0,.str ByteArray.empty],.struct,0,0,false,[],[(0,1,false),(1,1,false),(2,8,true)],true,[]⟩
def Gn:TI:=⟨1,24,[.nil],.slice 139,64,64,true,Aa.c (n:=2) (Aa.c (n:=32) af) (Aa.rep 2 ((Aa.rep 32 (0:Int)):(Aa 32 Int))),[],false,[(0,139,64)]⟩
def Gp:TI:=⟨1,24,[.nil],.slice 141,65,72,true,[.int .i64 0]++(Aa.c (n:=2) (Aa.c (n:=32) af) (Aa.rep 2 ((Aa.rep 32 (0:Int)):(Aa 32 Int)))),[],false,[(0,141,65)]⟩
def Gq:TI:=⟨2,48,[.nil,.nil],.struct,0,0,false,[],[(0,1,false),(1,1,false)],false,[(0,139,64),(1,141,65)]⟩
def Gr:TI:=⟨1,24,[.nil],.slice 25,8,72,true,[.int .i64 0,.int .i64 0,.int .i64 0,.int .i64 0,.int .i64 0,.int .i64 0,.int .i64 0,.str ByteArray.empty],[],false,[(0,25,8)]⟩
def Gs:TI:=⟨1,24,[.nil],.struct,0,0,false,[],[(0,1,false)],false,[(0,25,8)]⟩
def Gt:TI:=⟨4,48,[.nil,.int .i64 0,.int .i64 0,.int .i64 0],.struct,0,0,false,[],[(0,1,true),(1,1,false),(2,1,false),(3,1,false)],false,[(0,25,8)]⟩
def Gu:TI:=⟨1,24,[.nil],.slice 5,1,1,false,[.int .u8 0],[],false,[(0,5,1)]⟩
def Gv:TI:=⟨1,24,[.nil],.slice 3,1,8,false,[.int .i64 0],[],false,[(0,3,1)]⟩
def Gw:TI:=⟨5,40,Aa.c (n:=5) eI (Aa.rep 5 (0:Int)),.array 5 3,1,8,false,[.int .i64 0],[],true,[]⟩
def Gx:TI:=⟨7,72,[.int .i64 0]++(Aa.c (n:=5) eI (Aa.rep 5 (0:Int))++([.nil])),.struct,0,0,false,[],[(0,1,false),(1,5,true),(6,1,false)],false,[(6,3,1)]⟩
def Gy:TI:=⟨1,24,[.nil],.slice 42,2,48,true,[.nil,.nil],[],false,[(0,42,2)]⟩
def Gz:TI:=⟨6,48,Aa.c (n:=6) eI (Aa.rep 6 (0:Int)),.array 6 3,1,8,false,[.int .i64 0],[],true,[]⟩
def FR:TI:=⟨32,32,Aa.c (n:=32) af (Aa.rep 32 (0:Int)),.array 32 5,1,1,false,[.int .u8 0],[],true,[]⟩
def FT:TI:=⟨1,24,[.nil],.slice 126,32,32,true,Aa.c (n:=32) af (Aa.rep 32 (0:Int)),[],false,[(0,126,32)]⟩
def FU:TI:=⟨32,32,Aa.c (n:=32) af (Aa.rep 32 (0:Int)),.array 32 5,1,1,false,[.int .u8 0],[],true,[]⟩
def FV:TI:=⟨1,8,[.bG],.ptr 134,0,0,false,[],[],false,[]⟩
def FX:TI:=⟨2,48,[.nil,.nil],.struct,0,0,false,[],[(0,2,true)],false,[(0,139,64),(1,141,65)]⟩
def FY:TI:=⟨64,64,Aa.c (n:=2) (Aa.c (n:=32) af) (Aa.rep 2 ((Aa.rep 32 (0:Int)):(Aa 32 Int))),.array 2 122,32,32,true,Aa.c (n:=32) af (Aa.rep 32 (0:Int)),[],true,[]⟩
def FZ:TI:=⟨65,72,[.int .i64 0]++(Aa.c (n:=2) (Aa.c (n:=32) af) (Aa.rep 2 ((Aa.rep 32 (0:Int)):(Aa 32 Int)))),.struct,0,0,false,[],[(0,1,false),(1,64,true)],true,[]⟩
def F0:TI:=⟨6,64,[.bG,.int .i64 0,.int .i64 0,.int .i64 0,.nil,.int .i64 0],.struct,0,0,false,[],[(0,1,false),(1,1,false),(2,1,false),(3,1,false),(4,1,true),(5,1,false)],false,[(4,25,8)]⟩
def F1:TI:=⟨3,40,[.int .i64 0,.nil,.int .i64 0],.struct,0,0,false,[],[(0,1,false),(1,1,false),(2,1,false)],false,[(1,25,8)]⟩
def F2:TI:=⟨1,24,[.nil],.slice 4,1,1,false,[.bool false],[],false,[(0,4,1)]⟩
def F3:TI:=⟨1,24,[.nil],.slice 9,1,16,false,[.str ByteArray.empty],[],false,[(0,9,1)]⟩
def F5:TI:=⟨4,32,[.int .i64 0,.int .i64 0,.int .i64 0,.int .i64 0],.struct,0,0,false,[],[(0,1,false),(1,1,false),(2,1,false),(3,1,false)],true,[]⟩
def F7:TI:=⟨2,16,Aa.c (n:=2) eI (Aa.rep 2 (0:Int)),.array 2 3,1,8,false,[.int .i64 0],[],true,[]⟩
def F8:TI:=⟨1,24,[.nil],.slice 201,2,16,true,Aa.c (n:=2) eI (Aa.rep 2 (0:Int)),[],false,[(0,201,2)]⟩
def F9:TI:=⟨0,0,[],.struct,0,0,false,[],[],true,[]⟩
def Ga:TI:=⟨1,8,[.bG],.ptr 208,0,0,false,[],[],false,[]⟩
def Gb:TI:=⟨1,24,[.nil],.struct,0,0,false,[],[(0,1,false)],false,[(0,5,1)]⟩
def Gc:TI:=⟨1,8,[.int .u64 0],.int .u64,0,0,false,[],[],true,[]⟩
def Gd:TI:=⟨1,8,[.raw (.map none)],.map 23 4,0,0,false,[],[],false,[]⟩
def Ge:TI:=⟨1,8,[.bP],.func,0,0,false,[],[],false,[]⟩
def TL:List (Nat×TI):=[(3,X3),(4,X4),(5,X5),(9,X9),(20,F6),(23,Gf),(25,Gg),(27,Gh),(28,Gi),(33,Gj),(34,Gk),(36,Gl),(38,Gm),(39,Gn),(40,Gp),(42,Gq),(44,Gr),(46,Gs),(48,Gt),(56,Gu),(63,Gv),(79,Gw),(81,Gx),(82,Gy),(95,Gz),(122,FR),(124,FT),(126,FU),(130,FV),(134,FX),(139,FY),(141,FZ),(145,F0),(150,F1),(173,F2),(182,F3),(190,F5),(201,F7),(202,F8),(204,F9),(206,Ga),(208,Gb),(211,Gc),(216,Gd),(224,Ge)]
def T:AM:=look TL
theorem Ax:AQ Try.prog T:=aqI _ _ (by decide +kernel)
theorem aS:Try.prog.follows .mixedOrders=true:=by rfl
theorem Jq:T 3=some X3:=rfl
theorem Jx:T 4=some X4:=rfl
theorem JD:T 5=some X5:=rfl
theorem JJ:T 9=some X9:=rfl
theorem Jc:T 20=some F6:=rfl
theorem Jl:T 23=some Gf:=rfl
theorem Jm:T 25=some Gg:=rfl
theorem Jo:T 27=some Gh:=rfl
theorem Jp:T 28=some Gi:=rfl
theorem Js:T 33=some Gj:=rfl
theorem Jt:T 34=some Gk:=rfl
theorem Ju:T 36=some Gl:=rfl
theorem Jv:T 38=some Gm:=rfl
theorem Jw:T 39=some Gn:=rfl
theorem Jy:T 40=some Gp:=rfl
theorem Jz:T 42=some Gq:=rfl
theorem JA:T 44=some Gr:=rfl
theorem JB:T 46=some Gs:=rfl
theorem JC:T 48=some Gt:=rfl
theorem JE:T 56=some Gu:=rfl
theorem JF:T 63=some Gv:=rfl
theorem JG:T 79=some Gw:=rfl
theorem JH:T 81=some Gx:=rfl
theorem JI:T 82=some Gy:=rfl
theorem JK:T 95=some Gz:=rfl
theorem I0:T 122=some FR:=rfl
theorem I1:T 124=some FT:=rfl
theorem I2:T 126=some FU:=rfl
theorem I3:T 130=some FV:=rfl
theorem I4:T 134=some FX:=rfl
theorem I5:T 139=some FY:=rfl
theorem I6:T 141=some FZ:=rfl
theorem I7:T 145=some F0:=rfl
theorem I8:T 150=some F1:=rfl
theorem I9:T 173=some F2:=rfl
theorem Ja:T 182=some F3:=rfl
theorem Jb:T 190=some F5:=rfl
theorem Jd:T 201=some F7:=rfl
theorem Je:T 202=some F8:=rfl
theorem Jf:T 204=some F9:=rfl
theorem Jg:T 206=some Ga:=rfl
theorem Jh:T 208=some Gb:=rfl
theorem Ji:T 211=some Gc:=rfl
theorem Jj:T 216=some Gd:=rfl
theorem Jk:T 224=some Ge:=rfl
attribute [go_sem] Jq X3 Jx X4 JD X5 JJ X9 Jc F6 Jl Gf Jm Gg Jo Gh Jp Gi Js Gj Jt Gk Ju Gl Jv Gm Jw Gn Jy Gp Jz Gq JA Gr JB Gs JC Gt JE Gu JF Gv JG Gw JH Gx JI Gy JK Gz I0 FR I1 FT I2 FU I3 FV I4 FX I5 FY I6 FZ I7 F0 I8 F1 I9 F2 Ja F3 Jb F5 Jd F7 Je F8 Jf F9 Jg Ga Jh Gb Ji Gc Jj Gd Jk Ge
theorem ajm:VK 8 Ab.c:=⟨fun x=>rfl,fun x=>⟨fun _=>rfl,fun _=>rfl,fun _ _=>rfl,rfl,fun _=>rfl,fun _=>rfl,fun _=>rfl⟩⟩
theorem ae8 (v:(Aa 2 Int)):(Aa.c (n:=2) eI v).length=2:=(VK.vec oU 2).len v
theorem ae7 (v:(Aa 2 Int)) (k:Nat) (b:AH):AV.dz k b (Aa.c (n:=2) eI v)=some (Aa.c (n:=2) eI v):=xT (fun _=>rfl) v
theorem ako (v:(Aa 2 Int)):DZ (Aa.c (n:=2) eI v) 2 3 4 5:=xh (ae8 v) ((VK.vec oU 2).rD v) (ae7 v) rfl rfl rfl
attribute [go_sem] ae8 ae7 ako
theorem afa (v:(Aa 5 Int)):(Aa.c (n:=5) eI v).length=5:=(VK.vec oU 5).len v
theorem ae9 (v:(Aa 5 Int)) (k:Nat) (b:AH):AV.dz k b (Aa.c (n:=5) eI v)=some (Aa.c (n:=5) eI v):=xT (fun _=>rfl) v
theorem akp (v:(Aa 5 Int)):DZ (Aa.c (n:=5) eI v) 5 6 7 8:=xh (afa v) ((VK.vec oU 5).rD v) (ae9 v) rfl rfl rfl
attribute [go_sem] afa ae9 akp
theorem afc (v:(Aa 6 Int)):(Aa.c (n:=6) eI v).length=6:=(VK.vec oU 6).len v
theorem afb (v:(Aa 6 Int)) (k:Nat) (b:AH):AV.dz k b (Aa.c (n:=6) eI v)=some (Aa.c (n:=6) eI v):=xT (fun _=>rfl) v
theorem akq (v:(Aa 6 Int)):DZ (Aa.c (n:=6) eI v) 6 7 8 9:=xh (afc v) ((VK.vec oU 6).rD v) (afb v) rfl rfl rfl
attribute [go_sem] afc afb akq
theorem ae4 (v:(Aa 32 Int)):(Aa.c (n:=32) af v).length=32:=(VK.vec mT 32).len v
theorem acg (v:(Aa 32 Int)) (k:Nat) (b:AH):AV.dz k b (Aa.c (n:=32) af v)=some (Aa.c (n:=32) af v):=xT (fun _=>rfl) v
theorem akl (v:(Aa 32 Int)):DZ (Aa.c (n:=32) af v) 32 33 34 35:=xh (ae4 v) ((VK.vec mT 32).rD v) (acg v) rfl rfl rfl
theorem ae3 (a b:(Aa 32 Int)):bJ (Aa.c (n:=32) af (Aa.rep 32 (0:Int))) (Aa.c (n:=32) af a) (Aa.c (n:=32) af b)=some ((Aa.eq (fun(x y:Int)=>decide (x=y))) a b):=agj mT.len (fun x y=>by simp[bJ,j7,eI,af,eB,eS]) a b
attribute [go_sem] ae4 acg akl ae3
theorem ae6 (v:(Aa 2 (Aa 32 Int))):(Aa.c (n:=2) (Aa.c (n:=32) af) v).length=64:=(VK.vec (VK.vec mT 32) 2).len v
theorem ae5 (v:(Aa 2 (Aa 32 Int))) (k:Nat) (b:AH):AV.dz k b (Aa.c (n:=2) (Aa.c (n:=32) af) v)=some (Aa.c (n:=2) (Aa.c (n:=32) af) v):=xT (fun y=>acg y k b) v
theorem akm (v:(Aa 2 (Aa 32 Int))):DZ (Aa.c (n:=2) (Aa.c (n:=32) af) v) 64 65 66 67:=xh (ae6 v) ((VK.vec (VK.vec mT 32) 2).rD v) (ae5 v) rfl rfl rfl
theorem akn (a b:(Aa 2 (Aa 32 Int))):bJ (Aa.c (n:=2) (Aa.c (n:=32) af) (Aa.rep 2 ((Aa.rep 32 (0:Int)):(Aa 32 Int)))) (Aa.c (n:=2) (Aa.c (n:=32) af) a) (Aa.c (n:=2) (Aa.c (n:=32) af) b)=some ((Aa.eq (Aa.eq (fun(x y:Int)=>decide (x=y)))) a b):=agj (VK.vec mT 32).len ae3 a b
attribute [go_sem] ae6 ae5 akm akn
theorem ar0:Lf Bb.c:=by
  intro x y hy
  simp only[Bb.c,Ba,BE,List.not_mem_nil,or_false]at hy
  rcases hy with hy|hy|hy|hy<;>first|(subst hy;rfl)
theorem aoE:Lf Aq.c:=by
  intro x y hy
  simp only[Aq.c,Ba,BE,List.not_mem_nil,or_false]at hy
  rcases hy with hy|hy<;>first|exact(Lf.vec (n:=2) (Lf.vec ahH)) _ _ hy|(subst hy;rfl)
attribute [go_sem] Bz.c Bb.c Cd.c Entry.c Ab.c Cs.c Aq.c Ac.c Ai.c Ay.c az.c cN.c CC.c
theorem acp {b:Bool} (h:(!b)=true):b=false:=by simpa using h
theorem aco {b:Bool} (h:(!b)=false):b=true:=by simpa using h
theorem ga:∀ q_,(Aa.c (n:=32) af q_).length=32:=fun q_=>(VK.vec mT 32).len q_
theorem fu:∀ q_,(af q_).length=1:=fun q_=>mT.len q_
theorem akj:∀ q_,(Aa.c (n:=2) eI q_).length=2:=fun q_=>(VK.vec oU 2).len q_
theorem ml:∀ q_,(eI q_).length=1:=fun q_=>oU.len q_
theorem fv:∀ q_,(Aa.c (n:=2) (Aa.c (n:=32) af) q_).length=64:=fun q_=>(VK.vec (VK.vec mT 32) 2).len q_
theorem gA:∀ q_,((Aa.c (n:=32) af) q_).length=32:=fun q_=>(VK.vec mT 32).len q_
theorem akk:∀ q_,(Aa.c (n:=6) eI q_).length=6:=fun q_=>(VK.vec oU 6).len q_
theorem xg:∀ q_,(Aa.c (n:=5) eI q_).length=5:=fun q_=>(VK.vec oU 5).len q_
theorem PB (fn : Func) (sc : SC) (rs : List ResultVar) {f : FuncId} {c : Code} {args : List AV} {v : AV} (h : AJ Try.prog fn.ntmps (Dx T rs fun y => NL y v) (run T 1000 [.sc sc] (St.enter args [] fn.ntmps))) (hf : Try.prog.funcs[f]? = some fn := by rfl) (hb : fn.body = some c := by rfl) (jl : (fn.name == "runtime.NumGoroutine") = false := by decide +kernel) (he : sc.bare = erase fn.ntmps c := by rfl) (eN : (erase fn.ntmps c).fits fn.ntmps = true := by decide +kernel) (fo : args.length ≤ fn.ntmps := by exact Nat.le_of_ble_eq_true rfl) (hrs : fn.results.toList = rs := by rfl) : Aw Try.prog f args (fun y => y = v) := Aw.nlr (Aw.gr Ax hf hb jl he eN fo (by rw [hrs]; exact gN Ax 1000 _ _ h))
section
variable {n:Nat}{Φ:Exit->St->Prop}{f:FuncId}{args ay:List AV}{v:AV}{dst:Option Tmp}{drop:List Nat}{todo:List It}{st:St}{C:List (De×Rd)->St->Prop}{o:An}{os:List An}{acc:List (De×Rd)}{ops:List An}{befs:List (List Nat)}
theorem rS [Md] (h:AJ Try.prog n Φ (run T 1000 todo st)):AK Try.prog n Φ todo st:=gN Ax 1000 _ _ h
theorem au {α ρ:Type}{A:Option α}{G:α->Option ρ}{r:ρ}{vf:α->AV} (h0:A.bind G=some r) (hp:∀ x,A=some x->Aw Try.prog f ay (fun y=>y=vf x)) (hz:kG (AV.aG (Heap.get ([]::st.fr::st.low)) args) ay) (h:∀ x,G x=some r->AJ Try.prog n Φ (run T 1000 todo (st.gz dst drop (vf x) [] (st.fr::st.low)))) (hr:∀ x,(AV.aN args).isEmpty || (vf x).cU=true:=by intro _;first|rfl|(simp[AV.aN,AV.refs,AV.cU,AV.leaf];done)|simp[AV.aN,AV.refs,AV.cU,AV.leaf,go_sem]):AJ Try.prog n Φ (.call f args dst drop todo st):=let ⟨x,e,g⟩:=bind_some h0;GA Ax 1000 (hp x e) hz (hr x) (h x g)
theorem zqL {α ρ:Type}{A:Option α}{G:α->Option ρ}{r:ρ}{vf:α->AV} (h0:A.bind G=some r) (hp:∀ x,A=some x->Aw Try.prog f ay (fun y=>y=vf x)) (hz:kG (AV.cW (Heap.get ([]::st.fr::st.low)) (cQ (Heap.get ([]::st.fr::st.low)) 5) args) ay) (h:∀ x,G x=some r->AJ Try.prog n Φ (run T 1000 todo (st.gz dst drop (vf x) [] (st.fr::st.low)))) (hr:∀ x,(vf x).cU=true:=by intro _;first|rfl|(simp[AV.aN,AV.refs,AV.cU,AV.leaf];done)|simp[AV.aN,AV.refs,AV.cU,AV.leaf,go_sem]):AJ Try.prog n Φ (.call f args dst drop todo st):=let ⟨x,e,g⟩:=bind_some h0;HS Ax 1000 (hp x e) hz (hr x) (h x g)
theorem zqT (rs:List Nat) {α ρ:Type}{A:Option α}{G:α->Option ρ}{r:ρ}{vf:α->AV} (h0:A.bind G=some r) (hp:∀ x,A=some x->Aw Try.prog f ay (fun y=>y=vf x)) (hz:kG (AV.cW (only (Heap.get ([]::st.fr::st.low)) (rs.map fun k=>(1,k))) (cQ (only (Heap.get ([]::st.fr::st.low)) (rs.map fun k=>(1,k))) 5) args) ay) (h:∀ x,G x=some r->AJ Try.prog n Φ (run T 1000 todo (st.gz dst drop (vf x) [] (cA st.fr rs::st.low)))):AJ Try.prog n Φ (.call f args dst drop todo st):=let ⟨x,e,g⟩:=bind_some h0;Fe Ax 1000 rs (hp x e) hz (h x g)
theorem cn {α ρ:Type}{A:Option α}{G:α->Option ρ}{r:ρ}{vf:α->AV} (h0:A.bind G=some r) (hp:∀ x,A=some x->Aw Try.prog f ay (fun y=>y=vf x)) (hz:kG (AV.aG st.get args) ay) (h:∀ x,G x=some r->DG Try.prog T C (jv T 1000 os ((⟨vf x,[]⟩,some (AV.aN args))::acc) (st.by o.dst [] ⟨vf x,[]⟩))) (hr:∀ x,(AV.aN args).isEmpty || (vf x).cU=true:=by intro _;first|rfl|(simp[AV.aN,AV.refs,AV.cU,AV.leaf];done)|simp[AV.aN,AV.refs,AV.cU,AV.leaf,go_sem]):DG Try.prog T C (.call f args o os acc st):=let ⟨x,e,g⟩:=bind_some h0;GI 1000 (hp x e) hz (hr x) (h x g)
theorem aF [Md] {ds:List (De×Rd)}{ui:St} (h:AJ Try.prog n Φ (run T 1000 todo ui)) (hC:(calm ops befs ds=true/\AK Try.prog n Φ todo ui)->C acc st:=by exact fun h=>h) {sk:List (List (Nat×Nat)×Rd)} (h1:mR ds=sk:=by (simp only[mR,List.reverse_cons,List.reverse_nil,BM,Bq,List.map_cons,List.map_nil,List.append_nil];rfl)) (h2:calm ops befs (nO sk)=true:=by first|decide +kernel|rfl):
    DG Try.prog T C (.done acc st):=ame Ax h hC h1 h2
end
theorem kH:∀ q_,(af q_).length=1:=fun q_=>mT.len q_
theorem zlh:∀ q_,(Aa.c (n:=32) af q_).length=32:=fun q_=>(VK.vec mT 32).len q_
section
variable {n:Nat}{Φ:Exit->St->Prop}{f:FuncId}{args ay:List AV}{v:AV}{dst:Option Tmp}{drop:List Nat}{todo:List It}{st:St}{C:List (De×Rd)->St->Prop}{o:An}{os:List An}{acc:List (De×Rd)}
theorem jx [Md] (hp:Aw Try.prog f ay (fun y=>y=v)) (hz:kG (AV.aG (Heap.get ([]::st.fr::st.low)) args) ay) (h:AJ Try.prog n Φ (run T 1000 todo (st.gz dst drop v [] (st.fr::st.low)))) (hr:(AV.aN args).isEmpty || v.cU=true:=by first|rfl|simp[AV.aN,AV.refs,AV.cU,AV.leaf]):AJ Try.prog n Φ (.call f args dst drop todo st):=GA Ax 1000 hp hz hr h
theorem uW [Md] (hp:Aw Try.prog f ay (fun y=>y=v)) (hz:kG (AV.aG st.get args) ay) (h:DG Try.prog T C (jv T 1000 os ((⟨v,[]⟩,some (AV.aN args))::acc) (st.by o.dst [] ⟨v,[]⟩))) (hr:(AV.aN args).isEmpty || v.cU=true:=by first|rfl|simp[AV.aN,AV.refs,AV.cU,AV.leaf]):DG Try.prog T C (.call f args o os acc st):=GI 1000 hp hz hr h
end
end Go.Abs

namespace Go.Abs
open Go.Proofs
def Hm.c:SC:=
 SQ [RG [wB 6 false 4 [6]],RG [wV 7 1 3 [1],wV 8 0 3,wO 9 .leq 3 7 8 3 4 [7,8],wV 10 9 4 [9],gd 10 true (wV 11 0 3 [0]),gd 10 true (wV 12 2 3 [2]),gd 10 true (wO 13 .leq 3 11 12 3 4 [11,12]),wZ 14 10 13 4 [10,13],wG 6 14 4 [14]],.ret]
def lA (k:Nat) (n0:Int) (lo1:Int) (jj:Int):Option (Bool):=
 bif decide (lo1<=n0) then
  some (decide (n0<=jj))
 else
  some false
theorem pq (k:Nat) (n0:Int) (lo1:Int) (jj:Int) (r:Bool) (h0:lA k n0 lo1 jj=some r):Aw Try.prog 65 [.int .i64 n0,.int .i64 lo1,.int .i64 jj] (fun y=>y=.bool r):=by
 refine PB Try.f65 Hm.c [.tmp 6] ?_
 simp only[lA]at h0
 try simp only[Hm.c,go_sem]
 refine AS h0 ?_ ?_<;>intro c1 h0<;>have F:=c1<;>try simp only[F,go_sem]
 obtain rfl:=oi h0
 refine Ag rfl ?_
 try simp only[F,go_sem]
 obtain rfl:=oi h0
 refine Ag rfl ?_
 try simp only[F,go_sem]
def GZ.c:SC:=
 SQ [RG [wE 1 23 0 [0],wB 2 false 4 [2]],RG [wF 3 23 1 0,wD 4 3 3 [3],wC 5 65 #[.tmp 4,.const (.int .i64 0),.const (.int .i64 5)] #[3,3,3] 4 [4],wV 6 5 4 [5],gd 6 true (wF 7 23 1 1 [1]),gd 6 true (wD 8 3 7 [7]),gd 6 true (wC 9 65 #[.tmp 8,.const (.int .i64 0),.const (.int .i64 9999)] #[3,3,3] 4 [8]),wZ 10 6 9 4 [6,9],wG 2 10 4 [10]],.ret]
def uL (k:Nat) (x0:Entry):Option (Bool):=
 (lA k x0.Ap 0 5).bind fun x1=>
 bif x1 then
  (lA k x0.No 0 9999).bind fun x3=>
  some x3
 else
  some false
theorem afA (k:Nat) (x0:Entry) (r:Bool) (h0:uL k x0=some r):Aw Try.prog 133 [.agg (Entry.c x0)] (fun y=>y=.bool r):=by
 refine PB Try.f133 GZ.c [.tmp 2] ?_
 simp only[uL]at h0
 try simp only[GZ.c,go_sem]
 refine au h0 (pq k _ _ _) ?_ (fun x1 h0=>?_)<;>try simp only[go_sem]
 refine AS h0 ?_ ?_<;>intro c2 h0<;>have F:=c2<;>try simp only[F,go_sem]
 refine au h0 (pq k _ _ _) ?_ (fun x3 h0=>?_)<;>try simp only[F,go_sem]
 obtain rfl:=oi h0
 refine Ag rfl ?_
 try simp only[F,go_sem]
 obtain rfl:=oi h0
 refine Ag rfl ?_
 try simp only[F,go_sem]
def Eu.s0:SC:=
 SQ [RG [wO 10 .lss 3 9 8 3 4],CN 10 .skip (.exit 0),.block 1 (SQ [RG [wV 11 9 3,wG 3 11 3 [11]],RG [wV 12 0 9,wV 13 3 3,oQ 14 (.index 9 (.tmp 12) (.tmp 13)) 5 [12,13],oQ 15 (.binOp .lss 5 (.tmp 14) (.const (.int .u8 32)) 5) 4 [14],wV 16 15 4 [15],gd 16 false (wV 17 0 9),gd 16 false (wV 18 3 3 [3]),gd 16 false (oQ 19 (.index 9 (.tmp 17) (.tmp 18)) 5 [17,18]),
 gd 16 false (oQ 20 (.binOp .gtr 5 (.tmp 19) (.const (.int .u8 126)) 5) 4 [19]),wT 21 16 20 4 [16,20]],CN 21 (SQ [RG [wB 2 false 4],.ret]) .skip]),RG [wK 22 .add 3 9 1 3 3 [9],wV 9 22 3 [22]]]
def Eu.c:SC:=
 SQ [RG [wB 2 false 4 [2]],SQ [RG [wV 4 0 9,wL 5 4 9 3 [4],wK 6 .gtr 3 5 200 3 4 [5]],CN 6 (SQ [RG [wB 2 false 4],.ret]) .skip],SQ [RG [wV 7 0 9,wL 8 7 9 3 [7],oQ 9 (.move (.const (.int .i64 0))) 3],.block 0 (.loop Eu.s0)],RG [wB 2 true 4],.ret]
def gW.b0 (k:Nat) (s0:ByteArray):Int->Option (AT (Int) (Unit) (Bool)):=fun i2=>
 bif decide (i2<(s0.size:Int)) then
  (sa s0 i2).bind fun i4=>
  bif (!decide (i4<(32:Int))) then
   bif decide ((126:Int)<i4) then
    some (.ret false)
   else
    some (.next (ab (i2+1)))
  else
   some (.ret false)
 else
  some (.brk ())
def gW.h0 (s0:ByteArray):Int->St:=fun i2=>⟨[(0,.str s0),(8,.int .i64 (s0.size:Int)),(9,.int .i64 i2)],[],[],1,Try.f134.ntmps⟩
def gW.x0:Unit->St:=fun _=>⟨[],[],[],1,Try.f134.ntmps⟩
def gW (k:Nat) (s0:ByteArray):Option (Bool):=
 bif decide ((200:Int)<(s0.size:Int)) then
  some false
 else
  (aj (gW.b0 k s0) k 0).bind fun r7=>match r7 with
  |.next _=>none
  |.ret v_=>some v_
  |.brk _=>
   some true
theorem alq (k:Nat) (s0:ByteArray) (r:Bool) (h0:gW k s0=some r):Aw Try.prog 134 [.str s0] (fun y=>y=.bool r):=by
 refine PB Try.f134 Eu.c [.tmp 2] ?_
 simp only[gW]at h0
 try simp only[Eu.c,go_sem]
 refine AS h0 ?_ ?_<;>intro c1 h0<;>have F:=c1<;>try simp only[F,go_sem]
 obtain rfl:=oi h0
 refine Ag rfl ?_
 try simp only[F,go_sem]
 obtain⟨r7,kF,h0⟩:=bs h0
 refine Bf kF (gW.h0 s0) (gW.x0) ?_ ?_ ?_
 refine Ah.go [0,8,9] [] rfl ?_
 try simp only[gW.h0,F,go_sem]
 rintro i2 cO Bm Bn h1 aJ aH bK
 refine rS ?_
 simp only[gW.b0]at h1
 try simp only[Eu.s0,gW.h0,F,go_sem]
 refine AF F h1 ?_ ?_<;>intro F h1<;>try simp only[F,go_sem]
 obtain⟨i4,yi4,h1⟩:=bs h1
 have F:=an (aiK yi4) (an (aiJ yi4) F)
 try simp only[F,go_sem]
 refine Bt F h1 ?_ ?_<;>intro F h1<;>try simp only[F,go_sem]
 refine AF F h1 ?_ ?_<;>intro F h1<;>try simp only[F,go_sem]
 obtain rfl:=bK _ (oi h1).symm
 simp only at h0
 obtain rfl:=oi h0
 refine Ag rfl ?_
 try simp only[F,go_sem]
 refine AB (aJ _ _ (oi h1).symm (Ah.go [0,8,9] [] rfl ?_))
 try simp only[gW.h0,F,go_sem]
 obtain rfl:=bK _ (oi h1).symm
 simp only at h0
 obtain rfl:=oi h0
 refine Ag rfl ?_
 try simp only[F,go_sem]
 refine AB (aH _ _ (oi h1).symm (Ah.go [] [] rfl ?_))
 try simp only[gW.x0,F,go_sem]
 rintro _ aK
 subst aK
 simp only at h0
 refine rS ?_
 try simp only[gW.x0,F,go_sem]
 obtain rfl:=oi h0
 refine Ag rfl ?_
 try simp only[F,go_sem]
def Hu.c:SC:=
 SQ [RG [wE 1 25 0 [0],wB 2 false 4 [2]],SQ [RG [wF 3 25 1 0,wD 4 23 3 [3],wU 5 133 4 23 4 [4],wQ 6 5 4 [5],wV 7 6 4 [6],gd 7 false (wF 8 25 1 1),gd 7 false (wD 9 3 8 [8]),gd 7 false (wC 10 65 #[.tmp 9,.const (.int .i64 0),.const (.int .i64 40)] #[3,3,3] 4 [9]),gd 7 false (wQ 11 10 4 [10]),wT 12 7 11 4 [7,11],wV 13 12 4 [12],gd 13 false (wF 14 25 1 2),gd 13 false (wD 15 3 14 [14]),
 gd 13 false (wC 16 65 #[.tmp 15,.const (.int .i64 0),.const (.int .i64 100000)] #[3,3,3] 4 [15]),gd 13 false (wQ 17 16 4 [16]),wT 18 13 17 4 [13,17],wV 19 18 4 [18],gd 19 false (wF 20 25 1 3),gd 19 false (wD 21 3 20 [20]),gd 19 false (wC 22 65 #[.tmp 21,.const (.int .i64 0),.const (.int .i64 100000)] #[3,3,3] 4 [21]),gd 19 false (wQ 23 22 4 [22]),wT 24 19 23 4 [19,23],wV 25 24 4 [24],
 gd 25 false (wF 26 25 1 5),gd 25 false (wD 27 9 26 [26]),gd 25 false (wU 28 134 27 9 4 [27]),gd 25 false (wQ 29 28 4 [28]),wT 30 25 29 4 [25,29]],CN 30 (SQ [RG [wB 2 false 4],.ret]) .skip],SQ [RG [wF 31 25 1 1,wD 32 3 31 [31],wK 33 .neq 3 32 0 3 4 [32]],CN 33 (SQ [RG [wF 34 25 1 4 [1],wD 35 23 34 [34],oQ 36 (.build 23 #[]) 23,wO 37 .eql 23 35 36 23 4 [35,36],wG 2 37 4 [37]],.ret]) .skip],
 RG [wF 38 25 1 2,wD 39 3 38 [38],wK 40 .eql 3 39 0 3 4 [39],wV 41 40 4 [40],gd 41 true (wF 42 25 1 5),gd 41 true (wD 43 9 42 [42]),gd 41 true (oQ 44 (.binOp .eql 9 (.tmp 43) (.const (.string ⟨#[]⟩)) 9) 4 [43]),wZ 45 41 44 4 [41,44],wV 46 45 4 [45],gd 46 true (wF 47 25 1 4),gd 46 true (wD 48 23 47 [47]),gd 46 true (wU 49 133 48 23 4 [48]),wZ 50 46 49 4 [46,49],wV 51 50 4 [50],
 gd 51 true (wF 52 25 1 4),gd 51 true (wF 53 23 52 0 [52]),gd 51 true (wD 54 3 53 [53]),gd 51 true (wF 55 25 1 0),gd 51 true (wF 56 23 55 0 [55]),gd 51 true (wD 57 3 56 [56]),gd 51 true (wO 58 .eql 3 54 57 3 4 [54,57]),wZ 59 51 58 4 [51,58],wV 60 59 4 [59],gd 60 true (wF 61 25 1 4),gd 60 true (wF 62 23 61 1 [61]),gd 60 true (wD 63 3 62 [62]),gd 60 true (wF 64 25 1 0 [1]),
 gd 60 true (wF 65 23 64 1 [64]),gd 60 true (wD 66 3 65 [65]),gd 60 true (wO 67 .lss 3 63 66 3 4 [63,66]),wZ 68 60 67 4 [60,67],wG 2 68 4 [68]],.ret]
def po (k:Nat) (r0:Ab):Option (Bool):=
 (uL k r0.At).bind fun x1=>
 bif x1 then
  (lA k r0.Kind 0 40).bind fun x3=>
  bif x3 then
   (lA k r0.Day 0 100000).bind fun x5=>
   bif x5 then
    (lA k r0.Bh 0 100000).bind fun x7=>
    bif x7 then
     (gW k r0.Text).bind fun x9=>
     bif (!x9) then
      some false
     else
      bif (!decide (r0.Kind=(0:Int))) then
       some (decide (r0.Of.Ap=(0:Int))&&decide (r0.Of.No=(0:Int)))
      else
       bif decide (r0.Day=(0:Int)) then
        bif (r0.Text.toList==ByteArray.empty.toList) then
         (uL k r0.Of).bind fun bM=>
         bif bM then
          bif decide (r0.Of.Ap=r0.At.Ap) then
           some (decide (r0.Of.No<r0.At.No))
          else
           some false
         else
          some false
        else
         some false
       else
        some false
    else
     some false
   else
    some false
  else
   some false
 else
  some false
theorem acz (k:Nat) (r0:Ab) (r:Bool) (h0:po k r0=some r):Aw Try.prog 92 [.agg (Ab.c r0)] (fun y=>y=.bool r):=by
 refine PB Try.f92 Hu.c [.tmp 2] ?_
 simp only[po]at h0
 try simp only[Hu.c,go_sem]
 refine au h0 (afA k _) ?_ (fun x1 h0=>?_)<;>try simp only[go_sem]
 refine AS h0 ?_ ?_<;>intro c2 h0<;>have F:=c2<;>try simp only[F,go_sem]
 refine au h0 (pq k _ _ _) ?_ (fun x3 h0=>?_)<;>try simp only[F,go_sem]
 refine AF F h0 ?_ ?_<;>intro F h0<;>try simp only[F,go_sem]
 refine au h0 (pq k _ _ _) ?_ (fun x5 h0=>?_)<;>try simp only[F,go_sem]
 refine AF F h0 ?_ ?_<;>intro F h0<;>try simp only[F,go_sem]
 refine au h0 (pq k _ _ _) ?_ (fun x7 h0=>?_)<;>try simp only[F,go_sem]
 refine AF F h0 ?_ ?_<;>intro F h0<;>try simp only[F,go_sem]
 refine au h0 (alq k _) ?_ (fun x9 h0=>?_)<;>try simp only[F,go_sem]
 refine Bt F h0 ?_ ?_<;>intro F h0<;>try simp only[F,go_sem]
 obtain rfl:=oi h0
 refine Ag rfl ?_
 try simp only[F,go_sem]
 refine Bt F h0 ?_ ?_<;>intro F h0<;>try simp only[F,go_sem]
 obtain rfl:=oi h0
 refine Ag rfl ?_
 try simp only[F,go_sem]
 refine AF F h0 ?_ ?_<;>intro F h0<;>try simp only[F,go_sem]
 refine AF F h0 ?_ ?_<;>intro F h0<;>try simp only[F,go_sem]
 refine au h0 (afA k _) ?_ (fun bM h0=>?_)<;>try simp only[F,go_sem]
 refine AF F h0 ?_ ?_<;>intro F h0<;>try simp only[F,go_sem]
 refine AF F h0 ?_ ?_<;>intro F h0<;>try simp only[F,go_sem]
 obtain rfl:=oi h0
 refine Ag rfl ?_
 try simp only[F,go_sem]
 obtain rfl:=oi h0
 refine Ag rfl ?_
 try simp only[F,go_sem]
 obtain rfl:=oi h0
 refine Ag rfl ?_
 try simp only[F,go_sem]
 obtain rfl:=oi h0
 refine Ag rfl ?_
 try simp only[F,go_sem]
 obtain rfl:=oi h0
 refine Ag rfl ?_
 try simp only[F,go_sem]
 obtain rfl:=oi h0
 refine Ag rfl ?_
 try simp only[F,go_sem]
 obtain rfl:=oi h0
 refine Ag rfl ?_
 try simp only[F,go_sem]
 obtain rfl:=oi h0
 refine Ag rfl ?_
 try simp only[F,go_sem]
 obtain rfl:=oi h0
 refine Ag rfl ?_
 try simp only[F,go_sem]
def Hd.c:SC:=
 SQ [RG [wE 1 25 0 [0],wN 2 0 28 [2]],SQ [RG [wD 3 25 1 [1],wU 4 92 3 25 4 [3],wQ 5 4 4 [4]],CN 5 (SQ [RG [wN 2 90 28],.ret]) .skip],RG [wN 2 0 28],.ret]
def aaP (k:Nat) (r0:Ab):Option (Int):=
 (po k r0).bind fun x1=>
 bif (!x1) then
  some 90
 else
  some 0
theorem aft (k:Nat) (r0:Ab) (r:Int) (h0:aaP k r0=some r):Aw Try.prog 30 [.agg (Ab.c r0)] (fun y=>y=.int .i64 r):=by
 refine PB Try.f30 Hd.c [.tmp 2] ?_
 simp only[aaP]at h0
 try simp only[Hd.c,go_sem]
 refine au h0 (acz k _) ?_ (fun x1 h0=>?_)<;>try simp only[go_sem]
 refine Cr h0 ?_ ?_<;>intro c2 h0<;>have F:=c2<;>try simp only[F,go_sem]
 obtain rfl:=oi h0
 refine Ag rfl ?_
 try simp only[F,go_sem]
 obtain rfl:=oi h0
 refine Ag rfl ?_
 try simp only[F,go_sem]
def Dt.s1:SC:=
 SQ [SQ [RG [wV 45 6 3,wK 46 .geq 3 45 0 3 4 [45]],CN 46 .skip (.exit 2)],.block 3 (RG [wV 49 3 56 [3],wJ 50 201 5 0,wD 51 3 50 [50],wV 52 6 3,oQ 53 (.binOp .mul 3 (.const (.int .i64 8)) (.tmp 52) 3) 3 [52],wO 54 .shr 3 51 53 3 3 [51,53],wY 55 3 5 54 5 [54],oQ 56 (.buildSlice 56 1 #[(0,.tmp 55)]) 56 [55],wP 57 49 56 56 56 56 [49,56],wG 3 57 56 [57]]),RG [wV 47 6 3 [6],wK 48 .sub 3 47 1 3 3 [47],
 wG 6 48 3 [48]]]
def Dt.s0:SC:=
 SQ [RG [wO 39 .lss 3 38 37 3 0],CN 39 .skip (.exit 0),.block 1 (SQ [RG [wI 40 202 36 38,wD 41 201 40 [40],wA 5 201,wS 201 5 41 [41]],RG [wJ 42 201 5 1,wD 43 3 42 [42],wK 44 .sub 3 43 1 3 3 [43],wG 6 44 3 [44]],.block 2 (.loop Dt.s1)]),RG [wK 58 .add 3 38 1 3 3 [38],wV 38 58 3 [58]]]
def Dt.c:SC:=
 SQ [RG [wE 1 25 0 [0],oQ 2 (.assign (.const (.slice none 0 0))) 56 [2]],RG [oQ 3 (.assign (.const (.slice none 0 0))) 56],SQ [RG [wF 7 25 1 0,wF 8 23 7 0 [7],wD 9 3 8 [8],oQ 10 (.build 201 #[(0,.tmp 9),(1,.const (.int .i64 1))]) 201 [9],wF 11 25 1 0,wF 12 23 11 1 [11],wD 13 3 12 [12],oQ 14 (.build 201 #[(0,.tmp 13),(1,.const (.int .i64 2))]) 201 [13],wF 15 25 1 1,wD 16 3 15 [15],
 oQ 17 (.build 201 #[(0,.tmp 16),(1,.const (.int .i64 1))]) 201 [16],wF 18 25 1 2,wD 19 3 18 [18],oQ 20 (.build 201 #[(0,.tmp 19),(1,.const (.int .i64 4))]) 201 [19],wF 21 25 1 3,wD 22 3 21 [21],oQ 23 (.build 201 #[(0,.tmp 22),(1,.const (.int .i64 4))]) 201 [22],wF 24 25 1 4,wF 25 23 24 0 [24],wD 26 3 25 [25],oQ 27 (.build 201 #[(0,.tmp 26),(1,.const (.int .i64 1))]) 201 [26],wF 28 25 1 4,
 wF 29 23 28 1 [28],wD 30 3 29 [29],oQ 31 (.build 201 #[(0,.tmp 30),(1,.const (.int .i64 2))]) 201 [30],wF 32 25 1 5,wD 33 9 32 [32],wL 34 33 9 3 [33],oQ 35 (.build 201 #[(0,.tmp 34),(1,.const (.int .i64 1))]) 201 [34],oQ 36 (.buildSlice 202 8 #[(0,.tmp 10),(1,.tmp 14),(2,.tmp 17),(3,.tmp 20),(4,.tmp 23),(5,.tmp 27),(6,.tmp 31),(7,.tmp 35)]) 202 [10,14,17,20,23,27,31,35],wL 37 36 202 3,
 oQ 38 (.move (.const (.int .i64 0))) 3],.block 0 (.loop Dt.s0)],RG [wV 59 3 56 [3],wF 60 25 1 5 [1],wD 61 9 60 [60],wP 62 59 61 56 9 56 [59,61],wG 2 62 56 [62]],.ret]
def cz.b1 (k:Nat) (x5:(Aa 2 Int)):(Int×(List Int))->Option (AT (Int×(List Int)) ((List Int)) ((List Int))):=fun s=>match s with
 |(i7,l8)=>
   bif decide ((0:Int)<=i7) then
    (x5.at? 0).bind fun df=>
    (lq (ab (8*i7))).bind fun _=>
    (fG 1 l8 (IntKind.u8.wrap (Int.fdiv df (2 ^ (min (Int.toNat (ab (8*i7))) 64))))).bind fun jM=>
    some (.next (ab (i7 - 1),jM))
   else
    some (.brk l8)
def cz.b0 (k:Nat) (r0:Ab):(Int×(List Int))->Option (AT (Int×(List Int)) ((List Int)) ((List Int))):=fun s=>match s with
 |(i1,l2)=>
   bif decide (i1<(8:Int)) then
    (at? [(⟨[r0.At.Ap,1],rfl⟩:(Aa 2 Int)),(⟨[r0.At.No,2],rfl⟩:(Aa 2 Int)),(⟨[r0.Kind,1],rfl⟩:(Aa 2 Int)),(⟨[r0.Day,4],rfl⟩:(Aa 2 Int)),(⟨[r0.Bh,4],rfl⟩:(Aa 2 Int)),(⟨[r0.Of.Ap,1],rfl⟩:(Aa 2 Int)),(⟨[r0.Of.No,2],rfl⟩:(Aa 2 Int)),(⟨[(r0.Text.size:Int),1],rfl⟩:(Aa 2 Int))] i1).bind fun x5=>
    (x5.at? 1).bind fun x6=>
    (aj (cz.b1 k x5) k (ab (x6 - 1),l2)).bind fun rW=>match rW with
    |.next _=>none
    |.ret v_=>some (.ret v_)
    |.brk l9=>
     some (.next (ab (i1+1),l9))
   else
    some (.brk l2)
def cz.h1 (r0:Ab) (i1:Int) (x5:(Aa 2 Int)):(Int×(List Int))->St:=fun s=>match s with
 |(i7,l8)=>⟨[(1,.ptr 0 0 0),(3,.loc 0 1 1 0 l8.length l8.length),(5,.ptr 0 2 0),(6,.int .i64 i7),(36,.loc 0 3 2 0 8 8),(37,.int .i64 8),(38,.int .i64 i1)],[(0,.box ([.int .i64 r0.At.Ap,.int .i64 r0.At.No,.int .i64 r0.Kind,.int .i64 r0.Day,.int .i64 r0.Bh,.int .i64 r0.Of.Ap,.int .i64 r0.Of.No,.str r0.Text])),(1,.arr 5 1 (List.map af l8)),(2,.box (Aa.c (n:=2) eI x5)),(3,.arr 201 2 (List.map (Aa.c (n:=2) eI) [(⟨[r0.At.Ap,1],rfl⟩:(Aa 2 Int)),(⟨[r0.At.No,2],rfl⟩:(Aa 2 Int)),(⟨[r0.Kind,1],rfl⟩:(Aa 2 Int)),(⟨[r0.Day,4],rfl⟩:(Aa 2 Int)),(⟨[r0.Bh,4],rfl⟩:(Aa 2 Int)),(⟨[r0.Of.Ap,1],rfl⟩:(Aa 2 Int)),(⟨[r0.Of.No,2],rfl⟩:(Aa 2 Int)),(⟨[(r0.Text.size:Int),1],rfl⟩:(Aa 2 Int))]))],[],4,Try.f88.ntmps⟩
def cz.x1 (r0:Ab) (i1:Int):(List Int)->St:=fun l9=>⟨[(1,.ptr 0 0 0),(3,.loc 0 1 1 0 l9.length l9.length),(36,.loc 0 2 2 0 8 8),(37,.int .i64 8),(38,.int .i64 i1)],[(0,.box ([.int .i64 r0.At.Ap,.int .i64 r0.At.No,.int .i64 r0.Kind,.int .i64 r0.Day,.int .i64 r0.Bh,.int .i64 r0.Of.Ap,.int .i64 r0.Of.No,.str r0.Text])),(1,.arr 5 1 (List.map af l9)),(2,.arr 201 2 (List.map (Aa.c (n:=2) eI) [(⟨[r0.At.Ap,1],rfl⟩:(Aa 2 Int)),(⟨[r0.At.No,2],rfl⟩:(Aa 2 Int)),(⟨[r0.Kind,1],rfl⟩:(Aa 2 Int)),(⟨[r0.Day,4],rfl⟩:(Aa 2 Int)),(⟨[r0.Bh,4],rfl⟩:(Aa 2 Int)),(⟨[r0.Of.Ap,1],rfl⟩:(Aa 2 Int)),(⟨[r0.Of.No,2],rfl⟩:(Aa 2 Int)),(⟨[(r0.Text.size:Int),1],rfl⟩:(Aa 2 Int))]))],[],3,Try.f88.ntmps⟩
def cz.h0 (r0:Ab):(Int×(List Int))->St:=fun s=>match s with
 |(i1,l2)=>⟨[(1,.ptr 0 0 0),(3,.loc 0 1 1 0 l2.length l2.length),(36,.loc 0 2 2 0 8 8),(37,.int .i64 8),(38,.int .i64 i1)],[(0,.box ([.int .i64 r0.At.Ap,.int .i64 r0.At.No,.int .i64 r0.Kind,.int .i64 r0.Day,.int .i64 r0.Bh,.int .i64 r0.Of.Ap,.int .i64 r0.Of.No,.str r0.Text])),(1,.arr 5 1 (List.map af l2)),(2,.arr 201 2 (List.map (Aa.c (n:=2) eI) [(⟨[r0.At.Ap,1],rfl⟩:(Aa 2 Int)),(⟨[r0.At.No,2],rfl⟩:(Aa 2 Int)),(⟨[r0.Kind,1],rfl⟩:(Aa 2 Int)),(⟨[r0.Day,4],rfl⟩:(Aa 2 Int)),(⟨[r0.Bh,4],rfl⟩:(Aa 2 Int)),(⟨[r0.Of.Ap,1],rfl⟩:(Aa 2 Int)),(⟨[r0.Of.No,2],rfl⟩:(Aa 2 Int)),(⟨[(r0.Text.size:Int),1],rfl⟩:(Aa 2 Int))]))],[],3,Try.f88.ntmps⟩
def cz.x0 (r0:Ab):(List Int)->St:=fun l3=>⟨[(1,.ptr 0 0 0),(3,.loc 0 1 1 0 l3.length l3.length)],[(0,.box ([.int .i64 r0.At.Ap,.int .i64 r0.At.No,.int .i64 r0.Kind,.int .i64 r0.Day,.int .i64 r0.Bh,.int .i64 r0.Of.Ap,.int .i64 r0.Of.No,.str r0.Text])),(1,.arr 5 1 (List.map af l3))],[],2,Try.f88.ntmps⟩
def cz (k:Nat) (r0:Ab):Option ((List Int)):=
 (aj (cz.b0 k r0) k (0,[])).bind fun r15=>match r15 with
 |.next _=>none
 |.ret v_=>some v_
 |.brk l3=>
  (dM 1 l3 (ib r0.Text)).bind fun zr=>
  some zr
theorem afv (k:Nat) (r0:Ab) (r:(List Int)) (h0:cz k r0=some r):Aw Try.prog 88 [.agg (Ab.c r0)] (fun y=>y=.sl 1 (List.map af r)):=by
 refine PB Try.f88 Dt.c [.tmp 2] ?_
 simp only[cz]at h0
 try simp only[Dt.c,(@id (Aa.c (n:=2) eI (Aa.rep 2 (0:Int))=[.int .i64 0,.int .i64 0]) rfl),(@id ([.int .i64 r0.At.Ap,.int .i64 1]=Aa.c (n:=2) eI (⟨[r0.At.Ap,1],rfl⟩:(Aa 2 Int))) rfl),(@id ([.int .i64 r0.At.No,.int .i64 2]=Aa.c (n:=2) eI (⟨[r0.At.No,2],rfl⟩:(Aa 2 Int))) rfl),(@id ([.int .i64 r0.Kind,.int .i64 1]=Aa.c (n:=2) eI (⟨[r0.Kind,1],rfl⟩:(Aa 2 Int))) rfl),(@id ([.int .i64 r0.Day,.int .i64 4]=Aa.c (n:=2) eI (⟨[r0.Day,4],rfl⟩:(Aa 2 Int))) rfl),(@id ([.int .i64 r0.Bh,.int .i64 4]=Aa.c (n:=2) eI (⟨[r0.Bh,4],rfl⟩:(Aa 2 Int))) rfl),(@id ([.int .i64 r0.Of.Ap,.int .i64 1]=Aa.c (n:=2) eI (⟨[r0.Of.Ap,1],rfl⟩:(Aa 2 Int))) rfl),(@id ([.int .i64 r0.Of.No,.int .i64 2]=Aa.c (n:=2) eI (⟨[r0.Of.No,2],rfl⟩:(Aa 2 Int))) rfl),(@id ([.int .i64 (r0.Text.size:Int),.int .i64 1]=Aa.c (n:=2) eI (⟨[(r0.Text.size:Int),1],rfl⟩:(Aa 2 Int))) rfl),(@id (((8:Nat):Int)=8) rfl),go_sem]
 obtain⟨r15,are,h0⟩:=bs h0
 refine Bf are (cz.h0 r0) (cz.x0 r0) ?_ ?_ ?_
 refine Ah.go [1,3,36,37,38] [0,32,512] rfl ?_
 try simp only[cz.h0,go_sem]
 rintro⟨i1,l2⟩ cO Bm Bn h1 aJ aH bK
 refine rS ?_
 simp only[cz.b0]at h1
 try simp only[Dt.s0,cz.h0,go_sem]
 refine AS h1 ?_ ?_<;>intro c4 h1<;>have F:=c4<;>try simp only[F,go_sem]
 obtain⟨x5,cw,h1⟩:=bs h1
 have agC:=aC cw
 simp only[F,go_sem]at agC
 have ag2:=aD (Aa.c (n:=2) eI) cw
 try simp only[F,go_sem]at ag2
 have F:=an agC (an ag2 F)
 try simp only[F,go_sem]
 obtain⟨x6,dQ,h1⟩:=bs h1
 have qG:=Ao.bH ml (Ao.self akj x5) dQ
 have nH:=qG.2
 try simp only[AA,Az,go_sem]at nH
 have F:=an (aq dQ) (an nH F)
 try simp only[F,go_sem]
 obtain⟨rW,aax,h1⟩:=bs h1
 refine Bf aax (cz.h1 r0 i1 x5) (cz.x1 r0 i1) ?_ ?_ ?_
 refine Ah.go [1,3,5,6,36,37,38] [0,1,51,2] rfl ?_
 try simp only[cz.h1,F,go_sem]
 rintro⟨i7,l8⟩ x_2 Fz FA h2 pW rk adJ
 refine rS ?_
 simp only[cz.b1]at h2
 try simp only[Dt.s1,cz.h1,F,go_sem]
 refine AF F h2 ?_ ?_<;>intro F h2<;>try simp only[F,go_sem]
 obtain⟨df,mi,h2⟩:=bs h2
 have abZ:=Ao.bH ml (Ao.self akj x5) mi
 have aaj:=abZ.2
 try simp only[AA,Az,go_sem]at aaj
 have F:=an (aq mi) (an aaj F)
 try simp only[F,go_sem]
 obtain⟨u12,aro,h2⟩:=bs h2
 have F:=an (aab aro) F
 try simp only[F,go_sem]
 obtain⟨jM,aat,h2⟩:=bs h2
 have sy:=pu af aat
 try simp only[F,go_sem]at sy
 have F:=an sy F
 try simp only[F,go_sem]
 refine AB (pW _ _ (oi h2).symm (Ah.go [1,3,5,6,36,37,38] [0,1,2,3] rfl ?_))
 try simp only[cz.h1,F,go_sem]
 refine AB (rk _ _ (oi h2).symm (Ah.go [1,3,36,37,38] [0,1,3] rfl ?_))
 try simp only[cz.x1,F,go_sem]
 rintro l9 aK
 subst aK
 simp only at h1
 refine rS ?_
 try simp only[cz.x1,F,go_sem]
 refine AB (aJ _ _ (oi h1).symm (Ah.go [1,3,36,37,38] [0,1,2] rfl ?_))
 try simp only[cz.h0,F,go_sem]
 refine AB (aH _ _ (oi h1).symm (Ah.go [1,3] [0,1] rfl ?_))
 try simp only[cz.x0,F,go_sem]
 rintro l3 aK
 subst aK
 simp only at h0
 refine rS ?_
 try simp only[cz.x0,go_sem]
 obtain⟨zr,acb,h0⟩:=bs h0
 have ajP:=gT af acb
 try simp only[aeE,ku,(by decide:¬ ([9]:List TypeId)=[56]),go_sem]at ajP
 have F:=ajP
 try simp only[aeE,ku,(by decide:¬ ([9]:List TypeId)=[56]),F,go_sem]
 obtain rfl:=oi h0
 refine Ag rfl ?_
 try simp only[F,go_sem]
def GO.c:SC:=
 SQ [RG [wA 6 126],RG [wA 7 126],RG [wV 8 0 5 [0],wV 9 1 3,oQ 10 (.binOp .shr 3 (.tmp 9) (.const (.int .u64 16)) 211) 3 [9],wY 11 3 5 10 5 [10],wV 12 1 3,oQ 13 (.binOp .shr 3 (.tmp 12) (.const (.int .u64 8)) 211) 3 [12],wY 14 3 5 13 5 [13],wV 15 1 3 [1],wY 16 3 5 15 5 [15],wJ 17 126 7 0,wS 5 17 8 [8,17],wJ 18 126 7 1,wS 5 18 11 [11,18],wJ 19 126 7 2,wS 5 19 14 [14,19],wJ 20 126 7 3,wS 5 20 16 [16,
 20],wJ 21 126 7 31,⟨none,.store 5 (.tmp 21) (.const (.int .u8 165)),0,none,[21]⟩],RG [wV 22 2 3,oQ 23 (.binOp .shr 3 (.tmp 22) (.const (.int .u64 8)) 211) 3 [22],wY 24 3 5 23 5 [23],wV 25 2 3 [2],wY 26 3 5 25 5 [25],wJ 27 126 7 4,wS 5 27 24 [24,27],wJ 28 126 7 5,wS 5 28 26 [26,28]],RG [wD 29 126 7 [7],wS 126 6 29 [29]],.ret]
def xl (k:Nat) (jc:Int) (dF:Int) (qp:Int):Option ((Aa 32 Int)):=
 ((Aa.rep 32 (0:Int)).at? 0).bind fun x1=>
 (((Aa.rep 32 (0:Int)).set 0 jc).at? 1).bind fun x3=>
 ((((Aa.rep 32 (0:Int)).set 0 jc).set 1 (IntKind.u8.wrap (Int.fdiv dF (2 ^ 16)))).at? 2).bind fun x5=>
 (((((Aa.rep 32 (0:Int)).set 0 jc).set 1 (IntKind.u8.wrap (Int.fdiv dF (2 ^ 16)))).set 2 (IntKind.u8.wrap (Int.fdiv dF (2 ^ 8)))).at? 3).bind fun x7=>
 ((((((Aa.rep 32 (0:Int)).set 0 jc).set 1 (IntKind.u8.wrap (Int.fdiv dF (2 ^ 16)))).set 2 (IntKind.u8.wrap (Int.fdiv dF (2 ^ 8)))).set 3 (IntKind.u8.wrap dF)).at? 31).bind fun x9=>
 (((((((Aa.rep 32 (0:Int)).set 0 jc).set 1 (IntKind.u8.wrap (Int.fdiv dF (2 ^ 16)))).set 2 (IntKind.u8.wrap (Int.fdiv dF (2 ^ 8)))).set 3 (IntKind.u8.wrap dF)).set 31 165).at? 4).bind fun df=>
 ((((((((Aa.rep 32 (0:Int)).set 0 jc).set 1 (IntKind.u8.wrap (Int.fdiv dF (2 ^ 16)))).set 2 (IntKind.u8.wrap (Int.fdiv dF (2 ^ 8)))).set 3 (IntKind.u8.wrap dF)).set 31 165).set 4 (IntKind.u8.wrap (Int.fdiv qp (2 ^ 8)))).at? 5).bind fun cF=>
 some ((((((((Aa.rep 32 (0:Int)).set 0 jc).set 1 (IntKind.u8.wrap (Int.fdiv dF (2 ^ 16)))).set 2 (IntKind.u8.wrap (Int.fdiv dF (2 ^ 8)))).set 3 (IntKind.u8.wrap dF)).set 31 165).set 4 (IntKind.u8.wrap (Int.fdiv qp (2 ^ 8)))).set 5 (IntKind.u8.wrap qp))
theorem afu (k:Nat) (jc:Int) (dF:Int) (qp:Int) (r:(Aa 32 Int)) (h0:xl k jc dF qp=some r):Aw Try.prog 115 [.int .u8 jc,.int .i64 dF,.int .i64 qp] (fun y=>y=.agg ((Aa.c (n:=32) af) r)):=by
 refine PB Try.f115 GO.c [.cell 6 126] ?_
 simp only[xl]at h0
 try simp only[GO.c,(@id (min (Int.toNat 16) 64=16) rfl),(@id (min (Int.toNat 8) 64=8) rfl),go_sem]
 have hz:=bs h0;clear h0;cases hz;rename_i x1 hz;cases hz;rename_i iW h0
 have xc:=Ao.bH fu (Ao.self ga (Aa.rep 32 (0:Int))) iW
 have sv:=xc.2
 try simp only[AA,Az,go_sem]at sv
 have q2:=xc.1.ow jc
 try simp only[AA,Az,go_sem]at q2
 have F:=an (aq iW) sv
 try simp only[q2,F,go_sem]
 have hz:=bs h0;clear h0;cases hz;rename_i x3 hz;cases hz;rename_i cP h0
 have uu:=Ao.bH fu (Ao.self ga ((Aa.rep 32 (0:Int)).set 0 jc)) cP
 have aan:=uu.2
 try simp only[AA,Az,go_sem]at aan
 have q4:=uu.1.ow (IntKind.u8.wrap (Int.fdiv dF (2 ^ 16)))
 try simp only[AA,Az,go_sem]at q4
 have F:=an (aq cP) (an aan F)
 try simp only[q4,F,go_sem]
 have hz:=bs h0;clear h0;cases hz;rename_i x5 hz;cases hz;rename_i cw h0
 have xd:=Ao.bH fu (Ao.self ga (((Aa.rep 32 (0:Int)).set 0 jc).set 1 (IntKind.u8.wrap (Int.fdiv dF (2 ^ 16))))) cw
 have sw:=xd.2
 try simp only[AA,Az,go_sem]at sw
 have q6:=xd.1.ow (IntKind.u8.wrap (Int.fdiv dF (2 ^ 8)))
 try simp only[AA,Az,go_sem]at q6
 have F:=an (aq cw) (an sw F)
 try simp only[q6,F,go_sem]
 have hz:=bs h0;clear h0;cases hz;rename_i x7 hz;cases hz;rename_i e9 h0
 have qH:=Ao.bH fu (Ao.self ga ((((Aa.rep 32 (0:Int)).set 0 jc).set 1 (IntKind.u8.wrap (Int.fdiv dF (2 ^ 16)))).set 2 (IntKind.u8.wrap (Int.fdiv dF (2 ^ 8))))) e9
 have nI:=qH.2
 try simp only[AA,Az,go_sem]at nI
 have q8:=qH.1.ow (IntKind.u8.wrap dF)
 try simp only[AA,Az,go_sem]at q8
 have F:=an (aq e9) (an nI F)
 try simp only[q8,F,go_sem]
 have hz:=bs h0;clear h0;cases hz;rename_i x9 hz;cases hz;rename_i ft h0
 have oT:=Ao.bH fu (Ao.self ga (((((Aa.rep 32 (0:Int)).set 0 jc).set 1 (IntKind.u8.wrap (Int.fdiv dF (2 ^ 16)))).set 2 (IntKind.u8.wrap (Int.fdiv dF (2 ^ 8)))).set 3 (IntKind.u8.wrap dF))) ft
 have sx:=oT.2
 try simp only[AA,Az,go_sem]at sx
 have zU:=oT.1.ow 165
 try simp only[AA,Az,go_sem]at zU
 have F:=an (aq ft) (an sx F)
 try simp only[zU,(@id (min (Int.toNat 8) 64=8) rfl),F,go_sem]
 have hz:=bs h0;clear h0;cases hz;rename_i df hz;cases hz;rename_i mi h0
 have abZ:=Ao.bH fu (Ao.self ga ((((((Aa.rep 32 (0:Int)).set 0 jc).set 1 (IntKind.u8.wrap (Int.fdiv dF (2 ^ 16)))).set 2 (IntKind.u8.wrap (Int.fdiv dF (2 ^ 8)))).set 3 (IntKind.u8.wrap dF)).set 31 165)) mi
 have aaj:=abZ.2
 try simp only[AA,Az,go_sem]at aaj
 have zV:=abZ.1.ow (IntKind.u8.wrap (Int.fdiv qp (2 ^ 8)))
 try simp only[AA,Az,go_sem]at zV
 have F:=an (aq mi) (an aaj F)
 try simp only[zV,F,go_sem]
 have hz:=bs h0;clear h0;cases hz;rename_i cF hz;cases hz;rename_i qN h0
 have ai8:=Ao.bH fu (Ao.self ga (((((((Aa.rep 32 (0:Int)).set 0 jc).set 1 (IntKind.u8.wrap (Int.fdiv dF (2 ^ 16)))).set 2 (IntKind.u8.wrap (Int.fdiv dF (2 ^ 8)))).set 3 (IntKind.u8.wrap dF)).set 31 165).set 4 (IntKind.u8.wrap (Int.fdiv qp (2 ^ 8))))) qN
 have ajx:=ai8.2
 try simp only[AA,Az,go_sem]at ajx
 have q14:=ai8.1.ow (IntKind.u8.wrap qp)
 try simp only[AA,Az,go_sem]at q14
 have F:=an (aq qN) (an ajx F)
 try simp only[q14,F,go_sem]
 obtain rfl:=oi h0
 refine Ag rfl ?_
 try simp only[F,go_sem]
def ED.s0:SC:=
 SQ [RG [wO 21 .lss 3 20 19 3 4],CN 21 .skip (.exit 0),.block 1 (SQ [RG [wV 22 20 3,wG 10 22 3 [22]],RG [wV 23 2 3,wV 24 1 3,wC 25 115 #[.const (.int .u8 112),.tmp 23,.tmp 24] #[5,3,3] 126 [23,24],wA 11 126,wS 126 11 25 [25]],RG [wV 26 10 3,wY 27 3 5 26 5 [26],wV 28 9 3,wY 29 3 5 28 5 [28],wJ 30 126 11 6,wS 5 30 27 [27,30],wJ 31 126 11 7,wS 5 31 29 [29,31]],
 .aO [oQ 32 (.slice 126 (.tmp 11) (some (.const (.int .i64 8))) (some (.const (.int .i64 31))) none) 56,wV 33 8 56,wV 34 10 3,wK 35 .mul 3 34 23 3 3,wV 36 8 56,wL 37 36 56 3,wV 38 10 3,wK 39 .add 3 38 1 3 3,wK 40 .mul 3 39 23 3 3,oQ 41 (.call ⟨.builtin .min,#[.tmp 37,.tmp 40],#[3,3]⟩) 3,oQ 42 (.slice 56 (.tmp 33) (some (.tmp 35)) (some (.tmp 41)) none) 56,oQ 43 (.call ⟨.builtin .copy,#[.tmp 32,
 .tmp 42],#[56,56]⟩) 3] [[],[],[],[2],[],[4],[],[6],[6,7],[4,5,6,7,8],[1,2,3,4,5,6,7,8,9],[0,1,2,3,4,5,6,7,8,9,10]] [10,32,33,34,35,36,37,38,39,40,41,42,43],RG [wV 44 7 124 [7],wD 45 126 11 [11],oQ 46 (.buildSlice 124 1 #[(0,.tmp 45)]) 124 [45],wP 47 44 46 124 124 124 [44,46],wG 7 47 124 [47]]]),RG [wK 48 .add 3 20 1 3 3 [20],wV 20 48 3 [48]]]
def ED.c:SC:=
 SQ [RG [wE 3 25 0 [0],oQ 6 (.assign (.const (.slice none 0 0))) 124 [6]],RG [oQ 7 (.assign (.const (.slice none 0 0))) 124],RG [wD 12 25 3 [3],wU 13 88 12 25 56 [12],wG 8 13 56 [13]],RG [wV 14 8 56,wL 15 14 56 3 [14],wK 16 .add 3 15 23 3 3 [15],wK 17 .sub 3 16 1 3 3 [16],wK 18 .quo 3 17 23 3 3 [17],wG 9 18 3 [18]],SQ [RG [wV 19 9 3,oQ 20 (.move (.const (.int .i64 0))) 3],.block 0 (.loop ED.s0)],
 RG [wV 49 7 124 [7],wG 6 49 124 [49]],.ret]
def gg.b0 (k:Nat) (kp:Int) (fk:Int) (x1:(List Int)):(Int×(List (Aa 32 Int)))->Option (AT (Int×(List (Aa 32 Int))) ((List (Aa 32 Int))) ((List (Aa 32 Int)))):=fun s=>match s with
 |(i2,l3)=>
   bif decide (i2<ab (Int.tdiv (ab ((ab ((x1.length:Int)+23)) - 1)) 23)) then
    (xl k 112 fk kp).bind fun x6=>
    (x6.at? 6).bind fun x7=>
    ((x6.set 6 (IntKind.u8.wrap i2)).at? 7).bind fun x9=>
    (bY x1 (ab (i2*23)) (min (x1.length:Int) (ab ((ab (i2+1))*23)))).bind fun gq=>
    (fG 32 l3 (((x6.set 6 (IntKind.u8.wrap i2)).set 7 (IntKind.u8.wrap (ab (Int.tdiv (ab ((ab ((x1.length:Int)+23)) - 1)) 23)))).put 8 23 gq)).bind fun jM=>
    some (.next (ab (i2+1),jM))
   else
    some (.brk l3)
def gg.h0 (kp:Int) (fk:Int) (x1:(List Int)):(Int×(List (Aa 32 Int)))->St:=fun s=>match s with
 |(i2,l3)=>⟨[(1,.int .i64 kp),(2,.int .i64 fk),(7,.loc 0 0 32 0 l3.length l3.length),(8,.sl 1 (List.map af x1)),(9,.int .i64 (ab (Int.tdiv (ab ((ab ((x1.length:Int)+23)) - 1)) 23))),(19,.int .i64 (ab (Int.tdiv (ab ((ab ((x1.length:Int)+23)) - 1)) 23))),(20,.int .i64 i2)],[(0,.arr 126 32 (List.map (Aa.c (n:=32) af) l3))],[],1,Try.f66.ntmps⟩
def gg.x0:(List (Aa 32 Int))->St:=fun l4=>⟨[(7,.loc 0 0 32 0 l4.length l4.length)],[(0,.arr 126 32 (List.map (Aa.c (n:=32) af) l4))],[],1,Try.f66.ntmps⟩
def gg (k:Nat) (r0:Ab) (kp:Int) (fk:Int):Option ((List (Aa 32 Int))):=
 (cz k r0).bind fun x1=>
 (aj (gg.b0 k kp fk x1) k (0,[])).bind fun rW=>match rW with
 |.next _=>none
 |.ret v_=>some v_
 |.brk l4=>
  some l4
theorem acA (k:Nat) (r0:Ab) (kp:Int) (fk:Int) (r:(List (Aa 32 Int))) (h0:gg k r0 kp fk=some r):Aw Try.prog 66 [.agg (Ab.c r0),.int .i64 kp,.int .i64 fk] (fun y=>y=.sl 32 (List.map (Aa.c (n:=32) af) r)):=by
 refine PB Try.f66 ED.c [.tmp 6] ?_
 simp only[gg]at h0
 try simp only[ED.c,go_sem]
 refine au h0 (afv k _) ?_ (fun x1 h0=>?_)<;>try simp only[go_sem]
 obtain⟨rW,aax,h0⟩:=bs h0
 refine Bf aax (gg.h0 kp fk x1) (gg.x0) ?_ ?_ ?_
 refine Ah.go [1,2,7,8,9,19,20] [32] rfl ?_
 try simp only[gg.h0,go_sem]
 rintro⟨i2,l3⟩ cO Bm Bn h1 aJ aH bK
 refine rS ?_
 simp only[gg.b0]at h1
 try simp only[ED.s0,gg.h0,go_sem]
 refine AS h1 ?_ ?_<;>intro c5 h1<;>have F:=c5<;>try simp only[F,go_sem]
 refine au h1 (afu k _ _ _) ?_ (fun x6 h1=>?_)<;>try simp only[F,go_sem]
 obtain⟨x7,e9,h1⟩:=bs h1
 have qH:=Ao.bH fu (Ao.self ga x6) e9
 have nI:=qH.2
 try simp only[AA,Az,go_sem]at nI
 have q8:=qH.1.ow (IntKind.u8.wrap i2)
 try simp only[AA,Az,go_sem]at q8
 have F:=an (aq e9) (an nI F)
 try simp only[q8,F,go_sem]
 obtain⟨x9,ft,h1⟩:=bs h1
 have oT:=Ao.bH fu (Ao.self ga (x6.set 6 (IntKind.u8.wrap i2))) ft
 have sx:=oT.2
 try simp only[AA,Az,go_sem]at sx
 have zU:=oT.1.ow (IntKind.u8.wrap (ab (Int.tdiv (ab ((ab ((x1.length:Int)+23)) - 1)) 23)))
 try simp only[AA,Az,go_sem]at zU
 have F:=an (aq ft) (an sx F)
 try simp only[zU,F,go_sem]
 refine AL Ax aS 1000 ?_
 have F:=an (@id (Int.toNat 8=8) rfl) (an (@id (Int.toNat 31=31) rfl) (an (@id (bounds 32 (some (.int .i64 8)) (some (.int .i64 31))=some (8,31)) rfl) (an (@id (31 - 8=23) rfl) F)))
 try simp only[F,go_sem]
 obtain⟨gq,nL,h1⟩:=bs h1
 have aa6:=qA af nL
 try simp only[go_sem]at aa6
 have zV:=apI (n:=32) ((x6.set 6 (IntKind.u8.wrap i2)).set 7 (IntKind.u8.wrap (ab (Int.tdiv (ab ((ab ((x1.length:Int)+23)) - 1)) 23)))) 8 23 gq (by decide)
 try simp only[go_sem]at zV
 have F:=an aa6 F
 try simp only[uj nL,zV,F,go_sem]
 refine aF ?_
 try simp only[F,go_sem]
 obtain⟨jM,aat,h1⟩:=bs h1
 have sy:=pu (Aa.c (n:=32) af) aat
 try simp only[F,go_sem]at sy
 have F:=an sy F
 try simp only[F,go_sem]
 refine AB (aJ _ _ (oi h1).symm (Ah.go [1,2,7,8,9,19,20] [0] rfl ?_))
 try simp only[gg.h0,F,go_sem]
 refine AB (aH _ _ (oi h1).symm (Ah.go [7] [0] rfl ?_))
 try simp only[gg.x0,F,go_sem]
 rintro l4 aK
 subst aK
 simp only at h0
 refine rS ?_
 try simp only[gg.x0,go_sem]
 obtain rfl:=oi h0
 refine Ag rfl ?_
 try simp only[go_sem]
def EA.s0:SC:=
 SQ [RG [wO 31 .lss 3 30 29 3 0],CN 31 .skip (.exit 0),.block 1 (SQ [RG [wI 32 124 28 30,wD 33 126 32 [32],wA 11 126,wS 126 11 33 [33]],RG [wV 34 9 27 [9],wD 35 126 11 [11],oQ 36 (.buildSlice 27 1 #[(0,.tmp 35)]) 27 [35],wP 37 34 36 27 27 27 [34,36],wG 9 37 27 [37]]]),RG [wK 38 .add 3 30 1 3 3 [30],wV 30 38 3 [38]]]
def EA.c:SC:=
 SQ [RG [wE 3 25 0 [0],oQ 6 (.assign (.const (.slice none 0 0))) 27 [6],wN 7 0 28 [7]],SQ [RG [wD 12 25 3,wU 13 30 12 25 28 [12],wG 8 13 28 [13]],RG [wV 14 8 28,wK 15 .neq 28 14 0 28 4 [14]],CN 15 (SQ [RG [wV 16 8 28 [8],oQ 6 (.assign (.const (.slice none 0 0))) 27,wG 7 16 28 [16]],.ret]) .skip],SQ [RG [wV 17 1 3,wC 18 65 #[.tmp 17,.const (.int .i64 0),.const (.int .i64 59)] #[3,3,3] 4 [17],
 wQ 19 18 4 [18],wV 20 19 4 [19],gd 20 false (wV 21 2 3),gd 20 false (wC 22 65 #[.tmp 21,.const (.int .i64 1),.const (.int .i64 1000000)] #[3,3,3] 4 [21]),gd 20 false (wQ 23 22 4 [22]),wT 24 20 23 4 [20,23]],CN 24 (SQ [RG [oQ 6 (.assign (.const (.slice none 0 0))) 27,wN 7 1 28],.ret]) .skip],RG [oQ 9 (.assign (.const (.slice none 0 0))) 27],SQ [RG [wD 25 25 3 [3],wV 26 1 3 [1],wV 27 2 3 [2],
 wC 28 66 #[.tmp 25,.tmp 26,.tmp 27] #[25,3,3] 124 [25,26,27],wL 29 28 124 3,oQ 30 (.move (.const (.int .i64 0))) 3],.block 0 (.loop EA.s0)],RG [wV 39 9 27 [9],wG 6 39 27 [39],wN 7 0 28],.ret]
def jZ.b0 (k:Nat) (x7:(List (Aa 32 Int))):(Int×(List (Aa 32 Int)))->Option (AT (Int×(List (Aa 32 Int))) ((List (Aa 32 Int))) ((List (Aa 32 Int))×Int)):=fun s=>match s with
 |(i8,l9)=>
   bif decide (i8<(x7.length:Int)) then
    (at? x7 i8).bind fun gQ=>
    (fG 32 l9 gQ).bind fun jM=>
    some (.next (ab (i8+1),jM))
   else
    some (.brk l9)
def jZ.h0 (x7:(List (Aa 32 Int))):(Int×(List (Aa 32 Int)))->St:=fun s=>match s with
 |(i8,l9)=>⟨[(9,.loc 0 0 32 0 l9.length l9.length),(28,.sl 32 (List.map (Aa.c (n:=32) af) x7)),(29,.int .i64 (x7.length:Int)),(30,.int .i64 i8)],[(0,.arr 122 32 (List.map (Aa.c (n:=32) af) l9))],[],1,Try.f15.ntmps⟩
def jZ.x0:(List (Aa 32 Int))->St:=fun iT=>⟨[(9,.loc 0 0 32 0 iT.length iT.length)],[(0,.arr 122 32 (List.map (Aa.c (n:=32) af) iT))],[],1,Try.f15.ntmps⟩
def jZ (k:Nat) (r0:Ab) (kp:Int) (fk:Int):Option ((List (Aa 32 Int))×Int):=
 (aaP k r0).bind fun x1=>
 bif (!decide (x1=(0:Int))) then
  some ([],x1)
 else
  (lA k kp 0 59).bind fun x3=>
  bif x3 then
   (lA k fk 1 1000000).bind fun x5=>
   bif (!x5) then
    some ([],1)
   else
    (gg k r0 kp fk).bind fun x7=>
    (aj (jZ.b0 k x7) k (0,[])).bind fun rW=>match rW with
    |.next _=>none
    |.ret v_=>some v_
    |.brk iT=>
     some (iT,0)
  else
   some ([],1)
theorem ald (k:Nat) (r0:Ab) (kp:Int) (fk:Int) (r:(List (Aa 32 Int))×Int) (h0:jZ k r0 kp fk=some r):Aw Try.prog 15 [.agg (Ab.c r0),.int .i64 kp,.int .i64 fk] (fun y=>y=.ar [.sl 32 (List.map (Aa.c (n:=32) af) r.1),.int .i64 r.2]):=by
 refine PB Try.f15 EA.c [.tmp 6,.tmp 7] ?_
 simp only[jZ]at h0
 try simp only[EA.c,go_sem]
 refine au h0 (aft k _) ?_ (fun x1 h0=>?_)<;>try simp only[go_sem]
 refine Cr h0 ?_ ?_<;>intro c2 h0<;>have F:=c2<;>try simp only[F,go_sem]
 obtain rfl:=oi h0
 refine Ag rfl ?_
 try simp only[F,go_sem]
 refine au h0 (pq k _ _ _) ?_ (fun x3 h0=>?_)<;>try simp only[F,go_sem]
 refine AF F h0 ?_ ?_<;>intro F h0<;>try simp only[F,go_sem]
 refine au h0 (pq k _ _ _) ?_ (fun x5 h0=>?_)<;>try simp only[F,go_sem]
 refine Bt F h0 ?_ ?_<;>intro F h0<;>try simp only[F,go_sem]
 obtain rfl:=oi h0
 refine Ag rfl ?_
 try simp only[F,go_sem]
 refine au h0 (acA k _ _ _) ?_ (fun x7 h0=>?_)<;>try simp only[F,go_sem]
 obtain⟨rW,aax,h0⟩:=bs h0
 refine Bf aax (jZ.h0 x7) (jZ.x0) ?_ ?_ ?_
 refine Ah.go [9,28,29,30] [256] rfl ?_
 try simp only[jZ.h0,F,go_sem]
 rintro⟨i8,l9⟩ cO Bm Bn h1 aJ aH bK
 refine rS ?_
 simp only[jZ.b0]at h1
 try simp only[EA.s0,jZ.h0,F,go_sem]
 refine AF F h1 ?_ ?_<;>intro F h1<;>try simp only[F,go_sem]
 obtain⟨gQ,oW,h1⟩:=bs h1
 have F:=an (aC oW) (an (aD (Aa.c (n:=32) af) oW) F)
 try simp only[F,go_sem]
 obtain⟨jM,aat,h1⟩:=bs h1
 have sy:=pu (Aa.c (n:=32) af) aat
 try simp only[F,go_sem]at sy
 have F:=an sy F
 try simp only[F,go_sem]
 refine AB (aJ _ _ (oi h1).symm (Ah.go [9,28,29,30] [0] rfl ?_))
 try simp only[jZ.h0,F,go_sem]
 refine AB (aH _ _ (oi h1).symm (Ah.go [9] [0] rfl ?_))
 try simp only[jZ.x0,F,go_sem]
 rintro iT aK
 subst aK
 simp only at h0
 refine rS ?_
 try simp only[jZ.x0,F,go_sem]
 obtain rfl:=oi h0
 refine Ag rfl ?_
 try simp only[F,go_sem]
 obtain rfl:=oi h0
 refine Ag rfl ?_
 try simp only[F,go_sem]
def Er.c:SC:=
 SQ [RG [oQ 2 (.assign (.const (.slice none 0 0))) 39 [2]],SQ [RG [wV 3 0 39,oQ 4 (.binOp .eql 39 (.tmp 3) (.const (.slice none 0 0)) 39) 4 [3]],CN 4 (SQ [RG [oQ 2 (.assign (.const (.slice none 0 0))) 39],.ret]) .skip],RG [oQ 5 (.buildSlice 39 0 #[]) 39,wV 6 0 39 [0],wP 7 5 6 39 39 39 [5,6],wG 2 7 39 [7]],.ret]
theorem Er.rs:Try.f120.results.toList=[.tmp 2]:=rfl
def abQ (k:Nat) (s0:(List (Aa 2 (Aa 32 Int)))):Option ((List (Aa 2 (Aa 32 Int)))):=
 (eW s0.length 64).bind fun _=>
 some s0
theorem aqn (k:Nat) (s0:(List (Aa 2 (Aa 32 Int)))) (r:(List (Aa 2 (Aa 32 Int)))) (h0:abQ k s0=some r):A6 Try.prog 120 [.sl 64 (List.map (Aa.c (n:=2) (Aa.c (n:=32) af)) s0)] [] (fun y fr=>y=.loc 0 0 64 0 r.length r.length/\fr=[(0,.arr 139 64 (List.map (Aa.c (n:=2) (Aa.c (n:=32) af)) r))]):=by
 have hr:=A6.own (et:=139) (sz:=64) (ls:=List.map (Aa.c (n:=2) (Aa.c (n:=32) af)) r) (A6.gr Ax (f:=120) (fn:=Try.f120) (sc:=Er.c) (args:=[.sl 64 (List.map (Aa.c (n:=2) (Aa.c (n:=32) af)) s0)]) (fr0:=[]) (by rfl) (by rfl) (by decide +kernel) (by rfl) (by decide +kernel) (Nat.le_of_ble_eq_true rfl) (fun H=>?_))
 ·simpa only [Bg] using hr
 refine rS ?_
 simp only[abQ]at h0
 try simp only[Er.c,go_sem]
 refine⟨fun he=>?_,?_⟩
 ·refine rS ?_
  try simp only[go_sem]
  obtain⟨u_,hu_,h0⟩:=bind_some h0
  obtain rfl:=oi h0
  refine C8 rfl ?_
  simp only[he,Er.rs,mN,A5,bZ,Az,List.take_nil,go_sem]
  try simp
 ·refine rS ?_
  try simp only[go_sem]
  obtain⟨u1,iD,h0⟩:=bind_some h0
  try simp only[lh iD,go_sem]
  obtain rfl:=oi h0
  refine C8 rfl ?_
  try simp only[Er.rs,mN,A5,bZ,sP,uV,Bd,CK,go_sem]
def Es.c:SC:=
 SQ [RG [oQ 2 (.assign (.const (.slice none 0 0))) 40 [2]],SQ [RG [wV 3 0 40,oQ 4 (.binOp .eql 40 (.tmp 3) (.const (.slice none 0 0)) 40) 4 [3]],CN 4 (SQ [RG [oQ 2 (.assign (.const (.slice none 0 0))) 40],.ret]) .skip],RG [oQ 5 (.buildSlice 40 0 #[]) 40,wV 6 0 40 [0],wP 7 5 6 40 40 40 [5,6],wG 2 7 40 [7]],.ret]
theorem Es.rs:Try.f121.results.toList=[.tmp 2]:=rfl
def abR (k:Nat) (s0:(List Aq)):Option ((List Aq)):=
 (eW s0.length 72).bind fun _=>
 some s0
theorem aqo (k:Nat) (s0:(List Aq)) (r:(List Aq)) (h0:abR k s0=some r):A6 Try.prog 121 [.sl 65 (List.map Aq.c s0)] [] (fun y fr=>y=.loc 0 0 65 0 r.length r.length/\fr=[(0,.arr 141 65 (List.map Aq.c r))]):=by
 have hr:=A6.own (et:=141) (sz:=65) (ls:=List.map Aq.c r) (A6.gr Ax (f:=121) (fn:=Try.f121) (sc:=Es.c) (args:=[.sl 65 (List.map Aq.c s0)]) (fr0:=[]) (by rfl) (by rfl) (by decide +kernel) (by rfl) (by decide +kernel) (Nat.le_of_ble_eq_true rfl) (fun H=>?_))
 ·simpa only [Bg] using hr
 refine rS ?_
 simp only[abR]at h0
 try simp only[Es.c,go_sem]
 refine⟨fun he=>?_,?_⟩
 ·refine rS ?_
  try simp only[go_sem]
  obtain⟨u_,hu_,h0⟩:=bind_some h0
  obtain rfl:=oi h0
  refine C8 rfl ?_
  simp only[he,Es.rs,mN,A5,bZ,Az,List.take_nil,go_sem]
  try simp
 ·refine rS ?_
  try simp only[go_sem]
  obtain⟨u1,iD,h0⟩:=bind_some h0
  try simp only[lh iD,go_sem]
  obtain rfl:=oi h0
  refine C8 rfl ?_
  try simp only[Es.rs,mN,A5,bZ,sP,uV,Bd,CK,go_sem]
def Fm.c:SC:=
 SQ [RG [wE 1 42 0 [0],oQ 2 (.assign (.const (.pointer none))) 130 [2]],.aO [wF 3 42 1 0,wD 4 39 3,wU 5 120 4 39 39,wF 6 42 1 1,wD 7 40 6,wU 8 121 7 40 40,oQ 9 (.build 42 #[(0,.tmp 5),(1,.tmp 8)]) 42,oQ 10 (.build 134 #[(0,.tmp 9)]) 134,oQ 11 (.box 134 (.tmp 10)) 130,wG 2 11 130] [[],[0],[0,1],[],[3],[3,4,0,1,2],[0,1,2,3,4,5],[0,1,2,3,4,5,6],[0,1,2,3,4,5,6,7],[0,1,2,3,4,5,6,7,8]] [1,3,4,5,6,7,8,
 9,10,11],.ret]
theorem Fm.rs:Try.f72.results.toList=[.tmp 2]:=rfl
def nQ (k:Nat) (d0:Ac):Option (az):=
 (abQ k d0.Ae).bind fun x2=>
 (abR k d0.Ad).bind fun x4=>
 some (⟨(⟨x2,x4⟩:Ac)⟩:az)
theorem xo (k:Nat) (d0:Ac) (r:az) (h0:nQ k d0=some r):A6 Try.prog 72 [.agg (Ac.c d0)] [] (fun y fr=>y=.ptr 0 0 0/\fr=[(0,.box ([.loc 0 1 64 0 r.Ac.Ae.length r.Ac.Ae.length,.loc 0 2 65 0 r.Ac.Ad.length r.Ac.Ad.length])),(1,.arr 139 64 (List.map (Aa.c (n:=2) (Aa.c (n:=32) af)) r.Ac.Ae)),(2,.arr 141 65 (List.map Aq.c r.Ac.Ad))]):=by
 refine A6.gr Ax (f:=72) (fn:=Try.f72) (sc:=Fm.c) (by rfl) (by rfl) (by decide +kernel) (by rfl) (by decide +kernel) (Nat.le_of_ble_eq_true rfl) (fun H=>?_)
 refine rS ?_
 simp only[nQ]at h0
 try simp only[Fm.c,go_sem]
 refine AL Ax aS 1000 ?_
 try simp only[go_sem]
 obtain⟨x2,eo,h0⟩:=bs h0
 refine D1 1000 [] [] (aqn k _ _ eo) ?_ rfl ?_
 try simp only[fN,Bg,go_sem]
 try simp only[go_sem]
 obtain⟨x4,bN,h0⟩:=bs h0
 refine D1 1000 [] [] (aqo k _ _ bN) ?_ rfl ?_
 try simp only[fN,Bg,go_sem]
 try simp only[go_sem]
 refine aF ?_
 try simp only[go_sem]
 obtain rfl:=oi h0
 refine GC [176,80,128] (by simp) rfl rfl ?_
 try simp only[Fm.rs,adn,bZ,Af,go_sem]
def Ez.s0:SC:=
 SQ [RG [wO 9 .lss 3 8 7 3 0],CN 9 .skip (.exit 0),.block 1 (SQ [RG [wV 10 8 3,wG 5 10 3 [10]],RG [wV 11 1 195,wV 12 0 40,wV 13 5 3,wI 14 40 12 13 [12,13],wD 15 141 14 [14],oQ 16 (.call ⟨.value (.tmp 11),#[.tmp 15],#[141]⟩) 4 [11,15]],CN 16 (SQ [RG [wV 17 5 3 [5],wG 4 17 3 [17]],.ret]) .skip]),RG [wK 18 .add 3 8 1 3 3 [8],wV 8 18 3 [18]]]
def Ez.c:SC:=
 SQ [RG [wN 4 0 3 [4]],SQ [RG [wV 6 0 40,wL 7 6 40 3 [6],oQ 8 (.move (.const (.int .i64 0))) 3],.block 0 (.loop Ez.s0)],RG [wN 4 (-1) 3],.ret]
def iA.b0 (k:Nat) (f1:Aq->Option (Bool)) (s0:(List Aq)):Int->Option (AT (Int) (Unit) (Int)):=fun i1=>
 bif decide (i1<(s0.length:Int)) then
  (at? s0 i1).bind fun x3=>
  (f1 x3).bind fun x4=>
  bif x4 then
   some (.ret i1)
  else
   some (.next (ab (i1+1)))
 else
  some (.brk ())
def iA.h0 (pF:Nat) (nc:List AV) (s0:(List Aq)):Int->St:=fun i1=>⟨[(0,.sl 65 (List.map Aq.c s0)),(1,.fn (.func pF) [] nc),(7,.int .i64 (s0.length:Int)),(8,.int .i64 i1)],[],[],1,Try.f146.ntmps⟩
def iA.x0:Unit->St:=fun _=>⟨[],[],[],1,Try.f146.ntmps⟩
def iA (k:Nat) (s0:(List Aq)) (f1:Aq->Option (Bool)):Option (Int):=
 (aj (iA.b0 k f1 s0) k 0).bind fun r6=>match r6 with
 |.next _=>none
 |.ret v_=>some v_
 |.brk _=>
  some (-1)
theorem aqr (k:Nat) (s0:(List Aq)) (pF:Nat) (nc:List AV) (iJ:Co nc) (f1:Aq->Option (Bool)) (ac5:∀ q0 qr,f1 q0=some qr->Aw Try.prog pF (.agg (Aq.c q0)::nc) (fun y=>y=.bool qr)) (r:Int) (h0:iA k s0 f1=some r):Aw Try.prog 146 [.sl 65 (List.map Aq.c s0),.fn (.func pF) [] nc] (fun y=>y=.int .i64 r):=by
 refine PB Try.f146 Ez.c [.tmp 4] ?_
 simp only[iA]at h0
 have F:=an iJ.sh (an iJ.ai (an iJ.br (an iJ.refs (an iJ.imp (an iJ.aQ iJ.un)))))
 try simp only[Ez.c,F,go_sem]
 obtain⟨r6,yr6,h0⟩:=bs h0
 refine Bf yr6 (iA.h0 pF nc s0) (iA.x0) ?_ ?_ ?_
 refine Ah.go [0,1,7,8] [] rfl ?_
 try simp only[iA.h0,F,go_sem]
 rintro i1 cO Bm Bn h1 aJ aH bK
 refine rS ?_
 simp only[iA.b0]at h1
 try simp only[Ez.s0,iA.h0,F,go_sem]
 refine AF F h1 ?_ ?_<;>intro F h1<;>try simp only[F,go_sem]
 obtain⟨x3,cP,h1⟩:=bs h1
 have F:=an (aC cP) (an (aD Aq.c cP) F)
 try simp only[F,go_sem]
 refine au h1 (ac5 _) ?_ (fun x4 h1=>?_) (fun _=>by simp[AV.aN,AV.refs,AV.cU,AV.leaf,iJ.refs])<;>try simp only[F,go_sem]
 refine AF F h1 ?_ ?_<;>intro F h1<;>try simp only[F,go_sem]
 obtain rfl:=bK _ (oi h1).symm
 simp only at h0
 obtain rfl:=oi h0
 refine Ag rfl ?_
 try simp only[F,go_sem]
 refine AB (aJ _ _ (oi h1).symm (Ah.go [0,1,7,8] [] rfl ?_))
 try simp only[iA.h0,F,go_sem]
 refine AB (aH _ _ (oi h1).symm (Ah.go [] [] rfl ?_))
 try simp only[iA.x0,F,go_sem]
 rintro _ aK
 subst aK
 simp only at h0
 refine rS ?_
 try simp only[iA.x0,F,go_sem]
 obtain rfl:=oi h0
 refine Ag rfl ?_
 try simp only[F,go_sem]
def GR.c:SC:=
 SQ [RG [wB 4 false 4 [4]],RG [wV 5 0 40 [0],wV 6 1 195 [1],wW 7 146 5 6 40 195 3 [5,6],wK 8 .geq 3 7 0 3 4 [7],wG 4 8 4 [8]],.ret]
def abS (k:Nat) (s0:(List Aq)) (f1:Aq->Option (Bool)):Option (Bool):=
 (iA k s0 f1).bind fun x1=>
 some (decide ((0:Int)<=x1))
theorem aqp (k:Nat) (s0:(List Aq)) (pF:Nat) (nc:List AV) (iJ:Co nc) (f1:Aq->Option (Bool)) (ac5:∀ q0 qr,f1 q0=some qr->Aw Try.prog pF (.agg (Aq.c q0)::nc) (fun y=>y=.bool qr)) (r:Bool) (h0:abS k s0 f1=some r):Aw Try.prog 122 [.sl 65 (List.map Aq.c s0),.fn (.func pF) [] nc] (fun y=>y=.bool r):=by
 refine PB Try.f122 GR.c [.tmp 4] ?_
 simp only[abS]at h0
 have F:=an iJ.sh (an iJ.ai (an iJ.br (an iJ.refs (an iJ.imp (an iJ.aQ iJ.un)))))
 try simp only[GR.c,F,go_sem]
 refine au h0 (aqr k _ pF nc iJ f1 ac5) ?_ (fun x1 h0=>?_) (fun _=>by simp[AV.aN,AV.refs,AV.cU,AV.leaf,iJ.refs])<;>try simp only[F,go_sem]
 obtain rfl:=oi h0
 refine Ag rfl ?_
 try simp only[F,go_sem]
def GS.c:SC:=
 SQ [RG [wE 1 141 0 [0],wB 2 false 4 [2]],RG [wF 3 141 1 0 [1],wD 4 3 3 [3],wC 5 65 #[.tmp 4,.const (.int .i64 0),.const (.int .i64 601)] #[3,3,3] 4 [4],wQ 6 5 4 [5],wG 2 6 4 [6]],.ret]
def uK (k:Nat) (w0:Aq):Option (Bool):=
 (lA k w0.At 0 601).bind fun x1=>
 some (!x1)
theorem alp (k:Nat) (w0:Aq) (r:Bool) (h0:uK k w0=some r):Aw Try.prog 123 [.agg (Aq.c w0)] (fun y=>y=.bool r):=by
 refine PB Try.f123 GS.c [.tmp 2] ?_
 simp only[uK]at h0
 try simp only[GS.c,go_sem]
 refine au h0 (pq k _ _ _) ?_ (fun x1 h0=>?_)<;>try simp only[go_sem]
 obtain rfl:=oi h0
 refine Ag rfl ?_
 try simp only[go_sem]
def Hq.c:SC:=
 SQ [RG [wE 1 42 0 [0],wB 2 false 4 [2]],RG [wF 3 42 1 0,wD 4 39 3 [3],wL 5 4 39 3 [4],wK 6 .eql 3 5 602 3 4 [5],wV 7 6 4 [6],gd 7 true (wF 8 42 1 1),gd 7 true (wD 9 40 8 [8]),gd 7 true (wL 10 9 40 3 [9]),gd 7 true (wK 11 .leq 3 10 1200 3 4 [10]),wZ 12 7 11 4 [7,11],wV 13 12 4 [12],gd 13 true (wF 14 42 1 1 [1]),gd 13 true (wD 15 40 14 [14]),gd 13 true (wC 16 122 #[.tmp 15,.func 123] #[40,
 195] 4 [15]),gd 13 true (wQ 17 16 4 [16]),wZ 18 13 17 4 [13,17],wG 2 18 4 [18]],.ret]
def sI (k:Nat) (d0:Ac):Option (Bool):=
 bif decide ((d0.Ae.length:Int)=(602:Int)) then
  bif decide ((d0.Ad.length:Int)<=(1200:Int)) then
   (abS k d0.Ad (fun q0=>uK k q0)).bind fun x3=>
   some (!x3)
  else
   some false
 else
  some false
theorem acy (k:Nat) (d0:Ac) (r:Bool) (h0:sI k d0=some r):Aw Try.prog 78 [.agg (Ac.c d0)] (fun y=>y=.bool r):=by
 refine PB Try.f78 Hq.c [.tmp 2] ?_
 simp only[sI]at h0
 try simp only[Hq.c,go_sem]
 refine AS h0 ?_ ?_<;>intro c1 h0<;>have F:=c1<;>try simp only[F,go_sem]
 refine AF F h0 ?_ ?_<;>intro F h0<;>try simp only[F,go_sem]
 refine au h0 (aqp k _ 123 [] ⟨fun _=>rfl,fun _=>rfl,fun _ _=>rfl,rfl,fun _=>rfl,fun _=>rfl,fun _=>rfl⟩ (fun q0=>uK k q0) (fun q0 qr qh=>alp k q0 qr qh)) ?_ (fun x3 h0=>?_)<;>try simp only[F,go_sem]
 obtain rfl:=oi h0
 refine Ag rfl ?_
 try simp only[F,go_sem]
 obtain rfl:=oi h0
 refine Ag rfl ?_
 try simp only[F,go_sem]
 obtain rfl:=oi h0
 refine Ag rfl ?_
 try simp only[F,go_sem]
def DL.s0:SC:=
 SQ [RG [wO 12 .lss 3 11 10 3 0],CN 12 .skip (.exit 0),.block 1 (SQ [RG [wI 13 40 9 11,wD 14 141 13 [13],wA 4 141,wS 141 4 14 [14]],.aO [wV 15 0 130,oQ 16 (.nilCheck (.tmp 15)) 0,wF 17 134 16 0,wF 18 42 17 0,wD 19 39 18,wF 20 141 4 0,wD 21 3 20,wF 22 141 4 1,wD 23 139 22,wI 24 39 19 21,wS 139 24 23] [[],[0],[0,1],[0,1,2],[0,1,2,3],[],[5],[],[7],[0,1,2,3,4,5,6,7,8],[0,1,2,3,4,5,6,7,8,9]] [4,15,16,
 17,18,19,20,21,22,23,24]]),RG [wK 25 .add 3 11 1 3 3 [11],wV 11 25 3 [25]]]
def DL.c:SC:=
 SQ [RG [oQ 2 (.assign (.const (.pointer none))) 130 [2]],SQ [RG [wV 5 0 130,oQ 6 (.nilCheck (.tmp 5)) 0 [5],wF 7 134 6 0 [6],wF 8 42 7 1 [7],wD 9 40 8 [8],wL 10 9 40 3,oQ 11 (.move (.const (.int .i64 0))) 3],.block 0 (.loop DL.s0)],RG [wV 26 0 130,oQ 27 (.nilCheck (.tmp 26)) 0 [26],wF 28 134 27 0 [27],wF 29 42 28 1 [28],⟨none,.store 40 (.tmp 29) (.const (.slice none 0 0)),0,none,[29]⟩],
 RG [wV 30 0 130 [0],wG 2 30 130 [30]],.ret]
theorem DL.rs:Try.f79.results.toList=[.tmp 2]:=rfl
def gf.b0 (k:Nat) (d0:az):(Int×(List (Aa 2 (Aa 32 Int))))->Option (AT (Int×(List (Aa 2 (Aa 32 Int)))) ((List (Aa 2 (Aa 32 Int)))) (az)):=fun s=>match s with
 |(i1,l2)=>
   bif decide (i1<((d0.Ac.Ad.length:Nat):Int)) then
    (at? d0.Ac.Ad i1).bind fun x5=>
    (at? l2 x5.At).bind fun x6=>
    (dJ l2 x5.At x5.AE).bind fun l7=>
    some (.next (ab (i1+1),l7))
   else
    some (.brk l2)
def gf.h0 (f1:Av) (H:Heap) (d0:az):(Int×(List (Aa 2 (Aa 32 Int))))->St:=fun s=>match s with
 |(i1,l2)=>⟨[(0,.ptr 1 0 0),(9,.loc 1 2 65 0 d0.Ac.Ad.length d0.Ac.Ad.length),(10,.int .i64 ((d0.Ac.Ad.length:Nat):Int)),(11,.int .i64 i1)],[],((0,.box ([.loc 0 1 64 0 l2.length l2.length,.loc 0 2 65 0 d0.Ac.Ad.length d0.Ac.Ad.length]))::(1,.arr 139 64 (List.map (Aa.c (n:=2) (Aa.c (n:=32) af)) l2))::(2,.arr 141 65 (List.map Aq.c d0.Ac.Ad))::f1)::H,1,Try.f79.ntmps⟩
def gf.x0 (f1:Av) (H:Heap) (d0:az):(List (Aa 2 (Aa 32 Int)))->St:=fun l3=>⟨[(0,.ptr 1 0 0)],[],((0,.box ([.loc 0 1 64 0 l3.length l3.length,.loc 0 2 65 0 d0.Ac.Ad.length d0.Ac.Ad.length]))::(1,.arr 139 64 (List.map (Aa.c (n:=2) (Aa.c (n:=32) af)) l3))::(2,.arr 141 65 (List.map Aq.c d0.Ac.Ad))::f1)::H,1,Try.f79.ntmps⟩
def gf (k:Nat) (d0:az):Option (az):=
 (aj (gf.b0 k d0) k (0,d0.Ac.Ae)).bind fun r8=>match r8 with
 |.next _=>none
 |.ret v_=>some v_
 |.brk l3=>
  some (⟨(⟨l3,[]⟩:Ac)⟩:az)
theorem acx (k:Nat) (d0:az) (r:az) (h0:gf k d0=some r):DO Try.prog 79 [.ptr 1 0 0] [(0,.box ([.loc 0 1 64 0 d0.Ac.Ae.length d0.Ac.Ae.length,.loc 0 2 65 0 d0.Ac.Ad.length d0.Ac.Ad.length])),(1,.arr 139 64 (List.map (Aa.c (n:=2) (Aa.c (n:=32) af)) d0.Ac.Ae)),(2,.arr 141 65 (List.map Aq.c d0.Ac.Ad))] (fun y fr X'=>y=.ptr 1 0 0/\fr=[]/\X'=[(0,.box ([.loc 0 1 64 0 r.Ac.Ae.length r.Ac.Ae.length,.nil])),(1,.arr 139 64 (List.map (Aa.c (n:=2) (Aa.c (n:=32) af)) r.Ac.Ae)),(2,.arr 141 65 (List.map Aq.c d0.Ac.Ad))]):=by
 refine DO.gr Ax (fn:=Try.f79) (sc:=DL.c) (by rfl) (by rfl) (by decide +kernel) (by rfl) (by decide +kernel) (Nat.le_of_ble_eq_true rfl) (fun f1 H=>?_)
 refine rS ?_
 simp only[Bq,BM]
 simp only[gf]at h0
 try simp only[DL.c,go_sem]
 obtain⟨r8,qM,h0⟩:=bs h0
 refine Bf qM (gf.h0 f1 H d0) (gf.x0 f1 H d0) ?_ ?_ ?_
 refine Ah.go [0,9,10,11] [] rfl ?_
 try simp only[gf.h0,go_sem]
 rintro⟨i1,l2⟩ cO Bm Bn h1 aJ aH bK
 refine rS ?_
 simp only[gf.b0]at h1
 try simp only[DL.s0,gf.h0,go_sem]
 refine AS h1 ?_ ?_<;>intro c4 h1<;>have F:=c4<;>try simp only[F,go_sem]
 obtain⟨x5,cw,h1⟩:=bs h1
 have F:=an (aC cw) (an (aD Aq.c cw) F)
 try simp only[F,go_sem]
 refine AL Ax aS 1000 ?_
 try simp only[F,go_sem]
 obtain⟨x6,dQ,h1⟩:=bs h1
 have F:=an (aC dQ) (an (aD (Aa.c (n:=2) (Aa.c (n:=32) af)) dQ) F)
 try simp only[F,go_sem]
 obtain⟨l7,yl7,h1⟩:=bs h1
 have agx:=lj (Aa.c (n:=2) (Aa.c (n:=32) af)) yl7
 try simp only[go_sem]at agx
 have F:=an agx (an (kt yl7) (an (lk (Aa.c (n:=2) (Aa.c (n:=32) af)) yl7) F))
 try simp only[F,go_sem]
 refine aF ?_
 try simp only[F,go_sem]
 refine AB (aJ _ _ (oi h1).symm (Ah.go [0,9,10,11] [] rfl ?_))
 try simp only[gf.h0,F,go_sem]
 refine AB (aH _ _ (oi h1).symm (Ah.go [0] [] rfl ?_))
 try simp only[gf.x0,F,go_sem]
 rintro l3 aK
 subst aK
 simp only at h0
 refine rS ?_
 try simp only[gf.x0,go_sem]
 obtain rfl:=oi h0
 refine GF (by simp) ?_ ?_
 try simp only[DL.rs,bZ,Af,go_sem]
 try simp only[Bq,BM,go_sem]
end Go.Abs
namespace Go.Abs
open Go Go.Proofs Go.RowKit Go.Lib
def Fl.c:SC:=
 SQ [RG [wE 2 130 0 [0],wE 3 3 1 [1],oQ 4 (.assign (.const .nilFunc)) 224 [4]],RG [oQ 5 (.makeFunc (.func 153) #[] #[.tmp 2,.tmp 3]) 223 [2,3],wG 4 5 224 [5]],.ret]
theorem Fl.rs:Try.f147.results.toList=[.tmp 4]:=rfl
def nA (d:az) (aW:Int):AV:=.fn (.func 153) [] [.aA 1 [[.aA 2 [az.c d] 0 0]] 0 0,.aA 1 [[.int .i64 aW]] 0 0]
theorem apO (d:az) (aW:Int):Cy Try.prog 147 [.aA 2 [az.c d] 0 0,.int .i64 aW] [] (fun y fr H'=>y=.fn (.func 153) [] [.ptr 0 0 0,.ptr 0 1 0]/\fr=[(0,.box [.aA 2 [az.c d] 0 0]),(1,.box [.int .i64 aW])]/\H'=[]):=by
 refine Cy.gr Ax (fn:=Try.f147) (sc:=Fl.c) (by rfl) (by rfl) (by decide +kernel) (by rfl) (by decide +kernel) (Nat.le_of_ble_eq_true rfl) ?_ (by rintro y fr H' ⟨_,_,rfl⟩;rfl)
 refine rS ?_
 simp only[Fl.c,go_sem]
 refine⟨_,by rw[Fl.rs];simp only[go_sem];rfl,.own [0,16] _ _ (by decide) (by decide) ?_ ?_ ⟨rfl,rfl,rfl⟩⟩
 ·simp only[bZ,go_sem]
 ·simp only[lg,go_sem]
def j9 (fm:FM) (w:World) (B:Nat):FM:=open Classical in ⟨fun b o=>if B<=b then w.cell? ⟨b,o,none⟩ else fm b o,fun b=>if ∃ o v,fm b o=some v then fm.t b else if B<=b then 1 else fm.t b⟩
theorem afN {N0:Nat}{W0:World}{fm fm':FM}{ts:List Ak}{H:Heap}{w:World} (hr:HR N0 W0 fm ts H w) {c k:Nat}{x:AV} (hg:H.get 0 k=some (.box [x])) (ht:tb ts 0 k=some (.box c)) (hz:x.ai (fun _ _=>none)=some x)
  (hle:AZ fm fm') (hc:fm'.t c=1/\∀ o v,w.cell? ⟨c,o,none⟩=some v->fm' c o=some v):VR fm' [] (.aA 1 [[x]] 0 0) (.pointer (some ⟨c,0,none⟩)):=by
 have hb:=hr.al 0 k _ hg
 rw[ht]at hb
 cases hb with
 |box _ _ hN hB=>
  obtain⟨cells,et,c1,c2,c3⟩:=hB
  obtain⟨u,h0⟩:∃ u,cells[0]?=some u:=⟨_,Bv (by rw[c2];simp)⟩
  obtain⟨hf,hv⟩:=c3 0 x _ rfl h0
  have bu:w.cell? ⟨c,0,none⟩=some u:=by simp[World.cell?,c1,h0]
  have gJ:VR fm [] x u:=(hr.pe (Au.one hv:Au fm ts [x] [u]) (ys:=[x]) (by simp only[AV.aG,hz])).2 0 _ _ rfl rfl
  refine .aA [[x]] 0 0 c 0 1 (fun _ _=>u) ?_ ?_ ?_ ?_
  ·intro y hy
   rw[CM.1 hy];rfl
  all_goals
   intro i cc o y hi ho
   obtain⟨rfl,rfl⟩:i=0/\cc=[x]:=by
    cases i with
    |zero=>exact⟨rfl,(oi hi).symm⟩
    |succ i=>simp at hi
   obtain⟨rfl,rfl⟩:o=0/\y=x:=by
    cases o with
    |zero=>exact⟨rfl,(oi ho).symm⟩
    |succ o=>simp at ho
  ·exact⟨hc.2 0 _ bu,.inr (.inl hc.1)⟩
  ·exact hf
  ·exact gJ.mono hle (As.refl _)
theorem ali (d:az) (aW:Int):Aw Try.prog 147 [.aA 2 [az.c d] 0 0,.int .i64 aW] (fun y=>y=nA d aW):=by
 have hA:=apO d aW
 refine⟨hA.1,fun fm w vs h1 h2=>Calls.mono (hA.2 w.heap.size w fm [] w vs (HR.nothing h1) (h2.mono (AZ.refl _) (As.nil _))) ?_⟩
 rintro e w' ⟨v,av,aU,H',fm',t',ts',rfl,⟨rfl,rfl,rfl⟩,_,bX,bp,bo,_,_,_⟩
 have hle:AZ fm' (j9 fm' w' w.heap.size):=⟨fun b o v h=>by
  unfold j9
  simp only
  split
  ·exact bX.bO b o v h
  ·exact h,fun b o v h=>if_pos ⟨o,v,h⟩⟩
 have bB:Du (j9 fm' w' w.heap.size) w'/\EW w.heap.size (j9 fm' w' w.heap.size) w':=⟨fun b o v h=>by
  unfold j9 at h
  simp only at h
  split at h
  ·exact h
  ·exact bX.bO b o v h,fun b o v hb h ht=>by
  unfold j9 at ht
  simp only at ht
  split at ht
  ·rename_i he
   obtain⟨o',v',he⟩:=he
   exact bX.dZ b o' v' hb he ht
  ·first|omega|(rw[if_pos hb]at ht;omega)⟩
 have anU:AN w.heap.size fm (j9 fm' w' w.heap.size):=⟨bo.le.trans hle,fun b o h=>by unfold j9;simp only;rw[if_neg (by omega)];exact bo.fix b o h,fun b h=>by
  unfold j9;simp only;rw[if_neg (by omega:¬ w.heap.size<=b),ite_self];exact bo.fit b h,fun b o v h=>by
  by_cases hb:w.heap.size<=b
  ·right
   unfold j9;simp only
   split
   ·rename_i he
    obtain⟨o',v',he⟩:=he
    rcases bo.new b o' v' he with e|e
    ·have:=World.block_lt_of_cell? w _ (h1 b o' v' e);simp only at this;omega
    ·exact e
   ·first|decide|(rw[if_pos hb];decide)
  ·left
   unfold j9 at h
   simp only at h
   rw[if_neg hb,bo.fix b o (by omega)]at h
   exact h⟩
 refine⟨v,nA d aW,_,rfl,rfl,bB,?_,anU,bX.dg⟩
 cases bp with
 |fn f first cap vf vc h1 h2 h3 h4=>
  refine .fn _ _ _ vf vc h1 (by simpa using h2) (by intro i x v h;simp at h) ?_
  intro i x v hx hv
  match i,hx,hv with
  |0,hx,hv=>
   obtain rfl:=oi hx
   have hp:=h4 0 _ v rfl hv
   cases hp with
   |ptr _ _ _ c aE=>exact afN bX rfl aE rfl hle ⟨(by unfold j9;simp only;rw[if_neg,if_pos ((bX.al 0 0 _ rfl).lt (by rw[aE];rfl)).2];rintro⟨o,v,he⟩;rw[bX.dh 0 0 _ c o rfl (by rw[aE];rfl)]at he;cases he),fun o u hu=>(by unfold j9;simp only;rw[if_pos ((bX.al 0 0 _ rfl).lt (by rw[aE];rfl)).2];exact hu)⟩
  |1,hx,hv=>
   obtain rfl:=oi hx
   have hp:=h4 1 _ v rfl hv
   cases hp with
   |ptr _ _ _ c aE=>exact afN bX rfl aE rfl hle ⟨(by unfold j9;simp only;rw[if_neg,if_pos ((bX.al 0 1 _ rfl).lt (by rw[aE];rfl)).2];rintro⟨o,v,he⟩;rw[bX.dh 0 1 _ c o rfl (by rw[aE];rfl)]at he;cases he),fun o u hu=>(by unfold j9;simp only;rw[if_pos ((bX.al 0 1 _ rfl).lt (by rw[aE];rfl)).2];exact hu)⟩
  |i+2,hx,hv=>simp at hx
def Ep.c:SC:=
 SQ [RG [oQ 2 (.assign (.const (.slice none 0 0))) 44 [2]],SQ [RG [wV 3 0 44,oQ 4 (.binOp .eql 44 (.tmp 3) (.const (.slice none 0 0)) 44) 4 [3]],CN 4 (SQ [RG [oQ 2 (.assign (.const (.slice none 0 0))) 44],.ret]) .skip],RG [oQ 5 (.buildSlice 44 0 #[]) 44,wV 6 0 44 [0],wP 7 5 6 44 44 44 [5,6],wG 2 7 44 [7]],.ret]
theorem Ep.rs:Try.f119.results.toList=[.tmp 2]:=rfl
def wy (k:Nat) (s0:(List Ab)):Option ((List Ab)):=
 (eW s0.length 72).bind fun _=>
 some s0
theorem aiQ (k:Nat) (s0:(List Ab)) (r:(List Ab)) (h0:wy k s0=some r):A6 Try.prog 119 [.sl 8 (List.map Ab.c s0)] [] (fun y fr=>y=.loc 0 0 8 0 r.length r.length/\fr=[(0,.arr 25 8 (List.map Ab.c r))]):=by
 have hr:=A6.own (et:=25) (sz:=8) (ls:=List.map Ab.c r) (A6.gr Ax (f:=119) (fn:=Try.f119) (sc:=Ep.c) (args:=[.sl 8 (List.map Ab.c s0)]) (fr0:=[]) (by rfl) (by rfl) (by decide +kernel) (by rfl) (by decide +kernel) (Nat.le_of_ble_eq_true rfl) (fun H=>?_))
 ·simpa only [Bg] using hr
 refine rS ?_
 simp only[wy]at h0
 try simp only[Ep.c,go_sem]
 refine⟨fun he=>?_,?_⟩
 ·refine rS ?_
  try simp only[go_sem]
  obtain⟨u_,hu_,h0⟩:=bind_some h0
  obtain rfl:=oi h0
  refine C8 rfl ?_
  simp only[he,Ep.rs,mN,A5,bZ,Az,List.take_nil,go_sem]
  try simp
 ·refine rS ?_
  try simp only[go_sem]
  obtain⟨u1,iD,h0⟩:=bind_some h0
  try simp only[lh iD,go_sem]
  obtain rfl:=oi h0
  refine C8 rfl ?_
  try simp only[Ep.rs,mN,A5,bZ,sP,uV,Bd,CK,go_sem]
def Hy.c:SC:=
 SQ [RG [wE 1 46 0 [0],wA 2 46],RG [wF 3 46 1 0 [1],wD 4 44 3 [3],wU 5 119 4 44 44 [4],oQ 6 (.build 46 #[(0,.tmp 5)]) 46 [5],wS 46 2 6 [6]],.ret]
def uH (k:Nat) (b0:Ai):Option (Ai):=
 (wy k b0.Al).bind fun x2=>
 some (⟨x2⟩:Ai)
theorem afw (k:Nat) (b0:Ai) (r:Ai) (h0:uH k b0=some r):Aw Try.prog 96 [.agg (Ai.c b0)] (fun y=>y=.agg (Ai.c r)):=by
 refine PB Try.f96 Hy.c [.cell 2 46] ?_
 simp only[uH]at h0
 try simp only[Hy.c,go_sem]
 obtain⟨x2,eo,h0⟩:=bs h0
 refine CG Ax 1000 [] [] (aiQ k _ _ eo) ?_ rfl ?_
 try simp only[fN,Bg,go_sem]
 try simp only[go_sem]
 obtain rfl:=oi h0
 refine Ag rfl ?_
 try simp only[go_sem]
def Ew.s0:SC:=
 SQ [SQ [RG [wV 15 9 3,wV 16 10 3,wO 17 .lss 3 15 16 3 4 [15,16]],CN 17 .skip (.exit 0)],.block 1 (SQ [RG [wV 18 9 3,wV 19 10 3,wO 20 .add 3 18 19 3 3 [18,19],wY 21 3 211 20 211 [20],oQ 22 (.binOp .shr 211 (.tmp 21) (.const (.int .u64 1)) 211) 211 [21],wY 23 211 3 22 3 [22],wG 11 23 3 [23]],.aO [wV 24 2 213,wV 25 0 44,wV 26 11 3,wI 27 44 25 26,wD 28 25 27,wD 29 23 4,
 oQ 30 (.call ⟨.value (.tmp 24),#[.tmp 28,.tmp 29],#[25,23]⟩) 3,wK 31 .lss 3 30 0 3 4] [[],[],[],[1,2],[1,2,3],[],[0,1,2,3,4,5],[0,1,2,3,4,5,6]] [24,25,26,27,28,29,30],CN 31 (RG [wV 32 11 3 [11],wK 33 .add 3 32 1 3 3 [32],wG 9 33 3 [33]]) (RG [wV 34 11 3 [11],wG 10 34 3 [34]])])]
def Ew.c:SC:=
 SQ [RG [wE 4 23 1 [1],wN 6 0 3 [6],wB 7 false 4 [7]],RG [wV 12 0 44,wL 13 12 44 3 [12],wG 8 13 3 [13]],RG [wV 14 8 3,wN 9 0 3,wG 10 14 3 [14]],.block 0 (.loop Ew.s0),.aO [wV 35 9 3,wV 36 9 3,wV 37 8 3,wO 38 .lss 3 36 37 3 4,wV 39 38 4,gd 39 true (wV 40 2 213),gd 39 true (wV 41 0 44),gd 39 true (wV 42 9 3),gd 39 true (wI 43 44 41 42),gd 39 true (wD 44 25 43),gd 39 true (wD 45 23 4),
 gd 39 true (oQ 46 (.call ⟨.value (.tmp 40),#[.tmp 44,.tmp 45],#[25,23]⟩) 3),gd 39 true (wK 47 .eql 3 46 0 3 4),wZ 48 39 47 4,wG 6 35 3,wG 7 48 4] [[],[],[],[1,2],[1,2,3],[1,2,3,4],[1,2,3,4],[1,2,3,4],[1,2,3,4,6,7],[1,2,3,4,6,7,8],[1,2,3,4],[1,2,3,4,5,6,7,8,9,10],[1,2,3,4,5,6,7,8,9,10,11],[1,2,3,4,5,6,7,8,9,10,11,12],[0,1,2,3,4,5,6,7,8,9,10,11],[1,2,3,4,5,6,7,8,9,10,11,12,13,0,14]] [0,2,4,8,9,35,
 36,37,38,39,40,41,42,43,44,45,46,47,48],.ret]
def gu.b0 (k:Nat) (sM:Ab->Entry->Option (Int)) (x0:(List Ab)) (kz:Entry):(Int×Int)->Option (AT (Int×Int) (Int) (Int×Bool)):=fun s=>match s with
 |(i1,i2)=>
   bif decide (i1<i2) then
    (at? x0 (ab (Int.fdiv (IntKind.u64.wrap (ab (i1+i2))) (2 ^ 1)))).bind fun x5=>
    (sM x5 kz).bind fun x6=>
    bif decide (x6<(0:Int)) then
     some (.next (ab ((ab (Int.fdiv (IntKind.u64.wrap (ab (i1+i2))) (2 ^ 1)))+1),i2))
    else
     some (.next (i1,ab (Int.fdiv (IntKind.u64.wrap (ab (i1+i2))) (2 ^ 1))))
   else
    some (.brk i1)
def gu.h0 (qW:Nat) (pw:List AV) (x0:(List Ab)) (kz:Entry):(Int×Int)->St:=fun s=>match s with
 |(i1,i2)=>⟨[(0,.sl 8 (List.map Ab.c x0)),(2,.fn (.func qW) [] pw),(4,.ptr 0 0 0),(8,.int .i64 (x0.length:Int)),(9,.int .i64 i1),(10,.int .i64 i2)],[(0,.box ([.int .i64 kz.Ap,.int .i64 kz.No]))],[],1,Try.f135.ntmps⟩
def gu.x0 (qW:Nat) (pw:List AV) (x0:(List Ab)) (kz:Entry):Int->St:=fun i3=>⟨[(0,.sl 8 (List.map Ab.c x0)),(2,.fn (.func qW) [] pw),(4,.ptr 0 0 0),(8,.int .i64 (x0.length:Int)),(9,.int .i64 i3)],[(0,.box ([.int .i64 kz.Ap,.int .i64 kz.No]))],[],1,Try.f135.ntmps⟩
def gu (k:Nat) (x0:(List Ab)) (kz:Entry) (sM:Ab->Entry->Option (Int)):Option (Int×Bool):=
 (aj (gu.b0 k sM x0 kz) k (0,(x0.length:Int))).bind fun r8=>match r8 with
 |.next _=>none
 |.ret v_=>some v_
 |.brk i3=>
  bif decide (i3<(x0.length:Int)) then
   (at? x0 i3).bind fun cE=>
   (sM cE kz).bind fun df=>
   some (i3,decide (df=(0:Int)))
  else
   some (i3,false)
theorem aqm (k:Nat) (x0:(List Ab)) (kz:Entry) (qW:Nat) (pw:List AV) (pA:Co pw) (sM:Ab->Entry->Option (Int)) (afQ:∀ q0 q1 qr,sM q0 q1=some qr->Aw Try.prog qW (.agg (Ab.c q0)::.agg (Entry.c q1)::pw) (fun y=>y=.int .i64 qr)) (r:Int×Bool) (h0:gu k x0 kz sM=some r):Aw Try.prog 135 [.sl 8 (List.map Ab.c x0),.agg (Entry.c kz),.fn (.func qW) [] pw] (fun y=>y=.ar [.int .i64 r.1,.bool r.2]):=by
 refine PB Try.f135 Ew.c [.tmp 6,.tmp 7] ?_
 simp only[gu]at h0
 have F:=an pA.sh (an pA.ai (an pA.br (an pA.refs (an pA.imp (an pA.aQ pA.un)))))
 try simp only[Ew.c,F,go_sem]
 obtain⟨r8,qM,h0⟩:=bs h0
 refine Bf qM (gu.h0 qW pw x0 kz) (gu.x0 qW pw x0 kz) ?_ ?_ ?_
 refine Ah.go [0,2,4,8,9,10] [0] rfl ?_
 try simp only[gu.h0,F,go_sem]
 rintro⟨i1,i2⟩ cO Bm Bn h1 aJ aH bK
 refine rS ?_
 simp only[gu.b0]at h1
 try simp only[Ew.s0,gu.h0,F,go_sem]
 refine AF F h1 ?_ ?_<;>intro F h1<;>try simp only[F,go_sem]
 try simp only[(@id (min (Int.toNat 1) 64=1) rfl),F,go_sem]
 refine AL Ax aS 1000 ?_
 try simp only[F,go_sem]
 obtain⟨x5,cw,h1⟩:=bs h1
 have F:=an (aC cw) (an (aD Ab.c cw) F)
 try simp only[F,go_sem]
 refine cn h1 (afQ _ _) ?_ (fun x6 h1=>?_) (fun _=>by simp[AV.aN,AV.refs,AV.cU,AV.leaf,pA.refs])<;>try simp only[F,go_sem]
 refine aF ?_
 try simp only[F,go_sem]
 refine AF F h1 ?_ ?_<;>intro F h1<;>try simp only[F,go_sem]
 refine AB (aJ _ _ (oi h1).symm (Ah.go [0,2,4,8,9,10] [0] rfl ?_))
 try simp only[gu.h0,F,go_sem]
 refine AB (aJ _ _ (oi h1).symm (Ah.go [0,2,4,8,9,10] [0] rfl ?_))
 try simp only[gu.h0,F,go_sem]
 refine AB (aH _ _ (oi h1).symm (Ah.go [0,2,4,8,9] [0] rfl ?_))
 try simp only[gu.x0,F,go_sem]
 rintro i3 aK
 subst aK
 simp only at h0
 refine rS ?_
 try simp only[gu.x0,F,go_sem]
 refine AL Ax aS 1000 ?_
 try simp only[F,go_sem]
 refine DF F h0 ?_ ?_<;>intro F h0<;>try simp only[F,go_sem]
 obtain⟨cE,mW,h0⟩:=bs h0
 have F:=an (aC mW) (an (aD Ab.c mW) F)
 try simp only[F,go_sem]
 refine cn h0 (afQ _ _) ?_ (fun df h0=>?_) (fun _=>by simp[AV.aN,AV.refs,AV.cU,AV.leaf,pA.refs])<;>try simp only[F,go_sem]
 refine aF ?_
 try simp only[F,go_sem]
 obtain rfl:=oi h0
 refine Ag rfl ?_
 try simp only[F,go_sem]
 refine aF ?_
 try simp only[F,go_sem]
 obtain rfl:=oi h0
 refine Ag rfl ?_
 try simp only[F,go_sem]
def Ex.s0:SC:=
 SQ [RG [wO 9 .lss 3 8 7 3 0],CN 9 .skip (.exit 0),.block 1 (SQ [RG [wI 10 63 6 8,wD 11 3 10 [10],wG 5 11 3 [11]],RG [wV 12 5 3,wV 13 3 3,wO 14 .neq 3 12 13 3 4 [12,13]],CN 14 (SQ [RG [wV 15 5 3 [5],wG 2 15 3 [15]],.ret]) .skip]),RG [wK 16 .add 3 8 1 3 3 [8],wV 8 16 3 [16]]]
def Ex.c:SC:=
 SQ [RG [wN 2 0 3 [2]],RG [wN 3 0 3],SQ [RG [wV 6 0 63 [0],wL 7 6 63 3,oQ 8 (.move (.const (.int .i64 0))) 3],.block 0 (.loop Ex.s0)],RG [wV 17 3 3 [3],wG 2 17 3 [17]],.ret]
def gY.b0 (k:Nat) (nF:(List Int)):Int->Option (AT (Int) (Unit) (Int)):=fun i1=>
 bif decide (i1<(nF.length:Int)) then
  (at? nF i1).bind fun x3=>
  bif (!decide (x3=(0:Int))) then
   some (.ret x3)
  else
   some (.next (ab (i1+1)))
 else
  some (.brk ())
def gY.h0 (nF:(List Int)):Int->St:=fun i1=>⟨[(3,.int .i64 0),(6,.sl 1 (List.map eI nF)),(7,.int .i64 (nF.length:Int)),(8,.int .i64 i1)],[],[],1,Try.f139.ntmps⟩
def gY.x0:Unit->St:=fun _=>⟨[(3,.int .i64 0)],[],[],1,Try.f139.ntmps⟩
def gY (k:Nat) (nF:(List Int)):Option (Int):=
 (aj (gY.b0 k nF) k 0).bind fun r5=>match r5 with
 |.next _=>none
 |.ret v_=>some v_
 |.brk _=>
  some 0
theorem alO (k:Nat) (nF:(List Int)) (r:Int) (h0:gY k nF=some r):Aw Try.prog 139 [.sl 1 (List.map eI nF)] (fun y=>y=.int .i64 r):=by
 refine PB Try.f139 Ex.c [.tmp 2] ?_
 simp only[gY]at h0
 try simp only[Ex.c,go_sem]
 obtain⟨r5,yr5,h0⟩:=bs h0
 refine Bf yr5 (gY.h0 nF) (gY.x0) ?_ ?_ ?_
 refine Ah.go [3,6,7,8] [] rfl ?_
 try simp only[gY.h0,go_sem]
 rintro i1 cO Bm Bn h1 aJ aH bK
 refine rS ?_
 simp only[gY.b0]at h1
 try simp only[Ex.s0,gY.h0,go_sem]
 refine AS h1 ?_ ?_<;>intro c2 h1<;>have F:=c2<;>try simp only[F,go_sem]
 obtain⟨x3,cP,h1⟩:=bs h1
 have F:=an (aC cP) (an (aD eI cP) F)
 try simp only[F,go_sem]
 refine Bt F h1 ?_ ?_<;>intro F h1<;>try simp only[F,go_sem]
 obtain rfl:=bK _ (oi h1).symm
 simp only at h0
 obtain rfl:=oi h0
 refine Ag rfl ?_
 try simp only[F,go_sem]
 refine AB (aJ _ _ (oi h1).symm (Ah.go [3,6,7,8] [] rfl ?_))
 try simp only[gY.h0,F,go_sem]
 refine AB (aH _ _ (oi h1).symm (Ah.go [3] [] rfl ?_))
 try simp only[gY.x0,F,go_sem]
 rintro _ aK
 subst aK
 simp only at h0
 refine rS ?_
 try simp only[gY.x0,go_sem]
 obtain rfl:=oi h0
 refine Ag rfl ?_
 try simp only[go_sem]
def G3.c:SC:=
 SQ [RG [wB 2 false 4 [2]],RG [wV 3 0 3,wV 4 0 3 [0],wO 5 .neq 3 3 4 3 4 [3,4],wG 2 5 4 [5]],.ret]
def cmp_isNaN_int (k:Nat) (x0:Int):Option (Bool):=
 some false
theorem afS (k:Nat) (x0:Int) (r:Bool) (h0:cmp_isNaN_int k x0=some r):Aw Try.prog 150 [.int .i64 x0] (fun y=>y=.bool r):=by
 refine PB Try.f150 G3.c [.tmp 2] ?_
 simp only[cmp_isNaN_int]at h0
 try simp only[G3.c,go_sem]
 obtain rfl:=oi h0
 refine Ag rfl ?_
 try simp only[go_sem]
def G1.c:SC:=
 SQ [RG [wN 4 0 3 [4]],RG [wV 7 0 3,wU 8 150 7 3 4 [7],wG 5 8 4 [8]],RG [wV 9 1 3,wU 10 150 9 3 4 [9],wG 6 10 4 [10]],SQ [RG [wV 11 5 4 [5]],CN 11 (SQ [SQ [RG [wV 12 6 4 [6]],CN 12 (SQ [RG [wN 4 0 3],.ret]) .skip],RG [wN 4 (-1) 3],.ret]) .skip],SQ [RG [wV 13 6 4 [6]],CN 13 (SQ [RG [wN 4 1 3],.ret]) .skip],SQ [RG [wV 14 0 3,wV 15 1 3,wO 16 .lss 3 14 15 3 4 [14,15]],CN 16 (SQ [RG [wN 4 (-1) 3],
 .ret]) .skip],SQ [RG [wV 17 0 3 [0],wV 18 1 3 [1],wO 19 .gtr 3 17 18 3 4 [17,18]],CN 19 (SQ [RG [wN 4 1 3],.ret]) .skip],RG [wN 4 0 3],.ret]
def uP (k:Nat) (x0:Int) (y1:Int):Option (Int):=
 (cmp_isNaN_int k x0).bind fun x1=>
 (cmp_isNaN_int k y1).bind fun x2=>
 bif x1 then
  bif x2 then
   some 0
  else
   some (-1)
 else
  bif x2 then
   some 1
  else
   bif decide (x0<y1) then
    some (-1)
   else
    bif decide (y1<x0) then
     some 1
    else
     some 0
theorem afR (k:Nat) (x0:Int) (y1:Int) (r:Int) (h0:uP k x0 y1=some r):Aw Try.prog 140 [.int .i64 x0,.int .i64 y1] (fun y=>y=.int .i64 r):=by
 refine PB Try.f140 G1.c [.tmp 4] ?_
 simp only[uP]at h0
 try simp only[G1.c,go_sem]
 refine au h0 (afS k _) ?_ (fun x1 h0=>?_)<;>try simp only[go_sem]
 refine au h0 (afS k _) ?_ (fun x2 h0=>?_)<;>try simp only[go_sem]
 refine AS h0 ?_ ?_<;>intro c3 h0<;>have F:=c3<;>try simp only[F,go_sem]
 refine AF F h0 ?_ ?_<;>intro F h0<;>try simp only[F,go_sem]
 obtain rfl:=oi h0
 refine Ag rfl ?_
 try simp only[F,go_sem]
 obtain rfl:=oi h0
 refine Ag rfl ?_
 try simp only[F,go_sem]
 refine AF F h0 ?_ ?_<;>intro F h0<;>try simp only[F,go_sem]
 obtain rfl:=oi h0
 refine Ag rfl ?_
 try simp only[F,go_sem]
 refine AF F h0 ?_ ?_<;>intro F h0<;>try simp only[F,go_sem]
 obtain rfl:=oi h0
 refine Ag rfl ?_
 try simp only[F,go_sem]
 refine AF F h0 ?_ ?_<;>intro F h0<;>try simp only[F,go_sem]
 obtain rfl:=oi h0
 refine Ag rfl ?_
 try simp only[F,go_sem]
 obtain rfl:=oi h0
 refine Ag rfl ?_
 try simp only[F,go_sem]
def GM.c:SC:=
 SQ [RG [wE 2 23 0 [0],wE 3 23 1 [1],wN 4 0 3 [4]],.aO [wF 5 23 2 0,wD 6 3 5,wF 7 23 3 0,wD 8 3 7,wW 9 140 6 8 3 3 3,wF 10 23 2 1,wD 11 3 10,wF 12 23 3 1,wD 13 3 12,wW 14 140 11 13 3 3 3,oQ 15 (.buildSlice 63 2 #[(0,.tmp 9),(1,.tmp 14)]) 63,wU 16 139 15 63 3,wG 4 16 3] [[],[0],[],[2],[0,1,2,3],[],[5],[],[7],[5,6,7,8,0,1,2,3,4],[0,1,2,3,4,5,6,7,8,9],[0,1,2,3,4,5,6,7,8,9,10],[0,1,2,3,4,5,6,7,8,9,
 10,11]] [2,3,5,6,7,8,9,10,11,12,13,14,15,16],.ret]
def xm (k:Nat) (a0:Entry) (b1:Entry):Option (Int):=
 (uP k a0.Ap b1.Ap).bind fun x1=>
 (uP k a0.No b1.No).bind fun x2=>
 (gY k [x1,x2]).bind fun x3=>
 some x3
theorem alf (k:Nat) (a0:Entry) (b1:Entry) (r:Int) (h0:xm k a0 b1=some r):Aw Try.prog 103 [.agg (Entry.c a0),.agg (Entry.c b1)] (fun y=>y=.int .i64 r):=by
 refine PB Try.f103 GM.c [.tmp 4] ?_
 simp only[xm]at h0
 try simp only[GM.c,go_sem]
 refine AL Ax aS 1000 ?_
 try simp only[go_sem]
 refine cn h0 (afR k _ _) ?_ (fun x1 h0=>?_)<;>try simp only[go_sem]
 refine cn h0 (afR k _ _) ?_ (fun x2 h0=>?_)<;>try simp only[go_sem]
 refine cn h0 (alO k _) ?_ (fun x3 h0=>?_)<;>try simp only[go_sem]
 refine aF ?_
 try simp only[go_sem]
 obtain rfl:=oi h0
 refine Ag rfl ?_
 try simp only[go_sem]
def G0.c:SC:=
 SQ [RG [wE 2 25 0 [0],wE 3 23 1 [1],wN 4 0 3 [4]],RG [wF 5 25 2 0 [2],wD 6 23 5 [5],wD 7 23 3 [3],wW 8 103 6 7 23 23 3 [6,7],wG 4 8 3 [8]],.ret]
def qR (k:Nat) (r0:Ab) (x1:Entry):Option (Int):=
 (xm k r0.At x1).bind fun x2=>
 some x2
theorem alm (k:Nat) (r0:Ab) (x1:Entry) (r:Int) (h0:qR k r0 x1=some r):Aw Try.prog 136 [.agg (Ab.c r0),.agg (Entry.c x1)] (fun y=>y=.int .i64 r):=by
 refine PB Try.f136 G0.c [.tmp 4] ?_
 simp only[qR]at h0
 try simp only[G0.c,go_sem]
 refine au h0 (alf k _ _) ?_ (fun x2 h0=>?_)<;>try simp only[go_sem]
 obtain rfl:=oi h0
 refine Ag rfl ?_
 try simp only[go_sem]
def Hz.c:SC:=
 SQ [RG [wE 2 46 0 [0],wE 3 23 1 [1],wN 4 0 3 [4],wB 5 false 4 [5]],RG [wF 6 46 2 0 [2],wD 7 44 6 [6],wD 8 23 3 [3],wC 9 135 #[.tmp 7,.tmp 8,.func 136] #[44,23,213] 164 [7,8],wX 10 9 0 3,wX 11 9 1 4 [9],wG 4 10 3 [10],wG 5 11 4 [11]],.ret]
def xq (k:Nat) (b0:Ai) (jy:Entry):Option (Int×Bool):=
 (gu k b0.Al jy (fun q0 q1=>qR k q0 q1)).bind fun x1=>
 some (x1.1,x1.2)
theorem aln (k:Nat) (b0:Ai) (jy:Entry) (r:Int×Bool) (h0:xq k b0 jy=some r):Aw Try.prog 97 [.agg (Ai.c b0),.agg (Entry.c jy)] (fun y=>y=.ar [.int .i64 r.1,.bool r.2]):=by
 refine PB Try.f97 Hz.c [.tmp 4,.tmp 5] ?_
 simp only[xq]at h0
 try simp only[Hz.c,go_sem]
 refine au h0 (aqm k _ _ 136 [] ⟨fun _=>rfl,fun _=>rfl,fun _ _=>rfl,rfl,fun _=>rfl,fun _=>rfl,fun _=>rfl⟩ (fun q0 q1=>qR k q0 q1) (fun q0 q1 qr qh=>alm k q0 q1 qr qh)) ?_ (fun x1 h0=>?_)<;>try simp only[go_sem]
 obtain rfl:=oi h0
 refine Ag rfl ?_
 try simp only[go_sem]
end Go.Abs
namespace Go.Abs
open Go Go.Proofs Go.RowKit Go.Lib
theorem abI {P:Program} (w:World) (dT sT ty elem:TypeId) (z b o acP al3:Nat) (a:Addr) (dn fH:Nat) (cs:List Value)
  (hu:P.underlying dT=some (.slice elem)) (hs:(P.info? elem).map (·.size)=some z) (hn:cs.length=Nat.min dn acP*z)
  (y8:∀ j v,cs[j]?=some v->w.cell? (a.add j)=some v) (hc:∀ j,j<cs.length->(w.cell? ⟨b,o+j,none⟩).isSome=true) (hf:∀ j,j<cs.length->w.frozen? ⟨b,o+j,none⟩=false) (h1:∀ v∈cs,v.oneCell'=true):
  (Builtin.copy_ #[dT,sT] ty #[.slice (some ⟨b,o,none⟩) acP al3,.slice (some a) dn fH]).run P w=.ok (goInt (Nat.min dn acP)) (w.setCells b o cs):=by
 have hl:=run_loadCells_list (P:=P) w a cs y8
 have fU:=run_storeCells_cells (P:=P) b o cs 0 w (by simpa using hc) (by simpa using hf) h1
 cases hq:P.info? elem with
 |none=>simp[hq]at hs
 |some i=>
  have hi:i.size=z:=by simpa [hq] using hs
  simp[Builtin.copy_,run_underlying hu,Builtin.lenOf,Builtin.firstCells,sizeOf,typeInfo,hq,hi,<-hn,hl,fU]
theorem aok (b n c i vb mU vc:Nat) (cs vs:List Value) (w:World) (hi:i<n) (qe:n+1<=c) (arE:c<=9223372036854775807) (hvb:vb≠b) (ca:cs.length=n*8) (oC:vs.length=8)
  (fO:∀ j v,cs[j]?=some v->w.cell? ⟨b,j,none⟩=some v) (ou:∀ j,j<(n+1)*8->(w.cell? ⟨b,j,none⟩).isSome=true) (ni:∀ j,j<(n+1)*8->w.frozen? ⟨b,j,none⟩=false)
  (bj:∀ j v,vs[j]?=some v->w.cell? ⟨vb,mU+j,none⟩=some v) (pJ:∀ v∈cs,v.oneCell'=true) (vp:∀ v∈vs,v.oneCell'=true)
  (tA tB:TypeId) (kA kB:Nat) (hsa:w.shape? vb=some (tA,kA)) (y6:w.shape? b=some (tB,kB)) (hkB:kB≠0) (hfa:w.frozen? ⟨vb,mU,none⟩=false) (hfe:w.frozen? ⟨vb,kA,none⟩=false):
  Calls Try.prog 98 #[.slice (some ⟨b,0,none⟩) n c,.int .i64 i,.slice (some ⟨vb,mU,none⟩) 1 vc] w fun e w'=>
   e=.returned (.slice (some ⟨b,0,none⟩) (n+1) c)/\w'=(w.drew.setCells b ((i+1)*8) (cs.drop (i*8))).setCells b (i*8) vs:=by
 have t44:Try.prog.underlying 44=some (.slice 25):=by rfl
 have aw:(Try.prog.info? 25).map (·.size)=some 8:=by rfl
 have hz2:¬ ((i:Int)=(n:Int)):=by omega
 have eU:IntKind.i64.wrap ((i:Int)+1)=(i:Int)+1:=by rw[IntKind.wrap_i64];omega
 have lS:IntKind.i64.wrap ((n:Int)+1)=(n:Int)+1:=by rw[IntKind.wrap_i64];omega
 have eM:(0:Int)<=(i:Int)+1:=by omega
 have bB:i<=n:=by omega
 have htn:((i:Int)+1).toNat=i+1:=by omega
 have arU:((n:Int)+1).toNat=n+1:=by omega
 have jh:¬ (c=i+1):=by omega
 have hb4:¬ (c=i):=by omega
 have hrc:¬ ((c:Int)<(n:Int)+1):=by omega
 have adG:Try.f98.ntmps=95:=by rfl
 have hb3:(i:Int)<=(n:Int)+1:=by omega
 have mixed:=aS
 have hz8:∀ w,(Go.sizeOf 25).run Try.prog w=.ok 8 w:=fun _=>by rfl
 have hov:∀ lb cb,(callFunc 137 #[.slice (some ⟨vb,mU,none⟩) 1 vc,.slice (some ⟨b,(i+1)*8,none⟩) lb cb]).run Try.prog w=.ok (.value (.bool false)) w:=fun lb cb=>by
  rw[run_callFunc_extern (fn:=Try.f137) (by rfl) (by kernel_rfl) (by kernel_rfl) (by kernel_rfl) (e:=Extern.SlicesOverlaps.overlaps #[44,44] #[4]) (by kernel_rfl),
   Lib.run_overlaps_apart w 44 4 25 t44 8 hz8 ⟨vb,mU,none⟩ ⟨b,(i+1)*8,none⟩ 1 vc lb cb hvb tA tB kA kB hsa y6 hkB hfa hfe]
  rfl
 have yp:(cs.drop (i*8)).length=(n - i)*8:=by rw[Bi,ca,Nat.sub_mul]
 have ahc:Nat.min (n+1 - i) (n - i)=n - i:=by simp only[Nat.min_def];split<;>omega
 have yK:Nat.min 1 (n+1 - i)=1:=by simp only[Nat.min_def];split<;>omega
 have tF:∀ j,j<(cs.drop (i*8)).length->(i+1)*8+j<(n+1)*8:=fun j hj=>by rw[yp]at hj;omega
 have ag6:∀ ty dc sc,(Builtin.copy_ #[44,44] ty #[.slice (some ⟨b,(i+1)*8,none⟩) (n - i) dc,.slice (some ⟨b,i*8,none⟩) (n+1 - i) sc]).run Try.prog w.drew=.ok (goInt ((n - i:Nat):Int)) (w.drew.setCells b ((i+1)*8) (cs.drop (i*8))):=fun ty dc sc=>by
  have:=abI (P:=Try.prog) w.drew 44 44 ty 25 8 b ((i+1)*8) (n - i) dc ⟨b,i*8,none⟩ (n+1 - i) sc (cs.drop (i*8)) t44 aw (by rw[yp,ahc])
   (fun j v hj=>by rw[Addr.add_lit];exact fO (i*8+j) v (by rwa [Cf]at hj))
   (fun j hj=>ou _ (tF j hj)) (fun j hj=>ni _ (tF j hj)) (fun v hv=>pJ v (Cj hv))
  rw[ahc]at this
  exact this
 obtain⟨W1,iO⟩:∃ W1,W1=w.drew.setCells b ((i+1)*8) (cs.drop (i*8)):=⟨_,rfl⟩
 have anM:∀ k,k<(n+1)*8->(W1.cell? ⟨b,k,none⟩).isSome=true:=fun k hk=>by
  rw[iO]
  exact isSome_setCells b _ _ w.drew (fun j hj=>ou _ (tF j hj)) _ (ou k hk)
 have anc:∀ (W:World),(∀ x,W.cell? x=W1.cell? x)->(∀ x,W.frozen? x=W1.frozen? x)->∀ ty dc,(Builtin.copy_ #[44,44] ty #[.slice (some ⟨b,i*8,none⟩) (n+1 - i) dc,.slice (some ⟨vb,mU,none⟩) 1 vc]).run Try.prog W=.ok (goInt 1) (W.setCells b (i*8) vs):=fun W rj yf ty dc=>by
  have:=abI (P:=Try.prog) W 44 44 ty 25 8 b (i*8) (n+1 - i) dc ⟨vb,mU,none⟩ 1 vc vs t44 aw (by rw[oC,yK])
   (fun j v hj=>by
    rw[Addr.add_lit,rj,iO,World.cell?_setCells_out b _ _ _ _ (fun h _=>absurd h hvb)]
    exact bj j v hj)
   (fun j hj=>by rw[rj];exact anM _ (by omega)) (fun j hj=>by rw[yf,iO,World.frozen?_setCells];exact ni _ (by omega)) vp
  rw[yK]at this
  exact this
 rw[<-iO]at ag6
 go_enter (show Try.prog.funcs[98]?=some Try.f98 from by rfl),adG
 go_wp2_with (simp only[hov])
 go_region_law_o (refine step_copy_runI rfl _ _ 44 44 rfl _ _ (by simp[Act.eval,Act.put]) (by simp[Act.eval,Act.put]) (ag6 _ _ _) ?_)
 go_wp2_with (at_builtin;refine wpList_copy_runI _ rfl _ _ 44 44 rfl _ _ rfl rfl (anc _ (fun _=>rfl) (fun _=>rfl) _ _) ?_)
 go_ret
 first|exact⟨rfl,rfl⟩|exact⟨rfl,by rw[iO]⟩
def iX:Value:=.agg #[.int .i64 0,.int .i64 0,.int .i64 0,.int .i64 0,.int .i64 0,.int .i64 0,.int .i64 0,.string ⟨#[]⟩]
theorem aoh (b n c i vb mU vc:Nat) (cs vs:List Value) (w:World) (hi:i<n) (bI:n<=c) (qe:c<n+1) (am7:(n+1)*72<=140737488355328) (ca:cs.length=n*8) (oC:vs.length=8)
  (fO:∀ j v,cs[j]?=some v->w.cell? ⟨b,j,none⟩=some v) (bj:∀ j v,vs[j]?=some v->w.cell? ⟨vb,mU+j,none⟩=some v) (pJ:∀ v∈cs,v.oneCell'=true) (vp:∀ v∈vs,v.oneCell'=true):
  Calls Try.prog 98 #[.slice (some ⟨b,0,none⟩) n c,.int .i64 i,.slice (some ⟨vb,mU,none⟩) 1 vc] w fun e w'=>
   e=.returned (.slice (some ⟨w.heap.size,0,none⟩) (n+1) (grownCap w (n+1) c 25))/\
   w'=(((w.alloc (.cells ((cs.take (i*8)).toArray++Builtin.zeroCells iX.cells (n+1 - i)++Builtin.zeroCells iX.cells (grownCap w (n+1) c 25 - (n+1))) 25)).drew.setCells w.heap.size (i*8) vs).drew).setCells w.heap.size ((i+1)*8) (cs.drop (i*8)):=by
 have t44:Try.prog.underlying 44=some (.slice 25):=by rfl
 have t3:Try.prog.underlying 3=some (.int .i64):=by rfl
 have aw:(Try.prog.info? 25).map (·.size)=some 8:=by rfl
 obtain⟨i0,pO,hz0,lV,rB⟩:∃ i0,Try.prog.info? 25=some i0/\i0.zero=some iX/\i0.size=8/\i0.bytes=72:=⟨_,rfl,rfl,rfl,rfl⟩
 have mixed:=aS
 have adG:Try.f98.ntmps=95:=by rfl
 have hz2:¬ ((i:Int)=(n:Int)):=by omega
 have hz3:(c:Int)<(n:Int)+1:=by omega
 have ji:b<w.heap.size:=by
  have:=block_lt_of_cell (fO 0 _ (gG (by omega)));exact this
 have hvw:vb<w.heap.size:=by
  have:=block_lt_of_cell (bj 0 _ (gG (by omega)));exact this
 have ee:(n:Int)+1 - (i:Int)=((n+1 - i:Nat):Int):=by omega
 have hik:i+(n+1 - i)=n+1:=by omega
 have hold:(Builtin.firstCells i0.size i (.slice (some ⟨b,0,none⟩) i c)).run Try.prog w.drew=.ok (cs.take (i*8)).toArray w.drew:=by
  rw[lV]
  exact run_firstCells_some w.drew 8 i ⟨b,0,none⟩ i c (cs.take (i*8)) (by rw[A9];omega) (fun j v hj=>by
   rw[Addr.add_lit,Cq]
   rw[BP]at hj
   split at hj
   ·exact fO j v hj
   ·cases hj)
 have hrz:∀ ty,(Builtin.append_ #[44,3] ty #[.slice (some ⟨b,0,none⟩) i c,.int .i64 ((n:Int)+1 - (i:Int))]).run Try.prog w =
   .ok (.slice (some ⟨w.heap.size,0,none⟩) (n+1) (grownCap w (n+1) c 25)) (w.drew.alloc (.cells ((cs.take (i*8)).toArray++Builtin.zeroCells iX.cells (n+1 - i)++Builtin.zeroCells iX.cells (grownCap w (n+1) c 25 - (n+1))) 25)):=fun ty=>by
  have h:=Lib.run_append_grow_zeros w 44 3 ty 25 i0 iX .i64 .i64 t44 t3 pO hz0 (some ⟨b,0,none⟩) i c (cs.take (i*8)) hold (n+1 - i) (by omega) (by omega) (by omega) (by omega) (by rw[rB];omega) (by rw[rB,hik];exact growslice_fits qe am7)
  rw[hik]at h
  rw[ee]
  exact h
 obtain⟨G,hG⟩:∃ G,G=grownCap w (n+1) c 25:=⟨_,rfl⟩
 obtain⟨CS,adr⟩:∃ CS:Array Value,CS=(cs.take (i*8)).toArray++Builtin.zeroCells iX.cells (n+1 - i)++Builtin.zeroCells iX.cells (G - (n+1)):=⟨_,rfl⟩
 rw[<-hG]at hrz ⊢
 rw[<-adr]at hrz ⊢
 have rC:iX.cells.size=8:=by rfl
 have hRl:(n+1)*8<=CS.size:=by
  rw[adr,Array.size_append,Array.size_append,size_zeroCells,size_zeroCells,rC,List.size_toArray,A9,Nat.min_eq_left (by omega)]
  omega
 obtain⟨W1,iO⟩:∃ W1,W1=w.drew.alloc (.cells CS 25):=⟨_,rfl⟩
 rw[<-iO]at hrz
 have hN:∀ j,j<(n+1)*8->(W1.cell? ⟨w.heap.size,j,none⟩).isSome=true:=fun j hj=>by
  rw[iO,World.cell?_alloc_at (w:=w.drew) CS _ w.heap.size j rfl,Bv (by omega)];rfl
 have hNf:∀ j,W1.frozen? ⟨w.heap.size,j,none⟩=false:=fun j=>by rw[iO];exact World.frozen?_alloc_at (w:=w.drew) CS _ w.heap.size j rfl
 have hOb:∀ j v,w.cell? ⟨b,j,none⟩=some v->W1.cell? ⟨b,j,none⟩=some v:=fun j v h=>by rw[iO,World.cell?_alloc_past (w:=w.drew) _ b j ji];exact h
 have hOv:∀ j v,w.cell? ⟨vb,j,none⟩=some v->W1.cell? ⟨vb,j,none⟩=some v:=fun j v h=>by rw[iO,World.cell?_alloc_past (w:=w.drew) _ vb j hvw];exact h
 have yK:Nat.min 1 (n+1 - i)=1:=by simp only[Nat.min_def];split<;>omega
 have ahd:Nat.min (n - i) (n - i)=n - i:=by simp only[Nat.min_def];split<;>omega
 have yp:(cs.drop (i*8)).length=(n - i)*8:=by rw[Bi,ca,Nat.sub_mul]
 have tF:∀ j,j<(cs.drop (i*8)).length->(i+1)*8+j<(n+1)*8:=fun j hj=>by rw[yp]at hj;omega
 have ane:∀ (W:World),(∀ x,W.cell? x=W1.cell? x)->(∀ x,W.frozen? x=W1.frozen? x)->∀ ty dc,(Builtin.copy_ #[44,44] ty #[.slice (some ⟨w.heap.size,i*8,none⟩) (n+1 - i) dc,.slice (some ⟨vb,mU,none⟩) 1 vc]).run Try.prog W=.ok (goInt 1) (W.setCells w.heap.size (i*8) vs):=fun W rj yf ty dc=>by
  have:=abI (P:=Try.prog) W 44 44 ty 25 8 w.heap.size (i*8) (n+1 - i) dc ⟨vb,mU,none⟩ 1 vc vs t44 aw (by rw[oC,yK])
   (fun j v hj=>by rw[Addr.add_lit,rj];exact hOv _ v (bj j v hj))
   (fun j hj=>by rw[rj];exact hN _ (by omega)) (fun j hj=>by rw[yf];exact hNf _) vp
  rw[yK]at this
  exact this
 have hGn:n+1<=G:=by rw[hG];exact grownCap_ge w _ _ _
 have arB:G<=9223372036854775807:=by
  have:=grownCap_le_maxLen w (n+1) c 25 (by unfold maxLen;omega)
  rw[<-hG]at this
  unfold maxLen at this
  omega
 have hGi:¬ (G=i):=by omega
 have arC:¬ (G=i+1):=by omega
 have hci:¬ (c=i):=by omega
 have hbN:b≠w.heap.size:=by omega
 have ag7:∀ (W:World),(∀ x,W.cell? x=(W1.setCells w.heap.size (i*8) vs).cell? x)->(∀ x,W.frozen? x=(W1.setCells w.heap.size (i*8) vs).frozen? x)->∀ ty dc sc,(Builtin.copy_ #[44,44] ty #[.slice (some ⟨w.heap.size,(i+1)*8,none⟩) (n - i) dc,.slice (some ⟨b,i*8,none⟩) (n - i) sc]).run Try.prog W=.ok (goInt ((n - i:Nat):Int)) (W.setCells w.heap.size ((i+1)*8) (cs.drop (i*8))):=fun W rj yf ty dc sc=>by
  have:=abI (P:=Try.prog) W 44 44 ty 25 8 w.heap.size ((i+1)*8) (n - i) dc ⟨b,i*8,none⟩ (n - i) sc (cs.drop (i*8)) t44 aw (by rw[yp,ahd])
   (fun j v hj=>by
    rw[Addr.add_lit,rj,World.cell?_setCells_out _ _ _ _ _ (fun h _=>absurd h hbN)]
    exact hOb _ v (fO (i*8+j) v (by rwa [Cf]at hj)))
   (fun j hj=>by rw[rj];exact isSome_setCells _ _ _ _ (fun t ht=>hN _ (by rw[oC]at ht;omega)) _ (hN _ (tF j hj)))
   (fun j hj=>by rw[yf,World.frozen?_setCells];exact hNf _) (fun v hv=>pJ v (Cj hv))
  rw[ahd]at this
  exact this
 subst iO
 have hE1:∀ x,((w.alloc (.cells CS 25)).drew).cell? x=(w.drew.alloc (.cells CS 25)).cell? x:=fun x=>rfl
 have hE2:∀ x,((w.alloc (.cells CS 25)).drew).frozen? x=(w.drew.alloc (.cells CS 25)).frozen? x:=fun x=>rfl
 have hF1:∀ x,(((w.alloc (.cells CS 25)).drew.setCells w.heap.size (i*8) vs).drew).cell? x=((w.drew.alloc (.cells CS 25)).setCells w.heap.size (i*8) vs).cell? x:=fun x=>rfl
 have hF2:∀ x,(((w.alloc (.cells CS 25)).drew.setCells w.heap.size (i*8) vs).drew).frozen? x=((w.drew.alloc (.cells CS 25)).setCells w.heap.size (i*8) vs).frozen? x:=fun x=>rfl
 have eU:IntKind.i64.wrap ((i:Int)+1)=(i:Int)+1:=by rw[IntKind.wrap_i64];omega
 have lS:IntKind.i64.wrap ((n:Int)+1)=(n:Int)+1:=by rw[IntKind.wrap_i64];omega
 have vR:IntKind.i64.wrap ((n:Int)+1 - (i:Int))=(n:Int)+1 - (i:Int):=by rw[IntKind.wrap_i64];omega
 have eM:(0:Int)<=(i:Int)+1:=by omega
 have bB:i<=n:=by omega
 have htn:((i:Int)+1).toNat=i+1:=by omega
 have hb3:(i:Int)<=(n:Int)+1:=by omega
 have hb5:(i:Int)<=(n:Int):=by omega
 clear ee hik hold adr hG hRl
 go_enter (show Try.prog.funcs[98]?=some Try.f98 from by rfl),adG
 go_wp2_with (first
  |(at_builtin;refine Lib.wpList_append_run _ rfl _ _ _ _ rfl _ _ rfl rfl _ _ (hrz _) ?_)
  |(at_builtin;refine wpList_copy_runI _ rfl _ _ 44 44 rfl _ _ rfl rfl (ane _ hE1 hE2 _ _) ?_)
  |(at_builtin;refine wpList_copy_runI _ rfl _ _ 44 44 rfl _ _ rfl rfl (ag7 _ (fun _=>rfl) (fun _=>rfl) _ _ _) ?_))
 go_region_law_o (refine step_copy_runI rfl _ _ 44 44 rfl (.slice (some ⟨w.heap.size,(i+1)*8,none⟩) (n - i) (G - (i+1))) (.slice (some ⟨b,i*8,none⟩) (n - i) (c - i)) (by simp[Act.eval,Act.put]) (by simp[Act.eval,Act.put]) (ag7 _ hF1 hF2 3 (G - (i+1)) (c - i)) ?_)
 go_wp2
 go_ret
 exact⟨rfl,rfl⟩
def Fo.c:SC:=
 SQ [RG [oQ 6 (.assign (.const (.slice none 0 0))) 44 [6]],RG [wV 10 0 44,wV 11 1 3,oQ 12 (.slice 44 (.tmp 10) (some (.tmp 11)) none none) 44 [10,11,12]],RG [wV 13 2 44,wL 14 13 44 3 [13],wG 7 14 3 [14]],SQ [RG [wV 15 7 3,wK 16 .eql 3 15 0 3 4 [15]],CN 16 (SQ [RG [wV 17 0 44 [0],wG 6 17 44 [17]],.ret]) .skip],RG [wV 18 0 44,wL 19 18 44 3 [18],wG 8 19 3 [19]],SQ [RG [wV 20 1 3,wV 21 8 3,
 wO 22 .eql 3 20 21 3 4 [20,21]],CN 22 (SQ [RG [wV 23 0 44 [0],wV 24 2 44 [2],wP 25 23 24 44 44 44 [23,24],wG 6 25 44 [25]],.ret]) .skip],SQ [RG [wV 26 8 3,wV 27 7 3,wO 28 .add 3 26 27 3 3 [26,27],wV 29 0 44,oQ 30 (.call ⟨.builtin .cap,#[.tmp 29],#[44]⟩) 3 [29],wO 31 .gtr 3 28 30 3 4 [28,30]],CN 31 (SQ [RG [wV 32 0 44,wV 33 1 3,oQ 34 (.slice 44 (.tmp 32) none (some (.tmp 33)) none) 44 [32,33],
 wV 35 8 3 [8],wV 36 7 3,wO 37 .add 3 35 36 3 3 [35,36],wV 38 1 3,wO 39 .sub 3 37 38 3 3 [37,38],wP 40 34 39 44 3 44 [34,39],wG 9 40 44 [40]],RG [wV 41 9 44,wV 42 1 3,oQ 43 (.slice 44 (.tmp 41) (some (.tmp 42)) none none) 44 [41,42],wV 44 2 44 [2],oQ 45 (.call ⟨.builtin .copy,#[.tmp 43,.tmp 44],#[44,44]⟩) 3 [43,44,45]],.aO [wV 46 9 44,wV 47 1 3,wV 48 7 3,wO 49 .add 3 47 48 3 3,
 oQ 50 (.slice 44 (.tmp 46) (some (.tmp 49)) none none) 44,wV 51 0 44,wV 52 1 3,oQ 53 (.slice 44 (.tmp 51) (some (.tmp 52)) none none) 44,oQ 54 (.call ⟨.builtin .copy,#[.tmp 50,.tmp 53],#[44,44]⟩) 3] [[],[],[],[1,2],[0,1,2,3],[],[],[5,6],[0,1,2,3,4,5,6,7]] [0,1,7,46,47,48,49,50,51,52,53,54],RG [wV 55 9 44 [9],wG 6 55 44 [55]],.ret]) .skip],RG [wV 56 0 44 [0],wV 57 8 3,wV 58 7 3,
 wO 59 .add 3 57 58 3 3 [57,58],oQ 60 (.slice 44 (.tmp 56) none (some (.tmp 59)) none) 44 [56,59],wG 0 60 44 [60]],SQ [RG [wV 61 2 44,wV 62 0 44,wV 63 1 3,wV 64 7 3,wO 65 .add 3 63 64 3 3 [63,64],oQ 66 (.slice 44 (.tmp 62) (some (.tmp 65)) none none) 44 [62,65],wW 67 137 61 66 44 44 4 [61,66],wQ 68 67 4 [67]],CN 68 (SQ [.aO [wV 69 0 44,wV 70 1 3,wV 71 7 3,wO 72 .add 3 70 71 3 3,
 oQ 73 (.slice 44 (.tmp 69) (some (.tmp 72)) none none) 44,wV 74 0 44,wV 75 1 3,oQ 76 (.slice 44 (.tmp 74) (some (.tmp 75)) none none) 44,oQ 77 (.call ⟨.builtin .copy,#[.tmp 73,.tmp 76],#[44,44]⟩) 3] [[],[],[],[1,2],[0,1,2,3],[],[],[5,6],[0,1,2,3,4,5,6,7]] [7,69,70,71,72,73,74,75,76,77],RG [wV 78 0 44,wV 79 1 3 [1],oQ 80 (.slice 44 (.tmp 78) (some (.tmp 79)) none none) 44 [78,79],wV 81 2 44 [2],
 oQ 82 (.call ⟨.builtin .copy,#[.tmp 80,.tmp 81],#[44,44]⟩) 3 [80,81,82]],RG [wV 83 0 44 [0],wG 6 83 44 [83]],.ret]) .skip],RG [wV 84 0 44,wV 85 8 3 [8],oQ 86 (.slice 44 (.tmp 84) (some (.tmp 85)) none none) 44 [84,85],wV 87 2 44 [2],oQ 88 (.call ⟨.builtin .copy,#[.tmp 86,.tmp 87],#[44,44]⟩) 3 [86,87,88]],RG [wV 89 0 44,wV 90 1 3 [1],oQ 91 (.slice 44 (.tmp 89) (some (.tmp 90)) none none) 44 [89,
 90],wV 92 7 3 [7],wW 93 138 91 92 44 3 0 [91,92,93]],RG [wV 94 0 44 [0],wG 6 94 44 [94]],.ret]
theorem Fo.rs:Try.f98.results.toList=[.tmp 6]:=rfl
theorem aqj {P:Program}{w:World}{g o:Nat}{us:List Value}{cur:Array Value}{e:TypeId} (hg:w.heap[g]?=some (.cells cur e (0,0))) (hle:o+us.length<=cur.size) (h1:∀ v∈us,v.oneCell'=true):
  w.setCells g o us=w.setRow g (cur.toList.take o++us++cur.toList.drop (o+us.length)).toArray:=by
 have a:=run_storeCells_at P g o e us 0 cur w hg (by simpa using hle) h1
 have b:=run_storeCells_cells (P:=P) g o us 0 w (fun j hj=>by
   simp only[World.cell?,hg,Nat.add_zero]
   rw[Bv (by omega)];rfl) (fun j hj=>by simp[World.frozen?,hg]) h1
 rw[a]at b
 simp only[Nat.add_zero]at b
 simp only[Result.ok.injEq,true_and]at b
 exact b.symm
section
variable {N0:Nat}{W0:World}{fm:FM}{ts:List Ak}{H:Heap}{w:World}
theorem HR.less {H':Heap} (h:HR N0 W0 fm ts H w) (hl:H'.length=H.length) (hs:∀ l k b,H'.get l k=some b->H.get l k=some b):HR N0 W0 fm ts H' w:=
 ⟨h.len.trans hl.symm,fun l k b a=>h.al l k b (hs l k b a),fun l k l' k' b b' c p q=>h.inj l k l' k' b b' c (hs _ _ _ p) (hs _ _ _ q),h.bO,fun l k b c o p=>h.dh l k b c o (hs _ _ _ p),h.dg,h.size,h.cT,h.dZ⟩
theorem aqi {α:Type} (L us:List α) (off n:Nat) (h:n<=off+us.length) (ho:off<=n):
  L.take off++us++L.drop (off+us.length)=((L.take n).take off++(us++(L.take n).drop (off+us.length)))++L.drop (off+us.length):=by
 have e1:(L.take n).take off=L.take off:=by rw[List.take_take,Nat.min_eq_left ho]
 have e2:(L.take n).drop (off+us.length)=[]:=by rw[List.drop_eq_nil_iff,A9];omega
 rw[e1,e2,List.append_nil]
theorem HR.lay (h:HR N0 W0 fm ts H w) {l k c cap et esz i:Nat}{es new es':List (List AV)}{us:List Value} (hg:H.get l k=some (.arr et esz es)) (ht:tb ts l k=some (.arr es.length (some (c,cap))))
  (hi:i<=es.length) (bU:i+new.length<=cap) (bx:dk new esz) (hv:Au fm [] new.flatten us) (hf:∀ x∈new.flatten,x.flat=true) (he:es'=es.take i++(new++es.drop (i+new.length))):
  HR N0 W0 fm (cV ts l k (.arr es'.length (some (c,cap)))) (H.put l k (some (.arr et esz es'))) (w.setCells c (i*esz) us):=by
 have hb:=h.al l k _ hg
 rw[ht]at hb
 obtain⟨_,_,hA⟩:=hb.gb
 obtain⟨hA,hN⟩:=hA c cap rfl
 obtain⟨cells,c1,c2,c3,c4,c5,c6,c7,c8⟩:=hA.flat
 have cD:us.length=new.length*esz:=by rw[<-hv.1,j8 _ _ bx]
 have cY:(i+new.length)*esz<=cap*esz:=BU _ bU
 rw[Nat.add_mul]at cY
 have ik:es.length*esz<=cap*esz:=BU _ c3
 have hm3:i*esz<=es.length*esz:=BU _ hi
 have fP:es'.length<=cap/\es.length<=es'.length:=by
  rw[he,A8,A8,A9,Bi];omega
 rw[aqj (P:=Try.prog) c1 (by rw[cD,c2];exact cY) (hv.qq hf)]
 have om:es'.flatten=es.flatten.take (i*esz)++(new.flatten++es.flatten.drop ((i+new.length)*esz)):=by
  rw[he,List.flatten_append,List.flatten_append,nW es i c5,u3 es _ c5]
 refine h.wu hg ht (es':=es') (us:=(cells.toList.take (es.length*esz)).take (i*esz)++(us++(cells.toList.take (es.length*esz)).drop ((i+new.length)*esz)))
  (rest:=cells.toList.drop (max (es.length*esz) ((i+new.length)*esz))) fP.2 fP.1 ?_ ?_ ?_ ?_ ?_
 ·rw[he];exact oK (v8 c5 _) (oK bx (zF c5 _))
 ·rw[A8,A8,A9,Bi,Array.length_toList,cD,c2];omega
 ·rw[om]
  exact(c7.take _).append (hv.append (c7.drop _))
 ·rw[om]
  intro x hx
  rcases Ba.1 hx with hx|hx
  ·exact c8 x (BY hx)
  ·rcases Ba.1 hx with hx|hx
   ·exact hf x hx
   ·exact c8 x (Cj hx)
 ·have e1:(i+new.length)*esz=i*esz+us.length:=by rw[cD,Nat.add_mul]
  rw[e1]
  by_cases hle:i*esz+us.length<=es.length*esz
  ·rw[Nat.max_eq_left hle]
   exact abK _ _ _ _ hle (by rw[Array.length_toList (xs:=cells),c2];exact ik)
  ·rw[Nat.max_eq_right (by omega)]
   exact aqi _ _ _ _ (by omega) hm3
end
def xf:List AV:=[.int .i64 0,.int .i64 0,.int .i64 0,.int .i64 0,.int .i64 0,.int .i64 0,.int .i64 0,.str ⟨#[]⟩]
theorem aru (fm:FM):Au fm [] xf iX.cells.toList:=by
 refine⟨by rfl,?_⟩
 intro i x v hx hv
 match i,hx,hv with
 |0,hx,hv=>cases hx;cases hv;exact .int _ _
 |1,hx,hv=>cases hx;cases hv;exact .int _ _
 |2,hx,hv=>cases hx;cases hv;exact .int _ _
 |3,hx,hv=>cases hx;cases hv;exact .int _ _
 |4,hx,hv=>cases hx;cases hv;exact .int _ _
 |5,hx,hv=>cases hx;cases hv;exact .int _ _
 |6,hx,hv=>cases hx;cases hv;exact .int _ _
 |7,hx,hv=>cases hx;cases hv;exact .str _
 |n+8,hx,hv=>cases hx
theorem aoi {α:Type}{L lF:List α}{i:Nat} (hi:i<L.length) (h:L.take (i+1)++(L.drop i++L.drop (i+1+(L.drop i).length))=lF):lF.take i=L.take i/\lF.drop (i+1)=L.drop i:=by
 have hl:(L.take (i+1)).length=i+1:=by rw[A9];omega
 have hd:L.drop (i+1+(L.drop i).length)=[]:=by rw[List.drop_eq_nil_iff,Bi];omega
 subst h
 refine⟨?_,?_⟩
 ·rw[EX (by omega),List.take_take,Nat.min_eq_left (by omega)]
 ·rw[List.drop_left' hl,hd,List.append_nil]
theorem aoj {α:Type}{L Z Y lF:List α}{x:α}{i:Nat} (hi:i<=L.length) (h:(L.take i++Z).take i++([x]++Y)=lF):lF.take (i+1)=L.take i++[x]:=by
 have hl:(L.take i).length=i:=by rw[A9];omega
 subst h
 rw[DQ hl,<-Cp,DQ (by rw[A8,hl];rfl)]
def aac (k:Nat) (s:List Ab) (i:Int) (v:List Ab):Option (List Ab):=
 if (0<=i/\i<=s.length)/\v.length=1/\room (s.length+1) 72 then some (s.take i.toNat++(v++s.drop i.toNat)) else none
theorem aqs (k:Nat) (s:List Ab) (i:Int) (v:List Ab) (r:List Ab) (h0:aac k s i v=some r):
  A6 Try.prog 98 [.loc 0 0 8 0 s.length s.length,.int .i64 i,.loc 0 1 8 0 v.length v.length] [(0,.arr 25 8 (List.map Ab.c s)),(1,.arr 25 8 (List.map Ab.c v))] (fun y fr=>y=.loc 0 0 8 0 r.length r.length/\fr=[(0,.arr 25 8 (List.map Ab.c r))]):=by
 unfold aac at h0
 split at h0
 ·rename_i hc
  obtain⟨⟨pO,bB⟩,rA,qe,tI⟩:=hc
  obtain rfl:=oi h0
  obtain⟨x,rfl⟩:∃ x,v=[x]:=by
   cases v with
   |nil=>simp at rA
   |cons x l=>cases l with
    |nil=>exact⟨x,rfl⟩
    |cons y l=>simp at rA
  obtain⟨i,rfl⟩:∃ j:Nat,i=j:=⟨i.toNat,by omega⟩
  simp only[Cl]
  by_cases he:i=s.length
  ·
   subst he
   have hr:=A6.own (et:=25) (sz:=8) (ls:=List.map Ab.c (s.take s.length++([x]++s.drop s.length))) (A6.gr Ax (f:=98) (fn:=Try.f98) (sc:=Fo.c) (args:=[.loc 0 0 8 0 s.length s.length,.int .i64 s.length,.loc 0 1 8 0 1 1]) (fr0:=[(0,.arr 25 8 (List.map Ab.c s)),(1,.arr 25 8 (List.map Ab.c [x]))]) (by rfl) (by rfl) (by decide +kernel) (by rfl) (by decide +kernel) (Nat.le_of_ble_eq_true rfl) (fun H=>?_))
   ·simpa only [Bg,AA,Az,Cq] using hr
   refine rS ?_
   have rq:vW s.length (s.length:Int)=some ():=by unfold vW;rw[if_pos (by omega)]
   have hpr:room (s.length+1) 72:=⟨qe,tI⟩
   have rp:=aoH rq
   simp only[Fo.c,aoG rq,rp,hpr,(@id (((1:Nat):Int)=1) rfl),(by decide:decide ((1:Int)=0)=false),(by simp:decide ((s.length:Int)=(s.length:Int))=true),go_sem]
   refine C8 rfl ?_
   simp only[Fo.rs,mN,A5,bZ,go_sem]
   first|exact(CB (by simp)).symm|exact CB (by simp)|(simp;done)|(simp;rw[CB (by simp)])
  ·
   have hi:i<s.length:=by omega
   refine⟨⟨Try.f98,by rfl,by rfl,by rfl⟩,?_⟩
   intro H N0 W0 fm t ts w vs hH ht bj
   obtain⟨x0,xs,rfl⟩:∃ a l,vs=a::l:=by
    cases vs with
    |nil=>exact absurd bj.1 (by simp)
    |cons a l=>exact⟨a,l,rfl⟩
   obtain⟨x1,xs,rfl⟩:∃ a l,xs=a::l:=by
    cases xs with
    |nil=>exact absurd bj.1 (by simp)
    |cons a l=>exact⟨a,l,rfl⟩
   obtain⟨x2,xs,rfl⟩:∃ a l,xs=a::l:=by
    cases xs with
    |nil=>exact absurd bj.1 (by simp)
    |cons a l=>exact⟨a,l,rfl⟩
   obtain rfl:xs=[]:=by
    cases xs with
    |nil=>rfl
    |cons a l=>exact absurd bj.1 (by simp)
   have eG:=bj.2 0 _ x0 rfl rfl
   have kV:=bj.2 1 _ x1 rfl rfl
   have hx2:=bj.2 2 _ x2 rfl rfl
   have iR:Heap.get ([(0,AH.arr 25 8 (List.map Ab.c s)),(1,AH.arr 25 8 (List.map Ab.c [x]))]::H) 0 0=some (.arr 25 8 (s.map Ab.c)):=rfl
   have mE:Heap.get ([(0,AH.arr 25 8 (List.map Ab.c s)),(1,AH.arr 25 8 (List.map Ab.c [x]))]::H) 0 1=some (.arr 25 8 ([x].map Ab.c)):=rfl
   have fC:=hH.al 0 0 _ iR
   have eM:=hH.al 0 1 _ mE
   cases kV
   generalize fT:s.length=n at *
   cases eG with
   |cH _ _ _ _ _ _ a' aY aE=>rw[aE]at fC;cases fC
   |cI _ _ _ _ _ _ a' aY m' c aE fQ=>rw[aE]at fC;have:=fC.gb.1;simp at this;omega
   |cv _ _ _ a1 aE=>omega
   |loc _ _ _ _ _ _ c cap aY a' aE yE bI b9 ha=>
    cases hx2 with
    |cH _ _ _ _ _ _ a2 cp2 vQ=>rw[vQ]at eM;cases eM
    |cI _ _ _ _ _ _ a2 cp2 m2 c2 vQ yI=>rw[vQ]at eM;have:=eM.gb.1;simp at this;omega
    |loc _ _ _ _ _ _ vb aqS vcp va vQ arL arQ arF ha2=>
     have hac:a'=⟨c,0*8,none⟩:=ha (.inr rfl)
     have hva:va=⟨vb,0*8,none⟩:=ha2 (.inr rfl)
     subst hac hva
     rw[aE]at fC
     rw[vQ]at eM
     obtain⟨hA,hN⟩:=fC.gb.2.2 c cap rfl
     obtain⟨hA2,hN2⟩:=eM.gb.2.2 vb aqS rfl
     obtain⟨cells,c1,c2,c3,c4,c5,c6,c7,c8⟩:=hA.flat
     obtain⟨ajj,d1,d2,d3,d4,d5,d6,d7,d8⟩:=hA2.flat
     simp only[Bg,AA,Az,Cq]at c3 d3 c7 d7 c2 d2
     rw[fT]at c3 c7
     have hvb:vb≠c:=by
      intro h
      subst h
      have:=hH.inj 0 0 0 1 _ _ vb iR mE (by rw[aE];rfl) (by rw[vQ];rfl)
      omega
     have bU:aY=cap:=by omega
     subst bU
     have hm8:n*8<=cells.size:=by omega
     obtain⟨cs,fO⟩:∃ cs,cs=cells.toList.take (n*8):=⟨_,rfl⟩
     obtain⟨us,oA⟩:∃ us,us=ajj.toList.take (1*8):=⟨_,rfl⟩
     rw[<-fO]at c7
     rw[<-oA]at d7
     have ca:cs.length=n*8:=by rw[fO,A9,Array.length_toList];omega
     have cD:us.length=8:=by rw[oA,A9,Array.length_toList];omega
     have vD:∀ j v,cs[j]?=some v->w.cell? ⟨c,j,none⟩=some v:=fun j v hj=>by
      simp only[World.cell?,c1]
      rw[fO,BP]at hj
      split at hj
      ·rw[Array.getElem?_toList]at hj;exact hj
      ·cases hj
     have huu:∀ j v,us[j]?=some v->w.cell? ⟨vb,j,none⟩=some v:=fun j v hj=>by
      simp only[World.cell?,d1]
      rw[oA,BP]at hj
      split at hj
      ·rw[Array.getElem?_toList]at hj;exact hj
      ·cases hj
     have pJ:=c7.qq c8
     have vp:=d7.qq d8
     have hsn:((s.map Ab.c).drop i).length=n - i:=by rw[Bi,Bg,fT]
     have vF:Au fm [] ((s.map Ab.c).drop i).flatten (cs.drop (i*8)):=by rw[u3 _ _ c5];exact c7.drop _
     have tu:∀ y∈((s.map Ab.c).drop i).flatten,y.flat=true:=fun y hy=>by rw[u3 _ _ c5]at hy;exact c8 y (Cj hy)
     have d8':∀ y∈([x].map Ab.c).flatten,y.flat=true:=d8
     have yY:(s.take i++([x]++s.drop i)).length=n+1:=by simp only[A8,A9,Bi,AA,Az,fT];omega
     have ahG:∀ {b0 b1:AH} (l k:Nat) (b:AH),Heap.get ([(0,b0)]::H) l k=some b->Heap.get ([(0,b0),(1,b1)]::H) l k=some b:=by
      intro b0 b1 l k b h
      cases l with
      |zero=>
       by_cases hk:k=0
       ·subst hk;exact h
       ·simp[Heap.get,look,hk,show ¬ (0=k) by omega]at h
      |succ l=>exact h
     by_cases hrm:n+1<=aY
     ·refine(aok c n aY i vb (0*8) vcp cs us w hi hrm (by unfold maxLen at c4;omega) hvb ca cD vD ?_ ?_ ?_ pJ vp 25 25 ajj.size cells.size ?_ ?_ ?_ ?_ ?_).mono ?_
      ·intro j hj
       simp only[World.cell?,c1]
       rw[Bv (by omega)];rfl
      ·intro j hj;simp[World.frozen?,c1]
      ·intro j v hj
       simpa using huu j v hj
      ·simp[World.shape?,d1]
      ·simp[World.shape?,c1]
      ·omega
      ·simp[World.frozen?,d1]
      ·simp[World.frozen?,d1]
      ·rintro e w' ⟨rfl,rfl⟩
       have mH:=hH.drew.lay (c:=c) (cap:=aY) (i:=i+1) (new:=(s.map Ab.c).drop i) (us:=cs.drop (i*8)) iR (by rw[aE];simp[fT]) (by rw[Bg,fT];omega) (by rw[hsn];omega) (zF c5 _) vF tu rfl
       generalize yv:(s.map Ab.c).take (i+1)++((s.map Ab.c).drop i++(s.map Ab.c).drop (i+1+((s.map Ab.c).drop i).length))=lF at mH
       have gp:lF.length=n+1:=by rw[<-yv];simp only[A8,A9,Bi,Bg,fT];omega
       have ot:=mH.lay (l:=0) (k:=0) (c:=c) (cap:=aY) (et:=25) (esz:=8) (es:=lF) (i:=i) (new:=[x].map Ab.c) (us:=us) (es':=(s.take i++([x]++s.drop i)).map Ab.c) (by rfl) (by rw[ek,if_pos ⟨rfl,rfl,by simp⟩]) (by omega) (by simp;omega) d5 d7 d8' ?_
       ·refine⟨_,.loc 0 0 8 0 (n+1) (n+1),[(0,.arr 25 8 (List.map Ab.c (s.take i++([x]++s.drop i))))],fm,_,ts,rfl,⟨?_,rfl⟩,ot.less (by rfl) ?_,?_,AN.refl _ _,As.refl _,?_,?_⟩
        ·rw[yY]
        ·exact ahG
        ·exact .loc 0 0 8 0 (n+1) (n+1) c aY aY _ (by show some (TB.arr (List.length (List.map Ab.c (s.take i++([x]++s.drop i)))) _)=_;rw[Bg,yY]) (by omega) (by omega) (by omega) (fun _=>rfl)
        ·exact fun _ _ h=>h
        ·intro k hk
         simp only[if_neg (show ¬ (k=0) by omega)]
         exact ht k hk
       ·obtain⟨q1,q2⟩:=aoi (L:=s.map Ab.c) (i:=i) (by rw[Bg,fT];exact hi) yv
        rw[q1,show i+([x].map Ab.c).length=i+1 from rfl,q2,Dg,Dg,List.map_take,List.map_drop]
     ·obtain⟨G,hG⟩:∃ G,G=grownCap w (n+1) aY 25:=⟨_,rfl⟩
      refine(aoh c n aY i vb (0*8) vcp cs us w hi bI (by omega) qe ca cD vD ?_ pJ vp).mono ?_
      ·intro j v hj
       simpa using huu j v hj
      ·rw[<-hG]
       rintro e w' ⟨rfl,rfl⟩
       have hGn:n+1<=G:=by rw[hG];exact grownCap_ge w _ _ _
       have hGm:G<=maxLen:=by
        rw[hG]
        exact grownCap_le_maxLen w (n+1) aY 25 (by unfold maxLen;omega)
       have rC:iX.cells.size=8:=by rfl
       have zj:∀ m,(Builtin.zeroCells iX.cells m).toList=(List.replicate m iX.cells.toList).flatten:=fun m=>zz iX.cells m (by rw[rC];omega)
       have kS:((s.map Ab.c).take i++List.replicate (n+1 - i) xf).length=n+1:=by rw[A8,A9,Bg,CU,fT];omega
       have hzf:∀ y∈xf,y.flat=true:=by decide
       have hs0:=hH.vY (l:=0) (k:=0) (cap:=G) (et:=25) (esz:=8) (es:=(s.map Ab.c).take i++List.replicate (n+1 - i) xf)
        (cells:=(cs.take (i*8)).toArray++Builtin.zeroCells iX.cells (n+1 - i)++Builtin.zeroCells iX.cells (G - (n+1)))
        (us:=cs.take (i*8)++(Builtin.zeroCells iX.cells (n+1 - i)).toList) (rest:=(Builtin.zeroCells iX.cells (G - (n+1))).toList) (by simp) (by rw[aE];exact .inr (.inr ⟨_,_,rfl,by rw[kS];omega⟩))
        (by rw[Array.size_append,Array.size_append,size_zeroCells,size_zeroCells,rC,List.size_toArray,A9,ca];omega) (by rw[kS];exact hGn) hGm (oK (v8 c5 _) (vZ rfl _)) (by omega)
        (by rw[List.flatten_append,nW _ _ c5,zj];exact(c7.take _).append (Au.replicate (aru fm) _))
        (by
         rw[List.flatten_append,nW _ _ c5]
         intro y hy
         rcases Ba.1 hy with hy|hy
         ·exact c8 y (BY hy)
         ·exact xP hzf _ y hy)
        (by simp)
       have mH:=hs0.drew.lay (l:=0) (k:=0) (c:=w.heap.size) (cap:=G) (et:=25) (esz:=8) (i:=i) (new:=[x].map Ab.c) (us:=us) (by rfl) (by rw[ek,if_pos ⟨rfl,rfl,by simp⟩]) (by omega) (by simp;omega) d5 d7 d8' rfl
       generalize yv:((s.map Ab.c).take i++List.replicate (n+1 - i) xf).take i++([x].map Ab.c++((s.map Ab.c).take i++List.replicate (n+1 - i) xf).drop (i+([x].map Ab.c).length))=lF at mH
       have gp:lF.length=n+1:=by
        rw[<-yv]
        simp only[A8,A9,Bi,Bg,CU,AA,Az,fT]
        omega
       have ot:=mH.drew.lay (l:=0) (k:=0) (c:=w.heap.size) (cap:=G) (et:=25) (esz:=8) (es:=lF) (i:=i+1) (new:=(s.map Ab.c).drop i) (us:=cs.drop (i*8)) (es':=(s.take i++([x]++s.drop i)).map Ab.c) (by rfl) (by rw[ek,if_pos ⟨rfl,rfl,by simp[cV]⟩]) (by omega) (by rw[hsn];omega) (zF c5 _) vF tu ?_
       ·refine⟨_,.loc 0 0 8 0 (n+1) (n+1),[(0,.arr 25 8 (List.map Ab.c (s.take i++([x]++s.drop i))))],fm,_,ts,rfl,⟨?_,rfl⟩,ot.less (by rfl) ?_,?_,AN.refl _ _,As.refl _,?_,?_⟩
        ·rw[yY]
        ·exact ahG
        ·exact .loc 0 0 8 0 (n+1) (n+1) w.heap.size G G _ (by show some (TB.arr (List.length (List.map Ab.c (s.take i++([x]++s.drop i)))) _)=_;rw[Bg,yY]) (by omega) (by omega) (by omega) (fun _=>rfl)
        ·exact fun _ _ h=>h
        ·intro k hk
         simp only[if_neg (show ¬ (k=0) by omega)]
         exact ht k hk
       ·have hd:lF.drop (i+1+((s.map Ab.c).drop i).length)=[]:=by rw[List.drop_eq_nil_iff,gp,hsn];omega
        have q:=aoj (L:=s.map Ab.c) (i:=i) (by rw[Bg,fT];exact Nat.le_of_lt hi) yv
        rw[hd,q,List.append_nil,Dg,Dg,List.map_take,List.map_drop,Cp]
        rfl
 ·cases h0
def En.s0:SC:=
 SQ [RG [wO 10 .lss 3 9 8 3 0],CN 10 .skip (.exit 0),.block 1 (SQ [RG [wI 11 44 7 9,wD 12 25 11 [11],wA 5 25,wS 25 5 12 [12]],RG [wF 13 25 5 0 [5],wF 14 23 13 0 [13],wD 15 3 14 [14],wI 16 95 3 15,wD 17 3 16 [16],wK 18 .add 3 17 1 3 3 [17],wI 19 95 3 15 [15],wS 3 19 18 [18,19]]]),RG [wK 20 .add 3 9 1 3 3 [9],wV 9 20 3 [20]]]
def En.c:SC:=
 SQ [RG [wE 1 46 0 [0],wA 2 95],RG [wA 3 95],SQ [RG [wF 6 46 1 0 [1],wD 7 44 6 [6],wL 8 7 44 3,oQ 9 (.move (.const (.int .i64 0))) 3],.block 0 (.loop En.s0)],RG [wD 21 95 3 [3],wS 95 2 21 [21]],.ret]
def gV.b0 (k:Nat) (b0:Ai):((Aa 6 Int)×Int)->Option (AT ((Aa 6 Int)×Int) ((Aa 6 Int)) ((Aa 6 Int))):=fun s=>match s with
 |(s1,i2)=>
   bif decide (i2<(b0.Al.length:Int)) then
    (at? b0.Al i2).bind fun x5=>
    (s1.at? x5.At.Ap).bind fun x6=>
    some (.next (s1.set x5.At.Ap (ab (x6+1)),ab (i2+1)))
   else
    some (.brk s1)
def gV.h0 (b0:Ai):((Aa 6 Int)×Int)->St:=fun s=>match s with
 |(s1,i2)=>⟨[(2,.ptr 0 0 0),(3,.ptr 0 1 0),(7,.sl 8 (List.map Ab.c b0.Al)),(8,.int .i64 (b0.Al.length:Int)),(9,.int .i64 i2)],[(0,.box (Aa.c (n:=6) eI (Aa.rep 6 (0:Int)))),(1,.box (Aa.c (n:=6) eI s1))],[],2,Try.f104.ntmps⟩
def gV.x0:(Aa 6 Int)->St:=fun s3=>⟨[(2,.ptr 0 0 0),(3,.ptr 0 1 0)],[(0,.box (Aa.c (n:=6) eI (Aa.rep 6 (0:Int)))),(1,.box (Aa.c (n:=6) eI s3))],[],2,Try.f104.ntmps⟩
def gV (k:Nat) (b0:Ai):Option ((Aa 6 Int)):=
 (aj (gV.b0 k b0) k ((Aa.rep 6 (0:Int)),0)).bind fun r8=>match r8 with
 |.next _=>none
 |.ret v_=>some v_
 |.brk s3=>
  some s3
theorem alo (k:Nat) (b0:Ai) (r:(Aa 6 Int)) (h0:gV k b0=some r):Aw Try.prog 104 [.agg (Ai.c b0)] (fun y=>y=.agg ((Aa.c (n:=6) eI) r)):=by
 refine PB Try.f104 En.c [.cell 2 95] ?_
 simp only[gV]at h0
 try simp only[En.c,go_sem]
 obtain⟨r8,qM,h0⟩:=bs h0
 refine Bf qM (gV.h0 b0) (gV.x0) ?_ ?_ ?_
 refine Ah.go [2,3,7,8,9] [16,32] rfl ?_
 try simp only[gV.h0,go_sem]
 rintro⟨s1,i2⟩ cO Bm Bn h1 aJ aH bK
 refine rS ?_
 simp only[gV.b0]at h1
 try simp only[En.s0,gV.h0,go_sem]
 refine AS h1 ?_ ?_<;>intro c4 h1<;>have F:=c4<;>try simp only[F,go_sem]
 obtain⟨x5,cw,h1⟩:=bs h1
 have F:=an (aC cw) (an (aD Ab.c cw) F)
 try simp only[F,go_sem]
 obtain⟨x6,dQ,h1⟩:=bs h1
 have qG:=Ao.bH ml (Ao.self akk s1) dQ
 have nH:=qG.2
 try simp only[AA,Az,go_sem]at nH
 have q7:=qG.1.ow (ab (x6+1))
 try simp only[AA,Az,go_sem]at q7
 have F:=an (aq dQ) (an nH F)
 try simp only[q7,F,go_sem]
 refine AB (aJ _ _ (oi h1).symm (Ah.go [2,3,7,8,9] [0,1] rfl ?_))
 try simp only[gV.h0,F,go_sem]
 refine AB (aH _ _ (oi h1).symm (Ah.go [2,3] [0,1] rfl ?_))
 try simp only[gV.x0,F,go_sem]
 rintro s3 aK
 subst aK
 simp only at h0
 refine rS ?_
 try simp only[gV.x0,go_sem]
 obtain rfl:=oi h0
 refine Ag rfl ?_
 try simp only[go_sem]
def Ho.c:SC:=
 SQ [RG [wE 2 46 0 [0],wE 3 25 1 [1],wA 4 46,wN 5 0 28 [5]],SQ [RG [wD 8 25 3,wU 9 92 8 25 4 [8],wQ 10 9 4 [9]],CN 10 (SQ [RG [oQ 11 (.build 46 #[]) 46,wS 46 4 11 [11],wN 5 90 28],.ret]) .skip],RG [wD 13 46 2,wF 14 25 3 0,wD 15 23 14 [14],wW 16 97 13 15 46 23 164 [13,15],wV 12 16 164 [16],wX 17 12 0 3,wX 18 12 1 4 [12],wG 6 17 3 [17],wG 7 18 4 [18]],.block 0 (SQ [.aO [wV 20 7 4,wV 21 20 4,
 gd 21 true (wF 22 46 2 0),gd 21 true (wD 23 44 22),gd 21 true (wV 24 6 3),gd 21 true (wI 25 44 23 24),gd 21 true (wD 26 25 25),gd 21 true (wD 27 25 3),gd 21 true (wO 28 .eql 25 26 27 25 4),wZ 29 21 28 4,wG 19 29 4] [[],[0],[0,1],[0,1,2],[0,1],[0,1,2,3,4],[0,1,2,3,4,5],[0,1],[0,1,2,3,4,5,6,7],[0,1,2,3,4,5,6,7,8],[0,1,2,3,4,5,6,7,8,9]] [20,21,22,23,24,25,26,27,28,29],CN 19 (SQ [RG [wD 30 46 2 [2],
 wU 31 96 30 46 46 [30],wS 46 4 31 [31],wN 5 0 28],.ret]) (SQ [RG [wV 33 7 4 [7],wG 32 33 4 [33]],CN 32 (SQ [RG [oQ 34 (.build 46 #[]) 46,wS 46 4 34 [34],wN 5 92 28],.ret]) (SQ [.aO [wF 36 25 3 0,wF 37 23 36 1,wD 38 3 37,wD 39 46 2,wU 40 104 39 46 95,wF 41 25 3 0,wF 42 23 41 0,wD 43 3 42,oQ 44 (.index 95 (.tmp 40) (.tmp 43)) 3,wO 45 .gtr 3 38 44 3 4,wG 35 45 4] [[],[0],[0,1],[],[3],[],[5],[5,6],
 [3,4,5,6,7],[0,1,2,3,4,5,6,7,8],[0,1,2,3,4,5,6,7,8,9]] [36,37,38,39,40,41,42,43,44,45],CN 35 (SQ [RG [oQ 46 (.build 46 #[]) 46,wS 46 4 46 [46],wN 5 93 28],.ret]) (SQ [RG [wF 48 46 2 0,wD 49 44 48 [48],wL 50 49 44 3 [49],wK 51 .eql 3 50 60 3 4 [50],wG 47 51 4 [51]],CN 47 (SQ [RG [oQ 52 (.build 46 #[]) 46,wS 46 4 52 [52],wN 5 2 28],.ret]) .skip])])])]),.aO [wF 53 46 2 0,wD 54 44 53,
 wU 55 119 54 44 44,wV 56 6 3,wD 57 25 3,oQ 58 (.buildSlice 44 1 #[(0,.tmp 57)]) 44,wC 59 98 #[.tmp 55,.tmp 56,.tmp 58] #[44,3,44] 44,oQ 60 (.build 46 #[(0,.tmp 59)]) 46,wS 46 4 60,wN 5 0 28] [[],[0],[0,1],[],[],[4],[0,1,2,3,4,5],[0,1,2,3,4,5,6],[0,1,2,3,4,5,6,7],[0,1,2,3,4,5,6,7,8]] [2,3,6,53,54,55,56,57,58,59,60],.ret]
def qQ (k:Nat) (b0:Ai) (r1:Ab):Option (Ai×Int):=
 (po k r1).bind fun x1=>
 bif (!x1) then
  some ((⟨[]⟩:Ai),90)
 else
  (xq k b0 r1.At).bind fun x3=>
  bif x3.2 then
   (at? b0.Al x3.1).bind fun x5=>
   bif (decide (x5.At.Ap=r1.At.Ap)&&(decide (x5.At.No=r1.At.No)&&(decide (x5.Kind=r1.Kind)&&(decide (x5.Day=r1.Day)&&(decide (x5.Bh=r1.Bh)&&(decide (x5.Of.Ap=r1.Of.Ap)&&(decide (x5.Of.No=r1.Of.No)&&(x5.Text.toList==r1.Text.toList)))))))) then
    (uH k b0).bind fun x7=>
    some (x7,0)
   else
    some ((⟨[]⟩:Ai),92)
  else
   (gV k b0).bind fun x8=>
   (x8.at? r1.At.Ap).bind fun x9=>
   bif decide (x9<r1.At.No) then
    some ((⟨[]⟩:Ai),93)
   else
    bif decide ((b0.Al.length:Int)=(60:Int)) then
     some ((⟨[]⟩:Ai),2)
    else
     (wy k b0.Al).bind fun cF=>
     (aac k cF x3.1 [r1]).bind fun cM=>
     some ((⟨cM⟩:Ai),0)
theorem acw (k:Nat) (b0:Ai) (r1:Ab) (r:Ai×Int) (h0:qQ k b0 r1=some r):Aw Try.prog 71 [.agg (Ai.c b0),.agg (Ab.c r1)] (fun y=>y=.ar [.agg (Ai.c r.1),.int .i64 r.2]):=by
 refine PB Try.f71 Ho.c [.cell 4 46,.tmp 5] ?_
 simp only[qQ]at h0
 try simp only[Ho.c,go_sem]
 refine au h0 (acz k _) ?_ (fun x1 h0=>?_)<;>try simp only[go_sem]
 refine Cr h0 ?_ ?_<;>intro c2 h0<;>have F:=c2<;>try simp only[F,go_sem]
 obtain rfl:=oi h0
 refine Ag rfl ?_
 try simp only[F,go_sem]
 refine au h0 (aln k _ _) ?_ (fun x3 h0=>?_)<;>try simp only[F,go_sem]
 refine AL Ax aS 1000 ?_
 try simp only[F,go_sem]
 refine DF F h0 ?_ ?_<;>intro F h0<;>try simp only[F,go_sem]
 obtain⟨x5,cw,h0⟩:=bs h0
 have F:=an (aC cw) (an (aD Ab.c cw) F)
 try simp only[F,go_sem]
 refine aF ?_
 try simp only[F,go_sem]
 refine AF F h0 ?_ ?_<;>intro F h0<;>try simp only[F,go_sem]
 refine au h0 (afw k _) ?_ (fun x7 h0=>?_)<;>try simp only[F,go_sem]
 obtain rfl:=oi h0
 refine Ag rfl ?_
 try simp only[F,go_sem]
 obtain rfl:=oi h0
 refine Ag rfl ?_
 try simp only[F,go_sem]
 refine aF ?_
 try simp only[F,go_sem]
 refine AL Ax aS 1000 ?_
 try simp only[F,go_sem]
 refine cn h0 (alo k _) ?_ (fun x8 h0=>?_)<;>try simp only[F,go_sem]
 obtain⟨x9,ft,h0⟩:=bs h0
 have oT:=(Ao.aeH ml ft).2
 try simp only[go_sem]at oT
 have F:=an (aq ft) (an oT F)
 try simp only[F,go_sem]
 refine aF ?_
 try simp only[F,go_sem]
 refine AF F h0 ?_ ?_<;>intro F h0<;>try simp only[F,go_sem]
 obtain rfl:=oi h0
 refine Ag rfl ?_
 try simp only[F,go_sem]
 refine AF F h0 ?_ ?_<;>intro F h0<;>try simp only[F,go_sem]
 obtain rfl:=oi h0
 refine Ag rfl ?_
 try simp only[F,go_sem]
 refine AL Ax aS 1000 ?_
 try simp only[F,go_sem]
 obtain⟨cF,qN,h0⟩:=bs h0
 refine D1 1000 [] [] (aiQ k _ _ qN) ?_ rfl ?_
 try simp only[fN,Bg,F,go_sem]
 try simp only[F,go_sem]
 obtain⟨cM,oX,h0⟩:=bs h0
 refine D1 1000 [] [752,800] (aqs k _ _ _ _ oX) ?_ rfl ?_
 try simp only[fN,Bg,F,go_sem]
 try simp only[F,go_sem]
 refine aF ?_
 try simp only[F,go_sem]
 obtain rfl:=oi h0
 refine Ag rfl ?_
 try simp only[F,go_sem]
end Go.Abs
namespace Go.Abs
open Go Go.Proofs Go.RowKit Go.Lib
def Fj.c:SC:=
 SQ [RG [oQ 4 (.assign (.const (.slice none 0 0))) 56 [4]],SQ [RG [wV 6 0 206,oQ 7 (.nilCheck (.tmp 6)) 0 [6],wF 8 208 7 0 [7],wD 9 56 8 [8],wL 10 9 56 3 [9],wV 11 1 3,wO 12 .lss 3 10 11 3 4 [10,11]],CN 12 (RG [oQ 13 (.build 204 #[]) 204,oQ 14 (.makeInterface 204 (.tmp 13)) 20 [13],⟨none,.panic (.tmp 14),0,none,[14]⟩]) .skip],RG [wV 15 0 206,oQ 16 (.nilCheck (.tmp 15)) 0 [15],wF 17 208 16 0 [16],
 wD 18 56 17 [17],wV 19 1 3,oQ 20 (.slice 56 (.tmp 18) none (some (.tmp 19)) none) 56 [18,19],wG 5 20 56 [20]],RG [wV 21 0 206,wV 22 0 206 [0],oQ 23 (.nilCheck (.tmp 22)) 0 [22],wF 24 208 23 0 [23],wD 25 56 24 [24],wV 26 1 3 [1],oQ 27 (.slice 56 (.tmp 25) (some (.tmp 26)) none none) 56 [25,26],oQ 28 (.nilCheck (.tmp 21)) 0 [21],wF 29 208 28 0 [28],wS 56 29 27 [27,29]],RG [wV 30 5 56 [5],
 wG 4 30 56 [30]],.ret]
theorem Fj.rs:Try.f132.results.toList=[.tmp 4]:=rfl
def DK.s0:SC:=
 SQ [RG [wO 13 .lss 3 12 11 3 0],CN 13 .skip (.exit 0),.block 1 (SQ [RG [wI 14 56 10 12,wD 15 5 14 [14],wG 7 15 5 [15]],RG [wV 16 5 3 [5],oQ 17 (.binOp .shl 3 (.tmp 16) (.const (.int .u64 8)) 211) 3 [16],wV 18 7 5 [7],wY 19 5 3 18 3 [18],wO 20 .or 3 17 19 3 3 [17,19],wG 5 20 3 [20]]]),RG [wK 21 .add 3 12 1 3 3 [12],wV 12 21 3 [21]]]
def DK.c:SC:=
 SQ [RG [wN 4 0 3 [4]],RG [wN 5 0 3],SQ [RG [wV 8 0 206 [0],wV 9 1 3 [1],wW 10 132 8 9 206 3 56 [8,9],wL 11 10 56 3,oQ 12 (.move (.const (.int .i64 0))) 3],.block 0 (.loop DK.s0)],RG [wV 22 5 3 [5],wG 4 22 3 [22]],.ret]
theorem DK.rs:Try.f131.results.toList=[.tmp 4]:=rfl
theorem ahk {f:Av}{H:Heap}{l k:Nat}{b:Option AH}:Heap.put (f::H) (l+1) k b=f::Heap.put H l k b:=by cases b<;>rfl
theorem dH {f:Av}{H:Heap}{l k:Nat}:Heap.get (f::H) (l+1) k=Heap.get H l k:=rfl
theorem hlen {H:Heap}{l k:Nat}{b:Option AH}:(Heap.put H l k b).length=H.length:=by simp
def sm (left:List Int) (n:Int):Option (List Int×List Int):=if (left.length:Int)<n then none else some (left.take n.toNat,left.drop n.toNat)
def wx:List PanicEntry:=[{ v:=.iface 204 (.agg #[]),recovered:=false }]
def fe (left:List Int):AH:=.box [.sl 1 (List.map af left)]
theorem aiX (left:List Int) (n:Int) (hn:0<=n) (H:Heap) (l k:Nat) (hg:Heap.get H l k=some (fe left)):Di Try.prog 132 [.ptr (l+1) k 0,.int .i64 n] H
  (fun v fr H'=>∃ r,sm left n=some r/\v=.sl 1 (List.map af r.1)/\fr=[]/\H'=Heap.put H l k (some (fe r.2)))
  (fun ch H'=>sm left n=none/\ch=wx/\H'=H):=by
 refine Di.gr Ax (fn:=Try.f132) (sc:=Fj.c) (by rfl) (by rfl) (by decide +kernel) (by rfl) (by decide +kernel) (Nat.le_of_ble_eq_true rfl) ?_ ?_ ?_
 ·refine rS ?_
  simp only[fe]at hg ⊢
  simp only[Fj.c,dH,hg,go_sem]
  refine H4 (fun hc=>?_) (fun hc=>?_)
  ·simp only[go_sem]
   refine H3 ?_
   intro fm ts u hu
   cases hu with
   |agg cs vs h1 h2 h3=>
    have:vs=#[]:=Array.eq_empty_of_size_eq_zero (by simpa using h1.symm)
    subst this
    exact⟨by unfold sm;rw[if_pos (by simpa using hc)],rfl,rfl⟩
  ·have ae:¬ (left.length:Int)<n:=by simpa using hc
   have h1:bY left 0 n=some (left.take n.toNat):=by unfold bY;rw[if_pos (by omega)];simp
   have h2:bY left n left.length=some (left.drop n.toNat):=by
    unfold bY;rw[if_pos (by omega)];simp only[Cl,oE]
    apply CB;simp
   have e1:=aeF af h1
   have e2:=wR af h2
   simp only[go_sem]at e1 e2
   simp only[aae h1,sf h2,e1,e2,dH,ahk,hg,Nat.add_one_ne_zero,go_sem]
   refine GB (.inl rfl) (y0:=.sl 1 (List.map af (left.take n.toNat))) ?_ ?_
   ·simp only[Fj.rs,bZ,Af,aae h1,sf h2,e1,e2,go_sem]
   ·exact⟨_,by unfold sm;rw[if_neg ae],rfl,rfl,by simp only[fe,aae h1,sf h2,e1,e2,go_sem]⟩
 ·rintro y fr H' ⟨r,_,_,_,rfl⟩;simp
 ·rintro ch H' ⟨_,_,rfl⟩;rfl
def aby (k:Nat) (l:List Int):(Int×Int)->Option (AT (Int×Int) Int Unit):=fun(s:Int×Int)=>match s with
 |(out,i)=>
  bif decide (i<(l.length:Int)) then
   (at? l i).bind fun x=>
   some (.next (fK .i64 (ab (out*2 ^ 8)) (ab x),ab (i+1)))
  else some (.brk out)
def jO (k:Nat) (left:List Int) (n:Int):Option (Option (Int×List Int)):=
 match sm left n with
 |none=>some none
 |some r=>(aj (aby k r.1) k (0,0)).bind fun q=>match q with
  |.brk out=>some (some (out,r.2))
  |_=>none
def abz (l:List Int) (H:Heap):(Int×Int)->St:=fun(s:Int×Int)=>match s with
 |(out,i)=>⟨[(5,.int .i64 out),(10,.sl 1 (List.map af l)),(11,.int .i64 (l.length:Int)),(12,.int .i64 i)],[],H,1,Try.f131.ntmps⟩
def aed (H:Heap):Int->St:=fun(out:Int)=>⟨[(5,.int .i64 out)],[],H,1,Try.f131.ntmps⟩
theorem rP (k0:Nat) (left:List Int) (n:Int) (r:Option (Int×List Int)) (h0:jO k0 left n=some r) (hn:0<=n) (H:Heap) (l k:Nat) (hg:Heap.get H l k=some (fe left)):Di Try.prog 131 [.ptr (l+1) k 0,.int .i64 n] H
  (fun v fr H'=>∃ x,r=some x/\v=.int .i64 x.1/\fr=[]/\H'=Heap.put H l k (some (fe x.2)))
  (fun ch H'=>r=none/\ch=wx/\H'=H):=by
 refine Di.gr Ax (fn:=Try.f131) (sc:=DK.c) (by rfl) (by rfl) (by decide +kernel) (by rfl) (by decide +kernel) (Nat.le_of_ble_eq_true rfl) ?_ ?_ ?_
 ·refine rS ?_
  simp only[DK.c,go_sem]
  refine C7 (aiX left n hn _ (l+1) k (by simpa only [dH] using hg)) ?_ ?_
  ·rintro y fr H' ⟨q,hq,rfl,rfl,rfl⟩
   refine rS ?_
   unfold jO at h0
   rw[hq]at h0
   simp only at h0
   obtain⟨r6,yr6,h0⟩:=bs h0
   simp only[ahk,go_sem]
   refine Bf yr6 (abz q.1 (Heap.put H l k (some (fe q.2)))) (aed (Heap.put H l k (some (fe q.2)))) ?_ ?_ ?_
   ·refine Ah.go [5,10,11,12] [] rfl ?_
    try simp only[abz,go_sem]
   ·rintro⟨i1,i2⟩ cO Bm Bn h1 aJ aH bK
    refine rS ?_
    simp only[aby]at h1
    try simp only[DK.s0,abz,go_sem]
    refine AS h1 (fun c4 h1=>?_) (fun c4 h1=>?_)
    ·try simp only[c4,(@id (min (Int.toNat 8) 64=8) rfl),go_sem]
     obtain⟨x5,cw,h1⟩:=bs h1
     try simp only[aC cw,aD af cw,c4,go_sem]
     refine AB (aJ _ _ (oi h1).symm ?_)
     refine Ah.go [5,10,11,12] [] rfl ?_
     try simp only[abz,c4,aC cw,aD af cw,go_sem]
    ·try simp only[c4,go_sem]
     refine AB (aH _ _ (oi h1).symm ?_)
     refine Ah.go [5] [] rfl ?_
     try simp only[aed,c4,go_sem]
   ·rintro out aK
    subst aK
    simp only at h0
    refine rS ?_
    try simp only[aed,go_sem]
    refine GB (.inl rfl) (y0:=.int .i64 out) ?_ ?_
    ·simp only[DK.rs,bZ,Af,go_sem]
    ·exact⟨_,(oi h0).symm,rfl,rfl,rfl⟩
  ·rintro ch H' ⟨hq,rfl,rfl⟩
   unfold jO at h0
   rw[hq]at h0
   exact⟨(oi h0).symm,rfl,rfl⟩
 ·rintro y fr H' ⟨r,_,_,_,rfl⟩;simp
 ·rintro ch H' ⟨_,_,rfl⟩;rfl
theorem al5 (px pl pi:Value) (w:World):
  CallsD Try.prog 130 #[px,pl,pi] .returning w fun e u' w'=>e=.returned (.tuple #[])/\u'=.returning/\w'=w:=by
 have yN:∀ w,(binOp .neq 20 .nilIface .nilIface).run Try.prog w=.ok (.bool false) w:=fun _=>by rfl
 have jI:Try.f130.ntmps=18:=by rfl
 refine callsD_of_wpS (fn:=Try.f130) (by rfl) (by rfl) fun af3 cs hu=>?_
 apply wpS_seq
 apply wpS_region
 simp[wpOpsS,go_sem,recoverD,hu,jI,Exit.thenS]
 apply wpS_seq
 apply wpS_region
 simp[wpOpsS,go_sem,yN,Exit.thenS]
 refine wpS_cond (t:=false) (by simp[Act.eval,Array.replicate]) ?_
 simp only[C3,if_false]
 refine wpS_of_wp (wp_skip ?_)
 cases af3
 simp_all [bodyPostS,results,(show Try.f130.results=#[] from rfl)]
def o9:List AV:=[.int .i64 0,.int .i64 0,.int .i64 0,.int .i64 0,.int .i64 0,.int .i64 0,.int .i64 0,.str ByteArray.empty]
def GY.r5:SC:=
 RG [oQ 17 (.build 25 #[]) 25,wS 25 0 17 [0,17],⟨none,.store 56 (.tmp 1) (.const (.slice none 0 0)),0,none,[1]⟩,⟨none,.store 4 (.tmp 2) (.const (.bool false)),0,none,[2]⟩]
theorem al4 {N0:Nat}{W0:World}{fm:FM}{ts:List Ak}{fr:Av}{low:Heap}{w:World} (hr:HR N0 W0 fm ts (fr::low) w) {px pl pi:Value}{kx kl ki:Nat}{c8:List AV}{cl ci:AV}
  (oo:VR fm ts (.ptr 0 kx 0) px) (hl:VR fm ts (.ptr 0 kl 0) pl) (hi:VR fm ts (.ptr 0 ki 0) pi) (gx:look fr kx=some (.box c8)) (h8:c8.length=8) (gl:look fr kl=some (.box [cl])) (gi:look fr ki=some (.box [ci])) (n1:kx≠kl) (n2:kx≠ki) (n3:kl≠ki):
  CallsD Try.prog 130 #[px,pl,pi] (.panicking wx) w fun e u' w'=>e=.returned (.tuple #[])/\u'=.panicking [{ v:=.iface 204 (.agg #[]),recovered:=true }]/\
   ∃ fm' ts' aU,HR N0 W0 fm' ts' (aU::low) w'/\AN N0 fm fm'/\As ts ts'/\(∀ l k,tb ts l k=none->tb ts' l k=none)/\look aU kx=some (.box o9)/\look aU kl=some (.box [.nil])/\look aU ki=some (.box [.bool false]):=by
 have yN:∀ w,(binOp .neq 20 (.iface 204 (.agg #[])) .nilIface).run Try.prog w=.ok (.bool true) w:=fun _=>by rfl
 have hta:∀ w,(Instr.typeAssert (.iface 204 (.agg #[])) 20 204 true).run Try.prog w=.ok (.tuple #[.agg #[],.bool true]) w:=fun _=>by rfl
 have jI:Try.f130.ntmps=18:=by rfl
 refine callsD_of_wpS (fn:=Try.f130) (by rfl) (by rfl) fun af3 cs hu=>?_
 apply wpS_seq
 apply wpS_region
 simp[wpOpsS,go_sem,recoverD,hu,jI,wx,Exit.thenS]
 apply wpS_seq
 apply wpS_region
 simp[wpOpsS,go_sem,yN,Exit.thenS]
 refine wpS_cond (t:=true) (by simp[Act.eval,Array.replicate]) ?_
 simp only[if_true]
 apply wpS_seq
 apply wpS_seq
 apply wpS_region
 simp[wpOpsS,go_sem,hta,Exit.thenS]
 apply wpS_seq
 apply wpS_region
 simp[wpOpsS,go_sem,Exit.thenS]
 refine wpS_cond (t:=false) (by simp[Act.eval,Array.replicate]) ?_
 simp only[C3,if_false]
 refine wpS_of_wp (wp_skip ?_)
 simp only[Exit.thenS]
 refine wpS_of_wp ?_
 refine(xe []).1 ?_
 have hd8:List.drop 8 c8=[]:=by simp[h8]
 have anw:(8<=c8.length)=True:=by simp[h8]
 have eU:HR N0 W0 fm ts (fr::low) (w.alloc (.cells #[] 204)):=hr.world (fun i hi=>heap_alloc_old w _ hi) ((Below.refl N0 w).alloc hr.size _)
 refine AK.last (N0:=N0) (W0:=W0) (Φ:=fun e ao=>e=.normal/\∃ aU,ao.low=aU::low/\look aU kx=some (.box o9)/\look aU kl=some (.box [.nil])/\look aU ki=some (.box [.bool false]))
  (st:=⟨[(0,.ptr 1 kx 0),(1,.ptr 1 kl 0),(2,.ptr 1 ki 0)],[],fr::low,0,18⟩) (n:=18) (s:=GY.r5) (fm:=fm) (ts:=cL::ts) ?_ ?_ (by rfl) (by rfl) ?_
 ·refine⟨eU.push,?_,fun _ _=>rfl,by simp,rfl,fun _ _ h=>by cases h⟩
  intro t x hx
  simp only[look]at hx
  split at hx
  ·subst_vars;obtain rfl:=oi hx;exact⟨px,by simp,oo.sh 1 (by simp)⟩
  ·split at hx
   ·subst_vars;obtain rfl:=oi hx;exact⟨pl,by simp,hl.sh 1 (by simp)⟩
   ·split at hx
    ·subst_vars;obtain rfl:=oi hx;exact⟨pi,by simp,hi.sh 1 (by simp)⟩
    ·cases hx
 ·refine rS ?_
  simp only[GY.r5,gx,gl,gi,rN,n1,n2,n3,n1.symm,n2.symm,n3.symm,hd8,anw,Cq,if_true,if_false,go_sem]
  exact⟨rfl,_,rfl,by simp[rN,n1,n2,n3,n1.symm,n2.symm,n3.symm,o9],by simp[rN,n1,n2,n3,n1.symm,n2.symm,n3.symm],by simp[rN]⟩
 ·rintro e ao a' w' fm' ts' ⟨rfl,aU,h1,h2,h3,h4⟩ hS hL
  cases ts' with
  |nil=>have:=hS.hr.len;simp at this
  |cons t1 rest=>
   have hp:=hS.hr.pop
   rw[h1]at hp
   exact⟨hS.dX.1,_,rfl,.tuple #[],by simp[results,(show Try.f130.results=#[] from rfl)],rfl,rfl,fm',rest,aU,hp,hL.cS,by simpa using hL.jT,by simpa using hL.no,h2,h3,h4⟩
def CP.c:SC:=
 SQ [RG [wA 2 25,wA 3 56,wA 4 4],RG [oQ 6 (.makeFunc (.func 130) #[] #[.tmp 2,.tmp 3,.tmp 4]) 1,⟨none,.defer ⟨.value (.tmp 6),#[],#[]⟩,0,none,[6]⟩],RG [wV 7 0 56 [0],oQ 8 (.build 208 #[(0,.tmp 7)]) 208 [7],oQ 9 (.box 208 (.tmp 8)) 206 [8],wG 5 9 206 [9]],RG [wV 10 5 206,wC 11 131 #[.tmp 10,.const (.int .i64 1)] #[206,3] 3 [10],wV 12 5 206,wC 13 131 #[.tmp 12,.const (.int .i64 2)] #[206,3] 3 [12],
 oQ 14 (.build 23 #[(0,.tmp 11),(1,.tmp 13)]) 23 [11,13],wF 15 25 2 0,wS 23 15 14 [14,15]],RG [wV 16 5 206,wC 17 131 #[.tmp 16,.const (.int .i64 1)] #[206,3] 3 [16],wF 18 25 2 1,wS 3 18 17 [17,18]],RG [wV 19 5 206,wC 20 131 #[.tmp 19,.const (.int .i64 4)] #[206,3] 3 [19],wF 21 25 2 2,wS 3 21 20 [20,21]],RG [wV 22 5 206,wC 23 131 #[.tmp 22,.const (.int .i64 4)] #[206,3] 3 [22],wF 24 25 2 3,
 wS 3 24 23 [23,24]],RG [wV 25 5 206,wC 26 131 #[.tmp 25,.const (.int .i64 1)] #[206,3] 3 [25],wV 27 5 206,wC 28 131 #[.tmp 27,.const (.int .i64 2)] #[206,3] 3 [27],oQ 29 (.build 23 #[(0,.tmp 26),(1,.tmp 28)]) 23 [26,28],wF 30 25 2 4,wS 23 30 29 [29,30]],RG [wV 31 5 206,wV 32 5 206,wC 33 131 #[.tmp 32,.const (.int .i64 1)] #[206,3] 3 [32],wW 34 132 31 33 206 3 56 [31,33],wY 35 56 9 34 9 [34],
 wF 36 25 2 5,wS 9 36 35 [35,36]],.aO [wD 37 25 2,wV 38 5 206,oQ 39 (.nilCheck (.tmp 38)) 0,wF 40 208 39 0,wD 41 56 40,wD 42 25 2,wU 43 92 42 25 4,wS 25 2 37,wS 56 3 41,wS 4 4 43] [[],[],[1],[1,2],[1,2,3],[],[5],[0,5,6],[1,2,3,4,0,5,6,7],[5,6,1,2,3,4,0,7,8]] [5,37,38,39,40,41,42,43],.ret]
theorem CP.rs:Try.f90.results.toList=[.cell 2 25,.cell 3 56,.cell 4 4]:=rfl
def SC.snd:SC->SC
 |.seq _ b=>b
 |x=>x
def SC.fst:SC->SC
 |.seq a _=>a
 |x=>x
def bc:Code->Code
 |.seq a _=>a
 |x=>x
def ah:Code->Code
 |.seq _ b=>b
 |x=>x
def CP.r0:SC:=
 CP.c.fst
def CP.rest:SC:=
 CP.c.snd.snd
def D0:Code:=Try.f90.body.getD .skip
def xB (k:Nat) (b:List Int):Option (Option (Ab×List Int)):=
 (jO k b 1).bind fun q0=>match q0 with
 |none=>some none
 |some (ho,l0)=>
  (jO k l0 2).bind fun q1=>match q1 with
  |none=>some none
  |some (no,l1)=>
   (jO k l1 1).bind fun q2=>match q2 with
   |none=>some none
   |some (ki,l2)=>
    (jO k l2 4).bind fun q3=>match q3 with
    |none=>some none
    |some (da,l3)=>
     (jO k l3 4).bind fun q4=>match q4 with
     |none=>some none
     |some (kn,l4)=>
      (jO k l4 1).bind fun q5=>match q5 with
      |none=>some none
      |some (oh,l5)=>
       (jO k l5 2).bind fun q6=>match q6 with
       |none=>some none
       |some (on_,l6)=>
        (jO k l6 1).bind fun q7=>match q7 with
        |none=>some none
        |some (m,l7)=>
         if 0<=m then match sm l7 m with
          |none=>some none
          |some (tx,l8)=>some (some (⟨⟨ho,no⟩,ki,da,kn,⟨oh,on_⟩,strOf tx⟩,l8))
         else none
def aaQ (k:Nat) (b:List Int):Option (Ab×List Int×Bool):=
 (xB k b).bind fun q=>match q with
 |none=>some (⟨⟨0,0⟩,0,0,0,⟨0,0⟩,ByteArray.empty⟩,[],false)
 |some (x,left)=>(po k x).bind fun is=>some (x,left,is)
def af4 (q:Option (Ab×List Int)) (is:Bool) (e:Exit) (st:St):Prop:=
 match q with
 |none=>e=.panic wx/\(look st.tm 2=some (.ptr 1 0 0)/\look st.tm 3=some (.ptr 1 16 0)/\look st.tm 4=some (.ptr 1 32 0))/\∃ fr c8 cl ci,st.low=[fr]/\look fr 0=some (.box c8)/\c8.length=8/\look fr 16=some (.box [cl])/\look fr 32=some (.box [ci])
 |some (x,left)=>e=.ret/\(∃ fr,st.low=[fr])/\gM T st [.cell 2 25,.cell 3 56,.cell 4 4]=some [.agg (Ab.c x),.sl 1 (List.map af left),.bool is]
def acQ:Av:=[(0,.box o9),(16,.box [.loc 0 17 1 0 0 0]),(17,.arr 5 1 []),(32,.box [.bool false])]
def acR (b:List Int):St:=⟨[(0,.sl 1 (List.map af b)),(2,.ptr 0 0 0),(3,.ptr 0 16 0),(4,.ptr 0 32 0)],acQ,[],48,Try.f90.ntmps⟩
def af5 (b:List Int):St:=⟨[(0,.sl 1 (List.map af b)),(2,.ptr 1 0 0),(3,.ptr 1 16 0),(4,.ptr 1 32 0)],[],[acQ],0,Try.f90.ntmps⟩
theorem ama [Md] (k:Nat) (b:List Int) (q:Option (Ab×List Int)) (h0:xB k b=some q) (is:Bool) (his:∀ x left,q=some (x,left)->po k x=some is):
  AK Try.prog Try.f90.ntmps (af4 q is) [.sc CP.rest] (af5 b):=by
 unfold af5 acQ o9
 refine rS ?_
 unfold xB at h0
 simp only[CP.rest,CP.c,SC.snd,go_sem]
 obtain⟨q0,yq0,h0⟩:=bs h0
 refine C7 (rP k b 1 q0 yq0 (by decide) _ 0 _ (by simp only[fe,go_sem])) ?_ ?_
 rotate_left
 ·rintro ch H ⟨rfl,rfl,rfl⟩
  obtain rfl:=oi h0
  exact⟨rfl,⟨rfl,rfl,rfl⟩,_,_,_,_,rfl,rfl,rfl,rfl,rfl⟩
 rintro y fr H ⟨⟨ho,l0⟩,rfl,rfl,rfl,rfl⟩
 refine rS ?_
 simp only at h0
 simp only[fe,go_sem]
 obtain⟨q1,yq1,h0⟩:=bs h0
 refine C7 (rP k l0 2 q1 yq1 (by decide) _ 0 _ (by simp only[fe,go_sem])) ?_ ?_
 rotate_left
 ·rintro ch H ⟨rfl,rfl,rfl⟩
  obtain rfl:=oi h0
  exact⟨rfl,⟨rfl,rfl,rfl⟩,_,_,_,_,rfl,rfl,rfl,rfl,rfl⟩
 rintro y fr H ⟨⟨no,l1⟩,rfl,rfl,rfl,rfl⟩
 refine rS ?_
 simp only at h0
 simp only[fe,go_sem]
 obtain⟨q2,yq2,h0⟩:=bs h0
 refine C7 (rP k l1 1 q2 yq2 (by decide) _ 0 _ (by simp only[fe,go_sem])) ?_ ?_
 rotate_left
 ·rintro ch H ⟨rfl,rfl,rfl⟩
  obtain rfl:=oi h0
  exact⟨rfl,⟨rfl,rfl,rfl⟩,_,_,_,_,rfl,rfl,rfl,rfl,rfl⟩
 rintro y fr H ⟨⟨ki,l2⟩,rfl,rfl,rfl,rfl⟩
 refine rS ?_
 simp only at h0
 simp only[fe,go_sem]
 obtain⟨q3,yq3,h0⟩:=bs h0
 refine C7 (rP k l2 4 q3 yq3 (by decide) _ 0 _ (by simp only[fe,go_sem])) ?_ ?_
 rotate_left
 ·rintro ch H ⟨rfl,rfl,rfl⟩
  obtain rfl:=oi h0
  exact⟨rfl,⟨rfl,rfl,rfl⟩,_,_,_,_,rfl,rfl,rfl,rfl,rfl⟩
 rintro y fr H ⟨⟨da,l3⟩,rfl,rfl,rfl,rfl⟩
 refine rS ?_
 simp only at h0
 simp only[fe,go_sem]
 obtain⟨q4,yq4,h0⟩:=bs h0
 refine C7 (rP k l3 4 q4 yq4 (by decide) _ 0 _ (by simp only[fe,go_sem])) ?_ ?_
 rotate_left
 ·rintro ch H ⟨rfl,rfl,rfl⟩
  obtain rfl:=oi h0
  exact⟨rfl,⟨rfl,rfl,rfl⟩,_,_,_,_,rfl,rfl,rfl,rfl,rfl⟩
 rintro y fr H ⟨⟨kn,l4⟩,rfl,rfl,rfl,rfl⟩
 refine rS ?_
 simp only at h0
 simp only[fe,go_sem]
 obtain⟨q5,yq5,h0⟩:=bs h0
 refine C7 (rP k l4 1 q5 yq5 (by decide) _ 0 _ (by simp only[fe,go_sem])) ?_ ?_
 rotate_left
 ·rintro ch H ⟨rfl,rfl,rfl⟩
  obtain rfl:=oi h0
  exact⟨rfl,⟨rfl,rfl,rfl⟩,_,_,_,_,rfl,rfl,rfl,rfl,rfl⟩
 rintro y fr H ⟨⟨oh,l5⟩,rfl,rfl,rfl,rfl⟩
 refine rS ?_
 simp only at h0
 simp only[fe,go_sem]
 obtain⟨q6,yq6,h0⟩:=bs h0
 refine C7 (rP k l5 2 q6 yq6 (by decide) _ 0 _ (by simp only[fe,go_sem])) ?_ ?_
 rotate_left
 ·rintro ch H ⟨rfl,rfl,rfl⟩
  obtain rfl:=oi h0
  exact⟨rfl,⟨rfl,rfl,rfl⟩,_,_,_,_,rfl,rfl,rfl,rfl,rfl⟩
 rintro y fr H ⟨⟨on_,l6⟩,rfl,rfl,rfl,rfl⟩
 refine rS ?_
 simp only at h0
 simp only[fe,go_sem]
 obtain⟨q7,yq7,h0⟩:=bs h0
 refine C7 (rP k l6 1 q7 yq7 (by decide) _ 0 _ (by simp only[fe,go_sem])) ?_ ?_
 rotate_left
 ·rintro ch H ⟨rfl,rfl,rfl⟩
  obtain rfl:=oi h0
  exact⟨rfl,⟨rfl,rfl,rfl⟩,_,_,_,_,rfl,rfl,rfl,rfl,rfl⟩
 rintro y fr H ⟨⟨m,l7⟩,rfl,rfl,rfl,rfl⟩
 refine rS ?_
 simp only at h0
 simp only[fe,go_sem]
 split at h0
 ·rename_i hm
  refine C7 (aiX l7 m hm _ 0 _ (by simp only[fe,go_sem])) ?_ ?_
  rotate_left
  ·rintro ch H ⟨hq,rfl,rfl⟩
   rw[hq]at h0
   obtain rfl:=oi h0
   exact⟨rfl,⟨rfl,rfl,rfl⟩,_,_,_,_,rfl,rfl,rfl,rfl,rfl⟩
  rintro y fr H ⟨⟨tx,l8⟩,hq,rfl,rfl,rfl⟩
  rw[hq]at h0
  obtain rfl:=oi h0
  refine rS ?_
  simp only[fe,acG,aiS,go_sem]
  refine AL Ax aS 1000 ?_
  simp only[go_sem]
  refine uW (acz k ⟨⟨ho,no⟩,ki,da,kn,⟨oh,on_⟩,strOf tx⟩ is (his _ _ rfl)) ?_ ?_
  ·try simp only[go_sem]
  try simp only[go_sem]
  refine aF ?_
  try simp only[go_sem]
  exact⟨rfl,⟨_,rfl⟩,by simp only[go_sem]⟩
 ·cases h0
theorem alh (k:Nat) (b:List Int) (r:Ab×List Int×Bool) (h0:aaQ k b=some r):Aw Try.prog 90 [.sl 1 (List.map af b)] (fun y=>y=.ar [.agg (Ab.c r.1),.sl 1 (List.map af r.2.1),.bool r.2.2]):=by
 obtain⟨q,hq,h0⟩:=bs h0
 obtain⟨is,his⟩:∃ is,∀ x left,q=some (x,left)->po k x=some is/\r=(x,left,is):=by
  cases q with
  |none=>exact⟨false,by rintro x left h;cases h⟩
  |some p=>
   obtain⟨x,left⟩:=p
   simp only at h0
   obtain⟨is,h1,h0⟩:=bs h0
   refine⟨is,fun x' arY h=>?_⟩
   simp only[oE,Prod.mk.injEq]at h
   obtain⟨rfl,rfl⟩:=h
   exact⟨h1,(oi h0).symm⟩
 have hrN:q=none->r=(⟨⟨0,0⟩,0,0,0,⟨0,0⟩,ByteArray.empty⟩,[],false):=by rintro rfl;exact(oi h0).symm
 refine Aw.nlr ⟨⟨Try.f90,by rfl,by rfl,by rfl⟩,fun fm w vs bB hv=>?_⟩
 have jI:Try.f90.ntmps=44:=by rfl
 refine calls_of_wp_defers (fn:=Try.f90) (c:=D0) (by rfl) (by rfl) ((xe []).1 ?_)
 have hS:=SR.enter (HR.nothing bB) (vs:=vs) (args:=[.sl 1 (List.map af b)]) (n:=Try.f90.ntmps) ⟨hv.1,fun i x v p q=>(hv.2 i x v p q).mono (AZ.refl _) (As.nil _)⟩ (by rw[jI];simp)
 have e90:D0=.seq (bc D0) (.seq (bc (ah D0)) (ah (ah D0))):=by rfl
 rw[e90]
 refine(show K Try.prog _ [.code (.seq _ _)] .normal _ w from ?_)
 refine C1 ?_
 refine AK.seg (Φ:=fun _ _=>False) (B:=fun st=>st=acR b) (s:=CP.r0) hS ?_ (by rfl) (by rfl) ?_ (fun _ _ _ _ _ _ h=>h.elim)
 ·refine rS ?_
  simp only[CP.r0,CP.c,SC.fst,go_sem]
  exact rfl
 ·rintro ao a1 w1 dR dL rfl dt jC
  refine C1 ?_
  obtain⟨px,oo,vx⟩:=dt.tm 2 (.ptr 0 0 0) rfl
  obtain⟨pl,vL,vl⟩:=dt.tm 3 (.ptr 0 16 0) rfl
  obtain⟨pi,fc,vi⟩:=dt.tm 4 (.ptr 0 32 0) rfl
  obtain⟨p0,p1,q0,q1,e1⟩:∃ p0 p1 q0 q1,bc (ah D0)=.region 1 #[⟨some 6,.makeFunc (.func 130) #[] #[.tmp 2,.tmp 3,.tmp 4],1,p0,q0,none⟩,⟨none,.defer ⟨.value (.tmp 6),#[],#[]⟩,0,p1,q1,none⟩] false:=⟨_,_,_,_,rfl⟩
  rw[e1]
  refine FF ?_
  change K Try.prog _ (BF.ops _ [0,1]::_) .normal a1 w1
  have anl:a1.eval (.tmp 2)=px:=by simp[Act.eval,Array.getD_eq_getD_getElem?,oo]
  have anm:a1.eval (.tmp 3)=pl:=by simp[Act.eval,Array.getD_eq_getD_getElem?,vL]
  have ann:a1.eval (.tmp 4)=pi:=by simp[Act.eval,Array.getD_eq_getD_getElem?,fc]
  refine Fp rfl rfl ?_
  refine zO (w':=w1) (v:=.func (.func 130) #[] #[px,pl,pi]) (fun c h=>by cases h) ?_ ?_
  ·simp[execOp,Instr.makeFunc,anl,anm,ann]
  have aw:6<a1.tmps.size:=by rw[dt.size,jI];decide
  refine Fp rfl rfl ?_
  refine ape (w':=w1) (d:={ target:=.fn (.func 130) #[px,pl,pi],args:=#[] }) ?_ rfl ?_
  ·have he6:(a1.put (some 6) (.func (.func 130) #[] #[px,pl,pi])).eval (.tmp 6)=.func (.func 130) #[] #[px,pl,pi]:=by
    simp[Act.eval,Act.put,Array.getD_eq_getD_getElem?,aw]
   simp[execOp,resolve,he6,Deferred.ofValue]
  refine Ik ?_
  have am2:@SR kY w.heap.size w Try.f90.ntmps (acR b) (a1.put (some 6) (.func (.func 130) #[] #[px,pl,pi])) w1 dR dL:=by
   refine⟨dt.hr,fun t x hx=>?_,dt.nx,by rw[zT];exact dt.size,by rw[wg];exact dt.dX⟩
   obtain⟨v,h1,h2⟩:=dt.tm t x hx
   have ht6:6≠t:=by rintro rfl;simp[acR,look]at hx
   exact⟨v,by simp only[Act.put];rw[Array.getElem?_setIfInBounds,if_neg ht6];exact h1,h2⟩
  have eK:=SR.deep (tm':=[(0,.sl 1 (List.map af b)),(2,.ptr 1 0 0),(3,.ptr 1 16 0),(4,.ptr 1 32 0)]) am2 (by
   intro t x hx
   simp only[look]at hx
   split at hx
   ·subst_vars;obtain rfl:=oi hx;exact⟨_,rfl,rfl⟩
   ·split at hx
    ·subst_vars;obtain rfl:=oi hx;exact⟨_,rfl,rfl⟩
    ·split at hx
     ·subst_vars;obtain rfl:=oi hx;exact⟨_,rfl,rfl⟩
     ·split at hx
      ·subst_vars;obtain rfl:=oi hx;exact⟨_,rfl,rfl⟩
      ·cases hx)
  have ig:=SR.uX kY ⟨none,[{ target:=.fn (.func 130) #[px,pl,pi],args:=#[] }],fun _=>none⟩ eK (a':=({ (a1.put (some 6) (.func (.func 130) #[] #[px,pl,pi])) with defers:={ target:=.fn (.func 130) #[px,pl,pi],args:=#[] }::(a1.put (some 6) (.func (.func 130) #[] #[px,pl,pi])).defers }.put none undef)) rfl (by
   have h1:=dt.dX.1
   have h2:(a1.put (some 6) (.func (.func 130) #[] #[px,pl,pi])).defers=[]:=by rw[wg];exact h1
   show _::_=_
   rw[h2]
   rfl)
  rw[FE kY ⟨none,[{ target:=.fn (.func 130) #[px,pl,pi],args:=#[] }],fun _=>none⟩ rfl]
  refine @AK.last ⟨none,[{ target:=.fn (.func 130) #[px,pl,pi],args:=#[] }],fun _=>none⟩ _ _ _ _ _ _ _ _ _ _ (af4 q is) _ CP.rest ig (@ama ⟨none,[{ target:=.fn (.func 130) #[px,pl,pi],args:=#[] }],fun _=>none⟩ k b q hq is (fun x left h=>(his x left h).1)) (by rfl) (by rfl) ?_
  intro e ao a' w' fm' ts' hE cJ hL
  obtain⟨s1,s2,s3,s4,s5⟩:=cJ
  have tu:a'.defers=[{ target:=.fn (.func 130) #[px,pl,pi],args:=#[] }]:=s5.1
  obtain⟨t1,rest,rfl⟩:∃ t1 rest,ts'=t1::rest:=by
   cases ts' with
   |nil=>have:=s1.len;simp at this
   |cons t1 rest=>exact⟨t1,rest,rfl⟩
  have ahj:=s1.pop
  have abi:As dL rest:=by simpa using hL.jT
  have bx:∀ l k,tb dL l k=none->tb rest l k=none:=by simpa using hL.no
  cases q with
  |none=>
   obtain⟨rfl,⟨g2,g3,g4⟩,fr,c8,cl,ci,jH,gx,h8,gl,gi⟩:=hE
   rw[jH]at ahj
   show Leaves Try.prog Try.f90 a'.tmps _ a'.defers (.panicking wx) w'
   rw[tu]
   have bo:∀ {x:AV}{v:Value},VR dR dL x v->VR fm' rest x v:=fun h=>h.mono hL.cS.le abi
   refine leaves_cons (f:=130) (args:=#[px,pl,pi]) (by simp) (by simp[invoke,callFunc];rfl) ?_
   refine(al4 ahj (bo vx) (bo vl) (bo vi) gx h8 gl gi (by decide) (by decide) (by decide)).mono ?_
   rintro e2 u' w2 ⟨rfl,rfl,dS,du,fr2,mG,hf2,qf,pV,e1,e2,e3⟩
   have hr0:=hrN rfl
   subst hr0
   have ptr:∀ {t k:Nat},look ao.tm t=some (.ptr 1 k 0)->∃ v,a'.tmps[t]?=some v/\VR dS du (.ptr 0 k 0) v:=by
    intro t k ht
    obtain⟨v,h1,h2⟩:=s2 t _ ht
    exact⟨v,h1,(h2.un 1 (y:=.ptr 0 k 0) rfl).mono hf2.le qf⟩
   have hSf:@SR kY w.heap.size w Try.f90.ntmps ⟨[(2,.ptr 0 0 0),(3,.ptr 0 16 0),(4,.ptr 0 32 0)],fr2,[],48,Try.f90.ntmps⟩ { a' with defers:=[] } w2 dS du:=by
    refine @SR.mk kY _ _ _ _ _ _ _ _ mG ?_ (fun k hk=>pV 0 k (bx 0 k (dt.nx k hk))) s4 ⟨rfl,fun _ _ h=>by cases h⟩
    intro t x hx
    simp only[look]at hx
    split at hx
    ·subst_vars;obtain rfl:=oi hx;exact ptr g2
    ·split at hx
     ·subst_vars;obtain rfl:=oi hx;exact ptr g3
     ·split at hx
      ·subst_vars;obtain rfl:=oi hx;exact ptr g4
      ·cases hx
   obtain⟨v,h1,h2⟩:=rY (P:=Try.prog) (fn:=Try.f90) (xs:=[.agg o9,.nil,.bool false]) Ax hSf (by
    rw[CP.rs]
    simp only[o9]at e1
    simp only[o9,e1,e2,e3,go_sem])
   refine⟨v,h1,v,.ar [.agg o9,.nil,.bool false],dS,rfl,?_,⟨mG.bO,mG.dZ⟩,?_,?_,mG.dg⟩
   ·exact NL.um (A1.cons (NL.refl _) (A1.cons (NL.nil _) (A1.cons (NL.refl _) A1.nil)))
   ·have:=h2.un du.length (y:=.ar [.agg o9,.nil,.bool false]) rfl
    rwa [List.drop_length]at this
   ·exact(jC.cS.trans hL.cS).trans hf2
  |some p=>
   obtain⟨x,left⟩:=p
   obtain⟨rfl,⟨fr,jH⟩,adI⟩:=hE
   show Leaves Try.prog Try.f90 a'.tmps _ a'.defers .returning w'
   rw[tu]
   refine leaves_cons (f:=130) (args:=#[px,pl,pi]) (by simp) (by simp[invoke,callFunc];rfl) ?_
   refine(al5 px pl pi w').mono ?_
   rintro e2 u' w2 ⟨rfl,rfl,rfl⟩
   obtain⟨arM,rfl⟩:=his x left rfl
   have hSf:@SR kY w.heap.size w Try.f90.ntmps ao { a' with defers:=[] } w2 fm' (t1::rest):=@SR.mk kY _ _ _ _ _ _ _ _ s1 s2 s3 s4 ⟨rfl,fun _ _ h=>by cases h⟩
   obtain⟨v,h1,h2⟩:=rY (P:=Try.prog) (fn:=Try.f90) (xs:=[.agg (Ab.c x),.sl 1 (List.map af left),.bool is]) Ax hSf (by rw[CP.rs];exact adI)
   refine⟨v,h1,v,.ar [.agg (Ab.c x),.sl 1 (List.map af left),.bool is],fm',rfl,.refl _,⟨s1.bO,s1.dZ⟩,?_,?_,s1.dg⟩
   ·have:=h2.un (t1::rest).length (y:=.ar [.agg (Ab.c x),.sl 1 (List.map af left),.bool is]) (by simp only[bZ,AV.un,AV.fZ,(ajm.rD x).un,A5])
    rwa [List.drop_length]at this
   ·exact jC.cS.trans hL.cS
def GU.c:SC:=
 SQ [RG [wA 6 126],RG [wV 7 0 130 [0],oQ 8 (.nilCheck (.tmp 7)) 0 [7],wF 9 134 8 0 [8],wF 10 42 9 0 [9],wD 11 39 10 [10],wV 12 1 3 [1],wK 13 .mul 3 12 301 3 3 [12],wV 14 2 3,wK 15 .quo 3 14 2 3 3 [14],wO 16 .add 3 13 15 3 3 [13,15],wV 17 2 3 [2],wK 18 .rem 3 17 2 3 3 [17],wI 19 39 11 16 [11,16],wI 20 139 19 18 [18,19],wD 21 122 20 [20],wS 126 6 21 [21]],.ret]
def m4 (k:Nat) (d0:az) (aT:Int) (i2:Int):Option ((Aa 32 Int)):=
 (at? d0.Ac.Ae (ab ((ab (aT*301))+(ab (Int.tdiv i2 2))))).bind fun x1=>
 (x1.at? (Int.tmod i2 2)).bind fun x2=>
 some x2
theorem uI (k:Nat) (d0:az) (aT:Int) (i2:Int) (r:(Aa 32 Int)) (h0:m4 k d0 aT i2=some r):Aw Try.prog 125 [.aA 2 [az.c d0] 0 0,.int .i64 aT,.int .i64 i2] (fun y=>y=.agg ((Aa.c (n:=32) af) r)):=by
 refine PB Try.f125 GU.c [.cell 6 126] ?_
 simp only[m4]at h0
 try simp only[GU.c,go_sem]
 obtain⟨x1,iW,h0⟩:=bs h0
 have F:=an (aC iW) (aD (Aa.c (n:=2) (Aa.c (n:=32) af)) iW)
 try simp only[F,go_sem]
 obtain⟨x2,eo,h0⟩:=bs h0
 have uq:=Ao.bH gA (Ao.self fv x1) eo
 have nG:=uq.2
 try simp only[AA,Az,go_sem]at nG
 have F:=an (aq eo) (an nG F)
 try simp only[F,go_sem]
 obtain rfl:=oi h0
 refine Ag rfl ?_
 try simp only[F,go_sem]
def GV.c:SC:=
 SQ [RG [wE 1 126 0 [0],wN 2 0 3 [2]],RG [wJ 4 126 1 1,wD 5 5 4 [4],wY 6 5 3 5 3 [5],oQ 7 (.binOp .shl 3 (.tmp 6) (.const (.int .u64 16)) 211) 3 [6],wJ 8 126 1 2,wD 9 5 8 [8],wY 10 5 3 9 3 [9],oQ 11 (.binOp .shl 3 (.tmp 10) (.const (.int .u64 8)) 211) 3 [10],wO 12 .or 3 7 11 3 3 [7,11],wJ 13 126 1 3,wD 14 5 13 [13],wY 15 5 3 14 3 [14],wO 16 .or 3 12 15 3 3 [12,15],wG 3 16 3 [16]],
 SQ [RG [wJ 17 126 1 0,wD 18 5 17 [17],oQ 19 (.binOp .neq 5 (.tmp 18) (.const (.int .u8 104)) 5) 4 [18],wV 20 19 4 [19],gd 20 true (wJ 21 126 1 0),gd 20 true (wD 22 5 21 [21]),gd 20 true (oQ 23 (.binOp .neq 5 (.tmp 22) (.const (.int .u8 112)) 5) 4 [22]),wZ 24 20 23 4 [20,23],wV 25 24 4 [24],gd 25 false (wJ 26 126 1 31 [1]),gd 25 false (wD 27 5 26 [26]),
 gd 25 false (oQ 28 (.binOp .neq 5 (.tmp 27) (.const (.int .u8 165)) 5) 4 [27]),wT 29 25 28 4 [25,28],wV 30 29 4 [29],gd 30 false (wV 31 3 3),gd 30 false (wK 32 .gtr 3 31 1000000 3 4 [31]),wT 33 30 32 4 [30,32]],CN 33 (SQ [RG [wN 2 0 3],.ret]) .skip],RG [wV 34 3 3 [3],wG 2 34 3 [34]],.ret]
def pn (k:Nat) (dB:(Aa 32 Int)):Option (Int):=
 (dB.at? 1).bind fun x1=>
 (dB.at? 2).bind fun x2=>
 (dB.at? 3).bind fun x3=>
 (dB.at? 0).bind fun x4=>
 bif (!decide (x4=(104:Int))) then
  bif decide (x4=(112:Int)) then
   (dB.at? 31).bind fun x7=>
   bif decide (x7=(165:Int)) then
    bif decide ((1000000:Int)<fK .i64 (fK .i64 (ab ((ab x1)*2 ^ 16)) (ab ((ab x2)*2 ^ 8))) (ab x3)) then
     some 0
    else
     some (fK .i64 (fK .i64 (ab ((ab x1)*2 ^ 16)) (ab ((ab x2)*2 ^ 8))) (ab x3))
   else
    some 0
  else
   some 0
 else
  (dB.at? 31).bind fun cE=>
  bif decide (cE=(165:Int)) then
   bif decide ((1000000:Int)<fK .i64 (fK .i64 (ab ((ab x1)*2 ^ 16)) (ab ((ab x2)*2 ^ 8))) (ab x3)) then
    some 0
   else
    some (fK .i64 (fK .i64 (ab ((ab x1)*2 ^ 16)) (ab ((ab x2)*2 ^ 8))) (ab x3))
  else
   some 0
theorem aaR (k:Nat) (dB:(Aa 32 Int)) (r:Int) (h0:pn k dB=some r):Aw Try.prog 126 [.agg ((Aa.c (n:=32) af) dB)] (fun y=>y=.int .i64 r):=by
 refine PB Try.f126 GV.c [.tmp 2] ?_
 simp only[pn]at h0
 try simp only[GV.c,go_sem]
 obtain⟨x1,iW,h0⟩:=bs h0
 have xc:=Ao.bH fu (Ao.self ga dB) iW
 have sv:=xc.2
 try simp only[AA,Az,go_sem]at sv
 have F:=an (aq iW) sv
 try simp only[(@id (min (Int.toNat 16) 64=16) rfl),F,go_sem]
 obtain⟨x2,eo,h0⟩:=bs h0
 have uq:=Ao.bH fu (Ao.self ga dB) eo
 have nG:=uq.2
 try simp only[AA,Az,go_sem]at nG
 have F:=an (aq eo) (an nG F)
 try simp only[(@id (min (Int.toNat 8) 64=8) rfl),F,go_sem]
 obtain⟨x3,cP,h0⟩:=bs h0
 have uu:=Ao.bH fu (Ao.self ga dB) cP
 have aan:=uu.2
 try simp only[AA,Az,go_sem]at aan
 have F:=an (aq cP) (an aan F)
 try simp only[F,go_sem]
 obtain⟨x4,bN,h0⟩:=bs h0
 have iC:=Ao.bH fu (Ao.self ga dB) bN
 have jw:=iC.2
 try simp only[AA,Az,go_sem]at jw
 have F:=an (aq bN) (an jw F)
 try simp only[F,go_sem]
 refine Bt F h0 ?_ ?_<;>intro F h0<;>try simp only[F,go_sem]
 refine AF F h0 ?_ ?_<;>intro F h0<;>try simp only[F,go_sem]
 obtain⟨x7,e9,h0⟩:=bs h0
 have qH:=Ao.bH fu (Ao.self ga dB) e9
 have nI:=qH.2
 try simp only[AA,Az,go_sem]at nI
 have F:=an (aq e9) (an nI F)
 try simp only[F,go_sem]
 refine AF F h0 ?_ ?_<;>intro F h0<;>try simp only[F,go_sem]
 refine AF F h0 ?_ ?_<;>intro F h0<;>try simp only[F,go_sem]
 obtain rfl:=oi h0
 refine Ag rfl ?_
 try simp only[F,go_sem]
 obtain rfl:=oi h0
 refine Ag rfl ?_
 try simp only[F,go_sem]
 obtain rfl:=oi h0
 refine Ag rfl ?_
 try simp only[F,go_sem]
 obtain rfl:=oi h0
 refine Ag rfl ?_
 try simp only[F,go_sem]
 obtain⟨cE,mW,h0⟩:=bs h0
 have aqK:=Ao.bH fu (Ao.self ga dB) mW
 have ajv:=aqK.2
 try simp only[AA,Az,go_sem]at ajv
 have F:=an (aq mW) (an ajv F)
 try simp only[F,go_sem]
 refine AF F h0 ?_ ?_<;>intro F h0<;>try simp only[F,go_sem]
 refine AF F h0 ?_ ?_<;>intro F h0<;>try simp only[F,go_sem]
 obtain rfl:=oi h0
 refine Ag rfl ?_
 try simp only[F,go_sem]
 obtain rfl:=oi h0
 refine Ag rfl ?_
 try simp only[F,go_sem]
 obtain rfl:=oi h0
 refine Ag rfl ?_
 try simp only[F,go_sem]
def Ds.s1:SC:=
 SQ [RG [wO 76 .lss 3 75 74 3 0],CN 76 .skip (.exit 2),.block 3 (SQ [RG [wV 77 75 3,wI 78 124 73 75,wD 79 126 78 [78],wA 19 126,wG 18 77 3 [77],wS 126 19 79 [79]],.aO [wV 80 0 130,wV 81 1 3,wV 82 2 3,wV 83 18 3,wO 84 .add 3 82 83 3 3,wC 85 125 #[.tmp 80,.tmp 81,.tmp 84] #[130,3,3] 126,wD 86 126 19,wO 87 .neq 126 85 86 126 4] [[],[],[],[],[2,3],[0,1,2,3,4],[],[0,1,2,3,4,5,6]] [18,19,80,81,82,83,
 84,85,86],CN 87 (SQ [RG [oQ 88 (.build 25 #[]) 25,wS 25 8 88 [88],wN 9 0 3,wN 10 0 3],.ret]) .skip]),RG [wK 89 .add 3 75 1 3 3 [75],wV 75 89 3 [89]]]
def Ds.s0:SC:=
 SQ [RG [wO 43 .lss 3 42 41 3 4],CN 43 .skip (.exit 0),.block 1 (SQ [RG [wV 44 42 3,wG 13 44 3 [44]],RG [wV 45 0 130,wV 46 1 3,wV 47 2 3,wV 48 13 3 [13],wO 49 .add 3 47 48 3 3 [47,48],wC 50 125 #[.tmp 45,.tmp 46,.tmp 49] #[130,3,3] 126 [45,46,49],wA 14 126,wS 126 14 50 [50]],RG [wV 51 12 56 [12],oQ 52 (.slice 126 (.tmp 14) (some (.const (.int .i64 8))) (some (.const (.int .i64 31))) none) 56 [14],
 wP 53 51 52 56 56 56 [51,52],wG 12 53 56 [53]]]),RG [wK 54 .add 3 42 1 3 3 [42],wV 42 54 3 [54]]]
def Ds.c:SC:=
 SQ [RG [wA 8 25,wN 9 0 3 [9],wN 10 0 3 [10]],SQ [RG [wV 20 2 3,wK 21 .geq 3 20 602 3 4 [20]],CN 21 (SQ [RG [oQ 22 (.build 25 #[]) 25,wS 25 8 22 [22],wN 9 0 3,wN 10 0 3],.ret]) .skip],RG [wV 23 0 130,wV 24 1 3,wV 25 2 3,wC 26 125 #[.tmp 23,.tmp 24,.tmp 25] #[130,3,3] 126 [23,24,25],wA 11 126,wS 126 11 26 [26]],.aO [wD 27 126 11,wU 28 126 27 126 3,wJ 29 126 11 7,wD 30 5 29,wY 31 5 3 30 3,
 wG 9 28 3,wG 10 31 3] [[],[0],[],[2],[2,3],[0,1],[2,3,4,0,1,5]] [11,27,28,29,30,31],SQ [RG [wV 32 9 3,wK 33 .eql 3 32 0 3 4 [32],wV 34 33 4 [33],gd 34 false (wV 35 2 3),gd 34 false (wV 36 10 3),gd 34 false (wO 37 .add 3 35 36 3 3 [35,36]),gd 34 false (wK 38 .gtr 3 37 602 3 4 [37]),wT 39 34 38 4 [34,38]],CN 39 (SQ [RG [oQ 40 (.build 25 #[]) 25,wS 25 8 40 [40],wN 9 0 3,wN 10 0 3],.ret]) .skip],
 RG [oQ 12 (.assign (.const (.slice none 0 0))) 56],SQ [RG [wV 41 10 3,oQ 42 (.move (.const (.int .i64 0))) 3],.block 0 (.loop Ds.s0)],RG [wV 56 12 56 [12],wU 57 90 56 56 156 [56],wV 55 57 156 [57],wX 58 55 0 25,wX 59 55 1 56,wX 60 55 2 4 [55],wS 25 8 58 [58],wG 15 59 56 [15,59],wG 16 60 4 [60]],SQ [RG [wV 61 16 4 [16],wQ 62 61 4 [61]],CN 62 (SQ [RG [oQ 63 (.build 25 #[]) 25,wS 25 8 63 [63],
 wN 9 0 3,wN 10 0 3],.ret]) .skip],RG [wD 64 25 8,wV 65 3 3 [3],wV 66 9 3,wC 67 66 #[.tmp 64,.tmp 65,.tmp 66] #[25,3,3] 124 [64,65,66],wG 17 67 124 [67]],SQ [RG [wV 68 17 124,wL 69 68 124 3 [68],wV 70 10 3,wO 71 .neq 3 69 70 3 4 [69,70]],CN 71 (SQ [RG [oQ 72 (.build 25 #[]) 25,wS 25 8 72 [72],wN 9 0 3,wN 10 0 3],.ret]) .skip],SQ [RG [wV 73 17 124 [17],wL 74 73 124 3,
 oQ 75 (.move (.const (.int .i64 0))) 3],.block 2 (.loop Ds.s1)],RG [wD 90 25 8,wV 91 9 3 [9],wV 92 10 3 [10],wS 25 8 90 [90],wG 9 91 3 [91],wG 10 92 3 [92]],.ret]
def dp.b0 (k:Nat) (d0:az) (aT:Int) (aX:Int) (x4:Int):(Int×(List Int))->Option (AT (Int×(List Int)) ((List Int)) (Ab×Int×Int)):=fun s=>match s with
 |(i7,l8)=>
   bif decide (i7<ab x4) then
    (m4 k d0 aT (ab (aX+i7))).bind fun df=>
    (dM 1 l8 ((df.l.drop 8).take 23)).bind fun fF=>
    some (.next (ab (i7+1),fF))
   else
    some (.brk l8)
def dp.b1 (k:Nat) (d0:az) (aT:Int) (aX:Int) (dx:(List (Aa 32 Int))):Int->Option (AT (Int) (Unit) (Ab×Int×Int)):=fun i18=>
 bif decide (i18<(dx.length:Int)) then
  (at? dx i18).bind fun fh=>
  (m4 k d0 aT (ab (aX+i18))).bind fun nK=>
  bif (!(Aa.eq (fun(x y:Int)=>decide (x=y)) nK fh)) then
   some (.ret ((⟨(⟨0,0⟩:Entry),0,0,0,(⟨0,0⟩:Entry),ByteArray.empty⟩:Ab),0,0))
  else
   some (.next (ab (i18+1)))
 else
  some (.brk ())
def dp.h0 (d0:az) (aT:Int) (aX:Int) (oI:Int) (x3:Int) (x4:Int):(Int×(List Int))->St:=fun s=>match s with
 |(i7,l8)=>⟨[(0,.aA 2 [az.c d0] 0 0),(1,.int .i64 aT),(2,.int .i64 aX),(3,.int .i64 oI),(8,.ptr 0 0 0),(9,.int .i64 x3),(10,.int .i64 (ab x4)),(12,.loc 0 1 1 0 l8.length l8.length),(41,.int .i64 (ab x4)),(42,.int .i64 i7)],[(0,.box ([.int .i64 0,.int .i64 0,.int .i64 0,.int .i64 0,.int .i64 0,.int .i64 0,.int .i64 0,.str ByteArray.empty])),(1,.arr 5 1 (List.map af l8))],[],2,Try.f154.ntmps⟩
def dp.x0 (d0:az) (aT:Int) (aX:Int) (oI:Int) (x3:Int) (x4:Int):(List Int)->St:=fun l9=>⟨[(0,.aA 2 [az.c d0] 0 0),(1,.int .i64 aT),(2,.int .i64 aX),(3,.int .i64 oI),(8,.ptr 0 0 0),(9,.int .i64 x3),(10,.int .i64 (ab x4)),(12,.loc 0 1 1 0 l9.length l9.length)],[(0,.box ([.int .i64 0,.int .i64 0,.int .i64 0,.int .i64 0,.int .i64 0,.int .i64 0,.int .i64 0,.str ByteArray.empty])),(1,.arr 5 1 (List.map af l9))],[],2,Try.f154.ntmps⟩
def dp.h1 (d0:az) (aT:Int) (aX:Int) (x3:Int) (x4:Int) (bM:Ab×(List Int)×Bool) (dx:(List (Aa 32 Int))):Int->St:=fun i18=>⟨[(0,.aA 2 [az.c d0] 0 0),(1,.int .i64 aT),(2,.int .i64 aX),(8,.ptr 0 0 0),(9,.int .i64 x3),(10,.int .i64 (ab x4)),(73,.sl 32 (List.map (Aa.c (n:=32) af) dx)),(74,.int .i64 (dx.length:Int)),(75,.int .i64 i18)],[(0,.box ([.int .i64 bM.1.At.Ap,.int .i64 bM.1.At.No,.int .i64 bM.1.Kind,.int .i64 bM.1.Day,.int .i64 bM.1.Bh,.int .i64 bM.1.Of.Ap,.int .i64 bM.1.Of.No,.str bM.1.Text]))],[],1,Try.f154.ntmps⟩
def dp.x1 (x3:Int) (x4:Int) (bM:Ab×(List Int)×Bool):Unit->St:=fun _=>⟨[(8,.ptr 0 0 0),(9,.int .i64 x3),(10,.int .i64 (ab x4))],[(0,.box ([.int .i64 bM.1.At.Ap,.int .i64 bM.1.At.No,.int .i64 bM.1.Kind,.int .i64 bM.1.Day,.int .i64 bM.1.Bh,.int .i64 bM.1.Of.Ap,.int .i64 bM.1.Of.No,.str bM.1.Text]))],[],1,Try.f154.ntmps⟩
def dp (k:Nat) (d0:az) (aT:Int) (aX:Int) (oI:Int):Option (Ab×Int×Int):=
 bif decide ((602:Int)<=aX) then
  some ((⟨(⟨0,0⟩:Entry),0,0,0,(⟨0,0⟩:Entry),ByteArray.empty⟩:Ab),0,0)
 else
  (m4 k d0 aT aX).bind fun x2=>
  (pn k x2).bind fun x3=>
  (x2.at? 7).bind fun x4=>
  bif (!decide (x3=(0:Int))) then
   bif decide ((602:Int)<ab (aX+(ab x4))) then
    some ((⟨(⟨0,0⟩:Entry),0,0,0,(⟨0,0⟩:Entry),ByteArray.empty⟩:Ab),0,0)
   else
    (aj (dp.b0 k d0 aT aX x4) k (0,[])).bind fun r13=>match r13 with
    |.next _=>none
    |.ret v_=>some v_
    |.brk l9=>
     (aaQ k l9).bind fun bM=>
     bif (!bM.2.2) then
      some ((⟨(⟨0,0⟩:Entry),0,0,0,(⟨0,0⟩:Entry),ByteArray.empty⟩:Ab),0,0)
     else
      (gg k bM.1 oI x3).bind fun dx=>
      bif (!decide ((dx.length:Int)=ab x4)) then
       some ((⟨(⟨0,0⟩:Entry),0,0,0,(⟨0,0⟩:Entry),ByteArray.empty⟩:Ab),0,0)
      else
       (aj (dp.b1 k d0 aT aX dx) k 0).bind fun z6=>match z6 with
       |.next _=>none
       |.ret v_=>some v_
       |.brk _=>
        some (bM.1,x3,ab x4)
  else
   some ((⟨(⟨0,0⟩:Entry),0,0,0,(⟨0,0⟩:Entry),ByteArray.empty⟩:Ab),0,0)
theorem alj (k:Nat) (d0:az) (aT:Int) (aX:Int) (oI:Int) (r:Ab×Int×Int) (h0:dp k d0 aT aX oI=some r):Aw Try.prog 154 [.aA 2 [az.c d0] 0 0,.int .i64 aT,.int .i64 aX,.int .i64 oI] (fun y=>y=.ar [.agg (Ab.c r.1),.int .i64 r.2.1,.int .i64 r.2.2]):=by
 refine PB Try.f154 Ds.c [.cell 8 25,.tmp 9,.tmp 10] ?_
 simp only[dp]at h0
 try simp only[Ds.c,go_sem]
 refine AS h0 ?_ ?_<;>intro c1 h0<;>have F:=c1<;>try simp only[F,go_sem]
 obtain rfl:=oi h0
 refine Ag rfl ?_
 try simp only[F,go_sem]
 refine au h0 (uI k _ _ _) ?_ (fun x2 h0=>?_)<;>try simp only[F,go_sem]
 refine AL Ax aS 1000 ?_
 try simp only[F,go_sem]
 refine cn h0 (aaR k _) ?_ (fun x3 h0=>?_)<;>try simp only[F,go_sem]
 obtain⟨x4,bN,h0⟩:=bs h0
 have iC:=Ao.bH fu (Ao.self ga x2) bN
 have jw:=iC.2
 try simp only[AA,Az,go_sem]at jw
 have F:=an (aq bN) (an jw F)
 try simp only[F,go_sem]
 refine aF ?_
 try simp only[F,go_sem]
 refine Bt F h0 ?_ ?_<;>intro F h0<;>try simp only[F,go_sem]
 refine AF F h0 ?_ ?_<;>intro F h0<;>try simp only[F,go_sem]
 obtain rfl:=oi h0
 refine Ag rfl ?_
 try simp only[F,go_sem]
 obtain⟨r13,ard,h0⟩:=bs h0
 refine Bf ard (dp.h0 d0 aT aX oI x3 x4) (dp.x0 d0 aT aX oI x3 x4) ?_ ?_ ?_
 refine Ah.go [0,1,2,3,8,9,10,12,41,42] [0,416] rfl ?_
 try simp only[dp.h0,F,go_sem]
 rintro⟨i7,l8⟩ cO Bm Bn h1 aJ aH bK
 refine rS ?_
 simp only[dp.b0]at h1
 try simp only[Ds.s0,dp.h0,F,go_sem]
 refine AF F h1 ?_ ?_<;>intro F h1<;>try simp only[F,go_sem]
 refine au h1 (uI k _ _ _) ?_ (fun df h1=>?_)<;>try simp only[F,go_sem]
 have F:=an (@id (Int.toNat 8=8) rfl) (an (@id (Int.toNat 31=31) rfl) (an (@id (bounds 32 (some (.int .i64 8)) (some (.int .i64 31))=some (8,31)) rfl) (an (@id (31 - 8=23) rfl) F)))
 try simp only[F,go_sem]
 obtain⟨fF,uz,h1⟩:=bs h1
 have ajN:=gT af uz
 try simp only[F,go_sem]at ajN
 have F:=an ajN F
 try simp only[ahw,F,go_sem]
 refine AB (aJ _ _ (oi h1).symm (Ah.go [0,1,2,3,8,9,10,12,41,42] [0,1] rfl ?_))
 try simp only[dp.h0,F,go_sem]
 refine AB (aH _ _ (oi h1).symm (Ah.go [0,1,2,3,8,9,10,12] [0,1] rfl ?_))
 try simp only[dp.x0,F,go_sem]
 rintro l9 aK
 subst aK
 simp only at h0
 refine rS ?_
 try simp only[dp.x0,F,go_sem]
 refine zqT [1] h0 (alh k _) ?_ fun bM h0=>?_<;>try simp only[F,go_sem]
 refine Bt F h0 ?_ ?_<;>intro F h0<;>try simp only[F,go_sem]
 obtain rfl:=oi h0
 refine Ag rfl ?_
 try simp only[F,go_sem]
 refine au h0 (acA k _ _ _) ?_ (fun dx h0=>?_)<;>try simp only[F,go_sem]
 refine Bt F h0 ?_ ?_<;>intro F h0<;>try simp only[F,go_sem]
 obtain rfl:=oi h0
 refine Ag rfl ?_
 try simp only[F,go_sem]
 obtain⟨z6,ae0,h0⟩:=bs h0
 refine Bf ae0 (dp.h1 d0 aT aX x3 x4 bM dx) (dp.x1 x3 x4 bM) ?_ ?_ ?_
 refine Ah.go [0,1,2,8,9,10,73,74,75] [0] rfl ?_
 try simp only[dp.h1,F,go_sem]
 rintro i18 cO Bm Bn h1 aJ aH bK
 refine rS ?_
 simp only[dp.b1]at h1
 try simp only[Ds.s1,dp.h1,F,go_sem]
 refine AF F h1 ?_ ?_<;>intro F h1<;>try simp only[F,go_sem]
 obtain⟨fh,cg,h1⟩:=bs h1
 have F:=an (aC cg) (an (aD (Aa.c (n:=32) af) cg) F)
 try simp only[F,go_sem]
 refine AL Ax aS 1000 ?_
 try simp only[F,go_sem]
 refine cn h1 (uI k _ _ _) ?_ (fun nK h1=>?_)<;>try simp only[F,go_sem]
 refine aF ?_
 try simp only[F,go_sem]
 refine Bt F h1 ?_ ?_<;>intro F h1<;>try simp only[F,go_sem]
 obtain rfl:=bK _ (oi h1).symm
 simp only at h0
 obtain rfl:=oi h0
 refine Ag rfl ?_
 try simp only[F,go_sem]
 refine AB (aJ _ _ (oi h1).symm (Ah.go [0,1,2,8,9,10,73,74,75] [0] rfl ?_))
 try simp only[dp.h1,F,go_sem]
 refine AB (aH _ _ (oi h1).symm (Ah.go [8,9,10] [0] rfl ?_))
 try simp only[dp.x1,F,go_sem]
 rintro _ aK
 subst aK
 simp only at h0
 refine rS ?_
 try simp only[dp.x1,F,go_sem]
 obtain rfl:=oi h0
 refine Ag rfl ?_
 try simp only[F,go_sem]
 obtain rfl:=oi h0
 refine Ag rfl ?_
 try simp only[F,go_sem]
end Go.Abs
namespace Go.Abs
open Go Go.Proofs Go.RowKit Go.Lib
def AP.s0:SC:=
 SQ [.block 1 (SQ [RG [wD 20 130 1,wD 21 3 2,wV 22 6 3,wV 23 7 3,wC 24 154 #[.tmp 20,.tmp 21,.tmp 22,.tmp 23] #[130,3,3,3] 231 [20,21,22,23],wV 19 24 231 [24],wX 25 19 0 25,wX 26 19 1 3,wX 27 19 2 3 [19],wA 8 25,wS 25 8 25 [25],wG 9 26 3 [26],wG 10 27 3 [27]],SQ [RG [wV 28 10 3,wK 29 .eql 3 28 0 3 4 [28],wV 30 29 4 [29],gd 30 false (wV 31 9 3),gd 30 false (wV 32 5 3 [5]),
 gd 30 false (wO 33 .lss 3 31 32 3 4 [31,32]),wT 34 30 33 4 [30,33]],CN 34 .ret .skip],RG [wD 36 46 4,wD 37 25 8,wW 38 71 36 37 46 25 73 [36,37],wV 35 38 73 [38],wX 39 35 0 46,wX 40 35 1 28 [35],wA 11 46,wS 46 11 39 [39],wG 12 40 28 [40]],SQ [RG [wV 41 12 28 [12],wK 42 .neq 28 41 0 28 4 [41],wV 43 42 4 [42],gd 43 false (wF 44 46 11 0),gd 43 false (wD 45 44 44 [44]),gd 43 false (wL 46 45 44 3 [45]),
 gd 43 false (wF 47 46 4 0),gd 43 false (wD 48 44 47 [47]),gd 43 false (wL 49 48 44 3 [48]),gd 43 false (wO 50 .eql 3 46 49 3 4 [46,49]),wT 51 43 50 4 [43,50]],CN 51 .ret .skip],RG [wD 52 46 11 [11],wV 53 9 3 [9],wV 54 6 3 [6],wV 55 10 3 [10],wO 56 .add 3 54 55 3 3 [54,55],wS 46 4 52 [52],wG 5 53 3 [53],wG 6 56 3 [56]],RG [wV 57 0 230,wD 58 25 8 [8],wV 59 6 3,oQ 60 (.call ⟨.value (.tmp 57),
 #[.tmp 58,.tmp 59],#[25,3]⟩) 4 [57,58,59],wQ 61 60 4 [60]],CN 61 .ret .skip]),RG [wV 17 7 3 [7],wK 18 .add 3 17 1 3 3 [17],wG 7 18 3 [18]]]
def AP.c:SC:=
 SQ [RG [wA 4 46],RG [wD 13 130 1,wD 14 3 2,wC 15 125 #[.tmp 13,.tmp 14,.const (.int .i64 0)] #[130,3,3] 126 [13,14],wU 16 126 15 126 3 [15],wG 5 16 3 [16],wN 6 1 3],RG [wN 7 0 3],.block 0 (.loop AP.s0)]
theorem AP.rs:Try.f153.results.toList=[]:=rfl
def j3.go (k:Nat) (d:az) (aW:Int):Nat->Ai->Int->Int->Int->Option (List (Ab×Int))
 |0,_,_,_,_=>none
 |m+1,j,ep,fr,i=>(dp k d aW fr i).bind fun q=>
  bif !decide (q.2.2=0) then
   bif decide (q.2.1<ep) then some [] else
   (qQ k j q.1).bind fun b=>
   bif decide (b.2=0) then
    bif decide ((b.1.Al.length:Int)=(j.Al.length:Int)) then some [] else
    (j3.go k d aW m b.1 q.2.1 (ab (fr+q.2.2)) (ab (i+1))).bind fun l=>some ((q.1,ab (fr+q.2.2))::l)
   else some []
  else some []
def j3 (k:Nat) (d:az) (aW:Int):Option (List (Ab×Int)):=
 (m4 k d aW 0).bind fun h=>(pn k h).bind fun e=>j3.go k d aW k ⟨[]⟩ e 1 0
def vT (d:az) (aW:Int) (l:Nat) (ep fr i:Int):List (Nat×AV):=
 [(0,.fn (.yield l) [] []),(1,.aA 1 [[.aA 2 [az.c d] 0 0]] 0 0),(2,.aA 1 [[.int .i64 aW]] 0 0),(4,.ptr 0 0 0),(5,.int .i64 ep),(6,.int .i64 fr),(7,.int .i64 i)]
def zq (d:az) (aW:Int) (l:Nat) (C:Av) (j:Ai) (ep fr i:Int):St:=⟨vT d aW l ep fr i,[(0,.box (Ai.c j))],[C],1,Try.f153.ntmps⟩
def itY (d:az) (aW:Int) (l:Nat) (C:Av) (x:Ab) (j:Ai) (ep fr i:Int):St:=
 ⟨[(0,.fn (.yield l) [] []),(1,.aA 1 [[.aA 2 [az.c d] 0 0]] 0 0),(2,.aA 1 [[.int .i64 aW]] 0 0),(4,.ptr 0 0 0),(5,.int .i64 ep),(6,.int .i64 fr),(7,.int .i64 i),
  (57,.fn (.yield l) [] []),(58,.agg (Ab.c x)),(59,.int .i64 fr)],[(0,.box (Ai.c j))],[C],1,Try.f153.ntmps⟩
def AP.p0:SC:=
 AP.c.fst
def AP.p1:SC:=
 AP.c.snd.fst
def AP.p2:SC:=
 AP.c.snd.snd.fst
def SC.body:SC->SC
 |.block _ b=>b
 |x=>x
def SC.ro:SC->List An
 |.lf l=>l
 |_=>[]
def AP.x:SC:=
 AP.s0.fst.body
def AP.x4:SC:=
 AP.x.fst
def AP.x5:SC:=
 AP.x.snd.fst
def AP.x6:SC:=
 AP.x.snd.snd.fst
def AP.x7:SC:=
 AP.x.snd.snd.snd.fst
def AP.x8:SC:=
 AP.x.snd.snd.snd.snd.fst
def AP.x9:List An:=AP.x.snd.snd.snd.snd.snd.fst.ro.take 3

def AP.r3:SC:=
 AP.s0.snd
theorem aoq (k:Nat) (d:az) (aW:Int) (l:Nat) (C:Av) (e:Int) (h:Aa 32 Int) (h1:m4 k d aW 0=some h) (h2:pn k h=some e) (Φ:Exit->St->Prop):
  AK Try.prog Try.f153.ntmps Φ [.sc AP.p0,.sc AP.p1,.sc AP.p2,.back (fun st=>Ah Try.f153.ntmps st (zq d aW l C ⟨[]⟩ e 1 0))]
   ⟨[(0,.fn (.yield l) [] []),(1,.aA 1 [[.aA 2 [az.c d] 0 0]] 0 0),(2,.aA 1 [[.int .i64 aW]] 0 0)],[],[C],0,Try.f153.ntmps⟩:=by
 refine rS ?_
 simp only[AP.p0,AP.p1,AP.p2,AP.c,SC.fst,SC.snd,go_sem]
 refine jx (uI k _ _ _ _ h1) ?_ ?_
 ·simp only[go_sem]
 simp only[go_sem]
 refine jx (aaR k _ _ h2) ?_ ?_
 ·simp only[go_sem]
 simp only[go_sem]
 refine AB ?_
 refine(Ah.fz 1 rfl (fun _ h=>by cases h)).trans ?_
 simp only[go_sem]
 refine Ah.go [0,1,2,4,5,6,7] [0] rfl ?_
 simp only[vT,go_sem]
def itB (k:Nat) (d:az) (aW:Int) (l:Nat) (C:Av) (j:Ai) (ep fr i:Int) (st:St):Prop:=
 ∃ q b,dp k d aW fr i=some q/\decide (q.2.2=0)=false/\decide (q.2.1<ep)=false/\qQ k j q.1=some b/\decide (b.2=0)=true/\
  decide ((b.1.Al.length:Int)=(j.Al.length:Int))=false/\Ah Try.f153.ntmps st (itY d aW l C q.1 b.1 q.2.1 (ab (fr+q.2.2)) i)
def itE (C:Av) (L:Prop) (e:Exit) (st:St):Prop:=e=.ret/\st.low=[C]/\L
theorem aos (k:Nat) (d:az) (aW:Int) (l:Nat) (C:Av) (m:Nat) (j:Ai) (ep fr i:Int) (xs:List (Ab×Int)) (h0:j3.go k d aW (m+1) j ep fr i=some xs):
  AK Try.prog Try.f153.ntmps (itE C (xs=[])) [.sc AP.x4,.sc AP.x5,.sc AP.x6,.sc AP.x7,.sc AP.x8,.ops AP.x9,.back (itB k d aW l C j ep fr i)] (zq d aW l C j ep fr i):=by
 refine rS ?_
 simp only[j3.go]at h0
 simp only[zq,vT,AP.x4,AP.x5,AP.x6,AP.x7,AP.x8,AP.x9,AP.x,AP.s0,SC.fst,SC.snd,SC.body,SC.ro,List.take_succ_cons,List.take_zero,go_sem]
 obtain⟨q,yq,h0⟩:=bs h0
 refine jx (alj k _ _ _ _ _ yq) ?_ ?_
 ·simp only[go_sem]
 simp only[go_sem]
 refine AS h0 (fun c1 h0=>?_) (fun c1 h0=>?_)
 rotate_left
 ·have c1:=aco c1
  simp only[c1,go_sem]
  obtain rfl:=oi h0
  exact⟨rfl,rfl,rfl⟩
 have c1:=acp c1
 simp only[c1,go_sem]
 refine AS h0 (fun c2 h0=>?_) (fun c2 h0=>?_)
 ·simp only[c2,c1,go_sem]
  obtain rfl:=oi h0
  exact⟨rfl,rfl,rfl⟩
 simp only[c2,c1,go_sem]
 obtain⟨b,yb,h0⟩:=bs h0
 refine jx (acw k _ _ _ yb) ?_ ?_
 ·simp only[c1,c2,go_sem]
 simp only[c1,c2,go_sem]
 refine AS h0 (fun c3 h0=>?_) (fun c3 h0=>?_)
 rotate_left
 ·simp only[c3,c2,c1,go_sem]
  obtain rfl:=oi h0
  exact⟨rfl,rfl,rfl⟩
 simp only[c3,c2,c1,go_sem]
 refine AS h0 (fun c4 h0=>?_) (fun c4 h0=>?_)
 ·simp only[c4,c3,c2,c1,go_sem]
  obtain rfl:=oi h0
  exact⟨rfl,rfl,rfl⟩
 simp only[c4,c3,c2,c1,go_sem]
 refine AB ⟨q,b,yq,c1,c2,yb,c3,c4,?_⟩
 refine Ah.go [0,1,2,4,5,6,7,57,58,59] [0] rfl ?_
 simp only[go_sem]
def aaV:Code->Code
 |.block _ b=>b
 |.loop b=>b
 |x=>x
def uU:Code->Array Oper
 |.region _ o _=>o
 |_=>#[]
def C0:Code:=Try.f153.body.getD .skip
def Dk:Code:=aaV (aaV (ah (ah (ah C0))))
def Cx:Code:=aaV (bc Dk)
def DH:Array Oper:=uU (bc (ah (ah (ah (ah (ah Cx))))))
def Fy:Code:=ah (ah (ah (ah (ah (ah Cx)))))
def AP.x9b:List An:=AP.x.snd.snd.snd.snd.snd.fst.ro.drop 4

def AP.z:SC:=
 AP.x.snd.snd.snd.snd.snd.snd
def YC (N0:Nat) (W1:World) (l:Nat) (tc:Ak) (C:List (Ab×Int)->Av) (xs:List (Ab×Int)):Prop:=
 ∀ pre x,(pre++[x]) <+: xs->∀ (f:Av) fm ts w vs,HR N0 W1 fm ts [f,C pre] w->As [tc] (ts.drop 1)->Au fm ts [.agg (Ab.c x.1),.int .i64 x.2] vs->
  YieldAt FW 0 Try.prog l vs.toArray w fun e w'=>e=.returned (.bool true)/\∃ fm' ts',HR N0 W1 fm' ts' [f,C (pre++[x])] w'/\AN N0 fm fm'/\As ts ts'/\∀ l k,tb ts l k=none->tb ts' l k=none
def itZ (d:az) (aW:Int) (l:Nat) (C:Av) (j:Ai) (ep fr i:Int):St:=⟨(60,.bool true)::vT d aW l ep fr i,[(0,.box (Ai.c j))],[C],1,Try.f153.ntmps⟩
theorem aot (d:az) (aW:Int) (l:Nat) (C:Av) (j:Ai) (ep fr i:Int) (Φ:Exit->St->Prop):
  AK Try.prog Try.f153.ntmps Φ [.ops AP.x9b,.sc AP.z,.al 1,.sc AP.r3,.back (fun st=>Ah Try.f153.ntmps st (zq d aW l C j ep fr (ab (i+1))))] (itZ d aW l C j ep fr i):=by
 refine rS ?_
 simp only[itZ,vT,AP.x9b,AP.z,AP.r3,AP.x,AP.s0,SC.fst,SC.snd,SC.body,SC.ro,List.drop_succ_cons,List.drop_zero,go_sem]
 refine AB ?_
 refine Ah.go [0,1,2,4,5,6,7] [0] rfl ?_
 simp only[vT,go_sem]
theorem adX {α:Type} (b:List (Nat×α)) {t:Nat}{x:α}:∀ {a:List (Nat×α)},look a t=some x->look (a++b) t=some x
 |[],h=>by simp[look]at h
 |(k,y)::a,h=>by
  simp only[Bq,look]at h ⊢
  split at h
  ·rename_i hk;rw[if_pos hk];exact h
  ·rename_i hk;rw[if_neg hk];exact adX b h
theorem aor (k:Nat) (d:az) (aW:Int) (xs:List (Ab×Int)) (fV:j3 k d aW=some xs) {N0:Nat}{W1:World}{l:Nat}{tc:Ak}{C:List (Ab×Int)->Av} (hY:YC N0 W1 l tc C xs) {fm:FM}{w:World}{vd va:Value}
  (hr:HR N0 W1 fm [tc] [C []] w) (hd:VR fm [] (.aA 1 [[.aA 2 [az.c d] 0 0]] 0 0) vd) (ha:VR fm [] (.aA 1 [[.int .i64 aW]] 0 0) va):
  Calls Try.prog 153 #[.func (.yield l) #[] #[],vd,va] w fun e w'=>(∃ v,e=.returned v)/\∃ fm' ts',HR N0 W1 fm' ts' [C xs] w'/\AN N0 fm fm'/\As [tc] ts'/\∀ l k,tb [tc] l k=none->tb ts' l k=none:=by
 obtain⟨h,yh,fV⟩:=bs fV
 obtain⟨e,ye,fV⟩:=bs fV
 have jI:Try.f153.ntmps=62:=by rfl
 refine calls_of_wp (fn:=Try.f153) (c:=C0) (by rfl) (by rfl) ((xe []).1 ?_)
 have hyv:VR fm (cL::[tc]) (.fn (.yield l) [] []) (.func (.yield l) #[] #[]):=.fn _ _ _ _ _ rfl rfl (by intro i x v h;simp at h) (by intro i x v h;simp at h)
 have hS:=SR.enter hr (args:=[.fn (.yield l) [] [],.aA 1 [[.aA 2 [az.c d] 0 0]] 0 0,.aA 1 [[.int .i64 aW]] 0 0]) (vs:=[.func (.yield l) #[] #[],vd,va]) (n:=Try.f153.ntmps) (by
  refine⟨rfl,?_⟩
  intro i x v hx hv
  match i,hx,hv with
  |0,hx,hv=>cases hx;cases hv;exact hyv
  |1,hx,hv=>cases hx;cases hv;exact hd.mono (AZ.refl _) (As.nil _)
  |2,hx,hv=>cases hx;cases hv;exact ha.mono (AZ.refl _) (As.nil _)
  |i+3,hx,hv=>simp at hx) (by rw[jI];simp)
 have amw:C0=.seq (bc C0) (.seq (bc (ah C0)) (.seq (bc (ah (ah C0))) (.block 0 (.loop Dk)))):=by rfl
 refine(show K Try.prog _ [.code C0] .normal _ w from ?_)
 rw[amw]
 refine C1 ?_
 refine CI (t:=[.code (bc (ah C0)),.code (bc (ah (ah C0))),.code (.block 0 (.loop Dk))]) (fun e a w h=>CA _ _ _ (CI (fun e a w h=>CA _ _ _ h) _ _ _ h)) _ _ _ ?_
 refine AK.nD (cs:=[.code (bc C0),.code (bc (ah C0)),.code (bc (ah (ah C0)))]) (t:=[.code (.block 0 (.loop Dk))]) (Φ:=fun _ _=>False) (todo:=[.sc AP.p0,.sc AP.p1,.sc AP.p2]) hS (aoq k d aW l (C []) e h yh ye _)
  (fun R hR=>.sc (by rfl) (by rfl) (.sc (by rfl) (by rfl) (.sc (by rfl) (by rfl) (.back hR .nil)))) ?_ (fun _ _ _ _ _ _ h=>h.elim)
 rintro wH a0 w0 fm0 fY lR yc xY
 obtain⟨dR,dL,dt,jC⟩:=lR _ _ _ _ _ _ yc
 refine D8 ?_
 refine FD (I:=fun m a w=>∃ pre ys j ep fr i fm' ts',j3.go k d aW m j ep fr i=some ys/\pre++ys=xs/\SR N0 W1 Try.f153.ntmps (zq d aW l (C pre) j ep fr i) a w fm' ts'/\Be N0 fm (cL::[tc]) fm' ts') k
  ⟨[],xs,_,_,_,_,dR,dL,fV,rfl,dt,xY.trans jC⟩ ?_
 rintro m a w2 ⟨pre,ys,j,ep,fr,i,dS,du,eb,abh,eK,dG⟩
 cases m with
 |zero=>simp only[j3.go]at eb;cases eb
 |succ m=>
  have eB:Dk=.seq (.block 1 Cx) (ah Dk):=by rfl
  have eX:Cx=.seq (bc Cx) (.seq (bc (ah Cx)) (.seq (bc (ah (ah Cx))) (.seq (bc (ah (ah (ah Cx)))) (.seq (bc (ah (ah (ah (ah Cx))))) (.seq (.region 9 DH false) Fy))))):=by rfl
  rw[eB]
  refine C1 ?_
  refine D8 ?_
  rw[eX]
  refine C1 ?_
  refine CI (t:=[.code (bc (ah Cx)),.code (bc (ah (ah Cx))),.code (bc (ah (ah (ah Cx)))),.code (bc (ah (ah (ah (ah Cx))))),.ops DH [0,1,2],.ops DH [3,4],.code Fy,.al 1,.code (ah Dk),.back _,.al 0])
   (fun e a w h=>CA _ _ _ (CI (fun e a w h=>CA _ _ _ (CI (fun e a w h=>CA _ _ _ (CI (fun e a w h=>CA _ _ _ (CI (fun e a w h=>CA _ _ _ (Im _ _ _ (Il (is:=[0,1,2]) (js:=[3,4]) _ _ _ h))) _ _ _ h)) _ _ _ h)) _ _ _ h)) _ _ _ h)) _ _ _ ?_
  refine AK.nD (cs:=[.code (bc Cx),.code (bc (ah Cx)),.code (bc (ah (ah Cx))),.code (bc (ah (ah (ah Cx)))),.code (bc (ah (ah (ah (ah Cx))))),.ops DH [0,1,2]]) (t:=[.ops DH [3,4],.code Fy,.al 1,.code (ah Dk),.back _,.al 0])
   (todo:=[.sc AP.x4,.sc AP.x5,.sc AP.x6,.sc AP.x7,.sc AP.x8,.ops AP.x9]) eK (aos k d aW l (C pre) m j ep fr i ys eb)
   (fun R hR=>.sc (by rfl) (by rfl) (.sc (by rfl) (by rfl) (.sc (by rfl) (by rfl) (.sc (by rfl) (by rfl) (.sc (by rfl) (by rfl) (.ops (by rfl) (by decide +kernel) (by decide +kernel) (.back hR .nil))))))) ?_ ?_
  ·
   rintro st3 a3 w3 iK jU ⟨q,b,yq,c1,c2,yb,c3,c4,vR⟩ ig jD
   obtain⟨fm4,ts4,lM,vt⟩:=vR _ _ _ _ _ _ ig
   simp only[j3.go]at eb
   rw[yq]at eb
   simp only[Af,c1,Bs,Am,c2,Aj,yb,c3,c4]at eb
   obtain⟨ys',yys,eb⟩:=bs eb
   obtain rfl:=oi eb
   obtain⟨v57,h57,r57⟩:=lM.tm 57 (.fn (.yield l) [] []) rfl
   obtain⟨v58,h58,r58⟩:=lM.tm 58 (.agg (Ab.c q.1)) rfl
   obtain⟨v59,h59,r59⟩:=lM.tm 59 (.int .i64 (ab (fr+q.2.2))) rfl
   obtain rfl:v57=.func (.yield l) #[] #[]:=by
    cases r57 with
    |fn f first cap vf vc h1 h2 h3 h4=>
     have e1:vf=#[]:=Array.size_eq_zero_iff.1 (by simpa using h1.symm)
     have e2:vc=#[]:=Array.size_eq_zero_iff.1 (by simpa using h2.symm)
     rw[e1,e2]
   obtain⟨fn,tmps,assign,body,bf,hR⟩:=hY pre (q.1,ab (fr+q.2.2)) ⟨ys',by rw[<-abh];simp⟩ _ fm4 ts4 w3 [v58,v59] lM.hr (by have:=((dG.trans jD).trans vt).jT;simpa using this) ⟨rfl,by
    intro i x v hx hv
    match i,hx,hv with
    |0,hx,hv=>cases hx;cases hv;exact r58
    |1,hx,hv=>cases hx;cases hv;exact r59
    |i+2,hx,hv=>simp at hx⟩
   obtain⟨o3,e3,g3,d3⟩:∃ o,DH[3]?=some o/\o.guard=none/\o.op=.call ⟨.value (.tmp 57),#[.tmp 58,.tmp 59],#[25,3]⟩/\o.dst=some 60:=⟨_,rfl,rfl,rfl,rfl⟩
   refine Fp e3 g3 ?_
   have v57:a3.eval (.tmp 57)=.func (.yield l) #[] #[]:=by simp[Act.eval,Array.getD_eq_getD_getElem?,h57]
   have w58:a3.eval (.tmp 58)=v58:=by simp[Act.eval,Array.getD_eq_getD_getElem?,h58]
   have w59:a3.eval (.tmp 59)=v59:=by simp[Act.eval,Array.getD_eq_getD_getElem?,h59]
   refine apg (w':=w3) (l:=l) (fn:=fn) (tmps:=tmps) (assign:=assign) (body:=body) (fun c h=>by rw[d3.1]at h;cases h) ?_ ?_
   ·have adI:(resolve a3.eval ⟨.value (.tmp 57),#[.tmp 58,.tmp 59],#[25,3]⟩ o3.type).run Try.prog w3=.ok { target:=.fn (.yield l) #[],args:=#[v58,v59] } w3:=by
     simp[resolve,v57,w58,w59,Deferred.ofValue]
    simp only[execOp,d3.1,Sem.run_bind,adI,Result.andThen_ok]
    simpa [invoke] using bf
   refine hR.mono ?_
   rintro e w4 ⟨rfl,xQ,ts5,hr5,ahs,ahp,ahe⟩
   rw[d3.2]
   have tj:SR N0 W1 Try.f153.ntmps (itZ d aW l (C (pre++[(q.1,ab (fr+q.2.2))])) b.1 q.2.1 (ab (fr+q.2.2)) i) (a3.put (some 60) (.bool true)) w4 xQ ts5:=by
    refine⟨hr5,?_,fun k hk=>ahe 0 k (lM.nx k hk),by rw[zT];exact lM.size,by rw[wg];exact lM.dX⟩
    intro t x hx
    unfold itZ at hx
    simp only[look]at hx
    split at hx
    ·subst_vars
     obtain rfl:=oi hx
     refine⟨.bool true,?_,.bool true⟩
     simp only[Act.put]
     rw[Array.getElem?_setIfInBounds,if_pos rfl,if_pos (by rw[lM.size,jI];decide)]
    ·rename_i bg
     have iS:look (itY d aW l (C pre) q.1 b.1 q.2.1 (ab (fr+q.2.2)) i).tm t=some x:=by
      exact adX [(57,.fn (.yield l) [] []),(58,.agg (Ab.c q.1)),(59,.int .i64 (ab (fr+q.2.2)))] hx
     obtain⟨u,h1,h2⟩:=lM.tm t x iS
     exact⟨u,by simp only[Act.put];rw[Array.getElem?_setIfInBounds,if_neg bg];exact h1,h2.mono ahs.le ahp⟩
   refine AK.nD (cs:=[.ops DH [4],.code Fy,.al 1,.code (ah Dk)]) (t:=[.back _,.al 0]) (Φ:=fun _ _=>False) (todo:=[.ops AP.x9b,.sc AP.z,.al 1,.sc AP.r3]) tj (aot d aW l _ _ _ _ i _)
    (fun R hR=>.ops (by rfl) (by decide +kernel) (by decide +kernel) (.sc (by rfl) (by rfl) (.al (.sc (by rfl) (by rfl) (.back hR .nil))))) ?_ (fun _ _ _ _ _ _ h=>h.elim)
   rintro st6 a6 w6 fm6 ts6 hw6 yd hL6
   obtain⟨fm7,ts7,tk,ya⟩:=hw6 _ _ _ _ _ _ yd
   have xZ:Be N0 fm4 ts4 xQ ts5:=⟨ahs,ahp.drop 1,fun l k h=>by rw[fg]at h ⊢;exact ahe _ _ h⟩
   exact⟨m,Nat.lt_succ_self m,pre++[(q.1,ab (fr+q.2.2))],ys',b.1,q.2.1,_,_,fm7,ts7,yys,by rw[<-abh];simp,tk,((((dG.trans jD).trans vt).trans xZ).trans hL6).trans ya⟩
  ·
   rintro e st3 a3 w3 iK jU ⟨rfl,jH,lU⟩ ig jD
   refine Dv ?_ _
   obtain⟨v,h1,h2⟩:=rY (P:=Try.prog) (fn:=Try.f153) (xs:=[]) Ax ig (by rw[AP.rs];rfl)
   have hL:=dG.trans jD
   have hp:=ig.hr
   rw[jH]at hp
   cases jU with
   |nil=>have:=hp.len;simp at this
   |cons t rest=>
    have hp':=hp.pop
    rw[lU,List.append_nil]at abh
    subst abh
    exact⟨ig.dX.1,v,h1,⟨v,rfl⟩,iK,rest,hp',hL.cS,by simpa using hL.jT,by simpa using hL.no⟩
def GL.c:SC:=
 SQ [RG [wA 4 126],RG [wV 5 0 3 [0],wV 6 1 3 [1],wC 7 115 #[.const (.int .u8 104),.tmp 5,.tmp 6] #[5,3,3] 126 [5,6],wS 126 4 7 [7]],.ret]
def xr (k:Nat) (pE:Int) (pC:Int):Option ((Aa 32 Int)):=
 (xl k 104 pE pC).bind fun x1=>
 some x1
theorem afz (k:Nat) (pE:Int) (pC:Int) (r:(Aa 32 Int)) (h0:xr k pE pC=some r):Aw Try.prog 101 [.int .i64 pE,.int .i64 pC] (fun y=>y=.agg ((Aa.c (n:=32) af) r)):=by
 refine PB Try.f101 GL.c [.cell 4 126] ?_
 simp only[xr]at h0
 try simp only[GL.c,go_sem]
 refine au h0 (afu k _ _ _) ?_ (fun x1 h0=>?_)<;>try simp only[go_sem]
 obtain rfl:=oi h0
 refine Ag rfl ?_
 try simp only[go_sem]
end Go.Abs
namespace Go.Abs
open Go Go.Proofs Go.RowKit Go.Lib
def A0.c:SC:=
 SQ [RG [wA 4 145,wB 5 false 4 [5]],RG [wV 12 0 130,wV 13 1 3,wC 14 125 #[.tmp 12,.tmp 13,.const (.int .i64 0)] #[130,3,3] 126 [12,13],wA 6 126,wS 126 6 14 [14]],RG [wD 15 126 6,wU 16 126 15 126 3 [15],wG 7 16 3 [16]],RG [wJ 17 126 6 4,wD 18 5 17 [17],wY 19 5 3 18 3 [18],oQ 20 (.binOp .shl 3 (.tmp 19) (.const (.int .u64 8)) 211) 3 [19],wJ 21 126 6 5,wD 22 5 21 [21],wY 23 5 3 22 3 [22],
 wO 24 .or 3 20 23 3 3 [20,23],wG 8 24 3 [24]],SQ [.aO [wV 25 7 3,wK 26 .eql 3 25 0 3 4,wV 27 26 4,gd 27 false (wD 28 126 6),gd 27 false (wV 29 7 3),gd 27 false (wV 30 8 3),gd 27 false (wW 31 101 29 30 3 3 126),gd 27 false (wO 32 .neq 126 28 31 126 4),wT 33 27 32 4] [[],[0],[0,1],[0,1,2],[0,1,2],[0,1,2],[0,1,2,4,5],[0,1,2,3,4,5,6],[0,1,2,3,4,5,6,7]] [6,25,26,27,28,29,30,31,32],
 CN 33 (SQ [RG [oQ 34 (.build 145 #[]) 145,wS 145 4 34 [34],wB 5 false 4],.ret]) .skip],RG [wV 35 0 130,wV 36 1 3,wV 37 7 3 [7],oQ 38 (.build 145 #[(0,.tmp 35),(1,.tmp 36),(2,.tmp 37),(3,.const (.int .i64 1))]) 145 [35,36,37],wA 9 145,wS 145 9 38 [38]],SQ [RG [wV 39 0 130 [0],wV 40 1 3 [1],wW 41 147 39 40 130 3 224 [39,40]],.block 0 .other],.aO [wD 58 145 9,wF 59 145 9 5,wD 60 3 59,wV 61 8 3,
 wO 62 .geq 3 60 61 3 4,wS 145 4 58,wG 5 62 4] [[],[],[1],[],[1,2,3],[0],[1,2,3,4,0,5]] [8,9,58,59,60,61,62],.ret]
theorem A0.rs:Try.f124.results.toList=[.cell 4 145,.tmp 5]:=rfl
def A0.o0:SC:=
 A0.c.fst
def A0.o1:SC:=
 A0.c.snd.fst
def A0.o2:SC:=
 A0.c.snd.snd.fst
def A0.o3:SC:=
 A0.c.snd.snd.snd.fst
def A0.o4:SC:=
 A0.c.snd.snd.snd.snd.fst
def A0.o5:SC:=
 A0.c.snd.snd.snd.snd.snd.fst
def A0.o6:SC:=
 A0.c.snd.snd.snd.snd.snd.snd.fst.fst
def A0.o7:SC:=
 A0.c.snd.snd.snd.snd.snd.snd.snd
def oL (x3 x4:Int):Int:=fK .i64 (ab ((ab x3)*2 ^ 8)) (ab x4)
def kZ:cN:=⟨none,0,0,0,(⟨[]⟩:Ai),0⟩
def rQ (d:az) (aW e:Int):cN:=⟨some d,aW,e,1,⟨[]⟩,0⟩
def qt (k:Nat) (J:cN) (x:Ab×Int):Option cN:=
 (qQ k J.book x.1).bind fun b=>some ⟨J.af7,J.aW,J.dE,x.2,b.1,ab (J.records+1)⟩
def ju (k:Nat):cN->List (Ab×Int)->Option cN
 |J,[]=>some J
 |J,x::l=>(qt k J x).bind fun J=>ju k J l
def pk (k:Nat) (d0:az) (aT:Int):Option (cN×Bool):=
 (m4 k d0 aT 0).bind fun x1=>
 (pn k x1).bind fun x2=>
 (x1.at? 4).bind fun x3=>
 (x1.at? 5).bind fun x4=>
 bif (!decide (x2=(0:Int))) then
  (xr k x2 (fK .i64 (ab ((ab x3)*2 ^ 8)) (ab x4))).bind fun x6=>
  bif (!(Aa.eq (fun(x y:Int)=>decide (x=y)) x1 x6)) then
   some (kZ,false)
  else
   (j3 k d0 aT).bind fun xs=>
   (ju k (rQ d0 aT x2) xs).bind fun J=>
   some (J,decide (J.records>=oL x3 x4))
 else
  some (kZ,false)
def ah6 (d:az) (aW e ax:Int):St:=⟨[(4,.ptr 0 0 0),(8,.int .i64 ax),(9,.ptr 0 1 0),(41,nA d aW)],[(0,.box (cN.c kZ)),(1,.box (cN.c (rQ d aW e)))],[],2,Try.f124.ntmps⟩
def opE (L:Prop) (e:Exit) (st:St):Prop:=e=.ret/\L/\Dx T Try.f124.results.toList (fun y=>NL y (.ar [.agg (cN.c kZ),.bool false])) .ret st
def opB (k:Nat) (d:az) (aW:Int) (r:cN×Bool) (st:St):Prop:=
 ∃ e x3 x4 xs J,j3 k d aW=some xs/\ju k (rQ d aW e) xs=some J/\r=(J,decide (J.records>=oL x3 x4))/\Ah Try.f124.ntmps st (ah6 d aW e (oL x3 x4))
theorem ao8 (k:Nat) (d:az) (aW:Int) (r:cN×Bool) (h0:pk k d aW=some r):
  AK Try.prog Try.f124.ntmps (opE (r=(kZ,false))) [.sc A0.o0,.sc A0.o1,.sc A0.o2,.sc A0.o3,.sc A0.o4,.sc A0.o5,.sc A0.o6,.back (opB k d aW r)] (St.enter [.aA 2 [az.c d] 0 0,.int .i64 aW] [] Try.f124.ntmps):=by
 refine rS ?_
 simp only[pk]at h0
 simp only[A0.o0,A0.o1,A0.o2,A0.o3,A0.o4,A0.o5,A0.o6,A0.c,SC.fst,SC.snd,go_sem]
 obtain⟨x1,iW,h0⟩:=bs h0
 refine jx (uI k _ _ _ _ iW) ?_ ?_
 ·try simp only[go_sem]
 try simp only[go_sem]
 obtain⟨x2,eo,h0⟩:=bs h0
 refine jx (aaR k _ _ eo) ?_ ?_
 ·try simp only[go_sem]
 try simp only[go_sem]
 obtain⟨x3,cP,h0⟩:=bs h0
 have uu:=Ao.at kH (Ao.self zlh x1) cP
 have kK:=uu.bound kH
 have kM:=uu.get kH
 try simp only[AA,Az,go_sem]at kK kM
 try simp only[aq cP,kK,kM,(@id (min (Int.toNat 8) 64=8) rfl),go_sem]
 obtain⟨x4,bN,h0⟩:=bs h0
 have iC:=Ao.at kH (Ao.self zlh x1) bN
 have lD:=iC.bound kH
 have lK:=iC.get kH
 try simp only[AA,Az,go_sem]at lD lK
 try simp only[aq bN,lD,lK,aq cP,kK,kM,go_sem]
 refine AL Ax aS 1000 ?_
 try simp only[aq cP,kK,kM,aq bN,lD,lK,go_sem]
 refine Fi h0 (fun c5 h0=>?_) (fun c5 h0=>?_)
 ·have c5:=acp c5
  try simp only[c5,aq cP,kK,kM,aq bN,lD,lK,go_sem]
  obtain⟨x6,dQ,h0⟩:=bs h0
  refine uW (afz k _ _ _ dQ) ?_ ?_
  ·try simp only[aq cP,kK,kM,aq bN,lD,lK,c5,go_sem]
  try simp only[aq cP,kK,kM,aq bN,lD,lK,c5,go_sem]
  refine aF ?_
  try simp only[aq cP,kK,kM,aq bN,lD,lK,c5,go_sem]
  refine AS h0 (fun c7 h0=>?_) (fun c7 h0=>?_)
  ·have c7:=acp c7
   try simp only[c7,aq cP,kK,kM,aq bN,lD,lK,c5,go_sem]
   obtain rfl:=oi h0
   refine⟨rfl,rfl,Ag (P:=Try.prog) (n:=Try.f124.ntmps) rfl ?_⟩
   try simp only[A0.rs,kZ,aq cP,kK,kM,aq bN,lD,lK,c5,c7,go_sem]
  ·have c7:=aco c7
   try simp only[c7,aq cP,kK,kM,aq bN,lD,lK,c5,go_sem]
   obtain⟨xs,yxs,h0⟩:=bs h0
   obtain⟨J,yJ,h0⟩:=bs h0
   obtain rfl:=oi h0
   refine jx (ali d aW) ?_ ?_
   ·try simp only[go_sem]
   try simp only[nA,go_sem]
   refine AB ⟨x2,x3,x4,xs,J,yxs,yJ,rfl,?_⟩
   refine(Ah.fz 1 rfl (fun _ h=>by cases h)).trans ?_
   simp only[go_sem]
   refine(Ah.fz 528 rfl (fun _ h=>by cases h)).trans ?_
   simp only[go_sem]
   refine Ah.go [4,8,9,41] [0,512] rfl ?_
   simp only[nA,oL,kZ,rQ,go_sem]
 ·have c5:=aco c5
  try simp only[c5,aq cP,kK,kM,aq bN,lD,lK,go_sem]
  refine aF ?_
  try simp only[aq cP,kK,kM,aq bN,lD,lK,c5,go_sem]
  obtain rfl:=oi h0
  refine⟨rfl,rfl,Ag (P:=Try.prog) (n:=Try.f124.ntmps) rfl ?_⟩
  try simp only[A0.rs,kZ,aq cP,kK,kM,aq bN,lD,lK,c5,go_sem]
def A0.oa:SC:=.seq (.lf [wA 10 25,wS 25 10 42 [42]]) (.lf [wG 11 43 3 [43]])

def A0.ob:SC:=.block 1 (.seq (.lf [wF 45 145 9 4,wD 46 46 45 [45],wD 47 25 10,wW 48 71 46 47 46 25 73 [46,47],
 wV 44 48 73 [48],wX 49 44 0 46,wX 50 44 1 28 [44,50],wF 51 145 9 4,wS 46 51 49 [49,51]])
 (.seq (.lf [wV 52 11 3 [11],wF 53 145 9 3,wS 3 53 52 [52,53]])
 (.lf [wF 54 145 9 5,wD 55 3 54 [54],wK 56 .add 3 55 1 3 3 [55],wF 57 145 9 5,wS 3 57 56 [56,57]])))
def me (J:cN):Av:=[(0,.box (cN.c kZ)),(1,.box (cN.c J))]
def zH (x:Ab×Int) (f:Av) (J:cN):St:=⟨[(9,.ptr 2 1 0),(42,.agg (Ab.c x.1)),(43,.int .i64 x.2)],[],[f,me J],0,Try.f124.ntmps⟩
def ua (x:Ab×Int) (f:Av) (J:cN):St:=⟨[(9,.ptr 2 1 0),(10,.ptr 0 0 0),(11,.int .i64 x.2)],[(0,.box (Ab.c x.1))],[f,me J],1,Try.f124.ntmps⟩
def opN (f:Av) (J:cN):St:=⟨[],[],[f,me J],0,Try.f124.ntmps⟩
def opR (J:cN) (ax:Int):St:=⟨[(4,.ptr 0 0 0),(8,.int .i64 ax),(9,.ptr 0 1 0)],me J,[],2,Try.f124.ntmps⟩
theorem ao5 [Md] (x:Ab×Int) (f:Av) (J:cN) (Φ:Exit->St->Prop):AK Try.prog Try.f124.ntmps Φ [.sc A0.oa,.back (fun st=>Ah Try.f124.ntmps st (ua x f J))] (zH x f J):=by
 refine rS ?_
 simp only[A0.oa,zH,me,kZ,go_sem]
 show Ah Try.f124.ntmps _ (ua x f J)
 refine Ah.go [9,10,11] [0] rfl ?_
 simp only[me,kZ,go_sem]
theorem ao7 [Md] (k:Nat) (x:Ab×Int) (f:Av) (J J':cN) (h0:qt k J x=some J') (Φ:Exit->St->Prop):AK Try.prog Try.f124.ntmps Φ [.sc A0.ob,.back (fun st=>Ah Try.f124.ntmps st (opN f J'))] (ua x f J):=by
 refine rS ?_
 simp only[qt]at h0
 obtain⟨b,yb,h0⟩:=bs h0
 obtain rfl:=oi h0
 simp only[A0.ob,ua,me,kZ,go_sem]
 refine jx (acw k J.book x.1 b yb) ?_ ?_
 ·simp only[go_sem]
 simp only[go_sem]
 show Ah Try.f124.ntmps _ (opN f _)
 refine Ah.go [] [] rfl ?_
 simp only[me,kZ,go_sem]
theorem ao9 [Md] (J:cN) (ax:Int):AK Try.prog Try.f124.ntmps (fun e st=>e=.ret/\Dx T Try.f124.results.toList (fun y=>NL y (.ar [.agg (cN.c J),.bool (decide (J.records>=ax))])) .ret st) [.sc A0.o7] (opR J ax):=by
 refine rS ?_
 simp only[A0.o7,A0.c,opR,me,kZ,SC.snd,go_sem]
 refine AL Ax aS 1000 ?_
 simp only[go_sem]
 refine aF ?_
 simp only[go_sem]
 refine⟨rfl,Ag (P:=Try.prog) (n:=Try.f124.ntmps) rfl ?_⟩
 simp only[A0.rs,go_sem]
def BL:Code:=Try.f124.body.getD .skip
def CR:Code:=aaV (ah (bc (ah (ah (ah (ah (ah (ah BL))))))))
def xx:Code->Code
 |.rangeFunc _ _ a _=>a
 |x=>x
def xy:Code->Code
 |.rangeFunc _ _ _ b=>b
 |x=>x
theorem ah8 {k:Nat}{x:Ab×Int}:∀ {J:cN}{l:List (Ab×Int)},ju k J (l++[x])=(ju k J l).bind fun J=>qt k J x
 |J,[]=>by simp only[BM,ju,Af];cases qt k J x<;>rfl
 |J,y::l=>by
  simp only[Bq,ju]
  cases qt k J y with
  |none=>rfl
  |some J'=>simp only[Af];exact ah8
theorem ah7 {k:Nat}:∀ {J:cN}{l m:List (Ab×Int)}{Z:cN},ju k J (l++m)=some Z->∃ J',ju k J l=some J'
 |J,[],m,Z,h=>⟨J,rfl⟩
 |J,y::l,m,Z,h=>by
  simp only[Bq,ju]at h ⊢
  obtain⟨J',h1,h2⟩:=bs h
  rw[h1]
  exact ah7 h2
def wa (k:Nat) (J0:cN) (pre:List (Ab×Int)):Av:=me ((ju k J0 pre).getD J0)
def mf (a:Act) (D:Nat) (fn:FuncId) (s:LoopState) (p:Option Code):Loop:={ state:=s,pending:=p,fn,tmps:=a.tmps,params:=#[42,43],assign:=xx CR,body:=xy CR,defers:=D }
theorem ao4 [Md] {Q:Exit->Act->World->Prop}{N0:Nat}{W1:World}{fm:FM}{ts:List Ak}{a:Act}{w:World}{x:Ab×Int}{f:Av}{J:cN} (hS:SR N0 W1 Try.f124.ntmps (zH x f J) a w fm ts)
  (hn:∀ a' w' fm' ts',SR N0 W1 Try.f124.ntmps (ua x f J) a' w' fm' ts'->Be N0 fm ts fm' ts'->Q .normal a' w'):(xx CR).wpIn FW 0 Try.prog Q a w:=by
 refine(show K Try.prog Q ([.code (xx CR)]++[]) .normal a w from ?_)
 refine AK.nD (Φ:=fun _ _=>False) (todo:=[.sc A0.oa]) hS (ao5 x f J _) (fun R hR=>.sc (by rfl) (by rfl) (.back hR .nil)) ?_ (fun _ _ _ _ _ _ h=>h.elim)
 intro ao a' w' fm' ts' hw cJ hL
 obtain⟨dS,du,h1,h2⟩:=hw _ _ _ _ _ _ cJ
 exact hn _ _ _ _ h1 (hL.trans h2)
theorem ao6 [Md] (k:Nat) {Q:Exit->Act->World->Prop}{N0:Nat}{W1:World}{fm:FM}{ts:List Ak}{a:Act}{w:World}{x:Ab×Int}{f:Av}{J J':cN} (h0:qt k J x=some J') (hS:SR N0 W1 Try.f124.ntmps (ua x f J) a w fm ts)
  (hn:∀ a' w' fm' ts',SR N0 W1 Try.f124.ntmps (opN f J') a' w' fm' ts'->Be N0 fm ts fm' ts'->Q .normal a' w'):(xy CR).wpIn FW 0 Try.prog Q a w:=by
 refine(show K Try.prog Q ([.code (xy CR)]++[]) .normal a w from ?_)
 refine AK.nD (Φ:=fun _ _=>False) (todo:=[.sc A0.ob]) hS (ao7 k x f J J' h0 _) (fun R hR=>.sc (by rfl) (by rfl) (.back hR .nil)) ?_ (fun _ _ _ _ _ _ h=>h.elim)
 intro ao a' w' fm' ts' hw cJ hL
 obtain⟨dS,du,h1,h2⟩:=hw _ _ _ _ _ _ cJ
 exact hn _ _ _ _ h1 (hL.trans h2)
theorem aaO {N0 l:Nat}{W:World}{o o':Obj} (hN:N0<=l) (h:W.heap[l]?=some o):Below N0 W (W.putObj l o'):=
 (Below.refl N0 W).grown (grownBy_putObj' W l o') (by have:=(CF.1 h).1;omega) (fun k e=>by cases e;omega)
theorem apa (k:Nat) (J0:cN) (xs:List (Ab×Int)) (Z:cN) (hZ:ju k J0 xs=some Z) {N0:Nat}{W1:World}{l D:Nat}{fn:FuncId}{tc:Ak}{a:Act}{c9:Nat} (hN:N0<=l) (aw:a.tmps.size=Try.f124.ntmps)
  (hl:W1.heap[l]?=some (.loop (mf a D fn .ready none))) (h9:tc 1=some (.box c9)) (ha:a.tmps[9]?=some (.pointer (some ⟨c9,0,none⟩))):YC N0 W1 l tc (wa k J0) xs:=by
 intro pre x oo f fm ts w vs hr il bj
 obtain⟨suf,anO⟩:=oo
 obtain⟨J',hJ'⟩:=ah7 (l:=pre++[x]) (m:=suf) (by rw[anO];exact hZ)
 have hJ2:=hJ'
 rw[ah8]at hJ2
 obtain⟨J,hJ,fU⟩:=bs hJ2
 have hlw:=hr.cT l _ hl rfl
 have jI:Try.f124.ntmps=63:=by rfl
 obtain⟨v0,v1,rfl⟩:∃ v0 v1,vs=[v0,v1]:=by
  have:=bj.1
  match vs,this with
  |[v0,v1],_=>exact⟨v0,v1,rfl⟩
 have hy:=run_yield (P:=Try.prog) (args:=#[v0,v1]) hlw (by rfl)
 refine⟨_,_,_,_,hy,?_⟩
 have hr':HR N0 W1 fm ts [f,me J] w:=by
  have h:=hr
  unfold wa at h
  rw[hJ]at h
  exact h
 have hSS:@SR ⟨some l,[],fun _=>none⟩ N0 W1 Try.f124.ntmps (zH x f J) { tmps:=(a.tmps.setIfInBounds 42 v0).setIfInBounds 43 v1,defers:=[] } w fm (cL::ts):=by
  refine @SR.mk ⟨some l,[],fun _=>none⟩ _ _ _ _ _ _ _ _ hr'.push ?_ (fun _ _=>rfl) (by simp[aw]) ⟨rfl,fun _ _ h=>by cases h⟩
  intro t y hy
  unfold zH at hy
  simp only[look]at hy
  split at hy
  ·subst_vars
   obtain rfl:=oi hy
   refine⟨_,by rw[Array.getElem?_setIfInBounds,if_neg (by decide),Array.getElem?_setIfInBounds,if_neg (by decide)];exact ha,.ptr 2 1 0 c9 ?_⟩
   have h1:=il 0 1
   have h2:tb (ts.drop 1) 0 1=some (.box c9):=h1.box h9
   rw[fg]at h2
   exact h2
  ·split at hy
   ·subst_vars
    obtain rfl:=oi hy
    refine⟨v0,by rw[Array.getElem?_setIfInBounds,if_neg (by decide),Array.getElem?_setIfInBounds,if_pos rfl,if_pos (by rw[aw,jI];decide)],?_⟩
    have:=bj.2 0 _ v0 rfl rfl
    have h3:VR fm [] (.agg (Ab.c x.1)) v0:=(hr.pe (Au.one this) (ys:=[.agg (Ab.c x.1)]) (by simp only[AV.aG,AV.ai,(ajm.rD x.1).ai,A5])).2 0 _ _ rfl rfl
    exact h3.mono (AZ.refl _) (As.nil _)
   ·split at hy
    ·subst_vars
     obtain rfl:=oi hy
     refine⟨v1,by rw[Array.getElem?_setIfInBounds,if_pos rfl,if_pos (by rw[Array.size_setIfInBounds,aw,jI];decide)],?_⟩
     have:=bj.2 1 _ v1 rfl rfl
     have h3:VR fm [] (.int .i64 x.2) v1:=(hr.pe (Au.one this) (ys:=[.int .i64 x.2]) rfl).2 0 _ _ rfl rfl
     exact h3.mono (AZ.refl _) (As.nil _)
    ·cases hy
 refine roundIn_of_wpIn trivial ?_
 have anr:(((mf a D fn .ready none).params.zip #[v0,v1]).foldl (fun tmps (x:Tmp×Value)=>match x with|(t,a)=>tmps.setIfInBounds t a) (mf a D fn .ready none).tmps)=(a.tmps.setIfInBounds 42 v0).setIfInBounds 43 v1:=by
  simp[mf]
 rw[anr]
 refine @ao4 ⟨some l,[],fun _=>none⟩ _ _ _ _ _ _ _ x f J hSS ?_
 intro a1 w1 dR dL dt jC
 obtain⟨g1,g2,g3,g4,g5⟩:=dt
 have gp:=g1.cT l _ hl rfl
 refine⟨_,run_beginRound gp rfl,?_⟩
 have am0:@SR ⟨some l,[],fun _=>none⟩ N0 (w1.putObj l (.loop { mf a D fn .ready none with state:=.busy })) Try.f124.ntmps (ua x f J) a1 (w1.putObj l (.loop { mf a D fn .ready none with state:=.busy })) dR dL:=
  @SR.mk ⟨some l,[],fun _=>none⟩ _ _ _ _ _ _ _ _ (g1.other gp rfl hN) g2 g3 g4 ⟨g5.1,fun _ _ h=>by cases h⟩
 refine @ao6 ⟨some l,[],fun _=>none⟩ k _ _ _ _ _ _ _ x f J J' fU am0 ?_
 intro a2 w2 dS du eK dG
 obtain⟨k1,k2,k3,k4,k5⟩:=eK
 have ae:=(CF.1 gp).1
 have kT:=k1.cT l (.loop { mf a D fn .ready none with state:=.busy }) (World.putObj_heap_same ae) rfl
 refine⟨_,_,run_endRound none kT,rfl,dS,du.drop 1,?_,jC.cS.trans dG.cS,?_,?_⟩
 ·have k6:=k1.other (o':=.loop { mf a D fn .ready none with state:=.ready,pending:=none }) kT rfl hN
  cases du with
  |nil=>have:=k6.len;simp at this
  |cons t0 rest=>
   have k7:=k6.pop
   have lN:Below N0 W1 (w2.putObj l (.loop { mf a D fn .ready none with state:=.ready,pending:=none })):=
    ((g1.dg.trans (aaO hN gp)).trans k1.dg).trans (aaO hN kT)
   have tL:∀ (b:Nat) (o:Obj),W1.heap[b]?=some o->zQ o=true->(w2.putObj l (.loop { mf a D fn .ready none with state:=.ready,pending:=none })).heap[b]?=some o:=by
    intro b o hb ho
    by_cases gF:b=l
    ·subst gF
     rw[hl]at hb
     obtain rfl:=oi hb
     exact World.putObj_heap_same (CF.1 kT).1
    ·rw[World.putObj_heap_other (by omega)]
     refine k1.cT b o ?_ ho
     rw[World.putObj_heap_other (by omega)]
     exact g1.cT b o hb ho
   have k8:HR N0 W1 dS rest [f,me J'] (w2.putObj l (.loop { mf a D fn .ready none with state:=.ready,pending:=none })):={ k7 with dg:=lN,cT:=tL }
   unfold wa
   rw[hJ']
   exact k8
 ·have h:=jC.jT.trans dG.jT
  simpa using h
 ·intro l' k' h
  exact dG.no l' k' (jC.no l' k' (by simpa using h))
theorem afy (k:Nat) (d0:az) (aT:Int) (r:cN×Bool) (h0:pk k d0 aT=some r):Aw Try.prog 124 [.aA 2 [az.c d0] 0 0,.int .i64 aT] (fun y=>y=.ar [.agg (cN.c r.1),.bool r.2]):=by
 refine⟨⟨Try.f124,by rfl,by rfl,by rfl⟩,fun fm w vs bB hv=>?_⟩
 have jI:Try.f124.ntmps=63:=by rfl
 refine callsIn_wide.1 (callsIn_of_wp_marks (F:=FW) (n:=0) (fn:=Try.f124) (c:=BL) (by rfl) (by rfl) trivial ?_)
 have hS:=SR.enter (HR.nothing bB) (vs:=vs) (args:=[.aA 2 [az.c d0] 0 0,.int .i64 aT]) (n:=Try.f124.ntmps) ⟨hv.1,fun i x v p q=>(hv.2 i x v p q).mono (AZ.refl _) (As.nil _)⟩ (by rw[jI];simp)
 have amv:BL=.seq (bc BL) (.seq (bc (ah BL)) (.seq (bc (ah (ah BL))) (.seq (bc (ah (ah (ah BL)))) (.seq (bc (ah (ah (ah (ah BL))))) (.seq (bc (ah (ah (ah (ah (ah BL)))))) (.seq (.seq (bc (bc (ah (ah (ah (ah (ah (ah BL)))))))) (.block 0 CR)) (ah (ah (ah (ah (ah (ah (ah BL))))))))))))):=by rfl
 refine(show K Try.prog _ [.code BL] .normal _ w from ?_)
 rw[amv]
 refine C1 ?_
 refine CI (t:=[.code (bc (ah BL)),.code (bc (ah (ah BL))),.code (bc (ah (ah (ah BL)))),.code (bc (ah (ah (ah (ah BL))))),.code (bc (ah (ah (ah (ah (ah BL)))))),.code (bc (bc (ah (ah (ah (ah (ah (ah BL)))))))),.code (.block 0 CR),.code (ah (ah (ah (ah (ah (ah (ah BL)))))))])
  (fun e a w h=>CA _ _ _ (CI (fun e a w h=>CA _ _ _ (CI (fun e a w h=>CA _ _ _ (CI (fun e a w h=>CA _ _ _ (CI (fun e a w h=>CA _ _ _ (CI (fun e a w h=>CA _ _ _ (CA _ _ _ h)) _ _ _ h)) _ _ _ h)) _ _ _ h)) _ _ _ h)) _ _ _ h)) _ _ _ ?_
 refine AK.nD (cs:=[.code (bc BL),.code (bc (ah BL)),.code (bc (ah (ah BL))),.code (bc (ah (ah (ah BL)))),.code (bc (ah (ah (ah (ah BL))))),.code (bc (ah (ah (ah (ah (ah BL)))))),.code (bc (bc (ah (ah (ah (ah (ah (ah BL))))))))])
  (t:=[.code (.block 0 CR),.code (ah (ah (ah (ah (ah (ah (ah BL)))))))]) (todo:=[.sc A0.o0,.sc A0.o1,.sc A0.o2,.sc A0.o3,.sc A0.o4,.sc A0.o5,.sc A0.o6]) hS (ao8 k d0 aT r h0)
  (fun R hR=>.sc (by rfl) (by rfl) (.sc (by rfl) (by rfl) (.sc (by rfl) (by rfl) (.sc (by rfl) (by rfl) (.sc (by rfl) (by rfl) (.sc (by rfl) (by rfl) (.sc (by rfl) (by rfl) (.back hR .nil)))))))) ?_ ?_
 rotate_left
 ·
  rintro e st a w2 dS du ⟨rfl,rfl,hE⟩ eK dG
  refine Dv ?_ _
  obtain⟨u,iK,h1,h2,h3,h4⟩:=ac7 (P:=Try.prog) Ax eK hE
  show LeavesInM FW 0 Try.prog Try.f124 a.tmps _ a.defers .returning w2
  rw[eK.dX.1]
  exact⟨u,h1,u,_,iK,rfl,rfl,h3,h2,dG.cS.trans h4,eK.hr.dg⟩
 ·rintro wH a0 w0 fm0 fY ⟨e,x3,x4,xs,J,fV,hJ,rfl,hw⟩ yc xY
  obtain⟨dR,dL,dt,jC⟩:=hw _ _ _ _ _ _ yc
  have amX:=xY.trans jC
  obtain⟨tc,rfl⟩:∃ tc,dL=[tc]:=by
   have:=dt.hr.len
   match dL,this with
   |[tc],_=>exact⟨tc,rfl⟩
  refine D8 ?_
  have e2:CR=.rangeFunc (.tmp 41) #[42,43] (xx CR) (xy CR):=by rfl
  rw[e2]
  refine(show (Code.rangeFunc (.tmp 41) #[42,43] (xx CR) (xy CR)).wpIn FW 0 Try.prog (K Try.prog _ [.al 0,.code (ah (ah (ah (ah (ah (ah (ah BL)))))))]) a0 w0 from ?_)
  refine wpIn_rangeFunc ?_
  intro fn _
  obtain⟨v41,h41,r41⟩:=dt.tm 41 (nA d0 aT) rfl
  obtain⟨p9,h9,r9⟩:=dt.tm 9 (.ptr 0 1 0) rfl
  obtain⟨c9,rfl,hc9⟩:∃ c9,p9=.pointer (some ⟨c9,0,none⟩)/\tc 1=some (.box c9):=by
   cases r9 with
   |ptr _ _ _ c h=>exact⟨c,rfl,h⟩
  obtain⟨vd,va,rfl,hd,ha⟩:∃ vd va,v41=.func (.func 153) #[] #[vd,va]/\VR dR [] (.aA 1 [[.aA 2 [az.c d0] 0 0]] 0 0) vd/\VR dR [] (.aA 1 [[.int .i64 aT]] 0 0) va:=by
   have hb:VR dR [] (nA d0 aT) v41:=(dt.hr.pe (Au.one r41) (ys:=[nA d0 aT]) (by simp only[nA,AV.aG,AV.ai])).2 0 _ _ rfl rfl
   unfold nA at hb
   cases hb with
   |fn f first cap vf vc h1 h2 h3 h4=>
    have e1:vf=#[]:=Array.size_eq_zero_iff.1 (by simpa using h1.symm)
    obtain⟨l,rfl⟩:∃ l,vc=l.toArray:=⟨vc.toList,by simp⟩
    match l,h2,h4 with
    |[vd,va],h2,h4=>exact⟨vd,va,by rw[e1],h4 0 _ vd rfl rfl,h4 1 _ va rfl rfl⟩
  have hN1:w.heap.size<=w0.heap.size:=dt.hr.size
  obtain⟨rec,rv⟩:∃ rec,rec=mf a0 w0.heap.size fn .ready none:=⟨_,rfl⟩
  obtain⟨W1,iO⟩:∃ W1,W1=(w0.alloc (.deferred (some []))).alloc (.loop rec):=⟨_,rfl⟩
  have hl:W1.heap[w0.heap.size+1]?=some (.loop rec):=by
   rw[iO];have:=World.alloc_heap_new (w0.alloc (.deferred (some []))) (.loop rec);rwa [World.size_alloc]at this
  have hD:W1.heap[w0.heap.size]?=some (.deferred (some [])):=by
   rw[iO];exact(Below.heap_alloc _ _ _ (by simp)).trans (World.alloc_heap_new w0 _)
  have yX:HR w.heap.size W1 dR [tc] [wa k (rQ d0 aT e) []] W1:=by
   rw[iO];exact((dt.hr.alloc _).alloc _).ap1
  have hbW:Below w.heap.size w W1:=by
   rw[iO];exact(dt.hr.dg.alloc hN1 _).alloc (by simp;omega) _
  have arW:a0.eval (.tmp 41)=.func (.func 153) #[] #[vd,va]:=by simp[Act.eval,Array.getD_eq_getD_getElem?,h41]
  refine⟨w0.heap.size+1,[{ target:=.collected w0.heap.size,args:=#[] }],W1,{ target:=.fn (.func 153) #[vd,va],args:=#[.func (.yield (w0.heap.size+1)) #[] #[]] },W1,153,
   #[.func (.yield (w0.heap.size+1)) #[] #[]]++#[vd,va],W1,?_,?_,?_,?_,(fun h=>by simp[FW]at h),?_⟩
  ·rw[iO,rv];exact run_enterLoop_outer _ _ _ _ _
  ·simp[resolve,Deferred.ofValue,Act.eval,h41]
  ·intro f' yw;trivial
  ·simp[invoke,callFunc];rfl
  refine callsIn_wide.2 ?_
  refine(aor k d0 aT xs fV (apa k (rQ d0 aT e) xs J hJ (by omega) dt.size (by rw[hl,rv]) hc9 h9) yX hd ha).mono ?_
  rintro e3 w3 ⟨⟨v,rfl⟩,iK,jU,tM,ahr,anS,anF⟩
  have hNl:w.heap.size<=w0.heap.size+1:=by omega
  have hl3:=tM.cT _ _ hl rfl
  refine⟨_,_,run_endLoop hl3 (by rw[rv];simp[mf]),?_⟩
  have hr4:=tM.other (o':=.loop { rec with state:=.exhausted }) hl3 rfl hNl
  have hC:wa k (rQ d0 aT e) xs=me J:=by unfold wa;rw[hJ];rfl
  rw[hC]at hr4
  have hD4:(w3.putObj (w0.heap.size+1) (.loop { rec with state:=.exhausted })).heap[w0.heap.size]?=some (.deferred (some [])):=by
   rw[World.putObj_heap_other (by omega)];exact tM.cT _ _ hD rfl
  have hb4:Below w.heap.size w3 (w3.putObj (w0.heap.size+1) (.loop { rec with state:=.exhausted })):=aaO hNl hl3
  generalize hw4:w3.putObj (w0.heap.size+1) (.loop { rec with state:=.exhausted })=w4 at hr4 hD4 hb4 ⊢
  have anI:rec.pending=none:=by rw[rv];rfl
  rw[anI]
  refine(show K Try.prog _ [.code (ah (ah (ah (ah (ah (ah (ah BL)))))))] .normal _ w4 from ?_)
  have hSR:@SR ⟨none,[{ target:=.collected w0.heap.size,args:=#[] }],fun _=>none⟩ w.heap.size w4 Try.f124.ntmps (opR J (oL x3 x4)) { a0 with defers:=[{ target:=.collected w0.heap.size,args:=#[] }]++a0.defers } w4 iK jU:=by
   have tu:=dt.dX.1
   refine @SR.mk ⟨none,[{ target:=.collected w0.heap.size,args:=#[] }],fun _=>none⟩ _ _ _ _ _ _ _ _ hr4 ?_ (fun k hk=>anF 0 k (dt.nx k hk)) dt.size ?_
   ·intro t x hx
    have iS:look (ah6 d0 aT e (oL x3 x4)).tm t=some x:=adX (a:=(opR J (oL x3 x4)).tm) [(41,nA d0 aT)] hx
    obtain⟨u,h1,h2⟩:=dt.tm t x iS
    exact⟨u,h1,h2.mono ahr.le anS⟩
   ·refine⟨?_,fun _ _ h=>by cases h⟩
    show [_]++a0.defers=_
    rw[tu];rfl
  rw[FE kY ⟨none,[{ target:=.collected w0.heap.size,args:=#[] }],fun _=>none⟩ rfl]
  refine @AK.last ⟨none,[{ target:=.collected w0.heap.size,args:=#[] }],fun _=>none⟩ _ _ _ _ _ _ _ _ _ _ (fun e st=>e=.ret/\Dx T Try.f124.results.toList (fun y=>NL y (.ar [.agg (cN.c J),.bool (decide (J.records>=oL x3 x4))])) .ret st) _ A0.o7 hSR
   (@ao9 ⟨none,[{ target:=.collected w0.heap.size,args:=#[] }],fun _=>none⟩ J (oL x3 x4)) (by rfl) (by rfl) ?_
  rintro e5 st5 a5 w5 xQ ts5 ⟨rfl,hE⟩ tj xZ
  obtain⟨s1,s2,s3,s4,s5⟩:=tj
  have s5':a5.defers=[{ target:=.collected w0.heap.size,args:=#[] }]:=s5.1
  have hD5:=s1.cT _ _ hD4 rfl
  show LeavesInM FW 0 Try.prog Try.f124 a5.tmps _ a5.defers .returning w5
  rw[s5']
  refine⟨by simp,.inl ⟨w0.heap.size,_,rfl,run_takeDeferred hD5,?_⟩⟩
  have yd:@SR kY w.heap.size (w5.putObj w0.heap.size (.deferred none)) Try.f124.ntmps st5 { a5 with defers:=[] } (w5.putObj w0.heap.size (.deferred none)) xQ ts5:=@SR.mk kY _ _ _ _ _ _ _ _ (s1.other hD5 rfl hN1) s2 s3 s4 ⟨rfl,fun _ _ h=>by cases h⟩
  obtain⟨u,fm6,h1,h2,h3,h4⟩:=ac7 (P:=Try.prog) Ax yd hE
  exact⟨u,h1,u,_,fm6,rfl,rfl,h3,h2,((amX.cS.trans ahr).trans xZ.cS).trans h4,(((hbW.trans tM.dg).trans hb4).trans s1.dg).trans (aaO hN1 hD5)⟩
def Hr.c:SC:=
 SQ [RG [wA 2 145,wB 3 false 4 [3]],RG [wV 9 0 130,wC 10 124 #[.tmp 9,.const (.int .i64 0)] #[130,3] 146 [9],wV 8 10 146 [10],wX 11 8 0 145,wX 12 8 1 4 [8],wA 4 145,wS 145 4 11 [11],wG 5 12 4 [12]],RG [wV 14 0 130 [0],wC 15 124 #[.tmp 14,.const (.int .i64 1)] #[130,3] 146 [14],wV 13 15 146 [15],wX 16 13 0 145,wX 17 13 1 4 [13],wA 6 145,wS 145 6 16 [16],wG 7 17 4 [17]],SQ [RG [wV 18 7 4 [7],
 wV 19 18 4 [18],gd 19 true (wV 20 5 4),gd 19 true (wQ 21 20 4 [20]),gd 19 true (wV 22 21 4 [21]),gd 22 false (wF 23 145 6 2),gd 22 false (wD 24 3 23 [23]),gd 22 false (wF 25 145 4 2),gd 22 false (wD 26 3 25 [25]),gd 22 false (wO 27 .gtr 3 24 26 3 4 [24,26]),gd 19 true (wT 28 22 27 4 [22,27]),wZ 29 19 28 4 [19,28]],CN 29 (SQ [RG [wD 30 145 6 [6],wS 145 2 30 [30],wB 3 true 4],.ret]) .skip],
 RG [wD 31 145 4 [4],wV 32 5 4 [5],wS 145 2 31 [31],wG 3 32 4 [32]],.ret]
def uJ (k:Nat) (d0:az):Option (cN×Bool):=
 (pk k d0 0).bind fun x1=>
 (pk k d0 1).bind fun x2=>
 bif x2.2 then
  bif x1.2 then
   bif decide (x1.1.dE<x2.1.dE) then
    some (x2.1,true)
   else
    some (x1.1,true)
  else
   some (x2.1,true)
 else
  some (x1.1,x1.2)
theorem afx (k:Nat) (d0:az) (r:cN×Bool) (h0:uJ k d0=some r):Aw Try.prog 80 [.aA 2 [az.c d0] 0 0] (fun y=>y=.ar [.agg (cN.c r.1),.bool r.2]):=by
 refine PB Try.f80 Hr.c [.cell 2 145,.tmp 3] ?_
 simp only[uJ]at h0
 try simp only[Hr.c,go_sem]
 refine au h0 (afy k _ _) ?_ (fun x1 h0=>?_)<;>try simp only[go_sem]
 refine au h0 (afy k _ _) ?_ (fun x2 h0=>?_)<;>try simp only[go_sem]
 refine AS h0 ?_ ?_<;>intro c3 h0<;>have F:=c3<;>try simp only[F,go_sem]
 refine AF F h0 ?_ ?_<;>intro F h0<;>try simp only[F,go_sem]
 refine AF F h0 ?_ ?_<;>intro F h0<;>try simp only[F,go_sem]
 obtain rfl:=oi h0
 refine Ag rfl ?_
 try simp only[F,go_sem]
 obtain rfl:=oi h0
 refine Ag rfl ?_
 try simp only[F,go_sem]
 obtain rfl:=oi h0
 refine Ag rfl ?_
 try simp only[F,go_sem]
 obtain rfl:=oi h0
 refine Ag rfl ?_
 try simp only[F,go_sem]
def EI.s0:SC:=
 SQ [RG [wO 14 .lss 3 13 12 3 0],CN 14 .skip (.exit 0),.block 1 (SQ [RG [wV 15 13 3,wG 5 15 3 [15]],.aO [wV 16 0 44,wV 17 5 3,wI 18 44 16 17,wD 19 25 18,wV 20 1 44,wV 21 5 3,wI 22 44 20 21,wD 23 25 22,wO 24 .neq 25 19 23 25 4] [[],[],[0,1],[0,1,2],[],[],[4,5],[4,5,6],[0,1,2,3,4,5,6,7]] [5,16,17,18,19,20,21,22,23],CN 24 (SQ [RG [wB 4 false 4],.ret]) .skip]),RG [wK 25 .add 3 13 1 3 3 [13],
 wV 13 25 3 [25]]]
def EI.c:SC:=
 SQ [RG [wB 4 false 4 [4]],SQ [RG [wV 6 0 44,wL 7 6 44 3 [6],wV 8 1 44,wL 9 8 44 3 [8],wO 10 .neq 3 7 9 3 4 [7,9]],CN 10 (SQ [RG [wB 4 false 4],.ret]) .skip],SQ [RG [wV 11 0 44,wL 12 11 44 3 [11],oQ 13 (.move (.const (.int .i64 0))) 3],.block 0 (.loop EI.s0)],RG [wB 4 true 4],.ret]
def fq.b0 (k:Nat) (gO:(List Ab)) (oR:(List Ab)):Int->Option (AT (Int) (Unit) (Bool)):=fun i2=>
 bif decide (i2<(gO.length:Int)) then
  (at? gO i2).bind fun x4=>
  (at? oR i2).bind fun x5=>
  bif (!(decide (x4.At.Ap=x5.At.Ap)&&(decide (x4.At.No=x5.At.No)&&(decide (x4.Kind=x5.Kind)&&(decide (x4.Day=x5.Day)&&(decide (x4.Bh=x5.Bh)&&(decide (x4.Of.Ap=x5.Of.Ap)&&(decide (x4.Of.No=x5.Of.No)&&(x4.Text.toList==x5.Text.toList))))))))) then
   some (.ret false)
  else
   some (.next (ab (i2+1)))
 else
  some (.brk ())
def fq.h0 (gO:(List Ab)) (oR:(List Ab)):Int->St:=fun i2=>⟨[(0,.sl 8 (List.map Ab.c gO)),(1,.sl 8 (List.map Ab.c oR)),(12,.int .i64 (gO.length:Int)),(13,.int .i64 i2)],[],[],1,Try.f81.ntmps⟩
def fq.x0:Unit->St:=fun _=>⟨[],[],[],1,Try.f81.ntmps⟩
def fq (k:Nat) (gO:(List Ab)) (oR:(List Ab)):Option (Bool):=
 bif (!decide ((gO.length:Int)=(oR.length:Int))) then
  some false
 else
  (aj (fq.b0 k gO oR) k 0).bind fun r7=>match r7 with
  |.next _=>none
  |.ret v_=>some v_
  |.brk _=>
   some true
theorem aqq (k:Nat) (gO:(List Ab)) (oR:(List Ab)) (r:Bool) (h0:fq k gO oR=some r):Aw Try.prog 81 [.sl 8 (List.map Ab.c gO),.sl 8 (List.map Ab.c oR)] (fun y=>y=.bool r):=by
 refine PB Try.f81 EI.c [.tmp 4] ?_
 simp only[fq]at h0
 try simp only[EI.c,go_sem]
 refine Cr h0 ?_ ?_<;>intro c1 h0<;>have F:=c1<;>try simp only[F,go_sem]
 obtain rfl:=oi h0
 refine Ag rfl ?_
 try simp only[F,go_sem]
 obtain⟨r7,kF,h0⟩:=bs h0
 refine Bf kF (fq.h0 gO oR) (fq.x0) ?_ ?_ ?_
 refine Ah.go [0,1,12,13] [] rfl ?_
 try simp only[fq.h0,F,go_sem]
 rintro i2 cO Bm Bn h1 aJ aH bK
 refine rS ?_
 simp only[fq.b0]at h1
 try simp only[EI.s0,fq.h0,F,go_sem]
 refine AF F h1 ?_ ?_<;>intro F h1<;>try simp only[F,go_sem]
 refine AL Ax aS 1000 ?_
 try simp only[F,go_sem]
 obtain⟨x4,bN,h1⟩:=bs h1
 have F:=an (aC bN) (an (aD Ab.c bN) F)
 try simp only[F,go_sem]
 obtain⟨x5,cw,h1⟩:=bs h1
 have F:=an (aC cw) (an (aD Ab.c cw) F)
 try simp only[F,go_sem]
 refine aF ?_
 try simp only[F,go_sem]
 refine Bt F h1 ?_ ?_<;>intro F h1<;>try simp only[F,go_sem]
 obtain rfl:=bK _ (oi h1).symm
 simp only at h0
 obtain rfl:=oi h0
 refine Ag rfl ?_
 try simp only[F,go_sem]
 refine AB (aJ _ _ (oi h1).symm (Ah.go [0,1,12,13] [] rfl ?_))
 try simp only[fq.h0,F,go_sem]
 refine AB (aH _ _ (oi h1).symm (Ah.go [] [] rfl ?_))
 try simp only[fq.x0,F,go_sem]
 rintro _ aK
 subst aK
 simp only at h0
 refine rS ?_
 try simp only[fq.x0,F,go_sem]
 obtain rfl:=oi h0
 refine Ag rfl ?_
 try simp only[F,go_sem]
def EJ.s0:SC:=
 SQ [SQ [RG [wV 10 8 3,wK 11 .lss 3 10 602 3 4 [10]],CN 11 .skip (.exit 0)],.block 1 (RG [wV 14 7 3 [7],wV 15 0 130,wV 16 1 3,wV 17 8 3,wC 18 125 #[.tmp 15,.tmp 16,.tmp 17] #[130,3,3] 126 [15,16,17],wU 19 126 18 126 3 [18],oQ 20 (.call ⟨.builtin .max,#[.tmp 14,.tmp 19],#[3,3]⟩) 3 [14,19],wG 7 20 3 [20]]),RG [wV 12 8 3 [8],wK 13 .add 3 12 1 3 3 [12],wG 8 13 3 [13]]]
def EJ.c:SC:=
 SQ [RG [wN 6 0 3 [6]],RG [wN 7 0 3],SQ [RG [wV 9 2 3 [2],wG 8 9 3 [9]],.block 0 (.loop EJ.s0)],RG [wV 21 7 3 [7],wG 6 21 3 [21]],.ret]
def dy.b0 (k:Nat) (d0:az) (aT:Int):(Int×Int)->Option (AT (Int×Int) (Int) (Int)):=fun s=>match s with
 |(i1,i2)=>
   bif decide (i2<(602:Int)) then
    (m4 k d0 aT i2).bind fun x5=>
    (pn k x5).bind fun x6=>
    some (.next (max i1 x6,ab (i2+1)))
   else
    some (.brk i1)
def dy.h0 (d0:az) (aT:Int):(Int×Int)->St:=fun s=>match s with
 |(i1,i2)=>⟨[(0,.aA 2 [az.c d0] 0 0),(1,.int .i64 aT),(7,.int .i64 i1),(8,.int .i64 i2)],[],[],1,Try.f82.ntmps⟩
def dy.x0:Int->St:=fun i3=>⟨[(7,.int .i64 i3)],[],[],1,Try.f82.ntmps⟩
def dy (k:Nat) (d0:az) (aT:Int) (aX:Int):Option (Int):=
 (aj (dy.b0 k d0 aT) k (0,aX)).bind fun r7=>match r7 with
 |.next _=>none
 |.ret v_=>some v_
 |.brk i3=>
  some i3
theorem xp (k:Nat) (d0:az) (aT:Int) (aX:Int) (r:Int) (h0:dy k d0 aT aX=some r):Aw Try.prog 82 [.aA 2 [az.c d0] 0 0,.int .i64 aT,.int .i64 aX] (fun y=>y=.int .i64 r):=by
 refine PB Try.f82 EJ.c [.tmp 6] ?_
 simp only[dy]at h0
 try simp only[EJ.c,go_sem]
 obtain⟨r7,kF,h0⟩:=bs h0
 refine Bf kF (dy.h0 d0 aT) (dy.x0) ?_ ?_ ?_
 refine Ah.go [0,1,7,8] [] rfl ?_
 try simp only[dy.h0,go_sem]
 rintro⟨i1,i2⟩ cO Bm Bn h1 aJ aH bK
 refine rS ?_
 simp only[dy.b0]at h1
 try simp only[EJ.s0,dy.h0,go_sem]
 refine AS h1 ?_ ?_<;>intro c4 h1<;>have F:=c4<;>try simp only[F,go_sem]
 refine au h1 (uI k _ _ _) ?_ (fun x5 h1=>?_)<;>try simp only[F,go_sem]
 refine au h1 (aaR k _) ?_ (fun x6 h1=>?_)<;>try simp only[F,go_sem]
 refine AB (aJ _ _ (oi h1).symm (Ah.go [0,1,7,8] [] rfl ?_))
 try simp only[dy.h0,F,go_sem]
 refine AB (aH _ _ (oi h1).symm (Ah.go [7] [] rfl ?_))
 try simp only[dy.x0,F,go_sem]
 rintro i3 aK
 subst aK
 simp only at h0
 refine rS ?_
 try simp only[dy.x0,go_sem]
 obtain rfl:=oi h0
 refine Ag rfl ?_
 try simp only[go_sem]
def G9.c:SC:=
 SQ [RG [wE 2 42 0 [0],wE 3 48 1 [1],wN 4 0 28 [4]],SQ [RG [wD 8 42 2,wU 9 78 8 42 4 [8],wQ 10 9 4 [9]],CN 10 (SQ [RG [wN 4 94 28],.ret]) .skip],RG [wD 11 42 2 [2],wU 12 72 11 42 130 [11],wU 13 79 12 130 130 [12],wG 5 13 130 [13]],RG [wV 15 5 130,wU 16 80 15 130 146 [15],wV 14 16 146 [16],wX 17 14 0 145,wX 18 14 1 4 [14],wA 6 145,wS 145 6 17 [17],wG 7 18 4 [18]],SQ [RG [wV 19 7 4 [7],
 wQ 20 19 4 [19],wV 21 20 4 [20],gd 21 false (wF 22 48 3 1),gd 21 false (wD 23 3 22 [22]),gd 21 false (wF 24 145 6 1),gd 21 false (wD 25 3 24 [24]),gd 21 false (wO 26 .neq 3 23 25 3 4 [23,25]),wT 27 21 26 4 [21,26],wV 28 27 4 [27],gd 28 false (wF 29 48 3 3),gd 28 false (wD 30 3 29 [29]),gd 28 false (wF 31 145 6 3),gd 28 false (wD 32 3 31 [31]),gd 28 false (wO 33 .neq 3 30 32 3 4 [30,32]),
 wT 34 28 33 4 [28,33],wV 35 34 4 [34],gd 35 false (wF 36 48 3 0),gd 35 false (wF 37 46 36 0 [36]),gd 35 false (wD 38 44 37 [37]),gd 35 false (wF 39 145 6 4),gd 35 false (wF 40 46 39 0 [39]),gd 35 false (wD 41 44 40 [40]),gd 35 false (wW 42 81 38 41 44 44 4 [38,41]),gd 35 false (wQ 43 42 4 [42]),wT 44 35 43 4 [35,43],wV 45 44 4 [44],gd 45 false (wF 46 48 3 2),gd 45 false (wD 47 3 46 [46]),
 gd 45 false (wC 48 65 #[.tmp 47,.const (.int .i64 1),.const (.int .i64 1000000)] #[3,3,3] 4 [47]),gd 45 false (wQ 49 48 4 [48]),wT 50 45 49 4 [45,49]],CN 50 (SQ [RG [wN 4 94 28],.ret]) .skip],SQ [.aO [wF 51 48 3 2,wD 52 3 51,wV 53 5 130,wC 54 82 #[.tmp 53,.const (.int .i64 0),.const (.int .i64 0)] #[130,3,3] 3,wV 55 5 130,wC 56 82 #[.tmp 55,.const (.int .i64 1),.const (.int .i64 0)] #[130,3,
 3] 3,oQ 57 (.call ⟨.builtin .max,#[.tmp 54,.tmp 56],#[3,3]⟩) 3,wO 58 .lss 3 52 57 3 4,wV 59 58 4,gd 59 false (wF 60 48 3 2),gd 59 false (wD 61 3 60),gd 59 false (wV 62 5 130),gd 59 false (wF 63 145 6 1),gd 59 false (wD 64 3 63),gd 59 false (wF 65 145 6 3),gd 59 false (wD 66 3 65),gd 59 false (wC 67 82 #[.tmp 62,.tmp 64,.tmp 66] #[130,3,3] 3),gd 59 false (wO 68 .leq 3 61 67 3 4),wT 69 59 68 4] [[],
 [0],[],[2],[],[4,2,3],[2,3,4,5],[0,1,2,3,4,5,6],[0,1,2,3,4,5,6,7],[0,1,2,3,4,5,6,7,8],[0,1,2,3,4,5,6,7,8,9],[0,1,2,3,4,5,6,7,8],[0,1,2,3,4,5,6,7,8],[0,1,2,3,4,5,6,7,8,12],[0,1,2,3,4,5,6,7,8],[0,1,2,3,4,5,6,7,8,14],[0,1,2,3,4,5,6,7,8,11,12,13,14,15],[0,1,2,3,4,5,6,7,8,9,10,11,12,13,14,15,16],[0,1,2,3,4,5,6,7,8,9,10,11,12,13,14,15,16,17]] [3,5,6,51,52,53,54,55,56,57,58,59,60,61,62,63,64,65,66,67,
 68],CN 69 (SQ [RG [wN 4 94 28],.ret]) .skip],RG [wN 4 0 28],.ret]
def kJ (k:Nat) (d0:Ac) (l1:Ay):Option (Int):=
 (sI k d0).bind fun x1=>
 bif (!x1) then
  some 94
 else
  (nQ k d0).bind fun x4=>
  (gf k x4).bind fun x6=>
  (uJ k (⟨(⟨x6.Ac.Ae,[]⟩:Ac)⟩:az)).bind fun x7=>
  bif x7.2 then
   bif decide (l1.BB=x7.1.aW) then
    bif decide (l1.Used=x7.1.used) then
     (fq k l1.Ai.Al x7.1.book.Al).bind fun df=>
     bif df then
      (lA k l1.AG 1 1000000).bind fun cF=>
      bif (!cF) then
       some 94
      else
       (dy k (⟨(⟨x6.Ac.Ae,[]⟩:Ac)⟩:az) 0 0).bind fun cM=>
       (dy k (⟨(⟨x6.Ac.Ae,[]⟩:Ac)⟩:az) 1 0).bind fun dx=>
       bif (!decide (l1.AG<max cM dx)) then
        (dy k (⟨(⟨x6.Ac.Ae,[]⟩:Ac)⟩:az) x7.1.aW x7.1.used).bind fun nJ=>
        bif decide (l1.AG<=nJ) then
         some 94
        else
         some 0
       else
        some 94
     else
      some 94
    else
     some 94
   else
    some 94
  else
   some 94
theorem afs (k:Nat) (d0:Ac) (l1:Ay) (r:Int) (h0:kJ k d0 l1=some r):Aw Try.prog 24 [.agg (Ac.c d0),.agg (Ay.c l1)] (fun y=>y=.int .i64 r):=by
 refine PB Try.f24 G9.c [.tmp 4] ?_
 simp only[kJ]at h0
 try simp only[G9.c,go_sem]
 refine au h0 (acy k _) ?_ (fun x1 h0=>?_)<;>try simp only[go_sem]
 refine Cr h0 ?_ ?_<;>intro c2 h0<;>have F:=c2<;>try simp only[F,go_sem]
 obtain rfl:=oi h0
 refine Ag rfl ?_
 try simp only[F,go_sem]
 obtain⟨x4,bN,h0⟩:=bs h0
 refine CG Ax 1000 [] [] (xo k _ _ bN) ?_ rfl ?_
 try simp only[fN,F,go_sem]
 try simp only[F,go_sem]
 obtain⟨x6,dQ,h0⟩:=bs h0
 refine Fc [3,10] [112,113,114,16] 4 rfl ?_
 try simp only[F,go_sem]
 refine Fb (acx k _ _ dQ) ?_ ?_
 try simp only[F,go_sem]
 try simp only[List.take_succ_cons,List.drop_succ_cons,AA,Az,F,go_sem]
 refine AK.su (Ah.fz 1 rfl (fun _ h=>by cases h)) ?_
 try simp only[F,go_sem]
 refine AK.ahX 0 1 65 rfl rfl ?_
 try simp only[F,go_sem]
 refine AK.su (Ah.fz 0 rfl (fun _ h=>by cases h;rfl)) ?_
 try simp only[F,go_sem]
 refine rS ?_
 try simp only[F,go_sem]
 refine au h0 (afx k _) ?_ (fun x7 h0=>?_)<;>try simp only[F,go_sem]
 refine AF F h0 ?_ ?_<;>intro F h0<;>try simp only[F,go_sem]
 refine AF F h0 ?_ ?_<;>intro F h0<;>try simp only[F,go_sem]
 refine AF F h0 ?_ ?_<;>intro F h0<;>try simp only[F,go_sem]
 refine au h0 (aqq k _ _) ?_ (fun df h0=>?_)<;>try simp only[F,go_sem]
 refine AF F h0 ?_ ?_<;>intro F h0<;>try simp only[F,go_sem]
 refine au h0 (pq k _ _ _) ?_ (fun cF h0=>?_)<;>try simp only[F,go_sem]
 refine Bt F h0 ?_ ?_<;>intro F h0<;>try simp only[F,go_sem]
 obtain rfl:=oi h0
 refine Ag rfl ?_
 try simp only[F,go_sem]
 refine AL Ax aS 1000 ?_
 try simp only[F,go_sem]
 refine cn h0 (xp k _ _ _) ?_ (fun cM h0=>?_)<;>try simp only[F,go_sem]
 refine cn h0 (xp k _ _ _) ?_ (fun dx h0=>?_)<;>try simp only[F,go_sem]
 refine Fh F h0 ?_ ?_<;>intro F h0<;>try simp only[F,go_sem]
 refine cn h0 (xp k _ _ _) ?_ (fun nJ h0=>?_)<;>try simp only[F,go_sem]
 refine aF ?_
 try simp only[F,go_sem]
 refine AF F h0 ?_ ?_<;>intro F h0<;>try simp only[F,go_sem]
 obtain rfl:=oi h0
 refine Ag rfl ?_
 try simp only[F,go_sem]
 obtain rfl:=oi h0
 refine Ag rfl ?_
 try simp only[F,go_sem]
 refine aF ?_
 try simp only[F,go_sem]
 obtain rfl:=oi h0
 refine Ag rfl ?_
 try simp only[F,go_sem]
 obtain rfl:=oi h0
 refine Ag rfl ?_
 try simp only[F,go_sem]
 obtain rfl:=oi h0
 refine Ag rfl ?_
 try simp only[F,go_sem]
 obtain rfl:=oi h0
 refine Ag rfl ?_
 try simp only[F,go_sem]
 obtain rfl:=oi h0
 refine Ag rfl ?_
 try simp only[F,go_sem]
def Hp.c:SC:=
 SQ [RG [wE 1 48 0 [0],wA 2 48],RG [wF 3 48 1 0,wD 4 46 3 [3],wU 5 96 4 46 46 [4],wF 6 48 1 0,wS 46 6 5 [5,6]],RG [wD 7 48 1 [1],wS 48 2 7 [7]],.ret]
def xn (k:Nat) (l0:Ay):Option (Ay):=
 (uH k l0.Ai).bind fun x1=>
 some (⟨x1,l0.BB,l0.AG,l0.Used⟩:Ay)
theorem alg (k:Nat) (l0:Ay) (r:Ay) (h0:xn k l0=some r):Aw Try.prog 73 [.agg (Ay.c l0)] (fun y=>y=.agg (Ay.c r)):=by
 refine PB Try.f73 Hp.c [.cell 2 48] ?_
 simp only[xn]at h0
 try simp only[Hp.c,go_sem]
 refine au h0 (afw k _) ?_ (fun x1 h0=>?_)<;>try simp only[go_sem]
 obtain rfl:=oi h0
 refine Ag rfl ?_
 try simp only[go_sem]
def Dc.s1:SC:=
 .block 3 (SQ [RG [wV 37 2 3,wV 38 9 3,wO 39 .add 3 37 38 3 3 [37,38],wK 40 .rem 3 39 2 3 3 [39],wV 41 3 124,wV 42 9 3,wI 43 124 41 42 [41,42],wD 44 126 43 [43],wI 45 139 11 40 [40],wS 122 45 44 [44,45]],RG [wV 46 9 3 [9],wK 47 .add 3 46 1 3 3 [46],wG 9 47 3 [47]],RG [wV 48 9 3,wV 49 3 124,wL 50 49 124 3 [49],wO 51 .eql 3 48 50 3 4 [48,50],wV 52 51 4 [51],gd 52 false (wV 53 2 3),
 gd 52 false (wV 54 9 3),gd 52 false (wO 55 .add 3 53 54 3 3 [53,54]),gd 52 false (wK 56 .rem 3 55 2 3 3 [55]),gd 52 false (wK 57 .eql 3 56 0 3 4 [56]),wT 58 52 57 4 [52,57]],CN 58 (.exit 2) .skip])
def Dc.s0:SC:=
 SQ [SQ [RG [wV 18 9 3,wV 19 3 124,wL 20 19 124 3 [19],wO 21 .lss 3 18 20 3 4 [18,20]],CN 21 .skip (.exit 0)],.block 1 (SQ [RG [wV 22 1 3,wK 23 .mul 3 22 301 3 3 [22],wV 24 2 3,wV 25 9 3,wO 26 .add 3 24 25 3 3 [24,25],wK 27 .quo 3 26 2 3 3 [26],wO 28 .add 3 23 27 3 3 [23,27],wG 10 28 3 [28]],RG [wV 29 8 130,oQ 30 (.nilCheck (.tmp 29)) 0 [29],wF 31 134 30 0 [30],wF 32 42 31 0 [31],wD 33 39 32 [32],
 wV 34 10 3,wI 35 39 33 34 [33,34],wD 36 139 35 [35],wA 11 139,wS 139 11 36 [36]],.block 2 (.loop Dc.s1),.aO [wV 59 0 130,wV 60 0 130,oQ 61 (.nilCheck (.tmp 60)) 0,wF 62 134 61 0,wF 63 42 62 1,wD 64 40 63,wV 65 10 3,wD 66 139 11,oQ 67 (.build 141 #[(0,.tmp 65),(1,.tmp 66)]) 141,oQ 68 (.buildSlice 40 1 #[(0,.tmp 67)]) 40,wP 69 64 68 40 40 40,oQ 70 (.nilCheck (.tmp 59)) 0,wF 71 134 70 0,
 wF 72 42 71 1,wS 40 72 69] [[],[],[1],[1,2],[1,2,3],[1,2,3,4],[],[],[6,7],[6,7,8],[1,2,3,4,5,6,7,8,9],[0,1,2,3,4,5,6,7,8,9,10],[0,1,2,3,4,5,6,7,8,9,10,11],[0,1,2,3,4,5,6,7,8,9,10,11,12],[0,1,2,3,4,5,6,7,8,9,10,11,12,13]] [10,11,59,60,61,62,63,64,65,66,67,68,69,70,71,72]])]
def Dc.c:SC:=
 SQ [RG [wV 12 0 130,oQ 13 (.nilCheck (.tmp 12)) 0 [12],wF 14 134 13 0 [13],wD 15 42 14 [14],wU 16 72 15 42 130 [15],wU 17 79 16 130 130 [16],wG 8 17 130 [17]],RG [wN 9 0 3],.block 0 (.loop Dc.s0)]
theorem Dc.rs:Try.f74.results.toList=[]:=rfl
def bT.b1 (k:Nat) (aX:Int) (l3:(List (Aa 32 Int))):((Aa 2 (Aa 32 Int))×Int)->Option (AT ((Aa 2 (Aa 32 Int))×Int) ((Aa 2 (Aa 32 Int))×Int) (az)):=fun s=>match s with
 |(gO,i11)=>
   (at? l3 i11).bind fun bM=>
   (gO.at? (Int.tmod (ab (aX+i11)) 2)).bind fun cM=>
   bif (!decide (ab (i11+1)=(l3.length:Int))) then
    bif decide (Int.tmod (ab (aX+(ab (i11+1)))) 2=(0:Int)) then
     some (.brk (gO.set (Int.tmod (ab (aX+i11)) 2) bM,ab (i11+1)))
    else
     some (.next (gO.set (Int.tmod (ab (aX+i11)) 2) bM,ab (i11+1)))
   else
    some (.brk (gO.set (Int.tmod (ab (aX+i11)) 2) bM,ab (i11+1)))
def bT.b0 (k:Nat) (aT:Int) (aX:Int) (l3:(List (Aa 32 Int))) (x4:az):(Int×(List Aq))->Option (AT (Int×(List Aq)) ((List Aq)) (az)):=fun s=>match s with
 |(i5,l6)=>
   bif decide (i5<(l3.length:Int)) then
    (at? x4.Ac.Ae (ab ((ab (aT*301))+(ab (Int.tdiv (ab (aX+i5)) 2))))).bind fun x9=>
    (aj (bT.b1 k aX l3) k (x9,i5)).bind fun zZ=>match zZ with
    |.next _=>none
    |.ret v_=>some (.ret v_)
    |.brk (s12,i13)=>
     (fG 72 l6 (⟨ab ((ab (aT*301))+(ab (Int.tdiv (ab (aX+i5)) 2))),s12⟩:Aq)).bind fun rJ=>
     some (.next (i13,rJ))
   else
    some (.brk l6)
def bT.h1 (f1:Av) (H:Heap) (d0:az) (aT:Int) (aX:Int) (l3:(List (Aa 32 Int))) (x4:az) (i5:Int) (l6:(List Aq)):((Aa 2 (Aa 32 Int))×Int)->St:=fun s=>match s with
 |(gO,i11)=>⟨[(0,.ptr 1 0 0),(1,.int .i64 aT),(2,.int .i64 aX),(3,.sl 32 (List.map (Aa.c (n:=32) af) l3)),(8,.ptr 0 0 0),(9,.int .i64 i11),(10,.int .i64 (ab ((ab (aT*301))+(ab (Int.tdiv (ab (aX+i5)) 2))))),(11,.ptr 0 2 0)],[(0,.box ([.loc 0 1 64 0 x4.Ac.Ae.length x4.Ac.Ae.length,.nil])),(1,.arr 139 64 (List.map (Aa.c (n:=2) (Aa.c (n:=32) af)) x4.Ac.Ae)),(2,.box (Aa.c (n:=2) (Aa.c (n:=32) af) gO))],((0,.box ([.loc 0 1 64 0 d0.Ac.Ae.length d0.Ac.Ae.length,.loc 0 2 65 0 l6.length l6.length]))::(1,.arr 139 64 (List.map (Aa.c (n:=2) (Aa.c (n:=32) af)) d0.Ac.Ae))::(2,.arr 141 65 (List.map Aq.c l6))::f1)::H,3,Try.f74.ntmps⟩
def bT.x1 (f1:Av) (H:Heap) (d0:az) (aT:Int) (aX:Int) (l3:(List (Aa 32 Int))) (x4:az) (i5:Int) (l6:(List Aq)):((Aa 2 (Aa 32 Int))×Int)->St:=fun s=>match s with
 |(s12,i13)=>⟨[(0,.ptr 1 0 0),(1,.int .i64 aT),(2,.int .i64 aX),(3,.sl 32 (List.map (Aa.c (n:=32) af) l3)),(8,.ptr 0 0 0),(9,.int .i64 i13),(10,.int .i64 (ab ((ab (aT*301))+(ab (Int.tdiv (ab (aX+i5)) 2))))),(11,.ptr 0 2 0)],[(0,.box ([.loc 0 1 64 0 x4.Ac.Ae.length x4.Ac.Ae.length,.nil])),(1,.arr 139 64 (List.map (Aa.c (n:=2) (Aa.c (n:=32) af)) x4.Ac.Ae)),(2,.box (Aa.c (n:=2) (Aa.c (n:=32) af) s12))],((0,.box ([.loc 0 1 64 0 d0.Ac.Ae.length d0.Ac.Ae.length,.loc 0 2 65 0 l6.length l6.length]))::(1,.arr 139 64 (List.map (Aa.c (n:=2) (Aa.c (n:=32) af)) d0.Ac.Ae))::(2,.arr 141 65 (List.map Aq.c l6))::f1)::H,3,Try.f74.ntmps⟩
def bT.h0 (f1:Av) (H:Heap) (d0:az) (aT:Int) (aX:Int) (l3:(List (Aa 32 Int))) (x4:az):(Int×(List Aq))->St:=fun s=>match s with
 |(i5,l6)=>⟨[(0,.ptr 1 0 0),(1,.int .i64 aT),(2,.int .i64 aX),(3,.sl 32 (List.map (Aa.c (n:=32) af) l3)),(8,.ptr 0 0 0),(9,.int .i64 i5)],[(0,.box ([.loc 0 1 64 0 x4.Ac.Ae.length x4.Ac.Ae.length,.nil])),(1,.arr 139 64 (List.map (Aa.c (n:=2) (Aa.c (n:=32) af)) x4.Ac.Ae))],((0,.box ([.loc 0 1 64 0 d0.Ac.Ae.length d0.Ac.Ae.length,.loc 0 2 65 0 l6.length l6.length]))::(1,.arr 139 64 (List.map (Aa.c (n:=2) (Aa.c (n:=32) af)) d0.Ac.Ae))::(2,.arr 141 65 (List.map Aq.c l6))::f1)::H,2,Try.f74.ntmps⟩
def bT.x0 (f1:Av) (H:Heap) (d0:az):(List Aq)->St:=fun l7=>⟨[],[],((0,.box ([.loc 0 1 64 0 d0.Ac.Ae.length d0.Ac.Ae.length,.loc 0 2 65 0 l7.length l7.length]))::(1,.arr 139 64 (List.map (Aa.c (n:=2) (Aa.c (n:=32) af)) d0.Ac.Ae))::(2,.arr 141 65 (List.map Aq.c l7))::f1)::H,1,Try.f74.ntmps⟩
def bT (k:Nat) (d0:az) (aT:Int) (aX:Int) (l3:(List (Aa 32 Int))):Option (az):=
 (nQ k d0.Ac).bind fun x2=>
 (gf k x2).bind fun x4=>
 (aj (bT.b0 k aT aX l3 x4) k (0,d0.Ac.Ad)).bind fun rX=>match rX with
 |.next _=>none
 |.ret v_=>some v_
 |.brk l7=>
  some (⟨(⟨d0.Ac.Ae,l7⟩:Ac)⟩:az)
theorem alk (k:Nat) (d0:az) (aT:Int) (aX:Int) (l3:(List (Aa 32 Int))) (r:az) (h0:bT k d0 aT aX l3=some r):DO Try.prog 74 [.ptr 1 0 0,.int .i64 aT,.int .i64 aX,.sl 32 (List.map (Aa.c (n:=32) af) l3)] [(0,.box ([.loc 0 1 64 0 d0.Ac.Ae.length d0.Ac.Ae.length,.loc 0 2 65 0 d0.Ac.Ad.length d0.Ac.Ad.length])),(1,.arr 139 64 (List.map (Aa.c (n:=2) (Aa.c (n:=32) af)) d0.Ac.Ae)),(2,.arr 141 65 (List.map Aq.c d0.Ac.Ad))] (fun y fr X'=>y=.ar []/\fr=[]/\X'=[(0,.box ([.loc 0 1 64 0 r.Ac.Ae.length r.Ac.Ae.length,.loc 0 2 65 0 r.Ac.Ad.length r.Ac.Ad.length])),(1,.arr 139 64 (List.map (Aa.c (n:=2) (Aa.c (n:=32) af)) r.Ac.Ae)),(2,.arr 141 65 (List.map Aq.c r.Ac.Ad))]):=by
 refine DO.gr Ax (fn:=Try.f74) (sc:=Dc.c) (by rfl) (by rfl) (by decide +kernel) (by rfl) (by decide +kernel) (Nat.le_of_ble_eq_true rfl) (fun f1 H=>?_)
 refine rS ?_
 simp only[Bq,BM]
 simp only[bT]at h0
 try simp only[Dc.c,go_sem]
 obtain⟨x2,eo,h0⟩:=bs h0
 refine HX Ax 1000 (xo k _ _ eo) ?_ rfl ⟨(by simp[AH.lo,AV.lo]),Lf.map (Lf.vec (Lf.vec ahH)) _,Lf.map aoE _,trivial⟩ ?_
 try simp only[cQ,go_sem]
 try simp only[go_sem]
 obtain⟨x4,bN,h0⟩:=bs h0
 refine Fc [0,1,2,3] [64,65,66] 3 rfl ?_
 try simp only[go_sem]
 refine Fb (acx k _ _ bN) ?_ ?_
 try simp only[go_sem]
 try simp only[List.take_succ_cons,List.drop_succ_cons,AA,Az,go_sem]
 refine rS ?_
 try simp only[go_sem]
 obtain⟨rX,aay,h0⟩:=bs h0
 refine Bf aay (bT.h0 f1 H d0 aT aX l3 x4) (bT.x0 f1 H d0) ?_ ?_ ?_
 refine Ah.go [0,1,2,3,8,9] [0,1] rfl ?_
 try simp only[bT.h0,go_sem]
 repeat' (first|exact NL.refl _|exact NL.nil _|exact A1.refl _|exact A1.nil|exact Bu.refl _|exact Bu.nil|exact Ca.nil|exact BX.nil|refine Ca.cons _ _ _ _ _ ?_ ?_|refine BX.cons _ _ _ _ _ ?_ ?_|refine Ce.box _ _ ?_|refine Ce.arr _ _ _ _ ?_|refine A1.cons ?_ ?_|refine A1.append ?_ ?_|refine NL.mm ?_|refine NL.um ?_|refine NL.wz ?_|refine Bu.append ?_ ?_|refine Bu.cons ?_ ?_|with_reducible refine And.intro ?_ ?_|rfl)
 rintro⟨i5,l6⟩ cO Bm Bn h1 aJ aH bK
 refine rS ?_
 simp only[bT.b0]at h1
 try simp only[Dc.s0,bT.h0,go_sem]
 refine AS h1 ?_ ?_<;>intro c8 h1<;>have F:=c8<;>try simp only[F,go_sem]
 obtain⟨x9,ft,h1⟩:=bs h1
 have F:=an (aC ft) (an (aD (Aa.c (n:=2) (Aa.c (n:=32) af)) ft) F)
 try simp only[F,go_sem]
 obtain⟨zZ,aeZ,h1⟩:=bs h1
 refine Bf aeZ (bT.h1 f1 H d0 aT aX l3 x4 i5 l6) (bT.x1 f1 H d0 aT aX l3 x4 i5 l6) ?_ ?_ ?_
 refine Ah.go [0,1,2,3,8,9,10,11] [0,1,322] rfl ?_
 try simp only[bT.h1,F,go_sem]
 repeat' (first|exact NL.refl _|exact NL.nil _|exact A1.refl _|exact A1.nil|exact Bu.refl _|exact Bu.nil|exact Ca.nil|exact BX.nil|refine Ca.cons _ _ _ _ _ ?_ ?_|refine BX.cons _ _ _ _ _ ?_ ?_|refine Ce.box _ _ ?_|refine Ce.arr _ _ _ _ ?_|refine A1.cons ?_ ?_|refine A1.append ?_ ?_|refine NL.mm ?_|refine NL.um ?_|refine NL.wz ?_|refine Bu.append ?_ ?_|refine Bu.cons ?_ ?_|with_reducible refine And.intro ?_ ?_|rfl)
 rintro⟨gO,i11⟩ x_2 Fz FA h2 pW rk adJ
 refine rS ?_
 simp only[bT.b1]at h2
 try simp only[Dc.s1,bT.h1,F,go_sem]
 obtain⟨bM,sE,h2⟩:=bs h2
 have F:=an (aC sE) (an (aD (Aa.c (n:=32) af) sE) F)
 try simp only[F,go_sem]
 obtain⟨cM,oX,h2⟩:=bs h2
 have ab0:=Ao.bH gA (Ao.self fv gO) oX
 have aak:=ab0.2
 try simp only[AA,Az,go_sem]at aak
 have q16:=ab0.1.ow bM
 try simp only[AA,Az,go_sem]at q16
 have F:=an (aq oX) (an aak F)
 try simp only[q16,F,go_sem]
 refine Bt F h2 ?_ ?_<;>intro F h2<;>try simp only[F,go_sem]
 refine AF F h2 ?_ ?_<;>intro F h2<;>try simp only[F,go_sem]
 refine AB (rk _ _ (oi h2).symm (Ah.go [0,1,2,3,8,9,10,11] [0,1,2] rfl ?_))
 try simp only[bT.x1,F,go_sem]
 repeat' (first|exact NL.refl _|exact NL.nil _|exact A1.refl _|exact A1.nil|exact Bu.refl _|exact Bu.nil|exact Ca.nil|exact BX.nil|refine Ca.cons _ _ _ _ _ ?_ ?_|refine BX.cons _ _ _ _ _ ?_ ?_|refine Ce.box _ _ ?_|refine Ce.arr _ _ _ _ ?_|refine A1.cons ?_ ?_|refine A1.append ?_ ?_|refine NL.mm ?_|refine NL.um ?_|refine NL.wz ?_|refine Bu.append ?_ ?_|refine Bu.cons ?_ ?_|with_reducible refine And.intro ?_ ?_|rfl)
 refine AB (pW _ _ (oi h2).symm (Ah.go [0,1,2,3,8,9,10,11] [0,1,2] rfl ?_))
 try simp only[bT.h1,F,go_sem]
 repeat' (first|exact NL.refl _|exact NL.nil _|exact A1.refl _|exact A1.nil|exact Bu.refl _|exact Bu.nil|exact Ca.nil|exact BX.nil|refine Ca.cons _ _ _ _ _ ?_ ?_|refine BX.cons _ _ _ _ _ ?_ ?_|refine Ce.box _ _ ?_|refine Ce.arr _ _ _ _ ?_|refine A1.cons ?_ ?_|refine A1.append ?_ ?_|refine NL.mm ?_|refine NL.um ?_|refine NL.wz ?_|refine Bu.append ?_ ?_|refine Bu.cons ?_ ?_|with_reducible refine And.intro ?_ ?_|rfl)
 refine AB (rk _ _ (oi h2).symm (Ah.go [0,1,2,3,8,9,10,11] [0,1,2] rfl ?_))
 try simp only[bT.x1,F,go_sem]
 repeat' (first|exact NL.refl _|exact NL.nil _|exact A1.refl _|exact A1.nil|exact Bu.refl _|exact Bu.nil|exact Ca.nil|exact BX.nil|refine Ca.cons _ _ _ _ _ ?_ ?_|refine BX.cons _ _ _ _ _ ?_ ?_|refine Ce.box _ _ ?_|refine Ce.arr _ _ _ _ ?_|refine A1.cons ?_ ?_|refine A1.append ?_ ?_|refine NL.mm ?_|refine NL.um ?_|refine NL.wz ?_|refine Bu.append ?_ ?_|refine Bu.cons ?_ ?_|with_reducible refine And.intro ?_ ?_|rfl)
 rintro⟨s12,i13⟩ aK
 subst aK
 simp only at h1
 refine rS ?_
 try simp only[bT.x1,F,go_sem]
 refine AL Ax aS 1000 ?_
 try simp only[F,go_sem]
 obtain⟨rJ,aav,h1⟩:=bs h1
 have sB:=pu Aq.c aav
 try simp only[F,go_sem]at sB
 have F:=an sB F
 try simp only[F,go_sem]
 refine aF ?_
 try simp only[F,go_sem]
 refine AB (aJ _ _ (oi h1).symm (Ah.go [0,1,2,3,8,9] [0,1] rfl ?_))
 try simp only[bT.h0,F,go_sem]
 repeat' (first|exact NL.refl _|exact NL.nil _|exact A1.refl _|exact A1.nil|exact Bu.refl _|exact Bu.nil|exact Ca.nil|exact BX.nil|refine Ca.cons _ _ _ _ _ ?_ ?_|refine BX.cons _ _ _ _ _ ?_ ?_|refine Ce.box _ _ ?_|refine Ce.arr _ _ _ _ ?_|refine A1.cons ?_ ?_|refine A1.append ?_ ?_|refine NL.mm ?_|refine NL.um ?_|refine NL.wz ?_|refine Bu.append ?_ ?_|refine Bu.cons ?_ ?_|with_reducible refine And.intro ?_ ?_|rfl)
 refine AB (aH _ _ (oi h1).symm (Ah.go [] [] rfl ?_))
 try simp only[bT.x0,F,go_sem]
 rintro l7 aK
 subst aK
 simp only at h0
 refine rS ?_
 try simp only[bT.x0,go_sem]
 obtain rfl:=oi h0
 refine GF (by simp) ?_ ?_
 try simp only[Dc.rs,bZ,Af,go_sem]
 try simp only[Bq,BM,go_sem]
def G6.c:SC:=
 SQ [RG [wE 3 42 0 [0],wE 4 48 1 [1],wE 5 25 2 [2],wA 6 42,wA 7 48,wN 8 0 28 [8]],SQ [RG [wD 15 42 3,wD 16 48 4,wW 17 24 15 16 42 48 28 [15,16],wG 9 17 28 [17]],RG [wV 18 9 28,wK 19 .neq 28 18 0 28 4 [18]],CN 19 (SQ [RG [oQ 20 (.build 42 #[]) 42,oQ 21 (.build 48 #[]) 48,wV 22 9 28 [9],wS 42 6 20 [20],wS 48 7 21 [21],wG 8 22 28 [22]],.ret]) .skip],RG [wF 24 48 4 0,wD 25 46 24 [24],wD 26 25 5,
 wW 27 71 25 26 46 25 73 [25,26],wV 23 27 73 [27],wX 28 23 0 46,wX 29 23 1 28 [23],wA 10 46,wS 46 10 28 [28],wG 11 29 28 [29]],SQ [RG [wV 30 11 28,wK 31 .neq 28 30 0 28 4 [30]],CN 31 (SQ [RG [oQ 32 (.build 42 #[]) 42,oQ 33 (.build 48 #[]) 48,wV 34 11 28 [11],wS 42 6 32 [32],wS 48 7 33 [33],wG 8 34 28 [34]],.ret]) .skip],RG [wD 35 42 3 [3],wU 36 72 35 42 130 [35],wG 12 36 130 [36]],RG [wD 37 48 4,
 wU 38 73 37 48 48 [37],wA 13 48,wS 48 13 38 [38]],SQ [RG [wF 39 46 10 0,wD 40 44 39 [39],wL 41 40 44 3 [40],wF 42 48 4 0,wF 43 46 42 0 [42],wD 44 44 43 [43],wL 45 44 44 3 [44],wO 46 .eql 3 41 45 3 4 [41,45]],CN 46 (SQ [.aO [wV 47 12 130,oQ 48 (.nilCheck (.tmp 47)) 0,wF 49 134 48 0,wD 50 42 49,wD 51 48 13,wS 42 6 50,wS 48 7 51,wN 8 0 28] [[],[0],[0,1],[0,1,2],[],[0,1,2,3],[4,0,1,2,3,5],[4,0,1,2,
 3,5,6]] [12,13,47,48,49,50,51],.ret]) .skip],RG [wD 52 25 5 [5],wF 53 48 4 0,wF 54 46 53 0 [53],wD 55 44 54 [54],wL 56 55 44 3 [55],wF 57 48 4 2,wD 58 3 57 [57],wC 59 66 #[.tmp 52,.tmp 56,.tmp 58] #[25,3,3] 124 [52,56,58],wG 14 59 124 [59]],SQ [RG [wF 60 48 4 3,wD 61 3 60 [60],wV 62 14 124,wL 63 62 124 3 [62],wO 64 .add 3 61 63 3 3 [61,63],wK 65 .gtr 3 64 602 3 4 [64]],
 CN 65 (SQ [RG [oQ 66 (.build 42 #[]) 42,oQ 67 (.build 48 #[]) 48,wS 42 6 66 [66],wS 48 7 67 [67],wN 8 2 28],.ret]) .skip],RG [wV 68 12 130,wF 69 48 4 1,wD 70 3 69 [69],wF 71 48 4 3,wD 72 3 71 [71],wV 73 14 124,wC 74 74 #[.tmp 68,.tmp 70,.tmp 72,.tmp 73] #[130,3,3,124] 0 [68,70,72,73,74]],SQ [RG [wV 75 12 130,oQ 76 (.nilCheck (.tmp 75)) 0 [75],wF 77 134 76 0 [76],wF 78 42 77 1 [77],
 wD 79 40 78 [78],wL 80 79 40 3 [79],wK 81 .gtr 3 80 1200 3 4 [80]],CN 81 (SQ [RG [oQ 82 (.build 42 #[]) 42,oQ 83 (.build 48 #[]) 48,wS 42 6 82 [82],wS 48 7 83 [83],wN 8 2 28],.ret]) .skip],.aO [wD 84 46 10,wF 85 48 4 3,wD 86 3 85,wV 87 14 124,wL 88 87 124 3,wO 89 .add 3 86 88 3 3,wF 90 48 13 0,wS 46 90 84,wF 91 48 13 3,wS 3 91 89] [[],[],[1],[],[3],[1,2,3,4],[0],[0,6],[0,1,2,3,4,5,6,7],[0,1,2,3,
 4,5,6,7,8]] [4,10,14,84,85,86,87,88,89,90,91],.aO [wV 92 12 130,oQ 93 (.nilCheck (.tmp 92)) 0,wF 94 134 93 0,wD 95 42 94,wD 96 48 13,wS 42 6 95,wS 48 7 96,wN 8 0 28] [[],[0],[0,1],[0,1,2],[],[0,1,2,3],[4,0,1,2,3,5],[4,0,1,2,3,5,6]] [12,13,92,93,94,95,96],.ret]
def jY (k:Nat) (d0:Ac) (l1:Ay) (r2:Ab):Option (Ac×Ay×Int):=
 (kJ k d0 l1).bind fun x1=>
 bif (!decide (x1=(0:Int))) then
  some ((⟨[],[]⟩:Ac),(⟨(⟨[]⟩:Ai),0,0,0⟩:Ay),x1)
 else
  (qQ k l1.Ai r2).bind fun x3=>
  bif (!decide (x3.2=(0:Int))) then
   some ((⟨[],[]⟩:Ac),(⟨(⟨[]⟩:Ai),0,0,0⟩:Ay),x3.2)
  else
   (nQ k d0).bind fun x6=>
   (xn k l1).bind fun x7=>
   bif decide ((x3.1.Al.length:Int)=(l1.Ai.Al.length:Int)) then
    some (x6.Ac,x7,0)
   else
    (gg k r2 (l1.Ai.Al.length:Int) l1.AG).bind fun x9=>
    bif decide ((602:Int)<ab (l1.Used+(x9.length:Int))) then
     some ((⟨[],[]⟩:Ac),(⟨(⟨[]⟩:Ai),0,0,0⟩:Ay),2)
    else
     (bT k x6 l1.BB l1.Used x9).bind fun gQ=>
     bif decide ((1200:Int)<((gQ.Ac.Ad.length:Nat):Int)) then
      some ((⟨[],[]⟩:Ac),(⟨(⟨[]⟩:Ai),0,0,0⟩:Ay),2)
     else
      some (gQ.Ac,(⟨x3.1,x7.BB,x7.AG,ab (l1.Used+(x9.length:Int))⟩:Ay),0)
theorem acq (k:Nat) (d0:Ac) (l1:Ay) (r2:Ab) (r:Ac×Ay×Int) (h0:jY k d0 l1 r2=some r):Aw Try.prog 20 [.agg (Ac.c d0),.agg (Ay.c l1),.agg (Ab.c r2)] (fun y=>y=.ar [.agg (Ac.c r.1),.agg (Ay.c r.2.1),.int .i64 r.2.2]):=by
 refine PB Try.f20 G6.c [.cell 6 42,.cell 7 48,.tmp 8] ?_
 simp only[jY]at h0
 try simp only[G6.c,go_sem]
 refine au h0 (afs k _ _) ?_ (fun x1 h0=>?_)<;>try simp only[go_sem]
 refine Cr h0 ?_ ?_<;>intro c2 h0<;>have F:=c2<;>try simp only[F,go_sem]
 obtain rfl:=oi h0
 refine Ag rfl ?_
 try simp only[F,go_sem]
 refine au h0 (acw k _ _) ?_ (fun x3 h0=>?_)<;>try simp only[F,go_sem]
 refine Bt F h0 ?_ ?_<;>intro F h0<;>try simp only[F,go_sem]
 obtain rfl:=oi h0
 refine Ag rfl ?_
 try simp only[F,go_sem]
 obtain⟨x6,dQ,h0⟩:=bs h0
 refine CG Ax 1000 [] [] (xo k _ _ dQ) ?_ rfl ?_
 try simp only[fN,F,go_sem]
 try simp only[F,go_sem]
 refine au h0 (alg k _) ?_ (fun x7 h0=>?_)<;>try simp only[F,go_sem]
 refine AF F h0 ?_ ?_<;>intro F h0<;>try simp only[F,go_sem]
 refine AL Ax aS 1000 ?_
 try simp only[F,go_sem]
 refine aF ?_
 try simp only[F,go_sem]
 obtain rfl:=oi h0
 refine Ag rfl ?_
 try simp only[F,go_sem]
 refine au h0 (acA k _ _ _) ?_ (fun x9 h0=>?_)<;>try simp only[F,go_sem]
 refine AF F h0 ?_ ?_<;>intro F h0<;>try simp only[F,go_sem]
 obtain rfl:=oi h0
 refine Ag rfl ?_
 try simp only[F,go_sem]
 obtain⟨gQ,oW,h0⟩:=bs h0
 refine Fc [4,6,7,9,10,11,12,13,14,19,31,46,65] [400,401,402,16,48,49,50,64,65,304,464] 11 rfl ?_
 try simp only[F,go_sem]
 refine Fb (alk k _ _ _ _ _ oW) ?_ ?_
 try simp only[F,go_sem]
 try simp only[List.take_succ_cons,List.drop_succ_cons,AA,Az,F,go_sem]
 refine rS ?_
 try simp only[F,go_sem]
 refine AF F h0 ?_ ?_<;>intro F h0<;>try simp only[F,go_sem]
 obtain rfl:=oi h0
 refine Ag rfl ?_
 try simp only[F,go_sem]
 refine AL Ax aS 1000 ?_
 try simp only[F,go_sem]
 refine aF ?_
 try simp only[F,go_sem]
 refine AL Ax aS 1000 ?_
 try simp only[F,go_sem]
 refine aF ?_
 try simp only[F,go_sem]
 obtain rfl:=oi h0
 refine Ag rfl ?_
 try simp only[F,go_sem]
def Hb.c:SC:=
 SQ [RG [wE 1 25 0 [0],oQ 2 (.assign (.const (.slice none 0 0))) 56 [2],wN 3 0 28 [3]],SQ [RG [wD 5 25 1,wU 6 30 5 25 28 [5],wG 4 6 28 [6]],RG [wV 7 4 28,wK 8 .neq 28 7 0 28 4 [7]],CN 8 (SQ [RG [wV 9 4 28 [4],oQ 2 (.assign (.const (.slice none 0 0))) 56,wG 3 9 28 [9]],.ret]) .skip],RG [wD 10 25 1 [1],wU 11 88 10 25 56 [10],wG 2 11 56 [11],wN 3 0 28],.ret]
def acs (k:Nat) (r0:Ab):Option ((List Int)×Int):=
 (aaP k r0).bind fun x1=>
 bif (!decide (x1=(0:Int))) then
  some ([],x1)
 else
  (cz k r0).bind fun x3=>
  some (x3,0)
theorem alc (k:Nat) (r0:Ab) (r:(List Int)×Int) (h0:acs k r0=some r):Aw Try.prog 26 [.agg (Ab.c r0)] (fun y=>y=.ar [.sl 1 (List.map af r.1),.int .i64 r.2]):=by
 refine PB Try.f26 Hb.c [.tmp 2,.tmp 3] ?_
 simp only[acs]at h0
 try simp only[Hb.c,go_sem]
 refine au h0 (aft k _) ?_ (fun x1 h0=>?_)<;>try simp only[go_sem]
 refine Cr h0 ?_ ?_<;>intro c2 h0<;>have F:=c2<;>try simp only[F,go_sem]
 obtain rfl:=oi h0
 refine Ag rfl ?_
 try simp only[F,go_sem]
 refine au h0 (afv k _) ?_ (fun x3 h0=>?_)<;>try simp only[F,go_sem]
 obtain rfl:=oi h0
 refine Ag rfl ?_
 try simp only[F,go_sem]
def Hg.c:SC:=
 SQ [RG [wE 1 42 0 [0],wA 2 42,wA 3 48,wN 4 0 28 [4]],SQ [RG [wD 9 42 1,wU 10 78 9 42 4 [9],wQ 11 10 4 [10]],CN 11 (SQ [RG [oQ 12 (.build 42 #[]) 42,oQ 13 (.build 48 #[]) 48,wS 42 2 12 [12],wS 48 3 13 [13],wN 4 94 28],.ret]) .skip],RG [wD 14 42 1 [1],wU 15 72 14 42 130 [14],wU 16 79 15 130 130 [15],wG 5 16 130 [16]],RG [wV 18 5 130,wU 19 80 18 130 146 [18],wV 17 19 146 [19],wX 20 17 0 145,
 wX 21 17 1 4 [17],wA 6 145,wS 145 6 20 [20],wG 7 21 4 [21]],SQ [RG [wV 22 7 4 [7],wQ 23 22 4 [22]],CN 23 (SQ [RG [oQ 24 (.build 42 #[]) 42,oQ 25 (.build 48 #[]) 48,wS 42 2 24 [24],wS 48 3 25 [25],wN 4 95 28],.ret]) .skip],RG [wV 26 5 130,wC 27 82 #[.tmp 26,.const (.int .i64 0),.const (.int .i64 0)] #[130,3,3] 3 [26],wV 28 5 130,wC 29 82 #[.tmp 28,.const (.int .i64 1),.const (.int .i64 0)] #[130,3,
 3] 3 [28],oQ 30 (.call ⟨.builtin .max,#[.tmp 27,.tmp 29],#[3,3]⟩) 3 [27,29],oQ 31 (.binOp .add 3 (.const (.int .i64 1)) (.tmp 30) 3) 3 [30],wG 8 31 3 [31]],SQ [RG [wV 32 8 3,wK 33 .gtr 3 32 1000000 3 4 [32]],CN 33 (SQ [RG [oQ 34 (.build 42 #[]) 42,oQ 35 (.build 48 #[]) 48,wS 42 2 34 [34],wS 48 3 35 [35],wN 4 2 28],.ret]) .skip],.aO [wV 36 5 130,oQ 37 (.nilCheck (.tmp 36)) 0,wF 38 134 37 0,
 wD 39 42 38,wF 40 145 6 4,wD 41 46 40,wF 42 145 6 1,wD 43 3 42,wV 44 8 3,wF 45 145 6 3,wD 46 3 45,oQ 47 (.build 48 #[(0,.tmp 41),(1,.tmp 43),(2,.tmp 44),(3,.tmp 46)]) 48,wS 42 2 39,wS 48 3 47,wN 4 0 28] [[],[0],[0,1],[0,1,2],[],[4],[],[6],[],[],[9],[4,5,6,7,8,9,10],[0,1,2,3],[4,5,6,7,8,9,10,11,0,1,2,3,12],[4,5,6,7,8,9,10,11,0,1,2,3,12,13]] [5,6,8,36,37,38,39,40,41,42,43,44,45,46,47],.ret]
def nP (k:Nat) (d0:Ac):Option (Ac×Ay×Int):=
 (sI k d0).bind fun x1=>
 bif (!x1) then
  some ((⟨[],[]⟩:Ac),(⟨(⟨[]⟩:Ai),0,0,0⟩:Ay),94)
 else
  (nQ k d0).bind fun x4=>
  (gf k x4).bind fun x6=>
  (uJ k (⟨(⟨x6.Ac.Ae,[]⟩:Ac)⟩:az)).bind fun x7=>
  bif (!x7.2) then
   some ((⟨[],[]⟩:Ac),(⟨(⟨[]⟩:Ai),0,0,0⟩:Ay),95)
  else
   (dy k (⟨(⟨x6.Ac.Ae,[]⟩:Ac)⟩:az) 0 0).bind fun x9=>
   (dy k (⟨(⟨x6.Ac.Ae,[]⟩:Ac)⟩:az) 1 0).bind fun cE=>
   bif decide ((1000000:Int)<ab (1+(max x9 cE))) then
    some ((⟨[],[]⟩:Ac),(⟨(⟨[]⟩:Ai),0,0,0⟩:Ay),2)
   else
    some ((⟨((⟨(⟨x6.Ac.Ae,[]⟩:Ac)⟩:az).Ac).Ae,((⟨(⟨x6.Ac.Ae,[]⟩:Ac)⟩:az).Ac).Ad⟩:Ac),(⟨x7.1.book,x7.1.aW,ab (1+(max x9 cE)),x7.1.used⟩:Ay),0)
theorem acv (k:Nat) (d0:Ac) (r:Ac×Ay×Int) (h0:nP k d0=some r):Aw Try.prog 32 [.agg (Ac.c d0)] (fun y=>y=.ar [.agg (Ac.c r.1),.agg (Ay.c r.2.1),.int .i64 r.2.2]):=by
 refine PB Try.f32 Hg.c [.cell 2 42,.cell 3 48,.tmp 4] ?_
 simp only[nP]at h0
 try simp only[Hg.c,go_sem]
 refine au h0 (acy k _) ?_ (fun x1 h0=>?_)<;>try simp only[go_sem]
 refine Cr h0 ?_ ?_<;>intro c2 h0<;>have F:=c2<;>try simp only[F,go_sem]
 obtain rfl:=oi h0
 refine Ag rfl ?_
 try simp only[F,go_sem]
 obtain⟨x4,bN,h0⟩:=bs h0
 refine CG Ax 1000 [] [] (xo k _ _ bN) ?_ rfl ?_
 try simp only[fN,F,go_sem]
 try simp only[F,go_sem]
 obtain⟨x6,dQ,h0⟩:=bs h0
 refine Fc [2,3,11] [128,129,130,16,17,18,32,33] 8 rfl ?_
 try simp only[F,go_sem]
 refine Fb (acx k _ _ dQ) ?_ ?_
 try simp only[F,go_sem]
 try simp only[List.take_succ_cons,List.drop_succ_cons,AA,Az,F,go_sem]
 refine AK.su (Ah.fz 1 rfl (fun _ h=>by cases h)) ?_
 try simp only[F,go_sem]
 refine AK.ahX 0 1 65 rfl rfl ?_
 try simp only[F,go_sem]
 refine AK.su (Ah.fz 0 rfl (fun _ h=>by cases h;rfl)) ?_
 try simp only[F,go_sem]
 refine rS ?_
 try simp only[F,go_sem]
 refine au h0 (afx k _) ?_ (fun x7 h0=>?_)<;>try simp only[F,go_sem]
 refine Bt F h0 ?_ ?_<;>intro F h0<;>try simp only[F,go_sem]
 obtain rfl:=oi h0
 refine Ag rfl ?_
 try simp only[F,go_sem]
 refine au h0 (xp k _ _ _) ?_ (fun x9 h0=>?_)<;>try simp only[F,go_sem]
 refine au h0 (xp k _ _ _) ?_ (fun cE h0=>?_)<;>try simp only[F,go_sem]
 refine AF F h0 ?_ ?_<;>intro F h0<;>try simp only[F,go_sem]
 obtain rfl:=oi h0
 refine Ag rfl ?_
 try simp only[F,go_sem]
 refine AL Ax aS 1000 ?_
 try simp only[F,go_sem]
 refine aF ?_
 try simp only[F,go_sem]
 obtain rfl:=oi h0
 refine Ag rfl ?_
 try simp only[F,go_sem]
def Dm.s1:SC:=
 SQ [RG [wK 42 .lss 3 41 2 3 0],CN 42 .skip (.exit 2),.block 3 (SQ [RG [wV 43 41 3,wG 9 43 3 [43]],RG [wV 44 8 3,wV 45 9 3,wO 46 .shr 3 44 45 3 3 [44,45],wK 47 .and 3 46 1 3 3 [46],wK 48 .eql 3 47 1 3 4 [47]],CN 48 (.aO [wV 49 5 130,oQ 50 (.nilCheck (.tmp 49)) 0,wF 51 134 50 0,wF 52 42 51 0,wD 53 39 52,wF 54 141 7 0,wD 55 3 54,wV 56 9 3,wV 57 9 3,wF 58 141 7 1,wI 59 139 58 57,wD 60 122 59,
 wI 61 39 53 55,wI 62 139 61 56,wS 122 62 60] [[],[0],[0,1],[0,1,2],[0,1,2,3],[],[5],[],[],[],[9,8],[9,8,10],[0,1,2,3,4,5,6],[0,1,2,3,4,5,6,12,7,8,9,10,11],[0,1,2,3,4,5,6,12,7,8,9,10,11,13]] [9,49,50,51,52,53,54,55,56,57,58,59,60,61,62]) .skip]),RG [wK 63 .add 3 41 1 3 3 [41],wV 41 63 3 [63]]]
def Dm.s0:SC:=
 SQ [RG [wO 26 .lss 3 25 24 3 0],CN 26 .skip (.exit 0),.block 1 (SQ [RG [wV 27 25 3,wI 28 40 23 25,wD 29 141 28 [28],wA 7 141,wG 6 27 3 [27],wS 141 7 29 [29]],RG [wN 8 0 3],SQ [RG [wV 30 1 63,wL 31 30 63 3 [30],wK 32 .gtr 3 31 0 3 4 [31]],CN 32 (RG [wV 33 1 63,wV 34 6 3 [6],wV 35 1 63,wL 36 35 63 3 [35],wO 37 .rem 3 34 36 3 3 [34,36],wI 38 63 33 37 [33,37],wD 39 3 38 [38],
 wK 40 .and 3 39 3 3 3 [39],wG 8 40 3 [40]]) .skip],RG [oQ 41 (.move (.const (.int .i64 0))) 3],.block 2 (.loop Dm.s1)]),RG [wK 64 .add 3 25 1 3 3 [25],wV 25 64 3 [64]]]
def Dm.c:SC:=
 SQ [RG [wE 2 42 0 [0],wA 4 42],RG [wD 10 42 2,wU 11 72 10 42 130 [10],wG 5 11 130 [11]],SQ [RG [wD 12 42 2 [2],wU 13 78 12 42 4 [12],wQ 14 13 4 [13]],CN 14 (SQ [RG [wV 15 5 130 [5],oQ 16 (.nilCheck (.tmp 15)) 0 [15],wF 17 134 16 0 [16],wD 18 42 17 [17],wS 42 4 18 [18]],.ret]) .skip],SQ [RG [wV 19 5 130,oQ 20 (.nilCheck (.tmp 19)) 0 [19],wF 21 134 20 0 [20],wF 22 42 21 1 [21],wD 23 40 22 [22],
 wL 24 23 40 3,oQ 25 (.move (.const (.int .i64 0))) 3],.block 0 (.loop Dm.s0)],RG [wV 65 5 130,oQ 66 (.nilCheck (.tmp 65)) 0 [65],wF 67 134 66 0 [66],wF 68 42 67 1 [67],⟨none,.store 40 (.tmp 68) (.const (.slice none 0 0)),0,none,[68]⟩],RG [wV 69 5 130 [5],oQ 70 (.nilCheck (.tmp 69)) 0 [69],wF 71 134 70 0 [70],wD 72 42 71 [71],wS 42 4 72 [72]],.ret]
def aZ.b1 (k:Nat) (x9:Aq) (gQ:Int):(Int×(List (Aa 2 (Aa 32 Int))))->Option (AT (Int×(List (Aa 2 (Aa 32 Int)))) ((List (Aa 2 (Aa 32 Int)))) (Ac)):=fun s=>match s with
 |(i13,cu)=>
   bif decide (i13<(2:Int)) then
    (lq i13).bind fun _=>
    bif decide (dN .i64 (Int.fdiv (dN .i64 gQ 3) (2 ^ (min (Int.toNat i13) 64))) 1=(1:Int)) then
     (x9.AE.at? i13).bind fun kD=>
     (at? cu x9.At).bind fun fh=>
     (fh.at? i13).bind fun nK=>
     (dJ cu x9.At (fh.set i13 kD)).bind fun rK=>
     some (.next (ab (i13+1),rK))
    else
     some (.next (ab (i13+1),cu))
   else
    some (.brk cu)
def aZ.pd (k:Nat) (x9:Aq):(Int×(List (Aa 2 (Aa 32 Int))))->Option (AT (Int×(List (Aa 2 (Aa 32 Int)))) ((List (Aa 2 (Aa 32 Int)))) (Ac)):=fun s=>match s with
 |(i25,ql)=>
   bif decide (i25<(2:Int)) then
    (lq i25).bind fun _=>
    bif decide (dN .i64 (Int.fdiv 0 (2 ^ (min (Int.toNat i25) 64))) 1=(1:Int)) then
     (x9.AE.at? i25).bind fun x31=>
     (at? ql x9.At).bind fun gR=>
     (gR.at? i25).bind fun x33=>
     (dJ ql x9.At (gR.set i25 x31)).bind fun l35=>
     some (.next (ab (i25+1),l35))
    else
     some (.next (ab (i25+1),ql))
   else
    some (.brk ql)
def aZ.b0 (k:Nat) (dm:(List Int)) (x2:az):(Int×(List (Aa 2 (Aa 32 Int))))->Option (AT (Int×(List (Aa 2 (Aa 32 Int)))) ((List (Aa 2 (Aa 32 Int)))) (Ac)):=fun s=>match s with
 |(i5,l6)=>
   bif decide (i5<((x2.Ac.Ad.length:Nat):Int)) then
    (at? x2.Ac.Ad i5).bind fun x9=>
    bif decide ((0:Int)<(dm.length:Int)) then
     (oJ (dm.length:Int)).bind fun _=>
     (at? dm (Int.tmod i5 (dm.length:Int))).bind fun gQ=>
     (aj (aZ.b1 k x9 gQ) k (0,l6)).bind fun r24=>match r24 with
     |.next _=>none
     |.ret v_=>some (.ret v_)
     |.brk qj=>
      some (.next (ab (i5+1),qj))
    else
     (aj (aZ.pd k x9) k (0,l6)).bind fun r36=>match r36 with
     |.next _=>none
     |.ret v_=>some (.ret v_)
     |.brk vV=>
      some (.next (ab (i5+1),vV))
   else
    some (.brk l6)
def aZ.h1 (dm:(List Int)) (x2:az) (i5:Int) (x9:Aq) (gQ:Int):(Int×(List (Aa 2 (Aa 32 Int))))->St:=fun s=>match s with
 |(i13,cu)=>⟨[(1,.sl 1 (List.map eI dm)),(4,.ptr 0 0 0),(5,.ptr 0 3 0),(7,.ptr 0 6 0),(8,.int .i64 (dN .i64 gQ 3)),(23,.loc 0 5 65 0 x2.Ac.Ad.length x2.Ac.Ad.length),(24,.int .i64 ((x2.Ac.Ad.length:Nat):Int)),(25,.int .i64 i5),(41,.int .i64 i13)],[(0,.box ([.loc 0 1 64 0 0 0,.loc 0 2 65 0 0 0])),(1,.arr 139 64 (List.map (Aa.c (n:=2) (Aa.c (n:=32) af)) [])),(2,.arr 141 65 (List.map Aq.c [])),(3,.box ([.loc 0 4 64 0 cu.length cu.length,.loc 0 5 65 0 x2.Ac.Ad.length x2.Ac.Ad.length])),(4,.arr 139 64 (List.map (Aa.c (n:=2) (Aa.c (n:=32) af)) cu)),(5,.arr 141 65 (List.map Aq.c x2.Ac.Ad)),(6,.box ([.int .i64 x9.At]++(Aa.c (n:=2) (Aa.c (n:=32) af) x9.AE)))],[],7,Try.f36.ntmps⟩
def aZ.x1 (dm:(List Int)) (x2:az) (i5:Int):(List (Aa 2 (Aa 32 Int)))->St:=fun qj=>⟨[(1,.sl 1 (List.map eI dm)),(4,.ptr 0 0 0),(5,.ptr 0 3 0),(23,.loc 0 5 65 0 x2.Ac.Ad.length x2.Ac.Ad.length),(24,.int .i64 ((x2.Ac.Ad.length:Nat):Int)),(25,.int .i64 i5)],[(0,.box ([.loc 0 1 64 0 0 0,.loc 0 2 65 0 0 0])),(1,.arr 139 64 (List.map (Aa.c (n:=2) (Aa.c (n:=32) af)) [])),(2,.arr 141 65 (List.map Aq.c [])),(3,.box ([.loc 0 4 64 0 qj.length qj.length,.loc 0 5 65 0 x2.Ac.Ad.length x2.Ac.Ad.length])),(4,.arr 139 64 (List.map (Aa.c (n:=2) (Aa.c (n:=32) af)) qj)),(5,.arr 141 65 (List.map Aq.c x2.Ac.Ad))],[],6,Try.f36.ntmps⟩
def aZ.pI (dm:(List Int)) (x2:az) (i5:Int) (x9:Aq):(Int×(List (Aa 2 (Aa 32 Int))))->St:=fun s=>match s with
 |(i25,ql)=>⟨[(1,.sl 1 (List.map eI dm)),(4,.ptr 0 0 0),(5,.ptr 0 3 0),(7,.ptr 0 6 0),(8,.int .i64 0),(23,.loc 0 5 65 0 x2.Ac.Ad.length x2.Ac.Ad.length),(24,.int .i64 ((x2.Ac.Ad.length:Nat):Int)),(25,.int .i64 i5),(41,.int .i64 i25)],[(0,.box ([.loc 0 1 64 0 0 0,.loc 0 2 65 0 0 0])),(1,.arr 139 64 (List.map (Aa.c (n:=2) (Aa.c (n:=32) af)) [])),(2,.arr 141 65 (List.map Aq.c [])),(3,.box ([.loc 0 4 64 0 ql.length ql.length,.loc 0 5 65 0 x2.Ac.Ad.length x2.Ac.Ad.length])),(4,.arr 139 64 (List.map (Aa.c (n:=2) (Aa.c (n:=32) af)) ql)),(5,.arr 141 65 (List.map Aq.c x2.Ac.Ad)),(6,.box ([.int .i64 x9.At]++(Aa.c (n:=2) (Aa.c (n:=32) af) x9.AE)))],[],7,Try.f36.ntmps⟩
def aZ.sD (dm:(List Int)) (x2:az) (i5:Int):(List (Aa 2 (Aa 32 Int)))->St:=fun vV=>⟨[(1,.sl 1 (List.map eI dm)),(4,.ptr 0 0 0),(5,.ptr 0 3 0),(23,.loc 0 5 65 0 x2.Ac.Ad.length x2.Ac.Ad.length),(24,.int .i64 ((x2.Ac.Ad.length:Nat):Int)),(25,.int .i64 i5)],[(0,.box ([.loc 0 1 64 0 0 0,.loc 0 2 65 0 0 0])),(1,.arr 139 64 (List.map (Aa.c (n:=2) (Aa.c (n:=32) af)) [])),(2,.arr 141 65 (List.map Aq.c [])),(3,.box ([.loc 0 4 64 0 vV.length vV.length,.loc 0 5 65 0 x2.Ac.Ad.length x2.Ac.Ad.length])),(4,.arr 139 64 (List.map (Aa.c (n:=2) (Aa.c (n:=32) af)) vV)),(5,.arr 141 65 (List.map Aq.c x2.Ac.Ad))],[],6,Try.f36.ntmps⟩
def aZ.h0 (dm:(List Int)) (x2:az):(Int×(List (Aa 2 (Aa 32 Int))))->St:=fun s=>match s with
 |(i5,l6)=>⟨[(1,.sl 1 (List.map eI dm)),(4,.ptr 0 0 0),(5,.ptr 0 3 0),(23,.loc 0 5 65 0 x2.Ac.Ad.length x2.Ac.Ad.length),(24,.int .i64 ((x2.Ac.Ad.length:Nat):Int)),(25,.int .i64 i5)],[(0,.box ([.loc 0 1 64 0 0 0,.loc 0 2 65 0 0 0])),(1,.arr 139 64 (List.map (Aa.c (n:=2) (Aa.c (n:=32) af)) [])),(2,.arr 141 65 (List.map Aq.c [])),(3,.box ([.loc 0 4 64 0 l6.length l6.length,.loc 0 5 65 0 x2.Ac.Ad.length x2.Ac.Ad.length])),(4,.arr 139 64 (List.map (Aa.c (n:=2) (Aa.c (n:=32) af)) l6)),(5,.arr 141 65 (List.map Aq.c x2.Ac.Ad))],[],6,Try.f36.ntmps⟩
def aZ.x0 (x2:az):(List (Aa 2 (Aa 32 Int)))->St:=fun l7=>⟨[(4,.ptr 0 0 0),(5,.ptr 0 3 0)],[(0,.box ([.loc 0 1 64 0 0 0,.loc 0 2 65 0 0 0])),(1,.arr 139 64 (List.map (Aa.c (n:=2) (Aa.c (n:=32) af)) [])),(2,.arr 141 65 (List.map Aq.c [])),(3,.box ([.loc 0 4 64 0 l7.length l7.length,.loc 0 5 65 0 x2.Ac.Ad.length x2.Ac.Ad.length])),(4,.arr 139 64 (List.map (Aa.c (n:=2) (Aa.c (n:=32) af)) l7)),(5,.arr 141 65 (List.map Aq.c x2.Ac.Ad))],[],6,Try.f36.ntmps⟩
def aZ (k:Nat) (d0:Ac) (dm:(List Int)):Option (Ac):=
 (nQ k d0).bind fun x2=>
 (sI k d0).bind fun x3=>
 bif (!x3) then
  some x2.Ac
 else
  (aj (aZ.b0 k dm x2) k (0,x2.Ac.Ae)).bind fun r37=>match r37 with
  |.next _=>none
  |.ret v_=>some v_
  |.brk l7=>
   some (⟨l7,[]⟩:Ac)
theorem acr (k:Nat) (d0:Ac) (dm:(List Int)) (r:Ac) (h0:aZ k d0 dm=some r):Aw Try.prog 36 [.agg (Ac.c d0),.sl 1 (List.map eI dm)] (fun y=>y=.agg (Ac.c r)):=by
 refine PB Try.f36 Dm.c [.cell 4 42] ?_
 simp only[aZ]at h0
 try simp only[Dm.c,go_sem]
 obtain⟨x2,eo,h0⟩:=bs h0
 refine CG Ax 1000 [] [] (xo k _ _ eo) ?_ rfl ?_
 try simp only[fN,go_sem]
 try simp only[go_sem]
 refine au h0 (acy k _) ?_ (fun x3 h0=>?_)<;>try simp only[go_sem]
 refine Cr h0 ?_ ?_<;>intro c4 h0<;>have F:=c4<;>try simp only[F,go_sem]
 obtain rfl:=oi h0
 refine Ag rfl ?_
 try simp only[F,go_sem]
 obtain⟨r37,arj,h0⟩:=bs h0
 refine Bf arj (aZ.h0 dm x2) (aZ.x0 x2) ?_ ?_ ?_
 refine Ah.go [1,4,5,23,24,25] [16,17,18,48,49,50] rfl ?_
 try simp only[aZ.h0,F,go_sem]
 rintro⟨i5,l6⟩ cO Bm Bn h1 aJ aH bK
 refine rS ?_
 simp only[aZ.b0]at h1
 try simp only[Dm.s0,aZ.h0,F,go_sem]
 refine AF F h1 ?_ ?_<;>intro F h1<;>try simp only[F,go_sem]
 obtain⟨x9,ft,h1⟩:=bs h1
 have F:=an (aC ft) (an (aD Aq.c ft) F)
 try simp only[F,go_sem]
 refine AF F h1 ?_ ?_<;>intro F h1<;>try simp only[F,go_sem]
 obtain⟨u11,arn,h1⟩:=bs h1
 have F:=an (aeg arn) F
 try simp only[F,go_sem]
 obtain⟨gQ,oW,h1⟩:=bs h1
 have F:=an (aC oW) (an (aD eI oW) F)
 try simp only[F,go_sem]
 obtain⟨r24,arf,h1⟩:=bs h1
 refine Bf arf (aZ.h1 dm x2 i5 x9 gQ) (aZ.x1 dm x2 i5) ?_ ?_ ?_
 refine Ah.go [1,4,5,7,8,23,24,25,41] [0,1,2,3,4,5,70] rfl ?_
 try simp only[aZ.h1,F,go_sem]
 rintro⟨i13,cu⟩ x_2 Fz FA h2 pW rk adJ
 refine rS ?_
 simp only[aZ.b1]at h2
 try simp only[Dm.s1,aZ.h1,F,go_sem]
 refine AF F h2 ?_ ?_<;>intro F h2<;>try simp only[F,go_sem]
 obtain⟨u17,arp,h2⟩:=bs h2
 have F:=an (aab arp) F
 try simp only[F,go_sem]
 refine AF F h2 ?_ ?_<;>intro F h2<;>try simp only[F,go_sem]
 refine AL Ax aS 1000 ?_
 try simp only[F,go_sem]
 obtain⟨kD,o8,h2⟩:=bs h2
 have aqM:=Ao.bH gA (Ao.skip (Ao.self fv x9.AE) ([.int .i64 x9.At]:List AV)) o8
 have ajz:=aqM.2
 try simp only[AA,Az,go_sem]at ajz
 have F:=an (aq o8) (an ajz F)
 try simp only[F,go_sem]
 obtain⟨fh,cg,h2⟩:=bs h2
 have F:=an (aC cg) (an (aD (Aa.c (n:=2) (Aa.c (n:=32) af)) cg) F)
 try simp only[F,go_sem]
 obtain⟨nK,fJ,h2⟩:=bs h2
 have ur:=Ao.bH gA (Ao.self fv fh) fJ
 have aam:=ur.2
 try simp only[AA,Az,go_sem]at aam
 have F:=an (aq fJ) (an aam F)
 try simp only[F,go_sem]
 obtain⟨rK,uB,h2⟩:=bs h2
 have q22:=ur.1.ow kD
 try simp only[AA,Az,go_sem]at q22
 have ago:=lj (Aa.c (n:=2) (Aa.c (n:=32) af)) uB
 try simp only[go_sem]at ago
 have F:=an ago (an (kt uB) (an (lk (Aa.c (n:=2) (Aa.c (n:=32) af)) uB) F))
 try simp only[q22,F,go_sem]
 refine aF ?_
 try simp only[F,go_sem]
 refine AB (pW _ _ (oi h2).symm (Ah.go [1,4,5,7,8,23,24,25,41] [0,1,2,3,4,5,6] rfl ?_))
 try simp only[aZ.h1,F,go_sem]
 refine AB (pW _ _ (oi h2).symm (Ah.go [1,4,5,7,8,23,24,25,41] [0,1,2,3,4,5,6] rfl ?_))
 try simp only[aZ.h1,F,go_sem]
 refine AB (rk _ _ (oi h2).symm (Ah.go [1,4,5,23,24,25] [0,1,2,3,4,5] rfl ?_))
 try simp only[aZ.x1,F,go_sem]
 rintro qj aK
 subst aK
 simp only at h1
 refine rS ?_
 try simp only[aZ.x1,F,go_sem]
 refine AB (aJ _ _ (oi h1).symm (Ah.go [1,4,5,23,24,25] [0,1,2,3,4,5] rfl ?_))
 try simp only[aZ.h0,F,go_sem]
 obtain⟨r36,ari,h1⟩:=bs h1
 refine Bf ari (aZ.pI dm x2 i5 x9) (aZ.sD dm x2 i5) ?_ ?_ ?_
 refine Ah.go [1,4,5,7,8,23,24,25,41] [0,1,2,3,4,5,70] rfl ?_
 try simp only[aZ.pI,F,go_sem]
 rintro⟨i25,ql⟩ x_2 Fz FA h2 pW rk adJ
 refine rS ?_
 simp only[aZ.pd]at h2
 try simp only[Dm.s1,aZ.pI,F,go_sem]
 refine AF F h2 ?_ ?_<;>intro F h2<;>try simp only[F,go_sem]
 obtain⟨u29,ars,h2⟩:=bs h2
 have F:=an (aab ars) F
 try simp only[F,go_sem]
 refine AF F h2 ?_ ?_<;>intro F h2<;>try simp only[F,go_sem]
 refine AL Ax aS 1000 ?_
 try simp only[F,go_sem]
 obtain⟨x31,aj6,h2⟩:=bs h2
 have aqO:=Ao.bH gA (Ao.skip (Ao.self fv x9.AE) ([.int .i64 x9.At]:List AV)) aj6
 have ajD:=aqO.2
 try simp only[AA,Az,go_sem]at ajD
 have F:=an (aq aj6) (an ajD F)
 try simp only[F,go_sem]
 obtain⟨gR,aaz,h2⟩:=bs h2
 have F:=an (aC aaz) (an (aD (Aa.c (n:=2) (Aa.c (n:=32) af)) aaz) F)
 try simp only[F,go_sem]
 obtain⟨x33,aj7,h2⟩:=bs h2
 have ajb:=Ao.bH gA (Ao.self fv gR) aj7
 have ajE:=ajb.2
 try simp only[AA,Az,go_sem]at ajE
 have F:=an (aq aj7) (an ajE F)
 try simp only[F,go_sem]
 obtain⟨l35,aeT,h2⟩:=bs h2
 have q34:=ajb.1.ow x31
 try simp only[AA,Az,go_sem]at q34
 have ags:=lj (Aa.c (n:=2) (Aa.c (n:=32) af)) aeT
 try simp only[go_sem]at ags
 have F:=an ags (an (kt aeT) (an (lk (Aa.c (n:=2) (Aa.c (n:=32) af)) aeT) F))
 try simp only[q34,F,go_sem]
 refine aF ?_
 try simp only[F,go_sem]
 refine AB (pW _ _ (oi h2).symm (Ah.go [1,4,5,7,8,23,24,25,41] [0,1,2,3,4,5,6] rfl ?_))
 try simp only[aZ.pI,F,go_sem]
 refine AB (pW _ _ (oi h2).symm (Ah.go [1,4,5,7,8,23,24,25,41] [0,1,2,3,4,5,6] rfl ?_))
 try simp only[aZ.pI,F,go_sem]
 refine AB (rk _ _ (oi h2).symm (Ah.go [1,4,5,23,24,25] [0,1,2,3,4,5] rfl ?_))
 try simp only[aZ.sD,F,go_sem]
 rintro vV aK
 subst aK
 simp only at h1
 refine rS ?_
 try simp only[aZ.sD,F,go_sem]
 refine AB (aJ _ _ (oi h1).symm (Ah.go [1,4,5,23,24,25] [0,1,2,3,4,5] rfl ?_))
 try simp only[aZ.h0,F,go_sem]
 refine AB (aH _ _ (oi h1).symm (Ah.go [4,5] [0,1,2,3,4,5] rfl ?_))
 try simp only[aZ.x0,F,go_sem]
 rintro l7 aK
 subst aK
 simp only at h0
 refine rS ?_
 try simp only[aZ.x0,F,go_sem]
 obtain rfl:=oi h0
 refine Ag rfl ?_
 try simp only[F,go_sem]
def Hl.c:SC:=
 SQ [RG [wA 0 42,wA 1 48],RG [oQ 3 (.makeSlice 39 (.const (.int .i64 602)) (.const (.int .i64 602))) 39,oQ 4 (.build 42 #[(0,.tmp 3)]) 42 [3],wA 2 42,wS 42 2 4 [4]],.aO [wF 5 42 2 0,wD 6 39 5,wC 7 101 #[.const (.int .i64 1),.const (.int .i64 0)] #[3,3] 126,wJ 8 39 6 0,wJ 9 139 8 0,wS 122 9 7] [[],[0],[],[0,1],[0,1,3,2],[0,1,3,2,4]] [5,6,7,8,9],RG [wD 10 42 2 [2],oQ 11 (.build 48 #[(2,
 .const (.int .i64 1)),(3,.const (.int .i64 1))]) 48,wS 42 0 10 [10],wS 48 1 11 [11]],.ret]
def acu (k:Nat):Option (Ac×Ay):=
 (ma 602 64 ((Aa.rep 2 ((Aa.rep 32 (0:Int)):(Aa 32 Int))):(Aa 2 (Aa 32 Int)))).bind fun l1=>
 (xr k 1 0).bind fun x2=>
 (at? l1 0).bind fun x3=>
 (x3.at? 0).bind fun x4=>
 (dJ l1 0 (x3.set 0 x2)).bind fun l6=>
 some ((⟨l6,[]⟩:Ac),(⟨(⟨[]⟩:Ai),0,1,1⟩:Ay))
theorem ale (k:Nat) (r:Ac×Ay) (h0:acu k=some r):Aw Try.prog 43 [] (fun y=>y=.ar [.agg (Ac.c r.1),.agg (Ay.c r.2)]):=by
 refine PB Try.f43 Hl.c [.cell 0 42,.cell 1 48] ?_
 simp only[acu]at h0
 try simp only[Hl.c,go_sem]
 have hz:=bs h0;clear h0;cases hz;rename_i l1 hz;cases hz;rename_i qL h0
 obtain⟨_,adT⟩:=ad6 qL
 have ac4:List.replicate 602 (Aa.c (n:=2) (Aa.c (n:=32) af) (Aa.rep 2 ((Aa.rep 32 (0:Int)):(Aa 32 Int))))=List.map (Aa.c (n:=2) (Aa.c (n:=32) af)) l1:=ad5 (Aa.c (n:=2) (Aa.c (n:=32) af)) qL
 have aef:l1.length=602:=ad4 qL
 have aeL:List.take 602 (List.map (Aa.c (n:=2) (Aa.c (n:=32) af)) l1)=List.map (Aa.c (n:=2) (Aa.c (n:=32) af)) l1:=ad7 (Aa.c (n:=2) (Aa.c (n:=32) af)) qL
 have F:=an ac4 (an aef (an aeL ((@id (Int.toNat 602=602) rfl))))
 try simp only[ad2 adT,F,go_sem]
 refine AL Ax aS 1000 ?_
 try simp only[F,go_sem]
 refine cn h0 (afz k _ _) ?_ (fun x2 h0=>?_)<;>try simp only[F,go_sem]
 have hz:=bs h0;clear h0;cases hz;rename_i x3 hz;cases hz;rename_i cP h0
 have xN:=aC cP
 simp only[F,go_sem]at xN
 have F:=an xN (an (aD (Aa.c (n:=2) (Aa.c (n:=32) af)) cP) F)
 try simp only[F,go_sem]
 have hz:=bs h0;clear h0;cases hz;rename_i x4 hz;cases hz;rename_i bN h0
 have iC:=Ao.bH gA (Ao.self fv x3) bN
 have jw:=iC.2
 try simp only[AA,Az,go_sem]at jw
 have F:=an (aq bN) (an jw F)
 try simp only[F,go_sem]
 have hz:=bs h0;clear h0;cases hz;rename_i l6 hz;cases hz;rename_i jV h0
 have q5:=iC.1.ow x2
 try simp only[AA,Az,go_sem]at q5
 have re:=lj (Aa.c (n:=2) (Aa.c (n:=32) af)) jV
 try simp only[go_sem]at re
 have aaf:=lk (Aa.c (n:=2) (Aa.c (n:=32) af)) jV
 try simp only[F,go_sem]at aaf
 have F:=an re (an (kt jV) (an aaf F))
 try simp only[q5,F,go_sem]
 refine aF ?_
 try simp only[F,go_sem]
 obtain rfl:=oi h0
 refine Ag rfl ?_
 try simp only[F,go_sem]
end Go.Abs
namespace Go.Abs
open Go Go.Proofs Go.RowKit Go.Lib
def Fk.c:SC:=
 SQ [RG [wB 0 false 4 [0]],RG [oQ 26 (.build 23 #[(0,.const (.int .i64 2))]) 23,oQ 27 (.build 25 #[(0,.tmp 26),(1,.const (.int .i64 5)),(2,.const (.int .i64 10)),(3,.const (.int .i64 12)),(5,.const (.string ⟨#[98,101,110,116,32,49,48,48,48]⟩))]) 25 [26],wA 1 25,wS 25 1 27 [27]],RG [wD 29 25 1,wU 30 26 29 25 57 [29],wV 28 30 57 [30],wX 31 28 0 56,wX 32 28 1 28 [28],wG 2 31 56 [31],wG 3 32 28 [32]],
 RG [wD 34 25 1,wC 35 15 #[.tmp 34,.const (.int .i64 0),.const (.int .i64 1)] #[25,3,3] 29 [34],wV 33 35 29 [35],wX 36 33 0 27,wX 37 33 1 28 [33],wG 4 36 27 [36],wG 5 37 28 [37]],RG [wC 39 43 #[] #[] 76,wV 38 39 76 [39],wX 40 38 0 42,wX 41 38 1 48 [38],wA 6 42,wA 7 48,wS 42 6 40 [40],wS 48 7 41 [41]],RG [wD 43 42 6 [6],wD 44 48 7 [7],wD 45 25 1,wC 46 20 #[.tmp 43,.tmp 44,.tmp 45] #[42,48,
 25] 50 [43,44,45],wV 42 46 50 [46],wX 47 42 0 42,wX 48 42 1 48,wX 49 42 2 28 [42],wA 8 42,wA 9 48,wS 42 8 47 [47],wS 48 9 48 [48],wG 10 49 28 [49]],RG [wD 51 42 8,oQ 52 (.buildSlice 63 2 #[(0,.const (.int .i64 2)),(1,.const (.int .i64 0))]) 63,wW 53 36 51 52 42 63 42 [51,52],wU 54 32 53 42 50 [53],wV 50 54 50 [54],wX 55 50 0 42,wX 56 50 1 48,wX 57 50 2 28 [50],wA 11 42,wA 12 48,wS 42 11 55 [55],
 wS 48 12 56 [56],wG 13 57 28 [57]],RG [wD 59 42 11 [11],wD 60 48 12,wD 61 25 1 [1],wC 62 20 #[.tmp 59,.tmp 60,.tmp 61] #[42,48,25] 50 [59,60,61],wV 58 62 50 [62],wX 63 58 0 42,wX 64 58 1 48,wX 65 58 2 28 [58],wA 14 42,wA 15 48,wS 42 14 63 [63],wS 48 15 64 [64],wG 16 65 28 [65]],RG [wD 67 42 14,oQ 68 (.buildSlice 63 2 #[(0,.const (.int .i64 0)),(1,.const (.int .i64 1))]) 63,
 wW 69 36 67 68 42 63 42 [67,68],wU 70 32 69 42 50 [69],wV 66 70 50 [70],wX 71 66 0 42,wX 72 66 1 48,wX 73 66 2 28 [66],wA 17 42,wA 18 48,wS 42 17 71 [17,71],wS 48 18 72 [72],wG 19 73 28 [73]],RG [wD 75 42 14 [14],oQ 76 (.buildSlice 63 2 #[(0,.const (.int .i64 3)),(1,.const (.int .i64 3))]) 63,wW 77 36 75 76 42 63 42 [75,76],wU 78 32 77 42 50 [77],wV 74 78 50 [78],wX 79 74 0 42,wX 80 74 1 48,
 wX 81 74 2 28 [74],wA 20 42,wA 21 48,wS 42 20 79 [20,79],wS 48 21 80 [80],wG 22 81 28 [81]],RG [wV 82 3 28 [3],wK 83 .eql 28 82 0 28 4 [82],wV 84 83 4 [83],gd 84 true (wV 85 5 28 [5]),gd 84 true (wK 86 .eql 28 85 0 28 4 [85]),wZ 87 84 86 4 [84,86],wV 88 87 4 [87],gd 88 true (wV 89 10 28 [10]),gd 88 true (wK 90 .eql 28 89 0 28 4 [89]),wZ 91 88 90 4 [88,90],wV 92 91 4 [91],
 gd 92 true (wV 93 13 28 [13]),gd 92 true (wK 94 .eql 28 93 0 28 4 [93]),wZ 95 92 94 4 [92,94],wV 96 95 4 [95],gd 96 true (wV 97 16 28 [16]),gd 96 true (wK 98 .eql 28 97 0 28 4 [97]),wZ 99 96 98 4 [96,98],wV 100 99 4 [99],gd 100 true (wV 101 19 28 [19]),gd 100 true (wK 102 .eql 28 101 0 28 4 [101]),wZ 103 100 102 4 [100,102],wV 104 103 4 [103],gd 104 true (wV 105 22 28 [22]),
 gd 104 true (wK 106 .eql 28 105 0 28 4 [105]),wZ 107 104 106 4 [104,106],wG 23 107 4 [107]],RG [wV 108 2 56 [2],wL 109 108 56 3 [108],wK 110 .eql 3 109 25 3 4 [109],wV 111 110 4 [110],gd 111 true (wV 112 4 27),gd 111 true (wL 113 112 27 3 [112]),gd 111 true (wK 114 .eql 3 113 2 3 4 [113]),wZ 115 111 114 4 [111,114],wV 116 115 4 [115],gd 116 true (wV 117 4 27),gd 116 true (wJ 118 27 117 1 [117]),
 gd 116 true (wJ 119 122 118 6 [118]),gd 116 true (wD 120 5 119 [119]),gd 116 true (oQ 121 (.binOp .eql 5 (.tmp 120) (.const (.int .u8 1)) 5) 4 [120]),wZ 122 116 121 4 [116,121],wV 123 122 4 [122],gd 123 true (wV 124 4 27),gd 123 true (wJ 125 27 124 1 [124]),gd 123 true (wJ 126 122 125 7 [125]),gd 123 true (wD 127 5 126 [126]),
 gd 123 true (oQ 128 (.binOp .eql 5 (.tmp 127) (.const (.int .u8 2)) 5) 4 [127]),wZ 129 123 128 4 [123,128],wV 130 129 4 [129],gd 130 true (wV 131 4 27 [4]),gd 130 true (wJ 132 27 131 0 [131]),gd 130 true (wJ 133 122 132 31 [132]),gd 130 true (wD 134 5 133 [133]),gd 130 true (oQ 135 (.binOp .eql 5 (.tmp 134) (.const (.int .u8 165)) 5) 4 [134]),wZ 136 130 135 4 [130,135],wG 24 136 4 [136]],
 RG [wF 137 42 8 1 [8],wD 138 40 137 [137],wL 139 138 40 3 [138],wK 140 .eql 3 139 2 3 4 [139],wV 141 140 4 [140],gd 141 true (wF 142 48 9 3 [9]),gd 141 true (wD 143 3 142 [142]),gd 141 true (wK 144 .eql 3 143 3 3 4 [143]),wZ 145 141 144 4 [141,144],wV 146 145 4 [145],gd 146 true (wF 147 48 12 0),gd 146 true (wF 148 46 147 0 [147]),gd 146 true (wD 149 44 148 [148]),
 gd 146 true (wL 150 149 44 3 [149]),gd 146 true (wK 151 .eql 3 150 0 3 4 [150]),wZ 152 146 151 4 [146,151],wV 153 152 4 [152],gd 153 true (wF 154 48 12 2 [12]),gd 153 true (wD 155 3 154 [154]),gd 153 true (wK 156 .eql 3 155 2 3 4 [155]),wZ 157 153 156 4 [153,156],wV 158 157 4 [157],gd 158 true (wF 159 48 15 3 [15]),gd 158 true (wD 160 3 159 [159]),gd 158 true (wK 161 .eql 3 160 3 3 4 [160]),
 wZ 162 158 161 4 [158,161],wG 25 162 4 [162]],RG [wV 163 23 4 [23],wV 164 163 4 [163],gd 164 true (wV 165 24 4 [24]),wZ 166 164 165 4 [164,165],wV 167 166 4 [166],gd 167 true (wV 168 25 4 [25]),wZ 169 167 168 4 [167,168],wV 170 169 4 [169],gd 170 true (wF 171 48 18 0),gd 170 true (wF 172 46 171 0 [171]),gd 170 true (wD 173 44 172 [172]),gd 170 true (wL 174 173 44 3 [173]),
 gd 170 true (wK 175 .eql 3 174 0 3 4 [174]),wZ 176 170 175 4 [170,175],wV 177 176 4 [176],gd 177 true (wF 178 48 18 2 [18]),gd 177 true (wD 179 3 178 [178]),gd 177 true (wK 180 .eql 3 179 3 3 4 [179]),wZ 181 177 180 4 [177,180],wV 182 181 4 [181],gd 182 true (wF 183 48 21 0),gd 182 true (wF 184 46 183 0 [183]),gd 182 true (wD 185 44 184 [184]),gd 182 true (wL 186 185 44 3 [185]),
 gd 182 true (wK 187 .eql 3 186 1 3 4 [186]),wZ 188 182 187 4 [182,187],wV 189 188 4 [188],gd 189 true (wF 190 48 21 2 [21]),gd 189 true (wD 191 3 190 [190]),gd 189 true (wK 192 .eql 3 191 3 3 4 [191]),wZ 193 189 192 4 [189,192],wG 0 193 4 [193]],.ret]
theorem Fk.rs:Try.f14.results.toList=[.tmp 0]:=rfl
def Fq (k:Nat):Option (Bool):=
 (acs k (⟨(⟨2,0⟩:Entry),5,10,12,(⟨0,0⟩:Entry),(⟨#[98,101,110,116,32,49,48,48,48]⟩:ByteArray)⟩:Ab)).bind fun x1=>
 (jZ k (⟨(⟨2,0⟩:Entry),5,10,12,(⟨0,0⟩:Entry),(⟨#[98,101,110,116,32,49,48,48,48]⟩:ByteArray)⟩:Ab) 0 1).bind fun x2=>
 (acu k).bind fun x3=>
 (jY k x3.1 x3.2 (⟨(⟨2,0⟩:Entry),5,10,12,(⟨0,0⟩:Entry),(⟨#[98,101,110,116,32,49,48,48,48]⟩:ByteArray)⟩:Ab)).bind fun x4=>
 (aZ k x4.1 [2,0]).bind fun x5=>
 (nP k x5).bind fun x6=>
 (jY k x6.1 x6.2.1 (⟨(⟨2,0⟩:Entry),5,10,12,(⟨0,0⟩:Entry),(⟨#[98,101,110,116,32,49,48,48,48]⟩:ByteArray)⟩:Ab)).bind fun x7=>
 (aZ k x7.1 [0,1]).bind fun x8=>
 (nP k x8).bind fun x9=>
 (aZ k x7.1 [3,3]).bind fun cE=>
 (nP k cE).bind fun df=>
 bif decide (x1.2=(0:Int)) then
  bif decide (x2.2=(0:Int)) then
   bif decide (x4.2.2=(0:Int)) then
    bif decide (x6.2.2=(0:Int)) then
     bif decide (x7.2.2=(0:Int)) then
      bif decide (x9.2.2=(0:Int)) then
       bif decide ((x1.1.length:Int)=(25:Int)) then
        bif decide ((x2.1.length:Int)=(2:Int)) then
         (at? x2.1 1).bind fun fh=>
         (fh.at? 6).bind fun nK=>
         bif decide (nK=(1:Int)) then
          (fh.at? 7).bind fun eJ=>
          bif decide (eJ=(2:Int)) then
           (at? x2.1 0).bind fun mV=>
           (mV.at? 31).bind fun x26=>
           bif decide ((x4.1.Ad.length:Int)=(2:Int)) then
            bif decide (x4.2.1.Used=(3:Int)) then
             bif decide ((x6.2.1.Ai.Al.length:Int)=(0:Int)) then
              bif decide (x6.2.1.AG=(2:Int)) then
               bif decide (df.2.2=(0:Int)) then
                bif decide (x26=(165:Int)) then
                 bif decide (x7.2.1.Used=(3:Int)) then
                  bif decide ((x9.2.1.Ai.Al.length:Int)=(0:Int)) then
                   bif decide (x9.2.1.AG=(3:Int)) then
                    bif decide ((df.2.1.Ai.Al.length:Int)=(1:Int)) then
                     some (decide (df.2.1.AG=(3:Int)))
                    else
                     none
                   else
                    none
                  else
                   none
                 else
                  none
                else
                 none
               else
                none
              else
               none
             else
              none
            else
             none
           else
            none
          else
           none
         else
          none
        else
         none
       else
        none
      else
       none
     else
      none
    else
     none
   else
    none
  else
   none
 else
  none
theorem Ix (k:Nat) (r:Bool) (h0:Fq k=some r):Aw Try.prog 14 [] (fun y=>y=.bool r):=by
 refine Aw.nlr (Aw.gr Ax (fn:=Try.f14) (sc:=Fk.c) (by rfl) (by rfl) (by decide +kernel) (by rfl) (by decide +kernel) (Nat.le_of_ble_eq_true rfl) ?_)
 refine rS ?_
 simp only[Fq]at h0
 try simp only[Fk.c,go_sem]
 obtain⟨x1,iW,h0⟩:=bs h0
 refine jx (alc k _ _ iW) ?_ ?_
 ·try simp only[go_sem]
 try simp only[go_sem]
 obtain⟨x2,eo,h0⟩:=bs h0
 refine jx (ald k _ _ _ _ eo) ?_ ?_
 ·try simp only[go_sem]
 try simp only[go_sem]
 obtain⟨x3,cP,h0⟩:=bs h0
 refine jx (ale k _ cP) ?_ ?_
 ·try simp only[go_sem]
 try simp only[go_sem]
 obtain⟨x4,bN,h0⟩:=bs h0
 refine jx (acq k _ _ _ _ bN) ?_ ?_
 ·try simp only[go_sem]
 try simp only[go_sem]
 obtain⟨x5,cw,h0⟩:=bs h0
 refine Fe Ax 1000 [656] (acr k _ _ _ cw) ?_ ?_
 ·try simp only[go_sem]
 try simp only[go_sem]
 obtain⟨x6,dQ,h0⟩:=bs h0
 refine jx (acv k _ _ dQ) ?_ ?_
 ·try simp only[go_sem]
 try simp only[go_sem]
 obtain⟨x7,e9,h0⟩:=bs h0
 refine jx (acq k _ _ _ _ e9) ?_ ?_
 ·try simp only[go_sem]
 try simp only[go_sem]
 obtain⟨x8,jW,h0⟩:=bs h0
 refine Fe Ax 1000 [1072] (acr k _ _ _ jW) ?_ ?_
 ·try simp only[go_sem]
 try simp only[go_sem]
 obtain⟨x9,ft,h0⟩:=bs h0
 refine jx (acv k _ _ ft) ?_ ?_
 ·try simp only[go_sem]
 try simp only[go_sem]
 obtain⟨cE,mW,h0⟩:=bs h0
 refine Fe Ax 1000 [1280] (acr k _ _ _ mW) ?_ ?_
 ·try simp only[go_sem]
 try simp only[go_sem]
 obtain⟨df,mi,h0⟩:=bs h0
 refine jx (acv k _ _ mi) ?_ ?_
 ·try simp only[go_sem]
 try simp only[go_sem]
 refine AS h0 (fun eO h0=>?_) (fun eO h0=>?_)
 ·try simp only[eO,go_sem]
  refine AS h0 (fun fb h0=>?_) (fun fb h0=>?_)
  ·try simp only[fb,eO,go_sem]
   refine AS h0 (fun fj h0=>?_) (fun fj h0=>?_)
   ·try simp only[fj,eO,fb,go_sem]
    refine AS h0 (fun fw h0=>?_) (fun fw h0=>?_)
    ·try simp only[fw,eO,fb,fj,go_sem]
     refine AS h0 (fun fL h0=>?_) (fun fL h0=>?_)
     ·try simp only[fL,eO,fb,fj,fw,go_sem]
      refine AS h0 (fun gh h0=>?_) (fun gh h0=>?_)
      ·try simp only[gh,eO,fb,fj,fw,fL,go_sem]
       refine AS h0 (fun gC h0=>?_) (fun gC h0=>?_)
       ·try simp only[gC,eO,fb,fj,fw,fL,gh,go_sem]
        refine AS h0 (fun gX h0=>?_) (fun gX h0=>?_)
        ·try simp only[gX,eO,fb,fj,fw,fL,gh,gC,go_sem]
         obtain⟨fh,cg,h0⟩:=bs h0
         try simp only[aC cg,aD (Aa.c (n:=32) af) cg,eO,fb,fj,fw,fL,gh,gC,gX,go_sem]
         obtain⟨nK,fJ,h0⟩:=bs h0
         have ur:=Ao.at kH (Ao.self zlh fh) fJ
         have iG:=ur.bound kH
         have iM:=ur.get kH
         try simp only[AA,Az,go_sem]at iG iM
         try simp only[aq fJ,iG,iM,eO,fb,fj,fw,fL,gh,gC,gX,aC cg,aD (Aa.c (n:=32) af) cg,go_sem]
         refine AS h0 (fun iZ h0=>?_) (fun iZ h0=>?_)
         ·try simp only[iZ,aC cg,aD (Aa.c (n:=32) af) cg,eO,fb,fj,fw,fL,gh,gC,gX,aq fJ,iG,iM,go_sem]
          obtain⟨eJ,iE,h0⟩:=bs h0
          have aah:=Ao.at kH (Ao.self zlh fh) iE
          have jz:=aah.bound kH
          have jB:=aah.get kH
          try simp only[AA,Az,go_sem]at jz jB
          try simp only[aq iE,jz,jB,eO,fb,fj,fw,fL,gh,gC,gX,aC cg,aD (Aa.c (n:=32) af) cg,aq fJ,iG,iM,iZ,go_sem]
          refine AS h0 (fun j4 h0=>?_) (fun j4 h0=>?_)
          ·try simp only[j4,eO,fb,fj,fw,fL,gh,gC,gX,aC cg,aD (Aa.c (n:=32) af) cg,aq fJ,iG,iM,iZ,aq iE,jz,jB,go_sem]
           obtain⟨mV,fi,h0⟩:=bs h0
           try simp only[aC fi,aD (Aa.c (n:=32) af) fi,eO,fb,fj,fw,fL,gh,gC,gX,aC cg,aD (Aa.c (n:=32) af) cg,aq fJ,iG,iM,iZ,aq iE,jz,jB,j4,go_sem]
           obtain⟨x26,mj,h0⟩:=bs h0
           have ai9:=Ao.at kH (Ao.self zlh mV) mj
           have lC:=ai9.bound kH
           have lJ:=ai9.get kH
           try simp only[AA,Az,go_sem]at lC lJ
           try simp only[aq mj,lC,lJ,eO,fb,fj,fw,fL,gh,gC,gX,aC cg,aD (Aa.c (n:=32) af) cg,aq fJ,iG,iM,iZ,aq iE,jz,jB,j4,aC fi,aD (Aa.c (n:=32) af) fi,go_sem]
           refine AS h0 (fun mq h0=>?_) (fun mq h0=>?_)
           ·try simp only[mq,eO,fb,fj,fw,fL,gh,gC,gX,aC cg,aD (Aa.c (n:=32) af) cg,aq fJ,iG,iM,iZ,aq iE,jz,jB,j4,aC fi,aD (Aa.c (n:=32) af) fi,aq mj,lC,lJ,go_sem]
            refine AS h0 (fun m8 h0=>?_) (fun m8 h0=>?_)
            ·try simp only[m8,eO,fb,fj,fw,fL,gh,gC,gX,aC cg,aD (Aa.c (n:=32) af) cg,aq fJ,iG,iM,iZ,aq iE,jz,jB,j4,aC fi,aD (Aa.c (n:=32) af) fi,aq mj,lC,lJ,mq,go_sem]
             refine AS h0 (fun nR h0=>?_) (fun nR h0=>?_)
             ·try simp only[nR,eO,fb,fj,fw,fL,gh,gC,gX,aC cg,aD (Aa.c (n:=32) af) cg,aq fJ,iG,iM,iZ,aq iE,jz,jB,j4,aC fi,aD (Aa.c (n:=32) af) fi,aq mj,lC,lJ,mq,m8,go_sem]
              refine AS h0 (fun pt h0=>?_) (fun pt h0=>?_)
              ·try simp only[pt,eO,fb,fj,fw,fL,gh,gC,gX,aC cg,aD (Aa.c (n:=32) af) cg,aq fJ,iG,iM,iZ,aq iE,jz,jB,j4,aC fi,aD (Aa.c (n:=32) af) fi,aq mj,lC,lJ,mq,m8,nR,go_sem]
               refine AS h0 (fun qV h0=>?_) (fun qV h0=>?_)
               ·try simp only[qV,eO,fb,fj,fw,fL,gh,gC,gX,aC cg,aD (Aa.c (n:=32) af) cg,aq fJ,iG,iM,iZ,aq iE,jz,jB,j4,aC fi,aD (Aa.c (n:=32) af) fi,aq mj,lC,lJ,mq,m8,nR,pt,go_sem]
                refine AS h0 (fun sK h0=>?_) (fun sK h0=>?_)
                ·try simp only[sK,eO,fb,fj,fw,fL,gh,gC,gX,aC cg,aD (Aa.c (n:=32) af) cg,aq fJ,iG,iM,iZ,aq iE,jz,jB,j4,aC fi,aD (Aa.c (n:=32) af) fi,aq mj,lC,lJ,mq,m8,nR,pt,qV,go_sem]
                 refine AS h0 (fun uN h0=>?_) (fun uN h0=>?_)
                 ·try simp only[uN,eO,fb,fj,fw,fL,gh,gC,gX,aC cg,aD (Aa.c (n:=32) af) cg,aq fJ,iG,iM,iZ,aq iE,jz,jB,j4,aC fi,aD (Aa.c (n:=32) af) fi,aq mj,lC,lJ,mq,m8,nR,pt,qV,sK,go_sem]
                  refine AS h0 (fun xu h0=>?_) (fun xu h0=>?_)
                  ·try simp only[xu,eO,fb,fj,fw,fL,gh,gC,gX,aC cg,aD (Aa.c (n:=32) af) cg,aq fJ,iG,iM,iZ,aq iE,jz,jB,j4,aC fi,aD (Aa.c (n:=32) af) fi,aq mj,lC,lJ,mq,m8,nR,pt,qV,sK,uN,go_sem]
                   refine AS h0 (fun c35 h0=>?_) (fun c35 h0=>?_)
                   ·try simp only[c35,eO,fb,fj,fw,fL,gh,gC,gX,aC cg,aD (Aa.c (n:=32) af) cg,aq fJ,iG,iM,iZ,aq iE,jz,jB,j4,aC fi,aD (Aa.c (n:=32) af) fi,aq mj,lC,lJ,mq,m8,nR,pt,qV,sK,uN,xu,go_sem]
                    refine AS h0 (fun c36 h0=>?_) (fun c36 h0=>?_)
                    ·try simp only[c36,eO,fb,fj,fw,fL,gh,gC,gX,aC cg,aD (Aa.c (n:=32) af) cg,aq fJ,iG,iM,iZ,aq iE,jz,jB,j4,aC fi,aD (Aa.c (n:=32) af) fi,aq mj,lC,lJ,mq,m8,nR,pt,qV,sK,uN,xu,c35,go_sem]
                     obtain rfl:=oi h0
                     refine Ag rfl ?_
                     try simp only[Fk.rs,eO,fb,fj,fw,fL,gh,gC,gX,aC cg,aD (Aa.c (n:=32) af) cg,aq fJ,iG,iM,iZ,aq iE,jz,jB,j4,aC fi,aD (Aa.c (n:=32) af) fi,aq mj,lC,lJ,mq,m8,nR,pt,qV,sK,uN,xu,c35,c36,go_sem]
                    ·cases h0
                   ·cases h0
                  ·cases h0
                 ·cases h0
                ·cases h0
               ·cases h0
              ·cases h0
             ·cases h0
            ·cases h0
           ·cases h0
          ·cases h0
         ·cases h0
        ·cases h0
       ·cases h0
      ·cases h0
     ·cases h0
    ·cases h0
   ·cases h0
  ·cases h0
 ·cases h0
def Da.s0:SC:=
 SQ [SQ [RG [wV 9 6 3,wK 10 .geq 3 9 0 3 4 [9]],CN 10 .skip (.exit 0)],.block 1 (RG [wV 13 5 56 [5],wV 14 0 3,wV 15 6 3,oQ 16 (.binOp .mul 3 (.const (.int .i64 8)) (.tmp 15) 3) 3 [15],wO 17 .shr 3 14 16 3 3 [14,16],wY 18 3 5 17 5 [17],oQ 19 (.buildSlice 56 1 #[(0,.tmp 18)]) 56 [18],wP 20 13 19 56 56 56 [13,19],wG 5 20 56 [20]]),RG [wV 11 6 3 [6],wK 12 .sub 3 11 1 3 3 [11],wG 6 12 3 [12]]]
def Da.c:SC:=
 SQ [RG [oQ 4 (.assign (.const (.slice none 0 0))) 56 [4]],RG [oQ 5 (.assign (.const (.slice none 0 0))) 56],SQ [RG [wV 7 1 3 [1],wK 8 .sub 3 7 1 3 3 [7],wG 6 8 3 [8]],.block 0 (.loop Da.s0)],RG [wV 21 5 56 [5],wG 4 21 56 [21]],.ret]
theorem Da.rs:Try.f116.results.toList=[.tmp 4]:=rfl
def Cc.b0 (k:Nat) (n0:Int):(Int×(List Int))->Option (AT (Int×(List Int)) ((List Int)) ((List Int))):=fun s=>match s with
 |(i1,l2)=>
   bif decide ((0:Int)<=i1) then
    (lq (ab (8*i1))).bind fun _=>
    (fG 1 l2 (IntKind.u8.wrap (Int.fdiv n0 (2 ^ (min (Int.toNat (ab (8*i1))) 64))))).bind fun l6=>
    some (.next (ab (i1 - 1),l6))
   else
    some (.brk l2)
def Cc.h0 (n0:Int):(Int×(List Int))->St:=fun s=>match s with
 |(i1,l2)=>⟨[(0,.int .i64 n0),(5,.loc 0 0 1 0 l2.length l2.length),(6,.int .i64 i1)],[(0,.arr 5 1 (List.map af l2))],[],1,Try.f116.ntmps⟩
def Cc.x0:(List Int)->St:=fun l3=>⟨[(5,.loc 0 0 1 0 l3.length l3.length)],[(0,.arr 5 1 (List.map af l3))],[],1,Try.f116.ntmps⟩
def Cc (k:Nat) (n0:Int) (many1:Int):Option ((List Int)):=
 (aj (Cc.b0 k n0) k (ab (many1 - 1),[])).bind fun r7=>match r7 with
 |.next _=>none
 |.ret v_=>some v_
 |.brk l3=>
  some l3
theorem Fv (k:Nat) (n0:Int) (many1:Int) (r:(List Int)) (h0:Cc k n0 many1=some r):Aw Try.prog 116 [.int .i64 n0,.int .i64 many1] (fun y=>y=.sl 1 (List.map af r)):=by
 refine PB Try.f116 Da.c [.tmp 4] ?_
 simp only[Cc]at h0
 try simp only[Da.c,go_sem]
 obtain⟨r7,kF,h0⟩:=bs h0
 refine Bf kF (Cc.h0 n0) (Cc.x0) ?_ ?_ ?_
 refine Ah.go [0,5,6] [16] rfl ?_
 try simp only[Cc.h0,go_sem]
 rintro⟨i1,l2⟩ cO Bm Bn h1 aJ aH bK
 refine rS ?_
 simp only[Cc.b0]at h1
 try simp only[Da.s0,Cc.h0,go_sem]
 refine AS h1 ?_ ?_<;>intro c4 h1<;>have F:=c4<;>try simp only[F,go_sem]
 obtain⟨u5,yu5,h1⟩:=bs h1
 have F:=an (aab yu5) F
 try simp only[F,go_sem]
 obtain⟨l6,jV,h1⟩:=bs h1
 have sC:=pu af jV
 try simp only[F,go_sem]at sC
 have F:=an sC F
 try simp only[F,go_sem]
 refine AB (aJ _ _ (oi h1).symm (Ah.go [0,5,6] [0] rfl ?_))
 try simp only[Cc.h0,F,go_sem]
 refine AB (aH _ _ (oi h1).symm (Ah.go [5] [0] rfl ?_))
 try simp only[Cc.x0,F,go_sem]
 rintro l3 aK
 subst aK
 simp only at h0
 refine rS ?_
 try simp only[Cc.x0,go_sem]
 obtain rfl:=oi h0
 refine Ag rfl ?_
 try simp only[go_sem]
def BT.b0 (k:Nat) (n0:Int):(Int×(List Int))->Option (AT (Int×(List Int)) ((List Int)) ((List Int))):=fun s=>match s with
 |(i1,l2)=>
   bif decide ((0:Int)<=i1) then
    (lq (ab (8*i1))).bind fun _=>
    (fG 1 l2 (IntKind.u8.wrap (Int.fdiv n0 (2 ^ (min (Int.toNat (ab (8*i1))) 64))))).bind fun l6=>
    some (.next (ab (i1 - 1),l6))
   else
    some (.brk l2)
def BT.h0 (H:Heap) (n0:Int):(Int×(List Int))->St:=fun s=>match s with
 |(i1,l2)=>⟨[(0,.int .i64 n0),(5,.loc 0 0 1 0 l2.length l2.length),(6,.int .i64 i1)],[(0,.arr 5 1 (List.map af l2))],H,1,Try.f116.ntmps⟩
def BT.x0 (H:Heap):(List Int)->St:=fun l3=>⟨[(5,.loc 0 0 1 0 l3.length l3.length)],[(0,.arr 5 1 (List.map af l3))],H,1,Try.f116.ntmps⟩
def BT (k:Nat) (n0:Int) (many1:Int):Option ((List Int)):=
 (aj (BT.b0 k n0) k (ab (many1 - 1),[])).bind fun r7=>match r7 with
 |.next _=>none
 |.ret v_=>some v_
 |.brk l3=>
  some l3
theorem DC (k:Nat) (n0:Int) (many1:Int) (r:(List Int)) (h0:BT k n0 many1=some r):A6 Try.prog 116 [.int .i64 n0,.int .i64 many1] [] (fun y fr=>y=.loc 0 0 1 0 r.length r.length/\fr=[(0,.arr 5 1 (List.map af r))]):=by
 have hr:=A6.own (et:=5) (sz:=1) (ls:=List.map af r) (A6.gr Ax (f:=116) (fn:=Try.f116) (sc:=Da.c) (args:=[.int .i64 n0,.int .i64 many1]) (fr0:=[]) (by rfl) (by rfl) (by decide +kernel) (by rfl) (by decide +kernel) (Nat.le_of_ble_eq_true rfl) (fun H=>?_))
 simpa only [Bg] using hr
 refine rS ?_
 simp only[BT]at h0
 try simp only[Da.c,go_sem]
 obtain⟨r7,kF,h0⟩:=bs h0
 refine Bf kF (BT.h0 H n0) (BT.x0 H) ?_ ?_ ?_
 refine Ah.go [0,5,6] [32] rfl ?_
 try simp only[BT.h0,go_sem]
 rintro⟨i1,l2⟩ cO Bm Bn h1 aJ aH bK
 refine rS ?_
 simp only[BT.b0]at h1
 try simp only[Da.s0,BT.h0,go_sem]
 refine AS h1 ?_ ?_<;>intro c4 h1<;>have F:=c4<;>try simp only[F,go_sem]
 obtain⟨u5,yu5,h1⟩:=bs h1
 have F:=an (aab yu5) F
 try simp only[F,go_sem]
 obtain⟨l6,jV,h1⟩:=bs h1
 have sC:=pu af jV
 try simp only[F,go_sem]at sC
 have F:=an sC F
 try simp only[F,go_sem]
 refine AB (aJ _ _ (oi h1).symm (Ah.go [0,5,6] [0] rfl ?_))
 try simp only[BT.h0,F,go_sem]
 refine AB (aH _ _ (oi h1).symm (Ah.go [5] [0] rfl ?_))
 try simp only[BT.x0,F,go_sem]
 rintro l3 aK
 subst aK
 simp only at h0
 refine rS ?_
 try simp only[BT.x0,go_sem]
 obtain rfl:=oi h0
 refine C8 rfl ?_
 try simp only[Da.rs,mN,A5,bZ,sP,uV,Bd,CK,go_sem]
end Go.Abs
end
