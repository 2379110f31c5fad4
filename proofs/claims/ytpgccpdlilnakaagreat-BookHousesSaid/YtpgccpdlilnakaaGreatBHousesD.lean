/-
  Part 4 of the proof: a machine over named blocks, what each function computes, and what follows. No condition.
-/
import Derived.Test.YtpgccpdlilnakaaGreatProg
import Derived.Ground.Names2Prog
import Derived.Shelf.Lays
import Derived.WalkKit
import Derived.Lib.Walk
import Derived.Lib.SliceRun
import Derived.Lib.JoinLaws
import Derived.Lib.AppendZerosOnto
import Derived.Lib.Overlaps
import Derived.Laws.Externs
import Derived.Laws.IdiomCopy
import Derived.Laws.NewBlocks
import Derived.Shelf.Spec.SlicesInsert
import Derived.Tactics
import Derived.Tactics2
import Derived.Laws.Pointers
import Derived.RangeFuncLeaves
import Derived.Test.YtpgccpdlilnakaaGreatBHousesC
set_option linter.unusedVariables false
set_option linter.unusedSimpArgs false
set_option linter.all false
set_option maxRecDepth 100000
set_option maxHeartbeats 8000000
noncomputable section
namespace Go.Abs
open Go.Proofs
structure BE where
  Kind:Int
  Ac:Int
  To:Int
  Ab:(Aa 5 Int)
  Cx:(List Int)
def BE.c (x:BE):List AV:=[.int .i64 x.Kind,.int .i64 x.Ac,.int .i64 x.To]++(Aa.c (n:=5) eI x.Ab++([.sl 1 (List.map eI x.Cx)]))
structure Entry where
  Ac:Int
  No:Int
def Entry.c (x:Entry):List AV:=[.int .i64 x.Ac,.int .i64 x.No]
structure Ab where
  At:Entry
  Kind:Int
  Day:Int
  Ap:Int
  Of:Entry
  Text:ByteArray
def Ab.c (x:Ab):List AV:=[.int .i64 x.At.Ac,.int .i64 x.At.No,.int .i64 x.Kind,.int .i64 x.Day,.int .i64 x.Ap,.int .i64 x.Of.Ac,.int .i64 x.Of.No,.str x.Text]
structure Av where
  Bs:Int
  To:Int
  Have:(Aa 6 Int)
  Ah:(List Ab)
def Av.c (x:Av):List AV:=[.int .i64 x.Bs,.int .i64 x.To]++(Aa.c (n:=6) eI x.Have++([.sl 8 (List.map Ab.c x.Ah)]))
structure Ct where
  Ac:Int
  To:Int
  Ab:Ab
  Av:Av
  Cx:(List Int)
  Dj:Int
  By:Int
def Ct.c (x:Ct):List AV:=[.int .i64 x.Ac,.int .i64 x.To,.int .i64 x.Ab.At.Ac,.int .i64 x.Ab.At.No,.int .i64 x.Ab.Kind,.int .i64 x.Ab.Day,.int .i64 x.Ab.Ap,.int .i64 x.Ab.Of.Ac,.int .i64 x.Ab.Of.No,.str x.Ab.Text,.int .i64 x.Av.Bs,.int .i64 x.Av.To]++(Aa.c (n:=6) eI x.Av.Have++([.sl 8 (List.map Ab.c x.Av.Ah),.sl 1 (List.map eI x.Cx),.int .i64 x.Dj,.int .i64 x.By]))
structure As where
  At:Int
  AQ:(Aa 2 (Aa 32 Int))
def As.c (x:As):List AV:=[.int .i64 x.At]++(Aa.c (n:=2) (Aa.c (n:=32) ae) x.AQ)
structure Ad where
  Aj:(List (Aa 2 (Aa 32 Int)))
  Af:(List As)
def Ad.c (x:Ad):List AV:=[.sl 64 (List.map (Aa.c (n:=2) (Aa.c (n:=32) ae)) x.Aj),.sl 65 (List.map As.c x.Af)]
structure Ak where
  Ah:(List Ab)
def Ak.c (x:Ak):List AV:=[.sl 8 (List.map Ab.c x.Ah)]
structure Ai where
  Ak:Ak
  AS:Int
  Aq:Int
  Used:Int
def Ai.c (x:Ai):List AV:=[.sl 8 (List.map Ab.c x.Ak.Ah),.int .i64 x.AS,.int .i64 x.Aq,.int .i64 x.Used]
structure Ac where
  Me:Int
  Ad:Ad
  Ai:Ai
  Ap:(Aa 6 (Aa 6 Int))
def Ac.c (x:Ac):List AV:=[.int .i64 x.Me,.sl 64 (List.map (Aa.c (n:=2) (Aa.c (n:=32) ae)) x.Ad.Aj),.sl 65 (List.map As.c x.Ad.Af),.sl 8 (List.map Ab.c x.Ai.Ak.Ah),.int .i64 x.Ai.AS,.int .i64 x.Ai.Aq,.int .i64 x.Ai.Used]++(Aa.c (n:=6) (Aa.c (n:=6) eI) x.Ap)
structure CH where
  Aq:Int
  Ah:(List Ab)
  Used:Int
def CH.c (x:CH):List AV:=[.int .i64 x.Aq,.sl 8 (List.map Ab.c x.Ah),.int .i64 x.Used]
structure aF where
  Ad:Ad
def aF.c (x:aF):List AV:=[.sl 64 (List.map (Aa.c (n:=2) (Aa.c (n:=32) ae)) x.Ad.Aj),.sl 65 (List.map As.c x.Ad.Af)]
structure cU where
  ag2:(Option aF)
  aX:Int
  de:Int
  used:Int
  book:Ak
  records:Int
def cU.c (x:cU):List AV:=[aP 2 aF.c x.ag2,.int .i64 x.aX,.int .i64 x.de,.int .i64 x.used,.sl 8 (List.map Ab.c x.book.Ah),.int .i64 x.records]
structure Fa where
  Kind:Int
  Ab:(Aa 5 Int)
  Cx:(List Int)
def Fa.c (x:Fa):List AV:=[.int .i64 x.Kind]++(Aa.c (n:=5) eI x.Ab++([.sl 1 (List.map eI x.Cx)]))
structure Ff where
  AQ:Int
  Jw:Int
  At:Int
  IG:Int
def Ff.c (x:Ff):List AV:=[.int .i64 x.AQ,.int .i64 x.Jw,.int .i64 x.At,.int .i64 x.IG]
structure FT where
  IL:(List Fa)
  Jx:(List Ff)
  Cut:Int
  Jv:Bool
def FT.c (x:FT):List AV:=[.sl 7 (List.map Fa.c x.IL),.sl 4 (List.map Ff.c x.Jx),.int .i64 x.Cut,.bool x.Jv]
structure FR where
  Dj:Int
  By:Int
  Ab:Ab
def FR.c (x:FR):List AV:=[.int .i64 x.Dj,.int .i64 x.By,.int .i64 x.Ab.At.Ac,.int .i64 x.Ab.At.No,.int .i64 x.Ab.Kind,.int .i64 x.Ab.Day,.int .i64 x.Ab.Ap,.int .i64 x.Ab.Of.Ac,.int .i64 x.Ab.Of.No,.str x.Ab.Text]
def X3:TI:=⟨1,8,[.int .i64 0],.int .i64,0,0,false,[],[],true,[]⟩
def X4:TI:=⟨1,1,[.bool false],.bool,0,0,false,[],[],true,[]⟩
def X5:TI:=⟨1,1,[.int .u8 0],.int .u8,0,0,false,[],[],true,[]⟩
def X9:TI:=⟨1,16,[.str ByteArray.empty],.str,0,0,false,[],[],true,[]⟩
def Gl:TI:=⟨1,16,[.cj],.iface,0,0,false,[],[],false,[]⟩
def Gq:TI:=⟨1,24,[.nil],.slice 144,7,72,true,[.int .i64 0]++(Aa.c (n:=5) eI (Aa.rep 5 (0:Int))++([.nil])),[],false,[(0,144,7)]⟩
def Gr:TI:=⟨4,64,[.nil,.nil,.int .i64 0,.bool false],.struct,0,0,false,[],[(0,1,false),(1,1,false),(2,1,false),(3,1,false)],false,[(0,144,7),(1,141,4)]⟩
def Gs:TI:=⟨2,16,[.int .i64 0,.int .i64 0],.struct,0,0,false,[],[(0,1,false),(1,1,false)],true,[]⟩
def Gt:TI:=⟨8,72,[.int .i64 0,.int .i64 0,.int .i64 0,.int .i64 0,.int .i64 0,.int .i64 0,.int .i64 0,.str ByteArray.empty],.struct,0,0,false,[],[(0,2,true),(2,1,false),(3,1,false),(4,1,false),(5,2,true),(7,1,false)],true,[]⟩
def Gu:TI:=⟨10,88,[.int .i64 0,.int .i64 0,.int .i64 0,.int .i64 0,.int .i64 0,.int .i64 0,.int .i64 0,.int .i64 0,.int .i64 0,.str ByteArray.empty],.struct,0,0,false,[],[(0,1,false),(1,1,false),(2,8,true)],true,[]⟩
def Gv:TI:=⟨1,24,[.nil],.slice 113,64,64,true,Aa.c (n:=2) (Aa.c (n:=32) ae) (Aa.rep 2 ((Aa.rep 32 (0:Int)):(Aa 32 Int))),[],false,[(0,113,64)]⟩
def Gw:TI:=⟨1,24,[.nil],.slice 116,65,72,true,[.int .i64 0]++(Aa.c (n:=2) (Aa.c (n:=32) ae) (Aa.rep 2 ((Aa.rep 32 (0:Int)):(Aa 32 Int)))),[],false,[(0,116,65)]⟩
def Gx:TI:=⟨2,48,[.nil,.nil],.struct,0,0,false,[],[(0,1,false),(1,1,false)],false,[(0,113,64),(1,116,65)]⟩
def Gy:TI:=⟨1,24,[.nil],.slice 29,8,72,true,[.int .i64 0,.int .i64 0,.int .i64 0,.int .i64 0,.int .i64 0,.int .i64 0,.int .i64 0,.str ByteArray.empty],[],false,[(0,29,8)]⟩
def Gz:TI:=⟨1,24,[.nil],.struct,0,0,false,[],[(0,1,false)],false,[(0,29,8)]⟩
def GA:TI:=⟨4,48,[.nil,.int .i64 0,.int .i64 0,.int .i64 0],.struct,0,0,false,[],[(0,1,true),(1,1,false),(2,1,false),(3,1,false)],false,[(0,29,8)]⟩
def GB:TI:=⟨1,24,[.nil],.slice 36,2,48,true,[.nil,.nil],[],false,[(0,36,2)]⟩
def GC:TI:=⟨1,8,[.int .i64 0],.int .i64,0,0,false,[],[],true,[]⟩
def GF:TI:=⟨1,24,[.nil],.slice 121,9,88,true,[.int .i64 0,.int .i64 0,.int .i64 0]++(Aa.c (n:=5) eI (Aa.rep 5 (0:Int))++([.nil])),[],false,[(0,121,9)]⟩
def GG:TI:=⟨6,48,Aa.c (n:=6) eI (Aa.rep 6 (0:Int)),.array 6 3,1,8,false,[.int .i64 0],[],true,[]⟩
def GH:TI:=⟨9,88,[.int .i64 0,.int .i64 0]++(Aa.c (n:=6) eI (Aa.rep 6 (0:Int))++([.nil])),.struct,0,0,false,[],[(0,1,false),(1,1,false),(2,6,true),(8,1,false)],false,[(8,29,8)]⟩
def GI:TI:=⟨1,24,[.nil],.slice 3,1,8,false,[.int .i64 0],[],false,[(0,3,1)]⟩
def GJ:TI:=⟨22,216,[.int .i64 0,.int .i64 0,.int .i64 0,.int .i64 0,.int .i64 0,.int .i64 0,.int .i64 0,.int .i64 0,.int .i64 0,.str ByteArray.empty,.int .i64 0,.int .i64 0]++(Aa.c (n:=6) eI (Aa.rep 6 (0:Int))++([.nil,.nil,.int .i64 0,.int .i64 0])),.struct,0,0,false,[],[(0,1,false),(1,1,false),(2,8,true),(10,9,true),(19,1,false),(20,1,false),(21,1,false)],false,[(18,29,8),(19,3,1)]⟩
def GK:TI:=⟨36,288,Aa.c (n:=6) (Aa.c (n:=6) eI) (Aa.rep 6 ((Aa.rep 6 (0:Int)):(Aa 6 Int))),.array 6 55,6,48,true,Aa.c (n:=6) eI (Aa.rep 6 (0:Int)),[],true,[]⟩
def GL:TI:=⟨43,392,[.int .i64 0,.nil,.nil,.nil,.int .i64 0,.int .i64 0,.int .i64 0]++(Aa.c (n:=6) (Aa.c (n:=6) eI) (Aa.rep 6 ((Aa.rep 6 (0:Int)):(Aa 6 Int)))),.struct,0,0,false,[],[(0,1,false),(1,2,true),(3,4,true),(7,36,true)],false,[(1,113,64),(2,116,65),(3,29,8)]⟩
def GM:TI:=⟨129,1176,Aa.c (n:=3) Ac.c (Aa.rep 3 ((⟨0,(⟨[],[]⟩:Ad),(⟨(⟨[]⟩:Ak),0,0,0⟩:Ai),(Aa.rep 6 ((Aa.rep 6 (0:Int)):(Aa 6 Int)))⟩:Ac):Ac)),.array 3 63,43,392,true,[.int .i64 0,.nil,.nil,.nil,.int .i64 0,.int .i64 0,.int .i64 0]++(Aa.c (n:=6) (Aa.c (n:=6) eI) (Aa.rep 6 ((Aa.rep 6 (0:Int)):(Aa 6 Int)))),[],false,[]⟩
def GN:TI:=⟨1,24,[.nil],.slice 57,9,88,true,[.int .i64 0,.int .i64 0]++(Aa.c (n:=6) eI (Aa.rep 6 (0:Int))++([.nil])),[],false,[(0,57,9)]⟩
def GO:TI:=⟨1,24,[.nil],.slice 5,1,1,false,[.int .u8 0],[],false,[(0,5,1)]⟩
def GP:TI:=⟨1,24,[.nil],.slice 92,32,32,true,Aa.c (n:=32) ae (Aa.rep 32 (0:Int)),[],false,[(0,92,32)]⟩
def GQ:TI:=⟨32,32,Aa.c (n:=32) ae (Aa.rep 32 (0:Int)),.array 32 5,1,1,false,[.int .u8 0],[],true,[]⟩
def GR:TI:=⟨1,24,[.nil],.slice 105,32,32,true,Aa.c (n:=32) ae (Aa.rep 32 (0:Int)),[],false,[(0,105,32)]⟩
def GS:TI:=⟨1,8,[.bQ],.ptr 102,0,0,false,[],[],false,[]⟩
def F7:TI:=⟨2,48,[.nil,.nil],.struct,0,0,false,[],[(0,2,true)],false,[(0,113,64),(1,116,65)]⟩
def F8:TI:=⟨32,32,Aa.c (n:=32) ae (Aa.rep 32 (0:Int)),.array 32 5,1,1,false,[.int .u8 0],[],true,[]⟩
def F9:TI:=⟨64,64,Aa.c (n:=2) (Aa.c (n:=32) ae) (Aa.rep 2 ((Aa.rep 32 (0:Int)):(Aa 32 Int))),.array 2 92,32,32,true,Aa.c (n:=32) ae (Aa.rep 32 (0:Int)),[],true,[]⟩
def Ga:TI:=⟨65,72,[.int .i64 0]++(Aa.c (n:=2) (Aa.c (n:=32) ae) (Aa.rep 2 ((Aa.rep 32 (0:Int)):(Aa 32 Int)))),.struct,0,0,false,[],[(0,1,false),(1,64,true)],true,[]⟩
def Gb:TI:=⟨5,40,Aa.c (n:=5) eI (Aa.rep 5 (0:Int)),.array 5 3,1,8,false,[.int .i64 0],[],true,[]⟩
def Gc:TI:=⟨9,88,[.int .i64 0,.int .i64 0,.int .i64 0]++(Aa.c (n:=5) eI (Aa.rep 5 (0:Int))++([.nil])),.struct,0,0,false,[],[(0,1,false),(1,1,false),(2,1,false),(3,5,true),(8,1,false)],false,[(8,3,1)]⟩
def Gd:TI:=⟨6,64,[.bQ,.int .i64 0,.int .i64 0,.int .i64 0,.nil,.int .i64 0],.struct,0,0,false,[],[(0,1,false),(1,1,false),(2,1,false),(3,1,false),(4,1,true),(5,1,false)],false,[(4,29,8)]⟩
def Ge:TI:=⟨7,72,[.int .i64 0]++(Aa.c (n:=5) eI (Aa.rep 5 (0:Int))++([.nil])),.struct,0,0,false,[],[(0,1,false),(1,5,true),(6,1,false)],false,[(6,3,1)]⟩
def Gf:TI:=⟨3,40,[.int .i64 0,.nil,.int .i64 0],.struct,0,0,false,[],[(0,1,false),(1,1,false),(2,1,false)],false,[(1,29,8)]⟩
def Gg:TI:=⟨2,16,Aa.c (n:=2) eI (Aa.rep 2 (0:Int)),.array 2 3,1,8,false,[.int .i64 0],[],true,[]⟩
def Gh:TI:=⟨1,24,[.nil],.slice 163,2,16,true,Aa.c (n:=2) eI (Aa.rep 2 (0:Int)),[],false,[(0,163,2)]⟩
def Gi:TI:=⟨1,8,[.int .u64 0],.int .u64,0,0,false,[],[],true,[]⟩
def Gj:TI:=⟨1,24,[.nil],.slice 9,1,16,false,[.str ByteArray.empty],[],false,[(0,9,1)]⟩
def Gk:TI:=⟨1,8,[.cg],.func,0,0,false,[],[],false,[]⟩
def Gm:TI:=⟨0,0,[],.struct,0,0,false,[],[],true,[]⟩
def Gn:TI:=⟨1,8,[.bQ],.ptr 207,0,0,false,[],[],false,[]⟩
def Gp:TI:=⟨1,24,[.nil],.struct,0,0,false,[],[(0,1,false)],false,[(0,5,1)]⟩
def TL:List (Nat×TI):=[(3,X3),(4,X4),(5,X5),(9,X9),(20,Gl),(22,Gq),(25,Gr),(27,Gs),(29,Gt),(31,Gu),(33,Gv),(34,Gw),(36,Gx),(38,Gy),(40,Gz),(42,GA),(44,GB),(45,GC),(54,GF),(55,GG),(57,GH),(58,GI),(60,GJ),(61,GK),(63,GL),(64,GM),(65,GN),(82,GO),(85,GP),(92,GQ),(97,GR),(99,GS),(102,F7),(105,F8),(113,F9),(116,Ga),(119,Gb),(121,Gc),(137,Gd),(144,Ge),(151,Gf),(163,Gg),(164,Gh),(172,Gi),(176,Gj),(188,Gk),(203,Gm),(205,Gn),(207,Gp)]
def T:AR:=look TL
theorem AE:AX Tryz.prog T:=arV _ _ (by decide +kernel)
theorem aO:Tryz.prog.follows .mixedOrders=true:=by rfl
theorem JW:T 3=some X3:=rfl
theorem J4:T 4=some X4:=rfl
theorem J9:T 5=some X5:=rfl
theorem Kl:T 9=some X9:=rfl
theorem JO:T 20=some Gl:=rfl
theorem JS:T 22=some Gq:=rfl
theorem JT:T 25=some Gr:=rfl
theorem JU:T 27=some Gs:=rfl
theorem JV:T 29=some Gt:=rfl
theorem JX:T 31=some Gu:=rfl
theorem JY:T 33=some Gv:=rfl
theorem JZ:T 34=some Gw:=rfl
theorem J2:T 36=some Gx:=rfl
theorem J3:T 38=some Gy:=rfl
theorem J5:T 40=some Gz:=rfl
theorem J6:T 42=some GA:=rfl
theorem J7:T 44=some GB:=rfl
theorem J8:T 45=some GC:=rfl
theorem Ka:T 54=some GF:=rfl
theorem Kb:T 55=some GG:=rfl
theorem Kc:T 57=some GH:=rfl
theorem Kd:T 58=some GI:=rfl
theorem Ke:T 60=some GJ:=rfl
theorem Kf:T 61=some GK:=rfl
theorem Kg:T 63=some GL:=rfl
theorem Kh:T 64=some GM:=rfl
theorem Ki:T 65=some GN:=rfl
theorem Kj:T 82=some GO:=rfl
theorem Kk:T 85=some GP:=rfl
theorem Km:T 92=some GQ:=rfl
theorem Kn:T 97=some GR:=rfl
theorem Ko:T 99=some GS:=rfl
theorem JA:T 102=some F7:=rfl
theorem JB:T 105=some F8:=rfl
theorem JC:T 113=some F9:=rfl
theorem JD:T 116=some Ga:=rfl
theorem JE:T 119=some Gb:=rfl
theorem JF:T 121=some Gc:=rfl
theorem JG:T 137=some Gd:=rfl
theorem JH:T 144=some Ge:=rfl
theorem JI:T 151=some Gf:=rfl
theorem JJ:T 163=some Gg:=rfl
theorem JK:T 164=some Gh:=rfl
theorem JL:T 172=some Gi:=rfl
theorem JM:T 176=some Gj:=rfl
theorem JN:T 188=some Gk:=rfl
theorem JP:T 203=some Gm:=rfl
theorem JQ:T 205=some Gn:=rfl
theorem JR:T 207=some Gp:=rfl
attribute [go_sem] JW X3 J4 X4 J9 X5 Kl X9 JO Gl JS Gq JT Gr JU Gs JV Gt JX Gu JY Gv JZ Gw J2 Gx J3 Gy J5 Gz J6 GA J7 GB J8 GC Ka GF Kb GG Kc GH Kd GI Ke GJ Kf GK Kg GL Kh GM Ki GN Kj GO Kk GP Km GQ Kn GR Ko GS JA F7 JB F8 JC F9 JD Ga JE Gb JF Gc JG Gd JH Ge JI Gf JJ Gg JK Gh JL Gi JM Gj JN Gk JP Gm JQ Gn JR Gp
theorem akv:VK 8 Ab.c:=⟨fun x=>rfl,fun x=>⟨fun _=>rfl,fun _=>rfl,fun _ _=>rfl,rfl,fun _=>rfl,fun _=>rfl,fun _=>rfl⟩⟩
theorem ac3:VK 43 Ac.c:=⟨fun x=>by simp[Ac.c,(VK.vec iu _).len,(VK.vec kf _).len,(VK.vec (VK.vec kf _) _).len,(VK.vec (VK.vec iu _) _).len,Aa.len iu.len,Aa.len kf.len,Aa.len (VK.vec kf _).len,Aa.len (VK.vec iu _).len],fun x=>(Ch.append ⟨fun _=>rfl,fun _=>rfl,fun _ _=>rfl,rfl,fun _=>rfl,fun _=>rfl,fun _=>rfl⟩ ((VK.vec (VK.vec iu 6) 6).ou _))⟩
theorem afP (v:(Aa 2 Int)):(Aa.c (n:=2) eI v).length=2:=(VK.vec iu 2).len v
theorem afO (v:(Aa 2 Int)) (k:Nat) (b:AJ):AV.dD k b (Aa.c (n:=2) eI v)=some (Aa.c (n:=2) eI v):=uy (fun _=>rfl) v
theorem alC (v:(Aa 2 Int)):Dv (Aa.c (n:=2) eI v) 2 3 4 5:=ub (afP v) ((VK.vec iu 2).ou v) (afO v) rfl rfl rfl
attribute [go_sem] afP afO alC
theorem afN (v:(Aa 5 Int)):(Aa.c (n:=5) eI v).length=5:=(VK.vec iu 5).len v
theorem afM (v:(Aa 5 Int)) (k:Nat) (b:AJ):AV.dD k b (Aa.c (n:=5) eI v)=some (Aa.c (n:=5) eI v):=uy (fun _=>rfl) v
theorem alB (v:(Aa 5 Int)):Dv (Aa.c (n:=5) eI v) 5 6 7 8:=ub (afN v) ((VK.vec iu 5).ou v) (afM v) rfl rfl rfl
attribute [go_sem] afN afM alB
theorem afR (v:(Aa 6 Int)):(Aa.c (n:=6) eI v).length=6:=(VK.vec iu 6).len v
theorem ac9 (v:(Aa 6 Int)) (k:Nat) (b:AJ):AV.dD k b (Aa.c (n:=6) eI v)=some (Aa.c (n:=6) eI v):=uy (fun _=>rfl) v
theorem alD (v:(Aa 6 Int)):Dv (Aa.c (n:=6) eI v) 6 7 8 9:=ub (afR v) ((VK.vec iu 6).ou v) (ac9 v) rfl rfl rfl
theorem afQ (a b:(Aa 6 Int)):bL (Aa.c (n:=6) eI (Aa.rep 6 (0:Int))) (Aa.c (n:=6) eI a) (Aa.c (n:=6) eI b)=some ((Aa.eq (fun(x y:Int)=>decide (x=y))) a b):=abP iu.len (fun x y=>by simp[bL,jT,eI,ae,eB,eS]) a b
attribute [go_sem] afR ac9 alD afQ
theorem afX (v:(Aa 32 Int)):(Aa.c (n:=32) ae v).length=32:=(VK.vec kf 32).len v
theorem ada (v:(Aa 32 Int)) (k:Nat) (b:AJ):AV.dD k b (Aa.c (n:=32) ae v)=some (Aa.c (n:=32) ae v):=uy (fun _=>rfl) v
theorem alH (v:(Aa 32 Int)):Dv (Aa.c (n:=32) ae v) 32 33 34 35:=ub (afX v) ((VK.vec kf 32).ou v) (ada v) rfl rfl rfl
theorem afW (a b:(Aa 32 Int)):bL (Aa.c (n:=32) ae (Aa.rep 32 (0:Int))) (Aa.c (n:=32) ae a) (Aa.c (n:=32) ae b)=some ((Aa.eq (fun(x y:Int)=>decide (x=y))) a b):=abP kf.len (fun x y=>by simp[bL,jT,eI,ae,eB,eS]) a b
attribute [go_sem] afX ada alH afW
theorem afT (v:(Aa 6 (Aa 6 Int))):(Aa.c (n:=6) (Aa.c (n:=6) eI) v).length=36:=(VK.vec (VK.vec iu 6) 6).len v
theorem afS (v:(Aa 6 (Aa 6 Int))) (k:Nat) (b:AJ):AV.dD k b (Aa.c (n:=6) (Aa.c (n:=6) eI) v)=some (Aa.c (n:=6) (Aa.c (n:=6) eI) v):=uy (fun y=>ac9 y k b) v
theorem alE (v:(Aa 6 (Aa 6 Int))):Dv (Aa.c (n:=6) (Aa.c (n:=6) eI) v) 36 37 38 39:=ub (afT v) ((VK.vec (VK.vec iu 6) 6).ou v) (afS v) rfl rfl rfl
theorem alF (a b:(Aa 6 (Aa 6 Int))):bL (Aa.c (n:=6) (Aa.c (n:=6) eI) (Aa.rep 6 ((Aa.rep 6 (0:Int)):(Aa 6 Int)))) (Aa.c (n:=6) (Aa.c (n:=6) eI) a) (Aa.c (n:=6) (Aa.c (n:=6) eI) b)=some ((Aa.eq (Aa.eq (fun(x y:Int)=>decide (x=y)))) a b):=abP (VK.vec iu 6).len afQ a b
attribute [go_sem] afT afS alE alF
theorem afL (v:(Aa 2 (Aa 32 Int))):(Aa.c (n:=2) (Aa.c (n:=32) ae) v).length=64:=(VK.vec (VK.vec kf 32) 2).len v
theorem afK (v:(Aa 2 (Aa 32 Int))) (k:Nat) (b:AJ):AV.dD k b (Aa.c (n:=2) (Aa.c (n:=32) ae) v)=some (Aa.c (n:=2) (Aa.c (n:=32) ae) v):=uy (fun y=>ada y k b) v
theorem alz (v:(Aa 2 (Aa 32 Int))):Dv (Aa.c (n:=2) (Aa.c (n:=32) ae) v) 64 65 66 67:=ub (afL v) ((VK.vec (VK.vec kf 32) 2).ou v) (afK v) rfl rfl rfl
theorem alA (a b:(Aa 2 (Aa 32 Int))):bL (Aa.c (n:=2) (Aa.c (n:=32) ae) (Aa.rep 2 ((Aa.rep 32 (0:Int)):(Aa 32 Int)))) (Aa.c (n:=2) (Aa.c (n:=32) ae) a) (Aa.c (n:=2) (Aa.c (n:=32) ae) b)=some ((Aa.eq (Aa.eq (fun(x y:Int)=>decide (x=y)))) a b):=abP (VK.vec kf 32).len afW a b
attribute [go_sem] afL afK alz alA
theorem afV (v:(Aa 3 Ac)):(Aa.c (n:=3) Ac.c v).length=129:=(VK.vec ac3 3).len v
theorem afU (v:(Aa 3 Ac)) (k:Nat) (b:AJ):AV.dD k b (Aa.c (n:=3) Ac.c v)=some (Aa.c (n:=3) Ac.c v):=uy (fun y=>by simp only[Ac.c,go_sem]) v
theorem alG (v:(Aa 3 Ac)):Dv (Aa.c (n:=3) Ac.c v) 129 130 131 132:=ub (afV v) ((VK.vec ac3 3).ou v) (afU v) rfl rfl rfl
attribute [go_sem] afV afU alG
theorem as8:Lf Entry.c:=by
  intro x y hy
  simp only[Entry.c,A9,BF,List.not_mem_nil,or_false]at hy
  rcases hy with hy|hy<;>first|(subst hy;rfl)
theorem apL:Lf As.c:=by
  intro x y hy
  simp only[As.c,A9,BF,List.not_mem_nil,or_false]at hy
  rcases hy with hy|hy<;>first|exact(Lf.vec (n:=2) (Lf.vec aiJ)) _ _ hy|(subst hy;rfl)
attribute [go_sem] BE.c Entry.c Ab.c Av.c Ct.c As.c Ad.c Ak.c Ai.c Ac.c CH.c aF.c cU.c Fa.c Ff.c FT.c FR.c
theorem adk {b:Bool} (h:(!b)=true):b=false:=by simpa using h
theorem adj {b:Bool} (h:(!b)=false):b=true:=by simpa using h
theorem abe:∀ q_,(Aa.c (n:=3) Ac.c q_).length=129:=fun q_=>(VK.vec ac3 3).len q_
theorem abd:∀ q_,(Ac.c q_).length=43:=fun q_=>ac3.len q_
theorem yo:∀ q_,(Aa.c (n:=6) (Aa.c (n:=6) eI) q_).length=36:=fun q_=>(VK.vec (VK.vec iu 6) 6).len q_
theorem vL:∀ q_,((Aa.c (n:=6) eI) q_).length=6:=fun q_=>(VK.vec iu 6).len q_
theorem fg:∀ q_,(eI q_).length=1:=fun q_=>iu.len q_
theorem gP:∀ q_,(Aa.c (n:=2) (Aa.c (n:=32) ae) q_).length=64:=fun q_=>(VK.vec (VK.vec kf 32) 2).len q_
theorem gN:∀ q_,((Aa.c (n:=32) ae) q_).length=32:=fun q_=>(VK.vec kf 32).len q_
theorem gQ:∀ q_,(Aa.c (n:=32) ae q_).length=32:=fun q_=>(VK.vec kf 32).len q_
theorem gO:∀ q_,(ae q_).length=1:=fun q_=>kf.len q_
theorem abf:∀ q_,(Aa.c (n:=6) eI q_).length=6:=fun q_=>(VK.vec iu 6).len q_
theorem yn:∀ q_,(Aa.c (n:=5) eI q_).length=5:=fun q_=>(VK.vec iu 5).len q_
theorem aly:∀ q_,(Aa.c (n:=2) eI q_).length=2:=fun q_=>(VK.vec iu 2).len q_
theorem PB (fn : Func) (sc : SC) (rs : List ResultVar) {f : FuncId} {c : Code} {args : List AV} {v : AV} (h : AM Tryz.prog fn.ntmps (DT T rs fun y => NL y v) (run T 1000 [.sc sc] (St.enter args [] fn.ntmps))) (hf : Tryz.prog.funcs[f]? = some fn := by rfl) (hb : fn.body = some c := by rfl) (jJ : (fn.name == "runtime.NumGoroutine") = false := by decide +kernel) (he : sc.bare = erase fn.ntmps c := by rfl) (eT : (erase fn.ntmps c).fits fn.ntmps = true := by decide +kernel) (fC : args.length ≤ fn.ntmps := by exact Nat.le_of_ble_eq_true rfl) (hrs : fn.results.toList = rs := by rfl) : Ay Tryz.prog f args (fun y => y = v) := Ay.nlr (Ay.gD AE hf hb jJ he eT fC (by rw [hrs]; exact ik AE 1000 _ _ h))
section
variable {n:Nat}{Φ:Exit->St->Prop}{f:FuncId}{args aE:List AV}{v:AV}{dst:Option Tmp}{drop:List Nat}{todo:List It}{st:St}{C:List (De×Rd)->St->Prop}{o:Az}{os:List Az}{acc:List (De×Rd)}{ops:List Az}{befs:List (List Nat)}
theorem rS [Md] (h:AM Tryz.prog n Φ (run T 1000 todo st)):AK Tryz.prog n Φ todo st:=ik AE 1000 _ _ h
theorem aj {α ρ:Type}{A:Option α}{G:α->Option ρ}{r:ρ}{vf:α->AV} (h0:A.bind G=some r) (hp:∀ x,A=some x->Ay Tryz.prog f aE (fun y=>y=vf x)) (hz:lh (AV.aQ (Heap.get ([]::st.fr::st.low)) args) aE) (h:∀ x,G x=some r->AM Tryz.prog n Φ (run T 1000 todo (st.gF dst drop (vf x) [] (st.fr::st.low)))) (hr:∀ x,(AV.aT args).isEmpty || (vf x).cS=true:=by intro _;first|rfl|(simp[AV.aT,AV.refs,AV.cS,AV.leaf];done)|simp[AV.aT,AV.refs,AV.cS,AV.leaf,go_sem]):AM Tryz.prog n Φ (.call f args dst drop todo st):=let ⟨x,e,g⟩:=bind_some h0;GU AE 1000 (hp x e) hz (hr x) (h x g)
theorem zqL {α ρ:Type}{A:Option α}{G:α->Option ρ}{r:ρ}{vf:α->AV} (h0:A.bind G=some r) (hp:∀ x,A=some x->Ay Tryz.prog f aE (fun y=>y=vf x)) (hz:lh (AV.dk (Heap.get ([]::st.fr::st.low)) (cZ (Heap.get ([]::st.fr::st.low)) 5) args) aE) (h:∀ x,G x=some r->AM Tryz.prog n Φ (run T 1000 todo (st.gF dst drop (vf x) [] (st.fr::st.low)))) (hr:∀ x,(vf x).cS=true:=by intro _;first|rfl|(simp[AV.aT,AV.refs,AV.cS,AV.leaf];done)|simp[AV.aT,AV.refs,AV.cS,AV.leaf,go_sem]):AM Tryz.prog n Φ (.call f args dst drop todo st):=let ⟨x,e,g⟩:=bind_some h0;Is AE 1000 (hp x e) hz (hr x) (h x g)
theorem zqT (rs:List Nat) {α ρ:Type}{A:Option α}{G:α->Option ρ}{r:ρ}{vf:α->AV} (h0:A.bind G=some r) (hp:∀ x,A=some x->Ay Tryz.prog f aE (fun y=>y=vf x)) (hz:lh (AV.dk (only (Heap.get ([]::st.fr::st.low)) (rs.map fun k=>(1,k))) (cZ (only (Heap.get ([]::st.fr::st.low)) (rs.map fun k=>(1,k))) 5) args) aE) (h:∀ x,G x=some r->AM Tryz.prog n Φ (run T 1000 todo (st.gF dst drop (vf x) [] (cM st.fr rs::st.low)))):AM Tryz.prog n Φ (.call f args dst drop todo st):=let ⟨x,e,g⟩:=bind_some h0;Fp AE 1000 rs (hp x e) hz (h x g)
theorem bJ {α ρ:Type}{A:Option α}{G:α->Option ρ}{r:ρ}{vf:α->AV} (h0:A.bind G=some r) (hp:∀ x,A=some x->Ay Tryz.prog f aE (fun y=>y=vf x)) (hz:lh (AV.aQ st.get args) aE) (h:∀ x,G x=some r->DG Tryz.prog T C (kU T 1000 os ((⟨vf x,[]⟩,some (AV.aT args))::acc) (st.by o.dst [] ⟨vf x,[]⟩))) (hr:∀ x,(AV.aT args).isEmpty || (vf x).cS=true:=by intro _;first|rfl|(simp[AV.aT,AV.refs,AV.cS,AV.leaf];done)|simp[AV.aT,AV.refs,AV.cS,AV.leaf,go_sem]):DG Tryz.prog T C (.call f args o os acc st):=let ⟨x,e,g⟩:=bind_some h0;GZ 1000 (hp x e) hz (hr x) (h x g)
theorem aG [Md] {ds:List (De×Rd)}{vr:St} (h:AM Tryz.prog n Φ (run T 1000 todo vr)) (hC:(calm ops befs ds=true/\AK Tryz.prog n Φ todo vr)->C acc st:=by exact fun h=>h) {sk:List (List (Nat×Nat)×Rd)} (h1:oK ds=sk:=by (simp only[oK,List.reverse_cons,List.reverse_nil,Ce,Bz,List.map_cons,List.map_nil,List.append_nil];rfl)) (h2:calm ops befs (oT sk)=true:=by first|decide +kernel|rfl):
    DG Tryz.prog T C (.done acc st):=anB AE h hC h1 h2
end
theorem lj:∀ q_,(ae q_).length=1:=fun q_=>kf.len q_
theorem zlh:∀ q_,(Aa.c (n:=32) ae q_).length=32:=fun q_=>(VK.vec kf 32).len q_
section
variable {n:Nat}{Φ:Exit->St->Prop}{f:FuncId}{args aE:List AV}{v:AV}{dst:Option Tmp}{drop:List Nat}{todo:List It}{st:St}{C:List (De×Rd)->St->Prop}{o:Az}{os:List Az}{acc:List (De×Rd)}
theorem ky [Md] (hp:Ay Tryz.prog f aE (fun y=>y=v)) (hz:lh (AV.aQ (Heap.get ([]::st.fr::st.low)) args) aE) (h:AM Tryz.prog n Φ (run T 1000 todo (st.gF dst drop v [] (st.fr::st.low)))) (hr:(AV.aT args).isEmpty || v.cS=true:=by first|rfl|simp[AV.aT,AV.refs,AV.cS,AV.leaf]):AM Tryz.prog n Φ (.call f args dst drop todo st):=GU AE 1000 hp hz hr h
theorem dc0 [Md] (hp:Ay Tryz.prog f aE (fun y=>y=v)) (hz:lh (AV.aQ st.get args) aE) (h:DG Tryz.prog T C (kU T 1000 os ((⟨v,[]⟩,some (AV.aT args))::acc) (st.by o.dst [] ⟨v,[]⟩))) (hr:(AV.aT args).isEmpty || v.cS=true:=by first|rfl|simp[AV.aT,AV.refs,AV.cS,AV.leaf]):DG Tryz.prog T C (.call f args o os acc st):=GZ 1000 hp hz hr h
end
end Go.Abs

namespace Go.Abs
open Go.Proofs
def DD.s1:SC:=
 SQ [SQ [RG [wV 45 6 3,wK 46 .geq 3 45 0 3 4 [45]],CN 46 .skip (.exit 2)],.block 3 (RG [wV 49 3 82 [3],wJ 50 163 5 0,wD 51 3 50 [50],wV 52 6 3,oQ 53 (.binOp .mul 3 (.const (.int .i64 8)) (.tmp 52) 3) 3 [52],wO 54 .shr 3 51 53 3 3 [51,53],wY 55 3 5 54 5 [54],oQ 56 (.buildSlice 82 1 #[(0,.tmp 55)]) 82 [55],wP 57 49 56 82 82 82 [49,56],wG 3 57 82 [57]]),RG [wV 47 6 3 [6],wK 48 .sub 3 47 1 3 3 [47],
 wG 6 48 3 [48]]]
def DD.s0:SC:=
 SQ [RG [wO 39 .lss 3 38 37 3 0],CN 39 .skip (.exit 0),.block 1 (SQ [RG [wI 40 164 36 38,wD 41 163 40 [40],wA 5 163,wS 163 5 41 [41]],RG [wJ 42 163 5 1,wD 43 3 42 [42],wK 44 .sub 3 43 1 3 3 [43],wG 6 44 3 [44]],.block 2 (.loop DD.s1)]),RG [wK 58 .add 3 38 1 3 3 [38],wV 38 58 3 [58]]]
def DD.c:SC:=
 SQ [RG [wE 1 29 0 [0],oQ 2 (.assign (.const (.slice none 0 0))) 82 [2]],RG [oQ 3 (.assign (.const (.slice none 0 0))) 82],SQ [RG [wF 7 29 1 0,wF 8 27 7 0 [7],wD 9 3 8 [8],oQ 10 (.build 163 #[(0,.tmp 9),(1,.const (.int .i64 1))]) 163 [9],wF 11 29 1 0,wF 12 27 11 1 [11],wD 13 3 12 [12],oQ 14 (.build 163 #[(0,.tmp 13),(1,.const (.int .i64 2))]) 163 [13],wF 15 29 1 1,wD 16 3 15 [15],
 oQ 17 (.build 163 #[(0,.tmp 16),(1,.const (.int .i64 1))]) 163 [16],wF 18 29 1 2,wD 19 3 18 [18],oQ 20 (.build 163 #[(0,.tmp 19),(1,.const (.int .i64 4))]) 163 [19],wF 21 29 1 3,wD 22 3 21 [21],oQ 23 (.build 163 #[(0,.tmp 22),(1,.const (.int .i64 4))]) 163 [22],wF 24 29 1 4,wF 25 27 24 0 [24],wD 26 3 25 [25],oQ 27 (.build 163 #[(0,.tmp 26),(1,.const (.int .i64 1))]) 163 [26],wF 28 29 1 4,
 wF 29 27 28 1 [28],wD 30 3 29 [29],oQ 31 (.build 163 #[(0,.tmp 30),(1,.const (.int .i64 2))]) 163 [30],wF 32 29 1 5,wD 33 9 32 [32],wL 34 33 9 3 [33],oQ 35 (.build 163 #[(0,.tmp 34),(1,.const (.int .i64 1))]) 163 [34],oQ 36 (.buildSlice 164 8 #[(0,.tmp 10),(1,.tmp 14),(2,.tmp 17),(3,.tmp 20),(4,.tmp 23),(5,.tmp 27),(6,.tmp 31),(7,.tmp 35)]) 164 [10,14,17,20,23,27,31,35],wL 37 36 164 3,
 oQ 38 (.move (.const (.int .i64 0))) 3],.block 0 (.loop DD.s0)],RG [wV 59 3 82 [3],wF 60 29 1 5 [1],wD 61 9 60 [60],wP 62 59 61 82 9 82 [59,61],wG 2 62 82 [62]],.ret]
def cD.b1 (k:Nat) (x5:(Aa 2 Int)):(Int×(List Int))->Option (AN (Int×(List Int)) ((List Int)) ((List Int))):=fun s=>match s with
 |(i7,l8)=>
   bif decide ((0:Int)<=i7) then
    (x5.at? 0).bind fun bN=>
    (lX (ab (8*i7))).bind fun _=>
    (eO 1 l8 (IntKind.u8.wrap (Int.fdiv bN (2 ^ (min (Int.toNat (ab (8*i7))) 64))))).bind fun ib=>
    some (.next (ab (i7 - 1),ib))
   else
    some (.brk l8)
def cD.b0 (k:Nat) (r0:Ab):(Int×(List Int))->Option (AN (Int×(List Int)) ((List Int)) ((List Int))):=fun s=>match s with
 |(i1,l2)=>
   bif decide (i1<(8:Int)) then
    (at? [(⟨[r0.At.Ac,1],rfl⟩:(Aa 2 Int)),(⟨[r0.At.No,2],rfl⟩:(Aa 2 Int)),(⟨[r0.Kind,1],rfl⟩:(Aa 2 Int)),(⟨[r0.Day,4],rfl⟩:(Aa 2 Int)),(⟨[r0.Ap,4],rfl⟩:(Aa 2 Int)),(⟨[r0.Of.Ac,1],rfl⟩:(Aa 2 Int)),(⟨[r0.Of.No,2],rfl⟩:(Aa 2 Int)),(⟨[(r0.Text.size:Int),1],rfl⟩:(Aa 2 Int))] i1).bind fun x5=>
    (x5.at? 1).bind fun x6=>
    (ai (cD.b1 k x5) k (ab (x6 - 1),l2)).bind fun lQ=>match lQ with
    |.next _=>none
    |.ret v_=>some (.ret v_)
    |.brk l9=>
     some (.next (ab (i1+1),l9))
   else
    some (.brk l2)
def cD.h1 (r0:Ab) (i1:Int) (x5:(Aa 2 Int)):(Int×(List Int))->St:=fun s=>match s with
 |(i7,l8)=>⟨[(1,.ptr 0 0 0),(3,.loc 0 1 1 0 l8.length l8.length),(5,.ptr 0 2 0),(6,.int .i64 i7),(36,.loc 0 3 2 0 8 8),(37,.int .i64 8),(38,.int .i64 i1)],[(0,.box ([.int .i64 r0.At.Ac,.int .i64 r0.At.No,.int .i64 r0.Kind,.int .i64 r0.Day,.int .i64 r0.Ap,.int .i64 r0.Of.Ac,.int .i64 r0.Of.No,.str r0.Text])),(1,.arr 5 1 (List.map ae l8)),(2,.box (Aa.c (n:=2) eI x5)),(3,.arr 163 2 (List.map (Aa.c (n:=2) eI) [(⟨[r0.At.Ac,1],rfl⟩:(Aa 2 Int)),(⟨[r0.At.No,2],rfl⟩:(Aa 2 Int)),(⟨[r0.Kind,1],rfl⟩:(Aa 2 Int)),(⟨[r0.Day,4],rfl⟩:(Aa 2 Int)),(⟨[r0.Ap,4],rfl⟩:(Aa 2 Int)),(⟨[r0.Of.Ac,1],rfl⟩:(Aa 2 Int)),(⟨[r0.Of.No,2],rfl⟩:(Aa 2 Int)),(⟨[(r0.Text.size:Int),1],rfl⟩:(Aa 2 Int))]))],[],4,Tryz.f68.ntmps⟩
def cD.x1 (r0:Ab) (i1:Int):(List Int)->St:=fun l9=>⟨[(1,.ptr 0 0 0),(3,.loc 0 1 1 0 l9.length l9.length),(36,.loc 0 2 2 0 8 8),(37,.int .i64 8),(38,.int .i64 i1)],[(0,.box ([.int .i64 r0.At.Ac,.int .i64 r0.At.No,.int .i64 r0.Kind,.int .i64 r0.Day,.int .i64 r0.Ap,.int .i64 r0.Of.Ac,.int .i64 r0.Of.No,.str r0.Text])),(1,.arr 5 1 (List.map ae l9)),(2,.arr 163 2 (List.map (Aa.c (n:=2) eI) [(⟨[r0.At.Ac,1],rfl⟩:(Aa 2 Int)),(⟨[r0.At.No,2],rfl⟩:(Aa 2 Int)),(⟨[r0.Kind,1],rfl⟩:(Aa 2 Int)),(⟨[r0.Day,4],rfl⟩:(Aa 2 Int)),(⟨[r0.Ap,4],rfl⟩:(Aa 2 Int)),(⟨[r0.Of.Ac,1],rfl⟩:(Aa 2 Int)),(⟨[r0.Of.No,2],rfl⟩:(Aa 2 Int)),(⟨[(r0.Text.size:Int),1],rfl⟩:(Aa 2 Int))]))],[],3,Tryz.f68.ntmps⟩
def cD.h0 (r0:Ab):(Int×(List Int))->St:=fun s=>match s with
 |(i1,l2)=>⟨[(1,.ptr 0 0 0),(3,.loc 0 1 1 0 l2.length l2.length),(36,.loc 0 2 2 0 8 8),(37,.int .i64 8),(38,.int .i64 i1)],[(0,.box ([.int .i64 r0.At.Ac,.int .i64 r0.At.No,.int .i64 r0.Kind,.int .i64 r0.Day,.int .i64 r0.Ap,.int .i64 r0.Of.Ac,.int .i64 r0.Of.No,.str r0.Text])),(1,.arr 5 1 (List.map ae l2)),(2,.arr 163 2 (List.map (Aa.c (n:=2) eI) [(⟨[r0.At.Ac,1],rfl⟩:(Aa 2 Int)),(⟨[r0.At.No,2],rfl⟩:(Aa 2 Int)),(⟨[r0.Kind,1],rfl⟩:(Aa 2 Int)),(⟨[r0.Day,4],rfl⟩:(Aa 2 Int)),(⟨[r0.Ap,4],rfl⟩:(Aa 2 Int)),(⟨[r0.Of.Ac,1],rfl⟩:(Aa 2 Int)),(⟨[r0.Of.No,2],rfl⟩:(Aa 2 Int)),(⟨[(r0.Text.size:Int),1],rfl⟩:(Aa 2 Int))]))],[],3,Tryz.f68.ntmps⟩
def cD.x0 (r0:Ab):(List Int)->St:=fun l3=>⟨[(1,.ptr 0 0 0),(3,.loc 0 1 1 0 l3.length l3.length)],[(0,.box ([.int .i64 r0.At.Ac,.int .i64 r0.At.No,.int .i64 r0.Kind,.int .i64 r0.Day,.int .i64 r0.Ap,.int .i64 r0.Of.Ac,.int .i64 r0.Of.No,.str r0.Text])),(1,.arr 5 1 (List.map ae l3))],[],2,Tryz.f68.ntmps⟩
def cD (k:Nat) (r0:Ab):Option ((List Int)):=
 (ai (cD.b0 k r0) k (0,[])).bind fun r15=>match r15 with
 |.next _=>none
 |.ret v_=>some v_
 |.brk l3=>
  (cY 1 l3 (iG r0.Text)).bind fun tf=>
  some tf
theorem ago (k:Nat) (r0:Ab) (r:(List Int)) (h0:cD k r0=some r):Ay Tryz.prog 68 [.agg (Ab.c r0)] (fun y=>y=.sl 1 (List.map ae r)):=by
 refine PB Tryz.f68 DD.c [.tmp 2] ?_
 simp only[cD]at h0
 try simp only[DD.c,(@id (Aa.c (n:=2) eI (Aa.rep 2 (0:Int))=[.int .i64 0,.int .i64 0]) rfl),(@id ([.int .i64 r0.At.Ac,.int .i64 1]=Aa.c (n:=2) eI (⟨[r0.At.Ac,1],rfl⟩:(Aa 2 Int))) rfl),(@id ([.int .i64 r0.At.No,.int .i64 2]=Aa.c (n:=2) eI (⟨[r0.At.No,2],rfl⟩:(Aa 2 Int))) rfl),(@id ([.int .i64 r0.Kind,.int .i64 1]=Aa.c (n:=2) eI (⟨[r0.Kind,1],rfl⟩:(Aa 2 Int))) rfl),(@id ([.int .i64 r0.Day,.int .i64 4]=Aa.c (n:=2) eI (⟨[r0.Day,4],rfl⟩:(Aa 2 Int))) rfl),(@id ([.int .i64 r0.Ap,.int .i64 4]=Aa.c (n:=2) eI (⟨[r0.Ap,4],rfl⟩:(Aa 2 Int))) rfl),(@id ([.int .i64 r0.Of.Ac,.int .i64 1]=Aa.c (n:=2) eI (⟨[r0.Of.Ac,1],rfl⟩:(Aa 2 Int))) rfl),(@id ([.int .i64 r0.Of.No,.int .i64 2]=Aa.c (n:=2) eI (⟨[r0.Of.No,2],rfl⟩:(Aa 2 Int))) rfl),(@id ([.int .i64 (r0.Text.size:Int),.int .i64 1]=Aa.c (n:=2) eI (⟨[(r0.Text.size:Int),1],rfl⟩:(Aa 2 Int))) rfl),(@id (((8:Nat):Int)=8) rfl),go_sem]
 obtain⟨r15,ast,h0⟩:=bs h0
 refine A5 ast (cD.h0 r0) (cD.x0 r0) ?_ ?_ ?_
 refine Al.go [1,3,36,37,38] [0,32,512] rfl ?_
 try simp only[cD.h0,go_sem]
 rintro⟨i1,l2⟩ bO Bd Ba h1 az ax bg
 refine rS ?_
 simp only[cD.b0]at h1
 try simp only[DD.s0,cD.h0,go_sem]
 refine AP h1 ?_ ?_<;>intro c4 h1<;>have F:=c4<;>try simp only[F,go_sem]
 obtain⟨x5,cn,h1⟩:=bs h1
 have ahx:=aI cn
 simp only[F,go_sem]at ahx
 have ahZ:=aH (Aa.c (n:=2) eI) cn
 try simp only[F,go_sem]at ahZ
 have F:=an ahx (an ahZ F)
 try simp only[F,go_sem]
 obtain⟨x6,dB,h1⟩:=bs h1
 have nN:=Ao.bh fg (Ao.self aly x5) dB
 have mg:=nN.2
 try simp only[AA,AB,go_sem]at mg
 have F:=an (aq dB) (an mg F)
 try simp only[F,go_sem]
 obtain⟨lQ,rQ,h1⟩:=bs h1
 refine A5 rQ (cD.h1 r0 i1 x5) (cD.x1 r0 i1) ?_ ?_ ?_
 refine Al.go [1,3,5,6,36,37,38] [0,1,51,2] rfl ?_
 try simp only[cD.h1,F,go_sem]
 rintro⟨i7,l8⟩ x_2 Fq Ft h2 oe pq zS
 refine rS ?_
 simp only[cD.b1]at h2
 try simp only[DD.s1,cD.h1,F,go_sem]
 refine AF F h2 ?_ ?_<;>intro F h2<;>try simp only[F,go_sem]
 obtain⟨bN,gK,h2⟩:=bs h2
 have acW:=Ao.bh fg (Ao.self aly x5) gK
 have aaP:=acW.2
 try simp only[AA,AB,go_sem]at aaP
 have F:=an (aq gK) (an aaP F)
 try simp only[F,go_sem]
 obtain⟨u12,asD,h2⟩:=bs h2
 have F:=an (aaB asD) F
 try simp only[F,go_sem]
 obtain⟨ib,aa4,h2⟩:=bs h2
 have tT:=pu ae aa4
 try simp only[F,go_sem]at tT
 have F:=an tT F
 try simp only[F,go_sem]
 refine Ax (oe _ _ (oi h2).symm (Al.go [1,3,5,6,36,37,38] [0,1,2,3] rfl ?_))
 try simp only[cD.h1,F,go_sem]
 refine Ax (pq _ _ (oi h2).symm (Al.go [1,3,36,37,38] [0,1,3] rfl ?_))
 try simp only[cD.x1,F,go_sem]
 rintro l9 aA
 subst aA
 simp only at h1
 refine rS ?_
 try simp only[cD.x1,F,go_sem]
 refine Ax (az _ _ (oi h1).symm (Al.go [1,3,36,37,38] [0,1,2] rfl ?_))
 try simp only[cD.h0,F,go_sem]
 refine Ax (ax _ _ (oi h1).symm (Al.go [1,3] [0,1] rfl ?_))
 try simp only[cD.x0,F,go_sem]
 rintro l3 aA
 subst aA
 simp only at h0
 refine rS ?_
 try simp only[cD.x0,go_sem]
 obtain⟨tf,yk,h0⟩:=bs h0
 have aaZ:=fw ae yk
 try simp only[afn,kX,(by decide:¬ ([9]:List TypeId)=[82]),go_sem]at aaZ
 have F:=aaZ
 try simp only[afn,kX,(by decide:¬ ([9]:List TypeId)=[82]),F,go_sem]
 obtain rfl:=oi h0
 refine Ag rfl ?_
 try simp only[F,go_sem]
def HS.c:SC:=
 SQ [RG [wA 6 105],RG [wA 7 105],RG [wV 8 0 5 [0],wV 9 1 3,oQ 10 (.binOp .shr 3 (.tmp 9) (.const (.int .u64 16)) 172) 3 [9],wY 11 3 5 10 5 [10],wV 12 1 3,oQ 13 (.binOp .shr 3 (.tmp 12) (.const (.int .u64 8)) 172) 3 [12],wY 14 3 5 13 5 [13],wV 15 1 3 [1],wY 16 3 5 15 5 [15],wJ 17 105 7 0,wS 5 17 8 [8,17],wJ 18 105 7 1,wS 5 18 11 [11,18],wJ 19 105 7 2,wS 5 19 14 [14,19],wJ 20 105 7 3,wS 5 20 16 [16,
 20],wJ 21 105 7 31,⟨none,.store 5 (.tmp 21) (.const (.int .u8 165)),0,none,[21]⟩],RG [wV 22 2 3,oQ 23 (.binOp .shr 3 (.tmp 22) (.const (.int .u64 8)) 172) 3 [22],wY 24 3 5 23 5 [23],wV 25 2 3 [2],wY 26 3 5 25 5 [25],wJ 27 105 7 4,wS 5 27 24 [24,27],wJ 28 105 7 5,wS 5 28 26 [26,28]],RG [wD 29 105 7 [7],wS 105 6 29 [29]],.ret]
def yw (k:Nat) (jC:Int) (dP:Int) (rj:Int):Option ((Aa 32 Int)):=
 ((Aa.rep 32 (0:Int)).at? 0).bind fun x1=>
 (((Aa.rep 32 (0:Int)).set 0 jC).at? 1).bind fun x3=>
 ((((Aa.rep 32 (0:Int)).set 0 jC).set 1 (IntKind.u8.wrap (Int.fdiv dP (2 ^ 16)))).at? 2).bind fun x5=>
 (((((Aa.rep 32 (0:Int)).set 0 jC).set 1 (IntKind.u8.wrap (Int.fdiv dP (2 ^ 16)))).set 2 (IntKind.u8.wrap (Int.fdiv dP (2 ^ 8)))).at? 3).bind fun x7=>
 ((((((Aa.rep 32 (0:Int)).set 0 jC).set 1 (IntKind.u8.wrap (Int.fdiv dP (2 ^ 16)))).set 2 (IntKind.u8.wrap (Int.fdiv dP (2 ^ 8)))).set 3 (IntKind.u8.wrap dP)).at? 31).bind fun x9=>
 (((((((Aa.rep 32 (0:Int)).set 0 jC).set 1 (IntKind.u8.wrap (Int.fdiv dP (2 ^ 16)))).set 2 (IntKind.u8.wrap (Int.fdiv dP (2 ^ 8)))).set 3 (IntKind.u8.wrap dP)).set 31 165).at? 4).bind fun bN=>
 ((((((((Aa.rep 32 (0:Int)).set 0 jC).set 1 (IntKind.u8.wrap (Int.fdiv dP (2 ^ 16)))).set 2 (IntKind.u8.wrap (Int.fdiv dP (2 ^ 8)))).set 3 (IntKind.u8.wrap dP)).set 31 165).set 4 (IntKind.u8.wrap (Int.fdiv rj (2 ^ 8)))).at? 5).bind fun bx=>
 some ((((((((Aa.rep 32 (0:Int)).set 0 jC).set 1 (IntKind.u8.wrap (Int.fdiv dP (2 ^ 16)))).set 2 (IntKind.u8.wrap (Int.fdiv dP (2 ^ 8)))).set 3 (IntKind.u8.wrap dP)).set 31 165).set 4 (IntKind.u8.wrap (Int.fdiv rj (2 ^ 8)))).set 5 (IntKind.u8.wrap rj))
theorem agn (k:Nat) (jC:Int) (dP:Int) (rj:Int) (r:(Aa 32 Int)) (h0:yw k jC dP rj=some r):Ay Tryz.prog 77 [.int .u8 jC,.int .i64 dP,.int .i64 rj] (fun y=>y=.agg ((Aa.c (n:=32) ae) r)):=by
 refine PB Tryz.f77 HS.c [.cell 6 105] ?_
 simp only[yw]at h0
 try simp only[HS.c,(@id (min (Int.toNat 16) 64=16) rfl),(@id (min (Int.toNat 8) 64=8) rfl),go_sem]
 have hz:=bs h0;clear h0;cases hz;rename_i x1 hz;cases hz;rename_i jx h0
 have xY:=Ao.bh gO (Ao.self gQ (Aa.rep 32 (0:Int))) jx
 have tO:=xY.2
 try simp only[AA,AB,go_sem]at tO
 have q2:=xY.1.ow jC
 try simp only[AA,AB,go_sem]at q2
 have F:=an (aq jx) tO
 try simp only[q2,F,go_sem]
 have hz:=bs h0;clear h0;cases hz;rename_i x3 hz;cases hz;rename_i cv h0
 have rG:=Ao.bh gO (Ao.self gQ ((Aa.rep 32 (0:Int)).set 0 jC)) cv
 have tR:=rG.2
 try simp only[AA,AB,go_sem]at tR
 have q4:=rG.1.ow (IntKind.u8.wrap (Int.fdiv dP (2 ^ 16)))
 try simp only[AA,AB,go_sem]at q4
 have F:=an (aq cv) (an tR F)
 try simp only[q4,F,go_sem]
 have hz:=bs h0;clear h0;cases hz;rename_i x5 hz;cases hz;rename_i cn h0
 have tL:=Ao.bh gO (Ao.self gQ (((Aa.rep 32 (0:Int)).set 0 jC).set 1 (IntKind.u8.wrap (Int.fdiv dP (2 ^ 16))))) cn
 have oN:=tL.2
 try simp only[AA,AB,go_sem]at oN
 have q6:=tL.1.ow (IntKind.u8.wrap (Int.fdiv dP (2 ^ 8)))
 try simp only[AA,AB,go_sem]at q6
 have F:=an (aq cn) (an oN F)
 try simp only[q6,F,go_sem]
 have hz:=bs h0;clear h0;cases hz;rename_i x7 hz;cases hz;rename_i dq h0
 have ma:=Ao.bh gO (Ao.self gQ ((((Aa.rep 32 (0:Int)).set 0 jC).set 1 (IntKind.u8.wrap (Int.fdiv dP (2 ^ 16)))).set 2 (IntKind.u8.wrap (Int.fdiv dP (2 ^ 8))))) dq
 have mh:=ma.2
 try simp only[AA,AB,go_sem]at mh
 have q8:=ma.1.ow (IntKind.u8.wrap dP)
 try simp only[AA,AB,go_sem]at q8
 have F:=an (aq dq) (an mh F)
 try simp only[q8,F,go_sem]
 have hz:=bs h0;clear h0;cases hz;rename_i x9 hz;cases hz;rename_i gM h0
 have mY:=Ao.bh gO (Ao.self gQ (((((Aa.rep 32 (0:Int)).set 0 jC).set 1 (IntKind.u8.wrap (Int.fdiv dP (2 ^ 16)))).set 2 (IntKind.u8.wrap (Int.fdiv dP (2 ^ 8)))).set 3 (IntKind.u8.wrap dP))) gM
 have tS:=mY.2
 try simp only[AA,AB,go_sem]at tS
 have q10:=mY.1.ow 165
 try simp only[AA,AB,go_sem]at q10
 have F:=an (aq gM) (an tS F)
 try simp only[q10,(@id (min (Int.toNat 8) 64=8) rfl),F,go_sem]
 have hz:=bs h0;clear h0;cases hz;rename_i bN hz;cases hz;rename_i gK h0
 have acW:=Ao.bh gO (Ao.self gQ ((((((Aa.rep 32 (0:Int)).set 0 jC).set 1 (IntKind.u8.wrap (Int.fdiv dP (2 ^ 16)))).set 2 (IntKind.u8.wrap (Int.fdiv dP (2 ^ 8)))).set 3 (IntKind.u8.wrap dP)).set 31 165)) gK
 have aaP:=acW.2
 try simp only[AA,AB,go_sem]at aaP
 have q12:=acW.1.ow (IntKind.u8.wrap (Int.fdiv rj (2 ^ 8)))
 try simp only[AA,AB,go_sem]at q12
 have F:=an (aq gK) (an aaP F)
 try simp only[q12,F,go_sem]
 have hz:=bs h0;clear h0;cases hz;rename_i bx hz;cases hz;rename_i iv h0
 have pY:=Ao.bh gO (Ao.self gQ (((((((Aa.rep 32 (0:Int)).set 0 jC).set 1 (IntKind.u8.wrap (Int.fdiv dP (2 ^ 16)))).set 2 (IntKind.u8.wrap (Int.fdiv dP (2 ^ 8)))).set 3 (IntKind.u8.wrap dP)).set 31 165).set 4 (IntKind.u8.wrap (Int.fdiv rj (2 ^ 8))))) iv
 have tP:=pY.2
 try simp only[AA,AB,go_sem]at tP
 have q14:=pY.1.ow (IntKind.u8.wrap rj)
 try simp only[AA,AB,go_sem]at q14
 have F:=an (aq iv) (an tP F)
 try simp only[q14,F,go_sem]
 obtain rfl:=oi h0
 refine Ag rfl ?_
 try simp only[F,go_sem]
def EJ.s0:SC:=
 SQ [RG [wO 21 .lss 3 20 19 3 4],CN 21 .skip (.exit 0),.block 1 (SQ [RG [wV 22 20 3,wG 10 22 3 [22]],RG [wV 23 2 3,wV 24 1 3,wC 25 77 #[.const (.int .u8 112),.tmp 23,.tmp 24] #[5,3,3] 105 [23,24],wA 11 105,wS 105 11 25 [25]],RG [wV 26 10 3,wY 27 3 5 26 5 [26],wV 28 9 3,wY 29 3 5 28 5 [28],wJ 30 105 11 6,wS 5 30 27 [27,30],wJ 31 105 11 7,wS 5 31 29 [29,31]],
 .aS [oQ 32 (.slice 105 (.tmp 11) (some (.const (.int .i64 8))) (some (.const (.int .i64 31))) none) 82,wV 33 8 82,wV 34 10 3,wK 35 .mul 3 34 23 3 3,wV 36 8 82,wL 37 36 82 3,wV 38 10 3,wK 39 .add 3 38 1 3 3,wK 40 .mul 3 39 23 3 3,oQ 41 (.call ⟨.builtin .min,#[.tmp 37,.tmp 40],#[3,3]⟩) 3,oQ 42 (.slice 82 (.tmp 33) (some (.tmp 35)) (some (.tmp 41)) none) 82,oQ 43 (.call ⟨.builtin .copy,#[.tmp 32,
 .tmp 42],#[82,82]⟩) 3] [[],[],[],[2],[],[4],[],[6],[6,7],[4,5,6,7,8],[1,2,3,4,5,6,7,8,9],[0,1,2,3,4,5,6,7,8,9,10]] [10,32,33,34,35,36,37,38,39,40,41,42,43],RG [wV 44 7 97 [7],wD 45 105 11 [11],oQ 46 (.buildSlice 97 1 #[(0,.tmp 45)]) 97 [45],wP 47 44 46 97 97 97 [44,46],wG 7 47 97 [47]]]),RG [wK 48 .add 3 20 1 3 3 [20],wV 20 48 3 [48]]]
def EJ.c:SC:=
 SQ [RG [wE 3 29 0 [0],oQ 6 (.assign (.const (.slice none 0 0))) 97 [6]],RG [oQ 7 (.assign (.const (.slice none 0 0))) 97],RG [wD 12 29 3 [3],wU 13 68 12 29 82 [12],wG 8 13 82 [13]],RG [wV 14 8 82,wL 15 14 82 3 [14],wK 16 .add 3 15 23 3 3 [15],wK 17 .sub 3 16 1 3 3 [16],wK 18 .quo 3 17 23 3 3 [17],wG 9 18 3 [18]],SQ [RG [wV 19 9 3,oQ 20 (.move (.const (.int .i64 0))) 3],.block 0 (.loop EJ.s0)],
 RG [wV 49 7 97 [7],wG 6 49 97 [49]],.ret]
def gu.b0 (k:Nat) (kS:Int) (fA:Int) (x1:(List Int)):(Int×(List (Aa 32 Int)))->Option (AN (Int×(List (Aa 32 Int))) ((List (Aa 32 Int))) ((List (Aa 32 Int)))):=fun s=>match s with
 |(i2,l3)=>
   bif decide (i2<ab (Int.tdiv (ab ((ab ((x1.length:Int)+23)) - 1)) 23)) then
    (yw k 112 fA kS).bind fun x6=>
    (x6.at? 6).bind fun x7=>
    ((x6.set 6 (IntKind.u8.wrap i2)).at? 7).bind fun x9=>
    (ck x1 (ab (i2*23)) (min (x1.length:Int) (ab ((ab (i2+1))*23)))).bind fun fN=>
    (eO 32 l3 (((x6.set 6 (IntKind.u8.wrap i2)).set 7 (IntKind.u8.wrap (ab (Int.tdiv (ab ((ab ((x1.length:Int)+23)) - 1)) 23)))).put 8 23 fN)).bind fun ib=>
    some (.next (ab (i2+1),ib))
   else
    some (.brk l3)
def gu.h0 (kS:Int) (fA:Int) (x1:(List Int)):(Int×(List (Aa 32 Int)))->St:=fun s=>match s with
 |(i2,l3)=>⟨[(1,.int .i64 kS),(2,.int .i64 fA),(7,.loc 0 0 32 0 l3.length l3.length),(8,.sl 1 (List.map ae x1)),(9,.int .i64 (ab (Int.tdiv (ab ((ab ((x1.length:Int)+23)) - 1)) 23))),(19,.int .i64 (ab (Int.tdiv (ab ((ab ((x1.length:Int)+23)) - 1)) 23))),(20,.int .i64 i2)],[(0,.arr 105 32 (List.map (Aa.c (n:=32) ae) l3))],[],1,Tryz.f39.ntmps⟩
def gu.x0:(List (Aa 32 Int))->St:=fun l4=>⟨[(7,.loc 0 0 32 0 l4.length l4.length)],[(0,.arr 105 32 (List.map (Aa.c (n:=32) ae) l4))],[],1,Tryz.f39.ntmps⟩
def gu (k:Nat) (r0:Ab) (kS:Int) (fA:Int):Option ((List (Aa 32 Int))):=
 (cD k r0).bind fun x1=>
 (ai (gu.b0 k kS fA x1) k (0,[])).bind fun lQ=>match lQ with
 |.next _=>none
 |.ret v_=>some v_
 |.brk l4=>
  some l4
theorem ado (k:Nat) (r0:Ab) (kS:Int) (fA:Int) (r:(List (Aa 32 Int))) (h0:gu k r0 kS fA=some r):Ay Tryz.prog 39 [.agg (Ab.c r0),.int .i64 kS,.int .i64 fA] (fun y=>y=.sl 32 (List.map (Aa.c (n:=32) ae) r)):=by
 refine PB Tryz.f39 EJ.c [.tmp 6] ?_
 simp only[gu]at h0
 try simp only[EJ.c,go_sem]
 refine aj h0 (ago k _) ?_ (fun x1 h0=>?_)<;>try simp only[go_sem]
 obtain⟨lQ,rQ,h0⟩:=bs h0
 refine A5 rQ (gu.h0 kS fA x1) (gu.x0) ?_ ?_ ?_
 refine Al.go [1,2,7,8,9,19,20] [32] rfl ?_
 try simp only[gu.h0,go_sem]
 rintro⟨i2,l3⟩ bO Bd Ba h1 az ax bg
 refine rS ?_
 simp only[gu.b0]at h1
 try simp only[EJ.s0,gu.h0,go_sem]
 refine AP h1 ?_ ?_<;>intro c5 h1<;>have F:=c5<;>try simp only[F,go_sem]
 refine aj h1 (agn k _ _ _) ?_ (fun x6 h1=>?_)<;>try simp only[F,go_sem]
 obtain⟨x7,dq,h1⟩:=bs h1
 have ma:=Ao.bh gO (Ao.self gQ x6) dq
 have mh:=ma.2
 try simp only[AA,AB,go_sem]at mh
 have q8:=ma.1.ow (IntKind.u8.wrap i2)
 try simp only[AA,AB,go_sem]at q8
 have F:=an (aq dq) (an mh F)
 try simp only[q8,F,go_sem]
 obtain⟨x9,gM,h1⟩:=bs h1
 have mY:=Ao.bh gO (Ao.self gQ (x6.set 6 (IntKind.u8.wrap i2))) gM
 have tS:=mY.2
 try simp only[AA,AB,go_sem]at tS
 have q10:=mY.1.ow (IntKind.u8.wrap (ab (Int.tdiv (ab ((ab ((x1.length:Int)+23)) - 1)) 23)))
 try simp only[AA,AB,go_sem]at q10
 have F:=an (aq gM) (an tS F)
 try simp only[q10,F,go_sem]
 refine AL AE aO 1000 ?_
 have F:=an (@id (Int.toNat 8=8) rfl) (an (@id (Int.toNat 31=31) rfl) (an (@id (bounds 32 (some (.int .i64 8)) (some (.int .i64 31))=some (8,31)) rfl) (an (@id (31 - 8=23) rfl) F)))
 try simp only[F,go_sem]
 obtain⟨fN,rO,h1⟩:=bs h1
 have abQ:=rA ae rO
 try simp only[go_sem]at abQ
 have q12:=aqP (n:=32) ((x6.set 6 (IntKind.u8.wrap i2)).set 7 (IntKind.u8.wrap (ab (Int.tdiv (ab ((ab ((x1.length:Int)+23)) - 1)) 23)))) 8 23 fN (by decide)
 try simp only[go_sem]at q12
 have F:=an abQ F
 try simp only[vt rO,q12,F,go_sem]
 refine aG ?_
 try simp only[F,go_sem]
 obtain⟨ib,aa4,h1⟩:=bs h1
 have tT:=pu (Aa.c (n:=32) ae) aa4
 try simp only[F,go_sem]at tT
 have F:=an tT F
 try simp only[F,go_sem]
 refine Ax (az _ _ (oi h1).symm (Al.go [1,2,7,8,9,19,20] [0] rfl ?_))
 try simp only[gu.h0,F,go_sem]
 refine Ax (ax _ _ (oi h1).symm (Al.go [7] [0] rfl ?_))
 try simp only[gu.x0,F,go_sem]
 rintro l4 aA
 subst aA
 simp only at h0
 refine rS ?_
 try simp only[gu.x0,go_sem]
 obtain rfl:=oi h0
 refine Ag rfl ?_
 try simp only[go_sem]
def HM.c:SC:=
 SQ [RG [wB 6 false 4 [6]],RG [wV 7 1 3 [1],wV 8 0 3,wO 9 .leq 3 7 8 3 4 [7,8],wV 10 9 4 [9],gd 10 true (wV 11 0 3 [0]),gd 10 true (wV 12 2 3 [2]),gd 10 true (wO 13 .leq 3 11 12 3 4 [11,12]),wZ 14 10 13 4 [10,13],wG 6 14 4 [14]],.ret]
def ja (k:Nat) (n0:Int) (lo1:Int) (iK:Int):Option (Bool):=
 bif decide (lo1<=n0) then
  some (decide (n0<=iK))
 else
  some false
theorem nd (k:Nat) (n0:Int) (lo1:Int) (iK:Int) (r:Bool) (h0:ja k n0 lo1 iK=some r):Ay Tryz.prog 69 [.int .i64 n0,.int .i64 lo1,.int .i64 iK] (fun y=>y=.bool r):=by
 refine PB Tryz.f69 HM.c [.tmp 6] ?_
 simp only[ja]at h0
 try simp only[HM.c,go_sem]
 refine AP h0 ?_ ?_<;>intro c1 h0<;>have F:=c1<;>try simp only[F,go_sem]
 obtain rfl:=oi h0
 refine Ag rfl ?_
 try simp only[F,go_sem]
 obtain rfl:=oi h0
 refine Ag rfl ?_
 try simp only[F,go_sem]
def Ha.c:SC:=
 SQ [RG [wE 1 27 0 [0],wB 2 false 4 [2]],RG [wF 3 27 1 0,wD 4 3 3 [3],wC 5 69 #[.tmp 4,.const (.int .i64 0),.const (.int .i64 5)] #[3,3,3] 4 [4],wV 6 5 4 [5],gd 6 true (wF 7 27 1 1 [1]),gd 6 true (wD 8 3 7 [7]),gd 6 true (wC 9 69 #[.tmp 8,.const (.int .i64 0),.const (.int .i64 9999)] #[3,3,3] 4 [8]),wZ 10 6 9 4 [6,9],wG 2 10 4 [10]],.ret]
def vW (k:Nat) (x0:Entry):Option (Bool):=
 (ja k x0.Ac 0 5).bind fun x1=>
 bif x1 then
  (ja k x0.No 0 9999).bind fun x3=>
  some x3
 else
  some false
theorem agt (k:Nat) (x0:Entry) (r:Bool) (h0:vW k x0=some r):Ay Tryz.prog 112 [.agg (Entry.c x0)] (fun y=>y=.bool r):=by
 refine PB Tryz.f112 Ha.c [.tmp 2] ?_
 simp only[vW]at h0
 try simp only[Ha.c,go_sem]
 refine aj h0 (nd k _ _ _) ?_ (fun x1 h0=>?_)<;>try simp only[go_sem]
 refine AP h0 ?_ ?_<;>intro c2 h0<;>have F:=c2<;>try simp only[F,go_sem]
 refine aj h0 (nd k _ _ _) ?_ (fun x3 h0=>?_)<;>try simp only[F,go_sem]
 obtain rfl:=oi h0
 refine Ag rfl ?_
 try simp only[F,go_sem]
 obtain rfl:=oi h0
 refine Ag rfl ?_
 try simp only[F,go_sem]
def EA.s0:SC:=
 SQ [RG [wO 10 .lss 3 9 8 3 4],CN 10 .skip (.exit 0),.block 1 (SQ [RG [wV 11 9 3,wG 3 11 3 [11]],RG [wV 12 0 9,wV 13 3 3,oQ 14 (.index 9 (.tmp 12) (.tmp 13)) 5 [12,13],oQ 15 (.binOp .lss 5 (.tmp 14) (.const (.int .u8 32)) 5) 4 [14],wV 16 15 4 [15],gd 16 false (wV 17 0 9),gd 16 false (wV 18 3 3 [3]),gd 16 false (oQ 19 (.index 9 (.tmp 17) (.tmp 18)) 5 [17,18]),
 gd 16 false (oQ 20 (.binOp .gtr 5 (.tmp 19) (.const (.int .u8 126)) 5) 4 [19]),wT 21 16 20 4 [16,20]],CN 21 (SQ [RG [wB 2 false 4],.ret]) .skip]),RG [wK 22 .add 3 9 1 3 3 [9],wV 9 22 3 [22]]]
def EA.c:SC:=
 SQ [RG [wB 2 false 4 [2]],SQ [RG [wV 4 0 9,wL 5 4 9 3 [4],wK 6 .gtr 3 5 200 3 4 [5]],CN 6 (SQ [RG [wB 2 false 4],.ret]) .skip],SQ [RG [wV 7 0 9,wL 8 7 9 3 [7],oQ 9 (.move (.const (.int .i64 0))) 3],.block 0 (.loop EA.s0)],RG [wB 2 true 4],.ret]
def iy.b0 (k:Nat) (s0:ByteArray):Int->Option (AN (Int) (Unit) (Bool)):=fun i2=>
 bif decide (i2<(s0.size:Int)) then
  (tD s0 i2).bind fun i4=>
  bif (!decide (i4<(32:Int))) then
   bif decide ((126:Int)<i4) then
    some (.ret false)
   else
    some (.next (ab (i2+1)))
  else
   some (.ret false)
 else
  some (.brk ())
def iy.h0 (s0:ByteArray):Int->St:=fun i2=>⟨[(0,.str s0),(8,.int .i64 (s0.size:Int)),(9,.int .i64 i2)],[],[],1,Tryz.f113.ntmps⟩
def iy.x0:Unit->St:=fun _=>⟨[],[],[],1,Tryz.f113.ntmps⟩
def iy (k:Nat) (s0:ByteArray):Option (Bool):=
 bif decide ((200:Int)<(s0.size:Int)) then
  some false
 else
  (ai (iy.b0 k s0) k 0).bind fun r7=>match r7 with
  |.next _=>none
  |.ret v_=>some v_
  |.brk _=>
   some true
theorem amL (k:Nat) (s0:ByteArray) (r:Bool) (h0:iy k s0=some r):Ay Tryz.prog 113 [.str s0] (fun y=>y=.bool r):=by
 refine PB Tryz.f113 EA.c [.tmp 2] ?_
 simp only[iy]at h0
 try simp only[EA.c,go_sem]
 refine AP h0 ?_ ?_<;>intro c1 h0<;>have F:=c1<;>try simp only[F,go_sem]
 obtain rfl:=oi h0
 refine Ag rfl ?_
 try simp only[F,go_sem]
 obtain⟨r7,lf,h0⟩:=bs h0
 refine A5 lf (iy.h0 s0) (iy.x0) ?_ ?_ ?_
 refine Al.go [0,8,9] [] rfl ?_
 try simp only[iy.h0,F,go_sem]
 rintro i2 bO Bd Ba h1 az ax bg
 refine rS ?_
 simp only[iy.b0]at h1
 try simp only[EA.s0,iy.h0,F,go_sem]
 refine AF F h1 ?_ ?_<;>intro F h1<;>try simp only[F,go_sem]
 obtain⟨i4,yi4,h1⟩:=bs h1
 have F:=an (ajT yi4) (an (ajS yi4) F)
 try simp only[F,go_sem]
 refine A7 F h1 ?_ ?_<;>intro F h1<;>try simp only[F,go_sem]
 refine AF F h1 ?_ ?_<;>intro F h1<;>try simp only[F,go_sem]
 obtain rfl:=bg _ (oi h1).symm
 simp only at h0
 obtain rfl:=oi h0
 refine Ag rfl ?_
 try simp only[F,go_sem]
 refine Ax (az _ _ (oi h1).symm (Al.go [0,8,9] [] rfl ?_))
 try simp only[iy.h0,F,go_sem]
 obtain rfl:=bg _ (oi h1).symm
 simp only at h0
 obtain rfl:=oi h0
 refine Ag rfl ?_
 try simp only[F,go_sem]
 refine Ax (ax _ _ (oi h1).symm (Al.go [] [] rfl ?_))
 try simp only[iy.x0,F,go_sem]
 rintro _ aA
 subst aA
 simp only at h0
 refine rS ?_
 try simp only[iy.x0,F,go_sem]
 obtain rfl:=oi h0
 refine Ag rfl ?_
 try simp only[F,go_sem]
def H0.c:SC:=
 SQ [RG [wE 1 29 0 [0],wB 2 false 4 [2]],SQ [RG [wF 3 29 1 0,wD 4 27 3 [3],wU 5 112 4 27 4 [4],wQ 6 5 4 [5],wV 7 6 4 [6],gd 7 false (wF 8 29 1 1),gd 7 false (wD 9 3 8 [8]),gd 7 false (wC 10 69 #[.tmp 9,.const (.int .i64 0),.const (.int .i64 40)] #[3,3,3] 4 [9]),gd 7 false (wQ 11 10 4 [10]),wT 12 7 11 4 [7,11],wV 13 12 4 [12],gd 13 false (wF 14 29 1 2),gd 13 false (wD 15 3 14 [14]),
 gd 13 false (wC 16 69 #[.tmp 15,.const (.int .i64 0),.const (.int .i64 100000)] #[3,3,3] 4 [15]),gd 13 false (wQ 17 16 4 [16]),wT 18 13 17 4 [13,17],wV 19 18 4 [18],gd 19 false (wF 20 29 1 3),gd 19 false (wD 21 3 20 [20]),gd 19 false (wC 22 69 #[.tmp 21,.const (.int .i64 0),.const (.int .i64 100000)] #[3,3,3] 4 [21]),gd 19 false (wQ 23 22 4 [22]),wT 24 19 23 4 [19,23],wV 25 24 4 [24],
 gd 25 false (wF 26 29 1 5),gd 25 false (wD 27 9 26 [26]),gd 25 false (wU 28 113 27 9 4 [27]),gd 25 false (wQ 29 28 4 [28]),wT 30 25 29 4 [25,29]],CN 30 (SQ [RG [wB 2 false 4],.ret]) .skip],SQ [RG [wF 31 29 1 1,wD 32 3 31 [31],wK 33 .neq 3 32 0 3 4 [32]],CN 33 (SQ [RG [wF 34 29 1 4 [1],wD 35 27 34 [34],oQ 36 (.build 27 #[]) 27,wO 37 .eql 27 35 36 27 4 [35,36],wG 2 37 4 [37]],.ret]) .skip],
 RG [wF 38 29 1 2,wD 39 3 38 [38],wK 40 .eql 3 39 0 3 4 [39],wV 41 40 4 [40],gd 41 true (wF 42 29 1 5),gd 41 true (wD 43 9 42 [42]),gd 41 true (oQ 44 (.binOp .eql 9 (.tmp 43) (.const (.string ⟨#[]⟩)) 9) 4 [43]),wZ 45 41 44 4 [41,44],wV 46 45 4 [45],gd 46 true (wF 47 29 1 4),gd 46 true (wD 48 27 47 [47]),gd 46 true (wU 49 112 48 27 4 [48]),wZ 50 46 49 4 [46,49],wV 51 50 4 [50],
 gd 51 true (wF 52 29 1 4),gd 51 true (wF 53 27 52 0 [52]),gd 51 true (wD 54 3 53 [53]),gd 51 true (wF 55 29 1 0),gd 51 true (wF 56 27 55 0 [55]),gd 51 true (wD 57 3 56 [56]),gd 51 true (wO 58 .eql 3 54 57 3 4 [54,57]),wZ 59 51 58 4 [51,58],wV 60 59 4 [59],gd 60 true (wF 61 29 1 4),gd 60 true (wF 62 27 61 1 [61]),gd 60 true (wD 63 3 62 [62]),gd 60 true (wF 64 29 1 0 [1]),
 gd 60 true (wF 65 27 64 1 [64]),gd 60 true (wD 66 3 65 [65]),gd 60 true (wO 67 .lss 3 63 66 3 4 [63,66]),wZ 68 60 67 4 [60,67],wG 2 68 4 [68]],.ret]
def oW (k:Nat) (r0:Ab):Option (Bool):=
 (vW k r0.At).bind fun x1=>
 bif x1 then
  (ja k r0.Kind 0 40).bind fun x3=>
  bif x3 then
   (ja k r0.Day 0 100000).bind fun x5=>
   bif x5 then
    (ja k r0.Ap 0 100000).bind fun x7=>
    bif x7 then
     (iy k r0.Text).bind fun x9=>
     bif (!x9) then
      some false
     else
      bif (!decide (r0.Kind=(0:Int))) then
       some (decide (r0.Of.Ac=(0:Int))&&decide (r0.Of.No=(0:Int)))
      else
       bif decide (r0.Day=(0:Int)) then
        bif (r0.Text.toList==ByteArray.empty.toList) then
         (vW k r0.Of).bind fun bR=>
         bif bR then
          bif decide (r0.Of.Ac=r0.At.Ac) then
           some (decide (r0.Of.No<r0.At.No))
          else
           some false
         else
          some false
        else
         some false
       else
        some false
    else
     some false
   else
    some false
  else
   some false
 else
  some false
theorem abB (k:Nat) (r0:Ab) (r:Bool) (h0:oW k r0=some r):Ay Tryz.prog 95 [.agg (Ab.c r0)] (fun y=>y=.bool r):=by
 refine PB Tryz.f95 H0.c [.tmp 2] ?_
 simp only[oW]at h0
 try simp only[H0.c,go_sem]
 refine aj h0 (agt k _) ?_ (fun x1 h0=>?_)<;>try simp only[go_sem]
 refine AP h0 ?_ ?_<;>intro c2 h0<;>have F:=c2<;>try simp only[F,go_sem]
 refine aj h0 (nd k _ _ _) ?_ (fun x3 h0=>?_)<;>try simp only[F,go_sem]
 refine AF F h0 ?_ ?_<;>intro F h0<;>try simp only[F,go_sem]
 refine aj h0 (nd k _ _ _) ?_ (fun x5 h0=>?_)<;>try simp only[F,go_sem]
 refine AF F h0 ?_ ?_<;>intro F h0<;>try simp only[F,go_sem]
 refine aj h0 (nd k _ _ _) ?_ (fun x7 h0=>?_)<;>try simp only[F,go_sem]
 refine AF F h0 ?_ ?_<;>intro F h0<;>try simp only[F,go_sem]
 refine aj h0 (amL k _) ?_ (fun x9 h0=>?_)<;>try simp only[F,go_sem]
 refine A7 F h0 ?_ ?_<;>intro F h0<;>try simp only[F,go_sem]
 obtain rfl:=oi h0
 refine Ag rfl ?_
 try simp only[F,go_sem]
 refine A7 F h0 ?_ ?_<;>intro F h0<;>try simp only[F,go_sem]
 obtain rfl:=oi h0
 refine Ag rfl ?_
 try simp only[F,go_sem]
 refine AF F h0 ?_ ?_<;>intro F h0<;>try simp only[F,go_sem]
 refine AF F h0 ?_ ?_<;>intro F h0<;>try simp only[F,go_sem]
 refine aj h0 (agt k _) ?_ (fun bR h0=>?_)<;>try simp only[F,go_sem]
 refine AF F h0 ?_ ?_<;>intro F h0<;>try simp only[F,go_sem]
 refine AF F h0 ?_ ?_<;>intro F h0<;>try simp only[F,go_sem]
 obtain rfl:=oi h0
 refine Ag rfl ?_
 try simp only[F,go_sem]
 obtain rfl:=oi h0
 refine Ag rfl ?_
 try simp only[F,go_sem]
 obtain rfl:=oi h0
 refine Ag rfl ?_
 try simp only[F,go_sem]
 obtain rfl:=oi h0
 refine Ag rfl ?_
 try simp only[F,go_sem]
 obtain rfl:=oi h0
 refine Ag rfl ?_
 try simp only[F,go_sem]
 obtain rfl:=oi h0
 refine Ag rfl ?_
 try simp only[F,go_sem]
 obtain rfl:=oi h0
 refine Ag rfl ?_
 try simp only[F,go_sem]
 obtain rfl:=oi h0
 refine Ag rfl ?_
 try simp only[F,go_sem]
 obtain rfl:=oi h0
 refine Ag rfl ?_
 try simp only[F,go_sem]
def HL.c:SC:=
 SQ [RG [wE 1 29 0 [0],wN 2 0 45 [2]],SQ [RG [wD 3 29 1 [1],wU 4 95 3 29 4 [3],wQ 5 4 4 [4]],CN 5 (SQ [RG [wN 2 90 45],.ret]) .skip],RG [wN 2 0 45],.ret]
def abt (k:Nat) (r0:Ab):Option (Int):=
 (oW k r0).bind fun x1=>
 bif (!x1) then
  some 90
 else
  some 0
theorem agl (k:Nat) (r0:Ab) (r:Int) (h0:abt k r0=some r):Ay Tryz.prog 67 [.agg (Ab.c r0)] (fun y=>y=.int .i64 r):=by
 refine PB Tryz.f67 HL.c [.tmp 2] ?_
 simp only[abt]at h0
 try simp only[HL.c,go_sem]
 refine aj h0 (abB k _) ?_ (fun x1 h0=>?_)<;>try simp only[go_sem]
 refine BS h0 ?_ ?_<;>intro c2 h0<;>have F:=c2<;>try simp only[F,go_sem]
 obtain rfl:=oi h0
 refine Ag rfl ?_
 try simp only[F,go_sem]
 obtain rfl:=oi h0
 refine Ag rfl ?_
 try simp only[F,go_sem]
def EI.s0:SC:=
 SQ [RG [wO 31 .lss 3 30 29 3 0],CN 31 .skip (.exit 0),.block 1 (SQ [RG [wI 32 97 28 30,wD 33 105 32 [32],wA 11 105,wS 105 11 33 [33]],RG [wV 34 9 85 [9],wD 35 105 11 [11],oQ 36 (.buildSlice 85 1 #[(0,.tmp 35)]) 85 [35],wP 37 34 36 85 85 85 [34,36],wG 9 37 85 [37]]]),RG [wK 38 .add 3 30 1 3 3 [30],wV 30 38 3 [38]]]
def EI.c:SC:=
 SQ [RG [wE 3 29 0 [0],oQ 6 (.assign (.const (.slice none 0 0))) 85 [6],wN 7 0 45 [7]],SQ [RG [wD 12 29 3,wU 13 67 12 29 45 [12],wG 8 13 45 [13]],RG [wV 14 8 45,wK 15 .neq 45 14 0 45 4 [14]],CN 15 (SQ [RG [wV 16 8 45 [8],oQ 6 (.assign (.const (.slice none 0 0))) 85,wG 7 16 45 [16]],.ret]) .skip],SQ [RG [wV 17 1 3,wC 18 69 #[.tmp 17,.const (.int .i64 0),.const (.int .i64 59)] #[3,3,3] 4 [17],
 wQ 19 18 4 [18],wV 20 19 4 [19],gd 20 false (wV 21 2 3),gd 20 false (wC 22 69 #[.tmp 21,.const (.int .i64 1),.const (.int .i64 1000000)] #[3,3,3] 4 [21]),gd 20 false (wQ 23 22 4 [22]),wT 24 20 23 4 [20,23]],CN 24 (SQ [RG [oQ 6 (.assign (.const (.slice none 0 0))) 85,wN 7 1 45],.ret]) .skip],RG [oQ 9 (.assign (.const (.slice none 0 0))) 85],SQ [RG [wD 25 29 3 [3],wV 26 1 3 [1],wV 27 2 3 [2],
 wC 28 39 #[.tmp 25,.tmp 26,.tmp 27] #[29,3,3] 97 [25,26,27],wL 29 28 97 3,oQ 30 (.move (.const (.int .i64 0))) 3],.block 0 (.loop EI.s0)],RG [wV 39 9 85 [9],wG 6 39 85 [39],wN 7 0 45],.ret]
def kC.b0 (k:Nat) (x7:(List (Aa 32 Int))):(Int×(List (Aa 32 Int)))->Option (AN (Int×(List (Aa 32 Int))) ((List (Aa 32 Int))) ((List (Aa 32 Int))×Int)):=fun s=>match s with
 |(i8,l9)=>
   bif decide (i8<(x7.length:Int)) then
    (at? x7 i8).bind fun dA=>
    (eO 32 l9 dA).bind fun ib=>
    some (.next (ab (i8+1),ib))
   else
    some (.brk l9)
def kC.h0 (x7:(List (Aa 32 Int))):(Int×(List (Aa 32 Int)))->St:=fun s=>match s with
 |(i8,l9)=>⟨[(9,.loc 0 0 32 0 l9.length l9.length),(28,.sl 32 (List.map (Aa.c (n:=32) ae) x7)),(29,.int .i64 (x7.length:Int)),(30,.int .i64 i8)],[(0,.arr 92 32 (List.map (Aa.c (n:=32) ae) l9))],[],1,Tryz.f31.ntmps⟩
def kC.x0:(List (Aa 32 Int))->St:=fun df=>⟨[(9,.loc 0 0 32 0 df.length df.length)],[(0,.arr 92 32 (List.map (Aa.c (n:=32) ae) df))],[],1,Tryz.f31.ntmps⟩
def kC (k:Nat) (r0:Ab) (kS:Int) (fA:Int):Option ((List (Aa 32 Int))×Int):=
 (abt k r0).bind fun x1=>
 bif (!decide (x1=(0:Int))) then
  some ([],x1)
 else
  (ja k kS 0 59).bind fun x3=>
  bif x3 then
   (ja k fA 1 1000000).bind fun x5=>
   bif (!x5) then
    some ([],1)
   else
    (gu k r0 kS fA).bind fun x7=>
    (ai (kC.b0 k x7) k (0,[])).bind fun lQ=>match lQ with
    |.next _=>none
    |.ret v_=>some v_
    |.brk df=>
     some (df,0)
  else
   some ([],1)
theorem amu (k:Nat) (r0:Ab) (kS:Int) (fA:Int) (r:(List (Aa 32 Int))×Int) (h0:kC k r0 kS fA=some r):Ay Tryz.prog 31 [.agg (Ab.c r0),.int .i64 kS,.int .i64 fA] (fun y=>y=.aw [.sl 32 (List.map (Aa.c (n:=32) ae) r.1),.int .i64 r.2]):=by
 refine PB Tryz.f31 EI.c [.tmp 6,.tmp 7] ?_
 simp only[kC]at h0
 try simp only[EI.c,go_sem]
 refine aj h0 (agl k _) ?_ (fun x1 h0=>?_)<;>try simp only[go_sem]
 refine BS h0 ?_ ?_<;>intro c2 h0<;>have F:=c2<;>try simp only[F,go_sem]
 obtain rfl:=oi h0
 refine Ag rfl ?_
 try simp only[F,go_sem]
 refine aj h0 (nd k _ _ _) ?_ (fun x3 h0=>?_)<;>try simp only[F,go_sem]
 refine AF F h0 ?_ ?_<;>intro F h0<;>try simp only[F,go_sem]
 refine aj h0 (nd k _ _ _) ?_ (fun x5 h0=>?_)<;>try simp only[F,go_sem]
 refine A7 F h0 ?_ ?_<;>intro F h0<;>try simp only[F,go_sem]
 obtain rfl:=oi h0
 refine Ag rfl ?_
 try simp only[F,go_sem]
 refine aj h0 (ado k _ _ _) ?_ (fun x7 h0=>?_)<;>try simp only[F,go_sem]
 obtain⟨lQ,rQ,h0⟩:=bs h0
 refine A5 rQ (kC.h0 x7) (kC.x0) ?_ ?_ ?_
 refine Al.go [9,28,29,30] [256] rfl ?_
 try simp only[kC.h0,F,go_sem]
 rintro⟨i8,l9⟩ bO Bd Ba h1 az ax bg
 refine rS ?_
 simp only[kC.b0]at h1
 try simp only[EI.s0,kC.h0,F,go_sem]
 refine AF F h1 ?_ ?_<;>intro F h1<;>try simp only[F,go_sem]
 obtain⟨dA,m9,h1⟩:=bs h1
 have F:=an (aI m9) (an (aH (Aa.c (n:=32) ae) m9) F)
 try simp only[F,go_sem]
 obtain⟨ib,aa4,h1⟩:=bs h1
 have tT:=pu (Aa.c (n:=32) ae) aa4
 try simp only[F,go_sem]at tT
 have F:=an tT F
 try simp only[F,go_sem]
 refine Ax (az _ _ (oi h1).symm (Al.go [9,28,29,30] [0] rfl ?_))
 try simp only[kC.h0,F,go_sem]
 refine Ax (ax _ _ (oi h1).symm (Al.go [9] [0] rfl ?_))
 try simp only[kC.x0,F,go_sem]
 rintro df aA
 subst aA
 simp only at h0
 refine rS ?_
 try simp only[kC.x0,F,go_sem]
 obtain rfl:=oi h0
 refine Ag rfl ?_
 try simp only[F,go_sem]
 obtain rfl:=oi h0
 refine Ag rfl ?_
 try simp only[F,go_sem]
def EW.c:SC:=
 SQ [RG [oQ 2 (.assign (.const (.slice none 0 0))) 33 [2]],SQ [RG [wV 3 0 33,oQ 4 (.binOp .eql 33 (.tmp 3) (.const (.slice none 0 0)) 33) 4 [3]],CN 4 (SQ [RG [oQ 2 (.assign (.const (.slice none 0 0))) 33],.ret]) .skip],RG [oQ 5 (.buildSlice 33 0 #[]) 33,wV 6 0 33 [0],wP 7 5 6 33 33 33 [5,6],wG 2 7 33 [7]],.ret]
theorem EW.rs:Tryz.f78.results.toList=[.tmp 2]:=rfl
def acM (k:Nat) (s0:(List (Aa 2 (Aa 32 Int)))):Option ((List (Aa 2 (Aa 32 Int)))):=
 (dI s0.length 64).bind fun _=>
 some s0
theorem arz (k:Nat) (s0:(List (Aa 2 (Aa 32 Int)))) (r:(List (Aa 2 (Aa 32 Int)))) (h0:acM k s0=some r):Bg Tryz.prog 78 [.sl 64 (List.map (Aa.c (n:=2) (Aa.c (n:=32) ae)) s0)] [] (fun y fr=>y=.loc 0 0 64 0 r.length r.length/\fr=[(0,.arr 113 64 (List.map (Aa.c (n:=2) (Aa.c (n:=32) ae)) r))]):=by
 have hr:=Bg.own (et:=113) (sz:=64) (ls:=List.map (Aa.c (n:=2) (Aa.c (n:=32) ae)) r) (Bg.gD AE (f:=78) (fn:=Tryz.f78) (sc:=EW.c) (args:=[.sl 64 (List.map (Aa.c (n:=2) (Aa.c (n:=32) ae)) s0)]) (fr0:=[]) (by rfl) (by rfl) (by decide +kernel) (by rfl) (by decide +kernel) (Nat.le_of_ble_eq_true rfl) (fun H=>?_))
 ·simpa only [Bu] using hr
 refine rS ?_
 simp only[acM]at h0
 try simp only[EW.c,go_sem]
 refine⟨fun he=>?_,?_⟩
 ·refine rS ?_
  try simp only[go_sem]
  obtain⟨u_,hu_,h0⟩:=bind_some h0
  obtain rfl:=oi h0
  refine C6 rfl ?_
  simp only[he,EW.rs,nE,Be,cm,AB,List.take_nil,go_sem]
  try simp
 ·refine rS ?_
  try simp only[go_sem]
  obtain⟨u1,iY,h0⟩:=bind_some h0
  try simp only[jv iY,go_sem]
  obtain rfl:=oi h0
  refine C6 rfl ?_
  try simp only[EW.rs,nE,Be,cm,um,we,AY,BA,go_sem]
def EX.c:SC:=
 SQ [RG [oQ 2 (.assign (.const (.slice none 0 0))) 34 [2]],SQ [RG [wV 3 0 34,oQ 4 (.binOp .eql 34 (.tmp 3) (.const (.slice none 0 0)) 34) 4 [3]],CN 4 (SQ [RG [oQ 2 (.assign (.const (.slice none 0 0))) 34],.ret]) .skip],RG [oQ 5 (.buildSlice 34 0 #[]) 34,wV 6 0 34 [0],wP 7 5 6 34 34 34 [5,6],wG 2 7 34 [7]],.ret]
theorem EX.rs:Tryz.f79.results.toList=[.tmp 2]:=rfl
def acN (k:Nat) (s0:(List As)):Option ((List As)):=
 (dI s0.length 72).bind fun _=>
 some s0
theorem arA (k:Nat) (s0:(List As)) (r:(List As)) (h0:acN k s0=some r):Bg Tryz.prog 79 [.sl 65 (List.map As.c s0)] [] (fun y fr=>y=.loc 0 0 65 0 r.length r.length/\fr=[(0,.arr 116 65 (List.map As.c r))]):=by
 have hr:=Bg.own (et:=116) (sz:=65) (ls:=List.map As.c r) (Bg.gD AE (f:=79) (fn:=Tryz.f79) (sc:=EX.c) (args:=[.sl 65 (List.map As.c s0)]) (fr0:=[]) (by rfl) (by rfl) (by decide +kernel) (by rfl) (by decide +kernel) (Nat.le_of_ble_eq_true rfl) (fun H=>?_))
 ·simpa only [Bu] using hr
 refine rS ?_
 simp only[acN]at h0
 try simp only[EX.c,go_sem]
 refine⟨fun he=>?_,?_⟩
 ·refine rS ?_
  try simp only[go_sem]
  obtain⟨u_,hu_,h0⟩:=bind_some h0
  obtain rfl:=oi h0
  refine C6 rfl ?_
  simp only[he,EX.rs,nE,Be,cm,AB,List.take_nil,go_sem]
  try simp
 ·refine rS ?_
  try simp only[go_sem]
  obtain⟨u1,iY,h0⟩:=bind_some h0
  try simp only[jv iY,go_sem]
  obtain rfl:=oi h0
  refine C6 rfl ?_
  try simp only[EX.rs,nE,Be,cm,um,we,AY,BA,go_sem]
def Fx.c:SC:=
 SQ [RG [wE 1 36 0 [0],oQ 2 (.assign (.const (.pointer none))) 99 [2]],.aS [wF 3 36 1 0,wD 4 33 3,wU 5 78 4 33 33,wF 6 36 1 1,wD 7 34 6,wU 8 79 7 34 34,oQ 9 (.build 36 #[(0,.tmp 5),(1,.tmp 8)]) 36,oQ 10 (.build 102 #[(0,.tmp 9)]) 102,oQ 11 (.box 102 (.tmp 10)) 99,wG 2 11 99] [[],[0],[0,1],[],[3],[3,4,0,1,2],[0,1,2,3,4,5],[0,1,2,3,4,5,6],[0,1,2,3,4,5,6,7],[0,1,2,3,4,5,6,7,8]] [1,3,4,5,6,7,8,9,10,
 11],.ret]
theorem Fx.rs:Tryz.f40.results.toList=[.tmp 2]:=rfl
def nc (k:Nat) (d0:Ad):Option (aF):=
 (acM k d0.Aj).bind fun x2=>
 (acN k d0.Af).bind fun x4=>
 some (⟨(⟨x2,x4⟩:Ad)⟩:aF)
theorem ud (k:Nat) (d0:Ad) (r:aF) (h0:nc k d0=some r):Bg Tryz.prog 40 [.agg (Ad.c d0)] [] (fun y fr=>y=.ptr 0 0 0/\fr=[(0,.box ([.loc 0 1 64 0 r.Ad.Aj.length r.Ad.Aj.length,.loc 0 2 65 0 r.Ad.Af.length r.Ad.Af.length])),(1,.arr 113 64 (List.map (Aa.c (n:=2) (Aa.c (n:=32) ae)) r.Ad.Aj)),(2,.arr 116 65 (List.map As.c r.Ad.Af))]):=by
 refine Bg.gD AE (f:=40) (fn:=Tryz.f40) (sc:=Fx.c) (by rfl) (by rfl) (by decide +kernel) (by rfl) (by decide +kernel) (Nat.le_of_ble_eq_true rfl) (fun H=>?_)
 refine rS ?_
 simp only[nc]at h0
 try simp only[Fx.c,go_sem]
 refine AL AE aO 1000 ?_
 try simp only[go_sem]
 obtain⟨x2,dJ,h0⟩:=bs h0
 refine D4 1000 [] [] (arz k _ _ dJ) ?_ rfl ?_
 try simp only[fB,Bu,go_sem]
 try simp only[go_sem]
 obtain⟨x4,bF,h0⟩:=bs h0
 refine D4 1000 [] [] (arA k _ _ bF) ?_ rfl ?_
 try simp only[fB,Bu,go_sem]
 try simp only[go_sem]
 refine aG ?_
 try simp only[go_sem]
 obtain rfl:=oi h0
 refine GW [176,80,128] (by simp) rfl rfl ?_
 try simp only[Fx.rs,ad6,cm,Ae,go_sem]
def DP.s0:SC:=
 SQ [RG [wO 12 .lss 3 11 10 3 0],CN 12 .skip (.exit 0),.block 1 (SQ [RG [wI 13 34 9 11,wD 14 116 13 [13],wA 4 116,wS 116 4 14 [14]],.aS [wV 15 0 99,oQ 16 (.nilCheck (.tmp 15)) 0,wF 17 102 16 0,wF 18 36 17 0,wD 19 33 18,wF 20 116 4 0,wD 21 3 20,wF 22 116 4 1,wD 23 113 22,wI 24 33 19 21,wS 113 24 23] [[],[0],[0,1],[0,1,2],[0,1,2,3],[],[5],[],[7],[0,1,2,3,4,5,6,7,8],[0,1,2,3,4,5,6,7,8,9]] [4,15,16,
 17,18,19,20,21,22,23,24]]),RG [wK 25 .add 3 11 1 3 3 [11],wV 11 25 3 [25]]]
def DP.c:SC:=
 SQ [RG [oQ 2 (.assign (.const (.pointer none))) 99 [2]],SQ [RG [wV 5 0 99,oQ 6 (.nilCheck (.tmp 5)) 0 [5],wF 7 102 6 0 [6],wF 8 36 7 1 [7],wD 9 34 8 [8],wL 10 9 34 3,oQ 11 (.move (.const (.int .i64 0))) 3],.block 0 (.loop DP.s0)],RG [wV 26 0 99,oQ 27 (.nilCheck (.tmp 26)) 0 [26],wF 28 102 27 0 [27],wF 29 36 28 1 [28],⟨none,.store 34 (.tmp 29) (.const (.slice none 0 0)),0,none,[29]⟩],
 RG [wV 30 0 99 [0],wG 2 30 99 [30]],.ret]
theorem DP.rs:Tryz.f42.results.toList=[.tmp 2]:=rfl
def fU.b0 (k:Nat) (d0:aF):(Int×(List (Aa 2 (Aa 32 Int))))->Option (AN (Int×(List (Aa 2 (Aa 32 Int)))) ((List (Aa 2 (Aa 32 Int)))) (aF)):=fun s=>match s with
 |(i1,l2)=>
   bif decide (i1<((d0.Ad.Af.length:Nat):Int)) then
    (at? d0.Ad.Af i1).bind fun x5=>
    (at? l2 x5.At).bind fun x6=>
    (dN l2 x5.At x5.AQ).bind fun l7=>
    some (.next (ab (i1+1),l7))
   else
    some (.brk l2)
def fU.h0 (f1:AH) (H:Heap) (d0:aF):(Int×(List (Aa 2 (Aa 32 Int))))->St:=fun s=>match s with
 |(i1,l2)=>⟨[(0,.ptr 1 0 0),(9,.loc 1 2 65 0 d0.Ad.Af.length d0.Ad.Af.length),(10,.int .i64 ((d0.Ad.Af.length:Nat):Int)),(11,.int .i64 i1)],[],((0,.box ([.loc 0 1 64 0 l2.length l2.length,.loc 0 2 65 0 d0.Ad.Af.length d0.Ad.Af.length]))::(1,.arr 113 64 (List.map (Aa.c (n:=2) (Aa.c (n:=32) ae)) l2))::(2,.arr 116 65 (List.map As.c d0.Ad.Af))::f1)::H,1,Tryz.f42.ntmps⟩
def fU.x0 (f1:AH) (H:Heap) (d0:aF):(List (Aa 2 (Aa 32 Int)))->St:=fun l3=>⟨[(0,.ptr 1 0 0)],[],((0,.box ([.loc 0 1 64 0 l3.length l3.length,.loc 0 2 65 0 d0.Ad.Af.length d0.Ad.Af.length]))::(1,.arr 113 64 (List.map (Aa.c (n:=2) (Aa.c (n:=32) ae)) l3))::(2,.arr 116 65 (List.map As.c d0.Ad.Af))::f1)::H,1,Tryz.f42.ntmps⟩
def fU (k:Nat) (d0:aF):Option (aF):=
 (ai (fU.b0 k d0) k (0,d0.Ad.Aj)).bind fun r8=>match r8 with
 |.next _=>none
 |.ret v_=>some v_
 |.brk l3=>
  some (⟨(⟨l3,[]⟩:Ad)⟩:aF)
theorem aby (k:Nat) (d0:aF) (r:aF) (h0:fU k d0=some r):DS Tryz.prog 42 [.ptr 1 0 0] [(0,.box ([.loc 0 1 64 0 d0.Ad.Aj.length d0.Ad.Aj.length,.loc 0 2 65 0 d0.Ad.Af.length d0.Ad.Af.length])),(1,.arr 113 64 (List.map (Aa.c (n:=2) (Aa.c (n:=32) ae)) d0.Ad.Aj)),(2,.arr 116 65 (List.map As.c d0.Ad.Af))] (fun y fr X'=>y=.ptr 1 0 0/\fr=[]/\X'=[(0,.box ([.loc 0 1 64 0 r.Ad.Aj.length r.Ad.Aj.length,.nil])),(1,.arr 113 64 (List.map (Aa.c (n:=2) (Aa.c (n:=32) ae)) r.Ad.Aj)),(2,.arr 116 65 (List.map As.c d0.Ad.Af))]):=by
 refine DS.gD AE (fn:=Tryz.f42) (sc:=DP.c) (by rfl) (by rfl) (by decide +kernel) (by rfl) (by decide +kernel) (Nat.le_of_ble_eq_true rfl) (fun f1 H=>?_)
 refine rS ?_
 simp only[Bz,Ce]
 simp only[fU]at h0
 try simp only[DP.c,go_sem]
 obtain⟨r8,oP,h0⟩:=bs h0
 refine A5 oP (fU.h0 f1 H d0) (fU.x0 f1 H d0) ?_ ?_ ?_
 refine Al.go [0,9,10,11] [] rfl ?_
 try simp only[fU.h0,go_sem]
 rintro⟨i1,l2⟩ bO Bd Ba h1 az ax bg
 refine rS ?_
 simp only[fU.b0]at h1
 try simp only[DP.s0,fU.h0,go_sem]
 refine AP h1 ?_ ?_<;>intro c4 h1<;>have F:=c4<;>try simp only[F,go_sem]
 obtain⟨x5,cn,h1⟩:=bs h1
 have F:=an (aI cn) (an (aH As.c cn) F)
 try simp only[F,go_sem]
 refine AL AE aO 1000 ?_
 try simp only[F,go_sem]
 obtain⟨x6,dB,h1⟩:=bs h1
 have F:=an (aI dB) (an (aH (Aa.c (n:=2) (Aa.c (n:=32) ae)) dB) F)
 try simp only[F,go_sem]
 obtain⟨l7,yl7,h1⟩:=bs h1
 have ahs:=lV (Aa.c (n:=2) (Aa.c (n:=32) ae)) yl7
 try simp only[go_sem]at ahs
 have F:=an ahs (an (kW yl7) (an (lW (Aa.c (n:=2) (Aa.c (n:=32) ae)) yl7) F))
 try simp only[F,go_sem]
 refine aG ?_
 try simp only[F,go_sem]
 refine Ax (az _ _ (oi h1).symm (Al.go [0,9,10,11] [] rfl ?_))
 try simp only[fU.h0,F,go_sem]
 refine Ax (ax _ _ (oi h1).symm (Al.go [0] [] rfl ?_))
 try simp only[fU.x0,F,go_sem]
 rintro l3 aA
 subst aA
 simp only at h0
 refine rS ?_
 try simp only[fU.x0,go_sem]
 obtain rfl:=oi h0
 refine GX (by simp) ?_ ?_
 try simp only[DP.rs,cm,Ae,go_sem]
 try simp only[Bz,Ce,go_sem]
def EC.s0:SC:=
 SQ [RG [wO 9 .lss 3 8 7 3 0],CN 9 .skip (.exit 0),.block 1 (SQ [RG [wV 10 8 3,wG 5 10 3 [10]],RG [wV 11 1 169,wV 12 0 34,wV 13 5 3,wI 14 34 12 13 [12,13],wD 15 116 14 [14],oQ 16 (.call ⟨.value (.tmp 11),#[.tmp 15],#[116]⟩) 4 [11,15]],CN 16 (SQ [RG [wV 17 5 3 [5],wG 4 17 3 [17]],.ret]) .skip]),RG [wK 18 .add 3 8 1 3 3 [8],wV 8 18 3 [18]]]
def EC.c:SC:=
 SQ [RG [wN 4 0 3 [4]],SQ [RG [wV 6 0 34,wL 7 6 34 3 [6],oQ 8 (.move (.const (.int .i64 0))) 3],.block 0 (.loop EC.s0)],RG [wN 4 (-1) 3],.ret]
def iV.b0 (k:Nat) (f1:As->Option (Bool)) (s0:(List As)):Int->Option (AN (Int) (Unit) (Int)):=fun i1=>
 bif decide (i1<(s0.length:Int)) then
  (at? s0 i1).bind fun x3=>
  (f1 x3).bind fun x4=>
  bif x4 then
   some (.ret i1)
  else
   some (.next (ab (i1+1)))
 else
  some (.brk ())
def iV.h0 (iH:Nat) (fY:List AV) (s0:(List As)):Int->St:=fun i1=>⟨[(0,.sl 65 (List.map As.c s0)),(1,.fn (.func iH) [] fY),(7,.int .i64 (s0.length:Int)),(8,.int .i64 i1)],[],[],1,Tryz.f119.ntmps⟩
def iV.x0:Unit->St:=fun _=>⟨[],[],[],1,Tryz.f119.ntmps⟩
def iV (k:Nat) (s0:(List As)) (f1:As->Option (Bool)):Option (Int):=
 (ai (iV.b0 k f1 s0) k 0).bind fun r6=>match r6 with
 |.next _=>none
 |.ret v_=>some v_
 |.brk _=>
  some (-1)
theorem arF (k:Nat) (s0:(List As)) (iH:Nat) (fY:List AV) (dt:Ch fY) (f1:As->Option (Bool)) (uu:∀ q0 qr,f1 q0=some qr->Ay Tryz.prog iH (.agg (As.c q0)::fY) (fun y=>y=.bool qr)) (r:Int) (h0:iV k s0 f1=some r):Ay Tryz.prog 119 [.sl 65 (List.map As.c s0),.fn (.func iH) [] fY] (fun y=>y=.int .i64 r):=by
 refine PB Tryz.f119 EC.c [.tmp 4] ?_
 simp only[iV]at h0
 have F:=an dt.sh (an dt.ak (an dt.br (an dt.refs (an dt.imp (an dt.aV dt.un)))))
 try simp only[EC.c,F,go_sem]
 obtain⟨r6,rR,h0⟩:=bs h0
 refine A5 rR (iV.h0 iH fY s0) (iV.x0) ?_ ?_ ?_
 refine Al.go [0,1,7,8] [] rfl ?_
 try simp only[iV.h0,F,go_sem]
 rintro i1 bO Bd Ba h1 az ax bg
 refine rS ?_
 simp only[iV.b0]at h1
 try simp only[EC.s0,iV.h0,F,go_sem]
 refine AF F h1 ?_ ?_<;>intro F h1<;>try simp only[F,go_sem]
 obtain⟨x3,cv,h1⟩:=bs h1
 have F:=an (aI cv) (an (aH As.c cv) F)
 try simp only[F,go_sem]
 refine aj h1 (uu _) ?_ (fun x4 h1=>?_) (fun _=>by simp[AV.aT,AV.refs,AV.cS,AV.leaf,dt.refs])<;>try simp only[F,go_sem]
 refine AF F h1 ?_ ?_<;>intro F h1<;>try simp only[F,go_sem]
 obtain rfl:=bg _ (oi h1).symm
 simp only at h0
 obtain rfl:=oi h0
 refine Ag rfl ?_
 try simp only[F,go_sem]
 refine Ax (az _ _ (oi h1).symm (Al.go [0,1,7,8] [] rfl ?_))
 try simp only[iV.h0,F,go_sem]
 refine Ax (ax _ _ (oi h1).symm (Al.go [] [] rfl ?_))
 try simp only[iV.x0,F,go_sem]
 rintro _ aA
 subst aA
 simp only at h0
 refine rS ?_
 try simp only[iV.x0,F,go_sem]
 obtain rfl:=oi h0
 refine Ag rfl ?_
 try simp only[F,go_sem]
def H4.c:SC:=
 SQ [RG [wB 4 false 4 [4]],RG [wV 5 0 34 [0],wV 6 1 169 [1],wW 7 119 5 6 34 169 3 [5,6],wK 8 .geq 3 7 0 3 4 [7],wG 4 8 4 [8]],.ret]
def acO (k:Nat) (s0:(List As)) (f1:As->Option (Bool)):Option (Bool):=
 (iV k s0 f1).bind fun x1=>
 some (decide ((0:Int)<=x1))
theorem arC (k:Nat) (s0:(List As)) (iH:Nat) (fY:List AV) (dt:Ch fY) (f1:As->Option (Bool)) (uu:∀ q0 qr,f1 q0=some qr->Ay Tryz.prog iH (.agg (As.c q0)::fY) (fun y=>y=.bool qr)) (r:Bool) (h0:acO k s0 f1=some r):Ay Tryz.prog 99 [.sl 65 (List.map As.c s0),.fn (.func iH) [] fY] (fun y=>y=.bool r):=by
 refine PB Tryz.f99 H4.c [.tmp 4] ?_
 simp only[acO]at h0
 have F:=an dt.sh (an dt.ak (an dt.br (an dt.refs (an dt.imp (an dt.aV dt.un)))))
 try simp only[H4.c,F,go_sem]
 refine aj h0 (arF k _ iH fY dt f1 uu) ?_ (fun x1 h0=>?_) (fun _=>by simp[AV.aT,AV.refs,AV.cS,AV.leaf,dt.refs])<;>try simp only[F,go_sem]
 obtain rfl:=oi h0
 refine Ag rfl ?_
 try simp only[F,go_sem]
def G2.c:SC:=
 SQ [RG [wE 1 116 0 [0],wB 2 false 4 [2]],RG [wF 3 116 1 0 [1],wD 4 3 3 [3],wC 5 69 #[.tmp 4,.const (.int .i64 0),.const (.int .i64 601)] #[3,3,3] 4 [4],wQ 6 5 4 [5],wG 2 6 4 [6]],.ret]
def vV (k:Nat) (w0:As):Option (Bool):=
 (ja k w0.At 0 601).bind fun x1=>
 some (!x1)
theorem amI (k:Nat) (w0:As) (r:Bool) (h0:vV k w0=some r):Ay Tryz.prog 100 [.agg (As.c w0)] (fun y=>y=.bool r):=by
 refine PB Tryz.f100 G2.c [.tmp 2] ?_
 simp only[vV]at h0
 try simp only[G2.c,go_sem]
 refine aj h0 (nd k _ _ _) ?_ (fun x1 h0=>?_)<;>try simp only[go_sem]
 obtain rfl:=oi h0
 refine Ag rfl ?_
 try simp only[go_sem]
def HO.c:SC:=
 SQ [RG [wE 1 36 0 [0],wB 2 false 4 [2]],RG [wF 3 36 1 0,wD 4 33 3 [3],wL 5 4 33 3 [4],wK 6 .eql 3 5 602 3 4 [5],wV 7 6 4 [6],gd 7 true (wF 8 36 1 1),gd 7 true (wD 9 34 8 [8]),gd 7 true (wL 10 9 34 3 [9]),gd 7 true (wK 11 .leq 3 10 1200 3 4 [10]),wZ 12 7 11 4 [7,11],wV 13 12 4 [12],gd 13 true (wF 14 36 1 1 [1]),gd 13 true (wD 15 34 14 [14]),gd 13 true (wC 16 99 #[.tmp 15,.func 100] #[34,
 169] 4 [15]),gd 13 true (wQ 17 16 4 [16]),wZ 18 13 17 4 [13,17],wG 2 18 4 [18]],.ret]
def sf (k:Nat) (d0:Ad):Option (Bool):=
 bif decide ((d0.Aj.length:Int)=(602:Int)) then
  bif decide ((d0.Af.length:Int)<=(1200:Int)) then
   (acO k d0.Af (fun q0=>vV k q0)).bind fun x3=>
   some (!x3)
  else
   some false
 else
  some false
theorem abA (k:Nat) (d0:Ad) (r:Bool) (h0:sf k d0=some r):Ay Tryz.prog 71 [.agg (Ad.c d0)] (fun y=>y=.bool r):=by
 refine PB Tryz.f71 HO.c [.tmp 2] ?_
 simp only[sf]at h0
 try simp only[HO.c,go_sem]
 refine AP h0 ?_ ?_<;>intro c1 h0<;>have F:=c1<;>try simp only[F,go_sem]
 refine AF F h0 ?_ ?_<;>intro F h0<;>try simp only[F,go_sem]
 refine aj h0 (arC k _ 100 [] ⟨fun _=>rfl,fun _=>rfl,fun _ _=>rfl,rfl,fun _=>rfl,fun _=>rfl,fun _=>rfl⟩ (fun q0=>vV k q0) (fun q0 qr qh=>amI k q0 qr qh)) ?_ (fun x3 h0=>?_)<;>try simp only[F,go_sem]
 obtain rfl:=oi h0
 refine Ag rfl ?_
 try simp only[F,go_sem]
 obtain rfl:=oi h0
 refine Ag rfl ?_
 try simp only[F,go_sem]
 obtain rfl:=oi h0
 refine Ag rfl ?_
 try simp only[F,go_sem]
end Go.Abs
namespace Go.Abs
open Go Go.Proofs Go.RowKit Go.Lib
def Fv.c:SC:=
 SQ [RG [wE 2 99 0 [0],wE 3 3 1 [1],oQ 4 (.assign (.const .nilFunc)) 188 [4]],RG [oQ 5 (.makeFunc (.func 126) #[] #[.tmp 2,.tmp 3]) 187 [2,3],wG 4 5 188 [5]],.ret]
theorem Fv.rs:Tryz.f120.results.toList=[.tmp 4]:=rfl
def oJ (d:aF) (aX:Int):AV:=.fn (.func 126) [] [.aL 1 [[.aL 2 [aF.c d] 0 0]] 0 0,.aL 1 [[.int .i64 aX]] 0 0]
theorem aqW (d:aF) (aX:Int):CE Tryz.prog 120 [.aL 2 [aF.c d] 0 0,.int .i64 aX] [] (fun y fr H'=>y=.fn (.func 126) [] [.ptr 0 0 0,.ptr 0 1 0]/\fr=[(0,.box [.aL 2 [aF.c d] 0 0]),(1,.box [.int .i64 aX])]/\H'=[]):=by
 refine CE.gD AE (fn:=Tryz.f120) (sc:=Fv.c) (by rfl) (by rfl) (by decide +kernel) (by rfl) (by decide +kernel) (Nat.le_of_ble_eq_true rfl) ?_ (by rintro y fr H' ⟨_,_,rfl⟩;rfl)
 refine rS ?_
 simp only[Fv.c,go_sem]
 refine⟨_,by rw[Fv.rs];simp only[go_sem];rfl,.own [0,16] _ _ (by decide) (by decide) ?_ ?_ ⟨rfl,rfl,rfl⟩⟩
 ·simp only[cm,go_sem]
 ·simp only[lT,go_sem]
def sB (fm:FM) (w:World) (B:Nat):FM:=fun b o=>if B<=b then w.cell? ⟨b,o,none⟩ else fm b o
theorem agE {N0:Nat}{W0:World}{fm fm':FM}{ts:List Aw}{H:Heap}{w:World} (hr:HR N0 W0 fm ts H w) {c k:Nat}{x:AV} (hg:H.get 0 k=some (.box [x])) (ht:tb ts 0 k=some (.box c)) (hz:x.ak (fun _ _=>none)=some x)
  (hle:Bh fm fm') (hc:∀ o v,w.cell? ⟨c,o,none⟩=some v->fm' c o=some v):VR fm' [] (.aL 1 [[x]] 0 0) (.pointer (some ⟨c,0,none⟩)):=by
 have hb:=hr.aD 0 k _ hg
 rw[ht]at hb
 cases hb with
 |box _ _ hN hB=>
  obtain⟨cells,et,c1,c2,c3⟩:=hB
  obtain⟨u,h0⟩:∃ u,cells[0]?=some u:=⟨_,BV (by rw[c2];simp)⟩
  obtain⟨hf,hv⟩:=c3 0 x _ rfl h0
  have bG:w.cell? ⟨c,0,none⟩=some u:=by simp[World.cell?,c1,h0]
  have hX:VR fm [] x u:=(hr.vP (AG.one hv:AG fm ts [x] [u]) (ys:=[x]) (by simp only[AV.aQ,hz])).2 0 _ _ rfl rfl
  refine .aL [[x]] 0 0 c 0 1 (fun _ _=>u) ?_ ?_ ?_ ?_
  ·intro y hy
   rw[CS.1 hy];rfl
  all_goals
   intro i cc o y hi ho
   obtain⟨rfl,rfl⟩:i=0/\cc=[x]:=by
    cases i with
    |zero=>exact⟨rfl,(oi hi).symm⟩
    |succ i=>simp at hi
   obtain⟨rfl,rfl⟩:o=0/\y=x:=by
    cases o with
    |zero=>exact⟨rfl,(oi ho).symm⟩
    |succ o=>simp at ho
  ·exact hc 0 _ bG
  ·exact hf
  ·exact hX.mono hle (AD.refl _)
theorem amD (d:aF) (aX:Int):Ay Tryz.prog 120 [.aL 2 [aF.c d] 0 0,.int .i64 aX] (fun y=>y=oJ d aX):=by
 have hA:=aqW d aX
 refine⟨hA.1,fun fm w vs h1 h2=>Calls.mono (hA.2 w.heap.size w fm [] w vs (HR.nothing h1) (h2.mono (Bh.refl _) (AD.nil _))) ?_⟩
 rintro e w' ⟨v,av,aZ,H',fm',t',ts',rfl,⟨rfl,rfl,rfl⟩,_,cQ,bM,b9,_,_,_⟩
 have hle:Bh fm' (sB fm' w' w.heap.size):=fun b o v h=>by
  unfold sB
  split
  ·exact cQ.cV b o v h
  ·exact h
 have bT:D7 (sB fm' w' w.heap.size) w':=fun b o v h=>by
  unfold sB at h
  split at h
  ·exact h
  ·exact cQ.cV b o v h
 have apd:AU w.heap.size fm (sB fm' w' w.heap.size):=⟨fun b o v h=>hle b o v (b9.le b o v h),fun b o h=>by unfold sB;rw[if_neg (by omega)];exact b9.fix b o h⟩
 refine⟨v,oJ d aX,_,rfl,rfl,bT,?_,apd,cQ.dL⟩
 cases bM with
 |fn f first cap vf vc h1 h2 h3 h4=>
  refine .fn _ _ _ vf vc h1 (by simpa using h2) (by intro i x v h;simp at h) ?_
  intro i x v hx hv
  match i,hx,hv with
  |0,hx,hv=>
   obtain rfl:=oi hx
   have hp:=h4 0 _ v rfl hv
   cases hp with
   |ptr _ _ _ c aN=>exact agE cQ rfl aN rfl hle (fun o u hu=>by unfold sB;rw[if_pos];exact hu;exact(cQ.aD 0 0 _ rfl).lt (by rw[aN];rfl) |>.2)
  |1,hx,hv=>
   obtain rfl:=oi hx
   have hp:=h4 1 _ v rfl hv
   cases hp with
   |ptr _ _ _ c aN=>exact agE cQ rfl aN rfl hle (fun o u hu=>by unfold sB;rw[if_pos];exact hu;exact(cQ.aD 0 1 _ rfl).lt (by rw[aN];rfl) |>.2)
  |i+2,hx,hv=>simp at hx
def EM.s0:SC:=
 SQ [RG [wO 10 .lss 3 9 8 3 0],CN 10 .skip (.exit 0),.block 1 (SQ [RG [wI 11 38 7 9,wD 12 29 11 [11],wA 5 29,wS 29 5 12 [12]],RG [wF 13 29 5 0 [5],wF 14 27 13 0 [13],wD 15 3 14 [14],wI 16 55 3 15,wD 17 3 16 [16],wK 18 .add 3 17 1 3 3 [17],wI 19 55 3 15 [15],wS 3 19 18 [18,19]]]),RG [wK 20 .add 3 9 1 3 3 [9],wV 9 20 3 [20]]]
def EM.c:SC:=
 SQ [RG [wE 1 40 0 [0],wA 2 55],RG [wA 3 55],SQ [RG [wF 6 40 1 0 [1],wD 7 38 6 [6],wL 8 7 38 3,oQ 9 (.move (.const (.int .i64 0))) 3],.block 0 (.loop EM.s0)],RG [wD 21 55 3 [3],wS 55 2 21 [21]],.ret]
def fh.b0 (k:Nat) (b0:Ak):((Aa 6 Int)×Int)->Option (AN ((Aa 6 Int)×Int) ((Aa 6 Int)) ((Aa 6 Int))):=fun s=>match s with
 |(s1,i2)=>
   bif decide (i2<(b0.Ah.length:Int)) then
    (at? b0.Ah i2).bind fun x5=>
    (s1.at? x5.At.Ac).bind fun x6=>
    some (.next (s1.set x5.At.Ac (ab (x6+1)),ab (i2+1)))
   else
    some (.brk s1)
def fh.h0 (b0:Ak):((Aa 6 Int)×Int)->St:=fun s=>match s with
 |(s1,i2)=>⟨[(2,.ptr 0 0 0),(3,.ptr 0 1 0),(7,.sl 8 (List.map Ab.c b0.Ah)),(8,.int .i64 (b0.Ah.length:Int)),(9,.int .i64 i2)],[(0,.box (Aa.c (n:=6) eI (Aa.rep 6 (0:Int)))),(1,.box (Aa.c (n:=6) eI s1))],[],2,Tryz.f56.ntmps⟩
def fh.x0:(Aa 6 Int)->St:=fun s3=>⟨[(2,.ptr 0 0 0),(3,.ptr 0 1 0)],[(0,.box (Aa.c (n:=6) eI (Aa.rep 6 (0:Int)))),(1,.box (Aa.c (n:=6) eI s3))],[],2,Tryz.f56.ntmps⟩
def fh (k:Nat) (b0:Ak):Option ((Aa 6 Int)):=
 (ai (fh.b0 k b0) k ((Aa.rep 6 (0:Int)),0)).bind fun r8=>match r8 with
 |.next _=>none
 |.ret v_=>some v_
 |.brk s3=>
  some s3
theorem yB (k:Nat) (b0:Ak) (r:(Aa 6 Int)) (h0:fh k b0=some r):Ay Tryz.prog 56 [.agg (Ak.c b0)] (fun y=>y=.agg ((Aa.c (n:=6) eI) r)):=by
 refine PB Tryz.f56 EM.c [.cell 2 55] ?_
 simp only[fh]at h0
 try simp only[EM.c,go_sem]
 obtain⟨r8,oP,h0⟩:=bs h0
 refine A5 oP (fh.h0 b0) (fh.x0) ?_ ?_ ?_
 refine Al.go [2,3,7,8,9] [16,32] rfl ?_
 try simp only[fh.h0,go_sem]
 rintro⟨s1,i2⟩ bO Bd Ba h1 az ax bg
 refine rS ?_
 simp only[fh.b0]at h1
 try simp only[EM.s0,fh.h0,go_sem]
 refine AP h1 ?_ ?_<;>intro c4 h1<;>have F:=c4<;>try simp only[F,go_sem]
 obtain⟨x5,cn,h1⟩:=bs h1
 have F:=an (aI cn) (an (aH Ab.c cn) F)
 try simp only[F,go_sem]
 obtain⟨x6,dB,h1⟩:=bs h1
 have nN:=Ao.bh fg (Ao.self abf s1) dB
 have mg:=nN.2
 try simp only[AA,AB,go_sem]at mg
 have q7:=nN.1.ow (ab (x6+1))
 try simp only[AA,AB,go_sem]at q7
 have F:=an (aq dB) (an mg F)
 try simp only[q7,F,go_sem]
 refine Ax (az _ _ (oi h1).symm (Al.go [2,3,7,8,9] [0,1] rfl ?_))
 try simp only[fh.h0,F,go_sem]
 refine Ax (ax _ _ (oi h1).symm (Al.go [2,3] [0,1] rfl ?_))
 try simp only[fh.x0,F,go_sem]
 rintro s3 aA
 subst aA
 simp only at h0
 refine rS ?_
 try simp only[fh.x0,go_sem]
 obtain rfl:=oi h0
 refine Ag rfl ?_
 try simp only[go_sem]
def E6.c:SC:=
 SQ [RG [oQ 2 (.assign (.const (.slice none 0 0))) 38 [2]],SQ [RG [wV 3 0 38,oQ 4 (.binOp .eql 38 (.tmp 3) (.const (.slice none 0 0)) 38) 4 [3]],CN 4 (SQ [RG [oQ 2 (.assign (.const (.slice none 0 0))) 38],.ret]) .skip],RG [oQ 5 (.buildSlice 38 0 #[]) 38,wV 6 0 38 [0],wP 7 5 6 38 38 38 [5,6],wG 2 7 38 [7]],.ret]
theorem E6.rs:Tryz.f98.results.toList=[.tmp 2]:=rfl
def xS (k:Nat) (s0:(List Ab)):Option ((List Ab)):=
 (dI s0.length 72).bind fun _=>
 some s0
theorem ajZ (k:Nat) (s0:(List Ab)) (r:(List Ab)) (h0:xS k s0=some r):Bg Tryz.prog 98 [.sl 8 (List.map Ab.c s0)] [] (fun y fr=>y=.loc 0 0 8 0 r.length r.length/\fr=[(0,.arr 29 8 (List.map Ab.c r))]):=by
 have hr:=Bg.own (et:=29) (sz:=8) (ls:=List.map Ab.c r) (Bg.gD AE (f:=98) (fn:=Tryz.f98) (sc:=E6.c) (args:=[.sl 8 (List.map Ab.c s0)]) (fr0:=[]) (by rfl) (by rfl) (by decide +kernel) (by rfl) (by decide +kernel) (Nat.le_of_ble_eq_true rfl) (fun H=>?_))
 ·simpa only [Bu] using hr
 refine rS ?_
 simp only[xS]at h0
 try simp only[E6.c,go_sem]
 refine⟨fun he=>?_,?_⟩
 ·refine rS ?_
  try simp only[go_sem]
  obtain⟨u_,hu_,h0⟩:=bind_some h0
  obtain rfl:=oi h0
  refine C6 rfl ?_
  simp only[he,E6.rs,nE,Be,cm,AB,List.take_nil,go_sem]
  try simp
 ·refine rS ?_
  try simp only[go_sem]
  obtain⟨u1,iY,h0⟩:=bind_some h0
  try simp only[jv iY,go_sem]
  obtain rfl:=oi h0
  refine C6 rfl ?_
  try simp only[E6.rs,nE,Be,cm,um,we,AY,BA,go_sem]
def HQ.c:SC:=
 SQ [RG [wE 1 40 0 [0],wA 2 40],RG [wF 3 40 1 0 [1],wD 4 38 3 [3],wU 5 98 4 38 38 [4],oQ 6 (.build 40 #[(0,.tmp 5)]) 40 [5],wS 40 2 6 [6]],.ret]
def vS (k:Nat) (b0:Ak):Option (Ak):=
 (xS k b0.Ah).bind fun x2=>
 some (⟨x2⟩:Ak)
theorem agp (k:Nat) (b0:Ak) (r:Ak) (h0:vS k b0=some r):Ay Tryz.prog 76 [.agg (Ak.c b0)] (fun y=>y=.agg (Ak.c r)):=by
 refine PB Tryz.f76 HQ.c [.cell 2 40] ?_
 simp only[vS]at h0
 try simp only[HQ.c,go_sem]
 obtain⟨x2,dJ,h0⟩:=bs h0
 refine CJ AE 1000 [] [] (ajZ k _ _ dJ) ?_ rfl ?_
 try simp only[fB,Bu,go_sem]
 try simp only[go_sem]
 obtain rfl:=oi h0
 refine Ag rfl ?_
 try simp only[go_sem]
def EB.s0:SC:=
 SQ [SQ [RG [wV 15 9 3,wV 16 10 3,wO 17 .lss 3 15 16 3 4 [15,16]],CN 17 .skip (.exit 0)],.block 1 (SQ [RG [wV 18 9 3,wV 19 10 3,wO 20 .add 3 18 19 3 3 [18,19],wY 21 3 172 20 172 [20],oQ 22 (.binOp .shr 172 (.tmp 21) (.const (.int .u64 1)) 172) 172 [21],wY 23 172 3 22 3 [22],wG 11 23 3 [23]],.aS [wV 24 2 184,wV 25 0 38,wV 26 11 3,wI 27 38 25 26,wD 28 29 27,wD 29 27 4,
 oQ 30 (.call ⟨.value (.tmp 24),#[.tmp 28,.tmp 29],#[29,27]⟩) 3,wK 31 .lss 3 30 0 3 4] [[],[],[],[1,2],[1,2,3],[],[0,1,2,3,4,5],[0,1,2,3,4,5,6]] [24,25,26,27,28,29,30],CN 31 (RG [wV 32 11 3 [11],wK 33 .add 3 32 1 3 3 [32],wG 9 33 3 [33]]) (RG [wV 34 11 3 [11],wG 10 34 3 [34]])])]
def EB.c:SC:=
 SQ [RG [wE 4 27 1 [1],wN 6 0 3 [6],wB 7 false 4 [7]],RG [wV 12 0 38,wL 13 12 38 3 [12],wG 8 13 3 [13]],RG [wV 14 8 3,wN 9 0 3,wG 10 14 3 [14]],.block 0 (.loop EB.s0),.aS [wV 35 9 3,wV 36 9 3,wV 37 8 3,wO 38 .lss 3 36 37 3 4,wV 39 38 4,gd 39 true (wV 40 2 184),gd 39 true (wV 41 0 38),gd 39 true (wV 42 9 3),gd 39 true (wI 43 38 41 42),gd 39 true (wD 44 29 43),gd 39 true (wD 45 27 4),
 gd 39 true (oQ 46 (.call ⟨.value (.tmp 40),#[.tmp 44,.tmp 45],#[29,27]⟩) 3),gd 39 true (wK 47 .eql 3 46 0 3 4),wZ 48 39 47 4,wG 6 35 3,wG 7 48 4] [[],[],[],[1,2],[1,2,3],[1,2,3,4],[1,2,3,4],[1,2,3,4],[1,2,3,4,6,7],[1,2,3,4,6,7,8],[1,2,3,4],[1,2,3,4,5,6,7,8,9,10],[1,2,3,4,5,6,7,8,9,10,11],[1,2,3,4,5,6,7,8,9,10,11,12],[0,1,2,3,4,5,6,7,8,9,10,11],[1,2,3,4,5,6,7,8,9,10,11,12,13,0,14]] [0,2,4,8,9,35,
 36,37,38,39,40,41,42,43,44,45,46,47,48],.ret]
def gE.b0 (k:Nat) (ui:Ab->Entry->Option (Int)) (x0:(List Ab)) (kZ:Entry):(Int×Int)->Option (AN (Int×Int) (Int) (Int×Bool)):=fun s=>match s with
 |(i1,i2)=>
   bif decide (i1<i2) then
    (at? x0 (ab (Int.fdiv (IntKind.u64.wrap (ab (i1+i2))) (2 ^ 1)))).bind fun x5=>
    (ui x5 kZ).bind fun x6=>
    bif decide (x6<(0:Int)) then
     some (.next (ab ((ab (Int.fdiv (IntKind.u64.wrap (ab (i1+i2))) (2 ^ 1)))+1),i2))
    else
     some (.next (i1,ab (Int.fdiv (IntKind.u64.wrap (ab (i1+i2))) (2 ^ 1))))
   else
    some (.brk i1)
def gE.h0 (sr:Nat) (qp:List AV) (x0:(List Ab)) (kZ:Entry):(Int×Int)->St:=fun s=>match s with
 |(i1,i2)=>⟨[(0,.sl 8 (List.map Ab.c x0)),(2,.fn (.func sr) [] qp),(4,.ptr 0 0 0),(8,.int .i64 (x0.length:Int)),(9,.int .i64 i1),(10,.int .i64 i2)],[(0,.box ([.int .i64 kZ.Ac,.int .i64 kZ.No]))],[],1,Tryz.f114.ntmps⟩
def gE.x0 (sr:Nat) (qp:List AV) (x0:(List Ab)) (kZ:Entry):Int->St:=fun i3=>⟨[(0,.sl 8 (List.map Ab.c x0)),(2,.fn (.func sr) [] qp),(4,.ptr 0 0 0),(8,.int .i64 (x0.length:Int)),(9,.int .i64 i3)],[(0,.box ([.int .i64 kZ.Ac,.int .i64 kZ.No]))],[],1,Tryz.f114.ntmps⟩
def gE (k:Nat) (x0:(List Ab)) (kZ:Entry) (ui:Ab->Entry->Option (Int)):Option (Int×Bool):=
 (ai (gE.b0 k ui x0 kZ) k (0,(x0.length:Int))).bind fun r8=>match r8 with
 |.next _=>none
 |.ret v_=>some v_
 |.brk i3=>
  bif decide (i3<(x0.length:Int)) then
   (at? x0 i3).bind fun dz=>
   (ui dz kZ).bind fun bN=>
   some (i3,decide (bN=(0:Int)))
  else
   some (i3,false)
theorem ary (k:Nat) (x0:(List Ab)) (kZ:Entry) (sr:Nat) (qp:List AV) (qq:Ch qp) (ui:Ab->Entry->Option (Int)) (agH:∀ q0 q1 qr,ui q0 q1=some qr->Ay Tryz.prog sr (.agg (Ab.c q0)::.agg (Entry.c q1)::qp) (fun y=>y=.int .i64 qr)) (r:Int×Bool) (h0:gE k x0 kZ ui=some r):Ay Tryz.prog 114 [.sl 8 (List.map Ab.c x0),.agg (Entry.c kZ),.fn (.func sr) [] qp] (fun y=>y=.aw [.int .i64 r.1,.bool r.2]):=by
 refine PB Tryz.f114 EB.c [.tmp 6,.tmp 7] ?_
 simp only[gE]at h0
 have F:=an qq.sh (an qq.ak (an qq.br (an qq.refs (an qq.imp (an qq.aV qq.un)))))
 try simp only[EB.c,F,go_sem]
 obtain⟨r8,oP,h0⟩:=bs h0
 refine A5 oP (gE.h0 sr qp x0 kZ) (gE.x0 sr qp x0 kZ) ?_ ?_ ?_
 refine Al.go [0,2,4,8,9,10] [0] rfl ?_
 try simp only[gE.h0,F,go_sem]
 rintro⟨i1,i2⟩ bO Bd Ba h1 az ax bg
 refine rS ?_
 simp only[gE.b0]at h1
 try simp only[EB.s0,gE.h0,F,go_sem]
 refine AF F h1 ?_ ?_<;>intro F h1<;>try simp only[F,go_sem]
 try simp only[(@id (min (Int.toNat 1) 64=1) rfl),F,go_sem]
 refine AL AE aO 1000 ?_
 try simp only[F,go_sem]
 obtain⟨x5,cn,h1⟩:=bs h1
 have F:=an (aI cn) (an (aH Ab.c cn) F)
 try simp only[F,go_sem]
 refine bJ h1 (agH _ _) ?_ (fun x6 h1=>?_) (fun _=>by simp[AV.aT,AV.refs,AV.cS,AV.leaf,qq.refs])<;>try simp only[F,go_sem]
 refine aG ?_
 try simp only[F,go_sem]
 refine AF F h1 ?_ ?_<;>intro F h1<;>try simp only[F,go_sem]
 refine Ax (az _ _ (oi h1).symm (Al.go [0,2,4,8,9,10] [0] rfl ?_))
 try simp only[gE.h0,F,go_sem]
 refine Ax (az _ _ (oi h1).symm (Al.go [0,2,4,8,9,10] [0] rfl ?_))
 try simp only[gE.h0,F,go_sem]
 refine Ax (ax _ _ (oi h1).symm (Al.go [0,2,4,8,9] [0] rfl ?_))
 try simp only[gE.x0,F,go_sem]
 rintro i3 aA
 subst aA
 simp only at h0
 refine rS ?_
 try simp only[gE.x0,F,go_sem]
 refine AL AE aO 1000 ?_
 try simp only[F,go_sem]
 refine DF F h0 ?_ ?_<;>intro F h0<;>try simp only[F,go_sem]
 obtain⟨dz,lg,h0⟩:=bs h0
 have F:=an (aI lg) (an (aH Ab.c lg) F)
 try simp only[F,go_sem]
 refine bJ h0 (agH _ _) ?_ (fun bN h0=>?_) (fun _=>by simp[AV.aT,AV.refs,AV.cS,AV.leaf,qq.refs])<;>try simp only[F,go_sem]
 refine aG ?_
 try simp only[F,go_sem]
 obtain rfl:=oi h0
 refine Ag rfl ?_
 try simp only[F,go_sem]
 refine aG ?_
 try simp only[F,go_sem]
 obtain rfl:=oi h0
 refine Ag rfl ?_
 try simp only[F,go_sem]
def EE.s0:SC:=
 SQ [RG [wO 9 .lss 3 8 7 3 0],CN 9 .skip (.exit 0),.block 1 (SQ [RG [wI 10 58 6 8,wD 11 3 10 [10],wG 5 11 3 [11]],RG [wV 12 5 3,wV 13 3 3,wO 14 .neq 3 12 13 3 4 [12,13]],CN 14 (SQ [RG [wV 15 5 3 [5],wG 2 15 3 [15]],.ret]) .skip]),RG [wK 16 .add 3 8 1 3 3 [8],wV 8 16 3 [16]]]
def EE.c:SC:=
 SQ [RG [wN 2 0 3 [2]],RG [wN 3 0 3],SQ [RG [wV 6 0 58 [0],wL 7 6 58 3,oQ 8 (.move (.const (.int .i64 0))) 3],.block 0 (.loop EE.s0)],RG [wV 17 3 3 [3],wG 2 17 3 [17]],.ret]
def iA.b0 (k:Nat) (oM:(List Int)):Int->Option (AN (Int) (Unit) (Int)):=fun i1=>
 bif decide (i1<(oM.length:Int)) then
  (at? oM i1).bind fun x3=>
  bif (!decide (x3=(0:Int))) then
   some (.ret x3)
  else
   some (.next (ab (i1+1)))
 else
  some (.brk ())
def iA.h0 (oM:(List Int)):Int->St:=fun i1=>⟨[(3,.int .i64 0),(6,.sl 1 (List.map eI oM)),(7,.int .i64 (oM.length:Int)),(8,.int .i64 i1)],[],[],1,Tryz.f123.ntmps⟩
def iA.x0:Unit->St:=fun _=>⟨[(3,.int .i64 0)],[],[],1,Tryz.f123.ntmps⟩
def iA (k:Nat) (oM:(List Int)):Option (Int):=
 (ai (iA.b0 k oM) k 0).bind fun r5=>match r5 with
 |.next _=>none
 |.ret v_=>some v_
 |.brk _=>
  some 0
theorem am7 (k:Nat) (oM:(List Int)) (r:Int) (h0:iA k oM=some r):Ay Tryz.prog 123 [.sl 1 (List.map eI oM)] (fun y=>y=.int .i64 r):=by
 refine PB Tryz.f123 EE.c [.tmp 2] ?_
 simp only[iA]at h0
 try simp only[EE.c,go_sem]
 obtain⟨r5,yr5,h0⟩:=bs h0
 refine A5 yr5 (iA.h0 oM) (iA.x0) ?_ ?_ ?_
 refine Al.go [3,6,7,8] [] rfl ?_
 try simp only[iA.h0,go_sem]
 rintro i1 bO Bd Ba h1 az ax bg
 refine rS ?_
 simp only[iA.b0]at h1
 try simp only[EE.s0,iA.h0,go_sem]
 refine AP h1 ?_ ?_<;>intro c2 h1<;>have F:=c2<;>try simp only[F,go_sem]
 obtain⟨x3,cv,h1⟩:=bs h1
 have F:=an (aI cv) (an (aH eI cv) F)
 try simp only[F,go_sem]
 refine A7 F h1 ?_ ?_<;>intro F h1<;>try simp only[F,go_sem]
 obtain rfl:=bg _ (oi h1).symm
 simp only at h0
 obtain rfl:=oi h0
 refine Ag rfl ?_
 try simp only[F,go_sem]
 refine Ax (az _ _ (oi h1).symm (Al.go [3,6,7,8] [] rfl ?_))
 try simp only[iA.h0,F,go_sem]
 refine Ax (ax _ _ (oi h1).symm (Al.go [3] [] rfl ?_))
 try simp only[iA.x0,F,go_sem]
 rintro _ aA
 subst aA
 simp only at h0
 refine rS ?_
 try simp only[iA.x0,go_sem]
 obtain rfl:=oi h0
 refine Ag rfl ?_
 try simp only[go_sem]
def Hg.c:SC:=
 SQ [RG [wB 2 false 4 [2]],RG [wV 3 0 3,wV 4 0 3 [0],wO 5 .neq 3 3 4 3 4 [3,4],wG 2 5 4 [5]],.ret]
def cmp_isNaN_int (k:Nat) (x0:Int):Option (Bool):=
 some false
theorem agJ (k:Nat) (x0:Int) (r:Bool) (h0:cmp_isNaN_int k x0=some r):Ay Tryz.prog 129 [.int .i64 x0] (fun y=>y=.bool r):=by
 refine PB Tryz.f129 Hg.c [.tmp 2] ?_
 simp only[cmp_isNaN_int]at h0
 try simp only[Hg.c,go_sem]
 obtain rfl:=oi h0
 refine Ag rfl ?_
 try simp only[go_sem]
def Hd.c:SC:=
 SQ [RG [wN 4 0 3 [4]],RG [wV 7 0 3,wU 8 129 7 3 4 [7],wG 5 8 4 [8]],RG [wV 9 1 3,wU 10 129 9 3 4 [9],wG 6 10 4 [10]],SQ [RG [wV 11 5 4 [5]],CN 11 (SQ [SQ [RG [wV 12 6 4 [6]],CN 12 (SQ [RG [wN 4 0 3],.ret]) .skip],RG [wN 4 (-1) 3],.ret]) .skip],SQ [RG [wV 13 6 4 [6]],CN 13 (SQ [RG [wN 4 1 3],.ret]) .skip],SQ [RG [wV 14 0 3,wV 15 1 3,wO 16 .lss 3 14 15 3 4 [14,15]],CN 16 (SQ [RG [wN 4 (-1) 3],
 .ret]) .skip],SQ [RG [wV 17 0 3 [0],wV 18 1 3 [1],wO 19 .gtr 3 17 18 3 4 [17,18]],CN 19 (SQ [RG [wN 4 1 3],.ret]) .skip],RG [wN 4 0 3],.ret]
def v8 (k:Nat) (x0:Int) (y1:Int):Option (Int):=
 (cmp_isNaN_int k x0).bind fun x1=>
 (cmp_isNaN_int k y1).bind fun x2=>
 bif x1 then
  bif x2 then
   some 0
  else
   some (-1)
 else
  bif x2 then
   some 1
  else
   bif decide (x0<y1) then
    some (-1)
   else
    bif decide (y1<x0) then
     some 1
    else
     some 0
theorem agI (k:Nat) (x0:Int) (y1:Int) (r:Int) (h0:v8 k x0 y1=some r):Ay Tryz.prog 124 [.int .i64 x0,.int .i64 y1] (fun y=>y=.int .i64 r):=by
 refine PB Tryz.f124 Hd.c [.tmp 4] ?_
 simp only[v8]at h0
 try simp only[Hd.c,go_sem]
 refine aj h0 (agJ k _) ?_ (fun x1 h0=>?_)<;>try simp only[go_sem]
 refine aj h0 (agJ k _) ?_ (fun x2 h0=>?_)<;>try simp only[go_sem]
 refine AP h0 ?_ ?_<;>intro c3 h0<;>have F:=c3<;>try simp only[F,go_sem]
 refine AF F h0 ?_ ?_<;>intro F h0<;>try simp only[F,go_sem]
 obtain rfl:=oi h0
 refine Ag rfl ?_
 try simp only[F,go_sem]
 obtain rfl:=oi h0
 refine Ag rfl ?_
 try simp only[F,go_sem]
 refine AF F h0 ?_ ?_<;>intro F h0<;>try simp only[F,go_sem]
 obtain rfl:=oi h0
 refine Ag rfl ?_
 try simp only[F,go_sem]
 refine AF F h0 ?_ ?_<;>intro F h0<;>try simp only[F,go_sem]
 obtain rfl:=oi h0
 refine Ag rfl ?_
 try simp only[F,go_sem]
 refine AF F h0 ?_ ?_<;>intro F h0<;>try simp only[F,go_sem]
 obtain rfl:=oi h0
 refine Ag rfl ?_
 try simp only[F,go_sem]
 obtain rfl:=oi h0
 refine Ag rfl ?_
 try simp only[F,go_sem]
def Hc.c:SC:=
 SQ [RG [wE 2 27 0 [0],wE 3 27 1 [1],wN 4 0 3 [4]],.aS [wF 5 27 2 0,wD 6 3 5,wF 7 27 3 0,wD 8 3 7,wW 9 124 6 8 3 3 3,wF 10 27 2 1,wD 11 3 10,wF 12 27 3 1,wD 13 3 12,wW 14 124 11 13 3 3 3,oQ 15 (.buildSlice 58 2 #[(0,.tmp 9),(1,.tmp 14)]) 58,wU 16 123 15 58 3,wG 4 16 3] [[],[0],[],[2],[0,1,2,3],[],[5],[],[7],[5,6,7,8,0,1,2,3,4],[0,1,2,3,4,5,6,7,8,9],[0,1,2,3,4,5,6,7,8,9,10],[0,1,2,3,4,5,6,7,8,9,
 10,11]] [2,3,5,6,7,8,9,10,11,12,13,14,15,16],.ret]
def yx (k:Nat) (a0:Entry) (b1:Entry):Option (Int):=
 (v8 k a0.Ac b1.Ac).bind fun x1=>
 (v8 k a0.No b1.No).bind fun x2=>
 (iA k [x1,x2]).bind fun x3=>
 some x3
theorem amB (k:Nat) (a0:Entry) (b1:Entry) (r:Int) (h0:yx k a0 b1=some r):Ay Tryz.prog 116 [.agg (Entry.c a0),.agg (Entry.c b1)] (fun y=>y=.int .i64 r):=by
 refine PB Tryz.f116 Hc.c [.tmp 4] ?_
 simp only[yx]at h0
 try simp only[Hc.c,go_sem]
 refine AL AE aO 1000 ?_
 try simp only[go_sem]
 refine bJ h0 (agI k _ _) ?_ (fun x1 h0=>?_)<;>try simp only[go_sem]
 refine bJ h0 (agI k _ _) ?_ (fun x2 h0=>?_)<;>try simp only[go_sem]
 refine bJ h0 (am7 k _) ?_ (fun x3 h0=>?_)<;>try simp only[go_sem]
 refine aG ?_
 try simp only[go_sem]
 obtain rfl:=oi h0
 refine Ag rfl ?_
 try simp only[go_sem]
def Hb.c:SC:=
 SQ [RG [wE 2 29 0 [0],wE 3 27 1 [1],wN 4 0 3 [4]],RG [wF 5 29 2 0 [2],wD 6 27 5 [5],wD 7 27 3 [3],wW 8 116 6 7 27 27 3 [6,7],wG 4 8 3 [8]],.ret]
def sa (k:Nat) (r0:Ab) (x1:Entry):Option (Int):=
 (yx k r0.At x1).bind fun x2=>
 some x2
theorem amG (k:Nat) (r0:Ab) (x1:Entry) (r:Int) (h0:sa k r0 x1=some r):Ay Tryz.prog 115 [.agg (Ab.c r0),.agg (Entry.c x1)] (fun y=>y=.int .i64 r):=by
 refine PB Tryz.f115 Hb.c [.tmp 4] ?_
 simp only[sa]at h0
 try simp only[Hb.c,go_sem]
 refine aj h0 (amB k _ _) ?_ (fun x2 h0=>?_)<;>try simp only[go_sem]
 obtain rfl:=oi h0
 refine Ag rfl ?_
 try simp only[go_sem]
def H3.c:SC:=
 SQ [RG [wE 2 40 0 [0],wE 3 27 1 [1],wN 4 0 3 [4],wB 5 false 4 [5]],RG [wF 6 40 2 0 [2],wD 7 38 6 [6],wD 8 27 3 [3],wC 9 114 #[.tmp 7,.tmp 8,.func 115] #[38,27,184] 165 [7,8],wX 10 9 0 3,wX 11 9 1 4 [9],wG 4 10 3 [10],wG 5 11 4 [11]],.ret]
def yA (k:Nat) (b0:Ak) (jQ:Entry):Option (Int×Bool):=
 (gE k b0.Ah jQ (fun q0 q1=>sa k q0 q1)).bind fun x1=>
 some (x1.1,x1.2)
theorem amH (k:Nat) (b0:Ak) (jQ:Entry) (r:Int×Bool) (h0:yA k b0 jQ=some r):Ay Tryz.prog 96 [.agg (Ak.c b0),.agg (Entry.c jQ)] (fun y=>y=.aw [.int .i64 r.1,.bool r.2]):=by
 refine PB Tryz.f96 H3.c [.tmp 4,.tmp 5] ?_
 simp only[yA]at h0
 try simp only[H3.c,go_sem]
 refine aj h0 (ary k _ _ 115 [] ⟨fun _=>rfl,fun _=>rfl,fun _ _=>rfl,rfl,fun _=>rfl,fun _=>rfl,fun _=>rfl⟩ (fun q0 q1=>sa k q0 q1) (fun q0 q1 qr qh=>amG k q0 q1 qr qh)) ?_ (fun x1 h0=>?_)<;>try simp only[go_sem]
 obtain rfl:=oi h0
 refine Ag rfl ?_
 try simp only[go_sem]
end Go.Abs
namespace Go.Abs
open Go Go.Proofs Go.RowKit Go.Lib
theorem acE {P:Program} (w:World) (dT sT ty elem:TypeId) (z b o adB anp:Nat) (a:Addr) (dx fQ:Nat) (cs:List Value)
  (hu:P.underlying dT=some (.slice elem)) (hs:(P.info? elem).map (·.size)=some z) (hn:cs.length=Nat.min dx adB*z)
  (zV:∀ j v,cs[j]?=some v->w.cell? (a.add j)=some v) (hc:∀ j,j<cs.length->(w.cell? ⟨b,o+j,none⟩).isSome=true) (hf:∀ j,j<cs.length->w.frozen? ⟨b,o+j,none⟩=false) (h1:∀ v∈cs,v.oneCell'=true):
  (Builtin.copy_ #[dT,sT] ty #[.slice (some ⟨b,o,none⟩) adB anp,.slice (some a) dx fQ]).run P w=.ok (goInt (Nat.min dx adB)) (w.setCells b o cs):=by
 have hl:=run_loadCells_list (P:=P) w a cs zV
 have gY:=run_storeCells_cells (P:=P) b o cs 0 w (by simpa using hc) (by simpa using hf) h1
 cases hq:P.info? elem with
 |none=>simp[hq]at hs
 |some i=>
  have hi:i.size=z:=by simpa [hq] using hs
  simp[Builtin.copy_,run_underlying hu,Builtin.lenOf,Builtin.firstCells,sizeOf,typeInfo,hq,hi,<-hn,hl,gY]
theorem apm (b n c i vb nO vc:Nat) (cs vs:List Value) (w:World) (hi:i<n) (qT:n+1<=c) (asQ:c<=9223372036854775807) (hvb:vb≠b) (cG:cs.length=n*8) (pI:vs.length=8)
  (gg:∀ j v,cs[j]?=some v->w.cell? ⟨b,j,none⟩=some v) (pG:∀ j,j<(n+1)*8->(w.cell? ⟨b,j,none⟩).isSome=true) (oc:∀ j,j<(n+1)*8->w.frozen? ⟨b,j,none⟩=false)
  (bq:∀ j v,vs[j]?=some v->w.cell? ⟨vb,nO+j,none⟩=some v) (qD:∀ v∈cs,v.oneCell'=true) (wM:∀ v∈vs,v.oneCell'=true)
  (tA tB:TypeId) (kA kB:Nat) (hsa:w.shape? vb=some (tA,kA)) (zT:w.shape? b=some (tB,kB)) (hkB:kB≠0) (hfa:w.frozen? ⟨vb,nO,none⟩=false) (hfe:w.frozen? ⟨vb,kA,none⟩=false):
  Calls Tryz.prog 97 #[.slice (some ⟨b,0,none⟩) n c,.int .i64 i,.slice (some ⟨vb,nO,none⟩) 1 vc] w fun e w'=>
   e=.returned (.slice (some ⟨b,0,none⟩) (n+1) c)/\w'=(w.drew.setCells b ((i+1)*8) (cs.drop (i*8))).setCells b (i*8) vs:=by
 have t44:Tryz.prog.underlying 38=some (.slice 29):=by rfl
 have aC:(Tryz.prog.info? 29).map (·.size)=some 8:=by rfl
 have hz2:¬ ((i:Int)=(n:Int)):=by omega
 have gk:IntKind.i64.wrap ((i:Int)+1)=(i:Int)+1:=by rw[IntKind.wrap_i64];omega
 have uU:IntKind.i64.wrap ((n:Int)+1)=(n:Int)+1:=by rw[IntKind.wrap_i64];omega
 have jj:(0:Int)<=(i:Int)+1:=by omega
 have bT:i<=n:=by omega
 have htn:((i:Int)+1).toNat=i+1:=by omega
 have as0:((n:Int)+1).toNat=n+1:=by omega
 have kK:¬ (c=i+1):=by omega
 have hb4:¬ (c=i):=by omega
 have hrc:¬ ((c:Int)<(n:Int)+1):=by omega
 have aer:Tryz.f97.ntmps=95:=by rfl
 have hb3:(i:Int)<=(n:Int)+1:=by omega
 have mixed:=aO
 have hz8:∀ w,(Go.sizeOf 29).run Tryz.prog w=.ok 8 w:=fun _=>by rfl
 have hov:∀ lb cb,(callFunc 117 #[.slice (some ⟨vb,nO,none⟩) 1 vc,.slice (some ⟨b,(i+1)*8,none⟩) lb cb]).run Tryz.prog w=.ok (.value (.bool false)) w:=fun lb cb=>by
  rw[run_callFunc_extern (fn:=Tryz.f117) (by rfl) (by kernel_rfl) (by kernel_rfl) (by kernel_rfl) (e:=Extern.SlicesOverlaps.overlaps #[38,38] #[4]) (by kernel_rfl),
   Lib.run_overlaps_apart w 38 4 29 t44 8 hz8 ⟨vb,nO,none⟩ ⟨b,(i+1)*8,none⟩ 1 vc lb cb hvb tA tB kA kB hsa zT hkB hfa hfe]
  rfl
 have zn:(cs.drop (i*8)).length=(n - i)*8:=by rw[Bt,cG,Nat.sub_mul]
 have aij:Nat.min (n+1 - i) (n - i)=n - i:=by simp only[Nat.min_def];split<;>omega
 have zF:Nat.min 1 (n+1 - i)=1:=by simp only[Nat.min_def];split<;>omega
 have uN:∀ j,j<(cs.drop (i*8)).length->(i+1)*8+j<(n+1)*8:=fun j hj=>by rw[zn]at hj;omega
 have ah5:∀ ty dc sc,(Builtin.copy_ #[38,38] ty #[.slice (some ⟨b,(i+1)*8,none⟩) (n - i) dc,.slice (some ⟨b,i*8,none⟩) (n+1 - i) sc]).run Tryz.prog w.drew=.ok (goInt ((n - i:Nat):Int)) (w.drew.setCells b ((i+1)*8) (cs.drop (i*8))):=fun ty dc sc=>by
  have:=acE (P:=Tryz.prog) w.drew 38 38 ty 29 8 b ((i+1)*8) (n - i) dc ⟨b,i*8,none⟩ (n+1 - i) sc (cs.drop (i*8)) t44 aC (by rw[zn,aij])
   (fun j v hj=>by rw[Addr.add_lit];exact gg (i*8+j) v (by rwa [Cu]at hj))
   (fun j hj=>pG _ (uN j hj)) (fun j hj=>oc _ (uN j hj)) (fun v hv=>qD v (Cj hv))
  rw[aij]at this
  exact this
 obtain⟨W1,jh⟩:∃ W1,W1=w.drew.setCells b ((i+1)*8) (cs.drop (i*8)):=⟨_,rfl⟩
 have ao4:∀ k,k<(n+1)*8->(W1.cell? ⟨b,k,none⟩).isSome=true:=fun k hk=>by
  rw[jh]
  exact isSome_setCells b _ _ w.drew (fun j hj=>pG _ (uN j hj)) _ (pG k hk)
 have aow:∀ (W:World),(∀ x,W.cell? x=W1.cell? x)->(∀ x,W.frozen? x=W1.frozen? x)->∀ ty dc,(Builtin.copy_ #[38,38] ty #[.slice (some ⟨b,i*8,none⟩) (n+1 - i) dc,.slice (some ⟨vb,nO,none⟩) 1 vc]).run Tryz.prog W=.ok (goInt 1) (W.setCells b (i*8) vs):=fun W sF ze ty dc=>by
  have:=acE (P:=Tryz.prog) W 38 38 ty 29 8 b (i*8) (n+1 - i) dc ⟨vb,nO,none⟩ 1 vc vs t44 aC (by rw[pI,zF])
   (fun j v hj=>by
    rw[Addr.add_lit,sF,jh,World.cell?_setCells_out b _ _ _ _ (fun h _=>absurd h hvb)]
    exact bq j v hj)
   (fun j hj=>by rw[sF];exact ao4 _ (by omega)) (fun j hj=>by rw[ze,jh,World.frozen?_setCells];exact oc _ (by omega)) wM
  rw[zF]at this
  exact this
 rw[<-jh]at ah5
 go_enter (show Tryz.prog.funcs[97]?=some Tryz.f97 from by rfl),aer
 go_wp2_with (simp only[hov])
 go_region_law_o (refine step_copy_runI rfl _ _ 38 38 rfl _ _ (by simp[Act.eval,Act.put]) (by simp[Act.eval,Act.put]) (ah5 _ _ _) ?_)
 go_wp2_with (at_builtin;refine wpList_copy_runI _ rfl _ _ 38 38 rfl _ _ rfl rfl (aow _ (fun _=>rfl) (fun _=>rfl) _ _) ?_)
 go_ret
 first|exact⟨rfl,rfl⟩|exact⟨rfl,by rw[jh]⟩
def jy:Value:=.agg #[.int .i64 0,.int .i64 0,.int .i64 0,.int .i64 0,.int .i64 0,.int .i64 0,.int .i64 0,.string ⟨#[]⟩]
theorem apj (b n c i vb nO vc:Nat) (cs vs:List Value) (w:World) (hi:i<n) (bU:n<=c) (qT:c<n+1) (aoq:(n+1)*72<=140737488355328) (cG:cs.length=n*8) (pI:vs.length=8)
  (gg:∀ j v,cs[j]?=some v->w.cell? ⟨b,j,none⟩=some v) (bq:∀ j v,vs[j]?=some v->w.cell? ⟨vb,nO+j,none⟩=some v) (qD:∀ v∈cs,v.oneCell'=true) (wM:∀ v∈vs,v.oneCell'=true):
  Calls Tryz.prog 97 #[.slice (some ⟨b,0,none⟩) n c,.int .i64 i,.slice (some ⟨vb,nO,none⟩) 1 vc] w fun e w'=>
   e=.returned (.slice (some ⟨w.heap.size,0,none⟩) (n+1) (grownCap w (n+1) c 29))/\
   w'=(((w.alloc (.cells ((cs.take (i*8)).toArray++Builtin.zeroCells jy.cells (n+1 - i)++Builtin.zeroCells jy.cells (grownCap w (n+1) c 29 - (n+1))) 29)).drew.setCells w.heap.size (i*8) vs).drew).setCells w.heap.size ((i+1)*8) (cs.drop (i*8)):=by
 have t44:Tryz.prog.underlying 38=some (.slice 29):=by rfl
 have t3:Tryz.prog.underlying 3=some (.int .i64):=by rfl
 have aC:(Tryz.prog.info? 29).map (·.size)=some 8:=by rfl
 obtain⟨i0,xf,hz0,mN,sY⟩:∃ i0,Tryz.prog.info? 29=some i0/\i0.zero=some jy/\i0.size=8/\i0.bytes=72:=⟨_,rfl,rfl,rfl,rfl⟩
 have mixed:=aO
 have aer:Tryz.f97.ntmps=95:=by rfl
 have hz2:¬ ((i:Int)=(n:Int)):=by omega
 have hz3:(c:Int)<(n:Int)+1:=by omega
 have mF:b<w.heap.size:=by
  have:=block_lt_of_cell (gg 0 _ (gG (by omega)));exact this
 have hvw:vb<w.heap.size:=by
  have:=block_lt_of_cell (bq 0 _ (gG (by omega)));exact this
 have eC:(n:Int)+1 - (i:Int)=((n+1 - i:Nat):Int):=by omega
 have hik:i+(n+1 - i)=n+1:=by omega
 have hold:(Builtin.firstCells i0.size i (.slice (some ⟨b,0,none⟩) i c)).run Tryz.prog w.drew=.ok (cs.take (i*8)).toArray w.drew:=by
  rw[mN]
  exact run_firstCells_some w.drew 8 i ⟨b,0,none⟩ i c (cs.take (i*8)) (by rw[A8];omega) (fun j v hj=>by
   rw[Addr.add_lit,CA]
   rw[Ca]at hj
   split at hj
   ·exact gg j v hj
   ·cases hj)
 have hrz:∀ ty,(Builtin.append_ #[38,3] ty #[.slice (some ⟨b,0,none⟩) i c,.int .i64 ((n:Int)+1 - (i:Int))]).run Tryz.prog w =
   .ok (.slice (some ⟨w.heap.size,0,none⟩) (n+1) (grownCap w (n+1) c 29)) (w.drew.alloc (.cells ((cs.take (i*8)).toArray++Builtin.zeroCells jy.cells (n+1 - i)++Builtin.zeroCells jy.cells (grownCap w (n+1) c 29 - (n+1))) 29)):=fun ty=>by
  have h:=Lib.run_append_grow_zeros w 38 3 ty 29 i0 jy .i64 .i64 t44 t3 xf hz0 (some ⟨b,0,none⟩) i c (cs.take (i*8)) hold (n+1 - i) (by omega) (by omega) (by omega) (by omega) (by rw[sY];omega) (by rw[sY,hik];exact growslice_fits qT aoq)
  rw[hik]at h
  rw[eC]
  exact h
 obtain⟨G,hG⟩:∃ G,G=grownCap w (n+1) c 29:=⟨_,rfl⟩
 obtain⟨CV,aea⟩:∃ CV:Array Value,CV=(cs.take (i*8)).toArray++Builtin.zeroCells jy.cells (n+1 - i)++Builtin.zeroCells jy.cells (G - (n+1)):=⟨_,rfl⟩
 rw[<-hG]at hrz ⊢
 rw[<-aea]at hrz ⊢
 have sZ:jy.cells.size=8:=by rfl
 have hRl:(n+1)*8<=CV.size:=by
  rw[aea,Array.size_append,Array.size_append,size_zeroCells,size_zeroCells,sZ,List.size_toArray,A8,Nat.min_eq_left (by omega)]
  omega
 obtain⟨W1,jh⟩:∃ W1,W1=w.drew.alloc (.cells CV 29):=⟨_,rfl⟩
 rw[<-jh]at hrz
 have hN:∀ j,j<(n+1)*8->(W1.cell? ⟨w.heap.size,j,none⟩).isSome=true:=fun j hj=>by
  rw[jh,World.cell?_alloc_at (w:=w.drew) CV _ w.heap.size j rfl,BV (by omega)];rfl
 have hNf:∀ j,W1.frozen? ⟨w.heap.size,j,none⟩=false:=fun j=>by rw[jh];exact World.frozen?_alloc_at (w:=w.drew) CV _ w.heap.size j rfl
 have hOb:∀ j v,w.cell? ⟨b,j,none⟩=some v->W1.cell? ⟨b,j,none⟩=some v:=fun j v h=>by rw[jh,World.cell?_alloc_past (w:=w.drew) _ b j mF];exact h
 have hOv:∀ j v,w.cell? ⟨vb,j,none⟩=some v->W1.cell? ⟨vb,j,none⟩=some v:=fun j v h=>by rw[jh,World.cell?_alloc_past (w:=w.drew) _ vb j hvw];exact h
 have zF:Nat.min 1 (n+1 - i)=1:=by simp only[Nat.min_def];split<;>omega
 have aik:Nat.min (n - i) (n - i)=n - i:=by simp only[Nat.min_def];split<;>omega
 have zn:(cs.drop (i*8)).length=(n - i)*8:=by rw[Bt,cG,Nat.sub_mul]
 have uN:∀ j,j<(cs.drop (i*8)).length->(i+1)*8+j<(n+1)*8:=fun j hj=>by rw[zn]at hj;omega
 have aox:∀ (W:World),(∀ x,W.cell? x=W1.cell? x)->(∀ x,W.frozen? x=W1.frozen? x)->∀ ty dc,(Builtin.copy_ #[38,38] ty #[.slice (some ⟨w.heap.size,i*8,none⟩) (n+1 - i) dc,.slice (some ⟨vb,nO,none⟩) 1 vc]).run Tryz.prog W=.ok (goInt 1) (W.setCells w.heap.size (i*8) vs):=fun W sF ze ty dc=>by
  have:=acE (P:=Tryz.prog) W 38 38 ty 29 8 w.heap.size (i*8) (n+1 - i) dc ⟨vb,nO,none⟩ 1 vc vs t44 aC (by rw[pI,zF])
   (fun j v hj=>by rw[Addr.add_lit,sF];exact hOv _ v (bq j v hj))
   (fun j hj=>by rw[sF];exact hN _ (by omega)) (fun j hj=>by rw[ze];exact hNf _) wM
  rw[zF]at this
  exact this
 have hGn:n+1<=G:=by rw[hG];exact grownCap_ge w _ _ _
 have asO:G<=9223372036854775807:=by
  have:=grownCap_le_maxLen w (n+1) c 29 (by unfold maxLen;omega)
  rw[<-hG]at this
  unfold maxLen at this
  omega
 have hGi:¬ (G=i):=by omega
 have asP:¬ (G=i+1):=by omega
 have hci:¬ (c=i):=by omega
 have hbN:b≠w.heap.size:=by omega
 have ah6:∀ (W:World),(∀ x,W.cell? x=(W1.setCells w.heap.size (i*8) vs).cell? x)->(∀ x,W.frozen? x=(W1.setCells w.heap.size (i*8) vs).frozen? x)->∀ ty dc sc,(Builtin.copy_ #[38,38] ty #[.slice (some ⟨w.heap.size,(i+1)*8,none⟩) (n - i) dc,.slice (some ⟨b,i*8,none⟩) (n - i) sc]).run Tryz.prog W=.ok (goInt ((n - i:Nat):Int)) (W.setCells w.heap.size ((i+1)*8) (cs.drop (i*8))):=fun W sF ze ty dc sc=>by
  have:=acE (P:=Tryz.prog) W 38 38 ty 29 8 w.heap.size ((i+1)*8) (n - i) dc ⟨b,i*8,none⟩ (n - i) sc (cs.drop (i*8)) t44 aC (by rw[zn,aik])
   (fun j v hj=>by
    rw[Addr.add_lit,sF,World.cell?_setCells_out _ _ _ _ _ (fun h _=>absurd h hbN)]
    exact hOb _ v (gg (i*8+j) v (by rwa [Cu]at hj)))
   (fun j hj=>by rw[sF];exact isSome_setCells _ _ _ _ (fun t ht=>hN _ (by rw[pI]at ht;omega)) _ (hN _ (uN j hj)))
   (fun j hj=>by rw[ze,World.frozen?_setCells];exact hNf _) (fun v hv=>qD v (Cj hv))
  rw[aik]at this
  exact this
 subst jh
 have hE1:∀ x,((w.alloc (.cells CV 29)).drew).cell? x=(w.drew.alloc (.cells CV 29)).cell? x:=fun x=>rfl
 have hE2:∀ x,((w.alloc (.cells CV 29)).drew).frozen? x=(w.drew.alloc (.cells CV 29)).frozen? x:=fun x=>rfl
 have hF1:∀ x,(((w.alloc (.cells CV 29)).drew.setCells w.heap.size (i*8) vs).drew).cell? x=((w.drew.alloc (.cells CV 29)).setCells w.heap.size (i*8) vs).cell? x:=fun x=>rfl
 have hF2:∀ x,(((w.alloc (.cells CV 29)).drew.setCells w.heap.size (i*8) vs).drew).frozen? x=((w.drew.alloc (.cells CV 29)).setCells w.heap.size (i*8) vs).frozen? x:=fun x=>rfl
 have gk:IntKind.i64.wrap ((i:Int)+1)=(i:Int)+1:=by rw[IntKind.wrap_i64];omega
 have uU:IntKind.i64.wrap ((n:Int)+1)=(n:Int)+1:=by rw[IntKind.wrap_i64];omega
 have hw3:IntKind.i64.wrap ((n:Int)+1 - (i:Int))=(n:Int)+1 - (i:Int):=by rw[IntKind.wrap_i64];omega
 have jj:(0:Int)<=(i:Int)+1:=by omega
 have bT:i<=n:=by omega
 have htn:((i:Int)+1).toNat=i+1:=by omega
 have hb3:(i:Int)<=(n:Int)+1:=by omega
 have hb5:(i:Int)<=(n:Int):=by omega
 clear eC hik hold aea hG hRl
 go_enter (show Tryz.prog.funcs[97]?=some Tryz.f97 from by rfl),aer
 go_wp2_with (first
  |(at_builtin;refine Lib.wpList_append_run _ rfl _ _ _ _ rfl _ _ rfl rfl _ _ (hrz _) ?_)
  |(at_builtin;refine wpList_copy_runI _ rfl _ _ 38 38 rfl _ _ rfl rfl (aox _ hE1 hE2 _ _) ?_)
  |(at_builtin;refine wpList_copy_runI _ rfl _ _ 38 38 rfl _ _ rfl rfl (ah6 _ (fun _=>rfl) (fun _=>rfl) _ _ _) ?_))
 go_region_law_o (refine step_copy_runI rfl _ _ 38 38 rfl (.slice (some ⟨w.heap.size,(i+1)*8,none⟩) (n - i) (G - (i+1))) (.slice (some ⟨b,i*8,none⟩) (n - i) (c - i)) (by simp[Act.eval,Act.put]) (by simp[Act.eval,Act.put]) (ah6 _ hF1 hF2 3 (G - (i+1)) (c - i)) ?_)
 go_wp2
 go_ret
 exact⟨rfl,rfl⟩
def Fy.c:SC:=
 SQ [RG [oQ 6 (.assign (.const (.slice none 0 0))) 38 [6]],RG [wV 10 0 38,wV 11 1 3,oQ 12 (.slice 38 (.tmp 10) (some (.tmp 11)) none none) 38 [10,11,12]],RG [wV 13 2 38,wL 14 13 38 3 [13],wG 7 14 3 [14]],SQ [RG [wV 15 7 3,wK 16 .eql 3 15 0 3 4 [15]],CN 16 (SQ [RG [wV 17 0 38 [0],wG 6 17 38 [17]],.ret]) .skip],RG [wV 18 0 38,wL 19 18 38 3 [18],wG 8 19 3 [19]],SQ [RG [wV 20 1 3,wV 21 8 3,
 wO 22 .eql 3 20 21 3 4 [20,21]],CN 22 (SQ [RG [wV 23 0 38 [0],wV 24 2 38 [2],wP 25 23 24 38 38 38 [23,24],wG 6 25 38 [25]],.ret]) .skip],SQ [RG [wV 26 8 3,wV 27 7 3,wO 28 .add 3 26 27 3 3 [26,27],wV 29 0 38,oQ 30 (.call ⟨.builtin .cap,#[.tmp 29],#[38]⟩) 3 [29],wO 31 .gtr 3 28 30 3 4 [28,30]],CN 31 (SQ [RG [wV 32 0 38,wV 33 1 3,oQ 34 (.slice 38 (.tmp 32) none (some (.tmp 33)) none) 38 [32,33],
 wV 35 8 3 [8],wV 36 7 3,wO 37 .add 3 35 36 3 3 [35,36],wV 38 1 3,wO 39 .sub 3 37 38 3 3 [37,38],wP 40 34 39 38 3 38 [34,39],wG 9 40 38 [40]],RG [wV 41 9 38,wV 42 1 3,oQ 43 (.slice 38 (.tmp 41) (some (.tmp 42)) none none) 38 [41,42],wV 44 2 38 [2],oQ 45 (.call ⟨.builtin .copy,#[.tmp 43,.tmp 44],#[38,38]⟩) 3 [43,44,45]],.aS [wV 46 9 38,wV 47 1 3,wV 48 7 3,wO 49 .add 3 47 48 3 3,
 oQ 50 (.slice 38 (.tmp 46) (some (.tmp 49)) none none) 38,wV 51 0 38,wV 52 1 3,oQ 53 (.slice 38 (.tmp 51) (some (.tmp 52)) none none) 38,oQ 54 (.call ⟨.builtin .copy,#[.tmp 50,.tmp 53],#[38,38]⟩) 3] [[],[],[],[1,2],[0,1,2,3],[],[],[5,6],[0,1,2,3,4,5,6,7]] [0,1,7,46,47,48,49,50,51,52,53,54],RG [wV 55 9 38 [9],wG 6 55 38 [55]],.ret]) .skip],RG [wV 56 0 38 [0],wV 57 8 3,wV 58 7 3,
 wO 59 .add 3 57 58 3 3 [57,58],oQ 60 (.slice 38 (.tmp 56) none (some (.tmp 59)) none) 38 [56,59],wG 0 60 38 [60]],SQ [RG [wV 61 2 38,wV 62 0 38,wV 63 1 3,wV 64 7 3,wO 65 .add 3 63 64 3 3 [63,64],oQ 66 (.slice 38 (.tmp 62) (some (.tmp 65)) none none) 38 [62,65],wW 67 117 61 66 38 38 4 [61,66],wQ 68 67 4 [67]],CN 68 (SQ [.aS [wV 69 0 38,wV 70 1 3,wV 71 7 3,wO 72 .add 3 70 71 3 3,
 oQ 73 (.slice 38 (.tmp 69) (some (.tmp 72)) none none) 38,wV 74 0 38,wV 75 1 3,oQ 76 (.slice 38 (.tmp 74) (some (.tmp 75)) none none) 38,oQ 77 (.call ⟨.builtin .copy,#[.tmp 73,.tmp 76],#[38,38]⟩) 3] [[],[],[],[1,2],[0,1,2,3],[],[],[5,6],[0,1,2,3,4,5,6,7]] [7,69,70,71,72,73,74,75,76,77],RG [wV 78 0 38,wV 79 1 3 [1],oQ 80 (.slice 38 (.tmp 78) (some (.tmp 79)) none none) 38 [78,79],wV 81 2 38 [2],
 oQ 82 (.call ⟨.builtin .copy,#[.tmp 80,.tmp 81],#[38,38]⟩) 3 [80,81,82]],RG [wV 83 0 38 [0],wG 6 83 38 [83]],.ret]) .skip],RG [wV 84 0 38,wV 85 8 3 [8],oQ 86 (.slice 38 (.tmp 84) (some (.tmp 85)) none none) 38 [84,85],wV 87 2 38 [2],oQ 88 (.call ⟨.builtin .copy,#[.tmp 86,.tmp 87],#[38,38]⟩) 3 [86,87,88]],RG [wV 89 0 38,wV 90 1 3 [1],oQ 91 (.slice 38 (.tmp 89) (some (.tmp 90)) none none) 38 [89,
 90],wV 92 7 3 [7],wW 93 118 91 92 38 3 0 [91,92,93]],RG [wV 94 0 38 [0],wG 6 94 38 [94]],.ret]
theorem Fy.rs:Tryz.f97.results.toList=[.tmp 6]:=rfl
theorem arv {P:Program}{w:World}{g o:Nat}{us:List Value}{cur:Array Value}{e:TypeId} (hg:w.heap[g]?=some (.cells cur e (0,0))) (hle:o+us.length<=cur.size) (h1:∀ v∈us,v.oneCell'=true):
  w.setCells g o us=w.setRow g (cur.toList.take o++us++cur.toList.drop (o+us.length)).toArray:=by
 have a:=run_storeCells_at P g o e us 0 cur w hg (by simpa using hle) h1
 have b:=run_storeCells_cells (P:=P) g o us 0 w (fun j hj=>by
   simp only[World.cell?,hg,Nat.add_zero]
   rw[BV (by omega)];rfl) (fun j hj=>by simp[World.frozen?,hg]) h1
 rw[a]at b
 simp only[Nat.add_zero]at b
 simp only[Result.ok.injEq,true_and]at b
 exact b.symm
section
variable {N0:Nat}{W0:World}{fm:FM}{ts:List Aw}{H:Heap}{w:World}
theorem HR.less {H':Heap} (h:HR N0 W0 fm ts H w) (hl:H'.length=H.length) (hs:∀ l k b,H'.get l k=some b->H.get l k=some b):HR N0 W0 fm ts H' w:=
 ⟨h.len.trans hl.symm,fun l k b a=>h.aD l k b (hs l k b a),fun l k l' k' b b' c p q=>h.inj l k l' k' b b' c (hs _ _ _ p) (hs _ _ _ q),h.cV,fun l k b c o p=>h.eR l k b c o (hs _ _ _ p),h.dL,h.size,h.dH⟩
theorem aru {α:Type} (L us:List α) (off n:Nat) (h:n<=off+us.length) (ho:off<=n):
  L.take off++us++L.drop (off+us.length)=((L.take n).take off++(us++(L.take n).drop (off+us.length)))++L.drop (off+us.length):=by
 have e1:(L.take n).take off=L.take off:=by rw[List.take_take,Nat.min_eq_left ho]
 have e2:(L.take n).drop (off+us.length)=[]:=by rw[List.drop_eq_nil_iff,A8];omega
 rw[e1,e2,List.append_nil]
theorem HR.lay (h:HR N0 W0 fm ts H w) {l k c cap et esz i:Nat}{es new es':List (List AV)}{us:List Value} (hg:H.get l k=some (.arr et esz es)) (ht:tb ts l k=some (.arr es.length (some (c,cap))))
  (hi:i<=es.length) (dM:i+new.length<=cap) (bw:dw new esz) (hv:AG fm [] new.flatten us) (hf:∀ x∈new.flatten,x.flat=true) (he:es'=es.take i++(new++es.drop (i+new.length))):
  HR N0 W0 fm (dh ts l k (.arr es'.length (some (c,cap)))) (H.put l k (some (.arr et esz es'))) (w.setCells c (i*esz) us):=by
 have hb:=h.aD l k _ hg
 rw[ht]at hb
 obtain⟨_,_,hA⟩:=hb.gr
 obtain⟨hA,hN⟩:=hA c cap rfl
 obtain⟨cells,c1,c2,c3,c4,c5,c6,c7,c8⟩:=hA.flat
 have cw:us.length=new.length*esz:=by rw[<-hv.1,kH _ _ bw]
 have dv:(i+new.length)*esz<=cap*esz:=B7 _ dM
 rw[Nat.add_mul]at dv
 have iO:es.length*esz<=cap*esz:=B7 _ c3
 have hm3:i*esz<=es.length*esz:=B7 _ hi
 have gh:es'.length<=cap/\es.length<=es'.length:=by
  rw[he,A1,A1,A8,Bt];omega
 rw[arv (P:=Tryz.prog) c1 (by rw[cw,c2];exact dv) (hv.rk hf)]
 have pC:es'.flatten=es.flatten.take (i*esz)++(new.flatten++es.flatten.drop ((i+new.length)*esz)):=by
  rw[he,List.flatten_append,List.flatten_append,pd es i c5,wk es _ c5]
 refine h.xQ hg ht (es':=es') (us:=(cells.toList.take (es.length*esz)).take (i*esz)++(us++(cells.toList.take (es.length*esz)).drop ((i+new.length)*esz)))
  (rest:=cells.toList.drop (max (es.length*esz) ((i+new.length)*esz))) gh.2 gh.1 ?_ ?_ ?_ ?_ ?_
 ·rw[he];exact pP (xG c5 _) (pP bw (aal c5 _))
 ·rw[A1,A1,A8,Bt,Array.length_toList,cw,c2];omega
 ·rw[pC]
  exact(c7.take _).append (hv.append (c7.drop _))
 ·rw[pC]
  intro x hx
  rcases A9.1 hx with hx|hx
  ·exact c8 x (BD hx)
  ·rcases A9.1 hx with hx|hx
   ·exact hf x hx
   ·exact c8 x (Cj hx)
 ·have e1:(i+new.length)*esz=i*esz+us.length:=by rw[cw,Nat.add_mul]
  rw[e1]
  by_cases hle:i*esz+us.length<=es.length*esz
  ·rw[Nat.max_eq_left hle]
   exact acG _ _ _ _ hle (by rw[Array.length_toList (xs:=cells),c2];exact iO)
  ·rw[Nat.max_eq_right (by omega)]
   exact aru _ _ _ _ (by omega) hm3
end
def ym:List AV:=[.int .i64 0,.int .i64 0,.int .i64 0,.int .i64 0,.int .i64 0,.int .i64 0,.int .i64 0,.str ⟨#[]⟩]
theorem asL (fm:FM):AG fm [] ym jy.cells.toList:=by
 refine⟨by rfl,?_⟩
 intro i x v hx hv
 match i,hx,hv with
 |0,hx,hv=>cases hx;cases hv;exact .int _ _
 |1,hx,hv=>cases hx;cases hv;exact .int _ _
 |2,hx,hv=>cases hx;cases hv;exact .int _ _
 |3,hx,hv=>cases hx;cases hv;exact .int _ _
 |4,hx,hv=>cases hx;cases hv;exact .int _ _
 |5,hx,hv=>cases hx;cases hv;exact .int _ _
 |6,hx,hv=>cases hx;cases hv;exact .int _ _
 |7,hx,hv=>cases hx;cases hv;exact .str _
 |n+8,hx,hv=>cases hx
theorem apk {α:Type}{L my:List α}{i:Nat} (hi:i<L.length) (h:L.take (i+1)++(L.drop i++L.drop (i+1+(L.drop i).length))=my):my.take i=L.take i/\my.drop (i+1)=L.drop i:=by
 have hl:(L.take (i+1)).length=i+1:=by rw[A8];omega
 have hd:L.drop (i+1+(L.drop i).length)=[]:=by rw[List.drop_eq_nil_iff,Bt];omega
 subst h
 refine⟨?_,?_⟩
 ·rw[Dd (by omega),List.take_take,Nat.min_eq_left (by omega)]
 ·rw[List.drop_left' hl,hd,List.append_nil]
theorem apl {α:Type}{L Z Y my:List α}{x:α}{i:Nat} (hi:i<=L.length) (h:(L.take i++Z).take i++([x]++Y)=my):my.take (i+1)=L.take i++[x]:=by
 have hl:(L.take i).length=i:=by rw[A8];omega
 subst h
 rw[DU hl,<-Cy,DU (by rw[A1,hl];rfl)]
def aaC (k:Nat) (s:List Ab) (i:Int) (v:List Ab):Option (List Ab):=
 if (0<=i/\i<=s.length)/\v.length=1/\room (s.length+1) 72 then some (s.take i.toNat++(v++s.drop i.toNat)) else none
theorem arG (k:Nat) (s:List Ab) (i:Int) (v:List Ab) (r:List Ab) (h0:aaC k s i v=some r):
  Bg Tryz.prog 97 [.loc 0 0 8 0 s.length s.length,.int .i64 i,.loc 0 1 8 0 v.length v.length] [(0,.arr 29 8 (List.map Ab.c s)),(1,.arr 29 8 (List.map Ab.c v))] (fun y fr=>y=.loc 0 0 8 0 r.length r.length/\fr=[(0,.arr 29 8 (List.map Ab.c r))]):=by
 unfold aaC at h0
 split at h0
 ·rename_i hc
  obtain⟨⟨xf,bT⟩,sW,qT,pw⟩:=hc
  obtain rfl:=oi h0
  obtain⟨x,rfl⟩:∃ x,v=[x]:=by
   cases v with
   |nil=>simp at sW
   |cons x l=>cases l with
    |nil=>exact⟨x,rfl⟩
    |cons y l=>simp at sW
  obtain⟨i,rfl⟩:∃ j:Nat,i=j:=⟨i.toNat,by omega⟩
  simp only[BQ]
  by_cases he:i=s.length
  ·
   subst he
   have hr:=Bg.own (et:=29) (sz:=8) (ls:=List.map Ab.c (s.take s.length++([x]++s.drop s.length))) (Bg.gD AE (f:=97) (fn:=Tryz.f97) (sc:=Fy.c) (args:=[.loc 0 0 8 0 s.length s.length,.int .i64 s.length,.loc 0 1 8 0 1 1]) (fr0:=[(0,.arr 29 8 (List.map Ab.c s)),(1,.arr 29 8 (List.map Ab.c [x]))]) (by rfl) (by rfl) (by decide +kernel) (by rfl) (by decide +kernel) (Nat.le_of_ble_eq_true rfl) (fun H=>?_))
   ·simpa only [Bu,AA,AB,CA] using hr
   refine rS ?_
   have sQ:xC s.length (s.length:Int)=some ():=by unfold xC;rw[if_pos (by omega)]
   have hpr:room (s.length+1) 72:=⟨qT,pw⟩
   have sP:=apO sQ
   simp only[Fy.c,apN sQ,sP,hpr,(@id (((1:Nat):Int)=1) rfl),(by decide:decide ((1:Int)=0)=false),(by simp:decide ((s.length:Int)=(s.length:Int))=true),go_sem]
   refine C6 rfl ?_
   simp only[Fy.rs,nE,Be,cm,go_sem]
   first|exact(Co (by simp)).symm|exact Co (by simp)|(simp;done)|(simp;rw[Co (by simp)])
  ·
   have hi:i<s.length:=by omega
   refine⟨⟨Tryz.f97,by rfl,by rfl,by rfl⟩,?_⟩
   intro H N0 W0 fm t ts w vs hH ht bq
   obtain⟨x0,xs,rfl⟩:∃ a l,vs=a::l:=by
    cases vs with
    |nil=>exact absurd bq.1 (by simp)
    |cons a l=>exact⟨a,l,rfl⟩
   obtain⟨x1,xs,rfl⟩:∃ a l,xs=a::l:=by
    cases xs with
    |nil=>exact absurd bq.1 (by simp)
    |cons a l=>exact⟨a,l,rfl⟩
   obtain⟨x2,xs,rfl⟩:∃ a l,xs=a::l:=by
    cases xs with
    |nil=>exact absurd bq.1 (by simp)
    |cons a l=>exact⟨a,l,rfl⟩
   obtain rfl:xs=[]:=by
    cases xs with
    |nil=>rfl
    |cons a l=>exact absurd bq.1 (by simp)
   have ek:=bq.2 0 _ x0 rfl rfl
   have jZ:=bq.2 1 _ x1 rfl rfl
   have qY:=bq.2 2 _ x2 rfl rfl
   have jH:Heap.get ([(0,AJ.arr 29 8 (List.map Ab.c s)),(1,AJ.arr 29 8 (List.map Ab.c [x]))]::H) 0 0=some (.arr 29 8 (s.map Ab.c)):=rfl
   have nr:Heap.get ([(0,AJ.arr 29 8 (List.map Ab.c s)),(1,AJ.arr 29 8 (List.map Ab.c [x]))]::H) 0 1=some (.arr 29 8 ([x].map Ab.c)):=rfl
   have gb:=hH.aD 0 0 _ jH
   have jj:=hH.aD 0 1 _ nr
   cases jZ
   generalize eK:s.length=n at *
   cases ek with
   |cW _ _ _ _ _ _ a' bf aN=>rw[aN]at gb;cases gb
   |cX _ _ _ _ _ _ a' bf m' c aN jI=>rw[aN]at gb;have:=gb.gr.1;simp at this;omega
   |cH _ _ _ a1 aN=>omega
   |loc _ _ _ _ _ _ c cap bf a' aN zz bU cP ha=>
    cases qY with
    |cW _ _ _ _ _ _ a2 cp2 xq=>rw[xq]at jj;cases jj
    |cX _ _ _ _ _ _ a2 cp2 m2 c2 xq zD=>rw[xq]at jj;have:=jj.gr.1;simp at this;omega
    |loc _ _ _ _ _ _ vb ar4 vcp va xq asU asY asR ha2=>
     have hac:a'=⟨c,0*8,none⟩:=ha (.inr rfl)
     have hva:va=⟨vb,0*8,none⟩:=ha2 (.inr rfl)
     subst hac hva
     rw[aN]at gb
     rw[xq]at jj
     obtain⟨hA,hN⟩:=gb.gr.2.2 c cap rfl
     obtain⟨hA2,hN2⟩:=jj.gr.2.2 vb ar4 rfl
     obtain⟨cells,c1,c2,c3,c4,c5,c6,c7,c8⟩:=hA.flat
     obtain⟨aks,d1,d2,d3,d4,d5,d6,d7,d8⟩:=hA2.flat
     simp only[Bu,AA,AB,CA]at c3 d3 c7 d7 c2 d2
     rw[eK]at c3 c7
     have hvb:vb≠c:=by
      intro h
      subst h
      have:=hH.inj 0 0 0 1 _ _ vb jH nr (by rw[aN];rfl) (by rw[xq];rfl)
      omega
     have dM:bf=cap:=by omega
     subst dM
     have hm8:n*8<=cells.size:=by omega
     obtain⟨cs,gg⟩:∃ cs,cs=cells.toList.take (n*8):=⟨_,rfl⟩
     obtain⟨us,lI⟩:∃ us,us=aks.toList.take (1*8):=⟨_,rfl⟩
     rw[<-gg]at c7
     rw[<-lI]at d7
     have cG:cs.length=n*8:=by rw[gg,A8,Array.length_toList];omega
     have cw:us.length=8:=by rw[lI,A8,Array.length_toList];omega
     have xa:∀ j v,cs[j]?=some v->w.cell? ⟨c,j,none⟩=some v:=fun j v hj=>by
      simp only[World.cell?,c1]
      rw[gg,Ca]at hj
      split at hj
      ·rw[Array.getElem?_toList]at hj;exact hj
      ·cases hj
     have huu:∀ j v,us[j]?=some v->w.cell? ⟨vb,j,none⟩=some v:=fun j v hj=>by
      simp only[World.cell?,d1]
      rw[lI,Ca]at hj
      split at hj
      ·rw[Array.getElem?_toList]at hj;exact hj
      ·cases hj
     have qD:=c7.rk c8
     have wM:=d7.rk d8
     have hsn:((s.map Ab.c).drop i).length=n - i:=by rw[Bt,Bu,eK]
     have sN:AG fm [] ((s.map Ab.c).drop i).flatten (cs.drop (i*8)):=by rw[wk _ _ c5];exact c7.drop _
     have uF:∀ y∈((s.map Ab.c).drop i).flatten,y.flat=true:=fun y hy=>by rw[wk _ _ c5]at hy;exact c8 y (Cj hy)
     have d8':∀ y∈([x].map Ab.c).flatten,y.flat=true:=d8
     have xo:(s.take i++([x]++s.drop i)).length=n+1:=by simp only[A1,A8,Bt,AA,AB,eK];omega
     have aiI:∀ {b0 b1:AJ} (l k:Nat) (b:AJ),Heap.get ([(0,b0)]::H) l k=some b->Heap.get ([(0,b0),(1,b1)]::H) l k=some b:=by
      intro b0 b1 l k b h
      cases l with
      |zero=>
       by_cases hk:k=0
       ·subst hk;exact h
       ·simp[Heap.get,look,hk,show ¬ (0=k) by omega]at h
      |succ l=>exact h
     by_cases qS:n+1<=bf
     ·refine(apm c n bf i vb (0*8) vcp cs us w hi qS (by unfold maxLen at c4;omega) hvb cG cw xa ?_ ?_ ?_ qD wM 29 29 aks.size cells.size ?_ ?_ ?_ ?_ ?_).mono ?_
      ·intro j hj
       simp only[World.cell?,c1]
       rw[BV (by omega)];rfl
      ·intro j hj;simp[World.frozen?,c1]
      ·intro j v hj
       simpa using huu j v hj
      ·simp[World.shape?,d1]
      ·simp[World.shape?,c1]
      ·omega
      ·simp[World.frozen?,d1]
      ·simp[World.frozen?,d1]
      ·rintro e w' ⟨rfl,rfl⟩
       have qU:=hH.drew.lay (c:=c) (cap:=bf) (i:=i+1) (new:=(s.map Ab.c).drop i) (us:=cs.drop (i*8)) jH (by rw[aN];simp[eK]) (by rw[Bu,eK];omega) (by rw[hsn];omega) (aal c5 _) sN uF rfl
       generalize zp:(s.map Ab.c).take (i+1)++((s.map Ab.c).drop i++(s.map Ab.c).drop (i+1+((s.map Ab.c).drop i).length))=my at qU
       have fb:my.length=n+1:=by rw[<-zp];simp only[A1,A8,Bt,Bu,eK];omega
       have pE:=qU.lay (l:=0) (k:=0) (c:=c) (cap:=bf) (et:=29) (esz:=8) (es:=my) (i:=i) (new:=[x].map Ab.c) (us:=us) (es':=(s.take i++([x]++s.drop i)).map Ab.c) (by rfl) (by rw[eE,if_pos ⟨rfl,rfl,by simp⟩]) (by omega) (by simp;omega) d5 d7 d8' ?_
       ·refine⟨_,.loc 0 0 8 0 (n+1) (n+1),[(0,.arr 29 8 (List.map Ab.c (s.take i++([x]++s.drop i))))],fm,_,ts,rfl,⟨?_,rfl⟩,pE.less (by rfl) ?_,?_,AU.refl _ _,AD.refl _,?_,?_⟩
        ·rw[xo]
        ·exact aiI
        ·exact .loc 0 0 8 0 (n+1) (n+1) c bf bf _ (by show some (TB.arr (List.length (List.map Ab.c (s.take i++([x]++s.drop i)))) _)=_;rw[Bu,xo]) (by omega) (by omega) (by omega) (fun _=>rfl)
        ·exact fun _ _ h=>h
        ·intro k hk
         simp only[if_neg (show ¬ (k=0) by omega)]
         exact ht k hk
       ·obtain⟨q1,q2⟩:=apk (L:=s.map Ab.c) (i:=i) (by rw[Bu,eK];exact hi) zp
        rw[q1,show i+([x].map Ab.c).length=i+1 from rfl,q2,DJ,DJ,List.map_take,List.map_drop]
     ·obtain⟨G,hG⟩:∃ G,G=grownCap w (n+1) bf 29:=⟨_,rfl⟩
      refine(apj c n bf i vb (0*8) vcp cs us w hi bU (by omega) qT cG cw xa ?_ qD wM).mono ?_
      ·intro j v hj
       simpa using huu j v hj
      ·rw[<-hG]
       rintro e w' ⟨rfl,rfl⟩
       have hGn:n+1<=G:=by rw[hG];exact grownCap_ge w _ _ _
       have hGm:G<=maxLen:=by
        rw[hG]
        exact grownCap_le_maxLen w (n+1) bf 29 (by unfold maxLen;omega)
       have sZ:jy.cells.size=8:=by rfl
       have z8:∀ m,(Builtin.zeroCells jy.cells m).toList=(List.replicate m jy.cells.toList).flatten:=fun m=>aah jy.cells m (by rw[sZ];omega)
       have lF:((s.map Ab.c).take i++List.replicate (n+1 - i) ym).length=n+1:=by rw[A1,A8,Bu,CR,eK];omega
       have hzf:∀ y∈ym,y.flat=true:=by decide
       have hs0:=hH.xE (l:=0) (k:=0) (cap:=G) (et:=29) (esz:=8) (es:=(s.map Ab.c).take i++List.replicate (n+1 - i) ym)
        (cells:=(cs.take (i*8)).toArray++Builtin.zeroCells jy.cells (n+1 - i)++Builtin.zeroCells jy.cells (G - (n+1)))
        (us:=cs.take (i*8)++(Builtin.zeroCells jy.cells (n+1 - i)).toList) (rest:=(Builtin.zeroCells jy.cells (G - (n+1))).toList) (by simp) (by rw[aN];exact .inr (.inr ⟨_,_,rfl,by rw[lF];omega⟩))
        (by rw[Array.size_append,Array.size_append,size_zeroCells,size_zeroCells,sZ,List.size_toArray,A8,cG];omega) (by rw[lF];exact hGn) hGm (pP (xG c5 _) (xF rfl _)) (by omega)
        (by rw[List.flatten_append,pd _ _ c5,z8];exact(c7.take _).append (AG.replicate (asL fm) _))
        (by
         rw[List.flatten_append,pd _ _ c5]
         intro y hy
         rcases A9.1 hy with hy|hy
         ·exact c8 y (BD hy)
         ·exact y6 hzf _ y hy)
        (by simp)
       have qU:=hs0.drew.lay (l:=0) (k:=0) (c:=w.heap.size) (cap:=G) (et:=29) (esz:=8) (i:=i) (new:=[x].map Ab.c) (us:=us) (by rfl) (by rw[eE,if_pos ⟨rfl,rfl,by simp⟩]) (by omega) (by simp;omega) d5 d7 d8' rfl
       generalize zp:((s.map Ab.c).take i++List.replicate (n+1 - i) ym).take i++([x].map Ab.c++((s.map Ab.c).take i++List.replicate (n+1 - i) ym).drop (i+([x].map Ab.c).length))=my at qU
       have fb:my.length=n+1:=by
        rw[<-zp]
        simp only[A1,A8,Bt,Bu,CR,AA,AB,eK]
        omega
       have pE:=qU.drew.lay (l:=0) (k:=0) (c:=w.heap.size) (cap:=G) (et:=29) (esz:=8) (es:=my) (i:=i+1) (new:=(s.map Ab.c).drop i) (us:=cs.drop (i*8)) (es':=(s.take i++([x]++s.drop i)).map Ab.c) (by rfl) (by rw[eE,if_pos ⟨rfl,rfl,by simp[dh]⟩]) (by omega) (by rw[hsn];omega) (aal c5 _) sN uF ?_
       ·refine⟨_,.loc 0 0 8 0 (n+1) (n+1),[(0,.arr 29 8 (List.map Ab.c (s.take i++([x]++s.drop i))))],fm,_,ts,rfl,⟨?_,rfl⟩,pE.less (by rfl) ?_,?_,AU.refl _ _,AD.refl _,?_,?_⟩
        ·rw[xo]
        ·exact aiI
        ·exact .loc 0 0 8 0 (n+1) (n+1) w.heap.size G G _ (by show some (TB.arr (List.length (List.map Ab.c (s.take i++([x]++s.drop i)))) _)=_;rw[Bu,xo]) (by omega) (by omega) (by omega) (fun _=>rfl)
        ·exact fun _ _ h=>h
        ·intro k hk
         simp only[if_neg (show ¬ (k=0) by omega)]
         exact ht k hk
       ·have hd:my.drop (i+1+((s.map Ab.c).drop i).length)=[]:=by rw[List.drop_eq_nil_iff,fb,hsn];omega
        have q:=apl (L:=s.map Ab.c) (i:=i) (by rw[Bu,eK];exact Nat.le_of_lt hi) zp
        rw[hd,q,List.append_nil,DJ,DJ,List.map_take,List.map_drop,Cy]
        rfl
 ·cases h0
def HN.c:SC:=
 SQ [RG [wE 2 40 0 [0],wE 3 29 1 [1],wA 4 40,wN 5 0 45 [5]],SQ [RG [wD 8 29 3,wU 9 95 8 29 4 [8],wQ 10 9 4 [9]],CN 10 (SQ [RG [oQ 11 (.build 40 #[]) 40,wS 40 4 11 [11],wN 5 90 45],.ret]) .skip],RG [wD 13 40 2,wF 14 29 3 0,wD 15 27 14 [14],wW 16 96 13 15 40 27 165 [13,15],wV 12 16 165 [16],wX 17 12 0 3,wX 18 12 1 4 [12],wG 6 17 3 [17],wG 7 18 4 [18]],.block 0 (SQ [.aS [wV 20 7 4,wV 21 20 4,
 gd 21 true (wF 22 40 2 0),gd 21 true (wD 23 38 22),gd 21 true (wV 24 6 3),gd 21 true (wI 25 38 23 24),gd 21 true (wD 26 29 25),gd 21 true (wD 27 29 3),gd 21 true (wO 28 .eql 29 26 27 29 4),wZ 29 21 28 4,wG 19 29 4] [[],[0],[0,1],[0,1,2],[0,1],[0,1,2,3,4],[0,1,2,3,4,5],[0,1],[0,1,2,3,4,5,6,7],[0,1,2,3,4,5,6,7,8],[0,1,2,3,4,5,6,7,8,9]] [20,21,22,23,24,25,26,27,28,29],CN 19 (SQ [RG [wD 30 40 2 [2],
 wU 31 76 30 40 40 [30],wS 40 4 31 [31],wN 5 0 45],.ret]) (SQ [RG [wV 33 7 4 [7],wG 32 33 4 [33]],CN 32 (SQ [RG [oQ 34 (.build 40 #[]) 40,wS 40 4 34 [34],wN 5 92 45],.ret]) (SQ [.aS [wF 36 29 3 0,wF 37 27 36 1,wD 38 3 37,wD 39 40 2,wU 40 56 39 40 55,wF 41 29 3 0,wF 42 27 41 0,wD 43 3 42,oQ 44 (.index 55 (.tmp 40) (.tmp 43)) 3,wO 45 .gtr 3 38 44 3 4,wG 35 45 4] [[],[0],[0,1],[],[3],[],[5],[5,6],
 [3,4,5,6,7],[0,1,2,3,4,5,6,7,8],[0,1,2,3,4,5,6,7,8,9]] [36,37,38,39,40,41,42,43,44,45],CN 35 (SQ [RG [oQ 46 (.build 40 #[]) 40,wS 40 4 46 [46],wN 5 93 45],.ret]) (SQ [RG [wF 48 40 2 0,wD 49 38 48 [48],wL 50 49 38 3 [49],wK 51 .eql 3 50 60 3 4 [50],wG 47 51 4 [51]],CN 47 (SQ [RG [oQ 52 (.build 40 #[]) 40,wS 40 4 52 [52],wN 5 2 45],.ret]) .skip])])])]),.aS [wF 53 40 2 0,wD 54 38 53,
 wU 55 98 54 38 38,wV 56 6 3,wD 57 29 3,oQ 58 (.buildSlice 38 1 #[(0,.tmp 57)]) 38,wC 59 97 #[.tmp 55,.tmp 56,.tmp 58] #[38,3,38] 38,oQ 60 (.build 40 #[(0,.tmp 59)]) 40,wS 40 4 60,wN 5 0 45] [[],[0],[0,1],[],[],[4],[0,1,2,3,4,5],[0,1,2,3,4,5,6],[0,1,2,3,4,5,6,7],[0,1,2,3,4,5,6,7,8]] [2,3,6,53,54,55,56,57,58,59,60],.ret]
def rZ (k:Nat) (b0:Ak) (r1:Ab):Option (Ak×Int):=
 (oW k r1).bind fun x1=>
 bif (!x1) then
  some ((⟨[]⟩:Ak),90)
 else
  (yA k b0 r1.At).bind fun x3=>
  bif x3.2 then
   (at? b0.Ah x3.1).bind fun x5=>
   bif (decide (x5.At.Ac=r1.At.Ac)&&(decide (x5.At.No=r1.At.No)&&(decide (x5.Kind=r1.Kind)&&(decide (x5.Day=r1.Day)&&(decide (x5.Ap=r1.Ap)&&(decide (x5.Of.Ac=r1.Of.Ac)&&(decide (x5.Of.No=r1.Of.No)&&(x5.Text.toList==r1.Text.toList)))))))) then
    (vS k b0).bind fun x7=>
    some (x7,0)
   else
    some ((⟨[]⟩:Ak),92)
  else
   (fh k b0).bind fun x8=>
   (x8.at? r1.At.Ac).bind fun x9=>
   bif decide (x9<r1.At.No) then
    some ((⟨[]⟩:Ak),93)
   else
    bif decide ((b0.Ah.length:Int)=(60:Int)) then
     some ((⟨[]⟩:Ak),2)
    else
     (xS k b0.Ah).bind fun bx=>
     (aaC k bx x3.1 [r1]).bind fun cd=>
     some ((⟨cd⟩:Ak),0)
theorem adm (k:Nat) (b0:Ak) (r1:Ab) (r:Ak×Int) (h0:rZ k b0 r1=some r):Ay Tryz.prog 70 [.agg (Ak.c b0),.agg (Ab.c r1)] (fun y=>y=.aw [.agg (Ak.c r.1),.int .i64 r.2]):=by
 refine PB Tryz.f70 HN.c [.cell 4 40,.tmp 5] ?_
 simp only[rZ]at h0
 try simp only[HN.c,go_sem]
 refine aj h0 (abB k _) ?_ (fun x1 h0=>?_)<;>try simp only[go_sem]
 refine BS h0 ?_ ?_<;>intro c2 h0<;>have F:=c2<;>try simp only[F,go_sem]
 obtain rfl:=oi h0
 refine Ag rfl ?_
 try simp only[F,go_sem]
 refine aj h0 (amH k _ _) ?_ (fun x3 h0=>?_)<;>try simp only[F,go_sem]
 refine AL AE aO 1000 ?_
 try simp only[F,go_sem]
 refine DF F h0 ?_ ?_<;>intro F h0<;>try simp only[F,go_sem]
 obtain⟨x5,cn,h0⟩:=bs h0
 have F:=an (aI cn) (an (aH Ab.c cn) F)
 try simp only[F,go_sem]
 refine aG ?_
 try simp only[F,go_sem]
 refine AF F h0 ?_ ?_<;>intro F h0<;>try simp only[F,go_sem]
 refine aj h0 (agp k _) ?_ (fun x7 h0=>?_)<;>try simp only[F,go_sem]
 obtain rfl:=oi h0
 refine Ag rfl ?_
 try simp only[F,go_sem]
 obtain rfl:=oi h0
 refine Ag rfl ?_
 try simp only[F,go_sem]
 refine aG ?_
 try simp only[F,go_sem]
 refine AL AE aO 1000 ?_
 try simp only[F,go_sem]
 refine bJ h0 (yB k _) ?_ (fun x8 h0=>?_)<;>try simp only[F,go_sem]
 obtain⟨x9,gM,h0⟩:=bs h0
 have mY:=(Ao.oL fg gM).2
 try simp only[go_sem]at mY
 have F:=an (aq gM) (an mY F)
 try simp only[F,go_sem]
 refine aG ?_
 try simp only[F,go_sem]
 refine AF F h0 ?_ ?_<;>intro F h0<;>try simp only[F,go_sem]
 obtain rfl:=oi h0
 refine Ag rfl ?_
 try simp only[F,go_sem]
 refine AF F h0 ?_ ?_<;>intro F h0<;>try simp only[F,go_sem]
 obtain rfl:=oi h0
 refine Ag rfl ?_
 try simp only[F,go_sem]
 refine AL AE aO 1000 ?_
 try simp only[F,go_sem]
 obtain⟨bx,iv,h0⟩:=bs h0
 refine D4 1000 [] [] (ajZ k _ _ iv) ?_ rfl ?_
 try simp only[fB,Bu,F,go_sem]
 try simp only[F,go_sem]
 obtain⟨cd,kp,h0⟩:=bs h0
 refine D4 1000 [] [752,800] (arG k _ _ _ _ kp) ?_ rfl ?_
 try simp only[fB,Bu,F,go_sem]
 try simp only[F,go_sem]
 refine aG ?_
 try simp only[F,go_sem]
 obtain rfl:=oi h0
 refine Ag rfl ?_
 try simp only[F,go_sem]
def G3.c:SC:=
 SQ [RG [wA 6 105],RG [wV 7 0 99 [0],oQ 8 (.nilCheck (.tmp 7)) 0 [7],wF 9 102 8 0 [8],wF 10 36 9 0 [9],wD 11 33 10 [10],wV 12 1 3 [1],wK 13 .mul 3 12 301 3 3 [12],wV 14 2 3,wK 15 .quo 3 14 2 3 3 [14],wO 16 .add 3 13 15 3 3 [13,15],wV 17 2 3 [2],wK 18 .rem 3 17 2 3 3 [17],wI 19 33 11 16 [11,16],wI 20 113 19 18 [18,19],wD 21 92 20 [20],wS 105 6 21 [21]],.ret]
def nU (k:Nat) (d0:aF) (aY:Int) (i2:Int):Option ((Aa 32 Int)):=
 (at? d0.Ad.Aj (ab ((ab (aY*301))+(ab (Int.tdiv i2 2))))).bind fun x1=>
 (x1.at? (Int.tmod i2 2)).bind fun x2=>
 some x2
theorem vT (k:Nat) (d0:aF) (aY:Int) (i2:Int) (r:(Aa 32 Int)) (h0:nU k d0 aY i2=some r):Ay Tryz.prog 102 [.aL 2 [aF.c d0] 0 0,.int .i64 aY,.int .i64 i2] (fun y=>y=.agg ((Aa.c (n:=32) ae) r)):=by
 refine PB Tryz.f102 G3.c [.cell 6 105] ?_
 simp only[nU]at h0
 try simp only[G3.c,go_sem]
 obtain⟨x1,jx,h0⟩:=bs h0
 have F:=an (aI jx) (aH (Aa.c (n:=2) (Aa.c (n:=32) ae)) jx)
 try simp only[F,go_sem]
 obtain⟨x2,dJ,h0⟩:=bs h0
 have lZ:=Ao.bh gN (Ao.self gP x1) dJ
 have mf:=lZ.2
 try simp only[AA,AB,go_sem]at mf
 have F:=an (aq dJ) (an mf F)
 try simp only[F,go_sem]
 obtain rfl:=oi h0
 refine Ag rfl ?_
 try simp only[F,go_sem]
def G4.c:SC:=
 SQ [RG [wE 1 105 0 [0],wN 2 0 3 [2]],RG [wJ 4 105 1 1,wD 5 5 4 [4],wY 6 5 3 5 3 [5],oQ 7 (.binOp .shl 3 (.tmp 6) (.const (.int .u64 16)) 172) 3 [6],wJ 8 105 1 2,wD 9 5 8 [8],wY 10 5 3 9 3 [9],oQ 11 (.binOp .shl 3 (.tmp 10) (.const (.int .u64 8)) 172) 3 [10],wO 12 .or 3 7 11 3 3 [7,11],wJ 13 105 1 3,wD 14 5 13 [13],wY 15 5 3 14 3 [14],wO 16 .or 3 12 15 3 3 [12,15],wG 3 16 3 [16]],
 SQ [RG [wJ 17 105 1 0,wD 18 5 17 [17],oQ 19 (.binOp .neq 5 (.tmp 18) (.const (.int .u8 104)) 5) 4 [18],wV 20 19 4 [19],gd 20 true (wJ 21 105 1 0),gd 20 true (wD 22 5 21 [21]),gd 20 true (oQ 23 (.binOp .neq 5 (.tmp 22) (.const (.int .u8 112)) 5) 4 [22]),wZ 24 20 23 4 [20,23],wV 25 24 4 [24],gd 25 false (wJ 26 105 1 31 [1]),gd 25 false (wD 27 5 26 [26]),
 gd 25 false (oQ 28 (.binOp .neq 5 (.tmp 27) (.const (.int .u8 165)) 5) 4 [27]),wT 29 25 28 4 [25,28],wV 30 29 4 [29],gd 30 false (wV 31 3 3),gd 30 false (wK 32 .gtr 3 31 1000000 3 4 [31]),wT 33 30 32 4 [30,32]],CN 33 (SQ [RG [wN 2 0 3],.ret]) .skip],RG [wV 34 3 3 [3],wG 2 34 3 [34]],.ret]
def ql (k:Nat) (ah:(Aa 32 Int)):Option (Int):=
 (ah.at? 1).bind fun x1=>
 (ah.at? 2).bind fun x2=>
 (ah.at? 3).bind fun x3=>
 (ah.at? 0).bind fun x4=>
 bif (!decide (x4=(104:Int))) then
  bif decide (x4=(112:Int)) then
   (ah.at? 31).bind fun x7=>
   bif decide (x7=(165:Int)) then
    bif decide ((1000000:Int)<fT .i64 (fT .i64 (ab ((ab x1)*2 ^ 16)) (ab ((ab x2)*2 ^ 8))) (ab x3)) then
     some 0
    else
     some (fT .i64 (fT .i64 (ab ((ab x1)*2 ^ 16)) (ab ((ab x2)*2 ^ 8))) (ab x3))
   else
    some 0
  else
   some 0
 else
  (ah.at? 31).bind fun dz=>
  bif decide (dz=(165:Int)) then
   bif decide ((1000000:Int)<fT .i64 (fT .i64 (ab ((ab x1)*2 ^ 16)) (ab ((ab x2)*2 ^ 8))) (ab x3)) then
    some 0
   else
    some (fT .i64 (fT .i64 (ab ((ab x1)*2 ^ 16)) (ab ((ab x2)*2 ^ 8))) (ab x3))
  else
   some 0
theorem abz (k:Nat) (ah:(Aa 32 Int)) (r:Int) (h0:ql k ah=some r):Ay Tryz.prog 103 [.agg ((Aa.c (n:=32) ae) ah)] (fun y=>y=.int .i64 r):=by
 refine PB Tryz.f103 G4.c [.tmp 2] ?_
 simp only[ql]at h0
 try simp only[G4.c,go_sem]
 obtain⟨x1,jx,h0⟩:=bs h0
 have xY:=Ao.bh gO (Ao.self gQ ah) jx
 have tO:=xY.2
 try simp only[AA,AB,go_sem]at tO
 have F:=an (aq jx) tO
 try simp only[(@id (min (Int.toNat 16) 64=16) rfl),F,go_sem]
 obtain⟨x2,dJ,h0⟩:=bs h0
 have lZ:=Ao.bh gO (Ao.self gQ ah) dJ
 have mf:=lZ.2
 try simp only[AA,AB,go_sem]at mf
 have F:=an (aq dJ) (an mf F)
 try simp only[(@id (min (Int.toNat 8) 64=8) rfl),F,go_sem]
 obtain⟨x3,cv,h0⟩:=bs h0
 have rG:=Ao.bh gO (Ao.self gQ ah) cv
 have tR:=rG.2
 try simp only[AA,AB,go_sem]at tR
 have F:=an (aq cv) (an tR F)
 try simp only[F,go_sem]
 obtain⟨x4,bF,h0⟩:=bs h0
 have fF:=Ao.bh gO (Ao.self gQ ah) bF
 have jP:=fF.2
 try simp only[AA,AB,go_sem]at jP
 have F:=an (aq bF) (an jP F)
 try simp only[F,go_sem]
 refine A7 F h0 ?_ ?_<;>intro F h0<;>try simp only[F,go_sem]
 refine AF F h0 ?_ ?_<;>intro F h0<;>try simp only[F,go_sem]
 obtain⟨x7,dq,h0⟩:=bs h0
 have ma:=Ao.bh gO (Ao.self gQ ah) dq
 have mh:=ma.2
 try simp only[AA,AB,go_sem]at mh
 have F:=an (aq dq) (an mh F)
 try simp only[F,go_sem]
 refine AF F h0 ?_ ?_<;>intro F h0<;>try simp only[F,go_sem]
 refine AF F h0 ?_ ?_<;>intro F h0<;>try simp only[F,go_sem]
 obtain rfl:=oi h0
 refine Ag rfl ?_
 try simp only[F,go_sem]
 obtain rfl:=oi h0
 refine Ag rfl ?_
 try simp only[F,go_sem]
 obtain rfl:=oi h0
 refine Ag rfl ?_
 try simp only[F,go_sem]
 obtain rfl:=oi h0
 refine Ag rfl ?_
 try simp only[F,go_sem]
 obtain⟨dz,lg,h0⟩:=bs h0
 have acV:=Ao.bh gO (Ao.self gQ ah) lg
 have akB:=acV.2
 try simp only[AA,AB,go_sem]at akB
 have F:=an (aq lg) (an akB F)
 try simp only[F,go_sem]
 refine AF F h0 ?_ ?_<;>intro F h0<;>try simp only[F,go_sem]
 refine AF F h0 ?_ ?_<;>intro F h0<;>try simp only[F,go_sem]
 obtain rfl:=oi h0
 refine Ag rfl ?_
 try simp only[F,go_sem]
 obtain rfl:=oi h0
 refine Ag rfl ?_
 try simp only[F,go_sem]
 obtain rfl:=oi h0
 refine Ag rfl ?_
 try simp only[F,go_sem]
end Go.Abs
namespace Go.Abs
open Go Go.Proofs Go.RowKit Go.Lib
def Fw.c:SC:=
 SQ [RG [oQ 4 (.assign (.const (.slice none 0 0))) 82 [4]],SQ [RG [wV 6 0 205,oQ 7 (.nilCheck (.tmp 6)) 0 [6],wF 8 207 7 0 [7],wD 9 82 8 [8],wL 10 9 82 3 [9],wV 11 1 3,wO 12 .lss 3 10 11 3 4 [10,11]],CN 12 (RG [oQ 13 (.build 203 #[]) 203,oQ 14 (.makeInterface 203 (.tmp 13)) 20 [13],⟨none,.panic (.tmp 14),0,none,[14]⟩]) .skip],RG [wV 15 0 205,oQ 16 (.nilCheck (.tmp 15)) 0 [15],wF 17 207 16 0 [16],
 wD 18 82 17 [17],wV 19 1 3,oQ 20 (.slice 82 (.tmp 18) none (some (.tmp 19)) none) 82 [18,19],wG 5 20 82 [20]],RG [wV 21 0 205,wV 22 0 205 [0],oQ 23 (.nilCheck (.tmp 22)) 0 [22],wF 24 207 23 0 [23],wD 25 82 24 [24],wV 26 1 3 [1],oQ 27 (.slice 82 (.tmp 25) (some (.tmp 26)) none none) 82 [25,26],oQ 28 (.nilCheck (.tmp 21)) 0 [21],wF 29 207 28 0 [28],wS 82 29 27 [27,29]],RG [wV 30 5 82 [5],
 wG 4 30 82 [30]],.ret]
theorem Fw.rs:Tryz.f134.results.toList=[.tmp 4]:=rfl
def DO.s0:SC:=
 SQ [RG [wO 13 .lss 3 12 11 3 0],CN 13 .skip (.exit 0),.block 1 (SQ [RG [wI 14 82 10 12,wD 15 5 14 [14],wG 7 15 5 [15]],RG [wV 16 5 3 [5],oQ 17 (.binOp .shl 3 (.tmp 16) (.const (.int .u64 8)) 172) 3 [16],wV 18 7 5 [7],wY 19 5 3 18 3 [18],wO 20 .or 3 17 19 3 3 [17,19],wG 5 20 3 [20]]]),RG [wK 21 .add 3 12 1 3 3 [12],wV 12 21 3 [21]]]
def DO.c:SC:=
 SQ [RG [wN 4 0 3 [4]],RG [wN 5 0 3],SQ [RG [wV 8 0 205 [0],wV 9 1 3 [1],wW 10 134 8 9 205 3 82 [8,9],wL 11 10 82 3,oQ 12 (.move (.const (.int .i64 0))) 3],.block 0 (.loop DO.s0)],RG [wV 22 5 3 [5],wG 4 22 3 [22]],.ret]
theorem DO.rs:Tryz.f133.results.toList=[.tmp 4]:=rfl
theorem ais {f:AH}{H:Heap}{l k:Nat}{b:Option AJ}:Heap.put (f::H) (l+1) k b=f::Heap.put H l k b:=by cases b<;>rfl
theorem eA {f:AH}{H:Heap}{l k:Nat}:Heap.get (f::H) (l+1) k=Heap.get H l k:=rfl
theorem hlen {H:Heap}{l k:Nat}{b:Option AJ}:(Heap.put H l k b).length=H.length:=by simp
def tH (left:List Int) (n:Int):Option (List Int×List Int):=if (left.length:Int)<n then none else some (left.take n.toNat,left.drop n.toNat)
def xR:List PanicEntry:=[{ v:=.iface 203 (.agg #[]),recovered:=false }]
def fp (left:List Int):AJ:=.box [.sl 1 (List.map ae left)]
theorem akb (left:List Int) (n:Int) (hn:0<=n) (H:Heap) (l k:Nat) (hg:Heap.get H l k=some (fp left)):Dk Tryz.prog 134 [.ptr (l+1) k 0,.int .i64 n] H
  (fun v fr H'=>∃ r,tH left n=some r/\v=.sl 1 (List.map ae r.1)/\fr=[]/\H'=Heap.put H l k (some (fp r.2)))
  (fun ch H'=>tH left n=none/\ch=xR/\H'=H):=by
 refine Dk.gD AE (fn:=Tryz.f134) (sc:=Fw.c) (by rfl) (by rfl) (by decide +kernel) (by rfl) (by decide +kernel) (Nat.le_of_ble_eq_true rfl) ?_ ?_ ?_
 ·refine rS ?_
  simp only[fp]at hg ⊢
  simp only[Fw.c,eA,hg,go_sem]
  refine IE (fun hc=>?_) (fun hc=>?_)
  ·simp only[go_sem]
   refine ID ?_
   intro fm ts u hu
   cases hu with
   |agg cs vs h1 h2 h3=>
    have:vs=#[]:=Array.eq_empty_of_size_eq_zero (by simpa using h1.symm)
    subst this
    exact⟨by unfold tH;rw[if_pos (by simpa using hc)],rfl,rfl⟩
  ·have af:¬ (left.length:Int)<n:=by simpa using hc
   have h1:ck left 0 n=some (left.take n.toNat):=by unfold ck;rw[if_pos (by omega)];simp
   have h2:ck left n left.length=some (left.drop n.toNat):=by
    unfold ck;rw[if_pos (by omega)];simp only[BQ,oE]
    apply Co;simp
   have e1:=aaE ae h1
   have e2:=xU ae h2
   simp only[go_sem]at e1 e2
   simp only[vu h1,tF h2,e1,e2,eA,ais,hg,Nat.add_one_ne_zero,go_sem]
   refine GV (.inl rfl) (y0:=.sl 1 (List.map ae (left.take n.toNat))) ?_ ?_
   ·simp only[Fw.rs,cm,Ae,vu h1,tF h2,e1,e2,go_sem]
   ·exact⟨_,by unfold tH;rw[if_neg af],rfl,rfl,by simp only[fp,vu h1,tF h2,e1,e2,go_sem]⟩
 ·rintro y fr H' ⟨r,_,_,_,rfl⟩;simp
 ·rintro ch H' ⟨_,_,rfl⟩;rfl
def acm (k:Nat) (l:List Int):(Int×Int)->Option (AN (Int×Int) Int Unit):=fun(s:Int×Int)=>match s with
 |(out,i)=>
  bif decide (i<(l.length:Int)) then
   (at? l i).bind fun x=>
   some (.next (fT .i64 (ab (out*2 ^ 8)) (ab x),ab (i+1)))
  else some (.brk out)
def j7 (k:Nat) (left:List Int) (n:Int):Option (Option (Int×List Int)):=
 match tH left n with
 |none=>some none
 |some r=>(ai (acm k r.1) k (0,0)).bind fun q=>match q with
  |.brk out=>some (some (out,r.2))
  |_=>none
def acn (l:List Int) (H:Heap):(Int×Int)->St:=fun(s:Int×Int)=>match s with
 |(out,i)=>⟨[(5,.int .i64 out),(10,.sl 1 (List.map ae l)),(11,.int .i64 (l.length:Int)),(12,.int .i64 i)],[],H,1,Tryz.f133.ntmps⟩
def aeW (H:Heap):Int->St:=fun(out:Int)=>⟨[(5,.int .i64 out)],[],H,1,Tryz.f133.ntmps⟩
theorem tr (k0:Nat) (left:List Int) (n:Int) (r:Option (Int×List Int)) (h0:j7 k0 left n=some r) (hn:0<=n) (H:Heap) (l k:Nat) (hg:Heap.get H l k=some (fp left)):Dk Tryz.prog 133 [.ptr (l+1) k 0,.int .i64 n] H
  (fun v fr H'=>∃ x,r=some x/\v=.int .i64 x.1/\fr=[]/\H'=Heap.put H l k (some (fp x.2)))
  (fun ch H'=>r=none/\ch=xR/\H'=H):=by
 refine Dk.gD AE (fn:=Tryz.f133) (sc:=DO.c) (by rfl) (by rfl) (by decide +kernel) (by rfl) (by decide +kernel) (Nat.le_of_ble_eq_true rfl) ?_ ?_ ?_
 ·refine rS ?_
  simp only[DO.c,go_sem]
  refine C5 (akb left n hn _ (l+1) k (by simpa only [eA] using hg)) ?_ ?_
  ·rintro y fr H' ⟨q,hq,rfl,rfl,rfl⟩
   refine rS ?_
   unfold j7 at h0
   rw[hq]at h0
   simp only at h0
   obtain⟨r6,rR,h0⟩:=bs h0
   simp only[ais,go_sem]
   refine A5 rR (acn q.1 (Heap.put H l k (some (fp q.2)))) (aeW (Heap.put H l k (some (fp q.2)))) ?_ ?_ ?_
   ·refine Al.go [5,10,11,12] [] rfl ?_
    try simp only[acn,go_sem]
   ·rintro⟨i1,i2⟩ bO Bd Ba h1 az ax bg
    refine rS ?_
    simp only[acm]at h1
    try simp only[DO.s0,acn,go_sem]
    refine AP h1 (fun c4 h1=>?_) (fun c4 h1=>?_)
    ·try simp only[c4,(@id (min (Int.toNat 8) 64=8) rfl),go_sem]
     obtain⟨x5,cn,h1⟩:=bs h1
     try simp only[aI cn,aH ae cn,c4,go_sem]
     refine Ax (az _ _ (oi h1).symm ?_)
     refine Al.go [5,10,11,12] [] rfl ?_
     try simp only[acn,c4,aI cn,aH ae cn,go_sem]
    ·try simp only[c4,go_sem]
     refine Ax (ax _ _ (oi h1).symm ?_)
     refine Al.go [5] [] rfl ?_
     try simp only[aeW,c4,go_sem]
   ·rintro out aA
    subst aA
    simp only at h0
    refine rS ?_
    try simp only[aeW,go_sem]
    refine GV (.inl rfl) (y0:=.int .i64 out) ?_ ?_
    ·simp only[DO.rs,cm,Ae,go_sem]
    ·exact⟨_,(oi h0).symm,rfl,rfl,rfl⟩
  ·rintro ch H' ⟨hq,rfl,rfl⟩
   unfold j7 at h0
   rw[hq]at h0
   exact⟨(oi h0).symm,rfl,rfl⟩
 ·rintro y fr H' ⟨r,_,_,_,rfl⟩;simp
 ·rintro ch H' ⟨_,_,rfl⟩;rfl
theorem anr (px pl pi:Value) (w:World):
  CallsD Tryz.prog 132 #[px,pl,pi] .returning w fun e u' w'=>e=.returned (.tuple #[])/\u'=.returning/\w'=w:=by
 have zJ:∀ w,(binOp .neq 20 .nilIface .nilIface).run Tryz.prog w=.ok (.bool false) w:=fun _=>by rfl
 have lG:Tryz.f132.ntmps=18:=by rfl
 refine callsD_of_wpS (fn:=Tryz.f132) (by rfl) (by rfl) fun agY cs hu=>?_
 apply wpS_seq
 apply wpS_region
 simp[wpOpsS,go_sem,recoverD,hu,lG,Exit.thenS]
 apply wpS_seq
 apply wpS_region
 simp[wpOpsS,go_sem,zJ,Exit.thenS]
 refine wpS_cond (t:=false) (by simp[Act.eval,Array.replicate]) ?_
 simp only[C4,if_false]
 refine wpS_of_wp (wp_skip ?_)
 cases agY
 simp_all [bodyPostS,results,(show Tryz.f132.results=#[] from rfl)]
def qd:List AV:=[.int .i64 0,.int .i64 0,.int .i64 0,.int .i64 0,.int .i64 0,.int .i64 0,.int .i64 0,.str ByteArray.empty]
def Hi.r5:SC:=
 RG [oQ 17 (.build 29 #[]) 29,wS 29 0 17 [0,17],⟨none,.store 82 (.tmp 1) (.const (.slice none 0 0)),0,none,[1]⟩,⟨none,.store 4 (.tmp 2) (.const (.bool false)),0,none,[2]⟩]
theorem anq {N0:Nat}{W0:World}{fm:FM}{ts:List Aw}{fr:AH}{low:Heap}{w:World} (hr:HR N0 W0 fm ts (fr::low) w) {px pl pi:Value}{kx kl ki:Nat}{c8:List AV}{cl ci:AV}
  (pD:VR fm ts (.ptr 0 kx 0) px) (hl:VR fm ts (.ptr 0 kl 0) pl) (hi:VR fm ts (.ptr 0 ki 0) pi) (gx:look fr kx=some (.box c8)) (h8:c8.length=8) (gl:look fr kl=some (.box [cl])) (gi:look fr ki=some (.box [ci])) (n1:kx≠kl) (n2:kx≠ki) (n3:kl≠ki):
  CallsD Tryz.prog 132 #[px,pl,pi] (.panicking xR) w fun e u' w'=>e=.returned (.tuple #[])/\u'=.panicking [{ v:=.iface 203 (.agg #[]),recovered:=true }]/\
   ∃ fm' ts' aZ,HR N0 W0 fm' ts' (aZ::low) w'/\AU N0 fm fm'/\AD ts ts'/\(∀ l k,tb ts l k=none->tb ts' l k=none)/\look aZ kx=some (.box qd)/\look aZ kl=some (.box [.nil])/\look aZ ki=some (.box [.bool false]):=by
 have zJ:∀ w,(binOp .neq 20 (.iface 203 (.agg #[])) .nilIface).run Tryz.prog w=.ok (.bool true) w:=fun _=>by rfl
 have hta:∀ w,(Instr.typeAssert (.iface 203 (.agg #[])) 20 203 true).run Tryz.prog w=.ok (.tuple #[.agg #[],.bool true]) w:=fun _=>by rfl
 have lG:Tryz.f132.ntmps=18:=by rfl
 refine callsD_of_wpS (fn:=Tryz.f132) (by rfl) (by rfl) fun agY cs hu=>?_
 apply wpS_seq
 apply wpS_region
 simp[wpOpsS,go_sem,recoverD,hu,lG,xR,Exit.thenS]
 apply wpS_seq
 apply wpS_region
 simp[wpOpsS,go_sem,zJ,Exit.thenS]
 refine wpS_cond (t:=true) (by simp[Act.eval,Array.replicate]) ?_
 simp only[if_true]
 apply wpS_seq
 apply wpS_seq
 apply wpS_region
 simp[wpOpsS,go_sem,hta,Exit.thenS]
 apply wpS_seq
 apply wpS_region
 simp[wpOpsS,go_sem,Exit.thenS]
 refine wpS_cond (t:=false) (by simp[Act.eval,Array.replicate]) ?_
 simp only[C4,if_false]
 refine wpS_of_wp (wp_skip ?_)
 simp only[Exit.thenS]
 refine wpS_of_wp ?_
 refine(yc []).1 ?_
 have hd8:List.drop 8 c8=[]:=by simp[h8]
 have aoO:(8<=c8.length)=True:=by simp[h8]
 have gk:HR N0 W0 fm ts (fr::low) (w.alloc (.cells #[] 203)):=hr.world (fun i hi=>heap_alloc_old w _ hi) ((Below.refl N0 w).alloc hr.size _)
 refine AK.last (N0:=N0) (W0:=W0) (Φ:=fun e ay=>e=.normal/\∃ aZ,ay.low=aZ::low/\look aZ kx=some (.box qd)/\look aZ kl=some (.box [.nil])/\look aZ ki=some (.box [.bool false]))
  (st:=⟨[(0,.ptr 1 kx 0),(1,.ptr 1 kl 0),(2,.ptr 1 ki 0)],[],fr::low,0,18⟩) (n:=18) (s:=Hi.r5) (fm:=fm) (ts:=dF::ts) ?_ ?_ (by rfl) (by rfl) ?_
 ·refine⟨gk.push,?_,fun _ _=>rfl,by simp,rfl⟩
  intro t x hx
  simp only[look]at hx
  split at hx
  ·subst_vars;obtain rfl:=oi hx;exact⟨px,by simp,pD.sh 1 (by simp)⟩
  ·split at hx
   ·subst_vars;obtain rfl:=oi hx;exact⟨pl,by simp,hl.sh 1 (by simp)⟩
   ·split at hx
    ·subst_vars;obtain rfl:=oi hx;exact⟨pi,by simp,hi.sh 1 (by simp)⟩
    ·cases hx
 ·refine rS ?_
  simp only[Hi.r5,gx,gl,gi,tp,n1,n2,n3,n1.symm,n2.symm,n3.symm,hd8,aoO,CA,if_true,if_false,go_sem]
  exact⟨rfl,_,rfl,by simp[tp,n1,n2,n3,n1.symm,n2.symm,n3.symm,qd],by simp[tp,n1,n2,n3,n1.symm,n2.symm,n3.symm],by simp[tp]⟩
 ·rintro e ay a' w' fm' ts' ⟨rfl,aZ,h1,h2,h3,h4⟩ hS hL
  cases ts' with
  |nil=>have:=hS.hr.len;simp at this
  |cons t1 rest=>
   have hp:=hS.hr.pop
   rw[h1]at hp
   exact⟨hS.fy,_,rfl,.tuple #[],by simp[results,(show Tryz.f132.results=#[] from rfl)],rfl,rfl,fm',rest,aZ,hp,hL.fj,by simpa using hL.ke,by simpa using hL.no,h2,h3,h4⟩
def CP.c:SC:=
 SQ [RG [wA 2 29,wA 3 82,wA 4 4],RG [oQ 6 (.makeFunc (.func 132) #[] #[.tmp 2,.tmp 3,.tmp 4]) 1,⟨none,.defer ⟨.value (.tmp 6),#[],#[]⟩,0,none,[6]⟩],RG [wV 7 0 82 [0],oQ 8 (.build 207 #[(0,.tmp 7)]) 207 [7],oQ 9 (.box 207 (.tmp 8)) 205 [8],wG 5 9 205 [9]],RG [wV 10 5 205,wC 11 133 #[.tmp 10,.const (.int .i64 1)] #[205,3] 3 [10],wV 12 5 205,wC 13 133 #[.tmp 12,.const (.int .i64 2)] #[205,3] 3 [12],
 oQ 14 (.build 27 #[(0,.tmp 11),(1,.tmp 13)]) 27 [11,13],wF 15 29 2 0,wS 27 15 14 [14,15]],RG [wV 16 5 205,wC 17 133 #[.tmp 16,.const (.int .i64 1)] #[205,3] 3 [16],wF 18 29 2 1,wS 3 18 17 [17,18]],RG [wV 19 5 205,wC 20 133 #[.tmp 19,.const (.int .i64 4)] #[205,3] 3 [19],wF 21 29 2 2,wS 3 21 20 [20,21]],RG [wV 22 5 205,wC 23 133 #[.tmp 22,.const (.int .i64 4)] #[205,3] 3 [22],wF 24 29 2 3,
 wS 3 24 23 [23,24]],RG [wV 25 5 205,wC 26 133 #[.tmp 25,.const (.int .i64 1)] #[205,3] 3 [25],wV 27 5 205,wC 28 133 #[.tmp 27,.const (.int .i64 2)] #[205,3] 3 [27],oQ 29 (.build 27 #[(0,.tmp 26),(1,.tmp 28)]) 27 [26,28],wF 30 29 2 4,wS 27 30 29 [29,30]],RG [wV 31 5 205,wV 32 5 205,wC 33 133 #[.tmp 32,.const (.int .i64 1)] #[205,3] 3 [32],wW 34 134 31 33 205 3 82 [31,33],wY 35 82 9 34 9 [34],
 wF 36 29 2 5,wS 9 36 35 [35,36]],.aS [wD 37 29 2,wV 38 5 205,oQ 39 (.nilCheck (.tmp 38)) 0,wF 40 207 39 0,wD 41 82 40,wD 42 29 2,wU 43 95 42 29 4,wS 29 2 37,wS 82 3 41,wS 4 4 43] [[],[],[1],[1,2],[1,2,3],[],[5],[0,5,6],[1,2,3,4,0,5,6,7],[5,6,1,2,3,4,0,7,8]] [5,37,38,39,40,41,42,43],.ret]
theorem CP.rs:Tryz.f131.results.toList=[.cell 2 29,.cell 3 82,.cell 4 4]:=rfl
def SC.snd:SC->SC
 |.seq _ b=>b
 |x=>x
def SC.fst:SC->SC
 |.seq a _=>a
 |x=>x
def bS:Code->Code
 |.seq a _=>a
 |x=>x
def al:Code->Code
 |.seq _ b=>b
 |x=>x
def CP.r0:SC:=
 CP.c.fst
def CP.rest:SC:=
 CP.c.snd.snd
def D3:Code:=Tryz.f131.body.getD .skip
def yM (k:Nat) (b:List Int):Option (Option (Ab×List Int)):=
 (j7 k b 1).bind fun q0=>match q0 with
 |none=>some none
 |some (ho,l0)=>
  (j7 k l0 2).bind fun q1=>match q1 with
  |none=>some none
  |some (no,l1)=>
   (j7 k l1 1).bind fun q2=>match q2 with
   |none=>some none
   |some (ki,l2)=>
    (j7 k l2 4).bind fun q3=>match q3 with
    |none=>some none
    |some (da,l3)=>
     (j7 k l3 4).bind fun q4=>match q4 with
     |none=>some none
     |some (kn,l4)=>
      (j7 k l4 1).bind fun q5=>match q5 with
      |none=>some none
      |some (oh,l5)=>
       (j7 k l5 2).bind fun q6=>match q6 with
       |none=>some none
       |some (on_,l6)=>
        (j7 k l6 1).bind fun q7=>match q7 with
        |none=>some none
        |some (m,l7)=>
         if 0<=m then match tH l7 m with
          |none=>some none
          |some (tx,l8)=>some (some (⟨⟨ho,no⟩,ki,da,kn,⟨oh,on_⟩,strOf tx⟩,l8))
         else none
def abx (k:Nat) (b:List Int):Option (Ab×List Int×Bool):=
 (yM k b).bind fun q=>match q with
 |none=>some (⟨⟨0,0⟩,0,0,0,⟨0,0⟩,ByteArray.empty⟩,[],false)
 |some (x,left)=>(oW k x).bind fun is=>some (x,left,is)
def agZ (q:Option (Ab×List Int)) (is:Bool) (e:Exit) (st:St):Prop:=
 match q with
 |none=>e=.panic xR/\(look st.tm 2=some (.ptr 1 0 0)/\look st.tm 3=some (.ptr 1 16 0)/\look st.tm 4=some (.ptr 1 32 0))/\∃ fr c8 cl ci,st.low=[fr]/\look fr 0=some (.box c8)/\c8.length=8/\look fr 16=some (.box [cl])/\look fr 32=some (.box [ci])
 |some (x,left)=>e=.ret/\(∃ fr,st.low=[fr])/\ij T st [.cell 2 29,.cell 3 82,.cell 4 4]=some [.agg (Ab.c x),.sl 1 (List.map ae left),.bool is]
def adC:AH:=[(0,.box qd),(16,.box [.loc 0 17 1 0 0 0]),(17,.arr 5 1 []),(32,.box [.bool false])]
def adD (b:List Int):St:=⟨[(0,.sl 1 (List.map ae b)),(2,.ptr 0 0 0),(3,.ptr 0 16 0),(4,.ptr 0 32 0)],adC,[],48,Tryz.f131.ntmps⟩
def ag0 (b:List Int):St:=⟨[(0,.sl 1 (List.map ae b)),(2,.ptr 1 0 0),(3,.ptr 1 16 0),(4,.ptr 1 32 0)],[],[adC],0,Tryz.f131.ntmps⟩
theorem anw [Md] (k:Nat) (b:List Int) (q:Option (Ab×List Int)) (h0:yM k b=some q) (is:Bool) (his:∀ x left,q=some (x,left)->oW k x=some is):
  AK Tryz.prog Tryz.f131.ntmps (agZ q is) [.sc CP.rest] (ag0 b):=by
 unfold ag0 adC qd
 refine rS ?_
 unfold yM at h0
 simp only[CP.rest,CP.c,SC.snd,go_sem]
 obtain⟨q0,yq0,h0⟩:=bs h0
 refine C5 (tr k b 1 q0 yq0 (by decide) _ 0 _ (by simp only[fp,go_sem])) ?_ ?_
 rotate_left
 ·rintro ch H ⟨rfl,rfl,rfl⟩
  obtain rfl:=oi h0
  exact⟨rfl,⟨rfl,rfl,rfl⟩,_,_,_,_,rfl,rfl,rfl,rfl,rfl⟩
 rintro y fr H ⟨⟨ho,l0⟩,rfl,rfl,rfl,rfl⟩
 refine rS ?_
 simp only at h0
 simp only[fp,go_sem]
 obtain⟨q1,yq1,h0⟩:=bs h0
 refine C5 (tr k l0 2 q1 yq1 (by decide) _ 0 _ (by simp only[fp,go_sem])) ?_ ?_
 rotate_left
 ·rintro ch H ⟨rfl,rfl,rfl⟩
  obtain rfl:=oi h0
  exact⟨rfl,⟨rfl,rfl,rfl⟩,_,_,_,_,rfl,rfl,rfl,rfl,rfl⟩
 rintro y fr H ⟨⟨no,l1⟩,rfl,rfl,rfl,rfl⟩
 refine rS ?_
 simp only at h0
 simp only[fp,go_sem]
 obtain⟨q2,yq2,h0⟩:=bs h0
 refine C5 (tr k l1 1 q2 yq2 (by decide) _ 0 _ (by simp only[fp,go_sem])) ?_ ?_
 rotate_left
 ·rintro ch H ⟨rfl,rfl,rfl⟩
  obtain rfl:=oi h0
  exact⟨rfl,⟨rfl,rfl,rfl⟩,_,_,_,_,rfl,rfl,rfl,rfl,rfl⟩
 rintro y fr H ⟨⟨ki,l2⟩,rfl,rfl,rfl,rfl⟩
 refine rS ?_
 simp only at h0
 simp only[fp,go_sem]
 obtain⟨q3,yq3,h0⟩:=bs h0
 refine C5 (tr k l2 4 q3 yq3 (by decide) _ 0 _ (by simp only[fp,go_sem])) ?_ ?_
 rotate_left
 ·rintro ch H ⟨rfl,rfl,rfl⟩
  obtain rfl:=oi h0
  exact⟨rfl,⟨rfl,rfl,rfl⟩,_,_,_,_,rfl,rfl,rfl,rfl,rfl⟩
 rintro y fr H ⟨⟨da,l3⟩,rfl,rfl,rfl,rfl⟩
 refine rS ?_
 simp only at h0
 simp only[fp,go_sem]
 obtain⟨q4,yq4,h0⟩:=bs h0
 refine C5 (tr k l3 4 q4 yq4 (by decide) _ 0 _ (by simp only[fp,go_sem])) ?_ ?_
 rotate_left
 ·rintro ch H ⟨rfl,rfl,rfl⟩
  obtain rfl:=oi h0
  exact⟨rfl,⟨rfl,rfl,rfl⟩,_,_,_,_,rfl,rfl,rfl,rfl,rfl⟩
 rintro y fr H ⟨⟨kn,l4⟩,rfl,rfl,rfl,rfl⟩
 refine rS ?_
 simp only at h0
 simp only[fp,go_sem]
 obtain⟨q5,yq5,h0⟩:=bs h0
 refine C5 (tr k l4 1 q5 yq5 (by decide) _ 0 _ (by simp only[fp,go_sem])) ?_ ?_
 rotate_left
 ·rintro ch H ⟨rfl,rfl,rfl⟩
  obtain rfl:=oi h0
  exact⟨rfl,⟨rfl,rfl,rfl⟩,_,_,_,_,rfl,rfl,rfl,rfl,rfl⟩
 rintro y fr H ⟨⟨oh,l5⟩,rfl,rfl,rfl,rfl⟩
 refine rS ?_
 simp only at h0
 simp only[fp,go_sem]
 obtain⟨q6,yq6,h0⟩:=bs h0
 refine C5 (tr k l5 2 q6 yq6 (by decide) _ 0 _ (by simp only[fp,go_sem])) ?_ ?_
 rotate_left
 ·rintro ch H ⟨rfl,rfl,rfl⟩
  obtain rfl:=oi h0
  exact⟨rfl,⟨rfl,rfl,rfl⟩,_,_,_,_,rfl,rfl,rfl,rfl,rfl⟩
 rintro y fr H ⟨⟨on_,l6⟩,rfl,rfl,rfl,rfl⟩
 refine rS ?_
 simp only at h0
 simp only[fp,go_sem]
 obtain⟨q7,yq7,h0⟩:=bs h0
 refine C5 (tr k l6 1 q7 yq7 (by decide) _ 0 _ (by simp only[fp,go_sem])) ?_ ?_
 rotate_left
 ·rintro ch H ⟨rfl,rfl,rfl⟩
  obtain rfl:=oi h0
  exact⟨rfl,⟨rfl,rfl,rfl⟩,_,_,_,_,rfl,rfl,rfl,rfl,rfl⟩
 rintro y fr H ⟨⟨m,l7⟩,rfl,rfl,rfl,rfl⟩
 refine rS ?_
 simp only at h0
 simp only[fp,go_sem]
 split at h0
 ·rename_i hm
  refine C5 (akb l7 m hm _ 0 _ (by simp only[fp,go_sem])) ?_ ?_
  rotate_left
  ·rintro ch H ⟨hq,rfl,rfl⟩
   rw[hq]at h0
   obtain rfl:=oi h0
   exact⟨rfl,⟨rfl,rfl,rfl⟩,_,_,_,_,rfl,rfl,rfl,rfl,rfl⟩
  rintro y fr H ⟨⟨tx,l8⟩,hq,rfl,rfl,rfl⟩
  rw[hq]at h0
  obtain rfl:=oi h0
  refine rS ?_
  simp only[fp,adv,aj3,go_sem]
  refine AL AE aO 1000 ?_
  simp only[go_sem]
  refine dc0 (abB k ⟨⟨ho,no⟩,ki,da,kn,⟨oh,on_⟩,strOf tx⟩ is (his _ _ rfl)) ?_ ?_
  ·try simp only[go_sem]
  try simp only[go_sem]
  refine aG ?_
  try simp only[go_sem]
  exact⟨rfl,⟨_,rfl⟩,by simp only[go_sem]⟩
 ·cases h0
theorem amC (k:Nat) (b:List Int) (r:Ab×List Int×Bool) (h0:abx k b=some r):Ay Tryz.prog 131 [.sl 1 (List.map ae b)] (fun y=>y=.aw [.agg (Ab.c r.1),.sl 1 (List.map ae r.2.1),.bool r.2.2]):=by
 obtain⟨q,hq,h0⟩:=bs h0
 obtain⟨is,his⟩:∃ is,∀ x left,q=some (x,left)->oW k x=some is/\r=(x,left,is):=by
  cases q with
  |none=>exact⟨false,by rintro x left h;cases h⟩
  |some p=>
   obtain⟨x,left⟩:=p
   simp only at h0
   obtain⟨is,h1,h0⟩:=bs h0
   refine⟨is,fun x' as6 h=>?_⟩
   simp only[oE,Prod.mk.injEq]at h
   obtain⟨rfl,rfl⟩:=h
   exact⟨h1,(oi h0).symm⟩
 have hrN:q=none->r=(⟨⟨0,0⟩,0,0,0,⟨0,0⟩,ByteArray.empty⟩,[],false):=by rintro rfl;exact(oi h0).symm
 refine Ay.nlr ⟨⟨Tryz.f131,by rfl,by rfl,by rfl⟩,fun fm w vs bT hv=>?_⟩
 have lG:Tryz.f131.ntmps=44:=by rfl
 refine calls_of_wp_defers (fn:=Tryz.f131) (c:=D3) (by rfl) (by rfl) ((yc []).1 ?_)
 have hS:=SR.enter (HR.nothing bT) (vs:=vs) (args:=[.sl 1 (List.map ae b)]) (n:=Tryz.f131.ntmps) ⟨hv.1,fun i x v p q=>(hv.2 i x v p q).mono (Bh.refl _) (AD.nil _)⟩ (by rw[lG];simp)
 have e90:D3=.seq (bS D3) (.seq (bS (al D3)) (al (al D3))):=by rfl
 rw[e90]
 refine(show K Tryz.prog _ [.code (.seq _ _)] .normal _ w from ?_)
 refine DH ?_
 refine AK.seg (Φ:=fun _ _=>False) (B:=fun st=>st=adD b) (s:=CP.r0) hS ?_ (by rfl) (by rfl) ?_ (fun _ _ _ _ _ _ h=>h.elim)
 ·refine rS ?_
  simp only[CP.r0,CP.c,SC.fst,go_sem]
  exact rfl
 ·rintro ay a1 w1 gV en rfl dX lD
  refine DH ?_
  obtain⟨px,pD,vx⟩:=dX.tm 2 (.ptr 0 0 0) rfl
  obtain⟨pl,xk,vl⟩:=dX.tm 3 (.ptr 0 16 0) rfl
  obtain⟨pi,iD,vi⟩:=dX.tm 4 (.ptr 0 32 0) rfl
  obtain⟨p0,p1,q0,q1,e1⟩:∃ p0 p1 q0 q1,bS (al D3)=.region 1 #[⟨some 6,.makeFunc (.func 132) #[] #[.tmp 2,.tmp 3,.tmp 4],1,p0,q0,none⟩,⟨none,.defer ⟨.value (.tmp 6),#[],#[]⟩,0,p1,q1,none⟩] false:=⟨_,_,_,_,rfl⟩
  rw[e1]
  refine FQ ?_
  change K Tryz.prog _ (BL.ops _ [0,1]::_) .normal a1 w1
  have aoD:a1.eval (.tmp 2)=px:=by simp[Act.eval,Array.getD_eq_getD_getElem?,pD]
  have aoE:a1.eval (.tmp 3)=pl:=by simp[Act.eval,Array.getD_eq_getD_getElem?,xk]
  have aoF:a1.eval (.tmp 4)=pi:=by simp[Act.eval,Array.getD_eq_getD_getElem?,iD]
  refine FP rfl rfl ?_
  refine acs (w':=w1) (v:=.func (.func 132) #[] #[px,pl,pi]) (fun c h=>by cases h) ?_ ?_
  ·simp[execOp,Instr.makeFunc,aoD,aoE,aoF]
  have aC:6<a1.tmps.size:=by rw[dX.size,lG];decide
  refine FP rfl rfl ?_
  refine aqo (w':=w1) (d:={ target:=.fn (.func 132) #[px,pl,pi],args:=#[] }) ?_ rfl ?_
  ·have he6:(a1.put (some 6) (.func (.func 132) #[] #[px,pl,pi])).eval (.tmp 6)=.func (.func 132) #[] #[px,pl,pi]:=by
    simp[Act.eval,Act.put,Array.getD_eq_getD_getElem?,aC]
   simp[execOp,resolve,he6,Deferred.ofValue]
  refine IW ?_
  have aol:@SR pL w.heap.size w Tryz.f131.ntmps (adD b) (a1.put (some 6) (.func (.func 132) #[] #[px,pl,pi])) w1 gV en:=by
   refine⟨dX.hr,fun t x hx=>?_,dX.nx,by rw[aav];exact dX.size,by rw[xK];exact dX.fy⟩
   obtain⟨v,h1,h2⟩:=dX.tm t x hx
   have ht6:6≠t:=by rintro rfl;simp[adD,look]at hx
   exact⟨v,by simp only[Act.put];rw[Array.getElem?_setIfInBounds,if_neg ht6];exact h1,h2⟩
  have ga:=SR.deep (tm':=[(0,.sl 1 (List.map ae b)),(2,.ptr 1 0 0),(3,.ptr 1 16 0),(4,.ptr 1 32 0)]) aol (by
   intro t x hx
   simp only[look]at hx
   split at hx
   ·subst_vars;obtain rfl:=oi hx;exact⟨_,rfl,rfl⟩
   ·split at hx
    ·subst_vars;obtain rfl:=oi hx;exact⟨_,rfl,rfl⟩
    ·split at hx
     ·subst_vars;obtain rfl:=oi hx;exact⟨_,rfl,rfl⟩
     ·split at hx
      ·subst_vars;obtain rfl:=oi hx;exact⟨_,rfl,rfl⟩
      ·cases hx)
  have kI:=SR.wg pL ⟨none,[{ target:=.fn (.func 132) #[px,pl,pi],args:=#[] }]⟩ ga (a':=({ (a1.put (some 6) (.func (.func 132) #[] #[px,pl,pi])) with defers:={ target:=.fn (.func 132) #[px,pl,pi],args:=#[] }::(a1.put (some 6) (.func (.func 132) #[] #[px,pl,pi])).defers }.put none undef)) rfl (by
   have h1:=dX.fy
   have h2:(a1.put (some 6) (.func (.func 132) #[] #[px,pl,pi])).defers=[]:=by rw[xK];exact h1
   show _::_=_
   rw[h2]
   rfl)
  rw[FO pL ⟨none,[{ target:=.fn (.func 132) #[px,pl,pi],args:=#[] }]⟩ rfl]
  refine @AK.last ⟨none,[{ target:=.fn (.func 132) #[px,pl,pi],args:=#[] }]⟩ _ _ _ _ _ _ _ _ _ _ (agZ q is) _ CP.rest kI (@anw ⟨none,[{ target:=.fn (.func 132) #[px,pl,pi],args:=#[] }]⟩ k b q hq is (fun x left h=>(his x left h).1)) (by rfl) (by rfl) ?_
  intro e ay a' w' fm' ts' hE du hL
  obtain⟨s1,s2,s3,s4,s5⟩:=du
  have uF:a'.defers=[{ target:=.fn (.func 132) #[px,pl,pi],args:=#[] }]:=s5
  obtain⟨t1,rest,rfl⟩:∃ t1 rest,ts'=t1::rest:=by
   cases ts' with
   |nil=>have:=s1.len;simp at this
   |cons t1 rest=>exact⟨t1,rest,rfl⟩
  have air:=s1.pop
  have ab9:AD en rest:=by simpa using hL.ke
  have bw:∀ l k,tb en l k=none->tb rest l k=none:=by simpa using hL.no
  cases q with
  |none=>
   obtain⟨rfl,⟨g2,g3,g4⟩,fr,c8,cl,ci,iN,gx,h8,gl,gi⟩:=hE
   rw[iN]at air
   show Leaves Tryz.prog Tryz.f131 a'.tmps _ a'.defers (.panicking xR) w'
   rw[uF]
   have b9:∀ {x:AV}{v:Value},VR gV en x v->VR fm' rest x v:=fun h=>h.mono hL.fj.le ab9
   refine leaves_cons (f:=132) (args:=#[px,pl,pi]) (by simp) (by simp[invoke,callFunc];rfl) ?_
   refine(anq air (b9 vx) (b9 vl) (b9 vi) gx h8 gl gi (by decide) (by decide) (by decide)).mono ?_
   rintro e2 u' w2 ⟨rfl,rfl,fZ,eU,fr2,mK,hf2,ot,qP,e1,e2,e3⟩
   have hr0:=hrN rfl
   subst hr0
   have ptr:∀ {t k:Nat},look ay.tm t=some (.ptr 1 k 0)->∃ v,a'.tmps[t]?=some v/\VR fZ eU (.ptr 0 k 0) v:=by
    intro t k ht
    obtain⟨v,h1,h2⟩:=s2 t _ ht
    exact⟨v,h1,(h2.un 1 (y:=.ptr 0 k 0) rfl).mono hf2.le ot⟩
   have hSf:@SR pL w.heap.size w Tryz.f131.ntmps ⟨[(2,.ptr 0 0 0),(3,.ptr 0 16 0),(4,.ptr 0 32 0)],fr2,[],48,Tryz.f131.ntmps⟩ { a' with defers:=[] } w2 fZ eU:=by
    refine @SR.mk pL _ _ _ _ _ _ _ _ mK ?_ (fun k hk=>qP 0 k (bw 0 k (dX.nx k hk))) s4 rfl
    intro t x hx
    simp only[look]at hx
    split at hx
    ·subst_vars;obtain rfl:=oi hx;exact ptr g2
    ·split at hx
     ·subst_vars;obtain rfl:=oi hx;exact ptr g3
     ·split at hx
      ·subst_vars;obtain rfl:=oi hx;exact ptr g4
      ·cases hx
   obtain⟨v,h1,h2⟩:=tC (P:=Tryz.prog) (fn:=Tryz.f131) (xs:=[.agg qd,.nil,.bool false]) AE hSf (by
    rw[CP.rs]
    simp only[qd]at e1
    simp only[qd,e1,e2,e3,go_sem])
   refine⟨v,h1,v,.aw [.agg qd,.nil,.bool false],fZ,rfl,?_,mK.cV,?_,?_,mK.dL⟩
   ·exact NL.rD (AZ.cons (NL.refl _) (AZ.cons (NL.nil _) (AZ.cons (NL.refl _) AZ.nil)))
   ·have:=h2.un eU.length (y:=.aw [.agg qd,.nil,.bool false]) rfl
    rwa [List.drop_length]at this
   ·exact(lD.fj.trans hL.fj).trans hf2
  |some p=>
   obtain⟨x,left⟩:=p
   obtain⟨rfl,⟨fr,iN⟩,aes⟩:=hE
   show Leaves Tryz.prog Tryz.f131 a'.tmps _ a'.defers .returning w'
   rw[uF]
   refine leaves_cons (f:=132) (args:=#[px,pl,pi]) (by simp) (by simp[invoke,callFunc];rfl) ?_
   refine(anr px pl pi w').mono ?_
   rintro e2 u' w2 ⟨rfl,rfl,rfl⟩
   obtain⟨asW,rfl⟩:=his x left rfl
   have hSf:@SR pL w.heap.size w Tryz.f131.ntmps ay { a' with defers:=[] } w2 fm' (t1::rest):=@SR.mk pL _ _ _ _ _ _ _ _ s1 s2 s3 s4 rfl
   obtain⟨v,h1,h2⟩:=tC (P:=Tryz.prog) (fn:=Tryz.f131) (xs:=[.agg (Ab.c x),.sl 1 (List.map ae left),.bool is]) AE hSf (by rw[CP.rs];exact aes)
   refine⟨v,h1,v,.aw [.agg (Ab.c x),.sl 1 (List.map ae left),.bool is],fm',rfl,.refl _,s1.cV,?_,?_,s1.dL⟩
   ·have:=h2.un (t1::rest).length (y:=.aw [.agg (Ab.c x),.sl 1 (List.map ae left),.bool is]) (by simp only[cm,AV.un,AV.gq,(akv.ou x).un,Be])
    rwa [List.drop_length]at this
   ·exact lD.fj.trans hL.fj
def Dx.s1:SC:=
 SQ [RG [wO 76 .lss 3 75 74 3 0],CN 76 .skip (.exit 2),.block 3 (SQ [RG [wV 77 75 3,wI 78 97 73 75,wD 79 105 78 [78],wA 19 105,wG 18 77 3 [77],wS 105 19 79 [79]],.aS [wV 80 0 99,wV 81 1 3,wV 82 2 3,wV 83 18 3,wO 84 .add 3 82 83 3 3,wC 85 102 #[.tmp 80,.tmp 81,.tmp 84] #[99,3,3] 105,wD 86 105 19,wO 87 .neq 105 85 86 105 4] [[],[],[],[],[2,3],[0,1,2,3,4],[],[0,1,2,3,4,5,6]] [18,19,80,81,82,83,84,
 85,86],CN 87 (SQ [RG [oQ 88 (.build 29 #[]) 29,wS 29 8 88 [88],wN 9 0 3,wN 10 0 3],.ret]) .skip]),RG [wK 89 .add 3 75 1 3 3 [75],wV 75 89 3 [89]]]
def Dx.s0:SC:=
 SQ [RG [wO 43 .lss 3 42 41 3 4],CN 43 .skip (.exit 0),.block 1 (SQ [RG [wV 44 42 3,wG 13 44 3 [44]],RG [wV 45 0 99,wV 46 1 3,wV 47 2 3,wV 48 13 3 [13],wO 49 .add 3 47 48 3 3 [47,48],wC 50 102 #[.tmp 45,.tmp 46,.tmp 49] #[99,3,3] 105 [45,46,49],wA 14 105,wS 105 14 50 [50]],RG [wV 51 12 82 [12],oQ 52 (.slice 105 (.tmp 14) (some (.const (.int .i64 8))) (some (.const (.int .i64 31))) none) 82 [14],
 wP 53 51 52 82 82 82 [51,52],wG 12 53 82 [53]]]),RG [wK 54 .add 3 42 1 3 3 [42],wV 42 54 3 [54]]]
def Dx.c:SC:=
 SQ [RG [wA 8 29,wN 9 0 3 [9],wN 10 0 3 [10]],SQ [RG [wV 20 2 3,wK 21 .geq 3 20 602 3 4 [20]],CN 21 (SQ [RG [oQ 22 (.build 29 #[]) 29,wS 29 8 22 [22],wN 9 0 3,wN 10 0 3],.ret]) .skip],RG [wV 23 0 99,wV 24 1 3,wV 25 2 3,wC 26 102 #[.tmp 23,.tmp 24,.tmp 25] #[99,3,3] 105 [23,24,25],wA 11 105,wS 105 11 26 [26]],.aS [wD 27 105 11,wU 28 103 27 105 3,wJ 29 105 11 7,wD 30 5 29,wY 31 5 3 30 3,wG 9 28 3,
 wG 10 31 3] [[],[0],[],[2],[2,3],[0,1],[2,3,4,0,1,5]] [11,27,28,29,30,31],SQ [RG [wV 32 9 3,wK 33 .eql 3 32 0 3 4 [32],wV 34 33 4 [33],gd 34 false (wV 35 2 3),gd 34 false (wV 36 10 3),gd 34 false (wO 37 .add 3 35 36 3 3 [35,36]),gd 34 false (wK 38 .gtr 3 37 602 3 4 [37]),wT 39 34 38 4 [34,38]],CN 39 (SQ [RG [oQ 40 (.build 29 #[]) 29,wS 29 8 40 [40],wN 9 0 3,wN 10 0 3],.ret]) .skip],
 RG [oQ 12 (.assign (.const (.slice none 0 0))) 82],SQ [RG [wV 41 10 3,oQ 42 (.move (.const (.int .i64 0))) 3],.block 0 (.loop Dx.s0)],RG [wV 56 12 82 [12],wU 57 131 56 82 200 [56],wV 55 57 200 [57],wX 58 55 0 29,wX 59 55 1 82,wX 60 55 2 4 [55],wS 29 8 58 [58],wG 15 59 82 [15,59],wG 16 60 4 [60]],SQ [RG [wV 61 16 4 [16],wQ 62 61 4 [61]],CN 62 (SQ [RG [oQ 63 (.build 29 #[]) 29,wS 29 8 63 [63],
 wN 9 0 3,wN 10 0 3],.ret]) .skip],RG [wD 64 29 8,wV 65 3 3 [3],wV 66 9 3,wC 67 39 #[.tmp 64,.tmp 65,.tmp 66] #[29,3,3] 97 [64,65,66],wG 17 67 97 [67]],SQ [RG [wV 68 17 97,wL 69 68 97 3 [68],wV 70 10 3,wO 71 .neq 3 69 70 3 4 [69,70]],CN 71 (SQ [RG [oQ 72 (.build 29 #[]) 29,wS 29 8 72 [72],wN 9 0 3,wN 10 0 3],.ret]) .skip],SQ [RG [wV 73 17 97 [17],wL 74 73 97 3,
 oQ 75 (.move (.const (.int .i64 0))) 3],.block 2 (.loop Dx.s1)],RG [wD 90 29 8,wV 91 9 3 [9],wV 92 10 3 [10],wS 29 8 90 [90],wG 9 91 3 [91],wG 10 92 3 [92]],.ret]
def dC.b0 (k:Nat) (d0:aF) (aY:Int) (bc:Int) (x4:Int):(Int×(List Int))->Option (AN (Int×(List Int)) ((List Int)) (Ab×Int×Int)):=fun s=>match s with
 |(i7,l8)=>
   bif decide (i7<ab x4) then
    (nU k d0 aY (ab (bc+i7))).bind fun bN=>
    (cY 1 l8 ((bN.l.drop 8).take 23)).bind fun fO=>
    some (.next (ab (i7+1),fO))
   else
    some (.brk l8)
def dC.b1 (k:Nat) (d0:aF) (aY:Int) (bc:Int) (dp:(List (Aa 32 Int))):Int->Option (AN (Int) (Unit) (Ab×Int×Int)):=fun i18=>
 bif decide (i18<(dp.length:Int)) then
  (at? dp i18).bind fun cT=>
  (nU k d0 aY (ab (bc+i18))).bind fun gJ=>
  bif (!(Aa.eq (fun(x y:Int)=>decide (x=y)) gJ cT)) then
   some (.ret ((⟨(⟨0,0⟩:Entry),0,0,0,(⟨0,0⟩:Entry),ByteArray.empty⟩:Ab),0,0))
  else
   some (.next (ab (i18+1)))
 else
  some (.brk ())
def dC.h0 (d0:aF) (aY:Int) (bc:Int) (pN:Int) (x3:Int) (x4:Int):(Int×(List Int))->St:=fun s=>match s with
 |(i7,l8)=>⟨[(0,.aL 2 [aF.c d0] 0 0),(1,.int .i64 aY),(2,.int .i64 bc),(3,.int .i64 pN),(8,.ptr 0 0 0),(9,.int .i64 x3),(10,.int .i64 (ab x4)),(12,.loc 0 1 1 0 l8.length l8.length),(41,.int .i64 (ab x4)),(42,.int .i64 i7)],[(0,.box ([.int .i64 0,.int .i64 0,.int .i64 0,.int .i64 0,.int .i64 0,.int .i64 0,.int .i64 0,.str ByteArray.empty])),(1,.arr 5 1 (List.map ae l8))],[],2,Tryz.f127.ntmps⟩
def dC.x0 (d0:aF) (aY:Int) (bc:Int) (pN:Int) (x3:Int) (x4:Int):(List Int)->St:=fun l9=>⟨[(0,.aL 2 [aF.c d0] 0 0),(1,.int .i64 aY),(2,.int .i64 bc),(3,.int .i64 pN),(8,.ptr 0 0 0),(9,.int .i64 x3),(10,.int .i64 (ab x4)),(12,.loc 0 1 1 0 l9.length l9.length)],[(0,.box ([.int .i64 0,.int .i64 0,.int .i64 0,.int .i64 0,.int .i64 0,.int .i64 0,.int .i64 0,.str ByteArray.empty])),(1,.arr 5 1 (List.map ae l9))],[],2,Tryz.f127.ntmps⟩
def dC.h1 (d0:aF) (aY:Int) (bc:Int) (x3:Int) (x4:Int) (bR:Ab×(List Int)×Bool) (dp:(List (Aa 32 Int))):Int->St:=fun i18=>⟨[(0,.aL 2 [aF.c d0] 0 0),(1,.int .i64 aY),(2,.int .i64 bc),(8,.ptr 0 0 0),(9,.int .i64 x3),(10,.int .i64 (ab x4)),(73,.sl 32 (List.map (Aa.c (n:=32) ae) dp)),(74,.int .i64 (dp.length:Int)),(75,.int .i64 i18)],[(0,.box ([.int .i64 bR.1.At.Ac,.int .i64 bR.1.At.No,.int .i64 bR.1.Kind,.int .i64 bR.1.Day,.int .i64 bR.1.Ap,.int .i64 bR.1.Of.Ac,.int .i64 bR.1.Of.No,.str bR.1.Text]))],[],1,Tryz.f127.ntmps⟩
def dC.x1 (x3:Int) (x4:Int) (bR:Ab×(List Int)×Bool):Unit->St:=fun _=>⟨[(8,.ptr 0 0 0),(9,.int .i64 x3),(10,.int .i64 (ab x4))],[(0,.box ([.int .i64 bR.1.At.Ac,.int .i64 bR.1.At.No,.int .i64 bR.1.Kind,.int .i64 bR.1.Day,.int .i64 bR.1.Ap,.int .i64 bR.1.Of.Ac,.int .i64 bR.1.Of.No,.str bR.1.Text]))],[],1,Tryz.f127.ntmps⟩
def dC (k:Nat) (d0:aF) (aY:Int) (bc:Int) (pN:Int):Option (Ab×Int×Int):=
 bif decide ((602:Int)<=bc) then
  some ((⟨(⟨0,0⟩:Entry),0,0,0,(⟨0,0⟩:Entry),ByteArray.empty⟩:Ab),0,0)
 else
  (nU k d0 aY bc).bind fun x2=>
  (ql k x2).bind fun x3=>
  (x2.at? 7).bind fun x4=>
  bif (!decide (x3=(0:Int))) then
   bif decide ((602:Int)<ab (bc+(ab x4))) then
    some ((⟨(⟨0,0⟩:Entry),0,0,0,(⟨0,0⟩:Entry),ByteArray.empty⟩:Ab),0,0)
   else
    (ai (dC.b0 k d0 aY bc x4) k (0,[])).bind fun r13=>match r13 with
    |.next _=>none
    |.ret v_=>some v_
    |.brk l9=>
     (abx k l9).bind fun bR=>
     bif (!bR.2.2) then
      some ((⟨(⟨0,0⟩:Entry),0,0,0,(⟨0,0⟩:Entry),ByteArray.empty⟩:Ab),0,0)
     else
      (gu k bR.1 pN x3).bind fun dp=>
      bif (!decide ((dp.length:Int)=ab x4)) then
       some ((⟨(⟨0,0⟩:Entry),0,0,0,(⟨0,0⟩:Entry),ByteArray.empty⟩:Ab),0,0)
      else
       (ai (dC.b1 k d0 aY bc dp) k 0).bind fun r23=>match r23 with
       |.next _=>none
       |.ret v_=>some v_
       |.brk _=>
        some (bR.1,x3,ab x4)
  else
   some ((⟨(⟨0,0⟩:Entry),0,0,0,(⟨0,0⟩:Entry),ByteArray.empty⟩:Ab),0,0)
theorem amE (k:Nat) (d0:aF) (aY:Int) (bc:Int) (pN:Int) (r:Ab×Int×Int) (h0:dC k d0 aY bc pN=some r):Ay Tryz.prog 127 [.aL 2 [aF.c d0] 0 0,.int .i64 aY,.int .i64 bc,.int .i64 pN] (fun y=>y=.aw [.agg (Ab.c r.1),.int .i64 r.2.1,.int .i64 r.2.2]):=by
 refine PB Tryz.f127 Dx.c [.cell 8 29,.tmp 9,.tmp 10] ?_
 simp only[dC]at h0
 try simp only[Dx.c,go_sem]
 refine AP h0 ?_ ?_<;>intro c1 h0<;>have F:=c1<;>try simp only[F,go_sem]
 obtain rfl:=oi h0
 refine Ag rfl ?_
 try simp only[F,go_sem]
 refine aj h0 (vT k _ _ _) ?_ (fun x2 h0=>?_)<;>try simp only[F,go_sem]
 refine AL AE aO 1000 ?_
 try simp only[F,go_sem]
 refine bJ h0 (abz k _) ?_ (fun x3 h0=>?_)<;>try simp only[F,go_sem]
 obtain⟨x4,bF,h0⟩:=bs h0
 have fF:=Ao.bh gO (Ao.self gQ x2) bF
 have jP:=fF.2
 try simp only[AA,AB,go_sem]at jP
 have F:=an (aq bF) (an jP F)
 try simp only[F,go_sem]
 refine aG ?_
 try simp only[F,go_sem]
 refine A7 F h0 ?_ ?_<;>intro F h0<;>try simp only[F,go_sem]
 refine AF F h0 ?_ ?_<;>intro F h0<;>try simp only[F,go_sem]
 obtain rfl:=oi h0
 refine Ag rfl ?_
 try simp only[F,go_sem]
 obtain⟨r13,afF,h0⟩:=bs h0
 refine A5 afF (dC.h0 d0 aY bc pN x3 x4) (dC.x0 d0 aY bc pN x3 x4) ?_ ?_ ?_
 refine Al.go [0,1,2,3,8,9,10,12,41,42] [0,416] rfl ?_
 try simp only[dC.h0,F,go_sem]
 rintro⟨i7,l8⟩ bO Bd Ba h1 az ax bg
 refine rS ?_
 simp only[dC.b0]at h1
 try simp only[Dx.s0,dC.h0,F,go_sem]
 refine AF F h1 ?_ ?_<;>intro F h1<;>try simp only[F,go_sem]
 refine aj h1 (vT k _ _ _) ?_ (fun bN h1=>?_)<;>try simp only[F,go_sem]
 have F:=an (@id (Int.toNat 8=8) rfl) (an (@id (Int.toNat 31=31) rfl) (an (@id (bounds 32 (some (.int .i64 8)) (some (.int .i64 31))=some (8,31)) rfl) (an (@id (31 - 8=23) rfl) F)))
 try simp only[F,go_sem]
 obtain⟨fO,vD,h1⟩:=bs h1
 have akS:=fw ae vD
 try simp only[F,go_sem]at akS
 have F:=an akS F
 try simp only[aiA,F,go_sem]
 refine Ax (az _ _ (oi h1).symm (Al.go [0,1,2,3,8,9,10,12,41,42] [0,1] rfl ?_))
 try simp only[dC.h0,F,go_sem]
 refine Ax (ax _ _ (oi h1).symm (Al.go [0,1,2,3,8,9,10,12] [0,1] rfl ?_))
 try simp only[dC.x0,F,go_sem]
 rintro l9 aA
 subst aA
 simp only at h0
 refine rS ?_
 try simp only[dC.x0,F,go_sem]
 refine zqT [1] h0 (amC k _) ?_ fun bR h0=>?_<;>try simp only[F,go_sem]
 refine A7 F h0 ?_ ?_<;>intro F h0<;>try simp only[F,go_sem]
 obtain rfl:=oi h0
 refine Ag rfl ?_
 try simp only[F,go_sem]
 refine aj h0 (ado k _ _ _) ?_ (fun dp h0=>?_)<;>try simp only[F,go_sem]
 refine A7 F h0 ?_ ?_<;>intro F h0<;>try simp only[F,go_sem]
 obtain rfl:=oi h0
 refine Ag rfl ?_
 try simp only[F,go_sem]
 obtain⟨r23,afG,h0⟩:=bs h0
 refine A5 afG (dC.h1 d0 aY bc x3 x4 bR dp) (dC.x1 x3 x4 bR) ?_ ?_ ?_
 refine Al.go [0,1,2,8,9,10,73,74,75] [0] rfl ?_
 try simp only[dC.h1,F,go_sem]
 rintro i18 bO Bd Ba h1 az ax bg
 refine rS ?_
 simp only[dC.b1]at h1
 try simp only[Dx.s1,dC.h1,F,go_sem]
 refine AF F h1 ?_ ?_<;>intro F h1<;>try simp only[F,go_sem]
 obtain⟨cT,bW,h1⟩:=bs h1
 have F:=an (aI bW) (an (aH (Aa.c (n:=32) ae) bW) F)
 try simp only[F,go_sem]
 refine AL AE aO 1000 ?_
 try simp only[F,go_sem]
 refine bJ h1 (vT k _ _ _) ?_ (fun gJ h1=>?_)<;>try simp only[F,go_sem]
 refine aG ?_
 try simp only[F,go_sem]
 refine A7 F h1 ?_ ?_<;>intro F h1<;>try simp only[F,go_sem]
 obtain rfl:=bg _ (oi h1).symm
 simp only at h0
 obtain rfl:=oi h0
 refine Ag rfl ?_
 try simp only[F,go_sem]
 refine Ax (az _ _ (oi h1).symm (Al.go [0,1,2,8,9,10,73,74,75] [0] rfl ?_))
 try simp only[dC.h1,F,go_sem]
 refine Ax (ax _ _ (oi h1).symm (Al.go [8,9,10] [0] rfl ?_))
 try simp only[dC.x1,F,go_sem]
 rintro _ aA
 subst aA
 simp only at h0
 refine rS ?_
 try simp only[dC.x1,F,go_sem]
 obtain rfl:=oi h0
 refine Ag rfl ?_
 try simp only[F,go_sem]
 obtain rfl:=oi h0
 refine Ag rfl ?_
 try simp only[F,go_sem]
end Go.Abs
namespace Go.Abs
open Go Go.Proofs Go.RowKit Go.Lib
def AT.s0:SC:=
 SQ [.block 1 (SQ [RG [wD 20 99 1,wD 21 3 2,wV 22 6 3,wV 23 7 3,wC 24 127 #[.tmp 20,.tmp 21,.tmp 22,.tmp 23] #[99,3,3,3] 195 [20,21,22,23],wV 19 24 195 [24],wX 25 19 0 29,wX 26 19 1 3,wX 27 19 2 3 [19],wA 8 29,wS 29 8 25 [25],wG 9 26 3 [26],wG 10 27 3 [27]],SQ [RG [wV 28 10 3,wK 29 .eql 3 28 0 3 4 [28],wV 30 29 4 [29],gd 30 false (wV 31 9 3),gd 30 false (wV 32 5 3 [5]),
 gd 30 false (wO 33 .lss 3 31 32 3 4 [31,32]),wT 34 30 33 4 [30,33]],CN 34 .ret .skip],RG [wD 36 40 4,wD 37 29 8,wW 38 70 36 37 40 29 133 [36,37],wV 35 38 133 [38],wX 39 35 0 40,wX 40 35 1 45 [35],wA 11 40,wS 40 11 39 [39],wG 12 40 45 [40]],SQ [RG [wV 41 12 45 [12],wK 42 .neq 45 41 0 45 4 [41],wV 43 42 4 [42],gd 43 false (wF 44 40 11 0),gd 43 false (wD 45 38 44 [44]),
 gd 43 false (wL 46 45 38 3 [45]),gd 43 false (wF 47 40 4 0),gd 43 false (wD 48 38 47 [47]),gd 43 false (wL 49 48 38 3 [48]),gd 43 false (wO 50 .eql 3 46 49 3 4 [46,49]),wT 51 43 50 4 [43,50]],CN 51 .ret .skip],RG [wD 52 40 11 [11],wV 53 9 3 [9],wV 54 6 3 [6],wV 55 10 3 [10],wO 56 .add 3 54 55 3 3 [54,55],wS 40 4 52 [52],wG 5 53 3 [53],wG 6 56 3 [56]],RG [wV 57 0 194,wD 58 29 8 [8],wV 59 6 3,
 oQ 60 (.call ⟨.value (.tmp 57),#[.tmp 58,.tmp 59],#[29,3]⟩) 4 [57,58,59],wQ 61 60 4 [60]],CN 61 .ret .skip]),RG [wV 17 7 3 [7],wK 18 .add 3 17 1 3 3 [17],wG 7 18 3 [18]]]
def AT.c:SC:=
 SQ [RG [wA 4 40],RG [wD 13 99 1,wD 14 3 2,wC 15 102 #[.tmp 13,.tmp 14,.const (.int .i64 0)] #[99,3,3] 105 [13,14],wU 16 103 15 105 3 [15],wG 5 16 3 [16],wN 6 1 3],RG [wN 7 0 3],.block 0 (.loop AT.s0)]
theorem AT.rs:Tryz.f126.results.toList=[]:=rfl
def kD.go (k:Nat) (d:aF) (aX:Int):Nat->Ak->Int->Int->Int->Option (List (Ab×Int))
 |0,_,_,_,_=>none
 |m+1,j,ep,fr,i=>(dC k d aX fr i).bind fun q=>
  bif !decide (q.2.2=0) then
   bif decide (q.2.1<ep) then some [] else
   (rZ k j q.1).bind fun b=>
   bif decide (b.2=0) then
    bif decide ((b.1.Ah.length:Int)=(j.Ah.length:Int)) then some [] else
    (kD.go k d aX m b.1 q.2.1 (ab (fr+q.2.2)) (ab (i+1))).bind fun l=>some ((q.1,ab (fr+q.2.2))::l)
   else some []
  else some []
def kD (k:Nat) (d:aF) (aX:Int):Option (List (Ab×Int)):=
 (nU k d aX 0).bind fun h=>(ql k h).bind fun e=>kD.go k d aX k ⟨[]⟩ e 1 0
def xw (d:aF) (aX:Int) (l:Nat) (ep fr i:Int):List (Nat×AV):=
 [(0,.fn (.yield l) [] []),(1,.aL 1 [[.aL 2 [aF.c d] 0 0]] 0 0),(2,.aL 1 [[.int .i64 aX]] 0 0),(4,.ptr 0 0 0),(5,.int .i64 ep),(6,.int .i64 fr),(7,.int .i64 i)]
def aac (d:aF) (aX:Int) (l:Nat) (C:AH) (j:Ak) (ep fr i:Int):St:=⟨xw d aX l ep fr i,[(0,.box (Ak.c j))],[C],1,Tryz.f126.ntmps⟩
def itY (d:aF) (aX:Int) (l:Nat) (C:AH) (x:Ab) (j:Ak) (ep fr i:Int):St:=
 ⟨[(0,.fn (.yield l) [] []),(1,.aL 1 [[.aL 2 [aF.c d] 0 0]] 0 0),(2,.aL 1 [[.int .i64 aX]] 0 0),(4,.ptr 0 0 0),(5,.int .i64 ep),(6,.int .i64 fr),(7,.int .i64 i),
  (57,.fn (.yield l) [] []),(58,.agg (Ab.c x)),(59,.int .i64 fr)],[(0,.box (Ak.c j))],[C],1,Tryz.f126.ntmps⟩
def AT.p0:SC:=
 AT.c.fst
def AT.p1:SC:=
 AT.c.snd.fst
def AT.p2:SC:=
 AT.c.snd.snd.fst
def SC.body:SC->SC
 |.block _ b=>b
 |x=>x
def SC.ro:SC->List Az
 |.lS l=>l
 |_=>[]
def AT.x:SC:=
 AT.s0.fst.body
def AT.x4:SC:=
 AT.x.fst
def AT.x5:SC:=
 AT.x.snd.fst
def AT.x6:SC:=
 AT.x.snd.snd.fst
def AT.x7:SC:=
 AT.x.snd.snd.snd.fst
def AT.x8:SC:=
 AT.x.snd.snd.snd.snd.fst
def AT.x9:List Az:=AT.x.snd.snd.snd.snd.snd.fst.ro.take 3

def AT.r3:SC:=
 AT.s0.snd
theorem apu (k:Nat) (d:aF) (aX:Int) (l:Nat) (C:AH) (e:Int) (h:Aa 32 Int) (h1:nU k d aX 0=some h) (h2:ql k h=some e) (Φ:Exit->St->Prop):
  AK Tryz.prog Tryz.f126.ntmps Φ [.sc AT.p0,.sc AT.p1,.sc AT.p2,.back (fun st=>Al Tryz.f126.ntmps st (aac d aX l C ⟨[]⟩ e 1 0))]
   ⟨[(0,.fn (.yield l) [] []),(1,.aL 1 [[.aL 2 [aF.c d] 0 0]] 0 0),(2,.aL 1 [[.int .i64 aX]] 0 0)],[],[C],0,Tryz.f126.ntmps⟩:=by
 refine rS ?_
 simp only[AT.p0,AT.p1,AT.p2,AT.c,SC.fst,SC.snd,go_sem]
 refine ky (vT k _ _ _ _ h1) ?_ ?_
 ·simp only[go_sem]
 simp only[go_sem]
 refine ky (abz k _ _ h2) ?_ ?_
 ·simp only[go_sem]
 simp only[go_sem]
 refine Ax ?_
 refine(Al.fz 1 rfl (fun _ h=>by cases h)).trans ?_
 simp only[go_sem]
 refine Al.go [0,1,2,4,5,6,7] [0] rfl ?_
 simp only[xw,go_sem]
def itB (k:Nat) (d:aF) (aX:Int) (l:Nat) (C:AH) (j:Ak) (ep fr i:Int) (st:St):Prop:=
 ∃ q b,dC k d aX fr i=some q/\decide (q.2.2=0)=false/\decide (q.2.1<ep)=false/\rZ k j q.1=some b/\decide (b.2=0)=true/\
  decide ((b.1.Ah.length:Int)=(j.Ah.length:Int))=false/\Al Tryz.f126.ntmps st (itY d aX l C q.1 b.1 q.2.1 (ab (fr+q.2.2)) i)
def itE (C:AH) (L:Prop) (e:Exit) (st:St):Prop:=e=.ret/\st.low=[C]/\L
theorem apw (k:Nat) (d:aF) (aX:Int) (l:Nat) (C:AH) (m:Nat) (j:Ak) (ep fr i:Int) (xs:List (Ab×Int)) (h0:kD.go k d aX (m+1) j ep fr i=some xs):
  AK Tryz.prog Tryz.f126.ntmps (itE C (xs=[])) [.sc AT.x4,.sc AT.x5,.sc AT.x6,.sc AT.x7,.sc AT.x8,.ops AT.x9,.back (itB k d aX l C j ep fr i)] (aac d aX l C j ep fr i):=by
 refine rS ?_
 simp only[kD.go]at h0
 simp only[aac,xw,AT.x4,AT.x5,AT.x6,AT.x7,AT.x8,AT.x9,AT.x,AT.s0,SC.fst,SC.snd,SC.body,SC.ro,List.take_succ_cons,List.take_zero,go_sem]
 obtain⟨q,yq,h0⟩:=bs h0
 refine ky (amE k _ _ _ _ _ yq) ?_ ?_
 ·simp only[go_sem]
 simp only[go_sem]
 refine AP h0 (fun c1 h0=>?_) (fun c1 h0=>?_)
 rotate_left
 ·have c1:=adj c1
  simp only[c1,go_sem]
  obtain rfl:=oi h0
  exact⟨rfl,rfl,rfl⟩
 have c1:=adk c1
 simp only[c1,go_sem]
 refine AP h0 (fun c2 h0=>?_) (fun c2 h0=>?_)
 ·simp only[c2,c1,go_sem]
  obtain rfl:=oi h0
  exact⟨rfl,rfl,rfl⟩
 simp only[c2,c1,go_sem]
 obtain⟨b,yb,h0⟩:=bs h0
 refine ky (adm k _ _ _ yb) ?_ ?_
 ·simp only[c1,c2,go_sem]
 simp only[c1,c2,go_sem]
 refine AP h0 (fun c3 h0=>?_) (fun c3 h0=>?_)
 rotate_left
 ·simp only[c3,c2,c1,go_sem]
  obtain rfl:=oi h0
  exact⟨rfl,rfl,rfl⟩
 simp only[c3,c2,c1,go_sem]
 refine AP h0 (fun c4 h0=>?_) (fun c4 h0=>?_)
 ·simp only[c4,c3,c2,c1,go_sem]
  obtain rfl:=oi h0
  exact⟨rfl,rfl,rfl⟩
 simp only[c4,c3,c2,c1,go_sem]
 refine Ax ⟨q,b,yq,c1,c2,yb,c3,c4,?_⟩
 refine Al.go [0,1,2,4,5,6,7,57,58,59] [0] rfl ?_
 simp only[go_sem]
def abE:Code->Code
 |.block _ b=>b
 |.loop b=>b
 |x=>x
def ani:Code->Array Oper
 |.region _ o _=>o
 |_=>#[]
def C2:Code:=Tryz.f126.body.getD .skip
def Dm:Code:=abE (abE (al (al (al C2))))
def CD:Code:=abE (bS Dm)
def DN:Array Oper:=ani (bS (al (al (al (al (al CD))))))
def FH:Code:=al (al (al (al (al (al CD)))))
def AT.x9b:List Az:=AT.x.snd.snd.snd.snd.snd.fst.ro.drop 4

def AT.z:SC:=
 AT.x.snd.snd.snd.snd.snd.snd
def YC (N0:Nat) (W1:World) (l:Nat) (tc:Aw) (C:List (Ab×Int)->AH) (xs:List (Ab×Int)):Prop:=
 ∀ pre x,(pre++[x]) <+: xs->∀ (f:AH) fm ts w vs,HR N0 W1 fm ts [f,C pre] w->AD [tc] (ts.drop 1)->AG fm ts [.agg (Ab.c x.1),.int .i64 x.2] vs->
  YieldAt FW 0 Tryz.prog l vs.toArray w fun e w'=>e=.returned (.bool true)/\∃ fm' ts',HR N0 W1 fm' ts' [f,C (pre++[x])] w'/\AU N0 fm fm'/\AD ts ts'/\∀ l k,tb ts l k=none->tb ts' l k=none
def itZ (d:aF) (aX:Int) (l:Nat) (C:AH) (j:Ak) (ep fr i:Int):St:=⟨(60,.bool true)::xw d aX l ep fr i,[(0,.box (Ak.c j))],[C],1,Tryz.f126.ntmps⟩
theorem apx (d:aF) (aX:Int) (l:Nat) (C:AH) (j:Ak) (ep fr i:Int) (Φ:Exit->St->Prop):
  AK Tryz.prog Tryz.f126.ntmps Φ [.ops AT.x9b,.sc AT.z,.aD 1,.sc AT.r3,.back (fun st=>Al Tryz.f126.ntmps st (aac d aX l C j ep fr (ab (i+1))))] (itZ d aX l C j ep fr i):=by
 refine rS ?_
 simp only[itZ,xw,AT.x9b,AT.z,AT.r3,AT.x,AT.s0,SC.fst,SC.snd,SC.body,SC.ro,List.drop_succ_cons,List.drop_zero,go_sem]
 refine Ax ?_
 refine Al.go [0,1,2,4,5,6,7] [0] rfl ?_
 simp only[xw,go_sem]
theorem aeH {α:Type} (b:List (Nat×α)) {t:Nat}{x:α}:∀ {a:List (Nat×α)},look a t=some x->look (a++b) t=some x
 |[],h=>by simp[look]at h
 |(k,y)::a,h=>by
  simp only[Bz,look]at h ⊢
  split at h
  ·rename_i hk;rw[if_pos hk];exact h
  ·rename_i hk;rw[if_neg hk];exact aeH b h
theorem apv (k:Nat) (d:aF) (aX:Int) (xs:List (Ab×Int)) (gm:kD k d aX=some xs) {N0:Nat}{W1:World}{l:Nat}{tc:Aw}{C:List (Ab×Int)->AH} (hY:YC N0 W1 l tc C xs) {fm:FM}{w:World}{vd va:Value}
  (hr:HR N0 W1 fm [tc] [C []] w) (hd:VR fm [] (.aL 1 [[.aL 2 [aF.c d] 0 0]] 0 0) vd) (ha:VR fm [] (.aL 1 [[.int .i64 aX]] 0 0) va):
  Calls Tryz.prog 126 #[.func (.yield l) #[] #[],vd,va] w fun e w'=>(∃ v,e=.returned v)/\∃ fm' ts',HR N0 W1 fm' ts' [C xs] w'/\AU N0 fm fm'/\AD [tc] ts'/\∀ l k,tb [tc] l k=none->tb ts' l k=none:=by
 obtain⟨h,yh,gm⟩:=bs gm
 obtain⟨e,ye,gm⟩:=bs gm
 have lG:Tryz.f126.ntmps=62:=by rfl
 refine calls_of_wp (fn:=Tryz.f126) (c:=C2) (by rfl) (by rfl) ((yc []).1 ?_)
 have hyv:VR fm (dF::[tc]) (.fn (.yield l) [] []) (.func (.yield l) #[] #[]):=.fn _ _ _ _ _ rfl rfl (by intro i x v h;simp at h) (by intro i x v h;simp at h)
 have hS:=SR.enter hr (args:=[.fn (.yield l) [] [],.aL 1 [[.aL 2 [aF.c d] 0 0]] 0 0,.aL 1 [[.int .i64 aX]] 0 0]) (vs:=[.func (.yield l) #[] #[],vd,va]) (n:=Tryz.f126.ntmps) (by
  refine⟨rfl,?_⟩
  intro i x v hx hv
  match i,hx,hv with
  |0,hx,hv=>cases hx;cases hv;exact hyv
  |1,hx,hv=>cases hx;cases hv;exact hd.mono (Bh.refl _) (AD.nil _)
  |2,hx,hv=>cases hx;cases hv;exact ha.mono (Bh.refl _) (AD.nil _)
  |i+3,hx,hv=>simp at hx) (by rw[lG];simp)
 have anR:C2=.seq (bS C2) (.seq (bS (al C2)) (.seq (bS (al (al C2))) (.block 0 (.loop Dm)))):=by rfl
 refine(show K Tryz.prog _ [.code C2] .normal _ w from ?_)
 rw[anR]
 refine DH ?_
 refine CW (t:=[.code (bS (al C2)),.code (bS (al (al C2))),.code (.block 0 (.loop Dm))]) (fun e a w h=>CQ _ _ _ (CW (fun e a w h=>CQ _ _ _ h) _ _ _ h)) _ _ _ ?_
 refine AK.xP (cs:=[.code (bS C2),.code (bS (al C2)),.code (bS (al (al C2)))]) (t:=[.code (.block 0 (.loop Dm))]) (Φ:=fun _ _=>False) (todo:=[.sc AT.p0,.sc AT.p1,.sc AT.p2]) hS (apu k d aX l (C []) e h yh ye _)
  (fun R hR=>.sc (by rfl) (by rfl) (.sc (by rfl) (by rfl) (.sc (by rfl) (by rfl) (.back hR .nil)))) ?_ (fun _ _ _ _ _ _ h=>h.elim)
 rintro st0 a0 w0 fm0 gH sX hS0 hL0
 obtain⟨gV,en,dX,lD⟩:=sX _ _ _ _ _ _ hS0
 refine Fz ?_
 refine H5 (I:=fun m a w=>∃ pre ys j ep fr i fm' ts',kD.go k d aX m j ep fr i=some ys/\pre++ys=xs/\SR N0 W1 Tryz.f126.ntmps (aac d aX l (C pre) j ep fr i) a w fm' ts'/\Bq N0 fm (dF::[tc]) fm' ts') k
  ⟨[],xs,_,_,_,_,gV,en,gm,rfl,dX,hL0.trans lD⟩ ?_
 rintro m a w2 ⟨pre,ys,j,ep,fr,i,fZ,eU,iJ,ab8,ga,eH⟩
 cases m with
 |zero=>simp only[kD.go]at iJ;cases iJ
 |succ m=>
  have eB:Dm=.seq (.block 1 CD) (al Dm):=by rfl
  have eX:CD=.seq (bS CD) (.seq (bS (al CD)) (.seq (bS (al (al CD))) (.seq (bS (al (al (al CD)))) (.seq (bS (al (al (al (al CD))))) (.seq (.region 9 DN false) FH))))):=by rfl
  rw[eB]
  refine DH ?_
  refine Fz ?_
  rw[eX]
  refine DH ?_
  refine CW (t:=[.code (bS (al CD)),.code (bS (al (al CD))),.code (bS (al (al (al CD)))),.code (bS (al (al (al (al CD))))),.ops DN [0,1,2],.ops DN [3,4],.code FH,.aD 1,.code (al Dm),.back _,.aD 0])
   (fun e a w h=>CQ _ _ _ (CW (fun e a w h=>CQ _ _ _ (CW (fun e a w h=>CQ _ _ _ (CW (fun e a w h=>CQ _ _ _ (CW (fun e a w h=>CQ _ _ _ (IY _ _ _ (IX (is:=[0,1,2]) (js:=[3,4]) _ _ _ h))) _ _ _ h)) _ _ _ h)) _ _ _ h)) _ _ _ h)) _ _ _ ?_
  refine AK.xP (cs:=[.code (bS CD),.code (bS (al CD)),.code (bS (al (al CD))),.code (bS (al (al (al CD)))),.code (bS (al (al (al (al CD))))),.ops DN [0,1,2]]) (t:=[.ops DN [3,4],.code FH,.aD 1,.code (al Dm),.back _,.aD 0])
   (todo:=[.sc AT.x4,.sc AT.x5,.sc AT.x6,.sc AT.x7,.sc AT.x8,.ops AT.x9]) ga (apw k d aX l (C pre) m j ep fr i ys iJ)
   (fun R hR=>.sc (by rfl) (by rfl) (.sc (by rfl) (by rfl) (.sc (by rfl) (by rfl) (.sc (by rfl) (by rfl) (.sc (by rfl) (by rfl) (.ops (by rfl) (by decide +kernel) (by decide +kernel) (.back hR .nil))))))) ?_ ?_
  ·
   rintro st3 a3 w3 jV lY ⟨q,b,yq,c1,c2,yb,c3,c4,hw3⟩ kI nm
   obtain⟨fm4,ts4,qE,hL4⟩:=hw3 _ _ _ _ _ _ kI
   simp only[kD.go]at iJ
   rw[yq]at iJ
   simp only[Ae,c1,Bn,Am,c2,An,yb,c3,c4]at iJ
   obtain⟨ys',yys,iJ⟩:=bs iJ
   obtain rfl:=oi iJ
   obtain⟨v57,h57,r57⟩:=qE.tm 57 (.fn (.yield l) [] []) rfl
   obtain⟨v58,h58,r58⟩:=qE.tm 58 (.agg (Ab.c q.1)) rfl
   obtain⟨v59,h59,r59⟩:=qE.tm 59 (.int .i64 (ab (fr+q.2.2))) rfl
   obtain rfl:v57=.func (.yield l) #[] #[]:=by
    cases r57 with
    |fn f first cap vf vc h1 h2 h3 h4=>
     have e1:vf=#[]:=Array.size_eq_zero_iff.1 (by simpa using h1.symm)
     have e2:vc=#[]:=Array.size_eq_zero_iff.1 (by simpa using h2.symm)
     rw[e1,e2]
   obtain⟨fn,tmps,assign,body,bm,hR⟩:=hY pre (q.1,ab (fr+q.2.2)) ⟨ys',by rw[<-ab8];simp⟩ _ fm4 ts4 w3 [v58,v59] qE.hr (by have:=((eH.trans nm).trans hL4).ke;simpa using this) ⟨rfl,by
    intro i x v hx hv
    match i,hx,hv with
    |0,hx,hv=>cases hx;cases hv;exact r58
    |1,hx,hv=>cases hx;cases hv;exact r59
    |i+2,hx,hv=>simp at hx⟩
   obtain⟨o3,e3,g3,d3⟩:∃ o,DN[3]?=some o/\o.guard=none/\o.op=.call ⟨.value (.tmp 57),#[.tmp 58,.tmp 59],#[29,3]⟩/\o.dst=some 60:=⟨_,rfl,rfl,rfl,rfl⟩
   refine FP e3 g3 ?_
   have v57:a3.eval (.tmp 57)=.func (.yield l) #[] #[]:=by simp[Act.eval,Array.getD_eq_getD_getElem?,h57]
   have w58:a3.eval (.tmp 58)=v58:=by simp[Act.eval,Array.getD_eq_getD_getElem?,h58]
   have w59:a3.eval (.tmp 59)=v59:=by simp[Act.eval,Array.getD_eq_getD_getElem?,h59]
   refine aqq (w':=w3) (l:=l) (fn:=fn) (tmps:=tmps) (assign:=assign) (body:=body) (fun c h=>by rw[d3.1]at h;cases h) ?_ ?_
   ·have aes:(resolve a3.eval ⟨.value (.tmp 57),#[.tmp 58,.tmp 59],#[29,3]⟩ o3.type).run Tryz.prog w3=.ok { target:=.fn (.yield l) #[],args:=#[v58,v59] } w3:=by
     simp[resolve,v57,w58,w59,Deferred.ofValue]
    simp only[execOp,d3.1,Sem.run_bind,aes,Result.andThen_ok]
    simpa [invoke] using bm
   refine hR.mono ?_
   rintro e w4 ⟨rfl,fm5,ts5,hr5,aiy,aiw,ail⟩
   rw[d3.2]
   have hS5:SR N0 W1 Tryz.f126.ntmps (itZ d aX l (C (pre++[(q.1,ab (fr+q.2.2))])) b.1 q.2.1 (ab (fr+q.2.2)) i) (a3.put (some 60) (.bool true)) w4 fm5 ts5:=by
    refine⟨hr5,?_,fun k hk=>ail 0 k (qE.nx k hk),by rw[aav];exact qE.size,by rw[xK];exact qE.fy⟩
    intro t x hx
    unfold itZ at hx
    simp only[look]at hx
    split at hx
    ·subst_vars
     obtain rfl:=oi hx
     refine⟨.bool true,?_,.bool true⟩
     simp only[Act.put]
     rw[Array.getElem?_setIfInBounds,if_pos rfl,if_pos (by rw[qE.size,lG];decide)]
    ·rename_i ba
     have jq:look (itY d aX l (C pre) q.1 b.1 q.2.1 (ab (fr+q.2.2)) i).tm t=some x:=by
      exact aeH [(57,.fn (.yield l) [] []),(58,.agg (Ab.c q.1)),(59,.int .i64 (ab (fr+q.2.2)))] hx
     obtain⟨u,h1,h2⟩:=qE.tm t x jq
     exact⟨u,by simp only[Act.put];rw[Array.getElem?_setIfInBounds,if_neg ba];exact h1,h2.mono aiy.le aiw⟩
   refine AK.xP (cs:=[.ops DN [4],.code FH,.aD 1,.code (al Dm)]) (t:=[.back _,.aD 0]) (Φ:=fun _ _=>False) (todo:=[.ops AT.x9b,.sc AT.z,.aD 1,.sc AT.r3]) hS5 (apx d aX l _ _ _ _ i _)
    (fun R hR=>.ops (by rfl) (by decide +kernel) (by decide +kernel) (.sc (by rfl) (by rfl) (.aD (.sc (by rfl) (by rfl) (.back hR .nil))))) ?_ (fun _ _ _ _ _ _ h=>h.elim)
   rintro st6 a6 w6 fm6 ts6 hw6 hS6 hL6
   obtain⟨fm7,ts7,hS7,hL7⟩:=hw6 _ _ _ _ _ _ hS6
   have hL5:Bq N0 fm4 ts4 fm5 ts5:=⟨aiy,aiw.drop 1,fun l k h=>by rw[ft]at h ⊢;exact ail _ _ h⟩
   exact⟨m,Nat.lt_succ_self m,pre++[(q.1,ab (fr+q.2.2))],ys',b.1,q.2.1,_,_,fm7,ts7,yys,by rw[<-ab8];simp,hS7,((((eH.trans nm).trans hL4).trans hL5).trans hL6).trans hL7⟩
  ·
   rintro e st3 a3 w3 jV lY ⟨rfl,iN,mM⟩ kI nm
   refine DE ?_ _
   obtain⟨v,h1,h2⟩:=tC (P:=Tryz.prog) (fn:=Tryz.f126) (xs:=[]) AE kI (by rw[AT.rs];rfl)
   have hL:=eH.trans nm
   have hp:=kI.hr
   rw[iN]at hp
   cases lY with
   |nil=>have:=hp.len;simp at this
   |cons t rest=>
    have hp':=hp.pop
    rw[mM,List.append_nil]at ab8
    subst ab8
    exact⟨kI.fy,v,h1,⟨v,rfl⟩,jV,rest,hp',hL.fj,by simpa using hL.ke,by simpa using hL.no⟩
def Hy.c:SC:=
 SQ [RG [wA 4 105],RG [wV 5 0 3 [0],wV 6 1 3 [1],wC 7 77 #[.const (.int .u8 104),.tmp 5,.tmp 6] #[5,3,3] 105 [5,6],wS 105 4 7 [7]],.ret]
def yC (k:Nat) (qx:Int) (qt:Int):Option ((Aa 32 Int)):=
 (yw k 104 qx qt).bind fun x1=>
 some x1
theorem ags (k:Nat) (qx:Int) (qt:Int) (r:(Aa 32 Int)) (h0:yC k qx qt=some r):Ay Tryz.prog 44 [.int .i64 qx,.int .i64 qt] (fun y=>y=.agg ((Aa.c (n:=32) ae) r)):=by
 refine PB Tryz.f44 Hy.c [.cell 4 105] ?_
 simp only[yC]at h0
 try simp only[Hy.c,go_sem]
 refine aj h0 (agn k _ _ _) ?_ (fun x1 h0=>?_)<;>try simp only[go_sem]
 obtain rfl:=oi h0
 refine Ag rfl ?_
 try simp only[go_sem]
end Go.Abs
namespace Go.Abs
open Go Go.Proofs Go.RowKit Go.Lib
def Bb.c:SC:=
 SQ [RG [wA 4 137,wB 5 false 4 [5]],RG [wV 12 0 99,wV 13 1 3,wC 14 102 #[.tmp 12,.tmp 13,.const (.int .i64 0)] #[99,3,3] 105 [12,13],wA 6 105,wS 105 6 14 [14]],RG [wD 15 105 6,wU 16 103 15 105 3 [15],wG 7 16 3 [16]],RG [wJ 17 105 6 4,wD 18 5 17 [17],wY 19 5 3 18 3 [18],oQ 20 (.binOp .shl 3 (.tmp 19) (.const (.int .u64 8)) 172) 3 [19],wJ 21 105 6 5,wD 22 5 21 [21],wY 23 5 3 22 3 [22],
 wO 24 .or 3 20 23 3 3 [20,23],wG 8 24 3 [24]],SQ [.aS [wV 25 7 3,wK 26 .eql 3 25 0 3 4,wV 27 26 4,gd 27 false (wD 28 105 6),gd 27 false (wV 29 7 3),gd 27 false (wV 30 8 3),gd 27 false (wW 31 44 29 30 3 3 105),gd 27 false (wO 32 .neq 105 28 31 105 4),wT 33 27 32 4] [[],[0],[0,1],[0,1,2],[0,1,2],[0,1,2],[0,1,2,4,5],[0,1,2,3,4,5,6],[0,1,2,3,4,5,6,7]] [6,25,26,27,28,29,30,31,32],
 CN 33 (SQ [RG [oQ 34 (.build 137 #[]) 137,wS 137 4 34 [34],wB 5 false 4],.ret]) .skip],RG [wV 35 0 99,wV 36 1 3,wV 37 7 3 [7],oQ 38 (.build 137 #[(0,.tmp 35),(1,.tmp 36),(2,.tmp 37),(3,.const (.int .i64 1))]) 137 [35,36,37],wA 9 137,wS 137 9 38 [38]],SQ [RG [wV 39 0 99 [0],wV 40 1 3 [1],wW 41 120 39 40 99 3 188 [39,40]],.block 0 .other],.aS [wD 58 137 9,wF 59 137 9 5,wD 60 3 59,wV 61 8 3,
 wO 62 .geq 3 60 61 3 4,wS 137 4 58,wG 5 62 4] [[],[],[1],[],[1,2,3],[0],[1,2,3,4,0,5]] [8,9,58,59,60,61,62],.ret]
theorem Bb.rs:Tryz.f101.results.toList=[.cell 4 137,.tmp 5]:=rfl
def Bb.o0:SC:=
 Bb.c.fst
def Bb.o1:SC:=
 Bb.c.snd.fst
def Bb.o2:SC:=
 Bb.c.snd.snd.fst
def Bb.o3:SC:=
 Bb.c.snd.snd.snd.fst
def Bb.o4:SC:=
 Bb.c.snd.snd.snd.snd.fst
def Bb.o5:SC:=
 Bb.c.snd.snd.snd.snd.snd.fst
def Bb.o6:SC:=
 Bb.c.snd.snd.snd.snd.snd.snd.fst.fst
def Bb.o7:SC:=
 Bb.c.snd.snd.snd.snd.snd.snd.snd
def pQ (x3 x4:Int):Int:=fT .i64 (ab ((ab x3)*2 ^ 8)) (ab x4)
def lP:cU:=⟨none,0,0,0,(⟨[]⟩:Ak),0⟩
def tu (d:aF) (aX e:Int):cU:=⟨some d,aX,e,1,⟨[]⟩,0⟩
def rm (k:Nat) (J:cU) (x:Ab×Int):Option cU:=
 (rZ k J.book x.1).bind fun b=>some ⟨J.ag2,J.aX,J.de,x.2,b.1,ab (J.records+1)⟩
def jO (k:Nat):cU->List (Ab×Int)->Option cU
 |J,[]=>some J
 |J,x::l=>(rm k J x).bind fun J=>jO k J l
def qk (k:Nat) (d0:aF) (aY:Int):Option (cU×Bool):=
 (nU k d0 aY 0).bind fun x1=>
 (ql k x1).bind fun x2=>
 (x1.at? 4).bind fun x3=>
 (x1.at? 5).bind fun x4=>
 bif (!decide (x2=(0:Int))) then
  (yC k x2 (fT .i64 (ab ((ab x3)*2 ^ 8)) (ab x4))).bind fun x6=>
  bif (!(Aa.eq (fun(x y:Int)=>decide (x=y)) x1 x6)) then
   some (lP,false)
  else
   (kD k d0 aY).bind fun xs=>
   (jO k (tu d0 aY x2) xs).bind fun J=>
   some (J,decide (J.records>=pQ x3 x4))
 else
  some (lP,false)
def ai9 (d:aF) (aX e ao:Int):St:=⟨[(4,.ptr 0 0 0),(8,.int .i64 ao),(9,.ptr 0 1 0),(41,oJ d aX)],[(0,.box (cU.c lP)),(1,.box (cU.c (tu d aX e)))],[],2,Tryz.f101.ntmps⟩
def opE (L:Prop) (e:Exit) (st:St):Prop:=e=.ret/\L/\DT T Tryz.f101.results.toList (fun y=>NL y (.aw [.agg (cU.c lP),.bool false])) .ret st
def opB (k:Nat) (d:aF) (aX:Int) (r:cU×Bool) (st:St):Prop:=
 ∃ e x3 x4 xs J,kD k d aX=some xs/\jO k (tu d aX e) xs=some J/\r=(J,decide (J.records>=pQ x3 x4))/\Al Tryz.f101.ntmps st (ai9 d aX e (pQ x3 x4))
theorem aqj (k:Nat) (d:aF) (aX:Int) (r:cU×Bool) (h0:qk k d aX=some r):
  AK Tryz.prog Tryz.f101.ntmps (opE (r=(lP,false))) [.sc Bb.o0,.sc Bb.o1,.sc Bb.o2,.sc Bb.o3,.sc Bb.o4,.sc Bb.o5,.sc Bb.o6,.back (opB k d aX r)] (St.enter [.aL 2 [aF.c d] 0 0,.int .i64 aX] [] Tryz.f101.ntmps):=by
 refine rS ?_
 simp only[qk]at h0
 simp only[Bb.o0,Bb.o1,Bb.o2,Bb.o3,Bb.o4,Bb.o5,Bb.o6,Bb.c,SC.fst,SC.snd,go_sem]
 obtain⟨x1,jx,h0⟩:=bs h0
 refine ky (vT k _ _ _ _ jx) ?_ ?_
 ·try simp only[go_sem]
 try simp only[go_sem]
 obtain⟨x2,dJ,h0⟩:=bs h0
 refine ky (abz k _ _ dJ) ?_ ?_
 ·try simp only[go_sem]
 try simp only[go_sem]
 obtain⟨x3,cv,h0⟩:=bs h0
 have rG:=Ao.at lj (Ao.self zlh x1) cv
 have lr:=rG.bound lj
 have lz:=rG.get lj
 try simp only[AA,AB,go_sem]at lr lz
 try simp only[aq cv,lr,lz,(@id (min (Int.toNat 8) 64=8) rfl),go_sem]
 obtain⟨x4,bF,h0⟩:=bs h0
 have fF:=Ao.at lj (Ao.self zlh x1) bF
 have mr:=fF.bound lj
 have mC:=fF.get lj
 try simp only[AA,AB,go_sem]at mr mC
 try simp only[aq bF,mr,mC,aq cv,lr,lz,go_sem]
 refine AL AE aO 1000 ?_
 try simp only[aq cv,lr,lz,aq bF,mr,mC,go_sem]
 refine FI h0 (fun c5 h0=>?_) (fun c5 h0=>?_)
 ·have c5:=adk c5
  try simp only[c5,aq cv,lr,lz,aq bF,mr,mC,go_sem]
  obtain⟨x6,dB,h0⟩:=bs h0
  refine dc0 (ags k _ _ _ dB) ?_ ?_
  ·try simp only[aq cv,lr,lz,aq bF,mr,mC,c5,go_sem]
  try simp only[aq cv,lr,lz,aq bF,mr,mC,c5,go_sem]
  refine aG ?_
  try simp only[aq cv,lr,lz,aq bF,mr,mC,c5,go_sem]
  refine AP h0 (fun c7 h0=>?_) (fun c7 h0=>?_)
  ·have c7:=adk c7
   try simp only[c7,aq cv,lr,lz,aq bF,mr,mC,c5,go_sem]
   obtain rfl:=oi h0
   refine⟨rfl,rfl,Ag (P:=Tryz.prog) (n:=Tryz.f101.ntmps) rfl ?_⟩
   try simp only[Bb.rs,lP,aq cv,lr,lz,aq bF,mr,mC,c5,c7,go_sem]
  ·have c7:=adj c7
   try simp only[c7,aq cv,lr,lz,aq bF,mr,mC,c5,go_sem]
   obtain⟨xs,yxs,h0⟩:=bs h0
   obtain⟨J,yJ,h0⟩:=bs h0
   obtain rfl:=oi h0
   refine ky (amD d aX) ?_ ?_
   ·try simp only[go_sem]
   try simp only[oJ,go_sem]
   refine Ax ⟨x2,x3,x4,xs,J,yxs,yJ,rfl,?_⟩
   refine(Al.fz 1 rfl (fun _ h=>by cases h)).trans ?_
   simp only[go_sem]
   refine(Al.fz 528 rfl (fun _ h=>by cases h)).trans ?_
   simp only[go_sem]
   refine Al.go [4,8,9,41] [0,512] rfl ?_
   simp only[oJ,pQ,lP,tu,go_sem]
 ·have c5:=adj c5
  try simp only[c5,aq cv,lr,lz,aq bF,mr,mC,go_sem]
  refine aG ?_
  try simp only[aq cv,lr,lz,aq bF,mr,mC,c5,go_sem]
  obtain rfl:=oi h0
  refine⟨rfl,rfl,Ag (P:=Tryz.prog) (n:=Tryz.f101.ntmps) rfl ?_⟩
  try simp only[Bb.rs,lP,aq cv,lr,lz,aq bF,mr,mC,c5,go_sem]
def Bb.oa:SC:=.seq (.lS [wA 10 29,wS 29 10 42 [42]]) (.lS [wG 11 43 3 [43]])

def Bb.ob:SC:=.block 1 (.seq (.lS [wF 45 137 9 4,wD 46 40 45 [45],wD 47 29 10,wW 48 70 46 47 40 29 133 [46,47],
 wV 44 48 133 [48],wX 49 44 0 40,wX 50 44 1 45 [44,50],wF 51 137 9 4,wS 40 51 49 [49,51]])
 (.seq (.lS [wV 52 11 3 [11],wF 53 137 9 3,wS 3 53 52 [52,53]])
 (.lS [wF 54 137 9 5,wD 55 3 54 [54],wK 56 .add 3 55 1 3 3 [55],wF 57 137 9 5,wS 3 57 56 [56,57]])))
def mR (J:cU):AH:=[(0,.box (cU.c lP)),(1,.box (cU.c J))]
def opS (x:Ab×Int) (f:AH) (J:cU):St:=⟨[(9,.ptr 2 1 0),(42,.agg (Ab.c x.1)),(43,.int .i64 x.2)],[],[f,mR J],0,Tryz.f101.ntmps⟩
def vg (x:Ab×Int) (f:AH) (J:cU):St:=⟨[(9,.ptr 2 1 0),(10,.ptr 0 0 0),(11,.int .i64 x.2)],[(0,.box (Ab.c x.1))],[f,mR J],1,Tryz.f101.ntmps⟩
def opN (f:AH) (J:cU):St:=⟨[],[],[f,mR J],0,Tryz.f101.ntmps⟩
def opR (J:cU) (ao:Int):St:=⟨[(4,.ptr 0 0 0),(8,.int .i64 ao),(9,.ptr 0 1 0)],mR J,[],2,Tryz.f101.ntmps⟩
theorem aqg [Md] (x:Ab×Int) (f:AH) (J:cU) (Φ:Exit->St->Prop):AK Tryz.prog Tryz.f101.ntmps Φ [.sc Bb.oa,.back (fun st=>Al Tryz.f101.ntmps st (vg x f J))] (opS x f J):=by
 refine rS ?_
 simp only[Bb.oa,opS,mR,lP,go_sem]
 show Al Tryz.f101.ntmps _ (vg x f J)
 refine Al.go [9,10,11] [0] rfl ?_
 simp only[mR,lP,go_sem]
theorem aqi [Md] (k:Nat) (x:Ab×Int) (f:AH) (J J':cU) (h0:rm k J x=some J') (Φ:Exit->St->Prop):AK Tryz.prog Tryz.f101.ntmps Φ [.sc Bb.ob,.back (fun st=>Al Tryz.f101.ntmps st (opN f J'))] (vg x f J):=by
 refine rS ?_
 simp only[rm]at h0
 obtain⟨b,yb,h0⟩:=bs h0
 obtain rfl:=oi h0
 simp only[Bb.ob,vg,mR,lP,go_sem]
 refine ky (adm k J.book x.1 b yb) ?_ ?_
 ·simp only[go_sem]
 simp only[go_sem]
 show Al Tryz.f101.ntmps _ (opN f _)
 refine Al.go [] [] rfl ?_
 simp only[mR,lP,go_sem]
theorem aqk [Md] (J:cU) (ao:Int):AK Tryz.prog Tryz.f101.ntmps (fun e st=>e=.ret/\DT T Tryz.f101.results.toList (fun y=>NL y (.aw [.agg (cU.c J),.bool (decide (J.records>=ao))])) .ret st) [.sc Bb.o7] (opR J ao):=by
 refine rS ?_
 simp only[Bb.o7,Bb.c,opR,mR,lP,SC.snd,go_sem]
 refine AL AE aO 1000 ?_
 simp only[go_sem]
 refine aG ?_
 simp only[go_sem]
 refine⟨rfl,Ag (P:=Tryz.prog) (n:=Tryz.f101.ntmps) rfl ?_⟩
 simp only[Bb.rs,go_sem]
def BO:Code:=Tryz.f101.body.getD .skip
def CU:Code:=abE (al (bS (al (al (al (al (al (al BO))))))))
def yG:Code->Code
 |.rangeFunc _ _ a _=>a
 |x=>x
def yH:Code->Code
 |.rangeFunc _ _ _ b=>b
 |x=>x
theorem ajb {k:Nat}{x:Ab×Int}:∀ {J:cU}{l:List (Ab×Int)},jO k J (l++[x])=(jO k J l).bind fun J=>rm k J x
 |J,[]=>by simp only[Ce,jO,Ae];cases rm k J x<;>rfl
 |J,y::l=>by
  simp only[Bz,jO]
  cases rm k J y with
  |none=>rfl
  |some J'=>simp only[Ae];exact ajb
theorem aja {k:Nat}:∀ {J:cU}{l m:List (Ab×Int)}{Z:cU},jO k J (l++m)=some Z->∃ J',jO k J l=some J'
 |J,[],m,Z,h=>⟨J,rfl⟩
 |J,y::l,m,Z,h=>by
  simp only[Bz,jO]at h ⊢
  obtain⟨J',h1,h2⟩:=bs h
  rw[h1]
  exact aja h2
def xH (k:Nat) (J0:cU) (pre:List (Ab×Int)):AH:=mR ((jO k J0 pre).getD J0)
def mT (a:Act) (D:Nat) (fn:FuncId) (s:LoopState) (p:Option Code):Loop:={ state:=s,pending:=p,fn,tmps:=a.tmps,params:=#[42,43],assign:=yG CU,body:=yH CU,defers:=D }
theorem aqf [Md] {Q:Exit->Act->World->Prop}{N0:Nat}{W1:World}{fm:FM}{ts:List Aw}{a:Act}{w:World}{x:Ab×Int}{f:AH}{J:cU} (hS:SR N0 W1 Tryz.f101.ntmps (opS x f J) a w fm ts)
  (hn:∀ a' w' fm' ts',SR N0 W1 Tryz.f101.ntmps (vg x f J) a' w' fm' ts'->Bq N0 fm ts fm' ts'->Q .normal a' w'):(yG CU).wpIn FW 0 Tryz.prog Q a w:=by
 refine(show K Tryz.prog Q ([.code (yG CU)]++[]) .normal a w from ?_)
 refine AK.xP (Φ:=fun _ _=>False) (todo:=[.sc Bb.oa]) hS (aqg x f J _) (fun R hR=>.sc (by rfl) (by rfl) (.back hR .nil)) ?_ (fun _ _ _ _ _ _ h=>h.elim)
 intro ay a' w' fm' ts' hw du hL
 obtain⟨fZ,eU,h1,h2⟩:=hw _ _ _ _ _ _ du
 exact hn _ _ _ _ h1 (hL.trans h2)
theorem aqh [Md] (k:Nat) {Q:Exit->Act->World->Prop}{N0:Nat}{W1:World}{fm:FM}{ts:List Aw}{a:Act}{w:World}{x:Ab×Int}{f:AH}{J J':cU} (h0:rm k J x=some J') (hS:SR N0 W1 Tryz.f101.ntmps (vg x f J) a w fm ts)
  (hn:∀ a' w' fm' ts',SR N0 W1 Tryz.f101.ntmps (opN f J') a' w' fm' ts'->Bq N0 fm ts fm' ts'->Q .normal a' w'):(yH CU).wpIn FW 0 Tryz.prog Q a w:=by
 refine(show K Tryz.prog Q ([.code (yH CU)]++[]) .normal a w from ?_)
 refine AK.xP (Φ:=fun _ _=>False) (todo:=[.sc Bb.ob]) hS (aqi k x f J J' h0 _) (fun R hR=>.sc (by rfl) (by rfl) (.back hR .nil)) ?_ (fun _ _ _ _ _ _ h=>h.elim)
 intro ay a' w' fm' ts' hw du hL
 obtain⟨fZ,eU,h1,h2⟩:=hw _ _ _ _ _ _ du
 exact hn _ _ _ _ h1 (hL.trans h2)
theorem abp {N0 l:Nat}{W:World}{o o':Obj} (hN:N0<=l) (h:W.heap[l]?=some o):Below N0 W (W.putObj l o'):=
 (Below.refl N0 W).grown (grownBy_putObj' W l o') (by have:=(CZ.1 h).1;omega) (fun k e=>by cases e;omega)
theorem aql (k:Nat) (J0:cU) (xs:List (Ab×Int)) (Z:cU) (hZ:jO k J0 xs=some Z) {N0:Nat}{W1:World}{l D:Nat}{fn:FuncId}{tc:Aw}{a:Act}{c9:Nat} (hN:N0<=l) (aC:a.tmps.size=Tryz.f101.ntmps)
  (hl:W1.heap[l]?=some (.loop (mT a D fn .ready none))) (h9:tc 1=some (.box c9)) (ha:a.tmps[9]?=some (.pointer (some ⟨c9,0,none⟩))):YC N0 W1 l tc (xH k J0) xs:=by
 intro pre x pD f fm ts w vs hr iQ bq
 obtain⟨suf,ao6⟩:=pD
 obtain⟨J',hJ'⟩:=aja (l:=pre++[x]) (m:=suf) (by rw[ao6];exact hZ)
 have hJ2:=hJ'
 rw[ajb]at hJ2
 obtain⟨J,hJ,gY⟩:=bs hJ2
 have hlw:=hr.dH l _ hl rfl
 have lG:Tryz.f101.ntmps=63:=by rfl
 obtain⟨v0,v1,rfl⟩:∃ v0 v1,vs=[v0,v1]:=by
  have:=bq.1
  match vs,this with
  |[v0,v1],_=>exact⟨v0,v1,rfl⟩
 have hy:=run_yield (P:=Tryz.prog) (args:=#[v0,v1]) hlw (by rfl)
 refine⟨_,_,_,_,hy,?_⟩
 have xm:HR N0 W1 fm ts [f,mR J] w:=by
  have h:=hr
  unfold xH at h
  rw[hJ]at h
  exact h
 have hSS:@SR ⟨some l,[]⟩ N0 W1 Tryz.f101.ntmps (opS x f J) { tmps:=(a.tmps.setIfInBounds 42 v0).setIfInBounds 43 v1,defers:=[] } w fm (dF::ts):=by
  refine @SR.mk ⟨some l,[]⟩ _ _ _ _ _ _ _ _ xm.push ?_ (fun _ _=>rfl) (by simp[aC]) rfl
  intro t y hy
  unfold opS at hy
  simp only[look]at hy
  split at hy
  ·subst_vars
   obtain rfl:=oi hy
   refine⟨_,by rw[Array.getElem?_setIfInBounds,if_neg (by decide),Array.getElem?_setIfInBounds,if_neg (by decide)];exact ha,.ptr 2 1 0 c9 ?_⟩
   have h1:=iQ 0 1
   have h2:tb (ts.drop 1) 0 1=some (.box c9):=h1.box h9
   rw[ft]at h2
   exact h2
  ·split at hy
   ·subst_vars
    obtain rfl:=oi hy
    refine⟨v0,by rw[Array.getElem?_setIfInBounds,if_neg (by decide),Array.getElem?_setIfInBounds,if_pos rfl,if_pos (by rw[aC,lG];decide)],?_⟩
    have:=bq.2 0 _ v0 rfl rfl
    have h3:VR fm [] (.agg (Ab.c x.1)) v0:=(hr.vP (AG.one this) (ys:=[.agg (Ab.c x.1)]) (by simp only[AV.aQ,AV.ak,(akv.ou x.1).ak,Be])).2 0 _ _ rfl rfl
    exact h3.mono (Bh.refl _) (AD.nil _)
   ·split at hy
    ·subst_vars
     obtain rfl:=oi hy
     refine⟨v1,by rw[Array.getElem?_setIfInBounds,if_pos rfl,if_pos (by rw[Array.size_setIfInBounds,aC,lG];decide)],?_⟩
     have:=bq.2 1 _ v1 rfl rfl
     have h3:VR fm [] (.int .i64 x.2) v1:=(hr.vP (AG.one this) (ys:=[.int .i64 x.2]) rfl).2 0 _ _ rfl rfl
     exact h3.mono (Bh.refl _) (AD.nil _)
    ·cases hy
 refine roundIn_of_wpIn trivial ?_
 have aoI:(((mT a D fn .ready none).params.zip #[v0,v1]).foldl (fun tmps (x:Tmp×Value)=>match x with|(t,a)=>tmps.setIfInBounds t a) (mT a D fn .ready none).tmps)=(a.tmps.setIfInBounds 42 v0).setIfInBounds 43 v1:=by
  simp[mT]
 rw[aoI]
 refine @aqf ⟨some l,[]⟩ _ _ _ _ _ _ _ x f J hSS ?_
 intro a1 w1 gV en dX lD
 obtain⟨g1,g2,g3,g4,g5⟩:=dX
 have fb:=g1.dH l _ hl rfl
 refine⟨_,run_beginRound fb rfl,?_⟩
 have aok:@SR ⟨some l,[]⟩ N0 (w1.putObj l (.loop { mT a D fn .ready none with state:=.busy })) Tryz.f101.ntmps (vg x f J) a1 (w1.putObj l (.loop { mT a D fn .ready none with state:=.busy })) gV en:=
  @SR.mk ⟨some l,[]⟩ _ _ _ _ _ _ _ _ (g1.other fb rfl hN) g2 g3 g4 g5
 refine @aqh ⟨some l,[]⟩ k _ _ _ _ _ _ _ x f J J' gY aok ?_
 intro a2 w2 fZ eU ga eH
 obtain⟨k1,k2,k3,k4,k5⟩:=ga
 have af:=(CZ.1 fb).1
 have jo:=k1.dH l (.loop { mT a D fn .ready none with state:=.busy }) (World.putObj_heap_same af) rfl
 refine⟨_,_,run_endRound none jo,rfl,fZ,eU.drop 1,?_,lD.fj.trans eH.fj,?_,?_⟩
 ·have k6:=k1.other (o':=.loop { mT a D fn .ready none with state:=.ready,pending:=none }) jo rfl hN
  cases eU with
  |nil=>have:=k6.len;simp at this
  |cons t0 rest=>
   have k7:=k6.pop
   have pn:Below N0 W1 (w2.putObj l (.loop { mT a D fn .ready none with state:=.ready,pending:=none })):=
    ((g1.dL.trans (abp hN fb)).trans k1.dL).trans (abp hN jo)
   have ab5:∀ (b:Nat) (o:Obj),W1.heap[b]?=some o->acu o=true->(w2.putObj l (.loop { mT a D fn .ready none with state:=.ready,pending:=none })).heap[b]?=some o:=by
    intro b o hb ho
    by_cases iB:b=l
    ·subst iB
     rw[hl]at hb
     obtain rfl:=oi hb
     exact World.putObj_heap_same (CZ.1 jo).1
    ·rw[World.putObj_heap_other (by omega)]
     refine k1.dH b o ?_ ho
     rw[World.putObj_heap_other (by omega)]
     exact g1.dH b o hb ho
   have k8:HR N0 W1 fZ rest [f,mR J'] (w2.putObj l (.loop { mT a D fn .ready none with state:=.ready,pending:=none })):={ k7 with dL:=pn,dH:=ab5 }
   unfold xH
   rw[hJ']
   exact k8
 ·have h:=lD.ke.trans eH.ke
  simpa using h
 ·intro l' k' h
  exact eH.no l' k' (lD.no l' k' (by simpa using h))
theorem agr (k:Nat) (d0:aF) (aY:Int) (r:cU×Bool) (h0:qk k d0 aY=some r):Ay Tryz.prog 101 [.aL 2 [aF.c d0] 0 0,.int .i64 aY] (fun y=>y=.aw [.agg (cU.c r.1),.bool r.2]):=by
 refine⟨⟨Tryz.f101,by rfl,by rfl,by rfl⟩,fun fm w vs bT hv=>?_⟩
 have lG:Tryz.f101.ntmps=63:=by rfl
 refine callsIn_wide.1 (callsIn_of_wp_marks (F:=FW) (n:=0) (fn:=Tryz.f101) (c:=BO) (by rfl) (by rfl) trivial ?_)
 have hS:=SR.enter (HR.nothing bT) (vs:=vs) (args:=[.aL 2 [aF.c d0] 0 0,.int .i64 aY]) (n:=Tryz.f101.ntmps) ⟨hv.1,fun i x v p q=>(hv.2 i x v p q).mono (Bh.refl _) (AD.nil _)⟩ (by rw[lG];simp)
 have anQ:BO=.seq (bS BO) (.seq (bS (al BO)) (.seq (bS (al (al BO))) (.seq (bS (al (al (al BO)))) (.seq (bS (al (al (al (al BO))))) (.seq (bS (al (al (al (al (al BO)))))) (.seq (.seq (bS (bS (al (al (al (al (al (al BO)))))))) (.block 0 CU)) (al (al (al (al (al (al (al BO))))))))))))):=by rfl
 refine(show K Tryz.prog _ [.code BO] .normal _ w from ?_)
 rw[anQ]
 refine DH ?_
 refine CW (t:=[.code (bS (al BO)),.code (bS (al (al BO))),.code (bS (al (al (al BO)))),.code (bS (al (al (al (al BO))))),.code (bS (al (al (al (al (al BO)))))),.code (bS (bS (al (al (al (al (al (al BO)))))))),.code (.block 0 CU),.code (al (al (al (al (al (al (al BO)))))))])
  (fun e a w h=>CQ _ _ _ (CW (fun e a w h=>CQ _ _ _ (CW (fun e a w h=>CQ _ _ _ (CW (fun e a w h=>CQ _ _ _ (CW (fun e a w h=>CQ _ _ _ (CW (fun e a w h=>CQ _ _ _ (CQ _ _ _ h)) _ _ _ h)) _ _ _ h)) _ _ _ h)) _ _ _ h)) _ _ _ h)) _ _ _ ?_
 refine AK.xP (cs:=[.code (bS BO),.code (bS (al BO)),.code (bS (al (al BO))),.code (bS (al (al (al BO)))),.code (bS (al (al (al (al BO))))),.code (bS (al (al (al (al (al BO)))))),.code (bS (bS (al (al (al (al (al (al BO))))))))])
  (t:=[.code (.block 0 CU),.code (al (al (al (al (al (al (al BO)))))))]) (todo:=[.sc Bb.o0,.sc Bb.o1,.sc Bb.o2,.sc Bb.o3,.sc Bb.o4,.sc Bb.o5,.sc Bb.o6]) hS (aqj k d0 aY r h0)
  (fun R hR=>.sc (by rfl) (by rfl) (.sc (by rfl) (by rfl) (.sc (by rfl) (by rfl) (.sc (by rfl) (by rfl) (.sc (by rfl) (by rfl) (.sc (by rfl) (by rfl) (.sc (by rfl) (by rfl) (.back hR .nil)))))))) ?_ ?_
 rotate_left
 ·
  rintro e st a w2 fZ eU ⟨rfl,rfl,hE⟩ ga eH
  refine DE ?_ _
  obtain⟨u,jV,h1,h2,h3,h4⟩:=ahA (P:=Tryz.prog) AE ga hE
  show LeavesInM FW 0 Tryz.prog Tryz.f101 a.tmps _ a.defers .returning w2
  rw[ga.fy]
  exact⟨u,h1,u,_,jV,rfl,rfl,h3,h2,eH.fj.trans h4,ga.hr.dL⟩
 ·rintro st0 a0 w0 fm0 gH ⟨e,x3,x4,xs,J,gm,hJ,rfl,hw⟩ hS0 hL0
  obtain⟨gV,en,dX,lD⟩:=hw _ _ _ _ _ _ hS0
  have aoi:=hL0.trans lD
  obtain⟨tc,rfl⟩:∃ tc,en=[tc]:=by
   have:=dX.hr.len
   match en,this with
   |[tc],_=>exact⟨tc,rfl⟩
  refine Fz ?_
  have e2:CU=.rangeFunc (.tmp 41) #[42,43] (yG CU) (yH CU):=by rfl
  rw[e2]
  refine(show (Code.rangeFunc (.tmp 41) #[42,43] (yG CU) (yH CU)).wpIn FW 0 Tryz.prog (K Tryz.prog _ [.aD 0,.code (al (al (al (al (al (al (al BO)))))))]) a0 w0 from ?_)
  refine wpIn_rangeFunc ?_
  intro fn _
  obtain⟨v41,h41,r41⟩:=dX.tm 41 (oJ d0 aY) rfl
  obtain⟨p9,h9,r9⟩:=dX.tm 9 (.ptr 0 1 0) rfl
  obtain⟨c9,rfl,hc9⟩:∃ c9,p9=.pointer (some ⟨c9,0,none⟩)/\tc 1=some (.box c9):=by
   cases r9 with
   |ptr _ _ _ c h=>exact⟨c,rfl,h⟩
  obtain⟨vd,va,rfl,hd,ha⟩:∃ vd va,v41=.func (.func 126) #[] #[vd,va]/\VR gV [] (.aL 1 [[.aL 2 [aF.c d0] 0 0]] 0 0) vd/\VR gV [] (.aL 1 [[.int .i64 aY]] 0 0) va:=by
   have hb:VR gV [] (oJ d0 aY) v41:=(dX.hr.vP (AG.one r41) (ys:=[oJ d0 aY]) (by simp only[oJ,AV.aQ,AV.ak])).2 0 _ _ rfl rfl
   unfold oJ at hb
   cases hb with
   |fn f first cap vf vc h1 h2 h3 h4=>
    have e1:vf=#[]:=Array.size_eq_zero_iff.1 (by simpa using h1.symm)
    obtain⟨l,rfl⟩:∃ l,vc=l.toArray:=⟨vc.toList,by simp⟩
    match l,h2,h4 with
    |[vd,va],h2,h4=>exact⟨vd,va,by rw[e1],h4 0 _ vd rfl rfl,h4 1 _ va rfl rfl⟩
  have hN1:w.heap.size<=w0.heap.size:=dX.hr.size
  obtain⟨rec,om⟩:∃ rec,rec=mT a0 w0.heap.size fn .ready none:=⟨_,rfl⟩
  obtain⟨W1,jh⟩:∃ W1,W1=(w0.alloc (.deferred (some []))).alloc (.loop rec):=⟨_,rfl⟩
  have hl:W1.heap[w0.heap.size+1]?=some (.loop rec):=by
   rw[jh];have:=World.alloc_heap_new (w0.alloc (.deferred (some []))) (.loop rec);rwa [World.size_alloc]at this
  have hD:W1.heap[w0.heap.size]?=some (.deferred (some [])):=by
   rw[jh];exact(Below.heap_alloc _ _ _ (by simp)).trans (World.alloc_heap_new w0 _)
  have uQ:HR w.heap.size W1 gV [tc] [xH k (tu d0 aY e) []] W1:=by
   rw[jh];exact((dX.hr.alloc _).alloc _).aq6
  have hbW:Below w.heap.size w W1:=by
   rw[jh];exact(dX.hr.dL.alloc hN1 _).alloc (by simp;omega) _
  have as4:a0.eval (.tmp 41)=.func (.func 126) #[] #[vd,va]:=by simp[Act.eval,Array.getD_eq_getD_getElem?,h41]
  refine⟨w0.heap.size+1,[{ target:=.collected w0.heap.size,args:=#[] }],W1,{ target:=.fn (.func 126) #[vd,va],args:=#[.func (.yield (w0.heap.size+1)) #[] #[]] },W1,126,
   #[.func (.yield (w0.heap.size+1)) #[] #[]]++#[vd,va],W1,?_,?_,?_,?_,(fun h=>by simp[FW]at h),?_⟩
  ·rw[jh,om];exact run_enterLoop_outer _ _ _ _ _
  ·simp[resolve,Deferred.ofValue,Act.eval,h41]
  ·intro f' zq;trivial
  ·simp[invoke,callFunc];rfl
  refine callsIn_wide.2 ?_
  refine(apv k d0 aY xs gm (aql k (tu d0 aY e) xs J hJ (by omega) dX.size (by rw[hl,om]) hc9 h9) uQ hd ha).mono ?_
  rintro e3 w3 ⟨⟨v,rfl⟩,jV,lY,uR,aix,apb,aoV⟩
  have hNl:w.heap.size<=w0.heap.size+1:=by omega
  have hl3:=uR.dH _ _ hl rfl
  refine⟨_,_,run_endLoop hl3 (by rw[om];simp[mT]),?_⟩
  have hr4:=uR.other (o':=.loop { rec with state:=.exhausted }) hl3 rfl hNl
  have hC:xH k (tu d0 aY e) xs=mR J:=by unfold xH;rw[hJ];rfl
  rw[hC]at hr4
  have hD4:(w3.putObj (w0.heap.size+1) (.loop { rec with state:=.exhausted })).heap[w0.heap.size]?=some (.deferred (some [])):=by
   rw[World.putObj_heap_other (by omega)];exact uR.dH _ _ hD rfl
  have hb4:Below w.heap.size w3 (w3.putObj (w0.heap.size+1) (.loop { rec with state:=.exhausted })):=abp hNl hl3
  generalize hw4:w3.putObj (w0.heap.size+1) (.loop { rec with state:=.exhausted })=w4 at hr4 hD4 hb4 ⊢
  have aoZ:rec.pending=none:=by rw[om];rfl
  rw[aoZ]
  refine(show K Tryz.prog _ [.code (al (al (al (al (al (al (al BO)))))))] .normal _ w4 from ?_)
  have hSR:@SR ⟨none,[{ target:=.collected w0.heap.size,args:=#[] }]⟩ w.heap.size w4 Tryz.f101.ntmps (opR J (pQ x3 x4)) { a0 with defers:=[{ target:=.collected w0.heap.size,args:=#[] }]++a0.defers } w4 jV lY:=by
   have uF:=dX.fy
   refine @SR.mk ⟨none,[{ target:=.collected w0.heap.size,args:=#[] }]⟩ _ _ _ _ _ _ _ _ hr4 ?_ (fun k hk=>aoV 0 k (dX.nx k hk)) dX.size ?_
   ·intro t x hx
    have jq:look (ai9 d0 aY e (pQ x3 x4)).tm t=some x:=aeH (a:=(opR J (pQ x3 x4)).tm) [(41,oJ d0 aY)] hx
    obtain⟨u,h1,h2⟩:=dX.tm t x jq
    exact⟨u,h1,h2.mono aix.le apb⟩
   ·show [_]++a0.defers=_
    rw[uF];rfl
  rw[FO pL ⟨none,[{ target:=.collected w0.heap.size,args:=#[] }]⟩ rfl]
  refine @AK.last ⟨none,[{ target:=.collected w0.heap.size,args:=#[] }]⟩ _ _ _ _ _ _ _ _ _ _ (fun e st=>e=.ret/\DT T Tryz.f101.results.toList (fun y=>NL y (.aw [.agg (cU.c J),.bool (decide (J.records>=pQ x3 x4))])) .ret st) _ Bb.o7 hSR
   (@aqk ⟨none,[{ target:=.collected w0.heap.size,args:=#[] }]⟩ J (pQ x3 x4)) (by rfl) (by rfl) ?_
  rintro e5 st5 a5 w5 fm5 ts5 ⟨rfl,hE⟩ hS5 hL5
  obtain⟨s1,s2,s3,s4,s5⟩:=hS5
  have s5':a5.defers=[{ target:=.collected w0.heap.size,args:=#[] }]:=s5
  have hD5:=s1.dH _ _ hD4 rfl
  show LeavesInM FW 0 Tryz.prog Tryz.f101 a5.tmps _ a5.defers .returning w5
  rw[s5']
  refine⟨by simp,.inl ⟨w0.heap.size,_,rfl,run_takeDeferred hD5,?_⟩⟩
  have hS6:@SR pL w.heap.size (w5.putObj w0.heap.size (.deferred none)) Tryz.f101.ntmps st5 { a5 with defers:=[] } (w5.putObj w0.heap.size (.deferred none)) fm5 ts5:=@SR.mk pL _ _ _ _ _ _ _ _ (s1.other hD5 rfl hN1) s2 s3 s4 rfl
  obtain⟨u,fm6,h1,h2,h3,h4⟩:=ahA (P:=Tryz.prog) AE hS6 hE
  exact⟨u,h1,u,_,fm6,rfl,rfl,h3,h2,((aoi.fj.trans aix).trans hL5.fj).trans h4,(((hbW.trans uR.dL).trans hb4).trans s1.dL).trans (abp hN1 hD5)⟩
def HP.c:SC:=
 SQ [RG [wA 2 137,wB 3 false 4 [3]],RG [wV 9 0 99,wC 10 101 #[.tmp 9,.const (.int .i64 0)] #[99,3] 138 [9],wV 8 10 138 [10],wX 11 8 0 137,wX 12 8 1 4 [8],wA 4 137,wS 137 4 11 [11],wG 5 12 4 [12]],RG [wV 14 0 99 [0],wC 15 101 #[.tmp 14,.const (.int .i64 1)] #[99,3] 138 [14],wV 13 15 138 [15],wX 16 13 0 137,wX 17 13 1 4 [13],wA 6 137,wS 137 6 16 [16],wG 7 17 4 [17]],SQ [RG [wV 18 7 4 [7],
 wV 19 18 4 [18],gd 19 true (wV 20 5 4),gd 19 true (wQ 21 20 4 [20]),gd 19 true (wV 22 21 4 [21]),gd 22 false (wF 23 137 6 2),gd 22 false (wD 24 3 23 [23]),gd 22 false (wF 25 137 4 2),gd 22 false (wD 26 3 25 [25]),gd 22 false (wO 27 .gtr 3 24 26 3 4 [24,26]),gd 19 true (wT 28 22 27 4 [22,27]),wZ 29 19 28 4 [19,28]],CN 29 (SQ [RG [wD 30 137 6 [6],wS 137 2 30 [30],wB 3 true 4],.ret]) .skip],
 RG [wD 31 137 4 [4],wV 32 5 4 [5],wS 137 2 31 [31],wG 3 32 4 [32]],.ret]
def vU (k:Nat) (d0:aF):Option (cU×Bool):=
 (qk k d0 0).bind fun x1=>
 (qk k d0 1).bind fun x2=>
 bif x2.2 then
  bif x1.2 then
   bif decide (x1.1.de<x2.1.de) then
    some (x2.1,true)
   else
    some (x1.1,true)
  else
   some (x2.1,true)
 else
  some (x1.1,x1.2)
theorem agq (k:Nat) (d0:aF) (r:cU×Bool) (h0:vU k d0=some r):Ay Tryz.prog 72 [.aL 2 [aF.c d0] 0 0] (fun y=>y=.aw [.agg (cU.c r.1),.bool r.2]):=by
 refine PB Tryz.f72 HP.c [.cell 2 137,.tmp 3] ?_
 simp only[vU]at h0
 try simp only[HP.c,go_sem]
 refine aj h0 (agr k _ _) ?_ (fun x1 h0=>?_)<;>try simp only[go_sem]
 refine aj h0 (agr k _ _) ?_ (fun x2 h0=>?_)<;>try simp only[go_sem]
 refine AP h0 ?_ ?_<;>intro c3 h0<;>have F:=c3<;>try simp only[F,go_sem]
 refine AF F h0 ?_ ?_<;>intro F h0<;>try simp only[F,go_sem]
 refine AF F h0 ?_ ?_<;>intro F h0<;>try simp only[F,go_sem]
 obtain rfl:=oi h0
 refine Ag rfl ?_
 try simp only[F,go_sem]
 obtain rfl:=oi h0
 refine Ag rfl ?_
 try simp only[F,go_sem]
 obtain rfl:=oi h0
 refine Ag rfl ?_
 try simp only[F,go_sem]
 obtain rfl:=oi h0
 refine Ag rfl ?_
 try simp only[F,go_sem]
def EU.s0:SC:=
 SQ [SQ [RG [wV 10 8 3,wK 11 .lss 3 10 602 3 4 [10]],CN 11 .skip (.exit 0)],.block 1 (RG [wV 14 7 3 [7],wV 15 0 99,wV 16 1 3,wV 17 8 3,wC 18 102 #[.tmp 15,.tmp 16,.tmp 17] #[99,3,3] 105 [15,16,17],wU 19 103 18 105 3 [18],oQ 20 (.call ⟨.builtin .max,#[.tmp 14,.tmp 19],#[3,3]⟩) 3 [14,19],wG 7 20 3 [20]]),RG [wV 12 8 3 [8],wK 13 .add 3 12 1 3 3 [12],wG 8 13 3 [13]]]
def EU.c:SC:=
 SQ [RG [wN 6 0 3 [6]],RG [wN 7 0 3],SQ [RG [wV 9 2 3 [2],wG 8 9 3 [9]],.block 0 (.loop EU.s0)],RG [wV 21 7 3 [7],wG 6 21 3 [21]],.ret]
def ew.b0 (k:Nat) (d0:aF) (aY:Int):(Int×Int)->Option (AN (Int×Int) (Int) (Int)):=fun s=>match s with
 |(i1,i2)=>
   bif decide (i2<(602:Int)) then
    (nU k d0 aY i2).bind fun x5=>
    (ql k x5).bind fun x6=>
    some (.next (max i1 x6,ab (i2+1)))
   else
    some (.brk i1)
def ew.h0 (d0:aF) (aY:Int):(Int×Int)->St:=fun s=>match s with
 |(i1,i2)=>⟨[(0,.aL 2 [aF.c d0] 0 0),(1,.int .i64 aY),(7,.int .i64 i1),(8,.int .i64 i2)],[],[],1,Tryz.f73.ntmps⟩
def ew.x0:Int->St:=fun i3=>⟨[(7,.int .i64 i3)],[],[],1,Tryz.f73.ntmps⟩
def ew (k:Nat) (d0:aF) (aY:Int) (bc:Int):Option (Int):=
 (ai (ew.b0 k d0 aY) k (0,bc)).bind fun r7=>match r7 with
 |.next _=>none
 |.ret v_=>some v_
 |.brk i3=>
  some i3
theorem yz (k:Nat) (d0:aF) (aY:Int) (bc:Int) (r:Int) (h0:ew k d0 aY bc=some r):Ay Tryz.prog 73 [.aL 2 [aF.c d0] 0 0,.int .i64 aY,.int .i64 bc] (fun y=>y=.int .i64 r):=by
 refine PB Tryz.f73 EU.c [.tmp 6] ?_
 simp only[ew]at h0
 try simp only[EU.c,go_sem]
 obtain⟨r7,lf,h0⟩:=bs h0
 refine A5 lf (ew.h0 d0 aY) (ew.x0) ?_ ?_ ?_
 refine Al.go [0,1,7,8] [] rfl ?_
 try simp only[ew.h0,go_sem]
 rintro⟨i1,i2⟩ bO Bd Ba h1 az ax bg
 refine rS ?_
 simp only[ew.b0]at h1
 try simp only[EU.s0,ew.h0,go_sem]
 refine AP h1 ?_ ?_<;>intro c4 h1<;>have F:=c4<;>try simp only[F,go_sem]
 refine aj h1 (vT k _ _ _) ?_ (fun x5 h1=>?_)<;>try simp only[F,go_sem]
 refine aj h1 (abz k _) ?_ (fun x6 h1=>?_)<;>try simp only[F,go_sem]
 refine Ax (az _ _ (oi h1).symm (Al.go [0,1,7,8] [] rfl ?_))
 try simp only[ew.h0,F,go_sem]
 refine Ax (ax _ _ (oi h1).symm (Al.go [7] [] rfl ?_))
 try simp only[ew.x0,F,go_sem]
 rintro i3 aA
 subst aA
 simp only at h0
 refine rS ?_
 try simp only[ew.x0,go_sem]
 obtain rfl:=oi h0
 refine Ag rfl ?_
 try simp only[go_sem]
def EV.s0:SC:=
 SQ [RG [wO 14 .lss 3 13 12 3 0],CN 14 .skip (.exit 0),.block 1 (SQ [RG [wV 15 13 3,wG 5 15 3 [15]],.aS [wV 16 0 38,wV 17 5 3,wI 18 38 16 17,wD 19 29 18,wV 20 1 38,wV 21 5 3,wI 22 38 20 21,wD 23 29 22,wO 24 .neq 29 19 23 29 4] [[],[],[0,1],[0,1,2],[],[],[4,5],[4,5,6],[0,1,2,3,4,5,6,7]] [5,16,17,18,19,20,21,22,23],CN 24 (SQ [RG [wB 4 false 4],.ret]) .skip]),RG [wK 25 .add 3 13 1 3 3 [13],
 wV 13 25 3 [25]]]
def EV.c:SC:=
 SQ [RG [wB 4 false 4 [4]],SQ [RG [wV 6 0 38,wL 7 6 38 3 [6],wV 8 1 38,wL 9 8 38 3 [8],wO 10 .neq 3 7 9 3 4 [7,9]],CN 10 (SQ [RG [wB 4 false 4],.ret]) .skip],SQ [RG [wV 11 0 38,wL 12 11 38 3 [11],oQ 13 (.move (.const (.int .i64 0))) 3],.block 0 (.loop EV.s0)],RG [wB 4 true 4],.ret]
def iF.b0 (k:Nat) (il:(List Ab)) (ca:(List Ab)):Int->Option (AN (Int) (Unit) (Bool)):=fun i2=>
 bif decide (i2<(il.length:Int)) then
  (at? il i2).bind fun x4=>
  (at? ca i2).bind fun x5=>
  bif (!(decide (x4.At.Ac=x5.At.Ac)&&(decide (x4.At.No=x5.At.No)&&(decide (x4.Kind=x5.Kind)&&(decide (x4.Day=x5.Day)&&(decide (x4.Ap=x5.Ap)&&(decide (x4.Of.Ac=x5.Of.Ac)&&(decide (x4.Of.No=x5.Of.No)&&(x4.Text.toList==x5.Text.toList))))))))) then
   some (.ret false)
  else
   some (.next (ab (i2+1)))
 else
  some (.brk ())
def iF.h0 (il:(List Ab)) (ca:(List Ab)):Int->St:=fun i2=>⟨[(0,.sl 8 (List.map Ab.c il)),(1,.sl 8 (List.map Ab.c ca)),(12,.int .i64 (il.length:Int)),(13,.int .i64 i2)],[],[],1,Tryz.f75.ntmps⟩
def iF.x0:Unit->St:=fun _=>⟨[],[],[],1,Tryz.f75.ntmps⟩
def iF (k:Nat) (il:(List Ab)) (ca:(List Ab)):Option (Bool):=
 bif (!decide ((il.length:Int)=(ca.length:Int))) then
  some false
 else
  (ai (iF.b0 k il ca) k 0).bind fun r7=>match r7 with
  |.next _=>none
  |.ret v_=>some v_
  |.brk _=>
   some true
theorem arD (k:Nat) (il:(List Ab)) (ca:(List Ab)) (r:Bool) (h0:iF k il ca=some r):Ay Tryz.prog 75 [.sl 8 (List.map Ab.c il),.sl 8 (List.map Ab.c ca)] (fun y=>y=.bool r):=by
 refine PB Tryz.f75 EV.c [.tmp 4] ?_
 simp only[iF]at h0
 try simp only[EV.c,go_sem]
 refine BS h0 ?_ ?_<;>intro c1 h0<;>have F:=c1<;>try simp only[F,go_sem]
 obtain rfl:=oi h0
 refine Ag rfl ?_
 try simp only[F,go_sem]
 obtain⟨r7,lf,h0⟩:=bs h0
 refine A5 lf (iF.h0 il ca) (iF.x0) ?_ ?_ ?_
 refine Al.go [0,1,12,13] [] rfl ?_
 try simp only[iF.h0,F,go_sem]
 rintro i2 bO Bd Ba h1 az ax bg
 refine rS ?_
 simp only[iF.b0]at h1
 try simp only[EV.s0,iF.h0,F,go_sem]
 refine AF F h1 ?_ ?_<;>intro F h1<;>try simp only[F,go_sem]
 refine AL AE aO 1000 ?_
 try simp only[F,go_sem]
 obtain⟨x4,bF,h1⟩:=bs h1
 have F:=an (aI bF) (an (aH Ab.c bF) F)
 try simp only[F,go_sem]
 obtain⟨x5,cn,h1⟩:=bs h1
 have F:=an (aI cn) (an (aH Ab.c cn) F)
 try simp only[F,go_sem]
 refine aG ?_
 try simp only[F,go_sem]
 refine A7 F h1 ?_ ?_<;>intro F h1<;>try simp only[F,go_sem]
 obtain rfl:=bg _ (oi h1).symm
 simp only at h0
 obtain rfl:=oi h0
 refine Ag rfl ?_
 try simp only[F,go_sem]
 refine Ax (az _ _ (oi h1).symm (Al.go [0,1,12,13] [] rfl ?_))
 try simp only[iF.h0,F,go_sem]
 refine Ax (ax _ _ (oi h1).symm (Al.go [] [] rfl ?_))
 try simp only[iF.x0,F,go_sem]
 rintro _ aA
 subst aA
 simp only at h0
 refine rS ?_
 try simp only[iF.x0,F,go_sem]
 obtain rfl:=oi h0
 refine Ag rfl ?_
 try simp only[F,go_sem]
def Hv.c:SC:=
 SQ [RG [wE 2 36 0 [0],wE 3 42 1 [1],wN 4 0 45 [4]],SQ [RG [wD 8 36 2,wU 9 71 8 36 4 [8],wQ 10 9 4 [9]],CN 10 (SQ [RG [wN 4 94 45],.ret]) .skip],RG [wD 11 36 2 [2],wU 12 40 11 36 99 [11],wU 13 42 12 99 99 [12],wG 5 13 99 [13]],RG [wV 15 5 99,wU 16 72 15 99 138 [15],wV 14 16 138 [16],wX 17 14 0 137,wX 18 14 1 4 [14],wA 6 137,wS 137 6 17 [17],wG 7 18 4 [18]],SQ [RG [wV 19 7 4 [7],wQ 20 19 4 [19],
 wV 21 20 4 [20],gd 21 false (wF 22 42 3 1),gd 21 false (wD 23 3 22 [22]),gd 21 false (wF 24 137 6 1),gd 21 false (wD 25 3 24 [24]),gd 21 false (wO 26 .neq 3 23 25 3 4 [23,25]),wT 27 21 26 4 [21,26],wV 28 27 4 [27],gd 28 false (wF 29 42 3 3),gd 28 false (wD 30 3 29 [29]),gd 28 false (wF 31 137 6 3),gd 28 false (wD 32 3 31 [31]),gd 28 false (wO 33 .neq 3 30 32 3 4 [30,32]),wT 34 28 33 4 [28,33],
 wV 35 34 4 [34],gd 35 false (wF 36 42 3 0),gd 35 false (wF 37 40 36 0 [36]),gd 35 false (wD 38 38 37 [37]),gd 35 false (wF 39 137 6 4),gd 35 false (wF 40 40 39 0 [39]),gd 35 false (wD 41 38 40 [40]),gd 35 false (wW 42 75 38 41 38 38 4 [38,41]),gd 35 false (wQ 43 42 4 [42]),wT 44 35 43 4 [35,43],wV 45 44 4 [44],gd 45 false (wF 46 42 3 2),gd 45 false (wD 47 3 46 [46]),
 gd 45 false (wC 48 69 #[.tmp 47,.const (.int .i64 1),.const (.int .i64 1000000)] #[3,3,3] 4 [47]),gd 45 false (wQ 49 48 4 [48]),wT 50 45 49 4 [45,49]],CN 50 (SQ [RG [wN 4 94 45],.ret]) .skip],SQ [.aS [wF 51 42 3 2,wD 52 3 51,wV 53 5 99,wC 54 73 #[.tmp 53,.const (.int .i64 0),.const (.int .i64 0)] #[99,3,3] 3,wV 55 5 99,wC 56 73 #[.tmp 55,.const (.int .i64 1),.const (.int .i64 0)] #[99,3,3] 3,
 oQ 57 (.call ⟨.builtin .max,#[.tmp 54,.tmp 56],#[3,3]⟩) 3,wO 58 .lss 3 52 57 3 4,wV 59 58 4,gd 59 false (wF 60 42 3 2),gd 59 false (wD 61 3 60),gd 59 false (wV 62 5 99),gd 59 false (wF 63 137 6 1),gd 59 false (wD 64 3 63),gd 59 false (wF 65 137 6 3),gd 59 false (wD 66 3 65),gd 59 false (wC 67 73 #[.tmp 62,.tmp 64,.tmp 66] #[99,3,3] 3),gd 59 false (wO 68 .leq 3 61 67 3 4),wT 69 59 68 4] [[],[0],[],
 [2],[],[4,2,3],[2,3,4,5],[0,1,2,3,4,5,6],[0,1,2,3,4,5,6,7],[0,1,2,3,4,5,6,7,8],[0,1,2,3,4,5,6,7,8,9],[0,1,2,3,4,5,6,7,8],[0,1,2,3,4,5,6,7,8],[0,1,2,3,4,5,6,7,8,12],[0,1,2,3,4,5,6,7,8],[0,1,2,3,4,5,6,7,8,14],[0,1,2,3,4,5,6,7,8,11,12,13,14,15],[0,1,2,3,4,5,6,7,8,9,10,11,12,13,14,15,16],[0,1,2,3,4,5,6,7,8,9,10,11,12,13,14,15,16,17]] [3,5,6,51,52,53,54,55,56,57,58,59,60,61,62,63,64,65,66,67,68],
 CN 69 (SQ [RG [wN 4 94 45],.ret]) .skip],RG [wN 4 0 45],.ret]
def rX (k:Nat) (d0:Ad) (l1:Ai):Option (Int):=
 (sf k d0).bind fun x1=>
 bif (!x1) then
  some 94
 else
  (nc k d0).bind fun x4=>
  (fU k x4).bind fun x6=>
  (vU k (⟨(⟨x6.Ad.Aj,[]⟩:Ad)⟩:aF)).bind fun x7=>
  bif x7.2 then
   bif decide (l1.AS=x7.1.aX) then
    bif decide (l1.Used=x7.1.used) then
     (iF k l1.Ak.Ah x7.1.book.Ah).bind fun bN=>
     bif bN then
      (ja k l1.Aq 1 1000000).bind fun bx=>
      bif (!bx) then
       some 94
      else
       (ew k (⟨(⟨x6.Ad.Aj,[]⟩:Ad)⟩:aF) 0 0).bind fun cd=>
       (ew k (⟨(⟨x6.Ad.Aj,[]⟩:Ad)⟩:aF) 1 0).bind fun dp=>
       bif (!decide (l1.Aq<max cd dp)) then
        (ew k (⟨(⟨x6.Ad.Aj,[]⟩:Ad)⟩:aF) x7.1.aX x7.1.used).bind fun mi=>
        bif decide (l1.Aq<=mi) then
         some 94
        else
         some 0
       else
        some 94
     else
      some 94
    else
     some 94
   else
    some 94
  else
   some 94
theorem agk (k:Nat) (d0:Ad) (l1:Ai) (r:Int) (h0:rX k d0 l1=some r):Ay Tryz.prog 37 [.agg (Ad.c d0),.agg (Ai.c l1)] (fun y=>y=.int .i64 r):=by
 refine PB Tryz.f37 Hv.c [.tmp 4] ?_
 simp only[rX]at h0
 try simp only[Hv.c,go_sem]
 refine aj h0 (abA k _) ?_ (fun x1 h0=>?_)<;>try simp only[go_sem]
 refine BS h0 ?_ ?_<;>intro c2 h0<;>have F:=c2<;>try simp only[F,go_sem]
 obtain rfl:=oi h0
 refine Ag rfl ?_
 try simp only[F,go_sem]
 obtain⟨x4,bF,h0⟩:=bs h0
 refine CJ AE 1000 [] [] (ud k _ _ bF) ?_ rfl ?_
 try simp only[fB,F,go_sem]
 try simp only[F,go_sem]
 obtain⟨x6,dB,h0⟩:=bs h0
 refine Et [3,10] [112,113,114,16] 4 rfl ?_
 try simp only[F,go_sem]
 refine Es (aby k _ _ dB) ?_ ?_
 try simp only[F,go_sem]
 try simp only[List.take_succ_cons,List.drop_succ_cons,AA,AB,F,go_sem]
 refine AK.rI (Al.fz 1 rfl (fun _ h=>by cases h)) ?_
 try simp only[F,go_sem]
 refine AK.ai0 0 1 65 rfl rfl ?_
 try simp only[F,go_sem]
 refine AK.rI (Al.fz 0 rfl (fun _ h=>by cases h;rfl)) ?_
 try simp only[F,go_sem]
 refine rS ?_
 try simp only[F,go_sem]
 refine aj h0 (agq k _) ?_ (fun x7 h0=>?_)<;>try simp only[F,go_sem]
 refine AF F h0 ?_ ?_<;>intro F h0<;>try simp only[F,go_sem]
 refine AF F h0 ?_ ?_<;>intro F h0<;>try simp only[F,go_sem]
 refine AF F h0 ?_ ?_<;>intro F h0<;>try simp only[F,go_sem]
 refine aj h0 (arD k _ _) ?_ (fun bN h0=>?_)<;>try simp only[F,go_sem]
 refine AF F h0 ?_ ?_<;>intro F h0<;>try simp only[F,go_sem]
 refine aj h0 (nd k _ _ _) ?_ (fun bx h0=>?_)<;>try simp only[F,go_sem]
 refine A7 F h0 ?_ ?_<;>intro F h0<;>try simp only[F,go_sem]
 obtain rfl:=oi h0
 refine Ag rfl ?_
 try simp only[F,go_sem]
 refine AL AE aO 1000 ?_
 try simp only[F,go_sem]
 refine bJ h0 (yz k _ _ _) ?_ (fun cd h0=>?_)<;>try simp only[F,go_sem]
 refine bJ h0 (yz k _ _ _) ?_ (fun dp h0=>?_)<;>try simp only[F,go_sem]
 refine Fu F h0 ?_ ?_<;>intro F h0<;>try simp only[F,go_sem]
 refine bJ h0 (yz k _ _ _) ?_ (fun mi h0=>?_)<;>try simp only[F,go_sem]
 refine aG ?_
 try simp only[F,go_sem]
 refine AF F h0 ?_ ?_<;>intro F h0<;>try simp only[F,go_sem]
 obtain rfl:=oi h0
 refine Ag rfl ?_
 try simp only[F,go_sem]
 obtain rfl:=oi h0
 refine Ag rfl ?_
 try simp only[F,go_sem]
 refine aG ?_
 try simp only[F,go_sem]
 obtain rfl:=oi h0
 refine Ag rfl ?_
 try simp only[F,go_sem]
 obtain rfl:=oi h0
 refine Ag rfl ?_
 try simp only[F,go_sem]
 obtain rfl:=oi h0
 refine Ag rfl ?_
 try simp only[F,go_sem]
 obtain rfl:=oi h0
 refine Ag rfl ?_
 try simp only[F,go_sem]
 obtain rfl:=oi h0
 refine Ag rfl ?_
 try simp only[F,go_sem]
def Hw.c:SC:=
 SQ [RG [wE 1 42 0 [0],wA 2 42],RG [wF 3 42 1 0,wD 4 40 3 [3],wU 5 76 4 40 40 [4],wF 6 42 1 0,wS 40 6 5 [5,6]],RG [wD 7 42 1 [1],wS 42 2 7 [7]],.ret]
def nb (k:Nat) (l0:Ai):Option (Ai):=
 (vS k l0.Ak).bind fun x1=>
 some (⟨x1,l0.AS,l0.Aq,l0.Used⟩:Ai)
theorem adn (k:Nat) (l0:Ai) (r:Ai) (h0:nb k l0=some r):Ay Tryz.prog 38 [.agg (Ai.c l0)] (fun y=>y=.agg (Ai.c r)):=by
 refine PB Tryz.f38 Hw.c [.cell 2 42] ?_
 simp only[nb]at h0
 try simp only[Hw.c,go_sem]
 refine aj h0 (agp k _) ?_ (fun x1 h0=>?_)<;>try simp only[go_sem]
 obtain rfl:=oi h0
 refine Ag rfl ?_
 try simp only[go_sem]
def Da.s1:SC:=
 .block 3 (SQ [RG [wV 37 2 3,wV 38 9 3,wO 39 .add 3 37 38 3 3 [37,38],wK 40 .rem 3 39 2 3 3 [39],wV 41 3 97,wV 42 9 3,wI 43 97 41 42 [41,42],wD 44 105 43 [43],wI 45 113 11 40 [40],wS 92 45 44 [44,45]],RG [wV 46 9 3 [9],wK 47 .add 3 46 1 3 3 [46],wG 9 47 3 [47]],RG [wV 48 9 3,wV 49 3 97,wL 50 49 97 3 [49],wO 51 .eql 3 48 50 3 4 [48,50],wV 52 51 4 [51],gd 52 false (wV 53 2 3),gd 52 false (wV 54 9 3),
 gd 52 false (wO 55 .add 3 53 54 3 3 [53,54]),gd 52 false (wK 56 .rem 3 55 2 3 3 [55]),gd 52 false (wK 57 .eql 3 56 0 3 4 [56]),wT 58 52 57 4 [52,57]],CN 58 (.exit 2) .skip])
def Da.s0:SC:=
 SQ [SQ [RG [wV 18 9 3,wV 19 3 97,wL 20 19 97 3 [19],wO 21 .lss 3 18 20 3 4 [18,20]],CN 21 .skip (.exit 0)],.block 1 (SQ [RG [wV 22 1 3,wK 23 .mul 3 22 301 3 3 [22],wV 24 2 3,wV 25 9 3,wO 26 .add 3 24 25 3 3 [24,25],wK 27 .quo 3 26 2 3 3 [26],wO 28 .add 3 23 27 3 3 [23,27],wG 10 28 3 [28]],RG [wV 29 8 99,oQ 30 (.nilCheck (.tmp 29)) 0 [29],wF 31 102 30 0 [30],wF 32 36 31 0 [31],wD 33 33 32 [32],
 wV 34 10 3,wI 35 33 33 34 [33,34],wD 36 113 35 [35],wA 11 113,wS 113 11 36 [36]],.block 2 (.loop Da.s1),.aS [wV 59 0 99,wV 60 0 99,oQ 61 (.nilCheck (.tmp 60)) 0,wF 62 102 61 0,wF 63 36 62 1,wD 64 34 63,wV 65 10 3,wD 66 113 11,oQ 67 (.build 116 #[(0,.tmp 65),(1,.tmp 66)]) 116,oQ 68 (.buildSlice 34 1 #[(0,.tmp 67)]) 34,wP 69 64 68 34 34 34,oQ 70 (.nilCheck (.tmp 59)) 0,wF 71 102 70 0,
 wF 72 36 71 1,wS 34 72 69] [[],[],[1],[1,2],[1,2,3],[1,2,3,4],[],[],[6,7],[6,7,8],[1,2,3,4,5,6,7,8,9],[0,1,2,3,4,5,6,7,8,9,10],[0,1,2,3,4,5,6,7,8,9,10,11],[0,1,2,3,4,5,6,7,8,9,10,11,12],[0,1,2,3,4,5,6,7,8,9,10,11,12,13]] [10,11,59,60,61,62,63,64,65,66,67,68,69,70,71,72]])]
def Da.c:SC:=
 SQ [RG [wV 12 0 99,oQ 13 (.nilCheck (.tmp 12)) 0 [12],wF 14 102 13 0 [13],wD 15 36 14 [14],wU 16 40 15 36 99 [15],wU 17 42 16 99 99 [16],wG 8 17 99 [17]],RG [wN 9 0 3],.block 0 (.loop Da.s0)]
theorem Da.rs:Tryz.f43.results.toList=[]:=rfl
def bX.b1 (k:Nat) (bc:Int) (l3:(List (Aa 32 Int))):((Aa 2 (Aa 32 Int))×Int)->Option (AN ((Aa 2 (Aa 32 Int))×Int) ((Aa 2 (Aa 32 Int))×Int) (aF)):=fun s=>match s with
 |(il,i11)=>
   (at? l3 i11).bind fun bR=>
   (il.at? (Int.tmod (ab (bc+i11)) 2)).bind fun cd=>
   bif (!decide (ab (i11+1)=(l3.length:Int))) then
    bif decide (Int.tmod (ab (bc+(ab (i11+1)))) 2=(0:Int)) then
     some (.brk (il.set (Int.tmod (ab (bc+i11)) 2) bR,ab (i11+1)))
    else
     some (.next (il.set (Int.tmod (ab (bc+i11)) 2) bR,ab (i11+1)))
   else
    some (.brk (il.set (Int.tmod (ab (bc+i11)) 2) bR,ab (i11+1)))
def bX.b0 (k:Nat) (aY:Int) (bc:Int) (l3:(List (Aa 32 Int))) (x4:aF):(Int×(List As))->Option (AN (Int×(List As)) ((List As)) (aF)):=fun s=>match s with
 |(i5,l6)=>
   bif decide (i5<(l3.length:Int)) then
    (at? x4.Ad.Aj (ab ((ab (aY*301))+(ab (Int.tdiv (ab (bc+i5)) 2))))).bind fun x9=>
    (ai (bX.b1 k bc l3) k (x9,i5)).bind fun oH=>match oH with
    |.next _=>none
    |.ret v_=>some (.ret v_)
    |.brk (ry,i13)=>
     (eO 72 l6 (⟨ab ((ab (aY*301))+(ab (Int.tdiv (ab (bc+i5)) 2))),ry⟩:As)).bind fun th=>
     some (.next (i13,th))
   else
    some (.brk l6)
def bX.h1 (f1:AH) (H:Heap) (d0:aF) (aY:Int) (bc:Int) (l3:(List (Aa 32 Int))) (x4:aF) (i5:Int) (l6:(List As)):((Aa 2 (Aa 32 Int))×Int)->St:=fun s=>match s with
 |(il,i11)=>⟨[(0,.ptr 1 0 0),(1,.int .i64 aY),(2,.int .i64 bc),(3,.sl 32 (List.map (Aa.c (n:=32) ae) l3)),(8,.ptr 0 0 0),(9,.int .i64 i11),(10,.int .i64 (ab ((ab (aY*301))+(ab (Int.tdiv (ab (bc+i5)) 2))))),(11,.ptr 0 2 0)],[(0,.box ([.loc 0 1 64 0 x4.Ad.Aj.length x4.Ad.Aj.length,.nil])),(1,.arr 113 64 (List.map (Aa.c (n:=2) (Aa.c (n:=32) ae)) x4.Ad.Aj)),(2,.box (Aa.c (n:=2) (Aa.c (n:=32) ae) il))],((0,.box ([.loc 0 1 64 0 d0.Ad.Aj.length d0.Ad.Aj.length,.loc 0 2 65 0 l6.length l6.length]))::(1,.arr 113 64 (List.map (Aa.c (n:=2) (Aa.c (n:=32) ae)) d0.Ad.Aj))::(2,.arr 116 65 (List.map As.c l6))::f1)::H,3,Tryz.f43.ntmps⟩
def bX.x1 (f1:AH) (H:Heap) (d0:aF) (aY:Int) (bc:Int) (l3:(List (Aa 32 Int))) (x4:aF) (i5:Int) (l6:(List As)):((Aa 2 (Aa 32 Int))×Int)->St:=fun s=>match s with
 |(ry,i13)=>⟨[(0,.ptr 1 0 0),(1,.int .i64 aY),(2,.int .i64 bc),(3,.sl 32 (List.map (Aa.c (n:=32) ae) l3)),(8,.ptr 0 0 0),(9,.int .i64 i13),(10,.int .i64 (ab ((ab (aY*301))+(ab (Int.tdiv (ab (bc+i5)) 2))))),(11,.ptr 0 2 0)],[(0,.box ([.loc 0 1 64 0 x4.Ad.Aj.length x4.Ad.Aj.length,.nil])),(1,.arr 113 64 (List.map (Aa.c (n:=2) (Aa.c (n:=32) ae)) x4.Ad.Aj)),(2,.box (Aa.c (n:=2) (Aa.c (n:=32) ae) ry))],((0,.box ([.loc 0 1 64 0 d0.Ad.Aj.length d0.Ad.Aj.length,.loc 0 2 65 0 l6.length l6.length]))::(1,.arr 113 64 (List.map (Aa.c (n:=2) (Aa.c (n:=32) ae)) d0.Ad.Aj))::(2,.arr 116 65 (List.map As.c l6))::f1)::H,3,Tryz.f43.ntmps⟩
def bX.h0 (f1:AH) (H:Heap) (d0:aF) (aY:Int) (bc:Int) (l3:(List (Aa 32 Int))) (x4:aF):(Int×(List As))->St:=fun s=>match s with
 |(i5,l6)=>⟨[(0,.ptr 1 0 0),(1,.int .i64 aY),(2,.int .i64 bc),(3,.sl 32 (List.map (Aa.c (n:=32) ae) l3)),(8,.ptr 0 0 0),(9,.int .i64 i5)],[(0,.box ([.loc 0 1 64 0 x4.Ad.Aj.length x4.Ad.Aj.length,.nil])),(1,.arr 113 64 (List.map (Aa.c (n:=2) (Aa.c (n:=32) ae)) x4.Ad.Aj))],((0,.box ([.loc 0 1 64 0 d0.Ad.Aj.length d0.Ad.Aj.length,.loc 0 2 65 0 l6.length l6.length]))::(1,.arr 113 64 (List.map (Aa.c (n:=2) (Aa.c (n:=32) ae)) d0.Ad.Aj))::(2,.arr 116 65 (List.map As.c l6))::f1)::H,2,Tryz.f43.ntmps⟩
def bX.x0 (f1:AH) (H:Heap) (d0:aF):(List As)->St:=fun l7=>⟨[],[],((0,.box ([.loc 0 1 64 0 d0.Ad.Aj.length d0.Ad.Aj.length,.loc 0 2 65 0 l7.length l7.length]))::(1,.arr 113 64 (List.map (Aa.c (n:=2) (Aa.c (n:=32) ae)) d0.Ad.Aj))::(2,.arr 116 65 (List.map As.c l7))::f1)::H,1,Tryz.f43.ntmps⟩
def bX (k:Nat) (d0:aF) (aY:Int) (bc:Int) (l3:(List (Aa 32 Int))):Option (aF):=
 (nc k d0.Ad).bind fun x2=>
 (fU k x2).bind fun x4=>
 (ai (bX.b0 k aY bc l3 x4) k (0,d0.Ad.Af)).bind fun oI=>match oI with
 |.next _=>none
 |.ret v_=>some v_
 |.brk l7=>
  some (⟨(⟨d0.Ad.Aj,l7⟩:Ad)⟩:aF)
theorem amF (k:Nat) (d0:aF) (aY:Int) (bc:Int) (l3:(List (Aa 32 Int))) (r:aF) (h0:bX k d0 aY bc l3=some r):DS Tryz.prog 43 [.ptr 1 0 0,.int .i64 aY,.int .i64 bc,.sl 32 (List.map (Aa.c (n:=32) ae) l3)] [(0,.box ([.loc 0 1 64 0 d0.Ad.Aj.length d0.Ad.Aj.length,.loc 0 2 65 0 d0.Ad.Af.length d0.Ad.Af.length])),(1,.arr 113 64 (List.map (Aa.c (n:=2) (Aa.c (n:=32) ae)) d0.Ad.Aj)),(2,.arr 116 65 (List.map As.c d0.Ad.Af))] (fun y fr X'=>y=.aw []/\fr=[]/\X'=[(0,.box ([.loc 0 1 64 0 r.Ad.Aj.length r.Ad.Aj.length,.loc 0 2 65 0 r.Ad.Af.length r.Ad.Af.length])),(1,.arr 113 64 (List.map (Aa.c (n:=2) (Aa.c (n:=32) ae)) r.Ad.Aj)),(2,.arr 116 65 (List.map As.c r.Ad.Af))]):=by
 refine DS.gD AE (fn:=Tryz.f43) (sc:=Da.c) (by rfl) (by rfl) (by decide +kernel) (by rfl) (by decide +kernel) (Nat.le_of_ble_eq_true rfl) (fun f1 H=>?_)
 refine rS ?_
 simp only[Bz,Ce]
 simp only[bX]at h0
 try simp only[Da.c,go_sem]
 obtain⟨x2,dJ,h0⟩:=bs h0
 refine Iy AE 1000 (ud k _ _ dJ) ?_ rfl ⟨(by simp[AJ.lo,AV.lo]),Lf.map (Lf.vec (Lf.vec aiJ)) _,Lf.map apL _,trivial⟩ ?_
 try simp only[cZ,go_sem]
 try simp only[go_sem]
 obtain⟨x4,bF,h0⟩:=bs h0
 refine Et [0,1,2,3] [64,65,66] 3 rfl ?_
 try simp only[go_sem]
 refine Es (aby k _ _ bF) ?_ ?_
 try simp only[go_sem]
 try simp only[List.take_succ_cons,List.drop_succ_cons,AA,AB,go_sem]
 refine rS ?_
 try simp only[go_sem]
 obtain⟨oI,vI,h0⟩:=bs h0
 refine A5 vI (bX.h0 f1 H d0 aY bc l3 x4) (bX.x0 f1 H d0) ?_ ?_ ?_
 refine Al.go [0,1,2,3,8,9] [0,1] rfl ?_
 try simp only[bX.h0,go_sem]
 repeat' (first|exact NL.refl _|exact NL.nil _|exact AZ.refl _|exact AZ.nil|exact Bm.refl _|exact Bm.nil|exact BU.nil|exact BP.nil|refine BU.cons _ _ _ _ _ ?_ ?_|refine BP.cons _ _ _ _ _ ?_ ?_|refine B2.box _ _ ?_|refine B2.arr _ _ _ _ ?_|refine AZ.cons ?_ ?_|refine AZ.append ?_ ?_|refine NL.lp ?_|refine NL.rD ?_|refine NL.tE ?_|refine Bm.append ?_ ?_|refine Bm.cons ?_ ?_|refine And.intro ?_ ?_|rfl)
 rintro⟨i5,l6⟩ bO Bd Ba h1 az ax bg
 refine rS ?_
 simp only[bX.b0]at h1
 try simp only[Da.s0,bX.h0,go_sem]
 refine AP h1 ?_ ?_<;>intro c8 h1<;>have F:=c8<;>try simp only[F,go_sem]
 obtain⟨x9,gM,h1⟩:=bs h1
 have F:=an (aI gM) (an (aH (Aa.c (n:=2) (Aa.c (n:=32) ae)) gM) F)
 try simp only[F,go_sem]
 obtain⟨oH,vH,h1⟩:=bs h1
 refine A5 vH (bX.h1 f1 H d0 aY bc l3 x4 i5 l6) (bX.x1 f1 H d0 aY bc l3 x4 i5 l6) ?_ ?_ ?_
 refine Al.go [0,1,2,3,8,9,10,11] [0,1,322] rfl ?_
 try simp only[bX.h1,F,go_sem]
 repeat' (first|exact NL.refl _|exact NL.nil _|exact AZ.refl _|exact AZ.nil|exact Bm.refl _|exact Bm.nil|exact BU.nil|exact BP.nil|refine BU.cons _ _ _ _ _ ?_ ?_|refine BP.cons _ _ _ _ _ ?_ ?_|refine B2.box _ _ ?_|refine B2.arr _ _ _ _ ?_|refine AZ.cons ?_ ?_|refine AZ.append ?_ ?_|refine NL.lp ?_|refine NL.rD ?_|refine NL.tE ?_|refine Bm.append ?_ ?_|refine Bm.cons ?_ ?_|refine And.intro ?_ ?_|rfl)
 rintro⟨il,i11⟩ x_2 Fq Ft h2 oe pq zS
 refine rS ?_
 simp only[bX.b1]at h2
 try simp only[Da.s1,bX.h1,F,go_sem]
 obtain⟨bR,ml,h2⟩:=bs h2
 have F:=an (aI ml) (an (aH (Aa.c (n:=32) ae) ml) F)
 try simp only[F,go_sem]
 obtain⟨cd,kp,h2⟩:=bs h2
 have pZ:=Ao.bh gN (Ao.self gP il) kp
 have tQ:=pZ.2
 try simp only[AA,AB,go_sem]at tQ
 have q16:=pZ.1.ow bR
 try simp only[AA,AB,go_sem]at q16
 have F:=an (aq kp) (an tQ F)
 try simp only[q16,F,go_sem]
 refine A7 F h2 ?_ ?_<;>intro F h2<;>try simp only[F,go_sem]
 refine AF F h2 ?_ ?_<;>intro F h2<;>try simp only[F,go_sem]
 refine Ax (pq _ _ (oi h2).symm (Al.go [0,1,2,3,8,9,10,11] [0,1,2] rfl ?_))
 try simp only[bX.x1,F,go_sem]
 repeat' (first|exact NL.refl _|exact NL.nil _|exact AZ.refl _|exact AZ.nil|exact Bm.refl _|exact Bm.nil|exact BU.nil|exact BP.nil|refine BU.cons _ _ _ _ _ ?_ ?_|refine BP.cons _ _ _ _ _ ?_ ?_|refine B2.box _ _ ?_|refine B2.arr _ _ _ _ ?_|refine AZ.cons ?_ ?_|refine AZ.append ?_ ?_|refine NL.lp ?_|refine NL.rD ?_|refine NL.tE ?_|refine Bm.append ?_ ?_|refine Bm.cons ?_ ?_|refine And.intro ?_ ?_|rfl)
 refine Ax (oe _ _ (oi h2).symm (Al.go [0,1,2,3,8,9,10,11] [0,1,2] rfl ?_))
 try simp only[bX.h1,F,go_sem]
 repeat' (first|exact NL.refl _|exact NL.nil _|exact AZ.refl _|exact AZ.nil|exact Bm.refl _|exact Bm.nil|exact BU.nil|exact BP.nil|refine BU.cons _ _ _ _ _ ?_ ?_|refine BP.cons _ _ _ _ _ ?_ ?_|refine B2.box _ _ ?_|refine B2.arr _ _ _ _ ?_|refine AZ.cons ?_ ?_|refine AZ.append ?_ ?_|refine NL.lp ?_|refine NL.rD ?_|refine NL.tE ?_|refine Bm.append ?_ ?_|refine Bm.cons ?_ ?_|refine And.intro ?_ ?_|rfl)
 refine Ax (pq _ _ (oi h2).symm (Al.go [0,1,2,3,8,9,10,11] [0,1,2] rfl ?_))
 try simp only[bX.x1,F,go_sem]
 repeat' (first|exact NL.refl _|exact NL.nil _|exact AZ.refl _|exact AZ.nil|exact Bm.refl _|exact Bm.nil|exact BU.nil|exact BP.nil|refine BU.cons _ _ _ _ _ ?_ ?_|refine BP.cons _ _ _ _ _ ?_ ?_|refine B2.box _ _ ?_|refine B2.arr _ _ _ _ ?_|refine AZ.cons ?_ ?_|refine AZ.append ?_ ?_|refine NL.lp ?_|refine NL.rD ?_|refine NL.tE ?_|refine Bm.append ?_ ?_|refine Bm.cons ?_ ?_|refine And.intro ?_ ?_|rfl)
 rintro⟨ry,i13⟩ aA
 subst aA
 simp only at h1
 refine rS ?_
 try simp only[bX.x1,F,go_sem]
 refine AL AE aO 1000 ?_
 try simp only[F,go_sem]
 obtain⟨th,aa5,h1⟩:=bs h1
 have tU:=pu As.c aa5
 try simp only[F,go_sem]at tU
 have F:=an tU F
 try simp only[F,go_sem]
 refine aG ?_
 try simp only[F,go_sem]
 refine Ax (az _ _ (oi h1).symm (Al.go [0,1,2,3,8,9] [0,1] rfl ?_))
 try simp only[bX.h0,F,go_sem]
 repeat' (first|exact NL.refl _|exact NL.nil _|exact AZ.refl _|exact AZ.nil|exact Bm.refl _|exact Bm.nil|exact BU.nil|exact BP.nil|refine BU.cons _ _ _ _ _ ?_ ?_|refine BP.cons _ _ _ _ _ ?_ ?_|refine B2.box _ _ ?_|refine B2.arr _ _ _ _ ?_|refine AZ.cons ?_ ?_|refine AZ.append ?_ ?_|refine NL.lp ?_|refine NL.rD ?_|refine NL.tE ?_|refine Bm.append ?_ ?_|refine Bm.cons ?_ ?_|refine And.intro ?_ ?_|rfl)
 refine Ax (ax _ _ (oi h1).symm (Al.go [] [] rfl ?_))
 try simp only[bX.x0,F,go_sem]
 rintro l7 aA
 subst aA
 simp only at h0
 refine rS ?_
 try simp only[bX.x0,go_sem]
 obtain rfl:=oi h0
 refine GX (by simp) ?_ ?_
 try simp only[Da.rs,cm,Ae,go_sem]
 try simp only[Bz,Ce,go_sem]
def Ht.c:SC:=
 SQ [RG [wE 3 36 0 [0],wE 4 42 1 [1],wE 5 29 2 [2],wA 6 36,wA 7 42,wN 8 0 45 [8]],SQ [RG [wD 15 36 3,wD 16 42 4,wW 17 37 15 16 36 42 45 [15,16],wG 9 17 45 [17]],RG [wV 18 9 45,wK 19 .neq 45 18 0 45 4 [18]],CN 19 (SQ [RG [oQ 20 (.build 36 #[]) 36,oQ 21 (.build 42 #[]) 42,wV 22 9 45 [9],wS 36 6 20 [20],wS 42 7 21 [21],wG 8 22 45 [22]],.ret]) .skip],RG [wF 24 42 4 0,wD 25 40 24 [24],wD 26 29 5,
 wW 27 70 25 26 40 29 133 [25,26],wV 23 27 133 [27],wX 28 23 0 40,wX 29 23 1 45 [23],wA 10 40,wS 40 10 28 [28],wG 11 29 45 [29]],SQ [RG [wV 30 11 45,wK 31 .neq 45 30 0 45 4 [30]],CN 31 (SQ [RG [oQ 32 (.build 36 #[]) 36,oQ 33 (.build 42 #[]) 42,wV 34 11 45 [11],wS 36 6 32 [32],wS 42 7 33 [33],wG 8 34 45 [34]],.ret]) .skip],RG [wD 35 36 3 [3],wU 36 40 35 36 99 [35],wG 12 36 99 [36]],RG [wD 37 42 4,
 wU 38 38 37 42 42 [37],wA 13 42,wS 42 13 38 [38]],SQ [RG [wF 39 40 10 0,wD 40 38 39 [39],wL 41 40 38 3 [40],wF 42 42 4 0,wF 43 40 42 0 [42],wD 44 38 43 [43],wL 45 44 38 3 [44],wO 46 .eql 3 41 45 3 4 [41,45]],CN 46 (SQ [.aS [wV 47 12 99,oQ 48 (.nilCheck (.tmp 47)) 0,wF 49 102 48 0,wD 50 36 49,wD 51 42 13,wS 36 6 50,wS 42 7 51,wN 8 0 45] [[],[0],[0,1],[0,1,2],[],[0,1,2,3],[4,0,1,2,3,5],[4,0,1,2,3,
 5,6]] [12,13,47,48,49,50,51],.ret]) .skip],RG [wD 52 29 5 [5],wF 53 42 4 0,wF 54 40 53 0 [53],wD 55 38 54 [54],wL 56 55 38 3 [55],wF 57 42 4 2,wD 58 3 57 [57],wC 59 39 #[.tmp 52,.tmp 56,.tmp 58] #[29,3,3] 97 [52,56,58],wG 14 59 97 [59]],SQ [RG [wF 60 42 4 3,wD 61 3 60 [60],wV 62 14 97,wL 63 62 97 3 [62],wO 64 .add 3 61 63 3 3 [61,63],wK 65 .gtr 3 64 602 3 4 [64]],
 CN 65 (SQ [RG [oQ 66 (.build 36 #[]) 36,oQ 67 (.build 42 #[]) 42,wS 36 6 66 [66],wS 42 7 67 [67],wN 8 2 45],.ret]) .skip],RG [wV 68 12 99,wF 69 42 4 1,wD 70 3 69 [69],wF 71 42 4 3,wD 72 3 71 [71],wV 73 14 97,wC 74 43 #[.tmp 68,.tmp 70,.tmp 72,.tmp 73] #[99,3,3,97] 0 [68,70,72,73,74]],SQ [RG [wV 75 12 99,oQ 76 (.nilCheck (.tmp 75)) 0 [75],wF 77 102 76 0 [76],wF 78 36 77 1 [77],wD 79 34 78 [78],
 wL 80 79 34 3 [79],wK 81 .gtr 3 80 1200 3 4 [80]],CN 81 (SQ [RG [oQ 82 (.build 36 #[]) 36,oQ 83 (.build 42 #[]) 42,wS 36 6 82 [82],wS 42 7 83 [83],wN 8 2 45],.ret]) .skip],.aS [wD 84 40 10,wF 85 42 4 3,wD 86 3 85,wV 87 14 97,wL 88 87 97 3,wO 89 .add 3 86 88 3 3,wF 90 42 13 0,wS 40 90 84,wF 91 42 13 3,wS 3 91 89] [[],[],[1],[],[3],[1,2,3,4],[0],[0,6],[0,1,2,3,4,5,6,7],[0,1,2,3,4,5,6,7,8]] [4,10,
 14,84,85,86,87,88,89,90,91],.aS [wV 92 12 99,oQ 93 (.nilCheck (.tmp 92)) 0,wF 94 102 93 0,wD 95 36 94,wD 96 42 13,wS 36 6 95,wS 42 7 96,wN 8 0 45] [[],[0],[0,1],[0,1,2],[],[0,1,2,3],[4,0,1,2,3,5],[4,0,1,2,3,5,6]] [12,13,92,93,94,95,96],.ret]
def jR (k:Nat) (d0:Ad) (l1:Ai) (r2:Ab):Option (Ad×Ai×Int):=
 (rX k d0 l1).bind fun x1=>
 bif (!decide (x1=(0:Int))) then
  some ((⟨[],[]⟩:Ad),(⟨(⟨[]⟩:Ak),0,0,0⟩:Ai),x1)
 else
  (rZ k l1.Ak r2).bind fun x3=>
  bif (!decide (x3.2=(0:Int))) then
   some ((⟨[],[]⟩:Ad),(⟨(⟨[]⟩:Ak),0,0,0⟩:Ai),x3.2)
  else
   (nc k d0).bind fun x6=>
   (nb k l1).bind fun x7=>
   bif decide ((x3.1.Ah.length:Int)=(l1.Ak.Ah.length:Int)) then
    some (x6.Ad,x7,0)
   else
    (gu k r2 (l1.Ak.Ah.length:Int) l1.Aq).bind fun x9=>
    bif decide ((602:Int)<ab (l1.Used+(x9.length:Int))) then
     some ((⟨[],[]⟩:Ad),(⟨(⟨[]⟩:Ak),0,0,0⟩:Ai),2)
    else
     (bX k x6 l1.AS l1.Used x9).bind fun dA=>
     bif decide ((1200:Int)<((dA.Ad.Af.length:Nat):Int)) then
      some ((⟨[],[]⟩:Ad),(⟨(⟨[]⟩:Ak),0,0,0⟩:Ai),2)
     else
      some (dA.Ad,(⟨x3.1,x7.AS,x7.Aq,ab (l1.Used+(x9.length:Int))⟩:Ai),0)
theorem abr (k:Nat) (d0:Ad) (l1:Ai) (r2:Ab) (r:Ad×Ai×Int) (h0:jR k d0 l1 r2=some r):Ay Tryz.prog 32 [.agg (Ad.c d0),.agg (Ai.c l1),.agg (Ab.c r2)] (fun y=>y=.aw [.agg (Ad.c r.1),.agg (Ai.c r.2.1),.int .i64 r.2.2]):=by
 refine PB Tryz.f32 Ht.c [.cell 6 36,.cell 7 42,.tmp 8] ?_
 simp only[jR]at h0
 try simp only[Ht.c,go_sem]
 refine aj h0 (agk k _ _) ?_ (fun x1 h0=>?_)<;>try simp only[go_sem]
 refine BS h0 ?_ ?_<;>intro c2 h0<;>have F:=c2<;>try simp only[F,go_sem]
 obtain rfl:=oi h0
 refine Ag rfl ?_
 try simp only[F,go_sem]
 refine aj h0 (adm k _ _) ?_ (fun x3 h0=>?_)<;>try simp only[F,go_sem]
 refine A7 F h0 ?_ ?_<;>intro F h0<;>try simp only[F,go_sem]
 obtain rfl:=oi h0
 refine Ag rfl ?_
 try simp only[F,go_sem]
 obtain⟨x6,dB,h0⟩:=bs h0
 refine CJ AE 1000 [] [] (ud k _ _ dB) ?_ rfl ?_
 try simp only[fB,F,go_sem]
 try simp only[F,go_sem]
 refine aj h0 (adn k _) ?_ (fun x7 h0=>?_)<;>try simp only[F,go_sem]
 refine AF F h0 ?_ ?_<;>intro F h0<;>try simp only[F,go_sem]
 refine AL AE aO 1000 ?_
 try simp only[F,go_sem]
 refine aG ?_
 try simp only[F,go_sem]
 obtain rfl:=oi h0
 refine Ag rfl ?_
 try simp only[F,go_sem]
 refine aj h0 (ado k _ _ _) ?_ (fun x9 h0=>?_)<;>try simp only[F,go_sem]
 refine AF F h0 ?_ ?_<;>intro F h0<;>try simp only[F,go_sem]
 obtain rfl:=oi h0
 refine Ag rfl ?_
 try simp only[F,go_sem]
 obtain⟨dA,m9,h0⟩:=bs h0
 refine Et [4,6,7,9,10,11,12,13,14,19,31,46,65] [400,401,402,16,48,49,50,64,65,304,464] 11 rfl ?_
 try simp only[F,go_sem]
 refine Es (amF k _ _ _ _ _ m9) ?_ ?_
 try simp only[F,go_sem]
 try simp only[List.take_succ_cons,List.drop_succ_cons,AA,AB,F,go_sem]
 refine rS ?_
 try simp only[F,go_sem]
 refine AF F h0 ?_ ?_<;>intro F h0<;>try simp only[F,go_sem]
 obtain rfl:=oi h0
 refine Ag rfl ?_
 try simp only[F,go_sem]
 refine AL AE aO 1000 ?_
 try simp only[F,go_sem]
 refine aG ?_
 try simp only[F,go_sem]
 refine AL AE aO 1000 ?_
 try simp only[F,go_sem]
 refine aG ?_
 try simp only[F,go_sem]
 obtain rfl:=oi h0
 refine Ag rfl ?_
 try simp only[F,go_sem]
def Hs.c:SC:=
 SQ [RG [wE 1 29 0 [0],oQ 2 (.assign (.const (.slice none 0 0))) 82 [2],wN 3 0 45 [3]],SQ [RG [wD 5 29 1,wU 6 67 5 29 45 [5],wG 4 6 45 [6]],RG [wV 7 4 45,wK 8 .neq 45 7 0 45 4 [7]],CN 8 (SQ [RG [wV 9 4 45 [4],oQ 2 (.assign (.const (.slice none 0 0))) 82,wG 3 9 45 [9]],.ret]) .skip],RG [wD 10 29 1 [1],wU 11 68 10 29 82 [10],wG 2 11 82 [11],wN 3 0 45],.ret]
def adl (k:Nat) (r0:Ab):Option ((List Int)×Int):=
 (abt k r0).bind fun x1=>
 bif (!decide (x1=(0:Int))) then
  some ([],x1)
 else
  (cD k r0).bind fun x3=>
  some (x3,0)
theorem amt (k:Nat) (r0:Ab) (r:(List Int)×Int) (h0:adl k r0=some r):Ay Tryz.prog 30 [.agg (Ab.c r0)] (fun y=>y=.aw [.sl 1 (List.map ae r.1),.int .i64 r.2]):=by
 refine PB Tryz.f30 Hs.c [.tmp 2,.tmp 3] ?_
 simp only[adl]at h0
 try simp only[Hs.c,go_sem]
 refine aj h0 (agl k _) ?_ (fun x1 h0=>?_)<;>try simp only[go_sem]
 refine BS h0 ?_ ?_<;>intro c2 h0<;>have F:=c2<;>try simp only[F,go_sem]
 obtain rfl:=oi h0
 refine Ag rfl ?_
 try simp only[F,go_sem]
 refine aj h0 (ago k _) ?_ (fun x3 h0=>?_)<;>try simp only[F,go_sem]
 obtain rfl:=oi h0
 refine Ag rfl ?_
 try simp only[F,go_sem]
def Hu.c:SC:=
 SQ [RG [wE 1 36 0 [0],wA 2 36,wA 3 42,wN 4 0 45 [4]],SQ [RG [wD 9 36 1,wU 10 71 9 36 4 [9],wQ 11 10 4 [10]],CN 11 (SQ [RG [oQ 12 (.build 36 #[]) 36,oQ 13 (.build 42 #[]) 42,wS 36 2 12 [12],wS 42 3 13 [13],wN 4 94 45],.ret]) .skip],RG [wD 14 36 1 [1],wU 15 40 14 36 99 [14],wU 16 42 15 99 99 [15],wG 5 16 99 [16]],RG [wV 18 5 99,wU 19 72 18 99 138 [18],wV 17 19 138 [19],wX 20 17 0 137,
 wX 21 17 1 4 [17],wA 6 137,wS 137 6 20 [20],wG 7 21 4 [21]],SQ [RG [wV 22 7 4 [7],wQ 23 22 4 [22]],CN 23 (SQ [RG [oQ 24 (.build 36 #[]) 36,oQ 25 (.build 42 #[]) 42,wS 36 2 24 [24],wS 42 3 25 [25],wN 4 95 45],.ret]) .skip],RG [wV 26 5 99,wC 27 73 #[.tmp 26,.const (.int .i64 0),.const (.int .i64 0)] #[99,3,3] 3 [26],wV 28 5 99,wC 29 73 #[.tmp 28,.const (.int .i64 1),.const (.int .i64 0)] #[99,3,
 3] 3 [28],oQ 30 (.call ⟨.builtin .max,#[.tmp 27,.tmp 29],#[3,3]⟩) 3 [27,29],oQ 31 (.binOp .add 3 (.const (.int .i64 1)) (.tmp 30) 3) 3 [30],wG 8 31 3 [31]],SQ [RG [wV 32 8 3,wK 33 .gtr 3 32 1000000 3 4 [32]],CN 33 (SQ [RG [oQ 34 (.build 36 #[]) 36,oQ 35 (.build 42 #[]) 42,wS 36 2 34 [34],wS 42 3 35 [35],wN 4 2 45],.ret]) .skip],.aS [wV 36 5 99,oQ 37 (.nilCheck (.tmp 36)) 0,wF 38 102 37 0,
 wD 39 36 38,wF 40 137 6 4,wD 41 40 40,wF 42 137 6 1,wD 43 3 42,wV 44 8 3,wF 45 137 6 3,wD 46 3 45,oQ 47 (.build 42 #[(0,.tmp 41),(1,.tmp 43),(2,.tmp 44),(3,.tmp 46)]) 42,wS 36 2 39,wS 42 3 47,wN 4 0 45] [[],[0],[0,1],[0,1,2],[],[4],[],[6],[],[],[9],[4,5,6,7,8,9,10],[0,1,2,3],[4,5,6,7,8,9,10,11,0,1,2,3,12],[4,5,6,7,8,9,10,11,0,1,2,3,12,13]] [5,6,8,36,37,38,39,40,41,42,43,44,45,46,47],.ret]
def oV (k:Nat) (d0:Ad):Option (Ad×Ai×Int):=
 (sf k d0).bind fun x1=>
 bif (!x1) then
  some ((⟨[],[]⟩:Ad),(⟨(⟨[]⟩:Ak),0,0,0⟩:Ai),94)
 else
  (nc k d0).bind fun x4=>
  (fU k x4).bind fun x6=>
  (vU k (⟨(⟨x6.Ad.Aj,[]⟩:Ad)⟩:aF)).bind fun x7=>
  bif (!x7.2) then
   some ((⟨[],[]⟩:Ad),(⟨(⟨[]⟩:Ak),0,0,0⟩:Ai),95)
  else
   (ew k (⟨(⟨x6.Ad.Aj,[]⟩:Ad)⟩:aF) 0 0).bind fun x9=>
   (ew k (⟨(⟨x6.Ad.Aj,[]⟩:Ad)⟩:aF) 1 0).bind fun dz=>
   bif decide ((1000000:Int)<ab (1+(max x9 dz))) then
    some ((⟨[],[]⟩:Ad),(⟨(⟨[]⟩:Ak),0,0,0⟩:Ai),2)
   else
    some ((⟨((⟨(⟨x6.Ad.Aj,[]⟩:Ad)⟩:aF).Ad).Aj,((⟨(⟨x6.Ad.Aj,[]⟩:Ad)⟩:aF).Ad).Af⟩:Ad),(⟨x7.1.book,x7.1.aX,ab (1+(max x9 dz)),x7.1.used⟩:Ai),0)
theorem abv (k:Nat) (d0:Ad) (r:Ad×Ai×Int) (h0:oV k d0=some r):Ay Tryz.prog 33 [.agg (Ad.c d0)] (fun y=>y=.aw [.agg (Ad.c r.1),.agg (Ai.c r.2.1),.int .i64 r.2.2]):=by
 refine PB Tryz.f33 Hu.c [.cell 2 36,.cell 3 42,.tmp 4] ?_
 simp only[oV]at h0
 try simp only[Hu.c,go_sem]
 refine aj h0 (abA k _) ?_ (fun x1 h0=>?_)<;>try simp only[go_sem]
 refine BS h0 ?_ ?_<;>intro c2 h0<;>have F:=c2<;>try simp only[F,go_sem]
 obtain rfl:=oi h0
 refine Ag rfl ?_
 try simp only[F,go_sem]
 obtain⟨x4,bF,h0⟩:=bs h0
 refine CJ AE 1000 [] [] (ud k _ _ bF) ?_ rfl ?_
 try simp only[fB,F,go_sem]
 try simp only[F,go_sem]
 obtain⟨x6,dB,h0⟩:=bs h0
 refine Et [2,3,11] [128,129,130,16,17,18,32,33] 8 rfl ?_
 try simp only[F,go_sem]
 refine Es (aby k _ _ dB) ?_ ?_
 try simp only[F,go_sem]
 try simp only[List.take_succ_cons,List.drop_succ_cons,AA,AB,F,go_sem]
 refine AK.rI (Al.fz 1 rfl (fun _ h=>by cases h)) ?_
 try simp only[F,go_sem]
 refine AK.ai0 0 1 65 rfl rfl ?_
 try simp only[F,go_sem]
 refine AK.rI (Al.fz 0 rfl (fun _ h=>by cases h;rfl)) ?_
 try simp only[F,go_sem]
 refine rS ?_
 try simp only[F,go_sem]
 refine aj h0 (agq k _) ?_ (fun x7 h0=>?_)<;>try simp only[F,go_sem]
 refine A7 F h0 ?_ ?_<;>intro F h0<;>try simp only[F,go_sem]
 obtain rfl:=oi h0
 refine Ag rfl ?_
 try simp only[F,go_sem]
 refine aj h0 (yz k _ _ _) ?_ (fun x9 h0=>?_)<;>try simp only[F,go_sem]
 refine aj h0 (yz k _ _ _) ?_ (fun dz h0=>?_)<;>try simp only[F,go_sem]
 refine AF F h0 ?_ ?_<;>intro F h0<;>try simp only[F,go_sem]
 obtain rfl:=oi h0
 refine Ag rfl ?_
 try simp only[F,go_sem]
 refine AL AE aO 1000 ?_
 try simp only[F,go_sem]
 refine aG ?_
 try simp only[F,go_sem]
 obtain rfl:=oi h0
 refine Ag rfl ?_
 try simp only[F,go_sem]
def Dp.s1:SC:=
 SQ [RG [wK 42 .lss 3 41 2 3 0],CN 42 .skip (.exit 2),.block 3 (SQ [RG [wV 43 41 3,wG 9 43 3 [43]],RG [wV 44 8 3,wV 45 9 3,wO 46 .shr 3 44 45 3 3 [44,45],wK 47 .and 3 46 1 3 3 [46],wK 48 .eql 3 47 1 3 4 [47]],CN 48 (.aS [wV 49 5 99,oQ 50 (.nilCheck (.tmp 49)) 0,wF 51 102 50 0,wF 52 36 51 0,wD 53 33 52,wF 54 116 7 0,wD 55 3 54,wV 56 9 3,wV 57 9 3,wF 58 116 7 1,wI 59 113 58 57,wD 60 92 59,
 wI 61 33 53 55,wI 62 113 61 56,wS 92 62 60] [[],[0],[0,1],[0,1,2],[0,1,2,3],[],[5],[],[],[],[9,8],[9,8,10],[0,1,2,3,4,5,6],[0,1,2,3,4,5,6,12,7,8,9,10,11],[0,1,2,3,4,5,6,12,7,8,9,10,11,13]] [9,49,50,51,52,53,54,55,56,57,58,59,60,61,62]) .skip]),RG [wK 63 .add 3 41 1 3 3 [41],wV 41 63 3 [63]]]
def Dp.s0:SC:=
 SQ [RG [wO 26 .lss 3 25 24 3 0],CN 26 .skip (.exit 0),.block 1 (SQ [RG [wV 27 25 3,wI 28 34 23 25,wD 29 116 28 [28],wA 7 116,wG 6 27 3 [27],wS 116 7 29 [29]],RG [wN 8 0 3],SQ [RG [wV 30 1 58,wL 31 30 58 3 [30],wK 32 .gtr 3 31 0 3 4 [31]],CN 32 (RG [wV 33 1 58,wV 34 6 3 [6],wV 35 1 58,wL 36 35 58 3 [35],wO 37 .rem 3 34 36 3 3 [34,36],wI 38 58 33 37 [33,37],wD 39 3 38 [38],
 wK 40 .and 3 39 3 3 3 [39],wG 8 40 3 [40]]) .skip],RG [oQ 41 (.move (.const (.int .i64 0))) 3],.block 2 (.loop Dp.s1)]),RG [wK 64 .add 3 25 1 3 3 [25],wV 25 64 3 [64]]]
def Dp.c:SC:=
 SQ [RG [wE 2 36 0 [0],wA 4 36],RG [wD 10 36 2,wU 11 40 10 36 99 [10],wG 5 11 99 [11]],SQ [RG [wD 12 36 2 [2],wU 13 71 12 36 4 [12],wQ 14 13 4 [13]],CN 14 (SQ [RG [wV 15 5 99 [5],oQ 16 (.nilCheck (.tmp 15)) 0 [15],wF 17 102 16 0 [16],wD 18 36 17 [17],wS 36 4 18 [18]],.ret]) .skip],SQ [RG [wV 19 5 99,oQ 20 (.nilCheck (.tmp 19)) 0 [19],wF 21 102 20 0 [20],wF 22 36 21 1 [21],wD 23 34 22 [22],
 wL 24 23 34 3,oQ 25 (.move (.const (.int .i64 0))) 3],.block 0 (.loop Dp.s0)],RG [wV 65 5 99,oQ 66 (.nilCheck (.tmp 65)) 0 [65],wF 67 102 66 0 [66],wF 68 36 67 1 [67],⟨none,.store 34 (.tmp 68) (.const (.slice none 0 0)),0,none,[68]⟩],RG [wV 69 5 99 [5],oQ 70 (.nilCheck (.tmp 69)) 0 [69],wF 71 102 70 0 [70],wD 72 36 71 [71],wS 36 4 72 [72]],.ret]
def bd.b1 (k:Nat) (x9:As) (dA:Int):(Int×(List (Aa 2 (Aa 32 Int))))->Option (AN (Int×(List (Aa 2 (Aa 32 Int)))) ((List (Aa 2 (Aa 32 Int)))) (Ad)):=fun s=>match s with
 |(i13,cA)=>
   bif decide (i13<(2:Int)) then
    (lX i13).bind fun _=>
    bif decide (dV .i64 (Int.fdiv (dV .i64 dA 3) (2 ^ (min (Int.toNat i13) 64))) 1=(1:Int)) then
     (x9.AQ.at? i13).bind fun jw=>
     (at? cA x9.At).bind fun cT=>
     (cT.at? i13).bind fun gJ=>
     (dN cA x9.At (cT.set i13 jw)).bind fun tj=>
     some (.next (ab (i13+1),tj))
    else
     some (.next (ab (i13+1),cA))
   else
    some (.brk cA)
def bd.qi (k:Nat) (x9:As):(Int×(List (Aa 2 (Aa 32 Int))))->Option (AN (Int×(List (Aa 2 (Aa 32 Int)))) ((List (Aa 2 (Aa 32 Int)))) (Ad)):=fun s=>match s with
 |(i25,j5)=>
   bif decide (i25<(2:Int)) then
    (lX i25).bind fun _=>
    bif decide (dV .i64 (Int.fdiv 0 (2 ^ (min (Int.toNat i25) 64))) 1=(1:Int)) then
     (x9.AQ.at? i25).bind fun m7=>
     (at? j5 x9.At).bind fun fv=>
     (fv.at? i25).bind fun yd=>
     (dN j5 x9.At (fv.set i25 m7)).bind fun u3=>
     some (.next (ab (i25+1),u3))
    else
     some (.next (ab (i25+1),j5))
   else
    some (.brk j5)
def bd.b0 (k:Nat) (cr:(List Int)) (x2:aF):(Int×(List (Aa 2 (Aa 32 Int))))->Option (AN (Int×(List (Aa 2 (Aa 32 Int)))) ((List (Aa 2 (Aa 32 Int)))) (Ad)):=fun s=>match s with
 |(i5,l6)=>
   bif decide (i5<((x2.Ad.Af.length:Nat):Int)) then
    (at? x2.Ad.Af i5).bind fun x9=>
    bif decide ((0:Int)<(cr.length:Int)) then
     (pO (cr.length:Int)).bind fun _=>
     (at? cr (Int.tmod i5 (cr.length:Int))).bind fun dA=>
     (ai (bd.b1 k x9 dA) k (0,l6)).bind fun r24=>match r24 with
     |.next _=>none
     |.ret v_=>some (.ret v_)
     |.brk re=>
      some (.next (ab (i5+1),re))
    else
     (ai (bd.qi k x9) k (0,l6)).bind fun r36=>match r36 with
     |.next _=>none
     |.ret v_=>some (.ret v_)
     |.brk xA=>
      some (.next (ab (i5+1),xA))
   else
    some (.brk l6)
def bd.h1 (cr:(List Int)) (x2:aF) (i5:Int) (x9:As) (dA:Int):(Int×(List (Aa 2 (Aa 32 Int))))->St:=fun s=>match s with
 |(i13,cA)=>⟨[(1,.sl 1 (List.map eI cr)),(4,.ptr 0 0 0),(5,.ptr 0 3 0),(7,.ptr 0 6 0),(8,.int .i64 (dV .i64 dA 3)),(23,.loc 0 5 65 0 x2.Ad.Af.length x2.Ad.Af.length),(24,.int .i64 ((x2.Ad.Af.length:Nat):Int)),(25,.int .i64 i5),(41,.int .i64 i13)],[(0,.box ([.loc 0 1 64 0 0 0,.loc 0 2 65 0 0 0])),(1,.arr 113 64 (List.map (Aa.c (n:=2) (Aa.c (n:=32) ae)) [])),(2,.arr 116 65 (List.map As.c [])),(3,.box ([.loc 0 4 64 0 cA.length cA.length,.loc 0 5 65 0 x2.Ad.Af.length x2.Ad.Af.length])),(4,.arr 113 64 (List.map (Aa.c (n:=2) (Aa.c (n:=32) ae)) cA)),(5,.arr 116 65 (List.map As.c x2.Ad.Af)),(6,.box ([.int .i64 x9.At]++(Aa.c (n:=2) (Aa.c (n:=32) ae) x9.AQ)))],[],7,Tryz.f34.ntmps⟩
def bd.x1 (cr:(List Int)) (x2:aF) (i5:Int):(List (Aa 2 (Aa 32 Int)))->St:=fun re=>⟨[(1,.sl 1 (List.map eI cr)),(4,.ptr 0 0 0),(5,.ptr 0 3 0),(23,.loc 0 5 65 0 x2.Ad.Af.length x2.Ad.Af.length),(24,.int .i64 ((x2.Ad.Af.length:Nat):Int)),(25,.int .i64 i5)],[(0,.box ([.loc 0 1 64 0 0 0,.loc 0 2 65 0 0 0])),(1,.arr 113 64 (List.map (Aa.c (n:=2) (Aa.c (n:=32) ae)) [])),(2,.arr 116 65 (List.map As.c [])),(3,.box ([.loc 0 4 64 0 re.length re.length,.loc 0 5 65 0 x2.Ad.Af.length x2.Ad.Af.length])),(4,.arr 113 64 (List.map (Aa.c (n:=2) (Aa.c (n:=32) ae)) re)),(5,.arr 116 65 (List.map As.c x2.Ad.Af))],[],6,Tryz.f34.ntmps⟩
def bd.qC (cr:(List Int)) (x2:aF) (i5:Int) (x9:As):(Int×(List (Aa 2 (Aa 32 Int))))->St:=fun s=>match s with
 |(i25,j5)=>⟨[(1,.sl 1 (List.map eI cr)),(4,.ptr 0 0 0),(5,.ptr 0 3 0),(7,.ptr 0 6 0),(8,.int .i64 0),(23,.loc 0 5 65 0 x2.Ad.Af.length x2.Ad.Af.length),(24,.int .i64 ((x2.Ad.Af.length:Nat):Int)),(25,.int .i64 i5),(41,.int .i64 i25)],[(0,.box ([.loc 0 1 64 0 0 0,.loc 0 2 65 0 0 0])),(1,.arr 113 64 (List.map (Aa.c (n:=2) (Aa.c (n:=32) ae)) [])),(2,.arr 116 65 (List.map As.c [])),(3,.box ([.loc 0 4 64 0 j5.length j5.length,.loc 0 5 65 0 x2.Ad.Af.length x2.Ad.Af.length])),(4,.arr 113 64 (List.map (Aa.c (n:=2) (Aa.c (n:=32) ae)) j5)),(5,.arr 116 65 (List.map As.c x2.Ad.Af)),(6,.box ([.int .i64 x9.At]++(Aa.c (n:=2) (Aa.c (n:=32) ae) x9.AQ)))],[],7,Tryz.f34.ntmps⟩
def bd.tW (cr:(List Int)) (x2:aF) (i5:Int):(List (Aa 2 (Aa 32 Int)))->St:=fun xA=>⟨[(1,.sl 1 (List.map eI cr)),(4,.ptr 0 0 0),(5,.ptr 0 3 0),(23,.loc 0 5 65 0 x2.Ad.Af.length x2.Ad.Af.length),(24,.int .i64 ((x2.Ad.Af.length:Nat):Int)),(25,.int .i64 i5)],[(0,.box ([.loc 0 1 64 0 0 0,.loc 0 2 65 0 0 0])),(1,.arr 113 64 (List.map (Aa.c (n:=2) (Aa.c (n:=32) ae)) [])),(2,.arr 116 65 (List.map As.c [])),(3,.box ([.loc 0 4 64 0 xA.length xA.length,.loc 0 5 65 0 x2.Ad.Af.length x2.Ad.Af.length])),(4,.arr 113 64 (List.map (Aa.c (n:=2) (Aa.c (n:=32) ae)) xA)),(5,.arr 116 65 (List.map As.c x2.Ad.Af))],[],6,Tryz.f34.ntmps⟩
def bd.h0 (cr:(List Int)) (x2:aF):(Int×(List (Aa 2 (Aa 32 Int))))->St:=fun s=>match s with
 |(i5,l6)=>⟨[(1,.sl 1 (List.map eI cr)),(4,.ptr 0 0 0),(5,.ptr 0 3 0),(23,.loc 0 5 65 0 x2.Ad.Af.length x2.Ad.Af.length),(24,.int .i64 ((x2.Ad.Af.length:Nat):Int)),(25,.int .i64 i5)],[(0,.box ([.loc 0 1 64 0 0 0,.loc 0 2 65 0 0 0])),(1,.arr 113 64 (List.map (Aa.c (n:=2) (Aa.c (n:=32) ae)) [])),(2,.arr 116 65 (List.map As.c [])),(3,.box ([.loc 0 4 64 0 l6.length l6.length,.loc 0 5 65 0 x2.Ad.Af.length x2.Ad.Af.length])),(4,.arr 113 64 (List.map (Aa.c (n:=2) (Aa.c (n:=32) ae)) l6)),(5,.arr 116 65 (List.map As.c x2.Ad.Af))],[],6,Tryz.f34.ntmps⟩
def bd.x0 (x2:aF):(List (Aa 2 (Aa 32 Int)))->St:=fun l7=>⟨[(4,.ptr 0 0 0),(5,.ptr 0 3 0)],[(0,.box ([.loc 0 1 64 0 0 0,.loc 0 2 65 0 0 0])),(1,.arr 113 64 (List.map (Aa.c (n:=2) (Aa.c (n:=32) ae)) [])),(2,.arr 116 65 (List.map As.c [])),(3,.box ([.loc 0 4 64 0 l7.length l7.length,.loc 0 5 65 0 x2.Ad.Af.length x2.Ad.Af.length])),(4,.arr 113 64 (List.map (Aa.c (n:=2) (Aa.c (n:=32) ae)) l7)),(5,.arr 116 65 (List.map As.c x2.Ad.Af))],[],6,Tryz.f34.ntmps⟩
def bd (k:Nat) (d0:Ad) (cr:(List Int)):Option (Ad):=
 (nc k d0).bind fun x2=>
 (sf k d0).bind fun x3=>
 bif (!x3) then
  some x2.Ad
 else
  (ai (bd.b0 k cr x2) k (0,x2.Ad.Aj)).bind fun r37=>match r37 with
  |.next _=>none
  |.ret v_=>some v_
  |.brk l7=>
   some (⟨l7,[]⟩:Ad)
theorem abu (k:Nat) (d0:Ad) (cr:(List Int)) (r:Ad) (h0:bd k d0 cr=some r):Ay Tryz.prog 34 [.agg (Ad.c d0),.sl 1 (List.map eI cr)] (fun y=>y=.agg (Ad.c r)):=by
 refine PB Tryz.f34 Dp.c [.cell 4 36] ?_
 simp only[bd]at h0
 try simp only[Dp.c,go_sem]
 obtain⟨x2,dJ,h0⟩:=bs h0
 refine CJ AE 1000 [] [] (ud k _ _ dJ) ?_ rfl ?_
 try simp only[fB,go_sem]
 try simp only[go_sem]
 refine aj h0 (abA k _) ?_ (fun x3 h0=>?_)<;>try simp only[go_sem]
 refine BS h0 ?_ ?_<;>intro c4 h0<;>have F:=c4<;>try simp only[F,go_sem]
 obtain rfl:=oi h0
 refine Ag rfl ?_
 try simp only[F,go_sem]
 obtain⟨r37,asz,h0⟩:=bs h0
 refine A5 asz (bd.h0 cr x2) (bd.x0 x2) ?_ ?_ ?_
 refine Al.go [1,4,5,23,24,25] [16,17,18,48,49,50] rfl ?_
 try simp only[bd.h0,F,go_sem]
 rintro⟨i5,l6⟩ bO Bd Ba h1 az ax bg
 refine rS ?_
 simp only[bd.b0]at h1
 try simp only[Dp.s0,bd.h0,F,go_sem]
 refine AF F h1 ?_ ?_<;>intro F h1<;>try simp only[F,go_sem]
 obtain⟨x9,gM,h1⟩:=bs h1
 have F:=an (aI gM) (an (aH As.c gM) F)
 try simp only[F,go_sem]
 refine AF F h1 ?_ ?_<;>intro F h1<;>try simp only[F,go_sem]
 obtain⟨u11,asC,h1⟩:=bs h1
 have F:=an (aeZ asC) F
 try simp only[F,go_sem]
 obtain⟨dA,m9,h1⟩:=bs h1
 have F:=an (aI m9) (an (aH eI m9) F)
 try simp only[F,go_sem]
 obtain⟨r24,asu,h1⟩:=bs h1
 refine A5 asu (bd.h1 cr x2 i5 x9 dA) (bd.x1 cr x2 i5) ?_ ?_ ?_
 refine Al.go [1,4,5,7,8,23,24,25,41] [0,1,2,3,4,5,70] rfl ?_
 try simp only[bd.h1,F,go_sem]
 rintro⟨i13,cA⟩ x_2 Fq Ft h2 oe pq zS
 refine rS ?_
 simp only[bd.b1]at h2
 try simp only[Dp.s1,bd.h1,F,go_sem]
 refine AF F h2 ?_ ?_<;>intro F h2<;>try simp only[F,go_sem]
 obtain⟨u17,asF,h2⟩:=bs h2
 have F:=an (aaB asF) F
 try simp only[F,go_sem]
 refine AF F h2 ?_ ?_<;>intro F h2<;>try simp only[F,go_sem]
 refine AL AE aO 1000 ?_
 try simp only[F,go_sem]
 obtain⟨jw,qc,h2⟩:=bs h2
 have arZ:=Ao.bh gN (Ao.skip (Ao.self gP x9.AQ) ([.int .i64 x9.At]:List AV)) qc
 have akD:=arZ.2
 try simp only[AA,AB,go_sem]at akD
 have F:=an (aq qc) (an akD F)
 try simp only[F,go_sem]
 obtain⟨cT,bW,h2⟩:=bs h2
 have F:=an (aI bW) (an (aH (Aa.c (n:=2) (Aa.c (n:=32) ae)) bW) F)
 try simp only[F,go_sem]
 obtain⟨gJ,ff,h2⟩:=bs h2
 have vw:=Ao.bh gN (Ao.self gP cT) ff
 have aaT:=vw.2
 try simp only[AA,AB,go_sem]at aaT
 have F:=an (aq ff) (an aaT F)
 try simp only[F,go_sem]
 obtain⟨tj,vF,h2⟩:=bs h2
 have q22:=vw.1.ow jw
 try simp only[AA,AB,go_sem]at q22
 have ahi:=lV (Aa.c (n:=2) (Aa.c (n:=32) ae)) vF
 try simp only[go_sem]at ahi
 have F:=an ahi (an (kW vF) (an (lW (Aa.c (n:=2) (Aa.c (n:=32) ae)) vF) F))
 try simp only[q22,F,go_sem]
 refine aG ?_
 try simp only[F,go_sem]
 refine Ax (oe _ _ (oi h2).symm (Al.go [1,4,5,7,8,23,24,25,41] [0,1,2,3,4,5,6] rfl ?_))
 try simp only[bd.h1,F,go_sem]
 refine Ax (oe _ _ (oi h2).symm (Al.go [1,4,5,7,8,23,24,25,41] [0,1,2,3,4,5,6] rfl ?_))
 try simp only[bd.h1,F,go_sem]
 refine Ax (pq _ _ (oi h2).symm (Al.go [1,4,5,23,24,25] [0,1,2,3,4,5] rfl ?_))
 try simp only[bd.x1,F,go_sem]
 rintro re aA
 subst aA
 simp only at h1
 refine rS ?_
 try simp only[bd.x1,F,go_sem]
 refine Ax (az _ _ (oi h1).symm (Al.go [1,4,5,23,24,25] [0,1,2,3,4,5] rfl ?_))
 try simp only[bd.h0,F,go_sem]
 obtain⟨r36,asy,h1⟩:=bs h1
 refine A5 asy (bd.qC cr x2 i5 x9) (bd.tW cr x2 i5) ?_ ?_ ?_
 refine Al.go [1,4,5,7,8,23,24,25,41] [0,1,2,3,4,5,70] rfl ?_
 try simp only[bd.qC,F,go_sem]
 rintro⟨i25,j5⟩ x_2 Fq Ft h2 oe pq zS
 refine rS ?_
 simp only[bd.qi]at h2
 try simp only[Dp.s1,bd.qC,F,go_sem]
 refine AF F h2 ?_ ?_<;>intro F h2<;>try simp only[F,go_sem]
 obtain⟨u29,asH,h2⟩:=bs h2
 have F:=an (aaB asH) F
 try simp only[F,go_sem]
 refine AF F h2 ?_ ?_<;>intro F h2<;>try simp only[F,go_sem]
 refine AL AE aO 1000 ?_
 try simp only[F,go_sem]
 obtain⟨m7,alj,h2⟩:=bs h2
 have ar0:=Ao.bh gN (Ao.skip (Ao.self gP x9.AQ) ([.int .i64 x9.At]:List AV)) alj
 have akJ:=ar0.2
 try simp only[AA,AB,go_sem]at akJ
 have F:=an (aq alj) (an akJ F)
 try simp only[F,go_sem]
 obtain⟨fv,abb,h2⟩:=bs h2
 have F:=an (aI abb) (an (aH (Aa.c (n:=2) (Aa.c (n:=32) ae)) abb) F)
 try simp only[F,go_sem]
 obtain⟨yd,alk,h2⟩:=bs h2
 have akm:=Ao.bh gN (Ao.self gP fv) alk
 have akK:=akm.2
 try simp only[AA,AB,go_sem]at akK
 have F:=an (aq alk) (an akK F)
 try simp only[F,go_sem]
 obtain⟨u3,aa7,h2⟩:=bs h2
 have q34:=akm.1.ow m7
 try simp only[AA,AB,go_sem]at q34
 have ahn:=lV (Aa.c (n:=2) (Aa.c (n:=32) ae)) aa7
 try simp only[go_sem]at ahn
 have F:=an ahn (an (kW aa7) (an (lW (Aa.c (n:=2) (Aa.c (n:=32) ae)) aa7) F))
 try simp only[q34,F,go_sem]
 refine aG ?_
 try simp only[F,go_sem]
 refine Ax (oe _ _ (oi h2).symm (Al.go [1,4,5,7,8,23,24,25,41] [0,1,2,3,4,5,6] rfl ?_))
 try simp only[bd.qC,F,go_sem]
 refine Ax (oe _ _ (oi h2).symm (Al.go [1,4,5,7,8,23,24,25,41] [0,1,2,3,4,5,6] rfl ?_))
 try simp only[bd.qC,F,go_sem]
 refine Ax (pq _ _ (oi h2).symm (Al.go [1,4,5,23,24,25] [0,1,2,3,4,5] rfl ?_))
 try simp only[bd.tW,F,go_sem]
 rintro xA aA
 subst aA
 simp only at h1
 refine rS ?_
 try simp only[bd.tW,F,go_sem]
 refine Ax (az _ _ (oi h1).symm (Al.go [1,4,5,23,24,25] [0,1,2,3,4,5] rfl ?_))
 try simp only[bd.h0,F,go_sem]
 refine Ax (ax _ _ (oi h1).symm (Al.go [4,5] [0,1,2,3,4,5] rfl ?_))
 try simp only[bd.x0,F,go_sem]
 rintro l7 aA
 subst aA
 simp only at h0
 refine rS ?_
 try simp only[bd.x0,F,go_sem]
 obtain rfl:=oi h0
 refine Ag rfl ?_
 try simp only[F,go_sem]
def G1.c:SC:=
 SQ [RG [wA 0 36,wA 1 42],RG [oQ 3 (.makeSlice 33 (.const (.int .i64 602)) (.const (.int .i64 602))) 33,oQ 4 (.build 36 #[(0,.tmp 3)]) 36 [3],wA 2 36,wS 36 2 4 [4]],.aS [wF 5 36 2 0,wD 6 33 5,wC 7 44 #[.const (.int .i64 1),.const (.int .i64 0)] #[3,3] 105,wJ 8 33 6 0,wJ 9 113 8 0,wS 92 9 7] [[],[0],[],[0,1],[0,1,3,2],[0,1,3,2,4]] [5,6,7,8,9],RG [wD 10 36 2 [2],oQ 11 (.build 42 #[(2,
 .const (.int .i64 1)),(3,.const (.int .i64 1))]) 42,wS 36 0 10 [10],wS 42 1 11 [11]],.ret]
def vR (k:Nat):Option (Ad×Ai):=
 (kR 602 64 ((Aa.rep 2 ((Aa.rep 32 (0:Int)):(Aa 32 Int))):(Aa 2 (Aa 32 Int)))).bind fun l1=>
 (yC k 1 0).bind fun x2=>
 (at? l1 0).bind fun x3=>
 (x3.at? 0).bind fun x4=>
 (dN l1 0 (x3.set 0 x2)).bind fun l6=>
 some ((⟨l6,[]⟩:Ad),(⟨(⟨[]⟩:Ak),0,1,1⟩:Ai))
theorem agm (k:Nat) (r:Ad×Ai) (h0:vR k=some r):Ay Tryz.prog 10 [] (fun y=>y=.aw [.agg (Ad.c r.1),.agg (Ai.c r.2)]):=by
 refine PB Tryz.f10 G1.c [.cell 0 36,.cell 1 42] ?_
 simp only[vR]at h0
 try simp only[G1.c,go_sem]
 have hz:=bs h0;clear h0;cases hz;rename_i l1 hz;cases hz;rename_i rN h0
 obtain⟨_,aeD⟩:=aeQ rN
 have adP:List.replicate 602 (Aa.c (n:=2) (Aa.c (n:=32) ae) (Aa.rep 2 ((Aa.rep 32 (0:Int)):(Aa 32 Int))))=List.map (Aa.c (n:=2) (Aa.c (n:=32) ae)) l1:=aeP (Aa.c (n:=2) (Aa.c (n:=32) ae)) rN
 have aeY:l1.length=602:=aeO rN
 have afr:List.take 602 (List.map (Aa.c (n:=2) (Aa.c (n:=32) ae)) l1)=List.map (Aa.c (n:=2) (Aa.c (n:=32) ae)) l1:=aeR (Aa.c (n:=2) (Aa.c (n:=32) ae)) rN
 have F:=an adP (an aeY (an afr ((@id (Int.toNat 602=602) rfl))))
 try simp only[aeM aeD,F,go_sem]
 refine AL AE aO 1000 ?_
 try simp only[F,go_sem]
 refine bJ h0 (ags k _ _) ?_ (fun x2 h0=>?_)<;>try simp only[F,go_sem]
 have hz:=bs h0;clear h0;cases hz;rename_i x3 hz;cases hz;rename_i cv h0
 have yZ:=aI cv
 simp only[F,go_sem]at yZ
 have F:=an yZ (an (aH (Aa.c (n:=2) (Aa.c (n:=32) ae)) cv) F)
 try simp only[F,go_sem]
 have hz:=bs h0;clear h0;cases hz;rename_i x4 hz;cases hz;rename_i bF h0
 have fF:=Ao.bh gN (Ao.self gP x3) bF
 have jP:=fF.2
 try simp only[AA,AB,go_sem]at jP
 have F:=an (aq bF) (an jP F)
 try simp only[F,go_sem]
 have hz:=bs h0;clear h0;cases hz;rename_i l6 hz;cases hz;rename_i ko h0
 have q5:=fF.1.ow x2
 try simp only[AA,AB,go_sem]at q5
 have sy:=lV (Aa.c (n:=2) (Aa.c (n:=32) ae)) ko
 try simp only[go_sem]at sy
 have aaG:=lW (Aa.c (n:=2) (Aa.c (n:=32) ae)) ko
 try simp only[F,go_sem]at aaG
 have F:=an sy (an (kW ko) (an aaG F))
 try simp only[q5,F,go_sem]
 refine aG ?_
 try simp only[F,go_sem]
 obtain rfl:=oi h0
 refine Ag rfl ?_
 try simp only[F,go_sem]
end Go.Abs
namespace Go.Abs
open Go Go.Proofs Go.RowKit Go.Lib
def F5.c:SC:=
 SQ [RG [wB 0 false 4 [0]],RG [oQ 26 (.build 27 #[(0,.const (.int .i64 2))]) 27,oQ 27 (.build 29 #[(0,.tmp 26),(1,.const (.int .i64 5)),(2,.const (.int .i64 10)),(3,.const (.int .i64 12)),(5,.const (.string ⟨#[98,101,110,116,32,49,48,48,48]⟩))]) 29 [26],wA 1 29,wS 29 1 27 [27]],RG [wD 29 29 1,wU 30 30 29 29 83 [29],wV 28 30 83 [30],wX 31 28 0 82,wX 32 28 1 45 [28],wG 2 31 82 [31],wG 3 32 45 [32]],
 RG [wD 34 29 1,wC 35 31 #[.tmp 34,.const (.int .i64 0),.const (.int .i64 1)] #[29,3,3] 86 [34],wV 33 35 86 [35],wX 36 33 0 85,wX 37 33 1 45 [33],wG 4 36 85 [36],wG 5 37 45 [37]],RG [wC 39 10 #[] #[] 48,wV 38 39 48 [39],wX 40 38 0 36,wX 41 38 1 42 [38],wA 6 36,wA 7 42,wS 36 6 40 [40],wS 42 7 41 [41]],RG [wD 43 36 6 [6],wD 44 42 7 [7],wD 45 29 1,wC 46 32 #[.tmp 43,.tmp 44,.tmp 45] #[36,42,
 29] 88 [43,44,45],wV 42 46 88 [46],wX 47 42 0 36,wX 48 42 1 42,wX 49 42 2 45 [42],wA 8 36,wA 9 42,wS 36 8 47 [47],wS 42 9 48 [48],wG 10 49 45 [49]],RG [wD 51 36 8,oQ 52 (.buildSlice 58 2 #[(0,.const (.int .i64 2)),(1,.const (.int .i64 0))]) 58,wW 53 34 51 52 36 58 36 [51,52],wU 54 33 53 36 88 [53],wV 50 54 88 [54],wX 55 50 0 36,wX 56 50 1 42,wX 57 50 2 45 [50],wA 11 36,wA 12 42,wS 36 11 55 [55],
 wS 42 12 56 [56],wG 13 57 45 [57]],RG [wD 59 36 11 [11],wD 60 42 12,wD 61 29 1 [1],wC 62 32 #[.tmp 59,.tmp 60,.tmp 61] #[36,42,29] 88 [59,60,61],wV 58 62 88 [62],wX 63 58 0 36,wX 64 58 1 42,wX 65 58 2 45 [58],wA 14 36,wA 15 42,wS 36 14 63 [63],wS 42 15 64 [64],wG 16 65 45 [65]],RG [wD 67 36 14,oQ 68 (.buildSlice 58 2 #[(0,.const (.int .i64 0)),(1,.const (.int .i64 1))]) 58,
 wW 69 34 67 68 36 58 36 [67,68],wU 70 33 69 36 88 [69],wV 66 70 88 [70],wX 71 66 0 36,wX 72 66 1 42,wX 73 66 2 45 [66],wA 17 36,wA 18 42,wS 36 17 71 [17,71],wS 42 18 72 [72],wG 19 73 45 [73]],RG [wD 75 36 14 [14],oQ 76 (.buildSlice 58 2 #[(0,.const (.int .i64 3)),(1,.const (.int .i64 3))]) 58,wW 77 34 75 76 36 58 36 [75,76],wU 78 33 77 36 88 [77],wV 74 78 88 [78],wX 79 74 0 36,wX 80 74 1 42,
 wX 81 74 2 45 [74],wA 20 36,wA 21 42,wS 36 20 79 [20,79],wS 42 21 80 [80],wG 22 81 45 [81]],RG [wV 82 3 45 [3],wK 83 .eql 45 82 0 45 4 [82],wV 84 83 4 [83],gd 84 true (wV 85 5 45 [5]),gd 84 true (wK 86 .eql 45 85 0 45 4 [85]),wZ 87 84 86 4 [84,86],wV 88 87 4 [87],gd 88 true (wV 89 10 45 [10]),gd 88 true (wK 90 .eql 45 89 0 45 4 [89]),wZ 91 88 90 4 [88,90],wV 92 91 4 [91],
 gd 92 true (wV 93 13 45 [13]),gd 92 true (wK 94 .eql 45 93 0 45 4 [93]),wZ 95 92 94 4 [92,94],wV 96 95 4 [95],gd 96 true (wV 97 16 45 [16]),gd 96 true (wK 98 .eql 45 97 0 45 4 [97]),wZ 99 96 98 4 [96,98],wV 100 99 4 [99],gd 100 true (wV 101 19 45 [19]),gd 100 true (wK 102 .eql 45 101 0 45 4 [101]),wZ 103 100 102 4 [100,102],wV 104 103 4 [103],gd 104 true (wV 105 22 45 [22]),
 gd 104 true (wK 106 .eql 45 105 0 45 4 [105]),wZ 107 104 106 4 [104,106],wG 23 107 4 [107]],RG [wV 108 2 82 [2],wL 109 108 82 3 [108],wK 110 .eql 3 109 25 3 4 [109],wV 111 110 4 [110],gd 111 true (wV 112 4 85),gd 111 true (wL 113 112 85 3 [112]),gd 111 true (wK 114 .eql 3 113 2 3 4 [113]),wZ 115 111 114 4 [111,114],wV 116 115 4 [115],gd 116 true (wV 117 4 85),gd 116 true (wJ 118 85 117 1 [117]),
 gd 116 true (wJ 119 92 118 6 [118]),gd 116 true (wD 120 5 119 [119]),gd 116 true (oQ 121 (.binOp .eql 5 (.tmp 120) (.const (.int .u8 1)) 5) 4 [120]),wZ 122 116 121 4 [116,121],wV 123 122 4 [122],gd 123 true (wV 124 4 85),gd 123 true (wJ 125 85 124 1 [124]),gd 123 true (wJ 126 92 125 7 [125]),gd 123 true (wD 127 5 126 [126]),
 gd 123 true (oQ 128 (.binOp .eql 5 (.tmp 127) (.const (.int .u8 2)) 5) 4 [127]),wZ 129 123 128 4 [123,128],wV 130 129 4 [129],gd 130 true (wV 131 4 85 [4]),gd 130 true (wJ 132 85 131 0 [131]),gd 130 true (wJ 133 92 132 31 [132]),gd 130 true (wD 134 5 133 [133]),gd 130 true (oQ 135 (.binOp .eql 5 (.tmp 134) (.const (.int .u8 165)) 5) 4 [134]),wZ 136 130 135 4 [130,135],wG 24 136 4 [136]],
 RG [wF 137 36 8 1 [8],wD 138 34 137 [137],wL 139 138 34 3 [138],wK 140 .eql 3 139 2 3 4 [139],wV 141 140 4 [140],gd 141 true (wF 142 42 9 3 [9]),gd 141 true (wD 143 3 142 [142]),gd 141 true (wK 144 .eql 3 143 3 3 4 [143]),wZ 145 141 144 4 [141,144],wV 146 145 4 [145],gd 146 true (wF 147 42 12 0),gd 146 true (wF 148 40 147 0 [147]),gd 146 true (wD 149 38 148 [148]),
 gd 146 true (wL 150 149 38 3 [149]),gd 146 true (wK 151 .eql 3 150 0 3 4 [150]),wZ 152 146 151 4 [146,151],wV 153 152 4 [152],gd 153 true (wF 154 42 12 2 [12]),gd 153 true (wD 155 3 154 [154]),gd 153 true (wK 156 .eql 3 155 2 3 4 [155]),wZ 157 153 156 4 [153,156],wV 158 157 4 [157],gd 158 true (wF 159 42 15 3 [15]),gd 158 true (wD 160 3 159 [159]),gd 158 true (wK 161 .eql 3 160 3 3 4 [160]),
 wZ 162 158 161 4 [158,161],wG 25 162 4 [162]],RG [wV 163 23 4 [23],wV 164 163 4 [163],gd 164 true (wV 165 24 4 [24]),wZ 166 164 165 4 [164,165],wV 167 166 4 [166],gd 167 true (wV 168 25 4 [25]),wZ 169 167 168 4 [167,168],wV 170 169 4 [169],gd 170 true (wF 171 42 18 0),gd 170 true (wF 172 40 171 0 [171]),gd 170 true (wD 173 38 172 [172]),gd 170 true (wL 174 173 38 3 [173]),
 gd 170 true (wK 175 .eql 3 174 0 3 4 [174]),wZ 176 170 175 4 [170,175],wV 177 176 4 [176],gd 177 true (wF 178 42 18 2 [18]),gd 177 true (wD 179 3 178 [178]),gd 177 true (wK 180 .eql 3 179 3 3 4 [179]),wZ 181 177 180 4 [177,180],wV 182 181 4 [181],gd 182 true (wF 183 42 21 0),gd 182 true (wF 184 40 183 0 [183]),gd 182 true (wD 185 38 184 [184]),gd 182 true (wL 186 185 38 3 [185]),
 gd 182 true (wK 187 .eql 3 186 1 3 4 [186]),wZ 188 182 187 4 [182,187],wV 189 188 4 [188],gd 189 true (wF 190 42 21 2 [21]),gd 189 true (wD 191 3 190 [190]),gd 189 true (wK 192 .eql 3 191 3 3 4 [191]),wZ 193 189 192 4 [189,192],wG 0 193 4 [193]],.ret]
theorem F5.rs:Tryz.f5.results.toList=[.tmp 0]:=rfl
def FA (k:Nat):Option (Bool):=
 (adl k (⟨(⟨2,0⟩:Entry),5,10,12,(⟨0,0⟩:Entry),(⟨#[98,101,110,116,32,49,48,48,48]⟩:ByteArray)⟩:Ab)).bind fun x1=>
 (kC k (⟨(⟨2,0⟩:Entry),5,10,12,(⟨0,0⟩:Entry),(⟨#[98,101,110,116,32,49,48,48,48]⟩:ByteArray)⟩:Ab) 0 1).bind fun x2=>
 (vR k).bind fun x3=>
 (jR k x3.1 x3.2 (⟨(⟨2,0⟩:Entry),5,10,12,(⟨0,0⟩:Entry),(⟨#[98,101,110,116,32,49,48,48,48]⟩:ByteArray)⟩:Ab)).bind fun x4=>
 (bd k x4.1 [2,0]).bind fun x5=>
 (oV k x5).bind fun x6=>
 (jR k x6.1 x6.2.1 (⟨(⟨2,0⟩:Entry),5,10,12,(⟨0,0⟩:Entry),(⟨#[98,101,110,116,32,49,48,48,48]⟩:ByteArray)⟩:Ab)).bind fun x7=>
 (bd k x7.1 [0,1]).bind fun x8=>
 (oV k x8).bind fun x9=>
 (bd k x7.1 [3,3]).bind fun dz=>
 (oV k dz).bind fun bN=>
 bif decide (x1.2=(0:Int)) then
  bif decide (x2.2=(0:Int)) then
   bif decide (x4.2.2=(0:Int)) then
    bif decide (x6.2.2=(0:Int)) then
     bif decide (x7.2.2=(0:Int)) then
      bif decide (x9.2.2=(0:Int)) then
       bif decide ((x1.1.length:Int)=(25:Int)) then
        bif decide ((x2.1.length:Int)=(2:Int)) then
         (at? x2.1 1).bind fun cT=>
         (cT.at? 6).bind fun gJ=>
         bif decide (gJ=(1:Int)) then
          (cT.at? 7).bind fun bE=>
          bif decide (bE=(2:Int)) then
           (at? x2.1 0).bind fun cJ=>
           (cJ.at? 31).bind fun la=>
           bif decide ((x4.1.Af.length:Int)=(2:Int)) then
            bif decide (x4.2.1.Used=(3:Int)) then
             bif decide ((x6.2.1.Ak.Ah.length:Int)=(0:Int)) then
              bif decide (x6.2.1.Aq=(2:Int)) then
               bif decide (bN.2.2=(0:Int)) then
                bif decide (la=(165:Int)) then
                 bif decide (x7.2.1.Used=(3:Int)) then
                  bif decide ((x9.2.1.Ak.Ah.length:Int)=(0:Int)) then
                   bif decide (x9.2.1.Aq=(3:Int)) then
                    bif decide ((bN.2.1.Ak.Ah.length:Int)=(1:Int)) then
                     some (decide (bN.2.1.Aq=(3:Int)))
                    else
                     none
                   else
                    none
                  else
                   none
                 else
                  none
                else
                 none
               else
                none
              else
               none
             else
              none
            else
             none
           else
            none
          else
           none
         else
          none
        else
         none
       else
        none
      else
       none
     else
      none
    else
     none
   else
    none
  else
   none
 else
  none
theorem I5 (k:Nat) (r:Bool) (h0:FA k=some r):Ay Tryz.prog 5 [] (fun y=>y=.bool r):=by
 refine Ay.nlr (Ay.gD AE (fn:=Tryz.f5) (sc:=F5.c) (by rfl) (by rfl) (by decide +kernel) (by rfl) (by decide +kernel) (Nat.le_of_ble_eq_true rfl) ?_)
 refine rS ?_
 simp only[FA]at h0
 try simp only[F5.c,go_sem]
 obtain⟨x1,jx,h0⟩:=bs h0
 refine ky (amt k _ _ jx) ?_ ?_
 ·try simp only[go_sem]
 try simp only[go_sem]
 obtain⟨x2,dJ,h0⟩:=bs h0
 refine ky (amu k _ _ _ _ dJ) ?_ ?_
 ·try simp only[go_sem]
 try simp only[go_sem]
 obtain⟨x3,cv,h0⟩:=bs h0
 refine ky (agm k _ cv) ?_ ?_
 ·try simp only[go_sem]
 try simp only[go_sem]
 obtain⟨x4,bF,h0⟩:=bs h0
 refine ky (abr k _ _ _ _ bF) ?_ ?_
 ·try simp only[go_sem]
 try simp only[go_sem]
 obtain⟨x5,cn,h0⟩:=bs h0
 refine Fp AE 1000 [656] (abu k _ _ _ cn) ?_ ?_
 ·try simp only[go_sem]
 try simp only[go_sem]
 obtain⟨x6,dB,h0⟩:=bs h0
 refine ky (abv k _ _ dB) ?_ ?_
 ·try simp only[go_sem]
 try simp only[go_sem]
 obtain⟨x7,dq,h0⟩:=bs h0
 refine ky (abr k _ _ _ _ dq) ?_ ?_
 ·try simp only[go_sem]
 try simp only[go_sem]
 obtain⟨x8,kv,h0⟩:=bs h0
 refine Fp AE 1000 [1072] (abu k _ _ _ kv) ?_ ?_
 ·try simp only[go_sem]
 try simp only[go_sem]
 obtain⟨x9,gM,h0⟩:=bs h0
 refine ky (abv k _ _ gM) ?_ ?_
 ·try simp only[go_sem]
 try simp only[go_sem]
 obtain⟨dz,lg,h0⟩:=bs h0
 refine Fp AE 1000 [1280] (abu k _ _ _ lg) ?_ ?_
 ·try simp only[go_sem]
 try simp only[go_sem]
 obtain⟨bN,gK,h0⟩:=bs h0
 refine ky (abv k _ _ gK) ?_ ?_
 ·try simp only[go_sem]
 try simp only[go_sem]
 refine AP h0 (fun eV h0=>?_) (fun eV h0=>?_)
 ·try simp only[eV,go_sem]
  refine AP h0 (fun fi h0=>?_) (fun fi h0=>?_)
  ·try simp only[fi,eV,go_sem]
   refine AP h0 (fun eW h0=>?_) (fun eW h0=>?_)
   ·try simp only[eW,eV,fi,go_sem]
    refine AP h0 (fun fG h0=>?_) (fun fG h0=>?_)
    ·try simp only[fG,eV,fi,eW,go_sem]
     refine AP h0 (fun fW h0=>?_) (fun fW h0=>?_)
     ·try simp only[fW,eV,fi,eW,fG,go_sem]
      refine AP h0 (fun gv h0=>?_) (fun gv h0=>?_)
      ·try simp only[gv,eV,fi,eW,fG,fW,go_sem]
       refine AP h0 (fun gT h0=>?_) (fun gT h0=>?_)
       ·try simp only[gT,eV,fi,eW,fG,fW,gv,go_sem]
        refine AP h0 (fun iz h0=>?_) (fun iz h0=>?_)
        ·try simp only[iz,eV,fi,eW,fG,fW,gv,gT,go_sem]
         obtain⟨cT,bW,h0⟩:=bs h0
         try simp only[aI bW,aH (Aa.c (n:=32) ae) bW,eV,fi,eW,fG,fW,gv,gT,iz,go_sem]
         obtain⟨gJ,ff,h0⟩:=bs h0
         have vw:=Ao.at lj (Ao.self zlh cT) ff
         have jb:=vw.bound lj
         have jg:=vw.get lj
         try simp only[AA,AB,go_sem]at jb jg
         try simp only[aq ff,jb,jg,eV,fi,eW,fG,fW,gv,gT,iz,aI bW,aH (Aa.c (n:=32) ae) bW,go_sem]
         refine AP h0 (fun jz h0=>?_) (fun jz h0=>?_)
         ·try simp only[jz,aI bW,aH (Aa.c (n:=32) ae) bW,eV,fi,eW,fG,fW,gv,gT,iz,aq ff,jb,jg,go_sem]
          obtain⟨bE,gL,h0⟩:=bs h0
          have tK:=Ao.at lj (Ao.self zlh cT) gL
          have jS:=tK.bound lj
          have jX:=tK.get lj
          try simp only[AA,AB,go_sem]at jS jX
          try simp only[aq gL,jS,jX,eV,fi,eW,fG,fW,gv,gT,iz,aI bW,aH (Aa.c (n:=32) ae) bW,aq ff,jb,jg,jz,go_sem]
          refine AP h0 (fun kE h0=>?_) (fun kE h0=>?_)
          ·try simp only[kE,eV,fi,eW,fG,fW,gv,gT,iz,aI bW,aH (Aa.c (n:=32) ae) bW,aq ff,jb,jg,jz,aq gL,jS,jX,go_sem]
           obtain⟨cJ,dZ,h0⟩:=bs h0
           try simp only[aI dZ,aH (Aa.c (n:=32) ae) dZ,eV,fi,eW,fG,fW,gv,gT,iz,aI bW,aH (Aa.c (n:=32) ae) bW,aq ff,jb,jg,jz,aq gL,jS,jX,kE,go_sem]
           obtain⟨la,ku,h0⟩:=bs h0
           have aaL:=Ao.at lj (Ao.self zlh cJ) ku
           have mq:=aaL.bound lj
           have mB:=aaL.get lj
           try simp only[AA,AB,go_sem]at mq mB
           try simp only[aq ku,mq,mB,eV,fi,eW,fG,fW,gv,gT,iz,aI bW,aH (Aa.c (n:=32) ae) bW,aq ff,jb,jg,jz,aq gL,jS,jX,kE,aI dZ,aH (Aa.c (n:=32) ae) dZ,go_sem]
           refine AP h0 (fun nf h0=>?_) (fun nf h0=>?_)
           ·try simp only[nf,eV,fi,eW,fG,fW,gv,gT,iz,aI bW,aH (Aa.c (n:=32) ae) bW,aq ff,jb,jg,jz,aq gL,jS,jX,kE,aI dZ,aH (Aa.c (n:=32) ae) dZ,aq ku,mq,mB,go_sem]
            refine AP h0 (fun nW h0=>?_) (fun nW h0=>?_)
            ·try simp only[nW,eV,fi,eW,fG,fW,gv,gT,iz,aI bW,aH (Aa.c (n:=32) ae) bW,aq ff,jb,jg,jz,aq gL,jS,jX,kE,aI dZ,aH (Aa.c (n:=32) ae) dZ,aq ku,mq,mB,nf,go_sem]
             refine AP h0 (fun oY h0=>?_) (fun oY h0=>?_)
             ·try simp only[oY,eV,fi,eW,fG,fW,gv,gT,iz,aI bW,aH (Aa.c (n:=32) ae) bW,aq ff,jb,jg,jz,aq gL,jS,jX,kE,aI dZ,aH (Aa.c (n:=32) ae) dZ,aq ku,mq,mB,nf,nW,go_sem]
              refine AP h0 (fun qo h0=>?_) (fun qo h0=>?_)
              ·try simp only[qo,eV,fi,eW,fG,fW,gv,gT,iz,aI bW,aH (Aa.c (n:=32) ae) bW,aq ff,jb,jg,jz,aq gL,jS,jX,kE,aI dZ,aH (Aa.c (n:=32) ae) dZ,aq ku,mq,mB,nf,nW,oY,go_sem]
               refine AP h0 (fun sq h0=>?_) (fun sq h0=>?_)
               ·try simp only[sq,eV,fi,eW,fG,fW,gv,gT,iz,aI bW,aH (Aa.c (n:=32) ae) bW,aq ff,jb,jg,jz,aq gL,jS,jX,kE,aI dZ,aH (Aa.c (n:=32) ae) dZ,aq ku,mq,mB,nf,nW,oY,qo,go_sem]
                refine AP h0 (fun uf h0=>?_) (fun uf h0=>?_)
                ·try simp only[uf,eV,fi,eW,fG,fW,gv,gT,iz,aI bW,aH (Aa.c (n:=32) ae) bW,aq ff,jb,jg,jz,aq gL,jS,jX,kE,aI dZ,aH (Aa.c (n:=32) ae) dZ,aq ku,mq,mB,nf,nW,oY,qo,sq,go_sem]
                 refine AP h0 (fun vY h0=>?_) (fun vY h0=>?_)
                 ·try simp only[vY,eV,fi,eW,fG,fW,gv,gT,iz,aI bW,aH (Aa.c (n:=32) ae) bW,aq ff,jb,jg,jz,aq gL,jS,jX,kE,aI dZ,aH (Aa.c (n:=32) ae) dZ,aq ku,mq,mB,nf,nW,oY,qo,sq,uf,go_sem]
                  refine AP h0 (fun yE h0=>?_) (fun yE h0=>?_)
                  ·try simp only[yE,eV,fi,eW,fG,fW,gv,gT,iz,aI bW,aH (Aa.c (n:=32) ae) bW,aq ff,jb,jg,jz,aq gL,jS,jX,kE,aI dZ,aH (Aa.c (n:=32) ae) dZ,aq ku,mq,mB,nf,nW,oY,qo,sq,uf,vY,go_sem]
                   refine AP h0 (fun c35 h0=>?_) (fun c35 h0=>?_)
                   ·try simp only[c35,eV,fi,eW,fG,fW,gv,gT,iz,aI bW,aH (Aa.c (n:=32) ae) bW,aq ff,jb,jg,jz,aq gL,jS,jX,kE,aI dZ,aH (Aa.c (n:=32) ae) dZ,aq ku,mq,mB,nf,nW,oY,qo,sq,uf,vY,yE,go_sem]
                    refine AP h0 (fun c36 h0=>?_) (fun c36 h0=>?_)
                    ·try simp only[c36,eV,fi,eW,fG,fW,gv,gT,iz,aI bW,aH (Aa.c (n:=32) ae) bW,aq ff,jb,jg,jz,aq gL,jS,jX,kE,aI dZ,aH (Aa.c (n:=32) ae) dZ,aq ku,mq,mB,nf,nW,oY,qo,sq,uf,vY,yE,c35,go_sem]
                     obtain rfl:=oi h0
                     refine Ag rfl ?_
                     try simp only[F5.rs,eV,fi,eW,fG,fW,gv,gT,iz,aI bW,aH (Aa.c (n:=32) ae) bW,aq ff,jb,jg,jz,aq gL,jS,jX,kE,aI dZ,aH (Aa.c (n:=32) ae) dZ,aq ku,mq,mB,nf,nW,oY,qo,sq,uf,vY,yE,c35,c36,go_sem]
                    ·cases h0
                   ·cases h0
                  ·cases h0
                 ·cases h0
                ·cases h0
               ·cases h0
              ·cases h0
             ·cases h0
            ·cases h0
           ·cases h0
          ·cases h0
         ·cases h0
        ·cases h0
       ·cases h0
      ·cases h0
     ·cases h0
    ·cases h0
   ·cases h0
  ·cases h0
 ·cases h0
end Go.Abs
end
