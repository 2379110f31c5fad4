/-
  Part 4 of the proof: a machine over named blocks, what each function computes, and what follows. No condition.
-/
import Derived.Test.YtpgccpdlilnakaaProg
import Derived.Ground.Names2Prog
import Derived.Shelf.Lays
import Derived.WalkKit
import Derived.Lib.Walk
import Derived.Lib.SliceRun
import Derived.Lib.JoinLaws
import Derived.Lib.AppendZerosOnto
import Derived.Lib.Overlaps
import Derived.Laws.Externs
import Derived.Laws.IdiomCopy
import Derived.Laws.NewBlocks
import Derived.Shelf.Spec.SlicesInsert
import Derived.Tactics
import Derived.Tactics2
import Derived.Laws.Pointers
import Derived.Test.YtpgccpdlilnakaaBPowerC
set_option linter.unusedVariables false
set_option linter.unusedSimpArgs false
set_option linter.all false
set_option maxRecDepth 100000
set_option maxHeartbeats 8000000
namespace Go.Abs
open Go.Proofs
set_option maxRecDepth 20000
structure Entry where
  House:Int
  No:Int
def Entry.c (x:Entry):List AV:=[.int .i64 x.House,.int .i64 x.No]
structure Record where
  At:Entry
  Kind:Int
  Day:Int
  Known:Int
  Of:Entry
  Text:ByteArray
def Record.c (x:Record):List AV:=[.int .i64 x.At.House,.int .i64 x.At.No,.int .i64 x.Kind,.int .i64 x.Day,.int .i64 x.Known,.int .i64 x.Of.House,.int .i64 x.Of.No,.str x.Text]
structure Write where
  At:Int
  Page:(Vec 2 (Vec 32 Int))
def Write.c (x:Write):List AV:=[.int .i64 x.At]++(Vec.c (n:=2) (Vec.c (n:=32) eU8) x.Page)
structure Disk where
  Pages:(List (Vec 2 (Vec 32 Int)))
  Wait:(List Write)
def Disk.c (x:Disk):List AV:=[.sl 64 (List.map (Vec.c (n:=2) (Vec.c (n:=32) eU8)) x.Pages),.sl 65 (List.map Write.c x.Wait)]
structure Book where
  Records:(List Record)
def Book.c (x:Book):List AV:=[.sl 8 (List.map Record.c x.Records)]
structure Ledger where
  Book:Book
  Area:Int
  Epoch:Int
  Used:Int
def Ledger.c (x:Ledger):List AV:=[.sl 8 (List.map Record.c x.Book.Records),.int .i64 x.Area,.int .i64 x.Epoch,.int .i64 x.Used]
structure book_disk where
  Disk:Disk
def book_disk.c (x:book_disk):List AV:=[.sl 64 (List.map (Vec.c (n:=2) (Vec.c (n:=32) eU8)) x.Disk.Pages),.sl 65 (List.map Write.c x.Disk.Wait)]
structure book_journal where
  disk:(Option book_disk)
  area:Int
  epoch:Int
  used:Int
  book:Book
  records:Int
def book_journal.c (x:book_journal):List AV:=[aP 2 book_disk.c x.disk,.int .i64 x.area,.int .i64 x.epoch,.int .i64 x.used,.sl 8 (List.map Record.c x.book.Records),.int .i64 x.records]
structure R09_Deed where
  Kind:Int
  Record:(Vec 5 Int)
  Picks:(List Int)
def R09_Deed.c (x:R09_Deed):List AV:=[.int .i64 x.Kind]++(Vec.c (n:=5) eI x.Record++([.sl 1 (List.map eI x.Picks)]))
structure R09_Act where
  Kind:Int
  House:Int
  To:Int
  Record:(Vec 5 Int)
  Picks:(List Int)
def R09_Act.c (x:R09_Act):List AV:=[.int .i64 x.Kind,.int .i64 x.House,.int .i64 x.To]++(Vec.c (n:=5) eI x.Record++([.sl 1 (List.map eI x.Picks)]))
structure House where
  Me:Int
  Disk:Disk
  Ledger:Ledger
  Known:(Vec 6 (Vec 6 Int))
def House.c (x:House):List AV:=[.int .i64 x.Me,.sl 64 (List.map (Vec.c (n:=2) (Vec.c (n:=32) eU8)) x.Disk.Pages),.sl 65 (List.map Write.c x.Disk.Wait),.sl 8 (List.map Record.c x.Ledger.Book.Records),.int .i64 x.Ledger.Area,.int .i64 x.Ledger.Epoch,.int .i64 x.Ledger.Used]++(Vec.c (n:=6) (Vec.c (n:=6) eI) x.Known)
structure Slip where
  From:Int
  To:Int
  Have:(Vec 6 Int)
  Records:(List Record)
def Slip.c (x:Slip):List AV:=[.int .i64 x.From,.int .i64 x.To]++(Vec.c (n:=6) eI x.Have++([.sl 8 (List.map Record.c x.Records)]))
structure R09_Spot where
  Page:Int
  Side:Int
  At:Int
  Byte:Int
def R09_Spot.c (x:R09_Spot):List AV:=[.int .i64 x.Page,.int .i64 x.Side,.int .i64 x.At,.int .i64 x.Byte]
structure L09_Disk where
  Deeds:(List R09_Deed)
  Spots:(List R09_Spot)
  Cut:Int
  Short:Bool
def L09_Disk.c (x:L09_Disk):List AV:=[.sl 7 (List.map R09_Deed.c x.Deeds),.sl 4 (List.map R09_Spot.c x.Spots),.int .i64 x.Cut,.bool x.Short]
structure L09_Change where
  Which:Int
  By:Int
  Record:Record
def L09_Change.c (x:L09_Change):List AV:=[.int .i64 x.Which,.int .i64 x.By,.int .i64 x.Record.At.House,.int .i64 x.Record.At.No,.int .i64 x.Record.Kind,.int .i64 x.Record.Day,.int .i64 x.Record.Known,.int .i64 x.Record.Of.House,.int .i64 x.Record.Of.No,.str x.Record.Text]
structure R09_Area where
  Epoch:Int
  Records:(List Record)
  Used:Int
def R09_Area.c (x:R09_Area):List AV:=[.int .i64 x.Epoch,.sl 8 (List.map Record.c x.Records),.int .i64 x.Used]
def TL:List (Nat×TI):=[
  (1,⟨1,8,[.fnil],.func,0,0,false,[],[],false,[]⟩),
  (3,⟨1,8,[.int .i64 0],.int .i64,0,0,false,[],[],true,[]⟩),
  (4,⟨1,1,[.bool false],.bool,0,0,false,[],[],true,[]⟩),
  (5,⟨1,1,[.int .u8 0],.int .u8,0,0,false,[],[],true,[]⟩),
  (9,⟨1,16,[.str ByteArray.empty],.str,0,0,false,[],[],true,[]⟩),
  (20,⟨1,16,[.inil],.iface,0,0,false,[],[],false,[]⟩),
  (23,⟨2,16,[.int .i64 0,.int .i64 0],.struct,0,0,false,[],[(0,1,false),(1,1,false)],true,[]⟩),
  (25,⟨8,72,[.int .i64 0,.int .i64 0,.int .i64 0,.int .i64 0,.int .i64 0,.int .i64 0,.int .i64 0,.str ByteArray.empty],.struct,0,0,false,[],[(0,2,true),(2,1,false),(3,1,false),(4,1,false),(5,2,true),(7,1,false)],true,[]⟩),
  (27,⟨1,24,[.nil],.slice 122,32,32,true,Vec.c (n:=32) eU8 (Vec.rep 32 (0:Int)),[],false,[(0,122,32)]⟩),
  (28,⟨1,8,[.int .i64 0],.int .i64,0,0,false,[],[],true,[]⟩),
  (33,⟨1,24,[.nil],.slice 81,7,72,true,[.int .i64 0]++(Vec.c (n:=5) eI (Vec.rep 5 (0:Int))++([.nil])),[],false,[(0,81,7)]⟩),
  (36,⟨4,64,[.nil,.nil,.int .i64 0,.bool false],.struct,0,0,false,[],[(0,1,false),(1,1,false),(2,1,false),(3,1,false)],false,[(0,81,7),(1,190,4)]⟩),
  (38,⟨10,88,[.int .i64 0,.int .i64 0,.int .i64 0,.int .i64 0,.int .i64 0,.int .i64 0,.int .i64 0,.int .i64 0,.int .i64 0,.str ByteArray.empty],.struct,0,0,false,[],[(0,1,false),(1,1,false),(2,8,true)],true,[]⟩),
  (39,⟨1,24,[.nil],.slice 139,64,64,true,Vec.c (n:=2) (Vec.c (n:=32) eU8) (Vec.rep 2 ((Vec.rep 32 (0:Int)):(Vec 32 Int))),[],false,[(0,139,64)]⟩),
  (40,⟨1,24,[.nil],.slice 141,65,72,true,[.int .i64 0]++(Vec.c (n:=2) (Vec.c (n:=32) eU8) (Vec.rep 2 ((Vec.rep 32 (0:Int)):(Vec 32 Int)))),[],false,[(0,141,65)]⟩),
  (42,⟨2,48,[.nil,.nil],.struct,0,0,false,[],[(0,1,false),(1,1,false)],false,[(0,139,64),(1,141,65)]⟩),
  (44,⟨1,24,[.nil],.slice 25,8,72,true,[.int .i64 0,.int .i64 0,.int .i64 0,.int .i64 0,.int .i64 0,.int .i64 0,.int .i64 0,.str ByteArray.empty],[],false,[(0,25,8)]⟩),
  (46,⟨1,24,[.nil],.struct,0,0,false,[],[(0,1,false)],false,[(0,25,8)]⟩),
  (48,⟨4,48,[.nil,.int .i64 0,.int .i64 0,.int .i64 0],.struct,0,0,false,[],[(0,1,true),(1,1,false),(2,1,false),(3,1,false)],false,[(0,25,8)]⟩),
  (56,⟨1,24,[.nil],.slice 5,1,1,false,[.int .u8 0],[],false,[(0,5,1)]⟩),
  (63,⟨1,24,[.nil],.slice 3,1,8,false,[.int .i64 0],[],false,[(0,3,1)]⟩),
  (68,⟨1,24,[.nil],.slice 79,5,40,true,Vec.c (n:=5) eI (Vec.rep 5 (0:Int)),[],false,[(0,79,5)]⟩),
  (69,⟨4,32,Vec.c (n:=4) eI (Vec.rep 4 (0:Int)),.array 4 3,1,8,false,[.int .i64 0],[],true,[]⟩),
  (79,⟨5,40,Vec.c (n:=5) eI (Vec.rep 5 (0:Int)),.array 5 3,1,8,false,[.int .i64 0],[],true,[]⟩),
  (81,⟨7,72,[.int .i64 0]++(Vec.c (n:=5) eI (Vec.rep 5 (0:Int))++([.nil])),.struct,0,0,false,[],[(0,1,false),(1,5,true),(6,1,false)],false,[(6,3,1)]⟩),
  (82,⟨1,24,[.nil],.slice 42,2,48,true,[.nil,.nil],[],false,[(0,42,2)]⟩),
  (95,⟨6,48,Vec.c (n:=6) eI (Vec.rep 6 (0:Int)),.array 6 3,1,8,false,[.int .i64 0],[],true,[]⟩),
  (104,⟨1,24,[.nil],.slice 179,9,88,true,[.int .i64 0,.int .i64 0,.int .i64 0]++(Vec.c (n:=5) eI (Vec.rep 5 (0:Int))++([.nil])),[],false,[(0,179,9)]⟩),
  (105,⟨36,288,Vec.c (n:=6) (Vec.c (n:=6) eI) (Vec.rep 6 ((Vec.rep 6 (0:Int)):(Vec 6 Int))),.array 6 95,6,48,true,Vec.c (n:=6) eI (Vec.rep 6 (0:Int)),[],true,[]⟩),
  (107,⟨43,392,[.int .i64 0,.nil,.nil,.nil,.int .i64 0,.int .i64 0,.int .i64 0]++(Vec.c (n:=6) (Vec.c (n:=6) eI) (Vec.rep 6 ((Vec.rep 6 (0:Int)):(Vec 6 Int)))),.struct,0,0,false,[],[(0,1,false),(1,2,true),(3,4,true),(7,36,true)],false,[(1,139,64),(2,141,65),(3,25,8)]⟩),
  (108,⟨129,1176,Vec.c (n:=3) House.c (Vec.rep 3 ((⟨0,(⟨[],[]⟩:Disk),(⟨(⟨[]⟩:Book),0,0,0⟩:Ledger),(Vec.rep 6 ((Vec.rep 6 (0:Int)):(Vec 6 Int)))⟩:House):House)),.array 3 107,43,392,true,[.int .i64 0,.nil,.nil,.nil,.int .i64 0,.int .i64 0,.int .i64 0]++(Vec.c (n:=6) (Vec.c (n:=6) eI) (Vec.rep 6 ((Vec.rep 6 (0:Int)):(Vec 6 Int)))),[],false,[]⟩),
  (109,⟨1,24,[.nil],.slice 116,9,88,true,[.int .i64 0,.int .i64 0]++(Vec.c (n:=6) eI (Vec.rep 6 (0:Int))++([.nil])),[],false,[(0,116,9)]⟩),
  (116,⟨9,88,[.int .i64 0,.int .i64 0]++(Vec.c (n:=6) eI (Vec.rep 6 (0:Int))++([.nil])),.struct,0,0,false,[],[(0,1,false),(1,1,false),(2,6,true),(8,1,false)],false,[(8,25,8)]⟩),
  (122,⟨32,32,Vec.c (n:=32) eU8 (Vec.rep 32 (0:Int)),.array 32 5,1,1,false,[.int .u8 0],[],true,[]⟩),
  (124,⟨1,24,[.nil],.slice 126,32,32,true,Vec.c (n:=32) eU8 (Vec.rep 32 (0:Int)),[],false,[(0,126,32)]⟩),
  (126,⟨32,32,Vec.c (n:=32) eU8 (Vec.rep 32 (0:Int)),.array 32 5,1,1,false,[.int .u8 0],[],true,[]⟩),
  (130,⟨1,8,[.pnil],.ptr 134,0,0,false,[],[],false,[]⟩),
  (134,⟨2,48,[.nil,.nil],.struct,0,0,false,[],[(0,2,true)],false,[(0,139,64),(1,141,65)]⟩),
  (139,⟨64,64,Vec.c (n:=2) (Vec.c (n:=32) eU8) (Vec.rep 2 ((Vec.rep 32 (0:Int)):(Vec 32 Int))),.array 2 122,32,32,true,Vec.c (n:=32) eU8 (Vec.rep 32 (0:Int)),[],true,[]⟩),
  (141,⟨65,72,[.int .i64 0]++(Vec.c (n:=2) (Vec.c (n:=32) eU8) (Vec.rep 2 ((Vec.rep 32 (0:Int)):(Vec 32 Int)))),.struct,0,0,false,[],[(0,1,false),(1,64,true)],true,[]⟩),
  (145,⟨6,64,[.pnil,.int .i64 0,.int .i64 0,.int .i64 0,.nil,.int .i64 0],.struct,0,0,false,[],[(0,1,false),(1,1,false),(2,1,false),(3,1,false),(4,1,true),(5,1,false)],false,[(4,25,8)]⟩),
  (150,⟨3,40,[.int .i64 0,.nil,.int .i64 0],.struct,0,0,false,[],[(0,1,false),(1,1,false),(2,1,false)],false,[(1,25,8)]⟩),
  (173,⟨1,24,[.nil],.slice 4,1,1,false,[.bool false],[],false,[(0,4,1)]⟩),
  (179,⟨9,88,[.int .i64 0,.int .i64 0,.int .i64 0]++(Vec.c (n:=5) eI (Vec.rep 5 (0:Int))++([.nil])),.struct,0,0,false,[],[(0,1,false),(1,1,false),(2,1,false),(3,5,true),(8,1,false)],false,[(8,3,1)]⟩),
  (182,⟨1,24,[.nil],.slice 9,1,16,false,[.str ByteArray.empty],[],false,[(0,9,1)]⟩),
  (201,⟨2,16,Vec.c (n:=2) eI (Vec.rep 2 (0:Int)),.array 2 3,1,8,false,[.int .i64 0],[],true,[]⟩),
  (202,⟨1,24,[.nil],.slice 201,2,16,true,Vec.c (n:=2) eI (Vec.rep 2 (0:Int)),[],false,[(0,201,2)]⟩),
  (204,⟨0,0,[],.struct,0,0,false,[],[],true,[]⟩),
  (206,⟨1,8,[.pnil],.ptr 208,0,0,false,[],[],false,[]⟩),
  (208,⟨1,24,[.nil],.struct,0,0,false,[],[(0,1,false)],false,[(0,5,1)]⟩),
  (211,⟨1,8,[.int .u64 0],.int .u64,0,0,false,[],[],true,[]⟩),
  (224,⟨1,8,[.fnil],.func,0,0,false,[],[],false,[]⟩)]
def T:Tys:=look TL
theorem Za9:ZaL Try.prog T:=Zrf _ _ (by decide +kernel)
theorem Zau:Try.prog.follows .mixedOrders=true:=by rfl
theorem T_1:T 1=some ⟨1,8,[.fnil],.func,0,0,false,[],[],false,[]⟩:=rfl
theorem T_3:T 3=some ⟨1,8,[.int .i64 0],.int .i64,0,0,false,[],[],true,[]⟩:=rfl
theorem T_4:T 4=some ⟨1,1,[.bool false],.bool,0,0,false,[],[],true,[]⟩:=rfl
theorem T_5:T 5=some ⟨1,1,[.int .u8 0],.int .u8,0,0,false,[],[],true,[]⟩:=rfl
theorem T_9:T 9=some ⟨1,16,[.str ByteArray.empty],.str,0,0,false,[],[],true,[]⟩:=rfl
theorem Zv8:T 20=some ⟨1,16,[.inil],.iface,0,0,false,[],[],false,[]⟩:=rfl
theorem Zv9:T 23=some ⟨2,16,[.int .i64 0,.int .i64 0],.struct,0,0,false,[],[(0,1,false),(1,1,false)],true,[]⟩:=rfl
theorem ZvA:T 25=some ⟨8,72,[.int .i64 0,.int .i64 0,.int .i64 0,.int .i64 0,.int .i64 0,.int .i64 0,.int .i64 0,.str ByteArray.empty],.struct,0,0,false,[],[(0,2,true),(2,1,false),(3,1,false),(4,1,false),(5,2,true),(7,1,false)],true,[]⟩:=rfl
theorem ZvB:T 27=some ⟨1,24,[.nil],.slice 122,32,32,true,Vec.c (n:=32) eU8 (Vec.rep 32 (0:Int)),[],false,[(0,122,32)]⟩:=rfl
theorem ZvC:T 28=some ⟨1,8,[.int .i64 0],.int .i64,0,0,false,[],[],true,[]⟩:=rfl
theorem ZvD:T 33=some ⟨1,24,[.nil],.slice 81,7,72,true,[.int .i64 0]++(Vec.c (n:=5) eI (Vec.rep 5 (0:Int))++([.nil])),[],false,[(0,81,7)]⟩:=rfl
theorem ZvE:T 36=some ⟨4,64,[.nil,.nil,.int .i64 0,.bool false],.struct,0,0,false,[],[(0,1,false),(1,1,false),(2,1,false),(3,1,false)],false,[(0,81,7),(1,190,4)]⟩:=rfl
theorem ZvF:T 38=some ⟨10,88,[.int .i64 0,.int .i64 0,.int .i64 0,.int .i64 0,.int .i64 0,.int .i64 0,.int .i64 0,.int .i64 0,.int .i64 0,.str ByteArray.empty],.struct,0,0,false,[],[(0,1,false),(1,1,false),(2,8,true)],true,[]⟩:=rfl
theorem ZvG:T 39=some ⟨1,24,[.nil],.slice 139,64,64,true,Vec.c (n:=2) (Vec.c (n:=32) eU8) (Vec.rep 2 ((Vec.rep 32 (0:Int)):(Vec 32 Int))),[],false,[(0,139,64)]⟩:=rfl
theorem ZvH:T 40=some ⟨1,24,[.nil],.slice 141,65,72,true,[.int .i64 0]++(Vec.c (n:=2) (Vec.c (n:=32) eU8) (Vec.rep 2 ((Vec.rep 32 (0:Int)):(Vec 32 Int)))),[],false,[(0,141,65)]⟩:=rfl
theorem ZvI:T 42=some ⟨2,48,[.nil,.nil],.struct,0,0,false,[],[(0,1,false),(1,1,false)],false,[(0,139,64),(1,141,65)]⟩:=rfl
theorem ZvJ:T 44=some ⟨1,24,[.nil],.slice 25,8,72,true,[.int .i64 0,.int .i64 0,.int .i64 0,.int .i64 0,.int .i64 0,.int .i64 0,.int .i64 0,.str ByteArray.empty],[],false,[(0,25,8)]⟩:=rfl
theorem ZvK:T 46=some ⟨1,24,[.nil],.struct,0,0,false,[],[(0,1,false)],false,[(0,25,8)]⟩:=rfl
theorem ZvL:T 48=some ⟨4,48,[.nil,.int .i64 0,.int .i64 0,.int .i64 0],.struct,0,0,false,[],[(0,1,true),(1,1,false),(2,1,false),(3,1,false)],false,[(0,25,8)]⟩:=rfl
theorem ZvM:T 56=some ⟨1,24,[.nil],.slice 5,1,1,false,[.int .u8 0],[],false,[(0,5,1)]⟩:=rfl
theorem ZvN:T 63=some ⟨1,24,[.nil],.slice 3,1,8,false,[.int .i64 0],[],false,[(0,3,1)]⟩:=rfl
theorem ZvO:T 68=some ⟨1,24,[.nil],.slice 79,5,40,true,Vec.c (n:=5) eI (Vec.rep 5 (0:Int)),[],false,[(0,79,5)]⟩:=rfl
theorem ZvP:T 69=some ⟨4,32,Vec.c (n:=4) eI (Vec.rep 4 (0:Int)),.array 4 3,1,8,false,[.int .i64 0],[],true,[]⟩:=rfl
theorem ZvQ:T 79=some ⟨5,40,Vec.c (n:=5) eI (Vec.rep 5 (0:Int)),.array 5 3,1,8,false,[.int .i64 0],[],true,[]⟩:=rfl
theorem ZvR:T 81=some ⟨7,72,[.int .i64 0]++(Vec.c (n:=5) eI (Vec.rep 5 (0:Int))++([.nil])),.struct,0,0,false,[],[(0,1,false),(1,5,true),(6,1,false)],false,[(6,3,1)]⟩:=rfl
theorem ZvS:T 82=some ⟨1,24,[.nil],.slice 42,2,48,true,[.nil,.nil],[],false,[(0,42,2)]⟩:=rfl
theorem ZvT:T 95=some ⟨6,48,Vec.c (n:=6) eI (Vec.rep 6 (0:Int)),.array 6 3,1,8,false,[.int .i64 0],[],true,[]⟩:=rfl
theorem ZuK:T 104=some ⟨1,24,[.nil],.slice 179,9,88,true,[.int .i64 0,.int .i64 0,.int .i64 0]++(Vec.c (n:=5) eI (Vec.rep 5 (0:Int))++([.nil])),[],false,[(0,179,9)]⟩:=rfl
theorem ZuL:T 105=some ⟨36,288,Vec.c (n:=6) (Vec.c (n:=6) eI) (Vec.rep 6 ((Vec.rep 6 (0:Int)):(Vec 6 Int))),.array 6 95,6,48,true,Vec.c (n:=6) eI (Vec.rep 6 (0:Int)),[],true,[]⟩:=rfl
theorem ZuM:T 107=some ⟨43,392,[.int .i64 0,.nil,.nil,.nil,.int .i64 0,.int .i64 0,.int .i64 0]++(Vec.c (n:=6) (Vec.c (n:=6) eI) (Vec.rep 6 ((Vec.rep 6 (0:Int)):(Vec 6 Int)))),.struct,0,0,false,[],[(0,1,false),(1,2,true),(3,4,true),(7,36,true)],false,[(1,139,64),(2,141,65),(3,25,8)]⟩:=rfl
theorem ZuN:T 108=some ⟨129,1176,Vec.c (n:=3) House.c (Vec.rep 3 ((⟨0,(⟨[],[]⟩:Disk),(⟨(⟨[]⟩:Book),0,0,0⟩:Ledger),(Vec.rep 6 ((Vec.rep 6 (0:Int)):(Vec 6 Int)))⟩:House):House)),.array 3 107,43,392,true,[.int .i64 0,.nil,.nil,.nil,.int .i64 0,.int .i64 0,.int .i64 0]++(Vec.c (n:=6) (Vec.c (n:=6) eI) (Vec.rep 6 ((Vec.rep 6 (0:Int)):(Vec 6 Int)))),[],false,[]⟩:=rfl
theorem ZuO:T 109=some ⟨1,24,[.nil],.slice 116,9,88,true,[.int .i64 0,.int .i64 0]++(Vec.c (n:=6) eI (Vec.rep 6 (0:Int))++([.nil])),[],false,[(0,116,9)]⟩:=rfl
theorem ZuP:T 116=some ⟨9,88,[.int .i64 0,.int .i64 0]++(Vec.c (n:=6) eI (Vec.rep 6 (0:Int))++([.nil])),.struct,0,0,false,[],[(0,1,false),(1,1,false),(2,6,true),(8,1,false)],false,[(8,25,8)]⟩:=rfl
theorem ZuQ:T 122=some ⟨32,32,Vec.c (n:=32) eU8 (Vec.rep 32 (0:Int)),.array 32 5,1,1,false,[.int .u8 0],[],true,[]⟩:=rfl
theorem ZuR:T 124=some ⟨1,24,[.nil],.slice 126,32,32,true,Vec.c (n:=32) eU8 (Vec.rep 32 (0:Int)),[],false,[(0,126,32)]⟩:=rfl
theorem ZuS:T 126=some ⟨32,32,Vec.c (n:=32) eU8 (Vec.rep 32 (0:Int)),.array 32 5,1,1,false,[.int .u8 0],[],true,[]⟩:=rfl
theorem ZuT:T 130=some ⟨1,8,[.pnil],.ptr 134,0,0,false,[],[],false,[]⟩:=rfl
theorem ZuU:T 134=some ⟨2,48,[.nil,.nil],.struct,0,0,false,[],[(0,2,true)],false,[(0,139,64),(1,141,65)]⟩:=rfl
theorem ZuV:T 139=some ⟨64,64,Vec.c (n:=2) (Vec.c (n:=32) eU8) (Vec.rep 2 ((Vec.rep 32 (0:Int)):(Vec 32 Int))),.array 2 122,32,32,true,Vec.c (n:=32) eU8 (Vec.rep 32 (0:Int)),[],true,[]⟩:=rfl
theorem ZuW:T 141=some ⟨65,72,[.int .i64 0]++(Vec.c (n:=2) (Vec.c (n:=32) eU8) (Vec.rep 2 ((Vec.rep 32 (0:Int)):(Vec 32 Int)))),.struct,0,0,false,[],[(0,1,false),(1,64,true)],true,[]⟩:=rfl
theorem ZuX:T 145=some ⟨6,64,[.pnil,.int .i64 0,.int .i64 0,.int .i64 0,.nil,.int .i64 0],.struct,0,0,false,[],[(0,1,false),(1,1,false),(2,1,false),(3,1,false),(4,1,true),(5,1,false)],false,[(4,25,8)]⟩:=rfl
theorem ZuY:T 150=some ⟨3,40,[.int .i64 0,.nil,.int .i64 0],.struct,0,0,false,[],[(0,1,false),(1,1,false),(2,1,false)],false,[(1,25,8)]⟩:=rfl
theorem ZuZ:T 173=some ⟨1,24,[.nil],.slice 4,1,1,false,[.bool false],[],false,[(0,4,1)]⟩:=rfl
theorem Zva:T 179=some ⟨9,88,[.int .i64 0,.int .i64 0,.int .i64 0]++(Vec.c (n:=5) eI (Vec.rep 5 (0:Int))++([.nil])),.struct,0,0,false,[],[(0,1,false),(1,1,false),(2,1,false),(3,5,true),(8,1,false)],false,[(8,3,1)]⟩:=rfl
theorem Zvb:T 182=some ⟨1,24,[.nil],.slice 9,1,16,false,[.str ByteArray.empty],[],false,[(0,9,1)]⟩:=rfl
theorem Zvc:T 201=some ⟨2,16,Vec.c (n:=2) eI (Vec.rep 2 (0:Int)),.array 2 3,1,8,false,[.int .i64 0],[],true,[]⟩:=rfl
theorem Zvd:T 202=some ⟨1,24,[.nil],.slice 201,2,16,true,Vec.c (n:=2) eI (Vec.rep 2 (0:Int)),[],false,[(0,201,2)]⟩:=rfl
theorem Zve:T 204=some ⟨0,0,[],.struct,0,0,false,[],[],true,[]⟩:=rfl
theorem Zvf:T 206=some ⟨1,8,[.pnil],.ptr 208,0,0,false,[],[],false,[]⟩:=rfl
theorem Zvg:T 208=some ⟨1,24,[.nil],.struct,0,0,false,[],[(0,1,false)],false,[(0,5,1)]⟩:=rfl
theorem Zvh:T 211=some ⟨1,8,[.int .u64 0],.int .u64,0,0,false,[],[],true,[]⟩:=rfl
theorem Zvi:T 224=some ⟨1,8,[.fnil],.func,0,0,false,[],[],false,[]⟩:=rfl
attribute [go_sem] T_1 T_3 T_4 T_5 T_9 Zv8 Zv9 ZvA ZvB ZvC ZvD ZvE ZvF ZvG ZvH ZvI ZvJ ZvK ZvL ZvM ZvN ZvO ZvP ZvQ ZvR ZvS ZvT ZuK ZuL ZuM ZuN ZuO ZuP ZuQ ZuR ZuS ZuT ZuU ZuV ZuW ZuX ZuY ZuZ Zva Zvb Zvc Zvd Zve Zvf Zvg Zvh Zvi
theorem Zle:VK 8 Record.c:=⟨fun x=>rfl,fun x=>⟨fun _=>rfl,fun _=>rfl,fun _ _=>rfl,rfl,fun _=>rfl,fun _=>rfl,fun _=>rfl⟩⟩
theorem Zde:VK 43 House.c:=⟨fun x=>by simp[House.c,(VK.vec Zbj _).len,(VK.vec Zar _).len,(VK.vec (VK.vec Zar _) _).len,(VK.vec (VK.vec Zbj _) _).len,Vec.len Zbj.len,Vec.len Zar.len,Vec.len (VK.vec Zar _).len,Vec.len (VK.vec Zbj _).len],fun x=>(Ice.append ⟨fun _=>rfl,fun _=>rfl,fun _ _=>rfl,rfl,fun _=>rfl,fun _=>rfl,fun _=>rfl⟩ ((VK.vec (VK.vec Zbj 6) 6).ice _))⟩
theorem ZbG (v:(Vec 2 Int)):(Vec.c (n:=2) eI v).length=2:=(VK.vec Zbj 2).len v
theorem Zsq (v:(Vec 2 Int)):∀ d,AV.shL d (Vec.c (n:=2) eI v)=Vec.c (n:=2) eI v:=((VK.vec Zbj 2).ice v).sh
theorem ZpY (v:(Vec 2 Int)):∀ G,AV.frzL G (Vec.c (n:=2) eI v)=some (Vec.c (n:=2) eI v):=((VK.vec Zbj 2).ice v).frz
theorem Zsk (v:(Vec 2 Int)):∀ G F,AV.brL G F (Vec.c (n:=2) eI v)=some (Vec.c (n:=2) eI v):=((VK.vec Zbj 2).ice v).br
theorem Zos (v:(Vec 2 Int)):AV.refsL (Vec.c (n:=2) eI v)=[]:=((VK.vec Zbj 2).ice v).refs
theorem Zqa (v:(Vec 2 Int)):∀ k,AV.impL k (Vec.c (n:=2) eI v)=Vec.c (n:=2) eI v:=((VK.vec Zbj 2).ice v).imp
theorem Zqb (v:(Vec 2 Int)):∀ ks,AV.renL ks (Vec.c (n:=2) eI v)=some (Vec.c (n:=2) eI v):=((VK.vec Zbj 2).ice v).ren
theorem Zsr (v:(Vec 2 Int)):∀ d,AV.unL d (Vec.c (n:=2) eI v)=some (Vec.c (n:=2) eI v):=((VK.vec Zbj 2).ice v).un
theorem Zou (v:(Vec 2 Int)) (r:List AV):(Vec.c (n:=2) eI v++r).take 2=Vec.c (n:=2) eI v:=List.take_left' (ZbG v)
theorem ZmV (v:(Vec 2 Int)):(Vec.c (n:=2) eI v).take 2=Vec.c (n:=2) eI v:=List.take_of_length_le (Nat.le_of_eq (ZbG v))
theorem Zoo (v:(Vec 2 Int)) (r:List AV):(Vec.c (n:=2) eI v++r).drop 2=r:=List.drop_left' (ZbG v)
theorem ZmT (v:(Vec 2 Int)):(Vec.c (n:=2) eI v).drop 2=[]:=List.drop_eq_nil_of_le (Nat.le_of_eq (ZbG v))
theorem Zoq (v:(Vec 2 Int)) (k:Nat) (b:Blk):AV.fzL k b (Vec.c (n:=2) eI v)=some (Vec.c (n:=2) eI v):=Zh0 (fun _=>rfl) v
theorem ZpZ (v:(Vec 2 Int)) (k:Nat) (b:Blk) (r:List AV):AV.fzL k b (Vec.c (n:=2) eI v++r)=(AV.fzL k b r).map (Vec.c (n:=2) eI v++·):=Zfk (Zoq v k b) r
theorem Zop (v:(Vec 2 Int)) (G:Get) (r:List AV):AV.frzL G (Vec.c (n:=2) eI v++r)=(AV.frzL G r).map (Vec.c (n:=2) eI v++·):=ZdX ((VK.vec Zbj 2).ice v) G r
theorem Zot (v:(Vec 2 Int)) (ks:List Nat) (r:List AV):AV.renL ks (Vec.c (n:=2) eI v++r)=(AV.renL ks r).map (Vec.c (n:=2) eI v++·):=Zea ((VK.vec Zbj 2).ice v) ks r
theorem Zor (v:(Vec 2 Int)) (r:List AV):(Vec.c (n:=2) eI v++r).length=2+r.length:=by rw[List.length_append,ZbG]
theorem ZpX (v:(Vec 2 Int)) (r q:List AV):Vec.c (n:=2) eI v++r++q=Vec.c (n:=2) eI v++(r++q):=List.append_assoc _ _ _
theorem ZmU (v:(Vec 2 Int)) (r:List AV):(Vec.c (n:=2) eI v++r).drop 3=r.drop 1:=by rw[show 3=(Vec.c (n:=2) eI v).length+1 from by rw[ZbG],List.drop_append,List.drop_of_length_le (by omega),Nat.add_sub_cancel_left];rfl
theorem ZmW (v:(Vec 2 Int)) (r:List AV):(Vec.c (n:=2) eI v++r).take 3=Vec.c (n:=2) eI v++r.take 1:=by rw[show 3=(Vec.c (n:=2) eI v).length+1 from by rw[ZbG],List.take_append,List.take_of_length_le (by omega),Nat.add_sub_cancel_left]
theorem Zsm (v:(Vec 2 Int)) (r:List AV):(Vec.c (n:=2) eI v++r)[2]?=r[0]?:=by rw[List.getElem?_append_right (by rw[ZbG];decide),ZbG]
theorem Zso (v:(Vec 2 Int)) (r:List AV) (x:AV):(Vec.c (n:=2) eI v++r).set 2 x=Vec.c (n:=2) eI v++r.set 0 x:=by rw[List.set_append_right _ _ (by rw[ZbG];decide),ZbG]
theorem Zsn (v:(Vec 2 Int)) (r:List AV):(Vec.c (n:=2) eI v++r)[3]?=r[1]?:=by rw[List.getElem?_append_right (by rw[ZbG];decide),ZbG]
theorem Zsp (v:(Vec 2 Int)) (r:List AV) (x:AV):(Vec.c (n:=2) eI v++r).set 3 x=Vec.c (n:=2) eI v++r.set 1 x:=by rw[List.set_append_right _ _ (by rw[ZbG];decide),ZbG]
theorem Zsl (a b:(Vec 2 Int)):Zav (Vec.c (n:=2) eI (Vec.rep 2 (0:Int))) (Vec.c (n:=2) eI a) (Vec.c (n:=2) eI b)=some ((Vec.eq (fun(x y:Int)=>decide (x=y))) a b):=Zc1 Zbj.len (fun x y=>by simp[Zav,ZcH,eI,eU8,eB,eS]) a b
attribute [go_sem] ZbG Zsq ZpY Zsk Zos Zqa Zqb Zsr Zou ZmV Zoo ZmT Zor Zot Zop Zoq ZpZ ZpX ZmU ZmW Zsm Zso Zsn Zsp Zsl
theorem Zcm (v:(Vec 4 Int)):(Vec.c (n:=4) eI v).length=4:=(VK.vec Zbj 4).len v
theorem ZtK (v:(Vec 4 Int)):∀ d,AV.shL d (Vec.c (n:=4) eI v)=Vec.c (n:=4) eI v:=((VK.vec Zbj 4).ice v).sh
theorem Zst (v:(Vec 4 Int)):∀ G,AV.frzL G (Vec.c (n:=4) eI v)=some (Vec.c (n:=4) eI v):=((VK.vec Zbj 4).ice v).frz
theorem ZtE (v:(Vec 4 Int)):∀ G F,AV.brL G F (Vec.c (n:=4) eI v)=some (Vec.c (n:=4) eI v):=((VK.vec Zbj 4).ice v).br
theorem Zqf (v:(Vec 4 Int)):AV.refsL (Vec.c (n:=4) eI v)=[]:=((VK.vec Zbj 4).ice v).refs
theorem Zsv (v:(Vec 4 Int)):∀ k,AV.impL k (Vec.c (n:=4) eI v)=Vec.c (n:=4) eI v:=((VK.vec Zbj 4).ice v).imp
theorem Zsw (v:(Vec 4 Int)):∀ ks,AV.renL ks (Vec.c (n:=4) eI v)=some (Vec.c (n:=4) eI v):=((VK.vec Zbj 4).ice v).ren
theorem ZtL (v:(Vec 4 Int)):∀ d,AV.unL d (Vec.c (n:=4) eI v)=some (Vec.c (n:=4) eI v):=((VK.vec Zbj 4).ice v).un
theorem Zqh (v:(Vec 4 Int)) (r:List AV):(Vec.c (n:=4) eI v++r).take 4=Vec.c (n:=4) eI v:=List.take_left' (Zcm v)
theorem Zox (v:(Vec 4 Int)):(Vec.c (n:=4) eI v).take 4=Vec.c (n:=4) eI v:=List.take_of_length_le (Nat.le_of_eq (Zcm v))
theorem Zqc (v:(Vec 4 Int)) (r:List AV):(Vec.c (n:=4) eI v++r).drop 4=r:=List.drop_left' (Zcm v)
theorem Zov (v:(Vec 4 Int)):(Vec.c (n:=4) eI v).drop 4=[]:=List.drop_eq_nil_of_le (Nat.le_of_eq (Zcm v))
theorem Zrr (v:(Vec 4 Int)) (k:Nat) (b:Blk):AV.fzL k b (Vec.c (n:=4) eI v)=some (Vec.c (n:=4) eI v):=Zh0 (fun _=>rfl) v
theorem Zsu (v:(Vec 4 Int)) (k:Nat) (b:Blk) (r:List AV):AV.fzL k b (Vec.c (n:=4) eI v++r)=(AV.fzL k b r).map (Vec.c (n:=4) eI v++·):=Zfk (Zrr v k b) r
theorem Zqd (v:(Vec 4 Int)) (G:Get) (r:List AV):AV.frzL G (Vec.c (n:=4) eI v++r)=(AV.frzL G r).map (Vec.c (n:=4) eI v++·):=ZdX ((VK.vec Zbj 4).ice v) G r
theorem Zqg (v:(Vec 4 Int)) (ks:List Nat) (r:List AV):AV.renL ks (Vec.c (n:=4) eI v++r)=(AV.renL ks r).map (Vec.c (n:=4) eI v++·):=Zea ((VK.vec Zbj 4).ice v) ks r
theorem Zqe (v:(Vec 4 Int)) (r:List AV):(Vec.c (n:=4) eI v++r).length=4+r.length:=by rw[List.length_append,Zcm]
theorem Zss (v:(Vec 4 Int)) (r q:List AV):Vec.c (n:=4) eI v++r++q=Vec.c (n:=4) eI v++(r++q):=List.append_assoc _ _ _
theorem Zow (v:(Vec 4 Int)) (r:List AV):(Vec.c (n:=4) eI v++r).drop 5=r.drop 1:=by rw[show 5=(Vec.c (n:=4) eI v).length+1 from by rw[Zcm],List.drop_append,List.drop_of_length_le (by omega),Nat.add_sub_cancel_left];rfl
theorem Zoy (v:(Vec 4 Int)) (r:List AV):(Vec.c (n:=4) eI v++r).take 5=Vec.c (n:=4) eI v++r.take 1:=by rw[show 5=(Vec.c (n:=4) eI v).length+1 from by rw[Zcm],List.take_append,List.take_of_length_le (by omega),Nat.add_sub_cancel_left]
theorem ZtG (v:(Vec 4 Int)) (r:List AV):(Vec.c (n:=4) eI v++r)[4]?=r[0]?:=by rw[List.getElem?_append_right (by rw[Zcm];decide),Zcm]
theorem ZtI (v:(Vec 4 Int)) (r:List AV) (x:AV):(Vec.c (n:=4) eI v++r).set 4 x=Vec.c (n:=4) eI v++r.set 0 x:=by rw[List.set_append_right _ _ (by rw[Zcm];decide),Zcm]
theorem ZtH (v:(Vec 4 Int)) (r:List AV):(Vec.c (n:=4) eI v++r)[5]?=r[1]?:=by rw[List.getElem?_append_right (by rw[Zcm];decide),Zcm]
theorem ZtJ (v:(Vec 4 Int)) (r:List AV) (x:AV):(Vec.c (n:=4) eI v++r).set 5 x=Vec.c (n:=4) eI v++r.set 1 x:=by rw[List.set_append_right _ _ (by rw[Zcm];decide),Zcm]
theorem ZtF (a b:(Vec 4 Int)):Zav (Vec.c (n:=4) eI (Vec.rep 4 (0:Int))) (Vec.c (n:=4) eI a) (Vec.c (n:=4) eI b)=some ((Vec.eq (fun(x y:Int)=>decide (x=y))) a b):=Zc1 Zbj.len (fun x y=>by simp[Zav,ZcH,eI,eU8,eB,eS]) a b
attribute [go_sem] Zcm ZtK Zst ZtE Zqf Zsv Zsw ZtL Zqh Zox Zqc Zov Zqe Zqg Zqd Zrr Zsu Zss Zow Zoy ZtG ZtI ZtH ZtJ ZtF
theorem Zcn (v:(Vec 5 Int)):(Vec.c (n:=5) eI v).length=5:=(VK.vec Zbj 5).len v
theorem ZtS (v:(Vec 5 Int)):∀ d,AV.shL d (Vec.c (n:=5) eI v)=Vec.c (n:=5) eI v:=((VK.vec Zbj 5).ice v).sh
theorem Zsy (v:(Vec 5 Int)):∀ G,AV.frzL G (Vec.c (n:=5) eI v)=some (Vec.c (n:=5) eI v):=((VK.vec Zbj 5).ice v).frz
theorem ZtM (v:(Vec 5 Int)):∀ G F,AV.brL G F (Vec.c (n:=5) eI v)=some (Vec.c (n:=5) eI v):=((VK.vec Zbj 5).ice v).br
theorem Zql (v:(Vec 5 Int)):AV.refsL (Vec.c (n:=5) eI v)=[]:=((VK.vec Zbj 5).ice v).refs
theorem Zs0 (v:(Vec 5 Int)):∀ k,AV.impL k (Vec.c (n:=5) eI v)=Vec.c (n:=5) eI v:=((VK.vec Zbj 5).ice v).imp
theorem Zs1 (v:(Vec 5 Int)):∀ ks,AV.renL ks (Vec.c (n:=5) eI v)=some (Vec.c (n:=5) eI v):=((VK.vec Zbj 5).ice v).ren
theorem ZtT (v:(Vec 5 Int)):∀ d,AV.unL d (Vec.c (n:=5) eI v)=some (Vec.c (n:=5) eI v):=((VK.vec Zbj 5).ice v).un
theorem Zqn (v:(Vec 5 Int)) (r:List AV):(Vec.c (n:=5) eI v++r).take 5=Vec.c (n:=5) eI v:=List.take_left' (Zcn v)
theorem Zo1 (v:(Vec 5 Int)):(Vec.c (n:=5) eI v).take 5=Vec.c (n:=5) eI v:=List.take_of_length_le (Nat.le_of_eq (Zcn v))
theorem Zqi (v:(Vec 5 Int)) (r:List AV):(Vec.c (n:=5) eI v++r).drop 5=r:=List.drop_left' (Zcn v)
theorem Zoz (v:(Vec 5 Int)):(Vec.c (n:=5) eI v).drop 5=[]:=List.drop_eq_nil_of_le (Nat.le_of_eq (Zcn v))
theorem Zrs (v:(Vec 5 Int)) (k:Nat) (b:Blk):AV.fzL k b (Vec.c (n:=5) eI v)=some (Vec.c (n:=5) eI v):=Zh0 (fun _=>rfl) v
theorem Zsz (v:(Vec 5 Int)) (k:Nat) (b:Blk) (r:List AV):AV.fzL k b (Vec.c (n:=5) eI v++r)=(AV.fzL k b r).map (Vec.c (n:=5) eI v++·):=Zfk (Zrs v k b) r
theorem Zqj (v:(Vec 5 Int)) (G:Get) (r:List AV):AV.frzL G (Vec.c (n:=5) eI v++r)=(AV.frzL G r).map (Vec.c (n:=5) eI v++·):=ZdX ((VK.vec Zbj 5).ice v) G r
theorem Zqm (v:(Vec 5 Int)) (ks:List Nat) (r:List AV):AV.renL ks (Vec.c (n:=5) eI v++r)=(AV.renL ks r).map (Vec.c (n:=5) eI v++·):=Zea ((VK.vec Zbj 5).ice v) ks r
theorem Zqk (v:(Vec 5 Int)) (r:List AV):(Vec.c (n:=5) eI v++r).length=5+r.length:=by rw[List.length_append,Zcn]
theorem Zsx (v:(Vec 5 Int)) (r q:List AV):Vec.c (n:=5) eI v++r++q=Vec.c (n:=5) eI v++(r++q):=List.append_assoc _ _ _
theorem Zo0 (v:(Vec 5 Int)) (r:List AV):(Vec.c (n:=5) eI v++r).drop 6=r.drop 1:=by rw[show 6=(Vec.c (n:=5) eI v).length+1 from by rw[Zcn],List.drop_append,List.drop_of_length_le (by omega),Nat.add_sub_cancel_left];rfl
theorem Zo2 (v:(Vec 5 Int)) (r:List AV):(Vec.c (n:=5) eI v++r).take 6=Vec.c (n:=5) eI v++r.take 1:=by rw[show 6=(Vec.c (n:=5) eI v).length+1 from by rw[Zcn],List.take_append,List.take_of_length_le (by omega),Nat.add_sub_cancel_left]
theorem ZtO (v:(Vec 5 Int)) (r:List AV):(Vec.c (n:=5) eI v++r)[5]?=r[0]?:=by rw[List.getElem?_append_right (by rw[Zcn];decide),Zcn]
theorem ZtQ (v:(Vec 5 Int)) (r:List AV) (x:AV):(Vec.c (n:=5) eI v++r).set 5 x=Vec.c (n:=5) eI v++r.set 0 x:=by rw[List.set_append_right _ _ (by rw[Zcn];decide),Zcn]
theorem ZtP (v:(Vec 5 Int)) (r:List AV):(Vec.c (n:=5) eI v++r)[6]?=r[1]?:=by rw[List.getElem?_append_right (by rw[Zcn];decide),Zcn]
theorem ZtR (v:(Vec 5 Int)) (r:List AV) (x:AV):(Vec.c (n:=5) eI v++r).set 6 x=Vec.c (n:=5) eI v++r.set 1 x:=by rw[List.set_append_right _ _ (by rw[Zcn];decide),Zcn]
theorem ZtN (a b:(Vec 5 Int)):Zav (Vec.c (n:=5) eI (Vec.rep 5 (0:Int))) (Vec.c (n:=5) eI a) (Vec.c (n:=5) eI b)=some ((Vec.eq (fun(x y:Int)=>decide (x=y))) a b):=Zc1 Zbj.len (fun x y=>by simp[Zav,ZcH,eI,eU8,eB,eS]) a b
attribute [go_sem] Zcn ZtS Zsy ZtM Zql Zs0 Zs1 ZtT Zqn Zo1 Zqi Zoz Zqk Zqm Zqj Zrs Zsz Zsx Zo0 Zo2 ZtO ZtQ ZtP ZtR ZtN
theorem Zco (v:(Vec 6 Int)):(Vec.c (n:=6) eI v).length=6:=(VK.vec Zbj 6).len v
theorem ZtZ (v:(Vec 6 Int)):∀ d,AV.shL d (Vec.c (n:=6) eI v)=Vec.c (n:=6) eI v:=((VK.vec Zbj 6).ice v).sh
theorem Zs3 (v:(Vec 6 Int)):∀ G,AV.frzL G (Vec.c (n:=6) eI v)=some (Vec.c (n:=6) eI v):=((VK.vec Zbj 6).ice v).frz
theorem ZtU (v:(Vec 6 Int)):∀ G F,AV.brL G F (Vec.c (n:=6) eI v)=some (Vec.c (n:=6) eI v):=((VK.vec Zbj 6).ice v).br
theorem Zqr (v:(Vec 6 Int)):AV.refsL (Vec.c (n:=6) eI v)=[]:=((VK.vec Zbj 6).ice v).refs
theorem Zs5 (v:(Vec 6 Int)):∀ k,AV.impL k (Vec.c (n:=6) eI v)=Vec.c (n:=6) eI v:=((VK.vec Zbj 6).ice v).imp
theorem Zs6 (v:(Vec 6 Int)):∀ ks,AV.renL ks (Vec.c (n:=6) eI v)=some (Vec.c (n:=6) eI v):=((VK.vec Zbj 6).ice v).ren
theorem Zua (v:(Vec 6 Int)):∀ d,AV.unL d (Vec.c (n:=6) eI v)=some (Vec.c (n:=6) eI v):=((VK.vec Zbj 6).ice v).un
theorem Zqt (v:(Vec 6 Int)) (r:List AV):(Vec.c (n:=6) eI v++r).take 6=Vec.c (n:=6) eI v:=List.take_left' (Zco v)
theorem Zo6 (v:(Vec 6 Int)):(Vec.c (n:=6) eI v).take 6=Vec.c (n:=6) eI v:=List.take_of_length_le (Nat.le_of_eq (Zco v))
theorem Zqo (v:(Vec 6 Int)) (r:List AV):(Vec.c (n:=6) eI v++r).drop 6=r:=List.drop_left' (Zco v)
theorem Zo3 (v:(Vec 6 Int)):(Vec.c (n:=6) eI v).drop 6=[]:=List.drop_eq_nil_of_le (Nat.le_of_eq (Zco v))
theorem Zo5 (v:(Vec 6 Int)) (k:Nat) (b:Blk):AV.fzL k b (Vec.c (n:=6) eI v)=some (Vec.c (n:=6) eI v):=Zh0 (fun _=>rfl) v
theorem Zs4 (v:(Vec 6 Int)) (k:Nat) (b:Blk) (r:List AV):AV.fzL k b (Vec.c (n:=6) eI v++r)=(AV.fzL k b r).map (Vec.c (n:=6) eI v++·):=Zfk (Zo5 v k b) r
theorem Zqp (v:(Vec 6 Int)) (G:Get) (r:List AV):AV.frzL G (Vec.c (n:=6) eI v++r)=(AV.frzL G r).map (Vec.c (n:=6) eI v++·):=ZdX ((VK.vec Zbj 6).ice v) G r
theorem Zqs (v:(Vec 6 Int)) (ks:List Nat) (r:List AV):AV.renL ks (Vec.c (n:=6) eI v++r)=(AV.renL ks r).map (Vec.c (n:=6) eI v++·):=Zea ((VK.vec Zbj 6).ice v) ks r
theorem Zqq (v:(Vec 6 Int)) (r:List AV):(Vec.c (n:=6) eI v++r).length=6+r.length:=by rw[List.length_append,Zco]
theorem Zs2 (v:(Vec 6 Int)) (r q:List AV):Vec.c (n:=6) eI v++r++q=Vec.c (n:=6) eI v++(r++q):=List.append_assoc _ _ _
theorem Zo4 (v:(Vec 6 Int)) (r:List AV):(Vec.c (n:=6) eI v++r).drop 7=r.drop 1:=by rw[show 7=(Vec.c (n:=6) eI v).length+1 from by rw[Zco],List.drop_append,List.drop_of_length_le (by omega),Nat.add_sub_cancel_left];rfl
theorem Zo7 (v:(Vec 6 Int)) (r:List AV):(Vec.c (n:=6) eI v++r).take 7=Vec.c (n:=6) eI v++r.take 1:=by rw[show 7=(Vec.c (n:=6) eI v).length+1 from by rw[Zco],List.take_append,List.take_of_length_le (by omega),Nat.add_sub_cancel_left]
theorem ZtV (v:(Vec 6 Int)) (r:List AV):(Vec.c (n:=6) eI v++r)[6]?=r[0]?:=by rw[List.getElem?_append_right (by rw[Zco];decide),Zco]
theorem ZtX (v:(Vec 6 Int)) (r:List AV) (x:AV):(Vec.c (n:=6) eI v++r).set 6 x=Vec.c (n:=6) eI v++r.set 0 x:=by rw[List.set_append_right _ _ (by rw[Zco];decide),Zco]
theorem ZtW (v:(Vec 6 Int)) (r:List AV):(Vec.c (n:=6) eI v++r)[7]?=r[1]?:=by rw[List.getElem?_append_right (by rw[Zco];decide),Zco]
theorem ZtY (v:(Vec 6 Int)) (r:List AV) (x:AV):(Vec.c (n:=6) eI v++r).set 7 x=Vec.c (n:=6) eI v++r.set 1 x:=by rw[List.set_append_right _ _ (by rw[Zco];decide),Zco]
theorem Zrt (a b:(Vec 6 Int)):Zav (Vec.c (n:=6) eI (Vec.rep 6 (0:Int))) (Vec.c (n:=6) eI a) (Vec.c (n:=6) eI b)=some ((Vec.eq (fun(x y:Int)=>decide (x=y))) a b):=Zc1 Zbj.len (fun x y=>by simp[Zav,ZcH,eI,eU8,eB,eS]) a b
attribute [go_sem] Zco ZtZ Zs3 ZtU Zqr Zs5 Zs6 Zua Zqt Zo6 Zqo Zo3 Zqq Zqs Zqp Zo5 Zs4 Zs2 Zo4 Zo7 ZtV ZtX ZtW ZtY Zrt
theorem ZbE (v:(Vec 32 Int)):(Vec.c (n:=32) eU8 v).length=32:=(VK.vec Zar 32).len v
theorem Zsa (v:(Vec 32 Int)):∀ d,AV.shL d (Vec.c (n:=32) eU8 v)=Vec.c (n:=32) eU8 v:=((VK.vec Zar 32).ice v).sh
theorem ZpO (v:(Vec 32 Int)):∀ G,AV.frzL G (Vec.c (n:=32) eU8 v)=some (Vec.c (n:=32) eU8 v):=((VK.vec Zar 32).ice v).frz
theorem ZrV (v:(Vec 32 Int)):∀ G F,AV.brL G F (Vec.c (n:=32) eU8 v)=some (Vec.c (n:=32) eU8 v):=((VK.vec Zar 32).ice v).br
theorem Zoe (v:(Vec 32 Int)):AV.refsL (Vec.c (n:=32) eU8 v)=[]:=((VK.vec Zar 32).ice v).refs
theorem ZpQ (v:(Vec 32 Int)):∀ k,AV.impL k (Vec.c (n:=32) eU8 v)=Vec.c (n:=32) eU8 v:=((VK.vec Zar 32).ice v).imp
theorem ZpR (v:(Vec 32 Int)):∀ ks,AV.renL ks (Vec.c (n:=32) eU8 v)=some (Vec.c (n:=32) eU8 v):=((VK.vec Zar 32).ice v).ren
theorem Zsb (v:(Vec 32 Int)):∀ d,AV.unL d (Vec.c (n:=32) eU8 v)=some (Vec.c (n:=32) eU8 v):=((VK.vec Zar 32).ice v).un
theorem Zog (v:(Vec 32 Int)) (r:List AV):(Vec.c (n:=32) eU8 v++r).take 32=Vec.c (n:=32) eU8 v:=List.take_left' (ZbE v)
theorem ZmN (v:(Vec 32 Int)):(Vec.c (n:=32) eU8 v).take 32=Vec.c (n:=32) eU8 v:=List.take_of_length_le (Nat.le_of_eq (ZbE v))
theorem Zoa (v:(Vec 32 Int)) (r:List AV):(Vec.c (n:=32) eU8 v++r).drop 32=r:=List.drop_left' (ZbE v)
theorem ZmL (v:(Vec 32 Int)):(Vec.c (n:=32) eU8 v).drop 32=[]:=List.drop_eq_nil_of_le (Nat.le_of_eq (ZbE v))
theorem Zlr (v:(Vec 32 Int)) (k:Nat) (b:Blk):AV.fzL k b (Vec.c (n:=32) eU8 v)=some (Vec.c (n:=32) eU8 v):=Zh0 (fun _=>rfl) v
theorem ZpP (v:(Vec 32 Int)) (k:Nat) (b:Blk) (r:List AV):AV.fzL k b (Vec.c (n:=32) eU8 v++r)=(AV.fzL k b r).map (Vec.c (n:=32) eU8 v++·):=Zfk (Zlr v k b) r
theorem Zoc (v:(Vec 32 Int)) (G:Get) (r:List AV):AV.frzL G (Vec.c (n:=32) eU8 v++r)=(AV.frzL G r).map (Vec.c (n:=32) eU8 v++·):=ZdX ((VK.vec Zar 32).ice v) G r
theorem Zof (v:(Vec 32 Int)) (ks:List Nat) (r:List AV):AV.renL ks (Vec.c (n:=32) eU8 v++r)=(AV.renL ks r).map (Vec.c (n:=32) eU8 v++·):=Zea ((VK.vec Zar 32).ice v) ks r
theorem Zod (v:(Vec 32 Int)) (r:List AV):(Vec.c (n:=32) eU8 v++r).length=32+r.length:=by rw[List.length_append,ZbE]
theorem ZpN (v:(Vec 32 Int)) (r q:List AV):Vec.c (n:=32) eU8 v++r++q=Vec.c (n:=32) eU8 v++(r++q):=List.append_assoc _ _ _
theorem ZmM (v:(Vec 32 Int)) (r:List AV):(Vec.c (n:=32) eU8 v++r).drop 33=r.drop 1:=by rw[show 33=(Vec.c (n:=32) eU8 v).length+1 from by rw[ZbE],List.drop_append,List.drop_of_length_le (by omega),Nat.add_sub_cancel_left];rfl
theorem ZmO (v:(Vec 32 Int)) (r:List AV):(Vec.c (n:=32) eU8 v++r).take 33=Vec.c (n:=32) eU8 v++r.take 1:=by rw[show 33=(Vec.c (n:=32) eU8 v).length+1 from by rw[ZbE],List.take_append,List.take_of_length_le (by omega),Nat.add_sub_cancel_left]
theorem ZrW (v:(Vec 32 Int)) (r:List AV):(Vec.c (n:=32) eU8 v++r)[32]?=r[0]?:=by rw[List.getElem?_append_right (by rw[ZbE];decide),ZbE]
theorem ZrY (v:(Vec 32 Int)) (r:List AV) (x:AV):(Vec.c (n:=32) eU8 v++r).set 32 x=Vec.c (n:=32) eU8 v++r.set 0 x:=by rw[List.set_append_right _ _ (by rw[ZbE];decide),ZbE]
theorem ZrX (v:(Vec 32 Int)) (r:List AV):(Vec.c (n:=32) eU8 v++r)[33]?=r[1]?:=by rw[List.getElem?_append_right (by rw[ZbE];decide),ZbE]
theorem ZrZ (v:(Vec 32 Int)) (r:List AV) (x:AV):(Vec.c (n:=32) eU8 v++r).set 33 x=Vec.c (n:=32) eU8 v++r.set 1 x:=by rw[List.set_append_right _ _ (by rw[ZbE];decide),ZbE]
theorem Zob (a b:(Vec 32 Int)):Zav (Vec.c (n:=32) eU8 (Vec.rep 32 (0:Int))) (Vec.c (n:=32) eU8 a) (Vec.c (n:=32) eU8 b)=some ((Vec.eq (fun(x y:Int)=>decide (x=y))) a b):=Zc1 Zar.len (fun x y=>by simp[Zav,ZcH,eI,eU8,eB,eS]) a b
attribute [go_sem] ZbE Zsa ZpO ZrV Zoe ZpQ ZpR Zsb Zog ZmN Zoa ZmL Zod Zof Zoc Zlr ZpP ZpN ZmM ZmO ZrW ZrY ZrX ZrZ Zob
theorem ZbC (v:(Vec 6 (Vec 6 Int))):(Vec.c (n:=6) (Vec.c (n:=6) eI) v).length=36:=(VK.vec (VK.vec Zbj 6) 6).len v
theorem ZrM (v:(Vec 6 (Vec 6 Int))):∀ d,AV.shL d (Vec.c (n:=6) (Vec.c (n:=6) eI) v)=Vec.c (n:=6) (Vec.c (n:=6) eI) v:=((VK.vec (VK.vec Zbj 6) 6).ice v).sh
theorem ZpE (v:(Vec 6 (Vec 6 Int))):∀ G,AV.frzL G (Vec.c (n:=6) (Vec.c (n:=6) eI) v)=some (Vec.c (n:=6) (Vec.c (n:=6) eI) v):=((VK.vec (VK.vec Zbj 6) 6).ice v).frz
theorem ZrG (v:(Vec 6 (Vec 6 Int))):∀ G F,AV.brL G F (Vec.c (n:=6) (Vec.c (n:=6) eI) v)=some (Vec.c (n:=6) (Vec.c (n:=6) eI) v):=((VK.vec (VK.vec Zbj 6) 6).ice v).br
theorem ZnQ (v:(Vec 6 (Vec 6 Int))):AV.refsL (Vec.c (n:=6) (Vec.c (n:=6) eI) v)=[]:=((VK.vec (VK.vec Zbj 6) 6).ice v).refs
theorem ZpG (v:(Vec 6 (Vec 6 Int))):∀ k,AV.impL k (Vec.c (n:=6) (Vec.c (n:=6) eI) v)=Vec.c (n:=6) (Vec.c (n:=6) eI) v:=((VK.vec (VK.vec Zbj 6) 6).ice v).imp
theorem ZpH (v:(Vec 6 (Vec 6 Int))):∀ ks,AV.renL ks (Vec.c (n:=6) (Vec.c (n:=6) eI) v)=some (Vec.c (n:=6) (Vec.c (n:=6) eI) v):=((VK.vec (VK.vec Zbj 6) 6).ice v).ren
theorem ZrN (v:(Vec 6 (Vec 6 Int))):∀ d,AV.unL d (Vec.c (n:=6) (Vec.c (n:=6) eI) v)=some (Vec.c (n:=6) (Vec.c (n:=6) eI) v):=((VK.vec (VK.vec Zbj 6) 6).ice v).un
theorem ZnS (v:(Vec 6 (Vec 6 Int))) (r:List AV):(Vec.c (n:=6) (Vec.c (n:=6) eI) v++r).take 36=Vec.c (n:=6) (Vec.c (n:=6) eI) v:=List.take_left' (ZbC v)
theorem ZmF (v:(Vec 6 (Vec 6 Int))):(Vec.c (n:=6) (Vec.c (n:=6) eI) v).take 36=Vec.c (n:=6) (Vec.c (n:=6) eI) v:=List.take_of_length_le (Nat.le_of_eq (ZbC v))
theorem ZnM (v:(Vec 6 (Vec 6 Int))) (r:List AV):(Vec.c (n:=6) (Vec.c (n:=6) eI) v++r).drop 36=r:=List.drop_left' (ZbC v)
theorem ZmD (v:(Vec 6 (Vec 6 Int))):(Vec.c (n:=6) (Vec.c (n:=6) eI) v).drop 36=[]:=List.drop_eq_nil_of_le (Nat.le_of_eq (ZbC v))
theorem ZnO (v:(Vec 6 (Vec 6 Int))) (k:Nat) (b:Blk):AV.fzL k b (Vec.c (n:=6) (Vec.c (n:=6) eI) v)=some (Vec.c (n:=6) (Vec.c (n:=6) eI) v):=Zh0 (fun y=>Zo5 y k b) v
theorem ZpF (v:(Vec 6 (Vec 6 Int))) (k:Nat) (b:Blk) (r:List AV):AV.fzL k b (Vec.c (n:=6) (Vec.c (n:=6) eI) v++r)=(AV.fzL k b r).map (Vec.c (n:=6) (Vec.c (n:=6) eI) v++·):=Zfk (ZnO v k b) r
theorem ZnN (v:(Vec 6 (Vec 6 Int))) (G:Get) (r:List AV):AV.frzL G (Vec.c (n:=6) (Vec.c (n:=6) eI) v++r)=(AV.frzL G r).map (Vec.c (n:=6) (Vec.c (n:=6) eI) v++·):=ZdX ((VK.vec (VK.vec Zbj 6) 6).ice v) G r
theorem ZnR (v:(Vec 6 (Vec 6 Int))) (ks:List Nat) (r:List AV):AV.renL ks (Vec.c (n:=6) (Vec.c (n:=6) eI) v++r)=(AV.renL ks r).map (Vec.c (n:=6) (Vec.c (n:=6) eI) v++·):=Zea ((VK.vec (VK.vec Zbj 6) 6).ice v) ks r
theorem ZnP (v:(Vec 6 (Vec 6 Int))) (r:List AV):(Vec.c (n:=6) (Vec.c (n:=6) eI) v++r).length=36+r.length:=by rw[List.length_append,ZbC]
theorem ZpD (v:(Vec 6 (Vec 6 Int))) (r q:List AV):Vec.c (n:=6) (Vec.c (n:=6) eI) v++r++q=Vec.c (n:=6) (Vec.c (n:=6) eI) v++(r++q):=List.append_assoc _ _ _
theorem ZmE (v:(Vec 6 (Vec 6 Int))) (r:List AV):(Vec.c (n:=6) (Vec.c (n:=6) eI) v++r).drop 37=r.drop 1:=by rw[show 37=(Vec.c (n:=6) (Vec.c (n:=6) eI) v).length+1 from by rw[ZbC],List.drop_append,List.drop_of_length_le (by omega),Nat.add_sub_cancel_left];rfl
theorem ZmG (v:(Vec 6 (Vec 6 Int))) (r:List AV):(Vec.c (n:=6) (Vec.c (n:=6) eI) v++r).take 37=Vec.c (n:=6) (Vec.c (n:=6) eI) v++r.take 1:=by rw[show 37=(Vec.c (n:=6) (Vec.c (n:=6) eI) v).length+1 from by rw[ZbC],List.take_append,List.take_of_length_le (by omega),Nat.add_sub_cancel_left]
theorem ZrI (v:(Vec 6 (Vec 6 Int))) (r:List AV):(Vec.c (n:=6) (Vec.c (n:=6) eI) v++r)[36]?=r[0]?:=by rw[List.getElem?_append_right (by rw[ZbC];decide),ZbC]
theorem ZrK (v:(Vec 6 (Vec 6 Int))) (r:List AV) (x:AV):(Vec.c (n:=6) (Vec.c (n:=6) eI) v++r).set 36 x=Vec.c (n:=6) (Vec.c (n:=6) eI) v++r.set 0 x:=by rw[List.set_append_right _ _ (by rw[ZbC];decide),ZbC]
theorem ZrJ (v:(Vec 6 (Vec 6 Int))) (r:List AV):(Vec.c (n:=6) (Vec.c (n:=6) eI) v++r)[37]?=r[1]?:=by rw[List.getElem?_append_right (by rw[ZbC];decide),ZbC]
theorem ZrL (v:(Vec 6 (Vec 6 Int))) (r:List AV) (x:AV):(Vec.c (n:=6) (Vec.c (n:=6) eI) v++r).set 37 x=Vec.c (n:=6) (Vec.c (n:=6) eI) v++r.set 1 x:=by rw[List.set_append_right _ _ (by rw[ZbC];decide),ZbC]
theorem ZrH (a b:(Vec 6 (Vec 6 Int))):Zav (Vec.c (n:=6) (Vec.c (n:=6) eI) (Vec.rep 6 ((Vec.rep 6 (0:Int)):(Vec 6 Int)))) (Vec.c (n:=6) (Vec.c (n:=6) eI) a) (Vec.c (n:=6) (Vec.c (n:=6) eI) b)=some ((Vec.eq (Vec.eq (fun(x y:Int)=>decide (x=y)))) a b):=Zc1 (VK.vec Zbj 6).len Zrt a b
attribute [go_sem] ZbC ZrM ZpE ZrG ZnQ ZpG ZpH ZrN ZnS ZmF ZnM ZmD ZnP ZnR ZnN ZnO ZpF ZpD ZmE ZmG ZrI ZrK ZrJ ZrL ZrH
theorem ZbF (v:(Vec 2 (Vec 32 Int))):(Vec.c (n:=2) (Vec.c (n:=32) eU8) v).length=64:=(VK.vec (VK.vec Zar 32) 2).len v
theorem Zsi (v:(Vec 2 (Vec 32 Int))):∀ d,AV.shL d (Vec.c (n:=2) (Vec.c (n:=32) eU8) v)=Vec.c (n:=2) (Vec.c (n:=32) eU8) v:=((VK.vec (VK.vec Zar 32) 2).ice v).sh
theorem ZpT (v:(Vec 2 (Vec 32 Int))):∀ G,AV.frzL G (Vec.c (n:=2) (Vec.c (n:=32) eU8) v)=some (Vec.c (n:=2) (Vec.c (n:=32) eU8) v):=((VK.vec (VK.vec Zar 32) 2).ice v).frz
theorem Zsc (v:(Vec 2 (Vec 32 Int))):∀ G F,AV.brL G F (Vec.c (n:=2) (Vec.c (n:=32) eU8) v)=some (Vec.c (n:=2) (Vec.c (n:=32) eU8) v):=((VK.vec (VK.vec Zar 32) 2).ice v).br
theorem Zol (v:(Vec 2 (Vec 32 Int))):AV.refsL (Vec.c (n:=2) (Vec.c (n:=32) eU8) v)=[]:=((VK.vec (VK.vec Zar 32) 2).ice v).refs
theorem ZpV (v:(Vec 2 (Vec 32 Int))):∀ k,AV.impL k (Vec.c (n:=2) (Vec.c (n:=32) eU8) v)=Vec.c (n:=2) (Vec.c (n:=32) eU8) v:=((VK.vec (VK.vec Zar 32) 2).ice v).imp
theorem ZpW (v:(Vec 2 (Vec 32 Int))):∀ ks,AV.renL ks (Vec.c (n:=2) (Vec.c (n:=32) eU8) v)=some (Vec.c (n:=2) (Vec.c (n:=32) eU8) v):=((VK.vec (VK.vec Zar 32) 2).ice v).ren
theorem Zsj (v:(Vec 2 (Vec 32 Int))):∀ d,AV.unL d (Vec.c (n:=2) (Vec.c (n:=32) eU8) v)=some (Vec.c (n:=2) (Vec.c (n:=32) eU8) v):=((VK.vec (VK.vec Zar 32) 2).ice v).un
theorem Zon (v:(Vec 2 (Vec 32 Int))) (r:List AV):(Vec.c (n:=2) (Vec.c (n:=32) eU8) v++r).take 64=Vec.c (n:=2) (Vec.c (n:=32) eU8) v:=List.take_left' (ZbF v)
theorem ZmR (v:(Vec 2 (Vec 32 Int))):(Vec.c (n:=2) (Vec.c (n:=32) eU8) v).take 64=Vec.c (n:=2) (Vec.c (n:=32) eU8) v:=List.take_of_length_le (Nat.le_of_eq (ZbF v))
theorem Zoh (v:(Vec 2 (Vec 32 Int))) (r:List AV):(Vec.c (n:=2) (Vec.c (n:=32) eU8) v++r).drop 64=r:=List.drop_left' (ZbF v)
theorem ZmP (v:(Vec 2 (Vec 32 Int))):(Vec.c (n:=2) (Vec.c (n:=32) eU8) v).drop 64=[]:=List.drop_eq_nil_of_le (Nat.le_of_eq (ZbF v))
theorem Zoj (v:(Vec 2 (Vec 32 Int))) (k:Nat) (b:Blk):AV.fzL k b (Vec.c (n:=2) (Vec.c (n:=32) eU8) v)=some (Vec.c (n:=2) (Vec.c (n:=32) eU8) v):=Zh0 (fun y=>Zlr y k b) v
theorem ZpU (v:(Vec 2 (Vec 32 Int))) (k:Nat) (b:Blk) (r:List AV):AV.fzL k b (Vec.c (n:=2) (Vec.c (n:=32) eU8) v++r)=(AV.fzL k b r).map (Vec.c (n:=2) (Vec.c (n:=32) eU8) v++·):=Zfk (Zoj v k b) r
theorem Zoi (v:(Vec 2 (Vec 32 Int))) (G:Get) (r:List AV):AV.frzL G (Vec.c (n:=2) (Vec.c (n:=32) eU8) v++r)=(AV.frzL G r).map (Vec.c (n:=2) (Vec.c (n:=32) eU8) v++·):=ZdX ((VK.vec (VK.vec Zar 32) 2).ice v) G r
theorem Zom (v:(Vec 2 (Vec 32 Int))) (ks:List Nat) (r:List AV):AV.renL ks (Vec.c (n:=2) (Vec.c (n:=32) eU8) v++r)=(AV.renL ks r).map (Vec.c (n:=2) (Vec.c (n:=32) eU8) v++·):=Zea ((VK.vec (VK.vec Zar 32) 2).ice v) ks r
theorem Zok (v:(Vec 2 (Vec 32 Int))) (r:List AV):(Vec.c (n:=2) (Vec.c (n:=32) eU8) v++r).length=64+r.length:=by rw[List.length_append,ZbF]
theorem ZpS (v:(Vec 2 (Vec 32 Int))) (r q:List AV):Vec.c (n:=2) (Vec.c (n:=32) eU8) v++r++q=Vec.c (n:=2) (Vec.c (n:=32) eU8) v++(r++q):=List.append_assoc _ _ _
theorem ZmQ (v:(Vec 2 (Vec 32 Int))) (r:List AV):(Vec.c (n:=2) (Vec.c (n:=32) eU8) v++r).drop 65=r.drop 1:=by rw[show 65=(Vec.c (n:=2) (Vec.c (n:=32) eU8) v).length+1 from by rw[ZbF],List.drop_append,List.drop_of_length_le (by omega),Nat.add_sub_cancel_left];rfl
theorem ZmS (v:(Vec 2 (Vec 32 Int))) (r:List AV):(Vec.c (n:=2) (Vec.c (n:=32) eU8) v++r).take 65=Vec.c (n:=2) (Vec.c (n:=32) eU8) v++r.take 1:=by rw[show 65=(Vec.c (n:=2) (Vec.c (n:=32) eU8) v).length+1 from by rw[ZbF],List.take_append,List.take_of_length_le (by omega),Nat.add_sub_cancel_left]
theorem Zse (v:(Vec 2 (Vec 32 Int))) (r:List AV):(Vec.c (n:=2) (Vec.c (n:=32) eU8) v++r)[64]?=r[0]?:=by rw[List.getElem?_append_right (by rw[ZbF];decide),ZbF]
theorem Zsg (v:(Vec 2 (Vec 32 Int))) (r:List AV) (x:AV):(Vec.c (n:=2) (Vec.c (n:=32) eU8) v++r).set 64 x=Vec.c (n:=2) (Vec.c (n:=32) eU8) v++r.set 0 x:=by rw[List.set_append_right _ _ (by rw[ZbF];decide),ZbF]
theorem Zsf (v:(Vec 2 (Vec 32 Int))) (r:List AV):(Vec.c (n:=2) (Vec.c (n:=32) eU8) v++r)[65]?=r[1]?:=by rw[List.getElem?_append_right (by rw[ZbF];decide),ZbF]
theorem Zsh (v:(Vec 2 (Vec 32 Int))) (r:List AV) (x:AV):(Vec.c (n:=2) (Vec.c (n:=32) eU8) v++r).set 65 x=Vec.c (n:=2) (Vec.c (n:=32) eU8) v++r.set 1 x:=by rw[List.set_append_right _ _ (by rw[ZbF];decide),ZbF]
theorem Zsd (a b:(Vec 2 (Vec 32 Int))):Zav (Vec.c (n:=2) (Vec.c (n:=32) eU8) (Vec.rep 2 ((Vec.rep 32 (0:Int)):(Vec 32 Int)))) (Vec.c (n:=2) (Vec.c (n:=32) eU8) a) (Vec.c (n:=2) (Vec.c (n:=32) eU8) b)=some ((Vec.eq (Vec.eq (fun(x y:Int)=>decide (x=y)))) a b):=Zc1 (VK.vec Zar 32).len Zob a b
attribute [go_sem] ZbF Zsi ZpT Zsc Zol ZpV ZpW Zsj Zon ZmR Zoh ZmP Zok Zom Zoi Zoj ZpU ZpS ZmQ ZmS Zse Zsg Zsf Zsh Zsd
theorem ZbD (v:(Vec 3 House)):(Vec.c (n:=3) House.c v).length=129:=(VK.vec Zde 3).len v
theorem ZrT (v:(Vec 3 House)):∀ d,AV.shL d (Vec.c (n:=3) House.c v)=Vec.c (n:=3) House.c v:=((VK.vec Zde 3).ice v).sh
theorem ZpJ (v:(Vec 3 House)):∀ G,AV.frzL G (Vec.c (n:=3) House.c v)=some (Vec.c (n:=3) House.c v):=((VK.vec Zde 3).ice v).frz
theorem ZrO (v:(Vec 3 House)):∀ G F,AV.brL G F (Vec.c (n:=3) House.c v)=some (Vec.c (n:=3) House.c v):=((VK.vec Zde 3).ice v).br
theorem ZnX (v:(Vec 3 House)):AV.refsL (Vec.c (n:=3) House.c v)=[]:=((VK.vec Zde 3).ice v).refs
theorem ZpL (v:(Vec 3 House)):∀ k,AV.impL k (Vec.c (n:=3) House.c v)=Vec.c (n:=3) House.c v:=((VK.vec Zde 3).ice v).imp
theorem ZpM (v:(Vec 3 House)):∀ ks,AV.renL ks (Vec.c (n:=3) House.c v)=some (Vec.c (n:=3) House.c v):=((VK.vec Zde 3).ice v).ren
theorem ZrU (v:(Vec 3 House)):∀ d,AV.unL d (Vec.c (n:=3) House.c v)=some (Vec.c (n:=3) House.c v):=((VK.vec Zde 3).ice v).un
theorem ZnZ (v:(Vec 3 House)) (r:List AV):(Vec.c (n:=3) House.c v++r).take 129=Vec.c (n:=3) House.c v:=List.take_left' (ZbD v)
theorem ZmJ (v:(Vec 3 House)):(Vec.c (n:=3) House.c v).take 129=Vec.c (n:=3) House.c v:=List.take_of_length_le (Nat.le_of_eq (ZbD v))
theorem ZnT (v:(Vec 3 House)) (r:List AV):(Vec.c (n:=3) House.c v++r).drop 129=r:=List.drop_left' (ZbD v)
theorem ZmH (v:(Vec 3 House)):(Vec.c (n:=3) House.c v).drop 129=[]:=List.drop_eq_nil_of_le (Nat.le_of_eq (ZbD v))
theorem ZnV (v:(Vec 3 House)) (k:Nat) (b:Blk):AV.fzL k b (Vec.c (n:=3) House.c v)=some (Vec.c (n:=3) House.c v):=Zh0 (fun y=>by simp only[House.c,go_sem]) v
theorem ZpK (v:(Vec 3 House)) (k:Nat) (b:Blk) (r:List AV):AV.fzL k b (Vec.c (n:=3) House.c v++r)=(AV.fzL k b r).map (Vec.c (n:=3) House.c v++·):=Zfk (ZnV v k b) r
theorem ZnU (v:(Vec 3 House)) (G:Get) (r:List AV):AV.frzL G (Vec.c (n:=3) House.c v++r)=(AV.frzL G r).map (Vec.c (n:=3) House.c v++·):=ZdX ((VK.vec Zde 3).ice v) G r
theorem ZnY (v:(Vec 3 House)) (ks:List Nat) (r:List AV):AV.renL ks (Vec.c (n:=3) House.c v++r)=(AV.renL ks r).map (Vec.c (n:=3) House.c v++·):=Zea ((VK.vec Zde 3).ice v) ks r
theorem ZnW (v:(Vec 3 House)) (r:List AV):(Vec.c (n:=3) House.c v++r).length=129+r.length:=by rw[List.length_append,ZbD]
theorem ZpI (v:(Vec 3 House)) (r q:List AV):Vec.c (n:=3) House.c v++r++q=Vec.c (n:=3) House.c v++(r++q):=List.append_assoc _ _ _
theorem ZmI (v:(Vec 3 House)) (r:List AV):(Vec.c (n:=3) House.c v++r).drop 130=r.drop 1:=by rw[show 130=(Vec.c (n:=3) House.c v).length+1 from by rw[ZbD],List.drop_append,List.drop_of_length_le (by omega),Nat.add_sub_cancel_left];rfl
theorem ZmK (v:(Vec 3 House)) (r:List AV):(Vec.c (n:=3) House.c v++r).take 130=Vec.c (n:=3) House.c v++r.take 1:=by rw[show 130=(Vec.c (n:=3) House.c v).length+1 from by rw[ZbD],List.take_append,List.take_of_length_le (by omega),Nat.add_sub_cancel_left]
theorem ZrP (v:(Vec 3 House)) (r:List AV):(Vec.c (n:=3) House.c v++r)[129]?=r[0]?:=by rw[List.getElem?_append_right (by rw[ZbD];decide),ZbD]
theorem ZrR (v:(Vec 3 House)) (r:List AV) (x:AV):(Vec.c (n:=3) House.c v++r).set 129 x=Vec.c (n:=3) House.c v++r.set 0 x:=by rw[List.set_append_right _ _ (by rw[ZbD];decide),ZbD]
theorem ZrQ (v:(Vec 3 House)) (r:List AV):(Vec.c (n:=3) House.c v++r)[130]?=r[1]?:=by rw[List.getElem?_append_right (by rw[ZbD];decide),ZbD]
theorem ZrS (v:(Vec 3 House)) (r:List AV) (x:AV):(Vec.c (n:=3) House.c v++r).set 130 x=Vec.c (n:=3) House.c v++r.set 1 x:=by rw[List.set_append_right _ _ (by rw[ZbD];decide),ZbD]
attribute [go_sem] ZbD ZrT ZpJ ZrO ZnX ZpL ZpM ZrU ZnZ ZmJ ZnT ZmH ZnW ZnY ZnU ZnV ZpK ZpI ZmI ZmK ZrP ZrR ZrQ ZrS
theorem ZuA:Lf Entry.c:=by
  intro x y hy
  simp only[Entry.c,List.mem_append,List.mem_cons,List.not_mem_nil,or_false]at hy
  rcases hy with hy|hy<;>first|(subst hy;rfl)
theorem Zms:Lf Write.c:=by
  intro x y hy
  simp only[Write.c,List.mem_append,List.mem_cons,List.not_mem_nil,or_false]at hy
  rcases hy with hy|hy<;>first|exact(Lf.vec (n:=2) (Lf.vec ZsR)) _ _ hy|(subst hy;rfl)
attribute [go_sem] Entry.c Record.c Write.c Disk.c Book.c Ledger.c book_disk.c book_journal.c R09_Deed.c R09_Act.c House.c Slip.c R09_Spot.c L09_Disk.c L09_Change.c R09_Area.c
theorem ZaY {b:Bool} (h:(!b)=true):b=false:=by simpa using h
theorem ZaX {b:Bool} (h:(!b)=false):b=true:=by simpa using h
theorem PB {f : FuncId} {fn : Func} {c : Code} {sc : SC} {args : List AV} {v : AV} (h : AK Try.prog fn.ntmps (Zlp T fn.results.toList fun y => NL y v) [.sc sc] (St.enter args [] fn.ntmps)) (hf : Try.prog.funcs[f]? = some fn := by rfl) (hb : fn.body = some c := by rfl) (hnm : (fn.name == "runtime.NumGoroutine") = false := by decide +kernel) (he : sc.bare = Zba fn.ntmps c := by rfl) (hfit : (Zba fn.ntmps c).fits fn.ntmps = true := by decide +kernel) (hargs : args.length ≤ fn.ntmps := by exact Nat.le_of_ble_eq_true rfl) : Za0 Try.prog f args (fun y => y = v) := Za0.nlr (Za0.of_body Za9 hf hb hnm he hfit hargs h)
theorem rS {n:Nat}{Φ:Exit→St→Prop}{todo:List It}{st:St} (h:ZbX Try.prog n Φ (run T 1000 todo st)):AK Try.prog n Φ todo st:=Zag Za9 1000 _ _ h
theorem zc0 {n:Nat}{Φ:Exit→St→Prop}{f:FuncId}{args fargs:List AV}{v:AV}{dst:Option Tmp}{drop:List Nat}{todo:List It}{st:St} (hp:Za0 Try.prog f fargs (fun y=>y=v)) (hz:zOK (AV.frzL (Zam.get ([]::st.fr::st.low)) args) fargs) (hr:(AV.refsL args).isEmpty || v.scal=true) (h:ZbX Try.prog n Φ (run T 1000 todo (st.took dst drop v [] (st.fr::st.low)))):ZbX Try.prog n Φ (.call f args dst drop todo st):=ZaS Za9 1000 hp hz hr h
theorem zcT {n:Nat}{Φ:Exit→St→Prop}{f:FuncId}{args fargs:List AV}{v:AV}{dst:Option Tmp}{drop:List Nat}{todo:List It}{st:St} (rs:List Nat) (hp:Za0 Try.prog f fargs (fun y=>y=v)) (hz:zOK (AV.brL (only (Zam.get ([]::st.fr::st.low)) (rs.map fun k=>(1,k))) (boxF (only (Zam.get ([]::st.fr::st.low)) (rs.map fun k=>(1,k))) 5) args) fargs) (h:ZbX Try.prog n Φ (run T 1000 todo (st.took dst drop v [] (Ze6 st.fr rs::st.low)))):ZbX Try.prog n Φ (.call f args dst drop todo st):=Zgv Za9 1000 rs hp hz h
end Go.Abs

namespace Go.Abs
open Go.Proofs
def F65.c:SC:=
 (.seq
 (.reg [sb 6 false 4 [6]])
 (.seq
 (.reg [mv 7 1 3 [1],
 mv 8 0 3 [],
 b2 9 .leq 3 7 8 3 4 [7,8],
 mv 10 9 4 [9],
 og 11 (.move (.tmp 0)) 3 10 true [0],
 og 12 (.move (.tmp 2)) 3 10 true [2],
 og 13 (.binOp .leq 3 (.tmp 11) (.tmp 12) 3) 4 10 true [11,12],
 oq 14 (.pick (.tmp 10) (.tmp 13) (.const (.bool false))) 4 [10,13],
 sg 6 14 4 [14]])
 .ret))
theorem F65.rs:Try.f65.results.toList=[.tmp 6]:=rfl
def ZaH (k:Nat) (n0:Int) (lo1:Int) (hi2:Int):Option (Bool):=
 bif decide (lo1≤n0) then
  some (decide (n0≤hi2))
 else
  some false
theorem ZaP (k:Nat) (n0:Int) (lo1:Int) (hi2:Int) (r:Bool) (h0:ZaH k n0 lo1 hi2=some r):Za0 Try.prog 65 [.int .i64 n0,.int .i64 lo1,.int .i64 hi2] (fun y=>y=.bool r):=by
 refine PB (fn:=Try.f65) (sc:=F65.c) ?_
 refine rS ?_
 simp only[ZaH]at h0
 try simp only[F65.c,go_sem]
 refine Zab h0 ?_ ?_<;>intro c1 h0
 try simp only[c1,go_sem]
 obtain rfl:=oi h0
 refine Zad rfl ?_
 try simp only[F65.rs,c1,go_sem]
 try simp only[c1,go_sem]
 obtain rfl:=oi h0
 refine Zad rfl ?_
 try simp only[F65.rs,c1,go_sem]
def F133.c:SC:=
 (.seq
 (.reg [oq 1 (.box 23 (.tmp 0)) 0 [0],
 sb 2 false 4 [2]])
 (.seq
 (.reg [fa 3 23 1 0 [],
 ld 4 3 3 [3],
 oq 5 (.call ⟨.value (.func 65),#[.tmp 4,.const (.int .i64 0),.const (.int .i64 5)],#[3,3,3]⟩) 4 [4],
 mv 6 5 4 [5],
 og 7 (.fieldAddr 23 (.tmp 1) 1) 0 6 true [1],
 og 8 (.load 3 (.tmp 7)) 3 6 true [7],
 og 9 (.call ⟨.value (.func 65),#[.tmp 8,.const (.int .i64 0),.const (.int .i64 9999)],#[3,3,3]⟩) 4 6 true [8],
 oq 10 (.pick (.tmp 6) (.tmp 9) (.const (.bool false))) 4 [6,9],
 sg 2 10 4 [10]])
 .ret))
theorem F133.rs:Try.f133.results.toList=[.tmp 2]:=rfl
def Zc6 (k:Nat) (x0:Entry):Option (Bool):=
 (ZaH k x0.House 0 5).bind fun x1=>
 bif x1 then
  (ZaH k x0.No 0 9999).bind fun x3=>
  some x3
 else
  some false
theorem Zfb (k:Nat) (x0:Entry) (r:Bool) (h0:Zc6 k x0=some r):Za0 Try.prog 133 [.agg (Entry.c x0)] (fun y=>y=.bool r):=by
 refine PB (fn:=Try.f133) (sc:=F133.c) ?_
 refine rS ?_
 simp only[Zc6]at h0
 try simp only[F133.c,go_sem]
 obtain⟨x1,yx1,h0⟩:=bs h0
 refine zc0 (ZaP k _ _ _ _ yx1) ?_ (by first|rfl|(simp[AV.refsL,AV.refs,AV.scal,AV.leaf];done)|simp[AV.refsL,AV.refs,AV.scal,AV.leaf,go_sem]) ?_
 try simp only[go_sem]
 try simp only[go_sem]
 refine Zab h0 ?_ ?_<;>intro c2 h0
 try simp only[c2,go_sem]
 obtain⟨x3,yx3,h0⟩:=bs h0
 refine zc0 (ZaP k _ _ _ _ yx3) ?_ (by first|rfl|(simp[AV.refsL,AV.refs,AV.scal,AV.leaf];done)|simp[AV.refsL,AV.refs,AV.scal,AV.leaf,go_sem]) ?_
 try simp only[c2,go_sem]
 try simp only[c2,go_sem]
 obtain rfl:=oi h0
 refine Zad rfl ?_
 try simp only[F133.rs,c2,go_sem]
 try simp only[c2,go_sem]
 obtain rfl:=oi h0
 refine Zad rfl ?_
 try simp only[F133.rs,c2,go_sem]
def F134.s0:SC:=
 (.seq
 (.reg [b2 10 .lss 3 9 8 3 4 []])
 (.seq
 (.cond (.tmp 10)
 .skip
 (.exit 0))
 (.seq
 (.block 1
 (.seq
 (.reg [mv 11 9 3 [],
 sg 3 11 3 [11]])
 (.seq
 (.reg [mv 12 0 9 [],
 mv 13 3 3 [],
 oq 14 (.index 9 (.tmp 12) (.tmp 13)) 5 [12,13],
 oq 15 (.binOp .lss 5 (.tmp 14) (.const (.int .u8 32)) 5) 4 [14],
 mv 16 15 4 [15],
 og 17 (.move (.tmp 0)) 9 16 false [],
 og 18 (.move (.tmp 3)) 3 16 false [3],
 og 19 (.index 9 (.tmp 17) (.tmp 18)) 5 16 false [17,18],
 og 20 (.binOp .gtr 5 (.tmp 19) (.const (.int .u8 126)) 5) 4 16 false [19],
 oq 21 (.pick (.tmp 16) (.const (.bool true)) (.tmp 20)) 4 [16,20]])
 (.cond (.tmp 21)
 (.seq
 (.reg [sb 2 false 4 []])
 .ret)
 .skip))))
 (.reg [bn 22 .add 3 9 1 3 3 [9],
 mv 9 22 3 [22]]))))
def F134.c:SC:=
 (.seq
 (.reg [sb 2 false 4 [2]])
 (.seq
 (.seq
 (.reg [mv 4 0 9 [],
 ln 5 4 9 3 [4],
 bn 6 .gtr 3 5 200 3 4 [5]])
 (.cond (.tmp 6)
 (.seq
 (.reg [sb 2 false 4 []])
 .ret)
 .skip))
 (.seq
 (.seq
 (.reg [mv 7 0 9 [],
 ln 8 7 9 3 [7],
 oq 9 (.move (.const (.int .i64 0))) 3 []])
 (.block 0
 (.loop F134.s0)))
 (.seq
 (.reg [sb 2 true 4 []])
 .ret))))
theorem F134.rs:Try.f134.results.toList=[.tmp 2]:=rfl
def Za3.b0 (k:Nat) (s0:ByteArray):Int→Option (Stp (Int) (Unit) (Bool)):=fun(i2:Int)=>
 bif decide (i2<(s0.size:Int)) then
  (Ztq s0 i2).bind fun i4=>
  bif (!decide (i4<(32:Int))) then
   bif decide ((126:Int)<i4) then
    some (.ret false)
   else
    some (.next (w64 (i2+1)))
  else
   some (.ret false)
 else
  some (.brk ())
noncomputable def Za3.h0 (s0:ByteArray):Int→St:=fun(i2:Int)=>⟨[(0,.str s0),(8,.int .i64 (s0.size:Int)),(9,.int .i64 i2)],[],[],1,Try.f134.ntmps⟩
noncomputable def Za3.x0:Unit→St:=fun(_:Unit)=>⟨[],[],[],1,Try.f134.ntmps⟩
def Za3 (k:Nat) (s0:ByteArray):Option (Bool):=
 bif decide ((200:Int)<(s0.size:Int)) then
  some false
 else
  (whl (Za3.b0 k s0) k 0).bind fun r7=>match r7 with
  |.next _=>none
  |.ret v_=>some v_
  |.brk _=>
   some true
theorem ZiH (k:Nat) (s0:ByteArray) (r:Bool) (h0:Za3 k s0=some r):Za0 Try.prog 134 [.str s0] (fun y=>y=.bool r):=by
 refine PB (fn:=Try.f134) (sc:=F134.c) ?_
 refine rS ?_
 simp only[Za3]at h0
 try simp only[F134.c,go_sem]
 refine Zab h0 ?_ ?_<;>intro c1 h0
 try simp only[c1,go_sem]
 obtain rfl:=oi h0
 refine Zad rfl ?_
 try simp only[F134.rs,c1,go_sem]
 try simp only[c1,go_sem]
 obtain⟨r7,yr7,h0⟩:=bs h0
 refine Zay yr7 (Za3.h0 s0) (Za3.x0) ?_ ?_ ?_
 refine Za7.go [0,8,9] [] rfl ?_
 try simp only[Za3.h0,c1,go_sem]
 rintro i2 x_1 Bk1 Br1 h1 hnext1 hbrk1 hret1
 refine rS ?_
 simp only[Za3.b0]at h1
 try simp only[F134.s0,Za3.h0,c1,go_sem]
 refine Zab h1 ?_ ?_<;>intro c3 h1
 try simp only[c3,c1,go_sem]
 obtain⟨i4,yi4,h1⟩:=bs h1
 try simp only[Zh4 yi4,Zfy yi4,c1,c3,go_sem]
 refine Zab h1 ?_ ?_<;>intro c5 h1
 have c5:=ZaY c5
 try simp only[c5,Zh4 yi4,Zfy yi4,c1,c3,go_sem]
 refine Zab h1 ?_ ?_<;>intro c6 h1
 try simp only[c6,c1,c3,Zh4 yi4,Zfy yi4,c5,go_sem]
 obtain rfl:=hret1 _ (oi h1).symm
 simp only at h0
 obtain rfl:=oi h0
 refine Zad rfl ?_
 try simp only[F134.rs,c1,c3,Zh4 yi4,Zfy yi4,c5,c6,go_sem]
 try simp only[c6,c1,c3,Zh4 yi4,Zfy yi4,c5,go_sem]
 refine Zaf (hnext1 _ _ (oi h1).symm ?_)
 refine Za7.go [0,8,9] [] rfl ?_
 try simp only[Za3.h0,c1,c3,Zh4 yi4,Zfy yi4,c5,c6,go_sem]
 have c5:=ZaX c5
 try simp only[c5,c1,c3,Zh4 yi4,Zfy yi4,go_sem]
 obtain rfl:=hret1 _ (oi h1).symm
 simp only at h0
 obtain rfl:=oi h0
 refine Zad rfl ?_
 try simp only[F134.rs,c1,c3,Zh4 yi4,Zfy yi4,c5,go_sem]
 try simp only[c3,c1,go_sem]
 refine Zaf (hbrk1 _ _ (oi h1).symm ?_)
 refine Za7.go [] [] rfl ?_
 try simp only[Za3.x0,c1,c3,go_sem]
 rintro _ hr_
 subst hr_
 simp only at h0
 refine rS ?_
 try simp only[Za3.x0,c1,go_sem]
 obtain rfl:=oi h0
 refine Zad rfl ?_
 try simp only[F134.rs,c1,go_sem]
def F92.c:SC:=
 (.seq
 (.reg [oq 1 (.box 25 (.tmp 0)) 0 [0],
 sb 2 false 4 [2]])
 (.seq
 (.seq
 (.reg [fa 3 25 1 0 [],
 ld 4 23 3 [3],
 cf1 5 133 4 23 4 [4],
 oq 6 (.unOp .not 4 (.tmp 5)) 4 [5],
 mv 7 6 4 [6],
 og 8 (.fieldAddr 25 (.tmp 1) 1) 0 7 false [],
 og 9 (.load 3 (.tmp 8)) 3 7 false [8],
 og 10 (.call ⟨.value (.func 65),#[.tmp 9,.const (.int .i64 0),.const (.int .i64 40)],#[3,3,3]⟩) 4 7 false [9],
 og 11 (.unOp .not 4 (.tmp 10)) 4 7 false [10],
 oq 12 (.pick (.tmp 7) (.const (.bool true)) (.tmp 11)) 4 [7,11],
 mv 13 12 4 [12],
 og 14 (.fieldAddr 25 (.tmp 1) 2) 0 13 false [],
 og 15 (.load 3 (.tmp 14)) 3 13 false [14],
 og 16 (.call ⟨.value (.func 65),#[.tmp 15,.const (.int .i64 0),.const (.int .i64 100000)],#[3,3,3]⟩) 4 13 false [15],
 og 17 (.unOp .not 4 (.tmp 16)) 4 13 false [16],
 oq 18 (.pick (.tmp 13) (.const (.bool true)) (.tmp 17)) 4 [13,17],
 mv 19 18 4 [18],
 og 20 (.fieldAddr 25 (.tmp 1) 3) 0 19 false [],
 og 21 (.load 3 (.tmp 20)) 3 19 false [20],
 og 22 (.call ⟨.value (.func 65),#[.tmp 21,.const (.int .i64 0),.const (.int .i64 100000)],#[3,3,3]⟩) 4 19 false [21],
 og 23 (.unOp .not 4 (.tmp 22)) 4 19 false [22],
 oq 24 (.pick (.tmp 19) (.const (.bool true)) (.tmp 23)) 4 [19,23],
 mv 25 24 4 [24],
 og 26 (.fieldAddr 25 (.tmp 1) 5) 0 25 false [],
 og 27 (.load 9 (.tmp 26)) 9 25 false [26],
 og 28 (.call ⟨.value (.func 134),#[.tmp 27],#[9]⟩) 4 25 false [27],
 og 29 (.unOp .not 4 (.tmp 28)) 4 25 false [28],
 oq 30 (.pick (.tmp 25) (.const (.bool true)) (.tmp 29)) 4 [25,29]])
 (.cond (.tmp 30)
 (.seq
 (.reg [sb 2 false 4 []])
 .ret)
 .skip))
 (.seq
 (.seq
 (.reg [fa 31 25 1 1 [],
 ld 32 3 31 [31],
 bn 33 .neq 3 32 0 3 4 [32]])
 (.cond (.tmp 33)
 (.seq
 (.reg [fa 34 25 1 4 [1],
 ld 35 23 34 [34],
 oq 36 (.build 23 #[]) 23 [],
 b2 37 .eql 23 35 36 23 4 [35,36],
 sg 2 37 4 [37]])
 .ret)
 .skip))
 (.seq
 (.reg [fa 38 25 1 2 [],
 ld 39 3 38 [38],
 bn 40 .eql 3 39 0 3 4 [39],
 mv 41 40 4 [40],
 og 42 (.fieldAddr 25 (.tmp 1) 5) 0 41 true [],
 og 43 (.load 9 (.tmp 42)) 9 41 true [42],
 og 44 (.binOp .eql 9 (.tmp 43) (.const (.string ⟨#[]⟩)) 9) 4 41 true [43],
 oq 45 (.pick (.tmp 41) (.tmp 44) (.const (.bool false))) 4 [41,44],
 mv 46 45 4 [45],
 og 47 (.fieldAddr 25 (.tmp 1) 4) 0 46 true [],
 og 48 (.load 23 (.tmp 47)) 23 46 true [47],
 og 49 (.call ⟨.value (.func 133),#[.tmp 48],#[23]⟩) 4 46 true [48],
 oq 50 (.pick (.tmp 46) (.tmp 49) (.const (.bool false))) 4 [46,49],
 mv 51 50 4 [50],
 og 52 (.fieldAddr 25 (.tmp 1) 4) 0 51 true [],
 og 53 (.fieldAddr 23 (.tmp 52) 0) 0 51 true [52],
 og 54 (.load 3 (.tmp 53)) 3 51 true [53],
 og 55 (.fieldAddr 25 (.tmp 1) 0) 0 51 true [],
 og 56 (.fieldAddr 23 (.tmp 55) 0) 0 51 true [55],
 og 57 (.load 3 (.tmp 56)) 3 51 true [56],
 og 58 (.binOp .eql 3 (.tmp 54) (.tmp 57) 3) 4 51 true [54,57],
 oq 59 (.pick (.tmp 51) (.tmp 58) (.const (.bool false))) 4 [51,58],
 mv 60 59 4 [59],
 og 61 (.fieldAddr 25 (.tmp 1) 4) 0 60 true [],
 og 62 (.fieldAddr 23 (.tmp 61) 1) 0 60 true [61],
 og 63 (.load 3 (.tmp 62)) 3 60 true [62],
 og 64 (.fieldAddr 25 (.tmp 1) 0) 0 60 true [1],
 og 65 (.fieldAddr 23 (.tmp 64) 1) 0 60 true [64],
 og 66 (.load 3 (.tmp 65)) 3 60 true [65],
 og 67 (.binOp .lss 3 (.tmp 63) (.tmp 66) 3) 4 60 true [63,66],
 oq 68 (.pick (.tmp 60) (.tmp 67) (.const (.bool false))) 4 [60,67],
 sg 2 68 4 [68]])
 .ret))))
theorem F92.rs:Try.f92.results.toList=[.tmp 2]:=rfl
def Zbo (k:Nat) (r0:Record):Option (Bool):=
 (Zc6 k r0.At).bind fun x1=>
 bif x1 then
  (ZaH k r0.Kind 0 40).bind fun x3=>
  bif x3 then
   (ZaH k r0.Day 0 100000).bind fun x5=>
   bif x5 then
    (ZaH k r0.Known 0 100000).bind fun x7=>
    bif x7 then
     (Za3 k r0.Text).bind fun x9=>
     bif (!x9) then
      some false
     else
      bif (!decide (r0.Kind=(0:Int))) then
       some (decide (r0.Of.House=(0:Int))&&decide (r0.Of.No=(0:Int)))
      else
       bif decide (r0.Day=(0:Int)) then
        bif (r0.Text.toList==ByteArray.empty.toList) then
         (Zc6 k r0.Of).bind fun x14=>
         bif x14 then
          bif decide (r0.Of.House=r0.At.House) then
           some (decide (r0.Of.No<r0.At.No))
          else
           some false
         else
          some false
        else
         some false
       else
        some false
    else
     some false
   else
    some false
  else
   some false
 else
  some false
theorem Zds (k:Nat) (r0:Record) (r:Bool) (h0:Zbo k r0=some r):Za0 Try.prog 92 [.agg (Record.c r0)] (fun y=>y=.bool r):=by
 refine PB (fn:=Try.f92) (sc:=F92.c) ?_
 refine rS ?_
 simp only[Zbo]at h0
 try simp only[F92.c,go_sem]
 obtain⟨x1,yx1,h0⟩:=bs h0
 refine zc0 (Zfb k _ _ yx1) ?_ (by first|rfl|(simp[AV.refsL,AV.refs,AV.scal,AV.leaf];done)|simp[AV.refsL,AV.refs,AV.scal,AV.leaf,go_sem]) ?_
 try simp only[go_sem]
 try simp only[go_sem]
 refine Zab h0 ?_ ?_<;>intro c2 h0
 try simp only[c2,go_sem]
 obtain⟨x3,yx3,h0⟩:=bs h0
 refine zc0 (ZaP k _ _ _ _ yx3) ?_ (by first|rfl|(simp[AV.refsL,AV.refs,AV.scal,AV.leaf];done)|simp[AV.refsL,AV.refs,AV.scal,AV.leaf,go_sem]) ?_
 try simp only[c2,go_sem]
 try simp only[c2,go_sem]
 refine Zab h0 ?_ ?_<;>intro c4 h0
 try simp only[c4,c2,go_sem]
 obtain⟨x5,yx5,h0⟩:=bs h0
 refine zc0 (ZaP k _ _ _ _ yx5) ?_ (by first|rfl|(simp[AV.refsL,AV.refs,AV.scal,AV.leaf];done)|simp[AV.refsL,AV.refs,AV.scal,AV.leaf,go_sem]) ?_
 try simp only[c2,c4,go_sem]
 try simp only[c2,c4,go_sem]
 refine Zab h0 ?_ ?_<;>intro c6 h0
 try simp only[c6,c2,c4,go_sem]
 obtain⟨x7,yx7,h0⟩:=bs h0
 refine zc0 (ZaP k _ _ _ _ yx7) ?_ (by first|rfl|(simp[AV.refsL,AV.refs,AV.scal,AV.leaf];done)|simp[AV.refsL,AV.refs,AV.scal,AV.leaf,go_sem]) ?_
 try simp only[c2,c4,c6,go_sem]
 try simp only[c2,c4,c6,go_sem]
 refine Zab h0 ?_ ?_<;>intro c8 h0
 try simp only[c8,c2,c4,c6,go_sem]
 obtain⟨x9,yx9,h0⟩:=bs h0
 refine zc0 (ZiH k _ _ yx9) ?_ (by first|rfl|(simp[AV.refsL,AV.refs,AV.scal,AV.leaf];done)|simp[AV.refsL,AV.refs,AV.scal,AV.leaf,go_sem]) ?_
 try simp only[c2,c4,c6,c8,go_sem]
 try simp only[c2,c4,c6,c8,go_sem]
 refine Zab h0 ?_ ?_<;>intro c10 h0
 have c10:=ZaY c10
 try simp only[c10,c2,c4,c6,c8,go_sem]
 obtain rfl:=oi h0
 refine Zad rfl ?_
 try simp only[F92.rs,c2,c4,c6,c8,c10,go_sem]
 have c10:=ZaX c10
 try simp only[c10,c2,c4,c6,c8,go_sem]
 refine Zab h0 ?_ ?_<;>intro c11 h0
 have c11:=ZaY c11
 try simp only[c11,c2,c4,c6,c8,c10,go_sem]
 obtain rfl:=oi h0
 refine Zad rfl ?_
 try simp only[F92.rs,c2,c4,c6,c8,c10,c11,go_sem]
 have c11:=ZaX c11
 try simp only[c11,c2,c4,c6,c8,c10,go_sem]
 refine Zab h0 ?_ ?_<;>intro c12 h0
 try simp only[c12,c2,c4,c6,c8,c10,c11,go_sem]
 refine Zab h0 ?_ ?_<;>intro c13 h0
 try simp only[c13,c2,c4,c6,c8,c10,c11,c12,go_sem]
 obtain⟨x14,yx14,h0⟩:=bs h0
 refine zc0 (Zfb k _ _ yx14) ?_ (by first|rfl|(simp[AV.refsL,AV.refs,AV.scal,AV.leaf];done)|simp[AV.refsL,AV.refs,AV.scal,AV.leaf,go_sem]) ?_
 try simp only[c2,c4,c6,c8,c10,c11,c12,c13,go_sem]
 try simp only[c2,c4,c6,c8,c10,c11,c12,c13,go_sem]
 refine Zab h0 ?_ ?_<;>intro c15 h0
 try simp only[c15,c2,c4,c6,c8,c10,c11,c12,c13,go_sem]
 refine Zab h0 ?_ ?_<;>intro c16 h0
 try simp only[c16,c2,c4,c6,c8,c10,c11,c12,c13,c15,go_sem]
 obtain rfl:=oi h0
 refine Zad rfl ?_
 try simp only[F92.rs,c2,c4,c6,c8,c10,c11,c12,c13,c15,c16,go_sem]
 try simp only[c16,c2,c4,c6,c8,c10,c11,c12,c13,c15,go_sem]
 obtain rfl:=oi h0
 refine Zad rfl ?_
 try simp only[F92.rs,c2,c4,c6,c8,c10,c11,c12,c13,c15,c16,go_sem]
 try simp only[c15,c2,c4,c6,c8,c10,c11,c12,c13,go_sem]
 obtain rfl:=oi h0
 refine Zad rfl ?_
 try simp only[F92.rs,c2,c4,c6,c8,c10,c11,c12,c13,c15,go_sem]
 try simp only[c13,c2,c4,c6,c8,c10,c11,c12,go_sem]
 obtain rfl:=oi h0
 refine Zad rfl ?_
 try simp only[F92.rs,c2,c4,c6,c8,c10,c11,c12,c13,go_sem]
 try simp only[c12,c2,c4,c6,c8,c10,c11,go_sem]
 obtain rfl:=oi h0
 refine Zad rfl ?_
 try simp only[F92.rs,c2,c4,c6,c8,c10,c11,c12,go_sem]
 try simp only[c8,c2,c4,c6,go_sem]
 obtain rfl:=oi h0
 refine Zad rfl ?_
 try simp only[F92.rs,c2,c4,c6,c8,go_sem]
 try simp only[c6,c2,c4,go_sem]
 obtain rfl:=oi h0
 refine Zad rfl ?_
 try simp only[F92.rs,c2,c4,c6,go_sem]
 try simp only[c4,c2,go_sem]
 obtain rfl:=oi h0
 refine Zad rfl ?_
 try simp only[F92.rs,c2,c4,go_sem]
 try simp only[c2,go_sem]
 obtain rfl:=oi h0
 refine Zad rfl ?_
 try simp only[F92.rs,c2,go_sem]
def F30.c:SC:=
 (.seq
 (.reg [oq 1 (.box 25 (.tmp 0)) 0 [0],
 sn 2 0 28 [2]])
 (.seq
 (.seq
 (.reg [ld 3 25 1 [1],
 cf1 4 92 3 25 4 [3],
 oq 5 (.unOp .not 4 (.tmp 4)) 4 [4]])
 (.cond (.tmp 5)
 (.seq
 (.reg [sn 2 90 28 []])
 .ret)
 .skip))
 (.seq
 (.reg [sn 2 0 28 []])
 .ret)))
theorem F30.rs:Try.f30.results.toList=[.tmp 2]:=rfl
def Zcy (k:Nat) (r0:Record):Option (Int):=
 (Zbo k r0).bind fun x1=>
 bif (!x1) then
  some 90
 else
  some 0
theorem ZdC (k:Nat) (r0:Record) (r:Int) (h0:Zcy k r0=some r):Za0 Try.prog 30 [.agg (Record.c r0)] (fun y=>y=.int .i64 r):=by
 refine PB (fn:=Try.f30) (sc:=F30.c) ?_
 refine rS ?_
 simp only[Zcy]at h0
 try simp only[F30.c,go_sem]
 obtain⟨x1,yx1,h0⟩:=bs h0
 refine zc0 (Zds k _ _ yx1) ?_ (by first|rfl|(simp[AV.refsL,AV.refs,AV.scal,AV.leaf];done)|simp[AV.refsL,AV.refs,AV.scal,AV.leaf,go_sem]) ?_
 try simp only[go_sem]
 try simp only[go_sem]
 refine Zab h0 ?_ ?_<;>intro c2 h0
 have c2:=ZaY c2
 try simp only[c2,go_sem]
 obtain rfl:=oi h0
 refine Zad rfl ?_
 try simp only[F30.rs,c2,go_sem]
 have c2:=ZaX c2
 try simp only[c2,go_sem]
 obtain rfl:=oi h0
 refine Zad rfl ?_
 try simp only[F30.rs,c2,go_sem]
def F88.s1:SC:=
 (.seq
 (.seq
 (.reg [mv 45 6 3 [],
 bn 46 .geq 3 45 0 3 4 [45]])
 (.cond (.tmp 46)
 .skip
 (.exit 2)))
 (.seq
 (.block 3
 (.reg [mv 49 3 56 [3],
 oq 50 (.indexAddr 201 (.tmp 5) (.const (.int .i64 0))) 0 [],
 ld 51 3 50 [50],
 mv 52 6 3 [],
 oq 53 (.binOp .mul 3 (.const (.int .i64 8)) (.tmp 52) 3) 3 [52],
 b2 54 .shr 3 51 53 3 3 [51,53],
 oq 55 (.convert 3 5 (.tmp 54)) 5 [54],
 oq 56 (.buildSlice 56 1 #[(0,.tmp 55)]) 56 [55],
 oq 57 (.call ⟨.builtin .append,#[.tmp 49,.tmp 56],#[56,56]⟩) 56 [49,56],
 sg 3 57 56 [57]]))
 (.reg [mv 47 6 3 [6],
 bn 48 .sub 3 47 1 3 3 [47],
 sg 6 48 3 [48]])))
def F88.s0:SC:=
 (.seq
 (.reg [b2 39 .lss 3 38 37 3 0 []])
 (.seq
 (.cond (.tmp 39)
 .skip
 (.exit 0))
 (.seq
 (.block 1
 (.seq
 (.reg [ia 40 202 36 38 [],
 ld 41 201 40 [40],
 oq 5 (.alloc 201) 0 [],
 ⟨none,.store 201 (.tmp 5) (.tmp 41),0,none,[41]⟩])
 (.seq
 (.reg [oq 42 (.indexAddr 201 (.tmp 5) (.const (.int .i64 1))) 0 [],
 ld 43 3 42 [42],
 bn 44 .sub 3 43 1 3 3 [43],
 sg 6 44 3 [44]])
 (.block 2
 (.loop F88.s1)))))
 (.reg [bn 58 .add 3 38 1 3 3 [38],
 mv 38 58 3 [58]]))))
def F88.c:SC:=
 (.seq
 (.reg [oq 1 (.box 25 (.tmp 0)) 0 [0],
 oq 2 (.assign (.const (.slice none 0 0))) 56 [2]])
 (.seq
 (.reg [oq 3 (.assign (.const (.slice none 0 0))) 56 []])
 (.seq
 (.seq
 (.reg [fa 7 25 1 0 [],
 fa 8 23 7 0 [7],
 ld 9 3 8 [8],
 oq 10 (.build 201 #[(0,.tmp 9),(1,.const (.int .i64 1))]) 201 [9],
 fa 11 25 1 0 [],
 fa 12 23 11 1 [11],
 ld 13 3 12 [12],
 oq 14 (.build 201 #[(0,.tmp 13),(1,.const (.int .i64 2))]) 201 [13],
 fa 15 25 1 1 [],
 ld 16 3 15 [15],
 oq 17 (.build 201 #[(0,.tmp 16),(1,.const (.int .i64 1))]) 201 [16],
 fa 18 25 1 2 [],
 ld 19 3 18 [18],
 oq 20 (.build 201 #[(0,.tmp 19),(1,.const (.int .i64 4))]) 201 [19],
 fa 21 25 1 3 [],
 ld 22 3 21 [21],
 oq 23 (.build 201 #[(0,.tmp 22),(1,.const (.int .i64 4))]) 201 [22],
 fa 24 25 1 4 [],
 fa 25 23 24 0 [24],
 ld 26 3 25 [25],
 oq 27 (.build 201 #[(0,.tmp 26),(1,.const (.int .i64 1))]) 201 [26],
 fa 28 25 1 4 [],
 fa 29 23 28 1 [28],
 ld 30 3 29 [29],
 oq 31 (.build 201 #[(0,.tmp 30),(1,.const (.int .i64 2))]) 201 [30],
 fa 32 25 1 5 [],
 ld 33 9 32 [32],
 ln 34 33 9 3 [33],
 oq 35 (.build 201 #[(0,.tmp 34),(1,.const (.int .i64 1))]) 201 [34],
 oq 36 (.buildSlice 202 8 #[(0,.tmp 10),(1,.tmp 14),(2,.tmp 17),(3,.tmp 20),(4,.tmp 23),(5,.tmp 27),(6,.tmp 31),(7,.tmp 35)]) 202 [10,14,17,20,23,27,31,35],
 ln 37 36 202 3 [],
 oq 38 (.move (.const (.int .i64 0))) 3 []])
 (.block 0
 (.loop F88.s0)))
 (.seq
 (.reg [mv 59 3 56 [3],
 fa 60 25 1 5 [1],
 ld 61 9 60 [60],
 oq 62 (.call ⟨.builtin .append,#[.tmp 59,.tmp 61],#[56,9]⟩) 56 [59,61],
 sg 2 62 56 [62]])
 .ret))))
theorem F88.rs:Try.f88.results.toList=[.tmp 2]:=rfl
def Zao.b1 (k:Nat) (x5:(Vec 2 Int)):(Int×(List Int))→Option (Stp (Int×(List Int)) ((List Int)) ((List Int))):=fun(s:Int×(List Int))=>match s with
 |(i7,l8)=>
   bif decide ((0:Int)≤i7) then
    (x5.at? 0).bind fun x11=>
    (sh? (w64 (8*i7))).bind fun _=>
    (ZdM 1 l8 (IntKind.u8.wrap (Int.fdiv x11 (2 ^ (min (Int.toNat (w64 (8*i7))) 64))))).bind fun l13=>
    some (.next (w64 (i7 - 1),l13))
   else
    some (.brk l8)
def Zao.b0 (k:Nat) (r0:Record):(Int×(List Int))→Option (Stp (Int×(List Int)) ((List Int)) ((List Int))):=fun(s:Int×(List Int))=>match s with
 |(i1,l2)=>
   bif decide (i1<(8:Int)) then
    (at? [(⟨[r0.At.House,1],rfl⟩:(Vec 2 Int)),(⟨[r0.At.No,2],rfl⟩:(Vec 2 Int)),(⟨[r0.Kind,1],rfl⟩:(Vec 2 Int)),(⟨[r0.Day,4],rfl⟩:(Vec 2 Int)),(⟨[r0.Known,4],rfl⟩:(Vec 2 Int)),(⟨[r0.Of.House,1],rfl⟩:(Vec 2 Int)),(⟨[r0.Of.No,2],rfl⟩:(Vec 2 Int)),(⟨[(r0.Text.size:Int),1],rfl⟩:(Vec 2 Int))] i1).bind fun x5=>
    (x5.at? 1).bind fun x6=>
    (whl (Zao.b1 k x5) k (w64 (x6 - 1),l2)).bind fun r14=>match r14 with
    |.next _=>none
    |.ret v_=>some (.ret v_)
    |.brk l9=>
     some (.next (w64 (i1+1),l9))
   else
    some (.brk l2)
noncomputable def Zao.h1 (r0:Record) (i1:Int) (x5:(Vec 2 Int)):(Int×(List Int))→St:=fun(s:Int×(List Int))=>match s with
 |(i7,l8)=>⟨[(1,.ptr 0 0 0),(3,.loc 0 1 1 0 l8.length l8.length),(5,.ptr 0 2 0),(6,.int .i64 i7),(36,.loc 0 3 2 0 8 8),(37,.int .i64 8),(38,.int .i64 i1)],[(0,.box ([.int .i64 r0.At.House,.int .i64 r0.At.No,.int .i64 r0.Kind,.int .i64 r0.Day,.int .i64 r0.Known,.int .i64 r0.Of.House,.int .i64 r0.Of.No,.str r0.Text])),(1,.arr 5 1 (List.map eU8 l8)),(2,.box (Vec.c (n:=2) eI x5)),(3,.arr 201 2 (List.map (Vec.c (n:=2) eI) [(⟨[r0.At.House,1],rfl⟩:(Vec 2 Int)),(⟨[r0.At.No,2],rfl⟩:(Vec 2 Int)),(⟨[r0.Kind,1],rfl⟩:(Vec 2 Int)),(⟨[r0.Day,4],rfl⟩:(Vec 2 Int)),(⟨[r0.Known,4],rfl⟩:(Vec 2 Int)),(⟨[r0.Of.House,1],rfl⟩:(Vec 2 Int)),(⟨[r0.Of.No,2],rfl⟩:(Vec 2 Int)),(⟨[(r0.Text.size:Int),1],rfl⟩:(Vec 2 Int))]))],[],4,Try.f88.ntmps⟩
noncomputable def Zao.x1 (r0:Record) (i1:Int):(List Int)→St:=fun(l9:(List Int))=>⟨[(1,.ptr 0 0 0),(3,.loc 0 1 1 0 l9.length l9.length),(36,.loc 0 2 2 0 8 8),(37,.int .i64 8),(38,.int .i64 i1)],[(0,.box ([.int .i64 r0.At.House,.int .i64 r0.At.No,.int .i64 r0.Kind,.int .i64 r0.Day,.int .i64 r0.Known,.int .i64 r0.Of.House,.int .i64 r0.Of.No,.str r0.Text])),(1,.arr 5 1 (List.map eU8 l9)),(2,.arr 201 2 (List.map (Vec.c (n:=2) eI) [(⟨[r0.At.House,1],rfl⟩:(Vec 2 Int)),(⟨[r0.At.No,2],rfl⟩:(Vec 2 Int)),(⟨[r0.Kind,1],rfl⟩:(Vec 2 Int)),(⟨[r0.Day,4],rfl⟩:(Vec 2 Int)),(⟨[r0.Known,4],rfl⟩:(Vec 2 Int)),(⟨[r0.Of.House,1],rfl⟩:(Vec 2 Int)),(⟨[r0.Of.No,2],rfl⟩:(Vec 2 Int)),(⟨[(r0.Text.size:Int),1],rfl⟩:(Vec 2 Int))]))],[],3,Try.f88.ntmps⟩
noncomputable def Zao.h0 (r0:Record):(Int×(List Int))→St:=fun(s:Int×(List Int))=>match s with
 |(i1,l2)=>⟨[(1,.ptr 0 0 0),(3,.loc 0 1 1 0 l2.length l2.length),(36,.loc 0 2 2 0 8 8),(37,.int .i64 8),(38,.int .i64 i1)],[(0,.box ([.int .i64 r0.At.House,.int .i64 r0.At.No,.int .i64 r0.Kind,.int .i64 r0.Day,.int .i64 r0.Known,.int .i64 r0.Of.House,.int .i64 r0.Of.No,.str r0.Text])),(1,.arr 5 1 (List.map eU8 l2)),(2,.arr 201 2 (List.map (Vec.c (n:=2) eI) [(⟨[r0.At.House,1],rfl⟩:(Vec 2 Int)),(⟨[r0.At.No,2],rfl⟩:(Vec 2 Int)),(⟨[r0.Kind,1],rfl⟩:(Vec 2 Int)),(⟨[r0.Day,4],rfl⟩:(Vec 2 Int)),(⟨[r0.Known,4],rfl⟩:(Vec 2 Int)),(⟨[r0.Of.House,1],rfl⟩:(Vec 2 Int)),(⟨[r0.Of.No,2],rfl⟩:(Vec 2 Int)),(⟨[(r0.Text.size:Int),1],rfl⟩:(Vec 2 Int))]))],[],3,Try.f88.ntmps⟩
noncomputable def Zao.x0 (r0:Record):(List Int)→St:=fun(l3:(List Int))=>⟨[(1,.ptr 0 0 0),(3,.loc 0 1 1 0 l3.length l3.length)],[(0,.box ([.int .i64 r0.At.House,.int .i64 r0.At.No,.int .i64 r0.Kind,.int .i64 r0.Day,.int .i64 r0.Known,.int .i64 r0.Of.House,.int .i64 r0.Of.No,.str r0.Text])),(1,.arr 5 1 (List.map eU8 l3))],[],2,Try.f88.ntmps⟩
def Zao (k:Nat) (r0:Record):Option ((List Int)):=
 (whl (Zao.b0 k r0) k (0,[])).bind fun r15=>match r15 with
 |.next _=>none
 |.ret v_=>some v_
 |.brk l3=>
  (ZmZ 1 l3 (ZfJ r0.Text)).bind fun l16=>
  some l16
theorem Zg3 (k:Nat) (r0:Record) (r:(List Int)) (h0:Zao k r0=some r):Za0 Try.prog 88 [.agg (Record.c r0)] (fun y=>y=.sl 1 (List.map eU8 r)):=by
 refine PB (fn:=Try.f88) (sc:=F88.c) ?_
 refine rS ?_
 simp only[Zao]at h0
 try simp only[F88.c,(@id (Vec.c (n:=2) eI (Vec.rep 2 (0:Int))=[.int .i64 0,.int .i64 0]) rfl),(@id ([.int .i64 r0.At.House,.int .i64 1]=Vec.c (n:=2) eI (⟨[r0.At.House,1],rfl⟩:(Vec 2 Int))) rfl),(@id ([.int .i64 r0.At.No,.int .i64 2]=Vec.c (n:=2) eI (⟨[r0.At.No,2],rfl⟩:(Vec 2 Int))) rfl),(@id ([.int .i64 r0.Kind,.int .i64 1]=Vec.c (n:=2) eI (⟨[r0.Kind,1],rfl⟩:(Vec 2 Int))) rfl),(@id ([.int .i64 r0.Day,.int .i64 4]=Vec.c (n:=2) eI (⟨[r0.Day,4],rfl⟩:(Vec 2 Int))) rfl),(@id ([.int .i64 r0.Known,.int .i64 4]=Vec.c (n:=2) eI (⟨[r0.Known,4],rfl⟩:(Vec 2 Int))) rfl),(@id ([.int .i64 r0.Of.House,.int .i64 1]=Vec.c (n:=2) eI (⟨[r0.Of.House,1],rfl⟩:(Vec 2 Int))) rfl),(@id ([.int .i64 r0.Of.No,.int .i64 2]=Vec.c (n:=2) eI (⟨[r0.Of.No,2],rfl⟩:(Vec 2 Int))) rfl),(@id ([.int .i64 (r0.Text.size:Int),.int .i64 1]=Vec.c (n:=2) eI (⟨[(r0.Text.size:Int),1],rfl⟩:(Vec 2 Int))) rfl),(@id (((8:Nat):Int)=8) rfl),go_sem]
 obtain⟨r15,yr15,h0⟩:=bs h0
 refine Zay yr15 (Zao.h0 r0) (Zao.x0 r0) ?_ ?_ ?_
 refine Za7.go [1,3,36,37,38] [0,32,512] rfl ?_
 try simp only[Zao.h0,go_sem]
 rintro⟨i1,l2⟩ x_1 Bk1 Br1 h1 hnext1 hbrk1 hret1
 refine rS ?_
 simp only[Zao.b0]at h1
 try simp only[F88.s0,Zao.h0,go_sem]
 refine Zab h1 ?_ ?_<;>intro c4 h1
 try simp only[c4,go_sem]
 obtain⟨x5,yx5,h1⟩:=bs h1
 have eyx5:=ZaF yx5
 simp only[c4,go_sem]at eyx5
 have gyx5:=Zaw (Vec.c (n:=2) eI) yx5
 try simp only[c4,go_sem]at gyx5
 try simp only[eyx5,gyx5,c4,go_sem]
 obtain⟨x6,yx6,h1⟩:=bs h1
 have uyx6:=UpdE.at (fun q_=>(Zbj.len q_:(eI q_).length=1)) (UpdE.self (fun q_=>((VK.vec Zbj 2).len q_:(Vec.c (n:=2) eI q_).length=2)) x5) yx6
 have buyx6:=uyx6.bound (fun q_=>(Zbj.len q_:(eI q_).length=1))
 have guyx6:=uyx6.get (fun q_=>(Zbj.len q_:(eI q_).length=1))
 try simp only[List.length_cons,List.length_nil,go_sem]at buyx6 guyx6
 try simp only[Zaa yx6,buyx6,guyx6,c4,eyx5,gyx5,go_sem]
 obtain⟨r14,yr14,h1⟩:=bs h1
 refine Zay yr14 (Zao.h1 r0 i1 x5) (Zao.x1 r0 i1) ?_ ?_ ?_
 refine Za7.go [1,3,5,6,36,37,38] [0,1,51,2] rfl ?_
 try simp only[Zao.h1,c4,eyx5,gyx5,Zaa yx6,buyx6,guyx6,go_sem]
 rintro⟨i7,l8⟩ x_2 Bk2 Br2 h2 hnext2 hbrk2 hret2
 refine rS ?_
 simp only[Zao.b1]at h2
 try simp only[F88.s1,Zao.h1,c4,eyx5,gyx5,Zaa yx6,buyx6,guyx6,go_sem]
 refine Zab h2 ?_ ?_<;>intro c10 h2
 try simp only[c10,c4,eyx5,gyx5,Zaa yx6,buyx6,guyx6,go_sem]
 obtain⟨x11,yx11,h2⟩:=bs h2
 have uyx11:=UpdE.at (fun q_=>(Zbj.len q_:(eI q_).length=1)) (UpdE.self (fun q_=>((VK.vec Zbj 2).len q_:(Vec.c (n:=2) eI q_).length=2)) x5) yx11
 have buyx11:=uyx11.bound (fun q_=>(Zbj.len q_:(eI q_).length=1))
 have guyx11:=uyx11.get (fun q_=>(Zbj.len q_:(eI q_).length=1))
 try simp only[List.length_cons,List.length_nil,go_sem]at buyx11 guyx11
 try simp only[Zaa yx11,buyx11,guyx11,c4,eyx5,gyx5,Zaa yx6,buyx6,guyx6,c10,go_sem]
 obtain⟨u12,yu12,h2⟩:=bs h2
 try simp only[Zdo yu12,c4,eyx5,gyx5,Zaa yx6,buyx6,guyx6,c10,Zaa yx11,buyx11,guyx11,go_sem]
 obtain⟨l13,yl13,h2⟩:=bs h2
 have eyl13:=ZcJ eU8 yl13
 have tyl13:=Zcf eU8 yl13
 have nyl13:=Zcz yl13
 have myl13:=Zce yl13
 try simp only[c4,eyx5,gyx5,Zaa yx6,buyx6,guyx6,c10,Zaa yx11,buyx11,guyx11,Zdo yu12,go_sem]at eyl13 tyl13 nyl13 myl13
 try simp only[myl13,eyl13,c4,eyx5,gyx5,Zaa yx6,buyx6,guyx6,c10,Zaa yx11,buyx11,guyx11,Zdo yu12,nyl13,tyl13,go_sem]
 refine Zaf (hnext2 _ _ (oi h2).symm ?_)
 refine Za7.go [1,3,5,6,36,37,38] [0,1,2,3] rfl ?_
 try simp only[Zao.h1,c4,eyx5,gyx5,Zaa yx6,buyx6,guyx6,c10,Zaa yx11,buyx11,guyx11,Zdo yu12,eyl13,nyl13,tyl13,go_sem]
 try simp only[c10,c4,eyx5,gyx5,Zaa yx6,buyx6,guyx6,go_sem]
 refine Zaf (hbrk2 _ _ (oi h2).symm ?_)
 refine Za7.go [1,3,36,37,38] [0,1,3] rfl ?_
 try simp only[Zao.x1,c4,eyx5,gyx5,Zaa yx6,buyx6,guyx6,c10,go_sem]
 rintro l9 hr_
 subst hr_
 simp only at h1
 refine rS ?_
 try simp only[Zao.x1,c4,eyx5,gyx5,Zaa yx6,buyx6,guyx6,go_sem]
 refine Zaf (hnext1 _ _ (oi h1).symm ?_)
 refine Za7.go [1,3,36,37,38] [0,1,2] rfl ?_
 try simp only[Zao.h0,c4,eyx5,gyx5,Zaa yx6,buyx6,guyx6,go_sem]
 try simp only[c4,go_sem]
 refine Zaf (hbrk1 _ _ (oi h1).symm ?_)
 refine Za7.go [1,3] [0,1] rfl ?_
 try simp only[Zao.x0,c4,go_sem]
 rintro l3 hr_
 subst hr_
 simp only at h0
 refine rS ?_
 try simp only[Zao.x0,go_sem]
 obtain⟨l16,yl16,h0⟩:=bs h0
 have eyl16:=Zlv eU8 yl16
 have tyl16:=Zjt eU8 yl16
 have nyl16:=Zjr yl16
 have myl16:=Zjs yl16
 try simp only[ZkZ,Zcw,(by decide:¬ ([9]:List TypeId)=[56]),go_sem]at eyl16 tyl16 nyl16 myl16
 try simp only[myl16,eyl16,ZkZ,Zcw,(by decide:¬ ([9]:List TypeId)=[56]),nyl16,tyl16,go_sem]
 obtain rfl:=oi h0
 refine Zad rfl ?_
 try simp only[F88.rs,eyl16,nyl16,tyl16,go_sem]
def F115.c:SC:=
 (.seq
 (.reg [oq 6 (.alloc 126) 0 []])
 (.seq
 (.reg [oq 7 (.alloc 126) 0 []])
 (.seq
 (.reg [mv 8 0 5 [0],
 mv 9 1 3 [],
 oq 10 (.binOp .shr 3 (.tmp 9) (.const (.int .u64 16)) 211) 3 [9],
 oq 11 (.convert 3 5 (.tmp 10)) 5 [10],
 mv 12 1 3 [],
 oq 13 (.binOp .shr 3 (.tmp 12) (.const (.int .u64 8)) 211) 3 [12],
 oq 14 (.convert 3 5 (.tmp 13)) 5 [13],
 mv 15 1 3 [1],
 oq 16 (.convert 3 5 (.tmp 15)) 5 [15],
 oq 17 (.indexAddr 126 (.tmp 7) (.const (.int .i64 0))) 0 [],
 ⟨none,.store 5 (.tmp 17) (.tmp 8),0,none,[8,17]⟩,
 oq 18 (.indexAddr 126 (.tmp 7) (.const (.int .i64 1))) 0 [],
 ⟨none,.store 5 (.tmp 18) (.tmp 11),0,none,[11,18]⟩,
 oq 19 (.indexAddr 126 (.tmp 7) (.const (.int .i64 2))) 0 [],
 ⟨none,.store 5 (.tmp 19) (.tmp 14),0,none,[14,19]⟩,
 oq 20 (.indexAddr 126 (.tmp 7) (.const (.int .i64 3))) 0 [],
 ⟨none,.store 5 (.tmp 20) (.tmp 16),0,none,[16,20]⟩,
 oq 21 (.indexAddr 126 (.tmp 7) (.const (.int .i64 31))) 0 [],
 ⟨none,.store 5 (.tmp 21) (.const (.int .u8 165)),0,none,[21]⟩])
 (.seq
 (.reg [mv 22 2 3 [],
 oq 23 (.binOp .shr 3 (.tmp 22) (.const (.int .u64 8)) 211) 3 [22],
 oq 24 (.convert 3 5 (.tmp 23)) 5 [23],
 mv 25 2 3 [2],
 oq 26 (.convert 3 5 (.tmp 25)) 5 [25],
 oq 27 (.indexAddr 126 (.tmp 7) (.const (.int .i64 4))) 0 [],
 ⟨none,.store 5 (.tmp 27) (.tmp 24),0,none,[24,27]⟩,
 oq 28 (.indexAddr 126 (.tmp 7) (.const (.int .i64 5))) 0 [],
 ⟨none,.store 5 (.tmp 28) (.tmp 26),0,none,[26,28]⟩])
 (.seq
 (.reg [ld 29 126 7 [7],
 ⟨none,.store 126 (.tmp 6) (.tmp 29),0,none,[29]⟩])
 .ret)))))
theorem F115.rs:Try.f115.results.toList=[.cell 6 126]:=rfl
def Zem (k:Nat) (first0:Int) (epoch1:Int) (number2:Int):Option ((Vec 32 Int)):=
 ((Vec.rep 32 (0:Int)).at? 0).bind fun x1=>
 (((Vec.rep 32 (0:Int)).set 0 first0).at? 1).bind fun x3=>
 ((((Vec.rep 32 (0:Int)).set 0 first0).set 1 (IntKind.u8.wrap (Int.fdiv epoch1 (2 ^ 16)))).at? 2).bind fun x5=>
 (((((Vec.rep 32 (0:Int)).set 0 first0).set 1 (IntKind.u8.wrap (Int.fdiv epoch1 (2 ^ 16)))).set 2 (IntKind.u8.wrap (Int.fdiv epoch1 (2 ^ 8)))).at? 3).bind fun x7=>
 ((((((Vec.rep 32 (0:Int)).set 0 first0).set 1 (IntKind.u8.wrap (Int.fdiv epoch1 (2 ^ 16)))).set 2 (IntKind.u8.wrap (Int.fdiv epoch1 (2 ^ 8)))).set 3 (IntKind.u8.wrap epoch1)).at? 31).bind fun x9=>
 (((((((Vec.rep 32 (0:Int)).set 0 first0).set 1 (IntKind.u8.wrap (Int.fdiv epoch1 (2 ^ 16)))).set 2 (IntKind.u8.wrap (Int.fdiv epoch1 (2 ^ 8)))).set 3 (IntKind.u8.wrap epoch1)).set 31 165).at? 4).bind fun x11=>
 ((((((((Vec.rep 32 (0:Int)).set 0 first0).set 1 (IntKind.u8.wrap (Int.fdiv epoch1 (2 ^ 16)))).set 2 (IntKind.u8.wrap (Int.fdiv epoch1 (2 ^ 8)))).set 3 (IntKind.u8.wrap epoch1)).set 31 165).set 4 (IntKind.u8.wrap (Int.fdiv number2 (2 ^ 8)))).at? 5).bind fun x13=>
 some ((((((((Vec.rep 32 (0:Int)).set 0 first0).set 1 (IntKind.u8.wrap (Int.fdiv epoch1 (2 ^ 16)))).set 2 (IntKind.u8.wrap (Int.fdiv epoch1 (2 ^ 8)))).set 3 (IntKind.u8.wrap epoch1)).set 31 165).set 4 (IntKind.u8.wrap (Int.fdiv number2 (2 ^ 8)))).set 5 (IntKind.u8.wrap number2))
theorem Zg2 (k:Nat) (first0:Int) (epoch1:Int) (number2:Int) (r:(Vec 32 Int)) (h0:Zem k first0 epoch1 number2=some r):Za0 Try.prog 115 [.int .u8 first0,.int .i64 epoch1,.int .i64 number2] (fun y=>y=.agg ((Vec.c (n:=32) eU8) r)):=by
 refine PB (fn:=Try.f115) (sc:=F115.c) ?_
 refine rS ?_
 simp only[Zem]at h0
 try simp only[F115.c,(@id (min (Int.toNat 16) 64=16) rfl),(@id (min (Int.toNat 8) 64=8) rfl),go_sem]
 have hz:=bs h0;clear h0;cases hz;rename_i x1 hz;cases hz;rename_i yx1 h0
 have uyx1:=UpdE.at (fun q_=>(Zar.len q_:(eU8 q_).length=1)) (UpdE.self (fun q_=>((VK.vec Zar 32).len q_:(Vec.c (n:=32) eU8 q_).length=32)) (Vec.rep 32 (0:Int))) yx1
 have buyx1:=uyx1.bound (fun q_=>(Zar.len q_:(eU8 q_).length=1))
 have guyx1:=uyx1.get (fun q_=>(Zar.len q_:(eU8 q_).length=1))
 try simp only[List.length_cons,List.length_nil,go_sem]at buyx1 guyx1
 have q2:=uyx1.ow first0
 try simp only[List.length_cons,List.length_nil,go_sem]at q2
 try simp only[Zaa yx1,buyx1,guyx1,q2,go_sem]
 have hz:=bs h0;clear h0;cases hz;rename_i x3 hz;cases hz;rename_i yx3 h0
 have uyx3:=UpdE.at (fun q_=>(Zar.len q_:(eU8 q_).length=1)) (UpdE.self (fun q_=>((VK.vec Zar 32).len q_:(Vec.c (n:=32) eU8 q_).length=32)) ((Vec.rep 32 (0:Int)).set 0 first0)) yx3
 have buyx3:=uyx3.bound (fun q_=>(Zar.len q_:(eU8 q_).length=1))
 have guyx3:=uyx3.get (fun q_=>(Zar.len q_:(eU8 q_).length=1))
 try simp only[List.length_cons,List.length_nil,go_sem]at buyx3 guyx3
 have q4:=uyx3.ow (IntKind.u8.wrap (Int.fdiv epoch1 (2 ^ 16)))
 try simp only[List.length_cons,List.length_nil,go_sem]at q4
 try simp only[Zaa yx3,buyx3,guyx3,q4,Zaa yx1,buyx1,guyx1,go_sem]
 have hz:=bs h0;clear h0;cases hz;rename_i x5 hz;cases hz;rename_i yx5 h0
 have uyx5:=UpdE.at (fun q_=>(Zar.len q_:(eU8 q_).length=1)) (UpdE.self (fun q_=>((VK.vec Zar 32).len q_:(Vec.c (n:=32) eU8 q_).length=32)) (((Vec.rep 32 (0:Int)).set 0 first0).set 1 (IntKind.u8.wrap (Int.fdiv epoch1 (2 ^ 16))))) yx5
 have buyx5:=uyx5.bound (fun q_=>(Zar.len q_:(eU8 q_).length=1))
 have guyx5:=uyx5.get (fun q_=>(Zar.len q_:(eU8 q_).length=1))
 try simp only[List.length_cons,List.length_nil,go_sem]at buyx5 guyx5
 have q6:=uyx5.ow (IntKind.u8.wrap (Int.fdiv epoch1 (2 ^ 8)))
 try simp only[List.length_cons,List.length_nil,go_sem]at q6
 try simp only[Zaa yx5,buyx5,guyx5,q6,Zaa yx1,buyx1,guyx1,Zaa yx3,buyx3,guyx3,go_sem]
 have hz:=bs h0;clear h0;cases hz;rename_i x7 hz;cases hz;rename_i yx7 h0
 have uyx7:=UpdE.at (fun q_=>(Zar.len q_:(eU8 q_).length=1)) (UpdE.self (fun q_=>((VK.vec Zar 32).len q_:(Vec.c (n:=32) eU8 q_).length=32)) ((((Vec.rep 32 (0:Int)).set 0 first0).set 1 (IntKind.u8.wrap (Int.fdiv epoch1 (2 ^ 16)))).set 2 (IntKind.u8.wrap (Int.fdiv epoch1 (2 ^ 8))))) yx7
 have buyx7:=uyx7.bound (fun q_=>(Zar.len q_:(eU8 q_).length=1))
 have guyx7:=uyx7.get (fun q_=>(Zar.len q_:(eU8 q_).length=1))
 try simp only[List.length_cons,List.length_nil,go_sem]at buyx7 guyx7
 have q8:=uyx7.ow (IntKind.u8.wrap epoch1)
 try simp only[List.length_cons,List.length_nil,go_sem]at q8
 try simp only[Zaa yx7,buyx7,guyx7,q8,Zaa yx1,buyx1,guyx1,Zaa yx3,buyx3,guyx3,Zaa yx5,buyx5,guyx5,go_sem]
 have hz:=bs h0;clear h0;cases hz;rename_i x9 hz;cases hz;rename_i yx9 h0
 have uyx9:=UpdE.at (fun q_=>(Zar.len q_:(eU8 q_).length=1)) (UpdE.self (fun q_=>((VK.vec Zar 32).len q_:(Vec.c (n:=32) eU8 q_).length=32)) (((((Vec.rep 32 (0:Int)).set 0 first0).set 1 (IntKind.u8.wrap (Int.fdiv epoch1 (2 ^ 16)))).set 2 (IntKind.u8.wrap (Int.fdiv epoch1 (2 ^ 8)))).set 3 (IntKind.u8.wrap epoch1))) yx9
 have buyx9:=uyx9.bound (fun q_=>(Zar.len q_:(eU8 q_).length=1))
 have guyx9:=uyx9.get (fun q_=>(Zar.len q_:(eU8 q_).length=1))
 try simp only[List.length_cons,List.length_nil,go_sem]at buyx9 guyx9
 have q10:=uyx9.ow 165
 try simp only[List.length_cons,List.length_nil,go_sem]at q10
 try simp only[Zaa yx9,buyx9,guyx9,q10,(@id (min (Int.toNat 8) 64=8) rfl),Zaa yx1,buyx1,guyx1,Zaa yx3,buyx3,guyx3,Zaa yx5,buyx5,guyx5,Zaa yx7,buyx7,guyx7,go_sem]
 have hz:=bs h0;clear h0;cases hz;rename_i x11 hz;cases hz;rename_i yx11 h0
 have uyx11:=UpdE.at (fun q_=>(Zar.len q_:(eU8 q_).length=1)) (UpdE.self (fun q_=>((VK.vec Zar 32).len q_:(Vec.c (n:=32) eU8 q_).length=32)) ((((((Vec.rep 32 (0:Int)).set 0 first0).set 1 (IntKind.u8.wrap (Int.fdiv epoch1 (2 ^ 16)))).set 2 (IntKind.u8.wrap (Int.fdiv epoch1 (2 ^ 8)))).set 3 (IntKind.u8.wrap epoch1)).set 31 165)) yx11
 have buyx11:=uyx11.bound (fun q_=>(Zar.len q_:(eU8 q_).length=1))
 have guyx11:=uyx11.get (fun q_=>(Zar.len q_:(eU8 q_).length=1))
 try simp only[List.length_cons,List.length_nil,go_sem]at buyx11 guyx11
 have q12:=uyx11.ow (IntKind.u8.wrap (Int.fdiv number2 (2 ^ 8)))
 try simp only[List.length_cons,List.length_nil,go_sem]at q12
 try simp only[Zaa yx11,buyx11,guyx11,q12,Zaa yx1,buyx1,guyx1,Zaa yx3,buyx3,guyx3,Zaa yx5,buyx5,guyx5,Zaa yx7,buyx7,guyx7,Zaa yx9,buyx9,guyx9,go_sem]
 have hz:=bs h0;clear h0;cases hz;rename_i x13 hz;cases hz;rename_i yx13 h0
 have uyx13:=UpdE.at (fun q_=>(Zar.len q_:(eU8 q_).length=1)) (UpdE.self (fun q_=>((VK.vec Zar 32).len q_:(Vec.c (n:=32) eU8 q_).length=32)) (((((((Vec.rep 32 (0:Int)).set 0 first0).set 1 (IntKind.u8.wrap (Int.fdiv epoch1 (2 ^ 16)))).set 2 (IntKind.u8.wrap (Int.fdiv epoch1 (2 ^ 8)))).set 3 (IntKind.u8.wrap epoch1)).set 31 165).set 4 (IntKind.u8.wrap (Int.fdiv number2 (2 ^ 8))))) yx13
 have buyx13:=uyx13.bound (fun q_=>(Zar.len q_:(eU8 q_).length=1))
 have guyx13:=uyx13.get (fun q_=>(Zar.len q_:(eU8 q_).length=1))
 try simp only[List.length_cons,List.length_nil,go_sem]at buyx13 guyx13
 have q14:=uyx13.ow (IntKind.u8.wrap number2)
 try simp only[List.length_cons,List.length_nil,go_sem]at q14
 try simp only[Zaa yx13,buyx13,guyx13,q14,Zaa yx1,buyx1,guyx1,Zaa yx3,buyx3,guyx3,Zaa yx5,buyx5,guyx5,Zaa yx7,buyx7,guyx7,Zaa yx9,buyx9,guyx9,Zaa yx11,buyx11,guyx11,go_sem]
 obtain rfl:=oi h0
 refine Zad rfl ?_
 try simp only[F115.rs,Zaa yx1,buyx1,guyx1,Zaa yx3,buyx3,guyx3,Zaa yx5,buyx5,guyx5,Zaa yx7,buyx7,guyx7,Zaa yx9,buyx9,guyx9,Zaa yx11,buyx11,guyx11,Zaa yx13,buyx13,guyx13,go_sem]
def F66.s0:SC:=
 (.seq
 (.reg [b2 21 .lss 3 20 19 3 4 []])
 (.seq
 (.cond (.tmp 21)
 .skip
 (.exit 0))
 (.seq
 (.block 1
 (.seq
 (.reg [mv 22 20 3 [],
 sg 10 22 3 [22]])
 (.seq
 (.reg [mv 23 2 3 [],
 mv 24 1 3 [],
 oq 25 (.call ⟨.value (.func 115),#[.const (.int .u8 112),.tmp 23,.tmp 24],#[5,3,3]⟩) 126 [23,24],
 oq 11 (.alloc 126) 0 [],
 ⟨none,.store 126 (.tmp 11) (.tmp 25),0,none,[25]⟩])
 (.seq
 (.reg [mv 26 10 3 [],
 oq 27 (.convert 3 5 (.tmp 26)) 5 [26],
 mv 28 9 3 [],
 oq 29 (.convert 3 5 (.tmp 28)) 5 [28],
 oq 30 (.indexAddr 126 (.tmp 11) (.const (.int .i64 6))) 0 [],
 ⟨none,.store 5 (.tmp 30) (.tmp 27),0,none,[27,30]⟩,
 oq 31 (.indexAddr 126 (.tmp 11) (.const (.int .i64 7))) 0 [],
 ⟨none,.store 5 (.tmp 31) (.tmp 29),0,none,[29,31]⟩])
 (.seq
 (.dreg [oq 32 (.slice 126 (.tmp 11) (some (.const (.int .i64 8))) (some (.const (.int .i64 31))) none) 56 [],
 mv 33 8 56 [],
 mv 34 10 3 [],
 bn 35 .mul 3 34 23 3 3 [],
 mv 36 8 56 [],
 ln 37 36 56 3 [],
 mv 38 10 3 [],
 bn 39 .add 3 38 1 3 3 [],
 bn 40 .mul 3 39 23 3 3 [],
 oq 41 (.call ⟨.builtin .min,#[.tmp 37,.tmp 40],#[3,3]⟩) 3 [],
 oq 42 (.slice 56 (.tmp 33) (some (.tmp 35)) (some (.tmp 41)) none) 56 [],
 oq 43 (.call ⟨.builtin .copy,#[.tmp 32,.tmp 42],#[56,56]⟩) 3 []] [[],[],[],[2],[],[4],[],[6],[6,7],[4,5,6,7,8],[1,2,3,4,5,6,7,8,9],[0,1,2,3,4,5,6,7,8,9,10]] [10,32,33,34,35,36,37,38,39,40,41,42,43])
 (.reg [mv 44 7 124 [7],
 ld 45 126 11 [11],
 oq 46 (.buildSlice 124 1 #[(0,.tmp 45)]) 124 [45],
 oq 47 (.call ⟨.builtin .append,#[.tmp 44,.tmp 46],#[124,124]⟩) 124 [44,46],
 sg 7 47 124 [47]]))))))
 (.reg [bn 48 .add 3 20 1 3 3 [20],
 mv 20 48 3 [48]]))))
def F66.c:SC:=
 (.seq
 (.reg [oq 3 (.box 25 (.tmp 0)) 0 [0],
 oq 6 (.assign (.const (.slice none 0 0))) 124 [6]])
 (.seq
 (.reg [oq 7 (.assign (.const (.slice none 0 0))) 124 []])
 (.seq
 (.reg [ld 12 25 3 [3],
 cf1 13 88 12 25 56 [12],
 sg 8 13 56 [13]])
 (.seq
 (.reg [mv 14 8 56 [],
 ln 15 14 56 3 [14],
 bn 16 .add 3 15 23 3 3 [15],
 bn 17 .sub 3 16 1 3 3 [16],
 bn 18 .quo 3 17 23 3 3 [17],
 sg 9 18 3 [18]])
 (.seq
 (.seq
 (.reg [mv 19 9 3 [],
 oq 20 (.move (.const (.int .i64 0))) 3 []])
 (.block 0
 (.loop F66.s0)))
 (.seq
 (.reg [mv 49 7 124 [7],
 sg 6 49 124 [49]])
 .ret))))))
theorem F66.rs:Try.f66.results.toList=[.tmp 6]:=rfl
def Za4.b0 (k:Nat) (number1:Int) (epoch2:Int) (x1:(List Int)):(Int×(List (Vec 32 Int)))→Option (Stp (Int×(List (Vec 32 Int))) ((List (Vec 32 Int))) ((List (Vec 32 Int)))):=fun(s:Int×(List (Vec 32 Int)))=>match s with
 |(i2,l3)=>
   bif decide (i2<w64 (Int.tdiv (w64 ((w64 ((x1.length:Int)+23)) - 1)) 23)) then
    (Zem k 112 epoch2 number1).bind fun x6=>
    (x6.at? 6).bind fun x7=>
    ((x6.set 6 (IntKind.u8.wrap i2)).at? 7).bind fun x9=>
    (ZlT x1 (w64 (i2*23)) (min (x1.length:Int) (w64 ((w64 (i2+1))*23)))).bind fun l11=>
    (ZdM 32 l3 (((x6.set 6 (IntKind.u8.wrap i2)).set 7 (IntKind.u8.wrap (w64 (Int.tdiv (w64 ((w64 ((x1.length:Int)+23)) - 1)) 23)))).put 8 23 l11)).bind fun l13=>
    some (.next (w64 (i2+1),l13))
   else
    some (.brk l3)
noncomputable def Za4.h0 (number1:Int) (epoch2:Int) (x1:(List Int)):(Int×(List (Vec 32 Int)))→St:=fun(s:Int×(List (Vec 32 Int)))=>match s with
 |(i2,l3)=>⟨[(1,.int .i64 number1),(2,.int .i64 epoch2),(7,.loc 0 0 32 0 l3.length l3.length),(8,.sl 1 (List.map eU8 x1)),(9,.int .i64 (w64 (Int.tdiv (w64 ((w64 ((x1.length:Int)+23)) - 1)) 23))),(19,.int .i64 (w64 (Int.tdiv (w64 ((w64 ((x1.length:Int)+23)) - 1)) 23))),(20,.int .i64 i2)],[(0,.arr 126 32 (List.map (Vec.c (n:=32) eU8) l3))],[],1,Try.f66.ntmps⟩
noncomputable def Za4.x0:(List (Vec 32 Int))→St:=fun(l4:(List (Vec 32 Int)))=>⟨[(7,.loc 0 0 32 0 l4.length l4.length)],[(0,.arr 126 32 (List.map (Vec.c (n:=32) eU8) l4))],[],1,Try.f66.ntmps⟩
def Za4 (k:Nat) (r0:Record) (number1:Int) (epoch2:Int):Option ((List (Vec 32 Int))):=
 (Zao k r0).bind fun x1=>
 (whl (Za4.b0 k number1 epoch2 x1) k (0,[])).bind fun r14=>match r14 with
 |.next _=>none
 |.ret v_=>some v_
 |.brk l4=>
  some l4
theorem Zd3 (k:Nat) (r0:Record) (number1:Int) (epoch2:Int) (r:(List (Vec 32 Int))) (h0:Za4 k r0 number1 epoch2=some r):Za0 Try.prog 66 [.agg (Record.c r0),.int .i64 number1,.int .i64 epoch2] (fun y=>y=.sl 32 (List.map (Vec.c (n:=32) eU8) r)):=by
 refine PB (fn:=Try.f66) (sc:=F66.c) ?_
 refine rS ?_
 simp only[Za4]at h0
 try simp only[F66.c,go_sem]
 obtain⟨x1,yx1,h0⟩:=bs h0
 refine zc0 (Zg3 k _ _ yx1) ?_ (by first|rfl|(simp[AV.refsL,AV.refs,AV.scal,AV.leaf];done)|simp[AV.refsL,AV.refs,AV.scal,AV.leaf,go_sem]) ?_
 try simp only[go_sem]
 try simp only[go_sem]
 obtain⟨r14,yr14,h0⟩:=bs h0
 refine Zay yr14 (Za4.h0 number1 epoch2 x1) (Za4.x0) ?_ ?_ ?_
 refine Za7.go [1,2,7,8,9,19,20] [32] rfl ?_
 try simp only[Za4.h0,go_sem]
 rintro⟨i2,l3⟩ x_1 Bk1 Br1 h1 hnext1 hbrk1 hret1
 refine rS ?_
 simp only[Za4.b0]at h1
 try simp only[F66.s0,Za4.h0,go_sem]
 refine Zab h1 ?_ ?_<;>intro c5 h1
 try simp only[c5,go_sem]
 obtain⟨x6,yx6,h1⟩:=bs h1
 refine zc0 (Zg2 k _ _ _ _ yx6) ?_ (by first|rfl|(simp[AV.refsL,AV.refs,AV.scal,AV.leaf];done)|simp[AV.refsL,AV.refs,AV.scal,AV.leaf,go_sem]) ?_
 try simp only[c5,go_sem]
 try simp only[c5,go_sem]
 obtain⟨x7,yx7,h1⟩:=bs h1
 have uyx7:=UpdE.at (fun q_=>(Zar.len q_:(eU8 q_).length=1)) (UpdE.self (fun q_=>((VK.vec Zar 32).len q_:(Vec.c (n:=32) eU8 q_).length=32)) x6) yx7
 have buyx7:=uyx7.bound (fun q_=>(Zar.len q_:(eU8 q_).length=1))
 have guyx7:=uyx7.get (fun q_=>(Zar.len q_:(eU8 q_).length=1))
 try simp only[List.length_cons,List.length_nil,go_sem]at buyx7 guyx7
 have q8:=uyx7.ow (IntKind.u8.wrap i2)
 try simp only[List.length_cons,List.length_nil,go_sem]at q8
 try simp only[Zaa yx7,buyx7,guyx7,q8,c5,go_sem]
 obtain⟨x9,yx9,h1⟩:=bs h1
 have uyx9:=UpdE.at (fun q_=>(Zar.len q_:(eU8 q_).length=1)) (UpdE.self (fun q_=>((VK.vec Zar 32).len q_:(Vec.c (n:=32) eU8 q_).length=32)) (x6.set 6 (IntKind.u8.wrap i2))) yx9
 have buyx9:=uyx9.bound (fun q_=>(Zar.len q_:(eU8 q_).length=1))
 have guyx9:=uyx9.get (fun q_=>(Zar.len q_:(eU8 q_).length=1))
 try simp only[List.length_cons,List.length_nil,go_sem]at buyx9 guyx9
 have q10:=uyx9.ow (IntKind.u8.wrap (w64 (Int.tdiv (w64 ((w64 ((x1.length:Int)+23)) - 1)) 23)))
 try simp only[List.length_cons,List.length_nil,go_sem]at q10
 try simp only[Zaa yx9,buyx9,guyx9,q10,c5,Zaa yx7,buyx7,guyx7,go_sem]
 refine Zat Za9 Zau 1000 ?_
 try simp only[(@id (Int.toNat 8=8) rfl),(@id (Int.toNat 31=31) rfl),(@id (Zbr 32 (some (.int .i64 8)) (some (.int .i64 31))=some (8,31)) rfl),(@id (31 - 8=23) rfl),c5,Zaa yx7,buyx7,guyx7,Zaa yx9,buyx9,guyx9,go_sem]
 obtain⟨l11,yl11,h1⟩:=bs h1
 have eyl11:=ZlU eU8 yl11
 try simp only[go_sem]at eyl11
 have q12:=Zpm (n:=32) ((x6.set 6 (IntKind.u8.wrap i2)).set 7 (IntKind.u8.wrap (w64 (Int.tdiv (w64 ((w64 ((x1.length:Int)+23)) - 1)) 23)))) 8 23 l11 (by decide)
 try simp only[go_sem]at q12
 try simp only[Zn2 yl11,eyl11,q12,c5,Zaa yx7,buyx7,guyx7,Zaa yx9,buyx9,guyx9,(@id (Int.toNat 8=8) rfl),(@id (Int.toNat 31=31) rfl),(@id (Zbr 32 (some (.int .i64 8)) (some (.int .i64 31))=some (8,31)) rfl),(@id (31 - 8=23) rfl),go_sem]
 refine ZaB ⟨ZaC (by simp only[ZdN,List.reverse_cons,List.reverse_nil,List.nil_append,List.cons_append,List.map_cons,List.map_nil,List.append_nil];rfl) (by first|decide +kernel|rfl),Zag Za9 1000 _ _ ?_⟩
 try simp only[c5,Zaa yx7,buyx7,guyx7,Zaa yx9,buyx9,guyx9,(@id (Int.toNat 8=8) rfl),(@id (Int.toNat 31=31) rfl),(@id (Zbr 32 (some (.int .i64 8)) (some (.int .i64 31))=some (8,31)) rfl),(@id (31 - 8=23) rfl),eyl11,go_sem]
 obtain⟨l13,yl13,h1⟩:=bs h1
 have eyl13:=ZcJ (Vec.c (n:=32) eU8) yl13
 have tyl13:=Zcf (Vec.c (n:=32) eU8) yl13
 have nyl13:=Zcz yl13
 have myl13:=Zce yl13
 try simp only[c5,Zaa yx7,buyx7,guyx7,Zaa yx9,buyx9,guyx9,(@id (Int.toNat 8=8) rfl),(@id (Int.toNat 31=31) rfl),(@id (Zbr 32 (some (.int .i64 8)) (some (.int .i64 31))=some (8,31)) rfl),(@id (31 - 8=23) rfl),eyl11,go_sem]at eyl13 tyl13 nyl13 myl13
 try simp only[myl13,eyl13,c5,Zaa yx7,buyx7,guyx7,Zaa yx9,buyx9,guyx9,(@id (Int.toNat 8=8) rfl),(@id (Int.toNat 31=31) rfl),(@id (Zbr 32 (some (.int .i64 8)) (some (.int .i64 31))=some (8,31)) rfl),(@id (31 - 8=23) rfl),eyl11,nyl13,tyl13,go_sem]
 refine Zaf (hnext1 _ _ (oi h1).symm ?_)
 refine Za7.go [1,2,7,8,9,19,20] [0] rfl ?_
 try simp only[Za4.h0,c5,Zaa yx7,buyx7,guyx7,Zaa yx9,buyx9,guyx9,(@id (Int.toNat 8=8) rfl),(@id (Int.toNat 31=31) rfl),(@id (Zbr 32 (some (.int .i64 8)) (some (.int .i64 31))=some (8,31)) rfl),(@id (31 - 8=23) rfl),eyl11,eyl13,nyl13,tyl13,go_sem]
 try simp only[c5,go_sem]
 refine Zaf (hbrk1 _ _ (oi h1).symm ?_)
 refine Za7.go [7] [0] rfl ?_
 try simp only[Za4.x0,c5,go_sem]
 rintro l4 hr_
 subst hr_
 simp only at h0
 refine rS ?_
 try simp only[Za4.x0,go_sem]
 obtain rfl:=oi h0
 refine Zad rfl ?_
 try simp only[F66.rs,go_sem]
def F15.s0:SC:=
 (.seq
 (.reg [b2 31 .lss 3 30 29 3 0 []])
 (.seq
 (.cond (.tmp 31)
 .skip
 (.exit 0))
 (.seq
 (.block 1
 (.seq
 (.reg [ia 32 124 28 30 [],
 ld 33 126 32 [32],
 oq 11 (.alloc 126) 0 [],
 ⟨none,.store 126 (.tmp 11) (.tmp 33),0,none,[33]⟩])
 (.reg [mv 34 9 27 [9],
 ld 35 126 11 [11],
 oq 36 (.buildSlice 27 1 #[(0,.tmp 35)]) 27 [35],
 oq 37 (.call ⟨.builtin .append,#[.tmp 34,.tmp 36],#[27,27]⟩) 27 [34,36],
 sg 9 37 27 [37]])))
 (.reg [bn 38 .add 3 30 1 3 3 [30],
 mv 30 38 3 [38]]))))
def F15.c:SC:=
 (.seq
 (.reg [oq 3 (.box 25 (.tmp 0)) 0 [0],
 oq 6 (.assign (.const (.slice none 0 0))) 27 [6],
 sn 7 0 28 [7]])
 (.seq
 (.seq
 (.reg [ld 12 25 3 [],
 cf1 13 30 12 25 28 [12],
 sg 8 13 28 [13]])
 (.seq
 (.reg [mv 14 8 28 [],
 bn 15 .neq 28 14 0 28 4 [14]])
 (.cond (.tmp 15)
 (.seq
 (.reg [mv 16 8 28 [8],
 oq 6 (.assign (.const (.slice none 0 0))) 27 [],
 sg 7 16 28 [16]])
 .ret)
 .skip)))
 (.seq
 (.seq
 (.reg [mv 17 1 3 [],
 oq 18 (.call ⟨.value (.func 65),#[.tmp 17,.const (.int .i64 0),.const (.int .i64 59)],#[3,3,3]⟩) 4 [17],
 oq 19 (.unOp .not 4 (.tmp 18)) 4 [18],
 mv 20 19 4 [19],
 og 21 (.move (.tmp 2)) 3 20 false [],
 og 22 (.call ⟨.value (.func 65),#[.tmp 21,.const (.int .i64 1),.const (.int .i64 1000000)],#[3,3,3]⟩) 4 20 false [21],
 og 23 (.unOp .not 4 (.tmp 22)) 4 20 false [22],
 oq 24 (.pick (.tmp 20) (.const (.bool true)) (.tmp 23)) 4 [20,23]])
 (.cond (.tmp 24)
 (.seq
 (.reg [oq 6 (.assign (.const (.slice none 0 0))) 27 [],
 sn 7 1 28 []])
 .ret)
 .skip))
 (.seq
 (.reg [oq 9 (.assign (.const (.slice none 0 0))) 27 []])
 (.seq
 (.seq
 (.reg [ld 25 25 3 [3],
 mv 26 1 3 [1],
 mv 27 2 3 [2],
 oq 28 (.call ⟨.value (.func 66),#[.tmp 25,.tmp 26,.tmp 27],#[25,3,3]⟩) 124 [25,26,27],
 ln 29 28 124 3 [],
 oq 30 (.move (.const (.int .i64 0))) 3 []])
 (.block 0
 (.loop F15.s0)))
 (.seq
 (.reg [mv 39 9 27 [9],
 sg 6 39 27 [39],
 sn 7 0 28 []])
 .ret))))))
theorem F15.rs:Try.f15.results.toList=[.tmp 6,.tmp 7]:=rfl
def ZaR.b0 (k:Nat) (x7:(List (Vec 32 Int))):(Int×(List (Vec 32 Int)))→Option (Stp (Int×(List (Vec 32 Int))) ((List (Vec 32 Int))) ((List (Vec 32 Int))×Int)):=fun(s:Int×(List (Vec 32 Int)))=>match s with
 |(i8,l9)=>
   bif decide (i8<(x7.length:Int)) then
    (at? x7 i8).bind fun x12=>
    (ZdM 32 l9 x12).bind fun l13=>
    some (.next (w64 (i8+1),l13))
   else
    some (.brk l9)
noncomputable def ZaR.h0 (x7:(List (Vec 32 Int))):(Int×(List (Vec 32 Int)))→St:=fun(s:Int×(List (Vec 32 Int)))=>match s with
 |(i8,l9)=>⟨[(9,.loc 0 0 32 0 l9.length l9.length),(28,.sl 32 (List.map (Vec.c (n:=32) eU8) x7)),(29,.int .i64 (x7.length:Int)),(30,.int .i64 i8)],[(0,.arr 122 32 (List.map (Vec.c (n:=32) eU8) l9))],[],1,Try.f15.ntmps⟩
noncomputable def ZaR.x0:(List (Vec 32 Int))→St:=fun(l10:(List (Vec 32 Int)))=>⟨[(9,.loc 0 0 32 0 l10.length l10.length)],[(0,.arr 122 32 (List.map (Vec.c (n:=32) eU8) l10))],[],1,Try.f15.ntmps⟩
def ZaR (k:Nat) (r0:Record) (number1:Int) (epoch2:Int):Option ((List (Vec 32 Int))×Int):=
 (Zcy k r0).bind fun x1=>
 bif (!decide (x1=(0:Int))) then
  some ([],x1)
 else
  (ZaH k number1 0 59).bind fun x3=>
  bif x3 then
   (ZaH k epoch2 1 1000000).bind fun x5=>
   bif (!x5) then
    some ([],1)
   else
    (Za4 k r0 number1 epoch2).bind fun x7=>
    (whl (ZaR.b0 k x7) k (0,[])).bind fun r14=>match r14 with
    |.next _=>none
    |.ret v_=>some v_
    |.brk l10=>
     some (l10,0)
  else
   some ([],1)
theorem ZiF (k:Nat) (r0:Record) (number1:Int) (epoch2:Int) (r:(List (Vec 32 Int))×Int) (h0:ZaR k r0 number1 epoch2=some r):Za0 Try.prog 15 [.agg (Record.c r0),.int .i64 number1,.int .i64 epoch2] (fun y=>y=.tup [.sl 32 (List.map (Vec.c (n:=32) eU8) r.1),.int .i64 r.2]):=by
 refine PB (fn:=Try.f15) (sc:=F15.c) ?_
 refine rS ?_
 simp only[ZaR]at h0
 try simp only[F15.c,go_sem]
 obtain⟨x1,yx1,h0⟩:=bs h0
 refine zc0 (ZdC k _ _ yx1) ?_ (by first|rfl|(simp[AV.refsL,AV.refs,AV.scal,AV.leaf];done)|simp[AV.refsL,AV.refs,AV.scal,AV.leaf,go_sem]) ?_
 try simp only[go_sem]
 try simp only[go_sem]
 refine Zab h0 ?_ ?_<;>intro c2 h0
 have c2:=ZaY c2
 try simp only[c2,go_sem]
 obtain rfl:=oi h0
 refine Zad rfl ?_
 try simp only[F15.rs,c2,go_sem]
 have c2:=ZaX c2
 try simp only[c2,go_sem]
 obtain⟨x3,yx3,h0⟩:=bs h0
 refine zc0 (ZaP k _ _ _ _ yx3) ?_ (by first|rfl|(simp[AV.refsL,AV.refs,AV.scal,AV.leaf];done)|simp[AV.refsL,AV.refs,AV.scal,AV.leaf,go_sem]) ?_
 try simp only[c2,go_sem]
 try simp only[c2,go_sem]
 refine Zab h0 ?_ ?_<;>intro c4 h0
 try simp only[c4,c2,go_sem]
 obtain⟨x5,yx5,h0⟩:=bs h0
 refine zc0 (ZaP k _ _ _ _ yx5) ?_ (by first|rfl|(simp[AV.refsL,AV.refs,AV.scal,AV.leaf];done)|simp[AV.refsL,AV.refs,AV.scal,AV.leaf,go_sem]) ?_
 try simp only[c2,c4,go_sem]
 try simp only[c2,c4,go_sem]
 refine Zab h0 ?_ ?_<;>intro c6 h0
 have c6:=ZaY c6
 try simp only[c6,c2,c4,go_sem]
 obtain rfl:=oi h0
 refine Zad rfl ?_
 try simp only[F15.rs,c2,c4,c6,go_sem]
 have c6:=ZaX c6
 try simp only[c6,c2,c4,go_sem]
 obtain⟨x7,yx7,h0⟩:=bs h0
 refine zc0 (Zd3 k _ _ _ _ yx7) ?_ (by first|rfl|(simp[AV.refsL,AV.refs,AV.scal,AV.leaf];done)|simp[AV.refsL,AV.refs,AV.scal,AV.leaf,go_sem]) ?_
 try simp only[c2,c4,c6,go_sem]
 try simp only[c2,c4,c6,go_sem]
 obtain⟨r14,yr14,h0⟩:=bs h0
 refine Zay yr14 (ZaR.h0 x7) (ZaR.x0) ?_ ?_ ?_
 refine Za7.go [9,28,29,30] [256] rfl ?_
 try simp only[ZaR.h0,c2,c4,c6,go_sem]
 rintro⟨i8,l9⟩ x_1 Bk1 Br1 h1 hnext1 hbrk1 hret1
 refine rS ?_
 simp only[ZaR.b0]at h1
 try simp only[F15.s0,ZaR.h0,c2,c4,c6,go_sem]
 refine Zab h1 ?_ ?_<;>intro c11 h1
 try simp only[c11,c2,c4,c6,go_sem]
 obtain⟨x12,yx12,h1⟩:=bs h1
 try simp only[aa yx12,c2,c4,c6,c11,go_sem]
 obtain⟨l13,yl13,h1⟩:=bs h1
 have eyl13:=ZcJ (Vec.c (n:=32) eU8) yl13
 have tyl13:=Zcf (Vec.c (n:=32) eU8) yl13
 have nyl13:=Zcz yl13
 have myl13:=Zce yl13
 try simp only[c2,c4,c6,c11,aa yx12,go_sem]at eyl13 tyl13 nyl13 myl13
 try simp only[myl13,eyl13,c2,c4,c6,c11,aa yx12,nyl13,tyl13,go_sem]
 refine Zaf (hnext1 _ _ (oi h1).symm ?_)
 refine Za7.go [9,28,29,30] [0] rfl ?_
 try simp only[ZaR.h0,c2,c4,c6,c11,aa yx12,eyl13,nyl13,tyl13,go_sem]
 try simp only[c11,c2,c4,c6,go_sem]
 refine Zaf (hbrk1 _ _ (oi h1).symm ?_)
 refine Za7.go [9] [0] rfl ?_
 try simp only[ZaR.x0,c2,c4,c6,c11,go_sem]
 rintro l10 hr_
 subst hr_
 simp only at h0
 refine rS ?_
 try simp only[ZaR.x0,c2,c4,c6,go_sem]
 obtain rfl:=oi h0
 refine Zad rfl ?_
 try simp only[F15.rs,c2,c4,c6,go_sem]
 try simp only[c4,c2,go_sem]
 obtain rfl:=oi h0
 refine Zad rfl ?_
 try simp only[F15.rs,c2,c4,go_sem]
def F120.c:SC:=
 (.seq
 (.reg [oq 2 (.assign (.const (.slice none 0 0))) 39 [2]])
 (.seq
 (.seq
 (.reg [mv 3 0 39 [],
 oq 4 (.binOp .eql 39 (.tmp 3) (.const (.slice none 0 0)) 39) 4 [3]])
 (.cond (.tmp 4)
 (.seq
 (.reg [oq 2 (.assign (.const (.slice none 0 0))) 39 []])
 .ret)
 .skip))
 (.seq
 (.reg [oq 5 (.buildSlice 39 0 #[]) 39 [],
 mv 6 0 39 [0],
 oq 7 (.call ⟨.builtin .append,#[.tmp 5,.tmp 6],#[39,39]⟩) 39 [5,6],
 sg 2 7 39 [7]])
 .ret)))
theorem F120.rs:Try.f120.results.toList=[.tmp 2]:=rfl
def ZbA (k:Nat) (s0:(List (Vec 2 (Vec 32 Int)))):Option ((List (Vec 2 (Vec 32 Int)))):=
 (ZiN s0.length 64).bind fun _=>
 some s0
theorem Zey (k:Nat) (s0:(List (Vec 2 (Vec 32 Int)))) (r:(List (Vec 2 (Vec 32 Int)))) (h0:ZbA k s0=some r):Zb7 Try.prog 120 [.sl 64 (List.map (Vec.c (n:=2) (Vec.c (n:=32) eU8)) s0)] [] (fun y fr=>y=.loc 0 0 64 0 r.length r.length∧fr=[(0,.arr 139 64 (List.map (Vec.c (n:=2) (Vec.c (n:=32) eU8)) r))]):=by
 have hr:=Zb7.own (et:=139) (sz:=64) (ls:=List.map (Vec.c (n:=2) (Vec.c (n:=32) eU8)) r) (Zb7.of_body Za9 (f:=120) (fn:=Try.f120) (sc:=F120.c) (args:=[.sl 64 (List.map (Vec.c (n:=2) (Vec.c (n:=32) eU8)) s0)]) (fr0:=[]) (by rfl) (by rfl) (by decide +kernel) (by rfl) (by decide +kernel) (Nat.le_of_ble_eq_true rfl) (fun H=>?_))
 ·simpa only [List.length_map] using hr
 refine Zag Za9 1000 _ _ ?_
 simp only[ZbA]at h0
 try simp only[F120.c,go_sem]
 refine⟨fun he=>?_,?_⟩
 ·refine Zag Za9 1000 _ _ ?_
  try simp only[go_sem]
  obtain⟨u_,hu_,h0⟩:=bind_some h0
  obtain rfl:=oi h0
  refine Zdf rfl ?_
  simp only[he,F120.rs,oOK,Option.map_some,Zb0,List.length_nil,List.take_nil,go_sem]
  try simp
 ·refine Zag Za9 1000 _ _ ?_
  try simp only[go_sem]
  obtain⟨u1,yu1,h0⟩:=bind_some h0
  try simp only[ZgM yu1,go_sem]
  obtain rfl:=oi h0
  refine Zdf rfl ?_
  try simp only[F120.rs,oOK,Option.map_some,Zb0,Zf8,Zj1,Nat.le_refl,List.take_length,go_sem]
def F121.c:SC:=
 (.seq
 (.reg [oq 2 (.assign (.const (.slice none 0 0))) 40 [2]])
 (.seq
 (.seq
 (.reg [mv 3 0 40 [],
 oq 4 (.binOp .eql 40 (.tmp 3) (.const (.slice none 0 0)) 40) 4 [3]])
 (.cond (.tmp 4)
 (.seq
 (.reg [oq 2 (.assign (.const (.slice none 0 0))) 40 []])
 .ret)
 .skip))
 (.seq
 (.reg [oq 5 (.buildSlice 40 0 #[]) 40 [],
 mv 6 0 40 [0],
 oq 7 (.call ⟨.builtin .append,#[.tmp 5,.tmp 6],#[40,40]⟩) 40 [5,6],
 sg 2 7 40 [7]])
 .ret)))
theorem F121.rs:Try.f121.results.toList=[.tmp 2]:=rfl
def Zbz (k:Nat) (s0:(List Write)):Option ((List Write)):=
 (ZiN s0.length 72).bind fun _=>
 some s0
theorem Zeh (k:Nat) (s0:(List Write)) (r:(List Write)) (h0:Zbz k s0=some r):Zb7 Try.prog 121 [.sl 65 (List.map Write.c s0)] [] (fun y fr=>y=.loc 0 0 65 0 r.length r.length∧fr=[(0,.arr 141 65 (List.map Write.c r))]):=by
 have hr:=Zb7.own (et:=141) (sz:=65) (ls:=List.map Write.c r) (Zb7.of_body Za9 (f:=121) (fn:=Try.f121) (sc:=F121.c) (args:=[.sl 65 (List.map Write.c s0)]) (fr0:=[]) (by rfl) (by rfl) (by decide +kernel) (by rfl) (by decide +kernel) (Nat.le_of_ble_eq_true rfl) (fun H=>?_))
 ·simpa only [List.length_map] using hr
 refine Zag Za9 1000 _ _ ?_
 simp only[Zbz]at h0
 try simp only[F121.c,go_sem]
 refine⟨fun he=>?_,?_⟩
 ·refine Zag Za9 1000 _ _ ?_
  try simp only[go_sem]
  obtain⟨u_,hu_,h0⟩:=bind_some h0
  obtain rfl:=oi h0
  refine Zdf rfl ?_
  simp only[he,F121.rs,oOK,Option.map_some,Zb0,List.length_nil,List.take_nil,go_sem]
  try simp
 ·refine Zag Za9 1000 _ _ ?_
  try simp only[go_sem]
  obtain⟨u1,yu1,h0⟩:=bind_some h0
  try simp only[ZgM yu1,go_sem]
  obtain rfl:=oi h0
  refine Zdf rfl ?_
  try simp only[F121.rs,oOK,Option.map_some,Zb0,Zf8,Zj1,Nat.le_refl,List.take_length,go_sem]
def F72.c:SC:=
 (.seq
 (.reg [oq 1 (.box 42 (.tmp 0)) 0 [0],
 oq 2 (.assign (.const (.pointer none))) 130 [2]])
 (.seq
 (.dreg [fa 3 42 1 0 [],
 ld 4 39 3 [],
 cf1 5 120 4 39 39 [],
 fa 6 42 1 1 [],
 ld 7 40 6 [],
 cf1 8 121 7 40 40 [],
 oq 9 (.build 42 #[(0,.tmp 5),(1,.tmp 8)]) 42 [],
 oq 10 (.build 134 #[(0,.tmp 9)]) 134 [],
 oq 11 (.box 134 (.tmp 10)) 130 [],
 sg 2 11 130 []] [[],[0],[0,1],[],[3],[3,4,0,1,2],[0,1,2,3,4,5],[0,1,2,3,4,5,6],[0,1,2,3,4,5,6,7],[0,1,2,3,4,5,6,7,8]] [1,3,4,5,6,7,8,9,10,11])
 .ret))
theorem F72.rs:Try.f72.results.toList=[.tmp 2]:=rfl
def Zbd (k:Nat) (d0:Disk):Option (book_disk):=
 (ZbA k d0.Pages).bind fun x2=>
 (Zbz k d0.Wait).bind fun x4=>
 some (⟨(⟨x2,x4⟩:Disk)⟩:book_disk)
theorem Zbq (k:Nat) (d0:Disk) (r:book_disk) (h0:Zbd k d0=some r):Zb7 Try.prog 72 [.agg (Disk.c d0)] [] (fun y fr=>y=.ptr 0 0 0∧fr=[(0,.box ([.loc 0 1 64 0 r.Disk.Pages.length r.Disk.Pages.length,.loc 0 2 65 0 r.Disk.Wait.length r.Disk.Wait.length])),(1,.arr 139 64 (List.map (Vec.c (n:=2) (Vec.c (n:=32) eU8)) r.Disk.Pages)),(2,.arr 141 65 (List.map Write.c r.Disk.Wait))]):=by
 refine Zb7.of_body Za9 (f:=72) (fn:=Try.f72) (sc:=F72.c) (by rfl) (by rfl) (by decide +kernel) (by rfl) (by decide +kernel) (Nat.le_of_ble_eq_true rfl) (fun H=>?_)
 refine rS ?_
 simp only[Zbd]at h0
 try simp only[F72.c,go_sem]
 refine Zat Za9 Zau 1000 ?_
 try simp only[go_sem]
 obtain⟨x2,yx2,h0⟩:=bs h0
 refine ZhP 1000 [] [] (Zey k _ _ yx2) ?_ rfl ?_
 try simp only[gOK,List.length_map,go_sem]
 try simp only[go_sem]
 obtain⟨x4,yx4,h0⟩:=bs h0
 refine ZhP 1000 [] [] (Zeh k _ _ yx4) ?_ rfl ?_
 try simp only[gOK,List.length_map,go_sem]
 try simp only[go_sem]
 refine ZaB ⟨ZaC (by simp only[ZdN,List.reverse_cons,List.reverse_nil,List.nil_append,List.cons_append,List.map_cons,List.map_nil,List.append_nil];rfl) (by first|decide +kernel|rfl),Zag Za9 1000 _ _ ?_⟩
 try simp only[go_sem]
 obtain rfl:=oi h0
 refine ZnF [176,80,128] (by simp) rfl rfl ?_
 try simp only[F72.rs,Zv3,Zb0,Option.bind_some,go_sem]
def F146.s0:SC:=
 (.seq
 (.reg [b2 9 .lss 3 8 7 3 0 []])
 (.seq
 (.cond (.tmp 9)
 .skip
 (.exit 0))
 (.seq
 (.block 1
 (.seq
 (.reg [mv 10 8 3 [],
 sg 5 10 3 [10]])
 (.seq
 (.reg [mv 11 1 195 [],
 mv 12 0 40 [],
 mv 13 5 3 [],
 ia 14 40 12 13 [12,13],
 ld 15 141 14 [14],
 oq 16 (.call ⟨.value (.tmp 11),#[.tmp 15],#[141]⟩) 4 [11,15]])
 (.cond (.tmp 16)
 (.seq
 (.reg [mv 17 5 3 [5],
 sg 4 17 3 [17]])
 .ret)
 .skip))))
 (.reg [bn 18 .add 3 8 1 3 3 [8],
 mv 8 18 3 [18]]))))
def F146.c:SC:=
 (.seq
 (.reg [sn 4 0 3 [4]])
 (.seq
 (.seq
 (.reg [mv 6 0 40 [],
 ln 7 6 40 3 [6],
 oq 8 (.move (.const (.int .i64 0))) 3 []])
 (.block 0
 (.loop F146.s0)))
 (.seq
 (.reg [sn 4 (-1) 3 []])
 .ret)))
theorem F146.rs:Try.f146.results.toList=[.tmp 4]:=rfl
def Zai.b0 (k:Nat) (f1:Write→Option (Bool)) (s0:(List Write)):Int→Option (Stp (Int) (Unit) (Int)):=fun(i1:Int)=>
 bif decide (i1<(s0.length:Int)) then
  (at? s0 i1).bind fun x3=>
  (f1 x3).bind fun x4=>
  bif x4 then
   some (.ret i1)
  else
   some (.next (w64 (i1+1)))
 else
  some (.brk ())
noncomputable def Zai.h0 (f1_f:Nat) (f1_c:List AV) (s0:(List Write)):Int→St:=fun(i1:Int)=>⟨[(0,.sl 65 (List.map Write.c s0)),(1,.fn (.func f1_f) [] f1_c),(7,.int .i64 (s0.length:Int)),(8,.int .i64 i1)],[],[],1,Try.f146.ntmps⟩
noncomputable def Zai.x0:Unit→St:=fun(_:Unit)=>⟨[],[],[],1,Try.f146.ntmps⟩
def Zai (k:Nat) (s0:(List Write)) (f1:Write→Option (Bool)):Option (Int):=
 (whl (Zai.b0 k f1 s0) k 0).bind fun r6=>match r6 with
 |.next _=>none
 |.ret v_=>some v_
 |.brk _=>
  some (-1)
theorem Zdw (k:Nat) (s0:(List Write)) (f1_f:Nat) (f1_c:List AV) (f1_i:Ice f1_c) (f1:Write→Option (Bool)) (f1_h:∀ q0 qr,f1 q0=some qr→Za0 Try.prog f1_f (.agg (Write.c q0)::f1_c) (fun y=>y=.bool qr)) (r:Int) (h0:Zai k s0 f1=some r):Za0 Try.prog 146 [.sl 65 (List.map Write.c s0),.fn (.func f1_f) [] f1_c] (fun y=>y=.int .i64 r):=by
 refine PB (fn:=Try.f146) (sc:=F146.c) ?_
 refine rS ?_
 simp only[Zai]at h0
 try simp only[F146.c,f1_i.sh,f1_i.frz,f1_i.br,f1_i.refs,f1_i.imp,f1_i.ren,f1_i.un,go_sem]
 obtain⟨r6,yr6,h0⟩:=bs h0
 refine Zay yr6 (Zai.h0 f1_f f1_c s0) (Zai.x0) ?_ ?_ ?_
 refine Za7.go [0,1,7,8] [] rfl ?_
 try simp only[Zai.h0,f1_i.sh,f1_i.frz,f1_i.br,f1_i.refs,f1_i.imp,f1_i.ren,f1_i.un,go_sem]
 rintro i1 x_1 Bk1 Br1 h1 hnext1 hbrk1 hret1
 refine rS ?_
 simp only[Zai.b0]at h1
 try simp only[F146.s0,Zai.h0,f1_i.sh,f1_i.frz,f1_i.br,f1_i.refs,f1_i.imp,f1_i.ren,f1_i.un,go_sem]
 refine Zab h1 ?_ ?_<;>intro c2 h1
 try simp only[c2,f1_i.sh,f1_i.frz,f1_i.br,f1_i.refs,f1_i.imp,f1_i.ren,f1_i.un,go_sem]
 obtain⟨x3,yx3,h1⟩:=bs h1
 try simp only[aa yx3,f1_i.sh,f1_i.frz,f1_i.br,f1_i.refs,f1_i.imp,f1_i.ren,f1_i.un,c2,go_sem]
 obtain⟨x4,yx4,h1⟩:=bs h1
 refine zc0 (f1_h _ _ yx4) ?_ (by first|rfl|(simp[AV.refsL,AV.refs,AV.scal,AV.leaf,f1_i.refs];done)|simp[AV.refsL,AV.refs,AV.scal,AV.leaf,go_sem]) ?_
 try simp only[f1_i.sh,f1_i.frz,f1_i.br,f1_i.refs,f1_i.imp,f1_i.ren,f1_i.un,c2,aa yx3,go_sem]
 try simp only[f1_i.sh,f1_i.frz,f1_i.br,f1_i.refs,f1_i.imp,f1_i.ren,f1_i.un,c2,aa yx3,go_sem]
 refine Zab h1 ?_ ?_<;>intro c5 h1
 try simp only[c5,f1_i.sh,f1_i.frz,f1_i.br,f1_i.refs,f1_i.imp,f1_i.ren,f1_i.un,c2,aa yx3,go_sem]
 obtain rfl:=hret1 _ (oi h1).symm
 simp only at h0
 obtain rfl:=oi h0
 refine Zad rfl ?_
 try simp only[F146.rs,f1_i.sh,f1_i.frz,f1_i.br,f1_i.refs,f1_i.imp,f1_i.ren,f1_i.un,c2,aa yx3,c5,go_sem]
 try simp only[c5,f1_i.sh,f1_i.frz,f1_i.br,f1_i.refs,f1_i.imp,f1_i.ren,f1_i.un,c2,aa yx3,go_sem]
 refine Zaf (hnext1 _ _ (oi h1).symm ?_)
 refine Za7.go [0,1,7,8] [] rfl ?_
 try simp only[Zai.h0,f1_i.sh,f1_i.frz,f1_i.br,f1_i.refs,f1_i.imp,f1_i.ren,f1_i.un,c2,aa yx3,c5,go_sem]
 try simp only[c2,f1_i.sh,f1_i.frz,f1_i.br,f1_i.refs,f1_i.imp,f1_i.ren,f1_i.un,go_sem]
 refine Zaf (hbrk1 _ _ (oi h1).symm ?_)
 refine Za7.go [] [] rfl ?_
 try simp only[Zai.x0,f1_i.sh,f1_i.frz,f1_i.br,f1_i.refs,f1_i.imp,f1_i.ren,f1_i.un,c2,go_sem]
 rintro _ hr_
 subst hr_
 simp only at h0
 refine rS ?_
 try simp only[Zai.x0,f1_i.sh,f1_i.frz,f1_i.br,f1_i.refs,f1_i.imp,f1_i.ren,f1_i.un,go_sem]
 obtain rfl:=oi h0
 refine Zad rfl ?_
 try simp only[F146.rs,f1_i.sh,f1_i.frz,f1_i.br,f1_i.refs,f1_i.imp,f1_i.ren,f1_i.un,go_sem]
def F122.c:SC:=
 (.seq
 (.reg [sb 4 false 4 [4]])
 (.seq
 (.reg [mv 5 0 40 [0],
 mv 6 1 195 [1],
 cf2 7 146 5 6 40 195 3 [5,6],
 bn 8 .geq 3 7 0 3 4 [7],
 sg 4 8 4 [8]])
 .ret))
theorem F122.rs:Try.f122.results.toList=[.tmp 4]:=rfl
def ZaQ (k:Nat) (s0:(List Write)) (f1:Write→Option (Bool)):Option (Bool):=
 (Zai k s0 f1).bind fun x1=>
 some (decide ((0:Int)≤x1))
theorem ZcL (k:Nat) (s0:(List Write)) (f1_f:Nat) (f1_c:List AV) (f1_i:Ice f1_c) (f1:Write→Option (Bool)) (f1_h:∀ q0 qr,f1 q0=some qr→Za0 Try.prog f1_f (.agg (Write.c q0)::f1_c) (fun y=>y=.bool qr)) (r:Bool) (h0:ZaQ k s0 f1=some r):Za0 Try.prog 122 [.sl 65 (List.map Write.c s0),.fn (.func f1_f) [] f1_c] (fun y=>y=.bool r):=by
 refine PB (fn:=Try.f122) (sc:=F122.c) ?_
 refine rS ?_
 simp only[ZaQ]at h0
 try simp only[F122.c,f1_i.sh,f1_i.frz,f1_i.br,f1_i.refs,f1_i.imp,f1_i.ren,f1_i.un,go_sem]
 obtain⟨x1,yx1,h0⟩:=bs h0
 refine zc0 (Zdw k _ f1_f f1_c f1_i f1 f1_h _ yx1) ?_ (by first|rfl|(simp[AV.refsL,AV.refs,AV.scal,AV.leaf,f1_i.refs];done)|simp[AV.refsL,AV.refs,AV.scal,AV.leaf,go_sem]) ?_
 try simp only[f1_i.sh,f1_i.frz,f1_i.br,f1_i.refs,f1_i.imp,f1_i.ren,f1_i.un,go_sem]
 try simp only[f1_i.sh,f1_i.frz,f1_i.br,f1_i.refs,f1_i.imp,f1_i.ren,f1_i.un,go_sem]
 obtain rfl:=oi h0
 refine Zad rfl ?_
 try simp only[F122.rs,f1_i.sh,f1_i.frz,f1_i.br,f1_i.refs,f1_i.imp,f1_i.ren,f1_i.un,go_sem]
def F123.c:SC:=
 (.seq
 (.reg [oq 1 (.box 141 (.tmp 0)) 0 [0],
 sb 2 false 4 [2]])
 (.seq
 (.reg [fa 3 141 1 0 [1],
 ld 4 3 3 [3],
 oq 5 (.call ⟨.value (.func 65),#[.tmp 4,.const (.int .i64 0),.const (.int .i64 601)],#[3,3,3]⟩) 4 [4],
 oq 6 (.unOp .not 4 (.tmp 5)) 4 [5],
 sg 2 6 4 [6]])
 .ret))
theorem F123.rs:Try.f123.results.toList=[.tmp 2]:=rfl
def Zcg (k:Nat) (w0:Write):Option (Bool):=
 (ZaH k w0.At 0 601).bind fun x1=>
 some (!x1)
theorem Zh6 (k:Nat) (w0:Write) (r:Bool) (h0:Zcg k w0=some r):Za0 Try.prog 123 [.agg (Write.c w0)] (fun y=>y=.bool r):=by
 refine PB (fn:=Try.f123) (sc:=F123.c) ?_
 refine rS ?_
 simp only[Zcg]at h0
 try simp only[F123.c,go_sem]
 obtain⟨x1,yx1,h0⟩:=bs h0
 refine zc0 (ZaP k _ _ _ _ yx1) ?_ (by first|rfl|(simp[AV.refsL,AV.refs,AV.scal,AV.leaf];done)|simp[AV.refsL,AV.refs,AV.scal,AV.leaf,go_sem]) ?_
 try simp only[go_sem]
 try simp only[go_sem]
 obtain rfl:=oi h0
 refine Zad rfl ?_
 try simp only[F123.rs,go_sem]
def F78.c:SC:=
 (.seq
 (.reg [oq 1 (.box 42 (.tmp 0)) 0 [0],
 sb 2 false 4 [2]])
 (.seq
 (.reg [fa 3 42 1 0 [],
 ld 4 39 3 [3],
 ln 5 4 39 3 [4],
 bn 6 .eql 3 5 602 3 4 [5],
 mv 7 6 4 [6],
 og 8 (.fieldAddr 42 (.tmp 1) 1) 0 7 true [],
 og 9 (.load 40 (.tmp 8)) 40 7 true [8],
 og 10 (.call ⟨.builtin .len,#[.tmp 9],#[40]⟩) 3 7 true [9],
 og 11 (.binOp .leq 3 (.tmp 10) (.const (.int .i64 1200)) 3) 4 7 true [10],
 oq 12 (.pick (.tmp 7) (.tmp 11) (.const (.bool false))) 4 [7,11],
 mv 13 12 4 [12],
 og 14 (.fieldAddr 42 (.tmp 1) 1) 0 13 true [1],
 og 15 (.load 40 (.tmp 14)) 40 13 true [14],
 og 16 (.call ⟨.value (.func 122),#[.tmp 15,.func 123],#[40,195]⟩) 4 13 true [15],
 og 17 (.unOp .not 4 (.tmp 16)) 4 13 true [16],
 oq 18 (.pick (.tmp 13) (.tmp 17) (.const (.bool false))) 4 [13,17],
 sg 2 18 4 [18]])
 .ret))
theorem F78.rs:Try.f78.results.toList=[.tmp 2]:=rfl
def ZbZ (k:Nat) (d0:Disk):Option (Bool):=
 bif decide ((d0.Pages.length:Int)=(602:Int)) then
  bif decide ((d0.Wait.length:Int)≤(1200:Int)) then
   (ZaQ k d0.Wait (fun q0=>Zcg k q0)).bind fun x3=>
   some (!x3)
  else
   some false
 else
  some false
theorem Zdb (k:Nat) (d0:Disk) (r:Bool) (h0:ZbZ k d0=some r):Za0 Try.prog 78 [.agg (Disk.c d0)] (fun y=>y=.bool r):=by
 refine PB (fn:=Try.f78) (sc:=F78.c) ?_
 refine rS ?_
 simp only[ZbZ]at h0
 try simp only[F78.c,go_sem]
 refine Zab h0 ?_ ?_<;>intro c1 h0
 try simp only[c1,go_sem]
 refine Zab h0 ?_ ?_<;>intro c2 h0
 try simp only[c2,c1,go_sem]
 obtain⟨x3,yx3,h0⟩:=bs h0
 refine zc0 (ZcL k _ 123 [] ⟨fun _=>rfl,fun _=>rfl,fun _ _=>rfl,rfl,fun _=>rfl,fun _=>rfl,fun _=>rfl⟩ (fun q0=>Zcg k q0) (fun q0 qr qh=>Zh6 k q0 qr qh) _ yx3) ?_ (by first|rfl|(simp[AV.refsL,AV.refs,AV.scal,AV.leaf];done)|simp[AV.refsL,AV.refs,AV.scal,AV.leaf,go_sem]) ?_
 try simp only[c1,c2,go_sem]
 try simp only[c1,c2,go_sem]
 obtain rfl:=oi h0
 refine Zad rfl ?_
 try simp only[F78.rs,c1,c2,go_sem]
 try simp only[c2,c1,go_sem]
 obtain rfl:=oi h0
 refine Zad rfl ?_
 try simp only[F78.rs,c1,c2,go_sem]
 try simp only[c1,go_sem]
 obtain rfl:=oi h0
 refine Zad rfl ?_
 try simp only[F78.rs,c1,go_sem]
def F79.s0:SC:=
 (.seq
 (.reg [b2 12 .lss 3 11 10 3 0 []])
 (.seq
 (.cond (.tmp 12)
 .skip
 (.exit 0))
 (.seq
 (.block 1
 (.seq
 (.reg [ia 13 40 9 11 [],
 ld 14 141 13 [13],
 oq 4 (.alloc 141) 0 [],
 ⟨none,.store 141 (.tmp 4) (.tmp 14),0,none,[14]⟩])
 (.dreg [mv 15 0 130 [],
 oq 16 (.nilCheck (.tmp 15)) 0 [],
 fa 17 134 16 0 [],
 fa 18 42 17 0 [],
 ld 19 39 18 [],
 fa 20 141 4 0 [],
 ld 21 3 20 [],
 fa 22 141 4 1 [],
 ld 23 139 22 [],
 ia 24 39 19 21 [],
 ⟨none,.store 139 (.tmp 24) (.tmp 23),0,none,[]⟩] [[],[0],[0,1],[0,1,2],[0,1,2,3],[],[5],[],[7],[0,1,2,3,4,5,6,7,8],[0,1,2,3,4,5,6,7,8,9]] [4,15,16,17,18,19,20,21,22,23,24])))
 (.reg [bn 25 .add 3 11 1 3 3 [11],
 mv 11 25 3 [25]]))))
def F79.c:SC:=
 (.seq
 (.reg [oq 2 (.assign (.const (.pointer none))) 130 [2]])
 (.seq
 (.seq
 (.reg [mv 5 0 130 [],
 oq 6 (.nilCheck (.tmp 5)) 0 [5],
 fa 7 134 6 0 [6],
 fa 8 42 7 1 [7],
 ld 9 40 8 [8],
 ln 10 9 40 3 [],
 oq 11 (.move (.const (.int .i64 0))) 3 []])
 (.block 0
 (.loop F79.s0)))
 (.seq
 (.reg [mv 26 0 130 [],
 oq 27 (.nilCheck (.tmp 26)) 0 [26],
 fa 28 134 27 0 [27],
 fa 29 42 28 1 [28],
 ⟨none,.store 40 (.tmp 29) (.const (.slice none 0 0)),0,none,[29]⟩])
 (.seq
 (.reg [mv 30 0 130 [0],
 sg 2 30 130 [30]])
 .ret))))
theorem F79.rs:Try.f79.results.toList=[.tmp 2]:=rfl
def Zaq.b0 (k:Nat) (d0:book_disk):(Int×(List (Vec 2 (Vec 32 Int))))→Option (Stp (Int×(List (Vec 2 (Vec 32 Int)))) ((List (Vec 2 (Vec 32 Int)))) (book_disk)):=fun(s:Int×(List (Vec 2 (Vec 32 Int))))=>match s with
 |(i1,l2)=>
   bif decide (i1<((d0.Disk.Wait.length:Nat):Int)) then
    (at? d0.Disk.Wait i1).bind fun x5=>
    (at? l2 x5.At).bind fun x6=>
    (ZlP l2 x5.At x5.Page).bind fun l7=>
    some (.next (w64 (i1+1),l7))
   else
    some (.brk l2)
noncomputable def Zaq.h0 (f1:Fra) (H:Zam) (d0:book_disk):(Int×(List (Vec 2 (Vec 32 Int))))→St:=fun(s:Int×(List (Vec 2 (Vec 32 Int))))=>match s with
 |(i1,l2)=>⟨[(0,.ptr 1 0 0),(9,.loc 1 2 65 0 d0.Disk.Wait.length d0.Disk.Wait.length),(10,.int .i64 ((d0.Disk.Wait.length:Nat):Int)),(11,.int .i64 i1)],[],((0,.box ([.loc 0 1 64 0 l2.length l2.length,.loc 0 2 65 0 d0.Disk.Wait.length d0.Disk.Wait.length]))::(1,.arr 139 64 (List.map (Vec.c (n:=2) (Vec.c (n:=32) eU8)) l2))::(2,.arr 141 65 (List.map Write.c d0.Disk.Wait))::f1)::H,1,Try.f79.ntmps⟩
noncomputable def Zaq.x0 (f1:Fra) (H:Zam) (d0:book_disk):(List (Vec 2 (Vec 32 Int)))→St:=fun(l3:(List (Vec 2 (Vec 32 Int))))=>⟨[(0,.ptr 1 0 0)],[],((0,.box ([.loc 0 1 64 0 l3.length l3.length,.loc 0 2 65 0 d0.Disk.Wait.length d0.Disk.Wait.length]))::(1,.arr 139 64 (List.map (Vec.c (n:=2) (Vec.c (n:=32) eU8)) l3))::(2,.arr 141 65 (List.map Write.c d0.Disk.Wait))::f1)::H,1,Try.f79.ntmps⟩
def Zaq (k:Nat) (d0:book_disk):Option (book_disk):=
 (whl (Zaq.b0 k d0) k (0,d0.Disk.Pages)).bind fun r8=>match r8 with
 |.next _=>none
 |.ret v_=>some v_
 |.brk l3=>
  some (⟨(⟨l3,[]⟩:Disk)⟩:book_disk)
theorem Zbe (k:Nat) (d0:book_disk) (r:book_disk) (h0:Zaq k d0=some r):Zjk Try.prog 79 [.ptr 1 0 0] [(0,.box ([.loc 0 1 64 0 d0.Disk.Pages.length d0.Disk.Pages.length,.loc 0 2 65 0 d0.Disk.Wait.length d0.Disk.Wait.length])),(1,.arr 139 64 (List.map (Vec.c (n:=2) (Vec.c (n:=32) eU8)) d0.Disk.Pages)),(2,.arr 141 65 (List.map Write.c d0.Disk.Wait))] (fun y fr X'=>y=.ptr 1 0 0∧fr=[]∧X'=[(0,.box ([.loc 0 1 64 0 r.Disk.Pages.length r.Disk.Pages.length,.nil])),(1,.arr 139 64 (List.map (Vec.c (n:=2) (Vec.c (n:=32) eU8)) r.Disk.Pages)),(2,.arr 141 65 (List.map Write.c d0.Disk.Wait))]):=by
 refine Zjk.of_body Za9 (fn:=Try.f79) (sc:=F79.c) (by rfl) (by rfl) (by decide +kernel) (by rfl) (by decide +kernel) (Nat.le_of_ble_eq_true rfl) (fun f1 H=>?_)
 refine rS ?_
 simp only[List.cons_append,List.nil_append]
 simp only[Zaq]at h0
 try simp only[F79.c,go_sem]
 obtain⟨r8,yr8,h0⟩:=bs h0
 refine Zay yr8 (Zaq.h0 f1 H d0) (Zaq.x0 f1 H d0) ?_ ?_ ?_
 refine Za7.go [0,9,10,11] [] rfl ?_
 try simp only[Zaq.h0,go_sem]
 rintro⟨i1,l2⟩ x_1 Bk1 Br1 h1 hnext1 hbrk1 hret1
 refine rS ?_
 simp only[Zaq.b0]at h1
 try simp only[F79.s0,Zaq.h0,go_sem]
 refine Zab h1 ?_ ?_<;>intro c4 h1
 try simp only[c4,go_sem]
 obtain⟨x5,yx5,h1⟩:=bs h1
 try simp only[aa yx5,c4,go_sem]
 refine Zat Za9 Zau 1000 ?_
 try simp only[c4,aa yx5,go_sem]
 obtain⟨x6,yx6,h1⟩:=bs h1
 try simp only[ZaF yx6,Zaw (Vec.c (n:=2) (Vec.c (n:=32) eU8)) yx6,c4,aa yx5,go_sem]
 obtain⟨l7,yl7,h1⟩:=bs h1
 have eyl7:=ZjK (Vec.c (n:=2) (Vec.c (n:=32) eU8)) yl7
 try simp only[go_sem]at eyl7
 try simp only[eyl7,c4,aa yx5,ZaF yx6,Zaw (Vec.c (n:=2) (Vec.c (n:=32) eU8)) yx6,ZcY yl7,Zdd (Vec.c (n:=2) (Vec.c (n:=32) eU8)) yl7,go_sem]
 refine ZaB ⟨ZaC (by simp only[ZdN,List.reverse_cons,List.reverse_nil,List.nil_append,List.cons_append,List.map_cons,List.map_nil,List.append_nil];rfl) (by first|decide +kernel|rfl),Zag Za9 1000 _ _ ?_⟩
 try simp only[c4,aa yx5,ZaF yx6,Zaw (Vec.c (n:=2) (Vec.c (n:=32) eU8)) yx6,eyl7,ZcY yl7,Zdd (Vec.c (n:=2) (Vec.c (n:=32) eU8)) yl7,go_sem]
 refine Zaf (hnext1 _ _ (oi h1).symm ?_)
 refine Za7.go [0,9,10,11] [] rfl ?_
 try simp only[Zaq.h0,c4,aa yx5,ZaF yx6,Zaw (Vec.c (n:=2) (Vec.c (n:=32) eU8)) yx6,eyl7,ZcY yl7,Zdd (Vec.c (n:=2) (Vec.c (n:=32) eU8)) yl7,go_sem]
 try simp only[c4,go_sem]
 refine Zaf (hbrk1 _ _ (oi h1).symm ?_)
 refine Za7.go [0] [] rfl ?_
 try simp only[Zaq.x0,c4,go_sem]
 rintro l3 hr_
 subst hr_
 simp only at h0
 refine rS ?_
 try simp only[Zaq.x0,go_sem]
 obtain rfl:=oi h0
 refine ZhN (by simp) ?_ ?_
 try simp only[F79.rs,Zb0,Option.bind_some,go_sem]
 try simp only[List.cons_append,List.nil_append,go_sem]
end Go.Abs
namespace Go.Abs
open Go Go.Proofs Go.RowKit Go.Lib
def F147.c:SC:=
 (.seq
 (.reg [oq 2 (.box 130 (.tmp 0)) 0 [0],
 oq 3 (.box 3 (.tmp 1)) 0 [1],
 oq 4 (.assign (.const .nilFunc)) 224 [4]])
 (.seq
 (.reg [oq 5 (.makeFunc (.func 153) #[] #[.tmp 2,.tmp 3]) 223 [2,3],
 sg 4 5 224 [5]])
 .ret))
theorem F147.rs:Try.f147.results.toList=[.tmp 4]:=rfl
noncomputable def Zft (d:book_disk) (area:Int):AV:=.fn (.func 153) [] [.rptr 1 [[.rptr 2 [book_disk.c d] 0 0]] 0 0,.rptr 1 [[.int .i64 area]] 0 0]
theorem ZqV (d:book_disk) (area:Int):ZfE Try.prog 147 [.rptr 2 [book_disk.c d] 0 0,.int .i64 area] [] (fun y fr H'=>y=.fn (.func 153) [] [.ptr 0 0 0,.ptr 0 1 0]∧fr=[(0,.box [.rptr 2 [book_disk.c d] 0 0]),(1,.box [.int .i64 area])]∧H'=[]):=by
 refine ZfE.of_body Za9 (fn:=Try.f147) (sc:=F147.c) (by rfl) (by rfl) (by decide +kernel) (by rfl) (by decide +kernel) (Nat.le_of_ble_eq_true rfl) ?_ (by rintro y fr H' ⟨_,_,rfl⟩;rfl)
 refine Zag Za9 1000 _ _ ?_
 simp only[F147.c,go_sem]
 refine⟨_,by rw[F147.rs];simp only[go_sem];rfl,.own [0,16] _ _ (by decide) (by decide) ?_ ?_ ⟨rfl,rfl,rfl⟩⟩
 ·simp only[Zb0,go_sem]
 ·simp only[ZgL,go_sem]
def Zhy (fm:FM) (w:World) (B:Nat):FM:=fun b o=>if B≤b then w.cell? ⟨b,o,none⟩ else fm b o
theorem Zuk {N0:Nat}{W0:World}{fm fm':FM}{ts:List Tie}{H:Zam}{w:World} (hr:HR N0 W0 fm ts H w) {c k:Nat}{x:AV} (hg:H.get 0 k=some (.box [x])) (ht:tb ts 0 k=some (.box c)) (hz:x.frz (fun _ _=>none)=some x)
  (hle:Zdq fm fm') (hc:∀ o v,w.cell? ⟨c,o,none⟩=some v→fm' c o=some v):VR fm' [] (.rptr 1 [[x]] 0 0) (.pointer (some ⟨c,0,none⟩)):=by
 have hb:=hr.blk 0 k _ hg
 rw[ht]at hb
 cases hb with
 |box _ _ hN hB=>
  obtain⟨cells,et,c1,c2,c3⟩:=hB
  obtain⟨u,h0⟩:∃ u,cells[0]?=some u:=⟨_,Array.getElem?_eq_getElem (by rw[c2];simp)⟩
  obtain⟨hf,hv⟩:=c3 0 x _ rfl h0
  have hcell:w.cell? ⟨c,0,none⟩=some u:=by simp[World.cell?,c1,h0]
  have hv':VR fm [] x u:=(hr.bareL (VRs.one hv:VRs fm ts [x] [u]) (ys:=[x]) (by simp only[AV.frzL,hz])).2 0 _ _ rfl rfl
  refine .rptr [[x]] 0 0 c 0 1 (fun _ _=>u) ?_ ?_ ?_ ?_
  ·intro y hy
   rw[List.mem_singleton.1 hy];rfl
  all_goals
   intro i cc o y hi ho
   obtain⟨rfl,rfl⟩:i=0∧cc=[x]:=by
    cases i with
    |zero=>exact⟨rfl,(oi hi).symm⟩
    |succ i=>simp at hi
   obtain⟨rfl,rfl⟩:o=0∧y=x:=by
    cases o with
    |zero=>exact⟨rfl,(oi ho).symm⟩
    |succ o=>simp at ho
  ·exact hc 0 _ hcell
  ·exact hf
  ·exact hv'.mono hle (ZaA.refl _)
theorem ZgY (d:book_disk) (area:Int):Za0 Try.prog 147 [.rptr 2 [book_disk.c d] 0 0,.int .i64 area] (fun y=>y=Zft d area):=by
 have hA:=ZqV d area
 refine⟨hA.1,fun fm w vs h1 h2=>Calls.mono (hA.2 w.heap.size w fm [] w vs (HR.nothing h1) (h2.mono (Zdq.refl _) (ZaA.nil _))) ?_⟩
 rintro e w' ⟨v,av,fr',H',fm',t',ts',rfl,⟨rfl,rfl,rfl⟩,_,hhr,hvr,hup,_,_,_⟩
 have hle:Zdq fm' (Zhy fm' w' w.heap.size):=fun b o v h=>by
  unfold Zhy
  split
  ·exact hhr.fms b o v h
  ·exact h
 have hin:Ztu (Zhy fm' w' w.heap.size) w':=fun b o v h=>by
  unfold Zhy at h
  split at h
  ·exact h
  ·exact hhr.fms b o v h
 have hup':FmUp w.heap.size fm (Zhy fm' w' w.heap.size):=⟨fun b o v h=>hle b o v (hup.le b o v h),fun b o h=>by unfold Zhy;rw[if_neg (by omega)];exact hup.fix b o h⟩
 refine⟨v,Zft d area,_,rfl,rfl,hin,?_,hup',hhr.bel⟩
 cases hvr with
 |fn f first cap vf vc h1 h2 h3 h4=>
  refine .fn _ _ _ vf vc h1 (by simpa using h2) (by intro i x v h;simp at h) ?_
  intro i x v hx hv
  match i,hx,hv with
  |0,hx,hv=>
   obtain rfl:=oi hx
   have hp:=h4 0 _ v rfl hv
   cases hp with
   |ptr _ _ _ c htk=>exact Zuk hhr rfl htk rfl hle (fun o u hu=>by unfold Zhy;rw[if_pos];exact hu;exact(hhr.blk 0 0 _ rfl).lt (by rw[htk];rfl) |>.2)
  |1,hx,hv=>
   obtain rfl:=oi hx
   have hp:=h4 1 _ v rfl hv
   cases hp with
   |ptr _ _ _ c htk=>exact Zuk hhr rfl htk rfl hle (fun o u hu=>by unfold Zhy;rw[if_pos];exact hu;exact(hhr.blk 0 1 _ rfl).lt (by rw[htk];rfl) |>.2)
  |i+2,hx,hv=>simp at hx
def F119.c:SC:=
 (.seq
 (.reg [oq 2 (.assign (.const (.slice none 0 0))) 44 [2]])
 (.seq
 (.seq
 (.reg [mv 3 0 44 [],
 oq 4 (.binOp .eql 44 (.tmp 3) (.const (.slice none 0 0)) 44) 4 [3]])
 (.cond (.tmp 4)
 (.seq
 (.reg [oq 2 (.assign (.const (.slice none 0 0))) 44 []])
 .ret)
 .skip))
 (.seq
 (.reg [oq 5 (.buildSlice 44 0 #[]) 44 [],
 mv 6 0 44 [0],
 oq 7 (.call ⟨.builtin .append,#[.tmp 5,.tmp 6],#[44,44]⟩) 44 [5,6],
 sg 2 7 44 [7]])
 .ret)))
theorem F119.rs:Try.f119.results.toList=[.tmp 2]:=rfl
def ZaI (k:Nat) (s0:(List Record)):Option ((List Record)):=
 (ZiN s0.length 72).bind fun _=>
 some s0
theorem Zcl (k:Nat) (s0:(List Record)) (r:(List Record)) (h0:ZaI k s0=some r):Zb7 Try.prog 119 [.sl 8 (List.map Record.c s0)] [] (fun y fr=>y=.loc 0 0 8 0 r.length r.length∧fr=[(0,.arr 25 8 (List.map Record.c r))]):=by
 have hr:=Zb7.own (et:=25) (sz:=8) (ls:=List.map Record.c r) (Zb7.of_body Za9 (f:=119) (fn:=Try.f119) (sc:=F119.c) (args:=[.sl 8 (List.map Record.c s0)]) (fr0:=[]) (by rfl) (by rfl) (by decide +kernel) (by rfl) (by decide +kernel) (Nat.le_of_ble_eq_true rfl) (fun H=>?_))
 ·simpa only [List.length_map] using hr
 refine Zag Za9 1000 _ _ ?_
 simp only[ZaI]at h0
 try simp only[F119.c,go_sem]
 refine⟨fun he=>?_,?_⟩
 ·refine Zag Za9 1000 _ _ ?_
  try simp only[go_sem]
  obtain⟨u_,hu_,h0⟩:=bind_some h0
  obtain rfl:=oi h0
  refine Zdf rfl ?_
  simp only[he,F119.rs,oOK,Option.map_some,Zb0,List.length_nil,List.take_nil,go_sem]
  try simp
 ·refine Zag Za9 1000 _ _ ?_
  try simp only[go_sem]
  obtain⟨u1,yu1,h0⟩:=bind_some h0
  try simp only[ZgM yu1,go_sem]
  obtain rfl:=oi h0
  refine Zdf rfl ?_
  try simp only[F119.rs,oOK,Option.map_some,Zb0,Zf8,Zj1,Nat.le_refl,List.take_length,go_sem]
def F96.c:SC:=
 (.seq
 (.reg [oq 1 (.box 46 (.tmp 0)) 0 [0],
 oq 2 (.alloc 46) 0 []])
 (.seq
 (.reg [fa 3 46 1 0 [1],
 ld 4 44 3 [3],
 cf1 5 119 4 44 44 [4],
 oq 6 (.build 46 #[(0,.tmp 5)]) 46 [5],
 ⟨none,.store 46 (.tmp 2) (.tmp 6),0,none,[6]⟩])
 .ret))
theorem F96.rs:Try.f96.results.toList=[.cell 2 46]:=rfl
def ZcS (k:Nat) (b0:Book):Option (Book):=
 (ZaI k b0.Records).bind fun x2=>
 some (⟨x2⟩:Book)
theorem ZfM (k:Nat) (b0:Book) (r:Book) (h0:ZcS k b0=some r):Za0 Try.prog 96 [.agg (Book.c b0)] (fun y=>y=.agg (Book.c r)):=by
 refine PB (fn:=Try.f96) (sc:=F96.c) ?_
 refine rS ?_
 simp only[ZcS]at h0
 try simp only[F96.c,go_sem]
 obtain⟨x2,yx2,h0⟩:=bs h0
 refine Zd9 Za9 1000 [] [] (Zcl k _ _ yx2) ?_ rfl ?_
 try simp only[gOK,List.length_map,go_sem]
 try simp only[go_sem]
 obtain rfl:=oi h0
 refine Zad rfl ?_
 try simp only[F96.rs,go_sem]
def F135.s0:SC:=
 (.seq
 (.seq
 (.reg [mv 15 9 3 [],
 mv 16 10 3 [],
 b2 17 .lss 3 15 16 3 4 [15,16]])
 (.cond (.tmp 17)
 .skip
 (.exit 0)))
 (.block 1
 (.seq
 (.reg [mv 18 9 3 [],
 mv 19 10 3 [],
 b2 20 .add 3 18 19 3 3 [18,19],
 oq 21 (.convert 3 211 (.tmp 20)) 211 [20],
 oq 22 (.binOp .shr 211 (.tmp 21) (.const (.int .u64 1)) 211) 211 [21],
 oq 23 (.convert 211 3 (.tmp 22)) 3 [22],
 sg 11 23 3 [23]])
 (.seq
 (.dreg [mv 24 2 213 [],
 mv 25 0 44 [],
 mv 26 11 3 [],
 ia 27 44 25 26 [],
 ld 28 25 27 [],
 ld 29 23 4 [],
 oq 30 (.call ⟨.value (.tmp 24),#[.tmp 28,.tmp 29],#[25,23]⟩) 3 [],
 bn 31 .lss 3 30 0 3 4 []] [[],[],[],[1,2],[1,2,3],[],[0,1,2,3,4,5],[0,1,2,3,4,5,6]] [24,25,26,27,28,29,30])
 (.cond (.tmp 31)
 (.reg [mv 32 11 3 [11],
 bn 33 .add 3 32 1 3 3 [32],
 sg 9 33 3 [33]])
 (.reg [mv 34 11 3 [11],
 sg 10 34 3 [34]]))))))
def F135.c:SC:=
 (.seq
 (.reg [oq 4 (.box 23 (.tmp 1)) 0 [1],
 sn 6 0 3 [6],
 sb 7 false 4 [7]])
 (.seq
 (.reg [mv 12 0 44 [],
 ln 13 12 44 3 [12],
 sg 8 13 3 [13]])
 (.seq
 (.reg [mv 14 8 3 [],
 sn 9 0 3 [],
 sg 10 14 3 [14]])
 (.seq
 (.block 0
 (.loop F135.s0))
 (.seq
 (.dreg [mv 35 9 3 [],
 mv 36 9 3 [],
 mv 37 8 3 [],
 b2 38 .lss 3 36 37 3 4 [],
 mv 39 38 4 [],
 og 40 (.move (.tmp 2)) 213 39 true [],
 og 41 (.move (.tmp 0)) 44 39 true [],
 og 42 (.move (.tmp 9)) 3 39 true [],
 og 43 (.indexAddr 44 (.tmp 41) (.tmp 42)) 0 39 true [],
 og 44 (.load 25 (.tmp 43)) 25 39 true [],
 og 45 (.load 23 (.tmp 4)) 23 39 true [],
 og 46 (.call ⟨.value (.tmp 40),#[.tmp 44,.tmp 45],#[25,23]⟩) 3 39 true [],
 og 47 (.binOp .eql 3 (.tmp 46) (.const (.int .i64 0)) 3) 4 39 true [],
 oq 48 (.pick (.tmp 39) (.tmp 47) (.const (.bool false))) 4 [],
 sg 6 35 3 [],
 sg 7 48 4 []] [[],[],[],[1,2],[1,2,3],[1,2,3,4],[1,2,3,4],[1,2,3,4],[1,2,3,4,6,7],[1,2,3,4,6,7,8],[1,2,3,4],[1,2,3,4,5,6,7,8,9,10],[1,2,3,4,5,6,7,8,9,10,11],[1,2,3,4,5,6,7,8,9,10,11,12],[0,1,2,3,4,5,6,7,8,9,10,11],[1,2,3,4,5,6,7,8,9,10,11,12,13,0,14]] [0,2,4,8,9,35,36,37,38,39,40,41,42,43,44,45,46,47,48])
 .ret)))))
theorem F135.rs:Try.f135.results.toList=[.tmp 6,.tmp 7]:=rfl
def Zac.b0 (k:Nat) (cmp2:Record→Entry→Option (Int)) (x0:(List Record)) (target1:Entry):(Int×Int)→Option (Stp (Int×Int) (Int) (Int×Bool)):=fun(s:Int×Int)=>match s with
 |(i1,i2)=>
   bif decide (i1<i2) then
    (at? x0 (w64 (Int.fdiv (IntKind.u64.wrap (w64 (i1+i2))) (2 ^ 1)))).bind fun x5=>
    (cmp2 x5 target1).bind fun x6=>
    bif decide (x6<(0:Int)) then
     some (.next (w64 ((w64 (Int.fdiv (IntKind.u64.wrap (w64 (i1+i2))) (2 ^ 1)))+1),i2))
    else
     some (.next (i1,w64 (Int.fdiv (IntKind.u64.wrap (w64 (i1+i2))) (2 ^ 1))))
   else
    some (.brk i1)
noncomputable def Zac.h0 (cmp2_f:Nat) (cmp2_c:List AV) (x0:(List Record)) (target1:Entry):(Int×Int)→St:=fun(s:Int×Int)=>match s with
 |(i1,i2)=>⟨[(0,.sl 8 (List.map Record.c x0)),(2,.fn (.func cmp2_f) [] cmp2_c),(4,.ptr 0 0 0),(8,.int .i64 (x0.length:Int)),(9,.int .i64 i1),(10,.int .i64 i2)],[(0,.box ([.int .i64 target1.House,.int .i64 target1.No]))],[],1,Try.f135.ntmps⟩
noncomputable def Zac.x0 (cmp2_f:Nat) (cmp2_c:List AV) (x0:(List Record)) (target1:Entry):Int→St:=fun(i3:Int)=>⟨[(0,.sl 8 (List.map Record.c x0)),(2,.fn (.func cmp2_f) [] cmp2_c),(4,.ptr 0 0 0),(8,.int .i64 (x0.length:Int)),(9,.int .i64 i3)],[(0,.box ([.int .i64 target1.House,.int .i64 target1.No]))],[],1,Try.f135.ntmps⟩
def Zac (k:Nat) (x0:(List Record)) (target1:Entry) (cmp2:Record→Entry→Option (Int)):Option (Int×Bool):=
 (whl (Zac.b0 k cmp2 x0 target1) k (0,(x0.length:Int))).bind fun r8=>match r8 with
 |.next _=>none
 |.ret v_=>some v_
 |.brk i3=>
  bif decide (i3<(x0.length:Int)) then
   (at? x0 i3).bind fun x10=>
   (cmp2 x10 target1).bind fun x11=>
   some (i3,decide (x11=(0:Int)))
  else
   some (i3,false)
theorem Zcp (k:Nat) (x0:(List Record)) (target1:Entry) (cmp2_f:Nat) (cmp2_c:List AV) (cmp2_i:Ice cmp2_c) (cmp2:Record→Entry→Option (Int)) (cmp2_h:∀ q0 q1 qr,cmp2 q0 q1=some qr→Za0 Try.prog cmp2_f (.agg (Record.c q0)::.agg (Entry.c q1)::cmp2_c) (fun y=>y=.int .i64 qr)) (r:Int×Bool) (h0:Zac k x0 target1 cmp2=some r):Za0 Try.prog 135 [.sl 8 (List.map Record.c x0),.agg (Entry.c target1),.fn (.func cmp2_f) [] cmp2_c] (fun y=>y=.tup [.int .i64 r.1,.bool r.2]):=by
 refine PB (fn:=Try.f135) (sc:=F135.c) ?_
 refine rS ?_
 simp only[Zac]at h0
 try simp only[F135.c,cmp2_i.sh,cmp2_i.frz,cmp2_i.br,cmp2_i.refs,cmp2_i.imp,cmp2_i.ren,cmp2_i.un,go_sem]
 obtain⟨r8,yr8,h0⟩:=bs h0
 refine Zay yr8 (Zac.h0 cmp2_f cmp2_c x0 target1) (Zac.x0 cmp2_f cmp2_c x0 target1) ?_ ?_ ?_
 refine Za7.go [0,2,4,8,9,10] [0] rfl ?_
 try simp only[Zac.h0,cmp2_i.sh,cmp2_i.frz,cmp2_i.br,cmp2_i.refs,cmp2_i.imp,cmp2_i.ren,cmp2_i.un,go_sem]
 rintro⟨i1,i2⟩ x_1 Bk1 Br1 h1 hnext1 hbrk1 hret1
 refine rS ?_
 simp only[Zac.b0]at h1
 try simp only[F135.s0,Zac.h0,cmp2_i.sh,cmp2_i.frz,cmp2_i.br,cmp2_i.refs,cmp2_i.imp,cmp2_i.ren,cmp2_i.un,go_sem]
 refine Zab h1 ?_ ?_<;>intro c4 h1
 try simp only[c4,(@id (min (Int.toNat 1) 64=1) rfl),cmp2_i.sh,cmp2_i.frz,cmp2_i.br,cmp2_i.refs,cmp2_i.imp,cmp2_i.ren,cmp2_i.un,go_sem]
 refine Zat Za9 Zau 1000 ?_
 try simp only[cmp2_i.sh,cmp2_i.frz,cmp2_i.br,cmp2_i.refs,cmp2_i.imp,cmp2_i.ren,cmp2_i.un,c4,go_sem]
 obtain⟨x5,yx5,h1⟩:=bs h1
 try simp only[aa yx5,cmp2_i.sh,cmp2_i.frz,cmp2_i.br,cmp2_i.refs,cmp2_i.imp,cmp2_i.ren,cmp2_i.un,c4,go_sem]
 obtain⟨x6,yx6,h1⟩:=bs h1
 refine Zbk 1000 (cmp2_h _ _ _ yx6) ?_ (by first|rfl|(simp[AV.refsL,AV.refs,AV.scal,AV.leaf,cmp2_i.refs];done)|simp[AV.refsL,AV.refs,AV.scal,AV.leaf,go_sem]) ?_
 try simp only[cmp2_i.sh,cmp2_i.frz,cmp2_i.br,cmp2_i.refs,cmp2_i.imp,cmp2_i.ren,cmp2_i.un,c4,aa yx5,go_sem]
 try simp only[cmp2_i.sh,cmp2_i.frz,cmp2_i.br,cmp2_i.refs,cmp2_i.imp,cmp2_i.ren,cmp2_i.un,c4,aa yx5,go_sem]
 refine ZaB ⟨ZaC (by simp only[ZdN,List.reverse_cons,List.reverse_nil,List.nil_append,List.cons_append,List.map_cons,List.map_nil,List.append_nil];rfl) (by first|decide +kernel|rfl),Zag Za9 1000 _ _ ?_⟩
 try simp only[cmp2_i.sh,cmp2_i.frz,cmp2_i.br,cmp2_i.refs,cmp2_i.imp,cmp2_i.ren,cmp2_i.un,c4,aa yx5,go_sem]
 refine Zab h1 ?_ ?_<;>intro c7 h1
 try simp only[c7,cmp2_i.sh,cmp2_i.frz,cmp2_i.br,cmp2_i.refs,cmp2_i.imp,cmp2_i.ren,cmp2_i.un,c4,aa yx5,go_sem]
 refine Zaf (hnext1 _ _ (oi h1).symm ?_)
 refine Za7.go [0,2,4,8,9,10] [0] rfl ?_
 try simp only[Zac.h0,cmp2_i.sh,cmp2_i.frz,cmp2_i.br,cmp2_i.refs,cmp2_i.imp,cmp2_i.ren,cmp2_i.un,c4,aa yx5,c7,go_sem]
 try simp only[c7,cmp2_i.sh,cmp2_i.frz,cmp2_i.br,cmp2_i.refs,cmp2_i.imp,cmp2_i.ren,cmp2_i.un,c4,aa yx5,go_sem]
 refine Zaf (hnext1 _ _ (oi h1).symm ?_)
 refine Za7.go [0,2,4,8,9,10] [0] rfl ?_
 try simp only[Zac.h0,cmp2_i.sh,cmp2_i.frz,cmp2_i.br,cmp2_i.refs,cmp2_i.imp,cmp2_i.ren,cmp2_i.un,c4,aa yx5,c7,go_sem]
 try simp only[c4,cmp2_i.sh,cmp2_i.frz,cmp2_i.br,cmp2_i.refs,cmp2_i.imp,cmp2_i.ren,cmp2_i.un,go_sem]
 refine Zaf (hbrk1 _ _ (oi h1).symm ?_)
 refine Za7.go [0,2,4,8,9] [0] rfl ?_
 try simp only[Zac.x0,cmp2_i.sh,cmp2_i.frz,cmp2_i.br,cmp2_i.refs,cmp2_i.imp,cmp2_i.ren,cmp2_i.un,c4,go_sem]
 rintro i3 hr_
 subst hr_
 simp only at h0
 refine rS ?_
 try simp only[Zac.x0,cmp2_i.sh,cmp2_i.frz,cmp2_i.br,cmp2_i.refs,cmp2_i.imp,cmp2_i.ren,cmp2_i.un,go_sem]
 refine Zat Za9 Zau 1000 ?_
 try simp only[cmp2_i.sh,cmp2_i.frz,cmp2_i.br,cmp2_i.refs,cmp2_i.imp,cmp2_i.ren,cmp2_i.un,go_sem]
 refine ZjW h0 ?_ ?_<;>intro c9 h0
 try simp only[c9,cmp2_i.sh,cmp2_i.frz,cmp2_i.br,cmp2_i.refs,cmp2_i.imp,cmp2_i.ren,cmp2_i.un,go_sem]
 obtain⟨x10,yx10,h0⟩:=bs h0
 try simp only[aa yx10,cmp2_i.sh,cmp2_i.frz,cmp2_i.br,cmp2_i.refs,cmp2_i.imp,cmp2_i.ren,cmp2_i.un,c9,go_sem]
 obtain⟨x11,yx11,h0⟩:=bs h0
 refine Zbk 1000 (cmp2_h _ _ _ yx11) ?_ (by first|rfl|(simp[AV.refsL,AV.refs,AV.scal,AV.leaf,cmp2_i.refs];done)|simp[AV.refsL,AV.refs,AV.scal,AV.leaf,go_sem]) ?_
 try simp only[cmp2_i.sh,cmp2_i.frz,cmp2_i.br,cmp2_i.refs,cmp2_i.imp,cmp2_i.ren,cmp2_i.un,c9,aa yx10,go_sem]
 try simp only[cmp2_i.sh,cmp2_i.frz,cmp2_i.br,cmp2_i.refs,cmp2_i.imp,cmp2_i.ren,cmp2_i.un,c9,aa yx10,go_sem]
 refine ZaB ⟨ZaC (by simp only[ZdN,List.reverse_cons,List.reverse_nil,List.nil_append,List.cons_append,List.map_cons,List.map_nil,List.append_nil];rfl) (by first|decide +kernel|rfl),Zag Za9 1000 _ _ ?_⟩
 try simp only[cmp2_i.sh,cmp2_i.frz,cmp2_i.br,cmp2_i.refs,cmp2_i.imp,cmp2_i.ren,cmp2_i.un,c9,aa yx10,go_sem]
 obtain rfl:=oi h0
 refine Zad rfl ?_
 try simp only[F135.rs,cmp2_i.sh,cmp2_i.frz,cmp2_i.br,cmp2_i.refs,cmp2_i.imp,cmp2_i.ren,cmp2_i.un,c9,aa yx10,go_sem]
 try simp only[c9,cmp2_i.sh,cmp2_i.frz,cmp2_i.br,cmp2_i.refs,cmp2_i.imp,cmp2_i.ren,cmp2_i.un,go_sem]
 refine ZaB ⟨ZaC (by simp only[ZdN,List.reverse_cons,List.reverse_nil,List.nil_append,List.cons_append,List.map_cons,List.map_nil,List.append_nil];rfl) (by first|decide +kernel|rfl),Zag Za9 1000 _ _ ?_⟩
 try simp only[cmp2_i.sh,cmp2_i.frz,cmp2_i.br,cmp2_i.refs,cmp2_i.imp,cmp2_i.ren,cmp2_i.un,c9,go_sem]
 obtain rfl:=oi h0
 refine Zad rfl ?_
 try simp only[F135.rs,cmp2_i.sh,cmp2_i.frz,cmp2_i.br,cmp2_i.refs,cmp2_i.imp,cmp2_i.ren,cmp2_i.un,c9,go_sem]
def F139.s0:SC:=
 (.seq
 (.reg [b2 9 .lss 3 8 7 3 0 []])
 (.seq
 (.cond (.tmp 9)
 .skip
 (.exit 0))
 (.seq
 (.block 1
 (.seq
 (.reg [ia 10 63 6 8 [],
 ld 11 3 10 [10],
 sg 5 11 3 [11]])
 (.seq
 (.reg [mv 12 5 3 [],
 mv 13 3 3 [],
 b2 14 .neq 3 12 13 3 4 [12,13]])
 (.cond (.tmp 14)
 (.seq
 (.reg [mv 15 5 3 [5],
 sg 2 15 3 [15]])
 .ret)
 .skip))))
 (.reg [bn 16 .add 3 8 1 3 3 [8],
 mv 8 16 3 [16]]))))
def F139.c:SC:=
 (.seq
 (.reg [sn 2 0 3 [2]])
 (.seq
 (.reg [sn 3 0 3 []])
 (.seq
 (.seq
 (.reg [mv 6 0 63 [0],
 ln 7 6 63 3 [],
 oq 8 (.move (.const (.int .i64 0))) 3 []])
 (.block 0
 (.loop F139.s0)))
 (.seq
 (.reg [mv 17 3 3 [3],
 sg 2 17 3 [17]])
 .ret))))
theorem F139.rs:Try.f139.results.toList=[.tmp 2]:=rfl
def ZaG.b0 (k:Nat) (vals0:(List Int)):Int→Option (Stp (Int) (Unit) (Int)):=fun(i1:Int)=>
 bif decide (i1<(vals0.length:Int)) then
  (at? vals0 i1).bind fun x3=>
  bif (!decide (x3=(0:Int))) then
   some (.ret x3)
  else
   some (.next (w64 (i1+1)))
 else
  some (.brk ())
noncomputable def ZaG.h0 (vals0:(List Int)):Int→St:=fun(i1:Int)=>⟨[(3,.int .i64 0),(6,.sl 1 (List.map eI vals0)),(7,.int .i64 (vals0.length:Int)),(8,.int .i64 i1)],[],[],1,Try.f139.ntmps⟩
noncomputable def ZaG.x0:Unit→St:=fun(_:Unit)=>⟨[(3,.int .i64 0)],[],[],1,Try.f139.ntmps⟩
def ZaG (k:Nat) (vals0:(List Int)):Option (Int):=
 (whl (ZaG.b0 k vals0) k 0).bind fun r5=>match r5 with
 |.next _=>none
 |.ret v_=>some v_
 |.brk _=>
  some 0
theorem Zjy (k:Nat) (vals0:(List Int)) (r:Int) (h0:ZaG k vals0=some r):Za0 Try.prog 139 [.sl 1 (List.map eI vals0)] (fun y=>y=.int .i64 r):=by
 refine PB (fn:=Try.f139) (sc:=F139.c) ?_
 refine rS ?_
 simp only[ZaG]at h0
 try simp only[F139.c,go_sem]
 obtain⟨r5,yr5,h0⟩:=bs h0
 refine Zay yr5 (ZaG.h0 vals0) (ZaG.x0) ?_ ?_ ?_
 refine Za7.go [3,6,7,8] [] rfl ?_
 try simp only[ZaG.h0,go_sem]
 rintro i1 x_1 Bk1 Br1 h1 hnext1 hbrk1 hret1
 refine rS ?_
 simp only[ZaG.b0]at h1
 try simp only[F139.s0,ZaG.h0,go_sem]
 refine Zab h1 ?_ ?_<;>intro c2 h1
 try simp only[c2,go_sem]
 obtain⟨x3,yx3,h1⟩:=bs h1
 try simp only[aa yx3,c2,go_sem]
 refine Zab h1 ?_ ?_<;>intro c4 h1
 have c4:=ZaY c4
 try simp only[c4,c2,aa yx3,go_sem]
 obtain rfl:=hret1 _ (oi h1).symm
 simp only at h0
 obtain rfl:=oi h0
 refine Zad rfl ?_
 try simp only[F139.rs,c2,aa yx3,c4,go_sem]
 have c4:=ZaX c4
 try simp only[c4,c2,aa yx3,go_sem]
 refine Zaf (hnext1 _ _ (oi h1).symm ?_)
 refine Za7.go [3,6,7,8] [] rfl ?_
 try simp only[ZaG.h0,c2,aa yx3,c4,go_sem]
 try simp only[c2,go_sem]
 refine Zaf (hbrk1 _ _ (oi h1).symm ?_)
 refine Za7.go [3] [] rfl ?_
 try simp only[ZaG.x0,c2,go_sem]
 rintro _ hr_
 subst hr_
 simp only at h0
 refine rS ?_
 try simp only[ZaG.x0,go_sem]
 obtain rfl:=oi h0
 refine Zad rfl ?_
 try simp only[F139.rs,go_sem]
def F150.c:SC:=
 (.seq
 (.reg [sb 2 false 4 [2]])
 (.seq
 (.reg [mv 3 0 3 [],
 mv 4 0 3 [0],
 b2 5 .neq 3 3 4 3 4 [3,4],
 sg 2 5 4 [5]])
 .ret))
theorem F150.rs:Try.f150.results.toList=[.tmp 2]:=rfl
def ZcE (k:Nat) (x0:Int):Option (Bool):=
 some false
theorem ZeO (k:Nat) (x0:Int) (r:Bool) (h0:ZcE k x0=some r):Za0 Try.prog 150 [.int .i64 x0] (fun y=>y=.bool r):=by
 refine PB (fn:=Try.f150) (sc:=F150.c) ?_
 refine rS ?_
 simp only[ZcE]at h0
 try simp only[F150.c,go_sem]
 obtain rfl:=oi h0
 refine Zad rfl ?_
 try simp only[F150.rs,go_sem]
def F140.c:SC:=
 (.seq
 (.reg [sn 4 0 3 [4]])
 (.seq
 (.reg [mv 7 0 3 [],
 cf1 8 150 7 3 4 [7],
 sg 5 8 4 [8]])
 (.seq
 (.reg [mv 9 1 3 [],
 cf1 10 150 9 3 4 [9],
 sg 6 10 4 [10]])
 (.seq
 (.seq
 (.reg [mv 11 5 4 [5]])
 (.cond (.tmp 11)
 (.seq
 (.seq
 (.reg [mv 12 6 4 [6]])
 (.cond (.tmp 12)
 (.seq
 (.reg [sn 4 0 3 []])
 .ret)
 .skip))
 (.seq
 (.reg [sn 4 (-1) 3 []])
 .ret))
 .skip))
 (.seq
 (.seq
 (.reg [mv 13 6 4 [6]])
 (.cond (.tmp 13)
 (.seq
 (.reg [sn 4 1 3 []])
 .ret)
 .skip))
 (.seq
 (.seq
 (.reg [mv 14 0 3 [],
 mv 15 1 3 [],
 b2 16 .lss 3 14 15 3 4 [14,15]])
 (.cond (.tmp 16)
 (.seq
 (.reg [sn 4 (-1) 3 []])
 .ret)
 .skip))
 (.seq
 (.seq
 (.reg [mv 17 0 3 [0],
 mv 18 1 3 [1],
 b2 19 .gtr 3 17 18 3 4 [17,18]])
 (.cond (.tmp 19)
 (.seq
 (.reg [sn 4 1 3 []])
 .ret)
 .skip))
 (.seq
 (.reg [sn 4 0 3 []])
 .ret))))))))
theorem F140.rs:Try.f140.results.toList=[.tmp 4]:=rfl
def ZbJ (k:Nat) (x0:Int) (y1:Int):Option (Int):=
 (ZcE k x0).bind fun x1=>
 (ZcE k y1).bind fun x2=>
 bif x1 then
  bif x2 then
   some 0
  else
   some (-1)
 else
  bif x2 then
   some 1
  else
   bif decide (x0<y1) then
    some (-1)
   else
    bif decide (y1<x0) then
     some 1
    else
     some 0
theorem ZdV (k:Nat) (x0:Int) (y1:Int) (r:Int) (h0:ZbJ k x0 y1=some r):Za0 Try.prog 140 [.int .i64 x0,.int .i64 y1] (fun y=>y=.int .i64 r):=by
 refine PB (fn:=Try.f140) (sc:=F140.c) ?_
 refine rS ?_
 simp only[ZbJ]at h0
 try simp only[F140.c,go_sem]
 obtain⟨x1,yx1,h0⟩:=bs h0
 refine zc0 (ZeO k _ _ yx1) ?_ (by first|rfl|(simp[AV.refsL,AV.refs,AV.scal,AV.leaf];done)|simp[AV.refsL,AV.refs,AV.scal,AV.leaf,go_sem]) ?_
 try simp only[go_sem]
 try simp only[go_sem]
 obtain⟨x2,yx2,h0⟩:=bs h0
 refine zc0 (ZeO k _ _ yx2) ?_ (by first|rfl|(simp[AV.refsL,AV.refs,AV.scal,AV.leaf];done)|simp[AV.refsL,AV.refs,AV.scal,AV.leaf,go_sem]) ?_
 try simp only[go_sem]
 try simp only[go_sem]
 refine Zab h0 ?_ ?_<;>intro c3 h0
 try simp only[c3,go_sem]
 refine Zab h0 ?_ ?_<;>intro c4 h0
 try simp only[c4,c3,go_sem]
 obtain rfl:=oi h0
 refine Zad rfl ?_
 try simp only[F140.rs,c3,c4,go_sem]
 try simp only[c4,c3,go_sem]
 obtain rfl:=oi h0
 refine Zad rfl ?_
 try simp only[F140.rs,c3,c4,go_sem]
 try simp only[c3,go_sem]
 refine Zab h0 ?_ ?_<;>intro c5 h0
 try simp only[c5,c3,go_sem]
 obtain rfl:=oi h0
 refine Zad rfl ?_
 try simp only[F140.rs,c3,c5,go_sem]
 try simp only[c5,c3,go_sem]
 refine Zab h0 ?_ ?_<;>intro c6 h0
 try simp only[c6,c3,c5,go_sem]
 obtain rfl:=oi h0
 refine Zad rfl ?_
 try simp only[F140.rs,c3,c5,c6,go_sem]
 try simp only[c6,c3,c5,go_sem]
 refine Zab h0 ?_ ?_<;>intro c7 h0
 try simp only[c7,c3,c5,c6,go_sem]
 obtain rfl:=oi h0
 refine Zad rfl ?_
 try simp only[F140.rs,c3,c5,c6,c7,go_sem]
 try simp only[c7,c3,c5,c6,go_sem]
 obtain rfl:=oi h0
 refine Zad rfl ?_
 try simp only[F140.rs,c3,c5,c6,c7,go_sem]
def F103.c:SC:=
 (.seq
 (.reg [oq 2 (.box 23 (.tmp 0)) 0 [0],
 oq 3 (.box 23 (.tmp 1)) 0 [1],
 sn 4 0 3 [4]])
 (.seq
 (.dreg [fa 5 23 2 0 [],
 ld 6 3 5 [],
 fa 7 23 3 0 [],
 ld 8 3 7 [],
 cf2 9 140 6 8 3 3 3 [],
 fa 10 23 2 1 [],
 ld 11 3 10 [],
 fa 12 23 3 1 [],
 ld 13 3 12 [],
 cf2 14 140 11 13 3 3 3 [],
 oq 15 (.buildSlice 63 2 #[(0,.tmp 9),(1,.tmp 14)]) 63 [],
 cf1 16 139 15 63 3 [],
 sg 4 16 3 []] [[],[0],[],[2],[0,1,2,3],[],[5],[],[7],[5,6,7,8,0,1,2,3,4],[0,1,2,3,4,5,6,7,8,9],[0,1,2,3,4,5,6,7,8,9,10],[0,1,2,3,4,5,6,7,8,9,10,11]] [2,3,5,6,7,8,9,10,11,12,13,14,15,16])
 .ret))
theorem F103.rs:Try.f103.results.toList=[.tmp 4]:=rfl
def Zdj (k:Nat) (a0:Entry) (b1:Entry):Option (Int):=
 (ZbJ k a0.House b1.House).bind fun x1=>
 (ZbJ k a0.No b1.No).bind fun x2=>
 (ZaG k [x1,x2]).bind fun x3=>
 some x3
theorem ZhV (k:Nat) (a0:Entry) (b1:Entry) (r:Int) (h0:Zdj k a0 b1=some r):Za0 Try.prog 103 [.agg (Entry.c a0),.agg (Entry.c b1)] (fun y=>y=.int .i64 r):=by
 refine PB (fn:=Try.f103) (sc:=F103.c) ?_
 refine rS ?_
 simp only[Zdj]at h0
 try simp only[F103.c,go_sem]
 refine Zat Za9 Zau 1000 ?_
 try simp only[go_sem]
 obtain⟨x1,yx1,h0⟩:=bs h0
 refine Zbk 1000 (ZdV k _ _ _ yx1) ?_ (by first|rfl|(simp[AV.refsL,AV.refs,AV.scal,AV.leaf];done)|simp[AV.refsL,AV.refs,AV.scal,AV.leaf,go_sem]) ?_
 try simp only[go_sem]
 try simp only[go_sem]
 obtain⟨x2,yx2,h0⟩:=bs h0
 refine Zbk 1000 (ZdV k _ _ _ yx2) ?_ (by first|rfl|(simp[AV.refsL,AV.refs,AV.scal,AV.leaf];done)|simp[AV.refsL,AV.refs,AV.scal,AV.leaf,go_sem]) ?_
 try simp only[go_sem]
 try simp only[go_sem]
 obtain⟨x3,yx3,h0⟩:=bs h0
 refine Zbk 1000 (Zjy k _ _ yx3) ?_ (by first|rfl|(simp[AV.refsL,AV.refs,AV.scal,AV.leaf];done)|simp[AV.refsL,AV.refs,AV.scal,AV.leaf,go_sem]) ?_
 try simp only[go_sem]
 try simp only[go_sem]
 refine ZaB ⟨ZaC (by simp only[ZdN,List.reverse_cons,List.reverse_nil,List.nil_append,List.cons_append,List.map_cons,List.map_nil,List.append_nil];rfl) (by first|decide +kernel|rfl),Zag Za9 1000 _ _ ?_⟩
 try simp only[go_sem]
 obtain rfl:=oi h0
 refine Zad rfl ?_
 try simp only[F103.rs,go_sem]
def F136.c:SC:=
 (.seq
 (.reg [oq 2 (.box 25 (.tmp 0)) 0 [0],
 oq 3 (.box 23 (.tmp 1)) 0 [1],
 sn 4 0 3 [4]])
 (.seq
 (.reg [fa 5 25 2 0 [2],
 ld 6 23 5 [5],
 ld 7 23 3 [3],
 cf2 8 103 6 7 23 23 3 [6,7],
 sg 4 8 3 [8]])
 .ret))
theorem F136.rs:Try.f136.results.toList=[.tmp 4]:=rfl
def ZbY (k:Nat) (r0:Record) (x1:Entry):Option (Int):=
 (Zdj k r0.At x1).bind fun x2=>
 some x2
theorem ZiG (k:Nat) (r0:Record) (x1:Entry) (r:Int) (h0:ZbY k r0 x1=some r):Za0 Try.prog 136 [.agg (Record.c r0),.agg (Entry.c x1)] (fun y=>y=.int .i64 r):=by
 refine PB (fn:=Try.f136) (sc:=F136.c) ?_
 refine rS ?_
 simp only[ZbY]at h0
 try simp only[F136.c,go_sem]
 obtain⟨x2,yx2,h0⟩:=bs h0
 refine zc0 (ZhV k _ _ _ yx2) ?_ (by first|rfl|(simp[AV.refsL,AV.refs,AV.scal,AV.leaf];done)|simp[AV.refsL,AV.refs,AV.scal,AV.leaf,go_sem]) ?_
 try simp only[go_sem]
 try simp only[go_sem]
 obtain rfl:=oi h0
 refine Zad rfl ?_
 try simp only[F136.rs,go_sem]
def F97.c:SC:=
 (.seq
 (.reg [oq 2 (.box 46 (.tmp 0)) 0 [0],
 oq 3 (.box 23 (.tmp 1)) 0 [1],
 sn 4 0 3 [4],
 sb 5 false 4 [5]])
 (.seq
 (.reg [fa 6 46 2 0 [2],
 ld 7 44 6 [6],
 ld 8 23 3 [3],
 oq 9 (.call ⟨.value (.func 135),#[.tmp 7,.tmp 8,.func 136],#[44,23,213]⟩) 164 [7,8],
 xt 10 9 0 3 [],
 xt 11 9 1 4 [9],
 sg 4 10 3 [10],
 sg 5 11 4 [11]])
 .ret))
theorem F97.rs:Try.f97.results.toList=[.tmp 4,.tmp 5]:=rfl
def ZeZ (k:Nat) (b0:Book) (at1:Entry):Option (Int×Bool):=
 (Zac k b0.Records at1 (fun q0 q1=>ZbY k q0 q1)).bind fun x1=>
 some (x1.1,x1.2)
theorem Zkl (k:Nat) (b0:Book) (at1:Entry) (r:Int×Bool) (h0:ZeZ k b0 at1=some r):Za0 Try.prog 97 [.agg (Book.c b0),.agg (Entry.c at1)] (fun y=>y=.tup [.int .i64 r.1,.bool r.2]):=by
 refine PB (fn:=Try.f97) (sc:=F97.c) ?_
 refine rS ?_
 simp only[ZeZ]at h0
 try simp only[F97.c,go_sem]
 obtain⟨x1,yx1,h0⟩:=bs h0
 refine zc0 (Zcp k _ _ 136 [] ⟨fun _=>rfl,fun _=>rfl,fun _ _=>rfl,rfl,fun _=>rfl,fun _=>rfl,fun _=>rfl⟩ (fun q0 q1=>ZbY k q0 q1) (fun q0 q1 qr qh=>ZiG k q0 q1 qr qh) _ yx1) ?_ (by first|rfl|(simp[AV.refsL,AV.refs,AV.scal,AV.leaf];done)|simp[AV.refsL,AV.refs,AV.scal,AV.leaf,go_sem]) ?_
 try simp only[go_sem]
 try simp only[go_sem]
 obtain rfl:=oi h0
 refine Zad rfl ?_
 try simp only[F97.rs,go_sem]
end Go.Abs
namespace Go.Abs
open Go Go.Proofs Go.RowKit Go.Lib
theorem ZcK {P:Program} (w:World) (dT sT ty elem:TypeId) (z b o dLen dCap:Nat) (a:Addr) (sLen sCap:Nat) (cs:List Value)
  (hu:P.underlying dT=some (.slice elem)) (hs:(P.info? elem).map (·.size)=some z) (hn:cs.length=Nat.min sLen dLen*z)
  (hsrc:∀ j v,cs[j]?=some v→w.cell? (a.add j)=some v) (hc:∀ j,j<cs.length→(w.cell? ⟨b,o+j,none⟩).isSome=true) (hf:∀ j,j<cs.length→w.frozen? ⟨b,o+j,none⟩=false) (h1:∀ v∈cs,v.oneCell'=true):
  (Builtin.copy_ #[dT,sT] ty #[.slice (some ⟨b,o,none⟩) dLen dCap,.slice (some a) sLen sCap]).run P w=.ok (goInt (Nat.min sLen dLen)) (w.setCells b o cs):=by
 have hl:=run_loadCells_list (P:=P) w a cs hsrc
 have hst:=run_storeCells_cells (P:=P) b o cs 0 w (by simpa using hc) (by simpa using hf) h1
 cases hq:P.info? elem with
 |none=>simp[hq]at hs
 |some i=>
  have hi:i.size=z:=by simpa [hq] using hs
  simp[Builtin.copy_,run_underlying hu,Builtin.lenOf,Builtin.firstCells,sizeOf,typeInfo,hq,hi,←hn,hl,hst]
theorem ZoZ (b n c i vb voff vc:Nat) (cs vs:List Value) (w:World) (hi:i<n) (hroom:n+1≤c) (hc63:c≤9223372036854775807) (hvb:vb≠b) (hcl:cs.length=n*8) (hvl:vs.length=8)
  (hcs:∀ j v,cs[j]?=some v→w.cell? ⟨b,j,none⟩=some v) (hsp:∀ j,j<(n+1)*8→(w.cell? ⟨b,j,none⟩).isSome=true) (hfz:∀ j,j<(n+1)*8→w.frozen? ⟨b,j,none⟩=false)
  (hvs:∀ j v,vs[j]?=some v→w.cell? ⟨vb,voff+j,none⟩=some v) (h1c:∀ v∈cs,v.oneCell'=true) (h1v:∀ v∈vs,v.oneCell'=true)
  (tA tB:TypeId) (kA kB:Nat) (hsa:w.shape? vb=some (tA,kA)) (hsb:w.shape? b=some (tB,kB)) (hkB:kB≠0) (hfa:w.frozen? ⟨vb,voff,none⟩=false) (hfe:w.frozen? ⟨vb,kA,none⟩=false):
  Calls Try.prog 98 #[.slice (some ⟨b,0,none⟩) n c,.int .i64 i,.slice (some ⟨vb,voff,none⟩) 1 vc] w fun e w'=>
   e=.returned (.slice (some ⟨b,0,none⟩) (n+1) c)∧w'=(w.drew.setCells b ((i+1)*8) (cs.drop (i*8))).setCells b (i*8) vs:=by
 have t44:Try.prog.underlying 44=some (.slice 25):=by rfl
 have hsz:(Try.prog.info? 25).map (·.size)=some 8:=by rfl
 have hz2:¬ ((i:Int)=(n:Int)):=by omega
 have hw1:IntKind.i64.wrap ((i:Int)+1)=(i:Int)+1:=by rw[IntKind.wrap_i64];omega
 have hw2:IntKind.i64.wrap ((n:Int)+1)=(n:Int)+1:=by rw[IntKind.wrap_i64];omega
 have hb1:(0:Int)≤(i:Int)+1:=by omega
 have hin:i≤n:=by omega
 have htn:((i:Int)+1).toNat=i+1:=by omega
 have htn2:((n:Int)+1).toNat=n+1:=by omega
 have hb2:¬ (c=i+1):=by omega
 have hb4:¬ (c=i):=by omega
 have hrc:¬ ((c:Int)<(n:Int)+1):=by omega
 have hntm:Try.f98.ntmps=95:=by rfl
 have hb3:(i:Int)≤(n:Int)+1:=by omega
 have mixed:=Zau
 have hz8:∀ w,(Go.sizeOf 25).run Try.prog w=.ok 8 w:=fun _=>by rfl
 have hov:∀ lb cb,(callFunc 137 #[.slice (some ⟨vb,voff,none⟩) 1 vc,.slice (some ⟨b,(i+1)*8,none⟩) lb cb]).run Try.prog w=.ok (.value (.bool false)) w:=fun lb cb=>by
  rw[run_callFunc_extern (fn:=Try.f137) (by rfl) (by kernel_rfl) (by kernel_rfl) (by kernel_rfl) (e:=Extern.SlicesOverlaps.overlaps #[44,44] #[4]) (by kernel_rfl),
   Lib.run_overlaps_apart w 44 4 25 t44 8 hz8 ⟨vb,voff,none⟩ ⟨b,(i+1)*8,none⟩ 1 vc lb cb hvb tA tB kA kB hsa hsb hkB hfa hfe]
  rfl
 have hdl:(cs.drop (i*8)).length=(n - i)*8:=by rw[List.length_drop,hcl,Nat.sub_mul]
 have hmin1:Nat.min (n+1 - i) (n - i)=n - i:=by simp only[Nat.min_def];split<;>omega
 have hmin2:Nat.min 1 (n+1 - i)=1:=by simp only[Nat.min_def];split<;>omega
 have hlt1:∀ j,j<(cs.drop (i*8)).length→(i+1)*8+j<(n+1)*8:=fun j hj=>by rw[hdl]at hj;omega
 have hcp1:∀ ty dc sc,(Builtin.copy_ #[44,44] ty #[.slice (some ⟨b,(i+1)*8,none⟩) (n - i) dc,.slice (some ⟨b,i*8,none⟩) (n+1 - i) sc]).run Try.prog w.drew=.ok (goInt ((n - i:Nat):Int)) (w.drew.setCells b ((i+1)*8) (cs.drop (i*8))):=fun ty dc sc=>by
  have:=ZcK (P:=Try.prog) w.drew 44 44 ty 25 8 b ((i+1)*8) (n - i) dc ⟨b,i*8,none⟩ (n+1 - i) sc (cs.drop (i*8)) t44 hsz (by rw[hdl,hmin1])
   (fun j v hj=>by rw[Addr.add_lit];exact hcs (i*8+j) v (by rwa [List.getElem?_drop]at hj))
   (fun j hj=>hsp _ (hlt1 j hj)) (fun j hj=>hfz _ (hlt1 j hj)) (fun v hv=>h1c v (List.mem_of_mem_drop hv))
  rw[hmin1]at this
  exact this
 obtain⟨W1,hW1⟩:∃ W1,W1=w.drew.setCells b ((i+1)*8) (cs.drop (i*8)):=⟨_,rfl⟩
 have hsp1:∀ k,k<(n+1)*8→(W1.cell? ⟨b,k,none⟩).isSome=true:=fun k hk=>by
  rw[hW1]
  exact isSome_setCells b _ _ w.drew (fun j hj=>hsp _ (hlt1 j hj)) _ (hsp k hk)
 have hcp2:∀ (W:World),(∀ x,W.cell? x=W1.cell? x)→(∀ x,W.frozen? x=W1.frozen? x)→∀ ty dc,(Builtin.copy_ #[44,44] ty #[.slice (some ⟨b,i*8,none⟩) (n+1 - i) dc,.slice (some ⟨vb,voff,none⟩) 1 vc]).run Try.prog W=.ok (goInt 1) (W.setCells b (i*8) vs):=fun W hWc hWf ty dc=>by
  have:=ZcK (P:=Try.prog) W 44 44 ty 25 8 b (i*8) (n+1 - i) dc ⟨vb,voff,none⟩ 1 vc vs t44 hsz (by rw[hvl,hmin2])
   (fun j v hj=>by
    rw[Addr.add_lit,hWc,hW1,World.cell?_setCells_out b _ _ _ _ (fun h _=>absurd h hvb)]
    exact hvs j v hj)
   (fun j hj=>by rw[hWc];exact hsp1 _ (by omega)) (fun j hj=>by rw[hWf,hW1,World.frozen?_setCells];exact hfz _ (by omega)) h1v
  rw[hmin2]at this
  exact this
 rw[←hW1]at hcp1
 go_enter (show Try.prog.funcs[98]?=some Try.f98 from by rfl),hntm
 go_wp2_with (simp only[hov])
 go_region_law_o (refine step_copy_runI rfl _ _ 44 44 rfl _ _ (by simp[Act.eval,Act.put]) (by simp[Act.eval,Act.put]) (hcp1 _ _ _) ?_)
 go_wp2_with (at_builtin;refine wpList_copy_runI _ rfl _ _ 44 44 rfl _ _ rfl rfl (hcp2 _ (fun _=>rfl) (fun _=>rfl) _ _) ?_)
 go_ret
 first|exact⟨rfl,rfl⟩|exact⟨rfl,by rw[hW1]⟩
def ZjU:Value:=.agg #[.int .i64 0,.int .i64 0,.int .i64 0,.int .i64 0,.int .i64 0,.int .i64 0,.int .i64 0,.string ⟨#[]⟩]
theorem ZqG (b n c i vb voff vc:Nat) (cs vs:List Value) (w:World) (hi:i<n) (hnc:n≤c) (hroom:c<n+1) (hbig:(n+1)*72≤140737488355328) (hcl:cs.length=n*8) (hvl:vs.length=8)
  (hcs:∀ j v,cs[j]?=some v→w.cell? ⟨b,j,none⟩=some v) (hvs:∀ j v,vs[j]?=some v→w.cell? ⟨vb,voff+j,none⟩=some v) (h1c:∀ v∈cs,v.oneCell'=true) (h1v:∀ v∈vs,v.oneCell'=true):
  Calls Try.prog 98 #[.slice (some ⟨b,0,none⟩) n c,.int .i64 i,.slice (some ⟨vb,voff,none⟩) 1 vc] w fun e w'=>
   e=.returned (.slice (some ⟨w.heap.size,0,none⟩) (n+1) (grownCap w (n+1) c 25))∧
   w'=(((w.alloc (.cells ((cs.take (i*8)).toArray++Builtin.zeroCells ZjU.cells (n+1 - i)++Builtin.zeroCells ZjU.cells (grownCap w (n+1) c 25 - (n+1))) 25)).drew.setCells w.heap.size (i*8) vs).drew).setCells w.heap.size ((i+1)*8) (cs.drop (i*8)):=by
 have t44:Try.prog.underlying 44=some (.slice 25):=by rfl
 have t3:Try.prog.underlying 3=some (.int .i64):=by rfl
 have hsz:(Try.prog.info? 25).map (·.size)=some 8:=by rfl
 obtain⟨i0,hi0,hz0,hzs,hzb⟩:∃ i0,Try.prog.info? 25=some i0∧i0.zero=some ZjU∧i0.size=8∧i0.bytes=72:=⟨_,rfl,rfl,rfl,rfl⟩
 have mixed:=Zau
 have hntm:Try.f98.ntmps=95:=by rfl
 have hz2:¬ ((i:Int)=(n:Int)):=by omega
 have hz3:(c:Int)<(n:Int)+1:=by omega
 have hbw:b<w.heap.size:=by
  have:=block_lt_of_cell (hcs 0 _ (gG (by omega)));exact this
 have hvw:vb<w.heap.size:=by
  have:=block_lt_of_cell (hvs 0 _ (gG (by omega)));exact this
 have hkk:(n:Int)+1 - (i:Int)=((n+1 - i:Nat):Int):=by omega
 have hik:i+(n+1 - i)=n+1:=by omega
 have hold:(Builtin.firstCells i0.size i (.slice (some ⟨b,0,none⟩) i c)).run Try.prog w.drew=.ok (cs.take (i*8)).toArray w.drew:=by
  rw[hzs]
  exact run_firstCells_some w.drew 8 i ⟨b,0,none⟩ i c (cs.take (i*8)) (by rw[List.length_take];omega) (fun j v hj=>by
   rw[Addr.add_lit,Nat.zero_add]
   rw[List.getElem?_take]at hj
   split at hj
   ·exact hcs j v hj
   ·cases hj)
 have hrz:∀ ty,(Builtin.append_ #[44,3] ty #[.slice (some ⟨b,0,none⟩) i c,.int .i64 ((n:Int)+1 - (i:Int))]).run Try.prog w =
   .ok (.slice (some ⟨w.heap.size,0,none⟩) (n+1) (grownCap w (n+1) c 25)) (w.drew.alloc (.cells ((cs.take (i*8)).toArray++Builtin.zeroCells ZjU.cells (n+1 - i)++Builtin.zeroCells ZjU.cells (grownCap w (n+1) c 25 - (n+1))) 25)):=fun ty=>by
  have h:=Lib.run_append_grow_zeros w 44 3 ty 25 i0 ZjU .i64 .i64 t44 t3 hi0 hz0 (some ⟨b,0,none⟩) i c (cs.take (i*8)) hold (n+1 - i) (by omega) (by omega) (by omega) (by omega) (by rw[hzb];omega) (by rw[hzb,hik];exact growslice_fits hroom hbig)
  rw[hik]at h
  rw[hkk]
  exact h
 obtain⟨G,hG⟩:∃ G,G=grownCap w (n+1) c 25:=⟨_,rfl⟩
 obtain⟨ROW,hROW⟩:∃ ROW:Array Value,ROW=(cs.take (i*8)).toArray++Builtin.zeroCells ZjU.cells (n+1 - i)++Builtin.zeroCells ZjU.cells (G - (n+1)):=⟨_,rfl⟩
 rw[←hG]at hrz ⊢
 rw[←hROW]at hrz ⊢
 have hzc:ZjU.cells.size=8:=by rfl
 have hRl:(n+1)*8≤ROW.size:=by
  rw[hROW,Array.size_append,Array.size_append,size_zeroCells,size_zeroCells,hzc,List.size_toArray,List.length_take,Nat.min_eq_left (by omega)]
  omega
 obtain⟨W1,hW1⟩:∃ W1,W1=w.drew.alloc (.cells ROW 25):=⟨_,rfl⟩
 rw[←hW1]at hrz
 have hN:∀ j,j<(n+1)*8→(W1.cell? ⟨w.heap.size,j,none⟩).isSome=true:=fun j hj=>by
  rw[hW1,World.cell?_alloc_at (w:=w.drew) ROW _ w.heap.size j rfl,Array.getElem?_eq_getElem (by omega)];rfl
 have hNf:∀ j,W1.frozen? ⟨w.heap.size,j,none⟩=false:=fun j=>by rw[hW1];exact World.frozen?_alloc_at (w:=w.drew) ROW _ w.heap.size j rfl
 have hOb:∀ j v,w.cell? ⟨b,j,none⟩=some v→W1.cell? ⟨b,j,none⟩=some v:=fun j v h=>by rw[hW1,World.cell?_alloc_past (w:=w.drew) _ b j hbw];exact h
 have hOv:∀ j v,w.cell? ⟨vb,j,none⟩=some v→W1.cell? ⟨vb,j,none⟩=some v:=fun j v h=>by rw[hW1,World.cell?_alloc_past (w:=w.drew) _ vb j hvw];exact h
 have hmin2:Nat.min 1 (n+1 - i)=1:=by simp only[Nat.min_def];split<;>omega
 have hmin3:Nat.min (n - i) (n - i)=n - i:=by simp only[Nat.min_def];split<;>omega
 have hdl:(cs.drop (i*8)).length=(n - i)*8:=by rw[List.length_drop,hcl,Nat.sub_mul]
 have hlt1:∀ j,j<(cs.drop (i*8)).length→(i+1)*8+j<(n+1)*8:=fun j hj=>by rw[hdl]at hj;omega
 have hcpA:∀ (W:World),(∀ x,W.cell? x=W1.cell? x)→(∀ x,W.frozen? x=W1.frozen? x)→∀ ty dc,(Builtin.copy_ #[44,44] ty #[.slice (some ⟨w.heap.size,i*8,none⟩) (n+1 - i) dc,.slice (some ⟨vb,voff,none⟩) 1 vc]).run Try.prog W=.ok (goInt 1) (W.setCells w.heap.size (i*8) vs):=fun W hWc hWf ty dc=>by
  have:=ZcK (P:=Try.prog) W 44 44 ty 25 8 w.heap.size (i*8) (n+1 - i) dc ⟨vb,voff,none⟩ 1 vc vs t44 hsz (by rw[hvl,hmin2])
   (fun j v hj=>by rw[Addr.add_lit,hWc];exact hOv _ v (hvs j v hj))
   (fun j hj=>by rw[hWc];exact hN _ (by omega)) (fun j hj=>by rw[hWf];exact hNf _) h1v
  rw[hmin2]at this
  exact this
 have hGn:n+1≤G:=by rw[hG];exact grownCap_ge w _ _ _
 have hG63:G≤9223372036854775807:=by
  have:=grownCap_le_maxLen w (n+1) c 25 (by unfold maxLen;omega)
  rw[←hG]at this
  unfold maxLen at this
  omega
 have hGi:¬ (G=i):=by omega
 have hGim:¬ (G=i+1):=by omega
 have hci:¬ (c=i):=by omega
 have hbN:b≠w.heap.size:=by omega
 have hcpB:∀ (W:World),(∀ x,W.cell? x=(W1.setCells w.heap.size (i*8) vs).cell? x)→(∀ x,W.frozen? x=(W1.setCells w.heap.size (i*8) vs).frozen? x)→∀ ty dc sc,(Builtin.copy_ #[44,44] ty #[.slice (some ⟨w.heap.size,(i+1)*8,none⟩) (n - i) dc,.slice (some ⟨b,i*8,none⟩) (n - i) sc]).run Try.prog W=.ok (goInt ((n - i:Nat):Int)) (W.setCells w.heap.size ((i+1)*8) (cs.drop (i*8))):=fun W hWc hWf ty dc sc=>by
  have:=ZcK (P:=Try.prog) W 44 44 ty 25 8 w.heap.size ((i+1)*8) (n - i) dc ⟨b,i*8,none⟩ (n - i) sc (cs.drop (i*8)) t44 hsz (by rw[hdl,hmin3])
   (fun j v hj=>by
    rw[Addr.add_lit,hWc,World.cell?_setCells_out _ _ _ _ _ (fun h _=>absurd h hbN)]
    exact hOb _ v (hcs (i*8+j) v (by rwa [List.getElem?_drop]at hj)))
   (fun j hj=>by rw[hWc];exact isSome_setCells _ _ _ _ (fun t ht=>hN _ (by rw[hvl]at ht;omega)) _ (hN _ (hlt1 j hj)))
   (fun j hj=>by rw[hWf,World.frozen?_setCells];exact hNf _) (fun v hv=>h1c v (List.mem_of_mem_drop hv))
  rw[hmin3]at this
  exact this
 subst hW1
 have hE1:∀ x,((w.alloc (.cells ROW 25)).drew).cell? x=(w.drew.alloc (.cells ROW 25)).cell? x:=fun x=>rfl
 have hE2:∀ x,((w.alloc (.cells ROW 25)).drew).frozen? x=(w.drew.alloc (.cells ROW 25)).frozen? x:=fun x=>rfl
 have hF1:∀ x,(((w.alloc (.cells ROW 25)).drew.setCells w.heap.size (i*8) vs).drew).cell? x=((w.drew.alloc (.cells ROW 25)).setCells w.heap.size (i*8) vs).cell? x:=fun x=>rfl
 have hF2:∀ x,(((w.alloc (.cells ROW 25)).drew.setCells w.heap.size (i*8) vs).drew).frozen? x=((w.drew.alloc (.cells ROW 25)).setCells w.heap.size (i*8) vs).frozen? x:=fun x=>rfl
 have hw1:IntKind.i64.wrap ((i:Int)+1)=(i:Int)+1:=by rw[IntKind.wrap_i64];omega
 have hw2:IntKind.i64.wrap ((n:Int)+1)=(n:Int)+1:=by rw[IntKind.wrap_i64];omega
 have hw3:IntKind.i64.wrap ((n:Int)+1 - (i:Int))=(n:Int)+1 - (i:Int):=by rw[IntKind.wrap_i64];omega
 have hb1:(0:Int)≤(i:Int)+1:=by omega
 have hin:i≤n:=by omega
 have htn:((i:Int)+1).toNat=i+1:=by omega
 have hb3:(i:Int)≤(n:Int)+1:=by omega
 have hb5:(i:Int)≤(n:Int):=by omega
 clear hkk hik hold hROW hG hRl
 go_enter (show Try.prog.funcs[98]?=some Try.f98 from by rfl),hntm
 go_wp2_with (first
  |(at_builtin;refine Lib.wpList_append_run _ rfl _ _ _ _ rfl _ _ rfl rfl _ _ (hrz _) ?_)
  |(at_builtin;refine wpList_copy_runI _ rfl _ _ 44 44 rfl _ _ rfl rfl (hcpA _ hE1 hE2 _ _) ?_)
  |(at_builtin;refine wpList_copy_runI _ rfl _ _ 44 44 rfl _ _ rfl rfl (hcpB _ (fun _=>rfl) (fun _=>rfl) _ _ _) ?_))
 go_region_law_o (refine step_copy_runI rfl _ _ 44 44 rfl (.slice (some ⟨w.heap.size,(i+1)*8,none⟩) (n - i) (G - (i+1))) (.slice (some ⟨b,i*8,none⟩) (n - i) (c - i)) (by simp[Act.eval,Act.put]) (by simp[Act.eval,Act.put]) (hcpB _ hF1 hF2 3 (G - (i+1)) (c - i)) ?_)
 go_wp2
 go_ret
 exact⟨rfl,rfl⟩
end Go.Abs
namespace Go.Abs
open Go Go.Proofs Go.RowKit Go.Lib
def F98.c:SC:=
 (.seq
 (.reg [oq 6 (.assign (.const (.slice none 0 0))) 44 [6]])
 (.seq
 (.reg [mv 10 0 44 [],
 mv 11 1 3 [],
 oq 12 (.slice 44 (.tmp 10) (some (.tmp 11)) none none) 44 [10,11,12]])
 (.seq
 (.reg [mv 13 2 44 [],
 ln 14 13 44 3 [13],
 sg 7 14 3 [14]])
 (.seq
 (.seq
 (.reg [mv 15 7 3 [],
 bn 16 .eql 3 15 0 3 4 [15]])
 (.cond (.tmp 16)
 (.seq
 (.reg [mv 17 0 44 [0],
 sg 6 17 44 [17]])
 .ret)
 .skip))
 (.seq
 (.reg [mv 18 0 44 [],
 ln 19 18 44 3 [18],
 sg 8 19 3 [19]])
 (.seq
 (.seq
 (.reg [mv 20 1 3 [],
 mv 21 8 3 [],
 b2 22 .eql 3 20 21 3 4 [20,21]])
 (.cond (.tmp 22)
 (.seq
 (.reg [mv 23 0 44 [0],
 mv 24 2 44 [2],
 oq 25 (.call ⟨.builtin .append,#[.tmp 23,.tmp 24],#[44,44]⟩) 44 [23,24],
 sg 6 25 44 [25]])
 .ret)
 .skip))
 (.seq
 (.seq
 (.reg [mv 26 8 3 [],
 mv 27 7 3 [],
 b2 28 .add 3 26 27 3 3 [26,27],
 mv 29 0 44 [],
 oq 30 (.call ⟨.builtin .cap,#[.tmp 29],#[44]⟩) 3 [29],
 b2 31 .gtr 3 28 30 3 4 [28,30]])
 (.cond (.tmp 31)
 (.seq
 (.reg [mv 32 0 44 [],
 mv 33 1 3 [],
 oq 34 (.slice 44 (.tmp 32) none (some (.tmp 33)) none) 44 [32,33],
 mv 35 8 3 [8],
 mv 36 7 3 [],
 b2 37 .add 3 35 36 3 3 [35,36],
 mv 38 1 3 [],
 b2 39 .sub 3 37 38 3 3 [37,38],
 oq 40 (.call ⟨.builtin .append,#[.tmp 34,.tmp 39],#[44,3]⟩) 44 [34,39],
 sg 9 40 44 [40]])
 (.seq
 (.reg [mv 41 9 44 [],
 mv 42 1 3 [],
 oq 43 (.slice 44 (.tmp 41) (some (.tmp 42)) none none) 44 [41,42],
 mv 44 2 44 [2],
 oq 45 (.call ⟨.builtin .copy,#[.tmp 43,.tmp 44],#[44,44]⟩) 3 [43,44,45]])
 (.seq
 (.dreg [mv 46 9 44 [],
 mv 47 1 3 [],
 mv 48 7 3 [],
 b2 49 .add 3 47 48 3 3 [],
 oq 50 (.slice 44 (.tmp 46) (some (.tmp 49)) none none) 44 [],
 mv 51 0 44 [],
 mv 52 1 3 [],
 oq 53 (.slice 44 (.tmp 51) (some (.tmp 52)) none none) 44 [],
 oq 54 (.call ⟨.builtin .copy,#[.tmp 50,.tmp 53],#[44,44]⟩) 3 []] [[],[],[],[1,2],[0,1,2,3],[],[],[5,6],[0,1,2,3,4,5,6,7]] [0,1,7,46,47,48,49,50,51,52,53,54])
 (.seq
 (.reg [mv 55 9 44 [9],
 sg 6 55 44 [55]])
 .ret))))
 .skip))
 (.seq
 (.reg [mv 56 0 44 [0],
 mv 57 8 3 [],
 mv 58 7 3 [],
 b2 59 .add 3 57 58 3 3 [57,58],
 oq 60 (.slice 44 (.tmp 56) none (some (.tmp 59)) none) 44 [56,59],
 sg 0 60 44 [60]])
 (.seq
 (.seq
 (.reg [mv 61 2 44 [],
 mv 62 0 44 [],
 mv 63 1 3 [],
 mv 64 7 3 [],
 b2 65 .add 3 63 64 3 3 [63,64],
 oq 66 (.slice 44 (.tmp 62) (some (.tmp 65)) none none) 44 [62,65],
 cf2 67 137 61 66 44 44 4 [61,66],
 oq 68 (.unOp .not 4 (.tmp 67)) 4 [67]])
 (.cond (.tmp 68)
 (.seq
 (.dreg [mv 69 0 44 [],
 mv 70 1 3 [],
 mv 71 7 3 [],
 b2 72 .add 3 70 71 3 3 [],
 oq 73 (.slice 44 (.tmp 69) (some (.tmp 72)) none none) 44 [],
 mv 74 0 44 [],
 mv 75 1 3 [],
 oq 76 (.slice 44 (.tmp 74) (some (.tmp 75)) none none) 44 [],
 oq 77 (.call ⟨.builtin .copy,#[.tmp 73,.tmp 76],#[44,44]⟩) 3 []] [[],[],[],[1,2],[0,1,2,3],[],[],[5,6],[0,1,2,3,4,5,6,7]] [7,69,70,71,72,73,74,75,76,77])
 (.seq
 (.reg [mv 78 0 44 [],
 mv 79 1 3 [1],
 oq 80 (.slice 44 (.tmp 78) (some (.tmp 79)) none none) 44 [78,79],
 mv 81 2 44 [2],
 oq 82 (.call ⟨.builtin .copy,#[.tmp 80,.tmp 81],#[44,44]⟩) 3 [80,81,82]])
 (.seq
 (.reg [mv 83 0 44 [0],
 sg 6 83 44 [83]])
 .ret)))
 .skip))
 (.seq
 (.reg [mv 84 0 44 [],
 mv 85 8 3 [8],
 oq 86 (.slice 44 (.tmp 84) (some (.tmp 85)) none none) 44 [84,85],
 mv 87 2 44 [2],
 oq 88 (.call ⟨.builtin .copy,#[.tmp 86,.tmp 87],#[44,44]⟩) 3 [86,87,88]])
 (.seq
 (.reg [mv 89 0 44 [],
 mv 90 1 3 [1],
 oq 91 (.slice 44 (.tmp 89) (some (.tmp 90)) none none) 44 [89,90],
 mv 92 7 3 [7],
 cf2 93 138 91 92 44 3 0 [91,92,93]])
 (.seq
 (.reg [mv 94 0 44 [0],
 sg 6 94 44 [94]])
 .ret))))))))))))
theorem F98.rs:Try.f98.results.toList=[.tmp 6]:=rfl
theorem ZkY {P:Program}{w:World}{g o:Nat}{us:List Value}{cur:Array Value}{e:TypeId} (hg:w.heap[g]?=some (.cells cur e (0,0))) (hle:o+us.length≤cur.size) (h1:∀ v∈us,v.oneCell'=true):
  w.setCells g o us=w.setRow g (cur.toList.take o++us++cur.toList.drop (o+us.length)).toArray:=by
 have a:=run_storeCells_at P g o e us 0 cur w hg (by simpa using hle) h1
 have b:=run_storeCells_cells (P:=P) g o us 0 w (fun j hj=>by
   simp only[World.cell?,hg,Nat.add_zero]
   rw[Array.getElem?_eq_getElem (by omega)];rfl) (fun j hj=>by simp[World.frozen?,hg]) h1
 rw[a]at b
 simp only[Nat.add_zero]at b
 simp only[Result.ok.injEq,true_and]at b
 exact b.symm
section
variable {N0:Nat}{W0:World}{fm:FM}{ts:List Tie}{H:Zam}{w:World}
theorem HR.less {H':Zam} (h:HR N0 W0 fm ts H w) (hl:H'.length=H.length) (hs:∀ l k b,H'.get l k=some b→H.get l k=some b):HR N0 W0 fm ts H' w:=
 ⟨h.len.trans hl.symm,fun l k b a=>h.blk l k b (hs l k b a),fun l k l' k' b b' c p q=>h.inj l k l' k' b b' c (hs _ _ _ p) (hs _ _ _ q),h.fms,fun l k b c o p=>h.fmd l k b c o (hs _ _ _ p),h.bel,h.size,h.oth⟩
theorem Zrc {α:Type} (L us:List α) (off n:Nat) (h:n≤off+us.length) (ho:off≤n):
  L.take off++us++L.drop (off+us.length)=((L.take n).take off++(us++(L.take n).drop (off+us.length)))++L.drop (off+us.length):=by
 have e1:(L.take n).take off=L.take off:=by rw[List.take_take,Nat.min_eq_left ho]
 have e2:(L.take n).drop (off+us.length)=[]:=by rw[List.drop_eq_nil_iff,List.length_take];omega
 rw[e1,e2,List.append_nil]
theorem HR.lay (h:HR N0 W0 fm ts H w) {l k c cap et esz i:Nat}{es new es':List (List AV)}{us:List Value} (hg:H.get l k=some (.arr et esz es)) (ht:tb ts l k=some (.arr es.length (some (c,cap))))
  (hi:i≤es.length) (hcap:i+new.length≤cap) (hno:ZaE new esz) (hv:VRs fm [] new.flatten us) (hf:∀ x∈new.flatten,x.flat=true) (he:es'=es.take i++(new++es.drop (i+new.length))):
  HR N0 W0 fm (Zei ts l k (.arr es'.length (some (c,cap)))) (H.put l k (some (.arr et esz es'))) (w.setCells c (i*esz) us):=by
 have hb:=h.blk l k _ hg
 rw[ht]at hb
 obtain⟨_,_,hA⟩:=hb.arr_inv
 obtain⟨hA,hN⟩:=hA c cap rfl
 obtain⟨cells,c1,c2,c3,c4,c5,c6,c7,c8⟩:=hA.flat
 have hul:us.length=new.length*esz:=by rw[←hv.1,ZbP _ _ hno]
 have hm1:(i+new.length)*esz≤cap*esz:=Nat.mul_le_mul_right _ hcap
 rw[Nat.add_mul]at hm1
 have hm2:es.length*esz≤cap*esz:=Nat.mul_le_mul_right _ c3
 have hm3:i*esz≤es.length*esz:=Nat.mul_le_mul_right _ hi
 have hel:es'.length≤cap∧es.length≤es'.length:=by
  rw[he,List.length_append,List.length_append,List.length_take,List.length_drop];omega
 rw[ZkY (P:=Try.prog) c1 (by rw[hul,c2];exact hm1) (hv.oneCells hf)]
 have hover:es'.flatten=es.flatten.take (i*esz)++(new.flatten++es.flatten.drop ((i+new.length)*esz)):=by
  rw[he,List.flatten_append,List.flatten_append,Zbs es i c5,Zc7 es _ c5]
 refine h.setArr hg ht (es':=es') (us:=(cells.toList.take (es.length*esz)).take (i*esz)++(us++(cells.toList.take (es.length*esz)).drop ((i+new.length)*esz)))
  (rest:=cells.toList.drop (max (es.length*esz) ((i+new.length)*esz))) hel.2 hel.1 ?_ ?_ ?_ ?_ ?_
 ·rw[he];exact ZaV (Zc8 c5 _) (ZaV hno (Zdm c5 _))
 ·rw[List.length_append,List.length_append,List.length_take,List.length_drop,Array.length_toList,hul,c2];omega
 ·rw[hover]
  exact(c7.take _).append (hv.append (c7.drop _))
 ·rw[hover]
  intro x hx
  rcases List.mem_append.1 hx with hx|hx
  ·exact c8 x (List.mem_of_mem_take hx)
  ·rcases List.mem_append.1 hx with hx|hx
   ·exact hf x hx
   ·exact c8 x (List.mem_of_mem_drop hx)
 ·have e1:(i+new.length)*esz=i*esz+us.length:=by rw[hul,Nat.add_mul]
  rw[e1]
  by_cases hle:i*esz+us.length≤es.length*esz
  ·rw[Nat.max_eq_left hle]
   exact ZgO _ _ _ _ hle (by rw[Array.length_toList (xs:=cells),c2];exact hm2)
  ·rw[Nat.max_eq_right (by omega)]
   exact Zrc _ _ _ _ (by omega) hm3
end
def Zn8:List AV:=[.int .i64 0,.int .i64 0,.int .i64 0,.int .i64 0,.int .i64 0,.int .i64 0,.int .i64 0,.str ⟨#[]⟩]
theorem Zro (fm:FM):VRs fm [] Zn8 ZjU.cells.toList:=by
 refine⟨by rfl,?_⟩
 intro i x v hx hv
 match i,hx,hv with
 |0,hx,hv=>cases hx;cases hv;exact .int _ _
 |1,hx,hv=>cases hx;cases hv;exact .int _ _
 |2,hx,hv=>cases hx;cases hv;exact .int _ _
 |3,hx,hv=>cases hx;cases hv;exact .int _ _
 |4,hx,hv=>cases hx;cases hv;exact .int _ _
 |5,hx,hv=>cases hx;cases hv;exact .int _ _
 |6,hx,hv=>cases hx;cases hv;exact .int _ _
 |7,hx,hv=>cases hx;cases hv;exact .str _
 |n+8,hx,hv=>cases hx
theorem Zuq {α:Type}{L es1:List α}{i:Nat} (hi:i<L.length) (h:L.take (i+1)++(L.drop i++L.drop (i+1+(L.drop i).length))=es1):es1.take i=L.take i∧es1.drop (i+1)=L.drop i:=by
 have hl:(L.take (i+1)).length=i+1:=by rw[List.length_take];omega
 have hd:L.drop (i+1+(L.drop i).length)=[]:=by rw[List.drop_eq_nil_iff,List.length_drop];omega
 subst h
 refine⟨?_,?_⟩
 ·rw[List.take_append_of_le_length (by omega),List.take_take,Nat.min_eq_left (by omega)]
 ·rw[List.drop_left' hl,hd,List.append_nil]
theorem Zur {α:Type}{L Z Y es1:List α}{x:α}{i:Nat} (hi:i≤L.length) (h:(L.take i++Z).take i++([x]++Y)=es1):es1.take (i+1)=L.take i++[x]:=by
 have hl:(L.take i).length=i:=by rw[List.length_take];omega
 subst h
 rw[List.take_left' hl,←List.append_assoc,List.take_left' (by rw[List.length_append,hl];rfl)]
def ZaU (k:Nat) (s:List Record) (i:Int) (v:List Record):Option (List Record):=
 if (0≤i∧i≤s.length)∧v.length=1∧room (s.length+1) 72 then some (s.take i.toNat++(v++s.drop i.toNat)) else none
theorem ZdK (k:Nat) (s:List Record) (i:Int) (v:List Record) (r:List Record) (h0:ZaU k s i v=some r):
  Zb7 Try.prog 98 [.loc 0 0 8 0 s.length s.length,.int .i64 i,.loc 0 1 8 0 v.length v.length] [(0,.arr 25 8 (List.map Record.c s)),(1,.arr 25 8 (List.map Record.c v))] (fun y fr=>y=.loc 0 0 8 0 r.length r.length∧fr=[(0,.arr 25 8 (List.map Record.c r))]):=by
 unfold ZaU at h0
 split at h0
 ·rename_i hc
  obtain⟨⟨hi0,hin⟩,hv1,hroom,hmx⟩:=hc
  obtain rfl:=oi h0
  obtain⟨x,rfl⟩:∃ x,v=[x]:=by
   cases v with
   |nil=>simp at hv1
   |cons x l=>cases l with
    |nil=>exact⟨x,rfl⟩
    |cons y l=>simp at hv1
  obtain⟨i,rfl⟩:∃ j:Nat,i=j:=⟨i.toNat,by omega⟩
  simp only[Int.toNat_natCast]
  by_cases he:i=s.length
  ·
   subst he
   have hr:=Zb7.own (et:=25) (sz:=8) (ls:=List.map Record.c (s.take s.length++([x]++s.drop s.length))) (Zb7.of_body Za9 (f:=98) (fn:=Try.f98) (sc:=F98.c) (args:=[.loc 0 0 8 0 s.length s.length,.int .i64 s.length,.loc 0 1 8 0 1 1]) (fr0:=[(0,.arr 25 8 (List.map Record.c s)),(1,.arr 25 8 (List.map Record.c [x]))]) (by rfl) (by rfl) (by decide +kernel) (by rfl) (by decide +kernel) (Nat.le_of_ble_eq_true rfl) (fun H=>?_))
   ·simpa only [List.length_map,List.length_cons,List.length_nil,Nat.zero_add] using hr
   refine Zag Za9 1000 _ _ ?_
   have hls:ls? s.length (s.length:Int)=some ():=by unfold ls?;rw[if_pos (by omega)]
   have hpr:room (s.length+1) 72:=⟨hroom,hmx⟩
   have hll:=Zvr hls
   simp only[F98.c,Zpa hls,hll,hpr,(@id (((1:Nat):Int)=1) rfl),(by decide:decide ((1:Int)=0)=false),(by simp:decide ((s.length:Int)=(s.length:Int))=true),go_sem]
   refine Zdf rfl ?_
   simp only[F98.rs,oOK,Option.map_some,Zb0,go_sem]
   first|exact(List.take_of_length_le (by simp)).symm|exact List.take_of_length_le (by simp)|(simp;done)|(simp;rw[List.take_of_length_le (by simp)])
  ·
   have hi:i<s.length:=by omega
   refine⟨⟨Try.f98,by rfl,by rfl,by rfl⟩,?_⟩
   intro H N0 W0 fm t ts w vs hH ht hvs
   obtain⟨x0,xs,rfl⟩:∃ a l,vs=a::l:=by
    cases vs with
    |nil=>exact absurd hvs.1 (by simp)
    |cons a l=>exact⟨a,l,rfl⟩
   obtain⟨x1,xs,rfl⟩:∃ a l,xs=a::l:=by
    cases xs with
    |nil=>exact absurd hvs.1 (by simp)
    |cons a l=>exact⟨a,l,rfl⟩
   obtain⟨x2,xs,rfl⟩:∃ a l,xs=a::l:=by
    cases xs with
    |nil=>exact absurd hvs.1 (by simp)
    |cons a l=>exact⟨a,l,rfl⟩
   obtain rfl:xs=[]:=by
    cases xs with
    |nil=>rfl
    |cons a l=>exact absurd hvs.1 (by simp)
   have hx0:=hvs.2 0 _ x0 rfl rfl
   have hx1:=hvs.2 1 _ x1 rfl rfl
   have hx2:=hvs.2 2 _ x2 rfl rfl
   have hg0:Zam.get ([(0,Blk.arr 25 8 (List.map Record.c s)),(1,Blk.arr 25 8 (List.map Record.c [x]))]::H) 0 0=some (.arr 25 8 (s.map Record.c)):=rfl
   have hg1:Zam.get ([(0,Blk.arr 25 8 (List.map Record.c s)),(1,Blk.arr 25 8 (List.map Record.c [x]))]::H) 0 1=some (.arr 25 8 ([x].map Record.c)):=rfl
   have hb0:=hH.blk 0 0 _ hg0
   have hb1:=hH.blk 0 1 _ hg1
   cases hx1
   generalize hsl:s.length=n at *
   cases hx0 with
   |locGone _ _ _ _ _ _ a' cp' htk=>rw[htk]at hb0;cases hb0
   |locOld _ _ _ _ _ _ a' cp' m' c htk hlt'=>rw[htk]at hb0;have:=hb0.arr_inv.1;simp at this;omega
   |locNil _ _ _ a1 htk=>omega
   |loc _ _ _ _ _ _ c cap cp' a' htk hin' hnc hcc ha=>
    cases hx2 with
    |locGone _ _ _ _ _ _ a2 cp2 htk2=>rw[htk2]at hb1;cases hb1
    |locOld _ _ _ _ _ _ a2 cp2 m2 c2 htk2 hlt2=>rw[htk2]at hb1;have:=hb1.arr_inv.1;simp at this;omega
    |loc _ _ _ _ _ _ vb vcap vcp va htk2 hin2 hnc2 hcc2 ha2=>
     have hac:a'=⟨c,0*8,none⟩:=ha (.inr rfl)
     have hva:va=⟨vb,0*8,none⟩:=ha2 (.inr rfl)
     subst hac hva
     rw[htk]at hb0
     rw[htk2]at hb1
     obtain⟨hA,hN⟩:=hb0.arr_inv.2.2 c cap rfl
     obtain⟨hA2,hN2⟩:=hb1.arr_inv.2.2 vb vcap rfl
     obtain⟨cells,c1,c2,c3,c4,c5,c6,c7,c8⟩:=hA.flat
     obtain⟨vcells,d1,d2,d3,d4,d5,d6,d7,d8⟩:=hA2.flat
     simp only[List.length_map,List.length_cons,List.length_nil,Nat.zero_add]at c3 d3 c7 d7 c2 d2
     rw[hsl]at c3 c7
     have hvb:vb≠c:=by
      intro h
      subst h
      have:=hH.inj 0 0 0 1 _ _ vb hg0 hg1 (by rw[htk];rfl) (by rw[htk2];rfl)
      omega
     have hcap:cp'=cap:=by omega
     subst hcap
     have hm8:n*8≤cells.size:=by omega
     obtain⟨cs,hcs⟩:∃ cs,cs=cells.toList.take (n*8):=⟨_,rfl⟩
     obtain⟨us,hus⟩:∃ us,us=vcells.toList.take (1*8):=⟨_,rfl⟩
     rw[←hcs]at c7
     rw[←hus]at d7
     have hcl:cs.length=n*8:=by rw[hcs,List.length_take,Array.length_toList];omega
     have hul:us.length=8:=by rw[hus,List.length_take,Array.length_toList];omega
     have hcc':∀ j v,cs[j]?=some v→w.cell? ⟨c,j,none⟩=some v:=fun j v hj=>by
      simp only[World.cell?,c1]
      rw[hcs,List.getElem?_take]at hj
      split at hj
      ·rw[Array.getElem?_toList]at hj;exact hj
      ·cases hj
     have huu:∀ j v,us[j]?=some v→w.cell? ⟨vb,j,none⟩=some v:=fun j v hj=>by
      simp only[World.cell?,d1]
      rw[hus,List.getElem?_take]at hj
      split at hj
      ·rw[Array.getElem?_toList]at hj;exact hj
      ·cases hj
     have h1c:=c7.oneCells c8
     have h1v:=d7.oneCells d8
     have hsn:((s.map Record.c).drop i).length=n - i:=by rw[List.length_drop,List.length_map,hsl]
     have hdr:VRs fm [] ((s.map Record.c).drop i).flatten (cs.drop (i*8)):=by rw[Zc7 _ _ c5];exact c7.drop _
     have hdf:∀ y∈((s.map Record.c).drop i).flatten,y.flat=true:=fun y hy=>by rw[Zc7 _ _ c5]at hy;exact c8 y (List.mem_of_mem_drop hy)
     have d8':∀ y∈([x].map Record.c).flatten,y.flat=true:=d8
     have hrl:(s.take i++([x]++s.drop i)).length=n+1:=by simp only[List.length_append,List.length_take,List.length_drop,List.length_cons,List.length_nil,hsl];omega
     have less1:∀ {b0 b1:Blk} (l k:Nat) (b:Blk),Zam.get ([(0,b0)]::H) l k=some b→Zam.get ([(0,b0),(1,b1)]::H) l k=some b:=by
      intro b0 b1 l k b h
      cases l with
      |zero=>
       by_cases hk:k=0
       ·subst hk;exact h
       ·simp[Zam.get,look,hk,show ¬ (0=k) by omega]at h
      |succ l=>exact h
     by_cases hrm:n+1≤cp'
     ·refine(ZoZ c n cp' i vb (0*8) vcp cs us w hi hrm (by unfold maxLen at c4;omega) hvb hcl hul hcc' ?_ ?_ ?_ h1c h1v 25 25 vcells.size cells.size ?_ ?_ ?_ ?_ ?_).mono ?_
      ·intro j hj
       simp only[World.cell?,c1]
       rw[Array.getElem?_eq_getElem (by omega)];rfl
      ·intro j hj;simp[World.frozen?,c1]
      ·intro j v hj
       simpa using huu j v hj
      ·simp[World.shape?,d1]
      ·simp[World.shape?,c1]
      ·omega
      ·simp[World.frozen?,d1]
      ·simp[World.frozen?,d1]
      ·rintro e w' ⟨rfl,rfl⟩
       have hs1:=hH.drew.lay (c:=c) (cap:=cp') (i:=i+1) (new:=(s.map Record.c).drop i) (us:=cs.drop (i*8)) hg0 (by rw[htk];simp[hsl]) (by rw[List.length_map,hsl];omega) (by rw[hsn];omega) (Zdm c5 _) hdr hdf rfl
       generalize hes1:(s.map Record.c).take (i+1)++((s.map Record.c).drop i++(s.map Record.c).drop (i+1+((s.map Record.c).drop i).length))=es1 at hs1
       have hl1:es1.length=n+1:=by rw[←hes1];simp only[List.length_append,List.length_take,List.length_drop,List.length_map,hsl];omega
       have hs2:=hs1.lay (l:=0) (k:=0) (c:=c) (cap:=cp') (et:=25) (esz:=8) (es:=es1) (i:=i) (new:=[x].map Record.c) (us:=us) (es':=(s.take i++([x]++s.drop i)).map Record.c) (by rfl) (by rw[ZaN,if_pos ⟨rfl,rfl,by simp⟩]) (by omega) (by simp;omega) d5 d7 d8' ?_
       ·refine⟨_,.loc 0 0 8 0 (n+1) (n+1),[(0,.arr 25 8 (List.map Record.c (s.take i++([x]++s.drop i))))],fm,_,ts,rfl,⟨?_,rfl⟩,hs2.less (by rfl) ?_,?_,FmUp.refl _ _,ZaA.refl _,?_,?_⟩
        ·rw[hrl]
        ·exact less1
        ·exact .loc 0 0 8 0 (n+1) (n+1) c cp' cp' _ (by show some (TB.arr (List.length (List.map Record.c (s.take i++([x]++s.drop i)))) _)=_;rw[List.length_map,hrl]) (by omega) (by omega) (by omega) (fun _=>rfl)
        ·exact fun _ _ h=>h
        ·intro k hk
         simp only[if_neg (show ¬ (k=0) by omega)]
         exact ht k hk
       ·obtain⟨q1,q2⟩:=Zuq (L:=s.map Record.c) (i:=i) (by rw[List.length_map,hsl];exact hi) hes1
        rw[q1,show i+([x].map Record.c).length=i+1 from rfl,q2,List.map_append,List.map_append,List.map_take,List.map_drop]
     ·obtain⟨G,hG⟩:∃ G,G=grownCap w (n+1) cp' 25:=⟨_,rfl⟩
      refine(ZqG c n cp' i vb (0*8) vcp cs us w hi hnc (by omega) hroom hcl hul hcc' ?_ h1c h1v).mono ?_
      ·intro j v hj
       simpa using huu j v hj
      ·rw[←hG]
       rintro e w' ⟨rfl,rfl⟩
       have hGn:n+1≤G:=by rw[hG];exact grownCap_ge w _ _ _
       have hGm:G≤maxLen:=by
        rw[hG]
        exact grownCap_le_maxLen w (n+1) cp' 25 (by unfold maxLen;omega)
       have hzc:ZjU.cells.size=8:=by rfl
       have hz1:∀ m,(Builtin.zeroCells ZjU.cells m).toList=(List.replicate m ZjU.cells.toList).flatten:=fun m=>Zfn ZjU.cells m (by rw[hzc];omega)
       have hl0:((s.map Record.c).take i++List.replicate (n+1 - i) Zn8).length=n+1:=by rw[List.length_append,List.length_take,List.length_map,List.length_replicate,hsl];omega
       have hzf:∀ y∈Zn8,y.flat=true:=by decide
       have hs0:=hH.newArr (l:=0) (k:=0) (cap:=G) (et:=25) (esz:=8) (es:=(s.map Record.c).take i++List.replicate (n+1 - i) Zn8)
        (cells:=(cs.take (i*8)).toArray++Builtin.zeroCells ZjU.cells (n+1 - i)++Builtin.zeroCells ZjU.cells (G - (n+1)))
        (us:=cs.take (i*8)++(Builtin.zeroCells ZjU.cells (n+1 - i)).toList) (rest:=(Builtin.zeroCells ZjU.cells (G - (n+1))).toList) (by simp) (by rw[htk];exact .inr (.inr ⟨_,_,rfl,by rw[hl0];omega⟩))
        (by rw[Array.size_append,Array.size_append,size_zeroCells,size_zeroCells,hzc,List.size_toArray,List.length_take,hcl];omega) (by rw[hl0];exact hGn) hGm (ZaV (Zc8 c5 _) (Zbu rfl _)) (by omega)
        (by rw[List.flatten_append,Zbs _ _ c5,hz1];exact(c7.take _).append (VRs.replicate (Zro fm) _))
        (by
         rw[List.flatten_append,Zbs _ _ c5]
         intro y hy
         rcases List.mem_append.1 hy with hy|hy
         ·exact c8 y (List.mem_of_mem_take hy)
         ·exact Zcs hzf _ y hy)
        (by simp)
       have hs1:=hs0.drew.lay (l:=0) (k:=0) (c:=w.heap.size) (cap:=G) (et:=25) (esz:=8) (i:=i) (new:=[x].map Record.c) (us:=us) (by rfl) (by rw[ZaN,if_pos ⟨rfl,rfl,by simp⟩]) (by omega) (by simp;omega) d5 d7 d8' rfl
       generalize hes1:((s.map Record.c).take i++List.replicate (n+1 - i) Zn8).take i++([x].map Record.c++((s.map Record.c).take i++List.replicate (n+1 - i) Zn8).drop (i+([x].map Record.c).length))=es1 at hs1
       have hl1:es1.length=n+1:=by
        rw[←hes1]
        simp only[List.length_append,List.length_take,List.length_drop,List.length_map,List.length_replicate,List.length_cons,List.length_nil,hsl]
        omega
       have hs2:=hs1.drew.lay (l:=0) (k:=0) (c:=w.heap.size) (cap:=G) (et:=25) (esz:=8) (es:=es1) (i:=i+1) (new:=(s.map Record.c).drop i) (us:=cs.drop (i*8)) (es':=(s.take i++([x]++s.drop i)).map Record.c) (by rfl) (by rw[ZaN,if_pos ⟨rfl,rfl,by simp[Zei]⟩]) (by omega) (by rw[hsn];omega) (Zdm c5 _) hdr hdf ?_
       ·refine⟨_,.loc 0 0 8 0 (n+1) (n+1),[(0,.arr 25 8 (List.map Record.c (s.take i++([x]++s.drop i))))],fm,_,ts,rfl,⟨?_,rfl⟩,hs2.less (by rfl) ?_,?_,FmUp.refl _ _,ZaA.refl _,?_,?_⟩
        ·rw[hrl]
        ·exact less1
        ·exact .loc 0 0 8 0 (n+1) (n+1) w.heap.size G G _ (by show some (TB.arr (List.length (List.map Record.c (s.take i++([x]++s.drop i)))) _)=_;rw[List.length_map,hrl]) (by omega) (by omega) (by omega) (fun _=>rfl)
        ·exact fun _ _ h=>h
        ·intro k hk
         simp only[if_neg (show ¬ (k=0) by omega)]
         exact ht k hk
       ·have hd:es1.drop (i+1+((s.map Record.c).drop i).length)=[]:=by rw[List.drop_eq_nil_iff,hl1,hsn];omega
        have q:=Zur (L:=s.map Record.c) (i:=i) (by rw[List.length_map,hsl];exact Nat.le_of_lt hi) hes1
        rw[hd,q,List.append_nil,List.map_append,List.map_append,List.map_take,List.map_drop,List.append_assoc]
        rfl
 ·cases h0
def F104.s0:SC:=
 (.seq
 (.reg [b2 10 .lss 3 9 8 3 0 []])
 (.seq
 (.cond (.tmp 10)
 .skip
 (.exit 0))
 (.seq
 (.block 1
 (.seq
 (.reg [ia 11 44 7 9 [],
 ld 12 25 11 [11],
 oq 5 (.alloc 25) 0 [],
 ⟨none,.store 25 (.tmp 5) (.tmp 12),0,none,[12]⟩])
 (.reg [fa 13 25 5 0 [5],
 fa 14 23 13 0 [13],
 ld 15 3 14 [14],
 ia 16 95 3 15 [],
 ld 17 3 16 [16],
 bn 18 .add 3 17 1 3 3 [17],
 ia 19 95 3 15 [15],
 ⟨none,.store 3 (.tmp 19) (.tmp 18),0,none,[18,19]⟩])))
 (.reg [bn 20 .add 3 9 1 3 3 [9],
 mv 9 20 3 [20]]))))
def F104.c:SC:=
 (.seq
 (.reg [oq 1 (.box 46 (.tmp 0)) 0 [0],
 oq 2 (.alloc 95) 0 []])
 (.seq
 (.reg [oq 3 (.alloc 95) 0 []])
 (.seq
 (.seq
 (.reg [fa 6 46 1 0 [1],
 ld 7 44 6 [6],
 ln 8 7 44 3 [],
 oq 9 (.move (.const (.int .i64 0))) 3 []])
 (.block 0
 (.loop F104.s0)))
 (.seq
 (.reg [ld 21 95 3 [3],
 ⟨none,.store 95 (.tmp 2) (.tmp 21),0,none,[21]⟩])
 .ret))))
theorem F104.rs:Try.f104.results.toList=[.cell 2 95]:=rfl
def ZaT.b0 (k:Nat) (b0:Book):((Vec 6 Int)×Int)→Option (Stp ((Vec 6 Int)×Int) ((Vec 6 Int)) ((Vec 6 Int))):=fun(s:(Vec 6 Int)×Int)=>match s with
 |(s1,i2)=>
   bif decide (i2<(b0.Records.length:Int)) then
    (at? b0.Records i2).bind fun x5=>
    (s1.at? x5.At.House).bind fun x6=>
    some (.next (s1.set x5.At.House (w64 (x6+1)),w64 (i2+1)))
   else
    some (.brk s1)
noncomputable def ZaT.h0 (b0:Book):((Vec 6 Int)×Int)→St:=fun(s:(Vec 6 Int)×Int)=>match s with
 |(s1,i2)=>⟨[(2,.ptr 0 0 0),(3,.ptr 0 1 0),(7,.sl 8 (List.map Record.c b0.Records)),(8,.int .i64 (b0.Records.length:Int)),(9,.int .i64 i2)],[(0,.box (Vec.c (n:=6) eI (Vec.rep 6 (0:Int)))),(1,.box (Vec.c (n:=6) eI s1))],[],2,Try.f104.ntmps⟩
noncomputable def ZaT.x0:(Vec 6 Int)→St:=fun(s3:(Vec 6 Int))=>⟨[(2,.ptr 0 0 0),(3,.ptr 0 1 0)],[(0,.box (Vec.c (n:=6) eI (Vec.rep 6 (0:Int)))),(1,.box (Vec.c (n:=6) eI s3))],[],2,Try.f104.ntmps⟩
def ZaT (k:Nat) (b0:Book):Option ((Vec 6 Int)):=
 (whl (ZaT.b0 k b0) k ((Vec.rep 6 (0:Int)),0)).bind fun r8=>match r8 with
 |.next _=>none
 |.ret v_=>some v_
 |.brk s3=>
  some s3
theorem Zkm (k:Nat) (b0:Book) (r:(Vec 6 Int)) (h0:ZaT k b0=some r):Za0 Try.prog 104 [.agg (Book.c b0)] (fun y=>y=.agg ((Vec.c (n:=6) eI) r)):=by
 refine PB (fn:=Try.f104) (sc:=F104.c) ?_
 refine rS ?_
 simp only[ZaT]at h0
 try simp only[F104.c,go_sem]
 obtain⟨r8,yr8,h0⟩:=bs h0
 refine Zay yr8 (ZaT.h0 b0) (ZaT.x0) ?_ ?_ ?_
 refine Za7.go [2,3,7,8,9] [16,32] rfl ?_
 try simp only[ZaT.h0,go_sem]
 rintro⟨s1,i2⟩ x_1 Bk1 Br1 h1 hnext1 hbrk1 hret1
 refine rS ?_
 simp only[ZaT.b0]at h1
 try simp only[F104.s0,ZaT.h0,go_sem]
 refine Zab h1 ?_ ?_<;>intro c4 h1
 try simp only[c4,go_sem]
 obtain⟨x5,yx5,h1⟩:=bs h1
 try simp only[aa yx5,c4,go_sem]
 obtain⟨x6,yx6,h1⟩:=bs h1
 have uyx6:=UpdE.at (fun q_=>(Zbj.len q_:(eI q_).length=1)) (UpdE.self (fun q_=>((VK.vec Zbj 6).len q_:(Vec.c (n:=6) eI q_).length=6)) s1) yx6
 have buyx6:=uyx6.bound (fun q_=>(Zbj.len q_:(eI q_).length=1))
 have guyx6:=uyx6.get (fun q_=>(Zbj.len q_:(eI q_).length=1))
 try simp only[List.length_cons,List.length_nil,go_sem]at buyx6 guyx6
 have q7:=uyx6.ow (w64 (x6+1))
 try simp only[List.length_cons,List.length_nil,go_sem]at q7
 try simp only[Zaa yx6,buyx6,guyx6,q7,c4,aa yx5,go_sem]
 refine Zaf (hnext1 _ _ (oi h1).symm ?_)
 refine Za7.go [2,3,7,8,9] [0,1] rfl ?_
 try simp only[ZaT.h0,c4,aa yx5,Zaa yx6,buyx6,guyx6,go_sem]
 try simp only[c4,go_sem]
 refine Zaf (hbrk1 _ _ (oi h1).symm ?_)
 refine Za7.go [2,3] [0,1] rfl ?_
 try simp only[ZaT.x0,c4,go_sem]
 rintro s3 hr_
 subst hr_
 simp only at h0
 refine rS ?_
 try simp only[ZaT.x0,go_sem]
 obtain rfl:=oi h0
 refine Zad rfl ?_
 try simp only[F104.rs,go_sem]
def F71.c:SC:=
 (.seq
 (.reg [oq 2 (.box 46 (.tmp 0)) 0 [0],
 oq 3 (.box 25 (.tmp 1)) 0 [1],
 oq 4 (.alloc 46) 0 [],
 sn 5 0 28 [5]])
 (.seq
 (.seq
 (.reg [ld 8 25 3 [],
 cf1 9 92 8 25 4 [8],
 oq 10 (.unOp .not 4 (.tmp 9)) 4 [9]])
 (.cond (.tmp 10)
 (.seq
 (.reg [oq 11 (.build 46 #[]) 46 [],
 ⟨none,.store 46 (.tmp 4) (.tmp 11),0,none,[11]⟩,
 sn 5 90 28 []])
 .ret)
 .skip))
 (.seq
 (.reg [ld 13 46 2 [],
 fa 14 25 3 0 [],
 ld 15 23 14 [14],
 cf2 16 97 13 15 46 23 164 [13,15],
 mv 12 16 164 [16],
 xt 17 12 0 3 [],
 xt 18 12 1 4 [12],
 sg 6 17 3 [17],
 sg 7 18 4 [18]])
 (.seq
 (.block 0
 (.seq
 (.dreg [mv 20 7 4 [],
 mv 21 20 4 [],
 og 22 (.fieldAddr 46 (.tmp 2) 0) 0 21 true [],
 og 23 (.load 44 (.tmp 22)) 44 21 true [],
 og 24 (.move (.tmp 6)) 3 21 true [],
 og 25 (.indexAddr 44 (.tmp 23) (.tmp 24)) 0 21 true [],
 og 26 (.load 25 (.tmp 25)) 25 21 true [],
 og 27 (.load 25 (.tmp 3)) 25 21 true [],
 og 28 (.binOp .eql 25 (.tmp 26) (.tmp 27) 25) 4 21 true [],
 oq 29 (.pick (.tmp 21) (.tmp 28) (.const (.bool false))) 4 [],
 sg 19 29 4 []] [[],[0],[0,1],[0,1,2],[0,1],[0,1,2,3,4],[0,1,2,3,4,5],[0,1],[0,1,2,3,4,5,6,7],[0,1,2,3,4,5,6,7,8],[0,1,2,3,4,5,6,7,8,9]] [20,21,22,23,24,25,26,27,28,29])
 (.cond (.tmp 19)
 (.seq
 (.reg [ld 30 46 2 [2],
 cf1 31 96 30 46 46 [30],
 ⟨none,.store 46 (.tmp 4) (.tmp 31),0,none,[31]⟩,
 sn 5 0 28 []])
 .ret)
 (.seq
 (.reg [mv 33 7 4 [7],
 sg 32 33 4 [33]])
 (.cond (.tmp 32)
 (.seq
 (.reg [oq 34 (.build 46 #[]) 46 [],
 ⟨none,.store 46 (.tmp 4) (.tmp 34),0,none,[34]⟩,
 sn 5 92 28 []])
 .ret)
 (.seq
 (.dreg [fa 36 25 3 0 [],
 fa 37 23 36 1 [],
 ld 38 3 37 [],
 ld 39 46 2 [],
 cf1 40 104 39 46 95 [],
 fa 41 25 3 0 [],
 fa 42 23 41 0 [],
 ld 43 3 42 [],
 oq 44 (.index 95 (.tmp 40) (.tmp 43)) 3 [],
 b2 45 .gtr 3 38 44 3 4 [],
 sg 35 45 4 []] [[],[0],[0,1],[],[3],[],[5],[5,6],[3,4,5,6,7],[0,1,2,3,4,5,6,7,8],[0,1,2,3,4,5,6,7,8,9]] [36,37,38,39,40,41,42,43,44,45])
 (.cond (.tmp 35)
 (.seq
 (.reg [oq 46 (.build 46 #[]) 46 [],
 ⟨none,.store 46 (.tmp 4) (.tmp 46),0,none,[46]⟩,
 sn 5 93 28 []])
 .ret)
 (.seq
 (.reg [fa 48 46 2 0 [],
 ld 49 44 48 [48],
 ln 50 49 44 3 [49],
 bn 51 .eql 3 50 60 3 4 [50],
 sg 47 51 4 [51]])
 (.cond (.tmp 47)
 (.seq
 (.reg [oq 52 (.build 46 #[]) 46 [],
 ⟨none,.store 46 (.tmp 4) (.tmp 52),0,none,[52]⟩,
 sn 5 2 28 []])
 .ret)
 .skip)))))))))
 (.seq
 (.dreg [fa 53 46 2 0 [],
 ld 54 44 53 [],
 cf1 55 119 54 44 44 [],
 mv 56 6 3 [],
 ld 57 25 3 [],
 oq 58 (.buildSlice 44 1 #[(0,.tmp 57)]) 44 [],
 oq 59 (.call ⟨.value (.func 98),#[.tmp 55,.tmp 56,.tmp 58],#[44,3,44]⟩) 44 [],
 oq 60 (.build 46 #[(0,.tmp 59)]) 46 [],
 ⟨none,.store 46 (.tmp 4) (.tmp 60),0,none,[]⟩,
 sn 5 0 28 []] [[],[0],[0,1],[],[],[4],[0,1,2,3,4,5],[0,1,2,3,4,5,6],[0,1,2,3,4,5,6,7],[0,1,2,3,4,5,6,7,8]] [2,3,6,53,54,55,56,57,58,59,60])
 .ret)))))
theorem F71.rs:Try.f71.results.toList=[.cell 4 46,.tmp 5]:=rfl
def Zc5 (k:Nat) (b0:Book) (r1:Record):Option (Book×Int):=
 (Zbo k r1).bind fun x1=>
 bif (!x1) then
  some ((⟨[]⟩:Book),90)
 else
  (ZeZ k b0 r1.At).bind fun x3=>
  bif x3.2 then
   (at? b0.Records x3.1).bind fun x5=>
   bif (decide (x5.At.House=r1.At.House)&&(decide (x5.At.No=r1.At.No)&&(decide (x5.Kind=r1.Kind)&&(decide (x5.Day=r1.Day)&&(decide (x5.Known=r1.Known)&&(decide (x5.Of.House=r1.Of.House)&&(decide (x5.Of.No=r1.Of.No)&&(x5.Text.toList==r1.Text.toList)))))))) then
    (ZcS k b0).bind fun x7=>
    some (x7,0)
   else
    some ((⟨[]⟩:Book),92)
  else
   (ZaT k b0).bind fun x8=>
   (x8.at? r1.At.House).bind fun x9=>
   bif decide (x9<r1.At.No) then
    some ((⟨[]⟩:Book),93)
   else
    bif decide ((b0.Records.length:Int)=(60:Int)) then
     some ((⟨[]⟩:Book),2)
    else
     (ZaI k b0.Records).bind fun x13=>
     (ZaU k x13 x3.1 [r1]).bind fun x15=>
     some ((⟨x15⟩:Book),0)
theorem Ze2 (k:Nat) (b0:Book) (r1:Record) (r:Book×Int) (h0:Zc5 k b0 r1=some r):Za0 Try.prog 71 [.agg (Book.c b0),.agg (Record.c r1)] (fun y=>y=.tup [.agg (Book.c r.1),.int .i64 r.2]):=by
 refine PB (fn:=Try.f71) (sc:=F71.c) ?_
 refine rS ?_
 simp only[Zc5]at h0
 try simp only[F71.c,go_sem]
 obtain⟨x1,yx1,h0⟩:=bs h0
 refine zc0 (Zds k _ _ yx1) ?_ (by first|rfl|(simp[AV.refsL,AV.refs,AV.scal,AV.leaf];done)|simp[AV.refsL,AV.refs,AV.scal,AV.leaf,go_sem]) ?_
 try simp only[go_sem]
 try simp only[go_sem]
 refine Zab h0 ?_ ?_<;>intro c2 h0
 have c2:=ZaY c2
 try simp only[c2,go_sem]
 obtain rfl:=oi h0
 refine Zad rfl ?_
 try simp only[F71.rs,c2,go_sem]
 have c2:=ZaX c2
 try simp only[c2,go_sem]
 obtain⟨x3,yx3,h0⟩:=bs h0
 refine zc0 (Zkl k _ _ _ yx3) ?_ (by first|rfl|(simp[AV.refsL,AV.refs,AV.scal,AV.leaf];done)|simp[AV.refsL,AV.refs,AV.scal,AV.leaf,go_sem]) ?_
 try simp only[c2,go_sem]
 try simp only[c2,go_sem]
 refine Zat Za9 Zau 1000 ?_
 try simp only[c2,go_sem]
 refine ZjW h0 ?_ ?_<;>intro c4 h0
 try simp only[c4,c2,go_sem]
 obtain⟨x5,yx5,h0⟩:=bs h0
 try simp only[aa yx5,c2,c4,go_sem]
 refine ZaB ⟨ZaC (by simp only[ZdN,List.reverse_cons,List.reverse_nil,List.nil_append,List.cons_append,List.map_cons,List.map_nil,List.append_nil];rfl) (by first|decide +kernel|rfl),Zag Za9 1000 _ _ ?_⟩
 try simp only[c2,c4,aa yx5,go_sem]
 refine Zab h0 ?_ ?_<;>intro c6 h0
 try simp only[c6,c2,c4,aa yx5,go_sem]
 obtain⟨x7,yx7,h0⟩:=bs h0
 refine zc0 (ZfM k _ _ yx7) ?_ (by first|rfl|(simp[AV.refsL,AV.refs,AV.scal,AV.leaf];done)|simp[AV.refsL,AV.refs,AV.scal,AV.leaf,go_sem]) ?_
 try simp only[c2,c4,aa yx5,c6,go_sem]
 try simp only[c2,c4,aa yx5,c6,go_sem]
 obtain rfl:=oi h0
 refine Zad rfl ?_
 try simp only[F71.rs,c2,c4,aa yx5,c6,go_sem]
 try simp only[c6,c2,c4,aa yx5,go_sem]
 obtain rfl:=oi h0
 refine Zad rfl ?_
 try simp only[F71.rs,c2,c4,aa yx5,c6,go_sem]
 try simp only[c4,c2,go_sem]
 refine ZaB ⟨ZaC (by simp only[ZdN,List.reverse_cons,List.reverse_nil,List.nil_append,List.cons_append,List.map_cons,List.map_nil,List.append_nil];rfl) (by first|decide +kernel|rfl),Zag Za9 1000 _ _ ?_⟩
 try simp only[c2,c4,go_sem]
 refine Zat Za9 Zau 1000 ?_
 try simp only[c2,c4,go_sem]
 obtain⟨x8,yx8,h0⟩:=bs h0
 refine Zbk 1000 (Zkm k _ _ yx8) ?_ (by first|rfl|(simp[AV.refsL,AV.refs,AV.scal,AV.leaf];done)|simp[AV.refsL,AV.refs,AV.scal,AV.leaf,go_sem]) ?_
 try simp only[c2,c4,go_sem]
 try simp only[c2,c4,go_sem]
 obtain⟨x9,yx9,h0⟩:=bs h0
 have uyx9:=UpdE.idx (fun q_=>(Zbj.len q_:(eI q_).length=1)) yx9
 have buyx9:=uyx9.bound (fun q_=>(Zbj.len q_:(eI q_).length=1))
 have guyx9:=uyx9.get (fun q_=>(Zbj.len q_:(eI q_).length=1))
 try simp only[go_sem]at buyx9 guyx9
 try simp only[Zaa yx9,buyx9,guyx9,c2,c4,go_sem]
 refine ZaB ⟨ZaC (by simp only[ZdN,List.reverse_cons,List.reverse_nil,List.nil_append,List.cons_append,List.map_cons,List.map_nil,List.append_nil];rfl) (by first|decide +kernel|rfl),Zag Za9 1000 _ _ ?_⟩
 try simp only[c2,c4,Zaa yx9,buyx9,guyx9,go_sem]
 refine Zab h0 ?_ ?_<;>intro c10 h0
 try simp only[c10,c2,c4,Zaa yx9,buyx9,guyx9,go_sem]
 obtain rfl:=oi h0
 refine Zad rfl ?_
 try simp only[F71.rs,c2,c4,Zaa yx9,buyx9,guyx9,c10,go_sem]
 try simp only[c10,c2,c4,Zaa yx9,buyx9,guyx9,go_sem]
 refine Zab h0 ?_ ?_<;>intro c11 h0
 try simp only[c11,c2,c4,Zaa yx9,buyx9,guyx9,c10,go_sem]
 obtain rfl:=oi h0
 refine Zad rfl ?_
 try simp only[F71.rs,c2,c4,Zaa yx9,buyx9,guyx9,c10,c11,go_sem]
 try simp only[c11,c2,c4,Zaa yx9,buyx9,guyx9,c10,go_sem]
 refine Zat Za9 Zau 1000 ?_
 try simp only[c2,c4,Zaa yx9,buyx9,guyx9,c10,c11,go_sem]
 obtain⟨x13,yx13,h0⟩:=bs h0
 refine ZhP 1000 [] [] (Zcl k _ _ yx13) ?_ rfl ?_
 try simp only[gOK,List.length_map,c2,c4,Zaa yx9,buyx9,guyx9,c10,c11,go_sem]
 try simp only[c2,c4,Zaa yx9,buyx9,guyx9,c10,c11,go_sem]
 obtain⟨x15,yx15,h0⟩:=bs h0
 refine ZhP 1000 [] [752,800] (ZdK k _ _ _ _ yx15) ?_ rfl ?_
 try simp only[gOK,List.length_map,c2,c4,Zaa yx9,buyx9,guyx9,c10,c11,go_sem]
 try simp only[c2,c4,Zaa yx9,buyx9,guyx9,c10,c11,go_sem]
 refine ZaB ⟨ZaC (by simp only[ZdN,List.reverse_cons,List.reverse_nil,List.nil_append,List.cons_append,List.map_cons,List.map_nil,List.append_nil];rfl) (by first|decide +kernel|rfl),Zag Za9 1000 _ _ ?_⟩
 try simp only[c2,c4,Zaa yx9,buyx9,guyx9,c10,c11,go_sem]
 obtain rfl:=oi h0
 refine Zad rfl ?_
 try simp only[F71.rs,c2,c4,Zaa yx9,buyx9,guyx9,c10,c11,go_sem]
end Go.Abs
namespace Go.Abs
open Go Go.Proofs Go.RowKit Go.Lib
def F132.c:SC:=
 (.seq
 (.reg [oq 4 (.assign (.const (.slice none 0 0))) 56 [4]])
 (.seq
 (.seq
 (.reg [mv 6 0 206 [],
 oq 7 (.nilCheck (.tmp 6)) 0 [6],
 fa 8 208 7 0 [7],
 ld 9 56 8 [8],
 ln 10 9 56 3 [9],
 mv 11 1 3 [],
 b2 12 .lss 3 10 11 3 4 [10,11]])
 (.cond (.tmp 12)
 (.reg [oq 13 (.build 204 #[]) 204 [],
 oq 14 (.makeInterface 204 (.tmp 13)) 20 [13],
 ⟨none,.panic (.tmp 14),0,none,[14]⟩])
 .skip))
 (.seq
 (.reg [mv 15 0 206 [],
 oq 16 (.nilCheck (.tmp 15)) 0 [15],
 fa 17 208 16 0 [16],
 ld 18 56 17 [17],
 mv 19 1 3 [],
 oq 20 (.slice 56 (.tmp 18) none (some (.tmp 19)) none) 56 [18,19],
 sg 5 20 56 [20]])
 (.seq
 (.reg [mv 21 0 206 [],
 mv 22 0 206 [0],
 oq 23 (.nilCheck (.tmp 22)) 0 [22],
 fa 24 208 23 0 [23],
 ld 25 56 24 [24],
 mv 26 1 3 [1],
 oq 27 (.slice 56 (.tmp 25) (some (.tmp 26)) none none) 56 [25,26],
 oq 28 (.nilCheck (.tmp 21)) 0 [21],
 fa 29 208 28 0 [28],
 ⟨none,.store 56 (.tmp 29) (.tmp 27),0,none,[27,29]⟩])
 (.seq
 (.reg [mv 30 5 56 [5],
 sg 4 30 56 [30]])
 .ret)))))
theorem F132.rs:Try.f132.results.toList=[.tmp 4]:=rfl
def F131.s0:SC:=
 (.seq
 (.reg [b2 13 .lss 3 12 11 3 0 []])
 (.seq
 (.cond (.tmp 13)
 .skip
 (.exit 0))
 (.seq
 (.block 1
 (.seq
 (.reg [ia 14 56 10 12 [],
 ld 15 5 14 [14],
 sg 7 15 5 [15]])
 (.reg [mv 16 5 3 [5],
 oq 17 (.binOp .shl 3 (.tmp 16) (.const (.int .u64 8)) 211) 3 [16],
 mv 18 7 5 [7],
 oq 19 (.convert 5 3 (.tmp 18)) 3 [18],
 b2 20 .or 3 17 19 3 3 [17,19],
 sg 5 20 3 [20]])))
 (.reg [bn 21 .add 3 12 1 3 3 [12],
 mv 12 21 3 [21]]))))
def F131.c:SC:=
 (.seq
 (.reg [sn 4 0 3 [4]])
 (.seq
 (.reg [sn 5 0 3 []])
 (.seq
 (.seq
 (.reg [mv 8 0 206 [0],
 mv 9 1 3 [1],
 cf2 10 132 8 9 206 3 56 [8,9],
 ln 11 10 56 3 [],
 oq 12 (.move (.const (.int .i64 0))) 3 []])
 (.block 0
 (.loop F131.s0)))
 (.seq
 (.reg [mv 22 5 3 [5],
 sg 4 22 3 [22]])
 .ret))))
theorem F131.rs:Try.f131.results.toList=[.tmp 4]:=rfl
theorem Zv4 {f:Fra}{H:Zam}{l k:Nat}{b:Option Blk}:Zam.put (f::H) (l+1) k b=f::Zam.put H l k b:=by cases b<;>rfl
theorem ZgT {f:Fra}{H:Zam}{l k:Nat}:Zam.get (f::H) (l+1) k=Zam.get H l k:=rfl
theorem ZbS {H:Zam}{l k:Nat}{b:Option Blk}:(Zam.put H l k b).length=H.length:=by simp
def Zla (left:List Int) (n:Int):Option (List Int×List Int):=if (left.length:Int)<n then none else some (left.take n.toNat,left.drop n.toNat)
def Zhn:List PanicEntry:=[{ v:=.iface 204 (.agg #[]),recovered:=false }]
def rdB (left:List Int):Blk:=.box [.sl 1 (List.map eU8 left)]
theorem Zpw (left:List Int) (n:Int) (hn:0≤n) (H:Zam) (l k:Nat) (hg:Zam.get H l k=some (rdB left)):Zgt Try.prog 132 [.ptr (l+1) k 0,.int .i64 n] H
  (fun v fr H'=>∃ r,Zla left n=some r∧v=.sl 1 (List.map eU8 r.1)∧fr=[]∧H'=Zam.put H l k (some (rdB r.2)))
  (fun ch H'=>Zla left n=none∧ch=Zhn∧H'=H):=by
 refine Zgt.of_body Za9 (fn:=Try.f132) (sc:=F132.c) (by rfl) (by rfl) (by decide +kernel) (by rfl) (by decide +kernel) (Nat.le_of_ble_eq_true rfl) ?_ ?_ ?_
 ·refine Zag Za9 1000 _ _ ?_
  simp only[rdB]at hg ⊢
  simp only[F132.c,ZgT,hg,go_sem]
  refine Zp6 (fun hc=>?_) (fun hc=>?_)
  ·simp only[go_sem]
   refine ZmC ?_
   intro fm ts u hu
   cases hu with
   |agg cs vs h1 h2 h3=>
    have:vs=#[]:=Array.eq_empty_of_size_eq_zero (by simpa using h1.symm)
    subst this
    exact⟨by unfold Zla;rw[if_pos (by simpa using hc)],rfl,rfl⟩
  ·have hlt:¬ (left.length:Int)<n:=by simpa using hc
   have h1:ZlT left 0 n=some (left.take n.toNat):=by unfold ZlT;rw[if_pos (by omega)];simp
   have h2:ZlT left n left.length=some (left.drop n.toNat):=by
    unfold ZlT;rw[if_pos (by omega)];simp only[Int.toNat_natCast,oE]
    apply List.take_of_length_le;simp
   have e1:=Zn3 eU8 h1
   have e2:=Zn4 eU8 h2
   simp only[go_sem]at e1 e2
   simp only[ZeJ h1,ZeK h2,e1,e2,ZgT,Zv4,hg,Nat.add_one_ne_zero,go_sem]
   refine ZjV (.inl rfl) (y0:=.sl 1 (List.map eU8 (left.take n.toNat))) ?_ ?_
   ·simp only[F132.rs,Zb0,Option.bind_some,ZeJ h1,ZeK h2,e1,e2,go_sem]
   ·exact⟨_,by unfold Zla;rw[if_neg hlt],rfl,rfl,by simp only[rdB,ZeJ h1,ZeK h2,e1,e2,go_sem]⟩
 ·rintro y fr H' ⟨r,_,_,_,rfl⟩;simp
 ·rintro ch H' ⟨_,_,rfl⟩;rfl
def ZuB (k:Nat) (l:List Int):(Int×Int)→Option (Stp (Int×Int) Int Unit):=fun(s:Int×Int)=>match s with
 |(out,i)=>
  bif decide (i<(l.length:Int)) then
   (at? l i).bind fun x=>
   some (.next (bOr .i64 (w64 (out*2 ^ 8)) (w64 x),w64 (i+1)))
  else some (.brk out)
def Zlj (k:Nat) (left:List Int) (n:Int):Option (Option (Int×List Int)):=
 match Zla left n with
 |none=>some none
 |some r=>(whl (ZuB k r.1) k (0,0)).bind fun q=>match q with
  |.brk out=>some (some (out,r.2))
  |_=>none
noncomputable def ZuC (l:List Int) (H:Zam):(Int×Int)→St:=fun(s:Int×Int)=>match s with
 |(out,i)=>⟨[(5,.int .i64 out),(10,.sl 1 (List.map eU8 l)),(11,.int .i64 (l.length:Int)),(12,.int .i64 i)],[],H,1,Try.f131.ntmps⟩
noncomputable def Zvs (H:Zam):Int→St:=fun(out:Int)=>⟨[(5,.int .i64 out)],[],H,1,Try.f131.ntmps⟩
theorem Zdl (k0:Nat) (left:List Int) (n:Int) (r:Option (Int×List Int)) (h0:Zlj k0 left n=some r) (hn:0≤n) (H:Zam) (l k:Nat) (hg:Zam.get H l k=some (rdB left)):Zgt Try.prog 131 [.ptr (l+1) k 0,.int .i64 n] H
  (fun v fr H'=>∃ x,r=some x∧v=.int .i64 x.1∧fr=[]∧H'=Zam.put H l k (some (rdB x.2)))
  (fun ch H'=>r=none∧ch=Zhn∧H'=H):=by
 refine Zgt.of_body Za9 (fn:=Try.f131) (sc:=F131.c) (by rfl) (by rfl) (by decide +kernel) (by rfl) (by decide +kernel) (Nat.le_of_ble_eq_true rfl) ?_ ?_ ?_
 ·refine Zag Za9 1000 _ _ ?_
  simp only[F131.c,go_sem]
  refine ZbR (Zpw left n hn _ (l+1) k (by simpa only [ZgT] using hg)) ?_ ?_
  ·rintro y fr H' ⟨q,hq,rfl,rfl,rfl⟩
   refine Zag Za9 1000 _ _ ?_
   unfold Zlj at h0
   rw[hq]at h0
   simp only at h0
   obtain⟨r6,yr6,h0⟩:=bind_some h0
   simp only[Zv4,go_sem]
   refine Zay yr6 (ZuC q.1 (Zam.put H l k (some (rdB q.2)))) (Zvs (Zam.put H l k (some (rdB q.2)))) ?_ ?_ ?_
   ·refine Za7.go [5,10,11,12] [] rfl ?_
    try simp only[ZuC,go_sem]
   ·rintro⟨i1,i2⟩ x_1 Bk1 Br1 h1 hnext1 hbrk1 hret1
    refine Zag Za9 1000 _ _ ?_
    simp only[ZuB]at h1
    try simp only[F131.s0,ZuC,go_sem]
    refine Zab h1 (fun c4 h1=>?_) (fun c4 h1=>?_)
    ·try simp only[c4,(@id (min (Int.toNat 8) 64=8) rfl),go_sem]
     obtain⟨x5,yx5,h1⟩:=bind_some h1
     try simp only[ZaF yx5,Zaw eU8 yx5,c4,go_sem]
     refine Zaf (hnext1 _ _ (oi h1).symm ?_)
     refine Za7.go [5,10,11,12] [] rfl ?_
     try simp only[ZuC,c4,ZaF yx5,Zaw eU8 yx5,go_sem]
    ·try simp only[c4,go_sem]
     refine Zaf (hbrk1 _ _ (oi h1).symm ?_)
     refine Za7.go [5] [] rfl ?_
     try simp only[Zvs,c4,go_sem]
   ·rintro out hr_
    subst hr_
    simp only at h0
    refine Zag Za9 1000 _ _ ?_
    try simp only[Zvs,go_sem]
    refine ZjV (.inl rfl) (y0:=.int .i64 out) ?_ ?_
    ·simp only[F131.rs,Zb0,Option.bind_some,go_sem]
    ·exact⟨_,(oi h0).symm,rfl,rfl,rfl⟩
  ·rintro ch H' ⟨hq,rfl,rfl⟩
   unfold Zlj at h0
   rw[hq]at h0
   exact⟨(oi h0).symm,rfl,rfl⟩
 ·rintro y fr H' ⟨r,_,_,_,rfl⟩;simp
 ·rintro ch H' ⟨_,_,rfl⟩;rfl
end Go.Abs
namespace Go.Abs
open Go Go.Proofs Go.RowKit Go.Lib
theorem ZoP (px pl pi:Value) (w:World):
  CallsD Try.prog 130 #[px,pl,pi] .returning w fun e u' w'=>e=.returned (.tuple #[])∧u'=.returning∧w'=w:=by
 have hnn:∀ w,(binOp .neq 20 .nilIface .nilIface).run Try.prog w=.ok (.bool false) w:=fun _=>by rfl
 have hnt:Try.f130.ntmps=18:=by rfl
 refine callsD_of_wpS (fn:=Try.f130) (by rfl) (by rfl) fun c₀ cs hu=>?_
 apply wpS_seq
 apply wpS_region
 simp[wpOpsS,go_sem,recoverD,hu,hnt,Exit.thenS]
 apply wpS_seq
 apply wpS_region
 simp[wpOpsS,go_sem,hnn,Exit.thenS]
 refine wpS_cond (t:=false) (by simp[Act.eval,Array.replicate]) ?_
 simp only[Bool.false_eq_true,if_false]
 refine wpS_of_wp (wp_skip ?_)
 cases c₀
 simp_all [bodyPostS,results,(show Try.f130.results=#[] from rfl)]
def Zej:List AV:=[.int .i64 0,.int .i64 0,.int .i64 0,.int .i64 0,.int .i64 0,.int .i64 0,.int .i64 0,.str ByteArray.empty]
def F130.r5:SC:=
 (.reg [oq 17 (.build 25 #[]) 25 [],
 ⟨none,.store 25 (.tmp 0) (.tmp 17),0,none,[0,17]⟩,
 ⟨none,.store 56 (.tmp 1) (.const (.slice none 0 0)),0,none,[1]⟩,
 ⟨none,.store 4 (.tmp 2) (.const (.bool false)),0,none,[2]⟩])
theorem Zng {N0:Nat}{W0:World}{fm:FM}{ts:List Tie}{fr:Fra}{low:Zam}{w:World} (hr:HR N0 W0 fm ts (fr::low) w) {px pl pi:Value}{kx kl ki:Nat}{c8:List AV}{cl ci:AV}
  (hpx:VR fm ts (.ptr 0 kx 0) px) (hl:VR fm ts (.ptr 0 kl 0) pl) (hi:VR fm ts (.ptr 0 ki 0) pi) (gx:look fr kx=some (.box c8)) (h8:c8.length=8) (gl:look fr kl=some (.box [cl])) (gi:look fr ki=some (.box [ci])) (n1:kx≠kl) (n2:kx≠ki) (n3:kl≠ki):
  CallsD Try.prog 130 #[px,pl,pi] (.panicking Zhn) w fun e u' w'=>e=.returned (.tuple #[])∧u'=.panicking [{ v:=.iface 204 (.agg #[]),recovered:=true }]∧
   ∃ fm' ts' fr',HR N0 W0 fm' ts' (fr'::low) w'∧FmUp N0 fm fm'∧ZaA ts ts'∧(∀ l k,tb ts l k=none→tb ts' l k=none)∧look fr' kx=some (.box Zej)∧look fr' kl=some (.box [.nil])∧look fr' ki=some (.box [.bool false]):=by
 have hnn:∀ w,(binOp .neq 20 (.iface 204 (.agg #[])) .nilIface).run Try.prog w=.ok (.bool true) w:=fun _=>by rfl
 have hta:∀ w,(Instr.typeAssert (.iface 204 (.agg #[])) 20 204 true).run Try.prog w=.ok (.tuple #[.agg #[],.bool true]) w:=fun _=>by rfl
 have hnt:Try.f130.ntmps=18:=by rfl
 refine callsD_of_wpS (fn:=Try.f130) (by rfl) (by rfl) fun c₀ cs hu=>?_
 apply wpS_seq
 apply wpS_region
 simp[wpOpsS,go_sem,recoverD,hu,hnt,Zhn,Exit.thenS]
 apply wpS_seq
 apply wpS_region
 simp[wpOpsS,go_sem,hnn,Exit.thenS]
 refine wpS_cond (t:=true) (by simp[Act.eval,Array.replicate]) ?_
 simp only[if_true]
 apply wpS_seq
 apply wpS_seq
 apply wpS_region
 simp[wpOpsS,go_sem,hta,Exit.thenS]
 apply wpS_seq
 apply wpS_region
 simp[wpOpsS,go_sem,Exit.thenS]
 refine wpS_cond (t:=false) (by simp[Act.eval,Array.replicate]) ?_
 simp only[Bool.false_eq_true,if_false]
 refine wpS_of_wp (wp_skip ?_)
 simp only[Exit.thenS]
 refine wpS_of_wp ?_
 refine(Zd8 []).1 ?_
 have hd8:List.drop 8 c8=[]:=by simp[h8]
 have hle8:(8≤c8.length)=True:=by simp[h8]
 have hw1:HR N0 W0 fm ts (fr::low) (w.alloc (.cells #[] 204)):=hr.world (fun i hi=>heap_alloc_old w _ hi) ((Below.refl N0 w).alloc hr.size _)
 refine AK.last (N0:=N0) (W0:=W0) (Φ:=fun e st'=>e=.normal∧∃ fr',st'.low=fr'::low∧look fr' kx=some (.box Zej)∧look fr' kl=some (.box [.nil])∧look fr' ki=some (.box [.bool false]))
  (st:=⟨[(0,.ptr 1 kx 0),(1,.ptr 1 kl 0),(2,.ptr 1 ki 0)],[],fr::low,0,18⟩) (n:=18) (s:=F130.r5) (fm:=fm) (ts:=Zcc::ts) ?_ ?_ (by rfl) (by rfl) ?_
 ·refine⟨hw1.push,?_,fun _ _=>rfl,by simp,rfl⟩
  intro t x hx
  simp only[look]at hx
  split at hx
  ·subst_vars;obtain rfl:=oi hx;exact⟨px,by simp,hpx.sh 1 (by simp)⟩
  ·split at hx
   ·subst_vars;obtain rfl:=oi hx;exact⟨pl,by simp,hl.sh 1 (by simp)⟩
   ·split at hx
    ·subst_vars;obtain rfl:=oi hx;exact⟨pi,by simp,hi.sh 1 (by simp)⟩
    ·cases hx
 ·refine Zag Za9 1000 _ _ ?_
  simp only[F130.r5,gx,gl,gi,ZdZ,n1,n2,n3,n1.symm,n2.symm,n3.symm,hd8,hle8,Nat.zero_add,if_true,if_false,go_sem]
  exact⟨rfl,_,rfl,by simp[ZdZ,n1,n2,n3,n1.symm,n2.symm,n3.symm,Zej],by simp[ZdZ,n1,n2,n3,n1.symm,n2.symm,n3.symm],by simp[ZdZ]⟩
 ·rintro e st' a' w' fm' ts' ⟨rfl,fr',h1,h2,h3,h4⟩ hS hL
  cases ts' with
  |nil=>have:=hS.hr.len;simp at this
  |cons t1 rest=>
   have hp:=hS.hr.pop
   rw[h1]at hp
   exact⟨hS.dfr,_,rfl,.tuple #[],by simp[results,(show Try.f130.results=#[] from rfl)],rfl,rfl,fm',rest,fr',hp,hL.fle,by simpa using hL.tle,by simpa using hL.no,h2,h3,h4⟩
end Go.Abs
namespace Go.Abs
open Go Go.Proofs Go.RowKit Go.Lib
def F90.c:SC:=
 (.seq
 (.reg [oq 2 (.alloc 25) 0 [],
 oq 3 (.alloc 56) 0 [],
 oq 4 (.alloc 4) 0 []])
 (.seq
 (.reg [oq 6 (.makeFunc (.func 130) #[] #[.tmp 2,.tmp 3,.tmp 4]) 1 [],
 ⟨none,.defer ⟨.value (.tmp 6),#[],#[]⟩,0,none,[6]⟩])
 (.seq
 (.reg [mv 7 0 56 [0],
 oq 8 (.build 208 #[(0,.tmp 7)]) 208 [7],
 oq 9 (.box 208 (.tmp 8)) 206 [8],
 sg 5 9 206 [9]])
 (.seq
 (.reg [mv 10 5 206 [],
 oq 11 (.call ⟨.value (.func 131),#[.tmp 10,.const (.int .i64 1)],#[206,3]⟩) 3 [10],
 mv 12 5 206 [],
 oq 13 (.call ⟨.value (.func 131),#[.tmp 12,.const (.int .i64 2)],#[206,3]⟩) 3 [12],
 oq 14 (.build 23 #[(0,.tmp 11),(1,.tmp 13)]) 23 [11,13],
 fa 15 25 2 0 [],
 ⟨none,.store 23 (.tmp 15) (.tmp 14),0,none,[14,15]⟩])
 (.seq
 (.reg [mv 16 5 206 [],
 oq 17 (.call ⟨.value (.func 131),#[.tmp 16,.const (.int .i64 1)],#[206,3]⟩) 3 [16],
 fa 18 25 2 1 [],
 ⟨none,.store 3 (.tmp 18) (.tmp 17),0,none,[17,18]⟩])
 (.seq
 (.reg [mv 19 5 206 [],
 oq 20 (.call ⟨.value (.func 131),#[.tmp 19,.const (.int .i64 4)],#[206,3]⟩) 3 [19],
 fa 21 25 2 2 [],
 ⟨none,.store 3 (.tmp 21) (.tmp 20),0,none,[20,21]⟩])
 (.seq
 (.reg [mv 22 5 206 [],
 oq 23 (.call ⟨.value (.func 131),#[.tmp 22,.const (.int .i64 4)],#[206,3]⟩) 3 [22],
 fa 24 25 2 3 [],
 ⟨none,.store 3 (.tmp 24) (.tmp 23),0,none,[23,24]⟩])
 (.seq
 (.reg [mv 25 5 206 [],
 oq 26 (.call ⟨.value (.func 131),#[.tmp 25,.const (.int .i64 1)],#[206,3]⟩) 3 [25],
 mv 27 5 206 [],
 oq 28 (.call ⟨.value (.func 131),#[.tmp 27,.const (.int .i64 2)],#[206,3]⟩) 3 [27],
 oq 29 (.build 23 #[(0,.tmp 26),(1,.tmp 28)]) 23 [26,28],
 fa 30 25 2 4 [],
 ⟨none,.store 23 (.tmp 30) (.tmp 29),0,none,[29,30]⟩])
 (.seq
 (.reg [mv 31 5 206 [],
 mv 32 5 206 [],
 oq 33 (.call ⟨.value (.func 131),#[.tmp 32,.const (.int .i64 1)],#[206,3]⟩) 3 [32],
 cf2 34 132 31 33 206 3 56 [31,33],
 oq 35 (.convert 56 9 (.tmp 34)) 9 [34],
 fa 36 25 2 5 [],
 ⟨none,.store 9 (.tmp 36) (.tmp 35),0,none,[35,36]⟩])
 (.seq
 (.dreg [ld 37 25 2 [],
 mv 38 5 206 [],
 oq 39 (.nilCheck (.tmp 38)) 0 [],
 fa 40 208 39 0 [],
 ld 41 56 40 [],
 ld 42 25 2 [],
 cf1 43 92 42 25 4 [],
 ⟨none,.store 25 (.tmp 2) (.tmp 37),0,none,[]⟩,
 ⟨none,.store 56 (.tmp 3) (.tmp 41),0,none,[]⟩,
 ⟨none,.store 4 (.tmp 4) (.tmp 43),0,none,[]⟩] [[],[],[1],[1,2],[1,2,3],[],[5],[0,5,6],[1,2,3,4,0,5,6,7],[5,6,1,2,3,4,0,7,8]] [5,37,38,39,40,41,42,43])
 .ret))))))))))
theorem F90.rs:Try.f90.results.toList=[.cell 2 25,.cell 3 56,.cell 4 4]:=rfl
def SC.snd:SC→SC
 |.seq _ b=>b
 |x=>x
def SC.fst:SC→SC
 |.seq a _=>a
 |x=>x
def Zdt:Code→Code
 |.seq a _=>a
 |x=>x
def Za5:Code→Code
 |.seq _ b=>b
 |x=>x
def F90.r0:SC:=F90.c.fst

def F90.rest:SC:=F90.c.snd.snd

noncomputable def D90:Code:=Try.f90.body.getD .skip
def Zul (k:Nat) (b:List Int):Option (Option (Record×List Int)):=
 (Zlj k b 1).bind fun q0=>match q0 with
 |none=>some none
 |some (ho,l0)=>
  (Zlj k l0 2).bind fun q1=>match q1 with
  |none=>some none
  |some (no,l1)=>
   (Zlj k l1 1).bind fun q2=>match q2 with
   |none=>some none
   |some (ki,l2)=>
    (Zlj k l2 4).bind fun q3=>match q3 with
    |none=>some none
    |some (da,l3)=>
     (Zlj k l3 4).bind fun q4=>match q4 with
     |none=>some none
     |some (kn,l4)=>
      (Zlj k l4 1).bind fun q5=>match q5 with
      |none=>some none
      |some (oh,l5)=>
       (Zlj k l5 2).bind fun q6=>match q6 with
       |none=>some none
       |some (on_,l6)=>
        (Zlj k l6 1).bind fun q7=>match q7 with
        |none=>some none
        |some (m,l7)=>
         if 0≤m then match Zla l7 m with
          |none=>some none
          |some (tx,l8)=>some (some (⟨⟨ho,no⟩,ki,da,kn,⟨oh,on_⟩,ZlR tx⟩,l8))
         else none
def ZdS (k:Nat) (b:List Int):Option (Record×List Int×Bool):=
 (Zul k b).bind fun q=>match q with
 |none=>some (⟨⟨0,0⟩,0,0,0,⟨0,0⟩,ByteArray.empty⟩,[],false)
 |some (x,left)=>(Zbo k x).bind fun is=>some (x,left,is)
def Zv0 (q:Option (Record×List Int)) (is:Bool) (e:Exit) (st:St):Prop:=
 match q with
 |none=>e=.panic Zhn∧(look st.tm 2=some (.ptr 1 0 0)∧look st.tm 3=some (.ptr 1 16 0)∧look st.tm 4=some (.ptr 1 32 0))∧∃ fr c8 cl ci,st.low=[fr]∧look fr 0=some (.box c8)∧c8.length=8∧look fr 16=some (.box [cl])∧look fr 32=some (.box [ci])
 |some (x,left)=>e=.ret∧(∃ fr,st.low=[fr])∧Zcu T st [.cell 2 25,.cell 3 56,.cell 4 4]=some [.agg (Record.c x),.sl 1 (List.map eU8 left),.bool is]
def ZsK:Fra:=[(0,.box Zej),(16,.box [.loc 0 17 1 0 0 0]),(17,.arr 5 1 []),(32,.box [.bool false])]
noncomputable def ZoQ (b:List Int):St:=⟨[(0,.sl 1 (List.map eU8 b)),(2,.ptr 0 0 0),(3,.ptr 0 16 0),(4,.ptr 0 32 0)],ZsK,[],48,Try.f90.ntmps⟩
noncomputable def Zum (b:List Int):St:=⟨[(0,.sl 1 (List.map eU8 b)),(2,.ptr 1 0 0),(3,.ptr 1 16 0),(4,.ptr 1 32 0)],[],[ZsK],0,Try.f90.ntmps⟩
theorem ZqC [Md] (k:Nat) (b:List Int) (q:Option (Record×List Int)) (h0:Zul k b=some q) (is:Bool) (his:∀ x left,q=some (x,left)→Zbo k x=some is):
  AK Try.prog Try.f90.ntmps (Zv0 q is) [.sc F90.rest] (Zum b):=by
 unfold Zum ZsK Zej
 refine Zag Za9 1000 _ _ ?_
 unfold Zul at h0
 simp only[F90.rest,F90.c,SC.snd,go_sem]
 obtain⟨q0,yq0,h0⟩:=bind_some h0
 refine ZbR (Zdl k b 1 q0 yq0 (by decide) _ 0 _ (by simp only[rdB,go_sem])) ?_ ?_
 rotate_left
 ·rintro ch H ⟨rfl,rfl,rfl⟩
  obtain rfl:=oi h0
  exact⟨rfl,⟨rfl,rfl,rfl⟩,_,_,_,_,rfl,rfl,rfl,rfl,rfl⟩
 rintro y fr H ⟨⟨ho,l0⟩,rfl,rfl,rfl,rfl⟩
 refine Zag Za9 1000 _ _ ?_
 simp only at h0
 simp only[rdB,go_sem]
 obtain⟨q1,yq1,h0⟩:=bind_some h0
 refine ZbR (Zdl k l0 2 q1 yq1 (by decide) _ 0 _ (by simp only[rdB,go_sem])) ?_ ?_
 rotate_left
 ·rintro ch H ⟨rfl,rfl,rfl⟩
  obtain rfl:=oi h0
  exact⟨rfl,⟨rfl,rfl,rfl⟩,_,_,_,_,rfl,rfl,rfl,rfl,rfl⟩
 rintro y fr H ⟨⟨no,l1⟩,rfl,rfl,rfl,rfl⟩
 refine Zag Za9 1000 _ _ ?_
 simp only at h0
 simp only[rdB,go_sem]
 obtain⟨q2,yq2,h0⟩:=bind_some h0
 refine ZbR (Zdl k l1 1 q2 yq2 (by decide) _ 0 _ (by simp only[rdB,go_sem])) ?_ ?_
 rotate_left
 ·rintro ch H ⟨rfl,rfl,rfl⟩
  obtain rfl:=oi h0
  exact⟨rfl,⟨rfl,rfl,rfl⟩,_,_,_,_,rfl,rfl,rfl,rfl,rfl⟩
 rintro y fr H ⟨⟨ki,l2⟩,rfl,rfl,rfl,rfl⟩
 refine Zag Za9 1000 _ _ ?_
 simp only at h0
 simp only[rdB,go_sem]
 obtain⟨q3,yq3,h0⟩:=bind_some h0
 refine ZbR (Zdl k l2 4 q3 yq3 (by decide) _ 0 _ (by simp only[rdB,go_sem])) ?_ ?_
 rotate_left
 ·rintro ch H ⟨rfl,rfl,rfl⟩
  obtain rfl:=oi h0
  exact⟨rfl,⟨rfl,rfl,rfl⟩,_,_,_,_,rfl,rfl,rfl,rfl,rfl⟩
 rintro y fr H ⟨⟨da,l3⟩,rfl,rfl,rfl,rfl⟩
 refine Zag Za9 1000 _ _ ?_
 simp only at h0
 simp only[rdB,go_sem]
 obtain⟨q4,yq4,h0⟩:=bind_some h0
 refine ZbR (Zdl k l3 4 q4 yq4 (by decide) _ 0 _ (by simp only[rdB,go_sem])) ?_ ?_
 rotate_left
 ·rintro ch H ⟨rfl,rfl,rfl⟩
  obtain rfl:=oi h0
  exact⟨rfl,⟨rfl,rfl,rfl⟩,_,_,_,_,rfl,rfl,rfl,rfl,rfl⟩
 rintro y fr H ⟨⟨kn,l4⟩,rfl,rfl,rfl,rfl⟩
 refine Zag Za9 1000 _ _ ?_
 simp only at h0
 simp only[rdB,go_sem]
 obtain⟨q5,yq5,h0⟩:=bind_some h0
 refine ZbR (Zdl k l4 1 q5 yq5 (by decide) _ 0 _ (by simp only[rdB,go_sem])) ?_ ?_
 rotate_left
 ·rintro ch H ⟨rfl,rfl,rfl⟩
  obtain rfl:=oi h0
  exact⟨rfl,⟨rfl,rfl,rfl⟩,_,_,_,_,rfl,rfl,rfl,rfl,rfl⟩
 rintro y fr H ⟨⟨oh,l5⟩,rfl,rfl,rfl,rfl⟩
 refine Zag Za9 1000 _ _ ?_
 simp only at h0
 simp only[rdB,go_sem]
 obtain⟨q6,yq6,h0⟩:=bind_some h0
 refine ZbR (Zdl k l5 2 q6 yq6 (by decide) _ 0 _ (by simp only[rdB,go_sem])) ?_ ?_
 rotate_left
 ·rintro ch H ⟨rfl,rfl,rfl⟩
  obtain rfl:=oi h0
  exact⟨rfl,⟨rfl,rfl,rfl⟩,_,_,_,_,rfl,rfl,rfl,rfl,rfl⟩
 rintro y fr H ⟨⟨on_,l6⟩,rfl,rfl,rfl,rfl⟩
 refine Zag Za9 1000 _ _ ?_
 simp only at h0
 simp only[rdB,go_sem]
 obtain⟨q7,yq7,h0⟩:=bind_some h0
 refine ZbR (Zdl k l6 1 q7 yq7 (by decide) _ 0 _ (by simp only[rdB,go_sem])) ?_ ?_
 rotate_left
 ·rintro ch H ⟨rfl,rfl,rfl⟩
  obtain rfl:=oi h0
  exact⟨rfl,⟨rfl,rfl,rfl⟩,_,_,_,_,rfl,rfl,rfl,rfl,rfl⟩
 rintro y fr H ⟨⟨m,l7⟩,rfl,rfl,rfl,rfl⟩
 refine Zag Za9 1000 _ _ ?_
 simp only at h0
 simp only[rdB,go_sem]
 split at h0
 ·rename_i hm
  refine ZbR (Zpw l7 m hm _ 0 _ (by simp only[rdB,go_sem])) ?_ ?_
  rotate_left
  ·rintro ch H ⟨hq,rfl,rfl⟩
   rw[hq]at h0
   obtain rfl:=oi h0
   exact⟨rfl,⟨rfl,rfl,rfl⟩,_,_,_,_,rfl,rfl,rfl,rfl,rfl⟩
  rintro y fr H ⟨⟨tx,l8⟩,hq,rfl,rfl,rfl⟩
  rw[hq]at h0
  obtain rfl:=oi h0
  refine Zag Za9 1000 _ _ ?_
  simp only[rdB,ZhZ,Zre,go_sem]
  refine Zat Za9 Zau 1000 ?_
  simp only[go_sem]
  refine Zbk 1000 (Zds k ⟨⟨ho,no⟩,ki,da,kn,⟨oh,on_⟩,ZlR tx⟩ is (his _ _ rfl)) ?_ (by first|rfl|simp[AV.refsL,AV.refs,AV.scal,AV.leaf]) ?_
  ·try simp only[go_sem]
  try simp only[go_sem]
  refine ZaB ⟨ZaC (by simp only[ZdN,List.reverse_cons,List.reverse_nil,List.nil_append,List.cons_append,List.map_cons,List.map_nil,List.append_nil];rfl) (by first|decide +kernel|rfl),Zag Za9 1000 _ _ ?_⟩
  try simp only[go_sem]
  exact⟨rfl,⟨_,rfl⟩,by simp only[go_sem]⟩
 ·cases h0
theorem ZhW (k:Nat) (b:List Int) (r:Record×List Int×Bool) (h0:ZdS k b=some r):Za0 Try.prog 90 [.sl 1 (List.map eU8 b)] (fun y=>y=.tup [.agg (Record.c r.1),.sl 1 (List.map eU8 r.2.1),.bool r.2.2]):=by
 obtain⟨q,hq,h0⟩:=bind_some h0
 obtain⟨is,his⟩:∃ is,∀ x left,q=some (x,left)→Zbo k x=some is∧r=(x,left,is):=by
  cases q with
  |none=>exact⟨false,by rintro x left h;cases h⟩
  |some p=>
   obtain⟨x,left⟩:=p
   simp only at h0
   obtain⟨is,h1,h0⟩:=bind_some h0
   refine⟨is,fun x' left' h=>?_⟩
   simp only[oE,Prod.mk.injEq]at h
   obtain⟨rfl,rfl⟩:=h
   exact⟨h1,(oi h0).symm⟩
 have hrN:q=none→r=(⟨⟨0,0⟩,0,0,0,⟨0,0⟩,ByteArray.empty⟩,[],false):=by rintro rfl;exact(oi h0).symm
 refine Za0.nlr ⟨⟨Try.f90,by rfl,by rfl,by rfl⟩,fun fm w vs hin hv=>?_⟩
 have hnt:Try.f90.ntmps=44:=by rfl
 refine calls_of_wp_defers (fn:=Try.f90) (c:=D90) (by rfl) (by rfl) ((Zd8 []).1 ?_)
 have hS:=SR.enter (HR.nothing hin) (vs:=vs) (args:=[.sl 1 (List.map eU8 b)]) (n:=Try.f90.ntmps) ⟨hv.1,fun i x v p q=>(hv.2 i x v p q).mono (Zdq.refl _) (ZaA.nil _)⟩ (by rw[hnt];simp)
 have e90:D90=.seq (Zdt D90) (.seq (Zdt (Za5 D90)) (Za5 (Za5 D90))):=by rfl
 rw[e90]
 refine(show K Try.prog _ [.code (.seq _ _)] .normal _ w from ?_)
 refine ZjY ?_
 refine AK.seg (Φ:=fun _ _=>False) (B:=fun st=>st=ZoQ b) (s:=F90.r0) hS ?_ (by rfl) (by rfl) ?_ (fun _ _ _ _ _ _ h=>h.elim)
 ·refine Zag Za9 1000 _ _ ?_
  simp only[F90.r0,F90.c,SC.fst,go_sem]
  exact rfl
 ·rintro st' a1 w1 fm1 ts1 rfl hS1 hL1
  refine ZjY ?_
  obtain⟨px,hpx,vx⟩:=hS1.tm 2 (.ptr 0 0 0) rfl
  obtain⟨pl,hpl,vl⟩:=hS1.tm 3 (.ptr 0 16 0) rfl
  obtain⟨pi,hpi,vi⟩:=hS1.tm 4 (.ptr 0 32 0) rfl
  obtain⟨p0,p1,q0,q1,e1⟩:∃ p0 p1 q0 q1,Zdt (Za5 D90)=.region 1 #[⟨some 6,.makeFunc (.func 130) #[] #[.tmp 2,.tmp 3,.tmp 4],1,p0,q0,none⟩,⟨none,.defer ⟨.value (.tmp 6),#[],#[]⟩,0,p1,q1,none⟩] false:=⟨_,_,_,_,rfl⟩
  rw[e1]
  refine Zjh ?_
  change K Try.prog _ (CIt.ops _ [0,1]::_) .normal a1 w1
  have hev2:a1.eval (.tmp 2)=px:=by simp[Act.eval,Array.getD_eq_getD_getElem?,hpx]
  have hev3:a1.eval (.tmp 3)=pl:=by simp[Act.eval,Array.getD_eq_getD_getElem?,hpl]
  have hev4:a1.eval (.tmp 4)=pi:=by simp[Act.eval,Array.getD_eq_getD_getElem?,hpi]
  refine ZuG rfl rfl ?_
  refine ZfA (w':=w1) (v:=.func (.func 130) #[] #[px,pl,pi]) (fun c h=>by cases h) ?_ ?_
  ·simp[execOp,Instr.makeFunc,hev2,hev3,hev4]
  have hsz:6<a1.tmps.size:=by rw[hS1.size,hnt];decide
  refine ZuG rfl rfl ?_
  refine Znu (w':=w1) (d:={ target:=.fn (.func 130) #[px,pl,pi],args:=#[] }) ?_ rfl ?_
  ·have he6:(a1.put (some 6) (.func (.func 130) #[] #[px,pl,pi])).eval (.tmp 6)=.func (.func 130) #[] #[px,pl,pi]:=by
    simp[Act.eval,Act.put,Array.getD_eq_getD_getElem?,hsz]
   simp[execOp,resolve,he6,Deferred.ofValue]
  refine ZnJ ?_
  have hS1p:@SR md0 w.heap.size w Try.f90.ntmps (ZoQ b) (a1.put (some 6) (.func (.func 130) #[] #[px,pl,pi])) w1 fm1 ts1:=by
   refine⟨hS1.hr,fun t x hx=>?_,hS1.nx,by rw[ZgK];exact hS1.size,by rw[Zhi];exact hS1.dfr⟩
   obtain⟨v,h1,h2⟩:=hS1.tm t x hx
   have ht6:6≠t:=by rintro rfl;simp[ZoQ,look]at hx
   exact⟨v,by simp only[Act.put];rw[Array.getElem?_setIfInBounds,if_neg ht6];exact h1,h2⟩
  have hS2:=SR.deep (tm':=[(0,.sl 1 (List.map eU8 b)),(2,.ptr 1 0 0),(3,.ptr 1 16 0),(4,.ptr 1 32 0)]) hS1p (by
   intro t x hx
   simp only[look]at hx
   split at hx
   ·subst_vars;obtain rfl:=oi hx;exact⟨_,rfl,rfl⟩
   ·split at hx
    ·subst_vars;obtain rfl:=oi hx;exact⟨_,rfl,rfl⟩
    ·split at hx
     ·subst_vars;obtain rfl:=oi hx;exact⟨_,rfl,rfl⟩
     ·split at hx
      ·subst_vars;obtain rfl:=oi hx;exact⟨_,rfl,rfl⟩
      ·cases hx)
  have hS3:=SR.dfs md0 ⟨none,[{ target:=.fn (.func 130) #[px,pl,pi],args:=#[] }]⟩ hS2 (a':=({ (a1.put (some 6) (.func (.func 130) #[] #[px,pl,pi])) with defers:={ target:=.fn (.func 130) #[px,pl,pi],args:=#[] }::(a1.put (some 6) (.func (.func 130) #[] #[px,pl,pi])).defers }.put none undef)) rfl (by
   have h1:=hS1.dfr
   have h2:(a1.put (some 6) (.func (.func 130) #[] #[px,pl,pi])).defers=[]:=by rw[Zhi];exact h1
   show _::_=_
   rw[h2]
   rfl)
  rw[ZuF md0 ⟨none,[{ target:=.fn (.func 130) #[px,pl,pi],args:=#[] }]⟩ rfl]
  refine @AK.last ⟨none,[{ target:=.fn (.func 130) #[px,pl,pi],args:=#[] }]⟩ _ _ _ _ _ _ _ _ _ _ (Zv0 q is) _ F90.rest hS3 (@ZqC ⟨none,[{ target:=.fn (.func 130) #[px,pl,pi],args:=#[] }]⟩ k b q hq is (fun x left h=>(his x left h).1)) (by rfl) (by rfl) ?_
  intro e st' a' w' fm' ts' hE hS' hL
  obtain⟨s1,s2,s3,s4,s5⟩:=hS'
  have hdf:a'.defers=[{ target:=.fn (.func 130) #[px,pl,pi],args:=#[] }]:=s5
  obtain⟨t1,rest,rfl⟩:∃ t1 rest,ts'=t1::rest:=by
   cases ts' with
   |nil=>have:=s1.len;simp at this
   |cons t1 rest=>exact⟨t1,rest,rfl⟩
  have hpop:=s1.pop
  have hrest:ZaA ts1 rest:=by simpa using hL.tle
  have hno:∀ l k,tb ts1 l k=none→tb rest l k=none:=by simpa using hL.no
  cases q with
  |none=>
   obtain⟨rfl,⟨g2,g3,g4⟩,fr,c8,cl,ci,hlow,gx,h8,gl,gi⟩:=hE
   rw[hlow]at hpop
   show Leaves Try.prog Try.f90 a'.tmps _ a'.defers (.panicking Zhn) w'
   rw[hdf]
   have hup:∀ {x:AV}{v:Value},VR fm1 ts1 x v→VR fm' rest x v:=fun h=>h.mono hL.fle.le hrest
   refine leaves_cons (f:=130) (args:=#[px,pl,pi]) (by simp) (by simp[invoke,callFunc];rfl) ?_
   refine(Zng hpop (hup vx) (hup vl) (hup vi) gx h8 gl gi (by decide) (by decide) (by decide)).mono ?_
   rintro e2 u' w2 ⟨rfl,rfl,fm2,ts2,fr2,hr2,hf2,ht2,hn2,e1,e2,e3⟩
   have hr0:=hrN rfl
   subst hr0
   have ptr:∀ {t k:Nat},look st'.tm t=some (.ptr 1 k 0)→∃ v,a'.tmps[t]?=some v∧VR fm2 ts2 (.ptr 0 k 0) v:=by
    intro t k ht
    obtain⟨v,h1,h2⟩:=s2 t _ ht
    exact⟨v,h1,(h2.un 1 (y:=.ptr 0 k 0) rfl).mono hf2.le ht2⟩
   have hSf:@SR md0 w.heap.size w Try.f90.ntmps ⟨[(2,.ptr 0 0 0),(3,.ptr 0 16 0),(4,.ptr 0 32 0)],fr2,[],48,Try.f90.ntmps⟩ { a' with defers:=[] } w2 fm2 ts2:=by
    refine @SR.mk md0 _ _ _ _ _ _ _ _ hr2 ?_ (fun k hk=>hn2 0 k (hno 0 k (hS1.nx k hk))) s4 rfl
    intro t x hx
    simp only[look]at hx
    split at hx
    ·subst_vars;obtain rfl:=oi hx;exact ptr g2
    ·split at hx
     ·subst_vars;obtain rfl:=oi hx;exact ptr g3
     ·split at hx
      ·subst_vars;obtain rfl:=oi hx;exact ptr g4
      ·cases hx
   obtain⟨v,h1,h2⟩:=Zc9 (P:=Try.prog) (fn:=Try.f90) (xs:=[.agg Zej,.nil,.bool false]) Za9 hSf (by
    rw[F90.rs]
    simp only[Zej]at e1
    simp only[Zej,e1,e2,e3,go_sem])
   refine⟨v,h1,v,.tup [.agg Zej,.nil,.bool false],fm2,rfl,?_,hr2.fms,?_,?_,hr2.bel⟩
   ·exact NL.tups (NLs.cons (NL.refl _) (NLs.cons (NL.nil _) (NLs.cons (NL.refl _) NLs.nil)))
   ·have:=h2.un ts2.length (y:=.tup [.agg Zej,.nil,.bool false]) rfl
    rwa [List.drop_length]at this
   ·exact(hL1.fle.trans hL.fle).trans hf2
  |some p=>
   obtain⟨x,left⟩:=p
   obtain⟨rfl,⟨fr,hlow⟩,hres⟩:=hE
   show Leaves Try.prog Try.f90 a'.tmps _ a'.defers .returning w'
   rw[hdf]
   refine leaves_cons (f:=130) (args:=#[px,pl,pi]) (by simp) (by simp[invoke,callFunc];rfl) ?_
   refine(ZoP px pl pi w').mono ?_
   rintro e2 u' w2 ⟨rfl,rfl,rfl⟩
   obtain⟨hisr,rfl⟩:=his x left rfl
   have hSf:@SR md0 w.heap.size w Try.f90.ntmps st' { a' with defers:=[] } w2 fm' (t1::rest):=@SR.mk md0 _ _ _ _ _ _ _ _ s1 s2 s3 s4 rfl
   obtain⟨v,h1,h2⟩:=Zc9 (P:=Try.prog) (fn:=Try.f90) (xs:=[.agg (Record.c x),.sl 1 (List.map eU8 left),.bool is]) Za9 hSf (by rw[F90.rs];exact hres)
   refine⟨v,h1,v,.tup [.agg (Record.c x),.sl 1 (List.map eU8 left),.bool is],fm',rfl,.refl _,s1.fms,?_,?_,s1.bel⟩
   ·have:=h2.un (t1::rest).length (y:=.tup [.agg (Record.c x),.sl 1 (List.map eU8 left),.bool is]) (by simp only[Zb0,AV.un,AV.unL,(Zle.ice x).un,Option.map_some])
    rwa [List.drop_length]at this
   ·exact hL1.fle.trans hL.fle
def F125.c:SC:=
 (.seq
 (.reg [oq 6 (.alloc 126) 0 []])
 (.seq
 (.reg [mv 7 0 130 [0],
 oq 8 (.nilCheck (.tmp 7)) 0 [7],
 fa 9 134 8 0 [8],
 fa 10 42 9 0 [9],
 ld 11 39 10 [10],
 mv 12 1 3 [1],
 bn 13 .mul 3 12 301 3 3 [12],
 mv 14 2 3 [],
 bn 15 .quo 3 14 2 3 3 [14],
 b2 16 .add 3 13 15 3 3 [13,15],
 mv 17 2 3 [2],
 bn 18 .rem 3 17 2 3 3 [17],
 ia 19 39 11 16 [11,16],
 ia 20 139 19 18 [18,19],
 ld 21 122 20 [20],
 ⟨none,.store 126 (.tmp 6) (.tmp 21),0,none,[21]⟩])
 .ret))
theorem F125.rs:Try.f125.results.toList=[.cell 6 126]:=rfl
def ZaM (k:Nat) (d0:book_disk) (area1:Int) (i2:Int):Option ((Vec 32 Int)):=
 (at? d0.Disk.Pages (w64 ((w64 (area1*301))+(w64 (Int.tdiv i2 2))))).bind fun x1=>
 (x1.at? (Int.tmod i2 2)).bind fun x2=>
 some x2
theorem Zbt (k:Nat) (d0:book_disk) (area1:Int) (i2:Int) (r:(Vec 32 Int)) (h0:ZaM k d0 area1 i2=some r):Za0 Try.prog 125 [.rptr 2 [book_disk.c d0] 0 0,.int .i64 area1,.int .i64 i2] (fun y=>y=.agg ((Vec.c (n:=32) eU8) r)):=by
 refine PB (fn:=Try.f125) (sc:=F125.c) ?_
 refine rS ?_
 simp only[ZaM]at h0
 try simp only[F125.c,go_sem]
 obtain⟨x1,yx1,h0⟩:=bs h0
 try simp only[ZaF yx1,Zaw (Vec.c (n:=2) (Vec.c (n:=32) eU8)) yx1,go_sem]
 obtain⟨x2,yx2,h0⟩:=bs h0
 have uyx2:=UpdE.at (fun q_=>((VK.vec Zar 32).len q_:((Vec.c (n:=32) eU8) q_).length=32)) (UpdE.self (fun q_=>((VK.vec (VK.vec Zar 32) 2).len q_:(Vec.c (n:=2) (Vec.c (n:=32) eU8) q_).length=64)) x1) yx2
 have buyx2:=uyx2.bound (fun q_=>((VK.vec Zar 32).len q_:((Vec.c (n:=32) eU8) q_).length=32))
 have guyx2:=uyx2.get (fun q_=>((VK.vec Zar 32).len q_:((Vec.c (n:=32) eU8) q_).length=32))
 try simp only[List.length_cons,List.length_nil,go_sem]at buyx2 guyx2
 try simp only[Zaa yx2,buyx2,guyx2,ZaF yx1,Zaw (Vec.c (n:=2) (Vec.c (n:=32) eU8)) yx1,go_sem]
 obtain rfl:=oi h0
 refine Zad rfl ?_
 try simp only[F125.rs,ZaF yx1,Zaw (Vec.c (n:=2) (Vec.c (n:=32) eU8)) yx1,Zaa yx2,buyx2,guyx2,go_sem]
def F126.c:SC:=
 (.seq
 (.reg [oq 1 (.box 126 (.tmp 0)) 0 [0],
 sn 2 0 3 [2]])
 (.seq
 (.reg [oq 4 (.indexAddr 126 (.tmp 1) (.const (.int .i64 1))) 0 [],
 ld 5 5 4 [4],
 oq 6 (.convert 5 3 (.tmp 5)) 3 [5],
 oq 7 (.binOp .shl 3 (.tmp 6) (.const (.int .u64 16)) 211) 3 [6],
 oq 8 (.indexAddr 126 (.tmp 1) (.const (.int .i64 2))) 0 [],
 ld 9 5 8 [8],
 oq 10 (.convert 5 3 (.tmp 9)) 3 [9],
 oq 11 (.binOp .shl 3 (.tmp 10) (.const (.int .u64 8)) 211) 3 [10],
 b2 12 .or 3 7 11 3 3 [7,11],
 oq 13 (.indexAddr 126 (.tmp 1) (.const (.int .i64 3))) 0 [],
 ld 14 5 13 [13],
 oq 15 (.convert 5 3 (.tmp 14)) 3 [14],
 b2 16 .or 3 12 15 3 3 [12,15],
 sg 3 16 3 [16]])
 (.seq
 (.seq
 (.reg [oq 17 (.indexAddr 126 (.tmp 1) (.const (.int .i64 0))) 0 [],
 ld 18 5 17 [17],
 oq 19 (.binOp .neq 5 (.tmp 18) (.const (.int .u8 104)) 5) 4 [18],
 mv 20 19 4 [19],
 og 21 (.indexAddr 126 (.tmp 1) (.const (.int .i64 0))) 0 20 true [],
 og 22 (.load 5 (.tmp 21)) 5 20 true [21],
 og 23 (.binOp .neq 5 (.tmp 22) (.const (.int .u8 112)) 5) 4 20 true [22],
 oq 24 (.pick (.tmp 20) (.tmp 23) (.const (.bool false))) 4 [20,23],
 mv 25 24 4 [24],
 og 26 (.indexAddr 126 (.tmp 1) (.const (.int .i64 31))) 0 25 false [1],
 og 27 (.load 5 (.tmp 26)) 5 25 false [26],
 og 28 (.binOp .neq 5 (.tmp 27) (.const (.int .u8 165)) 5) 4 25 false [27],
 oq 29 (.pick (.tmp 25) (.const (.bool true)) (.tmp 28)) 4 [25,28],
 mv 30 29 4 [29],
 og 31 (.move (.tmp 3)) 3 30 false [],
 og 32 (.binOp .gtr 3 (.tmp 31) (.const (.int .i64 1000000)) 3) 4 30 false [31],
 oq 33 (.pick (.tmp 30) (.const (.bool true)) (.tmp 32)) 4 [30,32]])
 (.cond (.tmp 33)
 (.seq
 (.reg [sn 2 0 3 []])
 .ret)
 .skip))
 (.seq
 (.reg [mv 34 3 3 [3],
 sg 2 34 3 [34]])
 .ret))))
theorem F126.rs:Try.f126.results.toList=[.tmp 2]:=rfl
def ZaZ (k:Nat) (hh0:(Vec 32 Int)):Option (Int):=
 (hh0.at? 1).bind fun x1=>
 (hh0.at? 2).bind fun x2=>
 (hh0.at? 3).bind fun x3=>
 (hh0.at? 0).bind fun x4=>
 bif (!decide (x4=(104:Int))) then
  bif decide (x4=(112:Int)) then
   (hh0.at? 31).bind fun x7=>
   bif decide (x7=(165:Int)) then
    bif decide ((1000000:Int)<bOr .i64 (bOr .i64 (w64 ((w64 x1)*2 ^ 16)) (w64 ((w64 x2)*2 ^ 8))) (w64 x3)) then
     some 0
    else
     some (bOr .i64 (bOr .i64 (w64 ((w64 x1)*2 ^ 16)) (w64 ((w64 x2)*2 ^ 8))) (w64 x3))
   else
    some 0
  else
   some 0
 else
  (hh0.at? 31).bind fun x10=>
  bif decide (x10=(165:Int)) then
   bif decide ((1000000:Int)<bOr .i64 (bOr .i64 (w64 ((w64 x1)*2 ^ 16)) (w64 ((w64 x2)*2 ^ 8))) (w64 x3)) then
    some 0
   else
    some (bOr .i64 (bOr .i64 (w64 ((w64 x1)*2 ^ 16)) (w64 ((w64 x2)*2 ^ 8))) (w64 x3))
  else
   some 0
theorem ZbV (k:Nat) (hh0:(Vec 32 Int)) (r:Int) (h0:ZaZ k hh0=some r):Za0 Try.prog 126 [.agg ((Vec.c (n:=32) eU8) hh0)] (fun y=>y=.int .i64 r):=by
 refine PB (fn:=Try.f126) (sc:=F126.c) ?_
 refine rS ?_
 simp only[ZaZ]at h0
 try simp only[F126.c,go_sem]
 obtain⟨x1,yx1,h0⟩:=bs h0
 have uyx1:=UpdE.at (fun q_=>(Zar.len q_:(eU8 q_).length=1)) (UpdE.self (fun q_=>((VK.vec Zar 32).len q_:(Vec.c (n:=32) eU8 q_).length=32)) hh0) yx1
 have buyx1:=uyx1.bound (fun q_=>(Zar.len q_:(eU8 q_).length=1))
 have guyx1:=uyx1.get (fun q_=>(Zar.len q_:(eU8 q_).length=1))
 try simp only[List.length_cons,List.length_nil,go_sem]at buyx1 guyx1
 try simp only[Zaa yx1,buyx1,guyx1,(@id (min (Int.toNat 16) 64=16) rfl),go_sem]
 obtain⟨x2,yx2,h0⟩:=bs h0
 have uyx2:=UpdE.at (fun q_=>(Zar.len q_:(eU8 q_).length=1)) (UpdE.self (fun q_=>((VK.vec Zar 32).len q_:(Vec.c (n:=32) eU8 q_).length=32)) hh0) yx2
 have buyx2:=uyx2.bound (fun q_=>(Zar.len q_:(eU8 q_).length=1))
 have guyx2:=uyx2.get (fun q_=>(Zar.len q_:(eU8 q_).length=1))
 try simp only[List.length_cons,List.length_nil,go_sem]at buyx2 guyx2
 try simp only[Zaa yx2,buyx2,guyx2,(@id (min (Int.toNat 8) 64=8) rfl),Zaa yx1,buyx1,guyx1,go_sem]
 obtain⟨x3,yx3,h0⟩:=bs h0
 have uyx3:=UpdE.at (fun q_=>(Zar.len q_:(eU8 q_).length=1)) (UpdE.self (fun q_=>((VK.vec Zar 32).len q_:(Vec.c (n:=32) eU8 q_).length=32)) hh0) yx3
 have buyx3:=uyx3.bound (fun q_=>(Zar.len q_:(eU8 q_).length=1))
 have guyx3:=uyx3.get (fun q_=>(Zar.len q_:(eU8 q_).length=1))
 try simp only[List.length_cons,List.length_nil,go_sem]at buyx3 guyx3
 try simp only[Zaa yx3,buyx3,guyx3,Zaa yx1,buyx1,guyx1,Zaa yx2,buyx2,guyx2,go_sem]
 obtain⟨x4,yx4,h0⟩:=bs h0
 have uyx4:=UpdE.at (fun q_=>(Zar.len q_:(eU8 q_).length=1)) (UpdE.self (fun q_=>((VK.vec Zar 32).len q_:(Vec.c (n:=32) eU8 q_).length=32)) hh0) yx4
 have buyx4:=uyx4.bound (fun q_=>(Zar.len q_:(eU8 q_).length=1))
 have guyx4:=uyx4.get (fun q_=>(Zar.len q_:(eU8 q_).length=1))
 try simp only[List.length_cons,List.length_nil,go_sem]at buyx4 guyx4
 try simp only[Zaa yx4,buyx4,guyx4,Zaa yx1,buyx1,guyx1,Zaa yx2,buyx2,guyx2,Zaa yx3,buyx3,guyx3,go_sem]
 refine Zab h0 ?_ ?_<;>intro c5 h0
 have c5:=ZaY c5
 try simp only[c5,Zaa yx4,buyx4,guyx4,Zaa yx1,buyx1,guyx1,Zaa yx2,buyx2,guyx2,Zaa yx3,buyx3,guyx3,go_sem]
 refine Zab h0 ?_ ?_<;>intro c6 h0
 try simp only[c6,Zaa yx1,buyx1,guyx1,Zaa yx2,buyx2,guyx2,Zaa yx3,buyx3,guyx3,Zaa yx4,buyx4,guyx4,c5,go_sem]
 obtain⟨x7,yx7,h0⟩:=bs h0
 have uyx7:=UpdE.at (fun q_=>(Zar.len q_:(eU8 q_).length=1)) (UpdE.self (fun q_=>((VK.vec Zar 32).len q_:(Vec.c (n:=32) eU8 q_).length=32)) hh0) yx7
 have buyx7:=uyx7.bound (fun q_=>(Zar.len q_:(eU8 q_).length=1))
 have guyx7:=uyx7.get (fun q_=>(Zar.len q_:(eU8 q_).length=1))
 try simp only[List.length_cons,List.length_nil,go_sem]at buyx7 guyx7
 try simp only[Zaa yx7,buyx7,guyx7,Zaa yx1,buyx1,guyx1,Zaa yx2,buyx2,guyx2,Zaa yx3,buyx3,guyx3,Zaa yx4,buyx4,guyx4,c5,c6,go_sem]
 refine Zab h0 ?_ ?_<;>intro c8 h0
 try simp only[c8,Zaa yx1,buyx1,guyx1,Zaa yx2,buyx2,guyx2,Zaa yx3,buyx3,guyx3,Zaa yx4,buyx4,guyx4,c5,c6,Zaa yx7,buyx7,guyx7,go_sem]
 refine Zab h0 ?_ ?_<;>intro c9 h0
 try simp only[c9,Zaa yx1,buyx1,guyx1,Zaa yx2,buyx2,guyx2,Zaa yx3,buyx3,guyx3,Zaa yx4,buyx4,guyx4,c5,c6,Zaa yx7,buyx7,guyx7,c8,go_sem]
 obtain rfl:=oi h0
 refine Zad rfl ?_
 try simp only[F126.rs,Zaa yx1,buyx1,guyx1,Zaa yx2,buyx2,guyx2,Zaa yx3,buyx3,guyx3,Zaa yx4,buyx4,guyx4,c5,c6,Zaa yx7,buyx7,guyx7,c8,c9,go_sem]
 try simp only[c9,Zaa yx1,buyx1,guyx1,Zaa yx2,buyx2,guyx2,Zaa yx3,buyx3,guyx3,Zaa yx4,buyx4,guyx4,c5,c6,Zaa yx7,buyx7,guyx7,c8,go_sem]
 obtain rfl:=oi h0
 refine Zad rfl ?_
 try simp only[F126.rs,Zaa yx1,buyx1,guyx1,Zaa yx2,buyx2,guyx2,Zaa yx3,buyx3,guyx3,Zaa yx4,buyx4,guyx4,c5,c6,Zaa yx7,buyx7,guyx7,c8,c9,go_sem]
 try simp only[c8,Zaa yx1,buyx1,guyx1,Zaa yx2,buyx2,guyx2,Zaa yx3,buyx3,guyx3,Zaa yx4,buyx4,guyx4,c5,c6,Zaa yx7,buyx7,guyx7,go_sem]
 obtain rfl:=oi h0
 refine Zad rfl ?_
 try simp only[F126.rs,Zaa yx1,buyx1,guyx1,Zaa yx2,buyx2,guyx2,Zaa yx3,buyx3,guyx3,Zaa yx4,buyx4,guyx4,c5,c6,Zaa yx7,buyx7,guyx7,c8,go_sem]
 try simp only[c6,Zaa yx1,buyx1,guyx1,Zaa yx2,buyx2,guyx2,Zaa yx3,buyx3,guyx3,Zaa yx4,buyx4,guyx4,c5,go_sem]
 obtain rfl:=oi h0
 refine Zad rfl ?_
 try simp only[F126.rs,Zaa yx1,buyx1,guyx1,Zaa yx2,buyx2,guyx2,Zaa yx3,buyx3,guyx3,Zaa yx4,buyx4,guyx4,c5,c6,go_sem]
 have c5:=ZaX c5
 try simp only[c5,Zaa yx1,buyx1,guyx1,Zaa yx2,buyx2,guyx2,Zaa yx3,buyx3,guyx3,Zaa yx4,buyx4,guyx4,go_sem]
 obtain⟨x10,yx10,h0⟩:=bs h0
 have uyx10:=UpdE.at (fun q_=>(Zar.len q_:(eU8 q_).length=1)) (UpdE.self (fun q_=>((VK.vec Zar 32).len q_:(Vec.c (n:=32) eU8 q_).length=32)) hh0) yx10
 have buyx10:=uyx10.bound (fun q_=>(Zar.len q_:(eU8 q_).length=1))
 have guyx10:=uyx10.get (fun q_=>(Zar.len q_:(eU8 q_).length=1))
 try simp only[List.length_cons,List.length_nil,go_sem]at buyx10 guyx10
 try simp only[Zaa yx10,buyx10,guyx10,Zaa yx1,buyx1,guyx1,Zaa yx2,buyx2,guyx2,Zaa yx3,buyx3,guyx3,Zaa yx4,buyx4,guyx4,c5,go_sem]
 refine Zab h0 ?_ ?_<;>intro c11 h0
 try simp only[c11,Zaa yx1,buyx1,guyx1,Zaa yx2,buyx2,guyx2,Zaa yx3,buyx3,guyx3,Zaa yx4,buyx4,guyx4,c5,Zaa yx10,buyx10,guyx10,go_sem]
 refine Zab h0 ?_ ?_<;>intro c12 h0
 try simp only[c12,Zaa yx1,buyx1,guyx1,Zaa yx2,buyx2,guyx2,Zaa yx3,buyx3,guyx3,Zaa yx4,buyx4,guyx4,c5,Zaa yx10,buyx10,guyx10,c11,go_sem]
 obtain rfl:=oi h0
 refine Zad rfl ?_
 try simp only[F126.rs,Zaa yx1,buyx1,guyx1,Zaa yx2,buyx2,guyx2,Zaa yx3,buyx3,guyx3,Zaa yx4,buyx4,guyx4,c5,Zaa yx10,buyx10,guyx10,c11,c12,go_sem]
 try simp only[c12,Zaa yx1,buyx1,guyx1,Zaa yx2,buyx2,guyx2,Zaa yx3,buyx3,guyx3,Zaa yx4,buyx4,guyx4,c5,Zaa yx10,buyx10,guyx10,c11,go_sem]
 obtain rfl:=oi h0
 refine Zad rfl ?_
 try simp only[F126.rs,Zaa yx1,buyx1,guyx1,Zaa yx2,buyx2,guyx2,Zaa yx3,buyx3,guyx3,Zaa yx4,buyx4,guyx4,c5,Zaa yx10,buyx10,guyx10,c11,c12,go_sem]
 try simp only[c11,Zaa yx1,buyx1,guyx1,Zaa yx2,buyx2,guyx2,Zaa yx3,buyx3,guyx3,Zaa yx4,buyx4,guyx4,c5,Zaa yx10,buyx10,guyx10,go_sem]
 obtain rfl:=oi h0
 refine Zad rfl ?_
 try simp only[F126.rs,Zaa yx1,buyx1,guyx1,Zaa yx2,buyx2,guyx2,Zaa yx3,buyx3,guyx3,Zaa yx4,buyx4,guyx4,c5,Zaa yx10,buyx10,guyx10,c11,go_sem]
def F154.s1:SC:=
 (.seq
 (.reg [b2 76 .lss 3 75 74 3 0 []])
 (.seq
 (.cond (.tmp 76)
 .skip
 (.exit 2))
 (.seq
 (.block 3
 (.seq
 (.reg [mv 77 75 3 [],
 ia 78 124 73 75 [],
 ld 79 126 78 [78],
 oq 19 (.alloc 126) 0 [],
 sg 18 77 3 [77],
 ⟨none,.store 126 (.tmp 19) (.tmp 79),0,none,[79]⟩])
 (.seq
 (.dreg [mv 80 0 130 [],
 mv 81 1 3 [],
 mv 82 2 3 [],
 mv 83 18 3 [],
 b2 84 .add 3 82 83 3 3 [],
 oq 85 (.call ⟨.value (.func 125),#[.tmp 80,.tmp 81,.tmp 84],#[130,3,3]⟩) 126 [],
 ld 86 126 19 [],
 b2 87 .neq 126 85 86 126 4 []] [[],[],[],[],[2,3],[0,1,2,3,4],[],[0,1,2,3,4,5,6]] [18,19,80,81,82,83,84,85,86])
 (.cond (.tmp 87)
 (.seq
 (.reg [oq 88 (.build 25 #[]) 25 [],
 ⟨none,.store 25 (.tmp 8) (.tmp 88),0,none,[88]⟩,
 sn 9 0 3 [],
 sn 10 0 3 []])
 .ret)
 .skip))))
 (.reg [bn 89 .add 3 75 1 3 3 [75],
 mv 75 89 3 [89]]))))
def F154.s0:SC:=
 (.seq
 (.reg [b2 43 .lss 3 42 41 3 4 []])
 (.seq
 (.cond (.tmp 43)
 .skip
 (.exit 0))
 (.seq
 (.block 1
 (.seq
 (.reg [mv 44 42 3 [],
 sg 13 44 3 [44]])
 (.seq
 (.reg [mv 45 0 130 [],
 mv 46 1 3 [],
 mv 47 2 3 [],
 mv 48 13 3 [13],
 b2 49 .add 3 47 48 3 3 [47,48],
 oq 50 (.call ⟨.value (.func 125),#[.tmp 45,.tmp 46,.tmp 49],#[130,3,3]⟩) 126 [45,46,49],
 oq 14 (.alloc 126) 0 [],
 ⟨none,.store 126 (.tmp 14) (.tmp 50),0,none,[50]⟩])
 (.reg [mv 51 12 56 [12],
 oq 52 (.slice 126 (.tmp 14) (some (.const (.int .i64 8))) (some (.const (.int .i64 31))) none) 56 [14],
 oq 53 (.call ⟨.builtin .append,#[.tmp 51,.tmp 52],#[56,56]⟩) 56 [51,52],
 sg 12 53 56 [53]]))))
 (.reg [bn 54 .add 3 42 1 3 3 [42],
 mv 42 54 3 [54]]))))
def F154.c:SC:=
 (.seq
 (.reg [oq 8 (.alloc 25) 0 [],
 sn 9 0 3 [9],
 sn 10 0 3 [10]])
 (.seq
 (.seq
 (.reg [mv 20 2 3 [],
 bn 21 .geq 3 20 602 3 4 [20]])
 (.cond (.tmp 21)
 (.seq
 (.reg [oq 22 (.build 25 #[]) 25 [],
 ⟨none,.store 25 (.tmp 8) (.tmp 22),0,none,[22]⟩,
 sn 9 0 3 [],
 sn 10 0 3 []])
 .ret)
 .skip))
 (.seq
 (.reg [mv 23 0 130 [],
 mv 24 1 3 [],
 mv 25 2 3 [],
 oq 26 (.call ⟨.value (.func 125),#[.tmp 23,.tmp 24,.tmp 25],#[130,3,3]⟩) 126 [23,24,25],
 oq 11 (.alloc 126) 0 [],
 ⟨none,.store 126 (.tmp 11) (.tmp 26),0,none,[26]⟩])
 (.seq
 (.dreg [ld 27 126 11 [],
 cf1 28 126 27 126 3 [],
 oq 29 (.indexAddr 126 (.tmp 11) (.const (.int .i64 7))) 0 [],
 ld 30 5 29 [],
 oq 31 (.convert 5 3 (.tmp 30)) 3 [],
 sg 9 28 3 [],
 sg 10 31 3 []] [[],[0],[],[2],[2,3],[0,1],[2,3,4,0,1,5]] [11,27,28,29,30,31])
 (.seq
 (.seq
 (.reg [mv 32 9 3 [],
 bn 33 .eql 3 32 0 3 4 [32],
 mv 34 33 4 [33],
 og 35 (.move (.tmp 2)) 3 34 false [],
 og 36 (.move (.tmp 10)) 3 34 false [],
 og 37 (.binOp .add 3 (.tmp 35) (.tmp 36) 3) 3 34 false [35,36],
 og 38 (.binOp .gtr 3 (.tmp 37) (.const (.int .i64 602)) 3) 4 34 false [37],
 oq 39 (.pick (.tmp 34) (.const (.bool true)) (.tmp 38)) 4 [34,38]])
 (.cond (.tmp 39)
 (.seq
 (.reg [oq 40 (.build 25 #[]) 25 [],
 ⟨none,.store 25 (.tmp 8) (.tmp 40),0,none,[40]⟩,
 sn 9 0 3 [],
 sn 10 0 3 []])
 .ret)
 .skip))
 (.seq
 (.reg [oq 12 (.assign (.const (.slice none 0 0))) 56 []])
 (.seq
 (.seq
 (.reg [mv 41 10 3 [],
 oq 42 (.move (.const (.int .i64 0))) 3 []])
 (.block 0
 (.loop F154.s0)))
 (.seq
 (.reg [mv 56 12 56 [12],
 cf1 57 90 56 56 156 [56],
 mv 55 57 156 [57],
 xt 58 55 0 25 [],
 xt 59 55 1 56 [],
 xt 60 55 2 4 [55],
 ⟨none,.store 25 (.tmp 8) (.tmp 58),0,none,[58]⟩,
 sg 15 59 56 [15,59],
 sg 16 60 4 [60]])
 (.seq
 (.seq
 (.reg [mv 61 16 4 [16],
 oq 62 (.unOp .not 4 (.tmp 61)) 4 [61]])
 (.cond (.tmp 62)
 (.seq
 (.reg [oq 63 (.build 25 #[]) 25 [],
 ⟨none,.store 25 (.tmp 8) (.tmp 63),0,none,[63]⟩,
 sn 9 0 3 [],
 sn 10 0 3 []])
 .ret)
 .skip))
 (.seq
 (.reg [ld 64 25 8 [],
 mv 65 3 3 [3],
 mv 66 9 3 [],
 oq 67 (.call ⟨.value (.func 66),#[.tmp 64,.tmp 65,.tmp 66],#[25,3,3]⟩) 124 [64,65,66],
 sg 17 67 124 [67]])
 (.seq
 (.seq
 (.reg [mv 68 17 124 [],
 ln 69 68 124 3 [68],
 mv 70 10 3 [],
 b2 71 .neq 3 69 70 3 4 [69,70]])
 (.cond (.tmp 71)
 (.seq
 (.reg [oq 72 (.build 25 #[]) 25 [],
 ⟨none,.store 25 (.tmp 8) (.tmp 72),0,none,[72]⟩,
 sn 9 0 3 [],
 sn 10 0 3 []])
 .ret)
 .skip))
 (.seq
 (.seq
 (.reg [mv 73 17 124 [17],
 ln 74 73 124 3 [],
 oq 75 (.move (.const (.int .i64 0))) 3 []])
 (.block 2
 (.loop F154.s1)))
 (.seq
 (.reg [ld 90 25 8 [],
 mv 91 9 3 [9],
 mv 92 10 3 [10],
 ⟨none,.store 25 (.tmp 8) (.tmp 90),0,none,[90]⟩,
 sg 9 91 3 [91],
 sg 10 92 3 [92]])
 .ret)))))))))))))
theorem F154.rs:Try.f154.results.toList=[.cell 8 25,.tmp 9,.tmp 10]:=rfl
def Zah.b0 (k:Nat) (d0:book_disk) (area1:Int) (from2:Int) (x4:Int):(Int×(List Int))→Option (Stp (Int×(List Int)) ((List Int)) (Record×Int×Int)):=fun(s:Int×(List Int))=>match s with
 |(i7,l8)=>
   bif decide (i7<w64 x4) then
    (ZaM k d0 area1 (w64 (from2+i7))).bind fun x11=>
    (ZmZ 1 l8 ((x11.l.drop 8).take 23)).bind fun l12=>
    some (.next (w64 (i7+1),l12))
   else
    some (.brk l8)
def Zah.b1 (k:Nat) (d0:book_disk) (area1:Int) (from2:Int) (x16:(List (Vec 32 Int))):Int→Option (Stp (Int) (Unit) (Record×Int×Int)):=fun(i18:Int)=>
 bif decide (i18<(x16.length:Int)) then
  (at? x16 i18).bind fun x20=>
  (ZaM k d0 area1 (w64 (from2+i18))).bind fun x21=>
  bif (!(Vec.eq (fun(x y:Int)=>decide (x=y)) x21 x20)) then
   some (.ret ((⟨(⟨0,0⟩:Entry),0,0,0,(⟨0,0⟩:Entry),ByteArray.empty⟩:Record),0,0))
  else
   some (.next (w64 (i18+1)))
 else
  some (.brk ())
noncomputable def Zah.h0 (d0:book_disk) (area1:Int) (from2:Int) (number3:Int) (x3:Int) (x4:Int):(Int×(List Int))→St:=fun(s:Int×(List Int))=>match s with
 |(i7,l8)=>⟨[(0,.rptr 2 [book_disk.c d0] 0 0),(1,.int .i64 area1),(2,.int .i64 from2),(3,.int .i64 number3),(8,.ptr 0 0 0),(9,.int .i64 x3),(10,.int .i64 (w64 x4)),(12,.loc 0 1 1 0 l8.length l8.length),(41,.int .i64 (w64 x4)),(42,.int .i64 i7)],[(0,.box ([.int .i64 0,.int .i64 0,.int .i64 0,.int .i64 0,.int .i64 0,.int .i64 0,.int .i64 0,.str ByteArray.empty])),(1,.arr 5 1 (List.map eU8 l8))],[],2,Try.f154.ntmps⟩
noncomputable def Zah.x0 (d0:book_disk) (area1:Int) (from2:Int) (number3:Int) (x3:Int) (x4:Int):(List Int)→St:=fun(l9:(List Int))=>⟨[(0,.rptr 2 [book_disk.c d0] 0 0),(1,.int .i64 area1),(2,.int .i64 from2),(3,.int .i64 number3),(8,.ptr 0 0 0),(9,.int .i64 x3),(10,.int .i64 (w64 x4)),(12,.loc 0 1 1 0 l9.length l9.length)],[(0,.box ([.int .i64 0,.int .i64 0,.int .i64 0,.int .i64 0,.int .i64 0,.int .i64 0,.int .i64 0,.str ByteArray.empty])),(1,.arr 5 1 (List.map eU8 l9))],[],2,Try.f154.ntmps⟩
noncomputable def Zah.h1 (d0:book_disk) (area1:Int) (from2:Int) (x3:Int) (x4:Int) (x14:Record×(List Int)×Bool) (x16:(List (Vec 32 Int))):Int→St:=fun(i18:Int)=>⟨[(0,.rptr 2 [book_disk.c d0] 0 0),(1,.int .i64 area1),(2,.int .i64 from2),(8,.ptr 0 0 0),(9,.int .i64 x3),(10,.int .i64 (w64 x4)),(73,.sl 32 (List.map (Vec.c (n:=32) eU8) x16)),(74,.int .i64 (x16.length:Int)),(75,.int .i64 i18)],[(0,.box ([.int .i64 x14.1.At.House,.int .i64 x14.1.At.No,.int .i64 x14.1.Kind,.int .i64 x14.1.Day,.int .i64 x14.1.Known,.int .i64 x14.1.Of.House,.int .i64 x14.1.Of.No,.str x14.1.Text]))],[],1,Try.f154.ntmps⟩
noncomputable def Zah.x1 (x3:Int) (x4:Int) (x14:Record×(List Int)×Bool):Unit→St:=fun(_:Unit)=>⟨[(8,.ptr 0 0 0),(9,.int .i64 x3),(10,.int .i64 (w64 x4))],[(0,.box ([.int .i64 x14.1.At.House,.int .i64 x14.1.At.No,.int .i64 x14.1.Kind,.int .i64 x14.1.Day,.int .i64 x14.1.Known,.int .i64 x14.1.Of.House,.int .i64 x14.1.Of.No,.str x14.1.Text]))],[],1,Try.f154.ntmps⟩
def Zah (k:Nat) (d0:book_disk) (area1:Int) (from2:Int) (number3:Int):Option (Record×Int×Int):=
 bif decide ((602:Int)≤from2) then
  some ((⟨(⟨0,0⟩:Entry),0,0,0,(⟨0,0⟩:Entry),ByteArray.empty⟩:Record),0,0)
 else
  (ZaM k d0 area1 from2).bind fun x2=>
  (ZaZ k x2).bind fun x3=>
  (x2.at? 7).bind fun x4=>
  bif (!decide (x3=(0:Int))) then
   bif decide ((602:Int)<w64 (from2+(w64 x4))) then
    some ((⟨(⟨0,0⟩:Entry),0,0,0,(⟨0,0⟩:Entry),ByteArray.empty⟩:Record),0,0)
   else
    (whl (Zah.b0 k d0 area1 from2 x4) k (0,[])).bind fun r13=>match r13 with
    |.next _=>none
    |.ret v_=>some v_
    |.brk l9=>
     (ZdS k l9).bind fun x14=>
     bif (!x14.2.2) then
      some ((⟨(⟨0,0⟩:Entry),0,0,0,(⟨0,0⟩:Entry),ByteArray.empty⟩:Record),0,0)
     else
      (Za4 k x14.1 number3 x3).bind fun x16=>
      bif (!decide ((x16.length:Int)=w64 x4)) then
       some ((⟨(⟨0,0⟩:Entry),0,0,0,(⟨0,0⟩:Entry),ByteArray.empty⟩:Record),0,0)
      else
       (whl (Zah.b1 k d0 area1 from2 x16) k 0).bind fun r23=>match r23 with
       |.next _=>none
       |.ret v_=>some v_
       |.brk _=>
        some (x14.1,x3,w64 x4)
  else
   some ((⟨(⟨0,0⟩:Entry),0,0,0,(⟨0,0⟩:Entry),ByteArray.empty⟩:Record),0,0)
theorem ZfZ (k:Nat) (d0:book_disk) (area1:Int) (from2:Int) (number3:Int) (r:Record×Int×Int) (h0:Zah k d0 area1 from2 number3=some r):Za0 Try.prog 154 [.rptr 2 [book_disk.c d0] 0 0,.int .i64 area1,.int .i64 from2,.int .i64 number3] (fun y=>y=.tup [.agg (Record.c r.1),.int .i64 r.2.1,.int .i64 r.2.2]):=by
 refine PB (fn:=Try.f154) (sc:=F154.c) ?_
 refine rS ?_
 simp only[Zah]at h0
 try simp only[F154.c,go_sem]
 refine Zab h0 ?_ ?_<;>intro c1 h0
 try simp only[c1,go_sem]
 obtain rfl:=oi h0
 refine Zad rfl ?_
 try simp only[F154.rs,c1,go_sem]
 try simp only[c1,go_sem]
 obtain⟨x2,yx2,h0⟩:=bs h0
 refine zc0 (Zbt k _ _ _ _ yx2) ?_ (by first|rfl|(simp[AV.refsL,AV.refs,AV.scal,AV.leaf];done)|simp[AV.refsL,AV.refs,AV.scal,AV.leaf,go_sem]) ?_
 try simp only[c1,go_sem]
 try simp only[c1,go_sem]
 refine Zat Za9 Zau 1000 ?_
 try simp only[c1,go_sem]
 obtain⟨x3,yx3,h0⟩:=bs h0
 refine Zbk 1000 (ZbV k _ _ yx3) ?_ (by first|rfl|(simp[AV.refsL,AV.refs,AV.scal,AV.leaf];done)|simp[AV.refsL,AV.refs,AV.scal,AV.leaf,go_sem]) ?_
 try simp only[c1,go_sem]
 try simp only[c1,go_sem]
 obtain⟨x4,yx4,h0⟩:=bs h0
 have uyx4:=UpdE.at (fun q_=>(Zar.len q_:(eU8 q_).length=1)) (UpdE.self (fun q_=>((VK.vec Zar 32).len q_:(Vec.c (n:=32) eU8 q_).length=32)) x2) yx4
 have buyx4:=uyx4.bound (fun q_=>(Zar.len q_:(eU8 q_).length=1))
 have guyx4:=uyx4.get (fun q_=>(Zar.len q_:(eU8 q_).length=1))
 try simp only[List.length_cons,List.length_nil,go_sem]at buyx4 guyx4
 try simp only[Zaa yx4,buyx4,guyx4,c1,go_sem]
 refine ZaB ⟨ZaC (by simp only[ZdN,List.reverse_cons,List.reverse_nil,List.nil_append,List.cons_append,List.map_cons,List.map_nil,List.append_nil];rfl) (by first|decide +kernel|rfl),Zag Za9 1000 _ _ ?_⟩
 try simp only[c1,Zaa yx4,buyx4,guyx4,go_sem]
 refine Zab h0 ?_ ?_<;>intro c5 h0
 have c5:=ZaY c5
 try simp only[c5,c1,Zaa yx4,buyx4,guyx4,go_sem]
 refine Zab h0 ?_ ?_<;>intro c6 h0
 try simp only[c6,c1,Zaa yx4,buyx4,guyx4,c5,go_sem]
 obtain rfl:=oi h0
 refine Zad rfl ?_
 try simp only[F154.rs,c1,Zaa yx4,buyx4,guyx4,c5,c6,go_sem]
 try simp only[c6,c1,Zaa yx4,buyx4,guyx4,c5,go_sem]
 obtain⟨r13,yr13,h0⟩:=bs h0
 refine Zay yr13 (Zah.h0 d0 area1 from2 number3 x3 x4) (Zah.x0 d0 area1 from2 number3 x3 x4) ?_ ?_ ?_
 refine Za7.go [0,1,2,3,8,9,10,12,41,42] [0,416] rfl ?_
 try simp only[Zah.h0,c1,Zaa yx4,buyx4,guyx4,c5,c6,go_sem]
 rintro⟨i7,l8⟩ x_1 Bk1 Br1 h1 hnext1 hbrk1 hret1
 refine rS ?_
 simp only[Zah.b0]at h1
 try simp only[F154.s0,Zah.h0,c1,Zaa yx4,buyx4,guyx4,c5,c6,go_sem]
 refine Zab h1 ?_ ?_<;>intro c10 h1
 try simp only[c10,c1,Zaa yx4,buyx4,guyx4,c5,c6,go_sem]
 obtain⟨x11,yx11,h1⟩:=bs h1
 refine zc0 (Zbt k _ _ _ _ yx11) ?_ (by first|rfl|(simp[AV.refsL,AV.refs,AV.scal,AV.leaf];done)|simp[AV.refsL,AV.refs,AV.scal,AV.leaf,go_sem]) ?_
 try simp only[c1,Zaa yx4,buyx4,guyx4,c5,c6,c10,go_sem]
 try simp only[(@id (Int.toNat 8=8) rfl),(@id (Int.toNat 31=31) rfl),(@id (Zbr 32 (some (.int .i64 8)) (some (.int .i64 31))=some (8,31)) rfl),(@id (31 - 8=23) rfl),c1,Zaa yx4,buyx4,guyx4,c5,c6,c10,go_sem]
 obtain⟨l12,yl12,h1⟩:=bs h1
 have eyl12:=Zlv eU8 yl12
 have tyl12:=Zjt eU8 yl12
 have nyl12:=Zjr yl12
 have myl12:=Zjs yl12
 try simp only[c1,Zaa yx4,buyx4,guyx4,c5,c6,c10,(@id (Int.toNat 8=8) rfl),(@id (Int.toNat 31=31) rfl),(@id (Zbr 32 (some (.int .i64 8)) (some (.int .i64 31))=some (8,31)) rfl),(@id (31 - 8=23) rfl),go_sem]at eyl12 tyl12 nyl12 myl12
 try simp only[myl12,eyl12,ZoX,c1,Zaa yx4,buyx4,guyx4,c5,c6,c10,(@id (Int.toNat 8=8) rfl),(@id (Int.toNat 31=31) rfl),(@id (Zbr 32 (some (.int .i64 8)) (some (.int .i64 31))=some (8,31)) rfl),(@id (31 - 8=23) rfl),nyl12,tyl12,go_sem]
 refine Zaf (hnext1 _ _ (oi h1).symm ?_)
 refine Za7.go [0,1,2,3,8,9,10,12,41,42] [0,1] rfl ?_
 try simp only[Zah.h0,c1,Zaa yx4,buyx4,guyx4,c5,c6,c10,(@id (Int.toNat 8=8) rfl),(@id (Int.toNat 31=31) rfl),(@id (Zbr 32 (some (.int .i64 8)) (some (.int .i64 31))=some (8,31)) rfl),(@id (31 - 8=23) rfl),eyl12,nyl12,tyl12,go_sem]
 try simp only[c10,c1,Zaa yx4,buyx4,guyx4,c5,c6,go_sem]
 refine Zaf (hbrk1 _ _ (oi h1).symm ?_)
 refine Za7.go [0,1,2,3,8,9,10,12] [0,1] rfl ?_
 try simp only[Zah.x0,c1,Zaa yx4,buyx4,guyx4,c5,c6,c10,go_sem]
 rintro l9 hr_
 subst hr_
 simp only at h0
 refine rS ?_
 try simp only[Zah.x0,c1,Zaa yx4,buyx4,guyx4,c5,c6,go_sem]
 obtain⟨x14,yx14,h0⟩:=bs h0
 refine zcT [1] (ZhW k _ _ yx14) ?_ ?_
 try simp only[c1,Zaa yx4,buyx4,guyx4,c5,c6,go_sem]
 try simp only[c1,Zaa yx4,buyx4,guyx4,c5,c6,go_sem]
 refine Zab h0 ?_ ?_<;>intro c15 h0
 have c15:=ZaY c15
 try simp only[c15,c1,Zaa yx4,buyx4,guyx4,c5,c6,go_sem]
 obtain rfl:=oi h0
 refine Zad rfl ?_
 try simp only[F154.rs,c1,Zaa yx4,buyx4,guyx4,c5,c6,c15,go_sem]
 have c15:=ZaX c15
 try simp only[c15,c1,Zaa yx4,buyx4,guyx4,c5,c6,go_sem]
 obtain⟨x16,yx16,h0⟩:=bs h0
 refine zc0 (Zd3 k _ _ _ _ yx16) ?_ (by first|rfl|(simp[AV.refsL,AV.refs,AV.scal,AV.leaf];done)|simp[AV.refsL,AV.refs,AV.scal,AV.leaf,go_sem]) ?_
 try simp only[c1,Zaa yx4,buyx4,guyx4,c5,c6,c15,go_sem]
 try simp only[c1,Zaa yx4,buyx4,guyx4,c5,c6,c15,go_sem]
 refine Zab h0 ?_ ?_<;>intro c17 h0
 have c17:=ZaY c17
 try simp only[c17,c1,Zaa yx4,buyx4,guyx4,c5,c6,c15,go_sem]
 obtain rfl:=oi h0
 refine Zad rfl ?_
 try simp only[F154.rs,c1,Zaa yx4,buyx4,guyx4,c5,c6,c15,c17,go_sem]
 have c17:=ZaX c17
 try simp only[c17,c1,Zaa yx4,buyx4,guyx4,c5,c6,c15,go_sem]
 obtain⟨r23,yr23,h0⟩:=bs h0
 refine Zay yr23 (Zah.h1 d0 area1 from2 x3 x4 x14 x16) (Zah.x1 x3 x4 x14) ?_ ?_ ?_
 refine Za7.go [0,1,2,8,9,10,73,74,75] [0] rfl ?_
 try simp only[Zah.h1,c1,Zaa yx4,buyx4,guyx4,c5,c6,c15,c17,go_sem]
 rintro i18 x_1 Bk1 Br1 h1 hnext1 hbrk1 hret1
 refine rS ?_
 simp only[Zah.b1]at h1
 try simp only[F154.s1,Zah.h1,c1,Zaa yx4,buyx4,guyx4,c5,c6,c15,c17,go_sem]
 refine Zab h1 ?_ ?_<;>intro c19 h1
 try simp only[c19,c1,Zaa yx4,buyx4,guyx4,c5,c6,c15,c17,go_sem]
 obtain⟨x20,yx20,h1⟩:=bs h1
 try simp only[aa yx20,c1,Zaa yx4,buyx4,guyx4,c5,c6,c15,c17,c19,go_sem]
 refine Zat Za9 Zau 1000 ?_
 try simp only[c1,Zaa yx4,buyx4,guyx4,c5,c6,c15,c17,c19,aa yx20,go_sem]
 obtain⟨x21,yx21,h1⟩:=bs h1
 refine Zbk 1000 (Zbt k _ _ _ _ yx21) ?_ (by first|rfl|(simp[AV.refsL,AV.refs,AV.scal,AV.leaf];done)|simp[AV.refsL,AV.refs,AV.scal,AV.leaf,go_sem]) ?_
 try simp only[c1,Zaa yx4,buyx4,guyx4,c5,c6,c15,c17,c19,aa yx20,go_sem]
 try simp only[c1,Zaa yx4,buyx4,guyx4,c5,c6,c15,c17,c19,aa yx20,go_sem]
 refine ZaB ⟨ZaC (by simp only[ZdN,List.reverse_cons,List.reverse_nil,List.nil_append,List.cons_append,List.map_cons,List.map_nil,List.append_nil];rfl) (by first|decide +kernel|rfl),Zag Za9 1000 _ _ ?_⟩
 try simp only[c1,Zaa yx4,buyx4,guyx4,c5,c6,c15,c17,c19,aa yx20,go_sem]
 refine Zab h1 ?_ ?_<;>intro c22 h1
 have c22:=ZaY c22
 try simp only[c22,c1,Zaa yx4,buyx4,guyx4,c5,c6,c15,c17,c19,aa yx20,go_sem]
 obtain rfl:=hret1 _ (oi h1).symm
 simp only at h0
 obtain rfl:=oi h0
 refine Zad rfl ?_
 try simp only[F154.rs,c1,Zaa yx4,buyx4,guyx4,c5,c6,c15,c17,c19,aa yx20,c22,go_sem]
 have c22:=ZaX c22
 try simp only[c22,c1,Zaa yx4,buyx4,guyx4,c5,c6,c15,c17,c19,aa yx20,go_sem]
 refine Zaf (hnext1 _ _ (oi h1).symm ?_)
 refine Za7.go [0,1,2,8,9,10,73,74,75] [0] rfl ?_
 try simp only[Zah.h1,c1,Zaa yx4,buyx4,guyx4,c5,c6,c15,c17,c19,aa yx20,c22,go_sem]
 try simp only[c19,c1,Zaa yx4,buyx4,guyx4,c5,c6,c15,c17,go_sem]
 refine Zaf (hbrk1 _ _ (oi h1).symm ?_)
 refine Za7.go [8,9,10] [0] rfl ?_
 try simp only[Zah.x1,c1,Zaa yx4,buyx4,guyx4,c5,c6,c15,c17,c19,go_sem]
 rintro _ hr_
 subst hr_
 simp only at h0
 refine rS ?_
 try simp only[Zah.x1,c1,Zaa yx4,buyx4,guyx4,c5,c6,c15,c17,go_sem]
 obtain rfl:=oi h0
 refine Zad rfl ?_
 try simp only[F154.rs,c1,Zaa yx4,buyx4,guyx4,c5,c6,c15,c17,go_sem]
 have c5:=ZaX c5
 try simp only[c5,c1,Zaa yx4,buyx4,guyx4,go_sem]
 obtain rfl:=oi h0
 refine Zad rfl ?_
 try simp only[F154.rs,c1,Zaa yx4,buyx4,guyx4,c5,go_sem]
end Go.Abs
namespace Go.Abs
open Go Go.Proofs Go.RowKit Go.Lib
def F153.s0:SC:=
 (.seq
 (.block 1
 (.seq
 (.reg [ld 20 130 1 [],
 ld 21 3 2 [],
 mv 22 6 3 [],
 mv 23 7 3 [],
 oq 24 (.call ⟨.value (.func 154),#[.tmp 20,.tmp 21,.tmp 22,.tmp 23],#[130,3,3,3]⟩) 231 [20,21,22,23],
 mv 19 24 231 [24],
 xt 25 19 0 25 [],
 xt 26 19 1 3 [],
 xt 27 19 2 3 [19],
 oq 8 (.alloc 25) 0 [],
 ⟨none,.store 25 (.tmp 8) (.tmp 25),0,none,[25]⟩,
 sg 9 26 3 [26],
 sg 10 27 3 [27]])
 (.seq
 (.seq
 (.reg [mv 28 10 3 [],
 bn 29 .eql 3 28 0 3 4 [28],
 mv 30 29 4 [29],
 og 31 (.move (.tmp 9)) 3 30 false [],
 og 32 (.move (.tmp 5)) 3 30 false [5],
 og 33 (.binOp .lss 3 (.tmp 31) (.tmp 32) 3) 4 30 false [31,32],
 oq 34 (.pick (.tmp 30) (.const (.bool true)) (.tmp 33)) 4 [30,33]])
 (.cond (.tmp 34)
 .ret
 .skip))
 (.seq
 (.reg [ld 36 46 4 [],
 ld 37 25 8 [],
 cf2 38 71 36 37 46 25 73 [36,37],
 mv 35 38 73 [38],
 xt 39 35 0 46 [],
 xt 40 35 1 28 [35],
 oq 11 (.alloc 46) 0 [],
 ⟨none,.store 46 (.tmp 11) (.tmp 39),0,none,[39]⟩,
 sg 12 40 28 [40]])
 (.seq
 (.seq
 (.reg [mv 41 12 28 [12],
 bn 42 .neq 28 41 0 28 4 [41],
 mv 43 42 4 [42],
 og 44 (.fieldAddr 46 (.tmp 11) 0) 0 43 false [],
 og 45 (.load 44 (.tmp 44)) 44 43 false [44],
 og 46 (.call ⟨.builtin .len,#[.tmp 45],#[44]⟩) 3 43 false [45],
 og 47 (.fieldAddr 46 (.tmp 4) 0) 0 43 false [],
 og 48 (.load 44 (.tmp 47)) 44 43 false [47],
 og 49 (.call ⟨.builtin .len,#[.tmp 48],#[44]⟩) 3 43 false [48],
 og 50 (.binOp .eql 3 (.tmp 46) (.tmp 49) 3) 4 43 false [46,49],
 oq 51 (.pick (.tmp 43) (.const (.bool true)) (.tmp 50)) 4 [43,50]])
 (.cond (.tmp 51)
 .ret
 .skip))
 (.seq
 (.reg [ld 52 46 11 [11],
 mv 53 9 3 [9],
 mv 54 6 3 [6],
 mv 55 10 3 [10],
 b2 56 .add 3 54 55 3 3 [54,55],
 ⟨none,.store 46 (.tmp 4) (.tmp 52),0,none,[52]⟩,
 sg 5 53 3 [53],
 sg 6 56 3 [56]])
 (.seq
 (.reg [mv 57 0 230 [],
 ld 58 25 8 [8],
 mv 59 6 3 [],
 oq 60 (.call ⟨.value (.tmp 57),#[.tmp 58,.tmp 59],#[25,3]⟩) 4 [57,58,59],
 oq 61 (.unOp .not 4 (.tmp 60)) 4 [60]])
 (.cond (.tmp 61)
 .ret
 .skip))))))))
 (.reg [mv 17 7 3 [7],
 bn 18 .add 3 17 1 3 3 [17],
 sg 7 18 3 [18]]))
def F153.c:SC:=
 (.seq
 (.reg [oq 4 (.alloc 46) 0 []])
 (.seq
 (.reg [ld 13 130 1 [],
 ld 14 3 2 [],
 oq 15 (.call ⟨.value (.func 125),#[.tmp 13,.tmp 14,.const (.int .i64 0)],#[130,3,3]⟩) 126 [13,14],
 cf1 16 126 15 126 3 [15],
 sg 5 16 3 [16],
 sn 6 1 3 []])
 (.seq
 (.reg [sn 7 0 3 []])
 (.block 0
 (.loop F153.s0)))))
theorem F153.rs:Try.f153.results.toList=[]:=rfl
def Zbx.go (k:Nat) (d:book_disk) (area:Int):Nat→Book→Int→Int→Int→Option (List (Record×Int))
 |0,_,_,_,_=>none
 |m+1,j,ep,fr,i=>(Zah k d area fr i).bind fun q=>
  bif !decide (q.2.2=0) then
   bif decide (q.2.1<ep) then some [] else
   (Zc5 k j q.1).bind fun b=>
   bif decide (b.2=0) then
    bif decide ((b.1.Records.length:Int)=(j.Records.length:Int)) then some [] else
    (Zbx.go k d area m b.1 q.2.1 (w64 (fr+q.2.2)) (w64 (i+1))).bind fun l=>some ((q.1,w64 (fr+q.2.2))::l)
   else some []
  else some []
def Zbx (k:Nat) (d:book_disk) (area:Int):Option (List (Record×Int)):=
 (ZaM k d area 0).bind fun h=>(ZaZ k h).bind fun e=>Zbx.go k d area k ⟨[]⟩ e 1 0
noncomputable def Ztw (d:book_disk) (area:Int) (l:Nat) (ep fr i:Int):List (Nat×AV):=
 [(0,.fn (.yield l) [] []),(1,.rptr 1 [[.rptr 2 [book_disk.c d] 0 0]] 0 0),(2,.rptr 1 [[.int .i64 area]] 0 0),(4,.ptr 0 0 0),(5,.int .i64 ep),(6,.int .i64 fr),(7,.int .i64 i)]
noncomputable def Zus (d:book_disk) (area:Int) (l:Nat) (C:Fra) (j:Book) (ep fr i:Int):St:=⟨Ztw d area l ep fr i,[(0,.box (Book.c j))],[C],1,Try.f153.ntmps⟩
noncomputable def itY (d:book_disk) (area:Int) (l:Nat) (C:Fra) (x:Record) (j:Book) (ep fr i:Int):St:=
 ⟨[(0,.fn (.yield l) [] []),(1,.rptr 1 [[.rptr 2 [book_disk.c d] 0 0]] 0 0),(2,.rptr 1 [[.int .i64 area]] 0 0),(4,.ptr 0 0 0),(5,.int .i64 ep),(6,.int .i64 fr),(7,.int .i64 i),
  (57,.fn (.yield l) [] []),(58,.agg (Record.c x)),(59,.int .i64 fr)],[(0,.box (Book.c j))],[C],1,Try.f153.ntmps⟩
def F153.p0:SC:=F153.c.fst

def F153.p1:SC:=F153.c.snd.fst

def F153.p2:SC:=F153.c.snd.snd.fst

def SC.body:SC→SC
 |.block _ b=>b
 |x=>x
def SC.ro:SC→List SOp
 |.reg l=>l
 |_=>[]
def F153.x:SC:=F153.s0.fst.body

def F153.x4:SC:=F153.x.fst

def F153.x5:SC:=F153.x.snd.fst

def F153.x6:SC:=F153.x.snd.snd.fst

def F153.x7:SC:=F153.x.snd.snd.snd.fst

def F153.x8:SC:=F153.x.snd.snd.snd.snd.fst

def F153.x9:List SOp:=F153.x.snd.snd.snd.snd.snd.fst.ro.take 3

def F153.r3:SC:=F153.s0.snd

theorem ZsO (k:Nat) (d:book_disk) (area:Int) (l:Nat) (C:Fra) (e:Int) (h:Vec 32 Int) (h1:ZaM k d area 0=some h) (h2:ZaZ k h=some e) (Φ:Exit→St→Prop):
  AK Try.prog Try.f153.ntmps Φ [.sc F153.p0,.sc F153.p1,.sc F153.p2,.back (fun st=>Za7 Try.f153.ntmps st (Zus d area l C ⟨[]⟩ e 1 0))]
   ⟨[(0,.fn (.yield l) [] []),(1,.rptr 1 [[.rptr 2 [book_disk.c d] 0 0]] 0 0),(2,.rptr 1 [[.int .i64 area]] 0 0)],[],[C],0,Try.f153.ntmps⟩:=by
 refine Zag Za9 1000 _ _ ?_
 simp only[F153.p0,F153.p1,F153.p2,F153.c,SC.fst,SC.snd,go_sem]
 refine ZaS Za9 1000 (Zbt k _ _ _ _ h1) ?_ (by first|rfl|simp[AV.refsL,AV.refs,AV.scal,AV.leaf]) ?_
 ·simp only[go_sem]
 simp only[go_sem]
 refine ZaS Za9 1000 (ZbV k _ _ h2) ?_ (by first|rfl|simp[AV.refsL,AV.refs,AV.scal,AV.leaf]) ?_
 ·simp only[go_sem]
 simp only[go_sem]
 refine Zaf ?_
 refine(Za7.fz 1 rfl (fun _ h=>by cases h)).trans ?_
 simp only[go_sem]
 refine Za7.go [0,1,2,4,5,6,7] [0] rfl ?_
 simp only[Ztw,go_sem]
noncomputable def itB (k:Nat) (d:book_disk) (area:Int) (l:Nat) (C:Fra) (j:Book) (ep fr i:Int) (st:St):Prop:=
 ∃ q b,Zah k d area fr i=some q∧decide (q.2.2=0)=false∧decide (q.2.1<ep)=false∧Zc5 k j q.1=some b∧decide (b.2=0)=true∧
  decide ((b.1.Records.length:Int)=(j.Records.length:Int))=false∧Za7 Try.f153.ntmps st (itY d area l C q.1 b.1 q.2.1 (w64 (fr+q.2.2)) i)
noncomputable def itE (C:Fra) (L:Prop) (e:Exit) (st:St):Prop:=e=.ret∧st.low=[C]∧L
theorem ZqH (k:Nat) (d:book_disk) (area:Int) (l:Nat) (C:Fra) (m:Nat) (j:Book) (ep fr i:Int) (xs:List (Record×Int)) (h0:Zbx.go k d area (m+1) j ep fr i=some xs):
  AK Try.prog Try.f153.ntmps (itE C (xs=[])) [.sc F153.x4,.sc F153.x5,.sc F153.x6,.sc F153.x7,.sc F153.x8,.ops F153.x9,.back (itB k d area l C j ep fr i)] (Zus d area l C j ep fr i):=by
 refine Zag Za9 1000 _ _ ?_
 simp only[Zbx.go]at h0
 simp only[Zus,Ztw,F153.x4,F153.x5,F153.x6,F153.x7,F153.x8,F153.x9,F153.x,F153.s0,SC.fst,SC.snd,SC.body,SC.ro,List.take_succ_cons,List.take_zero,go_sem]
 obtain⟨q,yq,h0⟩:=bind_some h0
 refine ZaS Za9 1000 (ZfZ k _ _ _ _ _ yq) ?_ (by first|rfl|simp[AV.refsL,AV.refs,AV.scal,AV.leaf]) ?_
 ·simp only[go_sem]
 simp only[go_sem]
 refine Zab h0 (fun c1 h0=>?_) (fun c1 h0=>?_)
 rotate_left
 ·have c1:=ZaX c1
  simp only[c1,go_sem]
  obtain rfl:=oi h0
  exact⟨rfl,rfl,rfl⟩
 have c1:=ZaY c1
 simp only[c1,go_sem]
 refine Zab h0 (fun c2 h0=>?_) (fun c2 h0=>?_)
 ·simp only[c2,c1,go_sem]
  obtain rfl:=oi h0
  exact⟨rfl,rfl,rfl⟩
 simp only[c2,c1,go_sem]
 obtain⟨b,yb,h0⟩:=bind_some h0
 refine ZaS Za9 1000 (Ze2 k _ _ _ yb) ?_ (by first|rfl|simp[AV.refsL,AV.refs,AV.scal,AV.leaf]) ?_
 ·simp only[c1,c2,go_sem]
 simp only[c1,c2,go_sem]
 refine Zab h0 (fun c3 h0=>?_) (fun c3 h0=>?_)
 rotate_left
 ·simp only[c3,c2,c1,go_sem]
  obtain rfl:=oi h0
  exact⟨rfl,rfl,rfl⟩
 simp only[c3,c2,c1,go_sem]
 refine Zab h0 (fun c4 h0=>?_) (fun c4 h0=>?_)
 ·simp only[c4,c3,c2,c1,go_sem]
  obtain rfl:=oi h0
  exact⟨rfl,rfl,rfl⟩
 simp only[c4,c3,c2,c1,go_sem]
 refine Zaf ⟨q,b,yq,c1,c2,yb,c3,c4,?_⟩
 refine Za7.go [0,1,2,4,5,6,7,57,58,59] [0] rfl ?_
 simp only[go_sem]
def Zq0:Code→Code
 |.block _ b=>b
 |.loop b=>b
 |x=>x
def ZvU:Code→Array Oper
 |.region _ o _=>o
 |_=>#[]
noncomputable def Zn9:Code:=Try.f153.body.getD .skip
noncomputable def Zp8:Code:=Zq0 (Zq0 (Za5 (Za5 (Za5 Zn9))))
noncomputable def ZjT:Code:=Zq0 (Zdt Zp8)
noncomputable def Zr8:Array Oper:=ZvU (Zdt (Za5 (Za5 (Za5 (Za5 (Za5 ZjT))))))
noncomputable def Zu7:Code:=Za5 (Za5 (Za5 (Za5 (Za5 (Za5 ZjT)))))
def F153.x9b:List SOp:=F153.x.snd.snd.snd.snd.snd.fst.ro.drop 4

def F153.z:SC:=F153.x.snd.snd.snd.snd.snd.snd

def YC (N0:Nat) (W1:World) (l:Nat) (tc:Tie) (C:List (Record×Int)→Fra) (xs:List (Record×Int)):Prop:=
 ∀ pre x,(pre++[x]) <+: xs→∀ (f:Fra) fm ts w vs,HR N0 W1 fm ts [f,C pre] w→ZaA [tc] (ts.drop 1)→VRs fm ts [.agg (Record.c x.1),.int .i64 x.2] vs→
  YieldAt FW 0 Try.prog l vs.toArray w fun e w'=>e=.returned (.bool true)∧∃ fm' ts',HR N0 W1 fm' ts' [f,C (pre++[x])] w'∧FmUp N0 fm fm'∧ZaA ts ts'∧∀ l k,tb ts l k=none→tb ts' l k=none
noncomputable def itZ (d:book_disk) (area:Int) (l:Nat) (C:Fra) (j:Book) (ep fr i:Int):St:=⟨(60,.bool true)::Ztw d area l ep fr i,[(0,.box (Book.c j))],[C],1,Try.f153.ntmps⟩
theorem ZsP (d:book_disk) (area:Int) (l:Nat) (C:Fra) (j:Book) (ep fr i:Int) (Φ:Exit→St→Prop):
  AK Try.prog Try.f153.ntmps Φ [.ops F153.x9b,.sc F153.z,.blk 1,.sc F153.r3,.back (fun st=>Za7 Try.f153.ntmps st (Zus d area l C j ep fr (w64 (i+1))))] (itZ d area l C j ep fr i):=by
 refine Zag Za9 1000 _ _ ?_
 simp only[itZ,Ztw,F153.x9b,F153.z,F153.r3,F153.x,F153.s0,SC.fst,SC.snd,SC.body,SC.ro,List.drop_succ_cons,List.drop_zero,go_sem]
 refine Zaf ?_
 refine Za7.go [0,1,2,4,5,6,7] [0] rfl ?_
 simp only[Ztw,go_sem]
theorem Zip {α:Type} (b:List (Nat×α)) {t:Nat}{x:α}:∀ {a:List (Nat×α)},look a t=some x→look (a++b) t=some x
 |[],h=>by simp[look]at h
 |(k,y)::a,h=>by
  simp only[List.cons_append,look]at h ⊢
  split at h
  ·rename_i hk;rw[if_pos hk];exact h
  ·rename_i hk;rw[if_neg hk];exact Zip b h
theorem Zvq (k:Nat) (d:book_disk) (area:Int) (xs:List (Record×Int)) (hxs:Zbx k d area=some xs) {N0:Nat}{W1:World}{l:Nat}{tc:Tie}{C:List (Record×Int)→Fra} (hY:YC N0 W1 l tc C xs) {fm:FM}{w:World}{vd va:Value}
  (hr:HR N0 W1 fm [tc] [C []] w) (hd:VR fm [] (.rptr 1 [[.rptr 2 [book_disk.c d] 0 0]] 0 0) vd) (ha:VR fm [] (.rptr 1 [[.int .i64 area]] 0 0) va):
  Calls Try.prog 153 #[.func (.yield l) #[] #[],vd,va] w fun e w'=>(∃ v,e=.returned v)∧∃ fm' ts',HR N0 W1 fm' ts' [C xs] w'∧FmUp N0 fm fm'∧ZaA [tc] ts'∧∀ l k,tb [tc] l k=none→tb ts' l k=none:=by
 obtain⟨h,yh,hxs⟩:=bind_some hxs
 obtain⟨e,ye,hxs⟩:=bind_some hxs
 have hnt:Try.f153.ntmps=62:=by rfl
 refine calls_of_wp (fn:=Try.f153) (c:=Zn9) (by rfl) (by rfl) ((Zd8 []).1 ?_)
 have hyv:VR fm (Zcc::[tc]) (.fn (.yield l) [] []) (.func (.yield l) #[] #[]):=.fn _ _ _ _ _ rfl rfl (by intro i x v h;simp at h) (by intro i x v h;simp at h)
 have hS:=SR.enter hr (args:=[.fn (.yield l) [] [],.rptr 1 [[.rptr 2 [book_disk.c d] 0 0]] 0 0,.rptr 1 [[.int .i64 area]] 0 0]) (vs:=[.func (.yield l) #[] #[],vd,va]) (n:=Try.f153.ntmps) (by
  refine⟨rfl,?_⟩
  intro i x v hx hv
  match i,hx,hv with
  |0,hx,hv=>cases hx;cases hv;exact hyv
  |1,hx,hv=>cases hx;cases hv;exact hd.mono (Zdq.refl _) (ZaA.nil _)
  |2,hx,hv=>cases hx;cases hv;exact ha.mono (Zdq.refl _) (ZaA.nil _)
  |i+3,hx,hv=>simp at hx) (by rw[hnt];simp)
 have e153:Zn9=.seq (Zdt Zn9) (.seq (Zdt (Za5 Zn9)) (.seq (Zdt (Za5 (Za5 Zn9))) (.block 0 (.loop Zp8)))):=by rfl
 refine(show K Try.prog _ [.code Zn9] .normal _ w from ?_)
 rw[e153]
 refine ZjY ?_
 refine ZcO (t:=[.code (Zdt (Za5 Zn9)),.code (Zdt (Za5 (Za5 Zn9))),.code (.block 0 (.loop Zp8))]) (fun e a w h=>ZdP _ _ _ (ZcO (fun e a w h=>ZdP _ _ _ h) _ _ _ h)) _ _ _ ?_
 refine AK.segs (cs:=[.code (Zdt Zn9),.code (Zdt (Za5 Zn9)),.code (Zdt (Za5 (Za5 Zn9)))]) (t:=[.code (.block 0 (.loop Zp8))]) (Φ:=fun _ _=>False) (todo:=[.sc F153.p0,.sc F153.p1,.sc F153.p2]) hS (ZsO k d area l (C []) e h yh ye _)
  (fun R hR=>.sc (by rfl) (by rfl) (.sc (by rfl) (by rfl) (.sc (by rfl) (by rfl) (.back hR .nil)))) ?_ (fun _ _ _ _ _ _ h=>h.elim)
 rintro st0 a0 w0 fm0 ts0 hw0 hS0 hL0
 obtain⟨fm1,ts1,hS1,hL1⟩:=hw0 _ _ _ _ _ _ hS0
 refine Zjg ?_
 refine Zrq (I:=fun m a w=>∃ pre ys j ep fr i fm' ts',Zbx.go k d area m j ep fr i=some ys∧pre++ys=xs∧SR N0 W1 Try.f153.ntmps (Zus d area l (C pre) j ep fr i) a w fm' ts'∧Later N0 fm (Zcc::[tc]) fm' ts') k
  ⟨[],xs,_,_,_,_,fm1,ts1,hxs,rfl,hS1,hL0.trans hL1⟩ ?_
 rintro m a w2 ⟨pre,ys,j,ep,fr,i,fm2,ts2,hgo,hpre,hS2,hL2⟩
 cases m with
 |zero=>simp only[Zbx.go]at hgo;cases hgo
 |succ m=>
  have eB:Zp8=.seq (.block 1 ZjT) (Za5 Zp8):=by rfl
  have eX:ZjT=.seq (Zdt ZjT) (.seq (Zdt (Za5 ZjT)) (.seq (Zdt (Za5 (Za5 ZjT))) (.seq (Zdt (Za5 (Za5 (Za5 ZjT)))) (.seq (Zdt (Za5 (Za5 (Za5 (Za5 ZjT))))) (.seq (.region 9 Zr8 false) Zu7))))):=by rfl
  rw[eB]
  refine ZjY ?_
  refine Zjg ?_
  rw[eX]
  refine ZjY ?_
  refine ZcO (t:=[.code (Zdt (Za5 ZjT)),.code (Zdt (Za5 (Za5 ZjT))),.code (Zdt (Za5 (Za5 (Za5 ZjT)))),.code (Zdt (Za5 (Za5 (Za5 (Za5 ZjT))))),.ops Zr8 [0,1,2],.ops Zr8 [3,4],.code Zu7,.blk 1,.code (Za5 Zp8),.back _,.blk 0])
   (fun e a w h=>ZdP _ _ _ (ZcO (fun e a w h=>ZdP _ _ _ (ZcO (fun e a w h=>ZdP _ _ _ (ZcO (fun e a w h=>ZdP _ _ _ (ZcO (fun e a w h=>ZdP _ _ _ (Zt9 _ _ _ (Zt8 (is:=[0,1,2]) (js:=[3,4]) _ _ _ h))) _ _ _ h)) _ _ _ h)) _ _ _ h)) _ _ _ h)) _ _ _ ?_
  refine AK.segs (cs:=[.code (Zdt ZjT),.code (Zdt (Za5 ZjT)),.code (Zdt (Za5 (Za5 ZjT))),.code (Zdt (Za5 (Za5 (Za5 ZjT)))),.code (Zdt (Za5 (Za5 (Za5 (Za5 ZjT))))),.ops Zr8 [0,1,2]]) (t:=[.ops Zr8 [3,4],.code Zu7,.blk 1,.code (Za5 Zp8),.back _,.blk 0])
   (todo:=[.sc F153.x4,.sc F153.x5,.sc F153.x6,.sc F153.x7,.sc F153.x8,.ops F153.x9]) hS2 (ZqH k d area l (C pre) m j ep fr i ys hgo)
   (fun R hR=>.sc (by rfl) (by rfl) (.sc (by rfl) (by rfl) (.sc (by rfl) (by rfl) (.sc (by rfl) (by rfl) (.sc (by rfl) (by rfl) (.ops (by rfl) (by decide +kernel) (by decide +kernel) (.back hR .nil))))))) ?_ ?_
  ·
   rintro st3 a3 w3 fm3 ts3 ⟨q,b,yq,c1,c2,yb,c3,c4,hw3⟩ hS3 hL3
   obtain⟨fm4,ts4,hS4,hL4⟩:=hw3 _ _ _ _ _ _ hS3
   simp only[Zbx.go]at hgo
   rw[yq]at hgo
   simp only[Option.bind_some,c1,Bool.not_false,cond_true,c2,cond_false,yb,c3,c4]at hgo
   obtain⟨ys',yys,hgo⟩:=bind_some hgo
   obtain rfl:=oi hgo
   obtain⟨v57,h57,r57⟩:=hS4.tm 57 (.fn (.yield l) [] []) rfl
   obtain⟨v58,h58,r58⟩:=hS4.tm 58 (.agg (Record.c q.1)) rfl
   obtain⟨v59,h59,r59⟩:=hS4.tm 59 (.int .i64 (w64 (fr+q.2.2))) rfl
   obtain rfl:v57=.func (.yield l) #[] #[]:=by
    cases r57 with
    |fn f first cap vf vc h1 h2 h3 h4=>
     have e1:vf=#[]:=Array.size_eq_zero_iff.1 (by simpa using h1.symm)
     have e2:vc=#[]:=Array.size_eq_zero_iff.1 (by simpa using h2.symm)
     rw[e1,e2]
   obtain⟨fn,tmps,assign,body,hrun,hR⟩:=hY pre (q.1,w64 (fr+q.2.2)) ⟨ys',by rw[←hpre];simp⟩ _ fm4 ts4 w3 [v58,v59] hS4.hr (by have:=((hL2.trans hL3).trans hL4).tle;simpa using this) ⟨rfl,by
    intro i x v hx hv
    match i,hx,hv with
    |0,hx,hv=>cases hx;cases hv;exact r58
    |1,hx,hv=>cases hx;cases hv;exact r59
    |i+2,hx,hv=>simp at hx⟩
   obtain⟨o3,e3,g3,d3⟩:∃ o,Zr8[3]?=some o∧o.guard=none∧o.op=.call ⟨.value (.tmp 57),#[.tmp 58,.tmp 59],#[25,3]⟩∧o.dst=some 60:=⟨_,rfl,rfl,rfl,rfl⟩
   refine ZuG e3 g3 ?_
   have v57:a3.eval (.tmp 57)=.func (.yield l) #[] #[]:=by simp[Act.eval,Array.getD_eq_getD_getElem?,h57]
   have w58:a3.eval (.tmp 58)=v58:=by simp[Act.eval,Array.getD_eq_getD_getElem?,h58]
   have w59:a3.eval (.tmp 59)=v59:=by simp[Act.eval,Array.getD_eq_getD_getElem?,h59]
   refine Znw (w':=w3) (l:=l) (fn:=fn) (tmps:=tmps) (assign:=assign) (body:=body) (fun c h=>by rw[d3.1]at h;cases h) ?_ ?_
   ·have hres:(resolve a3.eval ⟨.value (.tmp 57),#[.tmp 58,.tmp 59],#[25,3]⟩ o3.type).run Try.prog w3=.ok { target:=.fn (.yield l) #[],args:=#[v58,v59] } w3:=by
     simp[resolve,v57,w58,w59,Deferred.ofValue]
    simp only[execOp,d3.1,Sem.run_bind,hres,Result.andThen_ok]
    simpa [invoke] using hrun
   refine hR.mono ?_
   rintro e w4 ⟨rfl,fm5,ts5,hr5,hup5,hts5,hno5⟩
   rw[d3.2]
   have hS5:SR N0 W1 Try.f153.ntmps (itZ d area l (C (pre++[(q.1,w64 (fr+q.2.2))])) b.1 q.2.1 (w64 (fr+q.2.2)) i) (a3.put (some 60) (.bool true)) w4 fm5 ts5:=by
    refine⟨hr5,?_,fun k hk=>hno5 0 k (hS4.nx k hk),by rw[ZgK];exact hS4.size,by rw[Zhi];exact hS4.dfr⟩
    intro t x hx
    unfold itZ at hx
    simp only[look]at hx
    split at hx
    ·subst_vars
     obtain rfl:=oi hx
     refine⟨.bool true,?_,.bool true⟩
     simp only[Act.put]
     rw[Array.getElem?_setIfInBounds,if_pos rfl,if_pos (by rw[hS4.size,hnt];decide)]
    ·rename_i hne
     have hx':look (itY d area l (C pre) q.1 b.1 q.2.1 (w64 (fr+q.2.2)) i).tm t=some x:=by
      exact Zip [(57,.fn (.yield l) [] []),(58,.agg (Record.c q.1)),(59,.int .i64 (w64 (fr+q.2.2)))] hx
     obtain⟨u,h1,h2⟩:=hS4.tm t x hx'
     exact⟨u,by simp only[Act.put];rw[Array.getElem?_setIfInBounds,if_neg hne];exact h1,h2.mono hup5.le hts5⟩
   refine AK.segs (cs:=[.ops Zr8 [4],.code Zu7,.blk 1,.code (Za5 Zp8)]) (t:=[.back _,.blk 0]) (Φ:=fun _ _=>False) (todo:=[.ops F153.x9b,.sc F153.z,.blk 1,.sc F153.r3]) hS5 (ZsP d area l _ _ _ _ i _)
    (fun R hR=>.ops (by rfl) (by decide +kernel) (by decide +kernel) (.sc (by rfl) (by rfl) (.blk (.sc (by rfl) (by rfl) (.back hR .nil))))) ?_ (fun _ _ _ _ _ _ h=>h.elim)
   rintro st6 a6 w6 fm6 ts6 hw6 hS6 hL6
   obtain⟨fm7,ts7,hS7,hL7⟩:=hw6 _ _ _ _ _ _ hS6
   have hL5:Later N0 fm4 ts4 fm5 ts5:=⟨hup5,hts5.drop 1,fun l k h=>by rw[Zbg]at h ⊢;exact hno5 _ _ h⟩
   exact⟨m,Nat.lt_succ_self m,pre++[(q.1,w64 (fr+q.2.2))],ys',b.1,q.2.1,_,_,fm7,ts7,yys,by rw[←hpre];simp,hS7,((((hL2.trans hL3).trans hL4).trans hL5).trans hL6).trans hL7⟩
  ·
   rintro e st3 a3 w3 fm3 ts3 ⟨rfl,hlow,hys⟩ hS3 hL3
   refine Zdg ?_ _
   obtain⟨v,h1,h2⟩:=Zc9 (P:=Try.prog) (fn:=Try.f153) (xs:=[]) Za9 hS3 (by rw[F153.rs];rfl)
   have hL:=hL2.trans hL3
   have hp:=hS3.hr
   rw[hlow]at hp
   cases ts3 with
   |nil=>have:=hp.len;simp at this
   |cons t rest=>
    have hp':=hp.pop
    rw[hys,List.append_nil]at hpre
    subst hpre
    exact⟨hS3.dfr,v,h1,⟨v,rfl⟩,fm3,rest,hp',hL.fle,by simpa using hL.tle,by simpa using hL.no⟩
def F101.c:SC:=
 (.seq
 (.reg [oq 4 (.alloc 126) 0 []])
 (.seq
 (.reg [mv 5 0 3 [0],
 mv 6 1 3 [1],
 oq 7 (.call ⟨.value (.func 115),#[.const (.int .u8 104),.tmp 5,.tmp 6],#[5,3,3]⟩) 126 [5,6],
 ⟨none,.store 126 (.tmp 4) (.tmp 7),0,none,[7]⟩])
 .ret))
theorem F101.rs:Try.f101.results.toList=[.cell 4 126]:=rfl
def ZdD (k:Nat) (epoch0:Int) (count1:Int):Option ((Vec 32 Int)):=
 (Zem k 104 epoch0 count1).bind fun x1=>
 some x1
theorem Zfa (k:Nat) (epoch0:Int) (count1:Int) (r:(Vec 32 Int)) (h0:ZdD k epoch0 count1=some r):Za0 Try.prog 101 [.int .i64 epoch0,.int .i64 count1] (fun y=>y=.agg ((Vec.c (n:=32) eU8) r)):=by
 refine PB (fn:=Try.f101) (sc:=F101.c) ?_
 refine rS ?_
 simp only[ZdD]at h0
 try simp only[F101.c,go_sem]
 obtain⟨x1,yx1,h0⟩:=bs h0
 refine zc0 (Zg2 k _ _ _ _ yx1) ?_ (by first|rfl|(simp[AV.refsL,AV.refs,AV.scal,AV.leaf];done)|simp[AV.refsL,AV.refs,AV.scal,AV.leaf,go_sem]) ?_
 try simp only[go_sem]
 try simp only[go_sem]
 obtain rfl:=oi h0
 refine Zad rfl ?_
 try simp only[F101.rs,go_sem]
end Go.Abs
