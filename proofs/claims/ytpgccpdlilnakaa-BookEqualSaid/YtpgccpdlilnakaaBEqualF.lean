/-
  Part 6 of the proof: a machine over named blocks, what each function computes, and what follows. No condition.
-/
import Derived.Test.YtpgccpdlilnakaaBEqualE
set_option linter.unusedVariables false
set_option linter.unusedSimpArgs false
set_option linter.all false
set_option maxRecDepth 100000
set_option maxHeartbeats 8000000
namespace Go.Abs
open Go.Proofs
def F13.s2:SC:=
 (.seq
 (.seq
 (.reg [mv 136 25 3 [],
 mv 137 18 109 [],
 ln 138 137 109 3 [137],
 b2 139 .lss 3 136 138 3 4 [136,138]])
 (.cond (.tmp 139)
 .skip
 (.exit 4)))
 (.seq
 (.block 5
 (.seq
 (.dreg [ld 143 107 10 [],
 mv 144 18 109 [],
 mv 145 25 3 [],
 ia 146 109 144 145 [],
 ld 147 116 146 [],
 cf2 148 64 143 147 107 116 119 [],
 mv 142 148 119 [],
 xt 149 142 0 107 [],
 xt 150 142 1 109 [],
 xt 151 142 2 28 [],
 oq 26 (.alloc 107) 0 [],
 ⟨none,.store 107 (.tmp 26) (.tmp 149),0,none,[]⟩,
 sg 27 150 109 [],
 sg 28 151 28 []] [[],[],[],[1,2],[1,2,3],[0,1,2,3,4],[0,1,2,3,4,5],[0,1,2,3,4,5,6],[0,1,2,3,4,5,6],[0,1,2,3,4,5,6],[],[10,0,1,2,3,4,5,6,7],[0,1,2,3,4,5,6,8,10,7,11],[0,1,2,3,4,5,6,9,8,10,7,11,12]] [27,142,143,144,145,146,147,148,149,150,151])
 (.seq
 (.seq
 (.reg [mv 152 28 28 [28],
 bn 153 .neq 28 152 0 28 4 [152]])
 (.cond (.tmp 153)
 (.seq
 (.reg [sb 4 false 4 []])
 .ret)
 .skip))
 (.reg [ld 154 107 26 [26],
 ⟨none,.store 107 (.tmp 10) (.tmp 154),0,none,[154]⟩]))))
 (.reg [mv 140 25 3 [25],
 bn 141 .add 3 140 1 3 3 [140],
 sg 25 141 3 [141]])))
def F13.s1:SC:=
 (.seq
 (.seq
 (.reg [mv 91 20 3 [],
 mv 92 18 109 [],
 ln 93 92 109 3 [92],
 b2 94 .lss 3 91 93 3 4 [91,93]])
 (.cond (.tmp 94)
 .skip
 (.exit 2)))
 (.seq
 (.block 3
 (.seq
 (.dreg [ld 98 107 9 [],
 mv 99 18 109 [],
 mv 100 20 3 [],
 ia 101 109 99 100 [],
 ld 102 116 101 [],
 cf2 103 64 98 102 107 116 119 [],
 mv 97 103 119 [],
 xt 104 97 0 107 [],
 xt 105 97 1 109 [],
 xt 106 97 2 28 [],
 oq 21 (.alloc 107) 0 [],
 ⟨none,.store 107 (.tmp 21) (.tmp 104),0,none,[]⟩,
 sg 22 105 109 [],
 sg 23 106 28 []] [[],[],[],[1,2],[1,2,3],[0,1,2,3,4],[0,1,2,3,4,5],[0,1,2,3,4,5,6],[0,1,2,3,4,5,6],[0,1,2,3,4,5,6],[],[10,0,1,2,3,4,5,6,7],[0,1,2,3,4,5,6,8,10,7,11],[0,1,2,3,4,5,6,9,8,10,7,11,12]] [22,97,98,99,100,101,102,103,104,105,106])
 (.seq
 (.seq
 (.reg [mv 107 23 28 [23],
 bn 108 .neq 28 107 0 28 4 [107]])
 (.cond (.tmp 108)
 (.seq
 (.reg [sb 4 false 4 []])
 .ret)
 .skip))
 (.reg [ld 109 107 21 [21],
 ⟨none,.store 107 (.tmp 9) (.tmp 109),0,none,[109]⟩]))))
 (.reg [mv 95 20 3 [20],
 bn 96 .add 3 95 1 3 3 [95],
 sg 20 96 3 [96]])))
def F13.s0:SC:=
 (.seq
 (.seq
 (.reg [mv 64 13 3 [],
 bn 65 .lss 3 64 30 3 4 [64]])
 (.cond (.tmp 65)
 .skip
 (.exit 0)))
 (.seq
 (.block 1
 (.seq
 (.reg [ld 69 107 9 [],
 fa 70 107 10 0 [],
 ld 71 3 70 [70],
 cf2 72 63 69 71 107 3 117 [69,71],
 mv 68 72 117 [72],
 xt 73 68 0 107 [],
 xt 74 68 1 116 [],
 xt 75 68 2 28 [68],
 oq 14 (.alloc 107) 0 [],
 oq 15 (.alloc 116) 0 [],
 ⟨none,.store 107 (.tmp 14) (.tmp 73),0,none,[73]⟩,
 ⟨none,.store 116 (.tmp 15) (.tmp 74),0,none,[74]⟩,
 sg 16 75 28 [75]])
 (.seq
 (.reg [ld 77 107 10 [],
 ld 78 116 15 [],
 cf2 79 64 77 78 107 116 119 [77,78],
 mv 76 79 119 [79],
 xt 80 76 0 107 [],
 xt 81 76 1 109 [],
 xt 82 76 2 28 [76],
 oq 17 (.alloc 107) 0 [],
 ⟨none,.store 107 (.tmp 17) (.tmp 80),0,none,[80]⟩,
 sg 18 81 109 [81],
 sg 19 82 28 [82]])
 (.seq
 (.seq
 (.reg [mv 83 16 28 [16],
 bn 84 .neq 28 83 0 28 4 [83],
 mv 85 84 4 [84],
 og 86 (.move (.tmp 19)) 28 85 false [19],
 og 87 (.binOp .neq 28 (.tmp 86) (.const (.int .i64 0)) 28) 4 85 false [86],
 oq 88 (.pick (.tmp 85) (.const (.bool true)) (.tmp 87)) 4 [85,87]])
 (.cond (.tmp 88)
 (.seq
 (.reg [sb 4 false 4 []])
 .ret)
 .skip))
 (.seq
 (.reg [ld 89 107 14 [],
 ⟨none,.store 107 (.tmp 9) (.tmp 89),0,none,[89]⟩])
 (.seq
 (.reg [ld 90 107 17 [],
 ⟨none,.store 107 (.tmp 10) (.tmp 90),0,none,[90]⟩])
 (.seq
 (.seq
 (.reg [sn 20 0 3 []])
 (.block 2
 (.loop F13.s1)))
 (.seq
 (.reg [fa 110 116 15 3 [],
 ld 111 44 110 [110],
 ln 112 111 44 3 [111],
 sg 24 112 3 [112]])
 (.seq
 (.reg [ld 114 107 10 [],
 fa 115 107 9 0 [],
 ld 116 3 115 [115],
 cf2 117 63 114 116 107 3 117 [114,116],
 mv 113 117 117 [117],
 xt 118 113 0 107 [],
 xt 119 113 1 116 [],
 xt 120 113 2 28 [113],
 ⟨none,.store 107 (.tmp 14) (.tmp 118),0,none,[118]⟩,
 ⟨none,.store 116 (.tmp 15) (.tmp 119),0,none,[119]⟩,
 sg 16 120 28 [120]])
 (.seq
 (.reg [ld 122 107 9 [],
 ld 123 116 15 [],
 cf2 124 64 122 123 107 116 119 [122,123],
 mv 121 124 119 [124],
 xt 125 121 0 107 [],
 xt 126 121 1 109 [],
 xt 127 121 2 28 [121],
 ⟨none,.store 107 (.tmp 17) (.tmp 125),0,none,[125]⟩,
 sg 18 126 109 [126],
 sg 19 127 28 [127]])
 (.seq
 (.seq
 (.reg [mv 128 16 28 [16],
 bn 129 .neq 28 128 0 28 4 [128],
 mv 130 129 4 [129],
 og 131 (.move (.tmp 19)) 28 130 false [19],
 og 132 (.binOp .neq 28 (.tmp 131) (.const (.int .i64 0)) 28) 4 130 false [131],
 oq 133 (.pick (.tmp 130) (.const (.bool true)) (.tmp 132)) 4 [130,132]])
 (.cond (.tmp 133)
 (.seq
 (.reg [sb 4 false 4 []])
 .ret)
 .skip))
 (.seq
 (.reg [ld 134 107 14 [14],
 ⟨none,.store 107 (.tmp 10) (.tmp 134),0,none,[134]⟩])
 (.seq
 (.reg [ld 135 107 17 [17],
 ⟨none,.store 107 (.tmp 9) (.tmp 135),0,none,[135]⟩])
 (.seq
 (.seq
 (.reg [sn 25 0 3 []])
 (.block 4
 (.loop F13.s2)))
 (.seq
 (.reg [mv 155 24 3 [24],
 bn 156 .eql 3 155 0 3 4 [155],
 mv 157 156 4 [156],
 og 158 (.fieldAddr 116 (.tmp 15) 3) 0 157 true [15],
 og 159 (.load 44 (.tmp 158)) 44 157 true [158],
 og 160 (.call ⟨.builtin .len,#[.tmp 159],#[44]⟩) 3 157 true [159],
 og 161 (.binOp .eql 3 (.tmp 160) (.const (.int .i64 0)) 3) 4 157 true [160],
 oq 162 (.pick (.tmp 157) (.tmp 161) (.const (.bool false))) 4 [157,161]])
 (.cond (.tmp 162)
 (.seq
 (.reg [fa 163 107 9 2 [9],
 fa 164 48 163 0 [163],
 ld 165 46 164 [164],
 ld 166 46 11 [],
 cf2 167 42 165 166 46 46 4 [165,166],
 mv 168 167 4 [167],
 og 169 (.fieldAddr 107 (.tmp 10) 2) 0 168 true [10],
 og 170 (.fieldAddr 48 (.tmp 169) 0) 0 168 true [169],
 og 171 (.load 46 (.tmp 170)) 46 168 true [170],
 og 172 (.load 46 (.tmp 11)) 46 168 true [11],
 og 173 (.call ⟨.value (.func 42),#[.tmp 171,.tmp 172],#[46,46]⟩) 4 168 true [171,172],
 oq 174 (.pick (.tmp 168) (.tmp 173) (.const (.bool false))) 4 [168,173],
 sg 4 174 4 [174]])
 .ret)
 .skip))))))))))))))))
 (.reg [mv 66 13 3 [13],
 bn 67 .add 3 66 1 3 3 [66],
 sg 13 67 3 [67]])))
def F13.c:SC:=
 (.seq
 (.reg [sb 4 false 4 [4]])
 (.seq
 (.reg [oq 29 (.call ⟨.value (.func 14),#[],#[]⟩) 4 [],
 sg 5 29 4 [29]])
 (.seq
 (.reg [mv 31 0 104 [0],
 cf1 32 61 31 104 110 [31],
 mv 30 32 110 [32],
 xt 33 30 0 108 [],
 xt 34 30 1 109 [],
 xt 35 30 2 4 [30],
 oq 6 (.alloc 108) 0 [],
 ⟨none,.store 108 (.tmp 6) (.tmp 33),0,none,[33]⟩,
 sg 7 34 109 [7,34],
 sg 8 35 4 [35]])
 (.seq
 (.seq
 (.reg [mv 36 5 4 [5],
 oq 37 (.unOp .not 4 (.tmp 36)) 4 [36],
 mv 38 37 4 [37],
 og 39 (.move (.tmp 8)) 4 38 false [8],
 og 40 (.unOp .not 4 (.tmp 39)) 4 38 false [39],
 oq 41 (.pick (.tmp 38) (.const (.bool true)) (.tmp 40)) 4 [38,40]])
 (.cond (.tmp 41)
 (.seq
 (.reg [sb 4 false 4 []])
 .ret)
 .skip))
 (.seq
 (.reg [mv 42 1 3 [],
 oq 43 (.call ⟨.value (.func 39),#[.tmp 42,.const (.int .i64 3)],#[3,3]⟩) 3 [42],
 ia 44 108 6 43 [43],
 ld 45 107 44 [44],
 oq 9 (.alloc 107) 0 [],
 ⟨none,.store 107 (.tmp 9) (.tmp 45),0,none,[45]⟩])
 (.seq
 (.reg [mv 46 1 3 [1],
 oq 47 (.call ⟨.value (.func 39),#[.tmp 46,.const (.int .i64 3)],#[3,3]⟩) 3 [46],
 bn 48 .add 3 47 1 3 3 [47],
 bn 49 .rem 3 48 3 3 3 [48],
 ia 50 108 6 49 [6,49],
 ld 51 107 50 [50],
 oq 10 (.alloc 107) 0 [],
 ⟨none,.store 107 (.tmp 10) (.tmp 51),0,none,[51]⟩])
 (.seq
 (.reg [fa 53 107 9 2 [],
 fa 54 48 53 0 [53],
 ld 55 46 54 [54],
 fa 56 107 10 2 [],
 fa 57 48 56 0 [56],
 ld 58 46 57 [57],
 cf2 59 40 55 58 46 46 73 [55,58],
 mv 52 59 73 [59],
 xt 60 52 0 46 [],
 xt 61 52 1 28 [52],
 oq 11 (.alloc 46) 0 [],
 ⟨none,.store 46 (.tmp 11) (.tmp 60),0,none,[60]⟩,
 sg 12 61 28 [61]])
 (.seq
 (.seq
 (.reg [mv 62 12 28 [12],
 bn 63 .neq 28 62 0 28 4 [62]])
 (.cond (.tmp 63)
 (.seq
 (.reg [sb 4 false 4 []])
 .ret)
 .skip))
 (.seq
 (.seq
 (.reg [sn 13 0 3 []])
 (.block 0
 (.loop F13.s0)))
 (.seq
 (.reg [sb 4 false 4 []])
 .ret))))))))))
theorem F13.rs:Try.f13.results.toList=[.tmp 4]:=rfl
def Zah.b1 (k:Nat) (x16:House×(List Slip)×Int):(House×Int)→Option (Stp (House×Int) (House) (Bool)):=fun(s:House×Int)=>match s with
 |(s19,i20)=>
   bif decide (i20<(x16.2.1.length:Int)) then
    (at? x16.2.1 i20).bind fun x23=>
    (Zal k s19 x23).bind fun x24=>
    bif (!decide (x24.2.2=(0:Int))) then
     some (.ret false)
    else
     some (.next (x24.1,w64 (i20+1)))
   else
    some (.brk s19)
def Zah.b2 (k:Nat) (x28:House×(List Slip)×Int):(House×Int)→Option (Stp (House×Int) (House) (Bool)):=fun(s:House×Int)=>match s with
 |(s31,i32)=>
   bif decide (i32<(x28.2.1.length:Int)) then
    (at? x28.2.1 i32).bind fun x35=>
    (Zal k s31 x35).bind fun x36=>
    bif (!decide (x36.2.2=(0:Int))) then
     some (.ret false)
    else
     some (.next (x36.1,w64 (i32+1)))
   else
    some (.brk s31)
def Zah.b0 (k:Nat) (x9:Book×Int):(House×House×Int)→Option (Stp (House×House×Int) (Unit) (Bool)):=fun(s:House×House×Int)=>match s with
 |(s11,s12,i13)=>
   bif decide (i13<(30:Int)) then
    (Za6 k s11 s12.Me).bind fun x15=>
    (Zal k s12 x15.2.1).bind fun x16=>
    bif decide (x15.2.2=(0:Int)) then
     bif (!decide (x16.2.2=(0:Int))) then
      some (.ret false)
     else
      (whl (Zah.b1 k x16) k (x15.1,0)).bind fun r26=>match r26 with
      |.next _=>none
      |.ret v_=>some (.ret v_)
      |.brk s21=>
       (Za6 k x16.1 s21.Me).bind fun x27=>
       (Zal k s21 x27.2.1).bind fun x28=>
       bif decide (x27.2.2=(0:Int)) then
        bif (!decide (x28.2.2=(0:Int))) then
         some (.ret false)
        else
         (whl (Zah.b2 k x28) k (x27.1,0)).bind fun r38=>match r38 with
         |.next _=>none
         |.ret v_=>some (.ret v_)
         |.brk s33=>
          bif decide ((x15.2.1.Records.length:Int)=(0:Int)) then
           bif decide ((x27.2.1.Records.length:Int)=(0:Int)) then
            (ZbT k x28.1.Ledger.Book x9.1).bind fun x41=>
            bif x41 then
             (ZbT k s33.Ledger.Book x9.1).bind fun x43=>
             some (.ret x43)
            else
             some (.ret false)
           else
            some (.next (x28.1,s33,w64 (i13+1)))
          else
           some (.next (x28.1,s33,w64 (i13+1)))
       else
        some (.ret false)
    else
     some (.ret false)
   else
    some (.brk ())
noncomputable def Zah.h1 (x9:Book×Int) (i13:Int) (x15:House×Slip×Int) (x16:House×(List Slip)×Int):(House×Int)→St:=fun(s:House×Int)=>match s with
 |(s19,i20)=>⟨[(9,.ptr 0 0 0),(10,.ptr 0 1 0),(11,.ptr 0 2 0),(13,.int .i64 i13),(14,.ptr 0 3 0),(15,.ptr 0 4 0),(17,.ptr 0 5 0),(18,.sl 9 (List.map Slip.c x16.2.1)),(20,.int .i64 i20)],[(0,.box ([.int .i64 s19.Me,.sl 64 (List.map (Vec.c (n:=2) (Vec.c (n:=32) eU8)) s19.Disk.Pages),.sl 65 (List.map Write.c s19.Disk.Wait),.sl 8 (List.map Record.c s19.Ledger.Book.Records),.int .i64 s19.Ledger.Area,.int .i64 s19.Ledger.Epoch,.int .i64 s19.Ledger.Used]++(Vec.c (n:=6) (Vec.c (n:=6) eI) s19.Known))),(1,.box ([.int .i64 x16.1.Me,.sl 64 (List.map (Vec.c (n:=2) (Vec.c (n:=32) eU8)) x16.1.Disk.Pages),.sl 65 (List.map Write.c x16.1.Disk.Wait),.sl 8 (List.map Record.c x16.1.Ledger.Book.Records),.int .i64 x16.1.Ledger.Area,.int .i64 x16.1.Ledger.Epoch,.int .i64 x16.1.Ledger.Used]++(Vec.c (n:=6) (Vec.c (n:=6) eI) x16.1.Known))),(2,.box ([.sl 8 (List.map Record.c x9.1.Records)])),(3,.box ([.int .i64 x15.1.Me,.sl 64 (List.map (Vec.c (n:=2) (Vec.c (n:=32) eU8)) x15.1.Disk.Pages),.sl 65 (List.map Write.c x15.1.Disk.Wait),.sl 8 (List.map Record.c x15.1.Ledger.Book.Records),.int .i64 x15.1.Ledger.Area,.int .i64 x15.1.Ledger.Epoch,.int .i64 x15.1.Ledger.Used]++(Vec.c (n:=6) (Vec.c (n:=6) eI) x15.1.Known))),(4,.box ([.int .i64 x15.2.1.From,.int .i64 x15.2.1.To]++(Vec.c (n:=6) eI x15.2.1.Have++([.sl 8 (List.map Record.c x15.2.1.Records)])))),(5,.box ([.int .i64 x16.1.Me,.sl 64 (List.map (Vec.c (n:=2) (Vec.c (n:=32) eU8)) x16.1.Disk.Pages),.sl 65 (List.map Write.c x16.1.Disk.Wait),.sl 8 (List.map Record.c x16.1.Ledger.Book.Records),.int .i64 x16.1.Ledger.Area,.int .i64 x16.1.Ledger.Epoch,.int .i64 x16.1.Ledger.Used]++(Vec.c (n:=6) (Vec.c (n:=6) eI) x16.1.Known)))],[],6,Try.f13.ntmps⟩
noncomputable def Zah.x1 (x9:Book×Int) (i13:Int) (x15:House×Slip×Int) (x16:House×(List Slip)×Int):House→St:=fun(s21:House)=>⟨[(9,.ptr 0 0 0),(10,.ptr 0 1 0),(11,.ptr 0 2 0),(13,.int .i64 i13),(14,.ptr 0 3 0),(15,.ptr 0 4 0),(17,.ptr 0 5 0)],[(0,.box ([.int .i64 s21.Me,.sl 64 (List.map (Vec.c (n:=2) (Vec.c (n:=32) eU8)) s21.Disk.Pages),.sl 65 (List.map Write.c s21.Disk.Wait),.sl 8 (List.map Record.c s21.Ledger.Book.Records),.int .i64 s21.Ledger.Area,.int .i64 s21.Ledger.Epoch,.int .i64 s21.Ledger.Used]++(Vec.c (n:=6) (Vec.c (n:=6) eI) s21.Known))),(1,.box ([.int .i64 x16.1.Me,.sl 64 (List.map (Vec.c (n:=2) (Vec.c (n:=32) eU8)) x16.1.Disk.Pages),.sl 65 (List.map Write.c x16.1.Disk.Wait),.sl 8 (List.map Record.c x16.1.Ledger.Book.Records),.int .i64 x16.1.Ledger.Area,.int .i64 x16.1.Ledger.Epoch,.int .i64 x16.1.Ledger.Used]++(Vec.c (n:=6) (Vec.c (n:=6) eI) x16.1.Known))),(2,.box ([.sl 8 (List.map Record.c x9.1.Records)])),(3,.box ([.int .i64 x15.1.Me,.sl 64 (List.map (Vec.c (n:=2) (Vec.c (n:=32) eU8)) x15.1.Disk.Pages),.sl 65 (List.map Write.c x15.1.Disk.Wait),.sl 8 (List.map Record.c x15.1.Ledger.Book.Records),.int .i64 x15.1.Ledger.Area,.int .i64 x15.1.Ledger.Epoch,.int .i64 x15.1.Ledger.Used]++(Vec.c (n:=6) (Vec.c (n:=6) eI) x15.1.Known))),(4,.box ([.int .i64 x15.2.1.From,.int .i64 x15.2.1.To]++(Vec.c (n:=6) eI x15.2.1.Have++([.sl 8 (List.map Record.c x15.2.1.Records)])))),(5,.box ([.int .i64 x16.1.Me,.sl 64 (List.map (Vec.c (n:=2) (Vec.c (n:=32) eU8)) x16.1.Disk.Pages),.sl 65 (List.map Write.c x16.1.Disk.Wait),.sl 8 (List.map Record.c x16.1.Ledger.Book.Records),.int .i64 x16.1.Ledger.Area,.int .i64 x16.1.Ledger.Epoch,.int .i64 x16.1.Ledger.Used]++(Vec.c (n:=6) (Vec.c (n:=6) eI) x16.1.Known)))],[],6,Try.f13.ntmps⟩
noncomputable def Zah.h2 (x9:Book×Int) (i13:Int) (x15:House×Slip×Int) (x27:House×Slip×Int) (x28:House×(List Slip)×Int):(House×Int)→St:=fun(s:House×Int)=>match s with
 |(s31,i32)=>⟨[(9,.ptr 0 0 0),(10,.ptr 0 1 0),(11,.ptr 0 2 0),(13,.int .i64 i13),(15,.ptr 0 3 0),(18,.sl 9 (List.map Slip.c x28.2.1)),(24,.int .i64 (x15.2.1.Records.length:Int)),(25,.int .i64 i32)],[(0,.box ([.int .i64 x28.1.Me,.sl 64 (List.map (Vec.c (n:=2) (Vec.c (n:=32) eU8)) x28.1.Disk.Pages),.sl 65 (List.map Write.c x28.1.Disk.Wait),.sl 8 (List.map Record.c x28.1.Ledger.Book.Records),.int .i64 x28.1.Ledger.Area,.int .i64 x28.1.Ledger.Epoch,.int .i64 x28.1.Ledger.Used]++(Vec.c (n:=6) (Vec.c (n:=6) eI) x28.1.Known))),(1,.box ([.int .i64 s31.Me,.sl 64 (List.map (Vec.c (n:=2) (Vec.c (n:=32) eU8)) s31.Disk.Pages),.sl 65 (List.map Write.c s31.Disk.Wait),.sl 8 (List.map Record.c s31.Ledger.Book.Records),.int .i64 s31.Ledger.Area,.int .i64 s31.Ledger.Epoch,.int .i64 s31.Ledger.Used]++(Vec.c (n:=6) (Vec.c (n:=6) eI) s31.Known))),(2,.box ([.sl 8 (List.map Record.c x9.1.Records)])),(3,.box ([.int .i64 x27.2.1.From,.int .i64 x27.2.1.To]++(Vec.c (n:=6) eI x27.2.1.Have++([.sl 8 (List.map Record.c x27.2.1.Records)]))))],[],4,Try.f13.ntmps⟩
noncomputable def Zah.x2 (x9:Book×Int) (i13:Int) (x15:House×Slip×Int) (x27:House×Slip×Int) (x28:House×(List Slip)×Int):House→St:=fun(s33:House)=>⟨[(9,.ptr 0 0 0),(10,.ptr 0 1 0),(11,.ptr 0 2 0),(13,.int .i64 i13),(15,.ptr 0 3 0),(24,.int .i64 (x15.2.1.Records.length:Int))],[(0,.box ([.int .i64 x28.1.Me,.sl 64 (List.map (Vec.c (n:=2) (Vec.c (n:=32) eU8)) x28.1.Disk.Pages),.sl 65 (List.map Write.c x28.1.Disk.Wait),.sl 8 (List.map Record.c x28.1.Ledger.Book.Records),.int .i64 x28.1.Ledger.Area,.int .i64 x28.1.Ledger.Epoch,.int .i64 x28.1.Ledger.Used]++(Vec.c (n:=6) (Vec.c (n:=6) eI) x28.1.Known))),(1,.box ([.int .i64 s33.Me,.sl 64 (List.map (Vec.c (n:=2) (Vec.c (n:=32) eU8)) s33.Disk.Pages),.sl 65 (List.map Write.c s33.Disk.Wait),.sl 8 (List.map Record.c s33.Ledger.Book.Records),.int .i64 s33.Ledger.Area,.int .i64 s33.Ledger.Epoch,.int .i64 s33.Ledger.Used]++(Vec.c (n:=6) (Vec.c (n:=6) eI) s33.Known))),(2,.box ([.sl 8 (List.map Record.c x9.1.Records)])),(3,.box ([.int .i64 x27.2.1.From,.int .i64 x27.2.1.To]++(Vec.c (n:=6) eI x27.2.1.Have++([.sl 8 (List.map Record.c x27.2.1.Records)]))))],[],4,Try.f13.ntmps⟩
noncomputable def Zah.h0 (x9:Book×Int):(House×House×Int)→St:=fun(s:House×House×Int)=>match s with
 |(s11,s12,i13)=>⟨[(9,.ptr 0 0 0),(10,.ptr 0 1 0),(11,.ptr 0 2 0),(13,.int .i64 i13)],[(0,.box ([.int .i64 s11.Me,.sl 64 (List.map (Vec.c (n:=2) (Vec.c (n:=32) eU8)) s11.Disk.Pages),.sl 65 (List.map Write.c s11.Disk.Wait),.sl 8 (List.map Record.c s11.Ledger.Book.Records),.int .i64 s11.Ledger.Area,.int .i64 s11.Ledger.Epoch,.int .i64 s11.Ledger.Used]++(Vec.c (n:=6) (Vec.c (n:=6) eI) s11.Known))),(1,.box ([.int .i64 s12.Me,.sl 64 (List.map (Vec.c (n:=2) (Vec.c (n:=32) eU8)) s12.Disk.Pages),.sl 65 (List.map Write.c s12.Disk.Wait),.sl 8 (List.map Record.c s12.Ledger.Book.Records),.int .i64 s12.Ledger.Area,.int .i64 s12.Ledger.Epoch,.int .i64 s12.Ledger.Used]++(Vec.c (n:=6) (Vec.c (n:=6) eI) s12.Known))),(2,.box ([.sl 8 (List.map Record.c x9.1.Records)]))],[],3,Try.f13.ntmps⟩
noncomputable def Zah.x0:Unit→St:=fun(_:Unit)=>⟨[],[],[],1,Try.f13.ntmps⟩
def Zah (k:Nat) (l0:(List R09_Act)) (n1:Int):Option (Bool):=
 (Ziw k).bind fun x1=>
 (Zar k l0).bind fun x2=>
 bif x1 then
  bif (!x2.2.2) then
   some false
  else
   (Zco k n1 3).bind fun x5=>
   (x2.1.at? x5).bind fun x6=>
   (Zco k n1 3).bind fun x7=>
   (x2.1.at? (Int.tmod (w64 (x7+1)) 3)).bind fun x8=>
   (ZaW k x6.Ledger.Book x8.Ledger.Book).bind fun x9=>
   bif (!decide (x9.2=(0:Int))) then
    some false
   else
    (whl (Zah.b0 k x9) k (x6,x8,0)).bind fun r44=>match r44 with
    |.next _=>none
    |.ret v_=>some v_
    |.brk _=>
     some false
 else
  some false
theorem Zif (k:Nat) (l0:(List R09_Act)) (n1:Int) (r:Bool) (h0:Zah k l0 n1=some r):Za8 Try.prog 13 [.sl 9 (List.map R09_Act.c l0),.int .i64 n1] (fun y=>y=.bool r):=by
 refine PB (fn:=Try.f13) (sc:=F13.c) ?_
 refine rS ?_
 simp only[Zah]at h0
 try simp only[F13.c,go_sem]
 obtain⟨x1,yx1,h0⟩:=bs h0
 refine zc0 (ZlQ k _ yx1) ?_ (by first|rfl|(simp[AV.refsL,AV.refs,AV.scal,AV.leaf];done)|simp[AV.refsL,AV.refs,AV.scal,AV.leaf,go_sem]) ?_
 try simp only[go_sem]
 try simp only[go_sem]
 obtain⟨x2,yx2,h0⟩:=bs h0
 refine zc0 (ZjW k _ _ yx2) ?_ (by first|rfl|(simp[AV.refsL,AV.refs,AV.scal,AV.leaf];done)|simp[AV.refsL,AV.refs,AV.scal,AV.leaf,go_sem]) ?_
 try simp only[go_sem]
 try simp only[go_sem]
 refine Zab h0 ?_ ?_<;>intro c3 h0
 try simp only[c3,go_sem]
 refine Zab h0 ?_ ?_<;>intro c4 h0
 have c4:=ZaA c4
 try simp only[c4,c3,go_sem]
 obtain rfl:=oi h0
 refine Zac rfl ?_
 try simp only[F13.rs,c3,c4,go_sem]
 have c4:=Za9 c4
 try simp only[c4,c3,go_sem]
 obtain⟨x5,yx5,h0⟩:=bs h0
 refine zc0 (Zb8 k _ _ _ yx5) ?_ (by first|rfl|(simp[AV.refsL,AV.refs,AV.scal,AV.leaf];done)|simp[AV.refsL,AV.refs,AV.scal,AV.leaf,go_sem]) ?_
 try simp only[c3,c4,go_sem]
 try simp only[c3,c4,go_sem]
 obtain⟨x6,yx6,h0⟩:=bs h0
 have uyx6:=UpdE.at (fun q_=>(Za2.len q_:(House.c q_).length=43)) (UpdE.self (fun q_=>((VK.vec Za2 3).len q_:(Vec.c (n:=3) House.c q_).length=129)) x2.1) yx6
 have buyx6:=uyx6.bound (fun q_=>(Za2.len q_:(House.c q_).length=43))
 have guyx6:=uyx6.get (fun q_=>(Za2.len q_:(House.c q_).length=43))
 try simp only[List.length_cons,List.length_nil,go_sem]at buyx6 guyx6
 try simp only[Zaa yx6,buyx6,guyx6,c3,c4,go_sem]
 obtain⟨x7,yx7,h0⟩:=bs h0
 refine zc0 (Zb8 k _ _ _ yx7) ?_ (by first|rfl|(simp[AV.refsL,AV.refs,AV.scal,AV.leaf];done)|simp[AV.refsL,AV.refs,AV.scal,AV.leaf,go_sem]) ?_
 try simp only[c3,c4,Zaa yx6,buyx6,guyx6,go_sem]
 try simp only[c3,c4,Zaa yx6,buyx6,guyx6,go_sem]
 obtain⟨x8,yx8,h0⟩:=bs h0
 have uyx8:=UpdE.at (fun q_=>(Za2.len q_:(House.c q_).length=43)) (UpdE.self (fun q_=>((VK.vec Za2 3).len q_:(Vec.c (n:=3) House.c q_).length=129)) x2.1) yx8
 have buyx8:=uyx8.bound (fun q_=>(Za2.len q_:(House.c q_).length=43))
 have guyx8:=uyx8.get (fun q_=>(Za2.len q_:(House.c q_).length=43))
 try simp only[List.length_cons,List.length_nil,go_sem]at buyx8 guyx8
 try simp only[Zaa yx8,buyx8,guyx8,c3,c4,Zaa yx6,buyx6,guyx6,go_sem]
 obtain⟨x9,yx9,h0⟩:=bs h0
 refine zc0 (Zl1 k _ _ _ yx9) ?_ (by first|rfl|(simp[AV.refsL,AV.refs,AV.scal,AV.leaf];done)|simp[AV.refsL,AV.refs,AV.scal,AV.leaf,go_sem]) ?_
 try simp only[c3,c4,Zaa yx6,buyx6,guyx6,Zaa yx8,buyx8,guyx8,go_sem]
 try simp only[c3,c4,Zaa yx6,buyx6,guyx6,Zaa yx8,buyx8,guyx8,go_sem]
 refine Zab h0 ?_ ?_<;>intro c10 h0
 have c10:=ZaA c10
 try simp only[c10,c3,c4,Zaa yx6,buyx6,guyx6,Zaa yx8,buyx8,guyx8,go_sem]
 obtain rfl:=oi h0
 refine Zac rfl ?_
 try simp only[F13.rs,c3,c4,Zaa yx6,buyx6,guyx6,Zaa yx8,buyx8,guyx8,c10,go_sem]
 have c10:=Za9 c10
 try simp only[c10,c3,c4,Zaa yx6,buyx6,guyx6,Zaa yx8,buyx8,guyx8,go_sem]
 obtain⟨r44,yr44,h0⟩:=bs h0
 refine Za0 yr44 (Zah.h0 x9) (Zah.x0) ?_ ?_ ?_
 refine ZaF.go [9,10,11,13] [368,496,688] rfl ?_
 try simp only[Zah.h0,c3,c4,Zaa yx6,buyx6,guyx6,Zaa yx8,buyx8,guyx8,c10,go_sem]
 rintro⟨s11,s12,i13⟩ x_1 Bk1 Br1 h1 hnext1 hbrk1 hret1
 refine rS ?_
 simp only[Zah.b0]at h1
 try simp only[F13.s0,Zah.h0,c3,c4,Zaa yx6,buyx6,guyx6,Zaa yx8,buyx8,guyx8,c10,go_sem]
 refine Zab h1 ?_ ?_<;>intro c14 h1
 try simp only[c14,c3,c4,Zaa yx6,buyx6,guyx6,Zaa yx8,buyx8,guyx8,c10,go_sem]
 obtain⟨x15,yx15,h1⟩:=bs h1
 refine zc0 (ZdD k _ _ _ yx15) ?_ (by first|rfl|(simp[AV.refsL,AV.refs,AV.scal,AV.leaf];done)|simp[AV.refsL,AV.refs,AV.scal,AV.leaf,go_sem]) ?_
 try simp only[c3,c4,Zaa yx6,buyx6,guyx6,Zaa yx8,buyx8,guyx8,c10,c14,go_sem]
 try simp only[c3,c4,Zaa yx6,buyx6,guyx6,Zaa yx8,buyx8,guyx8,c10,c14,go_sem]
 obtain⟨x16,yx16,h1⟩:=bs h1
 refine zc0 (ZbQ k _ _ _ yx16) ?_ (by first|rfl|(simp[AV.refsL,AV.refs,AV.scal,AV.leaf];done)|simp[AV.refsL,AV.refs,AV.scal,AV.leaf,go_sem]) ?_
 try simp only[c3,c4,Zaa yx6,buyx6,guyx6,Zaa yx8,buyx8,guyx8,c10,c14,go_sem]
 try simp only[c3,c4,Zaa yx6,buyx6,guyx6,Zaa yx8,buyx8,guyx8,c10,c14,go_sem]
 refine Zab h1 ?_ ?_<;>intro c17 h1
 try simp only[c17,c3,c4,Zaa yx6,buyx6,guyx6,Zaa yx8,buyx8,guyx8,c10,c14,go_sem]
 refine Zab h1 ?_ ?_<;>intro c18 h1
 have c18:=ZaA c18
 try simp only[c18,c3,c4,Zaa yx6,buyx6,guyx6,Zaa yx8,buyx8,guyx8,c10,c14,c17,go_sem]
 obtain rfl:=hret1 _ (oi h1).symm
 simp only at h0
 obtain rfl:=oi h0
 refine Zac rfl ?_
 try simp only[F13.rs,c3,c4,Zaa yx6,buyx6,guyx6,Zaa yx8,buyx8,guyx8,c10,c14,c17,c18,go_sem]
 have c18:=Za9 c18
 try simp only[c18,c3,c4,Zaa yx6,buyx6,guyx6,Zaa yx8,buyx8,guyx8,c10,c14,c17,go_sem]
 obtain⟨r26,yr26,h1⟩:=bs h1
 refine Za0 yr26 (Zah.h1 x9 i13 x15 x16) (Zah.x1 x9 i13 x15 x16) ?_ ?_ ?_
 refine ZaF.go [9,10,11,13,14,15,17,18,20] [0,1,2,163,179,355] rfl ?_
 try simp only[Zah.h1,c3,c4,Zaa yx6,buyx6,guyx6,Zaa yx8,buyx8,guyx8,c10,c14,c17,c18,go_sem]
 rintro⟨s19,i20⟩ x_2 Bk2 Br2 h2 hnext2 hbrk2 hret2
 refine rS ?_
 simp only[Zah.b1]at h2
 try simp only[F13.s1,Zah.h1,c3,c4,Zaa yx6,buyx6,guyx6,Zaa yx8,buyx8,guyx8,c10,c14,c17,c18,go_sem]
 refine Zab h2 ?_ ?_<;>intro c22 h2
 try simp only[c22,c3,c4,Zaa yx6,buyx6,guyx6,Zaa yx8,buyx8,guyx8,c10,c14,c17,c18,go_sem]
 refine Zap ZaB Zat 1000 ?_
 try simp only[c3,c4,Zaa yx6,buyx6,guyx6,Zaa yx8,buyx8,guyx8,c10,c14,c17,c18,c22,go_sem]
 obtain⟨x23,yx23,h2⟩:=bs h2
 try simp only[aa yx23,c3,c4,Zaa yx6,buyx6,guyx6,Zaa yx8,buyx8,guyx8,c10,c14,c17,c18,c22,go_sem]
 obtain⟨x24,yx24,h2⟩:=bs h2
 refine ZaC 1000 (ZbQ k _ _ _ yx24) ?_ (by first|rfl|(simp[AV.refsL,AV.refs,AV.scal,AV.leaf];done)|simp[AV.refsL,AV.refs,AV.scal,AV.leaf,go_sem]) ?_
 try simp only[c3,c4,Zaa yx6,buyx6,guyx6,Zaa yx8,buyx8,guyx8,c10,c14,c17,c18,c22,aa yx23,go_sem]
 try simp only[c3,c4,Zaa yx6,buyx6,guyx6,Zaa yx8,buyx8,guyx8,c10,c14,c17,c18,c22,aa yx23,go_sem]
 refine Za5 ⟨Za4 (by simp only[ZcD,List.reverse_cons,List.reverse_nil,List.nil_append,List.cons_append,List.map_cons,List.map_nil,List.append_nil];rfl) (by first|decide +kernel|rfl),Zaf ZaB 1000 _ _ ?_⟩
 try simp only[c3,c4,Zaa yx6,buyx6,guyx6,Zaa yx8,buyx8,guyx8,c10,c14,c17,c18,c22,aa yx23,go_sem]
 refine Zab h2 ?_ ?_<;>intro c25 h2
 have c25:=ZaA c25
 try simp only[c25,c3,c4,Zaa yx6,buyx6,guyx6,Zaa yx8,buyx8,guyx8,c10,c14,c17,c18,c22,aa yx23,go_sem]
 obtain rfl:=hret2 _ (oi h2).symm
 simp only at h1
 obtain rfl:=hret1 _ (oi h1).symm
 simp only at h0
 obtain rfl:=oi h0
 refine Zac rfl ?_
 try simp only[F13.rs,c3,c4,Zaa yx6,buyx6,guyx6,Zaa yx8,buyx8,guyx8,c10,c14,c17,c18,c22,aa yx23,c25,go_sem]
 have c25:=Za9 c25
 try simp only[c25,c3,c4,Zaa yx6,buyx6,guyx6,Zaa yx8,buyx8,guyx8,c10,c14,c17,c18,c22,aa yx23,go_sem]
 refine Zae (hnext2 _ _ (oi h2).symm ?_)
 refine ZaF.go [9,10,11,13,14,15,17,18,20] [0,1,2,3,4,5] rfl ?_
 try simp only[Zah.h1,c3,c4,Zaa yx6,buyx6,guyx6,Zaa yx8,buyx8,guyx8,c10,c14,c17,c18,c22,aa yx23,c25,go_sem]
 try simp only[c22,c3,c4,Zaa yx6,buyx6,guyx6,Zaa yx8,buyx8,guyx8,c10,c14,c17,c18,go_sem]
 refine Zae (hbrk2 _ _ (oi h2).symm ?_)
 refine ZaF.go [9,10,11,13,14,15,17] [0,1,2,3,4,5] rfl ?_
 try simp only[Zah.x1,c3,c4,Zaa yx6,buyx6,guyx6,Zaa yx8,buyx8,guyx8,c10,c14,c17,c18,c22,go_sem]
 rintro s21 hr_
 subst hr_
 simp only at h1
 refine rS ?_
 try simp only[Zah.x1,c3,c4,Zaa yx6,buyx6,guyx6,Zaa yx8,buyx8,guyx8,c10,c14,c17,c18,go_sem]
 obtain⟨x27,yx27,h1⟩:=bs h1
 refine zc0 (ZdD k _ _ _ yx27) ?_ (by first|rfl|(simp[AV.refsL,AV.refs,AV.scal,AV.leaf];done)|simp[AV.refsL,AV.refs,AV.scal,AV.leaf,go_sem]) ?_
 try simp only[c3,c4,Zaa yx6,buyx6,guyx6,Zaa yx8,buyx8,guyx8,c10,c14,c17,c18,go_sem]
 try simp only[c3,c4,Zaa yx6,buyx6,guyx6,Zaa yx8,buyx8,guyx8,c10,c14,c17,c18,go_sem]
 obtain⟨x28,yx28,h1⟩:=bs h1
 refine zc0 (ZbQ k _ _ _ yx28) ?_ (by first|rfl|(simp[AV.refsL,AV.refs,AV.scal,AV.leaf];done)|simp[AV.refsL,AV.refs,AV.scal,AV.leaf,go_sem]) ?_
 try simp only[c3,c4,Zaa yx6,buyx6,guyx6,Zaa yx8,buyx8,guyx8,c10,c14,c17,c18,go_sem]
 try simp only[c3,c4,Zaa yx6,buyx6,guyx6,Zaa yx8,buyx8,guyx8,c10,c14,c17,c18,go_sem]
 refine Zab h1 ?_ ?_<;>intro c29 h1
 try simp only[c29,c3,c4,Zaa yx6,buyx6,guyx6,Zaa yx8,buyx8,guyx8,c10,c14,c17,c18,go_sem]
 refine Zab h1 ?_ ?_<;>intro c30 h1
 have c30:=ZaA c30
 try simp only[c30,c3,c4,Zaa yx6,buyx6,guyx6,Zaa yx8,buyx8,guyx8,c10,c14,c17,c18,c29,go_sem]
 obtain rfl:=hret1 _ (oi h1).symm
 simp only at h0
 obtain rfl:=oi h0
 refine Zac rfl ?_
 try simp only[F13.rs,c3,c4,Zaa yx6,buyx6,guyx6,Zaa yx8,buyx8,guyx8,c10,c14,c17,c18,c29,c30,go_sem]
 have c30:=Za9 c30
 try simp only[c30,c3,c4,Zaa yx6,buyx6,guyx6,Zaa yx8,buyx8,guyx8,c10,c14,c17,c18,c29,go_sem]
 obtain⟨r38,yr38,h1⟩:=bs h1
 refine Za0 yr38 (Zah.h2 x9 i13 x15 x27 x28) (Zah.x2 x9 i13 x15 x27 x28) ?_ ?_ ?_
 refine ZaF.go [9,10,11,13,15,18,24,25] [0,1,2,4] rfl ?_
 try simp only[Zah.h2,c3,c4,Zaa yx6,buyx6,guyx6,Zaa yx8,buyx8,guyx8,c10,c14,c17,c18,c29,c30,go_sem]
 rintro⟨s31,i32⟩ x_2 Bk2 Br2 h2 hnext2 hbrk2 hret2
 refine rS ?_
 simp only[Zah.b2]at h2
 try simp only[F13.s2,Zah.h2,c3,c4,Zaa yx6,buyx6,guyx6,Zaa yx8,buyx8,guyx8,c10,c14,c17,c18,c29,c30,go_sem]
 refine Zab h2 ?_ ?_<;>intro c34 h2
 try simp only[c34,c3,c4,Zaa yx6,buyx6,guyx6,Zaa yx8,buyx8,guyx8,c10,c14,c17,c18,c29,c30,go_sem]
 refine Zap ZaB Zat 1000 ?_
 try simp only[c3,c4,Zaa yx6,buyx6,guyx6,Zaa yx8,buyx8,guyx8,c10,c14,c17,c18,c29,c30,c34,go_sem]
 obtain⟨x35,yx35,h2⟩:=bs h2
 try simp only[aa yx35,c3,c4,Zaa yx6,buyx6,guyx6,Zaa yx8,buyx8,guyx8,c10,c14,c17,c18,c29,c30,c34,go_sem]
 obtain⟨x36,yx36,h2⟩:=bs h2
 refine ZaC 1000 (ZbQ k _ _ _ yx36) ?_ (by first|rfl|(simp[AV.refsL,AV.refs,AV.scal,AV.leaf];done)|simp[AV.refsL,AV.refs,AV.scal,AV.leaf,go_sem]) ?_
 try simp only[c3,c4,Zaa yx6,buyx6,guyx6,Zaa yx8,buyx8,guyx8,c10,c14,c17,c18,c29,c30,c34,aa yx35,go_sem]
 try simp only[c3,c4,Zaa yx6,buyx6,guyx6,Zaa yx8,buyx8,guyx8,c10,c14,c17,c18,c29,c30,c34,aa yx35,go_sem]
 refine Za5 ⟨Za4 (by simp only[ZcD,List.reverse_cons,List.reverse_nil,List.nil_append,List.cons_append,List.map_cons,List.map_nil,List.append_nil];rfl) (by first|decide +kernel|rfl),Zaf ZaB 1000 _ _ ?_⟩
 try simp only[c3,c4,Zaa yx6,buyx6,guyx6,Zaa yx8,buyx8,guyx8,c10,c14,c17,c18,c29,c30,c34,aa yx35,go_sem]
 refine Zab h2 ?_ ?_<;>intro c37 h2
 have c37:=ZaA c37
 try simp only[c37,c3,c4,Zaa yx6,buyx6,guyx6,Zaa yx8,buyx8,guyx8,c10,c14,c17,c18,c29,c30,c34,aa yx35,go_sem]
 obtain rfl:=hret2 _ (oi h2).symm
 simp only at h1
 obtain rfl:=hret1 _ (oi h1).symm
 simp only at h0
 obtain rfl:=oi h0
 refine Zac rfl ?_
 try simp only[F13.rs,c3,c4,Zaa yx6,buyx6,guyx6,Zaa yx8,buyx8,guyx8,c10,c14,c17,c18,c29,c30,c34,aa yx35,c37,go_sem]
 have c37:=Za9 c37
 try simp only[c37,c3,c4,Zaa yx6,buyx6,guyx6,Zaa yx8,buyx8,guyx8,c10,c14,c17,c18,c29,c30,c34,aa yx35,go_sem]
 refine Zae (hnext2 _ _ (oi h2).symm ?_)
 refine ZaF.go [9,10,11,13,15,18,24,25] [0,1,2,3] rfl ?_
 try simp only[Zah.h2,c3,c4,Zaa yx6,buyx6,guyx6,Zaa yx8,buyx8,guyx8,c10,c14,c17,c18,c29,c30,c34,aa yx35,c37,go_sem]
 try simp only[c34,c3,c4,Zaa yx6,buyx6,guyx6,Zaa yx8,buyx8,guyx8,c10,c14,c17,c18,c29,c30,go_sem]
 refine Zae (hbrk2 _ _ (oi h2).symm ?_)
 refine ZaF.go [9,10,11,13,15,24] [0,1,2,3] rfl ?_
 try simp only[Zah.x2,c3,c4,Zaa yx6,buyx6,guyx6,Zaa yx8,buyx8,guyx8,c10,c14,c17,c18,c29,c30,c34,go_sem]
 rintro s33 hr_
 subst hr_
 simp only at h1
 refine rS ?_
 try simp only[Zah.x2,c3,c4,Zaa yx6,buyx6,guyx6,Zaa yx8,buyx8,guyx8,c10,c14,c17,c18,c29,c30,go_sem]
 refine Zab h1 ?_ ?_<;>intro c39 h1
 try simp only[c39,c3,c4,Zaa yx6,buyx6,guyx6,Zaa yx8,buyx8,guyx8,c10,c14,c17,c18,c29,c30,go_sem]
 refine Zab h1 ?_ ?_<;>intro c40 h1
 try simp only[c40,c3,c4,Zaa yx6,buyx6,guyx6,Zaa yx8,buyx8,guyx8,c10,c14,c17,c18,c29,c30,c39,go_sem]
 obtain⟨x41,yx41,h1⟩:=bs h1
 refine zc0 (Zf9 k _ _ _ yx41) ?_ (by first|rfl|(simp[AV.refsL,AV.refs,AV.scal,AV.leaf];done)|simp[AV.refsL,AV.refs,AV.scal,AV.leaf,go_sem]) ?_
 try simp only[c3,c4,Zaa yx6,buyx6,guyx6,Zaa yx8,buyx8,guyx8,c10,c14,c17,c18,c29,c30,c39,c40,go_sem]
 try simp only[c3,c4,Zaa yx6,buyx6,guyx6,Zaa yx8,buyx8,guyx8,c10,c14,c17,c18,c29,c30,c39,c40,go_sem]
 refine Zab h1 ?_ ?_<;>intro c42 h1
 try simp only[c42,c3,c4,Zaa yx6,buyx6,guyx6,Zaa yx8,buyx8,guyx8,c10,c14,c17,c18,c29,c30,c39,c40,go_sem]
 obtain⟨x43,yx43,h1⟩:=bs h1
 refine zc0 (Zf9 k _ _ _ yx43) ?_ (by first|rfl|(simp[AV.refsL,AV.refs,AV.scal,AV.leaf];done)|simp[AV.refsL,AV.refs,AV.scal,AV.leaf,go_sem]) ?_
 try simp only[c3,c4,Zaa yx6,buyx6,guyx6,Zaa yx8,buyx8,guyx8,c10,c14,c17,c18,c29,c30,c39,c40,c42,go_sem]
 try simp only[c3,c4,Zaa yx6,buyx6,guyx6,Zaa yx8,buyx8,guyx8,c10,c14,c17,c18,c29,c30,c39,c40,c42,go_sem]
 obtain rfl:=hret1 _ (oi h1).symm
 simp only at h0
 obtain rfl:=oi h0
 refine Zac rfl ?_
 try simp only[F13.rs,c3,c4,Zaa yx6,buyx6,guyx6,Zaa yx8,buyx8,guyx8,c10,c14,c17,c18,c29,c30,c39,c40,c42,go_sem]
 try simp only[c42,c3,c4,Zaa yx6,buyx6,guyx6,Zaa yx8,buyx8,guyx8,c10,c14,c17,c18,c29,c30,c39,c40,go_sem]
 obtain rfl:=hret1 _ (oi h1).symm
 simp only at h0
 obtain rfl:=oi h0
 refine Zac rfl ?_
 try simp only[F13.rs,c3,c4,Zaa yx6,buyx6,guyx6,Zaa yx8,buyx8,guyx8,c10,c14,c17,c18,c29,c30,c39,c40,c42,go_sem]
 try simp only[c40,c3,c4,Zaa yx6,buyx6,guyx6,Zaa yx8,buyx8,guyx8,c10,c14,c17,c18,c29,c30,c39,go_sem]
 refine Zae (hnext1 _ _ (oi h1).symm ?_)
 refine ZaF.go [9,10,11,13] [0,1,2] rfl ?_
 try simp only[Zah.h0,c3,c4,Zaa yx6,buyx6,guyx6,Zaa yx8,buyx8,guyx8,c10,c14,c17,c18,c29,c30,c39,c40,go_sem]
 try simp only[c39,c3,c4,Zaa yx6,buyx6,guyx6,Zaa yx8,buyx8,guyx8,c10,c14,c17,c18,c29,c30,go_sem]
 refine Zae (hnext1 _ _ (oi h1).symm ?_)
 refine ZaF.go [9,10,11,13] [0,1,2] rfl ?_
 try simp only[Zah.h0,c3,c4,Zaa yx6,buyx6,guyx6,Zaa yx8,buyx8,guyx8,c10,c14,c17,c18,c29,c30,c39,go_sem]
 try simp only[c29,c3,c4,Zaa yx6,buyx6,guyx6,Zaa yx8,buyx8,guyx8,c10,c14,c17,c18,go_sem]
 obtain rfl:=hret1 _ (oi h1).symm
 simp only at h0
 obtain rfl:=oi h0
 refine Zac rfl ?_
 try simp only[F13.rs,c3,c4,Zaa yx6,buyx6,guyx6,Zaa yx8,buyx8,guyx8,c10,c14,c17,c18,c29,go_sem]
 try simp only[c17,c3,c4,Zaa yx6,buyx6,guyx6,Zaa yx8,buyx8,guyx8,c10,c14,go_sem]
 obtain rfl:=hret1 _ (oi h1).symm
 simp only at h0
 obtain rfl:=oi h0
 refine Zac rfl ?_
 try simp only[F13.rs,c3,c4,Zaa yx6,buyx6,guyx6,Zaa yx8,buyx8,guyx8,c10,c14,c17,go_sem]
 try simp only[c14,c3,c4,Zaa yx6,buyx6,guyx6,Zaa yx8,buyx8,guyx8,c10,go_sem]
 refine Zae (hbrk1 _ _ (oi h1).symm ?_)
 refine ZaF.go [] [] rfl ?_
 try simp only[Zah.x0,c3,c4,Zaa yx6,buyx6,guyx6,Zaa yx8,buyx8,guyx8,c10,c14,go_sem]
 rintro _ hr_
 subst hr_
 simp only at h0
 refine rS ?_
 try simp only[Zah.x0,c3,c4,Zaa yx6,buyx6,guyx6,Zaa yx8,buyx8,guyx8,c10,go_sem]
 obtain rfl:=oi h0
 refine Zac rfl ?_
 try simp only[F13.rs,c3,c4,Zaa yx6,buyx6,guyx6,Zaa yx8,buyx8,guyx8,c10,go_sem]
 try simp only[c3,go_sem]
 obtain rfl:=oi h0
 refine Zac rfl ?_
 try simp only[F13.rs,c3,go_sem]
end Go.Abs
namespace Go.Abs
open Go Go.Proofs Go.RowKit
set_option maxRecDepth 20000
def qB:Nat:=reachBytes
theorem ZvH:qB≤140737488351232:=by decide
theorem Zes:Zd9 qB Try.prog 3 eI Zjp:=Zd9.int Try.underlying3
theorem ZrH:Zd9 qB Try.prog 79 (Vec.c (n:=5) eI) (fun x:(Vec 5 Int)=>∀ a∈x.l,Zjp a):=(Zd9.array Try.underlying79 (by kernel_rfl) (ZcP.cons (off:=0) (sz:=1) (off':=1) (tot:=5) rfl (by kernel_rfl) rfl Zes (ZcP.cons (off:=1) (sz:=1) (off':=2) (tot:=5) rfl (by kernel_rfl) rfl Zes (ZcP.cons (off:=2) (sz:=1) (off':=3) (tot:=5) rfl (by kernel_rfl) rfl Zes (ZcP.cons (off:=3) (sz:=1) (off':=4) (tot:=5) rfl (by kernel_rfl) rfl Zes (ZcP.cons (off:=4) (sz:=1) (off':=5) (tot:=5) rfl (by kernel_rfl) rfl Zes (ZcP.nil (off:=5) (tot:=5) (by decide)))))))).as (fun p=>⟨[p.1,p.2.1,p.2.2.1,p.2.2.2.1,p.2.2.2.2.1],rfl⟩) (fun _=>rfl) (fun _ h=>by intro a ha;simp only[List.mem_cons,List.not_mem_nil,or_false]at ha;rcases ha with rfl|rfl|rfl|rfl|rfl;exact h.1;exact h.2.1;exact h.2.2.1;exact h.2.2.2.1;exact h.2.2.2.2.1)
theorem ZrG:Zd9 qB Try.prog 63 (eL 1 eI) (fun l=>l.length≤Go.maxLen∧l.length*8≤qB∧∀ a∈l,Zjp a):=Zd9.slice Try.underlying63 (by kernel_rfl) (by kernel_rfl) (by decide) Zes
def R09_Act.q (x:R09_Act):Prop:=Zjp x.Kind∧Zjp x.House∧Zjp x.To∧(fun x:(Vec 5 Int)=>∀ a∈x.l,Zjp a) x.Record∧(fun l=>l.length≤Go.maxLen∧l.length*8≤qB∧∀ a∈l,Zjp a) x.Picks
theorem Zph:Zd9 qB Try.prog 179 R09_Act.c R09_Act.q:=(Zd9.struct Try.underlying179 (by kernel_rfl) (ZcP.cons (off:=0) (sz:=1) (off':=1) (tot:=9) rfl (by kernel_rfl) rfl Zes (ZcP.cons (off:=1) (sz:=1) (off':=2) (tot:=9) rfl (by kernel_rfl) rfl Zes (ZcP.cons (off:=2) (sz:=1) (off':=3) (tot:=9) rfl (by kernel_rfl) rfl Zes (ZcP.cons (off:=3) (sz:=5) (off':=8) (tot:=9) rfl (by kernel_rfl) rfl ZrH (ZcP.cons (off:=8) (sz:=1) (off':=9) (tot:=9) rfl (by kernel_rfl) rfl ZrG (ZcP.nil (off:=9) (tot:=9) (by decide)))))))).as (fun p=>⟨p.1,p.2.1,p.2.2.1,p.2.2.2.1,p.2.2.2.2.1⟩) (fun _=>rfl) (fun _ h=>⟨h.1,h.2.1,h.2.2.1,h.2.2.2.1,h.2.2.2.2.1⟩)
theorem Zpg:Zd9 qB Try.prog 104 (eL 9 R09_Act.c) (fun l=>l.length≤Go.maxLen∧l.length*88≤qB∧∀ a∈l,R09_Act.q a):=Zd9.slice Try.underlying104 (by kernel_rfl) (by kernel_rfl) (by decide) Zph
end Go.Abs
namespace Go.Abs
open Go
set_option linter.unusedVariables false
theorem ZiN {i d:Nat}:(List.range' i (d+1))=i::List.range' (i+1) d:=by
 rw[List.range'_succ]
theorem Zl7 {R:Type}{body:Int→Option (Stp Int Unit R)}{n:Nat}{f:Nat→Option R} (hn:n≤9223372036854775807) {k:Nat} (hk:n<k)
  (h1:∀ i,i<n→body (i:Int)=some (match f i with|some r=>.ret r|none=>.next (w64 ((i:Int)+1)))) (h2:body (n:Int)=some (.brk ())):
  whl body k 0=some (match (List.range n).findSome? f with|some r=>.ret r|none=>.brk ()):=by
 have h:=Zt6 (body:=body) (n:=n) (g:=f) hn h1 h2 k n 0 (by omega) hk
 rw[Int.natCast_zero]at h
 rw[h]
 have key:∀ d i,Zub f i d=(List.range' i d).findSome? f:=by
  intro d
  induction d with
  |zero=>intro i;rfl
  |succ d ih=>
   intro i
   rw[ZiN,List.findSome?_cons,Zub,ih]
   cases f i<;>rfl
 rw[key,List.range_eq_range']
 cases (List.range' 0 n).findSome? f<;>rfl
theorem Zk3 {R:Type}{body:Int→Option (Stp Int Unit R)}{n:Nat}{p:Nat→Bool}{c:R} (hn:n≤9223372036854775807) {k:Nat} (hk:n<k)
  (h1:∀ i,i<n→body (i:Int)=some (bif p i then .next (w64 ((i:Int)+1)) else .ret c)) (h2:body (n:Int)=some (.brk ())):
  whl body k 0=some (bif (List.range n).all p then .brk () else .ret c):=by
 have h:=Zl7 (body:=body) (n:=n) (f:=fun i=>bif p i then none else some c) hn hk (fun i hi=>by rw[h1 i hi];cases p i<;>rfl) h2
 rw[h]
 have:∀ l:List Nat,l.findSome? (fun i=>bif p i then none else some c)=bif l.all p then none else some c:=by
  intro l
  induction l with
  |nil=>rfl
  |cons x l ih=>
   rw[List.findSome?_cons,List.all_cons]
   cases hp:p x with
   |true=>simpa using ih
   |false=>simp
 rw[this]
 cases (List.range n).all p<;>rfl
theorem Zkz {α R:Type}{l:List α}{body:Int→Option (Stp Int Unit R)}{p:α→Bool}{c:R} (hn:l.length≤9223372036854775807) {k:Nat} (hk:l.length<k)
  (h1:∀ (i:Nat) x,l[i]?=some x→body (i:Int)=some (bif p x then .next (w64 ((i:Int)+1)) else .ret c)) (h2:body (l.length:Int)=some (.brk ())):
  whl body k 0=some (bif l.all p then .brk () else .ret c):=by
 have h:=Zqp (body:=body) (l:=l) (f:=fun i=>bif p i then none else some c) hn hk (fun i x hi=>by rw[h1 i x hi];cases p x<;>rfl) h2
 rw[h]
 have:l.findSome? (fun i=>bif p i then none else some c)=bif l.all p then none else some c:=by
  clear h h1 h2 hn hk
  induction l with
  |nil=>rfl
  |cons x l ih=>
   rw[List.findSome?_cons,List.all_cons]
   cases hp:p x with
   |true=>simpa using ih
   |false=>simp
 rw[this]
 cases l.all p<;>rfl
theorem Zl8 {S R τ:Type}{n:Nat}{body:τ→Option (Stp τ S R)} (mk:Int→S→τ) (f:S→Nat→S) (Inv:Nat→S→Prop) (hn:n≤9223372036854775807) {k:Nat} (hk:n<k) {s0:S} (h0:Inv 0 s0)
  (h1:∀ i s,i<n→Inv i s→body (mk (i:Int) s)=some (.next (mk (w64 ((i:Int)+1)) (f s i)))∧Inv (i+1) (f s i)) (h2:∀ s,Inv n s→body (mk (n:Int) s)=some (.brk s)):
  whl body k (mk 0 s0)=some (.brk ((List.range n).foldl f s0))∧Inv n ((List.range n).foldl f s0):=by
 have h:=Zhi (l:=List.range n) (body:=body) mk f Inv (by simpa using hn) (k:=k) (by simpa using hk) h0 (fun i x s hx hI=>by
  have hi:i<n:=by have:=(gS.1 hx).1;simpa using this
  have e:x=i:=by have:=hx;rw[List.getElem?_range hi]at this;exact(oi this).symm
  subst e
  exact h1 x s hi hI) (fun s hI=>by have:=h2 s (by simpa using hI);simpa using this)
 exact⟨h.1,by simpa using h.2⟩
theorem ZiF {α:Type} (g:Nat→α):∀ (l:List Nat) (s:List α),l.foldl (fun s i=>s++[g i]) s=s++l.map g
 |[],s=>by simp
 |x::l,s=>by simp[ZiF g l]
end Go.Abs
namespace Go.Abs
open Go
set_option linter.unusedVariables false
theorem ZpJ {S E R τ:Type}{n:Nat}{body:τ→Option (Stp τ E R)} (mk:Int→S→τ) (g:S→E) (f:S→Nat→Option S) (c:R) (Inv:Nat→S→Prop) (hn:n≤9223372036854775807) {k:Nat} (hk:n<k) {s0:S} (h0:Inv 0 s0)
  (h1:∀ i s,i<n→Inv i s→body (mk (i:Int) s)=some (match f s i with|some s'=>.next (mk (w64 ((i:Int)+1)) s')|none=>.ret c)∧∀ s',f s i=some s'→Inv (i+1) s') (h2:∀ s,Inv n s→body (mk (n:Int) s)=some (.brk (g s))):
  whl body k (mk 0 s0)=some (match (List.range n).foldlM f s0 with|some s=>.brk (g s)|none=>.ret c)∧∀ s,(List.range n).foldlM f s0=some s→Inv n s:=by
 have key:∀ (d i k:Nat) (s:S),i+d=n→d<k→Inv i s→whl body k (mk (i:Int) s)=some (match (List.range' i d).foldlM f s with|some s=>.brk (g s)|none=>.ret c)∧∀ s',(List.range' i d).foldlM f s=some s'→Inv n s':=by
  intro d
  induction d with
  |zero=>
   intro i k s hi hk hI
   cases k with
   |zero=>omega
   |succ k=>
    have:i=n:=by omega
    subst this
    refine⟨?_,fun s' hs=>?_⟩
    ·rw[whl,h2 s hI];rfl
    ·have:s=s':=oi hs
     exact this▸hI
  |succ d ih=>
   intro i k s hi hk hI
   cases k with
   |zero=>omega
   |succ k=>
    obtain⟨g1,g2⟩:=h1 i s (by omega) hI
    rw[List.range'_succ,List.foldlM_cons,whl,g1]
    cases hf:f s i with
    |none=>exact⟨rfl,fun s' hs=>by cases hs⟩
    |some s1=>
     have:w64 ((i:Int)+1)=((i+1:Nat):Int):=by rw[ZaD (by omega) (by omega)];omega
     simp only[this]
     exact ih (i+1) k s1 (by omega) (by omega) (g2 s1 hf)
 have:=key n 0 k s0 (by omega) hk h0
 rw[List.range_eq_range']
 exact this
end Go.Abs
namespace Go.Abs
open Go
theorem Zoj {α S E R τ:Type}{l:List α}{body:τ→Option (Stp τ E R)} (mk:Int→S→τ) (g:S→E) (f:S→α→Option S) (c:R) (Inv:Nat→S→Prop) (hn:l.length≤9223372036854775807) {k:Nat} (hk:l.length<k) {s0:S} (h0:Inv 0 s0)
  (h1:∀ (i:Nat) x s,l[i]?=some x→Inv i s→body (mk (i:Int) s)=some (match f s x with|some s'=>.next (mk (w64 ((i:Int)+1)) s')|none=>.ret c)∧∀ s',f s x=some s'→Inv (i+1) s') (h2:∀ s,Inv l.length s→body (mk (l.length:Int) s)=some (.brk (g s))):
  whl body k (mk 0 s0)=some (match l.foldlM f s0 with|some s=>.brk (g s)|none=>.ret c)∧∀ s,l.foldlM f s0=some s→Inv l.length s:=by
 have key:∀ (m:List α) (i k:Nat) (s:S),l.drop i=m→i+m.length=l.length→m.length<k→Inv i s→whl body k (mk (i:Int) s)=some (match m.foldlM f s with|some s=>.brk (g s)|none=>.ret c)∧∀ s',m.foldlM f s=some s'→Inv l.length s':=by
  intro m
  induction m with
  |nil=>
   intro i k s _ h3 h4 hI
   cases k with
   |zero=>omega
   |succ k=>
    have:i=l.length:=by simpa using h3
    subst this
    refine⟨by rw[whl,h2 s hI];rfl,fun s' hs=>?_⟩
    have:s=s':=oi hs
    exact this▸hI
  |cons x m ih=>
   intro i k s h5 h3 h4 hI
   cases k with
   |zero=>omega
   |succ k=>
    simp only[List.length_cons]at h3 h4
    have hx:l[i]?=some x:=by
     have:=congrArg (fun q=>q[0]?) h5
     simpa using this
    obtain⟨h6,h7⟩:=h1 i x s hx hI
    rw[List.foldlM_cons,whl,h6]
    cases hf:f s x with
    |none=>exact⟨rfl,fun s' hs=>by cases hs⟩
    |some s1=>
     have:w64 ((i:Int)+1)=((i+1:Nat):Int):=by rw[ZaD (by omega) (by omega)];omega
     simp only[this]
     exact ih (i+1) k s1 (by rw[←List.drop_drop,h5];rfl) (by omega) (by omega) (h7 s1 hf)
 exact key l 0 k s0 rfl (by simp) hk h0
end Go.Abs
namespace Go.Abs
open Go Go.Proofs
set_option maxRecDepth 20000
set_option linter.unusedVariables false
set_option linter.unusedSimpArgs false
def be (n:Int):Nat→List Int
 |0=>[]
 |w+1=>IntKind.u8.wrap (Int.fdiv n (2 ^ (8*w)))::be n w
theorem Zfg (n:Int):∀ w,(be n w).length=w
 |0=>rfl
 |w+1=>by simp[be,Zfg n w]
theorem ZoA {body:Int×List Int→Option (Stp (Int×List Int) (List Int) (List Int))}{n:Int}
  (hb:∀ i l,body (i,l)=bif decide ((0:Int)≤i) then (sh? (w64 (8*i))).bind fun _=>(Zfj 1 l (IntKind.u8.wrap (Int.fdiv n (2 ^ (min (Int.toNat (w64 (8*i))) 64))))).bind fun l'=>some (.next (w64 (i - 1),l')) else some (.brk l)):
  ∀ (w m:Nat) (l:List Int),w≤8→l.length+w≤1000000→w<m→whl body m (w64 ((w:Int) - 1),l)=some (.brk (l++be n w)):=by
 intro w
 induction w with
 |zero=>
  intro m l _ _ hm
  obtain⟨m,rfl⟩:∃ m',m=m'+1:=⟨m - 1,by omega⟩
  have e:w64 (((0:Nat):Int) - 1)=-1:=by rw[ZaD]<;>simp
  simp only[whl,hb,e,be,List.append_nil,(by decide:decide ((0:Int)≤-1)=false),cond_false]
 |succ w ih=>
  intro m l hw hl hm
  obtain⟨m,rfl⟩:∃ m',m=m'+1:=⟨m - 1,by omega⟩
  have e:w64 (((w+1:Nat):Int) - 1)=w:=by rw[ZaD]<;>omega
  have e8:w64 (8*(w:Int))=8*(w:Int):=by rw[ZaD]<;>omega
  have et:min (Int.toNat (8*(w:Int))) 64=8*w:=by omega
  have hsh:sh? (8*(w:Int))=some ():=by unfold sh?;rw[if_neg (by omega)]
  have hp:Zfj 1 l (IntKind.u8.wrap (Int.fdiv n (2 ^ (8*w))))=some (l++[IntKind.u8.wrap (Int.fdiv n (2 ^ (8*w)))]):=ZiG (by omega) (by omega)
  have hd:decide ((0:Int)≤(w:Int))=true:=by simp
  simp only[whl,hb,e,e8,et,hsh,hd,cond_true,Option.bind_some,hp]
  rw[ih m _ (by omega) (by simp;omega) (by omega)]
  simp[be]
theorem Zk9 {α:Type}{b:Nat}{l x:List α} (h:(l.length+x.length)*b≤140737488355328) (h2:l.length+x.length<4611686018427387904):Zjw b l x=some (l++x):=by
 unfold Zjw;rw[if_pos ⟨h,h2⟩]
def enc (r:Record):List Int:=be r.At.House 1++be r.At.No 2++be r.Kind 1++be r.Day 4++be r.Known 4++be r.Of.House 1++be r.Of.No 2++be (r.Text.size:Int) 1++Zgk r.Text
theorem Zkh (r:Record):(enc r).length=16+r.Text.size:=by
 simp only[enc,List.length_append,Zfg,Zc4]<;>omega
theorem Zkb {k:Nat} (n:Int) {w:Nat} (l:List Int) (wd:Int) (hwd:wd=w) (hw:w≤8) (hl:l.length+w≤1000000) (hk:w<k):whl (Zav.b1 k (⟨[n,wd],rfl⟩:Vec 2 Int)) k (w64 (wd - 1),l)=some (.brk (l++be n w)):=by
 subst hwd
 exact ZoA (n:=n) (fun i l=>by
  unfold Zav.b1
  have h:(⟨[n,(w:Int)],rfl⟩:Vec 2 Int).at? 0=some n:=rfl
  simp only[h,Option.bind_some]) w k l hw hl hk
theorem ZlX {k:Nat} (hk:20<k) {r:Record} (ht:r.Text.size≤1000):Zav k r=some (enc r):=by
 unfold Zav
 have one:∀ (n:Int) (l:List Int),l.length≤1000→whl (Zav.b1 k (⟨[n,1],rfl⟩:Vec 2 Int)) k (w64 (1 - 1),l)=some (.brk (l++be n 1)):=fun n l hl=>Zkb n (w:=1) l 1 rfl (by decide) (by omega) (by omega)
 have two:∀ (n:Int) (l:List Int),l.length≤1000→whl (Zav.b1 k (⟨[n,2],rfl⟩:Vec 2 Int)) k (w64 (2 - 1),l)=some (.brk (l++be n 2)):=fun n l hl=>Zkb n (w:=2) l 2 rfl (by decide) (by omega) (by omega)
 have four:∀ (n:Int) (l:List Int),l.length≤1000→whl (Zav.b1 k (⟨[n,4],rfl⟩:Vec 2 Int)) k (w64 (4 - 1),l)=some (.brk (l++be n 4)):=fun n l hl=>Zkb n (w:=4) l 4 rfl (by decide) (by omega) (by omega)
 have st:∀ (i:Int) (l:List Int) (n wd:Int) (l':List Int),i<8→at? [(⟨[r.At.House,1],rfl⟩:(Vec 2 Int)),(⟨[r.At.No,2],rfl⟩:(Vec 2 Int)),(⟨[r.Kind,1],rfl⟩:(Vec 2 Int)),(⟨[r.Day,4],rfl⟩:(Vec 2 Int)),(⟨[r.Known,4],rfl⟩:(Vec 2 Int)),(⟨[r.Of.House,1],rfl⟩:(Vec 2 Int)),(⟨[r.Of.No,2],rfl⟩:(Vec 2 Int)),(⟨[(r.Text.size:Int),1],rfl⟩:(Vec 2 Int))] i=some (⟨[n,wd],rfl⟩:Vec 2 Int)→
   whl (Zav.b1 k (⟨[n,wd],rfl⟩:Vec 2 Int)) k (w64 (wd - 1),l)=some (.brk l')→Zav.b0 k r (i,l)=some (.next (w64 (i+1),l')):=by
  intro i l n wd l' hi ha hw
  unfold Zav.b0
  have h1:(⟨[n,wd],rfl⟩:Vec 2 Int).at? 1=some wd:=rfl
  simp only[decide_eq_true hi,cond_true,ha,Option.bind_some,h1,hw]
 obtain⟨m,rfl⟩:∃ m,k=m+9:=⟨k - 9,by omega⟩
 have nx:∀ (q:Nat) (i:Int) (l l':List Int),Zav.b0 (m+9) r (i,l)=some (.next (w64 (i+1),l'))→whl (Zav.b0 (m+9) r) (q+1) (i,l)=whl (Zav.b0 (m+9) r) q (w64 (i+1),l'):=by
  intro q i l l' h
  simp only[whl,h]
 rw[nx (m+8) 0 _ _ (st 0 _ _ _ _ (by decide) rfl (one _ _ (by simp))),(by decide:w64 (0+1)=1),
  nx (m+7) 1 _ _ (st 1 _ _ _ _ (by decide) rfl (two _ _ (by (simp only[List.length_append,Zfg,List.length_nil])<;>omega))),(by decide:w64 (1+1)=2),
  nx (m+6) 2 _ _ (st 2 _ _ _ _ (by decide) rfl (one _ _ (by (simp only[List.length_append,Zfg,List.length_nil])<;>omega))),(by decide:w64 (2+1)=3),
  nx (m+5) 3 _ _ (st 3 _ _ _ _ (by decide) rfl (four _ _ (by (simp only[List.length_append,Zfg,List.length_nil])<;>omega))),(by decide:w64 (3+1)=4),
  nx (m+4) 4 _ _ (st 4 _ _ _ _ (by decide) rfl (four _ _ (by (simp only[List.length_append,Zfg,List.length_nil])<;>omega))),(by decide:w64 (4+1)=5),
  nx (m+3) 5 _ _ (st 5 _ _ _ _ (by decide) rfl (one _ _ (by (simp only[List.length_append,Zfg,List.length_nil])<;>omega))),(by decide:w64 (5+1)=6),
  nx (m+2) 6 _ _ (st 6 _ _ _ _ (by decide) rfl (two _ _ (by (simp only[List.length_append,Zfg,List.length_nil])<;>omega))),(by decide:w64 (6+1)=7),
  nx (m+1) 7 _ _ (st 7 _ _ _ _ (by decide) rfl (one _ _ (by (simp only[List.length_append,Zfg,List.length_nil])<;>omega))),(by decide:w64 (7+1)=8)]
 have hend:∀ l,whl (Zav.b0 (m+9) r) (m+1) (8,l)=some (.brk l):=fun l=>by
  have:Zav.b0 (m+9) r (8,l)=some (.brk l):=by
   unfold Zav.b0
   simp only[(by decide:decide ((8:Int)<8)=false),cond_false]
  simp only[whl,this]
 rw[hend]
 simp only[Option.bind_some]
 rw[Zk9 (by (simp only[List.length_append,Zfg,Zc4,List.length_nil])<;>omega) (by (simp only[List.length_append,Zfg,Zc4,List.length_nil])<;>omega)]
 simp only[Option.bind_some,List.nil_append,enc]
end Go.Abs
namespace Go.Abs
open Go Go.Proofs
set_option maxRecDepth 20000
set_option linter.unusedVariables false
set_option linter.unusedSimpArgs false
def within (n lo hi:Int):Bool:=decide (lo≤n)&&decide (n≤hi)
theorem Zcc (k:Nat) (n lo hi:Int):ZaE k n lo hi=some (within n lo hi):=by
 unfold ZaE within
 cases decide (lo≤n)<;>rfl
def ZgL (p:Entry):Bool:=within p.House 0 5&&within p.No 0 9999
theorem Zkl (k:Nat) (p:Entry):ZcG k p=some (ZgL p):=by
 unfold ZcG ZgL
 simp only[Zcc,Option.bind_some]
 cases within p.House 0 5<;>rfl
def Zqt (x:Int):Bool:=!decide (x<32)&&!decide (126<x)
def Zm9 (s:ByteArray):Bool:=!decide ((200:Int)<(s.size:Int))&&(Zgk s).all Zqt
theorem ZuP {s:ByteArray}{i:Nat}{x:Int} (h:(Zgk s)[i]?=some x):Zs2 s (i:Int)=some x:=by
 have hi:i<s.size:=by have:=(gS.1 h).1;rwa [Zc4]at this
 unfold Zs2
 rw[if_pos (by omega)]
 unfold Zgk at h
 rw[List.getElem?_map,mS]at h
 obtain⟨c,h1,rfl⟩:=h
 simp[List.getD,h1]
theorem Zlm {k:Nat} (hk:1000<k) (s:ByteArray):ZaH k s=some (Zm9 s):=by
 unfold ZaH Zm9
 by_cases h:(200:Int)<(s.size:Int)
 ·simp[h]
 ·have hl:(Zgk s).length≤200:=by rw[Zc4];omega
  have:=Zkz (l:=Zgk s) (body:=ZaH.b0 k s) (p:=Zqt) (c:=false) (by omega) (k:=k) (by omega) (fun i x hx=>by
   have hi:i<s.size:=by have:=(gS.1 hx).1;rwa [Zc4]at this
   unfold ZaH.b0 Zqt
   simp only[decide_eq_true (show ((i:Int)<(s.size:Int)) by omega),cond_true,ZuP hx,Option.bind_some]
   cases decide (x<32)<;>cases decide (126<x)<;>rfl) (by
   unfold ZaH.b0
   simp only[Zc4,(by simp:decide ((s.size:Int)<(s.size:Int))=false),cond_false])
  simp only[decide_eq_false h,cond_false,Bool.not_false,Bool.true_and]
  rw[this]
  cases (Zgk s).all Zqt<;>rfl
def Zf8 (r:Record):Bool:=
 ZgL r.At&&(within r.Kind 0 40&&(within r.Day 0 100000&&(within r.Known 0 100000&&(Zm9 r.Text&&
  (bif !decide (r.Kind=(0:Int)) then decide (r.Of.House=(0:Int))&&decide (r.Of.No=(0:Int))
   else decide (r.Day=(0:Int))&&((r.Text.toList==ByteArray.empty.toList)&&(ZgL r.Of&&(decide (r.Of.House=r.At.House)&&decide (r.Of.No<r.At.No)))))))))
theorem Zdr {k:Nat} (hk:1000<k) (r:Record):Zbj k r=some (Zf8 r):=by
 unfold Zbj Zf8
 simp only[Zkl,Zcc,Zlm hk,Option.bind_some]
 cases ZgL r.At<;>simp only[cond_true,cond_false,Bool.true_and,Bool.false_and]
 cases within r.Kind 0 40<;>simp only[cond_true,cond_false,Bool.true_and,Bool.false_and]
 cases within r.Day 0 100000<;>simp only[cond_true,cond_false,Bool.true_and,Bool.false_and]
 cases within r.Known 0 100000<;>simp only[cond_true,cond_false,Bool.true_and,Bool.false_and]
 cases Zm9 r.Text<;>simp only[cond_true,cond_false,Bool.true_and,Bool.false_and,Bool.not_true,Bool.not_false]
 cases decide (r.Kind=(0:Int))<;>simp only[cond_true,cond_false,Bool.true_and,Bool.false_and,Bool.not_true,Bool.not_false]
 cases decide (r.Day=(0:Int))<;>simp only[cond_true,cond_false,Bool.true_and,Bool.false_and]
 cases (r.Text.toList==ByteArray.empty.toList)<;>simp only[cond_true,cond_false,Bool.true_and,Bool.false_and]
 cases ZgL r.Of<;>simp only[cond_true,cond_false,Bool.true_and,Bool.false_and]
 cases decide (r.Of.House=r.At.House)<;>simp only[cond_true,cond_false,Bool.true_and,Bool.false_and]
theorem Zhp {r:Record} (h:Zf8 r=true):r.Text.size≤200:=by
 unfold Zf8 Zm9 at h
 simp only[Bool.and_eq_true,Bool.not_eq_true',decide_eq_false_iff_not]at h
 omega
end Go.Abs
namespace Go.Abs
open Go Go.Proofs
set_option maxRecDepth 20000
set_option linter.unusedVariables false
set_option linter.unusedSimpArgs false
theorem ZlU (k:Nat) (f e n:Int):Zev k f e n=some ⟨[f,IntKind.u8.wrap (Int.fdiv e (2 ^ 16)),IntKind.u8.wrap (Int.fdiv e (2 ^ 8)),IntKind.u8.wrap e,IntKind.u8.wrap (Int.fdiv n (2 ^ 8)),IntKind.u8.wrap n,
  0,0,0,0,0,0,0,0,0,0,0,0,0,0,0,0,0,0,0,0,0,0,0,0,0,165],rfl⟩:=by rfl
theorem ZdA (e:Int):be e 3=[IntKind.u8.wrap (Int.fdiv e (2 ^ 16)),IntKind.u8.wrap (Int.fdiv e (2 ^ 8)),IntKind.u8.wrap e]:=by
 simp[be]
theorem ZkC (e:Int):be e 2=[IntKind.u8.wrap (Int.fdiv e (2 ^ 8)),IntKind.u8.wrap e]:=by
 simp[be]
def ZgN (e n:Int) (cnt:Int) (code:List Int) (i:Nat):List Int:=
 [112]++be e 3++be n 2++[IntKind.u8.wrap (i:Int),IntKind.u8.wrap cnt]++((code.drop (23*i)).take 23++List.replicate (23 - min (code.drop (23*i)).length 23) 0)++[165]
theorem ZqM (e n cnt:Int) (code:List Int) (i:Nat):(ZgN e n cnt code i).length=32:=by
 simp only[ZgN,List.length_append,Zfg,List.length_cons,List.length_nil,List.length_take,List.length_replicate]
 omega
def Zdw (e n:Int) (cnt:Int) (code:List Int) (i:Nat):Vec 32 Int:=⟨ZgN e n cnt code i,ZqM e n cnt code i⟩
def ZbI (len:Nat):Nat:=(len+22) / 23
theorem ZkO {len:Nat} (h:len≤1000):w64 (Int.tdiv (w64 ((w64 ((len:Int)+23)) - 1)) 23)=(ZbI len:Int):=by
 rw[ZaD (n:=(len:Int)+23) (by omega) (by omega),ZaD (n:=(len:Int)+23 - 1) (by omega) (by omega)]
 have e:((len:Int)+23 - 1)=((len+22:Nat):Int):=by omega
 rw[e]
 have:Int.tdiv ((len+22:Nat):Int) 23=(((len+22) / 23:Nat):Int):=by
  rw[show (23:Int)=((23:Nat):Int) from rfl,←Int.ofNat_tdiv]
 rw[this,ZaD (by omega) (by omega)]
 rfl
theorem ZrS {len i:Nat} (h:i<ZbI len):23*i<len:=by unfold ZbI at h;omega
theorem ZrF {e n:Int}{cnt:Int}{code:List Int}{i:Nat}{l:List Int} (hl:l=(code.drop (23*i)).take 23):
  (((⟨[112,IntKind.u8.wrap (Int.fdiv e (2 ^ 16)),IntKind.u8.wrap (Int.fdiv e (2 ^ 8)),IntKind.u8.wrap e,IntKind.u8.wrap (Int.fdiv n (2 ^ 8)),IntKind.u8.wrap n,
   0,0,0,0,0,0,0,0,0,0,0,0,0,0,0,0,0,0,0,0,0,0,0,0,0,165],rfl⟩:Vec 32 Int).set 6 (IntKind.u8.wrap (i:Int))).set 7 (IntKind.u8.wrap cnt)).put 8 23 l=Zdw e n cnt code i:=by
 apply Vec.ext
 have hle:l.length≤23:=by rw[hl,List.length_take];omega
 have hmin:min l.length 23=l.length:=by omega
 have hlm:l.length=min (code.drop (23*i)).length 23:=by rw[hl,List.length_take];omega
 unfold Vec.put
 rw[dif_pos (by decide)]
 show List.take 8 _++(List.take 23 l++List.drop (8+min l.length 23) _)=ZgN e n cnt code i
 rw[hmin,List.take_of_length_le hle]
 have hd:∀ m,m≤23→List.drop (8+m) ((((⟨[112,IntKind.u8.wrap (Int.fdiv e (2 ^ 16)),IntKind.u8.wrap (Int.fdiv e (2 ^ 8)),IntKind.u8.wrap e,IntKind.u8.wrap (Int.fdiv n (2 ^ 8)),IntKind.u8.wrap n,
   0,0,0,0,0,0,0,0,0,0,0,0,0,0,0,0,0,0,0,0,0,0,0,0,0,165],rfl⟩:Vec 32 Int).set 6 (IntKind.u8.wrap (i:Int))).set 7 (IntKind.u8.wrap cnt)).l)=List.replicate (23 - m) 0++[165]:=by
  intro m hm
  rw[←List.drop_drop]
  show List.drop m (List.replicate 23 (0:Int)++[(165:Int)])=_
  rw[List.drop_append_of_le_length (by simp;exact hm),List.drop_replicate]
 rw[hd _ hle]
 show [112,IntKind.u8.wrap (Int.fdiv e (2 ^ 16)),IntKind.u8.wrap (Int.fdiv e (2 ^ 8)),IntKind.u8.wrap e,IntKind.u8.wrap (Int.fdiv n (2 ^ 8)),IntKind.u8.wrap n,IntKind.u8.wrap (i:Int),IntKind.u8.wrap cnt]++_=_
 unfold ZgN
 rw[ZdA,ZkC,←hlm,←hl]
 simp
theorem ZiL {k:Nat} (hk:100000<k) {r:Record} (ht:r.Text.size≤200) (n e:Int):
  ZaL k r n e=some ((List.range (ZbI (enc r).length)).map (Zdw e n (ZbI (enc r).length) (enc r))):=by
 have Zca:=Zkh r
 have hc:ZbI (enc r).length≤10:=by unfold ZbI;omega
 unfold ZaL
 rw[ZlX (by omega) (by omega)]
 simp only[Option.bind_some]
 have h:=Zl8 (n:=ZbI (enc r).length) (body:=ZaL.b0 k n e (enc r)) (fun i s=>(i,s)) (fun s i=>s++[Zdw e n (ZbI (enc r).length) (enc r) i]) (fun i s=>s.length=i) (by omega) (k:=k) (by omega) (s0:=[]) rfl (fun i s hi hs=>by
  have hlt:=ZrS hi
  refine⟨?_,by simp[hs]⟩
  unfold ZaL.b0
  have hw1:w64 ((i:Int)*23)=((23*i:Nat):Int):=by rw[ZaD]<;>omega
  have hw2:w64 ((w64 ((i:Int)+1))*23)=((23*(i+1):Nat):Int):=by
   rw[ZaD (n:=(i:Int)+1) (by omega) (by omega),ZaD]<;>omega
  have hsub:Zm4 (enc r) ((23*i:Nat):Int) (min ((enc r).length:Int) ((23*(i+1):Nat):Int))=some (((enc r).drop (23*i)).take 23):=by
   unfold Zm4
   rw[if_pos (by omega)]
   congr 1
   have e1:(min ((enc r).length:Int) ((23*(i+1):Nat):Int)).toNat - (((23*i:Nat):Int)).toNat=min 23 ((enc r).drop (23*i)).length:=by
    rw[List.length_drop];omega
   rw[e1,Int.toNat_natCast]
   rw[←List.take_take,List.take_length]
  simp only[ZkO (show (enc r).length≤1000 by omega),decide_eq_true (show (i:Int)<(ZbI (enc r).length:Int) by omega),cond_true,ZlU,Option.bind_some,hw1,hw2,hsub]
  rw[ZrF rfl,ZiG (by rw[hs];omega) (by rw[hs];omega)]
  rfl) (fun s hs=>by
  unfold ZaL.b0
  simp only[ZkO (show (enc r).length≤1000 by omega),(by simp:decide ((ZbI (enc r).length:Int)<(ZbI (enc r).length:Int))=false),cond_false])
 have h1:=h.1
 rw[h1]
 simp only[Option.bind_some]
 rw[ZiF]
 rfl
end Go.Abs
namespace Go.Abs
open Go Go.Proofs
set_option maxRecDepth 20000
set_option linter.unusedVariables false
set_option linter.unusedSimpArgs false
theorem ZrM (v:Vec 32 Int):Vec.eq (fun(x y:Int)=>decide (x=y)) v v=true:=by
 unfold Vec.eq
 rw[List.all_eq_true]
 intro p hp
 obtain⟨i,hi⟩:=List.mem_iff_getElem?.1 hp
 rw[List.getElem?_zip_eq_some]at hi
 obtain⟨h1,h2⟩:=hi
 rw[h1]at h2
 simp only[oE]at h2
 simp[h2]
end Go.Abs
namespace Go.Abs
open Go Go.Proofs
set_option maxRecDepth 1000000
theorem Zpq:Ziw 18446744073709551616=some true:=by decide +kernel
end Go.Abs
namespace Go.Abs
open Go
set_option linter.unusedVariables false
def Byt (l:List Int):Prop:=∀ x∈l,0≤x∧x<256
theorem Byt.take {l:List Int} (h:Byt l) (n:Nat):Byt (l.take n):=fun x hx=>h x (List.mem_of_mem_take hx)
theorem Byt.drop {l:List Int} (h:Byt l) (n:Nat):Byt (l.drop n):=fun x hx=>h x (List.mem_of_mem_drop hx)
theorem ZmD (x:Int):IntKind.u8.wrap x=x % 256:=by
 simp only[IntKind.wrap,IntKind.bits,IntKind.signed]
 simp
theorem Ztd {n b:Int} (h0:0≤n) (h1:n<2 ^ 40) (h2:0≤b) (h3:b<256):bOr .i64 (w64 (n*2 ^ 8)) (w64 b)=n*256+b:=by
 have e8:((2:Int) ^ 8)=256:=by decide
 have e40:((2:Int) ^ 40)=1099511627776:=by decide
 rw[e40]at h1
 rw[e8,ZaD (n:=n*256) (by omega) (by omega),ZaD (n:=b) (by omega) (by omega)]
 obtain⟨m,rfl⟩:=Int.eq_ofNat_of_zero_le h0
 obtain⟨c,rfl⟩:=Int.eq_ofNat_of_zero_le h2
 unfold bOr
 have t1:(BitVec.ofInt IntKind.i64.bits ((m:Int)*256)).toNat=m*256:=by
  rw[BitVec.toNat_ofInt]
  have:((m:Int)*256) % ((2 ^ IntKind.i64.bits:Nat):Int)=(m:Int)*256:=by
   rw[show ((2 ^ IntKind.i64.bits:Nat):Int)=18446744073709551616 from rfl];omega
  rw[this];omega
 have t2:(BitVec.ofInt IntKind.i64.bits (c:Int)).toNat=c:=by
  rw[BitVec.toNat_ofInt]
  have:(c:Int) % ((2 ^ IntKind.i64.bits:Nat):Int)=(c:Int):=by
   rw[show ((2 ^ IntKind.i64.bits:Nat):Int)=18446744073709551616 from rfl];omega
  rw[this];omega
 rw[BitVec.toNat_or,t1,t2]
 have:m*256 ||| c=m*256+c:=by
  have:=Nat.shiftLeft_add_eq_or_of_lt (b:=c) (i:=8) (by omega) m
  rw[Nat.shiftLeft_eq]at this
  exact this.symm
 rw[this]
 exact ZaD (by omega) (by omega)
def rdA (n:Int) (l:List Int):Int:=l.foldl (fun n b=>n*256+b) n
def rdV (l:List Int):Int:=rdA 0 l
theorem Zl2:∀ {l:List Int}{n:Int}{w:Nat},Byt l→0≤n→n<256 ^ w→0≤rdA n l∧rdA n l<256 ^ (w+l.length)
 |[],n,w,_,h0,h1=>⟨h0,h1⟩
 |b::l,n,w,hb,h0,h1=>by
  have hb0:=hb b (by simp)
  have h2:n*256+b<256 ^ (w+1):=by
   rw[Int.pow_succ];omega
  have:=Zl2 (l:=l) (n:=n*256+b) (w:=w+1) (fun x hx=>hb x (by simp[hx])) (by omega) h2
  rw[show w+(b::l).length=w+1+l.length by simp;omega]
  exact this
theorem ZjG {l:List Int} (hb:Byt l):0≤rdV l∧rdV l<256 ^ l.length:=by
 have:=Zl2 (l:=l) (n:=0) (w:=0) hb (by omega) (by decide)
 unfold rdV;simpa using this
theorem ZtO {R:Type}{l:List Int} (hb:Byt l) (hl:l.length≤5) {body:Int×Int→Option (Stp (Int×Int) Int R)}{k:Nat} (hk:10<k)
  (h1:∀ (i:Nat) x s,l[i]?=some x→body (s,(i:Int))=some (.next (bOr .i64 (w64 (s*2 ^ 8)) (w64 x),w64 ((i:Int)+1)))) (h2:∀ s,body (s,(l.length:Int))=some (.brk s)):
  whl body k (0,0)=some (.brk (rdV l)):=by
 have h:=Zhi (l:=l) (body:=body) (fun i s=>(s,i)) (fun s x=>s*256+x) (fun i s=>0≤s∧s<256 ^ i) (by omega) (k:=k) (by omega) (s0:=0) (by simp) (fun i x s hx hs=>by
  have hi:=(gS.1 hx).1
  have hx1:=hb x (List.mem_of_getElem? hx)
  have hs2:s<2 ^ 40:=by
   have:(256:Int) ^ i≤256 ^ 5:=by
    have:i=0∨i=1∨i=2∨i=3∨i=4:=by omega
    rcases this with rfl|rfl|rfl|rfl|rfl<;>decide
   have e:(256:Int) ^ 5=2 ^ 40:=by decide
   omega
  refine⟨?_,by omega,by rw[Int.pow_succ];omega⟩
  rw[h1 i x s hx,Ztd hs.1 hs2 hx1.1 hx1.2]) (fun s hs=>h2 s)
 exact h.1
theorem Zm3 (s:ByteArray):Zmh (s.data.toList.map fun c=>(c.toNat:Int))=s:=by
 unfold Zmh
 rw[List.map_map]
 have:((fun n:Int=>UInt8.ofNat n.toNat) ∘ fun c:UInt8=>(c.toNat:Int))=id:=by
  funext c;simp
 rw[this,List.map_id]
end Go.Abs
namespace Go.Abs
set_option linter.unusedVariables false
def eLt (a b:Int×Int):Prop:=a.1<b.1∨(a.1=b.1∧a.2<b.2)
instance (a b:Int×Int):Decidable (eLt a b):=inferInstanceAs (Decidable (_∨_))
theorem ZiC {a b c:Int×Int} (h:eLt a b) (g:eLt b c):eLt a c:=by unfold eLt at *;omega
theorem Zgz (a:Int×Int):¬ eLt a a:=by unfold eLt;omega
theorem ZmN {a b:Int×Int} (h:eLt a b):¬ eLt b a:=by unfold eLt at *;omega
theorem Zs7 (a b:Int×Int):eLt a b∨a=b∨eLt b a:=by
 obtain⟨a1,a2⟩:=a;obtain⟨b1,b2⟩:=b
 unfold eLt;simp only[Prod.mk.injEq];omega
section
variable {α:Type} (key:α→Int×Int)
def Srt (l:List α):Prop:=l.Pairwise fun x y=>eLt (key x) (key y)
def cnt (l:List α) (h:Int):Nat:=l.countP fun x=>decide ((key x).1=h)
theorem Zfr (h:Int):cnt key [] h=0:=rfl
theorem Zdm (l m:List α) (h:Int):cnt key (l++m) h=cnt key l h+cnt key m h:=by
 unfold cnt;exact List.countP_append
theorem Zcg (x:α) (l:List α) (h:Int):cnt key (x::l) h=cnt key l h+if (key x).1=h then 1 else 0:=by
 unfold cnt;rw[List.countP_cons];simp only[decide_eq_true_eq]
theorem ZqB {l:List α}{h:Int} (H:∀ x∈l,(key x).1≠h):cnt key l h=0:=by
 unfold cnt;rw[List.countP_eq_zero];intro x hx;simp[H x hx]
def VL:(Int→Int)→List α→Prop
 |_,[]=>True
 |c,x::l=>(key x).2=c (key x).1∧VL (fun h=>if h=(key x).1 then c h+1 else c h) l
theorem ZfP:∀ {l:List α}{c d:Int→Int} (H:∀ x∈l,c (key x).1=d (key x).1),VL key c l→VL key d l
 |[],_,_,_,_=>trivial
 |x::l,c,d,H,h=>by
  refine⟨by rw[←H x (by simp)];exact h.1,ZfP (l:=l) (fun y hy=>?_) h.2⟩
  have:=H y (by simp[hy])
  by_cases e:(key y).1=(key x).1
  ·simp only[e,if_true];rw[H x (by simp)]
  ·simp only[if_neg e];exact this
theorem Zeu:∀ {l m:List α}{c:Int→Int},VL key c (l++m)↔VL key c l∧VL key (fun h=>c h+cnt key l h) m
 |[],m,c=>by
  simp only[List.nil_append,Zfr,VL,true_and]
  constructor<;>exact ZfP key (fun x _=>by simp)
 |x::l,m,c=>by
  simp only[List.cons_append,VL]
  rw[Zeu (l:=l)]
  constructor
  ·rintro⟨h1,h2,h3⟩
   refine⟨⟨h1,h2⟩,ZfP key (fun y _=>?_) h3⟩
   rw[Zcg]
   by_cases e:(key y).1=(key x).1
   ·simp only[e,if_true];omega
   ·simp only[if_neg e,if_neg (Ne.symm e)];omega
  ·rintro⟨⟨h1,h2⟩,h3⟩
   refine⟨h1,h2,ZfP key (fun y _=>?_) h3⟩
   rw[Zcg]
   by_cases e:(key y).1=(key x).1
   ·simp only[e,if_true];omega
   ·simp only[if_neg e,if_neg (Ne.symm e)];omega
def Val (l:List α):Prop:=Srt key l∧VL key (fun _=>0) l
theorem Znm:∀ {l:List α}{c:Int→Int},VL key c l→∀ x∈l,c (key x).1≤(key x).2∧(key x).2<c (key x).1+cnt key l (key x).1
 |y::l,c,h,x,hx=>by
  rw[Zcg]
  rcases List.mem_cons.1 hx with rfl|hx
  ·have:=h.1;simp only[if_true];omega
  ·have:=Znm h.2 x hx
   by_cases e:(key x).1=(key y).1
   ·simp only[e,if_true]at this ⊢;omega
   ·simp only[if_neg e,if_neg (Ne.symm e)]at this ⊢;omega
theorem ZhL:∀ {l:List α}{c:Int→Int},VL key c l→∀ (h n:Int),c h≤n→n<c h+cnt key l h→∃ x∈l,key x=(h,n)
 |[],c,_,h,n,h1,h2=>by rw[Zfr]at h2;omega
 |y::l,c,hv,h,n,h1,h2=>by
  rw[Zcg]at h2
  by_cases e:(key y).1=h
  ·by_cases e2:n=c h
   ·refine⟨y,by simp,?_⟩
    have h3:=hv.1
    rw[e]at h3
    exact Prod.ext e (by rw[h3,e2])
   ·obtain⟨x,hx,hk⟩:=ZhL hv.2 h n (by rw[if_pos e.symm];omega) (by rw[if_pos e.symm];rw[if_pos e]at h2;omega)
    exact⟨x,by simp[hx],hk⟩
  ·obtain⟨x,hx,hk⟩:=ZhL hv.2 h n (by rw[if_neg (Ne.symm e)];omega) (by rw[if_neg (Ne.symm e)];rw[if_neg e]at h2;omega)
   exact⟨x,by simp[hx],hk⟩
def pos (l:List α) (e:Int×Int):Nat:=l.countP fun x=>decide (eLt (key x) e)
theorem ZoX (l:List α) (e:Int×Int):pos key l e≤l.length:=List.countP_le_length
def Zjy (l:List α) (r:α):List α:=l.take (pos key l (key r))++r::l.drop (pos key l (key r))
theorem Zru (x:α) (l:List α) (e:Int×Int):pos key (x::l) e=pos key l e+if eLt (key x) e then 1 else 0:=by
 unfold pos;rw[List.countP_cons];simp only[decide_eq_true_eq]
theorem Zrz {l:List α}{e:Int×Int} (H:∀ x∈l,¬ eLt (key x) e):pos key l e=0:=by
 unfold pos;rw[List.countP_eq_zero];intro x hx;simp[H x hx]
theorem Zgd:∀ {l:List α},Srt key l→∀ (e:Int×Int),(∀ x∈l.take (pos key l e),eLt (key x) e)∧(∀ x∈l.drop (pos key l e),¬ eLt (key x) e)
 |[],_,e=>by simp
 |y::l,hs,e=>by
  have hs':=List.pairwise_cons.1 hs
  by_cases h:eLt (key y) e
  ·obtain⟨h1,h2⟩:=Zgd hs'.2 e
   rw[Zru,if_pos h]
   refine⟨fun x hx=>?_,fun x hx=>?_⟩
   ·rw[List.take_succ_cons]at hx
    rcases List.mem_cons.1 hx with rfl|hx
    ·exact h
    ·exact h1 x hx
   ·rw[List.drop_succ_cons]at hx;exact h2 x hx
  ·have hz:pos key (y::l) e=0:=Zrz key (fun x hx=>by
    rcases List.mem_cons.1 hx with rfl|hx
    ·exact h
    ·intro hc;exact h (ZiC (hs'.1 x hx) hc))
   rw[hz]
   refine⟨by simp,fun x hx=>?_⟩
   rw[List.drop_zero]at hx
   rcases List.mem_cons.1 hx with rfl|hx
   ·exact h
   ·intro hc;exact h (ZiC (hs'.1 x hx) hc)
theorem Zjd {l:List α} (hs:Srt key l) (e:Int×Int) {i:Nat}{x:α} (hx:l[i]?=some x):eLt (key x) e↔i<pos key l e:=by
 obtain⟨h1,h2⟩:=Zgd key hs e
 constructor
 ·intro h
  rcases Nat.lt_or_ge i (pos key l e) with hi|hi
  ·exact hi
  ·exact absurd h (h2 x (List.mem_iff_getElem?.2 ⟨i - pos key l e,by rw[List.getElem?_drop,Nat.add_sub_cancel' hi];exact hx⟩))
 ·intro h
  exact h1 x (List.mem_iff_getElem?.2 ⟨i,by rw[List.getElem?_take,if_pos h];exact hx⟩)
theorem Zir {l:List α}{r x:α}:x∈Zjy key l r↔x=r∨x∈l:=by
 unfold Zjy
 rw[List.mem_append,List.mem_cons]
 constructor
 ·rintro(h|h|h)
  ·exact .inr (List.mem_of_mem_take h)
  ·exact .inl h
  ·exact .inr (List.mem_of_mem_drop h)
 ·rintro(h|h)
  ·exact .inr (.inl h)
  ·rw[←List.take_append_drop (pos key l (key r)) l,List.mem_append]at h
   rcases h with h|h
   ·exact .inl h
   ·exact .inr (.inr h)
theorem ZfS (l:List α) (r:α):(Zjy key l r).length=l.length+1:=by
 have:=ZoX key l (key r)
 unfold Zjy;simp;omega
theorem Zq5 (l:List α) (r:α) (h:Int):cnt key (Zjy key l r) h=cnt key l h+if (key r).1=h then 1 else 0:=by
 unfold Zjy
 rw[Zdm,Zcg]
 have:=Zdm key (l.take (pos key l (key r))) (l.drop (pos key l (key r))) h
 rw[List.take_append_drop]at this
 omega
theorem ZrL {l:List α} (hs:Srt key l) {r:α} (hn:∀ x∈l,key x≠key r):Srt key (Zjy key l r):=by
 obtain⟨h1,h2⟩:=Zgd key hs (key r)
 unfold Srt Zjy
 have h:=hs
 unfold Srt at h
 rw[←List.take_append_drop (pos key l (key r)) l,List.pairwise_append]at h
 rw[List.pairwise_append,List.pairwise_cons]
 refine⟨h.1,⟨fun x hx=>?_,h.2.1⟩,fun x hx y hy=>?_⟩
 ·rcases Zs7 (key x) (key r) with e|e|e
  ·exact absurd e (h2 x hx)
  ·exact absurd e (hn x (List.mem_of_mem_drop hx))
  ·exact e
 ·rcases List.mem_cons.1 hy with rfl|hy
  ·exact h1 x hx
  ·exact h.2.2 x hx y hy
theorem Znl {l:List α} (hv:Val key l):∀ x∈l,0≤(key x).2∧(key x).2<cnt key l (key x).1:=fun x hx=>by
 have:=Znm key hv.2 x hx;omega
theorem Zp5 {l:List α} (hv:Val key l) {h n:Int} (h0:0≤n) (h1:n<cnt key l h):∃ x∈l,key x=(h,n):=ZhL key hv.2 h n (by omega) (by omega)
theorem Zku {l:List α} (hv:Val key l) {r:α} (hr:(key r).2=cnt key l (key r).1):Val key (Zjy key l r):=by
 have hn:∀ x∈l,key x≠key r:=fun x hx e=>by
  have:=Znl key hv x hx
  rw[e]at this;omega
 refine⟨ZrL key hv.1 hn,?_⟩
 obtain⟨h1,h2⟩:=Zgd key hv.1 (key r)
 have hd:∀ x∈l.drop (pos key l (key r)),(key x).1≠(key r).1:=fun x hx e=>by
  have:=Znl key hv x (List.mem_of_mem_drop hx)
  apply h2 x hx
  rw[e]at this
  exact .inr ⟨e,by omega⟩
 have hv2:=hv.2
 rw[←List.take_append_drop (pos key l (key r)) l,Zeu]at hv2
 unfold Zjy
 rw[Zeu]
 refine⟨hv2.1,?_,?_⟩
 ·have e:=Zdm key (l.take (pos key l (key r))) (l.drop (pos key l (key r))) (key r).1
  rw[List.take_append_drop,ZqB key hd]at e
  rw[hr];show ((cnt key l (key r).1:Nat):Int)=0+((cnt key (l.take (pos key l (key r))) (key r).1:Nat):Int);omega
 ·refine ZfP key (fun x hx=>?_) hv2.2
  rw[if_neg (hd x hx)]
theorem Zm2:∀ {l m:List α},Srt key l→Srt key m→(∀ x,x∈l↔x∈m)→l=m
 |[],[],_,_,_=>rfl
 |[],y::m,_,_,h=>by have:=(h y).2 (by simp);simp at this
 |x::l,[],_,_,h=>by have:=(h x).1 (by simp);simp at this
 |x::l,y::m,hl,hm,h=>by
  have hl':=List.pairwise_cons.1 hl
  have hm':=List.pairwise_cons.1 hm
  have exy:x=y:=by
   rcases List.mem_cons.1 ((h x).1 (by simp)) with e|e
   ·exact e
   ·rcases List.mem_cons.1 ((h y).2 (by simp)) with e2|e2
    ·exact e2.symm
    ·exact absurd (hl'.1 y e2) (ZmN (hm'.1 x e))
  subst exy
  congr 1
  refine Zm2 hl'.2 hm'.2 fun z=>⟨fun hz=>?_,fun hz=>?_⟩
  ·rcases List.mem_cons.1 ((h z).1 (by simp[hz])) with e|e
   ·subst e;exact absurd (hl'.1 z hz) (Zgz _)
   ·exact e
  ·rcases List.mem_cons.1 ((h z).2 (by simp[hz])) with e|e
   ·subst e;exact absurd (hm'.1 z hz) (Zgz _)
   ·exact e
theorem Zp4 {l:List α} (hs:Srt key l) {x y:α} (hx:x∈l) (hy:y∈l) (e:key x=key y):x=y:=by
 obtain⟨i,hi⟩:=List.mem_iff_getElem?.1 hx
 obtain⟨j,hj⟩:=List.mem_iff_getElem?.1 hy
 have h1:=(Zjd key hs (key y) hi)
 have h2:=(Zjd key hs (key y) hj)
 have h3:=(Zjd key hs (key x) hi)
 have h4:=(Zjd key hs (key x) hj)
 have hij:i=j:=by
  rcases Nat.lt_trichotomy i j with h|h|h
  ·have hp:=List.pairwise_iff_getElem.1 hs i j (gS.1 hi).1 (gS.1 hj).1 h
   rw[(gS.1 hi).2,(gS.1 hj).2,e]at hp
   exact absurd hp (Zgz _)
  ·exact h
  ·have hp:=List.pairwise_iff_getElem.1 hs j i (gS.1 hj).1 (gS.1 hi).1 h
   rw[(gS.1 hi).2,(gS.1 hj).2,e]at hp
   exact absurd hp (Zgz _)
 subst hij
 exact oi (hi.symm.trans hj)
end
end Go.Abs
namespace Go.Abs
set_option linter.unusedVariables false
section
variable {α:Type} [DecidableEq α] (key:α→Int×Int)
def ZdV (l:List α) (e:Int×Int):Option α:=l.find? fun x=>decide (key x=e)
theorem Zhw {l:List α}{e:Int×Int}{x:α} (h:ZdV key l e=some x):x∈l∧key x=e:=by
 unfold ZdV at h
 have h1:=List.find?_some h
 exact⟨List.mem_of_find?_eq_some h,by simpa using h1⟩
theorem ZfR {l:List α}{e:Int×Int} (h:ZdV key l e=none):∀ x∈l,key x≠e:=by
 unfold ZdV at h
 rw[List.find?_eq_none]at h
 intro x hx;simpa using h x hx
theorem Zkk {l:List α}{e:Int×Int} (h:∀ x∈l,key x≠e):ZdV key l e=none:=by
 unfold ZdV;rw[List.find?_eq_none];intro x hx;simpa using h x hx
theorem ZmW {l:List α} (hs:Srt key l) {x:α} (hx:x∈l):ZdV key l (key x)=some x:=by
 cases h:ZdV key l (key x) with
 |none=>exact absurd rfl (ZfR key h x hx)
 |some y=>obtain⟨h1,h2⟩:=Zhw key h;rw[Zp4 key hs h1 hx h2]
theorem ZiE {l:List α} (hs:Srt key l) (e:Int×Int):ZdV key l e=(l[pos key l e]?).filter fun x=>decide (key x=e):=by
 cases h:ZdV key l e with
 |some x=>
  obtain⟨h1,h2⟩:=Zhw key h
  obtain⟨i,hi⟩:=List.mem_iff_getElem?.1 h1
  have hp:i=pos key l e:=by
   rcases Nat.lt_trichotomy i (pos key l e) with g|g|g
   ·have:=(Zjd key hs e hi).2 g;rw[h2]at this;exact absurd this (Zgz _)
   ·exact g
   ·have hlt:pos key l e<l.length:=by have:=(gS.1 hi).1;omega
    have hy:l[pos key l e]?=some l[pos key l e]:=gG hlt
    have h3:¬ eLt (key l[pos key l e]) e:=fun c=>by have:=(Zjd key hs e hy).1 c;omega
    have hp:=List.pairwise_iff_getElem.1 hs (pos key l e) i hlt (gS.1 hi).1 g
    rw[(gS.1 hi).2,h2]at hp
    exact absurd hp h3
  rw[←hp,hi]
  simp[Option.filter,h2]
 |none=>
  have hn:=ZfR key h
  cases hq:l[pos key l e]? with
  |none=>rfl
  |some y=>
   have:=hn y (List.mem_of_getElem? hq)
   simp[Option.filter,this]
def jn (out:List α) (r:α):Option (List α):=match ZdV key out (key r) with
 |some x=>if x=r then some out else none
 |none=>some (Zjy key out r)
def cs (a:List α) (m:Nat) (r:α):Option Nat:=match ZdV key a (key r) with
 |some x=>if x=r then some m else none
 |none=>some (m+1)
theorem Zro {out done m:List α}{r:α} (hv:Val key out) (hb:Val key (done++r::m)) (hd:∀ x∈done,x∈out) (hn:∀ x∈out,key x≠key r):(key r).2=cnt key out (key r).1:=by
 have h1:=(Zeu key).1 hb.2
 have h2:(key r).2=0+((cnt key done (key r).1:Nat):Int):=h1.2.1
 rcases Int.lt_trichotomy (key r).2 (cnt key out (key r).1) with h|h|h
 ·obtain⟨x,hx,hk⟩:=Zp5 key hv (h:=(key r).1) (n:=(key r).2) (by omega) h
  exact absurd hk (hn x hx)
 ·exact h
 ·obtain⟨x,hx,hk⟩:=ZhL key h1.1 (key r).1 (cnt key out (key r).1) (by omega) (by omega)
  have:=Znl key hv x (hd x hx)
  rw[hk]at this
  simp only at this
  omega
structure JI (a done out:List α) (more:Nat):Prop where
 mem:∀ x,x∈out↔x∈a∨x∈done
 val:Val key out
 len:out.length=a.length+more
theorem ZoN {a done m out:List α}{r:α}{more:Nat} (ha:Val key a) (hb:Val key (done++r::m)) (hJ:JI key a done out more):
  (∃ o c,jn key out r=some o∧cs key a more r=some c∧JI key a (done++[r]) o c)∨(jn key out r=none∧cs key a more r=none∧∃ x∈a,key x=key r∧x≠r):=by
 have hdis:∀ x∈done,key x≠key r:=fun x hx e=>by
  have:=(List.pairwise_append.1 hb.1).2.2 x hx r (by simp)
  rw[e]at this;exact Zgz _ this
 cases h:ZdV key out (key r) with
 |some x=>
  obtain⟨h1,h2⟩:=Zhw key h
  have hxa:x∈a:=by
   rcases (hJ.mem x).1 h1 with g|g
   ·exact g
   ·exact absurd h2 (hdis x g)
  have hfa:ZdV key a (key r)=some x:=by rw[←h2];exact ZmW key ha.1 hxa
  by_cases e:x=r
  ·left
   refine⟨out,more,by simp[jn,h,e],by simp[cs,hfa,e],⟨fun y=>?_,hJ.val,hJ.len⟩⟩
   rw[hJ.mem,List.mem_append,List.mem_singleton]
   constructor
   ·rintro(g|g)
    ·exact .inl g
    ·exact .inr (.inl g)
   ·rintro(g|g|g)
    ·exact .inl g
    ·exact .inr g
    ·subst g;exact .inl (e▸hxa)
  ·right
   exact⟨by simp[jn,h,e],by simp[cs,hfa,e],x,hxa,h2,e⟩
 |none=>
  have hn:=ZfR key h
  have hfa:ZdV key a (key r)=none:=Zkk key fun x hx=>hn x ((hJ.mem x).2 (.inl hx))
  left
  refine⟨Zjy key out r,more+1,by simp[jn,h],by simp[cs,hfa],⟨fun y=>?_,?_,?_⟩⟩
  ·rw[Zir,hJ.mem,List.mem_append,List.mem_singleton]
   constructor
   ·rintro(g|g|g)
    ·exact .inr (.inr g)
    ·exact .inl g
    ·exact .inr (.inl g)
   ·rintro(g|g|g)
    ·exact .inr (.inl g)
    ·exact .inr (.inr g)
    ·exact .inl g
  ·exact Zku key hJ.val (Zro key hJ.val hb (fun x hx=>(hJ.mem x).2 (.inr hx)) hn)
  ·rw[ZfS,hJ.len];omega
theorem ZmX {a:List α} (ha:Val key a):∀ (m done out:List α) (more:Nat),Val key (done++m)→JI key a done out more→
  (∃ o c,m.foldlM (jn key) out=some o∧m.foldlM (cs key a) more=some c∧JI key a (done++m) o c)∨(m.foldlM (jn key) out=none∧m.foldlM (cs key a) more=none∧∃ y∈m,∃ x∈a,key x=key y∧x≠y)
 |[],done,out,more,hb,hJ=>.inl ⟨out,more,rfl,rfl,by simpa using hJ⟩
 |r::m,done,out,more,hb,hJ=>by
  rcases ZoN key ha hb hJ with ⟨o,c,h1,h2,h3⟩|⟨h1,h2,x,hx,hk⟩
  ·rw[List.foldlM_cons,List.foldlM_cons,h1,h2]
   rcases ZmX ha m (done++[r]) o c (by simpa using hb) h3 with ⟨o',c',g1,g2,g3⟩|⟨g1,g2,y,hy,g3⟩
   ·exact .inl ⟨o',c',g1,g2,by simpa using g3⟩
   ·exact .inr ⟨g1,g2,y,by simp[hy],g3⟩
  ·exact .inr ⟨by rw[List.foldlM_cons,h1];rfl,by rw[List.foldlM_cons,h2];rfl,r,by simp,x,hx,hk⟩
theorem JI.nil (a:List α) (ha:Val key a):JI key a [] a 0:=⟨fun x=>by simp,ha,by simp⟩
end
end Go.Abs
namespace Go.Abs
set_option linter.unusedVariables false
section
variable {α:Type} (key:α→Int×Int)
def bk (out l:List α):List α:=l.foldl (Zjy key) out
structure BI (done out:List α):Prop where
 mem:∀ x,x∈out↔x∈done
 val:Val key out
 num:∀ h,cnt key out h=cnt key done h
 len:out.length=done.length
theorem BI.nil:BI key [] []:=⟨fun x=>Iff.rfl,⟨.nil,trivial⟩,fun h=>rfl,rfl⟩
theorem BI.step {done out:List α}{r:α} (hJ:BI key done out) (hr:(key r).2=cnt key done (key r).1):BI key (done++[r]) (Zjy key out r):=by
 refine⟨fun x=>?_,Zku key hJ.val (by rw[hJ.num];exact hr),fun h=>?_,?_⟩
 ·rw[Zir,hJ.mem,List.mem_append,List.mem_singleton];exact Or.comm
 ·rw[Zq5,hJ.num,Zdm,Zcg,Zfr];omega
 ·rw[ZfS,hJ.len];simp
theorem BI.no {done out:List α}{r:α} (hJ:BI key done out) (hr:(key r).2=cnt key done (key r).1):∀ x∈out,key x≠key r:=fun x hx e=>by
 have:=Znl key hJ.val x hx
 rw[e,hJ.num]at this;omega
theorem BI.all:∀ {m done out:List α},BI key done out→VL key (fun h=>cnt key done h) m→BI key (done++m) (bk key out m)
 |[],done,out,hJ,_=>by rw[List.append_nil];exact hJ
 |r::m,done,out,hJ,hv=>by
  have h1:=BI.step key hJ (r:=r) hv.1
  have:=BI.all (m:=m) h1 (ZfP key (fun x _=>by
   rw[Zdm,Zcg,Zfr]
   by_cases e:(key x).1=(key r).1
   ·rw[if_pos e,if_pos e.symm];simp
   ·rw[if_neg e,if_neg (Ne.symm e)];simp) hv.2)
  simpa [bk] using this
theorem BI.of {l:List α} (h:VL key (fun _=>0) l):BI key l (bk key [] l):=by
 have:=BI.all key (m:=l) (BI.nil key) h
 simpa using this
theorem Zfk {c:Int→Int}{l:List α} (h:VL key c l) (n:Nat):VL key c (l.take n):=by
 have:=h
 rw[←List.take_append_drop n l,Zeu]at this
 exact this.1
theorem Zui {l:List α} (h:VL key (fun _=>0) l) {x y:α} (hx:x∈l) (hy:y∈l) (e:key x=key y):x=y:=by
 have:=BI.of key h
 exact Zp4 key this.val.1 ((this.mem x).2 hx) ((this.mem y).2 hy) e
end
section
variable {α:Type} [DecidableEq α] (key:α→Int×Int)
end
end Go.Abs
namespace Go.Abs
open Go Go.Proofs
set_option maxRecDepth 20000
set_option linter.unusedVariables false
set_option linter.unusedSimpArgs false
theorem ZkA (s:ByteArray):s.toList=s.data.toList:=by
 have key:∀ (d i:Nat) (r:List UInt8),i+d=s.size→ByteArray.toList.loop s i r=r.reverse++s.data.toList.drop i:=by
  intro d
  induction d with
  |zero=>
   intro i r h
   rw[ByteArray.toList.loop,if_neg (by omega)]
   have hl:s.data.toList.length=s.size:=rfl
   rw[List.drop_of_length_le (by omega),List.append_nil]
  |succ d ih=>
   intro i r h
   have hl:s.data.toList.length=s.size:=rfl
   have hi:i<s.data.toList.length:=by omega
   rw[ByteArray.toList.loop,if_pos (by omega),ih (i+1) _ (by omega),List.drop_eq_getElem_cons hi]
   have e:s.get! i=s.data.toList[i]:=by
    show s.data[i]! = _
    rw[getElem!_pos s.data i (by simpa using hi)];simp
   rw[e];simp
 have:=key s.size 0 [] (by omega)
 simpa [ByteArray.toList] using this
theorem Zuz {a b:ByteArray}:a.toList=b.toList↔a=b:=by
 constructor
 ·intro h
  rw[ZkA,ZkA]at h
  cases a;cases b
  rename_i x y
  have:x=y:=Array.toList_inj.1 h
  rw[this]
 ·rintro rfl;rfl
def Zig (x r:Record):Bool:=(decide (x.At.House=r.At.House)&&(decide (x.At.No=r.At.No)&&(decide (x.Kind=r.Kind)&&(decide (x.Day=r.Day)&&(decide (x.Known=r.Known)&&(decide (x.Of.House=r.Of.House)&&(decide (x.Of.No=r.Of.No)&&(x.Text.toList==r.Text.toList))))))))
theorem Zhq {x r:Record}:Zig x r=true↔x=r:=by
 obtain⟨⟨a1,a2⟩,a3,a4,a5,⟨a6,a7⟩,a8⟩:=x
 obtain⟨⟨b1,b2⟩,b3,b4,b5,⟨b6,b7⟩,b8⟩:=r
 simp only[Zig,Bool.and_eq_true,decide_eq_true_eq,beq_iff_eq,Zuz,Record.mk.injEq,Entry.mk.injEq]
 constructor
 ·rintro⟨h1,h2,h3,h4,h5,h6,h7,h8⟩;exact⟨⟨h1,h2⟩,h3,h4,h5,⟨h6,h7⟩,h8⟩
 ·rintro⟨⟨h1,h2⟩,h3,h4,h5,⟨h6,h7⟩,h8⟩;exact⟨h1,h2,h3,h4,h5,h6,h7,h8⟩
theorem ZjJ (x:Record):Zig x x=true:=Zhq.2 rfl
theorem Znh {x r:Record} (h:x≠r):Zig x r=false:=by
 cases e:Zig x r with
 |false=>rfl
 |true=>exact absurd (Zhq.1 e) h
instance:DecidableEq Record:=fun x y=>decidable_of_iff (Zig x y=true) Zhq
def Zgo (a:Entry):Int×Int:=(a.House,a.No)
def Zax (r:Record):Int×Int:=(r.At.House,r.At.No)
def Zs4 (a b:Int):Int:=if a<b then -1 else if b<a then 1 else 0
def ZoC (a b:Entry):Int:=if Zs4 a.House b.House≠0 then Zs4 a.House b.House else Zs4 a.No b.No
theorem ZoH (a b:Entry):ZoC a b<0↔eLt (Zgo a) (Zgo b):=by
 unfold ZoC Zs4 eLt Zgo
 simp only
 repeat' split
 all_goals omega
theorem Zsn (a b:Entry):ZoC a b=0↔Zgo a=Zgo b:=by
 unfold ZoC Zs4 Zgo
 simp only[Prod.mk.injEq]
 repeat' split
 all_goals omega
theorem Zjr (k:Nat) (a b:Int):ZbP k a b=some (Zs4 a b):=by
 unfold ZbP ZcU Zs4
 simp only[Option.bind_some,cond_false]
 by_cases h:a<b
 ·simp[h]
 ·by_cases h2:b<a<;>simp[h,h2]
theorem Zrq {k:Nat} (hk:10<k) (a b:Int):ZaT k [a,b]=some (if a≠0 then a else b):=by
 obtain⟨m,rfl⟩:∃ m,k=m+3:=⟨k - 3,by omega⟩
 unfold ZaT
 have h0:at? [a,b] 0=some a:=rfl
 have h1:at? [a,b] 1=some b:=rfl
 have w0:w64 (0+1)=1:=by decide
 have w1:w64 (1+1)=2:=by decide
 have v1:w64 1=1:=by decide
 have v2:w64 2=2:=by decide
 have l2:decide ((2:Int)<(([a,b]:List Int).length:Int))=false:=rfl
 have l1:decide ((1:Int)<(([a,b]:List Int).length:Int))=true:=rfl
 have l0:decide ((0:Int)<(([a,b]:List Int).length:Int))=true:=rfl
 by_cases e:a=0
 ·subst e
  by_cases e2:b=0
  ·subst e2
   simp[whl,ZaT.b0,h0,h1,w0,w1,v1,v2,l0,l1,l2]
  ·simp[whl,ZaT.b0,h0,h1,w0,w1,v1,v2,l0,l1,l2,e2]
 ·simp[whl,ZaT.b0,h0,l0,e]
theorem ZeD {k:Nat} (hk:10<k) (a b:Entry):ZcH k a b=some (ZoC a b):=by
 unfold ZcH ZoC
 simp only[Zjr,Zrq hk,Option.bind_some]
theorem Zn6 {n:Nat} (h:n≤1000000):w64 (Int.fdiv (IntKind.u64.wrap (w64 (n:Int))) (2 ^ 1))=((n / 2:Nat):Int):=by
 have h1:IntKind.u64.wrap (n:Int)=n:=by
  simp only[IntKind.wrap,IntKind.bits,IntKind.signed]
  simp
  omega
 rw[ZaD (n:=(n:Int)) (by omega) (by omega),h1,Int.fdiv_eq_ediv_of_nonneg _ (by decide)]
 have:((n:Int) / 2 ^ 1)=((n / 2:Nat):Int):=by simp
 rw[this,ZaD (by omega) (by omega)]
theorem Zmy {k0:Nat} (hk0:10<k0) {l:List Record} (hs:Srt Zax l) (hl:l.length≤1000) (e:Entry):∀ (d i j k:Nat),j - i≤d→d<k→i≤pos Zax l (Zgo e)→pos Zax l (Zgo e)≤j→j≤l.length→
  whl (Zad.b0 k0 (fun q0 q1=>Zcl k0 q0 q1) l e) k ((i:Int),(j:Int))=some (.brk ((pos Zax l (Zgo e):Nat):Int)):=by
 intro d
 induction d with
 |zero=>
  intro i j k h1 h2 h3 h4 h5
  obtain⟨m,rfl⟩:∃ m,k=m+1:=⟨k - 1,by omega⟩
  have:i=pos Zax l (Zgo e):=by omega
  have hd:decide ((i:Int)<(j:Int))=false:=by simp;omega
  simp only[whl,Zad.b0,hd,cond_false]
  rw[this]
 |succ d ih=>
  intro i j k h1 h2 h3 h4 h5
  obtain⟨m,rfl⟩:∃ m,k=m+1:=⟨k - 1,by omega⟩
  by_cases hij:i<j
  ·have hd:decide ((i:Int)<(j:Int))=true:=by simp;omega
   have hm:w64 (Int.fdiv (IntKind.u64.wrap (w64 ((i:Int)+(j:Int)))) (2 ^ 1))=(((i+j) / 2:Nat):Int):=by
    have:=Zn6 (n:=i+j) (by omega)
    rw[←this];push_cast;rfl
   have hlt:(i+j) / 2<l.length:=by omega
   have hx:l[(i+j) / 2]?=some l[(i+j) / 2]:=gG hlt
   have hat:=Zjd Zax hs (Zgo e) hx
   have hf:Zcl k0 l[(i+j) / 2] e=some (ZoC l[(i+j) / 2].At e):=by
    unfold Zcl;rw[ZeD hk0];rfl
   have hc:=ZoH l[(i+j) / 2].At e
   have hkk:Zgo l[(i+j) / 2].At=Zax l[(i+j) / 2]:=rfl
   rw[hkk]at hc
   by_cases hp:(i+j) / 2<pos Zax l (Zgo e)
   ·have hneg:decide (ZoC l[(i+j) / 2].At e<0)=true:=decide_eq_true (hc.2 (hat.2 hp))
    have hw:w64 ((((i+j) / 2:Nat):Int)+1)=(((i+j) / 2+1:Nat):Int):=by rw[ZaD (by omega) (by omega)];push_cast;rfl
    simp only[whl,Zad.b0,hd,cond_true,hm,Zc6 hx,Option.bind_some,hf,hneg,hw]
    exact ih _ _ _ (by omega) (by omega) (by omega) h4 h5
   ·have hneg:decide (ZoC l[(i+j) / 2].At e<0)=false:=decide_eq_false (fun c=>hp (hat.1 (hc.1 c)))
    simp only[whl,Zad.b0,hd,cond_true,hm,Zc6 hx,Option.bind_some,hf,hneg,cond_false]
    exact ih _ _ _ (by omega) (by omega) h3 (by omega) (by omega)
  ·have:i=pos Zax l (Zgo e):=by omega
   have hd:decide ((i:Int)<(j:Int))=false:=by simp;omega
   simp only[whl,Zad.b0,hd,cond_false]
   rw[this]
theorem Zj3 {k:Nat} (hk:10000<k) {b:Book} (hs:Srt Zax b.Records) (hl:b.Records.length≤1000) (e:Entry):
  Zez k b e=some (((pos Zax b.Records (Zgo e):Nat):Int),(ZdV Zax b.Records (Zgo e)).isSome):=by
 unfold Zez Zad
 have h:=Zmy (k0:=k) (by omega) hs hl e b.Records.length 0 b.Records.length k (by omega) (by omega) (by omega) (ZoX Zax _ _) (by omega)
 rw[Int.natCast_zero]at h
 rw[h]
 simp only[Option.bind_some]
 rw[ZiE Zax hs]
 by_cases hp:pos Zax b.Records (Zgo e)<b.Records.length
 ·have hx:b.Records[pos Zax b.Records (Zgo e)]?=some b.Records[pos Zax b.Records (Zgo e)]:=gG hp
  have hd:decide (((pos Zax b.Records (Zgo e):Nat):Int)<(b.Records.length:Int))=true:=by simp;omega
  simp only[hd,cond_true,Zc6 hx,Option.bind_some]
  unfold Zcl
  rw[ZeD (by omega)]
  simp only[Option.bind_some,hx]
  have hc:=Zsn b.Records[pos Zax b.Records (Zgo e)].At e
  have hkk:Zgo b.Records[pos Zax b.Records (Zgo e)].At=Zax b.Records[pos Zax b.Records (Zgo e)]:=rfl
  rw[hkk]at hc
  by_cases he:Zax b.Records[pos Zax b.Records (Zgo e)]=Zgo e
  ·rw[hc.2 he];simp[Option.filter,he]
  ·simp[Option.filter,he,mt hc.1 he]
 ·have hx:b.Records[pos Zax b.Records (Zgo e)]?=none:=List.getElem?_eq_none (by omega)
  have hd:decide (((pos Zax b.Records (Zgo e):Nat):Int)<(b.Records.length:Int))=false:=by simp;omega
  simp only[hd,cond_false,hx]
  rfl
def Zhs (l:List Record):Vec 6 Int:=⟨[cnt Zax l 0,cnt Zax l 1,cnt Zax l 2,cnt Zax l 3,cnt Zax l 4,cnt Zax l 5],rfl⟩
theorem six {h:Int} (h0:0≤h) (h1:h≤5):h=0∨h=1∨h=2∨h=3∨h=4∨h=5:=by omega
theorem Zi9 (l:List Record) {h:Int} (h0:0≤h) (h1:h≤5):(Zhs l).at? h=some ((cnt Zax l h:Nat):Int):=by
 rcases six h0 h1 with rfl|rfl|rfl|rfl|rfl|rfl<;>rfl
theorem ZmL (l:List Record) (r:Record) (h0:0≤r.At.House) (h1:r.At.House≤5):(Zhs l).set r.At.House ((cnt Zax l r.At.House:Nat)+1:Int)=Zhs (l++[r]):=by
 have hc:∀ h,cnt Zax (l++[r]) h=cnt Zax l h+if r.At.House=h then 1 else 0:=fun h=>by
  rw[Zdm,Zcg,Zfr]
  show _+(0+if r.At.House=h then 1 else 0)=_
  omega
 apply Vec.ext
 unfold Zhs
 simp only[hc]
 rcases six h0 h1 with e|e|e|e|e|e<;>rw[e]<;>simp[Vec.set]
def ZcA (r:Record):Prop:=0≤r.At.House∧r.At.House≤5
theorem Zby {r:Record} (h:Zf8 r=true):ZcA r:=by
 unfold Zf8 ZgL within at h
 simp only[Bool.and_eq_true,decide_eq_true_eq]at h
 exact h.1.1
theorem ZkI (l:List Record) (h:Int):cnt Zax l h≤l.length:=List.countP_le_length
theorem Zns {τ:Type}{body:τ→Option (Stp τ (Vec 6 Int) (Vec 6 Int))} (mk:Int→Vec 6 Int→τ) {l:List Record} (hl:l.length≤100000) (hh:∀ r∈l,ZcA r) {k:Nat} (hk:1000000<k)
  (h1:∀ (i:Nat) r s,l[i]?=some r→body (mk i s)=(s.at? r.At.House).bind fun x=>some (.next (mk (w64 ((i:Int)+1)) (s.set r.At.House (w64 (x+1)))))) (h2:∀ s,body (mk l.length s)=some (.brk s)):
  whl body k (mk 0 (Vec.rep 6 (0:Int)))=some (.brk (Zhs l)):=by
 have h:=Zhi (l:=l) (body:=body) mk (fun s r=>match s.at? r.At.House with|some x=>s.set r.At.House (w64 (x+1))|none=>s) (fun i s=>s=Zhs (l.take i)) (by omega) (k:=k) (by omega) (s0:=Vec.rep 6 (0:Int)) (by rfl) (fun i r s hx hs=>by
  have hi:=(gS.1 hx).1
  have hr:=hh r (List.mem_of_getElem? hx)
  have e:l.take (i+1)=l.take i++[r]:=by rw[List.take_add_one,hx];rfl
  have hc:=ZkI (l.take i) r.At.House
  rw[List.length_take]at hc
  rw[h1 i r s hx,hs,Zi9 _ hr.1 hr.2]
  simp only[Option.bind_some]
  have hw:w64 (((cnt Zax (l.take i) r.At.House:Nat):Int)+1)=((cnt Zax (l.take i) r.At.House:Nat):Int)+1:=ZaD (by omega) (by omega)
  rw[hw,ZmL _ _ hr.1 hr.2,e]
  exact⟨trivial,rfl⟩) (fun s hs=>h2 s)
 have h3:=h.2
 rw[List.take_length]at h3
 rw[h.1,h3]
theorem Zj9 {k:Nat} (hk:1000000<k) {b:Book} (hl:b.Records.length≤100000) (hh:∀ r∈b.Records,ZcA r):ZaQ k b=some (Zhs b.Records):=by
 unfold ZaQ
 rw[Zns (l:=b.Records) (body:=ZaQ.b0 k b) (fun i s=>(s,i)) hl hh hk (fun i r s hx=>by
  have hi:=(gS.1 hx).1
  unfold ZaQ.b0
  simp only[decide_eq_true (show (i:Int)<(b.Records.length:Int) by omega),cond_true,Zc6 hx,Option.bind_some]) (fun s=>by
  unfold ZaQ.b0
  simp only[(by simp:decide ((b.Records.length:Int)<(b.Records.length:Int))=false),cond_false])]
 rfl
theorem Zgy {k:Nat}{l:List Record} (hl:l.length≤1000):ZaP k l=some l:=by
 unfold ZaP Zid
 rw[if_pos ⟨by omega,by omega⟩];rfl
theorem Zec {k:Nat}{b:Book} (hl:b.Records.length≤1000):Zdg k b=some b:=by
 unfold Zdg
 rw[Zgy hl];rfl
theorem ZhV {k:Nat}{l:List Record} (hl:l.length≤1000) (r:Record):ZaS k l ((pos Zax l (Zax r):Nat):Int) [r]=some (Zjy Zax l r):=by
 have:=ZoX Zax l (Zax r)
 unfold ZaS
 rw[if_pos ⟨⟨by omega,by omega⟩,rfl,⟨by omega,by omega⟩⟩]
 rfl
end Go.Abs
namespace Go.Abs
open Go Go.Proofs
set_option maxRecDepth 20000
set_option linter.unusedVariables false
set_option linter.unusedSimpArgs false
theorem Zjj (l:List Int) (n:Nat):Zlt l (n:Int)=if l.length<n then none else some (l.take n,l.drop n):=by
 unfold Zlt
 by_cases h:l.length<n
 ·rw[if_pos (by omega),if_pos h]
 ·rw[if_neg (by omega),if_neg h,Int.toNat_natCast]
theorem ZhA {k:Nat} (hk:100<k) {l:List Int} (hb:Byt l) {n:Nat} (hn:n≤5):ZlO k l (n:Int)=some (if l.length<n then none else some (rdV (l.take n),l.drop n)):=by
 unfold ZlO
 rw[Zjj]
 by_cases h:l.length<n
 ·simp only[if_pos h]
 ·simp only[if_neg h]
  have hl:(l.take n).length=n:=by rw[List.length_take];omega
  rw[ZtO (hb.take n) (by omega) (k:=k) (by omega) (fun i x s hx=>by
   have hi:=(gS.1 hx).1
   unfold Zvu
   simp only[decide_eq_true (show (i:Int)<((l.take n).length:Int) by omega),cond_true,Zc6 hx,Option.bind_some]) (fun s=>by
   unfold Zvu
   simp only[(by simp:decide (((l.take n).length:Int)<((l.take n).length:Int))=false),cond_false])]
  rfl
def Zwm (b tx:List Int):Record:=⟨⟨rdV (b.take 1),rdV ((b.drop 1).take 2)⟩,rdV ((b.drop 3).take 1),rdV ((b.drop 4).take 4),rdV ((b.drop 8).take 4),⟨rdV ((b.drop 12).take 1),rdV ((b.drop 13).take 2)⟩,Zmh tx⟩
def ZqE (b:List Int):Int:=rdV ((b.drop 15).take 1)
def Zqb (b:List Int):Option (Record×List Int):=
 if b.length<16 then none else if (b.length:Int)<16+ZqE b then none else some (Zwm b ((b.drop 16).take (ZqE b).toNat),(b.drop 16).drop (ZqE b).toNat)
theorem Znx {k:Nat} (hk:100<k) {b:List Int} (hb:Byt b):Zul k b=some (Zqb b):=by
 have N1:∀ {l:List Int},Byt l→ZlO k l 1=some (if l.length<1 then none else some (rdV (l.take 1),l.drop 1)):=fun h=>ZhA hk h (n:=1) (by omega)
 have N2:∀ {l:List Int},Byt l→ZlO k l 2=some (if l.length<2 then none else some (rdV (l.take 2),l.drop 2)):=fun h=>ZhA hk h (n:=2) (by omega)
 have N4:∀ {l:List Int},Byt l→ZlO k l 4=some (if l.length<4 then none else some (rdV (l.take 4),l.drop 4)):=fun h=>ZhA hk h (n:=4) (by omega)
 unfold Zul
 by_cases h16:b.length<16
 ·have e:Zqb b=none:=by unfold Zqb;rw[if_pos h16]
  rw[e,N1 hb,Option.bind_some]
  by_cases h1:b.length<1
  ·rw[if_pos h1]
  rw[if_neg h1];simp only
  rw[N2 (hb.drop _),Option.bind_some,List.length_drop,List.drop_drop]
  by_cases h1:b.length - 1<2
  ·rw[if_pos h1]
  rw[if_neg h1];simp only
  rw[N1 (hb.drop _),Option.bind_some,List.length_drop,List.drop_drop]
  by_cases h1:b.length - (1+2)<1
  ·rw[if_pos h1]
  rw[if_neg h1];simp only
  rw[N4 (hb.drop _),Option.bind_some,List.length_drop,List.drop_drop]
  by_cases h1:b.length - (1+2+1)<4
  ·rw[if_pos h1]
  rw[if_neg h1];simp only
  rw[N4 (hb.drop _),Option.bind_some,List.length_drop,List.drop_drop]
  by_cases h1:b.length - (1+2+1+4)<4
  ·rw[if_pos h1]
  rw[if_neg h1];simp only
  rw[N1 (hb.drop _),Option.bind_some,List.length_drop,List.drop_drop]
  by_cases h1:b.length - (1+2+1+4+4)<1
  ·rw[if_pos h1]
  rw[if_neg h1];simp only
  rw[N2 (hb.drop _),Option.bind_some,List.length_drop,List.drop_drop]
  by_cases h1:b.length - (1+2+1+4+4+1)<2
  ·rw[if_pos h1]
  rw[if_neg h1];simp only
  rw[N1 (hb.drop _),Option.bind_some,List.length_drop,List.drop_drop]
  rw[if_pos (by omega)]
 ·rw[N1 hb,Option.bind_some,if_neg (by omega)];simp only
  rw[N2 (hb.drop _),Option.bind_some,List.length_drop,List.drop_drop,if_neg (by omega)];simp only
  rw[N1 (hb.drop _),Option.bind_some,List.length_drop,List.drop_drop,if_neg (by omega)];simp only
  rw[N4 (hb.drop _),Option.bind_some,List.length_drop,List.drop_drop,if_neg (by omega)];simp only
  rw[N4 (hb.drop _),Option.bind_some,List.length_drop,List.drop_drop,if_neg (by omega)];simp only
  rw[N1 (hb.drop _),Option.bind_some,List.length_drop,List.drop_drop,if_neg (by omega)];simp only
  rw[N2 (hb.drop _),Option.bind_some,List.length_drop,List.drop_drop,if_neg (by omega)];simp only
  rw[N1 (hb.drop _),Option.bind_some,List.length_drop,List.drop_drop,if_neg (by omega)];simp only
  have hm:=ZjG ((hb.drop 15).take 1)
  have hM:rdV ((b.drop (1+2+1+4+4+1+2)).take 1)=ZqE b:=rfl
  rw[hM]
  have hm0:0≤ZqE b:=hm.1
  rw[if_pos hm0]
  obtain⟨m,hm'⟩:=Int.eq_ofNat_of_zero_le hm0
  unfold Zqb
  rw[if_neg h16,hm',Zjj,List.length_drop]
  by_cases hlt:(b.length:Int)<16+(m:Int)
  ·rw[if_pos hlt,if_pos (by omega)]
  ·rw[if_neg hlt,if_neg (by omega)]
   rfl
theorem Zkc {k:Nat} (hk:1000<k) {b:List Int} (hb:Byt b):
  Zef k b=some (match Zqb b with|none=>(⟨⟨0,0⟩,0,0,0,⟨0,0⟩,ByteArray.empty⟩,[],false)|some p=>(p.1,p.2,Zf8 p.1)):=by
 unfold Zef
 rw[Znx (by omega) hb]
 cases Zqb b with
 |none=>rfl
 |some p=>simp only[Option.bind_some,Zdr hk]
theorem rd1 {n:Int} (h0:0≤n) (h1:n<256):rdV (be n 1)=n:=by
 simp only[be,ZmD,rdV,rdA,List.foldl]
 rw[Int.fdiv_eq_ediv_of_nonneg _ (by decide)]
 simp
 omega
theorem rd2 {n:Int} (h0:0≤n) (h1:n<65536):rdV (be n 2)=n:=by
 simp only[be,ZmD,rdV,rdA,List.foldl]
 rw[Int.fdiv_eq_ediv_of_nonneg _ (by decide),Int.fdiv_eq_ediv_of_nonneg _ (by decide)]
 simp
 omega
theorem rd4 {n:Int} (h0:0≤n) (h1:n<4294967296):rdV (be n 4)=n:=by
 simp only[be,ZmD,rdV,rdA,List.foldl]
 rw[Int.fdiv_eq_ediv_of_nonneg _ (by decide),Int.fdiv_eq_ediv_of_nonneg _ (by decide),Int.fdiv_eq_ediv_of_nonneg _ (by decide),Int.fdiv_eq_ediv_of_nonneg _ (by decide)]
 simp
 omega
theorem ZdH (n:Int):∀ w,Byt (be n w)
 |0=>by intro x hx;simp[be]at hx
 |w+1=>by
  intro x hx
  rcases List.mem_cons.1 hx with rfl|hx
  ·rw[ZmD];omega
  ·exact ZdH n w x hx
theorem Zsl (s:ByteArray):Byt (Zgk s):=by
 intro x hx
 obtain⟨c,_,rfl⟩:=List.mem_map.1 hx
 have:=c.toNat_lt
 omega
theorem Byt.append {a b:List Int} (ha:Byt a) (hb:Byt b):Byt (a++b):=fun x hx=>by
 rcases List.mem_append.1 hx with h|h
 ·exact ha x h
 ·exact hb x h
theorem Zsj (r:Record):Byt (enc r):=by
 unfold enc
 exact((((((((ZdH _ _).append (ZdH _ _)).append (ZdH _ _)).append (ZdH _ _)).append (ZdH _ _)).append (ZdH _ _)).append (ZdH _ _)).append (ZdH _ _)).append (Zsl _)
theorem ZmQ (r:Record):(enc r).take 1=be r.At.House 1∧((enc r).drop 1).take 2=be r.At.No 2∧((enc r).drop 3).take 1=be r.Kind 1∧((enc r).drop 4).take 4=be r.Day 4∧((enc r).drop 8).take 4=be r.Known 4∧
  ((enc r).drop 12).take 1=be r.Of.House 1∧((enc r).drop 13).take 2=be r.Of.No 2∧((enc r).drop 15).take 1=be (r.Text.size:Int) 1∧(enc r).drop 16=Zgk r.Text:=by
 unfold enc
 simp[be]
theorem Zfb {r:Record} (h:Zf8 r=true):(0≤r.At.House∧r.At.House≤5)∧(0≤r.At.No∧r.At.No≤9999)∧(0≤r.Kind∧r.Kind≤40)∧(0≤r.Day∧r.Day≤100000)∧(0≤r.Known∧r.Known≤100000)∧(0≤r.Of.House∧r.Of.House≤5)∧(0≤r.Of.No∧r.Of.No≤9999):=by
 unfold Zf8 ZgL within at h
 simp only[Bool.and_eq_true,decide_eq_true_eq]at h
 obtain⟨⟨a1,a2⟩,a3,a4,a5,a6,h⟩:=h
 refine⟨a1,a2,a3,a4,a5,?_⟩
 by_cases hk:r.Kind=0
 ·simp only[hk,decide_true,Bool.not_true,cond_false,Bool.and_eq_true,decide_eq_true_eq]at h
  exact⟨h.2.2.1.1,h.2.2.1.2⟩
 ·simp only[hk,decide_false,Bool.not_false,cond_true,Bool.and_eq_true,decide_eq_true_eq]at h
  omega
theorem ZqG {r:Record} (ht:r.Text.size≤200):ZqE (enc r)=(r.Text.size:Int):=by
 unfold ZqE
 rw[(ZmQ r).2.2.2.2.2.2.2.1,rd1 (by omega) (by omega)]
theorem ZqH {r:Record} (h:Zf8 r=true) (l:List Int):Zqb (enc r++l)=some (r,l):=by
 have ht:=Zhp h
 have Zca:=Zkh r
 obtain⟨b1,b2,b3,b4,b5,b6,b7⟩:=Zfb h
 obtain⟨p1,p2,p3,p4,p5,p6,p7,p8,p9⟩:=ZmQ r
 have T:∀ (i n:Nat),i+n≤16→((enc r++l).drop i).take n=((enc r).drop i).take n:=fun i n hi=>by
  rw[List.drop_append_of_le_length (by omega),List.take_append_of_le_length (by rw[List.length_drop];omega)]
 have hM:ZqE (enc r++l)=(r.Text.size:Int):=by
  have:=ZqG ht
  unfold ZqE at this ⊢
  rw[T 15 1 (by omega)];exact this
 have hd:(enc r++l).drop 16=Zgk r.Text++l:=by
  rw[List.drop_append_of_le_length (by omega),p9]
 unfold Zqb
 rw[if_neg (by rw[List.length_append];omega),hM,if_neg (by rw[List.length_append];omega),hd,Int.toNat_natCast]
 have hsl:=Zc4 r.Text
 rw[List.take_append_of_le_length (by omega),List.drop_append_of_le_length (by omega),List.take_of_length_le (by omega),List.drop_of_length_le (by omega),List.nil_append]
 have t0:=T 0 1 (by omega)
 simp only[List.drop_zero]at t0
 unfold Zwm
 rw[t0,T 1 2 (by omega),T 3 1 (by omega),T 4 4 (by omega),T 8 4 (by omega),T 12 1 (by omega),T 13 2 (by omega),p1,p2,p3,p4,p5,p6,p7,
  rd1 b1.1 (by omega),rd2 b2.1 (by omega),rd1 b3.1 (by omega),rd4 b4.1 (by omega),rd4 b5.1 (by omega),rd1 b6.1 (by omega),rd2 b7.1 (by omega)]
 have hs:Zmh (Zgk r.Text)=r.Text:=Zm3 r.Text
 rw[hs]
end Go.Abs
namespace Go.Abs
open Go Go.Proofs
set_option maxRecDepth 20000
set_option linter.unusedVariables false
set_option linter.unusedSimpArgs false
def ZcC (h:Vec 32 Int):List Int:=(h.l.drop 8).take 23
def Zsa (c:List Int):List Int:=c++List.replicate (23*ZbI c.length - c.length) 0
theorem ZrR (n:Nat):n≤23*ZbI n:=by unfold ZbI;omega
theorem Zrs (c:List Int):(Zsa c).length=23*ZbI c.length:=by
 have:=ZrR c.length
 unfold Zsa;simp;omega
theorem Zoe (e n:Int) (c:List Int) {i:Nat} (hi:i<ZbI c.length):ZcC (Zdw e n (ZbI c.length) c i)=((Zsa c).drop (23*i)).take 23:=by
 have hlt:=ZrS hi
 unfold ZcC Zdw ZgN Zsa
 simp only
 rw[ZdA,ZkC]
 simp only[List.cons_append,List.nil_append,List.append_assoc,List.drop_succ_cons,List.drop_zero]
 rw[List.drop_append_of_le_length (by omega),←List.append_assoc,List.take_append_of_le_length (by simp;omega),List.take_of_length_le (by simp;omega)]
 rw[List.take_append,List.take_replicate,List.length_drop]
 congr 2
 have:=ZrR c.length
 omega
theorem ZrQ (P:List Int) (w:Nat):∀ n,((List.range n).map fun i=>(P.drop (w*i)).take w).flatten=P.take (w*n)
 |0=>by simp
 |n+1=>by
  rw[List.range_succ,List.map_append,List.flatten_append,ZrQ P w n]
  simp only[List.map_cons,List.map_nil,List.flatten_cons,List.flatten_nil,List.append_nil]
  rw[Nat.mul_succ,List.take_add]
theorem ZlY (e n:Int) (c:List Int):(((List.range (ZbI c.length)).map (Zdw e n (ZbI c.length) c)).map ZcC).flatten=Zsa c:=by
 have:(((List.range (ZbI c.length)).map (Zdw e n (ZbI c.length) c)).map ZcC)=(List.range (ZbI c.length)).map fun i=>((Zsa c).drop (23*i)).take 23:=by
  rw[List.map_map]
  apply List.map_congr_left
  intro i hi
  exact Zoe e n c (List.mem_range.1 hi)
 rw[this,ZrQ,←Zrs,List.take_length]
def Za7 (r:Record) (n e:Int):List (Vec 32 Int):=(List.range (ZbI (enc r).length)).map (Zdw e n (ZbI (enc r).length) (enc r))
theorem Zbm (r:Record) (n e:Int):(Za7 r n e).length=ZbI (enc r).length:=by simp[Za7]
theorem Zf1 (r:Record):0<ZbI (enc r).length:=by rw[Zkh];unfold ZbI;omega
theorem rd3 {n:Int} (h0:0≤n) (h1:n<16777216):rdV (be n 3)=n:=by
 simp only[be,ZmD,rdV,rdA,List.foldl]
 rw[Int.fdiv_eq_ediv_of_nonneg _ (by decide),Int.fdiv_eq_ediv_of_nonneg _ (by decide),Int.fdiv_eq_ediv_of_nonneg _ (by decide)]
 simp
 omega
theorem Zjk (v w:Vec 32 Int):Vec.eq (fun(x y:Int)=>decide (x=y)) v w=true↔v=w:=by
 constructor
 ·intro h
  unfold Vec.eq at h
  rw[List.all_eq_true]at h
  apply Vec.ext
  apply List.ext_getElem (by rw[v.h,w.h])
  intro i h1 h2
  have:=h (v.l[i],w.l[i]) (List.mem_iff_getElem.2 ⟨i,by simp;omega,by simp⟩)
  simpa using this
 ·rintro rfl;exact ZrM _
theorem Zpp {α R:Type}{body:Bool×Int→Option (Stp (Bool×Int) Bool R)}{a b:List α} (hab:a.length=b.length) (hl:a.length≤1000000) {eq:α→α→Bool} (he:∀ x y,eq x y=true↔x=y) {k:Nat} (hk:10000000<k)
  (h1:∀ (i:Nat) x y,a[i]?=some x→b[i]?=some y→body (true,(i:Int))=some (.next (eq x y,w64 ((i:Int)+1))))
  (h2:∀ i:Nat,i≤a.length→body (false,(i:Int))=some (.brk false)) (h3:body (true,(a.length:Int))=some (.brk true)):
  ∃ c:Bool,whl body k (true,0)=some (.brk c)∧(c=true↔a=b):=by
 have key:∀ (d i m:Nat),i+d=a.length→d+2≤m→∃ c:Bool,whl body m (true,(i:Int))=some (.brk c)∧(c=true↔a.drop i=b.drop i):=by
  intro d
  induction d with
  |zero=>
   intro i m h4 h5
   obtain⟨m,rfl⟩:∃ q,m=q+1:=⟨m - 1,by omega⟩
   have:i=a.length:=by omega
   subst this
   refine⟨true,by simp only[whl,h3],?_⟩
   rw[List.drop_of_length_le (Nat.le_refl _),List.drop_of_length_le (by omega)]
   simp
  |succ d ih=>
   intro i m h4 h5
   obtain⟨m,rfl⟩:∃ q,m=q+1:=⟨m - 1,by omega⟩
   have ha:a[i]?=some (a[i]'(by omega)):=gG (by omega)
   have hb:b[i]?=some (b[i]'(by omega)):=gG (by omega)
   have hw:w64 ((i:Int)+1)=((i+1:Nat):Int):=by rw[ZaD (by omega) (by omega)];omega
   rw[List.drop_eq_getElem_cons (show i<a.length by omega),List.drop_eq_getElem_cons (show i<b.length by omega)]
   simp only[whl,h1 i _ _ ha hb,hw]
   cases hq:eq (a[i]'(by omega)) (b[i]'(by omega)) with
   |true=>
    obtain⟨c,h6,h7⟩:=ih (i+1) m (by omega) (by omega)
    refine⟨c,h6,?_⟩
    rw[h7,(he _ _).1 hq]
    exact⟨fun h=>by rw[h],fun h=>(List.cons.inj h).2⟩
   |false=>
    obtain⟨m,rfl⟩:∃ q,m=q+1:=⟨m - 1,by omega⟩
    refine⟨false,by simp only[whl,h2 (i+1) (by omega)],?_⟩
    constructor
    ·intro h;cases h
    ·intro h
     have:=(List.cons.inj h).1
     rw[(he _ _).2 this]at hq;cases hq
 have:=key a.length 0 k (by omega) (by omega)
 simpa using this
end Go.Abs
namespace Go.Abs
open Go Go.Proofs
set_option maxRecDepth 20000
set_option linter.unusedVariables false
set_option linter.unusedSimpArgs false
section
variable {α:Type} (key:α→Int×Int)
theorem Zqf:∀ {l:List α}{c:Int→Int},VL key c l↔∀ (i:Nat) x,l[i]?=some x→(key x).2=c (key x).1+cnt key (l.take i) (key x).1
 |[],c=>by simp[VL]
 |y::l,c=>by
  unfold VL
  rw[Zqf (l:=l)]
  constructor
  ·rintro⟨h1,h2⟩ i x hx
   cases i with
   |zero=>cases hx;rw[h1];simp[Zfr]
   |succ i=>
    rw[List.getElem?_cons_succ]at hx
    rw[h2 i x hx,List.take_succ_cons,Zcg]
    by_cases e:(key x).1=(key y).1
    ·rw[if_pos e,if_pos e.symm];simp only[e];omega
    ·rw[if_neg e,if_neg (Ne.symm e)];omega
  ·intro h
   refine⟨?_,fun i x hx=>?_⟩
   ·have:=h 0 y rfl
    simpa [Zfr] using this
   ·have:=h (i+1) x (by rw[List.getElem?_cons_succ];exact hx)
    rw[this,List.take_succ_cons,Zcg]
    by_cases e:(key x).1=(key y).1
    ·rw[if_pos e,if_pos e.symm];simp only[e];omega
    ·rw[if_neg e,if_neg (Ne.symm e)];omega
theorem ZtP {l:List α} (h:∀ (i:Nat) x y,l[i]?=some x→l[i+1]?=some y→eLt (key x) (key y)):Srt key l:=by
 have key2:∀ (d i:Nat) x y,l[i]?=some x→l[i+1+d]?=some y→eLt (key x) (key y):=by
  intro d
  induction d with
  |zero=>exact h
  |succ d ih=>
   intro i x y hx hy
   have hl:=(gS.1 hy).1
   have hz:l[i+1+d]?=some (l[i+1+d]'(by omega)):=gG (by omega)
   exact ZiC (ih i x _ hx hz) (h _ _ _ hz hy)
 unfold Srt
 rw[List.pairwise_iff_getElem]
 intro i j hi hj hij
 have:=key2 (j - i - 1) i l[i] l[j] (gG hi) (by rw[show i+1+(j - i - 1)=j by omega];exact gG hj)
 exact this
end
def ZjF (l:List Record) (x:Record):Nat→Bool
 |0=>true
 |j+1=>match l[j]? with|none=>false|some y=>decide (eLt (Zax y) (Zax x))
def Zob (l:List Record) (i:Nat):Bool:=match l[i]? with
 |none=>false
 |some x=>Zf8 x&&(ZjF l x i&&decide (x.At.No=cnt Zax (l.take i) x.At.House))
theorem Zrp (l:List Record):(List.range l.length).all (Zob l)=true↔(∀ r∈l,Zf8 r=true)∧Val Zax l:=by
 rw[List.all_eq_true]
 constructor
 ·intro h
  have h':∀ (i:Nat) x,l[i]?=some x→Zob l i=true:=fun i x hx=>h i (List.mem_range.2 (gS.1 hx).1)
  refine⟨fun r hr=>?_,ZtP Zax (fun i x y hx hy=>?_),(Zqf Zax).2 fun i x hx=>?_⟩
  ·obtain⟨i,hi⟩:=List.mem_iff_getElem?.1 hr
   have:=h' i r hi
   unfold Zob at this
   rw[hi]at this
   simp only[Bool.and_eq_true]at this
   exact this.1
  ·have:=h' (i+1) y hy
   unfold Zob at this
   rw[hy]at this
   simp only[ZjF,hx,Bool.and_eq_true,decide_eq_true_eq]at this
   exact this.2.1
  ·have:=h' i x hx
   unfold Zob at this
   rw[hx]at this
   simp only[Bool.and_eq_true,decide_eq_true_eq]at this
   have h2:=this.2.2
   show x.At.No=0+_
   rw[Int.zero_add]
   exact h2
 ·rintro⟨h1,h2,h3⟩ i hi
  rw[List.mem_range]at hi
  have hx:l[i]?=some l[i]:=gG hi
  unfold Zob
  rw[hx]
  simp only[Bool.and_eq_true,decide_eq_true_eq]
  refine⟨h1 _ (List.getElem_mem hi),?_,?_⟩
  ·cases i with
   |zero=>rfl
   |succ j=>
    have hy:l[j]?=some l[j]:=gG (by omega)
    simp only[ZjF,hy,decide_eq_true_eq]
    exact List.pairwise_iff_getElem.1 h2 j (j+1) (by omega) hi (by omega)
  ·have:=(Zqf Zax).1 h3 i _ hx
   have h4:l[i].At.No=0+((cnt Zax (l.take i) l[i].At.House:Nat):Int):=this
   omega
def ZjZ (l:List Record):Bool:=!decide ((60:Int)<(l.length:Int))&&(List.range l.length).all (Zob l)
theorem Zi2 {l:List Record}:ZjZ l=true↔l.length≤60∧(∀ r∈l,Zf8 r=true)∧Val Zax l:=by
 unfold ZjZ
 rw[Bool.and_eq_true,Zrp]
 simp only[Bool.not_eq_true',decide_eq_false_iff_not]
 constructor
 ·rintro⟨h1,h2⟩;exact⟨by omega,h2⟩
 ·rintro⟨h1,h2⟩;exact⟨by omega,h2⟩
theorem Zle {S:Type} (p:Nat→Bool) (g:Nat→S):∀ (L:List Nat) (s:S),(L.foldlM (fun s i=>if p i then some (g i) else none) s).isSome=L.all p
 |[],s=>rfl
 |i::L,s=>by
  rw[List.foldlM_cons,List.all_cons]
  cases h:p i with
  |true=>simpa using Zle p g L (g i)
  |false=>rfl
theorem Zt5 {l:List Record}{i:Nat}{y:Record} (h:l[i]?=some y) (hi:i<1000):at? l (w64 (((i+1:Nat):Int) - 1))=some y:=by
 rw[ZaD (by omega) (by omega)]
 have e:((i+1:Nat):Int) - 1=(i:Int):=by omega
 rw[e];exact Zc6 h
theorem Zfp {k:Nat} (hk:1000000<k) (b:Book):ZaN k b=some (bif ZjZ b.Records then 0 else 91):=by
 unfold ZaN ZjZ
 by_cases hl:(60:Int)<(b.Records.length:Int)
 ·simp[hl]
 ·simp only[decide_eq_false hl,cond_false,Bool.not_false,Bool.true_and]
  have h:=ZpJ (n:=b.Records.length) (body:=ZaN.b0 k b) (fun i s=>(s,i)) (fun _=>()) (fun s i=>if Zob b.Records i then some (Zhs (b.Records.take (i+1))) else none) (91:Int)
   (fun i s=>s=Zhs (b.Records.take i)∧∀ r∈b.Records.take i,ZcA r) (by omega) (k:=k) (by omega) (s0:=Vec.rep 6 (0:Int)) ⟨rfl,by simp⟩ (fun i s hi hs=>by
   obtain⟨x,hx⟩:∃ x,b.Records[i]?=some x:=⟨_,gG hi⟩
   have e:b.Records.take (i+1)=b.Records.take i++[x]:=by rw[List.take_add_one,hx];rfl
   obtain⟨rfl,hh⟩:=hs
   have hc:=ZkI (b.Records.take i) x.At.House
   rw[List.length_take]at hc
   have hok:Zob b.Records i=(Zf8 x&&(ZjF b.Records x i&&decide (x.At.No=cnt Zax (b.Records.take i) x.At.House))):=by
    unfold Zob;rw[hx]
   have hw:w64 (((cnt Zax (b.Records.take i) x.At.House:Nat):Int)+1)=((cnt Zax (b.Records.take i) x.At.House:Nat):Int)+1:=ZaD (by omega) (by omega)
   refine⟨?_,fun s' hs'=>?_⟩
   ·rw[hok]
    unfold ZaN.b0
    simp only[decide_eq_true (show (i:Int)<(b.Records.length:Int) by omega),cond_true,Zc6 hx,Option.bind_some,Zdr (show 1000<k by omega)]
    cases hr:Zf8 x with
    |false=>rfl
    |true=>
     have hho:=Zby hr
     simp only[cond_true,Bool.true_and,Zi9 _ hho.1 hho.2,Option.bind_some,hw,ZmL _ _ hho.1 hho.2,←e]
     cases i with
     |zero=>
      simp only[(by decide:decide ((0:Int)<((0:Nat):Int))=false),cond_false,ZjF,Bool.true_and]
      by_cases hn:x.At.No=((cnt Zax (b.Records.take 0) x.At.House:Nat):Int)
      ·simp only[decide_eq_true hn,Bool.not_true,cond_false,if_true]
      ·simp only[decide_eq_false hn,Bool.not_false,cond_true,Bool.false_eq_true,if_false]
     |succ j=>
      obtain⟨y,hy⟩:∃ y,b.Records[j]?=some y:=⟨_,gG (by omega)⟩
      have hcl:=ZoH y.At x.At
      have hkk:Zgo y.At=Zax y:=rfl
      have hkk2:Zgo x.At=Zax x:=rfl
      rw[hkk,hkk2]at hcl
      simp only[(by simp:decide ((0:Int)<((j+1:Nat):Int))=true),cond_true,Zt5 hy (by omega),Option.bind_some,ZeD (show 10<k by omega),ZjF,hy]
      by_cases hlt:eLt (Zax y) (Zax x)
      ·have hneg:=hcl.2 hlt
       simp only[decide_eq_false (show ¬ (0:Int)≤ZoC y.At x.At by omega),Bool.not_false,cond_true,decide_eq_true hlt,Bool.true_and]
       by_cases hn:x.At.No=((cnt Zax (b.Records.take (j+1)) x.At.House:Nat):Int)
       ·simp only[decide_eq_true hn,Bool.not_true,cond_false,if_true]
       ·simp only[decide_eq_false hn,Bool.not_false,cond_true,Bool.false_eq_true,if_false]
      ·have hneg:(0:Int)≤ZoC y.At x.At:=by
        have:=mt hcl.1 hlt;omega
       simp only[decide_eq_true hneg,Bool.not_true,cond_false,decide_eq_false hlt,Bool.false_and,Bool.false_eq_true,if_false]
   ·cases ho:Zob b.Records i with
    |false=>rw[ho]at hs';cases hs'
    |true=>
     rw[ho]at hs'
     have:Zhs (b.Records.take (i+1))=s':=oi hs'
     refine⟨this.symm,fun r hr=>?_⟩
     rw[e,List.mem_append,List.mem_singleton]at hr
     rcases hr with hr|rfl
     ·exact hh r hr
     ·rw[hok]at ho
      simp only[Bool.and_eq_true]at ho
      exact Zby ho.1) (fun s hs=>by
   unfold ZaN.b0
   simp only[(by simp:decide ((b.Records.length:Int)<(b.Records.length:Int))=false),cond_false])
  have h1:=h.1
  rw[h1]
  have h2:=Zle (Zob b.Records) (fun i=>Zhs (b.Records.take (i+1))) (List.range b.Records.length) (Vec.rep 6 (0:Int))
  cases hq:(List.range b.Records.length).foldlM (fun s i=>if Zob b.Records i then some (Zhs (b.Records.take (i+1))) else none) (Vec.rep 6 (0:Int)) with
  |none=>rw[hq]at h2;rw[←h2];rfl
  |some s=>rw[hq]at h2;rw[←h2];rfl
end Go.Abs
namespace Go.Abs
open Go Go.Proofs
set_option maxRecDepth 20000
set_option linter.unusedVariables false
set_option linter.unusedSimpArgs false
def ZjT (l:List Record) (r:Record):List Record×Int:=match ZdV Zax l (Zax r) with
 |some x=>if x=r then (l,0) else ([],92)
 |none=>if (cnt Zax l r.At.House:Int)<r.At.No then ([],93) else if (l.length:Int)=60 then ([],2) else (Zjy Zax l r,0)
theorem ZeB {k:Nat} (hk:1000000<k) {b:Book} (hs:Srt Zax b.Records) (hl:b.Records.length≤900) (hh:∀ r∈b.Records,ZcA r) (r:Record):
  ZcL k b r=some (bif Zf8 r then (⟨(ZjT b.Records r).1⟩,(ZjT b.Records r).2) else (⟨[]⟩,90)):=by
 unfold ZcL
 rw[Zdr (by omega)]
 simp only[Option.bind_some]
 cases hr:Zf8 r with
 |false=>rfl
 |true=>
  have hho:=Zby hr
  have hkk:Zgo r.At=Zax r:=rfl
  simp only[Bool.not_true,cond_false,cond_true,Zj3 (show 10000<k by omega) hs (show b.Records.length≤1000 by omega),Option.bind_some,hkk]
  unfold ZjT
  cases hf:ZdV Zax b.Records (Zax r) with
  |some x=>
   have hp:=ZiE Zax hs (Zax r)
   rw[hf]at hp
   have hx:b.Records[pos Zax b.Records (Zax r)]?=some x:=by
    cases hq:b.Records[pos Zax b.Records (Zax r)]? with
    |none=>rw[hq]at hp;cases hp
    |some y=>
     rw[hq]at hp
     simp only[Option.filter]at hp
     split at hp
     ·exact hp.symm
     ·cases hp
   simp only[Option.isSome_some,cond_true,Zc6 hx,Option.bind_some]
   by_cases e:x=r
   ·subst e
    have:=ZjJ x
    unfold Zig at this
    rw[this]
    simp only[cond_true,Zec (show b.Records.length≤1000 by omega),Option.bind_some,if_true]
   ·have:=Znh e
    unfold Zig at this
    rw[this]
    simp only[cond_false,if_neg e]
  |none=>
   simp only[Option.isSome_none,cond_false,Zj9 hk (show b.Records.length≤100000 by omega) hh,Option.bind_some,Zi9 _ hho.1 hho.2]
   by_cases hc:((cnt Zax b.Records r.At.House:Nat):Int)<r.At.No
   ·simp only[decide_eq_true hc,cond_true,if_pos hc]
   ·simp only[decide_eq_false hc,cond_false,if_neg hc]
    by_cases h60:(b.Records.length:Int)=60
    ·simp only[decide_eq_true h60,cond_true,if_pos h60]
    ·simp only[decide_eq_false h60,cond_false,if_neg h60,Zgy (show b.Records.length≤1000 by omega),Option.bind_some,ZhV (show b.Records.length≤1000 by omega)]
end Go.Abs
namespace Go.Abs
open Go Go.Proofs
set_option maxRecDepth 20000
set_option linter.unusedVariables false
set_option linter.unusedSimpArgs false
def ZsF (a b:List Record):Book×Int:=
 bif ZjZ a&&ZjZ b then match b.foldlM (jn Zax) a with
  |none=>(⟨[]⟩,92)
  |some o=>bif decide ((60:Int)<(o.length:Int)) then (⟨[]⟩,2) else (⟨o⟩,0)
 else (⟨[]⟩,91)
theorem ZrI {α:Type}{l:List α}{i:Nat}{x:α} (h:l[i]?=some x):l=l.take i++x::l.drop (i+1):=by
 obtain⟨hl,he⟩:=gS.1 h
 rw[←he,←List.drop_eq_getElem_cons hl,List.take_append_drop]
theorem ZhJ {α:Type}{l:List α}{i:Nat}{x:α} (h:l[i]?=some x):l.take (i+1)=l.take i++[x]:=by
 rw[List.take_add_one,h];rfl
theorem JI.house {a done out:List Record}{more:Nat} (h:JI Zax a done out more) (ha:∀ r∈a,ZcA r) (hd:∀ r∈done,ZcA r):∀ r∈out,ZcA r:=fun r hr=>by
 rcases (h.mem r).1 hr with g|g
 ·exact ha r g
 ·exact hd r g
theorem ZnM {k:Nat} (hk:1000000<k) (a b:Book):ZaW k a b=some (ZsF a.Records b.Records):=by
 unfold ZaW ZsF
 rw[Zfp hk,Zfp hk]
 cases hva:ZjZ a.Records with
 |false=>rfl
 |true=>
  cases hvb:ZjZ b.Records with
  |false=>rfl
  |true=>
   obtain⟨la,ra,va⟩:=Zi2.1 hva
   obtain⟨lb,rb,vb⟩:=Zi2.1 hvb
   have hcp:ZcW k a=some a:=by
    unfold ZcW
    rw[Zgy (by omega)];rfl
   simp only[cond_true,Bool.and_self,Option.bind_some,decide_true,Bool.not_true,cond_false,hcp]
   have h:=Zoj (l:=b.Records) (body:=ZaW.b0 k b) (fun i s=>(i,s)) (fun s=>s) (jn Zax) ((⟨[]⟩:Book),(92:Int)) (fun i s=>∃ more,JI Zax a.Records (b.Records.take i) s more∧more≤i) (by omega) (k:=k) (by omega) (s0:=a.Records) ⟨0,JI.nil Zax _ va,Nat.le_refl _⟩ (fun i r s hx hs=>by
    have hi:=(gS.1 hx).1
    obtain⟨more,hJ,hm⟩:=hs
    have hsl:=hJ.len
    have hh:=hJ.house (fun r hr=>Zby (ra r hr)) (fun r hr=>Zby (rb r (List.mem_of_mem_take hr)))
    have hv2:=vb
    rw[ZrI hx]at hv2
    have hstep:=ZoN Zax va hv2 hJ
    refine⟨?_,fun s' hs'=>?_⟩
    ·unfold ZaW.b0
     have hkk:Zgo r.At=Zax r:=rfl
     simp only[decide_eq_true (show (i:Int)<(b.Records.length:Int) by omega),cond_true,Zc6 hx,Option.bind_some,Zj3 (b:=⟨s⟩) (show 10000<k by omega) hJ.val.1 (show s.length≤1000 by omega),hkk]
     unfold jn
     cases hf:ZdV Zax s (Zax r) with
     |some x=>
      have hp:=ZiE Zax hJ.val.1 (Zax r)
      rw[hf]at hp
      have hxx:s[pos Zax s (Zax r)]?=some x:=by
       cases hq:s[pos Zax s (Zax r)]? with
       |none=>rw[hq]at hp;cases hp
       |some y=>
        rw[hq]at hp
        simp only[Option.filter]at hp
        split at hp
        ·exact hp.symm
        ·cases hp
      simp only[Option.isSome_some,cond_true,Zc6 hxx,Option.bind_some]
      by_cases e:x=r
      ·subst e
       have:=ZjJ x
       unfold Zig at this
       rw[this]
       simp only[Bool.not_true,cond_false,if_true]
      ·have:=Znh e
       unfold Zig at this
       rw[this]
       simp only[Bool.not_false,cond_true,if_neg e]
     |none=>
      simp only[Option.isSome_none,cond_false,ZhV (show s.length≤1000 by omega),Option.bind_some]
    ·rcases hstep with ⟨o,c,h1,h2,h3⟩|⟨h1,_⟩
     ·have:o=s':=oi (h1.symm.trans hs')
      subst this
      rw[ZhJ hx]
      refine⟨c,h3,?_⟩
      have h4:=h2
      unfold cs at h4
      split at h4
      ·split at h4
       ·cases h4;omega
       ·cases h4
      ·cases h4;omega
     ·rw[h1]at hs';cases hs') (fun s hs=>by
    unfold ZaW.b0
    simp only[(by simp:decide ((b.Records.length:Int)<(b.Records.length:Int))=false),cond_false])
   have h1:=h.1
   rw[h1]
   cases b.Records.foldlM (jn Zax) a.Records with
   |none=>rfl
   |some o=>
    simp only[Option.bind_some]
    cases decide ((60:Int)<(o.length:Int))<;>rfl
theorem ZhC {k:Nat} (hk:10000000<k) {a b:List Record} (hl:a.length≤1000):∃ c:Bool,Zaw k a b=some c∧(c=true↔a=b):=by
 unfold Zaw
 by_cases hab:a.length=b.length
 ·obtain⟨c,h1,h2⟩:=Zpp (body:=Zaw.b0 k a b) (eq:=Zig) hab (by omega) (fun x y=>Zhq) hk (fun i x y hx hy=>by
   have hi:=(gS.1 hx).1
   unfold Zaw.b0 Zig
   simp only[decide_eq_true (show (i:Int)<(a.length:Int) by omega),cond_true,Zc6 hx,Zc6 hy,Option.bind_some]) (fun i hi=>by
   unfold Zaw.b0
   by_cases h:(i:Int)<(a.length:Int)<;>simp[h]) (by
   unfold Zaw.b0
   simp only[(by simp:decide ((a.length:Int)<(a.length:Int))=false),cond_false])
  refine⟨c,?_,h2⟩
  have hd:decide ((a.length:Int)=(b.length:Int))=true:=by simp[hab]
  rw[hd,h1]
  rfl
 ·refine⟨false,?_,?_⟩
  ·have hd:decide ((a.length:Int)=(b.length:Int))=false:=by simp;omega
   obtain⟨m,rfl⟩:∃ q,k=q+1:=⟨k - 1,by omega⟩
   have:Zaw.b0 (m+1) a b (false,0)=some (.brk false):=by
    unfold Zaw.b0
    by_cases h:(0:Int)<(a.length:Int)<;>simp[h]
   rw[hd]
   simp only[whl,this]
   rfl
  ·constructor
   ·intro h;cases h
   ·rintro rfl;exact absurd rfl hab
theorem Zkq {k:Nat} (hk:10000000<k) {a:Book} (hl:a.Records.length≤1000):ZbT k a a=some true:=by
 obtain⟨c,h1,h2⟩:=ZhC hk (a:=a.Records) (b:=a.Records) hl
 unfold ZbT
 rw[h1,h2.2 rfl];rfl
end Go.Abs
namespace Go.Abs
open Go Go.Proofs
set_option maxRecDepth 20000
set_option linter.unusedVariables false
set_option linter.unusedSimpArgs false
theorem Zc8 (k:Nat) (n:Int) {m:Int} (h0:0<m) (h1:m≤4611686018427387904):Zco k n m=some (n % m):=by
 unfold Zco nz?
 rw[if_neg (by omega)]
 simp only[Option.bind_some]
 have b1:Int.tmod n m<m:=Int.tmod_lt_of_pos n h0
 have b2:-m<Int.tmod n m:=by
  rcases Int.le_total 0 n with h|h
  ·have:=Int.tmod_nonneg m h
   omega
  ·have:=Int.tmod_lt_of_pos (-n) h0
   rw[Int.neg_tmod]at this
   omega
 have e1:Int.tmod n m % m=n % m:=by
  have:=Int.mul_tdiv_add_tmod n m
  rw[←this,Int.add_comm,Int.add_mul_emod_self_left]
  congr 1
  have e:=Int.mul_tdiv_add_tmod n m
  rw[Int.add_comm]at e
  rw[e]
 rw[ZaD (by omega) (by omega),Int.tmod_eq_emod_of_nonneg (by omega),Int.add_emod_right,e1]
theorem Ze1 (n:Int) {m:Int} (h0:0<m):0≤n % m∧n % m<m:=⟨Int.emod_nonneg _ (by omega),Int.emod_lt_of_pos _ h0⟩
theorem Zwv (v:Vec 5 Int):∃ a b c d e,v=⟨[a,b,c,d,e],rfl⟩:=by
 obtain⟨l,h⟩:=v
 match l,h with
 |[a,b,c,d,e],h=>exact⟨a,b,c,d,e,rfl⟩
end Go.Abs
namespace Go.Abs
open Go Go.Proofs
set_option maxRecDepth 20000
set_option linter.unusedVariables false
set_option linter.unusedSimpArgs false
def ZvK:Record:=⟨⟨0,0⟩,0,0,0,⟨0,0⟩,ByteArray.empty⟩
end Go.Abs
namespace Go.Abs
open Go Go.Proofs
set_option maxRecDepth 20000
set_option linter.unusedVariables false
set_option linter.unusedSimpArgs false
abbrev Hf:=Vec 32 Int
abbrev Pg:=Vec 2 Hf
def hz:Hf:=Vec.rep 32 0
def hf (p:List Pg) (a i:Nat):Hf:=match p[301*a+i / 2]? with
 |some g=>(g.l[i % 2]?).getD hz
 |none=>hz
theorem Zp8 (g:Pg) (i:Nat):g.at? ((i % 2:Nat):Int)=some ((g.l[i % 2]?).getD hz):=by
 have h:=g.h
 have hi:i % 2<g.l.length:=by omega
 unfold Vec.at?
 rw[if_pos (by omega),Int.toNat_natCast,gG hi];rfl
theorem Zun {p:List Pg} (hp:p.length=602) {a i:Nat} (ha:a≤1) (hi:i<602):w64 ((w64 ((a:Int)*301))+(w64 (Int.tdiv (i:Int) 2)))=((301*a+i / 2:Nat):Int):=by
 have e:Int.tdiv (i:Int) 2=((i / 2:Nat):Int):=by
  rw[show (2:Int)=((2:Nat):Int) from rfl,←Int.ofNat_tdiv]
 rw[e,ZaD (n:=(a:Int)*301) (by omega) (by omega),ZaD (n:=((i / 2:Nat):Int)) (by omega) (by omega),ZaD (by omega) (by omega)]
 omega
theorem ZsQ (i:Nat):Int.tmod (i:Int) 2=((i % 2:Nat):Int):=by
 rw[show (2:Int)=((2:Nat):Int) from rfl,←Int.ofNat_tmod]
theorem Zhy (k:Nat) {p:List Pg} (hp:p.length=602) (w:List Write) {a i:Nat} (ha:a≤1) (hi:i<602):ZaZ k ⟨⟨p,w⟩⟩ (a:Int) (i:Int)=some (hf p a i):=by
 unfold ZaZ hf
 have hx:p[301*a+i / 2]?=some (p[301*a+i / 2]'(by omega)):=gG (by omega)
 simp only[Zun hp ha hi,Zc6 hx,Option.bind_some,ZsQ,Zp8,hx]
theorem ZoW {n b:Int}{s:Nat} (hs:s≤32) (h0:0≤n) (h1:n<1073741824) (h2:0≤b) (h3:b<2 ^ s):bOr .i64 (n*2 ^ s) b=n*2 ^ s+b:=by
 obtain⟨m,rfl⟩:=Int.eq_ofNat_of_zero_le h0
 obtain⟨c,rfl⟩:=Int.eq_ofNat_of_zero_le h2
 have hp:(2:Nat) ^ s≤2 ^ 32:=Nat.pow_le_pow_right (by decide) hs
 have hc:c<2 ^ s:=by
  have:((2:Int) ^ s)=((2 ^ s:Nat):Int):=by push_cast;rfl
  rw[this]at h3;omega
 have hm:m<4294967296:=by omega
 have hmp:m*2 ^ s<4294967296*4294967296:=Nat.mul_lt_mul_of_lt_of_le hm hp (by decide)
 have e:((m:Int)*2 ^ s)=((m*2 ^ s:Nat):Int):=by push_cast;rfl
 rw[e]
 unfold bOr
 have t:∀ x:Nat,x<18446744073709551616→(BitVec.ofInt IntKind.i64.bits (x:Int)).toNat=x:=fun x hx=>by
  rw[BitVec.toNat_ofInt]
  have:(x:Int) % ((2 ^ IntKind.i64.bits:Nat):Int)=(x:Int):=by
   rw[show ((2 ^ IntKind.i64.bits:Nat):Int)=18446744073709551616 from rfl];omega
  rw[this];omega
 have hm2:m*2 ^ s<9223372036854775808 - 4294967296:=by
  have:m*2 ^ s≤m*4294967296:=Nat.mul_le_mul_left _ hp
  omega
 rw[BitVec.toNat_or,t _ (by omega),t _ (by omega)]
 have:=Nat.shiftLeft_add_eq_or_of_lt hc m
 rw[Nat.shiftLeft_eq]at this
 rw[←this]
 exact ZaD (by omega) (by omega)
theorem Zkv {x:Int} (h:0≤x∧x<256) (s:Nat) (hs:s≤16):w64 ((w64 x)*2 ^ s)=x*2 ^ s:=by
 have hp:(2:Int) ^ s≤65536:=by
  have:(2:Nat) ^ s≤2 ^ 16:=Nat.pow_le_pow_right (by decide) hs
  have e:((2:Int) ^ s)=((2 ^ s:Nat):Int):=by push_cast;rfl
  rw[e];omega
 have hp0:(0:Int)<2 ^ s:=Int.pow_pos (by decide)
 have h1:x*2 ^ s≤255*65536:=Int.mul_le_mul (by omega) hp (by omega) (by omega)
 have h2:0≤x*2 ^ s:=Int.mul_nonneg h.1 (by omega)
 rw[ZaD (n:=x) (by omega) (by omega),ZaD (by omega) (by omega)]
theorem or3 {a b c:Int} (ha:0≤a∧a<256) (hb:0≤b∧b<256) (hc:0≤c∧c<256):
  bOr .i64 (bOr .i64 (w64 ((w64 a)*2 ^ 16)) (w64 ((w64 b)*2 ^ 8))) (w64 c)=rdV [a,b,c]:=by
 rw[Zkv ha 16 (by decide),Zkv hb 8 (by decide),ZoW (s:=16) (by decide) ha.1 (by omega) (by omega) (by omega),ZaD (n:=c) (by omega) (by omega)]
 have e:a*2 ^ 16+b*2 ^ 8=(a*256+b)*2 ^ 8:=by omega
 rw[e,ZoW (s:=8) (by decide) (by omega) (by omega) hc.1 (by omega)]
 simp[rdV,rdA]
theorem or2 {a b:Int} (ha:0≤a∧a<256) (hb:0≤b∧b<256):bOr .i64 (w64 ((w64 a)*2 ^ 8)) (w64 b)=rdV [a,b]:=by
 rw[Zkv ha 8 (by decide),ZaD (n:=b) (by omega) (by omega),ZoW (s:=8) (by decide) ha.1 (by omega) hb.1 (by omega)]
 simp[rdV,rdA]
def bt (h:Hf) (i:Nat):Int:=(h.l[i]?).getD 0
theorem ZkF (h:Hf) {i:Nat} (hi:i<32):h.at? (i:Int)=some (bt h i):=by
 have hl:=h.h
 unfold Vec.at? bt
 rw[if_pos (by omega),Int.toNat_natCast,gG (by omega)];rfl
theorem Zi4 {h:Hf} (hb:Byt h.l) (i:Nat):0≤bt h i∧bt h i<256:=by
 unfold bt
 cases hq:h.l[i]? with
 |none=>simp
 |some x=>exact hb x (List.mem_of_getElem? hq)
def epH (h:Hf):Int:=
 if (bt h 0=104∨bt h 0=112)∧bt h 31=165∧rdV [bt h 1,bt h 2,bt h 3]≤1000000 then rdV [bt h 1,bt h 2,bt h 3] else 0
theorem Znz {h:Hf} (hb:Byt h.l):0≤epH h∧epH h≤1000000:=by
 unfold epH
 have:=ZjG (l:=[bt h 1,bt h 2,bt h 3]) (by
  intro x hx
  simp only[List.mem_cons,List.not_mem_nil,or_false]at hx
  rcases hx with rfl|rfl|rfl<;>exact Zi4 hb _)
 split
 ·rename_i hc;exact⟨this.1,hc.2.2⟩
 ·omega
theorem ZeG (k:Nat) {h:Hf} (hb:Byt h.l):Zbi k h=some (epH h):=by
 have h0:=ZkF h (i:=0) (by decide)
 have h1:=ZkF h (i:=1) (by decide)
 have h2:=ZkF h (i:=2) (by decide)
 have h3:=ZkF h (i:=3) (by decide)
 have h31:=ZkF h (i:=31) (by decide)
 have e0:h.at? 0=some (bt h 0):=h0
 have e1:h.at? 1=some (bt h 1):=h1
 have e2:h.at? 2=some (bt h 2):=h2
 have e3:h.at? 3=some (bt h 3):=h3
 have e31:h.at? 31=some (bt h 31):=h31
 unfold Zbi epH
 simp only[e0,e1,e2,e3,e31,Option.bind_some,or3 (Zi4 hb 1) (Zi4 hb 2) (Zi4 hb 3)]
 by_cases a:bt h 0=104
 ·have a2:¬ bt h 0=112:=by omega
  by_cases c:bt h 31=165
  ·by_cases d:(1000000:Int)<rdV [bt h 1,bt h 2,bt h 3]
   ·simp[a,c,d,show ¬ rdV [bt h 1,bt h 2,bt h 3]≤1000000 by omega]
   ·simp[a,c,d,show rdV [bt h 1,bt h 2,bt h 3]≤1000000 by omega]
  ·simp[a,c]
 ·by_cases b:bt h 0=112
  ·by_cases c:bt h 31=165
   ·by_cases d:(1000000:Int)<rdV [bt h 1,bt h 2,bt h 3]
    ·simp[b,c,d,show ¬ rdV [bt h 1,bt h 2,bt h 3]≤1000000 by omega]
    ·simp[b,c,d,show rdV [bt h 1,bt h 2,bt h 3]≤1000000 by omega]
   ·simp[b,c]
  ·simp[a,b]
def PgB (p:List Pg):Prop:=∀ g∈p,∀ h∈g.l,Byt h.l
theorem PgB.hf {p:List Pg} (hp:PgB p) (a i:Nat):Byt (hf p a i).l:=by
 have hzb:Byt hz.l:=by
  intro x hx
  have:x=0:=by
   simp only[hz,Vec.rep,List.mem_replicate]at hx
   exact hx.2
  omega
 unfold Go.Abs.hf
 cases hq:p[301*a+i / 2]? with
 |none=>exact hzb
 |some g=>
  simp only
  cases hr:g.l[i % 2]? with
  |none=>exact hzb
  |some h=>exact hp g (List.mem_of_getElem? hq) h (List.mem_of_getElem? hr)
def dOK (d:Disk):Bool:=decide (d.Pages.length=602)&&(decide (d.Wait.length≤1200)&&d.Wait.all fun w=>within w.At 0 601)
theorem Zei {k:Nat} (hk:1000000<k) (d:Disk):Zcp k d=some (dOK d):=by
 unfold Zcp dOK
 by_cases h1:d.Pages.length=602
 ·have e1:decide ((d.Pages.length:Int)=602)=true:=decide_eq_true (by omega)
  by_cases h2:d.Wait.length≤1200
  ·have e2:decide ((d.Wait.length:Int)≤1200)=true:=decide_eq_true (by omega)
   have hloop:=Zl7 (body:=Zak.b0 k (fun q0=>Zcw k q0) d.Wait) (n:=d.Wait.length) (f:=fun i=>match d.Wait[i]? with|some w=>bif within w.At 0 601 then none else some (i:Int)|none=>none) (by omega) (k:=k) (by omega) (fun i hi=>by
    obtain⟨w,hw⟩:∃ w,d.Wait[i]?=some w:=⟨_,gG hi⟩
    unfold Zak.b0 Zcw
    simp only[decide_eq_true (show (i:Int)<(d.Wait.length:Int) by omega),cond_true,Zc6 hw,Option.bind_some,Zcc,hw]
    cases within w.At 0 601<;>rfl) (by
    unfold Zak.b0
    simp only[(by simp:decide ((d.Wait.length:Int)<(d.Wait.length:Int))=false),cond_false])
   simp only[e1,e2,cond_true,h1,h2,decide_true,Bool.true_and]
   unfold Zbb Zak
   rw[hloop]
   simp only[Option.bind_some]
   cases hq:(List.range d.Wait.length).findSome? (fun i=>match d.Wait[i]? with|some w=>bif within w.At 0 601 then none else some (i:Int)|none=>none) with
   |none=>
    have:d.Wait.all (fun w=>within w.At 0 601)=true:=by
     rw[List.all_eq_true]
     intro w hw
     obtain⟨i,hi⟩:=List.mem_iff_getElem?.1 hw
     rw[List.findSome?_eq_none_iff]at hq
     have:=hq i (List.mem_range.2 (gS.1 hi).1)
     rw[hi]at this
     simp only at this
     cases hb:within w.At 0 601 with
     |true=>rfl
     |false=>rw[hb]at this;cases this
    rw[this];rfl
   |some r=>
    obtain⟨i,hi,hf⟩:=List.exists_of_findSome?_eq_some hq
    obtain⟨w,hw⟩:∃ w,d.Wait[i]?=some w:=⟨_,gG (List.mem_range.1 hi)⟩
    rw[hw]at hf
    simp only at hf
    have hb:within w.At 0 601=false:=by
     cases hb:within w.At 0 601 with
     |false=>rfl
     |true=>rw[hb]at hf;cases hf
    rw[hb]at hf
    have hr:(i:Int)=r:=oi hf
    have:d.Wait.all (fun w=>within w.At 0 601)=false:=by
     rw[List.all_eq_false]
     exact⟨w,List.mem_of_getElem? hw,by rw[hb];decide⟩
    rw[this]
    simp only[Option.bind_some]
    rw[decide_eq_true (show (0:Int)≤r by omega)]
    rfl
  ·have e2:decide ((d.Wait.length:Int)≤1200)=false:=decide_eq_false (by omega)
   simp[e1,e2,h1,h2]
 ·have e1:decide ((d.Pages.length:Int)=602)=false:=decide_eq_false (by omega)
  simp[e1,h1]
end Go.Abs
namespace Go.Abs
open Go Go.Proofs
set_option maxRecDepth 20000
set_option linter.unusedVariables false
set_option linter.unusedSimpArgs false
theorem ZkQ {k:Nat}{d:Disk} (h:d.Pages.length≤100000000∧d.Wait.length≤100000000):Zbr k d=some ⟨d⟩:=by
 unfold Zbr ZbC Zb3 Zid
 rw[if_pos ⟨by omega,by omega⟩,if_pos ⟨by omega,by omega⟩]
 rfl
theorem Zep {d:Disk}:dOK d=true↔d.Pages.length=602∧d.Wait.length≤1200∧∀ w∈d.Wait,0≤w.At∧w.At≤601:=by
 unfold dOK within
 simp only[Bool.and_eq_true,decide_eq_true_eq,List.all_eq_true]
theorem Zdv {k:Nat}{d:Disk} (h:dOK d=true):Zbr k d=some ⟨d⟩:=by
 obtain⟨h1,h2,_⟩:=Zep.1 h
 exact ZkQ ⟨by omega,by omega⟩
def mend (p:List Pg) (w:List Write):List Pg:=w.foldl (fun p x=>p.set x.At.toNat x.Page) p
theorem ZqS (w:List Write):∀ p:List Pg,(mend p w).length=p.length:=by
 induction w with
 |nil=>intro p;rfl
 |cons x w ih=>intro p;exact(ih _).trans (by simp)
theorem Zgf {k:Nat} (hk:1000000<k) {d:Disk} (h:dOK d=true):Zaz k ⟨d⟩=some ⟨⟨mend d.Pages d.Wait,[]⟩⟩:=by
 obtain⟨h1,h2,h3⟩:=Zep.1 h
 unfold Zaz
 have hf:=Zhi (l:=d.Wait) (body:=Zaz.b0 k ⟨d⟩) (fun i s=>(i,s)) (fun p x=>p.set x.At.toNat x.Page) (fun i s=>s.length=602) (by omega) (k:=k) (by omega) (s0:=d.Pages) h1 (fun i x s hx hs=>by
  have hi:=(gS.1 hx).1
  have hb:=h3 x (List.mem_of_getElem? hx)
  refine⟨?_,by simp[hs]⟩
  unfold Zaz.b0
  have ha:at? s x.At=some (s[x.At.toNat]'(by omega)):=by
   unfold at?
   rw[if_pos ⟨by omega,by omega⟩,gG (by omega)]
  have hset:Zml s x.At x.Page=some (s.set x.At.toNat x.Page):=by
   unfold Zml
   rw[if_pos ⟨by omega,by omega⟩]
  simp only[decide_eq_true (show (i:Int)<(d.Wait.length:Int) by omega),cond_true,Zc6 hx,Option.bind_some,ha,hset]) (fun s hs=>by
  unfold Zaz.b0
  simp only[(by simp:decide ((d.Wait.length:Int)<(d.Wait.length:Int))=false),cond_false])
 rw[hf.1]
 rfl
theorem Zm6 {k:Nat} (hk:1000000<k) {d:Disk} (h:dOK d=true):Zfi k d=some ⟨mend d.Pages d.Wait,[]⟩:=by
 unfold Zfi
 rw[Zdv h,Zei hk,h]
 simp only[Option.bind_some,Bool.not_true,cond_false]
 rw[Zgf hk h]
 rfl
def mx (p:List Pg) (a from_:Nat):Int:=(List.range' from_ (602 - from_)).foldl (fun m i=>max m (epH (hf p a i))) 0
theorem ZhS {f:Nat→Int}:∀ (l:List Nat) (z E:Int),l.foldl (fun m i=>max m (f i)) z≤E↔z≤E∧∀ i∈l,f i≤E
 |[],z,E=>by simp
 |x::l,z,E=>by
  rw[List.foldl_cons,ZhS l]
  simp only[Int.max_le,and_assoc,List.mem_cons,forall_eq_or_imp]
theorem Zlr {p:List Pg}{a from_:Nat}{E:Int}:mx p a from_≤E↔0≤E∧∀ i,from_≤i→i<602→epH (hf p a i)≤E:=by
 unfold mx
 rw[ZhS]
 constructor
 ·rintro⟨h1,h2⟩
  exact⟨h1,fun i h3 h4=>h2 i (by rw[List.mem_range'_1];omega)⟩
 ·rintro⟨h1,h2⟩
  exact⟨h1,fun i hi=>h2 i (by rw[List.mem_range'_1]at hi;omega) (by rw[List.mem_range'_1]at hi;omega)⟩
theorem Zhh (p:List Pg) (a from_:Nat):0≤mx p a from_:=(Zlr.1 (Int.le_refl _)).1
theorem ZcV {k:Nat} (hk:1000000<k) {p:List Pg} (hp:p.length=602) (hb:PgB p) (w:List Write) {a:Nat} (ha:a≤1) (from_:Nat):Zaq k ⟨⟨p,w⟩⟩ (a:Int) (from_:Int)=some (mx p a from_):=by
 unfold Zaq mx
 have key:∀ (d i m:Nat) (z:Int),602 - i=d→d<m→whl (Zaq.b0 k ⟨⟨p,w⟩⟩ (a:Int)) m (z,(i:Int))=some (.brk ((List.range' i d).foldl (fun m i=>max m (epH (hf p a i))) z)):=by
  intro d
  induction d with
  |zero=>
   intro i m z h1 h2
   obtain⟨m,rfl⟩:∃ q,m=q+1:=⟨m - 1,by omega⟩
   have hbo:Zaq.b0 k ⟨⟨p,w⟩⟩ (a:Int) (z,(i:Int))=some (.brk z):=by
    unfold Zaq.b0
    simp only[decide_eq_false (show ¬ (i:Int)<602 by omega),cond_false]
   simp only[whl,hbo]
   rfl
  |succ d ih=>
   intro i m z h1 h2
   obtain⟨m,rfl⟩:∃ q,m=q+1:=⟨m - 1,by omega⟩
   have hw:w64 ((i:Int)+1)=((i+1:Nat):Int):=by rw[ZaD (by omega) (by omega)];omega
   have hbo:Zaq.b0 k ⟨⟨p,w⟩⟩ (a:Int) (z,(i:Int))=some (.next (max z (epH (hf p a i)),((i+1:Nat):Int))):=by
    unfold Zaq.b0
    simp only[decide_eq_true (show (i:Int)<602 by omega),cond_true,Zhy k hp w ha (show i<602 by omega),Option.bind_some,ZeG k (hb.hf a i),hw]
   simp only[whl,hbo]
   rw[List.range'_succ,List.foldl_cons]
   exact ih (i+1) m _ (by omega) (by omega)
 have:=key (602 - from_) from_ k 0 rfl (by omega)
 rw[this]
 rfl
def Zwb (p:List Pg) (a from_:Nat) (l:List Hf):Prop:=from_+l.length≤602∧∀ (i:Nat) x,l[i]?=some x→hf p a (from_+i)=x
instance:DecidableEq Hf:=fun a b=>decidable_of_iff (Vec.eq (fun(x y:Int)=>decide (x=y)) a b=true) (Zjk a b)
def Zua (p:List Pg) (a from_:Nat) (l:List Hf):Bool:=(List.range l.length).all fun i=>match l[i]? with|some x=>decide (hf p a (from_+i)=x)|none=>true
theorem Znj {p:List Pg}{a from_:Nat}{l:List Hf}:Zua p a from_ l=true↔∀ (i:Nat) x,l[i]?=some x→hf p a (from_+i)=x:=by
 unfold Zua
 rw[List.all_eq_true]
 constructor
 ·intro h i x hx
  have:=h i (List.mem_range.2 (gS.1 hx).1)
  rw[hx]at this
  simpa using this
 ·intro h i hi
  cases hq:l[i]? with
  |none=>rfl
  |some x=>simpa using h i x hq
def ZhB (p:List Pg) (a from_:Nat) (n:Nat):Option (Record×Int×Nat):=
 if 602≤from_ then none else if epH (hf p a from_)=0∨602<from_+(bt (hf p a from_) 7).toNat then none else
 match Zqb ((List.range (bt (hf p a from_) 7).toNat).map fun i=>ZcC (hf p a (from_+i))).flatten with
 |none=>none
 |some q=>if Zf8 q.1=true∧(Za7 q.1 n (epH (hf p a from_))).length=(bt (hf p a from_) 7).toNat∧Zua p a from_ (Za7 q.1 n (epH (hf p a from_)))=true then some (q.1,epH (hf p a from_),(bt (hf p a from_) 7).toNat) else none
theorem Zo9 {h:Hf} (hb:Byt h.l):Byt (ZcC h):=(hb.drop 8).take 23
theorem Zqs {l:List (List Int)} (h:∀ x∈l,Byt x):Byt l.flatten:=fun x hx=>by
 obtain⟨y,hy,hx⟩:=List.mem_flatten.1 hx
 exact h y hy x hx
theorem Zpi {k:Nat} (hk:1000000<k) {p:List Pg} (hp:p.length=602) (hb:PgB p) (w:List Write) {a:Nat} (ha:a≤1) (from_ n:Nat) (hfr:from_≤100000):
  Zai k ⟨⟨p,w⟩⟩ (a:Int) (from_:Int) (n:Int)=some (match ZhB p a from_ n with|some q=>(q.1,q.2.1,(q.2.2:Int))|none=>(ZvK,0,0)):=by
 unfold Zai ZhB
 by_cases h1:602≤from_
 ·simp only[decide_eq_true (show (602:Int)≤(from_:Int) by omega),cond_true,if_pos h1]
  rfl
 ·have hb0:=Zi4 (hb.hf a from_) 7
  obtain⟨m,hm⟩:=Int.eq_ofNat_of_zero_le hb0.1
  have hmN:(bt (hf p a from_) 7).toNat=m:=by rw[hm];rfl
  have e7:(hf p a from_).at? 7=some (m:Int):=by have:=ZkF (hf p a from_) (i:=7) (by decide);rw[hm]at this;exact this
  have wm:w64 (m:Int)=(m:Int):=ZaD (by omega) (by omega)
  have wfm:w64 ((from_:Int)+(m:Int))=((from_+m:Nat):Int):=by rw[ZaD (by omega) (by omega)];omega
  rw[hmN]
  simp only[decide_eq_false (show ¬ (602:Int)≤(from_:Int) by omega),cond_false,if_neg h1,Zhy k hp w ha (show from_<602 by omega),Option.bind_some,ZeG k (hb.hf a from_),e7,wm,wfm]
  by_cases he:epH (hf p a from_)=0
  ·rw[if_pos (Or.inl he)]
   simp only[decide_eq_true he,Bool.not_true,cond_false]
   rfl
  ·simp only[decide_eq_false he,Bool.not_false,cond_true]
   by_cases h2:602<from_+m
   ·simp only[decide_eq_true (show (602:Int)<((from_+m:Nat):Int) by omega),cond_true,if_pos (Or.inr h2)]
    rfl
   ·simp only[decide_eq_false (show ¬ (602:Int)<((from_+m:Nat):Int) by omega),cond_false,if_neg (show ¬ (epH (hf p a from_)=0∨602<from_+m) from fun c=>c.elim he h2)]
    have hw0:=Zl8 (n:=m) (body:=Zai.b0 k ⟨⟨p,w⟩⟩ (a:Int) (from_:Int) (m:Int)) (fun i s=>(i,s)) (fun s i=>s++ZcC (hf p a (from_+i))) (fun i s=>s.length=23*i) (by omega) (k:=k) (by omega) (s0:=[]) rfl (fun i s hi hs=>by
     have hl:=(hf p a (from_+i)).h
     have hpl:(ZcC (hf p a (from_+i))).length=23:=by unfold ZcC;simp[hl]
     have wfi:w64 ((from_:Int)+(i:Int))=((from_+i:Nat):Int):=by rw[ZaD (by omega) (by omega)];omega
     refine⟨?_,by simp[hs,hpl];omega⟩
     unfold Zai.b0
     simp only[wm,decide_eq_true (show (i:Int)<(m:Int) by omega),cond_true,wfi,Zhy k hp w ha (show from_+i<602 by omega),Option.bind_some]
     rw[show (List.take 23 (List.drop 8 (hf p a (from_+i)).l))=ZcC (hf p a (from_+i)) from rfl,Zk9 (by omega) (by omega)]
     rfl) (fun s hs=>by
     unfold Zai.b0
     simp only[wm,(by simp:decide ((m:Int)<(m:Int))=false),cond_false])
    have hfl:∀ (L:List Nat) (s:List Int),L.foldl (fun s i=>s++ZcC (hf p a (from_+i))) s=s++(L.map fun i=>ZcC (hf p a (from_+i))).flatten:=by
     intro L
     induction L with
     |nil=>intro s;simp
     |cons x L ih=>intro s;rw[List.foldl_cons,ih];simp
    have hw1:=hw0.1
    rw[hfl,List.nil_append]at hw1
    rw[hw1]
    simp only[Option.bind_some]
    have hbf:Byt ((List.range m).map fun i=>ZcC (hf p a (from_+i))).flatten:=Zqs (by
     intro x hx
     obtain⟨i,_,rfl⟩:=List.mem_map.1 hx
     exact Zo9 (hb.hf a _))
    rw[Zkc (by omega) hbf]
    cases hd:Zqb ((List.range m).map fun i=>ZcC (hf p a (from_+i))).flatten with
    |none=>rfl
    |some q=>
     simp only[Option.bind_some]
     cases hr:Zf8 q.1 with
     |false=>simp;rfl
     |true=>
      have ht:=Zhp hr
      simp only[Bool.not_true,cond_false,ZiL (show 100000<k by omega) ht,Option.bind_some]
      have hH:(List.range (ZbI (enc q.1).length)).map (Zdw (epH (hf p a from_)) (n:Int) (ZbI (enc q.1).length) (enc q.1))=Za7 q.1 (n:Int) (epH (hf p a from_)):=rfl
      rw[hH]
      by_cases Zca:(Za7 q.1 (n:Int) (epH (hf p a from_))).length=m
      ·have hwN:=Zk3 (n:=m) (body:=Zai.b1 k ⟨⟨p,w⟩⟩ (a:Int) (from_:Int) (Za7 q.1 (n:Int) (epH (hf p a from_)))) (p:=fun i=>match (Za7 q.1 (n:Int) (epH (hf p a from_)))[i]? with|some x=>decide (hf p a (from_+i)=x)|none=>true) (c:=(ZvK,(0:Int),(0:Int))) (by omega) (k:=k) (by omega) (fun i hi=>by
        obtain⟨x,hx⟩:∃ x,(Za7 q.1 (n:Int) (epH (hf p a from_)))[i]?=some x:=⟨_,gG (by omega)⟩
        have wfi:w64 ((from_:Int)+(i:Int))=((from_+i:Nat):Int):=by rw[ZaD (by omega) (by omega)];omega
        have hve:Vec.eq (fun(x y:Int)=>decide (x=y)) (hf p a (from_+i)) x=decide (hf p a (from_+i)=x):=by
         by_cases e:hf p a (from_+i)=x
         ·rw[(Zjk _ _).2 e,decide_eq_true e]
         ·rw[decide_eq_false e]
          cases hq:Vec.eq (fun(x y:Int)=>decide (x=y)) (hf p a (from_+i)) x with
          |false=>rfl
          |true=>exact absurd ((Zjk _ _).1 hq) e
        unfold Zai.b1
        simp only[decide_eq_true (show (i:Int)<((Za7 q.1 (n:Int) (epH (hf p a from_))).length:Int) by omega),cond_true,Zc6 hx,Option.bind_some,wfi,Zhy k hp w ha (show from_+i<602 by omega),hve,hx]
        cases decide (hf p a (from_+i)=x)<;>rfl) (by
        unfold Zai.b1
        simp only[Zca,(by simp:decide ((m:Int)<(m:Int))=false),cond_false])
       have hrun:Zua p a from_ (Za7 q.1 (n:Int) (epH (hf p a from_)))=(List.range m).all (fun i=>match (Za7 q.1 (n:Int) (epH (hf p a from_)))[i]? with|some x=>decide (hf p a (from_+i)=x)|none=>true):=by
        unfold Zua;rw[Zca];rfl
       simp only[decide_eq_true (show ((Za7 q.1 (n:Int) (epH (hf p a from_))).length:Int)=(m:Int) by omega),Bool.not_true,cond_false,hwN,←hrun,Zca,true_and]
       cases Zua p a from_ (Za7 q.1 (n:Int) (epH (hf p a from_)))<;>rfl
      ·simp only[decide_eq_false (show ¬ ((Za7 q.1 (n:Int) (epH (hf p a from_))).length:Int)=(m:Int) by omega),Bool.not_false,cond_true,Zca,false_and,and_false,if_false]
       rfl
end Go.Abs
namespace Go.Abs
open Go Go.Proofs
set_option maxRecDepth 20000
set_option linter.unusedVariables false
set_option linter.unusedSimpArgs false
theorem Zv5 (r:Record) (n e:Int):(Za7 r n e)[0]?=some (Zdw e n (ZbI (enc r).length) (enc r) 0):=by
 unfold Za7
 rw[List.getElem?_map,List.getElem?_range (Zf1 r)];rfl
theorem ZrV {r:Record}{n e:Int}{i:Nat}{x:Hf} (h:(Za7 r n e)[i]?=some x):x=Zdw e n (ZbI (enc r).length) (enc r) i:=by
 have hi:=(gS.1 h).1
 rw[Zbm]at hi
 unfold Za7 at h
 rw[List.getElem?_map,List.getElem?_range hi]at h
 exact(oi h).symm
theorem Zoy (e n cnt:Int) (c:List Int) (i:Nat):bt (Zdw e n cnt c i) 0=112∧bt (Zdw e n cnt c i) 1=IntKind.u8.wrap (Int.fdiv e (2 ^ 16))∧bt (Zdw e n cnt c i) 2=IntKind.u8.wrap (Int.fdiv e (2 ^ 8))∧bt (Zdw e n cnt c i) 3=IntKind.u8.wrap e∧bt (Zdw e n cnt c i) 7=IntKind.u8.wrap cnt∧bt (Zdw e n cnt c i) 31=165:=by
 have hl:((c.drop (23*i)).take 23++List.replicate (23 - min (c.drop (23*i)).length 23) (0:Int)).length=23:=by
  simp only[List.length_append,List.length_take,List.length_replicate];omega
 have e31:(ZgN e n cnt c i)[31]?=some 165:=by
  unfold ZgN
  rw[ZdA,ZkC]
  rw[List.getElem?_append_right (by simp only[List.length_append,List.length_cons,List.length_nil,hl];omega)]
  simp only[List.length_append,List.length_cons,List.length_nil,hl]
  rfl
 unfold bt Zdw
 refine⟨?_,?_,?_,?_,?_,?_⟩
 ·simp[ZgN]
 ·simp[ZgN,ZdA]
 ·simp[ZgN,ZdA]
 ·simp[ZgN,ZdA]
 ·simp[ZgN,ZdA,ZkC]
 ·rw[e31];rfl
theorem ZmS {e:Int} (he:1≤e∧e≤1000000) (n cnt:Int) (c:List Int) (i:Nat):epH (Zdw e n cnt c i)=e:=by
 obtain⟨h0,h1,h2,h3,_,h31⟩:=Zoy e n cnt c i
 have hr:rdV [bt (Zdw e n cnt c i) 1,bt (Zdw e n cnt c i) 2,bt (Zdw e n cnt c i) 3]=e:=by
  rw[h1,h2,h3,←ZdA,rd3 (by omega) (by omega)]
 unfold epH
 rw[hr,if_pos ⟨.inr h0,h31,he.2⟩]
theorem Zqm {e n:Int}{cnt:Nat} (hc:cnt<256) (c:List Int) (i:Nat):bt (Zdw e n cnt c i) 7=cnt:=by
 obtain⟨_,_,_,_,h7,_⟩:=Zoy e n cnt c i
 rw[h7,ZmD];omega
theorem Zs6 {r:Record} (h:Zf8 r=true):ZbI (enc r).length≤10:=by
 have:=Zhp h
 rw[Zkh];unfold ZbI;omega
structure HasRec (p:List Pg) (a from_ n:Nat) (r:Record) (e:Int):Prop where
 ok:Zf8 r=true
 ep:1≤e∧e≤1000000
 run:Zwb p a from_ (Za7 r n e)
theorem Zdy {p:List Pg} (hb:PgB p) {a from_ n:Nat}{q:Record×Int×Nat}:ZhB p a from_ n=some q↔HasRec p a from_ n q.1 q.2.1∧q.2.2=(Za7 q.1 n q.2.1).length:=by
 obtain⟨r,e,m⟩:=q
 constructor
 ·intro h
  unfold ZhB at h
  split at h
  ·cases h
  rename_i h1
  split at h
  ·cases h
  rename_i h2
  split at h
  ·cases h
  rename_i q hq
  split at h
  ·rename_i h3
   simp only[oE,Prod.mk.injEq]at h
   obtain⟨rfl,rfl,rfl⟩:=h
   have hE:=Znz (hb.hf a from_)
   have hnz:¬ epH (hf p a from_)=0:=fun c=>h2 (.inl c)
   have hle:¬ 602<from_+(bt (hf p a from_) 7).toNat:=fun c=>h2 (.inr c)
   refine⟨⟨h3.1,⟨show 1≤epH (hf p a from_) by omega,hE.2⟩,⟨?_,Znj.1 h3.2.2⟩⟩,h3.2.1.symm⟩
   show from_+(Za7 q.1 n (epH (hf p a from_))).length≤602
   rw[h3.2.1];omega
  ·cases h
 ·rintro⟨⟨h1,h2,h3,h4⟩,h5⟩
  simp only at h1 h2 h3 h4 h5
  have hc:=Zs6 h1
  have hf0:=h4 0 _ (Zv5 r n e)
  rw[Nat.add_zero]at hf0
  have hE:epH (hf p a from_)=e:=by rw[hf0];exact ZmS h2 _ _ _ _
  have h7:(bt (hf p a from_) 7).toNat=m:=by
   rw[hf0,Zqm (by omega),h5,Zbm];rfl
  have hmp:0<m:=by rw[h5,Zbm];exact Zf1 r
  rw[←h5]at h3
  have hpieces:((List.range m).map fun i=>ZcC (hf p a (from_+i))).flatten=Zsa (enc r):=by
   rw[←ZlY e n (enc r)]
   congr 1
   rw[List.map_map,←Zbm r n e,←h5]
   apply List.map_congr_left
   intro i hi
   have hi':=List.mem_range.1 hi
   have hx:(Za7 r n e)[i]?=some (Zdw e n (ZbI (enc r).length) (enc r) i):=by
    unfold Za7
    rw[List.getElem?_map,List.getElem?_range (by rw[←Zbm r n e,←h5];exact hi')];rfl
   rw[h4 i _ hx];rfl
  have hd:=ZqH h1 (List.replicate (23*ZbI (enc r).length - (enc r).length) 0)
  unfold ZhB
  rw[if_neg (by omega),h7,hE,if_neg (by omega),hpieces]
  unfold Zsa
  rw[hd]
  simp only
  rw[if_pos ⟨h1,h5.symm,Znj.2 h4⟩]
theorem HasRec.inj {p:List Pg} (hb:PgB p) {a from_ n:Nat}{r r':Record}{e e':Int} (h:HasRec p a from_ n r e) (h':HasRec p a from_ n r' e'):r=r'∧e=e':=by
 have h1:=(Zdy hb (q:=(r,e,(Za7 r n e).length))).2 ⟨h,rfl⟩
 have h2:=(Zdy hb (q:=(r',e',(Za7 r' n e').length))).2 ⟨h',rfl⟩
 rw[h1]at h2
 simp only[oE,Prod.mk.injEq]at h2
 exact⟨h2.1,h2.2.1⟩
def ZeI (b:List Record) (r:Record):Option (List Record):=if (ZjT b r).2=0∧(ZjT b r).1.length≠b.length then some (ZjT b r).1 else none
def rd (p:List Pg) (a:Nat):Nat→List Record→Int→Nat→Nat→List (Record×Nat)
 |0,_,_,_,_=>[]
 |m+1,b,e,u,n=>match ZhB p a u n with
  |none=>[]
  |some q=>if q.2.1<e then [] else match ZeI b q.1 with
   |none=>[]
   |some b'=>(q.1,u+q.2.2)::rd p a m b' q.2.1 (u+q.2.2) (n+1)
theorem Zf2 {b b':List Record}{r:Record} (h:ZeI b r=some b'):b'=Zjy Zax b r∧ZdV Zax b (Zax r)=none∧r.At.No≤cnt Zax b r.At.House∧b.length≠60:=by
 unfold ZeI ZjT at h
 cases hf:ZdV Zax b (Zax r) with
 |some x=>
  rw[hf]at h
  simp only at h
  by_cases e:x=r
  ·rw[if_pos e]at h;simp at h
  ·rw[if_neg e]at h;simp at h
 |none=>
  rw[hf]at h
  simp only at h
  by_cases hc:((cnt Zax b r.At.House:Nat):Int)<r.At.No
  ·rw[if_pos hc]at h;simp at h
  ·rw[if_neg hc]at h
   by_cases h60:(b.length:Int)=60
   ·rw[if_pos h60]at h;simp at h
   ·rw[if_neg h60]at h
    split at h
    ·exact⟨(oi h).symm,rfl,by omega,by omega⟩
    ·cases h
theorem Zrk {b:List Record}{r:Record} (h1:ZdV Zax b (Zax r)=none) (h2:r.At.No≤cnt Zax b r.At.House) (h3:b.length≠60):ZeI b r=some (Zjy Zax b r):=by
 have:ZjT b r=(Zjy Zax b r,0):=by
  unfold ZjT
  rw[h1]
  simp only
  rw[if_neg (by omega),if_neg (by omega)]
 unfold ZeI
 rw[this]
 simp only
 rw[if_pos ⟨trivial,by rw[ZfS];omega⟩]
theorem Zlp {b b':List Record}{r:Record} (hv:Val Zax b) (hr:Zf8 r=true) (h:ZeI b r=some b'):Val Zax b'∧b'.length=b.length+1:=by
 obtain⟨h1,h2,h3,h4⟩:=Zf2 h
 subst h1
 refine⟨Zku Zax hv ?_,ZfS Zax b r⟩
 show r.At.No=_
 have hn:=ZfR Zax h2
 by_cases hlt:r.At.No<cnt Zax b r.At.House
 ·have h0:=(Zfb hr).2.1.1
  obtain⟨x,hx,hk⟩:=Zp5 Zax hv (h:=r.At.House) (n:=r.At.No) h0 hlt
  exact absurd hk (hn x hx)
 ·show r.At.No=((cnt Zax b r.At.House:Nat):Int)
  omega
theorem Zko {k:Nat} (hk:1000000<k) {p:List Pg} (hp:p.length=602) (hb:PgB p) (w:List Write) {a:Nat} (ha:a≤1):∀ (m:Nat) (b:List Record) (e:Int) (u n:Nat),Val Zax b→(∀ r∈b,Zf8 r=true)→b.length=n→n≤60→u≤602→61≤m+n→
  Zb0.go k ⟨⟨p,w⟩⟩ (a:Int) (m+1) ⟨b⟩ e (u:Int) (n:Int)=some ((rd p a (m+1) b e u n).map fun x=>(x.1,(x.2:Int))):=by
 intro m
 induction m with
 |zero=>intro b e u n _ _ h1 h2 _ h3;omega
 |succ m ih=>
  intro b e u n hv hok hbl hn hu hm
  rw[Zb0.go,rd,Zpi hk hp hb w ha u n (by omega)]
  simp only[Option.bind_some]
  cases hq:ZhB p a u n with
  |none=>rfl
  |some q=>
   obtain⟨⟨g1,g2,g3⟩,g4⟩:=(Zdy hb).1 hq
   have hmp:0<q.2.2:=by rw[g4,Zbm];exact Zf1 q.1
   have h602:=g3.1
   rw[←g4]at h602
   simp only[decide_eq_false (show ¬ (q.2.2:Int)=0 by omega),Bool.not_false,cond_true]
   by_cases he:q.2.1<e
   ·simp only[decide_eq_true he,cond_true,if_pos he];rfl
   ·have hh:∀ r∈b,ZcA r:=fun r hr=>Zby (hok r hr)
    simp only[decide_eq_false he,cond_false,if_neg he,ZeB hk (b:=⟨b⟩) hv.1 (show b.length≤900 by omega) hh,g1,cond_true,Option.bind_some]
    cases hm1:ZeI b q.1 with
    |none=>
     unfold ZeI at hm1
     by_cases h0:(ZjT b q.1).2=0
     ·simp only[decide_eq_true h0,cond_true]
      by_cases hl:(ZjT b q.1).1.length=b.length
      ·simp only[decide_eq_true (show (((ZjT b q.1).1.length:Nat):Int)=(b.length:Int) by omega),cond_true];rfl
      ·rw[if_pos ⟨h0,hl⟩]at hm1;cases hm1
     ·simp only[decide_eq_false h0,cond_false];rfl
    |some b'=>
     obtain⟨v1,v2⟩:=Zlp hv g1 hm1
     have hm2:=hm1
     unfold ZeI at hm2
     split at hm2
     ·rename_i hc
      have hb':(ZjT b q.1).1=b':=oi hm2
      have hw1:w64 ((u:Int)+(q.2.2:Int))=((u+q.2.2:Nat):Int):=by rw[ZaD (by omega) (by omega)];omega
      have hw2:w64 ((n:Int)+1)=((n+1:Nat):Int):=by rw[ZaD (by omega) (by omega)];omega
      have h60:b.length≠60:=(Zf2 hm1).2.2.2
      simp only[decide_eq_true hc.1,cond_true,hb',decide_eq_false (show ¬ ((b'.length:Nat):Int)=(b.length:Int) by omega),cond_false,hw1,hw2]
      obtain⟨m,rfl⟩:∃ q,m=q+1:=⟨m - 1,by omega⟩
      rw[ih b' q.2.1 (u+q.2.2) (n+1) v1 (fun r hr=>by
       rw[(Zf2 hm1).1,Zir]at hr
       rcases hr with rfl|hr
       ·exact g1
       ·exact hok r hr) (by omega) (by omega) (by omega) (by omega)]
      rfl
     ·cases hm2
end Go.Abs
namespace Go.Abs
open Go Go.Proofs
set_option maxRecDepth 20000
set_option linter.unusedVariables false
set_option linter.unusedSimpArgs false
def fin (s:List Record×Nat) (L:List (Record×Nat)):List Record×Nat:=L.foldl (fun s x=>(Zjy Zax s.1 x.1,x.2)) s
theorem Zkn {k:Nat} (hk:1000000<k) {p:List Pg} (hb:PgB p) {a:Nat} (D:Option book_disk) (A E:Int):∀ (m:Nat) (b:List Record) (e:Int) (u n:Nat) (U R:Int),Val Zax b→(∀ r∈b,Zf8 r=true)→b.length≤60→0≤R→R+100≤1000000 - (100 - m:Int)*0 - m→U=(u:Int)→
  Zck k ⟨D,A,E,U,⟨b⟩,R⟩ ((rd p a m b e u n).map fun x=>(x.1,(x.2:Int)))=some ⟨D,A,E,((fin (b,u) (rd p a m b e u n)).2:Int),⟨(fin (b,u) (rd p a m b e u n)).1⟩,R+(rd p a m b e u n).length⟩:=by
 intro m
 induction m with
 |zero=>intro b e u n U R _ _ _ _ _ hU;subst hU;simp[rd,Zck,fin]
 |succ m ih=>
  intro b e u n U R hv hok hl hR0 hR hU
  subst hU
  have stop:Zck k ⟨D,A,E,(u:Int),⟨b⟩,R⟩ (([]:List (Record×Nat)).map fun x=>(x.1,(x.2:Int)))=some ⟨D,A,E,((fin (b,u) []).2:Int),⟨(fin (b,u) []).1⟩,R+(([]:List (Record×Nat)).length:Int)⟩:=by
   simp[Zck,fin]
  rw[rd]
  cases hq:ZhB p a u n with
  |none=>exact stop
  |some q=>
   obtain⟨⟨g1,g2,g3⟩,g4⟩:=(Zdy hb).1 hq
   simp only
   by_cases he:q.2.1<e
   ·rw[if_pos he];exact stop
   ·rw[if_neg he]
    cases hm1:ZeI b q.1 with
    |none=>exact stop
    |some b'=>
     obtain⟨v1,v2⟩:=Zlp hv g1 hm1
     obtain⟨i1,_,_,i4⟩:=Zf2 hm1
     have hm2:=hm1
     unfold ZeI at hm2
     split at hm2
     ·rename_i hc
      have hb':(ZjT b q.1).1=b':=oi hm2
      have hh:∀ r∈b,ZcA r:=fun r hr=>Zby (hok r hr)
      simp only[List.map_cons,Zck]
      have hst:Zd8 k ⟨D,A,E,(u:Int),⟨b⟩,R⟩ (q.1,((u+q.2.2:Nat):Int))=some ⟨D,A,E,((u+q.2.2:Nat):Int),⟨b'⟩,R+1⟩:=by
       unfold Zd8
       rw[ZeB hk (b:=⟨b⟩) hv.1 (show b.length≤900 by omega) hh,g1]
       simp only[cond_true,Option.bind_some,hb']
       rw[ZaD (by omega) (by omega)]
      rw[hst,Option.bind_some]
      rw[ih b' q.2.1 (u+q.2.2) (n+1) _ (R+1) v1 (fun r hr=>by
       rw[i1,Zir]at hr
       rcases hr with rfl|hr
       ·exact g1
       ·exact hok r hr) (by omega) (by omega) (by omega) rfl]
      have hf:fin (b,u) ((q.1,u+q.2.2)::rd p a m b' q.2.1 (u+q.2.2) (n+1))=fin (b',u+q.2.2) (rd p a m b' q.2.1 (u+q.2.2) (n+1)):=by
       unfold fin
       rw[List.foldl_cons,i1]
      rw[hf]
      simp only[List.length_cons]
      congr 2
      push_cast
      omega
     ·cases hm2
theorem ZjB (k:Nat) (e n:Int):Zfu k e n=some ⟨[104,IntKind.u8.wrap (Int.fdiv e (2 ^ 16)),IntKind.u8.wrap (Int.fdiv e (2 ^ 8)),IntKind.u8.wrap e,IntKind.u8.wrap (Int.fdiv n (2 ^ 8)),IntKind.u8.wrap n,
  0,0,0,0,0,0,0,0,0,0,0,0,0,0,0,0,0,0,0,0,0,0,0,0,0,165],rfl⟩:=rfl
def Zdb (e n:Int):Hf:=⟨[104,IntKind.u8.wrap (Int.fdiv e (2 ^ 16)),IntKind.u8.wrap (Int.fdiv e (2 ^ 8)),IntKind.u8.wrap e,IntKind.u8.wrap (Int.fdiv n (2 ^ 8)),IntKind.u8.wrap n,
  0,0,0,0,0,0,0,0,0,0,0,0,0,0,0,0,0,0,0,0,0,0,0,0,0,165],rfl⟩
def ZtJ (p:List Pg) (a:Nat):List (Record×Nat):=rd p a 100 [] (epH (hf p a 0)) 1 0
structure Ar where
 epoch:Int
 recs:List (Record×Nat)
def Ar.book (x:Ar):List Record:=(fin ([],1) x.recs).1
def Ar.used (x:Ar):Nat:=(fin ([],1) x.recs).2
def Zel (p:List Pg) (a:Nat):Option Ar:=
 if epH (hf p a 0)≠0∧hf p a 0=Zdb (epH (hf p a 0)) (rdV [bt (hf p a 0) 4,bt (hf p a 0) 5])∧rdV [bt (hf p a 0) 4,bt (hf p a 0) 5]≤((ZtJ p a).length:Int) then some ⟨epH (hf p a 0),ZtJ p a⟩ else none
theorem Zsb {p:List Pg}{a:Nat}:∀ (m:Nat) (b:List Record) (e:Int) (u n:Nat),(rd p a m b e u n).length≤m
 |0,_,_,_,_=>Nat.le_refl _
 |m+1,b,e,u,n=>by
  rw[rd]
  split
  ·exact Nat.zero_le _
  ·split
   ·exact Nat.zero_le _
   ·split
    ·exact Nat.zero_le _
    ·rw[List.length_cons]
     exact Nat.succ_le_succ (Zsb m _ _ _ _)
theorem Zpd {p:List Pg} (hb:PgB p) {a:Nat}:∀ (m m':Nat) (b:List Record) (e:Int) (u n:Nat),61≤m+b.length→61≤m'+b.length→b.length≤60→rd p a m b e u n=rd p a m' b e u n
 |0,_,b,_,_,_,h1,_,h3=>by omega
 |_+1,0,b,_,_,_,_,h2,h3=>by omega
 |m+1,m'+1,b,e,u,n,h1,h2,h3=>by
  rw[rd,rd]
  cases hq:ZhB p a u n with
  |none=>rfl
  |some q=>
   simp only
   by_cases he:q.2.1<e
   ·rw[if_pos he,if_pos he]
   ·rw[if_neg he,if_neg he]
    cases hm1:ZeI b q.1 with
    |none=>rfl
    |some b'=>
     obtain⟨i1,_,_,i4⟩:=Zf2 hm1
     have hl:b'.length=b.length+1:=by rw[i1,ZfS]
     simp only
     rw[Zpd hb m m' b' q.2.1 _ _ (by omega) (by omega) (by omega)]
theorem Zmv {k:Nat} (hk:1000000<k) {p:List Pg} (hp:p.length=602) (hb:PgB p) (w:List Write) {a:Nat} (ha:a≤1):
  Zb0 k ⟨⟨p,w⟩⟩ (a:Int)=some ((ZtJ p a).map fun x=>(x.1,(x.2:Int))):=by
 unfold Zb0
 have h0:=Zhy k hp w ha (show 0<602 by decide)
 rw[Int.natCast_zero]at h0
 rw[h0]
 simp only[Option.bind_some,ZeG k (hb.hf a 0)]
 obtain⟨m,rfl⟩:∃ m,k=m+1:=⟨k - 1,by omega⟩
 have h1:=Zko hk hp hb w ha m [] (epH (hf p a 0)) 1 0 ⟨.nil,trivial⟩ (by simp) rfl (by decide) (by decide) (by omega)
 have h2:=Zpd hb (m+1) 100 [] (epH (hf p a 0)) 1 0 (by simp;omega) (by decide) (by decide) (a:=a)
 rw[h2]at h1
 exact h1
theorem ZjD {k:Nat} (hk:1000000<k) {p:List Pg} (hp:p.length=602) (hb:PgB p) (w:List Write) {a:Nat} (ha:a≤1):
  ∃ J ok,Zbn k ⟨⟨p,w⟩⟩ (a:Int)=some (J,ok)∧(match Zel p a with|none=>ok=false|some q=>ok=true∧J.area=(a:Int)∧J.epoch=q.epoch∧J.book=⟨q.book⟩∧J.used=(q.used:Int)):=by
 have h0:=Zhy k hp w ha (show 0<602 by decide)
 rw[Int.natCast_zero]at h0
 have e4:(hf p a 0).at? 4=some (bt (hf p a 0) 4):=ZkF _ (i:=4) (by decide)
 have e5:(hf p a 0).at? 5=some (bt (hf p a 0) 5):=ZkF _ (i:=5) (by decide)
 have B4:=Zi4 (hb.hf a 0) 4
 have B5:=Zi4 (hb.hf a 0) 5
 unfold Zbn Zel Zeo
 rw[h0]
 simp only[Option.bind_some,ZeG k (hb.hf a 0),e4,e5,or2 B4 B5]
 by_cases he:epH (hf p a 0)=0
 ·simp only[decide_eq_true he,Bool.not_true,cond_false]
  rw[if_neg (fun c=>c.1 he)]
  exact⟨_,_,rfl,rfl⟩
 ·simp only[decide_eq_false he,Bool.not_false,cond_true,ZjB,Option.bind_some]
  by_cases hh:hf p a 0=Zdb (epH (hf p a 0)) (rdV [bt (hf p a 0) 4,bt (hf p a 0) 5])
  ·have hv:Vec.eq (fun(x y:Int)=>decide (x=y)) (hf p a 0) (Zdb (epH (hf p a 0)) (rdV [bt (hf p a 0) 4,bt (hf p a 0) 5]))=true:=(Zjk _ _).2 hh
   unfold Zdb at hv
   simp only[hv,Bool.not_true,cond_false,Zmv hk hp hb w ha,Option.bind_some]
   have ho:=Zkn hk hb (a:=a) (some ⟨⟨p,w⟩⟩) (a:Int) (epH (hf p a 0)) 100 [] (epH (hf p a 0)) 1 0 1 0 ⟨.nil,trivial⟩ (by simp) (by decide) (by decide) (by decide) rfl
   have hl:=Zsb (p:=p) (a:=a) 100 [] (epH (hf p a 0)) 1 0
   unfold ZkX
   rw[show ZtJ p a=rd p a 100 [] (epH (hf p a 0)) 1 0 from rfl,ho]
   simp only[Option.bind_some,Int.zero_add]
   refine⟨_,_,rfl,?_⟩
   by_cases hc:rdV [bt (hf p a 0) 4,bt (hf p a 0) 5]≤((rd p a 100 [] (epH (hf p a 0)) 1 0).length:Int)
   ·rw[if_pos ⟨he,hh,hc⟩]
    exact⟨decide_eq_true hc,rfl,rfl,rfl,rfl⟩
   ·rw[if_neg (fun c=>hc c.2.2)]
    exact decide_eq_false hc
  ·have hv:Vec.eq (fun(x y:Int)=>decide (x=y)) (hf p a 0) (Zdb (epH (hf p a 0)) (rdV [bt (hf p a 0) 4,bt (hf p a 0) 5]))=false:=by
    cases hq:Vec.eq (fun(x y:Int)=>decide (x=y)) (hf p a 0) (Zdb (epH (hf p a 0)) (rdV [bt (hf p a 0) 4,bt (hf p a 0) 5])) with
    |false=>rfl
    |true=>exact absurd ((Zjk _ _).1 hq) hh
   unfold Zdb at hv
   simp only[hv,Bool.not_false,cond_true]
   rw[if_neg (fun c=>hh c.2.1)]
   exact⟨_,_,rfl,rfl⟩
def ZiJ (p:List Pg):Option (Nat×Ar):=match Zel p 0,Zel p 1 with
 |some x,some y=>if x.epoch<y.epoch then some (1,y) else some (0,x)
 |some x,none=>some (0,x)
 |none,some y=>some (1,y)
 |none,none=>none
theorem ZiK {k:Nat} (hk:1000000<k) {p:List Pg} (hp:p.length=602) (hb:PgB p) (w:List Write):
  ∃ J ok,ZbS k ⟨⟨p,w⟩⟩=some (J,ok)∧(match ZiJ p with|none=>ok=false|some q=>ok=true∧J.area=(q.1:Int)∧J.epoch=q.2.epoch∧J.book=⟨q.2.book⟩∧J.used=(q.2.used:Int)):=by
 obtain⟨J0,o0,h0,g0⟩:=ZjD hk hp hb w (a:=0) (by decide)
 obtain⟨J1,o1,h1,g1⟩:=ZjD hk hp hb w (a:=1) (by decide)
 have h0':Zbn k ⟨⟨p,w⟩⟩ 0=some (J0,o0):=h0
 have h1':Zbn k ⟨⟨p,w⟩⟩ 1=some (J1,o1):=h1
 unfold ZbS ZiJ
 rw[h0',h1']
 simp only[Option.bind_some]
 cases hx:Zel p 0 with
 |none=>
  rw[hx]at g0
  simp only at g0
  subst g0
  cases hy:Zel p 1 with
  |none=>
   rw[hy]at g1
   simp only at g1
   subst g1
   exact⟨_,_,rfl,rfl⟩
  |some y=>
   rw[hy]at g1
   simp only at g1
   obtain⟨rfl,a2,a3,a4,a5⟩:=g1
   exact⟨_,_,rfl,rfl,a2,a3,a4,a5⟩
 |some x=>
  rw[hx]at g0
  simp only at g0
  obtain⟨rfl,b2,b3,b4,b5⟩:=g0
  cases hy:Zel p 1 with
  |none=>
   rw[hy]at g1
   simp only at g1
   subst g1
   exact⟨_,_,rfl,rfl,b2,b3,b4,b5⟩
  |some y=>
   rw[hy]at g1
   simp only at g1
   obtain⟨rfl,a2,a3,a4,a5⟩:=g1
   simp only[cond_true,b3,a3]
   by_cases hlt:x.epoch<y.epoch
   ·simp only[decide_eq_true hlt,cond_true,if_pos hlt]
    exact⟨_,_,rfl,rfl,a2,a3,a4,a5⟩
   ·simp only[decide_eq_false hlt,cond_false,if_neg hlt]
    exact⟨_,_,rfl,rfl,b2,b3,b4,b5⟩
end Go.Abs
namespace Go.Abs
open Go Go.Proofs
set_option maxRecDepth 20000
set_option linter.unusedVariables false
set_option linter.unusedSimpArgs false
theorem Zju {k:Nat} (hk:1000000<k) {l:List Record} (hl:l.length≤100000):Zan k l l=some true:=by
 unfold Zan
 simp only[decide_true,Bool.not_true,cond_false]
 have h:=Zkz (l:=l) (body:=Zan.b0 k l l) (p:=fun _=>true) (c:=false) (by omega) (k:=k) (by omega) (fun i x hx=>by
  have hi:=(gS.1 hx).1
  unfold Zan.b0
  simp only[decide_eq_true (show (i:Int)<(l.length:Int) by omega),cond_true,Zc6 hx,Option.bind_some,decide_true,Bool.true_and,beq_self_eq_true,Bool.not_true,cond_false]) (by
  unfold Zan.b0
  simp only[(by simp:decide ((l.length:Int)<(l.length:Int))=false),cond_false])
 rw[h]
 have:l.all (fun _=>true)=true:=by simp
 rw[this]
 rfl
theorem PgB.mend {w:List Write} (hw:∀ x∈w,∀ h∈x.Page.l,Byt h.l):∀ {p:List Pg},PgB p→PgB (mend p w):=by
 induction w with
 |nil=>intro p h;exact h
 |cons x w ih=>
  intro p h
  refine ih (fun y hy=>hw y (by simp[hy])) (fun g hg=>?_)
  rcases List.mem_or_eq_of_mem_set hg with g1|rfl
  ·exact h g g1
  ·exact hw x (by simp)
structure DB (d:Disk):Prop where
 ok:dOK d=true
 pb:PgB d.Pages
 wb:∀ x∈d.Wait,∀ h∈x.Page.l,Byt h.l
theorem DB.new {d:Disk} (h:DB d):PgB (mend d.Pages d.Wait):=PgB.mend h.wb h.pb
theorem DB.len {d:Disk} (h:DB d):(mend d.Pages d.Wait).length=602:=by rw[ZqS];exact(Zep.1 h.ok).1
structure LedOK (d:Disk) (l:Ledger) (q:Nat×Ar):Prop where
 meant:ZiJ (mend d.Pages d.Wait)=some q
 le:q.1≤1
 area:l.Area=(q.1:Int)
 used:l.Used=(q.2.used:Int)
 book:l.Book=⟨q.2.book⟩
 short:q.2.book.length≤60
 ep:1≤l.Epoch∧l.Epoch≤1000000
 m0:mx (mend d.Pages d.Wait) 0 0≤l.Epoch
 m1:mx (mend d.Pages d.Wait) 1 0≤l.Epoch
 mu:mx (mend d.Pages d.Wait) q.1 q.2.used<l.Epoch
theorem Zd2 {x lo hi:Int} (h:lo≤x∧x≤hi):within x lo hi=true:=by unfold within;simp[h.1,h.2]
theorem Zen {k:Nat} (hk:1000000<k) {d:Disk} (hd:DB d) {l:Ledger}{q:Nat×Ar} (h:LedOK d l q):ZbA k d l=some 0:=by
 obtain⟨J,ok,h1,h2⟩:=ZiK hk hd.len hd.new []
 rw[h.meant]at h2
 simp only at h2
 obtain⟨rfl,ha,he,hbk,hu⟩:=h2
 have E0:=ZcV hk hd.len hd.new [] (a:=0) (by decide) 0
 have E1:=ZcV hk hd.len hd.new [] (a:=1) (by decide) 0
 have E2:=ZcV hk hd.len hd.new [] h.le q.2.used
 have E0':Zaq k ⟨⟨mend d.Pages d.Wait,[]⟩⟩ 0 0=some (mx (mend d.Pages d.Wait) 0 0):=E0
 have E1':Zaq k ⟨⟨mend d.Pages d.Wait,[]⟩⟩ 1 0=some (mx (mend d.Pages d.Wait) 1 0):=E1
 have hm0:=h.m0
 have hm1:=h.m1
 have hmu:=h.mu
 have hs:=h.short
 unfold ZbA
 rw[Zei hk,hd.ok]
 simp only[Option.bind_some,Bool.not_true,cond_false]
 rw[Zdv hd.ok]
 simp only[Option.bind_some]
 rw[Zgf hk hd.ok]
 simp only[Option.bind_some,h1,cond_true,h.area,ha,hu,h.used,decide_true,hbk,h.book,Zju hk (show q.2.book.length≤100000 by omega),Zcc,Zd2 h.ep,Bool.not_true,cond_false,E0',E1']
 rw[decide_eq_false (show ¬ l.Epoch<max (mx (mend d.Pages d.Wait) 0 0) (mx (mend d.Pages d.Wait) 1 0) by omega)]
 simp only[Bool.not_false,cond_true,E2,Option.bind_some]
 rw[decide_eq_false (show ¬ l.Epoch≤mx (mend d.Pages d.Wait) q.1 q.2.used by omega)]
 rfl
theorem ZsT {k:Nat} (hk:1000000<k) {d:Disk} (hd:DB d) {q:Nat×Ar} (h:ZiJ (mend d.Pages d.Wait)=some q) (hm:max (mx (mend d.Pages d.Wait) 0 0) (mx (mend d.Pages d.Wait) 1 0)<1000000):
  ZcX k d=some (⟨mend d.Pages d.Wait,[]⟩,⟨⟨q.2.book⟩,(q.1:Int),1+max (mx (mend d.Pages d.Wait) 0 0) (mx (mend d.Pages d.Wait) 1 0),(q.2.used:Int)⟩,0):=by
 obtain⟨J,ok,h1,h2⟩:=ZiK hk hd.len hd.new []
 rw[h]at h2
 simp only at h2
 obtain⟨rfl,ha,he,hbk,hu⟩:=h2
 have E0':Zaq k ⟨⟨mend d.Pages d.Wait,[]⟩⟩ 0 0=some (mx (mend d.Pages d.Wait) 0 0):=ZcV hk hd.len hd.new [] (a:=0) (by decide) 0
 have E1':Zaq k ⟨⟨mend d.Pages d.Wait,[]⟩⟩ 1 0=some (mx (mend d.Pages d.Wait) 1 0):=ZcV hk hd.len hd.new [] (a:=1) (by decide) 0
 have n0:=Zhh (mend d.Pages d.Wait) 0 0
 have n1:=Zhh (mend d.Pages d.Wait) 1 0
 have hw:w64 (1+max (mx (mend d.Pages d.Wait) 0 0) (mx (mend d.Pages d.Wait) 1 0))=1+max (mx (mend d.Pages d.Wait) 0 0) (mx (mend d.Pages d.Wait) 1 0):=ZaD (by omega) (by omega)
 unfold ZcX
 rw[Zei hk,hd.ok]
 simp only[Option.bind_some,Bool.not_true,cond_false]
 rw[Zdv hd.ok]
 simp only[Option.bind_some]
 rw[Zgf hk hd.ok]
 simp only[Option.bind_some,h1,Bool.not_true,cond_false,E0',E1',hw,hbk,ha,hu]
 rw[decide_eq_false (show ¬ (1000000:Int)<1+max (mx (mend d.Pages d.Wait) 0 0) (mx (mend d.Pages d.Wait) 1 0) by omega)]
 rfl
def ph (p:List Pg) (j s:Nat):Hf:=match p[j]? with
 |some g=>(g.l[s]?).getD hz
 |none=>hz
theorem ZoL (p:List Pg) (a i:Nat):hf p a i=ph p (301*a+i / 2) (i % 2):=rfl
def sd (g:Pg) (s:Nat):Hf:=(g.l[s]?).getD hz
theorem Zhj {p:List Pg}{j:Nat}{g:Pg} (h:p[j]?=some g) (s:Nat):ph p j s=sd g s:=by unfold ph;rw[h];rfl
theorem Zti {p:List Pg}{j:Nat} (h:p.length≤j) (s:Nat):ph p j s=hz:=by unfold ph;rw[List.getElem?_eq_none h]
theorem Zlx {p:List Pg}{j:Nat} (hj:j<p.length) (g:Pg) (j' s:Nat):ph (p.set j g) j' s=if j'=j then sd g s else ph p j' s:=by
 by_cases e:j'=j
 ·subst e
  rw[if_pos rfl,Zhj (by rw[List.getElem?_set_self hj])]
 ·rw[if_neg e]
  unfold ph
  rw[List.getElem?_set_ne (Ne.symm e)]
theorem Zgq (g:Pg) {s:Nat} (hs:s<2) (x:Hf) (s':Nat):sd (g.set (s:Int) x) s'=if s'=s then x else sd g s':=by
 have hl:=g.h
 unfold sd Vec.set
 simp only[Int.toNat_natCast]
 by_cases e:s'=s
 ·subst e
  rw[if_pos rfl,List.getElem?_set_self (by omega)];rfl
 ·rw[if_neg e,List.getElem?_set_ne (Ne.symm e)]
theorem Zue (g:Pg) {s:Nat} (hs:s<2):g.at? (s:Int)=some (sd g s):=by
 have:=Zp8 g s
 rw[Nat.mod_eq_of_lt hs]at this
 exact this
def Btw (old new p:List Pg):Prop:=∀ j s,ph p j s=ph old j s∨ph p j s=ph new j s
theorem Zpv {k:Nat}{p:List Pg} (hp:p.length=602) {w:Write} (hw:0≤w.At∧w.At≤601) {s:Nat} (hs:s<2):
  ∃ g,at? p w.At=some g∧Zml p w.At (g.set (s:Int) (sd w.Page s))=some (p.set w.At.toNat (g.set (s:Int) (sd w.Page s)))∧∀ j' s',ph (p.set w.At.toNat (g.set (s:Int) (sd w.Page s))) j' s'=if j'=w.At.toNat∧s'=s then sd w.Page s else ph p j' s':=by
 have hj:w.At.toNat<p.length:=by omega
 refine⟨p[w.At.toNat],?_,?_,fun j' s'=>?_⟩
 ·unfold at?
  rw[if_pos ⟨by omega,by omega⟩,gG hj]
 ·unfold Zml
  rw[if_pos ⟨by omega,by omega⟩]
 ·rw[Zlx hj,Zgq _ hs]
  by_cases e:j'=w.At.toNat
  ·subst e
   by_cases e2:s'=s
   ·rw[if_pos rfl,if_pos e2,if_pos ⟨rfl,e2⟩]
   ·rw[if_pos rfl,if_neg e2,if_neg (fun c=>e2 c.2),Zhj (gG hj)]
  ·rw[if_neg e,if_neg (fun c=>e c.1)]
def Zv1 (p p':List Pg) (w:Write):Prop:=p'.length=602∧∀ j s,ph p' j s=ph p j s∨(j=w.At.toNat∧ph p' j s=sd w.Page s)
theorem ZjL {R:Type}{w:Write} (hw:0≤w.At∧w.At≤601) {body:Int×List Pg→Option (Stp (Int×List Pg) (List Pg) R)}{c:Nat→Bool}
  (h1:∀ (s:Nat) p,s<2→p.length=602→body ((s:Int),p)=bif c s then (w.Page.at? (s:Int)).bind fun x=>(at? p w.At).bind fun g=>(g.at? (s:Int)).bind fun _=>(Zml p w.At (g.set (s:Int) x)).bind fun l=>some (.next (w64 ((s:Int)+1),l)) else some (.next (w64 ((s:Int)+1),p)))
  (h2:∀ p,body (2,p)=some (.brk p)) {p:List Pg} (hp:p.length=602) (m:Nat):∃ p',whl body (m+3) (0,p)=some (.brk p')∧Zv1 p p' w:=by
 have w1:w64 (((0:Nat):Int)+1)=((1:Nat):Int):=by decide
 have w2:w64 (((1:Nat):Int)+1)=2:=by decide
 have one:∀ (s:Nat) (p:List Pg),s<2→p.length=602→∃ p',body ((s:Int),p)=some (.next (w64 ((s:Int)+1),p'))∧Zv1 p p' w:=by
  intro s p hs hp
  rw[h1 s p hs hp]
  cases c s with
  |false=>exact⟨p,rfl,hp,fun j s=>.inl rfl⟩
  |true=>
   obtain⟨g,g1,g3,g4⟩:=Zpv (k:=0) hp hw hs
   refine⟨p.set w.At.toNat (g.set (s:Int) (sd w.Page s)),?_,by rw[List.length_set];exact hp,fun j s'=>?_⟩
   ·simp only[cond_true,Zue w.Page hs,Zue g hs,g1,g3,Option.bind_some]
   ·rw[g4]
    by_cases e:j=w.At.toNat∧s'=s
    ·rw[if_pos e];exact .inr ⟨e.1,by rw[e.2]⟩
    ·rw[if_neg e];exact .inl rfl
 obtain⟨p1,a1,b1,b2⟩:=one 0 p (by decide) hp
 obtain⟨p2,a2,c1,c2⟩:=one 1 p1 (by decide) b1
 rw[w1]at a1
 rw[w2]at a2
 refine⟨p2,?_,c1,fun j s=>?_⟩
 ·have a1':body (0,p)=some (.next (((1:Nat):Int),p1)):=a1
  simp only[whl,a1',a2,h2]
 ·rcases c2 j s with e|⟨e1,e2⟩
  ·rcases b2 j s with f|⟨f1,f2⟩
   ·exact .inl (e.trans f)
   ·exact .inr ⟨f1,e.trans f2⟩
  ·exact .inr ⟨e1,e2⟩
theorem ZqC {k:Nat} (hk:1000000<k) {d:Disk} (hd:DB d) (picks:List Int) (hpl:picks.length≤4611686018427387904)
  (hW:∀ w∈d.Wait,∀ s,sd w.Page s=ph d.Pages w.At.toNat s∨sd w.Page s=ph (mend d.Pages d.Wait) w.At.toNat s):
  ∃ p',Zao k d picks=some ⟨p',[]⟩∧p'.length=602∧Btw d.Pages (mend d.Pages d.Wait) p':=by
 obtain⟨h1,h2,h3⟩:=Zep.1 hd.ok
 have step:∀ (i:Nat) w (p:List Pg),d.Wait[i]?=some w→p.length=602→∃ p',Zao.b0 k picks ⟨d⟩ ((i:Int),p)=some (.next (w64 ((i:Int)+1),p'))∧Zv1 p p' w:=by
  intro i w p hx hp
  have hi:=(gS.1 hx).1
  have hw:=h3 w (List.mem_of_getElem? hx)
  unfold Zao.b0
  simp only[decide_eq_true (show (i:Int)<((d.Wait.length:Nat):Int) by omega),cond_true,Zc6 hx,Option.bind_some]
  obtain⟨m,rfl⟩:∃ m,k=m+3:=⟨k - 3,by omega⟩
  have sh0:∀ s:Nat,s<2→sh? (s:Int)=some ():=fun s hs=>by unfold sh?;rw[if_neg (by omega)]
  by_cases hz:(0:Int)<(picks.length:Int)
  ·have hnz:nz? (picks.length:Int)=some ():=by unfold nz?;rw[if_neg (by omega)]
   obtain⟨x,hxp⟩:∃ x,at? picks (Int.tmod (i:Int) (picks.length:Int))=some x:=by
    rw[←Int.ofNat_tmod]
    have hlt:i % picks.length<picks.length:=Nat.mod_lt _ (by omega)
    exact⟨_,Zc6 (gG hlt)⟩
   simp only[decide_eq_true hz,cond_true,hnz,hxp,Option.bind_some]
   obtain⟨p',g1,g2⟩:=ZjL (w:=w) hw (body:=Zao.b1 (m+3) w x) (c:=fun s=>decide (Zqd .i64 (Int.fdiv (Zqd .i64 x 3) (2 ^ (min (Int.toNat (s:Int)) 64))) 1=(1:Int))) (fun s p hs hp=>by
    unfold Zao.b1
    simp only[decide_eq_true (show (s:Int)<2 by omega),cond_true,sh0 s hs,Option.bind_some]) (fun p=>by
    unfold Zao.b1
    simp only[(by decide:decide ((2:Int)<2)=false),cond_false]) hp m
   exact⟨p',by rw[g1];rfl,g2⟩
  ·simp only[decide_eq_false hz,cond_false]
   obtain⟨p',g1,g2⟩:=ZjL (w:=w) hw (body:=Zao.b1_2 (m+3) w) (c:=fun s=>decide (Zqd .i64 (Int.fdiv 0 (2 ^ (min (Int.toNat (s:Int)) 64))) 1=(1:Int))) (fun s p hs hp=>by
    unfold Zao.b1_2
    simp only[decide_eq_true (show (s:Int)<2 by omega),cond_true,sh0 s hs,Option.bind_some]) (fun p=>by
    unfold Zao.b1_2
    simp only[(by decide:decide ((2:Int)<2)=false),cond_false]) hp m
   exact⟨p',by rw[g1];rfl,g2⟩
 have key:∀ (n i m:Nat) (p:List Pg),i+n=d.Wait.length→n<m→p.length=602→Btw d.Pages (mend d.Pages d.Wait) p→
   ∃ p',whl (Zao.b0 k picks ⟨d⟩) m ((i:Int),p)=some (.brk p')∧p'.length=602∧Btw d.Pages (mend d.Pages d.Wait) p':=by
  intro n
  induction n with
  |zero=>
   intro i m p g1 g2 g3 g4
   obtain⟨m,rfl⟩:∃ q,m=q+1:=⟨m - 1,by omega⟩
   have hb:Zao.b0 k picks ⟨d⟩ ((i:Int),p)=some (.brk p):=by
    unfold Zao.b0
    simp only[decide_eq_false (show ¬ (i:Int)<((d.Wait.length:Nat):Int) by omega),cond_false]
   exact⟨p,by simp only[whl,hb],g3,g4⟩
  |succ n ih=>
   intro i m p g1 g2 g3 g4
   obtain⟨m,rfl⟩:∃ q,m=q+1:=⟨m - 1,by omega⟩
   obtain⟨w,hw⟩:∃ w,d.Wait[i]?=some w:=⟨_,gG (by omega)⟩
   obtain⟨p1,a1,a2,a3⟩:=step i w p hw g3
   have hww:w64 ((i:Int)+1)=((i+1:Nat):Int):=by rw[ZaD (by omega) (by omega)];omega
   rw[hww]at a1
   obtain⟨p',b1,b2⟩:=ih (i+1) m p1 (by omega) (by omega) a2 (fun j s=>by
    rcases a3 j s with e|⟨e1,e2⟩
    ·rw[e];exact g4 j s
    ·rw[e2,e1];exact hW w (List.mem_of_getElem? hw) s)
   exact⟨p',by simp only[whl,a1,b1],b2⟩
 unfold Zao
 rw[Zdv hd.ok,Zei hk,hd.ok]
 simp only[Option.bind_some,Bool.not_true,cond_false]
 obtain⟨p',b1,b2,b3⟩:=key d.Wait.length 0 k d.Pages (by omega) (by omega) h1 (fun j s=>.inl rfl)
 rw[Int.natCast_zero]at b1
 exact⟨p',by rw[b1];rfl,b2,b3⟩
end Go.Abs
namespace Go.Abs
open Go Go.Proofs
set_option maxRecDepth 20000
set_option linter.unusedVariables false
set_option linter.unusedSimpArgs false
def pz:Pg:=Vec.rep 2 hz
def wsR (p:List Pg) (a u:Nat) (l:List Hf):Nat→Nat→List Write
 |0,_=>[]
 |f+1,i=>match l[i]? with
  |none=>[]
  |some x=>if (u+i) % 2=1 then ⟨((301*a+(u+i) / 2:Nat):Int),((p[301*a+(u+i) / 2]?).getD pz).set 1 x⟩::wsR p a u l f (i+1) else match l[i+1]? with
   |none=>[⟨((301*a+(u+i) / 2:Nat):Int),((p[301*a+(u+i) / 2]?).getD pz).set 0 x⟩]
   |some y=>⟨((301*a+(u+i) / 2:Nat):Int),(((p[301*a+(u+i) / 2]?).getD pz).set 0 x).set 1 y⟩::wsR p a u l f (i+2)
theorem Zom {k:Nat} (hk:1000000<k) {p:List Pg} (hp:p.length=602) {a u:Nat} (ha:a≤1) {l:List Hf} (hul:u+l.length≤602):∀ (f i m:Nat) (ws:List Write),l.length - i≤f→f<m→i≤l.length→ws.length+f≤100000→
  whl (Zag.b0 k (a:Int) (u:Int) l ⟨⟨p,[]⟩⟩) m ((i:Int),ws)=some (.brk (ws++wsR p a u l f i)):=by
 intro f
 induction f with
 |zero=>
  intro i m ws h1 h2 h3 h4
  obtain⟨m,rfl⟩:∃ q,m=q+1:=⟨m - 1,by omega⟩
  have hb:Zag.b0 k (a:Int) (u:Int) l ⟨⟨p,[]⟩⟩ ((i:Int),ws)=some (.brk ws):=by
   unfold Zag.b0
   simp only[decide_eq_false (show ¬ (i:Int)<(l.length:Int) by omega),cond_false]
  simp only[whl,hb,wsR,List.append_nil]
 |succ f ih=>
  intro i m ws h1 h2 h3 h4
  obtain⟨m,rfl⟩:∃ q,m=q+1:=⟨m - 1,by omega⟩
  by_cases hi:i<l.length
  ·obtain⟨x,hx⟩:∃ x,l[i]?=some x:=⟨_,gG hi⟩
   have hui:w64 ((u:Int)+(i:Int))=((u+i:Nat):Int):=by rw[ZaD (by omega) (by omega)];omega
   have hw1:w64 ((i:Int)+1)=((i+1:Nat):Int):=by rw[ZaD (by omega) (by omega)];omega
   have hui1:w64 ((u:Int)+((i+1:Nat):Int))=((u+(i+1):Nat):Int):=by rw[ZaD (by omega) (by omega)];omega
   have hg:p[301*a+(u+i) / 2]?=some (p[301*a+(u+i) / 2]'(by omega)):=gG (by omega)
   obtain⟨g,hg'⟩:∃ g,p[301*a+(u+i) / 2]?=some g:=⟨_,hg⟩
   have hpg:=Zun hp ha (show u+i<602 by omega)
   obtain⟨k',rfl⟩:∃ k',k=k'+2:=⟨k - 2,by omega⟩
   have hpush:∀ v:Write,Zfj 72 ws v=some (ws++[v]):=fun v=>ZiG (by omega) (by omega)
   by_cases hodd:(u+i) % 2=1
   ·have hin:Zag.b1 (k'+2) (u:Int) l (g,(i:Int))=some (.brk (g.set 1 x,((i+1:Nat):Int))):=by
     unfold Zag.b1
     have hm:Int.tmod ((u+i:Nat):Int) 2=((1:Nat):Int):=by rw[ZsQ,hodd]
     have hm1:Int.tmod ((u+(i+1):Nat):Int) 2=0:=by rw[ZsQ];omega
     simp only[Zc6 hx,Option.bind_some,hui,hm,Zue g (show 1<2 by decide),hw1,hui1,hm1,decide_true,cond_true]
     cases decide (((i+1:Nat):Int)=(l.length:Int))<;>rfl
    have hb:Zag.b0 (k'+2) (a:Int) (u:Int) l ⟨⟨p,[]⟩⟩ ((i:Int),ws)=some (.next (((i+1:Nat):Int),ws++[⟨((301*a+(u+i) / 2:Nat):Int),g.set 1 x⟩])):=by
     unfold Zag.b0
     simp only[decide_eq_true (show (i:Int)<(l.length:Int) by omega),cond_true,hui,hpg,Zc6 hg',Option.bind_some,whl,hin,hpush]
    simp only[whl,hb]
    rw[ih (i+1) m _ (by omega) (by omega) (by omega) (by simp;omega)]
    rw[wsR,hx]
    simp only[if_pos hodd,hg',Option.getD_some]
    simp
   ·have hm:Int.tmod ((u+i:Nat):Int) 2=((0:Nat):Int):=by rw[ZsQ];omega
    have hm1:¬ Int.tmod ((u+(i+1):Nat):Int) 2=0:=by rw[ZsQ];omega
    by_cases hl1:i+1=l.length
    ·have hin:Zag.b1 (k'+2) (u:Int) l (g,(i:Int))=some (.brk (g.set 0 x,((i+1:Nat):Int))):=by
      unfold Zag.b1
      simp only[Zc6 hx,Option.bind_some,hui,hm,Zue g (show 0<2 by decide),hw1,decide_eq_true (show ((i+1:Nat):Int)=(l.length:Int) by omega),Bool.not_true,cond_false]
      rfl
     have hb:Zag.b0 (k'+2) (a:Int) (u:Int) l ⟨⟨p,[]⟩⟩ ((i:Int),ws)=some (.next (((i+1:Nat):Int),ws++[⟨((301*a+(u+i) / 2:Nat):Int),g.set 0 x⟩])):=by
      unfold Zag.b0
      simp only[decide_eq_true (show (i:Int)<(l.length:Int) by omega),cond_true,hui,hpg,Zc6 hg',Option.bind_some,whl,hin,hpush]
     have hn:l[i+1]?=none:=List.getElem?_eq_none (by omega)
     have hend:wsR p a u l f (i+1)=[]:=by
      cases f with
      |zero=>rfl
      |succ f=>rw[wsR,hn]
     simp only[whl,hb]
     rw[ih (i+1) m _ (by omega) (by omega) (by omega) (by simp;omega),hend]
     rw[wsR,hx]
     simp only[if_neg hodd,hn,hg',Option.getD_some]
     simp
    ·obtain⟨y,hy⟩:∃ y,l[i+1]?=some y:=⟨_,gG (by omega)⟩
     have hw2:w64 (((i+1:Nat):Int)+1)=((i+2:Nat):Int):=by rw[ZaD (by omega) (by omega)];omega
     have hui2:w64 ((u:Int)+((i+2:Nat):Int))=((u+(i+2):Nat):Int):=by rw[ZaD (by omega) (by omega)];omega
     have hm2:Int.tmod ((u+(i+1):Nat):Int) 2=((1:Nat):Int):=by rw[ZsQ];omega
     have hm3:Int.tmod ((u+(i+2):Nat):Int) 2=0:=by rw[ZsQ];omega
     have hin0:Zag.b1 (k'+2) (u:Int) l (g,(i:Int))=some (.next (g.set 0 x,((i+1:Nat):Int))):=by
      unfold Zag.b1
      simp only[Zc6 hx,Option.bind_some,hui,hm,Zue g (show 0<2 by decide),hw1,decide_eq_false (show ¬ ((i+1:Nat):Int)=(l.length:Int) by omega),Bool.not_false,cond_true,hui1,decide_eq_false hm1,cond_false]
      rfl
     have hin1:Zag.b1 (k'+2) (u:Int) l (g.set 0 x,((i+1:Nat):Int))=some (.brk ((g.set 0 x).set 1 y,((i+2:Nat):Int))):=by
      unfold Zag.b1
      simp only[Zc6 hy,Option.bind_some,hui1,hm2,Zue (g.set 0 x) (show 1<2 by decide),hw2,hui2,hm3,decide_true,cond_true]
      cases decide (((i+2:Nat):Int)=(l.length:Int))<;>rfl
     have hb:Zag.b0 (k'+2) (a:Int) (u:Int) l ⟨⟨p,[]⟩⟩ ((i:Int),ws)=some (.next (((i+2:Nat):Int),ws++[⟨((301*a+(u+i) / 2:Nat):Int),(g.set 0 x).set 1 y⟩])):=by
      unfold Zag.b0
      simp only[decide_eq_true (show (i:Int)<(l.length:Int) by omega),cond_true,hui,hpg,Zc6 hg',Option.bind_some,whl,hin0,hin1,hpush]
     simp only[whl,hb]
     rw[ih (i+2) m _ (by omega) (by omega) (by omega) (by simp;omega)]
     rw[wsR,hx]
     simp only[if_neg hodd,hy,hg',Option.getD_some]
     simp
  ·have hn:l[i]?=none:=List.getElem?_eq_none (by omega)
   have hb:Zag.b0 k (a:Int) (u:Int) l ⟨⟨p,[]⟩⟩ ((i:Int),ws)=some (.brk ws):=by
    unfold Zag.b0
    simp only[decide_eq_false (show ¬ (i:Int)<(l.length:Int) by omega),cond_false]
   simp only[whl,hb]
   rw[wsR,hn]
   simp
abbrev Zha (a u i n j s:Nat):Prop:=301*a≤j∧j<301*a+301∧u+i≤2*(j - 301*a)+s∧2*(j - 301*a)+s<u+n
def tg (p:List Pg) (a u:Nat) (l:List Hf) (i j s:Nat):Hf:=if Zha a u i l.length j s then (l[2*(j - 301*a)+s - u]?).getD hz else ph p j s
theorem ZvE {p:List Pg}{s:Nat} (hs:2≤s) (j:Nat):ph p j s=hz:=by
 unfold ph
 split
 ·rename_i g _
  have:=g.h
  rw[List.getElem?_eq_none (by omega)];rfl
 ·rfl
theorem Zwf {g:Pg}{s:Nat} (hs:2≤s):sd g s=hz:=by
 have:=g.h
 unfold sd
 rw[List.getElem?_eq_none (by omega)];rfl
theorem Zk4 (p:List Pg) (a u:Nat) (l:List Hf):∀ f i,(wsR p a u l f i).length≤l.length - i
 |0,i=>by simp[wsR]
 |f+1,i=>by
  rw[wsR]
  cases hx:l[i]? with
  |none=>simp
  |some x=>
   have hi:=(gS.1 hx).1
   simp only
   split
   ·have:=Zk4 p a u l f (i+1)
    rw[List.length_cons];omega
   ·cases hy:l[i+1]? with
    |none=>simp;omega
    |some y=>
     have hi1:=(gS.1 hy).1
     have:=Zk4 p a u l f (i+2)
     simp only[List.length_cons];omega
theorem ZpZ {p:List Pg} (hp:p.length=602) {a u:Nat} (ha:a≤1) {l:List Hf} (hul:u+l.length≤602):∀ f i,((u+i) % 2=1→i=0)→∀ w∈wsR p a u l f i,(0≤w.At∧w.At≤601)∧∀ s,s<2→sd w.Page s=tg p a u l 0 w.At.toNat s
 |0,i,_,w,hw=>by simp[wsR]at hw
 |f+1,i,ho,w,hw=>by
  rw[wsR]at hw
  cases hx:l[i]? with
  |none=>rw[hx]at hw;simp at hw
  |some x=>
   have hi:=(gS.1 hx).1
   have hg:p[301*a+(u+i) / 2]?=some (p[301*a+(u+i) / 2]'(by omega)):=gG (by omega)
   obtain⟨g,hg'⟩:∃ g,p[301*a+(u+i) / 2]?=some g:=⟨_,hg⟩
   rw[hx]at hw
   simp only[hg',Option.getD_some]at hw
   split at hw
   ·rename_i hodd
    rcases List.mem_cons.1 hw with rfl|hw
    ·refine⟨by simp only;omega,fun s hs=>?_⟩
     simp only[Int.toNat_natCast]
     rw[show (1:Int)=((1:Nat):Int) from rfl,Zgq g (show 1<2 by decide)]
     have h0:=ho hodd
     unfold tg Zha
     by_cases e:s=1
     ·rw[if_pos e,if_pos (by omega),show 2*(301*a+(u+i) / 2 - 301*a)+s - u=i by omega,hx];rfl
     ·rw[if_neg e,if_neg (by omega),Zhj hg']
    ·exact ZpZ hp ha hul f (i+1) (by omega) w hw
   ·rename_i hev
    cases hy:l[i+1]? with
    |none=>
     have hi1:l.length≤i+1:=List.getElem?_eq_none_iff.1 hy
     rw[hy]at hw
     simp only[List.mem_singleton]at hw
     subst hw
     refine⟨by simp only;omega,fun s hs=>?_⟩
     simp only[Int.toNat_natCast]
     rw[show (0:Int)=((0:Nat):Int) from rfl,Zgq g (show 0<2 by decide)]
     unfold tg Zha
     by_cases e:s=0
     ·rw[if_pos e,if_pos (by omega),show 2*(301*a+(u+i) / 2 - 301*a)+s - u=i by omega,hx];rfl
     ·rw[if_neg e,if_neg (by omega),Zhj hg']
    |some y=>
     have hi1:=(gS.1 hy).1
     rw[hy]at hw
     simp only at hw
     rcases List.mem_cons.1 hw with rfl|hw
     ·refine⟨by simp only;omega,fun s hs=>?_⟩
      simp only[Int.toNat_natCast]
      rw[show (1:Int)=((1:Nat):Int) from rfl,Zgq _ (show 1<2 by decide),show (0:Int)=((0:Nat):Int) from rfl,Zgq g (show 0<2 by decide)]
      unfold tg Zha
      by_cases e:s=1
      ·rw[if_pos e,if_pos (by omega),show 2*(301*a+(u+i) / 2 - 301*a)+s - u=i+1 by omega,hy];rfl
      ·rw[if_neg e,if_pos (by omega),if_pos (by omega),show 2*(301*a+(u+i) / 2 - 301*a)+s - u=i by omega,hx];rfl
     ·exact ZpZ hp ha hul f (i+2) (by omega) w hw
theorem Zk5 {p:List Pg} (hp:p.length=602) {a u:Nat} (ha:a≤1) {l:List Hf} (hul:u+l.length≤602):∀ (f i:Nat) (q:List Pg),l.length - i≤f→((u+i) % 2=1→i=0)→q.length=602→(∀ j,301*a+(u+i) / 2≤j→q[j]?=p[j]?)→∀ j s,s<2→ph (mend q (wsR p a u l f i)) j s=tg q a u l i j s
 |0,i,q,hf,_,hq,hqp,j,s,hs=>by
  unfold wsR mend tg Zha
  rw[List.foldl_nil,if_neg (by omega)]
 |f+1,i,q,hf,ho,hq,hqp,j,s,hs=>by
  rw[wsR]
  cases hx:l[i]? with
  |none=>
   have hi:l.length≤i:=List.getElem?_eq_none_iff.1 hx
   unfold mend tg Zha
   rw[List.foldl_nil,if_neg (by omega)]
  |some x=>
   have hi:=(gS.1 hx).1
   have hg:p[301*a+(u+i) / 2]?=some (p[301*a+(u+i) / 2]'(by omega)):=gG (by omega)
   obtain⟨g,hg'⟩:∃ g,p[301*a+(u+i) / 2]?=some g:=⟨_,hg⟩
   have hqg:q[301*a+(u+i) / 2]?=some g:=by rw[hqp _ (Nat.le_refl _)];exact hg'
   have hjl:301*a+(u+i) / 2<q.length:=by omega
   simp only[hg',Option.getD_some]
   split
   ·rename_i hodd
    have h0:=ho hodd
    unfold mend
    rw[List.foldl_cons]
    simp only[Int.toNat_natCast]
    have:=Zk5 hp ha hul f (i+1) (q.set (301*a+(u+i) / 2) (g.set 1 x)) (by omega) (by omega) (by rw[List.length_set];exact hq) (fun j hj=>by rw[List.getElem?_set_ne (by omega)];exact hqp j (by omega)) j s hs
    unfold mend at this
    rw[this]
    unfold tg Zha
    rw[Zlx hjl,show (1:Int)=((1:Nat):Int) from rfl,Zgq g (show 1<2 by decide)]
    by_cases ej:j=301*a+(u+i) / 2
    ·rw[if_pos ej,if_neg (by omega)]
     by_cases e:s=1
     ·rw[if_pos e,if_pos (by omega),show 2*(j - 301*a)+s - u=i by omega,hx];rfl
     ·rw[if_neg e,if_neg (by omega),ej,Zhj hqg]
    ·rw[if_neg ej]
     by_cases hc:301*a≤j∧j<301*a+301∧u+(i+1)≤2*(j - 301*a)+s∧2*(j - 301*a)+s<u+l.length
     ·rw[if_pos hc,if_pos (by omega)]
     ·rw[if_neg hc,if_neg (by omega)]
   ·rename_i hev
    cases hy:l[i+1]? with
    |none=>
     have hi1:l.length≤i+1:=List.getElem?_eq_none_iff.1 hy
     unfold mend tg Zha
     simp only[List.foldl_cons,List.foldl_nil,Int.toNat_natCast]
     rw[Zlx hjl,show (0:Int)=((0:Nat):Int) from rfl,Zgq g (show 0<2 by decide)]
     by_cases ej:j=301*a+(u+i) / 2
     ·rw[if_pos ej]
      by_cases e:s=0
      ·rw[if_pos e,if_pos (by omega),show 2*(j - 301*a)+s - u=i by omega,hx];rfl
      ·rw[if_neg e,if_neg (by omega),ej,Zhj hqg]
     ·rw[if_neg ej,if_neg (by omega)]
    |some y=>
     have hi1:=(gS.1 hy).1
     unfold mend
     simp only
     rw[List.foldl_cons]
     simp only[Int.toNat_natCast]
     have:=Zk5 hp ha hul f (i+2) (q.set (301*a+(u+i) / 2) ((g.set 0 x).set 1 y)) (by omega) (by omega) (by rw[List.length_set];exact hq) (fun j hj=>by rw[List.getElem?_set_ne (by omega)];exact hqp j (by omega)) j s hs
     unfold mend at this
     rw[this]
     unfold tg Zha
     rw[Zlx hjl,show (1:Int)=((1:Nat):Int) from rfl,Zgq _ (show 1<2 by decide),show (0:Int)=((0:Nat):Int) from rfl,Zgq g (show 0<2 by decide)]
     by_cases ej:j=301*a+(u+i) / 2
     ·rw[if_pos ej,if_neg (by omega)]
      by_cases e:s=1
      ·rw[if_pos e,if_pos (by omega),show 2*(j - 301*a)+s - u=i+1 by omega,hy];rfl
      ·rw[if_neg e,if_pos (by omega),if_pos (by omega),show 2*(j - 301*a)+s - u=i by omega,hx];rfl
     ·rw[if_neg ej]
      by_cases hc:301*a≤j∧j<301*a+301∧u+(i+2)≤2*(j - 301*a)+s∧2*(j - 301*a)+s<u+l.length
      ·rw[if_pos hc,if_pos (by omega)]
      ·rw[if_neg hc,if_neg (by omega)]
theorem ZrO {k:Nat} (hk:1000000<k) {d:Disk} (hd:DB d) {a u:Nat} (ha:a≤1) {l:List Hf} (hul:u+l.length≤602):
  Zag k ⟨d⟩ (a:Int) (u:Int) l=some ⟨⟨d.Pages,d.Wait++wsR (mend d.Pages d.Wait) a u l l.length 0⟩⟩:=by
 obtain⟨h1,h2,h3⟩:=Zep.1 hd.ok
 unfold Zag
 simp only
 rw[Zdv hd.ok]
 simp only[Option.bind_some]
 rw[Zgf hk hd.ok]
 simp only[Option.bind_some]
 have:=Zom hk hd.len ha hul l.length 0 k d.Wait (by omega) (by omega) (by omega) (by omega)
 rw[Int.natCast_zero]at this
 rw[this]
 rfl
theorem Zor {k:Nat} (hk:1000000<k) {d:Disk} (hd:DB d) {l:Ledger}{q:Nat×Ar} (hL:LedOK d l q) {r:Record} (hr:Zf8 r=true) (hs:Srt Zax l.Book.Records) (hh:∀ x∈l.Book.Records,ZcA x) {b':List Record} (ha:ZjT l.Book.Records r=(b',0)) (hne:b'.length≠l.Book.Records.length)
  (hsp:q.2.used+(Za7 r (l.Book.Records.length:Int) l.Epoch).length≤602) (hwt:d.Wait.length+(Za7 r (l.Book.Records.length:Int) l.Epoch).length≤1200):
  Zbs k d l r=some (⟨d.Pages,d.Wait++wsR (mend d.Pages d.Wait) q.1 q.2.used (Za7 r (l.Book.Records.length:Int) l.Epoch) (Za7 r (l.Book.Records.length:Int) l.Epoch).length 0⟩,⟨⟨b'⟩,l.Area,l.Epoch,((q.2.used+(Za7 r (l.Book.Records.length:Int) l.Epoch).length:Nat):Int)⟩,0):=by
 have hbl:l.Book.Records.length≤60:=by rw[hL.book];exact hL.short
 have hws:=Zk4 (mend d.Pages d.Wait) q.1 q.2.used (Za7 r (l.Book.Records.length:Int) l.Epoch) (Za7 r (l.Book.Records.length:Int) l.Epoch).length 0
 have ht:=Zhp hr
 unfold Zbs
 rw[Zen hk hd hL]
 simp only[Option.bind_some,decide_true,Bool.not_true,cond_false]
 rw[ZeB hk (b:=l.Book) hs (show l.Book.Records.length≤900 by omega) hh,hr,ha]
 simp only[cond_true,Option.bind_some,decide_true,Bool.not_true,cond_false]
 rw[Zdv hd.ok]
 simp only[Option.bind_some]
 unfold Zbh
 rw[Zec (show l.Book.Records.length≤1000 by omega)]
 simp only[Option.bind_some,decide_eq_false (show ¬ ((b'.length:Nat):Int)=(l.Book.Records.length:Int) by omega),cond_false]
 rw[ZiL (show 100000<k by omega) ht]
 have hH:(List.range (ZbI (enc r).length)).map (Zdw l.Epoch (l.Book.Records.length:Int) (ZbI (enc r).length) (enc r))=Za7 r (l.Book.Records.length:Int) l.Epoch:=rfl
 rw[hH]
 have hu:w64 (l.Used+((Za7 r (l.Book.Records.length:Int) l.Epoch).length:Int))=((q.2.used+(Za7 r (l.Book.Records.length:Int) l.Epoch).length:Nat):Int):=by
  rw[hL.used,ZaD (by omega) (by omega)];omega
 have hw:=ZrO hk hd hL.le hsp
 rw[←hL.area,←hL.used]at hw
 simp only[Option.bind_some,hu,decide_eq_false (show ¬ (602:Int)<((q.2.used+(Za7 r (l.Book.Records.length:Int) l.Epoch).length:Nat):Int) by omega),cond_false,hw]
 rw[decide_eq_false (show ¬ (1200:Int)<(((d.Wait++wsR (mend d.Pages d.Wait) q.1 q.2.used (Za7 r (l.Book.Records.length:Int) l.Epoch) (Za7 r (l.Book.Records.length:Int) l.Epoch).length 0).length:Nat):Int) by rw[List.length_append];omega)]
 rfl
theorem ZlS {k:Nat} (hk:1000000<k) {d:Disk} (hd:DB d) {l:Ledger}{q:Nat×Ar} (hL:LedOK d l q) {r:Record} (hr:Zf8 r=true) (hs:Srt Zax l.Book.Records) (hh:∀ x∈l.Book.Records,ZcA x) (ha:ZjT l.Book.Records r=(l.Book.Records,0)):
  Zbs k d l r=some (d,l,0):=by
 have hbl:l.Book.Records.length≤60:=by rw[hL.book];exact hL.short
 unfold Zbs
 rw[Zen hk hd hL]
 simp only[Option.bind_some,decide_true,Bool.not_true,cond_false]
 rw[ZeB hk (b:=l.Book) hs (show l.Book.Records.length≤900 by omega) hh,hr,ha]
 simp only[cond_true,Option.bind_some,decide_true,Bool.not_true,cond_false]
 rw[Zdv hd.ok]
 simp only[Option.bind_some]
 unfold Zbh
 rw[Zec (show l.Book.Records.length≤1000 by omega)]
 simp only[Option.bind_some,decide_true,cond_true]
def Zmj:List Pg:=(List.replicate 602 pz).set 0 (pz.set 0 (Zdb 1 0))
theorem ZoP (k:Nat):ZfX k=some (⟨Zmj,[]⟩,⟨⟨[]⟩,0,1,1⟩):=by
 have hm:Zqa 602 64 ((Vec.rep 2 ((Vec.rep 32 (0:Int)):(Vec 32 Int))):(Vec 2 (Vec 32 Int)))=some (List.replicate 602 pz):=by
  unfold Zqa mk?
  rw[if_pos (by decide)]
  rfl
 have hl:(List.replicate 602 pz).length=602:=List.length_replicate
 have h0:(List.replicate 602 pz)[0]?=some pz:=by rw[List.getElem?_replicate];rfl
 have ha:at? (List.replicate 602 pz) 0=some pz:=Zc6 h0
 have hp0:pz.at? 0=some hz:=rfl
 unfold ZfX
 rw[hm]
 simp only[Option.bind_some,ZjB,ha,hp0]
 unfold Zml
 rw[if_pos (by rw[hl];decide)]
 rfl
end Go.Abs
namespace Go.Abs
open Go Go.Proofs
set_option maxRecDepth 20000
set_option linter.unusedVariables false
set_option linter.unusedSimpArgs false
def ZgG (p q:List Pg) (a:Nat):Prop:=∀ i,i<602→hf p a i=hf q a i
theorem HasRec.congr {p q:List Pg}{a f n:Nat}{r:Record}{e:Int} (h:HasRec p a f n r e) (hs:∀ i,f≤i→i<f+(Za7 r n e).length→hf p a i=hf q a i):HasRec q a f n r e:=
 ⟨h.ok,h.ep,h.run.1,fun i x hx=>by
  have:=(gS.1 hx).1
  rw[←hs (f+i) (by omega) (by omega)];exact h.run.2 i x hx⟩
theorem Zmx {p q:List Pg} (hp:PgB p) (hq:PgB q) {a:Nat} (hs:ZgG p q a) (f n:Nat):ZhB p a f n=ZhB q a f n:=by
 apply Option.ext
 intro x
 rw[Zdy hp,Zdy hq]
 constructor
 ·rintro⟨h,e⟩
  have:=h.run.1
  exact⟨h.congr (fun i _ hi=>hs i (by omega)),e⟩
 ·rintro⟨h,e⟩
  have:=h.run.1
  exact⟨h.congr (fun i _ hi=>(hs i (by omega)).symm),e⟩
theorem Zng {p q:List Pg} (hp:PgB p) (hq:PgB q) {a:Nat} (hs:ZgG p q a):∀ (m:Nat) (b:List Record) (e:Int) (u n:Nat),rd p a m b e u n=rd q a m b e u n
 |0,_,_,_,_=>rfl
 |m+1,b,e,u,n=>by
  rw[rd,rd,Zmx hp hq hs]
  cases ZhB q a u n with
  |none=>rfl
  |some x=>
   simp only
   split
   ·rfl
   ·cases ZeI b x.1 with
    |none=>rfl
    |some b'=>simp only;rw[Zng hp hq hs m]
theorem Ziy {p q:List Pg} (hp:PgB p) (hq:PgB q) {a:Nat} (hs:ZgG p q a):Zel p a=Zel q a:=by
 unfold Zel ZtJ
 rw[hs 0 (by decide),Zng hp hq hs]
theorem Zo6 (e n:Int):bt (Zdb e n) 0=104∧bt (Zdb e n) 1=IntKind.u8.wrap (Int.fdiv e (2 ^ 16))∧bt (Zdb e n) 2=IntKind.u8.wrap (Int.fdiv e (2 ^ 8))∧bt (Zdb e n) 3=IntKind.u8.wrap e∧bt (Zdb e n) 4=IntKind.u8.wrap (Int.fdiv n (2 ^ 8))∧bt (Zdb e n) 5=IntKind.u8.wrap n∧bt (Zdb e n) 31=165:=
 ⟨rfl,rfl,rfl,rfl,rfl,rfl,rfl⟩
theorem Zkj {e:Int} (he:1≤e∧e≤1000000) (n:Int):epH (Zdb e n)=e:=by
 obtain⟨h0,h1,h2,h3,_,_,h31⟩:=Zo6 e n
 have hr:rdV [bt (Zdb e n) 1,bt (Zdb e n) 2,bt (Zdb e n) 3]=e:=by
  rw[h1,h2,h3,←ZdA,rd3 (by omega) (by omega)]
 unfold epH
 rw[hr,if_pos ⟨.inl h0,h31,he.2⟩]
theorem Zqz (e:Int) {n:Int} (hn:0≤n∧n<65536):rdV [bt (Zdb e n) 4,bt (Zdb e n) 5]=n:=by
 obtain⟨_,_,_,_,h4,h5,_⟩:=Zo6 e n
 rw[h4,h5,←ZkC,rd2 hn.1 hn.2]
theorem ZmT:epH hz=0:=by decide +kernel
def Zb2 (log:List Record):Nat:=1+(log.map fun r=>ZbI (enc r).length).sum
theorem Zl3 (log:List Record) (r:Record):Zb2 (log++[r])=Zb2 log+ZbI (enc r).length:=by
 unfold Zb2;simp;omega
theorem ZtS:∀ {log:List Record},(∀ r∈log,Zf8 r=true)→Zb2 log≤1+10*log.length:=by
 intro log
 induction log with
 |nil=>intro _;simp[Zb2]
 |cons r log ih=>
  intro h
  have h1:=ih (fun x hx=>h x (by simp[hx]))
  have h2:=Zs6 (h r (by simp))
  unfold Zb2 at *
  simp only[List.map_cons,List.sum_cons,List.length_cons]
  omega
theorem Zet {log:List Record}{j:Nat}{r:Record} (h:log[j]?=some r):Zb2 (log.take (j+1))=Zb2 (log.take j)+ZbI (enc r).length:=by
 rw[ZhJ h,Zl3]
theorem ZfA {log:List Record}{i j:Nat} (h:i≤j):Zb2 (log.take i)≤Zb2 (log.take j):=by
 induction j with
 |zero=>rw[show i=0 by omega];exact Nat.le_refl _
 |succ j ih=>
  by_cases e:i=j+1
  ·rw[e];exact Nat.le_refl _
  ·refine Nat.le_trans (ih (by omega)) ?_
   cases hx:log[j]? with
   |some r=>rw[Zet hx];omega
   |none=>
    have:=List.getElem?_eq_none_iff.1 hx
    rw[List.take_of_length_le (show log.length≤j+1 by omega),List.take_of_length_le this]
    exact Nat.le_refl _
def ZeH (e0:Int) (ep:Nat→Int):Nat→Int
 |0=>e0
 |j+1=>ep j
structure LogOK (log:List Record):Prop where
 ok:∀ r∈log,Zf8 r=true
 vl:VL Zax (fun _=>0) log
 len:log.length≤50
theorem LogOK.take {log:List Record} (h:LogOK log) (n:Nat):LogOK (log.take n):=⟨fun r hr=>h.ok r (List.mem_of_mem_take hr),Zfk Zax h.vl n,by
 have:=h.len
 rw[List.length_take];omega⟩
theorem LogOK.bi {log:List Record} (h:LogOK log):BI Zax log (bk Zax [] log):=BI.of Zax h.vl
theorem LogOK.no {log:List Record} (h:LogOK log) {j:Nat}{r:Record} (hx:log[j]?=some r):(Zax r).2=cnt Zax (log.take j) (Zax r).1:=by
 rw[(Zqf Zax).1 h.vl j r hx];exact Int.zero_add _
theorem ZjX (l:List Record) (r:Record):bk Zax [] (l++[r])=Zjy Zax (bk Zax [] l) r:=by
 unfold bk;rw[List.foldl_append];rfl
theorem LogOK.more {log:List Record} (h:LogOK log) {j:Nat}{r:Record} (hx:log[j]?=some r):ZeI (bk Zax [] (log.take j)) r=some (bk Zax [] (log.take (j+1))):=by
 have hb:=(h.take j).bi
 have hno:=h.no hx
 have hl:=hb.len
 have h50:=(h.take j).len
 rw[ZhJ hx,ZjX]
 refine Zrk (Zkk Zax (hb.no Zax hno)) ?_ (by omega)
 rw[hb.num]
 have:r.At.No=((cnt Zax (log.take j) r.At.House:Nat):Int):=hno
 omega
def Zg1 (log:List Record) (j n:Nat):List (Record×Nat):=(List.range' j n).map fun i=>((log[i]?).getD ZvK,Zb2 (log.take (i+1)))
theorem ZkW (log:List Record):∀ (n j:Nat),j+n≤log.length→fin (bk Zax [] (log.take j),Zb2 (log.take j)) (Zg1 log j n)=(bk Zax [] (log.take (j+n)),Zb2 (log.take (j+n)))
 |0,j,_=>rfl
 |n+1,j,h=>by
  obtain⟨r,hr⟩:∃ r,log[j]?=some r:=⟨_,gG (by omega)⟩
  unfold Zg1 fin
  rw[List.range'_succ,List.map_cons,List.foldl_cons,hr]
  simp only[Option.getD_some]
  have:=ZkW log n (j+1) (by omega)
  unfold Zg1 fin at this
  rw[ZhJ hr,ZjX,←ZhJ hr]at this
  rw[this,show j+1+n=j+(n+1) by omega]
theorem Zse {p:List Pg} (hb:PgB p) {a:Nat}{log:List Record} (hl:LogOK log) {e0:Int}{ep:Nat→Int}{m:Nat} (hm:m≤log.length)
  (hr:∀ j r,j<m→log[j]?=some r→HasRec p a (Zb2 (log.take j)) j r (ep j)) (hmono:∀ j,j<m→ZeH e0 ep j≤ep j)
  (hstop:∀ r e,HasRec p a (Zb2 (log.take m)) m r e→ZeH e0 ep m≤e→ZeI (bk Zax [] (log.take m)) r=none):∀ (F j n:Nat),j+n=m→n<F→rd p a F (bk Zax [] (log.take j)) (ZeH e0 ep j) (Zb2 (log.take j)) j=Zg1 log j n
 |0,j,n,h1,h2=>by omega
 |F+1,j,0,h1,h2=>by
  have:j=m:=by omega
  subst this
  rw[rd]
  cases hq:ZhB p a (Zb2 (log.take j)) j with
  |none=>rfl
  |some q=>
   have hh:=((Zdy hb).1 hq).1
   simp only
   by_cases he:q.2.1<ZeH e0 ep j
   ·rw[if_pos he];rfl
   ·rw[if_neg he,hstop q.1 q.2.1 hh (by omega)];rfl
 |F+1,j,n+1,h1,h2=>by
  obtain⟨r,hx⟩:∃ r,log[j]?=some r:=⟨_,gG (by omega)⟩
  have hh:=hr j r (by omega) hx
  have hq:=(Zdy hb (q:=(r,ep j,(Za7 r j (ep j)).length))).2 ⟨hh,rfl⟩
  have hmo:=hmono j (by omega)
  have Zca:Zb2 (log.take j)+(Za7 r (j:Int) (ep j)).length=Zb2 (log.take (j+1)):=by rw[Zet hx,Zbm]
  rw[rd,hq]
  simp only
  rw[if_neg (by omega),hl.more hx]
  simp only
  rw[Zca]
  have:=Zse hb hl hm hr hmono hstop F (j+1) n (by omega) (by omega)
  have e:ZeH e0 ep (j+1)=ep j:=rfl
  rw[e]at this
  rw[this]
  unfold Zg1
  rw[List.range'_succ,List.map_cons,hx]
  rfl
theorem Zh7 (log:List Record) {m:Nat} (hm:m≤log.length) (e:Int):(Ar.mk e (Zg1 log 0 m)).book=bk Zax [] (log.take m)∧(Ar.mk e (Zg1 log 0 m)).used=Zb2 (log.take m):=by
 have:=ZkW log m 0 (by omega)
 rw[Nat.zero_add]at this
 unfold Ar.book Ar.used
 simp only
 have e1:(bk Zax [] (log.take 0),Zb2 (log.take 0))=(([]:List Record),1):=rfl
 rw[e1]at this
 rw[this]
 exact⟨rfl,rfl⟩
theorem ZmJ {p:List Pg} (hb:PgB p) {a:Nat}{log:List Record} (hl:LogOK log) {e0 c:Int}{ep:Nat→Int}{m:Nat} (hm:m≤log.length) (he:1≤e0∧e0≤1000000) (hc:0≤c∧c≤m) (hh:hf p a 0=Zdb e0 c)
  (hr:∀ j r,j<m→log[j]?=some r→HasRec p a (Zb2 (log.take j)) j r (ep j)) (hmono:∀ j,j<m→ZeH e0 ep j≤ep j)
  (hstop:∀ r e,HasRec p a (Zb2 (log.take m)) m r e→ZeH e0 ep m≤e→ZeI (bk Zax [] (log.take m)) r=none):Zel p a=some ⟨e0,Zg1 log 0 m⟩:=by
 have h50:=hl.len
 have hE:epH (hf p a 0)=e0:=by rw[hh];exact Zkj he c
 have hC:rdV [bt (hf p a 0) 4,bt (hf p a 0) 5]=c:=by rw[hh];exact Zqz e0 (by omega)
 have hrd:ZtJ p a=Zg1 log 0 m:=by
  unfold ZtJ
  rw[hE]
  exact Zse hb hl hm hr hmono hstop 100 0 m (by omega) (by omega)
 unfold Zel
 rw[hE,hC,hrd,if_pos ⟨by omega,hh,by simp[Zg1];omega⟩]
theorem Zln {p:List Pg}{a:Nat} (ha:a≤1) {x:Ar} (h:Zel p a=some x) (hp:∀ y,Zel p (1 - a)=some y→if a=0 then y.epoch≤x.epoch else y.epoch<x.epoch):ZiJ p=some (a,x):=by
 unfold ZiJ
 rcases Nat.le_one_iff_eq_zero_or_eq_one.1 ha with rfl|rfl
 ·rw[h]
  cases hy:Zel p 1 with
  |none=>rfl
  |some y=>
   have h1:y.epoch≤x.epoch:=by simpa using hp y hy
   simp only
   rw[if_neg (by omega)]
 ·rw[h]
  cases hy:Zel p 0 with
  |none=>rfl
  |some y=>
   have h1:y.epoch<x.epoch:=by simpa using hp y hy
   simp only
   rw[if_pos h1]
end Go.Abs
namespace Go.Abs
open Go Go.Proofs
set_option maxRecDepth 20000
set_option linter.unusedVariables false
set_option linter.unusedSimpArgs false
structure Jr (d:Disk) (l:Ledger) (log:List Record) (firm:Nat) (a:Nat) (e0 c:Int) (ep:Nat→Int):Prop where
 db:DB d
 a1:a≤1
 good:LogOK log
 firmle:firm≤log.length
 area:l.Area=(a:Int)
 book:l.Book=⟨bk Zax [] log⟩
 used:l.Used=(Zb2 log:Int)
 epo:1≤l.Epoch∧l.Epoch≤1000000
 he0:1≤e0∧e0≤1000000
 hc:0≤c∧c≤firm
 headN:hf (mend d.Pages d.Wait) a 0=Zdb e0 c
 headO:hf d.Pages a 0=Zdb e0 c
 recs:∀ j r,log[j]?=some r→HasRec (mend d.Pages d.Wait) a (Zb2 (log.take j)) j r (ep j)
 mono:∀ j,j<log.length→ZeH e0 ep j≤ep j
 late:∀ j,firm≤j→j<log.length→ep j=l.Epoch
 bound:∀ b i,b≤1→i<602→epH (hf (mend d.Pages d.Wait) b i)≤l.Epoch∧epH (hf d.Pages b i)≤l.Epoch
 free:∀ i,Zb2 log≤i→i<602→epH (hf (mend d.Pages d.Wait) a i)<l.Epoch∧hf d.Pages a i=hf (mend d.Pages d.Wait) a i
 firmq:∀ i,i<Zb2 (log.take firm)→hf d.Pages a i=hf (mend d.Pages d.Wait) a i
 soft:∀ i,Zb2 (log.take firm)≤i→i<Zb2 log→epH (hf (mend d.Pages d.Wait) a i)=l.Epoch∧epH (hf d.Pages a i)<l.Epoch
 other:ZgG d.Pages (mend d.Pages d.Wait) (1 - a)
 pick:∀ y,Zel (mend d.Pages d.Wait) (1 - a)=some y→if a=0 then y.epoch≤e0 else y.epoch<e0
 stop:∀ r e,HasRec d.Pages a (Zb2 (log.take firm)) firm r e→ZeH e0 ep firm≤e→ZeI (bk Zax [] (log.take firm)) r=none
 waits:∀ w∈d.Wait,∀ s,sd w.Page s=ph d.Pages w.At.toNat s∨sd w.Page s=ph (mend d.Pages d.Wait) w.At.toNat s
 wlen:d.Wait.length≤10*log.length
section
variable {d:Disk}{l:Ledger}{log:List Record}{firm a:Nat}{e0 c:Int}{ep:Nat→Int}
theorem Jr.u602 (h:Jr d l log firm a e0 c ep):Zb2 log≤501:=by
 have h1:=ZtS h.good.ok
 have h2:=h.good.len
 omega
theorem HasRec.ep0 {p:List Pg}{a f n:Nat}{r:Record}{e:Int} (h:HasRec p a f n r e) {i:Nat} (hi:i<(Za7 r n e).length):epH (hf p a (f+i))=e:=by
 obtain⟨x,hx⟩:∃ x,(Za7 r n e)[i]?=some x:=⟨_,gG hi⟩
 rw[h.run.2 i x hx,ZrV hx]
 exact ZmS h.ep _ _ _ _
theorem HasRec.at0 {p:List Pg}{a f n:Nat}{r:Record}{e:Int} (h:HasRec p a f n r e):epH (hf p a f)=e:=by
 have:=h.ep0 (i:=0) (by rw[Zbm];exact Zf1 r)
 simpa using this
theorem Jr.lastE_le (h:Jr d l log firm a e0 c ep):∀ j,j≤log.length→ZeH e0 ep j≤l.Epoch:=by
 intro j hj
 cases j with
 |zero=>
  have:=(h.bound a 0 h.a1 (by decide)).1
  rw[h.headN,Zkj h.he0]at this
  exact this
 |succ j=>
  obtain⟨r,hr⟩:∃ r,log[j]?=some r:=⟨_,gG (by omega)⟩
  have hrec:=h.recs j r hr
  have h1:=hrec.run.1
  have h2:0<(Za7 r (j:Int) (ep j)).length:=by rw[Zbm];exact Zf1 r
  have:=(h.bound a (Zb2 (log.take j)) h.a1 (by omega)).1
  rw[hrec.at0]at this
  exact this
theorem Jr.stopN (h:Jr d l log firm a e0 c ep):∀ r e,HasRec (mend d.Pages d.Wait) a (Zb2 (log.take log.length)) log.length r e→ZeH e0 ep log.length≤e→ZeI (bk Zax [] (log.take log.length)) r=none:=by
 intro r e hr he
 rw[List.take_length]at hr ⊢
 have h1:=hr.run.1
 have h2:0<(Za7 r (log.length:Int) e).length:=by rw[Zbm];exact Zf1 r
 have hf0:=(h.free (Zb2 log) (Nat.le_refl _) (by omega)).1
 rw[hr.at0]at hf0
 by_cases hfi:firm=log.length
 ·have:=h.stop r e (by
   rw[hfi,List.take_length]
   exact hr.congr (fun i hi1 hi2=>((h.free i hi1 (by omega)).2).symm)) (by rw[hfi];exact he)
  rw[hfi,List.take_length]at this
  exact this
 ·have hlt:firm<log.length:=by have:=h.firmle;omega
  obtain⟨j,hj⟩:∃ j,log.length=j+1:=⟨log.length - 1,by omega⟩
  rw[hj]at he
  have e1:ZeH e0 ep (j+1)=ep j:=rfl
  rw[e1,h.late j (by omega) (by omega)]at he
  omega
theorem Jr.areaN (h:Jr d l log firm a e0 c ep):Zel (mend d.Pages d.Wait) a=some ⟨e0,Zg1 log 0 log.length⟩:=
 ZmJ h.db.new h.good (Nat.le_refl _) h.he0 ⟨h.hc.1,by have:=h.hc.2;have:=h.firmle;omega⟩ h.headN (fun j r hj hr=>h.recs j r hr) (fun j hj=>h.mono j hj) h.stopN
theorem Jr.led (h:Jr d l log firm a e0 c ep):LedOK d l (a,⟨e0,Zg1 log 0 log.length⟩):=by
 obtain⟨b1,b2⟩:=Zh7 log (Nat.le_refl log.length) e0
 rw[List.take_length]at b1 b2
 have hbl:=h.good.bi.len
 have h50:=h.good.len
 have hu:=h.u602
 refine⟨Zln h.a1 h.areaN h.pick,h.a1,h.area,?_,?_,?_,h.epo,?_,?_,?_⟩
 ·rw[h.used];simp only[b2]
 ·rw[h.book];simp only[b1]
 ·simp only[b1];omega
 ·exact Zlr.2 ⟨by have:=h.epo;omega,fun i _ hi=>(h.bound 0 i (by decide) hi).1⟩
 ·exact Zlr.2 ⟨by have:=h.epo;omega,fun i _ hi=>(h.bound 1 i (by decide) hi).1⟩
 ·simp only[b2]
  have:mx (mend d.Pages d.Wait) a (Zb2 log)≤l.Epoch - 1:=Zlr.2 ⟨by have:=h.epo;omega,fun i h1 h2=>by
   have:=(h.free i h1 h2).1;omega⟩
  omega
theorem Zmc (p:List Pg) (w v:List Write):mend p (w++v)=mend (mend p w) v:=by
 unfold mend;rw[List.foldl_append]
theorem Jr.recsLen (h:Jr d l log firm a e0 c ep) {j:Nat}{r:Record} (hr:log[j]?=some r):Zb2 (log.take j)+(Za7 r (j:Int) (ep j)).length=Zb2 (log.take (j+1)):=by
 rw[Zet hr,Zbm]
theorem Zmb {e0:Int}{ep ep':Nat→Int}{n:Nat} (h:∀ j,j<n→ep j=ep' j):∀ j,j≤n→ZeH e0 ep j=ZeH e0 ep' j
 |0,_=>rfl
 |j+1,hj=>h j (by omega)
theorem Jr.append (h:Jr d l log firm a e0 c ep) {r:Record} (hr:Zf8 r=true) (hno:(Zax r).2=cnt Zax log (Zax r).1) (Zca:log.length+1≤50) {k:Nat} (hk:1000000<k):
  ∃ d' l',Zbs k d l r=some (d',l',0)∧l'.Epoch=l.Epoch∧Jr d' l' (log++[r]) firm a e0 c (fun j=>if j=log.length then l.Epoch else ep j):=by
 have hbi:=h.good.bi
 have hbl:=hbi.len
 have hu:=h.u602
 have hH:(Za7 r (l.Book.Records.length:Int) l.Epoch).length=ZbI (enc r).length:=Zbm _ _ _
 have hc10:=Zs6 hr
 have hcp:=Zf1 r
 have hwl:=h.wlen
 have hfl:=h.firmle
 have hbr:l.Book.Records=bk Zax [] log:=by rw[h.book]
 have hadd:ZjT l.Book.Records r=(bk Zax [] (log++[r]),0):=by
  rw[hbr]
  unfold ZjT
  rw[Zkk Zax (hbi.no Zax hno),ZjX]
  simp only
  have e:r.At.No=((cnt Zax (bk Zax [] log) r.At.House:Nat):Int):=by
   rw[hbi.num];exact hno
  rw[if_neg (by omega),if_neg (by omega)]
 have husd:=h.led
 have hq2:(Ar.mk e0 (Zg1 log 0 log.length)).used=Zb2 log:=by
  have:=(Zh7 log (Nat.le_refl log.length) e0).2
  rw[List.take_length]at this
  exact this
 have happ:=Zor hk h.db h.led hr (by rw[hbr];exact hbi.val.1) (by rw[hbr];exact fun x hx=>Zby (h.good.ok x ((hbi.mem x).1 hx))) hadd (by rw[hbr,ZjX,ZfS];omega) (by simp only[hq2];rw[hH];omega) (by rw[hH];omega)
 simp only[hq2]at happ
 have hLen:l.Book.Records.length=log.length:=by rw[hbr,hbl]
 rw[hLen]at happ hH
 have hHl:=hH
 generalize hHdef:Za7 r (log.length:Int) l.Epoch=H at happ hH
 have hul:Zb2 log+H.length≤602:=by omega
 have hwok:=ZpZ h.db.len h.a1 hul H.length 0 (fun _=>rfl)
 have hmend:=Zk5 h.db.len h.a1 hul H.length 0 (mend d.Pages d.Wait) (by omega) (fun _=>rfl) h.db.len (fun j _=>rfl)
 have hwslen:=Zk4 (mend d.Pages d.Wait) a (Zb2 log) H H.length 0
 generalize wsR (mend d.Pages d.Wait) a (Zb2 log) H H.length 0=ws at happ hwok hmend hwslen
 have hne:mend d.Pages (d.Wait++ws)=mend (mend d.Pages d.Wait) ws:=Zmc _ _ _
 have hhf:∀ b i,b≤1→i<602→hf (mend d.Pages (d.Wait++ws)) b i=if b=a∧Zb2 log≤i∧i<Zb2 log+H.length then (H[i - Zb2 log]?).getD hz else hf (mend d.Pages d.Wait) b i:=by
  intro b i hb hi
  have ha1:=h.a1
  rw[ZoL,hne,hmend _ _ (Nat.mod_lt _ (by decide)),ZoL]
  unfold tg
  by_cases hcnd:b=a∧Zb2 log≤i∧i<Zb2 log+H.length
  ·obtain⟨rfl,h1,h2⟩:=hcnd
   rw[if_pos (by unfold Zha;omega),if_pos ⟨rfl,h1,h2⟩,show 2*(301*b+i / 2 - 301*b)+i % 2 - Zb2 log=i - Zb2 log by omega]
  ·rw[if_neg (by unfold Zha;omega),if_neg hcnd]
 have hlow:∀ i,i<Zb2 log→hf (mend d.Pages (d.Wait++ws)) a i=hf (mend d.Pages d.Wait) a i:=fun i hi=>by
  rw[hhf a i h.a1 (by omega),if_neg (by omega)]
 have hhigh:∀ i,Zb2 log+H.length≤i→i<602→hf (mend d.Pages (d.Wait++ws)) a i=hf (mend d.Pages d.Wait) a i:=fun i hi h2=>by
  rw[hhf a i h.a1 h2,if_neg (by omega)]
 have hmid:∀ i,i<H.length→hf (mend d.Pages (d.Wait++ws)) a (Zb2 log+i)=(H[i]?).getD hz:=fun i hi=>by
  rw[hhf a _ h.a1 (by omega),if_pos (by omega),Nat.add_sub_cancel_left]
 have hoth:∀ i,i<602→hf (mend d.Pages (d.Wait++ws)) (1 - a) i=hf (mend d.Pages d.Wait) (1 - a) i:=fun i hi=>by
  have ha1:=h.a1
  rw[hhf (1 - a) i (by omega) hi,if_neg (by omega)]
 have hrun:HasRec (mend d.Pages (d.Wait++ws)) a (Zb2 log) log.length r l.Epoch:=⟨hr,h.epo,by rw[hHdef];exact hul,fun i x hx=>by
  rw[hHdef]at hx
  rw[hmid i (gS.1 hx).1,hx];rfl⟩
 have hHep:∀ i,i<H.length→epH ((H[i]?).getD hz)=l.Epoch:=fun i hi=>by
  have:=hrun.ep0 (i:=i) (by rw[hHdef];exact hi)
  rw[hmid i hi]at this
  exact this
 have hHb:∀ i,i<H.length→Byt ((H[i]?).getD hz).l:=fun i hi=>by
  obtain⟨x,hx⟩:∃ x,H[i]?=some x:=⟨_,gG hi⟩
  rw[hx]
  simp only[Option.getD_some]
  rw[←hHdef]at hx
  rw[ZrV hx]
  intro y hy
  simp only[Zdw,ZgN,List.mem_append,List.mem_cons,List.not_mem_nil,or_false,List.mem_replicate]at hy
  rcases hy with (((((hy|hy)|hy)|hy)|hy)|hy)
  ·omega
  ·exact ZdH _ _ y hy
  ·exact ZdH _ _ y hy
  ·rcases hy with hy|hy<;>rw[hy,ZmD]<;>omega
  ·rcases hy with hy|hy
   ·exact Zsj r y (List.mem_of_mem_drop (List.mem_of_mem_take hy))
   ·omega
  ·omega
 have htgb:∀ j s,s<2→Byt (tg (mend d.Pages d.Wait) a (Zb2 log) H 0 j s).l:=fun j s hs=>by
  unfold tg
  split
  ·rename_i hcnd
   unfold Zha at hcnd
   exact hHb _ (by omega)
  ·by_cases hj:j<602
   ·have:=h.db.new
    obtain⟨g,hg⟩:∃ g,(mend d.Pages d.Wait)[j]?=some g:=⟨_,gG (by rw[h.db.len];exact hj)⟩
    rw[Zhj hg]
    have hgl:=g.h
    obtain⟨x,hx⟩:∃ x,g.l[s]?=some x:=⟨_,gG (by omega)⟩
    unfold sd
    rw[hx]
    exact this g (List.mem_of_getElem? hg) x (List.mem_of_getElem? hx)
   ·rw[Zti (by rw[h.db.len];omega)]
    intro y hy
    have:y=0:=by
     simp only[hz,Vec.rep,List.mem_replicate]at hy
     exact hy.2
    omega
 have hdb:DB ⟨d.Pages,d.Wait++ws⟩:=by
  obtain⟨k1,k2,k3⟩:=Zep.1 h.db.ok
  refine⟨Zep.2 ⟨k1,by simp only[List.length_append];omega,fun w hw=>?_⟩,h.db.pb,fun w hw x hx=>?_⟩
  ·rcases List.mem_append.1 hw with g|g
   ·exact k3 w g
   ·exact(hwok w g).1
  ·rcases List.mem_append.1 hw with g|g
   ·exact h.db.wb w g x hx
   ·obtain⟨s,hs⟩:=List.mem_iff_getElem?.1 hx
    have hs2:s<2:=by
     have:=(gS.1 hs).1
     have:=w.Page.h
     omega
    have e:sd w.Page s=x:=by unfold sd;rw[hs];rfl
    rw[←e,(hwok w g).2 s hs2]
    exact htgb _ _ hs2
 have htk:∀ j,j≤log.length→(log++[r]).take j=log.take j:=fun j hj=>List.take_append_of_le_length hj
 have hup:Zb2 (log++[r])=Zb2 log+H.length:=by rw[Zl3,hH]
 have hle2:∀ j,j≤log.length→ZeH e0 (fun j=>if j=log.length then l.Epoch else ep j) j=ZeH e0 ep j:=Zmb (fun j hj=>if_neg (by omega))
 refine⟨_,_,happ,rfl,hdb,h.a1,⟨fun x hx=>?_,?_,?_⟩,by simp;omega,h.area,rfl,?_,h.epo,h.he0,h.hc,?_,h.headO,fun j x hx=>?_,fun j hj=>?_,fun j h1 h2=>?_,fun b i hb hi=>?_,fun i h1 h2=>?_,fun i hi=>?_,fun i h1 h2=>?_,fun i hi=>?_,fun y hy=>?_,?_,fun w hw s=>?_,?_⟩
 ·rcases List.mem_append.1 hx with g|g
  ·exact h.good.ok x g
  ·rw[List.mem_singleton.1 g];exact hr
 ·rw[Zeu]
  exact⟨h.good.vl,by show (Zax r).2=0+_;omega,trivial⟩
 ·simp;omega
 ·simp only[hup]
 ·show hf (mend d.Pages (d.Wait++ws)) a 0=_
  have hup0:0<Zb2 log:=by unfold Zb2;omega
  rw[hlow 0 hup0]
  exact h.headN
 ·show HasRec (mend d.Pages (d.Wait++ws)) a _ j x _
  by_cases hj:j<log.length
  ·rw[List.getElem?_append_left hj]at hx
   rw[htk j (by omega),if_neg (by omega)]
   refine(h.recs j x hx).congr (fun i h1 h2=>?_)
   have:=h.recsLen hx
   have h3:Zb2 (log.take (j+1))≤Zb2 (log.take log.length):=ZfA (by omega)
   rw[List.take_length]at h3
   exact(hlow i (by omega)).symm
  ·have hj2:j=log.length:=by
    have:=(gS.1 hx).1
    simp at this
    omega
   subst hj2
   rw[List.getElem?_append_right (Nat.le_refl _),Nat.sub_self]at hx
   obtain rfl:=oi hx
   rw[htk _ (Nat.le_refl _),List.take_length,if_pos rfl]
   exact hrun
 ·rw[List.length_append]at hj
  simp only[List.length_cons,List.length_nil]at hj
  rw[hle2 j (by omega)]
  by_cases hj2:j=log.length
  ·subst hj2
   rw[if_pos rfl]
   exact h.lastE_le _ (Nat.le_refl _)
  ·rw[if_neg hj2]
   exact h.mono j (by omega)
 ·rw[List.length_append]at h2
  simp only[List.length_cons,List.length_nil]at h2
  by_cases hj2:j=log.length
  ·rw[if_pos hj2]
  ·rw[if_neg hj2];exact h.late j h1 (by omega)
 ·refine⟨?_,(h.bound b i hb hi).2⟩
  show epH (hf (mend d.Pages (d.Wait++ws)) b i)≤l.Epoch
  rw[hhf b i hb hi]
  split
  ·rename_i hcnd
   rw[hHep _ (by omega)]
   exact Int.le_refl _
  ·exact(h.bound b i hb hi).1
 ·rw[hup]at h1
  show epH (hf (mend d.Pages (d.Wait++ws)) a i)<l.Epoch∧hf d.Pages a i=hf (mend d.Pages (d.Wait++ws)) a i
  rw[hhigh i h1 h2]
  exact h.free i (by omega) h2
 ·rw[htk firm h.firmle]at hi
  show hf d.Pages a i=hf (mend d.Pages (d.Wait++ws)) a i
  have h3:Zb2 (log.take firm)≤Zb2 (log.take log.length):=ZfA h.firmle
  rw[List.take_length]at h3
  rw[hlow i (by omega)]
  exact h.firmq i hi
 ·rw[htk firm h.firmle]at h1
  rw[hup]at h2
  show epH (hf (mend d.Pages (d.Wait++ws)) a i)=l.Epoch∧epH (hf d.Pages a i)<l.Epoch
  by_cases hi:i<Zb2 log
  ·rw[hlow i hi];exact h.soft i h1 hi
  ·have e:i=Zb2 log+(i - Zb2 log):=by omega
   refine⟨by rw[e,hmid _ (by omega)];exact hHep _ (by omega),?_⟩
   have:=h.free i (by omega) (by omega)
   rw[this.2];exact this.1
 ·show hf d.Pages (1 - a) i=hf (mend d.Pages (d.Wait++ws)) (1 - a) i
  rw[hoth i hi];exact h.other i hi
 ·refine h.pick y ?_
  rw[←Ziy (p:=mend d.Pages (d.Wait++ws)) hdb.new h.db.new (fun i hi=>hoth i hi)]
  exact hy
 ·rw[htk firm h.firmle,hle2 firm h.firmle]
  exact h.stop
 ·show sd w.Page s=ph d.Pages w.At.toNat s∨sd w.Page s=ph (mend d.Pages (d.Wait++ws)) w.At.toNat s
  by_cases hs:s<2
  ·rw[hne,hmend _ _ hs]
   rcases List.mem_append.1 hw with g|g
   ·rcases h.waits w g s with e|e
    ·exact .inl e
    ·unfold tg
     by_cases hcnd:Zha a (Zb2 log) 0 H.length w.At.toNat s
     ·left
      unfold Zha at hcnd
      have hfr:=(h.free (2*(w.At.toNat - 301*a)+s) (by omega) (by omega)).2
      rw[ZoL,ZoL,show 301*a+(2*(w.At.toNat - 301*a)+s) / 2=w.At.toNat by omega,show (2*(w.At.toNat - 301*a)+s) % 2=s by omega]at hfr
      rw[e,hfr]
     ·rw[if_neg hcnd];exact .inr e
   ·exact .inr ((hwok w g).2 s hs)
  ·left
   rw[Zwf (by omega),ZvE (by omega)]
 ·simp only[List.length_append,List.length_cons,List.length_nil]
  omega
end
end Go.Abs
namespace Go.Abs
open Go Go.Proofs
set_option maxRecDepth 20000
set_option linter.unusedVariables false
set_option linter.unusedSimpArgs false
section
variable {d:Disk}{l:Ledger}{log:List Record}{firm a:Nat}{e0 c:Int}{ep:Nat→Int}
theorem Jr.same (h:Jr d l log firm a e0 c ep) {r:Record} (hr:r∈log) {k:Nat} (hk:1000000<k):Zbs k d l r=some (d,l,0):=by
 have hbi:=h.good.bi
 have hbr:l.Book.Records=bk Zax [] log:=by rw[h.book]
 have hrb:=h.good.ok r hr
 refine ZlS hk h.db h.led hrb (by rw[hbr];exact hbi.val.1) (by rw[hbr];exact fun x hx=>Zby (h.good.ok x ((hbi.mem x).1 hx))) ?_
 rw[hbr]
 unfold ZjT
 rw[ZmW Zax hbi.val.1 ((hbi.mem r).2 hr)]
 simp only[if_true]
theorem DB.sync {d:Disk} (h:DB d):DB ⟨mend d.Pages d.Wait,[]⟩:=by
 refine⟨Zep.2 ⟨h.len,by simp,by simp⟩,h.new,by simp⟩
theorem ZqV (p:List Pg):mend p []=p:=rfl
theorem Jr.sync (h:Jr d l log firm a e0 c ep):Jr ⟨mend d.Pages d.Wait,[]⟩ l log log.length a e0 c ep:=by
 have hu:=h.u602
 refine⟨h.db.sync,h.a1,h.good,Nat.le_refl _,h.area,h.book,h.used,h.epo,h.he0,⟨h.hc.1,by have:=h.hc.2;have:=h.firmle;omega⟩,h.headN,h.headN,h.recs,h.mono,fun j h1 h2=>by omega,fun b i hb hi=>⟨(h.bound b i hb hi).1,(h.bound b i hb hi).1⟩,
  fun i h1 h2=>⟨(h.free i h1 h2).1,rfl⟩,fun i _=>rfl,fun i h1 h2=>?_,fun i _=>rfl,h.pick,h.stopN,by simp,by simp⟩
 rw[List.take_length]at h1
 omega
theorem Btw.hf {old new p:List Pg} (h:Btw old new p) (b i:Nat):hf p b i=hf old b i∨hf p b i=hf new b i:=h _ _
theorem Btw.pb {old new p:List Pg} (h:Btw old new p) (ho:PgB old) (hn:PgB new):PgB p:=by
 have one:∀ (q:List Pg),PgB q→∀ j s,Byt (ph q j s).l:=fun q hq j s=>by
  have hzb:Byt hz.l:=by
   intro y hy
   have:y=0:=by
    simp only[hz,Vec.rep,List.mem_replicate]at hy
    exact hy.2
   omega
  unfold ph
  cases hg:q[j]? with
  |none=>exact hzb
  |some g=>
   simp only
   cases hx:g.l[s]? with
   |none=>exact hzb
   |some x=>exact hq g (List.mem_of_getElem? hg) x (List.mem_of_getElem? hx)
 intro g hg x hx
 obtain⟨j,hj⟩:=List.mem_iff_getElem?.1 hg
 obtain⟨s,hs⟩:=List.mem_iff_getElem?.1 hx
 have e:ph p j s=x:=by rw[Zhj hj];unfold sd;rw[hs];rfl
 rcases h j s with g1|g1
 ·rw[←e,g1];exact one old ho j s
 ·rw[←e,g1];exact one new hn j s
theorem Jr.cut (h:Jr d l log firm a e0 c ep) {p:List Pg} (hp:Btw d.Pages (mend d.Pages d.Wait) p):
  ∃ m,firm≤m∧m≤log.length∧(∀ j r,j<m→log[j]?=some r→HasRec p a (Zb2 (log.take j)) j r (ep j))∧
   (∀ r e,HasRec p a (Zb2 (log.take m)) m r e→ZeH e0 ep m≤e→ZeI (bk Zax [] (log.take m)) r=none):=by
 have hpb:=hp.pb h.db.pb h.db.new
 have hu:=h.u602
 have hq:∀ i,i<Zb2 (log.take firm)→hf p a i=hf (mend d.Pages d.Wait) a i:=fun i hi=>by
  rcases hp.hf a i with e|e
  ·rw[e];exact h.firmq i hi
  ·exact e
 have hfree:∀ i,Zb2 log≤i→i<602→hf p a i=hf (mend d.Pages d.Wait) a i:=fun i h1 h2=>by
  rcases hp.hf a i with e|e
  ·rw[e];exact(h.free i h1 h2).2
  ·exact e
 have hfirm:∀ j r,j<firm→log[j]?=some r→HasRec p a (Zb2 (log.take j)) j r (ep j):=fun j r hj hr=>by
  refine(h.recs j r hr).congr (fun i h1 h2=>?_)
  rw[h.recsLen hr]at h2
  have h3:Zb2 (log.take (j+1))≤Zb2 (log.take firm):=ZfA (by omega)
  exact(hq i (by omega)).symm
 have key:∀ n m:Nat,m+n=log.length→firm≤m→(∀ j r,j<m→log[j]?=some r→HasRec p a (Zb2 (log.take j)) j r (ep j))→
   ∃ m,firm≤m∧m≤log.length∧(∀ j r,j<m→log[j]?=some r→HasRec p a (Zb2 (log.take j)) j r (ep j))∧(m=log.length∨∃ r,log[m]?=some r∧¬ HasRec p a (Zb2 (log.take m)) m r (ep m)):=by
  intro n
  induction n with
  |zero=>intro m h1 h2 h3;exact⟨m,h2,by omega,h3,.inl (by omega)⟩
  |succ n ih=>
   intro m h1 h2 h3
   obtain⟨r,hr⟩:∃ r,log[m]?=some r:=⟨_,gG (by omega)⟩
   by_cases hh:HasRec p a (Zb2 (log.take m)) m r (ep m)
   ·refine ih (m+1) (by omega) (by omega) (fun j x hj hx=>?_)
    by_cases e:j=m
    ·subst e
     rw[hr]at hx
     obtain rfl:=oi hx
     exact hh
    ·exact h3 j x (by omega) hx
   ·exact⟨m,h2,by omega,h3,.inr ⟨r,hr,hh⟩⟩
 obtain⟨m,m1,m2,m3,m4⟩:=key (log.length - firm) firm (by have:=h.firmle;omega) (Nat.le_refl _) hfirm
 refine⟨m,m1,m2,m3,fun r e hr he=>?_⟩
 have hfin:=h.firmle
 have hrl:=hr.run.1
 have hpos:0<(Za7 r (m:Int) e).length:=by rw[Zbm];exact Zf1 r
 have hum:Zb2 (log.take m)≤Zb2 log:=by
  have:=ZfA (log:=log) m2
  rw[List.take_length]at this
  exact this
 have hufm:Zb2 (log.take firm)≤Zb2 (log.take m):=ZfA m1
 have hle:e≤l.Epoch:=by
  have h1:epH (hf p a (Zb2 (log.take m)))≤l.Epoch:=by
   rcases hp.hf a (Zb2 (log.take m)) with g|g
   ·rw[g];exact(h.bound a _ h.a1 (by omega)).2
   ·rw[g];exact(h.bound a _ h.a1 (by omega)).1
  rw[hr.at0]at h1
  exact h1
 by_cases hee:e=l.Epoch
 ·
  have hn:HasRec (mend d.Pages d.Wait) a (Zb2 (log.take m)) m r e:=by
   refine hr.congr (fun i h1 h2=>?_)
   have h3:=hr.ep0 (i:=i - Zb2 (log.take m)) (by omega)
   rw[show Zb2 (log.take m)+(i - Zb2 (log.take m))=i by omega]at h3
   by_cases hi:i<Zb2 log
   ·rcases hp.hf a i with g|g
    ·have:=(h.soft i (by omega) hi).2
     rw[←g,h3]at this;omega
    ·exact g
   ·exact hfree i (by omega) (by omega)
  rcases m4 with m4|⟨x,hx,hno⟩
  ·subst m4
   exact h.stopN r e hn he
  ·have:=(hn.inj h.db.new (h.recs m x hx)).1
   subst this
   exact absurd (by
    have hl:=h.late m m1 (by have:=(gS.1 hx).1;omega)
    rw[hl,←hee];exact hr) hno
 ·
  have hm:m=firm:=by
   by_cases e2:m=firm
   ·exact e2
   ·obtain⟨j,hj⟩:∃ j,m=j+1:=⟨m - 1,by omega⟩
    rw[hj]at he
    have e1:ZeH e0 ep (j+1)=ep j:=rfl
    rw[e1,h.late j (by omega) (by omega)]at he
    omega
  subst hm
  refine h.stop r e (hr.congr (fun i h1 h2=>?_)) he
  have h3:=hr.ep0 (i:=i - Zb2 (log.take m)) (by omega)
  rw[show Zb2 (log.take m)+(i - Zb2 (log.take m))=i by omega]at h3
  by_cases hi:i<Zb2 log
  ·rcases hp.hf a i with g|g
   ·exact g
   ·have:=(h.soft i (by omega) hi).1
    rw[←g,h3]at this;omega
  ·rw[hfree i (by omega) (by omega)]
   exact((h.free i (by omega) (by omega)).2).symm
theorem Jr.fail (h:Jr d l log firm a e0 c ep) (hE:l.Epoch<1000000) {p:List Pg} (hl:p.length=602) (hp:Btw d.Pages (mend d.Pages d.Wait) p) {k:Nat} (hk:1000000<k):
  ∃ m l',firm≤m∧m≤log.length∧ZcX k ⟨p,[]⟩=some (⟨p,[]⟩,l',0)∧l'.Epoch≤l.Epoch+1∧Jr ⟨p,[]⟩ l' (log.take m) m a e0 c ep:=by
 obtain⟨m,m1,m2,m3,m4⟩:=h.cut hp
 have hpb:=hp.pb h.db.pb h.db.new
 have hdb:DB ⟨p,[]⟩:=⟨Zep.2 ⟨hl,by simp,by simp⟩,hpb,by simp⟩
 have hfin:=h.firmle
 have hhead:hf p a 0=Zdb e0 c:=by
  rcases hp.hf a 0 with g|g
  ·rw[g];exact h.headO
  ·rw[g];exact h.headN
 have hmono:∀ j,j<m→ZeH e0 ep j≤ep j:=fun j hj=>h.mono j (by omega)
 have harea:=ZmJ hpb h.good m2 h.he0 ⟨h.hc.1,by have:=h.hc.2;omega⟩ hhead m3 hmono m4
 have hsame:ZgG p (mend d.Pages d.Wait) (1 - a):=fun i hi=>by
  rcases hp.hf (1 - a) i with g|g
  ·rw[g];exact h.other i hi
  ·exact g
 have hpick:∀ y,Zel p (1 - a)=some y→if a=0 then y.epoch≤e0 else y.epoch<e0:=fun y hy=>by
  rw[Ziy hpb h.db.new hsame]at hy
  exact h.pick y hy
 have hmeant:ZiJ p=some (a,⟨e0,Zg1 log 0 m⟩):=Zln h.a1 harea hpick
 have hb:∀ b i,b≤1→i<602→epH (hf p b i)≤l.Epoch:=fun b i hb hi=>by
  rcases hp.hf b i with g|g
  ·rw[g];exact(h.bound b i hb hi).2
  ·rw[g];exact(h.bound b i hb hi).1
 have hE1:=h.epo.1
 have x0:mx p 0 0≤l.Epoch:=Zlr.2 ⟨by omega,fun i _ hi=>hb 0 i (by decide) hi⟩
 have x1:mx p 1 0≤l.Epoch:=Zlr.2 ⟨by omega,fun i _ hi=>hb 1 i (by decide) hi⟩
 have n0:=Zhh p 0 0
 have n1:=Zhh p 1 0
 have hx:∀ b i,b≤1→i<602→epH (hf p b i)≤max (mx p 0 0) (mx p 1 0):=fun b i hb2 hi=>by
  have y0:=(Zlr (p:=p) (a:=0) (from_:=0)).1 (Int.le_refl _)
  have y1:=(Zlr (p:=p) (a:=1) (from_:=0)).1 (Int.le_refl _)
  rcases Nat.le_one_iff_eq_zero_or_eq_one.1 hb2 with rfl|rfl
  ·have:=y0.2 i (by omega) hi;omega
  ·have:=y1.2 i (by omega) hi;omega
 have hopen:=ZsT hk hdb (q:=(a,⟨e0,Zg1 log 0 m⟩)) hmeant (show max (mx p 0 0) (mx p 1 0)<1000000 by omega)
 obtain⟨b1,b2⟩:=Zh7 log m2 e0
 simp only[ZqV,b1,b2]at hopen
 have hbm:(log.take m).length=m:=by rw[List.length_take];omega
 have htt:∀ j,j≤m→(log.take m).take j=log.take j:=fun j hj=>by rw[List.take_take,Nat.min_eq_left hj]
 have hgm:∀ j r,(log.take m)[j]?=some r→j<m∧log[j]?=some r:=fun j r hr=>by
  have h1:=(gS.1 hr).1
  rw[hbm]at h1
  rw[List.getElem?_take,if_pos h1]at hr
  exact⟨h1,hr⟩
 refine⟨m,_,m1,m2,hopen,?_,hdb,h.a1,h.good.take m,by omega,rfl,rfl,rfl,?_,h.he0,⟨h.hc.1,by have:=h.hc.2;omega⟩,hhead,hhead,fun j r hr=>?_,fun j hj=>hmono j (by omega),fun j h1 h2=>by omega,fun b i hb2 hi=>?_,fun i h1 h2=>⟨?_,rfl⟩,fun i _=>rfl,fun i h1 h2=>?_,fun i _=>rfl,hpick,?_,by simp,by simp⟩
 ·show 1+max (mx p 0 0) (mx p 1 0)≤l.Epoch+1;omega
 ·show 1≤1+max (mx p 0 0) (mx p 1 0)∧1+max (mx p 0 0) (mx p 1 0)≤1000000;omega
 ·obtain⟨g1,g2⟩:=hgm j r hr
  rw[htt j (by omega)]
  exact m3 j r g1 g2
 ·have:=hx b i hb2 hi
  exact⟨show epH (hf p b i)≤1+max (mx p 0 0) (mx p 1 0) by omega,show epH (hf p b i)≤1+max (mx p 0 0) (mx p 1 0) by omega⟩
 ·have:=hx a i h.a1 h2
  show epH (hf p a i)<1+max (mx p 0 0) (mx p 1 0);omega
 ·rw[htt m (Nat.le_refl _)]at h1
  omega
 ·rw[htt m (Nat.le_refl _)]
  exact m4
end
theorem Zlg (b i:Nat) (hb:b≤1) (hi:i<602):hf Zmj b i=if b=0∧i=0 then Zdb 1 0 else hz:=by
 have hl:(List.replicate 602 pz).length=602:=List.length_replicate
 rw[ZoL]
 unfold Zmj
 rw[Zlx (by rw[hl];decide),show (0:Int)=((0:Nat):Int) from rfl,Zgq pz (show 0<2 by decide)]
 have hpz:∀ s,s<2→sd pz s=hz:=fun s hs=>by
  have:s=0∨s=1:=by omega
  rcases this with rfl|rfl<;>rfl
 by_cases h1:301*b+i / 2=0
 ·rw[if_pos h1]
  by_cases h2:i % 2=0
  ·rw[if_pos h2,if_pos (by omega)]
  ·rw[if_neg h2,if_neg (by omega),hpz _ (by omega)]
 ·rw[if_neg h1,if_neg (by omega),Zhj (g:=pz) (by rw[List.getElem?_replicate,if_pos (by omega)]),hpz _ (by omega)]
theorem ZuL:DB ⟨Zmj,[]⟩:=by
 have hz0:Byt hz.l:=by
  intro y hy
  have:y=0:=by
   simp only[hz,Vec.rep,List.mem_replicate]at hy
   exact hy.2
  omega
 have hh:Byt (Zdb 1 0).l:=by
  unfold Byt;decide
 refine⟨Zep.2 ⟨by unfold Zmj;rw[List.length_set];exact List.length_replicate,by simp,by simp⟩,fun g hg x hx=>?_,by simp⟩
 simp only[Zmj]at hg
 rcases List.mem_or_eq_of_mem_set hg with g1|rfl
 ·rw[List.mem_replicate]at g1
  rw[g1.2]at hx
  have:x=hz:=by
   simp only[pz,Vec.rep,List.mem_replicate]at hx
   exact hx.2
  rw[this];exact hz0
 ·have:x=Zdb 1 0∨x=hz:=by
   simp only[pz,Vec.rep,Vec.set,Int.toNat_zero,List.replicate,List.set_cons_zero,List.mem_cons,List.not_mem_nil,or_false]at hx
   exact hx
  rcases this with rfl|rfl
  ·exact hh
  ·exact hz0
theorem Jr.new:Jr ⟨Zmj,[]⟩ ⟨⟨[]⟩,0,1,1⟩ [] 0 0 1 0 (fun _=>1):=by
 have hhd:hf Zmj 0 0=Zdb 1 0:=by rw[Zlg 0 0 (by decide) (by decide),if_pos ⟨rfl,rfl⟩]
 have hE:∀ b i,b≤1→i<602→epH (hf Zmj b i)≤1:=fun b i hb hi=>by
  rw[Zlg b i hb hi]
  split
  ·rw[Zkj ⟨by decide,by decide⟩];decide
  ·rw[ZmT];decide
 refine⟨ZuL,by decide,⟨by simp,trivial,by simp⟩,Nat.le_refl _,rfl,rfl,rfl,⟨by decide,by decide⟩,⟨by decide,by decide⟩,⟨by decide,by decide⟩,hhd,hhd,by simp,by simp,by simp,fun b i hb hi=>⟨hE b i hb hi,hE b i hb hi⟩,fun i h1 h2=>⟨?_,rfl⟩,fun i _=>rfl,fun i h1 h2=>?_,fun i _=>rfl,fun y hy=>?_,fun r e hr he=>?_,by simp,by simp⟩
 ·show epH (hf Zmj 0 i)<1
  have:1≤i:=h1
  rw[Zlg 0 i (by decide) h2,if_neg (by omega),ZmT];decide
 ·have e1:Zb2 (([]:List Record).take 0)=1:=rfl
  have e2:Zb2 ([]:List Record)=1:=rfl
  omega
 ·exfalso
  have h0:Zel Zmj 1=some y:=hy
  unfold Zel at h0
  have e1:hf Zmj 1 0=hz:=by rw[Zlg 1 0 (by decide) (by decide),if_neg (by decide)]
  rw[e1,ZmT,if_neg (fun c=>c.1 rfl)]at h0
  cases h0
 ·exfalso
  have h1:=hr.at0
  have e1:Zb2 (([]:List Record).take 0)=1:=rfl
  have h2:hf (Disk.mk Zmj []).Pages 0 (Zb2 (([]:List Record).take 0))=hf Zmj 0 1:=rfl
  rw[h2,Zlg 0 1 (by decide) (by decide),if_neg (by omega),ZmT]at h1
  have:=hr.ep.1
  omega
end Go.Abs
namespace Go.Abs
open Go Go.Proofs
set_option maxRecDepth 20000
set_option linter.unusedVariables false
set_option linter.unusedSimpArgs false
def g6 (v:Vec 6 Int) (i:Nat):Int:=(v.l[i]?).getD 0
theorem ZqI (v:Vec 6 Int) {i:Nat} (hi:i<6):v.at? (i:Int)=some (g6 v i):=by
 have h:=v.h
 unfold Vec.at? g6
 rw[if_pos (by omega),Int.toNat_natCast,gG (by omega)];rfl
theorem ZuG (v:Vec 6 Int) {i:Nat} (hi:i<6) (x:Int) (j:Nat):g6 (v.set (i:Int) x) j=if j=i then x else g6 v j:=by
 have h:=v.h
 unfold g6 Vec.set
 simp only[Int.toNat_natCast]
 by_cases e:j=i
 ·subst e;rw[if_pos rfl,List.getElem?_set_self (by omega)];rfl
 ·rw[if_neg e,List.getElem?_set_ne (Ne.symm e)]
theorem Zu8 (v:Vec 6 Int) {i:Nat} (hi:6≤i):g6 v i=0:=by
 have h:=v.h
 unfold g6;rw[List.getElem?_eq_none (by omega)];rfl
def kr (v:Vec 6 (Vec 6 Int)) (i:Nat):Vec 6 Int:=(v.l[i]?).getD (Vec.rep 6 0)
theorem ZsP (v:Vec 6 (Vec 6 Int)) {i:Nat} (hi:i<6):v.at? (i:Int)=some (kr v i):=by
 have h:=v.h
 unfold Vec.at? kr
 rw[if_pos (by omega),Int.toNat_natCast,gG (by omega)];rfl
theorem ZuJ (v:Vec 6 (Vec 6 Int)) {i:Nat} (hi:i<6) (x:Vec 6 Int) (j:Nat):kr (v.set (i:Int) x) j=if j=i then x else kr v j:=by
 have h:=v.h
 unfold kr Vec.set
 simp only[Int.toNat_natCast]
 by_cases e:j=i
 ·subst e;rw[if_pos rfl,List.getElem?_set_self (by omega)];rfl
 ·rw[if_neg e,List.getElem?_set_ne (Ne.symm e)]
def kn (v:Vec 6 (Vec 6 Int)) (i x:Nat):Int:=g6 (kr v i) x
def knZ:Vec 6 (Vec 6 Int):=Vec.rep 6 ((Vec.rep 6 (0:Int)):(Vec 6 Int))
theorem Zh3 (i x:Nat):kn knZ i x=0:=by
 have hk:∀ i,kr knZ i=Vec.rep 6 0:=fun i=>by
  unfold kr knZ Vec.rep
  simp only[List.getElem?_replicate]
  split<;>rfl
 unfold kn
 rw[hk]
 unfold g6 Vec.rep
 simp only[List.getElem?_replicate]
 split<;>rfl
theorem Zhv (l:List Record) {x:Nat} (hx:x<6):g6 (Zhs l) x=((cnt Zax l (x:Int):Nat):Int):=by
 have:x=0∨x=1∨x=2∨x=3∨x=4∨x=5:=by omega
 rcases this with rfl|rfl|rfl|rfl|rfl|rfl<;>rfl
structure HI (h:House) (i:Nat) (log:List Record) (firm:Nat):Prop where
 me:h.Me=(i:Int)
 i2:i≤2
 jr:∃ a e0 c ep,Jr h.Disk h.Ledger log firm a e0 c ep
 kb:∀ j x,0≤kn h.Known j x∧kn h.Known j x≤60
section
variable {h:House}{i:Nat}{log:List Record}{firm:Nat}{k:Nat}
theorem HI.good (H:HI h i log firm):LogOK log:=by obtain⟨a,e0,c,ep,J⟩:=H.jr;exact J.good
theorem HI.book (H:HI h i log firm):h.Ledger.Book=⟨bk Zax [] log⟩:=by obtain⟨a,e0,c,ep,J⟩:=H.jr;exact J.book
theorem HI.firmle (H:HI h i log firm):firm≤log.length:=by obtain⟨a,e0,c,ep,J⟩:=H.jr;exact J.firmle
theorem Zdc (n:Int) (h:0≤n∧n≤5):ZbE k n=some true:=by
 unfold ZbE
 rw[Zcc,Zd2 h];rfl
theorem Znk {v:Vec 6 Int}{R:Type}{body:Int→Option (Stp Int Unit R)}{c:R} (hk:1000000<k) (hv:∀ x,0≤g6 v x∧g6 v x≤60)
  (h1:∀ x:Nat,x<6→body (x:Int)=(v.at? (x:Int)).bind fun y=>(ZaE k y 0 60).bind fun z=>bif (!z) then some (.ret c) else some (.next (w64 ((x:Int)+1)))) (h2:body 6=some (.brk ())):whl body k 0=some (.brk ()):=by
 have:=Zk3 (n:=6) (body:=body) (p:=fun _=>true) (c:=c) (by omega) (k:=k) (by omega) (fun x hx=>by
  rw[h1 x hx,ZqI v hx]
  simp only[Option.bind_some,Zcc,Zd2 (hv x),Bool.not_true,cond_false,cond_true]) h2
 rw[this]
 rfl
theorem HI.check (H:HI h i log firm) (hk:1000000<k):Zam k h=some 0:=by
 obtain⟨a,e0,c,ep,J⟩:=H.jr
 have hm:=H.me
 have hi:=H.i2
 unfold Zam
 rw[Zdc h.Me (by omega)]
 simp only[Option.bind_some,cond_true]
 rw[Zen hk J.db J.led]
 simp only[Option.bind_some,decide_true,Bool.not_true,cond_false]
 have:=Zk3 (n:=6) (body:=Zam.b0 k h) (p:=fun _=>true) (c:=(96:Int)) (by omega) (k:=k) (by omega) (fun x hx=>by
  unfold Zam.b0
  simp only[decide_eq_true (show (x:Int)<6 by omega),cond_true,ZsP h.Known hx,Option.bind_some]
  rw[Znk (v:=kr h.Known x) (c:=(96:Int)) hk (fun y=>H.kb x y) (fun y hy=>by
   unfold Zam.b1
   simp only[decide_eq_true (show (y:Int)<6 by omega),cond_true]) (by
   unfold Zam.b1;rfl)]
  rfl) (by unfold Zam.b0;rfl)
 rw[this]
 rfl
theorem HI.books (H:HI h i log firm):h.Ledger.Book.Records.length≤50∧(∀ r∈h.Ledger.Book.Records,ZcA r)∧∀ x:Int,cnt Zax h.Ledger.Book.Records x=cnt Zax log x:=by
 have hb:=H.good.bi
 have h50:=H.good.len
 rw[H.book]
 exact⟨by simp only[hb.len];exact h50,fun r hr=>Zby (H.good.ok r ((hb.mem r).1 hr)),hb.num⟩
theorem Znr {a b:List Record} (h:∀ x:Int,cnt Zax a x=cnt Zax b x):Zhs a=Zhs b:=by unfold Zhs;simp only[h]
theorem HI.have_ (H:HI h i log firm) (hk:1000000<k):ZaQ k h.Ledger.Book=some (Zhs log):=by
 obtain⟨b1,b2,b3⟩:=H.books
 rw[Zj9 hk (by omega) b2,Znr b3]
theorem HI.copyL (H:HI h i log firm):Zbh k h.Ledger=some h.Ledger:=by
 obtain⟨b1,b2,b3⟩:=H.books
 unfold Zbh
 rw[Zec (by omega)]
 rfl
theorem HI.sync (H:HI h i log firm) (hk:1000000<k):∃ d,Zdk k h=some ⟨h.Me,d,h.Ledger,h.Known⟩∧HI ⟨h.Me,d,h.Ledger,h.Known⟩ i log log.length:=by
 obtain⟨a,e0,c,ep,J⟩:=H.jr
 refine⟨⟨mend h.Disk.Pages h.Disk.Wait,[]⟩,?_,H.me,H.i2,⟨a,e0,c,ep,J.sync⟩,H.kb⟩
 unfold Zdk
 rw[Zm6 hk J.db.ok,H.copyL]
 rfl
theorem Zmf {i:Nat} (hi:i≤2):∃ h,ZcS k (i:Int)=some (h,0)∧HI h i [] 0∧h.Known=knZ∧h.Ledger.Epoch=1:=by
 refine⟨(⟨(i:Int),⟨Zmj,[]⟩,⟨⟨[]⟩,0,1,1⟩,knZ⟩:House),?_,?_,rfl,rfl⟩
 ·unfold ZcS
  rw[Zdc (i:Int) (by omega)]
  simp only[Option.bind_some,Bool.not_true,cond_false,ZoP]
  rfl
 ·exact⟨rfl,hi,⟨_,_,_,_,Jr.new⟩,fun j x=>by show 0≤kn knZ j x∧kn knZ j x≤60;rw[Zh3];omega⟩
theorem HI.note (H:HI h i log firm) (hk:1000000<k) (Zca:log.length+1≤50) (r:Record) (hr:Zf8 ⟨⟨(i:Int),((cnt Zax log (i:Int):Nat):Int)⟩,r.Kind,r.Day,r.Known,r.Of,r.Text⟩=true):
  ∃ h',ZdP k h r=some (h',⟨⟨(i:Int),((cnt Zax log (i:Int):Nat):Int)⟩,r.Kind,r.Day,r.Known,r.Of,r.Text⟩,0)∧h'.Ledger.Epoch=h.Ledger.Epoch∧h'.Known=h.Known∧
   HI h' i (log++[⟨⟨(i:Int),((cnt Zax log (i:Int):Nat):Int)⟩,r.Kind,r.Day,r.Known,r.Of,r.Text⟩]) firm:=by
 obtain⟨a,e0,c,ep,J⟩:=H.jr
 have hi:=H.i2
 obtain⟨d',l',h1,h2,h3⟩:=J.append hr (by rfl) Zca hk
 refine⟨⟨h.Me,d',l',h.Known⟩,?_,h2,rfl,H.me,H.i2,⟨_,_,_,_,h3⟩,H.kb⟩
 unfold ZdP
 rw[H.check hk]
 simp only[Option.bind_some,decide_true,Bool.not_true,cond_false,H.have_ hk,H.me,Zi9 log (show 0≤(i:Int) by omega) (by omega),h1]
theorem HI.restart (H:HI h i log firm) (hk:1000000<k) (hE:h.Ledger.Epoch<1000000) (picks:List Int) (hp:picks.length≤4611686018427387904):
  ∃ h' m,firm≤m∧m≤log.length∧Zct k h picks=some (h',0)∧h'.Ledger.Epoch≤h.Ledger.Epoch+1∧h'.Known=knZ∧HI h' i (log.take m) m:=by
 obtain⟨a,e0,c,ep,J⟩:=H.jr
 obtain⟨p',c1,c2,c3⟩:=ZqC hk J.db picks hp J.waits
 obtain⟨m,l',m1,m2,m3,m4,m5⟩:=J.fail hE c2 c3 hk
 refine⟨⟨h.Me,⟨p',[]⟩,l',knZ⟩,m,m1,m2,?_,m4,rfl,H.me,H.i2,⟨_,_,_,_,m5⟩,fun j x=>by show 0≤kn knZ j x∧kn knZ j x≤60;rw[Zh3];omega⟩
 unfold Zct
 rw[H.check hk]
 simp only[Option.bind_some,decide_true,Bool.not_true,cond_false,c1,m3]
 rfl
end
def Zdn (b:List Record) (K:Vec 6 Int):List Record:=(b.filter fun r=>decide (g6 K r.At.House.toNat≤r.At.No)).take 8
theorem Zoa {k:Nat} (hk:1000000<k) {h:House}{to:Nat} (ht:to<6) {b:List Record} (hb:h.Ledger.Book.Records=b) (hl:b.length≤100) (hh:∀ r∈b,ZcA r):whl (Za6.b0 k h (to:Int)) k (0,[])=some (.brk (Zdn b (kr h.Known to))):=by
 have hf:=Zhi (l:=b) (body:=Za6.b0 k h (to:Int)) (fun i s=>(i,s)) (fun s r=>if decide (g6 (kr h.Known to) r.At.House.toNat≤r.At.No)=true∧s.length<8 then s++[r] else s) (fun i s=>s=((b.take i).filter fun r=>decide (g6 (kr h.Known to) r.At.House.toNat≤r.At.No)).take 8) (by omega) (k:=k) (by omega) (s0:=[]) (by simp) (fun i r s hx hs=>by
  have hi:=(gS.1 hx).1
  have hho:=hh r (List.mem_of_getElem? hx)
  obtain⟨x,hxx⟩:=Int.eq_ofNat_of_zero_le hho.1
  have hx6:x<6:=by have:=hho.2;omega
  have hsl:s.length≤8:=by rw[hs,List.length_take];omega
  have hat:(kr h.Known to).at? r.At.House=some (g6 (kr h.Known to) r.At.House.toNat):=by
   rw[hxx,ZqI _ hx6];rfl
  refine⟨?_,?_⟩
  ·unfold Za6.b0
   rw[hb]
   simp only[decide_eq_true (show (i:Int)<(b.length:Int) by omega),cond_true,Zc6 hx,ZsP h.Known ht,hat,Option.bind_some]
   by_cases c1:g6 (kr h.Known to) r.At.House.toNat≤r.At.No
   ·by_cases c2:s.length<8
    ·simp only[decide_eq_true c1,decide_eq_true (show ((s.length:Nat):Int)<8 by omega),cond_true,ZiG (show (s.length+1)*72≤140737488355328 by omega) (show s.length+1<4611686018427387904 by omega),Option.bind_some,if_pos (show True∧s.length<8 from ⟨trivial,c2⟩),true_and,c2,if_true]
    ·simp only[decide_eq_true c1,decide_eq_false (show ¬ ((s.length:Nat):Int)<8 by omega),cond_true,cond_false,true_and,c2,if_false]
   ·simp[decide_eq_false c1]
  ·rw[ZhJ hx,List.filter_append]
   by_cases c1:g6 (kr h.Known to) r.At.House.toNat≤r.At.No
   ·have e:[r].filter (fun r=>decide (g6 (kr h.Known to) r.At.House.toNat≤r.At.No))=[r]:=by simp[c1]
    rw[e,List.take_append]
    by_cases c2:s.length<8
    ·rw[if_pos ⟨decide_eq_true c1,c2⟩]
     rw[hs,List.length_take]at c2
     rw[←hs]
     have:8 - ((b.take i).filter fun r=>decide (g6 (kr h.Known to) r.At.House.toNat≤r.At.No)).length=8 - 1 - ((b.take i).filter fun r=>decide (g6 (kr h.Known to) r.At.House.toNat≤r.At.No)).length+1:=by omega
     rw[this,List.take_succ_cons,List.take_nil]
    ·rw[if_neg (fun c=>c2 c.2)]
     rw[hs,List.length_take]at c2
     rw[show 8 - ((b.take i).filter fun r=>decide (g6 (kr h.Known to) r.At.House.toNat≤r.At.No)).length=0 by omega,List.take_zero,List.append_nil,hs]
   ·have e:[r].filter (fun r=>decide (g6 (kr h.Known to) r.At.House.toNat≤r.At.No))=[]:=by simp[c1]
    rw[e,List.append_nil,if_neg (fun c=>c1 (of_decide_eq_true c.1)),hs]) (fun s hs=>by
  unfold Za6.b0
  rw[hb]
  simp only[(by simp:decide ((b.length:Int)<(b.length:Int))=false),cond_false])
 have h2:=hf.2
 rw[List.take_length]at h2
 rw[hf.1,h2]
 rfl
theorem HI.offer {h:House}{i:Nat}{log:List Record}{firm k:Nat} (H:HI h i log firm) (hk:1000000<k) {to:Nat} (ht:to≤2) (hne:to≠i):
  ∃ d,Za6 k h (to:Int)=some (⟨h.Me,d,h.Ledger,h.Known⟩,⟨(i:Int),(to:Int),Zhs log,Zdn (bk Zax [] log) (kr h.Known to)⟩,0)∧HI ⟨h.Me,d,h.Ledger,h.Known⟩ i log log.length:=by
 obtain⟨d,s1,s2⟩:=H.sync hk
 obtain⟨b1,b2,b3⟩:=H.books
 refine⟨d,?_,s2⟩
 have hbr:h.Ledger.Book.Records=bk Zax [] log:=by rw[H.book]
 have hlo:=Zoa hk (h:=h) (to:=to) (by omega) hbr (by rw[←hbr];omega) (by rw[←hbr];exact b2)
 have hme:=H.me
 unfold Za6
 rw[H.check hk]
 simp only[Option.bind_some,decide_true,Bool.not_true,cond_false,Zdc (to:Int) (show 0≤(to:Int)∧(to:Int)≤5 by omega),cond_true]
 rw[decide_eq_false (show ¬ (to:Int)=h.Me by omega)]
 simp only[cond_false,H.have_ hk,Option.bind_some,hlo,s1]
 rw[H.me]
end Go.Abs
namespace Go.Abs
open Go Go.Proofs
set_option maxRecDepth 20000
set_option linter.unusedVariables false
set_option linter.unusedSimpArgs false
structure SI (s:Slip) (f t:Nat):Prop where
 from_:s.From=(f:Int)
 to_:s.To=(t:Int)
 f2:f≤2
 t2:t≤2
 ne:f≠t
 hv:∀ x,0≤g6 s.Have x∧g6 s.Have x≤60
 len:s.Records.length≤8
 ok:∀ r∈s.Records,Zf8 r=true
theorem SI.check {s:Slip}{f t k:Nat} (S:SI s f t) (hk:1000000<k):ZaO k s=some true:=by
 have h1:=S.f2
 have h2:=S.t2
 have h3:=S.from_
 have h4:=S.to_
 have h5:=S.ne
 have h6:=S.len
 unfold ZaO
 rw[Zdc s.From (by omega),Zdc s.To (by omega)]
 simp only[Option.bind_some,cond_true,decide_eq_false (show ¬ s.From=s.To by omega),Bool.not_false,decide_eq_false (show ¬ (8:Int)<(s.Records.length:Int) by omega),cond_false]
 rw[Znk (v:=s.Have) (c:=false) hk S.hv (fun y hy=>by
  unfold ZaO.b0
  simp only[decide_eq_true (show (y:Int)<6 by omega),cond_true]) (by unfold ZaO.b0;rfl)]
 simp only[Option.bind_some]
 have hI:ZaK k s.Records (fun q0=>ZbW k q0)=some false:=by
  unfold ZaK Zaj
  have:=Zkz (l:=s.Records) (body:=Zaj.b0 k (fun q0=>ZbW k q0) s.Records) (p:=fun _=>true) (c:=(0:Int)) (by omega) (k:=k) (by omega) (fun i x hx=>by
   have hi:=(gS.1 hx).1
   unfold Zaj.b0 ZbW
   simp only[decide_eq_true (show (i:Int)<(s.Records.length:Int) by omega),cond_true,Zc6 hx,Option.bind_some,Zdr (show 1000<k by omega),S.ok x (List.mem_of_getElem? hx),Bool.not_true,cond_false]) (by
   unfold Zaj.b0
   simp only[(by simp:decide ((s.Records.length:Int)<(s.Records.length:Int))=false),cond_false])
  rw[this]
  have ha:s.Records.all (fun _=>true)=true:=by simp
  rw[ha]
  rfl
 rw[hI]
 rfl
def rcv (log:List Record) (r:Record):List Record:=if ((cnt Zax log r.At.House:Nat):Int)<r.At.No then log else if r∈log then log else log++[r]
theorem Zpc (log:List Record) (r:Record):(rcv log r).length≤log.length+1:=by
 unfold rcv
 split
 ·omega
 ·split
  ·omega
  ·simp
theorem ZtF (log:List Record) (r:Record):∀ x∈log,x∈rcv log r:=fun x hx=>by
 unfold rcv
 split
 ·exact hx
 ·split
  ·exact hx
  ·simp[hx]
theorem Zms (log:List Record) (r:Record):∀ x∈rcv log r,x∈log∨x=r:=fun x hx=>by
 unfold rcv at hx
 split at hx
 ·exact .inl hx
 ·split at hx
  ·exact .inl hx
  ·simpa using hx
def ZcI (log:List Record) (rs:List Record):List Record:=rs.foldl rcv log
theorem ZfZ:∀ (rs log:List Record),∀ x∈log,x∈ZcI log rs
 |[],log,x,hx=>hx
 |r::rs,log,x,hx=>ZfZ rs (rcv log r) x (ZtF log r x hx)
theorem ZfU:∀ (rs log:List Record),∀ x∈ZcI log rs,x∈log∨x∈rs
 |[],log,x,hx=>.inl hx
 |r::rs,log,x,hx=>by
  rcases ZfU rs (rcv log r) x hx with h|h
  ·rcases Zms log r x h with g|g
   ·exact .inl g
   ·exact .inr (by simp[g])
  ·exact .inr (by simp[h])
theorem Znd:∀ (rs log:List Record),(ZcI log rs).length≤log.length+rs.length
 |[],log=>by simp[ZcI]
 |r::rs,log=>by
  have h1:=Znd rs (rcv log r)
  have h2:=Zpc log r
  simp only[List.length_cons]
  unfold ZcI at *
  rw[List.foldl_cons]
  omega
section
variable {i firm k:Nat}
theorem HI.step {h:House}{log:List Record} (H:HI h i log firm) (hk:1000000<k) {s:Slip}{r:Record}{j:Nat} (hx:s.Records[j]?=some r) (hj:j<1000) (hr:Zf8 r=true) (hT:∀ y∈log,Zax y=Zax r→y=r) (Zca:log.length+1≤50):
  ∃ h',Zal.b0 k s (h,(j:Int))=some (.next (h',((j+1:Nat):Int)))∧HI h' i (rcv log r) firm∧h'.Known=h.Known∧h'.Ledger.Epoch=h.Ledger.Epoch:=by
 have hi:=(gS.1 hx).1
 have hho:=Zby hr
 have hw:w64 ((j:Int)+1)=((j+1:Nat):Int):=by rw[ZaD (by omega) (by omega)];omega
 have hne:h=⟨h.Me,h.Disk,h.Ledger,h.Known⟩:=rfl
 unfold Zal.b0
 simp only[decide_eq_true (show (j:Int)<(s.Records.length:Int) by omega),cond_true,Zc6 hx,Option.bind_some,H.have_ hk,Zi9 log hho.1 hho.2,hw]
 unfold rcv
 by_cases c1:((cnt Zax log r.At.House:Nat):Int)<r.At.No
 ·simp only[decide_eq_true c1,cond_true,if_pos c1]
  exact⟨h,rfl,H,rfl,rfl⟩
 ·simp only[decide_eq_false c1,cond_false,if_neg c1]
  obtain⟨a,e0,c,ep,J⟩:=H.jr
  by_cases c2:r∈log
  ·rw[if_pos c2,J.same c2 hk]
   simp only[Option.bind_some,decide_true,Bool.not_true,cond_false]
   exact⟨h,rfl,H,rfl,rfl⟩
  ·rw[if_neg c2]
   have hno:(Zax r).2=cnt Zax log (Zax r).1:=by
    show r.At.No=((cnt Zax log r.At.House:Nat):Int)
    have h0:=(Zfb hr).2.1.1
    by_cases c3:r.At.No<((cnt Zax log r.At.House:Nat):Int)
    ·obtain⟨y,hy,hky⟩:=ZhL Zax J.good.vl r.At.House r.At.No h0 (by omega)
     exact absurd (hT y hy hky▸hy) c2
    ·omega
   obtain⟨d',l',h1,h2,h3⟩:=J.append hr hno Zca hk
   rw[h1]
   simp only[Option.bind_some,decide_true,Bool.not_true,cond_false]
   exact⟨_,rfl,⟨H.me,H.i2,⟨_,_,_,_,h3⟩,H.kb⟩,rfl,h2⟩
theorem HI.loop (hk:1000000<k) {s:Slip} (hs:s.Records.length≤8) (hok:∀ r∈s.Records,Zf8 r=true):∀ (n j m:Nat) (h:House) (log:List Record),j+n=s.Records.length→n<m→HI h i log firm→
  (∀ x y,(x∈log∨x∈s.Records)→(y∈log∨y∈s.Records)→Zax x=Zax y→x=y)→log.length+n≤50→
  ∃ h',whl (Zal.b0 k s) m (h,(j:Int))=some (.brk h')∧HI h' i (ZcI log (s.Records.drop j)) firm∧h'.Known=h.Known∧h'.Ledger.Epoch=h.Ledger.Epoch
 |0,j,m,h,log,h1,h2,H,hT,hl=>by
  obtain⟨m,rfl⟩:∃ q,m=q+1:=⟨m - 1,by omega⟩
  have hb:Zal.b0 k s (h,(j:Int))=some (.brk h):=by
   unfold Zal.b0
   simp only[decide_eq_false (show ¬ (j:Int)<(s.Records.length:Int) by omega),cond_false]
  rw[List.drop_of_length_le (by omega)]
  exact⟨h,by simp only[whl,hb],H,rfl,rfl⟩
 |n+1,j,m,h,log,h1,h2,H,hT,hl=>by
  obtain⟨m,rfl⟩:∃ q,m=q+1:=⟨m - 1,by omega⟩
  obtain⟨r,hr⟩:∃ r,s.Records[j]?=some r:=⟨_,gG (by omega)⟩
  have hrm:=List.mem_of_getElem? hr
  obtain⟨h',g1,g2,g3,g4⟩:=H.step hk hr (by omega) (hok r hrm) (fun y hy e=>hT y r (.inl hy) (.inr hrm) e) (by omega)
  have hrl:=Zpc log r
  obtain⟨h'',k1,k2,k3,k4⟩:=HI.loop hk hs hok n (j+1) m h' (rcv log r) (by omega) (by omega) g2 (fun x y hx hy e=>hT x y (by
   rcases hx with hx|hx
   ·rcases Zms log r x hx with q|q
    ·exact .inl q
    ·exact .inr (q▸hrm)
   ·exact .inr hx) (by
   rcases hy with hy|hy
   ·rcases Zms log r y hy with q|q
    ·exact .inl q
    ·exact .inr (q▸hrm)
   ·exact .inr hy) e) (by omega)
  have hdr:s.Records.drop j=r::s.Records.drop (j+1):=by
   obtain⟨q1,q2⟩:=gS.1 hr
   rw[List.drop_eq_getElem_cons q1,q2]
  rw[hdr]
  exact⟨h'',by simp only[whl,g1,k1],k2,k3.trans g3,k4.trans g4⟩
theorem ZnZ {h:House}{s:Slip}{f:Nat} (hf:s.From=(f:Int)) (hf2:f≤2) (hk:1000000<k):
  ∃ K,whl (Zal.b1 k s) k (h,0)=some (.brk ⟨h.Me,h.Disk,h.Ledger,K⟩)∧∀ j x,kn K j x=if j=f∧x<6 then max (kn h.Known j x) (g6 s.Have x) else kn h.Known j x:=by
 have key:∀ (n x m:Nat) (K:Vec 6 (Vec 6 Int)),x+n=6→n<m→(∀ j y,kn K j y=if j=f∧y<x then max (kn h.Known j y) (g6 s.Have y) else kn h.Known j y)→
   ∃ K',whl (Zal.b1 k s) m ((⟨h.Me,h.Disk,h.Ledger,K⟩:House),(x:Int))=some (.brk ⟨h.Me,h.Disk,h.Ledger,K'⟩)∧∀ j y,kn K' j y=if j=f∧y<6 then max (kn h.Known j y) (g6 s.Have y) else kn h.Known j y:=by
  intro n
  induction n with
  |zero=>
   intro x m K g1 g2 hK
   obtain⟨m,rfl⟩:∃ q,m=q+1:=⟨m - 1,by omega⟩
   have:x=6:=by omega
   subst this
   exact⟨K,rfl,hK⟩
  |succ n ih=>
   intro x m K g1 g2 hK
   obtain⟨m,rfl⟩:∃ q,m=q+1:=⟨m - 1,by omega⟩
   have hx:x<6:=by omega
   have hw:w64 ((x:Int)+1)=((x+1:Nat):Int):=by rw[ZaD (by omega) (by omega)];omega
   have hb:Zal.b1 k s ((⟨h.Me,h.Disk,h.Ledger,K⟩:House),(x:Int))=some (.next ((⟨h.Me,h.Disk,h.Ledger,K.set (f:Int) ((kr K f).set (x:Int) (max (g6 (kr K f) x) (g6 s.Have x)))⟩:House),((x+1:Nat):Int))):=by
    unfold Zal.b1
    simp only[decide_eq_true (show (x:Int)<6 by omega),cond_true,ZqI s.Have hx,Option.bind_some,hf,ZsP K (show f<6 by omega),ZqI (kr K f) hx,hw]
   obtain⟨K',q1,q2⟩:=ih (x+1) m (K.set (f:Int) ((kr K f).set (x:Int) (max (g6 (kr K f) x) (g6 s.Have x)))) (by omega) (by omega) (fun j y=>by
    have hset:kn (K.set (f:Int) ((kr K f).set (x:Int) (max (g6 (kr K f) x) (g6 s.Have x)))) j y=if j=f then (if y=x then max (g6 (kr K f) x) (g6 s.Have x) else g6 (kr K f) y) else kn K j y:=by
     unfold kn
     rw[ZuJ K (show f<6 by omega)]
     by_cases e:j=f
     ·rw[if_pos e,if_pos e,ZuG _ hx]
     ·rw[if_neg e,if_neg e]
    rw[hset]
    by_cases e:j=f
    ·subst e
     rw[if_pos rfl]
     have hK1:=hK j y
     have hK2:=hK j x
     unfold kn at hK1 hK2 ⊢
     by_cases e2:y=x
     ·subst e2
      rw[if_pos rfl,if_pos ⟨rfl,by omega⟩,hK1,if_neg (by omega)]
     ·rw[if_neg e2,hK1]
      by_cases e3:y<x
      ·rw[if_pos ⟨rfl,e3⟩,if_pos ⟨rfl,by omega⟩]
      ·rw[if_neg (by omega),if_neg (by omega)]
    ·rw[if_neg e,hK,if_neg (fun c=>e c.1),if_neg (fun c=>e c.1)])
   exact⟨K',by simp only[whl,hb];exact q1,q2⟩
 have:=key 6 0 k h.Known (by omega) (by omega) (fun j y=>by rw[if_neg (by omega)])
 exact this
theorem HI.receive {h:House}{log:List Record} (H:HI h i log firm) (hk:1000000<k) {s:Slip}{f:Nat} (S:SI s f i) (hT:∀ x y,(x∈log∨x∈s.Records)→(y∈log∨y∈s.Records)→Zax x=Zax y→x=y) (hl:log.length+8≤50):
  ∃ h',Zal k h s=some (h',(if s.Records=[] then [] else [⟨(i:Int),(f:Int),Zhs (ZcI log s.Records),[]⟩]),0)∧HI h' i (ZcI log s.Records) (ZcI log s.Records).length∧h'.Ledger.Epoch=h.Ledger.Epoch∧
   ∀ j x,kn h'.Known j x=if j=f∧x<6 then max (kn h.Known j x) (g6 s.Have x) else kn h.Known j x:=by
 have hsl:=S.len
 obtain⟨a,e0,c,ep,J⟩:=H.jr
 obtain⟨h1,q1,q2,q3,q4⟩:=HI.loop hk hsl S.ok s.Records.length 0 k h log (by omega) (by omega) H hT (by omega)
 rw[List.drop_zero]at q2
 obtain⟨d,s1,s2⟩:=q2.sync hk
 obtain⟨K,k1,k2⟩:=ZnZ (h:=⟨h1.Me,d,h1.Ledger,h1.Known⟩) S.from_ S.f2 hk
 have H2:HI ⟨h1.Me,d,h1.Ledger,K⟩ i (ZcI log s.Records) (ZcI log s.Records).length:=⟨s2.me,s2.i2,s2.jr,fun j x=>by
  rw[k2 j x]
  have h3:=s2.kb j x
  have h4:=S.hv x
  split<;>simp only at h3 ⊢<;>omega⟩
 refine⟨⟨h1.Me,d,h1.Ledger,K⟩,?_,H2,q4,fun j x=>by rw[k2 j x];simp only[q3]⟩
 unfold Zal
 rw[H.check hk]
 simp only[Option.bind_some,decide_true,Bool.not_true,cond_false,S.check hk,cond_true,S.to_,H.me]
 rw[Zdv J.db.ok]
 simp only[Option.bind_some,H.copyL]
 rw[Int.natCast_zero]at q1
 have q1':whl (Zal.b0 k s) k ((⟨(i:Int),h.Disk,h.Ledger,h.Known⟩:House),0)=some (.brk h1):=by
  rw[←H.me];exact q1
 rw[q1']
 simp only[Option.bind_some,s1,k1]
 by_cases he:s.Records=[]
 ·rw[if_pos he]
  have:decide ((s.Records.length:Int)=0)=true:=by rw[he];rfl
  simp only[this,cond_true]
 ·rw[if_neg he]
  have:decide ((s.Records.length:Int)=0)=false:=by
   apply decide_eq_false
   intro c
   exact he (List.length_eq_zero_iff.1 (by omega))
  simp only[this,cond_false,H2.have_ hk,Option.bind_some,H2.me,S.from_]
  have hme:=H2.me
  simp only at hme
  rw[hme]
end
end Go.Abs
namespace Go.Abs
open Go Go.Proofs
set_option maxRecDepth 20000
set_option linter.unusedVariables false
set_option linter.unusedSimpArgs false
theorem Zma (h:House) (j x:Nat):g6 (kr h.Known j) x=kn h.Known j x:=rfl
def hZ:House:=⟨0,⟨[],[]⟩,⟨⟨[]⟩,0,0,0⟩,knZ⟩
def h3 (v:Vec 3 House) (i:Nat):House:=(v.l[i]?).getD hZ
theorem Zlf (v:Vec 3 House) {i:Nat} (hi:i≤2):v.at? (i:Int)=some (h3 v i):=by
 have h:=v.h
 unfold Vec.at? h3
 rw[if_pos (by omega),Int.toNat_natCast,gG (by omega)];rfl
theorem ZiI (v:Vec 3 House) {i:Nat} (hi:i≤2) (x:House) (j:Nat):h3 (v.set (i:Int) x) j=if j=i then x else h3 v j:=by
 have h:=v.h
 unfold h3 Vec.set
 simp only[Int.toNat_natCast]
 by_cases e:j=i
 ·subst e;rw[if_pos rfl,List.getElem?_set_self (by omega)];rfl
 ·rw[if_neg e,List.getElem?_set_ne (Ne.symm e)]
theorem ZdO {a b:List Record} (ha:VL Zax (fun _=>0) a) (hb:VL Zax (fun _=>0) b) (x:Int) (h:∀ r∈a,r.At.House=x→r∈b):cnt Zax a x≤cnt Zax b x:=by
 by_cases h0:cnt Zax a x=0
 ·omega
 ·obtain⟨r,hr,hk⟩:=ZhL Zax ha x ((cnt Zax a x:Int) - 1) (by omega) (by omega)
  have h1:r.At.House=x:=congrArg Prod.fst hk
  have h2:r.At.No=(cnt Zax a x:Int) - 1:=congrArg Prod.snd hk
  have:=Znm Zax hb r (h r hr h1)
  have h3:r.At.No<0+((cnt Zax b r.At.House:Nat):Int):=this.2
  rw[h1]at h3
  omega
def in3 (r:Record):Prop:=∃ x:Nat,x≤2∧r.At.House=(x:Int)
theorem ZvA:∀ {l:List Record},(∀ r∈l,in3 r)→l.length=cnt Zax l 0+cnt Zax l 1+cnt Zax l 2
 |[],_=>rfl
 |r::l,h=>by
  have ih:=ZvA (l:=l) (fun x hx=>h x (by simp[hx]))
  obtain⟨x,hx,e⟩:=h r (by simp)
  have e':(Zax r).1=(x:Int):=e
  rw[List.length_cons,Zcg,Zcg,Zcg,e']
  have:x=0∨x=1∨x=2:=by omega
  rcases this with rfl|rfl|rfl<;>simp<;>omega
structure W (hs:Nat→House) (sl:List Slip) (L:Nat→List Record) (F:Nat→Nat) (t:Nat):Prop where
 hi:∀ i,i≤2→HI (hs i) i (L i) (F i)
 ep:∀ i,i≤2→(hs i).Ledger.Epoch≤1+t
 own:cnt Zax (L 0) 0+cnt Zax (L 1) 1+cnt Zax (L 2) 2≤t
 hou:∀ i,i≤2→∀ r∈L i,in3 r
 pub:∀ i j,i≤2→j≤2→j≠i→∀ r∈L j,r.At.House=(i:Int)→r∈(L i).take (F i)
 kno:∀ k i x,k≤2→i≤2→x<6→kn (hs k).Known i x≤((cnt Zax ((L i).take (F i)) (x:Int):Nat):Int)
 slp:∀ s∈sl,∃ f u,SI s f u∧(∀ r∈s.Records,∃ x:Nat,x≤2∧r.At.House=(x:Int)∧r∈(L x).take (F x))∧∀ x,x<6→g6 s.Have x≤((cnt Zax ((L f).take (F f)) (x:Int):Nat):Int)
def up {α:Type} (f:Nat→α) (i:Nat) (x:α):Nat→α:=fun j=>if j=i then x else f j
theorem ZaY {α:Type} (f:Nat→α) (i:Nat) (x:α):up f i x i=x:=if_pos rfl
theorem Zdd {α:Type} (f:Nat→α) {i j:Nat} (x:α) (h:j≠i):up f i x j=f j:=if_neg h
section
variable {hs:Nat→House}{sl:List Slip}{L:Nat→List Record}{F:Nat→Nat}{t:Nat}
theorem W.vl (w:W hs sl L F t) {i:Nat} (hi:i≤2):VL Zax (fun _=>0) (L i):=(w.hi i hi).good.vl
theorem W.in_own (w:W hs sl L F t) {i x:Nat} (hi:i≤2) (hx:x≤2) {r:Record} (hr:r∈L i) (e:r.At.House=(x:Int)):r∈L x:=by
 by_cases h:i=x
 ·exact h▸hr
 ·exact List.mem_of_mem_take (w.pub x i hx hi h r hr e)
theorem W.one (w:W hs sl L F t) {i j:Nat} (hi:i≤2) (hj:j≤2) {x y:Record} (hx:x∈L i) (hy:y∈L j) (e:Zax x=Zax y):x=y:=by
 obtain⟨h,h2,eh⟩:=w.hou i hi x hx
 have ey:y.At.House=(h:Int):=by
  have:x.At.House=y.At.House:=congrArg Prod.fst e
  rw[←this];exact eh
 exact Zui Zax (w.vl h2) (w.in_own hi h2 hx eh) (w.in_own hj h2 hy ey) e
theorem W.len (w:W hs sl L F t) {i:Nat} (hi:i≤2):(L i).length≤t:=by
 have h:=ZvA (w.hou i hi)
 have h0:=ZdO (w.vl hi) (w.vl (i:=0) (by decide)) 0 (fun r hr e=>w.in_own hi (by decide) hr e)
 have h1:=ZdO (w.vl hi) (w.vl (i:=1) (by decide)) 1 (fun r hr e=>w.in_own hi (by decide) hr e)
 have h2:=ZdO (w.vl hi) (w.vl (i:=2) (by decide)) 2 (fun r hr e=>w.in_own hi (by decide) hr e)
 have:=w.own
 omega
theorem W.upd (w:W hs sl L F t) {i:Nat} (hi2:i≤2) {h':House}{L':List Record}{F' t':Nat} (H:HI h' i L' F') (ht:t≤t')
  (ha:∀ r∈(L i).take (F i),r∈L'.take F') (hb:∀ r∈L',∀ x:Nat,x≤2→x≠i→r.At.House=(x:Int)→r∈(L x).take (F x)) (hc:∀ r∈L',in3 r)
  (hd:∀ j x,j≤2→x<6→kn h'.Known j x≤if j=i then ((cnt Zax (L'.take F') (x:Int):Nat):Int) else ((cnt Zax ((L j).take (F j)) (x:Int):Nat):Int))
  (he:cnt Zax L' (i:Int)+t≤cnt Zax (L i) (i:Int)+t') (hf:h'.Ledger.Epoch≤1+t'):W (up hs i h') sl (up L i L') (up F i F') t':=by
 have hmono:∀ j x,j≤2→((cnt Zax ((L j).take (F j)) x:Nat):Int)≤((cnt Zax ((up L i L' j).take (up F i F' j)) x:Nat):Int):=fun j x hj=>by
  by_cases e:j=i
  ·subst e
   rw[ZaY,ZaY]
   have:=ZdO (Zfk Zax (w.vl hj) (F j)) (Zfk Zax H.good.vl F') x (fun r hr _=>ha r hr)
   omega
  ·rw[Zdd _ _ e,Zdd _ _ e];exact Int.le_refl _
 have hin:∀ (j:Nat) r,j≤2→r∈(L j).take (F j)→r∈(up L i L' j).take (up F i F' j):=fun j r hj hr=>by
  by_cases e:j=i
  ·subst e;rw[ZaY,ZaY];exact ha r hr
  ·rw[Zdd _ _ e,Zdd _ _ e];exact hr
 refine⟨fun j hj=>?_,fun j hj=>?_,?_,fun j hj r hr=>?_,fun x j hx hj hne r hr e=>?_,fun k j x hk hj hx=>?_,fun s hs=>?_⟩
 ·by_cases e:j=i
  ·subst e;rw[ZaY,ZaY,ZaY];exact H
  ·rw[Zdd _ _ e,Zdd _ _ e,Zdd _ _ e];exact w.hi j hj
 ·by_cases e:j=i
  ·subst e;rw[ZaY];exact hf
  ·rw[Zdd _ _ e];have:=w.ep j hj;omega
 ·have ho:=w.own
  have:i=0∨i=1∨i=2:=by omega
  rcases this with rfl|rfl|rfl
  ·have he':cnt Zax L' 0+t≤cnt Zax (L 0) 0+t':=he
   rw[ZaY,Zdd _ _ (by decide),Zdd _ _ (by decide)];omega
  ·have he':cnt Zax L' 1+t≤cnt Zax (L 1) 1+t':=he
   rw[ZaY,Zdd _ _ (by decide),Zdd _ _ (by decide)];omega
  ·have he':cnt Zax L' 2+t≤cnt Zax (L 2) 2+t':=he
   rw[ZaY,Zdd _ _ (by decide),Zdd _ _ (by decide)];omega
 ·by_cases e:j=i
  ·subst e;rw[ZaY]at hr;exact hc r hr
  ·rw[Zdd _ _ e]at hr;exact w.hou j hj r hr
 ·by_cases e2:j=i
  ·subst e2
   rw[ZaY]at hr
   exact hin x r hx (hb r hr x hx (Ne.symm hne) e)
  ·rw[Zdd _ _ e2]at hr
   exact hin x r hx (w.pub x j hx hj hne r hr e)
 ·by_cases e:k=i
  ·subst e
   rw[ZaY]
   have:=hd j x hj hx
   by_cases e2:j=k
   ·subst e2
    rw[if_pos rfl]at this
    rw[ZaY,ZaY];exact this
   ·rw[if_neg e2]at this
    rw[Zdd _ _ e2,Zdd _ _ e2];exact this
  ·rw[Zdd _ _ e]
   have:=w.kno k j x hk hj hx
   have:=hmono j (x:Int) hj
   omega
 ·obtain⟨f,u,s1,s2,s3⟩:=w.slp s hs
  refine⟨f,u,s1,fun r hr=>?_,fun x hx=>?_⟩
  ·obtain⟨x,x1,x2,x3⟩:=s2 r hr
   exact⟨x,x1,x2,hin x r x1 x3⟩
  ·have:=s3 x hx
   have:=hmono f (x:Int) s1.f2
   omega
theorem W.slips (w:W hs sl L F t) {sl':List Slip} (h:∀ s∈sl',s∈sl∨∃ f u,SI s f u∧(∀ r∈s.Records,∃ x:Nat,x≤2∧r.At.House=(x:Int)∧r∈(L x).take (F x))∧∀ x,x<6→g6 s.Have x≤((cnt Zax ((L f).take (F f)) (x:Int):Nat):Int)):W hs sl' L F t:=
 ⟨w.hi,w.ep,w.own,w.hou,w.pub,w.kno,fun s hs=>by
  rcases h s hs with g|g
  ·exact w.slp s g
  ·exact g⟩
theorem W.later (w:W hs sl L F t) {t':Nat} (h:t≤t'):W hs sl L F t':=
 ⟨w.hi,fun i hi=>by have:=w.ep i hi;omega,by have:=w.own;omega,w.hou,w.pub,w.kno,w.slp⟩
theorem W.note (w:W hs sl L F t) {k:Nat} (hk:1000000<k) {i:Nat} (hi:i≤2) (ht:t≤40) (r:Record) (hr:Zf8 ⟨⟨(i:Int),((cnt Zax (L i) (i:Int):Nat):Int)⟩,r.Kind,r.Day,r.Known,r.Of,r.Text⟩=true):
  ∃ h' x,ZdP k (hs i) r=some (h',x,0)∧x.At.House=(i:Int)∧∃ L',W (up hs i h') sl (up L i L') (up F i (F i)) (t+1):=by
 have hl:=w.len hi
 obtain⟨h',g1,g2,g3,g4⟩:=(w.hi i hi).note hk (by omega) r hr
 refine⟨h',_,g1,rfl,_,w.upd hi g4 (by omega) (fun x hx=>?_) (fun x hx y hy hne e=>?_) (fun x hx=>?_) (fun j x hj hx=>?_) ?_ ?_⟩
 ·rw[List.take_append_of_le_length (w.hi i hi).firmle];exact hx
 ·rcases List.mem_append.1 hx with g|g
  ·exact w.pub y i hy hi (Ne.symm hne) x g e
  ·rw[List.mem_singleton.1 g]at e
   simp only at e
   omega
 ·rcases List.mem_append.1 hx with g|g
  ·exact w.hou i hi x g
  ·rw[List.mem_singleton.1 g];exact⟨i,hi,rfl⟩
 ·rw[g3]
  have:=w.kno i j x hi hj hx
  by_cases e:j=i
  ·subst e
   rw[if_pos rfl,List.take_append_of_le_length (w.hi j hj).firmle];exact this
  ·rw[if_neg e];exact this
 ·rw[Zdm,Zcg,Zfr]
  show _+(0+if (i:Int)=(i:Int) then 1 else 0)+t≤_
  rw[if_pos rfl];omega
 ·rw[g2];have:=w.ep i hi;omega
theorem W.restart (w:W hs sl L F t) {k:Nat} (hk:1000000<k) {i:Nat} (hi:i≤2) (ht:t≤40) (picks:List Int) (hp:picks.length≤4611686018427387904):
  ∃ h' m,Zct k (hs i) picks=some (h',0)∧F i≤m∧m≤(L i).length∧HI h' i ((L i).take m) m∧W (up hs i h') sl (up L i ((L i).take m)) (up F i m) (t+1):=by
 have he:=w.ep i hi
 obtain⟨h',m,m1,m2,m3,m4,m5,m6⟩:=(w.hi i hi).restart hk (by omega) picks hp
 refine⟨h',m,m3,m1,m2,m6,w.upd hi m6 (by omega) (fun x hx=>?_) (fun x hx y hy hne e=>?_) (fun x hx=>?_) (fun j x hj hx=>?_) ?_ ?_⟩
 ·rw[List.take_take,Nat.min_self]
  have e:(L i).take (F i)=((L i).take m).take (F i):=by rw[List.take_take,Nat.min_eq_left m1]
  rw[e]at hx
  exact List.mem_of_mem_take hx
 ·exact w.pub y i hy hi (Ne.symm hne) x (List.mem_of_mem_take hx) e
 ·exact w.hou i hi x (List.mem_of_mem_take hx)
 ·rw[m5,Zh3];split<;>omega
 ·have:=ZdO (Zfk Zax (w.vl hi) m) (w.vl hi) (i:Int) (fun r hr _=>List.mem_of_mem_take hr)
  omega
 ·omega
theorem W.firmSub (w:W hs sl L F t) {i:Nat} (hi:i≤2) {x:Nat}{r:Record} (hx:x≤2) (hr:r∈L i) (e:r.At.House=(x:Int)):r∈(up L i (L i) x).take (up F i (L i).length x):=by
 by_cases h:x=i
 ·subst h;rw[ZaY,ZaY,List.take_length];exact hr
 ·rw[Zdd _ _ h,Zdd _ _ h]
  exact w.pub x i hx hi (Ne.symm h) r hr e
theorem ZeM {b:List Record}{K:Vec 6 Int}{r:Record} (h:r∈Zdn b K):r∈b∧g6 K r.At.House.toNat≤r.At.No:=by
 unfold Zdn at h
 have:=List.mem_filter.1 (List.mem_of_mem_take h)
 exact⟨this.1,of_decide_eq_true this.2⟩
theorem W.offer (w:W hs sl L F t) {k:Nat} (hk:1000000<k) {i to:Nat} (hi:i≤2) (hto:to≤2) (hne:to≠i) (ht:t≤40):
  ∃ h',Za6 k (hs i) (to:Int)=some (h',⟨(i:Int),(to:Int),Zhs (L i),Zdn (bk Zax [] (L i)) (kr (hs i).Known to)⟩,0)∧h'.Known=(hs i).Known∧h'.Ledger=(hs i).Ledger∧W (up hs i h') sl (up L i (L i)) (up F i (L i).length) t∧
   (SI ⟨(i:Int),(to:Int),Zhs (L i),Zdn (bk Zax [] (L i)) (kr (hs i).Known to)⟩ i to∧(∀ r∈Zdn (bk Zax [] (L i)) (kr (hs i).Known to),∃ x:Nat,x≤2∧r.At.House=(x:Int)∧r∈(up L i (L i) x).take (up F i (L i).length x))∧∀ x,x<6→g6 (Zhs (L i)) x≤((cnt Zax ((up L i (L i) i).take (up F i (L i).length i)) (x:Int):Nat):Int)):=by
 have H:=w.hi i hi
 have hl:=w.len hi
 have hbi:=H.good.bi
 obtain⟨d,o1,o2⟩:=H.offer hk hto hne
 refine⟨_,o1,rfl,rfl,w.upd hi o2 (Nat.le_refl _) (fun x hx=>?_) (fun x hx y hy hne e=>w.pub y i hy hi (Ne.symm hne) x hx e) (w.hou i hi) (fun j x hj hx=>?_) (Nat.le_refl _) (w.ep i hi),⟨rfl,rfl,hi,hto,Ne.symm hne,fun x=>?_,?_,fun r hr=>?_⟩,fun r hr=>?_,fun x hx=>?_⟩
 ·rw[List.take_length];exact List.mem_of_mem_take hx
 ·have:=w.kno i j x hi hj hx
  by_cases e:j=i
  ·subst e
   rw[if_pos rfl,List.take_length]
   have:=ZdO (Zfk Zax (w.vl hj) (F j)) (w.vl hj) (x:Int) (fun r hr _=>List.mem_of_mem_take hr)
   simp only at *
   omega
  ·rw[if_neg e];exact this
 ·by_cases hx:x<6
  ·rw[Zhv _ hx]
   have:=ZkI (L i) (x:Int)
   omega
  ·rw[Zu8 _ (by omega)];omega
 ·show (Zdn _ _).length≤8
  unfold Zdn
  rw[List.length_take];omega
 ·exact H.good.ok r ((hbi.mem r).1 (ZeM hr).1)
 ·have hr':=(hbi.mem r).1 (ZeM hr).1
  obtain⟨x,hx,e⟩:=w.hou i hi r hr'
  exact⟨x,hx,e,w.firmSub hi hx hr' e⟩
 ·rw[Zhv _ hx,ZaY,ZaY,List.take_length]
  exact Int.le_refl _
theorem W.receive (w:W hs sl L F t) {k:Nat} (hk:1000000<k) {i f:Nat}{s:Slip} (S:SI s f i) (ht:t≤40) (hr:∀ r∈s.Records,∃ x:Nat,x≤2∧r.At.House=(x:Int)∧r∈(L x).take (F x))
  (hv:∀ x,x<6→g6 s.Have x≤((cnt Zax ((L f).take (F f)) (x:Int):Nat):Int)):
  ∃ h',Zal k (hs i) s=some (h',(if s.Records=[] then [] else [⟨(i:Int),(f:Int),Zhs (ZcI (L i) s.Records),[]⟩]),0)∧h'.Ledger.Epoch=(hs i).Ledger.Epoch∧
   (∀ j x,kn h'.Known j x=if j=f∧x<6 then max (kn (hs i).Known j x) (g6 s.Have x) else kn (hs i).Known j x)∧
   W (up hs i h') sl (up L i (ZcI (L i) s.Records)) (up F i (ZcI (L i) s.Records).length) t∧
   (SI ⟨(i:Int),(f:Int),Zhs (ZcI (L i) s.Records),[]⟩ i f∧∀ x,x<6→g6 (Zhs (ZcI (L i) s.Records)) x≤((cnt Zax ((up L i (ZcI (L i) s.Records) i).take (up F i (ZcI (L i) s.Records).length i)) (x:Int):Nat):Int)):=by
 have hi:=S.t2
 have H:=w.hi i hi
 have hl:=w.len hi
 have hT:∀ x,(x∈L i∨x∈s.Records)→∃ j,j≤2∧x∈L j:=fun x hx=>by
  rcases hx with hx|hx
  ·exact⟨i,hi,hx⟩
  ·obtain⟨y,y1,_,y3⟩:=hr x hx
   exact⟨y,y1,List.mem_of_mem_take y3⟩
 obtain⟨h',r1,r2,r3,r4⟩:=H.receive hk S (fun x y hx hy e=>by
  obtain⟨a,a1,a2⟩:=hT x hx
  obtain⟨b,b1,b2⟩:=hT y hy
  exact w.one a1 b1 a2 b2 e) (by omega)
 have hnew:∀ r∈ZcI (L i) s.Records,∀ x:Nat,x≤2→r.At.House=(x:Int)→r∈L i∨r∈(L x).take (F x):=fun r hrr x hx e=>by
  rcases ZfU _ _ r hrr with g|g
  ·exact .inl g
  ·obtain⟨y,y1,y2,y3⟩:=hr r g
   have:y=x:=by omega
   subst this
   exact .inr y3
 have hlen':=Znd s.Records (L i)
 have hS8:=S.len
 refine⟨h',r1,r3,r4,w.upd hi r2 (Nat.le_refl _) (fun x hx=>?_) (fun x hx y hy hne e=>?_) (fun x hx=>?_) (fun j x hj hx=>?_) ?_ ?_,⟨rfl,rfl,hi,S.f2,Ne.symm S.ne,fun x=>?_,by simp,by simp⟩,fun x hx=>?_⟩
 ·rw[List.take_length];exact ZfZ _ _ x (List.mem_of_mem_take hx)
 ·rcases hnew x hx y hy e with g|g
  ·exact w.pub y i hy hi (Ne.symm hne) x g e
  ·exact g
 ·rcases ZfU _ _ x hx with g|g
  ·exact w.hou i hi x g
  ·obtain⟨y,y1,y2,_⟩:=hr x g
   exact⟨y,y1,y2⟩
 ·rw[r4]
  have h1:=w.kno i j x hi hj hx
  have h2:((cnt Zax ((L j).take (F j)) (x:Int):Nat):Int)≤if j=i then ((cnt Zax ((ZcI (L i) s.Records).take (ZcI (L i) s.Records).length) (x:Int):Nat):Int) else ((cnt Zax ((L j).take (F j)) (x:Int):Nat):Int):=by
   by_cases e:j=i
   ·subst e
    rw[if_pos rfl,List.take_length]
    have:=ZdO (Zfk Zax (w.vl hj) (F j)) r2.good.vl (x:Int) (fun r hr _=>ZfZ _ _ r (List.mem_of_mem_take hr))
    omega
   ·rw[if_neg e];exact Int.le_refl _
  by_cases e:j=f
  ·subst e
   have h3:=hv x hx
   rw[if_pos ⟨rfl,hx⟩]
   omega
  ·rw[if_neg (fun c=>e c.1)]
   omega
 ·have:=ZdO r2.good.vl (w.vl hi) (i:Int) (fun r hr e=>by
   rcases hnew r hr i hi e with g|g
   ·exact g
   ·exact List.mem_of_mem_take g)
  omega
 ·rw[r3];exact w.ep i hi
 ·by_cases hx:x<6
  ·rw[Zhv _ hx]
   have:=ZkI (ZcI (L i) s.Records) (x:Int)
   have h1:(ZcI (L i) s.Records).length≤50:=r2.good.len
   omega
  ·rw[Zu8 _ (by omega)];omega
 ·rw[Zhv _ hx,ZaY,ZaY,List.take_length]
  exact Int.le_refl _
end
end Go.Abs
namespace Go.Abs
open Go Go.Proofs
set_option maxRecDepth 20000
set_option linter.unusedVariables false
set_option linter.unusedSimpArgs false
theorem ZqL (v:Vec 3 House) {i:Nat} (hi:i≤2) (x:House):h3 (v.set (i:Int) x)=up (h3 v) i x:=by
 funext j
 rw[ZiI v hi];rfl
def Ok (v:Vec 3 House) (sl:List Slip) (t:Nat):Prop:=sl.length≤2*t∧∃ L F,W (h3 v) sl L F t
theorem ZoR {k:Nat} (hk:1000000<k):∃ v,whl (Zar.b0 k) k ((Vec.rep 3 ((⟨0,(⟨[],[]⟩:Disk),(⟨(⟨[]⟩:Book),0,0,0⟩:Ledger),(Vec.rep 6 ((Vec.rep 6 (0:Int)):(Vec 6 Int)))⟩:House):House)),0)=some (.brk v)∧Ok v [] 0:=by
 obtain⟨m,rfl⟩:∃ m,k=m+4:=⟨k - 4,by omega⟩
 have step:∀ (i:Nat) (v:Vec 3 House),i≤2→∃ h,Zar.b0 (m+4) (v,(i:Int))=some (.next (v.set (i:Int) h,((i+1:Nat):Int)))∧HI h i [] 0∧h.Known=knZ∧h.Ledger.Epoch=1:=by
  intro i v hi
  obtain⟨h,g1,g2,g3,g4⟩:=Zmf (k:=m+4) hi
  have hw:w64 ((i:Int)+1)=((i+1:Nat):Int):=by rw[ZaD (by omega) (by omega)];omega
  refine⟨h,?_,g2,g3,g4⟩
  unfold Zar.b0
  simp only[decide_eq_true (show (i:Int)<3 by omega),cond_true,g1,Option.bind_some,decide_true,Bool.not_true,cond_false,Zlf v hi,hw]
 generalize (Vec.rep 3 ((⟨0,(⟨[],[]⟩:Disk),(⟨(⟨[]⟩:Book),0,0,0⟩:Ledger),(Vec.rep 6 ((Vec.rep 6 (0:Int)):(Vec 6 Int)))⟩:House):House))=v0
 obtain⟨a,a1,a2,a3,a4⟩:=step 0 v0 (by decide)
 obtain⟨b,b1,b2,b3,b4⟩:=step 1 (v0.set ((0:Nat):Int) a) (by decide)
 obtain⟨c,c1,c2,c3,c4⟩:=step 2 ((v0.set ((0:Nat):Int) a).set ((1:Nat):Int) b) (by decide)
 have e3:∀ v,Zar.b0 (m+4) (v,((3:Nat):Int))=some (.brk v):=fun v=>by unfold Zar.b0;rfl
 have a1':Zar.b0 (m+4) (v0,0)=some (.next (v0.set ((0:Nat):Int) a,((1:Nat):Int))):=a1
 have b1':Zar.b0 (m+4) (v0.set ((0:Nat):Int) a,((1:Nat):Int))=some (.next ((v0.set ((0:Nat):Int) a).set ((1:Nat):Int) b,((2:Nat):Int))):=b1
 have c1':Zar.b0 (m+4) ((v0.set ((0:Nat):Int) a).set ((1:Nat):Int) b,((2:Nat):Int))=some (.next (((v0.set ((0:Nat):Int) a).set ((1:Nat):Int) b).set ((2:Nat):Int) c,((3:Nat):Int))):=c1
 refine⟨((v0.set ((0:Nat):Int) a).set ((1:Nat):Int) b).set ((2:Nat):Int) c,by simp only[whl,a1',b1',c1',e3],by simp,fun _=>[],fun _=>0,?_⟩
 have h0:h3 (((v0.set ((0:Nat):Int) a).set ((1:Nat):Int) b).set ((2:Nat):Int) c) 0=a:=by rw[ZiI _ (by decide),if_neg (by decide),ZiI _ (by decide),if_neg (by decide),ZiI _ (by decide),if_pos rfl]
 have h1:h3 (((v0.set ((0:Nat):Int) a).set ((1:Nat):Int) b).set ((2:Nat):Int) c) 1=b:=by rw[ZiI _ (by decide),if_neg (by decide),ZiI _ (by decide),if_pos rfl]
 have h2:h3 (((v0.set ((0:Nat):Int) a).set ((1:Nat):Int) b).set ((2:Nat):Int) c) 2=c:=by rw[ZiI _ (by decide),if_pos rfl]
 have three:∀ i:Nat,i≤2→i=0∨i=1∨i=2:=fun i hi=>by omega
 refine⟨fun i hi=>?_,fun i hi=>?_,by decide,fun i hi r hr=>by simp at hr,fun i j hi hj hne r hr=>by simp at hr,fun q i x hq hi hx=>?_,by simp⟩
 ·rcases three i hi with rfl|rfl|rfl
  ·rw[h0];exact a2
  ·rw[h1];exact b2
  ·rw[h2];exact c2
 ·rcases three i hi with rfl|rfl|rfl
  ·rw[h0,a4];decide
  ·rw[h1,b4];decide
  ·rw[h2,c4];decide
 ·rcases three q hq with rfl|rfl|rfl
  ·rw[h0,a3,Zh3];omega
  ·rw[h1,b3,Zh3];omega
  ·rw[h2,c3,Zh3];omega
def txN:List ByteArray:=[ByteArray.empty,(⟨#[115,101,116]⟩:ByteArray),(⟨#[97,32,116,101,120,116,32,116,104,97,116,32,105,115,32,99,117,116,32,105,110,116,111,32,116,104,114,101,101,32,112,97,114,116,115,32,111,102,32,97,32,112,97,103,101,44,32,97,116,32,108,101,97,115,116]⟩:ByteArray)]
theorem Zvm {i:Int} (h0:0≤i) (h1:i<3):∃ s,at? txN i=some s∧Zm9 s=true:=by
 have:i=0∨i=1∨i=2:=by omega
 rcases this with rfl|rfl|rfl
 ·exact⟨_,rfl,by decide +kernel⟩
 ·exact⟨_,rfl,by decide +kernel⟩
 ·exact⟨_,rfl,by decide +kernel⟩
section
variable {k t:Nat}{v:Vec 3 House}{sl:List Slip}
theorem Ok.offer (h:Ok v sl t) (hk:1000000<k) (ht:t≤14) {me to:Nat} (hm:me≤2) (hto:to≤2) (hne:to≠me):
  ∃ h' s,Za6 k (h3 v me) (to:Int)=some (h',s,0)∧Ok (v.set (me:Int) h') (sl++[s]) (t+1):=by
 obtain⟨h0,L,F,w⟩:=h
 obtain⟨h',g1,_,_,g4,g5,g6,g7⟩:=w.offer hk hm hto hne (by omega)
 refine⟨h',_,g1,by simp;omega,up L me (L me),up F me (L me).length,?_⟩
 rw[ZqL v hm]
 refine W.later (W.slips g4 fun s hs=>?_) (by omega)
 rcases List.mem_append.1 hs with q|q
 ·exact .inl q
 ·rw[List.mem_singleton.1 q];exact .inr ⟨me,to,g5,g6,g7⟩
theorem Ok.receive (h:Ok v sl t) (hk:1000000<k) (ht:t≤14) {s:Slip} (hs:s∈sl):
  ∃ u:Nat,u≤2∧s.To=(u:Int)∧∃ h' back,Zal k (h3 v u) s=some (h',back,0)∧back.length≤1∧∀ sl':List Slip,(∀ x∈sl',x∈sl∨x∈back)→sl'.length≤sl.length+1→Ok (v.set (u:Int) h') sl' (t+1):=by
 obtain⟨h0,L,F,w⟩:=h
 obtain⟨f,u,S,s2,s3⟩:=w.slp s hs
 obtain⟨h',g1,g2,g3,g4,g5,g6⟩:=w.receive hk S (by omega) s2 s3
 refine⟨u,S.t2,S.to_,h',_,g1,by split<;>simp,fun sl' hx hl=>⟨by omega,up L u (ZcI (L u) s.Records),up F u (ZcI (L u) s.Records).length,?_⟩⟩
 rw[ZqL v S.t2]
 refine W.later (W.slips g4 fun x hxx=>?_) (by omega)
 rcases hx x hxx with q|q
 ·exact .inl q
 ·split at q
  ·cases q
  ·rw[List.mem_singleton.1 q]
   exact .inr ⟨u,f,g5,by simp,g6⟩
theorem Ok.restart (h:Ok v sl t) (hk:1000000<k) (ht:t≤14) {me:Nat} (hm:me≤2) (picks:List Int) (hp:picks.length≤4611686018427387904):
  ∃ h',Zct k (h3 v me) picks=some (h',0)∧Ok (v.set (me:Int) h') sl (t+1):=by
 obtain⟨h0,L,F,w⟩:=h
 obtain⟨h',m,g1,_,_,_,g2⟩:=w.restart hk hm (by omega) picks hp
 exact⟨h',g1,by omega,_,_,by rw[ZqL v hm];exact g2⟩
theorem Ok.note (h:Ok v sl t) (hk:1000000<k) (ht:t≤14) {me:Nat} (hm:me≤2) (r:Record) (hkd:1≤r.Kind∧r.Kind≤40) (hd:0≤r.Day∧r.Day≤100000) (hkn:0≤r.Known∧r.Known≤100000) (hof:r.Of=⟨0,0⟩) (htx:Zm9 r.Text=true):
  ∃ h' x,ZdP k (h3 v me) r=some (h',x,0)∧x.At.House=(me:Int)∧Ok (v.set (me:Int) h') sl (t+1):=by
 obtain⟨h0,L,F,w⟩:=h
 have hl:=w.len hm
 have hc:=ZkI (L me) (me:Int)
 obtain⟨h',x,g1,g2,L',g3⟩:=w.note hk hm (by omega) r (by
  unfold Zf8 ZgL
  simp only[Zd2 (show 0≤(me:Int)∧(me:Int)≤5 by omega),Zd2 (show 0≤((cnt Zax (L me) (me:Int):Nat):Int)∧((cnt Zax (L me) (me:Int):Nat):Int)≤9999 by omega),Zd2 (show 0≤r.Kind∧r.Kind≤40 by omega),Zd2 hd,Zd2 hkn,htx,decide_eq_false (show ¬ r.Kind=0 by omega),Bool.not_false,cond_true,hof,Bool.and_self,decide_true])
 exact⟨h',x,g1,g2,by omega,_,_,by rw[ZqL v hm];exact g3⟩
theorem ZgK (n:Int) {m:Nat} (hm:0<m):∃ q:Nat,q<m∧n % (m:Int)=(q:Int):=by
 have:=Ze1 n (m:=(m:Int)) (by omega)
 obtain⟨q,hq⟩:=Int.eq_ofNat_of_zero_le this.1
 exact⟨q,by omega,hq⟩
theorem Zpl (h:Ok v sl t) (hk:1000000<k) (ht:t≤14) (y:R09_Act) (i1:Int) (hne:¬ sl.length=0) (F:(Vec 3 House×Int×List Slip)→Option (Stp (Vec 3 House×Int×List Slip) (Vec 3 House×List Slip) (Vec 3 House×List Slip×Bool))) (hF:∀ s,F s=some (.next s)):
  ∃ v' sl',((Zco k y.To ((sl.length:Nat):Int)).bind fun x36=>
         (at? sl x36).bind fun x37=>
         bif (!decide (x37.To<(0:Int))) then
          bif decide ((2:Int)<x37.To) then
           some (.ret (v,[],false))
          else
           (v.at? x37.To).bind fun x40=>
           (Zal k x40 x37).bind fun x41=>
           bif (!decide (x41.2.2=(0:Int))) then
            some (.ret (v,[],false))
           else
            bif decide (Int.tmod y.House 2=(0:Int)) then
             (hs? sl.length x36).bind fun _=>
             (Zid x36.toNat 88).bind fun _=>
             (ls? sl.length (w64 (x36+1))).bind fun _=>
             (Zjw 88 (sl.take x36.toNat) ((sl.drop ((w64 (x36+1)).toNat)).take (sl.length - (w64 (x36+1)).toNat))).bind fun l48=>
             (Zjw 88 l48 x41.2.1).bind fun l49=>
             F (v.set x37.To x41.1,i1,l49)
            else
             (Zjw 88 sl x41.2.1).bind fun l50=>
             F (v.set x37.To x41.1,i1,l50)
         else
          some (.ret (v,[],false)))=some (.next (v',i1,sl'))∧Ok v' sl' (t+1):=by
 have hsl:=h.1
 obtain⟨q,q1,q2⟩:=ZgK y.To (m:=sl.length) (by omega)
 obtain⟨s,hs⟩:∃ s,sl[q]?=some s:=⟨_,gG q1⟩
 obtain⟨u,u1,u2,h',back,g1,g2,g3⟩:=h.receive hk ht (List.mem_of_getElem? hs)
 have hw:w64 ((q:Int)+1)=((q+1:Nat):Int):=by rw[ZaD (by omega) (by omega)];omega
 have hhs:hs? sl.length (q:Int)=some ():=by unfold hs?;rw[if_pos (by omega)]
 have hrm:Zid q 88=some ():=by unfold Zid;rw[if_pos ⟨by omega,by omega⟩]
 have hls:ls? sl.length ((q+1:Nat):Int)=some ():=by unfold ls?;rw[if_pos (by omega)]
 have hl1:(sl.take q).length=q:=by rw[List.length_take];omega
 have hl2:((sl.drop (q+1)).take (sl.length - (q+1))).length=sl.length - (q+1):=by rw[List.length_take,List.length_drop];omega
 rw[Zc8 k y.To (m:=((sl.length:Nat):Int)) (by omega) (by omega),q2]
 simp only[Option.bind_some,Zc6 hs,u2,decide_eq_false (show ¬ (u:Int)<0 by omega),Bool.not_false,cond_true,decide_eq_false (show ¬ (2:Int)<(u:Int) by omega),cond_false,Zlf v u1,g1,decide_true,Bool.not_true]
 by_cases he:Int.tmod y.House 2=0
 ·simp only[decide_eq_true he,cond_true,hhs,Int.toNat_natCast,hrm,hw,hls,Option.bind_some]
  rw[Zk9 (by rw[hl1,hl2];omega) (by rw[hl1,hl2];omega)]
  simp only[Option.bind_some]
  rw[Zk9 (by rw[List.length_append,hl1,hl2];omega) (by rw[List.length_append,hl1,hl2];omega)]
  simp only[Option.bind_some,hF]
  refine⟨_,_,rfl,g3 _ (fun x hx=>?_) ?_⟩
  ·rcases List.mem_append.1 hx with a|a
   ·left
    rcases List.mem_append.1 a with b|b
    ·exact List.mem_of_mem_take b
    ·exact List.mem_of_mem_drop (List.mem_of_mem_take b)
   ·exact .inr a
  ·rw[List.length_append,List.length_append,hl1,hl2];omega
 ·simp only[decide_eq_false he,cond_false]
  rw[Zk9 (by omega) (by omega)]
  simp only[Option.bind_some,hF]
  exact⟨_,_,rfl,g3 _ (fun x hx=>List.mem_append.1 hx) (by rw[List.length_append];omega)⟩
theorem Zqh (h:Ok v sl t) (hk:1000000<k) {l:List R09_Act}{y:R09_Act} (hy:l[t]?=some y) (ht:t<14) (hp:y.Picks.length≤4611686018427387904):
  ∃ v' sl',Zar.b1 k l (v,(t:Int),sl)=some (.next (v',((t+1:Nat):Int),sl'))∧Ok v' sl' (t+1):=by
 have hi:=(gS.1 hy).1
 have hsl:=h.1
 have hw:w64 ((t:Int)+1)=((t+1:Nat):Int):=by rw[ZaD (by omega) (by omega)];omega
 obtain⟨me,m1,m2⟩:=ZgK y.House (m:=3) (by decide)
 obtain⟨kd,k1,k2⟩:=ZgK y.Kind (m:=8) (by decide)
 obtain⟨to2,t1,t2⟩:=ZgK y.To (m:=2) (by decide)
 have m2':y.House % 3=(me:Int):=m2
 have k2':y.Kind % 8=(kd:Int):=k2
 have t2':y.To % 2=(to2:Int):=t2
 have hto:Int.tmod (w64 ((w64 ((me:Int)+1))+(to2:Int))) 3=(((me+1+to2) % 3:Nat):Int):=by
  rw[ZaD (n:=(me:Int)+1) (by omega) (by omega),ZaD (by omega) (by omega)]
  rw[show (me:Int)+1+(to2:Int)=((me+1+to2:Nat):Int) by omega,show (3:Int)=((3:Nat):Int) from rfl,←Int.ofNat_tmod]
 obtain⟨ho,s,o1,o2⟩:=h.offer hk (by omega) (me:=me) (to:=(me+1+to2) % 3) (by omega) (by omega) (by omega)
 obtain⟨hr,r1,r2⟩:=h.restart hk (by omega) (me:=me) (by omega) y.Picks hp
 have hpush:Zfj 88 sl s=some (sl++[s]):=ZiG (by omega) (by omega)
 have recv:=fun(hne:¬ sl.length=0)=>Zpl (k:=k) h hk (by omega) y ((t+1:Nat):Int) hne (fun s=>some (.next s)) (fun _=>rfl)
 obtain⟨a0,b0,c0,d0,e0,hrec⟩:=Zwv y.Record
 have R1:y.Record.at? 1=some b0:=by rw[hrec];rfl
 have R2:y.Record.at? 2=some c0:=by rw[hrec];rfl
 have R3:y.Record.at? 3=some d0:=by rw[hrec];rfl
 have R4:y.Record.at? 4=some e0:=by rw[hrec];rfl
 have B40:=Ze1 b0 (m:=40) (by decide)
 have B50:=Ze1 c0 (m:=50) (by decide)
 have B51:=Ze1 d0 (m:=50) (by decide)
 have B3:=Ze1 e0 (m:=3) (by decide)
 obtain⟨tx,x1,x2⟩:=Zvm B3.1 B3.2
 have w40:w64 (1+b0 % 40)=1+b0 % 40:=ZaD (by omega) (by omega)
 obtain⟨hn,xr,n1,n2,n3⟩:=h.note hk (by omega) (me:=me) (by omega) ⟨⟨0,0⟩,1+b0 % 40,c0 % 50,d0 % 50,⟨0,0⟩,tx⟩ (by simp only;omega) (by simp only;omega) (by simp only;omega) rfl x2
 unfold txN at x1
 unfold Zar.b1
 simp only[decide_eq_true (show (t:Int)<(l.length:Int) by omega),cond_true,decide_eq_true (show (t:Int)<14 by omega),Zc6 hy,Option.bind_some,Zc8 k y.House (m:=3) (by decide) (by decide),Zc8 k y.Kind (m:=8) (by decide) (by decide),m2',k2',hw]
 by_cases c3:kd=3
 ·simp only[decide_eq_true (show (kd:Int)=3 by omega),cond_true,Zlf v (show me≤2 by omega),Option.bind_some,Zc8 k y.To (m:=2) (by decide) (by decide),t2',hto,o1,decide_true,Bool.not_true,cond_false,hpush]
  exact⟨_,_,rfl,o2⟩
 simp only[decide_eq_false (show ¬ (kd:Int)=3 by omega),cond_false]
 by_cases c4:kd=4
 ·simp only[decide_eq_true (show (kd:Int)=4 by omega),cond_true,Zlf v (show me≤2 by omega),Option.bind_some,Zc8 k y.To (m:=2) (by decide) (by decide),t2',hto,o1,decide_true,Bool.not_true,cond_false,hpush]
  exact⟨_,_,rfl,o2⟩
 simp only[decide_eq_false (show ¬ (kd:Int)=4 by omega),cond_false]
 have skip:Ok v sl (t+1):=by
  obtain⟨_,L,F,w⟩:=h
  exact⟨by omega,L,F,w.later (by omega)⟩
 by_cases c5:kd=5
 ·simp only[decide_eq_true (show (kd:Int)=5 by omega),cond_true]
  by_cases hz:sl.length=0
  ·simp only[decide_eq_true (show ((sl.length:Nat):Int)=0 by omega),cond_true]
   exact⟨_,_,rfl,skip⟩
  ·simp only[decide_eq_false (show ¬ ((sl.length:Nat):Int)=0 by omega),cond_false]
   exact recv hz
 simp only[decide_eq_false (show ¬ (kd:Int)=5 by omega),cond_false]
 by_cases c6:kd=6
 ·simp only[decide_eq_true (show (kd:Int)=6 by omega),cond_true]
  by_cases hz:sl.length=0
  ·simp only[decide_eq_true (show ((sl.length:Nat):Int)=0 by omega),cond_true]
   exact⟨_,_,rfl,skip⟩
  ·simp only[decide_eq_false (show ¬ ((sl.length:Nat):Int)=0 by omega),cond_false]
   exact recv hz
 simp only[decide_eq_false (show ¬ (kd:Int)=6 by omega),cond_false]
 by_cases c7:kd=7
 ·simp only[decide_eq_true (show (kd:Int)=7 by omega),cond_true,Zlf v (show me≤2 by omega),Option.bind_some,r1,decide_true,Bool.not_true,cond_false]
  exact⟨_,_,rfl,r2⟩
 simp only[decide_eq_false (show ¬ (kd:Int)=7 by omega),cond_false,Zlf v (show me≤2 by omega),R1,R2,R3,R4,Option.bind_some,Zc8 k b0 (m:=40) (by decide) (by decide),Zc8 k c0 (m:=50) (by decide) (by decide),Zc8 k d0 (m:=50) (by decide) (by decide),Zc8 k e0 (m:=3) (by decide) (by decide),x1,w40,n1,decide_true,cond_true,n2,Bool.not_true]
 exact⟨_,_,rfl,n3⟩
end
theorem Zlj {k:Nat} (hk:1000000<k) (l:List R09_Act) (hp:∀ y∈l,y.Picks.length≤4611686018427387904):∃ v sl t,Zar k l=some (v,sl,true)∧t≤14∧Ok v sl t:=by
 obtain⟨v0,n1,n2⟩:=ZoR hk
 have key:∀ (n t m:Nat) (v:Vec 3 House) (sl:List Slip),t+n=min 14 l.length→n<m→Ok v sl t→∃ v' sl',whl (Zar.b1 k l) m (v,(t:Int),sl)=some (.brk (v',sl'))∧Ok v' sl' (t+n):=by
  intro n
  induction n with
  |zero=>
   intro t m v sl h1 h2 h
   obtain⟨m,rfl⟩:∃ q,m=q+1:=⟨m - 1,by omega⟩
   have hb:Zar.b1 k l (v,(t:Int),sl)=some (.brk (v,sl)):=by
    unfold Zar.b1
    by_cases hl:(t:Int)<(l.length:Int)
    ·simp only[decide_eq_true hl,cond_true,decide_eq_false (show ¬ (t:Int)<14 by omega),cond_false]
    ·simp only[decide_eq_false hl,cond_false]
   exact⟨v,sl,by simp only[whl,hb],h⟩
  |succ n ih=>
   intro t m v sl h1 h2 h
   obtain⟨m,rfl⟩:∃ q,m=q+1:=⟨m - 1,by omega⟩
   obtain⟨y,hy⟩:∃ y,l[t]?=some y:=⟨_,gG (by omega)⟩
   obtain⟨v1,sl1,g1,g2⟩:=Zqh h hk hy (by omega) (hp y (List.mem_of_getElem? hy))
   obtain⟨v',sl',k1,k2⟩:=ih (t+1) m v1 sl1 (by omega) (by omega) g2
   exact⟨v',sl',by simp only[whl,g1,k1],by rw[show t+(n+1)=t+1+n by omega];exact k2⟩
 obtain⟨v',sl',k1,k2⟩:=key (min 14 l.length) 0 k v0 [] (by omega) (by omega) n2
 rw[Int.natCast_zero]at k1
 refine⟨v',sl',_,?_,by omega,k2⟩
 unfold Zar
 rw[n1]
 simp only[Option.bind_some,k1]
end Go.Abs
