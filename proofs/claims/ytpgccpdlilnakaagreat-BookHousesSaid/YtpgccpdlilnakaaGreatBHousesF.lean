/-
  Part 6 of the proof: a machine over named blocks, what each function computes, and what follows. No condition.
-/
import Derived.Test.YtpgccpdlilnakaaGreatBHousesE
set_option linter.unusedVariables false
set_option linter.unusedSimpArgs false
set_option linter.all false
set_option maxRecDepth 100000
set_option maxHeartbeats 8000000
noncomputable section
namespace Go.Abs
open Go.Proofs
def F4.c:SC:=
 SQ [RG [wE 3 60 1 [1],wB 4 false 4 [4]],RG [wC 42 5 #[] #[] 4,wG 5 42 4 [42]],RG [wV 44 0 54 [0],wU 45 15 44 54 66 [44],wV 43 45 66 [45],wX 46 43 0 64,wX 47 43 1 65 [43],wA 6 64,wS 64 6 46 [46],wG 7 47 65 [47]],RG [wF 48 60 3 0,wD 49 3 48 [48],wC 50 16 #[.tmp 49,.const (.int .i64 3)] #[3,3] 3 [49],wI 51 64 6 50 [6,50],wD 52 63 51 [51],wA 8 63,wS 63 8 52 [52]],SQ [RG [wF 53 60 3 5,wD 54 3 53 [53],
 wC 55 16 #[.tmp 54,.const (.int .i64 10)] #[3,3] 3 [54]],.mark (.block 0 (SQ [RG [wK 57 .eql 3 55 0 3 4,wG 56 57 4 [57]],CN 56 (RG [wF 58 63 8 0,wD 59 3 58 [58],wF 60 60 3 6,wD 61 3 60 [60],wO 62 .add 3 59 61 3 3 [59,61],wF 63 63 8 0,wS 3 63 62 [62,63]]) (SQ [RG [wK 65 .eql 3 55 1 3 4,wG 64 65 4 [65]],CN 64 (.aS [wF 66 60 3 6,wD 67 3 66,wC 68 16 #[.tmp 67,.const (.int .i64 6)] #[3,3] 3,
 wF 69 60 3 1,wD 70 3 69,wC 71 16 #[.tmp 70,.const (.int .i64 6)] #[3,3] 3,wF 72 60 3 6,wD 73 3 72,wF 74 63 8 3,wI 75 61 74 68,wI 76 55 75 71,wS 3 76 73] [[],[0],[0,1],[],[3],[3,4,0,1,2],[],[6],[],[8,0,1,2],[8,0,1,2,9,3,4,5,6,7],[8,0,1,2,9,3,4,5,6,7,10]] [66,67,68,69,70,71,72,73,74,75,76]) (SQ [RG [wK 78 .eql 3 55 2 3 4,wG 77 78 4 [78]],CN 77 (RG [wF 79 63 8 2,wF 80 42 79 3 [79],wD 81 3 80 [80],
 wF 82 60 3 6,wD 83 3 82 [82],wO 84 .add 3 81 83 3 3 [81,83],wF 85 63 8 2,wF 86 42 85 3 [85],wS 3 86 84 [84,86]]) (SQ [RG [wK 88 .eql 3 55 3 3 4 [55],wG 87 88 4 [88]],CN 87 (SQ [RG [wV 89 7 65,wL 90 89 65 3 [89],wK 91 .gtr 3 90 0 3 4 [90]],CN 91 (RG [wV 92 7 65,wF 93 60 3 6,wD 94 3 93 [93],wV 95 7 65 [7],wL 96 95 65 3 [95],wW 97 16 94 96 3 3 3 [94,96],wI 98 65 92 97 [92,97],wD 99 57 98 [98],
 wF 100 60 3 3,wS 57 100 99 [99,100]]) .skip]) .skip])])])]))],RG [wF 102 60 3 1,wD 103 3 102 [102],wU 104 17 103 3 69 [103],wV 101 104 69 [104],wX 105 101 0 63,wX 106 101 1 45 [101],wA 9 63,wS 63 9 105 [105],wG 10 106 45 [106]],RG [wF 108 60 3 1,wD 109 3 108 [108],wU 110 18 109 3 69 [109],wV 107 110 69 [110],wX 111 107 0 63,wX 112 107 1 45 [107],wA 11 63,wS 63 11 111 [111],wG 12 112 45 [112]],
 RG [wD 114 63 8,wF 115 60 3 2,wD 116 29 115 [115],wW 117 19 114 116 63 29 71 [114,116],wV 113 117 71 [117],wX 118 113 0 63,wX 119 113 1 29,wX 120 113 2 45 [113],wA 13 63,wA 14 29,wS 63 13 118 [118],wS 29 14 119 [119],wG 15 120 45 [120]],RG [wD 122 63 8,wF 123 60 3 2,wD 124 29 123 [123],wW 125 20 122 124 63 29 71 [122,124],wV 121 125 71 [125],wX 126 121 0 63,wX 127 121 1 29,wX 128 121 2 45 [121],
 wA 16 63,wA 17 29,wS 63 16 126 [126],wS 29 17 127 [127],wG 18 128 45 [128]],RG [wD 130 63 8,wF 131 60 3 1,wD 132 3 131 [131],wW 133 21 130 132 63 3 73 [130,132],wV 129 133 73 [133],wX 134 129 0 63,wX 135 129 1 57,wX 136 129 2 45 [129],wA 19 63,wA 20 57,wS 63 19 134 [134],wS 57 20 135 [135],wG 21 136 45 [136]],RG [wD 138 63 8,wF 139 60 3 1,wD 140 3 139 [139],wW 141 22 138 140 63 3 73 [138,140],
 wV 137 141 73 [141],wX 142 137 0 63,wX 143 137 1 57,wX 144 137 2 45 [137],wA 22 63,wA 23 57,wS 63 22 142 [142],wS 57 23 143 [143],wG 24 144 45 [144]],RG [wD 146 63 8,wF 147 60 3 3,wD 148 57 147 [147],wW 149 23 146 148 63 57 75 [146,148],wV 145 149 75 [149],wX 150 145 0 63,wX 151 145 1 65,wX 152 145 2 45 [145],wA 25 63,wS 63 25 150 [150],wG 26 151 65 [151],wG 27 152 45 [152]],RG [wD 154 63 8,
 wF 155 60 3 3,wD 156 57 155 [155],wW 157 24 154 156 63 57 75 [154,156],wV 153 157 75 [157],wX 158 153 0 63,wX 159 153 1 65,wX 160 153 2 45 [153],wA 28 63,wS 63 28 158 [158],wG 29 159 65 [159],wG 30 160 45 [160]],RG [wD 162 63 8,wF 163 60 3 4,wD 164 58 163 [163],wW 165 25 162 164 63 58 69 [162,164],wV 161 165 69 [165],wX 166 161 0 63,wX 167 161 1 45 [161],wA 31 63,wS 63 31 166 [166],
 wG 32 167 45 [167]],RG [wD 169 63 8 [8],wF 170 60 3 4 [3],wD 171 58 170 [170],wW 172 26 169 171 63 58 69 [169,171],wV 168 172 69 [172],wX 173 168 0 63,wX 174 168 1 45 [168],wA 33 63,wS 63 33 173 [173],wG 34 174 45 [174]],RG [wD 175 63 9 [9],wD 176 63 11 [11],wW 177 27 175 176 63 63 4 [175,176],wG 35 177 4 [177]],RG [wD 178 63 13 [13],wD 179 63 16 [16],wW 180 27 178 179 63 63 4 [178,179],
 wG 36 180 4 [180]],RG [wD 181 63 19 [19],wD 182 63 22 [22],wW 183 27 181 182 63 63 4 [181,182],wG 37 183 4 [183]],RG [wD 184 63 25 [25],wD 185 63 28 [28],wW 186 27 184 185 63 63 4 [184,185],wG 38 186 4 [186]],RG [wD 187 63 31 [31],wD 188 63 33 [33],wW 189 27 187 188 63 63 4 [187,188],wG 39 189 4 [189]],RG [wD 190 57 20 [20],wD 191 57 23 [23],wW 192 28 190 191 57 57 4 [190,191],wG 40 192 4 [192]],
 RG [wV 193 26 65 [26],wV 194 29 65 [29],wW 195 29 193 194 65 65 4 [193,194],wG 41 195 4 [195]],RG [wV 196 5 4 [5],wV 197 196 4 [196],gd 197 true (wV 198 35 4 [35]),wZ 199 197 198 4 [197,198],wV 200 199 4 [199],gd 200 true (wV 201 10 45 [10]),gd 200 true (wV 202 12 45 [12]),gd 200 true (wO 203 .eql 45 201 202 45 4 [201,202]),wZ 204 200 203 4 [200,203],wV 205 204 4 [204],
 gd 205 true (wV 206 36 4 [36]),wZ 207 205 206 4 [205,206],wV 208 207 4 [207],gd 208 true (wD 209 29 14 [14]),gd 208 true (wD 210 29 17 [17]),gd 208 true (wO 211 .eql 29 209 210 29 4 [209,210]),wZ 212 208 211 4 [208,211],wV 213 212 4 [212],gd 213 true (wV 214 15 45 [15]),gd 213 true (wV 215 18 45 [18]),gd 213 true (wO 216 .eql 45 214 215 45 4 [214,215]),wZ 217 213 216 4 [213,216],
 wV 218 217 4 [217],gd 218 true (wV 219 37 4 [37]),wZ 220 218 219 4 [218,219],wV 221 220 4 [220],gd 221 true (wV 222 40 4 [40]),wZ 223 221 222 4 [221,222],wV 224 223 4 [223],gd 224 true (wV 225 21 45 [21]),gd 224 true (wV 226 24 45 [24]),gd 224 true (wO 227 .eql 45 225 226 45 4 [225,226]),wZ 228 224 227 4 [224,227],wV 229 228 4 [228],gd 229 true (wV 230 38 4 [38]),wZ 231 229 230 4 [229,230],
 wV 232 231 4 [231],gd 232 true (wV 233 41 4 [41]),wZ 234 232 233 4 [232,233],wV 235 234 4 [234],gd 235 true (wV 236 27 45 [27]),gd 235 true (wV 237 30 45 [30]),gd 235 true (wO 238 .eql 45 236 237 45 4 [236,237]),wZ 239 235 238 4 [235,238],wV 240 239 4 [239],gd 240 true (wV 241 39 4 [39]),wZ 242 240 241 4 [240,241],wV 243 242 4 [242],gd 243 true (wV 244 32 45 [32]),gd 243 true (wV 245 34 45 [34]),
 gd 243 true (wO 246 .eql 45 244 245 45 4 [244,245]),wZ 247 243 246 4 [243,246],wG 4 247 4 [247]],.ret]
def Cw.j0 (k:Nat) (x1:Ct) (x3:(Aa 3 Ac)×(List Av)) (x5:Ac) (x6:Int):Option (AN (Unit) (Ct×Ac) (Bool)):=
 bif decide (x6=(0:Int)) then
  some (.brk (x1,(⟨ab (x5.Me+x1.By),x5.Ad,x5.Ai,x5.Ap⟩:Ac)))
 else
  bif decide (x6=(1:Int)) then
   (Cc k x1.By 6).bind fun bN=>
   (Cc k x1.To 6).bind fun dA=>
   (x5.Ap.at? bN).bind fun bx=>
   (bx.at? dA).bind fun bR=>
   some (.brk (x1,(⟨x5.Me,x5.Ad,x5.Ai,x5.Ap.set bN (bx.set dA x1.By)⟩:Ac)))
  else
   bif decide (x6=(2:Int)) then
    some (.brk (x1,(⟨x5.Me,x5.Ad,(⟨x5.Ai.Ak,x5.Ai.AS,x5.Ai.Aq,ab (x5.Ai.Used+x1.By)⟩:Ai),x5.Ap⟩:Ac)))
   else
    bif decide (x6=(3:Int)) then
     bif decide ((0:Int)<(x3.2.length:Int)) then
      (Cc k x1.By (x3.2.length:Int)).bind fun jw=>
      (at? x3.2 jw).bind fun cT=>
      some (.brk ((⟨x1.Ac,x1.To,x1.Ab,cT,x1.Cx,x1.Dj,x1.By⟩:Ct),x5))
     else
      some (.brk (x1,x5))
    else
     some (.brk (x1,x5))
def Cw.y0 (x2:Bool):(Ct×Ac)->St:=fun s=>match s with
 |(s7,s8)=>⟨[(3,.ptr 0 0 0),(5,.bool x2),(8,.ptr 0 1 0)],[(0,.box ([.int .i64 s7.Ac,.int .i64 s7.To,.int .i64 s7.Ab.At.Ac,.int .i64 s7.Ab.At.No,.int .i64 s7.Ab.Kind,.int .i64 s7.Ab.Day,.int .i64 s7.Ab.Ap,.int .i64 s7.Ab.Of.Ac,.int .i64 s7.Ab.Of.No,.str s7.Ab.Text,.int .i64 s7.Av.Bs,.int .i64 s7.Av.To]++(Aa.c (n:=6) eI s7.Av.Have++([.sl 8 (List.map Ab.c s7.Av.Ah),.sl 1 (List.map eI s7.Cx),.int .i64 s7.Dj,.int .i64 s7.By])))),(1,.box ([.int .i64 s8.Me,.sl 64 (List.map (Aa.c (n:=2) (Aa.c (n:=32) ae)) s8.Ad.Aj),.sl 65 (List.map As.c s8.Ad.Af),.sl 8 (List.map Ab.c s8.Ai.Ak.Ah),.int .i64 s8.Ai.AS,.int .i64 s8.Ai.Aq,.int .i64 s8.Ai.Used]++(Aa.c (n:=6) (Aa.c (n:=6) eI) s8.Ap)))],[],2,Tryz.f4.ntmps⟩
def Cw (k:Nat) (l0:(List BE)) (x1:Ct):Option (Bool):=
 (FA k).bind fun x2=>
 (Bp k l0).bind fun x3=>
 (Cc k x1.Ac 3).bind fun x4=>
 (x3.1.at? x4).bind fun x5=>
 (Cc k x1.Dj 10).bind fun x6=>
 (Cw.j0 k x1 x3 x5 x6).bind fun oI=>match oI with
 |.next _=>none
 |.ret v_=>some v_
 |.brk (s7,s8)=>
  (rY k s7.To).bind fun iX=>
  (DL k s7.To).bind fun bE=>
  (oU k s8 s7.Ab).bind fun fu=>
  (Dh k s8 s7.Ab).bind fun cJ=>
  (eF k s8 s7.To).bind fun la=>
  (BK k s8 s7.To).bind fun kg=>
  (bA k s8 s7.Av).bind fun mZ=>
  (Bi k s8 s7.Av).bind fun kj=>
  (nT k s8 s7.Cx).bind fun rJ=>
  (Ds k s8 s7.Cx).bind fun m7=>
  (CT k iX.1 bE.1).bind fun fv=>
  (CT k fu.1 cJ.1).bind fun yd=>
  (CT k la.1 kg.1).bind fun tX=>
  (CT k mZ.1 kj.1).bind fun rK=>
  (CT k rJ.1 m7.1).bind fun yf=>
  (DZ k la.2.1 kg.2.1).bind fun x37=>
  (Ck k mZ.2.1 kj.2.1).bind fun rL=>
  bif x2 then
   bif fv then
    bif decide (iX.2=bE.2) then
     bif yd then
      bif (decide (fu.2.1.At.Ac=cJ.2.1.At.Ac)&&(decide (fu.2.1.At.No=cJ.2.1.At.No)&&(decide (fu.2.1.Kind=cJ.2.1.Kind)&&(decide (fu.2.1.Day=cJ.2.1.Day)&&(decide (fu.2.1.Ap=cJ.2.1.Ap)&&(decide (fu.2.1.Of.Ac=cJ.2.1.Of.Ac)&&(decide (fu.2.1.Of.No=cJ.2.1.Of.No)&&(fu.2.1.Text.toList==cJ.2.1.Text.toList)))))))) then
       bif decide (fu.2.2=cJ.2.2) then
        bif tX then
         bif x37 then
          bif decide (la.2.2=kg.2.2) then
           bif rK then
            bif rL then
             bif decide (mZ.2.2=kj.2.2) then
              bif yf then
               some (decide (rJ.2=m7.2))
              else
               some false
             else
              some false
            else
             some false
           else
            some false
          else
           some false
         else
          some false
        else
         some false
       else
        some false
      else
       some false
     else
      some false
    else
     some false
   else
    some false
  else
   some false
theorem I4 (k:Nat) (l0:(List BE)) (x1:Ct) (r:Bool) (h0:Cw k l0 x1=some r):Ay Tryz.prog 4 [.sl 9 (List.map BE.c l0),.agg (Ct.c x1)] (fun y=>y=.bool r):=by
 refine PB Tryz.f4 F4.c [.tmp 4] ?_
 simp only[Cw]at h0
 try simp only[F4.c,go_sem]
 refine aj h0 (I5 k) ?_ (fun x2 h0=>?_)<;>try simp only[go_sem]
 refine aj h0 (Je k _) ?_ (fun x3 h0=>?_)<;>try simp only[go_sem]
 refine aj h0 (Cv k _ _) ?_ (fun x4 h0=>?_)<;>try simp only[go_sem]
 obtain⟨x5,cn,h0⟩:=bs h0
 have tL:=Ao.bh abd (Ao.self abe x3.1) cn
 have oN:=tL.2
 try simp only[AA,AB,go_sem]at oN
 have F:=an (aq cn) oN
 try simp only[F,go_sem]
 refine aj h0 (Cv k _ _) ?_ (fun x6 h0=>?_)<;>try simp only[F,go_sem]
 obtain⟨oI,vI,h0⟩:=bs h0
 refine Iz vI (Cw.y0 x2) ?_ ?_
 intro Ba h1 ax bg
 refine rS ?_
 simp only[Cw.j0]at h1
 try simp only[F,go_sem]
 refine AF F h1 ?_ ?_<;>intro F h1<;>try simp only[F,go_sem]
 refine Ax (ax _ _ (oi h1).symm (Al.go [3,5,8] [0,272] rfl ?_))
 try simp only[Cw.y0,F,go_sem]
 refine AF F h1 ?_ ?_<;>intro F h1<;>try simp only[F,go_sem]
 refine AL AE aO 1000 ?_
 try simp only[F,go_sem]
 refine bJ h1 (Cv k _ _) ?_ (fun bN h1=>?_)<;>try simp only[F,go_sem]
 refine bJ h1 (Cv k _ _) ?_ (fun dA h1=>?_)<;>try simp only[F,go_sem]
 obtain⟨bx,iv,h1⟩:=bs h1
 have pY:=Ao.bh vL (Ao.skip (Ao.self yo x5.Ap) ([.int .i64 x5.Me,.sl 64 (List.map (Aa.c (n:=2) (Aa.c (n:=32) ae)) x5.Ad.Aj),.sl 65 (List.map As.c x5.Ad.Af),.sl 8 (List.map Ab.c x5.Ai.Ak.Ah),.int .i64 x5.Ai.AS,.int .i64 x5.Ai.Aq,.int .i64 x5.Ai.Used]:List AV)) iv
 have tP:=pY.2
 try simp only[AA,AB,go_sem]at tP
 have F:=an (aq iv) (an tP F)
 try simp only[F,go_sem]
 obtain⟨bR,ml,h1⟩:=bs h1
 have acX:=Ao.bh fg pY.1 ml
 have aaR:=acX.2
 try simp only[go_sem]at aaR
 have q15:=acX.1.ow x1.By
 try simp only[AA,AB,go_sem]at q15
 have F:=an (aq ml) (an aaR F)
 try simp only[q15,F,go_sem]
 refine aG ?_
 try simp only[F,go_sem]
 refine Ax (ax _ _ (oi h1).symm (Al.go [3,5,8] [0,272] rfl ?_))
 try simp only[Cw.y0,F,go_sem]
 refine AF F h1 ?_ ?_<;>intro F h1<;>try simp only[F,go_sem]
 refine Ax (ax _ _ (oi h1).symm (Al.go [3,5,8] [0,272] rfl ?_))
 try simp only[Cw.y0,F,go_sem]
 refine AF F h1 ?_ ?_<;>intro F h1<;>try simp only[F,go_sem]
 refine AF F h1 ?_ ?_<;>intro F h1<;>try simp only[F,go_sem]
 refine aj h1 (Cv k _ _) ?_ (fun jw h1=>?_)<;>try simp only[F,go_sem]
 obtain⟨cT,bW,h1⟩:=bs h1
 have F:=an (aI bW) (an (aH Av.c bW) F)
 try simp only[F,go_sem]
 refine Ax (ax _ _ (oi h1).symm (Al.go [3,5,8] [0,272] rfl ?_))
 try simp only[Cw.y0,F,go_sem]
 refine Ax (ax _ _ (oi h1).symm (Al.go [3,5,8] [0,272] rfl ?_))
 try simp only[Cw.y0,F,go_sem]
 refine Ax (ax _ _ (oi h1).symm (Al.go [3,5,8] [0,272] rfl ?_))
 try simp only[Cw.y0,F,go_sem]
 rintro⟨s7,s8⟩ aA
 subst aA
 simp only at h0
 refine rS ?_
 try simp only[Cw.y0,F,go_sem]
 refine aj h0 (amv k _) ?_ (fun iX h0=>?_)<;>try simp only[F,go_sem]
 refine aj h0 (Ic k _) ?_ (fun bE h0=>?_)<;>try simp only[F,go_sem]
 refine aj h0 (amw k _ _) ?_ (fun fu h0=>?_)<;>try simp only[F,go_sem]
 refine aj h0 (FY k _ _) ?_ (fun cJ h0=>?_)<;>try simp only[F,go_sem]
 refine aj h0 (amx k _ _) ?_ (fun la h0=>?_)<;>try simp only[F,go_sem]
 refine aj h0 (FZ k _ _) ?_ (fun kg h0=>?_)<;>try simp only[F,go_sem]
 refine aj h0 (amy k _ _) ?_ (fun mZ h0=>?_)<;>try simp only[F,go_sem]
 refine aj h0 (F0 k _ _) ?_ (fun kj h0=>?_)<;>try simp only[F,go_sem]
 refine aj h0 (amz k _ _) ?_ (fun rJ h0=>?_)<;>try simp only[F,go_sem]
 refine aj h0 (Ie k _ _) ?_ (fun m7 h0=>?_)<;>try simp only[F,go_sem]
 refine aj h0 (Fe k _ _) ?_ (fun fv h0=>?_)<;>try simp only[F,go_sem]
 refine aj h0 (Fe k _ _) ?_ (fun yd h0=>?_)<;>try simp only[F,go_sem]
 refine aj h0 (Fe k _ _) ?_ (fun tX h0=>?_)<;>try simp only[F,go_sem]
 refine aj h0 (Fe k _ _) ?_ (fun rK h0=>?_)<;>try simp only[F,go_sem]
 refine aj h0 (Fe k _ _) ?_ (fun yf h0=>?_)<;>try simp only[F,go_sem]
 refine aj h0 (Ig k _ _) ?_ (fun x37 h0=>?_)<;>try simp only[F,go_sem]
 refine aj h0 (Jk k _ _) ?_ (fun rL h0=>?_)<;>try simp only[F,go_sem]
 refine AF F h0 ?_ ?_<;>intro F h0<;>try simp only[F,go_sem]
 refine AF F h0 ?_ ?_<;>intro F h0<;>try simp only[F,go_sem]
 refine AF F h0 ?_ ?_<;>intro F h0<;>try simp only[F,go_sem]
 refine AF F h0 ?_ ?_<;>intro F h0<;>try simp only[F,go_sem]
 refine AF F h0 ?_ ?_<;>intro F h0<;>try simp only[F,go_sem]
 refine AF F h0 ?_ ?_<;>intro F h0<;>try simp only[F,go_sem]
 refine AF F h0 ?_ ?_<;>intro F h0<;>try simp only[F,go_sem]
 refine AF F h0 ?_ ?_<;>intro F h0<;>try simp only[F,go_sem]
 refine AF F h0 ?_ ?_<;>intro F h0<;>try simp only[F,go_sem]
 refine AF F h0 ?_ ?_<;>intro F h0<;>try simp only[F,go_sem]
 refine AF F h0 ?_ ?_<;>intro F h0<;>try simp only[F,go_sem]
 refine AF F h0 ?_ ?_<;>intro F h0<;>try simp only[F,go_sem]
 refine AF F h0 ?_ ?_<;>intro F h0<;>try simp only[F,go_sem]
 obtain rfl:=oi h0
 refine Ag rfl ?_
 try simp only[F,go_sem]
 obtain rfl:=oi h0
 refine Ag rfl ?_
 try simp only[F,go_sem]
 obtain rfl:=oi h0
 refine Ag rfl ?_
 try simp only[F,go_sem]
 obtain rfl:=oi h0
 refine Ag rfl ?_
 try simp only[F,go_sem]
 obtain rfl:=oi h0
 refine Ag rfl ?_
 try simp only[F,go_sem]
 obtain rfl:=oi h0
 refine Ag rfl ?_
 try simp only[F,go_sem]
 obtain rfl:=oi h0
 refine Ag rfl ?_
 try simp only[F,go_sem]
 obtain rfl:=oi h0
 refine Ag rfl ?_
 try simp only[F,go_sem]
 obtain rfl:=oi h0
 refine Ag rfl ?_
 try simp only[F,go_sem]
 obtain rfl:=oi h0
 refine Ag rfl ?_
 try simp only[F,go_sem]
 obtain rfl:=oi h0
 refine Ag rfl ?_
 try simp only[F,go_sem]
 obtain rfl:=oi h0
 refine Ag rfl ?_
 try simp only[F,go_sem]
 obtain rfl:=oi h0
 refine Ag rfl ?_
 try simp only[F,go_sem]
 obtain rfl:=oi h0
 refine Ag rfl ?_
 try simp only[F,go_sem]
end Go.Abs
namespace Go.Abs
open Go Go.Proofs Go.RowKit
def qB:Nat:=reachBytes
theorem ajl:qB<=140737488351232:=by decide
theorem fq:Reads qB Tryz.prog 3 eI fL:=Reads.int Tryz.underlying3
theorem aqY:Reads qB Tryz.prog 119 (Aa.c (n:=5) eI) (fun x:(Aa 5 Int)=>∀ a∈x.l,fL a):=(Reads.array Tryz.underlying119 (by kernel_rfl) (Bj.cons (off:=0) (sz:=1) (off':=1) (tot:=5) rfl (by kernel_rfl) rfl fq (Bj.cons (off:=1) (sz:=1) (off':=2) (tot:=5) rfl (by kernel_rfl) rfl fq (Bj.cons (off:=2) (sz:=1) (off':=3) (tot:=5) rfl (by kernel_rfl) rfl fq (Bj.cons (off:=3) (sz:=1) (off':=4) (tot:=5) rfl (by kernel_rfl) rfl fq (Bj.cons (off:=4) (sz:=1) (off':=5) (tot:=5) rfl (by kernel_rfl) rfl fq (Bj.nil (off:=5) (tot:=5) (by decide)))))))).as (fun p=>⟨[p.1,p.2.1,p.2.2.1,p.2.2.2.1,p.2.2.2.2.1],rfl⟩) (fun _=>rfl) (fun _ h=>by intro a ha;simp only[BF,List.not_mem_nil,or_false]at ha;rcases ha with rfl|rfl|rfl|rfl|rfl;exact h.1;exact h.2.1;exact h.2.2.1;exact h.2.2.2.1;exact h.2.2.2.2.1)
theorem ajy:Reads qB Tryz.prog 58 (eL 1 eI) (fun l=>l.length<=Go.maxLen/\l.length*8<=qB/\∀ a∈l,fL a):=Reads.slice Tryz.underlying58 (by kernel_rfl) (by kernel_rfl) (by decide) fq
def BE.q (x:BE):Prop:=fL x.Kind/\fL x.Ac/\fL x.To/\(fun x:(Aa 5 Int)=>∀ a∈x.l,fL a) x.Ab/\(fun l=>l.length<=Go.maxLen/\l.length*8<=qB/\∀ a∈l,fL a) x.Cx
theorem aqZ:Reads qB Tryz.prog 121 BE.c BE.q:=(Reads.struct Tryz.underlying121 (by kernel_rfl) (Bj.cons (off:=0) (sz:=1) (off':=1) (tot:=9) rfl (by kernel_rfl) rfl fq (Bj.cons (off:=1) (sz:=1) (off':=2) (tot:=9) rfl (by kernel_rfl) rfl fq (Bj.cons (off:=2) (sz:=1) (off':=3) (tot:=9) rfl (by kernel_rfl) rfl fq (Bj.cons (off:=3) (sz:=5) (off':=8) (tot:=9) rfl (by kernel_rfl) rfl aqY (Bj.cons (off:=8) (sz:=1) (off':=9) (tot:=9) rfl (by kernel_rfl) rfl ajy (Bj.nil (off:=9) (tot:=9) (by decide)))))))).as (fun p=>⟨p.1,p.2.1,p.2.2.1,p.2.2.2.1,p.2.2.2.2.1⟩) (fun _=>rfl) (fun _ h=>⟨h.1,h.2.1,h.2.2.1,h.2.2.2.1,h.2.2.2.2.1⟩)
theorem aq1:Reads qB Tryz.prog 54 (eL 9 BE.c) (fun l=>l.length<=Go.maxLen/\l.length*88<=qB/\∀ a∈l,BE.q a):=Reads.slice Tryz.underlying54 (by kernel_rfl) (by kernel_rfl) (by decide) aqZ
def Entry.q (x:Entry):Prop:=fL x.Ac/\fL x.No
theorem ajw:Reads qB Tryz.prog 27 Entry.c Entry.q:=(Reads.struct Tryz.underlying27 (by kernel_rfl) (Bj.cons (off:=0) (sz:=1) (off':=1) (tot:=2) rfl (by kernel_rfl) rfl fq (Bj.cons (off:=1) (sz:=1) (off':=2) (tot:=2) rfl (by kernel_rfl) rfl fq (Bj.nil (off:=2) (tot:=2) (by decide))))).as (fun p=>⟨p.1,p.2.1⟩) (fun _=>rfl) (fun _ h=>⟨h.1,h.2.1⟩)
theorem aq5:Reads qB Tryz.prog 9 eS (fun s=>s.size<=Go.maxLen):=Reads.string Tryz.underlying9
def Ab.q (x:Ab):Prop:=Entry.q x.At/\fL x.Kind/\fL x.Day/\fL x.Ap/\Entry.q x.Of/\(fun s=>s.size<=Go.maxLen) x.Text
theorem ajx:Reads qB Tryz.prog 29 Ab.c Ab.q:=(Reads.struct Tryz.underlying29 (by kernel_rfl) (Bj.cons (off:=0) (sz:=2) (off':=2) (tot:=8) rfl (by kernel_rfl) rfl ajw (Bj.cons (off:=2) (sz:=1) (off':=3) (tot:=8) rfl (by kernel_rfl) rfl fq (Bj.cons (off:=3) (sz:=1) (off':=4) (tot:=8) rfl (by kernel_rfl) rfl fq (Bj.cons (off:=4) (sz:=1) (off':=5) (tot:=8) rfl (by kernel_rfl) rfl fq (Bj.cons (off:=5) (sz:=2) (off':=7) (tot:=8) rfl (by kernel_rfl) rfl ajw (Bj.cons (off:=7) (sz:=1) (off':=8) (tot:=8) rfl (by kernel_rfl) rfl aq5 (Bj.nil (off:=8) (tot:=8) (by decide))))))))).as (fun p=>⟨p.1,p.2.1,p.2.2.1,p.2.2.2.1,p.2.2.2.2.1,p.2.2.2.2.2.1⟩) (fun _=>rfl) (fun _ h=>⟨h.1,h.2.1,h.2.2.1,h.2.2.2.1,h.2.2.2.2.1,h.2.2.2.2.2.1⟩)
theorem aq2:Reads qB Tryz.prog 55 (Aa.c (n:=6) eI) (fun x:(Aa 6 Int)=>∀ a∈x.l,fL a):=(Reads.array Tryz.underlying55 (by kernel_rfl) (Bj.cons (off:=0) (sz:=1) (off':=1) (tot:=6) rfl (by kernel_rfl) rfl fq (Bj.cons (off:=1) (sz:=1) (off':=2) (tot:=6) rfl (by kernel_rfl) rfl fq (Bj.cons (off:=2) (sz:=1) (off':=3) (tot:=6) rfl (by kernel_rfl) rfl fq (Bj.cons (off:=3) (sz:=1) (off':=4) (tot:=6) rfl (by kernel_rfl) rfl fq (Bj.cons (off:=4) (sz:=1) (off':=5) (tot:=6) rfl (by kernel_rfl) rfl fq (Bj.cons (off:=5) (sz:=1) (off':=6) (tot:=6) rfl (by kernel_rfl) rfl fq (Bj.nil (off:=6) (tot:=6) (by decide))))))))).as (fun p=>⟨[p.1,p.2.1,p.2.2.1,p.2.2.2.1,p.2.2.2.2.1,p.2.2.2.2.2.1],rfl⟩) (fun _=>rfl) (fun _ h=>by intro a ha;simp only[BF,List.not_mem_nil,or_false]at ha;rcases ha with rfl|rfl|rfl|rfl|rfl|rfl;exact h.1;exact h.2.1;exact h.2.2.1;exact h.2.2.2.1;exact h.2.2.2.2.1;exact h.2.2.2.2.2.1)
theorem aq0:Reads qB Tryz.prog 38 (eL 8 Ab.c) (fun l=>l.length<=Go.maxLen/\l.length*72<=qB/\∀ a∈l,Ab.q a):=Reads.slice Tryz.underlying38 (by kernel_rfl) (by kernel_rfl) (by decide) ajx
def Av.q (x:Av):Prop:=fL x.Bs/\fL x.To/\(fun x:(Aa 6 Int)=>∀ a∈x.l,fL a) x.Have/\(fun l=>l.length<=Go.maxLen/\l.length*72<=qB/\∀ a∈l,Ab.q a) x.Ah
theorem aq3:Reads qB Tryz.prog 57 Av.c Av.q:=(Reads.struct Tryz.underlying57 (by kernel_rfl) (Bj.cons (off:=0) (sz:=1) (off':=1) (tot:=9) rfl (by kernel_rfl) rfl fq (Bj.cons (off:=1) (sz:=1) (off':=2) (tot:=9) rfl (by kernel_rfl) rfl fq (Bj.cons (off:=2) (sz:=6) (off':=8) (tot:=9) rfl (by kernel_rfl) rfl aq2 (Bj.cons (off:=8) (sz:=1) (off':=9) (tot:=9) rfl (by kernel_rfl) rfl aq0 (Bj.nil (off:=9) (tot:=9) (by decide))))))).as (fun p=>⟨p.1,p.2.1,p.2.2.1,p.2.2.2.1⟩) (fun _=>rfl) (fun _ h=>⟨h.1,h.2.1,h.2.2.1,h.2.2.2.1⟩)
def Ct.q (x:Ct):Prop:=fL x.Ac/\fL x.To/\Ab.q x.Ab/\Av.q x.Av/\(fun l=>l.length<=Go.maxLen/\l.length*8<=qB/\∀ a∈l,fL a) x.Cx/\fL x.Dj/\fL x.By
theorem aq4:Reads qB Tryz.prog 60 Ct.c Ct.q:=(Reads.struct Tryz.underlying60 (by kernel_rfl) (Bj.cons (off:=0) (sz:=1) (off':=1) (tot:=22) rfl (by kernel_rfl) rfl fq (Bj.cons (off:=1) (sz:=1) (off':=2) (tot:=22) rfl (by kernel_rfl) rfl fq (Bj.cons (off:=2) (sz:=8) (off':=10) (tot:=22) rfl (by kernel_rfl) rfl ajx (Bj.cons (off:=10) (sz:=9) (off':=19) (tot:=22) rfl (by kernel_rfl) rfl aq3 (Bj.cons (off:=19) (sz:=1) (off':=20) (tot:=22) rfl (by kernel_rfl) rfl ajy (Bj.cons (off:=20) (sz:=1) (off':=21) (tot:=22) rfl (by kernel_rfl) rfl fq (Bj.cons (off:=21) (sz:=1) (off':=22) (tot:=22) rfl (by kernel_rfl) rfl fq (Bj.nil (off:=22) (tot:=22) (by decide)))))))))).as (fun p=>⟨p.1,p.2.1,p.2.2.1,p.2.2.2.1,p.2.2.2.2.1,p.2.2.2.2.2.1,p.2.2.2.2.2.2.1⟩) (fun _=>by simp only[Ct.c,Ab.c,Entry.c,Av.c,Cy,Bz,Ce];rfl) (fun _ h=>⟨h.1,h.2.1,h.2.2.1,h.2.2.2.1,h.2.2.2.2.1,h.2.2.2.2.2.1,h.2.2.2.2.2.2.1⟩)
end Go.Abs
namespace Go.Abs
open Go
theorem aqR {i d:Nat}:(List.range' i (d+1))=i::List.range' (i+1) d:=by
 rw[List.range'_succ]
theorem afx {R:Type}{body:Int->Option (AN Int Unit R)}{n:Nat}{f:Nat->Option R} (hn:n<=9223372036854775807) {k:Nat} (hk:n<k)
  (h1:∀ i,i<n->body (i:Int)=some (match f i with|some r=>.ret r|none=>.next (ab ((i:Int)+1)))) (h2:body (n:Int)=some (.brk ())):
  ai body k 0=some (match (List.range n).findSome? f with|some r=>.ret r|none=>.brk ()):=by
 have h:=asf (body:=body) (n:=n) (g:=f) hn h1 h2 k n 0 (by omega) hk
 rw[Cz]at h
 rw[h]
 have key:∀ d i,scan f i d=(List.range' i d).findSome? f:=by
  intro d
  induction d with
  |zero=>intro i;rfl
  |succ d ih=>
   intro i
   rw[aqR,List.findSome?_cons,scan,ih]
   cases f i<;>rfl
 rw[key,List.range_eq_range']
 cases (List.range' 0 n).findSome? f<;>rfl
theorem vA {R:Type}{body:Int->Option (AN Int Unit R)}{n:Nat}{p:Nat->Bool}{c:R} (hn:n<=9223372036854775807) {k:Nat} (hk:n<k)
  (h1:∀ i,i<n->body (i:Int)=some (bif p i then .next (ab ((i:Int)+1)) else .ret c)) (h2:body (n:Int)=some (.brk ())):
  ai body k 0=some (bif (List.range n).all p then .brk () else .ret c):=by
 have h:=afx (body:=body) (n:=n) (f:=fun i=>bif p i then none else some c) hn hk (fun i hi=>by rw[h1 i hi];cases p i<;>rfl) h2
 rw[h]
 have:∀ l:List Nat,l.findSome? (fun i=>bif p i then none else some c)=bif l.all p then none else some c:=by
  intro l
  induction l with
  |nil=>rfl
  |cons x l ih=>
   rw[List.findSome?_cons,List.all_cons]
   cases hp:p x with
   |true=>simpa using ih
   |false=>simp
 rw[this]
 cases (List.range n).all p<;>rfl
theorem xZ {α R:Type}{l:List α}{body:Int->Option (AN Int Unit R)}{p:α->Bool}{c:R} (hn:l.length<=9223372036854775807) {k:Nat} (hk:l.length<k)
  (h1:∀ (i:Nat) x,l[i]?=some x->body (i:Int)=some (bif p x then .next (ab ((i:Int)+1)) else .ret c)) (h2:body (l.length:Int)=some (.brk ())):
  ai body k 0=some (bif l.all p then .brk () else .ret c):=by
 have h:=asd (body:=body) (l:=l) (f:=fun i=>bif p i then none else some c) hn hk (fun i x hi=>by rw[h1 i x hi];cases p x<;>rfl) h2
 rw[h]
 have:l.findSome? (fun i=>bif p i then none else some c)=bif l.all p then none else some c:=by
  clear h h1 h2 hn hk
  induction l with
  |nil=>rfl
  |cons x l ih=>
   rw[List.findSome?_cons,List.all_cons]
   cases hp:p x with
   |true=>simpa using ih
   |false=>simp
 rw[this]
 cases l.all p<;>rfl
theorem afy {S R τ:Type}{n:Nat}{body:τ->Option (AN τ S R)} (mk:Int->S->τ) (f:S->Nat->S) (Inv:Nat->S->Prop) (hn:n<=9223372036854775807) {k:Nat} (hk:n<k) {s0:S} (h0:Inv 0 s0)
  (h1:∀ i s,i<n->Inv i s->body (mk (i:Int) s)=some (.next (mk (ab ((i:Int)+1)) (f s i)))/\Inv (i+1) (f s i)) (h2:∀ s,Inv n s->body (mk (n:Int) s)=some (.brk s)):
  ai body k (mk 0 s0)=some (.brk ((List.range n).foldl f s0))/\Inv n ((List.range n).foldl f s0):=by
 have h:=qa (l:=List.range n) (body:=body) mk f Inv (by simpa using hn) (k:=k) (by simpa using hk) h0 (fun i x s hx hI=>by
  have hi:i<n:=by have:=(gS.1 hx).1;simpa using this
  have e:x=i:=by have:=hx;rw[List.getElem?_range hi]at this;exact(oi this).symm
  subst e
  exact h1 x s hi hI) (fun s hI=>by have:=h2 s (by simpa using hI);simpa using this)
 exact⟨h.1,by simpa using h.2⟩
theorem adV {α:Type} (g:Nat->α):∀ (l:List Nat) (s:List α),l.foldl (fun s i=>s++[g i]) s=s++l.map g
 |[],s=>by simp
 |x::l,s=>by simp[adV g l]
theorem ase {S E R τ:Type}{n:Nat}{body:τ->Option (AN τ E R)} (mk:Int->S->τ) (g:S->E) (f:S->Nat->Option S) (c:R) (Inv:Nat->S->Prop) (hn:n<=9223372036854775807) {k:Nat} (hk:n<k) {s0:S} (h0:Inv 0 s0)
  (h1:∀ i s,i<n->Inv i s->body (mk (i:Int) s)=some (match f s i with|some s'=>.next (mk (ab ((i:Int)+1)) s')|none=>.ret c)/\∀ s',f s i=some s'->Inv (i+1) s') (h2:∀ s,Inv n s->body (mk (n:Int) s)=some (.brk (g s))):
  ai body k (mk 0 s0)=some (match (List.range n).foldlM f s0 with|some s=>.brk (g s)|none=>.ret c)/\∀ s,(List.range n).foldlM f s0=some s->Inv n s:=by
 have key:∀ (d i k:Nat) (s:S),i+d=n->d<k->Inv i s->ai body k (mk (i:Int) s)=some (match (List.range' i d).foldlM f s with|some s=>.brk (g s)|none=>.ret c)/\∀ s',(List.range' i d).foldlM f s=some s'->Inv n s':=by
  intro d
  induction d with
  |zero=>
   intro i k s hi hk hI
   cases k with
   |zero=>omega
   |succ k=>
    have:i=n:=by omega
    subst this
    refine⟨?_,fun s' hs=>?_⟩
    ·rw[ai,h2 s hI];rfl
    ·have:s=s':=oi hs
     exact this▸hI
  |succ d ih=>
   intro i k s hi hk hI
   cases k with
   |zero=>omega
   |succ k=>
    obtain⟨g1,g2⟩:=h1 i s (by omega) hI
    rw[List.range'_succ,List.foldlM_cons,ai,g1]
    cases hf:f s i with
    |none=>exact⟨rfl,fun s' hs=>by cases hs⟩
    |some s1=>
     have:ab ((i:Int)+1)=((i+1:Nat):Int):=by rw[aW (by omega) (by omega)];omega
     simp only[this]
     exact ih (i+1) k s1 (by omega) (by omega) (g2 s1 hf)
 have:=key n 0 k s0 (by omega) hk h0
 rw[List.range_eq_range']
 exact this
def Bl (l:List Int):Prop:=∀ x∈l,0<=x/\x<256
theorem Bl.take {l:List Int} (h:Bl l) (n:Nat):Bl (l.take n):=fun x hx=>h x (BD hx)
theorem Bl.drop {l:List Int} (h:Bl l) (n:Nat):Bl (l.drop n):=fun x hx=>h x (Cj hx)
theorem vC (x:Int):IntKind.u8.wrap x=x % 256:=by
 simp only[IntKind.wrap,IntKind.bits,IntKind.signed]
 simp
theorem aqu {n b:Int} (h0:0<=n) (h1:n<2 ^ 40) (h2:0<=b) (h3:b<256):fT .i64 (ab (n*2 ^ 8)) (ab b)=n*256+b:=by
 have e8:((2:Int) ^ 8)=256:=by decide
 have e40:((2:Int) ^ 40)=1099511627776:=by decide
 rw[e40]at h1
 rw[e8,aW (n:=n*256) (by omega) (by omega),aW (n:=b) (by omega) (by omega)]
 obtain⟨m,rfl⟩:=Int.eq_ofNat_of_zero_le h0
 obtain⟨c,rfl⟩:=Int.eq_ofNat_of_zero_le h2
 unfold fT
 have t1:(BitVec.ofInt IntKind.i64.bits ((m:Int)*256)).toNat=m*256:=by
  rw[BitVec.toNat_ofInt]
  have:((m:Int)*256) % ((2 ^ IntKind.i64.bits:Nat):Int)=(m:Int)*256:=by
   rw[show ((2 ^ IntKind.i64.bits:Nat):Int)=18446744073709551616 from rfl];omega
  rw[this];omega
 have t2:(BitVec.ofInt IntKind.i64.bits (c:Int)).toNat=c:=by
  rw[BitVec.toNat_ofInt]
  have:(c:Int) % ((2 ^ IntKind.i64.bits:Nat):Int)=(c:Int):=by
   rw[show ((2 ^ IntKind.i64.bits:Nat):Int)=18446744073709551616 from rfl];omega
  rw[this];omega
 rw[BitVec.toNat_or,t1,t2]
 have:m*256 ||| c=m*256+c:=by
  have:=Nat.shiftLeft_add_eq_or_of_lt (b:=c) (i:=8) (by omega) m
  rw[Nat.shiftLeft_eq]at this
  exact this.symm
 rw[this]
 exact aW (by omega) (by omega)
def pS (n:Int) (l:List Int):Int:=l.foldl (fun n b=>n*256+b) n
def bo (l:List Int):Int:=pS 0 l
theorem ajt (a:Int):bo [a]=a:=by simp[bo,pS]
theorem ajo:∀ {l:List Int}{n:Int}{w:Nat},Bl l->0<=n->n<256 ^ w->0<=pS n l/\pS n l<256 ^ (w+l.length)
 |[],n,w,_,h0,h1=>⟨h0,h1⟩
 |b::l,n,w,hb,h0,h1=>by
  have gb:=hb b (by simp)
  have h2:n*256+b<256 ^ (w+1):=by
   rw[Int.pow_succ];omega
  have:=ajo (l:=l) (n:=n*256+b) (w:=w+1) (fun x hx=>hb x (by simp[hx])) (by omega) h2
  rw[show w+(b::l).length=w+1+l.length by simp;omega]
  exact this
theorem afc {l:List Int} (hb:Bl l):0<=bo l/\bo l<256 ^ l.length:=by
 have:=ajo (l:=l) (n:=0) (w:=0) hb (by omega) (by decide)
 unfold bo;simpa using this
theorem ajs {R:Type}{l:List Int} (hb:Bl l) (hl:l.length<=5) {body:Int×Int->Option (AN (Int×Int) Int R)}{k:Nat} (hk:10<k)
  (h1:∀ (i:Nat) x s,l[i]?=some x->body (s,(i:Int))=some (.next (fT .i64 (ab (s*2 ^ 8)) (ab x),ab ((i:Int)+1)))) (h2:∀ s,body (s,(l.length:Int))=some (.brk s)):
  ai body k (0,0)=some (.brk (bo l)):=by
 have h:=qa (l:=l) (body:=body) (fun i s=>(s,i)) (fun s x=>s*256+x) (fun i s=>0<=s/\s<256 ^ i) (by omega) (k:=k) (by omega) (s0:=0) (by simp) (fun i x s hx hs=>by
  have hi:=(gS.1 hx).1
  have jZ:=hb x (A6 hx)
  have pE:s<2 ^ 40:=by
   have:(256:Int) ^ i<=256 ^ 5:=by
    have:i=0\/i=1\/i=2\/i=3\/i=4:=by omega
    rcases this with rfl|rfl|rfl|rfl|rfl<;>decide
   have e:(256:Int) ^ 5=2 ^ 40:=by decide
   omega
  refine⟨?_,by omega,by rw[Int.pow_succ];omega⟩
  rw[h1 i x s hx,aqu hs.1 pE jZ.1 jZ.2]) (fun s hs=>h2 s)
 exact h.1
theorem arK (s:ByteArray):strOf (s.data.toList.map fun c=>(c.toNat:Int))=s:=by
 unfold strOf
 rw[List.map_map]
 have:((fun n:Int=>UInt8.ofNat n.toNat) ∘ fun c:UInt8=>(c.toNat:Int))=id:=by
  funext c;simp
 rw[this,List.map_id]
end Go.Abs
namespace Go.Abs
open Go Go.Proofs
def be (n:Int):Nat->List Int
 |0=>[]
 |w+1=>IntKind.u8.wrap (Int.fdiv n (2 ^ (8*w)))::be n w
theorem dW (n:Int):∀ w,(be n w).length=w
 |0=>rfl
 |w+1=>by simp[be,dW n w]
theorem adu {body:Int×List Int->Option (AN (Int×List Int) (List Int) (List Int))}{n:Int}
  (hb:∀ i l,body (i,l)=bif decide ((0:Int)<=i) then (lX (ab (8*i))).bind fun _=>(eO 1 l (IntKind.u8.wrap (Int.fdiv n (2 ^ (min (Int.toNat (ab (8*i))) 64))))).bind fun l'=>some (.next (ab (i - 1),l')) else some (.brk l)):
  ∀ (w m:Nat) (l:List Int),w<=8->l.length+w<=1000000->w<m->ai body m (ab ((w:Int) - 1),l)=some (.brk (l++be n w)):=by
 intro w
 induction w with
 |zero=>
  intro m l _ _ hm
  obtain⟨m,rfl⟩:∃ m',m=m'+1:=⟨m - 1,by omega⟩
  have e:ab (((0:Nat):Int) - 1)=-1:=by rw[aW]<;>simp
  simp only[ai,hb,e,be,List.append_nil,(by decide:decide ((0:Int)<=-1)=false),An]
 |succ w ih=>
  intro m l hw hl hm
  obtain⟨m,rfl⟩:∃ m',m=m'+1:=⟨m - 1,by omega⟩
  have e:ab (((w+1:Nat):Int) - 1)=w:=by rw[aW]<;>omega
  have e8:ab (8*(w:Int))=8*(w:Int):=by rw[aW]<;>omega
  have et:min (Int.toNat (8*(w:Int))) 64=8*w:=by omega
  have hsh:lX (8*(w:Int))=some ():=by unfold lX;rw[if_neg (by omega)]
  have hp:eO 1 l (IntKind.u8.wrap (Int.fdiv n (2 ^ (8*w))))=some (l++[IntKind.u8.wrap (Int.fdiv n (2 ^ (8*w)))]):=nG (by omega) (by omega)
  have hd:decide ((0:Int)<=(w:Int))=true:=by simp
  simp only[ai,hb,e,e8,et,hsh,hd,Am,Ae,hp]
  rw[ih m _ (by omega) (by simp;omega) (by omega)]
  simp[be]
theorem aco {k:Nat} (n:Int) {w:Nat} (hw:w<=8) (hk:w<k):Cd k n w=some (be n w):=by
 unfold Cd
 rw[adu (n:=n) (fun i l=>rfl) w k [] hw (by simp;omega) hk]
 rfl
theorem aeX {k:Nat} (n:Int) {w:Nat} (hw:w<=8) (hk:w<k):B1 k n w=some (be n w):=by
 unfold B1
 rw[adu (n:=n) (fun i l=>rfl) w k [] hw (by simp;omega) hk]
 rfl
theorem kz {α:Type}{b:Nat}{l x:List α} (h:(l.length+x.length)*b<=140737488355328) (h2:l.length+x.length<4611686018427387904):cY b l x=some (l++x):=by
 unfold cY;rw[if_pos ⟨h,h2⟩]
def enc (r:Ab):List Int:=be r.At.Ac 1++be r.At.No 2++be r.Kind 1++be r.Day 4++be r.Ap 4++be r.Of.Ac 1++be r.Of.No 2++be (r.Text.size:Int) 1++iG r.Text
theorem yR (r:Ab):(enc r).length=16+r.Text.size:=by
 simp only[enc,A1,dW,kX]<;>omega
theorem amS {k:Nat} (hk:20<k) {r:Ab} (ht:r.Text.size<=1000):Fi k r=some (enc r):=by
 have h1:∀ n:Int,B1 k n 1=some (be n 1):=fun n=>aeX n (w:=1) (by decide) (by omega)
 have h2:∀ n:Int,B1 k n 2=some (be n 2):=fun n=>aeX n (w:=2) (by decide) (by omega)
 have h4:∀ n:Int,B1 k n 4=some (be n 4):=fun n=>aeX n (w:=4) (by decide) (by omega)
 have hs:aaD r.Text=some ():=by unfold aaD;rw[if_pos (by omega)]
 unfold Fi enc
 simp only[h1,h2,h4,hs,Ae]
 repeat rw[kz (by (simp only[A1,dW,kX])<;>omega) (by (simp only[A1,dW,kX])<;>omega),Ae]
theorem adA {k:Nat} (n:Int) {w:Nat} (l:List Int) (wd:Int) (hwd:wd=w) (hw:w<=8) (hl:l.length+w<=1000000) (hk:w<k):ai (cD.b1 k (⟨[n,wd],rfl⟩:Aa 2 Int)) k (ab (wd - 1),l)=some (.brk (l++be n w)):=by
 subst hwd
 exact adu (n:=n) (fun i l=>by
  unfold cD.b1
  have h:(⟨[n,(w:Int)],rfl⟩:Aa 2 Int).at? 0=some n:=rfl
  simp only[h,Ae]) w k l hw hl hk
theorem ane {k:Nat} (hk:20<k) {r:Ab} (ht:r.Text.size<=1000):cD k r=some (enc r):=by
 unfold cD
 have one:∀ (n:Int) (l:List Int),l.length<=1000->ai (cD.b1 k (⟨[n,1],rfl⟩:Aa 2 Int)) k (ab (1 - 1),l)=some (.brk (l++be n 1)):=fun n l hl=>adA n (w:=1) l 1 rfl (by decide) (by omega) (by omega)
 have two:∀ (n:Int) (l:List Int),l.length<=1000->ai (cD.b1 k (⟨[n,2],rfl⟩:Aa 2 Int)) k (ab (2 - 1),l)=some (.brk (l++be n 2)):=fun n l hl=>adA n (w:=2) l 2 rfl (by decide) (by omega) (by omega)
 have four:∀ (n:Int) (l:List Int),l.length<=1000->ai (cD.b1 k (⟨[n,4],rfl⟩:Aa 2 Int)) k (ab (4 - 1),l)=some (.brk (l++be n 4)):=fun n l hl=>adA n (w:=4) l 4 rfl (by decide) (by omega) (by omega)
 have st:∀ (i:Int) (l:List Int) (n wd:Int) (l':List Int),i<8->at? [(⟨[r.At.Ac,1],rfl⟩:(Aa 2 Int)),(⟨[r.At.No,2],rfl⟩:(Aa 2 Int)),(⟨[r.Kind,1],rfl⟩:(Aa 2 Int)),(⟨[r.Day,4],rfl⟩:(Aa 2 Int)),(⟨[r.Ap,4],rfl⟩:(Aa 2 Int)),(⟨[r.Of.Ac,1],rfl⟩:(Aa 2 Int)),(⟨[r.Of.No,2],rfl⟩:(Aa 2 Int)),(⟨[(r.Text.size:Int),1],rfl⟩:(Aa 2 Int))] i=some (⟨[n,wd],rfl⟩:Aa 2 Int)->
   ai (cD.b1 k (⟨[n,wd],rfl⟩:Aa 2 Int)) k (ab (wd - 1),l)=some (.brk l')->cD.b0 k r (i,l)=some (.next (ab (i+1),l')):=by
  intro i l n wd l' hi ha hw
  unfold cD.b0
  have h1:(⟨[n,wd],rfl⟩:Aa 2 Int).at? 1=some wd:=rfl
  simp only[Au hi,Am,ha,Ae,h1,hw]
 obtain⟨m,rfl⟩:∃ m,k=m+9:=⟨k - 9,by omega⟩
 have nx:∀ (q:Nat) (i:Int) (l l':List Int),cD.b0 (m+9) r (i,l)=some (.next (ab (i+1),l'))->ai (cD.b0 (m+9) r) (q+1) (i,l)=ai (cD.b0 (m+9) r) q (ab (i+1),l'):=by
  intro q i l l' h
  simp only[ai,h]
 rw[nx (m+8) 0 _ _ (st 0 _ _ _ _ (by decide) rfl (one _ _ (by simp))),(by decide:ab (0+1)=1),
  nx (m+7) 1 _ _ (st 1 _ _ _ _ (by decide) rfl (two _ _ (by (simp only[A1,dW,AB])<;>omega))),(by decide:ab (1+1)=2),
  nx (m+6) 2 _ _ (st 2 _ _ _ _ (by decide) rfl (one _ _ (by (simp only[A1,dW,AB])<;>omega))),(by decide:ab (2+1)=3),
  nx (m+5) 3 _ _ (st 3 _ _ _ _ (by decide) rfl (four _ _ (by (simp only[A1,dW,AB])<;>omega))),(by decide:ab (3+1)=4),
  nx (m+4) 4 _ _ (st 4 _ _ _ _ (by decide) rfl (four _ _ (by (simp only[A1,dW,AB])<;>omega))),(by decide:ab (4+1)=5),
  nx (m+3) 5 _ _ (st 5 _ _ _ _ (by decide) rfl (one _ _ (by (simp only[A1,dW,AB])<;>omega))),(by decide:ab (5+1)=6),
  nx (m+2) 6 _ _ (st 6 _ _ _ _ (by decide) rfl (two _ _ (by (simp only[A1,dW,AB])<;>omega))),(by decide:ab (6+1)=7),
  nx (m+1) 7 _ _ (st 7 _ _ _ _ (by decide) rfl (one _ _ (by (simp only[A1,dW,AB])<;>omega))),(by decide:ab (7+1)=8)]
 have aeh:∀ l,ai (cD.b0 (m+9) r) (m+1) (8,l)=some (.brk l):=fun l=>by
  have:cD.b0 (m+9) r (8,l)=some (.brk l):=by
   unfold cD.b0
   simp only[(by decide:decide ((8:Int)<8)=false),An]
  simp only[ai,this]
 rw[aeh]
 simp only[Ae]
 rw[kz (by (simp only[A1,dW,kX,AB])<;>omega) (by (simp only[A1,dW,kX,AB])<;>omega)]
 simp only[Ae,Ce,enc]
def within (n lo hi:Int):Bool:=decide (lo<=n)&&decide (n<=hi)
theorem nB (k:Nat) (n lo hi:Int):ja k n lo hi=some (within n lo hi):=by
 unfold ja within
 cases decide (lo<=n)<;>rfl
theorem ra (k:Nat) (n lo hi:Int):CI k n lo hi=some (within n lo hi):=by
 unfold CI within
 cases decide (lo<=n)<;>rfl
def ly (p:Entry):Bool:=within p.Ac 0 5&&within p.No 0 9999
theorem apr (k:Nat) (p:Entry):vW k p=some (ly p):=by
 unfold vW ly
 simp only[nB,Ae]
 cases within p.Ac 0 5<;>rfl
theorem apo (k:Nat) (p:Entry):Ei k p=some (ly p):=by
 unfold Ei ly
 simp only[ra,Ae]
 cases within p.Ac 0 5<;>rfl
def uh (x:Int):Bool:=!decide (x<32)&&!decide (126<x)
def pX (s:ByteArray):Bool:=!decide ((200:Int)<(s.size:Int))&&(iG s).all uh
theorem ajU {s:ByteArray}{i:Nat}{x:Int} (h:(iG s)[i]?=some x):tD s (i:Int)=some x:=by
 have hi:i<s.size:=by have:=(gS.1 h).1;rwa [kX]at this
 unfold tD
 rw[if_pos (by omega)]
 unfold iG at h
 rw[BX,mS]at h
 obtain⟨c,h1,rfl⟩:=h
 simp[List.getD,h1]
theorem apt {k:Nat} (hk:1000<k) (s:ByteArray):iy k s=some (pX s):=by
 unfold iy pX
 by_cases h:(200:Int)<(s.size:Int)
 ·simp[h]
 ·have hl:(iG s).length<=200:=by rw[kX];omega
  have:=xZ (l:=iG s) (body:=iy.b0 k s) (p:=uh) (c:=false) (by omega) (k:=k) (by omega) (fun i x hx=>by
   have hi:i<s.size:=by have:=(gS.1 hx).1;rwa [kX]at this
   unfold iy.b0 uh
   simp only[Au (show ((i:Int)<(s.size:Int)) by omega),Am,ajU hx,Ae]
   cases decide (x<32)<;>cases decide (126<x)<;>rfl) (by
   unfold iy.b0
   simp only[kX,(by simp:decide ((s.size:Int)<(s.size:Int))=false),An])
  simp only[AI h,An,Bn,BB]
  rw[this]
  cases (iG s).all uh<;>rfl
theorem aps {k:Nat} (hk:1000<k) (s:ByteArray):Cr k s=some (pX s):=by
 unfold Cr pX
 by_cases h:(200:Int)<(s.size:Int)
 ·simp[h]
 ·have hl:(iG s).length<=200:=by rw[kX];omega
  have:=xZ (l:=iG s) (body:=Cr.b0 k s) (p:=uh) (c:=false) (by omega) (k:=k) (by omega) (fun i x hx=>by
   have hi:i<s.size:=by have:=(gS.1 hx).1;rwa [kX]at this
   unfold Cr.b0 uh
   simp only[Au (show ((i:Int)<(s.size:Int)) by omega),Am,ajU hx,Ae]
   cases decide (x<32)<;>cases decide (126<x)<;>rfl) (by
   unfold Cr.b0
   simp only[kX,(by simp:decide ((s.size:Int)<(s.size:Int))=false),An])
  simp only[AI h,An,Bn,BB]
  rw[this]
  cases (iG s).all uh<;>rfl
def bC (r:Ab):Bool:=
 ly r.At&&(within r.Kind 0 40&&(within r.Day 0 100000&&(within r.Ap 0 100000&&(pX r.Text&&
  (bif !decide (r.Kind=(0:Int)) then decide (r.Of.Ac=(0:Int))&&decide (r.Of.No=(0:Int))
   else decide (r.Day=(0:Int))&&((r.Text.toList==ByteArray.empty.toList)&&(ly r.Of&&(decide (r.Of.Ac=r.At.Ac)&&decide (r.Of.No<r.At.No)))))))))
theorem acg {k:Nat} (hk:1000<k) (r:Ab):oW k r=some (bC r):=by
 unfold oW bC
 simp only[apr,nB,apt hk,Ae]
 cases ly r.At<;>simp only[Am,An,BB,Bool.false_and]
 cases within r.Kind 0 40<;>simp only[Am,An,BB,Bool.false_and]
 cases within r.Day 0 100000<;>simp only[Am,An,BB,Bool.false_and]
 cases within r.Ap 0 100000<;>simp only[Am,An,BB,Bool.false_and]
 cases pX r.Text<;>simp only[Am,An,BB,Bool.false_and,AO,Bn]
 cases decide (r.Kind=(0:Int))<;>simp only[Am,An,BB,Bool.false_and,AO,Bn]
 cases decide (r.Day=(0:Int))<;>simp only[Am,An,BB,Bool.false_and]
 cases (r.Text.toList==ByteArray.empty.toList)<;>simp only[Am,An,BB,Bool.false_and]
 cases ly r.Of<;>simp only[Am,An,BB,Bool.false_and]
 cases decide (r.Of.Ac=r.At.Ac)<;>simp only[Am,An,BB,Bool.false_and]
theorem vZ {k:Nat} (hk:1000<k) (r:Ab):DW k r=some (bif bC r then 0 else 90):=by
 unfold DW bC
 simp only[apo,ra,aps hk,Ae]
 cases ly r.At<;>simp only[Am,An,BB,Bool.false_and]
 cases within r.Kind 0 40<;>simp only[Am,An,BB,Bool.false_and]
 cases within r.Day 0 100000<;>simp only[Am,An,BB,Bool.false_and]
 cases within r.Ap 0 100000<;>simp only[Am,An,BB,Bool.false_and]
 cases pX r.Text<;>simp only[Am,An,BB,Bool.false_and,AO,Bn]
 cases decide (r.Kind=(0:Int))<;>simp only[Am,An,BB,Bool.false_and,AO,Bn]
 ·cases (decide (r.Of.Ac=(0:Int))&&decide (r.Of.No=(0:Int)))<;>rfl
 cases decide (r.Day=(0:Int))<;>simp only[Am,An,BB,Bool.false_and]
 cases (r.Text.toList==ByteArray.empty.toList)<;>simp only[Am,An,BB,Bool.false_and]
 cases ly r.Of<;>simp only[Am,An,BB,Bool.false_and]
 cases decide (r.Of.Ac=r.At.Ac)<;>simp only[Am,An,BB,Bool.false_and]
 by_cases h:r.At.No<=r.Of.No
 ·simp[h,show ¬ r.Of.No<r.At.No by omega]
 ·simp[h,show r.Of.No<r.At.No by omega]
theorem vk {r:Ab} (h:bC r=true):r.Text.size<=200:=by
 unfold bC pX at h
 simp only[Bo,Bool.not_eq_true',decide_eq_false_iff_not]at h
 omega
theorem aj9 (l:List Int) (n:Nat):tH l (n:Int)=if l.length<n then none else some (l.take n,l.drop n):=by
 unfold tH
 by_cases h:l.length<n
 ·rw[if_pos (by omega),if_pos h]
 ·rw[if_neg (by omega),if_neg h,BQ]
theorem aeV {k:Nat} (hk:100<k) {l:List Int} (hb:Bl l) {n:Nat} (hn:n<=5):j7 k l (n:Int)=some (if l.length<n then none else some (bo (l.take n),l.drop n)):=by
 unfold j7
 rw[aj9]
 by_cases h:l.length<n
 ·simp only[if_pos h]
 ·simp only[if_neg h]
  have hl:(l.take n).length=n:=by rw[A8];omega
  rw[ajs (hb.take n) (by omega) (k:=k) (by omega) (fun i x s hx=>by
   have hi:=(gS.1 hx).1
   unfold acm
   simp only[Au (show (i:Int)<((l.take n).length:Int) by omega),Am,bp hx,Ae]) (fun s=>by
   unfold acm
   simp only[(by simp:decide (((l.take n).length:Int)<((l.take n).length:Int))=false),An])]
  rfl
def yN (b tx:List Int):Ab:=⟨⟨bo (b.take 1),bo ((b.drop 1).take 2)⟩,bo ((b.drop 3).take 1),bo ((b.drop 4).take 4),bo ((b.drop 8).take 4),⟨bo ((b.drop 12).take 1),bo ((b.drop 13).take 2)⟩,strOf tx⟩
def cu (b:List Int):Int:=bo ((b.drop 15).take 1)
def gU (b:List Int):Option (Ab×List Int):=
 if b.length<16 then none else if (b.length:Int)<16+cu b then none else some (yN b ((b.drop 16).take (cu b).toNat),(b.drop 16).drop (cu b).toNat)
theorem ans {k:Nat} (hk:100<k) {b:List Int} (hb:Bl b):yM k b=some (gU b):=by
 have N1:∀ {l:List Int},Bl l->j7 k l 1=some (if l.length<1 then none else some (bo (l.take 1),l.drop 1)):=fun h=>aeV hk h (n:=1) (by omega)
 have N2:∀ {l:List Int},Bl l->j7 k l 2=some (if l.length<2 then none else some (bo (l.take 2),l.drop 2)):=fun h=>aeV hk h (n:=2) (by omega)
 have N4:∀ {l:List Int},Bl l->j7 k l 4=some (if l.length<4 then none else some (bo (l.take 4),l.drop 4)):=fun h=>aeV hk h (n:=4) (by omega)
 unfold yM
 by_cases jE:b.length<16
 ·have e:gU b=none:=by unfold gU;rw[if_pos jE]
  rw[e,N1 hb,Ae]
  by_cases h1:b.length<1
  ·rw[if_pos h1]
  rw[if_neg h1];simp only
  rw[N2 (hb.drop _),Ae,Bt,List.drop_drop]
  by_cases h1:b.length - 1<2
  ·rw[if_pos h1]
  rw[if_neg h1];simp only
  rw[N1 (hb.drop _),Ae,Bt,List.drop_drop]
  by_cases h1:b.length - (1+2)<1
  ·rw[if_pos h1]
  rw[if_neg h1];simp only
  rw[N4 (hb.drop _),Ae,Bt,List.drop_drop]
  by_cases h1:b.length - (1+2+1)<4
  ·rw[if_pos h1]
  rw[if_neg h1];simp only
  rw[N4 (hb.drop _),Ae,Bt,List.drop_drop]
  by_cases h1:b.length - (1+2+1+4)<4
  ·rw[if_pos h1]
  rw[if_neg h1];simp only
  rw[N1 (hb.drop _),Ae,Bt,List.drop_drop]
  by_cases h1:b.length - (1+2+1+4+4)<1
  ·rw[if_pos h1]
  rw[if_neg h1];simp only
  rw[N2 (hb.drop _),Ae,Bt,List.drop_drop]
  by_cases h1:b.length - (1+2+1+4+4+1)<2
  ·rw[if_pos h1]
  rw[if_neg h1];simp only
  rw[N1 (hb.drop _),Ae,Bt,List.drop_drop]
  rw[if_pos (by omega)]
 ·rw[N1 hb,Ae,if_neg (by omega)];simp only
  rw[N2 (hb.drop _),Ae,Bt,List.drop_drop,if_neg (by omega)];simp only
  rw[N1 (hb.drop _),Ae,Bt,List.drop_drop,if_neg (by omega)];simp only
  rw[N4 (hb.drop _),Ae,Bt,List.drop_drop,if_neg (by omega)];simp only
  rw[N4 (hb.drop _),Ae,Bt,List.drop_drop,if_neg (by omega)];simp only
  rw[N1 (hb.drop _),Ae,Bt,List.drop_drop,if_neg (by omega)];simp only
  rw[N2 (hb.drop _),Ae,Bt,List.drop_drop,if_neg (by omega)];simp only
  rw[N1 (hb.drop _),Ae,Bt,List.drop_drop,if_neg (by omega)];simp only
  have hm:=afc ((hb.drop 15).take 1)
  have hM:bo ((b.drop (1+2+1+4+4+1+2)).take 1)=cu b:=rfl
  rw[hM]
  have qN:0<=cu b:=hm.1
  rw[if_pos qN]
  obtain⟨m,zE⟩:=Int.eq_ofNat_of_zero_le qN
  unfold gU
  rw[if_neg jE,zE,aj9,Bt]
  by_cases af:(b.length:Int)<16+(m:Int)
  ·rw[if_pos af,if_pos (by omega)]
  ·rw[if_neg af,if_neg (by omega)]
   rfl
theorem anz {k:Nat} (hk:1000<k) {b:List Int} (hb:Bl b):
  abx k b=some (match gU b with|none=>(⟨⟨0,0⟩,0,0,0,⟨0,0⟩,ByteArray.empty⟩,[],false)|some p=>(p.1,p.2,bC p.1)):=by
 unfold abx
 rw[ans (by omega) hb]
 cases gU b with
 |none=>rfl
 |some p=>simp only[Ae,acg hk]
theorem rd1 {n:Int} (h0:0<=n) (h1:n<256):bo (be n 1)=n:=by
 simp only[be,vC,bo,pS,List.foldl]
 rw[Int.fdiv_eq_ediv_of_nonneg _ (by decide)]
 simp
 omega
theorem rd2 {n:Int} (h0:0<=n) (h1:n<65536):bo (be n 2)=n:=by
 simp only[be,vC,bo,pS,List.foldl]
 rw[Int.fdiv_eq_ediv_of_nonneg _ (by decide),Int.fdiv_eq_ediv_of_nonneg _ (by decide)]
 simp
 omega
theorem rd4 {n:Int} (h0:0<=n) (h1:n<4294967296):bo (be n 4)=n:=by
 simp only[be,vC,bo,pS,List.foldl]
 rw[Int.fdiv_eq_ediv_of_nonneg _ (by decide),Int.fdiv_eq_ediv_of_nonneg _ (by decide),Int.fdiv_eq_ediv_of_nonneg _ (by decide),Int.fdiv_eq_ediv_of_nonneg _ (by decide)]
 simp
 omega
theorem nV (n:Int):∀ w,Bl (be n w)
 |0=>by intro x hx;simp[be]at hx
 |w+1=>by
  intro x hx
  rcases BF.1 hx with rfl|hx
  ·rw[vC];omega
  ·exact nV n w x hx
theorem amR (s:ByteArray):Bl (iG s):=by
 intro x hx
 obtain⟨c,_,rfl⟩:=List.mem_map.1 hx
 have:=c.toNat_lt
 omega
theorem Bl.append {a b:List Int} (ha:Bl a) (hb:Bl b):Bl (a++b):=fun x hx=>by
 rcases A9.1 hx with h|h
 ·exact ha x h
 ·exact hb x h
theorem amQ (r:Ab):Bl (enc r):=by
 unfold enc
 exact((((((((nV _ _).append (nV _ _)).append (nV _ _)).append (nV _ _)).append (nV _ _)).append (nV _ _)).append (nV _ _)).append (nV _ _)).append (amR _)
theorem ag9 (r:Ab):(enc r).take 1=be r.At.Ac 1/\((enc r).drop 1).take 2=be r.At.No 2/\((enc r).drop 3).take 1=be r.Kind 1/\((enc r).drop 4).take 4=be r.Day 4/\((enc r).drop 8).take 4=be r.Ap 4/\
  ((enc r).drop 12).take 1=be r.Of.Ac 1/\((enc r).drop 13).take 2=be r.Of.No 2/\((enc r).drop 15).take 1=be (r.Text.size:Int) 1/\(enc r).drop 16=iG r.Text:=by
 unfold enc
 simp[be]
theorem acz {r:Ab} (h:bC r=true):(0<=r.At.Ac/\r.At.Ac<=5)/\(0<=r.At.No/\r.At.No<=9999)/\(0<=r.Kind/\r.Kind<=40)/\(0<=r.Day/\r.Day<=100000)/\(0<=r.Ap/\r.Ap<=100000)/\(0<=r.Of.Ac/\r.Of.Ac<=5)/\(0<=r.Of.No/\r.Of.No<=9999):=by
 unfold bC ly within at h
 simp only[Bo,decide_eq_true_eq]at h
 obtain⟨⟨a1,a2⟩,a3,a4,a5,a6,h⟩:=h
 refine⟨a1,a2,a3,a4,a5,?_⟩
 by_cases hk:r.Kind=0
 ·simp only[hk,Bf,AO,An,Bo,decide_eq_true_eq]at h
  exact⟨h.2.2.1.1,h.2.2.1.2⟩
 ·simp only[hk,decide_false,Bn,Am,Bo,decide_eq_true_eq]at h
  omega
theorem ant {r:Ab} (ht:r.Text.size<=200):cu (enc r)=(r.Text.size:Int):=by
 unfold cu
 rw[(ag9 r).2.2.2.2.2.2.2.1,rd1 (by omega) (by omega)]
theorem anu {r:Ab} (h:bC r=true) (l:List Int):gU (enc r++l)=some (r,l):=by
 have ht:=vk h
 have hlen:=yR r
 obtain⟨b1,b2,b3,b4,b5,b6,b7⟩:=acz h
 obtain⟨p1,p2,p3,p4,p5,p6,p7,p8,p9⟩:=ag9 r
 have T:∀ (i n:Nat),i+n<=16->((enc r++l).drop i).take n=((enc r).drop i).take n:=fun i n hi=>by
  rw[DI (by omega),Dd (by rw[Bt];omega)]
 have hM:cu (enc r++l)=(r.Text.size:Int):=by
  have:=ant ht
  unfold cu at this ⊢
  rw[T 15 1 (by omega)];exact this
 have hd:(enc r++l).drop 16=iG r.Text++l:=by
  rw[DI (by omega),p9]
 unfold gU
 rw[if_neg (by rw[A1];omega),hM,if_neg (by rw[A1];omega),hd,BQ]
 have eK:=kX r.Text
 rw[Dd (by omega),DI (by omega),Co (by omega),Dr (by omega),Ce]
 have t0:=T 0 1 (by omega)
 simp only[List.drop_zero]at t0
 unfold yN
 rw[t0,T 1 2 (by omega),T 3 1 (by omega),T 4 4 (by omega),T 8 4 (by omega),T 12 1 (by omega),T 13 2 (by omega),p1,p2,p3,p4,p5,p6,p7,
  rd1 b1.1 (by omega),rd2 b2.1 (by omega),rd1 b3.1 (by omega),rd4 b4.1 (by omega),rd4 b5.1 (by omega),rd1 b6.1 (by omega),rd2 b7.1 (by omega)]
 have hs:strOf (iG r.Text)=r.Text:=arK r.Text
 rw[hs]
theorem amq (k:Nat) (f e n:Int):yw k f e n=some ⟨[f,IntKind.u8.wrap (Int.fdiv e (2 ^ 16)),IntKind.u8.wrap (Int.fdiv e (2 ^ 8)),IntKind.u8.wrap e,IntKind.u8.wrap (Int.fdiv n (2 ^ 8)),IntKind.u8.wrap n,
  0,0,0,0,0,0,0,0,0,0,0,0,0,0,0,0,0,0,0,0,0,0,0,0,0,165],rfl⟩:=by rfl
theorem oS (e:Int):be e 3=[IntKind.u8.wrap (Int.fdiv e (2 ^ 16)),IntKind.u8.wrap (Int.fdiv e (2 ^ 8)),IntKind.u8.wrap e]:=by
 simp[be]
theorem vQ (e:Int):be e 2=[IntKind.u8.wrap (Int.fdiv e (2 ^ 8)),IntKind.u8.wrap e]:=by
 simp[be]
def ji (e n:Int) (ao:Int) (code:List Int) (i:Nat):List Int:=
 [112]++be e 3++be n 2++[IntKind.u8.wrap (i:Int),IntKind.u8.wrap ao]++((code.drop (23*i)).take 23++List.replicate (23 - min (code.drop (23*i)).length 23) 0)++[165]
theorem aeb (e n ao:Int) (code:List Int) (i:Nat):(ji e n ao code i).length=32:=by
 simp only[ji,A1,dW,AA,AB,A8,CR]
 omega
def ec (e n:Int) (ao:Int) (code:List Int) (i:Nat):Aa 32 Int:=⟨ji e n ao code i,aeb e n ao code i⟩
def bB (len:Nat):Nat:=(len+22) / 23
theorem abH {len:Nat} (h:len<=1000):ab (Int.tdiv (ab ((ab ((len:Int)+23)) - 1)) 23)=(bB len:Int):=by
 rw[aW (n:=(len:Int)+23) (by omega) (by omega),aW (n:=(len:Int)+23 - 1) (by omega) (by omega)]
 have e:((len:Int)+23 - 1)=((len+22:Nat):Int):=by omega
 rw[e]
 have:Int.tdiv ((len+22:Nat):Int) 23=(((len+22) / 23:Nat):Int):=by
  rw[show (23:Int)=((23:Nat):Int) from rfl,<-Int.ofNat_tdiv]
 rw[this,aW (by omega) (by omega)]
 rfl
theorem ady {len i:Nat} (h:i<bB len):23*i<len:=by unfold bB at h;omega
theorem aqQ {e n:Int}{ao:Int}{code:List Int}{i:Nat}{l:List Int} (hl:l=(code.drop (23*i)).take 23):
  (((⟨[112,IntKind.u8.wrap (Int.fdiv e (2 ^ 16)),IntKind.u8.wrap (Int.fdiv e (2 ^ 8)),IntKind.u8.wrap e,IntKind.u8.wrap (Int.fdiv n (2 ^ 8)),IntKind.u8.wrap n,
   0,0,0,0,0,0,0,0,0,0,0,0,0,0,0,0,0,0,0,0,0,0,0,0,0,165],rfl⟩:Aa 32 Int).set 6 (IntKind.u8.wrap (i:Int))).set 7 (IntKind.u8.wrap ao)).put 8 23 l=ec e n ao code i:=by
 apply Aa.ext
 have hle:l.length<=23:=by rw[hl,A8];omega
 have aoT:min l.length 23=l.length:=by omega
 have hlm:l.length=min (code.drop (23*i)).length 23:=by rw[hl,A8];omega
 unfold Aa.put
 rw[dif_pos (by decide)]
 show List.take 8 _++(List.take 23 l++List.drop (8+min l.length 23) _)=ji e n ao code i
 rw[aoT,Co hle]
 have hd:∀ m,m<=23->List.drop (8+m) ((((⟨[112,IntKind.u8.wrap (Int.fdiv e (2 ^ 16)),IntKind.u8.wrap (Int.fdiv e (2 ^ 8)),IntKind.u8.wrap e,IntKind.u8.wrap (Int.fdiv n (2 ^ 8)),IntKind.u8.wrap n,
   0,0,0,0,0,0,0,0,0,0,0,0,0,0,0,0,0,0,0,0,0,0,0,0,0,165],rfl⟩:Aa 32 Int).set 6 (IntKind.u8.wrap (i:Int))).set 7 (IntKind.u8.wrap ao)).l)=List.replicate (23 - m) 0++[165]:=by
  intro m hm
  rw[<-List.drop_drop]
  show List.drop m (List.replicate 23 (0:Int)++[(165:Int)])=_
  rw[DI (by simp;exact hm),List.drop_replicate]
 rw[hd _ hle]
 show [112,IntKind.u8.wrap (Int.fdiv e (2 ^ 16)),IntKind.u8.wrap (Int.fdiv e (2 ^ 8)),IntKind.u8.wrap e,IntKind.u8.wrap (Int.fdiv n (2 ^ 8)),IntKind.u8.wrap n,IntKind.u8.wrap (i:Int),IntKind.u8.wrap ao]++_=_
 unfold ji
 rw[oS,vQ,<-hlm,<-hl]
 simp
theorem ajh {k:Nat} (hk:100000<k) {r:Ab} (ht:r.Text.size<=200) (n e:Int):
  gu k r n e=some ((List.range (bB (enc r).length)).map (ec e n (bB (enc r).length) (enc r))):=by
 have hlen:=yR r
 have hc:bB (enc r).length<=10:=by unfold bB;omega
 unfold gu
 rw[ane (by omega) (by omega)]
 simp only[Ae]
 have h:=afy (n:=bB (enc r).length) (body:=gu.b0 k n e (enc r)) (fun i s=>(i,s)) (fun s i=>s++[ec e n (bB (enc r).length) (enc r) i]) (fun i s=>s.length=i) (by omega) (k:=k) (by omega) (s0:=[]) rfl (fun i s hi hs=>by
  have af:=ady hi
  refine⟨?_,by simp[hs]⟩
  unfold gu.b0
  have gk:ab ((i:Int)*23)=((23*i:Nat):Int):=by rw[aW]<;>omega
  have uU:ab ((ab ((i:Int)+1))*23)=((23*(i+1):Nat):Int):=by
   rw[aW (n:=(i:Int)+1) (by omega) (by omega),aW]<;>omega
  have xp:ck (enc r) ((23*i:Nat):Int) (min ((enc r).length:Int) ((23*(i+1):Nat):Int))=some (((enc r).drop (23*i)).take 23):=by
   unfold ck
   rw[if_pos (by omega)]
   congr 1
   have e1:(min ((enc r).length:Int) ((23*(i+1):Nat):Int)).toNat - (((23*i:Nat):Int)).toNat=min 23 ((enc r).drop (23*i)).length:=by
    rw[Bt];omega
   rw[e1,BQ]
   rw[<-List.take_take,BA]
  simp only[abH (show (enc r).length<=1000 by omega),Au (show (i:Int)<(bB (enc r).length:Int) by omega),Am,amq,Ae,gk,uU,xp]
  rw[aqQ rfl,nG (by rw[hs];omega) (by rw[hs];omega)]
  rfl) (fun s hs=>by
  unfold gu.b0
  simp only[abH (show (enc r).length<=1000 by omega),(by simp:decide ((bB (enc r).length:Int)<(bB (enc r).length:Int))=false),An])
 have h1:=h.1
 rw[h1]
 simp only[Ae]
 rw[adV]
 rfl
theorem ank (l:List Int):ng (List.replicate 23 (0:Int)) 0 23 l=l.take 23++List.replicate (23 - min l.length 23) 0:=by
 unfold ng
 rw[List.drop_replicate,CA,List.take_zero,Ce]
theorem ar8 (e n ao:Int) (code:List Int) (i:Nat):Aa.oD 32 (ji e n ao code i)=some (ec e n ao code i):=by
 unfold Aa.oD
 rw[dif_pos (by rw[aeb];exact AY _)]
 congr 1
 apply Aa.ext
 show List.take 32 (ji e n ao code i)=ji e n ao code i
 rw[Co (by rw[aeb];exact AY _)]
theorem ah3 {k:Nat} (hk:100000<k) {r:Ab} (ht:r.Text.size<=200) (n e:Int):
  Cn k r n e=some ((List.range (bB (enc r).length)).map (ec e n (bB (enc r).length) (enc r))):=by
 have hlen:=yR r
 have hc:bB (enc r).length<=10:=by unfold bB;omega
 unfold Cn
 rw[amS (by omega) (by omega)]
 simp only[Ae]
 have h:=afy (n:=bB (enc r).length) (body:=Cn.b0 k n e (enc r)) (fun i s=>(i,s)) (fun s i=>s++[ec e n (bB (enc r).length) (enc r) i]) (fun i s=>s.length=i) (by omega) (k:=k) (by omega) (s0:=[]) rfl (fun i s hi hs=>by
  have af:=ady hi
  refine⟨?_,by simp[hs]⟩
  unfold Cn.b0
  have gk:ab (23*(i:Int))=((23*i:Nat):Int):=by rw[aW]<;>omega
  have xp:ck (enc r) ((23*i:Nat):Int) ((enc r).length:Int)=some ((enc r).drop (23*i)):=by
   unfold ck
   rw[if_pos (by omega)]
   congr 1
   rw[BQ,BQ,<-Bt,BA]
  have h3:Cd k e 3=some (be e 3):=aco e (w:=3) (by decide) (by omega)
  have h2:Cd k n 2=some (be n 2):=aco n (w:=2) (by decide) (by omega)
  have hm:kR 23 1 (0:Int)=some (List.replicate 23 0):=by rfl
  have cG:(ng (List.replicate 23 (0:Int)) 0 23 ((enc r).drop (23*i))).length=23:=by rw[agU _ (by simp)];simp
  simp only[abH (show (enc r).length<=1000 by omega),Au (show (i:Int)<(bB (enc r).length:Int) by omega),Am,h3,h2,hm,Ae,gk,xp]
  rw[kz (by (simp only[A1,dW,AA,AB])<;>omega) (by (simp only[A1,dW,AA,AB])<;>omega)]
  simp only[Ae]
  rw[kz (by (simp only[A1,dW,AA,AB])<;>omega) (by (simp only[A1,dW,AA,AB])<;>omega)]
  simp only[Ae]
  rw[kz (by (simp only[A1,dW,AA,AB])<;>omega) (by (simp only[A1,dW,AA,AB])<;>omega)]
  simp only[Ae]
  rw[kz (by (simp only[A1,dW,AA,AB,cG])<;>omega) (by (simp only[A1,dW,AA,AB,cG])<;>omega)]
  simp only[Ae]
  rw[nG (by (simp only[A1,dW,AA,AB,cG])<;>omega) (by (simp only[A1,dW,AA,AB,cG])<;>omega)]
  simp only[Ae]
  have hl:[112]++be e 3++be n 2++[IntKind.u8.wrap (i:Int),IntKind.u8.wrap (bB (enc r).length:Int)]++ng (List.replicate 23 (0:Int)) 0 23 ((enc r).drop (23*i))++[165]=ji e n (bB (enc r).length) (enc r) i:=by
   rw[ank];rfl
  rw[hl,ar8]
  simp only[Ae]
  rw[nG (by rw[hs];omega) (by rw[hs];omega)]
  rfl) (fun s hs=>by
  unfold Cn.b0
  simp only[abH (show (enc r).length<=1000 by omega),(by simp:decide ((bB (enc r).length:Int)<(bB (enc r).length:Int))=false),An])
 have h1:=h.1
 rw[h1]
 simp only[Ae]
 rw[adV]
 rfl
theorem ar6 (v:Aa 32 Int):Aa.eq (fun(x y:Int)=>decide (x=y)) v v=true:=by
 unfold Aa.eq
 rw[List.all_eq_true]
 intro p hp
 obtain⟨i,hi⟩:=BH.1 hp
 rw[List.getElem?_zip_eq_some]at hi
 obtain⟨h1,h2⟩:=hi
 rw[h1]at h2
 simp only[oE]at h2
 simp[h2]
def ig (h:Aa 32 Int):List Int:=(h.l.drop 8).take 23
def tv (c:List Int):List Int:=c++List.replicate (23*bB c.length - c.length) 0
theorem agL (n:Nat):n<=23*bB n:=by unfold bB;omega
theorem aqD (c:List Int):(tv c).length=23*bB c.length:=by
 have:=agL c.length
 unfold tv;simp;omega
theorem aqI (e n:Int) (c:List Int) {i:Nat} (hi:i<bB c.length):ig (ec e n (bB c.length) c i)=((tv c).drop (23*i)).take 23:=by
 have af:=ady hi
 unfold ig ec ji tv
 simp only
 rw[oS,vQ]
 simp only[Bz,Ce,Cy,List.drop_succ_cons,List.drop_zero]
 rw[DI (by omega),<-Cy,Dd (by simp;omega),Co (by simp;omega)]
 rw[List.take_append,List.take_replicate,Bt]
 congr 2
 have:=agL c.length
 omega
theorem chunks (P:List Int) (w:Nat):∀ n,((List.range n).map fun i=>(P.drop (w*i)).take w).flatten=P.take (w*n)
 |0=>by simp
 |n+1=>by
  rw[List.range_succ,DJ,List.flatten_append,chunks P w n]
  simp only[List.map_cons,List.map_nil,CG,List.flatten_nil,List.append_nil]
  rw[Nat.mul_succ,List.take_add]
theorem apy (e n:Int) (c:List Int):(((List.range (bB c.length)).map (ec e n (bB c.length) c)).map ig).flatten=tv c:=by
 have:(((List.range (bB c.length)).map (ec e n (bB c.length) c)).map ig)=(List.range (bB c.length)).map fun i=>((tv c).drop (23*i)).take 23:=by
  rw[List.map_map]
  apply List.map_congr_left
  intro i hi
  exact aqI e n c (List.mem_range.1 hi)
 rw[this,chunks,<-aqD,BA]
def bj (r:Ab) (n e:Int):List (Aa 32 Int):=(List.range (bB (enc r).length)).map (ec e n (bB (enc r).length) (enc r))
theorem jG (r:Ab) (n e:Int):(bj r n e).length=bB (enc r).length:=by simp[bj]
theorem oZ (r:Ab):0<bB (enc r).length:=by rw[yR];unfold bB;omega
theorem rd3 {n:Int} (h0:0<=n) (h1:n<16777216):bo (be n 3)=n:=by
 simp only[be,vC,bo,pS,List.foldl]
 rw[Int.fdiv_eq_ediv_of_nonneg _ (by decide),Int.fdiv_eq_ediv_of_nonneg _ (by decide),Int.fdiv_eq_ediv_of_nonneg _ (by decide)]
 simp
 omega
theorem rH (v w:Aa 32 Int):Aa.eq (fun(x y:Int)=>decide (x=y)) v w=true↔v=w:=by
 constructor
 ·intro h
  unfold Aa.eq at h
  rw[List.all_eq_true]at h
  apply Aa.ext
  apply List.ext_getElem (by rw[v.h,w.h])
  intro i h1 h2
  have:=h (v.l[i],w.l[i]) (List.mem_iff_getElem.2 ⟨i,by simp;omega,by simp⟩)
  simpa using this
 ·rintro rfl;exact ar6 _
theorem arp {α R:Type}{body:Bool×Int->Option (AN (Bool×Int) Bool R)}{a b:List α} (hab:a.length=b.length) (hl:a.length<=1000000) {eq:α->α->Bool} (he:∀ x y,eq x y=true↔x=y) {k:Nat} (hk:10000000<k)
  (h1:∀ (i:Nat) x y,a[i]?=some x->b[i]?=some y->body (true,(i:Int))=some (.next (eq x y,ab ((i:Int)+1))))
  (h2:∀ i:Nat,i<=a.length->body (false,(i:Int))=some (.brk false)) (h3:body (true,(a.length:Int))=some (.brk true)):
  ∃ c:Bool,ai body k (true,0)=some (.brk c)/\(c=true↔a=b):=by
 have key:∀ (d i m:Nat),i+d=a.length->d+2<=m->∃ c:Bool,ai body m (true,(i:Int))=some (.brk c)/\(c=true↔a.drop i=b.drop i):=by
  intro d
  induction d with
  |zero=>
   intro i m h4 h5
   obtain⟨m,rfl⟩:∃ q,m=q+1:=⟨m - 1,by omega⟩
   have:i=a.length:=by omega
   subst this
   refine⟨true,by simp only[ai,h3],?_⟩
   rw[Dr (AY _),Dr (by omega)]
   simp
  |succ d ih=>
   intro i m h4 h5
   obtain⟨m,rfl⟩:∃ q,m=q+1:=⟨m - 1,by omega⟩
   have ha:a[i]?=some (a[i]'(by omega)):=gG (by omega)
   have hb:b[i]?=some (b[i]'(by omega)):=gG (by omega)
   have hw:ab ((i:Int)+1)=((i+1:Nat):Int):=by rw[aW (by omega) (by omega)];omega
   rw[List.drop_eq_getElem_cons (show i<a.length by omega),List.drop_eq_getElem_cons (show i<b.length by omega)]
   simp only[ai,h1 i _ _ ha hb,hw]
   cases hq:eq (a[i]'(by omega)) (b[i]'(by omega)) with
   |true=>
    obtain⟨c,h6,h7⟩:=ih (i+1) m (by omega) (by omega)
    refine⟨c,h6,?_⟩
    rw[h7,(he _ _).1 hq]
    exact⟨fun h=>by rw[h],fun h=>(List.cons.inj h).2⟩
   |false=>
    obtain⟨m,rfl⟩:∃ q,m=q+1:=⟨m - 1,by omega⟩
    refine⟨false,by simp only[ai,h2 (i+1) (by omega)],?_⟩
    constructor
    ·intro h;cases h
    ·intro h
     have:=(List.cons.inj h).1
     rw[(he _ _).2 this]at hq;cases hq
 have:=key a.length 0 k (by omega) (by omega)
 simpa using this
end Go.Abs
namespace Go.Abs
def fH (a b:Int×Int):Prop:=a.1<b.1\/(a.1=b.1/\a.2<b.2)
instance (a b:Int×Int):Decidable (fH a b):=inferInstanceAs (Decidable (_\/_))
theorem ag6 {a b c:Int×Int} (h:fH a b) (g:fH b c):fH a c:=by unfold fH at *;omega
theorem adH (a:Int×Int):¬ fH a a:=by unfold fH;omega
theorem anS (a b:Int×Int):fH a b\/a=b\/fH b a:=by
 obtain⟨a1,a2⟩:=a;obtain⟨b1,b2⟩:=b
 unfold fH;simp only[Prod.mk.injEq];omega
section
variable {α:Type} (key:α->Int×Int)
def CC (l:List α):Prop:=l.Pairwise fun x y=>fH (key x) (key y)
def ao (l:List α) (h:Int):Nat:=l.countP fun x=>decide ((key x).1=h)
theorem ss (h:Int):ao key [] h=0:=rfl
theorem uk (l m:List α) (h:Int):ao key (l++m) h=ao key l h+ao key m h:=by
 unfold ao;exact List.countP_append
theorem lu (x:α) (l:List α) (h:Int):ao key (x::l) h=ao key l h+if (key x).1=h then 1 else 0:=by
 unfold ao;rw[List.countP_cons];simp only[decide_eq_true_eq]
theorem anb {l:List α}{h:Int} (H:∀ x∈l,(key x).1≠h):ao key l h=0:=by
 unfold ao;rw[List.countP_eq_zero];intro x hx;simp[H x hx]
def VL:(Int->Int)->List α->Prop
 |_,[]=>True
 |c,x::l=>(key x).2=c (key x).1/\VL (fun h=>if h=(key x).1 then c h+1 else c h) l
theorem Eo:∀ {l:List α}{c d:Int->Int} (H:∀ x∈l,c (key x).1=d (key x).1),VL key c l->VL key d l
 |[],_,_,_,_=>trivial
 |x::l,c,d,H,h=>by
  refine⟨by rw[<-H x (by simp)];exact h.1,Eo (l:=l) (fun y hy=>?_) h.2⟩
  have:=H y (by simp[hy])
  by_cases e:(key y).1=(key x).1
  ·simp only[e,if_true];rw[H x (by simp)]
  ·simp only[if_neg e];exact this
theorem Fo:∀ {l m:List α}{c:Int->Int},VL key c (l++m)↔VL key c l/\VL key (fun h=>c h+ao key l h) m
 |[],m,c=>by
  simp only[Ce,ss,VL,true_and]
  constructor<;>exact Eo key (fun x _=>by simp)
 |x::l,m,c=>by
  simp only[Bz,VL]
  rw[Fo (l:=l)]
  constructor
  ·rintro⟨h1,h2,h3⟩
   refine⟨⟨h1,h2⟩,Eo key (fun y _=>?_) h3⟩
   rw[lu]
   by_cases e:(key y).1=(key x).1
   ·simp only[e,if_true];omega
   ·simp only[if_neg e,if_neg (Ne.symm e)];omega
  ·rintro⟨⟨h1,h2⟩,h3⟩
   refine⟨h1,h2,Eo key (fun y _=>?_) h3⟩
   rw[lu]
   by_cases e:(key y).1=(key x).1
   ·simp only[e,if_true];omega
   ·simp only[if_neg e,if_neg (Ne.symm e)];omega
def Di (l:List α):Prop:=CC key l/\VL key (fun _=>0) l
theorem F6:∀ {l:List α}{c:Int->Int},VL key c l->∀ x∈l,c (key x).1<=(key x).2/\(key x).2<c (key x).1+ao key l (key x).1
 |y::l,c,h,x,hx=>by
  rw[lu]
  rcases BF.1 hx with rfl|hx
  ·have:=h.1;simp only[if_true];omega
  ·have:=F6 h.2 x hx
   by_cases e:(key x).1=(key y).1
   ·simp only[e,if_true]at this ⊢;omega
   ·simp only[if_neg e,if_neg (Ne.symm e)]at this ⊢;omega
theorem Ep:∀ {l:List α}{c:Int->Int},VL key c l->∀ (h n:Int),c h<=n->n<c h+ao key l h->∃ x∈l,key x=(h,n)
 |[],c,_,h,n,h1,h2=>by rw[ss]at h2;omega
 |y::l,c,hv,h,n,h1,h2=>by
  rw[lu]at h2
  by_cases e:(key y).1=h
  ·by_cases e2:n=c h
   ·refine⟨y,by simp,?_⟩
    have h3:=hv.1
    rw[e]at h3
    exact Prod.ext e (by rw[h3,e2])
   ·obtain⟨x,hx,hk⟩:=Ep hv.2 h n (by rw[if_pos e.symm];omega) (by rw[if_pos e.symm];rw[if_pos e]at h2;omega)
    exact⟨x,by simp[hx],hk⟩
  ·obtain⟨x,hx,hk⟩:=Ep hv.2 h n (by rw[if_neg (Ne.symm e)];omega) (by rw[if_neg (Ne.symm e)];rw[if_neg e]at h2;omega)
   exact⟨x,by simp[hx],hk⟩
def pos (l:List α) (e:Int×Int):Nat:=l.countP fun x=>decide (fH (key x) e)
theorem aau (l:List α) (e:Int×Int):pos key l e<=l.length:=List.countP_le_length
def fk (l:List α) (r:α):List α:=l.take (pos key l (key r))++r::l.drop (pos key l (key r))
theorem aqK (x:α) (l:List α) (e:Int×Int):pos key (x::l) e=pos key l e+if fH (key x) e then 1 else 0:=by
 unfold pos;rw[List.countP_cons];simp only[decide_eq_true_eq]
theorem aqL {l:List α}{e:Int×Int} (H:∀ x∈l,¬ fH (key x) e):pos key l e=0:=by
 unfold pos;rw[List.countP_eq_zero];intro x hx;simp[H x hx]
theorem acP:∀ {l:List α},CC key l->∀ (e:Int×Int),(∀ x∈l.take (pos key l e),fH (key x) e)/\(∀ x∈l.drop (pos key l e),¬ fH (key x) e)
 |[],_,e=>by simp
 |y::l,hs,e=>by
  have uS:=List.pairwise_cons.1 hs
  by_cases h:fH (key y) e
  ·obtain⟨h1,h2⟩:=acP uS.2 e
   rw[aqK,if_pos h]
   refine⟨fun x hx=>?_,fun x hx=>?_⟩
   ·rw[List.take_succ_cons]at hx
    rcases BF.1 hx with rfl|hx
    ·exact h
    ·exact h1 x hx
   ·rw[List.drop_succ_cons]at hx;exact h2 x hx
  ·have hz:pos key (y::l) e=0:=aqL key (fun x hx=>by
    rcases BF.1 hx with rfl|hx
    ·exact h
    ·intro hc;exact h (ag6 (uS.1 x hx) hc))
   rw[hz]
   refine⟨by simp,fun x hx=>?_⟩
   rw[List.drop_zero]at hx
   rcases BF.1 hx with rfl|hx
   ·exact h
   ·intro hc;exact h (ag6 (uS.1 x hx) hc)
theorem rz {l:List α} (hs:CC key l) (e:Int×Int) {i:Nat}{x:α} (hx:l[i]?=some x):fH (key x) e↔i<pos key l e:=by
 obtain⟨h1,h2⟩:=acP key hs e
 constructor
 ·intro h
  rcases Nat.lt_or_ge i (pos key l e) with hi|hi
  ·exact hi
  ·exact absurd h (h2 x (BH.2 ⟨i - pos key l e,by rw[Cu,Nat.add_sub_cancel' hi];exact hx⟩))
 ·intro h
  exact h1 x (BH.2 ⟨i,by rw[Ca,if_pos h];exact hx⟩)
theorem aci {l:List α}{r x:α}:x∈fk key l r↔x=r\/x∈l:=by
 unfold fk
 rw[A9,BF]
 constructor
 ·rintro(h|h|h)
  ·exact .inr (BD h)
  ·exact .inl h
  ·exact .inr (Cj h)
 ·rintro(h|h)
  ·exact .inr (.inl h)
  ·rw[<-CY (pos key l (key r)) l,A9]at h
   rcases h with h|h
   ·exact .inl h
   ·exact .inr (.inr h)
theorem uY (l:List α) (r:α):(fk key l r).length=l.length+1:=by
 have:=aau key l (key r)
 unfold fk;simp;omega
theorem ana (l:List α) (r:α) (h:Int):ao key (fk key l r) h=ao key l h+if (key r).1=h then 1 else 0:=by
 unfold fk
 rw[uk,lu]
 have:=uk key (l.take (pos key l (key r))) (l.drop (pos key l (key r))) h
 rw[CY]at this
 omega
theorem arI {l:List α} (hs:CC key l) {r:α} (hn:∀ x∈l,key x≠key r):CC key (fk key l r):=by
 obtain⟨h1,h2⟩:=acP key hs (key r)
 unfold CC fk
 have h:=hs
 unfold CC at h
 rw[<-CY (pos key l (key r)) l,List.pairwise_append]at h
 rw[List.pairwise_append,List.pairwise_cons]
 refine⟨h.1,⟨fun x hx=>?_,h.2.1⟩,fun x hx y hy=>?_⟩
 ·rcases anS (key x) (key r) with e|e|e
  ·exact absurd e (h2 x hx)
  ·exact absurd e (hn x (Cj hx))
  ·exact e
 ·rcases BF.1 hy with rfl|hy
  ·exact h1 x hx
  ·exact h.2.2 x hx y hy
theorem afu {l:List α} (hv:Di key l):∀ x∈l,0<=(key x).2/\(key x).2<ao key l (key x).1:=fun x hx=>by
 have:=F6 key hv.2 x hx;omega
theorem ar3 {l:List α} (hv:Di key l) {h n:Int} (h0:0<=n) (h1:n<ao key l h):∃ x∈l,key x=(h,n):=Ep key hv.2 h n (by omega) (by omega)
theorem akq {l:List α} (hv:Di key l) {r:α} (hr:(key r).2=ao key l (key r).1):Di key (fk key l r):=by
 have hn:∀ x∈l,key x≠key r:=fun x hx e=>by
  have:=afu key hv x hx
  rw[e]at this;omega
 refine⟨arI key hv.1 hn,?_⟩
 obtain⟨h1,h2⟩:=acP key hv.1 (key r)
 have hd:∀ x∈l.drop (pos key l (key r)),(key x).1≠(key r).1:=fun x hx e=>by
  have:=afu key hv x (Cj hx)
  apply h2 x hx
  rw[e]at this
  exact .inr ⟨e,by omega⟩
 have zZ:=hv.2
 rw[<-CY (pos key l (key r)) l,Fo]at zZ
 unfold fk
 rw[Fo]
 refine⟨zZ.1,?_,?_⟩
 ·have e:=uk key (l.take (pos key l (key r))) (l.drop (pos key l (key r))) (key r).1
  rw[CY,anb key hd]at e
  rw[hr];show ((ao key l (key r).1:Nat):Int)=0+((ao key (l.take (pos key l (key r))) (key r).1:Nat):Int);omega
 ·refine Eo key (fun x hx=>?_) zZ.2
  rw[if_neg (hd x hx)]
theorem aj1 {l:List α} (hs:CC key l) {x y:α} (hx:x∈l) (hy:y∈l) (e:key x=key y):x=y:=by
 obtain⟨i,hi⟩:=BH.1 hx
 obtain⟨j,hj⟩:=BH.1 hy
 have h1:=(rz key hs (key y) hi)
 have h2:=(rz key hs (key y) hj)
 have h3:=(rz key hs (key x) hi)
 have h4:=(rz key hs (key x) hj)
 have uL:i=j:=by
  rcases Nat.lt_trichotomy i j with h|h|h
  ·have hp:=List.pairwise_iff_getElem.1 hs i j (gS.1 hi).1 (gS.1 hj).1 h
   rw[(gS.1 hi).2,(gS.1 hj).2,e]at hp
   exact absurd hp (adH _)
  ·exact h
  ·have hp:=List.pairwise_iff_getElem.1 hs j i (gS.1 hj).1 (gS.1 hi).1 h
   rw[(gS.1 hi).2,(gS.1 hj).2,e]at hp
   exact absurd hp (adH _)
 subst uL
 exact oi (hi.symm.trans hj)
end
end Go.Abs
namespace Go.Abs
section
variable {α:Type} [DecidableEq α] (key:α->Int×Int)
def gA (l:List α) (e:Int×Int):Option α:=l.find? fun x=>decide (key x=e)
theorem ahC {l:List α}{e:Int×Int}{x:α} (h:gA key l e=some x):x∈l/\key x=e:=by
 unfold gA at h
 have h1:=List.find?_some h
 exact⟨List.mem_of_find?_eq_some h,by simpa using h1⟩
theorem abR {l:List α}{e:Int×Int} (h:gA key l e=none):∀ x∈l,key x≠e:=by
 unfold gA at h
 rw[List.find?_eq_none]at h
 intro x hx;simpa using h x hx
theorem y5 {l:List α}{e:Int×Int} (h:∀ x∈l,key x≠e):gA key l e=none:=by
 unfold gA;rw[List.find?_eq_none];intro x hx;simpa using h x hx
theorem adR {l:List α} (hs:CC key l) {x:α} (hx:x∈l):gA key l (key x)=some x:=by
 cases h:gA key l (key x) with
 |none=>exact absurd rfl (abR key h x hx)
 |some y=>obtain⟨h1,h2⟩:=ahC key h;rw[aj1 key hs h1 hx h2]
theorem ahB {l:List α} (hs:CC key l) (e:Int×Int):gA key l e=(l[pos key l e]?).filter fun x=>decide (key x=e):=by
 cases h:gA key l e with
 |some x=>
  obtain⟨h1,h2⟩:=ahC key h
  obtain⟨i,hi⟩:=BH.1 h1
  have hp:i=pos key l e:=by
   rcases Nat.lt_trichotomy i (pos key l e) with g|g|g
   ·have:=(rz key hs e hi).2 g;rw[h2]at this;exact absurd this (adH _)
   ·exact g
   ·have af:pos key l e<l.length:=by have:=(gS.1 hi).1;omega
    have hy:l[pos key l e]?=some l[pos key l e]:=gG af
    have h3:¬ fH (key l[pos key l e]) e:=fun c=>by have:=(rz key hs e hy).1 c;omega
    have hp:=List.pairwise_iff_getElem.1 hs (pos key l e) i af (gS.1 hi).1 g
    rw[(gS.1 hi).2,h2]at hp
    exact absurd hp h3
  rw[<-hp,hi]
  simp[Option.filter,h2]
 |none=>
  have hn:=abR key h
  cases hq:l[pos key l e]? with
  |none=>rfl
  |some y=>
   have:=hn y (A6 hq)
   simp[Option.filter,this]
def jn (out:List α) (r:α):Option (List α):=match gA key out (key r) with
 |some x=>if x=r then some out else none
 |none=>some (fk key out r)
def cs (a:List α) (m:Nat) (r:α):Option Nat:=match gA key a (key r) with
 |some x=>if x=r then some m else none
 |none=>some (m+1)
end
end Go.Abs
namespace Go.Abs
section
variable {α:Type} (key:α->Int×Int)
def bk (out l:List α):List α:=l.foldl (fk key) out
structure BI (done out:List α):Prop where
 mem:∀ x,x∈out↔x∈done
 val:Di key out
 num:∀ h,ao key out h=ao key done h
 len:out.length=done.length
theorem BI.nil:BI key [] []:=⟨fun x=>Iff.rfl,⟨.nil,trivial⟩,fun h=>rfl,rfl⟩
theorem BI.step {done out:List α}{r:α} (hJ:BI key done out) (hr:(key r).2=ao key done (key r).1):BI key (done++[r]) (fk key out r):=by
 refine⟨fun x=>?_,akq key hJ.val (by rw[hJ.num];exact hr),fun h=>?_,?_⟩
 ·rw[aci,hJ.mem,A9,CS];exact Or.comm
 ·rw[ana,hJ.num,uk,lu,ss];omega
 ·rw[uY,hJ.len];simp
theorem BI.no {done out:List α}{r:α} (hJ:BI key done out) (hr:(key r).2=ao key done (key r).1):∀ x∈out,key x≠key r:=fun x hx e=>by
 have:=afu key hJ.val x hx
 rw[e,hJ.num]at this;omega
theorem BI.all:∀ {m done out:List α},BI key done out->VL key (fun h=>ao key done h) m->BI key (done++m) (bk key out m)
 |[],done,out,hJ,_=>by rw[List.append_nil];exact hJ
 |r::m,done,out,hJ,hv=>by
  have h1:=BI.step key hJ (r:=r) hv.1
  have:=BI.all (m:=m) h1 (Eo key (fun x _=>by
   rw[uk,lu,ss]
   by_cases e:(key x).1=(key r).1
   ·rw[if_pos e,if_pos e.symm];simp
   ·rw[if_neg e,if_neg (Ne.symm e)];simp) hv.2)
  simpa [bk] using this
theorem BI.of {l:List α} (h:VL key (fun _=>0) l):BI key l (bk key [] l):=by
 have:=BI.all key (m:=l) (BI.nil key) h
 simpa using this
theorem Er {c:Int->Int}{l:List α} (h:VL key c l) (n:Nat):VL key c (l.take n):=by
 have:=h
 rw[<-CY n l,Fo]at this
 exact this.1
theorem Kp {l:List α} (h:VL key (fun _=>0) l) {x y:α} (hx:x∈l) (hy:y∈l) (e:key x=key y):x=y:=by
 have:=BI.of key h
 exact aj1 key this.val.1 ((this.mem x).2 hx) ((this.mem y).2 hy) e
end
section
variable {α:Type} [DecidableEq α] (key:α->Int×Int)
end
end Go.Abs
namespace Go.Abs
open Go Go.Proofs
theorem age (s:ByteArray):s.toList=s.data.toList:=by
 have key:∀ (d i:Nat) (r:List UInt8),i+d=s.size->ByteArray.toList.loop s i r=r.reverse++s.data.toList.drop i:=by
  intro d
  induction d with
  |zero=>
   intro i r h
   rw[ByteArray.toList.loop,if_neg (by omega)]
   have hl:s.data.toList.length=s.size:=rfl
   rw[Dr (by omega),List.append_nil]
  |succ d ih=>
   intro i r h
   have hl:s.data.toList.length=s.size:=rfl
   have hi:i<s.data.toList.length:=by omega
   rw[ByteArray.toList.loop,if_pos (by omega),ih (i+1) _ (by omega),List.drop_eq_getElem_cons hi]
   have e:s.get! i=s.data.toList[i]:=by
    show s.data[i]! = _
    rw[getElem!_pos s.data i (by simpa using hi)];simp
   rw[e];simp
 have:=key s.size 0 [] (by omega)
 simpa [ByteArray.toList] using this
theorem amo {a b:ByteArray}:a.toList=b.toList↔a=b:=by
 constructor
 ·intro h
  rw[age,age]at h
  cases a;cases b
  rename_i x y
  have:x=y:=Array.toList_inj.1 h
  rw[this]
 ·rintro rfl;rfl
def nI (x r:Ab):Bool:=(decide (x.At.Ac=r.At.Ac)&&(decide (x.At.No=r.At.No)&&(decide (x.Kind=r.Kind)&&(decide (x.Day=r.Day)&&(decide (x.Ap=r.Ap)&&(decide (x.Of.Ac=r.Of.Ac)&&(decide (x.Of.No=r.Of.No)&&(x.Text.toList==r.Text.toList))))))))
theorem acA {x r:Ab}:nI x r=true↔x=r:=by
 obtain⟨⟨a1,a2⟩,a3,a4,a5,⟨a6,a7⟩,a8⟩:=x
 obtain⟨⟨b1,b2⟩,b3,b4,b5,⟨b6,b7⟩,b8⟩:=r
 simp only[nI,Bo,decide_eq_true_eq,beq_iff_eq,amo,Ab.mk.injEq,Entry.mk.injEq]
 constructor
 ·rintro⟨h1,h2,h3,h4,h5,h6,h7,h8⟩;exact⟨⟨h1,h2⟩,h3,h4,h5,⟨h6,h7⟩,h8⟩
 ·rintro⟨⟨h1,h2⟩,h3,h4,h5,⟨h6,h7⟩,h8⟩;exact⟨h1,h2,h3,h4,h5,h6,h7,h8⟩
theorem ajB (x:Ab):nI x x=true:=acA.2 rfl
theorem ajA {x r:Ab} (h:x≠r):nI x r=false:=by
 cases e:nI x r with
 |false=>rfl
 |true=>exact absurd (acA.1 e) h
instance:DecidableEq Ab:=fun x y=>decidable_of_iff (nI x y=true) acA
def cz (a:Entry):Int×Int:=(a.Ac,a.No)
def ag (r:Ab):Int×Int:=(r.At.Ac,r.At.No)
def uj (a b:Int):Int:=if a<b then -1 else if b<a then 1 else 0
def qs (a b:Entry):Int:=if uj a.Ac b.Ac≠0 then uj a.Ac b.Ac else uj a.No b.No
theorem am6 (a b:Entry):qs a b<0↔fH (cz a) (cz b):=by
 unfold qs uj fH cz
 simp only
 repeat' split
 all_goals omega
theorem am5 (a b:Entry):qs a b=0↔cz a=cz b:=by
 unfold qs uj cz
 simp only[Prod.mk.injEq]
 repeat' split
 all_goals omega
theorem anf (k:Nat) (a b:Int):v8 k a b=some (uj a b):=by
 unfold v8 cmp_isNaN_int uj
 simp only[Ae,An]
 by_cases h:a<b
 ·simp[h]
 ·by_cases h2:b<a<;>simp[h,h2]
theorem aqt {k:Nat} (hk:10<k) (a b:Int):iA k [a,b]=some (if a≠0 then a else b):=by
 obtain⟨m,rfl⟩:∃ m,k=m+3:=⟨k - 3,by omega⟩
 unfold iA
 have h0:at? [a,b] 0=some a:=rfl
 have h1:at? [a,b] 1=some b:=rfl
 have w0:ab (0+1)=1:=by decide
 have w1:ab (1+1)=2:=by decide
 have v1:ab 1=1:=by decide
 have v2:ab 2=2:=by decide
 have l2:decide ((2:Int)<(([a,b]:List Int).length:Int))=false:=rfl
 have l1:decide ((1:Int)<(([a,b]:List Int).length:Int))=true:=rfl
 have l0:decide ((0:Int)<(([a,b]:List Int).length:Int))=true:=rfl
 by_cases e:a=0
 ·subst e
  by_cases e2:b=0
  ·subst e2
   simp[ai,iA.b0,h0,h1,w0,w1,v1,v2,l0,l1,l2]
  ·simp[ai,iA.b0,h0,h1,w0,w1,v1,v2,l0,l1,l2,e2]
 ·simp[ai,iA.b0,h0,l0,e]
theorem agM {k:Nat} (hk:10<k) (a b:Entry):yx k a b=some (qs a b):=by
 unfold yx qs
 simp only[anf,aqt hk,Ae]
theorem aom {n:Nat} (h:n<=1000000):ab (Int.fdiv (IntKind.u64.wrap (ab (n:Int))) (2 ^ 1))=((n / 2:Nat):Int):=by
 have h1:IntKind.u64.wrap (n:Int)=n:=by
  simp only[IntKind.wrap,IntKind.bits,IntKind.signed]
  simp
  omega
 rw[aW (n:=(n:Int)) (by omega) (by omega),h1,Int.fdiv_eq_ediv_of_nonneg _ (by decide)]
 have:((n:Int) / 2 ^ 1)=((n / 2:Nat):Int):=by simp
 rw[this,aW (by omega) (by omega)]
theorem art {k0:Nat} (iL:10<k0) {l:List Ab} (hs:CC ag l) (hl:l.length<=1000) (e:Entry):∀ (d i j k:Nat),j - i<=d->d<k->i<=pos ag l (cz e)->pos ag l (cz e)<=j->j<=l.length->
  ai (gE.b0 k0 (fun q0 q1=>sa k0 q0 q1) l e) k ((i:Int),(j:Int))=some (.brk ((pos ag l (cz e):Nat):Int)):=by
 intro d
 induction d with
 |zero=>
  intro i j k h1 h2 h3 h4 h5
  obtain⟨m,rfl⟩:∃ m,k=m+1:=⟨k - 1,by omega⟩
  have:i=pos ag l (cz e):=by omega
  have hd:decide ((i:Int)<(j:Int))=false:=by simp;omega
  simp only[ai,gE.b0,hd,An]
  rw[this]
 |succ d ih=>
  intro i j k h1 h2 h3 h4 h5
  obtain⟨m,rfl⟩:∃ m,k=m+1:=⟨k - 1,by omega⟩
  by_cases uL:i<j
  ·have hd:decide ((i:Int)<(j:Int))=true:=by simp;omega
   have hm:ab (Int.fdiv (IntKind.u64.wrap (ab ((i:Int)+(j:Int)))) (2 ^ 1))=(((i+j) / 2:Nat):Int):=by
    have:=aom (n:=i+j) (by omega)
    rw[<-this];push_cast;rfl
   have af:(i+j) / 2<l.length:=by omega
   have hx:l[(i+j) / 2]?=some l[(i+j) / 2]:=gG af
   have iI:=rz ag hs (cz e) hx
   have hf:sa k0 l[(i+j) / 2] e=some (qs l[(i+j) / 2].At e):=by
    unfold sa;rw[agM iL];rfl
   have hc:=am6 l[(i+j) / 2].At e
   have eC:cz l[(i+j) / 2].At=ag l[(i+j) / 2]:=rfl
   rw[eC]at hc
   by_cases hp:(i+j) / 2<pos ag l (cz e)
   ·have zG:decide (qs l[(i+j) / 2].At e<0)=true:=Au (hc.2 (iI.2 hp))
    have hw:ab ((((i+j) / 2:Nat):Int)+1)=(((i+j) / 2+1:Nat):Int):=by rw[aW (by omega) (by omega)];push_cast;rfl
    simp only[ai,gE.b0,hd,Am,hm,bp hx,Ae,hf,zG,hw]
    exact ih _ _ _ (by omega) (by omega) (by omega) h4 h5
   ·have zG:decide (qs l[(i+j) / 2].At e<0)=false:=AI (fun c=>hp (iI.1 (hc.1 c)))
    simp only[ai,gE.b0,hd,Am,hm,bp hx,Ae,hf,zG,An]
    exact ih _ _ _ (by omega) (by omega) h3 (by omega) (by omega)
  ·have:i=pos ag l (cz e):=by omega
   have hd:decide ((i:Int)<(j:Int))=false:=by simp;omega
   simp only[ai,gE.b0,hd,An]
   rw[this]
theorem an4 {k:Nat} (hk:10000<k) {b:Ak} (hs:CC ag b.Ah) (hl:b.Ah.length<=1000) (e:Entry):
  yA k b e=some (((pos ag b.Ah (cz e):Nat):Int),(gA ag b.Ah (cz e)).isSome):=by
 unfold yA gE
 have h:=art (k0:=k) (by omega) hs hl e b.Ah.length 0 b.Ah.length k (by omega) (by omega) (by omega) (aau ag _ _) (by omega)
 rw[Cz]at h
 rw[h]
 simp only[Ae]
 rw[ahB ag hs]
 by_cases hp:pos ag b.Ah (cz e)<b.Ah.length
 ·have hx:b.Ah[pos ag b.Ah (cz e)]?=some b.Ah[pos ag b.Ah (cz e)]:=gG hp
  have hd:decide (((pos ag b.Ah (cz e):Nat):Int)<(b.Ah.length:Int))=true:=by simp;omega
  simp only[hd,Am,bp hx,Ae]
  unfold sa
  rw[agM (by omega)]
  simp only[Ae,hx]
  have hc:=am5 b.Ah[pos ag b.Ah (cz e)].At e
  have eC:cz b.Ah[pos ag b.Ah (cz e)].At=ag b.Ah[pos ag b.Ah (cz e)]:=rfl
  rw[eC]at hc
  by_cases he:ag b.Ah[pos ag b.Ah (cz e)]=cz e
  ·rw[hc.2 he];simp[Option.filter,he]
  ·simp[Option.filter,he,mt hc.1 he]
 ·have hx:b.Ah[pos ag b.Ah (cz e)]?=none:=CF (by omega)
  have hd:decide (((pos ag b.Ah (cz e):Nat):Int)<(b.Ah.length:Int))=false:=by simp;omega
  simp only[hd,An,hx]
  rfl
def fx (l:List Ab):Aa 6 Int:=⟨[ao ag l 0,ao ag l 1,ao ag l 2,ao ag l 3,ao ag l 4,ao ag l 5],rfl⟩
theorem six {h:Int} (h0:0<=h) (h1:h<=5):h=0\/h=1\/h=2\/h=3\/h=4\/h=5:=by omega
theorem mw (l:List Ab) {h:Int} (h0:0<=h) (h1:h<=5):(fx l).at? h=some ((ao ag l h:Nat):Int):=by
 rcases six h0 h1 with rfl|rfl|rfl|rfl|rfl|rfl<;>rfl
theorem am8 (l:List Ab) (r:Ab) (h0:0<=r.At.Ac) (h1:r.At.Ac<=5):(fx l).set r.At.Ac ((ao ag l r.At.Ac:Nat)+1:Int)=fx (l++[r]):=by
 have hc:∀ h,ao ag (l++[r]) h=ao ag l h+if r.At.Ac=h then 1 else 0:=fun h=>by
  rw[uk,lu,ss]
  show _+(0+if r.At.Ac=h then 1 else 0)=_
  omega
 apply Aa.ext
 unfold fx
 simp only[hc]
 rcases six h0 h1 with e|e|e|e|e|e<;>rw[e]<;>simp[Aa.set]
def iC (r:Ab):Prop:=0<=r.At.Ac/\r.At.Ac<=5
theorem kT {r:Ab} (h:bC r=true):iC r:=by
 unfold bC ly within at h
 simp only[Bo,decide_eq_true_eq]at h
 exact h.1.1
theorem abG (l:List Ab) (h:Int):ao ag l h<=l.length:=List.countP_le_length
theorem agT {τ:Type}{body:τ->Option (AN τ (Aa 6 Int) (Aa 6 Int))} (mk:Int->Aa 6 Int->τ) {l:List Ab} (hl:l.length<=100000) (hh:∀ r∈l,iC r) {k:Nat} (hk:1000000<k)
  (h1:∀ (i:Nat) r s,l[i]?=some r->body (mk i s)=(s.at? r.At.Ac).bind fun x=>some (.next (mk (ab ((i:Int)+1)) (s.set r.At.Ac (ab (x+1)))))) (h2:∀ s,body (mk l.length s)=some (.brk s)):
  ai body k (mk 0 (Aa.rep 6 (0:Int)))=some (.brk (fx l)):=by
 have h:=qa (l:=l) (body:=body) mk (fun s r=>match s.at? r.At.Ac with|some x=>s.set r.At.Ac (ab (x+1))|none=>s) (fun i s=>s=fx (l.take i)) (by omega) (k:=k) (by omega) (s0:=Aa.rep 6 (0:Int)) (by rfl) (fun i r s hx hs=>by
  have hi:=(gS.1 hx).1
  have hr:=hh r (A6 hx)
  have e:l.take (i+1)=l.take i++[r]:=by rw[List.take_add_one,hx];rfl
  have hc:=abG (l.take i) r.At.Ac
  rw[A8]at hc
  rw[h1 i r s hx,hs,mw _ hr.1 hr.2]
  simp only[Ae]
  have hw:ab (((ao ag (l.take i) r.At.Ac:Nat):Int)+1)=((ao ag (l.take i) r.At.Ac:Nat):Int)+1:=aW (by omega) (by omega)
  rw[hw,am8 _ _ hr.1 hr.2,e]
  exact⟨trivial,rfl⟩) (fun s hs=>h2 s)
 have h3:=h.2
 rw[BA]at h3
 rw[h.1,h3]
theorem aed {k:Nat} (hk:1000000<k) {b:Ak} (hl:b.Ah.length<=100000) (hh:∀ r∈b.Ah,iC r):fh k b=some (fx b.Ah):=by
 unfold fh
 rw[agT (l:=b.Ah) (body:=fh.b0 k b) (fun i s=>(s,i)) hl hh hk (fun i r s hx=>by
  have hi:=(gS.1 hx).1
  unfold fh.b0
  simp only[Au (show (i:Int)<(b.Ah.length:Int) by omega),Am,bp hx,Ae]) (fun s=>by
  unfold fh.b0
  simp only[(by simp:decide ((b.Ah.length:Int)<(b.Ah.length:Int))=false),An])]
 rfl
theorem agG {k:Nat}{l:List Ab} (hl:l.length<=1000):xS k l=some l:=by
 unfold xS dI
 rw[if_pos ⟨by omega,by omega⟩];rfl
theorem wc {k:Nat}{b:Ak} (hl:b.Ah.length<=1000):vS k b=some b:=by
 unfold vS
 rw[agG hl];rfl
theorem apn {k:Nat}{l:List Ab} (hl:l.length<=1000) (r:Ab):aaC k l ((pos ag l (ag r):Nat):Int) [r]=some (fk ag l r):=by
 have:=aau ag l (ag r)
 unfold aaC
 rw[if_pos ⟨⟨by omega,by omega⟩,rfl,⟨by omega,by omega⟩⟩]
 rfl
end Go.Abs
namespace Go.Abs
open Go Go.Proofs
section
variable {α:Type} (key:α->Int×Int)
theorem Iq:∀ {l:List α}{c:Int->Int},VL key c l↔∀ (i:Nat) x,l[i]?=some x->(key x).2=c (key x).1+ao key (l.take i) (key x).1
 |[],c=>by simp[VL]
 |y::l,c=>by
  unfold VL
  rw[Iq (l:=l)]
  constructor
  ·rintro⟨h1,h2⟩ i x hx
   cases i with
   |zero=>cases hx;rw[h1];simp[ss]
   |succ i=>
    rw[Ci]at hx
    rw[h2 i x hx,List.take_succ_cons,lu]
    by_cases e:(key x).1=(key y).1
    ·rw[if_pos e,if_pos e.symm];simp only[e];omega
    ·rw[if_neg e,if_neg (Ne.symm e)];omega
  ·intro h
   refine⟨?_,fun i x hx=>?_⟩
   ·have:=h 0 y rfl
    simpa [ss] using this
   ·have:=h (i+1) x (by rw[Ci];exact hx)
    rw[this,List.take_succ_cons,lu]
    by_cases e:(key x).1=(key y).1
    ·rw[if_pos e,if_pos e.symm];simp only[e];omega
    ·rw[if_neg e,if_neg (Ne.symm e)];omega
end
theorem aeI {k:Nat} (hk:1000000<k) {l:List Ab} (hl:l.length<=100000) (hh:∀ r∈l,iC r):B8 k l=some (fx l):=by
 unfold B8
 rw[agT (l:=l) (body:=B8.b0 k l) (fun i s=>(s,i)) hl hh hk (fun i r s hx=>by
  have hi:=(gS.1 hx).1
  unfold B8.b0
  simp only[Au (show (i:Int)<(l.length:Int) by omega),Am,bp hx,Ae]) (fun s=>by
  unfold B8.b0
  simp only[(by simp:decide ((l.length:Int)<(l.length:Int))=false),An])]
 rfl
theorem af0 (k:Nat) (a b:Entry):Fh k a b=some (decide (fH (cz a) (cz b))):=by
 unfold Fh fH cz
 by_cases h1:a.Ac<b.Ac
 ·simp[h1]
 ·by_cases h2:a.Ac=b.Ac
  ·simp[h2]
  ·simp[h1,h2]
theorem aj4 {α:Type}{l:List α}{i j:Nat} (h1:i<=j) (h2:j<=l.length):ck l (i:Int) (j:Int)=some ((l.drop i).take (j - i)):=by
 unfold ck
 rw[if_pos (by omega),BQ,BQ]
theorem aj6 {α:Type}{l:List α}{i:Nat} (h2:i<=l.length):ck l 0 (i:Int)=some (l.take i):=aj4 (i:=0) (by omega) h2
theorem aj5 {α:Type}{l:List α}{i:Nat} (h2:i<=l.length):ck l (i:Int) (l.length:Int)=some (l.drop i):=by
 have:=aj4 (l:=l) (i:=i) (j:=l.length) h2 (AY _)
 rw[Co (by rw[Bt];omega)]at this
 exact this
theorem ahD {k:Nat}{l:List Ab} (hl:l.length<=100000) (hk:1000000<k) (e:Entry):
  (∃ (i:Nat) (x:Ab),BZ k l e=some (i:Int)/\l[i]?=some x/\ag x=cz e)\/(BZ k l e=some (-1)/\∀ x∈l,ag x≠cz e):=by
 have hc:∀ x:Ab,(decide (x.At.Ac=e.Ac)&&decide (x.At.No=e.No))=decide (ag x=cz e):=fun x=>by
  unfold ag cz
  simp only[Prod.mk.injEq]
  by_cases h1:x.At.Ac=e.Ac<;>by_cases h2:x.At.No=e.No<;>simp[h1,h2]
 have key:∀ (d i m:Nat),i+d=l.length->d<m->(∃ (j:Nat) (x:Ab),ai (BZ.b0 k l e) m (i:Int)=some (.ret (j:Int))/\l[j]?=some x/\ag x=cz e)\/(ai (BZ.b0 k l e) m (i:Int)=some (.brk ())/\∀ x∈l.drop i,ag x≠cz e):=by
  intro d
  induction d with
  |zero=>
   intro i m h1 h2
   obtain⟨m,rfl⟩:∃ q,m=q+1:=⟨m - 1,by omega⟩
   have e1:decide ((i:Int)<(l.length:Int))=false:=by simp;omega
   have hb:BZ.b0 k l e (i:Int)=some (.brk ()):=by
    unfold BZ.b0
    simp only[e1,An]
   right
   refine⟨by simp only[ai,hb],?_⟩
   rw[Dr (by omega)]
   intro x hx;cases hx
  |succ d ih=>
   intro i m h1 h2
   obtain⟨m,rfl⟩:∃ q,m=q+1:=⟨m - 1,by omega⟩
   obtain⟨x,hx⟩:∃ x,l[i]?=some x:=⟨_,gG (by omega)⟩
   have hw:ab ((i:Int)+1)=((i+1:Nat):Int):=by rw[aW (by omega) (by omega)];omega
   by_cases he:ag x=cz e
   ·left
    have hb:BZ.b0 k l e (i:Int)=some (.ret (i:Int)):=by
     unfold BZ.b0
     simp only[Au (show (i:Int)<(l.length:Int) by omega),Am,bp hx,Ae,hc,Au he]
    exact⟨i,x,by simp only[ai,hb],hx,he⟩
   ·have hb:BZ.b0 k l e (i:Int)=some (.next ((i+1:Nat):Int)):=by
     unfold BZ.b0
     simp only[Au (show (i:Int)<(l.length:Int) by omega),Am,bp hx,Ae,hc,AI he,An,hw]
    have sN:l.drop i=x::l.drop (i+1):=by
     have:=(gS.1 hx)
     obtain⟨h3,h4⟩:=this
     rw[List.drop_eq_getElem_cons h3,h4]
    rcases ih (i+1) m (by omega) (by omega) with ⟨j,y,g1,g2,g3⟩|⟨g1,g2⟩
    ·exact .inl ⟨j,y,by simp only[ai,hb,g1],g2,g3⟩
    ·right
     refine⟨by simp only[ai,hb,g1],fun y hy=>?_⟩
     rw[sN]at hy
     rcases BF.1 hy with rfl|hy
     ·exact he
     ·exact g2 y hy
 unfold BZ
 rcases key l.length 0 k (by omega) (by omega) with ⟨j,x,h1,h2,h3⟩|⟨h1,h2⟩
 ·left
  rw[Cz]at h1
  exact⟨j,x,by rw[h1];rfl,h2,h3⟩
 ·right
  rw[Cz]at h1
  exact⟨by rw[h1];rfl,fun x hx=>h2 x (by simpa using hx)⟩
def dK (l:List Ab) (r:Ab):List Ab×Int:=match gA ag l (ag r) with
 |some x=>if x=r then (l,0) else ([],92)
 |none=>if (ao ag l r.At.Ac:Int)<r.At.No then ([],93) else if (l.length:Int)=60 then ([],2) else (fk ag l r,0)
theorem agQ {k:Nat}{l:List Ab} (hl:l.length<=1000):Ek k l=some l:=by
 unfold Ek dI
 rw[if_pos ⟨by omega,by omega⟩];rfl
theorem agP {k:Nat}{l:List Ab} (hl:l.length<=1000):D1 k l=some l:=by
 unfold D1 dI
 rw[if_pos ⟨by omega,by omega⟩];rfl
theorem aqJ {k0:Nat}{l:List Ab} (hs:CC ag l) (hl:l.length<=1000) (r:Ab):∀ (d i k:Nat),pos ag l (ag r) - i<=d->d<k->i<=pos ag l (ag r)->
  ai (Cb.b0 k0 l r) k (i:Int)=some (.brk ((pos ag l (ag r):Nat):Int)):=by
 have hp:=aau ag l (ag r)
 intro d
 induction d with
 |zero=>
  intro i k h1 h2 h3
  obtain⟨m,rfl⟩:∃ q,k=q+1:=⟨k - 1,by omega⟩
  have hi:i=pos ag l (ag r):=by omega
  have hb:Cb.b0 k0 l r (i:Int)=some (.brk (i:Int)):=by
   unfold Cb.b0
   by_cases af:i<l.length
   ·have hx:l[i]?=some l[i]:=gG af
    have eC:cz l[i].At=ag l[i]:=rfl
    have aem:cz r.At=ag r:=rfl
    have:=rz ag hs (ag r) hx
    simp only[Au (show (i:Int)<(l.length:Int) by omega),Am,bp hx,Ae,af0,eC,aem,AI (show ¬ fH (ag l[i]) (ag r) from fun c=>by have:=this.1 c;omega),An]
   ·simp only[AI (show ¬ (i:Int)<(l.length:Int) by omega),An]
  simp only[ai,hb]
  rw[hi]
 |succ d ih=>
  intro i k h1 h2 h3
  obtain⟨m,rfl⟩:∃ q,k=q+1:=⟨k - 1,by omega⟩
  by_cases af:i<pos ag l (ag r)
  ·have hx:l[i]?=some (l[i]'(by omega)):=gG (by omega)
   have eC:cz (l[i]'(by omega)).At=ag (l[i]'(by omega)):=rfl
   have aem:cz r.At=ag r:=rfl
   have hw:ab ((i:Int)+1)=((i+1:Nat):Int):=by rw[aW (by omega) (by omega)];omega
   have hb:Cb.b0 k0 l r (i:Int)=some (.next ((i+1:Nat):Int)):=by
    unfold Cb.b0
    simp only[Au (show (i:Int)<(l.length:Int) by omega),Am,bp hx,Ae,af0,eC,aem,Au ((rz ag hs (ag r) hx).2 af),hw]
   simp only[ai,hb]
   exact ih (i+1) m (by omega) (by omega) (by omega)
  ·have hi:i=pos ag l (ag r):=by omega
   exact(by
    have:=ih i (m+1) (by omega) (by omega) h3
    exact this)
theorem adb {k:Nat} (hk:1000000<k) {l:List Ab} (hs:CC ag l) (hl:l.length<=900) (hh:∀ r∈l,iC r) {r:Ab} (hr:iC r):Cb k l r=some (dK l r):=by
 unfold Cb dK
 have eC:cz r.At=ag r:=rfl
 rcases ahD (k:=k) (l:=l) (by omega) hk r.At with ⟨i,x,h1,h2,h3⟩|⟨h1,h2⟩
 ·rw[eC]at h3
  have hf:gA ag l (ag r)=some x:=by rw[<-h3];exact adR ag hs (A6 h2)
  rw[h1,hf]
  simp only[Ae,Au (show (0:Int)<=(i:Int) by omega),Am,bp h2]
  by_cases e:x=r
  ·subst e
   have:=ajB x
   unfold nI at this
   rw[this]
   simp only[Am,agQ (show l.length<=1000 by omega),Ae,if_true]
  ·have:=ajA e
   unfold nI at this
   rw[this]
   simp only[An,if_neg e]
 ·rw[eC]at h2
  have hf:gA ag l (ag r)=none:=y5 ag h2
  rw[h1,hf]
  have hp:=aau ag l (ag r)
  have iM:=aqJ (k0:=k) hs (by omega) r (pos ag l (ag r)) 0 k (by omega) (by omega) (by omega)
  rw[Cz]at iM
  simp only[Ae,(by decide:decide ((0:Int)<=-1)=false),An,aeI hk (show l.length<=100000 by omega) hh,mw _ hr.1 hr.2]
  by_cases hc:((ao ag l r.At.Ac:Nat):Int)<r.At.No
  ·simp only[Au hc,Am,if_pos hc]
  ·simp only[AI hc,An,if_neg hc]
   by_cases lB:(l.length:Int)=60
   ·simp only[Au lB,Am,if_pos lB]
   ·have ht:(l.take (pos ag l (ag r))).length=pos ag l (ag r):=by rw[A8];omega
    simp only[AI lB,An,if_neg lB,iM,Ae,aj6 hp,aj5 hp]
    rw[agQ (by omega)]
    simp only[Ae]
    rw[nG (by rw[ht];omega) (by rw[ht];omega)]
    simp only[Ae]
    rw[kz (by rw[A1,ht,Bt];simp;omega) (by rw[A1,ht,Bt];simp;omega)]
    simp only[Ae]
    unfold fk
    simp
theorem yr {k:Nat} (hk:1000000<k) {b:Ak} (hs:CC ag b.Ah) (hl:b.Ah.length<=900) (hh:∀ r∈b.Ah,iC r) (r:Ab):
  rZ k b r=some (bif bC r then (⟨(dK b.Ah r).1⟩,(dK b.Ah r).2) else (⟨[]⟩,90)):=by
 unfold rZ
 rw[acg (by omega)]
 simp only[Ae]
 cases hr:bC r with
 |false=>rfl
 |true=>
  have fK:=kT hr
  have eC:cz r.At=ag r:=rfl
  simp only[AO,An,Am,an4 (show 10000<k by omega) hs (show b.Ah.length<=1000 by omega),Ae,eC]
  unfold dK
  cases hf:gA ag b.Ah (ag r) with
  |some x=>
   have hp:=ahB ag hs (ag r)
   rw[hf]at hp
   have hx:b.Ah[pos ag b.Ah (ag r)]?=some x:=by
    cases hq:b.Ah[pos ag b.Ah (ag r)]? with
    |none=>rw[hq]at hp;cases hp
    |some y=>
     rw[hq]at hp
     simp only[Option.filter]at hp
     split at hp
     ·exact hp.symm
     ·cases hp
   simp only[Option.isSome_some,Am,bp hx,Ae]
   by_cases e:x=r
   ·subst e
    have:=ajB x
    unfold nI at this
    rw[this]
    simp only[Am,wc (show b.Ah.length<=1000 by omega),Ae,if_true]
   ·have:=ajA e
    unfold nI at this
    rw[this]
    simp only[An,if_neg e]
  |none=>
   simp only[Option.isSome_none,An,aed hk (show b.Ah.length<=100000 by omega) hh,Ae,mw _ fK.1 fK.2]
   by_cases hc:((ao ag b.Ah r.At.Ac:Nat):Int)<r.At.No
   ·simp only[Au hc,Am,if_pos hc]
   ·simp only[AI hc,An,if_neg hc]
    by_cases lB:(b.Ah.length:Int)=60
    ·simp only[Au lB,Am,if_pos lB]
    ·simp only[AI lB,An,if_neg lB,agG (show b.Ah.length<=1000 by omega),Ae,apn (show b.Ah.length<=1000 by omega)]
theorem arq:FA 18446744073709551616=some true:=by decide +kernel
theorem take_at {α:Type}{l:List α}{i:Nat}{x:α} (h:l[i]?=some x):l.take (i+1)=l.take i++[x]:=by
 rw[List.take_add_one,h];rfl
theorem ajN {k:Nat} (hk:10000000<k) {a b:List Ab} (hl:a.length<=1000):∃ c:Bool,BY k a b=some c/\(c=true↔a=b):=by
 unfold BY
 by_cases hab:a.length=b.length
 ·obtain⟨c,h1,h2⟩:=arp (body:=BY.b0 k a b) (eq:=nI) hab (by omega) (fun x y=>acA) hk (fun i x y hx hy=>by
   have hi:=(gS.1 hx).1
   unfold BY.b0 nI
   simp only[Au (show (i:Int)<(a.length:Int) by omega),Am,bp hx,bp hy,Ae]) (fun i hi=>by
   unfold BY.b0
   by_cases h:(i:Int)<(a.length:Int)<;>simp[h]) (by
   unfold BY.b0
   simp only[(by simp:decide ((a.length:Int)<(a.length:Int))=false),An])
  refine⟨c,?_,h2⟩
  have hd:decide ((a.length:Int)=(b.length:Int))=true:=by simp[hab]
  rw[hd,h1]
  rfl
 ·refine⟨false,?_,?_⟩
  ·have hd:decide ((a.length:Int)=(b.length:Int))=false:=by simp;omega
   obtain⟨m,rfl⟩:∃ q,k=q+1:=⟨k - 1,by omega⟩
   have:BY.b0 (m+1) a b (false,0)=some (.brk false):=by
    unfold BY.b0
    by_cases h:(0:Int)<(a.length:Int)<;>simp[h]
   rw[hd]
   simp only[ai,this]
   rfl
  ·constructor
   ·intro h;cases h
   ·rintro rfl;exact absurd rfl hab
theorem arl {k:Nat} (hk:10000000<k) {a:Ak} (hl:a.Ah.length<=1000):Fc k a a=some true:=by
 obtain⟨c,h1,h2⟩:=ajN hk (a:=a.Ah) (b:=a.Ah) hl
 unfold Fc
 rw[h1,h2.2 rfl];rfl
abbrev Hf:=Aa 32 Int
abbrev Pg:=Aa 2 Hf
def hz:Hf:=Aa.rep 32 0
def hf (p:List Pg) (a i:Nat):Hf:=match p[301*a+i / 2]? with
 |some g=>(g.l[i % 2]?).getD hz
 |none=>hz
theorem ac2 (g:Pg) (i:Nat):g.at? ((i % 2:Nat):Int)=some ((g.l[i % 2]?).getD hz):=by
 have h:=g.h
 have hi:i % 2<g.l.length:=by omega
 unfold Aa.at?
 rw[if_pos (by omega),BQ,gG hi];rfl
theorem abo {p:List Pg} (hp:p.length=602) {a i:Nat} (ha:a<=1) (hi:i<602):ab ((ab ((a:Int)*301))+(ab (Int.tdiv (i:Int) 2)))=((301*a+i / 2:Nat):Int):=by
 have e:Int.tdiv (i:Int) 2=((i / 2:Nat):Int):=by
  rw[show (2:Int)=((2:Nat):Int) from rfl,<-Int.ofNat_tdiv]
 rw[e,aW (n:=(a:Int)*301) (by omega) (by omega),aW (n:=((i / 2:Nat):Int)) (by omega) (by omega),aW (by omega) (by omega)]
 omega
theorem ri (i:Nat):Int.tmod (i:Int) 2=((i % 2:Nat):Int):=by
 rw[show (2:Int)=((2:Nat):Int) from rfl,<-Int.ofNat_tmod]
theorem w8 (k:Nat) {p:List Pg} (hp:p.length=602) (w:List As) {a i:Nat} (ha:a<=1) (hi:i<602):nU k ⟨⟨p,w⟩⟩ (a:Int) (i:Int)=some (hf p a i):=by
 unfold nU hf
 have hx:p[301*a+i / 2]?=some (p[301*a+i / 2]'(by omega)):=gG (by omega)
 simp only[abo hp ha hi,bp hx,Ae,ri,ac2,hx]
theorem ae1 {n b:Int}{s:Nat} (hs:s<=32) (h0:0<=n) (h1:n<1073741824) (h2:0<=b) (h3:b<2 ^ s):fT .i64 (n*2 ^ s) b=n*2 ^ s+b:=by
 obtain⟨m,rfl⟩:=Int.eq_ofNat_of_zero_le h0
 obtain⟨c,rfl⟩:=Int.eq_ofNat_of_zero_le h2
 have hp:(2:Nat) ^ s<=2 ^ 32:=Nat.pow_le_pow_right (by decide) hs
 have hc:c<2 ^ s:=by
  have:((2:Int) ^ s)=((2 ^ s:Nat):Int):=by push_cast;rfl
  rw[this]at h3;omega
 have hm:m<4294967296:=by omega
 have hmp:m*2 ^ s<4294967296*4294967296:=Nat.mul_lt_mul_of_lt_of_le hm hp (by decide)
 have e:((m:Int)*2 ^ s)=((m*2 ^ s:Nat):Int):=by push_cast;rfl
 rw[e]
 unfold fT
 have t:∀ x:Nat,x<18446744073709551616->(BitVec.ofInt IntKind.i64.bits (x:Int)).toNat=x:=fun x hx=>by
  rw[BitVec.toNat_ofInt]
  have:(x:Int) % ((2 ^ IntKind.i64.bits:Nat):Int)=(x:Int):=by
   rw[show ((2 ^ IntKind.i64.bits:Nat):Int)=18446744073709551616 from rfl];omega
  rw[this];omega
 have iO:m*2 ^ s<9223372036854775808 - 4294967296:=by
  have:m*2 ^ s<=m*4294967296:=Nat.mul_le_mul_left _ hp
  omega
 rw[BitVec.toNat_or,t _ (by omega),t _ (by omega)]
 have:=Nat.shiftLeft_add_eq_or_of_lt hc m
 rw[Nat.shiftLeft_eq]at this
 rw[<-this]
 exact aW (by omega) (by omega)
theorem afw {x:Int} (h:0<=x/\x<256) (s:Nat) (hs:s<=16):ab ((ab x)*2 ^ s)=x*2 ^ s:=by
 have hp:(2:Int) ^ s<=65536:=by
  have:(2:Nat) ^ s<=2 ^ 16:=Nat.pow_le_pow_right (by decide) hs
  have e:((2:Int) ^ s)=((2 ^ s:Nat):Int):=by push_cast;rfl
  rw[e];omega
 have hp0:(0:Int)<2 ^ s:=Int.pow_pos (by decide)
 have h1:x*2 ^ s<=255*65536:=Int.mul_le_mul (by omega) hp (by omega) (by omega)
 have h2:0<=x*2 ^ s:=Int.mul_nonneg h.1 (by omega)
 rw[aW (n:=x) (by omega) (by omega),aW (by omega) (by omega)]
theorem or3 {a b c:Int} (ha:0<=a/\a<256) (hb:0<=b/\b<256) (hc:0<=c/\c<256):
  fT .i64 (fT .i64 (ab ((ab a)*2 ^ 16)) (ab ((ab b)*2 ^ 8))) (ab c)=bo [a,b,c]:=by
 rw[afw ha 16 (by decide),afw hb 8 (by decide),ae1 (s:=16) (by decide) ha.1 (by omega) (by omega) (by omega),aW (n:=c) (by omega) (by omega)]
 have e:a*2 ^ 16+b*2 ^ 8=(a*256+b)*2 ^ 8:=by omega
 rw[e,ae1 (s:=8) (by decide) (by omega) (by omega) hc.1 (by omega)]
 simp[bo,pS]
theorem or2 {a b:Int} (ha:0<=a/\a<256) (hb:0<=b/\b<256):fT .i64 (ab ((ab a)*2 ^ 8)) (ab b)=bo [a,b]:=by
 rw[afw ha 8 (by decide),aW (n:=b) (by omega) (by omega),ae1 (s:=8) (by decide) ha.1 (by omega) hb.1 (by omega)]
 simp[bo,pS]
def bt (h:Hf) (i:Nat):Int:=(h.l[i]?).getD 0
theorem mo (h:Hf) {i:Nat} (hi:i<32):h.at? (i:Int)=some (bt h i):=by
 have hl:=h.h
 unfold Aa.at? bt
 rw[if_pos (by omega),BQ,gG (by omega)];rfl
theorem so {h:Hf} (hb:Bl h.l) (i:Nat):0<=bt h i/\bt h i<256:=by
 unfold bt
 cases hq:h.l[i]? with
 |none=>simp
 |some x=>exact hb x (A6 hq)
def aM (h:Hf):Int:=
 if (bt h 0=104\/bt h 0=112)/\bt h 31=165/\bo [bt h 1,bt h 2,bt h 3]<=1000000 then bo [bt h 1,bt h 2,bt h 3] else 0
theorem aha {h:Hf} (hb:Bl h.l):0<=aM h/\aM h<=1000000:=by
 unfold aM
 have:=afc (l:=[bt h 1,bt h 2,bt h 3]) (by
  intro x hx
  simp only[BF,List.not_mem_nil,or_false]at hx
  rcases hx with rfl|rfl|rfl<;>exact so hb _)
 split
 ·rename_i hc;exact⟨this.1,hc.2.2⟩
 ·omega
theorem abO (k:Nat) {h:Hf} (hb:Bl h.l):ql k h=some (aM h):=by
 have h0:=mo h (i:=0) (by decide)
 have h1:=mo h (i:=1) (by decide)
 have h2:=mo h (i:=2) (by decide)
 have h3:=mo h (i:=3) (by decide)
 have zd:=mo h (i:=31) (by decide)
 have e0:h.at? 0=some (bt h 0):=h0
 have e1:h.at? 1=some (bt h 1):=h1
 have e2:h.at? 2=some (bt h 2):=h2
 have e3:h.at? 3=some (bt h 3):=h3
 have yQ:h.at? 31=some (bt h 31):=zd
 unfold ql aM
 simp only[e0,e1,e2,e3,yQ,Ae,or3 (so hb 1) (so hb 2) (so hb 3)]
 by_cases a:bt h 0=104
 ·have a2:¬ bt h 0=112:=by omega
  by_cases c:bt h 31=165
  ·by_cases d:(1000000:Int)<bo [bt h 1,bt h 2,bt h 3]
   ·simp[a,c,d,show ¬ bo [bt h 1,bt h 2,bt h 3]<=1000000 by omega]
   ·simp[a,c,d,show bo [bt h 1,bt h 2,bt h 3]<=1000000 by omega]
  ·simp[a,c]
 ·by_cases b:bt h 0=112
  ·by_cases c:bt h 31=165
   ·by_cases d:(1000000:Int)<bo [bt h 1,bt h 2,bt h 3]
    ·simp[b,c,d,show ¬ bo [bt h 1,bt h 2,bt h 3]<=1000000 by omega]
    ·simp[b,c,d,show bo [bt h 1,bt h 2,bt h 3]<=1000000 by omega]
   ·simp[b,c]
  ·simp[a,b]
def Bx (p:List Pg):Prop:=∀ g∈p,∀ h∈g.l,Bl h.l
theorem Bx.hf {p:List Pg} (hp:Bx p) (a i:Nat):Bl (hf p a i).l:=by
 have sY:Bl hz.l:=by
  intro x hx
  have:x=0:=by
   simp only[hz,Aa.rep,List.mem_replicate]at hx
   exact hx.2
  omega
 unfold Go.Abs.hf
 cases hq:p[301*a+i / 2]? with
 |none=>exact sY
 |some g=>
  simp only
  cases hr:g.l[i % 2]? with
  |none=>exact sY
  |some h=>exact hp g (A6 hq) h (A6 hr)
def lx (d:Ad):Bool:=decide (d.Aj.length=602)&&(decide (d.Af.length<=1200)&&d.Af.all fun w=>within w.At 0 601)
theorem xu {k:Nat} (hk:1000000<k) (d:Ad):sf k d=some (lx d):=by
 unfold sf lx
 by_cases h1:d.Aj.length=602
 ·have e1:decide ((d.Aj.length:Int)=602)=true:=Au (by omega)
  by_cases h2:d.Af.length<=1200
  ·have e2:decide ((d.Af.length:Int)<=1200)=true:=Au (by omega)
   have ab2:=afx (body:=iV.b0 k (fun q0=>vV k q0) d.Af) (n:=d.Af.length) (f:=fun i=>match d.Af[i]? with|some w=>bif within w.At 0 601 then none else some (i:Int)|none=>none) (by omega) (k:=k) (by omega) (fun i hi=>by
    obtain⟨w,hw⟩:∃ w,d.Af[i]?=some w:=⟨_,gG hi⟩
    unfold iV.b0 vV
    simp only[Au (show (i:Int)<(d.Af.length:Int) by omega),Am,bp hw,Ae,nB,hw]
    cases within w.At 0 601<;>rfl) (by
    unfold iV.b0
    simp only[(by simp:decide ((d.Af.length:Int)<(d.Af.length:Int))=false),An])
   simp only[e1,e2,Am,h1,h2,Bf,BB]
   unfold acO iV
   rw[ab2]
   simp only[Ae]
   cases hq:(List.range d.Af.length).findSome? (fun i=>match d.Af[i]? with|some w=>bif within w.At 0 601 then none else some (i:Int)|none=>none) with
   |none=>
    have:d.Af.all (fun w=>within w.At 0 601)=true:=by
     rw[List.all_eq_true]
     intro w hw
     obtain⟨i,hi⟩:=BH.1 hw
     rw[List.findSome?_eq_none_iff]at hq
     have:=hq i (List.mem_range.2 (gS.1 hi).1)
     rw[hi]at this
     simp only at this
     cases hb:within w.At 0 601 with
     |true=>rfl
     |false=>rw[hb]at this;cases this
    rw[this];rfl
   |some r=>
    obtain⟨i,hi,hf⟩:=List.exists_of_findSome?_eq_some hq
    obtain⟨w,hw⟩:∃ w,d.Af[i]?=some w:=⟨_,gG (List.mem_range.1 hi)⟩
    rw[hw]at hf
    simp only at hf
    have hb:within w.At 0 601=false:=by
     cases hb:within w.At 0 601 with
     |false=>rfl
     |true=>rw[hb]at hf;cases hf
    rw[hb]at hf
    have hr:(i:Int)=r:=oi hf
    have:d.Af.all (fun w=>within w.At 0 601)=false:=by
     rw[List.all_eq_false]
     exact⟨w,A6 hw,by rw[hb];decide⟩
    rw[this]
    simp only[Ae]
    rw[Au (show (0:Int)<=r by omega)]
    rfl
  ·have e2:decide ((d.Af.length:Int)<=1200)=false:=AI (by omega)
   simp[e1,e2,h1,h2]
 ·have e1:decide ((d.Aj.length:Int)=602)=false:=AI (by omega)
  simp[e1,h1]
theorem afe {k:Nat} (hk:100<k) {l:List Int} (hb:Bl l) (hl:l.length<=5):BN k l=some (bo l):=by
 unfold BN
 rw[ajs hb hl (k:=k) (by omega) (fun i x s hx=>by
  have hi:=(gS.1 hx).1
  unfold BN.b0
  simp only[Au (show (i:Int)<(l.length:Int) by omega),Am,bp hx,Ae]) (fun s=>by
  unfold BN.b0
  simp only[(by simp:decide ((l.length:Int)<(l.length:Int))=false),An])]
 rfl
def nJ:Ab:=⟨⟨0,0⟩,0,0,0,⟨0,0⟩,ByteArray.empty⟩
def decode (b:List Int):Ab×Int:=match gU b with
 |some (r,[])=>bif bC r then (r,0) else (nJ,90)
 |_=>(nJ,90)
theorem tG {l:List Int}{i j:Nat} (h1:i<=j) (h2:j<=l.length):ck l (i:Int) (j:Int)=some ((l.drop i).take (j - i)):=by
 unfold ck
 rw[if_pos (by omega),BQ,BQ]
theorem anx {k:Nat} (hk:1000<k) {b:List Int} (hb:Bl b) (hlen:b.length<=4611686018427387904):Eg k b=some (decode b):=by
 unfold Eg decode gU
 by_cases jE:b.length<16
 ·rw[if_pos jE]
  have:decide ((b.length:Int)<(16:Int))=true:=by simp;omega
  simp only[this,AO,An]
  rfl
 ·rw[if_neg jE]
  have hx:b[15]?=some (b[15]'(by omega)):=gG (by omega)
  have hM:cu b=b[15]'(by omega):=by
   unfold cu
   rw[List.drop_eq_getElem_cons (show 15<b.length by omega)]
   exact ajt _
  have hM0:=hb _ (A6 hx)
  rw[<-hM]at hM0
  have e1:decide ((b.length:Int)<(16:Int))=false:=by simp;omega
  have e2:ab (16+(ab (cu b)))=16+cu b:=by
   rw[aW (n:=cu b) (by omega) (by omega),aW (by omega) (by omega)]
  have iI:at? b 15=some (cu b):=by
   have:=bp hx
   rw[hM];exact this
  simp only[e1,Bn,Am,iI,Ae,e2]
  by_cases af:(b.length:Int)<16+cu b
  ·rw[if_pos af]
   have:decide ((b.length:Int)=16+cu b)=false:=by simp;omega
   simp only[this,Bn,Am]
   rfl
  ·rw[if_neg af]
   by_cases he:(b.length:Int)=16+cu b
   ·have s1:ck b 0 1=some (b.take 1):=tG (i:=0) (j:=1) (by omega) (by omega)
    have s2:ck b 1 3=some ((b.drop 1).take 2):=tG (i:=1) (j:=3) (by omega) (by omega)
    have s3:ck b 3 4=some ((b.drop 3).take 1):=tG (i:=3) (j:=4) (by omega) (by omega)
    have s4:ck b 4 8=some ((b.drop 4).take 4):=tG (i:=4) (j:=8) (by omega) (by omega)
    have s5:ck b 8 12=some ((b.drop 8).take 4):=tG (i:=8) (j:=12) (by omega) (by omega)
    have s6:ck b 12 13=some ((b.drop 12).take 1):=tG (i:=12) (j:=13) (by omega) (by omega)
    have s7:ck b 13 15=some ((b.drop 13).take 2):=tG (i:=13) (j:=15) (by omega) (by omega)
    have s8:ck b 16 (b.length:Int)=some (b.drop 16):=by
     have:=tG (l:=b) (i:=16) (j:=b.length) (by omega) (by omega)
     rw[Co (by rw[Bt];omega)]at this
     exact this
    have R:∀ (i n:Nat),n<=5->BN k ((b.drop i).take n)=some (bo ((b.drop i).take n)):=fun i n hn=>afe (by omega) ((hb.drop i).take n) (by rw[A8];omega)
    have R0:BN k (b.take 1)=some (bo (b.take 1)):=afe (by omega) (hb.take 1) (by rw[A8];omega)
    have ed:decide ((b.length:Int)=16+cu b)=true:=Au he
    have om:(⟨(⟨bo (b.take 1),bo ((b.drop 1).take 2)⟩:Entry),bo ((b.drop 3).take 1),bo ((b.drop 4).take 4),bo ((b.drop 8).take 4),(⟨bo ((b.drop 12).take 1),bo ((b.drop 13).take 2)⟩:Entry),strOf (b.drop 16)⟩:Ab)=yN b ((b.drop 16).take (cu b).toNat):=by
     rw[Co (l:=b.drop 16) (i:=(cu b).toNat) (by rw[Bt];omega)];rfl
    have zH:(b.drop 16).drop (cu b).toNat=[]:=Dr (by rw[Bt];omega)
    simp only[ed,AO,An,s1,s2,s3,s4,s5,s6,s7,s8,Ae,R0,R 1 2 (by omega),R 3 1 (by omega),R 4 4 (by omega),R 8 4 (by omega),R 12 1 (by omega),R 13 2 (by omega),om,vZ hk,zH]
    cases bC (yN b ((b.drop 16).take (cu b).toNat))<;>rfl
   ·have:decide ((b.length:Int)=16+cu b)=false:=by simp;omega
    simp only[this,Bn,Am]
    have ba:(b.drop 16).drop (cu b).toNat≠[]:=by
     intro h
     have:=congrArg List.length h
     rw[Bt,Bt]at this
     simp at this
     omega
    cases hq:(b.drop 16).drop (cu b).toNat with
    |nil=>exact absurd hq ba
    |cons x l=>rfl
theorem anj {k:Nat}{d:Ad} (h:d.Aj.length<=100000000/\d.Af.length<=100000000):nc k d=some ⟨d⟩:=by
 unfold nc acM acN dI
 rw[if_pos ⟨by omega,by omega⟩,if_pos ⟨by omega,by omega⟩]
 rfl
theorem jA {d:Ad}:lx d=true↔d.Aj.length=602/\d.Af.length<=1200/\∀ w∈d.Af,0<=w.At/\w.At<=601:=by
 unfold lx within
 simp only[Bo,decide_eq_true_eq,List.all_eq_true]
theorem nY {k:Nat}{d:Ad} (h:lx d=true):nc k d=some ⟨d⟩:=by
 obtain⟨h1,h2,_⟩:=jA.1 h
 exact anj ⟨by omega,by omega⟩
def au (p:List Pg) (w:List As):List Pg:=w.foldl (fun p x=>p.set x.At.toNat x.AQ) p
theorem apR (w:List As):∀ p:List Pg,(au p w).length=p.length:=by
 induction w with
 |nil=>intro p;rfl
 |cons x w ih=>intro p;exact(ih _).trans (by simp)
theorem aaF {k:Nat} (hk:1000000<k) {d:Ad} (h:lx d=true):fU k ⟨d⟩=some ⟨⟨au d.Aj d.Af,[]⟩⟩:=by
 obtain⟨h1,h2,h3⟩:=jA.1 h
 unfold fU
 have hf:=qa (l:=d.Af) (body:=fU.b0 k ⟨d⟩) (fun i s=>(i,s)) (fun p x=>p.set x.At.toNat x.AQ) (fun i s=>s.length=602) (by omega) (k:=k) (by omega) (s0:=d.Aj) h1 (fun i x s hx hs=>by
  have hi:=(gS.1 hx).1
  have hb:=h3 x (A6 hx)
  refine⟨?_,by simp[hs]⟩
  unfold fU.b0
  have ha:at? s x.At=some (s[x.At.toNat]'(by omega)):=by
   unfold at?
   rw[if_pos ⟨by omega,by omega⟩,gG (by omega)]
  have iP:dN s x.At x.AQ=some (s.set x.At.toNat x.AQ):=by
   unfold dN
   rw[if_pos ⟨by omega,by omega⟩]
  simp only[Au (show (i:Int)<(d.Af.length:Int) by omega),Am,bp hx,Ae,ha,iP]) (fun s hs=>by
  unfold fU.b0
  simp only[(by simp:decide ((d.Af.length:Int)<(d.Af.length:Int))=false),An])
 rw[hf.1]
 rfl
theorem aj7 {k:Nat} (hk:1000000<k) {d:Ad} (h:lx d=true):yv k d=some ⟨au d.Aj d.Af,[]⟩:=by
 unfold yv
 rw[nY h,xu hk,h]
 simp only[Ae,AO,An]
 rw[aaF hk h]
 rfl
def mx (p:List Pg) (a from_:Nat):Int:=(List.range' from_ (602 - from_)).foldl (fun m i=>max m (aM (hf p a i))) 0
theorem ahJ {f:Nat->Int}:∀ (l:List Nat) (z E:Int),l.foldl (fun m i=>max m (f i)) z<=E↔z<=E/\∀ i∈l,f i<=E
 |[],z,E=>by simp
 |x::l,z,E=>by
  rw[List.foldl_cons,ahJ l]
  simp only[Int.max_le,and_assoc,BF,forall_eq_or_imp]
theorem pM {p:List Pg}{a from_:Nat}{E:Int}:mx p a from_<=E↔0<=E/\∀ i,from_<=i->i<602->aM (hf p a i)<=E:=by
 unfold mx
 rw[ahJ]
 constructor
 ·rintro⟨h1,h2⟩
  exact⟨h1,fun i h3 h4=>h2 i (by rw[List.mem_range'_1];omega)⟩
 ·rintro⟨h1,h2⟩
  exact⟨h1,fun i hi=>h2 i (by rw[List.mem_range'_1]at hi;omega) (by rw[List.mem_range'_1]at hi;omega)⟩
theorem xD (p:List Pg) (a from_:Nat):0<=mx p a from_:=(pM.1 (Df _)).1
theorem yS {k:Nat} (hk:1000000<k) {p:List Pg} (hp:p.length=602) (hb:Bx p) (w:List As) {a:Nat} (ha:a<=1) (from_:Nat):ew k ⟨⟨p,w⟩⟩ (a:Int) (from_:Int)=some (mx p a from_):=by
 unfold ew mx
 have key:∀ (d i m:Nat) (z:Int),602 - i=d->d<m->ai (ew.b0 k ⟨⟨p,w⟩⟩ (a:Int)) m (z,(i:Int))=some (.brk ((List.range' i d).foldl (fun m i=>max m (aM (hf p a i))) z)):=by
  intro d
  induction d with
  |zero=>
   intro i m z h1 h2
   obtain⟨m,rfl⟩:∃ q,m=q+1:=⟨m - 1,by omega⟩
   have n7:ew.b0 k ⟨⟨p,w⟩⟩ (a:Int) (z,(i:Int))=some (.brk z):=by
    unfold ew.b0
    simp only[AI (show ¬ (i:Int)<602 by omega),An]
   simp only[ai,n7]
   rfl
  |succ d ih=>
   intro i m z h1 h2
   obtain⟨m,rfl⟩:∃ q,m=q+1:=⟨m - 1,by omega⟩
   have hw:ab ((i:Int)+1)=((i+1:Nat):Int):=by rw[aW (by omega) (by omega)];omega
   have n7:ew.b0 k ⟨⟨p,w⟩⟩ (a:Int) (z,(i:Int))=some (.next (max z (aM (hf p a i)),((i+1:Nat):Int))):=by
    unfold ew.b0
    simp only[Au (show (i:Int)<602 by omega),Am,w8 k hp w ha (show i<602 by omega),Ae,abO k (hb.hf a i),hw]
   simp only[ai,n7]
   rw[List.range'_succ,List.foldl_cons]
   exact ih (i+1) m _ (by omega) (by omega)
 have:=key (602 - from_) from_ k 0 rfl (by omega)
 rw[this]
 rfl
def arh (p:List Pg) (a from_:Nat) (l:List Hf):Prop:=from_+l.length<=602/\∀ (i:Nat) x,l[i]?=some x->hf p a (from_+i)=x
instance:DecidableEq Hf:=fun a b=>decidable_of_iff (Aa.eq (fun(x y:Int)=>decide (x=y)) a b=true) (rH a b)
def pV (p:List Pg) (a from_:Nat) (l:List Hf):Bool:=(List.range l.length).all fun i=>match l[i]? with|some x=>decide (hf p a (from_+i)=x)|none=>true
theorem ajH {p:List Pg}{a from_:Nat}{l:List Hf}:pV p a from_ l=true↔∀ (i:Nat) x,l[i]?=some x->hf p a (from_+i)=x:=by
 unfold pV
 rw[List.all_eq_true]
 constructor
 ·intro h i x hx
  have:=h i (List.mem_range.2 (gS.1 hx).1)
  rw[hx]at this
  simpa using this
 ·intro h i hi
  cases hq:l[i]? with
  |none=>rfl
  |some x=>simpa using h i x hq
def recAt (p:List Pg) (a from_:Nat) (n:Nat):Option (Ab×Int×Nat):=
 if 602<=from_ then none else if aM (hf p a from_)=0\/602<from_+(bt (hf p a from_) 7).toNat then none else
 match gU ((List.range (bt (hf p a from_) 7).toNat).map fun i=>ig (hf p a (from_+i))).flatten with
 |none=>none
 |some q=>if bC q.1=true/\(bj q.1 n (aM (hf p a from_))).length=(bt (hf p a from_) 7).toNat/\pV p a from_ (bj q.1 n (aM (hf p a from_)))=true then some (q.1,aM (hf p a from_),(bt (hf p a from_) 7).toNat) else none
theorem agC {h:Hf} (hb:Bl h.l):Bl (ig h):=(hb.drop 8).take 23
theorem agB {l:List (List Int)} (h:∀ x∈l,Bl x):Bl l.flatten:=fun x hx=>by
 obtain⟨y,hy,hx⟩:=List.mem_flatten.1 hx
 exact h y hy x hx
theorem aq9 {k:Nat} (hk:1000000<k) {p:List Pg} (hp:p.length=602) (hb:Bx p) (w:List As) {a:Nat} (ha:a<=1) (from_ n:Nat) (nq:from_<=100000):
  dC k ⟨⟨p,w⟩⟩ (a:Int) (from_:Int) (n:Int)=some (match recAt p a from_ n with|some q=>(q.1,q.2.1,(q.2.2:Int))|none=>(nJ,0,0)):=by
 unfold dC recAt
 by_cases h1:602<=from_
 ·simp only[Au (show (602:Int)<=(from_:Int) by omega),Am,if_pos h1]
  rfl
 ·have gb:=so (hb.hf a from_) 7
  obtain⟨m,hm⟩:=Int.eq_ofNat_of_zero_le gb.1
  have hmN:(bt (hf p a from_) 7).toNat=m:=by rw[hm];rfl
  have e7:(hf p a from_).at? 7=some (m:Int):=by have:=mo (hf p a from_) (i:=7) (by decide);rw[hm]at this;exact this
  have wm:ab (m:Int)=(m:Int):=aW (by omega) (by omega)
  have wfm:ab ((from_:Int)+(m:Int))=((from_+m:Nat):Int):=by rw[aW (by omega) (by omega)];omega
  rw[hmN]
  simp only[AI (show ¬ (602:Int)<=(from_:Int) by omega),An,if_neg h1,w8 k hp w ha (show from_<602 by omega),Ae,abO k (hb.hf a from_),e7,wm,wfm]
  by_cases he:aM (hf p a from_)=0
  ·rw[if_pos (Or.inl he)]
   simp only[Au he,AO,An]
   rfl
  ·simp only[AI he,Bn,Am]
   by_cases h2:602<from_+m
   ·simp only[Au (show (602:Int)<((from_+m:Nat):Int) by omega),Am,if_pos (Or.inr h2)]
    rfl
   ·simp only[AI (show ¬ (602:Int)<((from_+m:Nat):Int) by omega),An,if_neg (show ¬ (aM (hf p a from_)=0\/602<from_+m) from fun c=>c.elim he h2)]
    have sX:=afy (n:=m) (body:=dC.b0 k ⟨⟨p,w⟩⟩ (a:Int) (from_:Int) (m:Int)) (fun i s=>(i,s)) (fun s i=>s++ig (hf p a (from_+i))) (fun i s=>s.length=23*i) (by omega) (k:=k) (by omega) (s0:=[]) rfl (fun i s hi hs=>by
     have hl:=(hf p a (from_+i)).h
     have xk:(ig (hf p a (from_+i))).length=23:=by unfold ig;simp[hl]
     have vz:ab ((from_:Int)+(i:Int))=((from_+i:Nat):Int):=by rw[aW (by omega) (by omega)];omega
     refine⟨?_,by simp[hs,xk];omega⟩
     unfold dC.b0
     simp only[wm,Au (show (i:Int)<(m:Int) by omega),Am,vz,w8 k hp w ha (show from_+i<602 by omega),Ae]
     rw[show (List.take 23 (List.drop 8 (hf p a (from_+i)).l))=ig (hf p a (from_+i)) from rfl,kz (by omega) (by omega)]
     rfl) (fun s hs=>by
     unfold dC.b0
     simp only[wm,(by simp:decide ((m:Int)<(m:Int))=false),An])
    have dG:∀ (L:List Nat) (s:List Int),L.foldl (fun s i=>s++ig (hf p a (from_+i))) s=s++(L.map fun i=>ig (hf p a (from_+i))).flatten:=by
     intro L
     induction L with
     |nil=>intro s;simp
     |cons x L ih=>intro s;rw[List.foldl_cons,ih];simp
    have gk:=sX.1
    rw[dG,Ce]at gk
    rw[gk]
    simp only[Ae]
    have po:Bl ((List.range m).map fun i=>ig (hf p a (from_+i))).flatten:=agB (by
     intro x hx
     obtain⟨i,_,rfl⟩:=List.mem_map.1 hx
     exact agC (hb.hf a _))
    rw[anz (by omega) po]
    cases hd:gU ((List.range m).map fun i=>ig (hf p a (from_+i))).flatten with
    |none=>rfl
    |some q=>
     simp only[Ae]
     cases hr:bC q.1 with
     |false=>simp;rfl
     |true=>
      have ht:=vk hr
      simp only[AO,An,ajh (show 100000<k by omega) ht,Ae]
      have hH:(List.range (bB (enc q.1).length)).map (ec (aM (hf p a from_)) (n:Int) (bB (enc q.1).length) (enc q.1))=bj q.1 (n:Int) (aM (hf p a from_)):=rfl
      rw[hH]
      by_cases hlen:(bj q.1 (n:Int) (aM (hf p a from_))).length=m
      ·have hwN:=vA (n:=m) (body:=dC.b1 k ⟨⟨p,w⟩⟩ (a:Int) (from_:Int) (bj q.1 (n:Int) (aM (hf p a from_)))) (p:=fun i=>match (bj q.1 (n:Int) (aM (hf p a from_)))[i]? with|some x=>decide (hf p a (from_+i)=x)|none=>true) (c:=(nJ,(0:Int),(0:Int))) (by omega) (k:=k) (by omega) (fun i hi=>by
        obtain⟨x,hx⟩:∃ x,(bj q.1 (n:Int) (aM (hf p a from_)))[i]?=some x:=⟨_,gG (by omega)⟩
        have vz:ab ((from_:Int)+(i:Int))=((from_+i:Nat):Int):=by rw[aW (by omega) (by omega)];omega
        have hve:Aa.eq (fun(x y:Int)=>decide (x=y)) (hf p a (from_+i)) x=decide (hf p a (from_+i)=x):=by
         by_cases e:hf p a (from_+i)=x
         ·rw[(rH _ _).2 e,Au e]
         ·rw[AI e]
          cases hq:Aa.eq (fun(x y:Int)=>decide (x=y)) (hf p a (from_+i)) x with
          |false=>rfl
          |true=>exact absurd ((rH _ _).1 hq) e
        unfold dC.b1
        simp only[Au (show (i:Int)<((bj q.1 (n:Int) (aM (hf p a from_))).length:Int) by omega),Am,bp hx,Ae,vz,w8 k hp w ha (show from_+i<602 by omega),hve,hx]
        cases decide (hf p a (from_+i)=x)<;>rfl) (by
        unfold dC.b1
        simp only[hlen,(by simp:decide ((m:Int)<(m:Int))=false),An])
       have bm:pV p a from_ (bj q.1 (n:Int) (aM (hf p a from_)))=(List.range m).all (fun i=>match (bj q.1 (n:Int) (aM (hf p a from_)))[i]? with|some x=>decide (hf p a (from_+i)=x)|none=>true):=by
        unfold pV;rw[hlen];rfl
       simp only[Au (show ((bj q.1 (n:Int) (aM (hf p a from_))).length:Int)=(m:Int) by omega),AO,An,hwN,<-bm,hlen,true_and]
       cases pV p a from_ (bj q.1 (n:Int) (aM (hf p a from_)))<;>rfl
      ·simp only[AI (show ¬ ((bj q.1 (n:Int) (aM (hf p a from_))).length:Int)=(m:Int) by omega),Bn,Am,hlen,false_and,and_false,if_false]
       rfl
end Go.Abs
namespace Go.Abs
open Go Go.Proofs
theorem ah1 (r:Ab) (n e:Int):(bj r n e)[0]?=some (ec e n (bB (enc r).length) (enc r) 0):=by
 unfold bj
 rw[BX,List.getElem?_range (oZ r)];rfl
theorem ah2 {r:Ab}{n e:Int}{i:Nat}{x:Hf} (h:(bj r n e)[i]?=some x):x=ec e n (bB (enc r).length) (enc r) i:=by
 have hi:=(gS.1 h).1
 rw[jG]at hi
 unfold bj at h
 rw[BX,List.getElem?_range hi]at h
 exact(oi h).symm
theorem adt (e n ao:Int) (c:List Int) (i:Nat):bt (ec e n ao c i) 0=112/\bt (ec e n ao c i) 1=IntKind.u8.wrap (Int.fdiv e (2 ^ 16))/\bt (ec e n ao c i) 2=IntKind.u8.wrap (Int.fdiv e (2 ^ 8))/\bt (ec e n ao c i) 3=IntKind.u8.wrap e/\bt (ec e n ao c i) 7=IntKind.u8.wrap ao/\bt (ec e n ao c i) 31=165:=by
 have hl:((c.drop (23*i)).take 23++List.replicate (23 - min (c.drop (23*i)).length 23) (0:Int)).length=23:=by
  simp only[A1,A8,CR];omega
 have yQ:(ji e n ao c i)[31]?=some 165:=by
  unfold ji
  rw[oS,vQ]
  rw[CX (by simp only[A1,AA,AB,hl];omega)]
  simp only[A1,AA,AB,hl]
  rfl
 unfold bt ec
 refine⟨?_,?_,?_,?_,?_,?_⟩
 ·simp[ji]
 ·simp[ji,oS]
 ·simp[ji,oS]
 ·simp[ji,oS]
 ·simp[ji,oS,vQ]
 ·rw[yQ];rfl
theorem adL {e:Int} (he:1<=e/\e<=1000000) (n ao:Int) (c:List Int) (i:Nat):aM (ec e n ao c i)=e:=by
 obtain⟨h0,h1,h2,h3,_,zd⟩:=adt e n ao c i
 have hr:bo [bt (ec e n ao c i) 1,bt (ec e n ao c i) 2,bt (ec e n ao c i) 3]=e:=by
  rw[h1,h2,h3,<-oS,rd3 (by omega) (by omega)]
 unfold aM
 rw[hr,if_pos ⟨.inr h0,zd,he.2⟩]
theorem agz {e n:Int}{ao:Nat} (hc:ao<256) (c:List Int) (i:Nat):bt (ec e n ao c i) 7=ao:=by
 obtain⟨_,_,_,_,h7,_⟩:=adt e n ao c i
 rw[h7,vC];omega
theorem yK {r:Ab} (h:bC r=true):bB (enc r).length<=10:=by
 have:=vk h
 rw[yR];unfold bB;omega
structure BT (p:List Pg) (a from_ n:Nat) (r:Ab) (e:Int):Prop where
 ok:bC r=true
 ep:1<=e/\e<=1000000
 run:arh p a from_ (bj r n e)
theorem pU {p:List Pg} (hb:Bx p) {a from_ n:Nat}{q:Ab×Int×Nat}:recAt p a from_ n=some q↔BT p a from_ n q.1 q.2.1/\q.2.2=(bj q.1 n q.2.1).length:=by
 obtain⟨r,e,m⟩:=q
 constructor
 ·intro h
  unfold recAt at h
  split at h
  ·cases h
  rename_i h1
  split at h
  ·cases h
  rename_i h2
  split at h
  ·cases h
  rename_i q hq
  split at h
  ·rename_i h3
   simp only[oE,Prod.mk.injEq]at h
   obtain⟨rfl,rfl,rfl⟩:=h
   have hE:=aha (hb.hf a from_)
   have pA:¬ aM (hf p a from_)=0:=fun c=>h2 (.inl c)
   have hle:¬ 602<from_+(bt (hf p a from_) 7).toNat:=fun c=>h2 (.inr c)
   refine⟨⟨h3.1,⟨show 1<=aM (hf p a from_) by omega,hE.2⟩,⟨?_,ajH.1 h3.2.2⟩⟩,h3.2.1.symm⟩
   show from_+(bj q.1 n (aM (hf p a from_))).length<=602
   rw[h3.2.1];omega
  ·cases h
 ·rintro⟨⟨h1,h2,h3,h4⟩,h5⟩
  simp only at h1 h2 h3 h4 h5
  have hc:=yK h1
  have zr:=h4 0 _ (ah1 r n e)
  rw[Nat.add_zero]at zr
  have hE:aM (hf p a from_)=e:=by rw[zr];exact adL h2 _ _ _ _
  have h7:(bt (hf p a from_) 7).toNat=m:=by
   rw[zr,agz (by omega),h5,jG];rfl
  have hmp:0<m:=by rw[h5,jG];exact oZ r
  rw[<-h5]at h3
  have ao0:((List.range m).map fun i=>ig (hf p a (from_+i))).flatten=tv (enc r):=by
   rw[<-apy e n (enc r)]
   congr 1
   rw[List.map_map,<-jG r n e,<-h5]
   apply List.map_congr_left
   intro i hi
   have gW:=List.mem_range.1 hi
   have hx:(bj r n e)[i]?=some (ec e n (bB (enc r).length) (enc r) i):=by
    unfold bj
    rw[BX,List.getElem?_range (by rw[<-jG r n e,<-h5];exact gW)];rfl
   rw[h4 i _ hx];rfl
  have hd:=anu h1 (List.replicate (23*bB (enc r).length - (enc r).length) 0)
  unfold recAt
  rw[if_neg (by omega),h7,hE,if_neg (by omega),ao0]
  unfold tv
  rw[hd]
  simp only
  rw[if_pos ⟨h1,h5.symm,ajH.2 h4⟩]
theorem BT.inj {p:List Pg} (hb:Bx p) {a from_ n:Nat}{r r':Ab}{e e':Int} (h:BT p a from_ n r e) (h':BT p a from_ n r' e'):r=r'/\e=e':=by
 have h1:=(pU hb (q:=(r,e,(bj r n e).length))).2 ⟨h,rfl⟩
 have h2:=(pU hb (q:=(r',e',(bj r' n e').length))).2 ⟨h',rfl⟩
 rw[h1]at h2
 simp only[oE,Prod.mk.injEq]at h2
 exact⟨h2.1,h2.2.1⟩
def fo (b:List Ab) (r:Ab):Option (List Ab):=if (dK b r).2=0/\(dK b r).1.length≠b.length then some (dK b r).1 else none
def rd (p:List Pg) (a:Nat):Nat->List Ab->Int->Nat->Nat->List (Ab×Nat)
 |0,_,_,_,_=>[]
 |m+1,b,e,u,n=>match recAt p a u n with
  |none=>[]
  |some q=>if q.2.1<e then [] else match fo b q.1 with
   |none=>[]
   |some b'=>(q.1,u+q.2.2)::rd p a m b' q.2.1 (u+q.2.2) (n+1)
theorem tq {b b':List Ab}{r:Ab} (h:fo b r=some b'):b'=fk ag b r/\gA ag b (ag r)=none/\r.At.No<=ao ag b r.At.Ac/\b.length≠60:=by
 unfold fo dK at h
 cases hf:gA ag b (ag r) with
 |some x=>
  rw[hf]at h
  simp only at h
  by_cases e:x=r
  ·rw[if_pos e]at h;simp at h
  ·rw[if_neg e]at h;simp at h
 |none=>
  rw[hf]at h
  simp only at h
  by_cases hc:((ao ag b r.At.Ac:Nat):Int)<r.At.No
  ·rw[if_pos hc]at h;simp at h
  ·rw[if_neg hc]at h
   by_cases lB:(b.length:Int)=60
   ·rw[if_pos lB]at h;simp at h
   ·rw[if_neg lB]at h
    split at h
    ·exact⟨(oi h).symm,rfl,by omega,by omega⟩
    ·cases h
theorem apZ {b:List Ab}{r:Ab} (h1:gA ag b (ag r)=none) (h2:r.At.No<=ao ag b r.At.Ac) (h3:b.length≠60):fo b r=some (fk ag b r):=by
 have:dK b r=(fk ag b r,0):=by
  unfold dK
  rw[h1]
  simp only
  rw[if_neg (by omega),if_neg (by omega)]
 unfold fo
 rw[this]
 simp only
 rw[if_pos ⟨trivial,by rw[uY];omega⟩]
theorem aeS {b b':List Ab}{r:Ab} (hv:Di ag b) (hr:bC r=true) (h:fo b r=some b'):Di ag b'/\b'.length=b.length+1:=by
 obtain⟨h1,h2,h3,h4⟩:=tq h
 subst h1
 refine⟨akq ag hv ?_,uY ag b r⟩
 show r.At.No=_
 have hn:=abR ag h2
 by_cases af:r.At.No<ao ag b r.At.Ac
 ·have h0:=(acz hr).2.1.1
  obtain⟨x,hx,hk⟩:=ar3 ag hv (h:=r.At.Ac) (n:=r.At.No) h0 af
  exact absurd hk (hn x hx)
 ·show r.At.No=((ao ag b r.At.Ac:Nat):Int)
  omega
theorem aqV {k:Nat} (hk:1000000<k) {p:List Pg} (hp:p.length=602) (hb:Bx p) (w:List As) {a:Nat} (ha:a<=1):∀ (m:Nat) (b:List Ab) (e:Int) (u n:Nat),Di ag b->(∀ r∈b,bC r=true)->b.length=n->n<=60->u<=602->61<=m+n->
  kD.go k ⟨⟨p,w⟩⟩ (a:Int) (m+1) ⟨b⟩ e (u:Int) (n:Int)=some ((rd p a (m+1) b e u n).map fun x=>(x.1,(x.2:Int))):=by
 intro m
 induction m with
 |zero=>intro b e u n _ _ h1 h2 _ h3;omega
 |succ m ih=>
  intro b e u n hv mJ iB hn hu hm
  rw[kD.go,rd,aq9 hk hp hb w ha u n (by omega)]
  simp only[Ae]
  cases hq:recAt p a u n with
  |none=>rfl
  |some q=>
   obtain⟨⟨g1,g2,g3⟩,g4⟩:=(pU hb).1 hq
   have hmp:0<q.2.2:=by rw[g4,jG];exact oZ q.1
   have ad9:=g3.1
   rw[<-g4]at ad9
   simp only[AI (show ¬ (q.2.2:Int)=0 by omega),Bn,Am]
   by_cases he:q.2.1<e
   ·simp only[Au he,Am,if_pos he];rfl
   ·have hh:∀ r∈b,iC r:=fun r hr=>kT (mJ r hr)
    simp only[AI he,An,if_neg he,yr hk (b:=⟨b⟩) hv.1 (show b.length<=900 by omega) hh,g1,Am,Ae]
    cases dv:fo b q.1 with
    |none=>
     unfold fo at dv
     by_cases h0:(dK b q.1).2=0
     ·simp only[Au h0,Am]
      by_cases hl:(dK b q.1).1.length=b.length
      ·simp only[Au (show (((dK b q.1).1.length:Nat):Int)=(b.length:Int) by omega),Am];rfl
      ·rw[if_pos ⟨h0,hl⟩]at dv;cases dv
     ·simp only[AI h0,An];rfl
    |some b'=>
     obtain⟨v1,v2⟩:=aeS hv g1 dv
     have iO:=dv
     unfold fo at iO
     split at iO
     ·rename_i hc
      have cK:(dK b q.1).1=b':=oi iO
      have gk:ab ((u:Int)+(q.2.2:Int))=((u+q.2.2:Nat):Int):=by rw[aW (by omega) (by omega)];omega
      have uU:ab ((n:Int)+1)=((n+1:Nat):Int):=by rw[aW (by omega) (by omega)];omega
      have lB:b.length≠60:=(tq dv).2.2.2
      simp only[Au hc.1,Am,cK,AI (show ¬ ((b'.length:Nat):Int)=(b.length:Int) by omega),An,gk,uU]
      obtain⟨m,rfl⟩:∃ q,m=q+1:=⟨m - 1,by omega⟩
      rw[ih b' q.2.1 (u+q.2.2) (n+1) v1 (fun r hr=>by
       rw[(tq dv).1,aci]at hr
       rcases hr with rfl|hr
       ·exact g1
       ·exact mJ r hr) (by omega) (by omega) (by omega) (by omega)]
      rfl
     ·cases iO
def fin (s:List Ab×Nat) (L:List (Ab×Nat)):List Ab×Nat:=L.foldl (fun s x=>(fk ag s.1 x.1,x.2)) s
theorem aqm {k:Nat} (hk:1000000<k) {p:List Pg} (hb:Bx p) {a:Nat} (D:Option aF) (A E:Int):∀ (m:Nat) (b:List Ab) (e:Int) (u n:Nat) (U R:Int),Di ag b->(∀ r∈b,bC r=true)->b.length<=60->0<=R->R+100<=1000000 - (100 - m:Int)*0 - m->U=(u:Int)->
  jO k ⟨D,A,E,U,⟨b⟩,R⟩ ((rd p a m b e u n).map fun x=>(x.1,(x.2:Int)))=some ⟨D,A,E,((fin (b,u) (rd p a m b e u n)).2:Int),⟨(fin (b,u) (rd p a m b e u n)).1⟩,R+(rd p a m b e u n).length⟩:=by
 intro m
 induction m with
 |zero=>intro b e u n U R _ _ _ _ _ hU;subst hU;simp[rd,jO,fin]
 |succ m ih=>
  intro b e u n U R hv mJ hl hR0 hR hU
  subst hU
  have stop:jO k ⟨D,A,E,(u:Int),⟨b⟩,R⟩ (([]:List (Ab×Nat)).map fun x=>(x.1,(x.2:Int)))=some ⟨D,A,E,((fin (b,u) []).2:Int),⟨(fin (b,u) []).1⟩,R+(([]:List (Ab×Nat)).length:Int)⟩:=by
   simp[jO,fin]
  rw[rd]
  cases hq:recAt p a u n with
  |none=>exact stop
  |some q=>
   obtain⟨⟨g1,g2,g3⟩,g4⟩:=(pU hb).1 hq
   simp only
   by_cases he:q.2.1<e
   ·rw[if_pos he];exact stop
   ·rw[if_neg he]
    cases dv:fo b q.1 with
    |none=>exact stop
    |some b'=>
     obtain⟨v1,v2⟩:=aeS hv g1 dv
     obtain⟨i1,_,_,i4⟩:=tq dv
     have iO:=dv
     unfold fo at iO
     split at iO
     ·rename_i hc
      have cK:(dK b q.1).1=b':=oi iO
      have hh:∀ r∈b,iC r:=fun r hr=>kT (mJ r hr)
      simp only[List.map_cons,jO]
      have gY:rm k ⟨D,A,E,(u:Int),⟨b⟩,R⟩ (q.1,((u+q.2.2:Nat):Int))=some ⟨D,A,E,((u+q.2.2:Nat):Int),⟨b'⟩,R+1⟩:=by
       unfold rm
       rw[yr hk (b:=⟨b⟩) hv.1 (show b.length<=900 by omega) hh,g1]
       simp only[Am,Ae,cK]
       rw[aW (by omega) (by omega)]
      rw[gY,Ae]
      rw[ih b' q.2.1 (u+q.2.2) (n+1) _ (R+1) v1 (fun r hr=>by
       rw[i1,aci]at hr
       rcases hr with rfl|hr
       ·exact g1
       ·exact mJ r hr) (by omega) (by omega) (by omega) rfl]
      have hf:fin (b,u) ((q.1,u+q.2.2)::rd p a m b' q.2.1 (u+q.2.2) (n+1))=fin (b',u+q.2.2) (rd p a m b' q.2.1 (u+q.2.2) (n+1)):=by
       unfold fin
       rw[List.foldl_cons,i1]
      rw[hf]
      simp only[AA]
      congr 2
      push_cast
      omega
     ·cases iO
theorem aia (k:Nat) (e n:Int):yC k e n=some ⟨[104,IntKind.u8.wrap (Int.fdiv e (2 ^ 16)),IntKind.u8.wrap (Int.fdiv e (2 ^ 8)),IntKind.u8.wrap e,IntKind.u8.wrap (Int.fdiv n (2 ^ 8)),IntKind.u8.wrap n,
  0,0,0,0,0,0,0,0,0,0,0,0,0,0,0,0,0,0,0,0,0,0,0,0,0,165],rfl⟩:=rfl
def dE (e n:Int):Hf:=⟨[104,IntKind.u8.wrap (Int.fdiv e (2 ^ 16)),IntKind.u8.wrap (Int.fdiv e (2 ^ 8)),IntKind.u8.wrap e,IntKind.u8.wrap (Int.fdiv n (2 ^ 8)),IntKind.u8.wrap n,
  0,0,0,0,0,0,0,0,0,0,0,0,0,0,0,0,0,0,0,0,0,0,0,0,0,165],rfl⟩
def pT (p:List Pg) (a:Nat):List (Ab×Nat):=rd p a 100 [] (aM (hf p a 0)) 1 0
structure Ar where
 de:Int
 nK:List (Ab×Nat)
def Ar.book (x:Ar):List Ab:=(fin ([],1) x.nK).1
def Ar.used (x:Ar):Nat:=(fin ([],1) x.nK).2
def eo (p:List Pg) (a:Nat):Option Ar:=
 if aM (hf p a 0)≠0/\hf p a 0=dE (aM (hf p a 0)) (bo [bt (hf p a 0) 4,bt (hf p a 0) 5])/\bo [bt (hf p a 0) 4,bt (hf p a 0) 5]<=((pT p a).length:Int) then some ⟨aM (hf p a 0),pT p a⟩ else none
theorem ajq {p:List Pg}{a:Nat}:∀ (m:Nat) (b:List Ab) (e:Int) (u n:Nat),(rd p a m b e u n).length<=m
 |0,_,_,_,_=>AY _
 |m+1,b,e,u,n=>by
  rw[rd]
  split
  ·exact Nat.zero_le _
  ·split
   ·exact Nat.zero_le _
   ·split
    ·exact Nat.zero_le _
    ·rw[AA]
     exact Nat.succ_le_succ (ajq m _ _ _ _)
theorem afd {p:List Pg} (hb:Bx p) {a:Nat}:∀ (m m':Nat) (b:List Ab) (e:Int) (u n:Nat),61<=m+b.length->61<=m'+b.length->b.length<=60->rd p a m b e u n=rd p a m' b e u n
 |0,_,b,_,_,_,h1,_,h3=>by omega
 |_+1,0,b,_,_,_,_,h2,h3=>by omega
 |m+1,m'+1,b,e,u,n,h1,h2,h3=>by
  rw[rd,rd]
  cases hq:recAt p a u n with
  |none=>rfl
  |some q=>
   simp only
   by_cases he:q.2.1<e
   ·rw[if_pos he,if_pos he]
   ·rw[if_neg he,if_neg he]
    cases dv:fo b q.1 with
    |none=>rfl
    |some b'=>
     obtain⟨i1,_,_,i4⟩:=tq dv
     have hl:b'.length=b.length+1:=by rw[i1,uY]
     simp only
     rw[afd hb m m' b' q.2.1 _ _ (by omega) (by omega) (by omega)]
theorem aqX {k:Nat} (hk:1000000<k) {p:List Pg} (hp:p.length=602) (hb:Bx p) (w:List As) {a:Nat} (ha:a<=1):
  kD k ⟨⟨p,w⟩⟩ (a:Int)=some ((pT p a).map fun x=>(x.1,(x.2:Int))):=by
 unfold kD
 have h0:=w8 k hp w ha (show 0<602 by decide)
 rw[Cz]at h0
 rw[h0]
 simp only[Ae,abO k (hb.hf a 0)]
 obtain⟨m,rfl⟩:∃ m,k=m+1:=⟨k - 1,by omega⟩
 have h1:=aqV hk hp hb w ha m [] (aM (hf p a 0)) 1 0 ⟨.nil,trivial⟩ (by simp) rfl (by decide) (by decide) (by omega)
 have h2:=afd hb (m+1) 100 [] (aM (hf p a 0)) 1 0 (by simp;omega) (by decide) (by decide) (a:=a)
 rw[h2]at h1
 exact h1
theorem ajd {k:Nat} (hk:1000000<k) {p:List Pg} (hp:p.length=602) (hb:Bx p) (w:List As) {a:Nat} (ha:a<=1):
  ∃ J ok,qk k ⟨⟨p,w⟩⟩ (a:Int)=some (J,ok)/\(match eo p a with|none=>ok=false|some q=>ok=true/\J.aX=(a:Int)/\J.de=q.de/\J.book=⟨q.book⟩/\J.used=(q.used:Int)):=by
 have h0:=w8 k hp w ha (show 0<602 by decide)
 rw[Cz]at h0
 have e4:(hf p a 0).at? 4=some (bt (hf p a 0) 4):=mo _ (i:=4) (by decide)
 have e5:(hf p a 0).at? 5=some (bt (hf p a 0) 5):=mo _ (i:=5) (by decide)
 have B4:=so (hb.hf a 0) 4
 have B5:=so (hb.hf a 0) 5
 unfold qk eo pQ
 rw[h0]
 simp only[Ae,abO k (hb.hf a 0),e4,e5,or2 B4 B5]
 by_cases he:aM (hf p a 0)=0
 ·simp only[Au he,AO,An]
  rw[if_neg (fun c=>c.1 he)]
  exact⟨_,_,rfl,rfl⟩
 ·simp only[AI he,Bn,Am,aia,Ae]
  by_cases hh:hf p a 0=dE (aM (hf p a 0)) (bo [bt (hf p a 0) 4,bt (hf p a 0) 5])
  ·have hv:Aa.eq (fun(x y:Int)=>decide (x=y)) (hf p a 0) (dE (aM (hf p a 0)) (bo [bt (hf p a 0) 4,bt (hf p a 0) 5]))=true:=(rH _ _).2 hh
   unfold dE at hv
   simp only[hv,AO,An,aqX hk hp hb w ha,Ae]
   have ho:=aqm hk hb (a:=a) (some ⟨⟨p,w⟩⟩) (a:Int) (aM (hf p a 0)) 100 [] (aM (hf p a 0)) 1 0 1 0 ⟨.nil,trivial⟩ (by simp) (by decide) (by decide) (by decide) rfl
   have hl:=ajq (p:=p) (a:=a) 100 [] (aM (hf p a 0)) 1 0
   unfold tu
   rw[show pT p a=rd p a 100 [] (aM (hf p a 0)) 1 0 from rfl,ho]
   simp only[Ae,Int.zero_add]
   refine⟨_,_,rfl,?_⟩
   by_cases hc:bo [bt (hf p a 0) 4,bt (hf p a 0) 5]<=((rd p a 100 [] (aM (hf p a 0)) 1 0).length:Int)
   ·rw[if_pos ⟨he,hh,hc⟩]
    exact⟨Au hc,rfl,rfl,rfl,rfl⟩
   ·rw[if_neg (fun c=>hc c.2.2)]
    exact AI hc
  ·have hv:Aa.eq (fun(x y:Int)=>decide (x=y)) (hf p a 0) (dE (aM (hf p a 0)) (bo [bt (hf p a 0) 4,bt (hf p a 0) 5]))=false:=by
    cases hq:Aa.eq (fun(x y:Int)=>decide (x=y)) (hf p a 0) (dE (aM (hf p a 0)) (bo [bt (hf p a 0) 4,bt (hf p a 0) 5])) with
    |false=>rfl
    |true=>exact absurd ((rH _ _).1 hq) hh
   unfold dE at hv
   simp only[hv,Bn,Am]
   rw[if_neg (fun c=>hh c.2.1)]
   exact⟨_,_,rfl,rfl⟩
def oC (p:List Pg):Option (Nat×Ar):=match eo p 0,eo p 1 with
 |some x,some y=>if x.de<y.de then some (1,y) else some (0,x)
 |some x,none=>some (0,x)
 |none,some y=>some (1,y)
 |none,none=>none
theorem aeK {k:Nat} (hk:1000000<k) {p:List Pg} (hp:p.length=602) (hb:Bx p) (w:List As):
  ∃ J ok,vU k ⟨⟨p,w⟩⟩=some (J,ok)/\(match oC p with|none=>ok=false|some q=>ok=true/\J.aX=(q.1:Int)/\J.de=q.2.de/\J.book=⟨q.2.book⟩/\J.used=(q.2.used:Int)):=by
 obtain⟨J0,o0,h0,g0⟩:=ajd hk hp hb w (a:=0) (by decide)
 obtain⟨J1,o1,h1,g1⟩:=ajd hk hp hb w (a:=1) (by decide)
 have zb:qk k ⟨⟨p,w⟩⟩ 0=some (J0,o0):=h0
 have uA:qk k ⟨⟨p,w⟩⟩ 1=some (J1,o1):=h1
 unfold vU oC
 rw[zb,uA]
 simp only[Ae]
 cases hx:eo p 0 with
 |none=>
  rw[hx]at g0
  simp only at g0
  subst g0
  cases hy:eo p 1 with
  |none=>
   rw[hy]at g1
   simp only at g1
   subst g1
   exact⟨_,_,rfl,rfl⟩
  |some y=>
   rw[hy]at g1
   simp only at g1
   obtain⟨rfl,a2,a3,a4,a5⟩:=g1
   exact⟨_,_,rfl,rfl,a2,a3,a4,a5⟩
 |some x=>
  rw[hx]at g0
  simp only at g0
  obtain⟨rfl,b2,b3,b4,b5⟩:=g0
  cases hy:eo p 1 with
  |none=>
   rw[hy]at g1
   simp only at g1
   subst g1
   exact⟨_,_,rfl,rfl,b2,b3,b4,b5⟩
  |some y=>
   rw[hy]at g1
   simp only at g1
   obtain⟨rfl,a2,a3,a4,a5⟩:=g1
   simp only[Am,b3,a3]
   by_cases af:x.de<y.de
   ·simp only[Au af,Am,if_pos af]
    exact⟨_,_,rfl,rfl,a2,a3,a4,a5⟩
   ·simp only[AI af,An,if_neg af]
    exact⟨_,_,rfl,rfl,b2,b3,b4,b5⟩
theorem anY {k:Nat} (hk:1000000<k) {l:List Ab} (hl:l.length<=100000):iF k l l=some true:=by
 unfold iF
 simp only[Bf,AO,An]
 have h:=xZ (l:=l) (body:=iF.b0 k l l) (p:=fun _=>true) (c:=false) (by omega) (k:=k) (by omega) (fun i x hx=>by
  have hi:=(gS.1 hx).1
  unfold iF.b0
  simp only[Au (show (i:Int)<(l.length:Int) by omega),Am,bp hx,Ae,Bf,BB,beq_self_eq_true,AO,An]) (by
  unfold iF.b0
  simp only[(by simp:decide ((l.length:Int)<(l.length:Int))=false),An])
 rw[h]
 have:l.all (fun _=>true)=true:=by simp
 rw[this]
 rfl
theorem Bx.au {w:List As} (hw:∀ x∈w,∀ h∈x.AQ.l,Bl h.l):∀ {p:List Pg},Bx p->Bx (au p w):=by
 induction w with
 |nil=>intro p h;exact h
 |cons x w ih=>
  intro p h
  refine ih (fun y hy=>hw y (by simp[hy])) (fun g hg=>?_)
  rcases List.mem_or_eq_of_mem_set hg with g1|rfl
  ·exact h g g1
  ·exact hw x (by simp)
structure DB (d:Ad):Prop where
 ok:lx d=true
 pb:Bx d.Aj
 wb:∀ x∈d.Af,∀ h∈x.AQ.l,Bl h.l
theorem DB.new {d:Ad} (h:DB d):Bx (au d.Aj d.Af):=Bx.au h.wb h.pb
theorem DB.len {d:Ad} (h:DB d):(au d.Aj d.Af).length=602:=by rw[apR];exact(jA.1 h.ok).1
structure FB (d:Ad) (l:Ai) (q:Nat×Ar):Prop where
 aiR:oC (au d.Aj d.Af)=some q
 le:q.1<=1
 aX:l.AS=(q.1:Int)
 used:l.Used=(q.2.used:Int)
 book:l.Ak=⟨q.2.book⟩
 short:q.2.book.length<=60
 ep:1<=l.Aq/\l.Aq<=1000000
 m0:mx (au d.Aj d.Af) 0 0<=l.Aq
 m1:mx (au d.Aj d.Af) 1 0<=l.Aq
 mu:mx (au d.Aj d.Af) q.1 q.2.used<l.Aq
theorem ya {x lo hi:Int} (h:lo<=x/\x<=hi):within x lo hi=true:=by unfold within;simp[h.1,h.2]
theorem yI {k:Nat} (hk:1000000<k) {d:Ad} (hd:DB d) {l:Ai}{q:Nat×Ar} (h:FB d l q):rX k d l=some 0:=by
 obtain⟨J,ok,h1,h2⟩:=aeK hk hd.len hd.new []
 rw[h.aiR]at h2
 simp only at h2
 obtain⟨rfl,ha,he,uD,hu⟩:=h2
 have E0:=yS hk hd.len hd.new [] (a:=0) (by decide) 0
 have E1:=yS hk hd.len hd.new [] (a:=1) (by decide) 0
 have E2:=yS hk hd.len hd.new [] h.le q.2.used
 have FJ:ew k ⟨⟨au d.Aj d.Af,[]⟩⟩ 0 0=some (mx (au d.Aj d.Af) 0 0):=E0
 have FK:ew k ⟨⟨au d.Aj d.Af,[]⟩⟩ 1 0=some (mx (au d.Aj d.Af) 1 0):=E1
 have qN:=h.m0
 have dv:=h.m1
 have hmu:=h.mu
 have hs:=h.short
 unfold rX
 rw[xu hk,hd.ok]
 simp only[Ae,AO,An]
 rw[nY hd.ok]
 simp only[Ae]
 rw[aaF hk hd.ok]
 simp only[Ae,h1,Am,h.aX,ha,hu,h.used,Bf,uD,h.book,anY hk (show q.2.book.length<=100000 by omega),nB,ya h.ep,AO,An,FJ,FK]
 rw[AI (show ¬ l.Aq<max (mx (au d.Aj d.Af) 0 0) (mx (au d.Aj d.Af) 1 0) by omega)]
 simp only[Bn,Am,E2,Ae]
 rw[AI (show ¬ l.Aq<=mx (au d.Aj d.Af) q.1 q.2.used by omega)]
 rfl
theorem ajc {k:Nat} (hk:1000000<k) {d:Ad} (hd:DB d) {q:Nat×Ar} (h:oC (au d.Aj d.Af)=some q) (hm:max (mx (au d.Aj d.Af) 0 0) (mx (au d.Aj d.Af) 1 0)<1000000):
  oV k d=some (⟨au d.Aj d.Af,[]⟩,⟨⟨q.2.book⟩,(q.1:Int),1+max (mx (au d.Aj d.Af) 0 0) (mx (au d.Aj d.Af) 1 0),(q.2.used:Int)⟩,0):=by
 obtain⟨J,ok,h1,h2⟩:=aeK hk hd.len hd.new []
 rw[h]at h2
 simp only at h2
 obtain⟨rfl,ha,he,uD,hu⟩:=h2
 have FJ:ew k ⟨⟨au d.Aj d.Af,[]⟩⟩ 0 0=some (mx (au d.Aj d.Af) 0 0):=yS hk hd.len hd.new [] (a:=0) (by decide) 0
 have FK:ew k ⟨⟨au d.Aj d.Af,[]⟩⟩ 1 0=some (mx (au d.Aj d.Af) 1 0):=yS hk hd.len hd.new [] (a:=1) (by decide) 0
 have n0:=xD (au d.Aj d.Af) 0 0
 have n1:=xD (au d.Aj d.Af) 1 0
 have hw:ab (1+max (mx (au d.Aj d.Af) 0 0) (mx (au d.Aj d.Af) 1 0))=1+max (mx (au d.Aj d.Af) 0 0) (mx (au d.Aj d.Af) 1 0):=aW (by omega) (by omega)
 unfold oV
 rw[xu hk,hd.ok]
 simp only[Ae,AO,An]
 rw[nY hd.ok]
 simp only[Ae]
 rw[aaF hk hd.ok]
 simp only[Ae,h1,AO,An,FJ,FK,hw,uD,ha,hu]
 rw[AI (show ¬ (1000000:Int)<1+max (mx (au d.Aj d.Af) 0 0) (mx (au d.Aj d.Af) 1 0) by omega)]
 rfl
def ph (p:List Pg) (j s:Nat):Hf:=match p[j]? with
 |some g=>(g.l[s]?).getD hz
 |none=>hz
theorem zu (p:List Pg) (a i:Nat):hf p a i=ph p (301*a+i / 2) (i % 2):=rfl
def sd (g:Pg) (s:Nat):Hf:=(g.l[s]?).getD hz
theorem rq {p:List Pg}{j:Nat}{g:Pg} (h:p[j]?=some g) (s:Nat):ph p j s=sd g s:=by unfold ph;rw[h];rfl
theorem aqF {p:List Pg}{j:Nat} (h:p.length<=j) (s:Nat):ph p j s=hz:=by unfold ph;rw[CF h]
theorem aat {p:List Pg}{j:Nat} (hj:j<p.length) (g:Pg) (j' s:Nat):ph (p.set j g) j' s=if j'=j then sd g s else ph p j' s:=by
 by_cases e:j'=j
 ·subst e
  rw[if_pos rfl,rq (by rw[List.getElem?_set_self hj])]
 ·rw[if_neg e]
  unfold ph
  rw[List.getElem?_set_ne (Ne.symm e)]
theorem pW (g:Pg) {s:Nat} (hs:s<2) (x:Hf) (s':Nat):sd (g.set (s:Int) x) s'=if s'=s then x else sd g s':=by
 have hl:=g.h
 unfold sd Aa.set
 simp only[BQ]
 by_cases e:s'=s
 ·subst e
  rw[if_pos rfl,List.getElem?_set_self (by omega)];rfl
 ·rw[if_neg e,List.getElem?_set_ne (Ne.symm e)]
theorem tM (g:Pg) {s:Nat} (hs:s<2):g.at? (s:Int)=some (sd g s):=by
 have:=ac2 g s
 rw[Nat.mod_eq_of_lt hs]at this
 exact this
def C7 (nF new p:List Pg):Prop:=∀ j s,ph p j s=ph nF j s\/ph p j s=ph new j s
theorem acK {k:Nat}{p:List Pg} (hp:p.length=602) {w:As} (hw:0<=w.At/\w.At<=601) {s:Nat} (hs:s<2):
  ∃ g,at? p w.At=some g/\dN p w.At (g.set (s:Int) (sd w.AQ s))=some (p.set w.At.toNat (g.set (s:Int) (sd w.AQ s)))/\∀ j' s',ph (p.set w.At.toNat (g.set (s:Int) (sd w.AQ s))) j' s'=if j'=w.At.toNat/\s'=s then sd w.AQ s else ph p j' s':=by
 have hj:w.At.toNat<p.length:=by omega
 refine⟨p[w.At.toNat],?_,?_,fun j' s'=>?_⟩
 ·unfold at?
  rw[if_pos ⟨by omega,by omega⟩,gG hj]
 ·unfold dN
  rw[if_pos ⟨by omega,by omega⟩]
 ·rw[aat hj,pW _ hs]
  by_cases e:j'=w.At.toNat
  ·subst e
   by_cases e2:s'=s
   ·rw[if_pos rfl,if_pos e2,if_pos ⟨rfl,e2⟩]
   ·rw[if_pos rfl,if_neg e2,if_neg (fun c=>e2 c.2),rq (gG hj)]
  ·rw[if_neg e,if_neg (fun c=>e c.1)]
def Part (p p':List Pg) (w:As):Prop:=p'.length=602/\∀ j s,ph p' j s=ph p j s\/(j=w.At.toNat/\ph p' j s=sd w.AQ s)
theorem ajX {R:Type}{w:As} (hw:0<=w.At/\w.At<=601) {body:Int×List Pg->Option (AN (Int×List Pg) (List Pg) R)}{c:Nat->Bool}
  (h1:∀ (s:Nat) p,s<2->p.length=602->body ((s:Int),p)=bif c s then (w.AQ.at? (s:Int)).bind fun x=>(at? p w.At).bind fun g=>(g.at? (s:Int)).bind fun _=>(dN p w.At (g.set (s:Int) x)).bind fun l=>some (.next (ab ((s:Int)+1),l)) else some (.next (ab ((s:Int)+1),p)))
  (h2:∀ p,body (2,p)=some (.brk p)) {p:List Pg} (hp:p.length=602) (m:Nat):∃ p',ai body (m+3) (0,p)=some (.brk p')/\Part p p' w:=by
 have w1:ab (((0:Nat):Int)+1)=((1:Nat):Int):=by decide
 have w2:ab (((1:Nat):Int)+1)=2:=by decide
 have one:∀ (s:Nat) (p:List Pg),s<2->p.length=602->∃ p',body ((s:Int),p)=some (.next (ab ((s:Int)+1),p'))/\Part p p' w:=by
  intro s p hs hp
  rw[h1 s p hs hp]
  cases c s with
  |false=>exact⟨p,rfl,hp,fun j s=>.inl rfl⟩
  |true=>
   obtain⟨g,g1,g3,g4⟩:=acK (k:=0) hp hw hs
   refine⟨p.set w.At.toNat (g.set (s:Int) (sd w.AQ s)),?_,by rw[C3];exact hp,fun j s'=>?_⟩
   ·simp only[Am,tM w.AQ hs,tM g hs,g1,g3,Ae]
   ·rw[g4]
    by_cases e:j=w.At.toNat/\s'=s
    ·rw[if_pos e];exact .inr ⟨e.1,by rw[e.2]⟩
    ·rw[if_neg e];exact .inl rfl
 obtain⟨p1,a1,b1,b2⟩:=one 0 p (by decide) hp
 obtain⟨p2,a2,c1,c2⟩:=one 1 p1 (by decide) b1
 rw[w1]at a1
 rw[w2]at a2
 refine⟨p2,?_,c1,fun j s=>?_⟩
 ·have yp:body (0,p)=some (.next (((1:Nat):Int),p1)):=a1
  simp only[ai,yp,a2,h2]
 ·rcases c2 j s with e|⟨e1,e2⟩
  ·rcases b2 j s with f|⟨f1,f2⟩
   ·exact .inl (e.trans f)
   ·exact .inr ⟨f1,e.trans f2⟩
  ·exact .inr ⟨e1,e2⟩
theorem agV {k:Nat} (hk:1000000<k) {d:Ad} (hd:DB d) (bD:List Int) (xk:bD.length<=4611686018427387904)
  (hW:∀ w∈d.Af,∀ s,sd w.AQ s=ph d.Aj w.At.toNat s\/sd w.AQ s=ph (au d.Aj d.Af) w.At.toNat s):
  ∃ p',bd k d bD=some ⟨p',[]⟩/\p'.length=602/\C7 d.Aj (au d.Aj d.Af) p':=by
 obtain⟨h1,h2,h3⟩:=jA.1 hd.ok
 have step:∀ (i:Nat) w (p:List Pg),d.Af[i]?=some w->p.length=602->∃ p',bd.b0 k bD ⟨d⟩ ((i:Int),p)=some (.next (ab ((i:Int)+1),p'))/\Part p p' w:=by
  intro i w p hx hp
  have hi:=(gS.1 hx).1
  have hw:=h3 w (A6 hx)
  unfold bd.b0
  simp only[Au (show (i:Int)<((d.Af.length:Nat):Int) by omega),Am,bp hx,Ae]
  obtain⟨m,rfl⟩:∃ m,k=m+3:=⟨k - 3,by omega⟩
  have sh0:∀ s:Nat,s<2->lX (s:Int)=some ():=fun s hs=>by unfold lX;rw[if_neg (by omega)]
  by_cases hz:(0:Int)<(bD.length:Int)
  ·have pA:pO (bD.length:Int)=some ():=by unfold pO;rw[if_neg (by omega)]
   obtain⟨x,uV⟩:∃ x,at? bD (Int.tmod (i:Int) (bD.length:Int))=some x:=by
    rw[<-Int.ofNat_tmod]
    have af:i % bD.length<bD.length:=Nat.mod_lt _ (by omega)
    exact⟨_,bp (gG af)⟩
   simp only[Au hz,Am,pA,uV,Ae]
   obtain⟨p',g1,g2⟩:=ajX (w:=w) hw (body:=bd.b1 (m+3) w x) (c:=fun s=>decide (dV .i64 (Int.fdiv (dV .i64 x 3) (2 ^ (min (Int.toNat (s:Int)) 64))) 1=(1:Int))) (fun s p hs hp=>by
    unfold bd.b1
    simp only[Au (show (s:Int)<2 by omega),Am,sh0 s hs,Ae]) (fun p=>by
    unfold bd.b1
    simp only[(by decide:decide ((2:Int)<2)=false),An]) hp m
   exact⟨p',by rw[g1];rfl,g2⟩
  ·simp only[AI hz,An]
   obtain⟨p',g1,g2⟩:=ajX (w:=w) hw (body:=bd.qi (m+3) w) (c:=fun s=>decide (dV .i64 (Int.fdiv 0 (2 ^ (min (Int.toNat (s:Int)) 64))) 1=(1:Int))) (fun s p hs hp=>by
    unfold bd.qi
    simp only[Au (show (s:Int)<2 by omega),Am,sh0 s hs,Ae]) (fun p=>by
    unfold bd.qi
    simp only[(by decide:decide ((2:Int)<2)=false),An]) hp m
   exact⟨p',by rw[g1];rfl,g2⟩
 have key:∀ (n i m:Nat) (p:List Pg),i+n=d.Af.length->n<m->p.length=602->C7 d.Aj (au d.Aj d.Af) p->
   ∃ p',ai (bd.b0 k bD ⟨d⟩) m ((i:Int),p)=some (.brk p')/\p'.length=602/\C7 d.Aj (au d.Aj d.Af) p':=by
  intro n
  induction n with
  |zero=>
   intro i m p g1 g2 g3 g4
   obtain⟨m,rfl⟩:∃ q,m=q+1:=⟨m - 1,by omega⟩
   have hb:bd.b0 k bD ⟨d⟩ ((i:Int),p)=some (.brk p):=by
    unfold bd.b0
    simp only[AI (show ¬ (i:Int)<((d.Af.length:Nat):Int) by omega),An]
   exact⟨p,by simp only[ai,hb],g3,g4⟩
  |succ n ih=>
   intro i m p g1 g2 g3 g4
   obtain⟨m,rfl⟩:∃ q,m=q+1:=⟨m - 1,by omega⟩
   obtain⟨w,hw⟩:∃ w,d.Af[i]?=some w:=⟨_,gG (by omega)⟩
   obtain⟨p1,a1,a2,a3⟩:=step i w p hw g3
   have hww:ab ((i:Int)+1)=((i+1:Nat):Int):=by rw[aW (by omega) (by omega)];omega
   rw[hww]at a1
   obtain⟨p',b1,b2⟩:=ih (i+1) m p1 (by omega) (by omega) a2 (fun j s=>by
    rcases a3 j s with e|⟨e1,e2⟩
    ·rw[e];exact g4 j s
    ·rw[e2,e1];exact hW w (A6 hw) s)
   exact⟨p',by simp only[ai,a1,b1],b2⟩
 unfold bd
 rw[nY hd.ok,xu hk,hd.ok]
 simp only[Ae,AO,An]
 obtain⟨p',b1,b2,b3⟩:=key d.Af.length 0 k d.Aj (by omega) (by omega) h1 (fun j s=>.inl rfl)
 rw[Cz]at b1
 exact⟨p',by rw[b1];rfl,b2,b3⟩
def pz:Pg:=Aa.rep 2 hz
def eQ (p:List Pg) (a u:Nat) (l:List Hf):Nat->Nat->List As
 |0,_=>[]
 |f+1,i=>match l[i]? with
  |none=>[]
  |some x=>if (u+i) % 2=1 then ⟨((301*a+(u+i) / 2:Nat):Int),((p[301*a+(u+i) / 2]?).getD pz).set 1 x⟩::eQ p a u l f (i+1) else match l[i+1]? with
   |none=>[⟨((301*a+(u+i) / 2:Nat):Int),((p[301*a+(u+i) / 2]?).getD pz).set 0 x⟩]
   |some y=>⟨((301*a+(u+i) / 2:Nat):Int),(((p[301*a+(u+i) / 2]?).getD pz).set 0 x).set 1 y⟩::eQ p a u l f (i+2)
theorem asi {k:Nat} (hk:1000000<k) {p:List Pg} (hp:p.length=602) {a u:Nat} (ha:a<=1) {l:List Hf} (cw:u+l.length<=602):∀ (f i m:Nat) (ws:List As),l.length - i<=f->f<m->i<=l.length->ws.length+f<=100000->
  ai (bX.b0 k (a:Int) (u:Int) l ⟨⟨p,[]⟩⟩) m ((i:Int),ws)=some (.brk (ws++eQ p a u l f i)):=by
 intro f
 induction f with
 |zero=>
  intro i m ws h1 h2 h3 h4
  obtain⟨m,rfl⟩:∃ q,m=q+1:=⟨m - 1,by omega⟩
  have hb:bX.b0 k (a:Int) (u:Int) l ⟨⟨p,[]⟩⟩ ((i:Int),ws)=some (.brk ws):=by
   unfold bX.b0
   simp only[AI (show ¬ (i:Int)<(l.length:Int) by omega),An]
  simp only[ai,hb,eQ,List.append_nil]
 |succ f ih=>
  intro i m ws h1 h2 h3 h4
  obtain⟨m,rfl⟩:∃ q,m=q+1:=⟨m - 1,by omega⟩
  by_cases hi:i<l.length
  ·obtain⟨x,hx⟩:∃ x,l[i]?=some x:=⟨_,gG hi⟩
   have sV:ab ((u:Int)+(i:Int))=((u+i:Nat):Int):=by rw[aW (by omega) (by omega)];omega
   have gk:ab ((i:Int)+1)=((i+1:Nat):Int):=by rw[aW (by omega) (by omega)];omega
   have zX:ab ((u:Int)+((i+1:Nat):Int))=((u+(i+1):Nat):Int):=by rw[aW (by omega) (by omega)];omega
   have hg:p[301*a+(u+i) / 2]?=some (p[301*a+(u+i) / 2]'(by omega)):=gG (by omega)
   obtain⟨g,bK⟩:∃ g,p[301*a+(u+i) / 2]?=some g:=⟨_,hg⟩
   have xj:=abo hp ha (show u+i<602 by omega)
   obtain⟨k',rfl⟩:∃ k',k=k'+2:=⟨k - 2,by omega⟩
   have sS:∀ v:As,eO 72 ws v=some (ws++[v]):=fun v=>nG (by omega) (by omega)
   by_cases mI:(u+i) % 2=1
   ·have bT:bX.b1 (k'+2) (u:Int) l (g,(i:Int))=some (.brk (g.set 1 x,((i+1:Nat):Int))):=by
     unfold bX.b1
     have hm:Int.tmod ((u+i:Nat):Int) 2=((1:Nat):Int):=by rw[ri,mI]
     have dv:Int.tmod ((u+(i+1):Nat):Int) 2=0:=by rw[ri];omega
     simp only[bp hx,Ae,sV,hm,tM g (show 1<2 by decide),gk,zX,dv,Bf,Am]
     cases decide (((i+1:Nat):Int)=(l.length:Int))<;>rfl
    have hb:bX.b0 (k'+2) (a:Int) (u:Int) l ⟨⟨p,[]⟩⟩ ((i:Int),ws)=some (.next (((i+1:Nat):Int),ws++[⟨((301*a+(u+i) / 2:Nat):Int),g.set 1 x⟩])):=by
     unfold bX.b0
     simp only[Au (show (i:Int)<(l.length:Int) by omega),Am,sV,xj,bp bK,Ae,ai,bT,sS]
    simp only[ai,hb]
    rw[ih (i+1) m _ (by omega) (by omega) (by omega) (by simp;omega)]
    rw[eQ,hx]
    simp only[if_pos mI,bK,Option.getD_some]
    simp
   ·have hm:Int.tmod ((u+i:Nat):Int) 2=((0:Nat):Int):=by rw[ri];omega
    have dv:¬ Int.tmod ((u+(i+1):Nat):Int) 2=0:=by rw[ri];omega
    by_cases fb:i+1=l.length
    ·have bT:bX.b1 (k'+2) (u:Int) l (g,(i:Int))=some (.brk (g.set 0 x,((i+1:Nat):Int))):=by
      unfold bX.b1
      simp only[bp hx,Ae,sV,hm,tM g (show 0<2 by decide),gk,Au (show ((i+1:Nat):Int)=(l.length:Int) by omega),AO,An]
      rfl
     have hb:bX.b0 (k'+2) (a:Int) (u:Int) l ⟨⟨p,[]⟩⟩ ((i:Int),ws)=some (.next (((i+1:Nat):Int),ws++[⟨((301*a+(u+i) / 2:Nat):Int),g.set 0 x⟩])):=by
      unfold bX.b0
      simp only[Au (show (i:Int)<(l.length:Int) by omega),Am,sV,xj,bp bK,Ae,ai,bT,sS]
     have hn:l[i+1]?=none:=CF (by omega)
     have aeh:eQ p a u l f (i+1)=[]:=by
      cases f with
      |zero=>rfl
      |succ f=>rw[eQ,hn]
     simp only[ai,hb]
     rw[ih (i+1) m _ (by omega) (by omega) (by omega) (by simp;omega),aeh]
     rw[eQ,hx]
     simp only[if_neg mI,hn,bK,Option.getD_some]
     simp
    ·obtain⟨y,hy⟩:∃ y,l[i+1]?=some y:=⟨_,gG (by omega)⟩
     have uU:ab (((i+1:Nat):Int)+1)=((i+2:Nat):Int):=by rw[aW (by omega) (by omega)];omega
     have apc:ab ((u:Int)+((i+2:Nat):Int))=((u+(i+2):Nat):Int):=by rw[aW (by omega) (by omega)];omega
     have iO:Int.tmod ((u+(i+1):Nat):Int) 2=((1:Nat):Int):=by rw[ri];omega
     have hm3:Int.tmod ((u+(i+2):Nat):Int) 2=0:=by rw[ri];omega
     have aoK:bX.b1 (k'+2) (u:Int) l (g,(i:Int))=some (.next (g.set 0 x,((i+1:Nat):Int))):=by
      unfold bX.b1
      simp only[bp hx,Ae,sV,hm,tM g (show 0<2 by decide),gk,AI (show ¬ ((i+1:Nat):Int)=(l.length:Int) by omega),Bn,Am,zX,AI dv,An]
      rfl
     have aoL:bX.b1 (k'+2) (u:Int) l (g.set 0 x,((i+1:Nat):Int))=some (.brk ((g.set 0 x).set 1 y,((i+2:Nat):Int))):=by
      unfold bX.b1
      simp only[bp hy,Ae,zX,iO,tM (g.set 0 x) (show 1<2 by decide),uU,apc,hm3,Bf,Am]
      cases decide (((i+2:Nat):Int)=(l.length:Int))<;>rfl
     have hb:bX.b0 (k'+2) (a:Int) (u:Int) l ⟨⟨p,[]⟩⟩ ((i:Int),ws)=some (.next (((i+2:Nat):Int),ws++[⟨((301*a+(u+i) / 2:Nat):Int),(g.set 0 x).set 1 y⟩])):=by
      unfold bX.b0
      simp only[Au (show (i:Int)<(l.length:Int) by omega),Am,sV,xj,bp bK,Ae,ai,aoK,aoL,sS]
     simp only[ai,hb]
     rw[ih (i+2) m _ (by omega) (by omega) (by omega) (by simp;omega)]
     rw[eQ,hx]
     simp only[if_neg mI,hy,bK,Option.getD_some]
     simp
  ·have hn:l[i]?=none:=CF (by omega)
   have hb:bX.b0 k (a:Int) (u:Int) l ⟨⟨p,[]⟩⟩ ((i:Int),ws)=some (.brk ws):=by
    unfold bX.b0
    simp only[AI (show ¬ (i:Int)<(l.length:Int) by omega),An]
   simp only[ai,hb]
   rw[eQ,hn]
   simp
abbrev lL (a u i n j s:Nat):Prop:=301*a<=j/\j<301*a+301/\u+i<=2*(j - 301*a)+s/\2*(j - 301*a)+s<u+n
def tg (p:List Pg) (a u:Nat) (l:List Hf) (i j s:Nat):Hf:=if lL a u i l.length j s then (l[2*(j - 301*a)+s - u]?).getD hz else ph p j s
theorem aqE {p:List Pg}{s:Nat} (hs:2<=s) (j:Nat):ph p j s=hz:=by
 unfold ph
 split
 ·rename_i g _
  have:=g.h
  rw[CF (by omega)];rfl
 ·rfl
theorem ars {g:Pg}{s:Nat} (hs:2<=s):sd g s=hz:=by
 have:=g.h
 unfold sd
 rw[CF (by omega)];rfl
theorem aaO (p:List Pg) (a u:Nat) (l:List Hf):∀ f i,(eQ p a u l f i).length<=l.length - i
 |0,i=>by simp[eQ]
 |f+1,i=>by
  rw[eQ]
  cases hx:l[i]? with
  |none=>simp
  |some x=>
   have hi:=(gS.1 hx).1
   simp only
   split
   ·have:=aaO p a u l f (i+1)
    rw[AA];omega
   ·cases hy:l[i+1]? with
    |none=>simp;omega
    |some y=>
     have xg:=(gS.1 hy).1
     have:=aaO p a u l f (i+2)
     simp only[AA];omega
theorem afA {p:List Pg} (hp:p.length=602) {a u:Nat} (ha:a<=1) {l:List Hf} (cw:u+l.length<=602):∀ f i,((u+i) % 2=1->i=0)->∀ w∈eQ p a u l f i,(0<=w.At/\w.At<=601)/\∀ s,s<2->sd w.AQ s=tg p a u l 0 w.At.toNat s
 |0,i,_,w,hw=>by simp[eQ]at hw
 |f+1,i,ho,w,hw=>by
  rw[eQ]at hw
  cases hx:l[i]? with
  |none=>rw[hx]at hw;simp at hw
  |some x=>
   have hi:=(gS.1 hx).1
   have hg:p[301*a+(u+i) / 2]?=some (p[301*a+(u+i) / 2]'(by omega)):=gG (by omega)
   obtain⟨g,bK⟩:∃ g,p[301*a+(u+i) / 2]?=some g:=⟨_,hg⟩
   rw[hx]at hw
   simp only[bK,Option.getD_some]at hw
   split at hw
   ·rename_i mI
    rcases BF.1 hw with rfl|hw
    ·refine⟨by simp only;omega,fun s hs=>?_⟩
     simp only[BQ]
     rw[show (1:Int)=((1:Nat):Int) from rfl,pW g (show 1<2 by decide)]
     have h0:=ho mI
     unfold tg lL
     by_cases e:s=1
     ·rw[if_pos e,if_pos (by omega),show 2*(301*a+(u+i) / 2 - 301*a)+s - u=i by omega,hx];rfl
     ·rw[if_neg e,if_neg (by omega),rq bK]
    ·exact afA hp ha cw f (i+1) (by omega) w hw
   ·rename_i uH
    cases hy:l[i+1]? with
    |none=>
     have xg:l.length<=i+1:=List.getElem?_eq_none_iff.1 hy
     rw[hy]at hw
     simp only[CS]at hw
     subst hw
     refine⟨by simp only;omega,fun s hs=>?_⟩
     simp only[BQ]
     rw[show (0:Int)=((0:Nat):Int) from rfl,pW g (show 0<2 by decide)]
     unfold tg lL
     by_cases e:s=0
     ·rw[if_pos e,if_pos (by omega),show 2*(301*a+(u+i) / 2 - 301*a)+s - u=i by omega,hx];rfl
     ·rw[if_neg e,if_neg (by omega),rq bK]
    |some y=>
     have xg:=(gS.1 hy).1
     rw[hy]at hw
     simp only at hw
     rcases BF.1 hw with rfl|hw
     ·refine⟨by simp only;omega,fun s hs=>?_⟩
      simp only[BQ]
      rw[show (1:Int)=((1:Nat):Int) from rfl,pW _ (show 1<2 by decide),show (0:Int)=((0:Nat):Int) from rfl,pW g (show 0<2 by decide)]
      unfold tg lL
      by_cases e:s=1
      ·rw[if_pos e,if_pos (by omega),show 2*(301*a+(u+i) / 2 - 301*a)+s - u=i+1 by omega,hy];rfl
      ·rw[if_neg e,if_pos (by omega),if_pos (by omega),show 2*(301*a+(u+i) / 2 - 301*a)+s - u=i by omega,hx];rfl
     ·exact afA hp ha cw f (i+2) (by omega) w hw
theorem afz {p:List Pg} (hp:p.length=602) {a u:Nat} (ha:a<=1) {l:List Hf} (cw:u+l.length<=602):∀ (f i:Nat) (q:List Pg),l.length - i<=f->((u+i) % 2=1->i=0)->q.length=602->(∀ j,301*a+(u+i) / 2<=j->q[j]?=p[j]?)->∀ j s,s<2->ph (au q (eQ p a u l f i)) j s=tg q a u l i j s
 |0,i,q,hf,_,hq,hqp,j,s,hs=>by
  unfold eQ au tg lL
  rw[List.foldl_nil,if_neg (by omega)]
 |f+1,i,q,hf,ho,hq,hqp,j,s,hs=>by
  rw[eQ]
  cases hx:l[i]? with
  |none=>
   have hi:l.length<=i:=List.getElem?_eq_none_iff.1 hx
   unfold au tg lL
   rw[List.foldl_nil,if_neg (by omega)]
  |some x=>
   have hi:=(gS.1 hx).1
   have hg:p[301*a+(u+i) / 2]?=some (p[301*a+(u+i) / 2]'(by omega)):=gG (by omega)
   obtain⟨g,bK⟩:∃ g,p[301*a+(u+i) / 2]?=some g:=⟨_,hg⟩
   have hqg:q[301*a+(u+i) / 2]?=some g:=by rw[hqp _ (AY _)];exact bK
   have jY:301*a+(u+i) / 2<q.length:=by omega
   simp only[bK,Option.getD_some]
   split
   ·rename_i mI
    have h0:=ho mI
    unfold au
    rw[List.foldl_cons]
    simp only[BQ]
    have:=afz hp ha cw f (i+1) (q.set (301*a+(u+i) / 2) (g.set 1 x)) (by omega) (by omega) (by rw[C3];exact hq) (fun j hj=>by rw[List.getElem?_set_ne (by omega)];exact hqp j (by omega)) j s hs
    unfold au at this
    rw[this]
    unfold tg lL
    rw[aat jY,show (1:Int)=((1:Nat):Int) from rfl,pW g (show 1<2 by decide)]
    by_cases ej:j=301*a+(u+i) / 2
    ·rw[if_pos ej,if_neg (by omega)]
     by_cases e:s=1
     ·rw[if_pos e,if_pos (by omega),show 2*(j - 301*a)+s - u=i by omega,hx];rfl
     ·rw[if_neg e,if_neg (by omega),ej,rq hqg]
    ·rw[if_neg ej]
     by_cases hc:301*a<=j/\j<301*a+301/\u+(i+1)<=2*(j - 301*a)+s/\2*(j - 301*a)+s<u+l.length
     ·rw[if_pos hc,if_pos (by omega)]
     ·rw[if_neg hc,if_neg (by omega)]
   ·rename_i uH
    cases hy:l[i+1]? with
    |none=>
     have xg:l.length<=i+1:=List.getElem?_eq_none_iff.1 hy
     unfold au tg lL
     simp only[List.foldl_cons,List.foldl_nil,BQ]
     rw[aat jY,show (0:Int)=((0:Nat):Int) from rfl,pW g (show 0<2 by decide)]
     by_cases ej:j=301*a+(u+i) / 2
     ·rw[if_pos ej]
      by_cases e:s=0
      ·rw[if_pos e,if_pos (by omega),show 2*(j - 301*a)+s - u=i by omega,hx];rfl
      ·rw[if_neg e,if_neg (by omega),ej,rq hqg]
     ·rw[if_neg ej,if_neg (by omega)]
    |some y=>
     have xg:=(gS.1 hy).1
     unfold au
     simp only
     rw[List.foldl_cons]
     simp only[BQ]
     have:=afz hp ha cw f (i+2) (q.set (301*a+(u+i) / 2) ((g.set 0 x).set 1 y)) (by omega) (by omega) (by rw[C3];exact hq) (fun j hj=>by rw[List.getElem?_set_ne (by omega)];exact hqp j (by omega)) j s hs
     unfold au at this
     rw[this]
     unfold tg lL
     rw[aat jY,show (1:Int)=((1:Nat):Int) from rfl,pW _ (show 1<2 by decide),show (0:Int)=((0:Nat):Int) from rfl,pW g (show 0<2 by decide)]
     by_cases ej:j=301*a+(u+i) / 2
     ·rw[if_pos ej,if_neg (by omega)]
      by_cases e:s=1
      ·rw[if_pos e,if_pos (by omega),show 2*(j - 301*a)+s - u=i+1 by omega,hy];rfl
      ·rw[if_neg e,if_pos (by omega),if_pos (by omega),show 2*(j - 301*a)+s - u=i by omega,hx];rfl
     ·rw[if_neg ej]
      by_cases hc:301*a<=j/\j<301*a+301/\u+(i+2)<=2*(j - 301*a)+s/\2*(j - 301*a)+s<u+l.length
      ·rw[if_pos hc,if_pos (by omega)]
      ·rw[if_neg hc,if_neg (by omega)]
theorem asj {k:Nat} (hk:1000000<k) {d:Ad} (hd:DB d) {a u:Nat} (ha:a<=1) {l:List Hf} (cw:u+l.length<=602):
  bX k ⟨d⟩ (a:Int) (u:Int) l=some ⟨⟨d.Aj,d.Af++eQ (au d.Aj d.Af) a u l l.length 0⟩⟩:=by
 obtain⟨h1,h2,h3⟩:=jA.1 hd.ok
 unfold bX
 simp only
 rw[nY hd.ok]
 simp only[Ae]
 rw[aaF hk hd.ok]
 simp only[Ae]
 have:=asi hk hd.len ha cw l.length 0 k d.Af (by omega) (by omega) (by omega) (by omega)
 rw[Cz]at this
 rw[this]
 rfl
theorem af3 {k:Nat} (hk:1000000<k) {d:Ad} (hd:DB d) {l:Ai}{q:Nat×Ar} (hL:FB d l q) {r:Ab} (hr:bC r=true) (hs:CC ag l.Ak.Ah) (hh:∀ x∈l.Ak.Ah,iC x) {b':List Ab} (ha:dK l.Ak.Ah r=(b',0)) (ba:b'.length≠l.Ak.Ah.length)
  (pG:q.2.used+(bj r (l.Ak.Ah.length:Int) l.Aq).length<=602) (hwt:d.Af.length+(bj r (l.Ak.Ah.length:Int) l.Aq).length<=1200):
  jR k d l r=some (⟨d.Aj,d.Af++eQ (au d.Aj d.Af) q.1 q.2.used (bj r (l.Ak.Ah.length:Int) l.Aq) (bj r (l.Ak.Ah.length:Int) l.Aq).length 0⟩,⟨⟨b'⟩,l.AS,l.Aq,((q.2.used+(bj r (l.Ak.Ah.length:Int) l.Aq).length:Nat):Int)⟩,0):=by
 have iB:l.Ak.Ah.length<=60:=by rw[hL.book];exact hL.short
 have hws:=aaO (au d.Aj d.Af) q.1 q.2.used (bj r (l.Ak.Ah.length:Int) l.Aq) (bj r (l.Ak.Ah.length:Int) l.Aq).length 0
 have ht:=vk hr
 unfold jR
 rw[yI hk hd hL]
 simp only[Ae,Bf,AO,An]
 rw[yr hk (b:=l.Ak) hs (show l.Ak.Ah.length<=900 by omega) hh,hr,ha]
 simp only[Am,Ae,Bf,AO,An]
 rw[nY hd.ok]
 simp only[Ae]
 unfold nb
 rw[wc (show l.Ak.Ah.length<=1000 by omega)]
 simp only[Ae,AI (show ¬ ((b'.length:Nat):Int)=(l.Ak.Ah.length:Int) by omega),An]
 rw[ajh (show 100000<k by omega) ht]
 have hH:(List.range (bB (enc r).length)).map (ec l.Aq (l.Ak.Ah.length:Int) (bB (enc r).length) (enc r))=bj r (l.Ak.Ah.length:Int) l.Aq:=rfl
 rw[hH]
 have hu:ab (l.Used+((bj r (l.Ak.Ah.length:Int) l.Aq).length:Int))=((q.2.used+(bj r (l.Ak.Ah.length:Int) l.Aq).length:Nat):Int):=by
  rw[hL.used,aW (by omega) (by omega)];omega
 have hw:=asj hk hd hL.le pG
 rw[<-hL.aX,<-hL.used]at hw
 simp only[Ae,hu,AI (show ¬ (602:Int)<((q.2.used+(bj r (l.Ak.Ah.length:Int) l.Aq).length:Nat):Int) by omega),An,hw]
 rw[AI (show ¬ (1200:Int)<(((d.Af++eQ (au d.Aj d.Af) q.1 q.2.used (bj r (l.Ak.Ah.length:Int) l.Aq) (bj r (l.Ak.Ah.length:Int) l.Aq).length 0).length:Nat):Int) by rw[A1];omega)]
 rfl
theorem af4 {k:Nat} (hk:1000000<k) {d:Ad} (hd:DB d) {l:Ai}{q:Nat×Ar} (hL:FB d l q) {r:Ab} (hr:bC r=true) (hs:CC ag l.Ak.Ah) (hh:∀ x∈l.Ak.Ah,iC x) (ha:dK l.Ak.Ah r=(l.Ak.Ah,0)):
  jR k d l r=some (d,l,0):=by
 have iB:l.Ak.Ah.length<=60:=by rw[hL.book];exact hL.short
 unfold jR
 rw[yI hk hd hL]
 simp only[Ae,Bf,AO,An]
 rw[yr hk (b:=l.Ak) hs (show l.Ak.Ah.length<=900 by omega) hh,hr,ha]
 simp only[Am,Ae,Bf,AO,An]
 rw[nY hd.ok]
 simp only[Ae]
 unfold nb
 rw[wc (show l.Ak.Ah.length<=1000 by omega)]
 simp only[Ae,Bf,Am]
def j6:List Pg:=(List.replicate 602 pz).set 0 (pz.set 0 (dE 1 0))
theorem aiZ (k:Nat):vR k=some (⟨j6,[]⟩,⟨⟨[]⟩,0,1,1⟩):=by
 have hm:kR 602 64 ((Aa.rep 2 ((Aa.rep 32 (0:Int)):(Aa 32 Int))):(Aa 2 (Aa 32 Int)))=some (List.replicate 602 pz):=by
  unfold kR mk?
  rw[if_pos (by decide)]
  rfl
 have hl:(List.replicate 602 pz).length=602:=CR
 have h0:(List.replicate 602 pz)[0]?=some pz:=by rw[Ed];rfl
 have ha:at? (List.replicate 602 pz) 0=some pz:=bp h0
 have hp0:pz.at? 0=some hz:=rfl
 unfold vR
 rw[hm]
 simp only[Ae,aia,ha,hp0]
 unfold dN
 rw[if_pos (by rw[hl];decide)]
 rfl
theorem jN (k:Nat) (n:Int) {m:Int} (h0:0<m) (h1:m<=4611686018427387904):Cc k n m=some (n % m):=by
 unfold Cc pO
 rw[if_neg (by omega)]
 simp only[Ae]
 have b1:Int.tmod n m<m:=Int.tmod_lt_of_pos n h0
 have b2:-m<Int.tmod n m:=by
  rcases Int.le_total 0 n with h|h
  ·have:=Int.tmod_nonneg m h
   omega
  ·have:=Int.tmod_lt_of_pos (-n) h0
   rw[Int.neg_tmod]at this
   omega
 have e1:Int.tmod n m % m=n % m:=by
  have:=Int.mul_tdiv_add_tmod n m
  rw[<-this,Int.add_comm,Int.add_mul_emod_self_left]
  congr 1
  have e:=Int.mul_tdiv_add_tmod n m
  rw[Int.add_comm]at e
  rw[e]
 rw[aW (by omega) (by omega),Int.tmod_eq_emod_of_nonneg (by omega),Int.add_emod_right,e1]
theorem ve (n:Int) {m:Int} (h0:0<m):0<=n % m/\n % m<m:=⟨Int.emod_nonneg _ (by omega),Int.emod_lt_of_pos _ h0⟩
theorem ar5 (v:Aa 5 Int):∃ a b c d e,v=⟨[a,b,c,d,e],rfl⟩:=by
 obtain⟨l,h⟩:=v
 match l,h with
 |[a,b,c,d,e],h=>exact⟨a,b,c,d,e,rfl⟩
def Fl (p q:List Pg) (a:Nat):Prop:=∀ i,i<602->hf p a i=hf q a i
theorem BT.congr {p q:List Pg}{a f n:Nat}{r:Ab}{e:Int} (h:BT p a f n r e) (hs:∀ i,f<=i->i<f+(bj r n e).length->hf p a i=hf q a i):BT q a f n r e:=
 ⟨h.ok,h.ep,h.run.1,fun i x hx=>by
  have:=(gS.1 hx).1
  rw[<-hs (f+i) (by omega) (by omega)];exact h.run.2 i x hx⟩
theorem aq7 {p q:List Pg} (hp:Bx p) (hq:Bx q) {a:Nat} (hs:Fl p q a) (f n:Nat):recAt p a f n=recAt q a f n:=by
 apply Option.ext
 intro x
 rw[pU hp,pU hq]
 constructor
 ·rintro⟨h,e⟩
  have:=h.run.1
  exact⟨h.congr (fun i _ hi=>hs i (by omega)),e⟩
 ·rintro⟨h,e⟩
  have:=h.run.1
  exact⟨h.congr (fun i _ hi=>(hs i (by omega)).symm),e⟩
theorem ajp {p q:List Pg} (hp:Bx p) (hq:Bx q) {a:Nat} (hs:Fl p q a):∀ (m:Nat) (b:List Ab) (e:Int) (u n:Nat),rd p a m b e u n=rd q a m b e u n
 |0,_,_,_,_=>rfl
 |m+1,b,e,u,n=>by
  rw[rd,rd,aq7 hp hq hs]
  cases recAt q a u n with
  |none=>rfl
  |some x=>
   simp only
   split
   ·rfl
   ·cases fo b x.1 with
    |none=>rfl
    |some b'=>simp only;rw[ajp hp hq hs m]
theorem af6 {p q:List Pg} (hp:Bx p) (hq:Bx q) {a:Nat} (hs:Fl p q a):eo p a=eo q a:=by
 unfold eo pT
 rw[hs 0 (by decide),ajp hp hq hs]
theorem agA (e n:Int):bt (dE e n) 0=104/\bt (dE e n) 1=IntKind.u8.wrap (Int.fdiv e (2 ^ 16))/\bt (dE e n) 2=IntKind.u8.wrap (Int.fdiv e (2 ^ 8))/\bt (dE e n) 3=IntKind.u8.wrap e/\bt (dE e n) 4=IntKind.u8.wrap (Int.fdiv n (2 ^ 8))/\bt (dE e n) 5=IntKind.u8.wrap n/\bt (dE e n) 31=165:=
 ⟨rfl,rfl,rfl,rfl,rfl,rfl,rfl⟩
theorem adM {e:Int} (he:1<=e/\e<=1000000) (n:Int):aM (dE e n)=e:=by
 obtain⟨h0,h1,h2,h3,_,_,zd⟩:=agA e n
 have hr:bo [bt (dE e n) 1,bt (dE e n) 2,bt (dE e n) 3]=e:=by
  rw[h1,h2,h3,<-oS,rd3 (by omega) (by omega)]
 unfold aM
 rw[hr,if_pos ⟨.inl h0,zd,he.2⟩]
theorem am9 (e:Int) {n:Int} (hn:0<=n/\n<65536):bo [bt (dE e n) 4,bt (dE e n) 5]=n:=by
 obtain⟨_,_,_,_,h4,h5,_⟩:=agA e n
 rw[h4,h5,<-vQ,rd2 hn.1 hn.2]
theorem abN:aM hz=0:=by decide +kernel
def aJ (log:List Ab):Nat:=1+(log.map fun r=>bB (enc r).length).sum
theorem aki (log:List Ab) (r:Ab):aJ (log++[r])=aJ log+bB (enc r).length:=by
 unfold aJ;simp;omega
theorem arX:∀ {log:List Ab},(∀ r∈log,bC r=true)->aJ log<=1+10*log.length:=by
 intro log
 induction log with
 |nil=>intro _;simp[aJ]
 |cons r log ih=>
  intro h
  have h1:=ih (fun x hx=>h x (by simp[hx]))
  have h2:=yK (h r (by simp))
  unfold aJ at *
  simp only[List.map_cons,List.sum_cons,AA]
  omega
theorem afs {log:List Ab}{j:Nat}{r:Ab} (h:log[j]?=some r):aJ (log.take (j+1))=aJ (log.take j)+bB (enc r).length:=by
 rw[take_at h,aki]
theorem aaI {log:List Ab}{i j:Nat} (h:i<=j):aJ (log.take i)<=aJ (log.take j):=by
 induction j with
 |zero=>rw[show i=0 by omega];exact AY _
 |succ j ih=>
  by_cases e:i=j+1
  ·rw[e];exact AY _
  ·refine Ef (ih (by omega)) ?_
   cases hx:log[j]? with
   |some r=>rw[afs hx];omega
   |none=>
    have:=List.getElem?_eq_none_iff.1 hx
    rw[Co (show log.length<=j+1 by omega),Co this]
    exact AY _
def iT (e0:Int) (ep:Nat->Int):Nat->Int
 |0=>e0
 |j+1=>ep j
structure CM (log:List Ab):Prop where
 ok:∀ r∈log,bC r=true
 vl:VL ag (fun _=>0) log
 len:log.length<=50
theorem CM.take {log:List Ab} (h:CM log) (n:Nat):CM (log.take n):=⟨fun r hr=>h.ok r (BD hr),Er ag h.vl n,by
 have:=h.len
 rw[A8];omega⟩
theorem CM.bi {log:List Ab} (h:CM log):BI ag log (bk ag [] log):=BI.of ag h.vl
theorem CM.no {log:List Ab} (h:CM log) {j:Nat}{r:Ab} (hx:log[j]?=some r):(ag r).2=ao ag (log.take j) (ag r).1:=by
 rw[(Iq ag).1 h.vl j r hx];exact Int.zero_add _
theorem abq (l:List Ab) (r:Ab):bk ag [] (l++[r])=fk ag (bk ag [] l) r:=by
 unfold bk;rw[List.foldl_append];rfl
theorem CM.more {log:List Ab} (h:CM log) {j:Nat}{r:Ab} (hx:log[j]?=some r):fo (bk ag [] (log.take j)) r=some (bk ag [] (log.take (j+1))):=by
 have hb:=(h.take j).bi
 have bw:=h.no hx
 have hl:=hb.len
 have n6:=(h.take j).len
 rw[take_at hx,abq]
 refine apZ (y5 ag (hb.no ag bw)) ?_ (by omega)
 rw[hb.num]
 have:r.At.No=((ao ag (log.take j) r.At.Ac:Nat):Int):=bw
 omega
def ic (log:List Ab) (j n:Nat):List (Ab×Nat):=(List.range' j n).map fun i=>((log[i]?).getD nJ,aJ (log.take (i+1)))
theorem ahz (log:List Ab):∀ (n j:Nat),j+n<=log.length->fin (bk ag [] (log.take j),aJ (log.take j)) (ic log j n)=(bk ag [] (log.take (j+n)),aJ (log.take (j+n)))
 |0,j,_=>rfl
 |n+1,j,h=>by
  obtain⟨r,hr⟩:∃ r,log[j]?=some r:=⟨_,gG (by omega)⟩
  unfold ic fin
  rw[List.range'_succ,List.map_cons,List.foldl_cons,hr]
  simp only[Option.getD_some]
  have:=ahz log n (j+1) (by omega)
  unfold ic fin at this
  rw[take_at hr,abq,<-take_at hr]at this
  rw[this,show j+1+n=j+(n+1) by omega]
theorem ajr {p:List Pg} (hb:Bx p) {a:Nat}{log:List Ab} (hl:CM log) {e0:Int}{ep:Nat->Int}{m:Nat} (hm:m<=log.length)
  (hr:∀ j r,j<m->log[j]?=some r->BT p a (aJ (log.take j)) j r (ep j)) (pv:∀ j,j<m->iT e0 ep j<=ep j)
  (acb:∀ r e,BT p a (aJ (log.take m)) m r e->iT e0 ep m<=e->fo (bk ag [] (log.take m)) r=none):∀ (F j n:Nat),j+n=m->n<F->rd p a F (bk ag [] (log.take j)) (iT e0 ep j) (aJ (log.take j)) j=ic log j n
 |0,j,n,h1,h2=>by omega
 |F+1,j,0,h1,h2=>by
  have:j=m:=by omega
  subst this
  rw[rd]
  cases hq:recAt p a (aJ (log.take j)) j with
  |none=>rfl
  |some q=>
   have hh:=((pU hb).1 hq).1
   simp only
   by_cases he:q.2.1<iT e0 ep j
   ·rw[if_pos he];rfl
   ·rw[if_neg he,acb q.1 q.2.1 hh (by omega)];rfl
 |F+1,j,n+1,h1,h2=>by
  obtain⟨r,hx⟩:∃ r,log[j]?=some r:=⟨_,gG (by omega)⟩
  have hh:=hr j r (by omega) hx
  have hq:=(pU hb (q:=(r,ep j,(bj r j (ep j)).length))).2 ⟨hh,rfl⟩
  have hmo:=pv j (by omega)
  have hlen:aJ (log.take j)+(bj r (j:Int) (ep j)).length=aJ (log.take (j+1)):=by rw[afs hx,jG]
  rw[rd,hq]
  simp only
  rw[if_neg (by omega),hl.more hx]
  simp only
  rw[hlen]
  have:=ajr hb hl hm hr pv acb F (j+1) n (by omega) (by omega)
  have e:iT e0 ep (j+1)=ep j:=rfl
  rw[e]at this
  rw[this]
  unfold ic
  rw[List.range'_succ,List.map_cons,hx]
  rfl
theorem aag (log:List Ab) {m:Nat} (hm:m<=log.length) (e:Int):(Ar.mk e (ic log 0 m)).book=bk ag [] (log.take m)/\(Ar.mk e (ic log 0 m)).used=aJ (log.take m):=by
 have:=ahz log m 0 (by omega)
 rw[CA]at this
 unfold Ar.book Ar.used
 simp only
 have e1:(bk ag [] (log.take 0),aJ (log.take 0))=(([]:List Ab),1):=rfl
 rw[e1]at this
 rw[this]
 exact⟨rfl,rfl⟩
theorem af9 {p:List Pg} (hb:Bx p) {a:Nat}{log:List Ab} (hl:CM log) {e0 c:Int}{ep:Nat->Int}{m:Nat} (hm:m<=log.length) (he:1<=e0/\e0<=1000000) (hc:0<=c/\c<=m) (hh:hf p a 0=dE e0 c)
  (hr:∀ j r,j<m->log[j]?=some r->BT p a (aJ (log.take j)) j r (ep j)) (pv:∀ j,j<m->iT e0 ep j<=ep j)
  (acb:∀ r e,BT p a (aJ (log.take m)) m r e->iT e0 ep m<=e->fo (bk ag [] (log.take m)) r=none):eo p a=some ⟨e0,ic log 0 m⟩:=by
 have n6:=hl.len
 have hE:aM (hf p a 0)=e0:=by rw[hh];exact adM he c
 have hC:bo [bt (hf p a 0) 4,bt (hf p a 0) 5]=c:=by rw[hh];exact am9 e0 (by omega)
 have qR:pT p a=ic log 0 m:=by
  unfold pT
  rw[hE]
  exact ajr hb hl hm hr pv acb 100 0 m (by omega) (by omega)
 unfold eo
 rw[hE,hC,qR,if_pos ⟨by omega,hh,by simp[ic];omega⟩]
theorem aiT {p:List Pg}{a:Nat} (ha:a<=1) {x:Ar} (h:eo p a=some x) (hp:∀ y,eo p (1 - a)=some y->if a=0 then y.de<=x.de else y.de<x.de):oC p=some (a,x):=by
 unfold oC
 rcases Nat.le_one_iff_eq_zero_or_eq_one.1 ha with rfl|rfl
 ·rw[h]
  cases hy:eo p 1 with
  |none=>rfl
  |some y=>
   have h1:y.de<=x.de:=by simpa using hp y hy
   simp only
   rw[if_neg (by omega)]
 ·rw[h]
  cases hy:eo p 0 with
  |none=>rfl
  |some y=>
   have h1:y.de<x.de:=by simpa using hp y hy
   simp only
   rw[if_pos h1]
structure Jr (d:Ad) (l:Ai) (log:List Ab) (aK:Nat) (a:Nat) (e0 c:Int) (ep:Nat->Int):Prop where
 db:DB d
 a1:a<=1
 cF:CM log
 jU:aK<=log.length
 aX:l.AS=(a:Int)
 book:l.Ak=⟨bk ag [] log⟩
 used:l.Used=(aJ log:Int)
 pa:1<=l.Aq/\l.Aq<=1000000
 xc:1<=e0/\e0<=1000000
 hc:0<=c/\c<=aK
 xd:hf (au d.Aj d.Af) a 0=dE e0 c
 ah8:hf d.Aj a 0=dE e0 c
 nK:∀ j r,log[j]?=some r->BT (au d.Aj d.Af) a (aJ (log.take j)) j r (ep j)
 mono:∀ j,j<log.length->iT e0 ep j<=ep j
 late:∀ j,aK<=j->j<log.length->ep j=l.Aq
 bound:∀ b i,b<=1->i<602->aM (hf (au d.Aj d.Af) b i)<=l.Aq/\aM (hf d.Aj b i)<=l.Aq
 free:∀ i,aJ log<=i->i<602->aM (hf (au d.Aj d.Af) a i)<l.Aq/\hf d.Aj a i=hf (au d.Aj d.Af) a i
 ahF:∀ i,i<aJ (log.take aK)->hf d.Aj a i=hf (au d.Aj d.Af) a i
 soft:∀ i,aJ (log.take aK)<=i->i<aJ log->aM (hf (au d.Aj d.Af) a i)=l.Aq/\aM (hf d.Aj a i)<l.Aq
 other:Fl d.Aj (au d.Aj d.Af) (1 - a)
 pick:∀ y,eo (au d.Aj d.Af) (1 - a)=some y->if a=0 then y.de<=e0 else y.de<e0
 stop:∀ r e,BT d.Aj a (aJ (log.take aK)) aK r e->iT e0 ep aK<=e->fo (bk ag [] (log.take aK)) r=none
 waits:∀ w∈d.Af,∀ s,sd w.AQ s=ph d.Aj w.At.toNat s\/sd w.AQ s=ph (au d.Aj d.Af) w.At.toNat s
 akA:d.Af.length<=10*log.length
section
variable {d:Ad}{l:Ai}{log:List Ab}{aK a:Nat}{e0 c:Int}{ep:Nat->Int}
theorem Jr.aaH (h:Jr d l log aK a e0 c ep):aJ log<=501:=by
 have h1:=arX h.cF.ok
 have h2:=h.cF.len
 omega
theorem BT.ep0 {p:List Pg}{a f n:Nat}{r:Ab}{e:Int} (h:BT p a f n r e) {i:Nat} (hi:i<(bj r n e).length):aM (hf p a (f+i))=e:=by
 obtain⟨x,hx⟩:∃ x,(bj r n e)[i]?=some x:=⟨_,gG hi⟩
 rw[h.run.2 i x hx,ah2 hx]
 exact adL h.ep _ _ _ _
theorem BT.at0 {p:List Pg}{a f n:Nat}{r:Ab}{e:Int} (h:BT p a f n r e):aM (hf p a f)=e:=by
 have:=h.ep0 (i:=0) (by rw[jG];exact oZ r)
 simpa using this
theorem Jr.apI (h:Jr d l log aK a e0 c ep):∀ j,j<=log.length->iT e0 ep j<=l.Aq:=by
 intro j hj
 cases j with
 |zero=>
  have:=(h.bound a 0 h.a1 (by decide)).1
  rw[h.xd,adM h.xc]at this
  exact this
 |succ j=>
  obtain⟨r,hr⟩:∃ r,log[j]?=some r:=⟨_,gG (by omega)⟩
  have om:=h.nK j r hr
  have h1:=om.run.1
  have h2:0<(bj r (j:Int) (ep j)).length:=by rw[jG];exact oZ r
  have:=(h.bound a (aJ (log.take j)) h.a1 (by omega)).1
  rw[om.at0]at this
  exact this
theorem Jr.afm (h:Jr d l log aK a e0 c ep):∀ r e,BT (au d.Aj d.Af) a (aJ (log.take log.length)) log.length r e->iT e0 ep log.length<=e->fo (bk ag [] (log.take log.length)) r=none:=by
 intro r e hr he
 rw[BA]at hr ⊢
 have h1:=hr.run.1
 have h2:0<(bj r (log.length:Int) e).length:=by rw[jG];exact oZ r
 have zr:=(h.free (aJ log) (AY _) (by omega)).1
 rw[hr.at0]at zr
 by_cases hfi:aK=log.length
 ·have:=h.stop r e (by
   rw[hfi,BA]
   exact hr.congr (fun i xg iK=>((h.free i xg (by omega)).2).symm)) (by rw[hfi];exact he)
  rw[hfi,BA]at this
  exact this
 ·have af:aK<log.length:=by have:=h.jU;omega
  obtain⟨j,hj⟩:∃ j,log.length=j+1:=⟨log.length - 1,by omega⟩
  rw[hj]at he
  have e1:iT e0 ep (j+1)=ep j:=rfl
  rw[e1,h.late j (by omega) (by omega)]at he
  omega
theorem Jr.ami (h:Jr d l log aK a e0 c ep):eo (au d.Aj d.Af) a=some ⟨e0,ic log 0 log.length⟩:=
 af9 h.db.new h.cF (AY _) h.xc ⟨h.hc.1,by have:=h.hc.2;have:=h.jU;omega⟩ h.xd (fun j r hj hr=>h.nK j r hr) (fun j hj=>h.mono j hj) h.afm
theorem Jr.pJ (h:Jr d l log aK a e0 c ep):FB d l (a,⟨e0,ic log 0 log.length⟩):=by
 obtain⟨b1,b2⟩:=aag log (AY log.length) e0
 rw[BA]at b1 b2
 have iB:=h.cF.bi.len
 have n6:=h.cF.len
 have hu:=h.aaH
 refine⟨aiT h.a1 h.ami h.pick,h.a1,h.aX,?_,?_,?_,h.pa,?_,?_,?_⟩
 ·rw[h.used];simp only[b2]
 ·rw[h.book];simp only[b1]
 ·simp only[b1];omega
 ·exact pM.2 ⟨by have:=h.pa;omega,fun i _ hi=>(h.bound 0 i (by decide) hi).1⟩
 ·exact pM.2 ⟨by have:=h.pa;omega,fun i _ hi=>(h.bound 1 i (by decide) hi).1⟩
 ·simp only[b2]
  have:mx (au d.Aj d.Af) a (aJ log)<=l.Aq - 1:=pM.2 ⟨by have:=h.pa;omega,fun i h1 h2=>by
   have:=(h.free i h1 h2).1;omega⟩
  omega
theorem apQ (p:List Pg) (w v:List As):au p (w++v)=au (au p w) v:=by
 unfold au;rw[List.foldl_append]
theorem Jr.ajC (h:Jr d l log aK a e0 c ep) {j:Nat}{r:Ab} (hr:log[j]?=some r):aJ (log.take j)+(bj r (j:Int) (ep j)).length=aJ (log.take (j+1)):=by
 rw[afs hr,jG]
theorem apH {e0:Int}{ep qw:Nat->Int}{n:Nat} (h:∀ j,j<n->ep j=qw j):∀ j,j<=n->iT e0 ep j=iT e0 qw j
 |0,_=>rfl
 |j+1,hj=>h j (by omega)
theorem Jr.append (h:Jr d l log aK a e0 c ep) {r:Ab} (hr:bC r=true) (bw:(ag r).2=ao ag log (ag r).1) (hlen:log.length+1<=50) {k:Nat} (hk:1000000<k):
  ∃ d' l',jR k d l r=some (d',l',0)/\l'.Aq=l.Aq/\Jr d' l' (log++[r]) aK a e0 c (fun j=>if j=log.length then l.Aq else ep j):=by
 have gf:=h.cF.bi
 have iB:=gf.len
 have hu:=h.aaH
 have hH:(bj r (l.Ak.Ah.length:Int) l.Aq).length=bB (enc r).length:=jG _ _ _
 have aor:=yK hr
 have sI:=oZ r
 have hwl:=h.akA
 have dG:=h.jU
 have dQ:l.Ak.Ah=bk ag [] log:=by rw[h.book]
 have lE:dK l.Ak.Ah r=(bk ag [] (log++[r]),0):=by
  rw[dQ]
  unfold dK
  rw[y5 ag (gf.no ag bw),abq]
  simp only
  have e:r.At.No=((ao ag (bk ag [] log) r.At.Ac:Nat):Int):=by
   rw[gf.num];exact bw
  rw[if_neg (by omega),if_neg (by omega)]
 have as3:=h.pJ
 have hq2:(Ar.mk e0 (ic log 0 log.length)).used=aJ log:=by
  have:=(aag log (AY log.length) e0).2
  rw[BA]at this
  exact this
 have sG:=af3 hk h.db h.pJ hr (by rw[dQ];exact gf.val.1) (by rw[dQ];exact fun x hx=>kT (h.cF.ok x ((gf.mem x).1 hx))) lE (by rw[dQ,abq,uY];omega) (by simp only[hq2];rw[hH];omega) (by rw[hH];omega)
 simp only[hq2]at sG
 have aoj:l.Ak.Ah.length=log.length:=by rw[dQ,iB]
 rw[aoj]at sG hH
 have hHl:=hH
 generalize abY:bj r (log.length:Int) l.Aq=H at sG hH
 have cw:aJ log+H.length<=602:=by omega
 have acd:=afA h.db.len h.a1 cw H.length 0 (fun _=>rfl)
 have aeo:=afz h.db.len h.a1 cw H.length 0 (au d.Aj d.Af) (by omega) (fun _=>rfl) h.db.len (fun j _=>rfl)
 have aph:=aaO (au d.Aj d.Af) a (aJ log) H H.length 0
 generalize eQ (au d.Aj d.Af) a (aJ log) H H.length 0=ws at sG acd aeo aph
 have ba:au d.Aj (d.Af++ws)=au (au d.Aj d.Af) ws:=apQ _ _ _
 have zw:∀ b i,b<=1->i<602->hf (au d.Aj (d.Af++ws)) b i=if b=a/\aJ log<=i/\i<aJ log+H.length then (H[i - aJ log]?).getD hz else hf (au d.Aj d.Af) b i:=by
  intro b i hb hi
  have ha1:=h.a1
  rw[zu,ba,aeo _ _ (Nat.mod_lt _ (by decide)),zu]
  unfold tg
  by_cases qH:b=a/\aJ log<=i/\i<aJ log+H.length
  ·obtain⟨rfl,h1,h2⟩:=qH
   rw[if_pos (by unfold lL;omega),if_pos ⟨rfl,h1,h2⟩,show 2*(301*b+i / 2 - 301*b)+i % 2 - aJ log=i - aJ log by omega]
  ·rw[if_neg (by unfold lL;omega),if_neg qH]
 have iN:∀ i,i<aJ log->hf (au d.Aj (d.Af++ws)) a i=hf (au d.Aj d.Af) a i:=fun i hi=>by
  rw[zw a i h.a1 (by omega),if_neg (by omega)]
 have aoJ:∀ i,aJ log+H.length<=i->i<602->hf (au d.Aj (d.Af++ws)) a i=hf (au d.Aj d.Af) a i:=fun i hi h2=>by
  rw[zw a i h.a1 h2,if_neg (by omega)]
 have aep:∀ i,i<H.length->hf (au d.Aj (d.Af++ws)) a (aJ log+i)=(H[i]?).getD hz:=fun i hi=>by
  rw[zw a _ h.a1 (by omega),if_pos (by omega),E8]
 have ab5:∀ i,i<602->hf (au d.Aj (d.Af++ws)) (1 - a) i=hf (au d.Aj d.Af) (1 - a) i:=fun i hi=>by
  have ha1:=h.a1
  rw[zw (1 - a) i (by omega) hi,if_neg (by omega)]
 have bm:BT (au d.Aj (d.Af++ws)) a (aJ log) log.length r l.Aq:=⟨hr,h.pa,by rw[abY];exact cw,fun i x hx=>by
  rw[abY]at hx
  rw[aep i (gS.1 hx).1,hx];rfl⟩
 have ah0:∀ i,i<H.length->aM ((H[i]?).getD hz)=l.Aq:=fun i hi=>by
  have:=bm.ep0 (i:=i) (by rw[abY];exact hi)
  rw[aep i hi]at this
  exact this
 have hHb:∀ i,i<H.length->Bl ((H[i]?).getD hz).l:=fun i hi=>by
  obtain⟨x,hx⟩:∃ x,H[i]?=some x:=⟨_,gG hi⟩
  rw[hx]
  simp only[Option.getD_some]
  rw[<-abY]at hx
  rw[ah2 hx]
  intro y hy
  simp only[ec,ji,A9,BF,List.not_mem_nil,or_false,List.mem_replicate]at hy
  rcases hy with (((((hy|hy)|hy)|hy)|hy)|hy)
  ·omega
  ·exact nV _ _ y hy
  ·exact nV _ _ y hy
  ·rcases hy with hy|hy<;>rw[hy,vC]<;>omega
  ·rcases hy with hy|hy
   ·exact amQ r y (Cj (BD hy))
   ·omega
  ·omega
 have ao9:∀ j s,s<2->Bl (tg (au d.Aj d.Af) a (aJ log) H 0 j s).l:=fun j s hs=>by
  unfold tg
  split
  ·rename_i qH
   unfold lL at qH
   exact hHb _ (by omega)
  ·by_cases hj:j<602
   ·have:=h.db.new
    obtain⟨g,hg⟩:∃ g,(au d.Aj d.Af)[j]?=some g:=⟨_,gG (by rw[h.db.len];exact hj)⟩
    rw[rq hg]
    have hgl:=g.h
    obtain⟨x,hx⟩:∃ x,g.l[s]?=some x:=⟨_,gG (by omega)⟩
    unfold sd
    rw[hx]
    exact this g (A6 hg) x (A6 hx)
   ·rw[aqF (by rw[h.db.len];omega)]
    intro y hy
    have:y=0:=by
     simp only[hz,Aa.rep,List.mem_replicate]at hy
     exact hy.2
    omega
 have zk:DB ⟨d.Aj,d.Af++ws⟩:=by
  obtain⟨k1,k2,k3⟩:=jA.1 h.db.ok
  refine⟨jA.2 ⟨k1,by simp only[A1];omega,fun w hw=>?_⟩,h.db.pb,fun w hw x hx=>?_⟩
  ·rcases A9.1 hw with g|g
   ·exact k3 w g
   ·exact(acd w g).1
  ·rcases A9.1 hw with g|g
   ·exact h.db.wb w g x hx
   ·obtain⟨s,hs⟩:=BH.1 hx
    have pE:s<2:=by
     have:=(gS.1 hs).1
     have:=w.AQ.h
     omega
    have e:sd w.AQ s=x:=by unfold sd;rw[hs];rfl
    rw[<-e,(acd w g).2 s pE]
    exact ao9 _ _ pE
 have aN:∀ j,j<=log.length->(log++[r]).take j=log.take j:=fun j hj=>Dd hj
 have b9:aJ (log++[r])=aJ log+H.length:=by rw[aki,hH]
 have aih:∀ j,j<=log.length->iT e0 (fun j=>if j=log.length then l.Aq else ep j) j=iT e0 ep j:=apH (fun j hj=>if_neg (by omega))
 refine⟨_,_,sG,rfl,zk,h.a1,⟨fun x hx=>?_,?_,?_⟩,by simp;omega,h.aX,rfl,?_,h.pa,h.xc,h.hc,?_,h.ah8,fun j x hx=>?_,fun j hj=>?_,fun j h1 h2=>?_,fun b i hb hi=>?_,fun i h1 h2=>?_,fun i hi=>?_,fun i h1 h2=>?_,fun i hi=>?_,fun y hy=>?_,?_,fun w hw s=>?_,?_⟩
 ·rcases A9.1 hx with g|g
  ·exact h.cF.ok x g
  ·rw[CS.1 g];exact hr
 ·rw[Fo]
  exact⟨h.cF.vl,by show (ag r).2=0+_;omega,trivial⟩
 ·simp;omega
 ·simp only[b9]
 ·show hf (au d.Aj (d.Af++ws)) a 0=_
  have ape:0<aJ log:=by unfold aJ;omega
  rw[iN 0 ape]
  exact h.xd
 ·show BT (au d.Aj (d.Af++ws)) a _ j x _
  by_cases hj:j<log.length
  ·rw[CL hj]at hx
   rw[aN j (by omega),if_neg (by omega)]
   refine(h.nK j x hx).congr (fun i h1 h2=>?_)
   have:=h.ajC hx
   have h3:aJ (log.take (j+1))<=aJ (log.take log.length):=aaI (by omega)
   rw[BA]at h3
   exact(iN i (by omega)).symm
  ·have uM:j=log.length:=by
    have:=(gS.1 hx).1
    simp at this
    omega
   subst uM
   rw[CX (AY _),Nat.sub_self]at hx
   obtain rfl:=oi hx
   rw[aN _ (AY _),BA,if_pos rfl]
   exact bm
 ·rw[A1]at hj
  simp only[AA,AB]at hj
  rw[aih j (by omega)]
  by_cases uM:j=log.length
  ·subst uM
   rw[if_pos rfl]
   exact h.apI _ (AY _)
  ·rw[if_neg uM]
   exact h.mono j (by omega)
 ·rw[A1]at h2
  simp only[AA,AB]at h2
  by_cases uM:j=log.length
  ·rw[if_pos uM]
  ·rw[if_neg uM];exact h.late j h1 (by omega)
 ·refine⟨?_,(h.bound b i hb hi).2⟩
  show aM (hf (au d.Aj (d.Af++ws)) b i)<=l.Aq
  rw[zw b i hb hi]
  split
  ·rename_i qH
   rw[ah0 _ (by omega)]
   exact Df _
  ·exact(h.bound b i hb hi).1
 ·rw[b9]at h1
  show aM (hf (au d.Aj (d.Af++ws)) a i)<l.Aq/\hf d.Aj a i=hf (au d.Aj (d.Af++ws)) a i
  rw[aoJ i h1 h2]
  exact h.free i (by omega) h2
 ·rw[aN aK h.jU]at hi
  show hf d.Aj a i=hf (au d.Aj (d.Af++ws)) a i
  have h3:aJ (log.take aK)<=aJ (log.take log.length):=aaI h.jU
  rw[BA]at h3
  rw[iN i (by omega)]
  exact h.ahF i hi
 ·rw[aN aK h.jU]at h1
  rw[b9]at h2
  show aM (hf (au d.Aj (d.Af++ws)) a i)=l.Aq/\aM (hf d.Aj a i)<l.Aq
  by_cases hi:i<aJ log
  ·rw[iN i hi];exact h.soft i h1 hi
  ·have e:i=aJ log+(i - aJ log):=by omega
   refine⟨by rw[e,aep _ (by omega)];exact ah0 _ (by omega),?_⟩
   have:=h.free i (by omega) (by omega)
   rw[this.2];exact this.1
 ·show hf d.Aj (1 - a) i=hf (au d.Aj (d.Af++ws)) (1 - a) i
  rw[ab5 i hi];exact h.other i hi
 ·refine h.pick y ?_
  rw[<-af6 (p:=au d.Aj (d.Af++ws)) zk.new h.db.new (fun i hi=>ab5 i hi)]
  exact hy
 ·rw[aN aK h.jU,aih aK h.jU]
  exact h.stop
 ·show sd w.AQ s=ph d.Aj w.At.toNat s\/sd w.AQ s=ph (au d.Aj (d.Af++ws)) w.At.toNat s
  by_cases hs:s<2
  ·rw[ba,aeo _ _ hs]
   rcases A9.1 hw with g|g
   ·rcases h.waits w g s with e|e
    ·exact .inl e
    ·unfold tg
     by_cases qH:lL a (aJ log) 0 H.length w.At.toNat s
     ·left
      unfold lL at qH
      have nq:=(h.free (2*(w.At.toNat - 301*a)+s) (by omega) (by omega)).2
      rw[zu,zu,show 301*a+(2*(w.At.toNat - 301*a)+s) / 2=w.At.toNat by omega,show (2*(w.At.toNat - 301*a)+s) % 2=s by omega]at nq
      rw[e,nq]
     ·rw[if_neg qH];exact .inr e
   ·exact .inr ((acd w g).2 s hs)
  ·left
   rw[ars (by omega),aqE (by omega)]
 ·simp only[A1,AA,AB]
  omega
end
section
variable {d:Ad}{l:Ai}{log:List Ab}{aK a:Nat}{e0 c:Int}{ep:Nat->Int}
theorem Jr.same (h:Jr d l log aK a e0 c ep) {r:Ab} (hr:r∈log) {k:Nat} (hk:1000000<k):jR k d l r=some (d,l,0):=by
 have gf:=h.cF.bi
 have dQ:l.Ak.Ah=bk ag [] log:=by rw[h.book]
 have hrb:=h.cF.ok r hr
 refine af4 hk h.db h.pJ hrb (by rw[dQ];exact gf.val.1) (by rw[dQ];exact fun x hx=>kT (h.cF.ok x ((gf.mem x).1 hx))) ?_
 rw[dQ]
 unfold dK
 rw[adR ag gf.val.1 ((gf.mem r).2 hr)]
 simp only[if_true]
theorem DB.sync {d:Ad} (h:DB d):DB ⟨au d.Aj d.Af,[]⟩:=by
 refine⟨jA.2 ⟨h.len,by simp,by simp⟩,h.new,by simp⟩
theorem apS (p:List Pg):au p []=p:=rfl
theorem Jr.sync (h:Jr d l log aK a e0 c ep):Jr ⟨au d.Aj d.Af,[]⟩ l log log.length a e0 c ep:=by
 have hu:=h.aaH
 refine⟨h.db.sync,h.a1,h.cF,AY _,h.aX,h.book,h.used,h.pa,h.xc,⟨h.hc.1,by have:=h.hc.2;have:=h.jU;omega⟩,h.xd,h.xd,h.nK,h.mono,fun j h1 h2=>by omega,fun b i hb hi=>⟨(h.bound b i hb hi).1,(h.bound b i hb hi).1⟩,
  fun i h1 h2=>⟨(h.free i h1 h2).1,rfl⟩,fun i _=>rfl,fun i h1 h2=>?_,fun i _=>rfl,h.pick,h.afm,by simp,by simp⟩
 rw[BA]at h1
 omega
theorem C7.hf {nF new p:List Pg} (h:C7 nF new p) (b i:Nat):hf p b i=hf nF b i\/hf p b i=hf new b i:=h _ _
theorem C7.pb {nF new p:List Pg} (h:C7 nF new p) (ho:Bx nF) (hn:Bx new):Bx p:=by
 have one:∀ (q:List Pg),Bx q->∀ j s,Bl (ph q j s).l:=fun q hq j s=>by
  have sY:Bl hz.l:=by
   intro y hy
   have:y=0:=by
    simp only[hz,Aa.rep,List.mem_replicate]at hy
    exact hy.2
   omega
  unfold ph
  cases hg:q[j]? with
  |none=>exact sY
  |some g=>
   simp only
   cases hx:g.l[s]? with
   |none=>exact sY
   |some x=>exact hq g (A6 hg) x (A6 hx)
 intro g hg x hx
 obtain⟨j,hj⟩:=BH.1 hg
 obtain⟨s,hs⟩:=BH.1 hx
 have e:ph p j s=x:=by rw[rq hj];unfold sd;rw[hs];rfl
 rcases h j s with g1|g1
 ·rw[<-e,g1];exact one nF ho j s
 ·rw[<-e,g1];exact one new hn j s
theorem Jr.cut (h:Jr d l log aK a e0 c ep) {p:List Pg} (hp:C7 d.Aj (au d.Aj d.Af) p):
  ∃ m,aK<=m/\m<=log.length/\(∀ j r,j<m->log[j]?=some r->BT p a (aJ (log.take j)) j r (ep j))/\
   (∀ r e,BT p a (aJ (log.take m)) m r e->iT e0 ep m<=e->fo (bk ag [] (log.take m)) r=none):=by
 have hpb:=hp.pb h.db.pb h.db.new
 have hu:=h.aaH
 have hq:∀ i,i<aJ (log.take aK)->hf p a i=hf (au d.Aj d.Af) a i:=fun i hi=>by
  rcases hp.hf a i with e|e
  ·rw[e];exact h.ahF i hi
  ·exact e
 have uJ:∀ i,aJ log<=i->i<602->hf p a i=hf (au d.Aj d.Af) a i:=fun i h1 h2=>by
  rcases hp.hf a i with e|e
  ·rw[e];exact(h.free i h1 h2).2
  ·exact e
 have aoH:∀ j r,j<aK->log[j]?=some r->BT p a (aJ (log.take j)) j r (ep j):=fun j r hj hr=>by
  refine(h.nK j r hr).congr (fun i h1 h2=>?_)
  rw[h.ajC hr]at h2
  have h3:aJ (log.take (j+1))<=aJ (log.take aK):=aaI (by omega)
  exact(hq i (by omega)).symm
 have key:∀ n m:Nat,m+n=log.length->aK<=m->(∀ j r,j<m->log[j]?=some r->BT p a (aJ (log.take j)) j r (ep j))->
   ∃ m,aK<=m/\m<=log.length/\(∀ j r,j<m->log[j]?=some r->BT p a (aJ (log.take j)) j r (ep j))/\(m=log.length\/∃ r,log[m]?=some r/\¬ BT p a (aJ (log.take m)) m r (ep m)):=by
  intro n
  induction n with
  |zero=>intro m h1 h2 h3;exact⟨m,h2,by omega,h3,.inl (by omega)⟩
  |succ n ih=>
   intro m h1 h2 h3
   obtain⟨r,hr⟩:∃ r,log[m]?=some r:=⟨_,gG (by omega)⟩
   by_cases hh:BT p a (aJ (log.take m)) m r (ep m)
   ·refine ih (m+1) (by omega) (by omega) (fun j x hj hx=>?_)
    by_cases e:j=m
    ·subst e
     rw[hr]at hx
     obtain rfl:=oi hx
     exact hh
    ·exact h3 j x (by omega) hx
   ·exact⟨m,h2,by omega,h3,.inr ⟨r,hr,hh⟩⟩
 obtain⟨m,m1,m2,m3,m4⟩:=key (log.length - aK) aK (by have:=h.jU;omega) (AY _) aoH
 refine⟨m,m1,m2,m3,fun r e hr he=>?_⟩
 have aej:=h.jU
 have xo:=hr.run.1
 have ab7:0<(bj r (m:Int) e).length:=by rw[jG];exact oZ r
 have hum:aJ (log.take m)<=aJ log:=by
  have:=aaI (log:=log) m2
  rw[BA]at this
  exact this
 have as1:aJ (log.take aK)<=aJ (log.take m):=aaI m1
 have hle:e<=l.Aq:=by
  have h1:aM (hf p a (aJ (log.take m)))<=l.Aq:=by
   rcases hp.hf a (aJ (log.take m)) with g|g
   ·rw[g];exact(h.bound a _ h.a1 (by omega)).2
   ·rw[g];exact(h.bound a _ h.a1 (by omega)).1
  rw[hr.at0]at h1
  exact h1
 by_cases hee:e=l.Aq
 ·
  have hn:BT (au d.Aj d.Af) a (aJ (log.take m)) m r e:=by
   refine hr.congr (fun i h1 h2=>?_)
   have h3:=hr.ep0 (i:=i - aJ (log.take m)) (by omega)
   rw[show aJ (log.take m)+(i - aJ (log.take m))=i by omega]at h3
   by_cases hi:i<aJ log
   ·rcases hp.hf a i with g|g
    ·have:=(h.soft i (by omega) hi).2
     rw[<-g,h3]at this;omega
    ·exact g
   ·exact uJ i (by omega) (by omega)
  rcases m4 with m4|⟨x,hx,bw⟩
  ·subst m4
   exact h.afm r e hn he
  ·have:=(hn.inj h.db.new (h.nK m x hx)).1
   subst this
   exact absurd (by
    have hl:=h.late m m1 (by have:=(gS.1 hx).1;omega)
    rw[hl,<-hee];exact hr) bw
 ·
  have hm:m=aK:=by
   by_cases e2:m=aK
   ·exact e2
   ·obtain⟨j,hj⟩:∃ j,m=j+1:=⟨m - 1,by omega⟩
    rw[hj]at he
    have e1:iT e0 ep (j+1)=ep j:=rfl
    rw[e1,h.late j (by omega) (by omega)]at he
    omega
  subst hm
  refine h.stop r e (hr.congr (fun i h1 h2=>?_)) he
  have h3:=hr.ep0 (i:=i - aJ (log.take m)) (by omega)
  rw[show aJ (log.take m)+(i - aJ (log.take m))=i by omega]at h3
  by_cases hi:i<aJ log
  ·rcases hp.hf a i with g|g
   ·exact g
   ·have:=(h.soft i (by omega) hi).1
    rw[<-g,h3]at this;omega
  ·rw[uJ i (by omega) (by omega)]
   exact((h.free i (by omega) (by omega)).2).symm
theorem Jr.fail (h:Jr d l log aK a e0 c ep) (hE:l.Aq<1000000) {p:List Pg} (hl:p.length=602) (hp:C7 d.Aj (au d.Aj d.Af) p) {k:Nat} (hk:1000000<k):
  ∃ m l',aK<=m/\m<=log.length/\oV k ⟨p,[]⟩=some (⟨p,[]⟩,l',0)/\l'.Aq<=l.Aq+1/\Jr ⟨p,[]⟩ l' (log.take m) m a e0 c ep:=by
 obtain⟨m,m1,m2,m3,m4⟩:=h.cut hp
 have hpb:=hp.pb h.db.pb h.db.new
 have zk:DB ⟨p,[]⟩:=⟨jA.2 ⟨hl,by simp,by simp⟩,hpb,by simp⟩
 have aej:=h.jU
 have aek:hf p a 0=dE e0 c:=by
  rcases hp.hf a 0 with g|g
  ·rw[g];exact h.ah8
  ·rw[g];exact h.xd
 have pv:∀ j,j<m->iT e0 ep j<=ep j:=fun j hj=>h.mono j (by omega)
 have aon:=af9 hpb h.cF m2 h.xc ⟨h.hc.1,by have:=h.hc.2;omega⟩ aek m3 pv m4
 have ao3:Fl p (au d.Aj d.Af) (1 - a):=fun i hi=>by
  rcases hp.hf (1 - a) i with g|g
  ·rw[g];exact h.other i hi
  ·exact g
 have aiq:∀ y,eo p (1 - a)=some y->if a=0 then y.de<=e0 else y.de<e0:=fun y hy=>by
  rw[af6 hpb h.db.new ao3]at hy
  exact h.pick y hy
 have aoR:oC p=some (a,⟨e0,ic log 0 m⟩):=aiT h.a1 aon aiq
 have hb:∀ b i,b<=1->i<602->aM (hf p b i)<=l.Aq:=fun b i hb hi=>by
  rcases hp.hf b i with g|g
  ·rw[g];exact(h.bound b i hb hi).2
  ·rw[g];exact(h.bound b i hb hi).1
 have hE1:=h.pa.1
 have x0:mx p 0 0<=l.Aq:=pM.2 ⟨by omega,fun i _ hi=>hb 0 i (by decide) hi⟩
 have x1:mx p 1 0<=l.Aq:=pM.2 ⟨by omega,fun i _ hi=>hb 1 i (by decide) hi⟩
 have n0:=xD p 0 0
 have n1:=xD p 1 0
 have hx:∀ b i,b<=1->i<602->aM (hf p b i)<=max (mx p 0 0) (mx p 1 0):=fun b i kK hi=>by
  have y0:=(pM (p:=p) (a:=0) (from_:=0)).1 (Df _)
  have y1:=(pM (p:=p) (a:=1) (from_:=0)).1 (Df _)
  rcases Nat.le_one_iff_eq_zero_or_eq_one.1 kK with rfl|rfl
  ·have:=y0.2 i (by omega) hi;omega
  ·have:=y1.2 i (by omega) hi;omega
 have aio:=ajc hk zk (q:=(a,⟨e0,ic log 0 m⟩)) aoR (show max (mx p 0 0) (mx p 1 0)<1000000 by omega)
 obtain⟨b1,b2⟩:=aag log m2 e0
 simp only[apS,b1,b2]at aio
 have hbm:(log.take m).length=m:=by rw[A8];omega
 have gC:∀ j,j<=m->(log.take m).take j=log.take j:=fun j hj=>by rw[List.take_take,Nat.min_eq_left hj]
 have hgm:∀ j r,(log.take m)[j]?=some r->j<m/\log[j]?=some r:=fun j r hr=>by
  have h1:=(gS.1 hr).1
  rw[hbm]at h1
  rw[Ca,if_pos h1]at hr
  exact⟨h1,hr⟩
 refine⟨m,_,m1,m2,aio,?_,zk,h.a1,h.cF.take m,by omega,rfl,rfl,rfl,?_,h.xc,⟨h.hc.1,by have:=h.hc.2;omega⟩,aek,aek,fun j r hr=>?_,fun j hj=>pv j (by omega),fun j h1 h2=>by omega,fun b i kK hi=>?_,fun i h1 h2=>⟨?_,rfl⟩,fun i _=>rfl,fun i h1 h2=>?_,fun i _=>rfl,aiq,?_,by simp,by simp⟩
 ·show 1+max (mx p 0 0) (mx p 1 0)<=l.Aq+1;omega
 ·show 1<=1+max (mx p 0 0) (mx p 1 0)/\1+max (mx p 0 0) (mx p 1 0)<=1000000;omega
 ·obtain⟨g1,g2⟩:=hgm j r hr
  rw[gC j (by omega)]
  exact m3 j r g1 g2
 ·have:=hx b i kK hi
  exact⟨show aM (hf p b i)<=1+max (mx p 0 0) (mx p 1 0) by omega,show aM (hf p b i)<=1+max (mx p 0 0) (mx p 1 0) by omega⟩
 ·have:=hx a i h.a1 h2
  show aM (hf p a i)<1+max (mx p 0 0) (mx p 1 0);omega
 ·rw[gC m (AY _)]at h1
  omega
 ·rw[gC m (AY _)]
  exact m4
end
theorem zt (b i:Nat) (hb:b<=1) (hi:i<602):hf j6 b i=if b=0/\i=0 then dE 1 0 else hz:=by
 have hl:(List.replicate 602 pz).length=602:=CR
 rw[zu]
 unfold j6
 rw[aat (by rw[hl];decide),show (0:Int)=((0:Nat):Int) from rfl,pW pz (show 0<2 by decide)]
 have hpz:∀ s,s<2->sd pz s=hz:=fun s hs=>by
  have:s=0\/s=1:=by omega
  rcases this with rfl|rfl<;>rfl
 by_cases h1:301*b+i / 2=0
 ·rw[if_pos h1]
  by_cases h2:i % 2=0
  ·rw[if_pos h2,if_pos (by omega)]
  ·rw[if_neg h2,if_neg (by omega),hpz _ (by omega)]
 ·rw[if_neg h1,if_neg (by omega),rq (g:=pz) (by rw[Ed,if_pos (by omega)]),hpz _ (by omega)]
theorem ap4:DB ⟨j6,[]⟩:=by
 have hz0:Bl hz.l:=by
  intro y hy
  have:y=0:=by
   simp only[hz,Aa.rep,List.mem_replicate]at hy
   exact hy.2
  omega
 have hh:Bl (dE 1 0).l:=by
  unfold Bl;decide
 refine⟨jA.2 ⟨by unfold j6;rw[C3];exact CR,by simp,by simp⟩,fun g hg x hx=>?_,by simp⟩
 simp only[j6]at hg
 rcases List.mem_or_eq_of_mem_set hg with g1|rfl
 ·rw[List.mem_replicate]at g1
  rw[g1.2]at hx
  have:x=hz:=by
   simp only[pz,Aa.rep,List.mem_replicate]at hx
   exact hx.2
  rw[this];exact hz0
 ·have:x=dE 1 0\/x=hz:=by
   simp only[pz,Aa.rep,Aa.set,Int.toNat_zero,List.replicate,List.set_cons_zero,BF,List.not_mem_nil,or_false]at hx
   exact hx
  rcases this with rfl|rfl
  ·exact hh
  ·exact hz0
theorem Jr.new:Jr ⟨j6,[]⟩ ⟨⟨[]⟩,0,1,1⟩ [] 0 0 1 0 (fun _=>1):=by
 have hhd:hf j6 0 0=dE 1 0:=by rw[zt 0 0 (by decide) (by decide),if_pos ⟨rfl,rfl⟩]
 have hE:∀ b i,b<=1->i<602->aM (hf j6 b i)<=1:=fun b i hb hi=>by
  rw[zt b i hb hi]
  split
  ·rw[adM ⟨by decide,by decide⟩];decide
  ·rw[abN];decide
 refine⟨ap4,by decide,⟨by simp,trivial,by simp⟩,AY _,rfl,rfl,rfl,⟨by decide,by decide⟩,⟨by decide,by decide⟩,⟨by decide,by decide⟩,hhd,hhd,by simp,by simp,by simp,fun b i hb hi=>⟨hE b i hb hi,hE b i hb hi⟩,fun i h1 h2=>⟨?_,rfl⟩,fun i _=>rfl,fun i h1 h2=>?_,fun i _=>rfl,fun y hy=>?_,fun r e hr he=>?_,by simp,by simp⟩
 ·show aM (hf j6 0 i)<1
  have:1<=i:=h1
  rw[zt 0 i (by decide) h2,if_neg (by omega),abN];decide
 ·have e1:aJ (([]:List Ab).take 0)=1:=rfl
  have e2:aJ ([]:List Ab)=1:=rfl
  omega
 ·exfalso
  have h0:eo j6 1=some y:=hy
  unfold eo at h0
  have e1:hf j6 1 0=hz:=by rw[zt 1 0 (by decide) (by decide),if_neg (by decide)]
  rw[e1,abN,if_neg (fun c=>c.1 rfl)]at h0
  cases h0
 ·exfalso
  have h1:=hr.at0
  have e1:aJ (([]:List Ab).take 0)=1:=rfl
  have h2:hf (Ad.mk j6 []).Aj 0 (aJ (([]:List Ab).take 0))=hf j6 0 1:=rfl
  rw[h2,zt 0 1 (by decide) (by decide),if_neg (by omega),abN]at h1
  have:=hr.ep.1
  omega
theorem zf (k:Nat) {p:List Pg} (hp:p.length=602) {a i:Nat} (ha:a<=1) (hi:i<602):Dt k p (a:Int) (i:Int)=some (hf p a i):=by
 unfold Dt hf
 have e:(301:Int)*(a:Int)=(a:Int)*301:=Int.mul_comm _ _
 have hx:p[301*a+i / 2]?=some (p[301*a+i / 2]'(by omega)):=gG (by omega)
 rw[e]
 simp only[abo hp ha hi,bp hx,Ae,ri,ac2,hx]
theorem agX (h:Hf):∀ (n i:Nat),i+n<=32->(h.l.drop i).take n=(List.range' i n).map (bt h)
 |0,i,_=>by simp
 |n+1,i,hi=>by
  have hl:=h.h
  have hx:i<h.l.length:=by omega
  rw[List.drop_eq_getElem_cons hx,List.take_succ_cons,agX h n (i+1) (by omega),List.range'_succ,List.map_cons]
  congr 1
  unfold bt
  rw[gG hx];rfl
theorem ajv {k:Nat} (hk:100<k) {h:Hf} (hb:Bl h.l) {n i:Nat} (hn:n<=5) (hi:i+n<=32):BN k ((h.l.drop i).take n)=some (bo ((List.range' i n).map (bt h))):=by
 rw[afe hk ((hb.drop i).take n) (by rw[A8];omega),agX h n i hi]
theorem adN {k:Nat} (hk:100<k) {h:Hf} (hb:Bl h.l):DY k h=some (aM h):=by
 have e0:h.at? 0=some (bt h 0):=mo h (i:=0) (by decide)
 have yQ:h.at? 31=some (bt h 31):=mo h (i:=31) (by decide)
 have e3:(List.range' 1 3).map (bt h)=[bt h 1,bt h 2,bt h 3]:=rfl
 unfold DY aM
 rw[ajv hk hb (n:=3) (i:=1) (by decide) (by decide),e3]
 simp only[e0,yQ,Ae]
 by_cases a:bt h 0=104
 ·by_cases c:bt h 31=165
  ·by_cases d:(1000000:Int)<bo [bt h 1,bt h 2,bt h 3]
   ·simp[a,c,d,show ¬ bo [bt h 1,bt h 2,bt h 3]<=1000000 by omega]
   ·simp[a,c,d,show bo [bt h 1,bt h 2,bt h 3]<=1000000 by omega]
  ·simp[a,c]
 ·by_cases b:bt h 0=112
  ·by_cases c:bt h 31=165
   ·by_cases d:(1000000:Int)<bo [bt h 1,bt h 2,bt h 3]
    ·simp[b,c,d,show ¬ bo [bt h 1,bt h 2,bt h 3]<=1000000 by omega]
    ·simp[b,c,d,show bo [bt h 1,bt h 2,bt h 3]<=1000000 by omega]
   ·simp[b,c]
  ·simp[a,b]
theorem acf {k:Nat} (hk:1000000<k) {d:Ad} (h:lx d=true):Cg k d=some true:=by
 obtain⟨h1,h2,h3⟩:=jA.1 h
 unfold Cg
 simp only[Au (show (d.Aj.length:Int)=602 by omega),Am,AI (show ¬ (1200:Int)<(d.Af.length:Int) by omega),An]
 have hw:=xZ (l:=d.Af) (body:=Cg.b0 k d) (p:=fun _=>true) (c:=false) (by omega) (k:=k) (by omega) (fun i x hx=>by
  have hi:=(gS.1 hx).1
  unfold Cg.b0
  simp only[Au (show (i:Int)<(d.Af.length:Int) by omega),Am,bp hx,Ae,ra,ya (h3 x (A6 hx)),AO,An]) (by
  unfold Cg.b0
  simp only[(by simp:decide ((d.Af.length:Int)<(d.Af.length:Int))=false),An])
 rw[hw]
 have:d.Af.all (fun _=>true)=true:=by simp
 rw[this];rfl
theorem aiW {R:Type}{k:Nat} (hk:1000000<k) {d:Ad} (h:lx d=true) {body:Int×List Pg->Option (AN (Int×List Pg) (List Pg) R)}
  (hb:∀ (i:Int) (s:List Pg),body (i,s)=bif decide (i<(d.Af.length:Int)) then (at? d.Af i).bind fun x6=>(at? s x6.At).bind fun _=>(dN s x6.At x6.AQ).bind fun l8=>some (.next (ab (i+1),l8)) else some (.brk s)):
  ai body k (0,d.Aj)=some (.brk (au d.Aj d.Af)):=by
 obtain⟨h1,h2,h3⟩:=jA.1 h
 have hf:=qa (l:=d.Af) (body:=body) (fun i s=>(i,s)) (fun p x=>p.set x.At.toNat x.AQ) (fun i s=>s.length=602) (by omega) (k:=k) (by omega) (s0:=d.Aj) h1 (fun i x s hx hs=>by
  have hi:=(gS.1 hx).1
  have hbd:=h3 x (A6 hx)
  refine⟨?_,by simp[hs]⟩
  have ha:at? s x.At=some (s[x.At.toNat]'(by omega)):=by
   unfold at?
   rw[if_pos ⟨by omega,by omega⟩,gG (by omega)]
  have iP:dN s x.At x.AQ=some (s.set x.At.toNat x.AQ):=by
   unfold dN
   rw[if_pos ⟨by omega,by omega⟩]
  rw[hb]
  simp only[Au (show (i:Int)<(d.Af.length:Int) by omega),Am,bp hx,Ae,ha,iP]) (fun s hs=>by
  rw[hb]
  simp only[(by simp:decide ((d.Af.length:Int)<(d.Af.length:Int))=false),An])
 exact hf.1
theorem afh {d:Ad} (h:lx d=true):dI d.Aj.length 64=some ()/\dI d.Af.length 72=some ():=by
 obtain⟨h1,h2,_⟩:=jA.1 h
 unfold dI
 exact⟨by rw[if_pos ⟨by omega,by omega⟩],by rw[if_pos ⟨by omega,by omega⟩]⟩
theorem acw {k:Nat} (hk:1000000<k) {d:Ad} (h:lx d=true):Cs k d=some (au d.Aj d.Af)/\CB k d=some (au d.Aj d.Af):=by
 obtain⟨r1,r2⟩:=afh h
 unfold Cs CB
 rw[r1]
 simp only[Ae]
 rw[aiW hk h (body:=Cs.b0 k d) (fun i s=>rfl),aiW hk h (body:=CB.b0 k d) (fun i s=>rfl)]
 exact⟨rfl,rfl⟩
theorem abI (k:Nat) {d:Ad} (h:lx d=true):DK k d=some d/\E9 k d=some d:=by
 obtain⟨r1,r2⟩:=afh h
 unfold DK E9
 rw[r1,r2]
 exact⟨rfl,rfl⟩
theorem arL {k:Nat} (hk:1000000<k) {d:Ad} (h:lx d=true):D0 k d=some ⟨au d.Aj d.Af,[]⟩:=by
 unfold D0
 rw[acf hk h]
 simp only[Ae,AO,An,(acw hk h).1]
theorem y9 {k:Nat} (hk:1000000<k) {p:List Pg} (hp:p.length=602) (hb:Bx p) {a:Nat} (ha:a<=1) (from_:Nat):BM k p (a:Int) (from_:Int)=some (mx p a from_):=by
 unfold BM mx
 have key:∀ (d i m:Nat) (z:Int),602 - i=d->d<m->ai (BM.b0 k p (a:Int)) m (z,(i:Int))=some (.brk ((List.range' i d).foldl (fun m i=>max m (aM (hf p a i))) z)):=by
  intro d
  induction d with
  |zero=>
   intro i m z h1 h2
   obtain⟨m,rfl⟩:∃ q,m=q+1:=⟨m - 1,by omega⟩
   have n7:BM.b0 k p (a:Int) (z,(i:Int))=some (.brk z):=by
    unfold BM.b0
    simp only[AI (show ¬ (i:Int)<602 by omega),An]
   simp only[ai,n7]
   rfl
  |succ d ih=>
   intro i m z h1 h2
   obtain⟨m,rfl⟩:∃ q,m=q+1:=⟨m - 1,by omega⟩
   have hw:ab ((i:Int)+1)=((i+1:Nat):Int):=by rw[aW (by omega) (by omega)];omega
   have n7:BM.b0 k p (a:Int) (z,(i:Int))=some (.next (max z (aM (hf p a i)),((i+1:Nat):Int))):=by
    unfold BM.b0
    simp only[Au (show (i:Int)<602 by omega),Am,zf k hp ha (show i<602 by omega),Ae,adN (show 100<k by omega) (hb.hf a i),hw]
   simp only[ai,n7]
   rw[List.range'_succ,List.foldl_cons]
   exact ih (i+1) m _ (by omega) (by omega)
 have:=key (602 - from_) from_ k 0 rfl (by omega)
 rw[this]
 rfl
theorem anv {b:List Int} (hb:Bl b) {r:Ab}{l:List Int} (h:gU b=some (r,l)):gU (b.take (16+(cu b).toNat))=some (r,[])/\16<=b.length/\(16:Int)+cu b<=(b.length:Int):=by
 unfold gU at h
 split at h
 ·cases h
 rename_i jE
 split at h
 ·cases h
 rename_i af
 simp only[oE,Prod.mk.injEq]at h
 obtain⟨rfl,rfl⟩:=h
 have hm:=(afc ((hb.drop 15).take 1)).1
 have qN:0<=cu b:=hm
 obtain⟨m,e⟩:=Int.eq_ofNat_of_zero_le qN
 have em:(cu b).toNat=m:=by rw[e];rfl
 have T:∀ i n,i+n<=16->((b.take (16+m)).drop i).take n=(b.drop i).take n:=fun i n hi=>by
  rw[List.drop_take,List.take_take,Nat.min_eq_left (by omega)]
 have T0:(b.take (16+m)).take 1=b.take 1:=by rw[List.take_take,Nat.min_eq_left (by omega)]
 have hM:cu (b.take (16+m))=cu b:=by
  unfold cu;rw[T 15 1 (by omega)]
 have hlen:(b.take (16+m)).length=16+m:=by rw[A8];omega
 refine⟨?_,by omega,by omega⟩
 rw[em]
 unfold gU
 rw[if_neg (by omega),hM,if_neg (by rw[hlen];omega),em]
 have htx:((b.take (16+m)).drop 16).take m=(b.drop 16).take m:=by
  rw[List.drop_take,List.take_take,Nat.min_eq_left (by omega)]
 have zH:((b.take (16+m)).drop 16).drop m=[]:=Dr (by rw[Bt,hlen];omega)
 rw[htx,zH]
 unfold yN
 rw[T0,T 1 2 (by omega),T 3 1 (by omega),T 4 4 (by omega),T 8 4 (by omega),T 12 1 (by omega),T 13 2 (by omega)]
theorem ajz {p:List Pg} (hb:Bx p) {a f n:Nat}{q:Ab×Int×Nat} (h:recAt p a f n=some q):bt (hf p a f) 0=112/\bt (hf p a f) 7=(q.2.2:Int)/\0<q.2.2/\aM (hf p a f)=q.2.1:=by
 obtain⟨h1,h2⟩:=(pU hb).1 h
 have h0:=h1.run.2 0 _ (ah1 q.1 n q.2.1)
 rw[Nat.add_zero]at h0
 obtain⟨b0,_,_,_,_,_⟩:=adt q.2.1 n (bB (enc q.1).length) (enc q.1) 0
 have hc:=yK h1.ok
 have hp:=oZ q.1
 rw[h0]
 refine⟨b0,?_,by rw[h2,jG];exact hp,adL h1.ep _ _ _ _⟩
 rw[agz (by omega),h2,jG]
theorem ap8 {k:Nat} (hk:1000000<k) {p:List Pg} (hp:p.length=602) (hb:Bx p) {a:Nat} (ha:a<=1) (f n:Nat) (nq:f<=100000) (hn:n<60):
  BC k p (a:Int) (f:Int) (n:Int)=some (match recAt p a f n with|some q=>(q.1,(q.2.2:Int),q.2.1,true)|none=>(nJ,0,0,false)):=by
 have aaj:recAt p a f n=none->∀ x,x=some (nJ,(0:Int),(0:Int),false)->x=some (match recAt p a f n with|some q=>(q.1,(q.2.2:Int),q.2.1,true)|none=>(nJ,0,0,false)):=fun h x hx=>by rw[h,hx]
 unfold BC
 by_cases h1:602<=f
 ·have:recAt p a f n=none:=by unfold recAt;rw[if_pos h1]
  refine aaj this _ ?_
  simp only[Au (show (602:Int)<=(f:Int) by omega),AO,An]
  rfl
 ·have gb:=so (hb.hf a f) 7
  obtain⟨m,hm⟩:=Int.eq_ofNat_of_zero_le gb.1
  have hmN:(bt (hf p a f) 7).toNat=m:=by rw[hm];rfl
  have e7:(hf p a f).at? 7=some (m:Int):=by have:=mo (hf p a f) (i:=7) (by decide);rw[hm]at this;exact this
  have e0:(hf p a f).at? 0=some (bt (hf p a f) 0):=mo _ (i:=0) (by decide)
  have wm:ab (m:Int)=(m:Int):=aW (by omega) (by omega)
  have wfm:ab ((f:Int)+(m:Int))=((f+m:Nat):Int):=by rw[aW (by omega) (by omega)];omega
  simp only[AI (show ¬ (602:Int)<=(f:Int) by omega),Bn,Am,AI (show ¬ (60:Int)<=(n:Int) by omega),An,zf k hp ha (show f<602 by omega),Ae,adN (show 100<k by omega) (hb.hf a f),e7,e0,wm,wfm]
  by_cases ad8:bt (hf p a f) 0=112
  ·by_cases he:aM (hf p a f)=0
   ·refine aaj (by unfold recAt;rw[if_neg h1,if_pos (Or.inl he)]) _ ?_
    simp only[Au ad8,Am,Au he,AO,An]
    rfl
   ·simp only[Au ad8,Am,AI he,Bn]
    by_cases qN:m=0
    ·refine aaj ?_ _ ?_
     ·cases hq:recAt p a f n with
      |none=>rfl
      |some q=>have:=ajz hb hq;omega
     ·simp only[Au (show (m:Int)=0 by omega),AO,An]
      rfl
    ·simp only[AI (show ¬ (m:Int)=0 by omega),Bn,Am]
     by_cases h2:602<f+m
     ·refine aaj (by unfold recAt;rw[if_neg h1,if_pos (Or.inr (by rw[hmN];exact h2))]) _ ?_
      simp only[Au (show (602:Int)<((f+m:Nat):Int) by omega),Am]
      rfl
     ·simp only[AI (show ¬ (602:Int)<((f+m:Nat):Int) by omega),An]
      have sX:=ase (n:=m) (body:=BC.b0 k p (a:Int) (f:Int) (m:Int)) (fun i (s:Hf×List Int)=>(s.1,i,s.2)) (fun s=>s.2) (fun s i=>some (hf p a (f+i),s.2++ig (hf p a (f+i)))) ((nJ,(0:Int),(0:Int),false)) (fun i s=>s.2.length=23*i/\s.2=((List.range i).map fun i=>ig (hf p a (f+i))).flatten) (by omega) (k:=k) (by omega) (s0:=(hf p a f,[])) ⟨rfl,rfl⟩ (fun i s hi hs=>by
       have hl:=(hf p a (f+i)).h
       have xk:(ig (hf p a (f+i))).length=23:=by unfold ig;simp[hl]
       have vz:ab ((f:Int)+(i:Int))=((f+i:Nat):Int):=by rw[aW (by omega) (by omega)];omega
       have qU:=hs.1
       refine⟨?_,fun s' uS=>?_⟩
       ·unfold BC.b0
        simp only[wm,Au (show (i:Int)<(m:Int) by omega),Am,vz,zf k hp ha (show f+i<602 by omega),Ae]
        rw[show (List.take 23 (List.drop 8 (hf p a (f+i)).l))=ig (hf p a (f+i)) from rfl,kz (by omega) (by omega)]
        rfl
       ·obtain rfl:=oi uS
        refine⟨by simp only[A1,xk];omega,?_⟩
        simp only
        rw[List.range_succ,DJ,List.flatten_append,<-hs.2]
        simp) (fun s hs=>by
       unfold BC.b0
       simp only[wm,(by simp:decide ((m:Int)<(m:Int))=false),An])
      have hex:∀ (L:List Nat) (s:Hf×List Int),∃ o,L.foldlM (fun(s:Hf×List Int) i=>some (hf p a (f+i),s.2++ig (hf p a (f+i)))) s=some o:=by
       intro L
       induction L with
       |nil=>intro s;exact⟨s,rfl⟩
       |cons x L ih=>intro s;exact ih _
      obtain⟨o,ho⟩:=hex (List.range m) (hf p a f,[])
      have gk:=sX.1
      obtain⟨zO,hof⟩:=sX.2 o ho
      rw[ho]at gk
      rw[gk]
      simp only[Ae]
      have po:Bl o.2:=by
       rw[hof]
       refine agB (fun x hx=>?_)
       obtain⟨i,_,rfl⟩:=List.mem_map.1 hx
       exact agC (hb.hf a _)
      have aiz:o.2[15]?=some (o.2[15]'(by omega)):=gG (by omega)
      have hM:cu o.2=o.2[15]'(by omega):=by
       unfold cu
       rw[List.drop_eq_getElem_cons (show 15<o.2.length by omega)]
       exact ajt _
      have hM0:=po _ (A6 aiz)
      rw[<-hM]at hM0
      have iI:at? o.2 15=some (cu o.2):=by
       rw[hM];exact bp aiz
      have w16:ab (16+(ab (cu o.2)))=16+cu o.2:=by
       rw[aW (n:=cu o.2) (by omega) (by omega),aW (by omega) (by omega)]
      simp only[AI (show ¬ ((o.2.length:Nat):Int)<16 by omega),Bn,Am,iI,Ae,w16]
      have om:recAt p a f n=match gU o.2 with
        |none=>none
        |some q=>if bC q.1=true/\(bj q.1 n (aM (hf p a f))).length=m/\pV p a f (bj q.1 n (aM (hf p a f)))=true then some (q.1,aM (hf p a f),m) else none:=by
       unfold recAt
       rw[if_neg h1,hmN,if_neg (fun c=>c.elim he h2),<-hof]
       all_goals rfl
      rw[om]
      by_cases af:(o.2.length:Int)<16+cu o.2
      ·have hd:gU o.2=none:=by
        unfold gU
        rw[if_neg (by omega),if_pos af]
       rw[hd]
       simp only[Au af,Am]
       rfl
      ·simp only[AI af,An]
       have hhs:uT o.2.length (16+cu o.2)=some ():=by unfold uT;rw[if_pos (by omega)]
       have zJ:(16+cu o.2).toNat=16+(cu o.2).toNat:=by omega
       rw[hhs]
       have hdR:Eg k (o.2.take (16+(cu o.2).toNat))=some (decode (o.2.take (16+(cu o.2).toNat))):=anx (show 1000<k by omega) (po.take _) (by rw[A8];omega)
       simp only[Ae,zJ,hdR]
       cases hd:gU o.2 with
       |none=>
        exfalso
        unfold gU at hd
        rw[if_neg (by omega),if_neg af]at hd
        cases hd
       |some q=>
        obtain⟨r,l⟩:=q
        have hdt:=(anv po hd).1
        have aoz:decode (o.2.take (16+(cu o.2).toNat))=bif bC r then (r,0) else (nJ,90):=by
         unfold decode
         rw[hdt]
        simp only[aoz]
        cases hr:bC r with
        |false=>simp;rfl
        |true=>
         have ht:=vk hr
         simp only[Am,Bf,AO,An,ah3 (show 100000<k by omega) ht,Ae]
         have hH:(List.range (bB (enc r).length)).map (ec (aM (hf p a f)) (n:Int) (bB (enc r).length) (enc r))=bj r (n:Int) (aM (hf p a f)):=rfl
         rw[hH]
         by_cases hlen:(bj r (n:Int) (aM (hf p a f))).length=m
         ·have hwN:=vA (n:=m) (body:=BC.b1 k p (a:Int) (f:Int) (m:Int) (bj r (n:Int) (aM (hf p a f)))) (p:=fun i=>match (bj r (n:Int) (aM (hf p a f)))[i]? with|some x=>decide (hf p a (f+i)=x)|none=>true) (c:=(nJ,(0:Int),(0:Int),false)) (by omega) (k:=k) (by omega) (fun i hi=>by
           obtain⟨x,hx⟩:∃ x,(bj r (n:Int) (aM (hf p a f)))[i]?=some x:=⟨_,gG (by omega)⟩
           have vz:ab ((f:Int)+(i:Int))=((f+i:Nat):Int):=by rw[aW (by omega) (by omega)];omega
           have hve:Aa.eq (fun(x y:Int)=>decide (x=y)) (hf p a (f+i)) x=decide (hf p a (f+i)=x):=by
            by_cases e:hf p a (f+i)=x
            ·rw[(rH _ _).2 e,Au e]
            ·rw[AI e]
             cases hq:Aa.eq (fun(x y:Int)=>decide (x=y)) (hf p a (f+i)) x with
             |false=>rfl
             |true=>exact absurd ((rH _ _).1 hq) e
           unfold BC.b1
           simp only[wm,Au (show (i:Int)<(m:Int) by omega),Am,bp hx,Ae,vz,zf k hp ha (show f+i<602 by omega),hve,hx]
           cases decide (hf p a (f+i)=x)<;>rfl) (by
           unfold BC.b1
           simp only[wm,(by simp:decide ((m:Int)<(m:Int))=false),An])
          have bm:pV p a f (bj r (n:Int) (aM (hf p a f)))=(List.range m).all (fun i=>match (bj r (n:Int) (aM (hf p a f)))[i]? with|some x=>decide (hf p a (f+i)=x)|none=>true):=by
           unfold pV;rw[hlen];rfl
          simp only[Au (show ((bj r (n:Int) (aM (hf p a f))).length:Int)=(m:Int) by omega),AO,An,hwN,<-bm,hlen,true_and]
          cases pV p a f (bj r (n:Int) (aM (hf p a f)))<;>rfl
         ·simp only[AI (show ¬ ((bj r (n:Int) (aM (hf p a f))).length:Int)=(m:Int) by omega),Bn,Am,hlen,false_and,and_false,if_false]
          rfl
  ·refine aaj ?_ _ ?_
   ·cases hq:recAt p a f n with
    |none=>rfl
    |some q=>have:=ajz hb hq;omega
   ·simp only[AI ad8,An]
    rfl
theorem an3 (s:List Ab×Nat) (x:Ab×Nat) (L:List (Ab×Nat)):fin s (x::L)=fin (fk ag s.1 x.1,x.2) L:=rfl
theorem amj {k:Nat} (hk:1000000<k) {p:List Pg} (hp:p.length=602) (hb:Bx p) {a:Nat} (ha:a<=1):∀ (m K:Nat) (b:List Ab) (e:Int) (u:Nat) (R:List Ab),Di ag b->(∀ r∈b,bC r=true)->b.length=R.length->R.length<=60->u<=602->61<=m+R.length->m<K->
  ai (BG.b0 k p (a:Int)) K (e,b,(u:Int),R)=some (.brk (((fin (b,u) (rd p a (m+1) b e u R.length)).2:Int),R++(rd p a (m+1) b e u R.length).map (·.1))):=by
 intro m
 induction m with
 |zero=>intro K b e u R _ _ h1 h2 _ h3 _;omega
 |succ m ih=>
  intro K b e u R hv mJ iB hR hu hm hK
  obtain⟨K,rfl⟩:∃ q,K=q+1:=⟨K - 1,by omega⟩
  have stop:BG.b0 k p (a:Int) (e,b,(u:Int),R)=some (.brk ((u:Int),R))->rd p a (m+1+1) b e u R.length=[]->ai (BG.b0 k p (a:Int)) (K+1) (e,b,(u:Int),R)=some (.brk (((fin (b,u) (rd p a (m+1+1) b e u R.length)).2:Int),R++(rd p a (m+1+1) b e u R.length).map (·.1))):=fun h1 h2=>by
   rw[h2]
   simp only[ai,h1,fin,List.foldl_nil,List.map_nil,List.append_nil]
  have hh:∀ r∈b,iC r:=fun r hr=>kT (mJ r hr)
  by_cases lB:R.length=60
  ·
   have qR:rd p a (m+1+1) b e u R.length=[]:=by
    rw[rd]
    cases hq:recAt p a u R.length with
    |none=>rfl
    |some q=>
     simp only
     split
     ·rfl
     ·have:fo b q.1=none:=by
       cases dv:fo b q.1 with
       |none=>rfl
       |some b'=>have:=(tq dv).2.2.2;omega
      rw[this]
   refine stop ?_ qR
   have kO:BC k p (a:Int) (u:Int) ((R.length:Nat):Int)=some (nJ,0,0,false):=by
    unfold BC
    by_cases h1:(602:Int)<=(u:Int)
    ·simp only[Au h1,AO,An];rfl
    ·simp only[AI h1,Bn,Am,Au (show (60:Int)<=((R.length:Nat):Int) by omega)];rfl
   unfold BG.b0
   simp only[kO,Ae,An]
  ·have kO:=ap8 hk hp hb ha u R.length (by omega) (by omega)
   cases hq:recAt p a u R.length with
   |none=>
    rw[hq]at kO
    refine stop ?_ (by rw[rd,hq])
    unfold BG.b0
    simp only[kO,Ae,An]
   |some q=>
    rw[hq]at kO
    obtain⟨⟨g1,g2,g3⟩,g4⟩:=(pU hb).1 hq
    have hmp:0<q.2.2:=by rw[g4,jG];exact oZ q.1
    have ad9:=g3.1
    rw[<-g4]at ad9
    by_cases he:q.2.1<e
    ·refine stop ?_ (by rw[rd,hq];simp only;rw[if_pos he])
     unfold BG.b0
     simp only[kO,Ae,Am,Au he,AO,An]
    ·have eC:cz q.1.At=ag q.1:=rfl
     rcases ahD (k:=k) (l:=b) (by omega) hk q.1.At with ⟨i,x,f1,f2,f3⟩|⟨f1,f2⟩
     ·
      rw[eC]at f3
      have hf:gA ag b (ag q.1)=some x:=by rw[<-f3];exact adR ag hv.1 (A6 f2)
      have dv:fo b q.1=none:=by
       cases dv:fo b q.1 with
       |none=>rfl
       |some b'=>have:=(tq dv).2.1;rw[hf]at this;cases this
      refine stop ?_ (by rw[rd,hq];simp only;rw[if_neg he,dv])
      unfold BG.b0
      simp only[kO,Ae,Am,AI he,Bn,f1,Au (show (0:Int)<=(i:Int) by omega)]
     ·have lE:=adb hk hv.1 (show b.length<=900 by omega) hh (kT g1)
      cases dv:fo b q.1 with
      |none=>
       have ba:¬ (dK b q.1).2=0:=fun c=>by
        rw[eC]at f2
        have uI:=y5 ag f2
        unfold fo at dv
        have hl:(dK b q.1).1.length≠b.length:=by
         unfold dK at c ⊢
         rw[uI]at c ⊢
         simp only at c ⊢
         split at c
         ·cases c
         ·split at c
          ·cases c
          ·rename_i c1 c2
           rw[if_neg c1,if_neg c2]
           simp only
           rw[uY];omega
        rw[if_pos ⟨c,hl⟩]at dv
        cases dv
       refine stop ?_ (by rw[rd,hq];simp only;rw[if_neg he,dv])
       unfold BG.b0
       simp only[kO,Ae,Am,AI he,Bn,f1,(by decide:decide ((0:Int)<=-1)=false),An,lE,AI ba]
      |some b'=>
       obtain⟨v1,v2⟩:=aeS hv g1 dv
       obtain⟨i1,_,_,_⟩:=tq dv
       have iO:=dv
       unfold fo at iO
       split at iO
       ·rename_i hc
        have cK:(dK b q.1).1=b':=oi iO
        have gk:ab ((u:Int)+(q.2.2:Int))=((u+q.2.2:Nat):Int):=by rw[aW (by omega) (by omega)];omega
        have aew:BG.b0 k p (a:Int) (e,b,(u:Int),R)=some (.next (q.2.1,b',((u+q.2.2:Nat):Int),R++[q.1])):=by
         unfold BG.b0
         simp only[kO,Ae,Am,AI he,Bn,f1,(by decide:decide ((0:Int)<=-1)=false),An,lE,Au hc.1,AO,nG (show (R.length+1)*72<=140737488355328 by omega) (show R.length+1<4611686018427387904 by omega),cK,gk]
        have hih:=ih K b' q.2.1 (u+q.2.2) (R++[q.1]) v1 (fun r hr=>by
         rw[i1,aci]at hr
         rcases hr with rfl|hr
         ·exact g1
         ·exact mJ r hr) (by simp;omega) (by simp;omega) (by omega) (by simp;omega) (by omega)
        have qR:rd p a (m+1+1) b e u R.length=(q.1,u+q.2.2)::rd p a (m+1) b' q.2.1 (u+q.2.2) (R.length+1):=by
         rw[rd,hq];simp only;rw[if_neg he,dv]
        rw[qR,an3]
        simp only[ai,aew]
        rw[hih]
        simp only[A1,AA,AB,List.map_cons,CA,<-i1]
        simp
       ·cases iO
theorem ah9 {k:Nat} (hk:100<k) (e n:Int):Eh k e n=some (dE e n):=by
 unfold Eh
 have h3:Cd k e 3=some (be e 3):=aco e (w:=3) (by decide) (by omega)
 have h2:Cd k n 2=some (be n 2):=aco n (w:=2) (by decide) (by omega)
 rw[h3]
 simp only[Ae]
 rw[kz (by simp[dW]) (by simp[dW])]
 simp only[Ae,h2]
 rw[kz (by simp[dW]) (by simp[dW])]
 simp only[Ae]
 rw[kz (by simp[dW]) (by simp[dW])]
 simp only[Ae]
 rw[nG (by simp[dW]) (by simp[dW])]
 simp only[Ae]
 have hl:([(104:Int)]++be e 3++be n 2++List.replicate 25 0++[165])=(dE e n).l:=by
  rw[oS,vQ];rfl
 rw[hl]
 unfold Aa.oD
 rw[dif_pos (by rw[(dE e n).h];exact AY _)]
 simp only[Ae]
 congr 1
def lq (x:Option Ar):CH:=match x with|none=>⟨0,[],0⟩|some x=>⟨x.de,x.nK.map (·.1),(x.used:Int)⟩
theorem af8 {k:Nat} (hk:1000000<k) {p:List Pg} (hp:p.length=602) (hb:Bx p) {a:Nat} (ha:a<=1):BG k p (a:Int)=some (lq (eo p a)):=by
 have h0:=zf k hp ha (show 0<602 by decide)
 rw[Cz]at h0
 have e0:(hf p a 0).at? 0=some (bt (hf p a 0) 0):=mo _ (i:=0) (by decide)
 have e2:(List.range' 4 2).map (bt (hf p a 0))=[bt (hf p a 0) 4,bt (hf p a 0) 5]:=rfl
 have xb:=ajv (show 100<k by omega) (hb.hf a 0) (n:=2) (i:=4) (by decide) (by decide)
 rw[e2]at xb
 unfold BG eo
 rw[h0]
 simp only[Ae,adN (show 100<k by omega) (hb.hf a 0),xb,e0]
 generalize hE:aM (hf p a 0)=E
 generalize hC:bo [bt (hf p a 0) 4,bt (hf p a 0) 5]=C
 have ab2:=amj hk hp hb ha 61 k [] E 1 [] ⟨.nil,trivial⟩ (by simp) rfl (by simp) (by decide) (by simp) (by omega)
 have ab4:=afd hb 62 100 [] E 1 0 (by simp) (by simp) (by simp) (a:=a)
 have qR:pT p a=rd p a 62 [] E 1 0:=by unfold pT;rw[hE,ab4]
 by_cases abV:bt (hf p a 0) 0=104
 ·simp only[Au abV,Am]
  by_cases he:E=0
  ·rw[if_neg (fun c=>c.1 he)]
   simp only[Au he,AO,An]
   rfl
  ·simp only[AI he,Bn,Am,ah9 (show 100<k by omega),Ae]
   by_cases hh:hf p a 0=dE E C
   ·simp only[(rH _ _).2 hh,AO,An]
    have fb:((1:Nat):Int)=1:=rfl
    rw[fb]at ab2
    rw[ab2]
    simp only[Ae,Ce,AB]
    by_cases hc:C<=((pT p a).length:Int)
    ·rw[if_pos ⟨he,hh,hc⟩]
     rw[qR]at hc
     rw[AI (show ¬ (((rd p a 62 [] E 1 0).map (·.1)).length:Int)<C by rw[Bu];omega)]
     unfold lq Ar.used
     simp only[An,qR]
    ·rw[if_neg (fun c=>hc c.2.2)]
     rw[qR]at hc
     rw[Au (show (((rd p a 62 [] E 1 0).map (·.1)).length:Int)<C by rw[Bu];omega)]
     rfl
   ·have hv:Aa.eq (fun(x y:Int)=>decide (x=y)) (hf p a 0) (dE E C)=false:=by
     cases hq:Aa.eq (fun(x y:Int)=>decide (x=y)) (hf p a 0) (dE E C) with
     |false=>rfl
     |true=>exact absurd ((rH _ _).1 hq) hh
    rw[if_neg (fun c=>hh c.2.1)]
    simp only[hv,Bn,Am]
    rfl
 ·have hh:¬ hf p a 0=dE E C:=fun c=>by
   rw[c]at abV
   exact abV rfl
  rw[if_neg (fun c=>hh c.2.1)]
  simp only[AI abV,An]
  rfl
theorem af7 {p:List Pg} (hb:Bx p) {a:Nat}{x:Ar} (h:eo p a=some x):1<=x.de:=by
 unfold eo at h
 split at h
 ·rename_i hc
  obtain rfl:=oi h
  have:=(aha (hb.hf a 0)).1
  simp only
  omega
 ·cases h
theorem aiS {k:Nat} (hk:1000000<k) {p:List Pg} (hp:p.length=602) (hb:Bx p) {q:Nat×Ar} (h:oC p=some q):Em k p=some ((q.1:Int),lq (some q.2),true):=by
 have a0:=af8 hk hp hb (a:=0) (by decide)
 have a1:=af8 hk hp hb (a:=1) (by decide)
 have a0':BG k p 0=some (lq (eo p 0)):=a0
 have yp:BG k p 1=some (lq (eo p 1)):=a1
 unfold Em
 rw[a0',yp]
 simp only[Ae]
 unfold oC at h
 cases hx:eo p 0 with
 |none=>
  cases hy:eo p 1 with
  |none=>rw[hx,hy]at h;cases h
  |some y=>
   rw[hx,hy]at h
   simp only at h
   obtain rfl:=oi h
   have py:=af7 hb hy
   have e0:(lq none).Aq=0:=rfl
   have e1:(lq (some y)).Aq=y.de:=rfl
   simp only[e0,e1,Bf,Am,AI (show ¬ y.de=0 by omega),An,Au (show (0:Int)<y.de by omega)]
   rfl
 |some x=>
  have px:=af7 hb hx
  have e0:(lq (some x)).Aq=x.de:=rfl
  cases hy:eo p 1 with
  |none=>
   rw[hx,hy]at h
   simp only at h
   obtain rfl:=oi h
   have e1:(lq none).Aq=0:=rfl
   simp only[e0,e1,AI (show ¬ x.de=0 by omega),An,AI (show ¬ x.de<0 by omega)]
   rfl
  |some y=>
   rw[hx,hy]at h
   simp only at h
   have e1:(lq (some y)).Aq=y.de:=rfl
   by_cases af:x.de<y.de
   ·rw[if_pos af]at h
    obtain rfl:=oi h
    simp only[e0,e1,AI (show ¬ x.de=0 by omega),An,Au af,Am]
    rfl
   ·rw[if_neg af]at h
    obtain rfl:=oi h
    simp only[e0,e1,AI (show ¬ x.de=0 by omega),An,AI af]
    rfl
theorem agj {k:Nat} (hk:1000000<k) {l:List Ab} (hg:CM l):Cm k l=some ⟨bk ag [] l⟩:=by
 have n6:=hg.len
 unfold Cm
 have h:=qa (l:=l) (body:=Cm.b0 k l) (fun i s=>(s,i)) (fk ag) (fun i s=>BI ag (l.take i) s) (by omega) (k:=k) (by omega) (s0:=[]) (BI.nil ag) (fun i r s hx hs=>by
  have hi:=(gS.1 hx).1
  have bw:(ag r).2=ao ag (l.take i) (ag r).1:=hg.no hx
  have eK:=hs.len
  rw[A8]at eK
  have hh:∀ x∈s,iC x:=fun x hx=>kT (hg.ok x (BD ((hs.mem x).1 hx)))
  have lE:dK s r=(fk ag s r,0):=by
   unfold dK
   rw[y5 ag (hs.no ag bw)]
   simp only
   have e:r.At.No=((ao ag s r.At.Ac:Nat):Int):=by
    rw[hs.num];exact bw
   rw[if_neg (by omega),if_neg (by omega)]
  refine⟨?_,?_⟩
  ·unfold Cm.b0
   simp only[Au (show (i:Int)<(l.length:Int) by omega),Am,bp hx,Ae,adb hk hs.val.1 (show s.length<=900 by omega) hh (kT (hg.ok r (A6 hx))),lE]
  ·rw[take_at hx]
   exact hs.step ag bw) (fun s hs=>by
  unfold Cm.b0
  simp only[(by simp:decide ((l.length:Int)<(l.length:Int))=false),An])
 rw[h.1]
 rfl
theorem aiP (log:List Ab) {m:Nat} (hm:m<=log.length):(ic log 0 m).map (·.1)=log.take m:=by
 apply List.ext_getElem
 ·simp[ic];omega
 ·intro i h1 h2
  have hi:i<log.length:=by simp at h2;omega
  simp[ic,hi]
theorem ajO {k:Nat} (hk:10000000<k) {l:List Ab} (hl:l.length<=1000):BY k l l=some true:=by
 obtain⟨c,h1,h2⟩:=ajN hk (a:=l) (b:=l) hl
 rw[h1,h2.2 rfl]
section
variable {d:Ad}{l:Ai}{log:List Ab}{aK a:Nat}{e0 c:Int}{ep:Nat->Int}
theorem Jr.ar (h:Jr d l log aK a e0 c ep):oC (au d.Aj d.Af)=some (a,⟨e0,ic log 0 log.length⟩)/\lq (some ⟨e0,ic log 0 log.length⟩)=⟨e0,log,(aJ log:Int)⟩/\(Ar.mk e0 (ic log 0 log.length)).used=aJ log:=by
 have h2:=(aag log (AY log.length) e0).2
 rw[BA]at h2
 refine⟨h.pJ.aiR,?_,h2⟩
 unfold lq
 simp only[h2,aiP log (AY _),BA]
theorem Jr.agF (h:Jr d l log aK a e0 c ep) {k:Nat} (hk:10000000<k) (u:Int):DV k d ⟨l.Ak,l.AS,l.Aq,u⟩=some (if u=l.Used then 0 else 94):=by
 obtain⟨m1,m2,m3⟩:=h.ar
 have hb:=h.pJ
 have hmu:=hb.mu
 simp only[m3]at hmu
 have qN:=hb.m0
 have dv:=hb.m1
 have iB:=h.cF.bi.len
 have n6:=h.cF.len
 have g0:BM k (au d.Aj d.Af) 0 0=some (mx (au d.Aj d.Af) 0 0):=y9 (show 1000000<k by omega) h.db.len h.db.new (a:=0) (by decide) 0
 have g1:BM k (au d.Aj d.Af) 1 0=some (mx (au d.Aj d.Af) 1 0):=y9 (show 1000000<k by omega) h.db.len h.db.new (a:=1) (by decide) 0
 have g2:=y9 (k:=k) (by omega) h.db.len h.db.new h.a1 (aJ log)
 unfold DV
 rw[acf (show 1000000<k by omega) h.db.ok]
 simp only[Ae,Am,ra,ya h.pa,AO,An,(acw (show 1000000<k by omega) h.db.ok).1,aiS (show 1000000<k by omega) h.db.len h.db.new m1,h.aX,Bf,m2]
 by_cases hu:u=l.Used
 ·rw[if_pos hu,hu,h.used]
  simp only[Bf,Am,agj (show 1000000<k by omega) h.cF,Ae,h.book,ajO hk (show (bk ag [] log).length<=1000 by omega),AO,An,g0,g1,g2,AI (show ¬ l.Aq<mx (au d.Aj d.Af) 0 0 by omega),AI (show ¬ l.Aq<mx (au d.Aj d.Af) 1 0 by omega),Bn,AI (show ¬ l.Aq<=mx (au d.Aj d.Af) a (aJ log) by omega)]
 ·rw[if_neg hu]
  rw[h.used]at hu
  simp only[AI hu,An]
theorem Jr.am4 (h:Jr d l log aK a e0 c ep) {k:Nat} (hk:10000000<k) (u:Int):∃ x,rX k d ⟨l.Ak,l.AS,l.Aq,u⟩=some x/\(x=0↔u=l.Used):=by
 by_cases hu:u=l.Used
 ·have:=yI (show 1000000<k by omega) h.db h.pJ
  refine⟨0,?_,by simp[hu]⟩
  rw[hu];exact this
 ·refine⟨94,?_,⟨fun c=>absurd c (by decide),fun c=>absurd c hu⟩⟩
  obtain⟨m1,m2,m3⟩:=h.ar
  obtain⟨J,ok,h1,h2⟩:=aeK (show 1000000<k by omega) h.db.len h.db.new []
  rw[m1]at h2
  simp only at h2
  obtain⟨rfl,ha,he,uD,lI⟩:=h2
  unfold rX
  rw[xu (show 1000000<k by omega),h.db.ok]
  simp only[Ae,AO,An]
  rw[nY h.db.ok]
  simp only[Ae]
  rw[aaF (show 1000000<k by omega) h.db.ok]
  rw[h.used]at hu
  simp only[Ae,h1,Am,ha,h.aX,Bf,lI,m3,AI hu,An]
theorem aqn {k:Nat} (hk:10000000<k) {d:Ad} (hd:DB d) {q:Nat×Ar} (h:oC (au d.Aj d.Af)=some q) {log:List Ab} (hg:CM log) (hq:q.2.nK.map (·.1)=log) (hb:q.2.book=bk ag [] log) (hm:max (mx (au d.Aj d.Af) 0 0) (mx (au d.Aj d.Af) 1 0)<1000000):
  Ej k d=some (⟨au d.Aj d.Af,[]⟩,⟨⟨q.2.book⟩,(q.1:Int),1+max (mx (au d.Aj d.Af) 0 0) (mx (au d.Aj d.Af) 1 0),(q.2.used:Int)⟩,0):=by
 have g0:BM k (au d.Aj d.Af) 0 0=some (mx (au d.Aj d.Af) 0 0):=y9 (show 1000000<k by omega) hd.len hd.new (a:=0) (by decide) 0
 have g1:BM k (au d.Aj d.Af) 1 0=some (mx (au d.Aj d.Af) 1 0):=y9 (show 1000000<k by omega) hd.len hd.new (a:=1) (by decide) 0
 have n0:=xD (au d.Aj d.Af) 0 0
 have n1:=xD (au d.Aj d.Af) 1 0
 have hw:ab ((max (mx (au d.Aj d.Af) 0 0) (mx (au d.Aj d.Af) 1 0))+1)=1+max (mx (au d.Aj d.Af) 0 0) (mx (au d.Aj d.Af) 1 0):=by rw[aW (by omega) (by omega)];omega
 have hA:lq (some q.2)=⟨q.2.de,log,(q.2.used:Int)⟩:=by unfold lq;simp only[hq]
 unfold Ej
 rw[acf (show 1000000<k by omega) hd.ok]
 simp only[Ae,AO,An,(acw (show 1000000<k by omega) hd.ok).1,aiS (show 1000000<k by omega) hd.len hd.new h,hA,g0,g1,hw]
 rw[AI (show ¬ (1000000:Int)<1+max (mx (au d.Aj d.Af) 0 0) (mx (au d.Aj d.Af) 1 0) by omega)]
 simp only[An,agj (show 1000000<k by omega) hg,Ae,hb]
theorem Jr.an1 (h:Jr d l log aK a e0 c ep) (hE:l.Aq<1000000) {p:List Pg} (hl:p.length=602) (hp:C7 d.Aj (au d.Aj d.Af) p) {k:Nat} (hk:10000000<k):
  ∃ m l',aK<=m/\m<=log.length/\oV k ⟨p,[]⟩=some (⟨p,[]⟩,l',0)/\Ej k ⟨p,[]⟩=some (⟨p,[]⟩,l',0)/\l'.Aq<=l.Aq+1/\Jr ⟨p,[]⟩ l' (log.take m) m a e0 c ep:=by
 obtain⟨m,l',m1,m2,m3,m4,m5⟩:=h.fail hE hl hp (show 1000000<k by omega)
 refine⟨m,l',m1,m2,m3,?_,m4,m5⟩
 have hb:∀ b i,b<=1->i<602->aM (hf p b i)<=l.Aq:=fun b i hb hi=>by
  rcases hp.hf b i with g|g
  ·rw[g];exact(h.bound b i hb hi).2
  ·rw[g];exact(h.bound b i hb hi).1
 have hE1:=h.pa.1
 have x0:mx p 0 0<=l.Aq:=pM.2 ⟨by omega,fun i _ hi=>hb 0 i (by decide) hi⟩
 have x1:mx p 1 0<=l.Aq:=pM.2 ⟨by omega,fun i _ hi=>hb 1 i (by decide) hi⟩
 obtain⟨a1,a2,a3⟩:=m5.ar
 have uD:=(aag (log.take m) (AY (log.take m).length) e0).1
 rw[BA]at uD
 have pw:max (mx (au (Ad.mk p []).Aj (Ad.mk p []).Af) 0 0) (mx (au (Ad.mk p []).Aj (Ad.mk p []).Af) 1 0)<1000000:=by
  show max (mx p 0 0) (mx p 1 0)<1000000
  omega
 have o1:=aqn hk m5.db a1 m5.cF (by simp only[aiP _ (AY _),BA]) (by simp only[uD]) pw
 have o2:=ajc (show 1000000<k by omega) m5.db a1 pw
 rw[m3]at o2
 rw[o1,<-o2]
end
theorem amd (x:Int):dV .i64 x 3=x % 4:=by
 have h1:0<=x % 4:=by omega
 have h2:x % 4<4:=by omega
 have h3:(BitVec.ofInt IntKind.i64.bits 3).toNat=2 ^ 2 - 1:=by decide +kernel
 have hx:(BitVec.ofInt IntKind.i64.bits x).toNat=(x % 18446744073709551616).toNat:=by
  rw[BitVec.toNat_ofInt,show ((2 ^ IntKind.i64.bits:Nat):Int)=18446744073709551616 from rfl]
 have e:(x % 18446744073709551616).toNat % 2 ^ 2=(x % 4).toNat:=by
  rw[show (2:Nat) ^ 2=4 from rfl];omega
 unfold dV
 rw[BitVec.toNat_and,h3,Nat.and_two_pow_sub_one_eq_mod,hx,e]
 have h4:(((x % 4).toNat:Nat):Int)=x % 4:=by omega
 rw[h4]
 exact aW (by omega) (by omega)
theorem ann {k:Nat} (hk:10000000<k) {d:Ad} (hd:DB d) (bD:List Int) {i:Nat}{w:As}{p:List Pg} (hx:d.Af[i]?=some w) (hp:p.length=602):
  ∃ p',BJ.b0 k d bD ((i:Int),p)=some (.next (ab ((i:Int)+1),p'))/\bd.b0 k bD ⟨d⟩ ((i:Int),p)=some (.next (ab ((i:Int)+1),p'))/\p'.length=602:=by
 obtain⟨h1,h2,h3⟩:=jA.1 hd.ok
 have hi:=(gS.1 hx).1
 have hw:=h3 w (A6 hx)
 obtain⟨g0,a1,a2,_⟩:=acK (k:=0) hp hw (s:=0) (by decide)
 obtain⟨g1,b1,b2,_⟩:=acK (k:=0) hp hw (s:=1) (by decide)
 have eg:g1=g0:=by rw[a1]at b1;exact(oi b1).symm
 subst eg
 have qQ:(p.set w.At.toNat (g1.set 0 (sd w.AQ 0))).length=602:=by rw[C3];exact hp
 obtain⟨g2,c1,c2,_⟩:=acK (k:=0) qQ hw (s:=1) (by decide)
 have v0:∀ g:Pg,g.at? 0=some (sd g 0):=fun g=>tM g (s:=0) (by decide)
 have v1:∀ g:Pg,g.at? 1=some (sd g 1):=fun g=>tM g (s:=1) (by decide)
 have a2':dN p w.At (g1.set 0 (sd w.AQ 0))=some (p.set w.At.toNat (g1.set 0 (sd w.AQ 0))):=a2
 have b2':dN p w.At (g1.set 1 (sd w.AQ 1))=some (p.set w.At.toNat (g1.set 1 (sd w.AQ 1))):=b2
 have c2':dN (p.set w.At.toNat (g1.set 0 (sd w.AQ 0))) w.At (g2.set 1 (sd w.AQ 1))=some ((p.set w.At.toNat (g1.set 0 (sd w.AQ 0))).set w.At.toNat (g2.set 1 (sd w.AQ 1))):=c2
 obtain⟨m,rfl⟩:∃ m,k=m+3:=⟨k - 3,by omega⟩
 have s0:lX 0=some ():=rfl
 have s1:lX 1=some ():=rfl
 have w1:ab ((0:Int)+1)=1:=aW (by omega) (by omega)
 have w2:ab ((1:Int)+1)=2:=aW (by omega) (by omega)
 by_cases hz:(0:Int)<(bD.length:Int)
 ·have pA:pO (bD.length:Int)=some ():=by unfold pO;rw[if_neg (by omega)]
  obtain⟨x,uV⟩:∃ x,at? bD (Int.tmod (i:Int) (bD.length:Int))=some x:=by
   rw[<-Int.ofNat_tmod]
   have af:i % bD.length<bD.length:=Nat.mod_lt _ (by omega)
   exact⟨_,bp (gG af)⟩
  have z6:=amd x
  have hmd:=jN (m+3) x (m:=4) (by decide) (by decide)
  have uQ:0<=x % 4:=by omega
  have mK:x % 4<4:=by omega
  generalize x % 4=y at z6 hmd uQ mK
  have hR:∀ (t0 t1:Bool) (r:List Pg),decide (dV .i64 y 1=1)=t0->decide (dV .i64 y 2=2)=t1->(bif t0 then (bif t1 then (p.set w.At.toNat (g1.set 0 (sd w.AQ 0))).set w.At.toNat (g2.set 1 (sd w.AQ 1)) else p.set w.At.toNat (g1.set 0 (sd w.AQ 0))) else (bif t1 then p.set w.At.toNat (g1.set 1 (sd w.AQ 1)) else p))=r->BJ.b0 (m+3) d bD ((i:Int),p)=some (.next (ab ((i:Int)+1),r)):=by
   intro t0 t1 r e0 e1 er
   unfold BJ.b0
   simp only[Au (show (i:Int)<((d.Af.length:Nat):Int) by omega),Am,Au hz,pA,Ae]
   rw[uV,Ae,hmd,Ae,bp hx,Ae,e0,e1]
   subst er
   cases t0<;>cases t1
   ·rfl
   ·rw[An,Am,v1,Ae,a1,Ae,v1,Ae,b2',Ae];rfl
   ·rw[Am,v0,Ae,a1,Ae,v0,Ae,a2',Ae];rfl
   ·rw[Am,v0,Ae,a1,Ae,v0,Ae,a2',Ae,Am,v1,Ae,c1,Ae,v1,Ae,c2',Ae];rfl
  have hy:y=0\/y=1\/y=2\/y=3:=by omega
  rcases hy with rfl|rfl|rfl|rfl
  ·refine⟨p,?_,?_,hp⟩
   ·exact hR false false _ (by decide +kernel) (by decide +kernel) rfl
   ·unfold bd.b0
    simp only[Au (show (i:Int)<((d.Af.length:Nat):Int) by omega),Am,bp hx,Ae,Au hz,pA,uV,ai,bd.b1,z6,s0,s1,w1,w2,(by decide:decide ((0:Int)<2)=true),(by decide:decide ((1:Int)<2)=true),(by decide:decide ((2:Int)<2)=false),An,(by decide +kernel:decide (dV .i64 (Int.fdiv 0 (2 ^ (min (Int.toNat 0) 64))) 1=1)=false),(by decide +kernel:decide (dV .i64 (Int.fdiv 0 (2 ^ (min (Int.toNat 1) 64))) 1=1)=false)]
  ·refine⟨p.set w.At.toNat (g1.set 0 (sd w.AQ 0)),?_,?_,qQ⟩
   ·exact hR true false _ (by decide +kernel) (by decide +kernel) rfl
   ·unfold bd.b0
    simp only[Au (show (i:Int)<((d.Af.length:Nat):Int) by omega),Am,bp hx,Ae,Au hz,pA,uV,ai,bd.b1,z6,s0,s1,w1,w2,(by decide:decide ((0:Int)<2)=true),(by decide:decide ((1:Int)<2)=true),(by decide:decide ((2:Int)<2)=false),An,(by decide +kernel:decide (dV .i64 (Int.fdiv 1 (2 ^ (min (Int.toNat 0) 64))) 1=1)=true),(by decide +kernel:decide (dV .i64 (Int.fdiv 1 (2 ^ (min (Int.toNat 1) 64))) 1=1)=false),v0,v1,a1,a2']
  ·refine⟨p.set w.At.toNat (g1.set 1 (sd w.AQ 1)),?_,?_,by rw[C3];exact hp⟩
   ·exact hR false true _ (by decide +kernel) (by decide +kernel) rfl
   ·unfold bd.b0
    simp only[Au (show (i:Int)<((d.Af.length:Nat):Int) by omega),Am,bp hx,Ae,Au hz,pA,uV,ai,bd.b1,z6,s0,s1,w1,w2,(by decide:decide ((0:Int)<2)=true),(by decide:decide ((1:Int)<2)=true),(by decide:decide ((2:Int)<2)=false),An,(by decide +kernel:decide (dV .i64 (Int.fdiv 2 (2 ^ (min (Int.toNat 0) 64))) 1=1)=false),(by decide +kernel:decide (dV .i64 (Int.fdiv 2 (2 ^ (min (Int.toNat 1) 64))) 1=1)=true),v0,v1,b1,b2']
  ·refine⟨(p.set w.At.toNat (g1.set 0 (sd w.AQ 0))).set w.At.toNat (g2.set 1 (sd w.AQ 1)),?_,?_,by rw[C3];exact qQ⟩
   ·exact hR true true _ (by decide +kernel) (by decide +kernel) rfl
   ·unfold bd.b0
    simp only[Au (show (i:Int)<((d.Af.length:Nat):Int) by omega),Am,bp hx,Ae,Au hz,pA,uV,ai,bd.b1,z6,s0,s1,w1,w2,(by decide:decide ((0:Int)<2)=true),(by decide:decide ((1:Int)<2)=true),(by decide:decide ((2:Int)<2)=false),An,(by decide +kernel:decide (dV .i64 (Int.fdiv 3 (2 ^ (min (Int.toNat 0) 64))) 1=1)=true),(by decide +kernel:decide (dV .i64 (Int.fdiv 3 (2 ^ (min (Int.toNat 1) 64))) 1=1)=true),v0,v1,a1,a2',c1,c2']
 ·refine⟨p,?_,?_,hp⟩
  ·unfold BJ.b0
   simp only[Au (show (i:Int)<((d.Af.length:Nat):Int) by omega),Am,bp hx,Ae,AI hz,(by decide +kernel:decide (dV .i64 0 1=1)=false),(by decide +kernel:decide (dV .i64 0 2=2)=false),An]
  ·unfold bd.b0
   simp only[Au (show (i:Int)<((d.Af.length:Nat):Int) by omega),Am,bp hx,Ae,AI hz,ai,bd.qi,s0,s1,w1,w2,(by decide:decide ((0:Int)<2)=true),(by decide:decide ((1:Int)<2)=true),(by decide:decide ((2:Int)<2)=false),An,(by decide +kernel:decide (dV .i64 (Int.fdiv 0 (2 ^ (min (Int.toNat 0) 64))) 1=1)=false),(by decide +kernel:decide (dV .i64 (Int.fdiv 0 (2 ^ (min (Int.toNat 1) 64))) 1=1)=false)]
theorem anm {k:Nat} (hk:10000000<k) {d:Ad} (hd:DB d) (bD:List Int):BJ k d bD=bd k d bD:=by
 obtain⟨h1,h2,h3⟩:=jA.1 hd.ok
 have key:∀ (n i m:Nat) (p:List Pg),i+n=d.Af.length->n<m->p.length=602->
   ai (BJ.b0 k d bD) m ((i:Int),p)=ai (bd.b0 k bD ⟨d⟩) m ((i:Int),p):=by
  intro n
  induction n with
  |zero=>
   intro i m p g1 g2 g3
   obtain⟨m,rfl⟩:∃ q,m=q+1:=⟨m - 1,by omega⟩
   have hb:bd.b0 k bD ⟨d⟩ ((i:Int),p)=some (.brk p):=by
    unfold bd.b0
    simp only[AI (show ¬ (i:Int)<((d.Af.length:Nat):Int) by omega),An]
   have hr:BJ.b0 k d bD ((i:Int),p)=some (.brk p):=by
    unfold BJ.b0
    simp only[AI (show ¬ (i:Int)<((d.Af.length:Nat):Int) by omega),An]
   simp only[ai,hb,hr]
  |succ n ih=>
   intro i m p g1 g2 g3
   obtain⟨m,rfl⟩:∃ q,m=q+1:=⟨m - 1,by omega⟩
   obtain⟨w,hw⟩:∃ w,d.Af[i]?=some w:=⟨_,gG (by omega)⟩
   obtain⟨p1,a1,a2,a3⟩:=ann hk hd bD hw g3
   have hww:ab ((i:Int)+1)=((i+1:Nat):Int):=by rw[aW (by omega) (by omega)];omega
   rw[hww]at a1 a2
   simp only[ai,a1,a2]
   exact ih (i+1) m p1 (by omega) (by omega) a3
 have h0:=key d.Af.length 0 k d.Aj (by omega) (by omega) h1
 rw[Cz]at h0
 unfold bd BJ
 rw[nY hd.ok,xu (show 1000000<k by omega),acf (show 1000000<k by omega) hd.ok,hd.ok,(afh hd.ok).1]
 simp only[Ae,AO,An,h0]
 rfl
theorem asa {k:Nat} (hk:10000000<k) {p:List Pg} (hp:p.length=602) {a u:Nat} (ha:a<=1) {l:List Hf} (cw:u+l.length<=602):∀ (f i m:Nat) (ws:List As) (pp:List Pg),l.length - i<=f->l.length - i<m->i<=l.length->ws.length+f<=100000->pp.length=602->((u+i) % 2=1->i=0)->(∀ j,301*a+(u+i) / 2<=j->pp[j]?=p[j]?)->
  ai (B9.b0 k (a:Int) (u:Int) l) m ((i:Int),ws,pp)=some (.brk (ws++eQ p a u l f i)):=by
 intro f
 induction f using Nat.strongRecOn with
 |ind f ih=>
 intro i m ws pp h1 h2 h3 h4 h5 h6 h7
 obtain⟨m,rfl⟩:∃ q,m=q+1:=⟨m - 1,by omega⟩
 by_cases hi:i<l.length
 ·obtain⟨x,hx⟩:∃ x,l[i]?=some x:=⟨_,gG hi⟩
  obtain⟨f,rfl⟩:∃ q,f=q+1:=⟨f - 1,by omega⟩
  have sS:∀ v:As,eO 72 ws v=some (ws++[v]):=fun v=>nG (by omega) (by omega)
  have one:∀ (i:Nat) (x:Hf) (pp:List Pg) (g:Pg),l[i]?=some x->i<l.length->pp.length=602->pp[301*a+(u+i) / 2]?=some g->B9.b0 k (a:Int) (u:Int) l ((i:Int),ws,pp)=some (.next (((i+1:Nat):Int),(if i+1=l.length\/(u+i) % 2=1 then ws++[⟨((301*a+(u+i) / 2:Nat):Int),g.set (((u+i) % 2:Nat):Int) x⟩] else ws),pp.set (301*a+(u+i) / 2) (g.set (((u+i) % 2:Nat):Int) x))):=by
   intro i x pp g hx hi hpp hg
   have sV:ab ((u:Int)+(i:Int))=((u+i:Nat):Int):=by rw[aW (by omega) (by omega)];omega
   have zX:ab (((u+i:Nat):Int)+1)=((u+i+1:Nat):Int):=by rw[aW (by omega) (by omega)];omega
   have gk:ab ((i:Int)+1)=((i+1:Nat):Int):=by rw[aW (by omega) (by omega)];omega
   have xj:=abo hp ha (show u+i<602 by omega)
   have anU:(301:Int)*(a:Int)=(a:Int)*301:=Int.mul_comm _ _
   have fb:ab ((l.length:Int) - 1)=((l.length - 1:Nat):Int):=by rw[aW (by omega) (by omega)];omega
   have iP:dN pp ((301*a+(u+i) / 2:Nat):Int) (g.set (((u+i) % 2:Nat):Int) x)=some (pp.set (301*a+(u+i) / 2) (g.set (((u+i) % 2:Nat):Int) x)):=by
    unfold dN
    rw[if_pos ⟨by omega,by omega⟩,BQ]
   have eA:(pp.set (301*a+(u+i) / 2) (g.set (((u+i) % 2:Nat):Int) x))[301*a+(u+i) / 2]?=some (g.set (((u+i) % 2:Nat):Int) x):=List.getElem?_set_self (by omega)
   have d1:ab (Int.tdiv ((u+i:Nat):Int) 2)=(((u+i) / 2:Nat):Int):=by
    have e:Int.tdiv ((u+i:Nat):Int) 2=(((u+i) / 2:Nat):Int):=by rw[Int.tdiv_eq_ediv_of_nonneg (by omega)];omega
    rw[e,aW (by omega) (by omega)]
   have d2:ab (Int.tdiv ((u+i+1:Nat):Int) 2)=(((u+i+1) / 2:Nat):Int):=by
    have e:Int.tdiv ((u+i+1:Nat):Int) 2=(((u+i+1) / 2:Nat):Int):=by rw[Int.tdiv_eq_ediv_of_nonneg (by omega)];omega
    rw[e,aW (by omega) (by omega)]
   rw[d1]at xj
   unfold B9.b0
   rw[anU]
   simp only[Au (show (i:Int)<(l.length:Int) by omega),Am,bp hx,Ae,sV,xj,bp hg,ri,ac2,iP,fb,zX,bp eA,sS,gk,d1,d2]
   by_cases e1:i+1=l.length
   ·rw[Au (show (i:Int)=((l.length - 1:Nat):Int) by omega),if_pos (.inl e1)]
    rfl
   ·rw[AI (show ¬ (i:Int)=((l.length - 1:Nat):Int) by omega)]
    by_cases e2:(u+i) % 2=1
    ·rw[AI (show ¬ (((u+i+1) / 2:Nat):Int)=(((u+i) / 2:Nat):Int) by omega),if_pos (.inr e2)]
     rfl
    ·rw[Au (show (((u+i+1) / 2:Nat):Int)=(((u+i) / 2:Nat):Int) by omega),if_neg (by omega)]
     rfl
  obtain⟨g,hg⟩:∃ g,p[301*a+(u+i) / 2]?=some g:=⟨_,gG (by omega)⟩
  have hgp:=(h7 _ (AY _)).trans hg
  have s1:=one i x pp g hx hi h5 hgp
  rw[eQ,hx]
  simp only[hg,Option.getD_some]
  by_cases mI:(u+i) % 2=1
  ·rw[if_pos (.inr mI),mI]at s1
   rw[if_pos mI]
   simp only[ai,s1]
   have:=ih f (by omega) (i+1) m (ws++[⟨((301*a+(u+i) / 2:Nat):Int),g.set ((1:Nat):Int) x⟩]) (pp.set (301*a+(u+i) / 2) (g.set ((1:Nat):Int) x)) (by omega) (by omega) (by omega) (by simp;omega) (by rw[C3];exact h5) (by omega) (fun j hj=>by
    rw[List.getElem?_set_ne (by omega)];exact h7 j (by omega))
   rw[this,Cy]
   rfl
  ·have aib:(u+i) % 2=0:=by omega
   rw[if_neg mI]
   by_cases e1:i+1=l.length
   ·rw[if_pos (.inl e1),aib]at s1
    have hn:l[i+1]?=none:=CF (by omega)
    rw[hn]
    simp only[ai,s1]
    obtain⟨m,rfl⟩:∃ q,m=q+1:=⟨m - 1,by omega⟩
    have hb:∀ s,B9.b0 k (a:Int) (u:Int) l (((i+1:Nat):Int),s)=some (.brk s.1):=by
     intro s
     unfold B9.b0
     simp only[AI (show ¬ ((i+1:Nat):Int)<(l.length:Int) by omega),An]
    simp only[ai,hb]
    rfl
   ·rw[if_neg (by omega),aib]at s1
    obtain⟨y,hy⟩:∃ y,l[i+1]?=some y:=⟨_,gG (by omega)⟩
    rw[hy]
    have hdv:(u+(i+1)) / 2=(u+i) / 2:=by omega
    have s2:=one (i+1) y (pp.set (301*a+(u+i) / 2) (g.set ((0:Nat):Int) x)) (g.set ((0:Nat):Int) x) hy (by omega) (by rw[C3];exact h5) (by rw[hdv,List.getElem?_set_self (by omega)])
    rw[if_pos (.inr (by omega)),show (u+(i+1)) % 2=1 by omega,hdv]at s2
    obtain⟨m,rfl⟩:∃ q,m=q+1:=⟨m - 1,by omega⟩
    simp only[ai,s1,s2]
    have:=ih f (by omega) (i+2) m (ws++[⟨((301*a+(u+i) / 2:Nat):Int),(g.set ((0:Nat):Int) x).set ((1:Nat):Int) y⟩]) ((pp.set (301*a+(u+i) / 2) (g.set ((0:Nat):Int) x)).set (301*a+(u+i) / 2) ((g.set ((0:Nat):Int) x).set ((1:Nat):Int) y)) (by omega) (by omega) (by omega) (by simp;omega) (by rw[C3,C3];exact h5) (by omega) (fun j hj=>by
     rw[List.getElem?_set_ne (by omega),List.getElem?_set_ne (by omega)];exact h7 j (by omega))
    rw[this,Cy]
    rfl
 ·have hb:B9.b0 k (a:Int) (u:Int) l ((i:Int),ws,pp)=some (.brk ws):=by
   unfold B9.b0
   simp only[AI (show ¬ (i:Int)<(l.length:Int) by omega),An]
  have hw:eQ p a u l f i=[]:=by
   cases f with
   |zero=>rfl
   |succ f=>rw[eQ,CF (by omega)]
  simp only[ai,hb,hw,List.append_nil]
theorem asb {k:Nat} (hk:10000000<k) {d:Ad} (hd:DB d) {a u:Nat} (ha:a<=1) {l:List Hf} (cw:u+l.length<=602):
  B9 k d (a:Int) (u:Int) l=some ⟨d.Aj,d.Af++eQ (au d.Aj d.Af) a u l l.length 0⟩:=by
 obtain⟨h1,h2,h3⟩:=jA.1 hd.ok
 unfold B9
 rw[(abI k hd.ok).2,(acw (show 1000000<k by omega) hd.ok).2]
 simp only[Ae]
 have:=asa hk hd.len ha cw l.length 0 k d.Af (au d.Aj d.Af) (by omega) (by omega) (by omega) (by omega) hd.len (fun _=>rfl) (fun j _=>rfl)
 rw[Cz]at this
 rw[this]
 rfl
def g6 (v:Aa 6 Int) (i:Nat):Int:=(v.l[i]?).getD 0
theorem n4 (v:Aa 6 Int) {i:Nat} (hi:i<6):v.at? (i:Int)=some (g6 v i):=by
 have h:=v.h
 unfold Aa.at? g6
 rw[if_pos (by omega),BQ,gG (by omega)];rfl
theorem aof (v:Aa 6 Int) {i:Nat} (hi:i<6) (x:Int) (j:Nat):g6 (v.set (i:Int) x) j=if j=i then x else g6 v j:=by
 have h:=v.h
 unfold g6 Aa.set
 simp only[BQ]
 by_cases e:j=i
 ·subst e;rw[if_pos rfl,List.getElem?_set_self (by omega)];rfl
 ·rw[if_neg e,List.getElem?_set_ne (Ne.symm e)]
theorem ad2 (v:Aa 6 Int) {i:Nat} (hi:6<=i):g6 v i=0:=by
 have h:=v.h
 unfold g6;rw[CF (by omega)];rfl
def kr (v:Aa 6 (Aa 6 Int)) (i:Nat):Aa 6 Int:=(v.l[i]?).getD (Aa.rep 6 0)
theorem rb (v:Aa 6 (Aa 6 Int)) {i:Nat} (hi:i<6):v.at? (i:Int)=some (kr v i):=by
 have h:=v.h
 unfold Aa.at? kr
 rw[if_pos (by omega),BQ,gG (by omega)];rfl
theorem apF (v:Aa 6 (Aa 6 Int)) {i:Nat} (hi:i<6) (x:Aa 6 Int) (j:Nat):kr (v.set (i:Int) x) j=if j=i then x else kr v j:=by
 have h:=v.h
 unfold kr Aa.set
 simp only[BQ]
 by_cases e:j=i
 ·subst e;rw[if_pos rfl,List.getElem?_set_self (by omega)];rfl
 ·rw[if_neg e,List.getElem?_set_ne (Ne.symm e)]
def kn (v:Aa 6 (Aa 6 Int)) (i x:Nat):Int:=g6 (kr v i) x
def lN:Aa 6 (Aa 6 Int):=Aa.rep 6 ((Aa.rep 6 (0:Int)):(Aa 6 Int))
theorem xy (i x:Nat):kn lN i x=0:=by
 have hk:∀ i,kr lN i=Aa.rep 6 0:=fun i=>by
  unfold kr lN Aa.rep
  simp only[Ed]
  split<;>rfl
 unfold kn
 rw[hk]
 unfold g6 Aa.rep
 simp only[Ed]
 split<;>rfl
theorem abF (l:List Ab) {x:Nat} (hx:x<6):g6 (fx l) x=((ao ag l (x:Int):Nat):Int):=by
 have:x=0\/x=1\/x=2\/x=3\/x=4\/x=5:=by omega
 rcases this with rfl|rfl|rfl|rfl|rfl|rfl<;>rfl
structure HI (h:Ac) (i:Nat) (log:List Ab) (aK:Nat):Prop where
 me:h.Me=(i:Int)
 i2:i<=2
 jr:∃ a e0 c ep,Jr h.Ad h.Ai log aK a e0 c ep
 kb:∀ j x,0<=kn h.Ap j x/\kn h.Ap j x<=60
section
variable {h:Ac}{i:Nat}{log:List Ab}{aK:Nat}{k:Nat}
theorem HI.cF (H:HI h i log aK):CM log:=by obtain⟨a,e0,c,ep,J⟩:=H.jr;exact J.cF
theorem HI.book (H:HI h i log aK):h.Ai.Ak=⟨bk ag [] log⟩:=by obtain⟨a,e0,c,ep,J⟩:=H.jr;exact J.book
theorem HI.jU (H:HI h i log aK):aK<=log.length:=by obtain⟨a,e0,c,ep,J⟩:=H.jr;exact J.jU
theorem aab (n:Int) (h:0<=n/\n<=5):mn k n=some true:=by
 unfold mn
 rw[nB,ya h];rfl
theorem ajY {v:Aa 6 Int}{R:Type}{body:Int->Option (AN Int Unit R)}{c:R} (hk:1000000<k) (hv:∀ x,0<=g6 v x/\g6 v x<=60)
  (h1:∀ x:Nat,x<6->body (x:Int)=(v.at? (x:Int)).bind fun y=>(ja k y 0 60).bind fun z=>bif (!z) then some (.ret c) else some (.next (ab ((x:Int)+1)))) (h2:body 6=some (.brk ())):ai body k 0=some (.brk ()):=by
 have:=vA (n:=6) (body:=body) (p:=fun _=>true) (c:=c) (by omega) (k:=k) (by omega) (fun x hx=>by
  rw[h1 x hx,n4 v hx]
  simp only[Ae,nB,ya (hv x),AO,An,Am]) h2
 rw[this]
 rfl
theorem HI.check (H:HI h i log aK) (hk:1000000<k):cC k h=some 0:=by
 obtain⟨a,e0,c,ep,J⟩:=H.jr
 have hm:=H.me
 have hi:=H.i2
 unfold cC
 rw[aab h.Me (by omega)]
 simp only[Ae,Am]
 rw[yI hk J.db J.pJ]
 simp only[Ae,Bf,AO,An]
 have:=vA (n:=6) (body:=cC.b0 k h) (p:=fun _=>true) (c:=(96:Int)) (by omega) (k:=k) (by omega) (fun x hx=>by
  unfold cC.b0
  simp only[Au (show (x:Int)<6 by omega),Am,rb h.Ap hx,Ae]
  rw[ajY (v:=kr h.Ap x) (c:=(96:Int)) hk (fun y=>H.kb x y) (fun y hy=>by
   unfold cC.b1
   simp only[Au (show (y:Int)<6 by omega),Am]) (by
   unfold cC.b1;rfl)]
  rfl) (by unfold cC.b0;rfl)
 rw[this]
 rfl
theorem HI.adp (H:HI h i log aK):h.Ai.Ak.Ah.length<=50/\(∀ r∈h.Ai.Ak.Ah,iC r)/\∀ x:Int,ao ag h.Ai.Ak.Ah x=ao ag log x:=by
 have hb:=H.cF.bi
 have n6:=H.cF.len
 rw[H.book]
 exact⟨by simp only[hb.len];exact n6,fun r hr=>kT (H.cF.ok r ((hb.mem r).1 hr)),hb.num⟩
theorem agK {a b:List Ab} (h:∀ x:Int,ao ag a x=ao ag b x):fx a=fx b:=by unfold fx;simp only[h]
theorem HI.abZ (H:HI h i log aK) (hk:1000000<k):fh k h.Ai.Ak=some (fx log):=by
 obtain⟨b1,b2,b3⟩:=H.adp
 rw[aed hk (by omega) b2,agK b3]
theorem HI.agR (H:HI h i log aK):nb k h.Ai=some h.Ai:=by
 obtain⟨b1,b2,b3⟩:=H.adp
 unfold nb
 rw[wc (by omega)]
 rfl
theorem HI.sync (H:HI h i log aK) (hk:1000000<k):∃ d,qm k h=some ⟨h.Me,d,h.Ai,h.Ap⟩/\HI ⟨h.Me,d,h.Ai,h.Ap⟩ i log log.length:=by
 obtain⟨a,e0,c,ep,J⟩:=H.jr
 refine⟨⟨au h.Ad.Aj h.Ad.Af,[]⟩,?_,H.me,H.i2,⟨a,e0,c,ep,J.sync⟩,H.kb⟩
 unfold qm
 rw[aj7 hk J.db.ok,H.agR]
 rfl
theorem ap2 {i:Nat} (hi:i<=2):∃ h,rY k (i:Int)=some (h,0)/\HI h i [] 0/\h.Ap=lN/\h.Ai.Aq=1:=by
 refine⟨(⟨(i:Int),⟨j6,[]⟩,⟨⟨[]⟩,0,1,1⟩,lN⟩:Ac),?_,?_,rfl,rfl⟩
 ·unfold rY
  rw[aab (i:Int) (by omega)]
  simp only[Ae,AO,An,aiZ]
  rfl
 ·exact⟨rfl,hi,⟨_,_,_,_,Jr.new⟩,fun j x=>by show 0<=kn lN j x/\kn lN j x<=60;rw[xy];omega⟩
theorem HI.note (H:HI h i log aK) (hk:1000000<k) (hlen:log.length+1<=50) (r:Ab) (hr:bC ⟨⟨(i:Int),((ao ag log (i:Int):Nat):Int)⟩,r.Kind,r.Day,r.Ap,r.Of,r.Text⟩=true):
  ∃ h',oU k h r=some (h',⟨⟨(i:Int),((ao ag log (i:Int):Nat):Int)⟩,r.Kind,r.Day,r.Ap,r.Of,r.Text⟩,0)/\h'.Ai.Aq=h.Ai.Aq/\h'.Ap=h.Ap/\
   HI h' i (log++[⟨⟨(i:Int),((ao ag log (i:Int):Nat):Int)⟩,r.Kind,r.Day,r.Ap,r.Of,r.Text⟩]) aK:=by
 obtain⟨a,e0,c,ep,J⟩:=H.jr
 have hi:=H.i2
 obtain⟨d',l',h1,h2,h3⟩:=J.append hr (by rfl) hlen hk
 refine⟨⟨h.Me,d',l',h.Ap⟩,?_,h2,rfl,H.me,H.i2,⟨_,_,_,_,h3⟩,H.kb⟩
 unfold oU
 rw[H.check hk]
 simp only[Ae,Bf,AO,An,H.abZ hk,H.me,mw log (show 0<=(i:Int) by omega) (by omega),h1]
theorem HI.aaz (H:HI h i log aK) (hk:1000000<k) (hE:h.Ai.Aq<1000000) (bD:List Int) (hp:bD.length<=4611686018427387904):
  ∃ h' m,aK<=m/\m<=log.length/\nT k h bD=some (h',0)/\h'.Ai.Aq<=h.Ai.Aq+1/\h'.Ap=lN/\HI h' i (log.take m) m:=by
 obtain⟨a,e0,c,ep,J⟩:=H.jr
 obtain⟨p',c1,c2,c3⟩:=agV hk J.db bD hp J.waits
 obtain⟨m,l',m1,m2,m3,m4,m5⟩:=J.fail hE c2 c3 hk
 refine⟨⟨h.Me,⟨p',[]⟩,l',lN⟩,m,m1,m2,?_,m4,rfl,H.me,H.i2,⟨_,_,_,_,m5⟩,fun j x=>by show 0<=kn lN j x/\kn lN j x<=60;rw[xy];omega⟩
 unfold nT
 rw[H.check hk]
 simp only[Ae,Bf,AO,An,c1,m3]
 rfl
end
def lO (b:List Ab) (K:Aa 6 Int):List Ab:=(b.filter fun r=>decide (g6 K r.At.Ac.toNat<=r.At.No)).take 8
theorem ai3 {k:Nat} (hk:1000000<k) {h:Ac}{to:Nat} (ht:to<6) {b:List Ab} (hb:h.Ai.Ak.Ah=b) (hl:b.length<=100) (hh:∀ r∈b,iC r):ai (eF.b0 k h (to:Int)) k (0,[])=some (.brk (lO b (kr h.Ap to))):=by
 have hf:=qa (l:=b) (body:=eF.b0 k h (to:Int)) (fun i s=>(i,s)) (fun s r=>if decide (g6 (kr h.Ap to) r.At.Ac.toNat<=r.At.No)=true/\s.length<8 then s++[r] else s) (fun i s=>s=((b.take i).filter fun r=>decide (g6 (kr h.Ap to) r.At.Ac.toNat<=r.At.No)).take 8) (by omega) (k:=k) (by omega) (s0:=[]) (by simp) (fun i r s hx hs=>by
  have hi:=(gS.1 hx).1
  have fK:=hh r (A6 hx)
  obtain⟨x,z7⟩:=Int.eq_ofNat_of_zero_le fK.1
  have hx6:x<6:=by have:=fK.2;omega
  have eK:s.length<=8:=by rw[hs,A8];omega
  have iI:(kr h.Ap to).at? r.At.Ac=some (g6 (kr h.Ap to) r.At.Ac.toNat):=by
   rw[z7,n4 _ hx6];rfl
  refine⟨?_,?_⟩
  ·unfold eF.b0
   rw[hb]
   simp only[Au (show (i:Int)<(b.length:Int) by omega),Am,bp hx,rb h.Ap ht,iI,Ae]
   by_cases c1:g6 (kr h.Ap to) r.At.Ac.toNat<=r.At.No
   ·by_cases c2:s.length<8
    ·simp only[Au c1,Au (show ((s.length:Nat):Int)<8 by omega),Am,nG (show (s.length+1)*72<=140737488355328 by omega) (show s.length+1<4611686018427387904 by omega),Ae,if_pos (show True/\s.length<8 from ⟨trivial,c2⟩),true_and,c2,if_true]
    ·simp only[Au c1,AI (show ¬ ((s.length:Nat):Int)<8 by omega),Am,An,true_and,c2,if_false]
   ·simp[AI c1]
  ·rw[take_at hx,List.filter_append]
   by_cases c1:g6 (kr h.Ap to) r.At.Ac.toNat<=r.At.No
   ·have e:[r].filter (fun r=>decide (g6 (kr h.Ap to) r.At.Ac.toNat<=r.At.No))=[r]:=by simp[c1]
    rw[e,List.take_append]
    by_cases c2:s.length<8
    ·rw[if_pos ⟨Au c1,c2⟩]
     rw[hs,A8]at c2
     rw[<-hs]
     have:8 - ((b.take i).filter fun r=>decide (g6 (kr h.Ap to) r.At.Ac.toNat<=r.At.No)).length=8 - 1 - ((b.take i).filter fun r=>decide (g6 (kr h.Ap to) r.At.Ac.toNat<=r.At.No)).length+1:=by omega
     rw[this,List.take_succ_cons,List.take_nil]
    ·rw[if_neg (fun c=>c2 c.2)]
     rw[hs,A8]at c2
     rw[show 8 - ((b.take i).filter fun r=>decide (g6 (kr h.Ap to) r.At.Ac.toNat<=r.At.No)).length=0 by omega,List.take_zero,List.append_nil,hs]
   ·have e:[r].filter (fun r=>decide (g6 (kr h.Ap to) r.At.Ac.toNat<=r.At.No))=[]:=by simp[c1]
    rw[e,List.append_nil,if_neg (fun c=>c1 (of_decide_eq_true c.1)),hs]) (fun s hs=>by
  unfold eF.b0
  rw[hb]
  simp only[(by simp:decide ((b.length:Int)<(b.length:Int))=false),An])
 have h2:=hf.2
 rw[BA]at h2
 rw[hf.1,h2]
 rfl
theorem HI.offer {h:Ac}{i:Nat}{log:List Ab}{aK k:Nat} (H:HI h i log aK) (hk:1000000<k) {to:Nat} (ht:to<=2) (ba:to≠i):
  ∃ d,eF k h (to:Int)=some (⟨h.Me,d,h.Ai,h.Ap⟩,⟨(i:Int),(to:Int),fx log,lO (bk ag [] log) (kr h.Ap to)⟩,0)/\HI ⟨h.Me,d,h.Ai,h.Ap⟩ i log log.length:=by
 obtain⟨d,s1,s2⟩:=H.sync hk
 obtain⟨b1,b2,b3⟩:=H.adp
 refine⟨d,?_,s2⟩
 have dQ:h.Ai.Ak.Ah=bk ag [] log:=by rw[H.book]
 have iM:=ai3 hk (h:=h) (to:=to) (by omega) dQ (by rw[<-dQ];omega) (by rw[<-dQ];exact b2)
 have hme:=H.me
 unfold eF
 rw[H.check hk]
 simp only[Ae,Bf,AO,An,aab (to:Int) (show 0<=(to:Int)/\(to:Int)<=5 by omega),Am]
 rw[AI (show ¬ (to:Int)=h.Me by omega)]
 simp only[An,H.abZ hk,Ae,iM,s1]
 rw[H.me]
structure SI (s:Av) (f t:Nat):Prop where
 from_:s.Bs=(f:Int)
 to_:s.To=(t:Int)
 f2:f<=2
 t2:t<=2
 ne:f≠t
 hv:∀ x,0<=g6 s.Have x/\g6 s.Have x<=60
 len:s.Ah.length<=8
 ok:∀ r∈s.Ah,bC r=true
theorem SI.check {s:Av}{f t k:Nat} (S:SI s f t) (hk:1000000<k):fV k s=some true:=by
 have h1:=S.f2
 have h2:=S.t2
 have h3:=S.from_
 have h4:=S.to_
 have h5:=S.ne
 have h6:=S.len
 unfold fV
 rw[aab s.Bs (by omega),aab s.To (by omega)]
 simp only[Ae,Am,AI (show ¬ s.Bs=s.To by omega),Bn,AI (show ¬ (8:Int)<(s.Ah.length:Int) by omega),An]
 rw[ajY (v:=s.Have) (c:=false) hk S.hv (fun y hy=>by
  unfold fV.b0
  simp only[Au (show (y:Int)<6 by omega),Am]) (by unfold fV.b0;rfl)]
 simp only[Ae]
 have hI:vq k s.Ah (fun q0=>oX k q0)=some false:=by
  unfold vq gn
  have:=xZ (l:=s.Ah) (body:=gn.b0 k (fun q0=>oX k q0) s.Ah) (p:=fun _=>true) (c:=(0:Int)) (by omega) (k:=k) (by omega) (fun i x hx=>by
   have hi:=(gS.1 hx).1
   unfold gn.b0 oX
   simp only[Au (show (i:Int)<(s.Ah.length:Int) by omega),Am,bp hx,Ae,acg (show 1000<k by omega),S.ok x (A6 hx),AO,An]) (by
   unfold gn.b0
   simp only[(by simp:decide ((s.Ah.length:Int)<(s.Ah.length:Int))=false),An])
  rw[this]
  have ha:s.Ah.all (fun _=>true)=true:=by simp
  rw[ha]
  rfl
 rw[hI]
 rfl
def mV (log:List Ab) (r:Ab):List Ab:=if ((ao ag log r.At.Ac:Nat):Int)<r.At.No then log else if r∈log then log else log++[r]
theorem ajm (log:List Ab) (r:Ab):(mV log r).length<=log.length+1:=by
 unfold mV
 split
 ·omega
 ·split
  ·omega
  ·simp
theorem aqT (log:List Ab) (r:Ab):∀ x∈log,x∈mV log r:=fun x hx=>by
 unfold mV
 split
 ·exact hx
 ·split
  ·exact hx
  ·simp[hx]
theorem ae9 (log:List Ab) (r:Ab):∀ x∈mV log r,x∈log\/x=r:=fun x hx=>by
 unfold mV at hx
 split at hx
 ·exact .inl hx
 ·split at hx
  ·exact .inl hx
  ·simpa using hx
def fE (log:List Ab) (rs:List Ab):List Ab:=rs.foldl mV log
theorem afb:∀ (rs log:List Ab),∀ x∈log,x∈fE log rs
 |[],log,x,hx=>hx
 |r::rs,log,x,hx=>afb rs (mV log r) x (aqT log r x hx)
theorem afa:∀ (rs log:List Ab),∀ x∈fE log rs,x∈log\/x∈rs
 |[],log,x,hx=>.inl hx
 |r::rs,log,x,hx=>by
  rcases afa rs (mV log r) x hx with h|h
  ·rcases ae9 log r x h with g|g
   ·exact .inl g
   ·exact .inr (by simp[g])
  ·exact .inr (by simp[h])
theorem ajn:∀ (rs log:List Ab),(fE log rs).length<=log.length+rs.length
 |[],log=>by simp[fE]
 |r::rs,log=>by
  have h1:=ajn rs (mV log r)
  have h2:=ajm log r
  simp only[AA]
  unfold fE at *
  rw[List.foldl_cons]
  omega
section
variable {i aK k:Nat}
theorem HI.step {h:Ac}{log:List Ab} (H:HI h i log aK) (hk:1000000<k) {s:Av}{r:Ab}{j:Nat} (hx:s.Ah[j]?=some r) (hj:j<1000) (hr:bC r=true) (hT:∀ y∈log,ag y=ag r->y=r) (hlen:log.length+1<=50):
  ∃ h',bA.b0 k s (h,(j:Int))=some (.next (h',((j+1:Nat):Int)))/\HI h' i (mV log r) aK/\h'.Ap=h.Ap/\h'.Ai.Aq=h.Ai.Aq:=by
 have hi:=(gS.1 hx).1
 have fK:=kT hr
 have hw:ab ((j:Int)+1)=((j+1:Nat):Int):=by rw[aW (by omega) (by omega)];omega
 have ba:h=⟨h.Me,h.Ad,h.Ai,h.Ap⟩:=rfl
 unfold bA.b0
 simp only[Au (show (j:Int)<(s.Ah.length:Int) by omega),Am,bp hx,Ae,H.abZ hk,mw log fK.1 fK.2,hw]
 unfold mV
 by_cases c1:((ao ag log r.At.Ac:Nat):Int)<r.At.No
 ·simp only[Au c1,Am,if_pos c1]
  exact⟨h,rfl,H,rfl,rfl⟩
 ·simp only[AI c1,An,if_neg c1]
  obtain⟨a,e0,c,ep,J⟩:=H.jr
  by_cases c2:r∈log
  ·rw[if_pos c2,J.same c2 hk]
   simp only[Ae,Bf,AO,An]
   exact⟨h,rfl,H,rfl,rfl⟩
  ·rw[if_neg c2]
   have bw:(ag r).2=ao ag log (ag r).1:=by
    show r.At.No=((ao ag log r.At.Ac:Nat):Int)
    have h0:=(acz hr).2.1.1
    by_cases c3:r.At.No<((ao ag log r.At.Ac:Nat):Int)
    ·obtain⟨y,hy,hky⟩:=Ep ag J.cF.vl r.At.Ac r.At.No h0 (by omega)
     exact absurd (hT y hy hky▸hy) c2
    ·omega
   obtain⟨d',l',h1,h2,h3⟩:=J.append hr bw hlen hk
   rw[h1]
   simp only[Ae,Bf,AO,An]
   exact⟨_,rfl,⟨H.me,H.i2,⟨_,_,_,_,h3⟩,H.kb⟩,rfl,h2⟩
theorem HI.loop (hk:1000000<k) {s:Av} (hs:s.Ah.length<=8) (mJ:∀ r∈s.Ah,bC r=true):∀ (n j m:Nat) (h:Ac) (log:List Ab),j+n=s.Ah.length->n<m->HI h i log aK->
  (∀ x y,(x∈log\/x∈s.Ah)->(y∈log\/y∈s.Ah)->ag x=ag y->x=y)->log.length+n<=50->
  ∃ h',ai (bA.b0 k s) m (h,(j:Int))=some (.brk h')/\HI h' i (fE log (s.Ah.drop j)) aK/\h'.Ap=h.Ap/\h'.Ai.Aq=h.Ai.Aq
 |0,j,m,h,log,h1,h2,H,hT,hl=>by
  obtain⟨m,rfl⟩:∃ q,m=q+1:=⟨m - 1,by omega⟩
  have hb:bA.b0 k s (h,(j:Int))=some (.brk h):=by
   unfold bA.b0
   simp only[AI (show ¬ (j:Int)<(s.Ah.length:Int) by omega),An]
  rw[Dr (by omega)]
  exact⟨h,by simp only[ai,hb],H,rfl,rfl⟩
 |n+1,j,m,h,log,h1,h2,H,hT,hl=>by
  obtain⟨m,rfl⟩:∃ q,m=q+1:=⟨m - 1,by omega⟩
  obtain⟨r,hr⟩:∃ r,s.Ah[j]?=some r:=⟨_,gG (by omega)⟩
  have qS:=A6 hr
  obtain⟨h',g1,g2,g3,g4⟩:=H.step hk hr (by omega) (mJ r qS) (fun y hy e=>hT y r (.inl hy) (.inr qS) e) (by omega)
  have xo:=ajm log r
  obtain⟨h'',k1,k2,k3,k4⟩:=HI.loop hk hs mJ n (j+1) m h' (mV log r) (by omega) (by omega) g2 (fun x y hx hy e=>hT x y (by
   rcases hx with hx|hx
   ·rcases ae9 log r x hx with q|q
    ·exact .inl q
    ·exact .inr (q▸qS)
   ·exact .inr hx) (by
   rcases hy with hy|hy
   ·rcases ae9 log r y hy with q|q
    ·exact .inl q
    ·exact .inr (q▸qS)
   ·exact .inr hy) e) (by omega)
  have sN:s.Ah.drop j=r::s.Ah.drop (j+1):=by
   obtain⟨q1,q2⟩:=gS.1 hr
   rw[List.drop_eq_getElem_cons q1,q2]
  rw[sN]
  exact⟨h'',by simp only[ai,g1,k1],k2,k3.trans g3,k4.trans g4⟩
theorem apE {h:Ac}{s:Av}{f:Nat} (hf:s.Bs=(f:Int)) (hf2:f<=2) (hk:1000000<k):
  ∃ K,ai (bA.b1 k s) k (h,0)=some (.brk ⟨h.Me,h.Ad,h.Ai,K⟩)/\∀ j x,kn K j x=if j=f/\x<6 then max (kn h.Ap j x) (g6 s.Have x) else kn h.Ap j x:=by
 have key:∀ (n x m:Nat) (K:Aa 6 (Aa 6 Int)),x+n=6->n<m->(∀ j y,kn K j y=if j=f/\y<x then max (kn h.Ap j y) (g6 s.Have y) else kn h.Ap j y)->
   ∃ K',ai (bA.b1 k s) m ((⟨h.Me,h.Ad,h.Ai,K⟩:Ac),(x:Int))=some (.brk ⟨h.Me,h.Ad,h.Ai,K'⟩)/\∀ j y,kn K' j y=if j=f/\y<6 then max (kn h.Ap j y) (g6 s.Have y) else kn h.Ap j y:=by
  intro n
  induction n with
  |zero=>
   intro x m K g1 g2 hK
   obtain⟨m,rfl⟩:∃ q,m=q+1:=⟨m - 1,by omega⟩
   have:x=6:=by omega
   subst this
   exact⟨K,rfl,hK⟩
  |succ n ih=>
   intro x m K g1 g2 hK
   obtain⟨m,rfl⟩:∃ q,m=q+1:=⟨m - 1,by omega⟩
   have hx:x<6:=by omega
   have hw:ab ((x:Int)+1)=((x+1:Nat):Int):=by rw[aW (by omega) (by omega)];omega
   have hb:bA.b1 k s ((⟨h.Me,h.Ad,h.Ai,K⟩:Ac),(x:Int))=some (.next ((⟨h.Me,h.Ad,h.Ai,K.set (f:Int) ((kr K f).set (x:Int) (max (g6 (kr K f) x) (g6 s.Have x)))⟩:Ac),((x+1:Nat):Int))):=by
    unfold bA.b1
    simp only[Au (show (x:Int)<6 by omega),Am,n4 s.Have hx,Ae,hf,rb K (show f<6 by omega),n4 (kr K f) hx,hw]
   obtain⟨K',q1,q2⟩:=ih (x+1) m (K.set (f:Int) ((kr K f).set (x:Int) (max (g6 (kr K f) x) (g6 s.Have x)))) (by omega) (by omega) (fun j y=>by
    have iP:kn (K.set (f:Int) ((kr K f).set (x:Int) (max (g6 (kr K f) x) (g6 s.Have x)))) j y=if j=f then (if y=x then max (g6 (kr K f) x) (g6 s.Have x) else g6 (kr K f) y) else kn K j y:=by
     unfold kn
     rw[apF K (show f<6 by omega)]
     by_cases e:j=f
     ·rw[if_pos e,if_pos e,aof _ hx]
     ·rw[if_neg e,if_neg e]
    rw[iP]
    by_cases e:j=f
    ·subst e
     rw[if_pos rfl]
     have hK1:=hK j y
     have hK2:=hK j x
     unfold kn at hK1 hK2 ⊢
     by_cases e2:y=x
     ·subst e2
      rw[if_pos rfl,if_pos ⟨rfl,by omega⟩,hK1,if_neg (by omega)]
     ·rw[if_neg e2,hK1]
      by_cases e3:y<x
      ·rw[if_pos ⟨rfl,e3⟩,if_pos ⟨rfl,by omega⟩]
      ·rw[if_neg (by omega),if_neg (by omega)]
    ·rw[if_neg e,hK,if_neg (fun c=>e c.1),if_neg (fun c=>e c.1)])
   exact⟨K',by simp only[ai,hb];exact q1,q2⟩
 have:=key 6 0 k h.Ap (by omega) (by omega) (fun j y=>by rw[if_neg (by omega)])
 exact this
theorem HI.aax {h:Ac}{log:List Ab} (H:HI h i log aK) (hk:1000000<k) {s:Av}{f:Nat} (S:SI s f i) (hT:∀ x y,(x∈log\/x∈s.Ah)->(y∈log\/y∈s.Ah)->ag x=ag y->x=y) (hl:log.length+8<=50):
  ∃ h',bA k h s=some (h',(if s.Ah=[] then [] else [⟨(i:Int),(f:Int),fx (fE log s.Ah),[]⟩]),0)/\HI h' i (fE log s.Ah) (fE log s.Ah).length/\h'.Ai.Aq=h.Ai.Aq/\
   ∀ j x,kn h'.Ap j x=if j=f/\x<6 then max (kn h.Ap j x) (g6 s.Have x) else kn h.Ap j x:=by
 have eK:=S.len
 obtain⟨a,e0,c,ep,J⟩:=H.jr
 obtain⟨h1,q1,q2,q3,q4⟩:=HI.loop hk eK S.ok s.Ah.length 0 k h log (by omega) (by omega) H hT (by omega)
 rw[List.drop_zero]at q2
 obtain⟨d,s1,s2⟩:=q2.sync hk
 obtain⟨K,k1,k2⟩:=apE (h:=⟨h1.Me,d,h1.Ai,h1.Ap⟩) S.from_ S.f2 hk
 have H2:HI ⟨h1.Me,d,h1.Ai,K⟩ i (fE log s.Ah) (fE log s.Ah).length:=⟨s2.me,s2.i2,s2.jr,fun j x=>by
  rw[k2 j x]
  have h3:=s2.kb j x
  have h4:=S.hv x
  split<;>simp only at h3 ⊢<;>omega⟩
 refine⟨⟨h1.Me,d,h1.Ai,K⟩,?_,H2,q4,fun j x=>by rw[k2 j x];simp only[q3]⟩
 unfold bA
 rw[H.check hk]
 simp only[Ae,Bf,AO,An,S.check hk,Am,S.to_,H.me]
 rw[nY J.db.ok]
 simp only[Ae,H.agR]
 rw[Cz]at q1
 have q1':ai (bA.b0 k s) k ((⟨(i:Int),h.Ad,h.Ai,h.Ap⟩:Ac),0)=some (.brk h1):=by
  rw[<-H.me];exact q1
 rw[q1']
 simp only[Ae,s1,k1]
 by_cases he:s.Ah=[]
 ·rw[if_pos he]
  have:decide ((s.Ah.length:Int)=0)=true:=by rw[he];rfl
  simp only[this,Am]
 ·rw[if_neg he]
  have:decide ((s.Ah.length:Int)=0)=false:=by
   apply AI
   intro c
   exact he (List.length_eq_zero_iff.1 (by omega))
  simp only[this,An,H2.abZ hk,Ae,H2.me,S.from_]
  have hme:=H2.me
  simp only at hme
  rw[hme]
end
def hZ:Ac:=⟨0,⟨[],[]⟩,⟨⟨[]⟩,0,0,0⟩,lN⟩
def h3 (v:Aa 3 Ac) (i:Nat):Ac:=(v.l[i]?).getD hZ
theorem abW (v:Aa 3 Ac) {i:Nat} (hi:i<=2):v.at? (i:Int)=some (h3 v i):=by
 have h:=v.h
 unfold Aa.at? h3
 rw[if_pos (by omega),BQ,gG (by omega)];rfl
theorem uB (v:Aa 3 Ac) {i:Nat} (hi:i<=2) (x:Ac) (j:Nat):h3 (v.set (i:Int) x) j=if j=i then x else h3 v j:=by
 have h:=v.h
 unfold h3 Aa.set
 simp only[BQ]
 by_cases e:j=i
 ·subst e;rw[if_pos rfl,List.getElem?_set_self (by omega)];rfl
 ·rw[if_neg e,List.getElem?_set_ne (Ne.symm e)]
theorem su {a b:List Ab} (ha:VL ag (fun _=>0) a) (hb:VL ag (fun _=>0) b) (x:Int) (h:∀ r∈a,r.At.Ac=x->r∈b):ao ag a x<=ao ag b x:=by
 by_cases h0:ao ag a x=0
 ·omega
 ·obtain⟨r,hr,hk⟩:=Ep ag ha x ((ao ag a x:Int) - 1) (by omega) (by omega)
  have h1:r.At.Ac=x:=congrArg Prod.fst hk
  have h2:r.At.No=(ao ag a x:Int) - 1:=congrArg Prod.snd hk
  have:=F6 ag hb r (h r hr h1)
  have h3:r.At.No<0+((ao ag b r.At.Ac:Nat):Int):=this.2
  rw[h1]at h3
  omega
def in3 (r:Ab):Prop:=∃ x:Nat,x<=2/\r.At.Ac=(x:Int)
theorem aiF:∀ {l:List Ab},(∀ r∈l,in3 r)->l.length=ao ag l 0+ao ag l 1+ao ag l 2
 |[],_=>rfl
 |r::l,h=>by
  have ih:=aiF (l:=l) (fun x hx=>h x (by simp[hx]))
  obtain⟨x,hx,e⟩:=h r (by simp)
  have e':(ag r).1=(x:Int):=e
  rw[AA,lu,lu,lu,e']
  have:x=0\/x=1\/x=2:=by omega
  rcases this with rfl|rfl|rfl<;>simp<;>omega
structure W (hs:Nat->Ac) (sl:List Av) (L:Nat->List Ab) (F:Nat->Nat) (t:Nat):Prop where
 hi:∀ i,i<=2->HI (hs i) i (L i) (F i)
 ep:∀ i,i<=2->(hs i).Ai.Aq<=1+t
 own:ao ag (L 0) 0+ao ag (L 1) 1+ao ag (L 2) 2<=t
 pB:∀ i,i<=2->∀ r∈L i,in3 r
 ru:∀ i j,i<=2->j<=2->j≠i->∀ r∈L j,r.At.Ac=(i:Int)->r∈(L i).take (F i)
 xz:∀ k i x,k<=2->i<=2->x<6->kn (hs k).Ap i x<=((ao ag ((L i).take (F i)) (x:Int):Nat):Int)
 slp:∀ s∈sl,∃ f u,SI s f u/\(∀ r∈s.Ah,∃ x:Nat,x<=2/\r.At.Ac=(x:Int)/\r∈(L x).take (F x))/\∀ x,x<6->g6 s.Have x<=((ao ag ((L f).take (F f)) (x:Int):Nat):Int)
def up {α:Type} (f:Nat->α) (i:Nat) (x:α):Nat->α:=fun j=>if j=i then x else f j
theorem gI {α:Type} (f:Nat->α) (i:Nat) (x:α):up f i x i=x:=if_pos rfl
theorem iq {α:Type} (f:Nat->α) {i j:Nat} (x:α) (h:j≠i):up f i x j=f j:=if_neg h
section
variable {hs:Nat->Ac}{sl:List Av}{L:Nat->List Ab}{F:Nat->Nat}{t:Nat}
theorem W.vl (w:W hs sl L F t) {i:Nat} (hi:i<=2):VL ag (fun _=>0) (L i):=(w.hi i hi).cF.vl
theorem W.aaa (w:W hs sl L F t) {i x:Nat} (hi:i<=2) (hx:x<=2) {r:Ab} (hr:r∈L i) (e:r.At.Ac=(x:Int)):r∈L x:=by
 by_cases h:i=x
 ·exact h▸hr
 ·exact BD (w.ru x i hx hi h r hr e)
theorem W.one (w:W hs sl L F t) {i j:Nat} (hi:i<=2) (hj:j<=2) {x y:Ab} (hx:x∈L i) (hy:y∈L j) (e:ag x=ag y):x=y:=by
 obtain⟨h,h2,eh⟩:=w.pB i hi x hx
 have ey:y.At.Ac=(h:Int):=by
  have:x.At.Ac=y.At.Ac:=congrArg Prod.fst e
  rw[<-this];exact eh
 exact Kp ag (w.vl h2) (w.aaa hi h2 hx eh) (w.aaa hj h2 hy ey) e
theorem W.len (w:W hs sl L F t) {i:Nat} (hi:i<=2):(L i).length<=t:=by
 have h:=aiF (w.pB i hi)
 have h0:=su (w.vl hi) (w.vl (i:=0) (by decide)) 0 (fun r hr e=>w.aaa hi (by decide) hr e)
 have h1:=su (w.vl hi) (w.vl (i:=1) (by decide)) 1 (fun r hr e=>w.aaa hi (by decide) hr e)
 have h2:=su (w.vl hi) (w.vl (i:=2) (by decide)) 2 (fun r hr e=>w.aaa hi (by decide) hr e)
 have:=w.own
 omega
theorem W.upd (w:W hs sl L F t) {i:Nat} (iK:i<=2) {h':Ac}{L':List Ab}{F' t':Nat} (H:HI h' i L' F') (ht:t<=t')
  (ha:∀ r∈(L i).take (F i),r∈L'.take F') (hb:∀ r∈L',∀ x:Nat,x<=2->x≠i->r.At.Ac=(x:Int)->r∈(L x).take (F x)) (hc:∀ r∈L',in3 r)
  (hd:∀ j x,j<=2->x<6->kn h'.Ap j x<=if j=i then ((ao ag (L'.take F') (x:Int):Nat):Int) else ((ao ag ((L j).take (F j)) (x:Int):Nat):Int))
  (he:ao ag L' (i:Int)+t<=ao ag (L i) (i:Int)+t') (hf:h'.Ai.Aq<=1+t'):W (up hs i h') sl (up L i L') (up F i F') t':=by
 have pv:∀ j x,j<=2->((ao ag ((L j).take (F j)) x:Nat):Int)<=((ao ag ((up L i L' j).take (up F i F' j)) x:Nat):Int):=fun j x hj=>by
  by_cases e:j=i
  ·subst e
   rw[gI,gI]
   have:=su (Er ag (w.vl hj) (F j)) (Er ag H.cF.vl F') x (fun r hr _=>ha r hr)
   omega
  ·rw[iq _ _ e,iq _ _ e];exact Df _
 have bT:∀ (j:Nat) r,j<=2->r∈(L j).take (F j)->r∈(up L i L' j).take (up F i F' j):=fun j r hj hr=>by
  by_cases e:j=i
  ·subst e;rw[gI,gI];exact ha r hr
  ·rw[iq _ _ e,iq _ _ e];exact hr
 refine⟨fun j hj=>?_,fun j hj=>?_,?_,fun j hj r hr=>?_,fun x j hx hj ba r hr e=>?_,fun k j x hk hj hx=>?_,fun s hs=>?_⟩
 ·by_cases e:j=i
  ·subst e;rw[gI,gI,gI];exact H
  ·rw[iq _ _ e,iq _ _ e,iq _ _ e];exact w.hi j hj
 ·by_cases e:j=i
  ·subst e;rw[gI];exact hf
  ·rw[iq _ _ e];have:=w.ep j hj;omega
 ·have ho:=w.own
  have:i=0\/i=1\/i=2:=by omega
  rcases this with rfl|rfl|rfl
  ·have he':ao ag L' 0+t<=ao ag (L 0) 0+t':=he
   rw[gI,iq _ _ (by decide),iq _ _ (by decide)];omega
  ·have he':ao ag L' 1+t<=ao ag (L 1) 1+t':=he
   rw[gI,iq _ _ (by decide),iq _ _ (by decide)];omega
  ·have he':ao ag L' 2+t<=ao ag (L 2) 2+t':=he
   rw[gI,iq _ _ (by decide),iq _ _ (by decide)];omega
 ·by_cases e:j=i
  ·subst e;rw[gI]at hr;exact hc r hr
  ·rw[iq _ _ e]at hr;exact w.pB j hj r hr
 ·by_cases e2:j=i
  ·subst e2
   rw[gI]at hr
   exact bT x r hx (hb r hr x hx (Ne.symm ba) e)
  ·rw[iq _ _ e2]at hr
   exact bT x r hx (w.ru x j hx hj ba r hr e)
 ·by_cases e:k=i
  ·subst e
   rw[gI]
   have:=hd j x hj hx
   by_cases e2:j=k
   ·subst e2
    rw[if_pos rfl]at this
    rw[gI,gI];exact this
   ·rw[if_neg e2]at this
    rw[iq _ _ e2,iq _ _ e2];exact this
  ·rw[iq _ _ e]
   have:=w.xz k j x hk hj hx
   have:=pv j (x:Int) hj
   omega
 ·obtain⟨f,u,s1,s2,s3⟩:=w.slp s hs
  refine⟨f,u,s1,fun r hr=>?_,fun x hx=>?_⟩
  ·obtain⟨x,x1,x2,x3⟩:=s2 r hr
   exact⟨x,x1,x2,bT x r x1 x3⟩
  ·have:=s3 x hx
   have:=pv f (x:Int) s1.f2
   omega
theorem W.aj0 (w:W hs sl L F t) {fR:List Av} (h:∀ s∈fR,s∈sl\/∃ f u,SI s f u/\(∀ r∈s.Ah,∃ x:Nat,x<=2/\r.At.Ac=(x:Int)/\r∈(L x).take (F x))/\∀ x,x<6->g6 s.Have x<=((ao ag ((L f).take (F f)) (x:Int):Nat):Int)):W hs fR L F t:=
 ⟨w.hi,w.ep,w.own,w.pB,w.ru,w.xz,fun s hs=>by
  rcases h s hs with g|g
  ·exact w.slp s g
  ·exact g⟩
theorem W.later (w:W hs sl L F t) {t':Nat} (h:t<=t'):W hs sl L F t':=
 ⟨w.hi,fun i hi=>by have:=w.ep i hi;omega,by have:=w.own;omega,w.pB,w.ru,w.xz,w.slp⟩
theorem W.note (w:W hs sl L F t) {k:Nat} (hk:1000000<k) {i:Nat} (hi:i<=2) (ht:t<=40) (r:Ab) (hr:bC ⟨⟨(i:Int),((ao ag (L i) (i:Int):Nat):Int)⟩,r.Kind,r.Day,r.Ap,r.Of,r.Text⟩=true):
  ∃ h' x,oU k (hs i) r=some (h',x,0)/\x.At.Ac=(i:Int)/\∃ L',W (up hs i h') sl (up L i L') (up F i (F i)) (t+1):=by
 have hl:=w.len hi
 obtain⟨h',g1,g2,g3,g4⟩:=(w.hi i hi).note hk (by omega) r hr
 refine⟨h',_,g1,rfl,_,w.upd hi g4 (by omega) (fun x hx=>?_) (fun x hx y hy ba e=>?_) (fun x hx=>?_) (fun j x hj hx=>?_) ?_ ?_⟩
 ·rw[Dd (w.hi i hi).jU];exact hx
 ·rcases A9.1 hx with g|g
  ·exact w.ru y i hy hi (Ne.symm ba) x g e
  ·rw[CS.1 g]at e
   simp only at e
   omega
 ·rcases A9.1 hx with g|g
  ·exact w.pB i hi x g
  ·rw[CS.1 g];exact⟨i,hi,rfl⟩
 ·rw[g3]
  have:=w.xz i j x hi hj hx
  by_cases e:j=i
  ·subst e
   rw[if_pos rfl,Dd (w.hi j hj).jU];exact this
  ·rw[if_neg e];exact this
 ·rw[uk,lu,ss]
  show _+(0+if (i:Int)=(i:Int) then 1 else 0)+t<=_
  rw[if_pos rfl];omega
 ·rw[g2];have:=w.ep i hi;omega
theorem W.aaz (w:W hs sl L F t) {k:Nat} (hk:1000000<k) {i:Nat} (hi:i<=2) (ht:t<=40) (bD:List Int) (hp:bD.length<=4611686018427387904):
  ∃ h' m,nT k (hs i) bD=some (h',0)/\F i<=m/\m<=(L i).length/\HI h' i ((L i).take m) m/\W (up hs i h') sl (up L i ((L i).take m)) (up F i m) (t+1):=by
 have he:=w.ep i hi
 obtain⟨h',m,m1,m2,m3,m4,m5,m6⟩:=(w.hi i hi).aaz hk (by omega) bD hp
 refine⟨h',m,m3,m1,m2,m6,w.upd hi m6 (by omega) (fun x hx=>?_) (fun x hx y hy ba e=>?_) (fun x hx=>?_) (fun j x hj hx=>?_) ?_ ?_⟩
 ·rw[List.take_take,Nat.min_self]
  have e:(L i).take (F i)=((L i).take m).take (F i):=by rw[List.take_take,Nat.min_eq_left m1]
  rw[e]at hx
  exact BD hx
 ·exact w.ru y i hy hi (Ne.symm ba) x (BD hx) e
 ·exact w.pB i hi x (BD hx)
 ·rw[m5,xy];split<;>omega
 ·have:=su (Er ag (w.vl hi) m) (w.vl hi) (i:Int) (fun r hr _=>BD hr)
  omega
 ·omega
theorem W.an5 (w:W hs sl L F t) {i:Nat} (hi:i<=2) {x:Nat}{r:Ab} (hx:x<=2) (hr:r∈L i) (e:r.At.Ac=(x:Int)):r∈(up L i (L i) x).take (up F i (L i).length x):=by
 by_cases h:x=i
 ·subst h;rw[gI,gI,BA];exact hr
 ·rw[iq _ _ h,iq _ _ h]
  exact w.ru x i hx hi (Ne.symm h) r hr e
theorem ai4 {b:List Ab}{K:Aa 6 Int}{r:Ab} (h:r∈lO b K):r∈b/\g6 K r.At.Ac.toNat<=r.At.No:=by
 unfold lO at h
 have:=List.mem_filter.1 (BD h)
 exact⟨this.1,of_decide_eq_true this.2⟩
theorem W.offer (w:W hs sl L F t) {k:Nat} (hk:1000000<k) {i to:Nat} (hi:i<=2) (qV:to<=2) (ba:to≠i) (ht:t<=40):
  ∃ h',eF k (hs i) (to:Int)=some (h',⟨(i:Int),(to:Int),fx (L i),lO (bk ag [] (L i)) (kr (hs i).Ap to)⟩,0)/\h'.Ap=(hs i).Ap/\h'.Ai=(hs i).Ai/\W (up hs i h') sl (up L i (L i)) (up F i (L i).length) t/\
   (SI ⟨(i:Int),(to:Int),fx (L i),lO (bk ag [] (L i)) (kr (hs i).Ap to)⟩ i to/\(∀ r∈lO (bk ag [] (L i)) (kr (hs i).Ap to),∃ x:Nat,x<=2/\r.At.Ac=(x:Int)/\r∈(up L i (L i) x).take (up F i (L i).length x))/\∀ x,x<6->g6 (fx (L i)) x<=((ao ag ((up L i (L i) i).take (up F i (L i).length i)) (x:Int):Nat):Int)):=by
 have H:=w.hi i hi
 have hl:=w.len hi
 have gf:=H.cF.bi
 obtain⟨d,o1,o2⟩:=H.offer hk qV ba
 refine⟨_,o1,rfl,rfl,w.upd hi o2 (AY _) (fun x hx=>?_) (fun x hx y hy ba e=>w.ru y i hy hi (Ne.symm ba) x hx e) (w.pB i hi) (fun j x hj hx=>?_) (AY _) (w.ep i hi),⟨rfl,rfl,hi,qV,Ne.symm ba,fun x=>?_,?_,fun r hr=>?_⟩,fun r hr=>?_,fun x hx=>?_⟩
 ·rw[BA];exact BD hx
 ·have:=w.xz i j x hi hj hx
  by_cases e:j=i
  ·subst e
   rw[if_pos rfl,BA]
   have:=su (Er ag (w.vl hj) (F j)) (w.vl hj) (x:Int) (fun r hr _=>BD hr)
   simp only at *
   omega
  ·rw[if_neg e];exact this
 ·by_cases hx:x<6
  ·rw[abF _ hx]
   have:=abG (L i) (x:Int)
   omega
  ·rw[ad2 _ (by omega)];omega
 ·show (lO _ _).length<=8
  unfold lO
  rw[A8];omega
 ·exact H.cF.ok r ((gf.mem r).1 (ai4 hr).1)
 ·have xm:=(gf.mem r).1 (ai4 hr).1
  obtain⟨x,hx,e⟩:=w.pB i hi r xm
  exact⟨x,hx,e,w.an5 hi hx xm e⟩
 ·rw[abF _ hx,gI,gI,BA]
  exact Df _
theorem W.aax (w:W hs sl L F t) {k:Nat} (hk:1000000<k) {i f:Nat}{s:Av} (S:SI s f i) (ht:t<=40) (hr:∀ r∈s.Ah,∃ x:Nat,x<=2/\r.At.Ac=(x:Int)/\r∈(L x).take (F x))
  (hv:∀ x,x<6->g6 s.Have x<=((ao ag ((L f).take (F f)) (x:Int):Nat):Int)):
  ∃ h',bA k (hs i) s=some (h',(if s.Ah=[] then [] else [⟨(i:Int),(f:Int),fx (fE (L i) s.Ah),[]⟩]),0)/\h'.Ai.Aq=(hs i).Ai.Aq/\
   (∀ j x,kn h'.Ap j x=if j=f/\x<6 then max (kn (hs i).Ap j x) (g6 s.Have x) else kn (hs i).Ap j x)/\
   W (up hs i h') sl (up L i (fE (L i) s.Ah)) (up F i (fE (L i) s.Ah).length) t/\
   (SI ⟨(i:Int),(f:Int),fx (fE (L i) s.Ah),[]⟩ i f/\∀ x,x<6->g6 (fx (fE (L i) s.Ah)) x<=((ao ag ((up L i (fE (L i) s.Ah) i).take (up F i (fE (L i) s.Ah).length i)) (x:Int):Nat):Int)):=by
 have hi:=S.t2
 have H:=w.hi i hi
 have hl:=w.len hi
 have hT:∀ x,(x∈L i\/x∈s.Ah)->∃ j,j<=2/\x∈L j:=fun x hx=>by
  rcases hx with hx|hx
  ·exact⟨i,hi,hx⟩
  ·obtain⟨y,y1,_,y3⟩:=hr x hx
   exact⟨y,y1,BD y3⟩
 obtain⟨h',r1,r2,r3,r4⟩:=H.aax hk S (fun x y hx hy e=>by
  obtain⟨a,a1,a2⟩:=hT x hx
  obtain⟨b,b1,b2⟩:=hT y hy
  exact w.one a1 b1 a2 b2 e) (by omega)
 have ei:∀ r∈fE (L i) s.Ah,∀ x:Nat,x<=2->r.At.Ac=(x:Int)->r∈L i\/r∈(L x).take (F x):=fun r hrr x hx e=>by
  rcases afa _ _ r hrr with g|g
  ·exact .inl g
  ·obtain⟨y,y1,y2,y3⟩:=hr r g
   have:y=x:=by omega
   subst this
   exact .inr y3
 have aii:=ajn s.Ah (L i)
 have hS8:=S.len
 refine⟨h',r1,r3,r4,w.upd hi r2 (AY _) (fun x hx=>?_) (fun x hx y hy ba e=>?_) (fun x hx=>?_) (fun j x hj hx=>?_) ?_ ?_,⟨rfl,rfl,hi,S.f2,Ne.symm S.ne,fun x=>?_,by simp,by simp⟩,fun x hx=>?_⟩
 ·rw[BA];exact afb _ _ x (BD hx)
 ·rcases ei x hx y hy e with g|g
  ·exact w.ru y i hy hi (Ne.symm ba) x g e
  ·exact g
 ·rcases afa _ _ x hx with g|g
  ·exact w.pB i hi x g
  ·obtain⟨y,y1,y2,_⟩:=hr x g
   exact⟨y,y1,y2⟩
 ·rw[r4]
  have h1:=w.xz i j x hi hj hx
  have h2:((ao ag ((L j).take (F j)) (x:Int):Nat):Int)<=if j=i then ((ao ag ((fE (L i) s.Ah).take (fE (L i) s.Ah).length) (x:Int):Nat):Int) else ((ao ag ((L j).take (F j)) (x:Int):Nat):Int):=by
   by_cases e:j=i
   ·subst e
    rw[if_pos rfl,BA]
    have:=su (Er ag (w.vl hj) (F j)) r2.cF.vl (x:Int) (fun r hr _=>afb _ _ r (BD hr))
    omega
   ·rw[if_neg e];exact Df _
  by_cases e:j=f
  ·subst e
   have h3:=hv x hx
   rw[if_pos ⟨rfl,hx⟩]
   omega
  ·rw[if_neg (fun c=>e c.1)]
   omega
 ·have:=su r2.cF.vl (w.vl hi) (i:Int) (fun r hr e=>by
   rcases ei r hr i hi e with g|g
   ·exact g
   ·exact BD g)
  omega
 ·rw[r3];exact w.ep i hi
 ·by_cases hx:x<6
  ·rw[abF _ hx]
   have:=abG (fE (L i) s.Ah) (x:Int)
   have h1:(fE (L i) s.Ah).length<=50:=r2.cF.len
   omega
  ·rw[ad2 _ (by omega)];omega
 ·rw[abF _ hx,gI,gI,BA]
  exact Df _
end
section
variable {d:Ad}{l:Ai}{log:List Ab}{aK a:Nat}{e0 c:Int}{ep:Nat->Int}{k:Nat}
theorem Jr.af2 (h:Jr d l log aK a e0 c ep) (hk:10000000<k) (hlen:log.length+1<=50) (r:Ab):
  ∃ y,jR k d l r=some y/\Dg k d l r=some y/\(y.2.2=0->y.2.1.Aq=l.Aq/\∃ u7 qw,u7.length<=log.length+1/\Jr y.1 y.2.1 u7 aK a e0 c qw)/\(bC r=false->y.2.2=90):=by
 have gX:1000000<k:=by omega
 have gf:=h.cF.bi
 have iB:=gf.len
 have dQ:l.Ak.Ah=bk ag [] log:=by rw[h.book]
 have hs:CC ag l.Ak.Ah:=by rw[dQ];exact gf.val.1
 have hh:∀ x∈l.Ak.Ah,iC x:=by rw[dQ];exact fun x hx=>kT (h.cF.ok x ((gf.mem x).1 hx))
 have hL:l.Ak.Ah.length=log.length:=by rw[dQ,iB]
 have cB:=yI gX h.db h.pJ
 have cR:DV k d l=some 0:=by
  have:=h.agF hk l.Used
  rw[if_pos rfl]at this
  exact this
 have aB:=yr gX (b:=l.Ak) hs (by omega) hh r
 cases hr:bC r with
 |false=>
  refine⟨((⟨[],[]⟩:Ad),(⟨(⟨[]⟩:Ak),0,0,0⟩:Ai),90),?_,?_,fun e=>absurd e (by decide),fun _=>rfl⟩
  ·unfold jR
   rw[cB]
   simp only[Ae,Bf,AO,An]
   rw[aB,hr]
   rfl
  ·unfold Dg
   rw[cR]
   simp only[Ae,Bf,AO,An,vZ (show 1000<k by omega),hr]
   rfl
 |true=>
  have aR:=adb gX hs (show l.Ak.Ah.length<=900 by omega) hh (kT hr)
  rw[hr]at aB
  simp only[Am]at aB
  by_cases he:(dK l.Ak.Ah r).2=0
  ·cases hf:gA ag l.Ak.Ah (ag r) with
   |some x=>
    have lE:dK l.Ak.Ah r=(l.Ak.Ah,0):=by
     unfold dK at he ⊢
     rw[hf]at he ⊢
     simp only at he ⊢
     split
     ·rfl
     ·rename_i hx
      rw[if_neg hx]at he
      cases he
    have hB:=af4 gX h.db h.pJ hr hs hh lE
    refine⟨(d,l,0),hB,?_,fun _=>⟨rfl,log,ep,by omega,h⟩,fun e=>by cases e⟩
    unfold Dg
    rw[cR]
    simp only[Ae,Bf,AO,An,vZ (show 1000<k by omega),hr,Am,aR,lE,(abI k h.db.ok).1]
   |none=>
    have bw:(ag r).2=ao ag log (ag r).1:=by
     show r.At.No=((ao ag log r.At.Ac:Nat):Int)
     have h0:=(acz hr).2.1.1
     have h1:¬ ((ao ag l.Ak.Ah r.At.Ac:Nat):Int)<r.At.No:=fun cc=>by
      unfold dK at he
      rw[hf]at he
      simp only at he
      rw[if_pos cc]at he
      cases he
     rw[dQ,gf.num]at h1
     by_cases c3:r.At.No<((ao ag log r.At.Ac:Nat):Int)
     ·obtain⟨y,hy,hky⟩:=Ep ag h.cF.vl r.At.Ac r.At.No h0 (by omega)
      exact absurd hky (abR ag hf y (by rw[dQ];exact(gf.mem y).2 hy))
     ·omega
    have hH:(bj r (l.Ak.Ah.length:Int) l.Aq).length=bB (enc r).length:=jG _ _ _
    have aor:=yK hr
    have hu:=h.aaH
    have hwl:=h.akA
    obtain⟨m1,m2,m3⟩:=h.ar
    have lE:dK l.Ak.Ah r=(fk ag l.Ak.Ah r,0):=by
     unfold dK at he ⊢
     rw[hf]at he ⊢
     simp only at he ⊢
     split
     ·rename_i cc;rw[if_pos cc]at he;cases he
     ·split
      ·rename_i c1 c2;omega
      ·rfl
    have hil:=uY ag l.Ak.Ah r
    have hB:=af3 gX h.db h.pJ hr hs hh lE (by omega) (by simp only[m3];omega) (by omega)
    obtain⟨d',l',j1,j2,j3⟩:=h.append hr bw hlen gX
    have hBj:=hB.symm.trans j1
    refine⟨_,hB,?_,fun _=>?_,fun e=>by cases e⟩
    ·have ht:=vk hr
     simp only[m3]
     have hw:=asb hk h.db h.a1 (u:=aJ log) (l:=bj r (l.Ak.Ah.length:Int) l.Aq) (by omega)
     have hws:=aaO (au d.Aj d.Af) a (aJ log) (bj r (l.Ak.Ah.length:Int) l.Aq) (bj r (l.Ak.Ah.length:Int) l.Aq).length 0
     have lI:ab ((aJ log:Int)+((bj r (l.Ak.Ah.length:Int) l.Aq).length:Int))=((aJ log+(bj r (l.Ak.Ah.length:Int) l.Aq).length:Nat):Int):=by
      rw[aW (by omega) (by omega)];omega
     have hHh:(List.range (bB (enc r).length)).map (ec l.Aq (l.Ak.Ah.length:Int) (bB (enc r).length) (enc r))=bj r (l.Ak.Ah.length:Int) l.Aq:=rfl
     unfold Dg
     rw[cR]
     simp only[Ae,Bf,AO,An,vZ (show 1000<k by omega),hr,Am,aR,lE,AI (show ¬ ((fk ag l.Ak.Ah r).length:Int)=(l.Ak.Ah.length:Int) by omega),ah3 (show 100000<k by omega) ht,hHh]
     rw[h.aX,h.used]
     simp only[hw,Ae,lI]
     rw[AI (show ¬ (1200:Int)<(((d.Af++eQ (au d.Aj d.Af) a (aJ log) (bj r (l.Ak.Ah.length:Int) l.Aq) (bj r (l.Ak.Ah.length:Int) l.Aq).length 0).length:Nat):Int) by rw[A1];omega)]
     rfl
    ·have e1:=oi hBj
     rw[e1]
     exact⟨j2,_,_,by simp,j3⟩
  ·refine⟨((⟨[],[]⟩:Ad),(⟨(⟨[]⟩:Ak),0,0,0⟩:Ai),(dK l.Ak.Ah r).2),?_,?_,fun e=>absurd e he,fun e=>by cases e⟩
   ·unfold jR
    rw[cB]
    simp only[Ae,Bf,AO,An]
    rw[aB]
    simp only[Ae,AI he,Bn,Am]
   ·unfold Dg
    rw[cR]
    simp only[Ae,Bf,AO,An,vZ (show 1000<k by omega),hr,Am,aR,AI he,Bn]
def kF (v:Aa 6 Int):Bool:=(List.range 6).all fun x=>within (g6 v x) 0 60
theorem anc {v:Aa 6 Int}:kF v=true↔∀ x,0<=g6 v x/\g6 v x<=60:=by
 unfold kF
 rw[List.all_eq_true]
 constructor
 ·intro h x
  by_cases hx:x<6
  ·have:=h x (by simp[hx])
   unfold within at this
   simpa using this
  ·rw[ad2 _ (by omega)];omega
 ·intro h x _
  exact ya (h x)
theorem adz {v:Aa 6 Int}{R:Type}{body:Int->Option (AN Int Unit R)}{cc:R} (hk:1000000<k)
  (h1:∀ x:Nat,x<6->body (x:Int)=(v.at? (x:Int)).bind fun y=>(ja k y 0 60).bind fun z=>bif (!z) then some (.ret cc) else some (.next (ab ((x:Int)+1)))) (h2:body 6=some (.brk ())):ai body k 0=some (bif kF v then .brk () else .ret cc):=
 vA (n:=6) (body:=body) (p:=fun x=>within (g6 v x) 0 60) (c:=cc) (by omega) (k:=k) (by omega) (fun x hx=>by
  rw[h1 x hx,n4 v hx]
  simp only[Ae,nB]
  cases within (g6 v x) 0 60<;>rfl) h2
theorem af5 (hk:1000000<k) (v:Aa 6 Int):Cq k v=some (kF v):=by
 unfold Cq
 rw[adz (v:=v) (cc:=false) hk (fun x hx=>by
  unfold Cq.b0
  simp only[Au (show (x:Int)<6 by omega),Am,ra,nB]) (by unfold Cq.b0;rfl)]
 cases kF v<;>rfl
def aad (K:Aa 6 (Aa 6 Int)):Bool:=(List.range 6).all fun x=>kF (kr K x)
theorem apD {K:Aa 6 (Aa 6 Int)} (h:aad K=true):∀ j x,0<=kn K j x/\kn K j x<=60:=by
 intro j x
 by_cases hj:j<6
 ·unfold aad at h
  rw[List.all_eq_true]at h
  exact anc.1 (h j (by simp[hj])) x
 ·have e:kr K j=Aa.rep 6 0:=by
   unfold kr
   rw[CF (by rw[K.h];omega)];rfl
  unfold kn
  rw[e]
  unfold g6 Aa.rep
  simp only[Ed]
  split<;>decide
theorem Jr.ab6 (h:Jr d l log aK a e0 c ep) (hk:10000000<k) (Me u:Int) (K:Aa 6 (Aa 6 Int)):
  ∃ b:Bool,cC k ⟨Me,d,⟨l.Ak,l.AS,l.Aq,u⟩,K⟩=some (bif b then 0 else 96)/\Cf k ⟨Me,d,⟨l.Ak,l.AS,l.Aq,u⟩,K⟩=some (bif b then 0 else 96)/\(b=true->(0<=Me/\Me<=5)/\u=l.Used/\∀ j x,0<=kn K j x/\kn K j x<=60):=by
 have gX:1000000<k:=by omega
 obtain⟨x,jZ,qY⟩:=h.am4 hk u
 have hR:=h.agF hk u
 refine⟨within Me 0 5&&(decide (u=l.Used)&&aad K),?_,?_,fun hb=>?_⟩
 ·unfold cC mn
  rw[nB]
  simp only[Ae]
  cases within Me 0 5 with
  |false=>rfl
  |true=>
   simp only[Am,BB,jZ,Ae]
   by_cases hu:u=l.Used
   ·rw[qY.2 hu,Au hu]
    simp only[Bf,AO,An,BB]
    have:=vA (n:=6) (body:=cC.b0 k ⟨Me,d,⟨l.Ak,l.AS,l.Aq,u⟩,K⟩) (p:=fun x=>kF (kr K x)) (c:=(96:Int)) (by omega) (k:=k) (by omega) (fun x hx=>by
     unfold cC.b0
     simp only[Au (show (x:Int)<6 by omega),Am,rb K hx,Ae]
     rw[adz (v:=kr K x) (cc:=(96:Int)) gX (fun y hy=>by
      unfold cC.b1
      simp only[Au (show (y:Int)<6 by omega),Am]) (by unfold cC.b1;rfl)]
     cases kF (kr K x)<;>rfl) (by unfold cC.b0;rfl)
    rw[this]
    unfold aad
    cases (List.range 6).all fun x=>kF (kr K x)<;>rfl
   ·have ek:¬ x=0:=fun cc=>hu (qY.1 cc)
    rw[AI hu,AI ek]
    rfl
 ·unfold Cf
  rw[ra]
  simp only[Ae]
  cases within Me 0 5 with
  |false=>rfl
  |true=>
   simp only[Am,BB,hR,Ae]
   by_cases hu:u=l.Used
   ·rw[if_pos hu,Au hu]
    simp only[Bf,AO,An,BB]
    have:=vA (n:=6) (body:=Cf.b0 k ⟨Me,d,⟨l.Ak,l.AS,l.Aq,u⟩,K⟩) (p:=fun x=>kF (kr K x)) (c:=(96:Int)) (by omega) (k:=k) (by omega) (fun x hx=>by
     unfold Cf.b0
     simp only[Au (show (x:Int)<6 by omega),Am,rb K hx,Ae,af5 gX]
     cases kF (kr K x)<;>rfl) (by unfold Cf.b0;rfl)
    rw[this]
    unfold aad
    cases (List.range 6).all fun x=>kF (kr K x)<;>rfl
   ·rw[if_neg hu,AI hu]
    rfl
 ·rw[Bo,Bo]at hb
  obtain⟨h1,h2,h3⟩:=hb
  unfold within at h1
  exact⟨by simpa using h1,of_decide_eq_true h2,apD h3⟩
theorem Jr.counts (h:Jr d l log aK a e0 c ep) (hk:10000000<k):fh k l.Ak=some (fx log)/\B8 k l.Ak.Ah=some (fx log)/\l.Ak.Ah.length=log.length/\(∀ x∈l.Ak.Ah,iC x):=by
 have gf:=h.cF.bi
 have n6:=h.cF.len
 have dQ:l.Ak.Ah=bk ag [] log:=by rw[h.book]
 have hL:l.Ak.Ah.length=log.length:=by rw[dQ,gf.len]
 have hh:∀ x∈l.Ak.Ah,iC x:=by rw[dQ];exact fun x hx=>kT (h.cF.ok x ((gf.mem x).1 hx))
 have hc:fx l.Ak.Ah=fx log:=agK (by rw[dQ];exact gf.num)
 refine⟨?_,?_,hL,hh⟩
 ·rw[aed (show 1000000<k by omega) (by omega) hh,hc]
 ·rw[aeI (show 1000000<k by omega) (by omega) hh,hc]
def Dq (h:Ac):Prop:=h.Ad.Aj.length<=1000/\h.Ad.Af.length<=2000/\h.Ai.Ak.Ah.length<=1000
theorem Jr.aC (h:Jr d l log aK a e0 c ep) (Me:Int) (K:Aa 6 (Aa 6 Int)):Dq ⟨Me,d,l,K⟩:=by
 obtain⟨h1,h2,h3⟩:=jA.1 h.db.ok
 have n6:=h.cF.len
 have iB:=h.cF.bi.len
 have dQ:l.Ak.Ah=bk ag [] log:=by rw[h.book]
 refine⟨?_,?_,?_⟩
 ·show d.Aj.length<=1000;omega
 ·show d.Af.length<=2000;omega
 ·show l.Ak.Ah.length<=1000;rw[dQ];omega
theorem oo (K:Aa 6 (Aa 6 Int)):Dq ⟨0,⟨[],[]⟩,⟨⟨[]⟩,0,0,0⟩,K⟩:=⟨by simp,by simp,by simp⟩
theorem Jr.aak (h:Jr d l log aK a e0 c ep) (hk:10000000<k) (hlen:log.length+1<=50) (Me u:Int) (K:Aa 6 (Aa 6 Int)) (r:Ab):
  ∃ y,oU k ⟨Me,d,⟨l.Ak,l.AS,l.Aq,u⟩,K⟩ r=some y/\Dh k ⟨Me,d,⟨l.Ak,l.AS,l.Aq,u⟩,K⟩ r=some y/\(bC ⟨⟨Me,((ao ag log Me:Nat):Int)⟩,r.Kind,r.Day,r.Ap,r.Of,r.Text⟩=false->¬ y.2.2=0)/\Dq y.1:=by
 obtain⟨b,b1,b2,b3⟩:=h.ab6 hk Me u K
 unfold oU Dh
 rw[b1,b2]
 simp only[Ae]
 cases b with
 |false=>exact⟨_,rfl,rfl,fun _ cc=>(by cases cc),oo _⟩
 |true=>
  obtain⟨⟨q1,q2⟩,q3,q4⟩:=b3 rfl
  obtain⟨c1,c2,c3,c4⟩:=h.counts hk
  subst q3
  simp only[Am,Bf,AO,An,c1,c2,Ae,mw log q1 q2]
  obtain⟨y,y1,y2,y3,y4⟩:=h.af2 hk hlen ⟨⟨Me,((ao ag log Me:Nat):Int)⟩,r.Kind,r.Day,r.Ap,r.Of,r.Text⟩
  have m8:jR k d ⟨l.Ak,l.AS,l.Aq,l.Used⟩ ⟨⟨Me,((ao ag log Me:Nat):Int)⟩,r.Kind,r.Day,r.Ap,r.Of,r.Text⟩=some y:=y1
  have rM:Dg k d ⟨l.Ak,l.AS,l.Aq,l.Used⟩ ⟨⟨Me,((ao ag log Me:Nat):Int)⟩,r.Kind,r.Day,r.Ap,r.Of,r.Text⟩=some y:=y2
  rw[m8,rM]
  simp only[Ae]
  by_cases he:y.2.2=0
  ·simp only[Au he,AO,An]
   refine⟨_,rfl,rfl,fun hr=>?_,?_⟩
   ·have:=y4 hr
    omega
   ·obtain⟨_,u7,qw,_,J'⟩:=y3 he
    exact J'.aC _ _
  ·simp only[AI he,Bn,Am]
   exact⟨_,rfl,rfl,fun _=>he,oo _⟩
theorem aqd (hk:10000000<k) {h:Ac}{to:Nat} (ht:to<6) {b:List Ab} (hb:h.Ai.Ak.Ah=b) (hl:b.length<=100) (hh:∀ r∈b,iC r):
  ∀ (n i m:Nat) (s:List Ab),i+n=b.length->n<m->s=((b.take i).filter fun r=>decide (g6 (kr h.Ap to) r.At.Ac.toNat<=r.At.No)).take 8->
   ai (BK.b0 k h (to:Int)) m ((i:Int),s)=some (.brk (lO b (kr h.Ap to))):=by
 intro n
 induction n with
 |zero=>
  intro i m s h1 h2 hs
  obtain⟨m,rfl⟩:∃ q,m=q+1:=⟨m - 1,by omega⟩
  have n7:BK.b0 k h (to:Int) ((i:Int),s)=some (.brk s):=by
   unfold BK.b0
   rw[hb]
   simp only[AI (show ¬ (i:Int)<(b.length:Int) by omega),An]
  have e:b.take i=b:=Co (by omega)
  rw[e]at hs
  simp only[ai,n7]
  rw[hs]
  rfl
 |succ n ih=>
  intro i m s h1 h2 hs
  obtain⟨m,rfl⟩:∃ q,m=q+1:=⟨m - 1,by omega⟩
  obtain⟨r,hr⟩:∃ r,b[i]?=some r:=⟨_,gG (by omega)⟩
  have fK:=hh r (A6 hr)
  obtain⟨x,z7⟩:=Int.eq_ofNat_of_zero_le fK.1
  have hx6:x<6:=by have:=fK.2;omega
  have iI:(kr h.Ap to).at? r.At.Ac=some (g6 (kr h.Ap to) r.At.Ac.toNat):=by
   rw[z7,n4 _ hx6];rfl
  have hw:ab ((i:Int)+1)=((i+1:Nat):Int):=by rw[aW (by omega) (by omega)];omega
  by_cases c2:s.length<8
  ·have aew:BK.b0 k h (to:Int) ((i:Int),s)=some (.next (((i+1:Nat):Int),if g6 (kr h.Ap to) r.At.Ac.toNat<=r.At.No then s++[r] else s)):=by
    unfold BK.b0
    rw[hb]
    simp only[Au (show (i:Int)<(b.length:Int) by omega),Am,Au (show ((s.length:Nat):Int)<8 by omega),bp hr,Ae,rb h.Ap ht,iI,hw]
    by_cases c1:g6 (kr h.Ap to) r.At.Ac.toNat<=r.At.No
    ·simp only[Au c1,Am,nG (show (s.length+1)*72<=140737488355328 by omega) (show s.length+1<4611686018427387904 by omega),Ae,if_pos c1]
    ·simp only[AI c1,An,if_neg c1]
   simp only[ai,aew]
   refine ih (i+1) m _ (by omega) (by omega) ?_
   rw[take_at hr,List.filter_append]
   by_cases c1:g6 (kr h.Ap to) r.At.Ac.toNat<=r.At.No
   ·have e:[r].filter (fun r=>decide (g6 (kr h.Ap to) r.At.Ac.toNat<=r.At.No))=[r]:=by simp[c1]
    rw[e,if_pos c1,List.take_append]
    rw[hs,A8]at c2
    rw[<-hs]
    have:8 - ((b.take i).filter fun r=>decide (g6 (kr h.Ap to) r.At.Ac.toNat<=r.At.No)).length=8 - 1 - ((b.take i).filter fun r=>decide (g6 (kr h.Ap to) r.At.Ac.toNat<=r.At.No)).length+1:=by omega
    rw[this,List.take_succ_cons,List.take_nil]
   ·have e:[r].filter (fun r=>decide (g6 (kr h.Ap to) r.At.Ac.toNat<=r.At.No))=[]:=by simp[c1]
    rw[e,if_neg c1,List.append_nil,hs]
  ·have n7:BK.b0 k h (to:Int) ((i:Int),s)=some (.brk s):=by
    unfold BK.b0
    rw[hb]
    simp only[Au (show (i:Int)<(b.length:Int) by omega),Am,AI (show ¬ ((s.length:Nat):Int)<8 by omega),An]
   have eK:8<=((b.take i).filter fun r=>decide (g6 (kr h.Ap to) r.At.Ac.toNat<=r.At.No)).length:=by
    rw[hs,A8]at c2;omega
   simp only[ai,n7]
   have:lO b (kr h.Ap to)=s:=by
    unfold lO
    have e:b=b.take i++b.drop i:=(CY i b).symm
    rw[hs]
    conv=>lhs;rw[e]
    rw[List.filter_append,Dd eK]
   rw[this]
theorem Jr.aj8 (h:Jr d l log aK a e0 c ep) (hk:10000000<k) (Me:Int) (K:Aa 6 (Aa 6 Int)):qm k ⟨Me,d,l,K⟩=some ⟨Me,⟨au d.Aj d.Af,[]⟩,l,K⟩/\D0 k d=some ⟨au d.Aj d.Af,[]⟩:=by
 obtain⟨c1,c2,c3,c4⟩:=h.counts hk
 have n6:=h.cF.len
 refine⟨?_,arL (by omega) h.db.ok⟩
 unfold qm nb
 rw[aj7 (show 1000000<k by omega) h.db.ok,wc (show l.Ak.Ah.length<=1000 by omega)]
 rfl
theorem Jr.acp (h:Jr d l log aK a e0 c ep) (hk:10000000<k) (Me u:Int) (K:Aa 6 (Aa 6 Int)) (to:Int):
  ∃ y,eF k ⟨Me,d,⟨l.Ak,l.AS,l.Aq,u⟩,K⟩ to=some y/\BK k ⟨Me,d,⟨l.Ak,l.AS,l.Aq,u⟩,K⟩ to=some y/\Dq y.1/\y.2.1.Ah.length<=1000:=by
 obtain⟨b,b1,b2,b3⟩:=h.ab6 hk Me u K
 have n6:=h.cF.len
 unfold eF BK
 rw[b1,b2]
 simp only[Ae]
 cases b with
 |false=>exact⟨_,rfl,rfl,oo _,by simp⟩
 |true=>
  obtain⟨⟨q1,q2⟩,q3,q4⟩:=b3 rfl
  obtain⟨c1,c2,c3,c4⟩:=h.counts hk
  obtain⟨s1,s2⟩:=h.aj8 hk Me K
  subst q3
  unfold mn
  simp only[Am,Bf,AO,An,nB,ra,Ae]
  cases ht:within to 0 5 with
  |false=>exact⟨_,rfl,rfl,oo _,by simp⟩
  |true=>
   have ot:0<=to/\to<=5:=by unfold within at ht;simpa using ht
   obtain⟨t,gC⟩:=Int.eq_ofNat_of_zero_le ot.1
   simp only[Am]
   by_cases hm:to=Me
   ·simp only[Au hm,Am];exact⟨_,rfl,rfl,oo _,by simp⟩
   ·simp only[AI hm,An]
    subst gC
    have o1:=ai3 (k:=k) (by omega) (h:=⟨Me,d,⟨l.Ak,l.AS,l.Aq,l.Used⟩,K⟩) (to:=t) (by omega) (b:=l.Ak.Ah) rfl (by omega) c4
    have o2:=aqd hk (h:=⟨Me,d,⟨l.Ak,l.AS,l.Aq,l.Used⟩,K⟩) (to:=t) (by omega) (b:=l.Ak.Ah) rfl (by omega) c4 l.Ak.Ah.length 0 k [] (by omega) (by omega) (by simp)
    rw[Cz]at o2
    have s1':qm k ⟨Me,d,⟨l.Ak,l.AS,l.Aq,l.Used⟩,K⟩=some ⟨Me,⟨au d.Aj d.Af,[]⟩,l,K⟩:=s1
    have sI:D1 k l.Ak.Ah=some l.Ak.Ah:=agP (by omega)
    unfold DX
    simp only[c1,c2,o1,o2,s1',(abI k h.db.ok).1,sI,Ae,s2]
    exact⟨_,rfl,rfl,h.sync.aC _ _,by show (lO _ _).length<=1000;unfold lO;rw[A8];omega⟩
end
end Go.Abs
end
