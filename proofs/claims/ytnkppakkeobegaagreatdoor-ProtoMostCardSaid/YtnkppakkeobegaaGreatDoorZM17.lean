/-
  PyFun1.
-/
import Derived.Test.YtnkppakkeobegaaGreatDoorZM16
set_option maxRecDepth 20000
set_option linter.unusedVariables false
set_option linter.unusedSimpArgs false
set_option linter.unusedSectionVars false
namespace Go.Proofs.YtnkppakkeobegaaGreatDoor
namespace AX
set_option linter.unusedVariables false
noncomputable section
def f3_B0 (call : CallF) (n : Nat) (j41 : Bool → Int → Cell → Int → Heap → OR) (s42 : Bool → Int → Cell → Int → Int → Heap → OR) (x43 : Bool) (x44 : Int) (x45 : Cell) (x46 x47 : Int) (G48 : Heap) : OR :=
 castP x45 (
  bif (decide (x47 < x44)) then (
   joinK (fun (x104 : Bool) (x105 : Int) (x106 : Cell) (x107 x108 : Int) (G109 : Heap) =>
    castP x106 (
     s42 x104 x105 .nilp x107 (IntKind.wrap .i64 (x108 + (1 : Int))) G109) fun b110 o111 =>
    s42 x104 x105 (.gptr b110 o111) x107 (IntKind.wrap .i64 (x108 + (1 : Int))) G109) fun j51 =>
   bytesK ([.int .u8 (IntKind.wrap .u8 (IntKind.wrap .i64 ((97 : Int) + (Int.tmod x47 (26 : Int)))))] : List Cell) fun s52 =>
   bif decide ((([82, 67, 80, 84, 32, 84, 79, 58, 60, 117] : List UInt8)).length + (s52).length ≤ strLim) then (
    bif decide (((([82, 67, 80, 84, 32, 84, 79, 58, 60, 117] : List UInt8) ++ s52)).length + (([64, 120, 62, 13, 10] : List UInt8)).length ≤ strLim) then (
     callGK call 9 [.one .nilp, .one (.sl none 1 (byteCells ((([82, 67, 80, 84, 32, 84, 79, 58, 60, 117] : List UInt8) ++ s52) ++ ([64, 120, 62, 13, 10] : List UInt8))))] G48 fun v53 G54 =>
     castTup v53 fun v55 =>
     nilK v55 (
      callGK call 10 [.one .nilp] G54 fun v56 G57 =>
      castTup v56 fun v58 =>
      zL 1 v58 fun l59 r60 =>
      consK r60 fun z61 r62 =>
      aggV z61 fun r63 =>
      takeS_api_Ask r63 fun w64 r65 =>
      nilK r65 (
       nilK r62 (
        bif (w64.fKind == (1 : Int)) then (
         joinK (fun (x81 : Bool) (x82 : Int) (x83 : Cell) (x84 x85 : Int) (G86 : Heap) =>
          castP x83 (
           callGK call 12 [.one .nilp, .one (.sl none 3 ([.int .i64 (250 : Int), .str ([] : List UInt8), .sl none 1 ([.str ([115, 111] : List UInt8)] : List Cell)] : List Cell))] G86 fun v89 G90 =>
           castTup v89 fun v91 =>
           zL 1 v91 fun l92 r93 =>
           zB r93 fun b94 r95 =>
           nilK r95 (
            bif (!b94) then (
             some (.one (.bool false), G90)) else (
             j51 x81 x82 .nilp x84 x85 G90))) fun b87 o88 =>
          callGK call 12 [.one (.gptr b87 o88), .one (.sl none 3 ([.int .i64 (250 : Int), .str ([] : List UInt8), .sl none 1 ([.str ([115, 111] : List UInt8)] : List Cell)] : List Cell))] G86 fun v96 G97 =>
          castTup v96 fun v98 =>
          zL 1 v98 fun l99 r100 =>
          zB r100 fun b101 r102 =>
          nilK r102 (
           bif (!b101) then (
            some (.one (.bool false), G97)) else (
            j51 x81 x82 (.gptr b87 o88) x84 x85 G97))) fun j66 =>
         joinK (fun (x72 : Bool) (x73 : Int) (x74 : Cell) (x75 x76 : Int) (x77 : Bool) (G78 : Heap) =>
          castP x74 (
           bif x77 then (
            some (.one (.bool false), G78)) else (
            j66 x72 x73 .nilp x75 x76 G78)) fun b79 o80 =>
          bif x77 then (
           some (.one (.bool false), G78)) else (
           j66 x72 x73 (.gptr b79 o80) x75 x76 G78)) fun j67 =>
         bif ((((l59).length / 1 : Nat) : Int) != (0 : Int)) then (
          j67 x43 x44 .nilp (IntKind.wrap .i64 (x46 + (1 : Int))) x47 true G57) else (
          bytesK ([.int .u8 (IntKind.wrap .u8 (IntKind.wrap .i64 ((97 : Int) + (Int.tmod x47 (26 : Int)))))] : List Cell) fun s68 =>
          bif decide ((([117] : List UInt8)).length + (s68).length ≤ strLim) then (
           bif (!(w64.fRcpt_Local == (([117] : List UInt8) ++ s68))) then (
            j67 x43 x44 .nilp (IntKind.wrap .i64 (x46 + (1 : Int))) x47 true G57) else (
            callGK call 11 [.one .nilp] G57 fun v69 G70 =>
            oI .i64 v69 fun n71 =>
            j67 x43 x44 .nilp (IntKind.wrap .i64 (x46 + (1 : Int))) x47 (n71 != (1 : Int)) G70)) else none)) else (
         bytesK l59 fun s103 =>
         bif (!(s103 == ([52, 53, 50, 32, 52, 46, 53, 46, 51, 32, 116, 111, 111, 32, 109, 97, 110, 121, 13, 10] : List UInt8))) then (
          some (.one (.bool false), G57)) else (
          j51 x43 x44 .nilp x46 x47 G57)))))) else none) else none) else (
   j41 x43 x44 .nilp x46 G48)) fun b49 o50 =>
 bif (decide (x47 < x44)) then (
  joinK (fun (x165 : Bool) (x166 : Int) (x167 : Cell) (x168 x169 : Int) (G170 : Heap) =>
   castP x167 (
    s42 x165 x166 .nilp x168 (IntKind.wrap .i64 (x169 + (1 : Int))) G170) fun b171 o172 =>
   s42 x165 x166 (.gptr b171 o172) x168 (IntKind.wrap .i64 (x169 + (1 : Int))) G170) fun j112 =>
  bytesK ([.int .u8 (IntKind.wrap .u8 (IntKind.wrap .i64 ((97 : Int) + (Int.tmod x47 (26 : Int)))))] : List Cell) fun s113 =>
  bif decide ((([82, 67, 80, 84, 32, 84, 79, 58, 60, 117] : List UInt8)).length + (s113).length ≤ strLim) then (
   bif decide (((([82, 67, 80, 84, 32, 84, 79, 58, 60, 117] : List UInt8) ++ s113)).length + (([64, 120, 62, 13, 10] : List UInt8)).length ≤ strLim) then (
    callGK call 9 [.one (.gptr b49 o50), .one (.sl none 1 (byteCells ((([82, 67, 80, 84, 32, 84, 79, 58, 60, 117] : List UInt8) ++ s113) ++ ([64, 120, 62, 13, 10] : List UInt8))))] G48 fun v114 G115 =>
    castTup v114 fun v116 =>
    nilK v116 (
     callGK call 10 [.one (.gptr b49 o50)] G115 fun v117 G118 =>
     castTup v117 fun v119 =>
     zL 1 v119 fun l120 r121 =>
     consK r121 fun z122 r123 =>
     aggV z122 fun r124 =>
     takeS_api_Ask r124 fun w125 r126 =>
     nilK r126 (
      nilK r123 (
       bif (w125.fKind == (1 : Int)) then (
        joinK (fun (x142 : Bool) (x143 : Int) (x144 : Cell) (x145 x146 : Int) (G147 : Heap) =>
         castP x144 (
          callGK call 12 [.one .nilp, .one (.sl none 3 ([.int .i64 (250 : Int), .str ([] : List UInt8), .sl none 1 ([.str ([115, 111] : List UInt8)] : List Cell)] : List Cell))] G147 fun v150 G151 =>
          castTup v150 fun v152 =>
          zL 1 v152 fun l153 r154 =>
          zB r154 fun b155 r156 =>
          nilK r156 (
           bif (!b155) then (
            some (.one (.bool false), G151)) else (
            j112 x142 x143 .nilp x145 x146 G151))) fun b148 o149 =>
         callGK call 12 [.one (.gptr b148 o149), .one (.sl none 3 ([.int .i64 (250 : Int), .str ([] : List UInt8), .sl none 1 ([.str ([115, 111] : List UInt8)] : List Cell)] : List Cell))] G147 fun v157 G158 =>
         castTup v157 fun v159 =>
         zL 1 v159 fun l160 r161 =>
         zB r161 fun b162 r163 =>
         nilK r163 (
          bif (!b162) then (
           some (.one (.bool false), G158)) else (
           j112 x142 x143 (.gptr b148 o149) x145 x146 G158))) fun j127 =>
        joinK (fun (x133 : Bool) (x134 : Int) (x135 : Cell) (x136 x137 : Int) (x138 : Bool) (G139 : Heap) =>
         castP x135 (
          bif x138 then (
           some (.one (.bool false), G139)) else (
           j127 x133 x134 .nilp x136 x137 G139)) fun b140 o141 =>
         bif x138 then (
          some (.one (.bool false), G139)) else (
          j127 x133 x134 (.gptr b140 o141) x136 x137 G139)) fun j128 =>
        bif ((((l120).length / 1 : Nat) : Int) != (0 : Int)) then (
         j128 x43 x44 (.gptr b49 o50) (IntKind.wrap .i64 (x46 + (1 : Int))) x47 true G118) else (
         bytesK ([.int .u8 (IntKind.wrap .u8 (IntKind.wrap .i64 ((97 : Int) + (Int.tmod x47 (26 : Int)))))] : List Cell) fun s129 =>
         bif decide ((([117] : List UInt8)).length + (s129).length ≤ strLim) then (
          bif (!(w125.fRcpt_Local == (([117] : List UInt8) ++ s129))) then (
           j128 x43 x44 (.gptr b49 o50) (IntKind.wrap .i64 (x46 + (1 : Int))) x47 true G118) else (
           callGK call 11 [.one (.gptr b49 o50)] G118 fun v130 G131 =>
           oI .i64 v130 fun n132 =>
           j128 x43 x44 (.gptr b49 o50) (IntKind.wrap .i64 (x46 + (1 : Int))) x47 (n132 != (1 : Int)) G131)) else none)) else (
        bytesK l120 fun s164 =>
        bif (!(s164 == ([52, 53, 50, 32, 52, 46, 53, 46, 51, 32, 116, 111, 111, 32, 109, 97, 110, 121, 13, 10] : List UInt8))) then (
         some (.one (.bool false), G118)) else (
         j112 x43 x44 (.gptr b49 o50) x46 x47 G118)))))) else none) else none) else (
  j41 x43 x44 (.gptr b49 o50) x46 G48)
def f3_B1 (call : CallF) (n : Nat) (j210 : Bool → Cell → Int → Heap → OR) (s211 : Bool → Cell → Int → Int → S_api_Ask → Heap → OR) (x212 : Bool) (x213 : Cell) (x214 x215 : Int) (x216 : S_api_Ask) (G217 : Heap) : OR :=
 castP x213 (
  bif (decide (x215 < (((x216.fTo).length / 2 : Nat) : Int))) then (
   guardB (decide (0 ≤ x215) && decide ((Int.toNat x215) * 2 + 2 ≤ x216.fTo.length)) (
    cS ((((x216.fTo.drop ((Int.toNat x215) * 2)).take 2).drop 0).take 1) fun s220 r221 =>
    bytesK ([.int .u8 (IntKind.wrap .u8 (IntKind.wrap .i64 ((97 : Int) + (Int.tmod x215 (26 : Int)))))] : List Cell) fun s222 =>
    bif decide ((([117] : List UInt8)).length + (s222).length ≤ strLim) then (
     bif (!(s220 == (([117] : List UInt8) ++ s222))) then (
      some (.one (.bool false), G217)) else (
      s211 x212 .nilp x214 (IntKind.wrap .i64 (x215 + (1 : Int))) x216 G217)) else none)) else (
   j210 x212 .nilp x214 G217)) fun b218 o219 =>
 bif (decide (x215 < (((x216.fTo).length / 2 : Nat) : Int))) then (
  guardB (decide (0 ≤ x215) && decide ((Int.toNat x215) * 2 + 2 ≤ x216.fTo.length)) (
   cS ((((x216.fTo.drop ((Int.toNat x215) * 2)).take 2).drop 0).take 1) fun s223 r224 =>
   bytesK ([.int .u8 (IntKind.wrap .u8 (IntKind.wrap .i64 ((97 : Int) + (Int.tmod x215 (26 : Int)))))] : List Cell) fun s225 =>
   bif decide ((([117] : List UInt8)).length + (s225).length ≤ strLim) then (
    bif (!(s223 == (([117] : List UInt8) ++ s225))) then (
     some (.one (.bool false), G217)) else (
     s211 x212 (.gptr b218 o219) x214 (IntKind.wrap .i64 (x215 + (1 : Int))) x216 G217)) else none)) else (
  j210 x212 (.gptr b218 o219) x214 G217)
def f3_B2 (call : CallF) (n : Nat) (j250 : Bool → Cell → Int → Heap → OR) (s251 : Bool → Cell → Int → Int → S_api_Ask → Heap → OR) (x252 : Bool) (x253 : Cell) (x254 x255 : Int) (x256 : S_api_Ask) (G257 : Heap) : OR :=
 castP x253 (
  bif (decide (x255 < (((x256.fTo).length / 2 : Nat) : Int))) then (
   guardB (decide (0 ≤ x255) && decide ((Int.toNat x255) * 2 + 2 ≤ x256.fTo.length)) (
    cS ((((x256.fTo.drop ((Int.toNat x255) * 2)).take 2).drop 0).take 1) fun s260 r261 =>
    bytesK ([.int .u8 (IntKind.wrap .u8 (IntKind.wrap .i64 ((97 : Int) + (Int.tmod x255 (26 : Int)))))] : List Cell) fun s262 =>
    bif decide ((([117] : List UInt8)).length + (s262).length ≤ strLim) then (
     bif (!(s260 == (([117] : List UInt8) ++ s262))) then (
      some (.one (.bool false), G257)) else (
      s251 x252 .nilp x254 (IntKind.wrap .i64 (x255 + (1 : Int))) x256 G257)) else none)) else (
   j250 x252 .nilp x254 G257)) fun b258 o259 =>
 bif (decide (x255 < (((x256.fTo).length / 2 : Nat) : Int))) then (
  guardB (decide (0 ≤ x255) && decide ((Int.toNat x255) * 2 + 2 ≤ x256.fTo.length)) (
   cS ((((x256.fTo.drop ((Int.toNat x255) * 2)).take 2).drop 0).take 1) fun s263 r264 =>
   bytesK ([.int .u8 (IntKind.wrap .u8 (IntKind.wrap .i64 ((97 : Int) + (Int.tmod x255 (26 : Int)))))] : List Cell) fun s265 =>
   bif decide ((([117] : List UInt8)).length + (s265).length ≤ strLim) then (
    bif (!(s263 == (([117] : List UInt8) ++ s265))) then (
     some (.one (.bool false), G257)) else (
     s251 x252 (.gptr b258 o259) x254 (IntKind.wrap .i64 (x255 + (1 : Int))) x256 G257)) else none)) else (
  j250 x252 (.gptr b258 o259) x254 G257)
def f3_B3 (call : CallF) (n : Nat) (j320 : Bool → Cell → Int → Heap → OR) (s321 : Bool → Cell → Int → Int → S_api_Ask → Heap → OR) (x322 : Bool) (x323 : Cell) (x324 x325 : Int) (x326 : S_api_Ask) (G327 : Heap) : OR :=
 castP x323 (
  bif (decide (x325 < (((x326.fTo).length / 2 : Nat) : Int))) then (
   guardB (decide (0 ≤ x325) && decide ((Int.toNat x325) * 2 + 2 ≤ x326.fTo.length)) (
    cS ((((x326.fTo.drop ((Int.toNat x325) * 2)).take 2).drop 0).take 1) fun s330 r331 =>
    bytesK ([.int .u8 (IntKind.wrap .u8 (IntKind.wrap .i64 ((97 : Int) + (Int.tmod x325 (26 : Int)))))] : List Cell) fun s332 =>
    bif decide ((([117] : List UInt8)).length + (s332).length ≤ strLim) then (
     bif (!(s330 == (([117] : List UInt8) ++ s332))) then (
      some (.one (.bool false), G327)) else (
      s321 x322 .nilp x324 (IntKind.wrap .i64 (x325 + (1 : Int))) x326 G327)) else none)) else (
   j320 x322 .nilp x324 G327)) fun b328 o329 =>
 bif (decide (x325 < (((x326.fTo).length / 2 : Nat) : Int))) then (
  guardB (decide (0 ≤ x325) && decide ((Int.toNat x325) * 2 + 2 ≤ x326.fTo.length)) (
   cS ((((x326.fTo.drop ((Int.toNat x325) * 2)).take 2).drop 0).take 1) fun s333 r334 =>
   bytesK ([.int .u8 (IntKind.wrap .u8 (IntKind.wrap .i64 ((97 : Int) + (Int.tmod x325 (26 : Int)))))] : List Cell) fun s335 =>
   bif decide ((([117] : List UInt8)).length + (s335).length ≤ strLim) then (
    bif (!(s333 == (([117] : List UInt8) ++ s335))) then (
     some (.one (.bool false), G327)) else (
     s321 x322 (.gptr b328 o329) x324 (IntKind.wrap .i64 (x325 + (1 : Int))) x326 G327)) else none)) else (
  j320 x322 (.gptr b328 o329) x324 G327)
def f3_B4 (call : CallF) (n : Nat) (j360 : Bool → Cell → Int → Heap → OR) (s361 : Bool → Cell → Int → Int → S_api_Ask → Heap → OR) (x362 : Bool) (x363 : Cell) (x364 x365 : Int) (x366 : S_api_Ask) (G367 : Heap) : OR :=
 castP x363 (
  bif (decide (x365 < (((x366.fTo).length / 2 : Nat) : Int))) then (
   guardB (decide (0 ≤ x365) && decide ((Int.toNat x365) * 2 + 2 ≤ x366.fTo.length)) (
    cS ((((x366.fTo.drop ((Int.toNat x365) * 2)).take 2).drop 0).take 1) fun s370 r371 =>
    bytesK ([.int .u8 (IntKind.wrap .u8 (IntKind.wrap .i64 ((97 : Int) + (Int.tmod x365 (26 : Int)))))] : List Cell) fun s372 =>
    bif decide ((([117] : List UInt8)).length + (s372).length ≤ strLim) then (
     bif (!(s370 == (([117] : List UInt8) ++ s372))) then (
      some (.one (.bool false), G367)) else (
      s361 x362 .nilp x364 (IntKind.wrap .i64 (x365 + (1 : Int))) x366 G367)) else none)) else (
   j360 x362 .nilp x364 G367)) fun b368 o369 =>
 bif (decide (x365 < (((x366.fTo).length / 2 : Nat) : Int))) then (
  guardB (decide (0 ≤ x365) && decide ((Int.toNat x365) * 2 + 2 ≤ x366.fTo.length)) (
   cS ((((x366.fTo.drop ((Int.toNat x365) * 2)).take 2).drop 0).take 1) fun s373 r374 =>
   bytesK ([.int .u8 (IntKind.wrap .u8 (IntKind.wrap .i64 ((97 : Int) + (Int.tmod x365 (26 : Int)))))] : List Cell) fun s375 =>
   bif decide ((([117] : List UInt8)).length + (s375).length ≤ strLim) then (
    bif (!(s373 == (([117] : List UInt8) ++ s375))) then (
     some (.one (.bool false), G367)) else (
     s361 x362 (.gptr b368 o369) x364 (IntKind.wrap .i64 (x365 + (1 : Int))) x366 G367)) else none)) else (
  j360 x362 (.gptr b368 o369) x364 G367)
def f3_B5 (call : CallF) (n : Nat) (j413 : Bool → Int → Cell → Int → Heap → OR) (s414 : Bool → Int → Cell → Int → Int → Heap → OR) (x415 : Bool) (x416 : Int) (x417 : Cell) (x418 x419 : Int) (G420 : Heap) : OR :=
 castP x417 (
  bif (decide (x419 < x416)) then (
   joinK (fun (x476 : Bool) (x477 : Int) (x478 : Cell) (x479 x480 : Int) (G481 : Heap) =>
    castP x478 (
     s414 x476 x477 .nilp x479 (IntKind.wrap .i64 (x480 + (1 : Int))) G481) fun b482 o483 =>
    s414 x476 x477 (.gptr b482 o483) x479 (IntKind.wrap .i64 (x480 + (1 : Int))) G481) fun j423 =>
   bytesK ([.int .u8 (IntKind.wrap .u8 (IntKind.wrap .i64 ((97 : Int) + (Int.tmod x419 (26 : Int)))))] : List Cell) fun s424 =>
   bif decide ((([82, 67, 80, 84, 32, 84, 79, 58, 60, 117] : List UInt8)).length + (s424).length ≤ strLim) then (
    bif decide (((([82, 67, 80, 84, 32, 84, 79, 58, 60, 117] : List UInt8) ++ s424)).length + (([64, 120, 62, 13, 10] : List UInt8)).length ≤ strLim) then (
     callGK call 9 [.one .nilp, .one (.sl none 1 (byteCells ((([82, 67, 80, 84, 32, 84, 79, 58, 60, 117] : List UInt8) ++ s424) ++ ([64, 120, 62, 13, 10] : List UInt8))))] G420 fun v425 G426 =>
     castTup v425 fun v427 =>
     nilK v427 (
      callGK call 10 [.one .nilp] G426 fun v428 G429 =>
      castTup v428 fun v430 =>
      zL 1 v430 fun l431 r432 =>
      consK r432 fun z433 r434 =>
      aggV z433 fun r435 =>
      takeS_api_Ask r435 fun w436 r437 =>
      nilK r437 (
       nilK r434 (
        bif (w436.fKind == (1 : Int)) then (
         joinK (fun (x453 : Bool) (x454 : Int) (x455 : Cell) (x456 x457 : Int) (G458 : Heap) =>
          castP x455 (
           callGK call 12 [.one .nilp, .one (.sl none 3 ([.int .i64 (250 : Int), .str ([] : List UInt8), .sl none 1 ([.str ([115, 111] : List UInt8)] : List Cell)] : List Cell))] G458 fun v461 G462 =>
           castTup v461 fun v463 =>
           zL 1 v463 fun l464 r465 =>
           zB r465 fun b466 r467 =>
           nilK r467 (
            bif (!b466) then (
             some (.one (.bool false), G462)) else (
             j423 x453 x454 .nilp x456 x457 G462))) fun b459 o460 =>
          callGK call 12 [.one (.gptr b459 o460), .one (.sl none 3 ([.int .i64 (250 : Int), .str ([] : List UInt8), .sl none 1 ([.str ([115, 111] : List UInt8)] : List Cell)] : List Cell))] G458 fun v468 G469 =>
          castTup v468 fun v470 =>
          zL 1 v470 fun l471 r472 =>
          zB r472 fun b473 r474 =>
          nilK r474 (
           bif (!b473) then (
            some (.one (.bool false), G469)) else (
            j423 x453 x454 (.gptr b459 o460) x456 x457 G469))) fun j438 =>
         joinK (fun (x444 : Bool) (x445 : Int) (x446 : Cell) (x447 x448 : Int) (x449 : Bool) (G450 : Heap) =>
          castP x446 (
           bif x449 then (
            some (.one (.bool false), G450)) else (
            j438 x444 x445 .nilp x447 x448 G450)) fun b451 o452 =>
          bif x449 then (
           some (.one (.bool false), G450)) else (
           j438 x444 x445 (.gptr b451 o452) x447 x448 G450)) fun j439 =>
         bif ((((l431).length / 1 : Nat) : Int) != (0 : Int)) then (
          j439 x415 x416 .nilp (IntKind.wrap .i64 (x418 + (1 : Int))) x419 true G429) else (
          bytesK ([.int .u8 (IntKind.wrap .u8 (IntKind.wrap .i64 ((97 : Int) + (Int.tmod x419 (26 : Int)))))] : List Cell) fun s440 =>
          bif decide ((([117] : List UInt8)).length + (s440).length ≤ strLim) then (
           bif (!(w436.fRcpt_Local == (([117] : List UInt8) ++ s440))) then (
            j439 x415 x416 .nilp (IntKind.wrap .i64 (x418 + (1 : Int))) x419 true G429) else (
            callGK call 11 [.one .nilp] G429 fun v441 G442 =>
            oI .i64 v441 fun n443 =>
            j439 x415 x416 .nilp (IntKind.wrap .i64 (x418 + (1 : Int))) x419 (n443 != (1 : Int)) G442)) else none)) else (
         bytesK l431 fun s475 =>
         bif (!(s475 == ([52, 53, 50, 32, 52, 46, 53, 46, 51, 32, 116, 111, 111, 32, 109, 97, 110, 121, 13, 10] : List UInt8))) then (
          some (.one (.bool false), G429)) else (
          j423 x415 x416 .nilp x418 x419 G429)))))) else none) else none) else (
   j413 x415 x416 .nilp x418 G420)) fun b421 o422 =>
 bif (decide (x419 < x416)) then (
  joinK (fun (x537 : Bool) (x538 : Int) (x539 : Cell) (x540 x541 : Int) (G542 : Heap) =>
   castP x539 (
    s414 x537 x538 .nilp x540 (IntKind.wrap .i64 (x541 + (1 : Int))) G542) fun b543 o544 =>
   s414 x537 x538 (.gptr b543 o544) x540 (IntKind.wrap .i64 (x541 + (1 : Int))) G542) fun j484 =>
  bytesK ([.int .u8 (IntKind.wrap .u8 (IntKind.wrap .i64 ((97 : Int) + (Int.tmod x419 (26 : Int)))))] : List Cell) fun s485 =>
  bif decide ((([82, 67, 80, 84, 32, 84, 79, 58, 60, 117] : List UInt8)).length + (s485).length ≤ strLim) then (
   bif decide (((([82, 67, 80, 84, 32, 84, 79, 58, 60, 117] : List UInt8) ++ s485)).length + (([64, 120, 62, 13, 10] : List UInt8)).length ≤ strLim) then (
    callGK call 9 [.one (.gptr b421 o422), .one (.sl none 1 (byteCells ((([82, 67, 80, 84, 32, 84, 79, 58, 60, 117] : List UInt8) ++ s485) ++ ([64, 120, 62, 13, 10] : List UInt8))))] G420 fun v486 G487 =>
    castTup v486 fun v488 =>
    nilK v488 (
     callGK call 10 [.one (.gptr b421 o422)] G487 fun v489 G490 =>
     castTup v489 fun v491 =>
     zL 1 v491 fun l492 r493 =>
     consK r493 fun z494 r495 =>
     aggV z494 fun r496 =>
     takeS_api_Ask r496 fun w497 r498 =>
     nilK r498 (
      nilK r495 (
       bif (w497.fKind == (1 : Int)) then (
        joinK (fun (x514 : Bool) (x515 : Int) (x516 : Cell) (x517 x518 : Int) (G519 : Heap) =>
         castP x516 (
          callGK call 12 [.one .nilp, .one (.sl none 3 ([.int .i64 (250 : Int), .str ([] : List UInt8), .sl none 1 ([.str ([115, 111] : List UInt8)] : List Cell)] : List Cell))] G519 fun v522 G523 =>
          castTup v522 fun v524 =>
          zL 1 v524 fun l525 r526 =>
          zB r526 fun b527 r528 =>
          nilK r528 (
           bif (!b527) then (
            some (.one (.bool false), G523)) else (
            j484 x514 x515 .nilp x517 x518 G523))) fun b520 o521 =>
         callGK call 12 [.one (.gptr b520 o521), .one (.sl none 3 ([.int .i64 (250 : Int), .str ([] : List UInt8), .sl none 1 ([.str ([115, 111] : List UInt8)] : List Cell)] : List Cell))] G519 fun v529 G530 =>
         castTup v529 fun v531 =>
         zL 1 v531 fun l532 r533 =>
         zB r533 fun b534 r535 =>
         nilK r535 (
          bif (!b534) then (
           some (.one (.bool false), G530)) else (
           j484 x514 x515 (.gptr b520 o521) x517 x518 G530))) fun j499 =>
        joinK (fun (x505 : Bool) (x506 : Int) (x507 : Cell) (x508 x509 : Int) (x510 : Bool) (G511 : Heap) =>
         castP x507 (
          bif x510 then (
           some (.one (.bool false), G511)) else (
           j499 x505 x506 .nilp x508 x509 G511)) fun b512 o513 =>
         bif x510 then (
          some (.one (.bool false), G511)) else (
          j499 x505 x506 (.gptr b512 o513) x508 x509 G511)) fun j500 =>
        bif ((((l492).length / 1 : Nat) : Int) != (0 : Int)) then (
         j500 x415 x416 (.gptr b421 o422) (IntKind.wrap .i64 (x418 + (1 : Int))) x419 true G490) else (
         bytesK ([.int .u8 (IntKind.wrap .u8 (IntKind.wrap .i64 ((97 : Int) + (Int.tmod x419 (26 : Int)))))] : List Cell) fun s501 =>
         bif decide ((([117] : List UInt8)).length + (s501).length ≤ strLim) then (
          bif (!(w497.fRcpt_Local == (([117] : List UInt8) ++ s501))) then (
           j500 x415 x416 (.gptr b421 o422) (IntKind.wrap .i64 (x418 + (1 : Int))) x419 true G490) else (
           callGK call 11 [.one (.gptr b421 o422)] G490 fun v502 G503 =>
           oI .i64 v502 fun n504 =>
           j500 x415 x416 (.gptr b421 o422) (IntKind.wrap .i64 (x418 + (1 : Int))) x419 (n504 != (1 : Int)) G503)) else none)) else (
        bytesK l492 fun s536 =>
        bif (!(s536 == ([52, 53, 50, 32, 52, 46, 53, 46, 51, 32, 116, 111, 111, 32, 109, 97, 110, 121, 13, 10] : List UInt8))) then (
         some (.one (.bool false), G490)) else (
         j484 x415 x416 (.gptr b421 o422) x418 x419 G490)))))) else none) else none) else (
  j413 x415 x416 (.gptr b421 o422) x418 G420)
def f3_B6 (call : CallF) (n : Nat) (j582 : Bool → Cell → Int → Heap → OR) (s583 : Bool → Cell → Int → Int → S_api_Ask → Heap → OR) (x584 : Bool) (x585 : Cell) (x586 x587 : Int) (x588 : S_api_Ask) (G589 : Heap) : OR :=
 castP x585 (
  bif (decide (x587 < (((x588.fTo).length / 2 : Nat) : Int))) then (
   guardB (decide (0 ≤ x587) && decide ((Int.toNat x587) * 2 + 2 ≤ x588.fTo.length)) (
    cS ((((x588.fTo.drop ((Int.toNat x587) * 2)).take 2).drop 0).take 1) fun s592 r593 =>
    bytesK ([.int .u8 (IntKind.wrap .u8 (IntKind.wrap .i64 ((97 : Int) + (Int.tmod x587 (26 : Int)))))] : List Cell) fun s594 =>
    bif decide ((([117] : List UInt8)).length + (s594).length ≤ strLim) then (
     bif (!(s592 == (([117] : List UInt8) ++ s594))) then (
      some (.one (.bool false), G589)) else (
      s583 x584 .nilp x586 (IntKind.wrap .i64 (x587 + (1 : Int))) x588 G589)) else none)) else (
   j582 x584 .nilp x586 G589)) fun b590 o591 =>
 bif (decide (x587 < (((x588.fTo).length / 2 : Nat) : Int))) then (
  guardB (decide (0 ≤ x587) && decide ((Int.toNat x587) * 2 + 2 ≤ x588.fTo.length)) (
   cS ((((x588.fTo.drop ((Int.toNat x587) * 2)).take 2).drop 0).take 1) fun s595 r596 =>
   bytesK ([.int .u8 (IntKind.wrap .u8 (IntKind.wrap .i64 ((97 : Int) + (Int.tmod x587 (26 : Int)))))] : List Cell) fun s597 =>
   bif decide ((([117] : List UInt8)).length + (s597).length ≤ strLim) then (
    bif (!(s595 == (([117] : List UInt8) ++ s597))) then (
     some (.one (.bool false), G589)) else (
     s583 x584 (.gptr b590 o591) x586 (IntKind.wrap .i64 (x587 + (1 : Int))) x588 G589)) else none)) else (
  j582 x584 (.gptr b590 o591) x586 G589)
def f3_B7 (call : CallF) (n : Nat) (j622 : Bool → Cell → Int → Heap → OR) (s623 : Bool → Cell → Int → Int → S_api_Ask → Heap → OR) (x624 : Bool) (x625 : Cell) (x626 x627 : Int) (x628 : S_api_Ask) (G629 : Heap) : OR :=
 castP x625 (
  bif (decide (x627 < (((x628.fTo).length / 2 : Nat) : Int))) then (
   guardB (decide (0 ≤ x627) && decide ((Int.toNat x627) * 2 + 2 ≤ x628.fTo.length)) (
    cS ((((x628.fTo.drop ((Int.toNat x627) * 2)).take 2).drop 0).take 1) fun s632 r633 =>
    bytesK ([.int .u8 (IntKind.wrap .u8 (IntKind.wrap .i64 ((97 : Int) + (Int.tmod x627 (26 : Int)))))] : List Cell) fun s634 =>
    bif decide ((([117] : List UInt8)).length + (s634).length ≤ strLim) then (
     bif (!(s632 == (([117] : List UInt8) ++ s634))) then (
      some (.one (.bool false), G629)) else (
      s623 x624 .nilp x626 (IntKind.wrap .i64 (x627 + (1 : Int))) x628 G629)) else none)) else (
   j622 x624 .nilp x626 G629)) fun b630 o631 =>
 bif (decide (x627 < (((x628.fTo).length / 2 : Nat) : Int))) then (
  guardB (decide (0 ≤ x627) && decide ((Int.toNat x627) * 2 + 2 ≤ x628.fTo.length)) (
   cS ((((x628.fTo.drop ((Int.toNat x627) * 2)).take 2).drop 0).take 1) fun s635 r636 =>
   bytesK ([.int .u8 (IntKind.wrap .u8 (IntKind.wrap .i64 ((97 : Int) + (Int.tmod x627 (26 : Int)))))] : List Cell) fun s637 =>
   bif decide ((([117] : List UInt8)).length + (s637).length ≤ strLim) then (
    bif (!(s635 == (([117] : List UInt8) ++ s637))) then (
     some (.one (.bool false), G629)) else (
     s623 x624 (.gptr b630 o631) x626 (IntKind.wrap .i64 (x627 + (1 : Int))) x628 G629)) else none)) else (
  j622 x624 (.gptr b630 o631) x626 G629)
def f3_B8 (call : CallF) (n : Nat) (j692 : Bool → Cell → Int → Heap → OR) (s693 : Bool → Cell → Int → Int → S_api_Ask → Heap → OR) (x694 : Bool) (x695 : Cell) (x696 x697 : Int) (x698 : S_api_Ask) (G699 : Heap) : OR :=
 castP x695 (
  bif (decide (x697 < (((x698.fTo).length / 2 : Nat) : Int))) then (
   guardB (decide (0 ≤ x697) && decide ((Int.toNat x697) * 2 + 2 ≤ x698.fTo.length)) (
    cS ((((x698.fTo.drop ((Int.toNat x697) * 2)).take 2).drop 0).take 1) fun s702 r703 =>
    bytesK ([.int .u8 (IntKind.wrap .u8 (IntKind.wrap .i64 ((97 : Int) + (Int.tmod x697 (26 : Int)))))] : List Cell) fun s704 =>
    bif decide ((([117] : List UInt8)).length + (s704).length ≤ strLim) then (
     bif (!(s702 == (([117] : List UInt8) ++ s704))) then (
      some (.one (.bool false), G699)) else (
      s693 x694 .nilp x696 (IntKind.wrap .i64 (x697 + (1 : Int))) x698 G699)) else none)) else (
   j692 x694 .nilp x696 G699)) fun b700 o701 =>
 bif (decide (x697 < (((x698.fTo).length / 2 : Nat) : Int))) then (
  guardB (decide (0 ≤ x697) && decide ((Int.toNat x697) * 2 + 2 ≤ x698.fTo.length)) (
   cS ((((x698.fTo.drop ((Int.toNat x697) * 2)).take 2).drop 0).take 1) fun s705 r706 =>
   bytesK ([.int .u8 (IntKind.wrap .u8 (IntKind.wrap .i64 ((97 : Int) + (Int.tmod x697 (26 : Int)))))] : List Cell) fun s707 =>
   bif decide ((([117] : List UInt8)).length + (s707).length ≤ strLim) then (
    bif (!(s705 == (([117] : List UInt8) ++ s707))) then (
     some (.one (.bool false), G699)) else (
     s693 x694 (.gptr b700 o701) x696 (IntKind.wrap .i64 (x697 + (1 : Int))) x698 G699)) else none)) else (
  j692 x694 (.gptr b700 o701) x696 G699)
def f3_B9 (call : CallF) (n : Nat) (j732 : Bool → Cell → Int → Heap → OR) (s733 : Bool → Cell → Int → Int → S_api_Ask → Heap → OR) (x734 : Bool) (x735 : Cell) (x736 x737 : Int) (x738 : S_api_Ask) (G739 : Heap) : OR :=
 castP x735 (
  bif (decide (x737 < (((x738.fTo).length / 2 : Nat) : Int))) then (
   guardB (decide (0 ≤ x737) && decide ((Int.toNat x737) * 2 + 2 ≤ x738.fTo.length)) (
    cS ((((x738.fTo.drop ((Int.toNat x737) * 2)).take 2).drop 0).take 1) fun s742 r743 =>
    bytesK ([.int .u8 (IntKind.wrap .u8 (IntKind.wrap .i64 ((97 : Int) + (Int.tmod x737 (26 : Int)))))] : List Cell) fun s744 =>
    bif decide ((([117] : List UInt8)).length + (s744).length ≤ strLim) then (
     bif (!(s742 == (([117] : List UInt8) ++ s744))) then (
      some (.one (.bool false), G739)) else (
      s733 x734 .nilp x736 (IntKind.wrap .i64 (x737 + (1 : Int))) x738 G739)) else none)) else (
   j732 x734 .nilp x736 G739)) fun b740 o741 =>
 bif (decide (x737 < (((x738.fTo).length / 2 : Nat) : Int))) then (
  guardB (decide (0 ≤ x737) && decide ((Int.toNat x737) * 2 + 2 ≤ x738.fTo.length)) (
   cS ((((x738.fTo.drop ((Int.toNat x737) * 2)).take 2).drop 0).take 1) fun s745 r746 =>
   bytesK ([.int .u8 (IntKind.wrap .u8 (IntKind.wrap .i64 ((97 : Int) + (Int.tmod x737 (26 : Int)))))] : List Cell) fun s747 =>
   bif decide ((([117] : List UInt8)).length + (s747).length ≤ strLim) then (
    bif (!(s745 == (([117] : List UInt8) ++ s747))) then (
     some (.one (.bool false), G739)) else (
     s733 x734 (.gptr b740 o741) x736 (IntKind.wrap .i64 (x737 + (1 : Int))) x738 G739)) else none)) else (
  j732 x734 (.gptr b740 o741) x736 G739)
def f3_L (call : CallF) (n : Nat) (a0 : Bool) (a1 : Int) (G : Heap) : OR :=
 callGK call 7 [] G fun v1 G2 =>
 oB v1 fun b3 =>
 bif (!b3) then (
  some (.one (.bool false), G2)) else (
  joinK (fun (x5 : Bool) (x6 : Int) (x7 : Bool) (G8 : Heap) =>
   bif x7 then (
    some (.one (.bool true), G8)) else (
    joinK (fun (x14 : Bool) (x15 : Int) (x16 : Cell) (G17 : Heap) =>
     castP x16 (
      some (.one (.bool false), G17)) fun b18 o19 =>
     joinK (fun (x21 : Bool) (x22 : Int) (x23 : Cell) (x24 : LB) (G25 : Heap) =>
      castP x23 (
       bif decide ((x24).length + (([77, 65, 73, 76, 32, 70, 82, 79, 77, 58, 60, 62, 13, 10] : List UInt8)).length ≤ strLim) then (
        callGK call 9 [.one .nilp, .one (.sl none 1 (byteCells (x24 ++ ([77, 65, 73, 76, 32, 70, 82, 79, 77, 58, 60, 62, 13, 10] : List UInt8))))] G25 fun v28 G29 =>
        castTup v28 fun v30 =>
        nilK v30 (
         callGK call 10 [.one .nilp] G29 fun v31 G32 =>
         castTup v31 fun v33 =>
         zL 1 v33 fun l34 r35 =>
         consK r35 fun z36 r37 =>
         aggV z36 fun r38 =>
         takeS_api_Ask r38 fun w39 r40 =>
         nilK r40 (
          nilK r37 (
           joinK (fun (x173 : Bool) (x174 : Int) (x175 : Cell) (x176 : Int) (G177 : Heap) =>
            castP x175 (
             callGK call 9 [.one .nilp, .one (.sl none 1 ([.int .u8 (68 : Int), .int .u8 (65 : Int), .int .u8 (84 : Int), .int .u8 (65 : Int), .int .u8 (13 : Int), .int .u8 (10 : Int), .int .u8 (104 : Int), .int .u8 (105 : Int), .int .u8 (13 : Int), .int .u8 (10 : Int), .int .u8 (46 : Int), .int .u8 (13 : Int), .int .u8 (10 : Int)] : List Cell))] G177 fun v180 G181 =>
             castTup v180 fun v182 =>
             nilK v182 (
              callGK call 10 [.one .nilp] G181 fun v183 G184 =>
              castTup v183 fun v185 =>
              zL 1 v185 fun l186 r187 =>
              consK r187 fun z188 r189 =>
              aggV z188 fun r190 =>
              takeS_api_Ask r190 fun w191 r192 =>
              nilK r192 (
               nilK r189 (
                joinK (fun (x203 : Bool) (x204 : Cell) (x205 : Int) (x206 : S_api_Ask) (G207 : Heap) =>
                 castP x204 (
                  joinK (fun (x226 : Bool) (x227 : Cell) (x228 : Int) (G229 : Heap) =>
                   castP x227 (
                    bif (!x226) then (
                     callGK call 11 [.one .nilp] G229 fun v232 G233 =>
                     oI .i64 v232 fun n234 =>
                     bif (n234 == (1 : Int)) then (
                      some (.one (.bool true), G233)) else (
                      bif x226 then (
                       callGK call 11 [.one .nilp] G233 fun v235 G236 =>
                       oI .i64 v235 fun n237 =>
                       some (.one (.bool (n237 == x228)), G236)) else (
                       some (.one (.bool false), G233)))) else (
                     bif x226 then (
                      callGK call 11 [.one .nilp] G229 fun v238 G239 =>
                      oI .i64 v238 fun n240 =>
                      some (.one (.bool (n240 == x228)), G239)) else (
                      some (.one (.bool false), G229)))) fun b230 o231 =>
                   bif (!x226) then (
                    callGK call 11 [.one (.gptr b230 o231)] G229 fun v241 G242 =>
                    oI .i64 v241 fun n243 =>
                    bif (n243 == (1 : Int)) then (
                     some (.one (.bool true), G242)) else (
                     bif x226 then (
                      callGK call 11 [.one (.gptr b230 o231)] G242 fun v244 G245 =>
                      oI .i64 v244 fun n246 =>
                      some (.one (.bool (n246 == x228)), G245)) else (
                      some (.one (.bool false), G242)))) else (
                    bif x226 then (
                     callGK call 11 [.one (.gptr b230 o231)] G229 fun v247 G248 =>
                     oI .i64 v247 fun n249 =>
                     some (.one (.bool (n249 == x228)), G248)) else (
                     some (.one (.bool false), G229)))) fun j210 =>
                  loopJ (α := Bool → Cell → Int → Int → S_api_Ask → Heap → OR) (fun _ _ _ _ _ _ => none) (f3_B1 call n j210) n x203 .nilp x205 (0 : Int) x206 G207) fun b208 o209 =>
                 joinK (fun (x266 : Bool) (x267 : Cell) (x268 : Int) (G269 : Heap) =>
                  castP x267 (
                   bif (!x266) then (
                    callGK call 11 [.one .nilp] G269 fun v272 G273 =>
                    oI .i64 v272 fun n274 =>
                    bif (n274 == (1 : Int)) then (
                     some (.one (.bool true), G273)) else (
                     bif x266 then (
                      callGK call 11 [.one .nilp] G273 fun v275 G276 =>
                      oI .i64 v275 fun n277 =>
                      some (.one (.bool (n277 == x268)), G276)) else (
                      some (.one (.bool false), G273)))) else (
                    bif x266 then (
                     callGK call 11 [.one .nilp] G269 fun v278 G279 =>
                     oI .i64 v278 fun n280 =>
                     some (.one (.bool (n280 == x268)), G279)) else (
                     some (.one (.bool false), G269)))) fun b270 o271 =>
                  bif (!x266) then (
                   callGK call 11 [.one (.gptr b270 o271)] G269 fun v281 G282 =>
                   oI .i64 v281 fun n283 =>
                   bif (n283 == (1 : Int)) then (
                    some (.one (.bool true), G282)) else (
                    bif x266 then (
                     callGK call 11 [.one (.gptr b270 o271)] G282 fun v284 G285 =>
                     oI .i64 v284 fun n286 =>
                     some (.one (.bool (n286 == x268)), G285)) else (
                     some (.one (.bool false), G282)))) else (
                   bif x266 then (
                    callGK call 11 [.one (.gptr b270 o271)] G269 fun v287 G288 =>
                    oI .i64 v287 fun n289 =>
                    some (.one (.bool (n289 == x268)), G288)) else (
                    some (.one (.bool false), G269)))) fun j250 =>
                 loopJ (α := Bool → Cell → Int → Int → S_api_Ask → Heap → OR) (fun _ _ _ _ _ _ => none) (f3_B2 call n j250) n x203 (.gptr b208 o209) x205 (0 : Int) x206 G207) fun j193 =>
                joinK (fun (x195 : Bool) (x196 : Cell) (x197 : Int) (x198 : Bool) (x199 : S_api_Ask) (G200 : Heap) =>
                 castP x196 (
                  bif x198 then (
                   some (.one (.bool false), G200)) else (
                   j193 x195 .nilp x197 x199 G200)) fun b201 o202 =>
                 bif x198 then (
                  some (.one (.bool false), G200)) else (
                  j193 x195 (.gptr b201 o202) x197 x199 G200)) fun j194 =>
                bif (x176 != (minI x174 (20 : Int))) then (
                 j194 x173 .nilp x176 true w191 G184) else (
                 bif (w191.fKind != (2 : Int)) then (
                  j194 x173 .nilp x176 true w191 G184) else (
                  j194 x173 .nilp x176 ((((w191.fTo).length / 2 : Nat) : Int) != x176) w191 G184)))))) fun b178 o179 =>
            callGK call 9 [.one (.gptr b178 o179), .one (.sl none 1 ([.int .u8 (68 : Int), .int .u8 (65 : Int), .int .u8 (84 : Int), .int .u8 (65 : Int), .int .u8 (13 : Int), .int .u8 (10 : Int), .int .u8 (104 : Int), .int .u8 (105 : Int), .int .u8 (13 : Int), .int .u8 (10 : Int), .int .u8 (46 : Int), .int .u8 (13 : Int), .int .u8 (10 : Int)] : List Cell))] G177 fun v290 G291 =>
            castTup v290 fun v292 =>
            nilK v292 (
             callGK call 10 [.one (.gptr b178 o179)] G291 fun v293 G294 =>
             castTup v293 fun v295 =>
             zL 1 v295 fun l296 r297 =>
             consK r297 fun z298 r299 =>
             aggV z298 fun r300 =>
             takeS_api_Ask r300 fun w301 r302 =>
             nilK r302 (
              nilK r299 (
               joinK (fun (x313 : Bool) (x314 : Cell) (x315 : Int) (x316 : S_api_Ask) (G317 : Heap) =>
                castP x314 (
                 joinK (fun (x336 : Bool) (x337 : Cell) (x338 : Int) (G339 : Heap) =>
                  castP x337 (
                   bif (!x336) then (
                    callGK call 11 [.one .nilp] G339 fun v342 G343 =>
                    oI .i64 v342 fun n344 =>
                    bif (n344 == (1 : Int)) then (
                     some (.one (.bool true), G343)) else (
                     bif x336 then (
                      callGK call 11 [.one .nilp] G343 fun v345 G346 =>
                      oI .i64 v345 fun n347 =>
                      some (.one (.bool (n347 == x338)), G346)) else (
                      some (.one (.bool false), G343)))) else (
                    bif x336 then (
                     callGK call 11 [.one .nilp] G339 fun v348 G349 =>
                     oI .i64 v348 fun n350 =>
                     some (.one (.bool (n350 == x338)), G349)) else (
                     some (.one (.bool false), G339)))) fun b340 o341 =>
                  bif (!x336) then (
                   callGK call 11 [.one (.gptr b340 o341)] G339 fun v351 G352 =>
                   oI .i64 v351 fun n353 =>
                   bif (n353 == (1 : Int)) then (
                    some (.one (.bool true), G352)) else (
                    bif x336 then (
                     callGK call 11 [.one (.gptr b340 o341)] G352 fun v354 G355 =>
                     oI .i64 v354 fun n356 =>
                     some (.one (.bool (n356 == x338)), G355)) else (
                     some (.one (.bool false), G352)))) else (
                   bif x336 then (
                    callGK call 11 [.one (.gptr b340 o341)] G339 fun v357 G358 =>
                    oI .i64 v357 fun n359 =>
                    some (.one (.bool (n359 == x338)), G358)) else (
                    some (.one (.bool false), G339)))) fun j320 =>
                 loopJ (α := Bool → Cell → Int → Int → S_api_Ask → Heap → OR) (fun _ _ _ _ _ _ => none) (f3_B3 call n j320) n x313 .nilp x315 (0 : Int) x316 G317) fun b318 o319 =>
                joinK (fun (x376 : Bool) (x377 : Cell) (x378 : Int) (G379 : Heap) =>
                 castP x377 (
                  bif (!x376) then (
                   callGK call 11 [.one .nilp] G379 fun v382 G383 =>
                   oI .i64 v382 fun n384 =>
                   bif (n384 == (1 : Int)) then (
                    some (.one (.bool true), G383)) else (
                    bif x376 then (
                     callGK call 11 [.one .nilp] G383 fun v385 G386 =>
                     oI .i64 v385 fun n387 =>
                     some (.one (.bool (n387 == x378)), G386)) else (
                     some (.one (.bool false), G383)))) else (
                   bif x376 then (
                    callGK call 11 [.one .nilp] G379 fun v388 G389 =>
                    oI .i64 v388 fun n390 =>
                    some (.one (.bool (n390 == x378)), G389)) else (
                    some (.one (.bool false), G379)))) fun b380 o381 =>
                 bif (!x376) then (
                  callGK call 11 [.one (.gptr b380 o381)] G379 fun v391 G392 =>
                  oI .i64 v391 fun n393 =>
                  bif (n393 == (1 : Int)) then (
                   some (.one (.bool true), G392)) else (
                   bif x376 then (
                    callGK call 11 [.one (.gptr b380 o381)] G392 fun v394 G395 =>
                    oI .i64 v394 fun n396 =>
                    some (.one (.bool (n396 == x378)), G395)) else (
                    some (.one (.bool false), G392)))) else (
                  bif x376 then (
                   callGK call 11 [.one (.gptr b380 o381)] G379 fun v397 G398 =>
                   oI .i64 v397 fun n399 =>
                   some (.one (.bool (n399 == x378)), G398)) else (
                   some (.one (.bool false), G379)))) fun j360 =>
                loopJ (α := Bool → Cell → Int → Int → S_api_Ask → Heap → OR) (fun _ _ _ _ _ _ => none) (f3_B4 call n j360) n x313 (.gptr b318 o319) x315 (0 : Int) x316 G317) fun j303 =>
               joinK (fun (x305 : Bool) (x306 : Cell) (x307 : Int) (x308 : Bool) (x309 : S_api_Ask) (G310 : Heap) =>
                castP x306 (
                 bif x308 then (
                  some (.one (.bool false), G310)) else (
                  j303 x305 .nilp x307 x309 G310)) fun b311 o312 =>
                bif x308 then (
                 some (.one (.bool false), G310)) else (
                 j303 x305 (.gptr b311 o312) x307 x309 G310)) fun j304 =>
               bif (x176 != (minI x174 (20 : Int))) then (
                j304 x173 (.gptr b178 o179) x176 true w301 G294) else (
                bif (w301.fKind != (2 : Int)) then (
                 j304 x173 (.gptr b178 o179) x176 true w301 G294) else (
                 j304 x173 (.gptr b178 o179) x176 ((((w301.fTo).length / 2 : Nat) : Int) != x176) w301 G294)))))) fun j41 =>
           loopJ (α := Bool → Int → Cell → Int → Int → Heap → OR) (fun _ _ _ _ _ _ => none) (f3_B0 call n j41) n x21 x22 .nilp (0 : Int) (0 : Int) G32)))) else none) fun b26 o27 =>
      bif decide ((x24).length + (([77, 65, 73, 76, 32, 70, 82, 79, 77, 58, 60, 62, 13, 10] : List UInt8)).length ≤ strLim) then (
       callGK call 9 [.one (.gptr b26 o27), .one (.sl none 1 (byteCells (x24 ++ ([77, 65, 73, 76, 32, 70, 82, 79, 77, 58, 60, 62, 13, 10] : List UInt8))))] G25 fun v400 G401 =>
       castTup v400 fun v402 =>
       nilK v402 (
        callGK call 10 [.one (.gptr b26 o27)] G401 fun v403 G404 =>
        castTup v403 fun v405 =>
        zL 1 v405 fun l406 r407 =>
        consK r407 fun z408 r409 =>
        aggV z408 fun r410 =>
        takeS_api_Ask r410 fun w411 r412 =>
        nilK r412 (
         nilK r409 (
          joinK (fun (x545 : Bool) (x546 : Int) (x547 : Cell) (x548 : Int) (G549 : Heap) =>
           castP x547 (
            callGK call 9 [.one .nilp, .one (.sl none 1 ([.int .u8 (68 : Int), .int .u8 (65 : Int), .int .u8 (84 : Int), .int .u8 (65 : Int), .int .u8 (13 : Int), .int .u8 (10 : Int), .int .u8 (104 : Int), .int .u8 (105 : Int), .int .u8 (13 : Int), .int .u8 (10 : Int), .int .u8 (46 : Int), .int .u8 (13 : Int), .int .u8 (10 : Int)] : List Cell))] G549 fun v552 G553 =>
            castTup v552 fun v554 =>
            nilK v554 (
             callGK call 10 [.one .nilp] G553 fun v555 G556 =>
             castTup v555 fun v557 =>
             zL 1 v557 fun l558 r559 =>
             consK r559 fun z560 r561 =>
             aggV z560 fun r562 =>
             takeS_api_Ask r562 fun w563 r564 =>
             nilK r564 (
              nilK r561 (
               joinK (fun (x575 : Bool) (x576 : Cell) (x577 : Int) (x578 : S_api_Ask) (G579 : Heap) =>
                castP x576 (
                 joinK (fun (x598 : Bool) (x599 : Cell) (x600 : Int) (G601 : Heap) =>
                  castP x599 (
                   bif (!x598) then (
                    callGK call 11 [.one .nilp] G601 fun v604 G605 =>
                    oI .i64 v604 fun n606 =>
                    bif (n606 == (1 : Int)) then (
                     some (.one (.bool true), G605)) else (
                     bif x598 then (
                      callGK call 11 [.one .nilp] G605 fun v607 G608 =>
                      oI .i64 v607 fun n609 =>
                      some (.one (.bool (n609 == x600)), G608)) else (
                      some (.one (.bool false), G605)))) else (
                    bif x598 then (
                     callGK call 11 [.one .nilp] G601 fun v610 G611 =>
                     oI .i64 v610 fun n612 =>
                     some (.one (.bool (n612 == x600)), G611)) else (
                     some (.one (.bool false), G601)))) fun b602 o603 =>
                  bif (!x598) then (
                   callGK call 11 [.one (.gptr b602 o603)] G601 fun v613 G614 =>
                   oI .i64 v613 fun n615 =>
                   bif (n615 == (1 : Int)) then (
                    some (.one (.bool true), G614)) else (
                    bif x598 then (
                     callGK call 11 [.one (.gptr b602 o603)] G614 fun v616 G617 =>
                     oI .i64 v616 fun n618 =>
                     some (.one (.bool (n618 == x600)), G617)) else (
                     some (.one (.bool false), G614)))) else (
                   bif x598 then (
                    callGK call 11 [.one (.gptr b602 o603)] G601 fun v619 G620 =>
                    oI .i64 v619 fun n621 =>
                    some (.one (.bool (n621 == x600)), G620)) else (
                    some (.one (.bool false), G601)))) fun j582 =>
                 loopJ (α := Bool → Cell → Int → Int → S_api_Ask → Heap → OR) (fun _ _ _ _ _ _ => none) (f3_B6 call n j582) n x575 .nilp x577 (0 : Int) x578 G579) fun b580 o581 =>
                joinK (fun (x638 : Bool) (x639 : Cell) (x640 : Int) (G641 : Heap) =>
                 castP x639 (
                  bif (!x638) then (
                   callGK call 11 [.one .nilp] G641 fun v644 G645 =>
                   oI .i64 v644 fun n646 =>
                   bif (n646 == (1 : Int)) then (
                    some (.one (.bool true), G645)) else (
                    bif x638 then (
                     callGK call 11 [.one .nilp] G645 fun v647 G648 =>
                     oI .i64 v647 fun n649 =>
                     some (.one (.bool (n649 == x640)), G648)) else (
                     some (.one (.bool false), G645)))) else (
                   bif x638 then (
                    callGK call 11 [.one .nilp] G641 fun v650 G651 =>
                    oI .i64 v650 fun n652 =>
                    some (.one (.bool (n652 == x640)), G651)) else (
                    some (.one (.bool false), G641)))) fun b642 o643 =>
                 bif (!x638) then (
                  callGK call 11 [.one (.gptr b642 o643)] G641 fun v653 G654 =>
                  oI .i64 v653 fun n655 =>
                  bif (n655 == (1 : Int)) then (
                   some (.one (.bool true), G654)) else (
                   bif x638 then (
                    callGK call 11 [.one (.gptr b642 o643)] G654 fun v656 G657 =>
                    oI .i64 v656 fun n658 =>
                    some (.one (.bool (n658 == x640)), G657)) else (
                    some (.one (.bool false), G654)))) else (
                  bif x638 then (
                   callGK call 11 [.one (.gptr b642 o643)] G641 fun v659 G660 =>
                   oI .i64 v659 fun n661 =>
                   some (.one (.bool (n661 == x640)), G660)) else (
                   some (.one (.bool false), G641)))) fun j622 =>
                loopJ (α := Bool → Cell → Int → Int → S_api_Ask → Heap → OR) (fun _ _ _ _ _ _ => none) (f3_B7 call n j622) n x575 (.gptr b580 o581) x577 (0 : Int) x578 G579) fun j565 =>
               joinK (fun (x567 : Bool) (x568 : Cell) (x569 : Int) (x570 : Bool) (x571 : S_api_Ask) (G572 : Heap) =>
                castP x568 (
                 bif x570 then (
                  some (.one (.bool false), G572)) else (
                  j565 x567 .nilp x569 x571 G572)) fun b573 o574 =>
                bif x570 then (
                 some (.one (.bool false), G572)) else (
                 j565 x567 (.gptr b573 o574) x569 x571 G572)) fun j566 =>
               bif (x548 != (minI x546 (20 : Int))) then (
                j566 x545 .nilp x548 true w563 G556) else (
                bif (w563.fKind != (2 : Int)) then (
                 j566 x545 .nilp x548 true w563 G556) else (
                 j566 x545 .nilp x548 ((((w563.fTo).length / 2 : Nat) : Int) != x548) w563 G556)))))) fun b550 o551 =>
           callGK call 9 [.one (.gptr b550 o551), .one (.sl none 1 ([.int .u8 (68 : Int), .int .u8 (65 : Int), .int .u8 (84 : Int), .int .u8 (65 : Int), .int .u8 (13 : Int), .int .u8 (10 : Int), .int .u8 (104 : Int), .int .u8 (105 : Int), .int .u8 (13 : Int), .int .u8 (10 : Int), .int .u8 (46 : Int), .int .u8 (13 : Int), .int .u8 (10 : Int)] : List Cell))] G549 fun v662 G663 =>
           castTup v662 fun v664 =>
           nilK v664 (
            callGK call 10 [.one (.gptr b550 o551)] G663 fun v665 G666 =>
            castTup v665 fun v667 =>
            zL 1 v667 fun l668 r669 =>
            consK r669 fun z670 r671 =>
            aggV z670 fun r672 =>
            takeS_api_Ask r672 fun w673 r674 =>
            nilK r674 (
             nilK r671 (
              joinK (fun (x685 : Bool) (x686 : Cell) (x687 : Int) (x688 : S_api_Ask) (G689 : Heap) =>
               castP x686 (
                joinK (fun (x708 : Bool) (x709 : Cell) (x710 : Int) (G711 : Heap) =>
                 castP x709 (
                  bif (!x708) then (
                   callGK call 11 [.one .nilp] G711 fun v714 G715 =>
                   oI .i64 v714 fun n716 =>
                   bif (n716 == (1 : Int)) then (
                    some (.one (.bool true), G715)) else (
                    bif x708 then (
                     callGK call 11 [.one .nilp] G715 fun v717 G718 =>
                     oI .i64 v717 fun n719 =>
                     some (.one (.bool (n719 == x710)), G718)) else (
                     some (.one (.bool false), G715)))) else (
                   bif x708 then (
                    callGK call 11 [.one .nilp] G711 fun v720 G721 =>
                    oI .i64 v720 fun n722 =>
                    some (.one (.bool (n722 == x710)), G721)) else (
                    some (.one (.bool false), G711)))) fun b712 o713 =>
                 bif (!x708) then (
                  callGK call 11 [.one (.gptr b712 o713)] G711 fun v723 G724 =>
                  oI .i64 v723 fun n725 =>
                  bif (n725 == (1 : Int)) then (
                   some (.one (.bool true), G724)) else (
                   bif x708 then (
                    callGK call 11 [.one (.gptr b712 o713)] G724 fun v726 G727 =>
                    oI .i64 v726 fun n728 =>
                    some (.one (.bool (n728 == x710)), G727)) else (
                    some (.one (.bool false), G724)))) else (
                  bif x708 then (
                   callGK call 11 [.one (.gptr b712 o713)] G711 fun v729 G730 =>
                   oI .i64 v729 fun n731 =>
                   some (.one (.bool (n731 == x710)), G730)) else (
                   some (.one (.bool false), G711)))) fun j692 =>
                loopJ (α := Bool → Cell → Int → Int → S_api_Ask → Heap → OR) (fun _ _ _ _ _ _ => none) (f3_B8 call n j692) n x685 .nilp x687 (0 : Int) x688 G689) fun b690 o691 =>
               joinK (fun (x748 : Bool) (x749 : Cell) (x750 : Int) (G751 : Heap) =>
                castP x749 (
                 bif (!x748) then (
                  callGK call 11 [.one .nilp] G751 fun v754 G755 =>
                  oI .i64 v754 fun n756 =>
                  bif (n756 == (1 : Int)) then (
                   some (.one (.bool true), G755)) else (
                   bif x748 then (
                    callGK call 11 [.one .nilp] G755 fun v757 G758 =>
                    oI .i64 v757 fun n759 =>
                    some (.one (.bool (n759 == x750)), G758)) else (
                    some (.one (.bool false), G755)))) else (
                  bif x748 then (
                   callGK call 11 [.one .nilp] G751 fun v760 G761 =>
                   oI .i64 v760 fun n762 =>
                   some (.one (.bool (n762 == x750)), G761)) else (
                   some (.one (.bool false), G751)))) fun b752 o753 =>
                bif (!x748) then (
                 callGK call 11 [.one (.gptr b752 o753)] G751 fun v763 G764 =>
                 oI .i64 v763 fun n765 =>
                 bif (n765 == (1 : Int)) then (
                  some (.one (.bool true), G764)) else (
                  bif x748 then (
                   callGK call 11 [.one (.gptr b752 o753)] G764 fun v766 G767 =>
                   oI .i64 v766 fun n768 =>
                   some (.one (.bool (n768 == x750)), G767)) else (
                   some (.one (.bool false), G764)))) else (
                 bif x748 then (
                  callGK call 11 [.one (.gptr b752 o753)] G751 fun v769 G770 =>
                  oI .i64 v769 fun n771 =>
                  some (.one (.bool (n771 == x750)), G770)) else (
                  some (.one (.bool false), G751)))) fun j732 =>
               loopJ (α := Bool → Cell → Int → Int → S_api_Ask → Heap → OR) (fun _ _ _ _ _ _ => none) (f3_B9 call n j732) n x685 (.gptr b690 o691) x687 (0 : Int) x688 G689) fun j675 =>
              joinK (fun (x677 : Bool) (x678 : Cell) (x679 : Int) (x680 : Bool) (x681 : S_api_Ask) (G682 : Heap) =>
               castP x678 (
                bif x680 then (
                 some (.one (.bool false), G682)) else (
                 j675 x677 .nilp x679 x681 G682)) fun b683 o684 =>
               bif x680 then (
                some (.one (.bool false), G682)) else (
                j675 x677 (.gptr b683 o684) x679 x681 G682)) fun j676 =>
              bif (x548 != (minI x546 (20 : Int))) then (
               j676 x545 (.gptr b550 o551) x548 true w673 G666) else (
               bif (w673.fKind != (2 : Int)) then (
                j676 x545 (.gptr b550 o551) x548 true w673 G666) else (
                j676 x545 (.gptr b550 o551) x548 ((((w673.fTo).length / 2 : Nat) : Int) != x548) w673 G666)))))) fun j413 =>
          loopJ (α := Bool → Int → Cell → Int → Int → Heap → OR) (fun _ _ _ _ _ _ => none) (f3_B5 call n j413) n x21 x22 (.gptr b26 o27) (0 : Int) (0 : Int) G404)))) else none) fun j20 =>
     bif x14 then (
      j20 x14 x15 (.gptr b18 o19) ([76, 72, 76, 79, 32, 99, 13, 10] : List UInt8) G17) else (
      j20 x14 x15 (.gptr b18 o19) ([69, 72, 76, 79, 32, 99, 13, 10] : List UInt8) G17)) fun j9 =>
    callGK call 8 [.one (.bool x5), .one (.str ([120, 46, 111, 114, 103] : List UInt8))] G8 fun v10 G11 =>
    oP v10 (
     j9 x5 x6 .nilp G11) fun b12 o13 =>
    j9 x5 x6 (.gptr b12 o13) G11)) fun j4 =>
  bif (decide (a1 < (1 : Int))) then (
   j4 a0 a1 true G2) else (
   j4 a0 a1 (decide (a1 > (30 : Int))) G2))
theorem f3_eq (n : Nat) (a0 : Bool) (a1 : Int) (G : Heap) : acall AXE AXF (n + 1) 3 [.one (.bool a0), .one (.int .i64 a1)] G = f3_L (acall AXE AXF n) (n + 1) a0 a1 G := by kernel_rfl
end
end AX
end Go.Proofs.YtnkppakkeobegaaGreatDoor
