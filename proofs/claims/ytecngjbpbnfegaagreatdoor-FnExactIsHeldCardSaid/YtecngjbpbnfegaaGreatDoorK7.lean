/- Parts of a proof, joined: QM, N5, N6, N7, N8, N9, N10, N11, N12, N13, N14, N15, N16, N17, N18. -/
import Derived.Test.YtecngjbpbnfegaaGreatDoorK6
section
namespace Go.Proofs.YtecngjbpbnfegaaGreatDoor
open Go.RowKit
set_option maxRecDepth 100000
set_option maxHeartbeats 4000000
noncomputable def zay (a0:List (List UInt8)) (v2:Int) (v3:Int):Option ((Int × Int) ⊕ Option (Int)):=
 if(decide (v3<(a0.length:Int)))then
  (zbF a0 v3).bind fun y5=>
  if(decide ((IntKind.i64.wrap (v2-(y5.length:Int)))<0))then
   some (.inr (some (-1)))
  else
   some (.inl ((IntKind.i64.wrap (v2-(y5.length:Int))),(IntKind.i64.wrap (v3+1))))
 else
  some (.inr (some v2))
noncomputable def zcG (a0:List (List UInt8)) (a1:Int):Option (Int):=
 if(decide ((IntKind.i64.wrap (a1-(a0.length:Int)))<0))then
  some (-1)
 else
  za8 (fun s:Int × Int=>zay a0 s.1 s.2) ((IntKind.i64.wrap (a1-(a0.length:Int))),0)
noncomputable def zeR (a0:zb8) (a1:Int):Option (Int):=
 if(decide ((IntKind.i64.wrap (a1-(a0.fName.length:Int)))<0))then
  some (-1)
 else
  some (IntKind.i64.wrap (a1-(a0.fName.length:Int)))
noncomputable def zaF (a0:List zb8) (v2:Int) (v3:Int):Option ((Int × Int) ⊕ Option (Int)):=
 if(decide (v3<(a0.length:Int)))then
  (zbF a0 v3).bind fun y5=>
  (zeR y5 v2).bind fun v6=>
  if(decide (v6<0))then
   some (.inr (some (-1)))
  else
   some (.inl (v6,(IntKind.i64.wrap (v3+1))))
 else
  some (.inr (some v2))
noncomputable def zeb (a0:List zb8) (a1:Int):Option (Int):=
 if(decide ((IntKind.i64.wrap (a1-(a0.length:Int)))<0))then
  some (-1)
 else
  za8 (fun s:Int × Int=>zaF a0 s.1 s.2) ((IntKind.i64.wrap (a1-(a0.length:Int))),0)
noncomputable def zcs (a0:zab) (a1:Int):Option (Int):=
 if(decide ((IntKind.i64.wrap (a1-(a0.fName.length:Int)))<0))then
  some (-1)
 else
  (zcG a0.fCols (IntKind.i64.wrap (a1-(a0.fName.length:Int)))).bind fun v2=>
  if(decide (v2<0))then
   some (-1)
  else
   (zeb a0.fIdxs v2).bind fun v4=>
   if(decide (v4<0))then
    some (-1)
   else
    some v4
noncomputable def zbC (a0:List zab) (v2:Int) (v3:Int):Option ((Int × Int) ⊕ Option (Int)):=
 if(decide (v3<(a0.length:Int)))then
  (zbF a0 v3).bind fun y5=>
  (zcs y5 v2).bind fun v6=>
  if(decide (v6<0))then
   some (.inr (some (-1)))
  else
   some (.inl (v6,(IntKind.i64.wrap (v3+1))))
 else
  some (.inr (some v2))
noncomputable def zeV (a0:List zab) (a1:Int):Option (Int):=
 if(decide ((IntKind.i64.wrap (a1-(a0.length:Int)))<0))then
  some (-1)
 else
  za8 (fun s:Int × Int=>zbC a0 s.1 s.2) ((IntKind.i64.wrap (a1-(a0.length:Int))),0)
noncomputable def zfZ (a0:List Int) (a1:Int):Option (Int):=
 if(decide ((IntKind.i64.wrap (a1-(a0.length:Int)))<0))then
  some (-1)
 else
  some (IntKind.i64.wrap (a1-(a0.length:Int)))
noncomputable def zdC (a0:zag) (a1:Int):Option (Int):=
 if(decide ((IntKind.i64.wrap (a1-(a0.fKey.length:Int)))<0))then
  some (-1)
 else
  if(decide ((IntKind.i64.wrap ((IntKind.i64.wrap (a1-(a0.fKey.length:Int)))-(a0.fVal.length:Int)))<0))then
   some (-1)
  else
   some (IntKind.i64.wrap ((IntKind.i64.wrap (a1-(a0.fKey.length:Int)))-(a0.fVal.length:Int)))
noncomputable def zaE (a0:List zag) (v2:Int) (v3:Int):Option ((Int × Int) ⊕ Option (Int)):=
 if(decide (v3<(a0.length:Int)))then
  (zbF a0 v3).bind fun y5=>
  (zdC y5 v2).bind fun v6=>
  if(decide (v6<0))then
   some (.inr (some (-1)))
  else
   some (.inl (v6,(IntKind.i64.wrap (v3+1))))
 else
  some (.inr (some v2))
noncomputable def zb5 (a0:List zag) (a1:Int):Option (Int):=
 if(decide ((IntKind.i64.wrap (a1-(a0.length:Int)))<0))then
  some (-1)
 else
  za8 (fun s:Int × Int=>zaE a0 s.1 s.2) ((IntKind.i64.wrap (a1-(a0.length:Int))),0)
noncomputable def zfe (a0:zaB) (a1:Int):Option (Int):=
 if(decide ((IntKind.i64.wrap (a1-(a0.fName.length:Int)))<0))then
  some (-1)
 else
  (zeV a0.fWays (IntKind.i64.wrap (a1-(a0.fName.length:Int)))).bind fun v2=>
  if(decide (v2<0))then
   some (-1)
  else
   (zfZ a0.fAt v2).bind fun v4=>
   if(decide (v4<0))then
    some (-1)
   else
    (zb5 a0.fStore v4).bind fun v6=>
    if(decide (v6<0))then
     some (-1)
    else
     some v6
noncomputable def zaM (a0:List (List UInt8)) (v2:Int) (v3:List (List UInt8)):Option ((Int × List (List UInt8)) ⊕ Option (List (List UInt8))):=
 if(decide (v2<(a0.length:Int)))then
  (zbF a0 v2).bind fun y5=>
  (zbF v3 v2).bind fun y6=>
  some (.inl ((IntKind.i64.wrap (v2+1)),(v3.set (v2).toNat y5)))
 else
  some (.inr (some v3))
noncomputable def zcI (a0:List (List UInt8)):Option (List (List UInt8)):=
 req (0≤(a0.length:Int)∧(a0.length:Int)*16≤140737488355328∧(a0.length:Int)≤140737488355328)<|
 za8 (fun s:Int × List (List UInt8)=>zaM a0 s.1 s.2) (0,(List.replicate ((a0.length:Int)).toNat ([]:List UInt8)))
noncomputable def zg4 (a0:zb8):Option (zb8):=
 some a0
noncomputable def zbf (a0:List zb8) (v2:Int) (v3:List zb8):Option ((Int × List zb8) ⊕ Option (List zb8)):=
 if(decide (v2<(a0.length:Int)))then
  (zbF a0 v2).bind fun y5=>
  (zg4 y5).bind fun v6=>
  (zbF v3 v2).bind fun y7=>
  some (.inl ((IntKind.i64.wrap (v2+1)),(v3.set (v2).toNat v6)))
 else
  some (.inr (some v3))
noncomputable def zd7 (a0:List zb8):Option (List zb8):=
 req (0≤(a0.length:Int)∧(a0.length:Int)*32≤140737488355328∧(a0.length:Int)≤140737488355328)<|
 za8 (fun s:Int × List zb8=>zbf a0 s.1 s.2) (0,(List.replicate ((a0.length:Int)).toNat (⟨([]:List UInt8),0,0⟩:zb8)))
noncomputable def zb3 (a0:zab):Option (zab):=
 (zcI a0.fCols).bind fun v1=>
 (zd7 a0.fIdxs).bind fun v2=>
 some (⟨a0.fName,v1,v2⟩:zab)
noncomputable def zb7 (a0:List zab) (v2:Int) (v3:List zab):Option ((Int × List zab) ⊕ Option (List zab)):=
 if(decide (v2<(a0.length:Int)))then
  (zbF a0 v2).bind fun y5=>
  (zb3 y5).bind fun v6=>
  (zbF v3 v2).bind fun y7=>
  some (.inl ((IntKind.i64.wrap (v2+1)),(v3.set (v2).toNat v6)))
 else
  some (.inr (some v3))
noncomputable def zeN (a0:List zab):Option (List zab):=
 req (0≤(a0.length:Int)∧(a0.length:Int)*64≤140737488355328∧(a0.length:Int)≤140737488355328)<|
 za8 (fun s:Int × List zab=>zb7 a0 s.1 s.2) (0,(List.replicate ((a0.length:Int)).toNat (⟨([]:List UInt8), [], []⟩:zab)))
noncomputable def zcE (a0:List Int) (v2:Int) (v3:List Int):Option ((Int × List Int) ⊕ Option (List Int)):=
 if(decide (v2<(a0.length:Int)))then
  (zbF a0 v2).bind fun y5=>
  (zbF v3 v2).bind fun y6=>
  some (.inl ((IntKind.i64.wrap (v2+1)),(v3.set (v2).toNat y5)))
 else
  some (.inr (some v3))
noncomputable def zf4 (a0:List Int):Option (List Int):=
 req (0≤(a0.length:Int)∧(a0.length:Int)*8≤140737488355328∧(a0.length:Int)≤140737488355328)<|
 za8 (fun s:Int × List Int=>zcE a0 s.1 s.2) (0,(List.replicate ((a0.length:Int)).toNat 0))
noncomputable def zfd (a0:zag):Option (zag):=
 some a0
noncomputable def zaW (a0:List zag) (v2:Int) (v3:List zag):Option ((Int × List zag) ⊕ Option (List zag)):=
 if(decide (v2<(a0.length:Int)))then
  (zbF a0 v2).bind fun y5=>
  (zfd y5).bind fun v6=>
  (zbF v3 v2).bind fun y7=>
  some (.inl ((IntKind.i64.wrap (v2+1)),(v3.set (v2).toNat v6)))
 else
  some (.inr (some v3))
noncomputable def zbI (a0:List zag):Option (List zag):=
 req (0≤(a0.length:Int)∧(a0.length:Int)*40≤140737488355328∧(a0.length:Int)≤140737488355328)<|
 za8 (fun s:Int × List zag=>zaW a0 s.1 s.2) (0,(List.replicate ((a0.length:Int)).toNat (⟨([]:List UInt8),([]:List UInt8),false⟩:zag)))
noncomputable def zdy (a0:zaB):Option (zaB):=
 (zeN a0.fWays).bind fun v1=>
 (zf4 a0.fAt).bind fun v2=>
 (zbI a0.fStore).bind fun v3=>
 some (⟨a0.fName,v1,v2,v3⟩:zaB)
noncomputable def zcF (a0:Int) (a1:Int) (a2:Int):Option (Bool):=
 some ((decide (a0≥a1))&&(decide (a0≤a2)))
noncomputable def zcc (a0:List UInt8) (a1:Int):Option (Bool):=
 some ((decide ((a0.length:Int)≥1))&&(decide ((a0.length:Int)≤a1)))
noncomputable def zcN (a0:List UInt8) (a1:Int) (v1:Int):Option ((Int) ⊕ Option (Bool)):=
 if(decide (v1<(a0.length:Int)))then
  (zbF a0 v1).bind fun y3=>
  if((decide ((y3.toNat:Int)<97))||(decide ((y3.toNat:Int)>122)))then
   some (.inr (some false))
  else
   some (.inl (IntKind.i64.wrap (v1+1)))
 else
  some (.inr (zcc a0 a1))
noncomputable def zch (a0:List UInt8) (a1:Int):Option (Bool):=
 za8 (fun s:Int=>zcN a0 a1 s) 0
noncomputable def zeT (a0:List (List UInt8)) (a1:List UInt8) (v1:Int):Option ((Int) ⊕ Option (Int)):=
 if(decide (v1<(a0.length:Int)))then
  (zbF a0 v1).bind fun y3=>
  if(y3==a1)then
   some (.inr (some v1))
  else
   some (.inl (IntKind.i64.wrap (v1+1)))
 else
  some (.inr (some (-1)))
noncomputable def zfK (a0:List (List UInt8)) (a1:List UInt8):Option (Int):=
 za8 (fun s:Int=>zeT a0 a1 s) 0
noncomputable def zcW (a0:List (List UInt8)):Option (Bool):=
 (zcF (a0.length:Int) 2 4).bind fun v1=>
 some v1
noncomputable def zdW (a0:List (List UInt8)) (v2:Int):Option ((Int) ⊕ Option (Bool)):=
 if(decide (v2<(a0.length:Int)))then
  (zbF a0 v2).bind fun y4=>
  (zch y4 3).bind fun v5=>
  if v5 then
   req (0≤(0:Int)∧(0:Int)≤v2∧v2≤(a0.length:Int))<|
   (zfK (zhh a0 0 v2) y4).bind fun v7=>
   if(decide (v7≥0))then
    some (.inr (some false))
   else
    some (.inl (IntKind.i64.wrap (v2+1)))
  else
   some (.inr (some false))
 else
  some (.inr (zcW a0))
noncomputable def zfn (a0:List (List UInt8)):Option (Bool):=
 za8 (fun s:Int=>zdW a0 s) 0
noncomputable def zcq (a0:zab) (v5:Int):Option ((Int) ⊕ Option (Bool)):=
 if(decide (v5<(a0.fIdxs.length:Int)))then
  (zbF a0.fIdxs v5).bind fun y7=>
  (zch y7.fName 1).bind fun v8=>
  if v8 then
   (zcF y7.fCol 1 (IntKind.i64.wrap ((a0.fCols.length:Int)-1))).bind fun v10=>
   if v10 then
    (zcF y7.fStage 0 3).bind fun v12=>
    if(decide (v5>0))then
     if v12 then
      (zbF a0.fIdxs (IntKind.i64.wrap (v5-1))).bind fun y15=>
      if(!Op.bytesLess y15.fName y7.fName)then
       some (.inr (some false))
      else
       some (.inl (IntKind.i64.wrap (v5+1)))
     else
      some (.inr (some false))
    else
     if((!v12)||false)then
      some (.inr (some false))
     else
      some (.inl (IntKind.i64.wrap (v5+1)))
   else
    some (.inr (some false))
  else
   some (.inr (some false))
 else
  some (.inr (some true))
noncomputable def zce (a0:zab):Option (Bool):=
 (zch a0.fName 1).bind fun v1=>
 if v1 then
  (zfn a0.fCols).bind fun v3=>
  if((!v3)||(decide ((a0.fIdxs.length:Int)>3)))then
   some false
  else
   za8 (fun s:Int=>zcq a0 s) 0
 else
  some false
noncomputable def zeo (a0:zab) (a1:List UInt8) (v1:Int):Option ((Int) ⊕ Option (Int)):=
 if(decide (v1<(a0.fIdxs.length:Int)))then
  (zbF a0.fIdxs v1).bind fun y3=>
  if(y3.fName==a1)then
   some (.inr (some v1))
  else
   some (.inl (IntKind.i64.wrap (v1+1)))
 else
  some (.inr (some (-1)))
noncomputable def zbk (a0:zab) (a1:List UInt8):Option (Int):=
 za8 (fun s:Int=>zeo a0 a1 s) 0
noncomputable def ze6 (a0:zab):Option (zab):=
 req (((([]:List (List UInt8)).length:Int)+((a0.fCols).length:Int))*16≤140737488355328∧(([]:List (List UInt8)).length:Int)+((a0.fCols).length:Int)≤140737488355328)<|
 req (((([]:List zb8).length:Int)+((a0.fIdxs).length:Int))*32≤140737488355328∧(([]:List zb8).length:Int)+((a0.fIdxs).length:Int)≤140737488355328)<|
 some a0
noncomputable def zeY (a0:zab) (a1:List UInt8) (a2:Int):Option (zab):=
 (ze6 a0).bind fun v1=>
 (zbk a0 a1).bind fun v2=>
 (zbF v1.fIdxs v2).bind fun y3=>
 some (⟨v1.fName,v1.fCols,(v1.fIdxs.set (v2).toNat {y3 with fStage:=a2})⟩:zab)
noncomputable def zcJ (a0:zab) (a1:List UInt8) (a2:Int) (v4:Int) (v5:List zab):Option ((Int × List zab) ⊕ Option (List zab)):=
 if(v4 !=a2)then
  if(decide (v4<a2))then
   (zeY a0 a1 (IntKind.i64.wrap (v4+1))).bind fun v9=>
   req ((((v5).length:Int)+(([v9]:List zab).length:Int))*64≤140737488355328∧((v5).length:Int)+(([v9]:List zab).length:Int)≤140737488355328)<|
   some (.inl ((IntKind.i64.wrap (v4+1)),(v5++ [v9])))
  else
   (zeY a0 a1 (IntKind.i64.wrap (v4-1))).bind fun v11=>
   req ((((v5).length:Int)+(([v11]:List zab).length:Int))*64≤140737488355328∧((v5).length:Int)+(([v11]:List zab).length:Int)≤140737488355328)<|
   some (.inl ((IntKind.i64.wrap (v4-1)),(v5++ [v11])))
 else
  some (.inr (some v5))
noncomputable def zf6 (a0:zab) (a1:List UInt8) (a2:Int):Option (List zab):=
 (ze6 a0).bind fun v1=>
 (zbk a0 a1).bind fun v2=>
 (zbF a0.fIdxs v2).bind fun y3=>
 za8 (fun s:Int × List zab=>zcJ a0 a1 a2 s.1 s.2) (y3.fStage, [v1])
noncomputable def zbs (a0:zab) (a1:zab) (v2:Int):Option ((Int) ⊕ Option (Bool)):=
 if(decide (v2<(a0.fIdxs.length:Int)))then
  (zbF a0.fIdxs v2).bind fun y4=>
  (zbF a1.fIdxs v2).bind fun y5=>
  if((y4.fName !=y5.fName)||(y4.fCol !=y5.fCol))then
   some (.inr (some false))
  else
   some (.inl (IntKind.i64.wrap (v2+1)))
 else
  some (.inr (some true))
noncomputable def zbv (a0:zab) (a1:zab):Option (Bool):=
 za8 (fun s:Int=>zbs a0 a1 s) 0
noncomputable def zbq (a0:zab) (a1:zab) (v7:Int):Option ((Int) ⊕ Option (Bool)):=
 if(decide (v7<(a0.fCols.length:Int)))then
  (zbF a0.fCols v7).bind fun y9=>
  (zbF a1.fCols v7).bind fun y10=>
  if(y9 !=y10)then
   some (.inr (some false))
  else
   some (.inl (IntKind.i64.wrap (v7+1)))
 else
  some (.inr (zbv a0 a1))
noncomputable def zdp (a0:zab) (a1:zab):Option (Bool):=
 if(((a0.fName !=a1.fName)||((a0.fCols.length:Int) !=(a1.fCols.length:Int)))||((a0.fIdxs.length:Int) !=(a1.fIdxs.length:Int)))then
  some false
 else
  za8 (fun s:Int=>zbq a0 a1 s) 0
noncomputable def zf8 (a0:Int) (a1:Int):Option (Int):=
 if(decide (a0>a1))then
  some a0
 else
  some a1
noncomputable def zcd (a0:zab) (a1:zab) (v1:Int) (v2:Int):Option ((Int × Int) ⊕ Option (Int)):=
 if(decide (v2<(a0.fIdxs.length:Int)))then
  (zbF a0.fIdxs v2).bind fun y4=>
  (zbF a1.fIdxs v2).bind fun y5=>
  (zf8 (IntKind.i64.wrap (y4.fStage-y5.fStage)) (IntKind.i64.wrap (0-(IntKind.i64.wrap (y4.fStage-y5.fStage))))).bind fun v6=>
  some (.inl ((IntKind.i64.wrap (v1+v6)),(IntKind.i64.wrap (v2+1))))
 else
  some (.inr (some v1))
noncomputable def zf0 (a0:zab) (a1:zab):Option (Int):=
 za8 (fun s:Int × Int=>zcd a0 a1 s.1 s.2) (0,0)
noncomputable def zck (a0:zaB) (v15:List zab) (v17:Int):Option ((Int) ⊕ Option (Bool)):=
 if(decide (v17<(v15.length:Int)))then
  (zbF a0.fWays v17).bind fun y19=>
  (zce y19).bind fun v20=>
  if v20 then
   (zbF v15 v17).bind fun y22=>
   (zdp y22 y19).bind fun v23=>
   if v23 then
    (zf0 y22 y19).bind fun v25=>
    if(v25 !=0)then
     some (.inr (some false))
    else
     some (.inl (IntKind.i64.wrap (v17+1)))
   else
    some (.inr (some false))
  else
   some (.inr (some false))
 else
  some (.inr (some true))
noncomputable def zdx (a0:zaB):Option (Bool):=
 (zcF (a0.fWays.length:Int) 1 4).bind fun v1=>
 if v1 then
  (zbF a0.fWays 0).bind fun y3=>
  (zce y3).bind fun v4=>
  if v4 then
   (zbk y3 a0.fName).bind fun v6=>
   if(decide (v6<0))then
    some false
   else
    (zbF a0.fWays (IntKind.i64.wrap ((a0.fWays.length:Int)-1))).bind fun y8=>
    (zce y8).bind fun v9=>
    if v9 then
     (zbk y8 a0.fName).bind fun v11=>
     if(decide (v11<0))then
      some false
     else
      (zbk y8 a0.fName).bind fun v13=>
      (zbF y8.fIdxs v13).bind fun y14=>
      (zf6 y3 a0.fName y14.fStage).bind fun v15=>
      if((v15.length:Int) !=(a0.fWays.length:Int))then
       some false
      else
       za8 (fun s:Int=>zck a0 v15 s) 0
    else
     some false
  else
   some false
 else
  some false
noncomputable def zcx (a0:List Int) (a1:Int) (a2:Int) (v1:Int):Option ((Int) ⊕ Option (Bool)):=
 if(decide (v1<(a0.length:Int)))then
  (zbF a0 v1).bind fun y3=>
  (zcF y3 a1 a2).bind fun v4=>
  if(!v4)then
   some (.inr (some false))
  else
   some (.inl (IntKind.i64.wrap (v1+1)))
 else
  some (.inr (some true))
noncomputable def zg0 (a0:List Int) (a1:Int) (a2:Int):Option (Bool):=
 za8 (fun s:Int=>zcx a0 a1 a2 s) 0
noncomputable def zcY (v1:Int) (v4:Bool):Option ((Int) ⊕ Option (Bool)):=
 if(!v4)then
  some (.inr (some false))
 else
  some (.inl (IntKind.i64.wrap (v1+1)))
noncomputable def zci (a1:List UInt8) (v1:Int) (y3:UInt8) (v6:Bool) (v7:Int):Option ((Bool × Int) ⊕ Option ((Int) ⊕ Option (Bool))):=
 if(decide (v7<(a1.length:Int)))then
  if v6 then
   some (.inl (true,(IntKind.i64.wrap (v7+1))))
  else
   (zbF a1 v7).bind fun y10=>
   some (.inl (((y3.toNat:Int)==(y10.toNat:Int)),(IntKind.i64.wrap (v7+1))))
 else
  some (.inr (zcY v1 v6))
noncomputable def zdO (a0:List UInt8) (a1:List UInt8) (v1:Int):Option ((Int) ⊕ Option (Bool)):=
 if(decide (v1<(a0.length:Int)))then
  (zbF a0 v1).bind fun y3=>
  za8 (fun s:Bool × Int=>zci a1 v1 y3 s.1 s.2) ((((decide ((y3.toNat:Int)≥97))&&(decide ((y3.toNat:Int)≤122)))||((decide ((y3.toNat:Int)≥48))&&(decide ((y3.toNat:Int)≤57)))),0)
 else
  some (.inr (some true))
noncomputable def zdw (a0:List UInt8) (a1:List UInt8):Option (Bool):=
 za8 (fun s:Int=>zdO a0 a1 s) 0
noncomputable def zgW (a0:List UInt8):Option (Bool):=
 (zcF (a0.length:Int) 1 12).bind fun v1=>
 if v1 then
  (zdw a0 ([46,47]:List UInt8)).bind fun v3=>
  some v3
 else
  some false
noncomputable def zg3 (a0:List UInt8):Option (Bool):=
 if(decide ((a0.length:Int)≤24))then
  (zdw a0 ([46,45,44,95]:List UInt8)).bind fun v2=>
  some v2
 else
  some false
noncomputable def zfc (a0:List UInt8) (a1:List UInt8) (a2:Bool):Option (Bool):=
 (zgW a0).bind fun v1=>
 if v1 then
  (zg3 a1).bind fun v3=>
  some (v3&&((!a2)||(a1==([]:List UInt8))))
 else
  some false
noncomputable def zcC (a0:List zag):Option (Bool):=
 some (decide ((a0.length:Int)≤24))
noncomputable def zdk (a0:List zag) (v1:Int):Option ((Int) ⊕ Option (Bool)):=
 if(decide (v1<(a0.length:Int)))then
  (zbF a0 v1).bind fun y3=>
  (zfc y3.fKey y3.fVal y3.fGone).bind fun v4=>
  if(decide (v1>0))then
   if v4 then
    (zbF a0 (IntKind.i64.wrap (v1-1))).bind fun y7=>
    if(!Op.bytesLess y7.fKey y3.fKey)then
     some (.inr (some false))
    else
     some (.inl (IntKind.i64.wrap (v1+1)))
   else
    some (.inr (some false))
  else
   if((!v4)||false)then
    some (.inr (some false))
   else
    some (.inl (IntKind.i64.wrap (v1+1)))
 else
  some (.inr (zcC a0))
noncomputable def zeK (a0:List zag):Option (Bool):=
 za8 (fun s:Int=>zdk a0 s) 0
noncomputable def zdj (a0:List zag):Option (Bool):=
 (zeK a0).bind fun v1=>
 some v1
noncomputable def zew (a0:List zag) (v2:Int):Option ((Int) ⊕ Option (Bool)):=
 if(decide (v2<(a0.length:Int)))then
  (zbF a0 v2).bind fun y4=>
  if y4.fGone then
   some (.inr (some false))
  else
   some (.inl (IntKind.i64.wrap (v2+1)))
 else
  some (.inr (zdj a0))
noncomputable def zeZ (a0:List zag):Option (Bool):=
 za8 (fun s:Int=>zew a0 s) 0
noncomputable def zeu (a0:zaB):Option (Bool):=
 (zdx a0).bind fun v1=>
 if v1 then
  (zcF (a0.fAt.length:Int) 1 3).bind fun v3=>
  if v3 then
   (zg0 a0.fAt 0 (IntKind.i64.wrap ((a0.fWays.length:Int)-1))).bind fun v5=>
   if v5 then
    (zeZ a0.fStore).bind fun v7=>
    some v7
   else
    some false
  else
   some false
 else
  some false
noncomputable def zbt (a0:zaB) (v1:List Int) (v2:Int):Option ((List Int × Int) ⊕ Option (List Int)):=
 if(decide (v2<(a0.fAt.length:Int)))then
  (zbF a0.fAt v2).bind fun y4=>
  (zbF a0.fWays y4).bind fun y5=>
  (zbk y5 a0.fName).bind fun v6=>
  (zbF y5.fIdxs v6).bind fun y7=>
  req ((((v1).length:Int)+(([y7.fStage]:List Int).length:Int))*8≤140737488355328∧((v1).length:Int)+(([y7.fStage]:List Int).length:Int)≤140737488355328)<|
  some (.inl ((v1++ [y7.fStage]),(IntKind.i64.wrap (v2+1))))
 else
  some (.inr (some v1))
noncomputable def zes (a0:zaB):Option (List Int):=
 za8 (fun s:List Int × Int=>zbt a0 s.1 s.2) ([],0)
noncomputable def zcv (a0:List Int) (a1:Int) (v1:Int):Option ((Int) ⊕ Option (Bool)):=
 if(decide (v1<(a0.length:Int)))then
  (zbF a0 v1).bind fun y3=>
  if(y3==a1)then
   some (.inr (some true))
  else
   some (.inl (IntKind.i64.wrap (v1+1)))
 else
  some (.inr (some false))
noncomputable def zfN (a0:List Int) (a1:Int):Option (Bool):=
 za8 (fun s:Int=>zcv a0 a1 s) 0
noncomputable def zfi (a0:zaB):Option (Int):=
 (zes a0).bind fun v1=>
 (zfN v1 3).bind fun v2=>
 if v2 then
  some 2
 else
  (zfN v1 0).bind fun v4=>
  if v4 then
   some 0
  else
   some 1
noncomputable def zcV (a0:List UInt8) (v1:Int) (v2:List (List UInt8)):Option (List (List UInt8)):=
 req (0≤v1∧v1≤(a0.length:Int)∧(a0.length:Int)≤(a0.length:Int))<|
 req ((((v2).length:Int)+(([(zhh a0 v1 (a0.length:Int))]:List (List UInt8)).length:Int))*16≤140737488355328∧((v2).length:Int)+(([(zhh a0 v1 (a0.length:Int))]:List (List UInt8)).length:Int)≤140737488355328)<|
 some (v2++ [(zhh a0 v1 (a0.length:Int))])
noncomputable def zb1 (a0:List UInt8) (a1:Int) (v5:List (List UInt8)) (v6:Int) (v7:Int):Option ((List (List UInt8) × Int × Int) ⊕ Option (List (List UInt8))):=
 if(decide (v7<(a0.length:Int)))then
  (zbF a0 v7).bind fun y10=>
  if((y10.toNat:Int)==a1)then
   req (0≤v6∧v6≤v7∧v7≤(a0.length:Int))<|
   req ((((v5).length:Int)+(([(zhh a0 v6 v7)]:List (List UInt8)).length:Int))*16≤140737488355328∧((v5).length:Int)+(([(zhh a0 v6 v7)]:List (List UInt8)).length:Int)≤140737488355328)<|
   some (.inl ((v5++ [(zhh a0 v6 v7)]),(IntKind.i64.wrap (v7+1)),(IntKind.i64.wrap (v7+1))))
  else
   some (.inl (v5,v6,(IntKind.i64.wrap (v7+1))))
 else
  some (.inr (zcV a0 v6 v5))
noncomputable def zcU (a0:List UInt8) (a1:Int):Option (List (List UInt8)):=
 za8 (fun s:List (List UInt8) × Int × Int=>zb1 a0 a1 s.1 s.2.1 s.2.2) ([],0,0)
noncomputable def zc7 (a0:List UInt8):Option (Bool):=
 (zcF (a0.length:Int) 1 3).bind fun v1=>
 if v1 then
  (zdw a0 ([]:List UInt8)).bind fun v3=>
  some v3
 else
  some false
noncomputable def zc8 (a0:zab) (a1:List UInt8) (a2:List UInt8):Option (List UInt8 × List UInt8 × Bool):=
 (zcU a2 47).bind fun v1=>
 if((v1.length:Int) !=3)then
  some (([]:List UInt8),([]:List UInt8),false)
 else
  (zbF v1 0).bind fun y3=>
  req ((a0.fName).length+(([46]:List UInt8)).length≤9223372036854775807)<|
  req (((a0.fName++([46]:List UInt8))).length+(a1).length≤9223372036854775807)<|
  if(y3 !=((a0.fName++([46]:List UInt8))++a1))then
   some (([]:List UInt8),([]:List UInt8),false)
  else
   (zbF v1 1).bind fun y7=>
   (zc7 y7).bind fun v8=>
   if v8 then
    (zbF v1 2).bind fun y10=>
    (zc7 y10).bind fun v11=>
    if(!v11)then
     some (([]:List UInt8),([]:List UInt8),false)
    else
     some (y7,y10,true)
   else
    some (([]:List UInt8),([]:List UInt8),false)
noncomputable def zbg (a0:zab) (a1:List UInt8) (a2:List zag) (v1:List (List UInt8)) (v2:Int):Option ((List (List UInt8) × Int) ⊕ Option (List (List UInt8))):=
 if(decide (v2<(a2.length:Int)))then
  (zbF a2 v2).bind fun y5=>
  (zc8 a0 a1 y5.fKey).bind fun v6=>
  if v6.2.2 then
   req ((((v1).length:Int)+(([y5.fKey]:List (List UInt8)).length:Int))*16≤140737488355328∧((v1).length:Int)+(([y5.fKey]:List (List UInt8)).length:Int)≤140737488355328)<|
   some (.inl ((v1++ [y5.fKey]),(IntKind.i64.wrap (v2+1))))
  else
   some (.inl (v1,(IntKind.i64.wrap (v2+1))))
 else
  some (.inr (some v1))
noncomputable def zcZ (a0:zab) (a1:List UInt8) (a2:List zag):Option (List (List UInt8)):=
 za8 (fun s:List (List UInt8) × Int=>zbg a0 a1 a2 s.1 s.2) ([],0)
noncomputable def zb9 (a0:zab) (a1:List UInt8) (a2:List zag):Option (Bool):=
 (zce a0).bind fun v1=>
 if v1 then
  (zbk a0 a1).bind fun v3=>
  if(decide (v3≥0))then
   (zeZ a2).bind fun v5=>
   some v5
  else
   some false
 else
  some false
noncomputable def zcX (a0:zab) (a1:zdN):Option (Bool):=
 some ((a1.fVals.length:Int)==(a0.fCols.length:Int))
noncomputable def zd1 (a0:zab) (a1:zdN) (v1:Int):Option ((Int) ⊕ Option (Bool)):=
 if(decide (v1<(a1.fVals.length:Int)))then
  (zbF a1.fVals v1).bind fun y3=>
  (zc7 y3).bind fun v4=>
  if(!v4)then
   some (.inr (some false))
  else
   some (.inl (IntKind.i64.wrap (v1+1)))
 else
  some (.inr (zcX a0 a1))
noncomputable def zfl (a0:zab) (a1:zdN):Option (Bool):=
 za8 (fun s:Int=>zd1 a0 a1 s) 0
noncomputable def zbU (a0:List (List UInt8)) (a1:List UInt8) (v1:List UInt8) (v2:Int):Option ((List UInt8 × Int) ⊕ Option (List UInt8)):=
 if(decide (v2<(a0.length:Int)))then
  (zbF a0 v2).bind fun y4=>
  if(decide (v2>0))then
   req ((v1).length+(a1).length≤9223372036854775807)<|
   req (((v1++a1)).length+(y4).length≤9223372036854775807)<|
   some (.inl (((v1++a1)++y4),(IntKind.i64.wrap (v2+1))))
  else
   req ((v1).length+(y4).length≤9223372036854775807)<|
   some (.inl ((v1++y4),(IntKind.i64.wrap (v2+1))))
 else
  some (.inr (some v1))
noncomputable def zgI (a0:List (List UInt8)) (a1:List UInt8):Option (List UInt8):=
 za8 (fun s:List UInt8 × Int=>zbU a0 a1 s.1 s.2) (([]:List UInt8),0)
noncomputable def zeS (a0:zab) (a1:zdN):Option (zag):=
 req ((a0.fName).length+(([47]:List UInt8)).length≤9223372036854775807)<|
 (zbF a1.fVals 0).bind fun y2=>
 req (((a0.fName++([47]:List UInt8))).length+(y2).length≤9223372036854775807)<|
 req (0≤(1:Int)∧(1:Int)≤(a1.fVals.length:Int)∧(a1.fVals.length:Int)≤(a1.fVals.length:Int))<|
 (zgI (zhh a1.fVals 1 (a1.fVals.length:Int)) ([44]:List UInt8)).bind fun v4=>
 some (⟨((a0.fName++([47]:List UInt8))++y2),v4,false⟩:zag)
noncomputable def zfq (a0:zab) (a1:zag):Option (zdN × Bool):=
 if(decide ((a1.fKey.length:Int)<3))then
  some ((⟨[]⟩:zdN),false)
 else
  req (0≤(2:Int)∧(2:Int)≤(a1.fKey.length:Int)∧(a1.fKey.length:Int)≤(a1.fKey.length:Int))<|
  (zcU a1.fVal 44).bind fun v2=>
  req (((([(zhh a1.fKey 2 (a1.fKey.length:Int))]:List (List UInt8)).length:Int)+((v2).length:Int))*16≤140737488355328∧(([(zhh a1.fKey 2 (a1.fKey.length:Int))]:List (List UInt8)).length:Int)+((v2).length:Int)≤140737488355328)<|
  (zfl a0 (⟨([(zhh a1.fKey 2 (a1.fKey.length:Int))]++v2)⟩:zdN)).bind fun v4=>
  if v4 then
   (zeS a0 (⟨([(zhh a1.fKey 2 (a1.fKey.length:Int))]++v2)⟩:zdN)).bind fun v6=>
   some ((⟨([(zhh a1.fKey 2 (a1.fKey.length:Int))]++v2)⟩:zdN),(v6.fKey==a1.fKey&&(v6.fVal==a1.fVal&&(v6.fGone==a1.fGone))))
  else
   some ((⟨([(zhh a1.fKey 2 (a1.fKey.length:Int))]++v2)⟩:zdN),false)
noncomputable def zbS (a0:zab) (a1:List zag) (v1:List zdN) (v2:Int):Option ((List zdN × Int) ⊕ Option (List zdN)):=
 if(decide (v2<(a1.length:Int)))then
  (zbF a1 v2).bind fun y5=>
  (zfq a0 y5).bind fun v6=>
  if v6.2 then
   req ((((v1).length:Int)+(([v6.1]:List zdN).length:Int))*24≤140737488355328∧((v1).length:Int)+(([v6.1]:List zdN).length:Int)≤140737488355328)<|
   some (.inl ((v1++ [v6.1]),(IntKind.i64.wrap (v2+1))))
  else
   some (.inl (v1,(IntKind.i64.wrap (v2+1))))
 else
  some (.inr (some v1))
noncomputable def zgQ (a0:zab) (a1:List zag):Option (List zdN):=
 za8 (fun s:List zdN × Int=>zbS a0 a1 s.1 s.2) ([],0)
noncomputable def zeL (a0:zab) (a1:zb8) (a2:zdN):Option (List UInt8):=
 req ((a0.fName).length+(([46]:List UInt8)).length≤9223372036854775807)<|
 req (((a0.fName++([46]:List UInt8))).length+(a1.fName).length≤9223372036854775807)<|
 req ((((a0.fName++([46]:List UInt8))++a1.fName)).length+(([47]:List UInt8)).length≤9223372036854775807)<|
 (zbF a2.fVals a1.fCol).bind fun y4=>
 req (((((a0.fName++([46]:List UInt8))++a1.fName)++([47]:List UInt8))).length+(y4).length≤9223372036854775807)<|
 req ((((((a0.fName++([46]:List UInt8))++a1.fName)++([47]:List UInt8))++y4)).length+(([47]:List UInt8)).length≤9223372036854775807)<|
 (zbF a2.fVals 0).bind fun y7=>
 req (((((((a0.fName++([46]:List UInt8))++a1.fName)++([47]:List UInt8))++y4)++([47]:List UInt8))).length+(y7).length≤9223372036854775807)<|
 some ((((((a0.fName++([46]:List UInt8))++a1.fName)++([47]:List UInt8))++y4)++([47]:List UInt8))++y7)
noncomputable def zbr (a0:zab) (a1:List UInt8) (v1:List zdN) (v2:List (List UInt8)) (v3:Int):Option ((List (List UInt8) × Int) ⊕ Option (List (List UInt8))):=
 if(decide (v3<(v1.length:Int)))then
  (zbF v1 v3).bind fun y5=>
  (zbk a0 a1).bind fun v6=>
  (zbF a0.fIdxs v6).bind fun y7=>
  (zeL a0 y7 y5).bind fun v8=>
  req ((((v2).length:Int)+(([v8]:List (List UInt8)).length:Int))*16≤140737488355328∧((v2).length:Int)+(([v8]:List (List UInt8)).length:Int)≤140737488355328)<|
  some (.inl ((v2++ [v8]),(IntKind.i64.wrap (v3+1))))
 else
  some (.inr (some v2))
noncomputable def zdh (a0:zab) (a1:List UInt8) (a2:List zag):Option (List (List UInt8)):=
 (zgQ a0 a2).bind fun v1=>
 za8 (fun s:List (List UInt8) × Int=>zbr a0 a1 v1 s.1 s.2) ([],0)
noncomputable def zbY (a0:List (List UInt8)) (a1:List (List UInt8)) (v1:List (List UInt8)) (v2:Int):Option ((List (List UInt8) × Int) ⊕ Option (List (List UInt8))):=
 if(decide (v2<(a0.length:Int)))then
  (zbF a0 v2).bind fun y5=>
  (zfK a1 y5).bind fun v6=>
  if(decide (v6<0))then
   req ((((v1).length:Int)+(([y5]:List (List UInt8)).length:Int))*16≤140737488355328∧((v1).length:Int)+(([y5]:List (List UInt8)).length:Int)≤140737488355328)<|
   some (.inl ((v1++ [y5]),(IntKind.i64.wrap (v2+1))))
  else
   some (.inl (v1,(IntKind.i64.wrap (v2+1))))
 else
  some (.inr (some v1))
noncomputable def zfg (a0:List (List UInt8)) (a1:List (List UInt8)):Option (List (List UInt8)):=
 za8 (fun s:List (List UInt8) × Int=>zbY a0 a1 s.1 s.2) ([],0)
noncomputable def zfu (a0:zab) (a1:List UInt8) (a2:List zag):Option (List (List UInt8) × Bool):=
 (zb9 a0 a1 a2).bind fun v1=>
 if(!v1)then
  some ([],false)
 else
  (zcZ a0 a1 a2).bind fun v3=>
  (zdh a0 a1 a2).bind fun v4=>
  (zfg v3 v4).bind fun v5=>
  some (v5,true)
noncomputable def zgR (a0:zab) (a1:List UInt8) (a2:List zag):Option (List (List UInt8) × Bool):=
 (zb9 a0 a1 a2).bind fun v1=>
 if(!v1)then
  some ([],false)
 else
  (zdh a0 a1 a2).bind fun v3=>
  (zcZ a0 a1 a2).bind fun v4=>
  (zfg v3 v4).bind fun v5=>
  some (v5,true)
noncomputable def zd3 (a0:zab) (a1:List UInt8) (a2:Int) (a3:List zag):Option (Bool):=
 if(a2==0)then
  (zcZ a0 a1 a3).bind fun v2=>
  some ((v2.length:Int)==0)
 else
  (zfu a0 a1 a3).bind fun v3=>
  (zgR a0 a1 a3).bind fun v4=>
  some (((v3.1.length:Int)==0)&&((a2==1)||((v4.1.length:Int)==0)))
noncomputable def zgO (a0:zaB):Option (Bool):=
 (zbF a0.fWays 0).bind fun y1=>
 (zfi a0).bind fun v2=>
 (zd3 y1 a0.fName v2 a0.fStore).bind fun v3=>
 some v3
noncomputable def zfV (a0:zaB):Option (Bool × Bool):=
 (zeu a0).bind fun v1=>
 if(!v1)then
  some (false,false)
 else
  (zgO a0).bind fun v3=>
  some (v3,true)
noncomputable def zby (a0:Int) (a1:Int) (a2:Int):Option (Bool):=
 some ((decide (a0≥a1))&&(decide (a0≤a2)))
noncomputable def zbu (a0:List zag) (v1:Int) (v2:List (List UInt8)):Option ((Int × List (List UInt8)) ⊕ Option (List (List UInt8))):=
 if(decide (v1<(a0.length:Int)))then
  (zbF a0 v1).bind fun y4=>
  req ((((v2).length:Int)+(([y4.fKey]:List (List UInt8)).length:Int))*16≤140737488355328∧((v2).length:Int)+(([y4.fKey]:List (List UInt8)).length:Int)≤140737488355328)<|
  some (.inl ((IntKind.i64.wrap (v1+1)),(v2++ [y4.fKey])))
 else
  some (.inr (some v2))
noncomputable def zev (a0:List zag):Option (List (List UInt8)):=
 za8 (fun s:Int × List (List UInt8)=>zbu a0 s.1 s.2) (0, [])
noncomputable def zdq (a0:Int):Option (Bool):=
 some (((decide (a0≥97))&&(decide (a0≤122)))||((decide (a0≥48))&&(decide (a0≤57))))
noncomputable def zea (a0:List UInt8) (a1:Int):Option (Int):=
 (zcf a0 a1).bind fun v1=>
 some v1
noncomputable def zdl (a0:List UInt8) (a1:List UInt8) (v1:Int):Option ((Int) ⊕ Option (Bool)):=
 if(decide (v1<(a0.length:Int)))then
  (zbF a0 v1).bind fun y3=>
  (zdq (y3.toNat:Int)).bind fun v4=>
  if v4 then
   some (.inl (IntKind.i64.wrap (v1+1)))
  else
   (zea a1 (y3.toNat:Int)).bind fun v6=>
   if(decide (v6<0))then
    some (.inr (some false))
   else
    some (.inl (IntKind.i64.wrap (v1+1)))
 else
  some (.inr (some true))
noncomputable def zc5 (a0:List UInt8) (a1:List UInt8):Option (Bool):=
 za8 (fun s:Int=>zdl a0 a1 s) 0
noncomputable def zfs (a0:List UInt8):Option (Bool):=
 (zby (a0.length:Int) 1 12).bind fun v1=>
 if v1 then
  (zc5 a0 ([46,47]:List UInt8)).bind fun v3=>
  some v3
 else
  some false
noncomputable def zc0 (a0:List (List UInt8)) (v1:Int):Option ((Int) ⊕ Option (Bool)):=
 if(decide (v1<(a0.length:Int)))then
  (zbF a0 v1).bind fun y3=>
  (zfs y3).bind fun v4=>
  if(decide (v1>0))then
   if v4 then
    (zbF a0 (IntKind.i64.wrap (v1-1))).bind fun y7=>
    if(Op.bytesLess y3 y7||y3==y7)then
     some (.inr (some false))
    else
     some (.inl (IntKind.i64.wrap (v1+1)))
   else
    some (.inr (some false))
  else
   if((!v4)||false)then
    some (.inr (some false))
   else
    some (.inl (IntKind.i64.wrap (v1+1)))
 else
  some (.inr (some true))
noncomputable def zet (a0:List (List UInt8)):Option (Bool):=
 za8 (fun s:Int=>zc0 a0 s) 0
noncomputable def zfm (a0:List UInt8):Option (Bool):=
 if(decide ((a0.length:Int)≤24))then
  (zc5 a0 ([46,45,44,95]:List UInt8)).bind fun v2=>
  some v2
 else
  some false
noncomputable def zeU (a0:List UInt8) (a1:Bool):Option (Bool):=
 (zfm a0).bind fun v1=>
 some (v1&&(!(a1&&(a0 !=([]:List UInt8)))))
noncomputable def zcp (a0:zag):Option (Bool):=
 (zeU a0.fVal a0.fGone).bind fun v1=>
 some (!v1)
noncomputable def zd4 (a0:List zag):Option (Bool):=
 if(decide ((a0.length:Int)≤24))then
  (zev a0).bind fun v2=>
  (zet v2).bind fun v3=>
  if v3 then
   (zaZ a0 (fun y0_=>zcp y0_)).bind fun v5=>
   some (!v5)
  else
   some false
 else
  some false
noncomputable def zdP (a0:zag):Option (Bool):=
 some a0.fGone
noncomputable def ze0 (a0:List zag):Option (Bool):=
 (zd4 a0).bind fun v1=>
 if v1 then
  (zaZ a0 (fun y0_=>zdP y0_)).bind fun v3=>
  some (!v3)
 else
  some false
noncomputable def zcb (a0:List UInt8) (a1:Int):Option (Bool):=
 (zby (a0.length:Int) 1 a1).bind fun v1=>
 some v1
noncomputable def zcK (a0:List UInt8) (a1:Int) (v2:Int):Option ((Int) ⊕ Option (Bool)):=
 if(decide (v2<(a0.length:Int)))then
  (zbF a0 v2).bind fun y4=>
  if((decide ((y4.toNat:Int)<97))||(decide ((y4.toNat:Int)>122)))then
   some (.inr (some false))
  else
   some (.inl (IntKind.i64.wrap (v2+1)))
 else
  some (.inr (zcb a0 a1))
noncomputable def zco (a0:List UInt8) (a1:Int):Option (Bool):=
 za8 (fun s:Int=>zcK a0 a1 s) 0
noncomputable def zaT (a0:List (List UInt8)) (a1:List UInt8) (v1:Int):Option ((Int) ⊕ Option (Int)):=
 if(decide (v1<(a0.length:Int)))then
  (zbF a0 v1).bind fun y3=>
  if(a1==y3)then
   some (.inr (some v1))
  else
   some (.inl (IntKind.i64.wrap (v1+1)))
 else
  some (.inr (some (-1)))
noncomputable def za6 (a0:List (List UInt8)) (a1:List UInt8):Option (Int):=
 za8 (fun s:Int=>zaT a0 a1 s) 0
noncomputable def zaA (a0:List (List UInt8)) (a1:List UInt8):Option (Bool):=
 (za6 a0 a1).bind fun v1=>
 some (decide (v1≥0))
noncomputable def zgP (a0:Int):Option (Bool):=
 (zby a0 0 3).bind fun v1=>
 some v1
noncomputable def zcj (a0:zab) (v5:Int):Option ((Int) ⊕ Option (Bool)):=
 if(decide (v5<(a0.fIdxs.length:Int)))then
  (zbF a0.fIdxs v5).bind fun y7=>
  (zco y7.fName 1).bind fun v8=>
  if v8 then
   (zby y7.fCol 1 (IntKind.i64.wrap ((a0.fCols.length:Int)-1))).bind fun v10=>
   if v10 then
    (zgP y7.fStage).bind fun v12=>
    if(decide (v5>0))then
     if v12 then
      (zbF a0.fIdxs (IntKind.i64.wrap (v5-1))).bind fun y15=>
      if(Op.bytesLess y7.fName y15.fName||y7.fName==y15.fName)then
       some (.inr (some false))
      else
       some (.inl (IntKind.i64.wrap (v5+1)))
     else
      some (.inr (some false))
    else
     if((!v12)||false)then
      some (.inr (some false))
     else
      some (.inl (IntKind.i64.wrap (v5+1)))
   else
    some (.inr (some false))
  else
   some (.inr (some false))
 else
  some (.inr (some true))
noncomputable def zcm (a0:zab):Option (Bool):=
 za8 (fun s:Int=>zcj a0 s) 0
noncomputable def zcr (a0:zab) (v18:Int):Option ((Int) ⊕ Option (Bool)):=
 if(decide (v18<(a0.fCols.length:Int)))then
  (zbF a0.fCols v18).bind fun y20=>
  (zco y20 3).bind fun v21=>
  if v21 then
   req (0≤(0:Int)∧(0:Int)≤v18∧v18≤(a0.fCols.length:Int))<|
   (zaA (zhh a0.fCols 0 v18) y20).bind fun v23=>
   if v23 then
    some (.inr (some false))
   else
    some (.inl (IntKind.i64.wrap (v18+1)))
  else
   some (.inr (some false))
 else
  some (.inr (zcm a0))
noncomputable def zer (a0:zab):Option (Bool):=
 (zco a0.fName 1).bind fun v1=>
 if v1 then
  (zby (a0.fCols.length:Int) 2 4).bind fun v3=>
  if((!v3)||(decide ((a0.fIdxs.length:Int)>3)))then
   some false
  else
   za8 (fun s:Int=>zcr a0 s) 0
 else
  some false
noncomputable def zbR (a0:zb8) (a1:List UInt8):Option (Bool):=
 some (a0.fName==a1)
noncomputable def zbi (a0:zab) (a1:List UInt8):Option (Int):=
 (zbw a0.fIdxs (fun y0_=>zbR y0_ a1)).bind fun v1=>
 some v1
noncomputable def ze4 (a0:zab) (a1:List UInt8):Option (Bool):=
 (zer a0).bind fun v1=>
 if v1 then
  (zbi a0 a1).bind fun v3=>
  some (decide (v3≥0))
 else
  some false
noncomputable def zdo (a0:zab) (a1:zaB):Option (Bool):=
 (ze4 a0 a1.fName).bind fun v1=>
 some (!v1)
noncomputable def zds (a0:Int) (a1:zaB):Option (Bool):=
 (zby a0 0 (IntKind.i64.wrap ((a1.fWays.length:Int)-1))).bind fun v1=>
 some (!v1)
noncomputable def zbl (a0:zab) (a1:List UInt8):Option (zb8):=
 (zbi a0 a1).bind fun v1=>
 (zbF a0.fIdxs v1).bind fun y2=>
 some y2
noncomputable def zbh (a0:zaB) (a1:zab):Option (Int):=
 (zbl a1 a0.fName).bind fun v1=>
 some v1.fStage
noncomputable def za7 (xs:List (List UInt8)):Option (List (List UInt8)):=zpe 16 xs
noncomputable def zbM (xs:List zb8):Option (List zb8):=zpe 32 xs
noncomputable def zdi (a0:zab):Option (zab):=
 (za7 a0.fCols).bind fun v1=>
 (zbM a0.fIdxs).bind fun v2=>
 some (⟨a0.fName,v1,v2⟩:zab)
noncomputable def zbn (a0:zab) (a1:List UInt8) (a2:Int):Option (zab):=
 (zdi a0).bind fun v1=>
 (zbi a0 a1).bind fun v2=>
 (zbF v1.fIdxs v2).bind fun y3=>
 some (⟨v1.fName,v1.fCols,(v1.fIdxs.set (v2).toNat {y3 with fStage:=a2})⟩:zab)
noncomputable def zba (a0:zab) (a1:List UInt8) (a2:Int) (v3:Int) (v4:List zab):Option ((Int × List zab) ⊕ Option (List zab)):=
 if(v3 !=a2)then
  if(decide (v3<a2))then
   (zbn a0 a1 (IntKind.i64.wrap (v3+1))).bind fun v8=>
   req ((((v4).length:Int)+(([v8]:List zab).length:Int))*64≤140737488355328∧((v4).length:Int)+(([v8]:List zab).length:Int)≤140737488355328)<|
   some (.inl ((IntKind.i64.wrap (v3+1)),(v4++ [v8])))
  else
   (zbn a0 a1 (IntKind.i64.wrap (v3-1))).bind fun v10=>
   req ((((v4).length:Int)+(([v10]:List zab).length:Int))*64≤140737488355328∧((v4).length:Int)+(([v10]:List zab).length:Int)≤140737488355328)<|
   some (.inl ((IntKind.i64.wrap (v3-1)),(v4++ [v10])))
 else
  some (.inr (some v4))
noncomputable def zcM (a0:zab) (a1:List UInt8) (a2:Int):Option (List zab):=
 (zbl a0 a1).bind fun v1=>
 (zdi a0).bind fun v2=>
 za8 (fun s:Int × List zab=>zba a0 a1 a2 s.1 s.2) (v1.fStage, [v2])
noncomputable def zaf (a0:List zab) (a1:List zab) (a2:zab→zab→Option Bool) (v2:Int):Option ((Int) ⊕ Option (Bool)):=
 if(decide (v2<(a0.length:Int)))then
  (zbF a0 v2).bind fun y4=>
  (zbF a1 v2).bind fun y5=>
  (a2 y4 y5).bind fun v6=>
  if(!v6)then
   some (.inr (some false))
  else
   some (.inl (IntKind.i64.wrap (v2+1)))
 else
  some (.inr (some true))
noncomputable def zak (a0:List zab) (a1:List zab) (a2:zab→zab→Option Bool):Option (Bool):=
 if((a0.length:Int) !=(a1.length:Int))then
  some false
 else
  za8 (fun s:Int=>zaf a0 a1 a2 s) 0
noncomputable def zau (a0:List (List UInt8)) (a1:List (List UInt8)) (v2:Int):Option ((Int) ⊕ Option (Bool)):=
 if(decide (v2<(a0.length:Int)))then
  (zbF a0 v2).bind fun y4=>
  (zbF a1 v2).bind fun y5=>
  if(y4 !=y5)then
   some (.inr (some false))
  else
   some (.inl (IntKind.i64.wrap (v2+1)))
 else
  some (.inr (some true))
noncomputable def za5 (a0:List (List UInt8)) (a1:List (List UInt8)):Option (Bool):=
 if((a0.length:Int) !=(a1.length:Int))then
  some false
 else
  za8 (fun s:Int=>zau a0 a1 s) 0
noncomputable def zap (a0:List zb8) (a1:List zb8) (v2:Int):Option ((Int) ⊕ Option (Bool)):=
 if(decide (v2<(a0.length:Int)))then
  (zbF a0 v2).bind fun y4=>
  (zbF a1 v2).bind fun y5=>
  if(!(y4.fName==y5.fName&&(y4.fCol==y5.fCol&&(y4.fStage==y5.fStage))))then
   some (.inr (some false))
  else
   some (.inl (IntKind.i64.wrap (v2+1)))
 else
  some (.inr (some true))
noncomputable def zaL (a0:List zb8) (a1:List zb8):Option (Bool):=
 if((a0.length:Int) !=(a1.length:Int))then
  some false
 else
  za8 (fun s:Int=>zap a0 a1 s) 0
noncomputable def zbx (a0:zab) (a1:zab):Option (Bool):=
 if(a0.fName==a1.fName)then
  (za5 a0.fCols a1.fCols).bind fun v2=>
  if v2 then
   (zaL a0.fIdxs a1.fIdxs).bind fun v4=>
   some v4
  else
   some false
 else
  some false
noncomputable def zeq (a0:zaB):Option (Bool):=
 (zby (a0.fWays.length:Int) 1 4).bind fun v1=>
 if v1 then
  (zby (a0.fAt.length:Int) 1 3).bind fun v3=>
  if v3 then
   (ze0 a0.fStore).bind fun v5=>
   if(!v5)then
    some false
   else
    (zaZ a0.fWays (fun y0_=>zdo y0_ a0)).bind fun v7=>
    if v7 then
     some false
    else
     (zaZ a0.fAt (fun y0_=>zds y0_ a0)).bind fun v9=>
     if v9 then
      some false
     else
      (zbF a0.fWays 0).bind fun y11=>
      (zbF a0.fWays (IntKind.i64.wrap ((a0.fWays.length:Int)-1))).bind fun y12=>
      (zbh a0 y12).bind fun v13=>
      (zcM y11 a0.fName v13).bind fun v14=>
      (zak a0.fWays v14 (fun y0_ y1_=>zbx y0_ y1_)).bind fun v15=>
      some v15
  else
   some false
 else
  some false
noncomputable def zcL (a0:zaB) (a1:Int):Option (zab):=
 (zbF a0.fAt a1).bind fun y1=>
 (zbF a0.fWays y1).bind fun y2=>
 some y2
noncomputable def za3 (a0:zaB) (v1:Int) (v2:Int):Option ((Int × Int) ⊕ Option (Int)):=
 if(decide (v2<(a0.fAt.length:Int)))then
  (zcL a0 v2).bind fun v5=>
  (zbh a0 v5).bind fun v6=>
  if(v6==3)then
   some (.inr (some 2))
  else
   if(v6==0)then
    some (.inl (0,(IntKind.i64.wrap (v2+1))))
   else
    some (.inl (v1,(IntKind.i64.wrap (v2+1))))
 else
  some (.inr (some v1))
noncomputable def zc6 (a0:zaB):Option (Int):=
 za8 (fun s:Int × Int=>za3 a0 s.1 s.2) (1,0)
noncomputable def zbD (a0:zab) (a1:List UInt8):Option (List UInt8):=
 req ((a0.fName).length+(([46]:List UInt8)).length≤9223372036854775807)<|
 req (((a0.fName++([46]:List UInt8))).length+(a1).length≤9223372036854775807)<|
 req ((((a0.fName++([46]:List UInt8))++a1)).length+(([47]:List UInt8)).length≤9223372036854775807)<|
 some (((a0.fName++([46]:List UInt8))++a1)++([47]:List UInt8))
noncomputable def za2 (a0:List UInt8) (a1:List UInt8):Option (Bool):=
 if(decide ((a0.length:Int)≥(a1.length:Int)))then
  req (0≤(0:Int)∧(0:Int)≤(a1.length:Int)∧(a1.length:Int)≤(a0.length:Int))<|
  some ((zhh a0 0 (a1.length:Int))==a1)
 else
  some false
noncomputable def zbp (a0:List UInt8) (a1:List UInt8):Option (List UInt8 × Bool):=
 (za2 a0 a1).bind fun v1=>
 if(!v1)then
  some (a0,false)
 else
  req (0≤(a1.length:Int)∧(a1.length:Int)≤(a0.length:Int)∧(a0.length:Int)≤(a0.length:Int))<|
  some ((zhh a0 (a1.length:Int) (a0.length:Int)),true)
noncomputable def zcl (a0:List UInt8) (a1:List UInt8):Option (List UInt8 × Bool):=
 (zbp a0 a1).bind fun v1=>
 some (v1.1,v1.2)
noncomputable def zbz (a0:List UInt8) (a1:List UInt8):Option (List UInt8 × List UInt8 × Bool):=
 (zbm a0 a1).bind fun v1=>
 if(decide (v1≥0))then
  req (0≤(0:Int)∧(0:Int)≤v1∧v1≤(a0.length:Int))<|
  req (0≤(IntKind.i64.wrap (v1+(a1.length:Int)))∧(IntKind.i64.wrap (v1+(a1.length:Int)))≤(a0.length:Int)∧(a0.length:Int)≤(a0.length:Int))<|
  some ((zhh a0 0 v1),(zhh a0 (IntKind.i64.wrap (v1+(a1.length:Int))) (a0.length:Int)),true)
 else
  some (a0,([]:List UInt8),false)
noncomputable def zeg (a0:List UInt8) (a1:List UInt8):Option (List UInt8 × List UInt8 × Bool):=
 (zbz a0 a1).bind fun v1=>
 some (v1.1,v1.2.1,v1.2.2)
noncomputable def zdA (a0:List UInt8):Option (Bool):=
 (zby (a0.length:Int) 1 3).bind fun v1=>
 if v1 then
  (zc5 a0 ([]:List UInt8)).bind fun v3=>
  some v3
 else
  some false
noncomputable def zbH (a0:zab) (a1:List UInt8) (a2:List UInt8):Option (List UInt8 × List UInt8 × Bool):=
 (zbD a0 a1).bind fun v1=>
 (zcl a2 v1).bind fun v2=>
 (zeg v2.1 ([47]:List UInt8)).bind fun v3=>
 if v2.2 then
  if v3.2.2 then
   (zdA v3.1).bind fun v6=>
   if v6 then
    (zdA v3.2.1).bind fun v8=>
    if(!v8)then
     some (([]:List UInt8),([]:List UInt8),false)
    else
     some (v3.1,v3.2.1,true)
   else
    some (([]:List UInt8),([]:List UInt8),false)
  else
   some (([]:List UInt8),([]:List UInt8),false)
 else
  some (([]:List UInt8),([]:List UInt8),false)
noncomputable def zaC (a0:zab) (a1:List UInt8) (a2:List zag) (v1:Int) (v2:List (List UInt8)):Option ((Int × List (List UInt8)) ⊕ Option (List (List UInt8))):=
 if(decide (v1<(a2.length:Int)))then
  (zbF a2 v1).bind fun y5=>
  (zbH a0 a1 y5.fKey).bind fun v6=>
  if v6.2.2 then
   req ((((v2).length:Int)+(([y5.fKey]:List (List UInt8)).length:Int))*16≤140737488355328∧((v2).length:Int)+(([y5.fKey]:List (List UInt8)).length:Int)≤140737488355328)<|
   some (.inl ((IntKind.i64.wrap (v1+1)),(v2++ [y5.fKey])))
  else
   some (.inl ((IntKind.i64.wrap (v1+1)),v2))
 else
  some (.inr (some v2))
noncomputable def zbo (a0:zab) (a1:List UInt8) (a2:List zag):Option (List (List UInt8)):=
 za8 (fun s:Int × List (List UInt8)=>zaC a0 a1 a2 s.1 s.2) (0, [])
noncomputable def zeQ (a0:List UInt8) (a1:List UInt8):Option (Int):=
 (zbm a0 a1).bind fun v1=>
 some v1
noncomputable def zbQ (v7:List UInt8) (v8:Int) (v9:List (List UInt8)):Option (List (List UInt8)):=
 (zbF v9 v8).bind fun y10=>
 req (0≤(0:Int)∧(0:Int)≤(IntKind.i64.wrap (v8+1))∧(IntKind.i64.wrap (v8+1))≤((v9.set (v8).toNat v7).length:Int))<|
 some (zhh (v9.set (v8).toNat v7) 0 (IntKind.i64.wrap (v8+1)))
noncomputable def za9 (a0:List UInt8) (a1:List UInt8) (a2:Int) (v5:Int) (v12:List UInt8) (v13:Int) (v14:List (List UInt8)):Option ((List UInt8 × Int × List (List UInt8)) ⊕ Option (List (List UInt8))):=
 if(decide (v13<(IntKind.i64.wrap ((bif (decide ((IntKind.i64.wrap ((a0.length:Int)+1))<v5))then(IntKind.i64.wrap ((a0.length:Int)+1))else v5)-1))))then
  (zeQ v12 a1).bind fun v16=>
  if(decide (v16<0))then
   some (.inr (zbQ v12 v13 v14))
  else
   req (0≤(0:Int)∧(0:Int)≤(IntKind.i64.wrap (v16+a2))∧(IntKind.i64.wrap (v16+a2))≤(v12.length:Int))<|
   (zbF v14 v13).bind fun y18=>
   req (0≤(IntKind.i64.wrap (v16+(a1.length:Int)))∧(IntKind.i64.wrap (v16+(a1.length:Int)))≤(v12.length:Int)∧(v12.length:Int)≤(v12.length:Int))<|
   some (.inl ((zhh v12 (IntKind.i64.wrap (v16+(a1.length:Int))) (v12.length:Int)),(IntKind.i64.wrap (v13+1)),(v14.set (v13).toNat (zhh v12 0 (IntKind.i64.wrap (v16+a2))))))
 else
  some (.inr (zbQ v12 v13 v14))
noncomputable def zbX (a0:List UInt8) (a1:List UInt8) (a2:Int) (v5:Int):Option (List (List UInt8)):=
 req (0≤(bif (decide ((IntKind.i64.wrap ((a0.length:Int)+1))<v5))then(IntKind.i64.wrap ((a0.length:Int)+1))else v5)∧(bif (decide ((IntKind.i64.wrap ((a0.length:Int)+1))<v5))then(IntKind.i64.wrap ((a0.length:Int)+1))else v5)*16≤140737488355328∧(bif (decide ((IntKind.i64.wrap ((a0.length:Int)+1))<v5))then(IntKind.i64.wrap ((a0.length:Int)+1))else v5)≤140737488355328)<|
 za8 (fun s:List UInt8 × Int × List (List UInt8)=>za9 a0 a1 a2 v5 s.1 s.2.1 s.2.2) (a0,0,(List.replicate ((bif (decide ((IntKind.i64.wrap ((a0.length:Int)+1))<v5))then(IntKind.i64.wrap ((a0.length:Int)+1))else v5)).toNat ([]:List UInt8)))
noncomputable def zeC (a0:List UInt8) (a1:List UInt8) (a2:Int) (a3:Int):Option (List (List UInt8)):=
 if(a3==0)then
  some []
 else
  if(a1==([]:List UInt8))then
   (ziz a0 a3).bind fun v3=>
   some v3
  else
   if(decide (a3<0))then
    (zhQ a0 a1).bind fun v22=>
    zbX a0 a1 a2 (IntKind.i64.wrap (v22+1))
   else
    zbX a0 a1 a2 a3
noncomputable def zdR (a0:List UInt8) (a1:List UInt8):Option (List (List UInt8)):=
 (zeC a0 a1 0 (-1)).bind fun v1=>
 some v1
noncomputable def zbG (a0:List UInt8):Option (Bool):=
 (zdA a0).bind fun v1=>
 some (!v1)
noncomputable def zcP (a0:zab) (a1:zdN):Option (Bool):=
 if((a1.fVals.length:Int)==(a0.fCols.length:Int))then
  (zaZ a1.fVals (fun y0_=>zbG y0_)).bind fun v2=>
  some (!v2)
 else
  some false
noncomputable def zca (a0:zab) (a1:zdN):Option (zag):=
 req ((a0.fName).length+(([47]:List UInt8)).length≤9223372036854775807)<|
 (zbF a1.fVals 0).bind fun y2=>
 req (((a0.fName++([47]:List UInt8))).length+(y2).length≤9223372036854775807)<|
 req (0≤(1:Int)∧(1:Int)≤(a1.fVals.length:Int)∧(a1.fVals.length:Int)≤(a1.fVals.length:Int))<|
 (zh6 (zhh a1.fVals 1 (a1.fVals.length:Int)) ([44]:List UInt8)).bind fun v4=>
 some (⟨((a0.fName++([47]:List UInt8))++y2),v4,false⟩:zag)
noncomputable def zcg (a0:zab) (a1:zag):Option (zdN × Bool):=
 req ((a0.fName).length+(([47]:List UInt8)).length≤9223372036854775807)<|
 (zcl a1.fKey (a0.fName++([47]:List UInt8))).bind fun v2=>
 (zdR a1.fVal ([44]:List UInt8)).bind fun v3=>
 req (((([v2.1]:List (List UInt8)).length:Int)+((v3).length:Int))*16≤140737488355328∧(([v2.1]:List (List UInt8)).length:Int)+((v3).length:Int)≤140737488355328)<|
 if v2.2 then
  (zcP a0 (⟨([v2.1]++v3)⟩:zdN)).bind fun v6=>
  if v6 then
   (zca a0 (⟨([v2.1]++v3)⟩:zdN)).bind fun v8=>
   if(!(a1.fKey==v8.fKey&&(a1.fVal==v8.fVal&&(a1.fGone==v8.fGone))))then
    some ((⟨[]⟩:zdN),false)
   else
    some ((⟨([v2.1]++v3)⟩:zdN),true)
  else
   some ((⟨[]⟩:zdN),false)
 else
  some ((⟨[]⟩:zdN),false)
noncomputable def zaR (a0:zab) (a1:List zag) (v1:Int) (v2:List zdN):Option ((Int × List zdN) ⊕ Option (List zdN)):=
 if(decide (v1<(a1.length:Int)))then
  (zbF a1 v1).bind fun y5=>
  (zcg a0 y5).bind fun v6=>
  if v6.2 then
   req ((((v2).length:Int)+(([v6.1]:List zdN).length:Int))*24≤140737488355328∧((v2).length:Int)+(([v6.1]:List zdN).length:Int)≤140737488355328)<|
   some (.inl ((IntKind.i64.wrap (v1+1)),(v2++ [v6.1])))
  else
   some (.inl ((IntKind.i64.wrap (v1+1)),v2))
 else
  some (.inr (some v2))
noncomputable def zdu (a0:zab) (a1:List zag):Option (List zdN):=
 za8 (fun s:Int × List zdN=>zaR a0 a1 s.1 s.2) (0, [])
noncomputable def zcw (a0:zab) (a1:List UInt8) (a2:zdN):Option (List UInt8):=
 (zbD a0 a1).bind fun v1=>
 (zbl a0 a1).bind fun v2=>
 (zbF a2.fVals v2.fCol).bind fun y3=>
 req ((v1).length+(y3).length≤9223372036854775807)<|
 req (((v1++y3)).length+(([47]:List UInt8)).length≤9223372036854775807)<|
 (zbF a2.fVals 0).bind fun y6=>
 req ((((v1++y3)++([47]:List UInt8))).length+(y6).length≤9223372036854775807)<|
 some (((v1++y3)++([47]:List UInt8))++y6)
noncomputable def zaS (a0:zab) (a1:List UInt8) (v1:List zdN) (v2:Int) (v3:List (List UInt8)):Option ((Int × List (List UInt8)) ⊕ Option (List (List UInt8))):=
 if(decide (v2<(v1.length:Int)))then
  (zbF v1 v2).bind fun y5=>
  (zcw a0 a1 y5).bind fun v6=>
  req ((((v3).length:Int)+(([v6]:List (List UInt8)).length:Int))*16≤140737488355328∧((v3).length:Int)+(([v6]:List (List UInt8)).length:Int)≤140737488355328)<|
  some (.inl ((IntKind.i64.wrap (v2+1)),(v3++ [v6])))
 else
  some (.inr (some v3))
noncomputable def zbZ (a0:zab) (a1:List UInt8) (a2:List zag):Option (List (List UInt8)):=
 (zdu a0 a2).bind fun v1=>
 za8 (fun s:Int × List (List UInt8)=>zaS a0 a1 v1 s.1 s.2) (0, [])
noncomputable def zex (a0:List UInt8) (a1:List (List UInt8)):Option (Bool):=
 (zaA a1 a0).bind fun v1=>
 some v1
noncomputable def zez (a0:List (List UInt8)) (a1:List (List UInt8)):Option (List (List UInt8)):=
 (za7 a0).bind fun v1=>
 (zh0 v1 (fun y0_=>zex y0_ a1)).bind fun v2=>
 some v2
noncomputable def zbP (a0:zab) (a1:List UInt8) (a2:List zag):Option (List (List UInt8)):=
 (zbo a0 a1 a2).bind fun v1=>
 (zbZ a0 a1 a2).bind fun v2=>
 (zez v1 v2).bind fun v3=>
 some v3
noncomputable def zc9 (a0:zab) (a1:List UInt8) (a2:List zag):Option (List (List UInt8)):=
 (zbZ a0 a1 a2).bind fun v1=>
 (zbo a0 a1 a2).bind fun v2=>
 (zez v1 v2).bind fun v3=>
 some v3
noncomputable def zbE (a0:zab) (a1:List UInt8) (a2:Int) (a3:List zag):Option (Bool):=
 if(a2==0)then
  (zbo a0 a1 a3).bind fun v2=>
  some ((v2.length:Int)==0)
 else
  if(a2==1)then
   (zbP a0 a1 a3).bind fun v4=>
   some ((v4.length:Int)==0)
  else
   (zbP a0 a1 a3).bind fun v5=>
   if((v5.length:Int)==0)then
    (zc9 a0 a1 a3).bind fun v7=>
    some ((v7.length:Int)==0)
   else
    some false
noncomputable def zdn (a0:zaB):Option (Bool):=
 (zbF a0.fWays 0).bind fun y1=>
 (zc6 a0).bind fun v2=>
 (zbE y1 a0.fName v2 a0.fStore).bind fun v3=>
 some v3
noncomputable def zf5 (a0:zaB):Option (Bool × Bool):=
 (zeq a0).bind fun v1=>
 if(!v1)then
  some (false,false)
 else
  (zdn a0).bind fun v3=>
  some (v3,true)
noncomputable def zaP (a0:List (List UInt8)) (a1:List (List UInt8)) (v2:Int):Option ((Int) ⊕ Option (Bool)):=
 if(decide (v2<(a0.length:Int)))then
  (zbF a0 v2).bind fun y4=>
  (zbF a1 v2).bind fun y5=>
  if(y4 !=y5)then
   some (.inr (some false))
  else
   some (.inl (IntKind.i64.wrap (v2+1)))
 else
  some (.inr (some true))
noncomputable def zcH (a0:List (List UInt8)) (a1:List (List UInt8)):Option (Bool):=
 if((a0.length:Int) !=(a1.length:Int))then
  some false
 else
  za8 (fun s:Int=>zaP a0 a1 s) 0
noncomputable def zeJ (a0:zb8) (a1:zb8):Option (Bool):=
 if(a0.fName !=a1.fName)then
  some false
 else
  if(a0.fCol !=a1.fCol)then
   some false
  else
   if(a0.fStage !=a1.fStage)then
    some false
   else
    some true
noncomputable def zbd (a0:List zb8) (a1:List zb8) (v2:Int):Option ((Int) ⊕ Option (Bool)):=
 if(decide (v2<(a0.length:Int)))then
  (zbF a0 v2).bind fun y4=>
  (zbF a1 v2).bind fun y5=>
  (zeJ y4 y5).bind fun v6=>
  if(!v6)then
   some (.inr (some false))
  else
   some (.inl (IntKind.i64.wrap (v2+1)))
 else
  some (.inr (some true))
noncomputable def zel (a0:List zb8) (a1:List zb8):Option (Bool):=
 if((a0.length:Int) !=(a1.length:Int))then
  some false
 else
  za8 (fun s:Int=>zbd a0 a1 s) 0
noncomputable def zcT (a0:zab) (a1:zab):Option (Bool):=
 if(a0.fName !=a1.fName)then
  some false
 else
  (zcH a0.fCols a1.fCols).bind fun v2=>
  if(!v2)then
   some false
  else
   (zel a0.fIdxs a1.fIdxs).bind fun v4=>
   if(!v4)then
    some false
   else
    some true
noncomputable def zb4 (a0:List zab) (a1:List zab) (v2:Int):Option ((Int) ⊕ Option (Bool)):=
 if(decide (v2<(a0.length:Int)))then
  (zbF a0 v2).bind fun y4=>
  (zbF a1 v2).bind fun y5=>
  (zcT y4 y5).bind fun v6=>
  if(!v6)then
   some (.inr (some false))
  else
   some (.inl (IntKind.i64.wrap (v2+1)))
 else
  some (.inr (some true))
noncomputable def zeI (a0:List zab) (a1:List zab):Option (Bool):=
 if((a0.length:Int) !=(a1.length:Int))then
  some false
 else
  za8 (fun s:Int=>zb4 a0 a1 s) 0
noncomputable def zcD (a0:List Int) (a1:List Int) (v2:Int):Option ((Int) ⊕ Option (Bool)):=
 if(decide (v2<(a0.length:Int)))then
  (zbF a0 v2).bind fun y4=>
  (zbF a1 v2).bind fun y5=>
  if(y4 !=y5)then
   some (.inr (some false))
  else
   some (.inl (IntKind.i64.wrap (v2+1)))
 else
  some (.inr (some true))
noncomputable def zf3 (a0:List Int) (a1:List Int):Option (Bool):=
 if((a0.length:Int) !=(a1.length:Int))then
  some false
 else
  za8 (fun s:Int=>zcD a0 a1 s) 0
noncomputable def zdB (a0:zag) (a1:zag):Option (Bool):=
 if(a0.fKey !=a1.fKey)then
  some false
 else
  if(a0.fVal !=a1.fVal)then
   some false
  else
   if(a0.fGone !=a1.fGone)then
    some false
   else
    some true
noncomputable def zaX (a0:List zag) (a1:List zag) (v2:Int):Option ((Int) ⊕ Option (Bool)):=
 if(decide (v2<(a0.length:Int)))then
  (zbF a0 v2).bind fun y4=>
  (zbF a1 v2).bind fun y5=>
  (zdB y4 y5).bind fun v6=>
  if(!v6)then
   some (.inr (some false))
  else
   some (.inl (IntKind.i64.wrap (v2+1)))
 else
  some (.inr (some true))
noncomputable def zcu (a0:List zag) (a1:List zag):Option (Bool):=
 if((a0.length:Int) !=(a1.length:Int))then
  some false
 else
  za8 (fun s:Int=>zaX a0 a1 s) 0
noncomputable def zfk (a0:zaB) (a1:zaB):Option (Bool):=
 if(a0.fName !=a1.fName)then
  some false
 else
  (zeI a0.fWays a1.fWays).bind fun v2=>
  if(!v2)then
   some false
  else
   (zf3 a0.fAt a1.fAt).bind fun v4=>
   if(!v4)then
    some false
   else
    (zcu a0.fStore a1.fStore).bind fun v6=>
    if(!v6)then
     some false
    else
     some true
noncomputable def zdM (a0:zaB):Option (Bool):=
 (zfe a0 1048576).bind fun v1=>
 if(decide (v1<0))then
  some true
 else
  (zdy a0).bind fun v3=>
  (zfV v3).bind fun v4=>
  (zdy a0).bind fun v5=>
  (zf5 v5).bind fun v6=>
  if((v6.1 !=v4.1)||(v6.2 !=v4.2))then
   some false
  else
   (zdy a0).bind fun v8=>
   (zfk v5 v8).bind fun v9=>
   if(!v9)then
    some false
   else
    some true
noncomputable def zfr (a0:zab) (a1:List UInt8) (a2:Int) (a3:List zag):Option (Bool × Bool):=
 (zb9 a0 a1 a3).bind fun v1=>
 if v1 then
  (zcF a2 0 2).bind fun v3=>
  if(!v3)then
   some (false,false)
  else
   (zd3 a0 a1 a2 a3).bind fun v5=>
   some (v5,true)
 else
  some (false,false)
noncomputable def zdT (a0:zab) (a1:List UInt8) (a2:List zag):Option (Bool):=
 (ze4 a0 a1).bind fun v1=>
 if v1 then
  (ze0 a2).bind fun v3=>
  some v3
 else
  some false
noncomputable def zfp (a0:zab) (a1:List UInt8) (a2:Int) (a3:List zag):Option (Bool × Bool):=
 (zdT a0 a1 a3).bind fun v1=>
 if v1 then
  (zby a2 0 2).bind fun v3=>
  if(!v3)then
   some (false,false)
  else
   (zbE a0 a1 a2 a3).bind fun v5=>
   some (v5,true)
 else
  some (false,false)
noncomputable def zbV (a0:zab) (a1:List UInt8) (a2:Int) (a3:List zag):Option (Bool):=
 if(decide ((a1.length:Int)>1048576))then
  some true
 else
  (zcs a0 1048576).bind fun v2=>
  if(decide (v2<0))then
   some true
  else
   (zb5 a3 v2).bind fun v4=>
   if(decide (v4<0))then
    some true
   else
    (zb3 a0).bind fun v6=>
    (zbI a3).bind fun v7=>
    (zfr v6 a1 a2 v7).bind fun v8=>
    (zb3 a0).bind fun v9=>
    (zbI a3).bind fun v10=>
    (zfp v9 a1 a2 v10).bind fun v11=>
    if((v11.1 !=v8.1)||(v11.2 !=v8.2))then
     some false
    else
     (zb3 a0).bind fun v13=>
     (zcT v9 v13).bind fun v14=>
     if(!v14)then
      some false
     else
      (zbI a3).bind fun v16=>
      (zcu v10 v16).bind fun v17=>
      if(!v17)then
       some false
      else
       some true
end Go.Proofs.YtecngjbpbnfegaaGreatDoor
end
section
namespace Go.Proofs.YtecngjbpbnfegaaGreatDoor
open Go.RowKit
set_option maxRecDepth 100000
abbrev Str:=List UInt8
def inB (a b c:Int):Bool:=decide (a≥b)&&decide (a≤c)
theorem zee {a b c:Int}:inB a b c=true↔b≤a∧a≤c:=by simp [inB]
@[simp] theorem zms (a b c:Int):zcF a b c=some (inB a b c):=rfl
@[simp] theorem zhs (a b c:Int):zby a b c=some (inB a b c):=rfl
def zi3 (b:UInt8):Bool:=(decide ((b.toNat:Int)≥97)&&decide ((b.toNat:Int)≤122))||(decide ((b.toNat:Int)≥48)&&decide ((b.toNat:Int)≤57))
def zjK (s more:Str):Bool:=s.all fun b=>zi3 b||more.contains b
theorem zAL {a b:UInt8}:((a.toNat:Int)==(b.toNat:Int))=(a==b):=by
 rw [Bool.eq_iff_iff]
 simp only [beq_iff_eq]
 constructor
 ·intro h;exact UInt8.toNat_inj.1 (by omega)
 ·rintro rfl;rfl
theorem ztr {α:Type} (xs:List α) (p:α→Bool) (q:Nat→Bool) (h: ∀(i:Nat) (hi:i<xs.length),q i=p xs[i]):(List.range xs.length).all q=xs.all p:=by
 rw [Bool.eq_iff_iff]
 simp only [List.all_eq_true,List.mem_range]
 constructor
 ·intro hq x hx
  obtain⟨i,hi,rfl⟩:=List.getElem_of_mem hx
  rw [←h i hi];exact hq i hi
 ·intro hp i hi
  rw [h i hi];exact hp _ (List.getElem_mem hi)
theorem zkE {α β:Type} {xs:List α} {body:Int→Option (Int ⊕ Option β)} (p:α→Bool) (b:β) (fin:Option β)
  (hs: ∀(i:Nat) (hi:i<xs.length),body i=some (if p xs[i]=true then .inl ((i+1:Nat):Int)else .inr (some b))) (he:body xs.length=some (.inr fin)):za8 body 0=if xs.all p=true then fin else some b:=by
 rw [zgT (n:=xs.length) (fun i=>match xs[i]? with|some x=>p x|none=>true) b fin (fun i hi=>by rw [hs i hi];simp [hi]) he,
  ztr xs p _ fun i hi=>by simp [hi]]
theorem zpj {s more:Str} (h1:s.length≤2000000) (h2:more.length≤2000000):zdw s more=some (zjK s more):=by
 unfold zdw
 rw [zkE (xs:=s) (fun b=>zi3 b||more.contains b) false (some true) ?_ (by simp [zdO])]
 ·unfold zjK
  cases(s.all fun b=>zi3 b||more.contains b)<;>rfl
 ·intro i hi
  have hin:za8 (fun t:Bool × Int=>zci more i s[i] t.1 t.2) (zi3 s[i],0)=some (if(zi3 s[i]||more.contains s[i])=true then .inl ((i+1:Nat):Int)else .inr (some false)):=by
   have hl:=zmz (xs:=more) (body:=fun t:Bool × Int=>zci more i s[i] t.1 t.2) (fun k (ok:Bool)=>(ok,k)) (fun b ok=>some (.inl (ok||s[i]==b))) (fun ok=>zcY i ok)
    (fun k hk ok=>by
     simp only [zci,Int.ofNat_lt,hk,decide_true,if_true,zai hk,Option.bind_some,zbT hk (by omega:more.length≤_),zAL,zsA]
     cases ok<;>simp) (fun ok=>by simp [zci]) (zi3 s[i])
   rw [zyd (fun ok b=>ok||s[i]==b) (fun _=>True) (fun _ _ _ _=>trivial) (fun _ _ _ _=>rfl) trivial]at hl
   have hf: ∀(l:Str) (ok:Bool),l.foldl (fun ok b=>ok||s[i]==b) ok=(ok||l.contains s[i]):=by
    intro l
    induction l with
    |nil=>intro ok;simp
    |cons c l ih=>intro ok;rw [List.foldl_cons,ih,List.contains_cons,Bool.or_assoc]
   rw [hl,hf]
   unfold zcY
   rw [zbT hi (by omega)]
   cases(zi3 s[i]||more.contains s[i])<;>rfl
  simp only [zdO,Int.ofNat_lt,hi,decide_true,if_true,zai hi,Option.bind_some]
  exact hin
theorem zsK (l:Str) (c:UInt8):decide (Lib.indexByte l c<0)= !l.contains c:=by
 induction l with
 |nil=>rfl
 |cons b l ih=>
  unfold Lib.indexByte
  have hge:=Lib.indexByte_ge l c
  rw [List.contains_cons]
  by_cases hb:b=c
  ·subst hb;simp
  ·have h1:(b==c)=false:=by simpa using hb
   have h2:(c==b)=false:=by simpa using fun h=>hb h.symm
   rw [h1,h2]
   simp only [Bool.false_eq_true,if_false,Bool.false_or]
   rw [←ih]
   by_cases hm:Lib.indexByte l c= -1
   ·simp [hm]
   ·have h3:(Lib.indexByte l c== -1)=false:=by simpa using hm
    rw [h3]
    simp only [Bool.false_eq_true,if_false]
    rw [decide_eq_decide]
    omega
theorem znD {s more:Str} (h1:s.length≤2000000):zc5 s more=some (zjK s more):=by
 unfold zc5
 rw [zkE (xs:=s) (fun b=>zi3 b||more.contains b) false (some true) ?_ (by simp [zdl])]
 ·unfold zjK
  cases(s.all fun b=>zi3 b||more.contains b)<;>rfl
 ·intro i hi
  have hu:((s[i].toNat:Int)).toNat.toUInt8=s[i]:=by simp
  simp only [zdl,Int.ofNat_lt,hi,decide_true,if_true,zai hi,Option.bind_some,zdq,zea,zcf,hu,zsK,zbT hi (by omega:s.length≤_)]
  rw [show((decide ((s[i].toNat:Int)≥97)&&decide ((s[i].toNat:Int)≤122))||(decide ((s[i].toNat:Int)≥48)&&decide ((s[i].toNat:Int)≤57)))=zi3 s[i]from rfl]
  cases zi3 s[i]<;>cases more.contains s[i]<;>rfl
def zeP (s:Str):Bool:=inB s.length 1 12&&zjK s [46,47]
def zlL (s:Str):Bool:=decide ((s.length:Int)≤24)&&zjK s [46,45,44,95]
theorem zA3 {s:Str} (h:s.length≤2000000):zgW s=some (zeP s):=by
 simp only [zgW,zms,Option.bind_some,zpj h (more:= [46,47]) (by decide),zeP]
 cases inB s.length 1 12<;>simp
theorem zAn {s:Str} (h:s.length≤2000000):zfs s=some (zeP s):=by
 simp only [zfs,zhs,Option.bind_some,znD h,zeP]
 cases inB s.length 1 12<;>simp
theorem zAJ {s:Str} (h:s.length≤2000000):zg3 s=some (zlL s):=by
 simp only [zg3,Option.bind_some,zpj h (more:= [46,45,44,95]) (by decide),zlL]
 by_cases hl:(s.length:Int)≤24<;>simp [hl]
theorem zA5 {s:Str} (h:s.length≤2000000):zfm s=some (zlL s):=by
 simp only [zfm,Option.bind_some,znD h,zlL]
 by_cases hl:(s.length:Int)≤24<;>simp [hl]
def zkW (v:Str) (ztY:Bool):Bool:=zlL v&&(!ztY||v== [])
theorem zwe {v:Str} {ztY:Bool} (h:v.length≤2000000):zeU v ztY=some (zkW v ztY):=by
 simp only [zeU,zA5 h,Option.bind_some,zkW,bne]
 cases zlL v<;>cases ztY<;>cases(v== [])<;>rfl
theorem zyx {k v:Str} {ztY:Bool} (hk:k.length≤2000000) (hv:v.length≤2000000):zfc k v ztY=some (zeP k&&zkW v ztY):=by
 simp only [zfc,zA3 hk,zAJ hv,Option.bind_some,zkW]
 cases zeP k<;>simp
def zhr (ks:List Str) (i:Nat):Bool:=i==0||Op.bytesLess ((ks[i-1]?).getD []) ((ks[i]?).getD [])
def ztI (ks:List Str):Bool:=(List.range ks.length).all (zhr ks)
theorem zsL: ∀(a b:Str),(Op.bytesLess a b||a==b)= !Op.bytesLess b a
 | [], []=>rfl
 | [],_::_=>rfl
 |_::_, []=>rfl
 |x::a,y::b=>by
  have ih:=zsL a b
  simp only [Op.bytesLess]
  rcases Nat.lt_trichotomy x.toNat y.toNat with h|h|h
  ·have h1:x<y:=UInt8.lt_iff_toNat_lt.2 h
   have h2: ¬y<x:=fun h'=>by have:=UInt8.lt_iff_toNat_lt.1 h';omega
   have h3: ¬y=x:=fun h'=>by subst h';omega
   simp [h1,h2,h3]
  ·have h0:x=y:=UInt8.toNat_inj.1 h
   subst h0
   have h1: ¬x<x:=fun h'=>by have:=UInt8.lt_iff_toNat_lt.1 h';omega
   rw [show((x::a)==(x::b))=(a==b) by simp]
   simp only [h1,decide_false,Bool.false_or,beq_self_eq_true,Bool.true_and]
   exact ih
  ·have h1: ¬x<y:=fun h'=>by have:=UInt8.lt_iff_toNat_lt.1 h';omega
   have h2:y<x:=UInt8.lt_iff_toNat_lt.2 h
   have h3: ¬x=y:=fun h'=>by subst h';omega
   simp [h1,h2,h3]
theorem zsj {i:Nat} (h0:0<i) (h:i≤2000000):IntKind.i64.wrap ((i:Int)-1)=((i-1:Nat):Int):=by
 rw [zdc (by omega) (by omega)];omega
theorem zwC {α:Type} (xs:List α) (p:α→Bool) (q r:Nat→Bool) (h: ∀(i:Nat) (hi:i<xs.length),r i=(p xs[i]&&q i)):(List.range xs.length).all r=(xs.all p&&(List.range xs.length).all q):=by
 rw [←ztr xs p (fun i=>match xs[i]? with|some x=>p x|none=>true) fun i hi=>by simp [hi]]
 rw [Bool.eq_iff_iff]
 simp only [Bool.and_eq_true,List.all_eq_true,List.mem_range]
 constructor
 ·intro hr
  exact⟨fun i hi=>by have:=hr i hi;rw [h i hi,Bool.and_eq_true]at this;simpa [hi]using this.1,fun i hi=>by have:=hr i hi;rw [h i hi,Bool.and_eq_true]at this;exact this.2⟩
 ·rintro⟨h1,h2⟩ i hi
  rw [h i hi,Bool.and_eq_true]
  exact⟨by have:=h1 i hi;simpa [hi]using this,h2 i hi⟩
theorem zuv {ks:List Str} (h:ks.length≤2000000) (hk: ∀k∈ks,k.length≤2000000):zet ks=some (ks.all zeP&&ztI ks):=by
 unfold zet ztI
 rw [zgT (n:=ks.length) (fun i=>zeP ((ks[i]?).getD [])&&zhr ks i) false (some true) ?_ (by simp [zc0]),zwC ks zeP (zhr ks) _ fun i hi=>by simp [hi]]
 ·cases(ks.all zeP&&(List.range ks.length).all (zhr ks))<;>rfl
 ·intro i hi
  simp only [zc0,Int.ofNat_lt,hi,decide_true,if_true,zai hi,Option.bind_some,zAn (hk _ (List.getElem_mem hi)),zbT hi (by omega:ks.length≤_),List.getElem?_eq_getElem hi,Option.getD_some,zhr]
  by_cases h0:i=0
  ·subst h0
   cases zeP ks[0]<;>simp
  ·have hp:(i:Int)>0:=by omega
   have hi1:i-1<ks.length:=by omega
   have hb:(i==0)=false:=by simpa using h0
   simp only [hp,decide_true,if_true,zsj (Nat.pos_of_ne_zero h0) (by omega:i≤2000000),zai hi1,Option.bind_some,zsL,List.getElem?_eq_getElem hi1,Option.getD_some,hb,Bool.false_or]
   cases zeP ks[i]<;>cases Op.bytesLess ks[i-1] ks[i]<;>rfl
theorem zui {l:List zag} (h:l.length≤2000000):zev l=some (l.map (·.fKey)):=by
 have h1:=zd0 (xs:=l) (body:=fun s:Int × List Str=>zbu l s.1 s.2) (fun i (o:List Str)=>(i,o)) (fun o w=>o++ [w.fKey]) (fun o=>some o) (fun q o=>o.length=q)
  (fun i hi o hI=>by
   refine⟨?_,by simp [hI]⟩
   show zbu l i o=_
   unfold zbu
   have hr:((o.length:Int)+(([l[i].fKey]:List Str).length:Int))*16≤140737488355328∧(o.length:Int)+(([l[i].fKey]:List Str).length:Int)≤140737488355328:=by
    rw [List.length_singleton,hI];omega
   rw [if_pos (by simpa using hi),zai hi,Option.bind_some,zaq hr,zbT hi (by omega)]) (fun o _=>by
   show zbu l l.length o=_
   unfold zbu
   rw [if_neg (by simp)]) (s:= []) rfl
 have hf: ∀(l:List zag) (o:List Str),l.foldl (fun o w=>o++ [w.fKey]) o=o++l.map (·.fKey):=by
  intro l
  induction l with
  |nil=>intro o;simp
  |cons w l ih=>intro o;rw [List.foldl_cons,ih];simp
 have h2:=h1.1
 rw [hf,List.nil_append]at h2
 unfold zev
 exact h2
def zq8 (w:zag):Bool:=zeP w.fKey&&zkW w.fVal w.fGone
def zgv (l:List zag):Bool:=decide ((l.length:Int)≤24)&&(l.all zq8&&ztI (l.map (·.fKey)))
def zlx (l:List zag):Prop:=l.length≤2000000∧ ∀w∈l,w.fKey.length≤2000000∧w.fVal.length≤2000000
theorem zwi {l:List zag} (h:zlx l):zd4 l=some (zgv l):=by
 have e1:zaZ l (fun y0_=>zcp y0_)=some (l.any fun w=> !zkW w.fVal w.fGone):=zpb _ (fun w hw=>by simp [zcp,zwe (h.2 w hw).2]) (by have:=h.1;omega)
 have e2:=zuv (ks:=l.map (·.fKey)) (by simpa using h.1) (by simp only [List.mem_map];rintro k ⟨w,hw,rfl⟩;exact(h.2 w hw).1)
 simp only [zd4,zui h.1,e1,e2,Option.bind_some,zgv,←List.not_all_eq_any_not]
 have e3:l.all zq8=((l.map (·.fKey)).all zeP&&l.all fun w=>zkW w.fVal w.fGone):=by
  rw [Bool.eq_iff_iff]
  simp only [List.all_eq_true,Bool.and_eq_true,zq8,List.mem_map]
  constructor
  ·intro h;exact⟨by rintro k ⟨w,hw,rfl⟩;exact(h w hw).1,fun w hw=>(h w hw).2⟩
  ·rintro⟨h1,h2⟩ w hw;exact⟨h1 _ ⟨w,hw,rfl⟩,h2 w hw⟩
 rw [e3]
 generalize (l.map (·.fKey)).all zeP=b1
 generalize ztI (l.map (·.fKey))=b2
 generalize (l.all fun w=>zkW w.fVal w.fGone)=b3
 by_cases hl:(l.length:Int)≤24<;>cases b1<;>cases b2<;>cases b3<;>simp [hl]
theorem zwV {l:List zag} (h:zlx l):zeK l=some (zgv l):=by
 unfold zeK
 have hn:=h.1
 rw [zgT (n:=l.length) (fun i=>zq8 ((l[i]?).getD ⟨[], [],false⟩)&&zhr (l.map (·.fKey)) i) false (zcC l) ?_ (by simp [zdk]),zwC l zq8 (zhr (l.map (·.fKey))) _ fun i hi=>by simp [hi]]
 ·unfold zcC zgv ztI
  rw [List.length_map]
  cases(l.all zq8&&(List.range l.length).all (zhr (l.map (·.fKey))))<;>simp
 ·intro i hi
  have hm:=h.2 _ (List.getElem_mem hi)
  simp only [zdk,Int.ofNat_lt,hi,decide_true,if_true,zai hi,Option.bind_some,zyx hm.1 hm.2,zbT hi (by omega:l.length≤_),List.getElem?_eq_getElem hi,Option.getD_some,zhr,List.getElem?_map,Option.map_some]
  rw [show(zeP l[i].fKey&&zkW l[i].fVal l[i].fGone)=zq8 l[i]from rfl]
  by_cases h0:i=0
  ·subst h0
   cases zq8 l[0]<;>simp
  ·have hp:(i:Int)>0:=by omega
   have hi1:i-1<l.length:=by omega
   have hb:(i==0)=false:=by simpa using h0
   simp only [hp,decide_true,if_true,zsj (Nat.pos_of_ne_zero h0) (by omega:i≤2000000),zai hi1,Option.bind_some,List.getElem?_eq_getElem hi1,Option.map_some,Option.getD_some,hb,Bool.false_or]
   cases zq8 l[i]<;>cases Op.bytesLess l[i-1].fKey l[i].fKey<;>rfl
def zhv (l:List zag):Bool:=zgv l&&l.all fun w=> !w.fGone
theorem zxD {l:List zag} (h:zlx l):ze0 l=some (zhv l):=by
 have e1:zaZ l (fun y0_=>zdP y0_)=some (l.any fun w=> !!w.fGone):=zpb _ (fun w hw=>by simp [zdP]) (by have:=h.1;omega)
 simp only [ze0,zwi h,e1,Option.bind_some,zhv,←List.not_all_eq_any_not]
 cases zgv l<;>simp
theorem zwp {l:List zag} (h:zlx l):zeZ l=some (zhv l):=by
 have hn:=h.1
 unfold zeZ
 rw [zkE (xs:=l) (fun w=> !w.fGone) false (zdj l) (fun i hi=>by
  simp only [zew,Int.ofNat_lt,hi,decide_true,if_true,zai hi,Option.bind_some,zbT hi (by omega:l.length≤_)]
  cases l[i].fGone<;>rfl) (by simp [zew])]
 simp only [zdj,zwV h,Option.bind_some,zhv]
 cases(l.all fun w=> !w.fGone)<;>simp
end Go.Proofs.YtecngjbpbnfegaaGreatDoor
end
section
namespace Go.Proofs.YtecngjbpbnfegaaGreatDoor
open Go.RowKit
set_option maxRecDepth 100000
def small (b:UInt8):Bool:= !(decide ((b.toNat:Int)<97)||decide ((b.toNat:Int)>122))
def zc3 (s:Str) (n:Int):Bool:=s.all small&&inB s.length 1 n
theorem znl {s:Str} {n:Int} (h:s.length≤2000000):zch s n=some (zc3 s n):=by
 unfold zch
 rw [zkE (xs:=s) small false (zcc s n) (fun i hi=>by
  simp only [zcN,Int.ofNat_lt,hi,decide_true,if_true,zai hi,Option.bind_some,zbT hi (by omega:s.length≤_)]
  rw [show(decide ((s[i].toNat:Int)<97)||decide ((s[i].toNat:Int)>122))= !small s[i] by simp [small]]
  cases small s[i]<;>rfl) (by simp [zcN])]
 unfold zcc zc3 inB
 cases s.all small<;>simp
theorem zni {s:Str} {n:Int} (h:s.length≤2000000):zco s n=some (zc3 s n):=by
 unfold zco
 rw [zkE (xs:=s) small false (zcb s n) (fun i hi=>by
  simp only [zcK,Int.ofNat_lt,hi,decide_true,if_true,zai hi,Option.bind_some,zbT hi (by omega:s.length≤_)]
  rw [show(decide ((s[i].toNat:Int)<97)||decide ((s[i].toNat:Int)>122))= !small s[i] by simp [small]]
  cases small s[i]<;>rfl) (by simp [zcK])]
 simp only [zcb,zhs,Option.bind_some,zc3]
 cases s.all small<;>simp
theorem zAY {xs:List Str} {s:Str} (h:xs.length≤2000000):zfK xs s=some (zhg (· ==s) xs):=by
 unfold zfK
 refine zrT (· ==s) (fun i hi=> ?_) (by simp [zeT])
 simp only [zeT,Int.ofNat_lt,hi,decide_true,if_true,zai hi,Option.bind_some,zbT hi (by omega:xs.length≤_)]
 cases xs[i]==s<;>rfl
theorem zx9 {xs:List Str} {s:Str} (h:xs.length≤2000000):za6 xs s=some (zhg (· ==s) xs):=by
 unfold za6
 refine zrT (· ==s) (fun i hi=> ?_) (by simp [zaT])
 simp only [zaT,Int.ofNat_lt,hi,decide_true,if_true,zai hi,Option.bind_some,zbT hi (by omega:xs.length≤_)]
 rw [show(s==xs[i])=(xs[i]==s)from BEq.comm]
 cases xs[i]==s<;>rfl
theorem zwx (xs:List Str) (s:Str):(xs.any fun x=>x==s)=xs.contains s:=by
 rw [List.contains_eq_any_beq]
 congr 1
 funext x
 exact BEq.comm
theorem zy6 {xs:List Str} {s:Str} (h:xs.length≤2000000):zaA xs s=some (xs.contains s):=by
 simp only [zaA,zx9 h,Option.bind_some,zmh,zwx]
def zuh (cs:List Str) (i:Nat):Bool:=zc3 ((cs[i]?).getD []) 3&& !(cs.take i).contains ((cs[i]?).getD [])
def zp9 (cs:List Str):Bool:=(List.range cs.length).all (zuh cs)
def zov (t:zab) (i:Nat):Bool:=
 let x:=(t.fIdxs[i]?).getD ⟨[],0,0⟩
 zc3 x.fName 1&&inB x.fCol 1 ((t.fCols.length:Int)-1)&&inB x.fStage 0 3&&(i==0||Op.bytesLess ((t.fIdxs[i-1]?).getD ⟨[],0,0⟩).fName x.fName)
def zbc (t:zab):Bool:=zc3 t.fName 1&&(zp9 t.fCols&&inB t.fCols.length 2 4)&&decide ((t.fIdxs.length:Int)≤3)&&(List.range t.fIdxs.length).all (zov t)
structure zcB (t:zab):Prop where
 name:t.fName.length≤2000000
 cols:t.fCols.length≤2000000
 col: ∀c∈t.fCols,c.length≤2000000
 idxs:t.fIdxs.length≤2000000
 idx: ∀x∈t.fIdxs,x.fName.length≤2000000
theorem zz6 {α:Type} (xs:List α) (i:Nat):zhh xs 0 i=xs.take i:=by simp [zhh]
theorem zzh {cs:List Str} (h:cs.length≤2000000) (hc: ∀c∈cs,c.length≤2000000):zfn cs=some (zp9 cs&&inB cs.length 2 4):=by
 unfold zfn
 rw [zgT (n:=cs.length) (zuh cs) false (zcW cs) ?_ (by simp [zdW])]
 ·simp only [zcW,zms,Option.bind_some,zp9]
  cases(List.range cs.length).all (zuh cs)<;>simp
 ·intro i hi
  unfold zdW zuh
  rw [if_pos (by simpa using hi),zai hi,Option.bind_some,znl (hc _ (List.getElem_mem hi)),Option.bind_some,zaq (by omega),zz6,zAY (by rw [List.length_take];omega),Option.bind_some,zmh,zwx,zbT hi (by omega)]
  simp only [List.getElem?_eq_getElem hi,Option.getD_some]
  cases zc3 cs[i] 3<;>cases(cs.take i).contains cs[i]<;>rfl
theorem zoO {t:zab} (h:zcB t):zce t=some (zbc t):=by
 have hw:=zdc (n:=(t.fCols.length:Int)-1) (by omega) (by have:=h.cols;omega)
 have hn:=h.idxs
 have hl:za8 (fun s:Int=>zcq t s) 0=some ((List.range t.fIdxs.length).all (zov t)):=by
  rw [zgT (n:=t.fIdxs.length) (zov t) false (some true) ?_ (by simp [zcq])]
  ·cases(List.range t.fIdxs.length).all (zov t)<;>rfl
  ·intro i hi
   unfold zov
   simp only [zcq,Int.ofNat_lt,hi,decide_true,if_true,zai hi,Option.bind_some,znl (h.idx _ (List.getElem_mem hi)),zms,hw,zbT hi (by omega:t.fIdxs.length≤_),List.getElem?_eq_getElem hi,Option.getD_some]
   by_cases h0:i=0
   ·subst h0
    cases zc3 t.fIdxs[0].fName 1<;>cases inB t.fIdxs[0].fCol 1 ((t.fCols.length:Int)-1)<;>cases inB t.fIdxs[0].fStage 0 3<;>rfl
   ·have hp:(i:Int)>0:=by omega
    have hi1:i-1<t.fIdxs.length:=by omega
    have hb:(i==0)=false:=by simpa using h0
    simp only [hp,decide_true,if_true,zsj (Nat.pos_of_ne_zero h0) (by omega:i≤2000000),zai hi1,Option.bind_some,List.getElem?_eq_getElem hi1,Option.getD_some,hb,Bool.false_or]
    cases zc3 t.fIdxs[i].fName 1<;>cases inB t.fIdxs[i].fCol 1 ((t.fCols.length:Int)-1)<;>cases inB t.fIdxs[i].fStage 0 3<;>cases Op.bytesLess t.fIdxs[i-1].fName t.fIdxs[i].fName<;>rfl
 unfold zce zbc
 rw [znl h.name,Option.bind_some,zzh h.cols h.col,hl]
 by_cases hk:(t.fIdxs.length:Int)≤3
 ·have hk': ¬(t.fIdxs.length:Int)>3:=by omega
  simp only [hk,hk',decide_true,decide_false,Bool.or_false,Bool.and_true]
  cases zc3 t.fName 1<;>cases(zp9 t.fCols&&inB t.fCols.length 2 4)<;>simp
 ·have hk':(t.fIdxs.length:Int)>3:=by omega
  simp only [hk,hk',decide_true,decide_false,Bool.or_true,Bool.and_false,Bool.false_and]
  cases zc3 t.fName 1<;>simp
theorem zyu {t:zab} (h:zcB t):zer t=some (zbc t):=by
 have hw:=zdc (n:=(t.fCols.length:Int)-1) (by omega) (by have:=h.cols;omega)
 have hn:=h.idxs
 have hm:=h.cols
 have hl:za8 (fun s:Int=>zcj t s) 0=some ((List.range t.fIdxs.length).all (zov t)):=by
  rw [zgT (n:=t.fIdxs.length) (zov t) false (some true) ?_ (by simp [zcj])]
  ·cases(List.range t.fIdxs.length).all (zov t)<;>rfl
  ·intro i hi
   unfold zov
   simp only [zcj,zgP,Int.ofNat_lt,hi,decide_true,if_true,zai hi,Option.bind_some,zni (h.idx _ (List.getElem_mem hi)),zhs,hw,zbT hi (by omega:t.fIdxs.length≤_),List.getElem?_eq_getElem hi,Option.getD_some]
   by_cases h0:i=0
   ·subst h0
    cases zc3 t.fIdxs[0].fName 1<;>cases inB t.fIdxs[0].fCol 1 ((t.fCols.length:Int)-1)<;>cases inB t.fIdxs[0].fStage 0 3<;>rfl
   ·have hp:(i:Int)>0:=by omega
    have hi1:i-1<t.fIdxs.length:=by omega
    have hb:(i==0)=false:=by simpa using h0
    simp only [hp,decide_true,if_true,zsj (Nat.pos_of_ne_zero h0) (by omega:i≤2000000),zai hi1,Option.bind_some,List.getElem?_eq_getElem hi1,Option.getD_some,hb,Bool.false_or,zsL]
    cases zc3 t.fIdxs[i].fName 1<;>cases inB t.fIdxs[i].fCol 1 ((t.fCols.length:Int)-1)<;>cases inB t.fIdxs[i].fStage 0 3<;>cases Op.bytesLess t.fIdxs[i-1].fName t.fIdxs[i].fName<;>rfl
 have hc:za8 (fun s:Int=>zcr t s) 0=some (zp9 t.fCols&&(List.range t.fIdxs.length).all (zov t)):=by
  rw [zgT (n:=t.fCols.length) (zuh t.fCols) false (zcm t) ?_ (by simp [zcr])]
  ·unfold zcm zp9
   rw [hl]
   cases(List.range t.fCols.length).all (zuh t.fCols)<;>simp
  ·intro i hi
   unfold zcr zuh
   rw [if_pos (by simpa using hi),zai hi,Option.bind_some,zni (h.col _ (List.getElem_mem hi)),Option.bind_some,zaq (by omega),zz6,zy6 (by rw [List.length_take];omega),Option.bind_some,zbT hi (by omega)]
   simp only [List.getElem?_eq_getElem hi,Option.getD_some]
   cases zc3 t.fCols[i] 3<;>cases(t.fCols.take i).contains t.fCols[i]<;>rfl
 unfold zer zbc
 rw [zni h.name,Option.bind_some,zhs,Option.bind_some,hc]
 by_cases hk:(t.fIdxs.length:Int)≤3
 ·have hk': ¬(t.fIdxs.length:Int)>3:=by omega
  simp only [hk,hk',decide_true,decide_false,Bool.or_false,Bool.and_true]
  cases zc3 t.fName 1<;>cases zp9 t.fCols<;>cases inB t.fCols.length 2 4<;>simp
 ·have hk':(t.fIdxs.length:Int)>3:=by omega
  simp only [hk,hk',decide_true,decide_false,Bool.or_true,Bool.and_false,Bool.false_and]
  cases zc3 t.fName 1<;>simp
theorem zpY {t:zab} {s:Str} (h:zcB t):zbk t s=some (zhg (fun x:zb8=>x.fName==s) t.fIdxs):=by
 have hn:=h.idxs
 unfold zbk
 refine zrT (fun x:zb8=>x.fName==s) (fun i hi=> ?_) (by simp [zeo])
 simp only [zeo,Int.ofNat_lt,hi,decide_true,if_true,zai hi,Option.bind_some,zbT hi (by omega:t.fIdxs.length≤_)]
 cases t.fIdxs[i].fName==s<;>rfl
theorem ztP {t:zab} {s:Str} (h:zcB t):zbi t s=some (zhg (fun x:zb8=>x.fName==s) t.fIdxs):=by
 have hn:=h.idxs
 have e:zbw t.fIdxs (fun y0_=>zbR y0_ s)=some (zhg (fun x:zb8=>x.fName==s) t.fIdxs):=ztp (fun x:zb8=>x.fName==s) (fun x _=>rfl) (by omega)
 simp only [zbi,e,Option.bind_some]
end Go.Proofs.YtecngjbpbnfegaaGreatDoor
end
section
namespace Go.Proofs.YtecngjbpbnfegaaGreatDoor
open Go.RowKit
set_option maxRecDepth 100000
def splitB (c:UInt8):Str→List Str
 | []=> [[]]
 |b::s=>if b=c then []::splitB c s else(match splitB c s with| []=> [[b]]|x::xs=>(b::x)::xs)
theorem zqa (c:UInt8) (s:Str):splitB c s≠ []:=by
 cases s with
 |nil=>simp [splitB]
 |cons b s=>simp only [splitB];split;simp;split<;>simp
theorem zgB {c:UInt8}: ∀{s:Str},(∀b∈s,b≠c)→splitB c s= [s]
 | [],_=>rfl
 |b::s,h=>by
  have e:=zgB (c:=c) (s:=s) fun x hx=>h x (List.mem_cons_of_mem _ hx)
  simp only [splitB,if_neg (h b (by simp)),e]
theorem zhO {c:UInt8}: ∀{p q:Str},(∀b∈p,b≠c)→splitB c (p++c::q)=p::splitB c q
 | [],q,_=>by simp [splitB]
 |b::p,q,h=>by
  have e:=zhO (c:=c) (p:=p) (q:=q) fun x hx=>h x (List.mem_cons_of_mem _ hx)
  simp only [List.cons_append,splitB,if_neg (h b (by simp)),e]
theorem zkj (c:UInt8) (s:Str):(splitB c s).length=s.count c+1:=by
 induction s with
 |nil=>rfl
 |cons b s ih=>
  simp only [splitB]
  by_cases h:b=c
  ·subst h;simp [ih]
  ·rw [if_neg h,List.count_cons_of_ne h]
   cases hs:splitB c s with
   |nil=>exact absurd hs (zqa c s)
   |cons x xs=>rw [hs]at ih;simpa using ih
theorem zz5 {α:Type} (xs:List α) (i j:Nat):zhh xs (i:Int) (j:Int)=(xs.take j).drop i:=by simp [zhh]
def zA8 (c:UInt8) (s:Str) (t:List Str × Nat) (i:Nat):List Str × Nat:=if(s[i]?).getD 0=c then(t.1++ [(s.take i).drop t.2],i+1)else t
theorem zva {s:Str} {c:UInt8} (h:s.length≤2000000):zcU s c.toNat=some (splitB c s):=by
 have h1:=zd0 (xs:=List.range s.length) (body:=fun t:List Str × Int × Int=>zb1 s c.toNat t.1 t.2.1 t.2.2) (fun i (t:List Str × Nat)=>(t.1,(t.2:Int),i)) (zA8 c s) (fun t=>zcV s t.2 t.1)
  (fun i t=>t.2≤i∧(∀b∈(s.take i).drop t.2,b≠c)∧t.1++splitB c (s.drop t.2)=splitB c s∧t.1.length≤i)
  (fun i hi t hI=>by
   rw [List.length_range]at hi
   obtain⟨I1,I2,I3,I4⟩:=hI
   have hw:=zbT hi (by omega:s.length≤_)
   rw [List.getElem_range]
   constructor
   ·show zb1 s c.toNat t.1 t.2 i=_
    unfold zb1 zA8
    rw [if_pos (by simpa using hi),zai hi,Option.bind_some,zAL,hw,zz5,List.getElem?_eq_getElem hi,Option.getD_some]
    by_cases hc:s[i]=c
    ·have hr:((t.1.length:Int)+(([(s.take i).drop t.2]:List Str).length:Int))*16≤140737488355328∧(t.1.length:Int)+(([(s.take i).drop t.2]:List Str).length:Int)≤140737488355328:=by
      rw [List.length_singleton];omega
     rw [if_pos (by simpa using hc),zaq (by omega),zaq hr,if_pos hc]
    ·rw [if_neg (by simpa using hc),if_neg hc]
   ·unfold zA8
    rw [List.getElem?_eq_getElem hi,Option.getD_some]
    have htk:s.take (i+1)=s.take i++ [s[i]]:=by rw [List.take_succ_eq_append_getElem hi]
    have hd:(s.take (i+1)).drop t.2=(s.take i).drop t.2++ [s[i]]:=by
     rw [htk,List.drop_append_of_le_length (by rw [List.length_take];omega)]
    by_cases hc:s[i]=c
    ·rw [if_pos hc]
     refine⟨Nat.le_refl _,by simp, ?_,by simp;omega⟩
     have e:s.drop t.2=(s.take i).drop t.2++c::s.drop (i+1):=by
      have e0:s.drop t.2=(s.take i).drop t.2++s.drop i:=by
       conv=>lhs;rw [←List.take_append_drop i s]
       rw [List.drop_append_of_le_length (by rw [List.length_take];omega)]
      rw [e0,List.drop_eq_getElem_cons hi,hc]
     rw [e,zhO I2]at I3
     simpa using I3
    ·rw [if_neg hc]
     refine⟨by omega, ?_,I3,by omega⟩
     rw [hd]
     intro b hb
     rcases List.mem_append.1 hb with hb|hb
     ·exact I2 b hb
     ·simp at hb;subst hb;exact hc)
  (fun t hI=>by
   show zb1 s c.toNat t.1 t.2 ((List.range s.length).length:Nat)=_
   unfold zb1
   rw [if_neg (by simp)]) (s:=([],0)) ⟨Nat.le_refl _,by simp,by simp,by simp⟩
 generalize (List.range s.length).foldl (zA8 c s) ([],0)=t at h1
 rw [List.length_range]at h1
 obtain⟨h2,I1,I2,I3,I4⟩:=h1
 unfold zcU
 refine Eq.trans h2 ?_
 unfold zcV
 have hw:zhh s (t.2:Int) (s.length:Int)=s.drop t.2:=by rw [zz5,List.take_length]
 have hr:((t.1.length:Int)+(([s.drop t.2]:List Str).length:Int))*16≤140737488355328∧(t.1.length:Int)+(([s.drop t.2]:List Str).length:Int)≤140737488355328:=by
  rw [List.length_singleton];omega
 rw [hw,zaq (by omega),zaq hr,←I3]
 rw [List.take_length]at I2
 rw [zgB I2]
theorem zf2 (l:Str) (c:UInt8):(Lib.indexByte l c= -1∧ ∀b∈l,b≠c)∨ ∃p q:Str,l=p++c::q∧(∀b∈p,b≠c)∧Lib.indexByte l c=p.length:=by
 induction l with
 |nil=>exact .inl ⟨rfl,by simp⟩
 |cons b l ih=>
  unfold Lib.indexByte
  by_cases hb:b=c
  ·subst hb
   exact .inr ⟨[],l,by simp,by simp,by simp⟩
  ·have h1:(b==c)=false:=by simpa using hb
   rw [h1]
   simp only [Bool.false_eq_true,if_false]
   rcases ih with⟨e,h⟩|⟨p,q,rfl,h,e⟩
   ·refine .inl ⟨by simp [e],fun x hx=> ?_⟩
    rcases List.mem_cons.1 hx with rfl|hx
    ·exact hb
    ·exact h x hx
   ·refine .inr ⟨b::p,q,by simp,fun x hx=> ?_, ?_⟩
    ·rcases List.mem_cons.1 hx with rfl|hx
     ·exact hb
     ·exact h x hx
    ·rw [e]
     have:((p.length:Int)== -1)=false:=by rw [beq_eq_false_iff_ne];omega
     rw [this]
     simp
theorem zrk {c:UInt8} {s:Str} (h: ∀b∈s,b≠c):s.count c=0:=List.count_eq_zero.2 fun hc=>h c hc rfl
theorem zx8 {c:UInt8} {p q:Str} (h: ∀b∈p,b≠c):(p++c::q).count c=q.count c+1:=by
 rw [List.count_append,zrk h,List.count_cons_self];omega
theorem ztm {α:Type} {a:List α} {i:Nat} (x:α) (h:i<a.length):(a.set i x).take (i+1)=a.take i++ [x]:=by
 rw [List.take_succ_eq_append_getElem (by simpa using h),List.getElem_set_self,List.take_set,List.set_eq_of_length_le (by rw [List.length_take];omega)]
theorem zAF {a b:Int} (h: ¬a<b):(bif decide (a<b)then a else b)=b:=by simp [h]
theorem zxQ {s:Str} {c:UInt8} (h:s.length≤2000000):zdR s [c]=some (splitB c s):=by
 have hcl:s.count c≤s.length:=List.count_le_length
 have hw1:IntKind.i64.wrap ((s.count c:Int)+1)=(s.count c:Int)+1:=zdc (by omega) (by omega)
 have hw2:IntKind.i64.wrap ((s.length:Int)+1)=(s.length:Int)+1:=zdc (by omega) (by omega)
 have hbif:(bif decide ((s.length:Int)+1<(s.count c:Int)+1)then(s.length:Int)+1 else(s.count c:Int)+1)=(s.count c:Int)+1:=zAF (by omega)
 have hw3:IntKind.i64.wrap ((s.count c:Int)+1-1)=(s.count c:Int):=by rw [zdc (by omega) (by omega)];omega
 have key: ∀(n:Nat) (r:Str) (a:List Str) (i:Nat),r.count c=n→r.length≤s.length→a.length=s.count c+1→i+n=s.count c→a.take i++splitB c r=splitB c s→
   za8 (fun t:Str × Int × List Str=>za9 s [c] 0 ((s.count c:Int)+1) t.1 t.2.1 t.2.2) (r,(i:Int),a)=some (splitB c s):=by
  intro n
  induction n with
  |zero=>
   intro r a i hr hl ha hi hI
   have hr0: ∀b∈r,b≠c:=fun b hb e=>by subst e;exact List.count_eq_zero.1 hr hb
   have hia:i<a.length:=by omega
   have hwi:=zbT hia (by omega)
   have hb:za9 s [c] 0 ((s.count c:Int)+1) r i a=some (.inr (some (splitB c s))):=by
    unfold za9
    rw [hw2,hbif,hw3,if_neg (by simp;omega)]
    unfold zbQ
    rw [zai hia,Option.bind_some,hwi,Int.toNat_natCast,zaq (by rw [List.length_set];omega),zz6,ztm r hia,←hI,zgB hr0]
   rw [zda]
   dsimp only
   rw [hb]
  |succ n ih=>
   intro r a i hr hl ha hi hI
   rcases zf2 r c with⟨_,h0⟩|⟨p,q,rfl,hp,hx⟩
   ·rw [zrk h0]at hr;omega
   ·rw [zx8 hp]at hr
    have hia:i<a.length:=by omega
    have hwi:=zbT hia (by omega)
    simp only [List.length_append,List.length_cons]at hl
    have hv0:IntKind.i64.wrap ((p.length:Int)+0)=(p.length:Int):=by rw [zdc (by omega) (by omega)];omega
    have hv1:IntKind.i64.wrap ((p.length:Int)+(([c]:Str).length:Int))=((p.length+1:Nat):Int):=by rw [List.length_singleton,zdc (by omega) (by omega)];omega
    have hb:za9 s [c] 0 ((s.count c:Int)+1) (p++c::q) i a=some (.inl (q,((i+1:Nat):Int),a.set i p)):=by
     unfold za9
     have hidx:zeQ (p++c::q) [c]=some (p.length:Int):=by simp [zeQ,zbm,hx]
     rw [hw2,hbif,hw3,if_pos (by simp;omega),hidx,Option.bind_some,if_neg (by simp),hv0,zaq (by rw [List.length_append];omega),zai hia,Option.bind_some,hv1,zaq (by rw [List.length_append,List.length_cons];omega),hwi,Int.toNat_natCast,zz5,zz6,List.take_length]
     have e1:(p++c::q).drop (p.length+1)=q:=by simp
     have e2:(p++c::q).take p.length=p:=by simp
     rw [e1,e2]
    rw [zda]
    dsimp only
    rw [hb]
    refine ih q (a.set i p) (i+1) (by omega) (by omega) (by simpa using ha) (by omega) ?_
    rw [ztm p hia,←hI,zhO hp]
    simp
 have hc1:zhQ s [c]=some ((s.count c:Nat):Int):=rfl
 have hz:(((-1:Int))==0)=false:=rfl
 have hne:(([c]:Str)==([]:Str))=false:=rfl
 unfold zdR zeC
 rw [hz,hne,if_neg (by simp),if_neg (by simp),if_pos (by simp),hc1,Option.bind_some,hw1]
 unfold zbX
 rw [hw2,hbif,zaq (by omega)]
 exact zzB (key (s.count c) s (List.replicate ((s.count c:Int)+1).toNat []) 0 rfl (Nat.le_refl _) (by simp) (by omega) (by simp))
end Go.Proofs.YtecngjbpbnfegaaGreatDoor
end
section
namespace Go.Proofs.YtecngjbpbnfegaaGreatDoor
open Go.RowKit
set_option maxRecDepth 100000
def field (s:Str):Bool:=inB s.length 1 3&&zjK s []
theorem zrR {s:Str} (h:s.length≤2000000):zc7 s=some (field s):=by
 simp only [zc7,zms,Option.bind_some,zpj h (more:= []) (by decide),field]
 cases inB s.length 1 3<;>simp
theorem zoM {s:Str} (h:s.length≤2000000):zdA s=some (field s):=by
 simp only [zdA,zhs,Option.bind_some,znD h,field]
 cases inB s.length 1 3<;>simp
theorem zwG (sep x y:Str) (r:List Str):Lib.join (x::(r++ [y])) sep=Lib.join (x::r) sep++sep++y:=by
 rw [Lib.join_cons,Lib.join_cons]
 simp [Lib.joinTail]
theorem zwP {xs:List Str} {sep:Str} {i:Nat} (hi:i<xs.length):Lib.join (xs.take (i+1)) sep=if i=0 then xs[i]else Lib.join (xs.take i) sep++sep++xs[i]:=by
 rw [List.take_succ_eq_append_getElem hi]
 cases xs with
 |nil=>simp at hi
 |cons x xs=>
  cases i with
  |zero=>simp [Lib.join_cons,Lib.joinTail]
  |succ i=>
   rw [List.take_succ_cons,List.cons_append,zwG,if_neg (by omega)]
def ze8:List Str→Nat
 | []=>0
 |x::xs=>x.length+ze8 xs
theorem zuM (xs:List Str) (sep:Str):(Lib.join xs sep).length≤ze8 xs+xs.length*sep.length:=by
 cases xs with
 |nil=>simp [Lib.join_nil]
 |cons x xs=>
  rw [Lib.join_cons,List.length_append]
  have: ∀r:List Str,(Lib.joinTail sep r).length=ze8 r+r.length*sep.length:=by
   intro r
   induction r with
   |nil=>simp [Lib.joinTail,ze8]
   |cons y r ih=>
    have e:Lib.joinTail sep (y::r)=sep++y++Lib.joinTail sep r:=by simp [Lib.joinTail]
    rw [e,List.length_append,List.length_append,ih,ze8,List.length_cons,Nat.succ_mul]
    omega
  rw [this,ze8,List.length_cons,Nat.succ_mul]
  omega
theorem zuu (xs:List Str) (i:Nat):ze8 (xs.take i)≤ze8 xs:=by
 induction xs generalizing i with
 |nil=>simp [ze8]
 |cons x xs ih=>
  cases i with
  |zero=>simp [ze8]
  |succ i=>simp only [List.take_succ_cons,ze8];have:=ih i;omega
theorem zri {xs:List Str} {i:Nat} (hi:i<xs.length):xs[i].length≤ze8 xs:=by
 induction xs generalizing i with
 |nil=>simp at hi
 |cons x xs ih=>
  cases i with
  |zero=>simp [ze8]
  |succ i=>simp only [List.getElem_cons_succ,ze8];have:=ih (i:=i) (by simpa using hi);omega
def Small (xs:List Str):Prop:=xs.length≤2000000∧ze8 xs≤2000000
theorem zzT {xs:List Str} {c:UInt8} (h:Small xs):zgI xs [c]=some (Lib.join xs [c]):=by
 obtain⟨h1,h2⟩:=h
 have hl:=zd0 (xs:=List.range xs.length) (body:=fun s:Str × Int=>zbU xs [c] s.1 s.2) (fun i (o:Str)=>(o,i)) (fun o i=>if i=0 then(xs[i]?).getD []else o++ [c]++(xs[i]?).getD []) (fun o=>some o) (fun i o=>o=Lib.join (xs.take i) [c])
  (fun i hi o hI=>by
   rw [List.length_range]at hi
   rw [List.getElem_range]
   have hI:o=Lib.join (xs.take i) [c]:=hI
   have hlen:o.length≤1010000000:=by
    have e1:=zuM (xs.take i) [c]
    have e2:=zuu xs i
    rw [List.length_take,List.length_singleton,Nat.mul_one]at e1
    rw [hI];omega
   have hg:=zri hi
   have hw:=zbT hi (by omega:xs.length≤_)
   rw [List.getElem?_eq_getElem hi,Option.getD_some]
   refine⟨?_,by show _=_;rw [zwP hi,hI]⟩
   show zbU xs [c] o i=_
   unfold zbU
   rw [if_pos (by simpa using hi),zai hi,Option.bind_some,hw]
   by_cases h0:i=0
   ·subst h0
    have ho:o= []:=by rw [hI];rfl
    subst ho
    rw [if_neg (by simp),zaq (by simp;omega),if_pos rfl];rfl
   ·rw [if_pos (by simp;omega),zaq (by rw [List.length_singleton];omega),zaq (by rw [List.length_append,List.length_singleton];omega),if_neg h0])
  (fun o _=>by
   show zbU xs [c] o ((List.range xs.length).length:Nat)=_
   unfold zbU
   rw [if_neg (by simp)]) (s:= []) (by simp [Lib.join_nil])
 generalize (List.range xs.length).foldl (fun o i=>if i=0 then(xs[i]?).getD []else o++ [c]++(xs[i]?).getD []) []=o at hl
 obtain⟨h3,h4⟩:=hl
 have h4:o=Lib.join (xs.take (List.range xs.length).length) [c]:=h4
 rw [List.length_range,List.take_length]at h4
 subst h4
 exact h3
theorem zz4 {xs:List Str} {c:UInt8} (h:Small xs):zh6 xs [c]=some (Lib.join xs [c]):=by
 obtain⟨h1,h2⟩:=h
 have:=zuM xs [c]
 rw [List.length_singleton,Nat.mul_one]at this
 exact zaq ⟨by omega,by omega⟩
end Go.Proofs.YtecngjbpbnfegaaGreatDoor
end
section
namespace Go.Proofs.YtecngjbpbnfegaaGreatDoor
open Go.RowKit
set_option maxRecDepth 100000
theorem Small.each {xs:List Str} (h:Small xs): ∀x∈xs,x.length≤2000000:=by
 intro x hx
 obtain⟨i,hi,rfl⟩:=List.getElem_of_mem hx
 exact Nat.le_trans (zri hi) h.2
def zhE (t:zab) (r:zdN):Bool:=((r.fVals.length:Int)==t.fCols.length)&&r.fVals.all field
theorem zvT {t:zab} {r:zdN} (h:Small r.fVals):zfl t r=some (zhE t r):=by
 have h1:=h.1
 unfold zfl
 rw [zkE (xs:=r.fVals) field false (zcX t r) (fun i hi=>by
  simp only [zd1,Int.ofNat_lt,hi,decide_true,if_true,zai hi,Option.bind_some,zrR (h.each _ (List.getElem_mem hi)),zbT hi (by omega:r.fVals.length≤_)]
  cases field r.fVals[i]<;>rfl) (by simp [zd1])]
 unfold zcX zhE
 cases r.fVals.all field<;>simp
theorem zvH {t:zab} {r:zdN} (h:Small r.fVals):zcP t r=some (zhE t r):=by
 have e:zaZ r.fVals (fun y0_=>zbG y0_)=some (r.fVals.any fun s=> !field s):=zpb _ (fun s hs=>by simp [zbG,zoM (h.each s hs)]) (by have:=h.1;omega)
 simp only [zcP,e,Option.bind_some,zhE,←List.not_all_eq_any_not]
 cases((r.fVals.length:Int)==t.fCols.length)<;>simp
def zxi (t:zab) (r:zdN):zag:=⟨t.fName++ [47]++(r.fVals.head?).getD [],Lib.join r.fVals.tail [44],false⟩
theorem zB4 {α:Type} (xs:List α):zhh xs 1 (xs.length:Int)=xs.tail:=by simp [zhh]
theorem Small.tail {xs:List Str} (h:Small xs):Small xs.tail:=by
 cases xs with
 |nil=>exact h
 |cons x xs=>exact⟨by have:=h.1;simp at this ⊢;omega,by have:=h.2;simp only [ze8,List.tail_cons]at this ⊢;omega⟩
theorem zzJ {t:zab} {r:zdN} (ht:t.fName.length≤2000000) (h:Small r.fVals) (hn:r.fVals≠ []):zeS t r=some (zxi t r):=by
 obtain⟨x,xs,hx⟩:=List.exists_cons_of_ne_nil hn
 have hx1:x.length≤2000000:=h.each x (by simp [hx])
 unfold zeS zxi
 rw [zaq (by rw [List.length_singleton];omega),zB4,zzT h.tail,hx]
 rw [show zbF (x::xs) 0=some x from rfl,Option.bind_some,zaq (by rw [List.length_append,List.length_singleton];omega),zaq (by simp only [List.length_cons];omega),Option.bind_some]
 rfl
theorem zzP {t:zab} {r:zdN} (ht:t.fName.length≤2000000) (h:Small r.fVals) (hn:r.fVals≠ []):zca t r=some (zxi t r):=by
 obtain⟨x,xs,hx⟩:=List.exists_cons_of_ne_nil hn
 have hx1:x.length≤2000000:=h.each x (by simp [hx])
 unfold zca zxi
 rw [zaq (by rw [List.length_singleton];omega),zB4,zz4 h.tail,hx]
 rw [show zbF (x::xs) 0=some x from rfl,Option.bind_some,zaq (by rw [List.length_append,List.length_singleton];omega),zaq (by simp only [List.length_cons];omega),Option.bind_some]
 rfl
theorem znR (c:UInt8) (s:Str):ze8 (splitB c s)≤s.length:=by
 induction s with
 |nil=>simp [splitB,ze8]
 |cons b s ih=>
  simp only [splitB]
  split
  ·simp only [ze8,List.length_nil,List.length_cons];omega
  ·cases hs:splitB c s with
   |nil=>exact absurd hs (zqa c s)
   |cons x xs=>rw [hs]at ih;simp only [ze8,List.length_cons]at ih ⊢;omega
theorem zuy {c:UInt8} {s:Str} (h:s.length≤1000000):Small (splitB c s):=by
 have h1:=zkj c s
 have h2:s.count c≤s.length:=List.count_le_length
 have h3:=znR c s
 exact⟨by omega,by omega⟩
theorem zA1 {s p:Str} (hs:s.length≤2000000):zcl s p=some (if p.isPrefixOf s=true then(s.drop p.length,true)else(s,false)):=by
 have e:za2 s p=some (p.isPrefixOf s):=by
  unfold za2
  by_cases hl:p.length≤s.length
  ·rw [if_pos (by simpa using hl),zaq (by omega),zz6]
   congr 1
   rw [Bool.eq_iff_iff,beq_iff_eq,List.isPrefixOf_iff_prefix,List.prefix_iff_eq_take]
   exact eq_comm
  ·rw [if_neg (by simpa using hl)]
   congr 1
   symm
   rw [←Bool.not_eq_true,List.isPrefixOf_iff_prefix]
   intro h
   exact hl h.length_le
 unfold zcl zbp
 rw [e,Option.bind_some]
 cases hp:p.isPrefixOf s with
 |false=>simp
 |true=>
  have hl:=(List.isPrefixOf_iff_prefix.1 hp).length_le
  simp only [Bool.not_true,Bool.false_eq_true,if_false,if_true]
  rw [zaq (by omega),zz5,List.take_length]
  rfl
end Go.Proofs.YtecngjbpbnfegaaGreatDoor
end
section
namespace Go.Proofs.YtecngjbpbnfegaaGreatDoor
open Go.RowKit
set_option maxRecDepth 100000
def zr4 (a b:zag):Bool:=a.fKey==b.fKey&&(a.fVal==b.fVal&&(a.fGone==b.fGone))
theorem zvx (a b:zag):zr4 a b=zr4 b a:=by
 unfold zr4
 rw [show(a.fKey==b.fKey)=(b.fKey==a.fKey)from BEq.comm,show(a.fVal==b.fVal)=(b.fVal==a.fVal)from BEq.comm,show(a.fGone==b.fGone)=(b.fGone==a.fGone)from BEq.comm]
theorem zwE {a b:zag} (h:zr4 a b=true):a.fKey=b.fKey:=by
 unfold zr4 at h
 simp only [Bool.and_eq_true,beq_iff_eq]at h
 exact h.1
def zg1 (w:zag):zdN:=⟨w.fKey.drop 2::splitB 44 w.fVal⟩
def zd9 (t:zab) (w:zag):Bool:=zhE t (zg1 w)&&zr4 (zxi t (zg1 w)) w
def znh (w:zag):Prop:=w.fKey.length≤1000∧w.fVal.length≤1000
theorem zlJ {w:zag} (h:znh w):Small (zg1 w).fVals:=by
 have h1:=zkj 44 w.fVal
 have h2:w.fVal.count 44≤w.fVal.length:=List.count_le_length
 have h3:=znR 44 w.fVal
 obtain⟨k,v⟩:=h
 refine⟨?_, ?_⟩
 ·show(w.fKey.drop 2::splitB 44 w.fVal).length≤_
  rw [List.length_cons];omega
 ·show ze8 (w.fKey.drop 2::splitB 44 w.fVal)≤_
  rw [ze8,List.length_drop];omega
theorem zwU {t:zab} {w:zag} (h:zhE t (zg1 w)=true):3≤w.fKey.length:=by
 unfold zhE zg1 at h
 simp only [Bool.and_eq_true,List.all_cons,field,zee,List.length_drop]at h
 omega
theorem zzM {t:zab} {w:zag} (ht:t.fName.length≤2000000) (h:znh w): ∃r,zfq t w=some (r,zd9 t w)∧(zd9 t w=true→r=zg1 w):=by
 have hs:=zlJ h
 have hsp:=zkj 44 w.fVal
 have hct:w.fVal.count 44≤w.fVal.length:=List.count_le_length
 obtain⟨hk,hv⟩:=h
 unfold zfq
 by_cases h3:w.fKey.length<3
 ·rw [if_pos (by simp;omega)]
  have:zd9 t w=false:=by
   unfold zd9
   cases hg:zhE t (zg1 w)with
   |false=>rfl
   |true=>have:=zwU hg;omega
  exact⟨_,by rw [this],by rw [this];intro h;cases h⟩
 ·have hw:zhh w.fKey 2 (w.fKey.length:Int)=w.fKey.drop 2:=by
   have:=zz5 w.fKey 2 w.fKey.length
   rw [List.take_length]at this
   exact this
  have hsplit:zcU w.fVal 44=some (splitB 44 w.fVal):=zva (c:=44) (by omega)
  have hr:(([w.fKey.drop 2]:List Str).length+(splitB 44 w.fVal).length:Int)*16≤140737488355328∧(([w.fKey.drop 2]:List Str).length:Int)+(splitB 44 w.fVal).length≤140737488355328:=by
   rw [List.length_singleton];omega
  rw [if_neg (by simp;omega),zaq (by omega),hsplit,Option.bind_some,hw,zaq hr]
  rw [show(⟨[w.fKey.drop 2]++splitB 44 w.fVal⟩:zdN)=zg1 w from rfl,zvT hs,Option.bind_some]
  unfold zd9
  cases hg:zhE t (zg1 w)with
  |false=>exact⟨_,by rw [if_neg (by simp)];rfl,by simp⟩
  |true=>
   rw [if_pos rfl,zzJ ht hs (by simp [zg1]),Option.bind_some]
   exact⟨zg1 w,by rw [Bool.true_and];rfl,fun _=>rfl⟩
theorem zzi {t:zab} {w:zag} (ht:t.fName.length=1) (h:znh w): ∃r,zcg t w=some (r,zd9 t w)∧(zd9 t w=true→r=zg1 w):=by
 have hs:=zlJ h
 have hsp:=zkj 44 w.fVal
 have hct:w.fVal.count 44≤w.fVal.length:=List.count_le_length
 obtain⟨hk,hv⟩:=h
 unfold zcg
 have hsplit:zdR w.fVal [44]=some (splitB 44 w.fVal):=zxQ (by omega)
 rw [zaq (by rw [List.length_singleton];omega),zA1 (by omega),Option.bind_some,hsplit,Option.bind_some]
 have hr: ∀x:Str,(([x]:List Str).length+(splitB 44 w.fVal).length:Int)*16≤140737488355328∧(([x]:List Str).length:Int)+(splitB 44 w.fVal).length≤140737488355328:=by
  intro x;rw [List.length_singleton];omega
 rw [zaq (hr _)]
 cases hp:(t.fName++ [47]).isPrefixOf w.fKey with
 |false=>
  have hno:zd9 t w=false:=by
   unfold zd9
   cases hw:zr4 (zxi t (zg1 w)) w with
   |false=>simp
   |true=>
    have hkey:=zwE hw
    rw [←Bool.not_eq_true,List.isPrefixOf_iff_prefix]at hp
    exact absurd ⟨_,hkey⟩ hp
  rw [hno]
  exact⟨_,by rw [if_neg (by simp)],by simp⟩
 |true=>
  have hl:(t.fName++ [47]).length=2:=by rw [List.length_append,ht];rfl
  simp only [if_true,hl]
  rw [show(⟨[w.fKey.drop 2]++splitB 44 w.fVal⟩:zdN)=zg1 w from rfl,zvH hs,Option.bind_some]
  unfold zd9
  cases hg:zhE t (zg1 w)with
  |false=>exact⟨_,by rw [if_neg (by simp)];rfl,by simp⟩
  |true=>
   rw [if_pos rfl,zzP (by omega) hs (by simp [zg1]),Option.bind_some]
   rw [show(w.fKey==(zxi t (zg1 w)).fKey&&(w.fVal==(zxi t (zg1 w)).fVal&&w.fGone==(zxi t (zg1 w)).fGone))=zr4 w (zxi t (zg1 w))from rfl,zvx]
   cases zr4 (zxi t (zg1 w)) w with
   |false=>exact⟨_,by rw [if_pos (by simp)];rfl,by simp⟩
   |true=>exact⟨_,by rw [if_neg (by simp)];rfl,fun _=>rfl⟩
end Go.Proofs.YtecngjbpbnfegaaGreatDoor
end
section
namespace Go.Proofs.YtecngjbpbnfegaaGreatDoor
open Go.RowKit
set_option maxRecDepth 100000
theorem ziy {α β:Type} (p:α→Bool) (f:α→β) (l:List α) (o:List β):l.foldl (fun o x=>if p x=true then o++ [f x]else o) o=o++(l.filter p).map f:=by
 induction l generalizing o with
 |nil=>simp
 |cons x l ih=>
  rw [List.foldl_cons,ih,List.filter_cons]
  cases p x<;>simp
def zjd (t:zab) (l:List zag):List zdN:=(l.filter (zd9 t)).map zg1
theorem zyp {t:zab} {l:List zag} (ht:t.fName.length≤2000000) (hl:l.length≤2000000) (h: ∀w∈l,znh w):zgQ t l=some (zjd t l):=by
 have h1:=zd0 (xs:=l) (body:=fun s:List zdN × Int=>zbS t l s.1 s.2) (fun i (o:List zdN)=>(o,i)) (fun o w=>if zd9 t w=true then o++ [zg1 w]else o) (fun o=>some o) (fun i o=>o.length≤i)
  (fun i hi o hI=>by
   have hI:o.length≤i:=hI
   obtain⟨r,e,hr⟩:=zzM ht (h _ (List.getElem_mem hi))
   have hw:=zbT hi (by omega:l.length≤_)
   refine⟨?_,by
    show List.length (if zd9 t l[i]=true then o++ [zg1 l[i]]else o)≤i+1
    split
    ·rw [List.length_append,List.length_singleton];omega
    ·omega⟩
   show zbS t l o i=_
   unfold zbS
   rw [if_pos (by simpa using hi),zai hi,Option.bind_some,e,Option.bind_some,hw]
   cases hb:zd9 t l[i]with
   |false=>rfl
   |true=>
    have hq:((o.length:Int)+(([r]:List zdN).length:Int))*24≤140737488355328∧(o.length:Int)+(([r]:List zdN).length:Int)≤140737488355328:=by
     rw [List.length_singleton];omega
    rw [if_pos rfl,zaq hq,if_pos rfl,hr hb])
  (fun o _=>by
   show zbS t l o l.length=_
   unfold zbS
   rw [if_neg (by simp)]) (s:= []) (by simp)
 rw [ziy]at h1
 exact h1.1
theorem zyb {t:zab} {l:List zag} (ht:t.fName.length=1) (hl:l.length≤2000000) (h: ∀w∈l,znh w):zdu t l=some (zjd t l):=by
 have h1:=zd0 (xs:=l) (body:=fun s:Int × List zdN=>zaR t l s.1 s.2) (fun i (o:List zdN)=>(i,o)) (fun o w=>if zd9 t w=true then o++ [zg1 w]else o) (fun o=>some o) (fun i o=>o.length≤i)
  (fun i hi o hI=>by
   have hI:o.length≤i:=hI
   obtain⟨r,e,hr⟩:=zzi ht (h _ (List.getElem_mem hi))
   have hw:=zbT hi (by omega:l.length≤_)
   refine⟨?_,by
    show List.length (if zd9 t l[i]=true then o++ [zg1 l[i]]else o)≤i+1
    split
    ·rw [List.length_append,List.length_singleton];omega
    ·omega⟩
   show zaR t l i o=_
   unfold zaR
   rw [if_pos (by simpa using hi),zai hi,Option.bind_some,e,Option.bind_some,hw]
   cases hb:zd9 t l[i]with
   |false=>rfl
   |true=>
    have hq:((o.length:Int)+(([r]:List zdN).length:Int))*24≤140737488355328∧(o.length:Int)+(([r]:List zdN).length:Int)≤140737488355328:=by
     rw [List.length_singleton];omega
    rw [if_pos rfl,zaq hq,if_pos rfl,hr hb])
  (fun o _=>by
   show zaR t l l.length o=_
   unfold zaR
   rw [if_neg (by simp)]) (s:= []) (by simp)
 rw [ziy]at h1
 exact h1.1
def head (t:zab) (n:Str):Str:=t.fName++ [46]++n
def zfB (t:zab) (n:Str) (k:Str):Bool:=match splitB 47 k with
 | [x,y,z]=>x==head t n&&field y&&field z
 |_=>false
theorem zxR {t:zab} {n k:Str} (ht:t.fName.length≤2000000) (hn:n.length≤2000000) (hk:k.length≤1000000): ∃a b,zc8 t n k=some (a,b,zfB t n k):=by
 have hsm:=zuy (c:=47) hk
 have he:zcU k 47=some (splitB 47 k):=zva (c:=47) (by omega)
 unfold zc8 zfB
 rw [he,Option.bind_some]
 generalize splitB 47 k=ps at hsm
 match ps,hsm with
 | [],_=>exact⟨_,_,by rw [if_pos (by simp)]⟩
 | [_],_=>exact⟨_,_,by rw [if_pos (by simp)]⟩
 | [_,_],_=>exact⟨_,_,by rw [if_pos (by simp)]⟩
 |_::_::_::_::l,_=>exact⟨_,_,by rw [if_pos (by simp;omega)]⟩
 | [x,y,z],hsm=>
  have hy:=hsm.each y (by simp)
  have hz:=hsm.each z (by simp)
  dsimp only
  rw [if_neg (by simp),show zbF [x,y,z] 0=some x from rfl,Option.bind_some,zaq (by rw [List.length_singleton];omega),zaq (by rw [List.length_append,List.length_singleton];omega)]
  rw [show(t.fName++ [46]++n)=head t n from rfl]
  by_cases hx:x=head t n
  ·rw [if_neg (by simp [hx]),show zbF [x,y,z] 1=some y from rfl,Option.bind_some,zrR hy,Option.bind_some]
   have hx2:(x==head t n)=true:=by simpa using hx
   rw [hx2]
   cases field y with
   |false=>exact⟨_,_,by rw [if_neg (by simp)];rfl⟩
   |true=>
    rw [if_pos rfl,show zbF [x,y,z] 2=some z from rfl,Option.bind_some,zrR hz,Option.bind_some]
    cases field z with
    |false=>exact⟨_,_,by rw [if_pos (by simp)];rfl⟩
    |true=>exact⟨_,_,by rw [if_neg (by simp)];rfl⟩
  ·have hx2:(x==head t n)=false:=by simpa using hx
   rw [hx2]
   exact⟨_,_,by rw [if_pos (by simpa [bne]using hx2)];rfl⟩
end Go.Proofs.YtecngjbpbnfegaaGreatDoor
end
section
namespace Go.Proofs.YtecngjbpbnfegaaGreatDoor
open Go.RowKit
set_option maxRecDepth 100000
theorem zvV {c:UInt8} {s x y:Str} {r:List Str} (h:splitB c s=x::y::r): ∃q,s=x++c::q:=by
 rcases zf2 s c with⟨_,h0⟩|⟨p,q,rfl,hp,_⟩
 ·rw [zgB h0]at h;simp at h
 ·rw [zhO hp]at h
  obtain⟨rfl,_⟩:=List.cons.inj h
  exact⟨q,rfl⟩
theorem zyZ {x:Str} {c:UInt8} (hx:x.length≤2000000):(zeg x [c]=some (x, [],false)∧ ∀b∈x,b≠c)∨ ∃p q,x=p++c::q∧(∀b∈p,b≠c)∧zeg x [c]=some (p,q,true):=by
 have hi:zbm x [c]=some (Lib.indexByte x c):=rfl
 rcases zf2 x c with⟨e,h0⟩|⟨p,q,rfl,hp,e⟩
 ·refine .inl ⟨?_,h0⟩
  unfold zeg zbz
  rw [hi,Option.bind_some,e,if_neg (by simp)]
  rfl
 ·refine .inr ⟨p,q,rfl,hp, ?_⟩
  rw [List.length_append,List.length_cons]at hx
  have hw:IntKind.i64.wrap ((p.length:Int)+(([c]:Str).length:Int))=((p.length+1:Nat):Int):=by rw [List.length_singleton,zdc (by omega) (by omega)];omega
  unfold zeg zbz
  rw [hi,Option.bind_some,e,if_pos (by simp),zaq (by rw [List.length_append,List.length_cons];omega),hw,zaq (by rw [List.length_append,List.length_cons];omega),zz6,zz5,List.take_length]
  have e1:(p++c::q).drop (p.length+1)=q:=by simp
  have e2:(p++c::q).take p.length=p:=by simp
  rw [e1,e2]
  rfl
theorem zyc {s:Str} (h:(47:UInt8)∈s):field s=false:=by
 unfold field zjK
 have:(s.all fun b=>zi3 b||([]:Str).contains b)=false:=by
  rw [List.all_eq_false]
  exact⟨47,h,by decide⟩
 rw [this,Bool.and_false]
theorem zwW {t:zab} {n:Str} (ht:t.fName.length≤2000000) (hn:n.length≤2000000):zbD t n=some (head t n++ [47]):=by
 unfold zbD head
 rw [zaq (by rw [List.length_singleton];omega),zaq (by rw [List.length_append,List.length_singleton];omega),zaq (by rw [List.length_append,List.length_append,List.length_singleton,List.length_singleton];omega)]
theorem zyy {t:zab} {n k:Str} (ht:t.fName.length≤2000000) (hn:n.length≤2000000) (hk:k.length≤1000000) (hh: ∀b∈head t n,b≠47): ∃a b,zbH t n k=some (a,b,zfB t n k):=by
 unfold zbH
 rw [zwW ht hn,Option.bind_some,zA1 (by omega),Option.bind_some]
 cases hp:(head t n++ [47]).isPrefixOf k with
 |false=>
  have hno:zfB t n k=false:=by
   unfold zfB
   split
   ·rename_i x y z hs
    cases hx:x==head t n with
    |false=>simp
    |true=>
     obtain⟨q,hq⟩:=zvV hs
     rw [←Bool.not_eq_true,List.isPrefixOf_iff_prefix]at hp
     refine absurd ⟨q, ?_⟩ hp
     rw [hq,(by simpa using hx:x=head t n)]
     simp
   ·rfl
  rw [hno]
  simp only [Bool.false_eq_true,if_false]
  rcases zyZ (x:=k) (c:=47) (by omega)with⟨e,_⟩|⟨p,q,_,_,e⟩
  ·rw [e];exact⟨_,_,rfl⟩
  ·rw [e];exact⟨_,_,rfl⟩
 |true=>
  obtain⟨rest,hrest⟩:=List.isPrefixOf_iff_prefix.1 hp
  have hk2:k=head t n++47::rest:=by rw [←hrest];simp
  have hd:k.drop (head t n++ [47]).length=rest:=by rw [←hrest,List.drop_left]
  have hsp:splitB 47 k=head t n::splitB 47 rest:=by rw [hk2,zhO hh]
  have hlen:rest.length≤1000000:=by
   have:k.length=(head t n).length+(rest.length+1):=by rw [hk2,List.length_append,List.length_cons]
   omega
  simp only [if_true,hd]
  unfold zfB
  rw [hsp]
  rcases zyZ (x:=rest) (c:=47) (by omega)with⟨e,h0⟩|⟨p,q,rfl,hp2,e⟩
  ·rw [e,zgB h0]
   exact⟨_,_,rfl⟩
  ·rw [e,zhO hp2,Option.bind_some]
   rw [List.length_append,List.length_cons]at hlen
   simp only [if_true]
   rw [zoM (s:=p) (by omega),Option.bind_some]
   rcases zf2 q 47 with⟨_,h0⟩|⟨p3,q3,rfl,hp3,_⟩
   ·rw [zgB h0]
    dsimp only
    rw [beq_self_eq_true,Bool.true_and]
    cases field p with
    |false=>exact⟨_,_,rfl⟩
    |true=>
     rw [if_pos rfl,zoM (s:=q) (by omega),Option.bind_some]
     cases field q with
     |false=>exact⟨_,_,rfl⟩
     |true=>exact⟨_,_,rfl⟩
   ·have hf:field (p3++47::q3)=false:=zyc (by simp)
    rw [zhO hp3]
    cases hq:splitB 47 q3 with
    |nil=>exact absurd hq (zqa _ _)
    |cons x xs=>
     dsimp only
     cases field p with
     |false=>exact⟨_,_,rfl⟩
     |true=>
      rw [if_pos rfl,zoM (by rw [List.length_append,List.length_cons]at hlen ⊢;omega),Option.bind_some,hf]
      exact⟨_,_,rfl⟩
end Go.Proofs.YtecngjbpbnfegaaGreatDoor
end
section
namespace Go.Proofs.YtecngjbpbnfegaaGreatDoor
open Go.RowKit
set_option maxRecDepth 100000
def zhf (t:zab) (n:Str) (l:List zag):List Str:=(l.filter fun w=>zfB t n w.fKey).map (·.fKey)
theorem zvr {t:zab} {n:Str} {l:List zag} (ht:t.fName.length≤2000000) (hn:n.length≤2000000) (hl:l.length≤2000000) (h: ∀w∈l,znh w):zcZ t n l=some (zhf t n l):=by
 have h1:=zd0 (xs:=l) (body:=fun s:List Str × Int=>zbg t n l s.1 s.2) (fun i (o:List Str)=>(o,i)) (fun o w=>if zfB t n w.fKey=true then o++ [w.fKey]else o) (fun o=>some o) (fun i o=>o.length≤i)
  (fun i hi o hI=>by
   have hI:o.length≤i:=hI
   have htw:=h _ (List.getElem_mem hi)
   obtain⟨a,b,e⟩:=zxR (t:=t) (n:=n) (k:=l[i].fKey) ht hn (by have:=htw.1;omega)
   have hw:=zbT hi (by omega:l.length≤_)
   refine⟨?_,by
    show List.length (if zfB t n l[i].fKey=true then o++ [l[i].fKey]else o)≤i+1
    split
    ·rw [List.length_append,List.length_singleton];omega
    ·omega⟩
   show zbg t n l o i=_
   unfold zbg
   rw [if_pos (by simpa using hi),zai hi,Option.bind_some,e,Option.bind_some,hw]
   cases hb:zfB t n l[i].fKey with
   |false=>rfl
   |true=>
    have hq:((o.length:Int)+(([l[i].fKey]:List Str).length:Int))*16≤140737488355328∧(o.length:Int)+(([l[i].fKey]:List Str).length:Int)≤140737488355328:=by
     rw [List.length_singleton];omega
    rw [if_pos rfl,zaq hq,if_pos rfl])
  (fun o _=>by
   show zbg t n l o l.length=_
   unfold zbg
   rw [if_neg (by simp)]) (s:= []) (by simp)
 rw [ziy (fun w:zag=>zfB t n w.fKey) (fun w=>w.fKey)]at h1
 exact h1.1
theorem zvu {t:zab} {n:Str} {l:List zag} (ht:t.fName.length≤2000000) (hn:n.length≤2000000) (hh: ∀b∈head t n,b≠47) (hl:l.length≤2000000) (h: ∀w∈l,znh w):zbo t n l=some (zhf t n l):=by
 have h1:=zd0 (xs:=l) (body:=fun s:Int × List Str=>zaC t n l s.1 s.2) (fun i (o:List Str)=>(i,o)) (fun o w=>if zfB t n w.fKey=true then o++ [w.fKey]else o) (fun o=>some o) (fun i o=>o.length≤i)
  (fun i hi o hI=>by
   have hI:o.length≤i:=hI
   have htw:=h _ (List.getElem_mem hi)
   obtain⟨a,b,e⟩:=zyy (t:=t) (n:=n) (k:=l[i].fKey) ht hn (by have:=htw.1;omega) hh
   have hw:=zbT hi (by omega:l.length≤_)
   refine⟨?_,by
    show List.length (if zfB t n l[i].fKey=true then o++ [l[i].fKey]else o)≤i+1
    split
    ·rw [List.length_append,List.length_singleton];omega
    ·omega⟩
   show zaC t n l i o=_
   unfold zaC
   rw [if_pos (by simpa using hi),zai hi,Option.bind_some,e,Option.bind_some,hw]
   cases hb:zfB t n l[i].fKey with
   |false=>rfl
   |true=>
    have hq:((o.length:Int)+(([l[i].fKey]:List Str).length:Int))*16≤140737488355328∧(o.length:Int)+(([l[i].fKey]:List Str).length:Int)≤140737488355328:=by
     rw [List.length_singleton];omega
    rw [if_pos rfl,zaq hq,if_pos rfl])
  (fun o _=>by
   show zaC t n l l.length o=_
   unfold zaC
   rw [if_neg (by simp)]) (s:= []) (by simp)
 rw [ziy (fun w:zag=>zfB t n w.fKey) (fun w=>w.fKey)]at h1
 exact h1.1
def zAr (a b:List Str):List Str:=a.filter fun k=> !b.contains k
theorem zwy {a b:List Str} (ha:a.length≤2000000) (hb:b.length≤2000000):zfg a b=some (zAr a b):=by
 have h1:=zd0 (xs:=a) (body:=fun s:List Str × Int=>zbY a b s.1 s.2) (fun i (o:List Str)=>(o,i)) (fun o k=>if(!b.contains k)=true then o++ [k]else o) (fun o=>some o) (fun i o=>o.length≤i)
  (fun i hi o hI=>by
   have hI:o.length≤i:=hI
   have hw:=zbT hi (by omega:a.length≤_)
   have hx:decide (zhg (fun x=>x==a[i]) b<0)= !b.contains a[i]:=by
    rw [←zwx,←zmh,←decide_not]
    rw [decide_eq_decide];omega
   refine⟨?_,by
    show List.length (if(!b.contains a[i])=true then o++ [a[i]]else o)≤i+1
    split
    ·rw [List.length_append,List.length_singleton];omega
    ·omega⟩
   show zbY a b o i=_
   unfold zbY
   rw [if_pos (by simpa using hi),zai hi,Option.bind_some,zAY hb,Option.bind_some,hw,hx]
   cases hc:b.contains a[i]with
   |true=>rfl
   |false=>
    have hq:((o.length:Int)+(([a[i]]:List Str).length:Int))*16≤140737488355328∧(o.length:Int)+(([a[i]]:List Str).length:Int)≤140737488355328:=by
     rw [List.length_singleton];omega
    rw [if_pos (by rfl),zaq hq,if_pos (by rfl)])
  (fun o _=>by
   show zbY a b o a.length=_
   unfold zbY
   rw [if_neg (by simp)]) (s:= []) (by simp)
 rw [ziy (fun k:Str=> !b.contains k) (fun k=>k)]at h1
 have h2:=h1.1
 rw [List.nil_append,List.map_id']at h2
 exact h2
theorem zwL {a b:List Str} (ha:a.length≤2000000) (hb:b.length≤2000000):zez a b=some (zAr a b):=by
 unfold zez za7 zh0
 rw [zr1 (by omega) (by omega),Option.bind_some,zaq (by omega),zrm (fun k=>b.contains k) (fun k _=>by simp only [zex,zy6 hb,Option.bind_some])]
 rfl
end Go.Proofs.YtecngjbpbnfegaaGreatDoor
end
section
namespace Go.Proofs.YtecngjbpbnfegaaGreatDoor
open Go.RowKit
set_option maxRecDepth 100000
structure zhI (t:zab) (n:Str) (x:zb8):Prop where
 at_:zbF t.fIdxs (zhg (fun y:zb8=>y.fName==n) t.fIdxs)=some x
 name:x.fName=n
 c0:1≤x.fCol
 c1:x.fCol≤(t.fCols.length:Int)-1
def zvi (r:zdN) (c:Int):Str:=(r.fVals[c.toNat]?).getD []
def zp2 (t:zab) (n:Str) (c:Int) (r:zdN):Str:=head t n++ [47]++zvi r c++ [47]++zvi r 0
structure zyM (t:zab) (r:zdN):Prop where
 len:r.fVals.length=t.fCols.length
 small:Small r.fVals
theorem zwk {t:zab} {l:List zag} (h: ∀w∈l,znh w): ∀r∈zjd t l,zyM t r:=by
 intro r hr
 obtain⟨w,hw,rfl⟩:=List.mem_map.1 hr
 obtain⟨h1,h2⟩:=List.mem_filter.1 hw
 have h3:zd9 t w=true:=h2
 unfold zd9 zhE at h3
 simp only [Bool.and_eq_true,beq_iff_eq]at h3
 exact⟨by have:=h3.1.1;omega,zlJ (h w h1)⟩
theorem zsk {t:zab} {r:zdN} (hr:zyM t r) {c:Int} (h0:0≤c) (h1:c≤(t.fCols.length:Int)-1):zbF r.fVals c=some (zvi r c)∧(zvi r c).length≤2000000:=by
 obtain⟨y,e,hm,e2⟩:=zxA (xs:=r.fVals) h0 (by have:=hr.len;omega)
 have hv:zvi r c=y:=by simp [zvi,e2]
 rw [hv]
 exact⟨e,hr.small.each y hm⟩
theorem zyA {t:zab} {n:Str} {x:zb8} {r:zdN} (ht:t.fName.length≤2000000) (hn:n.length≤2000000) (hx:zhI t n x) (hr:zyM t r):zeL t x r=some (zp2 t n x.fCol r):=by
 obtain⟨g1,l1⟩:=zsk hr (c:=x.fCol) (by have:=hx.c0;omega) hx.c1
 obtain⟨g2,l2⟩:=zsk hr (c:=0) (by omega) (by have:=hx.c0;have:=hx.c1;omega)
 have e:=hx.name
 subst e
 unfold zeL zp2
 rw [zaq (by simp only [head,List.length_append,List.length_cons,List.length_nil];omega),zaq (by simp only [head,List.length_append,List.length_cons,List.length_nil];omega),zaq (by simp only [head,List.length_append,List.length_cons,List.length_nil];omega),g1,Option.bind_some,
  zaq (by simp only [head,List.length_append,List.length_cons,List.length_nil];omega),zaq (by simp only [head,List.length_append,List.length_cons,List.length_nil];omega),g2,Option.bind_some,
  zaq (by simp only [head,List.length_append,List.length_cons,List.length_nil];omega)]
 rfl
theorem zx2 {t:zab} {n:Str} {x:zb8} {r:zdN} (hS:zcB t) (hn:n.length≤2000000) (hx:zhI t n x) (hr:zyM t r):zcw t n r=some (zp2 t n x.fCol r):=by
 obtain⟨g1,l1⟩:=zsk hr (c:=x.fCol) (by have:=hx.c0;omega) hx.c1
 obtain⟨g2,l2⟩:=zsk hr (c:=0) (by omega) (by have:=hx.c0;have:=hx.c1;omega)
 have ht:=hS.name
 have hi:zbl t n=some x:=by
  unfold zbl
  rw [ztP hS,Option.bind_some,hx.at_];rfl
 unfold zcw zp2
 rw [zwW ht hn,Option.bind_some,hi,Option.bind_some,g1,Option.bind_some,zaq (by simp only [head,List.length_append,List.length_cons,List.length_nil];omega),zaq (by simp only [head,List.length_append,List.length_cons,List.length_nil];omega),g2,Option.bind_some,zaq (by simp only [head,List.length_append,List.length_cons,List.length_nil];omega)]
def wanted (t:zab) (n:Str) (x:zb8) (l:List zag):List Str:=(zjd t l).map (zp2 t n x.fCol)
theorem zsS (t:zab) (l:List zag):(zjd t l).length≤l.length:=by
 unfold zjd
 rw [List.length_map]
 exact List.length_filter_le _ _
theorem zw0 {t:zab} {n:Str} {x:zb8} {l:List zag} (hS:zcB t) (hn:n.length≤2000000) (hx:zhI t n x) (hl:l.length≤2000000) (h: ∀w∈l,znh w):zdh t n l=some (wanted t n x l):=by
 have hin:=zwk (t:=t) h
 have hrl:=zsS t l
 unfold zdh
 rw [zyp hS.name hl h,Option.bind_some]
 have h1:=zd0 (xs:=zjd t l) (body:=fun s:List Str × Int=>zbr t n (zjd t l) s.1 s.2) (fun i (o:List Str)=>(o,i)) (fun o r=>o++ [zp2 t n x.fCol r]) (fun o=>some o) (fun i o=>o.length=i)
  (fun i hi o hI=>by
   have hI:o.length=i:=hI
   have hw:=zbT hi (by omega)
   refine⟨?_,by show List.length _=_;rw [List.length_append,List.length_singleton];omega⟩
   show zbr t n (zjd t l) o i=_
   unfold zbr
   have hq:((o.length:Int)+(([zp2 t n x.fCol (zjd t l)[i]]:List Str).length:Int))*16≤140737488355328∧(o.length:Int)+(([zp2 t n x.fCol (zjd t l)[i]]:List Str).length:Int)≤140737488355328:=by
    rw [List.length_singleton];omega
   rw [if_pos (by simpa using hi),zai hi,Option.bind_some,zpY hS,Option.bind_some,hx.at_,Option.bind_some,zyA hS.name hn hx (hin _ (List.getElem_mem hi)),Option.bind_some,zaq hq,hw])
  (fun o _=>by
   show zbr t n (zjd t l) o (zjd t l).length=_
   unfold zbr
   rw [if_neg (by simp)]) (s:= []) rfl
 rw [zmC]at h1
 exact h1.1
theorem zxE {t:zab} {n:Str} {x:zb8} {l:List zag} (hS:zcB t) (ht:t.fName.length=1) (hn:n.length≤2000000) (hx:zhI t n x) (hl:l.length≤2000000) (h: ∀w∈l,znh w):zbZ t n l=some (wanted t n x l):=by
 have hin:=zwk (t:=t) h
 have hrl:=zsS t l
 unfold zbZ
 rw [zyb ht hl h,Option.bind_some]
 have h1:=zd0 (xs:=zjd t l) (body:=fun s:Int × List Str=>zaS t n (zjd t l) s.1 s.2) (fun i (o:List Str)=>(i,o)) (fun o r=>o++ [zp2 t n x.fCol r]) (fun o=>some o) (fun i o=>o.length=i)
  (fun i hi o hI=>by
   have hI:o.length=i:=hI
   have hw:=zbT hi (by omega)
   refine⟨?_,by show List.length _=_;rw [List.length_append,List.length_singleton];omega⟩
   show zaS t n (zjd t l) i o=_
   unfold zaS
   have hq:((o.length:Int)+(([zp2 t n x.fCol (zjd t l)[i]]:List Str).length:Int))*16≤140737488355328∧(o.length:Int)+(([zp2 t n x.fCol (zjd t l)[i]]:List Str).length:Int)≤140737488355328:=by
    rw [List.length_singleton];omega
   rw [if_pos (by simpa using hi),zai hi,Option.bind_some,zx2 hS hn hx (hin _ (List.getElem_mem hi)),Option.bind_some,zaq hq,hw])
  (fun o _=>by
   show zaS t n (zjd t l) (zjd t l).length o=_
   unfold zaS
   rw [if_neg (by simp)]) (s:= []) rfl
 rw [zmC]at h1
 exact h1.1
end Go.Proofs.YtecngjbpbnfegaaGreatDoor
end
section
namespace Go.Proofs.YtecngjbpbnfegaaGreatDoor
open Go.RowKit
set_option maxRecDepth 100000
def holds (t:zab) (n:Str) (x:zb8) (lv:Int) (l:List zag):Bool:=
 if lv==0 then((zhf t n l).length:Int)==0
 else(((zAr (zhf t n l) (wanted t n x l)).length:Int)==0)&&((lv==1)||(((zAr (wanted t n x l) (zhf t n l)).length:Int)==0))
theorem zpk (t:zab) (n:Str) (l:List zag):(zhf t n l).length≤l.length:=by
 unfold zhf;rw [List.length_map];exact List.length_filter_le _ _
theorem zrv (t:zab) (n:Str) (x:zb8) (l:List zag):(wanted t n x l).length≤l.length:=by
 unfold wanted;rw [List.length_map];exact zsS t l
theorem zuJ {t:zab} {n:Str} {x:zb8} {lv:Int} {l:List zag} (hS:zcB t) (ht:t.fName.length≤2000000) (hn:n.length≤2000000) (hx:zhI t n x) (hl:l.length≤2000000) (h: ∀w∈l,znh w) (ha:zb9 t n l=some true):zd3 t n lv l=some (holds t n x lv l):=by
 have hE:=zvr ht hn hl h
 have hW:=zw0 hS hn hx hl h
 have e1:=zpk t n l
 have e2:=zrv t n x l
 have h1:=zwy (a:=zhf t n l) (b:=wanted t n x l) (by omega) (by omega)
 have h2:=zwy (a:=wanted t n x l) (b:=zhf t n l) (by omega) (by omega)
 unfold zd3 holds
 by_cases h0:(lv==0)=true
 ·rw [if_pos h0,if_pos h0,hE,Option.bind_some]
 ·rw [if_neg h0,if_neg h0]
  unfold zfu zgR
  rw [ha,hE,hW]
  simp only [Option.bind_some,h1,h2,Bool.not_true,Bool.false_eq_true,if_false]
theorem zuS {t:zab} {n:Str} {x:zb8} {lv:Int} {l:List zag} (hS:zcB t) (ht:t.fName.length=1) (hn:n.length≤2000000) (hh: ∀b∈head t n,b≠47) (hx:zhI t n x) (hl:l.length≤2000000) (h: ∀w∈l,znh w):zbE t n lv l=some (holds t n x lv l):=by
 have hE:=zvu (t:=t) (by omega) hn hh hl h
 have hW:=zxE hS ht hn hx hl h
 have e1:=zpk t n l
 have e2:=zrv t n x l
 have h1:=zwL (a:=zhf t n l) (b:=wanted t n x l) (by omega) (by omega)
 have h2:=zwL (a:=wanted t n x l) (b:=zhf t n l) (by omega) (by omega)
 unfold zbE holds
 by_cases h0:(lv==0)=true
 ·rw [if_pos h0,if_pos h0,hE,Option.bind_some]
 ·rw [if_neg h0,if_neg h0]
  unfold zbP zc9
  rw [hE,hW]
  simp only [Option.bind_some,h1,h2]
  by_cases h3:(lv==1)=true
  ·rw [if_pos h3,h3,Bool.true_or,Bool.and_true]
  ·rw [if_neg h3,Bool.eq_false_iff.2 h3,Bool.false_or]
   by_cases h4:(((zAr (zhf t n l) (wanted t n x l)).length:Int)==0)=true
   ·rw [if_pos h4,h4,Bool.true_and]
   ·rw [if_neg h4,Bool.eq_false_iff.2 h4,Bool.false_and]
end Go.Proofs.YtecngjbpbnfegaaGreatDoor
end
section
namespace Go.Proofs.YtecngjbpbnfegaaGreatDoor
open Go.RowKit
set_option maxRecDepth 100000
def zm3 (t:zab) (n:Str):Bool:=zbc t&&decide (zhg (fun x:zb8=>x.fName==n) t.fIdxs≥0)
def zt6 (t:zab) (n:Str) (l:List zag):Bool:=zm3 t n&&zhv l
theorem zw4 {t:zab} {n:Str} (hS:zcB t):ze4 t n=some (zm3 t n):=by
 unfold ze4 zm3
 rw [zyu hS,Option.bind_some,ztP hS,Option.bind_some]
 cases zbc t<;>simp
theorem zyC {t:zab} {n:Str} {l:List zag} (hS:zcB t) (hW:zlx l):zdT t n l=some (zt6 t n l):=by
 unfold zdT zt6
 rw [zw4 hS,Option.bind_some,zxD hW,Option.bind_some]
 cases zm3 t n<;>simp
theorem zsz {t:zab} {n:Str} {l:List zag} (hS:zcB t) (hW:zlx l):zb9 t n l=some (zt6 t n l):=by
 unfold zb9 zt6 zm3
 rw [zoO hS,Option.bind_some,zpY hS,Option.bind_some,zwp hW,Option.bind_some]
 cases zbc t<;>cases decide (zhg (fun x:zb8=>x.fName==n) t.fIdxs≥0)<;>simp
theorem zxw {l:List zag} (h:zhv l=true): ∀w∈l,znh w:=by
 intro w hw
 unfold zhv zgv at h
 simp only [Bool.and_eq_true]at h
 have h1:=List.all_eq_true.1 h.1.2.1 w hw
 unfold zq8 zeP zkW zlL at h1
 simp only [Bool.and_eq_true,decide_eq_true_eq]at h1
 have h2:=zee.1 h1.1.1
 have h3:=h1.2.1.1
 exact⟨by omega,by omega⟩
theorem zp4 {s:Str} {k:Int} (h:zc3 s k=true):(s.length:Int)≤k∧ ∀b∈s,b≠47:=by
 unfold zc3 at h
 simp only [Bool.and_eq_true]at h
 refine⟨(zee.1 h.2).2,fun b hb e=> ?_⟩
 have h1:=List.all_eq_true.1 h.1 b hb
 subst e
 exact absurd h1 (by decide)
theorem zqd {s:Str} (h:zc3 s 1=true):s.length=1:=by
 unfold zc3 at h
 simp only [Bool.and_eq_true]at h
 have:=zee.1 h.2
 omega
theorem zwB {t:zab} (h:zbc t=true):zc3 t.fName 1=true:=by
 unfold zbc at h
 simp only [Bool.and_eq_true]at h
 exact h.1.1.1
theorem zyJ {t:zab} (h:zbc t=true) {x:zb8} (hx:x∈t.fIdxs):zc3 x.fName 1=true∧inB x.fCol 1 ((t.fCols.length:Int)-1)=true:=by
 unfold zbc at h
 simp only [Bool.and_eq_true]at h
 obtain⟨i,hi,rfl⟩:=List.mem_iff_getElem.1 hx
 have h1:=List.all_eq_true.1 h.2 i (List.mem_range.2 hi)
 unfold zov at h1
 simp only [Bool.and_eq_true,List.getElem?_eq_getElem hi,Option.getD_some]at h1
 exact⟨h1.1.1.1,h1.1.1.2⟩
theorem zxf {t:zab} {n:Str} (h:zm3 t n=true): ∃x,zhI t n x∧t.fName.length=1∧n.length=1∧ ∀b∈head t n,b≠47:=by
 unfold zm3 at h
 simp only [Bool.and_eq_true,decide_eq_true_eq]at h
 obtain⟨x,h1,h2,h3⟩:=zx7 h.2
 have h4:=zyJ h.1 h3
 have h5:=zee.1 h4.2
 have h6:x.fName=n:=by simpa using h2
 have h7:=zwB h.1
 have h8:=h6▸h4.1
 refine⟨x,⟨h1,h6,h5.1,h5.2⟩,zqd h7,zqd h8,fun b hb=> ?_⟩
 unfold head at hb
 simp only [List.mem_append,List.mem_singleton]at hb
 rcases hb with(hb|hb)|hb
 ·exact(zp4 h7).2 b hb
 ·subst hb;decide
 ·exact(zp4 h8).2 b hb
theorem zti {t:zab} {n:Str} {lv:Int} {l:List zag} (hS:zcB t) (hW:zlx l): ∃r,zfr t n lv l=some r∧zfp t n lv l=some r:=by
 unfold zfr zfp
 rw [zsz hS hW,zyC hS hW,Option.bind_some,Option.bind_some]
 by_cases ha:zt6 t n l=true
 ·rw [if_pos ha,if_pos ha,zms,zhs,Option.bind_some,Option.bind_some]
  by_cases hb:(!inB lv 0 2)=true
  ·rw [if_pos hb,if_pos hb];exact⟨_,rfl,rfl⟩
  ·rw [if_neg hb,if_neg hb]
   have ha2:=ha
   unfold zt6 at ha2
   simp only [Bool.and_eq_true]at ha2
   obtain⟨x,hx,h1,h2,h3⟩:=zxf ha2.1
   have hT:=zxw ha2.2
   rw [zuJ hS (by omega) (by omega) hx hW.1 hT (by rw [zsz hS hW,ha]),zuS hS h1 (by omega) h3 hx hW.1 hT]
   exact⟨_,rfl,rfl⟩
 ·rw [if_neg ha,if_neg ha];exact⟨_,rfl,rfl⟩
end Go.Proofs.YtecngjbpbnfegaaGreatDoor
end
section
namespace Go.Proofs.YtecngjbpbnfegaaGreatDoor
open Go.RowKit
set_option maxRecDepth 100000
theorem zuz {xs:List Str} (h:xs.length≤2000000):zcI xs=some xs:=by
 unfold zcI
 rw [zaq (by omega)]
 exact znT (fun i hi v hv=>by
  show zaM xs i v=_
  unfold zaM
  rw [if_pos (by simpa using hi),zai hi,Option.bind_some,zai (by omega),Option.bind_some,zbT hi (by omega)];rfl) (fun v=>by
  show zaM xs _ v=_
  unfold zaM
  rw [if_neg (by simp)])
theorem zyD {xs:List zb8} (h:xs.length≤2000000):zd7 xs=some xs:=by
 unfold zd7
 rw [zaq (by omega)]
 exact znT (fun i hi v hv=>by
  show zbf xs i v=_
  unfold zbf zg4
  rw [if_pos (by simpa using hi),zai hi,Option.bind_some,Option.bind_some,zai (by omega),Option.bind_some,zbT hi (by omega)];rfl) (fun v=>by
  show zbf xs _ v=_
  unfold zbf
  rw [if_neg (by simp)])
theorem zvK {xs:List zag} (h:xs.length≤2000000):zbI xs=some xs:=by
 unfold zbI
 rw [zaq (by omega)]
 exact znT (fun i hi v hv=>by
  show zaW xs i v=_
  unfold zaW zfd
  rw [if_pos (by simpa using hi),zai hi,Option.bind_some,Option.bind_some,zai (by omega),Option.bind_some,zbT hi (by omega)];rfl) (fun v=>by
  show zaW xs _ v=_
  unfold zaW
  rw [if_neg (by simp)])
theorem zv7 {t:zab} (h:zcB t):zb3 t=some t:=by
 unfold zb3
 rw [zuz h.cols,Option.bind_some,zyD h.idxs,Option.bind_some]
theorem zuw {xs:List Str} (h:xs.length≤2000000):zcH xs xs=some true:=by
 unfold zcH
 rw [if_neg (by simp)]
 exact znX (n:=xs.length) (fun i hi=>by
  show zaP xs xs i=_
  unfold zaP
  rw [if_pos (by simpa using hi),zai hi,Option.bind_some,Option.bind_some,if_neg (by simp),zbT hi (by omega)]) (by
  show zaP xs xs _=_
  unfold zaP
  rw [if_neg (by simp)])
theorem zx4 {xs:List zb8} (h:xs.length≤2000000):zel xs xs=some true:=by
 unfold zel
 rw [if_neg (by simp)]
 exact znX (n:=xs.length) (fun i hi=>by
  show zbd xs xs i=_
  unfold zbd
  have e: ∀x:zb8,zeJ x x=some true:=fun x=>by simp [zeJ]
  rw [if_pos (by simpa using hi),zai hi,Option.bind_some,Option.bind_some,e,Option.bind_some,if_neg (by simp),zbT hi (by omega)]) (by
  show zbd xs xs _=_
  unfold zbd
  rw [if_neg (by simp)])
theorem zvR {xs:List zag} (h:xs.length≤2000000):zcu xs xs=some true:=by
 unfold zcu
 rw [if_neg (by simp)]
 exact znX (n:=xs.length) (fun i hi=>by
  show zaX xs xs i=_
  unfold zaX
  have e: ∀x:zag,zdB x x=some true:=fun x=>by simp [zdB]
  rw [if_pos (by simpa using hi),zai hi,Option.bind_some,Option.bind_some,e,Option.bind_some,if_neg (by simp),zbT hi (by omega)]) (by
  show zaX xs xs _=_
  unfold zaX
  rw [if_neg (by simp)])
theorem zv1 {t:zab} (h:zcB t):zcT t t=some true:=by
 unfold zcT
 rw [if_neg (by simp),zuw h.cols,Option.bind_some,if_neg (by simp),zx4 h.idxs,Option.bind_some,if_neg (by simp)]
theorem zt7 {t:zab} {n:Str} {lv:Int} {l:List zag} (h1: ∃v,zcs t 1048576=some v∧v≤1048576∧(0≤v→zcB t∧ ∃q,zb5 l v=some q∧(0≤q→zlx l))):zbV t n lv l=some true:=by
 unfold zbV
 by_cases h0:decide ((n.length:Int)>1048576)=true
 ·rw [if_pos h0]
 ·rw [if_neg h0]
  obtain⟨v,hv, -,hb⟩:=h1
  rw [hv,Option.bind_some]
  by_cases h2:decide (v<0)=true
  ·rw [if_pos h2]
  ·rw [if_neg h2]
   obtain⟨hS,q,hq,hc⟩:=hb (by simp only [decide_eq_true_eq]at h2;omega)
   rw [hq,Option.bind_some]
   by_cases h3:decide (q<0)=true
   ·rw [if_pos h3]
   ·rw [if_neg h3]
    have hW:=hc (by simp only [decide_eq_true_eq]at h3;omega)
    obtain⟨r,e1,e2⟩:=zti (n:=n) (lv:=lv) hS hW
    simp only [zv7 hS,zvK hW.1,Option.bind_some,e1,e2]
    rw [if_neg (by simp),zv1 hS,Option.bind_some,if_neg (by simp),zvR hW.1,Option.bind_some,if_neg (by simp)]
end Go.Proofs.YtecngjbpbnfegaaGreatDoor
end
section
namespace Go.Proofs.YtecngjbpbnfegaaGreatDoor
open Go.RowKit
set_option maxRecDepth 100000
theorem zum {xs:List Str} {a:Int} (h0:0≤a) (h1:a≤1048576) (hn:xs.length≤9223372036854775807) (hx: ∀x∈xs,x.length≤9223372036854775807): ∃v,zcG xs a=some v∧v≤a∧(0≤v→xs.length≤2000000∧ ∀x∈xs,x.length≤2000000):=by
 unfold zcG
 rw [zcR h0 h1 (by omega)]
 by_cases h2:a-(xs.length:Int)<0
 ·rw [if_pos (by simpa using h2)];exact⟨-1,rfl,by omega,by omega⟩
 ·rw [if_neg (by simpa using h2)]
  obtain⟨v,e1,e2,e3⟩:=zzQ (xs:=xs) (body:=fun s:Int × Int=>zay xs s.1 s.2) (fun x=>x.length≤2000000) (a:=a-xs.length) (by omega) (by omega) (fun i hi b hb0 hb1=>by
   refine⟨b-(xs[i].length:Int),by omega,fun h=>by show xs[i].length≤2000000;omega, ?_⟩
   show zay xs b i=_
   unfold zay
   rw [if_pos (by simpa using hi),zai hi,Option.bind_some,zcR hb0 hb1 (hx _ (List.getElem_mem hi)),zbT hi (by omega)]
   by_cases h3:b-(xs[i].length:Int)<0
   ·rw [if_pos (by simpa using h3),if_pos h3]
   ·rw [if_neg (by simpa using h3),if_neg h3]) (fun b=>by
   show zay xs b _=_
   unfold zay
   rw [if_neg (by simp)])
  exact⟨v,e1,by omega,fun hv=>⟨by omega,e3 hv⟩⟩
theorem zxO {xs:List zb8} {a:Int} (h0:0≤a) (h1:a≤1048576) (hn:xs.length≤9223372036854775807) (hx: ∀x∈xs,x.fName.length≤9223372036854775807): ∃v,zeb xs a=some v∧v≤a∧(0≤v→xs.length≤2000000∧ ∀x∈xs,x.fName.length≤2000000):=by
 unfold zeb
 rw [zcR h0 h1 (by omega)]
 by_cases h2:a-(xs.length:Int)<0
 ·rw [if_pos (by simpa using h2)];exact⟨-1,rfl,by omega,by omega⟩
 ·rw [if_neg (by simpa using h2)]
  obtain⟨v,e1,e2,e3⟩:=zzQ (xs:=xs) (body:=fun s:Int × Int=>zaF xs s.1 s.2) (fun x=>x.fName.length≤2000000) (a:=a-xs.length) (by omega) (by omega) (fun i hi b hb0 hb1=>by
   have hb2:=zcR hb0 hb1 (hx _ (List.getElem_mem hi))
   by_cases h3:b-(xs[i].fName.length:Int)<0
   ·refine⟨-1,by omega,by omega, ?_⟩
    show zaF xs b i=_
    unfold zaF zeR
    rw [if_pos (by simpa using hi),zai hi,Option.bind_some,hb2,if_pos (by simpa using h3),Option.bind_some,if_pos (by simp),if_pos (by omega)]
   ·refine⟨b-(xs[i].fName.length:Int),by omega,fun h=>by show xs[i].fName.length≤2000000;omega, ?_⟩
    show zaF xs b i=_
    unfold zaF zeR
    rw [if_pos (by simpa using hi),zai hi,Option.bind_some,hb2,if_neg (by simpa using h3),Option.bind_some,if_neg (by simpa using h3),if_neg h3,zbT hi (by omega)]) (fun b=>by
   show zaF xs b _=_
   unfold zaF
   rw [if_neg (by simp)])
  exact⟨v,e1,by omega,fun hv=>⟨by omega,e3 hv⟩⟩
theorem zxt {x:zag} {a:Int} (h0:0≤a) (h1:a≤1048576) (hk:x.fKey.length≤9223372036854775807) (hv:x.fVal.length≤9223372036854775807): ∃r,zdC x a=some r∧r≤a∧(0≤r→x.fKey.length≤2000000∧x.fVal.length≤2000000):=by
 unfold zdC
 rw [zcR h0 h1 hk]
 by_cases h2:a-(x.fKey.length:Int)<0
 ·rw [if_pos (by simpa using h2)];exact⟨-1,rfl,by omega,by omega⟩
 ·rw [if_neg (by simpa using h2),zcR (by omega) (by omega) hv]
  by_cases h3:a-(x.fKey.length:Int)-(x.fVal.length:Int)<0
  ·rw [if_pos (by simpa using h3)];exact⟨-1,rfl,by omega,by omega⟩
  ·rw [if_neg (by simpa using h3)];exact⟨_,rfl,by omega,fun _=>by omega⟩
theorem zvv {xs:List zag} {a:Int} (h0:0≤a) (h1:a≤1048576) (hn:xs.length≤9223372036854775807) (hx: ∀x∈xs,x.fKey.length≤9223372036854775807∧x.fVal.length≤9223372036854775807): ∃v,zb5 xs a=some v∧v≤a∧(0≤v→zlx xs):=by
 unfold zb5
 rw [zcR h0 h1 (by omega)]
 by_cases h2:a-(xs.length:Int)<0
 ·rw [if_pos (by simpa using h2)];exact⟨-1,rfl,by omega,by omega⟩
 ·rw [if_neg (by simpa using h2)]
  obtain⟨v,e1,e2,e3⟩:=zzQ (xs:=xs) (body:=fun s:Int × Int=>zaE xs s.1 s.2) (fun x=>x.fKey.length≤2000000∧x.fVal.length≤2000000) (a:=a-xs.length) (by omega) (by omega) (fun i hi b hb0 hb1=>by
   obtain⟨r,f1,f2,f3⟩:=zxt hb0 hb1 (hx _ (List.getElem_mem hi)).1 (hx _ (List.getElem_mem hi)).2
   refine⟨r,f2,f3, ?_⟩
   show zaE xs b i=_
   unfold zaE
   rw [if_pos (by simpa using hi),zai hi,Option.bind_some,f1,Option.bind_some,zbT hi (by omega)]
   by_cases h3:r<0
   ·rw [if_pos (by simpa using h3),if_pos h3]
   ·rw [if_neg (by simpa using h3),if_neg h3]) (fun b=>by
   show zaE xs b _=_
   unfold zaE
   rw [if_neg (by simp)])
  exact⟨v,e1,by omega,fun hv=>⟨by omega,e3 hv⟩⟩
structure zCb (t:zab):Prop where
 name:t.fName.length≤9223372036854775807
 cols:t.fCols.length≤9223372036854775807
 col: ∀c∈t.fCols,c.length≤9223372036854775807
 idxs:t.fIdxs.length≤9223372036854775807
 idx: ∀x∈t.fIdxs,x.fName.length≤9223372036854775807
theorem zxn {t:zab} {a:Int} (h0:0≤a) (h1:a≤1048576) (h:zCb t): ∃v,zcs t a=some v∧v≤a∧(0≤v→zcB t):=by
 unfold zcs
 rw [zcR h0 h1 h.name]
 by_cases h2:a-(t.fName.length:Int)<0
 ·rw [if_pos (by simpa using h2)];exact⟨-1,rfl,by omega,by omega⟩
 ·rw [if_neg (by simpa using h2)]
  obtain⟨v,e1,e2,e3⟩:=zum (xs:=t.fCols) (a:=a-t.fName.length) (by omega) (by omega) h.cols h.col
  rw [e1,Option.bind_some]
  by_cases h3:v<0
  ·rw [if_pos (by simpa using h3)];exact⟨-1,rfl,by omega,by omega⟩
  ·rw [if_neg (by simpa using h3)]
   obtain⟨u,f1,f2,f3⟩:=zxO (xs:=t.fIdxs) (a:=v) (by omega) (by omega) h.idxs h.idx
   rw [f1,Option.bind_some]
   by_cases h4:u<0
   ·rw [if_pos (by simpa using h4)];exact⟨-1,rfl,by omega,by omega⟩
   ·rw [if_neg (by simpa using h4)]
    have g1:=e3 (by omega)
    have g2:=f3 (by omega)
    exact⟨u,rfl,by omega,fun _=>⟨by omega,g1.1,g1.2,g2.1,g2.2⟩⟩
theorem zmv {t:zab} {n:Str} {lv:Int} {l:List zag} (ht:zCb t) (hl:l.length≤9223372036854775807) (hx: ∀x∈l,x.fKey.length≤9223372036854775807∧x.fVal.length≤9223372036854775807):zbV t n lv l=some true:=by
 obtain⟨v,e1,e2,e3⟩:=zxn (t:=t) (a:=1048576) (by omega) (by omega) ht
 refine zt7 ⟨v,e1,e2,fun hv=>⟨e3 hv, ?_⟩⟩
 obtain⟨q,f1, -,f3⟩:=zvv (xs:=l) (a:=v) hv (by omega) hl hx
 exact⟨q,f1,f3⟩
end Go.Proofs.YtecngjbpbnfegaaGreatDoor
end
