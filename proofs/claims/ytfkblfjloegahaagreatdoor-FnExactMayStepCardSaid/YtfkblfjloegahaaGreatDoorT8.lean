/- Parts of a proof, joined: QM, NA, NE, NX. -/
import Derived.Test.YtfkblfjloegahaaGreatDoorT7
section
namespace Go.Proofs.YtfkblfjloegahaaGreatDoor
open Go.RowKit
set_option maxRecDepth 100000
noncomputable def zaI (a0:List (List UInt8)) (v1:Int) (v2:Int):Option ((Int × Int) ⊕ Option (Int)):=
 if(decide (v2<(a0.length:Int)))then
  (zaA a0 v2).bind fun y3=>
  if(decide ((IntKind.i64.wrap (v1-(y3.length:Int)))<0))then
   some (.inr (some (-1)))
  else
   some (.inl ((IntKind.i64.wrap (v1-(y3.length:Int))),(IntKind.i64.wrap (v2+1))))
 else
  some (.inr (some v1))
noncomputable def zc1 (a0:List (List UInt8)) (a1:Int):Option (Int):=
 if(decide ((IntKind.i64.wrap (a1-(a0.length:Int)))<0))then
  some (-1)
 else
  zak (fun s:Int × Int=>zaI a0 s.1 s.2) ((IntKind.i64.wrap (a1-(a0.length:Int))),0)
noncomputable def zgv (a0:zbK) (a1:Int):Option (Int):=
 if(decide ((IntKind.i64.wrap (a1-(a0.fName.length:Int)))<0))then
  some (-1)
 else
  some (IntKind.i64.wrap (a1-(a0.fName.length:Int)))
noncomputable def zaO (a0:List zbK) (v1:Int) (v2:Int):Option ((Int × Int) ⊕ Option (Int)):=
 if(decide (v2<(a0.length:Int)))then
  (zaA a0 v2).bind fun y3=>
  (zgv y3 v1).bind fun v4=>
  if(decide (v4<0))then
   some (.inr (some (-1)))
  else
   some (.inl (v4,(IntKind.i64.wrap (v2+1))))
 else
  some (.inr (some v1))
noncomputable def zfF (a0:List zbK) (a1:Int):Option (Int):=
 if(decide ((IntKind.i64.wrap (a1-(a0.length:Int)))<0))then
  some (-1)
 else
  zak (fun s:Int × Int=>zaO a0 s.1 s.2) ((IntKind.i64.wrap (a1-(a0.length:Int))),0)
noncomputable def zfb (a0:zab) (a1:Int):Option (Int):=
 if(decide ((IntKind.i64.wrap (a1-(a0.fName.length:Int)))<0))then
  some (-1)
 else
  (zc1 a0.fCols (IntKind.i64.wrap (a1-(a0.fName.length:Int)))).bind fun v1=>
  if(decide (v1<0))then
   some (-1)
  else
   (zfF a0.fIdxs v1).bind fun v2=>
   if(decide (v2<0))then
    some (-1)
   else
    some v2
noncomputable def zcZ (a0:List zab) (v1:Int) (v2:Int):Option ((Int × Int) ⊕ Option (Int)):=
 if(decide (v2<(a0.length:Int)))then
  (zaA a0 v2).bind fun y3=>
  (zfb y3 v1).bind fun v4=>
  if(decide (v4<0))then
   some (.inr (some (-1)))
  else
   some (.inl (v4,(IntKind.i64.wrap (v2+1))))
 else
  some (.inr (some v1))
noncomputable def zgE (a0:List zab) (a1:Int):Option (Int):=
 if(decide ((IntKind.i64.wrap (a1-(a0.length:Int)))<0))then
  some (-1)
 else
  zak (fun s:Int × Int=>zcZ a0 s.1 s.2) ((IntKind.i64.wrap (a1-(a0.length:Int))),0)
noncomputable def zi4 (a0:List Int) (a1:Int):Option (Int):=
 if(decide ((IntKind.i64.wrap (a1-(a0.length:Int)))<0))then
  some (-1)
 else
  some (IntKind.i64.wrap (a1-(a0.length:Int)))
noncomputable def ze3 (a0:zaa) (a1:Int):Option (Int):=
 if(decide ((IntKind.i64.wrap (a1-(a0.fKey.length:Int)))<0))then
  some (-1)
 else
  if(decide ((IntKind.i64.wrap ((IntKind.i64.wrap (a1-(a0.fKey.length:Int)))-(a0.fVal.length:Int)))<0))then
   some (-1)
  else
   some (IntKind.i64.wrap ((IntKind.i64.wrap (a1-(a0.fKey.length:Int)))-(a0.fVal.length:Int)))
noncomputable def zaT (a0:List zaa) (v1:Int) (v2:Int):Option ((Int × Int) ⊕ Option (Int)):=
 if(decide (v2<(a0.length:Int)))then
  (zaA a0 v2).bind fun y3=>
  (ze3 y3 v1).bind fun v4=>
  if(decide (v4<0))then
   some (.inr (some (-1)))
  else
   some (.inl (v4,(IntKind.i64.wrap (v2+1))))
 else
  some (.inr (some v1))
noncomputable def zeg (a0:List zaa) (a1:Int):Option (Int):=
 if(decide ((IntKind.i64.wrap (a1-(a0.length:Int)))<0))then
  some (-1)
 else
  zak (fun s:Int × Int=>zaT a0 s.1 s.2) ((IntKind.i64.wrap (a1-(a0.length:Int))),0)
noncomputable def ze9 (a0:zaf) (a1:Int):Option (Int):=
 if(decide ((IntKind.i64.wrap (a1-(a0.fName.length:Int)))<0))then
  some (-1)
 else
  (zgE a0.fWays (IntKind.i64.wrap (a1-(a0.fName.length:Int)))).bind fun v1=>
  if(decide (v1<0))then
   some (-1)
  else
   (zi4 a0.fAt v1).bind fun v2=>
   if(decide (v2<0))then
    some (-1)
   else
    (zeg a0.fStore v2).bind fun v3=>
    if(decide (v3<0))then
     some (-1)
    else
     some v3
noncomputable def ziu (a0:zdC) (a1:Int):Option (Int):=
 (zc1 a0.fVals a1).bind fun v1=>
 if(decide (v1<0))then
  some (-1)
 else
  some v1
noncomputable def zgL (a0:zat) (a1:Int):Option (Int):=
 (ziu a0.fOld a1).bind fun v1=>
 if(decide (v1<0))then
  some (-1)
 else
  (ziu a0.fNew v1).bind fun v2=>
  if(decide (v2<0))then
   some (-1)
  else
   some v2
noncomputable def zds (a0:zad) (a1:Int):Option (Int):=
 (zgL a0.fAct a1).bind fun v1=>
 if(decide (v1<0))then
  some (-1)
 else
  some v1
noncomputable def za9 (a0:List (List UInt8)) (v1:Int) (v2:List (List UInt8)):Option ((Int × List (List UInt8)) ⊕ Option (List (List UInt8))):=
 if(decide (v1<(a0.length:Int)))then
  (zaA a0 v1).bind fun y3=>
  (zaA v2 v1).bind fun y4=>
  some (.inl ((IntKind.i64.wrap (v1+1)),(v2.set (v1).toNat y3)))
 else
  some (.inr (some v2))
noncomputable def zc5 (a0:List (List UInt8)):Option (List (List UInt8)):=
 req (0≤(a0.length:Int)∧(a0.length:Int)*16≤140737488355328∧(a0.length:Int)≤140737488355328)<|
 zak (fun s:Int × List (List UInt8)=>za9 a0 s.1 s.2) (0,(List.replicate ((a0.length:Int)).toNat ([]:List UInt8)))
noncomputable def zjM (a0:zbK):Option (zbK):=
 some a0
noncomputable def zbR (a0:List zbK) (v1:Int) (v2:List zbK):Option ((Int × List zbK) ⊕ Option (List zbK)):=
 if(decide (v1<(a0.length:Int)))then
  (zaA a0 v1).bind fun y3=>
  (zjM y3).bind fun v4=>
  (zaA v2 v1).bind fun y5=>
  some (.inl ((IntKind.i64.wrap (v1+1)),(v2.set (v1).toNat v4)))
 else
  some (.inr (some v2))
noncomputable def zfG (a0:List zbK):Option (List zbK):=
 req (0≤(a0.length:Int)∧(a0.length:Int)*32≤140737488355328∧(a0.length:Int)≤140737488355328)<|
 zak (fun s:Int × List zbK=>zbR a0 s.1 s.2) (0,(List.replicate ((a0.length:Int)).toNat (⟨([]:List UInt8),0,0⟩:zbK)))
noncomputable def ze0 (a0:zab):Option (zab):=
 (zc5 a0.fCols).bind fun v1=>
 (zfG a0.fIdxs).bind fun v2=>
 some (⟨a0.fName,v1,v2⟩:zab)
noncomputable def zd0 (a0:List zab) (v1:Int) (v2:List zab):Option ((Int × List zab) ⊕ Option (List zab)):=
 if(decide (v1<(a0.length:Int)))then
  (zaA a0 v1).bind fun y3=>
  (ze0 y3).bind fun v4=>
  (zaA v2 v1).bind fun y5=>
  some (.inl ((IntKind.i64.wrap (v1+1)),(v2.set (v1).toNat v4)))
 else
  some (.inr (some v2))
noncomputable def zgU (a0:List zab):Option (List zab):=
 req (0≤(a0.length:Int)∧(a0.length:Int)*64≤140737488355328∧(a0.length:Int)≤140737488355328)<|
 zak (fun s:Int × List zab=>zd0 a0 s.1 s.2) (0,(List.replicate ((a0.length:Int)).toNat (⟨([]:List UInt8), [], []⟩:zab)))
noncomputable def zeT (a0:List Int) (v1:Int) (v2:List Int):Option ((Int × List Int) ⊕ Option (List Int)):=
 if(decide (v1<(a0.length:Int)))then
  (zaA a0 v1).bind fun y3=>
  (zaA v2 v1).bind fun y4=>
  some (.inl ((IntKind.i64.wrap (v1+1)),(v2.set (v1).toNat y3)))
 else
  some (.inr (some v2))
noncomputable def zi8 (a0:List Int):Option (List Int):=
 req (0≤(a0.length:Int)∧(a0.length:Int)*8≤140737488355328∧(a0.length:Int)≤140737488355328)<|
 zak (fun s:Int × List Int=>zeT a0 s.1 s.2) (0,(List.replicate ((a0.length:Int)).toNat 0))
noncomputable def zh6 (a0:zaa):Option (zaa):=
 some a0
noncomputable def zbf (a0:List zaa) (v1:Int) (v2:List zaa):Option ((Int × List zaa) ⊕ Option (List zaa)):=
 if(decide (v1<(a0.length:Int)))then
  (zaA a0 v1).bind fun y3=>
  (zh6 y3).bind fun v4=>
  (zaA v2 v1).bind fun y5=>
  some (.inl ((IntKind.i64.wrap (v1+1)),(v2.set (v1).toNat v4)))
 else
  some (.inr (some v2))
noncomputable def zei (a0:List zaa):Option (List zaa):=
 req (0≤(a0.length:Int)∧(a0.length:Int)*40≤140737488355328∧(a0.length:Int)≤140737488355328)<|
 zak (fun s:Int × List zaa=>zbf a0 s.1 s.2) (0,(List.replicate ((a0.length:Int)).toNat (⟨([]:List UInt8),([]:List UInt8),false⟩:zaa)))
noncomputable def za4 (a0:zaf):Option (zaf):=
 (zgU a0.fWays).bind fun v1=>
 (zi8 a0.fAt).bind fun v2=>
 (zei a0.fStore).bind fun v3=>
 some (⟨a0.fName,v1,v2,v3⟩:zaf)
noncomputable def ziq (a0:zdC):Option (zdC):=
 (zc5 a0.fVals).bind fun v1=>
 some (⟨v1⟩:zdC)
noncomputable def zgB (a0:zat):Option (zat):=
 (ziq a0.fOld).bind fun v1=>
 (ziq a0.fNew).bind fun v2=>
 some (⟨a0.fKind,v1,v2⟩:zat)
noncomputable def za2 (a0:zad):Option (zad):=
 (zgB a0.fAct).bind fun v1=>
 some (⟨a0.fServer,a0.fStep,v1⟩:zad)
noncomputable def zbE (a0:Int) (a1:Int) (a2:Int):Option (Bool):=
 some ((decide (a0≥a1))&&(decide (a0≤a2)))
noncomputable def zfP (a0:List UInt8) (a1:Int):Option (Bool):=
 some ((decide ((a0.length:Int)≥1))&&(decide ((a0.length:Int)≤a1)))
noncomputable def zfN (a0:List UInt8) (a1:Int) (v1:Int):Option ((Int) ⊕ Option (Bool)):=
 if(decide (v1<(a0.length:Int)))then
  (zaA a0 v1).bind fun y2=>
  if((decide ((y2.toNat:Int)<97))||(decide ((y2.toNat:Int)>122)))then
   some (.inr (some false))
  else
   some (.inl (IntKind.i64.wrap (v1+1)))
 else
  some (.inr (zfP a0 a1))
noncomputable def zdn (a0:List UInt8) (a1:Int):Option (Bool):=
 zak (fun s:Int=>zfN a0 a1 s) 0
noncomputable def zjv (a0:List (List UInt8)) (a1:List UInt8) (v1:Int):Option ((Int) ⊕ Option (Int)):=
 if(decide (v1<(a0.length:Int)))then
  (zaA a0 v1).bind fun y2=>
  if(y2==a1)then
   some (.inr (some v1))
  else
   some (.inl (IntKind.i64.wrap (v1+1)))
 else
  some (.inr (some (-1)))
noncomputable def zib (a0:List (List UInt8)) (a1:List UInt8):Option (Int):=
 zak (fun s:Int=>zjv a0 a1 s) 0
noncomputable def zhA (a0:List (List UInt8)):Option (Bool):=
 (zbE (a0.length:Int) 2 4).bind fun v1=>
 some v1
noncomputable def zhD (a0:List (List UInt8)) (v2:Int):Option ((Int) ⊕ Option (Bool)):=
 if(decide (v2<(a0.length:Int)))then
  (zaA a0 v2).bind fun y3=>
  (zdn y3 3).bind fun v4=>
  if v4 then
   req (0≤(0:Int)∧(0:Int)≤v2∧v2≤(a0.length:Int))<|
   (zib (zfV a0 0 v2) y3).bind fun v5=>
   if(decide (v5≥0))then
    some (.inr (some false))
   else
    some (.inl (IntKind.i64.wrap (v2+1)))
  else
   some (.inr (some false))
 else
  some (.inr (zhA a0))
noncomputable def zh3 (a0:List (List UInt8)):Option (Bool):=
 zak (fun s:Int=>zhD a0 s) 0
noncomputable def zeE (a0:zab) (v3:Int):Option ((Int) ⊕ Option (Bool)):=
 if(decide (v3<(a0.fIdxs.length:Int)))then
  (zaA a0.fIdxs v3).bind fun y4=>
  (zdn y4.fName 1).bind fun v5=>
  if v5 then
   (zbE y4.fCol 1 (IntKind.i64.wrap ((a0.fCols.length:Int)-1))).bind fun v6=>
   if v6 then
    (zbE y4.fStage 0 3).bind fun v7=>
    if(decide (v3>0))then
     if v7 then
      (zaA a0.fIdxs (IntKind.i64.wrap (v3-1))).bind fun y8=>
      if(!Op.bytesLess y8.fName y4.fName)then
       some (.inr (some false))
      else
       some (.inl (IntKind.i64.wrap (v3+1)))
     else
      some (.inr (some false))
    else
     if((!v7)||false)then
      some (.inr (some false))
     else
      some (.inl (IntKind.i64.wrap (v3+1)))
   else
    some (.inr (some false))
  else
   some (.inr (some false))
 else
  some (.inr (some true))
noncomputable def zcl (a0:zab):Option (Bool):=
 (zdn a0.fName 1).bind fun v1=>
 if v1 then
  (zh3 a0.fCols).bind fun v2=>
  if((!v2)||(decide ((a0.fIdxs.length:Int)>3)))then
   some false
  else
   zak (fun s:Int=>zeE a0 s) 0
 else
  some false
noncomputable def ziB (a0:zab) (a1:List UInt8) (v1:Int):Option ((Int) ⊕ Option (Int)):=
 if(decide (v1<(a0.fIdxs.length:Int)))then
  (zaA a0.fIdxs v1).bind fun y2=>
  if(y2.fName==a1)then
   some (.inr (some v1))
  else
   some (.inl (IntKind.i64.wrap (v1+1)))
 else
  some (.inr (some (-1)))
noncomputable def zbx (a0:zab) (a1:List UInt8):Option (Int):=
 zak (fun s:Int=>ziB a0 a1 s) 0
noncomputable def zfK (a0:zab):Option (zab):=
 req (((([]:List (List UInt8)).length:Int)+((a0.fCols).length:Int))*16≤140737488355328∧(([]:List (List UInt8)).length:Int)+((a0.fCols).length:Int)≤140737488355328)<|
 req (((([]:List zbK).length:Int)+((a0.fIdxs).length:Int))*32≤140737488355328∧(([]:List zbK).length:Int)+((a0.fIdxs).length:Int)≤140737488355328)<|
 some a0
noncomputable def zgV (a0:zab) (a1:List UInt8) (a2:Int):Option (zab):=
 (zfK a0).bind fun v1=>
 (zbx a0 a1).bind fun v2=>
 (zaA v1.fIdxs v2).bind fun y3=>
 some (⟨v1.fName,v1.fCols,(v1.fIdxs.set (v2).toNat {y3 with fStage:=a2})⟩:zab)
noncomputable def zeW (a0:zab) (a1:List UInt8) (a2:Int) (v4:Int) (v5:List zab):Option ((Int × List zab) ⊕ Option (List zab)):=
 if(v4 !=a2)then
  if(decide (v4<a2))then
   (zgV a0 a1 (IntKind.i64.wrap (v4+1))).bind fun v6=>
   req ((((v5).length:Int)+(([v6]:List zab).length:Int))*64≤140737488355328∧((v5).length:Int)+(([v6]:List zab).length:Int)≤140737488355328)<|
   some (.inl ((IntKind.i64.wrap (v4+1)),(v5++ [v6])))
  else
   (zgV a0 a1 (IntKind.i64.wrap (v4-1))).bind fun v7=>
   req ((((v5).length:Int)+(([v7]:List zab).length:Int))*64≤140737488355328∧((v5).length:Int)+(([v7]:List zab).length:Int)≤140737488355328)<|
   some (.inl ((IntKind.i64.wrap (v4-1)),(v5++ [v7])))
 else
  some (.inr (some v5))
noncomputable def zje (a0:zab) (a1:List UInt8) (a2:Int):Option (List zab):=
 (zfK a0).bind fun v1=>
 (zbx a0 a1).bind fun v2=>
 (zaA a0.fIdxs v2).bind fun y3=>
 zak (fun s:Int × List zab=>zeW a0 a1 a2 s.1 s.2) (y3.fStage, [v1])
noncomputable def zcC (a0:zab) (a1:zab) (v1:Int):Option ((Int) ⊕ Option (Bool)):=
 if(decide (v1<(a0.fIdxs.length:Int)))then
  (zaA a0.fIdxs v1).bind fun y2=>
  (zaA a1.fIdxs v1).bind fun y3=>
  if((y2.fName !=y3.fName)||(y2.fCol !=y3.fCol))then
   some (.inr (some false))
  else
   some (.inl (IntKind.i64.wrap (v1+1)))
 else
  some (.inr (some true))
noncomputable def zdU (a0:zab) (a1:zab):Option (Bool):=
 zak (fun s:Int=>zcC a0 a1 s) 0
noncomputable def zcK (a0:zab) (a1:zab) (v4:Int):Option ((Int) ⊕ Option (Bool)):=
 if(decide (v4<(a0.fCols.length:Int)))then
  (zaA a0.fCols v4).bind fun y5=>
  (zaA a1.fCols v4).bind fun y6=>
  if(y5 !=y6)then
   some (.inr (some false))
  else
   some (.inl (IntKind.i64.wrap (v4+1)))
 else
  some (.inr (zdU a0 a1))
noncomputable def zfm (a0:zab) (a1:zab):Option (Bool):=
 if(((a0.fName !=a1.fName)||((a0.fCols.length:Int) !=(a1.fCols.length:Int)))||((a0.fIdxs.length:Int) !=(a1.fIdxs.length:Int)))then
  some false
 else
  zak (fun s:Int=>zcK a0 a1 s) 0
noncomputable def zi2 (a0:Int) (a1:Int):Option (Int):=
 if(decide (a0>a1))then
  some a0
 else
  some a1
noncomputable def zdR (a0:zab) (a1:zab) (v1:Int) (v2:Int):Option ((Int × Int) ⊕ Option (Int)):=
 if(decide (v2<(a0.fIdxs.length:Int)))then
  (zaA a0.fIdxs v2).bind fun y3=>
  (zaA a1.fIdxs v2).bind fun y4=>
  (zi2 (IntKind.i64.wrap (y3.fStage-y4.fStage)) (IntKind.i64.wrap (0-(IntKind.i64.wrap (y3.fStage-y4.fStage))))).bind fun v5=>
  some (.inl ((IntKind.i64.wrap (v1+v5)),(IntKind.i64.wrap (v2+1))))
 else
  some (.inr (some v1))
noncomputable def ziX (a0:zab) (a1:zab):Option (Int):=
 zak (fun s:Int × Int=>zdR a0 a1 s.1 s.2) (0,0)
noncomputable def zeq (a0:zaf) (v10:List zab) (v11:Int):Option ((Int) ⊕ Option (Bool)):=
 if(decide (v11<(v10.length:Int)))then
  (zaA a0.fWays v11).bind fun y12=>
  (zcl y12).bind fun v13=>
  if v13 then
   (zaA v10 v11).bind fun y14=>
   (zfm y14 y12).bind fun v15=>
   if v15 then
    (ziX y14 y12).bind fun v16=>
    if(v16 !=0)then
     some (.inr (some false))
    else
     some (.inl (IntKind.i64.wrap (v11+1)))
   else
    some (.inr (some false))
  else
   some (.inr (some false))
 else
  some (.inr (some true))
noncomputable def zfa (a0:zaf):Option (Bool):=
 (zbE (a0.fWays.length:Int) 1 4).bind fun v1=>
 if v1 then
  (zaA a0.fWays 0).bind fun y2=>
  (zcl y2).bind fun v3=>
  if v3 then
   (zbx y2 a0.fName).bind fun v4=>
   if(decide (v4<0))then
    some false
   else
    (zaA a0.fWays (IntKind.i64.wrap ((a0.fWays.length:Int)-1))).bind fun y5=>
    (zcl y5).bind fun v6=>
    if v6 then
     (zbx y5 a0.fName).bind fun v7=>
     if(decide (v7<0))then
      some false
     else
      (zbx y5 a0.fName).bind fun v8=>
      (zaA y5.fIdxs v8).bind fun y9=>
      (zje y2 a0.fName y9.fStage).bind fun v10=>
      if((v10.length:Int) !=(a0.fWays.length:Int))then
       some false
      else
       zak (fun s:Int=>zeq a0 v10 s) 0
    else
     some false
  else
   some false
 else
  some false
noncomputable def zec (a0:List Int) (a1:Int) (a2:Int) (v1:Int):Option ((Int) ⊕ Option (Bool)):=
 if(decide (v1<(a0.length:Int)))then
  (zaA a0 v1).bind fun y2=>
  (zbE y2 a1 a2).bind fun v3=>
  if(!v3)then
   some (.inr (some false))
  else
   some (.inl (IntKind.i64.wrap (v1+1)))
 else
  some (.inr (some true))
noncomputable def zjT (a0:List Int) (a1:Int) (a2:Int):Option (Bool):=
 zak (fun s:Int=>zec a0 a1 a2 s) 0
noncomputable def zhL (v1:Int) (v3:Bool):Option ((Int) ⊕ Option (Bool)):=
 if(!v3)then
  some (.inr (some false))
 else
  some (.inl (IntKind.i64.wrap (v1+1)))
noncomputable def zel (a1:List UInt8) (v1:Int) (y2:UInt8) (v4:Bool) (v5:Int):Option ((Bool × Int) ⊕ Option ((Int) ⊕ Option (Bool))):=
 if(decide (v5<(a1.length:Int)))then
  if v4 then
   some (.inl (true,(IntKind.i64.wrap (v5+1))))
  else
   (zaA a1 v5).bind fun y6=>
   some (.inl (((y2.toNat:Int)==(y6.toNat:Int)),(IntKind.i64.wrap (v5+1))))
 else
  some (.inr (zhL v1 v4))
noncomputable def zhr (a0:List UInt8) (a1:List UInt8) (v1:Int):Option ((Int) ⊕ Option (Bool)):=
 if(decide (v1<(a0.length:Int)))then
  (zaA a0 v1).bind fun y2=>
  zak (fun s:Bool × Int=>zel a1 v1 y2 s.1 s.2) ((((decide ((y2.toNat:Int)≥97))&&(decide ((y2.toNat:Int)≤122)))||((decide ((y2.toNat:Int)≥48))&&(decide ((y2.toNat:Int)≤57)))),0)
 else
  some (.inr (some true))
noncomputable def ze8 (a0:List UInt8) (a1:List UInt8):Option (Bool):=
 zak (fun s:Int=>zhr a0 a1 s) 0
noncomputable def zim (a0:List UInt8):Option (Bool):=
 (zbE (a0.length:Int) 1 12).bind fun v1=>
 if v1 then
  (ze8 a0 ([46,47]:List UInt8)).bind fun v2=>
  some v2
 else
  some false
noncomputable def zif (a0:List UInt8):Option (Bool):=
 if(decide ((a0.length:Int)≤24))then
  (ze8 a0 ([46,45,44,95]:List UInt8)).bind fun v1=>
  some v1
 else
  some false
noncomputable def zhR (a0:List UInt8) (a1:List UInt8) (a2:Bool):Option (Bool):=
 (zim a0).bind fun v1=>
 if v1 then
  (zif a1).bind fun v2=>
  some (v2&&((!a2)||(a1==([]:List UInt8))))
 else
  some false
noncomputable def zgz (a0:List zaa):Option (Bool):=
 some (decide ((a0.length:Int)≤24))
noncomputable def zhc (a0:List zaa) (v1:Int):Option ((Int) ⊕ Option (Bool)):=
 if(decide (v1<(a0.length:Int)))then
  (zaA a0 v1).bind fun y2=>
  (zhR y2.fKey y2.fVal y2.fGone).bind fun v3=>
  if(decide (v1>0))then
   if v3 then
    (zaA a0 (IntKind.i64.wrap (v1-1))).bind fun y4=>
    if(!Op.bytesLess y4.fKey y2.fKey)then
     some (.inr (some false))
    else
     some (.inl (IntKind.i64.wrap (v1+1)))
   else
    some (.inr (some false))
  else
   if((!v3)||false)then
    some (.inr (some false))
   else
    some (.inl (IntKind.i64.wrap (v1+1)))
 else
  some (.inr (zgz a0))
noncomputable def zgH (a0:List zaa):Option (Bool):=
 zak (fun s:Int=>zhc a0 s) 0
noncomputable def ziG (a0:List zaa):Option (Bool):=
 (zgH a0).bind fun v1=>
 some v1
noncomputable def ziF (a0:List zaa) (v2:Int):Option ((Int) ⊕ Option (Bool)):=
 if(decide (v2<(a0.length:Int)))then
  (zaA a0 v2).bind fun y3=>
  if y3.fGone then
   some (.inr (some false))
  else
   some (.inl (IntKind.i64.wrap (v2+1)))
 else
  some (.inr (ziG a0))
noncomputable def zdc (a0:List zaa):Option (Bool):=
 zak (fun s:Int=>ziF a0 s) 0
noncomputable def zeY (a0:zaf):Option (Bool):=
 (zfa a0).bind fun v1=>
 if v1 then
  (zbE (a0.fAt.length:Int) 1 3).bind fun v2=>
  if v2 then
   (zjT a0.fAt 0 (IntKind.i64.wrap ((a0.fWays.length:Int)-1))).bind fun v3=>
   if v3 then
    (zdc a0.fStore).bind fun v4=>
    some v4
   else
    some false
  else
   some false
 else
  some false
noncomputable def zma (a0:zat):Option (Bool):=
 some (((a0.fKind==0)&&((a0.fOld.fVals.length:Int)==0))&&((a0.fNew.fVals.length:Int)==0))
noncomputable def zeo (a0:List UInt8):Option (Bool):=
 (zbE (a0.length:Int) 1 3).bind fun v1=>
 if v1 then
  (ze8 a0 ([]:List UInt8)).bind fun v2=>
  some v2
 else
  some false
noncomputable def zhu (a0:zab) (a1:zdC):Option (Bool):=
 some ((a1.fVals.length:Int)==(a0.fCols.length:Int))
noncomputable def zht (a0:zab) (a1:zdC) (v1:Int):Option ((Int) ⊕ Option (Bool)):=
 if(decide (v1<(a1.fVals.length:Int)))then
  (zaA a1.fVals v1).bind fun y2=>
  (zeo y2).bind fun v3=>
  if(!v3)then
   some (.inr (some false))
  else
   some (.inl (IntKind.i64.wrap (v1+1)))
 else
  some (.inr (zhu a0 a1))
noncomputable def zdj (a0:zab) (a1:zdC):Option (Bool):=
 zak (fun s:Int=>zht a0 a1 s) 0
noncomputable def zfZ (a0:zab) (a1:zat):Option (Bool):=
 if(a1.fKind==1)then
  if((a1.fOld.fVals.length:Int)==0)then
   (zdj a0 a1.fNew).bind fun v1=>
   some v1
  else
   some false
 else
  if(a1.fKind==2)then
   if((a1.fNew.fVals.length:Int)==0)then
    (zdj a0 a1.fOld).bind fun v2=>
    some v2
   else
    some false
  else
   if(a1.fKind==3)then
    (zdj a0 a1.fOld).bind fun v3=>
    if v3 then
     (zdj a0 a1.fNew).bind fun v4=>
     if v4 then
      (zaA a1.fOld.fVals 0).bind fun y5=>
      (zaA a1.fNew.fVals 0).bind fun y6=>
      some (y5==y6)
     else
      some false
    else
     some false
   else
    some false
noncomputable def ze5 (a0:zaf) (a1:zad):Option (Bool):=
 (zbE a1.fServer 0 (IntKind.i64.wrap ((a0.fAt.length:Int)-1))).bind fun v1=>
 if(!v1)then
  some false
 else
  if((a1.fStep==1)||(a1.fStep==(-1)))then
   (zma a1.fAct).bind fun v2=>
   some v2
  else
   if(a1.fStep==0)then
    (zaA a0.fAt a1.fServer).bind fun y3=>
    (zaA a0.fWays y3).bind fun y4=>
    (zfZ y4 a1.fAct).bind fun v5=>
    some v5
   else
    some false
noncomputable def zdy (a0:zaf) (a1:zad):Option (Bool):=
 (zeY a0).bind fun v1=>
 if v1 then
  (ze5 a0 a1).bind fun v2=>
  some v2
 else
  some false
noncomputable def zjY (a0:List Int):Option (List Int):=
 req (((([]:List Int).length:Int)+((a0).length:Int))*8≤140737488355328∧(([]:List Int).length:Int)+((a0).length:Int)≤140737488355328)<|
 some a0
noncomputable def zdQ (a0:zaf) (v1:List Int) (v2:Int) (v3:List zab):Option ((Int × List zab) ⊕ Option (zaf)):=
 if(decide (v2<(a0.fWays.length:Int)))then
  (zaA a0.fWays v2).bind fun y4=>
  (zfK y4).bind fun v5=>
  req ((((v3).length:Int)+(([v5]:List zab).length:Int))*64≤140737488355328∧((v3).length:Int)+(([v5]:List zab).length:Int)≤140737488355328)<|
  some (.inl ((IntKind.i64.wrap (v2+1)),(v3++ [v5])))
 else
  some (.inr (some (⟨a0.fName,v3,v1,a0.fStore⟩:zaf)))
noncomputable def zg2 (a0:zaf):Option (zaf):=
 (zjY a0.fAt).bind fun v1=>
 req (((([]:List zaa).length:Int)+((a0.fStore).length:Int))*40≤140737488355328∧(([]:List zaa).length:Int)+((a0.fStore).length:Int)≤140737488355328)<|
 zak (fun s:Int × List zab=>zdQ a0 v1 s.1 s.2) (0, [])
noncomputable def zh8 (a0:zab) (a1:zat):Option (Bool):=
 (zcl a0).bind fun v1=>
 if v1 then
  (zfZ a0 a1).bind fun v2=>
  some v2
 else
  some false
noncomputable def zdr (a0:List (List UInt8)) (a1:List UInt8) (v1:List UInt8) (v2:Int):Option ((List UInt8 × Int) ⊕ Option (List UInt8)):=
 if(decide (v2<(a0.length:Int)))then
  (zaA a0 v2).bind fun y3=>
  if(decide (v2>0))then
   req ((v1).length+(a1).length≤9223372036854775807)<|
   req (((v1++a1)).length+(y3).length≤9223372036854775807)<|
   some (.inl (((v1++a1)++y3),(IntKind.i64.wrap (v2+1))))
  else
   req ((v1).length+(y3).length≤9223372036854775807)<|
   some (.inl ((v1++y3),(IntKind.i64.wrap (v2+1))))
 else
  some (.inr (some v1))
noncomputable def zki (a0:List (List UInt8)) (a1:List UInt8):Option (List UInt8):=
 zak (fun s:List UInt8 × Int=>zdr a0 a1 s.1 s.2) (([]:List UInt8),0)
noncomputable def zdw (a0:zab) (a1:zdC):Option (zaa):=
 req ((a0.fName).length+(([47]:List UInt8)).length≤9223372036854775807)<|
 (zaA a1.fVals 0).bind fun y1=>
 req (((a0.fName++([47]:List UInt8))).length+(y1).length≤9223372036854775807)<|
 req (0≤(1:Int)∧(1:Int)≤(a1.fVals.length:Int)∧(a1.fVals.length:Int)≤(a1.fVals.length:Int))<|
 (zki (zfV a1.fVals 1 (a1.fVals.length:Int)) ([44]:List UInt8)).bind fun v2=>
 some (⟨((a0.fName++([47]:List UInt8))++y1),v2,false⟩:zaa)
noncomputable def zhU (a0:zab) (a1:zat):Option (List DOp):=
 if(a1.fKind==1)then
  (zdw a0 a1.fNew).bind fun v1=>
  some [(⟨6,v1.fKey,([]:List UInt8),0⟩:DOp),(⟨2,v1.fKey,v1.fVal,0⟩:DOp)]
 else
  (zdw a0 a1.fOld).bind fun v2=>
  if(a1.fKind==2)then
   some [(⟨7,v2.fKey,v2.fVal,0⟩:DOp),(⟨3,v2.fKey,([]:List UInt8),0⟩:DOp)]
  else
   (zdw a0 a1.fNew).bind fun v3=>
   some [(⟨7,v2.fKey,v2.fVal,0⟩:DOp),(⟨2,v2.fKey,v3.fVal,0⟩:DOp)]
noncomputable def zes (a0:zab) (a1:zbK) (a2:zdC):Option (List UInt8):=
 req ((a0.fName).length+(([46]:List UInt8)).length≤9223372036854775807)<|
 req (((a0.fName++([46]:List UInt8))).length+(a1.fName).length≤9223372036854775807)<|
 req ((((a0.fName++([46]:List UInt8))++a1.fName)).length+(([47]:List UInt8)).length≤9223372036854775807)<|
 (zaA a2.fVals a1.fCol).bind fun y1=>
 req (((((a0.fName++([46]:List UInt8))++a1.fName)++([47]:List UInt8))).length+(y1).length≤9223372036854775807)<|
 req ((((((a0.fName++([46]:List UInt8))++a1.fName)++([47]:List UInt8))++y1)).length+(([47]:List UInt8)).length≤9223372036854775807)<|
 (zaA a2.fVals 0).bind fun y2=>
 req (((((((a0.fName++([46]:List UInt8))++a1.fName)++([47]:List UInt8))++y1)++([47]:List UInt8))).length+(y2).length≤9223372036854775807)<|
 some ((((((a0.fName++([46]:List UInt8))++a1.fName)++([47]:List UInt8))++y1)++([47]:List UInt8))++y2)
noncomputable def zgd (a1:zbK) (v2:List UInt8) (v3:List DOp):Option (List DOp):=
 if((v2 !=([]:List UInt8))&&(decide (a1.fStage≥2)))then
  req ((((v3).length:Int)+(([(⟨2,v2,([]:List UInt8),0⟩:DOp)]:List DOp).length:Int))*48≤140737488355328∧((v3).length:Int)+(([(⟨2,v2,([]:List UInt8),0⟩:DOp)]:List DOp).length:Int)≤140737488355328)<|
  some (v3++ [(⟨2,v2,([]:List UInt8),0⟩:DOp)])
 else
  some v3
noncomputable def zeQ (a1:zbK) (v1:List UInt8) (v2:List UInt8):Option (List DOp):=
 if(((v1 !=([]:List UInt8))&&(v1 !=v2))&&(decide (a1.fStage≥1)))then
  req (((([]:List DOp).length:Int)+(([(⟨3,v1,([]:List UInt8),0⟩:DOp)]:List DOp).length:Int))*48≤140737488355328∧(([]:List DOp).length:Int)+(([(⟨3,v1,([]:List UInt8),0⟩:DOp)]:List DOp).length:Int)≤140737488355328)<|
  zgd a1 v2 [(⟨3,v1,([]:List UInt8),0⟩:DOp)]
 else
  zgd a1 v2 []
noncomputable def zgb (a0:zab) (a1:zbK) (a2:zat) (v1:List UInt8):Option (List DOp):=
 if(a2.fKind !=2)then
  (zes a0 a1 a2.fNew).bind fun v4=>
  zeQ a1 v1 v4
 else
  zeQ a1 v1 ([]:List UInt8)
noncomputable def zgP (a0:zab) (a1:zbK) (a2:zat):Option (List DOp):=
 zy2 (σ:=List UInt8) (
  if(a2.fKind !=1)then
   (zes a0 a1 a2.fOld).bind fun v5=>
   some (.inl v5)
  else
   some (.inl ([]:List UInt8))
 ) (fun s=>zgb a0 a1 a2 s)
noncomputable def zdN (a0:zab) (a1:zat) (v2:Int) (v3:List DOp):Option ((Int × List DOp) ⊕ Option (List DOp)):=
 if(decide (v2<(a0.fIdxs.length:Int)))then
  (zaA a0.fIdxs v2).bind fun y4=>
  (zgP a0 y4 a1).bind fun v5=>
  req ((((v3).length:Int)+((v5).length:Int))*48≤140737488355328∧((v3).length:Int)+((v5).length:Int)≤140737488355328)<|
  some (.inl ((IntKind.i64.wrap (v2+1)),(v3++v5)))
 else
  some (.inr (some v3))
noncomputable def zi7 (a0:zab) (a1:zat):Option (List DOp):=
 (zhU a0 a1).bind fun v1=>
 zak (fun s:Int × List DOp=>zdN a0 a1 s.1 s.2) (0,v1)
noncomputable def zj6 (a0:DOp) (v2:Bool):Option (Bool):=
 if v2 then
  (zif a0.fVal).bind fun v3=>
  some (v3&&(a0.fBy==0))
 else
  if(a0.fKind==4)then
   if(a0.fKind==4)then
    if(a0.fVal==([]:List UInt8))then
     (zbE a0.fBy (-9999) 9999).bind fun v4=>
     some v4
    else
     some false
   else
    some (((((a0.fKind==1)||(a0.fKind==3))||(a0.fKind==6))&&(a0.fVal==([]:List UInt8)))&&(a0.fBy==0))
  else
   if(a0.fKind==5)then
    if(a0.fVal==([]:List UInt8))then
     (zbE a0.fBy (-9999) 9999).bind fun v5=>
     some v5
    else
     some false
   else
    some (((((a0.fKind==1)||(a0.fKind==3))||(a0.fKind==6))&&(a0.fVal==([]:List UInt8)))&&(a0.fBy==0))
noncomputable def zkP (a0:DOp):Option (Bool):=
 (zim a0.fKey).bind fun v1=>
 if(!v1)then
  some false
 else
  if(a0.fKind==2)then
   zj6 a0 (a0.fKind==2)
  else
   zj6 a0 (a0.fKind==7)
noncomputable def ziJ (a0:List DOp):Option (Bool):=
 some (decide ((a0.length:Int)≤8))
noncomputable def zdO (a0:List DOp) (v1:Int):Option ((Int) ⊕ Option (Bool)):=
 if(decide (v1<(a0.length:Int)))then
  (zaA a0 v1).bind fun y2=>
  (zkP y2).bind fun v3=>
  if(!v3)then
   some (.inr (some false))
  else
   some (.inl (IntKind.i64.wrap (v1+1)))
 else
  some (.inr (ziJ a0))
noncomputable def zjc (a0:List DOp):Option (Bool):=
 zak (fun s:Int=>zdO a0 s) 0
noncomputable def zcW (a1:List zhm) (a2:List UInt8) (v1:Int):Option ((Int) ⊕ Option (List UInt8 × Bool × Bool)):=
 if(decide (v1<(a1.length:Int)))then
  (zaA a1 v1).bind fun y2=>
  if(y2.fKey==a2)then
   some (.inr (some (y2.fVal,y2.fThere,true)))
  else
   some (.inl (IntKind.i64.wrap (v1+1)))
 else
  some (.inr (some (([]:List UInt8),false,false)))
noncomputable def zfn (a1:List zhm) (a2:List UInt8):Option (List UInt8 × Bool × Bool):=
 zak (fun s:Int=>zcW a1 a2 s) 0
noncomputable def zcO (a0:List zaa) (a1:List zhm) (a2:List UInt8) (v3:Int):Option ((Int) ⊕ Option (List UInt8 × Bool × Bool)):=
 if(decide (v3<(a0.length:Int)))then
  (zaA a0 v3).bind fun y4=>
  if(y4.fKey==a2)then
   some (.inr (some (y4.fVal,(!y4.fGone),true)))
  else
   some (.inl (IntKind.i64.wrap (v3+1)))
 else
  some (.inr (zfn a1 a2))
noncomputable def zgT (a0:List zaa) (a1:List zhm) (a2:List UInt8):Option (List UInt8 × Bool × Bool):=
 zak (fun s:Int=>zcO a0 a1 a2 s) 0
noncomputable def zbP (a0:List UInt8) (v3:Int) (v4:Int):Option ((Int × Int) ⊕ Option (Int)):=
 if(decide (v4<(a0.length:Int)))then
  (zaA a0 v4).bind fun y5=>
  if((decide ((y5.toNat:Int)<48))||(decide ((y5.toNat:Int)>57)))then
   some (.inr (some (-1)))
  else
   some (.inl ((IntKind.i64.wrap ((IntKind.i64.wrap ((10:Int)*v3))+(IntKind.i64.wrap (IntKind.u8.wrap ((y5.toNat:Int)-48))))),(IntKind.i64.wrap (v4+1))))
 else
  some (.inr (some v3))
noncomputable def zg0 (a0:List UInt8):Option (Int):=
 (zbE (a0.length:Int) 1 6).bind fun v1=>
 if v1 then
  (zaA a0 0).bind fun y2=>
  if(((y2.toNat:Int)==48)&&(decide ((a0.length:Int)>1)))then
   some (-1)
  else
   zak (fun s:Int × Int=>zbP a0 s.1 s.2) (0,0)
 else
  some (-1)
noncomputable def zg1 (y1:UInt8) (v2:List UInt8):Option (Int × Bool):=
 (zg0 v2).bind fun v3=>
 if((decide (v3<0))||(((y1.toNat:Int)==45)&&(v3==0)))then
  some (0,false)
 else
  if((y1.toNat:Int)==45)then
   some ((IntKind.i64.wrap (0-v3)),true)
  else
   some (v3,true)
noncomputable def zlJ (v4:List UInt8):Option (Int × Bool):=
 (zg0 v4).bind fun v5=>
 if((decide (v5<0))||false)then
  some (0,false)
 else
  some (v5,true)
noncomputable def ziw (a0:List UInt8):Option (Int × Bool):=
 if(decide ((a0.length:Int)>0))then
  (zaA a0 0).bind fun y1=>
  if((y1.toNat:Int)==45)then
   req (0≤(1:Int)∧(1:Int)≤(a0.length:Int)∧(a0.length:Int)≤(a0.length:Int))<|
   zg1 y1 (zfV a0 1 (a0.length:Int))
  else
   zg1 y1 a0
 else
  zlJ a0
noncomputable def zh0 (a0:DOp) (a1:List UInt8) (a2:Bool):Option (Bool):=
 (ziw a1).bind fun v1=>
 if(a0.fKind==4)then
  if(!a2)then
   some false
  else
   if v1.2 then
    (zbE (IntKind.i64.wrap (v1.1+a0.fBy)) (-999999) 999999).bind fun v2=>
    some (!v2)
   else
    some true
 else
  if(a0.fKind==5)then
   some (((!a2)||(!v1.2))||(decide (v1.1<a0.fBy)))
  else
   if(a0.fKind==6)then
    some a2
   else
    if(a0.fKind==7)then
     some ((!a2)||(a1 !=a0.fVal))
    else
     some false
noncomputable def zf7 (a0:List zaa) (a1:zaa) (v1:Int):Option (List zaa):=
 if(decide (v1>0))then
  (zaA a0 (IntKind.i64.wrap (v1-1))).bind fun y2=>
  if(y2.fKey==a1.fKey)then
   req (((([]:List zaa).length:Int)+((a0).length:Int))*40≤140737488355328∧(([]:List zaa).length:Int)+((a0).length:Int)≤140737488355328)<|
   (zaA a0 (IntKind.i64.wrap (v1-1))).bind fun y3=>
   some (a0.set ((IntKind.i64.wrap (v1-1))).toNat a1)
  else
   req (0≤v1∧v1≤(a0.length:Int)∧(a0.length:Int)≤(a0.length:Int))<|
   req (((([]:List zaa).length:Int)+(((zfV a0 v1 (a0.length:Int))).length:Int))*40≤140737488355328∧(([]:List zaa).length:Int)+(((zfV a0 v1 (a0.length:Int))).length:Int)≤140737488355328)<|
   req (0≤(0:Int)∧(0:Int)≤v1∧v1≤(a0.length:Int))<|
   req (((([]:List zaa).length:Int)+(((zfV a0 0 v1)).length:Int))*40≤140737488355328∧(([]:List zaa).length:Int)+(((zfV a0 0 v1)).length:Int)≤140737488355328)<|
   req (((((zfV a0 0 v1)).length:Int)+(([a1]:List zaa).length:Int))*40≤140737488355328∧(((zfV a0 0 v1)).length:Int)+(([a1]:List zaa).length:Int)≤140737488355328)<|
   req ((((((zfV a0 0 v1)++ [a1])).length:Int)+(((zfV a0 v1 (a0.length:Int))).length:Int))*40≤140737488355328∧((((zfV a0 0 v1)++ [a1])).length:Int)+(((zfV a0 v1 (a0.length:Int))).length:Int)≤140737488355328)<|
   some (((zfV a0 0 v1)++ [a1])++(zfV a0 v1 (a0.length:Int)))
 else
  req (0≤v1∧v1≤(a0.length:Int)∧(a0.length:Int)≤(a0.length:Int))<|
  req (((([]:List zaa).length:Int)+(((zfV a0 v1 (a0.length:Int))).length:Int))*40≤140737488355328∧(([]:List zaa).length:Int)+(((zfV a0 v1 (a0.length:Int))).length:Int)≤140737488355328)<|
  req (0≤(0:Int)∧(0:Int)≤v1∧v1≤(a0.length:Int))<|
  req (((([]:List zaa).length:Int)+(((zfV a0 0 v1)).length:Int))*40≤140737488355328∧(([]:List zaa).length:Int)+(((zfV a0 0 v1)).length:Int)≤140737488355328)<|
  req (((((zfV a0 0 v1)).length:Int)+(([a1]:List zaa).length:Int))*40≤140737488355328∧(((zfV a0 0 v1)).length:Int)+(([a1]:List zaa).length:Int)≤140737488355328)<|
  req ((((((zfV a0 0 v1)++ [a1])).length:Int)+(((zfV a0 v1 (a0.length:Int))).length:Int))*40≤140737488355328∧((((zfV a0 0 v1)++ [a1])).length:Int)+(((zfV a0 v1 (a0.length:Int))).length:Int)≤140737488355328)<|
  some (((zfV a0 0 v1)++ [a1])++(zfV a0 v1 (a0.length:Int)))
noncomputable def zc2 (a0:List zaa) (a1:zaa) (v4:Int):Option ((Int) ⊕ Option (List zaa)):=
 if(decide (v4>0))then
  (zaA a0 (IntKind.i64.wrap (v4-1))).bind fun y5=>
  if(!(Op.bytesLess y5.fKey a1.fKey||y5.fKey==a1.fKey))then
   some (.inl (IntKind.i64.wrap (v4-1)))
  else
   some (.inr (zf7 a0 a1 v4))
 else
  some (.inr (zf7 a0 a1 v4))
noncomputable def zdX (a0:List zaa) (a1:zaa):Option (List zaa):=
 zak (fun s:Int=>zc2 a0 a1 s) (a0.length:Int)
noncomputable def zfW:Nat→Int→Option (List UInt8)
 |0,_=>none
 |n_+1,a0=>
  if(decide (a0<10))then
   req (([(IntKind.u8.wrap (IntKind.i64.wrap ((48:Int)+a0)))]:List Int).length≤9223372036854775807)<|
   some ([(IntKind.u8.wrap (IntKind.i64.wrap ((48:Int)+a0)))].map fun n=>UInt8.ofNat n.toNat)
  else
   ((zfW n_) (IntKind.i64.wrap (Int.tdiv a0 10))).bind fun v1=>
   req (([(IntKind.u8.wrap (IntKind.i64.wrap ((48:Int)+(Int.tmod a0 10))))]:List Int).length≤9223372036854775807)<|
   req ((v1).length+(([(IntKind.u8.wrap (IntKind.i64.wrap ((48:Int)+(Int.tmod a0 10))))].map fun n=>UInt8.ofNat n.toNat)).length≤9223372036854775807)<|
   some (v1++([(IntKind.u8.wrap (IntKind.i64.wrap ((48:Int)+(Int.tmod a0 10))))].map fun n=>UInt8.ofNat n.toNat))
noncomputable def zmd:Int→Option (List UInt8):=zfW zD4
noncomputable def zkT (a0:Int):Option (List UInt8):=
 if(decide (a0<0))then
  (zmd (IntKind.i64.wrap (0-a0))).bind fun v1=>
  req ((([45]:List UInt8)).length+(v1).length≤9223372036854775807)<|
  some ((([45]:List UInt8):List UInt8)++v1)
 else
  (zmd a0).bind fun v2=>
  some v2
noncomputable def zaP (a0:List DOp) (a1:List zhm) (v1:List zaa) (v2:Int):Option ((List zaa × Int) ⊕ Option (Int × List UInt8 × List zaa)):=
 if(decide (v2<(a0.length:Int)))then
  (zaA a0 v2).bind fun y3=>
  (zgT v1 a1 y3.fKey).bind fun v4=>
  if(((!v4.2.2)&&(y3.fKind !=2))&&(y3.fKind !=3))then
   some (.inr (some (1,y3.fKey, [])))
  else
   (zh0 y3 v4.1 v4.2.1).bind fun v5=>
   if v5 then
    some (.inr (some (2,([]:List UInt8), [])))
   else
    if(y3.fKind==2)then
     (zdX v1 (⟨y3.fKey,y3.fVal,false⟩:zaa)).bind fun v6=>
     some (.inl (v6,(IntKind.i64.wrap (v2+1))))
    else
     if(y3.fKind==3)then
      (zdX v1 (⟨y3.fKey,([]:List UInt8),true⟩:zaa)).bind fun v7=>
      some (.inl (v7,(IntKind.i64.wrap (v2+1))))
     else
      if(y3.fKind==4)then
       (ziw v4.1).bind fun v8=>
       if(!v4.2.1)then
        (zkT (IntKind.i64.wrap ((0:Int)+y3.fBy))).bind fun v9=>
        (zdX v1 (⟨y3.fKey,v9,false⟩:zaa)).bind fun v10=>
        some (.inl (v10,(IntKind.i64.wrap (v2+1))))
       else
        (zkT (IntKind.i64.wrap (v8.1+y3.fBy))).bind fun v11=>
        (zdX v1 (⟨y3.fKey,v11,false⟩:zaa)).bind fun v12=>
        some (.inl (v12,(IntKind.i64.wrap (v2+1))))
      else
       some (.inl (v1,(IntKind.i64.wrap (v2+1))))
 else
  some (.inr (some (3,([]:List UInt8),v1)))
noncomputable def zkK (a0:List DOp) (a1:List zhm):Option (Int × List UInt8 × List zaa):=
 zak (fun s:List zaa × Int=>zaP a0 a1 s.1 s.2) ([],0)
noncomputable def zlc (a1:List UInt8):Option (zhm):=
 some (⟨a1,([]:List UInt8),false⟩:zhm)
noncomputable def zdM (a0:List zaa) (a1:List UInt8) (v1:Int):Option ((Int) ⊕ Option (zhm)):=
 if(decide (v1<(a0.length:Int)))then
  (zaA a0 v1).bind fun y2=>
  if(y2.fKey==a1)then
   some (.inr (some (⟨a1,y2.fVal,true⟩:zhm)))
  else
   some (.inl (IntKind.i64.wrap (v1+1)))
 else
  some (.inr (zlc a1))
noncomputable def zi5 (a0:List zaa) (a1:List UInt8):Option (zhm):=
 zak (fun s:Int=>zdM a0 a1 s) 0
noncomputable def zcs (a0:List zaa) (a1:List DOp) (v1:List zhm):Option ((List zhm) ⊕ Option (List zhm × List zaa × Bool)):=
 (zkK a1 v1).bind fun v2=>
 if(v2.1 !=1)then
  some (.inr (some (v1,v2.2.2,(v2.1==3))))
 else
  (zi5 a0 v2.2.1).bind fun v3=>
  req ((((v1).length:Int)+(([v3]:List zhm).length:Int))*40≤140737488355328∧((v1).length:Int)+(([v3]:List zhm).length:Int)≤140737488355328)<|
  some (.inl (v1++ [v3]))
noncomputable def zkc (a0:List zaa) (a1:List DOp):Option (List zhm × List zaa × Bool):=
 zak (fun s:List zhm=>zcs a0 a1 s) []
noncomputable def zcr (v1:List zaa) (v2:List zaa) (v3:Int):Option ((List zaa × Int) ⊕ Option (List zaa)):=
 if(decide (v3<(v1.length:Int)))then
  (zaA v1 v3).bind fun y4=>
  if(!y4.fGone)then
   req ((((v2).length:Int)+(([y4]:List zaa).length:Int))*40≤140737488355328∧((v2).length:Int)+(([y4]:List zaa).length:Int)≤140737488355328)<|
   some (.inl ((v2++ [y4]),(IntKind.i64.wrap (v3+1))))
  else
   some (.inl (v2,(IntKind.i64.wrap (v3+1))))
 else
  some (.inr (some v2))
noncomputable def zgg (v1:List zaa):Option (List zaa):=
 zak (fun s:List zaa × Int=>zcr v1 s.1 s.2) ([],0)
noncomputable def zcw (a1:List zaa) (v5:Int) (v6:List zaa):Option ((Int × List zaa) ⊕ Option (List zaa)):=
 if(decide (v5<(a1.length:Int)))then
  (zaA a1 v5).bind fun y7=>
  (zdX v6 y7).bind fun v8=>
  some (.inl ((IntKind.i64.wrap (v5+1)),v8))
 else
  some (.inr (zgg v6))
noncomputable def zf9 (a0:List zaa) (a1:List zaa):Option (List zaa):=
 req (((([]:List zaa).length:Int)+((a0).length:Int))*40≤140737488355328∧(([]:List zaa).length:Int)+((a0).length:Int)≤140737488355328)<|
 zak (fun s:Int × List zaa=>zcw a1 s.1 s.2) (0,a0)
noncomputable def zbX (a1:List (List DOp)) (v2:List Bool) (v3:Int) (v4:List zaa):Option ((List Bool × Int × List zaa) ⊕ Option (List zaa × List Bool × Bool)):=
 if(decide (v3<(a1.length:Int)))then
  (zaA a1 v3).bind fun y5=>
  (zkc v4 y5).bind fun v6=>
  (zf9 v4 v6.2.1).bind fun v7=>
  if v6.2.2 then
   (zdc v7).bind fun v8=>
   if v8 then
    req ((((v2).length:Int)+(([v8]:List Bool).length:Int))*1≤140737488355328∧((v2).length:Int)+(([v8]:List Bool).length:Int)≤140737488355328)<|
    some (.inl ((v2++ [v8]),(IntKind.i64.wrap (v3+1)),v7))
   else
    req ((((v2).length:Int)+(([v8]:List Bool).length:Int))*1≤140737488355328∧((v2).length:Int)+(([v8]:List Bool).length:Int)≤140737488355328)<|
    some (.inl ((v2++ [v8]),(IntKind.i64.wrap (v3+1)),v4))
  else
   req ((((v2).length:Int)+(([false]:List Bool).length:Int))*1≤140737488355328∧((v2).length:Int)+(([false]:List Bool).length:Int)≤140737488355328)<|
   some (.inl ((v2++ [false]),(IntKind.i64.wrap (v3+1)),v4))
 else
  some (.inr (some (v4,v2,true)))
noncomputable def zgq (a0:List zaa) (a1:List (List DOp)):Option (List zaa × List Bool × Bool):=
 req (((([]:List zaa).length:Int)+((a0).length:Int))*40≤140737488355328∧(([]:List zaa).length:Int)+((a0).length:Int)≤140737488355328)<|
 zak (fun s:List Bool × Int × List zaa=>zbX a1 s.1 s.2.1 s.2.2) ([],0,a0)
noncomputable def zbU (a0:List zaa) (a1:List (List DOp)) (v9:Int):Option ((Int) ⊕ Option (List zaa × List Bool × Bool)):=
 if(decide (v9<(a1.length:Int)))then
  (zaA a1 v9).bind fun y10=>
  (zjc y10).bind fun v11=>
  if(!v11)then
   some (.inr (some ([], [],false)))
  else
   some (.inl (IntKind.i64.wrap (v9+1)))
 else
  some (.inr (zgq a0 a1))
noncomputable def zf8 (a0:List zaa) (a1:List (List DOp)):Option (List zaa × List Bool × Bool):=
 (zdc a0).bind fun v1=>
 if((!v1)||(decide ((a1.length:Int)>20)))then
  some ([], [],false)
 else
  zak (fun s:Int=>zbU a0 a1 s) 0
noncomputable def zjV (a0:List zaa) (a1:List DOp):Option (List zaa × Bool):=
 (zf8 a0 ([a1]:List (List DOp))).bind fun v1=>
 if((v1.2.1.length:Int)==1)then
  (zaA v1.2.1 0).bind fun y2=>
  some (v1.1,y2)
 else
  some (v1.1,false)
noncomputable def zjO (a0:zab) (a1:List zaa) (a2:zat):Option (List zaa × Bool × Bool):=
 (zh8 a0 a2).bind fun v1=>
 if v1 then
  (zdc a1).bind fun v2=>
  if(!v2)then
   some ([],false,false)
  else
   (zi7 a0 a2).bind fun v3=>
   (zjV a1 v3).bind fun v4=>
   some (v4.1,v4.2,true)
 else
  some ([],false,false)
noncomputable def zeB (a0:zaf) (a1:zad):Option (zaf × Bool):=
 (zg2 a0).bind fun v1=>
 if(a1.fStep !=0)then
  (zaA v1.fAt a1.fServer).bind fun y2=>
  (zbE (IntKind.i64.wrap (y2+a1.fStep)) 0 (IntKind.i64.wrap ((a0.fWays.length:Int)-1))).bind fun v3=>
  if(!v3)then
   some (v1,false)
  else
   some ((⟨v1.fName,v1.fWays,(v1.fAt.set (a1.fServer).toNat (IntKind.i64.wrap (y2+a1.fStep))),v1.fStore⟩:zaf),true)
 else
  (zaA a0.fAt a1.fServer).bind fun y4=>
  (zaA a0.fWays y4).bind fun y5=>
  (zjO y5 a0.fStore a1.fAct).bind fun v6=>
  some ((⟨v1.fName,v1.fWays,v1.fAt,v6.1⟩:zaf),v6.2.1)
noncomputable def zf4 (a0:zaf) (a1:zad):Option (zaf × Bool × Bool):=
 (zdy a0 a1).bind fun v1=>
 if(!v1)then
  some ((⟨([]:List UInt8), [], [], []⟩:zaf),false,false)
 else
  (zeB a0 a1).bind fun v2=>
  some (v2.1,v2.2,true)
noncomputable def zbe (a0:Int) (a1:Int) (a2:Int):Option (Bool):=
 some ((decide (a0≥a1))&&(decide (a0≤a2)))
noncomputable def zcz (a0:List zaa) (v1:Int) (v2:List (List UInt8)):Option ((Int × List (List UInt8)) ⊕ Option (List (List UInt8))):=
 if(decide (v1<(a0.length:Int)))then
  (zaA a0 v1).bind fun y3=>
  req ((((v2).length:Int)+(([y3.fKey]:List (List UInt8)).length:Int))*16≤140737488355328∧((v2).length:Int)+(([y3.fKey]:List (List UInt8)).length:Int)≤140737488355328)<|
  some (.inl ((IntKind.i64.wrap (v1+1)),(v2++ [y3.fKey])))
 else
  some (.inr (some v2))
noncomputable def zgc (a0:List zaa):Option (List (List UInt8)):=
 zak (fun s:Int × List (List UInt8)=>zcz a0 s.1 s.2) (0, [])
noncomputable def zfy (a0:Int):Option (Bool):=
 some (((decide (a0≥97))&&(decide (a0≤122)))||((decide (a0≥48))&&(decide (a0≤57))))
noncomputable def zgo (a0:List UInt8) (a1:Int):Option (Int):=
 (zbp a0 a1).bind fun v1=>
 some v1
noncomputable def zgD (a0:List UInt8) (a1:List UInt8) (v1:Int):Option ((Int) ⊕ Option (Bool)):=
 if(decide (v1<(a0.length:Int)))then
  (zaA a0 v1).bind fun y2=>
  (zfy (y2.toNat:Int)).bind fun v3=>
  if v3 then
   some (.inl (IntKind.i64.wrap (v1+1)))
  else
   (zgo a1 (y2.toNat:Int)).bind fun v4=>
   if(decide (v4<0))then
    some (.inr (some false))
   else
    some (.inl (IntKind.i64.wrap (v1+1)))
 else
  some (.inr (some true))
noncomputable def zem (a0:List UInt8) (a1:List UInt8):Option (Bool):=
 zak (fun s:Int=>zgD a0 a1 s) 0
noncomputable def zhV (a0:List UInt8):Option (Bool):=
 (zbe (a0.length:Int) 1 12).bind fun v1=>
 if v1 then
  (zem a0 ([46,47]:List UInt8)).bind fun v2=>
  some v2
 else
  some false
noncomputable def zgi (a0:List (List UInt8)) (v1:Int):Option ((Int) ⊕ Option (Bool)):=
 if(decide (v1<(a0.length:Int)))then
  (zaA a0 v1).bind fun y2=>
  (zhV y2).bind fun v3=>
  if(decide (v1>0))then
   if v3 then
    (zaA a0 (IntKind.i64.wrap (v1-1))).bind fun y4=>
    if(Op.bytesLess y2 y4||y2==y4)then
     some (.inr (some false))
    else
     some (.inl (IntKind.i64.wrap (v1+1)))
   else
    some (.inr (some false))
  else
   if((!v3)||false)then
    some (.inr (some false))
   else
    some (.inl (IntKind.i64.wrap (v1+1)))
 else
  some (.inr (some true))
noncomputable def zge (a0:List (List UInt8)):Option (Bool):=
 zak (fun s:Int=>zgi a0 s) 0
noncomputable def zhT (a0:List UInt8):Option (Bool):=
 if(decide ((a0.length:Int)≤24))then
  (zem a0 ([46,45,44,95]:List UInt8)).bind fun v1=>
  some v1
 else
  some false
noncomputable def zgM (a0:List UInt8) (a1:Bool):Option (Bool):=
 (zhT a0).bind fun v1=>
 some (v1&&(!(a1&&(a0 !=([]:List UInt8)))))
noncomputable def zeC (a0:zaa):Option (Bool):=
 (zgM a0.fVal a0.fGone).bind fun v1=>
 some (!v1)
noncomputable def zfB (a0:List zaa):Option (Bool):=
 if(decide ((a0.length:Int)≤24))then
  (zgc a0).bind fun v1=>
  (zge v1).bind fun v2=>
  if v2 then
   (zaV a0 (fun y0_=>zeC y0_)).bind fun v3=>
   some (!v3)
  else
   some false
 else
  some false
noncomputable def zgY (a0:zaa):Option (Bool):=
 some a0.fGone
noncomputable def zjh (a0:List zaa):Option (Bool):=
 (zfB a0).bind fun v1=>
 if v1 then
  (zaV a0 (fun y0_=>zgY y0_)).bind fun v2=>
  some (!v2)
 else
  some false
noncomputable def zfR (a0:List UInt8) (a1:Int):Option (Bool):=
 (zbe (a0.length:Int) 1 a1).bind fun v1=>
 some v1
noncomputable def zfS (a0:List UInt8) (a1:Int) (v2:Int):Option ((Int) ⊕ Option (Bool)):=
 if(decide (v2<(a0.length:Int)))then
  (zaA a0 v2).bind fun y3=>
  if((decide ((y3.toNat:Int)<97))||(decide ((y3.toNat:Int)>122)))then
   some (.inr (some false))
  else
   some (.inl (IntKind.i64.wrap (v2+1)))
 else
  some (.inr (zfR a0 a1))
noncomputable def zdl (a0:List UInt8) (a1:Int):Option (Bool):=
 zak (fun s:Int=>zfS a0 a1 s) 0
noncomputable def zb6 (a0:List (List UInt8)) (a1:List UInt8) (v1:Int):Option ((Int) ⊕ Option (Int)):=
 if(decide (v1<(a0.length:Int)))then
  (zaA a0 v1).bind fun y2=>
  if(a1==y2)then
   some (.inr (some v1))
  else
   some (.inl (IntKind.i64.wrap (v1+1)))
 else
  some (.inr (some (-1)))
noncomputable def zby (a0:List (List UInt8)) (a1:List UInt8):Option (Int):=
 zak (fun s:Int=>zb6 a0 a1 s) 0
noncomputable def zaL (a0:List (List UInt8)) (a1:List UInt8):Option (Bool):=
 (zby a0 a1).bind fun v1=>
 some (decide (v1≥0))
noncomputable def zj7 (a0:Int):Option (Bool):=
 (zbe a0 0 3).bind fun v1=>
 some v1
noncomputable def zeI (a0:zab) (v3:Int):Option ((Int) ⊕ Option (Bool)):=
 if(decide (v3<(a0.fIdxs.length:Int)))then
  (zaA a0.fIdxs v3).bind fun y4=>
  (zdl y4.fName 1).bind fun v5=>
  if v5 then
   (zbe y4.fCol 1 (IntKind.i64.wrap ((a0.fCols.length:Int)-1))).bind fun v6=>
   if v6 then
    (zj7 y4.fStage).bind fun v7=>
    if(decide (v3>0))then
     if v7 then
      (zaA a0.fIdxs (IntKind.i64.wrap (v3-1))).bind fun y8=>
      if(Op.bytesLess y4.fName y8.fName||y4.fName==y8.fName)then
       some (.inr (some false))
      else
       some (.inl (IntKind.i64.wrap (v3+1)))
     else
      some (.inr (some false))
    else
     if((!v7)||false)then
      some (.inr (some false))
     else
      some (.inl (IntKind.i64.wrap (v3+1)))
   else
    some (.inr (some false))
  else
   some (.inr (some false))
 else
  some (.inr (some true))
noncomputable def zgh (a0:zab):Option (Bool):=
 zak (fun s:Int=>zeI a0 s) 0
noncomputable def zeO (a0:zab) (v9:Int):Option ((Int) ⊕ Option (Bool)):=
 if(decide (v9<(a0.fCols.length:Int)))then
  (zaA a0.fCols v9).bind fun y10=>
  (zdl y10 3).bind fun v11=>
  if v11 then
   req (0≤(0:Int)∧(0:Int)≤v9∧v9≤(a0.fCols.length:Int))<|
   (zaL (zfV a0.fCols 0 v9) y10).bind fun v12=>
   if v12 then
    some (.inr (some false))
   else
    some (.inl (IntKind.i64.wrap (v9+1)))
  else
   some (.inr (some false))
 else
  some (.inr (zgh a0))
noncomputable def zf5 (a0:zab):Option (Bool):=
 (zdl a0.fName 1).bind fun v1=>
 if v1 then
  (zbe (a0.fCols.length:Int) 2 4).bind fun v2=>
  if((!v2)||(decide ((a0.fIdxs.length:Int)>3)))then
   some false
  else
   zak (fun s:Int=>zeO a0 s) 0
 else
  some false
noncomputable def zew (a0:zbK) (a1:List UInt8):Option (Bool):=
 some (a0.fName==a1)
noncomputable def zbN (a0:zab) (a1:List UInt8):Option (Int):=
 (zbt a0.fIdxs (fun y0_=>zew y0_ a1)).bind fun v1=>
 some v1
noncomputable def zjg (a0:zab) (a1:List UInt8):Option (Bool):=
 (zf5 a0).bind fun v1=>
 if v1 then
  (zbN a0 a1).bind fun v2=>
  some (decide (v2≥0))
 else
  some false
noncomputable def zgI (a0:zab) (a1:zaf):Option (Bool):=
 (zjg a0 a1.fName).bind fun v1=>
 some (!v1)
noncomputable def zg3 (a0:Int) (a1:zaf):Option (Bool):=
 (zbe a0 0 (IntKind.i64.wrap ((a1.fWays.length:Int)-1))).bind fun v1=>
 some (!v1)
noncomputable def zbF (a0:zab) (a1:List UInt8):Option (zbK):=
 (zbN a0 a1).bind fun v1=>
 (zaA a0.fIdxs v1).bind fun y2=>
 some y2
noncomputable def zbH (a0:zaf) (a1:zab):Option (Int):=
 (zbF a1 a0.fName).bind fun v1=>
 some v1.fStage
noncomputable def za0 (xs:List (List UInt8)):Option (List (List UInt8)):=znw 16 xs
noncomputable def zbW (xs:List zbK):Option (List zbK):=znw 32 xs
noncomputable def zdP (a0:zab):Option (zab):=
 (za0 a0.fCols).bind fun v1=>
 (zbW a0.fIdxs).bind fun v2=>
 some (⟨a0.fName,v1,v2⟩:zab)
noncomputable def zb4 (a0:zab) (a1:List UInt8) (a2:Int):Option (zab):=
 (zdP a0).bind fun v1=>
 (zbN a0 a1).bind fun v2=>
 (zaA v1.fIdxs v2).bind fun y3=>
 some (⟨v1.fName,v1.fCols,(v1.fIdxs.set (v2).toNat {y3 with fStage:=a2})⟩:zab)
noncomputable def zb9 (a0:zab) (a1:List UInt8) (a2:Int) (v3:Int) (v4:List zab):Option ((Int × List zab) ⊕ Option (List zab)):=
 if(v3 !=a2)then
  if(decide (v3<a2))then
   (zb4 a0 a1 (IntKind.i64.wrap (v3+1))).bind fun v5=>
   req ((((v4).length:Int)+(([v5]:List zab).length:Int))*64≤140737488355328∧((v4).length:Int)+(([v5]:List zab).length:Int)≤140737488355328)<|
   some (.inl ((IntKind.i64.wrap (v3+1)),(v4++ [v5])))
  else
   (zb4 a0 a1 (IntKind.i64.wrap (v3-1))).bind fun v6=>
   req ((((v4).length:Int)+(([v6]:List zab).length:Int))*64≤140737488355328∧((v4).length:Int)+(([v6]:List zab).length:Int)≤140737488355328)<|
   some (.inl ((IntKind.i64.wrap (v3-1)),(v4++ [v6])))
 else
  some (.inr (some v4))
noncomputable def zea (a0:zab) (a1:List UInt8) (a2:Int):Option (List zab):=
 (zbF a0 a1).bind fun v1=>
 (zdP a0).bind fun v2=>
 zak (fun s:Int × List zab=>zb9 a0 a1 a2 s.1 s.2) (v1.fStage, [v2])
noncomputable def zah (a0:List zab) (a1:List zab) (a2:zab→zab→Option Bool) (v1:Int):Option ((Int) ⊕ Option (Bool)):=
 if(decide (v1<(a0.length:Int)))then
  (zaA a0 v1).bind fun y2=>
  (zaA a1 v1).bind fun y3=>
  (a2 y2 y3).bind fun v4=>
  if(!v4)then
   some (.inr (some false))
  else
   some (.inl (IntKind.i64.wrap (v1+1)))
 else
  some (.inr (some true))
noncomputable def zal (a0:List zab) (a1:List zab) (a2:zab→zab→Option Bool):Option (Bool):=
 if((a0.length:Int) !=(a1.length:Int))then
  some false
 else
  zak (fun s:Int=>zah a0 a1 a2 s) 0
noncomputable def zaK (a0:List (List UInt8)) (a1:List (List UInt8)) (v1:Int):Option ((Int) ⊕ Option (Bool)):=
 if(decide (v1<(a0.length:Int)))then
  (zaA a0 v1).bind fun y2=>
  (zaA a1 v1).bind fun y3=>
  if(y2 !=y3)then
   some (.inr (some false))
  else
   some (.inl (IntKind.i64.wrap (v1+1)))
 else
  some (.inr (some true))
noncomputable def zbw (a0:List (List UInt8)) (a1:List (List UInt8)):Option (Bool):=
 if((a0.length:Int) !=(a1.length:Int))then
  some false
 else
  zak (fun s:Int=>zaK a0 a1 s) 0
noncomputable def zaB (a0:List zbK) (a1:List zbK) (v1:Int):Option ((Int) ⊕ Option (Bool)):=
 if(decide (v1<(a0.length:Int)))then
  (zaA a0 v1).bind fun y2=>
  (zaA a1 v1).bind fun y3=>
  if(!(y2.fName==y3.fName&&(y2.fCol==y3.fCol&&(y2.fStage==y3.fStage))))then
   some (.inr (some false))
  else
   some (.inl (IntKind.i64.wrap (v1+1)))
 else
  some (.inr (some true))
noncomputable def za7 (a0:List zbK) (a1:List zbK):Option (Bool):=
 if((a0.length:Int) !=(a1.length:Int))then
  some false
 else
  zak (fun s:Int=>zaB a0 a1 s) 0
noncomputable def zcj (a0:zab) (a1:zab):Option (Bool):=
 if(a0.fName==a1.fName)then
  (zbw a0.fCols a1.fCols).bind fun v1=>
  if v1 then
   (za7 a0.fIdxs a1.fIdxs).bind fun v2=>
   some v2
  else
   some false
 else
  some false
noncomputable def zeU (a0:zaf):Option (Bool):=
 (zbe (a0.fWays.length:Int) 1 4).bind fun v1=>
 if v1 then
  (zbe (a0.fAt.length:Int) 1 3).bind fun v2=>
  if v2 then
   (zjh a0.fStore).bind fun v3=>
   if(!v3)then
    some false
   else
    (zaV a0.fWays (fun y0_=>zgI y0_ a0)).bind fun v4=>
    if v4 then
     some false
    else
     (zaV a0.fAt (fun y0_=>zg3 y0_ a0)).bind fun v5=>
     if v5 then
      some false
     else
      (zaA a0.fWays 0).bind fun y6=>
      (zaA a0.fWays (IntKind.i64.wrap ((a0.fWays.length:Int)-1))).bind fun y7=>
      (zbH a0 y7).bind fun v8=>
      (zea y6 a0.fName v8).bind fun v9=>
      (zal a0.fWays v9 (fun y0_ y1_=>zcj y0_ y1_)).bind fun v10=>
      some v10
  else
   some false
 else
  some false
noncomputable def zaJ (a0:zaf) (a1:Int):Option (zab):=
 (zaA a0.fAt a1).bind fun y1=>
 (zaA a0.fWays y1).bind fun y2=>
 some y2
noncomputable def ze2 (a0:List UInt8):Option (Bool):=
 (zbe (a0.length:Int) 1 3).bind fun v1=>
 if v1 then
  (zem a0 ([]:List UInt8)).bind fun v2=>
  some v2
 else
  some false
noncomputable def zdH (a0:List UInt8):Option (Bool):=
 (ze2 a0).bind fun v1=>
 some (!v1)
noncomputable def zbd (a0:zab) (a1:zdC):Option (Bool):=
 if((a1.fVals.length:Int)==(a0.fCols.length:Int))then
  (zaV a1.fVals (fun y0_=>zdH y0_)).bind fun v1=>
  some (!v1)
 else
  some false
noncomputable def zdg (a0:zab) (a1:zat):Option (Bool):=
 if(a1.fKind==1)then
  if((a1.fOld.fVals.length:Int)==0)then
   (zbd a0 a1.fNew).bind fun v1=>
   some v1
  else
   some false
 else
  if(a1.fKind==2)then
   (zbd a0 a1.fOld).bind fun v2=>
   some (v2&&((a1.fNew.fVals.length:Int)==0))
  else
   if(a1.fKind==3)then
    (zbd a0 a1.fOld).bind fun v3=>
    if v3 then
     (zbd a0 a1.fNew).bind fun v4=>
     if v4 then
      (zaA a1.fOld.fVals 0).bind fun y5=>
      (zaA a1.fNew.fVals 0).bind fun y6=>
      some (y5==y6)
     else
      some false
    else
     some false
   else
    some false
noncomputable def zkZ (a0:zat):Option (Bool):=
 some (((a0.fKind==0)&&((a0.fOld.fVals.length:Int)==0))&&((a0.fNew.fVals.length:Int)==0))
noncomputable def zbc (a0:zaf) (a1:zad):Option (Bool):=
 (zbe a1.fServer 0 (IntKind.i64.wrap ((a0.fAt.length:Int)-1))).bind fun v1=>
 if(!v1)then
  some false
 else
  if(a1.fStep==0)then
   (zaJ a0 a1.fServer).bind fun v2=>
   (zdg v2 a1.fAct).bind fun v3=>
   some v3
  else
   if(a1.fStep==1)then
    (zkZ a1.fAct).bind fun v4=>
    some v4
   else
    if(a1.fStep==(-1))then
     (zkZ a1.fAct).bind fun v5=>
     some v5
    else
     some false
noncomputable def zdx (a0:zaf) (a1:zad):Option (Bool):=
 (zeU a0).bind fun v1=>
 if v1 then
  (zbc a0 a1).bind fun v2=>
  some v2
 else
  some false
noncomputable def zd4 (xs:List Int):Option (List Int):=znw 8 xs
noncomputable def zaz (xs:List zaa):Option (List zaa):=znw 40 xs
noncomputable def zcx (a0:zaf) (v1:List Int) (v2:List zaa) (v3:Int) (v4:List zab):Option ((Int × List zab) ⊕ Option (zaf)):=
 if(decide (v3<(a0.fWays.length:Int)))then
  (zaA a0.fWays v3).bind fun y5=>
  (zdP y5).bind fun v6=>
  req ((((v4).length:Int)+(([v6]:List zab).length:Int))*64≤140737488355328∧((v4).length:Int)+(([v6]:List zab).length:Int)≤140737488355328)<|
  some (.inl ((IntKind.i64.wrap (v3+1)),(v4++ [v6])))
 else
  some (.inr (some (⟨a0.fName,v4,v1,v2⟩:zaf)))
noncomputable def zeS (a0:zaf):Option (zaf):=
 (zd4 a0.fAt).bind fun v1=>
 (zaz a0.fStore).bind fun v2=>
 zak (fun s:Int × List zab=>zcx a0 v1 v2 s.1 s.2) (0, [])
noncomputable def zbv (a0:zab) (a1:zdC):Option (zaa):=
 req ((a0.fName).length+(([47]:List UInt8)).length≤9223372036854775807)<|
 (zaA a1.fVals 0).bind fun y1=>
 req (((a0.fName++([47]:List UInt8))).length+(y1).length≤9223372036854775807)<|
 req (0≤(1:Int)∧(1:Int)≤(a1.fVals.length:Int)∧(a1.fVals.length:Int)≤(a1.fVals.length:Int))<|
 (zh9 (zfV a1.fVals 1 (a1.fVals.length:Int)) ([44]:List UInt8)).bind fun v2=>
 some (⟨((a0.fName++([47]:List UInt8))++y1),v2,false⟩:zaa)
noncomputable def zax (a0:Int) (a1:zaa) (a2:List DOp):Option (Unit × List DOp):=
 req ((((a2).length:Int)+(([(⟨a0,a1.fKey,a1.fVal,0⟩:DOp)]:List DOp).length:Int))*48≤140737488355328∧((a2).length:Int)+(([(⟨a0,a1.fKey,a1.fVal,0⟩:DOp)]:List DOp).length:Int)≤140737488355328)<|
 some ((),(a2++ [(⟨a0,a1.fKey,a1.fVal,0⟩:DOp)]))
noncomputable def zcp (a0:zab) (a1:List UInt8):Option (List UInt8):=
 req ((a0.fName).length+(([46]:List UInt8)).length≤9223372036854775807)<|
 req (((a0.fName++([46]:List UInt8))).length+(a1).length≤9223372036854775807)<|
 req ((((a0.fName++([46]:List UInt8))++a1)).length+(([47]:List UInt8)).length≤9223372036854775807)<|
 some (((a0.fName++([46]:List UInt8))++a1)++([47]:List UInt8))
noncomputable def za6 (a0:zab) (a1:List UInt8) (a2:zdC):Option (List UInt8):=
 (zcp a0 a1).bind fun v1=>
 (zbF a0 a1).bind fun v2=>
 (zaA a2.fVals v2.fCol).bind fun y3=>
 req ((v1).length+(y3).length≤9223372036854775807)<|
 req (((v1++y3)).length+(([47]:List UInt8)).length≤9223372036854775807)<|
 (zaA a2.fVals 0).bind fun y4=>
 req ((((v1++y3)++([47]:List UInt8))).length+(y4).length≤9223372036854775807)<|
 some (((v1++y3)++([47]:List UInt8))++y4)
noncomputable def zkd (a0:Int):Option (Bool):=
 some (decide (a0≥1))
noncomputable def zj1 (a0:Int):Option (Bool):=
 some (decide (a0≥2))
noncomputable def zbn (v9:Int) (y11:zbK) (v13:List UInt8) (v14:List DOp):Option ((Int × List DOp) ⊕ Option (List DOp)):=
 if(v13 !=([]:List UInt8))then
  (zj1 y11.fStage).bind fun v15=>
  if v15 then
   (zax 2 (⟨v13,([]:List UInt8),false⟩:zaa) v14).bind fun v16=>
   some (.inl ((IntKind.i64.wrap (v9+1)),v16.2))
  else
   some (.inl ((IntKind.i64.wrap (v9+1)),v14))
 else
  some (.inl ((IntKind.i64.wrap (v9+1)),v14))
noncomputable def zaZ (v9:Int) (v10:List DOp) (y11:zbK) (v12:List UInt8) (v13:List UInt8):Option ((Int × List DOp) ⊕ Option (List DOp)):=
 if(v12 !=([]:List UInt8))then
  if(v12 !=v13)then
   (zkd y11.fStage).bind fun v17=>
   if v17 then
    (zax 3 (⟨v12,([]:List UInt8),false⟩:zaa) v10).bind fun v18=>
    zbn v9 y11 v13 v18.2
   else
    zbn v9 y11 v13 v10
  else
   zbn v9 y11 v13 v10
 else
  zbn v9 y11 v13 v10
noncomputable def zet (a0:zab) (a1:zat) (v9:Int) (v10:List DOp) (y11:zbK) (v12:List UInt8):Option ((Int × List DOp) ⊕ Option (List DOp)):=
 if(a1.fKind !=2)then
  (za6 a0 y11.fName a1.fNew).bind fun v19=>
  zaZ v9 v10 y11 v12 v19
 else
  zaZ v9 v10 y11 v12 ([]:List UInt8)
noncomputable def zbl (a0:zab) (a1:zat) (v9:Int) (v10:List DOp):Option ((Int × List DOp) ⊕ Option (List DOp)):=
 if(decide (v9<(a0.fIdxs.length:Int)))then
  (zaA a0.fIdxs v9).bind fun y11=>
  zy2 (σ:=List UInt8) (
   if(a1.fKind !=1)then
    (za6 a0 y11.fName a1.fOld).bind fun v20=>
    some (.inl v20)
   else
    some (.inl ([]:List UInt8))
  ) (fun s=>zet a0 a1 v9 v10 y11 s)
 else
  some (.inr (some v10))
noncomputable def zbm (a0:zab) (a1:zat) (v8:List DOp):Option (List DOp):=
 zak (fun s:Int × List DOp=>zbl a0 a1 s.1 s.2) (0,v8)
noncomputable def zb2 (a0:zab) (a1:zat) (v1:List UInt8) (v4:List DOp) (v5:List UInt8) (v6:List UInt8) (v7:Bool):Option (List DOp):=
 if(a1.fKind==1)then
  (zax 6 (⟨v5,([]:List UInt8),false⟩:zaa) v4).bind fun v21=>
  (zax 2 (⟨v5,v6,v7⟩:zaa) v21.2).bind fun v22=>
  zbm a0 a1 v22.2
 else
  if(a1.fKind==2)then
   (zax 3 (⟨v1,([]:List UInt8),false⟩:zaa) v4).bind fun v23=>
   zbm a0 a1 v23.2
  else
   if(a1.fKind==3)then
    (zax 2 (⟨v5,v6,v7⟩:zaa) v4).bind fun v24=>
    zbm a0 a1 v24.2
   else
    zbm a0 a1 v4
noncomputable def zaY (a0:zab) (a1:zat) (v1:List UInt8) (v2:List UInt8) (v3:Bool) (v4:List DOp):Option (List DOp):=
 if(a1.fKind !=2)then
  (zbv a0 a1.fNew).bind fun v25=>
  zb2 a0 a1 v1 v4 v25.fKey v25.fVal v25.fGone
 else
  zb2 a0 a1 v1 v4 ([]:List UInt8) ([]:List UInt8) false
noncomputable def zdY (a0:zab) (a1:zat):Option (List DOp):=
 zy2 (σ:=List UInt8 × List UInt8 × Bool × List DOp) (
  if(a1.fKind !=1)then
   (zbv a0 a1.fOld).bind fun v26=>
   (zax 7 v26 ([]:List DOp)).bind fun v27=>
   some (.inl (v26.fKey,v26.fVal,v26.fGone,v27.2))
  else
   some (.inl (([]:List UInt8),([]:List UInt8),false, []))
 ) (fun s=>zaY a0 a1 s.1 s.2.1 s.2.2.1 s.2.2.2)
noncomputable def zav (a0:List zaa) (a1:List UInt8) (a2:zaa→(List UInt8)→Option Int) (v1:Int):Option (Int × Bool):=
 if(decide (v1<(a0.length:Int)))then
  (zaA a0 v1).bind fun y2=>
  (a2 y2 a1).bind fun v3=>
  some (v1,(v3==0))
 else
  some (v1,false)
noncomputable def zai (a0:List zaa) (a1:List UInt8) (a2:zaa→(List UInt8)→Option Int) (v4:Int) (v5:Int):Option ((Int × Int) ⊕ Option (Int × Bool)):=
 if(decide (v4<v5))then
  (zaA a0 (IntKind.i64.wrap (Int.fdiv (IntKind.u64.wrap (IntKind.i64.wrap (v4+v5))) (2^(min ((1:Int)).toNat (IntKind.bits .u64)))))).bind fun y6=>
  (a2 y6 a1).bind fun v7=>
  if(decide (v7<0))then
   some (.inl ((IntKind.i64.wrap ((IntKind.i64.wrap (Int.fdiv (IntKind.u64.wrap (IntKind.i64.wrap (v4+v5))) (2^(min ((1:Int)).toNat (IntKind.bits .u64)))))+1)),v5))
  else
   some (.inl (v4,(IntKind.i64.wrap (Int.fdiv (IntKind.u64.wrap (IntKind.i64.wrap (v4+v5))) (2^(min ((1:Int)).toNat (IntKind.bits .u64)))))))
 else
  some (.inr (zav a0 a1 a2 v4))
noncomputable def zay (a0:List zaa) (a1:List UInt8) (a2:zaa→(List UInt8)→Option Int):Option (Int × Bool):=
 zak (fun s:Int × Int=>zai a0 a1 a2 s.1 s.2) (0,(a0.length:Int))
noncomputable def zdB (a0:List UInt8):Option (Bool):=
 some (a0 !=a0)
noncomputable def zdT (a0:List UInt8) (a1:List UInt8):Option (Int):=
 (zdB a0).bind fun v1=>
 (zdB a1).bind fun v2=>
 if v1 then
  if v2 then
   some 0
  else
   some (-1)
 else
  if v2 then
   some 1
  else
   if(Op.bytesLess a0 a1)then
    some (-1)
   else
    if(!(Op.bytesLess a0 a1||a0==a1))then
     some 1
    else
     some 0
noncomputable def zcV (a0:zaa) (a1:List UInt8):Option (Int):=
 (zdT a0.fKey a1).bind fun v1=>
 some v1
noncomputable def zck (a0:List zaa) (a1:List UInt8):Option (Int × Bool):=
 (zay a0 a1 (fun y0_ y1_=>zcV y0_ y1_)).bind fun v1=>
 some (v1.1,v1.2)
noncomputable def zdE (a0:List zaa) (a1:zaa):Option (List zaa):=
 (zck a0 a1.fKey).bind fun v1=>
 if v1.2 then
  (zaA a0 v1.1).bind fun y2=>
  some (a0.set (v1.1).toNat a1)
 else
  (zqd a0 v1.1 ([a1]:List zaa)).bind fun v3=>
  some v3
noncomputable def zdt (a0:List UInt8) (a2:List zhm) (v3:Int):Option ((Int) ⊕ Option (List UInt8 × Bool × Bool)):=
 if(decide (v3<(a2.length:Int)))then
  (zaA a2 v3).bind fun y4=>
  if(y4.fKey==a0)then
   some (.inr (some (y4.fVal,y4.fThere,true)))
  else
   some (.inl (IntKind.i64.wrap (v3+1)))
 else
  some (.inr (some (([]:List UInt8),false,false)))
noncomputable def zhO (a0:List UInt8) (a1:List zaa) (a2:List zhm):Option (List UInt8 × Bool × Bool):=
 (zck a1 a0).bind fun v1=>
 if v1.2 then
  (zaA a1 v1.1).bind fun y2=>
  some (y2.fVal,(!y2.fGone),true)
 else
  zak (fun s:Int=>zdt a0 a2 s) 0
noncomputable def zfw (a0:List UInt8):Option (Int × Bool):=
 (zhZ a0 (-999999) 999999).bind fun v1=>
 some (v1.1,v1.2)
noncomputable def zfH (a0:DOp) (a1:List UInt8) (a2:Bool):Option (Bool):=
 (zfw a1).bind fun v1=>
 if(a0.fKind==4)then
  if v1.2 then
   if a2 then
    (zbe (IntKind.i64.wrap (v1.1+a0.fBy)) (-999999) 999999).bind fun v2=>
    some v2
   else
    some true
  else
   some ((!a2)||false)
 else
  if(a0.fKind==5)then
   some ((a2&&v1.2)&&(decide (v1.1≥a0.fBy)))
  else
   if(a0.fKind==6)then
    some (!a2)
   else
    if(a0.fKind==7)then
     some (a2&&(a1==a0.fVal))
    else
     some true
noncomputable def zaF (a0:List DOp) (a1:List zhm) (v1:Int) (v2:List zaa):Option ((Int × List zaa) ⊕ Option (Int × List UInt8 × List zaa)):=
 if(decide (v1<(a0.length:Int)))then
  (zaA a0 v1).bind fun y3=>
  if(y3.fKind==2)then
   (zdE v2 (⟨y3.fKey,y3.fVal,false⟩:zaa)).bind fun v4=>
   some (.inl ((IntKind.i64.wrap (v1+1)),v4))
  else
   if(y3.fKind==3)then
    (zdE v2 (⟨y3.fKey,([]:List UInt8),true⟩:zaa)).bind fun v5=>
    some (.inl ((IntKind.i64.wrap (v1+1)),v5))
   else
    (zhO y3.fKey v2 a1).bind fun v6=>
    if(!v6.2.2)then
     some (.inr (some (1,y3.fKey, [])))
    else
     (zfH y3 v6.1 v6.2.1).bind fun v7=>
     if(!v7)then
      some (.inr (some (2,([]:List UInt8), [])))
     else
      if(y3.fKind==4)then
       (zfw v6.1).bind fun v8=>
       (zj5 (IntKind.i64.wrap (v8.1+y3.fBy))).bind fun v9=>
       (zdE v2 (⟨y3.fKey,v9,false⟩:zaa)).bind fun v10=>
       some (.inl ((IntKind.i64.wrap (v1+1)),v10))
      else
       some (.inl ((IntKind.i64.wrap (v1+1)),v2))
 else
  some (.inr (some (3,([]:List UInt8),v2)))
noncomputable def zj4 (a0:List DOp) (a1:List zhm):Option (Int × List UInt8 × List zaa):=
 zak (fun s:Int × List zaa=>zaF a0 a1 s.1 s.2) (0, [])
noncomputable def zjU (a0:List zaa) (a1:List UInt8):Option (zhm):=
 (zck a0 a1).bind fun v1=>
 if(!v1.2)then
  some (⟨a1,([]:List UInt8),false⟩:zhm)
 else
  (zaA a0 v1.1).bind fun y2=>
  some (⟨a1,y2.fVal,true⟩:zhm)
noncomputable def zca (a0:List zaa) (a1:List DOp) (v1:List zhm):Option ((List zhm) ⊕ Option (List zhm × List zaa × Bool)):=
 (zj4 a1 v1).bind fun v2=>
 if(v2.1 !=1)then
  some (.inr (some (v1,v2.2.2,(v2.1==3))))
 else
  (zjU a0 v2.2.1).bind fun v3=>
  req ((((v1).length:Int)+(([v3]:List zhm).length:Int))*40≤140737488355328∧((v1).length:Int)+(([v3]:List zhm).length:Int)≤140737488355328)<|
  some (.inl (v1++ [v3]))
noncomputable def zjD (a0:List zaa) (a1:List DOp):Option (List zhm × List zaa × Bool):=
 zak (fun s:List zhm=>zca a0 a1 s) []
noncomputable def ziD (a0:zaa):Option (Bool):=
 some a0.fGone
noncomputable def zhG (v2:List zaa):Option (List zaa × Bool):=
 (zfs v2 (fun y0_=>ziD y0_)).bind fun v3=>
 if(decide ((v3.length:Int)>24))then
  some ([],false)
 else
  some (v3,true)
noncomputable def zdu (a1:List zaa) (v4:Int) (v5:List zaa):Option ((Int × List zaa) ⊕ Option (List zaa × Bool)):=
 if(decide (v4<(a1.length:Int)))then
  (zaA a1 v4).bind fun y6=>
  (zdE v5 y6).bind fun v7=>
  some (.inl ((IntKind.i64.wrap (v4+1)),v7))
 else
  some (.inr (zhG v5))
noncomputable def zh5 (a0:List zaa) (a1:List zaa):Option (List zaa × Bool):=
 (zaz a0).bind fun v1=>
 zak (fun s:Int × List zaa=>zdu a1 s.1 s.2) (0,v1)
noncomputable def zjb (a0:List zaa) (a1:List DOp):Option (List zaa × Bool):=
 (zjD a0 a1).bind fun v1=>
 (zh5 a0 v1.2.1).bind fun v2=>
 if((!v1.2.2)||(!v2.2))then
  req (((([]:List zaa).length:Int)+((a0).length:Int))*40≤140737488355328∧(([]:List zaa).length:Int)+((a0).length:Int)≤140737488355328)<|
  some (a0,false)
 else
  some (v2.1,true)
noncomputable def zbr (a0:zaf) (a1:zad):Option (zaf × Bool):=
 (zeS a0).bind fun v1=>
 if(a1.fStep !=0)then
  (zaA a0.fAt a1.fServer).bind fun y2=>
  (zbe (IntKind.i64.wrap (y2+a1.fStep)) 0 (IntKind.i64.wrap ((a0.fWays.length:Int)-1))).bind fun v3=>
  if(!v3)then
   some (v1,false)
  else
   (zaA v1.fAt a1.fServer).bind fun y4=>
   some ((⟨v1.fName,v1.fWays,(v1.fAt.set (a1.fServer).toNat (IntKind.i64.wrap (y2+a1.fStep))),v1.fStore⟩:zaf),true)
 else
  (zaJ a0 a1.fServer).bind fun v5=>
  (zdY v5 a1.fAct).bind fun v6=>
  (zjb a0.fStore v6).bind fun v7=>
  some ((⟨v1.fName,v1.fWays,v1.fAt,v7.1⟩:zaf),v7.2)
noncomputable def zeX (a0:zaf) (a1:zad):Option (zaf × Bool × Bool):=
 (zdx a0 a1).bind fun v1=>
 if(!v1)then
  some ((⟨([]:List UInt8), [], [], []⟩:zaf),false,false)
 else
  (zbr a0 a1).bind fun v2=>
  some (v2.1,v2.2,true)
noncomputable def za8 (a0:List (List UInt8)) (a1:List (List UInt8)) (v1:Int):Option ((Int) ⊕ Option (Bool)):=
 if(decide (v1<(a0.length:Int)))then
  (zaA a0 v1).bind fun y2=>
  (zaA a1 v1).bind fun y3=>
  if(y2 !=y3)then
   some (.inr (some false))
  else
   some (.inl (IntKind.i64.wrap (v1+1)))
 else
  some (.inr (some true))
noncomputable def zc4 (a0:List (List UInt8)) (a1:List (List UInt8)):Option (Bool):=
 if((a0.length:Int) !=(a1.length:Int))then
  some false
 else
  zak (fun s:Int=>za8 a0 a1 s) 0
noncomputable def zgr (a0:zbK) (a1:zbK):Option (Bool):=
 if(a0.fName !=a1.fName)then
  some false
 else
  if(a0.fCol !=a1.fCol)then
   some false
  else
   if(a0.fStage !=a1.fStage)then
    some false
   else
    some true
noncomputable def zbQ (a0:List zbK) (a1:List zbK) (v1:Int):Option ((Int) ⊕ Option (Bool)):=
 if(decide (v1<(a0.length:Int)))then
  (zaA a0 v1).bind fun y2=>
  (zaA a1 v1).bind fun y3=>
  (zgr y2 y3).bind fun v4=>
  if(!v4)then
   some (.inr (some false))
  else
   some (.inl (IntKind.i64.wrap (v1+1)))
 else
  some (.inr (some true))
noncomputable def zfJ (a0:List zbK) (a1:List zbK):Option (Bool):=
 if((a0.length:Int) !=(a1.length:Int))then
  some false
 else
  zak (fun s:Int=>zbQ a0 a1 s) 0
noncomputable def ze6 (a0:zab) (a1:zab):Option (Bool):=
 if(a0.fName !=a1.fName)then
  some false
 else
  (zc4 a0.fCols a1.fCols).bind fun v1=>
  if(!v1)then
   some false
  else
   (zfJ a0.fIdxs a1.fIdxs).bind fun v2=>
   if(!v2)then
    some false
   else
    some true
noncomputable def zd2 (a0:List zab) (a1:List zab) (v1:Int):Option ((Int) ⊕ Option (Bool)):=
 if(decide (v1<(a0.length:Int)))then
  (zaA a0 v1).bind fun y2=>
  (zaA a1 v1).bind fun y3=>
  (ze6 y2 y3).bind fun v4=>
  if(!v4)then
   some (.inr (some false))
  else
   some (.inl (IntKind.i64.wrap (v1+1)))
 else
  some (.inr (some true))
noncomputable def zgy (a0:List zab) (a1:List zab):Option (Bool):=
 if((a0.length:Int) !=(a1.length:Int))then
  some false
 else
  zak (fun s:Int=>zd2 a0 a1 s) 0
noncomputable def zeZ (a0:List Int) (a1:List Int) (v1:Int):Option ((Int) ⊕ Option (Bool)):=
 if(decide (v1<(a0.length:Int)))then
  (zaA a0 v1).bind fun y2=>
  (zaA a1 v1).bind fun y3=>
  if(y2 !=y3)then
   some (.inr (some false))
  else
   some (.inl (IntKind.i64.wrap (v1+1)))
 else
  some (.inr (some true))
noncomputable def zi0 (a0:List Int) (a1:List Int):Option (Bool):=
 if((a0.length:Int) !=(a1.length:Int))then
  some false
 else
  zak (fun s:Int=>zeZ a0 a1 s) 0
noncomputable def ze1 (a0:zaa) (a1:zaa):Option (Bool):=
 if(a0.fKey !=a1.fKey)then
  some false
 else
  if(a0.fVal !=a1.fVal)then
   some false
  else
   if(a0.fGone !=a1.fGone)then
    some false
   else
    some true
noncomputable def zbi (a0:List zaa) (a1:List zaa) (v1:Int):Option ((Int) ⊕ Option (Bool)):=
 if(decide (v1<(a0.length:Int)))then
  (zaA a0 v1).bind fun y2=>
  (zaA a1 v1).bind fun y3=>
  (ze1 y2 y3).bind fun v4=>
  if(!v4)then
   some (.inr (some false))
  else
   some (.inl (IntKind.i64.wrap (v1+1)))
 else
  some (.inr (some true))
noncomputable def zex (a0:List zaa) (a1:List zaa):Option (Bool):=
 if((a0.length:Int) !=(a1.length:Int))then
  some false
 else
  zak (fun s:Int=>zbi a0 a1 s) 0
noncomputable def zbu (a0:zaf) (a1:zaf):Option (Bool):=
 if(a0.fName !=a1.fName)then
  some false
 else
  (zgy a0.fWays a1.fWays).bind fun v1=>
  if(!v1)then
   some false
  else
   (zi0 a0.fAt a1.fAt).bind fun v2=>
   if(!v2)then
    some false
   else
    (zex a0.fStore a1.fStore).bind fun v3=>
    if(!v3)then
     some false
    else
     some true
noncomputable def ziv (a0:zdC) (a1:zdC):Option (Bool):=
 (zc4 a0.fVals a1.fVals).bind fun v1=>
 if(!v1)then
  some false
 else
  some true
noncomputable def zgx (a0:zat) (a1:zat):Option (Bool):=
 if(a0.fKind !=a1.fKind)then
  some false
 else
  (ziv a0.fOld a1.fOld).bind fun v1=>
  if(!v1)then
   some false
  else
   (ziv a0.fNew a1.fNew).bind fun v2=>
   if(!v2)then
    some false
   else
    some true
noncomputable def zdm (a0:zad) (a1:zad):Option (Bool):=
 if(a0.fServer !=a1.fServer)then
  some false
 else
  if(a0.fStep !=a1.fStep)then
   some false
  else
   (zgx a0.fAct a1.fAct).bind fun v1=>
   if(!v1)then
    some false
   else
    some true
noncomputable def zjR (v1:List UInt8):Option (List UInt8):=
 req ((([109]:List UInt8)).length+(v1).length≤9223372036854775807)<|
 some ((([109]:List UInt8):List UInt8)++v1)
noncomputable def zbG (v2:Int) (v3:List UInt8):Option ((Int × List UInt8) ⊕ Option (List UInt8)):=
 if(decide (v2>0))then
  req (([(IntKind.u8.wrap (IntKind.i64.wrap ((48:Int)+(Int.tmod v2 10))))]:List Int).length≤9223372036854775807)<|
  req ((([(IntKind.u8.wrap (IntKind.i64.wrap ((48:Int)+(Int.tmod v2 10))))].map fun n=>UInt8.ofNat n.toNat)).length+(v3).length≤9223372036854775807)<|
  some (.inl ((IntKind.i64.wrap (Int.tdiv v2 10)),(([(IntKind.u8.wrap (IntKind.i64.wrap ((48:Int)+(Int.tmod v2 10))))].map fun n=>UInt8.ofNat n.toNat)++v3)))
 else
  some (.inr (zjR v3))
noncomputable def zaG (a0:Int):Option (List UInt8):=
 if(decide (a0≤0))then
  some ([109,48]:List UInt8)
 else
  zak (fun s:Int × List UInt8=>zbG s.1 s.2) (a0,([]:List UInt8))
noncomputable def zbY (v1:Int) (v2:Int) (v3:List (List UInt8)):Option ((Int × Int × List (List UInt8)) ⊕ Option (Int × List (List UInt8))):=
 if(decide (v2<(v3.length:Int)))then
  (zaG v1).bind fun v4=>
  (zaA v3 v2).bind fun y5=>
  some (.inl ((IntKind.i64.wrap (v1+1)),(IntKind.i64.wrap (v2+1)),(v3.set (v2).toNat v4)))
 else
  some (.inr (some (v1,v3)))
noncomputable def zcQ (a0:List (List UInt8)) (a1:Int):Option (Int × List (List UInt8)):=
 zak (fun s:Int × Int × List (List UInt8)=>zbY s.1 s.2.1 s.2.2) (a1,0,a0)
noncomputable def zcU (v1:Int) (v2:Int) (v3:List zbK):Option ((Int × Int × List zbK) ⊕ Option (Int × List zbK)):=
 if(decide (v2<(v3.length:Int)))then
  (zaG v1).bind fun v4=>
  (zaA v3 v2).bind fun y5=>
  some (.inl ((IntKind.i64.wrap ((IntKind.i64.wrap ((IntKind.i64.wrap (v1+1))+1))+1)),(IntKind.i64.wrap (v2+1)),(((v3.set (v2).toNat {y5 with fName:=v4}).set (v2).toNat {{y5 with fName:=v4}with fCol:=(IntKind.i64.wrap (v1+1))}).set (v2).toNat {{{y5 with fName:=v4}with fCol:=(IntKind.i64.wrap (v1+1))}with fStage:=(IntKind.i64.wrap ((IntKind.i64.wrap (v1+1))+1))})))
 else
  some (.inr (some (v1,v3)))
noncomputable def zjA (a0:List zbK) (a1:Int):Option (Int × List zbK):=
 zak (fun s:Int × Int × List zbK=>zcU s.1 s.2.1 s.2.2) (a1,0,a0)
noncomputable def zch (v1:Int) (v2:Int) (v3:List zab):Option ((Int × Int × List zab) ⊕ Option (Int × List zab)):=
 if(decide (v2<(v3.length:Int)))then
  (zaG v1).bind fun v4=>
  (zaA v3 v2).bind fun y5=>
  (zcQ ({y5 with fName:=v4}.fCols) (IntKind.i64.wrap (v1+1))).bind fun v6=>
  (zjA ({{y5 with fName:=v4}with fCols:=v6.2}.fIdxs) v6.1).bind fun v7=>
  some (.inl (v7.1,(IntKind.i64.wrap (v2+1)),(((v3.set (v2).toNat {y5 with fName:=v4}).set (v2).toNat {{y5 with fName:=v4}with fCols:=v6.2}).set (v2).toNat {{{y5 with fName:=v4}with fCols:=v6.2}with fIdxs:=v7.2})))
 else
  some (.inr (some (v1,v3)))
noncomputable def zhH (a0:List zab) (a1:Int):Option (Int × List zab):=
 zak (fun s:Int × Int × List zab=>zch s.1 s.2.1 s.2.2) (a1,0,a0)
noncomputable def zcR (v1:Int) (v2:Int) (v3:List Int):Option ((Int × Int × List Int) ⊕ Option (Int × List Int)):=
 if(decide (v2<(v3.length:Int)))then
  (zaA v3 v2).bind fun y4=>
  some (.inl ((IntKind.i64.wrap (v1+1)),(IntKind.i64.wrap (v2+1)),(v3.set (v2).toNat v1)))
 else
  some (.inr (some (v1,v3)))
noncomputable def zjq (a0:List Int) (a1:Int):Option (Int × List Int):=
 zak (fun s:Int × Int × List Int=>zcR s.1 s.2.1 s.2.2) (a1,0,a0)
noncomputable def zce (v1:Int) (v2:Int) (v3:List zaa):Option ((Int × Int × List zaa) ⊕ Option (Int × List zaa)):=
 if(decide (v2<(v3.length:Int)))then
  (zaG v1).bind fun v4=>
  (zaA v3 v2).bind fun y5=>
  (zaG (IntKind.i64.wrap (v1+1))).bind fun v6=>
  some (.inl ((IntKind.i64.wrap ((IntKind.i64.wrap ((IntKind.i64.wrap (v1+1))+1))+1)),(IntKind.i64.wrap (v2+1)),(((v3.set (v2).toNat {y5 with fKey:=v4}).set (v2).toNat {{y5 with fKey:=v4}with fVal:=v6}).set (v2).toNat {{{y5 with fKey:=v4}with fVal:=v6}with fGone:=((Int.tmod (IntKind.i64.wrap ((IntKind.i64.wrap (v1+1))+1)) 3)==0)})))
 else
  some (.inr (some (v1,v3)))
noncomputable def zhw (a0:List zaa) (a1:Int):Option (Int × List zaa):=
 zak (fun s:Int × Int × List zaa=>zce s.1 s.2.1 s.2.2) (a1,0,a0)
noncomputable def zc3 (a0:zaf) (a1:Int):Option (Int × zaf):=
 (zhH a0.fWays a1).bind fun v1=>
 (zjq a0.fAt v1.1).bind fun v2=>
 (zhw a0.fStore v2.1).bind fun v3=>
 some (v3.1,(⟨a0.fName,v1.2,v2.2,v3.2⟩:zaf))
noncomputable def zfX (a0:zdC) (a1:Int):Option (Int × zdC):=
 (zcQ a0.fVals a1).bind fun v1=>
 some (v1.1,(⟨v1.2⟩:zdC))
noncomputable def zfL (a0:zat) (a1:Int):Option (Int × zat):=
 (zfX a0.fOld a1).bind fun v1=>
 (zfX a0.fNew v1.1).bind fun v2=>
 some (v2.1,(⟨a0.fKind,v1.2,v2.2⟩:zat))
noncomputable def zeG (a0:zad) (a1:Int):Option (Int × zad):=
 (zfL a0.fAct a1).bind fun v1=>
 some (v1.1,(⟨a0.fServer,a0.fStep,(⟨a0.fAct.fKind,v1.2.fOld,v1.2.fNew⟩:zat)⟩:zad))
noncomputable def zb3 (a0:List (List UInt8)) (v1:Int) (v2:Int):Option ((Int × Int) ⊕ Option (Int)):=
 if(decide (v2<(a0.length:Int)))then
  (zaA a0 v2).bind fun y3=>
  (zaG v1).bind fun v4=>
  if(y3 !=v4)then
   some (.inr (some (-1)))
  else
   some (.inl ((IntKind.i64.wrap (v1+1)),(IntKind.i64.wrap (v2+1))))
 else
  some (.inr (some v1))
noncomputable def zgW (a0:List (List UInt8)) (a1:Int):Option (Int):=
 zak (fun s:Int × Int=>zb3 a0 s.1 s.2) (a1,0)
noncomputable def zcX (a0:List zbK) (v1:Int) (v2:Int):Option ((Int × Int) ⊕ Option (Int)):=
 if(decide (v2<(a0.length:Int)))then
  (zaA a0 v2).bind fun y3=>
  (zaG v1).bind fun v4=>
  if(y3.fName !=v4)then
   some (.inr (some (-1)))
  else
   if(y3.fCol !=(IntKind.i64.wrap (v1+1)))then
    some (.inr (some (-1)))
   else
    if(y3.fStage !=(IntKind.i64.wrap ((IntKind.i64.wrap (v1+1))+1)))then
     some (.inr (some (-1)))
    else
     some (.inl ((IntKind.i64.wrap ((IntKind.i64.wrap ((IntKind.i64.wrap (v1+1))+1))+1)),(IntKind.i64.wrap (v2+1))))
 else
  some (.inr (some v1))
noncomputable def zjH (a0:List zbK) (a1:Int):Option (Int):=
 zak (fun s:Int × Int=>zcX a0 s.1 s.2) (a1,0)
noncomputable def zcg (a0:List zab) (v1:Int) (v2:Int):Option ((Int × Int) ⊕ Option (Int)):=
 if(decide (v2<(a0.length:Int)))then
  (zaA a0 v2).bind fun y3=>
  (zaG v1).bind fun v4=>
  if(y3.fName !=v4)then
   some (.inr (some (-1)))
  else
   (zgW y3.fCols (IntKind.i64.wrap (v1+1))).bind fun v5=>
   if(decide (v5<0))then
    some (.inr (some (-1)))
   else
    (zjH y3.fIdxs v5).bind fun v6=>
    if(decide (v6<0))then
     some (.inr (some (-1)))
    else
     some (.inl (v6,(IntKind.i64.wrap (v2+1))))
 else
  some (.inr (some v1))
noncomputable def zhp (a0:List zab) (a1:Int):Option (Int):=
 zak (fun s:Int × Int=>zcg a0 s.1 s.2) (a1,0)
noncomputable def zc0 (a0:List Int) (v1:Int) (v2:Int):Option ((Int × Int) ⊕ Option (Int)):=
 if(decide (v2<(a0.length:Int)))then
  (zaA a0 v2).bind fun y3=>
  if(y3 !=v1)then
   some (.inr (some (-1)))
  else
   some (.inl ((IntKind.i64.wrap (v1+1)),(IntKind.i64.wrap (v2+1))))
 else
  some (.inr (some v1))
noncomputable def zjG (a0:List Int) (a1:Int):Option (Int):=
 zak (fun s:Int × Int=>zc0 a0 s.1 s.2) (a1,0)
noncomputable def zcf (a0:List zaa) (v1:Int) (v2:Int):Option ((Int × Int) ⊕ Option (Int)):=
 if(decide (v2<(a0.length:Int)))then
  (zaA a0 v2).bind fun y3=>
  (zaG v1).bind fun v4=>
  if(y3.fKey !=v4)then
   some (.inr (some (-1)))
  else
   (zaG (IntKind.i64.wrap (v1+1))).bind fun v5=>
   if(y3.fVal !=v5)then
    some (.inr (some (-1)))
   else
    if(y3.fGone !=((Int.tmod (IntKind.i64.wrap ((IntKind.i64.wrap (v1+1))+1)) 3)==0))then
     some (.inr (some (-1)))
    else
     some (.inl ((IntKind.i64.wrap ((IntKind.i64.wrap ((IntKind.i64.wrap (v1+1))+1))+1)),(IntKind.i64.wrap (v2+1))))
 else
  some (.inr (some v1))
noncomputable def zhI (a0:List zaa) (a1:Int):Option (Int):=
 zak (fun s:Int × Int=>zcf a0 s.1 s.2) (a1,0)
noncomputable def zc6 (a0:zaf) (a1:Int):Option (Int):=
 (zhp a0.fWays a1).bind fun v1=>
 if(decide (v1<0))then
  some (-1)
 else
  (zjG a0.fAt v1).bind fun v2=>
  if(decide (v2<0))then
   some (-1)
  else
   (zhI a0.fStore v2).bind fun v3=>
   if(decide (v3<0))then
    some (-1)
   else
    some v3
noncomputable def zde (a0:zaf) (a1:zad):Option (Bool):=
 (ze9 a0 1048576).bind fun v1=>
 if(decide (v1<0))then
  some true
 else
  (zds a1 v1).bind fun v2=>
  if(decide (v2<0))then
   some true
  else
   (za4 a0).bind fun v3=>
   (za2 a1).bind fun v4=>
   (zf4 v3 v4).bind fun v5=>
   (za4 a0).bind fun v6=>
   (za2 a1).bind fun v7=>
   (zeX v6 v7).bind fun v8=>
   (zbu v8.1 v5.1).bind fun v9=>
   if(((!v9)||(v8.2.1 !=v5.2.1))||(v8.2.2 !=v5.2.2))then
    some false
   else
    (za4 a0).bind fun v10=>
    (zbu v6 v10).bind fun v11=>
    if(!v11)then
     some false
    else
     (za2 a1).bind fun v12=>
     (zdm v7 v12).bind fun v13=>
     if(!v13)then
      some false
     else
      (zc3 v6 1).bind fun v14=>
      (zeG v7 v14.1).bind fun v15=>
      if(decide (v15.1<0))then
       some false
      else
       (zbu v8.1 v5.1).bind fun v16=>
       if(((!v16)||(v8.2.1 !=v5.2.1))||(v8.2.2 !=v5.2.2))then
        some false
       else
        (zc3 v8.1 1).bind fun v17=>
        (zc6 (⟨v8.1.fName,v17.2.fWays,v17.2.fAt,v17.2.fStore⟩:zaf) 1).bind fun v18=>
        if(decide (v18<0))then
         some false
        else
         if(v18 !=v17.1)then
          some false
         else
          (za4 a0).bind fun v19=>
          (za2 a1).bind fun v20=>
          (zeX v19 v20).bind fun v21=>
          (zbu v21.1 v5.1).bind fun v22=>
          if(((!v22)||(v21.2.1 !=v5.2.1))||(v21.2.2 !=v5.2.2))then
           some false
          else
           (zc6 (⟨v8.1.fName,v17.2.fWays,v17.2.fAt,v17.2.fStore⟩:zaf) 1).bind fun v23=>
           if(decide (v23<0))then
            some false
           else
            if(v23 !=v17.1)then
             some false
            else
             some true
noncomputable def zgK (v1:Int):Option ((Int) ⊕ Option (Bool)):=
 some (.inl (IntKind.i64.wrap (v1+1)))
noncomputable def zcd (a0:List Int) (v1:Int) (y2:Int) (v3:Int):Option ((Int) ⊕ Option ((Int) ⊕ Option (Bool))):=
 if(decide (v3<(a0.length:Int)))then
  (zaA a0 v3).bind fun y4=>
  if(decide ((IntKind.i64.wrap (y2-y4))>1))then
   some (.inr (some (.inr (some false))))
  else
   some (.inl (IntKind.i64.wrap (v3+1)))
 else
  some (.inr (zgK v1))
noncomputable def zcY (a0:List Int) (v1:Int):Option ((Int) ⊕ Option (Bool)):=
 if(decide (v1<(a0.length:Int)))then
  (zaA a0 v1).bind fun y2=>
  zak (fun s:Int=>zcd a0 v1 y2 s) 0
 else
  some (.inr (some true))
noncomputable def zg4 (a0:List Int):Option (Bool):=
 zak (fun s:Int=>zcY a0 s) 0
noncomputable def zcu (a0:zaf) (v1:List Int) (v2:Int):Option ((List Int × Int) ⊕ Option (List Int)):=
 if(decide (v2<(a0.fAt.length:Int)))then
  (zaA a0.fAt v2).bind fun y3=>
  (zaA a0.fWays y3).bind fun y4=>
  (zbx y4 a0.fName).bind fun v5=>
  (zaA y4.fIdxs v5).bind fun y6=>
  req ((((v1).length:Int)+(([y6.fStage]:List Int).length:Int))*8≤140737488355328∧((v1).length:Int)+(([y6.fStage]:List Int).length:Int)≤140737488355328)<|
  some (.inl ((v1++ [y6.fStage]),(IntKind.i64.wrap (v2+1))))
 else
  some (.inr (some v1))
noncomputable def zgf (a0:zaf):Option (List Int):=
 zak (fun s:List Int × Int=>zcu a0 s.1 s.2) ([],0)
noncomputable def zen (a0:List Int) (a1:Int) (v1:Int):Option ((Int) ⊕ Option (Bool)):=
 if(decide (v1<(a0.length:Int)))then
  (zaA a0 v1).bind fun y2=>
  if(y2==a1)then
   some (.inr (some true))
  else
   some (.inl (IntKind.i64.wrap (v1+1)))
 else
  some (.inr (some false))
noncomputable def zip (a0:List Int) (a1:Int):Option (Bool):=
 zak (fun s:Int=>zen a0 a1 s) 0
noncomputable def zh4 (a0:zaf):Option (Int):=
 (zgf a0).bind fun v1=>
 (zip v1 3).bind fun v2=>
 if v2 then
  some 2
 else
  (zip v1 0).bind fun v3=>
  if v3 then
   some 0
  else
   some 1
noncomputable def zhs (a0:List UInt8) (v1:Int) (v2:List (List UInt8)):Option (List (List UInt8)):=
 req (0≤v1∧v1≤(a0.length:Int)∧(a0.length:Int)≤(a0.length:Int))<|
 req ((((v2).length:Int)+(([(zfV a0 v1 (a0.length:Int))]:List (List UInt8)).length:Int))*16≤140737488355328∧((v2).length:Int)+(([(zfV a0 v1 (a0.length:Int))]:List (List UInt8)).length:Int)≤140737488355328)<|
 some (v2++ [(zfV a0 v1 (a0.length:Int))])
noncomputable def zdp (a0:List UInt8) (a1:Int) (v3:List (List UInt8)) (v4:Int) (v5:Int):Option ((List (List UInt8) × Int × Int) ⊕ Option (List (List UInt8))):=
 if(decide (v5<(a0.length:Int)))then
  (zaA a0 v5).bind fun y6=>
  if((y6.toNat:Int)==a1)then
   req (0≤v4∧v4≤v5∧v5≤(a0.length:Int))<|
   req ((((v3).length:Int)+(([(zfV a0 v4 v5)]:List (List UInt8)).length:Int))*16≤140737488355328∧((v3).length:Int)+(([(zfV a0 v4 v5)]:List (List UInt8)).length:Int)≤140737488355328)<|
   some (.inl ((v3++ [(zfV a0 v4 v5)]),(IntKind.i64.wrap (v5+1)),(IntKind.i64.wrap (v5+1))))
  else
   some (.inl (v3,v4,(IntKind.i64.wrap (v5+1))))
 else
  some (.inr (zhs a0 v4 v3))
noncomputable def zd6 (a0:List UInt8) (a1:Int):Option (List (List UInt8)):=
 zak (fun s:List (List UInt8) × Int × Int=>zdp a0 a1 s.1 s.2.1 s.2.2) ([],0,0)
noncomputable def zeK (a0:zab) (a1:List UInt8) (a2:List UInt8):Option (List UInt8 × List UInt8 × Bool):=
 (zd6 a2 47).bind fun v1=>
 if((v1.length:Int) !=3)then
  some (([]:List UInt8),([]:List UInt8),false)
 else
  (zaA v1 0).bind fun y2=>
  req ((a0.fName).length+(([46]:List UInt8)).length≤9223372036854775807)<|
  req (((a0.fName++([46]:List UInt8))).length+(a1).length≤9223372036854775807)<|
  if(y2 !=((a0.fName++([46]:List UInt8))++a1))then
   some (([]:List UInt8),([]:List UInt8),false)
  else
   (zaA v1 1).bind fun y3=>
   (zeo y3).bind fun v4=>
   if v4 then
    (zaA v1 2).bind fun y5=>
    (zeo y5).bind fun v6=>
    if(!v6)then
     some (([]:List UInt8),([]:List UInt8),false)
    else
     some (y3,y5,true)
   else
    some (([]:List UInt8),([]:List UInt8),false)
noncomputable def zci (a0:zab) (a1:List UInt8) (a2:List zaa) (v1:List (List UInt8)) (v2:Int):Option ((List (List UInt8) × Int) ⊕ Option (List (List UInt8))):=
 if(decide (v2<(a2.length:Int)))then
  (zaA a2 v2).bind fun y3=>
  (zeK a0 a1 y3.fKey).bind fun v4=>
  if v4.2.2 then
   req ((((v1).length:Int)+(([y3.fKey]:List (List UInt8)).length:Int))*16≤140737488355328∧((v1).length:Int)+(([y3.fKey]:List (List UInt8)).length:Int)≤140737488355328)<|
   some (.inl ((v1++ [y3.fKey]),(IntKind.i64.wrap (v2+1))))
  else
   some (.inl (v1,(IntKind.i64.wrap (v2+1))))
 else
  some (.inr (some v1))
noncomputable def zep (a0:zab) (a1:List UInt8) (a2:List zaa):Option (List (List UInt8)):=
 zak (fun s:List (List UInt8) × Int=>zci a0 a1 a2 s.1 s.2) ([],0)
noncomputable def zdA (a0:zab) (a1:List UInt8) (a2:List zaa):Option (Bool):=
 (zcl a0).bind fun v1=>
 if v1 then
  (zbx a0 a1).bind fun v2=>
  if(decide (v2≥0))then
   (zdc a2).bind fun v3=>
   some v3
  else
   some false
 else
  some false
noncomputable def zhP (a0:zab) (a1:zaa):Option (zdC × Bool):=
 if(decide ((a1.fKey.length:Int)<3))then
  some ((⟨[]⟩:zdC),false)
 else
  req (0≤(2:Int)∧(2:Int)≤(a1.fKey.length:Int)∧(a1.fKey.length:Int)≤(a1.fKey.length:Int))<|
  (zd6 a1.fVal 44).bind fun v1=>
  req (((([(zfV a1.fKey 2 (a1.fKey.length:Int))]:List (List UInt8)).length:Int)+((v1).length:Int))*16≤140737488355328∧(([(zfV a1.fKey 2 (a1.fKey.length:Int))]:List (List UInt8)).length:Int)+((v1).length:Int)≤140737488355328)<|
  (zdj a0 (⟨([(zfV a1.fKey 2 (a1.fKey.length:Int))]++v1)⟩:zdC)).bind fun v2=>
  if v2 then
   (zdw a0 (⟨([(zfV a1.fKey 2 (a1.fKey.length:Int))]++v1)⟩:zdC)).bind fun v3=>
   some ((⟨([(zfV a1.fKey 2 (a1.fKey.length:Int))]++v1)⟩:zdC),(v3.fKey==a1.fKey&&(v3.fVal==a1.fVal&&(v3.fGone==a1.fGone))))
  else
   some ((⟨([(zfV a1.fKey 2 (a1.fKey.length:Int))]++v1)⟩:zdC),false)
noncomputable def zdo (a0:zab) (a1:List zaa) (v1:List zdC) (v2:Int):Option ((List zdC × Int) ⊕ Option (List zdC)):=
 if(decide (v2<(a1.length:Int)))then
  (zaA a1 v2).bind fun y3=>
  (zhP a0 y3).bind fun v4=>
  if v4.2 then
   req ((((v1).length:Int)+(([v4.1]:List zdC).length:Int))*24≤140737488355328∧((v1).length:Int)+(([v4.1]:List zdC).length:Int)≤140737488355328)<|
   some (.inl ((v1++ [v4.1]),(IntKind.i64.wrap (v2+1))))
  else
   some (.inl (v1,(IntKind.i64.wrap (v2+1))))
 else
  some (.inr (some v1))
noncomputable def zj0 (a0:zab) (a1:List zaa):Option (List zdC):=
 zak (fun s:List zdC × Int=>zdo a0 a1 s.1 s.2) ([],0)
noncomputable def zcy (a0:zab) (a1:List UInt8) (v1:List zdC) (v2:List (List UInt8)) (v3:Int):Option ((List (List UInt8) × Int) ⊕ Option (List (List UInt8))):=
 if(decide (v3<(v1.length:Int)))then
  (zaA v1 v3).bind fun y4=>
  (zbx a0 a1).bind fun v5=>
  (zaA a0.fIdxs v5).bind fun y6=>
  (zes a0 y6 y4).bind fun v7=>
  req ((((v2).length:Int)+(([v7]:List (List UInt8)).length:Int))*16≤140737488355328∧((v2).length:Int)+(([v7]:List (List UInt8)).length:Int)≤140737488355328)<|
  some (.inl ((v2++ [v7]),(IntKind.i64.wrap (v3+1))))
 else
  some (.inr (some v2))
noncomputable def zeV (a0:zab) (a1:List UInt8) (a2:List zaa):Option (List (List UInt8)):=
 (zj0 a0 a2).bind fun v1=>
 zak (fun s:List (List UInt8) × Int=>zcy a0 a1 v1 s.1 s.2) ([],0)
noncomputable def zdq (a0:List (List UInt8)) (a1:List (List UInt8)) (v1:List (List UInt8)) (v2:Int):Option ((List (List UInt8) × Int) ⊕ Option (List (List UInt8))):=
 if(decide (v2<(a0.length:Int)))then
  (zaA a0 v2).bind fun y3=>
  (zib a1 y3).bind fun v4=>
  if(decide (v4<0))then
   req ((((v1).length:Int)+(([y3]:List (List UInt8)).length:Int))*16≤140737488355328∧((v1).length:Int)+(([y3]:List (List UInt8)).length:Int)≤140737488355328)<|
   some (.inl ((v1++ [y3]),(IntKind.i64.wrap (v2+1))))
  else
   some (.inl (v1,(IntKind.i64.wrap (v2+1))))
 else
  some (.inr (some v1))
noncomputable def zh2 (a0:List (List UInt8)) (a1:List (List UInt8)):Option (List (List UInt8)):=
 zak (fun s:List (List UInt8) × Int=>zdq a0 a1 s.1 s.2) ([],0)
noncomputable def ziL (a0:zab) (a1:List UInt8) (a2:List zaa):Option (List (List UInt8) × Bool):=
 (zdA a0 a1 a2).bind fun v1=>
 if(!v1)then
  some ([],false)
 else
  (zep a0 a1 a2).bind fun v2=>
  (zeV a0 a1 a2).bind fun v3=>
  (zh2 v2 v3).bind fun v4=>
  some (v4,true)
noncomputable def zjZ (a0:zab) (a1:List UInt8) (a2:List zaa):Option (List (List UInt8) × Bool):=
 (zdA a0 a1 a2).bind fun v1=>
 if(!v1)then
  some ([],false)
 else
  (zeV a0 a1 a2).bind fun v2=>
  (zep a0 a1 a2).bind fun v3=>
  (zh2 v2 v3).bind fun v4=>
  some (v4,true)
noncomputable def zgF (a0:zab) (a1:List UInt8) (a2:Int) (a3:List zaa):Option (Bool):=
 if(a2==0)then
  (zep a0 a1 a3).bind fun v1=>
  some ((v1.length:Int)==0)
 else
  (ziL a0 a1 a3).bind fun v2=>
  (zjZ a0 a1 a3).bind fun v3=>
  some (((v2.1.length:Int)==0)&&((a2==1)||((v3.1.length:Int)==0)))
noncomputable def zhM (a0:zaf):Option (Bool):=
 (zaA a0.fWays 0).bind fun y1=>
 (zh4 a0).bind fun v2=>
 (zgF y1 a0.fName v2 a0.fStore).bind fun v3=>
 some v3
noncomputable def zg6 (a0:zaf) (a1:zad):Option (Bool):=
 (zeB a0 a1).bind fun v1=>
 if v1.2 then
  (zg4 v1.1.fAt).bind fun v2=>
  if v2 then
   (zhM v1.1).bind fun v3=>
   some v3
  else
   some false
 else
  some false
noncomputable def zhQ (a0:zaf) (a1:zad):Option (Bool × Bool):=
 (zdy a0 a1).bind fun v1=>
 if((!v1)||(a1.fStep==0))then
  some (false,false)
 else
  (zg6 a0 a1).bind fun v2=>
  some (v2,true)
noncomputable def zaN (a0:List Int) (v2:Int) (v3:Int):Option ((Int × Int) ⊕ Option (Int)):=
 if(decide (v3<(a0.length:Int)))then
  (zaA a0 v3).bind fun y4=>
  some (.inl ((bif (decide (y4>v2))then y4 else v2),(IntKind.i64.wrap (v3+1))))
 else
  some (.inr (some v2))
noncomputable def zdd (a0:List Int):Option (Int):=
 if(decide ((a0.length:Int)<1))then
  none
 else
  (zaA a0 0).bind fun y1=>
  zak (fun s:Int × Int=>zaN a0 s.1 s.2) (y1,1)
noncomputable def zaM (a0:List Int) (v2:Int) (v3:Int):Option ((Int × Int) ⊕ Option (Int)):=
 if(decide (v3<(a0.length:Int)))then
  (zaA a0 v3).bind fun y4=>
  some (.inl ((bif (decide (y4<v2))then y4 else v2),(IntKind.i64.wrap (v3+1))))
 else
  some (.inr (some v2))
noncomputable def zdi (a0:List Int):Option (Int):=
 if(decide ((a0.length:Int)<1))then
  none
 else
  (zaA a0 0).bind fun y1=>
  zak (fun s:Int × Int=>zaM a0 s.1 s.2) (y1,1)
noncomputable def zdb (a0:zaf):Option (Bool):=
 (zdd a0.fAt).bind fun v1=>
 (zdi a0.fAt).bind fun v2=>
 some (decide ((IntKind.i64.wrap (v1-v2))≤1))
noncomputable def zbL (a0:zaf) (v1:Int) (v2:Int):Option ((Int × Int) ⊕ Option (Int)):=
 if(decide (v2<(a0.fAt.length:Int)))then
  (zaJ a0 v2).bind fun v3=>
  (zbH a0 v3).bind fun v4=>
  if(v4==3)then
   some (.inr (some 2))
  else
   if(v4==0)then
    some (.inl (0,(IntKind.i64.wrap (v2+1))))
   else
    some (.inl (v1,(IntKind.i64.wrap (v2+1))))
 else
  some (.inr (some v1))
noncomputable def zeJ (a0:zaf):Option (Int):=
 zak (fun s:Int × Int=>zbL a0 s.1 s.2) (1,0)
noncomputable def zbq (a0:List UInt8) (a1:List UInt8):Option (Bool):=
 if(decide ((a0.length:Int)≥(a1.length:Int)))then
  req (0≤(0:Int)∧(0:Int)≤(a1.length:Int)∧(a1.length:Int)≤(a0.length:Int))<|
  some ((zfV a0 0 (a1.length:Int))==a1)
 else
  some false
noncomputable def zcm (a0:List UInt8) (a1:List UInt8):Option (List UInt8 × Bool):=
 (zbq a0 a1).bind fun v1=>
 if(!v1)then
  some (a0,false)
 else
  req (0≤(a1.length:Int)∧(a1.length:Int)≤(a0.length:Int)∧(a0.length:Int)≤(a0.length:Int))<|
  some ((zfV a0 (a1.length:Int) (a0.length:Int)),true)
noncomputable def zdD (a0:List UInt8) (a1:List UInt8):Option (List UInt8 × Bool):=
 (zcm a0 a1).bind fun v1=>
 some (v1.1,v1.2)
noncomputable def zcn (a0:List UInt8) (a1:List UInt8):Option (List UInt8 × List UInt8 × Bool):=
 (zaX a0 a1).bind fun v1=>
 if(decide (v1≥0))then
  req (0≤(0:Int)∧(0:Int)≤v1∧v1≤(a0.length:Int))<|
  req (0≤(IntKind.i64.wrap (v1+(a1.length:Int)))∧(IntKind.i64.wrap (v1+(a1.length:Int)))≤(a0.length:Int)∧(a0.length:Int)≤(a0.length:Int))<|
  some ((zfV a0 0 v1),(zfV a0 (IntKind.i64.wrap (v1+(a1.length:Int))) (a0.length:Int)),true)
 else
  some (a0,([]:List UInt8),false)
noncomputable def zfD (a0:List UInt8) (a1:List UInt8):Option (List UInt8 × List UInt8 × Bool):=
 (zcn a0 a1).bind fun v1=>
 some (v1.1,v1.2.1,v1.2.2)
noncomputable def zcA (a0:zab) (a1:List UInt8) (a2:List UInt8):Option (List UInt8 × List UInt8 × Bool):=
 (zcp a0 a1).bind fun v1=>
 (zdD a2 v1).bind fun v2=>
 (zfD v2.1 ([47]:List UInt8)).bind fun v3=>
 if v2.2 then
  if v3.2.2 then
   (ze2 v3.1).bind fun v4=>
   if v4 then
    (ze2 v3.2.1).bind fun v5=>
    if(!v5)then
     some (([]:List UInt8),([]:List UInt8),false)
    else
     some (v3.1,v3.2.1,true)
   else
    some (([]:List UInt8),([]:List UInt8),false)
  else
   some (([]:List UInt8),([]:List UInt8),false)
 else
  some (([]:List UInt8),([]:List UInt8),false)
noncomputable def za3 (a0:zab) (a1:List UInt8) (a2:List zaa) (v1:Int) (v2:List (List UInt8)):Option ((Int × List (List UInt8)) ⊕ Option (List (List UInt8))):=
 if(decide (v1<(a2.length:Int)))then
  (zaA a2 v1).bind fun y3=>
  (zcA a0 a1 y3.fKey).bind fun v4=>
  if v4.2.2 then
   req ((((v2).length:Int)+(([y3.fKey]:List (List UInt8)).length:Int))*16≤140737488355328∧((v2).length:Int)+(([y3.fKey]:List (List UInt8)).length:Int)≤140737488355328)<|
   some (.inl ((IntKind.i64.wrap (v1+1)),(v2++ [y3.fKey])))
  else
   some (.inl ((IntKind.i64.wrap (v1+1)),v2))
 else
  some (.inr (some v2))
noncomputable def zb5 (a0:zab) (a1:List UInt8) (a2:List zaa):Option (List (List UInt8)):=
 zak (fun s:Int × List (List UInt8)=>za3 a0 a1 a2 s.1 s.2) (0, [])
noncomputable def zgQ (a0:List UInt8) (a1:List UInt8):Option (Int):=
 (zaX a0 a1).bind fun v1=>
 some v1
noncomputable def zfu (v3:List UInt8) (v4:Int) (v5:List (List UInt8)):Option (List (List UInt8)):=
 (zaA v5 v4).bind fun y6=>
 req (0≤(0:Int)∧(0:Int)≤(IntKind.i64.wrap (v4+1))∧(IntKind.i64.wrap (v4+1))≤((v5.set (v4).toNat v3).length:Int))<|
 some (zfV (v5.set (v4).toNat v3) 0 (IntKind.i64.wrap (v4+1)))
noncomputable def zb1 (a0:List UInt8) (a1:List UInt8) (a2:Int) (v2:Int) (v7:List UInt8) (v8:Int) (v9:List (List UInt8)):Option ((List UInt8 × Int × List (List UInt8)) ⊕ Option (List (List UInt8))):=
 if(decide (v8<(IntKind.i64.wrap ((bif (decide ((IntKind.i64.wrap ((a0.length:Int)+1))<v2))then(IntKind.i64.wrap ((a0.length:Int)+1))else v2)-1))))then
  (zgQ v7 a1).bind fun v10=>
  if(decide (v10<0))then
   some (.inr (zfu v7 v8 v9))
  else
   req (0≤(0:Int)∧(0:Int)≤(IntKind.i64.wrap (v10+a2))∧(IntKind.i64.wrap (v10+a2))≤(v7.length:Int))<|
   (zaA v9 v8).bind fun y11=>
   req (0≤(IntKind.i64.wrap (v10+(a1.length:Int)))∧(IntKind.i64.wrap (v10+(a1.length:Int)))≤(v7.length:Int)∧(v7.length:Int)≤(v7.length:Int))<|
   some (.inl ((zfV v7 (IntKind.i64.wrap (v10+(a1.length:Int))) (v7.length:Int)),(IntKind.i64.wrap (v8+1)),(v9.set (v8).toNat (zfV v7 0 (IntKind.i64.wrap (v10+a2))))))
 else
  some (.inr (zfu v7 v8 v9))
noncomputable def zfx (a0:List UInt8) (a1:List UInt8) (a2:Int) (v2:Int):Option (List (List UInt8)):=
 req (0≤(bif (decide ((IntKind.i64.wrap ((a0.length:Int)+1))<v2))then(IntKind.i64.wrap ((a0.length:Int)+1))else v2)∧(bif (decide ((IntKind.i64.wrap ((a0.length:Int)+1))<v2))then(IntKind.i64.wrap ((a0.length:Int)+1))else v2)*16≤140737488355328∧(bif (decide ((IntKind.i64.wrap ((a0.length:Int)+1))<v2))then(IntKind.i64.wrap ((a0.length:Int)+1))else v2)≤140737488355328)<|
 zak (fun s:List UInt8 × Int × List (List UInt8)=>zb1 a0 a1 a2 v2 s.1 s.2.1 s.2.2) (a0,0,(List.replicate ((bif (decide ((IntKind.i64.wrap ((a0.length:Int)+1))<v2))then(IntKind.i64.wrap ((a0.length:Int)+1))else v2)).toNat ([]:List UInt8)))
noncomputable def zgZ (a0:List UInt8) (a1:List UInt8) (a2:Int) (a3:Int):Option (List (List UInt8)):=
 if(a3==0)then
  some []
 else
  if(a1==([]:List UInt8))then
   (zhC a0 a3).bind fun v1=>
   some v1
  else
   if(decide (a3<0))then
    (zgC a0 a1).bind fun v12=>
    zfx a0 a1 a2 (IntKind.i64.wrap (v12+1))
   else
    zfx a0 a1 a2 a3
noncomputable def zfA (a0:List UInt8) (a1:List UInt8):Option (List (List UInt8)):=
 (zgZ a0 a1 0 (-1)).bind fun v1=>
 some v1
noncomputable def zdG (a0:zab) (a1:zaa):Option (zdC × Bool):=
 req ((a0.fName).length+(([47]:List UInt8)).length≤9223372036854775807)<|
 (zdD a1.fKey (a0.fName++([47]:List UInt8))).bind fun v1=>
 (zfA a1.fVal ([44]:List UInt8)).bind fun v2=>
 req (((([v1.1]:List (List UInt8)).length:Int)+((v2).length:Int))*16≤140737488355328∧(([v1.1]:List (List UInt8)).length:Int)+((v2).length:Int)≤140737488355328)<|
 if v1.2 then
  (zbd a0 (⟨([v1.1]++v2)⟩:zdC)).bind fun v3=>
  if v3 then
   (zbv a0 (⟨([v1.1]++v2)⟩:zdC)).bind fun v4=>
   if(!(a1.fKey==v4.fKey&&(a1.fVal==v4.fVal&&(a1.fGone==v4.fGone))))then
    some ((⟨[]⟩:zdC),false)
   else
    some ((⟨([v1.1]++v2)⟩:zdC),true)
  else
   some ((⟨[]⟩:zdC),false)
 else
  some ((⟨[]⟩:zdC),false)
noncomputable def zbj (a0:zab) (a1:List zaa) (v1:Int) (v2:List zdC):Option ((Int × List zdC) ⊕ Option (List zdC)):=
 if(decide (v1<(a1.length:Int)))then
  (zaA a1 v1).bind fun y3=>
  (zdG a0 y3).bind fun v4=>
  if v4.2 then
   req ((((v2).length:Int)+(([v4.1]:List zdC).length:Int))*24≤140737488355328∧((v2).length:Int)+(([v4.1]:List zdC).length:Int)≤140737488355328)<|
   some (.inl ((IntKind.i64.wrap (v1+1)),(v2++ [v4.1])))
  else
   some (.inl ((IntKind.i64.wrap (v1+1)),v2))
 else
  some (.inr (some v2))
noncomputable def zft (a0:zab) (a1:List zaa):Option (List zdC):=
 zak (fun s:Int × List zdC=>zbj a0 a1 s.1 s.2) (0, [])
noncomputable def zbk (a0:zab) (a1:List UInt8) (v1:List zdC) (v2:Int) (v3:List (List UInt8)):Option ((Int × List (List UInt8)) ⊕ Option (List (List UInt8))):=
 if(decide (v2<(v1.length:Int)))then
  (zaA v1 v2).bind fun y4=>
  (za6 a0 a1 y4).bind fun v5=>
  req ((((v3).length:Int)+(([v5]:List (List UInt8)).length:Int))*16≤140737488355328∧((v3).length:Int)+(([v5]:List (List UInt8)).length:Int)≤140737488355328)<|
  some (.inl ((IntKind.i64.wrap (v2+1)),(v3++ [v5])))
 else
  some (.inr (some v3))
noncomputable def zcE (a0:zab) (a1:List UInt8) (a2:List zaa):Option (List (List UInt8)):=
 (zft a0 a2).bind fun v1=>
 zak (fun s:Int × List (List UInt8)=>zbk a0 a1 v1 s.1 s.2) (0, [])
noncomputable def ziP (a0:List UInt8) (a1:List (List UInt8)):Option (Bool):=
 (zaL a1 a0).bind fun v1=>
 some v1
noncomputable def zf0 (a0:List (List UInt8)) (a1:List (List UInt8)):Option (List (List UInt8)):=
 (za0 a0).bind fun v1=>
 (zfs v1 (fun y0_=>ziP y0_ a1)).bind fun v2=>
 some v2
noncomputable def zcT (a0:zab) (a1:List UInt8) (a2:List zaa):Option (List (List UInt8)):=
 (zb5 a0 a1 a2).bind fun v1=>
 (zcE a0 a1 a2).bind fun v2=>
 (zf0 v1 v2).bind fun v3=>
 some v3
noncomputable def zfe (a0:zab) (a1:List UInt8) (a2:List zaa):Option (List (List UInt8)):=
 (zcE a0 a1 a2).bind fun v1=>
 (zb5 a0 a1 a2).bind fun v2=>
 (zf0 v1 v2).bind fun v3=>
 some v3
noncomputable def zdF (a0:zab) (a1:List UInt8) (a2:Int) (a3:List zaa):Option (Bool):=
 if(a2==0)then
  (zb5 a0 a1 a3).bind fun v1=>
  some ((v1.length:Int)==0)
 else
  if(a2==1)then
   (zcT a0 a1 a3).bind fun v2=>
   some ((v2.length:Int)==0)
  else
   (zcT a0 a1 a3).bind fun v3=>
   if((v3.length:Int)==0)then
    (zfe a0 a1 a3).bind fun v4=>
    some ((v4.length:Int)==0)
   else
    some false
noncomputable def zdV (a0:zaf):Option (Bool):=
 (zaA a0.fWays 0).bind fun y1=>
 (zeJ a0).bind fun v2=>
 (zdF y1 a0.fName v2 a0.fStore).bind fun v3=>
 some v3
noncomputable def zdW (a0:zaf) (a1:zad):Option (Bool):=
 (zbr a0 a1).bind fun v1=>
 if v1.2 then
  (zdb v1.1).bind fun v2=>
  if v2 then
   (zdV v1.1).bind fun v3=>
   some v3
  else
   some false
 else
  some false
noncomputable def zhS (a0:zaf) (a1:zad):Option (Bool × Bool):=
 (zdx a0 a1).bind fun v1=>
 if((!v1)||(a1.fStep==0))then
  some (false,false)
 else
  (zdW a0 a1).bind fun v2=>
  some (v2,true)
noncomputable def zdS (a0:zaf) (a1:zad):Option (Bool):=
 (ze9 a0 1048576).bind fun v1=>
 if(decide (v1<0))then
  some true
 else
  (zds a1 v1).bind fun v2=>
  if(decide (v2<0))then
   some true
  else
   (za4 a0).bind fun v3=>
   (za2 a1).bind fun v4=>
   (zhQ v3 v4).bind fun v5=>
   (za4 a0).bind fun v6=>
   (za2 a1).bind fun v7=>
   (zhS v6 v7).bind fun v8=>
   if((v8.1 !=v5.1)||(v8.2 !=v5.2))then
    some false
   else
    (za4 a0).bind fun v9=>
    (zbu v6 v9).bind fun v10=>
    if(!v10)then
     some false
    else
     (za2 a1).bind fun v11=>
     (zdm v7 v11).bind fun v12=>
     if(!v12)then
      some false
     else
      some true
noncomputable def zbZ (a0:List zad) (v1:Int) (v2:Int):Option ((Int × Int) ⊕ Option (Int)):=
 if(decide (v2<(a0.length:Int)))then
  (zaA a0 v2).bind fun y3=>
  (zds y3 v1).bind fun v4=>
  if(decide (v4<0))then
   some (.inr (some (-1)))
  else
   some (.inl (v4,(IntKind.i64.wrap (v2+1))))
 else
  some (.inr (some v1))
noncomputable def zfl (a0:List zad) (a1:Int):Option (Int):=
 if(decide ((IntKind.i64.wrap (a1-(a0.length:Int)))<0))then
  some (-1)
 else
  zak (fun s:Int × Int=>zbZ a0 s.1 s.2) ((IntKind.i64.wrap (a1-(a0.length:Int))),0)
noncomputable def zcL (a0:List zad) (v1:Int) (v2:List zad):Option ((Int × List zad) ⊕ Option (List zad)):=
 if(decide (v1<(a0.length:Int)))then
  (zaA a0 v1).bind fun y3=>
  (za2 y3).bind fun v4=>
  (zaA v2 v1).bind fun y5=>
  some (.inl ((IntKind.i64.wrap (v1+1)),(v2.set (v1).toNat v4)))
 else
  some (.inr (some v2))
noncomputable def zcb (a0:List zad):Option (List zad):=
 req (0≤(a0.length:Int)∧(a0.length:Int)*72≤140737488355328∧(a0.length:Int)≤140737488355328)<|
 zak (fun s:Int × List zad=>zcL a0 s.1 s.2) (0,(List.replicate ((a0.length:Int)).toNat (⟨0,0,(⟨0,(⟨[]⟩:zdC),(⟨[]⟩:zdC)⟩:zat)⟩:zad)))
noncomputable def zpc (a1:List zad) (a2:Bool) (v1:List Bool) (v2:Int) (v3:List UInt8) (v4:List zab) (v5:List Int) (v6:List zaa):Option ((List Bool × Int × List UInt8 × List zab × List Int × List zaa) ⊕ Option (zaf × List Bool)):=
 if(decide (v2<(a1.length:Int)))then
  (zaA a1 v2).bind fun y7=>
  (ze5 (⟨v3,v4,v5,v6⟩:zaf) y7).bind fun v8=>
  if a2 then
   if(y7.fStep==0)then
    if(v8&&true)then
     (zeB (⟨v3,v4,v5,v6⟩:zaf) y7).bind fun v9=>
     req ((((v1).length:Int)+(([v9.2]:List Bool).length:Int))*1≤140737488355328∧((v1).length:Int)+(([v9.2]:List Bool).length:Int)≤140737488355328)<|
     some (.inl ((v1++ [v9.2]),(IntKind.i64.wrap (v2+1)),v9.1.fName,v9.1.fWays,v9.1.fAt,v9.1.fStore))
    else
     req ((((v1).length:Int)+(([(v8&&true)]:List Bool).length:Int))*1≤140737488355328∧((v1).length:Int)+(([(v8&&true)]:List Bool).length:Int)≤140737488355328)<|
     some (.inl ((v1++ [(v8&&true)]),(IntKind.i64.wrap (v2+1)),v3,v4,v5,v6))
   else
    if v8 then
     (zg6 (⟨v3,v4,v5,v6⟩:zaf) y7).bind fun v10=>
     if v10 then
      (zeB (⟨v3,v4,v5,v6⟩:zaf) y7).bind fun v11=>
      req ((((v1).length:Int)+(([v11.2]:List Bool).length:Int))*1≤140737488355328∧((v1).length:Int)+(([v11.2]:List Bool).length:Int)≤140737488355328)<|
      some (.inl ((v1++ [v11.2]),(IntKind.i64.wrap (v2+1)),v11.1.fName,v11.1.fWays,v11.1.fAt,v11.1.fStore))
     else
      req ((((v1).length:Int)+(([v10]:List Bool).length:Int))*1≤140737488355328∧((v1).length:Int)+(([v10]:List Bool).length:Int)≤140737488355328)<|
      some (.inl ((v1++ [v10]),(IntKind.i64.wrap (v2+1)),v3,v4,v5,v6))
    else
     req ((((v1).length:Int)+(([false]:List Bool).length:Int))*1≤140737488355328∧((v1).length:Int)+(([false]:List Bool).length:Int)≤140737488355328)<|
     some (.inl ((v1++ [false]),(IntKind.i64.wrap (v2+1)),v3,v4,v5,v6))
  else
   if(v8&&true)then
    (zeB (⟨v3,v4,v5,v6⟩:zaf) y7).bind fun v12=>
    req ((((v1).length:Int)+(([v12.2]:List Bool).length:Int))*1≤140737488355328∧((v1).length:Int)+(([v12.2]:List Bool).length:Int)≤140737488355328)<|
    some (.inl ((v1++ [v12.2]),(IntKind.i64.wrap (v2+1)),v12.1.fName,v12.1.fWays,v12.1.fAt,v12.1.fStore))
   else
    req ((((v1).length:Int)+(([(v8&&true)]:List Bool).length:Int))*1≤140737488355328∧((v1).length:Int)+(([(v8&&true)]:List Bool).length:Int)≤140737488355328)<|
    some (.inl ((v1++ [(v8&&true)]),(IntKind.i64.wrap (v2+1)),v3,v4,v5,v6))
 else
  some (.inr (some ((⟨v3,v4,v5,v6⟩:zaf),v1)))
noncomputable def zmO (a0:zaf) (a1:List zad) (a2:Bool):Option (zaf × List Bool):=
 zak (fun s:List Bool × Int × List UInt8 × List zab × List Int × List zaa=>zpc a1 a2 s.1 s.2.1 s.2.2.1 s.2.2.2.1 s.2.2.2.2.1 s.2.2.2.2.2) ([],0,a0.fName,a0.fWays,a0.fAt,a0.fStore)
noncomputable def zlf (a0:zaf) (a1:List zad) (a2:Bool):Option (zaf × List Bool × Bool):=
 (zeY a0).bind fun v1=>
 if((!v1)||(decide ((a1.length:Int)>20)))then
  some ((⟨([]:List UInt8), [], [], []⟩:zaf), [],false)
 else
  (zg2 a0).bind fun v2=>
  (zmO v2 a1 a2).bind fun v3=>
  some (v3.1,v3.2,true)
noncomputable def zne (a1:List zad) (a2:Bool) (v3:Int) (v4:List UInt8) (v5:List zab) (v6:List Int) (v7:List zaa) (v8:List Bool):Option ((Int × List UInt8 × List zab × List Int × List zaa × List Bool) ⊕ Option (zaf × List Bool × Bool)):=
 if(decide (v3<(a1.length:Int)))then
  (zaA a1 v3).bind fun y9=>
  (zbc (⟨v4,v5,v6,v7⟩:zaf) y9).bind fun v10=>
  if a2 then
   if(y9.fStep !=0)then
    if v10 then
     (zdW (⟨v4,v5,v6,v7⟩:zaf) y9).bind fun v11=>
     if(!(!v11))then
      (zbr (⟨v4,v5,v6,v7⟩:zaf) y9).bind fun v12=>
      req ((((v8).length:Int)+(([v12.2]:List Bool).length:Int))*1≤140737488355328∧((v8).length:Int)+(([v12.2]:List Bool).length:Int)≤140737488355328)<|
      some (.inl ((IntKind.i64.wrap (v3+1)),v12.1.fName,v12.1.fWays,v12.1.fAt,v12.1.fStore,(v8++ [v12.2])))
     else
      req ((((v8).length:Int)+(([false]:List Bool).length:Int))*1≤140737488355328∧((v8).length:Int)+(([false]:List Bool).length:Int)≤140737488355328)<|
      some (.inl ((IntKind.i64.wrap (v3+1)),v4,v5,v6,v7,(v8++ [false])))
    else
     req ((((v8).length:Int)+(([false]:List Bool).length:Int))*1≤140737488355328∧((v8).length:Int)+(([false]:List Bool).length:Int)≤140737488355328)<|
     some (.inl ((IntKind.i64.wrap (v3+1)),v4,v5,v6,v7,(v8++ [false])))
   else
    if(v10&&true)then
     (zbr (⟨v4,v5,v6,v7⟩:zaf) y9).bind fun v13=>
     req ((((v8).length:Int)+(([v13.2]:List Bool).length:Int))*1≤140737488355328∧((v8).length:Int)+(([v13.2]:List Bool).length:Int)≤140737488355328)<|
     some (.inl ((IntKind.i64.wrap (v3+1)),v13.1.fName,v13.1.fWays,v13.1.fAt,v13.1.fStore,(v8++ [v13.2])))
    else
     req ((((v8).length:Int)+(([false]:List Bool).length:Int))*1≤140737488355328∧((v8).length:Int)+(([false]:List Bool).length:Int)≤140737488355328)<|
     some (.inl ((IntKind.i64.wrap (v3+1)),v4,v5,v6,v7,(v8++ [false])))
  else
   if(v10&&true)then
    (zbr (⟨v4,v5,v6,v7⟩:zaf) y9).bind fun v14=>
    req ((((v8).length:Int)+(([v14.2]:List Bool).length:Int))*1≤140737488355328∧((v8).length:Int)+(([v14.2]:List Bool).length:Int)≤140737488355328)<|
    some (.inl ((IntKind.i64.wrap (v3+1)),v14.1.fName,v14.1.fWays,v14.1.fAt,v14.1.fStore,(v8++ [v14.2])))
   else
    req ((((v8).length:Int)+(([false]:List Bool).length:Int))*1≤140737488355328∧((v8).length:Int)+(([false]:List Bool).length:Int)≤140737488355328)<|
    some (.inl ((IntKind.i64.wrap (v3+1)),v4,v5,v6,v7,(v8++ [false])))
 else
  some (.inr (some ((⟨v4,v5,v6,v7⟩:zaf),v8,true)))
noncomputable def ziO (a0:zaf) (a1:List zad) (a2:Bool):Option (zaf × List Bool × Bool):=
 (zeU a0).bind fun v1=>
 if((!v1)||(decide ((a1.length:Int)>20)))then
  some ((⟨([]:List UInt8), [], [], []⟩:zaf), [],false)
 else
  (zeS a0).bind fun v2=>
  zak (fun s:Int × List UInt8 × List zab × List Int × List zaa × List Bool=>zne a1 a2 s.1 s.2.1 s.2.2.1 s.2.2.2.1 s.2.2.2.2.1 s.2.2.2.2.2) (0,v2.fName,v2.fWays,v2.fAt,v2.fStore, [])
noncomputable def zek (a0:List Bool) (a1:List Bool) (v1:Int):Option ((Int) ⊕ Option (Bool)):=
 if(decide (v1<(a0.length:Int)))then
  (zaA a0 v1).bind fun y2=>
  (zaA a1 v1).bind fun y3=>
  if(y2 !=y3)then
   some (.inr (some false))
  else
   some (.inl (IntKind.i64.wrap (v1+1)))
 else
  some (.inr (some true))
noncomputable def ze7 (a0:List Bool) (a1:List Bool):Option (Bool):=
 if((a0.length:Int) !=(a1.length:Int))then
  some false
 else
  zak (fun s:Int=>zek a0 a1 s) 0
noncomputable def zcF (a0:List zad) (a1:List zad) (v1:Int):Option ((Int) ⊕ Option (Bool)):=
 if(decide (v1<(a0.length:Int)))then
  (zaA a0 v1).bind fun y2=>
  (zaA a1 v1).bind fun y3=>
  (zdm y2 y3).bind fun v4=>
  if(!v4)then
   some (.inr (some false))
  else
   some (.inl (IntKind.i64.wrap (v1+1)))
 else
  some (.inr (some true))
noncomputable def zfj (a0:List zad) (a1:List zad):Option (Bool):=
 if((a0.length:Int) !=(a1.length:Int))then
  some false
 else
  zak (fun s:Int=>zcF a0 a1 s) 0
noncomputable def zbz (v1:Int) (v2:Int) (v3:List zad):Option ((Int × Int × List zad) ⊕ Option (Int × List zad)):=
 if(decide (v2<(v3.length:Int)))then
  (zaA v3 v2).bind fun y4=>
  (zcQ ({{{y4 with fServer:=v1}with fStep:=(IntKind.i64.wrap (v1+1))}with fAct.fKind:=(IntKind.i64.wrap ((IntKind.i64.wrap (v1+1))+1))}.fAct.fOld.fVals) (IntKind.i64.wrap ((IntKind.i64.wrap ((IntKind.i64.wrap (v1+1))+1))+1))).bind fun v5=>
  (zcQ ({{{{y4 with fServer:=v1}with fStep:=(IntKind.i64.wrap (v1+1))}with fAct.fKind:=(IntKind.i64.wrap ((IntKind.i64.wrap (v1+1))+1))}with fAct.fOld.fVals:=v5.2}.fAct.fNew.fVals) v5.1).bind fun v6=>
  some (.inl (v6.1,(IntKind.i64.wrap (v2+1)),(((((v3.set (v2).toNat {y4 with fServer:=v1}).set (v2).toNat {{y4 with fServer:=v1}with fStep:=(IntKind.i64.wrap (v1+1))}).set (v2).toNat {{{y4 with fServer:=v1}with fStep:=(IntKind.i64.wrap (v1+1))}with fAct.fKind:=(IntKind.i64.wrap ((IntKind.i64.wrap (v1+1))+1))}).set (v2).toNat {{{{y4 with fServer:=v1}with fStep:=(IntKind.i64.wrap (v1+1))}with fAct.fKind:=(IntKind.i64.wrap ((IntKind.i64.wrap (v1+1))+1))}with fAct.fOld.fVals:=v5.2}).set (v2).toNat {{{{{y4 with fServer:=v1}with fStep:=(IntKind.i64.wrap (v1+1))}with fAct.fKind:=(IntKind.i64.wrap ((IntKind.i64.wrap (v1+1))+1))}with fAct.fOld.fVals:=v5.2}with fAct.fNew.fVals:=v6.2})))
 else
  some (.inr (some (v1,v3)))
noncomputable def zfO (a0:List zad) (a1:Int):Option (Int × List zad):=
 zak (fun s:Int × Int × List zad=>zbz s.1 s.2.1 s.2.2) (a1,0,a0)
noncomputable def zct (v1:Int) (v2:Int) (v3:List Bool):Option ((Int × Int × List Bool) ⊕ Option (Int × List Bool)):=
 if(decide (v2<(v3.length:Int)))then
  (zaA v3 v2).bind fun y4=>
  some (.inl ((IntKind.i64.wrap (v1+1)),(IntKind.i64.wrap (v2+1)),(v3.set (v2).toNat ((Int.tmod v1 3)==0))))
 else
  some (.inr (some (v1,v3)))
noncomputable def ziC (a0:List Bool) (a1:Int):Option (Int × List Bool):=
 zak (fun s:Int × Int × List Bool=>zct s.1 s.2.1 s.2.2) (a1,0,a0)
noncomputable def zcv (a0:List Bool) (v1:Int) (v2:Int):Option ((Int × Int) ⊕ Option (Int)):=
 if(decide (v2<(a0.length:Int)))then
  (zaA a0 v2).bind fun y3=>
  if(y3 !=((Int.tmod v1 3)==0))then
   some (.inr (some (-1)))
  else
   some (.inl ((IntKind.i64.wrap (v1+1)),(IntKind.i64.wrap (v2+1))))
 else
  some (.inr (some v1))
noncomputable def zga (a0:List Bool) (a1:Int):Option (Int):=
 zak (fun s:Int × Int=>zcv a0 s.1 s.2) (a1,0)
noncomputable def zgO (a0:zaf) (a1:List zad) (a2:Bool):Option (Bool):=
 (ze9 a0 1048576).bind fun v1=>
 if(decide (v1<0))then
  some true
 else
  (zfl a1 v1).bind fun v2=>
  if(decide (v2<0))then
   some true
  else
   (za4 a0).bind fun v3=>
   (zcb a1).bind fun v4=>
   (zlf v3 v4 a2).bind fun v5=>
   (za4 a0).bind fun v6=>
   (zcb a1).bind fun v7=>
   (ziO v6 v7 a2).bind fun v8=>
   (zbu v8.1 v5.1).bind fun v9=>
   if v9 then
    (ze7 v8.2.1 v5.2.1).bind fun v10=>
    if((!v10)||(v8.2.2 !=v5.2.2))then
     some false
    else
     (za4 a0).bind fun v11=>
     (zbu v6 v11).bind fun v12=>
     if(!v12)then
      some false
     else
      (zcb a1).bind fun v13=>
      (zfj v7 v13).bind fun v14=>
      if(!v14)then
       some false
      else
       (zc3 v6 1).bind fun v15=>
       (zfO v7 v15.1).bind fun v16=>
       if(decide (v16.1<0))then
        some false
       else
        (zbu v8.1 v5.1).bind fun v17=>
        if v17 then
         (ze7 v8.2.1 v5.2.1).bind fun v18=>
         if((!v18)||(v8.2.2 !=v5.2.2))then
          some false
         else
          (zc3 v8.1 1).bind fun v19=>
          (ziC v8.2.1 v19.1).bind fun v20=>
          (zc6 (⟨v8.1.fName,v19.2.fWays,v19.2.fAt,v19.2.fStore⟩:zaf) 1).bind fun v21=>
          if(decide (v21<0))then
           some false
          else
           (zga v20.2 v21).bind fun v22=>
           if(decide (v22<0))then
            some false
           else
            if(v22 !=v20.1)then
             some false
            else
             (za4 a0).bind fun v23=>
             (zcb a1).bind fun v24=>
             (ziO v23 v24 a2).bind fun v25=>
             (zbu v25.1 v5.1).bind fun v26=>
             if v26 then
              (ze7 v25.2.1 v5.2.1).bind fun v27=>
              if((!v27)||(v25.2.2 !=v5.2.2))then
               some false
              else
               (zc6 (⟨v8.1.fName,v19.2.fWays,v19.2.fAt,v19.2.fStore⟩:zaf) 1).bind fun v28=>
               if(decide (v28<0))then
                some false
               else
                (zga v20.2 v28).bind fun v29=>
                if(decide (v29<0))then
                 some false
                else
                 if(v29 !=v20.1)then
                  some false
                 else
                  some true
             else
              some false
        else
         some false
   else
    some false
end Go.Proofs.YtfkblfjloegahaaGreatDoor
end
section
namespace Go.Proofs.YtfkblfjloegahaaGreatDoor
open Go.RowKit
theorem zac {α:Type} {xs:List α} {i:Nat} (h:i<xs.length):zaA xs (i:Int)=some xs[i]:=by simp [zaA,h]
theorem zo3 {α:Type} {xs:List α} {i:Int} (h0:0≤i) (h:i<xs.length): ∃x,zaA xs i=some x∧x∈xs∧xs[i.toNat]?=some x:=by
 have hi:i.toNat<xs.length:=by omega
 exact⟨xs[i.toNat],by simp [zaA,h0,hi],List.getElem_mem hi,by simp [hi]⟩
theorem zCl {α:Type} {xs:List α} {i:Int} {x:α} (h:zaA xs i=some x):x∈xs:=by
 obtain⟨h1,h2,h3⟩:=zw8 h
 exact List.mem_of_getElem? h3
theorem zaE {q n:Nat} (h:q<n) (hn:n≤9223372036854775807):IntKind.i64.wrap ((q:Int)+1)=((q+1:Nat):Int):=by rw [zaC (by omega) (by omega)];simp
theorem zae {α:Type} {p:Prop} {k:Option α} (h:p):req p k=k:=by simp [req,h]
def goL {α σ β:Type} (step:α→σ→Option (σ ⊕ Option β)) (fin:σ→Option β):List α→σ→Option β
 | [],s=>fin s
 |x::xs,s=>match step x s with
  |none=>none
  |some (.inl s')=>goL step fin xs s'
  |some (.inr o)=>o
def zuC {σ τ β:Type} (f:σ→τ):Option (σ ⊕ Option β)→Option (τ ⊕ Option β)
 |none=>none
 |some (.inl s)=>some (.inl (f s))
 |some (.inr o)=>some (.inr o)
theorem zzQ {α σ τ β:Type} {xs:List α} {body:τ→Option (τ ⊕ Option β)} (emb:Int→σ→τ) (step:α→σ→Option (σ ⊕ Option β)) (fin:σ→Option β) (q0:Nat)
  (hs: ∀(i:Nat) (hi:i<xs.length) (s:σ),q0≤i→body (emb i s)=zuC (emb ((i+1:Nat):Int)) (step xs[i] s)) (he: ∀s,body (emb xs.length s)=some (.inr (fin s))) (s:σ) (h0:q0≤xs.length):zak body (emb q0 s)=goL step fin (xs.drop q0) s:=by
 have key: ∀(n q:Nat) (s:σ),q0≤q→q+n=xs.length→zak body (emb q s)=goL step fin (xs.drop q) s:=by
  intro n
  induction n with
  |zero=>
   intro q s _ hq
   have:q=xs.length:=by omega
   subst this
   rw [zaR,he s]
   simp [goL]
  |succ n ih=>
   intro q s h0 hq
   have hlt:q<xs.length:=by omega
   rw [zaR,hs q hlt s h0,List.drop_eq_getElem_cons hlt]
   rcases hst:step xs[q] s with _|s'|o
   ·simp [goL,hst,zuC]
   ·simp only [goL,hst,zuC];exact ih (q+1) s' (by omega) (by omega)
   ·simp [goL,hst,zuC]
 exact key (xs.length-q0) q0 s (Nat.le_refl _) (by omega)
theorem zof {α σ τ β:Type} {xs:List α} {body:τ→Option (τ ⊕ Option β)} (emb:Int→σ→τ) (step:α→σ→Option (σ ⊕ Option β)) (fin:σ→Option β)
  (hs: ∀(i:Nat) (hi:i<xs.length) (s:σ),body (emb i s)=zuC (emb ((i+1:Nat):Int)) (step xs[i] s)) (he: ∀s,body (emb xs.length s)=some (.inr (fin s))) (s:σ):zak body (emb 0 s)=goL step fin xs s:=by
 have:=zzQ emb step fin 0 (fun i hi s _=>hs i hi s) he s (by omega)
 simpa using this
theorem zwk {α σ β:Type} {step:α→σ→Option (σ ⊕ Option β)} {fin:σ→Option β} {xs:List α} (p:α→Bool) (b:β) (h: ∀x∈xs,∀s,step x s=some (if p x=true then .inl s else .inr (some b))) (s:σ):goL step fin xs s=if xs.all p=true then fin s else some b:=by
 induction xs with
 |nil=>simp [goL]
 |cons x xs ih=>
  simp only [goL,h x (by simp) s]
  cases hp:p x with
  |true=>simp [hp,ih fun y hy=>h y (by simp [hy])]
  |false=>simp [hp]
theorem zBb {α σ β:Type} {step:α→σ→Option (σ ⊕ Option β)} {fin:σ→Option β} {xs:List α} (f:σ→α→σ) (I:σ→Prop) (hI: ∀x∈xs,∀s,I s→I (f s x)) (h: ∀x∈xs,∀s,I s→step x s=some (.inl (f s x))) {s:σ} (hs:I s):goL step fin xs s=fin (xs.foldl f s):=by
 induction xs generalizing s with
 |nil=>simp [goL]
 |cons x xs ih=>
  simp only [goL,h x (by simp) s hs,List.foldl_cons]
  exact ih (fun y hy=>hI y (by simp [hy])) (fun y hy=>h y (by simp [hy])) (hI x (by simp) s hs)
theorem zEV {α σ β:Type} {step:α→σ→Option (σ ⊕ Option β)} {fin:σ→Option β} (f:σ→α→σ) (n:Nat) (I:Nat→σ→Prop) {xs:List α} (h: ∀q,q<n→ ∀x∈xs,∀s,I q s→step x s=some (.inl (f s x))∧I (q+1) (f s x)) {q:Nat} {s:σ} (hq:q+xs.length≤n) (hs:I q s):goL step fin xs s=fin (xs.foldl f s)∧I (q+xs.length) (xs.foldl f s):=by
 induction xs generalizing s q with
 |nil=>exact⟨rfl,hs⟩
 |cons x xs ih=>
  simp only [List.length_cons]at hq
  obtain⟨h1,h2⟩:=h q (by omega) x (by simp) s hs
  simp only [goL,h1,List.foldl_cons,List.length_cons]
  have:=ih (fun q hq y hy=>h q hq y (by simp [hy])) (q:=q+1) (by omega) h2
  rw [show q+(xs.length+1)=q+1+xs.length by omega]
  exact this
theorem zb0 {α σ τ β:Type} {xs:List α} {body:τ→Option (τ ⊕ Option β)} (emb:Int→σ→τ) (f:σ→α→σ) (fin:σ→Option β) (I:Nat→σ→Prop)
  (hs: ∀(i:Nat) (hi:i<xs.length) (s:σ),I i s→body (emb i s)=some (.inl (emb ((i+1:Nat):Int) (f s xs[i])))∧I (i+1) (f s xs[i])) (he: ∀s,I xs.length s→body (emb xs.length s)=some (.inr (fin s))) {s:σ} (h0:I 0 s):zak body (emb 0 s)=fin (xs.foldl f s)∧I xs.length (xs.foldl f s):=by
 have key: ∀(n q:Nat) (s:σ),q+n=xs.length→I q s→zak body (emb q s)=fin ((xs.drop q).foldl f s)∧I xs.length ((xs.drop q).foldl f s):=by
  intro n
  induction n with
  |zero=>
   intro q s hq hI
   have:q=xs.length:=by omega
   subst this
   rw [zaR,he s hI]
   simp [hI]
  |succ n ih=>
   intro q s hq hI
   have hlt:q<xs.length:=by omega
   obtain⟨h1,h2⟩:=hs q hlt s hI
   rw [zaR,h1,List.drop_eq_getElem_cons hlt,List.foldl_cons]
   exact ih (q+1) _ (by omega) h2
 have:=key xs.length 0 s (by omega) h0
 simpa using this
theorem zqD {α:Type} {xs:List α} {p:α→Option Bool} (q:α→Bool) (hp: ∀x∈xs,p x=some (q x)) (hn:xs.length≤9223372036854775806):zaV xs p=some (xs.any q):=by
 have key: ∀(l:List α) (i:Int),0≤i→(∀x∈l,p x=some (q x))→ ∃r,zr2 p l i=some r∧decide (r≥0)=l.any q:=by
  intro l
  induction l with
  |nil=>intro i _ _;exact⟨-1,rfl,by simp⟩
  |cons x l ih=>
   intro i hi h
   simp only [zr2,h x (by simp),Option.bind_some]
   cases hq:q x with
   |true=>exact⟨i,by simp,by simp [hq,hi]⟩
   |false=>
    obtain⟨r,h1,h2⟩:=ih (i+1) (by omega) fun y hy=>h y (by simp [hy])
    exact⟨r,by simp [h1],by simp [hq,h2]⟩
 obtain⟨r,h1,h2⟩:=key xs 0 (by omega) hp
 simp [zaV,zbt,zae hn,h1,h2]
theorem zmw {α:Type} {b:Nat} {xs:List α} (h:(xs.length:Int)*b≤140737488355328) (h2:(xs.length:Int)≤140737488355328):znw b xs=some xs:=zae ⟨h,h2⟩
theorem zil {β:Type} {n:Nat} {body:Int→Option (Int ⊕ Option β)} (p:Nat→Bool) (b:β) (fin:Option β)
  (hs: ∀i:Nat,i<n→body i=some (if p i=true then .inl ((i+1:Nat):Int)else .inr (some b))) (he:body n=some (.inr fin)):zak body 0=if(List.range n).all p=true then fin else some b:=by
 have h1:=zof (xs:=List.range n) (body:=body) (fun i (_:Unit)=>i) (fun i _=>some (if p i=true then .inl ()else .inr (some b))) (fun _=>fin)
  (fun i hi s=>by
   rw [List.length_range]at hi
   rw [hs i hi,List.getElem_range]
   cases p i<;>simp [zuC]) (fun s=>by simpa using he) ()
 rw [zwk p b fun x _ s=>rfl]at h1
 exact h1
def zix {α:Type} (p:α→Bool) (l:List α):Int:=match l.findIdx? p with|some i=>(i:Int)|none=> -1
theorem zn1 {α:Type} (p:α→Bool):zix p []= -1:=rfl
theorem zl7 {α:Type} (p:α→Bool) (x:α) (l:List α):zix p (x::l)=if p x=true then 0 else if zix p l= -1 then-1 else zix p l+1:=by
 unfold zix
 rw [List.findIdx?_cons]
 cases p x with
 |true=>simp
 |false=>
  cases h:l.findIdx? p with
  |none=>simp
  |some i=>simp<;>omega
theorem zqF {α:Type} (p:α→Bool) (l:List α): -1≤zix p l:=by
 unfold zix
 split<;>omega
theorem zGV {α:Type} (p:α→Bool) (l:List α):zix p l<l.length:=by
 induction l with
 |nil=>simp [zn1]
 |cons x l ih=>rw [zl7];split<;>(try split)<;>simp<;>omega
theorem zmg {α:Type} (p:α→Bool) (l:List α):decide (zix p l≥0)=l.any p:=by
 induction l with
 |nil=>simp [zn1]
 |cons x l ih=>
  have h1:=zqF p l
  rw [zl7,List.any_cons,←ih]
  cases p x with
  |true=>simp
  |false=>
   by_cases h:zix p l= -1
   ·simp [h]
   ·have:zix p l≥0:=by omega
    simp [h,this];try omega
theorem zxc {α:Type} {p:α→Bool} {l:List α} (h:zix p l≥0): ∃x,zaA l (zix p l)=some x∧p x=true∧x∈l:=by
 induction l with
 |nil=>simp [zn1]at h
 |cons y l ih=>
  rw [zl7]at h ⊢
  cases hy:p y with
  |true=>exact⟨y,by simp [zaA],hy,by simp⟩
  |false=>
   have h1:=zqF p l
   by_cases hm:zix p l= -1
   ·rw [hy,hm]at h;simp at h
   ·have h0:zix p l≥0:=by omega
    obtain⟨x,e1,e2,e3⟩:=ih h0
    obtain⟨_,e4,e5⟩:=zw8 e1
    refine⟨x, ?_,e2,by simp [e3]⟩
    simp only [Bool.false_eq_true,if_false,hm]
    unfold zaA
    rw [if_pos (by omega),show(zix p l+1).toNat=(zix p l).toNat+1 by omega]
    simpa using e5
theorem ztI {α:Type} {xs:List α} {body:Int→Option (Int ⊕ Option Int)} (p:α→Bool) (hs: ∀(i:Nat) (hi:i<xs.length),body i=some (if p xs[i]=true then .inr (some (i:Int))else .inl ((i+1:Nat):Int))) (he:body xs.length=some (.inr (some (-1)))):zak body 0=some (zix p xs):=by
 have key: ∀(n q:Nat),q+n=xs.length→zak body q=some (if zix p (xs.drop q)= -1 then-1 else q+zix p (xs.drop q)):=by
  intro n
  induction n with
  |zero=>
   intro q hq
   have:q=xs.length:=by omega
   subst this
   rw [zaR,he]
   simp [zn1]
  |succ n ih=>
   intro q hq
   have hlt:q<xs.length:=by omega
   rw [zaR,hs q hlt,List.drop_eq_getElem_cons hlt,zl7]
   cases p xs[q]with
   |true=>simp
   |false=>
    simp only [Bool.false_eq_true,if_false]
    rw [ih (q+1) (by omega)]
    have h1:=zqF p (xs.drop (q+1))
    congr 1
    by_cases hm:zix p (xs.drop (q+1))= -1
    ·simp [hm]
    ·have h2: ¬(zix p (xs.drop (q+1))+1= -1):=by omega
     simp only [hm,if_false,h2]
     omega
 have h:=key xs.length 0 (by omega)
 rw [List.drop_zero]at h
 rw [show((0:Nat):Int)=0 from rfl]at h
 rw [h]
 have h1:=zqF p xs
 by_cases hm:zix p xs= -1
 ·simp [hm]
 ·simp [hm]
theorem zv5 {α:Type} {xs:List α} {p:α→Option Bool} (q:α→Bool) (hp: ∀x∈xs,p x=some (q x)) (hn:xs.length≤9223372036854775806):zbt xs p=some (zix q xs):=by
 have key: ∀(l:List α) (i:Int),(∀x∈l,p x=some (q x))→zr2 p l i=some (if zix q l= -1 then-1 else i+zix q l):=by
  intro l
  induction l with
  |nil=>intro i _;simp [zr2,zn1]
  |cons x l ih=>
   intro i h
   simp only [zr2,h x (by simp),Option.bind_some,zl7]
   cases q x with
   |true=>simp
   |false=>
    simp only [Bool.false_eq_true,if_false]
    rw [ih (i+1) fun y hy=>h y (by simp [hy])]
    have h1:=zqF q l
    congr 1
    by_cases hm:zix q l= -1
    ·simp [hm]
    ·have h2: ¬(zix q l+1= -1):=by omega
     simp only [hm,if_false,h2]
     omega
 unfold zbt
 rw [zae hn,key xs 0 hp]
 by_cases hm:zix q xs= -1
 ·simp [hm]
 ·simp [hm]
theorem zIr {α:Type} {b:Bool} {A B:Option α} {y:Option α} (ha:b=true→A=y) (hb:b=false→B=y):(if b=true then A else B)=y:=by
 cases b with
 |true=>simpa using ha rfl
 |false=>simpa using hb rfl
theorem zIq {α:Type} {b:Bool} {A B y:Option α} (h:b=false) (hb:B=y):(if b=true then A else B)=y:=by rw [if_neg (by simp [h])];exact hb
theorem zIm {α:Type} {b:Bool} {A B y:Option α} (h:b=true) (ha:A=y):(if b=true then A else B)=y:=by rw [if_pos h];exact ha
theorem zDp {α β:Type} {o:Option α} {x:α} {f:α→Option β} (h:o=some x):o.bind f=f x:=by rw [h];rfl
end Go.Proofs.YtfkblfjloegahaaGreatDoor
end
section
namespace Go.Proofs.YtfkblfjloegahaaGreatDoor
open Go.RowKit
set_option maxRecDepth 100000
theorem zoq {α β:Type} (f:α→β) (l:List α) (o:List β):l.foldl (fun o x=>o++ [f x]) o=o++l.map f:=by
 induction l generalizing o with
 |nil=>simp
 |cons x l ih=>rw [List.foldl_cons,ih];simp
theorem zob {α:Type} {xs:List α} {d:α} {body:Int × List α→Option ((Int × List α) ⊕ Option (List α))}
  (hs: ∀(i:Nat) (hi:i<xs.length) (v:List α),v.length=xs.length→body ((i:Int),v)=some (.inl (((i+1:Nat):Int),v.set i xs[i])))
  (he: ∀v,body ((xs.length:Int),v)=some (.inr (some v))):zak body (0,List.replicate xs.length d)=some xs:=by
 have h1:=zb0 (xs:=xs) (body:=body) (fun i (o:List α)=>(i,o++List.replicate (xs.length-i.toNat) d)) (fun(o:List α) x=>o++ [x]) (fun o=>some o) (fun i o=>o.length=i)
  (fun i hi o ho=>by
   refine⟨?_,by simp [ho]⟩
   rw [show((i:Int)).toNat=i from rfl,hs i hi _ (by simp [ho];omega)]
   congr 3
   obtain⟨k,hk⟩: ∃k,xs.length-i=k+1:=⟨xs.length-i-1,by omega⟩
   have h2:xs.length-(((i+1:Nat):Int)).toNat=k:=by rw [show(((i+1:Nat):Int)).toNat=i+1 from rfl];omega
   rw [h2,hk,List.replicate_succ]
   subst ho
   simp [List.set_append])
  (fun o ho=>by
   show body ((xs.length:Int),o++List.replicate (xs.length-((xs.length:Int)).toNat) d)=_
   rw [show((xs.length:Int)).toNat=xs.length from rfl,Nat.sub_self,List.replicate_zero,List.append_nil]
   exact he o) (s:=([]:List α)) rfl
 have h3:=h1.1
 rw [show(fun(o:List α) x=>o++ [x])=(fun o x=>o++ [id x])from rfl,zoq,List.map_id,List.nil_append]at h3
 exact h3
theorem zm1 {n:Nat} {body:Int→Option (Int ⊕ Option Bool)} (hs: ∀i:Nat,i<n→body i=some (.inl ((i+1:Nat):Int))) (he:body n=some (.inr (some true))):zak body 0=some true:=by
 have h:=zil (n:=n) (body:=body) (fun _=>true) false (some true) (fun i hi=>by rw [hs i hi,if_pos rfl]) he
 rw [h,if_pos (by simp)]
theorem zGC {α:Type} {xs:List α} {body:Int × Int→Option ((Int × Int) ⊕ Option Int)} (P:α→Prop) {a:Int} (h0:0≤a) (h1:a≤1048576)
  (hs: ∀(i:Nat) (hi:i<xs.length) (b:Int),0≤b→b≤1048576→ ∃r,r≤b∧(0≤r→P xs[i])∧body (b,(i:Int))=some (if r<0 then .inr (some (-1))else .inl (r,((i+1:Nat):Int))))
  (he: ∀b,body (b,(xs.length:Int))=some (.inr (some b))): ∃v,zak body (a,0)=some v∧v≤a∧(0≤v→ ∀x∈xs,P x):=by
 have key: ∀(n q:Nat) (b:Int),q+n=xs.length→0≤b→b≤1048576→ ∃v,zak body (b,(q:Int))=some v∧v≤b∧(0≤v→ ∀x∈xs.drop q,P x):=by
  intro n
  induction n with
  |zero=>
   intro q b hq _ _
   have:q=xs.length:=by omega
   subst this
   exact⟨b,by rw [zaR,he b],by omega,by simp⟩
  |succ n ih=>
   intro q b hq hb0 hb1
   have hlt:q<xs.length:=by omega
   obtain⟨r,e1,e2,e3⟩:=hs q hlt b hb0 hb1
   by_cases hr:r<0
   ·exact⟨-1,by rw [zaR,e3,if_pos hr],by omega,by omega⟩
   ·obtain⟨v,f1,f2,f3⟩:=ih (q+1) r (by omega) (by omega) (by omega)
    refine⟨v,by rw [zaR,e3,if_neg hr];exact f1,by omega,fun hv x hx=> ?_⟩
    rw [List.drop_eq_getElem_cons hlt]at hx
    rcases List.mem_cons.1 hx with hx|hx
    ·subst hx;exact e2 (by omega)
    ·exact f3 hv x hx
 have:=key xs.length 0 a (by omega) h0 h1
 simpa using this
theorem zcP {a:Int} {n:Nat} (h0:0≤a) (h1:a≤1048576) (hn:n≤9223372036854775807):IntKind.i64.wrap (a-(n:Int))=a-n:=zaC (by omega) (by omega)
end Go.Proofs.YtfkblfjloegahaaGreatDoor
end
section
namespace Go.Proofs.YtfkblfjloegahaaGreatDoor
open Go.RowKit
set_option maxRecDepth 100000
theorem zcq {σ α:Type} {body:σ→Option (σ ⊕ Option α)} {s:σ} {o:Option α} (h:body s=some (.inr o)):zak body s=o:=by rw [zaR,h]
theorem zc8 {σ α:Type} {body:σ→Option (σ ⊕ Option α)} {s s':σ} (h:body s=some (.inl s')):zak body s=zak body s':=by rw [zaR,h]
theorem szL {α:Type} {xs:List α} {body:Int × Int→Option ((Int × Int) ⊕ Option Int)} (tot:α→Nat) {a:Int} (h0:0≤a) (h1:a≤1048576)
  (hs: ∀x∈xs,∀b:Int,0≤b→b≤1048576→ ∃v,v≤b∧(0≤v→(tot x:Int)=b-v)∧ ∀i:Nat,xs[i]?=some x→body (b,(i:Int))=some (if v<0 then .inr (some (-1))else .inl (v,((i+1:Nat):Int))))
  (he: ∀b,body (b,(xs.length:Int))=some (.inr (some b))): ∃v,zak body (a,0)=some v∧v≤a∧(0≤v→((xs.map tot).sum:Int)=a-v):=by
 have key: ∀(n q:Nat) (a:Int),q+n=xs.length→0≤a→a≤1048576→ ∃v,zak body (a,(q:Int))=some v∧v≤a∧(0≤v→(((xs.drop q).map tot).sum:Int)=a-v):=by
  intro n
  induction n with
  |zero=>
   intro q a hq h0 h1
   refine⟨a, ?_,by omega,fun _=> ?_⟩
   ·rw [zaR,show(q:Int)=(xs.length:Int) by omega,he]
   ·rw [List.drop_eq_nil_of_le (by omega)];simp
  |succ n ih=>
   intro q a hq h0 h1
   have hlt:q<xs.length:=by omega
   obtain⟨v,e1,e2,e3⟩:=hs xs[q] (List.getElem_mem hlt) a h0 h1
   rw [zaR,e3 q (List.getElem?_eq_getElem hlt)]
   by_cases hv:v<0
   ·rw [if_pos hv]
    exact⟨-1,rfl,by omega,by omega⟩
   ·rw [if_neg hv]
    obtain⟨u,f1,f2,f3⟩:=ih (q+1) v (by omega) (by omega) (by omega)
    refine⟨u,f1,by omega,fun hu=> ?_⟩
    have g1:=f3 hu
    have g2:=e2 (by omega)
    rw [List.drop_eq_getElem_cons hlt,List.map_cons,List.sum_cons]
    omega
 have:=key xs.length 0 a (by omega) h0 h1
 simpa using this
theorem zfg {α:Type} {tot:α→Nat}: ∀{xs:List α} {x:α},x∈xs→tot x≤(xs.map tot).sum
 |y::xs,x,h=>by
  rw [List.map_cons,List.sum_cons]
  rcases List.mem_cons.1 h with rfl|h
  ·omega
  ·have:=zfg (tot:=tot) h;omega
theorem zoO {α:Type} {cnt:α→Nat} {mb:Int × Int × List α→Option ((Int × Int × List α) ⊕ Option (Int × List α))} {hb:List α→Int × Int→Option ((Int × Int) ⊕ Option Int)} (B:Int) {xs:List α} {k:Int} (h0:0≤k) (hB:k+((xs.map cnt).sum:Nat)≤B)
  (hs: ∀x∈xs,∀k:Int,0≤k→k+cnt x≤B→ ∃y,(∀(i:Nat) (v:List α),v[i]?=some x→i<xs.length→mb (k,(i:Int),v)=some (.inl (k+cnt x,((i+1:Nat):Int),v.set i y)))∧ ∀(i:Nat) (ys:List α),ys[i]?=some y→i<xs.length→hb ys (k,(i:Int))=some (.inl (k+cnt x,((i+1:Nat):Int))))
  (he: ∀k v,v.length=xs.length→mb (k,(xs.length:Int),v)=some (.inr (some (k,v)))) (hh: ∀k ys,ys.length=xs.length→hb ys (k,(xs.length:Int))=some (.inr (some k))):
  ∃ys,ys.length=xs.length∧zak mb (k,0,xs)=some (k+((xs.map cnt).sum:Nat),ys)∧zak (hb ys) (k,0)=some (k+((xs.map cnt).sum:Nat)):=by
 have key: ∀(suf pre:List α) (k:Int),pre.length+suf.length=xs.length→(∀x∈suf,x∈xs)→0≤k→k+((suf.map cnt).sum:Nat)≤B→
   ∃suf':List α,suf'.length=suf.length∧zak mb (k,(pre.length:Int),pre++suf)=some (k+((suf.map cnt).sum:Nat),pre++suf')∧zak (hb (pre++suf')) (k,(pre.length:Int))=some (k+((suf.map cnt).sum:Nat)):=by
  intro suf
  induction suf with
  |nil=>
   intro pre k hl _ _ _
   have hl':(pre.length:Int)=(xs.length:Int):=by simp at hl;omega
   have hl2:pre.length=xs.length:=by omega
   refine⟨[],rfl, ?_, ?_⟩
   ·rw [zaR,hl',he _ _ (by simpa using hl2)];simp
   ·rw [zaR,hl',hh _ _ (by simpa using hl2)];simp
  |cons x t ih=>
   intro pre k hl hm h0 hb'
   rw [List.map_cons,List.sum_cons]at hb' ⊢
   obtain⟨y,e1,e2⟩:=hs x (hm x (by simp)) k h0 (by omega)
   rw [List.length_cons]at hl
   obtain⟨t',f1,f2,f3⟩:=ih (pre++ [y]) (k+cnt x) (by simp;omega) (fun z hz=>hm z (by simp [hz])) (by omega) (by omega)
   have ea:pre++y::t'=pre++ [y]++t':=by simp
   have eb:(pre++x::t).set pre.length y=pre++ [y]++t:=by simp
   have ec:(((pre++ [y]).length:Nat):Int)=((pre.length+1:Nat):Int):=by simp
   refine⟨y::t',by simp [f1], ?_, ?_⟩
   ·rw [zaR,e1 pre.length _ (by simp) (by omega),eb]
    show zak mb (k+cnt x,((pre.length+1:Nat):Int),pre++ [y]++t)=_
    rw [←ec,f2,ea]
    congr 2
    omega
   ·rw [zaR,e2 pre.length _ (by simp) (by omega),ea]
    show zak (hb (pre++ [y]++t')) (k+cnt x,((pre.length+1:Nat):Int))=_
    rw [←ec,f3]
    congr 1
    omega
 have:=key xs [] k (by simp) (fun _ h=>h) h0 hB
 simpa using this
theorem zAd {α:Type} {cnt:α→Nat} {mb:Int × Int × List α→Option ((Int × Int × List α) ⊕ Option (Int × List α))} (B:Int) {xs:List α} {k:Int} (h0:0≤k) (hB:k+((xs.map cnt).sum:Nat)≤B)
  (hs: ∀x∈xs,∀k:Int,0≤k→k+cnt x≤B→ ∃y,∀(i:Nat) (v:List α),v[i]?=some x→i<xs.length→mb (k,(i:Int),v)=some (.inl (k+cnt x,((i+1:Nat):Int),v.set i y)))
  (he: ∀k v,v.length=xs.length→mb (k,(xs.length:Int),v)=some (.inr (some (k,v)))):
  ∃ys,ys.length=xs.length∧zak mb (k,0,xs)=some (k+((xs.map cnt).sum:Nat),ys):=by
 have key: ∀(suf pre:List α) (k:Int),pre.length+suf.length=xs.length→(∀x∈suf,x∈xs)→0≤k→k+((suf.map cnt).sum:Nat)≤B→
   ∃suf':List α,suf'.length=suf.length∧zak mb (k,(pre.length:Int),pre++suf)=some (k+((suf.map cnt).sum:Nat),pre++suf'):=by
  intro suf
  induction suf with
  |nil=>
   intro pre k hl _ _ _
   have hl':(pre.length:Int)=(xs.length:Int):=by simp at hl;omega
   have hl2:pre.length=xs.length:=by omega
   refine⟨[],rfl, ?_⟩
   rw [zaR,hl',he _ _ (by simpa using hl2)];simp
  |cons x t ih=>
   intro pre k hl hm h0 hb'
   rw [List.map_cons,List.sum_cons]at hb' ⊢
   obtain⟨y,e1⟩:=hs x (hm x (by simp)) k h0 (by omega)
   rw [List.length_cons]at hl
   obtain⟨t',f1,f2⟩:=ih (pre++ [y]) (k+cnt x) (by simp;omega) (fun z hz=>hm z (by simp [hz])) (by omega) (by omega)
   have ea:pre++y::t'=pre++ [y]++t':=by simp
   have eb:(pre++x::t).set pre.length y=pre++ [y]++t:=by simp
   have ec:(((pre++ [y]).length:Nat):Int)=((pre.length+1:Nat):Int):=by simp
   refine⟨y::t',by simp [f1], ?_⟩
   rw [zaR,e1 pre.length _ (by simp) (by omega),eb]
   show zak mb (k+cnt x,((pre.length+1:Nat):Int),pre++ [y]++t)=_
   rw [←ec,f2,ea]
   congr 2
   omega
 have:=key xs [] k (by simp) (fun _ h=>h) h0 hB
 simpa using this
theorem zlz {α:Type} (xs:List α) (n:Nat):(xs.map fun _=>n).sum=n*xs.length:=by
 induction xs with
 |nil=>simp
 |cons x xs ih=>rw [List.map_cons,List.sum_cons,ih,List.length_cons,Nat.mul_add];omega
end Go.Proofs.YtfkblfjloegahaaGreatDoor
end
