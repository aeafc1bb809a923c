/- Parts of a proof, joined: QM, NA, NE, NX. -/
import Derived.Test.YtfkblfjloegahaaGreatDoorS7
section
namespace Go.Proofs.YtfkblfjloegahaaGreatDoor
open Go.RowKit
set_option maxRecDepth 100000
noncomputable def zaH (a0:List (List UInt8)) (v1:Int) (v2:Int):Option ((Int × Int) ⊕ Option (Int)):=
 if(decide (v2<(a0.length:Int)))then
  (zaA a0 v2).bind fun y3=>
  if(decide ((IntKind.i64.wrap (v1-(y3.length:Int)))<0))then
   some (.inr (some (-1)))
  else
   some (.inl ((IntKind.i64.wrap (v1-(y3.length:Int))),(IntKind.i64.wrap (v2+1))))
 else
  some (.inr (some v1))
noncomputable def zcW (a0:List (List UInt8)) (a1:Int):Option (Int):=
 if(decide ((IntKind.i64.wrap (a1-(a0.length:Int)))<0))then
  some (-1)
 else
  zal (fun s:Int × Int=>zaH a0 s.1 s.2) ((IntKind.i64.wrap (a1-(a0.length:Int))),0)
noncomputable def zgm (a0:zbI) (a1:Int):Option (Int):=
 if(decide ((IntKind.i64.wrap (a1-(a0.fName.length:Int)))<0))then
  some (-1)
 else
  some (IntKind.i64.wrap (a1-(a0.fName.length:Int)))
noncomputable def zaM (a0:List zbI) (v1:Int) (v2:Int):Option ((Int × Int) ⊕ Option (Int)):=
 if(decide (v2<(a0.length:Int)))then
  (zaA a0 v2).bind fun y3=>
  (zgm y3 v1).bind fun v4=>
  if(decide (v4<0))then
   some (.inr (some (-1)))
  else
   some (.inl (v4,(IntKind.i64.wrap (v2+1))))
 else
  some (.inr (some v1))
noncomputable def zfw (a0:List zbI) (a1:Int):Option (Int):=
 if(decide ((IntKind.i64.wrap (a1-(a0.length:Int)))<0))then
  some (-1)
 else
  zal (fun s:Int × Int=>zaM a0 s.1 s.2) ((IntKind.i64.wrap (a1-(a0.length:Int))),0)
noncomputable def ze2 (a0:zab) (a1:Int):Option (Int):=
 if(decide ((IntKind.i64.wrap (a1-(a0.fName.length:Int)))<0))then
  some (-1)
 else
  (zcW a0.fCols (IntKind.i64.wrap (a1-(a0.fName.length:Int)))).bind fun v1=>
  if(decide (v1<0))then
   some (-1)
  else
   (zfw a0.fIdxs v1).bind fun v2=>
   if(decide (v2<0))then
    some (-1)
   else
    some v2
noncomputable def zcU (a0:List zab) (v1:Int) (v2:Int):Option ((Int × Int) ⊕ Option (Int)):=
 if(decide (v2<(a0.length:Int)))then
  (zaA a0 v2).bind fun y3=>
  (ze2 y3 v1).bind fun v4=>
  if(decide (v4<0))then
   some (.inr (some (-1)))
  else
   some (.inl (v4,(IntKind.i64.wrap (v2+1))))
 else
  some (.inr (some v1))
noncomputable def zgw (a0:List zab) (a1:Int):Option (Int):=
 if(decide ((IntKind.i64.wrap (a1-(a0.length:Int)))<0))then
  some (-1)
 else
  zal (fun s:Int × Int=>zcU a0 s.1 s.2) ((IntKind.i64.wrap (a1-(a0.length:Int))),0)
noncomputable def ziU (a0:List Int) (a1:Int):Option (Int):=
 if(decide ((IntKind.i64.wrap (a1-(a0.length:Int)))<0))then
  some (-1)
 else
  some (IntKind.i64.wrap (a1-(a0.length:Int)))
noncomputable def zeU (a0:zaa) (a1:Int):Option (Int):=
 if(decide ((IntKind.i64.wrap (a1-(a0.fKey.length:Int)))<0))then
  some (-1)
 else
  if(decide ((IntKind.i64.wrap ((IntKind.i64.wrap (a1-(a0.fKey.length:Int)))-(a0.fVal.length:Int)))<0))then
   some (-1)
  else
   some (IntKind.i64.wrap ((IntKind.i64.wrap (a1-(a0.fKey.length:Int)))-(a0.fVal.length:Int)))
noncomputable def zaR (a0:List zaa) (v1:Int) (v2:Int):Option ((Int × Int) ⊕ Option (Int)):=
 if(decide (v2<(a0.length:Int)))then
  (zaA a0 v2).bind fun y3=>
  (zeU y3 v1).bind fun v4=>
  if(decide (v4<0))then
   some (.inr (some (-1)))
  else
   some (.inl (v4,(IntKind.i64.wrap (v2+1))))
 else
  some (.inr (some v1))
noncomputable def zd7 (a0:List zaa) (a1:Int):Option (Int):=
 if(decide ((IntKind.i64.wrap (a1-(a0.length:Int)))<0))then
  some (-1)
 else
  zal (fun s:Int × Int=>zaR a0 s.1 s.2) ((IntKind.i64.wrap (a1-(a0.length:Int))),0)
noncomputable def ze0 (a0:zaf) (a1:Int):Option (Int):=
 if(decide ((IntKind.i64.wrap (a1-(a0.fName.length:Int)))<0))then
  some (-1)
 else
  (zgw a0.fWays (IntKind.i64.wrap (a1-(a0.fName.length:Int)))).bind fun v1=>
  if(decide (v1<0))then
   some (-1)
  else
   (ziU a0.fAt v1).bind fun v2=>
   if(decide (v2<0))then
    some (-1)
   else
    (zd7 a0.fStore v2).bind fun v3=>
    if(decide (v3<0))then
     some (-1)
    else
     some v3
noncomputable def zil (a0:zdu) (a1:Int):Option (Int):=
 (zcW a0.fVals a1).bind fun v1=>
 if(decide (v1<0))then
  some (-1)
 else
  some v1
noncomputable def zgD (a0:zat) (a1:Int):Option (Int):=
 (zil a0.fOld a1).bind fun v1=>
 if(decide (v1<0))then
  some (-1)
 else
  (zil a0.fNew v1).bind fun v2=>
  if(decide (v2<0))then
   some (-1)
  else
   some v2
noncomputable def zdk (a0:zad) (a1:Int):Option (Int):=
 (zgD a0.fAct a1).bind fun v1=>
 if(decide (v1<0))then
  some (-1)
 else
  some v1
noncomputable def za7 (a0:List (List UInt8)) (v1:Int) (v2:List (List UInt8)):Option ((Int × List (List UInt8)) ⊕ Option (List (List UInt8))):=
 if(decide (v1<(a0.length:Int)))then
  (zaA a0 v1).bind fun y3=>
  (zaA v2 v1).bind fun y4=>
  some (.inl ((IntKind.i64.wrap (v1+1)),(v2.set (v1).toNat y3)))
 else
  some (.inr (some v2))
noncomputable def zc0 (a0:List (List UInt8)):Option (List (List UInt8)):=
 req (0≤(a0.length:Int)∧(a0.length:Int)*16≤140737488355328∧(a0.length:Int)≤140737488355328)<|
 zal (fun s:Int × List (List UInt8)=>za7 a0 s.1 s.2) (0,(List.replicate ((a0.length:Int)).toNat ([]:List UInt8)))
noncomputable def zjD (a0:zbI):Option (zbI):=
 some a0
noncomputable def zbP (a0:List zbI) (v1:Int) (v2:List zbI):Option ((Int × List zbI) ⊕ Option (List zbI)):=
 if(decide (v1<(a0.length:Int)))then
  (zaA a0 v1).bind fun y3=>
  (zjD y3).bind fun v4=>
  (zaA v2 v1).bind fun y5=>
  some (.inl ((IntKind.i64.wrap (v1+1)),(v2.set (v1).toNat v4)))
 else
  some (.inr (some v2))
noncomputable def zfx (a0:List zbI):Option (List zbI):=
 req (0≤(a0.length:Int)∧(a0.length:Int)*32≤140737488355328∧(a0.length:Int)≤140737488355328)<|
 zal (fun s:Int × List zbI=>zbP a0 s.1 s.2) (0,(List.replicate ((a0.length:Int)).toNat (⟨([]:List UInt8),0,0⟩:zbI)))
noncomputable def zeR (a0:zab):Option (zab):=
 (zc0 a0.fCols).bind fun v1=>
 (zfx a0.fIdxs).bind fun v2=>
 some (⟨a0.fName,v1,v2⟩:zab)
noncomputable def zdR (a0:List zab) (v1:Int) (v2:List zab):Option ((Int × List zab) ⊕ Option (List zab)):=
 if(decide (v1<(a0.length:Int)))then
  (zaA a0 v1).bind fun y3=>
  (zeR y3).bind fun v4=>
  (zaA v2 v1).bind fun y5=>
  some (.inl ((IntKind.i64.wrap (v1+1)),(v2.set (v1).toNat v4)))
 else
  some (.inr (some v2))
noncomputable def zgM (a0:List zab):Option (List zab):=
 req (0≤(a0.length:Int)∧(a0.length:Int)*64≤140737488355328∧(a0.length:Int)≤140737488355328)<|
 zal (fun s:Int × List zab=>zdR a0 s.1 s.2) (0,(List.replicate ((a0.length:Int)).toNat (⟨([]:List UInt8), [], []⟩:zab)))
noncomputable def zeK (a0:List Int) (v1:Int) (v2:List Int):Option ((Int × List Int) ⊕ Option (List Int)):=
 if(decide (v1<(a0.length:Int)))then
  (zaA a0 v1).bind fun y3=>
  (zaA v2 v1).bind fun y4=>
  some (.inl ((IntKind.i64.wrap (v1+1)),(v2.set (v1).toNat y3)))
 else
  some (.inr (some v2))
noncomputable def ziY (a0:List Int):Option (List Int):=
 req (0≤(a0.length:Int)∧(a0.length:Int)*8≤140737488355328∧(a0.length:Int)≤140737488355328)<|
 zal (fun s:Int × List Int=>zeK a0 s.1 s.2) (0,(List.replicate ((a0.length:Int)).toNat 0))
noncomputable def zhW (a0:zaa):Option (zaa):=
 some a0
noncomputable def zbd (a0:List zaa) (v1:Int) (v2:List zaa):Option ((Int × List zaa) ⊕ Option (List zaa)):=
 if(decide (v1<(a0.length:Int)))then
  (zaA a0 v1).bind fun y3=>
  (zhW y3).bind fun v4=>
  (zaA v2 v1).bind fun y5=>
  some (.inl ((IntKind.i64.wrap (v1+1)),(v2.set (v1).toNat v4)))
 else
  some (.inr (some v2))
noncomputable def zd9 (a0:List zaa):Option (List zaa):=
 req (0≤(a0.length:Int)∧(a0.length:Int)*40≤140737488355328∧(a0.length:Int)≤140737488355328)<|
 zal (fun s:Int × List zaa=>zbd a0 s.1 s.2) (0,(List.replicate ((a0.length:Int)).toNat (⟨([]:List UInt8),([]:List UInt8),false⟩:zaa)))
noncomputable def za1 (a0:zaf):Option (zaf):=
 (zgM a0.fWays).bind fun v1=>
 (ziY a0.fAt).bind fun v2=>
 (zd9 a0.fStore).bind fun v3=>
 some (⟨a0.fName,v1,v2,v3⟩:zaf)
noncomputable def zih (a0:zdu):Option (zdu):=
 (zc0 a0.fVals).bind fun v1=>
 some (⟨v1⟩:zdu)
noncomputable def zgs (a0:zat):Option (zat):=
 (zih a0.fOld).bind fun v1=>
 (zih a0.fNew).bind fun v2=>
 some (⟨a0.fKind,v1,v2⟩:zat)
noncomputable def zaZ (a0:zad):Option (zad):=
 (zgs a0.fAct).bind fun v1=>
 some (⟨a0.fServer,a0.fStep,v1⟩:zad)
noncomputable def zbC (a0:Int) (a1:Int) (a2:Int):Option (Bool):=
 some ((decide (a0≥a1))&&(decide (a0≤a2)))
noncomputable def zfG (a0:List UInt8) (a1:Int):Option (Bool):=
 some ((decide ((a0.length:Int)≥1))&&(decide ((a0.length:Int)≤a1)))
noncomputable def zfE (a0:List UInt8) (a1:Int) (v1:Int):Option ((Int) ⊕ Option (Bool)):=
 if(decide (v1<(a0.length:Int)))then
  (zaA a0 v1).bind fun y2=>
  if((decide ((y2.toNat:Int)<97))||(decide ((y2.toNat:Int)>122)))then
   some (.inr (some false))
  else
   some (.inl (IntKind.i64.wrap (v1+1)))
 else
  some (.inr (zfG a0 a1))
noncomputable def zdf (a0:List UInt8) (a1:Int):Option (Bool):=
 zal (fun s:Int=>zfE a0 a1 s) 0
noncomputable def zjk (a0:List (List UInt8)) (a1:List UInt8) (v1:Int):Option ((Int) ⊕ Option (Int)):=
 if(decide (v1<(a0.length:Int)))then
  (zaA a0 v1).bind fun y2=>
  if(y2==a1)then
   some (.inr (some v1))
  else
   some (.inl (IntKind.i64.wrap (v1+1)))
 else
  some (.inr (some (-1)))
noncomputable def zh2 (a0:List (List UInt8)) (a1:List UInt8):Option (Int):=
 zal (fun s:Int=>zjk a0 a1 s) 0
noncomputable def zhs (a0:List (List UInt8)):Option (Bool):=
 (zbC (a0.length:Int) 2 4).bind fun v1=>
 some v1
noncomputable def zhv (a0:List (List UInt8)) (v2:Int):Option ((Int) ⊕ Option (Bool)):=
 if(decide (v2<(a0.length:Int)))then
  (zaA a0 v2).bind fun y3=>
  (zdf y3 3).bind fun v4=>
  if v4 then
   req (0≤(0:Int)∧(0:Int)≤v2∧v2≤(a0.length:Int))<|
   (zh2 (zfM a0 0 v2) y3).bind fun v5=>
   if(decide (v5≥0))then
    some (.inr (some false))
   else
    some (.inl (IntKind.i64.wrap (v2+1)))
  else
   some (.inr (some false))
 else
  some (.inr (zhs a0))
noncomputable def zhT (a0:List (List UInt8)):Option (Bool):=
 zal (fun s:Int=>zhv a0 s) 0
noncomputable def zev (a0:zab) (v3:Int):Option ((Int) ⊕ Option (Bool)):=
 if(decide (v3<(a0.fIdxs.length:Int)))then
  (zaA a0.fIdxs v3).bind fun y4=>
  (zdf y4.fName 1).bind fun v5=>
  if v5 then
   (zbC y4.fCol 1 (IntKind.i64.wrap ((a0.fCols.length:Int)-1))).bind fun v6=>
   if v6 then
    (zbC y4.fStage 0 3).bind fun v7=>
    if(decide (v3>0))then
     if v7 then
      (zaA a0.fIdxs (IntKind.i64.wrap (v3-1))).bind fun y8=>
      if(!Op.bytesLess y8.fName y4.fName)then
       some (.inr (some false))
      else
       some (.inl (IntKind.i64.wrap (v3+1)))
     else
      some (.inr (some false))
    else
     if((!v7)||false)then
      some (.inr (some false))
     else
      some (.inl (IntKind.i64.wrap (v3+1)))
   else
    some (.inr (some false))
  else
   some (.inr (some false))
 else
  some (.inr (some true))
noncomputable def zci (a0:zab):Option (Bool):=
 (zdf a0.fName 1).bind fun v1=>
 if v1 then
  (zhT a0.fCols).bind fun v2=>
  if((!v2)||(decide ((a0.fIdxs.length:Int)>3)))then
   some false
  else
   zal (fun s:Int=>zev a0 s) 0
 else
  some false
noncomputable def zis (a0:zab) (a1:List UInt8) (v1:Int):Option ((Int) ⊕ Option (Int)):=
 if(decide (v1<(a0.fIdxs.length:Int)))then
  (zaA a0.fIdxs v1).bind fun y2=>
  if(y2.fName==a1)then
   some (.inr (some v1))
  else
   some (.inl (IntKind.i64.wrap (v1+1)))
 else
  some (.inr (some (-1)))
noncomputable def zbv (a0:zab) (a1:List UInt8):Option (Int):=
 zal (fun s:Int=>zis a0 a1 s) 0
noncomputable def zfB (a0:zab):Option (zab):=
 req (((([]:List (List UInt8)).length:Int)+((a0.fCols).length:Int))*16≤140737488355328∧(([]:List (List UInt8)).length:Int)+((a0.fCols).length:Int)≤140737488355328)<|
 req (((([]:List zbI).length:Int)+((a0.fIdxs).length:Int))*32≤140737488355328∧(([]:List zbI).length:Int)+((a0.fIdxs).length:Int)≤140737488355328)<|
 some a0
noncomputable def zgN (a0:zab) (a1:List UInt8) (a2:Int):Option (zab):=
 (zfB a0).bind fun v1=>
 (zbv a0 a1).bind fun v2=>
 (zaA v1.fIdxs v2).bind fun y3=>
 some (⟨v1.fName,v1.fCols,(v1.fIdxs.set (v2).toNat {y3 with fStage:=a2})⟩:zab)
noncomputable def zeN (a0:zab) (a1:List UInt8) (a2:Int) (v4:Int) (v5:List zab):Option ((Int × List zab) ⊕ Option (List zab)):=
 if(v4 !=a2)then
  if(decide (v4<a2))then
   (zgN a0 a1 (IntKind.i64.wrap (v4+1))).bind fun v6=>
   req ((((v5).length:Int)+(([v6]:List zab).length:Int))*64≤140737488355328∧((v5).length:Int)+(([v6]:List zab).length:Int)≤140737488355328)<|
   some (.inl ((IntKind.i64.wrap (v4+1)),(v5++ [v6])))
  else
   (zgN a0 a1 (IntKind.i64.wrap (v4-1))).bind fun v7=>
   req ((((v5).length:Int)+(([v7]:List zab).length:Int))*64≤140737488355328∧((v5).length:Int)+(([v7]:List zab).length:Int)≤140737488355328)<|
   some (.inl ((IntKind.i64.wrap (v4-1)),(v5++ [v7])))
 else
  some (.inr (some v5))
noncomputable def zi4 (a0:zab) (a1:List UInt8) (a2:Int):Option (List zab):=
 (zfB a0).bind fun v1=>
 (zbv a0 a1).bind fun v2=>
 (zaA a0.fIdxs v2).bind fun y3=>
 zal (fun s:Int × List zab=>zeN a0 a1 a2 s.1 s.2) (y3.fStage, [v1])
noncomputable def zcy (a0:zab) (a1:zab) (v1:Int):Option ((Int) ⊕ Option (Bool)):=
 if(decide (v1<(a0.fIdxs.length:Int)))then
  (zaA a0.fIdxs v1).bind fun y2=>
  (zaA a1.fIdxs v1).bind fun y3=>
  if((y2.fName !=y3.fName)||(y2.fCol !=y3.fCol))then
   some (.inr (some false))
  else
   some (.inl (IntKind.i64.wrap (v1+1)))
 else
  some (.inr (some true))
noncomputable def zdM (a0:zab) (a1:zab):Option (Bool):=
 zal (fun s:Int=>zcy a0 a1 s) 0
noncomputable def zcG (a0:zab) (a1:zab) (v4:Int):Option ((Int) ⊕ Option (Bool)):=
 if(decide (v4<(a0.fCols.length:Int)))then
  (zaA a0.fCols v4).bind fun y5=>
  (zaA a1.fCols v4).bind fun y6=>
  if(y5 !=y6)then
   some (.inr (some false))
  else
   some (.inl (IntKind.i64.wrap (v4+1)))
 else
  some (.inr (zdM a0 a1))
noncomputable def zfd (a0:zab) (a1:zab):Option (Bool):=
 if(((a0.fName !=a1.fName)||((a0.fCols.length:Int) !=(a1.fCols.length:Int)))||((a0.fIdxs.length:Int) !=(a1.fIdxs.length:Int)))then
  some false
 else
  zal (fun s:Int=>zcG a0 a1 s) 0
noncomputable def ziS (a0:Int) (a1:Int):Option (Int):=
 if(decide (a0>a1))then
  some a0
 else
  some a1
noncomputable def zdJ (a0:zab) (a1:zab) (v1:Int) (v2:Int):Option ((Int × Int) ⊕ Option (Int)):=
 if(decide (v2<(a0.fIdxs.length:Int)))then
  (zaA a0.fIdxs v2).bind fun y3=>
  (zaA a1.fIdxs v2).bind fun y4=>
  (ziS (IntKind.i64.wrap (y3.fStage-y4.fStage)) (IntKind.i64.wrap (0-(IntKind.i64.wrap (y3.fStage-y4.fStage))))).bind fun v5=>
  some (.inl ((IntKind.i64.wrap (v1+v5)),(IntKind.i64.wrap (v2+1))))
 else
  some (.inr (some v1))
noncomputable def ziN (a0:zab) (a1:zab):Option (Int):=
 zal (fun s:Int × Int=>zdJ a0 a1 s.1 s.2) (0,0)
noncomputable def zeh (a0:zaf) (v10:List zab) (v11:Int):Option ((Int) ⊕ Option (Bool)):=
 if(decide (v11<(v10.length:Int)))then
  (zaA a0.fWays v11).bind fun y12=>
  (zci y12).bind fun v13=>
  if v13 then
   (zaA v10 v11).bind fun y14=>
   (zfd y14 y12).bind fun v15=>
   if v15 then
    (ziN y14 y12).bind fun v16=>
    if(v16 !=0)then
     some (.inr (some false))
    else
     some (.inl (IntKind.i64.wrap (v11+1)))
   else
    some (.inr (some false))
  else
   some (.inr (some false))
 else
  some (.inr (some true))
noncomputable def ze1 (a0:zaf):Option (Bool):=
 (zbC (a0.fWays.length:Int) 1 4).bind fun v1=>
 if v1 then
  (zaA a0.fWays 0).bind fun y2=>
  (zci y2).bind fun v3=>
  if v3 then
   (zbv y2 a0.fName).bind fun v4=>
   if(decide (v4<0))then
    some false
   else
    (zaA a0.fWays (IntKind.i64.wrap ((a0.fWays.length:Int)-1))).bind fun y5=>
    (zci y5).bind fun v6=>
    if v6 then
     (zbv y5 a0.fName).bind fun v7=>
     if(decide (v7<0))then
      some false
     else
      (zbv y5 a0.fName).bind fun v8=>
      (zaA y5.fIdxs v8).bind fun y9=>
      (zi4 y2 a0.fName y9.fStage).bind fun v10=>
      if((v10.length:Int) !=(a0.fWays.length:Int))then
       some false
      else
       zal (fun s:Int=>zeh a0 v10 s) 0
    else
     some false
  else
   some false
 else
  some false
noncomputable def zd3 (a0:List Int) (a1:Int) (a2:Int) (v1:Int):Option ((Int) ⊕ Option (Bool)):=
 if(decide (v1<(a0.length:Int)))then
  (zaA a0 v1).bind fun y2=>
  (zbC y2 a1 a2).bind fun v3=>
  if(!v3)then
   some (.inr (some false))
  else
   some (.inl (IntKind.i64.wrap (v1+1)))
 else
  some (.inr (some true))
noncomputable def zjK (a0:List Int) (a1:Int) (a2:Int):Option (Bool):=
 zal (fun s:Int=>zd3 a0 a1 a2 s) 0
noncomputable def zhD (v1:Int) (v3:Bool):Option ((Int) ⊕ Option (Bool)):=
 if(!v3)then
  some (.inr (some false))
 else
  some (.inl (IntKind.i64.wrap (v1+1)))
noncomputable def zec (a1:List UInt8) (v1:Int) (y2:UInt8) (v4:Bool) (v5:Int):Option ((Bool × Int) ⊕ Option ((Int) ⊕ Option (Bool))):=
 if(decide (v5<(a1.length:Int)))then
  if v4 then
   some (.inl (true,(IntKind.i64.wrap (v5+1))))
  else
   (zaA a1 v5).bind fun y6=>
   some (.inl (((y2.toNat:Int)==(y6.toNat:Int)),(IntKind.i64.wrap (v5+1))))
 else
  some (.inr (zhD v1 v4))
noncomputable def zhj (a0:List UInt8) (a1:List UInt8) (v1:Int):Option ((Int) ⊕ Option (Bool)):=
 if(decide (v1<(a0.length:Int)))then
  (zaA a0 v1).bind fun y2=>
  zal (fun s:Bool × Int=>zec a1 v1 y2 s.1 s.2) ((((decide ((y2.toNat:Int)≥97))&&(decide ((y2.toNat:Int)≤122)))||((decide ((y2.toNat:Int)≥48))&&(decide ((y2.toNat:Int)≤57)))),0)
 else
  some (.inr (some true))
noncomputable def zeZ (a0:List UInt8) (a1:List UInt8):Option (Bool):=
 zal (fun s:Int=>zhj a0 a1 s) 0
noncomputable def zid (a0:List UInt8):Option (Bool):=
 (zbC (a0.length:Int) 1 12).bind fun v1=>
 if v1 then
  (zeZ a0 ([46,47]:List UInt8)).bind fun v2=>
  some v2
 else
  some false
noncomputable def zh6 (a0:List UInt8):Option (Bool):=
 if(decide ((a0.length:Int)≤24))then
  (zeZ a0 ([46,45,44,95]:List UInt8)).bind fun v1=>
  some v1
 else
  some false
noncomputable def zhI (a0:List UInt8) (a1:List UInt8) (a2:Bool):Option (Bool):=
 (zid a0).bind fun v1=>
 if v1 then
  (zh6 a1).bind fun v2=>
  some (v2&&((!a2)||(a1==([]:List UInt8))))
 else
  some false
noncomputable def zgq (a0:List zaa):Option (Bool):=
 some (decide ((a0.length:Int)≤24))
noncomputable def zg4 (a0:List zaa) (v1:Int):Option ((Int) ⊕ Option (Bool)):=
 if(decide (v1<(a0.length:Int)))then
  (zaA a0 v1).bind fun y2=>
  (zhI y2.fKey y2.fVal y2.fGone).bind fun v3=>
  if(decide (v1>0))then
   if v3 then
    (zaA a0 (IntKind.i64.wrap (v1-1))).bind fun y4=>
    if(!Op.bytesLess y4.fKey y2.fKey)then
     some (.inr (some false))
    else
     some (.inl (IntKind.i64.wrap (v1+1)))
   else
    some (.inr (some false))
  else
   if((!v3)||false)then
    some (.inr (some false))
   else
    some (.inl (IntKind.i64.wrap (v1+1)))
 else
  some (.inr (zgq a0))
noncomputable def zgz (a0:List zaa):Option (Bool):=
 zal (fun s:Int=>zg4 a0 s) 0
noncomputable def zix (a0:List zaa):Option (Bool):=
 (zgz a0).bind fun v1=>
 some v1
noncomputable def ziw (a0:List zaa) (v2:Int):Option ((Int) ⊕ Option (Bool)):=
 if(decide (v2<(a0.length:Int)))then
  (zaA a0 v2).bind fun y3=>
  if y3.fGone then
   some (.inr (some false))
  else
   some (.inl (IntKind.i64.wrap (v2+1)))
 else
  some (.inr (zix a0))
noncomputable def zc6 (a0:List zaa):Option (Bool):=
 zal (fun s:Int=>ziw a0 s) 0
noncomputable def zeP (a0:zaf):Option (Bool):=
 (ze1 a0).bind fun v1=>
 if v1 then
  (zbC (a0.fAt.length:Int) 1 3).bind fun v2=>
  if v2 then
   (zjK a0.fAt 0 (IntKind.i64.wrap ((a0.fWays.length:Int)-1))).bind fun v3=>
   if v3 then
    (zc6 a0.fStore).bind fun v4=>
    some v4
   else
    some false
  else
   some false
 else
  some false
noncomputable def zl4 (a0:zat):Option (Bool):=
 some (((a0.fKind==0)&&((a0.fOld.fVals.length:Int)==0))&&((a0.fNew.fVals.length:Int)==0))
noncomputable def zef (a0:List UInt8):Option (Bool):=
 (zbC (a0.length:Int) 1 3).bind fun v1=>
 if v1 then
  (zeZ a0 ([]:List UInt8)).bind fun v2=>
  some v2
 else
  some false
noncomputable def zhm (a0:zab) (a1:zdu):Option (Bool):=
 some ((a1.fVals.length:Int)==(a0.fCols.length:Int))
noncomputable def zhl (a0:zab) (a1:zdu) (v1:Int):Option ((Int) ⊕ Option (Bool)):=
 if(decide (v1<(a1.fVals.length:Int)))then
  (zaA a1.fVals v1).bind fun y2=>
  (zef y2).bind fun v3=>
  if(!v3)then
   some (.inr (some false))
  else
   some (.inl (IntKind.i64.wrap (v1+1)))
 else
  some (.inr (zhm a0 a1))
noncomputable def zdb (a0:zab) (a1:zdu):Option (Bool):=
 zal (fun s:Int=>zhl a0 a1 s) 0
noncomputable def zfQ (a0:zab) (a1:zat):Option (Bool):=
 if(a1.fKind==1)then
  if((a1.fOld.fVals.length:Int)==0)then
   (zdb a0 a1.fNew).bind fun v1=>
   some v1
  else
   some false
 else
  if(a1.fKind==2)then
   if((a1.fNew.fVals.length:Int)==0)then
    (zdb a0 a1.fOld).bind fun v2=>
    some v2
   else
    some false
  else
   if(a1.fKind==3)then
    (zdb a0 a1.fOld).bind fun v3=>
    if v3 then
     (zdb a0 a1.fNew).bind fun v4=>
     if v4 then
      (zaA a1.fOld.fVals 0).bind fun y5=>
      (zaA a1.fNew.fVals 0).bind fun y6=>
      some (y5==y6)
     else
      some false
    else
     some false
   else
    some false
noncomputable def zeW (a0:zaf) (a1:zad):Option (Bool):=
 (zbC a1.fServer 0 (IntKind.i64.wrap ((a0.fAt.length:Int)-1))).bind fun v1=>
 if(!v1)then
  some false
 else
  if((a1.fStep==1)||(a1.fStep==(-1)))then
   (zl4 a1.fAct).bind fun v2=>
   some v2
  else
   if(a1.fStep==0)then
    (zaA a0.fAt a1.fServer).bind fun y3=>
    (zaA a0.fWays y3).bind fun y4=>
    (zfQ y4 a1.fAct).bind fun v5=>
    some v5
   else
    some false
noncomputable def zdq (a0:zaf) (a1:zad):Option (Bool):=
 (zeP a0).bind fun v1=>
 if v1 then
  (zeW a0 a1).bind fun v2=>
  some v2
 else
  some false
noncomputable def zjP (a0:List Int):Option (List Int):=
 req (((([]:List Int).length:Int)+((a0).length:Int))*8≤140737488355328∧(([]:List Int).length:Int)+((a0).length:Int)≤140737488355328)<|
 some a0
noncomputable def zdI (a0:zaf) (v1:List Int) (v2:Int) (v3:List zab):Option ((Int × List zab) ⊕ Option (zaf)):=
 if(decide (v2<(a0.fWays.length:Int)))then
  (zaA a0.fWays v2).bind fun y4=>
  (zfB y4).bind fun v5=>
  req ((((v3).length:Int)+(([v5]:List zab).length:Int))*64≤140737488355328∧((v3).length:Int)+(([v5]:List zab).length:Int)≤140737488355328)<|
  some (.inl ((IntKind.i64.wrap (v2+1)),(v3++ [v5])))
 else
  some (.inr (some (⟨a0.fName,v3,v1,a0.fStore⟩:zaf)))
noncomputable def zgW (a0:zaf):Option (zaf):=
 (zjP a0.fAt).bind fun v1=>
 req (((([]:List zaa).length:Int)+((a0.fStore).length:Int))*40≤140737488355328∧(([]:List zaa).length:Int)+((a0.fStore).length:Int)≤140737488355328)<|
 zal (fun s:Int × List zab=>zdI a0 v1 s.1 s.2) (0, [])
noncomputable def zhY (a0:zab) (a1:zat):Option (Bool):=
 (zci a0).bind fun v1=>
 if v1 then
  (zfQ a0 a1).bind fun v2=>
  some v2
 else
  some false
noncomputable def zdj (a0:List (List UInt8)) (a1:List UInt8) (v1:List UInt8) (v2:Int):Option ((List UInt8 × Int) ⊕ Option (List UInt8)):=
 if(decide (v2<(a0.length:Int)))then
  (zaA a0 v2).bind fun y3=>
  if(decide (v2>0))then
   req ((v1).length+(a1).length≤9223372036854775807)<|
   req (((v1++a1)).length+(y3).length≤9223372036854775807)<|
   some (.inl (((v1++a1)++y3),(IntKind.i64.wrap (v2+1))))
  else
   req ((v1).length+(y3).length≤9223372036854775807)<|
   some (.inl ((v1++y3),(IntKind.i64.wrap (v2+1))))
 else
  some (.inr (some v1))
noncomputable def zj9 (a0:List (List UInt8)) (a1:List UInt8):Option (List UInt8):=
 zal (fun s:List UInt8 × Int=>zdj a0 a1 s.1 s.2) (([]:List UInt8),0)
noncomputable def zdo (a0:zab) (a1:zdu):Option (zaa):=
 req ((a0.fName).length+(([47]:List UInt8)).length≤9223372036854775807)<|
 (zaA a1.fVals 0).bind fun y1=>
 req (((a0.fName++([47]:List UInt8))).length+(y1).length≤9223372036854775807)<|
 req (0≤(1:Int)∧(1:Int)≤(a1.fVals.length:Int)∧(a1.fVals.length:Int)≤(a1.fVals.length:Int))<|
 (zj9 (zfM a1.fVals 1 (a1.fVals.length:Int)) ([44]:List UInt8)).bind fun v2=>
 some (⟨((a0.fName++([47]:List UInt8))++y1),v2,false⟩:zaa)
noncomputable def zhK (a0:zab) (a1:zat):Option (List DOp):=
 if(a1.fKind==1)then
  (zdo a0 a1.fNew).bind fun v1=>
  some [(⟨6,v1.fKey,([]:List UInt8),0⟩:DOp),(⟨2,v1.fKey,v1.fVal,0⟩:DOp)]
 else
  (zdo a0 a1.fOld).bind fun v2=>
  if(a1.fKind==2)then
   some [(⟨7,v2.fKey,v2.fVal,0⟩:DOp),(⟨3,v2.fKey,([]:List UInt8),0⟩:DOp)]
  else
   (zdo a0 a1.fNew).bind fun v3=>
   some [(⟨7,v2.fKey,v2.fVal,0⟩:DOp),(⟨2,v2.fKey,v3.fVal,0⟩:DOp)]
noncomputable def zej (a0:zab) (a1:zbI) (a2:zdu):Option (List UInt8):=
 req ((a0.fName).length+(([46]:List UInt8)).length≤9223372036854775807)<|
 req (((a0.fName++([46]:List UInt8))).length+(a1.fName).length≤9223372036854775807)<|
 req ((((a0.fName++([46]:List UInt8))++a1.fName)).length+(([47]:List UInt8)).length≤9223372036854775807)<|
 (zaA a2.fVals a1.fCol).bind fun y1=>
 req (((((a0.fName++([46]:List UInt8))++a1.fName)++([47]:List UInt8))).length+(y1).length≤9223372036854775807)<|
 req ((((((a0.fName++([46]:List UInt8))++a1.fName)++([47]:List UInt8))++y1)).length+(([47]:List UInt8)).length≤9223372036854775807)<|
 (zaA a2.fVals 0).bind fun y2=>
 req (((((((a0.fName++([46]:List UInt8))++a1.fName)++([47]:List UInt8))++y1)++([47]:List UInt8))).length+(y2).length≤9223372036854775807)<|
 some ((((((a0.fName++([46]:List UInt8))++a1.fName)++([47]:List UInt8))++y1)++([47]:List UInt8))++y2)
noncomputable def zf4 (a1:zbI) (v2:List UInt8) (v3:List DOp):Option (List DOp):=
 if((v2 !=([]:List UInt8))&&(decide (a1.fStage≥2)))then
  req ((((v3).length:Int)+(([(⟨2,v2,([]:List UInt8),0⟩:DOp)]:List DOp).length:Int))*48≤140737488355328∧((v3).length:Int)+(([(⟨2,v2,([]:List UInt8),0⟩:DOp)]:List DOp).length:Int)≤140737488355328)<|
  some (v3++ [(⟨2,v2,([]:List UInt8),0⟩:DOp)])
 else
  some v3
noncomputable def zeH (a1:zbI) (v1:List UInt8) (v2:List UInt8):Option (List DOp):=
 if(((v1 !=([]:List UInt8))&&(v1 !=v2))&&(decide (a1.fStage≥1)))then
  req (((([]:List DOp).length:Int)+(([(⟨3,v1,([]:List UInt8),0⟩:DOp)]:List DOp).length:Int))*48≤140737488355328∧(([]:List DOp).length:Int)+(([(⟨3,v1,([]:List UInt8),0⟩:DOp)]:List DOp).length:Int)≤140737488355328)<|
  zf4 a1 v2 [(⟨3,v1,([]:List UInt8),0⟩:DOp)]
 else
  zf4 a1 v2 []
noncomputable def zf2 (a0:zab) (a1:zbI) (a2:zat) (v1:List UInt8):Option (List DOp):=
 if(a2.fKind !=2)then
  (zej a0 a1 a2.fNew).bind fun v4=>
  zeH a1 v1 v4
 else
  zeH a1 v1 ([]:List UInt8)
noncomputable def zgH (a0:zab) (a1:zbI) (a2:zat):Option (List DOp):=
 zyU (σ:=List UInt8) (
  if(a2.fKind !=1)then
   (zej a0 a1 a2.fOld).bind fun v5=>
   some (.inl v5)
  else
   some (.inl ([]:List UInt8))
 ) (fun s=>zf2 a0 a1 a2 s)
noncomputable def zdF (a0:zab) (a1:zat) (v2:Int) (v3:List DOp):Option ((Int × List DOp) ⊕ Option (List DOp)):=
 if(decide (v2<(a0.fIdxs.length:Int)))then
  (zaA a0.fIdxs v2).bind fun y4=>
  (zgH a0 y4 a1).bind fun v5=>
  req ((((v3).length:Int)+((v5).length:Int))*48≤140737488355328∧((v3).length:Int)+((v5).length:Int)≤140737488355328)<|
  some (.inl ((IntKind.i64.wrap (v2+1)),(v3++v5)))
 else
  some (.inr (some v3))
noncomputable def ziX (a0:zab) (a1:zat):Option (List DOp):=
 (zhK a0 a1).bind fun v1=>
 zal (fun s:Int × List DOp=>zdF a0 a1 s.1 s.2) (0,v1)
noncomputable def zjX (a0:DOp) (v2:Bool):Option (Bool):=
 if v2 then
  (zh6 a0.fVal).bind fun v3=>
  some (v3&&(a0.fBy==0))
 else
  if(a0.fKind==4)then
   if(a0.fKind==4)then
    if(a0.fVal==([]:List UInt8))then
     (zbC a0.fBy (-9999) 9999).bind fun v4=>
     some v4
    else
     some false
   else
    some (((((a0.fKind==1)||(a0.fKind==3))||(a0.fKind==6))&&(a0.fVal==([]:List UInt8)))&&(a0.fBy==0))
  else
   if(a0.fKind==5)then
    if(a0.fVal==([]:List UInt8))then
     (zbC a0.fBy (-9999) 9999).bind fun v5=>
     some v5
    else
     some false
   else
    some (((((a0.fKind==1)||(a0.fKind==3))||(a0.fKind==6))&&(a0.fVal==([]:List UInt8)))&&(a0.fBy==0))
noncomputable def zkH (a0:DOp):Option (Bool):=
 (zid a0.fKey).bind fun v1=>
 if(!v1)then
  some false
 else
  if(a0.fKind==2)then
   zjX a0 (a0.fKind==2)
  else
   zjX a0 (a0.fKind==7)
noncomputable def ziA (a0:List DOp):Option (Bool):=
 some (decide ((a0.length:Int)≤8))
noncomputable def zdG (a0:List DOp) (v1:Int):Option ((Int) ⊕ Option (Bool)):=
 if(decide (v1<(a0.length:Int)))then
  (zaA a0 v1).bind fun y2=>
  (zkH y2).bind fun v3=>
  if(!v3)then
   some (.inr (some false))
  else
   some (.inl (IntKind.i64.wrap (v1+1)))
 else
  some (.inr (ziA a0))
noncomputable def zi2 (a0:List DOp):Option (Bool):=
 zal (fun s:Int=>zdG a0 s) 0
noncomputable def zcS (a1:List zhe) (a2:List UInt8) (v1:Int):Option ((Int) ⊕ Option (List UInt8 × Bool × Bool)):=
 if(decide (v1<(a1.length:Int)))then
  (zaA a1 v1).bind fun y2=>
  if(y2.fKey==a2)then
   some (.inr (some (y2.fVal,y2.fThere,true)))
  else
   some (.inl (IntKind.i64.wrap (v1+1)))
 else
  some (.inr (some (([]:List UInt8),false,false)))
noncomputable def zfe (a1:List zhe) (a2:List UInt8):Option (List UInt8 × Bool × Bool):=
 zal (fun s:Int=>zcS a1 a2 s) 0
noncomputable def zcK (a0:List zaa) (a1:List zhe) (a2:List UInt8) (v3:Int):Option ((Int) ⊕ Option (List UInt8 × Bool × Bool)):=
 if(decide (v3<(a0.length:Int)))then
  (zaA a0 v3).bind fun y4=>
  if(y4.fKey==a2)then
   some (.inr (some (y4.fVal,(!y4.fGone),true)))
  else
   some (.inl (IntKind.i64.wrap (v3+1)))
 else
  some (.inr (zfe a1 a2))
noncomputable def zgL (a0:List zaa) (a1:List zhe) (a2:List UInt8):Option (List UInt8 × Bool × Bool):=
 zal (fun s:Int=>zcK a0 a1 a2 s) 0
noncomputable def zbN (a0:List UInt8) (v3:Int) (v4:Int):Option ((Int × Int) ⊕ Option (Int)):=
 if(decide (v4<(a0.length:Int)))then
  (zaA a0 v4).bind fun y5=>
  if((decide ((y5.toNat:Int)<48))||(decide ((y5.toNat:Int)>57)))then
   some (.inr (some (-1)))
  else
   some (.inl ((IntKind.i64.wrap ((IntKind.i64.wrap ((10:Int)*v3))+(IntKind.i64.wrap (IntKind.u8.wrap ((y5.toNat:Int)-48))))),(IntKind.i64.wrap (v4+1))))
 else
  some (.inr (some v3))
noncomputable def zgU (a0:List UInt8):Option (Int):=
 (zbC (a0.length:Int) 1 6).bind fun v1=>
 if v1 then
  (zaA a0 0).bind fun y2=>
  if(((y2.toNat:Int)==48)&&(decide ((a0.length:Int)>1)))then
   some (-1)
  else
   zal (fun s:Int × Int=>zbN a0 s.1 s.2) (0,0)
 else
  some (-1)
noncomputable def zgV (y1:UInt8) (v2:List UInt8):Option (Int × Bool):=
 (zgU v2).bind fun v3=>
 if((decide (v3<0))||(((y1.toNat:Int)==45)&&(v3==0)))then
  some (0,false)
 else
  if((y1.toNat:Int)==45)then
   some ((IntKind.i64.wrap (0-v3)),true)
  else
   some (v3,true)
noncomputable def zlD (v4:List UInt8):Option (Int × Bool):=
 (zgU v4).bind fun v5=>
 if((decide (v5<0))||false)then
  some (0,false)
 else
  some (v5,true)
noncomputable def zin (a0:List UInt8):Option (Int × Bool):=
 if(decide ((a0.length:Int)>0))then
  (zaA a0 0).bind fun y1=>
  if((y1.toNat:Int)==45)then
   req (0≤(1:Int)∧(1:Int)≤(a0.length:Int)∧(a0.length:Int)≤(a0.length:Int))<|
   zgV y1 (zfM a0 1 (a0.length:Int))
  else
   zgV y1 a0
 else
  zlD a0
noncomputable def zhQ (a0:DOp) (a1:List UInt8) (a2:Bool):Option (Bool):=
 (zin a1).bind fun v1=>
 if(a0.fKind==4)then
  if(!a2)then
   some false
  else
   if v1.2 then
    (zbC (IntKind.i64.wrap (v1.1+a0.fBy)) (-999999) 999999).bind fun v2=>
    some (!v2)
   else
    some true
 else
  if(a0.fKind==5)then
   some (((!a2)||(!v1.2))||(decide (v1.1<a0.fBy)))
  else
   if(a0.fKind==6)then
    some a2
   else
    if(a0.fKind==7)then
     some ((!a2)||(a1 !=a0.fVal))
    else
     some false
noncomputable def zfY (a0:List zaa) (a1:zaa) (v1:Int):Option (List zaa):=
 if(decide (v1>0))then
  (zaA a0 (IntKind.i64.wrap (v1-1))).bind fun y2=>
  if(y2.fKey==a1.fKey)then
   req (((([]:List zaa).length:Int)+((a0).length:Int))*40≤140737488355328∧(([]:List zaa).length:Int)+((a0).length:Int)≤140737488355328)<|
   (zaA a0 (IntKind.i64.wrap (v1-1))).bind fun y3=>
   some (a0.set ((IntKind.i64.wrap (v1-1))).toNat a1)
  else
   req (0≤v1∧v1≤(a0.length:Int)∧(a0.length:Int)≤(a0.length:Int))<|
   req (((([]:List zaa).length:Int)+(((zfM a0 v1 (a0.length:Int))).length:Int))*40≤140737488355328∧(([]:List zaa).length:Int)+(((zfM a0 v1 (a0.length:Int))).length:Int)≤140737488355328)<|
   req (0≤(0:Int)∧(0:Int)≤v1∧v1≤(a0.length:Int))<|
   req (((([]:List zaa).length:Int)+(((zfM a0 0 v1)).length:Int))*40≤140737488355328∧(([]:List zaa).length:Int)+(((zfM a0 0 v1)).length:Int)≤140737488355328)<|
   req (((((zfM a0 0 v1)).length:Int)+(([a1]:List zaa).length:Int))*40≤140737488355328∧(((zfM a0 0 v1)).length:Int)+(([a1]:List zaa).length:Int)≤140737488355328)<|
   req ((((((zfM a0 0 v1)++ [a1])).length:Int)+(((zfM a0 v1 (a0.length:Int))).length:Int))*40≤140737488355328∧((((zfM a0 0 v1)++ [a1])).length:Int)+(((zfM a0 v1 (a0.length:Int))).length:Int)≤140737488355328)<|
   some (((zfM a0 0 v1)++ [a1])++(zfM a0 v1 (a0.length:Int)))
 else
  req (0≤v1∧v1≤(a0.length:Int)∧(a0.length:Int)≤(a0.length:Int))<|
  req (((([]:List zaa).length:Int)+(((zfM a0 v1 (a0.length:Int))).length:Int))*40≤140737488355328∧(([]:List zaa).length:Int)+(((zfM a0 v1 (a0.length:Int))).length:Int)≤140737488355328)<|
  req (0≤(0:Int)∧(0:Int)≤v1∧v1≤(a0.length:Int))<|
  req (((([]:List zaa).length:Int)+(((zfM a0 0 v1)).length:Int))*40≤140737488355328∧(([]:List zaa).length:Int)+(((zfM a0 0 v1)).length:Int)≤140737488355328)<|
  req (((((zfM a0 0 v1)).length:Int)+(([a1]:List zaa).length:Int))*40≤140737488355328∧(((zfM a0 0 v1)).length:Int)+(([a1]:List zaa).length:Int)≤140737488355328)<|
  req ((((((zfM a0 0 v1)++ [a1])).length:Int)+(((zfM a0 v1 (a0.length:Int))).length:Int))*40≤140737488355328∧((((zfM a0 0 v1)++ [a1])).length:Int)+(((zfM a0 v1 (a0.length:Int))).length:Int)≤140737488355328)<|
  some (((zfM a0 0 v1)++ [a1])++(zfM a0 v1 (a0.length:Int)))
noncomputable def zcX (a0:List zaa) (a1:zaa) (v4:Int):Option ((Int) ⊕ Option (List zaa)):=
 if(decide (v4>0))then
  (zaA a0 (IntKind.i64.wrap (v4-1))).bind fun y5=>
  if(!(Op.bytesLess y5.fKey a1.fKey||y5.fKey==a1.fKey))then
   some (.inl (IntKind.i64.wrap (v4-1)))
  else
   some (.inr (zfY a0 a1 v4))
 else
  some (.inr (zfY a0 a1 v4))
noncomputable def zdO (a0:List zaa) (a1:zaa):Option (List zaa):=
 zal (fun s:Int=>zcX a0 a1 s) (a0.length:Int)
noncomputable def zfN:Nat→Int→Option (List UInt8)
 |0,_=>none
 |n_+1,a0=>
  if(decide (a0<10))then
   req (([(IntKind.u8.wrap (IntKind.i64.wrap ((48:Int)+a0)))]:List Int).length≤9223372036854775807)<|
   some ([(IntKind.u8.wrap (IntKind.i64.wrap ((48:Int)+a0)))].map fun n=>UInt8.ofNat n.toNat)
  else
   ((zfN n_) (IntKind.i64.wrap (Int.tdiv a0 10))).bind fun v1=>
   req (([(IntKind.u8.wrap (IntKind.i64.wrap ((48:Int)+(Int.tmod a0 10))))]:List Int).length≤9223372036854775807)<|
   req ((v1).length+(([(IntKind.u8.wrap (IntKind.i64.wrap ((48:Int)+(Int.tmod a0 10))))].map fun n=>UInt8.ofNat n.toNat)).length≤9223372036854775807)<|
   some (v1++([(IntKind.u8.wrap (IntKind.i64.wrap ((48:Int)+(Int.tmod a0 10))))].map fun n=>UInt8.ofNat n.toNat))
noncomputable def zl7:Int→Option (List UInt8):=zfN zDT
noncomputable def zkL (a0:Int):Option (List UInt8):=
 if(decide (a0<0))then
  (zl7 (IntKind.i64.wrap (0-a0))).bind fun v1=>
  req ((([45]:List UInt8)).length+(v1).length≤9223372036854775807)<|
  some ((([45]:List UInt8):List UInt8)++v1)
 else
  (zl7 a0).bind fun v2=>
  some v2
noncomputable def zaN (a0:List DOp) (a1:List zhe) (v1:List zaa) (v2:Int):Option ((List zaa × Int) ⊕ Option (Int × List UInt8 × List zaa)):=
 if(decide (v2<(a0.length:Int)))then
  (zaA a0 v2).bind fun y3=>
  (zgL v1 a1 y3.fKey).bind fun v4=>
  if(((!v4.2.2)&&(y3.fKind !=2))&&(y3.fKind !=3))then
   some (.inr (some (1,y3.fKey, [])))
  else
   (zhQ y3 v4.1 v4.2.1).bind fun v5=>
   if v5 then
    some (.inr (some (2,([]:List UInt8), [])))
   else
    if(y3.fKind==2)then
     (zdO v1 (⟨y3.fKey,y3.fVal,false⟩:zaa)).bind fun v6=>
     some (.inl (v6,(IntKind.i64.wrap (v2+1))))
    else
     if(y3.fKind==3)then
      (zdO v1 (⟨y3.fKey,([]:List UInt8),true⟩:zaa)).bind fun v7=>
      some (.inl (v7,(IntKind.i64.wrap (v2+1))))
     else
      if(y3.fKind==4)then
       (zin v4.1).bind fun v8=>
       if(!v4.2.1)then
        (zkL (IntKind.i64.wrap ((0:Int)+y3.fBy))).bind fun v9=>
        (zdO v1 (⟨y3.fKey,v9,false⟩:zaa)).bind fun v10=>
        some (.inl (v10,(IntKind.i64.wrap (v2+1))))
       else
        (zkL (IntKind.i64.wrap (v8.1+y3.fBy))).bind fun v11=>
        (zdO v1 (⟨y3.fKey,v11,false⟩:zaa)).bind fun v12=>
        some (.inl (v12,(IntKind.i64.wrap (v2+1))))
      else
       some (.inl (v1,(IntKind.i64.wrap (v2+1))))
 else
  some (.inr (some (3,([]:List UInt8),v1)))
noncomputable def zkC (a0:List DOp) (a1:List zhe):Option (Int × List UInt8 × List zaa):=
 zal (fun s:List zaa × Int=>zaN a0 a1 s.1 s.2) ([],0)
noncomputable def zk6 (a1:List UInt8):Option (zhe):=
 some (⟨a1,([]:List UInt8),false⟩:zhe)
noncomputable def zdE (a0:List zaa) (a1:List UInt8) (v1:Int):Option ((Int) ⊕ Option (zhe)):=
 if(decide (v1<(a0.length:Int)))then
  (zaA a0 v1).bind fun y2=>
  if(y2.fKey==a1)then
   some (.inr (some (⟨a1,y2.fVal,true⟩:zhe)))
  else
   some (.inl (IntKind.i64.wrap (v1+1)))
 else
  some (.inr (zk6 a1))
noncomputable def ziV (a0:List zaa) (a1:List UInt8):Option (zhe):=
 zal (fun s:Int=>zdE a0 a1 s) 0
noncomputable def zco (a0:List zaa) (a1:List DOp) (v1:List zhe):Option ((List zhe) ⊕ Option (List zhe × List zaa × Bool)):=
 (zkC a1 v1).bind fun v2=>
 if(v2.1 !=1)then
  some (.inr (some (v1,v2.2.2,(v2.1==3))))
 else
  (ziV a0 v2.2.1).bind fun v3=>
  req ((((v1).length:Int)+(([v3]:List zhe).length:Int))*40≤140737488355328∧((v1).length:Int)+(([v3]:List zhe).length:Int)≤140737488355328)<|
  some (.inl (v1++ [v3]))
noncomputable def zj3 (a0:List zaa) (a1:List DOp):Option (List zhe × List zaa × Bool):=
 zal (fun s:List zhe=>zco a0 a1 s) []
noncomputable def zcn (v1:List zaa) (v2:List zaa) (v3:Int):Option ((List zaa × Int) ⊕ Option (List zaa)):=
 if(decide (v3<(v1.length:Int)))then
  (zaA v1 v3).bind fun y4=>
  if(!y4.fGone)then
   req ((((v2).length:Int)+(([y4]:List zaa).length:Int))*40≤140737488355328∧((v2).length:Int)+(([y4]:List zaa).length:Int)≤140737488355328)<|
   some (.inl ((v2++ [y4]),(IntKind.i64.wrap (v3+1))))
  else
   some (.inl (v2,(IntKind.i64.wrap (v3+1))))
 else
  some (.inr (some v2))
noncomputable def zf7 (v1:List zaa):Option (List zaa):=
 zal (fun s:List zaa × Int=>zcn v1 s.1 s.2) ([],0)
noncomputable def zcs (a1:List zaa) (v5:Int) (v6:List zaa):Option ((Int × List zaa) ⊕ Option (List zaa)):=
 if(decide (v5<(a1.length:Int)))then
  (zaA a1 v5).bind fun y7=>
  (zdO v6 y7).bind fun v8=>
  some (.inl ((IntKind.i64.wrap (v5+1)),v8))
 else
  some (.inr (zf7 v6))
noncomputable def zf0 (a0:List zaa) (a1:List zaa):Option (List zaa):=
 req (((([]:List zaa).length:Int)+((a0).length:Int))*40≤140737488355328∧(([]:List zaa).length:Int)+((a0).length:Int)≤140737488355328)<|
 zal (fun s:Int × List zaa=>zcs a1 s.1 s.2) (0,a0)
noncomputable def zbV (a1:List (List DOp)) (v2:List Bool) (v3:Int) (v4:List zaa):Option ((List Bool × Int × List zaa) ⊕ Option (List zaa × List Bool × Bool)):=
 if(decide (v3<(a1.length:Int)))then
  (zaA a1 v3).bind fun y5=>
  (zj3 v4 y5).bind fun v6=>
  (zf0 v4 v6.2.1).bind fun v7=>
  if v6.2.2 then
   (zc6 v7).bind fun v8=>
   if v8 then
    req ((((v2).length:Int)+(([v8]:List Bool).length:Int))*1≤140737488355328∧((v2).length:Int)+(([v8]:List Bool).length:Int)≤140737488355328)<|
    some (.inl ((v2++ [v8]),(IntKind.i64.wrap (v3+1)),v7))
   else
    req ((((v2).length:Int)+(([v8]:List Bool).length:Int))*1≤140737488355328∧((v2).length:Int)+(([v8]:List Bool).length:Int)≤140737488355328)<|
    some (.inl ((v2++ [v8]),(IntKind.i64.wrap (v3+1)),v4))
  else
   req ((((v2).length:Int)+(([false]:List Bool).length:Int))*1≤140737488355328∧((v2).length:Int)+(([false]:List Bool).length:Int)≤140737488355328)<|
   some (.inl ((v2++ [false]),(IntKind.i64.wrap (v3+1)),v4))
 else
  some (.inr (some (v4,v2,true)))
noncomputable def zgh (a0:List zaa) (a1:List (List DOp)):Option (List zaa × List Bool × Bool):=
 req (((([]:List zaa).length:Int)+((a0).length:Int))*40≤140737488355328∧(([]:List zaa).length:Int)+((a0).length:Int)≤140737488355328)<|
 zal (fun s:List Bool × Int × List zaa=>zbV a1 s.1 s.2.1 s.2.2) ([],0,a0)
noncomputable def zbS (a0:List zaa) (a1:List (List DOp)) (v9:Int):Option ((Int) ⊕ Option (List zaa × List Bool × Bool)):=
 if(decide (v9<(a1.length:Int)))then
  (zaA a1 v9).bind fun y10=>
  (zi2 y10).bind fun v11=>
  if(!v11)then
   some (.inr (some ([], [],false)))
  else
   some (.inl (IntKind.i64.wrap (v9+1)))
 else
  some (.inr (zgh a0 a1))
noncomputable def zfZ (a0:List zaa) (a1:List (List DOp)):Option (List zaa × List Bool × Bool):=
 (zc6 a0).bind fun v1=>
 if((!v1)||(decide ((a1.length:Int)>20)))then
  some ([], [],false)
 else
  zal (fun s:Int=>zbS a0 a1 s) 0
noncomputable def zjM (a0:List zaa) (a1:List DOp):Option (List zaa × Bool):=
 (zfZ a0 ([a1]:List (List DOp))).bind fun v1=>
 if((v1.2.1.length:Int)==1)then
  (zaA v1.2.1 0).bind fun y2=>
  some (v1.1,y2)
 else
  some (v1.1,false)
noncomputable def zjF (a0:zab) (a1:List zaa) (a2:zat):Option (List zaa × Bool × Bool):=
 (zhY a0 a2).bind fun v1=>
 if v1 then
  (zc6 a1).bind fun v2=>
  if(!v2)then
   some ([],false,false)
  else
   (ziX a0 a2).bind fun v3=>
   (zjM a1 v3).bind fun v4=>
   some (v4.1,v4.2,true)
 else
  some ([],false,false)
noncomputable def zes (a0:zaf) (a1:zad):Option (zaf × Bool):=
 (zgW a0).bind fun v1=>
 if(a1.fStep !=0)then
  (zaA v1.fAt a1.fServer).bind fun y2=>
  (zbC (IntKind.i64.wrap (y2+a1.fStep)) 0 (IntKind.i64.wrap ((a0.fWays.length:Int)-1))).bind fun v3=>
  if(!v3)then
   some (v1,false)
  else
   some ((⟨v1.fName,v1.fWays,(v1.fAt.set (a1.fServer).toNat (IntKind.i64.wrap (y2+a1.fStep))),v1.fStore⟩:zaf),true)
 else
  (zaA a0.fAt a1.fServer).bind fun y4=>
  (zaA a0.fWays y4).bind fun y5=>
  (zjF y5 a0.fStore a1.fAct).bind fun v6=>
  some ((⟨v1.fName,v1.fWays,v1.fAt,v6.1⟩:zaf),v6.2.1)
noncomputable def zfV (a0:zaf) (a1:zad):Option (zaf × Bool × Bool):=
 (zdq a0 a1).bind fun v1=>
 if(!v1)then
  some ((⟨([]:List UInt8), [], [], []⟩:zaf),false,false)
 else
  (zes a0 a1).bind fun v2=>
  some (v2.1,v2.2,true)
noncomputable def zbc (a0:Int) (a1:Int) (a2:Int):Option (Bool):=
 some ((decide (a0≥a1))&&(decide (a0≤a2)))
noncomputable def zcv (a0:List zaa) (v1:Int) (v2:List (List UInt8)):Option ((Int × List (List UInt8)) ⊕ Option (List (List UInt8))):=
 if(decide (v1<(a0.length:Int)))then
  (zaA a0 v1).bind fun y3=>
  req ((((v2).length:Int)+(([y3.fKey]:List (List UInt8)).length:Int))*16≤140737488355328∧((v2).length:Int)+(([y3.fKey]:List (List UInt8)).length:Int)≤140737488355328)<|
  some (.inl ((IntKind.i64.wrap (v1+1)),(v2++ [y3.fKey])))
 else
  some (.inr (some v2))
noncomputable def zf3 (a0:List zaa):Option (List (List UInt8)):=
 zal (fun s:Int × List (List UInt8)=>zcv a0 s.1 s.2) (0, [])
noncomputable def zfp (a0:Int):Option (Bool):=
 some (((decide (a0≥97))&&(decide (a0≤122)))||((decide (a0≥48))&&(decide (a0≤57))))
noncomputable def zgf (a0:List UInt8) (a1:Int):Option (Int):=
 (zbm a0 a1).bind fun v1=>
 some v1
noncomputable def zgv (a0:List UInt8) (a1:List UInt8) (v1:Int):Option ((Int) ⊕ Option (Bool)):=
 if(decide (v1<(a0.length:Int)))then
  (zaA a0 v1).bind fun y2=>
  (zfp (y2.toNat:Int)).bind fun v3=>
  if v3 then
   some (.inl (IntKind.i64.wrap (v1+1)))
  else
   (zgf a1 (y2.toNat:Int)).bind fun v4=>
   if(decide (v4<0))then
    some (.inr (some false))
   else
    some (.inl (IntKind.i64.wrap (v1+1)))
 else
  some (.inr (some true))
noncomputable def zed (a0:List UInt8) (a1:List UInt8):Option (Bool):=
 zal (fun s:Int=>zgv a0 a1 s) 0
noncomputable def zhL (a0:List UInt8):Option (Bool):=
 (zbc (a0.length:Int) 1 12).bind fun v1=>
 if v1 then
  (zed a0 ([46,47]:List UInt8)).bind fun v2=>
  some v2
 else
  some false
noncomputable def zf9 (a0:List (List UInt8)) (v1:Int):Option ((Int) ⊕ Option (Bool)):=
 if(decide (v1<(a0.length:Int)))then
  (zaA a0 v1).bind fun y2=>
  (zhL y2).bind fun v3=>
  if(decide (v1>0))then
   if v3 then
    (zaA a0 (IntKind.i64.wrap (v1-1))).bind fun y4=>
    if(Op.bytesLess y2 y4||y2==y4)then
     some (.inr (some false))
    else
     some (.inl (IntKind.i64.wrap (v1+1)))
   else
    some (.inr (some false))
  else
   if((!v3)||false)then
    some (.inr (some false))
   else
    some (.inl (IntKind.i64.wrap (v1+1)))
 else
  some (.inr (some true))
noncomputable def zf5 (a0:List (List UInt8)):Option (Bool):=
 zal (fun s:Int=>zf9 a0 s) 0
noncomputable def zhJ (a0:List UInt8):Option (Bool):=
 if(decide ((a0.length:Int)≤24))then
  (zed a0 ([46,45,44,95]:List UInt8)).bind fun v1=>
  some v1
 else
  some false
noncomputable def zgE (a0:List UInt8) (a1:Bool):Option (Bool):=
 (zhJ a0).bind fun v1=>
 some (v1&&(!(a1&&(a0 !=([]:List UInt8)))))
noncomputable def zet (a0:zaa):Option (Bool):=
 (zgE a0.fVal a0.fGone).bind fun v1=>
 some (!v1)
noncomputable def zfs (a0:List zaa):Option (Bool):=
 if(decide ((a0.length:Int)≤24))then
  (zf3 a0).bind fun v1=>
  (zf5 v1).bind fun v2=>
  if v2 then
   (zaT a0 (fun y0_=>zet y0_)).bind fun v3=>
   some (!v3)
  else
   some false
 else
  some false
noncomputable def zgR (a0:zaa):Option (Bool):=
 some a0.fGone
noncomputable def zi7 (a0:List zaa):Option (Bool):=
 (zfs a0).bind fun v1=>
 if v1 then
  (zaT a0 (fun y0_=>zgR y0_)).bind fun v2=>
  some (!v2)
 else
  some false
noncomputable def zfI (a0:List UInt8) (a1:Int):Option (Bool):=
 (zbc (a0.length:Int) 1 a1).bind fun v1=>
 some v1
noncomputable def zfJ (a0:List UInt8) (a1:Int) (v2:Int):Option ((Int) ⊕ Option (Bool)):=
 if(decide (v2<(a0.length:Int)))then
  (zaA a0 v2).bind fun y3=>
  if((decide ((y3.toNat:Int)<97))||(decide ((y3.toNat:Int)>122)))then
   some (.inr (some false))
  else
   some (.inl (IntKind.i64.wrap (v2+1)))
 else
  some (.inr (zfI a0 a1))
noncomputable def zdd (a0:List UInt8) (a1:Int):Option (Bool):=
 zal (fun s:Int=>zfJ a0 a1 s) 0
noncomputable def zb4 (a0:List (List UInt8)) (a1:List UInt8) (v1:Int):Option ((Int) ⊕ Option (Int)):=
 if(decide (v1<(a0.length:Int)))then
  (zaA a0 v1).bind fun y2=>
  if(a1==y2)then
   some (.inr (some v1))
  else
   some (.inl (IntKind.i64.wrap (v1+1)))
 else
  some (.inr (some (-1)))
noncomputable def zbw (a0:List (List UInt8)) (a1:List UInt8):Option (Int):=
 zal (fun s:Int=>zb4 a0 a1 s) 0
noncomputable def zaL (a0:List (List UInt8)) (a1:List UInt8):Option (Bool):=
 (zbw a0 a1).bind fun v1=>
 some (decide (v1≥0))
noncomputable def zjY (a0:Int):Option (Bool):=
 (zbc a0 0 3).bind fun v1=>
 some v1
noncomputable def zez (a0:zab) (v3:Int):Option ((Int) ⊕ Option (Bool)):=
 if(decide (v3<(a0.fIdxs.length:Int)))then
  (zaA a0.fIdxs v3).bind fun y4=>
  (zdd y4.fName 1).bind fun v5=>
  if v5 then
   (zbc y4.fCol 1 (IntKind.i64.wrap ((a0.fCols.length:Int)-1))).bind fun v6=>
   if v6 then
    (zjY y4.fStage).bind fun v7=>
    if(decide (v3>0))then
     if v7 then
      (zaA a0.fIdxs (IntKind.i64.wrap (v3-1))).bind fun y8=>
      if(Op.bytesLess y4.fName y8.fName||y4.fName==y8.fName)then
       some (.inr (some false))
      else
       some (.inl (IntKind.i64.wrap (v3+1)))
     else
      some (.inr (some false))
    else
     if((!v7)||false)then
      some (.inr (some false))
     else
      some (.inl (IntKind.i64.wrap (v3+1)))
   else
    some (.inr (some false))
  else
   some (.inr (some false))
 else
  some (.inr (some true))
noncomputable def zf8 (a0:zab):Option (Bool):=
 zal (fun s:Int=>zez a0 s) 0
noncomputable def zeF (a0:zab) (v9:Int):Option ((Int) ⊕ Option (Bool)):=
 if(decide (v9<(a0.fCols.length:Int)))then
  (zaA a0.fCols v9).bind fun y10=>
  (zdd y10 3).bind fun v11=>
  if v11 then
   req (0≤(0:Int)∧(0:Int)≤v9∧v9≤(a0.fCols.length:Int))<|
   (zaL (zfM a0.fCols 0 v9) y10).bind fun v12=>
   if v12 then
    some (.inr (some false))
   else
    some (.inl (IntKind.i64.wrap (v9+1)))
  else
   some (.inr (some false))
 else
  some (.inr (zf8 a0))
noncomputable def zfW (a0:zab):Option (Bool):=
 (zdd a0.fName 1).bind fun v1=>
 if v1 then
  (zbc (a0.fCols.length:Int) 2 4).bind fun v2=>
  if((!v2)||(decide ((a0.fIdxs.length:Int)>3)))then
   some false
  else
   zal (fun s:Int=>zeF a0 s) 0
 else
  some false
noncomputable def zen (a0:zbI) (a1:List UInt8):Option (Bool):=
 some (a0.fName==a1)
noncomputable def zbL (a0:zab) (a1:List UInt8):Option (Int):=
 (zbq a0.fIdxs (fun y0_=>zen y0_ a1)).bind fun v1=>
 some v1
noncomputable def zi6 (a0:zab) (a1:List UInt8):Option (Bool):=
 (zfW a0).bind fun v1=>
 if v1 then
  (zbL a0 a1).bind fun v2=>
  some (decide (v2≥0))
 else
  some false
noncomputable def zgA (a0:zab) (a1:zaf):Option (Bool):=
 (zi6 a0 a1.fName).bind fun v1=>
 some (!v1)
noncomputable def zgX (a0:Int) (a1:zaf):Option (Bool):=
 (zbc a0 0 (IntKind.i64.wrap ((a1.fWays.length:Int)-1))).bind fun v1=>
 some (!v1)
noncomputable def zbD (a0:zab) (a1:List UInt8):Option (zbI):=
 (zbL a0 a1).bind fun v1=>
 (zaA a0.fIdxs v1).bind fun y2=>
 some y2
noncomputable def zbF (a0:zaf) (a1:zab):Option (Int):=
 (zbD a1 a0.fName).bind fun v1=>
 some v1.fStage
noncomputable def zaY (xs:List (List UInt8)):Option (List (List UInt8)):=znq 16 xs
noncomputable def zbU (xs:List zbI):Option (List zbI):=znq 32 xs
noncomputable def zdH (a0:zab):Option (zab):=
 (zaY a0.fCols).bind fun v1=>
 (zbU a0.fIdxs).bind fun v2=>
 some (⟨a0.fName,v1,v2⟩:zab)
noncomputable def zb2 (a0:zab) (a1:List UInt8) (a2:Int):Option (zab):=
 (zdH a0).bind fun v1=>
 (zbL a0 a1).bind fun v2=>
 (zaA v1.fIdxs v2).bind fun y3=>
 some (⟨v1.fName,v1.fCols,(v1.fIdxs.set (v2).toNat {y3 with fStage:=a2})⟩:zab)
noncomputable def zb7 (a0:zab) (a1:List UInt8) (a2:Int) (v3:Int) (v4:List zab):Option ((Int × List zab) ⊕ Option (List zab)):=
 if(v3 !=a2)then
  if(decide (v3<a2))then
   (zb2 a0 a1 (IntKind.i64.wrap (v3+1))).bind fun v5=>
   req ((((v4).length:Int)+(([v5]:List zab).length:Int))*64≤140737488355328∧((v4).length:Int)+(([v5]:List zab).length:Int)≤140737488355328)<|
   some (.inl ((IntKind.i64.wrap (v3+1)),(v4++ [v5])))
  else
   (zb2 a0 a1 (IntKind.i64.wrap (v3-1))).bind fun v6=>
   req ((((v4).length:Int)+(([v6]:List zab).length:Int))*64≤140737488355328∧((v4).length:Int)+(([v6]:List zab).length:Int)≤140737488355328)<|
   some (.inl ((IntKind.i64.wrap (v3-1)),(v4++ [v6])))
 else
  some (.inr (some v4))
noncomputable def zd1 (a0:zab) (a1:List UInt8) (a2:Int):Option (List zab):=
 (zbD a0 a1).bind fun v1=>
 (zdH a0).bind fun v2=>
 zal (fun s:Int × List zab=>zb7 a0 a1 a2 s.1 s.2) (v1.fStage, [v2])
noncomputable def zah (a0:List zab) (a1:List zab) (a2:zab→zab→Option Bool) (v1:Int):Option ((Int) ⊕ Option (Bool)):=
 if(decide (v1<(a0.length:Int)))then
  (zaA a0 v1).bind fun y2=>
  (zaA a1 v1).bind fun y3=>
  (a2 y2 y3).bind fun v4=>
  if(!v4)then
   some (.inr (some false))
  else
   some (.inl (IntKind.i64.wrap (v1+1)))
 else
  some (.inr (some true))
noncomputable def zak (a0:List zab) (a1:List zab) (a2:zab→zab→Option Bool):Option (Bool):=
 if((a0.length:Int) !=(a1.length:Int))then
  some false
 else
  zal (fun s:Int=>zah a0 a1 a2 s) 0
noncomputable def zaK (a0:List (List UInt8)) (a1:List (List UInt8)) (v1:Int):Option ((Int) ⊕ Option (Bool)):=
 if(decide (v1<(a0.length:Int)))then
  (zaA a0 v1).bind fun y2=>
  (zaA a1 v1).bind fun y3=>
  if(y2 !=y3)then
   some (.inr (some false))
  else
   some (.inl (IntKind.i64.wrap (v1+1)))
 else
  some (.inr (some true))
noncomputable def zbu (a0:List (List UInt8)) (a1:List (List UInt8)):Option (Bool):=
 if((a0.length:Int) !=(a1.length:Int))then
  some false
 else
  zal (fun s:Int=>zaK a0 a1 s) 0
noncomputable def zaB (a0:List zbI) (a1:List zbI) (v1:Int):Option ((Int) ⊕ Option (Bool)):=
 if(decide (v1<(a0.length:Int)))then
  (zaA a0 v1).bind fun y2=>
  (zaA a1 v1).bind fun y3=>
  if(!(y2.fName==y3.fName&&(y2.fCol==y3.fCol&&(y2.fStage==y3.fStage))))then
   some (.inr (some false))
  else
   some (.inl (IntKind.i64.wrap (v1+1)))
 else
  some (.inr (some true))
noncomputable def za5 (a0:List zbI) (a1:List zbI):Option (Bool):=
 if((a0.length:Int) !=(a1.length:Int))then
  some false
 else
  zal (fun s:Int=>zaB a0 a1 s) 0
noncomputable def zcg (a0:zab) (a1:zab):Option (Bool):=
 if(a0.fName==a1.fName)then
  (zbu a0.fCols a1.fCols).bind fun v1=>
  if v1 then
   (za5 a0.fIdxs a1.fIdxs).bind fun v2=>
   some v2
  else
   some false
 else
  some false
noncomputable def zeL (a0:zaf):Option (Bool):=
 (zbc (a0.fWays.length:Int) 1 4).bind fun v1=>
 if v1 then
  (zbc (a0.fAt.length:Int) 1 3).bind fun v2=>
  if v2 then
   (zi7 a0.fStore).bind fun v3=>
   if(!v3)then
    some false
   else
    (zaT a0.fWays (fun y0_=>zgA y0_ a0)).bind fun v4=>
    if v4 then
     some false
    else
     (zaT a0.fAt (fun y0_=>zgX y0_ a0)).bind fun v5=>
     if v5 then
      some false
     else
      (zaA a0.fWays 0).bind fun y6=>
      (zaA a0.fWays (IntKind.i64.wrap ((a0.fWays.length:Int)-1))).bind fun y7=>
      (zbF a0 y7).bind fun v8=>
      (zd1 y6 a0.fName v8).bind fun v9=>
      (zak a0.fWays v9 (fun y0_ y1_=>zcg y0_ y1_)).bind fun v10=>
      some v10
  else
   some false
 else
  some false
noncomputable def zaJ (a0:zaf) (a1:Int):Option (zab):=
 (zaA a0.fAt a1).bind fun y1=>
 (zaA a0.fWays y1).bind fun y2=>
 some y2
noncomputable def zeT (a0:List UInt8):Option (Bool):=
 (zbc (a0.length:Int) 1 3).bind fun v1=>
 if v1 then
  (zed a0 ([]:List UInt8)).bind fun v2=>
  some v2
 else
  some false
noncomputable def zdz (a0:List UInt8):Option (Bool):=
 (zeT a0).bind fun v1=>
 some (!v1)
noncomputable def zbb (a0:zab) (a1:zdu):Option (Bool):=
 if((a1.fVals.length:Int)==(a0.fCols.length:Int))then
  (zaT a1.fVals (fun y0_=>zdz y0_)).bind fun v1=>
  some (!v1)
 else
  some false
noncomputable def zc9 (a0:zab) (a1:zat):Option (Bool):=
 if(a1.fKind==1)then
  if((a1.fOld.fVals.length:Int)==0)then
   (zbb a0 a1.fNew).bind fun v1=>
   some v1
  else
   some false
 else
  if(a1.fKind==2)then
   (zbb a0 a1.fOld).bind fun v2=>
   some (v2&&((a1.fNew.fVals.length:Int)==0))
  else
   if(a1.fKind==3)then
    (zbb a0 a1.fOld).bind fun v3=>
    if v3 then
     (zbb a0 a1.fNew).bind fun v4=>
     if v4 then
      (zaA a1.fOld.fVals 0).bind fun y5=>
      (zaA a1.fNew.fVals 0).bind fun y6=>
      some (y5==y6)
     else
      some false
    else
     some false
   else
    some false
noncomputable def zkS (a0:zat):Option (Bool):=
 some (((a0.fKind==0)&&((a0.fOld.fVals.length:Int)==0))&&((a0.fNew.fVals.length:Int)==0))
noncomputable def zba (a0:zaf) (a1:zad):Option (Bool):=
 (zbc a1.fServer 0 (IntKind.i64.wrap ((a0.fAt.length:Int)-1))).bind fun v1=>
 if(!v1)then
  some false
 else
  if(a1.fStep==0)then
   (zaJ a0 a1.fServer).bind fun v2=>
   (zc9 v2 a1.fAct).bind fun v3=>
   some v3
  else
   if(a1.fStep==1)then
    (zkS a1.fAct).bind fun v4=>
    some v4
   else
    if(a1.fStep==(-1))then
     (zkS a1.fAct).bind fun v5=>
     some v5
    else
     some false
noncomputable def zdp (a0:zaf) (a1:zad):Option (Bool):=
 (zeL a0).bind fun v1=>
 if v1 then
  (zba a0 a1).bind fun v2=>
  some v2
 else
  some false
noncomputable def zdV (xs:List Int):Option (List Int):=znq 8 xs
noncomputable def zaz (xs:List zaa):Option (List zaa):=znq 40 xs
noncomputable def zct (a0:zaf) (v1:List Int) (v2:List zaa) (v3:Int) (v4:List zab):Option ((Int × List zab) ⊕ Option (zaf)):=
 if(decide (v3<(a0.fWays.length:Int)))then
  (zaA a0.fWays v3).bind fun y5=>
  (zdH y5).bind fun v6=>
  req ((((v4).length:Int)+(([v6]:List zab).length:Int))*64≤140737488355328∧((v4).length:Int)+(([v6]:List zab).length:Int)≤140737488355328)<|
  some (.inl ((IntKind.i64.wrap (v3+1)),(v4++ [v6])))
 else
  some (.inr (some (⟨a0.fName,v4,v1,v2⟩:zaf)))
noncomputable def zeJ (a0:zaf):Option (zaf):=
 (zdV a0.fAt).bind fun v1=>
 (zaz a0.fStore).bind fun v2=>
 zal (fun s:Int × List zab=>zct a0 v1 v2 s.1 s.2) (0, [])
noncomputable def zbt (a0:zab) (a1:zdu):Option (zaa):=
 req ((a0.fName).length+(([47]:List UInt8)).length≤9223372036854775807)<|
 (zaA a1.fVals 0).bind fun y1=>
 req (((a0.fName++([47]:List UInt8))).length+(y1).length≤9223372036854775807)<|
 req (0≤(1:Int)∧(1:Int)≤(a1.fVals.length:Int)∧(a1.fVals.length:Int)≤(a1.fVals.length:Int))<|
 (zhZ (zfM a1.fVals 1 (a1.fVals.length:Int)) ([44]:List UInt8)).bind fun v2=>
 some (⟨((a0.fName++([47]:List UInt8))++y1),v2,false⟩:zaa)
noncomputable def zax (a0:Int) (a1:zaa) (a2:List DOp):Option (Unit × List DOp):=
 req ((((a2).length:Int)+(([(⟨a0,a1.fKey,a1.fVal,0⟩:DOp)]:List DOp).length:Int))*48≤140737488355328∧((a2).length:Int)+(([(⟨a0,a1.fKey,a1.fVal,0⟩:DOp)]:List DOp).length:Int)≤140737488355328)<|
 some ((),(a2++ [(⟨a0,a1.fKey,a1.fVal,0⟩:DOp)]))
noncomputable def zcm (a0:zab) (a1:List UInt8):Option (List UInt8):=
 req ((a0.fName).length+(([46]:List UInt8)).length≤9223372036854775807)<|
 req (((a0.fName++([46]:List UInt8))).length+(a1).length≤9223372036854775807)<|
 req ((((a0.fName++([46]:List UInt8))++a1)).length+(([47]:List UInt8)).length≤9223372036854775807)<|
 some (((a0.fName++([46]:List UInt8))++a1)++([47]:List UInt8))
noncomputable def za3 (a0:zab) (a1:List UInt8) (a2:zdu):Option (List UInt8):=
 (zcm a0 a1).bind fun v1=>
 (zbD a0 a1).bind fun v2=>
 (zaA a2.fVals v2.fCol).bind fun y3=>
 req ((v1).length+(y3).length≤9223372036854775807)<|
 req (((v1++y3)).length+(([47]:List UInt8)).length≤9223372036854775807)<|
 (zaA a2.fVals 0).bind fun y4=>
 req ((((v1++y3)++([47]:List UInt8))).length+(y4).length≤9223372036854775807)<|
 some (((v1++y3)++([47]:List UInt8))++y4)
noncomputable def zj4 (a0:Int):Option (Bool):=
 some (decide (a0≥1))
noncomputable def zjS (a0:Int):Option (Bool):=
 some (decide (a0≥2))
noncomputable def zbl (v9:Int) (y11:zbI) (v13:List UInt8) (v14:List DOp):Option ((Int × List DOp) ⊕ Option (List DOp)):=
 if(v13 !=([]:List UInt8))then
  (zjS y11.fStage).bind fun v15=>
  if v15 then
   (zax 2 (⟨v13,([]:List UInt8),false⟩:zaa) v14).bind fun v16=>
   some (.inl ((IntKind.i64.wrap (v9+1)),v16.2))
  else
   some (.inl ((IntKind.i64.wrap (v9+1)),v14))
 else
  some (.inl ((IntKind.i64.wrap (v9+1)),v14))
noncomputable def zaX (v9:Int) (v10:List DOp) (y11:zbI) (v12:List UInt8) (v13:List UInt8):Option ((Int × List DOp) ⊕ Option (List DOp)):=
 if(v12 !=([]:List UInt8))then
  if(v12 !=v13)then
   (zj4 y11.fStage).bind fun v17=>
   if v17 then
    (zax 3 (⟨v12,([]:List UInt8),false⟩:zaa) v10).bind fun v18=>
    zbl v9 y11 v13 v18.2
   else
    zbl v9 y11 v13 v10
  else
   zbl v9 y11 v13 v10
 else
  zbl v9 y11 v13 v10
noncomputable def zek (a0:zab) (a1:zat) (v9:Int) (v10:List DOp) (y11:zbI) (v12:List UInt8):Option ((Int × List DOp) ⊕ Option (List DOp)):=
 if(a1.fKind !=2)then
  (za3 a0 y11.fName a1.fNew).bind fun v19=>
  zaX v9 v10 y11 v12 v19
 else
  zaX v9 v10 y11 v12 ([]:List UInt8)
noncomputable def zbj (a0:zab) (a1:zat) (v9:Int) (v10:List DOp):Option ((Int × List DOp) ⊕ Option (List DOp)):=
 if(decide (v9<(a0.fIdxs.length:Int)))then
  (zaA a0.fIdxs v9).bind fun y11=>
  zyU (σ:=List UInt8) (
   if(a1.fKind !=1)then
    (za3 a0 y11.fName a1.fOld).bind fun v20=>
    some (.inl v20)
   else
    some (.inl ([]:List UInt8))
  ) (fun s=>zek a0 a1 v9 v10 y11 s)
 else
  some (.inr (some v10))
noncomputable def zbk (a0:zab) (a1:zat) (v8:List DOp):Option (List DOp):=
 zal (fun s:Int × List DOp=>zbj a0 a1 s.1 s.2) (0,v8)
noncomputable def zb0 (a0:zab) (a1:zat) (v1:List UInt8) (v4:List DOp) (v5:List UInt8) (v6:List UInt8) (v7:Bool):Option (List DOp):=
 if(a1.fKind==1)then
  (zax 6 (⟨v5,([]:List UInt8),false⟩:zaa) v4).bind fun v21=>
  (zax 2 (⟨v5,v6,v7⟩:zaa) v21.2).bind fun v22=>
  zbk a0 a1 v22.2
 else
  if(a1.fKind==2)then
   (zax 3 (⟨v1,([]:List UInt8),false⟩:zaa) v4).bind fun v23=>
   zbk a0 a1 v23.2
  else
   if(a1.fKind==3)then
    (zax 2 (⟨v5,v6,v7⟩:zaa) v4).bind fun v24=>
    zbk a0 a1 v24.2
   else
    zbk a0 a1 v4
noncomputable def zaW (a0:zab) (a1:zat) (v1:List UInt8) (v2:List UInt8) (v3:Bool) (v4:List DOp):Option (List DOp):=
 if(a1.fKind !=2)then
  (zbt a0 a1.fNew).bind fun v25=>
  zb0 a0 a1 v1 v4 v25.fKey v25.fVal v25.fGone
 else
  zb0 a0 a1 v1 v4 ([]:List UInt8) ([]:List UInt8) false
noncomputable def zdP (a0:zab) (a1:zat):Option (List DOp):=
 zyU (σ:=List UInt8 × List UInt8 × Bool × List DOp) (
  if(a1.fKind !=1)then
   (zbt a0 a1.fOld).bind fun v26=>
   (zax 7 v26 ([]:List DOp)).bind fun v27=>
   some (.inl (v26.fKey,v26.fVal,v26.fGone,v27.2))
  else
   some (.inl (([]:List UInt8),([]:List UInt8),false, []))
 ) (fun s=>zaW a0 a1 s.1 s.2.1 s.2.2.1 s.2.2.2)
noncomputable def zav (a0:List zaa) (a1:List UInt8) (a2:zaa→(List UInt8)→Option Int) (v1:Int):Option (Int × Bool):=
 if(decide (v1<(a0.length:Int)))then
  (zaA a0 v1).bind fun y2=>
  (a2 y2 a1).bind fun v3=>
  some (v1,(v3==0))
 else
  some (v1,false)
noncomputable def zai (a0:List zaa) (a1:List UInt8) (a2:zaa→(List UInt8)→Option Int) (v4:Int) (v5:Int):Option ((Int × Int) ⊕ Option (Int × Bool)):=
 if(decide (v4<v5))then
  (zaA a0 (IntKind.i64.wrap (Int.fdiv (IntKind.u64.wrap (IntKind.i64.wrap (v4+v5))) (2^(min ((1:Int)).toNat (IntKind.bits .u64)))))).bind fun y6=>
  (a2 y6 a1).bind fun v7=>
  if(decide (v7<0))then
   some (.inl ((IntKind.i64.wrap ((IntKind.i64.wrap (Int.fdiv (IntKind.u64.wrap (IntKind.i64.wrap (v4+v5))) (2^(min ((1:Int)).toNat (IntKind.bits .u64)))))+1)),v5))
  else
   some (.inl (v4,(IntKind.i64.wrap (Int.fdiv (IntKind.u64.wrap (IntKind.i64.wrap (v4+v5))) (2^(min ((1:Int)).toNat (IntKind.bits .u64)))))))
 else
  some (.inr (zav a0 a1 a2 v4))
noncomputable def zay (a0:List zaa) (a1:List UInt8) (a2:zaa→(List UInt8)→Option Int):Option (Int × Bool):=
 zal (fun s:Int × Int=>zai a0 a1 a2 s.1 s.2) (0,(a0.length:Int))
noncomputable def zdt (a0:List UInt8):Option (Bool):=
 some (a0 !=a0)
noncomputable def zdL (a0:List UInt8) (a1:List UInt8):Option (Int):=
 (zdt a0).bind fun v1=>
 (zdt a1).bind fun v2=>
 if v1 then
  if v2 then
   some 0
  else
   some (-1)
 else
  if v2 then
   some 1
  else
   if(Op.bytesLess a0 a1)then
    some (-1)
   else
    if(!(Op.bytesLess a0 a1||a0==a1))then
     some 1
    else
     some 0
noncomputable def zcR (a0:zaa) (a1:List UInt8):Option (Int):=
 (zdL a0.fKey a1).bind fun v1=>
 some v1
noncomputable def zch (a0:List zaa) (a1:List UInt8):Option (Int × Bool):=
 (zay a0 a1 (fun y0_ y1_=>zcR y0_ y1_)).bind fun v1=>
 some (v1.1,v1.2)
noncomputable def zdw (a0:List zaa) (a1:zaa):Option (List zaa):=
 (zch a0 a1.fKey).bind fun v1=>
 if v1.2 then
  (zaA a0 v1.1).bind fun y2=>
  some (a0.set (v1.1).toNat a1)
 else
  (zp9 a0 v1.1 ([a1]:List zaa)).bind fun v3=>
  some v3
noncomputable def zdl (a0:List UInt8) (a2:List zhe) (v3:Int):Option ((Int) ⊕ Option (List UInt8 × Bool × Bool)):=
 if(decide (v3<(a2.length:Int)))then
  (zaA a2 v3).bind fun y4=>
  if(y4.fKey==a0)then
   some (.inr (some (y4.fVal,y4.fThere,true)))
  else
   some (.inl (IntKind.i64.wrap (v3+1)))
 else
  some (.inr (some (([]:List UInt8),false,false)))
noncomputable def zhG (a0:List UInt8) (a1:List zaa) (a2:List zhe):Option (List UInt8 × Bool × Bool):=
 (zch a1 a0).bind fun v1=>
 if v1.2 then
  (zaA a1 v1.1).bind fun y2=>
  some (y2.fVal,(!y2.fGone),true)
 else
  zal (fun s:Int=>zdl a0 a2 s) 0
noncomputable def zfn (a0:List UInt8):Option (Int × Bool):=
 (zhP a0 (-999999) 999999).bind fun v1=>
 some (v1.1,v1.2)
noncomputable def zfy (a0:DOp) (a1:List UInt8) (a2:Bool):Option (Bool):=
 (zfn a1).bind fun v1=>
 if(a0.fKind==4)then
  if v1.2 then
   if a2 then
    (zbc (IntKind.i64.wrap (v1.1+a0.fBy)) (-999999) 999999).bind fun v2=>
    some v2
   else
    some true
  else
   some ((!a2)||false)
 else
  if(a0.fKind==5)then
   some ((a2&&v1.2)&&(decide (v1.1≥a0.fBy)))
  else
   if(a0.fKind==6)then
    some (!a2)
   else
    if(a0.fKind==7)then
     some (a2&&(a1==a0.fVal))
    else
     some true
noncomputable def zaE (a0:List DOp) (a1:List zhe) (v1:Int) (v2:List zaa):Option ((Int × List zaa) ⊕ Option (Int × List UInt8 × List zaa)):=
 if(decide (v1<(a0.length:Int)))then
  (zaA a0 v1).bind fun y3=>
  if(y3.fKind==2)then
   (zdw v2 (⟨y3.fKey,y3.fVal,false⟩:zaa)).bind fun v4=>
   some (.inl ((IntKind.i64.wrap (v1+1)),v4))
  else
   if(y3.fKind==3)then
    (zdw v2 (⟨y3.fKey,([]:List UInt8),true⟩:zaa)).bind fun v5=>
    some (.inl ((IntKind.i64.wrap (v1+1)),v5))
   else
    (zhG y3.fKey v2 a1).bind fun v6=>
    if(!v6.2.2)then
     some (.inr (some (1,y3.fKey, [])))
    else
     (zfy y3 v6.1 v6.2.1).bind fun v7=>
     if(!v7)then
      some (.inr (some (2,([]:List UInt8), [])))
     else
      if(y3.fKind==4)then
       (zfn v6.1).bind fun v8=>
       (zjW (IntKind.i64.wrap (v8.1+y3.fBy))).bind fun v9=>
       (zdw v2 (⟨y3.fKey,v9,false⟩:zaa)).bind fun v10=>
       some (.inl ((IntKind.i64.wrap (v1+1)),v10))
      else
       some (.inl ((IntKind.i64.wrap (v1+1)),v2))
 else
  some (.inr (some (3,([]:List UInt8),v2)))
noncomputable def zjV (a0:List DOp) (a1:List zhe):Option (Int × List UInt8 × List zaa):=
 zal (fun s:Int × List zaa=>zaE a0 a1 s.1 s.2) (0, [])
noncomputable def zjL (a0:List zaa) (a1:List UInt8):Option (zhe):=
 (zch a0 a1).bind fun v1=>
 if(!v1.2)then
  some (⟨a1,([]:List UInt8),false⟩:zhe)
 else
  (zaA a0 v1.1).bind fun y2=>
  some (⟨a1,y2.fVal,true⟩:zhe)
noncomputable def zb8 (a0:List zaa) (a1:List DOp) (v1:List zhe):Option ((List zhe) ⊕ Option (List zhe × List zaa × Bool)):=
 (zjV a1 v1).bind fun v2=>
 if(v2.1 !=1)then
  some (.inr (some (v1,v2.2.2,(v2.1==3))))
 else
  (zjL a0 v2.2.1).bind fun v3=>
  req ((((v1).length:Int)+(([v3]:List zhe).length:Int))*40≤140737488355328∧((v1).length:Int)+(([v3]:List zhe).length:Int)≤140737488355328)<|
  some (.inl (v1++ [v3]))
noncomputable def zjs (a0:List zaa) (a1:List DOp):Option (List zhe × List zaa × Bool):=
 zal (fun s:List zhe=>zb8 a0 a1 s) []
noncomputable def ziu (a0:zaa):Option (Bool):=
 some a0.fGone
noncomputable def zhy (v2:List zaa):Option (List zaa × Bool):=
 (zfj v2 (fun y0_=>ziu y0_)).bind fun v3=>
 if(decide ((v3.length:Int)>24))then
  some ([],false)
 else
  some (v3,true)
noncomputable def zdm (a1:List zaa) (v4:Int) (v5:List zaa):Option ((Int × List zaa) ⊕ Option (List zaa × Bool)):=
 if(decide (v4<(a1.length:Int)))then
  (zaA a1 v4).bind fun y6=>
  (zdw v5 y6).bind fun v7=>
  some (.inl ((IntKind.i64.wrap (v4+1)),v7))
 else
  some (.inr (zhy v5))
noncomputable def zhV (a0:List zaa) (a1:List zaa):Option (List zaa × Bool):=
 (zaz a0).bind fun v1=>
 zal (fun s:Int × List zaa=>zdm a1 s.1 s.2) (0,v1)
noncomputable def zi1 (a0:List zaa) (a1:List DOp):Option (List zaa × Bool):=
 (zjs a0 a1).bind fun v1=>
 (zhV a0 v1.2.1).bind fun v2=>
 if((!v1.2.2)||(!v2.2))then
  req (((([]:List zaa).length:Int)+((a0).length:Int))*40≤140737488355328∧(([]:List zaa).length:Int)+((a0).length:Int)≤140737488355328)<|
  some (a0,false)
 else
  some (v2.1,true)
noncomputable def zbo (a0:zaf) (a1:zad):Option (zaf × Bool):=
 (zeJ a0).bind fun v1=>
 if(a1.fStep !=0)then
  (zaA a0.fAt a1.fServer).bind fun y2=>
  (zbc (IntKind.i64.wrap (y2+a1.fStep)) 0 (IntKind.i64.wrap ((a0.fWays.length:Int)-1))).bind fun v3=>
  if(!v3)then
   some (v1,false)
  else
   (zaA v1.fAt a1.fServer).bind fun y4=>
   some ((⟨v1.fName,v1.fWays,(v1.fAt.set (a1.fServer).toNat (IntKind.i64.wrap (y2+a1.fStep))),v1.fStore⟩:zaf),true)
 else
  (zaJ a0 a1.fServer).bind fun v5=>
  (zdP v5 a1.fAct).bind fun v6=>
  (zi1 a0.fStore v6).bind fun v7=>
  some ((⟨v1.fName,v1.fWays,v1.fAt,v7.1⟩:zaf),v7.2)
noncomputable def zeO (a0:zaf) (a1:zad):Option (zaf × Bool × Bool):=
 (zdp a0 a1).bind fun v1=>
 if(!v1)then
  some ((⟨([]:List UInt8), [], [], []⟩:zaf),false,false)
 else
  (zbo a0 a1).bind fun v2=>
  some (v2.1,v2.2,true)
noncomputable def za6 (a0:List (List UInt8)) (a1:List (List UInt8)) (v1:Int):Option ((Int) ⊕ Option (Bool)):=
 if(decide (v1<(a0.length:Int)))then
  (zaA a0 v1).bind fun y2=>
  (zaA a1 v1).bind fun y3=>
  if(y2 !=y3)then
   some (.inr (some false))
  else
   some (.inl (IntKind.i64.wrap (v1+1)))
 else
  some (.inr (some true))
noncomputable def zcZ (a0:List (List UInt8)) (a1:List (List UInt8)):Option (Bool):=
 if((a0.length:Int) !=(a1.length:Int))then
  some false
 else
  zal (fun s:Int=>za6 a0 a1 s) 0
noncomputable def zgi (a0:zbI) (a1:zbI):Option (Bool):=
 if(a0.fName !=a1.fName)then
  some false
 else
  if(a0.fCol !=a1.fCol)then
   some false
  else
   if(a0.fStage !=a1.fStage)then
    some false
   else
    some true
noncomputable def zbO (a0:List zbI) (a1:List zbI) (v1:Int):Option ((Int) ⊕ Option (Bool)):=
 if(decide (v1<(a0.length:Int)))then
  (zaA a0 v1).bind fun y2=>
  (zaA a1 v1).bind fun y3=>
  (zgi y2 y3).bind fun v4=>
  if(!v4)then
   some (.inr (some false))
  else
   some (.inl (IntKind.i64.wrap (v1+1)))
 else
  some (.inr (some true))
noncomputable def zfA (a0:List zbI) (a1:List zbI):Option (Bool):=
 if((a0.length:Int) !=(a1.length:Int))then
  some false
 else
  zal (fun s:Int=>zbO a0 a1 s) 0
noncomputable def zeX (a0:zab) (a1:zab):Option (Bool):=
 if(a0.fName !=a1.fName)then
  some false
 else
  (zcZ a0.fCols a1.fCols).bind fun v1=>
  if(!v1)then
   some false
  else
   (zfA a0.fIdxs a1.fIdxs).bind fun v2=>
   if(!v2)then
    some false
   else
    some true
noncomputable def zdT (a0:List zab) (a1:List zab) (v1:Int):Option ((Int) ⊕ Option (Bool)):=
 if(decide (v1<(a0.length:Int)))then
  (zaA a0 v1).bind fun y2=>
  (zaA a1 v1).bind fun y3=>
  (zeX y2 y3).bind fun v4=>
  if(!v4)then
   some (.inr (some false))
  else
   some (.inl (IntKind.i64.wrap (v1+1)))
 else
  some (.inr (some true))
noncomputable def zgp (a0:List zab) (a1:List zab):Option (Bool):=
 if((a0.length:Int) !=(a1.length:Int))then
  some false
 else
  zal (fun s:Int=>zdT a0 a1 s) 0
noncomputable def zeQ (a0:List Int) (a1:List Int) (v1:Int):Option ((Int) ⊕ Option (Bool)):=
 if(decide (v1<(a0.length:Int)))then
  (zaA a0 v1).bind fun y2=>
  (zaA a1 v1).bind fun y3=>
  if(y2 !=y3)then
   some (.inr (some false))
  else
   some (.inl (IntKind.i64.wrap (v1+1)))
 else
  some (.inr (some true))
noncomputable def ziQ (a0:List Int) (a1:List Int):Option (Bool):=
 if((a0.length:Int) !=(a1.length:Int))then
  some false
 else
  zal (fun s:Int=>zeQ a0 a1 s) 0
noncomputable def zeS (a0:zaa) (a1:zaa):Option (Bool):=
 if(a0.fKey !=a1.fKey)then
  some false
 else
  if(a0.fVal !=a1.fVal)then
   some false
  else
   if(a0.fGone !=a1.fGone)then
    some false
   else
    some true
noncomputable def zbg (a0:List zaa) (a1:List zaa) (v1:Int):Option ((Int) ⊕ Option (Bool)):=
 if(decide (v1<(a0.length:Int)))then
  (zaA a0 v1).bind fun y2=>
  (zaA a1 v1).bind fun y3=>
  (zeS y2 y3).bind fun v4=>
  if(!v4)then
   some (.inr (some false))
  else
   some (.inl (IntKind.i64.wrap (v1+1)))
 else
  some (.inr (some true))
noncomputable def zeo (a0:List zaa) (a1:List zaa):Option (Bool):=
 if((a0.length:Int) !=(a1.length:Int))then
  some false
 else
  zal (fun s:Int=>zbg a0 a1 s) 0
noncomputable def zbr (a0:zaf) (a1:zaf):Option (Bool):=
 if(a0.fName !=a1.fName)then
  some false
 else
  (zgp a0.fWays a1.fWays).bind fun v1=>
  if(!v1)then
   some false
  else
   (ziQ a0.fAt a1.fAt).bind fun v2=>
   if(!v2)then
    some false
   else
    (zeo a0.fStore a1.fStore).bind fun v3=>
    if(!v3)then
     some false
    else
     some true
noncomputable def zim (a0:zdu) (a1:zdu):Option (Bool):=
 (zcZ a0.fVals a1.fVals).bind fun v1=>
 if(!v1)then
  some false
 else
  some true
noncomputable def zgo (a0:zat) (a1:zat):Option (Bool):=
 if(a0.fKind !=a1.fKind)then
  some false
 else
  (zim a0.fOld a1.fOld).bind fun v1=>
  if(!v1)then
   some false
  else
   (zim a0.fNew a1.fNew).bind fun v2=>
   if(!v2)then
    some false
   else
    some true
noncomputable def zde (a0:zad) (a1:zad):Option (Bool):=
 if(a0.fServer !=a1.fServer)then
  some false
 else
  if(a0.fStep !=a1.fStep)then
   some false
  else
   (zgo a0.fAct a1.fAct).bind fun v1=>
   if(!v1)then
    some false
   else
    some true
noncomputable def zjI (v1:List UInt8):Option (List UInt8):=
 req ((([109]:List UInt8)).length+(v1).length≤9223372036854775807)<|
 some ((([109]:List UInt8):List UInt8)++v1)
noncomputable def zbE (v2:Int) (v3:List UInt8):Option ((Int × List UInt8) ⊕ Option (List UInt8)):=
 if(decide (v2>0))then
  req (([(IntKind.u8.wrap (IntKind.i64.wrap ((48:Int)+(Int.tmod v2 10))))]:List Int).length≤9223372036854775807)<|
  req ((([(IntKind.u8.wrap (IntKind.i64.wrap ((48:Int)+(Int.tmod v2 10))))].map fun n=>UInt8.ofNat n.toNat)).length+(v3).length≤9223372036854775807)<|
  some (.inl ((IntKind.i64.wrap (Int.tdiv v2 10)),(([(IntKind.u8.wrap (IntKind.i64.wrap ((48:Int)+(Int.tmod v2 10))))].map fun n=>UInt8.ofNat n.toNat)++v3)))
 else
  some (.inr (zjI v3))
noncomputable def zaF (a0:Int):Option (List UInt8):=
 if(decide (a0≤0))then
  some ([109,48]:List UInt8)
 else
  zal (fun s:Int × List UInt8=>zbE s.1 s.2) (a0,([]:List UInt8))
noncomputable def zbW (v1:Int) (v2:Int) (v3:List (List UInt8)):Option ((Int × Int × List (List UInt8)) ⊕ Option (Int × List (List UInt8))):=
 if(decide (v2<(v3.length:Int)))then
  (zaF v1).bind fun v4=>
  (zaA v3 v2).bind fun y5=>
  some (.inl ((IntKind.i64.wrap (v1+1)),(IntKind.i64.wrap (v2+1)),(v3.set (v2).toNat v4)))
 else
  some (.inr (some (v1,v3)))
noncomputable def zcM (a0:List (List UInt8)) (a1:Int):Option (Int × List (List UInt8)):=
 zal (fun s:Int × Int × List (List UInt8)=>zbW s.1 s.2.1 s.2.2) (a1,0,a0)
noncomputable def zcQ (v1:Int) (v2:Int) (v3:List zbI):Option ((Int × Int × List zbI) ⊕ Option (Int × List zbI)):=
 if(decide (v2<(v3.length:Int)))then
  (zaF v1).bind fun v4=>
  (zaA v3 v2).bind fun y5=>
  some (.inl ((IntKind.i64.wrap ((IntKind.i64.wrap ((IntKind.i64.wrap (v1+1))+1))+1)),(IntKind.i64.wrap (v2+1)),(((v3.set (v2).toNat {y5 with fName:=v4}).set (v2).toNat {{y5 with fName:=v4}with fCol:=(IntKind.i64.wrap (v1+1))}).set (v2).toNat {{{y5 with fName:=v4}with fCol:=(IntKind.i64.wrap (v1+1))}with fStage:=(IntKind.i64.wrap ((IntKind.i64.wrap (v1+1))+1))})))
 else
  some (.inr (some (v1,v3)))
noncomputable def zjp (a0:List zbI) (a1:Int):Option (Int × List zbI):=
 zal (fun s:Int × Int × List zbI=>zcQ s.1 s.2.1 s.2.2) (a1,0,a0)
noncomputable def zce (v1:Int) (v2:Int) (v3:List zab):Option ((Int × Int × List zab) ⊕ Option (Int × List zab)):=
 if(decide (v2<(v3.length:Int)))then
  (zaF v1).bind fun v4=>
  (zaA v3 v2).bind fun y5=>
  (zcM ({y5 with fName:=v4}.fCols) (IntKind.i64.wrap (v1+1))).bind fun v6=>
  (zjp ({{y5 with fName:=v4}with fCols:=v6.2}.fIdxs) v6.1).bind fun v7=>
  some (.inl (v7.1,(IntKind.i64.wrap (v2+1)),(((v3.set (v2).toNat {y5 with fName:=v4}).set (v2).toNat {{y5 with fName:=v4}with fCols:=v6.2}).set (v2).toNat {{{y5 with fName:=v4}with fCols:=v6.2}with fIdxs:=v7.2})))
 else
  some (.inr (some (v1,v3)))
noncomputable def zhz (a0:List zab) (a1:Int):Option (Int × List zab):=
 zal (fun s:Int × Int × List zab=>zce s.1 s.2.1 s.2.2) (a1,0,a0)
noncomputable def zcN (v1:Int) (v2:Int) (v3:List Int):Option ((Int × Int × List Int) ⊕ Option (Int × List Int)):=
 if(decide (v2<(v3.length:Int)))then
  (zaA v3 v2).bind fun y4=>
  some (.inl ((IntKind.i64.wrap (v1+1)),(IntKind.i64.wrap (v2+1)),(v3.set (v2).toNat v1)))
 else
  some (.inr (some (v1,v3)))
noncomputable def zjf (a0:List Int) (a1:Int):Option (Int × List Int):=
 zal (fun s:Int × Int × List Int=>zcN s.1 s.2.1 s.2.2) (a1,0,a0)
noncomputable def zcb (v1:Int) (v2:Int) (v3:List zaa):Option ((Int × Int × List zaa) ⊕ Option (Int × List zaa)):=
 if(decide (v2<(v3.length:Int)))then
  (zaF v1).bind fun v4=>
  (zaA v3 v2).bind fun y5=>
  (zaF (IntKind.i64.wrap (v1+1))).bind fun v6=>
  some (.inl ((IntKind.i64.wrap ((IntKind.i64.wrap ((IntKind.i64.wrap (v1+1))+1))+1)),(IntKind.i64.wrap (v2+1)),(((v3.set (v2).toNat {y5 with fKey:=v4}).set (v2).toNat {{y5 with fKey:=v4}with fVal:=v6}).set (v2).toNat {{{y5 with fKey:=v4}with fVal:=v6}with fGone:=((Int.tmod (IntKind.i64.wrap ((IntKind.i64.wrap (v1+1))+1)) 3)==0)})))
 else
  some (.inr (some (v1,v3)))
noncomputable def zho (a0:List zaa) (a1:Int):Option (Int × List zaa):=
 zal (fun s:Int × Int × List zaa=>zcb s.1 s.2.1 s.2.2) (a1,0,a0)
noncomputable def zcY (a0:zaf) (a1:Int):Option (Int × zaf):=
 (zhz a0.fWays a1).bind fun v1=>
 (zjf a0.fAt v1.1).bind fun v2=>
 (zho a0.fStore v2.1).bind fun v3=>
 some (v3.1,(⟨a0.fName,v1.2,v2.2,v3.2⟩:zaf))
noncomputable def zfO (a0:zdu) (a1:Int):Option (Int × zdu):=
 (zcM a0.fVals a1).bind fun v1=>
 some (v1.1,(⟨v1.2⟩:zdu))
noncomputable def zfC (a0:zat) (a1:Int):Option (Int × zat):=
 (zfO a0.fOld a1).bind fun v1=>
 (zfO a0.fNew v1.1).bind fun v2=>
 some (v2.1,(⟨a0.fKind,v1.2,v2.2⟩:zat))
noncomputable def zex (a0:zad) (a1:Int):Option (Int × zad):=
 (zfC a0.fAct a1).bind fun v1=>
 some (v1.1,(⟨a0.fServer,a0.fStep,(⟨a0.fAct.fKind,v1.2.fOld,v1.2.fNew⟩:zat)⟩:zad))
noncomputable def zb1 (a0:List (List UInt8)) (v1:Int) (v2:Int):Option ((Int × Int) ⊕ Option (Int)):=
 if(decide (v2<(a0.length:Int)))then
  (zaA a0 v2).bind fun y3=>
  (zaF v1).bind fun v4=>
  if(y3 !=v4)then
   some (.inr (some (-1)))
  else
   some (.inl ((IntKind.i64.wrap (v1+1)),(IntKind.i64.wrap (v2+1))))
 else
  some (.inr (some v1))
noncomputable def zgP (a0:List (List UInt8)) (a1:Int):Option (Int):=
 zal (fun s:Int × Int=>zb1 a0 s.1 s.2) (a1,0)
noncomputable def zcT (a0:List zbI) (v1:Int) (v2:Int):Option ((Int × Int) ⊕ Option (Int)):=
 if(decide (v2<(a0.length:Int)))then
  (zaA a0 v2).bind fun y3=>
  (zaF v1).bind fun v4=>
  if(y3.fName !=v4)then
   some (.inr (some (-1)))
  else
   if(y3.fCol !=(IntKind.i64.wrap (v1+1)))then
    some (.inr (some (-1)))
   else
    if(y3.fStage !=(IntKind.i64.wrap ((IntKind.i64.wrap (v1+1))+1)))then
     some (.inr (some (-1)))
    else
     some (.inl ((IntKind.i64.wrap ((IntKind.i64.wrap ((IntKind.i64.wrap (v1+1))+1))+1)),(IntKind.i64.wrap (v2+1))))
 else
  some (.inr (some v1))
noncomputable def zjw (a0:List zbI) (a1:Int):Option (Int):=
 zal (fun s:Int × Int=>zcT a0 s.1 s.2) (a1,0)
noncomputable def zcd (a0:List zab) (v1:Int) (v2:Int):Option ((Int × Int) ⊕ Option (Int)):=
 if(decide (v2<(a0.length:Int)))then
  (zaA a0 v2).bind fun y3=>
  (zaF v1).bind fun v4=>
  if(y3.fName !=v4)then
   some (.inr (some (-1)))
  else
   (zgP y3.fCols (IntKind.i64.wrap (v1+1))).bind fun v5=>
   if(decide (v5<0))then
    some (.inr (some (-1)))
   else
    (zjw y3.fIdxs v5).bind fun v6=>
    if(decide (v6<0))then
     some (.inr (some (-1)))
    else
     some (.inl (v6,(IntKind.i64.wrap (v2+1))))
 else
  some (.inr (some v1))
noncomputable def zhh (a0:List zab) (a1:Int):Option (Int):=
 zal (fun s:Int × Int=>zcd a0 s.1 s.2) (a1,0)
noncomputable def zcV (a0:List Int) (v1:Int) (v2:Int):Option ((Int × Int) ⊕ Option (Int)):=
 if(decide (v2<(a0.length:Int)))then
  (zaA a0 v2).bind fun y3=>
  if(y3 !=v1)then
   some (.inr (some (-1)))
  else
   some (.inl ((IntKind.i64.wrap (v1+1)),(IntKind.i64.wrap (v2+1))))
 else
  some (.inr (some v1))
noncomputable def zjv (a0:List Int) (a1:Int):Option (Int):=
 zal (fun s:Int × Int=>zcV a0 s.1 s.2) (a1,0)
noncomputable def zcc (a0:List zaa) (v1:Int) (v2:Int):Option ((Int × Int) ⊕ Option (Int)):=
 if(decide (v2<(a0.length:Int)))then
  (zaA a0 v2).bind fun y3=>
  (zaF v1).bind fun v4=>
  if(y3.fKey !=v4)then
   some (.inr (some (-1)))
  else
   (zaF (IntKind.i64.wrap (v1+1))).bind fun v5=>
   if(y3.fVal !=v5)then
    some (.inr (some (-1)))
   else
    if(y3.fGone !=((Int.tmod (IntKind.i64.wrap ((IntKind.i64.wrap (v1+1))+1)) 3)==0))then
     some (.inr (some (-1)))
    else
     some (.inl ((IntKind.i64.wrap ((IntKind.i64.wrap ((IntKind.i64.wrap (v1+1))+1))+1)),(IntKind.i64.wrap (v2+1))))
 else
  some (.inr (some v1))
noncomputable def zhA (a0:List zaa) (a1:Int):Option (Int):=
 zal (fun s:Int × Int=>zcc a0 s.1 s.2) (a1,0)
noncomputable def zc1 (a0:zaf) (a1:Int):Option (Int):=
 (zhh a0.fWays a1).bind fun v1=>
 if(decide (v1<0))then
  some (-1)
 else
  (zjv a0.fAt v1).bind fun v2=>
  if(decide (v2<0))then
   some (-1)
  else
   (zhA a0.fStore v2).bind fun v3=>
   if(decide (v3<0))then
    some (-1)
   else
    some v3
noncomputable def zc7 (a0:zaf) (a1:zad):Option (Bool):=
 (ze0 a0 1048576).bind fun v1=>
 if(decide (v1<0))then
  some true
 else
  (zdk a1 v1).bind fun v2=>
  if(decide (v2<0))then
   some true
  else
   (za1 a0).bind fun v3=>
   (zaZ a1).bind fun v4=>
   (zfV v3 v4).bind fun v5=>
   (za1 a0).bind fun v6=>
   (zaZ a1).bind fun v7=>
   (zeO v6 v7).bind fun v8=>
   (zbr v8.1 v5.1).bind fun v9=>
   if(((!v9)||(v8.2.1 !=v5.2.1))||(v8.2.2 !=v5.2.2))then
    some false
   else
    (za1 a0).bind fun v10=>
    (zbr v6 v10).bind fun v11=>
    if(!v11)then
     some false
    else
     (zaZ a1).bind fun v12=>
     (zde v7 v12).bind fun v13=>
     if(!v13)then
      some false
     else
      (zcY v6 1).bind fun v14=>
      (zex v7 v14.1).bind fun v15=>
      if(decide (v15.1<0))then
       some false
      else
       (zbr v8.1 v5.1).bind fun v16=>
       if(((!v16)||(v8.2.1 !=v5.2.1))||(v8.2.2 !=v5.2.2))then
        some false
       else
        (zcY v8.1 1).bind fun v17=>
        (zc1 (⟨v8.1.fName,v17.2.fWays,v17.2.fAt,v17.2.fStore⟩:zaf) 1).bind fun v18=>
        if(decide (v18<0))then
         some false
        else
         if(v18 !=v17.1)then
          some false
         else
          (za1 a0).bind fun v19=>
          (zaZ a1).bind fun v20=>
          (zeO v19 v20).bind fun v21=>
          (zbr v21.1 v5.1).bind fun v22=>
          if(((!v22)||(v21.2.1 !=v5.2.1))||(v21.2.2 !=v5.2.2))then
           some false
          else
           (zc1 (⟨v8.1.fName,v17.2.fWays,v17.2.fAt,v17.2.fStore⟩:zaf) 1).bind fun v23=>
           if(decide (v23<0))then
            some false
           else
            if(v23 !=v17.1)then
             some false
            else
             some true
noncomputable def znO (v1:Int):Option ((Int) ⊕ Option (Bool)):=
 some (.inl (IntKind.i64.wrap (v1+1)))
noncomputable def zok (a0:List Int) (v1:Int) (y2:Int) (v3:Int):Option ((Int) ⊕ Option ((Int) ⊕ Option (Bool))):=
 if(decide (v3<(a0.length:Int)))then
  (zaA a0 v3).bind fun y4=>
  if(decide ((IntKind.i64.wrap (y2-y4))>1))then
   some (.inr (some (.inr (some false))))
  else
   some (.inl (IntKind.i64.wrap (v3+1)))
 else
  some (.inr (znO v1))
noncomputable def zn1 (a0:List Int) (v1:Int):Option ((Int) ⊕ Option (Bool)):=
 if(decide (v1<(a0.length:Int)))then
  (zaA a0 v1).bind fun y2=>
  zal (fun s:Int=>zok a0 v1 y2 s) 0
 else
  some (.inr (some true))
noncomputable def zl1 (a0:List Int):Option (Bool):=
 zal (fun s:Int=>zn1 a0 s) 0
noncomputable def zcq (a0:zaf) (v1:List Int) (v2:Int):Option ((List Int × Int) ⊕ Option (List Int)):=
 if(decide (v2<(a0.fAt.length:Int)))then
  (zaA a0.fAt v2).bind fun y3=>
  (zaA a0.fWays y3).bind fun y4=>
  (zbv y4 a0.fName).bind fun v5=>
  (zaA y4.fIdxs v5).bind fun y6=>
  req ((((v1).length:Int)+(([y6.fStage]:List Int).length:Int))*8≤140737488355328∧((v1).length:Int)+(([y6.fStage]:List Int).length:Int)≤140737488355328)<|
  some (.inl ((v1++ [y6.fStage]),(IntKind.i64.wrap (v2+1))))
 else
  some (.inr (some v1))
noncomputable def zf6 (a0:zaf):Option (List Int):=
 zal (fun s:List Int × Int=>zcq a0 s.1 s.2) ([],0)
noncomputable def zee (a0:List Int) (a1:Int) (v1:Int):Option ((Int) ⊕ Option (Bool)):=
 if(decide (v1<(a0.length:Int)))then
  (zaA a0 v1).bind fun y2=>
  if(y2==a1)then
   some (.inr (some true))
  else
   some (.inl (IntKind.i64.wrap (v1+1)))
 else
  some (.inr (some false))
noncomputable def zig (a0:List Int) (a1:Int):Option (Bool):=
 zal (fun s:Int=>zee a0 a1 s) 0
noncomputable def zhU (a0:zaf):Option (Int):=
 (zf6 a0).bind fun v1=>
 (zig v1 3).bind fun v2=>
 if v2 then
  some 2
 else
  (zig v1 0).bind fun v3=>
  if v3 then
   some 0
  else
   some 1
noncomputable def zhk (a0:List UInt8) (v1:Int) (v2:List (List UInt8)):Option (List (List UInt8)):=
 req (0≤v1∧v1≤(a0.length:Int)∧(a0.length:Int)≤(a0.length:Int))<|
 req ((((v2).length:Int)+(([(zfM a0 v1 (a0.length:Int))]:List (List UInt8)).length:Int))*16≤140737488355328∧((v2).length:Int)+(([(zfM a0 v1 (a0.length:Int))]:List (List UInt8)).length:Int)≤140737488355328)<|
 some (v2++ [(zfM a0 v1 (a0.length:Int))])
noncomputable def zdh (a0:List UInt8) (a1:Int) (v3:List (List UInt8)) (v4:Int) (v5:Int):Option ((List (List UInt8) × Int × Int) ⊕ Option (List (List UInt8))):=
 if(decide (v5<(a0.length:Int)))then
  (zaA a0 v5).bind fun y6=>
  if((y6.toNat:Int)==a1)then
   req (0≤v4∧v4≤v5∧v5≤(a0.length:Int))<|
   req ((((v3).length:Int)+(([(zfM a0 v4 v5)]:List (List UInt8)).length:Int))*16≤140737488355328∧((v3).length:Int)+(([(zfM a0 v4 v5)]:List (List UInt8)).length:Int)≤140737488355328)<|
   some (.inl ((v3++ [(zfM a0 v4 v5)]),(IntKind.i64.wrap (v5+1)),(IntKind.i64.wrap (v5+1))))
  else
   some (.inl (v3,v4,(IntKind.i64.wrap (v5+1))))
 else
  some (.inr (zhk a0 v4 v3))
noncomputable def zdX (a0:List UInt8) (a1:Int):Option (List (List UInt8)):=
 zal (fun s:List (List UInt8) × Int × Int=>zdh a0 a1 s.1 s.2.1 s.2.2) ([],0,0)
noncomputable def zeB (a0:zab) (a1:List UInt8) (a2:List UInt8):Option (List UInt8 × List UInt8 × Bool):=
 (zdX a2 47).bind fun v1=>
 if((v1.length:Int) !=3)then
  some (([]:List UInt8),([]:List UInt8),false)
 else
  (zaA v1 0).bind fun y2=>
  req ((a0.fName).length+(([46]:List UInt8)).length≤9223372036854775807)<|
  req (((a0.fName++([46]:List UInt8))).length+(a1).length≤9223372036854775807)<|
  if(y2 !=((a0.fName++([46]:List UInt8))++a1))then
   some (([]:List UInt8),([]:List UInt8),false)
  else
   (zaA v1 1).bind fun y3=>
   (zef y3).bind fun v4=>
   if v4 then
    (zaA v1 2).bind fun y5=>
    (zef y5).bind fun v6=>
    if(!v6)then
     some (([]:List UInt8),([]:List UInt8),false)
    else
     some (y3,y5,true)
   else
    some (([]:List UInt8),([]:List UInt8),false)
noncomputable def zcf (a0:zab) (a1:List UInt8) (a2:List zaa) (v1:List (List UInt8)) (v2:Int):Option ((List (List UInt8) × Int) ⊕ Option (List (List UInt8))):=
 if(decide (v2<(a2.length:Int)))then
  (zaA a2 v2).bind fun y3=>
  (zeB a0 a1 y3.fKey).bind fun v4=>
  if v4.2.2 then
   req ((((v1).length:Int)+(([y3.fKey]:List (List UInt8)).length:Int))*16≤140737488355328∧((v1).length:Int)+(([y3.fKey]:List (List UInt8)).length:Int)≤140737488355328)<|
   some (.inl ((v1++ [y3.fKey]),(IntKind.i64.wrap (v2+1))))
  else
   some (.inl (v1,(IntKind.i64.wrap (v2+1))))
 else
  some (.inr (some v1))
noncomputable def zeg (a0:zab) (a1:List UInt8) (a2:List zaa):Option (List (List UInt8)):=
 zal (fun s:List (List UInt8) × Int=>zcf a0 a1 a2 s.1 s.2) ([],0)
noncomputable def zds (a0:zab) (a1:List UInt8) (a2:List zaa):Option (Bool):=
 (zci a0).bind fun v1=>
 if v1 then
  (zbv a0 a1).bind fun v2=>
  if(decide (v2≥0))then
   (zc6 a2).bind fun v3=>
   some v3
  else
   some false
 else
  some false
noncomputable def zhH (a0:zab) (a1:zaa):Option (zdu × Bool):=
 if(decide ((a1.fKey.length:Int)<3))then
  some ((⟨[]⟩:zdu),false)
 else
  req (0≤(2:Int)∧(2:Int)≤(a1.fKey.length:Int)∧(a1.fKey.length:Int)≤(a1.fKey.length:Int))<|
  (zdX a1.fVal 44).bind fun v1=>
  req (((([(zfM a1.fKey 2 (a1.fKey.length:Int))]:List (List UInt8)).length:Int)+((v1).length:Int))*16≤140737488355328∧(([(zfM a1.fKey 2 (a1.fKey.length:Int))]:List (List UInt8)).length:Int)+((v1).length:Int)≤140737488355328)<|
  (zdb a0 (⟨([(zfM a1.fKey 2 (a1.fKey.length:Int))]++v1)⟩:zdu)).bind fun v2=>
  if v2 then
   (zdo a0 (⟨([(zfM a1.fKey 2 (a1.fKey.length:Int))]++v1)⟩:zdu)).bind fun v3=>
   some ((⟨([(zfM a1.fKey 2 (a1.fKey.length:Int))]++v1)⟩:zdu),(v3.fKey==a1.fKey&&(v3.fVal==a1.fVal&&(v3.fGone==a1.fGone))))
  else
   some ((⟨([(zfM a1.fKey 2 (a1.fKey.length:Int))]++v1)⟩:zdu),false)
noncomputable def zdg (a0:zab) (a1:List zaa) (v1:List zdu) (v2:Int):Option ((List zdu × Int) ⊕ Option (List zdu)):=
 if(decide (v2<(a1.length:Int)))then
  (zaA a1 v2).bind fun y3=>
  (zhH a0 y3).bind fun v4=>
  if v4.2 then
   req ((((v1).length:Int)+(([v4.1]:List zdu).length:Int))*24≤140737488355328∧((v1).length:Int)+(([v4.1]:List zdu).length:Int)≤140737488355328)<|
   some (.inl ((v1++ [v4.1]),(IntKind.i64.wrap (v2+1))))
  else
   some (.inl (v1,(IntKind.i64.wrap (v2+1))))
 else
  some (.inr (some v1))
noncomputable def zjR (a0:zab) (a1:List zaa):Option (List zdu):=
 zal (fun s:List zdu × Int=>zdg a0 a1 s.1 s.2) ([],0)
noncomputable def zcu (a0:zab) (a1:List UInt8) (v1:List zdu) (v2:List (List UInt8)) (v3:Int):Option ((List (List UInt8) × Int) ⊕ Option (List (List UInt8))):=
 if(decide (v3<(v1.length:Int)))then
  (zaA v1 v3).bind fun y4=>
  (zbv a0 a1).bind fun v5=>
  (zaA a0.fIdxs v5).bind fun y6=>
  (zej a0 y6 y4).bind fun v7=>
  req ((((v2).length:Int)+(([v7]:List (List UInt8)).length:Int))*16≤140737488355328∧((v2).length:Int)+(([v7]:List (List UInt8)).length:Int)≤140737488355328)<|
  some (.inl ((v2++ [v7]),(IntKind.i64.wrap (v3+1))))
 else
  some (.inr (some v2))
noncomputable def zeM (a0:zab) (a1:List UInt8) (a2:List zaa):Option (List (List UInt8)):=
 (zjR a0 a2).bind fun v1=>
 zal (fun s:List (List UInt8) × Int=>zcu a0 a1 v1 s.1 s.2) ([],0)
noncomputable def zdi (a0:List (List UInt8)) (a1:List (List UInt8)) (v1:List (List UInt8)) (v2:Int):Option ((List (List UInt8) × Int) ⊕ Option (List (List UInt8))):=
 if(decide (v2<(a0.length:Int)))then
  (zaA a0 v2).bind fun y3=>
  (zh2 a1 y3).bind fun v4=>
  if(decide (v4<0))then
   req ((((v1).length:Int)+(([y3]:List (List UInt8)).length:Int))*16≤140737488355328∧((v1).length:Int)+(([y3]:List (List UInt8)).length:Int)≤140737488355328)<|
   some (.inl ((v1++ [y3]),(IntKind.i64.wrap (v2+1))))
  else
   some (.inl (v1,(IntKind.i64.wrap (v2+1))))
 else
  some (.inr (some v1))
noncomputable def zhS (a0:List (List UInt8)) (a1:List (List UInt8)):Option (List (List UInt8)):=
 zal (fun s:List (List UInt8) × Int=>zdi a0 a1 s.1 s.2) ([],0)
noncomputable def ziC (a0:zab) (a1:List UInt8) (a2:List zaa):Option (List (List UInt8) × Bool):=
 (zds a0 a1 a2).bind fun v1=>
 if(!v1)then
  some ([],false)
 else
  (zeg a0 a1 a2).bind fun v2=>
  (zeM a0 a1 a2).bind fun v3=>
  (zhS v2 v3).bind fun v4=>
  some (v4,true)
noncomputable def zjQ (a0:zab) (a1:List UInt8) (a2:List zaa):Option (List (List UInt8) × Bool):=
 (zds a0 a1 a2).bind fun v1=>
 if(!v1)then
  some ([],false)
 else
  (zeM a0 a1 a2).bind fun v2=>
  (zeg a0 a1 a2).bind fun v3=>
  (zhS v2 v3).bind fun v4=>
  some (v4,true)
noncomputable def zgx (a0:zab) (a1:List UInt8) (a2:Int) (a3:List zaa):Option (Bool):=
 if(a2==0)then
  (zeg a0 a1 a3).bind fun v1=>
  some ((v1.length:Int)==0)
 else
  (ziC a0 a1 a3).bind fun v2=>
  (zjQ a0 a1 a3).bind fun v3=>
  some (((v2.1.length:Int)==0)&&((a2==1)||((v3.1.length:Int)==0)))
noncomputable def zhE (a0:zaf):Option (Bool):=
 (zaA a0.fWays 0).bind fun y1=>
 (zhU a0).bind fun v2=>
 (zgx y1 a0.fName v2 a0.fStore).bind fun v3=>
 some v3
noncomputable def zk1 (a0:zaf) (a1:zad):Option (Bool):=
 (zes a0 a1).bind fun v1=>
 if v1.2 then
  (zl1 v1.1.fAt).bind fun v2=>
  if v2 then
   (zhE v1.1).bind fun v3=>
   some v3
  else
   some false
 else
  some false
noncomputable def zmF (a0:zaf) (a1:zad):Option (Bool × Bool):=
 (zdq a0 a1).bind fun v1=>
 if((!v1)||(a1.fStep==0))then
  some (false,false)
 else
  (zk1 a0 a1).bind fun v2=>
  some (v2,true)
noncomputable def zjz (a0:List Int) (v2:Int) (v3:Int):Option ((Int × Int) ⊕ Option (Int)):=
 if(decide (v3<(a0.length:Int)))then
  (zaA a0 v3).bind fun y4=>
  some (.inl ((bif (decide (y4>v2))then y4 else v2),(IntKind.i64.wrap (v3+1))))
 else
  some (.inr (some v2))
noncomputable def zgC (a0:List Int):Option (Int):=
 if(decide ((a0.length:Int)<1))then
  none
 else
  (zaA a0 0).bind fun y1=>
  zal (fun s:Int × Int=>zjz a0 s.1 s.2) (y1,1)
noncomputable def zjy (a0:List Int) (v2:Int) (v3:Int):Option ((Int × Int) ⊕ Option (Int)):=
 if(decide (v3<(a0.length:Int)))then
  (zaA a0 v3).bind fun y4=>
  some (.inl ((bif (decide (y4<v2))then y4 else v2),(IntKind.i64.wrap (v3+1))))
 else
  some (.inr (some v2))
noncomputable def zgT (a0:List Int):Option (Int):=
 if(decide ((a0.length:Int)<1))then
  none
 else
  (zaA a0 0).bind fun y1=>
  zal (fun s:Int × Int=>zjy a0 s.1 s.2) (y1,1)
noncomputable def zgu (a0:zaf):Option (Bool):=
 (zgC a0.fAt).bind fun v1=>
 (zgT a0.fAt).bind fun v2=>
 some (decide ((IntKind.i64.wrap (v1-v2))≤1))
noncomputable def zbJ (a0:zaf) (v1:Int) (v2:Int):Option ((Int × Int) ⊕ Option (Int)):=
 if(decide (v2<(a0.fAt.length:Int)))then
  (zaJ a0 v2).bind fun v3=>
  (zbF a0 v3).bind fun v4=>
  if(v4==3)then
   some (.inr (some 2))
  else
   if(v4==0)then
    some (.inl (0,(IntKind.i64.wrap (v2+1))))
   else
    some (.inl (v1,(IntKind.i64.wrap (v2+1))))
 else
  some (.inr (some v1))
noncomputable def zeA (a0:zaf):Option (Int):=
 zal (fun s:Int × Int=>zbJ a0 s.1 s.2) (1,0)
noncomputable def zbn (a0:List UInt8) (a1:List UInt8):Option (Bool):=
 if(decide ((a0.length:Int)≥(a1.length:Int)))then
  req (0≤(0:Int)∧(0:Int)≤(a1.length:Int)∧(a1.length:Int)≤(a0.length:Int))<|
  some ((zfM a0 0 (a1.length:Int))==a1)
 else
  some false
noncomputable def zcj (a0:List UInt8) (a1:List UInt8):Option (List UInt8 × Bool):=
 (zbn a0 a1).bind fun v1=>
 if(!v1)then
  some (a0,false)
 else
  req (0≤(a1.length:Int)∧(a1.length:Int)≤(a0.length:Int)∧(a0.length:Int)≤(a0.length:Int))<|
  some ((zfM a0 (a1.length:Int) (a0.length:Int)),true)
noncomputable def zdv (a0:List UInt8) (a1:List UInt8):Option (List UInt8 × Bool):=
 (zcj a0 a1).bind fun v1=>
 some (v1.1,v1.2)
noncomputable def zck (a0:List UInt8) (a1:List UInt8):Option (List UInt8 × List UInt8 × Bool):=
 (zaV a0 a1).bind fun v1=>
 if(decide (v1≥0))then
  req (0≤(0:Int)∧(0:Int)≤v1∧v1≤(a0.length:Int))<|
  req (0≤(IntKind.i64.wrap (v1+(a1.length:Int)))∧(IntKind.i64.wrap (v1+(a1.length:Int)))≤(a0.length:Int)∧(a0.length:Int)≤(a0.length:Int))<|
  some ((zfM a0 0 v1),(zfM a0 (IntKind.i64.wrap (v1+(a1.length:Int))) (a0.length:Int)),true)
 else
  some (a0,([]:List UInt8),false)
noncomputable def zfu (a0:List UInt8) (a1:List UInt8):Option (List UInt8 × List UInt8 × Bool):=
 (zck a0 a1).bind fun v1=>
 some (v1.1,v1.2.1,v1.2.2)
noncomputable def zcw (a0:zab) (a1:List UInt8) (a2:List UInt8):Option (List UInt8 × List UInt8 × Bool):=
 (zcm a0 a1).bind fun v1=>
 (zdv a2 v1).bind fun v2=>
 (zfu v2.1 ([47]:List UInt8)).bind fun v3=>
 if v2.2 then
  if v3.2.2 then
   (zeT v3.1).bind fun v4=>
   if v4 then
    (zeT v3.2.1).bind fun v5=>
    if(!v5)then
     some (([]:List UInt8),([]:List UInt8),false)
    else
     some (v3.1,v3.2.1,true)
   else
    some (([]:List UInt8),([]:List UInt8),false)
  else
   some (([]:List UInt8),([]:List UInt8),false)
 else
  some (([]:List UInt8),([]:List UInt8),false)
noncomputable def za0 (a0:zab) (a1:List UInt8) (a2:List zaa) (v1:Int) (v2:List (List UInt8)):Option ((Int × List (List UInt8)) ⊕ Option (List (List UInt8))):=
 if(decide (v1<(a2.length:Int)))then
  (zaA a2 v1).bind fun y3=>
  (zcw a0 a1 y3.fKey).bind fun v4=>
  if v4.2.2 then
   req ((((v2).length:Int)+(([y3.fKey]:List (List UInt8)).length:Int))*16≤140737488355328∧((v2).length:Int)+(([y3.fKey]:List (List UInt8)).length:Int)≤140737488355328)<|
   some (.inl ((IntKind.i64.wrap (v1+1)),(v2++ [y3.fKey])))
  else
   some (.inl ((IntKind.i64.wrap (v1+1)),v2))
 else
  some (.inr (some v2))
noncomputable def zb3 (a0:zab) (a1:List UInt8) (a2:List zaa):Option (List (List UInt8)):=
 zal (fun s:Int × List (List UInt8)=>za0 a0 a1 a2 s.1 s.2) (0, [])
noncomputable def zgI (a0:List UInt8) (a1:List UInt8):Option (Int):=
 (zaV a0 a1).bind fun v1=>
 some v1
noncomputable def zfl (v3:List UInt8) (v4:Int) (v5:List (List UInt8)):Option (List (List UInt8)):=
 (zaA v5 v4).bind fun y6=>
 req (0≤(0:Int)∧(0:Int)≤(IntKind.i64.wrap (v4+1))∧(IntKind.i64.wrap (v4+1))≤((v5.set (v4).toNat v3).length:Int))<|
 some (zfM (v5.set (v4).toNat v3) 0 (IntKind.i64.wrap (v4+1)))
noncomputable def zbZ (a0:List UInt8) (a1:List UInt8) (a2:Int) (v2:Int) (v7:List UInt8) (v8:Int) (v9:List (List UInt8)):Option ((List UInt8 × Int × List (List UInt8)) ⊕ Option (List (List UInt8))):=
 if(decide (v8<(IntKind.i64.wrap ((bif (decide ((IntKind.i64.wrap ((a0.length:Int)+1))<v2))then(IntKind.i64.wrap ((a0.length:Int)+1))else v2)-1))))then
  (zgI v7 a1).bind fun v10=>
  if(decide (v10<0))then
   some (.inr (zfl v7 v8 v9))
  else
   req (0≤(0:Int)∧(0:Int)≤(IntKind.i64.wrap (v10+a2))∧(IntKind.i64.wrap (v10+a2))≤(v7.length:Int))<|
   (zaA v9 v8).bind fun y11=>
   req (0≤(IntKind.i64.wrap (v10+(a1.length:Int)))∧(IntKind.i64.wrap (v10+(a1.length:Int)))≤(v7.length:Int)∧(v7.length:Int)≤(v7.length:Int))<|
   some (.inl ((zfM v7 (IntKind.i64.wrap (v10+(a1.length:Int))) (v7.length:Int)),(IntKind.i64.wrap (v8+1)),(v9.set (v8).toNat (zfM v7 0 (IntKind.i64.wrap (v10+a2))))))
 else
  some (.inr (zfl v7 v8 v9))
noncomputable def zfo (a0:List UInt8) (a1:List UInt8) (a2:Int) (v2:Int):Option (List (List UInt8)):=
 req (0≤(bif (decide ((IntKind.i64.wrap ((a0.length:Int)+1))<v2))then(IntKind.i64.wrap ((a0.length:Int)+1))else v2)∧(bif (decide ((IntKind.i64.wrap ((a0.length:Int)+1))<v2))then(IntKind.i64.wrap ((a0.length:Int)+1))else v2)*16≤140737488355328∧(bif (decide ((IntKind.i64.wrap ((a0.length:Int)+1))<v2))then(IntKind.i64.wrap ((a0.length:Int)+1))else v2)≤140737488355328)<|
 zal (fun s:List UInt8 × Int × List (List UInt8)=>zbZ a0 a1 a2 v2 s.1 s.2.1 s.2.2) (a0,0,(List.replicate ((bif (decide ((IntKind.i64.wrap ((a0.length:Int)+1))<v2))then(IntKind.i64.wrap ((a0.length:Int)+1))else v2)).toNat ([]:List UInt8)))
noncomputable def zgS (a0:List UInt8) (a1:List UInt8) (a2:Int) (a3:Int):Option (List (List UInt8)):=
 if(a3==0)then
  some []
 else
  if(a1==([]:List UInt8))then
   (zhu a0 a3).bind fun v1=>
   some v1
  else
   if(decide (a3<0))then
    (zgt a0 a1).bind fun v12=>
    zfo a0 a1 a2 (IntKind.i64.wrap (v12+1))
   else
    zfo a0 a1 a2 a3
noncomputable def zfr (a0:List UInt8) (a1:List UInt8):Option (List (List UInt8)):=
 (zgS a0 a1 0 (-1)).bind fun v1=>
 some v1
noncomputable def zdy (a0:zab) (a1:zaa):Option (zdu × Bool):=
 req ((a0.fName).length+(([47]:List UInt8)).length≤9223372036854775807)<|
 (zdv a1.fKey (a0.fName++([47]:List UInt8))).bind fun v1=>
 (zfr a1.fVal ([44]:List UInt8)).bind fun v2=>
 req (((([v1.1]:List (List UInt8)).length:Int)+((v2).length:Int))*16≤140737488355328∧(([v1.1]:List (List UInt8)).length:Int)+((v2).length:Int)≤140737488355328)<|
 if v1.2 then
  (zbb a0 (⟨([v1.1]++v2)⟩:zdu)).bind fun v3=>
  if v3 then
   (zbt a0 (⟨([v1.1]++v2)⟩:zdu)).bind fun v4=>
   if(!(a1.fKey==v4.fKey&&(a1.fVal==v4.fVal&&(a1.fGone==v4.fGone))))then
    some ((⟨[]⟩:zdu),false)
   else
    some ((⟨([v1.1]++v2)⟩:zdu),true)
  else
   some ((⟨[]⟩:zdu),false)
 else
  some ((⟨[]⟩:zdu),false)
noncomputable def zbh (a0:zab) (a1:List zaa) (v1:Int) (v2:List zdu):Option ((Int × List zdu) ⊕ Option (List zdu)):=
 if(decide (v1<(a1.length:Int)))then
  (zaA a1 v1).bind fun y3=>
  (zdy a0 y3).bind fun v4=>
  if v4.2 then
   req ((((v2).length:Int)+(([v4.1]:List zdu).length:Int))*24≤140737488355328∧((v2).length:Int)+(([v4.1]:List zdu).length:Int)≤140737488355328)<|
   some (.inl ((IntKind.i64.wrap (v1+1)),(v2++ [v4.1])))
  else
   some (.inl ((IntKind.i64.wrap (v1+1)),v2))
 else
  some (.inr (some v2))
noncomputable def zfk (a0:zab) (a1:List zaa):Option (List zdu):=
 zal (fun s:Int × List zdu=>zbh a0 a1 s.1 s.2) (0, [])
noncomputable def zbi (a0:zab) (a1:List UInt8) (v1:List zdu) (v2:Int) (v3:List (List UInt8)):Option ((Int × List (List UInt8)) ⊕ Option (List (List UInt8))):=
 if(decide (v2<(v1.length:Int)))then
  (zaA v1 v2).bind fun y4=>
  (za3 a0 a1 y4).bind fun v5=>
  req ((((v3).length:Int)+(([v5]:List (List UInt8)).length:Int))*16≤140737488355328∧((v3).length:Int)+(([v5]:List (List UInt8)).length:Int)≤140737488355328)<|
  some (.inl ((IntKind.i64.wrap (v2+1)),(v3++ [v5])))
 else
  some (.inr (some v3))
noncomputable def zcA (a0:zab) (a1:List UInt8) (a2:List zaa):Option (List (List UInt8)):=
 (zfk a0 a2).bind fun v1=>
 zal (fun s:Int × List (List UInt8)=>zbi a0 a1 v1 s.1 s.2) (0, [])
noncomputable def ziG (a0:List UInt8) (a1:List (List UInt8)):Option (Bool):=
 (zaL a1 a0).bind fun v1=>
 some v1
noncomputable def zfR (a0:List (List UInt8)) (a1:List (List UInt8)):Option (List (List UInt8)):=
 (zaY a0).bind fun v1=>
 (zfj v1 (fun y0_=>ziG y0_ a1)).bind fun v2=>
 some v2
noncomputable def zcP (a0:zab) (a1:List UInt8) (a2:List zaa):Option (List (List UInt8)):=
 (zb3 a0 a1 a2).bind fun v1=>
 (zcA a0 a1 a2).bind fun v2=>
 (zfR v1 v2).bind fun v3=>
 some v3
noncomputable def ze5 (a0:zab) (a1:List UInt8) (a2:List zaa):Option (List (List UInt8)):=
 (zcA a0 a1 a2).bind fun v1=>
 (zb3 a0 a1 a2).bind fun v2=>
 (zfR v1 v2).bind fun v3=>
 some v3
noncomputable def zdx (a0:zab) (a1:List UInt8) (a2:Int) (a3:List zaa):Option (Bool):=
 if(a2==0)then
  (zb3 a0 a1 a3).bind fun v1=>
  some ((v1.length:Int)==0)
 else
  if(a2==1)then
   (zcP a0 a1 a3).bind fun v2=>
   some ((v2.length:Int)==0)
  else
   (zcP a0 a1 a3).bind fun v3=>
   if((v3.length:Int)==0)then
    (ze5 a0 a1 a3).bind fun v4=>
    some ((v4.length:Int)==0)
   else
    some false
noncomputable def zdN (a0:zaf):Option (Bool):=
 (zaA a0.fWays 0).bind fun y1=>
 (zeA a0).bind fun v2=>
 (zdx y1 a0.fName v2 a0.fStore).bind fun v3=>
 some v3
noncomputable def zgO (a0:zaf) (a1:zad):Option (Bool):=
 (zbo a0 a1).bind fun v1=>
 if v1.2 then
  (zgu v1.1).bind fun v2=>
  if v2 then
   (zdN v1.1).bind fun v3=>
   some v3
  else
   some false
 else
  some false
noncomputable def zmH (a0:zaf) (a1:zad):Option (Bool × Bool):=
 (zdp a0 a1).bind fun v1=>
 if((!v1)||(a1.fStep==0))then
  some (false,false)
 else
  (zgO a0 a1).bind fun v2=>
  some (v2,true)
noncomputable def zh0 (a0:zaf) (a1:zad):Option (Bool):=
 (ze0 a0 1048576).bind fun v1=>
 if(decide (v1<0))then
  some true
 else
  (zdk a1 v1).bind fun v2=>
  if(decide (v2<0))then
   some true
  else
   (za1 a0).bind fun v3=>
   (zaZ a1).bind fun v4=>
   (zmF v3 v4).bind fun v5=>
   (za1 a0).bind fun v6=>
   (zaZ a1).bind fun v7=>
   (zmH v6 v7).bind fun v8=>
   if((v8.1 !=v5.1)||(v8.2 !=v5.2))then
    some false
   else
    (za1 a0).bind fun v9=>
    (zbr v6 v9).bind fun v10=>
    if(!v10)then
     some false
    else
     (zaZ a1).bind fun v11=>
     (zde v7 v11).bind fun v12=>
     if(!v12)then
      some false
     else
      some true
noncomputable def zbX (a0:List zad) (v1:Int) (v2:Int):Option ((Int × Int) ⊕ Option (Int)):=
 if(decide (v2<(a0.length:Int)))then
  (zaA a0 v2).bind fun y3=>
  (zdk y3 v1).bind fun v4=>
  if(decide (v4<0))then
   some (.inr (some (-1)))
  else
   some (.inl (v4,(IntKind.i64.wrap (v2+1))))
 else
  some (.inr (some v1))
noncomputable def zfc (a0:List zad) (a1:Int):Option (Int):=
 if(decide ((IntKind.i64.wrap (a1-(a0.length:Int)))<0))then
  some (-1)
 else
  zal (fun s:Int × Int=>zbX a0 s.1 s.2) ((IntKind.i64.wrap (a1-(a0.length:Int))),0)
noncomputable def zcH (a0:List zad) (v1:Int) (v2:List zad):Option ((Int × List zad) ⊕ Option (List zad)):=
 if(decide (v1<(a0.length:Int)))then
  (zaA a0 v1).bind fun y3=>
  (zaZ y3).bind fun v4=>
  (zaA v2 v1).bind fun y5=>
  some (.inl ((IntKind.i64.wrap (v1+1)),(v2.set (v1).toNat v4)))
 else
  some (.inr (some v2))
noncomputable def zb9 (a0:List zad):Option (List zad):=
 req (0≤(a0.length:Int)∧(a0.length:Int)*72≤140737488355328∧(a0.length:Int)≤140737488355328)<|
 zal (fun s:Int × List zad=>zcH a0 s.1 s.2) (0,(List.replicate ((a0.length:Int)).toNat (⟨0,0,(⟨0,(⟨[]⟩:zdu),(⟨[]⟩:zdu)⟩:zat)⟩:zad)))
noncomputable def zpa (a1:List zad) (a2:Bool) (v1:List Bool) (v2:Int) (v3:List UInt8) (v4:List zab) (v5:List Int) (v6:List zaa):Option ((List Bool × Int × List UInt8 × List zab × List Int × List zaa) ⊕ Option (zaf × List Bool)):=
 if(decide (v2<(a1.length:Int)))then
  (zaA a1 v2).bind fun y7=>
  (zeW (⟨v3,v4,v5,v6⟩:zaf) y7).bind fun v8=>
  if a2 then
   if(y7.fStep==0)then
    if(v8&&true)then
     (zes (⟨v3,v4,v5,v6⟩:zaf) y7).bind fun v9=>
     req ((((v1).length:Int)+(([v9.2]:List Bool).length:Int))*1≤140737488355328∧((v1).length:Int)+(([v9.2]:List Bool).length:Int)≤140737488355328)<|
     some (.inl ((v1++ [v9.2]),(IntKind.i64.wrap (v2+1)),v9.1.fName,v9.1.fWays,v9.1.fAt,v9.1.fStore))
    else
     req ((((v1).length:Int)+(([(v8&&true)]:List Bool).length:Int))*1≤140737488355328∧((v1).length:Int)+(([(v8&&true)]:List Bool).length:Int)≤140737488355328)<|
     some (.inl ((v1++ [(v8&&true)]),(IntKind.i64.wrap (v2+1)),v3,v4,v5,v6))
   else
    if v8 then
     (zk1 (⟨v3,v4,v5,v6⟩:zaf) y7).bind fun v10=>
     if v10 then
      (zes (⟨v3,v4,v5,v6⟩:zaf) y7).bind fun v11=>
      req ((((v1).length:Int)+(([v11.2]:List Bool).length:Int))*1≤140737488355328∧((v1).length:Int)+(([v11.2]:List Bool).length:Int)≤140737488355328)<|
      some (.inl ((v1++ [v11.2]),(IntKind.i64.wrap (v2+1)),v11.1.fName,v11.1.fWays,v11.1.fAt,v11.1.fStore))
     else
      req ((((v1).length:Int)+(([v10]:List Bool).length:Int))*1≤140737488355328∧((v1).length:Int)+(([v10]:List Bool).length:Int)≤140737488355328)<|
      some (.inl ((v1++ [v10]),(IntKind.i64.wrap (v2+1)),v3,v4,v5,v6))
    else
     req ((((v1).length:Int)+(([false]:List Bool).length:Int))*1≤140737488355328∧((v1).length:Int)+(([false]:List Bool).length:Int)≤140737488355328)<|
     some (.inl ((v1++ [false]),(IntKind.i64.wrap (v2+1)),v3,v4,v5,v6))
  else
   if(v8&&true)then
    (zes (⟨v3,v4,v5,v6⟩:zaf) y7).bind fun v12=>
    req ((((v1).length:Int)+(([v12.2]:List Bool).length:Int))*1≤140737488355328∧((v1).length:Int)+(([v12.2]:List Bool).length:Int)≤140737488355328)<|
    some (.inl ((v1++ [v12.2]),(IntKind.i64.wrap (v2+1)),v12.1.fName,v12.1.fWays,v12.1.fAt,v12.1.fStore))
   else
    req ((((v1).length:Int)+(([(v8&&true)]:List Bool).length:Int))*1≤140737488355328∧((v1).length:Int)+(([(v8&&true)]:List Bool).length:Int)≤140737488355328)<|
    some (.inl ((v1++ [(v8&&true)]),(IntKind.i64.wrap (v2+1)),v3,v4,v5,v6))
 else
  some (.inr (some ((⟨v3,v4,v5,v6⟩:zaf),v1)))
noncomputable def zmK (a0:zaf) (a1:List zad) (a2:Bool):Option (zaf × List Bool):=
 zal (fun s:List Bool × Int × List UInt8 × List zab × List Int × List zaa=>zpa a1 a2 s.1 s.2.1 s.2.2.1 s.2.2.2.1 s.2.2.2.2.1 s.2.2.2.2.2) ([],0,a0.fName,a0.fWays,a0.fAt,a0.fStore)
noncomputable def zk8 (a0:zaf) (a1:List zad) (a2:Bool):Option (zaf × List Bool × Bool):=
 (zeP a0).bind fun v1=>
 if((!v1)||(decide ((a1.length:Int)>20)))then
  some ((⟨([]:List UInt8), [], [], []⟩:zaf), [],false)
 else
  (zgW a0).bind fun v2=>
  (zmK v2 a1 a2).bind fun v3=>
  some (v3.1,v3.2,true)
noncomputable def zm9 (a1:List zad) (a2:Bool) (v3:Int) (v4:List UInt8) (v5:List zab) (v6:List Int) (v7:List zaa) (v8:List Bool):Option ((Int × List UInt8 × List zab × List Int × List zaa × List Bool) ⊕ Option (zaf × List Bool × Bool)):=
 if(decide (v3<(a1.length:Int)))then
  (zaA a1 v3).bind fun y9=>
  (zba (⟨v4,v5,v6,v7⟩:zaf) y9).bind fun v10=>
  if a2 then
   if(y9.fStep !=0)then
    if v10 then
     (zgO (⟨v4,v5,v6,v7⟩:zaf) y9).bind fun v11=>
     if(!(!v11))then
      (zbo (⟨v4,v5,v6,v7⟩:zaf) y9).bind fun v12=>
      req ((((v8).length:Int)+(([v12.2]:List Bool).length:Int))*1≤140737488355328∧((v8).length:Int)+(([v12.2]:List Bool).length:Int)≤140737488355328)<|
      some (.inl ((IntKind.i64.wrap (v3+1)),v12.1.fName,v12.1.fWays,v12.1.fAt,v12.1.fStore,(v8++ [v12.2])))
     else
      req ((((v8).length:Int)+(([false]:List Bool).length:Int))*1≤140737488355328∧((v8).length:Int)+(([false]:List Bool).length:Int)≤140737488355328)<|
      some (.inl ((IntKind.i64.wrap (v3+1)),v4,v5,v6,v7,(v8++ [false])))
    else
     req ((((v8).length:Int)+(([false]:List Bool).length:Int))*1≤140737488355328∧((v8).length:Int)+(([false]:List Bool).length:Int)≤140737488355328)<|
     some (.inl ((IntKind.i64.wrap (v3+1)),v4,v5,v6,v7,(v8++ [false])))
   else
    if(v10&&true)then
     (zbo (⟨v4,v5,v6,v7⟩:zaf) y9).bind fun v13=>
     req ((((v8).length:Int)+(([v13.2]:List Bool).length:Int))*1≤140737488355328∧((v8).length:Int)+(([v13.2]:List Bool).length:Int)≤140737488355328)<|
     some (.inl ((IntKind.i64.wrap (v3+1)),v13.1.fName,v13.1.fWays,v13.1.fAt,v13.1.fStore,(v8++ [v13.2])))
    else
     req ((((v8).length:Int)+(([false]:List Bool).length:Int))*1≤140737488355328∧((v8).length:Int)+(([false]:List Bool).length:Int)≤140737488355328)<|
     some (.inl ((IntKind.i64.wrap (v3+1)),v4,v5,v6,v7,(v8++ [false])))
  else
   if(v10&&true)then
    (zbo (⟨v4,v5,v6,v7⟩:zaf) y9).bind fun v14=>
    req ((((v8).length:Int)+(([v14.2]:List Bool).length:Int))*1≤140737488355328∧((v8).length:Int)+(([v14.2]:List Bool).length:Int)≤140737488355328)<|
    some (.inl ((IntKind.i64.wrap (v3+1)),v14.1.fName,v14.1.fWays,v14.1.fAt,v14.1.fStore,(v8++ [v14.2])))
   else
    req ((((v8).length:Int)+(([false]:List Bool).length:Int))*1≤140737488355328∧((v8).length:Int)+(([false]:List Bool).length:Int)≤140737488355328)<|
    some (.inl ((IntKind.i64.wrap (v3+1)),v4,v5,v6,v7,(v8++ [false])))
 else
  some (.inr (some ((⟨v4,v5,v6,v7⟩:zaf),v8,true)))
noncomputable def ziF (a0:zaf) (a1:List zad) (a2:Bool):Option (zaf × List Bool × Bool):=
 (zeL a0).bind fun v1=>
 if((!v1)||(decide ((a1.length:Int)>20)))then
  some ((⟨([]:List UInt8), [], [], []⟩:zaf), [],false)
 else
  (zeJ a0).bind fun v2=>
  zal (fun s:Int × List UInt8 × List zab × List Int × List zaa × List Bool=>zm9 a1 a2 s.1 s.2.1 s.2.2.1 s.2.2.2.1 s.2.2.2.2.1 s.2.2.2.2.2) (0,v2.fName,v2.fWays,v2.fAt,v2.fStore, [])
noncomputable def zeb (a0:List Bool) (a1:List Bool) (v1:Int):Option ((Int) ⊕ Option (Bool)):=
 if(decide (v1<(a0.length:Int)))then
  (zaA a0 v1).bind fun y2=>
  (zaA a1 v1).bind fun y3=>
  if(y2 !=y3)then
   some (.inr (some false))
  else
   some (.inl (IntKind.i64.wrap (v1+1)))
 else
  some (.inr (some true))
noncomputable def zeY (a0:List Bool) (a1:List Bool):Option (Bool):=
 if((a0.length:Int) !=(a1.length:Int))then
  some false
 else
  zal (fun s:Int=>zeb a0 a1 s) 0
noncomputable def zcB (a0:List zad) (a1:List zad) (v1:Int):Option ((Int) ⊕ Option (Bool)):=
 if(decide (v1<(a0.length:Int)))then
  (zaA a0 v1).bind fun y2=>
  (zaA a1 v1).bind fun y3=>
  (zde y2 y3).bind fun v4=>
  if(!v4)then
   some (.inr (some false))
  else
   some (.inl (IntKind.i64.wrap (v1+1)))
 else
  some (.inr (some true))
noncomputable def zfa (a0:List zad) (a1:List zad):Option (Bool):=
 if((a0.length:Int) !=(a1.length:Int))then
  some false
 else
  zal (fun s:Int=>zcB a0 a1 s) 0
noncomputable def zbx (v1:Int) (v2:Int) (v3:List zad):Option ((Int × Int × List zad) ⊕ Option (Int × List zad)):=
 if(decide (v2<(v3.length:Int)))then
  (zaA v3 v2).bind fun y4=>
  (zcM ({{{y4 with fServer:=v1}with fStep:=(IntKind.i64.wrap (v1+1))}with fAct.fKind:=(IntKind.i64.wrap ((IntKind.i64.wrap (v1+1))+1))}.fAct.fOld.fVals) (IntKind.i64.wrap ((IntKind.i64.wrap ((IntKind.i64.wrap (v1+1))+1))+1))).bind fun v5=>
  (zcM ({{{{y4 with fServer:=v1}with fStep:=(IntKind.i64.wrap (v1+1))}with fAct.fKind:=(IntKind.i64.wrap ((IntKind.i64.wrap (v1+1))+1))}with fAct.fOld.fVals:=v5.2}.fAct.fNew.fVals) v5.1).bind fun v6=>
  some (.inl (v6.1,(IntKind.i64.wrap (v2+1)),(((((v3.set (v2).toNat {y4 with fServer:=v1}).set (v2).toNat {{y4 with fServer:=v1}with fStep:=(IntKind.i64.wrap (v1+1))}).set (v2).toNat {{{y4 with fServer:=v1}with fStep:=(IntKind.i64.wrap (v1+1))}with fAct.fKind:=(IntKind.i64.wrap ((IntKind.i64.wrap (v1+1))+1))}).set (v2).toNat {{{{y4 with fServer:=v1}with fStep:=(IntKind.i64.wrap (v1+1))}with fAct.fKind:=(IntKind.i64.wrap ((IntKind.i64.wrap (v1+1))+1))}with fAct.fOld.fVals:=v5.2}).set (v2).toNat {{{{{y4 with fServer:=v1}with fStep:=(IntKind.i64.wrap (v1+1))}with fAct.fKind:=(IntKind.i64.wrap ((IntKind.i64.wrap (v1+1))+1))}with fAct.fOld.fVals:=v5.2}with fAct.fNew.fVals:=v6.2})))
 else
  some (.inr (some (v1,v3)))
noncomputable def zfF (a0:List zad) (a1:Int):Option (Int × List zad):=
 zal (fun s:Int × Int × List zad=>zbx s.1 s.2.1 s.2.2) (a1,0,a0)
noncomputable def zcp (v1:Int) (v2:Int) (v3:List Bool):Option ((Int × Int × List Bool) ⊕ Option (Int × List Bool)):=
 if(decide (v2<(v3.length:Int)))then
  (zaA v3 v2).bind fun y4=>
  some (.inl ((IntKind.i64.wrap (v1+1)),(IntKind.i64.wrap (v2+1)),(v3.set (v2).toNat ((Int.tmod v1 3)==0))))
 else
  some (.inr (some (v1,v3)))
noncomputable def zit (a0:List Bool) (a1:Int):Option (Int × List Bool):=
 zal (fun s:Int × Int × List Bool=>zcp s.1 s.2.1 s.2.2) (a1,0,a0)
noncomputable def zcr (a0:List Bool) (v1:Int) (v2:Int):Option ((Int × Int) ⊕ Option (Int)):=
 if(decide (v2<(a0.length:Int)))then
  (zaA a0 v2).bind fun y3=>
  if(y3 !=((Int.tmod v1 3)==0))then
   some (.inr (some (-1)))
  else
   some (.inl ((IntKind.i64.wrap (v1+1)),(IntKind.i64.wrap (v2+1))))
 else
  some (.inr (some v1))
noncomputable def zf1 (a0:List Bool) (a1:Int):Option (Int):=
 zal (fun s:Int × Int=>zcr a0 s.1 s.2) (a1,0)
noncomputable def zgG (a0:zaf) (a1:List zad) (a2:Bool):Option (Bool):=
 (ze0 a0 1048576).bind fun v1=>
 if(decide (v1<0))then
  some true
 else
  (zfc a1 v1).bind fun v2=>
  if(decide (v2<0))then
   some true
  else
   (za1 a0).bind fun v3=>
   (zb9 a1).bind fun v4=>
   (zk8 v3 v4 a2).bind fun v5=>
   (za1 a0).bind fun v6=>
   (zb9 a1).bind fun v7=>
   (ziF v6 v7 a2).bind fun v8=>
   (zbr v8.1 v5.1).bind fun v9=>
   if v9 then
    (zeY v8.2.1 v5.2.1).bind fun v10=>
    if((!v10)||(v8.2.2 !=v5.2.2))then
     some false
    else
     (za1 a0).bind fun v11=>
     (zbr v6 v11).bind fun v12=>
     if(!v12)then
      some false
     else
      (zb9 a1).bind fun v13=>
      (zfa v7 v13).bind fun v14=>
      if(!v14)then
       some false
      else
       (zcY v6 1).bind fun v15=>
       (zfF v7 v15.1).bind fun v16=>
       if(decide (v16.1<0))then
        some false
       else
        (zbr v8.1 v5.1).bind fun v17=>
        if v17 then
         (zeY v8.2.1 v5.2.1).bind fun v18=>
         if((!v18)||(v8.2.2 !=v5.2.2))then
          some false
         else
          (zcY v8.1 1).bind fun v19=>
          (zit v8.2.1 v19.1).bind fun v20=>
          (zc1 (⟨v8.1.fName,v19.2.fWays,v19.2.fAt,v19.2.fStore⟩:zaf) 1).bind fun v21=>
          if(decide (v21<0))then
           some false
          else
           (zf1 v20.2 v21).bind fun v22=>
           if(decide (v22<0))then
            some false
           else
            if(v22 !=v20.1)then
             some false
            else
             (za1 a0).bind fun v23=>
             (zb9 a1).bind fun v24=>
             (ziF v23 v24 a2).bind fun v25=>
             (zbr v25.1 v5.1).bind fun v26=>
             if v26 then
              (zeY v25.2.1 v5.2.1).bind fun v27=>
              if((!v27)||(v25.2.2 !=v5.2.2))then
               some false
              else
               (zc1 (⟨v8.1.fName,v19.2.fWays,v19.2.fAt,v19.2.fStore⟩:zaf) 1).bind fun v28=>
               if(decide (v28<0))then
                some false
               else
                (zf1 v20.2 v28).bind fun v29=>
                if(decide (v29<0))then
                 some false
                else
                 if(v29 !=v20.1)then
                  some false
                 else
                  some true
             else
              some false
        else
         some false
   else
    some false
end Go.Proofs.YtfkblfjloegahaaGreatDoor
end
section
namespace Go.Proofs.YtfkblfjloegahaaGreatDoor
open Go.RowKit
theorem zac {α:Type} {xs:List α} {i:Nat} (h:i<xs.length):zaA xs (i:Int)=some xs[i]:=by simp [zaA,h]
theorem zo1 {α:Type} {xs:List α} {i:Int} (h0:0≤i) (h:i<xs.length): ∃x,zaA xs i=some x∧x∈xs∧xs[i.toNat]?=some x:=by
 have hi:i.toNat<xs.length:=by omega
 exact⟨xs[i.toNat],by simp [zaA,h0,hi],List.getElem_mem hi,by simp [hi]⟩
theorem zCb {α:Type} {xs:List α} {i:Int} {x:α} (h:zaA xs i=some x):x∈xs:=by
 obtain⟨h1,h2,h3⟩:=zw2 h
 exact List.mem_of_getElem? h3
theorem zaI {q n:Nat} (h:q<n) (hn:n≤9223372036854775807):IntKind.i64.wrap ((q:Int)+1)=((q+1:Nat):Int):=by rw [zaD (by omega) (by omega)];simp
theorem zae {α:Type} {p:Prop} {k:Option α} (h:p):req p k=k:=by simp [req,h]
def goL {α σ β:Type} (step:α→σ→Option (σ ⊕ Option β)) (fin:σ→Option β):List α→σ→Option β
 | [],s=>fin s
 |x::xs,s=>match step x s with
  |none=>none
  |some (.inl s')=>goL step fin xs s'
  |some (.inr o)=>o
def zuy {σ τ β:Type} (f:σ→τ):Option (σ ⊕ Option β)→Option (τ ⊕ Option β)
 |none=>none
 |some (.inl s)=>some (.inl (f s))
 |some (.inr o)=>some (.inr o)
theorem zzH {α σ τ β:Type} {xs:List α} {body:τ→Option (τ ⊕ Option β)} (emb:Int→σ→τ) (step:α→σ→Option (σ ⊕ Option β)) (fin:σ→Option β) (q0:Nat)
  (hs: ∀(i:Nat) (hi:i<xs.length) (s:σ),q0≤i→body (emb i s)=zuy (emb ((i+1:Nat):Int)) (step xs[i] s)) (he: ∀s,body (emb xs.length s)=some (.inr (fin s))) (s:σ) (h0:q0≤xs.length):zal body (emb q0 s)=goL step fin (xs.drop q0) s:=by
 have key: ∀(n q:Nat) (s:σ),q0≤q→q+n=xs.length→zal body (emb q s)=goL step fin (xs.drop q) s:=by
  intro n
  induction n with
  |zero=>
   intro q s _ hq
   have:q=xs.length:=by omega
   subst this
   rw [zaP,he s]
   simp [goL]
  |succ n ih=>
   intro q s h0 hq
   have hlt:q<xs.length:=by omega
   rw [zaP,hs q hlt s h0,List.drop_eq_getElem_cons hlt]
   rcases hst:step xs[q] s with _|s'|o
   ·simp [goL,hst,zuy]
   ·simp only [goL,hst,zuy];exact ih (q+1) s' (by omega) (by omega)
   ·simp [goL,hst,zuy]
 exact key (xs.length-q0) q0 s (Nat.le_refl _) (by omega)
theorem zob {α σ τ β:Type} {xs:List α} {body:τ→Option (τ ⊕ Option β)} (emb:Int→σ→τ) (step:α→σ→Option (σ ⊕ Option β)) (fin:σ→Option β)
  (hs: ∀(i:Nat) (hi:i<xs.length) (s:σ),body (emb i s)=zuy (emb ((i+1:Nat):Int)) (step xs[i] s)) (he: ∀s,body (emb xs.length s)=some (.inr (fin s))) (s:σ):zal body (emb 0 s)=goL step fin xs s:=by
 have:=zzH emb step fin 0 (fun i hi s _=>hs i hi s) he s (by omega)
 simpa using this
theorem zwd {α σ β:Type} {step:α→σ→Option (σ ⊕ Option β)} {fin:σ→Option β} {xs:List α} (p:α→Bool) (b:β) (h: ∀x∈xs,∀s,step x s=some (if p x=true then .inl s else .inr (some b))) (s:σ):goL step fin xs s=if xs.all p=true then fin s else some b:=by
 induction xs with
 |nil=>simp [goL]
 |cons x xs ih=>
  simp only [goL,h x (by simp) s]
  cases hp:p x with
  |true=>simp [hp,ih fun y hy=>h y (by simp [hy])]
  |false=>simp [hp]
theorem zA3 {α σ β:Type} {step:α→σ→Option (σ ⊕ Option β)} {fin:σ→Option β} {xs:List α} (f:σ→α→σ) (I:σ→Prop) (hI: ∀x∈xs,∀s,I s→I (f s x)) (h: ∀x∈xs,∀s,I s→step x s=some (.inl (f s x))) {s:σ} (hs:I s):goL step fin xs s=fin (xs.foldl f s):=by
 induction xs generalizing s with
 |nil=>simp [goL]
 |cons x xs ih=>
  simp only [goL,h x (by simp) s hs,List.foldl_cons]
  exact ih (fun y hy=>hI y (by simp [hy])) (fun y hy=>h y (by simp [hy])) (hI x (by simp) s hs)
theorem zEK {α σ β:Type} {step:α→σ→Option (σ ⊕ Option β)} {fin:σ→Option β} (f:σ→α→σ) (n:Nat) (I:Nat→σ→Prop) {xs:List α} (h: ∀q,q<n→ ∀x∈xs,∀s,I q s→step x s=some (.inl (f s x))∧I (q+1) (f s x)) {q:Nat} {s:σ} (hq:q+xs.length≤n) (hs:I q s):goL step fin xs s=fin (xs.foldl f s)∧I (q+xs.length) (xs.foldl f s):=by
 induction xs generalizing s q with
 |nil=>exact⟨rfl,hs⟩
 |cons x xs ih=>
  simp only [List.length_cons]at hq
  obtain⟨h1,h2⟩:=h q (by omega) x (by simp) s hs
  simp only [goL,h1,List.foldl_cons,List.length_cons]
  have:=ih (fun q hq y hy=>h q hq y (by simp [hy])) (q:=q+1) (by omega) h2
  rw [show q+(xs.length+1)=q+1+xs.length by omega]
  exact this
theorem zbY {α σ τ β:Type} {xs:List α} {body:τ→Option (τ ⊕ Option β)} (emb:Int→σ→τ) (f:σ→α→σ) (fin:σ→Option β) (I:Nat→σ→Prop)
  (hs: ∀(i:Nat) (hi:i<xs.length) (s:σ),I i s→body (emb i s)=some (.inl (emb ((i+1:Nat):Int) (f s xs[i])))∧I (i+1) (f s xs[i])) (he: ∀s,I xs.length s→body (emb xs.length s)=some (.inr (fin s))) {s:σ} (h0:I 0 s):zal body (emb 0 s)=fin (xs.foldl f s)∧I xs.length (xs.foldl f s):=by
 have key: ∀(n q:Nat) (s:σ),q+n=xs.length→I q s→zal body (emb q s)=fin ((xs.drop q).foldl f s)∧I xs.length ((xs.drop q).foldl f s):=by
  intro n
  induction n with
  |zero=>
   intro q s hq hI
   have:q=xs.length:=by omega
   subst this
   rw [zaP,he s hI]
   simp [hI]
  |succ n ih=>
   intro q s hq hI
   have hlt:q<xs.length:=by omega
   obtain⟨h1,h2⟩:=hs q hlt s hI
   rw [zaP,h1,List.drop_eq_getElem_cons hlt,List.foldl_cons]
   exact ih (q+1) _ (by omega) h2
 have:=key xs.length 0 s (by omega) h0
 simpa using this
theorem zqA {α:Type} {xs:List α} {p:α→Option Bool} (q:α→Bool) (hp: ∀x∈xs,p x=some (q x)) (hn:xs.length≤9223372036854775806):zaT xs p=some (xs.any q):=by
 have key: ∀(l:List α) (i:Int),0≤i→(∀x∈l,p x=some (q x))→ ∃r,zr1 p l i=some r∧decide (r≥0)=l.any q:=by
  intro l
  induction l with
  |nil=>intro i _ _;exact⟨-1,rfl,by simp⟩
  |cons x l ih=>
   intro i hi h
   simp only [zr1,h x (by simp),Option.bind_some]
   cases hq:q x with
   |true=>exact⟨i,by simp,by simp [hq,hi]⟩
   |false=>
    obtain⟨r,h1,h2⟩:=ih (i+1) (by omega) fun y hy=>h y (by simp [hy])
    exact⟨r,by simp [h1],by simp [hq,h2]⟩
 obtain⟨r,h1,h2⟩:=key xs 0 (by omega) hp
 simp [zaT,zbq,zae hn,h1,h2]
theorem zmq {α:Type} {b:Nat} {xs:List α} (h:(xs.length:Int)*b≤140737488355328) (h2:(xs.length:Int)≤140737488355328):znq b xs=some xs:=zae ⟨h,h2⟩
theorem zic {β:Type} {n:Nat} {body:Int→Option (Int ⊕ Option β)} (p:Nat→Bool) (b:β) (fin:Option β)
  (hs: ∀i:Nat,i<n→body i=some (if p i=true then .inl ((i+1:Nat):Int)else .inr (some b))) (he:body n=some (.inr fin)):zal body 0=if(List.range n).all p=true then fin else some b:=by
 have h1:=zob (xs:=List.range n) (body:=body) (fun i (_:Unit)=>i) (fun i _=>some (if p i=true then .inl ()else .inr (some b))) (fun _=>fin)
  (fun i hi s=>by
   rw [List.length_range]at hi
   rw [hs i hi,List.getElem_range]
   cases p i<;>simp [zuy]) (fun s=>by simpa using he) ()
 rw [zwd p b fun x _ s=>rfl]at h1
 exact h1
def zio {α:Type} (p:α→Bool) (l:List α):Int:=match l.findIdx? p with|some i=>(i:Int)|none=> -1
theorem znW {α:Type} (p:α→Bool):zio p []= -1:=rfl
theorem zl0 {α:Type} (p:α→Bool) (x:α) (l:List α):zio p (x::l)=if p x=true then 0 else if zio p l= -1 then-1 else zio p l+1:=by
 unfold zio
 rw [List.findIdx?_cons]
 cases p x with
 |true=>simp
 |false=>
  cases h:l.findIdx? p with
  |none=>simp
  |some i=>simp<;>omega
theorem zqC {α:Type} (p:α→Bool) (l:List α): -1≤zio p l:=by
 unfold zio
 split<;>omega
theorem zGJ {α:Type} (p:α→Bool) (l:List α):zio p l<l.length:=by
 induction l with
 |nil=>simp [znW]
 |cons x l ih=>rw [zl0];split<;>(try split)<;>simp<;>omega
theorem zma {α:Type} (p:α→Bool) (l:List α):decide (zio p l≥0)=l.any p:=by
 induction l with
 |nil=>simp [znW]
 |cons x l ih=>
  have h1:=zqC p l
  rw [zl0,List.any_cons,←ih]
  cases p x with
  |true=>simp
  |false=>
   by_cases h:zio p l= -1
   ·simp [h]
   ·have:zio p l≥0:=by omega
    simp [h,this];try omega
theorem zw6 {α:Type} {p:α→Bool} {l:List α} (h:zio p l≥0): ∃x,zaA l (zio p l)=some x∧p x=true∧x∈l:=by
 induction l with
 |nil=>simp [znW]at h
 |cons y l ih=>
  rw [zl0]at h ⊢
  cases hy:p y with
  |true=>exact⟨y,by simp [zaA],hy,by simp⟩
  |false=>
   have h1:=zqC p l
   by_cases hm:zio p l= -1
   ·rw [hy,hm]at h;simp at h
   ·have h0:zio p l≥0:=by omega
    obtain⟨x,e1,e2,e3⟩:=ih h0
    obtain⟨_,e4,e5⟩:=zw2 e1
    refine⟨x, ?_,e2,by simp [e3]⟩
    simp only [Bool.false_eq_true,if_false,hm]
    unfold zaA
    rw [if_pos (by omega),show(zio p l+1).toNat=(zio p l).toNat+1 by omega]
    simpa using e5
theorem ztG {α:Type} {xs:List α} {body:Int→Option (Int ⊕ Option Int)} (p:α→Bool) (hs: ∀(i:Nat) (hi:i<xs.length),body i=some (if p xs[i]=true then .inr (some (i:Int))else .inl ((i+1:Nat):Int))) (he:body xs.length=some (.inr (some (-1)))):zal body 0=some (zio p xs):=by
 have key: ∀(n q:Nat),q+n=xs.length→zal body q=some (if zio p (xs.drop q)= -1 then-1 else q+zio p (xs.drop q)):=by
  intro n
  induction n with
  |zero=>
   intro q hq
   have:q=xs.length:=by omega
   subst this
   rw [zaP,he]
   simp [znW]
  |succ n ih=>
   intro q hq
   have hlt:q<xs.length:=by omega
   rw [zaP,hs q hlt,List.drop_eq_getElem_cons hlt,zl0]
   cases p xs[q]with
   |true=>simp
   |false=>
    simp only [Bool.false_eq_true,if_false]
    rw [ih (q+1) (by omega)]
    have h1:=zqC p (xs.drop (q+1))
    congr 1
    by_cases hm:zio p (xs.drop (q+1))= -1
    ·simp [hm]
    ·have h2: ¬(zio p (xs.drop (q+1))+1= -1):=by omega
     simp only [hm,if_false,h2]
     omega
 have h:=key xs.length 0 (by omega)
 rw [List.drop_zero]at h
 rw [show((0:Nat):Int)=0 from rfl]at h
 rw [h]
 have h1:=zqC p xs
 by_cases hm:zio p xs= -1
 ·simp [hm]
 ·simp [hm]
theorem zvZ {α:Type} {xs:List α} {p:α→Option Bool} (q:α→Bool) (hp: ∀x∈xs,p x=some (q x)) (hn:xs.length≤9223372036854775806):zbq xs p=some (zio q xs):=by
 have key: ∀(l:List α) (i:Int),(∀x∈l,p x=some (q x))→zr1 p l i=some (if zio q l= -1 then-1 else i+zio q l):=by
  intro l
  induction l with
  |nil=>intro i _;simp [zr1,znW]
  |cons x l ih=>
   intro i h
   simp only [zr1,h x (by simp),Option.bind_some,zl0]
   cases q x with
   |true=>simp
   |false=>
    simp only [Bool.false_eq_true,if_false]
    rw [ih (i+1) fun y hy=>h y (by simp [hy])]
    have h1:=zqC q l
    congr 1
    by_cases hm:zio q l= -1
    ·simp [hm]
    ·have h2: ¬(zio q l+1= -1):=by omega
     simp only [hm,if_false,h2]
     omega
 unfold zbq
 rw [zae hn,key xs 0 hp]
 by_cases hm:zio q xs= -1
 ·simp [hm]
 ·simp [hm]
theorem zIf {α:Type} {b:Bool} {A B:Option α} {y:Option α} (ha:b=true→A=y) (hb:b=false→B=y):(if b=true then A else B)=y:=by
 cases b with
 |true=>simpa using ha rfl
 |false=>simpa using hb rfl
theorem zIe {α:Type} {b:Bool} {A B y:Option α} (h:b=false) (hb:B=y):(if b=true then A else B)=y:=by rw [if_neg (by simp [h])];exact hb
theorem zIa {α:Type} {b:Bool} {A B y:Option α} (h:b=true) (ha:A=y):(if b=true then A else B)=y:=by rw [if_pos h];exact ha
theorem zDe {α β:Type} {o:Option α} {x:α} {f:α→Option β} (h:o=some x):o.bind f=f x:=by rw [h];rfl
end Go.Proofs.YtfkblfjloegahaaGreatDoor
end
section
namespace Go.Proofs.YtfkblfjloegahaaGreatDoor
open Go.RowKit
set_option maxRecDepth 100000
theorem zon {α β:Type} (f:α→β) (l:List α) (o:List β):l.foldl (fun o x=>o++ [f x]) o=o++l.map f:=by
 induction l generalizing o with
 |nil=>simp
 |cons x l ih=>rw [List.foldl_cons,ih];simp
theorem zn7 {α:Type} {xs:List α} {d:α} {body:Int × List α→Option ((Int × List α) ⊕ Option (List α))}
  (hs: ∀(i:Nat) (hi:i<xs.length) (v:List α),v.length=xs.length→body ((i:Int),v)=some (.inl (((i+1:Nat):Int),v.set i xs[i])))
  (he: ∀v,body ((xs.length:Int),v)=some (.inr (some v))):zal body (0,List.replicate xs.length d)=some xs:=by
 have h1:=zbY (xs:=xs) (body:=body) (fun i (o:List α)=>(i,o++List.replicate (xs.length-i.toNat) d)) (fun(o:List α) x=>o++ [x]) (fun o=>some o) (fun i o=>o.length=i)
  (fun i hi o ho=>by
   refine⟨?_,by simp [ho]⟩
   rw [show((i:Int)).toNat=i from rfl,hs i hi _ (by simp [ho];omega)]
   congr 3
   obtain⟨k,hk⟩: ∃k,xs.length-i=k+1:=⟨xs.length-i-1,by omega⟩
   have h2:xs.length-(((i+1:Nat):Int)).toNat=k:=by rw [show(((i+1:Nat):Int)).toNat=i+1 from rfl];omega
   rw [h2,hk,List.replicate_succ]
   subst ho
   simp [List.set_append])
  (fun o ho=>by
   show body ((xs.length:Int),o++List.replicate (xs.length-((xs.length:Int)).toNat) d)=_
   rw [show((xs.length:Int)).toNat=xs.length from rfl,Nat.sub_self,List.replicate_zero,List.append_nil]
   exact he o) (s:=([]:List α)) rfl
 have h3:=h1.1
 rw [show(fun(o:List α) x=>o++ [x])=(fun o x=>o++ [id x])from rfl,zon,List.map_id,List.nil_append]at h3
 exact h3
theorem zmY {n:Nat} {body:Int→Option (Int ⊕ Option Bool)} (hs: ∀i:Nat,i<n→body i=some (.inl ((i+1:Nat):Int))) (he:body n=some (.inr (some true))):zal body 0=some true:=by
 have h:=zic (n:=n) (body:=body) (fun _=>true) false (some true) (fun i hi=>by rw [hs i hi,if_pos rfl]) he
 rw [h,if_pos (by simp)]
theorem zGq {α:Type} {xs:List α} {body:Int × Int→Option ((Int × Int) ⊕ Option Int)} (P:α→Prop) {a:Int} (h0:0≤a) (h1:a≤1048576)
  (hs: ∀(i:Nat) (hi:i<xs.length) (b:Int),0≤b→b≤1048576→ ∃r,r≤b∧(0≤r→P xs[i])∧body (b,(i:Int))=some (if r<0 then .inr (some (-1))else .inl (r,((i+1:Nat):Int))))
  (he: ∀b,body (b,(xs.length:Int))=some (.inr (some b))): ∃v,zal body (a,0)=some v∧v≤a∧(0≤v→ ∀x∈xs,P x):=by
 have key: ∀(n q:Nat) (b:Int),q+n=xs.length→0≤b→b≤1048576→ ∃v,zal body (b,(q:Int))=some v∧v≤b∧(0≤v→ ∀x∈xs.drop q,P x):=by
  intro n
  induction n with
  |zero=>
   intro q b hq _ _
   have:q=xs.length:=by omega
   subst this
   exact⟨b,by rw [zaP,he b],by omega,by simp⟩
  |succ n ih=>
   intro q b hq hb0 hb1
   have hlt:q<xs.length:=by omega
   obtain⟨r,e1,e2,e3⟩:=hs q hlt b hb0 hb1
   by_cases hr:r<0
   ·exact⟨-1,by rw [zaP,e3,if_pos hr],by omega,by omega⟩
   ·obtain⟨v,f1,f2,f3⟩:=ih (q+1) r (by omega) (by omega) (by omega)
    refine⟨v,by rw [zaP,e3,if_neg hr];exact f1,by omega,fun hv x hx=> ?_⟩
    rw [List.drop_eq_getElem_cons hlt]at hx
    rcases List.mem_cons.1 hx with hx|hx
    ·subst hx;exact e2 (by omega)
    ·exact f3 hv x hx
 have:=key xs.length 0 a (by omega) h0 h1
 simpa using this
theorem zcL {a:Int} {n:Nat} (h0:0≤a) (h1:a≤1048576) (hn:n≤9223372036854775807):IntKind.i64.wrap (a-(n:Int))=a-n:=zaD (by omega) (by omega)
end Go.Proofs.YtfkblfjloegahaaGreatDoor
end
section
namespace Go.Proofs.YtfkblfjloegahaaGreatDoor
open Go.RowKit
set_option maxRecDepth 100000
theorem zc4 {σ α:Type} {body:σ→Option (σ ⊕ Option α)} {s:σ} {o:Option α} (h:body s=some (.inr o)):zal body s=o:=by rw [zaP,h]
theorem zdK {σ α:Type} {body:σ→Option (σ ⊕ Option α)} {s s':σ} (h:body s=some (.inl s')):zal body s=zal body s':=by rw [zaP,h]
theorem szL {α:Type} {xs:List α} {body:Int × Int→Option ((Int × Int) ⊕ Option Int)} (tot:α→Nat) {a:Int} (h0:0≤a) (h1:a≤1048576)
  (hs: ∀x∈xs,∀b:Int,0≤b→b≤1048576→ ∃v,v≤b∧(0≤v→(tot x:Int)=b-v)∧ ∀i:Nat,xs[i]?=some x→body (b,(i:Int))=some (if v<0 then .inr (some (-1))else .inl (v,((i+1:Nat):Int))))
  (he: ∀b,body (b,(xs.length:Int))=some (.inr (some b))): ∃v,zal body (a,0)=some v∧v≤a∧(0≤v→((xs.map tot).sum:Int)=a-v):=by
 have key: ∀(n q:Nat) (a:Int),q+n=xs.length→0≤a→a≤1048576→ ∃v,zal body (a,(q:Int))=some v∧v≤a∧(0≤v→(((xs.drop q).map tot).sum:Int)=a-v):=by
  intro n
  induction n with
  |zero=>
   intro q a hq h0 h1
   refine⟨a, ?_,by omega,fun _=> ?_⟩
   ·rw [zaP,show(q:Int)=(xs.length:Int) by omega,he]
   ·rw [List.drop_eq_nil_of_le (by omega)];simp
  |succ n ih=>
   intro q a hq h0 h1
   have hlt:q<xs.length:=by omega
   obtain⟨v,e1,e2,e3⟩:=hs xs[q] (List.getElem_mem hlt) a h0 h1
   rw [zaP,e3 q (List.getElem?_eq_getElem hlt)]
   by_cases hv:v<0
   ·rw [if_pos hv]
    exact⟨-1,rfl,by omega,by omega⟩
   ·rw [if_neg hv]
    obtain⟨u,f1,f2,f3⟩:=ih (q+1) v (by omega) (by omega) (by omega)
    refine⟨u,f1,by omega,fun hu=> ?_⟩
    have g1:=f3 hu
    have g2:=e2 (by omega)
    rw [List.drop_eq_getElem_cons hlt,List.map_cons,List.sum_cons]
    omega
 have:=key xs.length 0 a (by omega) h0 h1
 simpa using this
theorem ze7 {α:Type} {tot:α→Nat}: ∀{xs:List α} {x:α},x∈xs→tot x≤(xs.map tot).sum
 |y::xs,x,h=>by
  rw [List.map_cons,List.sum_cons]
  rcases List.mem_cons.1 h with rfl|h
  ·omega
  ·have:=ze7 (tot:=tot) h;omega
theorem zoL {α:Type} {cnt:α→Nat} {mb:Int × Int × List α→Option ((Int × Int × List α) ⊕ Option (Int × List α))} {hb:List α→Int × Int→Option ((Int × Int) ⊕ Option Int)} (B:Int) {xs:List α} {k:Int} (h0:0≤k) (hB:k+((xs.map cnt).sum:Nat)≤B)
  (hs: ∀x∈xs,∀k:Int,0≤k→k+cnt x≤B→ ∃y,(∀(i:Nat) (v:List α),v[i]?=some x→i<xs.length→mb (k,(i:Int),v)=some (.inl (k+cnt x,((i+1:Nat):Int),v.set i y)))∧ ∀(i:Nat) (ys:List α),ys[i]?=some y→i<xs.length→hb ys (k,(i:Int))=some (.inl (k+cnt x,((i+1:Nat):Int))))
  (he: ∀k v,v.length=xs.length→mb (k,(xs.length:Int),v)=some (.inr (some (k,v)))) (hh: ∀k ys,ys.length=xs.length→hb ys (k,(xs.length:Int))=some (.inr (some k))):
  ∃ys,ys.length=xs.length∧zal mb (k,0,xs)=some (k+((xs.map cnt).sum:Nat),ys)∧zal (hb ys) (k,0)=some (k+((xs.map cnt).sum:Nat)):=by
 have key: ∀(suf pre:List α) (k:Int),pre.length+suf.length=xs.length→(∀x∈suf,x∈xs)→0≤k→k+((suf.map cnt).sum:Nat)≤B→
   ∃suf':List α,suf'.length=suf.length∧zal mb (k,(pre.length:Int),pre++suf)=some (k+((suf.map cnt).sum:Nat),pre++suf')∧zal (hb (pre++suf')) (k,(pre.length:Int))=some (k+((suf.map cnt).sum:Nat)):=by
  intro suf
  induction suf with
  |nil=>
   intro pre k hl _ _ _
   have hl':(pre.length:Int)=(xs.length:Int):=by simp at hl;omega
   have hl2:pre.length=xs.length:=by omega
   refine⟨[],rfl, ?_, ?_⟩
   ·rw [zaP,hl',he _ _ (by simpa using hl2)];simp
   ·rw [zaP,hl',hh _ _ (by simpa using hl2)];simp
  |cons x t ih=>
   intro pre k hl hm h0 hb'
   rw [List.map_cons,List.sum_cons]at hb' ⊢
   obtain⟨y,e1,e2⟩:=hs x (hm x (by simp)) k h0 (by omega)
   rw [List.length_cons]at hl
   obtain⟨t',f1,f2,f3⟩:=ih (pre++ [y]) (k+cnt x) (by simp;omega) (fun z hz=>hm z (by simp [hz])) (by omega) (by omega)
   have ea:pre++y::t'=pre++ [y]++t':=by simp
   have eb:(pre++x::t).set pre.length y=pre++ [y]++t:=by simp
   have ec:(((pre++ [y]).length:Nat):Int)=((pre.length+1:Nat):Int):=by simp
   refine⟨y::t',by simp [f1], ?_, ?_⟩
   ·rw [zaP,e1 pre.length _ (by simp) (by omega),eb]
    show zal mb (k+cnt x,((pre.length+1:Nat):Int),pre++ [y]++t)=_
    rw [←ec,f2,ea]
    congr 2
    omega
   ·rw [zaP,e2 pre.length _ (by simp) (by omega),ea]
    show zal (hb (pre++ [y]++t')) (k+cnt x,((pre.length+1:Nat):Int))=_
    rw [←ec,f3]
    congr 1
    omega
 have:=key xs [] k (by simp) (fun _ h=>h) h0 hB
 simpa using this
theorem zz3 {α:Type} {cnt:α→Nat} {mb:Int × Int × List α→Option ((Int × Int × List α) ⊕ Option (Int × List α))} (B:Int) {xs:List α} {k:Int} (h0:0≤k) (hB:k+((xs.map cnt).sum:Nat)≤B)
  (hs: ∀x∈xs,∀k:Int,0≤k→k+cnt x≤B→ ∃y,∀(i:Nat) (v:List α),v[i]?=some x→i<xs.length→mb (k,(i:Int),v)=some (.inl (k+cnt x,((i+1:Nat):Int),v.set i y)))
  (he: ∀k v,v.length=xs.length→mb (k,(xs.length:Int),v)=some (.inr (some (k,v)))):
  ∃ys,ys.length=xs.length∧zal mb (k,0,xs)=some (k+((xs.map cnt).sum:Nat),ys):=by
 have key: ∀(suf pre:List α) (k:Int),pre.length+suf.length=xs.length→(∀x∈suf,x∈xs)→0≤k→k+((suf.map cnt).sum:Nat)≤B→
   ∃suf':List α,suf'.length=suf.length∧zal mb (k,(pre.length:Int),pre++suf)=some (k+((suf.map cnt).sum:Nat),pre++suf'):=by
  intro suf
  induction suf with
  |nil=>
   intro pre k hl _ _ _
   have hl':(pre.length:Int)=(xs.length:Int):=by simp at hl;omega
   have hl2:pre.length=xs.length:=by omega
   refine⟨[],rfl, ?_⟩
   rw [zaP,hl',he _ _ (by simpa using hl2)];simp
  |cons x t ih=>
   intro pre k hl hm h0 hb'
   rw [List.map_cons,List.sum_cons]at hb' ⊢
   obtain⟨y,e1⟩:=hs x (hm x (by simp)) k h0 (by omega)
   rw [List.length_cons]at hl
   obtain⟨t',f1,f2⟩:=ih (pre++ [y]) (k+cnt x) (by simp;omega) (fun z hz=>hm z (by simp [hz])) (by omega) (by omega)
   have ea:pre++y::t'=pre++ [y]++t':=by simp
   have eb:(pre++x::t).set pre.length y=pre++ [y]++t:=by simp
   have ec:(((pre++ [y]).length:Nat):Int)=((pre.length+1:Nat):Int):=by simp
   refine⟨y::t',by simp [f1], ?_⟩
   rw [zaP,e1 pre.length _ (by simp) (by omega),eb]
   show zal mb (k+cnt x,((pre.length+1:Nat):Int),pre++ [y]++t)=_
   rw [←ec,f2,ea]
   congr 2
   omega
 have:=key xs [] k (by simp) (fun _ h=>h) h0 hB
 simpa using this
theorem zls {α:Type} (xs:List α) (n:Nat):(xs.map fun _=>n).sum=n*xs.length:=by
 induction xs with
 |nil=>simp
 |cons x xs ih=>rw [List.map_cons,List.sum_cons,ih,List.length_cons,Nat.mul_add];omega
end Go.Proofs.YtfkblfjloegahaaGreatDoor
end
