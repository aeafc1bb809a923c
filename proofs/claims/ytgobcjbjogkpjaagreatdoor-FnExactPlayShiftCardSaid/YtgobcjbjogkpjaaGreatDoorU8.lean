/- Parts of a proof, joined: QM, NA, NE, NX. -/
import Derived.Test.YtgobcjbjogkpjaaGreatDoorU7
section
namespace Go.Proofs.YtgobcjbjogkpjaaGreatDoor
open Go.RowKit
set_option maxRecDepth 100000
noncomputable def zdb (a0:List (List UInt8)) (a1:List UInt8) (v1:List UInt8) (v2:Int):Option ((List UInt8 × Int) ⊕ Option (List UInt8)):=
 if(decide (v2<(a0.length:Int)))then
  (zay a0 v2).bind fun y3=>
  if(decide (v2>0))then
   req ((v1).length+(a1).length≤9223372036854775807)<|
   req (((v1++a1)).length+(y3).length≤9223372036854775807)<|
   some (.inl (((v1++a1)++y3),(IntKind.i64.wrap (v2+1))))
  else
   req ((v1).length+(y3).length≤9223372036854775807)<|
   some (.inl ((v1++y3),(IntKind.i64.wrap (v2+1))))
 else
  some (.inr (some v1))
noncomputable def zjP (a0:List (List UInt8)) (a1:List UInt8):Option (List UInt8):=
 zal (fun s:List UInt8 × Int=>zdb a0 a1 s.1 s.2) (([]:List UInt8),0)
noncomputable def zdf (a0:zab) (a1:zdG):Option (zaa):=
 req ((a0.fName).length+(([47]:List UInt8)).length≤9223372036854775807)<|
 (zay a1.fVals 0).bind fun y1=>
 req (((a0.fName++([47]:List UInt8))).length+(y1).length≤9223372036854775807)<|
 req (0≤(1:Int)∧(1:Int)≤(a1.fVals.length:Int)∧(a1.fVals.length:Int)≤(a1.fVals.length:Int))<|
 (zjP (zfZ a1.fVals 1 (a1.fVals.length:Int)) ([44]:List UInt8)).bind fun v2=>
 some (⟨((a0.fName++([47]:List UInt8))++y1),v2,false⟩:zaa)
noncomputable def zfK (a0:List zaa) (a1:zaa) (v1:Int):Option (List zaa):=
 if(decide (v1>0))then
  (zay a0 (IntKind.i64.wrap (v1-1))).bind fun y2=>
  if(y2.fKey==a1.fKey)then
   req (((([]:List zaa).length:Int)+((a0).length:Int))*40≤140737488355328∧(([]:List zaa).length:Int)+((a0).length:Int)≤140737488355328)<|
   (zay a0 (IntKind.i64.wrap (v1-1))).bind fun y3=>
   some (a0.set ((IntKind.i64.wrap (v1-1))).toNat a1)
  else
   req (0≤v1∧v1≤(a0.length:Int)∧(a0.length:Int)≤(a0.length:Int))<|
   req (((([]:List zaa).length:Int)+(((zfZ a0 v1 (a0.length:Int))).length:Int))*40≤140737488355328∧(([]:List zaa).length:Int)+(((zfZ a0 v1 (a0.length:Int))).length:Int)≤140737488355328)<|
   req (0≤(0:Int)∧(0:Int)≤v1∧v1≤(a0.length:Int))<|
   req (((([]:List zaa).length:Int)+(((zfZ a0 0 v1)).length:Int))*40≤140737488355328∧(([]:List zaa).length:Int)+(((zfZ a0 0 v1)).length:Int)≤140737488355328)<|
   req (((((zfZ a0 0 v1)).length:Int)+(([a1]:List zaa).length:Int))*40≤140737488355328∧(((zfZ a0 0 v1)).length:Int)+(([a1]:List zaa).length:Int)≤140737488355328)<|
   req ((((((zfZ a0 0 v1)++ [a1])).length:Int)+(((zfZ a0 v1 (a0.length:Int))).length:Int))*40≤140737488355328∧((((zfZ a0 0 v1)++ [a1])).length:Int)+(((zfZ a0 v1 (a0.length:Int))).length:Int)≤140737488355328)<|
   some (((zfZ a0 0 v1)++ [a1])++(zfZ a0 v1 (a0.length:Int)))
 else
  req (0≤v1∧v1≤(a0.length:Int)∧(a0.length:Int)≤(a0.length:Int))<|
  req (((([]:List zaa).length:Int)+(((zfZ a0 v1 (a0.length:Int))).length:Int))*40≤140737488355328∧(([]:List zaa).length:Int)+(((zfZ a0 v1 (a0.length:Int))).length:Int)≤140737488355328)<|
  req (0≤(0:Int)∧(0:Int)≤v1∧v1≤(a0.length:Int))<|
  req (((([]:List zaa).length:Int)+(((zfZ a0 0 v1)).length:Int))*40≤140737488355328∧(([]:List zaa).length:Int)+(((zfZ a0 0 v1)).length:Int)≤140737488355328)<|
  req (((((zfZ a0 0 v1)).length:Int)+(([a1]:List zaa).length:Int))*40≤140737488355328∧(((zfZ a0 0 v1)).length:Int)+(([a1]:List zaa).length:Int)≤140737488355328)<|
  req ((((((zfZ a0 0 v1)++ [a1])).length:Int)+(((zfZ a0 v1 (a0.length:Int))).length:Int))*40≤140737488355328∧((((zfZ a0 0 v1)++ [a1])).length:Int)+(((zfZ a0 v1 (a0.length:Int))).length:Int)≤140737488355328)<|
  some (((zfZ a0 0 v1)++ [a1])++(zfZ a0 v1 (a0.length:Int)))
noncomputable def zcT (a0:List zaa) (a1:zaa) (v4:Int):Option ((Int) ⊕ Option (List zaa)):=
 if(decide (v4>0))then
  (zay a0 (IntKind.i64.wrap (v4-1))).bind fun y5=>
  if(!(Op.bytesLess y5.fKey a1.fKey||y5.fKey==a1.fKey))then
   some (.inl (IntKind.i64.wrap (v4-1)))
  else
   some (.inr (zfK a0 a1 v4))
 else
  some (.inr (zfK a0 a1 v4))
noncomputable def zdH (a0:List zaa) (a1:zaa):Option (List zaa):=
 zal (fun s:Int=>zcT a0 a1 s) (a0.length:Int)
noncomputable def zg5 (a0:List UInt8) (v1:Int) (v2:List (List UInt8)):Option (List (List UInt8)):=
 req (0≤v1∧v1≤(a0.length:Int)∧(a0.length:Int)≤(a0.length:Int))<|
 req ((((v2).length:Int)+(([(zfZ a0 v1 (a0.length:Int))]:List (List UInt8)).length:Int))*16≤140737488355328∧((v2).length:Int)+(([(zfZ a0 v1 (a0.length:Int))]:List (List UInt8)).length:Int)≤140737488355328)<|
 some (v2++ [(zfZ a0 v1 (a0.length:Int))])
noncomputable def zc9 (a0:List UInt8) (a1:Int) (v3:List (List UInt8)) (v4:Int) (v5:Int):Option ((List (List UInt8) × Int × Int) ⊕ Option (List (List UInt8))):=
 if(decide (v5<(a0.length:Int)))then
  (zay a0 v5).bind fun y6=>
  if((y6.toNat:Int)==a1)then
   req (0≤v4∧v4≤v5∧v5≤(a0.length:Int))<|
   req ((((v3).length:Int)+(([(zfZ a0 v4 v5)]:List (List UInt8)).length:Int))*16≤140737488355328∧((v3).length:Int)+(([(zfZ a0 v4 v5)]:List (List UInt8)).length:Int)≤140737488355328)<|
   some (.inl ((v3++ [(zfZ a0 v4 v5)]),(IntKind.i64.wrap (v5+1)),(IntKind.i64.wrap (v5+1))))
  else
   some (.inl (v3,v4,(IntKind.i64.wrap (v5+1))))
 else
  some (.inr (zg5 a0 v4 v3))
noncomputable def zdT (a0:List UInt8) (a1:Int):Option (List (List UInt8)):=
 zal (fun s:List (List UInt8) × Int × Int=>zc9 a0 a1 s.1 s.2.1 s.2.2) ([],0,0)
noncomputable def zbq (a0:Int) (a1:Int) (a2:Int):Option (Bool):=
 some ((decide (a0≥a1))&&(decide (a0≤a2)))
noncomputable def zho (v1:Int) (v3:Bool):Option ((Int) ⊕ Option (Bool)):=
 if(!v3)then
  some (.inr (some false))
 else
  some (.inl (IntKind.i64.wrap (v1+1)))
noncomputable def zd6 (a1:List UInt8) (v1:Int) (y2:UInt8) (v4:Bool) (v5:Int):Option ((Bool × Int) ⊕ Option ((Int) ⊕ Option (Bool))):=
 if(decide (v5<(a1.length:Int)))then
  if v4 then
   some (.inl (true,(IntKind.i64.wrap (v5+1))))
  else
   (zay a1 v5).bind fun y6=>
   some (.inl (((y2.toNat:Int)==(y6.toNat:Int)),(IntKind.i64.wrap (v5+1))))
 else
  some (.inr (zho v1 v4))
noncomputable def zg4 (a0:List UInt8) (a1:List UInt8) (v1:Int):Option ((Int) ⊕ Option (Bool)):=
 if(decide (v1<(a0.length:Int)))then
  (zay a0 v1).bind fun y2=>
  zal (fun s:Bool × Int=>zd6 a1 v1 y2 s.1 s.2) ((((decide ((y2.toNat:Int)≥97))&&(decide ((y2.toNat:Int)≤122)))||((decide ((y2.toNat:Int)≥48))&&(decide ((y2.toNat:Int)≤57)))),0)
 else
  some (.inr (some true))
noncomputable def zeP (a0:List UInt8) (a1:List UInt8):Option (Bool):=
 zal (fun s:Int=>zg4 a0 a1 s) 0
noncomputable def zd9 (a0:List UInt8):Option (Bool):=
 (zbq (a0.length:Int) 1 3).bind fun v1=>
 if v1 then
  (zeP a0 ([]:List UInt8)).bind fun v2=>
  some v2
 else
  some false
noncomputable def zg7 (a0:zab) (a1:zdG):Option (Bool):=
 some ((a1.fVals.length:Int)==(a0.fCols.length:Int))
noncomputable def zg6 (a0:zab) (a1:zdG) (v1:Int):Option ((Int) ⊕ Option (Bool)):=
 if(decide (v1<(a1.fVals.length:Int)))then
  (zay a1.fVals v1).bind fun y2=>
  (zd9 y2).bind fun v3=>
  if(!v3)then
   some (.inr (some false))
  else
   some (.inl (IntKind.i64.wrap (v1+1)))
 else
  some (.inr (zg7 a0 a1))
noncomputable def zc3 (a0:zab) (a1:zdG):Option (Bool):=
 zal (fun s:Int=>zg6 a0 a1 s) 0
noncomputable def zhr (a0:zab) (a1:zaa):Option (zdG × Bool):=
 if(decide ((a1.fKey.length:Int)<3))then
  some ((⟨[]⟩:zdG),false)
 else
  req (0≤(2:Int)∧(2:Int)≤(a1.fKey.length:Int)∧(a1.fKey.length:Int)≤(a1.fKey.length:Int))<|
  (zdT a1.fVal 44).bind fun v1=>
  req (((([(zfZ a1.fKey 2 (a1.fKey.length:Int))]:List (List UInt8)).length:Int)+((v1).length:Int))*16≤140737488355328∧(([(zfZ a1.fKey 2 (a1.fKey.length:Int))]:List (List UInt8)).length:Int)+((v1).length:Int)≤140737488355328)<|
  (zc3 a0 (⟨([(zfZ a1.fKey 2 (a1.fKey.length:Int))]++v1)⟩:zdG)).bind fun v2=>
  if v2 then
   (zdf a0 (⟨([(zfZ a1.fKey 2 (a1.fKey.length:Int))]++v1)⟩:zdG)).bind fun v3=>
   some ((⟨([(zfZ a1.fKey 2 (a1.fKey.length:Int))]++v1)⟩:zdG),(v3.fKey==a1.fKey&&(v3.fVal==a1.fVal&&(v3.fGone==a1.fGone))))
  else
   some ((⟨([(zfZ a1.fKey 2 (a1.fKey.length:Int))]++v1)⟩:zdG),false)
noncomputable def zc8 (a0:zab) (a1:List zaa) (v1:List zdG) (v2:Int):Option ((List zdG × Int) ⊕ Option (List zdG)):=
 if(decide (v2<(a1.length:Int)))then
  (zay a1 v2).bind fun y3=>
  (zhr a0 y3).bind fun v4=>
  if v4.2 then
   req ((((v1).length:Int)+(([v4.1]:List zdG).length:Int))*24≤140737488355328∧((v1).length:Int)+(([v4.1]:List zdG).length:Int)≤140737488355328)<|
   some (.inl ((v1++ [v4.1]),(IntKind.i64.wrap (v2+1))))
  else
   some (.inl (v1,(IntKind.i64.wrap (v2+1))))
 else
  some (.inr (some v1))
noncomputable def zjx (a0:zab) (a1:List zaa):Option (List zdG):=
 zal (fun s:List zdG × Int=>zc8 a0 a1 s.1 s.2) ([],0)
noncomputable def zed (a0:zab) (a1:zbB) (a2:zdG):Option (List UInt8):=
 req ((a0.fName).length+(([46]:List UInt8)).length≤9223372036854775807)<|
 req (((a0.fName++([46]:List UInt8))).length+(a1.fName).length≤9223372036854775807)<|
 req ((((a0.fName++([46]:List UInt8))++a1.fName)).length+(([47]:List UInt8)).length≤9223372036854775807)<|
 (zay a2.fVals a1.fCol).bind fun y1=>
 req (((((a0.fName++([46]:List UInt8))++a1.fName)++([47]:List UInt8))).length+(y1).length≤9223372036854775807)<|
 req ((((((a0.fName++([46]:List UInt8))++a1.fName)++([47]:List UInt8))++y1)).length+(([47]:List UInt8)).length≤9223372036854775807)<|
 (zay a2.fVals 0).bind fun y2=>
 req (((((((a0.fName++([46]:List UInt8))++a1.fName)++([47]:List UInt8))++y1)++([47]:List UInt8))).length+(y2).length≤9223372036854775807)<|
 some ((((((a0.fName++([46]:List UInt8))++a1.fName)++([47]:List UInt8))++y1)++([47]:List UInt8))++y2)
noncomputable def zfu (a0:List UInt8) (a1:Int):Option (Bool):=
 some ((decide ((a0.length:Int)≥1))&&(decide ((a0.length:Int)≤a1)))
noncomputable def zfs (a0:List UInt8) (a1:Int) (v1:Int):Option ((Int) ⊕ Option (Bool)):=
 if(decide (v1<(a0.length:Int)))then
  (zay a0 v1).bind fun y2=>
  if((decide ((y2.toNat:Int)<97))||(decide ((y2.toNat:Int)>122)))then
   some (.inr (some false))
  else
   some (.inl (IntKind.i64.wrap (v1+1)))
 else
  some (.inr (zfu a0 a1))
noncomputable def zc7 (a0:List UInt8) (a1:Int):Option (Bool):=
 zal (fun s:Int=>zfs a0 a1 s) 0
noncomputable def zi1 (a0:List (List UInt8)) (a1:List UInt8) (v1:Int):Option ((Int) ⊕ Option (Int)):=
 if(decide (v1<(a0.length:Int)))then
  (zay a0 v1).bind fun y2=>
  if(y2==a1)then
   some (.inr (some v1))
  else
   some (.inl (IntKind.i64.wrap (v1+1)))
 else
  some (.inr (some (-1)))
noncomputable def zhO (a0:List (List UInt8)) (a1:List UInt8):Option (Int):=
 zal (fun s:Int=>zi1 a0 a1 s) 0
noncomputable def zhc (a0:List (List UInt8)):Option (Bool):=
 (zbq (a0.length:Int) 2 4).bind fun v1=>
 some v1
noncomputable def zhf (a0:List (List UInt8)) (v2:Int):Option ((Int) ⊕ Option (Bool)):=
 if(decide (v2<(a0.length:Int)))then
  (zay a0 v2).bind fun y3=>
  (zc7 y3 3).bind fun v4=>
  if v4 then
   req (0≤(0:Int)∧(0:Int)≤v2∧v2≤(a0.length:Int))<|
   (zhO (zfZ a0 0 v2) y3).bind fun v5=>
   if(decide (v5≥0))then
    some (.inr (some false))
   else
    some (.inl (IntKind.i64.wrap (v2+1)))
  else
   some (.inr (some false))
 else
  some (.inr (zhc a0))
noncomputable def zhH (a0:List (List UInt8)):Option (Bool):=
 zal (fun s:Int=>zhf a0 s) 0
noncomputable def zem (a0:zab) (v3:Int):Option ((Int) ⊕ Option (Bool)):=
 if(decide (v3<(a0.fIdxs.length:Int)))then
  (zay a0.fIdxs v3).bind fun y4=>
  (zc7 y4.fName 1).bind fun v5=>
  if v5 then
   (zbq y4.fCol 1 (IntKind.i64.wrap ((a0.fCols.length:Int)-1))).bind fun v6=>
   if v6 then
    (zbq y4.fStage 0 3).bind fun v7=>
    if(decide (v3>0))then
     if v7 then
      (zay a0.fIdxs (IntKind.i64.wrap (v3-1))).bind fun y8=>
      if(!Op.bytesLess y8.fName y4.fName)then
       some (.inr (some false))
      else
       some (.inl (IntKind.i64.wrap (v3+1)))
     else
      some (.inr (some false))
    else
     if((!v7)||false)then
      some (.inr (some false))
     else
      some (.inl (IntKind.i64.wrap (v3+1)))
   else
    some (.inr (some false))
  else
   some (.inr (some false))
 else
  some (.inr (some true))
noncomputable def zca (a0:zab):Option (Bool):=
 (zc7 a0.fName 1).bind fun v1=>
 if v1 then
  (zhH a0.fCols).bind fun v2=>
  if((!v2)||(decide ((a0.fIdxs.length:Int)>3)))then
   some false
  else
   zal (fun s:Int=>zem a0 s) 0
 else
  some false
noncomputable def zh8 (a0:zab) (a1:List UInt8) (v1:Int):Option ((Int) ⊕ Option (Int)):=
 if(decide (v1<(a0.fIdxs.length:Int)))then
  (zay a0.fIdxs v1).bind fun y2=>
  if(y2.fName==a1)then
   some (.inr (some v1))
  else
   some (.inl (IntKind.i64.wrap (v1+1)))
 else
  some (.inr (some (-1)))
noncomputable def zbj (a0:zab) (a1:List UInt8):Option (Int):=
 zal (fun s:Int=>zh8 a0 a1 s) 0
noncomputable def zfn (a0:zab):Option (zab):=
 req (((([]:List (List UInt8)).length:Int)+((a0.fCols).length:Int))*16≤140737488355328∧(([]:List (List UInt8)).length:Int)+((a0.fCols).length:Int)≤140737488355328)<|
 req (((([]:List zbB).length:Int)+((a0.fIdxs).length:Int))*32≤140737488355328∧(([]:List zbB).length:Int)+((a0.fIdxs).length:Int)≤140737488355328)<|
 some a0
noncomputable def zgz (a0:zab) (a1:List UInt8) (a2:Int):Option (zab):=
 (zfn a0).bind fun v1=>
 (zbj a0 a1).bind fun v2=>
 (zay v1.fIdxs v2).bind fun y3=>
 some (⟨v1.fName,v1.fCols,(v1.fIdxs.set (v2).toNat {y3 with fStage:=a2})⟩:zab)
noncomputable def za4 (a0:Int) (a1:Int) (a2:Int):Option (Bool):=
 some ((decide (a0≥a1))&&(decide (a0≤a2)))
noncomputable def zfw (a0:List UInt8) (a1:Int):Option (Bool):=
 (za4 (a0.length:Int) 1 a1).bind fun v1=>
 some v1
noncomputable def zfx (a0:List UInt8) (a1:Int) (v2:Int):Option ((Int) ⊕ Option (Bool)):=
 if(decide (v2<(a0.length:Int)))then
  (zay a0 v2).bind fun y3=>
  if((decide ((y3.toNat:Int)<97))||(decide ((y3.toNat:Int)>122)))then
   some (.inr (some false))
  else
   some (.inl (IntKind.i64.wrap (v2+1)))
 else
  some (.inr (zfw a0 a1))
noncomputable def zc5 (a0:List UInt8) (a1:Int):Option (Bool):=
 zal (fun s:Int=>zfx a0 a1 s) 0
noncomputable def zbU (a0:List (List UInt8)) (a1:List UInt8) (v1:Int):Option ((Int) ⊕ Option (Int)):=
 if(decide (v1<(a0.length:Int)))then
  (zay a0 v1).bind fun y2=>
  if(a1==y2)then
   some (.inr (some v1))
  else
   some (.inl (IntKind.i64.wrap (v1+1)))
 else
  some (.inr (some (-1)))
noncomputable def zbk (a0:List (List UInt8)) (a1:List UInt8):Option (Int):=
 zal (fun s:Int=>zbU a0 a1 s) 0
noncomputable def zaI (a0:List (List UInt8)) (a1:List UInt8):Option (Bool):=
 (zbk a0 a1).bind fun v1=>
 some (decide (v1≥0))
noncomputable def zjG (a0:Int):Option (Bool):=
 (za4 a0 0 3).bind fun v1=>
 some v1
noncomputable def zeo (a0:zab) (v3:Int):Option ((Int) ⊕ Option (Bool)):=
 if(decide (v3<(a0.fIdxs.length:Int)))then
  (zay a0.fIdxs v3).bind fun y4=>
  (zc5 y4.fName 1).bind fun v5=>
  if v5 then
   (za4 y4.fCol 1 (IntKind.i64.wrap ((a0.fCols.length:Int)-1))).bind fun v6=>
   if v6 then
    (zjG y4.fStage).bind fun v7=>
    if(decide (v3>0))then
     if v7 then
      (zay a0.fIdxs (IntKind.i64.wrap (v3-1))).bind fun y8=>
      if(Op.bytesLess y4.fName y8.fName||y4.fName==y8.fName)then
       some (.inr (some false))
      else
       some (.inl (IntKind.i64.wrap (v3+1)))
     else
      some (.inr (some false))
    else
     if((!v7)||false)then
      some (.inr (some false))
     else
      some (.inl (IntKind.i64.wrap (v3+1)))
   else
    some (.inr (some false))
  else
   some (.inr (some false))
 else
  some (.inr (some true))
noncomputable def zfX (a0:zab):Option (Bool):=
 zal (fun s:Int=>zeo a0 s) 0
noncomputable def zev (a0:zab) (v9:Int):Option ((Int) ⊕ Option (Bool)):=
 if(decide (v9<(a0.fCols.length:Int)))then
  (zay a0.fCols v9).bind fun y10=>
  (zc5 y10 3).bind fun v11=>
  if v11 then
   req (0≤(0:Int)∧(0:Int)≤v9∧v9≤(a0.fCols.length:Int))<|
   (zaI (zfZ a0.fCols 0 v9) y10).bind fun v12=>
   if v12 then
    some (.inr (some false))
   else
    some (.inl (IntKind.i64.wrap (v9+1)))
  else
   some (.inr (some false))
 else
  some (.inr (zfX a0))
noncomputable def zfI (a0:zab):Option (Bool):=
 (zc5 a0.fName 1).bind fun v1=>
 if v1 then
  (za4 (a0.fCols.length:Int) 2 4).bind fun v2=>
  if((!v2)||(decide ((a0.fIdxs.length:Int)>3)))then
   some false
  else
   zal (fun s:Int=>zev a0 s) 0
 else
  some false
noncomputable def zfc (a0:Int):Option (Bool):=
 some (((decide (a0≥97))&&(decide (a0≤122)))||((decide (a0≥48))&&(decide (a0≤57))))
noncomputable def zf3 (a0:List UInt8) (a1:Int):Option (Int):=
 (zbd a0 a1).bind fun v1=>
 some v1
noncomputable def zgf (a0:List UInt8) (a1:List UInt8) (v1:Int):Option ((Int) ⊕ Option (Bool)):=
 if(decide (v1<(a0.length:Int)))then
  (zay a0 v1).bind fun y2=>
  (zfc (y2.toNat:Int)).bind fun v3=>
  if v3 then
   some (.inl (IntKind.i64.wrap (v1+1)))
  else
   (zf3 a1 (y2.toNat:Int)).bind fun v4=>
   if(decide (v4<0))then
    some (.inr (some false))
   else
    some (.inl (IntKind.i64.wrap (v1+1)))
 else
  some (.inr (some true))
noncomputable def zd7 (a0:List UInt8) (a1:List UInt8):Option (Bool):=
 zal (fun s:Int=>zgf a0 a1 s) 0
noncomputable def zeN (a0:List UInt8):Option (Bool):=
 (za4 (a0.length:Int) 1 3).bind fun v1=>
 if v1 then
  (zd7 a0 ([]:List UInt8)).bind fun v2=>
  some v2
 else
  some false
noncomputable def zdq (a0:List UInt8):Option (Bool):=
 (zeN a0).bind fun v1=>
 some (!v1)
noncomputable def za3 (a0:zab) (a1:zdG):Option (Bool):=
 if((a1.fVals.length:Int)==(a0.fCols.length:Int))then
  (zaQ a1.fVals (fun y0_=>zdq y0_)).bind fun v1=>
  some (!v1)
 else
  some false
noncomputable def zcZ (a0:zab) (a1:zaz):Option (Bool):=
 if(a1.fKind==1)then
  if((a1.fOld.fVals.length:Int)==0)then
   (za3 a0 a1.fNew).bind fun v1=>
   some v1
  else
   some false
 else
  if(a1.fKind==2)then
   (za3 a0 a1.fOld).bind fun v2=>
   some (v2&&((a1.fNew.fVals.length:Int)==0))
  else
   if(a1.fKind==3)then
    (za3 a0 a1.fOld).bind fun v3=>
    if v3 then
     (za3 a0 a1.fNew).bind fun v4=>
     if v4 then
      (zay a1.fOld.fVals 0).bind fun y5=>
      (zay a1.fNew.fVals 0).bind fun y6=>
      some (y5==y6)
     else
      some false
    else
     some false
   else
    some false
noncomputable def zcr (a0:List zaa) (v1:Int) (v2:List (List UInt8)):Option ((Int × List (List UInt8)) ⊕ Option (List (List UInt8))):=
 if(decide (v1<(a0.length:Int)))then
  (zay a0 v1).bind fun y3=>
  req ((((v2).length:Int)+(([y3.fKey]:List (List UInt8)).length:Int))*16≤140737488355328∧((v2).length:Int)+(([y3.fKey]:List (List UInt8)).length:Int)≤140737488355328)<|
  some (.inl ((IntKind.i64.wrap (v1+1)),(v2++ [y3.fKey])))
 else
  some (.inr (some v2))
noncomputable def zfQ (a0:List zaa):Option (List (List UInt8)):=
 zal (fun s:Int × List (List UInt8)=>zcr a0 s.1 s.2) (0, [])
noncomputable def zhw (a0:List UInt8):Option (Bool):=
 (za4 (a0.length:Int) 1 12).bind fun v1=>
 if v1 then
  (zd7 a0 ([46,47]:List UInt8)).bind fun v2=>
  some v2
 else
  some false
noncomputable def zfY (a0:List (List UInt8)) (v1:Int):Option ((Int) ⊕ Option (Bool)):=
 if(decide (v1<(a0.length:Int)))then
  (zay a0 v1).bind fun y2=>
  (zhw y2).bind fun v3=>
  if(decide (v1>0))then
   if v3 then
    (zay a0 (IntKind.i64.wrap (v1-1))).bind fun y4=>
    if(Op.bytesLess y2 y4||y2==y4)then
     some (.inr (some false))
    else
     some (.inl (IntKind.i64.wrap (v1+1)))
   else
    some (.inr (some false))
  else
   if((!v3)||false)then
    some (.inr (some false))
   else
    some (.inl (IntKind.i64.wrap (v1+1)))
 else
  some (.inr (some true))
noncomputable def zfT (a0:List (List UInt8)):Option (Bool):=
 zal (fun s:Int=>zfY a0 s) 0
noncomputable def zhu (a0:List UInt8):Option (Bool):=
 if(decide ((a0.length:Int)≤24))then
  (zd7 a0 ([46,45,44,95]:List UInt8)).bind fun v1=>
  some v1
 else
  some false
noncomputable def zgq (a0:List UInt8) (a1:Bool):Option (Bool):=
 (zhu a0).bind fun v1=>
 some (v1&&(!(a1&&(a0 !=([]:List UInt8)))))
noncomputable def zek (a0:zaa):Option (Bool):=
 (zgq a0.fVal a0.fGone).bind fun v1=>
 some (!v1)
noncomputable def zfg (a0:List zaa):Option (Bool):=
 if(decide ((a0.length:Int)≤24))then
  (zfQ a0).bind fun v1=>
  (zfT v1).bind fun v2=>
  if v2 then
   (zaQ a0 (fun y0_=>zek y0_)).bind fun v3=>
   some (!v3)
  else
   some false
 else
  some false
noncomputable def zgD (a0:zaa):Option (Bool):=
 some a0.fGone
noncomputable def ziP (a0:List zaa):Option (Bool):=
 (zfg a0).bind fun v1=>
 if v1 then
  (zaQ a0 (fun y0_=>zgD y0_)).bind fun v2=>
  some (!v2)
 else
  some false
noncomputable def zbh (a0:zab) (a1:zdG):Option (zaa):=
 req ((a0.fName).length+(([47]:List UInt8)).length≤9223372036854775807)<|
 (zay a1.fVals 0).bind fun y1=>
 req (((a0.fName++([47]:List UInt8))).length+(y1).length≤9223372036854775807)<|
 req (0≤(1:Int)∧(1:Int)≤(a1.fVals.length:Int)∧(a1.fVals.length:Int)≤(a1.fVals.length:Int))<|
 (zhN (zfZ a1.fVals 1 (a1.fVals.length:Int)) ([44]:List UInt8)).bind fun v2=>
 some (⟨((a0.fName++([47]:List UInt8))++y1),v2,false⟩:zaa)
noncomputable def zav (a0:Int) (a1:zaa) (a2:List DOp):Option (Unit × List DOp):=
 req ((((a2).length:Int)+(([(⟨a0,a1.fKey,a1.fVal,0⟩:DOp)]:List DOp).length:Int))*48≤140737488355328∧((a2).length:Int)+(([(⟨a0,a1.fKey,a1.fVal,0⟩:DOp)]:List DOp).length:Int)≤140737488355328)<|
 some ((),(a2++ [(⟨a0,a1.fKey,a1.fVal,0⟩:DOp)]))
noncomputable def zcg (a0:zab) (a1:List UInt8):Option (List UInt8):=
 req ((a0.fName).length+(([46]:List UInt8)).length≤9223372036854775807)<|
 req (((a0.fName++([46]:List UInt8))).length+(a1).length≤9223372036854775807)<|
 req ((((a0.fName++([46]:List UInt8))++a1)).length+(([47]:List UInt8)).length≤9223372036854775807)<|
 some (((a0.fName++([46]:List UInt8))++a1)++([47]:List UInt8))
noncomputable def zeh (a0:zbB) (a1:List UInt8):Option (Bool):=
 some (a0.fName==a1)
noncomputable def zby (a0:zab) (a1:List UInt8):Option (Int):=
 (zbg a0.fIdxs (fun y0_=>zeh y0_ a1)).bind fun v1=>
 some v1
noncomputable def zbr (a0:zab) (a1:List UInt8):Option (zbB):=
 (zby a0 a1).bind fun v1=>
 (zay a0.fIdxs v1).bind fun y2=>
 some y2
noncomputable def zaZ (a0:zab) (a1:List UInt8) (a2:zdG):Option (List UInt8):=
 (zcg a0 a1).bind fun v1=>
 (zbr a0 a1).bind fun v2=>
 (zay a2.fVals v2.fCol).bind fun y3=>
 req ((v1).length+(y3).length≤9223372036854775807)<|
 req (((v1++y3)).length+(([47]:List UInt8)).length≤9223372036854775807)<|
 (zay a2.fVals 0).bind fun y4=>
 req ((((v1++y3)++([47]:List UInt8))).length+(y4).length≤9223372036854775807)<|
 some (((v1++y3)++([47]:List UInt8))++y4)
noncomputable def zjK (a0:Int):Option (Bool):=
 some (decide (a0≥1))
noncomputable def zjy (a0:Int):Option (Bool):=
 some (decide (a0≥2))
noncomputable def zba (v9:Int) (y11:zbB) (v13:List UInt8) (v14:List DOp):Option ((Int × List DOp) ⊕ Option (List DOp)):=
 if(v13 !=([]:List UInt8))then
  (zjy y11.fStage).bind fun v15=>
  if v15 then
   (zav 2 (⟨v13,([]:List UInt8),false⟩:zaa) v14).bind fun v16=>
   some (.inl ((IntKind.i64.wrap (v9+1)),v16.2))
  else
   some (.inl ((IntKind.i64.wrap (v9+1)),v14))
 else
  some (.inl ((IntKind.i64.wrap (v9+1)),v14))
noncomputable def zaW (v9:Int) (v10:List DOp) (y11:zbB) (v12:List UInt8) (v13:List UInt8):Option ((Int × List DOp) ⊕ Option (List DOp)):=
 if(v12 !=([]:List UInt8))then
  if(v12 !=v13)then
   (zjK y11.fStage).bind fun v17=>
   if v17 then
    (zav 3 (⟨v12,([]:List UInt8),false⟩:zaa) v10).bind fun v18=>
    zba v9 y11 v13 v18.2
   else
    zba v9 y11 v13 v10
  else
   zba v9 y11 v13 v10
 else
  zba v9 y11 v13 v10
noncomputable def zee (a0:zab) (a1:zaz) (v9:Int) (v10:List DOp) (y11:zbB) (v12:List UInt8):Option ((Int × List DOp) ⊕ Option (List DOp)):=
 if(a1.fKind !=2)then
  (zaZ a0 y11.fName a1.fNew).bind fun v19=>
  zaW v9 v10 y11 v12 v19
 else
  zaW v9 v10 y11 v12 ([]:List UInt8)
noncomputable def za8 (a0:zab) (a1:zaz) (v9:Int) (v10:List DOp):Option ((Int × List DOp) ⊕ Option (List DOp)):=
 if(decide (v9<(a0.fIdxs.length:Int)))then
  (zay a0.fIdxs v9).bind fun y11=>
  zym (σ:=List UInt8) (
   if(a1.fKind !=1)then
    (zaZ a0 y11.fName a1.fOld).bind fun v20=>
    some (.inl v20)
   else
    some (.inl ([]:List UInt8))
  ) (fun s=>zee a0 a1 v9 v10 y11 s)
 else
  some (.inr (some v10))
noncomputable def za9 (a0:zab) (a1:zaz) (v8:List DOp):Option (List DOp):=
 zal (fun s:Int × List DOp=>za8 a0 a1 s.1 s.2) (0,v8)
noncomputable def zbP (a0:zab) (a1:zaz) (v1:List UInt8) (v4:List DOp) (v5:List UInt8) (v6:List UInt8) (v7:Bool):Option (List DOp):=
 if(a1.fKind==1)then
  (zav 6 (⟨v5,([]:List UInt8),false⟩:zaa) v4).bind fun v21=>
  (zav 2 (⟨v5,v6,v7⟩:zaa) v21.2).bind fun v22=>
  za9 a0 a1 v22.2
 else
  if(a1.fKind==2)then
   (zav 3 (⟨v1,([]:List UInt8),false⟩:zaa) v4).bind fun v23=>
   za9 a0 a1 v23.2
  else
   if(a1.fKind==3)then
    (zav 2 (⟨v5,v6,v7⟩:zaa) v4).bind fun v24=>
    za9 a0 a1 v24.2
   else
    za9 a0 a1 v4
noncomputable def zaV (a0:zab) (a1:zaz) (v1:List UInt8) (v2:List UInt8) (v3:Bool) (v4:List DOp):Option (List DOp):=
 if(a1.fKind !=2)then
  (zbh a0 a1.fNew).bind fun v25=>
  zbP a0 a1 v1 v4 v25.fKey v25.fVal v25.fGone
 else
  zbP a0 a1 v1 v4 ([]:List UInt8) ([]:List UInt8) false
noncomputable def zdI (a0:zab) (a1:zaz):Option (List DOp):=
 zym (σ:=List UInt8 × List UInt8 × Bool × List DOp) (
  if(a1.fKind !=1)then
   (zbh a0 a1.fOld).bind fun v26=>
   (zav 7 v26 ([]:List DOp)).bind fun v27=>
   some (.inl (v26.fKey,v26.fVal,v26.fGone,v27.2))
  else
   some (.inl (([]:List UInt8),([]:List UInt8),false, []))
 ) (fun s=>zaV a0 a1 s.1 s.2.1 s.2.2.1 s.2.2.2)
noncomputable def zat (a0:List zaa) (a1:List UInt8) (a2:zaa→(List UInt8)→Option Int) (v1:Int):Option (Int × Bool):=
 if(decide (v1<(a0.length:Int)))then
  (zay a0 v1).bind fun y2=>
  (a2 y2 a1).bind fun v3=>
  some (v1,(v3==0))
 else
  some (v1,false)
noncomputable def zai (a0:List zaa) (a1:List UInt8) (a2:zaa→(List UInt8)→Option Int) (v4:Int) (v5:Int):Option ((Int × Int) ⊕ Option (Int × Bool)):=
 if(decide (v4<v5))then
  (zay a0 (IntKind.i64.wrap (Int.fdiv (IntKind.u64.wrap (IntKind.i64.wrap (v4+v5))) (2^(min ((1:Int)).toNat (IntKind.bits .u64)))))).bind fun y6=>
  (a2 y6 a1).bind fun v7=>
  if(decide (v7<0))then
   some (.inl ((IntKind.i64.wrap ((IntKind.i64.wrap (Int.fdiv (IntKind.u64.wrap (IntKind.i64.wrap (v4+v5))) (2^(min ((1:Int)).toNat (IntKind.bits .u64)))))+1)),v5))
  else
   some (.inl (v4,(IntKind.i64.wrap (Int.fdiv (IntKind.u64.wrap (IntKind.i64.wrap (v4+v5))) (2^(min ((1:Int)).toNat (IntKind.bits .u64)))))))
 else
  some (.inr (zat a0 a1 a2 v4))
noncomputable def zaw (a0:List zaa) (a1:List UInt8) (a2:zaa→(List UInt8)→Option Int):Option (Int × Bool):=
 zal (fun s:Int × Int=>zai a0 a1 a2 s.1 s.2) (0,(a0.length:Int))
noncomputable def zdl (a0:List UInt8):Option (Bool):=
 some (a0 !=a0)
noncomputable def zdD (a0:List UInt8) (a1:List UInt8):Option (Int):=
 (zdl a0).bind fun v1=>
 (zdl a1).bind fun v2=>
 if v1 then
  if v2 then
   some 0
  else
   some (-1)
 else
  if v2 then
   some 1
  else
   if(Op.bytesLess a0 a1)then
    some (-1)
   else
    if(!(Op.bytesLess a0 a1||a0==a1))then
     some 1
    else
     some 0
noncomputable def zcM (a0:zaa) (a1:List UInt8):Option (Int):=
 (zdD a0.fKey a1).bind fun v1=>
 some v1
noncomputable def zb9 (a0:List zaa) (a1:List UInt8):Option (Int × Bool):=
 (zaw a0 a1 (fun y0_ y1_=>zcM y0_ y1_)).bind fun v1=>
 some (v1.1,v1.2)
noncomputable def zdn (a0:List zaa) (a1:zaa):Option (List zaa):=
 (zb9 a0 a1.fKey).bind fun v1=>
 if v1.2 then
  (zay a0 v1.1).bind fun y2=>
  some (a0.set (v1.1).toNat a1)
 else
  (zps a0 v1.1 ([a1]:List zaa)).bind fun v3=>
  some v3
noncomputable def zdc (a0:List UInt8) (a2:List zg0) (v3:Int):Option ((Int) ⊕ Option (List UInt8 × Bool × Bool)):=
 if(decide (v3<(a2.length:Int)))then
  (zay a2 v3).bind fun y4=>
  if(y4.fKey==a0)then
   some (.inr (some (y4.fVal,y4.fThere,true)))
  else
   some (.inl (IntKind.i64.wrap (v3+1)))
 else
  some (.inr (some (([]:List UInt8),false,false)))
noncomputable def zhq (a0:List UInt8) (a1:List zaa) (a2:List zg0):Option (List UInt8 × Bool × Bool):=
 (zb9 a1 a0).bind fun v1=>
 if v1.2 then
  (zay a1 v1.1).bind fun y2=>
  some (y2.fVal,(!y2.fGone),true)
 else
  zal (fun s:Int=>zdc a0 a2 s) 0
noncomputable def zfa (a0:List UInt8):Option (Int × Bool):=
 (zhC a0 (-999999) 999999).bind fun v1=>
 some (v1.1,v1.2)
noncomputable def zfl (a0:DOp) (a1:List UInt8) (a2:Bool):Option (Bool):=
 (zfa a1).bind fun v1=>
 if(a0.fKind==4)then
  if v1.2 then
   if a2 then
    (za4 (IntKind.i64.wrap (v1.1+a0.fBy)) (-999999) 999999).bind fun v2=>
    some v2
   else
    some true
  else
   some ((!a2)||false)
 else
  if(a0.fKind==5)then
   some ((a2&&v1.2)&&(decide (v1.1≥a0.fBy)))
  else
   if(a0.fKind==6)then
    some (!a2)
   else
    if(a0.fKind==7)then
     some (a2&&(a1==a0.fVal))
    else
     some true
noncomputable def zaD (a0:List DOp) (a1:List zg0) (v1:Int) (v2:List zaa):Option ((Int × List zaa) ⊕ Option (Int × List UInt8 × List zaa)):=
 if(decide (v1<(a0.length:Int)))then
  (zay a0 v1).bind fun y3=>
  if(y3.fKind==2)then
   (zdn v2 (⟨y3.fKey,y3.fVal,false⟩:zaa)).bind fun v4=>
   some (.inl ((IntKind.i64.wrap (v1+1)),v4))
  else
   if(y3.fKind==3)then
    (zdn v2 (⟨y3.fKey,([]:List UInt8),true⟩:zaa)).bind fun v5=>
    some (.inl ((IntKind.i64.wrap (v1+1)),v5))
   else
    (zhq y3.fKey v2 a1).bind fun v6=>
    if(!v6.2.2)then
     some (.inr (some (1,y3.fKey, [])))
    else
     (zfl y3 v6.1 v6.2.1).bind fun v7=>
     if(!v7)then
      some (.inr (some (2,([]:List UInt8), [])))
     else
      if(y3.fKind==4)then
       (zfa v6.1).bind fun v8=>
       (zjE (IntKind.i64.wrap (v8.1+y3.fBy))).bind fun v9=>
       (zdn v2 (⟨y3.fKey,v9,false⟩:zaa)).bind fun v10=>
       some (.inl ((IntKind.i64.wrap (v1+1)),v10))
      else
       some (.inl ((IntKind.i64.wrap (v1+1)),v2))
 else
  some (.inr (some (3,([]:List UInt8),v2)))
noncomputable def zjD (a0:List DOp) (a1:List zg0):Option (Int × List UInt8 × List zaa):=
 zal (fun s:Int × List zaa=>zaD a0 a1 s.1 s.2) (0, [])
noncomputable def zjq (a0:List zaa) (a1:List UInt8):Option (zg0):=
 (zb9 a0 a1).bind fun v1=>
 if(!v1.2)then
  some (⟨a1,([]:List UInt8),false⟩:zg0)
 else
  (zay a0 v1.1).bind fun y2=>
  some (⟨a1,y2.fVal,true⟩:zg0)
noncomputable def zbZ (a0:List zaa) (a1:List DOp) (v1:List zg0):Option ((List zg0) ⊕ Option (List zg0 × List zaa × Bool)):=
 (zjD a1 v1).bind fun v2=>
 if(v2.1 !=1)then
  some (.inr (some (v1,v2.2.2,(v2.1==3))))
 else
  (zjq a0 v2.2.1).bind fun v3=>
  req ((((v1).length:Int)+(([v3]:List zg0).length:Int))*40≤140737488355328∧((v1).length:Int)+(([v3]:List zg0).length:Int)≤140737488355328)<|
  some (.inl (v1++ [v3]))
noncomputable def zjb (a0:List zaa) (a1:List DOp):Option (List zg0 × List zaa × Bool):=
 zal (fun s:List zg0=>zbZ a0 a1 s) []
noncomputable def zax (xs:List zaa):Option (List zaa):=zol 40 xs
noncomputable def zia (a0:zaa):Option (Bool):=
 some a0.fGone
noncomputable def zhj (v2:List zaa):Option (List zaa × Bool):=
 (ze6 v2 (fun y0_=>zia y0_)).bind fun v3=>
 if(decide ((v3.length:Int)>24))then
  some ([],false)
 else
  some (v3,true)
noncomputable def zdd (a1:List zaa) (v4:Int) (v5:List zaa):Option ((Int × List zaa) ⊕ Option (List zaa × Bool)):=
 if(decide (v4<(a1.length:Int)))then
  (zay a1 v4).bind fun y6=>
  (zdn v5 y6).bind fun v7=>
  some (.inl ((IntKind.i64.wrap (v4+1)),v7))
 else
  some (.inr (zhj v5))
noncomputable def zhK (a0:List zaa) (a1:List zaa):Option (List zaa × Bool):=
 (zax a0).bind fun v1=>
 zal (fun s:Int × List zaa=>zdd a1 s.1 s.2) (0,v1)
noncomputable def ziI (a0:List zaa) (a1:List DOp):Option (List zaa × Bool):=
 (zjb a0 a1).bind fun v1=>
 (zhK a0 v1.2.1).bind fun v2=>
 if((!v1.2.2)||(!v2.2))then
  req (((([]:List zaa).length:Int)+((a0).length:Int))*40≤140737488355328∧(([]:List zaa).length:Int)+((a0).length:Int)≤140737488355328)<|
  some (a0,false)
 else
  some (v2.1,true)
noncomputable def zfB (a0:zab) (a1:zaz):Option (Bool):=
 if(a1.fKind==1)then
  if((a1.fOld.fVals.length:Int)==0)then
   (zc3 a0 a1.fNew).bind fun v1=>
   some v1
  else
   some false
 else
  if(a1.fKind==2)then
   if((a1.fNew.fVals.length:Int)==0)then
    (zc3 a0 a1.fOld).bind fun v2=>
    some v2
   else
    some false
  else
   if(a1.fKind==3)then
    (zc3 a0 a1.fOld).bind fun v3=>
    if v3 then
     (zc3 a0 a1.fNew).bind fun v4=>
     if v4 then
      (zay a1.fOld.fVals 0).bind fun y5=>
      (zay a1.fNew.fVals 0).bind fun y6=>
      some (y5==y6)
     else
      some false
    else
     some false
   else
    some false
noncomputable def zhM (a0:zab) (a1:zaz):Option (Bool):=
 (zca a0).bind fun v1=>
 if v1 then
  (zfB a0 a1).bind fun v2=>
  some v2
 else
  some false
noncomputable def zhY (a0:List UInt8):Option (Bool):=
 (zbq (a0.length:Int) 1 12).bind fun v1=>
 if v1 then
  (zeP a0 ([46,47]:List UInt8)).bind fun v2=>
  some v2
 else
  some false
noncomputable def zhR (a0:List UInt8):Option (Bool):=
 if(decide ((a0.length:Int)≤24))then
  (zeP a0 ([46,45,44,95]:List UInt8)).bind fun v1=>
  some v1
 else
  some false
noncomputable def zhs (a0:List UInt8) (a1:List UInt8) (a2:Bool):Option (Bool):=
 (zhY a0).bind fun v1=>
 if v1 then
  (zhR a1).bind fun v2=>
  some (v2&&((!a2)||(a1==([]:List UInt8))))
 else
  some false
noncomputable def zgc (a0:List zaa):Option (Bool):=
 some (decide ((a0.length:Int)≤24))
noncomputable def zgQ (a0:List zaa) (v1:Int):Option ((Int) ⊕ Option (Bool)):=
 if(decide (v1<(a0.length:Int)))then
  (zay a0 v1).bind fun y2=>
  (zhs y2.fKey y2.fVal y2.fGone).bind fun v3=>
  if(decide (v1>0))then
   if v3 then
    (zay a0 (IntKind.i64.wrap (v1-1))).bind fun y4=>
    if(!Op.bytesLess y4.fKey y2.fKey)then
     some (.inr (some false))
    else
     some (.inl (IntKind.i64.wrap (v1+1)))
   else
    some (.inr (some false))
  else
   if((!v3)||false)then
    some (.inr (some false))
   else
    some (.inl (IntKind.i64.wrap (v1+1)))
 else
  some (.inr (zgc a0))
noncomputable def zgj (a0:List zaa):Option (Bool):=
 zal (fun s:Int=>zgQ a0 s) 0
noncomputable def zid (a0:List zaa):Option (Bool):=
 (zgj a0).bind fun v1=>
 some v1
noncomputable def zic (a0:List zaa) (v2:Int):Option ((Int) ⊕ Option (Bool)):=
 if(decide (v2<(a0.length:Int)))then
  (zay a0 v2).bind fun y3=>
  if y3.fGone then
   some (.inr (some false))
  else
   some (.inl (IntKind.i64.wrap (v2+1)))
 else
  some (.inr (zid a0))
noncomputable def zcX (a0:List zaa):Option (Bool):=
 zal (fun s:Int=>zic a0 s) 0
noncomputable def zhv (a0:zab) (a1:zaz):Option (List DOp):=
 if(a1.fKind==1)then
  (zdf a0 a1.fNew).bind fun v1=>
  some [(⟨6,v1.fKey,([]:List UInt8),0⟩:DOp),(⟨2,v1.fKey,v1.fVal,0⟩:DOp)]
 else
  (zdf a0 a1.fOld).bind fun v2=>
  if(a1.fKind==2)then
   some [(⟨7,v2.fKey,v2.fVal,0⟩:DOp),(⟨3,v2.fKey,([]:List UInt8),0⟩:DOp)]
  else
   (zdf a0 a1.fNew).bind fun v3=>
   some [(⟨7,v2.fKey,v2.fVal,0⟩:DOp),(⟨2,v2.fKey,v3.fVal,0⟩:DOp)]
noncomputable def zfS (a1:zbB) (v2:List UInt8) (v3:List DOp):Option (List DOp):=
 if((v2 !=([]:List UInt8))&&(decide (a1.fStage≥2)))then
  req ((((v3).length:Int)+(([(⟨2,v2,([]:List UInt8),0⟩:DOp)]:List DOp).length:Int))*48≤140737488355328∧((v3).length:Int)+(([(⟨2,v2,([]:List UInt8),0⟩:DOp)]:List DOp).length:Int)≤140737488355328)<|
  some (v3++ [(⟨2,v2,([]:List UInt8),0⟩:DOp)])
 else
  some v3
noncomputable def zez (a1:zbB) (v1:List UInt8) (v2:List UInt8):Option (List DOp):=
 if(((v1 !=([]:List UInt8))&&(v1 !=v2))&&(decide (a1.fStage≥1)))then
  req (((([]:List DOp).length:Int)+(([(⟨3,v1,([]:List UInt8),0⟩:DOp)]:List DOp).length:Int))*48≤140737488355328∧(([]:List DOp).length:Int)+(([(⟨3,v1,([]:List UInt8),0⟩:DOp)]:List DOp).length:Int)≤140737488355328)<|
  zfS a1 v2 [(⟨3,v1,([]:List UInt8),0⟩:DOp)]
 else
  zfS a1 v2 []
noncomputable def zfP (a0:zab) (a1:zbB) (a2:zaz) (v1:List UInt8):Option (List DOp):=
 if(a2.fKind !=2)then
  (zed a0 a1 a2.fNew).bind fun v4=>
  zez a1 v1 v4
 else
  zez a1 v1 ([]:List UInt8)
noncomputable def zgs (a0:zab) (a1:zbB) (a2:zaz):Option (List DOp):=
 zym (σ:=List UInt8) (
  if(a2.fKind !=1)then
   (zed a0 a1 a2.fOld).bind fun v5=>
   some (.inl v5)
  else
   some (.inl ([]:List UInt8))
 ) (fun s=>zfP a0 a1 a2 s)
noncomputable def zdx (a0:zab) (a1:zaz) (v2:Int) (v3:List DOp):Option ((Int × List DOp) ⊕ Option (List DOp)):=
 if(decide (v2<(a0.fIdxs.length:Int)))then
  (zay a0.fIdxs v2).bind fun y4=>
  (zgs a0 y4 a1).bind fun v5=>
  req ((((v3).length:Int)+((v5).length:Int))*48≤140737488355328∧((v3).length:Int)+((v5).length:Int)≤140737488355328)<|
  some (.inl ((IntKind.i64.wrap (v2+1)),(v3++v5)))
 else
  some (.inr (some v3))
noncomputable def ziF (a0:zab) (a1:zaz):Option (List DOp):=
 (zhv a0 a1).bind fun v1=>
 zal (fun s:Int × List DOp=>zdx a0 a1 s.1 s.2) (0,v1)
noncomputable def zjF (a0:DOp) (v2:Bool):Option (Bool):=
 if v2 then
  (zhR a0.fVal).bind fun v3=>
  some (v3&&(a0.fBy==0))
 else
  if(a0.fKind==4)then
   if(a0.fKind==4)then
    if(a0.fVal==([]:List UInt8))then
     (zbq a0.fBy (-9999) 9999).bind fun v4=>
     some v4
    else
     some false
   else
    some (((((a0.fKind==1)||(a0.fKind==3))||(a0.fKind==6))&&(a0.fVal==([]:List UInt8)))&&(a0.fBy==0))
  else
   if(a0.fKind==5)then
    if(a0.fVal==([]:List UInt8))then
     (zbq a0.fBy (-9999) 9999).bind fun v5=>
     some v5
    else
     some false
   else
    some (((((a0.fKind==1)||(a0.fKind==3))||(a0.fKind==6))&&(a0.fVal==([]:List UInt8)))&&(a0.fBy==0))
noncomputable def zkq (a0:DOp):Option (Bool):=
 (zhY a0.fKey).bind fun v1=>
 if(!v1)then
  some false
 else
  if(a0.fKind==2)then
   zjF a0 (a0.fKind==2)
  else
   zjF a0 (a0.fKind==7)
noncomputable def zih (a0:List DOp):Option (Bool):=
 some (decide ((a0.length:Int)≤8))
noncomputable def zdy (a0:List DOp) (v1:Int):Option ((Int) ⊕ Option (Bool)):=
 if(decide (v1<(a0.length:Int)))then
  (zay a0 v1).bind fun y2=>
  (zkq y2).bind fun v3=>
  if(!v3)then
   some (.inr (some false))
  else
   some (.inl (IntKind.i64.wrap (v1+1)))
 else
  some (.inr (zih a0))
noncomputable def ziJ (a0:List DOp):Option (Bool):=
 zal (fun s:Int=>zdy a0 s) 0
noncomputable def zcN (a1:List zg0) (a2:List UInt8) (v1:Int):Option ((Int) ⊕ Option (List UInt8 × Bool × Bool)):=
 if(decide (v1<(a1.length:Int)))then
  (zay a1 v1).bind fun y2=>
  if(y2.fKey==a2)then
   some (.inr (some (y2.fVal,y2.fThere,true)))
  else
   some (.inl (IntKind.i64.wrap (v1+1)))
 else
  some (.inr (some (([]:List UInt8),false,false)))
noncomputable def ze1 (a1:List zg0) (a2:List UInt8):Option (List UInt8 × Bool × Bool):=
 zal (fun s:Int=>zcN a1 a2 s) 0
noncomputable def zcH (a0:List zaa) (a1:List zg0) (a2:List UInt8) (v3:Int):Option ((Int) ⊕ Option (List UInt8 × Bool × Bool)):=
 if(decide (v3<(a0.length:Int)))then
  (zay a0 v3).bind fun y4=>
  if(y4.fKey==a2)then
   some (.inr (some (y4.fVal,(!y4.fGone),true)))
  else
   some (.inl (IntKind.i64.wrap (v3+1)))
 else
  some (.inr (ze1 a1 a2))
noncomputable def zgw (a0:List zaa) (a1:List zg0) (a2:List UInt8):Option (List UInt8 × Bool × Bool):=
 zal (fun s:Int=>zcH a0 a1 a2 s) 0
noncomputable def zbC (a0:List UInt8) (v3:Int) (v4:Int):Option ((Int × Int) ⊕ Option (Int)):=
 if(decide (v4<(a0.length:Int)))then
  (zay a0 v4).bind fun y5=>
  if((decide ((y5.toNat:Int)<48))||(decide ((y5.toNat:Int)>57)))then
   some (.inr (some (-1)))
  else
   some (.inl ((IntKind.i64.wrap ((IntKind.i64.wrap ((10:Int)*v3))+(IntKind.i64.wrap (IntKind.u8.wrap ((y5.toNat:Int)-48))))),(IntKind.i64.wrap (v4+1))))
 else
  some (.inr (some v3))
noncomputable def zgF (a0:List UInt8):Option (Int):=
 (zbq (a0.length:Int) 1 6).bind fun v1=>
 if v1 then
  (zay a0 0).bind fun y2=>
  if(((y2.toNat:Int)==48)&&(decide ((a0.length:Int)>1)))then
   some (-1)
  else
   zal (fun s:Int × Int=>zbC a0 s.1 s.2) (0,0)
 else
  some (-1)
noncomputable def zgG (y1:UInt8) (v2:List UInt8):Option (Int × Bool):=
 (zgF v2).bind fun v3=>
 if((decide (v3<0))||(((y1.toNat:Int)==45)&&(v3==0)))then
  some (0,false)
 else
  if((y1.toNat:Int)==45)then
   some ((IntKind.i64.wrap (0-v3)),true)
  else
   some (v3,true)
noncomputable def zlh (v4:List UInt8):Option (Int × Bool):=
 (zgF v4).bind fun v5=>
 if((decide (v5<0))||false)then
  some (0,false)
 else
  some (v5,true)
noncomputable def zh6 (a0:List UInt8):Option (Int × Bool):=
 if(decide ((a0.length:Int)>0))then
  (zay a0 0).bind fun y1=>
  if((y1.toNat:Int)==45)then
   req (0≤(1:Int)∧(1:Int)≤(a0.length:Int)∧(a0.length:Int)≤(a0.length:Int))<|
   zgG y1 (zfZ a0 1 (a0.length:Int))
  else
   zgG y1 a0
 else
  zlh a0
noncomputable def zhD (a0:DOp) (a1:List UInt8) (a2:Bool):Option (Bool):=
 (zh6 a1).bind fun v1=>
 if(a0.fKind==4)then
  if(!a2)then
   some false
  else
   if v1.2 then
    (zbq (IntKind.i64.wrap (v1.1+a0.fBy)) (-999999) 999999).bind fun v2=>
    some (!v2)
   else
    some true
 else
  if(a0.fKind==5)then
   some (((!a2)||(!v1.2))||(decide (v1.1<a0.fBy)))
  else
   if(a0.fKind==6)then
    some a2
   else
    if(a0.fKind==7)then
     some ((!a2)||(a1 !=a0.fVal))
    else
     some false
noncomputable def zfz:Nat→Int→Option (List UInt8)
 |0,_=>none
 |n_+1,a0=>
  if(decide (a0<10))then
   req (([(IntKind.u8.wrap (IntKind.i64.wrap ((48:Int)+a0)))]:List Int).length≤9223372036854775807)<|
   some ([(IntKind.u8.wrap (IntKind.i64.wrap ((48:Int)+a0)))].map fun n=>UInt8.ofNat n.toNat)
  else
   ((zfz n_) (IntKind.i64.wrap (Int.tdiv a0 10))).bind fun v1=>
   req (([(IntKind.u8.wrap (IntKind.i64.wrap ((48:Int)+(Int.tmod a0 10))))]:List Int).length≤9223372036854775807)<|
   req ((v1).length+(([(IntKind.u8.wrap (IntKind.i64.wrap ((48:Int)+(Int.tmod a0 10))))].map fun n=>UInt8.ofNat n.toNat)).length≤9223372036854775807)<|
   some (v1++([(IntKind.u8.wrap (IntKind.i64.wrap ((48:Int)+(Int.tmod a0 10))))].map fun n=>UInt8.ofNat n.toNat))
noncomputable def zlI:Int→Option (List UInt8):=zfz zEF
noncomputable def zkx (a0:Int):Option (List UInt8):=
 if(decide (a0<0))then
  (zlI (IntKind.i64.wrap (0-a0))).bind fun v1=>
  req ((([45]:List UInt8)).length+(v1).length≤9223372036854775807)<|
  some ((([45]:List UInt8):List UInt8)++v1)
 else
  (zlI a0).bind fun v2=>
  some v2
noncomputable def zaM (a0:List DOp) (a1:List zg0) (v1:List zaa) (v2:Int):Option ((List zaa × Int) ⊕ Option (Int × List UInt8 × List zaa)):=
 if(decide (v2<(a0.length:Int)))then
  (zay a0 v2).bind fun y3=>
  (zgw v1 a1 y3.fKey).bind fun v4=>
  if(((!v4.2.2)&&(y3.fKind !=2))&&(y3.fKind !=3))then
   some (.inr (some (1,y3.fKey, [])))
  else
   (zhD y3 v4.1 v4.2.1).bind fun v5=>
   if v5 then
    some (.inr (some (2,([]:List UInt8), [])))
   else
    if(y3.fKind==2)then
     (zdH v1 (⟨y3.fKey,y3.fVal,false⟩:zaa)).bind fun v6=>
     some (.inl (v6,(IntKind.i64.wrap (v2+1))))
    else
     if(y3.fKind==3)then
      (zdH v1 (⟨y3.fKey,([]:List UInt8),true⟩:zaa)).bind fun v7=>
      some (.inl (v7,(IntKind.i64.wrap (v2+1))))
     else
      if(y3.fKind==4)then
       (zh6 v4.1).bind fun v8=>
       if(!v4.2.1)then
        (zkx (IntKind.i64.wrap ((0:Int)+y3.fBy))).bind fun v9=>
        (zdH v1 (⟨y3.fKey,v9,false⟩:zaa)).bind fun v10=>
        some (.inl (v10,(IntKind.i64.wrap (v2+1))))
       else
        (zkx (IntKind.i64.wrap (v8.1+y3.fBy))).bind fun v11=>
        (zdH v1 (⟨y3.fKey,v11,false⟩:zaa)).bind fun v12=>
        some (.inl (v12,(IntKind.i64.wrap (v2+1))))
      else
       some (.inl (v1,(IntKind.i64.wrap (v2+1))))
 else
  some (.inr (some (3,([]:List UInt8),v1)))
noncomputable def zkm (a0:List DOp) (a1:List zg0):Option (Int × List UInt8 × List zaa):=
 zal (fun s:List zaa × Int=>zaM a0 a1 s.1 s.2) ([],0)
noncomputable def zkT (a1:List UInt8):Option (zg0):=
 some (⟨a1,([]:List UInt8),false⟩:zg0)
noncomputable def zdv (a0:List zaa) (a1:List UInt8) (v1:Int):Option ((Int) ⊕ Option (zg0)):=
 if(decide (v1<(a0.length:Int)))then
  (zay a0 v1).bind fun y2=>
  if(y2.fKey==a1)then
   some (.inr (some (⟨a1,y2.fVal,true⟩:zg0)))
  else
   some (.inl (IntKind.i64.wrap (v1+1)))
 else
  some (.inr (zkT a1))
noncomputable def ziD (a0:List zaa) (a1:List UInt8):Option (zg0):=
 zal (fun s:Int=>zdv a0 a1 s) 0
noncomputable def zci (a0:List zaa) (a1:List DOp) (v1:List zg0):Option ((List zg0) ⊕ Option (List zg0 × List zaa × Bool)):=
 (zkm a1 v1).bind fun v2=>
 if(v2.1 !=1)then
  some (.inr (some (v1,v2.2.2,(v2.1==3))))
 else
  (ziD a0 v2.2.1).bind fun v3=>
  req ((((v1).length:Int)+(([v3]:List zg0).length:Int))*40≤140737488355328∧((v1).length:Int)+(([v3]:List zg0).length:Int)≤140737488355328)<|
  some (.inl (v1++ [v3]))
noncomputable def zjJ (a0:List zaa) (a1:List DOp):Option (List zg0 × List zaa × Bool):=
 zal (fun s:List zg0=>zci a0 a1 s) []
noncomputable def zch (v1:List zaa) (v2:List zaa) (v3:Int):Option ((List zaa × Int) ⊕ Option (List zaa)):=
 if(decide (v3<(v1.length:Int)))then
  (zay v1 v3).bind fun y4=>
  if(!y4.fGone)then
   req ((((v2).length:Int)+(([y4]:List zaa).length:Int))*40≤140737488355328∧((v2).length:Int)+(([y4]:List zaa).length:Int)≤140737488355328)<|
   some (.inl ((v2++ [y4]),(IntKind.i64.wrap (v3+1))))
  else
   some (.inl (v2,(IntKind.i64.wrap (v3+1))))
 else
  some (.inr (some v2))
noncomputable def zfW (v1:List zaa):Option (List zaa):=
 zal (fun s:List zaa × Int=>zch v1 s.1 s.2) ([],0)
noncomputable def zcm (a1:List zaa) (v5:Int) (v6:List zaa):Option ((Int × List zaa) ⊕ Option (List zaa)):=
 if(decide (v5<(a1.length:Int)))then
  (zay a1 v5).bind fun y7=>
  (zdH v6 y7).bind fun v8=>
  some (.inl ((IntKind.i64.wrap (v5+1)),v8))
 else
  some (.inr (zfW v6))
noncomputable def zfN (a0:List zaa) (a1:List zaa):Option (List zaa):=
 req (((([]:List zaa).length:Int)+((a0).length:Int))*40≤140737488355328∧(([]:List zaa).length:Int)+((a0).length:Int)≤140737488355328)<|
 zal (fun s:Int × List zaa=>zcm a1 s.1 s.2) (0,a0)
noncomputable def zbK (a1:List (List DOp)) (v2:List Bool) (v3:Int) (v4:List zaa):Option ((List Bool × Int × List zaa) ⊕ Option (List zaa × List Bool × Bool)):=
 if(decide (v3<(a1.length:Int)))then
  (zay a1 v3).bind fun y5=>
  (zjJ v4 y5).bind fun v6=>
  (zfN v4 v6.2.1).bind fun v7=>
  if v6.2.2 then
   (zcX v7).bind fun v8=>
   if v8 then
    req ((((v2).length:Int)+(([v8]:List Bool).length:Int))*1≤140737488355328∧((v2).length:Int)+(([v8]:List Bool).length:Int)≤140737488355328)<|
    some (.inl ((v2++ [v8]),(IntKind.i64.wrap (v3+1)),v7))
   else
    req ((((v2).length:Int)+(([v8]:List Bool).length:Int))*1≤140737488355328∧((v2).length:Int)+(([v8]:List Bool).length:Int)≤140737488355328)<|
    some (.inl ((v2++ [v8]),(IntKind.i64.wrap (v3+1)),v4))
  else
   req ((((v2).length:Int)+(([false]:List Bool).length:Int))*1≤140737488355328∧((v2).length:Int)+(([false]:List Bool).length:Int)≤140737488355328)<|
   some (.inl ((v2++ [false]),(IntKind.i64.wrap (v3+1)),v4))
 else
  some (.inr (some (v4,v2,true)))
noncomputable def zf5 (a0:List zaa) (a1:List (List DOp)):Option (List zaa × List Bool × Bool):=
 req (((([]:List zaa).length:Int)+((a0).length:Int))*40≤140737488355328∧(([]:List zaa).length:Int)+((a0).length:Int)≤140737488355328)<|
 zal (fun s:List Bool × Int × List zaa=>zbK a1 s.1 s.2.1 s.2.2) ([],0,a0)
noncomputable def zbH (a0:List zaa) (a1:List (List DOp)) (v9:Int):Option ((Int) ⊕ Option (List zaa × List Bool × Bool)):=
 if(decide (v9<(a1.length:Int)))then
  (zay a1 v9).bind fun y10=>
  (ziJ y10).bind fun v11=>
  if(!v11)then
   some (.inr (some ([], [],false)))
  else
   some (.inl (IntKind.i64.wrap (v9+1)))
 else
  some (.inr (zf5 a0 a1))
noncomputable def zfM (a0:List zaa) (a1:List (List DOp)):Option (List zaa × List Bool × Bool):=
 (zcX a0).bind fun v1=>
 if((!v1)||(decide ((a1.length:Int)>20)))then
  some ([], [],false)
 else
  zal (fun s:Int=>zbH a0 a1 s) 0
noncomputable def zjr (a0:List zaa) (a1:List DOp):Option (List zaa × Bool):=
 (zfM a0 ([a1]:List (List DOp))).bind fun v1=>
 if((v1.2.1.length:Int)==1)then
  (zay v1.2.1 0).bind fun y2=>
  some (v1.1,y2)
 else
  some (v1.1,false)
noncomputable def zjl (a0:zab) (a1:List zaa) (a2:zaz):Option (List zaa × Bool × Bool):=
 (zhM a0 a2).bind fun v1=>
 if v1 then
  (zcX a1).bind fun v2=>
  if(!v2)then
   some ([],false,false)
  else
   (ziF a0 a2).bind fun v3=>
   (zjr a1 v3).bind fun v4=>
   some (v4.1,v4.2,true)
 else
  some ([],false,false)
noncomputable def ziN (a0:zab) (a1:List UInt8):Option (Bool):=
 (zfI a0).bind fun v1=>
 if v1 then
  (zby a0 a1).bind fun v2=>
  some (decide (v2≥0))
 else
  some false
noncomputable def zbe (a0:List UInt8) (a1:List UInt8):Option (Bool):=
 if(decide ((a0.length:Int)≥(a1.length:Int)))then
  req (0≤(0:Int)∧(0:Int)≤(a1.length:Int)∧(a1.length:Int)≤(a0.length:Int))<|
  some ((zfZ a0 0 (a1.length:Int))==a1)
 else
  some false
noncomputable def zcb (a0:List UInt8) (a1:List UInt8):Option (List UInt8 × Bool):=
 (zbe a0 a1).bind fun v1=>
 if(!v1)then
  some (a0,false)
 else
  req (0≤(a1.length:Int)∧(a1.length:Int)≤(a0.length:Int)∧(a0.length:Int)≤(a0.length:Int))<|
  some ((zfZ a0 (a1.length:Int) (a0.length:Int)),true)
noncomputable def zdm (a0:List UInt8) (a1:List UInt8):Option (List UInt8 × Bool):=
 (zcb a0 a1).bind fun v1=>
 some (v1.1,v1.2)
noncomputable def zcc (a0:List UInt8) (a1:List UInt8):Option (List UInt8 × List UInt8 × Bool):=
 (zaS a0 a1).bind fun v1=>
 if(decide (v1≥0))then
  req (0≤(0:Int)∧(0:Int)≤v1∧v1≤(a0.length:Int))<|
  req (0≤(IntKind.i64.wrap (v1+(a1.length:Int)))∧(IntKind.i64.wrap (v1+(a1.length:Int)))≤(a0.length:Int)∧(a0.length:Int)≤(a0.length:Int))<|
  some ((zfZ a0 0 v1),(zfZ a0 (IntKind.i64.wrap (v1+(a1.length:Int))) (a0.length:Int)),true)
 else
  some (a0,([]:List UInt8),false)
noncomputable def zfi (a0:List UInt8) (a1:List UInt8):Option (List UInt8 × List UInt8 × Bool):=
 (zcc a0 a1).bind fun v1=>
 some (v1.1,v1.2.1,v1.2.2)
noncomputable def zct (a0:zab) (a1:List UInt8) (a2:List UInt8):Option (List UInt8 × List UInt8 × Bool):=
 (zcg a0 a1).bind fun v1=>
 (zdm a2 v1).bind fun v2=>
 (zfi v2.1 ([47]:List UInt8)).bind fun v3=>
 if v2.2 then
  if v3.2.2 then
   (zeN v3.1).bind fun v4=>
   if v4 then
    (zeN v3.2.1).bind fun v5=>
    if(!v5)then
     some (([]:List UInt8),([]:List UInt8),false)
    else
     some (v3.1,v3.2.1,true)
   else
    some (([]:List UInt8),([]:List UInt8),false)
  else
   some (([]:List UInt8),([]:List UInt8),false)
 else
  some (([]:List UInt8),([]:List UInt8),false)
noncomputable def zaY (a0:zab) (a1:List UInt8) (a2:List zaa) (v1:Int) (v2:List (List UInt8)):Option ((Int × List (List UInt8)) ⊕ Option (List (List UInt8))):=
 if(decide (v1<(a2.length:Int)))then
  (zay a2 v1).bind fun y3=>
  (zct a0 a1 y3.fKey).bind fun v4=>
  if v4.2.2 then
   req ((((v2).length:Int)+(([y3.fKey]:List (List UInt8)).length:Int))*16≤140737488355328∧((v2).length:Int)+(([y3.fKey]:List (List UInt8)).length:Int)≤140737488355328)<|
   some (.inl ((IntKind.i64.wrap (v1+1)),(v2++ [y3.fKey])))
  else
   some (.inl ((IntKind.i64.wrap (v1+1)),v2))
 else
  some (.inr (some v2))
noncomputable def zbT (a0:zab) (a1:List UInt8) (a2:List zaa):Option (List (List UInt8)):=
 zal (fun s:Int × List (List UInt8)=>zaY a0 a1 a2 s.1 s.2) (0, [])
noncomputable def zgt (a0:List UInt8) (a1:List UInt8):Option (Int):=
 (zaS a0 a1).bind fun v1=>
 some v1
noncomputable def ze8 (v3:List UInt8) (v4:Int) (v5:List (List UInt8)):Option (List (List UInt8)):=
 (zay v5 v4).bind fun y6=>
 req (0≤(0:Int)∧(0:Int)≤(IntKind.i64.wrap (v4+1))∧(IntKind.i64.wrap (v4+1))≤((v5.set (v4).toNat v3).length:Int))<|
 some (zfZ (v5.set (v4).toNat v3) 0 (IntKind.i64.wrap (v4+1)))
noncomputable def zbO (a0:List UInt8) (a1:List UInt8) (a2:Int) (v2:Int) (v7:List UInt8) (v8:Int) (v9:List (List UInt8)):Option ((List UInt8 × Int × List (List UInt8)) ⊕ Option (List (List UInt8))):=
 if(decide (v8<(IntKind.i64.wrap ((bif (decide ((IntKind.i64.wrap ((a0.length:Int)+1))<v2))then(IntKind.i64.wrap ((a0.length:Int)+1))else v2)-1))))then
  (zgt v7 a1).bind fun v10=>
  if(decide (v10<0))then
   some (.inr (ze8 v7 v8 v9))
  else
   req (0≤(0:Int)∧(0:Int)≤(IntKind.i64.wrap (v10+a2))∧(IntKind.i64.wrap (v10+a2))≤(v7.length:Int))<|
   (zay v9 v8).bind fun y11=>
   req (0≤(IntKind.i64.wrap (v10+(a1.length:Int)))∧(IntKind.i64.wrap (v10+(a1.length:Int)))≤(v7.length:Int)∧(v7.length:Int)≤(v7.length:Int))<|
   some (.inl ((zfZ v7 (IntKind.i64.wrap (v10+(a1.length:Int))) (v7.length:Int)),(IntKind.i64.wrap (v8+1)),(v9.set (v8).toNat (zfZ v7 0 (IntKind.i64.wrap (v10+a2))))))
 else
  some (.inr (ze8 v7 v8 v9))
noncomputable def zfb (a0:List UInt8) (a1:List UInt8) (a2:Int) (v2:Int):Option (List (List UInt8)):=
 req (0≤(bif (decide ((IntKind.i64.wrap ((a0.length:Int)+1))<v2))then(IntKind.i64.wrap ((a0.length:Int)+1))else v2)∧(bif (decide ((IntKind.i64.wrap ((a0.length:Int)+1))<v2))then(IntKind.i64.wrap ((a0.length:Int)+1))else v2)*16≤140737488355328∧(bif (decide ((IntKind.i64.wrap ((a0.length:Int)+1))<v2))then(IntKind.i64.wrap ((a0.length:Int)+1))else v2)≤140737488355328)<|
 zal (fun s:List UInt8 × Int × List (List UInt8)=>zbO a0 a1 a2 v2 s.1 s.2.1 s.2.2) (a0,0,(List.replicate ((bif (decide ((IntKind.i64.wrap ((a0.length:Int)+1))<v2))then(IntKind.i64.wrap ((a0.length:Int)+1))else v2)).toNat ([]:List UInt8)))
noncomputable def zgE (a0:List UInt8) (a1:List UInt8) (a2:Int) (a3:Int):Option (List (List UInt8)):=
 if(a3==0)then
  some []
 else
  if(a1==([]:List UInt8))then
   (zhe a0 a3).bind fun v1=>
   some v1
  else
   if(decide (a3<0))then
    (zge a0 a1).bind fun v12=>
    zfb a0 a1 a2 (IntKind.i64.wrap (v12+1))
   else
    zfb a0 a1 a2 a3
noncomputable def zff (a0:List UInt8) (a1:List UInt8):Option (List (List UInt8)):=
 (zgE a0 a1 0 (-1)).bind fun v1=>
 some v1
noncomputable def zdp (a0:zab) (a1:zaa):Option (zdG × Bool):=
 req ((a0.fName).length+(([47]:List UInt8)).length≤9223372036854775807)<|
 (zdm a1.fKey (a0.fName++([47]:List UInt8))).bind fun v1=>
 (zff a1.fVal ([44]:List UInt8)).bind fun v2=>
 req (((([v1.1]:List (List UInt8)).length:Int)+((v2).length:Int))*16≤140737488355328∧(([v1.1]:List (List UInt8)).length:Int)+((v2).length:Int)≤140737488355328)<|
 if v1.2 then
  (za3 a0 (⟨([v1.1]++v2)⟩:zdG)).bind fun v3=>
  if v3 then
   (zbh a0 (⟨([v1.1]++v2)⟩:zdG)).bind fun v4=>
   if(!(a1.fKey==v4.fKey&&(a1.fVal==v4.fVal&&(a1.fGone==v4.fGone))))then
    some ((⟨[]⟩:zdG),false)
   else
    some ((⟨([v1.1]++v2)⟩:zdG),true)
  else
   some ((⟨[]⟩:zdG),false)
 else
  some ((⟨[]⟩:zdG),false)
noncomputable def za6 (a0:zab) (a1:List zaa) (v1:Int) (v2:List zdG):Option ((Int × List zdG) ⊕ Option (List zdG)):=
 if(decide (v1<(a1.length:Int)))then
  (zay a1 v1).bind fun y3=>
  (zdp a0 y3).bind fun v4=>
  if v4.2 then
   req ((((v2).length:Int)+(([v4.1]:List zdG).length:Int))*24≤140737488355328∧((v2).length:Int)+(([v4.1]:List zdG).length:Int)≤140737488355328)<|
   some (.inl ((IntKind.i64.wrap (v1+1)),(v2++ [v4.1])))
  else
   some (.inl ((IntKind.i64.wrap (v1+1)),v2))
 else
  some (.inr (some v2))
noncomputable def ze7 (a0:zab) (a1:List zaa):Option (List zdG):=
 zal (fun s:Int × List zdG=>za6 a0 a1 s.1 s.2) (0, [])
noncomputable def za7 (a0:zab) (a1:List UInt8) (v1:List zdG) (v2:Int) (v3:List (List UInt8)):Option ((Int × List (List UInt8)) ⊕ Option (List (List UInt8))):=
 if(decide (v2<(v1.length:Int)))then
  (zay v1 v2).bind fun y4=>
  (zaZ a0 a1 y4).bind fun v5=>
  req ((((v3).length:Int)+(([v5]:List (List UInt8)).length:Int))*16≤140737488355328∧((v3).length:Int)+(([v5]:List (List UInt8)).length:Int)≤140737488355328)<|
  some (.inl ((IntKind.i64.wrap (v2+1)),(v3++ [v5])))
 else
  some (.inr (some v3))
noncomputable def zcx (a0:zab) (a1:List UInt8) (a2:List zaa):Option (List (List UInt8)):=
 (ze7 a0 a2).bind fun v1=>
 zal (fun s:Int × List (List UInt8)=>za7 a0 a1 v1 s.1 s.2) (0, [])
noncomputable def zaX (xs:List (List UInt8)):Option (List (List UInt8)):=zol 16 xs
noncomputable def zim (a0:List UInt8) (a1:List (List UInt8)):Option (Bool):=
 (zaI a1 a0).bind fun v1=>
 some v1
noncomputable def zfC (a0:List (List UInt8)) (a1:List (List UInt8)):Option (List (List UInt8)):=
 (zaX a0).bind fun v1=>
 (ze6 v1 (fun y0_=>zim y0_ a1)).bind fun v2=>
 some v2
noncomputable def zcK (a0:zab) (a1:List UInt8) (a2:List zaa):Option (List (List UInt8)):=
 (zbT a0 a1 a2).bind fun v1=>
 (zcx a0 a1 a2).bind fun v2=>
 (zfC v1 v2).bind fun v3=>
 some v3
noncomputable def zeT (a0:zab) (a1:List UInt8) (a2:List zaa):Option (List (List UInt8)):=
 (zcx a0 a1 a2).bind fun v1=>
 (zbT a0 a1 a2).bind fun v2=>
 (zfC v1 v2).bind fun v3=>
 some v3
noncomputable def zdo (a0:zab) (a1:List UInt8) (a2:Int) (a3:List zaa):Option (Bool):=
 if(a2==0)then
  (zbT a0 a1 a3).bind fun v1=>
  some ((v1.length:Int)==0)
 else
  if(a2==1)then
   (zcK a0 a1 a3).bind fun v2=>
   some ((v2.length:Int)==0)
  else
   (zcK a0 a1 a3).bind fun v3=>
   if((v3.length:Int)==0)then
    (zeT a0 a1 a3).bind fun v4=>
    some ((v4.length:Int)==0)
   else
    some false
noncomputable def zdk (a0:zab) (a1:List UInt8) (a2:List zaa):Option (Bool):=
 (zca a0).bind fun v1=>
 if v1 then
  (zbj a0 a1).bind fun v2=>
  if(decide (v2≥0))then
   (zcX a2).bind fun v3=>
   some v3
  else
   some false
 else
  some false
noncomputable def zeq (a0:zab) (a1:List UInt8) (a2:List UInt8):Option (List UInt8 × List UInt8 × Bool):=
 (zdT a2 47).bind fun v1=>
 if((v1.length:Int) !=3)then
  some (([]:List UInt8),([]:List UInt8),false)
 else
  (zay v1 0).bind fun y2=>
  req ((a0.fName).length+(([46]:List UInt8)).length≤9223372036854775807)<|
  req (((a0.fName++([46]:List UInt8))).length+(a1).length≤9223372036854775807)<|
  if(y2 !=((a0.fName++([46]:List UInt8))++a1))then
   some (([]:List UInt8),([]:List UInt8),false)
  else
   (zay v1 1).bind fun y3=>
   (zd9 y3).bind fun v4=>
   if v4 then
    (zay v1 2).bind fun y5=>
    (zd9 y5).bind fun v6=>
    if(!v6)then
     some (([]:List UInt8),([]:List UInt8),false)
    else
     some (y3,y5,true)
   else
    some (([]:List UInt8),([]:List UInt8),false)
noncomputable def zb7 (a0:zab) (a1:List UInt8) (a2:List zaa) (v1:List (List UInt8)) (v2:Int):Option ((List (List UInt8) × Int) ⊕ Option (List (List UInt8))):=
 if(decide (v2<(a2.length:Int)))then
  (zay a2 v2).bind fun y3=>
  (zeq a0 a1 y3.fKey).bind fun v4=>
  if v4.2.2 then
   req ((((v1).length:Int)+(([y3.fKey]:List (List UInt8)).length:Int))*16≤140737488355328∧((v1).length:Int)+(([y3.fKey]:List (List UInt8)).length:Int)≤140737488355328)<|
   some (.inl ((v1++ [y3.fKey]),(IntKind.i64.wrap (v2+1))))
  else
   some (.inl (v1,(IntKind.i64.wrap (v2+1))))
 else
  some (.inr (some v1))
noncomputable def zea (a0:zab) (a1:List UInt8) (a2:List zaa):Option (List (List UInt8)):=
 zal (fun s:List (List UInt8) × Int=>zb7 a0 a1 a2 s.1 s.2) ([],0)
noncomputable def zco (a0:zab) (a1:List UInt8) (v1:List zdG) (v2:List (List UInt8)) (v3:Int):Option ((List (List UInt8) × Int) ⊕ Option (List (List UInt8))):=
 if(decide (v3<(v1.length:Int)))then
  (zay v1 v3).bind fun y4=>
  (zbj a0 a1).bind fun v5=>
  (zay a0.fIdxs v5).bind fun y6=>
  (zed a0 y6 y4).bind fun v7=>
  req ((((v2).length:Int)+(([v7]:List (List UInt8)).length:Int))*16≤140737488355328∧((v2).length:Int)+(([v7]:List (List UInt8)).length:Int)≤140737488355328)<|
  some (.inl ((v2++ [v7]),(IntKind.i64.wrap (v3+1))))
 else
  some (.inr (some v2))
noncomputable def zeI (a0:zab) (a1:List UInt8) (a2:List zaa):Option (List (List UInt8)):=
 (zjx a0 a2).bind fun v1=>
 zal (fun s:List (List UInt8) × Int=>zco a0 a1 v1 s.1 s.2) ([],0)
noncomputable def zda (a0:List (List UInt8)) (a1:List (List UInt8)) (v1:List (List UInt8)) (v2:Int):Option ((List (List UInt8) × Int) ⊕ Option (List (List UInt8))):=
 if(decide (v2<(a0.length:Int)))then
  (zay a0 v2).bind fun y3=>
  (zhO a1 y3).bind fun v4=>
  if(decide (v4<0))then
   req ((((v1).length:Int)+(([y3]:List (List UInt8)).length:Int))*16≤140737488355328∧((v1).length:Int)+(([y3]:List (List UInt8)).length:Int)≤140737488355328)<|
   some (.inl ((v1++ [y3]),(IntKind.i64.wrap (v2+1))))
  else
   some (.inl (v1,(IntKind.i64.wrap (v2+1))))
 else
  some (.inr (some v1))
noncomputable def zhF (a0:List (List UInt8)) (a1:List (List UInt8)):Option (List (List UInt8)):=
 zal (fun s:List (List UInt8) × Int=>zda a0 a1 s.1 s.2) ([],0)
noncomputable def zij (a0:zab) (a1:List UInt8) (a2:List zaa):Option (List (List UInt8) × Bool):=
 (zdk a0 a1 a2).bind fun v1=>
 if(!v1)then
  some ([],false)
 else
  (zea a0 a1 a2).bind fun v2=>
  (zeI a0 a1 a2).bind fun v3=>
  (zhF v2 v3).bind fun v4=>
  some (v4,true)
noncomputable def zjw (a0:zab) (a1:List UInt8) (a2:List zaa):Option (List (List UInt8) × Bool):=
 (zdk a0 a1 a2).bind fun v1=>
 if(!v1)then
  some ([],false)
 else
  (zeI a0 a1 a2).bind fun v2=>
  (zea a0 a1 a2).bind fun v3=>
  (zhF v2 v3).bind fun v4=>
  some (v4,true)
noncomputable def zgh (a0:zab) (a1:List UInt8) (a2:Int) (a3:List zaa):Option (Bool):=
 if(a2==0)then
  (zea a0 a1 a3).bind fun v1=>
  some ((v1.length:Int)==0)
 else
  (zij a0 a1 a3).bind fun v2=>
  (zjw a0 a1 a3).bind fun v3=>
  some (((v2.1.length:Int)==0)&&((a2==1)||((v3.1.length:Int)==0)))
noncomputable def zeJ (a0:zab) (a1:List UInt8) (a2:Int) (v4:Int) (v5:List zab):Option ((Int × List zab) ⊕ Option (List zab)):=
 if(v4 !=a2)then
  if(decide (v4<a2))then
   (zgz a0 a1 (IntKind.i64.wrap (v4+1))).bind fun v6=>
   req ((((v5).length:Int)+(([v6]:List zab).length:Int))*64≤140737488355328∧((v5).length:Int)+(([v6]:List zab).length:Int)≤140737488355328)<|
   some (.inl ((IntKind.i64.wrap (v4+1)),(v5++ [v6])))
  else
   (zgz a0 a1 (IntKind.i64.wrap (v4-1))).bind fun v7=>
   req ((((v5).length:Int)+(([v7]:List zab).length:Int))*64≤140737488355328∧((v5).length:Int)+(([v7]:List zab).length:Int)≤140737488355328)<|
   some (.inl ((IntKind.i64.wrap (v4-1)),(v5++ [v7])))
 else
  some (.inr (some v5))
noncomputable def ziL (a0:zab) (a1:List UInt8) (a2:Int):Option (List zab):=
 (zfn a0).bind fun v1=>
 (zbj a0 a1).bind fun v2=>
 (zay a0.fIdxs v2).bind fun y3=>
 zal (fun s:Int × List zab=>zeJ a0 a1 a2 s.1 s.2) (y3.fStage, [v1])
noncomputable def zju (a0:List Int):Option (List Int):=
 req (((([]:List Int).length:Int)+((a0).length:Int))*8≤140737488355328∧(([]:List Int).length:Int)+((a0).length:Int)≤140737488355328)<|
 some a0
noncomputable def zdA (a0:zag) (v1:List Int) (v2:Int) (v3:List zab):Option ((Int × List zab) ⊕ Option (zag)):=
 if(decide (v2<(a0.fWays.length:Int)))then
  (zay a0.fWays v2).bind fun y4=>
  (zfn y4).bind fun v5=>
  req ((((v3).length:Int)+(([v5]:List zab).length:Int))*64≤140737488355328∧((v3).length:Int)+(([v5]:List zab).length:Int)≤140737488355328)<|
  some (.inl ((IntKind.i64.wrap (v2+1)),(v3++ [v5])))
 else
  some (.inr (some (⟨a0.fName,v3,v1,a0.fStore⟩:zag)))
noncomputable def zgH (a0:zag):Option (zag):=
 (zju a0.fAt).bind fun v1=>
 req (((([]:List zaa).length:Int)+((a0.fStore).length:Int))*40≤140737488355328∧(([]:List zaa).length:Int)+((a0.fStore).length:Int)≤140737488355328)<|
 zal (fun s:Int × List zab=>zdA a0 v1 s.1 s.2) (0, [])
noncomputable def zck (a0:zag) (v1:List Int) (v2:Int):Option ((List Int × Int) ⊕ Option (List Int)):=
 if(decide (v2<(a0.fAt.length:Int)))then
  (zay a0.fAt v2).bind fun y3=>
  (zay a0.fWays y3).bind fun y4=>
  (zbj y4 a0.fName).bind fun v5=>
  (zay y4.fIdxs v5).bind fun y6=>
  req ((((v1).length:Int)+(([y6.fStage]:List Int).length:Int))*8≤140737488355328∧((v1).length:Int)+(([y6.fStage]:List Int).length:Int)≤140737488355328)<|
  some (.inl ((v1++ [y6.fStage]),(IntKind.i64.wrap (v2+1))))
 else
  some (.inr (some v1))
noncomputable def zfU (a0:zag):Option (List Int):=
 zal (fun s:List Int × Int=>zck a0 s.1 s.2) ([],0)
noncomputable def zd8 (a0:List Int) (a1:Int) (v1:Int):Option ((Int) ⊕ Option (Bool)):=
 if(decide (v1<(a0.length:Int)))then
  (zay a0 v1).bind fun y2=>
  if(y2==a1)then
   some (.inr (some true))
  else
   some (.inl (IntKind.i64.wrap (v1+1)))
 else
  some (.inr (some false))
noncomputable def zh0 (a0:List Int) (a1:Int):Option (Bool):=
 zal (fun s:Int=>zd8 a0 a1 s) 0
noncomputable def zhI (a0:zag):Option (Int):=
 (zfU a0).bind fun v1=>
 (zh0 v1 3).bind fun v2=>
 if v2 then
  some 2
 else
  (zh0 v1 0).bind fun v3=>
  if v3 then
   some 0
  else
   some 1
noncomputable def zgk (a0:zab) (a1:zag):Option (Bool):=
 (ziN a0 a1.fName).bind fun v1=>
 some (!v1)
noncomputable def zgI (a0:Int) (a1:zag):Option (Bool):=
 (za4 a0 0 (IntKind.i64.wrap ((a1.fWays.length:Int)-1))).bind fun v1=>
 some (!v1)
noncomputable def zbu (a0:zag) (a1:zab):Option (Int):=
 (zbr a1 a0.fName).bind fun v1=>
 some v1.fStage
noncomputable def zbJ (xs:List zbB):Option (List zbB):=zol 32 xs
noncomputable def zdz (a0:zab):Option (zab):=
 (zaX a0.fCols).bind fun v1=>
 (zbJ a0.fIdxs).bind fun v2=>
 some (⟨a0.fName,v1,v2⟩:zab)
noncomputable def zbS (a0:zab) (a1:List UInt8) (a2:Int):Option (zab):=
 (zdz a0).bind fun v1=>
 (zby a0 a1).bind fun v2=>
 (zay v1.fIdxs v2).bind fun y3=>
 some (⟨v1.fName,v1.fCols,(v1.fIdxs.set (v2).toNat {y3 with fStage:=a2})⟩:zab)
noncomputable def zbY (a0:zab) (a1:List UInt8) (a2:Int) (v3:Int) (v4:List zab):Option ((Int × List zab) ⊕ Option (List zab)):=
 if(v3 !=a2)then
  if(decide (v3<a2))then
   (zbS a0 a1 (IntKind.i64.wrap (v3+1))).bind fun v5=>
   req ((((v4).length:Int)+(([v5]:List zab).length:Int))*64≤140737488355328∧((v4).length:Int)+(([v5]:List zab).length:Int)≤140737488355328)<|
   some (.inl ((IntKind.i64.wrap (v3+1)),(v4++ [v5])))
  else
   (zbS a0 a1 (IntKind.i64.wrap (v3-1))).bind fun v6=>
   req ((((v4).length:Int)+(([v6]:List zab).length:Int))*64≤140737488355328∧((v4).length:Int)+(([v6]:List zab).length:Int)≤140737488355328)<|
   some (.inl ((IntKind.i64.wrap (v3-1)),(v4++ [v6])))
 else
  some (.inr (some v4))
noncomputable def zdY (a0:zab) (a1:List UInt8) (a2:Int):Option (List zab):=
 (zbr a0 a1).bind fun v1=>
 (zdz a0).bind fun v2=>
 zal (fun s:Int × List zab=>zbY a0 a1 a2 s.1 s.2) (v1.fStage, [v2])
noncomputable def zah (a0:List zab) (a1:List zab) (a2:zab→zab→Option Bool) (v1:Int):Option ((Int) ⊕ Option (Bool)):=
 if(decide (v1<(a0.length:Int)))then
  (zay a0 v1).bind fun y2=>
  (zay a1 v1).bind fun y3=>
  (a2 y2 y3).bind fun v4=>
  if(!v4)then
   some (.inr (some false))
  else
   some (.inl (IntKind.i64.wrap (v1+1)))
 else
  some (.inr (some true))
noncomputable def zak (a0:List zab) (a1:List zab) (a2:zab→zab→Option Bool):Option (Bool):=
 if((a0.length:Int) !=(a1.length:Int))then
  some false
 else
  zal (fun s:Int=>zah a0 a1 a2 s) 0
noncomputable def zaG (a0:List (List UInt8)) (a1:List (List UInt8)) (v1:Int):Option ((Int) ⊕ Option (Bool)):=
 if(decide (v1<(a0.length:Int)))then
  (zay a0 v1).bind fun y2=>
  (zay a1 v1).bind fun y3=>
  if(y2 !=y3)then
   some (.inr (some false))
  else
   some (.inl (IntKind.i64.wrap (v1+1)))
 else
  some (.inr (some true))
noncomputable def zbi (a0:List (List UInt8)) (a1:List (List UInt8)):Option (Bool):=
 if((a0.length:Int) !=(a1.length:Int))then
  some false
 else
  zal (fun s:Int=>zaG a0 a1 s) 0
noncomputable def zaA (a0:List zbB) (a1:List zbB) (v1:Int):Option ((Int) ⊕ Option (Bool)):=
 if(decide (v1<(a0.length:Int)))then
  (zay a0 v1).bind fun y2=>
  (zay a1 v1).bind fun y3=>
  if(!(y2.fName==y3.fName&&(y2.fCol==y3.fCol&&(y2.fStage==y3.fStage))))then
   some (.inr (some false))
  else
   some (.inl (IntKind.i64.wrap (v1+1)))
 else
  some (.inr (some true))
noncomputable def za1 (a0:List zbB) (a1:List zbB):Option (Bool):=
 if((a0.length:Int) !=(a1.length:Int))then
  some false
 else
  zal (fun s:Int=>zaA a0 a1 s) 0
noncomputable def zb8 (a0:zab) (a1:zab):Option (Bool):=
 if(a0.fName==a1.fName)then
  (zbi a0.fCols a1.fCols).bind fun v1=>
  if v1 then
   (za1 a0.fIdxs a1.fIdxs).bind fun v2=>
   some v2
  else
   some false
 else
  some false
noncomputable def zfR (a0:zag):Option (Bool):=
 (za4 (a0.fWays.length:Int) 1 4).bind fun v1=>
 if v1 then
  (za4 (a0.fAt.length:Int) 1 3).bind fun v2=>
  if v2 then
   (ziP a0.fStore).bind fun v3=>
   if(!v3)then
    some false
   else
    (zaQ a0.fWays (fun y0_=>zgk y0_ a0)).bind fun v4=>
    if v4 then
     some false
    else
     (zaQ a0.fAt (fun y0_=>zgI y0_ a0)).bind fun v5=>
     if v5 then
      some false
     else
      (zay a0.fWays 0).bind fun y6=>
      (zay a0.fWays (IntKind.i64.wrap ((a0.fWays.length:Int)-1))).bind fun y7=>
      (zbu a0 y7).bind fun v8=>
      (zdY y6 a0.fName v8).bind fun v9=>
      (zak a0.fWays v9 (fun y0_ y1_=>zb8 y0_ y1_)).bind fun v10=>
      some v10
  else
   some false
 else
  some false
noncomputable def zaF (a0:zag) (a1:Int):Option (zab):=
 (zay a0.fAt a1).bind fun y1=>
 (zay a0.fWays y1).bind fun y2=>
 some y2
noncomputable def zkE (a0:zaz):Option (Bool):=
 some (((a0.fKind==0)&&((a0.fOld.fVals.length:Int)==0))&&((a0.fNew.fVals.length:Int)==0))
noncomputable def zbA (a0:zag) (a1:zaf):Option (Bool):=
 (za4 a1.fServer 0 (IntKind.i64.wrap ((a0.fAt.length:Int)-1))).bind fun v1=>
 if(!v1)then
  some false
 else
  if(a1.fStep==0)then
   (zaF a0 a1.fServer).bind fun v2=>
   (zcZ v2 a1.fAct).bind fun v3=>
   some v3
  else
   if(a1.fStep==1)then
    (zkE a1.fAct).bind fun v4=>
    some v4
   else
    if(a1.fStep==(-1))then
     (zkE a1.fAct).bind fun v5=>
     some v5
    else
     some false
noncomputable def zdR (xs:List Int):Option (List Int):=zol 8 xs
noncomputable def zcn (a0:zag) (v1:List Int) (v2:List zaa) (v3:Int) (v4:List zab):Option ((Int × List zab) ⊕ Option (zag)):=
 if(decide (v3<(a0.fWays.length:Int)))then
  (zay a0.fWays v3).bind fun y5=>
  (zdz y5).bind fun v6=>
  req ((((v4).length:Int)+(([v6]:List zab).length:Int))*64≤140737488355328∧((v4).length:Int)+(([v6]:List zab).length:Int)≤140737488355328)<|
  some (.inl ((IntKind.i64.wrap (v3+1)),(v4++ [v6])))
 else
  some (.inr (some (⟨a0.fName,v4,v1,v2⟩:zag)))
noncomputable def zeB (a0:zag):Option (zag):=
 (zdR a0.fAt).bind fun v1=>
 (zax a0.fStore).bind fun v2=>
 zal (fun s:Int × List zab=>zcn a0 v1 v2 s.1 s.2) (0, [])
noncomputable def zbF (a0:zag) (a1:zaf):Option (zag × Bool):=
 (zeB a0).bind fun v1=>
 if(a1.fStep !=0)then
  (zay a0.fAt a1.fServer).bind fun y2=>
  (za4 (IntKind.i64.wrap (y2+a1.fStep)) 0 (IntKind.i64.wrap ((a0.fWays.length:Int)-1))).bind fun v3=>
  if(!v3)then
   some (v1,false)
  else
   (zay v1.fAt a1.fServer).bind fun y4=>
   some ((⟨v1.fName,v1.fWays,(v1.fAt.set (a1.fServer).toNat (IntKind.i64.wrap (y2+a1.fStep))),v1.fStore⟩:zag),true)
 else
  (zaF a0 a1.fServer).bind fun v5=>
  (zdI v5 a1.fAct).bind fun v6=>
  (ziI a0.fStore v6).bind fun v7=>
  some ((⟨v1.fName,v1.fWays,v1.fAt,v7.1⟩:zag),v7.2)
noncomputable def zcv (a0:zab) (a1:zab) (v1:Int):Option ((Int) ⊕ Option (Bool)):=
 if(decide (v1<(a0.fIdxs.length:Int)))then
  (zay a0.fIdxs v1).bind fun y2=>
  (zay a1.fIdxs v1).bind fun y3=>
  if((y2.fName !=y3.fName)||(y2.fCol !=y3.fCol))then
   some (.inr (some false))
  else
   some (.inl (IntKind.i64.wrap (v1+1)))
 else
  some (.inr (some true))
noncomputable def zdF (a0:zab) (a1:zab):Option (Bool):=
 zal (fun s:Int=>zcv a0 a1 s) 0
noncomputable def zcE (a0:zab) (a1:zab) (v4:Int):Option ((Int) ⊕ Option (Bool)):=
 if(decide (v4<(a0.fCols.length:Int)))then
  (zay a0.fCols v4).bind fun y5=>
  (zay a1.fCols v4).bind fun y6=>
  if(y5 !=y6)then
   some (.inr (some false))
  else
   some (.inl (IntKind.i64.wrap (v4+1)))
 else
  some (.inr (zdF a0 a1))
noncomputable def ze0 (a0:zab) (a1:zab):Option (Bool):=
 if(((a0.fName !=a1.fName)||((a0.fCols.length:Int) !=(a1.fCols.length:Int)))||((a0.fIdxs.length:Int) !=(a1.fIdxs.length:Int)))then
  some false
 else
  zal (fun s:Int=>zcE a0 a1 s) 0
noncomputable def ziA (a0:Int) (a1:Int):Option (Int):=
 if(decide (a0>a1))then
  some a0
 else
  some a1
noncomputable def zdB (a0:zab) (a1:zab) (v1:Int) (v2:Int):Option ((Int × Int) ⊕ Option (Int)):=
 if(decide (v2<(a0.fIdxs.length:Int)))then
  (zay a0.fIdxs v2).bind fun y3=>
  (zay a1.fIdxs v2).bind fun y4=>
  (ziA (IntKind.i64.wrap (y3.fStage-y4.fStage)) (IntKind.i64.wrap (0-(IntKind.i64.wrap (y3.fStage-y4.fStage))))).bind fun v5=>
  some (.inl ((IntKind.i64.wrap (v1+v5)),(IntKind.i64.wrap (v2+1))))
 else
  some (.inr (some v1))
noncomputable def ziu (a0:zab) (a1:zab):Option (Int):=
 zal (fun s:Int × Int=>zdB a0 a1 s.1 s.2) (0,0)
noncomputable def zeb (a0:zag) (v10:List zab) (v11:Int):Option ((Int) ⊕ Option (Bool)):=
 if(decide (v11<(v10.length:Int)))then
  (zay a0.fWays v11).bind fun y12=>
  (zca y12).bind fun v13=>
  if v13 then
   (zay v10 v11).bind fun y14=>
   (ze0 y14 y12).bind fun v15=>
   if v15 then
    (ziu y14 y12).bind fun v16=>
    if(v16 !=0)then
     some (.inr (some false))
    else
     some (.inl (IntKind.i64.wrap (v11+1)))
   else
    some (.inr (some false))
  else
   some (.inr (some false))
 else
  some (.inr (some true))
noncomputable def zeQ (a0:zag):Option (Bool):=
 (zbq (a0.fWays.length:Int) 1 4).bind fun v1=>
 if v1 then
  (zay a0.fWays 0).bind fun y2=>
  (zca y2).bind fun v3=>
  if v3 then
   (zbj y2 a0.fName).bind fun v4=>
   if(decide (v4<0))then
    some false
   else
    (zay a0.fWays (IntKind.i64.wrap ((a0.fWays.length:Int)-1))).bind fun y5=>
    (zca y5).bind fun v6=>
    if v6 then
     (zbj y5 a0.fName).bind fun v7=>
     if(decide (v7<0))then
      some false
     else
      (zbj y5 a0.fName).bind fun v8=>
      (zay y5.fIdxs v8).bind fun y9=>
      (ziL y2 a0.fName y9.fStage).bind fun v10=>
      if((v10.length:Int) !=(a0.fWays.length:Int))then
       some false
      else
       zal (fun s:Int=>zeb a0 v10 s) 0
    else
     some false
  else
   some false
 else
  some false
noncomputable def zd0 (a0:List Int) (a1:Int) (a2:Int) (v1:Int):Option ((Int) ⊕ Option (Bool)):=
 if(decide (v1<(a0.length:Int)))then
  (zay a0 v1).bind fun y2=>
  (zbq y2 a1 a2).bind fun v3=>
  if(!v3)then
   some (.inr (some false))
  else
   some (.inl (IntKind.i64.wrap (v1+1)))
 else
  some (.inr (some true))
noncomputable def zjp (a0:List Int) (a1:Int) (a2:Int):Option (Bool):=
 zal (fun s:Int=>zd0 a0 a1 a2 s) 0
noncomputable def zfV (a0:zag):Option (Bool):=
 (zeQ a0).bind fun v1=>
 if v1 then
  (zbq (a0.fAt.length:Int) 1 3).bind fun v2=>
  if v2 then
   (zjp a0.fAt 0 (IntKind.i64.wrap ((a0.fWays.length:Int)-1))).bind fun v3=>
   if v3 then
    (zcX a0.fStore).bind fun v4=>
    some v4
   else
    some false
  else
   some false
 else
  some false
noncomputable def zlF (a0:zaz):Option (Bool):=
 some (((a0.fKind==0)&&((a0.fOld.fVals.length:Int)==0))&&((a0.fNew.fVals.length:Int)==0))
noncomputable def zfE (a0:zag) (a1:zaf):Option (Bool):=
 (zbq a1.fServer 0 (IntKind.i64.wrap ((a0.fAt.length:Int)-1))).bind fun v1=>
 if(!v1)then
  some false
 else
  if((a1.fStep==1)||(a1.fStep==(-1)))then
   (zlF a1.fAct).bind fun v2=>
   some v2
  else
   if(a1.fStep==0)then
    (zay a0.fAt a1.fServer).bind fun y3=>
    (zay a0.fWays y3).bind fun y4=>
    (zfB y4 a1.fAct).bind fun v5=>
    some v5
   else
    some false
noncomputable def zfd (a0:zag) (a1:zaf):Option (zag × Bool):=
 (zgH a0).bind fun v1=>
 if(a1.fStep !=0)then
  (zay v1.fAt a1.fServer).bind fun y2=>
  (zbq (IntKind.i64.wrap (y2+a1.fStep)) 0 (IntKind.i64.wrap ((a0.fWays.length:Int)-1))).bind fun v3=>
  if(!v3)then
   some (v1,false)
  else
   some ((⟨v1.fName,v1.fWays,(v1.fAt.set (a1.fServer).toNat (IntKind.i64.wrap (y2+a1.fStep))),v1.fStore⟩:zag),true)
 else
  (zay a0.fAt a1.fServer).bind fun y4=>
  (zay a0.fWays y4).bind fun y5=>
  (zjl y5 a0.fStore a1.fAct).bind fun v6=>
  some ((⟨v1.fName,v1.fWays,v1.fAt,v6.1⟩:zag),v6.2.1)
noncomputable def zaK (a0:List Int) (v2:Int) (v3:Int):Option ((Int × Int) ⊕ Option (Int)):=
 if(decide (v3<(a0.length:Int)))then
  (zay a0 v3).bind fun y4=>
  some (.inl ((bif (decide (y4>v2))then y4 else v2),(IntKind.i64.wrap (v3+1))))
 else
  some (.inr (some v2))
noncomputable def zcY (a0:List Int):Option (Int):=
 if(decide ((a0.length:Int)<1))then
  none
 else
  (zay a0 0).bind fun y1=>
  zal (fun s:Int × Int=>zaK a0 s.1 s.2) (y1,1)
noncomputable def zaJ (a0:List Int) (v2:Int) (v3:Int):Option ((Int × Int) ⊕ Option (Int)):=
 if(decide (v3<(a0.length:Int)))then
  (zay a0 v3).bind fun y4=>
  some (.inl ((bif (decide (y4<v2))then y4 else v2),(IntKind.i64.wrap (v3+1))))
 else
  some (.inr (some v2))
noncomputable def zc2 (a0:List Int):Option (Int):=
 if(decide ((a0.length:Int)<1))then
  none
 else
  (zay a0 0).bind fun y1=>
  zal (fun s:Int × Int=>zaJ a0 s.1 s.2) (y1,1)
noncomputable def zcW (a0:zag):Option (Bool):=
 (zcY a0.fAt).bind fun v1=>
 (zc2 a0.fAt).bind fun v2=>
 some (decide ((IntKind.i64.wrap (v1-v2))≤1))
noncomputable def zbw (a0:zag) (v1:Int) (v2:Int):Option ((Int × Int) ⊕ Option (Int)):=
 if(decide (v2<(a0.fAt.length:Int)))then
  (zaF a0 v2).bind fun v3=>
  (zbu a0 v3).bind fun v4=>
  if(v4==3)then
   some (.inr (some 2))
  else
   if(v4==0)then
    some (.inl (0,(IntKind.i64.wrap (v2+1))))
   else
    some (.inl (v1,(IntKind.i64.wrap (v2+1))))
 else
  some (.inr (some v1))
noncomputable def zep (a0:zag):Option (Int):=
 zal (fun s:Int × Int=>zbw a0 s.1 s.2) (1,0)
noncomputable def zcz (a0:zag):Option (Bool):=
 (zay a0.fWays 0).bind fun y1=>
 (zep a0).bind fun v2=>
 (zdo y1 a0.fName v2 a0.fStore).bind fun v3=>
 some v3
noncomputable def zeZ (a0:zag) (a1:zaf):Option (Bool):=
 (zbF a0 a1).bind fun v1=>
 if v1.2 then
  (zcW v1.1).bind fun v2=>
  if v2 then
   (zcz v1.1).bind fun v3=>
   some v3
  else
   some false
 else
  some false
noncomputable def zgm (v1:Int):Option ((Int) ⊕ Option (Bool)):=
 some (.inl (IntKind.i64.wrap (v1+1)))
noncomputable def zb2 (a0:List Int) (v1:Int) (y2:Int) (v3:Int):Option ((Int) ⊕ Option ((Int) ⊕ Option (Bool))):=
 if(decide (v3<(a0.length:Int)))then
  (zay a0 v3).bind fun y4=>
  if(decide ((IntKind.i64.wrap (y2-y4))>1))then
   some (.inr (some (.inr (some false))))
  else
   some (.inl (IntKind.i64.wrap (v3+1)))
 else
  some (.inr (zgm v1))
noncomputable def zcP (a0:List Int) (v1:Int):Option ((Int) ⊕ Option (Bool)):=
 if(decide (v1<(a0.length:Int)))then
  (zay a0 v1).bind fun y2=>
  zal (fun s:Int=>zb2 a0 v1 y2 s) 0
 else
  some (.inr (some true))
noncomputable def zgJ (a0:List Int):Option (Bool):=
 zal (fun s:Int=>zcP a0 s) 0
noncomputable def zfA (a0:zag):Option (Bool):=
 (zay a0.fWays 0).bind fun y1=>
 (zhI a0).bind fun v2=>
 (zgh y1 a0.fName v2 a0.fStore).bind fun v3=>
 some v3
noncomputable def ziO (a0:zag) (a1:zaf):Option (Bool):=
 (zfd a0 a1).bind fun v1=>
 if v1.2 then
  (zgJ v1.1.fAt).bind fun v2=>
  if v2 then
   (zfA v1.1).bind fun v3=>
   some v3
  else
   some false
 else
  some false
noncomputable def zcp (a0:List (List UInt8)) (v1:Int) (v2:Int):Option ((Int × Int) ⊕ Option (Int)):=
 if(decide (v2<(a0.length:Int)))then
  (zay a0 v2).bind fun y3=>
  if(decide ((IntKind.i64.wrap (v1-(y3.length:Int)))<0))then
   some (.inr (some (-1)))
  else
   some (.inl ((IntKind.i64.wrap (v1-(y3.length:Int))),(IntKind.i64.wrap (v2+1))))
 else
  some (.inr (some v1))
noncomputable def zex (a0:List (List UInt8)) (a1:Int):Option (Int):=
 if(decide ((IntKind.i64.wrap (a1-(a0.length:Int)))<0))then
  some (-1)
 else
  zal (fun s:Int × Int=>zcp a0 s.1 s.2) ((IntKind.i64.wrap (a1-(a0.length:Int))),0)
noncomputable def zjs (a0:zbB) (a1:Int):Option (Int):=
 if(decide ((IntKind.i64.wrap (a1-(a0.fName.length:Int)))<0))then
  some (-1)
 else
  some (IntKind.i64.wrap (a1-(a0.fName.length:Int)))
noncomputable def zdw (a0:List zbB) (v1:Int) (v2:Int):Option ((Int × Int) ⊕ Option (Int)):=
 if(decide (v2<(a0.length:Int)))then
  (zay a0 v2).bind fun y3=>
  (zjs y3 v1).bind fun v4=>
  if(decide (v4<0))then
   some (.inr (some (-1)))
  else
   some (.inl (v4,(IntKind.i64.wrap (v2+1))))
 else
  some (.inr (some v1))
noncomputable def ziw (a0:List zbB) (a1:Int):Option (Int):=
 if(decide ((IntKind.i64.wrap (a1-(a0.length:Int)))<0))then
  some (-1)
 else
  zal (fun s:Int × Int=>zdw a0 s.1 s.2) ((IntKind.i64.wrap (a1-(a0.length:Int))),0)
noncomputable def zhL (a0:zab) (a1:Int):Option (Int):=
 if(decide ((IntKind.i64.wrap (a1-(a0.fName.length:Int)))<0))then
  some (-1)
 else
  (zex a0.fCols (IntKind.i64.wrap (a1-(a0.fName.length:Int)))).bind fun v1=>
  if(decide (v1<0))then
   some (-1)
  else
   (ziw a0.fIdxs v1).bind fun v2=>
   if(decide (v2<0))then
    some (-1)
   else
    some v2
noncomputable def zcQ (a0:List zab) (v1:Int) (v2:Int):Option ((Int × Int) ⊕ Option (Int)):=
 if(decide (v2<(a0.length:Int)))then
  (zay a0 v2).bind fun y3=>
  (zhL y3 v1).bind fun v4=>
  if(decide (v4<0))then
   some (.inr (some (-1)))
  else
   some (.inl (v4,(IntKind.i64.wrap (v2+1))))
 else
  some (.inr (some v1))
noncomputable def zgg (a0:List zab) (a1:Int):Option (Int):=
 if(decide ((IntKind.i64.wrap (a1-(a0.length:Int)))<0))then
  some (-1)
 else
  zal (fun s:Int × Int=>zcQ a0 s.1 s.2) ((IntKind.i64.wrap (a1-(a0.length:Int))),0)
noncomputable def ziC (a0:List Int) (a1:Int):Option (Int):=
 if(decide ((IntKind.i64.wrap (a1-(a0.length:Int)))<0))then
  some (-1)
 else
  some (IntKind.i64.wrap (a1-(a0.length:Int)))
noncomputable def zhz (a0:zaa) (a1:Int):Option (Int):=
 if(decide ((IntKind.i64.wrap (a1-(a0.fKey.length:Int)))<0))then
  some (-1)
 else
  if(decide ((IntKind.i64.wrap ((IntKind.i64.wrap (a1-(a0.fKey.length:Int)))-(a0.fVal.length:Int)))<0))then
   some (-1)
  else
   some (IntKind.i64.wrap ((IntKind.i64.wrap (a1-(a0.fKey.length:Int)))-(a0.fVal.length:Int)))
noncomputable def zcS (a0:List zaa) (v1:Int) (v2:Int):Option ((Int × Int) ⊕ Option (Int)):=
 if(decide (v2<(a0.length:Int)))then
  (zay a0 v2).bind fun y3=>
  (zhz y3 v1).bind fun v4=>
  if(decide (v4<0))then
   some (.inr (some (-1)))
  else
   some (.inl (v4,(IntKind.i64.wrap (v2+1))))
 else
  some (.inr (some v1))
noncomputable def zgn (a0:List zaa) (a1:Int):Option (Int):=
 if(decide ((IntKind.i64.wrap (a1-(a0.length:Int)))<0))then
  some (-1)
 else
  zal (fun s:Int × Int=>zcS a0 s.1 s.2) ((IntKind.i64.wrap (a1-(a0.length:Int))),0)
noncomputable def zhJ (a0:zag) (a1:Int):Option (Int):=
 if(decide ((IntKind.i64.wrap (a1-(a0.fName.length:Int)))<0))then
  some (-1)
 else
  (zgg a0.fWays (IntKind.i64.wrap (a1-(a0.fName.length:Int)))).bind fun v1=>
  if(decide (v1<0))then
   some (-1)
  else
   (ziC a0.fAt v1).bind fun v2=>
   if(decide (v2<0))then
    some (-1)
   else
    (zgn a0.fStore v2).bind fun v3=>
    if(decide (v3<0))then
     some (-1)
    else
     some v3
noncomputable def zh4 (a0:zdG) (a1:Int):Option (Int):=
 (zex a0.fVals a1).bind fun v1=>
 if(decide (v1<0))then
  some (-1)
 else
  some v1
noncomputable def zgp (a0:zaz) (a1:Int):Option (Int):=
 (zh4 a0.fOld a1).bind fun v1=>
 if(decide (v1<0))then
  some (-1)
 else
  (zh4 a0.fNew v1).bind fun v2=>
  if(decide (v2<0))then
   some (-1)
  else
   some v2
noncomputable def zfo (a0:zaf) (a1:Int):Option (Int):=
 (zgp a0.fAct a1).bind fun v1=>
 if(decide (v1<0))then
  some (-1)
 else
  some v1
noncomputable def zbM (a0:List zaf) (v1:Int) (v2:Int):Option ((Int × Int) ⊕ Option (Int)):=
 if(decide (v2<(a0.length:Int)))then
  (zay a0 v2).bind fun y3=>
  (zfo y3 v1).bind fun v4=>
  if(decide (v4<0))then
   some (.inr (some (-1)))
  else
   some (.inl (v4,(IntKind.i64.wrap (v2+1))))
 else
  some (.inr (some v1))
noncomputable def zeY (a0:List zaf) (a1:Int):Option (Int):=
 if(decide ((IntKind.i64.wrap (a1-(a0.length:Int)))<0))then
  some (-1)
 else
  zal (fun s:Int × Int=>zbM a0 s.1 s.2) ((IntKind.i64.wrap (a1-(a0.length:Int))),0)
noncomputable def zdj (a0:List (List UInt8)) (v1:Int) (v2:List (List UInt8)):Option ((Int × List (List UInt8)) ⊕ Option (List (List UInt8))):=
 if(decide (v1<(a0.length:Int)))then
  (zay a0 v1).bind fun y3=>
  (zay v2 v1).bind fun y4=>
  some (.inl ((IntKind.i64.wrap (v1+1)),(v2.set (v1).toNat y3)))
 else
  some (.inr (some v2))
noncomputable def zeG (a0:List (List UInt8)):Option (List (List UInt8)):=
 req (0≤(a0.length:Int)∧(a0.length:Int)*16≤140737488355328∧(a0.length:Int)≤140737488355328)<|
 zal (fun s:Int × List (List UInt8)=>zdj a0 s.1 s.2) (0,(List.replicate ((a0.length:Int)).toNat ([]:List UInt8)))
noncomputable def zla (a0:zbB):Option (zbB):=
 some a0
noncomputable def zeL (a0:List zbB) (v1:Int) (v2:List zbB):Option ((Int × List zbB) ⊕ Option (List zbB)):=
 if(decide (v1<(a0.length:Int)))then
  (zay a0 v1).bind fun y3=>
  (zla y3).bind fun v4=>
  (zay v2 v1).bind fun y5=>
  some (.inl ((IntKind.i64.wrap (v1+1)),(v2.set (v1).toNat v4)))
 else
  some (.inr (some v2))
noncomputable def zix (a0:List zbB):Option (List zbB):=
 req (0≤(a0.length:Int)∧(a0.length:Int)*32≤140737488355328∧(a0.length:Int)≤140737488355328)<|
 zal (fun s:Int × List zbB=>zeL a0 s.1 s.2) (0,(List.replicate ((a0.length:Int)).toNat (⟨([]:List UInt8),0,0⟩:zbB)))
noncomputable def zht (a0:zab):Option (zab):=
 (zeG a0.fCols).bind fun v1=>
 (zix a0.fIdxs).bind fun v2=>
 some (⟨a0.fName,v1,v2⟩:zab)
noncomputable def zdK (a0:List zab) (v1:Int) (v2:List zab):Option ((Int × List zab) ⊕ Option (List zab)):=
 if(decide (v1<(a0.length:Int)))then
  (zay a0 v1).bind fun y3=>
  (zht y3).bind fun v4=>
  (zay v2 v1).bind fun y5=>
  some (.inl ((IntKind.i64.wrap (v1+1)),(v2.set (v1).toNat v4)))
 else
  some (.inr (some v2))
noncomputable def zgy (a0:List zab):Option (List zab):=
 req (0≤(a0.length:Int)∧(a0.length:Int)*64≤140737488355328∧(a0.length:Int)≤140737488355328)<|
 zal (fun s:Int × List zab=>zdK a0 s.1 s.2) (0,(List.replicate ((a0.length:Int)).toNat (⟨([]:List UInt8), [], []⟩:zab)))
noncomputable def zeF (a0:List Int) (v1:Int) (v2:List Int):Option ((Int × List Int) ⊕ Option (List Int)):=
 if(decide (v1<(a0.length:Int)))then
  (zay a0 v1).bind fun y3=>
  (zay v2 v1).bind fun y4=>
  some (.inl ((IntKind.i64.wrap (v1+1)),(v2.set (v1).toNat y3)))
 else
  some (.inr (some v2))
noncomputable def ziG (a0:List Int):Option (List Int):=
 req (0≤(a0.length:Int)∧(a0.length:Int)*8≤140737488355328∧(a0.length:Int)≤140737488355328)<|
 zal (fun s:Int × List Int=>zeF a0 s.1 s.2) (0,(List.replicate ((a0.length:Int)).toNat 0))
noncomputable def zjN (a0:zaa):Option (zaa):=
 some a0
noncomputable def zdE (a0:List zaa) (v1:Int) (v2:List zaa):Option ((Int × List zaa) ⊕ Option (List zaa)):=
 if(decide (v1<(a0.length:Int)))then
  (zay a0 v1).bind fun y3=>
  (zjN y3).bind fun v4=>
  (zay v2 v1).bind fun y5=>
  some (.inl ((IntKind.i64.wrap (v1+1)),(v2.set (v1).toNat v4)))
 else
  some (.inr (some v2))
noncomputable def zgo (a0:List zaa):Option (List zaa):=
 req (0≤(a0.length:Int)∧(a0.length:Int)*40≤140737488355328∧(a0.length:Int)≤140737488355328)<|
 zal (fun s:Int × List zaa=>zdE a0 s.1 s.2) (0,(List.replicate ((a0.length:Int)).toNat (⟨([]:List UInt8),([]:List UInt8),false⟩:zaa)))
noncomputable def zdO (a0:zag):Option (zag):=
 (zgy a0.fWays).bind fun v1=>
 (ziG a0.fAt).bind fun v2=>
 (zgo a0.fStore).bind fun v3=>
 some (⟨a0.fName,v1,v2,v3⟩:zag)
noncomputable def zh1 (a0:zdG):Option (zdG):=
 (zeG a0.fVals).bind fun v1=>
 some (⟨v1⟩:zdG)
noncomputable def zgd (a0:zaz):Option (zaz):=
 (zh1 a0.fOld).bind fun v1=>
 (zh1 a0.fNew).bind fun v2=>
 some (⟨a0.fKind,v1,v2⟩:zaz)
noncomputable def zfq (a0:zaf):Option (zaf):=
 (zgd a0.fAct).bind fun v1=>
 some (⟨a0.fServer,a0.fStep,v1⟩:zaf)
noncomputable def zcF (a0:List zaf) (v1:Int) (v2:List zaf):Option ((Int × List zaf) ⊕ Option (List zaf)):=
 if(decide (v1<(a0.length:Int)))then
  (zay a0 v1).bind fun y3=>
  (zfq y3).bind fun v4=>
  (zay v2 v1).bind fun y5=>
  some (.inl ((IntKind.i64.wrap (v1+1)),(v2.set (v1).toNat v4)))
 else
  some (.inr (some v2))
noncomputable def zb0 (a0:List zaf):Option (List zaf):=
 req (0≤(a0.length:Int)∧(a0.length:Int)*72≤140737488355328∧(a0.length:Int)≤140737488355328)<|
 zal (fun s:Int × List zaf=>zcF a0 s.1 s.2) (0,(List.replicate ((a0.length:Int)).toNat (⟨0,0,(⟨0,(⟨[]⟩:zdG),(⟨[]⟩:zdG)⟩:zaz)⟩:zaf)))
noncomputable def zcq (a1:List zaf) (a2:Bool) (v1:List Bool) (v2:Int) (v3:List UInt8) (v4:List zab) (v5:List Int) (v6:List zaa):Option ((List Bool × Int × List UInt8 × List zab × List Int × List zaa) ⊕ Option (zag × List Bool)):=
 if(decide (v2<(a1.length:Int)))then
  (zay a1 v2).bind fun y7=>
  (zfE (⟨v3,v4,v5,v6⟩:zag) y7).bind fun v8=>
  if a2 then
   if(y7.fStep==0)then
    if(v8&&true)then
     (zfd (⟨v3,v4,v5,v6⟩:zag) y7).bind fun v9=>
     req ((((v1).length:Int)+(([v9.2]:List Bool).length:Int))*1≤140737488355328∧((v1).length:Int)+(([v9.2]:List Bool).length:Int)≤140737488355328)<|
     some (.inl ((v1++ [v9.2]),(IntKind.i64.wrap (v2+1)),v9.1.fName,v9.1.fWays,v9.1.fAt,v9.1.fStore))
    else
     req ((((v1).length:Int)+(([(v8&&true)]:List Bool).length:Int))*1≤140737488355328∧((v1).length:Int)+(([(v8&&true)]:List Bool).length:Int)≤140737488355328)<|
     some (.inl ((v1++ [(v8&&true)]),(IntKind.i64.wrap (v2+1)),v3,v4,v5,v6))
   else
    if v8 then
     (ziO (⟨v3,v4,v5,v6⟩:zag) y7).bind fun v10=>
     if v10 then
      (zfd (⟨v3,v4,v5,v6⟩:zag) y7).bind fun v11=>
      req ((((v1).length:Int)+(([v11.2]:List Bool).length:Int))*1≤140737488355328∧((v1).length:Int)+(([v11.2]:List Bool).length:Int)≤140737488355328)<|
      some (.inl ((v1++ [v11.2]),(IntKind.i64.wrap (v2+1)),v11.1.fName,v11.1.fWays,v11.1.fAt,v11.1.fStore))
     else
      req ((((v1).length:Int)+(([v10]:List Bool).length:Int))*1≤140737488355328∧((v1).length:Int)+(([v10]:List Bool).length:Int)≤140737488355328)<|
      some (.inl ((v1++ [v10]),(IntKind.i64.wrap (v2+1)),v3,v4,v5,v6))
    else
     req ((((v1).length:Int)+(([false]:List Bool).length:Int))*1≤140737488355328∧((v1).length:Int)+(([false]:List Bool).length:Int)≤140737488355328)<|
     some (.inl ((v1++ [false]),(IntKind.i64.wrap (v2+1)),v3,v4,v5,v6))
  else
   if(v8&&true)then
    (zfd (⟨v3,v4,v5,v6⟩:zag) y7).bind fun v12=>
    req ((((v1).length:Int)+(([v12.2]:List Bool).length:Int))*1≤140737488355328∧((v1).length:Int)+(([v12.2]:List Bool).length:Int)≤140737488355328)<|
    some (.inl ((v1++ [v12.2]),(IntKind.i64.wrap (v2+1)),v12.1.fName,v12.1.fWays,v12.1.fAt,v12.1.fStore))
   else
    req ((((v1).length:Int)+(([(v8&&true)]:List Bool).length:Int))*1≤140737488355328∧((v1).length:Int)+(([(v8&&true)]:List Bool).length:Int)≤140737488355328)<|
    some (.inl ((v1++ [(v8&&true)]),(IntKind.i64.wrap (v2+1)),v3,v4,v5,v6))
 else
  some (.inr (some ((⟨v3,v4,v5,v6⟩:zag),v1)))
noncomputable def zjz (a0:zag) (a1:List zaf) (a2:Bool):Option (zag × List Bool):=
 zal (fun s:List Bool × Int × List UInt8 × List zab × List Int × List zaa=>zcq a1 a2 s.1 s.2.1 s.2.2.1 s.2.2.2.1 s.2.2.2.2.1 s.2.2.2.2.2) ([],0,a0.fName,a0.fWays,a0.fAt,a0.fStore)
noncomputable def zfL (a0:zag) (a1:List zaf) (a2:Bool):Option (zag × List Bool × Bool):=
 (zfV a0).bind fun v1=>
 if((!v1)||(decide ((a1.length:Int)>20)))then
  some ((⟨([]:List UInt8), [], [], []⟩:zag), [],false)
 else
  (zgH a0).bind fun v2=>
  (zjz v2 a1 a2).bind fun v3=>
  some (v3.1,v3.2,true)
noncomputable def zbG (a1:List zaf) (a2:Bool) (v3:Int) (v4:List UInt8) (v5:List zab) (v6:List Int) (v7:List zaa) (v8:List Bool):Option ((Int × List UInt8 × List zab × List Int × List zaa × List Bool) ⊕ Option (zag × List Bool × Bool)):=
 if(decide (v3<(a1.length:Int)))then
  (zay a1 v3).bind fun y9=>
  (zbA (⟨v4,v5,v6,v7⟩:zag) y9).bind fun v10=>
  if a2 then
   if(y9.fStep !=0)then
    if v10 then
     (zeZ (⟨v4,v5,v6,v7⟩:zag) y9).bind fun v11=>
     if(!(!v11))then
      (zbF (⟨v4,v5,v6,v7⟩:zag) y9).bind fun v12=>
      req ((((v8).length:Int)+(([v12.2]:List Bool).length:Int))*1≤140737488355328∧((v8).length:Int)+(([v12.2]:List Bool).length:Int)≤140737488355328)<|
      some (.inl ((IntKind.i64.wrap (v3+1)),v12.1.fName,v12.1.fWays,v12.1.fAt,v12.1.fStore,(v8++ [v12.2])))
     else
      req ((((v8).length:Int)+(([false]:List Bool).length:Int))*1≤140737488355328∧((v8).length:Int)+(([false]:List Bool).length:Int)≤140737488355328)<|
      some (.inl ((IntKind.i64.wrap (v3+1)),v4,v5,v6,v7,(v8++ [false])))
    else
     req ((((v8).length:Int)+(([false]:List Bool).length:Int))*1≤140737488355328∧((v8).length:Int)+(([false]:List Bool).length:Int)≤140737488355328)<|
     some (.inl ((IntKind.i64.wrap (v3+1)),v4,v5,v6,v7,(v8++ [false])))
   else
    if(v10&&true)then
     (zbF (⟨v4,v5,v6,v7⟩:zag) y9).bind fun v13=>
     req ((((v8).length:Int)+(([v13.2]:List Bool).length:Int))*1≤140737488355328∧((v8).length:Int)+(([v13.2]:List Bool).length:Int)≤140737488355328)<|
     some (.inl ((IntKind.i64.wrap (v3+1)),v13.1.fName,v13.1.fWays,v13.1.fAt,v13.1.fStore,(v8++ [v13.2])))
    else
     req ((((v8).length:Int)+(([false]:List Bool).length:Int))*1≤140737488355328∧((v8).length:Int)+(([false]:List Bool).length:Int)≤140737488355328)<|
     some (.inl ((IntKind.i64.wrap (v3+1)),v4,v5,v6,v7,(v8++ [false])))
  else
   if(v10&&true)then
    (zbF (⟨v4,v5,v6,v7⟩:zag) y9).bind fun v14=>
    req ((((v8).length:Int)+(([v14.2]:List Bool).length:Int))*1≤140737488355328∧((v8).length:Int)+(([v14.2]:List Bool).length:Int)≤140737488355328)<|
    some (.inl ((IntKind.i64.wrap (v3+1)),v14.1.fName,v14.1.fWays,v14.1.fAt,v14.1.fStore,(v8++ [v14.2])))
   else
    req ((((v8).length:Int)+(([false]:List Bool).length:Int))*1≤140737488355328∧((v8).length:Int)+(([false]:List Bool).length:Int)≤140737488355328)<|
    some (.inl ((IntKind.i64.wrap (v3+1)),v4,v5,v6,v7,(v8++ [false])))
 else
  some (.inr (some ((⟨v4,v5,v6,v7⟩:zag),v8,true)))
noncomputable def zeK (a0:zag) (a1:List zaf) (a2:Bool):Option (zag × List Bool × Bool):=
 (zfR a0).bind fun v1=>
 if((!v1)||(decide ((a1.length:Int)>20)))then
  some ((⟨([]:List UInt8), [], [], []⟩:zag), [],false)
 else
  (zeB a0).bind fun v2=>
  zal (fun s:Int × List UInt8 × List zab × List Int × List zaa × List Bool=>zbG a1 a2 s.1 s.2.1 s.2.2.1 s.2.2.2.1 s.2.2.2.2.1 s.2.2.2.2.2) (0,v2.fName,v2.fWays,v2.fAt,v2.fStore, [])
noncomputable def zdh (a0:List (List UInt8)) (a1:List (List UInt8)) (v1:Int):Option ((Int) ⊕ Option (Bool)):=
 if(decide (v1<(a0.length:Int)))then
  (zay a0 v1).bind fun y2=>
  (zay a1 v1).bind fun y3=>
  if(y2 !=y3)then
   some (.inr (some false))
  else
   some (.inl (IntKind.i64.wrap (v1+1)))
 else
  some (.inr (some true))
noncomputable def zeE (a0:List (List UInt8)) (a1:List (List UInt8)):Option (Bool):=
 if((a0.length:Int) !=(a1.length:Int))then
  some false
 else
  zal (fun s:Int=>zdh a0 a1 s) 0
noncomputable def zjo (a0:zbB) (a1:zbB):Option (Bool):=
 if(a0.fName !=a1.fName)then
  some false
 else
  if(a0.fCol !=a1.fCol)then
   some false
  else
   if(a0.fStage !=a1.fStage)then
    some false
   else
    some true
noncomputable def zeC (a0:List zbB) (a1:List zbB) (v1:Int):Option ((Int) ⊕ Option (Bool)):=
 if(decide (v1<(a0.length:Int)))then
  (zay a0 v1).bind fun y2=>
  (zay a1 v1).bind fun y3=>
  (zjo y2 y3).bind fun v4=>
  if(!v4)then
   some (.inr (some false))
  else
   some (.inl (IntKind.i64.wrap (v1+1)))
 else
  some (.inr (some true))
noncomputable def ziK (a0:List zbB) (a1:List zbB):Option (Bool):=
 if((a0.length:Int) !=(a1.length:Int))then
  some false
 else
  zal (fun s:Int=>zeC a0 a1 s) 0
noncomputable def zhG (a0:zab) (a1:zab):Option (Bool):=
 if(a0.fName !=a1.fName)then
  some false
 else
  (zeE a0.fCols a1.fCols).bind fun v1=>
  if(!v1)then
   some false
  else
   (ziK a0.fIdxs a1.fIdxs).bind fun v2=>
   if(!v2)then
    some false
   else
    some true
noncomputable def zdN (a0:List zab) (a1:List zab) (v1:Int):Option ((Int) ⊕ Option (Bool)):=
 if(decide (v1<(a0.length:Int)))then
  (zay a0 v1).bind fun y2=>
  (zay a1 v1).bind fun y3=>
  (zhG y2 y3).bind fun v4=>
  if(!v4)then
   some (.inr (some false))
  else
   some (.inl (IntKind.i64.wrap (v1+1)))
 else
  some (.inr (some true))
noncomputable def zgb (a0:List zab) (a1:List zab):Option (Bool):=
 if((a0.length:Int) !=(a1.length:Int))then
  some false
 else
  zal (fun s:Int=>zdN a0 a1 s) 0
noncomputable def zeM (a0:List Int) (a1:List Int) (v1:Int):Option ((Int) ⊕ Option (Bool)):=
 if(decide (v1<(a0.length:Int)))then
  (zay a0 v1).bind fun y2=>
  (zay a1 v1).bind fun y3=>
  if(y2 !=y3)then
   some (.inr (some false))
  else
   some (.inl (IntKind.i64.wrap (v1+1)))
 else
  some (.inr (some true))
noncomputable def ziy (a0:List Int) (a1:List Int):Option (Bool):=
 if((a0.length:Int) !=(a1.length:Int))then
  some false
 else
  zal (fun s:Int=>zeM a0 a1 s) 0
noncomputable def zhy (a0:zaa) (a1:zaa):Option (Bool):=
 if(a0.fKey !=a1.fKey)then
  some false
 else
  if(a0.fVal !=a1.fVal)then
   some false
  else
   if(a0.fGone !=a1.fGone)then
    some false
   else
    some true
noncomputable def zdL (a0:List zaa) (a1:List zaa) (v1:Int):Option ((Int) ⊕ Option (Bool)):=
 if(decide (v1<(a0.length:Int)))then
  (zay a0 v1).bind fun y2=>
  (zay a1 v1).bind fun y3=>
  (zhy y2 y3).bind fun v4=>
  if(!v4)then
   some (.inr (some false))
  else
   some (.inl (IntKind.i64.wrap (v1+1)))
 else
  some (.inr (some true))
noncomputable def zgM (a0:List zaa) (a1:List zaa):Option (Bool):=
 if((a0.length:Int) !=(a1.length:Int))then
  some false
 else
  zal (fun s:Int=>zdL a0 a1 s) 0
noncomputable def zdU (a0:zag) (a1:zag):Option (Bool):=
 if(a0.fName !=a1.fName)then
  some false
 else
  (zgb a0.fWays a1.fWays).bind fun v1=>
  if(!v1)then
   some false
  else
   (ziy a0.fAt a1.fAt).bind fun v2=>
   if(!v2)then
    some false
   else
    (zgM a0.fStore a1.fStore).bind fun v3=>
    if(!v3)then
     some false
    else
     some true
noncomputable def zd5 (a0:List Bool) (a1:List Bool) (v1:Int):Option ((Int) ⊕ Option (Bool)):=
 if(decide (v1<(a0.length:Int)))then
  (zay a0 v1).bind fun y2=>
  (zay a1 v1).bind fun y3=>
  if(y2 !=y3)then
   some (.inr (some false))
  else
   some (.inl (IntKind.i64.wrap (v1+1)))
 else
  some (.inr (some true))
noncomputable def zeO (a0:List Bool) (a1:List Bool):Option (Bool):=
 if((a0.length:Int) !=(a1.length:Int))then
  some false
 else
  zal (fun s:Int=>zd5 a0 a1 s) 0
noncomputable def zh5 (a0:zdG) (a1:zdG):Option (Bool):=
 (zeE a0.fVals a1.fVals).bind fun v1=>
 if(!v1)then
  some false
 else
  some true
noncomputable def zga (a0:zaz) (a1:zaz):Option (Bool):=
 if(a0.fKind !=a1.fKind)then
  some false
 else
  (zh5 a0.fOld a1.fOld).bind fun v1=>
  if(!v1)then
   some false
  else
   (zh5 a0.fNew a1.fNew).bind fun v2=>
   if(!v2)then
    some false
   else
    some true
noncomputable def zfj (a0:zaf) (a1:zaf):Option (Bool):=
 if(a0.fServer !=a1.fServer)then
  some false
 else
  if(a0.fStep !=a1.fStep)then
   some false
  else
   (zga a0.fAct a1.fAct).bind fun v1=>
   if(!v1)then
    some false
   else
    some true
noncomputable def zcy (a0:List zaf) (a1:List zaf) (v1:Int):Option ((Int) ⊕ Option (Bool)):=
 if(decide (v1<(a0.length:Int)))then
  (zay a0 v1).bind fun y2=>
  (zay a1 v1).bind fun y3=>
  (zfj y2 y3).bind fun v4=>
  if(!v4)then
   some (.inr (some false))
  else
   some (.inl (IntKind.i64.wrap (v1+1)))
 else
  some (.inr (some true))
noncomputable def zeW (a0:List zaf) (a1:List zaf):Option (Bool):=
 if((a0.length:Int) !=(a1.length:Int))then
  some false
 else
  zal (fun s:Int=>zcy a0 a1 s) 0
noncomputable def zjn (v1:List UInt8):Option (List UInt8):=
 req ((([109]:List UInt8)).length+(v1).length≤9223372036854775807)<|
 some ((([109]:List UInt8):List UInt8)++v1)
noncomputable def zbs (v2:Int) (v3:List UInt8):Option ((Int × List UInt8) ⊕ Option (List UInt8)):=
 if(decide (v2>0))then
  req (([(IntKind.u8.wrap (IntKind.i64.wrap ((48:Int)+(Int.tmod v2 10))))]:List Int).length≤9223372036854775807)<|
  req ((([(IntKind.u8.wrap (IntKind.i64.wrap ((48:Int)+(Int.tmod v2 10))))].map fun n=>UInt8.ofNat n.toNat)).length+(v3).length≤9223372036854775807)<|
  some (.inl ((IntKind.i64.wrap (Int.tdiv v2 10)),(([(IntKind.u8.wrap (IntKind.i64.wrap ((48:Int)+(Int.tmod v2 10))))].map fun n=>UInt8.ofNat n.toNat)++v3)))
 else
  some (.inr (zjn v3))
noncomputable def zaE (a0:Int):Option (List UInt8):=
 if(decide (a0≤0))then
  some ([109,48]:List UInt8)
 else
  zal (fun s:Int × List UInt8=>zbs s.1 s.2) (a0,([]:List UInt8))
noncomputable def zbL (v1:Int) (v2:Int) (v3:List (List UInt8)):Option ((Int × Int × List (List UInt8)) ⊕ Option (Int × List (List UInt8))):=
 if(decide (v2<(v3.length:Int)))then
  (zaE v1).bind fun v4=>
  (zay v3 v2).bind fun y5=>
  some (.inl ((IntKind.i64.wrap (v1+1)),(IntKind.i64.wrap (v2+1)),(v3.set (v2).toNat v4)))
 else
  some (.inr (some (v1,v3)))
noncomputable def zdC (a0:List (List UInt8)) (a1:Int):Option (Int × List (List UInt8)):=
 zal (fun s:Int × Int × List (List UInt8)=>zbL s.1 s.2.1 s.2.2) (a1,0,a0)
noncomputable def zcL (v1:Int) (v2:Int) (v3:List zbB):Option ((Int × Int × List zbB) ⊕ Option (Int × List zbB)):=
 if(decide (v2<(v3.length:Int)))then
  (zaE v1).bind fun v4=>
  (zay v3 v2).bind fun y5=>
  some (.inl ((IntKind.i64.wrap ((IntKind.i64.wrap ((IntKind.i64.wrap (v1+1))+1))+1)),(IntKind.i64.wrap (v2+1)),(((v3.set (v2).toNat {y5 with fName:=v4}).set (v2).toNat {{y5 with fName:=v4}with fCol:=(IntKind.i64.wrap (v1+1))}).set (v2).toNat {{{y5 with fName:=v4}with fCol:=(IntKind.i64.wrap (v1+1))}with fStage:=(IntKind.i64.wrap ((IntKind.i64.wrap (v1+1))+1))})))
 else
  some (.inr (some (v1,v3)))
noncomputable def zi7 (a0:List zbB) (a1:Int):Option (Int × List zbB):=
 zal (fun s:Int × Int × List zbB=>zcL s.1 s.2.1 s.2.2) (a1,0,a0)
noncomputable def zb6 (v1:Int) (v2:Int) (v3:List zab):Option ((Int × Int × List zab) ⊕ Option (Int × List zab)):=
 if(decide (v2<(v3.length:Int)))then
  (zaE v1).bind fun v4=>
  (zay v3 v2).bind fun y5=>
  (zdC ({y5 with fName:=v4}.fCols) (IntKind.i64.wrap (v1+1))).bind fun v6=>
  (zi7 ({{y5 with fName:=v4}with fCols:=v6.2}.fIdxs) v6.1).bind fun v7=>
  some (.inl (v7.1,(IntKind.i64.wrap (v2+1)),(((v3.set (v2).toNat {y5 with fName:=v4}).set (v2).toNat {{y5 with fName:=v4}with fCols:=v6.2}).set (v2).toNat {{{y5 with fName:=v4}with fCols:=v6.2}with fIdxs:=v7.2})))
 else
  some (.inr (some (v1,v3)))
noncomputable def zhk (a0:List zab) (a1:Int):Option (Int × List zab):=
 zal (fun s:Int × Int × List zab=>zb6 s.1 s.2.1 s.2.2) (a1,0,a0)
noncomputable def zcI (v1:Int) (v2:Int) (v3:List Int):Option ((Int × Int × List Int) ⊕ Option (Int × List Int)):=
 if(decide (v2<(v3.length:Int)))then
  (zay v3 v2).bind fun y4=>
  some (.inl ((IntKind.i64.wrap (v1+1)),(IntKind.i64.wrap (v2+1)),(v3.set (v2).toNat v1)))
 else
  some (.inr (some (v1,v3)))
noncomputable def ziX (a0:List Int) (a1:Int):Option (Int × List Int):=
 zal (fun s:Int × Int × List Int=>zcI s.1 s.2.1 s.2.2) (a1,0,a0)
noncomputable def zb3 (v1:Int) (v2:Int) (v3:List zaa):Option ((Int × Int × List zaa) ⊕ Option (Int × List zaa)):=
 if(decide (v2<(v3.length:Int)))then
  (zaE v1).bind fun v4=>
  (zay v3 v2).bind fun y5=>
  (zaE (IntKind.i64.wrap (v1+1))).bind fun v6=>
  some (.inl ((IntKind.i64.wrap ((IntKind.i64.wrap ((IntKind.i64.wrap (v1+1))+1))+1)),(IntKind.i64.wrap (v2+1)),(((v3.set (v2).toNat {y5 with fKey:=v4}).set (v2).toNat {{y5 with fKey:=v4}with fVal:=v6}).set (v2).toNat {{{y5 with fKey:=v4}with fVal:=v6}with fGone:=((Int.tmod (IntKind.i64.wrap ((IntKind.i64.wrap (v1+1))+1)) 3)==0)})))
 else
  some (.inr (some (v1,v3)))
noncomputable def zg8 (a0:List zaa) (a1:Int):Option (Int × List zaa):=
 zal (fun s:Int × Int × List zaa=>zb3 s.1 s.2.1 s.2.2) (a1,0,a0)
noncomputable def zeD (a0:zag) (a1:Int):Option (Int × zag):=
 (zhk a0.fWays a1).bind fun v1=>
 (ziX a0.fAt v1.1).bind fun v2=>
 (zg8 a0.fStore v2.1).bind fun v3=>
 some (v3.1,(⟨a0.fName,v1.2,v2.2,v3.2⟩:zag))
noncomputable def zbl (v1:Int) (v2:Int) (v3:List zaf):Option ((Int × Int × List zaf) ⊕ Option (Int × List zaf)):=
 if(decide (v2<(v3.length:Int)))then
  (zay v3 v2).bind fun y4=>
  (zdC ({{{y4 with fServer:=v1}with fStep:=(IntKind.i64.wrap (v1+1))}with fAct.fKind:=(IntKind.i64.wrap ((IntKind.i64.wrap (v1+1))+1))}.fAct.fOld.fVals) (IntKind.i64.wrap ((IntKind.i64.wrap ((IntKind.i64.wrap (v1+1))+1))+1))).bind fun v5=>
  (zdC ({{{{y4 with fServer:=v1}with fStep:=(IntKind.i64.wrap (v1+1))}with fAct.fKind:=(IntKind.i64.wrap ((IntKind.i64.wrap (v1+1))+1))}with fAct.fOld.fVals:=v5.2}.fAct.fNew.fVals) v5.1).bind fun v6=>
  some (.inl (v6.1,(IntKind.i64.wrap (v2+1)),(((((v3.set (v2).toNat {y4 with fServer:=v1}).set (v2).toNat {{y4 with fServer:=v1}with fStep:=(IntKind.i64.wrap (v1+1))}).set (v2).toNat {{{y4 with fServer:=v1}with fStep:=(IntKind.i64.wrap (v1+1))}with fAct.fKind:=(IntKind.i64.wrap ((IntKind.i64.wrap (v1+1))+1))}).set (v2).toNat {{{{y4 with fServer:=v1}with fStep:=(IntKind.i64.wrap (v1+1))}with fAct.fKind:=(IntKind.i64.wrap ((IntKind.i64.wrap (v1+1))+1))}with fAct.fOld.fVals:=v5.2}).set (v2).toNat {{{{{y4 with fServer:=v1}with fStep:=(IntKind.i64.wrap (v1+1))}with fAct.fKind:=(IntKind.i64.wrap ((IntKind.i64.wrap (v1+1))+1))}with fAct.fOld.fVals:=v5.2}with fAct.fNew.fVals:=v6.2})))
 else
  some (.inr (some (v1,v3)))
noncomputable def zft (a0:List zaf) (a1:Int):Option (Int × List zaf):=
 zal (fun s:Int × Int × List zaf=>zbl s.1 s.2.1 s.2.2) (a1,0,a0)
noncomputable def zcj (v1:Int) (v2:Int) (v3:List Bool):Option ((Int × Int × List Bool) ⊕ Option (Int × List Bool)):=
 if(decide (v2<(v3.length:Int)))then
  (zay v3 v2).bind fun y4=>
  some (.inl ((IntKind.i64.wrap (v1+1)),(IntKind.i64.wrap (v2+1)),(v3.set (v2).toNat ((Int.tmod v1 3)==0))))
 else
  some (.inr (some (v1,v3)))
noncomputable def zh9 (a0:List Bool) (a1:Int):Option (Int × List Bool):=
 zal (fun s:Int × Int × List Bool=>zcj s.1 s.2.1 s.2.2) (a1,0,a0)
noncomputable def zbQ (a0:List (List UInt8)) (v1:Int) (v2:Int):Option ((Int × Int) ⊕ Option (Int)):=
 if(decide (v2<(a0.length:Int)))then
  (zay a0 v2).bind fun y3=>
  (zaE v1).bind fun v4=>
  if(y3 !=v4)then
   some (.inr (some (-1)))
  else
   some (.inl ((IntKind.i64.wrap (v1+1)),(IntKind.i64.wrap (v2+1))))
 else
  some (.inr (some v1))
noncomputable def zgA (a0:List (List UInt8)) (a1:Int):Option (Int):=
 zal (fun s:Int × Int=>zbQ a0 s.1 s.2) (a1,0)
noncomputable def zcO (a0:List zbB) (v1:Int) (v2:Int):Option ((Int × Int) ⊕ Option (Int)):=
 if(decide (v2<(a0.length:Int)))then
  (zay a0 v2).bind fun y3=>
  (zaE v1).bind fun v4=>
  if(y3.fName !=v4)then
   some (.inr (some (-1)))
  else
   if(y3.fCol !=(IntKind.i64.wrap (v1+1)))then
    some (.inr (some (-1)))
   else
    if(y3.fStage !=(IntKind.i64.wrap ((IntKind.i64.wrap (v1+1))+1)))then
     some (.inr (some (-1)))
    else
     some (.inl ((IntKind.i64.wrap ((IntKind.i64.wrap ((IntKind.i64.wrap (v1+1))+1))+1)),(IntKind.i64.wrap (v2+1))))
 else
  some (.inr (some v1))
noncomputable def zjf (a0:List zbB) (a1:Int):Option (Int):=
 zal (fun s:Int × Int=>zcO a0 s.1 s.2) (a1,0)
noncomputable def zb5 (a0:List zab) (v1:Int) (v2:Int):Option ((Int × Int) ⊕ Option (Int)):=
 if(decide (v2<(a0.length:Int)))then
  (zay a0 v2).bind fun y3=>
  (zaE v1).bind fun v4=>
  if(y3.fName !=v4)then
   some (.inr (some (-1)))
  else
   (zgA y3.fCols (IntKind.i64.wrap (v1+1))).bind fun v5=>
   if(decide (v5<0))then
    some (.inr (some (-1)))
   else
    (zjf y3.fIdxs v5).bind fun v6=>
    if(decide (v6<0))then
     some (.inr (some (-1)))
    else
     some (.inl (v6,(IntKind.i64.wrap (v2+1))))
 else
  some (.inr (some v1))
noncomputable def zg3 (a0:List zab) (a1:Int):Option (Int):=
 zal (fun s:Int × Int=>zb5 a0 s.1 s.2) (a1,0)
noncomputable def zcR (a0:List Int) (v1:Int) (v2:Int):Option ((Int × Int) ⊕ Option (Int)):=
 if(decide (v2<(a0.length:Int)))then
  (zay a0 v2).bind fun y3=>
  if(y3 !=v1)then
   some (.inr (some (-1)))
  else
   some (.inl ((IntKind.i64.wrap (v1+1)),(IntKind.i64.wrap (v2+1))))
 else
  some (.inr (some v1))
noncomputable def zje (a0:List Int) (a1:Int):Option (Int):=
 zal (fun s:Int × Int=>zcR a0 s.1 s.2) (a1,0)
noncomputable def zb4 (a0:List zaa) (v1:Int) (v2:Int):Option ((Int × Int) ⊕ Option (Int)):=
 if(decide (v2<(a0.length:Int)))then
  (zay a0 v2).bind fun y3=>
  (zaE v1).bind fun v4=>
  if(y3.fKey !=v4)then
   some (.inr (some (-1)))
  else
   (zaE (IntKind.i64.wrap (v1+1))).bind fun v5=>
   if(y3.fVal !=v5)then
    some (.inr (some (-1)))
   else
    if(y3.fGone !=((Int.tmod (IntKind.i64.wrap ((IntKind.i64.wrap (v1+1))+1)) 3)==0))then
     some (.inr (some (-1)))
    else
     some (.inl ((IntKind.i64.wrap ((IntKind.i64.wrap ((IntKind.i64.wrap (v1+1))+1))+1)),(IntKind.i64.wrap (v2+1))))
 else
  some (.inr (some v1))
noncomputable def zhl (a0:List zaa) (a1:Int):Option (Int):=
 zal (fun s:Int × Int=>zb4 a0 s.1 s.2) (a1,0)
noncomputable def zeH (a0:zag) (a1:Int):Option (Int):=
 (zg3 a0.fWays a1).bind fun v1=>
 if(decide (v1<0))then
  some (-1)
 else
  (zje a0.fAt v1).bind fun v2=>
  if(decide (v2<0))then
   some (-1)
  else
   (zhl a0.fStore v2).bind fun v3=>
   if(decide (v3<0))then
    some (-1)
   else
    some v3
noncomputable def zcl (a0:List Bool) (v1:Int) (v2:Int):Option ((Int × Int) ⊕ Option (Int)):=
 if(decide (v2<(a0.length:Int)))then
  (zay a0 v2).bind fun y3=>
  if(y3 !=((Int.tmod v1 3)==0))then
   some (.inr (some (-1)))
  else
   some (.inl ((IntKind.i64.wrap (v1+1)),(IntKind.i64.wrap (v2+1))))
 else
  some (.inr (some v1))
noncomputable def zfO (a0:List Bool) (a1:Int):Option (Int):=
 zal (fun s:Int × Int=>zcl a0 s.1 s.2) (a1,0)
noncomputable def zc0 (a0:zag) (a1:List zaf) (a2:Bool):Option (Bool):=
 (zhJ a0 1048576).bind fun v1=>
 if(decide (v1<0))then
  some true
 else
  (zeY a1 v1).bind fun v2=>
  if(decide (v2<0))then
   some true
  else
   (zdO a0).bind fun v3=>
   (zb0 a1).bind fun v4=>
   (zfL v3 v4 a2).bind fun v5=>
   (zdO a0).bind fun v6=>
   (zb0 a1).bind fun v7=>
   (zeK v6 v7 a2).bind fun v8=>
   (zdU v8.1 v5.1).bind fun v9=>
   if v9 then
    (zeO v8.2.1 v5.2.1).bind fun v10=>
    if((!v10)||(v8.2.2 !=v5.2.2))then
     some false
    else
     (zdO a0).bind fun v11=>
     (zdU v6 v11).bind fun v12=>
     if(!v12)then
      some false
     else
      (zb0 a1).bind fun v13=>
      (zeW v7 v13).bind fun v14=>
      if(!v14)then
       some false
      else
       (zeD v6 1).bind fun v15=>
       (zft v7 v15.1).bind fun v16=>
       if(decide (v16.1<0))then
        some false
       else
        (zdU v8.1 v5.1).bind fun v17=>
        if v17 then
         (zeO v8.2.1 v5.2.1).bind fun v18=>
         if((!v18)||(v8.2.2 !=v5.2.2))then
          some false
         else
          (zeD v8.1 1).bind fun v19=>
          (zh9 v8.2.1 v19.1).bind fun v20=>
          (zeH (⟨v8.1.fName,v19.2.fWays,v19.2.fAt,v19.2.fStore⟩:zag) 1).bind fun v21=>
          if(decide (v21<0))then
           some false
          else
           (zfO v20.2 v21).bind fun v22=>
           if(decide (v22<0))then
            some false
           else
            if(v22 !=v20.1)then
             some false
            else
             (zdO a0).bind fun v23=>
             (zb0 a1).bind fun v24=>
             (zeK v23 v24 a2).bind fun v25=>
             (zdU v25.1 v5.1).bind fun v26=>
             if v26 then
              (zeO v25.2.1 v5.2.1).bind fun v27=>
              if((!v27)||(v25.2.2 !=v5.2.2))then
               some false
              else
               (zeH (⟨v8.1.fName,v19.2.fWays,v19.2.fAt,v19.2.fStore⟩:zag) 1).bind fun v28=>
               if(decide (v28<0))then
                some false
               else
                (zfO v20.2 v28).bind fun v29=>
                if(decide (v29<0))then
                 some false
                else
                 if(v29 !=v20.1)then
                  some false
                 else
                  some true
             else
              some false
        else
         some false
   else
    some false
end Go.Proofs.YtgobcjbjogkpjaaGreatDoor
end
section
namespace Go.Proofs.YtgobcjbjogkpjaaGreatDoor
open Go.RowKit
theorem zac {α:Type} {xs:List α} {i:Nat} (h:i<xs.length):zay xs (i:Int)=some xs[i]:=by simp [zay,h]
theorem zoo {α:Type} {xs:List α} {i:Int} (h0:0≤i) (h:i<xs.length): ∃x,zay xs i=some x∧x∈xs∧xs[i.toNat]?=some x:=by
 have hi:i.toNat<xs.length:=by omega
 exact⟨xs[i.toNat],by simp [zay,h0,hi],List.getElem_mem hi,by simp [hi]⟩
theorem zBO {α:Type} {xs:List α} {i:Int} {x:α} (h:zay xs i=some x):x∈xs:=by
 obtain⟨h1,h2,h3⟩:=zB6 h
 exact List.mem_of_getElem? h3
theorem zaN {q n:Nat} (h:q<n) (hn:n≤9223372036854775807):IntKind.i64.wrap ((q:Int)+1)=((q+1:Nat):Int):=by rw [zaC (by omega) (by omega)];simp
theorem zad {α:Type} {p:Prop} {k:Option α} (h:p):req p k=k:=by simp [req,h]
def goL {α σ β:Type} (step:α→σ→Option (σ ⊕ Option β)) (fin:σ→Option β):List α→σ→Option β
 | [],s=>fin s
 |x::xs,s=>match step x s with
  |none=>none
  |some (.inl s')=>goL step fin xs s'
  |some (.inr o)=>o
def ztT {σ τ β:Type} (f:σ→τ):Option (σ ⊕ Option β)→Option (τ ⊕ Option β)
 |none=>none
 |some (.inl s)=>some (.inl (f s))
 |some (.inr o)=>some (.inr o)
theorem zzd {α σ τ β:Type} {xs:List α} {body:τ→Option (τ ⊕ Option β)} (emb:Int→σ→τ) (step:α→σ→Option (σ ⊕ Option β)) (fin:σ→Option β) (q0:Nat)
  (hs: ∀(i:Nat) (hi:i<xs.length) (s:σ),q0≤i→body (emb i s)=ztT (emb ((i+1:Nat):Int)) (step xs[i] s)) (he: ∀s,body (emb xs.length s)=some (.inr (fin s))) (s:σ) (h0:q0≤xs.length):zal body (emb q0 s)=goL step fin (xs.drop q0) s:=by
 have key: ∀(n q:Nat) (s:σ),q0≤q→q+n=xs.length→zal body (emb q s)=goL step fin (xs.drop q) s:=by
  intro n
  induction n with
  |zero=>
   intro q s _ hq
   have:q=xs.length:=by omega
   subst this
   rw [zbc,he s]
   simp [goL]
  |succ n ih=>
   intro q s h0 hq
   have hlt:q<xs.length:=by omega
   rw [zbc,hs q hlt s h0,List.drop_eq_getElem_cons hlt]
   rcases hst:step xs[q] s with _|s'|o
   ·simp [goL,hst,ztT]
   ·simp only [goL,hst,ztT];exact ih (q+1) s' (by omega) (by omega)
   ·simp [goL,hst,ztT]
 exact key (xs.length-q0) q0 s (Nat.le_refl _) (by omega)
theorem znx {α σ τ β:Type} {xs:List α} {body:τ→Option (τ ⊕ Option β)} (emb:Int→σ→τ) (step:α→σ→Option (σ ⊕ Option β)) (fin:σ→Option β)
  (hs: ∀(i:Nat) (hi:i<xs.length) (s:σ),body (emb i s)=ztT (emb ((i+1:Nat):Int)) (step xs[i] s)) (he: ∀s,body (emb xs.length s)=some (.inr (fin s))) (s:σ):zal body (emb 0 s)=goL step fin xs s:=by
 have:=zzd emb step fin 0 (fun i hi s _=>hs i hi s) he s (by omega)
 simpa using this
theorem zvD {α σ β:Type} {step:α→σ→Option (σ ⊕ Option β)} {fin:σ→Option β} {xs:List α} (p:α→Bool) (b:β) (h: ∀x∈xs,∀s,step x s=some (if p x=true then .inl s else .inr (some b))) (s:σ):goL step fin xs s=if xs.all p=true then fin s else some b:=by
 induction xs with
 |nil=>simp [goL]
 |cons x xs ih=>
  simp only [goL,h x (by simp) s]
  cases hp:p x with
  |true=>simp [hp,ih fun y hy=>h y (by simp [hy])]
  |false=>simp [hp]
theorem zAB {α σ β:Type} {step:α→σ→Option (σ ⊕ Option β)} {fin:σ→Option β} {xs:List α} (f:σ→α→σ) (I:σ→Prop) (hI: ∀x∈xs,∀s,I s→I (f s x)) (h: ∀x∈xs,∀s,I s→step x s=some (.inl (f s x))) {s:σ} (hs:I s):goL step fin xs s=fin (xs.foldl f s):=by
 induction xs generalizing s with
 |nil=>simp [goL]
 |cons x xs ih=>
  simp only [goL,h x (by simp) s hs,List.foldl_cons]
  exact ih (fun y hy=>hI y (by simp [hy])) (fun y hy=>h y (by simp [hy])) (hI x (by simp) s hs)
theorem zbN {α σ τ β:Type} {xs:List α} {body:τ→Option (τ ⊕ Option β)} (emb:Int→σ→τ) (f:σ→α→σ) (fin:σ→Option β) (I:Nat→σ→Prop)
  (hs: ∀(i:Nat) (hi:i<xs.length) (s:σ),I i s→body (emb i s)=some (.inl (emb ((i+1:Nat):Int) (f s xs[i])))∧I (i+1) (f s xs[i])) (he: ∀s,I xs.length s→body (emb xs.length s)=some (.inr (fin s))) {s:σ} (h0:I 0 s):zal body (emb 0 s)=fin (xs.foldl f s)∧I xs.length (xs.foldl f s):=by
 have key: ∀(n q:Nat) (s:σ),q+n=xs.length→I q s→zal body (emb q s)=fin ((xs.drop q).foldl f s)∧I xs.length ((xs.drop q).foldl f s):=by
  intro n
  induction n with
  |zero=>
   intro q s hq hI
   have:q=xs.length:=by omega
   subst this
   rw [zbc,he s hI]
   simp [hI]
  |succ n ih=>
   intro q s hq hI
   have hlt:q<xs.length:=by omega
   obtain⟨h1,h2⟩:=hs q hlt s hI
   rw [zbc,h1,List.drop_eq_getElem_cons hlt,List.foldl_cons]
   exact ih (q+1) _ (by omega) h2
 have:=key xs.length 0 s (by omega) h0
 simpa using this
theorem zpQ {α:Type} {xs:List α} {p:α→Option Bool} (q:α→Bool) (hp: ∀x∈xs,p x=some (q x)) (hn:xs.length≤9223372036854775806):zaQ xs p=some (xs.any q):=by
 have key: ∀(l:List α) (i:Int),0≤i→(∀x∈l,p x=some (q x))→ ∃r,zri p l i=some r∧decide (r≥0)=l.any q:=by
  intro l
  induction l with
  |nil=>intro i _ _;exact⟨-1,rfl,by simp⟩
  |cons x l ih=>
   intro i hi h
   simp only [zri,h x (by simp),Option.bind_some]
   cases hq:q x with
   |true=>exact⟨i,by simp,by simp [hq,hi]⟩
   |false=>
    obtain⟨r,h1,h2⟩:=ih (i+1) (by omega) fun y hy=>h y (by simp [hy])
    exact⟨r,by simp [h1],by simp [hq,h2]⟩
 obtain⟨r,h1,h2⟩:=key xs 0 (by omega) hp
 simp [zaQ,zbg,zad hn,h1,h2]
theorem zlX {α:Type} {b:Nat} {xs:List α} (h:(xs.length:Int)*b≤140737488355328) (h2:(xs.length:Int)≤140737488355328):zol b xs=some xs:=zad ⟨h,h2⟩
theorem zhX {β:Type} {n:Nat} {body:Int→Option (Int ⊕ Option β)} (p:Nat→Bool) (b:β) (fin:Option β)
  (hs: ∀i:Nat,i<n→body i=some (if p i=true then .inl ((i+1:Nat):Int)else .inr (some b))) (he:body n=some (.inr fin)):zal body 0=if(List.range n).all p=true then fin else some b:=by
 have h1:=znx (xs:=List.range n) (body:=body) (fun i (_:Unit)=>i) (fun i _=>some (if p i=true then .inl ()else .inr (some b))) (fun _=>fin)
  (fun i hi s=>by
   rw [List.length_range]at hi
   rw [hs i hi,List.getElem_range]
   cases p i<;>simp [ztT]) (fun s=>by simpa using he) ()
 rw [zvD p b fun x _ s=>rfl]at h1
 exact h1
def zig {α:Type} (p:α→Bool) (l:List α):Int:=match l.findIdx? p with|some i=>(i:Int)|none=> -1
theorem zpr {α:Type} (p:α→Bool):zig p []= -1:=rfl
theorem znr {α:Type} (p:α→Bool) (x:α) (l:List α):zig p (x::l)=if p x=true then 0 else if zig p l= -1 then-1 else zig p l+1:=by
 unfold zig
 rw [List.findIdx?_cons]
 cases p x with
 |true=>simp
 |false=>
  cases h:l.findIdx? p with
  |none=>simp
  |some i=>simp<;>omega
theorem zpS {α:Type} (p:α→Bool) (l:List α): -1≤zig p l:=by
 unfold zig
 split<;>omega
theorem zlJ {α:Type} (p:α→Bool) (l:List α):decide (zig p l≥0)=l.any p:=by
 induction l with
 |nil=>simp [zpr]
 |cons x l ih=>
  have h1:=zpS p l
  rw [znr,List.any_cons,←ih]
  cases p x with
  |true=>simp
  |false=>
   by_cases h:zig p l= -1
   ·simp [h]
   ·have:zig p l≥0:=by omega
    simp [h,this];try omega
theorem zwy {α:Type} {p:α→Bool} {l:List α} (h:zig p l≥0): ∃x,zay l (zig p l)=some x∧p x=true∧x∈l:=by
 induction l with
 |nil=>simp [zpr]at h
 |cons y l ih=>
  rw [znr]at h ⊢
  cases hy:p y with
  |true=>exact⟨y,by simp [zay],hy,by simp⟩
  |false=>
   have h1:=zpS p l
   by_cases hm:zig p l= -1
   ·rw [hy,hm]at h;simp at h
   ·have h0:zig p l≥0:=by omega
    obtain⟨x,e1,e2,e3⟩:=ih h0
    obtain⟨_,e4,e5⟩:=zB6 e1
    refine⟨x, ?_,e2,by simp [e3]⟩
    simp only [Bool.false_eq_true,if_false,hm]
    unfold zay
    rw [if_pos (by omega),show(zig p l+1).toNat=(zig p l).toNat+1 by omega]
    simpa using e5
theorem zs2 {α:Type} {xs:List α} {body:Int→Option (Int ⊕ Option Int)} (p:α→Bool) (hs: ∀(i:Nat) (hi:i<xs.length),body i=some (if p xs[i]=true then .inr (some (i:Int))else .inl ((i+1:Nat):Int))) (he:body xs.length=some (.inr (some (-1)))):zal body 0=some (zig p xs):=by
 have key: ∀(n q:Nat),q+n=xs.length→zal body q=some (if zig p (xs.drop q)= -1 then-1 else q+zig p (xs.drop q)):=by
  intro n
  induction n with
  |zero=>
   intro q hq
   have:q=xs.length:=by omega
   subst this
   rw [zbc,he]
   simp [zpr]
  |succ n ih=>
   intro q hq
   have hlt:q<xs.length:=by omega
   rw [zbc,hs q hlt,List.drop_eq_getElem_cons hlt,znr]
   cases p xs[q]with
   |true=>simp
   |false=>
    simp only [Bool.false_eq_true,if_false]
    rw [ih (q+1) (by omega)]
    have h1:=zpS p (xs.drop (q+1))
    congr 1
    by_cases hm:zig p (xs.drop (q+1))= -1
    ·simp [hm]
    ·have h2: ¬(zig p (xs.drop (q+1))+1= -1):=by omega
     simp only [hm,if_false,h2]
     omega
 have h:=key xs.length 0 (by omega)
 rw [List.drop_zero]at h
 rw [show((0:Nat):Int)=0 from rfl]at h
 rw [h]
 have h1:=zpS p xs
 by_cases hm:zig p xs= -1
 ·simp [hm]
 ·simp [hm]
theorem zvo {α:Type} {xs:List α} {p:α→Option Bool} (q:α→Bool) (hp: ∀x∈xs,p x=some (q x)) (hn:xs.length≤9223372036854775806):zbg xs p=some (zig q xs):=by
 have key: ∀(l:List α) (i:Int),(∀x∈l,p x=some (q x))→zri p l i=some (if zig q l= -1 then-1 else i+zig q l):=by
  intro l
  induction l with
  |nil=>intro i _;simp [zri,zpr]
  |cons x l ih=>
   intro i h
   simp only [zri,h x (by simp),Option.bind_some,znr]
   cases q x with
   |true=>simp
   |false=>
    simp only [Bool.false_eq_true,if_false]
    rw [ih (i+1) fun y hy=>h y (by simp [hy])]
    have h1:=zpS q l
    congr 1
    by_cases hm:zig q l= -1
    ·simp [hm]
    ·have h2: ¬(zig q l+1= -1):=by omega
     simp only [hm,if_false,h2]
     omega
 unfold zbg
 rw [zad hn,key xs 0 hp]
 by_cases hm:zig q xs= -1
 ·simp [hm]
 ·simp [hm]
theorem zCO {α β:Type} {o:Option α} {x:α} {f:α→Option β} (h:o=some x):o.bind f=f x:=by rw [h];rfl
end Go.Proofs.YtgobcjbjogkpjaaGreatDoor
end
section
namespace Go.Proofs.YtgobcjbjogkpjaaGreatDoor
open Go.RowKit
set_option maxRecDepth 100000
theorem znG {α β:Type} (f:α→β) (l:List α) (o:List β):l.foldl (fun o x=>o++ [f x]) o=o++l.map f:=by
 induction l generalizing o with
 |nil=>simp
 |cons x l ih=>rw [List.foldl_cons,ih];simp
theorem zsw {α:Type} {xs:List α} {d:α} {body:Int × List α→Option ((Int × List α) ⊕ Option (List α))}
  (hs: ∀(i:Nat) (hi:i<xs.length) (v:List α),v.length=xs.length→body ((i:Int),v)=some (.inl (((i+1:Nat):Int),v.set i xs[i])))
  (he: ∀v,body ((xs.length:Int),v)=some (.inr (some v))):zal body (0,List.replicate xs.length d)=some xs:=by
 have h1:=zbN (xs:=xs) (body:=body) (fun i (o:List α)=>(i,o++List.replicate (xs.length-i.toNat) d)) (fun(o:List α) x=>o++ [x]) (fun o=>some o) (fun i o=>o.length=i)
  (fun i hi o ho=>by
   refine⟨?_,by simp [ho]⟩
   rw [show((i:Int)).toNat=i from rfl,hs i hi _ (by simp [ho];omega)]
   congr 3
   obtain⟨k,hk⟩: ∃k,xs.length-i=k+1:=⟨xs.length-i-1,by omega⟩
   have h2:xs.length-(((i+1:Nat):Int)).toNat=k:=by rw [show(((i+1:Nat):Int)).toNat=i+1 from rfl];omega
   rw [h2,hk,List.replicate_succ]
   subst ho
   simp [List.set_append])
  (fun o ho=>by
   show body ((xs.length:Int),o++List.replicate (xs.length-((xs.length:Int)).toNat) d)=_
   rw [show((xs.length:Int)).toNat=xs.length from rfl,Nat.sub_self,List.replicate_zero,List.append_nil]
   exact he o) (s:=([]:List α)) rfl
 have h3:=h1.1
 rw [show(fun(o:List α) x=>o++ [x])=(fun o x=>o++ [id x])from rfl,znG,List.map_id,List.nil_append]at h3
 exact h3
theorem zrg {n:Nat} {body:Int→Option (Int ⊕ Option Bool)} (hs: ∀i:Nat,i<n→body i=some (.inl ((i+1:Nat):Int))) (he:body n=some (.inr (some true))):zal body 0=some true:=by
 have h:=zhX (n:=n) (body:=body) (fun _=>true) false (some true) (fun i hi=>by rw [hs i hi,if_pos rfl]) he
 rw [h,if_pos (by simp)]
theorem zfG {a:Int} {n:Nat} (h0:0≤a) (h1:a≤1048576) (hn:n≤9223372036854775807):IntKind.i64.wrap (a-(n:Int))=a-n:=zaC (by omega) (by omega)
end Go.Proofs.YtgobcjbjogkpjaaGreatDoor
end
section
namespace Go.Proofs.YtgobcjbjogkpjaaGreatDoor
open Go.RowKit
set_option maxRecDepth 100000
theorem zbR {σ α:Type} {body:σ→Option (σ ⊕ Option α)} {s:σ} {o:Option α} (h:body s=some (.inr o)):zal body s=o:=by rw [zbc,h]
theorem zcf {σ α:Type} {body:σ→Option (σ ⊕ Option α)} {s s':σ} (h:body s=some (.inl s')):zal body s=zal body s':=by rw [zbc,h]
theorem szL {α:Type} {xs:List α} {body:Int × Int→Option ((Int × Int) ⊕ Option Int)} (tot:α→Nat) {a:Int} (h0:0≤a) (h1:a≤1048576)
  (hs: ∀x∈xs,∀b:Int,0≤b→b≤1048576→ ∃v,v≤b∧(0≤v→(tot x:Int)=b-v)∧ ∀i:Nat,xs[i]?=some x→body (b,(i:Int))=some (if v<0 then .inr (some (-1))else .inl (v,((i+1:Nat):Int))))
  (he: ∀b,body (b,(xs.length:Int))=some (.inr (some b))): ∃v,zal body (a,0)=some v∧v≤a∧(0≤v→((xs.map tot).sum:Int)=a-v):=by
 have key: ∀(n q:Nat) (a:Int),q+n=xs.length→0≤a→a≤1048576→ ∃v,zal body (a,(q:Int))=some v∧v≤a∧(0≤v→(((xs.drop q).map tot).sum:Int)=a-v):=by
  intro n
  induction n with
  |zero=>
   intro q a hq h0 h1
   refine⟨a, ?_,by omega,fun _=> ?_⟩
   ·rw [zbc,show(q:Int)=(xs.length:Int) by omega,he]
   ·rw [List.drop_eq_nil_of_le (by omega)];simp
  |succ n ih=>
   intro q a hq h0 h1
   have hlt:q<xs.length:=by omega
   obtain⟨v,e1,e2,e3⟩:=hs xs[q] (List.getElem_mem hlt) a h0 h1
   rw [zbc,e3 q (List.getElem?_eq_getElem hlt)]
   by_cases hv:v<0
   ·rw [if_pos hv]
    exact⟨-1,rfl,by omega,by omega⟩
   ·rw [if_neg hv]
    obtain⟨u,f1,f2,f3⟩:=ih (q+1) v (by omega) (by omega) (by omega)
    refine⟨u,f1,by omega,fun hu=> ?_⟩
    have g1:=f3 hu
    have g2:=e2 (by omega)
    rw [List.drop_eq_getElem_cons hlt,List.map_cons,List.sum_cons]
    omega
 have:=key xs.length 0 a (by omega) h0 h1
 simpa using this
theorem zeu {α:Type} {tot:α→Nat}: ∀{xs:List α} {x:α},x∈xs→tot x≤(xs.map tot).sum
 |y::xs,x,h=>by
  rw [List.map_cons,List.sum_cons]
  rcases List.mem_cons.1 h with rfl|h
  ·omega
  ·have:=zeu (tot:=tot) h;omega
theorem zn8 {α:Type} {cnt:α→Nat} {mb:Int × Int × List α→Option ((Int × Int × List α) ⊕ Option (Int × List α))} {hb:List α→Int × Int→Option ((Int × Int) ⊕ Option Int)} (B:Int) {xs:List α} {k:Int} (h0:0≤k) (hB:k+((xs.map cnt).sum:Nat)≤B)
  (hs: ∀x∈xs,∀k:Int,0≤k→k+cnt x≤B→ ∃y,(∀(i:Nat) (v:List α),v[i]?=some x→i<xs.length→mb (k,(i:Int),v)=some (.inl (k+cnt x,((i+1:Nat):Int),v.set i y)))∧ ∀(i:Nat) (ys:List α),ys[i]?=some y→i<xs.length→hb ys (k,(i:Int))=some (.inl (k+cnt x,((i+1:Nat):Int))))
  (he: ∀k v,v.length=xs.length→mb (k,(xs.length:Int),v)=some (.inr (some (k,v)))) (hh: ∀k ys,ys.length=xs.length→hb ys (k,(xs.length:Int))=some (.inr (some k))):
  ∃ys,ys.length=xs.length∧zal mb (k,0,xs)=some (k+((xs.map cnt).sum:Nat),ys)∧zal (hb ys) (k,0)=some (k+((xs.map cnt).sum:Nat)):=by
 have key: ∀(suf pre:List α) (k:Int),pre.length+suf.length=xs.length→(∀x∈suf,x∈xs)→0≤k→k+((suf.map cnt).sum:Nat)≤B→
   ∃suf':List α,suf'.length=suf.length∧zal mb (k,(pre.length:Int),pre++suf)=some (k+((suf.map cnt).sum:Nat),pre++suf')∧zal (hb (pre++suf')) (k,(pre.length:Int))=some (k+((suf.map cnt).sum:Nat)):=by
  intro suf
  induction suf with
  |nil=>
   intro pre k hl _ _ _
   have hl':(pre.length:Int)=(xs.length:Int):=by simp at hl;omega
   have hl2:pre.length=xs.length:=by omega
   refine⟨[],rfl, ?_, ?_⟩
   ·rw [zbc,hl',he _ _ (by simpa using hl2)];simp
   ·rw [zbc,hl',hh _ _ (by simpa using hl2)];simp
  |cons x t ih=>
   intro pre k hl hm h0 hb'
   rw [List.map_cons,List.sum_cons]at hb' ⊢
   obtain⟨y,e1,e2⟩:=hs x (hm x (by simp)) k h0 (by omega)
   rw [List.length_cons]at hl
   obtain⟨t',f1,f2,f3⟩:=ih (pre++ [y]) (k+cnt x) (by simp;omega) (fun z hz=>hm z (by simp [hz])) (by omega) (by omega)
   have ea:pre++y::t'=pre++ [y]++t':=by simp
   have eb:(pre++x::t).set pre.length y=pre++ [y]++t:=by simp
   have ec:(((pre++ [y]).length:Nat):Int)=((pre.length+1:Nat):Int):=by simp
   refine⟨y::t',by simp [f1], ?_, ?_⟩
   ·rw [zbc,e1 pre.length _ (by simp) (by omega),eb]
    show zal mb (k+cnt x,((pre.length+1:Nat):Int),pre++ [y]++t)=_
    rw [←ec,f2,ea]
    congr 2
    omega
   ·rw [zbc,e2 pre.length _ (by simp) (by omega),ea]
    show zal (hb (pre++ [y]++t')) (k+cnt x,((pre.length+1:Nat):Int))=_
    rw [←ec,f3]
    congr 1
    omega
 have:=key xs [] k (by simp) (fun _ h=>h) h0 hB
 simpa using this
theorem zzA {α:Type} {cnt:α→Nat} {mb:Int × Int × List α→Option ((Int × Int × List α) ⊕ Option (Int × List α))} (B:Int) {xs:List α} {k:Int} (h0:0≤k) (hB:k+((xs.map cnt).sum:Nat)≤B)
  (hs: ∀x∈xs,∀k:Int,0≤k→k+cnt x≤B→ ∃y,∀(i:Nat) (v:List α),v[i]?=some x→i<xs.length→mb (k,(i:Int),v)=some (.inl (k+cnt x,((i+1:Nat):Int),v.set i y)))
  (he: ∀k v,v.length=xs.length→mb (k,(xs.length:Int),v)=some (.inr (some (k,v)))):
  ∃ys,ys.length=xs.length∧zal mb (k,0,xs)=some (k+((xs.map cnt).sum:Nat),ys):=by
 have key: ∀(suf pre:List α) (k:Int),pre.length+suf.length=xs.length→(∀x∈suf,x∈xs)→0≤k→k+((suf.map cnt).sum:Nat)≤B→
   ∃suf':List α,suf'.length=suf.length∧zal mb (k,(pre.length:Int),pre++suf)=some (k+((suf.map cnt).sum:Nat),pre++suf'):=by
  intro suf
  induction suf with
  |nil=>
   intro pre k hl _ _ _
   have hl':(pre.length:Int)=(xs.length:Int):=by simp at hl;omega
   have hl2:pre.length=xs.length:=by omega
   refine⟨[],rfl, ?_⟩
   rw [zbc,hl',he _ _ (by simpa using hl2)];simp
  |cons x t ih=>
   intro pre k hl hm h0 hb'
   rw [List.map_cons,List.sum_cons]at hb' ⊢
   obtain⟨y,e1⟩:=hs x (hm x (by simp)) k h0 (by omega)
   rw [List.length_cons]at hl
   obtain⟨t',f1,f2⟩:=ih (pre++ [y]) (k+cnt x) (by simp;omega) (fun z hz=>hm z (by simp [hz])) (by omega) (by omega)
   have ea:pre++y::t'=pre++ [y]++t':=by simp
   have eb:(pre++x::t).set pre.length y=pre++ [y]++t:=by simp
   have ec:(((pre++ [y]).length:Nat):Int)=((pre.length+1:Nat):Int):=by simp
   refine⟨y::t',by simp [f1], ?_⟩
   rw [zbc,e1 pre.length _ (by simp) (by omega),eb]
   show zal mb (k+cnt x,((pre.length+1:Nat):Int),pre++ [y]++t)=_
   rw [←ec,f2,ea]
   congr 2
   omega
 have:=key xs [] k (by simp) (fun _ h=>h) h0 hB
 simpa using this
theorem zk7 {α:Type} (xs:List α) (n:Nat):(xs.map fun _=>n).sum=n*xs.length:=by
 induction xs with
 |nil=>simp
 |cons x xs ih=>rw [List.map_cons,List.sum_cons,ih,List.length_cons,Nat.mul_add];omega
end Go.Proofs.YtgobcjbjogkpjaaGreatDoor
end
