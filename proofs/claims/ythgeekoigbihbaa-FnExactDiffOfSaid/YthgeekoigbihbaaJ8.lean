/- Parts of a proof, joined: QM, N5, NK, NP, NF, NG, NX, QE, QT, TF, QF1, QF2, QR, LG. -/
import Derived.Test.YthgeekoigbihbaaJ7
section
namespace Go.Proofs.Ythgeekoigbihbaa
open Go.RowKit
set_option maxRecDepth 100000
noncomputable def zek (a0:zab) (a1:Int):Option (Int):=
 if(decide ((IntKind.i64.wrap (a1-(a0.fKey.length:Int)))<0))then
  some (-1)
 else
  if(decide ((IntKind.i64.wrap ((IntKind.i64.wrap (a1-(a0.fKey.length:Int)))-(a0.fVal.length:Int)))<0))then
   some (-1)
  else
   some (IntKind.i64.wrap ((IntKind.i64.wrap (a1-(a0.fKey.length:Int)))-(a0.fVal.length:Int)))
noncomputable def zbe (a0:List zab) (v1:Int) (v2:Int):Option ((Int × Int) ⊕ Option (Int)):=
 if(decide (v2<(a0.length:Int)))then
  (zce a0 v2).bind fun y3=>
  (zek y3 v1).bind fun v4=>
  if(decide (v4<0))then
   some (.inr (some (-1)))
  else
   some (.inl (v4,(IntKind.i64.wrap (v2+1))))
 else
  some (.inr (some v1))
noncomputable def zdO (a0:List zab) (a1:Int):Option (Int):=
 if(decide ((IntKind.i64.wrap (a1-(a0.length:Int)))<0))then
  some (-1)
 else
  zau (fun s:Int × Int=>zbe a0 s.1 s.2) ((IntKind.i64.wrap (a1-(a0.length:Int))),0)
noncomputable def zeN (a0:zaS) (a1:Int):Option (Int):=
 (zdO a0.fRows a1).bind fun v1=>
 if(decide (v1<0))then
  some (-1)
 else
  some v1
noncomputable def zcY (a0:zaa) (a1:Int):Option (Int):=
 if(decide ((IntKind.i64.wrap (a1-(a0.fKey.length:Int)))<0))then
  some (-1)
 else
  if(decide ((IntKind.i64.wrap ((IntKind.i64.wrap (a1-(a0.fKey.length:Int)))-(a0.fVal.length:Int)))<0))then
   some (-1)
  else
   some (IntKind.i64.wrap ((IntKind.i64.wrap (a1-(a0.fKey.length:Int)))-(a0.fVal.length:Int)))
noncomputable def zaR (a0:List zaa) (v1:Int) (v2:Int):Option ((Int × Int) ⊕ Option (Int)):=
 if(decide (v2<(a0.length:Int)))then
  (zce a0 v2).bind fun y3=>
  (zcY y3 v1).bind fun v4=>
  if(decide (v4<0))then
   some (.inr (some (-1)))
  else
   some (.inl (v4,(IntKind.i64.wrap (v2+1))))
 else
  some (.inr (some v1))
noncomputable def zcF (a0:List zaa) (a1:Int):Option (Int):=
 if(decide ((IntKind.i64.wrap (a1-(a0.length:Int)))<0))then
  some (-1)
 else
  zau (fun s:Int × Int=>zaR a0 s.1 s.2) ((IntKind.i64.wrap (a1-(a0.length:Int))),0)
noncomputable def ze4 (a0:zaV) (a1:Int):Option (Int):=
 (zcF a0.fList a1).bind fun v1=>
 if(decide (v1<0))then
  some (-1)
 else
  some v1
noncomputable def zfA (a0:zab):Option (zab):=
 some a0
noncomputable def zbF (a0:List zab) (v1:Int) (v2:List zab):Option ((Int × List zab) ⊕ Option (List zab)):=
 if(decide (v1<(a0.length:Int)))then
  (zce a0 v1).bind fun y3=>
  (zfA y3).bind fun v4=>
  (zce v2 v1).bind fun y5=>
  some (.inl ((IntKind.i64.wrap (v1+1)),(v2.set (v1).toNat v4)))
 else
  some (.inr (some v2))
noncomputable def zdI (a0:List zab):Option (List zab):=
 req (0≤(a0.length:Int)∧(a0.length:Int)*40≤140737488355328∧(a0.length:Int)≤140737488355328)<|
 zau (fun s:Int × List zab=>zbF a0 s.1 s.2) (0,(List.replicate ((a0.length:Int)).toNat (⟨([]:List UInt8),([]:List UInt8),false⟩:zab)))
noncomputable def zcp (a0:zaS):Option (zaS):=
 (zdI a0.fRows).bind fun v1=>
 some (⟨a0.fTime,v1⟩:zaS)
noncomputable def zeb (a0:zaa):Option (zaa):=
 some a0
noncomputable def za8 (a0:List zaa) (v1:Int) (v2:List zaa):Option ((Int × List zaa) ⊕ Option (List zaa)):=
 if(decide (v1<(a0.length:Int)))then
  (zce a0 v1).bind fun y3=>
  (zeb y3).bind fun v4=>
  (zce v2 v1).bind fun y5=>
  some (.inl ((IntKind.i64.wrap (v1+1)),(v2.set (v1).toNat v4)))
 else
  some (.inr (some v2))
noncomputable def zcE (a0:List zaa):Option (List zaa):=
 req (0≤(a0.length:Int)∧(a0.length:Int)*56≤140737488355328∧(a0.length:Int)≤140737488355328)<|
 zau (fun s:Int × List zaa=>za8 a0 s.1 s.2) (0,(List.replicate ((a0.length:Int)).toNat (⟨0,0,([]:List UInt8),([]:List UInt8),false⟩:zaa)))
noncomputable def zcm (a0:zaV):Option (zaV):=
 (zcE a0.fList).bind fun v1=>
 some (⟨a0.fFrom,a0.fTo,v1⟩:zaV)
noncomputable def zbL (a0:Int) (a1:Int) (a2:Int):Option (Bool):=
 some ((decide (a0≥a1))&&(decide (a0≤a2)))
noncomputable def zea (v1:Int) (v3:Bool):Option ((Int) ⊕ Option (Bool)):=
 if(!v3)then
  some (.inr (some false))
 else
  some (.inl (IntKind.i64.wrap (v1+1)))
noncomputable def zb0 (a1:List UInt8) (v1:Int) (y2:UInt8) (v4:Bool) (v5:Int):Option ((Bool × Int) ⊕ Option ((Int) ⊕ Option (Bool))):=
 if(decide (v5<(a1.length:Int)))then
  if v4 then
   some (.inl (true,(IntKind.i64.wrap (v5+1))))
  else
   (zce a1 v5).bind fun y6=>
   some (.inl (((y2.toNat:Int)==(y6.toNat:Int)),(IntKind.i64.wrap (v5+1))))
 else
  some (.inr (zea v1 v4))
noncomputable def zdY (a0:List UInt8) (a1:List UInt8) (v1:Int):Option ((Int) ⊕ Option (Bool)):=
 if(decide (v1<(a0.length:Int)))then
  (zce a0 v1).bind fun y2=>
  zau (fun s:Bool × Int=>zb0 a1 v1 y2 s.1 s.2) ((((decide ((y2.toNat:Int)≥97))&&(decide ((y2.toNat:Int)≤122)))||((decide ((y2.toNat:Int)≥48))&&(decide ((y2.toNat:Int)≤57)))),0)
 else
  some (.inr (some true))
noncomputable def zdd (a0:List UInt8) (a1:List UInt8):Option (Bool):=
 zau (fun s:Int=>zdY a0 a1 s) 0
noncomputable def zeA (a0:List UInt8):Option (Bool):=
 (zbL (a0.length:Int) 1 12).bind fun v1=>
 if v1 then
  (zdd a0 ([46,47]:List UInt8)).bind fun v2=>
  some v2
 else
  some false
noncomputable def zfs (a0:List UInt8):Option (Bool):=
 if(decide ((a0.length:Int)≤24))then
  (zdd a0 ([46,45,44,95]:List UInt8)).bind fun v1=>
  some v1
 else
  some false
noncomputable def zcz (a0:List UInt8) (a1:List UInt8) (a2:Bool):Option (Bool):=
 (zeA a0).bind fun v1=>
 if v1 then
  (zfs a1).bind fun v2=>
  some (v2&&((!a2)||(a1==([]:List UInt8))))
 else
  some false
noncomputable def zdw (a0:List zab):Option (Bool):=
 some (decide ((a0.length:Int)≤24))
noncomputable def zdQ (a0:List zab) (v1:Int):Option ((Int) ⊕ Option (Bool)):=
 if(decide (v1<(a0.length:Int)))then
  (zce a0 v1).bind fun y2=>
  (zcz y2.fKey y2.fVal y2.fGone).bind fun v3=>
  if(decide (v1>0))then
   if v3 then
    (zce a0 (IntKind.i64.wrap (v1-1))).bind fun y4=>
    if(!Op.bytesLess y4.fKey y2.fKey)then
     some (.inr (some false))
    else
     some (.inl (IntKind.i64.wrap (v1+1)))
   else
    some (.inr (some false))
  else
   if((!v3)||false)then
    some (.inr (some false))
   else
    some (.inl (IntKind.i64.wrap (v1+1)))
 else
  some (.inr (zdw a0))
noncomputable def zdC (a0:List zab):Option (Bool):=
 zau (fun s:Int=>zdQ a0 s) 0
noncomputable def zd3 (a0:zaS):Option (Bool):=
 (zbL a0.fTime 0 100000).bind fun v1=>
 if v1 then
  (zdC a0.fRows).bind fun v2=>
  some (v2&&((decide (a0.fTime>0))||((a0.fRows.length:Int)==0)))
 else
  some false
noncomputable def zc0 (a0:zaS) (v3:Int):Option ((Int) ⊕ Option (Bool)):=
 if(decide (v3<(a0.fRows.length:Int)))then
  (zce a0.fRows v3).bind fun y4=>
  if y4.fGone then
   some (.inr (some false))
  else
   some (.inl (IntKind.i64.wrap (v3+1)))
 else
  some (.inr (zd3 a0))
noncomputable def zda (a0:zaS):Option (Bool):=
 zau (fun s:Int=>zc0 a0 s) 0
noncomputable def zee (a0:zaa):Option (Bool):=
 (zbL a0.fTime 1 100000).bind fun v1=>
 if v1 then
  (zbL a0.fGroup 0 3).bind fun v2=>
  if v2 then
   (zcz a0.fKey a0.fVal a0.fGone).bind fun v3=>
   some v3
  else
   some false
 else
  some false
noncomputable def zbZ (a0:zaa) (a1:zaa):Option (Bool):=
 if(a0.fTime !=a1.fTime)then
  some (decide (a0.fTime<a1.fTime))
 else
  if(a0.fGroup !=a1.fGroup)then
   some (decide (a0.fGroup<a1.fGroup))
  else
   some (Op.bytesLess a0.fKey a1.fKey)
noncomputable def zb3 (a0:List zaa):Option (Bool):=
 some (decide ((a0.length:Int)≤400))
noncomputable def zap (a0:List zaa) (v1:Int):Option ((Int) ⊕ Option (Bool)):=
 if((decide (v1<(a0.length:Int)))&&(decide (v1≤400)))then
  (zce a0 v1).bind fun y2=>
  (zee y2).bind fun v3=>
  if(decide (v1>0))then
   if v3 then
    (zce a0 (IntKind.i64.wrap (v1-1))).bind fun y4=>
    (zbZ y4 y2).bind fun v5=>
    if(!v5)then
     some (.inr (some false))
    else
     some (.inl (IntKind.i64.wrap (v1+1)))
   else
    some (.inr (some false))
  else
   if((!v3)||false)then
    some (.inr (some false))
   else
    some (.inl (IntKind.i64.wrap (v1+1)))
 else
  some (.inr (zb3 a0))
noncomputable def zef (a0:List zaa):Option (Bool):=
 zau (fun s:Int=>zap a0 s) 0
noncomputable def zcV (a0:zaV):Option (Bool):=
 (zbL a0.fFrom 0 a0.fTo).bind fun v1=>
 if v1 then
  if(decide (a0.fTo≤100000))then
   if(decide ((a0.fList.length:Int)≤60))then
    (zef a0.fList).bind fun v2=>
    some v2
   else
    some false
  else
   some false
 else
  some false
noncomputable def zcX (a0:zaV) (v3:Int):Option ((Int) ⊕ Option (Bool)):=
 if(decide (v3<(a0.fList.length:Int)))then
  (zce a0.fList v3).bind fun y4=>
  if(y4.fGroup !=0)then
   some (.inr (some false))
  else
   (zbL y4.fTime (IntKind.i64.wrap (a0.fFrom+1)) a0.fTo).bind fun v5=>
   if(!v5)then
    some (.inr (some false))
   else
    some (.inl (IntKind.i64.wrap (v3+1)))
 else
  some (.inr (zcV a0))
noncomputable def zcy (a0:zaV):Option (Bool):=
 zau (fun s:Int=>zcX a0 s) 0
noncomputable def zgp (a1:zaa) (v1:Bool) (v2:List zab):Option (List zab):=
 if(!v1)then
  req ((((v2).length:Int)+(([(⟨a1.fKey,a1.fVal,false⟩:zab)]:List zab).length:Int))*40≤140737488355328∧((v2).length:Int)+(([(⟨a1.fKey,a1.fVal,false⟩:zab)]:List zab).length:Int)≤140737488355328)<|
  some (v2++ [(⟨a1.fKey,a1.fVal,false⟩:zab)])
 else
  some v2
noncomputable def zcR (a0:List zab) (a1:zaa) (v4:Int) (v6:Bool) (v7:List zab):Option ((Bool × Int × List zab) ⊕ Option (List zab)):=
 (zce a0 v4).bind fun y8=>
 if(y8.fKey !=a1.fKey)then
  req ((((v7).length:Int)+(([y8]:List zab).length:Int))*40≤140737488355328∧((v7).length:Int)+(([y8]:List zab).length:Int)≤140737488355328)<|
  some (.inl (v6,(IntKind.i64.wrap (v4+1)),(v7++ [y8])))
 else
  some (.inl (v6,(IntKind.i64.wrap (v4+1)),v7))
noncomputable def zb1 (a0:List zab) (a1:zaa) (v3:Bool) (v4:Int) (v5:List zab):Option ((Bool × Int × List zab) ⊕ Option (List zab)):=
 if(decide (v4<(a0.length:Int)))then
  if v3 then
   zcR a0 a1 v4 v3 v5
  else
   (zce a0 v4).bind fun y9=>
   if(Op.bytesLess a1.fKey y9.fKey||a1.fKey==y9.fKey)then
    req ((((v5).length:Int)+(([(⟨a1.fKey,a1.fVal,false⟩:zab)]:List zab).length:Int))*40≤140737488355328∧((v5).length:Int)+(([(⟨a1.fKey,a1.fVal,false⟩:zab)]:List zab).length:Int)≤140737488355328)<|
    zcR a0 a1 v4 true (v5++ [(⟨a1.fKey,a1.fVal,false⟩:zab)])
   else
    zcR a0 a1 v4 v3 v5
 else
  some (.inr (zgp a1 v3 v5))
noncomputable def zez (a0:List zab) (a1:zaa):Option (List zab):=
 zau (fun s:Bool × Int × List zab=>zb1 a0 a1 s.1 s.2.1 s.2.2) (a1.fGone,0, [])
noncomputable def zdV (a1:zaV) (v3:List zab):Option (zaS × Bool):=
 (zda (⟨a1.fTo,v3⟩:zaS)).bind fun v4=>
 if(!v4)then
  some ((⟨0, []⟩:zaS),false)
 else
  some ((⟨a1.fTo,v3⟩:zaS),true)
noncomputable def za1 (a1:zaV) (v5:Int) (v6:List zab):Option ((Int × List zab) ⊕ Option (zaS × Bool)):=
 if(decide (v5<(a1.fList.length:Int)))then
  (zce a1.fList v5).bind fun y7=>
  (zez v6 y7).bind fun v8=>
  some (.inl ((IntKind.i64.wrap (v5+1)),v8))
 else
  some (.inr (zdV a1 v6))
noncomputable def zep (a0:zaS) (a1:zaV):Option (zaS × Bool):=
 (zda a0).bind fun v1=>
 if v1 then
  (zcy a1).bind fun v2=>
  if((!v2)||(a1.fFrom !=a0.fTime))then
   some ((⟨0, []⟩:zaS),false)
  else
   req (((([]:List zab).length:Int)+((a0.fRows).length:Int))*40≤140737488355328∧(([]:List zab).length:Int)+((a0.fRows).length:Int)≤140737488355328)<|
   zau (fun s:Int × List zab=>za1 a1 s.1 s.2) (0,a0.fRows)
 else
  some ((⟨0, []⟩:zaS),false)
noncomputable def zck (a0:Int) (a1:Int) (a2:Int):Option (Bool):=
 some ((decide (a0≥a1))&&(decide (a0≤a2)))
noncomputable def zc3 (a0:Int):Option (Bool):=
 (zck a0 0 100000).bind fun v1=>
 some v1
noncomputable def za2 (a0:List zab) (v1:Int) (v2:List (List UInt8)):Option ((Int × List (List UInt8)) ⊕ Option (List (List UInt8))):=
 if(decide (v1<(a0.length:Int)))then
  (zce a0 v1).bind fun y3=>
  req ((((v2).length:Int)+(([y3.fKey]:List (List UInt8)).length:Int))*16≤140737488355328∧((v2).length:Int)+(([y3.fKey]:List (List UInt8)).length:Int)≤140737488355328)<|
  some (.inl ((IntKind.i64.wrap (v1+1)),(v2++ [y3.fKey])))
 else
  some (.inr (some v2))
noncomputable def zdh (a0:List zab):Option (List (List UInt8)):=
 zau (fun s:Int × List (List UInt8)=>za2 a0 s.1 s.2) (0, [])
noncomputable def zcT (a0:Int):Option (Bool):=
 some (((decide (a0≥97))&&(decide (a0≤122)))||((decide (a0≥48))&&(decide (a0≤57))))
noncomputable def zdk (a0:List UInt8) (a1:Int):Option (Int):=
 (zaD a0 a1).bind fun v1=>
 some v1
noncomputable def zdA (a0:List UInt8) (a1:List UInt8) (v1:Int):Option ((Int) ⊕ Option (Bool)):=
 if(decide (v1<(a0.length:Int)))then
  (zce a0 v1).bind fun y2=>
  (zcT (y2.toNat:Int)).bind fun v3=>
  if v3 then
   some (.inl (IntKind.i64.wrap (v1+1)))
  else
   (zdk a1 (y2.toNat:Int)).bind fun v4=>
   if(decide (v4<0))then
    some (.inr (some false))
   else
    some (.inl (IntKind.i64.wrap (v1+1)))
 else
  some (.inr (some true))
noncomputable def zcO (a0:List UInt8) (a1:List UInt8):Option (Bool):=
 zau (fun s:Int=>zdA a0 a1 s) 0
noncomputable def zdb (a0:List UInt8):Option (Bool):=
 (zck (a0.length:Int) 1 12).bind fun v1=>
 if v1 then
  (zcO a0 ([46,47]:List UInt8)).bind fun v2=>
  some v2
 else
  some false
noncomputable def zdo (a0:List (List UInt8)) (v1:Int):Option ((Int) ⊕ Option (Bool)):=
 if(decide (v1<(a0.length:Int)))then
  (zce a0 v1).bind fun y2=>
  (zdb y2).bind fun v3=>
  if(decide (v1>0))then
   if v3 then
    (zce a0 (IntKind.i64.wrap (v1-1))).bind fun y4=>
    if(Op.bytesLess y2 y4||y2==y4)then
     some (.inr (some false))
    else
     some (.inl (IntKind.i64.wrap (v1+1)))
   else
    some (.inr (some false))
  else
   if((!v3)||false)then
    some (.inr (some false))
   else
    some (.inl (IntKind.i64.wrap (v1+1)))
 else
  some (.inr (some true))
noncomputable def zcv (a0:List (List UInt8)):Option (Bool):=
 zau (fun s:Int=>zdo a0 s) 0
noncomputable def zeh (a0:List UInt8):Option (Bool):=
 if(decide ((a0.length:Int)≤24))then
  (zcO a0 ([46,45,44,95]:List UInt8)).bind fun v1=>
  some v1
 else
  some false
noncomputable def zb9 (a0:List UInt8) (a1:Bool):Option (Bool):=
 (zeh a0).bind fun v1=>
 some (v1&&(!(a1&&(a0 !=([]:List UInt8)))))
noncomputable def zci (a0:zab):Option (Bool):=
 (zb9 a0.fVal a0.fGone).bind fun v1=>
 some (!v1)
noncomputable def zcW (a0:List zab):Option (Bool):=
 if(decide ((a0.length:Int)≤24))then
  (zdh a0).bind fun v1=>
  (zcv v1).bind fun v2=>
  if v2 then
   (zaH a0 (fun y0_=>zci y0_)).bind fun v3=>
   some (!v3)
  else
   some false
 else
  some false
noncomputable def zdH (a0:zab):Option (Bool):=
 some a0.fGone
noncomputable def ze5 (a0:List zab):Option (Bool):=
 (zcW a0).bind fun v1=>
 if v1 then
  (zaH a0 (fun y0_=>zdH y0_)).bind fun v2=>
  some (!v2)
 else
  some false
noncomputable def zcM (a0:zaS):Option (Bool):=
 (zc3 a0.fTime).bind fun v1=>
 if v1 then
  (ze5 a0.fRows).bind fun v2=>
  some (v2&&((decide (a0.fTime>0))||((a0.fRows.length:Int)==0)))
 else
  some false
noncomputable def zcs (a0:Int):Option (Bool):=
 some (a0 !=a0)
noncomputable def zbI (a0:Int) (a1:Int):Option (Int):=
 (zcs a0).bind fun v1=>
 (zcs a1).bind fun v2=>
 if v1 then
  if v2 then
   some 0
  else
   some (-1)
 else
  if v2 then
   some 1
  else
   if(decide (a0<a1))then
    some (-1)
   else
    if(decide (a0>a1))then
     some 1
    else
     some 0
noncomputable def zbw (a0:List UInt8):Option (Bool):=
 some (a0 !=a0)
noncomputable def za5 (a0:List UInt8) (a1:List UInt8):Option (Int):=
 (zbw a0).bind fun v1=>
 (zbw a1).bind fun v2=>
 if v1 then
  if v2 then
   some 0
  else
   some (-1)
 else
  if v2 then
   some 1
  else
   if(Op.bytesLess a0 a1)then
    some (-1)
   else
    if(!(Op.bytesLess a0 a1||a0==a1))then
     some 1
    else
     some 0
noncomputable def zct (a0:List Int) (v1:Int):Option ((Int) ⊕ Option (Int)):=
 if(decide (v1<(a0.length:Int)))then
  (zce a0 v1).bind fun y2=>
  if(y2 !=0)then
   some (.inr (some y2))
  else
   some (.inl (IntKind.i64.wrap (v1+1)))
 else
  some (.inr (some 0))
noncomputable def zeY (a0:List Int):Option (Int):=
 zau (fun s:Int=>zct a0 s) 0
noncomputable def zcl (a0:zaa) (a1:zaa):Option (Int):=
 (zbI a0.fTime a1.fTime).bind fun v1=>
 (zbI a0.fGroup a1.fGroup).bind fun v2=>
 (za5 a0.fKey a1.fKey).bind fun v3=>
 (zeY ([v1,v2,v3]:List Int)).bind fun v4=>
 some v4
noncomputable def zeI (a0:List zaa):Option (Bool):=
 some (decide ((a0.length:Int)≤400))
noncomputable def zbk (a0:List zaa) (v1:Int):Option ((Int) ⊕ Option (Bool)):=
 if(decide (v1<(a0.length:Int)))then
  if(decide (v1>0))then
   (zce a0 (IntKind.i64.wrap (v1-1))).bind fun y2=>
   (zce a0 v1).bind fun y3=>
   (zcl y2 y3).bind fun v4=>
   if(decide (v4≥0))then
    some (.inr (some false))
   else
    some (.inl (IntKind.i64.wrap (v1+1)))
  else
   some (.inl (IntKind.i64.wrap (v1+1)))
 else
  some (.inr (zeI a0))
noncomputable def ze1 (a0:List zaa):Option (Bool):=
 zau (fun s:Int=>zbk a0 s) 0
noncomputable def zc2 (a0:Int):Option (Bool):=
 (zck a0 1 100000).bind fun v1=>
 some v1
noncomputable def zfD (a0:Int):Option (Bool):=
 (zck a0 0 3).bind fun v1=>
 some v1
noncomputable def zdz (a0:zaa):Option (Bool):=
 (zc2 a0.fTime).bind fun v1=>
 if v1 then
  (zfD a0.fGroup).bind fun v2=>
  if v2 then
   (zdb a0.fKey).bind fun v3=>
   if v3 then
    (zb9 a0.fVal a0.fGone).bind fun v4=>
    some v4
   else
    some false
  else
   some false
 else
  some false
noncomputable def zdU (a0:zaa):Option (Bool):=
 (zdz a0).bind fun v1=>
 some (!v1)
noncomputable def zdx (a0:List zaa):Option (Bool):=
 (ze1 a0).bind fun v1=>
 if v1 then
  (zaH a0 (fun y0_=>zdU y0_)).bind fun v2=>
  some (!v2)
 else
  some false
noncomputable def zd4 (a0:zaa) (a1:zaV):Option (Bool):=
 some (((a0.fGroup !=0)||(decide (a0.fTime≤a1.fFrom)))||(decide (a0.fTime>a1.fTo)))
noncomputable def zcb (a0:zaV):Option (Bool):=
 (zc3 a0.fFrom).bind fun v1=>
 if v1 then
  (zc3 a0.fTo).bind fun v2=>
  if v2 then
   if(decide (a0.fFrom≤a0.fTo))then
    if(decide ((a0.fList.length:Int)≤60))then
     (zdx a0.fList).bind fun v3=>
     if v3 then
      (zaH a0.fList (fun y0_=>zd4 y0_ a0)).bind fun v4=>
      some (!v4)
     else
      some false
    else
     some false
   else
    some false
  else
   some false
 else
  some false
noncomputable def zaG (xs:List zab):Option (List zab):=zmx 40 xs
noncomputable def zan (a0:List zab) (a1:List UInt8) (a2:zab→(List UInt8)→Option Int) (v1:Int):Option (Int × Bool):=
 if(decide (v1<(a0.length:Int)))then
  (zce a0 v1).bind fun y2=>
  (a2 y2 a1).bind fun v3=>
  some (v1,(v3==0))
 else
  some (v1,false)
noncomputable def zad (a0:List zab) (a1:List UInt8) (a2:zab→(List UInt8)→Option Int) (v4:Int) (v5:Int):Option ((Int × Int) ⊕ Option (Int × Bool)):=
 if(decide (v4<v5))then
  (zce a0 (IntKind.i64.wrap (Int.fdiv (IntKind.u64.wrap (IntKind.i64.wrap (v4+v5))) (2^(min ((1:Int)).toNat (IntKind.bits .u64)))))).bind fun y6=>
  (a2 y6 a1).bind fun v7=>
  if(decide (v7<0))then
   some (.inl ((IntKind.i64.wrap ((IntKind.i64.wrap (Int.fdiv (IntKind.u64.wrap (IntKind.i64.wrap (v4+v5))) (2^(min ((1:Int)).toNat (IntKind.bits .u64)))))+1)),v5))
  else
   some (.inl (v4,(IntKind.i64.wrap (Int.fdiv (IntKind.u64.wrap (IntKind.i64.wrap (v4+v5))) (2^(min ((1:Int)).toNat (IntKind.bits .u64)))))))
 else
  some (.inr (zan a0 a1 a2 v4))
noncomputable def zao (a0:List zab) (a1:List UInt8) (a2:zab→(List UInt8)→Option Int):Option (Int × Bool):=
 zau (fun s:Int × Int=>zad a0 a1 a2 s.1 s.2) (0,(a0.length:Int))
noncomputable def zbc (a0:zab) (a1:List UInt8):Option (Int):=
 (za5 a0.fKey a1).bind fun v1=>
 some v1
noncomputable def zdg (a0:List zab) (a1:List UInt8):Option (Int × Bool):=
 (zao a0 a1 (fun y0_ y1_=>zbc y0_ y1_)).bind fun v1=>
 some (v1.1,v1.2)
noncomputable def zdv (a0:List zab) (a1:zab):Option (List zab):=
 (zdg a0 a1.fKey).bind fun v1=>
 if v1.2 then
  (zce a0 v1.1).bind fun y2=>
  some (a0.set (v1.1).toNat a1)
 else
  (zjH a0 v1.1 ([a1]:List zab)).bind fun v3=>
  some v3
noncomputable def zeD (a0:zab):Option (Bool):=
 some a0.fGone
noncomputable def zdW (a1:zaV) (v4:List zab):Option (zaS × Bool):=
 (zfw v4 (fun y0_=>zeD y0_)).bind fun v5=>
 (zcM (⟨a1.fTo,v5⟩:zaS)).bind fun v6=>
 if(!v6)then
  some ((⟨0, []⟩:zaS),false)
 else
  some ((⟨a1.fTo,v5⟩:zaS),true)
noncomputable def zbq (a1:zaV) (v7:Int) (v8:List zab):Option ((Int × List zab) ⊕ Option (zaS × Bool)):=
 if(decide (v7<(a1.fList.length:Int)))then
  (zce a1.fList v7).bind fun y9=>
  (zdv v8 (⟨y9.fKey,y9.fVal,y9.fGone⟩:zab)).bind fun v10=>
  some (.inl ((IntKind.i64.wrap (v7+1)),v10))
 else
  some (.inr (zdW a1 v8))
noncomputable def zdc (a0:zaS) (a1:zaV):Option (zaS × Bool):=
 (zcM a0).bind fun v1=>
 if v1 then
  (zcb a1).bind fun v2=>
  if((!v2)||(a1.fFrom !=a0.fTime))then
   some ((⟨0, []⟩:zaS),false)
  else
   (zaG a0.fRows).bind fun v3=>
   zau (fun s:Int × List zab=>zbq a1 s.1 s.2) (0,v3)
 else
  some ((⟨0, []⟩:zaS),false)
noncomputable def zec (a0:zab) (a1:zab):Option (Bool):=
 if(a0.fKey !=a1.fKey)then
  some false
 else
  if(a0.fVal !=a1.fVal)then
   some false
  else
   if(a0.fGone !=a1.fGone)then
    some false
   else
    some true
noncomputable def zbG (a0:List zab) (a1:List zab) (v1:Int):Option ((Int) ⊕ Option (Bool)):=
 if(decide (v1<(a0.length:Int)))then
  (zce a0 v1).bind fun y2=>
  (zce a1 v1).bind fun y3=>
  (zec y2 y3).bind fun v4=>
  if(!v4)then
   some (.inr (some false))
  else
   some (.inl (IntKind.i64.wrap (v1+1)))
 else
  some (.inr (some true))
noncomputable def zdD (a0:List zab) (a1:List zab):Option (Bool):=
 if((a0.length:Int) !=(a1.length:Int))then
  some false
 else
  zau (fun s:Int=>zbG a0 a1 s) 0
noncomputable def zch (a0:zaS) (a1:zaS):Option (Bool):=
 if(a0.fTime !=a1.fTime)then
  some false
 else
  (zdD a0.fRows a1.fRows).bind fun v1=>
  if(!v1)then
   some false
  else
   some true
noncomputable def zcZ (a0:zaa) (a1:zaa):Option (Bool):=
 if(a0.fTime !=a1.fTime)then
  some false
 else
  if(a0.fGroup !=a1.fGroup)then
   some false
  else
   if(a0.fKey !=a1.fKey)then
    some false
   else
    if(a0.fVal !=a1.fVal)then
     some false
    else
     if(a0.fGone !=a1.fGone)then
      some false
     else
      some true
noncomputable def za4 (a0:List zaa) (a1:List zaa) (v1:Int):Option ((Int) ⊕ Option (Bool)):=
 if(decide (v1<(a0.length:Int)))then
  (zce a0 v1).bind fun y2=>
  (zce a1 v1).bind fun y3=>
  (zcZ y2 y3).bind fun v4=>
  if(!v4)then
   some (.inr (some false))
  else
   some (.inl (IntKind.i64.wrap (v1+1)))
 else
  some (.inr (some true))
noncomputable def zcG (a0:List zaa) (a1:List zaa):Option (Bool):=
 if((a0.length:Int) !=(a1.length:Int))then
  some false
 else
  zau (fun s:Int=>za4 a0 a1 s) 0
noncomputable def zcj (a0:zaV) (a1:zaV):Option (Bool):=
 if(a0.fFrom !=a1.fFrom)then
  some false
 else
  if(a0.fTo !=a1.fTo)then
   some false
  else
   (zcG a0.fList a1.fList).bind fun v1=>
   if(!v1)then
    some false
   else
    some true
noncomputable def zfv (v1:List UInt8):Option (List UInt8):=
 req ((([109]:List UInt8)).length+(v1).length≤9223372036854775807)<|
 some ((([109]:List UInt8):List UInt8)++v1)
noncomputable def zaN (v2:Int) (v3:List UInt8):Option ((Int × List UInt8) ⊕ Option (List UInt8)):=
 if(decide (v2>0))then
  req (([(IntKind.u8.wrap (IntKind.i64.wrap ((48:Int)+(Int.tmod v2 10))))]:List Int).length≤9223372036854775807)<|
  req ((([(IntKind.u8.wrap (IntKind.i64.wrap ((48:Int)+(Int.tmod v2 10))))].map fun n=>UInt8.ofNat n.toNat)).length+(v3).length≤9223372036854775807)<|
  some (.inl ((IntKind.i64.wrap (Int.tdiv v2 10)),(([(IntKind.u8.wrap (IntKind.i64.wrap ((48:Int)+(Int.tmod v2 10))))].map fun n=>UInt8.ofNat n.toNat)++v3)))
 else
  some (.inr (zfv v3))
noncomputable def zar (a0:Int):Option (List UInt8):=
 if(decide (a0≤0))then
  some ([109,48]:List UInt8)
 else
  zau (fun s:Int × List UInt8=>zaN s.1 s.2) (a0,([]:List UInt8))
noncomputable def zaZ (v1:Int) (v2:Int) (v3:List zab):Option ((Int × Int × List zab) ⊕ Option (Int × List zab)):=
 if(decide (v2<(v3.length:Int)))then
  (zar v1).bind fun v4=>
  (zce v3 v2).bind fun y5=>
  (zar (IntKind.i64.wrap (v1+1))).bind fun v6=>
  some (.inl ((IntKind.i64.wrap ((IntKind.i64.wrap ((IntKind.i64.wrap (v1+1))+1))+1)),(IntKind.i64.wrap (v2+1)),(((v3.set (v2).toNat {y5 with fKey:=v4}).set (v2).toNat {{y5 with fKey:=v4}with fVal:=v6}).set (v2).toNat {{{y5 with fKey:=v4}with fVal:=v6}with fGone:=((Int.tmod (IntKind.i64.wrap ((IntKind.i64.wrap (v1+1))+1)) 3)==0)})))
 else
  some (.inr (some (v1,v3)))
noncomputable def zd2 (a0:List zab) (a1:Int):Option (Int × List zab):=
 zau (fun s:Int × Int × List zab=>zaZ s.1 s.2.1 s.2.2) (a1,0,a0)
noncomputable def zcP (a0:zaS) (a1:Int):Option (Int × zaS):=
 (zd2 a0.fRows a1).bind fun v1=>
 some (v1.1,(⟨a0.fTime,v1.2⟩:zaS))
noncomputable def zaI (v1:Int) (v2:Int) (v3:List zaa):Option ((Int × Int × List zaa) ⊕ Option (Int × List zaa)):=
 if(decide (v2<(v3.length:Int)))then
  (zce v3 v2).bind fun y4=>
  (zar (IntKind.i64.wrap ((IntKind.i64.wrap (v1+1))+1))).bind fun v5=>
  (zar (IntKind.i64.wrap ((IntKind.i64.wrap ((IntKind.i64.wrap (v1+1))+1))+1))).bind fun v6=>
  some (.inl ((IntKind.i64.wrap ((IntKind.i64.wrap ((IntKind.i64.wrap ((IntKind.i64.wrap ((IntKind.i64.wrap (v1+1))+1))+1))+1))+1)),(IntKind.i64.wrap (v2+1)),(((((v3.set (v2).toNat {y4 with fTime:=v1}).set (v2).toNat {{y4 with fTime:=v1}with fGroup:=(IntKind.i64.wrap (v1+1))}).set (v2).toNat {{{y4 with fTime:=v1}with fGroup:=(IntKind.i64.wrap (v1+1))}with fKey:=v5}).set (v2).toNat {{{{y4 with fTime:=v1}with fGroup:=(IntKind.i64.wrap (v1+1))}with fKey:=v5}with fVal:=v6}).set (v2).toNat {{{{{y4 with fTime:=v1}with fGroup:=(IntKind.i64.wrap (v1+1))}with fKey:=v5}with fVal:=v6}with fGone:=((Int.tmod (IntKind.i64.wrap ((IntKind.i64.wrap ((IntKind.i64.wrap ((IntKind.i64.wrap (v1+1))+1))+1))+1)) 3)==0)})))
 else
  some (.inr (some (v1,v3)))
noncomputable def zc5 (a0:List zaa) (a1:Int):Option (Int × List zaa):=
 zau (fun s:Int × Int × List zaa=>zaI s.1 s.2.1 s.2.2) (a1,0,a0)
noncomputable def zcN (a0:zaV) (a1:Int):Option (Int × zaV):=
 (zc5 a0.fList a1).bind fun v1=>
 some (v1.1,(⟨a0.fFrom,a0.fTo,v1.2⟩:zaV))
noncomputable def zaY (a0:List zab) (v1:Int) (v2:Int):Option ((Int × Int) ⊕ Option (Int)):=
 if(decide (v2<(a0.length:Int)))then
  (zce a0 v2).bind fun y3=>
  (zar v1).bind fun v4=>
  if(y3.fKey !=v4)then
   some (.inr (some (-1)))
  else
   (zar (IntKind.i64.wrap (v1+1))).bind fun v5=>
   if(y3.fVal !=v5)then
    some (.inr (some (-1)))
   else
    if(y3.fGone !=((Int.tmod (IntKind.i64.wrap ((IntKind.i64.wrap (v1+1))+1)) 3)==0))then
     some (.inr (some (-1)))
    else
     some (.inl ((IntKind.i64.wrap ((IntKind.i64.wrap ((IntKind.i64.wrap (v1+1))+1))+1)),(IntKind.i64.wrap (v2+1))))
 else
  some (.inr (some v1))
noncomputable def zd7 (a0:List zab) (a1:Int):Option (Int):=
 zau (fun s:Int × Int=>zaY a0 s.1 s.2) (a1,0)
noncomputable def zcL (a0:zaS) (a1:Int):Option (Int):=
 (zd7 a0.fRows a1).bind fun v1=>
 if(decide (v1<0))then
  some (-1)
 else
  some v1
noncomputable def zbD (a0:zaS) (a1:zaV):Option (Bool):=
 (zeN a0 1048576).bind fun v1=>
 if(decide (v1<0))then
  some true
 else
  (ze4 a1 v1).bind fun v2=>
  if(decide (v2<0))then
   some true
  else
   (zcp a0).bind fun v3=>
   (zcm a1).bind fun v4=>
   (zep v3 v4).bind fun v5=>
   (zcp a0).bind fun v6=>
   (zcm a1).bind fun v7=>
   (zdc v6 v7).bind fun v8=>
   (zch v8.1 v5.1).bind fun v9=>
   if((!v9)||(v8.2 !=v5.2))then
    some false
   else
    (zcp a0).bind fun v10=>
    (zch v6 v10).bind fun v11=>
    if(!v11)then
     some false
    else
     (zcm a1).bind fun v12=>
     (zcj v7 v12).bind fun v13=>
     if(!v13)then
      some false
     else
      (zcP v6 1).bind fun v14=>
      (zcN v7 v14.1).bind fun v15=>
      if(decide (v15.1<0))then
       some false
      else
       (zch v8.1 v5.1).bind fun v16=>
       if((!v16)||(v8.2 !=v5.2))then
        some false
       else
        (zcP v8.1 1).bind fun v17=>
        (zcL (⟨v8.1.fTime,v17.2.fRows⟩:zaS) 1).bind fun v18=>
        if(decide (v18<0))then
         some false
        else
         if(v18 !=v17.1)then
          some false
         else
          (zcp a0).bind fun v19=>
          (zcm a1).bind fun v20=>
          (zdc v19 v20).bind fun v21=>
          (zch v21.1 v5.1).bind fun v22=>
          if((!v22)||(v21.2 !=v5.2))then
           some false
          else
           (zcL (⟨v8.1.fTime,v17.2.fRows⟩:zaS) 1).bind fun v23=>
           if(decide (v23<0))then
            some false
           else
            if(v23 !=v17.1)then
             some false
            else
             some true
noncomputable def zfr (a0:zeB) (a1:Int):Option (Int):=
 if(decide ((IntKind.i64.wrap (a1-(a0.fVal.length:Int)))<0))then
  some (-1)
 else
  some (IntKind.i64.wrap (a1-(a0.fVal.length:Int)))
noncomputable def zbB (a0:List zeB) (v1:Int) (v2:Int):Option ((Int × Int) ⊕ Option (Int)):=
 if(decide (v2<(a0.length:Int)))then
  (zce a0 v2).bind fun y3=>
  (zfr y3 v1).bind fun v4=>
  if(decide (v4<0))then
   some (.inr (some (-1)))
  else
   some (.inl (v4,(IntKind.i64.wrap (v2+1))))
 else
  some (.inr (some v1))
noncomputable def zeT (a0:List zeB) (a1:Int):Option (Int):=
 if(decide ((IntKind.i64.wrap (a1-(a0.length:Int)))<0))then
  some (-1)
 else
  zau (fun s:Int × Int=>zbB a0 s.1 s.2) ((IntKind.i64.wrap (a1-(a0.length:Int))),0)
noncomputable def zeS (a0:zat) (a1:Int):Option (Int):=
 if(decide ((IntKind.i64.wrap (a1-(a0.fKey.length:Int)))<0))then
  some (-1)
 else
  (zeT a0.fVers (IntKind.i64.wrap (a1-(a0.fKey.length:Int)))).bind fun v1=>
  if(decide (v1<0))then
   some (-1)
  else
   some v1
noncomputable def zbp (a0:List zat) (v1:Int) (v2:Int):Option ((Int × Int) ⊕ Option (Int)):=
 if(decide (v2<(a0.length:Int)))then
  (zce a0 v2).bind fun y3=>
  (zeS y3 v1).bind fun v4=>
  if(decide (v4<0))then
   some (.inr (some (-1)))
  else
   some (.inl (v4,(IntKind.i64.wrap (v2+1))))
 else
  some (.inr (some v1))
noncomputable def zed (a0:List zat) (a1:Int):Option (Int):=
 if(decide ((IntKind.i64.wrap (a1-(a0.length:Int)))<0))then
  some (-1)
 else
  zau (fun s:Int × Int=>zbp a0 s.1 s.2) ((IntKind.i64.wrap (a1-(a0.length:Int))),0)
noncomputable def zgC (a0:zeB):Option (zeB):=
 some a0
noncomputable def zcw (a0:List zeB) (v1:Int) (v2:List zeB):Option ((Int × List zeB) ⊕ Option (List zeB)):=
 if(decide (v1<(a0.length:Int)))then
  (zce a0 v1).bind fun y3=>
  (zgC y3).bind fun v4=>
  (zce v2 v1).bind fun y5=>
  some (.inl ((IntKind.i64.wrap (v1+1)),(v2.set (v1).toNat v4)))
 else
  some (.inr (some v2))
noncomputable def ze2 (a0:List zeB):Option (List zeB):=
 req (0≤(a0.length:Int)∧(a0.length:Int)*32≤140737488355328∧(a0.length:Int)≤140737488355328)<|
 zau (fun s:Int × List zeB=>zcw a0 s.1 s.2) (0,(List.replicate ((a0.length:Int)).toNat (⟨0,([]:List UInt8),false⟩:zeB)))
noncomputable def ze3 (a0:zat):Option (zat):=
 (ze2 a0.fVers).bind fun v1=>
 some (⟨a0.fKey,v1⟩:zat)
noncomputable def zb5 (a0:List zat) (v1:Int) (v2:List zat):Option ((Int × List zat) ⊕ Option (List zat)):=
 if(decide (v1<(a0.length:Int)))then
  (zce a0 v1).bind fun y3=>
  (ze3 y3).bind fun v4=>
  (zce v2 v1).bind fun y5=>
  some (.inl ((IntKind.i64.wrap (v1+1)),(v2.set (v1).toNat v4)))
 else
  some (.inr (some v2))
noncomputable def zbM (a0:List zat):Option (List zat):=
 req (0≤(a0.length:Int)∧(a0.length:Int)*40≤140737488355328∧(a0.length:Int)≤140737488355328)<|
 zau (fun s:Int × List zat=>zb5 a0 s.1 s.2) (0,(List.replicate ((a0.length:Int)).toNat (⟨([]:List UInt8), []⟩:zat)))
noncomputable def ze7 (a0:Int):Option (Bool):=
 (zbL a0 1 100000).bind fun v1=>
 some v1
noncomputable def zeG (a0:zat):Option (Bool):=
 (zeA a0.fKey).bind fun v1=>
 if v1 then
  (zbL (a0.fVers.length:Int) 1 16).bind fun v2=>
  some v2
 else
  some false
noncomputable def zbg (a0:zat) (v3:Int):Option ((Int) ⊕ Option (Bool)):=
 if(decide (v3<(a0.fVers.length:Int)))then
  (zce a0.fVers v3).bind fun y4=>
  (ze7 y4.fTime).bind fun v5=>
  if v5 then
   (zcz a0.fKey y4.fVal y4.fGone).bind fun v6=>
   if(decide (v3>0))then
    if v6 then
     (zce a0.fVers (IntKind.i64.wrap (v3-1))).bind fun y7=>
     if(decide (y7.fTime≥y4.fTime))then
      some (.inr (some false))
     else
      some (.inl (IntKind.i64.wrap (v3+1)))
    else
     some (.inr (some false))
   else
    if((!v6)||false)then
     some (.inr (some false))
    else
     some (.inl (IntKind.i64.wrap (v3+1)))
  else
   some (.inr (some false))
 else
  some (.inr (zeG a0))
noncomputable def ze6 (a0:zat):Option (Bool):=
 zau (fun s:Int=>zbg a0 s) 0
noncomputable def zeH (a0:List zat):Option (Bool):=
 some (decide ((a0.length:Int)≤24))
noncomputable def zbh (a0:List zat) (v1:Int):Option ((Int) ⊕ Option (Bool)):=
 if(decide (v1<(a0.length:Int)))then
  (zce a0 v1).bind fun y2=>
  (ze6 y2).bind fun v3=>
  if(decide (v1>0))then
   if v3 then
    (zce a0 (IntKind.i64.wrap (v1-1))).bind fun y4=>
    if(!Op.bytesLess y4.fKey y2.fKey)then
     some (.inr (some false))
    else
     some (.inl (IntKind.i64.wrap (v1+1)))
   else
    some (.inr (some false))
  else
   if((!v3)||false)then
    some (.inr (some false))
   else
    some (.inl (IntKind.i64.wrap (v1+1)))
 else
  some (.inr (zeH a0))
noncomputable def zeV (a0:List zat):Option (Bool):=
 zau (fun s:Int=>zbh a0 s) 0
noncomputable def zde (a0:List zaa) (a1:zaa) (v1:Int):Option (List zaa × Bool):=
 if(decide (v1<(a0.length:Int)))then
  (zce a0 v1).bind fun y2=>
  (zbZ a1 y2).bind fun v3=>
  if(!v3)then
   some (a0,(y2.fTime==a1.fTime&&(y2.fGroup==a1.fGroup&&(y2.fKey==a1.fKey&&(y2.fVal==a1.fVal&&(y2.fGone==a1.fGone))))))
  else
   req (0≤(0:Int)∧(0:Int)≤v1∧v1≤(a0.length:Int))<|
   req (((([]:List zaa).length:Int)+(((zho a0 0 v1)).length:Int))*56≤140737488355328∧(([]:List zaa).length:Int)+(((zho a0 0 v1)).length:Int)≤140737488355328)<|
   req (((((zho a0 0 v1)).length:Int)+(([a1]:List zaa).length:Int))*56≤140737488355328∧(((zho a0 0 v1)).length:Int)+(([a1]:List zaa).length:Int)≤140737488355328)<|
   req (0≤v1∧v1≤(a0.length:Int)∧(a0.length:Int)≤(a0.length:Int))<|
   req ((((((zho a0 0 v1)++ [a1])).length:Int)+(((zho a0 v1 (a0.length:Int))).length:Int))*56≤140737488355328∧((((zho a0 0 v1)++ [a1])).length:Int)+(((zho a0 v1 (a0.length:Int))).length:Int)≤140737488355328)<|
   some ((((zho a0 0 v1)++ [a1])++(zho a0 v1 (a0.length:Int))),true)
 else
  req (0≤(0:Int)∧(0:Int)≤v1∧v1≤(a0.length:Int))<|
  req (((([]:List zaa).length:Int)+(((zho a0 0 v1)).length:Int))*56≤140737488355328∧(([]:List zaa).length:Int)+(((zho a0 0 v1)).length:Int)≤140737488355328)<|
  req (((((zho a0 0 v1)).length:Int)+(([a1]:List zaa).length:Int))*56≤140737488355328∧(((zho a0 0 v1)).length:Int)+(([a1]:List zaa).length:Int)≤140737488355328)<|
  req (0≤v1∧v1≤(a0.length:Int)∧(a0.length:Int)≤(a0.length:Int))<|
  req ((((((zho a0 0 v1)++ [a1])).length:Int)+(((zho a0 v1 (a0.length:Int))).length:Int))*56≤140737488355328∧((((zho a0 0 v1)++ [a1])).length:Int)+(((zho a0 v1 (a0.length:Int))).length:Int)≤140737488355328)<|
  some ((((zho a0 0 v1)++ [a1])++(zho a0 v1 (a0.length:Int))),true)
noncomputable def zcx (a0:List zaa) (a1:zaa) (v4:Int):Option ((Int) ⊕ Option (List zaa × Bool)):=
 if(decide (v4<(a0.length:Int)))then
  (zce a0 v4).bind fun y5=>
  (zbZ y5 a1).bind fun v6=>
  if v6 then
   some (.inl (IntKind.i64.wrap (v4+1)))
  else
   some (.inr (zde a0 a1 v4))
 else
  some (.inr (zde a0 a1 v4))
noncomputable def zdR (a0:List zaa) (a1:zaa):Option (List zaa × Bool):=
 zau (fun s:Int=>zcx a0 a1 s) 0
noncomputable def zfj (v2:Int) (v3:List zaa):Option ((List zaa × Int) ⊕ Option (List zaa)):=
 some (.inl (v3,(IntKind.i64.wrap (v2+1))))
noncomputable def zdN (a0:List zat) (a1:Int) (a2:Int) (a3:Int) (v2:Int) (v4:List zaa) (v5:Int):Option ((List zaa × Int) ⊕ Option ((List zaa × Int) ⊕ Option (List zaa))):=
 (zce a0 v2).bind fun y6=>
 if(decide (v5<(y6.fVers.length:Int)))then
  (zce y6.fVers v5).bind fun y7=>
  if((decide (y7.fTime>a2))&&(decide (y7.fTime≤a3)))then
   (zdR v4 (⟨y7.fTime,a1,y6.fKey,y7.fVal,y7.fGone⟩:zaa)).bind fun v8=>
   some (.inl (v8.1,(IntKind.i64.wrap (v5+1))))
  else
   some (.inl (v4,(IntKind.i64.wrap (v5+1))))
 else
  some (.inr (zfj v2 v4))
noncomputable def zdK (a0:List zat) (a1:Int) (a2:Int) (a3:Int) (v1:List zaa) (v2:Int):Option ((List zaa × Int) ⊕ Option (List zaa)):=
 if(decide (v2<(a0.length:Int)))then
  zau (fun s:List zaa × Int=>zdN a0 a1 a2 a3 v2 s.1 s.2) (v1,0)
 else
  some (.inr (some v1))
noncomputable def zfu (a0:List zat) (a1:Int) (a2:Int) (a3:Int):Option (List zaa):=
 zau (fun s:List zaa × Int=>zdK a0 a1 a2 a3 s.1 s.2) ([],0)
noncomputable def zgA (a0:zaV):Option (zaV × Bool):=
 (zcy a0).bind fun v1=>
 if(!v1)then
  some ((⟨0,0, []⟩:zaV),false)
 else
  some (a0,true)
noncomputable def zeW (a0:List zat) (a1:Int) (a2:Int):Option (zaV × Bool):=
 (zeV a0).bind fun v1=>
 if(!v1)then
  some ((⟨0,0, []⟩:zaV),false)
 else
  (zfu a0 0 a1 a2).bind fun v2=>
  (zgA (⟨a1,a2,v2⟩:zaV)).bind fun v3=>
  some (v3.1,v3.2)
noncomputable def zeJ (a0:zat):Option (Bool):=
 (zck (a0.fVers.length:Int) 1 16).bind fun v1=>
 some v1
noncomputable def zbi (a0:zat) (v2:Int):Option ((Int) ⊕ Option (Bool)):=
 if(decide (v2<(a0.fVers.length:Int)))then
  (zce a0.fVers v2).bind fun y3=>
  (zc2 y3.fTime).bind fun v4=>
  if v4 then
   (zb9 y3.fVal y3.fGone).bind fun v5=>
   if(decide (v2>0))then
    if v5 then
     (zce a0.fVers (IntKind.i64.wrap (v2-1))).bind fun y6=>
     if(decide (y3.fTime≤y6.fTime))then
      some (.inr (some false))
     else
      some (.inl (IntKind.i64.wrap (v2+1)))
    else
     some (.inr (some false))
   else
    if((!v5)||false)then
     some (.inr (some false))
    else
     some (.inl (IntKind.i64.wrap (v2+1)))
  else
   some (.inr (some false))
 else
  some (.inr (zeJ a0))
noncomputable def zeX (a0:zat):Option (Bool):=
 zau (fun s:Int=>zbi a0 s) 0
noncomputable def zcg (a0:List zat) (v1:List (List UInt8)):Option (Bool):=
 if(decide ((a0.length:Int)≤24))then
  (zcv v1).bind fun v2=>
  some v2
 else
  some false
noncomputable def zbs (a0:List zat) (v3:Int) (v4:List (List UInt8)):Option ((Int × List (List UInt8)) ⊕ Option (Bool)):=
 if(decide (v3<(a0.length:Int)))then
  (zce a0 v3).bind fun y5=>
  (zeX y5).bind fun v6=>
  if(!v6)then
   some (.inr (some false))
  else
   req ((((v4).length:Int)+(([y5.fKey]:List (List UInt8)).length:Int))*16≤140737488355328∧((v4).length:Int)+(([y5.fKey]:List (List UInt8)).length:Int)≤140737488355328)<|
   some (.inl ((IntKind.i64.wrap (v3+1)),(v4++ [y5.fKey])))
 else
  some (.inr (zcg a0 v4))
noncomputable def zdi (a0:List zat):Option (Bool):=
 zau (fun s:Int × List (List UInt8)=>zbs a0 s.1 s.2) (0, [])
noncomputable def zd0 (v1:List zaa):Option (List zaa):=
 (zf3 88 [] v1).bind fun v2=>
 some v2.2
noncomputable def zd6 (v3:Int) (v6:List zaa):Option ((Int × List zaa) ⊕ Option (List zaa)):=
 some (.inl ((IntKind.i64.wrap (v3+1)),v6))
noncomputable def zc1 (a1:Int) (a2:Int) (a3:Int) (v3:Int) (y5:zat) (v7:Int) (v8:List zaa):Option ((Int × List zaa) ⊕ Option ((Int × List zaa) ⊕ Option (List zaa))):=
 if(decide (v7<(y5.fVers.length:Int)))then
  (zce y5.fVers v7).bind fun y9=>
  if((decide (y9.fTime>a2))&&(decide (y9.fTime≤a3)))then
   req ((((v8).length:Int)+(([(⟨y9.fTime,a1,y5.fKey,y9.fVal,y9.fGone⟩:zaa)]:List zaa).length:Int))*56≤140737488355328∧((v8).length:Int)+(([(⟨y9.fTime,a1,y5.fKey,y9.fVal,y9.fGone⟩:zaa)]:List zaa).length:Int)≤140737488355328)<|
   some (.inl ((IntKind.i64.wrap (v7+1)),(v8++ [(⟨y9.fTime,a1,y5.fKey,y9.fVal,y9.fGone⟩:zaa)])))
  else
   some (.inl ((IntKind.i64.wrap (v7+1)),v8))
 else
  some (.inr (zd6 v3 v8))
noncomputable def zcU (a0:zl8) (a1:Int) (a2:Int) (a3:Int) (v3:Int) (v4:List zaa):Option ((Int × List zaa) ⊕ Option (List zaa)):=
 if(decide (v3<(a0.fCells.length:Int)))then
  (zce a0.fCells v3).bind fun y5=>
  zau (fun s:Int × List zaa=>zc1 a1 a2 a3 v3 y5 s.1 s.2) (0,v4)
 else
  some (.inr (zd0 v4))
noncomputable def zei (a0:zl8) (a1:Int) (a2:Int) (a3:Int):Option (List zaa):=
 zau (fun s:Int × List zaa=>zcU a0 a1 a2 a3 s.1 s.2) (0, [])
noncomputable def zf6 (a0:zaV):Option (zaV × Bool):=
 (zcb a0).bind fun v1=>
 if(!v1)then
  some ((⟨0,0, []⟩:zaV),false)
 else
  some (a0,true)
noncomputable def zdM (a0:List zat) (a1:Int) (a2:Int):Option (zaV × Bool):=
 (zdi a0).bind fun v1=>
 if(!v1)then
  some ((⟨0,0, []⟩:zaV),false)
 else
  (zei (⟨0,a0, [], []⟩:zl8) 0 a1 a2).bind fun v2=>
  (zf6 (⟨a1,a2,v2⟩:zaV)).bind fun v3=>
  some (v3.1,v3.2)
noncomputable def zfq (a0:zeB) (a1:zeB):Option (Bool):=
 if(a0.fTime !=a1.fTime)then
  some false
 else
  if(a0.fVal !=a1.fVal)then
   some false
  else
   if(a0.fGone !=a1.fGone)then
    some false
   else
    some true
noncomputable def zcr (a0:List zeB) (a1:List zeB) (v1:Int):Option ((Int) ⊕ Option (Bool)):=
 if(decide (v1<(a0.length:Int)))then
  (zce a0 v1).bind fun y2=>
  (zce a1 v1).bind fun y3=>
  (zfq y2 y3).bind fun v4=>
  if(!v4)then
   some (.inr (some false))
  else
   some (.inl (IntKind.i64.wrap (v1+1)))
 else
  some (.inr (some true))
noncomputable def zeQ (a0:List zeB) (a1:List zeB):Option (Bool):=
 if((a0.length:Int) !=(a1.length:Int))then
  some false
 else
  zau (fun s:Int=>zcr a0 a1 s) 0
noncomputable def ze9 (a0:zat) (a1:zat):Option (Bool):=
 if(a0.fKey !=a1.fKey)then
  some false
 else
  (zeQ a0.fVers a1.fVers).bind fun v1=>
  if(!v1)then
   some false
  else
   some true
noncomputable def zb6 (a0:List zat) (a1:List zat) (v1:Int):Option ((Int) ⊕ Option (Bool)):=
 if(decide (v1<(a0.length:Int)))then
  (zce a0 v1).bind fun y2=>
  (zce a1 v1).bind fun y3=>
  (ze9 y2 y3).bind fun v4=>
  if(!v4)then
   some (.inr (some false))
  else
   some (.inl (IntKind.i64.wrap (v1+1)))
 else
  some (.inr (some true))
noncomputable def zeg (a0:List zat) (a1:List zat):Option (Bool):=
 if((a0.length:Int) !=(a1.length:Int))then
  some false
 else
  zau (fun s:Int=>zb6 a0 a1 s) 0
noncomputable def zbf (v1:Int) (v2:Int) (v3:List zeB):Option ((Int × Int × List zeB) ⊕ Option (Int × List zeB)):=
 if(decide (v2<(v3.length:Int)))then
  (zce v3 v2).bind fun y4=>
  (zar (IntKind.i64.wrap (v1+1))).bind fun v5=>
  some (.inl ((IntKind.i64.wrap ((IntKind.i64.wrap ((IntKind.i64.wrap (v1+1))+1))+1)),(IntKind.i64.wrap (v2+1)),(((v3.set (v2).toNat {y4 with fTime:=v1}).set (v2).toNat {{y4 with fTime:=v1}with fVal:=v5}).set (v2).toNat {{{y4 with fTime:=v1}with fVal:=v5}with fGone:=((Int.tmod (IntKind.i64.wrap ((IntKind.i64.wrap (v1+1))+1)) 3)==0)})))
 else
  some (.inr (some (v1,v3)))
noncomputable def zfm (a0:List zeB) (a1:Int):Option (Int × List zeB):=
 zau (fun s:Int × Int × List zeB=>zbf s.1 s.2.1 s.2.2) (a1,0,a0)
noncomputable def za3 (v1:Int) (v2:Int) (v3:List zat):Option ((Int × Int × List zat) ⊕ Option (Int × List zat)):=
 if(decide (v2<(v3.length:Int)))then
  (zar v1).bind fun v4=>
  (zce v3 v2).bind fun y5=>
  (zfm ({y5 with fKey:=v4}.fVers) (IntKind.i64.wrap (v1+1))).bind fun v6=>
  some (.inl (v6.1,(IntKind.i64.wrap (v2+1)),((v3.set (v2).toNat {y5 with fKey:=v4}).set (v2).toNat {{y5 with fKey:=v4}with fVers:=v6.2})))
 else
  some (.inr (some (v1,v3)))
noncomputable def zeE (a0:List zat) (a1:Int):Option (Int × List zat):=
 zau (fun s:Int × Int × List zat=>za3 s.1 s.2.1 s.2.2) (a1,0,a0)
noncomputable def zaK (a0:List zaa) (v1:Int) (v2:Int):Option ((Int × Int) ⊕ Option (Int)):=
 if(decide (v2<(a0.length:Int)))then
  (zce a0 v2).bind fun y3=>
  if(y3.fTime !=v1)then
   some (.inr (some (-1)))
  else
   if(y3.fGroup !=(IntKind.i64.wrap (v1+1)))then
    some (.inr (some (-1)))
   else
    (zar (IntKind.i64.wrap ((IntKind.i64.wrap (v1+1))+1))).bind fun v4=>
    if(y3.fKey !=v4)then
     some (.inr (some (-1)))
    else
     (zar (IntKind.i64.wrap ((IntKind.i64.wrap ((IntKind.i64.wrap (v1+1))+1))+1))).bind fun v5=>
     if(y3.fVal !=v5)then
      some (.inr (some (-1)))
     else
      if(y3.fGone !=((Int.tmod (IntKind.i64.wrap ((IntKind.i64.wrap ((IntKind.i64.wrap ((IntKind.i64.wrap (v1+1))+1))+1))+1)) 3)==0))then
       some (.inr (some (-1)))
      else
       some (.inl ((IntKind.i64.wrap ((IntKind.i64.wrap ((IntKind.i64.wrap ((IntKind.i64.wrap ((IntKind.i64.wrap (v1+1))+1))+1))+1))+1)),(IntKind.i64.wrap (v2+1))))
 else
  some (.inr (some v1))
noncomputable def zc6 (a0:List zaa) (a1:Int):Option (Int):=
 zau (fun s:Int × Int=>zaK a0 s.1 s.2) (a1,0)
noncomputable def zcQ (a0:zaV) (a1:Int):Option (Int):=
 (zc6 a0.fList a1).bind fun v1=>
 if(decide (v1<0))then
  some (-1)
 else
  some v1
noncomputable def zbW (a0:List zat) (a1:Int) (a2:Int):Option (Bool):=
 (zed a0 1048576).bind fun v1=>
 if(decide (v1<0))then
  some true
 else
  (zbM a0).bind fun v2=>
  (zeW v2 a1 a2).bind fun v3=>
  (zbM a0).bind fun v4=>
  (zdM v4 a1 a2).bind fun v5=>
  (zcj v5.1 v3.1).bind fun v6=>
  if((!v6)||(v5.2 !=v3.2))then
   some false
  else
   (zbM a0).bind fun v7=>
   (zeg v4 v7).bind fun v8=>
   if(!v8)then
    some false
   else
    (zeE v4 1).bind fun v9=>
    if(decide (v9.1<0))then
     some false
    else
     (zcj v5.1 v3.1).bind fun v10=>
     if((!v10)||(v5.2 !=v3.2))then
      some false
     else
      (zcN v5.1 1).bind fun v11=>
      (zcQ (⟨v5.1.fFrom,v5.1.fTo,v11.2.fList⟩:zaV) 1).bind fun v12=>
      if(decide (v12<0))then
       some false
      else
       if(v12 !=v11.1)then
        some false
       else
        (zbM a0).bind fun v13=>
        (zdM v13 a1 a2).bind fun v14=>
        (zcj v14.1 v3.1).bind fun v15=>
        if((!v15)||(v14.2 !=v3.2))then
         some false
        else
         (zcQ (⟨v5.1.fFrom,v5.1.fTo,v11.2.fList⟩:zaV) 1).bind fun v16=>
         if(decide (v16<0))then
          some false
         else
          if(v16 !=v11.1)then
           some false
          else
           some true
end Go.Proofs.Ythgeekoigbihbaa
end
section
namespace Go.Proofs.Ythgeekoigbihbaa
open Go.RowKit
set_option maxRecDepth 100000
abbrev Str:=List UInt8
def inB (a b c:Int):Bool:=decide (a≥b)&&decide (a≤c)
theorem zeM {a b c:Int}:inB a b c=true↔b≤a∧a≤c:=by simp [inB]
@[simp] theorem zi2 (a b c:Int):zbL a b c=some (inB a b c):=rfl
@[simp] theorem zfT (a b c:Int):zck a b c=some (inB a b c):=rfl
def zgz (b:UInt8):Bool:=(decide ((b.toNat:Int)≥97)&&decide ((b.toNat:Int)≤122))||(decide ((b.toNat:Int)≥48)&&decide ((b.toNat:Int)≤57))
def ziL (s more:Str):Bool:=s.all fun b=>zgz b||more.contains b
theorem zw2 {a b:UInt8}:((a.toNat:Int)==(b.toNat:Int))=(a==b):=by
 rw [Bool.eq_iff_iff]
 simp only [beq_iff_eq]
 constructor
 ·intro h;exact UInt8.toNat_inj.1 (by omega)
 ·rintro rfl;rfl
theorem znq {α:Type} (xs:List α) (p:α→Bool) (q:Nat→Bool) (h: ∀(i:Nat) (hi:i<xs.length),q i=p xs[i]):(List.range xs.length).all q=xs.all p:=by
 rw [Bool.eq_iff_iff]
 simp only [List.all_eq_true,List.mem_range]
 constructor
 ·intro hq x hx
  obtain⟨i,hi,rfl⟩:=List.getElem_of_mem hx
  rw [←h i hi];exact hq i hi
 ·intro hp i hi
  rw [h i hi];exact hp _ (List.getElem_mem hi)
theorem zjC {α β:Type} {xs:List α} {body:Int→Option (Int ⊕ Option β)} (p:α→Bool) (b:β) (fin:Option β)
  (hs: ∀(i:Nat) (hi:i<xs.length),body i=some (if p xs[i]=true then .inl ((i+1:Nat):Int)else .inr (some b))) (he:body xs.length=some (.inr fin)):zau body 0=if xs.all p=true then fin else some b:=by
 rw [zir (n:=xs.length) (fun i=>match xs[i]? with|some x=>p x|none=>true) b fin (fun i hi=>by rw [hs i hi];simp [hi]) he,
  znq xs p _ fun i hi=>by simp [hi]]
theorem zoz {s more:Str} (h1:s.length≤2000000) (h2:more.length≤2000000):zdd s more=some (ziL s more):=by
 unfold zdd
 rw [zjC (xs:=s) (fun b=>zgz b||more.contains b) false (some true) ?_ (by simp [zdY])]
 ·unfold ziL
  cases(s.all fun b=>zgz b||more.contains b)<;>rfl
 ·intro i hi
  have hin:zau (fun t:Bool × Int=>zb0 more i s[i] t.1 t.2) (zgz s[i],0)=some (if(zgz s[i]||more.contains s[i])=true then .inl ((i+1:Nat):Int)else .inr (some false)):=by
   have hl:=znW (xs:=more) (body:=fun t:Bool × Int=>zb0 more i s[i] t.1 t.2) (fun k (ok:Bool)=>(ok,k)) (fun b ok=>some (.inl (ok||s[i]==b))) (fun ok=>zea i ok)
    (fun k hk ok=>by
     simp only [zb0,Int.ofNat_lt,hk,decide_true,if_true,zag hk,Option.bind_some,zbT hk (by omega:more.length≤_),zw2,zpd]
     cases ok<;>simp) (fun ok=>by simp [zb0]) (zgz s[i])
   rw [ztz (fun ok b=>ok||s[i]==b) (fun _=>True) (fun _ _ _ _=>trivial) (fun _ _ _ _=>rfl) trivial]at hl
   have hf: ∀(l:Str) (ok:Bool),l.foldl (fun ok b=>ok||s[i]==b) ok=(ok||l.contains s[i]):=by
    intro l
    induction l with
    |nil=>intro ok;simp
    |cons c l ih=>intro ok;rw [List.foldl_cons,ih,List.contains_cons,Bool.or_assoc]
   rw [hl,hf]
   unfold zea
   rw [zbT hi (by omega)]
   cases(zgz s[i]||more.contains s[i])<;>rfl
  simp only [zdY,Int.ofNat_lt,hi,decide_true,if_true,zag hi,Option.bind_some]
  exact hin
theorem zm9 (l:Str) (c:UInt8):decide (Lib.indexByte l c<0)= !l.contains c:=by
 induction l with
 |nil=>rfl
 |cons b l ih=>
  unfold Lib.indexByte
  have hge:=Lib.indexByte_ge l c
  rw [List.contains_cons]
  by_cases hb:b=c
  ·subst hb;simp
  ·have h1:(b==c)=false:=by simpa using hb
   have h2:(c==b)=false:=by simpa using fun h=>hb h.symm
   rw [h1,h2]
   simp only [Bool.false_eq_true,if_false,Bool.false_or]
   rw [←ih]
   by_cases hm:Lib.indexByte l c= -1
   ·simp [hm]
   ·have h3:(Lib.indexByte l c== -1)=false:=by simpa using hm
    rw [h3]
    simp only [Bool.false_eq_true,if_false]
    rw [decide_eq_decide]
    omega
theorem zlQ {s more:Str} (h1:s.length≤2000000):zcO s more=some (ziL s more):=by
 unfold zcO
 rw [zjC (xs:=s) (fun b=>zgz b||more.contains b) false (some true) ?_ (by simp [zdA])]
 ·unfold ziL
  cases(s.all fun b=>zgz b||more.contains b)<;>rfl
 ·intro i hi
  have hu:((s[i].toNat:Int)).toNat.toUInt8=s[i]:=by simp
  simp only [zdA,Int.ofNat_lt,hi,decide_true,if_true,zag hi,Option.bind_some,zcT,zdk,zaD,hu,zm9,zbT hi (by omega:s.length≤_)]
  rw [show((decide ((s[i].toNat:Int)≥97)&&decide ((s[i].toNat:Int)≤122))||(decide ((s[i].toNat:Int)≥48)&&decide ((s[i].toNat:Int)≤57)))=zgz s[i]from rfl]
  cases zgz s[i]<;>cases more.contains s[i]<;>rfl
def za6 (s:Str):Bool:=inB s.length 1 12&&ziL s [46,47]
def zgJ (s:Str):Bool:=decide ((s.length:Int)≤24)&&ziL s [46,45,44,95]
theorem ztG {s:Str} (h:s.length≤2000000):zeA s=some (za6 s):=by
 simp only [zeA,zi2,Option.bind_some,zoz h (more:= [46,47]) (by decide),za6]
 cases inB s.length 1 12<;>simp
theorem zt1 {s:Str} (h:s.length≤2000000):zdb s=some (za6 s):=by
 simp only [zdb,zfT,Option.bind_some,zlQ h,za6]
 cases inB s.length 1 12<;>simp
theorem zwc {s:Str} (h:s.length≤2000000):zfs s=some (zgJ s):=by
 simp only [zfs,Option.bind_some,zoz h (more:= [46,45,44,95]) (by decide),zgJ]
 by_cases hl:(s.length:Int)≤24<;>simp [hl]
theorem zvP {s:Str} (h:s.length≤2000000):zeh s=some (zgJ s):=by
 simp only [zeh,Option.bind_some,zlQ h,zgJ]
 by_cases hl:(s.length:Int)≤24<;>simp [hl]
def zdP (v:Str) (zoH:Bool):Bool:=zgJ v&&(!zoH||v== [])
theorem zii {v:Str} {zoH:Bool} (h:v.length≤2000000):zb9 v zoH=some (zdP v zoH):=by
 simp only [zb9,zvP h,Option.bind_some,zdP,bne]
 cases zgJ v<;>cases zoH<;>cases(v== [])<;>rfl
theorem zjB {k v:Str} {zoH:Bool} (hk:k.length≤2000000) (hv:v.length≤2000000):zcz k v zoH=some (za6 k&&zdP v zoH):=by
 simp only [zcz,ztG hk,zwc hv,Option.bind_some,zdP]
 cases za6 k<;>simp
def zdB (ks:List Str) (i:Nat):Bool:=i==0||Op.bytesLess ((ks[i-1]?).getD []) ((ks[i]?).getD [])
def zjX (ks:List Str):Bool:=(List.range ks.length).all (zdB ks)
theorem zpE: ∀(a b:Str),(Op.bytesLess a b||a==b)= !Op.bytesLess b a
 | [], []=>rfl
 | [],_::_=>rfl
 |_::_, []=>rfl
 |x::a,y::b=>by
  have ih:=zpE a b
  simp only [Op.bytesLess]
  rcases Nat.lt_trichotomy x.toNat y.toNat with h|h|h
  ·have h1:x<y:=UInt8.lt_iff_toNat_lt.2 h
   have h2: ¬y<x:=fun h'=>by have:=UInt8.lt_iff_toNat_lt.1 h';omega
   have h3: ¬y=x:=fun h'=>by subst h';omega
   simp [h1,h2,h3]
  ·have h0:x=y:=UInt8.toNat_inj.1 h
   subst h0
   have h1: ¬x<x:=fun h'=>by have:=UInt8.lt_iff_toNat_lt.1 h';omega
   rw [show((x::a)==(x::b))=(a==b) by simp]
   simp only [h1,decide_false,Bool.false_or,beq_self_eq_true,Bool.true_and]
   exact ih
  ·have h1: ¬x<y:=fun h'=>by have:=UInt8.lt_iff_toNat_lt.1 h';omega
   have h2:y<x:=UInt8.lt_iff_toNat_lt.2 h
   have h3: ¬x=y:=fun h'=>by subst h';omega
   simp [h1,h2,h3]
theorem zgL {i:Nat} (h0:0<i) (h:i≤2000000):IntKind.i64.wrap ((i:Int)-1)=((i-1:Nat):Int):=by
 rw [za0 (by omega) (by omega)];omega
theorem zqO {α:Type} (xs:List α) (p:α→Bool) (q r:Nat→Bool) (h: ∀(i:Nat) (hi:i<xs.length),r i=(p xs[i]&&q i)):(List.range xs.length).all r=(xs.all p&&(List.range xs.length).all q):=by
 rw [←znq xs p (fun i=>match xs[i]? with|some x=>p x|none=>true) fun i hi=>by simp [hi]]
 rw [Bool.eq_iff_iff]
 simp only [Bool.and_eq_true,List.all_eq_true,List.mem_range]
 constructor
 ·intro hr
  exact⟨fun i hi=>by have:=hr i hi;rw [h i hi,Bool.and_eq_true]at this;simpa [hi]using this.1,fun i hi=>by have:=hr i hi;rw [h i hi,Bool.and_eq_true]at this;exact this.2⟩
 ·rintro⟨h1,h2⟩ i hi
  rw [h i hi,Bool.and_eq_true]
  exact⟨by have:=h1 i hi;simpa [hi]using this,h2 i hi⟩
theorem zkg {ks:List Str} (h:ks.length≤2000000) (hk: ∀k∈ks,k.length≤2000000):zcv ks=some (ks.all za6&&zjX ks):=by
 unfold zcv zjX
 rw [zir (n:=ks.length) (fun i=>za6 ((ks[i]?).getD [])&&zdB ks i) false (some true) ?_ (by simp [zdo]),zqO ks za6 (zdB ks) _ fun i hi=>by simp [hi]]
 ·cases(ks.all za6&&(List.range ks.length).all (zdB ks))<;>rfl
 ·intro i hi
  simp only [zdo,Int.ofNat_lt,hi,decide_true,if_true,zag hi,Option.bind_some,zt1 (hk _ (List.getElem_mem hi)),zbT hi (by omega:ks.length≤_),List.getElem?_eq_getElem hi,Option.getD_some,zdB]
  by_cases h0:i=0
  ·subst h0
   cases za6 ks[0]<;>simp
  ·have hp:(i:Int)>0:=by omega
   have hi1:i-1<ks.length:=by omega
   have hb:(i==0)=false:=by simpa using h0
   simp only [hp,decide_true,if_true,zgL (Nat.pos_of_ne_zero h0) (by omega:i≤2000000),zag hi1,Option.bind_some,zpE,List.getElem?_eq_getElem hi1,Option.getD_some,hb,Bool.false_or]
   cases za6 ks[i]<;>cases Op.bytesLess ks[i-1] ks[i]<;>rfl
theorem zo3 {l:List zab} (h:l.length≤2000000):zdh l=some (l.map (·.fKey)):=by
 have h1:=zgt (xs:=l) (body:=fun s:Int × List Str=>za2 l s.1 s.2) (fun i (o:List Str)=>(i,o)) (fun o w=>o++ [w.fKey]) (fun o=>some o) (fun q o=>o.length=q)
  (fun i hi o hI=>by
   refine⟨?_,by simp [hI]⟩
   show za2 l i o=_
   unfold za2
   have hr:((o.length:Int)+(([l[i].fKey]:List Str).length:Int))*16≤140737488355328∧(o.length:Int)+(([l[i].fKey]:List Str).length:Int)≤140737488355328:=by
    rw [List.length_singleton,hI];omega
   rw [if_pos (by simpa using hi),zag hi,Option.bind_some,zaT hr,zbT hi (by omega)]) (fun o _=>by
   show za2 l l.length o=_
   unfold za2
   rw [if_neg (by simp)]) (s:= []) rfl
 have hf: ∀(l:List zab) (o:List Str),l.foldl (fun o w=>o++ [w.fKey]) o=o++l.map (·.fKey):=by
  intro l
  induction l with
  |nil=>intro o;simp
  |cons w l ih=>intro o;rw [List.foldl_cons,ih];simp
 have h2:=h1.1
 rw [hf,List.nil_append]at h2
 unfold zdh
 exact h2
def zjR (w:zab):Bool:=za6 w.fKey&&zdP w.fVal w.fGone
def zbr (l:List zab):Bool:=decide ((l.length:Int)≤24)&&(l.all zjR&&zjX (l.map (·.fKey)))
def zgh (l:List zab):Prop:=l.length≤2000000∧ ∀w∈l,w.fKey.length≤2000000∧w.fVal.length≤2000000
theorem zre {l:List zab} (h:zgh l):zcW l=some (zbr l):=by
 have e1:zaH l (fun y0_=>zci y0_)=some (l.any fun w=> !zdP w.fVal w.fGone):=zmW _ (fun w hw=>by simp [zci,zii (h.2 w hw).2]) (by have:=h.1;omega)
 have e2:=zkg (ks:=l.map (·.fKey)) (by simpa using h.1) (by simp only [List.mem_map];rintro k ⟨w,hw,rfl⟩;exact(h.2 w hw).1)
 simp only [zcW,zo3 h.1,e1,e2,Option.bind_some,zbr,←List.not_all_eq_any_not]
 have e3:l.all zjR=((l.map (·.fKey)).all za6&&l.all fun w=>zdP w.fVal w.fGone):=by
  rw [Bool.eq_iff_iff]
  simp only [List.all_eq_true,Bool.and_eq_true,zjR,List.mem_map]
  constructor
  ·intro h;exact⟨by rintro k ⟨w,hw,rfl⟩;exact(h w hw).1,fun w hw=>(h w hw).2⟩
  ·rintro⟨h1,h2⟩ w hw;exact⟨h1 _ ⟨w,hw,rfl⟩,h2 w hw⟩
 rw [e3]
 generalize (l.map (·.fKey)).all za6=b1
 generalize zjX (l.map (·.fKey))=b2
 generalize (l.all fun w=>zdP w.fVal w.fGone)=b3
 by_cases hl:(l.length:Int)≤24<;>cases b1<;>cases b2<;>cases b3<;>simp [hl]
theorem zrO {l:List zab} (h:zgh l):zdC l=some (zbr l):=by
 unfold zdC
 have hn:=h.1
 rw [zir (n:=l.length) (fun i=>zjR ((l[i]?).getD ⟨[], [],false⟩)&&zdB (l.map (·.fKey)) i) false (zdw l) ?_ (by simp [zdQ]),zqO l zjR (zdB (l.map (·.fKey))) _ fun i hi=>by simp [hi]]
 ·unfold zdw zbr zjX
  rw [List.length_map]
  cases(l.all zjR&&(List.range l.length).all (zdB (l.map (·.fKey))))<;>simp
 ·intro i hi
  have hm:=h.2 _ (List.getElem_mem hi)
  simp only [zdQ,Int.ofNat_lt,hi,decide_true,if_true,zag hi,Option.bind_some,zjB hm.1 hm.2,zbT hi (by omega:l.length≤_),List.getElem?_eq_getElem hi,Option.getD_some,zdB,List.getElem?_map,Option.map_some]
  rw [show(za6 l[i].fKey&&zdP l[i].fVal l[i].fGone)=zjR l[i]from rfl]
  by_cases h0:i=0
  ·subst h0
   cases zjR l[0]<;>simp
  ·have hp:(i:Int)>0:=by omega
   have hi1:i-1<l.length:=by omega
   have hb:(i==0)=false:=by simpa using h0
   simp only [hp,decide_true,if_true,zgL (Nat.pos_of_ne_zero h0) (by omega:i≤2000000),zag hi1,Option.bind_some,List.getElem?_eq_getElem hi1,Option.map_some,Option.getD_some,hb,Bool.false_or]
   cases zjR l[i]<;>cases Op.bytesLess l[i-1].fKey l[i].fKey<;>rfl
def zf0 (l:List zab):Bool:=zbr l&&l.all fun w=> !w.fGone
theorem zvf {l:List zab} (h:zgh l):ze5 l=some (zf0 l):=by
 have e1:zaH l (fun y0_=>zdH y0_)=some (l.any fun w=> !!w.fGone):=zmW _ (fun w hw=>by simp [zdH]) (by have:=h.1;omega)
 simp only [ze5,zre h,e1,Option.bind_some,zf0,←List.not_all_eq_any_not]
 cases zbr l<;>simp
end Go.Proofs.Ythgeekoigbihbaa
end
section
namespace Go.Proofs.Ythgeekoigbihbaa
open Go.RowKit
set_option maxRecDepth 100000
def zbu {α:Type} (r:α→α→Bool):List α→Bool
 | []=>true
 | [_]=>true
 |x::y::l=>r x y&&zbu r (y::l)
theorem zit {α:Type} {r:α→α→Bool} (ht: ∀a b c,r a b=true→r b c=true→r a c=true): ∀{l:List α},zbu r l=true↔l.Pairwise fun a b=>r a b=true
 | []=>by simp [zbu]
 | [_]=>by simp [zbu]
 |x::y::l=>by
  rw [zbu,Bool.and_eq_true,zit ht]
  constructor
  ·rintro⟨h1,h2⟩
   refine List.pairwise_cons.2 ⟨fun z hz=> ?_,h2⟩
   rcases List.mem_cons.1 hz with rfl|hz
   ·exact h1
   ·exact ht _ _ _ h1 ((List.pairwise_cons.1 h2).1 z hz)
  ·intro h
   have h:=List.pairwise_cons.1 h
   exact⟨h.1 y (by simp),h.2⟩
theorem zj6 {α:Type} {r:α→α→Bool} {l:List α} {q:Nat} (h:q+1<l.length):zbu r (l.drop q)=(r l[q] l[q+1]&&zbu r (l.drop (q+1))):=by
 rw [List.drop_eq_getElem_cons (show q<l.length by omega),List.drop_eq_getElem_cons h,zbu]
theorem zg9 {α β:Type} {xs:List α} {body:Int→Option (Int ⊕ Option β)} (p:α→Bool) (r:α→α→Bool) (b:β) (fin:Option β)
  (h0: ∀h:0<xs.length,body 0=some (if p xs[0]=true then .inl 1 else .inr (some b)))
  (hs: ∀i (h:i+1<xs.length),body ((i+1:Nat):Int)=some (if(p xs[i+1]&&r xs[i] xs[i+1])=true then .inl ((i+2:Nat):Int)else .inr (some b)))
  (he:body xs.length=some (.inr fin)):zau body 0=if(xs.all p&&zbu r xs)=true then fin else some b:=by
 have key: ∀n q,q+1+n=xs.length→zau body ((q+1:Nat):Int)=if((xs.drop (q+1)).all p&&zbu r (xs.drop q))=true then fin else some b:=by
  intro n
  induction n with
  |zero=>
   intro q hq
   rw [show((q+1:Nat):Int)=(xs.length:Int) by omega,zay,he]
   have e1:xs.drop (q+1)= []:=List.drop_eq_nil_of_le (by omega)
   have e2:xs.drop q= [xs[q]]:=by rw [List.drop_eq_getElem_cons (by omega),e1]
   rw [e1,e2]
   simp [zbu]
  |succ n ih=>
   intro q hq
   rw [zay,hs q (by omega),zj6 (by omega),List.drop_eq_getElem_cons (show q+1<xs.length by omega),List.all_cons]
   have ih:=ih (q+1) (by omega)
   by_cases hp:(p xs[q+1]&&r xs[q] xs[q+1])=true
   ·rw [if_pos hp]
    simp only [Bool.and_eq_true]at hp
    simp only [hp.1,hp.2,Bool.true_and]
    rw [←List.drop_eq_getElem_cons (show q+1<xs.length by omega)]
    exact ih
   ·rw [if_neg hp]
    rw [if_neg]
    intro h
    simp only [Bool.and_eq_true]at h hp
    exact hp ⟨h.1.1,h.2.1⟩
 by_cases hz:0<xs.length
 ·rw [zay,h0 hz]
  have:=key (xs.length-1) 0 (by omega)
  rw [List.drop_zero]at this
  have e:xs=xs[0]::xs.drop 1:=by rw [←List.drop_eq_getElem_cons hz,List.drop_zero]
  by_cases hp:p xs[0]=true
  ·rw [if_pos hp]
   show zau body ((0+1:Nat):Int)=_
   rw [this]
   have:xs.all p=(xs.drop 1).all p:=by rw [e,List.all_cons,hp,Bool.true_and];simp
   rw [this]
  ·rw [if_neg hp,if_neg]
   intro h
   simp only [Bool.and_eq_true,List.all_eq_true]at h
   exact hp (h.1 _ (List.getElem_mem hz))
 ·have:xs= []:=by cases xs with|nil=>rfl|cons=>simp at hz
  subst this
  rw [zay,show(0:Int)=(([]:List α).length:Int)from rfl,he]
  simp [zbu]
def zdl {α:Type} (lt:α→Bool) (l:List α):Nat:=(l.takeWhile lt).length
theorem ziP {α:Type} (lt:α→Bool): ∀l:List α,zdl lt l≤l.length
 | []=>by simp [zdl]
 |x::l=>by
  have:=ziP lt l
  unfold zdl at this ⊢
  rw [List.takeWhile_cons]
  split<;>simp<;>omega
theorem zoT {α:Type} {lt:α→Bool}: ∀{l:List α} {i:Nat} (h:i<zdl lt l),lt (l[i]'(Nat.lt_of_lt_of_le h (ziP lt l)))=true
 |x::l,i,h=>by
  unfold zdl at h
  rw [List.takeWhile_cons]at h
  split at h
  ·rename_i hx
   cases i with
   |zero=>exact hx
   |succ i=>exact zoT (l:=l) (i:=i) (by unfold zdl;simpa using h)
  ·simp at h
theorem zmj {α:Type} {lt:α→Bool}: ∀{l:List α} (h:zdl lt l<l.length),lt l[zdl lt l]=false
 |x::l,h=>by
  by_cases hx:lt x=true
  ·have e:zdl lt (x::l)=zdl lt l+1:=by unfold zdl;rw [List.takeWhile_cons,if_pos hx];rfl
   have:=zmj (l:=l) (lt:=lt) (by rw [e]at h;simpa using h)
   simp only [e,List.getElem_cons_succ]
   exact this
  ·have e:zdl lt (x::l)=0:=by unfold zdl;rw [List.takeWhile_cons,if_neg hx];rfl
   simp only [e,List.getElem_cons_zero]
   simpa using hx
theorem zuQ {α β:Type} {xs:List α} {body:Int × Int→Option ((Int × Int) ⊕ Option β)} {fin:Int→Option β} (lt:α→Bool) (hm: ∀i j (hj:j<xs.length) (hi:i≤j),lt xs[j]=true→lt xs[i]=true)
  (hs: ∀i j:Nat,i<j→j≤xs.length→(h:(i+j)/2<xs.length)→body ((i:Int),(j:Int))=some (.inl (if lt xs[(i+j)/2]=true then((((i+j)/2+1:Nat):Int),(j:Int))else((i:Int),(((i+j)/2:Nat):Int)))))
  (he: ∀i:Nat,i≤xs.length→body ((i:Int),(i:Int))=some (.inr (fin i))):zau body (0,(xs.length:Int))=fin (zdl lt xs):=by
 have key: ∀n i j:Nat,j-i≤n→i≤zdl lt xs→zdl lt xs≤j→j≤xs.length→zau body ((i:Int),(j:Int))=fin (zdl lt xs):=by
  intro n
  induction n with
  |zero=>
   intro i j h1 h2 h3 h4
   have:i=j:=by omega
   subst this
   have:i=zdl lt xs:=by omega
   rw [zay,he i h4,this]
  |succ n ih=>
   intro i j h1 h2 h3 h4
   by_cases hij:i=j
   ·subst hij
    have:i=zdl lt xs:=by omega
    rw [zay,he i h4,this]
   ·have hlt:(i+j)/2<xs.length:=by omega
    rw [zay,hs i j (by omega) h4 hlt]
    by_cases hc:lt xs[(i+j)/2]=true
    ·rw [if_pos hc]
     refine ih _ _ (by omega) ?_ h3 h4
     by_cases hp:(i+j)/2<zdl lt xs
     ·omega
     ·have h5:zdl lt xs<xs.length:=by omega
      have:=zmj h5
      rw [hm _ _ hlt (by omega) hc]at this
      cases this
    ·rw [if_neg hc]
     refine ih _ _ (by omega) h2 ?_ (by omega)
     by_cases hp:(i+j)/2<zdl lt xs
     ·exact absurd (zoT hp) hc
     ·omega
 exact key xs.length 0 xs.length (by omega) (by omega) (ziP lt xs) (Nat.le_refl _)
theorem zpw {α:Type} {key:α→List UInt8} {x:α}: ∀{l:List α},zld key l→zjA key x l=(match l[zdl (fun y=>bl (key y) (key x)) l]? with
  |some y=>if key y=key x then l.set (zdl (fun y=>bl (key y) (key x)) l) x else l.take (zdl (fun y=>bl (key y) (key x)) l)++ [x]++l.drop (zdl (fun y=>bl (key y) (key x)) l)
  |none=>l.take (zdl (fun y=>bl (key y) (key x)) l)++ [x]++l.drop (zdl (fun y=>bl (key y) (key x)) l))
 | [],_=>by simp [zjA,zdl]
 |y::l,h=>by
  have h1:=List.pairwise_cons.1 h
  unfold zjA
  by_cases hb:bl (key x) (key y)=true
  ·have e:zdl (fun z=>bl (key z) (key x)) (y::l)=0:=by unfold zdl;rw [List.takeWhile_cons,if_neg (by rw [zpp hb];simp)];rfl
   rw [if_pos hb,e]
   simp [(zkm hb).symm]
  ·rw [if_neg hb]
   by_cases hk:key x=key y
   ·have e:zdl (fun z=>bl (key z) (key x)) (y::l)=0:=by unfold zdl;rw [List.takeWhile_cons,if_neg (by rw [hk,zc9];simp)];rfl
    rw [if_pos hk,e]
    simp [hk]
   ·have hyx:=znF (by simpa using hb) hk
    have e:zdl (fun z=>bl (key z) (key x)) (y::l)=zdl (fun z=>bl (key z) (key x)) l+1:=by unfold zdl;rw [List.takeWhile_cons,if_pos hyx];rfl
    rw [if_neg hk,e,zpw h1.2]
    simp only [List.getElem?_cons_succ]
    split
    ·split<;>simp
    ·simp
theorem zpk {α:Type} {key:α→List UInt8} {x:α} {l:List α} (h:zld key l) (p:α→Bool):(zjA key x l).filter p=if p x=true then zjA key x (l.filter p)else(l.filter p).filter fun y=>decide (key y≠key x):=by
 split
 ·rename_i hp
  refine zld.ext ((zfl h).filter p) (zfl (h.filter p)) fun y=> ?_
  rw [List.mem_filter,zf4 h,zf4 (h.filter p),List.mem_filter]
  constructor
  ·rintro⟨rfl|⟨h1,h2⟩,h3⟩
   ·exact .inl rfl
   ·exact .inr ⟨⟨h1,h3⟩,h2⟩
  ·rintro(rfl|⟨⟨h1,h3⟩,h2⟩)
   ·exact⟨.inl rfl,hp⟩
   ·exact⟨.inr ⟨h1,h2⟩,h3⟩
 ·rename_i hp
  refine zld.ext ((zfl h).filter p) ((h.filter p).filter _) fun y=> ?_
  rw [List.mem_filter,zf4 h,List.mem_filter,List.mem_filter]
  simp only [decide_eq_true_eq]
  constructor
  ·rintro⟨rfl|⟨h1,h2⟩,h3⟩
   ·exact absurd h3 hp
   ·exact⟨⟨h1,h3⟩,h2⟩
  ·rintro⟨⟨h1,h3⟩,h2⟩
   exact⟨.inr ⟨h1,h2⟩,h3⟩
end Go.Proofs.Ythgeekoigbihbaa
end
section
namespace Go.Proofs.Ythgeekoigbihbaa
open Go.RowKit
set_option maxRecDepth 100000
theorem zv5 (s:Str):(s !=s)=false:=by simp
def ztV (a b:Str):Int:=if bl a b=true then-1 else if a=b then 0 else 1
@[simp] theorem zts (a:Str):zbw a=some false:=by simp [zbw]
@[simp] theorem zu8 (a:Int):zcs a=some false:=by simp [zcs]
@[simp] theorem zwe (a b:Str):za5 a b=some (ztV a b):=by
 unfold za5 ztV
 simp only [zts,Option.bind_some,Bool.false_eq_true,if_false]
 by_cases h:bl a b=true
 ·have:Op.bytesLess a b=true:=h
  simp [this]
 ·have h1:Op.bytesLess a b=false:=by simpa using h
  by_cases he:a=b
  ·subst he;simp [h1]
  ·simp [h1,he]
def zwV (a b:Int):Int:=if a<b then-1 else if a=b then 0 else 1
@[simp] theorem zvY (a b:Int):zbI a b=some (zwV a b):=by
 unfold zbI zwV
 simp only [zu8,Option.bind_some,Bool.false_eq_true,if_false]
 by_cases h:a<b
 ·simp [h]
 ·by_cases he:a=b
  ·subst he;simp
  ·have:b<a:=by omega
   simp [h,he,this]
theorem zuF {a b:Str}:decide (ztV a b<0)=bl a b:=by
 unfold ztV
 cases h:bl a b with
 |true=>simp
 |false=>by_cases he:a=b<;>simp [he]
theorem zuc {a b:Str}:(ztV a b==0)=decide (a=b):=by
 unfold ztV
 cases h:bl a b with
 |true=>simp [zkm h]
 |false=>by_cases he:a=b<;>simp [he]
theorem zv7 {i j:Nat} (h:i≤j) (hj:j≤2000000):IntKind.i64.wrap (Int.fdiv (IntKind.u64.wrap (IntKind.i64.wrap ((i:Int)+(j:Int)))) (2^(min ((1:Int)).toNat (IntKind.bits .u64))))=(((i+j)/2:Nat):Int):=by
 have e1:IntKind.i64.wrap ((i:Int)+(j:Int))=((i+j:Nat):Int):=by rw [za0 (by omega) (by omega)];simp
 have e2:IntKind.u64.wrap ((i+j:Nat):Int)=((i+j:Nat):Int):=by
  simp only [IntKind.wrap,IntKind.bits,IntKind.signed]
  simp
  omega
 have e3:(2:Int)^(min ((1:Int)).toNat (IntKind.bits .u64))=((2:Nat):Int):=rfl
 rw [e1,e2,e3,Int.fdiv_eq_ediv_of_nonneg _ (by omega),←Int.natCast_ediv,za0 (by omega) (by omega)]
theorem zwf {i:Nat} (h:i≤2000000):IntKind.i64.wrap ((i:Int)+1)=((i+1:Nat):Int):=by rw [za0 (by omega) (by omega)];simp
abbrev zkq (l:List zab):Prop:=zld (fun w:zab=>w.fKey) l
abbrev zgP (l:List zab) (k:Str):Nat:=zdl (fun w:zab=>bl w.fKey k) l
theorem zxv {l:List zab} {k:Str} (hl:l.length≤2000000) (hr:zkq l):zdg l k=some (((zgP l k:Nat):Int),(match l[zgP l k]? with|some w=>decide (w.fKey=k)|none=>false)):=by
 unfold zdg zao
 have hc: ∀w:zab,zbc w k=some (ztV w.fKey k):=fun w=>by simp [zbc]
 have h:=zuQ (xs:=l) (body:=fun s:Int × Int=>zad l k (fun y0_ y1_=>zbc y0_ y1_) s.1 s.2) (fin:=fun i=>zan l k (fun y0_ y1_=>zbc y0_ y1_) i) (fun w:zab=>bl w.fKey k)
  (fun i j hj hi h=>by
   rcases Nat.lt_or_ge i j with hij|hij
   ·exact zdJ ((List.pairwise_iff_getElem.1 hr) i j (by omega) hj hij) h
   ·have:i=j:=by omega
    subst this;exact h)
  (fun i j hij hj hmid=>by
   show zad l k _ (i:Int) (j:Int)=_
   unfold zad
   rw [if_pos (by simpa using hij),zv7 (by omega) (by omega),zag hmid,Option.bind_some]
   simp only [hc,Option.bind_some,zuF,zwf (show(i+j)/2≤2000000 by omega)]
   cases bl l[(i+j)/2].fKey k<;>rfl)
  (fun i hi=>by
   show zad l k _ (i:Int) (i:Int)=_
   unfold zad
   rw [if_neg (by simp)])
 rw [h]
 unfold zan
 show Option.bind (if decide (((zgP l k:Nat):Int)<l.length)=true then _ else _) _=_
 by_cases hp:zgP l k<l.length
 ·rw [if_pos (by simpa using hp),zag hp,Option.bind_some]
  simp only [hc,Option.bind_some,zuc,List.getElem?_eq_getElem hp]
 ·rw [if_neg (by simpa using hp),List.getElem?_eq_none (by omega)]
  rfl
theorem zqu {l:List zab} {w:zab} (hl:l.length≤2000000) (hr:zkq l):zdv l w=some (zjA (fun w:zab=>w.fKey) w l):=by
 unfold zdv
 rw [zxv hl hr,Option.bind_some,zpw hr]
 show(if(match l[zgP l w.fKey]? with|some w'=>decide (w'.fKey=w.fKey)|none=>false)=true then _ else _)=_
 have hle:zgP l w.fKey≤l.length:=ziP _ _
 have hI:zjH l ((zgP l w.fKey:Nat):Int) [w]=some (l.take (zgP l w.fKey)++ [w]++l.drop (zgP l w.fKey)):=zaT ⟨by omega,by omega,by simp,by simp only [List.length_singleton];omega⟩
 by_cases hp:zgP l w.fKey<l.length
 ·rw [List.getElem?_eq_getElem hp]
  by_cases hk:(l[zgP l w.fKey]).fKey=w.fKey
  ·simp only [hk,decide_true,if_true,zag hp,Option.bind_some]
   rfl
  ·simp only [hk,decide_false,Bool.false_eq_true,if_false]
   rw [hI];rfl
 ·rw [List.getElem?_eq_none (by omega)]
  simp only [Bool.false_eq_true,if_false]
  rw [hI];rfl
theorem zks (ks:List Str):zjX ks=zbu bl ks:=by
 have key: ∀n q,q+n+1=ks.length→(List.range' (q+1) n).all (zdB ks)=zbu bl (ks.drop q):=by
  intro n
  induction n with
  |zero=>
   intro q hq
   rw [List.drop_eq_getElem_cons (show q<ks.length by omega),List.drop_eq_nil_of_le (show ks.length≤q+1 by omega)]
   rfl
  |succ n ih=>
   intro q hq
   rw [List.range'_succ,List.all_cons,ih (q+1) (by omega),zj6 (show q+1<ks.length by omega)]
   congr 1
   unfold zdB
   have hb:(q+1==0)=false:=rfl
   rw [hb,Bool.false_or,Nat.add_sub_cancel,List.getElem?_eq_getElem (show q<ks.length by omega),List.getElem?_eq_getElem (show q+1<ks.length by omega)]
   rfl
 cases ks with
 |nil=>rfl
 |cons k l=>
  unfold zjX
  rw [List.length_cons,List.range_eq_range',List.range'_succ,List.all_cons]
  have:=key l.length 0 (by simp)
  rw [List.drop_zero]at this
  rw [Nat.zero_add]at this
  rw [show 0+1=1 from rfl,this]
  rfl
theorem zlM {α β:Type} (f:α→β) (r:β→β→Bool): ∀l:List α,zbu r (l.map f)=zbu (fun a b=>r (f a) (f b)) l
 | []=>rfl
 | [_]=>rfl
 |x::y::l=>by
  have:=zlM f r (y::l)
  simp only [List.map_cons,zbu]at this ⊢
  rw [this]
theorem zkZ {l:List zab} (h:zbr l=true):zkq l:=by
 unfold zbr at h
 simp only [Bool.and_eq_true]at h
 have h1:=h.2.2
 rw [zks,zlM]at h1
 exact(zit (r:=fun a b:zab=>bl a.fKey b.fKey) fun a b c p q=>zdJ p q).1 h1
end Go.Proofs.Ythgeekoigbihbaa
end
section
namespace Go.Proofs.Ythgeekoigbihbaa
open Go.RowKit
set_option maxRecDepth 100000
def zaM (a b:zaa):Bool:=if a.fTime≠b.fTime then decide (a.fTime<b.fTime)else if a.fGroup≠b.fGroup then decide (a.fGroup<b.fGroup)else bl a.fKey b.fKey
theorem zjF (a b:zaa):zbZ a b=some (zaM a b):=by
 unfold zbZ zaM
 by_cases h:a.fTime=b.fTime<;>by_cases h2:a.fGroup=b.fGroup<;>simp [h,h2]
theorem zhv {a b c:zaa} (h1:zaM a b=true) (h2:zaM b c=true):zaM a c=true:=by
 unfold zaM at*
 by_cases e1:a.fTime=b.fTime
 ·by_cases e2:b.fTime=c.fTime
  ·rw [if_neg (by simpa using e1)]at h1
   rw [if_neg (by simpa using e2)]at h2
   rw [if_neg (by simpa using e1.trans e2)]
   by_cases g1:a.fGroup=b.fGroup
   ·by_cases g2:b.fGroup=c.fGroup
    ·rw [if_neg (by simpa using g1)]at h1
     rw [if_neg (by simpa using g2)]at h2
     rw [if_neg (by simpa using g1.trans g2)]
     exact zdJ h1 h2
    ·rw [if_pos g2,decide_eq_true_eq]at h2
     rw [if_pos (by omega),decide_eq_true_eq];omega
   ·rw [if_pos g1,decide_eq_true_eq]at h1
    by_cases g2:b.fGroup=c.fGroup
    ·rw [if_pos (by omega),decide_eq_true_eq];omega
    ·rw [if_pos g2,decide_eq_true_eq]at h2
     rw [if_pos (by omega),decide_eq_true_eq];omega
  ·rw [if_pos e2,decide_eq_true_eq]at h2
   rw [if_pos (by omega),decide_eq_true_eq];omega
 ·rw [if_pos e1,decide_eq_true_eq]at h1
  by_cases e2:b.fTime=c.fTime
  ·rw [if_pos (by omega),decide_eq_true_eq];omega
  ·rw [if_pos e2,decide_eq_true_eq]at h2
   rw [if_pos (by omega),decide_eq_true_eq];omega
theorem zjg (a:zaa):zaM a a=false:=by
 unfold zaM
 simp [zc9]
def zwt (a b:zaa):Int:=if zaM a b=true then-1 else if zaM b a=true then 1 else 0
theorem zuY (a b c:Int):zeY [a,b,c]=some (if a≠0 then a else if b≠0 then b else c):=by
 have hb: ∀i:Nat,(h:i<3)→zct [a,b,c] i=if([a,b,c]:List Int)[i]≠0 then some (.inr (some ([a,b,c]:List Int)[i]))else some (.inl ((i+1:Nat):Int)):=by
  intro i h
  unfold zct
  rw [if_pos (by simp;omega),zag (by simpa using h),Option.bind_some,zbT h (by omega)]
  by_cases hz:([a,b,c]:List Int)[i]=0<;>simp [hz]
 have h3:zct [a,b,c] ((3:Nat):Int)=some (.inr (some 0)):=by unfold zct;rw [if_neg (by simp)]
 unfold zeY
 rw [zay,show(0:Int)=((0:Nat):Int)from rfl,hb 0 (by omega)]
 by_cases ha:a=0
 ·rw [if_neg (by simpa using ha),if_neg (by simpa using ha)]
  show zau _ ((1:Nat):Int)=_
  rw [zay,hb 1 (by omega)]
  by_cases hb':b=0
  ·rw [if_neg (by simpa using hb'),if_neg (by simpa using hb')]
   show zau _ ((2:Nat):Int)=_
   rw [zay,hb 2 (by omega)]
   by_cases hc:c=0
   ·rw [if_neg (by simpa using hc)]
    show zau _ ((3:Nat):Int)=_
    rw [zay,h3];simp [hc]
   ·rw [if_pos (by simpa using hc)];rfl
  ·rw [if_pos (by simpa using hb'),if_pos (by simpa using hb')];rfl
 ·rw [if_pos (by simpa using ha),if_pos (by simpa using ha)];rfl
theorem zv9 (a b:zaa):zcl a b=some (zwt a b):=by
 unfold zcl
 simp only [zvY,zwe,Option.bind_some,zuY]
 unfold zwt zaM zwV ztV
 congr 1
 rcases Int.lt_trichotomy a.fTime b.fTime with h|h|h
 ·have h1: ¬a.fTime=b.fTime:=by omega
  simp [h,h1]
 ·have h2:=h.symm
  rcases Int.lt_trichotomy a.fGroup b.fGroup with g|g|g
  ·have g1: ¬a.fGroup=b.fGroup:=by omega
   simp [h,g,g1]
  ·have g2:=g.symm
   rcases zpO a.fKey b.fKey with k|k|k
   ·simp [h,g,k]
   ·simp [h,g,k,zc9]
   ·have k1:=zpp k
    have k2: ¬a.fKey=b.fKey:=fun e=>zkm k e.symm
    simp [h,g,k,k1,k2]
  ·have g1: ¬a.fGroup=b.fGroup:=by omega
   have g2: ¬b.fGroup=a.fGroup:=by omega
   have g3: ¬a.fGroup<b.fGroup:=by omega
   simp [h,g,g1,g2,g3]
 ·have h1: ¬a.fTime=b.fTime:=by omega
  have h2: ¬b.fTime=a.fTime:=by omega
  have h3: ¬a.fTime<b.fTime:=by omega
  simp [h,h1,h2,h3]
theorem zud (a b:zaa):decide (zwt a b≥0)= !zaM a b:=by
 unfold zwt
 cases zaM a b with
 |true=>simp
 |false=>cases zaM b a<;>simp
def zbX (c:zaa):Bool:=inB c.fTime 1 100000&&(inB c.fGroup 0 3&&(za6 c.fKey&&zdP c.fVal c.fGone))
def zeO (l:List zaa):Bool:=decide ((l.length:Int)≤400)&&(l.all zbX&&zbu zaM l)
def zuM (c:zaa):Prop:=c.fKey.length≤2000000∧c.fVal.length≤2000000
def zia (l:List zaa):Prop:=l.length≤2000000∧ ∀c∈l,zuM c
theorem zmJ {c:zaa} (h:zuM c):zee c=some (zbX c):=by
 unfold zee zbX
 simp only [zi2,Option.bind_some,zjB h.1 h.2]
 cases inB c.fTime 1 100000<;>cases inB c.fGroup 0 3<;>simp
theorem zuR {c:zaa} (h:zuM c):zdz c=some (zbX c):=by
 unfold zdz zbX zc2 zfD
 simp only [zfT,Option.bind_some,zt1 h.1,zii h.2]
 cases inB c.fTime 1 100000<;>cases inB c.fGroup 0 3<;>cases za6 c.fKey<;>simp
theorem ztu {l:List zaa} (h:l.length≤2000000):ze1 l=some (decide ((l.length:Int)≤400)&&zbu zaM l):=by
 unfold ze1
 rw [zg9 (xs:=l) (body:=fun s:Int=>zbk l s) (fun _=>true) zaM false (zeI l) (fun h0=> ?_) (fun i hi=> ?_) (by simp [zbk])]
 ·unfold zeI
  cases zbu zaM l<;>simp
 ·show zbk l 0=_
  unfold zbk
  rw [if_pos (by simpa using h0),if_neg (by simp)]
  rfl
 ·show zbk l ((i+1:Nat):Int)=_
  unfold zbk
  rw [if_pos (by simp;omega),if_pos (by simp),zgL (by omega) (by omega),Nat.add_sub_cancel,zag (show i<l.length by omega),Option.bind_some,zag hi,Option.bind_some,zv9,Option.bind_some,zud,zbT hi (by omega)]
  cases zaM l[i] l[i+1]<;>rfl
theorem zuq {l:List zaa} (h:zia l):zdx l=some (zeO l):=by
 unfold zdx zeO
 rw [ztu h.1,Option.bind_some,zmW (fun c=> !zbX c) (fun c hc=>by simp [zdU,zuR (h.2 c hc)]) (by have:=h.1;omega)]
 rw [←List.not_all_eq_any_not]
 cases decide ((l.length:Int)≤400)<;>cases zbu zaM l<;>cases l.all zbX<;>rfl
theorem zvc {l:List zaa} (h:zia l):zef l=some (zeO l):=by
 have hn:=h.1
 unfold zef zeO
 by_cases hl:(l.length:Int)≤400
 ·rw [zg9 (xs:=l) (body:=fun s:Int=>zap l s) zbX zaM false (zb3 l) (fun h0=> ?_) (fun i hi=> ?_) (by simp [zap])]
  ·unfold zb3
   cases l.all zbX<;>cases zbu zaM l<;>simp [hl]
  ·show zap l 0=_
   unfold zap
   rw [if_pos (by simpa using h0),show(0:Int)=((0:Nat):Int)from rfl,zag h0,Option.bind_some,zmJ (h.2 _ (List.getElem_mem h0)),Option.bind_some,if_neg (by simp)]
   cases zbX l[0]<;>rfl
  ·show zap l ((i+1:Nat):Int)=_
   unfold zap
   rw [if_pos (by simp;omega),zag hi,Option.bind_some,zmJ (h.2 _ (List.getElem_mem hi)),Option.bind_some,if_pos (by simp),zgL (by omega) (by omega),Nat.add_sub_cancel,zag (show i<l.length by omega),Option.bind_some,zjF,Option.bind_some,zbT hi (by omega)]
   cases zbX l[i+1]<;>cases zaM l[i] l[i+1]<;>rfl
 ·have ht:=zg9 (xs:=l.take 401) (body:=fun s:Int=>zap l s) zbX zaM false (zb3 l) (fun h0=> ?_) (fun i hi=> ?_) (by
   have:(l.take 401).length=401:=by rw [List.length_take];omega
   rw [this]
   simp [zap])
  ·rw [ht]
   unfold zb3
   simp [hl]
  ·show zap l 0=_
   have h1:0<l.length:=by omega
   unfold zap
   rw [if_pos (by simpa using h1),show(0:Int)=((0:Nat):Int)from rfl,zag h1,Option.bind_some,zmJ (h.2 _ (List.getElem_mem h1)),Option.bind_some,if_neg (by simp),List.getElem_take]
   cases zbX l[0]<;>rfl
  ·show zap l ((i+1:Nat):Int)=_
   have hi0:i+1<401:=by rw [List.length_take]at hi;omega
   have hi:i+1<l.length:=by omega
   unfold zap
   rw [if_pos (by simp;omega),zag hi,Option.bind_some,zmJ (h.2 _ (List.getElem_mem hi)),Option.bind_some,if_pos (by simp),zgL (by omega) (by omega),Nat.add_sub_cancel,zag (show i<l.length by omega),Option.bind_some,zjF,Option.bind_some,zbT hi (by omega),List.getElem_take,List.getElem_take]
   cases zbX l[i+1]<;>cases zaM l[i] l[i+1]<;>rfl
def zbJ (d:zaV):Bool:=inB d.fFrom 0 100000&&(inB d.fTo 0 100000&&(decide (d.fFrom≤d.fTo)&&(decide ((d.fList.length:Int)≤60)&&(zeO d.fList&&d.fList.all fun c=> !((c.fGroup !=0||decide (c.fTime≤d.fFrom))||decide (c.fTime>d.fTo))))))
theorem zrq {d:zaV} (h:zia d.fList):zcb d=some (zbJ d):=by
 unfold zcb zc3 zbJ
 simp only [zfT,Option.bind_some,zuq h]
 have e1:zaH d.fList (fun y0_=>zd4 y0_ d)=some (d.fList.any fun c=>((c.fGroup !=0||decide (c.fTime≤d.fFrom))||decide (c.fTime>d.fTo))):=zmW _ (fun c _=>rfl) (by have:=h.1;omega)
 rw [e1,List.any_eq_not_all_not]
 generalize (d.fList.all fun x=> !((x.fGroup !=0||decide (x.fTime≤d.fFrom))||decide (x.fTime>d.fTo)))=b
 cases inB d.fFrom 0 100000<;>cases inB d.fTo 0 100000<;>cases decide (d.fFrom≤d.fTo)<;>cases decide ((d.fList.length:Int)≤60)<;>cases zeO d.fList<;>cases b<;>rfl
theorem zsu {d:zaV} (h:zia d.fList) (hf: -9223372036854775808≤d.fFrom∧d.fFrom≤9223372036854775807):zcy d=some (zbJ d):=by
 have hn:=h.1
 unfold zcy
 rw [zjC (xs:=d.fList) (fun c=> !(c.fGroup !=0)&&inB c.fTime (IntKind.i64.wrap (d.fFrom+1)) d.fTo) false (zcV d) (fun i hi=>by
  show zcX d i=_
  unfold zcX
  rw [if_pos (by simpa using hi),zag hi,Option.bind_some,zi2,Option.bind_some,zbT hi (by omega)]
  cases(d.fList[i].fGroup !=0)<;>cases inB d.fList[i].fTime (IntKind.i64.wrap (d.fFrom+1)) d.fTo<;>rfl) (by simp [zcX])]
 have hk:zcV d=some (inB d.fFrom 0 d.fTo&&(decide (d.fTo≤100000)&&(decide ((d.fList.length:Int)≤60)&&zeO d.fList))):=by
  unfold zcV
  simp only [zi2,Option.bind_some,zvc h]
  cases inB d.fFrom 0 d.fTo<;>cases decide (d.fTo≤100000)<;>cases decide ((d.fList.length:Int)≤60)<;>rfl
 rw [hk]
 by_cases hg:inB d.fFrom 0 d.fTo=true∧d.fTo≤100000
 ·obtain⟨g1,g2⟩:=hg
  have g3:=zeM.1 g1
  have e1:IntKind.i64.wrap (d.fFrom+1)=d.fFrom+1:=za0 (by omega) (by omega)
  have e2:inB d.fFrom 0 100000=true:=zeM.2 ⟨by omega,by omega⟩
  have e3:inB d.fTo 0 100000=true:=zeM.2 ⟨by omega,by omega⟩
  have e4:(d.fList.all fun c=> !(c.fGroup !=0)&&inB c.fTime (IntKind.i64.wrap (d.fFrom+1)) d.fTo)=d.fList.all fun c=> !((c.fGroup !=0||decide (c.fTime≤d.fFrom))||decide (c.fTime>d.fTo)):=by
   congr 1
   funext c
   rw [e1]
   unfold inB
   have q1:decide (c.fTime≥d.fFrom+1)= !decide (c.fTime≤d.fFrom):=by rw [←decide_not,decide_eq_decide];omega
   have q2:decide (c.fTime≤d.fTo)= !decide (c.fTime>d.fTo):=by rw [←decide_not,decide_eq_decide];omega
   rw [q1,q2]
   cases(c.fGroup !=0)<;>cases decide (c.fTime≤d.fFrom)<;>cases decide (c.fTime>d.fTo)<;>rfl
  rw [e4]
  unfold zbJ
  rw [e2,e3,g1]
  simp only [g2,decide_true,Bool.true_and,show d.fFrom≤d.fTo from g3.2]
  cases(d.fList.all fun c=> !((c.fGroup !=0||decide (c.fTime≤d.fFrom))||decide (c.fTime>d.fTo)))<;>simp
 ·have e1:zbJ d=false:=by
   cases hd:zbJ d with
   |false=>rfl
   |true=>
    unfold zbJ at hd
    simp only [Bool.and_eq_true,decide_eq_true_eq]at hd
    have h1:=zeM.1 hd.1
    have h2:=zeM.1 hd.2.1
    exact absurd ⟨zeM.2 ⟨h1.1,hd.2.2.1⟩,h2.2⟩ hg
  rw [e1]
  have e2:(inB d.fFrom 0 d.fTo&&(decide (d.fTo≤100000)&&(decide ((d.fList.length:Int)≤60)&&zeO d.fList)))=false:=by
   cases hb:inB d.fFrom 0 d.fTo with
   |false=>rfl
   |true=>
    have: ¬d.fTo≤100000:=fun h=>hg ⟨hb,h⟩
    simp [this]
  rw [e2]
  split<;>rfl
def zbb (c:zaS):Bool:=inB c.fTime 0 100000&&(zf0 c.fRows&&(decide (c.fTime>0)||(c.fRows.length:Int)==0))
theorem zr7 {c:zaS} (h:zgh c.fRows):zcM c=some (zbb c):=by
 unfold zcM zc3 zbb
 simp only [zfT,Option.bind_some,zvf h]
 cases inB c.fTime 0 100000<;>rfl
theorem zrz {c:zaS} (h:zgh c.fRows):zda c=some (zbb c):=by
 have hn:=h.1
 unfold zda
 rw [zjC (xs:=c.fRows) (fun w=> !w.fGone) false (zd3 c) (fun i hi=>by
  show zc0 c i=_
  unfold zc0
  rw [if_pos (by simpa using hi),zag hi,Option.bind_some,zbT hi (by omega)]
  cases c.fRows[i].fGone<;>rfl) (by simp [zc0])]
 unfold zd3 zbb zf0
 simp only [zi2,Option.bind_some,zrO h]
 cases inB c.fTime 0 100000<;>cases zbr c.fRows<;>cases(c.fRows.all fun w=> !w.fGone)<;>simp
end Go.Proofs.Ythgeekoigbihbaa
end
section
namespace Go.Proofs.Ythgeekoigbihbaa
open Go.RowKit
set_option maxRecDepth 100000
abbrev ztX:zab→Str:=fun w=>w.fKey
def wOf (c:zaa):zab:=⟨c.fKey,c.fVal,c.fGone⟩
def doW (rows:List zab) (c:zaa):List zab:=if c.fGone=true then rows.filter (fun w=>decide (w.fKey≠c.fKey))else zjA ztX ⟨c.fKey,c.fVal,false⟩ rows
def zgq (c:zaa) (s:Bool × List zab) (r:zab):Bool × List zab:=
 let s':=if(!s.1&&(bl c.fKey r.fKey||c.fKey==r.fKey))=true then(true,s.2++ [⟨c.fKey,c.fVal,false⟩])else s
 if(r.fKey !=c.fKey)=true then(s'.1,s'.2++ [r])else s'
def ztL (c:zaa) (s:Bool × List zab):List zab:=if s.1=true then s.2 else s.2++ [⟨c.fKey,c.fVal,false⟩]
theorem zq9 (c:zaa) (s:Bool × List zab) (r:zab):(zgq c s r).2.length≤s.2.length+2:=by
 unfold zgq
 by_cases h1:(!s.1&&(bl c.fKey r.fKey||c.fKey==r.fKey))=true<;>by_cases h2:(r.fKey !=c.fKey)=true<;>simp only [h1,h2,if_true,if_false,List.length_append,List.length_singleton,Bool.false_eq_true]<;>omega
theorem zuU {rows:List zab} {c:zaa} (h:rows.length≤2000000):zez rows c=some (ztL c (rows.foldl (zgq c) (c.fGone, []))):=by
 unfold zez
 have hj: ∀(i:Nat) (hi:i<rows.length) (dn:Bool) (o:List zab),o.length≤3*rows.length+1→zcR rows c i dn o=some (.inl (dn,((i+1:Nat):Int),if(rows[i].fKey !=c.fKey)=true then o++ [rows[i]]else o)):=by
  intro i hi dn o ho
  unfold zcR
  rw [zag hi,Option.bind_some,zbT hi (by omega)]
  by_cases hk:(rows[i].fKey !=c.fKey)=true
  ·rw [if_pos hk,if_pos hk,zaT (by rw [List.length_singleton];omega)]
  ·rw [if_neg hk,if_neg hk]
 have h1:=zgt (xs:=rows) (body:=fun s:Bool × Int × List zab=>zb1 rows c s.1 s.2.1 s.2.2) (fun i (s:Bool × List zab)=>(s.1,i,s.2)) (zgq c) (fun s=>some (ztL c s)) (fun i s=>s.2.length≤2*i)
  (fun i hi s hI=>by
   refine⟨?_,Nat.le_trans (zq9 c s rows[i]) (by omega)⟩
   obtain⟨dn,o⟩:=s
   have hI:o.length≤2*i:=hI
   show zb1 rows c dn i o=_
   unfold zb1
   rw [if_pos (by simpa using hi)]
   cases dn with
   |true=>
    rw [if_pos rfl,hj i hi _ _ (by omega)]
    unfold zgq
    cases(rows[i].fKey !=c.fKey)<;>simp
   |false=>
    rw [if_neg (by simp),zag hi,Option.bind_some]
    by_cases hb:(bl c.fKey rows[i].fKey||c.fKey==rows[i].fKey)=true
    ·rw [if_pos hb,zaT (by rw [List.length_singleton];omega),hj i hi _ _ (by simp only [List.length_append,List.length_singleton];omega)]
     unfold zgq
     rw [hb]
     cases(rows[i].fKey !=c.fKey)<;>simp
    ·rw [if_neg hb,hj i hi _ _ (by omega)]
     unfold zgq
     rw [Bool.not_eq_true]at hb
     rw [hb]
     cases(rows[i].fKey !=c.fKey)<;>simp)
  (fun s hI=>by
   obtain⟨dn,o⟩:=s
   have hI:o.length≤2*rows.length:=hI
   show zb1 rows c dn rows.length o=_
   unfold zb1
   rw [if_neg (by simp)]
   unfold zgp ztL
   cases dn with
   |true=>rfl
   |false=>rw [if_pos (show(!false)=true from rfl),zaT (by rw [List.length_singleton];omega)];rfl) (s:=(c.fGone, [])) (by simp)
 exact h1.1
theorem zg1 (c:zaa): ∀(rows o:List zab),rows.foldl (zgq c) (true,o)=(true,o++rows.filter (fun w=>decide (w.fKey≠c.fKey)))
 | [],o=>by simp
 |r::rows,o=>by
  rw [List.foldl_cons]
  have e:zgq c (true,o) r=(true,if(r.fKey !=c.fKey)=true then o++ [r]else o):=by unfold zgq;cases(r.fKey !=c.fKey)<;>simp
  rw [e,zg1 c rows,List.filter_cons]
  by_cases hk:r.fKey=c.fKey<;>simp [hk]
theorem zoy {c:Str} {rows:List zab} (h: ∀w∈rows,bl c w.fKey=true):rows.filter (fun w=>decide (w.fKey≠c))=rows:=by
 rw [List.filter_eq_self]
 intro w hw
 simpa using(zkm (h w hw)).symm
theorem zn7 (c:zaa): ∀(rows o:List zab),zkq rows→ztL c (rows.foldl (zgq c) (false,o))=o++zjA ztX ⟨c.fKey,c.fVal,false⟩ rows
 | [],o,_=>by simp [ztL,zjA]
 |r::rows,o,h=>by
  have h1:=List.pairwise_cons.1 h
  rw [List.foldl_cons]
  unfold zjA
  show _=o++(if bl c.fKey r.fKey=true then _ else if c.fKey=r.fKey then _ else _)
  by_cases hb:bl c.fKey r.fKey=true
  ·have e:zgq c (false,o) r=(true,o++ [⟨c.fKey,c.fVal,false⟩]++ [r]):=by
    unfold zgq
    have:(r.fKey !=c.fKey)=true:=by simpa using(zkm hb).symm
    simp [hb,this]
   rw [if_pos hb,e,zg1,ztL,if_pos rfl,zoy fun w hw=>zdJ hb (h1.1 w hw)]
   simp
  ·rw [if_neg hb]
   by_cases hk:c.fKey=r.fKey
   ·have e:zgq c (false,o) r=(true,o++ [⟨c.fKey,c.fVal,false⟩]):=by
     unfold zgq
     simp [hk]
    rw [if_pos hk,e,zg1,ztL,if_pos rfl,hk,zoy fun w hw=>h1.1 w hw]
    simp
   ·have e:zgq c (false,o) r=(false,o++ [r]):=by
     unfold zgq
     have h2:(r.fKey !=c.fKey)=true:=by simpa using fun e=>hk e.symm
     have h3:bl c.fKey r.fKey=false:=by simpa using hb
     simp [hk,h2,h3]
    rw [if_neg hk,e,zn7 c rows _ h1.2]
    simp
theorem ztt {rows:List zab} {c:zaa} (h:rows.length≤2000000) (hr:zkq rows):zez rows c=some (doW rows c):=by
 rw [zuU h]
 unfold doW
 cases hg:c.fGone with
 |true=>rw [zg1];simp [ztL]
 |false=>rw [zn7 c rows [] hr];simp
theorem zte {rows:List zab} {c:zaa} (h:zkq rows):zkq (doW rows c):=by
 unfold doW
 split
 ·exact zld.filter h _
 ·exact zfl h
theorem zuB (rows:List zab) (c:zaa):(doW rows c).length≤rows.length+1:=by
 unfold doW
 split
 ·exact Nat.le_trans (List.length_filter_le _ _) (by omega)
 ·exact zm8 rows
theorem zuk {rows:List zab} {c:zaa} (h:zkq rows) (w:zab) (hw:w∈doW rows c):w∈rows∨w=⟨c.fKey,c.fVal,false⟩:=by
 unfold doW at hw
 split at hw
 ·exact .inl (List.mem_filter.1 hw).1
 ·rcases(zf4 (key:=ztX) h w).1 hw with h|h
  ·exact .inr h
  ·exact .inl h.1
theorem zsX {l:List zab} {c:zaa} (h:zkq l):(zjA ztX (wOf c) l).filter (fun w=> !w.fGone)=doW (l.filter fun w=> !w.fGone) c:=by
 rw [zpk h]
 unfold doW wOf
 cases c.fGone<;>simp
theorem zn4: ∀(cs:List zaa) {l:List zab},zkq l→(cs.foldl (fun o c=>zjA ztX (wOf c) o) l).filter (fun w=> !w.fGone)=cs.foldl doW (l.filter fun w=> !w.fGone)
 | [],_,_=>rfl
 |c::cs,l,h=>by
  rw [List.foldl_cons,List.foldl_cons,zn4 cs (zfl h),zsX h]
structure zwk (n:Nat) (l:List zab):Prop where
 rise:zkq l
 len:l.length≤n
 tiny: ∀w∈l,w.fKey.length≤2000000∧w.fVal.length≤2000000
theorem zwk.small {n:Nat} {l:List zab} (h:zwk n l) (hn:n≤2000000):zgh l:=⟨by have:=h.len;omega,h.tiny⟩
def zgd (c:zaS) (d:zaV):zaS × Bool:=
 if zbb c&&(zbJ d&&d.fFrom==c.fTime)then
  (let o:zaS:=⟨d.fTo,d.fList.foldl doW c.fRows⟩
   if zbb o then(o,true)else(⟨0, []⟩,false))
 else(⟨0, []⟩,false)
theorem znL {c:zaS} (hw:zgh c.fRows) (h:zbb c=true):zwk 24 c.fRows∧c.fRows.filter (fun w=> !w.fGone)=c.fRows:=by
 unfold zbb zf0 at h
 simp only [Bool.and_eq_true]at h
 have h1:=h.2.1.1
 refine⟨⟨zkZ h1, ?_,hw.2⟩, ?_⟩
 ·unfold zbr at h1
  simp only [Bool.and_eq_true,decide_eq_true_eq]at h1
  omega
 ·rw [List.filter_eq_self]
  exact fun w hw=>List.all_eq_true.1 h.2.1.2 w hw
theorem zpn {d:zaV} (h:zbJ d=true):d.fList.length≤60:=by
 unfold zbJ at h
 simp only [Bool.and_eq_true,decide_eq_true_eq]at h
 omega
theorem zqa {c:zaS} {d:zaV} (hw:zgh c.fRows) (hd:zia d.fList) (hf: -9223372036854775808≤d.fFrom∧d.fFrom≤9223372036854775807):zep c d=some (zgd c d):=by
 unfold zep zgd
 rw [zrz hw,Option.bind_some]
 cases hc:zbb c with
 |false=>rfl
 |true=>
  rw [if_pos rfl,zsu hd hf,Option.bind_some]
  cases hg:zbJ d with
  |false=>rfl
  |true=>
   by_cases he:d.fFrom=c.fTime
   ·have e1:(d.fFrom !=c.fTime)=false:=by simpa using he
    have e2:(d.fFrom==c.fTime)=true:=by simpa using he
    obtain⟨hk,_⟩:=znL hw hc
    have hl:=zpn hg
    rw [e1,e2,if_neg (by simp),zaT (by have:=hk.len;simp only [List.length_nil];omega)]
    have h1:=zgt (xs:=d.fList) (body:=fun s:Int × List zab=>za1 d s.1 s.2) (fun i (o:List zab)=>(i,o)) doW (fun o=>zdV d o) (fun i o=>zwk (24+i) o)
     (fun i hi o hI=>by
      refine⟨?_,⟨zte hI.rise,Nat.le_trans (zuB _ _) (by have:=hI.len;omega),fun w hw=> ?_⟩⟩
      ·show za1 d i o=_
       unfold za1
       rw [if_pos (by simpa using hi),zag hi,Option.bind_some,ztt (by have:=hI.len;omega) hI.rise,Option.bind_some,zbT hi (by omega)]
      ·rcases zuk hI.rise w hw with h|rfl
       ·exact hI.tiny w h
       ·exact hd.2 _ (List.getElem_mem hi))
     (fun o hI=>by
      show za1 d d.fList.length o=_
      unfold za1
      rw [if_neg (by simp)]) (s:=c.fRows) ⟨hk.rise,by have:=hk.len;omega,hk.tiny⟩
    rw [show(fun s:Int × List zab=>za1 d s.1 s.2)=_ from rfl,h1.1]
    unfold zdV
    rw [zrz (h1.2.small (by omega)),Option.bind_some]
    show(if(!zbb ⟨d.fTo,d.fList.foldl doW c.fRows⟩)=true then _ else _)=some (if zbb ⟨d.fTo,d.fList.foldl doW c.fRows⟩=true then _ else _)
    cases zbb ⟨d.fTo,d.fList.foldl doW c.fRows⟩<;>rfl
   ·have e1:(d.fFrom !=c.fTime)=true:=by simpa using he
    have e2:(d.fFrom==c.fTime)=false:=by simpa using he
    rw [e1,e2];rfl
theorem zqd {c:zaS} {d:zaV} (hw:zgh c.fRows) (hd:zia d.fList):zdc c d=some (zgd c d):=by
 unfold zdc zgd
 rw [zr7 hw,Option.bind_some]
 cases hc:zbb c with
 |false=>rfl
 |true=>
  rw [if_pos rfl,zrq hd,Option.bind_some]
  cases hg:zbJ d with
  |false=>rfl
  |true=>
   by_cases he:d.fFrom=c.fTime
   ·have e1:(d.fFrom !=c.fTime)=false:=by simpa using he
    have e2:(d.fFrom==c.fTime)=true:=by simpa using he
    obtain⟨hk,hfl⟩:=znL hw hc
    have hl:=zpn hg
    have hcl:zaG c.fRows=some c.fRows:=zsM (by have:=hk.len;omega) (by have:=hk.len;omega)
    rw [e1,e2,if_neg (by simp),hcl,Option.bind_some]
    have h1:=zgt (xs:=d.fList) (body:=fun s:Int × List zab=>zbq d s.1 s.2) (fun i (o:List zab)=>(i,o)) (fun o c=>zjA ztX (wOf c) o) (fun o=>zdW d o) (fun i o=>zwk (24+i) o)
     (fun i hi o hI=>by
      refine⟨?_,⟨zfl hI.rise,Nat.le_trans (zm8 _) (by have:=hI.len;omega),fun w hw=> ?_⟩⟩
      ·show zbq d i o=_
       unfold zbq
       rw [if_pos (by simpa using hi),zag hi,Option.bind_some,zqu (by have:=hI.len;omega) hI.rise,Option.bind_some,zbT hi (by omega)]
       rfl
      ·rcases(zf4 (key:=ztX) hI.rise w).1 hw with rfl|h
       ·exact hd.2 _ (List.getElem_mem hi)
       ·exact hI.tiny w h.1)
     (fun o hI=>by
      show zbq d d.fList.length o=_
      unfold zbq
      rw [if_neg (by simp)]) (s:=c.fRows) ⟨hk.rise,by have:=hk.len;omega,hk.tiny⟩
    rw [h1.1]
    have hK:=h1.2
    generalize hR:d.fList.foldl (fun o c=>zjA ztX (wOf c) o) c.fRows=R at hK
    have hS:R.filter (fun w=> !w.fGone)=d.fList.foldl doW c.fRows:=by rw [←hR,zn4 _ hk.rise,hfl]
    unfold zdW zfw
    rw [zaT (by have:=hK.len;omega),zlP (p:=fun y0_=>zeD y0_) (fun w:zab=>w.fGone) (fun w _=>rfl),Option.bind_some,hS]
    have hsm:zgh (d.fList.foldl doW c.fRows):=by
     rw [←hS]
     exact⟨Nat.le_trans (List.length_filter_le _ _) (by have:=hK.len;omega),fun w hw=>hK.tiny w (List.mem_filter.1 hw).1⟩
    rw [zr7 hsm,Option.bind_some]
    show(if(!zbb ⟨d.fTo,d.fList.foldl doW c.fRows⟩)=true then _ else _)=some (if zbb ⟨d.fTo,d.fList.foldl doW c.fRows⟩=true then _ else _)
    cases zbb ⟨d.fTo,d.fList.foldl doW c.fRows⟩<;>rfl
   ·have e1:(d.fFrom !=c.fTime)=true:=by simpa using he
    have e2:(d.fFrom==c.fTime)=false:=by simpa using he
    rw [e1,e2];rfl
theorem ztF {c:zaS} {d:zaV}:(zgd c d).1.fRows.length≤24:=by
 unfold zgd
 split
 ·show(if zbb ⟨d.fTo,d.fList.foldl doW c.fRows⟩=true then((⟨d.fTo,d.fList.foldl doW c.fRows⟩,true):zaS × Bool)else(⟨0, []⟩,false)).1.fRows.length≤24
  split
  ·rename_i h
   unfold zbb zf0 zbr at h
   simp only [Bool.and_eq_true,decide_eq_true_eq]at h
   have:=h.2.1.1.1
   show(d.fList.foldl doW c.fRows).length≤24
   omega
  ·simp
 ·simp
end Go.Proofs.Ythgeekoigbihbaa
end
section
namespace Go.Proofs.Ythgeekoigbihbaa
open Go.RowKit
set_option maxRecDepth 100000
theorem zra {σ α:Type} {body:σ→Option (σ ⊕ Option α)} {s:σ} {o:Option α} (h:body s=some (.inr o)):zau body s=o:=by rw [zay,h]
theorem zqN {σ α:Type} {body:σ→Option (σ ⊕ Option α)} {s s':σ} (h:body s=some (.inl s')):zau body s=zau body s':=by rw [zay,h]
theorem szL {α:Type} {xs:List α} {body:Int × Int→Option ((Int × Int) ⊕ Option Int)} (tot:α→Nat) {a:Int} (h0:0≤a) (h1:a≤1048576)
  (hs: ∀x∈xs,∀b:Int,0≤b→b≤1048576→ ∃v,v≤b∧(0≤v→(tot x:Int)=b-v)∧ ∀i:Nat,xs[i]?=some x→body (b,(i:Int))=some (if v<0 then .inr (some (-1))else .inl (v,((i+1:Nat):Int))))
  (he: ∀b,body (b,(xs.length:Int))=some (.inr (some b))): ∃v,zau body (a,0)=some v∧v≤a∧(0≤v→((xs.map tot).sum:Int)=a-v):=by
 have key: ∀(n q:Nat) (a:Int),q+n=xs.length→0≤a→a≤1048576→ ∃v,zau body (a,(q:Int))=some v∧v≤a∧(0≤v→(((xs.drop q).map tot).sum:Int)=a-v):=by
  intro n
  induction n with
  |zero=>
   intro q a hq h0 h1
   refine⟨a, ?_,by omega,fun _=> ?_⟩
   ·rw [zay,show(q:Int)=(xs.length:Int) by omega,he]
   ·rw [List.drop_eq_nil_of_le (by omega)];simp
  |succ n ih=>
   intro q a hq h0 h1
   have hlt:q<xs.length:=by omega
   obtain⟨v,e1,e2,e3⟩:=hs xs[q] (List.getElem_mem hlt) a h0 h1
   rw [zay,e3 q (List.getElem?_eq_getElem hlt)]
   by_cases hv:v<0
   ·rw [if_pos hv]
    exact⟨-1,rfl,by omega,by omega⟩
   ·rw [if_neg hv]
    obtain⟨u,f1,f2,f3⟩:=ih (q+1) v (by omega) (by omega) (by omega)
    refine⟨u,f1,by omega,fun hu=> ?_⟩
    have g1:=f3 hu
    have g2:=e2 (by omega)
    rw [List.drop_eq_getElem_cons hlt,List.map_cons,List.sum_cons]
    omega
 have:=key xs.length 0 a (by omega) h0 h1
 simpa using this
theorem zdy {α:Type} {tot:α→Nat}: ∀{xs:List α} {x:α},x∈xs→tot x≤(xs.map tot).sum
 |y::xs,x,h=>by
  rw [List.map_cons,List.sum_cons]
  rcases List.mem_cons.1 h with rfl|h
  ·omega
  ·have:=zdy (tot:=tot) h;omega
theorem zrH {α:Type} {cnt:α→Nat} {mb:Int × Int × List α→Option ((Int × Int × List α) ⊕ Option (Int × List α))} {hb:List α→Int × Int→Option ((Int × Int) ⊕ Option Int)} (B:Int) {xs:List α} {k:Int} (h0:0≤k) (hB:k+((xs.map cnt).sum:Nat)≤B)
  (hs: ∀x∈xs,∀k:Int,0≤k→k+cnt x≤B→ ∃y,(∀(i:Nat) (v:List α),v[i]?=some x→i<xs.length→mb (k,(i:Int),v)=some (.inl (k+cnt x,((i+1:Nat):Int),v.set i y)))∧ ∀(i:Nat) (ys:List α),ys[i]?=some y→i<xs.length→hb ys (k,(i:Int))=some (.inl (k+cnt x,((i+1:Nat):Int))))
  (he: ∀k v,v.length=xs.length→mb (k,(xs.length:Int),v)=some (.inr (some (k,v)))) (hh: ∀k ys,ys.length=xs.length→hb ys (k,(xs.length:Int))=some (.inr (some k))):
  ∃ys,ys.length=xs.length∧zau mb (k,0,xs)=some (k+((xs.map cnt).sum:Nat),ys)∧zau (hb ys) (k,0)=some (k+((xs.map cnt).sum:Nat)):=by
 have key: ∀(suf pre:List α) (k:Int),pre.length+suf.length=xs.length→(∀x∈suf,x∈xs)→0≤k→k+((suf.map cnt).sum:Nat)≤B→
   ∃suf':List α,suf'.length=suf.length∧zau mb (k,(pre.length:Int),pre++suf)=some (k+((suf.map cnt).sum:Nat),pre++suf')∧zau (hb (pre++suf')) (k,(pre.length:Int))=some (k+((suf.map cnt).sum:Nat)):=by
  intro suf
  induction suf with
  |nil=>
   intro pre k hl _ _ _
   have hl':(pre.length:Int)=(xs.length:Int):=by simp at hl;omega
   have hl2:pre.length=xs.length:=by omega
   refine⟨[],rfl, ?_, ?_⟩
   ·rw [zay,hl',he _ _ (by simpa using hl2)];simp
   ·rw [zay,hl',hh _ _ (by simpa using hl2)];simp
  |cons x t ih=>
   intro pre k hl hm h0 hb'
   rw [List.map_cons,List.sum_cons]at hb' ⊢
   obtain⟨y,e1,e2⟩:=hs x (hm x (by simp)) k h0 (by omega)
   rw [List.length_cons]at hl
   obtain⟨t',f1,f2,f3⟩:=ih (pre++ [y]) (k+cnt x) (by simp;omega) (fun z hz=>hm z (by simp [hz])) (by omega) (by omega)
   have ea:pre++y::t'=pre++ [y]++t':=by simp
   have eb:(pre++x::t).set pre.length y=pre++ [y]++t:=by simp
   have ec:(((pre++ [y]).length:Nat):Int)=((pre.length+1:Nat):Int):=by simp
   refine⟨y::t',by simp [f1], ?_, ?_⟩
   ·rw [zay,e1 pre.length _ (by simp) (by omega),eb]
    show zau mb (k+cnt x,((pre.length+1:Nat):Int),pre++ [y]++t)=_
    rw [←ec,f2,ea]
    congr 2
    omega
   ·rw [zay,e2 pre.length _ (by simp) (by omega),ea]
    show zau (hb (pre++ [y]++t')) (k+cnt x,((pre.length+1:Nat):Int))=_
    rw [←ec,f3]
    congr 1
    omega
 have:=key xs [] k (by simp) (fun _ h=>h) h0 hB
 simpa using this
theorem znp {α:Type} {cnt:α→Nat} {mb:Int × Int × List α→Option ((Int × Int × List α) ⊕ Option (Int × List α))} (B:Int) {xs:List α} {k:Int} (h0:0≤k) (hB:k+((xs.map cnt).sum:Nat)≤B)
  (hs: ∀x∈xs,∀k:Int,0≤k→k+cnt x≤B→ ∃y,∀(i:Nat) (v:List α),v[i]?=some x→i<xs.length→mb (k,(i:Int),v)=some (.inl (k+cnt x,((i+1:Nat):Int),v.set i y)))
  (he: ∀k v,v.length=xs.length→mb (k,(xs.length:Int),v)=some (.inr (some (k,v)))):
  ∃ys,ys.length=xs.length∧zau mb (k,0,xs)=some (k+((xs.map cnt).sum:Nat),ys):=by
 have key: ∀(suf pre:List α) (k:Int),pre.length+suf.length=xs.length→(∀x∈suf,x∈xs)→0≤k→k+((suf.map cnt).sum:Nat)≤B→
   ∃suf':List α,suf'.length=suf.length∧zau mb (k,(pre.length:Int),pre++suf)=some (k+((suf.map cnt).sum:Nat),pre++suf'):=by
  intro suf
  induction suf with
  |nil=>
   intro pre k hl _ _ _
   have hl':(pre.length:Int)=(xs.length:Int):=by simp at hl;omega
   have hl2:pre.length=xs.length:=by omega
   refine⟨[],rfl, ?_⟩
   rw [zay,hl',he _ _ (by simpa using hl2)];simp
  |cons x t ih=>
   intro pre k hl hm h0 hb'
   rw [List.map_cons,List.sum_cons]at hb' ⊢
   obtain⟨y,e1⟩:=hs x (hm x (by simp)) k h0 (by omega)
   rw [List.length_cons]at hl
   obtain⟨t',f1,f2⟩:=ih (pre++ [y]) (k+cnt x) (by simp;omega) (fun z hz=>hm z (by simp [hz])) (by omega) (by omega)
   have ea:pre++y::t'=pre++ [y]++t':=by simp
   have eb:(pre++x::t).set pre.length y=pre++ [y]++t:=by simp
   have ec:(((pre++ [y]).length:Nat):Int)=((pre.length+1:Nat):Int):=by simp
   refine⟨y::t',by simp [f1], ?_⟩
   rw [zay,e1 pre.length _ (by simp) (by omega),eb]
   show zau mb (k+cnt x,((pre.length+1:Nat):Int),pre++ [y]++t)=_
   rw [←ec,f2,ea]
   congr 2
   omega
 have:=key xs [] k (by simp) (fun _ h=>h) h0 hB
 simpa using this
theorem zko {α:Type} (xs:List α) (n:Nat):(xs.map fun _=>n).sum=n*xs.length:=by
 induction xs with
 |nil=>simp
 |cons x xs ih=>rw [List.map_cons,List.sum_cons,ih,List.length_cons,Nat.mul_add];omega
end Go.Proofs.Ythgeekoigbihbaa
end
section
namespace Go.Proofs.Ythgeekoigbihbaa
open Go.RowKit
set_option maxRecDepth 100000
theorem zc8 {α:Type} {xs:List α} {i:Nat} {x:α} (h:xs[i]?=some x):zce xs (i:Int)=some x:=by simp [zce,h]
noncomputable def mt (n:Int):List UInt8:=(zar n).getD []
theorem zcB {n:Int} (h:n≤4611686018427387904):zar n=some (mt n):=by
 have key: ∃t,zar n=some t:=by
  unfold zar
  by_cases h0:n≤0
  ·rw [if_pos (by simpa using h0)];exact⟨_,rfl⟩
  ·rw [if_neg (by simpa using h0)]
   have go: ∀(f:Nat) (n:Int) (s:List UInt8),n.toNat≤f→0≤n→n+s.length≤4611686018427387905→ ∃t,zau (fun s:Int × List UInt8=>zaN s.1 s.2) (n,s)=some t:=by
    intro f
    have stop: ∀(n:Int) (s:List UInt8),¬n>0→s.length≤4611686018427387905→zau (fun s:Int × List UInt8=>zaN s.1 s.2) (n,s)=some ([109]++s):=fun n s hz hs=>by
     refine zra (?_:zaN n s=_)
     unfold zaN
     rw [if_neg (by simpa using hz)]
     unfold zfv
     rw [zaT (by rw [List.length_singleton];omega)]
    induction f with
    |zero=>
     intro n s hf hn hs
     exact⟨_,stop n s (by omega) (by omega)⟩
    |succ f ih=>
     intro n s hf hn hs
     by_cases hz:n>0
     ·have hd:Int.tdiv n 10<n∧0≤Int.tdiv n 10:=by
       rw [Int.tdiv_eq_ediv_of_nonneg hn];omega
      obtain⟨t,ht⟩:=ih (Int.tdiv n 10) ([(IntKind.u8.wrap (IntKind.i64.wrap ((48:Int)+(Int.tmod n 10))))].map (fun n=>UInt8.ofNat n.toNat)++s) (by omega) (by omega) (by simp only [List.length_append,List.length_map,List.length_singleton];omega)
      have e:zaN n s=some (.inl (Int.tdiv n 10, [(IntKind.u8.wrap (IntKind.i64.wrap ((48:Int)+(Int.tmod n 10))))].map (fun n=>UInt8.ofNat n.toNat)++s)):=by
       unfold zaN
       rw [if_pos (by simpa using hz),zaT (by simp),zaT (by rw [List.length_map,List.length_singleton];omega),za0 (n:=Int.tdiv n 10) (by omega) (by omega)]
      exact⟨t,(zqN (body:=fun s:Int × List UInt8=>zaN s.1 s.2) e).trans ht⟩
     ·exact⟨_,stop n s hz (by omega)⟩
   exact go n.toNat n [] (Nat.le_refl _) (by omega) (by simp;omega)
 obtain⟨t,ht⟩:=key
 rw [mt,ht];rfl
def zbt (x:zab):Nat:=x.fKey.length+x.fVal.length
theorem zsS {x:zab} (h:zbt x≤2000000):zfA x=some x:=rfl
theorem ztg {x:zab} (h:zbt x≤2000000):zec x x=some true:=by
 unfold zec
 simp []
theorem zsI {x:zab} {a:Int} (h0:0≤a) (h1:a≤1048576) (h:zkh x): ∃v,zek x a=some v∧v≤a∧(0≤v→(zbt x:Int)=a-v):=by
 unfold zek zbt
 rw [zeo (a:=a) (by omega) (by omega) h.1]
 by_cases q0:a-(x.fKey.length:Int)<0
 ·rw [if_pos (by simpa using q0)];exact⟨-1,rfl,by omega,by omega⟩
 rw [if_neg (by simpa using q0)]
 rw [zeo (a:=(a-(x.fKey.length:Int))) (by omega) (by omega) h.2.1]
 by_cases q1:(a-(x.fKey.length:Int))-(x.fVal.length:Int)<0
 ·rw [if_pos (by simpa using q1)];exact⟨-1,rfl,by omega,by omega⟩
 rw [if_neg (by simpa using q1)]
 exact⟨((a-(x.fKey.length:Int))-(x.fVal.length:Int)),rfl,by omega,fun _=>by omega⟩
def zaJ (l:List zab):Nat:=l.length+(l.map zbt).sum
theorem zrQ {xs:List zab} (h:zaJ xs≤2000000):zdI xs=some xs:=by
 have hl:xs.length≤2000000:=by unfold zaJ at h;omega
 have hx: ∀x∈xs,zbt x≤2000000:=fun x hx=>by have:=zdy (tot:=zbt) hx;unfold zaJ at h;omega
 unfold zdI
 rw [zaT (by omega)]
 exact zpL (fun i hi v hv=>by
  show zbF xs i v=_
  unfold zbF
  rw [if_pos (by simpa using hi),zag hi,Option.bind_some,zsS (hx _ (List.getElem_mem hi)),Option.bind_some,zag (by omega),Option.bind_some,zbT hi (by omega)];rfl) (fun v=>by
  show zbF xs _ v=_
  unfold zbF
  rw [if_neg (by simp)])
theorem zrS {xs:List zab} (h:zaJ xs≤2000000):zdD xs xs=some true:=by
 have hl:xs.length≤2000000:=by unfold zaJ at h;omega
 have hx: ∀x∈xs,zbt x≤2000000:=fun x hx=>by have:=zdy (tot:=zbt) hx;unfold zaJ at h;omega
 unfold zdD
 rw [if_neg (by simp)]
 exact zpB (n:=xs.length) (fun i hi=>by
  show zbG xs xs i=_
  unfold zbG
  rw [if_pos (by simpa using hi),zag hi,Option.bind_some,Option.bind_some,ztg (hx _ (List.getElem_mem hi)),Option.bind_some,if_neg (by simp),zbT hi (by omega)]) (by
  show zbG xs xs _=_
  unfold zbG
  rw [if_neg (by simp)])
theorem zsq {xs:List zab} {a:Int} (h0:0≤a) (h1:a≤1048576) (h:(okL zkh) xs): ∃v,zdO xs a=some v∧v≤a∧(0≤v→(zaJ xs:Int)=a-v):=by
 have hl:xs.length≤9223372036854775807:=h.1
 unfold zdO zaJ
 rw [zeo h0 h1 hl]
 by_cases h2:a-(xs.length:Int)<0
 ·rw [if_pos (by simpa using h2)];exact⟨-1,rfl,by omega,by omega⟩
 ·rw [if_neg (by simpa using h2)]
  obtain⟨v,e1,e2,e3⟩:=szL (xs:=xs) (body:=fun s:Int × Int=>zbe xs s.1 s.2) zbt (a:=a-xs.length) (by omega) (by omega) (fun x hx b hb0 hb1=>by
   obtain⟨r,e1,e2,e3⟩:=zsI (x:=x) hb0 hb1 (h.2 _ hx)
   refine⟨r,e2,e3,fun i hi=> ?_⟩
   have hi':=(List.getElem?_eq_some_iff.1 hi).1
   show zbe xs b i=_
   unfold zbe
   rw [if_pos (by simpa using hi'),zc8 hi,Option.bind_some,e1,Option.bind_some,zbT hi' (by omega)]
   by_cases h3:r<0
   ·rw [if_pos (by simpa using h3),if_pos h3]
   ·rw [if_neg (by simpa using h3),if_neg h3]) (fun b=>by
   show zbe xs b _=_
   unfold zbe
   rw [if_neg (by simp)])
  exact⟨v,e1,by omega,fun hv=>by have:=e3 hv;omega⟩
def zd8 (l:List zab):Nat:=(l.map fun x=>3).sum
theorem zox (l:List zab):zd8 l≤64*zaJ l:=by
 unfold zd8 zaJ
 rw [zko];omega
set_option maxHeartbeats 1000000 in
theorem zo6 {xs:List zab} {k:Int} (h0:0≤k) (hk:k+(zd8 xs:Nat)≤4611686018427387904) (h:zaJ xs≤2000000): ∃ys,ys.length=xs.length∧zd2 xs k=some (k+(zd8 xs:Nat),ys)∧zd7 ys k=some (k+(zd8 xs:Nat)):=by
 have hl:xs.length≤2000000:=by unfold zaJ at h;omega
 refine zrH (cnt:=fun x:zab=>3) (mb:=fun s:Int × Int × List zab=>zaZ s.1 s.2.1 s.2.2) (hb:=fun ys s=>zaY ys s.1 s.2) 4611686018427387904 h0 hk (fun x hx k h0 hB=> ?_) (fun k v hv=> ?_) (fun k ys hy=> ?_)
 ·have hB:k+((3:Nat):Int)≤4611686018427387904:=hB
  have fin:k+1+1+1=k+(((3:Nat)):Int):=by omega
  refine⟨?y,fun i v hv hi=> ?_,fun i ys hy hi=> ?_⟩
  rotate_left
  ·have hi':=(List.getElem?_eq_some_iff.1 hv).1
   show zaZ k i v=_
   unfold zaZ
   rw [if_pos (by simpa using hi')]
   simp only [zc8 hv,zbT hi (by omega:xs.length≤_),Int.toNat_natCast,List.set_set,Option.bind_some,(show IntKind.i64.wrap (k+1)=k+1 from za0 (by omega) (by omega)),(show IntKind.i64.wrap (k+1+1)=k+1+1 from za0 (by omega) (by omega)),(show IntKind.i64.wrap (k+1+1+1)=k+1+1+1 from za0 (by omega) (by omega)),zcB (n:=k) (by omega),zcB (n:=k+1) (by omega)]
   rw [fin]
  ·have hi':=(List.getElem?_eq_some_iff.1 hy).1
   show zaY ys k i=_
   unfold zaY
   rw [if_pos (by simpa using hi')]
   simp only [zc8 hy,zbT hi (by omega:xs.length≤_),bne_self_eq_false,Bool.false_eq_true,if_false,Option.bind_some,(show IntKind.i64.wrap (k+1)=k+1 from za0 (by omega) (by omega)),(show IntKind.i64.wrap (k+1+1)=k+1+1 from za0 (by omega) (by omega)),(show IntKind.i64.wrap (k+1+1+1)=k+1+1+1 from za0 (by omega) (by omega)),zcB (n:=k) (by omega),zcB (n:=k+1) (by omega)]
   rw [fin]
 ·show zaZ k _ v=_
  unfold zaZ
  rw [if_neg (by simp [hv])]
 ·show zaY ys k _=_
  unfold zaY
  rw [if_neg (by simp [hy])]
def zbY (x:zaS):Nat:=zaJ x.fRows
theorem zuC {x:zaS} (h:zbY x≤2000000):zcp x=some x:=by
 unfold zcp
 simp only [zrQ (xs:=x.fRows) (by unfold zbY at h;omega),Option.bind_some]
theorem zqY {x:zaS} (h:zbY x≤2000000):zch x x=some true:=by
 unfold zch
 simp [zrS (xs:=x.fRows) (by unfold zbY at h;omega)]
theorem zuh {x:zaS} {a:Int} (h0:0≤a) (h1:a≤1048576) (h:zsh x): ∃v,zeN x a=some v∧v≤a∧(0≤v→(zbY x:Int)=a-v):=by
 unfold zeN zbY
 obtain⟨b1,e1,g1,r1⟩:=zsq (xs:=x.fRows) (a:=a) (by omega) (by omega) h.2
 rw [e1,Option.bind_some]
 by_cases q1:b1<0
 ·rw [if_pos (by simpa using q1)];exact⟨-1,rfl,by omega,by omega⟩
 rw [if_neg (by simpa using q1)]
 have s1:=r1 (by omega)
 exact⟨b1,rfl,by omega,fun _=>by omega⟩
def zdE (x:zaS):Nat:=zd8 x.fRows
theorem zlW (x:zaS):zdE x≤64*zbY x:=by
 have h0:=zox x.fRows
 unfold zdE zbY
 omega
theorem znM {x:zaS} {k:Int} (h0:0≤k) (hk:k+(zdE x:Nat)≤4611686018427387904) (h:zbY x≤2000000): ∃r0:List zab,zcP x k=some (k+(zdE x:Nat),⟨x.fTime,r0⟩)∧zcL ⟨x.fTime,r0⟩ k=some (k+(zdE x:Nat)):=by
 obtain⟨r0, -,m0,g0⟩:=zo6 (xs:=x.fRows) (k:=k) (by omega) (by unfold zdE at hk;omega) (by unfold zbY at h;omega)
 have fin:k+((zd8 x.fRows:Nat):Int)=k+(zdE x:Nat):=by unfold zdE;omega
 refine⟨r0, ?_, ?_⟩
 ·unfold zcP
  simp only [m0,Option.bind_some]
  rw [fin]
 ·unfold zcL
  simp only [g0,Option.bind_some]
  rw [if_neg (by simp;omega)]
  rw [fin]
def zaE (x:zaa):Nat:=x.fKey.length+x.fVal.length
theorem zoI {x:zaa} (h:zaE x≤2000000):zeb x=some x:=rfl
theorem zoP {x:zaa} (h:zaE x≤2000000):zcZ x x=some true:=by
 unfold zcZ
 simp []
theorem zoW {x:zaa} {a:Int} (h0:0≤a) (h1:a≤1048576) (h:zfP x): ∃v,zcY x a=some v∧v≤a∧(0≤v→(zaE x:Int)=a-v):=by
 unfold zcY zaE
 rw [zeo (a:=a) (by omega) (by omega) h.2.2.1]
 by_cases q2:a-(x.fKey.length:Int)<0
 ·rw [if_pos (by simpa using q2)];exact⟨-1,rfl,by omega,by omega⟩
 rw [if_neg (by simpa using q2)]
 rw [zeo (a:=(a-(x.fKey.length:Int))) (by omega) (by omega) h.2.2.2.1]
 by_cases q3:(a-(x.fKey.length:Int))-(x.fVal.length:Int)<0
 ·rw [if_pos (by simpa using q3)];exact⟨-1,rfl,by omega,by omega⟩
 rw [if_neg (by simpa using q3)]
 exact⟨((a-(x.fKey.length:Int))-(x.fVal.length:Int)),rfl,by omega,fun _=>by omega⟩
def zas (l:List zaa):Nat:=l.length+(l.map zaE).sum
theorem zos {xs:List zaa} (h:zas xs≤2000000):zcE xs=some xs:=by
 have hl:xs.length≤2000000:=by unfold zas at h;omega
 have hx: ∀x∈xs,zaE x≤2000000:=fun x hx=>by have:=zdy (tot:=zaE) hx;unfold zas at h;omega
 unfold zcE
 rw [zaT (by omega)]
 exact zpL (fun i hi v hv=>by
  show za8 xs i v=_
  unfold za8
  rw [if_pos (by simpa using hi),zag hi,Option.bind_some,zoI (hx _ (List.getElem_mem hi)),Option.bind_some,zag (by omega),Option.bind_some,zbT hi (by omega)];rfl) (fun v=>by
  show za8 xs _ v=_
  unfold za8
  rw [if_neg (by simp)])
theorem znE {xs:List zaa} (h:zas xs≤2000000):zcG xs xs=some true:=by
 have hl:xs.length≤2000000:=by unfold zas at h;omega
 have hx: ∀x∈xs,zaE x≤2000000:=fun x hx=>by have:=zdy (tot:=zaE) hx;unfold zas at h;omega
 unfold zcG
 rw [if_neg (by simp)]
 exact zpB (n:=xs.length) (fun i hi=>by
  show za4 xs xs i=_
  unfold za4
  rw [if_pos (by simpa using hi),zag hi,Option.bind_some,Option.bind_some,zoP (hx _ (List.getElem_mem hi)),Option.bind_some,if_neg (by simp),zbT hi (by omega)]) (by
  show za4 xs xs _=_
  unfold za4
  rw [if_neg (by simp)])
theorem znN {xs:List zaa} {a:Int} (h0:0≤a) (h1:a≤1048576) (h:(okL zfP) xs): ∃v,zcF xs a=some v∧v≤a∧(0≤v→(zas xs:Int)=a-v):=by
 have hl:xs.length≤9223372036854775807:=h.1
 unfold zcF zas
 rw [zeo h0 h1 hl]
 by_cases h2:a-(xs.length:Int)<0
 ·rw [if_pos (by simpa using h2)];exact⟨-1,rfl,by omega,by omega⟩
 ·rw [if_neg (by simpa using h2)]
  obtain⟨v,e1,e2,e3⟩:=szL (xs:=xs) (body:=fun s:Int × Int=>zaR xs s.1 s.2) zaE (a:=a-xs.length) (by omega) (by omega) (fun x hx b hb0 hb1=>by
   obtain⟨r,e1,e2,e3⟩:=zoW (x:=x) hb0 hb1 (h.2 _ hx)
   refine⟨r,e2,e3,fun i hi=> ?_⟩
   have hi':=(List.getElem?_eq_some_iff.1 hi).1
   show zaR xs b i=_
   unfold zaR
   rw [if_pos (by simpa using hi'),zc8 hi,Option.bind_some,e1,Option.bind_some,zbT hi' (by omega)]
   by_cases h3:r<0
   ·rw [if_pos (by simpa using h3),if_pos h3]
   ·rw [if_neg (by simpa using h3),if_neg h3]) (fun b=>by
   show zaR xs b _=_
   unfold zaR
   rw [if_neg (by simp)])
  exact⟨v,e1,by omega,fun hv=>by have:=e3 hv;omega⟩
def zcf (l:List zaa):Nat:=(l.map fun x=>5).sum
theorem zkV (l:List zaa):zcf l≤64*zas l:=by
 unfold zcf zas
 rw [zko];omega
set_option maxHeartbeats 1000000 in
theorem zlz {xs:List zaa} {k:Int} (h0:0≤k) (hk:k+(zcf xs:Nat)≤4611686018427387904) (h:zas xs≤2000000): ∃ys,ys.length=xs.length∧zc5 xs k=some (k+(zcf xs:Nat),ys)∧zc6 ys k=some (k+(zcf xs:Nat)):=by
 have hl:xs.length≤2000000:=by unfold zas at h;omega
 refine zrH (cnt:=fun x:zaa=>5) (mb:=fun s:Int × Int × List zaa=>zaI s.1 s.2.1 s.2.2) (hb:=fun ys s=>zaK ys s.1 s.2) 4611686018427387904 h0 hk (fun x hx k h0 hB=> ?_) (fun k v hv=> ?_) (fun k ys hy=> ?_)
 ·have hB:k+((5:Nat):Int)≤4611686018427387904:=hB
  have fin:k+1+1+1+1+1=k+(((5:Nat)):Int):=by omega
  refine⟨?y,fun i v hv hi=> ?_,fun i ys hy hi=> ?_⟩
  rotate_left
  ·have hi':=(List.getElem?_eq_some_iff.1 hv).1
   show zaI k i v=_
   unfold zaI
   rw [if_pos (by simpa using hi')]
   simp only [zc8 hv,zbT hi (by omega:xs.length≤_),Int.toNat_natCast,List.set_set,Option.bind_some,(show IntKind.i64.wrap (k+1)=k+1 from za0 (by omega) (by omega)),(show IntKind.i64.wrap (k+1+1)=k+1+1 from za0 (by omega) (by omega)),(show IntKind.i64.wrap (k+1+1+1)=k+1+1+1 from za0 (by omega) (by omega)),(show IntKind.i64.wrap (k+1+1+1+1)=k+1+1+1+1 from za0 (by omega) (by omega)),(show IntKind.i64.wrap (k+1+1+1+1+1)=k+1+1+1+1+1 from za0 (by omega) (by omega)),zcB (n:=k+1+1) (by omega),zcB (n:=k+1+1+1) (by omega)]
   rw [fin]
  ·have hi':=(List.getElem?_eq_some_iff.1 hy).1
   show zaK ys k i=_
   unfold zaK
   rw [if_pos (by simpa using hi')]
   simp only [zc8 hy,zbT hi (by omega:xs.length≤_),bne_self_eq_false,Bool.false_eq_true,if_false,Option.bind_some,(show IntKind.i64.wrap (k+1)=k+1 from za0 (by omega) (by omega)),(show IntKind.i64.wrap (k+1+1)=k+1+1 from za0 (by omega) (by omega)),(show IntKind.i64.wrap (k+1+1+1)=k+1+1+1 from za0 (by omega) (by omega)),(show IntKind.i64.wrap (k+1+1+1+1)=k+1+1+1+1 from za0 (by omega) (by omega)),(show IntKind.i64.wrap (k+1+1+1+1+1)=k+1+1+1+1+1 from za0 (by omega) (by omega)),zcB (n:=k+1+1) (by omega),zcB (n:=k+1+1+1) (by omega)]
   rw [fin]
 ·show zaI k _ v=_
  unfold zaI
  rw [if_neg (by simp [hv])]
 ·show zaK ys k _=_
  unfold zaK
  rw [if_neg (by simp [hy])]
def zbK (x:zaV):Nat:=zas x.fList
theorem zuA {x:zaV} (h:zbK x≤2000000):zcm x=some x:=by
 unfold zcm
 simp only [zos (xs:=x.fList) (by unfold zbK at h;omega),Option.bind_some]
theorem zrr {x:zaV} (h:zbK x≤2000000):zcj x x=some true:=by
 unfold zcj
 simp [znE (xs:=x.fList) (by unfold zbK at h;omega)]
theorem zuS {x:zaV} {a:Int} (h0:0≤a) (h1:a≤1048576) (h:zqZ x): ∃v,ze4 x a=some v∧v≤a∧(0≤v→(zbK x:Int)=a-v):=by
 unfold ze4 zbK
 obtain⟨b2,e2,g2,r2⟩:=znN (xs:=x.fList) (a:=a) (by omega) (by omega) h.2.2
 rw [e2,Option.bind_some]
 by_cases q2:b2<0
 ·rw [if_pos (by simpa using q2)];exact⟨-1,rfl,by omega,by omega⟩
 rw [if_neg (by simpa using q2)]
 have s2:=r2 (by omega)
 exact⟨b2,rfl,by omega,fun _=>by omega⟩
def zeq (x:zaV):Nat:=zcf x.fList
theorem zlX (x:zaV):zeq x≤64*zbK x:=by
 have h0:=zkV x.fList
 unfold zeq zbK
 omega
theorem zom {x:zaV} {k:Int} (h0:0≤k) (hk:k+(zeq x:Nat)≤4611686018427387904) (h:zbK x≤2000000): ∃r0:List zaa,zcN x k=some (k+(zeq x:Nat),⟨x.fFrom,x.fTo,r0⟩)∧zcQ ⟨x.fFrom,x.fTo,r0⟩ k=some (k+(zeq x:Nat)):=by
 obtain⟨r0, -,m0,g0⟩:=zlz (xs:=x.fList) (k:=k) (by omega) (by unfold zeq at hk;omega) (by unfold zbK at h;omega)
 have fin:k+((zcf x.fList:Nat):Int)=k+(zeq x:Nat):=by unfold zeq;omega
 refine⟨r0, ?_, ?_⟩
 ·unfold zcN
  simp only [m0,Option.bind_some]
  rw [fin]
 ·unfold zcQ
  simp only [g0,Option.bind_some]
  rw [if_neg (by simp;omega)]
  rw [fin]
def zdZ (x:zeB):Nat:=x.fVal.length
theorem zvX {x:zeB} (h:zdZ x≤2000000):zgC x=some x:=rfl
theorem zvA {x:zeB} (h:zdZ x≤2000000):zfq x x=some true:=by
 unfold zfq
 simp []
theorem zwo {x:zeB} {a:Int} (h0:0≤a) (h1:a≤1048576) (h:zr6 x): ∃v,zfr x a=some v∧v≤a∧(0≤v→(zdZ x:Int)=a-v):=by
 unfold zfr zdZ
 rw [zeo (a:=a) (by omega) (by omega) h.2.1]
 by_cases q1:a-(x.fVal.length:Int)<0
 ·rw [if_pos (by simpa using q1)];exact⟨-1,rfl,by omega,by omega⟩
 rw [if_neg (by simpa using q1)]
 exact⟨(a-(x.fVal.length:Int)),rfl,by omega,fun _=>by omega⟩
def zbU (l:List zeB):Nat:=l.length+(l.map zdZ).sum
theorem zuu {xs:List zeB} (h:zbU xs≤2000000):ze2 xs=some xs:=by
 have hl:xs.length≤2000000:=by unfold zbU at h;omega
 have hx: ∀x∈xs,zdZ x≤2000000:=fun x hx=>by have:=zdy (tot:=zdZ) hx;unfold zbU at h;omega
 unfold ze2
 rw [zaT (by omega)]
 exact zpL (fun i hi v hv=>by
  show zcw xs i v=_
  unfold zcw
  rw [if_pos (by simpa using hi),zag hi,Option.bind_some,zvX (hx _ (List.getElem_mem hi)),Option.bind_some,zag (by omega),Option.bind_some,zbT hi (by omega)];rfl) (fun v=>by
  show zcw xs _ v=_
  unfold zcw
  rw [if_neg (by simp)])
theorem zuz {xs:List zeB} (h:zbU xs≤2000000):zeQ xs xs=some true:=by
 have hl:xs.length≤2000000:=by unfold zbU at h;omega
 have hx: ∀x∈xs,zdZ x≤2000000:=fun x hx=>by have:=zdy (tot:=zdZ) hx;unfold zbU at h;omega
 unfold zeQ
 rw [if_neg (by simp)]
 exact zpB (n:=xs.length) (fun i hi=>by
  show zcr xs xs i=_
  unfold zcr
  rw [if_pos (by simpa using hi),zag hi,Option.bind_some,Option.bind_some,zvA (hx _ (List.getElem_mem hi)),Option.bind_some,if_neg (by simp),zbT hi (by omega)]) (by
  show zcr xs xs _=_
  unfold zcr
  rw [if_neg (by simp)])
theorem zu5 {xs:List zeB} {a:Int} (h0:0≤a) (h1:a≤1048576) (h:(okL zr6) xs): ∃v,zeT xs a=some v∧v≤a∧(0≤v→(zbU xs:Int)=a-v):=by
 have hl:xs.length≤9223372036854775807:=h.1
 unfold zeT zbU
 rw [zeo h0 h1 hl]
 by_cases h2:a-(xs.length:Int)<0
 ·rw [if_pos (by simpa using h2)];exact⟨-1,rfl,by omega,by omega⟩
 ·rw [if_neg (by simpa using h2)]
  obtain⟨v,e1,e2,e3⟩:=szL (xs:=xs) (body:=fun s:Int × Int=>zbB xs s.1 s.2) zdZ (a:=a-xs.length) (by omega) (by omega) (fun x hx b hb0 hb1=>by
   obtain⟨r,e1,e2,e3⟩:=zwo (x:=x) hb0 hb1 (h.2 _ hx)
   refine⟨r,e2,e3,fun i hi=> ?_⟩
   have hi':=(List.getElem?_eq_some_iff.1 hi).1
   show zbB xs b i=_
   unfold zbB
   rw [if_pos (by simpa using hi'),zc8 hi,Option.bind_some,e1,Option.bind_some,zbT hi' (by omega)]
   by_cases h3:r<0
   ·rw [if_pos (by simpa using h3),if_pos h3]
   ·rw [if_neg (by simpa using h3),if_neg h3]) (fun b=>by
   show zbB xs b _=_
   unfold zbB
   rw [if_neg (by simp)])
  exact⟨v,e1,by omega,fun hv=>by have:=e3 hv;omega⟩
def zeR (l:List zeB):Nat:=(l.map fun x=>3).sum
theorem zqk (l:List zeB):zeR l≤64*zbU l:=by
 unfold zeR zbU
 rw [zko];omega
set_option maxHeartbeats 1000000 in
theorem zrw {xs:List zeB} {k:Int} (h0:0≤k) (hk:k+(zeR xs:Nat)≤4611686018427387904) (h:zbU xs≤2000000): ∃ys,ys.length=xs.length∧zfm xs k=some (k+(zeR xs:Nat),ys):=by
 have hl:xs.length≤2000000:=by unfold zbU at h;omega
 refine znp (cnt:=fun x:zeB=>3) (mb:=fun s:Int × Int × List zeB=>zbf s.1 s.2.1 s.2.2) 4611686018427387904 h0 hk (fun x hx k h0 hB=> ?_) (fun k v hv=> ?_)
 ·have hB:k+((3:Nat):Int)≤4611686018427387904:=hB
  have fin:k+1+1+1=k+(((3:Nat)):Int):=by omega
  refine⟨?y,fun i v hv hi=> ?_⟩
  rotate_left
  ·have hi':=(List.getElem?_eq_some_iff.1 hv).1
   show zbf k i v=_
   unfold zbf
   rw [if_pos (by simpa using hi')]
   simp only [zc8 hv,zbT hi (by omega:xs.length≤_),Int.toNat_natCast,List.set_set,Option.bind_some,(show IntKind.i64.wrap (k+1)=k+1 from za0 (by omega) (by omega)),(show IntKind.i64.wrap (k+1+1)=k+1+1 from za0 (by omega) (by omega)),(show IntKind.i64.wrap (k+1+1+1)=k+1+1+1 from za0 (by omega) (by omega)),zcB (n:=k+1) (by omega)]
   rw [fin]
 ·show zbf k _ v=_
  unfold zbf
  rw [if_neg (by simp [hv])]
def zbx (x:zat):Nat:=x.fKey.length+zbU x.fVers
theorem zuO {x:zat} (h:zbx x≤2000000):ze3 x=some x:=by
 unfold ze3
 simp only [zuu (xs:=x.fVers) (by unfold zbx at h;omega),Option.bind_some]
theorem zuI {x:zat} (h:zbx x≤2000000):ze9 x x=some true:=by
 unfold ze9
 simp [zuz (xs:=x.fVers) (by unfold zbx at h;omega)]
theorem zu7 {x:zat} {a:Int} (h0:0≤a) (h1:a≤1048576) (h:zoh x): ∃v,zeS x a=some v∧v≤a∧(0≤v→(zbx x:Int)=a-v):=by
 unfold zeS zbx
 rw [zeo (a:=a) (by omega) (by omega) h.1]
 by_cases q0:a-(x.fKey.length:Int)<0
 ·rw [if_pos (by simpa using q0)];exact⟨-1,rfl,by omega,by omega⟩
 rw [if_neg (by simpa using q0)]
 obtain⟨b1,e1,g1,r1⟩:=zu5 (xs:=x.fVers) (a:=(a-(x.fKey.length:Int))) (by omega) (by omega) h.2
 rw [e1,Option.bind_some]
 by_cases q1:b1<0
 ·rw [if_pos (by simpa using q1)];exact⟨-1,rfl,by omega,by omega⟩
 rw [if_neg (by simpa using q1)]
 have s1:=r1 (by omega)
 exact⟨b1,rfl,by omega,fun _=>by omega⟩
def zbm (l:List zat):Nat:=l.length+(l.map zbx).sum
theorem zsL {xs:List zat} (h:zbm xs≤2000000):zbM xs=some xs:=by
 have hl:xs.length≤2000000:=by unfold zbm at h;omega
 have hx: ∀x∈xs,zbx x≤2000000:=fun x hx=>by have:=zdy (tot:=zbx) hx;unfold zbm at h;omega
 unfold zbM
 rw [zaT (by omega)]
 exact zpL (fun i hi v hv=>by
  show zb5 xs i v=_
  unfold zb5
  rw [if_pos (by simpa using hi),zag hi,Option.bind_some,zuO (hx _ (List.getElem_mem hi)),Option.bind_some,zag (by omega),Option.bind_some,zbT hi (by omega)];rfl) (fun v=>by
  show zb5 xs _ v=_
  unfold zb5
  rw [if_neg (by simp)])
theorem zs5 {xs:List zat} (h:zbm xs≤2000000):zeg xs xs=some true:=by
 have hl:xs.length≤2000000:=by unfold zbm at h;omega
 have hx: ∀x∈xs,zbx x≤2000000:=fun x hx=>by have:=zdy (tot:=zbx) hx;unfold zbm at h;omega
 unfold zeg
 rw [if_neg (by simp)]
 exact zpB (n:=xs.length) (fun i hi=>by
  show zb6 xs xs i=_
  unfold zb6
  rw [if_pos (by simpa using hi),zag hi,Option.bind_some,Option.bind_some,zuI (hx _ (List.getElem_mem hi)),Option.bind_some,if_neg (by simp),zbT hi (by omega)]) (by
  show zb6 xs xs _=_
  unfold zb6
  rw [if_neg (by simp)])
theorem ztv {xs:List zat} {a:Int} (h0:0≤a) (h1:a≤1048576) (h:(okL zoh) xs): ∃v,zed xs a=some v∧v≤a∧(0≤v→(zbm xs:Int)=a-v):=by
 have hl:xs.length≤9223372036854775807:=h.1
 unfold zed zbm
 rw [zeo h0 h1 hl]
 by_cases h2:a-(xs.length:Int)<0
 ·rw [if_pos (by simpa using h2)];exact⟨-1,rfl,by omega,by omega⟩
 ·rw [if_neg (by simpa using h2)]
  obtain⟨v,e1,e2,e3⟩:=szL (xs:=xs) (body:=fun s:Int × Int=>zbp xs s.1 s.2) zbx (a:=a-xs.length) (by omega) (by omega) (fun x hx b hb0 hb1=>by
   obtain⟨r,e1,e2,e3⟩:=zu7 (x:=x) hb0 hb1 (h.2 _ hx)
   refine⟨r,e2,e3,fun i hi=> ?_⟩
   have hi':=(List.getElem?_eq_some_iff.1 hi).1
   show zbp xs b i=_
   unfold zbp
   rw [if_pos (by simpa using hi'),zc8 hi,Option.bind_some,e1,Option.bind_some,zbT hi' (by omega)]
   by_cases h3:r<0
   ·rw [if_pos (by simpa using h3),if_pos h3]
   ·rw [if_neg (by simpa using h3),if_neg h3]) (fun b=>by
   show zbp xs b _=_
   unfold zbp
   rw [if_neg (by simp)])
  exact⟨v,e1,by omega,fun hv=>by have:=e3 hv;omega⟩
def zgu (l:List zat):Nat:=(l.map fun x=>1+zeR x.fVers).sum
theorem zo9 (l:List zat):zgu l≤64*zbm l:=by
 unfold zgu zbm
 induction l with
 |nil=>simp
 |cons x l ih=>
  rw [List.map_cons,List.sum_cons,List.length_cons,List.map_cons,List.sum_cons]
  have h0:=zqk x.fVers
  unfold zbx at*
  omega
set_option maxHeartbeats 1000000 in
theorem zqp {xs:List zat} {k:Int} (h0:0≤k) (hk:k+(zgu xs:Nat)≤4611686018427387904) (h:zbm xs≤2000000): ∃ys,ys.length=xs.length∧zeE xs k=some (k+(zgu xs:Nat),ys):=by
 have hl:xs.length≤2000000:=by unfold zbm at h;omega
 refine znp (cnt:=fun x:zat=>1+zeR x.fVers) (mb:=fun s:Int × Int × List zat=>za3 s.1 s.2.1 s.2.2) 4611686018427387904 h0 hk (fun x hx k h0 hB=> ?_) (fun k v hv=> ?_)
 ·have hB:k+((1+zeR x.fVers:Nat):Int)≤4611686018427387904:=hB
  obtain⟨r0, -,m0⟩:=zrw (xs:=x.fVers) (k:=k+1) (by omega) (by omega) (by have:=zdy (tot:=zbx) hx;unfold zbm at h;have e_:zbU x.fVers≤zbx x:=(by unfold zbx;omega);omega)
  have fin:k+1+((zeR x.fVers:Nat):Int)=k+(((1+zeR x.fVers:Nat)):Int):=by omega
  refine⟨?y,fun i v hv hi=> ?_⟩
  rotate_left
  ·have hi':=(List.getElem?_eq_some_iff.1 hv).1
   show za3 k i v=_
   unfold za3
   rw [if_pos (by simpa using hi')]
   simp only [zc8 hv,zbT hi (by omega:xs.length≤_),Int.toNat_natCast,List.set_set,Option.bind_some,(show IntKind.i64.wrap (k+1)=k+1 from za0 (by omega) (by omega)),zcB (n:=k) (by omega),m0]
   rw [fin]
 ·show za3 k _ v=_
  unfold za3
  rw [if_neg (by simp [hv])]
end Go.Proofs.Ythgeekoigbihbaa
end
section
namespace Go.Proofs.Ythgeekoigbihbaa
open Go.RowKit
set_option maxRecDepth 100000
abbrev RtS:Nat→List AV→AV→Prop:=Rts Try.prog sgs
@[reducible] def zvu:Nat→Type
 |0=>zab
 |1=>zaa
 |2=>zaS
 |3=>zaV
 |4=>zeB
 |5=>zat
 |6=>zuX
 |7=>zu3
 |8=>zl8
 |_+9=>Unit
@[reducible] def zwu:Nat→List Ty
 |0=> [.s, .s, .b]
 |1=> [.i .i64, .i .i64, .s, .s, .b]
 |2=> [.i .i64, .l (.st 0)]
 |3=> [.i .i64, .i .i64, .l (.st 1)]
 |4=> [.i .i64, .s, .b]
 |5=> [.s, .l (.st 4)]
 |6=> [.i .i64, .i .i64, .i .i64, .l .s, .l (.st 0)]
 |7=> [.i .i64, .b, .i .i64]
 |8=> [.i .i64, .l (.st 5), .l (.st 6), .l (.st 7)]
 |_+9=> []
def tAv: ∀n,zvu n→AV
 |0,x=>zkN x
 |1,x=>zbC x
 |2,x=>zsw x
 |3,x=>zrn x
 |4,x=>zsT x
 |5,x=>zn2 x
 |6,x=>ztJ x
 |7,x=>zt4 x
 |8,x=>zuH x
 |_+9,_=> .agg []
def zxb: ∀n,zvu n→HL zvu (zwu n)
 |0,x=>(x.fKey,x.fVal,x.fGone,())
 |1,x=>(x.fTime,x.fGroup,x.fKey,x.fVal,x.fGone,())
 |2,x=>(x.fTime,x.fRows,())
 |3,x=>(x.fFrom,x.fTo,x.fList,())
 |4,x=>(x.fTime,x.fVal,x.fGone,())
 |5,x=>(x.fKey,x.fVers,())
 |6,x=>(x.fTxn,x.fTime,x.fLead,x.fReads,x.fWrites,())
 |7,x=>(x.fTxn,x.fYes,x.fTime,())
 |8,x=>(x.fFloor,x.fCells,x.fHeld,x.fTold,())
 |_+9,_=>()
def tMk: ∀n,HL zvu (zwu n)→zvu n
 |0,x=>⟨x.1,x.2.1,x.2.2.1⟩
 |1,x=>⟨x.1,x.2.1,x.2.2.1,x.2.2.2.1,x.2.2.2.2.1⟩
 |2,x=>⟨x.1,x.2.1⟩
 |3,x=>⟨x.1,x.2.1,x.2.2.1⟩
 |4,x=>⟨x.1,x.2.1,x.2.2.1⟩
 |5,x=>⟨x.1,x.2.1⟩
 |6,x=>⟨x.1,x.2.1,x.2.2.1,x.2.2.2.1,x.2.2.2.2.1⟩
 |7,x=>⟨x.1,x.2.1,x.2.2.1⟩
 |8,x=>⟨x.1,x.2.1,x.2.2.1,x.2.2.2.1⟩
 |_+9,_=>()
theorem zvQ: ∀n x,tAv n x= .agg (zpX tAv (zwu n) (zxb n x))
 |0,_=>rfl
 |1,_=>rfl
 |2,_=>rfl
 |3,_=>rfl
 |4,_=>rfl
 |5,_=>rfl
 |6,_=>rfl
 |7,_=>rfl
 |8,_=>rfl
 |_+9,_=>rfl
theorem zuE: ∀n h,zxb n (tMk n h)=h
 |0,_=>rfl
 |1,_=>rfl
 |2,_=>rfl
 |3,_=>rfl
 |4,_=>rfl
 |5,_=>rfl
 |6,_=>rfl
 |7,_=>rfl
 |8,_=>rfl
 |_+9,_=>rfl
@[reducible] def tab:Tab:=⟨RtS,zvu,tAv,zwu,zxb,tMk,zvQ,zuE⟩
end Go.Proofs.Ythgeekoigbihbaa
end
section
namespace Go.Proofs.Ythgeekoigbihbaa
open Go.RowKit
abbrev FS:=FN tab
noncomputable def tev (tb:List FS) (hs:List JM) (o:Option Tr) (ps:List PT) (r:RT) (xs:HP tab.car ps) (hp:zpC tab ps xs):Option (RTI tab.car r):=match o with
 |some t=>zbR tb 100000 (toR r) t hs (vPs ps xs hp) [] []
 |none=>none
theorem zxt {f:Nat} {ps:List PT} {r:RT} {φ:HP tab.car ps→Option (RTI tab.car r)} (tb:List FS) (hs:List JM) (h: ∀xs hp,tev tb hs (zvV Try.prog sgs f) ps r xs hp=φ xs) (hk: ∀xs y,zwO Try.prog sgs f (zgx tab ps xs) (zoF tab r y)=true) (xs:HP tab.car ps) (y:RTI tab.car r) (hp:zpC tab ps xs) (e:φ xs=some y):tab.Rt f (zgx tab ps xs) (zoF tab r y):=by
 rw [←h xs hp]at e
 unfold tev at e
 split at e
 ·rename_i t ht
  refine zkK ht (hk xs y) ?_
  unfold Den
  rw [←zsc ps xs hp]
  exact zaF tb 100000 (fa:= []) (fun _ h=>nomatch h) (fun _ h=>nomatch h) (fun v hv=>zoV r hv) .nil e
 ·cases e
noncomputable def mkF (f:Nat) (ps:List PT) (r:RT) (φ:HP tab.car ps→Option (RTI tab.car r)) (tb:List FS) (hs:List JM) (h: ∀xs hp,tev tb hs (zvV Try.prog sgs f) ps r xs hp=φ xs) (hk: ∀xs y,zwO Try.prog sgs f (zgx tab ps xs) (zoF tab r y)=true):FS:=
 ⟨f,ps,r,φ,fun xs y hp e=>zxt tb hs h hk xs y hp e,false,fun h=>by cases h⟩
noncomputable def mkP (d:FS) (h: ∀y,zqS d.f (zoF tab d.r y)=true):FS:=
 ⟨d.f,d.ps,d.r,d.φ,d.ok,true,fun _ xs y hx e=>zrP (d.ok xs y hx e) (h y)⟩
noncomputable def mkH (f:Nat) (ps:List PT) (r:RT) (φ:HP tab.car ps→Option (RTI tab.car r)) (ok: ∀xs y,zpC tab ps xs→φ xs=some y→tab.Rt f (zgx tab ps xs) (zoF tab r y)):FS:=⟨f,ps,r,φ,ok,false,fun h=>by cases h⟩
end Go.Proofs.Ythgeekoigbihbaa
end
section
namespace Go.Proofs.Ythgeekoigbihbaa
open Go.RowKit
set_option maxRecDepth 100000
set_option maxHeartbeats 4000000
noncomputable def zdS:FS:=mkH 158 [.v .s, .v (.i .u8)] (.v (.i .i64)) (fun x=>zaD x.1 x.2.1) fun x r _ h=>zdT x.1 x.2.1 r h
noncomputable def zcK:FS:=mkH 78 [.v (.l (.st 0)), .v (.i .i64), .v (.l (.st 0))] (.v (.l (.st 0))) (fun x=>zjH x.1 x.2.1 x.2.2.1) fun x r hp h=>zur (t:=30) (it:=3) (el:=71) (K:=3) (by kernel_rfl) (fun _=>by kernel_rfl) zsp h
noncomputable def zbH:FS:=mkH 87 [.v (.l (.st 1)), .fn [.st 1, .st 1] (.i .i64)] (.tu (.cons (.tu .nil) (.cons (.v (.l (.st 1))) .nil))) (fun x=>zf3 x.2.1.g x.2.1.caps x.1) fun x r hp h=>zmq h
noncomputable def zlx:FS:=mkF 65 [.v (.st 0), .v (.i .i64)] (.v (.i .i64)) (fun x=>zek x.1 x.2.1) [] [] (fun _ _=>by kernel_rfl) (fun _ _=>by kernel_rfl)
noncomputable def zkT:FS:=mkF 29 [.v (.l (.st 0)), .v (.i .i64)] (.v (.i .i64)) (fun x=>zdO x.1 x.2.1) [zlx] [.sp [.i .i64, .i .i64]] (fun _ _=>by kernel_rfl) (fun _ _=>by kernel_rfl)
noncomputable def znm:FS:=mkF 6 [.v (.st 2), .v (.i .i64)] (.v (.i .i64)) (fun x=>zeN x.1 x.2.1) [zkT] [] (fun _ _=>by kernel_rfl) (fun _ _=>by kernel_rfl)
noncomputable def ziz:FS:=mkF 66 [.v (.st 1), .v (.i .i64)] (.v (.i .i64)) (fun x=>zcY x.1 x.2.1) [] [] (fun _ _=>by kernel_rfl) (fun _ _=>by kernel_rfl)
noncomputable def zic:FS:=mkF 30 [.v (.l (.st 1)), .v (.i .i64)] (.v (.i .i64)) (fun x=>zcF x.1 x.2.1) [ziz] [.sp [.i .i64, .i .i64]] (fun _ _=>by kernel_rfl) (fun _ _=>by kernel_rfl)
noncomputable def zne:FS:=mkF 7 [.v (.st 3), .v (.i .i64)] (.v (.i .i64)) (fun x=>ze4 x.1 x.2.1) [zic] [] (fun _ _=>by kernel_rfl) (fun _ _=>by kernel_rfl)
noncomputable def zli:FS:=mkF 70 [.v (.st 0)] (.v (.st 0)) (fun x=>zfA x.1) [] [] (fun _ _=>by kernel_rfl) (fun _ _=>by kernel_rfl)
noncomputable def zjV:FS:=mkF 34 [.v (.l (.st 0))] (.v (.l (.st 0))) (fun x=>zdI x.1) [zli] [.sp [.i .i64, .l (.st 0)]] (fun _ _=>by kernel_rfl) (fun _ _=>by kernel_rfl)
noncomputable def znk:FS:=mkF 9 [.v (.st 2)] (.v (.st 2)) (fun x=>zcp x.1) [zjV] [] (fun _ _=>by kernel_rfl) (fun _ _=>by kernel_rfl)
noncomputable def ziN:FS:=mkF 71 [.v (.st 1)] (.v (.st 1)) (fun x=>zeb x.1) [] [] (fun _ _=>by kernel_rfl) (fun _ _=>by kernel_rfl)
noncomputable def zij:FS:=mkF 35 [.v (.l (.st 1))] (.v (.l (.st 1))) (fun x=>zcE x.1) [ziN] [.sp [.i .i64, .l (.st 1)]] (fun _ _=>by kernel_rfl) (fun _ _=>by kernel_rfl)
noncomputable def zmI:FS:=mkF 10 [.v (.st 3)] (.v (.st 3)) (fun x=>zcm x.1) [zij] [] (fun _ _=>by kernel_rfl) (fun _ _=>by kernel_rfl)
noncomputable def zd1:FS:=mkF 67 [.v (.i .i64), .v (.i .i64), .v (.i .i64)] (.v .b) (fun x=>zbL x.1 x.2.1 x.2.2.1) [] [] (fun _ _=>by kernel_rfl) (fun _ _=>by kernel_rfl)
noncomputable def zhl:FS:=mkF 148 [.v .s, .v .s] (.v .b) (fun x=>zdd x.1 x.2.1) [] [.sp [.i .i64], .sp [.b, .i .i64]] (fun _ _=>by kernel_rfl) (fun _ _=>by kernel_rfl)
noncomputable def zjc:FS:=mkF 123 [.v .s] (.v .b) (fun x=>zeA x.1) [zd1,zhl] [] (fun _ _=>by kernel_rfl) (fun _ _=>by kernel_rfl)
noncomputable def znX:FS:=mkF 127 [.v .s] (.v .b) (fun x=>zfs x.1) [zhl] [] (fun _ _=>by kernel_rfl) (fun _ _=>by kernel_rfl)
noncomputable def zfz:FS:=mkF 95 [.v .s, .v .s, .v .b] (.v .b) (fun x=>zcz x.1 x.2.1 x.2.2.1) [zjc,znX] [] (fun _ _=>by kernel_rfl) (fun _ _=>by kernel_rfl)
noncomputable def zkv:FS:=mkF 68 [.v (.l (.st 0))] (.v .b) (fun x=>zdC x.1) [zfz] [.sp [.i .i64]] (fun _ _=>by kernel_rfl) (fun _ _=>by kernel_rfl)
noncomputable def zlf:FS:=mkF 31 [.v (.st 2)] (.v .b) (fun x=>zda x.1) [zd1,zkv] [.sp [.i .i64]] (fun _ _=>by kernel_rfl) (fun _ _=>by kernel_rfl)
noncomputable def zlt:FS:=mkF 96 [.v (.st 1)] (.v .b) (fun x=>zee x.1) [zd1,zfz] [] (fun _ _=>by kernel_rfl) (fun _ _=>by kernel_rfl)
noncomputable def zgv:FS:=mkF 97 [.v (.st 1), .v (.st 1)] (.v .b) (fun x=>zbZ x.1 x.2.1) [] [] (fun _ _=>by kernel_rfl) (fun _ _=>by kernel_rfl)
noncomputable def zlB:FS:=mkF 69 [.v (.l (.st 1))] (.v .b) (fun x=>zef x.1) [zlt,zgv] [.sp [.i .i64]] (fun _ _=>by kernel_rfl) (fun _ _=>by kernel_rfl)
noncomputable def zhp:FS:=mkF 32 [.v (.st 3)] (.v .b) (fun x=>zcy x.1) [zd1,zlB] [.sp [.i .i64]] (fun _ _=>by kernel_rfl) (fun _ _=>by kernel_rfl)
noncomputable def zog:FS:=mkF 33 [.v (.l (.st 0)), .v (.st 1)] (.v (.l (.st 0))) (fun x=>zez x.1 x.2.1) [] [.sp [.b, .i .i64, .l (.st 0)], .inl, .pt, .inl] (fun _ _=>by kernel_rfl) (fun _ _=>by kernel_rfl)
noncomputable def zlC:FS:=mkF 8 [.v (.st 2), .v (.st 3)] (.tu (.cons (.v (.st 2)) (.cons (.v .b) .nil))) (fun x=>zep x.1 x.2.1) [zlf,zhp,zog] [.sp [.i .i64, .l (.st 0)]] (fun _ _=>by kernel_rfl) (fun _ _=>by kernel_rfl)
noncomputable def zdt:FS:=mkF 98 [.v (.i .i64), .v (.i .i64), .v (.i .i64)] (.v .b) (fun x=>zck x.1 x.2.1 x.2.2.1) [] [] (fun _ _=>by kernel_rfl) (fun _ _=>by kernel_rfl)
noncomputable def zik:FS:=mkF 72 [.v (.i .i64)] (.v .b) (fun x=>zc3 x.1) [zdt] [] (fun _ _=>by kernel_rfl) (fun _ _=>by kernel_rfl)
noncomputable def zjt:FS:=mkF 128 [.v (.l (.st 0))] (.v (.l .s)) (fun x=>zdh x.1) [] [.sp [.i .i64, .l .s]] (fun _ _=>by kernel_rfl) (fun _ _=>by kernel_rfl)
noncomputable def zgN:FS:=mkF 151 [.v (.i .u8)] (.v .b) (fun x=>zcT x.1) [] [] (fun _ _=>by kernel_rfl) (fun _ _=>by kernel_rfl)
noncomputable def zhH:FS:=mkF 152 [.v .s, .v (.i .u8)] (.v (.i .i64)) (fun x=>zdk x.1 x.2.1) [zdS] [] (fun _ _=>by kernel_rfl) (fun _ _=>by kernel_rfl)
noncomputable def zgG:FS:=mkF 136 [.v .s, .v .s] (.v .b) (fun x=>zcO x.1 x.2.1) [zgN,zhH] [.sp [.i .i64]] (fun _ _=>by kernel_rfl) (fun _ _=>by kernel_rfl)
noncomputable def zhs:FS:=mkF 117 [.v .s] (.v .b) (fun x=>zdb x.1) [zdt,zgG] [] (fun _ _=>by kernel_rfl) (fun _ _=>by kernel_rfl)
noncomputable def zgg:FS:=mkF 86 [.v (.l .s)] (.v .b) (fun x=>zcv x.1) [zhs] [.sp [.i .i64]] (fun _ _=>by kernel_rfl) (fun _ _=>by kernel_rfl)
noncomputable def zaW:FS:=mkH 79 [.v (.l (.st 0)), .fn [.st 0] .b] (.v (.i .i64)) (fun x=>zbj x.1 (fun y=>x.2.1.φ (y,()))) fun x r hp h=>zkK (f:=79) (t:=zsG 3) (by kernel_rfl) (by kernel_rfl) (zr5 (av:=(zfE tab.av (.st 0))) (cn:=3) (fun _=>⟨_,rfl,rfl⟩) h (fun y b hb=>hp.2.1 (y,()) b hb))
noncomputable def zaQ:FS:=mkH 100 [.v (.l (.st 0)), .fn [.st 0] .b] (.v .b) (fun x=>zaH x.1 (fun y=>x.2.1.φ (y,()))) fun x r hp h=>zkK (f:=100) (t:=zsF 79) (by kernel_rfl) (by kernel_rfl) (zsg h fun r hr=>zaW.ok x r hp hr)
noncomputable def zlD:FS:=mkF 135 [.v .s] (.v .b) (fun x=>zeh x.1) [zgG] [] (fun _ _=>by kernel_rfl) (fun _ _=>by kernel_rfl)
noncomputable def zfg:FS:=mkF 116 [.v .s, .v .b] (.v .b) (fun x=>zb9 x.1 x.2.1) [zlD] [] (fun _ _=>by kernel_rfl) (fun _ _=>by kernel_rfl)
noncomputable def zhE:FS:=mkF 129 [.v (.st 0)] (.v .b) (fun x=>zci x.1) [zfg] [] (fun _ _=>by kernel_rfl) (fun _ _=>by kernel_rfl)
noncomputable def zhc:FS:=mkP zhE fun _=>by kernel_rfl
noncomputable def ziS:FS:=mkF 99 [.v (.l (.st 0))] (.v .b) (fun x=>zcW x.1) [zjt,zgg,zaQ,zhc] [] (fun _ _=>by kernel_rfl) (fun _ _=>by kernel_rfl)
noncomputable def zjQ:FS:=mkF 101 [.v (.st 0)] (.v .b) (fun x=>zdH x.1) [] [] (fun _ _=>by kernel_rfl) (fun _ _=>by kernel_rfl)
noncomputable def zji:FS:=mkP zjQ fun _=>by kernel_rfl
noncomputable def zmF:FS:=mkF 73 [.v (.l (.st 0))] (.v .b) (fun x=>ze5 x.1) [ziS,zaQ,zji] [] (fun _ _=>by kernel_rfl) (fun _ _=>by kernel_rfl)
noncomputable def zkb:FS:=mkF 36 [.v (.st 2)] (.v .b) (fun x=>zcM x.1) [zik,zmF] [] (fun _ _=>by kernel_rfl) (fun _ _=>by kernel_rfl)
noncomputable def zjp:FS:=mkF 147 [.v (.i .i64)] (.v .b) (fun x=>zcs x.1) [] [] (fun _ _=>by kernel_rfl) (fun _ _=>by kernel_rfl)
noncomputable def zih:FS:=mkF 121 [.v (.i .i64), .v (.i .i64)] (.v (.i .i64)) (fun x=>zbI x.1 x.2.1) [zjp] [] (fun _ _=>by kernel_rfl) (fun _ _=>by kernel_rfl)
noncomputable def zhC:FS:=mkF 131 [.v .s] (.v .b) (fun x=>zbw x.1) [] [] (fun _ _=>by kernel_rfl) (fun _ _=>by kernel_rfl)
noncomputable def zet:FS:=mkF 108 [.v .s, .v .s] (.v (.i .i64)) (fun x=>za5 x.1 x.2.1) [zhC] [] (fun _ _=>by kernel_rfl) (fun _ _=>by kernel_rfl)
noncomputable def zmm:FS:=mkF 120 [.v (.l (.i .i64))] (.v (.i .i64)) (fun x=>zeY x.1) [] [.sp [.i .i64]] (fun _ _=>by kernel_rfl) (fun _ _=>by kernel_rfl)
noncomputable def zfh:FS:=mkF 88 [.v (.st 1), .v (.st 1)] (.v (.i .i64)) (fun x=>zcl x.1 x.2.1) [zih,zet,zmm] [] (fun _ _=>by kernel_rfl) (fun _ _=>by kernel_rfl)
noncomputable def zhg:FS:=mkP zfh fun _=>by kernel_rfl
noncomputable def zni:FS:=mkF 102 [.v (.l (.st 1))] (.v .b) (fun x=>ze1 x.1) [zfh] [.sp [.i .i64]] (fun _ _=>by kernel_rfl) (fun _ _=>by kernel_rfl)
noncomputable def zbz:FS:=mkH 105 [.v (.l (.st 1)), .fn [.st 1] .b] (.v (.i .i64)) (fun x=>zbj x.1 (fun y=>x.2.1.φ (y,()))) fun x r hp h=>zkK (f:=105) (t:=zsG 5) (by kernel_rfl) (by kernel_rfl) (zr5 (av:=(zfE tab.av (.st 1))) (cn:=5) (fun _=>⟨_,rfl,rfl⟩) h (fun y b hb=>hp.2.1 (y,()) b hb))
noncomputable def zaC:FS:=mkH 75 [.v (.l (.st 1)), .fn [.st 1] .b] (.v .b) (fun x=>zaH x.1 (fun y=>x.2.1.φ (y,()))) fun x r hp h=>zkK (f:=75) (t:=zsF 105) (by kernel_rfl) (by kernel_rfl) (zsg h fun r hr=>zbz.ok x r hp hr)
noncomputable def zid:FS:=mkF 115 [.v (.i .i64)] (.v .b) (fun x=>zc2 x.1) [zdt] [] (fun _ _=>by kernel_rfl) (fun _ _=>by kernel_rfl)
noncomputable def zlE:FS:=mkF 130 [.v (.i .i64)] (.v .b) (fun x=>zfD x.1) [zdt] [] (fun _ _=>by kernel_rfl) (fun _ _=>by kernel_rfl)
noncomputable def zkD:FS:=mkF 104 [.v (.st 1)] (.v .b) (fun x=>zdz x.1) [zid,zlE,zhs,zfg] [] (fun _ _=>by kernel_rfl) (fun _ _=>by kernel_rfl)
noncomputable def ziY:FS:=mkF 103 [.v (.st 1)] (.v .b) (fun x=>zdU x.1) [zkD] [] (fun _ _=>by kernel_rfl) (fun _ _=>by kernel_rfl)
noncomputable def ziq:FS:=mkP ziY fun _=>by kernel_rfl
noncomputable def zkP:FS:=mkF 74 [.v (.l (.st 1))] (.v .b) (fun x=>zdx x.1) [zni,zaC,ziq] [] (fun _ _=>by kernel_rfl) (fun _ _=>by kernel_rfl)
noncomputable def ziI:FS:=mkF 76 [.v (.st 1), .rf (.st 3)] (.v .b) (fun x=>zd4 x.1 x.2.1) [] [] (fun _ _=>by kernel_rfl) (fun _ _=>by kernel_rfl)
noncomputable def zig:FS:=mkP ziI fun _=>by kernel_rfl
noncomputable def zgm:FS:=mkF 37 [.v (.st 3)] (.v .b) (fun x=>zcb x.1) [zik,zkP,zaC,zig] [] (fun _ _=>by kernel_rfl) (fun _ _=>by kernel_rfl)
end Go.Proofs.Ythgeekoigbihbaa
end
section
namespace Go.Proofs.Ythgeekoigbihbaa
open Go.RowKit
set_option maxRecDepth 100000
set_option maxHeartbeats 4000000
noncomputable def zcS:FS:=mkH 38 [.v (.l (.st 0))] (.v (.l (.st 0))) (fun x=>zaG x.1) fun x r hp h=>zkK (f:=38) (t:=zqT 40 3) (by kernel_rfl) (by kernel_rfl) (zrd (bytes:=40) (sz:=3) (av:=(zfE tab.av (.st 0))) (fun x=>⟨zmH _ x,zgZ (by kernel_rfl) x⟩) h)
noncomputable def za7:FS:=mkF 106 [.v (.l (.st 0)), .v .s, .fn [.st 0, .s] (.i .i64)] (.tu (.cons (.v (.i .i64)) (.cons (.v .b) .nil))) (fun x=>zao x.1 x.2.1 (fun y0 y1=>x.2.2.1.φ (y0,y1,()))) [] [.sp [.i .i64, .i .i64]] (fun _ _=>by kernel_rfl) (fun _ _=>by kernel_rfl)
noncomputable def zhZ:FS:=mkF 107 [.v (.st 0), .v .s] (.v (.i .i64)) (fun x=>zbc x.1 x.2.1) [zet] [] (fun _ _=>by kernel_rfl) (fun _ _=>by kernel_rfl)
noncomputable def zhI:FS:=mkP zhZ fun _=>by kernel_rfl
noncomputable def zjq:FS:=mkF 77 [.v (.l (.st 0)), .v .s] (.tu (.cons (.v (.i .i64)) (.cons (.v .b) .nil))) (fun x=>zdg x.1 x.2.1) [za7,zhI] [] (fun _ _=>by kernel_rfl) (fun _ _=>by kernel_rfl)
noncomputable def zkO:FS:=mkF 39 [.v (.l (.st 0)), .v (.st 0)] (.v (.l (.st 0))) (fun x=>zdv x.1 x.2.1) [zjq,zcK] [] (fun _ _=>by kernel_rfl) (fun _ _=>by kernel_rfl)
noncomputable def zcd:FS:=mkH 40 [.v (.l (.st 0)), .fn [.st 0] .b] (.v (.l (.st 0))) (fun x=>zfw x.1 (fun y=>x.2.1.φ (y,()))) fun x r hp h=>zkK (f:=40) (t:=zuZ 79 3 true (.mk (.cons (.fld (.fld (.idx (.var 5) (.var 4)) 0 3 true) 0 1 false) (.cons (.fld (.fld (.idx (.var 5) (.var 4)) 0 3 true) 1 1 false) (.cons (.fld (.fld (.idx (.var 5) (.var 4)) 0 3 true) 2 1 false) .nil)))) [(.agg (.fld (.idx (.var 5) (.var 4)) 0 3 true) 3)] (.mk (.cons (.str (ByteArray.mk #[])) (.cons (.str (ByteArray.mk #[])) (.cons (.bool false) .nil))))) (by kernel_rfl) (by kernel_rfl) (zua (av:=(zfE tab.av (.st 0))) (fun x=>⟨zmH _ x,zgZ (by kernel_rfl) x,fun _=>⟨_,rfl⟩,fun e=>by cases e⟩) (by decide) (fun a b c d j ys x tl hj=>by simp [AV.nth,hj,zfE,tAv]) (fun a b c d j ys x hj=>by simp [AV.nth,hj,zfE,tAv]) h (fun i hi=>zaW.ok x i hp hi) (fun y b hb=>hp.2.1 (y,()) b hb))
noncomputable def zjv:FS:=mkF 41 [.v (.st 0)] (.v .b) (fun x=>zeD x.1) [] [] (fun _ _=>by kernel_rfl) (fun _ _=>by kernel_rfl)
noncomputable def ziW:FS:=mkP zjv fun _=>by kernel_rfl
noncomputable def zls:FS:=mkF 11 [.v (.st 2), .v (.st 3)] (.tu (.cons (.v (.st 2)) (.cons (.v .b) .nil))) (fun x=>zdc x.1 x.2.1) [zkb,zgm,zcS,zcd,ziW,zkO] [.sp [.i .i64, .l (.st 0)]] (fun _ _=>by kernel_rfl) (fun _ _=>by kernel_rfl)
noncomputable def zlr:FS:=mkF 80 [.v (.st 0), .v (.st 0)] (.v .b) (fun x=>zec x.1 x.2.1) [] [] (fun _ _=>by kernel_rfl) (fun _ _=>by kernel_rfl)
noncomputable def zj5:FS:=mkF 42 [.v (.l (.st 0)), .v (.l (.st 0))] (.v .b) (fun x=>zdD x.1 x.2.1) [zlr] [.sp [.i .i64]] (fun _ _=>by kernel_rfl) (fun _ _=>by kernel_rfl)
noncomputable def zmD:FS:=mkF 12 [.v (.st 2), .v (.st 2)] (.v .b) (fun x=>zch x.1 x.2.1) [zj5] [] (fun _ _=>by kernel_rfl) (fun _ _=>by kernel_rfl)
noncomputable def zi1:FS:=mkF 81 [.v (.st 1), .v (.st 1)] (.v .b) (fun x=>zcZ x.1 x.2.1) [] [] (fun _ _=>by kernel_rfl) (fun _ _=>by kernel_rfl)
noncomputable def zis:FS:=mkF 43 [.v (.l (.st 1)), .v (.l (.st 1))] (.v .b) (fun x=>zcG x.1 x.2.1) [zi1] [.sp [.i .i64]] (fun _ _=>by kernel_rfl) (fun _ _=>by kernel_rfl)
noncomputable def ziv:FS:=mkF 13 [.v (.st 3), .v (.st 3)] (.v .b) (fun x=>zcj x.1 x.2.1) [zis] [] (fun _ _=>by kernel_rfl) (fun _ _=>by kernel_rfl)
noncomputable def zcc:FS:=mkF 62 [.v (.i .i64)] (.v .s) (fun x=>zar x.1) [] [.sp [.i .i64, .s]] (fun _ _=>by kernel_rfl) (fun _ _=>by kernel_rfl)
noncomputable def ziR:FS:=mkF 44 [.v (.l (.st 0)), .v (.i .i64)] (.tu (.cons (.v (.i .i64)) (.cons (.v (.l (.st 0))) .nil))) (fun x=>zd2 x.1 x.2.1) [zcc] [.sp [.i .i64, .i .i64, .l (.st 0)]] (fun _ _=>by kernel_rfl) (fun _ _=>by kernel_rfl)
noncomputable def zj8:FS:=mkF 14 [.v (.st 2), .v (.i .i64)] (.tu (.cons (.v (.i .i64)) (.cons (.v (.st 2)) .nil))) (fun x=>zcP x.1 x.2.1) [ziR] [] (fun _ _=>by kernel_rfl) (fun _ _=>by kernel_rfl)
noncomputable def zhh:FS:=mkF 45 [.v (.l (.st 1)), .v (.i .i64)] (.tu (.cons (.v (.i .i64)) (.cons (.v (.l (.st 1))) .nil))) (fun x=>zc5 x.1 x.2.1) [zcc] [.sp [.i .i64, .i .i64, .l (.st 1)]] (fun _ _=>by kernel_rfl) (fun _ _=>by kernel_rfl)
noncomputable def zgy:FS:=mkF 15 [.v (.st 3), .v (.i .i64)] (.tu (.cons (.v (.i .i64)) (.cons (.v (.st 3)) .nil))) (fun x=>zcN x.1 x.2.1) [zhh] [] (fun _ _=>by kernel_rfl) (fun _ _=>by kernel_rfl)
noncomputable def ziB:FS:=mkF 46 [.v (.l (.st 0)), .v (.i .i64)] (.v (.i .i64)) (fun x=>zd7 x.1 x.2.1) [zcc] [.sp [.i .i64, .i .i64]] (fun _ _=>by kernel_rfl) (fun _ _=>by kernel_rfl)
noncomputable def zlb:FS:=mkF 16 [.v (.st 2), .v (.i .i64)] (.v (.i .i64)) (fun x=>zcL x.1 x.2.1) [ziB] [] (fun _ _=>by kernel_rfl) (fun _ _=>by kernel_rfl)
noncomputable def zev:FS:=mkF 3 [.v (.st 2), .v (.st 3)] (.v .b) (fun x=>zbD x.1 x.2.1) [znm,zne,znk,zmI,zlC,zls,zmD,ziv,zj8,zgy,zlb] [] (fun _ _=>by kernel_rfl) (fun _ _=>by kernel_rfl)
noncomputable def zoa:FS:=mkF 124 [.v (.st 4), .v (.i .i64)] (.v (.i .i64)) (fun x=>zfr x.1 x.2.1) [] [] (fun _ _=>by kernel_rfl) (fun _ _=>by kernel_rfl)
noncomputable def zmw:FS:=mkF 92 [.v (.l (.st 4)), .v (.i .i64)] (.v (.i .i64)) (fun x=>zeT x.1 x.2.1) [zoa] [.sp [.i .i64, .i .i64]] (fun _ _=>by kernel_rfl) (fun _ _=>by kernel_rfl)
noncomputable def zmR:FS:=mkF 59 [.v (.st 5), .v (.i .i64)] (.v (.i .i64)) (fun x=>zeS x.1 x.2.1) [zmw] [] (fun _ _=>by kernel_rfl) (fun _ _=>by kernel_rfl)
noncomputable def zlm:FS:=mkF 24 [.v (.l (.st 5)), .v (.i .i64)] (.v (.i .i64)) (fun x=>zed x.1 x.2.1) [zmR] [.sp [.i .i64, .i .i64]] (fun _ _=>by kernel_rfl) (fun _ _=>by kernel_rfl)
noncomputable def zop:FS:=mkF 125 [.v (.st 4)] (.v (.st 4)) (fun x=>zgC x.1) [] [] (fun _ _=>by kernel_rfl) (fun _ _=>by kernel_rfl)
noncomputable def zmu:FS:=mkF 93 [.v (.l (.st 4))] (.v (.l (.st 4))) (fun x=>ze2 x.1) [zop] [.sp [.i .i64, .l (.st 4)]] (fun _ _=>by kernel_rfl) (fun _ _=>by kernel_rfl)
noncomputable def zmT:FS:=mkF 60 [.v (.st 5)] (.v (.st 5)) (fun x=>ze3 x.1) [zmu] [] (fun _ _=>by kernel_rfl) (fun _ _=>by kernel_rfl)
noncomputable def zlp:FS:=mkF 25 [.v (.l (.st 5))] (.v (.l (.st 5))) (fun x=>zbM x.1) [zmT] [.sp [.i .i64, .l (.st 5)]] (fun _ _=>by kernel_rfl) (fun _ _=>by kernel_rfl)
noncomputable def znd:FS:=mkF 122 [.v (.i .i64)] (.v .b) (fun x=>ze7 x.1) [zd1] [] (fun _ _=>by kernel_rfl) (fun _ _=>by kernel_rfl)
noncomputable def zng:FS:=mkF 89 [.v (.st 5)] (.v .b) (fun x=>ze6 x.1) [zjc,zd1,znd,zfz] [.sp [.i .i64]] (fun _ _=>by kernel_rfl) (fun _ _=>by kernel_rfl)
noncomputable def zmK:FS:=mkF 54 [.v (.l (.st 5))] (.v .b) (fun x=>zeV x.1) [zng] [.sp [.i .i64]] (fun _ _=>by kernel_rfl) (fun _ _=>by kernel_rfl)
noncomputable def zm7:FS:=mkF 90 [.v (.l (.st 1)), .v (.st 1)] (.tu (.cons (.v (.l (.st 1))) (.cons (.v .b) .nil))) (fun x=>zdR x.1 x.2.1) [zgv] [.sp [.i .i64]] (fun _ _=>by kernel_rfl) (fun _ _=>by kernel_rfl)
noncomputable def zot:FS:=mkF 56 [.v (.l (.st 5)), .v (.i .i64), .v (.i .i64), .v (.i .i64)] (.v (.l (.st 1))) (fun x=>zfu x.1 x.2.1 x.2.2.1 x.2.2.2.1) [zm7] [.sp [.l (.st 1), .i .i64], .sp [.l (.st 1), .i .i64], .inl] (fun _ _=>by kernel_rfl) (fun _ _=>by kernel_rfl)
noncomputable def znz:FS:=mkF 55 [.v (.st 3)] (.tu (.cons (.v (.st 3)) (.cons (.v .b) .nil))) (fun x=>zgA x.1) [zhp] [] (fun _ _=>by kernel_rfl) (fun _ _=>by kernel_rfl)
noncomputable def zmn:FS:=mkF 21 [.v (.l (.st 5)), .v (.i .i64), .v (.i .i64)] (.tu (.cons (.v (.st 3)) (.cons (.v .b) .nil))) (fun x=>zeW x.1 x.2.1 x.2.2.1) [zmK,zot,znz] [] (fun _ _=>by kernel_rfl) (fun _ _=>by kernel_rfl)
noncomputable def zmA:FS:=mkF 85 [.v (.st 5)] (.v .b) (fun x=>zeX x.1) [zdt,zid,zfg] [.sp [.i .i64]] (fun _ _=>by kernel_rfl) (fun _ _=>by kernel_rfl)
noncomputable def zjo:FS:=mkF 51 [.v (.l (.st 5))] (.v .b) (fun x=>zdi x.1) [zgg,zmA] [.sp [.i .i64, .l .s]] (fun _ _=>by kernel_rfl) (fun _ _=>by kernel_rfl)
noncomputable def zly:FS:=mkF 53 [.v (.st 8), .v (.i .i64), .v (.i .i64), .v (.i .i64)] (.v (.l (.st 1))) (fun x=>zei x.1 x.2.1 x.2.2.1 x.2.2.2.1) [zbH,zhg] [.sp [.i .i64, .l (.st 1)], .sp [.i .i64, .l (.st 1)], .inl] (fun _ _=>by kernel_rfl) (fun _ _=>by kernel_rfl)
noncomputable def zmC:FS:=mkF 52 [.v (.st 3)] (.tu (.cons (.v (.st 3)) (.cons (.v .b) .nil))) (fun x=>zf6 x.1) [zgm] [] (fun _ _=>by kernel_rfl) (fun _ _=>by kernel_rfl)
noncomputable def zmZ:FS:=mkF 20 [.v (.l (.st 5)), .v (.i .i64), .v (.i .i64)] (.tu (.cons (.v (.st 3)) (.cons (.v .b) .nil))) (fun x=>zdM x.1 x.2.1 x.2.2.1) [zjo,zly,zmC] [] (fun _ _=>by kernel_rfl) (fun _ _=>by kernel_rfl)
noncomputable def zou:FS:=mkF 126 [.v (.st 4), .v (.st 4)] (.v .b) (fun x=>zfq x.1 x.2.1) [] [] (fun _ _=>by kernel_rfl) (fun _ _=>by kernel_rfl)
noncomputable def zmS:FS:=mkF 94 [.v (.l (.st 4)), .v (.l (.st 4))] (.v .b) (fun x=>zeQ x.1 x.2.1) [zou] [.sp [.i .i64]] (fun _ _=>by kernel_rfl) (fun _ _=>by kernel_rfl)
noncomputable def zmp:FS:=mkF 61 [.v (.st 5), .v (.st 5)] (.v .b) (fun x=>ze9 x.1 x.2.1) [zmS] [] (fun _ _=>by kernel_rfl) (fun _ _=>by kernel_rfl)
noncomputable def zlk:FS:=mkF 26 [.v (.l (.st 5)), .v (.l (.st 5))] (.v .b) (fun x=>zeg x.1 x.2.1) [zmp] [.sp [.i .i64]] (fun _ _=>by kernel_rfl) (fun _ _=>by kernel_rfl)
noncomputable def zkG:FS:=mkF 63 [.v (.l (.st 4)), .v (.i .i64)] (.tu (.cons (.v (.i .i64)) (.cons (.v (.l (.st 4))) .nil))) (fun x=>zfm x.1 x.2.1) [zcc] [.sp [.i .i64, .i .i64, .l (.st 4)]] (fun _ _=>by kernel_rfl) (fun _ _=>by kernel_rfl)
noncomputable def zjr:FS:=mkF 27 [.v (.l (.st 5)), .v (.i .i64)] (.tu (.cons (.v (.i .i64)) (.cons (.v (.l (.st 5))) .nil))) (fun x=>zeE x.1 x.2.1) [zcc,zkG] [.sp [.i .i64, .i .i64, .l (.st 5)]] (fun _ _=>by kernel_rfl) (fun _ _=>by kernel_rfl)
noncomputable def zhf:FS:=mkF 64 [.v (.l (.st 1)), .v (.i .i64)] (.v (.i .i64)) (fun x=>zc6 x.1 x.2.1) [zcc] [.sp [.i .i64, .i .i64]] (fun _ _=>by kernel_rfl) (fun _ _=>by kernel_rfl)
noncomputable def zjU:FS:=mkF 28 [.v (.st 3), .v (.i .i64)] (.v (.i .i64)) (fun x=>zcQ x.1 x.2.1) [zhf] [] (fun _ _=>by kernel_rfl) (fun _ _=>by kernel_rfl)
noncomputable def zeL:FS:=mkF 5 [.v (.l (.st 5)), .v (.i .i64), .v (.i .i64)] (.v .b) (fun x=>zbW x.1 x.2.1 x.2.2.1) [zlm,zlp,zmn,zmZ,ziv,zlk,zjr,zgy,zjU] [] (fun _ _=>by kernel_rfl) (fun _ _=>by kernel_rfl)
end Go.Proofs.Ythgeekoigbihbaa
end
section
namespace Go.Proofs.Ythgeekoigbihbaa
open Go.RowKit
set_option maxRecDepth 100000
theorem znt (a0:zaS) (a1:zaV) (r:Bool) (h:zbD a0 a1=some r):Rts Try.prog sgs 3 [zsw a0,zrn a1] (.bool r):=zev.ok (a0,a1,()) r (by simp [zev,mkF,zpC,zvj]) h
theorem zhe (a0:List zat) (a1:Int) (a2:Int) (r:Bool) (h:zbW a0 a1 a2=some r):Rts Try.prog sgs 5 [.sl (a0.map zn2), .int .i64 a1, .int .i64 a2] (.bool r):=zeL.ok (a0,a1,a2,()) r (by simp [zeL,mkF,zpC,zvj]) h
end Go.Proofs.Ythgeekoigbihbaa
end
section
namespace Go.Proofs.Ythgeekoigbihbaa
open Go.RowKit
set_option maxRecDepth 100000
theorem zrs {α:Type} {f:α→Nat} {n:Nat}: ∀{l:List α},(∀x∈l,f x≤n)→(l.map f).sum≤n*l.length
 | [],_=>by simp
 |x::l,h=>by
  have h1:=h x (by simp)
  have h2:=zrs (f:=f) (n:=n) (l:=l) fun y hy=>h y (by simp [hy])
  rw [List.map_cons,List.sum_cons,List.length_cons,Nat.mul_add];omega
theorem zrY {w:zab} (h:zjR w=true):zbt w≤36:=by
 unfold zjR za6 zdP zgJ at h
 simp only [Bool.and_eq_true,decide_eq_true_eq]at h
 have h1:=zeM.1 h.1.1
 have h2:=h.2.1.1
 unfold zbt
 omega
theorem zlq {l:List zab} (h:zbr l=true):zaJ l≤1000:=by
 unfold zbr at h
 simp only [Bool.and_eq_true,decide_eq_true_eq]at h
 have:=zrs (f:=zbt) (n:=36) fun w hw=>zrY (List.all_eq_true.1 h.2.1 w hw)
 unfold zaJ
 omega
theorem zst {l:List zab} (h:zaJ l≤2000000):zgh l:=by
 unfold zaJ at h
 exact⟨by omega,fun w hw=>by have:=zdy (tot:=zbt) hw;have e:zbt w=w.fKey.length+w.fVal.length:=rfl;omega⟩
theorem zrZ {l:List zaa} (h:zas l≤2000000):zia l:=by
 unfold zas at h
 exact⟨by omega,fun w hw=>by have:=zdy (tot:=zaE) hw;have e:zaE w=w.fKey.length+w.fVal.length:=rfl;exact⟨by omega,by omega⟩⟩
theorem zpc (c:zaS) (d:zaV):zbY (zgd c d).1≤1000:=by
 unfold zgd
 split
 ·show zbY (if zbb ⟨d.fTo,d.fList.foldl doW c.fRows⟩=true then((⟨d.fTo,d.fList.foldl doW c.fRows⟩,true):zaS × Bool)else(⟨0, []⟩,false)).1≤1000
  split
  ·rename_i h
   unfold zbb zf0 at h
   simp only [Bool.and_eq_true]at h
   exact zlq h.2.1.1
  ·simp [zbY,zaJ]
 ·simp [zbY,zaJ]
theorem zvi (a0:zaS) (a1:zaV) (h0:zsh a0) (h1:zqZ a1):zbD a0 a1=some true:=by
 unfold zbD
 obtain⟨b0,e0,g0,r0⟩:=zuh (x:=a0) (a:=1048576) (by omega) (by omega) h0
 rw [e0,Option.bind_some]
 by_cases q0:b0<0
 ·rw [if_pos (by simpa using q0)]
 rw [if_neg (by simpa using q0)]
 have s0:=r0 (by omega)
 obtain⟨b1,e1,g1,r1⟩:=zuS (x:=a1) (a:=b0) (by omega) (by omega) h1
 rw [e1,Option.bind_some]
 by_cases q1:b1<0
 ·rw [if_pos (by simpa using q1)]
 rw [if_neg (by simpa using q1)]
 have s1:=r1 (by omega)
 have t0:zbY a0≤2000000:=by omega
 have t1:zbK a1≤2000000:=by omega
 have hw:zgh a0.fRows:=zst t0
 have hd:zia a1.fList:=zrZ t1
 have vs:=zqa (c:=a0) (d:=a1) hw hd h1.1
 have vi:=zqd (c:=a0) (d:=a1) hw hd
 have tw:=zpc a0 a1
 generalize zgd a0 a1=w at vs vi tw
 have c0:=zlW a0
 have c1:=zlX a1
 have c2:=zlW w.1
 obtain⟨x0,m0, -⟩:=znM (x:=a0) (k:=1) (by omega) (by omega) t0
 obtain⟨x1,m1⟩:=zom (x:=a1) (k:=1+(zdE a0:Nat)) (by omega) (by omega) t1
 obtain⟨x2,m2,n2⟩:=znM (x:=w.1) (k:=1) (by omega) (by omega) (by omega)
 have p1:decide ((1:Int)+(zdE a0:Nat)+(zeq a1:Nat)<0)=false:=by simp;omega
 have p2:decide ((1:Int)+(zdE w.1:Nat)<0)=false:=by simp;omega
 have p3: ∀z:Bool,(z !=z)=false:=by simp
 simp only [zuC t0,zuA t1,vs,vi,zqY t0,zrr t1,zqY (show zbY w.1≤2000000 by omega),m0,m1,m2,n2,p1,p2,p3,bne_self_eq_false,Option.bind_some,Bool.not_true,Bool.or_false,Bool.false_eq_true,if_false]
end Go.Proofs.Ythgeekoigbihbaa
end
