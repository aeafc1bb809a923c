/- Parts of a proof, joined: QM, QF1, QF2. -/
import Derived.Test.YtbmbkgalkfmjdaaGreatDoorK7
set_option linter.unusedVariables false
set_option linter.unusedSimpArgs false
section
namespace Go.Proofs.YtbmbkgalkfmjdaaGreatDoor
open Go.RowKit
set_option maxRecDepth 100000
noncomputable def zcD (a0:zaf):Option (Int × zaf):=
 if(decide (a0.fat<(a0.fcode.length:Int)))then
  (getI a0.fcode a0.fat).bind fun y1=>
  if(decide ((IntKind.i64.wrap (a0.fat+1))≤(a0.fcode.length:Int)))then
   some ((IntKind.i64.wrap y1),(⟨a0.fcode,(IntKind.i64.wrap (a0.fat+1)),(IntKind.u64.wrap ((IntKind.u64.wrap ((IntKind.u64.wrap (a0.fseed*6364136223846793005))+(IntKind.u64.wrap (IntKind.i64.wrap y1))))+1442695040888963407))⟩:zaf))
  else
   some ((IntKind.i64.wrap (IntKind.u64.wrap ((BitVec.ofInt (IntKind.bits .u64) (Int.fdiv (IntKind.u64.wrap ((IntKind.u64.wrap ((IntKind.u64.wrap (a0.fseed*6364136223846793005))+(IntKind.u64.wrap (IntKind.i64.wrap y1))))+1442695040888963407)) (2^(min ((40:Int)).toNat (IntKind.bits .u64))))&&&BitVec.ofInt (IntKind.bits .u64) 255).toNat:Int))),(⟨a0.fcode,(IntKind.i64.wrap (a0.fat+1)),(IntKind.u64.wrap ((IntKind.u64.wrap ((IntKind.u64.wrap (a0.fseed*6364136223846793005))+(IntKind.u64.wrap (IntKind.i64.wrap y1))))+1442695040888963407))⟩:zaf))
 else
  if(decide ((IntKind.i64.wrap (a0.fat+1))≤(a0.fcode.length:Int)))then
   some (0,(⟨a0.fcode,(IntKind.i64.wrap (a0.fat+1)),(IntKind.u64.wrap ((IntKind.u64.wrap ((IntKind.u64.wrap (a0.fseed*6364136223846793005))+(IntKind.u64.wrap 0)))+1442695040888963407))⟩:zaf))
  else
   some ((IntKind.i64.wrap (IntKind.u64.wrap ((BitVec.ofInt (IntKind.bits .u64) (Int.fdiv (IntKind.u64.wrap ((IntKind.u64.wrap ((IntKind.u64.wrap (a0.fseed*6364136223846793005))+(IntKind.u64.wrap 0)))+1442695040888963407)) (2^(min ((40:Int)).toNat (IntKind.bits .u64))))&&&BitVec.ofInt (IntKind.bits .u64) 255).toNat:Int))),(⟨a0.fcode,(IntKind.i64.wrap (a0.fat+1)),(IntKind.u64.wrap ((IntKind.u64.wrap ((IntKind.u64.wrap (a0.fseed*6364136223846793005))+(IntKind.u64.wrap 0)))+1442695040888963407))⟩:zaf))
noncomputable def zac (a0:zaf) (a1:Int):Option (Int × zaf):=
 if(decide (a1≤1))then
  some (0,a0)
 else
  (zcD a0).bind fun v1=>
  if(decide (a1>200))then
   (zcD v1.2).bind fun v2=>
   req (a1≠0)<|
   some ((Int.tmod (IntKind.i64.wrap ((IntKind.i64.wrap (v1.1*256))+v2.1)) a1),(⟨v2.2.fcode,v2.2.fat,v2.2.fseed⟩:zaf))
  else
   req (a1≠0)<|
   some ((Int.tmod v1.1 a1),(⟨v1.2.fcode,v1.2.fat,v1.2.fseed⟩:zaf))
noncomputable def zax (a0:zaf) (a1:List (List UInt8)):Option (List UInt8 × zaf):=
 (zac a0 (a1.length:Int)).bind fun v1=>
 (getI a1 v1.1).bind fun y2=>
 some (y2,v1.2)
noncomputable def zaB (a0:zaf) (a1:Int):Option (Bool × zaf):=
 (zac a0 a1).bind fun v1=>
 some ((v1.1==0),v1.2)
noncomputable def zbH (v2:Int × zaf) (v3:Int) (v7:List zbs) (y8:List UInt8) (v9:List Int) (v10:Int) (v11:Int) (v12:Bool):Option ((Int × List Int × Int × Int × List zbs) ⊕ Option (zab × zaf)):=
 if v12 then
  (zac (⟨v9,v10,v11⟩:zaf) (IntKind.i64.wrap (((zez [([107]:List UInt8),([97]:List UInt8),([98]:List UInt8),([99,99]:List UInt8)] 0 (IntKind.i64.wrap ((2:Int)+v2.1))).length:Int)-1))).bind fun v13=>
  (zac v13.2 4).bind fun v14=>
  req ((((v7).length:Int)+(([(⟨y8,(IntKind.i64.wrap ((1:Int)+v13.1)),v14.1⟩:zbs)]:List zbs).length:Int))*32≤140737488355328∧((v7).length:Int)+(([(⟨y8,(IntKind.i64.wrap ((1:Int)+v13.1)),v14.1⟩:zbs)]:List zbs).length:Int)≤140737488355328)<|
  some (.inl ((IntKind.i64.wrap (v3+1)),v14.2.fcode,v14.2.fat,v14.2.fseed,(v7++ [(⟨y8,(IntKind.i64.wrap ((1:Int)+v13.1)),v14.1⟩:zbs)])))
 else
  some (.inl ((IntKind.i64.wrap (v3+1)),v9,v10,v11,v7))
noncomputable def zfJ (v1:List UInt8 × zaf) (v2:Int × zaf) (v3:Int) (v4:List Int) (v5:Int) (v6:Int) (v7:List zbs):Option ((Int × List Int × Int × Int × List zbs) ⊕ Option (zab × zaf)):=
 if(decide (v3<([([105]:List UInt8),([106]:List UInt8),([109]:List UInt8)].length:Int)))then
  (getI [([105]:List UInt8),([106]:List UInt8),([109]:List UInt8)] v3).bind fun y8=>
  (zaB (⟨v4,v5,v6⟩:zaf) 3).bind fun v15=>
  if(!v15.1)then
   zbH v2 v3 v7 y8 v15.2.fcode v15.2.fat v15.2.fseed true
  else
   if(y8==([105]:List UInt8))then
    (zaB v15.2 8).bind fun v16=>
    zbH v2 v3 v7 y8 v16.2.fcode v16.2.fat v16.2.fseed (!v16.1)
   else
    zbH v2 v3 v7 y8 v15.2.fcode v15.2.fat v15.2.fseed false
 else
  some (.inr (some ((⟨v1.1,(zez [([107]:List UInt8),([97]:List UInt8),([98]:List UInt8),([99,99]:List UInt8)] 0 (IntKind.i64.wrap ((2:Int)+v2.1))),v7⟩:zab),(⟨v4,v5,v6⟩:zaf))))
noncomputable def zcm (a0:zaf):Option (zab × zaf):=
 (zax a0 ([([116]:List UInt8),([117]:List UInt8)]:List (List UInt8))).bind fun v1=>
 (zac v1.2 3).bind fun v2=>
 req (0≤(0:Int)∧(0:Int)≤(IntKind.i64.wrap ((2:Int)+v2.1))∧(IntKind.i64.wrap ((2:Int)+v2.1))≤(([([107]:List UInt8),([97]:List UInt8),([98]:List UInt8),([99,99]:List UInt8)]:List (List UInt8)).length:Int))<|
 req (((([]:List (List UInt8)).length:Int)+(((zez [([107]:List UInt8),([97]:List UInt8),([98]:List UInt8),([99,99]:List UInt8)] 0 (IntKind.i64.wrap ((2:Int)+v2.1)))).length:Int))*16≤140737488355328∧(([]:List (List UInt8)).length:Int)+(((zez [([107]:List UInt8),([97]:List UInt8),([98]:List UInt8),([99,99]:List UInt8)] 0 (IntKind.i64.wrap ((2:Int)+v2.1)))).length:Int)≤140737488355328)<|
 zat (fun s:Int × List Int × Int × Int × List zbs=>zfJ v1 v2 s.1 s.2.1 s.2.2.1 s.2.2.2.1 s.2.2.2.2) (0,v2.2.fcode,v2.2.fat,v2.2.fseed, [])
noncomputable def zeW (a0:zab):Option (zab):=
 req (((([]:List (List UInt8)).length:Int)+((a0.fCols).length:Int))*16≤140737488355328∧(([]:List (List UInt8)).length:Int)+((a0.fCols).length:Int)≤140737488355328)<|
 req (((([]:List zbs).length:Int)+((a0.fIdxs).length:Int))*32≤140737488355328∧(([]:List zbs).length:Int)+((a0.fIdxs).length:Int)≤140737488355328)<|
 some a0
noncomputable def zhk (a0:zab) (a1:List UInt8) (v1:Int):Option ((Int) ⊕ Option (Int)):=
 if(decide (v1<(a0.fIdxs.length:Int)))then
  (getI a0.fIdxs v1).bind fun y2=>
  if(y2.fName==a1)then
   some (.inr (some v1))
  else
   some (.inl (IntKind.i64.wrap (v1+1)))
 else
  some (.inr (some (-1)))
noncomputable def zbn (a0:zab) (a1:List UInt8):Option (Int):=
 zat (fun s:Int=>zhk a0 a1 s) 0
noncomputable def zeT (a0:zab) (a1:List UInt8) (a2:Int):Option (zab):=
 (zeW a0).bind fun v1=>
 (zbn a0 a1).bind fun v2=>
 (getI v1.fIdxs v2).bind fun y3=>
 some (⟨v1.fName,v1.fCols,(v1.fIdxs.set (v2).toNat {y3 with fStage:=a2})⟩:zab)
noncomputable def zgs (a1:zab) (v2:List Int) (v3:Int) (v4:Int) (v5:List (List UInt8)):Option ((List Int × Int × Int × List (List UInt8)) ⊕ Option (zbE × zaf)):=
 if(decide ((v5.length:Int)<(a1.fCols.length:Int)))then
  (zax (⟨v2,v3,v4⟩:zaf) ([([120]:List UInt8),([121]:List UInt8),([120]:List UInt8),([48]:List UInt8),([97,98,99]:List UInt8)]:List (List UInt8))).bind fun v6=>
  req ((((v5).length:Int)+(([v6.1]:List (List UInt8)).length:Int))*16≤140737488355328∧((v5).length:Int)+(([v6.1]:List (List UInt8)).length:Int)≤140737488355328)<|
  some (.inl (v6.2.fcode,v6.2.fat,v6.2.fseed,(v5++ [v6.1])))
 else
  some (.inr (some ((⟨v5⟩:zbE),(⟨v2,v3,v4⟩:zaf))))
noncomputable def za0 (a0:zaf) (a1:zab):Option (zbE × zaf):=
 (zax a0 ([([49]:List UInt8),([50]:List UInt8),([51]:List UInt8),([97]:List UInt8),([122,122]:List UInt8),([97,98,99]:List UInt8)]:List (List UInt8))).bind fun v1=>
 zat (fun s:List Int × Int × Int × List (List UInt8)=>zgs a1 s.1 s.2.1 s.2.2.1 s.2.2.2) (v1.2.fcode,v1.2.fat,v1.2.fseed, [v1.1])
noncomputable def zcO (a0:List (List UInt8)) (a1:List UInt8) (v1:List UInt8) (v2:Int):Option ((List UInt8 × Int) ⊕ Option (List UInt8)):=
 if(decide (v2<(a0.length:Int)))then
  (getI a0 v2).bind fun y3=>
  if(decide (v2>0))then
   req ((v1).length+(a1).length≤9223372036854775807)<|
   req (((v1++a1)).length+(y3).length≤9223372036854775807)<|
   some (.inl (((v1++a1)++y3),(IntKind.i64.wrap (v2+1))))
  else
   req ((v1).length+(y3).length≤9223372036854775807)<|
   some (.inl ((v1++y3),(IntKind.i64.wrap (v2+1))))
 else
  some (.inr (some v1))
noncomputable def ziE (a0:List (List UInt8)) (a1:List UInt8):Option (List UInt8):=
 zat (fun s:List UInt8 × Int=>zcO a0 a1 s.1 s.2) (([]:List UInt8),0)
noncomputable def zbh (a0:zab) (a1:zbE):Option (zaa):=
 req ((a0.fName).length+(([47]:List UInt8)).length≤9223372036854775807)<|
 (getI a1.fVals 0).bind fun y1=>
 req (((a0.fName++([47]:List UInt8))).length+(y1).length≤9223372036854775807)<|
 req (0≤(1:Int)∧(1:Int)≤(a1.fVals.length:Int)∧(a1.fVals.length:Int)≤(a1.fVals.length:Int))<|
 (ziE (zez a1.fVals 1 (a1.fVals.length:Int)) ([44]:List UInt8)).bind fun v2=>
 some (⟨((a0.fName++([47]:List UInt8))++y1),v2,false⟩:zaa)
noncomputable def zfm (a0:List zaa) (a1:zaa) (v1:Int):Option (List zaa):=
 if(decide (v1>0))then
  (getI a0 (IntKind.i64.wrap (v1-1))).bind fun y2=>
  if(y2.fKey==a1.fKey)then
   req (((([]:List zaa).length:Int)+((a0).length:Int))*40≤140737488355328∧(([]:List zaa).length:Int)+((a0).length:Int)≤140737488355328)<|
   (getI a0 (IntKind.i64.wrap (v1-1))).bind fun y3=>
   some (a0.set ((IntKind.i64.wrap (v1-1))).toNat a1)
  else
   req (0≤v1∧v1≤(a0.length:Int)∧(a0.length:Int)≤(a0.length:Int))<|
   req (((([]:List zaa).length:Int)+(((zez a0 v1 (a0.length:Int))).length:Int))*40≤140737488355328∧(([]:List zaa).length:Int)+(((zez a0 v1 (a0.length:Int))).length:Int)≤140737488355328)<|
   req (0≤(0:Int)∧(0:Int)≤v1∧v1≤(a0.length:Int))<|
   req (((([]:List zaa).length:Int)+(((zez a0 0 v1)).length:Int))*40≤140737488355328∧(([]:List zaa).length:Int)+(((zez a0 0 v1)).length:Int)≤140737488355328)<|
   req (((((zez a0 0 v1)).length:Int)+(([a1]:List zaa).length:Int))*40≤140737488355328∧(((zez a0 0 v1)).length:Int)+(([a1]:List zaa).length:Int)≤140737488355328)<|
   req ((((((zez a0 0 v1)++ [a1])).length:Int)+(((zez a0 v1 (a0.length:Int))).length:Int))*40≤140737488355328∧((((zez a0 0 v1)++ [a1])).length:Int)+(((zez a0 v1 (a0.length:Int))).length:Int)≤140737488355328)<|
   some (((zez a0 0 v1)++ [a1])++(zez a0 v1 (a0.length:Int)))
 else
  req (0≤v1∧v1≤(a0.length:Int)∧(a0.length:Int)≤(a0.length:Int))<|
  req (((([]:List zaa).length:Int)+(((zez a0 v1 (a0.length:Int))).length:Int))*40≤140737488355328∧(([]:List zaa).length:Int)+(((zez a0 v1 (a0.length:Int))).length:Int)≤140737488355328)<|
  req (0≤(0:Int)∧(0:Int)≤v1∧v1≤(a0.length:Int))<|
  req (((([]:List zaa).length:Int)+(((zez a0 0 v1)).length:Int))*40≤140737488355328∧(([]:List zaa).length:Int)+(((zez a0 0 v1)).length:Int)≤140737488355328)<|
  req (((((zez a0 0 v1)).length:Int)+(([a1]:List zaa).length:Int))*40≤140737488355328∧(((zez a0 0 v1)).length:Int)+(([a1]:List zaa).length:Int)≤140737488355328)<|
  req ((((((zez a0 0 v1)++ [a1])).length:Int)+(((zez a0 v1 (a0.length:Int))).length:Int))*40≤140737488355328∧((((zez a0 0 v1)++ [a1])).length:Int)+(((zez a0 v1 (a0.length:Int))).length:Int)≤140737488355328)<|
  some (((zez a0 0 v1)++ [a1])++(zez a0 v1 (a0.length:Int)))
noncomputable def zcy (a0:List zaa) (a1:zaa) (v4:Int):Option ((Int) ⊕ Option (List zaa)):=
 if(decide (v4>0))then
  (getI a0 (IntKind.i64.wrap (v4-1))).bind fun y5=>
  if(!(Op.bytesLess y5.fKey a1.fKey||y5.fKey==a1.fKey))then
   some (.inl (IntKind.i64.wrap (v4-1)))
  else
   some (.inr (zfm a0 a1 v4))
 else
  some (.inr (zfm a0 a1 v4))
noncomputable def za7 (a0:List zaa) (a1:zaa):Option (List zaa):=
 zat (fun s:Int=>zcy a0 a1 s) (a0.length:Int)
noncomputable def zgw (a0:List UInt8) (v1:Int) (v2:List (List UInt8)):Option (List (List UInt8)):=
 req (0≤v1∧v1≤(a0.length:Int)∧(a0.length:Int)≤(a0.length:Int))<|
 req ((((v2).length:Int)+(([(zez a0 v1 (a0.length:Int))]:List (List UInt8)).length:Int))*16≤140737488355328∧((v2).length:Int)+(([(zez a0 v1 (a0.length:Int))]:List (List UInt8)).length:Int)≤140737488355328)<|
 some (v2++ [(zez a0 v1 (a0.length:Int))])
noncomputable def zcL (a0:List UInt8) (a1:Int) (v3:List (List UInt8)) (v4:Int) (v5:Int):Option ((List (List UInt8) × Int × Int) ⊕ Option (List (List UInt8))):=
 if(decide (v5<(a0.length:Int)))then
  (getI a0 v5).bind fun y6=>
  if((y6.toNat:Int)==a1)then
   req (0≤v4∧v4≤v5∧v5≤(a0.length:Int))<|
   req ((((v3).length:Int)+(([(zez a0 v4 v5)]:List (List UInt8)).length:Int))*16≤140737488355328∧((v3).length:Int)+(([(zez a0 v4 v5)]:List (List UInt8)).length:Int)≤140737488355328)<|
   some (.inl ((v3++ [(zez a0 v4 v5)]),(IntKind.i64.wrap (v5+1)),(IntKind.i64.wrap (v5+1))))
  else
   some (.inl (v3,v4,(IntKind.i64.wrap (v5+1))))
 else
  some (.inr (zgw a0 v4 v3))
noncomputable def zdl (a0:List UInt8) (a1:Int):Option (List (List UInt8)):=
 zat (fun s:List (List UInt8) × Int × Int=>zcL a0 a1 s.1 s.2.1 s.2.2) ([],0,0)
noncomputable def zay (a0:Int) (a1:Int) (a2:Int):Option (Bool):=
 some ((decide (a0≥a1))&&(decide (a0≤a2)))
noncomputable def zgN (v1:Int) (v3:Bool):Option ((Int) ⊕ Option (Bool)):=
 if(!v3)then
  some (.inr (some false))
 else
  some (.inl (IntKind.i64.wrap (v1+1)))
noncomputable def zdB (a1:List UInt8) (v1:Int) (y2:UInt8) (v4:Bool) (v5:Int):Option ((Bool × Int) ⊕ Option ((Int) ⊕ Option (Bool))):=
 if(decide (v5<(a1.length:Int)))then
  if v4 then
   some (.inl (true,(IntKind.i64.wrap (v5+1))))
  else
   (getI a1 v5).bind fun y6=>
   some (.inl (((y2.toNat:Int)==(y6.toNat:Int)),(IntKind.i64.wrap (v5+1))))
 else
  some (.inr (zgN v1 v4))
noncomputable def zgv (a0:List UInt8) (a1:List UInt8) (v1:Int):Option ((Int) ⊕ Option (Bool)):=
 if(decide (v1<(a0.length:Int)))then
  (getI a0 v1).bind fun y2=>
  zat (fun s:Bool × Int=>zdB a1 v1 y2 s.1 s.2) ((((decide ((y2.toNat:Int)≥97))&&(decide ((y2.toNat:Int)≤122)))||((decide ((y2.toNat:Int)≥48))&&(decide ((y2.toNat:Int)≤57)))),0)
 else
  some (.inr (some true))
noncomputable def zej (a0:List UInt8) (a1:List UInt8):Option (Bool):=
 zat (fun s:Int=>zgv a0 a1 s) 0
noncomputable def zdD (a0:List UInt8):Option (Bool):=
 (zay (a0.length:Int) 1 3).bind fun v1=>
 if v1 then
  (zej a0 ([]:List UInt8)).bind fun v2=>
  some v2
 else
  some false
noncomputable def zgy (a0:zab) (a1:zbE):Option (Bool):=
 some ((a1.fVals.length:Int)==(a0.fCols.length:Int))
noncomputable def zgx (a0:zab) (a1:zbE) (v1:Int):Option ((Int) ⊕ Option (Bool)):=
 if(decide (v1<(a1.fVals.length:Int)))then
  (getI a1.fVals v1).bind fun y2=>
  (zdD y2).bind fun v3=>
  if(!v3)then
   some (.inr (some false))
  else
   some (.inl (IntKind.i64.wrap (v1+1)))
 else
  some (.inr (zgy a0 a1))
noncomputable def zcG (a0:zab) (a1:zbE):Option (Bool):=
 zat (fun s:Int=>zgx a0 a1 s) 0
noncomputable def zgR (a0:zab) (a1:zaa):Option (zbE × Bool):=
 if(decide ((a1.fKey.length:Int)<3))then
  some ((⟨[]⟩:zbE),false)
 else
  req (0≤(2:Int)∧(2:Int)≤(a1.fKey.length:Int)∧(a1.fKey.length:Int)≤(a1.fKey.length:Int))<|
  (zdl a1.fVal 44).bind fun v1=>
  req (((([(zez a1.fKey 2 (a1.fKey.length:Int))]:List (List UInt8)).length:Int)+((v1).length:Int))*16≤140737488355328∧(([(zez a1.fKey 2 (a1.fKey.length:Int))]:List (List UInt8)).length:Int)+((v1).length:Int)≤140737488355328)<|
  (zcG a0 (⟨([(zez a1.fKey 2 (a1.fKey.length:Int))]++v1)⟩:zbE)).bind fun v2=>
  if v2 then
   (zbh a0 (⟨([(zez a1.fKey 2 (a1.fKey.length:Int))]++v1)⟩:zbE)).bind fun v3=>
   some ((⟨([(zez a1.fKey 2 (a1.fKey.length:Int))]++v1)⟩:zbE),(v3.fKey==a1.fKey&&(v3.fVal==a1.fVal&&(v3.fGone==a1.fGone))))
  else
   some ((⟨([(zez a1.fKey 2 (a1.fKey.length:Int))]++v1)⟩:zbE),false)
noncomputable def zcK (a0:zab) (a1:List zaa) (v1:List zbE) (v2:Int):Option ((List zbE × Int) ⊕ Option (List zbE)):=
 if(decide (v2<(a1.length:Int)))then
  (getI a1 v2).bind fun y3=>
  (zgR a0 y3).bind fun v4=>
  if v4.2 then
   req ((((v1).length:Int)+(([v4.1]:List zbE).length:Int))*24≤140737488355328∧((v1).length:Int)+(([v4.1]:List zbE).length:Int)≤140737488355328)<|
   some (.inl ((v1++ [v4.1]),(IntKind.i64.wrap (v2+1))))
  else
   some (.inl (v1,(IntKind.i64.wrap (v2+1))))
 else
  some (.inr (some v1))
noncomputable def zdi (a0:zab) (a1:List zaa):Option (List zbE):=
 zat (fun s:List zbE × Int=>zcK a0 a1 s.1 s.2) ([],0)
noncomputable def zbA (a0:zab) (a1:zbs) (a2:zbE):Option (List UInt8):=
 req ((a0.fName).length+(([46]:List UInt8)).length≤9223372036854775807)<|
 req (((a0.fName++([46]:List UInt8))).length+(a1.fName).length≤9223372036854775807)<|
 req ((((a0.fName++([46]:List UInt8))++a1.fName)).length+(([47]:List UInt8)).length≤9223372036854775807)<|
 (getI a2.fVals a1.fCol).bind fun y1=>
 req (((((a0.fName++([46]:List UInt8))++a1.fName)++([47]:List UInt8))).length+(y1).length≤9223372036854775807)<|
 req ((((((a0.fName++([46]:List UInt8))++a1.fName)++([47]:List UInt8))++y1)).length+(([47]:List UInt8)).length≤9223372036854775807)<|
 (getI a2.fVals 0).bind fun y2=>
 req (((((((a0.fName++([46]:List UInt8))++a1.fName)++([47]:List UInt8))++y1)++([47]:List UInt8))).length+(y2).length≤9223372036854775807)<|
 some ((((((a0.fName++([46]:List UInt8))++a1.fName)++([47]:List UInt8))++y1)++([47]:List UInt8))++y2)
noncomputable def zdY (a0:zaf):Option (List UInt8 × zaf):=
 (zax a0 ([([97]:List UInt8),([98]:List UInt8),([99]:List UInt8),([109]:List UInt8),([110]:List UInt8),([122]:List UInt8),([114,47,49]:List UInt8),([105,47,120,47,49]:List UInt8)]:List (List UInt8))).bind fun v1=>
 some (v1.1,v1.2)
noncomputable def zd0 (a0:zaf):Option (List UInt8 × zaf):=
 (zax a0 ([([]:List UInt8),([49]:List UInt8),([55]:List UInt8),([49,48]:List UInt8),([45,51]:List UInt8),([120]:List UInt8),([97,44,98,95,99]:List UInt8)]:List (List UInt8))).bind fun v1=>
 some (v1.1,v1.2)
noncomputable def zdG (v6:List Int) (v7:Int) (v8:Int) (v9:List zaa):Option (List zaa × zaf):=
 (zaB (⟨v6,v7,v8⟩:zaf) 6).bind fun v10=>
 if v10.1 then
  (zdY v10.2).bind fun v11=>
  (zd0 v11.2).bind fun v12=>
  (za7 v9 (⟨v11.1,v12.1,false⟩:zaa)).bind fun v13=>
  some (v13,(⟨v12.2.fcode,v12.2.fat,v12.2.fseed⟩:zaf))
 else
  some (v9,(⟨v10.2.fcode,v10.2.fat,v10.2.fseed⟩:zaf))
noncomputable def zdK (a1:zab) (v14:Int) (y19:zbs) (v21:List Int) (v22:Int) (v23:Int) (v24:List zaa):Option ((Int × List Int × Int × Int × List zaa) ⊕ Option (List zaa × zaf)):=
 (zaB (⟨v21,v22,v23⟩:zaf) 5).bind fun v25=>
 if v25.1 then
  (za0 v25.2 a1).bind fun v26=>
  (zbA a1 y19 v26.1).bind fun v27=>
  (za7 v24 (⟨v27,([]:List UInt8),false⟩:zaa)).bind fun v28=>
  some (.inl ((IntKind.i64.wrap (v14+1)),v26.2.fcode,v26.2.fat,v26.2.fseed,v28))
 else
  some (.inl ((IntKind.i64.wrap (v14+1)),v25.2.fcode,v25.2.fat,v25.2.fseed,v24))
noncomputable def zfK (a1:zab) (v14:Int) (y19:zbs) (v20:List zbE) (v29:Int) (v30:List Int) (v31:Int) (v32:Int) (v33:List zaa):Option ((Int × List Int × Int × Int × List zaa) ⊕ Option ((Int × List Int × Int × Int × List zaa) ⊕ Option (List zaa × zaf))):=
 if(decide (v29<(v20.length:Int)))then
  (getI v20 v29).bind fun y34=>
  (zaB (⟨v30,v31,v32⟩:zaf) 5).bind fun v35=>
  if(!v35.1)then
   (zbA a1 y19 y34).bind fun v36=>
   (za7 v33 (⟨v36,([]:List UInt8),false⟩:zaa)).bind fun v37=>
   some (.inl ((IntKind.i64.wrap (v29+1)),v35.2.fcode,v35.2.fat,v35.2.fseed,v37))
  else
   some (.inl ((IntKind.i64.wrap (v29+1)),v35.2.fcode,v35.2.fat,v35.2.fseed,v33))
 else
  some (.inr (zdK a1 v14 y19 v30 v31 v32 v33))
noncomputable def zfI (a1:zab) (v14:Int) (v15:List Int) (v16:Int) (v17:Int) (v18:List zaa):Option ((Int × List Int × Int × Int × List zaa) ⊕ Option (List zaa × zaf)):=
 if(decide (v14<(a1.fIdxs.length:Int)))then
  (getI a1.fIdxs v14).bind fun y19=>
  (zdi a1 v18).bind fun v20=>
  zat (fun s:Int × List Int × Int × Int × List zaa=>zfK a1 v14 y19 v20 s.1 s.2.1 s.2.2.1 s.2.2.2.1 s.2.2.2.2) (0,v15,v16,v17,v18)
 else
  some (.inr (zdG v15 v16 v17 v18))
noncomputable def zdy (a1:zab) (v2:List Int) (v3:Int) (v4:Int) (v5:List zaa):Option (List zaa × zaf):=
 zat (fun s:Int × List Int × Int × Int × List zaa=>zfI a1 s.1 s.2.1 s.2.2.1 s.2.2.2.1 s.2.2.2.2) (0,v2,v3,v4,v5)
noncomputable def zfM (a1:zab) (v38:List zaa) (v39:Int) (v40:List Int) (v41:Int) (v42:Int):Option ((List zaa × Int × List Int × Int × Int) ⊕ Option (List zaa × zaf)):=
 if(decide (v39>0))then
  (za0 (⟨v40,v41,v42⟩:zaf) a1).bind fun v43=>
  (zbh a1 v43.1).bind fun v44=>
  (za7 v38 v44).bind fun v45=>
  some (.inl (v45,(IntKind.i64.wrap (v39-1)),v43.2.fcode,v43.2.fat,v43.2.fseed))
 else
  some (.inr (zdy a1 v40 v41 v42 v38))
noncomputable def zde (a0:zaf) (a1:zab):Option (List zaa × zaf):=
 (zac a0 5).bind fun v1=>
 zat (fun s:List zaa × Int × List Int × Int × Int=>zfM a1 s.1 s.2.1 s.2.2.1 s.2.2.2.1 s.2.2.2.2) ([],v1.1,v1.2.fcode,v1.2.fat,v1.2.fseed)
noncomputable def ze5 (a0:List UInt8) (a1:Int):Option (Bool):=
 some ((decide ((a0.length:Int)≥1))&&(decide ((a0.length:Int)≤a1)))
noncomputable def ze3 (a0:List UInt8) (a1:Int) (v1:Int):Option ((Int) ⊕ Option (Bool)):=
 if(decide (v1<(a0.length:Int)))then
  (getI a0 v1).bind fun y2=>
  if((decide ((y2.toNat:Int)<97))||(decide ((y2.toNat:Int)>122)))then
   some (.inr (some false))
  else
   some (.inl (IntKind.i64.wrap (v1+1)))
 else
  some (.inr (ze5 a0 a1))
noncomputable def zcJ (a0:List UInt8) (a1:Int):Option (Bool):=
 zat (fun s:Int=>ze3 a0 a1 s) 0
noncomputable def zhP (a0:List (List UInt8)) (a1:List UInt8) (v1:Int):Option ((Int) ⊕ Option (Int)):=
 if(decide (v1<(a0.length:Int)))then
  (getI a0 v1).bind fun y2=>
  if(y2==a1)then
   some (.inr (some v1))
  else
   some (.inl (IntKind.i64.wrap (v1+1)))
 else
  some (.inr (some (-1)))
noncomputable def zg4 (a0:List (List UInt8)) (a1:List UInt8):Option (Int):=
 zat (fun s:Int=>zhP a0 a1 s) 0
noncomputable def zgG (a0:List (List UInt8)):Option (Bool):=
 (zay (a0.length:Int) 2 4).bind fun v1=>
 some v1
noncomputable def zgI (a0:List (List UInt8)) (v2:Int):Option ((Int) ⊕ Option (Bool)):=
 if(decide (v2<(a0.length:Int)))then
  (getI a0 v2).bind fun y3=>
  (zcJ y3 3).bind fun v4=>
  if v4 then
   req (0≤(0:Int)∧(0:Int)≤v2∧v2≤(a0.length:Int))<|
   (zg4 (zez a0 0 v2) y3).bind fun v5=>
   if(decide (v5≥0))then
    some (.inr (some false))
   else
    some (.inl (IntKind.i64.wrap (v2+1)))
  else
   some (.inr (some false))
 else
  some (.inr (zgG a0))
noncomputable def zgZ (a0:List (List UInt8)):Option (Bool):=
 zat (fun s:Int=>zgI a0 s) 0
noncomputable def zdR (a0:zab) (v3:Int):Option ((Int) ⊕ Option (Bool)):=
 if(decide (v3<(a0.fIdxs.length:Int)))then
  (getI a0.fIdxs v3).bind fun y4=>
  (zcJ y4.fName 1).bind fun v5=>
  if v5 then
   (zay y4.fCol 1 (IntKind.i64.wrap ((a0.fCols.length:Int)-1))).bind fun v6=>
   if v6 then
    (zay y4.fStage 0 3).bind fun v7=>
    if(decide (v3>0))then
     if v7 then
      (getI a0.fIdxs (IntKind.i64.wrap (v3-1))).bind fun y8=>
      if(!Op.bytesLess y8.fName y4.fName)then
       some (.inr (some false))
      else
       some (.inl (IntKind.i64.wrap (v3+1)))
     else
      some (.inr (some false))
    else
     if((!v7)||false)then
      some (.inr (some false))
     else
      some (.inl (IntKind.i64.wrap (v3+1)))
   else
    some (.inr (some false))
  else
   some (.inr (some false))
 else
  some (.inr (some true))
noncomputable def zbm (a0:zab):Option (Bool):=
 (zcJ a0.fName 1).bind fun v1=>
 if v1 then
  (zgZ a0.fCols).bind fun v2=>
  if((!v2)||(decide ((a0.fIdxs.length:Int)>3)))then
   some false
  else
   zat (fun s:Int=>zdR a0 s) 0
 else
  some false
noncomputable def zhZ (a0:zab) (a1:List UInt8) (a2:Int):Option (Bool):=
 (zbm a0).bind fun v1=>
 if v1 then
  (zbn a0 a1).bind fun v2=>
  if(decide (v2≥0))then
   (zay a2 0 3).bind fun v3=>
   some v3
  else
   some false
 else
  some false
noncomputable def zkQ (a0:List UInt8):Option (Bool):=
 (zay (a0.length:Int) 1 12).bind fun v1=>
 if v1 then
  (zej a0 ([46,47]:List UInt8)).bind fun v2=>
  some v2
 else
  some false
noncomputable def zoF (a0:List UInt8):Option (Bool):=
 if(decide ((a0.length:Int)≤24))then
  (zej a0 ([46,45,44,95]:List UInt8)).bind fun v1=>
  some v1
 else
  some false
noncomputable def zrk (a0:List UInt8) (a1:List UInt8) (a2:Bool):Option (Bool):=
 (zkQ a0).bind fun v1=>
 if v1 then
  (zoF a1).bind fun v2=>
  some (v2&&((!a2)||(a1==([]:List UInt8))))
 else
  some false
noncomputable def zmH (a0:List zaa):Option (Bool):=
 some (decide ((a0.length:Int)≤24))
noncomputable def znC (a0:List zaa) (v1:Int):Option ((Int) ⊕ Option (Bool)):=
 if(decide (v1<(a0.length:Int)))then
  (getI a0 v1).bind fun y2=>
  (zrk y2.fKey y2.fVal y2.fGone).bind fun v3=>
  if(decide (v1>0))then
   if v3 then
    (getI a0 (IntKind.i64.wrap (v1-1))).bind fun y4=>
    if(!Op.bytesLess y4.fKey y2.fKey)then
     some (.inr (some false))
    else
     some (.inl (IntKind.i64.wrap (v1+1)))
   else
    some (.inr (some false))
  else
   if((!v3)||false)then
    some (.inr (some false))
   else
    some (.inl (IntKind.i64.wrap (v1+1)))
 else
  some (.inr (zmH a0))
noncomputable def zpW (a0:List zaa):Option (Bool):=
 zat (fun s:Int=>znC a0 s) 0
noncomputable def zo2 (a0:List zaa):Option (Bool):=
 (zpW a0).bind fun v1=>
 some v1
noncomputable def zo1 (a0:List zaa) (v2:Int):Option ((Int) ⊕ Option (Bool)):=
 if(decide (v2<(a0.length:Int)))then
  (getI a0 v2).bind fun y3=>
  if y3.fGone then
   some (.inr (some false))
  else
   some (.inl (IntKind.i64.wrap (v2+1)))
 else
  some (.inr (zo2 a0))
noncomputable def zfW (a0:List zaa):Option (Bool):=
 zat (fun s:Int=>zo1 a0 s) 0
noncomputable def zef (a0:zab) (a1:List UInt8) (a2:Int) (v4:Int) (v5:List zab):Option ((Int × List zab) ⊕ Option (List zab)):=
 if(v4 !=a2)then
  if(decide (v4<a2))then
   (zeT a0 a1 (IntKind.i64.wrap (v4+1))).bind fun v6=>
   req ((((v5).length:Int)+(([v6]:List zab).length:Int))*64≤140737488355328∧((v5).length:Int)+(([v6]:List zab).length:Int)≤140737488355328)<|
   some (.inl ((IntKind.i64.wrap (v4+1)),(v5++ [v6])))
  else
   (zeT a0 a1 (IntKind.i64.wrap (v4-1))).bind fun v7=>
   req ((((v5).length:Int)+(([v7]:List zab).length:Int))*64≤140737488355328∧((v5).length:Int)+(([v7]:List zab).length:Int)≤140737488355328)<|
   some (.inl ((IntKind.i64.wrap (v4-1)),(v5++ [v7])))
 else
  some (.inr (some v5))
noncomputable def zjG (a0:zab) (a1:List UInt8) (a2:Int):Option (List zab):=
 (zeW a0).bind fun v1=>
 (zbn a0 a1).bind fun v2=>
 (getI a0.fIdxs v2).bind fun y3=>
 zat (fun s:Int × List zab=>zef a0 a1 a2 s.1 s.2) (y3.fStage, [v1])
noncomputable def zu6 (a0:List Int):Option (List Int):=
 req (((([]:List Int).length:Int)+((a0).length:Int))*8≤140737488355328∧(([]:List Int).length:Int)+((a0).length:Int)≤140737488355328)<|
 some a0
noncomputable def zpe (a0:zaI) (v1:List Int) (v2:Int) (v3:List zab):Option ((Int × List zab) ⊕ Option (zaI)):=
 if(decide (v2<(a0.fWays.length:Int)))then
  (getI a0.fWays v2).bind fun y4=>
  (zeW y4).bind fun v5=>
  req ((((v3).length:Int)+(([v5]:List zab).length:Int))*64≤140737488355328∧((v3).length:Int)+(([v5]:List zab).length:Int)≤140737488355328)<|
  some (.inl ((IntKind.i64.wrap (v2+1)),(v3++ [v5])))
 else
  some (.inr (some (⟨a0.fName,v3,v1,a0.fStore⟩:zaI)))
noncomputable def znl (a0:zaI):Option (zaI):=
 (zu6 a0.fAt).bind fun v1=>
 req (((([]:List zaa).length:Int)+((a0.fStore).length:Int))*40≤140737488355328∧(([]:List zaa).length:Int)+((a0.fStore).length:Int)≤140737488355328)<|
 zat (fun s:Int × List zab=>zpe a0 v1 s.1 s.2) (0, [])
noncomputable def zmk (a0:zaI) (v1:List Int) (v2:Int):Option ((List Int × Int) ⊕ Option (List Int)):=
 if(decide (v2<(a0.fAt.length:Int)))then
  (getI a0.fAt v2).bind fun y3=>
  (getI a0.fWays y3).bind fun y4=>
  (zbn y4 a0.fName).bind fun v5=>
  (getI y4.fIdxs v5).bind fun y6=>
  req ((((v1).length:Int)+(([y6.fStage]:List Int).length:Int))*8≤140737488355328∧((v1).length:Int)+(([y6.fStage]:List Int).length:Int)≤140737488355328)<|
  some (.inl ((v1++ [y6.fStage]),(IntKind.i64.wrap (v2+1))))
 else
  some (.inr (some v1))
noncomputable def zfv (a0:zaI):Option (List Int):=
 zat (fun s:List Int × Int=>zmk a0 s.1 s.2) ([],0)
noncomputable def zqB (a0:List Int) (a1:Int) (v1:Int):Option ((Int) ⊕ Option (Bool)):=
 if(decide (v1<(a0.length:Int)))then
  (getI a0 v1).bind fun y2=>
  if(y2==a1)then
   some (.inr (some true))
  else
   some (.inl (IntKind.i64.wrap (v1+1)))
 else
  some (.inr (some false))
noncomputable def zoL (a0:List Int) (a1:Int):Option (Bool):=
 zat (fun s:Int=>zqB a0 a1 s) 0
noncomputable def zrL (a0:zaI):Option (Int):=
 (zfv a0).bind fun v1=>
 (zoL v1 3).bind fun v2=>
 if v2 then
  some 2
 else
  (zoL v1 0).bind fun v3=>
  if v3 then
   some 0
  else
   some 1
noncomputable def zcc (a0:zab) (a1:List UInt8) (v1:List zbE) (v2:List (List UInt8)) (v3:Int):Option ((List (List UInt8) × Int) ⊕ Option (List (List UInt8))):=
 if(decide (v3<(v1.length:Int)))then
  (getI v1 v3).bind fun y4=>
  (zbn a0 a1).bind fun v5=>
  (getI a0.fIdxs v5).bind fun y6=>
  (zbA a0 y6 y4).bind fun v7=>
  req ((((v2).length:Int)+(([v7]:List (List UInt8)).length:Int))*16≤140737488355328∧((v2).length:Int)+(([v7]:List (List UInt8)).length:Int)≤140737488355328)<|
  some (.inl ((v2++ [v7]),(IntKind.i64.wrap (v3+1))))
 else
  some (.inr (some v2))
noncomputable def zfr (a0:zab) (a1:List UInt8) (a2:List zaa):Option (List (List UInt8)):=
 (zdi a0 a2).bind fun v1=>
 zat (fun s:List (List UInt8) × Int=>zcc a0 a1 v1 s.1 s.2) ([],0)
noncomputable def zkb (a0:zab) (a1:zab) (v1:Int):Option ((Int) ⊕ Option (Bool)):=
 if(decide (v1<(a0.fIdxs.length:Int)))then
  (getI a0.fIdxs v1).bind fun y2=>
  (getI a1.fIdxs v1).bind fun y3=>
  if((y2.fName !=y3.fName)||(y2.fCol !=y3.fCol))then
   some (.inr (some false))
  else
   some (.inl (IntKind.i64.wrap (v1+1)))
 else
  some (.inr (some true))
noncomputable def zkr (a0:zab) (a1:zab):Option (Bool):=
 zat (fun s:Int=>zkb a0 a1 s) 0
noncomputable def zkW (a0:zab) (a1:zab) (v4:Int):Option ((Int) ⊕ Option (Bool)):=
 if(decide (v4<(a0.fCols.length:Int)))then
  (getI a0.fCols v4).bind fun y5=>
  (getI a1.fCols v4).bind fun y6=>
  if(y5 !=y6)then
   some (.inr (some false))
  else
   some (.inl (IntKind.i64.wrap (v4+1)))
 else
  some (.inr (zkr a0 a1))
noncomputable def znc (a0:zab) (a1:zab):Option (Bool):=
 if(((a0.fName !=a1.fName)||((a0.fCols.length:Int) !=(a1.fCols.length:Int)))||((a0.fIdxs.length:Int) !=(a1.fIdxs.length:Int)))then
  some false
 else
  zat (fun s:Int=>zkW a0 a1 s) 0
noncomputable def zs3 (a0:Int) (a1:Int):Option (Int):=
 if(decide (a0>a1))then
  some a0
 else
  some a1
noncomputable def zpf (a0:zab) (a1:zab) (v1:Int) (v2:Int):Option ((Int × Int) ⊕ Option (Int)):=
 if(decide (v2<(a0.fIdxs.length:Int)))then
  (getI a0.fIdxs v2).bind fun y3=>
  (getI a1.fIdxs v2).bind fun y4=>
  (zs3 (IntKind.i64.wrap (y3.fStage-y4.fStage)) (IntKind.i64.wrap (0-(IntKind.i64.wrap (y3.fStage-y4.fStage))))).bind fun v5=>
  some (.inl ((IntKind.i64.wrap (v1+v5)),(IntKind.i64.wrap (v2+1))))
 else
  some (.inr (some v1))
noncomputable def zsM (a0:zab) (a1:zab):Option (Int):=
 zat (fun s:Int × Int=>zpf a0 a1 s.1 s.2) (0,0)
noncomputable def zoh (a0:zaI) (v10:List zab) (v11:Int):Option ((Int) ⊕ Option (Bool)):=
 if(decide (v11<(v10.length:Int)))then
  (getI a0.fWays v11).bind fun y12=>
  (zbm y12).bind fun v13=>
  if v13 then
   (getI v10 v11).bind fun y14=>
   (znc y14 y12).bind fun v15=>
   if v15 then
    (zsM y14 y12).bind fun v16=>
    if(v16 !=0)then
     some (.inr (some false))
    else
     some (.inl (IntKind.i64.wrap (v11+1)))
   else
    some (.inr (some false))
  else
   some (.inr (some false))
 else
  some (.inr (some true))
noncomputable def zrP (a0:zaI):Option (Bool):=
 (zay (a0.fWays.length:Int) 1 4).bind fun v1=>
 if v1 then
  (getI a0.fWays 0).bind fun y2=>
  (zbm y2).bind fun v3=>
  if v3 then
   (zbn y2 a0.fName).bind fun v4=>
   if(decide (v4<0))then
    some false
   else
    (getI a0.fWays (IntKind.i64.wrap ((a0.fWays.length:Int)-1))).bind fun y5=>
    (zbm y5).bind fun v6=>
    if v6 then
     (zbn y5 a0.fName).bind fun v7=>
     if(decide (v7<0))then
      some false
     else
      (zbn y5 a0.fName).bind fun v8=>
      (getI y5.fIdxs v8).bind fun y9=>
      (zjG y2 a0.fName y9.fStage).bind fun v10=>
      if((v10.length:Int) !=(a0.fWays.length:Int))then
       some false
      else
       zat (fun s:Int=>zoh a0 v10 s) 0
    else
     some false
  else
   some false
 else
  some false
noncomputable def zpJ (a0:List Int) (a1:Int) (a2:Int) (v1:Int):Option ((Int) ⊕ Option (Bool)):=
 if(decide (v1<(a0.length:Int)))then
  (getI a0 v1).bind fun y2=>
  (zay y2 a1 a2).bind fun v3=>
  if(!v3)then
   some (.inr (some false))
  else
   some (.inl (IntKind.i64.wrap (v1+1)))
 else
  some (.inr (some true))
noncomputable def zuA (a0:List Int) (a1:Int) (a2:Int):Option (Bool):=
 zat (fun s:Int=>zpJ a0 a1 a2 s) 0
noncomputable def zpm (a0:zaI):Option (Bool):=
 (zrP a0).bind fun v1=>
 if v1 then
  (zay (a0.fAt.length:Int) 1 3).bind fun v2=>
  if v2 then
   (zuA a0.fAt 0 (IntKind.i64.wrap ((a0.fWays.length:Int)-1))).bind fun v3=>
   if v3 then
    (zfW a0.fStore).bind fun v4=>
    some v4
   else
    some false
  else
   some false
 else
  some false
noncomputable def zao (a0:Int) (a1:Int) (a2:Int):Option (Bool):=
 some ((decide (a0≥a1))&&(decide (a0≤a2)))
noncomputable def zcd (a0:List zaa) (v1:Int) (v2:List (List UInt8)):Option ((Int × List (List UInt8)) ⊕ Option (List (List UInt8))):=
 if(decide (v1<(a0.length:Int)))then
  (getI a0 v1).bind fun y3=>
  req ((((v2).length:Int)+(([y3.fKey]:List (List UInt8)).length:Int))*16≤140737488355328∧((v2).length:Int)+(([y3.fKey]:List (List UInt8)).length:Int)≤140737488355328)<|
  some (.inl ((IntKind.i64.wrap (v1+1)),(v2++ [y3.fKey])))
 else
  some (.inr (some v2))
noncomputable def zfo (a0:List zaa):Option (List (List UInt8)):=
 zat (fun s:Int × List (List UInt8)=>zcd a0 s.1 s.2) (0, [])
noncomputable def zeK (a0:Int):Option (Bool):=
 some (((decide (a0≥97))&&(decide (a0≤122)))||((decide (a0≥48))&&(decide (a0≤57))))
noncomputable def zfF (a0:List UInt8) (a1:Int):Option (Int):=
 (zbf a0 a1).bind fun v1=>
 some v1
noncomputable def zfT (a0:List UInt8) (a1:List UInt8) (v1:Int):Option ((Int) ⊕ Option (Bool)):=
 if(decide (v1<(a0.length:Int)))then
  (getI a0 v1).bind fun y2=>
  (zeK (y2.toNat:Int)).bind fun v3=>
  if v3 then
   some (.inl (IntKind.i64.wrap (v1+1)))
  else
   (zfF a1 (y2.toNat:Int)).bind fun v4=>
   if(decide (v4<0))then
    some (.inr (some false))
   else
    some (.inl (IntKind.i64.wrap (v1+1)))
 else
  some (.inr (some true))
noncomputable def zdC (a0:List UInt8) (a1:List UInt8):Option (Bool):=
 zat (fun s:Int=>zfT a0 a1 s) 0
noncomputable def zfa (a0:List UInt8):Option (Bool):=
 (zao (a0.length:Int) 1 12).bind fun v1=>
 if v1 then
  (zdC a0 ([46,47]:List UInt8)).bind fun v2=>
  some v2
 else
  some false
noncomputable def zfA (a0:List (List UInt8)) (v1:Int):Option ((Int) ⊕ Option (Bool)):=
 if(decide (v1<(a0.length:Int)))then
  (getI a0 v1).bind fun y2=>
  (zfa y2).bind fun v3=>
  if(decide (v1>0))then
   if v3 then
    (getI a0 (IntKind.i64.wrap (v1-1))).bind fun y4=>
    if(Op.bytesLess y2 y4||y2==y4)then
     some (.inr (some false))
    else
     some (.inl (IntKind.i64.wrap (v1+1)))
   else
    some (.inr (some false))
  else
   if((!v3)||false)then
    some (.inr (some false))
   else
    some (.inl (IntKind.i64.wrap (v1+1)))
 else
  some (.inr (some true))
noncomputable def zfu (a0:List (List UInt8)):Option (Bool):=
 zat (fun s:Int=>zfA a0 s) 0
noncomputable def zgS (a0:List UInt8):Option (Bool):=
 if(decide ((a0.length:Int)≤24))then
  (zdC a0 ([46,45,44,95]:List UInt8)).bind fun v1=>
  some v1
 else
  some false
noncomputable def zfZ (a0:List UInt8) (a1:Bool):Option (Bool):=
 (zgS a0).bind fun v1=>
 some (v1&&(!(a1&&(a0 !=([]:List UInt8)))))
noncomputable def zdP (a0:zaa):Option (Bool):=
 (zfZ a0.fVal a0.fGone).bind fun v1=>
 some (!v1)
noncomputable def zeN (a0:List zaa):Option (Bool):=
 if(decide ((a0.length:Int)≤24))then
  (zfo a0).bind fun v1=>
  (zfu v1).bind fun v2=>
  if v2 then
   (zaw a0 (fun y0_=>zdP y0_)).bind fun v3=>
   some (!v3)
  else
   some false
 else
  some false
noncomputable def zf7 (a0:zaa):Option (Bool):=
 some a0.fGone
noncomputable def zeY (a0:List zaa):Option (Bool):=
 (zeN a0).bind fun v1=>
 if v1 then
  (zaw a0 (fun y0_=>zf7 y0_)).bind fun v2=>
  some (!v2)
 else
  some false
noncomputable def ze6 (a0:List UInt8) (a1:Int):Option (Bool):=
 (zao (a0.length:Int) 1 a1).bind fun v1=>
 some v1
noncomputable def ze7 (a0:List UInt8) (a1:Int) (v2:Int):Option ((Int) ⊕ Option (Bool)):=
 if(decide (v2<(a0.length:Int)))then
  (getI a0 v2).bind fun y3=>
  if((decide ((y3.toNat:Int)<97))||(decide ((y3.toNat:Int)>122)))then
   some (.inr (some false))
  else
   some (.inl (IntKind.i64.wrap (v2+1)))
 else
  some (.inr (ze6 a0 a1))
noncomputable def zcI (a0:List UInt8) (a1:Int):Option (Bool):=
 zat (fun s:Int=>ze7 a0 a1 s) 0
noncomputable def zbL (a0:List (List UInt8)) (a1:List UInt8) (v1:Int):Option ((Int) ⊕ Option (Int)):=
 if(decide (v1<(a0.length:Int)))then
  (getI a0 v1).bind fun y2=>
  if(a1==y2)then
   some (.inr (some v1))
  else
   some (.inl (IntKind.i64.wrap (v1+1)))
 else
  some (.inr (some (-1)))
noncomputable def zbo (a0:List (List UInt8)) (a1:List UInt8):Option (Int):=
 zat (fun s:Int=>zbL a0 a1 s) 0
noncomputable def zaL (a0:List (List UInt8)) (a1:List UInt8):Option (Bool):=
 (zbo a0 a1).bind fun v1=>
 some (decide (v1≥0))
noncomputable def zfc (a0:Int):Option (Bool):=
 (zao a0 0 3).bind fun v1=>
 some v1
noncomputable def zdW (a0:zab) (v3:Int):Option ((Int) ⊕ Option (Bool)):=
 if(decide (v3<(a0.fIdxs.length:Int)))then
  (getI a0.fIdxs v3).bind fun y4=>
  (zcI y4.fName 1).bind fun v5=>
  if v5 then
   (zao y4.fCol 1 (IntKind.i64.wrap ((a0.fCols.length:Int)-1))).bind fun v6=>
   if v6 then
    (zfc y4.fStage).bind fun v7=>
    if(decide (v3>0))then
     if v7 then
      (getI a0.fIdxs (IntKind.i64.wrap (v3-1))).bind fun y8=>
      if(Op.bytesLess y4.fName y8.fName||y4.fName==y8.fName)then
       some (.inr (some false))
      else
       some (.inl (IntKind.i64.wrap (v3+1)))
     else
      some (.inr (some false))
    else
     if((!v7)||false)then
      some (.inr (some false))
     else
      some (.inl (IntKind.i64.wrap (v3+1)))
   else
    some (.inr (some false))
  else
   some (.inr (some false))
 else
  some (.inr (some true))
noncomputable def zfy (a0:zab):Option (Bool):=
 zat (fun s:Int=>zdW a0 s) 0
noncomputable def zd3 (a0:zab) (v9:Int):Option ((Int) ⊕ Option (Bool)):=
 if(decide (v9<(a0.fCols.length:Int)))then
  (getI a0.fCols v9).bind fun y10=>
  (zcI y10 3).bind fun v11=>
  if v11 then
   req (0≤(0:Int)∧(0:Int)≤v9∧v9≤(a0.fCols.length:Int))<|
   (zaL (zez a0.fCols 0 v9) y10).bind fun v12=>
   if v12 then
    some (.inr (some false))
   else
    some (.inl (IntKind.i64.wrap (v9+1)))
  else
   some (.inr (some false))
 else
  some (.inr (zfy a0))
noncomputable def zd9 (a0:zab):Option (Bool):=
 (zcI a0.fName 1).bind fun v1=>
 if v1 then
  (zao (a0.fCols.length:Int) 2 4).bind fun v2=>
  if((!v2)||(decide ((a0.fIdxs.length:Int)>3)))then
   some false
  else
   zat (fun s:Int=>zd3 a0 s) 0
 else
  some false
noncomputable def zdI (a0:zbs) (a1:List UInt8):Option (Bool):=
 some (a0.fName==a1)
noncomputable def zbw (a0:zab) (a1:List UInt8):Option (Int):=
 (zbk a0.fIdxs (fun y0_=>zdI y0_ a1)).bind fun v1=>
 some v1
noncomputable def zeX (a0:zab) (a1:List UInt8):Option (Bool):=
 (zd9 a0).bind fun v1=>
 if v1 then
  (zbw a0 a1).bind fun v2=>
  some (decide (v2≥0))
 else
  some false
noncomputable def zmU (a0:zab) (a1:zaI):Option (Bool):=
 (zeX a0 a1.fName).bind fun v1=>
 some (!v1)
noncomputable def znn (a0:Int) (a1:zaI):Option (Bool):=
 (zao a0 0 (IntKind.i64.wrap ((a1.fWays.length:Int)-1))).bind fun v1=>
 some (!v1)
noncomputable def zbR (a0:zab) (a1:List UInt8):Option (zbs):=
 (zbw a0 a1).bind fun v1=>
 (getI a0.fIdxs v1).bind fun y2=>
 some y2
noncomputable def zb6 (a0:zaI) (a1:zab):Option (Int):=
 (zbR a1 a0.fName).bind fun v1=>
 some v1.fStage
noncomputable def zaX (xs:List (List UInt8)):Option (List (List UInt8)):=zjH 16 xs
noncomputable def zbF (xs:List zbs):Option (List zbs):=zjH 32 xs
noncomputable def zc9 (a0:zab):Option (zab):=
 (zaX a0.fCols).bind fun v1=>
 (zbF a0.fIdxs).bind fun v2=>
 some (⟨a0.fName,v1,v2⟩:zab)
noncomputable def zbK (a0:zab) (a1:List UInt8) (a2:Int):Option (zab):=
 (zc9 a0).bind fun v1=>
 (zbw a0 a1).bind fun v2=>
 (getI v1.fIdxs v2).bind fun y3=>
 some (⟨v1.fName,v1.fCols,(v1.fIdxs.set (v2).toNat {y3 with fStage:=a2})⟩:zab)
noncomputable def zbW (a0:zab) (a1:List UInt8) (a2:Int) (v3:Int) (v4:List zab):Option ((Int × List zab) ⊕ Option (List zab)):=
 if(v3 !=a2)then
  if(decide (v3<a2))then
   (zbK a0 a1 (IntKind.i64.wrap (v3+1))).bind fun v5=>
   req ((((v4).length:Int)+(([v5]:List zab).length:Int))*64≤140737488355328∧((v4).length:Int)+(([v5]:List zab).length:Int)≤140737488355328)<|
   some (.inl ((IntKind.i64.wrap (v3+1)),(v4++ [v5])))
  else
   (zbK a0 a1 (IntKind.i64.wrap (v3-1))).bind fun v6=>
   req ((((v4).length:Int)+(([v6]:List zab).length:Int))*64≤140737488355328∧((v4).length:Int)+(([v6]:List zab).length:Int)≤140737488355328)<|
   some (.inl ((IntKind.i64.wrap (v3-1)),(v4++ [v6])))
 else
  some (.inr (some v4))
noncomputable def zcz (a0:zab) (a1:List UInt8) (a2:Int):Option (List zab):=
 (zbR a0 a1).bind fun v1=>
 (zc9 a0).bind fun v2=>
 zat (fun s:Int × List zab=>zbW a0 a1 a2 s.1 s.2) (v1.fStage, [v2])
noncomputable def zbv (a0:List zab) (a1:List zab) (a2:zab→zab→Option Bool) (v1:Int):Option ((Int) ⊕ Option (Bool)):=
 if(decide (v1<(a0.length:Int)))then
  (getI a0 v1).bind fun y2=>
  (getI a1 v1).bind fun y3=>
  (a2 y2 y3).bind fun v4=>
  if(!v4)then
   some (.inr (some false))
  else
   some (.inl (IntKind.i64.wrap (v1+1)))
 else
  some (.inr (some true))
noncomputable def zbG (a0:List zab) (a1:List zab) (a2:zab→zab→Option Bool):Option (Bool):=
 if((a0.length:Int) !=(a1.length:Int))then
  some false
 else
  zat (fun s:Int=>zbv a0 a1 a2 s) 0
noncomputable def zfP (a0:List (List UInt8)) (a1:List (List UInt8)) (v1:Int):Option ((Int) ⊕ Option (Bool)):=
 if(decide (v1<(a0.length:Int)))then
  (getI a0 v1).bind fun y2=>
  (getI a1 v1).bind fun y3=>
  if(y2 !=y3)then
   some (.inr (some false))
  else
   some (.inl (IntKind.i64.wrap (v1+1)))
 else
  some (.inr (some true))
noncomputable def zgB (a0:List (List UInt8)) (a1:List (List UInt8)):Option (Bool):=
 if((a0.length:Int) !=(a1.length:Int))then
  some false
 else
  zat (fun s:Int=>zfP a0 a1 s) 0
noncomputable def zeZ (a0:List zbs) (a1:List zbs) (v1:Int):Option ((Int) ⊕ Option (Bool)):=
 if(decide (v1<(a0.length:Int)))then
  (getI a0 v1).bind fun y2=>
  (getI a1 v1).bind fun y3=>
  if(!(y2.fName==y3.fName&&(y2.fCol==y3.fCol&&(y2.fStage==y3.fStage))))then
   some (.inr (some false))
  else
   some (.inl (IntKind.i64.wrap (v1+1)))
 else
  some (.inr (some true))
noncomputable def zfw (a0:List zbs) (a1:List zbs):Option (Bool):=
 if((a0.length:Int) !=(a1.length:Int))then
  some false
 else
  zat (fun s:Int=>zeZ a0 a1 s) 0
noncomputable def zoU (a0:zab) (a1:zab):Option (Bool):=
 if(a0.fName==a1.fName)then
  (zgB a0.fCols a1.fCols).bind fun v1=>
  if v1 then
   (zfw a0.fIdxs a1.fIdxs).bind fun v2=>
   some v2
  else
   some false
 else
  some false
noncomputable def zpd (a0:zaI):Option (Bool):=
 (zao (a0.fWays.length:Int) 1 4).bind fun v1=>
 if v1 then
  (zao (a0.fAt.length:Int) 1 3).bind fun v2=>
  if v2 then
   (zeY a0.fStore).bind fun v3=>
   if(!v3)then
    some false
   else
    (zaw a0.fWays (fun y0_=>zmU y0_ a0)).bind fun v4=>
    if v4 then
     some false
    else
     (zaw a0.fAt (fun y0_=>znn y0_ a0)).bind fun v5=>
     if v5 then
      some false
     else
      (getI a0.fWays 0).bind fun y6=>
      (getI a0.fWays (IntKind.i64.wrap ((a0.fWays.length:Int)-1))).bind fun y7=>
      (zb6 a0 y7).bind fun v8=>
      (zcz y6 a0.fName v8).bind fun v9=>
      (zbG a0.fWays v9 (fun y0_ y1_=>zoU y0_ y1_)).bind fun v10=>
      some v10
  else
   some false
 else
  some false
noncomputable def zhW (a0:zab) (a1:List UInt8) (a2:Int):Option (zab × Bool):=
 (zhZ a0 a1 a2).bind fun v1=>
 if(!v1)then
  some ((⟨([]:List UInt8), [], []⟩:zab),false)
 else
  (zeT a0 a1 a2).bind fun v2=>
  some (v2,true)
noncomputable def zig (a0:zab) (a1:List UInt8) (a2:Int):Option (List zab × Bool):=
 (zeX a0 a1).bind fun v1=>
 if v1 then
  (zfc a2).bind fun v2=>
  if(!v2)then
   some ([],false)
  else
   (zcz a0 a1 a2).bind fun v3=>
   some (v3,true)
 else
  some ([],false)
noncomputable def zaF (xs:List zaa):Option (List zaa):=zjH 40 xs
noncomputable def zbZ (a0:zaI) (a1:Int):Option (zab):=
 (getI a0.fAt a1).bind fun y1=>
 (getI a0.fWays y1).bind fun y2=>
 some y2
noncomputable def zj6 (a0:zaI) (v1:Int) (v2:Int):Option ((Int × Int) ⊕ Option (Int)):=
 if(decide (v2<(a0.fAt.length:Int)))then
  (zbZ a0 v2).bind fun v3=>
  (zb6 a0 v3).bind fun v4=>
  if(v4==3)then
   some (.inr (some 2))
  else
   if(v4==0)then
    some (.inl (0,(IntKind.i64.wrap (v2+1))))
   else
    some (.inl (v1,(IntKind.i64.wrap (v2+1))))
 else
  some (.inr (some v1))
noncomputable def zmo (a0:zaI):Option (Int):=
 zat (fun s:Int × Int=>zj6 a0 s.1 s.2) (1,0)
noncomputable def zb8 (a0:zab) (a1:List UInt8):Option (List UInt8):=
 req ((a0.fName).length+(([46]:List UInt8)).length≤9223372036854775807)<|
 req (((a0.fName++([46]:List UInt8))).length+(a1).length≤9223372036854775807)<|
 req ((((a0.fName++([46]:List UInt8))++a1)).length+(([47]:List UInt8)).length≤9223372036854775807)<|
 some (((a0.fName++([46]:List UInt8))++a1)++([47]:List UInt8))
noncomputable def zbg (a0:List UInt8) (a1:List UInt8):Option (Bool):=
 if(decide ((a0.length:Int)≥(a1.length:Int)))then
  req (0≤(0:Int)∧(0:Int)≤(a1.length:Int)∧(a1.length:Int)≤(a0.length:Int))<|
  some ((zez a0 0 (a1.length:Int))==a1)
 else
  some false
noncomputable def zb2 (a0:List UInt8) (a1:List UInt8):Option (List UInt8 × Bool):=
 (zbg a0 a1).bind fun v1=>
 if(!v1)then
  some (a0,false)
 else
  req (0≤(a1.length:Int)∧(a1.length:Int)≤(a0.length:Int)∧(a0.length:Int)≤(a0.length:Int))<|
  some ((zez a0 (a1.length:Int) (a0.length:Int)),true)
noncomputable def zcY (a0:List UInt8) (a1:List UInt8):Option (List UInt8 × Bool):=
 (zb2 a0 a1).bind fun v1=>
 some (v1.1,v1.2)
noncomputable def zb4 (a0:List UInt8) (a1:List UInt8):Option (List UInt8 × List UInt8 × Bool):=
 (zaT a0 a1).bind fun v1=>
 if(decide (v1≥0))then
  req (0≤(0:Int)∧(0:Int)≤v1∧v1≤(a0.length:Int))<|
  req (0≤(IntKind.i64.wrap (v1+(a1.length:Int)))∧(IntKind.i64.wrap (v1+(a1.length:Int)))≤(a0.length:Int)∧(a0.length:Int)≤(a0.length:Int))<|
  some ((zez a0 0 v1),(zez a0 (IntKind.i64.wrap (v1+(a1.length:Int))) (a0.length:Int)),true)
 else
  some (a0,([]:List UInt8),false)
noncomputable def zeQ (a0:List UInt8) (a1:List UInt8):Option (List UInt8 × List UInt8 × Bool):=
 (zb4 a0 a1).bind fun v1=>
 some (v1.1,v1.2.1,v1.2.2)
noncomputable def zei (a0:List UInt8):Option (Bool):=
 (zao (a0.length:Int) 1 3).bind fun v1=>
 if v1 then
  (zdC a0 ([]:List UInt8)).bind fun v2=>
  some v2
 else
  some false
noncomputable def zcf (a0:zab) (a1:List UInt8) (a2:List UInt8):Option (List UInt8 × List UInt8 × Bool):=
 (zb8 a0 a1).bind fun v1=>
 (zcY a2 v1).bind fun v2=>
 (zeQ v2.1 ([47]:List UInt8)).bind fun v3=>
 if v2.2 then
  if v3.2.2 then
   (zei v3.1).bind fun v4=>
   if v4 then
    (zei v3.2.1).bind fun v5=>
    if(!v5)then
     some (([]:List UInt8),([]:List UInt8),false)
    else
     some (v3.1,v3.2.1,true)
   else
    some (([]:List UInt8),([]:List UInt8),false)
  else
   some (([]:List UInt8),([]:List UInt8),false)
 else
  some (([]:List UInt8),([]:List UInt8),false)
noncomputable def zaY (a0:zab) (a1:List UInt8) (a2:List zaa) (v1:Int) (v2:List (List UInt8)):Option ((Int × List (List UInt8)) ⊕ Option (List (List UInt8))):=
 if(decide (v1<(a2.length:Int)))then
  (getI a2 v1).bind fun y3=>
  (zcf a0 a1 y3.fKey).bind fun v4=>
  if v4.2.2 then
   req ((((v2).length:Int)+(([y3.fKey]:List (List UInt8)).length:Int))*16≤140737488355328∧((v2).length:Int)+(([y3.fKey]:List (List UInt8)).length:Int)≤140737488355328)<|
   some (.inl ((IntKind.i64.wrap (v1+1)),(v2++ [y3.fKey])))
  else
   some (.inl ((IntKind.i64.wrap (v1+1)),v2))
 else
  some (.inr (some v2))
noncomputable def zbe (a0:zab) (a1:List UInt8) (a2:List zaa):Option (List (List UInt8)):=
 zat (fun s:Int × List (List UInt8)=>zaY a0 a1 a2 s.1 s.2) (0, [])
noncomputable def zf2 (a0:List UInt8) (a1:List UInt8):Option (Int):=
 (zaT a0 a1).bind fun v1=>
 some v1
noncomputable def zeC (v3:List UInt8) (v4:Int) (v5:List (List UInt8)):Option (List (List UInt8)):=
 (getI v5 v4).bind fun y6=>
 req (0≤(0:Int)∧(0:Int)≤(IntKind.i64.wrap (v4+1))∧(IntKind.i64.wrap (v4+1))≤((v5.set (v4).toNat v3).length:Int))<|
 some (zez (v5.set (v4).toNat v3) 0 (IntKind.i64.wrap (v4+1)))
noncomputable def zbI (a0:List UInt8) (a1:List UInt8) (a2:Int) (v2:Int) (v7:List UInt8) (v8:Int) (v9:List (List UInt8)):Option ((List UInt8 × Int × List (List UInt8)) ⊕ Option (List (List UInt8))):=
 if(decide (v8<(IntKind.i64.wrap ((bif (decide ((IntKind.i64.wrap ((a0.length:Int)+1))<v2))then(IntKind.i64.wrap ((a0.length:Int)+1))else v2)-1))))then
  (zf2 v7 a1).bind fun v10=>
  if(decide (v10<0))then
   some (.inr (zeC v7 v8 v9))
  else
   req (0≤(0:Int)∧(0:Int)≤(IntKind.i64.wrap (v10+a2))∧(IntKind.i64.wrap (v10+a2))≤(v7.length:Int))<|
   (getI v9 v8).bind fun y11=>
   req (0≤(IntKind.i64.wrap (v10+(a1.length:Int)))∧(IntKind.i64.wrap (v10+(a1.length:Int)))≤(v7.length:Int)∧(v7.length:Int)≤(v7.length:Int))<|
   some (.inl ((zez v7 (IntKind.i64.wrap (v10+(a1.length:Int))) (v7.length:Int)),(IntKind.i64.wrap (v8+1)),(v9.set (v8).toNat (zez v7 0 (IntKind.i64.wrap (v10+a2))))))
 else
  some (.inr (zeC v7 v8 v9))
noncomputable def zeJ (a0:List UInt8) (a1:List UInt8) (a2:Int) (v2:Int):Option (List (List UInt8)):=
 req (0≤(bif (decide ((IntKind.i64.wrap ((a0.length:Int)+1))<v2))then(IntKind.i64.wrap ((a0.length:Int)+1))else v2)∧(bif (decide ((IntKind.i64.wrap ((a0.length:Int)+1))<v2))then(IntKind.i64.wrap ((a0.length:Int)+1))else v2)*16≤140737488355328∧(bif (decide ((IntKind.i64.wrap ((a0.length:Int)+1))<v2))then(IntKind.i64.wrap ((a0.length:Int)+1))else v2)≤140737488355328)<|
 zat (fun s:List UInt8 × Int × List (List UInt8)=>zbI a0 a1 a2 v2 s.1 s.2.1 s.2.2) (a0,0,(List.replicate ((bif (decide ((IntKind.i64.wrap ((a0.length:Int)+1))<v2))then(IntKind.i64.wrap ((a0.length:Int)+1))else v2)).toNat ([]:List UInt8)))
noncomputable def zf8 (a0:List UInt8) (a1:List UInt8) (a2:Int) (a3:Int):Option (List (List UInt8)):=
 if(a3==0)then
  some []
 else
  if(a1==([]:List UInt8))then
   (zgH a0 a3).bind fun v1=>
   some v1
  else
   if(decide (a3<0))then
    (zfR a0 a1).bind fun v12=>
    zeJ a0 a1 a2 (IntKind.i64.wrap (v12+1))
   else
    zeJ a0 a1 a2 a3
noncomputable def zeM (a0:List UInt8) (a1:List UInt8):Option (List (List UInt8)):=
 (zf8 a0 a1 0 (-1)).bind fun v1=>
 some v1
noncomputable def zc5 (a0:List UInt8):Option (Bool):=
 (zei a0).bind fun v1=>
 some (!v1)
noncomputable def za5 (a0:zab) (a1:zbE):Option (Bool):=
 if((a1.fVals.length:Int)==(a0.fCols.length:Int))then
  (zaw a1.fVals (fun y0_=>zc5 y0_)).bind fun v1=>
  some (!v1)
 else
  some false
noncomputable def zaO (a0:zab) (a1:zbE):Option (zaa):=
 req ((a0.fName).length+(([47]:List UInt8)).length≤9223372036854775807)<|
 (getI a1.fVals 0).bind fun y1=>
 req (((a0.fName++([47]:List UInt8))).length+(y1).length≤9223372036854775807)<|
 req (0≤(1:Int)∧(1:Int)≤(a1.fVals.length:Int)∧(a1.fVals.length:Int)≤(a1.fVals.length:Int))<|
 (zg2 (zez a1.fVals 1 (a1.fVals.length:Int)) ([44]:List UInt8)).bind fun v2=>
 some (⟨((a0.fName++([47]:List UInt8))++y1),v2,false⟩:zaa)
noncomputable def zc1 (a0:zab) (a1:zaa):Option (zbE × Bool):=
 req ((a0.fName).length+(([47]:List UInt8)).length≤9223372036854775807)<|
 (zcY a1.fKey (a0.fName++([47]:List UInt8))).bind fun v1=>
 (zeM a1.fVal ([44]:List UInt8)).bind fun v2=>
 req (((([v1.1]:List (List UInt8)).length:Int)+((v2).length:Int))*16≤140737488355328∧(([v1.1]:List (List UInt8)).length:Int)+((v2).length:Int)≤140737488355328)<|
 if v1.2 then
  (za5 a0 (⟨([v1.1]++v2)⟩:zbE)).bind fun v3=>
  if v3 then
   (zaO a0 (⟨([v1.1]++v2)⟩:zbE)).bind fun v4=>
   if(!(a1.fKey==v4.fKey&&(a1.fVal==v4.fVal&&(a1.fGone==v4.fGone))))then
    some ((⟨[]⟩:zbE),false)
   else
    some ((⟨([v1.1]++v2)⟩:zbE),true)
  else
   some ((⟨[]⟩:zbE),false)
 else
  some ((⟨[]⟩:zbE),false)
noncomputable def za9 (a0:zab) (a1:List zaa) (v1:Int) (v2:List zbE):Option ((Int × List zbE) ⊕ Option (List zbE)):=
 if(decide (v1<(a1.length:Int)))then
  (getI a1 v1).bind fun y3=>
  (zc1 a0 y3).bind fun v4=>
  if v4.2 then
   req ((((v2).length:Int)+(([v4.1]:List zbE).length:Int))*24≤140737488355328∧((v2).length:Int)+(([v4.1]:List zbE).length:Int)≤140737488355328)<|
   some (.inl ((IntKind.i64.wrap (v1+1)),(v2++ [v4.1])))
  else
   some (.inl ((IntKind.i64.wrap (v1+1)),v2))
 else
  some (.inr (some v2))
noncomputable def zdb (a0:zab) (a1:List zaa):Option (List zbE):=
 zat (fun s:Int × List zbE=>za9 a0 a1 s.1 s.2) (0, [])
noncomputable def zaQ (a0:zab) (a1:List UInt8) (a2:zbE):Option (List UInt8):=
 (zb8 a0 a1).bind fun v1=>
 (zbR a0 a1).bind fun v2=>
 (getI a2.fVals v2.fCol).bind fun y3=>
 req ((v1).length+(y3).length≤9223372036854775807)<|
 req (((v1++y3)).length+(([47]:List UInt8)).length≤9223372036854775807)<|
 (getI a2.fVals 0).bind fun y4=>
 req ((((v1++y3)++([47]:List UInt8))).length+(y4).length≤9223372036854775807)<|
 some (((v1++y3)++([47]:List UInt8))++y4)
noncomputable def zba (a0:zab) (a1:List UInt8) (v1:List zbE) (v2:Int) (v3:List (List UInt8)):Option ((Int × List (List UInt8)) ⊕ Option (List (List UInt8))):=
 if(decide (v2<(v1.length:Int)))then
  (getI v1 v2).bind fun y4=>
  (zaQ a0 a1 y4).bind fun v5=>
  req ((((v3).length:Int)+(([v5]:List (List UInt8)).length:Int))*16≤140737488355328∧((v3).length:Int)+(([v5]:List (List UInt8)).length:Int)≤140737488355328)<|
  some (.inl ((IntKind.i64.wrap (v2+1)),(v3++ [v5])))
 else
  some (.inr (some v3))
noncomputable def zcl (a0:zab) (a1:List UInt8) (a2:List zaa):Option (List (List UInt8)):=
 (zdb a0 a2).bind fun v1=>
 zat (fun s:Int × List (List UInt8)=>zba a0 a1 v1 s.1 s.2) (0, [])
noncomputable def zhq (a0:List UInt8) (a1:List (List UInt8)):Option (Bool):=
 (zaL a1 a0).bind fun v1=>
 some v1
noncomputable def zfe (a0:List (List UInt8)) (a1:List (List UInt8)):Option (List (List UInt8)):=
 (zaX a0).bind fun v1=>
 (zdM v1 (fun y0_=>zhq y0_ a1)).bind fun v2=>
 some v2
noncomputable def zct (a0:zab) (a1:List UInt8) (a2:List zaa):Option (List (List UInt8)):=
 (zbe a0 a1 a2).bind fun v1=>
 (zcl a0 a1 a2).bind fun v2=>
 (zfe v1 v2).bind fun v3=>
 some v3
noncomputable def zen (a0:zab) (a1:List UInt8) (a2:List zaa):Option (List (List UInt8)):=
 (zcl a0 a1 a2).bind fun v1=>
 (zbe a0 a1 a2).bind fun v2=>
 (zfe v1 v2).bind fun v3=>
 some v3
noncomputable def zb7 (a0:zab) (a1:List UInt8) (a2:Int) (a3:List zaa):Option (Bool):=
 if(a2==0)then
  (zbe a0 a1 a3).bind fun v1=>
  some ((v1.length:Int)==0)
 else
  if(a2==1)then
   (zct a0 a1 a3).bind fun v2=>
   some ((v2.length:Int)==0)
  else
   (zct a0 a1 a3).bind fun v3=>
   if((v3.length:Int)==0)then
    (zen a0 a1 a3).bind fun v4=>
    some ((v4.length:Int)==0)
   else
    some false
noncomputable def zkw (a0:zaI):Option (Bool):=
 (getI a0.fWays 0).bind fun y1=>
 (zmo a0).bind fun v2=>
 (zb7 y1 a0.fName v2 a0.fStore).bind fun v3=>
 some v3
noncomputable def zkB (a0:za2):Option (Bool):=
 if(a0.fLast==([]:List UInt8))then
  some true
 else
  (zfa a0.fLast).bind fun v1=>
  some v1
noncomputable def zkV (a0:zbN):Option (Bool):=
 (zpd a0.fShift).bind fun v1=>
 if v1 then
  (zkB a0.fUp).bind fun v2=>
  if v2 then
   (zkB a0.fDown).bind fun v3=>
   some v3
  else
   some false
 else
  some false
noncomputable def zbS (a0:zab) (a1:zaj):Option (Bool):=
 if(a1.fKind==1)then
  if((a1.fOld.fVals.length:Int)==0)then
   (za5 a0 a1.fNew).bind fun v1=>
   some v1
  else
   some false
 else
  if(a1.fKind==2)then
   (za5 a0 a1.fOld).bind fun v2=>
   some (v2&&((a1.fNew.fVals.length:Int)==0))
  else
   if(a1.fKind==3)then
    (za5 a0 a1.fOld).bind fun v3=>
    if v3 then
     (za5 a0 a1.fNew).bind fun v4=>
     if v4 then
      (getI a1.fOld.fVals 0).bind fun y5=>
      (getI a1.fNew.fVals 0).bind fun y6=>
      some (y5==y6)
     else
      some false
    else
     some false
   else
    some false
noncomputable def zjz (a0:zaj):Option (Bool):=
 some (((a0.fKind==0)&&((a0.fOld.fVals.length:Int)==0))&&((a0.fNew.fVals.length:Int)==0))
noncomputable def ziA (a0:zaI) (a1:zd7):Option (Bool):=
 (zao a1.fServer 0 (IntKind.i64.wrap ((a0.fAt.length:Int)-1))).bind fun v1=>
 if(!v1)then
  some false
 else
  if(a1.fStep==0)then
   (zbZ a0 a1.fServer).bind fun v2=>
   (zbS v2 a1.fAct).bind fun v3=>
   some v3
  else
   if(a1.fStep==1)then
    (zjz a1.fAct).bind fun v4=>
    some v4
   else
    if(a1.fStep==(-1))then
     (zjz a1.fAct).bind fun v5=>
     some v5
    else
     some false
noncomputable def ze1 (a1:zdr) (v2:Bool):Option (Bool):=
 if v2 then
  (zao a1.fMany 1 24).bind fun v3=>
  if v3 then
   if(a1.fAct.fServer==0)then
    if(a1.fAct.fStep==0)then
     (zjz a1.fAct.fAct).bind fun v4=>
     some v4
    else
     some false
   else
    some false
  else
   some false
 else
  some false
noncomputable def zjm (a0:zbN) (a1:zdr):Option (Bool):=
 if(a1.fKind==1)then
  if(a1.fMany==0)then
   (ziA a0.fShift a1.fAct).bind fun v1=>
   some v1
  else
   some false
 else
  if(a1.fKind==2)then
   ze1 a1 (a1.fKind==2)
  else
   ze1 a1 (a1.fKind==3)
noncomputable def zh8 (a0:zbN) (a1:zdr):Option (Bool):=
 (zkV a0).bind fun v1=>
 if v1 then
  (zjm a0 a1).bind fun v2=>
  some v2
 else
  some false
noncomputable def ziv (xs:List Int):Option (List Int):=zjH 8 xs
noncomputable def zmw (a0:zaI) (v1:List Int) (v2:List zaa) (v3:Int) (v4:List zab):Option ((Int × List zab) ⊕ Option (zaI)):=
 if(decide (v3<(a0.fWays.length:Int)))then
  (getI a0.fWays v3).bind fun y5=>
  (zc9 y5).bind fun v6=>
  req ((((v4).length:Int)+(([v6]:List zab).length:Int))*64≤140737488355328∧((v4).length:Int)+(([v6]:List zab).length:Int)≤140737488355328)<|
  some (.inl ((IntKind.i64.wrap (v3+1)),(v4++ [v6])))
 else
  some (.inr (some (⟨a0.fName,v4,v1,v2⟩:zaI)))
noncomputable def zjV (a0:zaI):Option (zaI):=
 (ziv a0.fAt).bind fun v1=>
 (zaF a0.fStore).bind fun v2=>
 zat (fun s:Int × List zab=>zmw a0 v1 v2 s.1 s.2) (0, [])
noncomputable def zkq (a0:zbN):Option (zbN):=
 (zjV a0.fShift).bind fun v1=>
 some (⟨v1,a0.fUp,a0.fDown⟩:zbN)
noncomputable def zaD (a0:Int) (a1:zaa) (a2:List DOp):Option (Unit × List DOp):=
 req ((((a2).length:Int)+(([(⟨a0,a1.fKey,a1.fVal,0⟩:DOp)]:List DOp).length:Int))*48≤140737488355328∧((a2).length:Int)+(([(⟨a0,a1.fKey,a1.fVal,0⟩:DOp)]:List DOp).length:Int)≤140737488355328)<|
 some ((),(a2++ [(⟨a0,a1.fKey,a1.fVal,0⟩:DOp)]))
noncomputable def ziB (a0:Int):Option (Bool):=
 some (decide (a0≥1))
noncomputable def zeh (a0:Int):Option (Bool):=
 some (decide (a0≥2))
noncomputable def zbd (v9:Int) (y11:zbs) (v13:List UInt8) (v14:List DOp):Option ((Int × List DOp) ⊕ Option (List DOp)):=
 if(v13 !=([]:List UInt8))then
  (zeh y11.fStage).bind fun v15=>
  if v15 then
   (zaD 2 (⟨v13,([]:List UInt8),false⟩:zaa) v14).bind fun v16=>
   some (.inl ((IntKind.i64.wrap (v9+1)),v16.2))
  else
   some (.inl ((IntKind.i64.wrap (v9+1)),v14))
 else
  some (.inl ((IntKind.i64.wrap (v9+1)),v14))
noncomputable def zaW (v9:Int) (v10:List DOp) (y11:zbs) (v12:List UInt8) (v13:List UInt8):Option ((Int × List DOp) ⊕ Option (List DOp)):=
 if(v12 !=([]:List UInt8))then
  if(v12 !=v13)then
   (ziB y11.fStage).bind fun v17=>
   if v17 then
    (zaD 3 (⟨v12,([]:List UInt8),false⟩:zaa) v10).bind fun v18=>
    zbd v9 y11 v13 v18.2
   else
    zbd v9 y11 v13 v10
  else
   zbd v9 y11 v13 v10
 else
  zbd v9 y11 v13 v10
noncomputable def zdE (a0:zab) (a1:zaj) (v9:Int) (v10:List DOp) (y11:zbs) (v12:List UInt8):Option ((Int × List DOp) ⊕ Option (List DOp)):=
 if(a1.fKind !=2)then
  (zaQ a0 y11.fName a1.fNew).bind fun v19=>
  zaW v9 v10 y11 v12 v19
 else
  zaW v9 v10 y11 v12 ([]:List UInt8)
noncomputable def zbb (a0:zab) (a1:zaj) (v9:Int) (v10:List DOp):Option ((Int × List DOp) ⊕ Option (List DOp)):=
 if(decide (v9<(a0.fIdxs.length:Int)))then
  (getI a0.fIdxs v9).bind fun y11=>
  zvi (σ:=List UInt8) (
   if(a1.fKind !=1)then
    (zaQ a0 y11.fName a1.fOld).bind fun v20=>
    some (.inl v20)
   else
    some (.inl ([]:List UInt8))
  ) (fun s=>zdE a0 a1 v9 v10 y11 s)
 else
  some (.inr (some v10))
noncomputable def zbc (a0:zab) (a1:zaj) (v8:List DOp):Option (List DOp):=
 zat (fun s:Int × List DOp=>zbb a0 a1 s.1 s.2) (0,v8)
noncomputable def zbJ (a0:zab) (a1:zaj) (v1:List UInt8) (v4:List DOp) (v5:List UInt8) (v6:List UInt8) (v7:Bool):Option (List DOp):=
 if(a1.fKind==1)then
  (zaD 6 (⟨v5,([]:List UInt8),false⟩:zaa) v4).bind fun v21=>
  (zaD 2 (⟨v5,v6,v7⟩:zaa) v21.2).bind fun v22=>
  zbc a0 a1 v22.2
 else
  if(a1.fKind==2)then
   (zaD 3 (⟨v1,([]:List UInt8),false⟩:zaa) v4).bind fun v23=>
   zbc a0 a1 v23.2
  else
   if(a1.fKind==3)then
    (zaD 2 (⟨v5,v6,v7⟩:zaa) v4).bind fun v24=>
    zbc a0 a1 v24.2
   else
    zbc a0 a1 v4
noncomputable def zaV (a0:zab) (a1:zaj) (v1:List UInt8) (v2:List UInt8) (v3:Bool) (v4:List DOp):Option (List DOp):=
 if(a1.fKind !=2)then
  (zaO a0 a1.fNew).bind fun v25=>
  zbJ a0 a1 v1 v4 v25.fKey v25.fVal v25.fGone
 else
  zbJ a0 a1 v1 v4 ([]:List UInt8) ([]:List UInt8) false
noncomputable def zco (a0:zab) (a1:zaj):Option (List DOp):=
 zvi (σ:=List UInt8 × List UInt8 × Bool × List DOp) (
  if(a1.fKind !=1)then
   (zaO a0 a1.fOld).bind fun v26=>
   (zaD 7 v26 ([]:List DOp)).bind fun v27=>
   some (.inl (v26.fKey,v26.fVal,v26.fGone,v27.2))
  else
   some (.inl (([]:List UInt8),([]:List UInt8),false, []))
 ) (fun s=>zaV a0 a1 s.1 s.2.1 s.2.2.1 s.2.2.2)
noncomputable def zaA (a0:List zaa) (a1:List UInt8) (a2:zaa→(List UInt8)→Option Int) (v1:Int):Option (Int × Bool):=
 if(decide (v1<(a0.length:Int)))then
  (getI a0 v1).bind fun y2=>
  (a2 y2 a1).bind fun v3=>
  some (v1,(v3==0))
 else
  some (v1,false)
noncomputable def zag (a0:List zaa) (a1:List UInt8) (a2:zaa→(List UInt8)→Option Int) (v4:Int) (v5:Int):Option ((Int × Int) ⊕ Option (Int × Bool)):=
 if(decide (v4<v5))then
  (getI a0 (IntKind.i64.wrap (Int.fdiv (IntKind.u64.wrap (IntKind.i64.wrap (v4+v5))) (2^(min ((1:Int)).toNat (IntKind.bits .u64)))))).bind fun y6=>
  (a2 y6 a1).bind fun v7=>
  if(decide (v7<0))then
   some (.inl ((IntKind.i64.wrap ((IntKind.i64.wrap (Int.fdiv (IntKind.u64.wrap (IntKind.i64.wrap (v4+v5))) (2^(min ((1:Int)).toNat (IntKind.bits .u64)))))+1)),v5))
  else
   some (.inl (v4,(IntKind.i64.wrap (Int.fdiv (IntKind.u64.wrap (IntKind.i64.wrap (v4+v5))) (2^(min ((1:Int)).toNat (IntKind.bits .u64)))))))
 else
  some (.inr (zaA a0 a1 a2 v4))
noncomputable def zaE (a0:List zaa) (a1:List UInt8) (a2:zaa→(List UInt8)→Option Int):Option (Int × Bool):=
 zat (fun s:Int × Int=>zag a0 a1 a2 s.1 s.2) (0,(a0.length:Int))
noncomputable def zcV (a0:List UInt8):Option (Bool):=
 some (a0 !=a0)
noncomputable def zdd (a0:List UInt8) (a1:List UInt8):Option (Int):=
 (zcV a0).bind fun v1=>
 (zcV a1).bind fun v2=>
 if v1 then
  if v2 then
   some 0
  else
   some (-1)
 else
  if v2 then
   some 1
  else
   if(Op.bytesLess a0 a1)then
    some (-1)
   else
    if(!(Op.bytesLess a0 a1||a0==a1))then
     some 1
    else
     some 0
noncomputable def zcw (a0:zaa) (a1:List UInt8):Option (Int):=
 (zdd a0.fKey a1).bind fun v1=>
 some v1
noncomputable def zb1 (a0:List zaa) (a1:List UInt8):Option (Int × Bool):=
 (zaE a0 a1 (fun y0_ y1_=>zcw y0_ y1_)).bind fun v1=>
 some (v1.1,v1.2)
noncomputable def zcZ (a0:List zaa) (a1:zaa):Option (List zaa):=
 (zb1 a0 a1.fKey).bind fun v1=>
 if v1.2 then
  (getI a0 v1.1).bind fun y2=>
  some (a0.set (v1.1).toNat a1)
 else
  (zpu a0 v1.1 ([a1]:List zaa)).bind fun v3=>
  some v3
noncomputable def zcP (a0:List UInt8) (a2:List zgp) (v3:Int):Option ((Int) ⊕ Option (List UInt8 × Bool × Bool)):=
 if(decide (v3<(a2.length:Int)))then
  (getI a2 v3).bind fun y4=>
  if(y4.fKey==a0)then
   some (.inr (some (y4.fVal,y4.fThere,true)))
  else
   some (.inl (IntKind.i64.wrap (v3+1)))
 else
  some (.inr (some (([]:List UInt8),false,false)))
noncomputable def zgQ (a0:List UInt8) (a1:List zaa) (a2:List zgp):Option (List UInt8 × Bool × Bool):=
 (zb1 a1 a0).bind fun v1=>
 if v1.2 then
  (getI a1 v1.1).bind fun y2=>
  some (y2.fVal,(!y2.fGone),true)
 else
  zat (fun s:Int=>zcP a0 a2 s) 0
noncomputable def zeF (a0:List UInt8):Option (Int × Bool):=
 (zgV a0 (-999999) 999999).bind fun v1=>
 some (v1.1,v1.2)
noncomputable def zeR (a0:DOp) (a1:List UInt8) (a2:Bool):Option (Bool):=
 (zeF a1).bind fun v1=>
 if(a0.fKind==4)then
  if v1.2 then
   if a2 then
    (zao (IntKind.i64.wrap (v1.1+a0.fBy)) (-999999) 999999).bind fun v2=>
    some v2
   else
    some true
  else
   some ((!a2)||false)
 else
  if(a0.fKind==5)then
   some ((a2&&v1.2)&&(decide (v1.1≥a0.fBy)))
  else
   if(a0.fKind==6)then
    some (!a2)
   else
    if(a0.fKind==7)then
     some (a2&&(a1==a0.fVal))
    else
     some true
noncomputable def zaH (a0:List DOp) (a1:List zgp) (v1:Int) (v2:List zaa):Option ((Int × List zaa) ⊕ Option (Int × List UInt8 × List zaa)):=
 if(decide (v1<(a0.length:Int)))then
  (getI a0 v1).bind fun y3=>
  if(y3.fKind==2)then
   (zcZ v2 (⟨y3.fKey,y3.fVal,false⟩:zaa)).bind fun v4=>
   some (.inl ((IntKind.i64.wrap (v1+1)),v4))
  else
   if(y3.fKind==3)then
    (zcZ v2 (⟨y3.fKey,([]:List UInt8),true⟩:zaa)).bind fun v5=>
    some (.inl ((IntKind.i64.wrap (v1+1)),v5))
   else
    (zgQ y3.fKey v2 a1).bind fun v6=>
    if(!v6.2.2)then
     some (.inr (some (1,y3.fKey, [])))
    else
     (zeR y3 v6.1 v6.2.1).bind fun v7=>
     if(!v7)then
      some (.inr (some (2,([]:List UInt8), [])))
     else
      if(y3.fKind==4)then
       (zeF v6.1).bind fun v8=>
       (zis (IntKind.i64.wrap (v8.1+y3.fBy))).bind fun v9=>
       (zcZ v2 (⟨y3.fKey,v9,false⟩:zaa)).bind fun v10=>
       some (.inl ((IntKind.i64.wrap (v1+1)),v10))
      else
       some (.inl ((IntKind.i64.wrap (v1+1)),v2))
 else
  some (.inr (some (3,([]:List UInt8),v2)))
noncomputable def zir (a0:List DOp) (a1:List zgp):Option (Int × List UInt8 × List zaa):=
 zat (fun s:Int × List zaa=>zaH a0 a1 s.1 s.2) (0, [])
noncomputable def zii (a0:List zaa) (a1:List UInt8):Option (zgp):=
 (zb1 a0 a1).bind fun v1=>
 if(!v1.2)then
  some (⟨a1,([]:List UInt8),false⟩:zgp)
 else
  (getI a0 v1.1).bind fun y2=>
  some (⟨a1,y2.fVal,true⟩:zgp)
noncomputable def zbX (a0:List zaa) (a1:List DOp) (v1:List zgp):Option ((List zgp) ⊕ Option (List zgp × List zaa × Bool)):=
 (zir a1 v1).bind fun v2=>
 if(v2.1 !=1)then
  some (.inr (some (v1,v2.2.2,(v2.1==3))))
 else
  (zii a0 v2.2.1).bind fun v3=>
  req ((((v1).length:Int)+(([v3]:List zgp).length:Int))*40≤140737488355328∧((v1).length:Int)+(([v3]:List zgp).length:Int)≤140737488355328)<|
  some (.inl (v1++ [v3]))
noncomputable def zh0 (a0:List zaa) (a1:List DOp):Option (List zgp × List zaa × Bool):=
 zat (fun s:List zgp=>zbX a0 a1 s) []
noncomputable def zhl (a0:zaa):Option (Bool):=
 some a0.fGone
noncomputable def zgM (v2:List zaa):Option (List zaa × Bool):=
 (zdM v2 (fun y0_=>zhl y0_)).bind fun v3=>
 if(decide ((v3.length:Int)>24))then
  some ([],false)
 else
  some (v3,true)
noncomputable def zcQ (a1:List zaa) (v4:Int) (v5:List zaa):Option ((Int × List zaa) ⊕ Option (List zaa × Bool)):=
 if(decide (v4<(a1.length:Int)))then
  (getI a1 v4).bind fun y6=>
  (zcZ v5 y6).bind fun v7=>
  some (.inl ((IntKind.i64.wrap (v4+1)),v7))
 else
  some (.inr (zgM v5))
noncomputable def zg0 (a0:List zaa) (a1:List zaa):Option (List zaa × Bool):=
 (zaF a0).bind fun v1=>
 zat (fun s:Int × List zaa=>zcQ a1 s.1 s.2) (0,v1)
noncomputable def zeU (a0:List zaa) (a1:List DOp):Option (List zaa × Bool):=
 (zh0 a0 a1).bind fun v1=>
 (zg0 a0 v1.2.1).bind fun v2=>
 if((!v1.2.2)||(!v2.2))then
  req (((([]:List zaa).length:Int)+((a0).length:Int))*40≤140737488355328∧(([]:List zaa).length:Int)+((a0).length:Int)≤140737488355328)<|
  some (a0,false)
 else
  some (v2.1,true)
noncomputable def zfx (a0:zaI) (a1:zd7):Option (zaI × Bool):=
 (zjV a0).bind fun v1=>
 if(a1.fStep !=0)then
  (getI a0.fAt a1.fServer).bind fun y2=>
  (zao (IntKind.i64.wrap (y2+a1.fStep)) 0 (IntKind.i64.wrap ((a0.fWays.length:Int)-1))).bind fun v3=>
  if(!v3)then
   some (v1,false)
  else
   (getI v1.fAt a1.fServer).bind fun y4=>
   some ((⟨v1.fName,v1.fWays,(v1.fAt.set (a1.fServer).toNat (IntKind.i64.wrap (y2+a1.fStep))),v1.fStore⟩:zaI),true)
 else
  (zbZ a0 a1.fServer).bind fun v5=>
  (zco v5 a1.fAct).bind fun v6=>
  (zeU a0.fStore v6).bind fun v7=>
  some ((⟨v1.fName,v1.fWays,v1.fAt,v7.1⟩:zaI),v7.2)
noncomputable def zh4 (a0:List Int) (v2:Int) (v3:Int):Option ((Int × Int) ⊕ Option (Int)):=
 if(decide (v3<(a0.length:Int)))then
  (getI a0 v3).bind fun y4=>
  some (.inl ((bif (decide (y4>v2))then y4 else v2),(IntKind.i64.wrap (v3+1))))
 else
  some (.inr (some v2))
noncomputable def zjq (a0:List Int):Option (Int):=
 if(decide ((a0.length:Int)<1))then
  none
 else
  (getI a0 0).bind fun y1=>
  zat (fun s:Int × Int=>zh4 a0 s.1 s.2) (y1,1)
noncomputable def zh3 (a0:List Int) (v2:Int) (v3:Int):Option ((Int × Int) ⊕ Option (Int)):=
 if(decide (v3<(a0.length:Int)))then
  (getI a0 v3).bind fun y4=>
  some (.inl ((bif (decide (y4<v2))then y4 else v2),(IntKind.i64.wrap (v3+1))))
 else
  some (.inr (some v2))
noncomputable def zjD (a0:List Int):Option (Int):=
 if(decide ((a0.length:Int)<1))then
  none
 else
  (getI a0 0).bind fun y1=>
  zat (fun s:Int × Int=>zh3 a0 s.1 s.2) (y1,1)
noncomputable def zjc (a0:zaI):Option (Bool):=
 (zjq a0.fAt).bind fun v1=>
 (zjD a0.fAt).bind fun v2=>
 some (decide ((IntKind.i64.wrap (v1-v2))≤1))
noncomputable def zna (a0:zaI) (a1:zd7):Option (Bool):=
 (zfx a0 a1).bind fun v1=>
 if v1.2 then
  (zjc v1.1).bind fun v2=>
  if v2 then
   (zkw v1.1).bind fun v3=>
   some v3
  else
   some false
 else
  some false
noncomputable def zkg (a0:zbN) (a1:zd7):Option (zbN × Bool):=
 (zkq a0).bind fun v1=>
 if(a1.fStep !=0)then
  (zna a0.fShift a1).bind fun v2=>
  if(!v2)then
   some (v1,false)
  else
   (zfx a0.fShift a1).bind fun v3=>
   if(!v3.2)then
    some (v1,false)
   else
    if(a1.fStep==0)then
     (zbZ a0.fShift a1.fServer).bind fun v4=>
     (zb6 a0.fShift v4).bind fun v5=>
     (zeh v5).bind fun v6=>
     if v6 then
      some ((⟨v3.1,(⟨v1.fUp.fLast,v1.fUp.fOver⟩:za2),(⟨([]:List UInt8),false⟩:za2)⟩:zbN),true)
     else
      some ((⟨v3.1,(⟨([]:List UInt8),false⟩:za2),(⟨v1.fDown.fLast,v1.fDown.fOver⟩:za2)⟩:zbN),true)
    else
     some ((⟨v3.1,(⟨v1.fUp.fLast,v1.fUp.fOver⟩:za2),(⟨v1.fDown.fLast,v1.fDown.fOver⟩:za2)⟩:zbN),true)
 else
  (zfx a0.fShift a1).bind fun v7=>
  if(!v7.2)then
   some (v1,false)
  else
   if(a1.fStep==0)then
    (zbZ a0.fShift a1.fServer).bind fun v8=>
    (zb6 a0.fShift v8).bind fun v9=>
    (zeh v9).bind fun v10=>
    if v10 then
     some ((⟨v7.1,(⟨v1.fUp.fLast,v1.fUp.fOver⟩:za2),(⟨([]:List UInt8),false⟩:za2)⟩:zbN),true)
    else
     some ((⟨v7.1,(⟨([]:List UInt8),false⟩:za2),(⟨v1.fDown.fLast,v1.fDown.fOver⟩:za2)⟩:zbN),true)
   else
    some ((⟨v7.1,(⟨v1.fUp.fLast,v1.fUp.fOver⟩:za2),(⟨v1.fDown.fLast,v1.fDown.fOver⟩:za2)⟩:zbN),true)
noncomputable def zhi (a0:zbN) (v1:Int) (v2:Int):Option ((Int × Int) ⊕ Option (Int)):=
 if(decide (v2<(a0.fShift.fAt.length:Int)))then
  (zbZ a0.fShift v2).bind fun v3=>
  (zb6 a0.fShift v3).bind fun v4=>
  (zeh v4).bind fun v5=>
  if v5 then
   some (.inl ((IntKind.i64.wrap (v1+1)),(IntKind.i64.wrap (v2+1))))
  else
   some (.inl (v1,(IntKind.i64.wrap (v2+1))))
 else
  some (.inr (some v1))
noncomputable def zcX (a0:zbN):Option (Int):=
 zat (fun s:Int × Int=>zhi a0 s.1 s.2) (0,0)
noncomputable def zj2 (a0:zab) (a1:List UInt8) (a2:zbE):Option (List DOp):=
 (zaO a0 a2).bind fun v1=>
 (zaQ a0 a1 a2).bind fun v2=>
 some [(⟨7,v1.fKey,v1.fVal,0⟩:DOp),(⟨2,v2,([]:List UInt8),0⟩:DOp)]
noncomputable def zjO (a0:zab) (a1:List UInt8) (v1:List zbE) (v2:Int) (v3:List zfh):Option ((Int × List zfh) ⊕ Option (List zfh)):=
 if(decide (v2<(v1.length:Int)))then
  (getI v1 v2).bind fun y4=>
  (zaO a0 y4).bind fun v5=>
  (zj2 a0 a1 y4).bind fun v6=>
  req ((((v3).length:Int)+(([(⟨v5.fKey,v6⟩:zfh)]:List zfh).length:Int))*40≤140737488355328∧((v3).length:Int)+(([(⟨v5.fKey,v6⟩:zfh)]:List zfh).length:Int)≤140737488355328)<|
  some (.inl ((IntKind.i64.wrap (v2+1)),(v3++ [(⟨v5.fKey,v6⟩:zfh)])))
 else
  some (.inr (some v3))
noncomputable def zlq (a0:zab) (a1:List UInt8) (a2:List zaa):Option (List zfh):=
 (zdb a0 a2).bind fun v1=>
 zat (fun s:Int × List zfh=>zjO a0 a1 v1 s.1 s.2) (0, [])
noncomputable def ze4 (xs:List zfh):Option (List zfh):=zjH 40 xs
noncomputable def zrC (a0:zfh) (a1:za2):Option (Bool):=
 some (Op.bytesLess a0.fkey a1.fLast||a0.fkey==a1.fLast)
noncomputable def zkF (a2:za2) (v2:List zfh) (v3:List zaa) (v4:Int) (v5:List UInt8):Option (List zaa × za2):=
 (zaF v3).bind fun v6=>
 some (v6,(⟨v5,(a2.fOver||(v4==(v2.length:Int)))⟩:za2))
noncomputable def zqN (a2:za2) (a3:Int) (v2:List zfh) (v7:List zaa) (v8:Int) (v9:List UInt8):Option ((List zaa × Int × List UInt8) ⊕ Option (List zaa × za2)):=
 if(decide (v8<(bif (decide ((v2.length:Int)<a3))then(v2.length:Int)else a3)))then
  (getI v2 v8).bind fun y10=>
  (zeU v7 y10.fops).bind fun v11=>
  if(!v11.2)then
   some (.inr (zkF a2 v2 v7 v8 v9))
  else
   some (.inl (v11.1,(IntKind.i64.wrap (v8+1)),y10.fkey))
 else
  some (.inr (zkF a2 v2 v7 v8 v9))
noncomputable def zkO (a0:List zfh) (a1:List zaa) (a2:za2) (a3:Int):Option (List zaa × za2):=
 (ze4 a0).bind fun v1=>
 (zdM v1 (fun y0_=>zrC y0_ a2)).bind fun v2=>
 zat (fun s:List zaa × Int × List UInt8=>zqN a2 a3 v2 s.1 s.2.1 s.2.2) (a1,0,a2.fLast)
noncomputable def zi8 (v1:List (List UInt8)) (v2:Int) (v3:List zfh):Option ((Int × List zfh) ⊕ Option (List zfh)):=
 if(decide (v2<(v1.length:Int)))then
  (getI v1 v2).bind fun y4=>
  req ((((v3).length:Int)+(([(⟨y4, [(⟨3,y4,([]:List UInt8),0⟩:DOp)]⟩:zfh)]:List zfh).length:Int))*40≤140737488355328∧((v3).length:Int)+(([(⟨y4, [(⟨3,y4,([]:List UInt8),0⟩:DOp)]⟩:zfh)]:List zfh).length:Int)≤140737488355328)<|
  some (.inl ((IntKind.i64.wrap (v2+1)),(v3++ [(⟨y4, [(⟨3,y4,([]:List UInt8),0⟩:DOp)]⟩:zfh)])))
 else
  some (.inr (some v3))
noncomputable def zhf (a0:zab) (a1:List UInt8) (a2:List zaa):Option (List zfh):=
 (zbe a0 a1 a2).bind fun v1=>
 zat (fun s:Int × List zfh=>zi8 v1 s.1 s.2) (0, [])
noncomputable def znx (a0:zbN) (a1:zdr):Option (zbN × Bool):=
 if(a1.fKind==1)then
  (zkg a0 a1.fAct).bind fun v1=>
  some (v1.1,v1.2)
 else
  (zkq a0).bind fun v2=>
  if(a1.fKind==2)then
   (zcX a0).bind fun v3=>
   if(v3==(a0.fShift.fAt.length:Int))then
    (getI a0.fShift.fWays 0).bind fun y4=>
    (zlq y4 a0.fShift.fName a0.fShift.fStore).bind fun v5=>
    (zkO v5 a0.fShift.fStore a0.fUp a1.fMany).bind fun v6=>
    some ((⟨(⟨v2.fShift.fName,v2.fShift.fWays,v2.fShift.fAt,v6.1⟩:zaI),(⟨v6.2.fLast,v6.2.fOver⟩:za2),(⟨([]:List UInt8),false⟩:za2)⟩:zbN),true)
   else
    if(a1.fKind==3)then
     (zcX a0).bind fun v7=>
     if(v7==0)then
      (getI a0.fShift.fWays 0).bind fun y8=>
      (zhf y8 a0.fShift.fName a0.fShift.fStore).bind fun v9=>
      (zkO v9 a0.fShift.fStore a0.fDown a1.fMany).bind fun v10=>
      some ((⟨(⟨v2.fShift.fName,v2.fShift.fWays,v2.fShift.fAt,v10.1⟩:zaI),(⟨([]:List UInt8),false⟩:za2),(⟨v10.2.fLast,v10.2.fOver⟩:za2)⟩:zbN),true)
     else
      some (v2,false)
    else
     some (v2,false)
  else
   if(a1.fKind==3)then
    (zcX a0).bind fun v11=>
    if(v11==0)then
     (getI a0.fShift.fWays 0).bind fun y12=>
     (zhf y12 a0.fShift.fName a0.fShift.fStore).bind fun v13=>
     (zkO v13 a0.fShift.fStore a0.fDown a1.fMany).bind fun v14=>
     some ((⟨(⟨v2.fShift.fName,v2.fShift.fWays,v2.fShift.fAt,v14.1⟩:zaI),(⟨([]:List UInt8),false⟩:za2),(⟨v14.2.fLast,v14.2.fOver⟩:za2)⟩:zbN),true)
    else
     some (v2,false)
   else
    some (v2,false)
noncomputable def zqz (a0:zbN) (a1:zdr):Option (zbN × Bool × Bool):=
 (zh8 a0 a1).bind fun v1=>
 if(!v1)then
  some ((⟨(⟨([]:List UInt8), [], [], []⟩:zaI),(⟨([]:List UInt8),false⟩:za2),(⟨([]:List UInt8),false⟩:za2)⟩:zbN),false,false)
 else
  (znx a0 a1).bind fun v2=>
  some (v2.1,v2.2,true)
noncomputable def zeV (a0:zab) (a1:List UInt8) (a2:List zaa):Option (Bool):=
 (zeX a0 a1).bind fun v1=>
 if v1 then
  (zeY a2).bind fun v2=>
  some v2
 else
  some false
noncomputable def zlx (a0:zab) (v1:List zbE) (v2:List (List UInt8)) (v3:Int):Option ((List (List UInt8) × Int) ⊕ Option (List (List UInt8))):=
 if(decide (v3<(v1.length:Int)))then
  (getI v1 v3).bind fun y4=>
  (zbh a0 y4).bind fun v5=>
  req ((((v2).length:Int)+(([v5.fKey]:List (List UInt8)).length:Int))*16≤140737488355328∧((v2).length:Int)+(([v5.fKey]:List (List UInt8)).length:Int)≤140737488355328)<|
  some (.inl ((v2++ [v5.fKey]),(IntKind.i64.wrap (v3+1))))
 else
  some (.inr (some v2))
noncomputable def znL (a0:zab) (a1:List zaa):Option (List (List UInt8)):=
 (zdi a0 a1).bind fun v1=>
 zat (fun s:List (List UInt8) × Int=>zlx a0 v1 s.1 s.2) ([],0)
noncomputable def zfD (a0:zab) (a1:List UInt8) (a2:List UInt8):Option (List UInt8 × List UInt8 × Bool):=
 (zdl a2 47).bind fun v1=>
 if((v1.length:Int) !=3)then
  some (([]:List UInt8),([]:List UInt8),false)
 else
  (getI v1 0).bind fun y2=>
  req ((a0.fName).length+(([46]:List UInt8)).length≤9223372036854775807)<|
  req (((a0.fName++([46]:List UInt8))).length+(a1).length≤9223372036854775807)<|
  if(y2 !=((a0.fName++([46]:List UInt8))++a1))then
   some (([]:List UInt8),([]:List UInt8),false)
  else
   (getI v1 1).bind fun y3=>
   (zdD y3).bind fun v4=>
   if v4 then
    (getI v1 2).bind fun y5=>
    (zdD y5).bind fun v6=>
    if(!v6)then
     some (([]:List UInt8),([]:List UInt8),false)
    else
     some (y3,y5,true)
   else
    some (([]:List UInt8),([]:List UInt8),false)
noncomputable def zb0 (a0:zab) (a1:List UInt8) (a2:List zaa) (v1:List (List UInt8)) (v2:Int):Option ((List (List UInt8) × Int) ⊕ Option (List (List UInt8))):=
 if(decide (v2<(a2.length:Int)))then
  (getI a2 v2).bind fun y3=>
  (zfD a0 a1 y3.fKey).bind fun v4=>
  if v4.2.2 then
   req ((((v1).length:Int)+(([y3.fKey]:List (List UInt8)).length:Int))*16≤140737488355328∧((v1).length:Int)+(([y3.fKey]:List (List UInt8)).length:Int)≤140737488355328)<|
   some (.inl ((v1++ [y3.fKey]),(IntKind.i64.wrap (v2+1))))
  else
   some (.inl (v1,(IntKind.i64.wrap (v2+1))))
 else
  some (.inr (some v1))
noncomputable def zcN (a0:zab) (a1:List UInt8) (a2:List zaa):Option (List (List UInt8)):=
 zat (fun s:List (List UInt8) × Int=>zb0 a0 a1 a2 s.1 s.2) ([],0)
noncomputable def zkL (a0:za2):Option (Bool):=
 if(a0.fLast==([]:List UInt8))then
  some true
 else
  (zkQ a0.fLast).bind fun v1=>
  some v1
noncomputable def zkk (a0:zbN):Option (Bool):=
 (zpm a0.fShift).bind fun v1=>
 if v1 then
  (zkL a0.fUp).bind fun v2=>
  if v2 then
   (zkL a0.fDown).bind fun v3=>
   some v3
  else
   some false
 else
  some false
noncomputable def zaP (a0:zaf) (a1:List Int):Option (Int × zaf):=
 (zac a0 (a1.length:Int)).bind fun v1=>
 (getI a1 v1.1).bind fun y2=>
 some (y2,v1.2)
noncomputable def zc4 (a1:zab) (v3:List Int) (v4:Int) (v5:Int) (v6:List (List UInt8)):Option (zaj × zaf):=
 (zac (⟨v3,v4,v5⟩:zaf) 3).bind fun v7=>
 if(v7.1==0)then
  (za0 v7.2 a1).bind fun v8=>
  some ((⟨1,(⟨[]⟩:zbE),v8.1⟩:zaj),v8.2)
 else
  if(v7.1==1)then
   some ((⟨2,(⟨v6⟩:zbE),(⟨[]⟩:zbE)⟩:zaj),v7.2)
  else
   (za0 v7.2 a1).bind fun v9=>
   (getI v6 0).bind fun y10=>
   (getI v9.1.fVals 0).bind fun y11=>
   some ((⟨3,(⟨v6⟩:zbE),(⟨(v9.1.fVals.set ((0:Int)).toNat y10)⟩:zbE)⟩:zaj),v9.2)
noncomputable def zc3 (a1:zab) (v1:List zbE) (v2:zbE × zaf) (v12:Bool) (v13:List Int) (v14:Int) (v15:Int):Option (zaj × zaf):=
 if v12 then
  (zac (⟨v13,v14,v15⟩:zaf) (v1.length:Int)).bind fun v16=>
  (getI v1 v16.1).bind fun y17=>
  zc4 a1 v16.2.fcode v16.2.fat v16.2.fseed y17.fVals
 else
  zc4 a1 v13 v14 v15 v2.1.fVals
noncomputable def zdV (a0:zaf) (a1:zab) (a2:List zaa):Option (zaj × zaf):=
 (zdi a1 a2).bind fun v1=>
 (za0 a0 a1).bind fun v2=>
 if(decide ((v1.length:Int)>0))then
  (zaB v2.2 4).bind fun v18=>
  zc3 a1 v1 v2 (!v18.1) v18.2.fcode v18.2.fat v18.2.fseed
 else
  zc3 a1 v1 v2 false v2.2.fcode v2.2.fat v2.2.fseed
noncomputable def zkX (a0:zaj):Option (Bool):=
 some (((a0.fKind==0)&&((a0.fOld.fVals.length:Int)==0))&&((a0.fNew.fVals.length:Int)==0))
noncomputable def zfb (a0:zab) (a1:zaj):Option (Bool):=
 if(a1.fKind==1)then
  if((a1.fOld.fVals.length:Int)==0)then
   (zcG a0 a1.fNew).bind fun v1=>
   some v1
  else
   some false
 else
  if(a1.fKind==2)then
   if((a1.fNew.fVals.length:Int)==0)then
    (zcG a0 a1.fOld).bind fun v2=>
    some v2
   else
    some false
  else
   if(a1.fKind==3)then
    (zcG a0 a1.fOld).bind fun v3=>
    if v3 then
     (zcG a0 a1.fNew).bind fun v4=>
     if v4 then
      (getI a1.fOld.fVals 0).bind fun y5=>
      (getI a1.fNew.fVals 0).bind fun y6=>
      some (y5==y6)
     else
      some false
    else
     some false
   else
    some false
noncomputable def zrE (a0:zaI) (a1:zd7):Option (Bool):=
 (zay a1.fServer 0 (IntKind.i64.wrap ((a0.fAt.length:Int)-1))).bind fun v1=>
 if(!v1)then
  some false
 else
  if((a1.fStep==1)||(a1.fStep==(-1)))then
   (zkX a1.fAct).bind fun v2=>
   some v2
  else
   if(a1.fStep==0)then
    (getI a0.fAt a1.fServer).bind fun y3=>
    (getI a0.fWays y3).bind fun y4=>
    (zfb y4 a1.fAct).bind fun v5=>
    some v5
   else
    some false
noncomputable def zrm (a0:Int):Option (Bool):=
 (zay a0 1 24).bind fun v1=>
 some v1
noncomputable def zi7 (a1:zdr) (v2:Bool):Option (Bool):=
 if v2 then
  (zrm a1.fMany).bind fun v3=>
  if v3 then
   if(a1.fAct.fServer==0)then
    if(a1.fAct.fStep==0)then
     (zkX a1.fAct.fAct).bind fun v4=>
     some v4
    else
     some false
   else
    some false
  else
   some false
 else
  some false
noncomputable def zrn (a0:zbN) (a1:zdr):Option (Bool):=
 if(a1.fKind==1)then
  if(a1.fMany==0)then
   (zrE a0.fShift a1.fAct).bind fun v1=>
   some v1
  else
   some false
 else
  if(a1.fKind==2)then
   zi7 a1 (a1.fKind==2)
  else
   zi7 a1 (a1.fKind==3)
noncomputable def zia (a0:zbN) (a1:zdr):Option (Bool):=
 (zkk a0).bind fun v1=>
 if v1 then
  (zrn a0 a1).bind fun v2=>
  some v2
 else
  some false
noncomputable def ztc (a0:zbN):Option (zbN):=
 (znl a0.fShift).bind fun v1=>
 some (⟨v1,a0.fUp,a0.fDown⟩:zbN)
noncomputable def zn9 (v1:List Int) (v2:Bool) (v3:Bool) (v4:Int):Option ((Bool × Bool × Int) ⊕ Option (Bool × Bool)):=
 if(decide (v4<(v1.length:Int)))then
  (getI v1 v4).bind fun y5=>
  some (.inl ((v2&&(decide (y5≥2))),(v3||(decide (y5≥2))),(IntKind.i64.wrap (v4+1))))
 else
  some (.inr (some (v2,v3)))
noncomputable def zru (a0:zaI):Option (Bool × Bool):=
 (zfv a0).bind fun v1=>
 zat (fun s:Bool × Bool × Int=>zn9 v1 s.1 s.2.1 s.2.2) (true,false,0)
noncomputable def zfi (a0:zab) (a1:zaj):Option (Bool):=
 (zbm a0).bind fun v1=>
 if v1 then
  (zfb a0 a1).bind fun v2=>
  some v2
 else
  some false
noncomputable def zio (a0:zab) (a1:zaj):Option (List DOp):=
 if(a1.fKind==1)then
  (zbh a0 a1.fNew).bind fun v1=>
  some [(⟨6,v1.fKey,([]:List UInt8),0⟩:DOp),(⟨2,v1.fKey,v1.fVal,0⟩:DOp)]
 else
  (zbh a0 a1.fOld).bind fun v2=>
  if(a1.fKind==2)then
   some [(⟨7,v2.fKey,v2.fVal,0⟩:DOp),(⟨3,v2.fKey,([]:List UInt8),0⟩:DOp)]
  else
   (zbh a0 a1.fNew).bind fun v3=>
   some [(⟨7,v2.fKey,v2.fVal,0⟩:DOp),(⟨2,v2.fKey,v3.fVal,0⟩:DOp)]
noncomputable def zjY (a1:zbs) (v2:List UInt8) (v3:List DOp):Option (List DOp):=
 if((v2 !=([]:List UInt8))&&(decide (a1.fStage≥2)))then
  req ((((v3).length:Int)+(([(⟨2,v2,([]:List UInt8),0⟩:DOp)]:List DOp).length:Int))*48≤140737488355328∧((v3).length:Int)+(([(⟨2,v2,([]:List UInt8),0⟩:DOp)]:List DOp).length:Int)≤140737488355328)<|
  some (v3++ [(⟨2,v2,([]:List UInt8),0⟩:DOp)])
 else
  some v3
noncomputable def zjU (a1:zbs) (v1:List UInt8) (v2:List UInt8):Option (List DOp):=
 if(((v1 !=([]:List UInt8))&&(v1 !=v2))&&(decide (a1.fStage≥1)))then
  req (((([]:List DOp).length:Int)+(([(⟨3,v1,([]:List UInt8),0⟩:DOp)]:List DOp).length:Int))*48≤140737488355328∧(([]:List DOp).length:Int)+(([(⟨3,v1,([]:List UInt8),0⟩:DOp)]:List DOp).length:Int)≤140737488355328)<|
  zjY a1 v2 [(⟨3,v1,([]:List UInt8),0⟩:DOp)]
 else
  zjY a1 v2 []
noncomputable def zo9 (a0:zab) (a1:zbs) (a2:zaj) (v1:List UInt8):Option (List DOp):=
 if(a2.fKind !=2)then
  (zbA a0 a1 a2.fNew).bind fun v4=>
  zjU a1 v1 v4
 else
  zjU a1 v1 ([]:List UInt8)
noncomputable def ztd (a0:zab) (a1:zbs) (a2:zaj):Option (List DOp):=
 zvi (σ:=List UInt8) (
  if(a2.fKind !=1)then
   (zbA a0 a1 a2.fOld).bind fun v5=>
   some (.inl v5)
  else
   some (.inl ([]:List UInt8))
 ) (fun s=>zo9 a0 a1 a2 s)
noncomputable def zoW (a0:zab) (a1:zaj) (v2:Int) (v3:List DOp):Option ((Int × List DOp) ⊕ Option (List DOp)):=
 if(decide (v2<(a0.fIdxs.length:Int)))then
  (getI a0.fIdxs v2).bind fun y4=>
  (ztd a0 y4 a1).bind fun v5=>
  req ((((v3).length:Int)+((v5).length:Int))*48≤140737488355328∧((v3).length:Int)+((v5).length:Int)≤140737488355328)<|
  some (.inl ((IntKind.i64.wrap (v2+1)),(v3++v5)))
 else
  some (.inr (some v3))
noncomputable def ztg (a0:zab) (a1:zaj):Option (List DOp):=
 (zio a0 a1).bind fun v1=>
 zat (fun s:Int × List DOp=>zoW a0 a1 s.1 s.2) (0,v1)
noncomputable def zlL (a0:DOp) (v2:Bool):Option (Bool):=
 if v2 then
  (zoF a0.fVal).bind fun v3=>
  some (v3&&(a0.fBy==0))
 else
  if(a0.fKind==4)then
   if(a0.fKind==4)then
    if(a0.fVal==([]:List UInt8))then
     (zay a0.fBy (-9999) 9999).bind fun v4=>
     some v4
    else
     some false
   else
    some (((((a0.fKind==1)||(a0.fKind==3))||(a0.fKind==6))&&(a0.fVal==([]:List UInt8)))&&(a0.fBy==0))
  else
   if(a0.fKind==5)then
    if(a0.fVal==([]:List UInt8))then
     (zay a0.fBy (-9999) 9999).bind fun v5=>
     some v5
    else
     some false
   else
    some (((((a0.fKind==1)||(a0.fKind==3))||(a0.fKind==6))&&(a0.fVal==([]:List UInt8)))&&(a0.fBy==0))
noncomputable def zvq (a0:DOp):Option (Bool):=
 (zkQ a0.fKey).bind fun v1=>
 if(!v1)then
  some false
 else
  if(a0.fKind==2)then
   zlL a0 (a0.fKind==2)
  else
   zlL a0 (a0.fKind==7)
noncomputable def zo4 (a0:List DOp):Option (Bool):=
 some (decide ((a0.length:Int)≤8))
noncomputable def zoY (a0:List DOp) (v1:Int):Option ((Int) ⊕ Option (Bool)):=
 if(decide (v1<(a0.length:Int)))then
  (getI a0 v1).bind fun y2=>
  (zvq y2).bind fun v3=>
  if(!v3)then
   some (.inr (some false))
  else
   some (.inl (IntKind.i64.wrap (v1+1)))
 else
  some (.inr (zo4 a0))
noncomputable def zts (a0:List DOp):Option (Bool):=
 zat (fun s:Int=>zoY a0 s) 0
noncomputable def zcx (a1:List zgp) (a2:List UInt8) (v1:Int):Option ((Int) ⊕ Option (List UInt8 × Bool × Bool)):=
 if(decide (v1<(a1.length:Int)))then
  (getI a1 v1).bind fun y2=>
  if(y2.fKey==a2)then
   some (.inr (some (y2.fVal,y2.fThere,true)))
  else
   some (.inl (IntKind.i64.wrap (v1+1)))
 else
  some (.inr (some (([]:List UInt8),false,false)))
noncomputable def zet (a1:List zgp) (a2:List UInt8):Option (List UInt8 × Bool × Bool):=
 zat (fun s:Int=>zcx a1 a2 s) 0
noncomputable def zcr (a0:List zaa) (a1:List zgp) (a2:List UInt8) (v3:Int):Option ((Int) ⊕ Option (List UInt8 × Bool × Bool)):=
 if(decide (v3<(a0.length:Int)))then
  (getI a0 v3).bind fun y4=>
  if(y4.fKey==a2)then
   some (.inr (some (y4.fVal,(!y4.fGone),true)))
  else
   some (.inl (IntKind.i64.wrap (v3+1)))
 else
  some (.inr (zet a1 a2))
noncomputable def zhX (a0:List zaa) (a1:List zgp) (a2:List UInt8):Option (List UInt8 × Bool × Bool):=
 zat (fun s:Int=>zcr a0 a1 a2 s) 0
noncomputable def zbB (a0:List UInt8) (v3:Int) (v4:Int):Option ((Int × Int) ⊕ Option (Int)):=
 if(decide (v4<(a0.length:Int)))then
  (getI a0 v4).bind fun y5=>
  if((decide ((y5.toNat:Int)<48))||(decide ((y5.toNat:Int)>57)))then
   some (.inr (some (-1)))
  else
   some (.inl ((IntKind.i64.wrap ((IntKind.i64.wrap ((10:Int)*v3))+(IntKind.i64.wrap (IntKind.u8.wrap ((y5.toNat:Int)-48))))),(IntKind.i64.wrap (v4+1))))
 else
  some (.inr (some v3))
noncomputable def zhC (a0:List UInt8):Option (Int):=
 (zay (a0.length:Int) 1 6).bind fun v1=>
 if v1 then
  (getI a0 0).bind fun y2=>
  if(((y2.toNat:Int)==48)&&(decide ((a0.length:Int)>1)))then
   some (-1)
  else
   zat (fun s:Int × Int=>zbB a0 s.1 s.2) (0,0)
 else
  some (-1)
noncomputable def zga (y1:UInt8) (v2:List UInt8):Option (Int × Bool):=
 (zhC v2).bind fun v3=>
 if((decide (v3<0))||(((y1.toNat:Int)==45)&&(v3==0)))then
  some (0,false)
 else
  if((y1.toNat:Int)==45)then
   some ((IntKind.i64.wrap (0-v3)),true)
  else
   some (v3,true)
noncomputable def zki (v4:List UInt8):Option (Int × Bool):=
 (zhC v4).bind fun v5=>
 if((decide (v5<0))||false)then
  some (0,false)
 else
  some (v5,true)
noncomputable def zim (a0:List UInt8):Option (Int × Bool):=
 if(decide ((a0.length:Int)>0))then
  (getI a0 0).bind fun y1=>
  if((y1.toNat:Int)==45)then
   req (0≤(1:Int)∧(1:Int)≤(a0.length:Int)∧(a0.length:Int)≤(a0.length:Int))<|
   zga y1 (zez a0 1 (a0.length:Int))
  else
   zga y1 a0
 else
  zki a0
noncomputable def zit (a0:DOp) (a1:List UInt8) (a2:Bool):Option (Bool):=
 (zim a1).bind fun v1=>
 if(a0.fKind==4)then
  if(!a2)then
   some false
  else
   if v1.2 then
    (zay (IntKind.i64.wrap (v1.1+a0.fBy)) (-999999) 999999).bind fun v2=>
    some (!v2)
   else
    some true
 else
  if(a0.fKind==5)then
   some (((!a2)||(!v1.2))||(decide (v1.1<a0.fBy)))
  else
   if(a0.fKind==6)then
    some a2
   else
    if(a0.fKind==7)then
     some ((!a2)||(a1 !=a0.fVal))
    else
     some false
noncomputable def zlB:Nat→Int→Option (List UInt8)
 |0,_=>none
 |n_+1,a0=>
  if(decide (a0<10))then
   req (([(IntKind.u8.wrap (IntKind.i64.wrap ((48:Int)+a0)))]:List Int).length≤9223372036854775807)<|
   some ([(IntKind.u8.wrap (IntKind.i64.wrap ((48:Int)+a0)))].map fun n=>UInt8.ofNat n.toNat)
  else
   ((zlB n_) (IntKind.i64.wrap (Int.tdiv a0 10))).bind fun v1=>
   req (([(IntKind.u8.wrap (IntKind.i64.wrap ((48:Int)+(Int.tmod a0 10))))]:List Int).length≤9223372036854775807)<|
   req ((v1).length+(([(IntKind.u8.wrap (IntKind.i64.wrap ((48:Int)+(Int.tmod a0 10))))].map fun n=>UInt8.ofNat n.toNat)).length≤9223372036854775807)<|
   some (v1++([(IntKind.u8.wrap (IntKind.i64.wrap ((48:Int)+(Int.tmod a0 10))))].map fun n=>UInt8.ofNat n.toNat))
noncomputable def zoR:Int→Option (List UInt8):=zlB zFe
noncomputable def zm6 (a0:Int):Option (List UInt8):=
 if(decide (a0<0))then
  (zoR (IntKind.i64.wrap (0-a0))).bind fun v1=>
  req ((([45]:List UInt8)).length+(v1).length≤9223372036854775807)<|
  some ((([45]:List UInt8):List UInt8)++v1)
 else
  (zoR a0).bind fun v2=>
  some v2
noncomputable def zaM (a0:List DOp) (a1:List zgp) (v1:List zaa) (v2:Int):Option ((List zaa × Int) ⊕ Option (Int × List UInt8 × List zaa)):=
 if(decide (v2<(a0.length:Int)))then
  (getI a0 v2).bind fun y3=>
  (zhX v1 a1 y3.fKey).bind fun v4=>
  if(((!v4.2.2)&&(y3.fKind !=2))&&(y3.fKind !=3))then
   some (.inr (some (1,y3.fKey, [])))
  else
   (zit y3 v4.1 v4.2.1).bind fun v5=>
   if v5 then
    some (.inr (some (2,([]:List UInt8), [])))
   else
    if(y3.fKind==2)then
     (za7 v1 (⟨y3.fKey,y3.fVal,false⟩:zaa)).bind fun v6=>
     some (.inl (v6,(IntKind.i64.wrap (v2+1))))
    else
     if(y3.fKind==3)then
      (za7 v1 (⟨y3.fKey,([]:List UInt8),true⟩:zaa)).bind fun v7=>
      some (.inl (v7,(IntKind.i64.wrap (v2+1))))
     else
      if(y3.fKind==4)then
       (zim v4.1).bind fun v8=>
       if(!v4.2.1)then
        (zm6 (IntKind.i64.wrap ((0:Int)+y3.fBy))).bind fun v9=>
        (za7 v1 (⟨y3.fKey,v9,false⟩:zaa)).bind fun v10=>
        some (.inl (v10,(IntKind.i64.wrap (v2+1))))
       else
        (zm6 (IntKind.i64.wrap (v8.1+y3.fBy))).bind fun v11=>
        (za7 v1 (⟨y3.fKey,v11,false⟩:zaa)).bind fun v12=>
        some (.inl (v12,(IntKind.i64.wrap (v2+1))))
      else
       some (.inl (v1,(IntKind.i64.wrap (v2+1))))
 else
  some (.inr (some (3,([]:List UInt8),v1)))
noncomputable def zmP (a0:List DOp) (a1:List zgp):Option (Int × List UInt8 × List zaa):=
 zat (fun s:List zaa × Int=>zaM a0 a1 s.1 s.2) ([],0)
noncomputable def zjS (a1:List UInt8):Option (zgp):=
 some (⟨a1,([]:List UInt8),false⟩:zgp)
noncomputable def zc8 (a0:List zaa) (a1:List UInt8) (v1:Int):Option ((Int) ⊕ Option (zgp)):=
 if(decide (v1<(a0.length:Int)))then
  (getI a0 v1).bind fun y2=>
  if(y2.fKey==a1)then
   some (.inr (some (⟨a1,y2.fVal,true⟩:zgp)))
  else
   some (.inl (IntKind.i64.wrap (v1+1)))
 else
  some (.inr (zjS a1))
noncomputable def zjt (a0:List zaa) (a1:List UInt8):Option (zgp):=
 zat (fun s:Int=>zc8 a0 a1 s) 0
noncomputable def zb9 (a0:List zaa) (a1:List DOp) (v1:List zgp):Option ((List zgp) ⊕ Option (List zgp × List zaa × Bool)):=
 (zmP a1 v1).bind fun v2=>
 if(v2.1 !=1)then
  some (.inr (some (v1,v2.2.2,(v2.1==3))))
 else
  (zjt a0 v2.2.1).bind fun v3=>
  req ((((v1).length:Int)+(([v3]:List zgp).length:Int))*40≤140737488355328∧((v1).length:Int)+(([v3]:List zgp).length:Int)≤140737488355328)<|
  some (.inl (v1++ [v3]))
noncomputable def zlP (a0:List zaa) (a1:List DOp):Option (List zgp × List zaa × Bool):=
 zat (fun s:List zgp=>zb9 a0 a1 s) []
noncomputable def zlW (v1:List zaa) (v2:List zaa) (v3:Int):Option ((List zaa × Int) ⊕ Option (List zaa)):=
 if(decide (v3<(v1.length:Int)))then
  (getI v1 v3).bind fun y4=>
  if(!y4.fGone)then
   req ((((v2).length:Int)+(([y4]:List zaa).length:Int))*40≤140737488355328∧((v2).length:Int)+(([y4]:List zaa).length:Int)≤140737488355328)<|
   some (.inl ((v2++ [y4]),(IntKind.i64.wrap (v3+1))))
  else
   some (.inl (v2,(IntKind.i64.wrap (v3+1))))
 else
  some (.inr (some v2))
noncomputable def zmb (v1:List zaa):Option (List zaa):=
 zat (fun s:List zaa × Int=>zlW v1 s.1 s.2) ([],0)
noncomputable def zmv (a1:List zaa) (v5:Int) (v6:List zaa):Option ((Int × List zaa) ⊕ Option (List zaa)):=
 if(decide (v5<(a1.length:Int)))then
  (getI a1 v5).bind fun y7=>
  (za7 v6 y7).bind fun v8=>
  some (.inl ((IntKind.i64.wrap (v5+1)),v8))
 else
  some (.inr (zmb v6))
noncomputable def zo5 (a0:List zaa) (a1:List zaa):Option (List zaa):=
 req (((([]:List zaa).length:Int)+((a0).length:Int))*40≤140737488355328∧(([]:List zaa).length:Int)+((a0).length:Int)≤140737488355328)<|
 zat (fun s:Int × List zaa=>zmv a1 s.1 s.2) (0,a0)
noncomputable def zmC (a1:List (List DOp)) (v2:List Bool) (v3:Int) (v4:List zaa):Option ((List Bool × Int × List zaa) ⊕ Option (List zaa × List Bool × Bool)):=
 if(decide (v3<(a1.length:Int)))then
  (getI a1 v3).bind fun y5=>
  (zlP v4 y5).bind fun v6=>
  (zo5 v4 v6.2.1).bind fun v7=>
  if v6.2.2 then
   (zfW v7).bind fun v8=>
   if v8 then
    req ((((v2).length:Int)+(([v8]:List Bool).length:Int))*1≤140737488355328∧((v2).length:Int)+(([v8]:List Bool).length:Int)≤140737488355328)<|
    some (.inl ((v2++ [v8]),(IntKind.i64.wrap (v3+1)),v7))
   else
    req ((((v2).length:Int)+(([v8]:List Bool).length:Int))*1≤140737488355328∧((v2).length:Int)+(([v8]:List Bool).length:Int)≤140737488355328)<|
    some (.inl ((v2++ [v8]),(IntKind.i64.wrap (v3+1)),v4))
  else
   req ((((v2).length:Int)+(([false]:List Bool).length:Int))*1≤140737488355328∧((v2).length:Int)+(([false]:List Bool).length:Int)≤140737488355328)<|
   some (.inl ((v2++ [false]),(IntKind.i64.wrap (v3+1)),v4))
 else
  some (.inr (some (v4,v2,true)))
noncomputable def zmA (a0:List zaa) (a1:List (List DOp)):Option (List zaa × List Bool × Bool):=
 req (((([]:List zaa).length:Int)+((a0).length:Int))*40≤140737488355328∧(([]:List zaa).length:Int)+((a0).length:Int)≤140737488355328)<|
 zat (fun s:List Bool × Int × List zaa=>zmC a1 s.1 s.2.1 s.2.2) ([],0,a0)
noncomputable def zmf (a0:List zaa) (a1:List (List DOp)) (v9:Int):Option ((Int) ⊕ Option (List zaa × List Bool × Bool)):=
 if(decide (v9<(a1.length:Int)))then
  (getI a1 v9).bind fun y10=>
  (zts y10).bind fun v11=>
  if(!v11)then
   some (.inr (some ([], [],false)))
  else
   some (.inl (IntKind.i64.wrap (v9+1)))
 else
  some (.inr (zmA a0 a1))
noncomputable def zo3 (a0:List zaa) (a1:List (List DOp)):Option (List zaa × List Bool × Bool):=
 (zfW a0).bind fun v1=>
 if((!v1)||(decide ((a1.length:Int)>20)))then
  some ([], [],false)
 else
  zat (fun s:Int=>zmf a0 a1 s) 0
noncomputable def zkE (a0:List zaa) (a1:List DOp):Option (List zaa × Bool):=
 (zo3 a0 ([a1]:List (List DOp))).bind fun v1=>
 if((v1.2.1.length:Int)==1)then
  (getI v1.2.1 0).bind fun y2=>
  some (v1.1,y2)
 else
  some (v1.1,false)
noncomputable def zt1 (a0:zab) (a1:List zaa) (a2:zaj):Option (List zaa × Bool × Bool):=
 (zfi a0 a2).bind fun v1=>
 if v1 then
  (zfW a1).bind fun v2=>
  if(!v2)then
   some ([],false,false)
  else
   (ztg a0 a2).bind fun v3=>
   (zkE a1 v3).bind fun v4=>
   some (v4.1,v4.2,true)
 else
  some ([],false,false)
noncomputable def zfN (a0:zaI) (a1:zd7):Option (zaI × Bool):=
 (znl a0).bind fun v1=>
 if(a1.fStep !=0)then
  (getI v1.fAt a1.fServer).bind fun y2=>
  (zay (IntKind.i64.wrap (y2+a1.fStep)) 0 (IntKind.i64.wrap ((a0.fWays.length:Int)-1))).bind fun v3=>
  if(!v3)then
   some (v1,false)
  else
   some ((⟨v1.fName,v1.fWays,(v1.fAt.set (a1.fServer).toNat (IntKind.i64.wrap (y2+a1.fStep))),v1.fStore⟩:zaI),true)
 else
  (getI a0.fAt a1.fServer).bind fun y4=>
  (getI a0.fWays y4).bind fun y5=>
  (zt1 y5 a0.fStore a1.fAct).bind fun v6=>
  some ((⟨v1.fName,v1.fWays,v1.fAt,v6.1⟩:zaI),v6.2.1)
noncomputable def zmV (v1:Int):Option ((Int) ⊕ Option (Bool)):=
 some (.inl (IntKind.i64.wrap (v1+1)))
noncomputable def znA (a0:List Int) (v1:Int) (y2:Int) (v3:Int):Option ((Int) ⊕ Option ((Int) ⊕ Option (Bool))):=
 if(decide (v3<(a0.length:Int)))then
  (getI a0 v3).bind fun y4=>
  if(decide ((IntKind.i64.wrap (y2-y4))>1))then
   some (.inr (some (.inr (some false))))
  else
   some (.inl (IntKind.i64.wrap (v3+1)))
 else
  some (.inr (zmV v1))
noncomputable def znf (a0:List Int) (v1:Int):Option ((Int) ⊕ Option (Bool)):=
 if(decide (v1<(a0.length:Int)))then
  (getI a0 v1).bind fun y2=>
  zat (fun s:Int=>znA a0 v1 y2 s) 0
 else
  some (.inr (some true))
noncomputable def zqL (a0:List Int):Option (Bool):=
 zat (fun s:Int=>znf a0 s) 0
noncomputable def zhT (a0:zab) (a1:List UInt8) (a2:List zaa):Option (Bool):=
 (zbm a0).bind fun v1=>
 if v1 then
  (zbn a0 a1).bind fun v2=>
  if(decide (v2≥0))then
   (zfW a2).bind fun v3=>
   some v3
  else
   some false
 else
  some false
noncomputable def zcM (a0:List (List UInt8)) (a1:List (List UInt8)) (v1:List (List UInt8)) (v2:Int):Option ((List (List UInt8) × Int) ⊕ Option (List (List UInt8))):=
 if(decide (v2<(a0.length:Int)))then
  (getI a0 v2).bind fun y3=>
  (zg4 a1 y3).bind fun v4=>
  if(decide (v4<0))then
   req ((((v1).length:Int)+(([y3]:List (List UInt8)).length:Int))*16≤140737488355328∧((v1).length:Int)+(([y3]:List (List UInt8)).length:Int)≤140737488355328)<|
   some (.inl ((v1++ [y3]),(IntKind.i64.wrap (v2+1))))
  else
   some (.inl (v1,(IntKind.i64.wrap (v2+1))))
 else
  some (.inr (some v1))
noncomputable def ziy (a0:List (List UInt8)) (a1:List (List UInt8)):Option (List (List UInt8)):=
 zat (fun s:List (List UInt8) × Int=>zcM a0 a1 s.1 s.2) ([],0)
noncomputable def zjX (a0:zab) (a1:List UInt8) (a2:List zaa):Option (List (List UInt8) × Bool):=
 (zhT a0 a1 a2).bind fun v1=>
 if(!v1)then
  some ([],false)
 else
  (zcN a0 a1 a2).bind fun v2=>
  (zfr a0 a1 a2).bind fun v3=>
  (ziy v2 v3).bind fun v4=>
  some (v4,true)
noncomputable def zlD (a0:zab) (a1:List UInt8) (a2:List zaa):Option (List (List UInt8) × Bool):=
 (zhT a0 a1 a2).bind fun v1=>
 if(!v1)then
  some ([],false)
 else
  (zfr a0 a1 a2).bind fun v2=>
  (zcN a0 a1 a2).bind fun v3=>
  (ziy v2 v3).bind fun v4=>
  some (v4,true)
noncomputable def zhO (a0:zab) (a1:List UInt8) (a2:Int) (a3:List zaa):Option (Bool):=
 if(a2==0)then
  (zcN a0 a1 a3).bind fun v1=>
  some ((v1.length:Int)==0)
 else
  (zjX a0 a1 a3).bind fun v2=>
  (zlD a0 a1 a3).bind fun v3=>
  some (((v2.1.length:Int)==0)&&((a2==1)||((v3.1.length:Int)==0)))
noncomputable def zrg (a0:zaI):Option (Bool):=
 (getI a0.fWays 0).bind fun y1=>
 (zrL a0).bind fun v2=>
 (zhO y1 a0.fName v2 a0.fStore).bind fun v3=>
 some v3
noncomputable def znr (a0:zaI) (a1:zd7):Option (Bool):=
 (zfN a0 a1).bind fun v1=>
 if v1.2 then
  (zqL v1.1.fAt).bind fun v2=>
  if v2 then
   (zrg v1.1).bind fun v3=>
   some v3
  else
   some false
 else
  some false
noncomputable def ztN (a0:zbN) (a1:zd7):Option (zbN × Bool):=
 if(a1.fStep !=0)then
  (znr a0.fShift a1).bind fun v1=>
  if(!v1)then
   some (a0,false)
  else
   (zfv a0.fShift).bind fun v2=>
   (getI v2 a1.fServer).bind fun y3=>
   (zfN a0.fShift a1).bind fun v4=>
   if(!v4.2)then
    some (a0,false)
   else
    if((a1.fStep==0)&&(decide (y3≥2)))then
     some ((⟨v4.1,(⟨a0.fUp.fLast,a0.fUp.fOver⟩:za2),(⟨([]:List UInt8),false⟩:za2)⟩:zbN),true)
    else
     if(a1.fStep==0)then
      some ((⟨v4.1,(⟨([]:List UInt8),false⟩:za2),(⟨a0.fDown.fLast,a0.fDown.fOver⟩:za2)⟩:zbN),true)
     else
      some ((⟨v4.1,(⟨a0.fUp.fLast,a0.fUp.fOver⟩:za2),(⟨a0.fDown.fLast,a0.fDown.fOver⟩:za2)⟩:zbN),true)
 else
  (zfv a0.fShift).bind fun v5=>
  (getI v5 a1.fServer).bind fun y6=>
  (zfN a0.fShift a1).bind fun v7=>
  if(!v7.2)then
   some (a0,false)
  else
   if((a1.fStep==0)&&(decide (y6≥2)))then
    some ((⟨v7.1,(⟨a0.fUp.fLast,a0.fUp.fOver⟩:za2),(⟨([]:List UInt8),false⟩:za2)⟩:zbN),true)
   else
    if(a1.fStep==0)then
     some ((⟨v7.1,(⟨([]:List UInt8),false⟩:za2),(⟨a0.fDown.fLast,a0.fDown.fOver⟩:za2)⟩:zbN),true)
    else
     some ((⟨v7.1,(⟨a0.fUp.fLast,a0.fUp.fOver⟩:za2),(⟨a0.fDown.fLast,a0.fDown.fOver⟩:za2)⟩:zbN),true)
noncomputable def zrf (a0:zab) (a1:zbs) (a2:zbE):Option (List DOp):=
 (zbh a0 a2).bind fun v1=>
 (zbA a0 a1 a2).bind fun v2=>
 some [(⟨7,v1.fKey,v1.fVal,0⟩:DOp),(⟨2,v2,([]:List UInt8),0⟩:DOp)]
noncomputable def zoi (a0:List (List UInt8)) (a1:List UInt8) (v1:Int):Option ((Int) ⊕ Option (Bool)):=
 if(decide (v1<(a0.length:Int)))then
  (getI a0 v1).bind fun y2=>
  if(!(Op.bytesLess y2 a1||y2==a1))then
   some (.inr (some true))
  else
   some (.inl (IntKind.i64.wrap (v1+1)))
 else
  some (.inr (some false))
noncomputable def zlV (a0:List (List UInt8)) (a1:List UInt8):Option (Bool):=
 zat (fun s:Int=>zoi a0 a1 s) 0
noncomputable def ziV (a0:zab) (a3:za2) (v4:List UInt8) (v5:List zaa):Option (List zaa × za2):=
 if a3.fOver then
  some (v5,(⟨v4,true⟩:za2))
 else
  (znL a0 v5).bind fun v6=>
  (zlV v6 v4).bind fun v7=>
  some (v5,(⟨v4,(!v7)⟩:za2))
noncomputable def zn4 (a0:zab) (a3:za2) (y2:zbs) (v3:List zbE) (v8:Int) (v9:Int) (v10:List UInt8) (v11:List zaa):Option ((Int × Int × List UInt8 × List zaa) ⊕ Option (List zaa × za2)):=
 if(decide (v9<(v3.length:Int)))then
  (getI v3 v9).bind fun y12=>
  (zbh a0 y12).bind fun v13=>
  if((v8==0)||(Op.bytesLess v13.fKey v10||v13.fKey==v10))then
   some (.inl (v8,(IntKind.i64.wrap (v9+1)),v10,v11))
  else
   (zrf a0 y2 y12).bind fun v14=>
   (zkE v11 v14).bind fun v15=>
   if(!v15.2)then
    some (.inr (ziV a0 a3 v10 v11))
   else
    some (.inl ((IntKind.i64.wrap (v8-1)),(IntKind.i64.wrap (v9+1)),v13.fKey,v15.1))
 else
  some (.inr (ziV a0 a3 v10 v11))
noncomputable def zrG (a0:zab) (a1:List UInt8) (a2:List zaa) (a3:za2) (a4:Int):Option (List zaa × za2):=
 req (((([]:List zaa).length:Int)+((a2).length:Int))*40≤140737488355328∧(([]:List zaa).length:Int)+((a2).length:Int)≤140737488355328)<|
 (zbn a0 a1).bind fun v1=>
 (getI a0.fIdxs v1).bind fun y2=>
 (zdi a0 a2).bind fun v3=>
 zat (fun s:Int × Int × List UInt8 × List zaa=>zn4 a0 a3 y2 v3 s.1 s.2.1 s.2.2.1 s.2.2.2) (a4,0,a3.fLast,a2)
noncomputable def zmW (a0:zab) (a1:List UInt8) (a3:za2) (v2:List UInt8) (v3:List zaa):Option (List zaa × za2):=
 if a3.fOver then
  some (v3,(⟨v2,true⟩:za2))
 else
  (zcN a0 a1 v3).bind fun v4=>
  (zlV v4 v2).bind fun v5=>
  some (v3,(⟨v2,(!v5)⟩:za2))
noncomputable def zm4 (a0:zab) (a1:List UInt8) (a3:za2) (v1:List (List UInt8)) (v6:Int) (v7:Int) (v8:List UInt8) (v9:List zaa):Option ((Int × Int × List UInt8 × List zaa) ⊕ Option (List zaa × za2)):=
 if(decide (v7<(v1.length:Int)))then
  (getI v1 v7).bind fun y10=>
  if((v6==0)||(Op.bytesLess y10 v8||y10==v8))then
   some (.inl (v6,(IntKind.i64.wrap (v7+1)),v8,v9))
  else
   (zkE v9 ([(⟨3,y10,([]:List UInt8),0⟩:DOp)]:List DOp)).bind fun v11=>
   some (.inl ((IntKind.i64.wrap (v6-1)),(IntKind.i64.wrap (v7+1)),y10,v11.1))
 else
  some (.inr (zmW a0 a1 a3 v8 v9))
noncomputable def zpB (a0:zab) (a1:List UInt8) (a2:List zaa) (a3:za2) (a4:Int):Option (List zaa × za2):=
 req (((([]:List zaa).length:Int)+((a2).length:Int))*40≤140737488355328∧(([]:List zaa).length:Int)+((a2).length:Int)≤140737488355328)<|
 (zcN a0 a1 a2).bind fun v1=>
 zat (fun s:Int × Int × List UInt8 × List zaa=>zm4 a0 a1 a3 v1 s.1 s.2.1 s.2.2.1 s.2.2.2) (a4,0,a3.fLast,a2)
noncomputable def zuG (a0:zbN) (a1:zdr):Option (zbN × Bool):=
 (zru a0.fShift).bind fun v1=>
 if(a1.fKind==1)then
  (ztN a0 a1.fAct).bind fun v2=>
  some (v2.1,v2.2)
 else
  if((a1.fKind==2)&&v1.1)then
   (getI a0.fShift.fWays 0).bind fun y3=>
   (zrG y3 a0.fShift.fName a0.fShift.fStore a0.fUp a1.fMany).bind fun v4=>
   some ((⟨(⟨a0.fShift.fName,a0.fShift.fWays,a0.fShift.fAt,v4.1⟩:zaI),v4.2,(⟨([]:List UInt8),false⟩:za2)⟩:zbN),true)
  else
   if((a1.fKind==3)&&(!v1.2))then
    (getI a0.fShift.fWays 0).bind fun y5=>
    (zpB y5 a0.fShift.fName a0.fShift.fStore a0.fDown a1.fMany).bind fun v6=>
    some ((⟨(⟨a0.fShift.fName,a0.fShift.fWays,a0.fShift.fAt,v6.1⟩:zaI),(⟨([]:List UInt8),false⟩:za2),v6.2⟩:zbN),true)
   else
    some (a0,false)
noncomputable def zqr (a0:zbN) (a1:zdr):Option (zbN × Bool × Bool):=
 (zia a0 a1).bind fun v1=>
 if(!v1)then
  some ((⟨(⟨([]:List UInt8), [], [], []⟩:zaI),(⟨([]:List UInt8),false⟩:za2),(⟨([]:List UInt8),false⟩:za2)⟩:zbN),false,false)
 else
  (ztc a0).bind fun v2=>
  (zuG v2 a1).bind fun v3=>
  some (v3.1,v3.2,true)
noncomputable def zcg (a0:zaf) (a1:zab):Option (List zaa × zaf):=
 (zde a0 a1).bind fun v1=>
 (zac v1.2 12).bind fun v2=>
 if(v2.1==0)then
  req ((((v1.1).length:Int)+(([(⟨([97]:List UInt8),([33]:List UInt8),false⟩:zaa)]:List zaa).length:Int))*40≤140737488355328∧((v1.1).length:Int)+(([(⟨([97]:List UInt8),([33]:List UInt8),false⟩:zaa)]:List zaa).length:Int)≤140737488355328)<|
  some ((v1.1++ [(⟨([97]:List UInt8),([33]:List UInt8),false⟩:zaa)]),(⟨v2.2.fcode,v2.2.fat,v2.2.fseed⟩:zaf))
 else
  if(v2.1==1)then
   req ((a1.fName).length+(([47]:List UInt8)).length≤9223372036854775807)<|
   (zax v2.2 ([([97,98,99,100]:List UInt8),([97]:List UInt8),([49]:List UInt8)]:List (List UInt8))).bind fun v3=>
   req (((a1.fName++([47]:List UInt8))).length+(v3.1).length≤9223372036854775807)<|
   (zax v3.2 ([([120]:List UInt8),([120,44,44,121]:List UInt8),([]:List UInt8),([120,44,121,44,122]:List UInt8)]:List (List UInt8))).bind fun v4=>
   (za7 v1.1 (⟨((a1.fName++([47]:List UInt8))++v3.1),v4.1,false⟩:zaa)).bind fun v5=>
   some (v5,(⟨v4.2.fcode,v4.2.fat,v4.2.fseed⟩:zaf))
  else
   if(v2.1==2)then
    if(decide ((v1.1.length:Int)>0))then
     (zac v2.2 (v1.1.length:Int)).bind fun v6=>
     (getI v1.1 v6.1).bind fun y7=>
     some ((v1.1.set (v6.1).toNat {y7 with fGone:=true}),(⟨v6.2.fcode,v6.2.fat,v6.2.fseed⟩:zaf))
    else
     some (v1.1,(⟨v2.2.fcode,v2.2.fat,v2.2.fseed⟩:zaf))
   else
    if(v2.1==3)then
     req ((a1.fName).length+(([46,105,47]:List UInt8)).length≤9223372036854775807)<|
     (zax v2.2 ([([120]:List UInt8),([120,47,49,47,50]:List UInt8),([47,49]:List UInt8),([97,98,99,100,47,49]:List UInt8)]:List (List UInt8))).bind fun v8=>
     req (((a1.fName++([46,105,47]:List UInt8))).length+(v8.1).length≤9223372036854775807)<|
     (za7 v1.1 (⟨((a1.fName++([46,105,47]:List UInt8))++v8.1),([]:List UInt8),false⟩:zaa)).bind fun v9=>
     some (v9,(⟨v8.2.fcode,v8.2.fat,v8.2.fseed⟩:zaf))
    else
     some (v1.1,(⟨v2.2.fcode,v2.2.fat,v2.2.fseed⟩:zaf))
noncomputable def zbQ (a0:zaf) (a1:zab):Option (zbE × zaf):=
 (za0 a0 a1).bind fun v1=>
 (zac v1.2 10).bind fun v2=>
 if(v2.1==0)then
  (zac v2.2 (v1.1.fVals.length:Int)).bind fun v3=>
  (zax v3.2 ([([]:List UInt8),([97,98,99,100]:List UInt8),([45]:List UInt8),([65]:List UInt8)]:List (List UInt8))).bind fun v4=>
  (getI v1.1.fVals v3.1).bind fun y5=>
  some ((⟨(v1.1.fVals.set (v3.1).toNat v4.1)⟩:zbE),(⟨v4.2.fcode,v4.2.fat,v4.2.fseed⟩:zaf))
 else
  if(v2.1==1)then
   req ((((v1.1.fVals).length:Int)+(([([120]:List UInt8)]:List (List UInt8)).length:Int))*16≤140737488355328∧((v1.1.fVals).length:Int)+(([([120]:List UInt8)]:List (List UInt8)).length:Int)≤140737488355328)<|
   some ((⟨(v1.1.fVals++ [([120]:List UInt8)])⟩:zbE),(⟨v2.2.fcode,v2.2.fat,v2.2.fseed⟩:zaf))
  else
   if(v2.1==2)then
    some ((⟨[]⟩:zbE),(⟨v2.2.fcode,v2.2.fat,v2.2.fseed⟩:zaf))
   else
    some ((⟨v1.1.fVals⟩:zbE),(⟨v2.2.fcode,v2.2.fat,v2.2.fseed⟩:zaf))
noncomputable def zcE (a0:zaf) (a1:zab) (a2:List zaa):Option (zaj × zaf):=
 (zdV a0 a1 a2).bind fun v1=>
 (zac v1.2 10).bind fun v2=>
 if(v2.1==0)then
  (zac v2.2 5).bind fun v3=>
  some ((⟨v3.1,(⟨v1.1.fOld.fVals⟩:zbE),(⟨v1.1.fNew.fVals⟩:zbE)⟩:zaj),(⟨v3.2.fcode,v3.2.fat,v3.2.fseed⟩:zaf))
 else
  if(v2.1==1)then
   (zbQ v2.2 a1).bind fun v4=>
   some ((⟨v1.1.fKind,(⟨v1.1.fOld.fVals⟩:zbE),(⟨v4.1.fVals⟩:zbE)⟩:zaj),(⟨v4.2.fcode,v4.2.fat,v4.2.fseed⟩:zaf))
  else
   if(v2.1==2)then
    (zbQ v2.2 a1).bind fun v5=>
    some ((⟨v1.1.fKind,(⟨v5.1.fVals⟩:zbE),(⟨v1.1.fNew.fVals⟩:zbE)⟩:zaj),(⟨v5.2.fcode,v5.2.fat,v5.2.fseed⟩:zaf))
   else
    some ((⟨v1.1.fKind,(⟨v1.1.fOld.fVals⟩:zbE),(⟨v1.1.fNew.fVals⟩:zbE)⟩:zaj),(⟨v2.2.fcode,v2.2.fat,v2.2.fseed⟩:zaf))
noncomputable def zci (a0:zaf):Option (zab × zaf):=
 (zcm a0).bind fun v1=>
 (zac v1.2 14).bind fun v2=>
 if(v2.1==0)then
  (zax v2.2 ([([]:List UInt8),([116,116]:List UInt8),([84]:List UInt8)]:List (List UInt8))).bind fun v3=>
  some ((⟨v3.1,v1.1.fCols,v1.1.fIdxs⟩:zab),(⟨v3.2.fcode,v3.2.fat,v3.2.fseed⟩:zaf))
 else
  if(v2.1==1)then
   (zax v2.2 ([([97]:List UInt8),([97,98,99,100]:List UInt8),([]:List UInt8),([100]:List UInt8)]:List (List UInt8))).bind fun v4=>
   req ((((v1.1.fCols).length:Int)+(([v4.1]:List (List UInt8)).length:Int))*16≤140737488355328∧((v1.1.fCols).length:Int)+(([v4.1]:List (List UInt8)).length:Int)≤140737488355328)<|
   some ((⟨v1.1.fName,(v1.1.fCols++ [v4.1]),v1.1.fIdxs⟩:zab),(⟨v4.2.fcode,v4.2.fat,v4.2.fseed⟩:zaf))
  else
   if(v2.1==2)then
    req (0≤(0:Int)∧(0:Int)≤1∧(1:Int)≤(v1.1.fCols.length:Int))<|
    some ((⟨v1.1.fName,(zez v1.1.fCols 0 1),v1.1.fIdxs⟩:zab),(⟨v2.2.fcode,v2.2.fat,v2.2.fseed⟩:zaf))
   else
    if(v2.1==3)then
     (zax v2.2 ([([97]:List UInt8),([122]:List UInt8),([122,122]:List UInt8)]:List (List UInt8))).bind fun v5=>
     (zac v5.2 5).bind fun v6=>
     (zac v6.2 5).bind fun v7=>
     req ((((v1.1.fIdxs).length:Int)+(([(⟨v5.1,v6.1,(IntKind.i64.wrap (v7.1-1))⟩:zbs)]:List zbs).length:Int))*32≤140737488355328∧((v1.1.fIdxs).length:Int)+(([(⟨v5.1,v6.1,(IntKind.i64.wrap (v7.1-1))⟩:zbs)]:List zbs).length:Int)≤140737488355328)<|
     some ((⟨v1.1.fName,v1.1.fCols,(v1.1.fIdxs++ [(⟨v5.1,v6.1,(IntKind.i64.wrap (v7.1-1))⟩:zbs)])⟩:zab),(⟨v7.2.fcode,v7.2.fat,v7.2.fseed⟩:zaf))
    else
     some ((⟨v1.1.fName,v1.1.fCols,v1.1.fIdxs⟩:zab),(⟨v2.2.fcode,v2.2.fat,v2.2.fseed⟩:zaf))
noncomputable def zfq (a0:List Int):Option (zab × List zaa × zaj):=
 (zcm (⟨a0,0,0⟩:zaf)).bind fun v1=>
 (zcg v1.2 v1.1).bind fun v2=>
 (zcE v2.2 v1.1 v2.1).bind fun v3=>
 (zaB v3.2 12).bind fun v4=>
 if v4.1 then
  (zci v4.2).bind fun v5=>
  some ((⟨v5.1.fName,v5.1.fCols,v5.1.fIdxs⟩:zab),v2.1,v3.1)
 else
  some ((⟨v1.1.fName,v1.1.fCols,v1.1.fIdxs⟩:zab),v2.1,v3.1)
noncomputable def zgY (a0:zab) (a1:Int):Option (zab × List UInt8 × Bool):=
 if((a0.fIdxs.length:Int)==0)then
  some ((⟨([]:List UInt8), [], []⟩:zab),([]:List UInt8),false)
 else
  (getI a0.fIdxs 0).bind fun y1=>
  (zhW a0 y1.fName a1).bind fun v2=>
  some (v2.1,y1.fName,v2.2)
noncomputable def zf9 (a0:Int):Option (zah × Bool):=
 (zay a0 1 3).bind fun v1=>
 if(!v1)then
  some ((⟨0,(⟨0⟩:zaG), [],0, []⟩:zah),false)
 else
  req (0≤a0∧a0*8≤140737488355328∧a0≤140737488355328)<|
  req (0≤a0∧a0*16≤140737488355328∧a0≤140737488355328)<|
  some ((⟨0,(⟨0⟩:zaG),(List.replicate (a0).toNat (⟨0⟩:zaG)),0,(List.replicate (a0).toNat (⟨0,0⟩:za1))⟩:zah),true)
noncomputable def zcT (a1:zah) (v1:Int × zaf) (v2:Bool):Option (zal × zaf):=
 if v2 then
  (zaP v1.2 ([1,2,5,9,14,30,50]:List Int)).bind fun v3=>
  some ((⟨1,0,v3.1⟩:zal),v3.2)
 else
  if(v1.1==3)then
   (zac v1.2 (IntKind.i64.wrap ((a1.fClocks.length:Int)+1))).bind fun v4=>
   (zac v4.2 11).bind fun v5=>
   some ((⟨2,v4.1,(IntKind.i64.wrap (v5.1-5))⟩:zal),v5.2)
  else
   if(v1.1==4)then
    if(v1.1==4)then
     (zac v1.2 (a1.fClocks.length:Int)).bind fun v6=>
     some ((⟨3,v6.1,0⟩:zal),v6.2)
    else
     some ((⟨4,0,0⟩:zal),v1.2)
   else
    if(v1.1==5)then
     (zac v1.2 (a1.fClocks.length:Int)).bind fun v7=>
     some ((⟨3,v7.1,0⟩:zal),v7.2)
    else
     some ((⟨4,0,0⟩:zal),v1.2)
noncomputable def zcu (a0:zaf) (a1:zah):Option (zal × zaf):=
 (zac a0 8).bind fun v1=>
 zvi (σ:=Bool) (
  if(v1.1==0)then
   some (.inl (v1.1==0))
  else
   if(v1.1==1)then
    some (.inl (v1.1==1))
   else
    some (.inl (v1.1==2))
 ) (fun s=>zcT a1 v1 s)
noncomputable def zeq (a1:zah) (v2:List zal) (v3:Int) (v4:List Int) (v5:Int) (v6:Int):Option ((List zal × Int × List Int × Int × Int) ⊕ Option (List zal × zaf)):=
 if(decide (v3>0))then
  (zcu (⟨v4,v5,v6⟩:zaf) a1).bind fun v7=>
  req ((((v2).length:Int)+(([v7.1]:List zal).length:Int))*24≤140737488355328∧((v2).length:Int)+(([v7.1]:List zal).length:Int)≤140737488355328)<|
  some (.inl ((v2++ [v7.1]),(IntKind.i64.wrap (v3-1)),v7.2.fcode,v7.2.fat,v7.2.fseed))
 else
  some (.inr (some (v2,(⟨v4,v5,v6⟩:zaf))))
noncomputable def zby (a0:zaf) (a1:zah) (a2:Int):Option (List zal × zaf):=
 (zac a0 (IntKind.i64.wrap (a2+1))).bind fun v1=>
 zat (fun s:List zal × Int × List Int × Int × Int=>zeq a1 s.1 s.2.1 s.2.2.1 s.2.2.2.1 s.2.2.2.2) ([],v1.1,v1.2.fcode,v1.2.fat,v1.2.fseed)
noncomputable def zlQ (a0:zaG):Option (Bool):=
 (zay a0.fOff (-5) 5).bind fun v1=>
 some v1
noncomputable def zed (a0:zaG):Option (Bool):=
 (zlQ a0).bind fun v1=>
 some v1
noncomputable def zfC (a0:List zaG):Option (Bool):=
 (zay (a0.length:Int) 1 3).bind fun v1=>
 some v1
noncomputable def zdU (a0:List zaG) (v2:Int):Option ((Int) ⊕ Option (Bool)):=
 if(decide (v2<(a0.length:Int)))then
  (getI a0 v2).bind fun y3=>
  (zed y3).bind fun v4=>
  if(!v4)then
   some (.inr (some false))
  else
   some (.inl (IntKind.i64.wrap (v2+1)))
 else
  some (.inr (zfC a0))
noncomputable def zfs (a0:List zaG):Option (Bool):=
 zat (fun s:Int=>zdU a0 s) 0
noncomputable def zcR (a0:zah) (v5:Int):Option ((Int) ⊕ Option (Bool)):=
 if(decide (v5<(a0.fLeases.length:Int)))then
  (getI a0.fLeases v5).bind fun y6=>
  (zay y6.fVer 0 a0.fVer).bind fun v7=>
  if v7 then
   (zay y6.fUntil 0 1020).bind fun v8=>
   if(!v8)then
    some (.inr (some false))
   else
    some (.inl (IntKind.i64.wrap (v5+1)))
  else
   some (.inr (some false))
 else
  some (.inr (some true))
noncomputable def zft (a0:zah):Option (Bool):=
 (zay a0.fNow 0 1000).bind fun v1=>
 if v1 then
  (zed a0.fMaster).bind fun v2=>
  if v2 then
   (zfs a0.fClocks).bind fun v3=>
   if v3 then
    (zay a0.fVer 0 20).bind fun v4=>
    if((!v4)||((a0.fLeases.length:Int) !=(a0.fClocks.length:Int)))then
     some false
    else
     zat (fun s:Int=>zcR a0 s) 0
   else
    some false
  else
   some false
 else
  some false
noncomputable def zhE (a0:zah):Option (zah):=
 req (((([]:List zaG).length:Int)+((a0.fClocks).length:Int))*8≤140737488355328∧(([]:List zaG).length:Int)+((a0.fClocks).length:Int)≤140737488355328)<|
 req (((([]:List za1).length:Int)+((a0.fLeases).length:Int))*16≤140737488355328∧(([]:List za1).length:Int)+((a0.fLeases).length:Int)≤140737488355328)<|
 some a0
noncomputable def zgO (a0:zah) (a1:zal):Option (Bool):=
 if(a1.fKind==1)then
  if(a1.fWho==0)then
   (zay a1.fBy 1 50).bind fun v1=>
   some v1
  else
   some false
 else
  if(a1.fKind==2)then
   (zay a1.fWho 0 (a0.fClocks.length:Int)).bind fun v2=>
   if v2 then
    (zed (⟨a1.fBy⟩:zaG)).bind fun v3=>
    some v3
   else
    some false
  else
   if(a1.fKind==3)then
    (zay a1.fWho 0 (IntKind.i64.wrap ((a0.fClocks.length:Int)-1))).bind fun v4=>
    some (v4&&(a1.fBy==0))
   else
    if(a1.fKind==4)then
     some ((a1.fWho==0)&&(a1.fBy==0))
    else
     some false
noncomputable def zgh (a0:zah) (a1:zaG):Option (Int):=
 some (IntKind.i64.wrap ((IntKind.i64.wrap (a0.fNow+a1.fOff))-5))
noncomputable def zgk (a0:zah):Option (Bool):=
 some (decide (a0.fVer<20))
noncomputable def zeu (a0:zah) (v1:Int):Option ((Int) ⊕ Option (Bool)):=
 if(decide (v1<(a0.fLeases.length:Int)))then
  (getI a0.fLeases v1).bind fun y2=>
  if(y2.fVer !=a0.fVer)then
   (zgh a0 a0.fMaster).bind fun v3=>
   if(decide (y2.fUntil≥v3))then
    some (.inr (some false))
   else
    some (.inl (IntKind.i64.wrap (v1+1)))
  else
   some (.inl (IntKind.i64.wrap (v1+1)))
 else
  some (.inr (zgk a0))
noncomputable def zfS (a0:zah):Option (Bool):=
 zat (fun s:Int=>zeu a0 s) 0
noncomputable def zib (a0:zah) (a1:zal):Option (zah × Bool):=
 if(a1.fKind==1)then
  if(decide ((IntKind.i64.wrap (a0.fNow+a1.fBy))>1000))then
   some (a0,false)
  else
   some ((⟨(IntKind.i64.wrap (a0.fNow+a1.fBy)),(⟨a0.fMaster.fOff⟩:zaG),a0.fClocks,a0.fVer,a0.fLeases⟩:zah),true)
 else
  if(a1.fKind==2)then
   if(a1.fWho==0)then
    some ((⟨a0.fNow,(⟨a1.fBy⟩:zaG),a0.fClocks,a0.fVer,a0.fLeases⟩:zah),true)
   else
    (getI a0.fClocks (IntKind.i64.wrap (a1.fWho-1))).bind fun y1=>
    some ((⟨a0.fNow,(⟨a0.fMaster.fOff⟩:zaG),(a0.fClocks.set ((IntKind.i64.wrap (a1.fWho-1))).toNat {y1 with fOff:=a1.fBy}),a0.fVer,a0.fLeases⟩:zah),true)
  else
   if(a1.fKind==3)then
    (zgh a0 a0.fMaster).bind fun v2=>
    if(decide (v2<0))then
     some (a0,false)
    else
     (getI a0.fLeases a1.fWho).bind fun y3=>
     some ((⟨a0.fNow,(⟨a0.fMaster.fOff⟩:zaG),a0.fClocks,a0.fVer,(a0.fLeases.set (a1.fWho).toNat (⟨a0.fVer,(IntKind.i64.wrap (v2+20))⟩:za1))⟩:zah),true)
   else
    (zfS a0).bind fun v4=>
    if(!v4)then
     some (a0,false)
    else
     some ((⟨a0.fNow,(⟨a0.fMaster.fOff⟩:zaG),a0.fClocks,(IntKind.i64.wrap (a0.fVer+1)),a0.fLeases⟩:zah),true)
noncomputable def zdS (a1:List zal) (v3:List Bool) (v4:Int) (v5:Int) (v6:Int) (v7:Int) (v8:List zaG) (v9:List za1):Option ((List Bool × Int × Int × Int × Int × List zaG × List za1) ⊕ Option (zah × List Bool × Bool)):=
 if(decide (v4<(a1.length:Int)))then
  (getI a1 v4).bind fun y10=>
  (zgO (⟨v5,(⟨v6⟩:zaG),v8,v7,v9⟩:zah) y10).bind fun v11=>
  if v11 then
   (zib (⟨v5,(⟨v6⟩:zaG),v8,v7,v9⟩:zah) y10).bind fun v12=>
   req ((((v3).length:Int)+(([v12.2]:List Bool).length:Int))*1≤140737488355328∧((v3).length:Int)+(([v12.2]:List Bool).length:Int)≤140737488355328)<|
   some (.inl ((v3++ [v12.2]),(IntKind.i64.wrap (v4+1)),v12.1.fNow,v12.1.fMaster.fOff,v12.1.fVer,v12.1.fClocks,v12.1.fLeases))
  else
   req ((((v3).length:Int)+(([v11]:List Bool).length:Int))*1≤140737488355328∧((v3).length:Int)+(([v11]:List Bool).length:Int)≤140737488355328)<|
   some (.inl ((v3++ [v11]),(IntKind.i64.wrap (v4+1)),v5,v6,v7,v8,v9))
 else
  some (.inr (some ((⟨v5,(⟨v6⟩:zaG),v8,v7,v9⟩:zah),v3,true)))
noncomputable def zfk (a0:zah) (a1:List zal):Option (zah × List Bool × Bool):=
 (zft a0).bind fun v1=>
 if((!v1)||(decide ((a1.length:Int)>40)))then
  some ((⟨0,(⟨0⟩:zaG), [],0, []⟩:zah), [],false)
 else
  (zhE a0).bind fun v2=>
  zat (fun s:List Bool × Int × Int × Int × Int × List zaG × List za1=>zdS a1 s.1 s.2.1 s.2.2.1 s.2.2.2.1 s.2.2.2.2.1 s.2.2.2.2.2.1 s.2.2.2.2.2.2) ([],0,v2.fNow,v2.fMaster.fOff,v2.fVer,v2.fClocks,v2.fLeases)
noncomputable def zck (a0:zaf):Option (zah × zaf):=
 (zac a0 3).bind fun v1=>
 (zf9 (IntKind.i64.wrap ((1:Int)+v1.1))).bind fun v2=>
 (zby v1.2 v2.1 20).bind fun v3=>
 (zfk v2.1 v3.1).bind fun v4=>
 (zaB v3.2 4).bind fun v5=>
 if v5.1 then
  (zac v5.2 (v4.1.fLeases.length:Int)).bind fun v6=>
  (getI v4.1.fLeases v6.1).bind fun y7=>
  (zaP v6.2 ([0,v4.1.fNow,(IntKind.i64.wrap (v4.1.fNow+1)),(IntKind.i64.wrap (v4.1.fNow+20)),1020]:List Int)).bind fun v8=>
  (zac v8.2 (IntKind.i64.wrap (v4.1.fVer+1))).bind fun v9=>
  some ((⟨v4.1.fNow,v4.1.fMaster,v4.1.fClocks,v4.1.fVer,((v4.1.fLeases.set (v6.1).toNat {y7 with fUntil:=v8.1}).set (v6.1).toNat {{y7 with fUntil:=v8.1}with fVer:=v9.1})⟩:zah),(⟨v9.2.fcode,v9.2.fat,v9.2.fseed⟩:zaf))
 else
  some (v4.1,(⟨v5.2.fcode,v5.2.fat,v5.2.fseed⟩:zaf))
noncomputable def zch (a0:zaf):Option (zah × zaf):=
 (zck a0).bind fun v1=>
 (zac v1.2 14).bind fun v2=>
 if(v2.1==0)then
  (zaP v2.2 ([(-1),0,999,1000,1001]:List Int)).bind fun v3=>
  some ((⟨v3.1,v1.1.fMaster,v1.1.fClocks,v1.1.fVer,v1.1.fLeases⟩:zah),(⟨v3.2.fcode,v3.2.fat,v3.2.fseed⟩:zaf))
 else
  if(v2.1==1)then
   (zaP v2.2 ([(-1),20,21]:List Int)).bind fun v4=>
   some ((⟨v1.1.fNow,v1.1.fMaster,v1.1.fClocks,v4.1,v1.1.fLeases⟩:zah),(⟨v4.2.fcode,v4.2.fat,v4.2.fseed⟩:zaf))
  else
   if(v2.1==2)then
    (zaP v2.2 ([(-6),6,5]:List Int)).bind fun v5=>
    (getI v1.1.fClocks 0).bind fun y6=>
    some ((⟨v1.1.fNow,v1.1.fMaster,(v1.1.fClocks.set ((0:Int)).toNat {y6 with fOff:=v5.1}),v1.1.fVer,v1.1.fLeases⟩:zah),(⟨v5.2.fcode,v5.2.fat,v5.2.fseed⟩:zaf))
   else
    if(v2.1==3)then
     req ((((v1.1.fLeases).length:Int)+(([(⟨0,0⟩:za1)]:List za1).length:Int))*16≤140737488355328∧((v1.1.fLeases).length:Int)+(([(⟨0,0⟩:za1)]:List za1).length:Int)≤140737488355328)<|
     some ((⟨v1.1.fNow,v1.1.fMaster,v1.1.fClocks,v1.1.fVer,(v1.1.fLeases++ [(⟨0,0⟩:za1)])⟩:zah),(⟨v2.2.fcode,v2.2.fat,v2.2.fseed⟩:zaf))
    else
     if(v2.1==4)then
      (zac v2.2 25).bind fun v7=>
      (zaP v7.2 ([(-1),1021]:List Int)).bind fun v8=>
      (getI v1.1.fLeases 0).bind fun y9=>
      some ((⟨v1.1.fNow,v1.1.fMaster,v1.1.fClocks,v1.1.fVer,(v1.1.fLeases.set ((0:Int)).toNat (⟨(IntKind.i64.wrap (v7.1-1)),v8.1⟩:za1))⟩:zah),(⟨v8.2.fcode,v8.2.fat,v8.2.fseed⟩:zaf))
     else
      some ((⟨v1.1.fNow,v1.1.fMaster,v1.1.fClocks,v1.1.fVer,v1.1.fLeases⟩:zah),(⟨v2.2.fcode,v2.2.fat,v2.2.fseed⟩:zaf))
noncomputable def zcF (v2:List Int) (v3:Int) (v4:Int) (v5:Int) (v6:Int) (v7:Int) (v8:List zaG) (v9:List za1):Option (zah × List zal):=
 (zby (⟨v2,v3,v4⟩:zaf) (⟨v5,(⟨v6⟩:zaG),v8,v7,v9⟩:zah) 40).bind fun v10=>
 (zaB v10.2 8).bind fun v11=>
 if v11.1 then
  (zac v11.2 6).bind fun v12=>
  (zac v12.2 5).bind fun v13=>
  (zac v13.2 5).bind fun v14=>
  req ((((v10.1).length:Int)+(([(⟨v12.1,(IntKind.i64.wrap (v13.1-1)),v14.1⟩:zal)]:List zal).length:Int))*24≤140737488355328∧((v10.1).length:Int)+(([(⟨v12.1,(IntKind.i64.wrap (v13.1-1)),v14.1⟩:zal)]:List zal).length:Int)≤140737488355328)<|
  some ((⟨v5,(⟨v6⟩:zaG),v8,v7,v9⟩:zah),(v10.1++ [(⟨v12.1,(IntKind.i64.wrap (v13.1-1)),v14.1⟩:zal)]))
 else
  some ((⟨v5,(⟨v6⟩:zaG),v8,v7,v9⟩:zah),v10.1)
noncomputable def zdt (a0:List Int):Option (zah × List zal):=
 (zck (⟨a0,0,0⟩:zaf)).bind fun v1=>
 (zaB v1.2 12).bind fun v15=>
 if v15.1 then
  (zch v15.2).bind fun v16=>
  zcF v16.2.fcode v16.2.fat v16.2.fseed v16.1.fNow v16.1.fMaster.fOff v16.1.fVer v16.1.fClocks v16.1.fLeases
 else
  zcF v15.2.fcode v15.2.fat v15.2.fseed v1.1.fNow v1.1.fMaster.fOff v1.1.fVer v1.1.fClocks v1.1.fLeases
noncomputable def zf5 (a0:Int):Option (zah × Bool):=
 (zao a0 1 3).bind fun v1=>
 if(!v1)then
  some ((⟨0,(⟨0⟩:zaG), [],0, []⟩:zah),false)
 else
  req (0≤a0∧a0*8≤140737488355328∧a0≤140737488355328)<|
  req (0≤a0∧a0*16≤140737488355328∧a0≤140737488355328)<|
  some ((⟨0,(⟨0⟩:zaG),(List.replicate (a0).toNat (⟨0⟩:zaG)),0,(List.replicate (a0).toNat (⟨0,0⟩:za1))⟩:zah),true)
noncomputable def zee (a0:zaG):Option (Bool):=
 (zao a0.fOff (-5) 5).bind fun v1=>
 some v1
noncomputable def zge (a0:zaG):Option (Bool):=
 (zee a0).bind fun v1=>
 some (!v1)
noncomputable def zes (a0:za1) (a1:zah):Option (Bool):=
 (zao a0.fVer 0 a1.fVer).bind fun v1=>
 if v1 then
  (zao a0.fUntil 0 1020).bind fun v2=>
  some (!v2)
 else
  some true
noncomputable def zeg (a0:zah):Option (Bool):=
 (zao a0.fNow 0 1000).bind fun v1=>
 if v1 then
  (zee a0.fMaster).bind fun v2=>
  if v2 then
   (zao (a0.fClocks.length:Int) 1 3).bind fun v3=>
   if v3 then
    (zao a0.fVer 0 20).bind fun v4=>
    if v4 then
     if((a0.fLeases.length:Int)==(a0.fClocks.length:Int))then
      (zaw a0.fClocks (fun y0_=>zge y0_)).bind fun v5=>
      if v5 then
       some false
      else
       (zaw a0.fLeases (fun y0_=>zes y0_ a0)).bind fun v6=>
       some (!v6)
     else
      some false
    else
     some false
   else
    some false
  else
   some false
 else
  some false
noncomputable def zce (a0:zah) (a1:zal):Option (Bool):=
 if(a1.fKind==1)then
  if(a1.fWho==0)then
   (zao a1.fBy 1 50).bind fun v1=>
   some v1
  else
   some false
 else
  if(a1.fKind==2)then
   (zao a1.fWho 0 (a0.fClocks.length:Int)).bind fun v2=>
   if v2 then
    (zee (⟨a1.fBy⟩:zaG)).bind fun v3=>
    some v3
   else
    some false
  else
   if(a1.fKind==3)then
    (zao a1.fWho 0 (IntKind.i64.wrap ((a0.fClocks.length:Int)-1))).bind fun v4=>
    some (v4&&(a1.fBy==0))
   else
    if(a1.fKind==4)then
     some ((a1.fWho==0)&&(a1.fBy==0))
    else
     some false
noncomputable def zd2 (a0:zah) (a1:zal):Option (Bool):=
 (zeg a0).bind fun v1=>
 if v1 then
  (zce a0 a1).bind fun v2=>
  some v2
 else
  some false
noncomputable def zbl (xs:List zaG):Option (List zaG):=zjH 8 xs
noncomputable def za6 (xs:List za1):Option (List za1):=zjH 16 xs
noncomputable def zfp (a0:zah):Option (zah):=
 (zbl a0.fClocks).bind fun v1=>
 (za6 a0.fLeases).bind fun v2=>
 some (⟨a0.fNow,a0.fMaster,v1,a0.fVer,v2⟩:zah)
noncomputable def zc0 (a0:zaG) (a1:Int):Option (zAs):=
 some (⟨(IntKind.i64.wrap ((IntKind.i64.wrap (a1+a0.fOff))-5)),(IntKind.i64.wrap ((IntKind.i64.wrap (a1+a0.fOff))+5))⟩:zAs)
noncomputable def zc2 (a0:za1) (a1:zah) (a2:Int):Option (Bool):=
 some ((a0.fVer !=a1.fVer)&&(decide (a0.fUntil≥a2)))
noncomputable def zds (a0:zah) (a1:zal):Option (Bool × zah):=
 (zc0 a0.fMaster a0.fNow).bind fun v1=>
 if((a1.fKind==1)&&(decide ((IntKind.i64.wrap (a0.fNow+a1.fBy))≤1000)))then
  some (true,(⟨(IntKind.i64.wrap (a0.fNow+a1.fBy)),(⟨a0.fMaster.fOff⟩:zaG),a0.fClocks,a0.fVer,a0.fLeases⟩:zah))
 else
  if((a1.fKind==2)&&(a1.fWho==0))then
   some (true,(⟨a0.fNow,(⟨a1.fBy⟩:zaG),a0.fClocks,a0.fVer,a0.fLeases⟩:zah))
  else
   if(a1.fKind==2)then
    (getI a0.fClocks (IntKind.i64.wrap (a1.fWho-1))).bind fun y2=>
    some (true,(⟨a0.fNow,(⟨a0.fMaster.fOff⟩:zaG),(a0.fClocks.set ((IntKind.i64.wrap (a1.fWho-1))).toNat {y2 with fOff:=a1.fBy}),a0.fVer,a0.fLeases⟩:zah))
   else
    if((a1.fKind==3)&&(decide (v1.fLow≥0)))then
     (getI a0.fLeases a1.fWho).bind fun y3=>
     some (true,(⟨a0.fNow,(⟨a0.fMaster.fOff⟩:zaG),a0.fClocks,a0.fVer,(a0.fLeases.set (a1.fWho).toNat (⟨a0.fVer,(IntKind.i64.wrap (v1.fLow+20))⟩:za1))⟩:zah))
    else
     if(a1.fKind==4)then
      if(decide (a0.fVer<20))then
       (zaw a0.fLeases (fun y0_=>zc2 y0_ a0 v1.fLow)).bind fun v4=>
       if(!v4)then
        some (true,(⟨a0.fNow,(⟨a0.fMaster.fOff⟩:zaG),a0.fClocks,(IntKind.i64.wrap (a0.fVer+1)),a0.fLeases⟩:zah))
       else
        some (false,a0)
      else
       some (false,a0)
     else
      some (false,a0)
noncomputable def zfl (a0:zah) (a1:zal):Option (zah × Bool × Bool):=
 (zd2 a0 a1).bind fun v1=>
 if(!v1)then
  some ((⟨0,(⟨0⟩:zaG), [],0, []⟩:zah),false,false)
 else
  (zfp a0).bind fun v2=>
  (zds v2 a1).bind fun v3=>
  some (v3.2,v3.1,true)
noncomputable def zda (a0:zah) (a1:Int):Option (Bool):=
 (getI a0.fClocks a1).bind fun y1=>
 (zc0 y1 a0.fNow).bind fun v2=>
 (getI a0.fLeases a1).bind fun y3=>
 some (decide (v2.fHigh<y3.fUntil))
noncomputable def zfV (a0:zah) (a1:Int):Option (Int × Bool × Bool):=
 (zeg a0).bind fun v1=>
 if v1 then
  (zao a1 0 (IntKind.i64.wrap ((a0.fClocks.length:Int)-1))).bind fun v2=>
  if(!v2)then
   some (0,false,false)
  else
   (getI a0.fLeases a1).bind fun y3=>
   (zda a0 a1).bind fun v4=>
   some (y3.fVer,v4,true)
 else
  some (0,false,false)
noncomputable def zgX (a0:zab) (a1:zaj):Option (Bool):=
 (zd9 a0).bind fun v1=>
 if v1 then
  (zbS a0 a1).bind fun v2=>
  some v2
 else
  some false
noncomputable def zif (a0:zab) (a1:List zaa) (a2:zaj):Option (List zaa × Bool × Bool):=
 (zgX a0 a2).bind fun v1=>
 if v1 then
  (zeY a1).bind fun v2=>
  if(!v2)then
   some ([],false,false)
  else
   (zco a0 a2).bind fun v3=>
   (zeU a1 v3).bind fun v4=>
   some (v4.1,v4.2,true)
 else
  some ([],false,false)
noncomputable def zg1 (a0:zab) (a1:List UInt8) (a2:Int) (a3:List zaa):Option (Bool × Bool):=
 (zeV a0 a1 a3).bind fun v1=>
 if v1 then
  (zao a2 0 2).bind fun v2=>
  if(!v2)then
   some (false,false)
  else
   (zb7 a0 a1 a2 a3).bind fun v3=>
   some (v3,true)
 else
  some (false,false)
noncomputable def zil (v2:zab × List UInt8 × Bool) (v7:List zaa):Option (Bool):=
 (zg1 v2.1 v2.2.1 1 v7).bind fun v8=>
 some (v8.2&&v8.1)
noncomputable def zcv (v4:List zab × Bool) (v9:List zaa) (v10:Int) (v18:Int) (v19:Int) (v20:Int) (v21:List zaG) (v22:List za1) (v23:Int × Bool × Bool) (v24:Int) (v25:List (List UInt8)) (v26:List (List UInt8)):Option ((List zaa × Int × Int × Int × Int × List zaG × List za1) ⊕ Option (Bool)):=
 (getI v4.1 v23.1).bind fun y27=>
 (zfi y27 (⟨v24,(⟨v25⟩:zbE),(⟨v26⟩:zbE)⟩:zaj)).bind fun v28=>
 if(!v28)then
  some (.inl (v9,(IntKind.i64.wrap (v10+1)),v18,v19,v20,v21,v22))
 else
  (zif y27 v9 (⟨v24,(⟨v25⟩:zbE),(⟨v26⟩:zbE)⟩:zaj)).bind fun v29=>
  if(!v29.2.2)then
   some (.inr (some false))
  else
   some (.inl (v29.1,(IntKind.i64.wrap (v10+1)),v18,v19,v20,v21,v22))
noncomputable def zfU (v1:zab × List zaa × zaj) (v4:List zab × Bool) (v9:List zaa) (v10:Int) (v18:Int) (v19:Int) (v20:Int) (v21:List zaG) (v22:List za1):Option ((List zaa × Int × Int × Int × Int × List zaG × List za1) ⊕ Option (Bool)):=
 (zfV (⟨v18,(⟨v19⟩:zaG),v21,v20,v22⟩:zah) (Int.tmod v10 3)).bind fun v23=>
 if(((!v23.2.2)||(decide (v23.1<0)))||(decide (v23.1>2)))then
  some (.inr (some false))
 else
  if(!v23.2.1)then
   some (.inl (v9,(IntKind.i64.wrap (v10+1)),v18,v19,v20,v21,v22))
  else
   if(((Int.tmod v10 3)==1)&&(v1.2.2.fKind==1))then
    zcv v4 v9 v10 v18 v19 v20 v21 v22 v23 2 v1.2.2.fNew.fVals []
   else
    if(((Int.tmod v10 3)==2)&&(v1.2.2.fKind !=1))then
     zcv v4 v9 v10 v18 v19 v20 v21 v22 v23 1 [] v1.2.2.fOld.fVals
    else
     zcv v4 v9 v10 v18 v19 v20 v21 v22 v23 v1.2.2.fKind v1.2.2.fOld.fVals v1.2.2.fNew.fVals
noncomputable def zaZ (v1:zab × List zaa × zaj) (v2:zab × List UInt8 × Bool) (v3:zah × List zal) (v4:List zab × Bool) (v9:List zaa) (v10:Int) (v11:Int) (v12:Int) (v13:Int) (v14:List zaG) (v15:List za1):Option ((List zaa × Int × Int × Int × Int × List zaG × List za1) ⊕ Option (Bool)):=
 if(decide (v10<(v3.2.length:Int)))then
  (getI v3.2 v10).bind fun y16=>
  if((y16.fKind==4)&&(v13==2))then
   some (.inl (v9,(IntKind.i64.wrap (v10+1)),v11,v12,v13,v14,v15))
  else
   (zfl (⟨v11,(⟨v12⟩:zaG),v14,v13,v15⟩:zah) y16).bind fun v17=>
   zvi (σ:=Int × Int × Int × List zaG × List za1) (
    if v17.2.2 then
     some (.inl (v17.1.fNow,v17.1.fMaster.fOff,v17.1.fVer,v17.1.fClocks,v17.1.fLeases))
    else
     some (.inl (v11,v12,v13,v14,v15))
   ) (fun s=>zfU v1 v4 v9 v10 s.1 s.2.1 s.2.2.1 s.2.2.2.1 s.2.2.2.2)
 else
  some (.inr (zil v2 v9))
noncomputable def zf1 (a0:List Int) (a1:List Int):Option (Bool):=
 if(decide ((IntKind.i64.wrap ((a0.length:Int)+(a1.length:Int)))>1048576))then
  some true
 else
  (zfq a0).bind fun v1=>
  (zgY v1.1 0).bind fun v2=>
  (zdt a1).bind fun v3=>
  (zig v2.1 v2.2.1 2).bind fun v4=>
  if v2.2.2 then
   (zbm v2.1).bind fun v5=>
   if(v5 !=v4.2)then
    some false
   else
    if((!v4.2)||((v4.1.length:Int) !=3))then
     some (!v4.2)
    else
     (zf5 3).bind fun v6=>
     if(!v6.2)then
      some false
     else
      zat (fun s:List zaa × Int × Int × Int × Int × List zaG × List za1=>zaZ v1 v2 v3 v4 s.1 s.2.1 s.2.2.1 s.2.2.2.1 s.2.2.2.2.1 s.2.2.2.2.2.1 s.2.2.2.2.2.2) ([],0,v6.1.fNow,v6.1.fMaster.fOff,v6.1.fVer,v6.1.fClocks,v6.1.fLeases)
  else
   some true
end Go.Proofs.YtbmbkgalkfmjdaaGreatDoor
end
section
namespace Go.Proofs.YtbmbkgalkfmjdaaGreatDoor
open Go.RowKit
set_option maxRecDepth 100000
set_option maxHeartbeats 4000000
noncomputable def zer:FS:=mkH 313 [.v .s, .v .s] (.v (.i .i64)) (fun x=>zaT x.1 x.2.1) fun x r _ h=>zhy x.1 x.2.1 r h
noncomputable def zgq:FS:=mkH 319 [.v .s, .v (.i .u8)] (.v (.i .i64)) (fun x=>zbf x.1 x.2.1) fun x r _ h=>zgn x.1 x.2.1 r h
noncomputable def zrv:FS:=mkH 301 [.v .s, .v (.i .i64), .v (.i .i64)] (.tu (.cons (.v (.i .i64)) (.cons (.v .b) .nil))) (fun x=>zgV x.1 x.2.1 x.2.2.1) fun x r _ h=>zrj x.1 x.2.1 x.2.2.1 r h
noncomputable def zrX:FS:=mkH 283 [.v (.i .i64)] (.v .s) (fun x=>zis x.1) fun x r _ h=>zrS x.1 r h
noncomputable def zqJ:FS:=mkH 315 [.v .s, .v .s] (.v (.i .i64)) (fun x=>zfR x.1 x.2.1) fun x r _ h=>zq8 x.1 x.2.1 r h
noncomputable def zri:FS:=mkH 199 [.v (.l .s), .v .s] (.v .s) (fun x=>zg2 x.1 x.2.1) fun x r _ h=>zrJ x.1 x.2.1 r h
noncomputable def zog:FS:=mkH 314 [.v .s, .v (.i .i64)] (.v (.l .s)) (fun x=>zgH x.1 x.2.1) fun x r _ h=>zn2 x.1 x.2.1 r h
noncomputable def zey:FS:=mkH 285 [.v (.l (.st 0)), .v (.i .i64), .v (.l (.st 0))] (.v (.l (.st 0))) (fun x=>zpu x.1 x.2.1 x.2.2.1) fun x r hp h=>zDa (t:=27) (it:=3) (el:=143) (K:=3) (by kernel_rfl) (fun _=>by kernel_rfl) zz1 h
noncomputable def zlr:FS:=mkF 129 [.rf (.st 1)] (.tu (.cons (.v (.i .i64)) (.cons (.v (.st 1)) .nil))) (fun x=>zcD x.1) [] [.inl] (fun _ _=>by kernel_rfl) (fun _ _=>by kernel_rfl)
noncomputable def zap:FS:=mkF 53 [.rf (.st 1), .v (.i .i64)] (.tu (.cons (.v (.i .i64)) (.cons (.v (.st 1)) .nil))) (fun x=>zac x.1 x.2.1) [zlr] [.inl] (fun _ _=>by kernel_rfl) (fun _ _=>by kernel_rfl)
noncomputable def zbV:FS:=mkF 121 [.rf (.st 1), .v (.l .s)] (.tu (.cons (.v .s) (.cons (.v (.st 1)) .nil))) (fun x=>zax x.1 x.2.1) [zap] [] (fun _ _=>by kernel_rfl) (fun _ _=>by kernel_rfl)
noncomputable def zcb:FS:=mkF 48 [.rf (.st 1), .v (.i .i64)] (.tu (.cons (.v .b) (.cons (.v (.st 1)) .nil))) (fun x=>zaB x.1 x.2.1) [zap] [] (fun _ _=>by kernel_rfl) (fun _ _=>by kernel_rfl)
noncomputable def zhh:FS:=mkF 45 [.rf (.st 1)] (.tu (.cons (.v (.st 3)) (.cons (.v (.st 1)) .nil))) (fun x=>zcm x.1) [zbV,zap,zcb] [.sp [.i .i64, .l (.i .u8), .i .i64, .i .u64, .l (.st 2)], .inl, .pt] (fun _ _=>by kernel_rfl) (fun _ _=>by kernel_rfl)
noncomputable def ztK:FS:=mkF 167 [.v (.st 3)] (.v (.st 3)) (fun x=>zeW x.1) [] [] (fun _ _=>by kernel_rfl) (fun _ _=>by kernel_rfl)
noncomputable def zmN:FS:=mkF 158 [.v (.st 3), .v .s] (.v (.i .i64)) (fun x=>zbn x.1 x.2.1) [] [.sp [.i .i64]] (fun _ _=>by kernel_rfl) (fun _ _=>by kernel_rfl)
noncomputable def ztz:FS:=mkF 85 [.v (.st 3), .v .s, .v (.i .i64)] (.v (.st 3)) (fun x=>zeT x.1 x.2.1 x.2.2.1) [ztK,zmN] [] (fun _ _=>by kernel_rfl) (fun _ _=>by kernel_rfl)
noncomputable def zfz:FS:=mkF 212 [.rf (.st 1), .v (.st 3)] (.tu (.cons (.v (.st 4)) (.cons (.v (.st 1)) .nil))) (fun x=>za0 x.1 x.2.1) [zbV] [.sp [.l (.i .u8), .i .i64, .i .u64, .l .s]] (fun _ _=>by kernel_rfl) (fun _ _=>by kernel_rfl)
noncomputable def zrs:FS:=mkF 268 [.v (.l .s), .v .s] (.v .s) (fun x=>ziE x.1 x.2.1) [] [.sp [.s, .i .i64], .inl] (fun _ _=>by kernel_rfl) (fun _ _=>by kernel_rfl)
noncomputable def zkf:FS:=mkF 206 [.v (.st 3), .v (.st 4)] (.v (.st 0)) (fun x=>zbh x.1 x.2.1) [zrs] [] (fun _ _=>by kernel_rfl) (fun _ _=>by kernel_rfl)
noncomputable def znD:FS:=mkF 123 [.v (.l (.st 0)), .v (.st 0)] (.v (.l (.st 0))) (fun x=>za7 x.1 x.2.1) [] [.sp [.i .i64]] (fun _ _=>by kernel_rfl) (fun _ _=>by kernel_rfl)
noncomputable def zrR:FS:=mkF 240 [.v .s, .v (.i .u8)] (.v (.l .s)) (fun x=>zdl x.1 x.2.1) [] [.sp [.l .s, .i .i64, .i .i64], .inl] (fun _ _=>by kernel_rfl) (fun _ _=>by kernel_rfl)
noncomputable def zdZ:FS:=mkF 59 [.v (.i .i64), .v (.i .i64), .v (.i .i64)] (.v .b) (fun x=>zay x.1 x.2.1 x.2.2.1) [] [] (fun _ _=>by kernel_rfl) (fun _ _=>by kernel_rfl)
noncomputable def zrQ:FS:=mkF 270 [.v .s, .v .s] (.v .b) (fun x=>zej x.1 x.2.1) [] [.sp [.i .i64], .sp [.b, .i .i64]] (fun _ _=>by kernel_rfl) (fun _ _=>by kernel_rfl)
noncomputable def zpN:FS:=mkF 226 [.v .s] (.v .b) (fun x=>zdD x.1) [zdZ,zrQ] [] (fun _ _=>by kernel_rfl) (fun _ _=>by kernel_rfl)
noncomputable def zlN:FS:=mkF 146 [.v (.st 3), .v (.st 4)] (.v .b) (fun x=>zcG x.1 x.2.1) [zpN] [.sp [.i .i64]] (fun _ _=>by kernel_rfl) (fun _ _=>by kernel_rfl)
noncomputable def zrH:FS:=mkF 168 [.v (.st 3), .v (.st 0)] (.tu (.cons (.v (.st 4)) (.cons (.v .b) .nil))) (fun x=>zgR x.1 x.2.1) [zrR,zlN,zkf] [] (fun _ _=>by kernel_rfl) (fun _ _=>by kernel_rfl)
noncomputable def zlE:FS:=mkF 87 [.v (.st 3), .v (.l (.st 0))] (.v (.l (.st 4))) (fun x=>zdi x.1 x.2.1) [zrH] [.sp [.l (.st 4), .i .i64], .inl] (fun _ _=>by kernel_rfl) (fun _ _=>by kernel_rfl)
noncomputable def zpE:FS:=mkF 207 [.v (.st 3), .v (.st 2), .v (.st 4)] (.v .s) (fun x=>zbA x.1 x.2.1 x.2.2.1) [] [] (fun _ _=>by kernel_rfl) (fun _ _=>by kernel_rfl)
noncomputable def zl4:FS:=mkF 213 [.rf (.st 1)] (.tu (.cons (.v .s) (.cons (.v (.st 1)) .nil))) (fun x=>zdY x.1) [zbV] [] (fun _ _=>by kernel_rfl) (fun _ _=>by kernel_rfl)
noncomputable def zmm:FS:=mkF 214 [.rf (.st 1)] (.tu (.cons (.v .s) (.cons (.v (.st 1)) .nil))) (fun x=>zd0 x.1) [zbV] [] (fun _ _=>by kernel_rfl) (fun _ _=>by kernel_rfl)
noncomputable def zkT:FS:=mkF 122 [.rf (.st 1), .v (.st 3)] (.tu (.cons (.v (.l (.st 0))) (.cons (.v (.st 1)) .nil))) (fun x=>zde x.1 x.2.1) [zap,zcb,zl4,zmm,znD,zlE,zfz,zpE,zkf] [.sp [.l (.st 0), .i .i64, .l (.i .u8), .i .i64, .i .u64], .sp [.i .i64, .l (.i .u8), .i .i64, .i .u64, .l (.st 0)], .inl, .sp [.i .i64, .l (.i .u8), .i .i64, .i .u64, .l (.st 0)], .inl, .inl] (fun _ _=>by kernel_rfl) (fun _ _=>by kernel_rfl)
noncomputable def ziX:FS:=mkF 57 [.v .s, .v (.i .i64)] (.v .b) (fun x=>zcJ x.1 x.2.1) [] [.sp [.i .i64]] (fun _ _=>by kernel_rfl) (fun _ _=>by kernel_rfl)
noncomputable def zvb:FS:=mkF 135 [.v (.l .s), .v .s] (.v (.i .i64)) (fun x=>zg4 x.1 x.2.1) [] [.sp [.i .i64]] (fun _ _=>by kernel_rfl) (fun _ _=>by kernel_rfl)
noncomputable def zrA:FS:=mkF 58 [.v (.l .s)] (.v .b) (fun x=>zgZ x.1) [zdZ,ziX,zvb] [.sp [.i .i64]] (fun _ _=>by kernel_rfl) (fun _ _=>by kernel_rfl)
noncomputable def zhn:FS:=mkF 11 [.v (.st 3)] (.v .b) (fun x=>zbm x.1) [ziX,zrA,zdZ] [.sp [.i .i64]] (fun _ _=>by kernel_rfl) (fun _ _=>by kernel_rfl)
noncomputable def zq0:FS:=mkF 84 [.v (.st 3), .v .s, .v (.i .i64)] (.v .b) (fun x=>zhZ x.1 x.2.1 x.2.2.1) [zhn,zmN,zdZ] [] (fun _ _=>by kernel_rfl) (fun _ _=>by kernel_rfl)
noncomputable def zbp:FS:=mkF 60 [.v (.i .i64), .v (.i .i64), .v (.i .i64)] (.v .b) (fun x=>zao x.1 x.2.1 x.2.2.1) [] [] (fun _ _=>by kernel_rfl) (fun _ _=>by kernel_rfl)
noncomputable def zpl:FS:=mkF 229 [.v (.l (.st 0))] (.v (.l .s)) (fun x=>zfo x.1) [] [.sp [.i .i64, .l .s]] (fun _ _=>by kernel_rfl) (fun _ _=>by kernel_rfl)
noncomputable def zkI:FS:=mkF 296 [.v (.i .u8)] (.v .b) (fun x=>zeK x.1) [] [] (fun _ _=>by kernel_rfl) (fun _ _=>by kernel_rfl)
noncomputable def zlZ:FS:=mkF 297 [.v .s, .v (.i .u8)] (.v (.i .i64)) (fun x=>zfF x.1 x.2.1) [zgq] [] (fun _ _=>by kernel_rfl) (fun _ _=>by kernel_rfl)
noncomputable def zhS:FS:=mkF 269 [.v .s, .v .s] (.v .b) (fun x=>zdC x.1 x.2.1) [zkI,zlZ] [.sp [.i .i64]] (fun _ _=>by kernel_rfl) (fun _ _=>by kernel_rfl)
noncomputable def zrM:FS:=mkF 208 [.v .s] (.v .b) (fun x=>zfa x.1) [zbp,zhS] [] (fun _ _=>by kernel_rfl) (fun _ _=>by kernel_rfl)
noncomputable def zph:FS:=mkF 228 [.v (.l .s)] (.v .b) (fun x=>zfu x.1) [zrM] [.sp [.i .i64]] (fun _ _=>by kernel_rfl) (fun _ _=>by kernel_rfl)
end Go.Proofs.YtbmbkgalkfmjdaaGreatDoor
end
section
namespace Go.Proofs.YtbmbkgalkfmjdaaGreatDoor
open Go.RowKit
set_option maxRecDepth 100000
set_option maxHeartbeats 4000000
noncomputable def zbU:FS:=mkH 232 [.v (.l (.st 0)), .fn [.st 0] .b] (.v (.i .i64)) (fun x=>zbk x.1 (fun y=>x.2.1.φ (y,()))) fun x r hp h=>zg5 (f:=232) (t:=zw9 3) (by kernel_rfl) (by kernel_rfl) (ztA (av:=(zgb tab.av (.st 0))) (cn:=3) (fun _=>⟨_,rfl,rfl⟩) h (fun y b hb=>hp.2.1 (y,()) b hb))
noncomputable def zbC:FS:=mkH 149 [.v (.l (.st 0)), .fn [.st 0] .b] (.v .b) (fun x=>zaw x.1 (fun y=>x.2.1.φ (y,()))) fun x r hp h=>zg5 (f:=149) (t:=zw6 232) (by kernel_rfl) (by kernel_rfl) (zsK h fun r hr=>zbU.ok x r hp hr)
noncomputable def zrx:FS:=mkF 279 [.v .s] (.v .b) (fun x=>zgS x.1) [zhS] [] (fun _ _=>by kernel_rfl) (fun _ _=>by kernel_rfl)
noncomputable def zq3:FS:=mkF 231 [.v .s, .v .b] (.v .b) (fun x=>zfZ x.1 x.2.1) [zrx] [] (fun _ _=>by kernel_rfl) (fun _ _=>by kernel_rfl)
noncomputable def zmt:FS:=mkF 230 [.v (.st 0)] (.v .b) (fun x=>zdP x.1) [zq3] [] (fun _ _=>by kernel_rfl) (fun _ _=>by kernel_rfl)
noncomputable def zlp:FS:=mkP zmt fun _=>by kernel_rfl
noncomputable def znO:FS:=mkF 148 [.v (.l (.st 0))] (.v .b) (fun x=>zeN x.1) [zpl,zph,zbC,zlp] [] (fun _ _=>by kernel_rfl) (fun _ _=>by kernel_rfl)
noncomputable def zqh:FS:=mkF 150 [.v (.st 0)] (.v .b) (fun x=>zf7 x.1) [] [] (fun _ _=>by kernel_rfl) (fun _ _=>by kernel_rfl)
noncomputable def zpc:FS:=mkP zqh fun _=>by kernel_rfl
noncomputable def znp:FS:=mkF 68 [.v (.l (.st 0))] (.v .b) (fun x=>zeY x.1) [znO,zbC,zpc] [] (fun _ _=>by kernel_rfl) (fun _ _=>by kernel_rfl)
noncomputable def zoc:FS:=mkF 219 [.v .s, .v (.i .i64)] (.v .b) (fun x=>zcI x.1 x.2.1) [zbp] [.sp [.i .i64]] (fun _ _=>by kernel_rfl) (fun _ _=>by kernel_rfl)
noncomputable def zgL:FS:=mkF 200 [.v (.l .s), .v .s] (.v (.i .i64)) (fun x=>zbo x.1 x.2.1) [] [.sp [.i .i64]] (fun _ _=>by kernel_rfl) (fun _ _=>by kernel_rfl)
noncomputable def zc6:FS:=mkF 107 [.v (.l .s), .v .s] (.v .b) (fun x=>zaL x.1 x.2.1) [zgL] [] (fun _ _=>by kernel_rfl) (fun _ _=>by kernel_rfl)
noncomputable def zlO:FS:=mkF 55 [.v (.i .i64)] (.v .b) (fun x=>zfc x.1) [zbp] [] (fun _ _=>by kernel_rfl) (fun _ _=>by kernel_rfl)
noncomputable def zjR:FS:=mkF 130 [.v (.st 3)] (.v .b) (fun x=>zd9 x.1) [zoc,zbp,zlO,zc6] [.sp [.i .i64], .sp [.i .i64]] (fun _ _=>by kernel_rfl) (fun _ _=>by kernel_rfl)
noncomputable def zeL:FS:=mkH 220 [.v (.l (.st 2)), .fn [.st 2] .b] (.v (.i .i64)) (fun x=>zbk x.1 (fun y=>x.2.1.φ (y,()))) fun x r hp h=>zg5 (f:=220) (t:=zw9 3) (by kernel_rfl) (by kernel_rfl) (ztA (av:=(zgb tab.av (.st 2))) (cn:=3) (fun _=>⟨_,rfl,rfl⟩) h (fun y b hb=>hp.2.1 (y,()) b hb))
noncomputable def ziK:FS:=mkF 221 [.v (.st 2), .rf .s] (.v .b) (fun x=>zdI x.1 x.2.1) [] [] (fun _ _=>by kernel_rfl) (fun _ _=>by kernel_rfl)
noncomputable def ziD:FS:=mkP ziK fun _=>by kernel_rfl
noncomputable def zep:FS:=mkF 131 [.v (.st 3), .v .s] (.v (.i .i64)) (fun x=>zbw x.1 x.2.1) [zeL,ziD] [] (fun _ _=>by kernel_rfl) (fun _ _=>by kernel_rfl)
noncomputable def zm0:FS:=mkF 54 [.v (.st 3), .v .s] (.v .b) (fun x=>zeX x.1 x.2.1) [zjR,zep] [] (fun _ _=>by kernel_rfl) (fun _ _=>by kernel_rfl)
noncomputable def zin:FS:=mkF 132 [.v (.st 3), .v .s] (.v (.st 2)) (fun x=>zbR x.1 x.2.1) [zep] [] (fun _ _=>by kernel_rfl) (fun _ _=>by kernel_rfl)
noncomputable def zdw:FS:=mkH 222 [.v (.l .s)] (.v (.l .s)) (fun x=>zaX x.1) fun x r hp h=>zg5 (f:=222) (t:=zqj 16 1) (by kernel_rfl) (by kernel_rfl) (zkP (bytes:=16) (sz:=1) (av:=(zgb tab.av .s)) (fun x=>⟨zjM _ x,zeS (by kernel_rfl) x⟩) h)
noncomputable def zfG:FS:=mkH 223 [.v (.l (.st 2))] (.v (.l (.st 2))) (fun x=>zbF x.1) fun x r hp h=>zg5 (f:=223) (t:=zqj 32 3) (by kernel_rfl) (by kernel_rfl) (zkP (bytes:=32) (sz:=3) (av:=(zgb tab.av (.st 2))) (fun x=>⟨zjM _ x,zeS (by kernel_rfl) x⟩) h)
noncomputable def zjT:FS:=mkF 133 [.v (.st 3)] (.v (.st 3)) (fun x=>zc9 x.1) [zdw,zfG] [] (fun _ _=>by kernel_rfl) (fun _ _=>by kernel_rfl)
noncomputable def zi5:FS:=mkF 134 [.v (.st 3), .v .s, .v (.i .i64)] (.v (.st 3)) (fun x=>zbK x.1 x.2.1 x.2.2.1) [zjT,zep] [] (fun _ _=>by kernel_rfl) (fun _ _=>by kernel_rfl)
noncomputable def zlu:FS:=mkF 56 [.v (.st 3), .v .s, .v (.i .i64)] (.v (.l (.st 3))) (fun x=>zcz x.1 x.2.1 x.2.2.1) [zin,zjT,zi5] [.sp [.i .i64, .l (.st 3)], .inl] (fun _ _=>by kernel_rfl) (fun _ _=>by kernel_rfl)
noncomputable def zp0:FS:=mkF 21 [.v (.st 3), .v .s, .v (.i .i64)] (.tu (.cons (.v (.st 3)) (.cons (.v .b) .nil))) (fun x=>zhW x.1 x.2.1 x.2.2.1) [zq0,ztz] [] (fun _ _=>by kernel_rfl) (fun _ _=>by kernel_rfl)
noncomputable def zuS:FS:=mkF 10 [.v (.st 3), .v .s, .v (.i .i64)] (.tu (.cons (.v (.l (.st 3))) (.cons (.v .b) .nil))) (fun x=>zig x.1 x.2.1 x.2.2.1) [zm0,zlO,zlu] [] (fun _ _=>by kernel_rfl) (fun _ _=>by kernel_rfl)
noncomputable def zeH:FS:=mkH 86 [.v (.l (.st 0))] (.v (.l (.st 0))) (fun x=>zaF x.1) fun x r hp h=>zg5 (f:=86) (t:=zqj 40 3) (by kernel_rfl) (by kernel_rfl) (zkP (bytes:=40) (sz:=3) (av:=(zgb tab.av (.st 0))) (fun x=>⟨zjM _ x,zeS (by kernel_rfl) x⟩) h)
noncomputable def zgr:FS:=mkF 201 [.v (.st 3), .v .s] (.v .s) (fun x=>zb8 x.1 x.2.1) [] [] (fun _ _=>by kernel_rfl) (fun _ _=>by kernel_rfl)
noncomputable def zgo:FS:=mkF 312 [.v .s, .v .s] (.v .b) (fun x=>zbg x.1 x.2.1) [] [] (fun _ _=>by kernel_rfl) (fun _ _=>by kernel_rfl)
noncomputable def zgm:FS:=mkF 291 [.v .s, .v .s] (.tu (.cons (.v .s) (.cons (.v .b) .nil))) (fun x=>zb2 x.1 x.2.1) [zgo] [] (fun _ _=>by kernel_rfl) (fun _ _=>by kernel_rfl)
noncomputable def zhY:FS:=mkF 261 [.v .s, .v .s] (.tu (.cons (.v .s) (.cons (.v .b) .nil))) (fun x=>zcY x.1 x.2.1) [zgm] [] (fun _ _=>by kernel_rfl) (fun _ _=>by kernel_rfl)
noncomputable def zh5:FS:=mkF 292 [.v .s, .v .s] (.tu (.cons (.v .s) (.cons (.v .s) (.cons (.v .b) .nil)))) (fun x=>zb4 x.1 x.2.1) [zer] [] (fun _ _=>by kernel_rfl) (fun _ _=>by kernel_rfl)
noncomputable def ztE:FS:=mkF 262 [.v .s, .v .s] (.tu (.cons (.v .s) (.cons (.v .s) (.cons (.v .b) .nil)))) (fun x=>zeQ x.1 x.2.1) [zh5] [] (fun _ _=>by kernel_rfl) (fun _ _=>by kernel_rfl)
noncomputable def zlR:FS:=mkF 263 [.v .s] (.v .b) (fun x=>zei x.1) [zbp,zhS] [] (fun _ _=>by kernel_rfl) (fun _ _=>by kernel_rfl)
noncomputable def zip:FS:=mkF 196 [.v (.st 3), .v .s, .v .s] (.tu (.cons (.v .s) (.cons (.v .s) (.cons (.v .b) .nil)))) (fun x=>zcf x.1 x.2.1 x.2.2.1) [zgr,zhY,ztE,zlR] [] (fun _ _=>by kernel_rfl) (fun _ _=>by kernel_rfl)
noncomputable def zdv:FS:=mkF 102 [.v (.st 3), .v .s, .v (.l (.st 0))] (.v (.l .s)) (fun x=>zbe x.1 x.2.1 x.2.2.1) [zip] [.sp [.i .i64, .l .s], .inl] (fun _ _=>by kernel_rfl) (fun _ _=>by kernel_rfl)
noncomputable def zqC:FS:=mkF 316 [.v .s, .v .s] (.v (.i .i64)) (fun x=>zf2 x.1 x.2.1) [zer] [] (fun _ _=>by kernel_rfl) (fun _ _=>by kernel_rfl)
noncomputable def zmL:FS:=mkF 293 [.v .s, .v .s, .v (.i .i64), .v (.i .i64)] (.v (.l .s)) (fun x=>zf8 x.1 x.2.1 x.2.2.1 x.2.2.2.1) [zog,zqC,zqJ] [.pt, .sp [.s, .i .i64, .l .s]] (fun _ _=>by kernel_rfl) (fun _ _=>by kernel_rfl)
noncomputable def zqV:FS:=mkF 264 [.v .s, .v .s] (.v (.l .s)) (fun x=>zeM x.1 x.2.1) [zmL] [] (fun _ _=>by kernel_rfl) (fun _ _=>by kernel_rfl)
noncomputable def zcU:FS:=mkH 202 [.v (.l .s), .fn [.s] .b] (.v (.i .i64)) (fun x=>zbk x.1 (fun y=>x.2.1.φ (y,()))) fun x r hp h=>zg5 (f:=202) (t:=zyG) (by kernel_rfl) (by kernel_rfl) (zBh (av:=(zgb tab.av .s)) (fun _=>rfl) h (fun y b hb=>hp.2.1 (y,()) b hb))
noncomputable def zeP:FS:=mkH 109 [.v (.l .s), .fn [.s] .b] (.v .b) (fun x=>zaw x.1 (fun y=>x.2.1.φ (y,()))) fun x r hp h=>zg5 (f:=109) (t:=zw6 202) (by kernel_rfl) (by kernel_rfl) (zsK h fun r hr=>zcU.ok x r hp hr)
noncomputable def zj0:FS:=mkF 278 [.v .s] (.v .b) (fun x=>zc5 x.1) [zlR] [] (fun _ _=>by kernel_rfl) (fun _ _=>by kernel_rfl)
noncomputable def zjo:FS:=mkP zj0 fun _=>by kernel_rfl
noncomputable def zhr:FS:=mkF 227 [.v (.st 3), .v (.st 4)] (.v .b) (fun x=>za5 x.1 x.2.1) [zeP,zjo] [] (fun _ _=>by kernel_rfl) (fun _ _=>by kernel_rfl)
noncomputable def zf3:FS:=mkF 106 [.v (.st 3), .v (.st 4)] (.v (.st 0)) (fun x=>zaO x.1 x.2.1) [zri] [] (fun _ _=>by kernel_rfl) (fun _ _=>by kernel_rfl)
noncomputable def zj1:FS:=mkF 198 [.v (.st 3), .v (.st 0)] (.tu (.cons (.v (.st 4)) (.cons (.v .b) .nil))) (fun x=>zc1 x.1 x.2.1) [zhY,zqV,zhr,zf3] [] (fun _ _=>by kernel_rfl) (fun _ _=>by kernel_rfl)
end Go.Proofs.YtbmbkgalkfmjdaaGreatDoor
end
