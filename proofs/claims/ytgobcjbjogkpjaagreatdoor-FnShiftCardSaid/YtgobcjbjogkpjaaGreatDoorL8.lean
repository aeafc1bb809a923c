/- Parts of a proof, joined: QM, QF1, QF2, QF3, QF4, QF5, QR, OZ. -/
import Derived.Test.YtgobcjbjogkpjaaGreatDoorL7
section
namespace Go.Proofs.YtgobcjbjogkpjaaGreatDoor
open Go.RowKit
set_option maxRecDepth 100000
noncomputable def zbw (a0:zad):Option (Int × zad):=
 if(decide (a0.fat<(a0.fcode.length:Int)))then
  (getI a0.fcode a0.fat).bind fun y1=>
  if(decide ((IntKind.i64.wrap (a0.fat+1))≤(a0.fcode.length:Int)))then
   some ((IntKind.i64.wrap y1),(⟨a0.fcode,(IntKind.i64.wrap (a0.fat+1)),(IntKind.u64.wrap ((IntKind.u64.wrap ((IntKind.u64.wrap (a0.fseed*6364136223846793005))+(IntKind.u64.wrap (IntKind.i64.wrap y1))))+1442695040888963407))⟩:zad))
  else
   some ((IntKind.i64.wrap (IntKind.u64.wrap ((BitVec.ofInt (IntKind.bits .u64) (Int.fdiv (IntKind.u64.wrap ((IntKind.u64.wrap ((IntKind.u64.wrap (a0.fseed*6364136223846793005))+(IntKind.u64.wrap (IntKind.i64.wrap y1))))+1442695040888963407)) (2^(min ((40:Int)).toNat (IntKind.bits .u64))))&&&BitVec.ofInt (IntKind.bits .u64) 255).toNat:Int))),(⟨a0.fcode,(IntKind.i64.wrap (a0.fat+1)),(IntKind.u64.wrap ((IntKind.u64.wrap ((IntKind.u64.wrap (a0.fseed*6364136223846793005))+(IntKind.u64.wrap (IntKind.i64.wrap y1))))+1442695040888963407))⟩:zad))
 else
  if(decide ((IntKind.i64.wrap (a0.fat+1))≤(a0.fcode.length:Int)))then
   some (0,(⟨a0.fcode,(IntKind.i64.wrap (a0.fat+1)),(IntKind.u64.wrap ((IntKind.u64.wrap ((IntKind.u64.wrap (a0.fseed*6364136223846793005))+(IntKind.u64.wrap 0)))+1442695040888963407))⟩:zad))
  else
   some ((IntKind.i64.wrap (IntKind.u64.wrap ((BitVec.ofInt (IntKind.bits .u64) (Int.fdiv (IntKind.u64.wrap ((IntKind.u64.wrap ((IntKind.u64.wrap (a0.fseed*6364136223846793005))+(IntKind.u64.wrap 0)))+1442695040888963407)) (2^(min ((40:Int)).toNat (IntKind.bits .u64))))&&&BitVec.ofInt (IntKind.bits .u64) 255).toNat:Int))),(⟨a0.fcode,(IntKind.i64.wrap (a0.fat+1)),(IntKind.u64.wrap ((IntKind.u64.wrap ((IntKind.u64.wrap (a0.fseed*6364136223846793005))+(IntKind.u64.wrap 0)))+1442695040888963407))⟩:zad))
noncomputable def zac (a0:zad) (a1:Int):Option (Int × zad):=
 if(decide (a1≤1))then
  some (0,a0)
 else
  (zbw a0).bind fun v1=>
  if(decide (a1>200))then
   (zbw v1.2).bind fun v2=>
   req (a1≠0)<|
   some ((Int.tmod (IntKind.i64.wrap ((IntKind.i64.wrap (v1.1*256))+v2.1)) a1),(⟨v2.2.fcode,v2.2.fat,v2.2.fseed⟩:zad))
  else
   req (a1≠0)<|
   some ((Int.tmod v1.1 a1),(⟨v1.2.fcode,v1.2.fat,v1.2.fseed⟩:zad))
noncomputable def za2 (a0:zad) (a1:List (List UInt8)):Option (List UInt8 × zad):=
 (zac a0 (a1.length:Int)).bind fun v1=>
 (getI a1 v1.1).bind fun y2=>
 some (y2,v1.2)
noncomputable def zas (a0:zad) (a1:Int):Option (Bool × zad):=
 (zac a0 a1).bind fun v1=>
 some ((v1.1==0),v1.2)
noncomputable def zaJ (v2:Int × zad) (v3:Int) (v7:List za7) (y8:List UInt8) (v9:List Int) (v10:Int) (v11:Int) (v12:Bool):Option ((Int × List Int × Int × Int × List za7) ⊕ Option (zab × zad)):=
 if v12 then
  (zac (⟨v9,v10,v11⟩:zad) (IntKind.i64.wrap (((ze8 [([107]:List UInt8),([97]:List UInt8),([98]:List UInt8),([99,99]:List UInt8)] 0 (IntKind.i64.wrap ((2:Int)+v2.1))).length:Int)-1))).bind fun v13=>
  (zac v13.2 4).bind fun v14=>
  req ((((v7).length:Int)+(([(⟨y8,(IntKind.i64.wrap ((1:Int)+v13.1)),v14.1⟩:za7)]:List za7).length:Int))*32≤140737488355328∧((v7).length:Int)+(([(⟨y8,(IntKind.i64.wrap ((1:Int)+v13.1)),v14.1⟩:za7)]:List za7).length:Int)≤140737488355328)<|
  some (.inl ((IntKind.i64.wrap (v3+1)),v14.2.fcode,v14.2.fat,v14.2.fseed,(v7++ [(⟨y8,(IntKind.i64.wrap ((1:Int)+v13.1)),v14.1⟩:za7)])))
 else
  some (.inl ((IntKind.i64.wrap (v3+1)),v9,v10,v11,v7))
noncomputable def zdY (v1:List UInt8 × zad) (v2:Int × zad) (v3:Int) (v4:List Int) (v5:Int) (v6:Int) (v7:List za7):Option ((Int × List Int × Int × Int × List za7) ⊕ Option (zab × zad)):=
 if(decide (v3<([([105]:List UInt8),([106]:List UInt8),([109]:List UInt8)].length:Int)))then
  (getI [([105]:List UInt8),([106]:List UInt8),([109]:List UInt8)] v3).bind fun y8=>
  (zas (⟨v4,v5,v6⟩:zad) 3).bind fun v15=>
  if(!v15.1)then
   zaJ v2 v3 v7 y8 v15.2.fcode v15.2.fat v15.2.fseed true
  else
   if(y8==([105]:List UInt8))then
    (zas v15.2 8).bind fun v16=>
    zaJ v2 v3 v7 y8 v16.2.fcode v16.2.fat v16.2.fseed (!v16.1)
   else
    zaJ v2 v3 v7 y8 v15.2.fcode v15.2.fat v15.2.fseed false
 else
  some (.inr (some ((⟨v1.1,(ze8 [([107]:List UInt8),([97]:List UInt8),([98]:List UInt8),([99,99]:List UInt8)] 0 (IntKind.i64.wrap ((2:Int)+v2.1))),v7⟩:zab),(⟨v4,v5,v6⟩:zad))))
noncomputable def zax (a0:zad):Option (zab × zad):=
 (za2 a0 ([([116]:List UInt8),([117]:List UInt8)]:List (List UInt8))).bind fun v1=>
 (zac v1.2 3).bind fun v2=>
 req (0≤(0:Int)∧(0:Int)≤(IntKind.i64.wrap ((2:Int)+v2.1))∧(IntKind.i64.wrap ((2:Int)+v2.1))≤(([([107]:List UInt8),([97]:List UInt8),([98]:List UInt8),([99,99]:List UInt8)]:List (List UInt8)).length:Int))<|
 req (((([]:List (List UInt8)).length:Int)+(((ze8 [([107]:List UInt8),([97]:List UInt8),([98]:List UInt8),([99,99]:List UInt8)] 0 (IntKind.i64.wrap ((2:Int)+v2.1)))).length:Int))*16≤140737488355328∧(([]:List (List UInt8)).length:Int)+(((ze8 [([107]:List UInt8),([97]:List UInt8),([98]:List UInt8),([99,99]:List UInt8)] 0 (IntKind.i64.wrap ((2:Int)+v2.1)))).length:Int)≤140737488355328)<|
 zau (fun s:Int × List Int × Int × Int × List za7=>zdY v1 v2 s.1 s.2.1 s.2.2.1 s.2.2.2.1 s.2.2.2.2) (0,v2.2.fcode,v2.2.fat,v2.2.fseed, [])
noncomputable def zhi (a1:zab) (v2:List Int) (v3:Int) (v4:Int) (v5:List (List UInt8)):Option ((List Int × Int × Int × List (List UInt8)) ⊕ Option (zcm × zad)):=
 if(decide ((v5.length:Int)<(a1.fCols.length:Int)))then
  (za2 (⟨v2,v3,v4⟩:zad) ([([120]:List UInt8),([121]:List UInt8),([120]:List UInt8),([48]:List UInt8),([97,98,99]:List UInt8)]:List (List UInt8))).bind fun v6=>
  req ((((v5).length:Int)+(([v6.1]:List (List UInt8)).length:Int))*16≤140737488355328∧((v5).length:Int)+(([v6.1]:List (List UInt8)).length:Int)≤140737488355328)<|
  some (.inl (v6.2.fcode,v6.2.fat,v6.2.fseed,(v5++ [v6.1])))
 else
  some (.inr (some ((⟨v5⟩:zcm),(⟨v2,v3,v4⟩:zad))))
noncomputable def zbm (a0:zad) (a1:zab):Option (zcm × zad):=
 (za2 a0 ([([49]:List UInt8),([50]:List UInt8),([51]:List UInt8),([97]:List UInt8),([122,122]:List UInt8),([97,98,99]:List UInt8)]:List (List UInt8))).bind fun v1=>
 zau (fun s:List Int × Int × Int × List (List UInt8)=>zhi a1 s.1 s.2.1 s.2.2.1 s.2.2.2) (v1.2.fcode,v1.2.fat,v1.2.fseed, [v1.1])
noncomputable def zc6 (a0:List (List UInt8)) (a1:List UInt8) (v1:List UInt8) (v2:Int):Option ((List UInt8 × Int) ⊕ Option (List UInt8)):=
 if(decide (v2<(a0.length:Int)))then
  (getI a0 v2).bind fun y3=>
  if(decide (v2>0))then
   req ((v1).length+(a1).length≤9223372036854775807)<|
   req (((v1++a1)).length+(y3).length≤9223372036854775807)<|
   some (.inl (((v1++a1)++y3),(IntKind.i64.wrap (v2+1))))
  else
   req ((v1).length+(y3).length≤9223372036854775807)<|
   some (.inl ((v1++y3),(IntKind.i64.wrap (v2+1))))
 else
  some (.inr (some v1))
noncomputable def zjO (a0:List (List UInt8)) (a1:List UInt8):Option (List UInt8):=
 zau (fun s:List UInt8 × Int=>zc6 a0 a1 s.1 s.2) (([]:List UInt8),0)
noncomputable def zb2 (a0:zab) (a1:zcm):Option (zaa):=
 req ((a0.fName).length+(([47]:List UInt8)).length≤9223372036854775807)<|
 (getI a1.fVals 0).bind fun y1=>
 req (((a0.fName++([47]:List UInt8))).length+(y1).length≤9223372036854775807)<|
 req (0≤(1:Int)∧(1:Int)≤(a1.fVals.length:Int)∧(a1.fVals.length:Int)≤(a1.fVals.length:Int))<|
 (zjO (ze8 a1.fVals 1 (a1.fVals.length:Int)) ([44]:List UInt8)).bind fun v2=>
 some (⟨((a0.fName++([47]:List UInt8))++y1),v2,false⟩:zaa)
noncomputable def zfX (a0:List zaa) (a1:zaa) (v1:Int):Option (List zaa):=
 if(decide (v1>0))then
  (getI a0 (IntKind.i64.wrap (v1-1))).bind fun y2=>
  if(y2.fKey==a1.fKey)then
   req (((([]:List zaa).length:Int)+((a0).length:Int))*40≤140737488355328∧(([]:List zaa).length:Int)+((a0).length:Int)≤140737488355328)<|
   (getI a0 (IntKind.i64.wrap (v1-1))).bind fun y3=>
   some (a0.set ((IntKind.i64.wrap (v1-1))).toNat a1)
  else
   req (0≤v1∧v1≤(a0.length:Int)∧(a0.length:Int)≤(a0.length:Int))<|
   req (((([]:List zaa).length:Int)+(((ze8 a0 v1 (a0.length:Int))).length:Int))*40≤140737488355328∧(([]:List zaa).length:Int)+(((ze8 a0 v1 (a0.length:Int))).length:Int)≤140737488355328)<|
   req (0≤(0:Int)∧(0:Int)≤v1∧v1≤(a0.length:Int))<|
   req (((([]:List zaa).length:Int)+(((ze8 a0 0 v1)).length:Int))*40≤140737488355328∧(([]:List zaa).length:Int)+(((ze8 a0 0 v1)).length:Int)≤140737488355328)<|
   req (((((ze8 a0 0 v1)).length:Int)+(([a1]:List zaa).length:Int))*40≤140737488355328∧(((ze8 a0 0 v1)).length:Int)+(([a1]:List zaa).length:Int)≤140737488355328)<|
   req ((((((ze8 a0 0 v1)++ [a1])).length:Int)+(((ze8 a0 v1 (a0.length:Int))).length:Int))*40≤140737488355328∧((((ze8 a0 0 v1)++ [a1])).length:Int)+(((ze8 a0 v1 (a0.length:Int))).length:Int)≤140737488355328)<|
   some (((ze8 a0 0 v1)++ [a1])++(ze8 a0 v1 (a0.length:Int)))
 else
  req (0≤v1∧v1≤(a0.length:Int)∧(a0.length:Int)≤(a0.length:Int))<|
  req (((([]:List zaa).length:Int)+(((ze8 a0 v1 (a0.length:Int))).length:Int))*40≤140737488355328∧(([]:List zaa).length:Int)+(((ze8 a0 v1 (a0.length:Int))).length:Int)≤140737488355328)<|
  req (0≤(0:Int)∧(0:Int)≤v1∧v1≤(a0.length:Int))<|
  req (((([]:List zaa).length:Int)+(((ze8 a0 0 v1)).length:Int))*40≤140737488355328∧(([]:List zaa).length:Int)+(((ze8 a0 0 v1)).length:Int)≤140737488355328)<|
  req (((((ze8 a0 0 v1)).length:Int)+(([a1]:List zaa).length:Int))*40≤140737488355328∧(((ze8 a0 0 v1)).length:Int)+(([a1]:List zaa).length:Int)≤140737488355328)<|
  req ((((((ze8 a0 0 v1)++ [a1])).length:Int)+(((ze8 a0 v1 (a0.length:Int))).length:Int))*40≤140737488355328∧((((ze8 a0 0 v1)++ [a1])).length:Int)+(((ze8 a0 v1 (a0.length:Int))).length:Int)≤140737488355328)<|
  some (((ze8 a0 0 v1)++ [a1])++(ze8 a0 v1 (a0.length:Int)))
noncomputable def zcQ (a0:List zaa) (a1:zaa) (v4:Int):Option ((Int) ⊕ Option (List zaa)):=
 if(decide (v4>0))then
  (getI a0 (IntKind.i64.wrap (v4-1))).bind fun y5=>
  if(!(Op.bytesLess y5.fKey a1.fKey||y5.fKey==a1.fKey))then
   some (.inl (IntKind.i64.wrap (v4-1)))
  else
   some (.inr (zfX a0 a1 v4))
 else
  some (.inr (zfX a0 a1 v4))
noncomputable def zaX (a0:List zaa) (a1:zaa):Option (List zaa):=
 zau (fun s:Int=>zcQ a0 a1 s) (a0.length:Int)
noncomputable def zhn (a0:List UInt8) (v1:Int) (v2:List (List UInt8)):Option (List (List UInt8)):=
 req (0≤v1∧v1≤(a0.length:Int)∧(a0.length:Int)≤(a0.length:Int))<|
 req ((((v2).length:Int)+(([(ze8 a0 v1 (a0.length:Int))]:List (List UInt8)).length:Int))*16≤140737488355328∧((v2).length:Int)+(([(ze8 a0 v1 (a0.length:Int))]:List (List UInt8)).length:Int)≤140737488355328)<|
 some (v2++ [(ze8 a0 v1 (a0.length:Int))])
noncomputable def zc4 (a0:List UInt8) (a1:Int) (v3:List (List UInt8)) (v4:Int) (v5:Int):Option ((List (List UInt8) × Int × Int) ⊕ Option (List (List UInt8))):=
 if(decide (v5<(a0.length:Int)))then
  (getI a0 v5).bind fun y6=>
  if((y6.toNat:Int)==a1)then
   req (0≤v4∧v4≤v5∧v5≤(a0.length:Int))<|
   req ((((v3).length:Int)+(([(ze8 a0 v4 v5)]:List (List UInt8)).length:Int))*16≤140737488355328∧((v3).length:Int)+(([(ze8 a0 v4 v5)]:List (List UInt8)).length:Int)≤140737488355328)<|
   some (.inl ((v3++ [(ze8 a0 v4 v5)]),(IntKind.i64.wrap (v5+1)),(IntKind.i64.wrap (v5+1))))
  else
   some (.inl (v3,v4,(IntKind.i64.wrap (v5+1))))
 else
  some (.inr (zhn a0 v4 v3))
noncomputable def zdL (a0:List UInt8) (a1:Int):Option (List (List UInt8)):=
 zau (fun s:List (List UInt8) × Int × Int=>zc4 a0 a1 s.1 s.2.1 s.2.2) ([],0,0)
noncomputable def zba (a0:Int) (a1:Int) (a2:Int):Option (Bool):=
 some ((decide (a0≥a1))&&(decide (a0≤a2)))
noncomputable def zhC (v1:Int) (v3:Bool):Option ((Int) ⊕ Option (Bool)):=
 if(!v3)then
  some (.inr (some false))
 else
  some (.inl (IntKind.i64.wrap (v1+1)))
noncomputable def zd3 (a1:List UInt8) (v1:Int) (y2:UInt8) (v4:Bool) (v5:Int):Option ((Bool × Int) ⊕ Option ((Int) ⊕ Option (Bool))):=
 if(decide (v5<(a1.length:Int)))then
  if v4 then
   some (.inl (true,(IntKind.i64.wrap (v5+1))))
  else
   (getI a1 v5).bind fun y6=>
   some (.inl (((y2.toNat:Int)==(y6.toNat:Int)),(IntKind.i64.wrap (v5+1))))
 else
  some (.inr (zhC v1 v4))
noncomputable def zhm (a0:List UInt8) (a1:List UInt8) (v1:Int):Option ((Int) ⊕ Option (Bool)):=
 if(decide (v1<(a0.length:Int)))then
  (getI a0 v1).bind fun y2=>
  zau (fun s:Bool × Int=>zd3 a1 v1 y2 s.1 s.2) ((((decide ((y2.toNat:Int)≥97))&&(decide ((y2.toNat:Int)≤122)))||((decide ((y2.toNat:Int)≥48))&&(decide ((y2.toNat:Int)≤57)))),0)
 else
  some (.inr (some true))
noncomputable def zeR (a0:List UInt8) (a1:List UInt8):Option (Bool):=
 zau (fun s:Int=>zhm a0 a1 s) 0
noncomputable def zd6 (a0:List UInt8):Option (Bool):=
 (zba (a0.length:Int) 1 3).bind fun v1=>
 if v1 then
  (zeR a0 ([]:List UInt8)).bind fun v2=>
  some v2
 else
  some false
noncomputable def zhp (a0:zab) (a1:zcm):Option (Bool):=
 some ((a1.fVals.length:Int)==(a0.fCols.length:Int))
noncomputable def zho (a0:zab) (a1:zcm) (v1:Int):Option ((Int) ⊕ Option (Bool)):=
 if(decide (v1<(a1.fVals.length:Int)))then
  (getI a1.fVals v1).bind fun y2=>
  (zd6 y2).bind fun v3=>
  if(!v3)then
   some (.inr (some false))
  else
   some (.inl (IntKind.i64.wrap (v1+1)))
 else
  some (.inr (zhp a0 a1))
noncomputable def zcX (a0:zab) (a1:zcm):Option (Bool):=
 zau (fun s:Int=>zho a0 a1 s) 0
noncomputable def zhF (a0:zab) (a1:zaa):Option (zcm × Bool):=
 if(decide ((a1.fKey.length:Int)<3))then
  some ((⟨[]⟩:zcm),false)
 else
  req (0≤(2:Int)∧(2:Int)≤(a1.fKey.length:Int)∧(a1.fKey.length:Int)≤(a1.fKey.length:Int))<|
  (zdL a1.fVal 44).bind fun v1=>
  req (((([(ze8 a1.fKey 2 (a1.fKey.length:Int))]:List (List UInt8)).length:Int)+((v1).length:Int))*16≤140737488355328∧(([(ze8 a1.fKey 2 (a1.fKey.length:Int))]:List (List UInt8)).length:Int)+((v1).length:Int)≤140737488355328)<|
  (zcX a0 (⟨([(ze8 a1.fKey 2 (a1.fKey.length:Int))]++v1)⟩:zcm)).bind fun v2=>
  if v2 then
   (zb2 a0 (⟨([(ze8 a1.fKey 2 (a1.fKey.length:Int))]++v1)⟩:zcm)).bind fun v3=>
   some ((⟨([(ze8 a1.fKey 2 (a1.fKey.length:Int))]++v1)⟩:zcm),(v3.fKey==a1.fKey&&(v3.fVal==a1.fVal&&(v3.fGone==a1.fGone))))
  else
   some ((⟨([(ze8 a1.fKey 2 (a1.fKey.length:Int))]++v1)⟩:zcm),false)
noncomputable def zc3 (a0:zab) (a1:List zaa) (v1:List zcm) (v2:Int):Option ((List zcm × Int) ⊕ Option (List zcm)):=
 if(decide (v2<(a1.length:Int)))then
  (getI a1 v2).bind fun y3=>
  (zhF a0 y3).bind fun v4=>
  if v4.2 then
   req ((((v1).length:Int)+(([v4.1]:List zcm).length:Int))*24≤140737488355328∧((v1).length:Int)+(([v4.1]:List zcm).length:Int)≤140737488355328)<|
   some (.inl ((v1++ [v4.1]),(IntKind.i64.wrap (v2+1))))
  else
   some (.inl (v1,(IntKind.i64.wrap (v2+1))))
 else
  some (.inr (some v1))
noncomputable def zeO (a0:zab) (a1:List zaa):Option (List zcm):=
 zau (fun s:List zcm × Int=>zc3 a0 a1 s.1 s.2) ([],0)
noncomputable def zb9 (a0:zab) (a1:za7) (a2:zcm):Option (List UInt8):=
 req ((a0.fName).length+(([46]:List UInt8)).length≤9223372036854775807)<|
 req (((a0.fName++([46]:List UInt8))).length+(a1.fName).length≤9223372036854775807)<|
 req ((((a0.fName++([46]:List UInt8))++a1.fName)).length+(([47]:List UInt8)).length≤9223372036854775807)<|
 (getI a2.fVals a1.fCol).bind fun y1=>
 req (((((a0.fName++([46]:List UInt8))++a1.fName)++([47]:List UInt8))).length+(y1).length≤9223372036854775807)<|
 req ((((((a0.fName++([46]:List UInt8))++a1.fName)++([47]:List UInt8))++y1)).length+(([47]:List UInt8)).length≤9223372036854775807)<|
 (getI a2.fVals 0).bind fun y2=>
 req (((((((a0.fName++([46]:List UInt8))++a1.fName)++([47]:List UInt8))++y1)++([47]:List UInt8))).length+(y2).length≤9223372036854775807)<|
 some ((((((a0.fName++([46]:List UInt8))++a1.fName)++([47]:List UInt8))++y1)++([47]:List UInt8))++y2)
noncomputable def zeu (a0:zad):Option (List UInt8 × zad):=
 (za2 a0 ([([97]:List UInt8),([98]:List UInt8),([99]:List UInt8),([109]:List UInt8),([110]:List UInt8),([122]:List UInt8),([114,47,49]:List UInt8),([105,47,120,47,49]:List UInt8)]:List (List UInt8))).bind fun v1=>
 some (v1.1,v1.2)
noncomputable def zew (a0:zad):Option (List UInt8 × zad):=
 (za2 a0 ([([]:List UInt8),([49]:List UInt8),([55]:List UInt8),([49,48]:List UInt8),([45,51]:List UInt8),([120]:List UInt8),([97,44,98,95,99]:List UInt8)]:List (List UInt8))).bind fun v1=>
 some (v1.1,v1.2)
noncomputable def zee (v6:List Int) (v7:Int) (v8:Int) (v9:List zaa):Option (List zaa × zad):=
 (zas (⟨v6,v7,v8⟩:zad) 6).bind fun v10=>
 if v10.1 then
  (zeu v10.2).bind fun v11=>
  (zew v11.2).bind fun v12=>
  (zaX v9 (⟨v11.1,v12.1,false⟩:zaa)).bind fun v13=>
  some (v13,(⟨v12.2.fcode,v12.2.fat,v12.2.fseed⟩:zad))
 else
  some (v9,(⟨v10.2.fcode,v10.2.fat,v10.2.fseed⟩:zad))
noncomputable def zeh (a1:zab) (v14:Int) (y19:za7) (v21:List Int) (v22:Int) (v23:Int) (v24:List zaa):Option ((Int × List Int × Int × Int × List zaa) ⊕ Option (List zaa × zad)):=
 (zas (⟨v21,v22,v23⟩:zad) 5).bind fun v25=>
 if v25.1 then
  (zbm v25.2 a1).bind fun v26=>
  (zb9 a1 y19 v26.1).bind fun v27=>
  (zaX v24 (⟨v27,([]:List UInt8),false⟩:zaa)).bind fun v28=>
  some (.inl ((IntKind.i64.wrap (v14+1)),v26.2.fcode,v26.2.fat,v26.2.fseed,v28))
 else
  some (.inl ((IntKind.i64.wrap (v14+1)),v25.2.fcode,v25.2.fat,v25.2.fseed,v24))
noncomputable def zgo (a1:zab) (v14:Int) (y19:za7) (v20:List zcm) (v29:Int) (v30:List Int) (v31:Int) (v32:Int) (v33:List zaa):Option ((Int × List Int × Int × Int × List zaa) ⊕ Option ((Int × List Int × Int × Int × List zaa) ⊕ Option (List zaa × zad))):=
 if(decide (v29<(v20.length:Int)))then
  (getI v20 v29).bind fun y34=>
  (zas (⟨v30,v31,v32⟩:zad) 5).bind fun v35=>
  if(!v35.1)then
   (zb9 a1 y19 y34).bind fun v36=>
   (zaX v33 (⟨v36,([]:List UInt8),false⟩:zaa)).bind fun v37=>
   some (.inl ((IntKind.i64.wrap (v29+1)),v35.2.fcode,v35.2.fat,v35.2.fseed,v37))
  else
   some (.inl ((IntKind.i64.wrap (v29+1)),v35.2.fcode,v35.2.fat,v35.2.fseed,v33))
 else
  some (.inr (zeh a1 v14 y19 v30 v31 v32 v33))
noncomputable def zgm (a1:zab) (v14:Int) (v15:List Int) (v16:Int) (v17:Int) (v18:List zaa):Option ((Int × List Int × Int × Int × List zaa) ⊕ Option (List zaa × zad)):=
 if(decide (v14<(a1.fIdxs.length:Int)))then
  (getI a1.fIdxs v14).bind fun y19=>
  (zeO a1 v18).bind fun v20=>
  zau (fun s:Int × List Int × Int × Int × List zaa=>zgo a1 v14 y19 v20 s.1 s.2.1 s.2.2.1 s.2.2.2.1 s.2.2.2.2) (0,v15,v16,v17,v18)
 else
  some (.inr (zee v15 v16 v17 v18))
noncomputable def zd1 (a1:zab) (v2:List Int) (v3:Int) (v4:Int) (v5:List zaa):Option (List zaa × zad):=
 zau (fun s:Int × List Int × Int × Int × List zaa=>zgm a1 s.1 s.2.1 s.2.2.1 s.2.2.2.1 s.2.2.2.2) (0,v2,v3,v4,v5)
noncomputable def zgq (a1:zab) (v38:List zaa) (v39:Int) (v40:List Int) (v41:Int) (v42:Int):Option ((List zaa × Int × List Int × Int × Int) ⊕ Option (List zaa × zad)):=
 if(decide (v39>0))then
  (zbm (⟨v40,v41,v42⟩:zad) a1).bind fun v43=>
  (zb2 a1 v43.1).bind fun v44=>
  (zaX v38 v44).bind fun v45=>
  some (.inl (v45,(IntKind.i64.wrap (v39-1)),v43.2.fcode,v43.2.fat,v43.2.fseed))
 else
  some (.inr (zd1 a1 v40 v41 v42 v38))
noncomputable def zdE (a0:zad) (a1:zab):Option (List zaa × zad):=
 (zac a0 5).bind fun v1=>
 zau (fun s:List zaa × Int × List Int × Int × Int=>zgq a1 s.1 s.2.1 s.2.2.1 s.2.2.2.1 s.2.2.2.2) ([],v1.1,v1.2.fcode,v1.2.fat,v1.2.fseed)
noncomputable def zdn (a1:zab) (v3:List Int) (v4:Int) (v5:Int) (v6:List (List UInt8)):Option (zan × zad):=
 (zac (⟨v3,v4,v5⟩:zad) 3).bind fun v7=>
 if(v7.1==0)then
  (zbm v7.2 a1).bind fun v8=>
  some ((⟨1,(⟨[]⟩:zcm),v8.1⟩:zan),v8.2)
 else
  if(v7.1==1)then
   some ((⟨2,(⟨v6⟩:zcm),(⟨[]⟩:zcm)⟩:zan),v7.2)
  else
   (zbm v7.2 a1).bind fun v9=>
   (getI v6 0).bind fun y10=>
   (getI v9.1.fVals 0).bind fun y11=>
   some ((⟨3,(⟨v6⟩:zcm),(⟨(v9.1.fVals.set ((0:Int)).toNat y10)⟩:zcm)⟩:zan),v9.2)
noncomputable def zdm (a1:zab) (v1:List zcm) (v2:zcm × zad) (v12:Bool) (v13:List Int) (v14:Int) (v15:Int):Option (zan × zad):=
 if v12 then
  (zac (⟨v13,v14,v15⟩:zad) (v1.length:Int)).bind fun v16=>
  (getI v1 v16.1).bind fun y17=>
  zdn a1 v16.2.fcode v16.2.fat v16.2.fseed y17.fVals
 else
  zdn a1 v13 v14 v15 v2.1.fVals
noncomputable def zep (a0:zad) (a1:zab) (a2:List zaa):Option (zan × zad):=
 (zeO a1 a2).bind fun v1=>
 (zbm a0 a1).bind fun v2=>
 if(decide ((v1.length:Int)>0))then
  (zas v2.2 4).bind fun v18=>
  zdm a1 v1 v2 (!v18.1) v18.2.fcode v18.2.fat v18.2.fseed
 else
  zdm a1 v1 v2 false v2.2.fcode v2.2.fat v2.2.fseed
noncomputable def zfB (a0:List UInt8) (a1:Int):Option (Bool):=
 some ((decide ((a0.length:Int)≥1))&&(decide ((a0.length:Int)≤a1)))
noncomputable def zfA (a0:List UInt8) (a1:Int) (v1:Int):Option ((Int) ⊕ Option (Bool)):=
 if(decide (v1<(a0.length:Int)))then
  (getI a0 v1).bind fun y2=>
  if((decide ((y2.toNat:Int)<97))||(decide ((y2.toNat:Int)>122)))then
   some (.inr (some false))
  else
   some (.inl (IntKind.i64.wrap (v1+1)))
 else
  some (.inr (zfB a0 a1))
noncomputable def zc2 (a0:List UInt8) (a1:Int):Option (Bool):=
 zau (fun s:Int=>zfA a0 a1 s) 0
noncomputable def zi5 (a0:List (List UInt8)) (a1:List UInt8) (v1:Int):Option ((Int) ⊕ Option (Int)):=
 if(decide (v1<(a0.length:Int)))then
  (getI a0 v1).bind fun y2=>
  if(y2==a1)then
   some (.inr (some v1))
  else
   some (.inl (IntKind.i64.wrap (v1+1)))
 else
  some (.inr (some (-1)))
noncomputable def zhX (a0:List (List UInt8)) (a1:List UInt8):Option (Int):=
 zau (fun s:Int=>zi5 a0 a1 s) 0
noncomputable def zht (a0:List (List UInt8)):Option (Bool):=
 (zba (a0.length:Int) 2 4).bind fun v1=>
 some v1
noncomputable def zhv (a0:List (List UInt8)) (v2:Int):Option ((Int) ⊕ Option (Bool)):=
 if(decide (v2<(a0.length:Int)))then
  (getI a0 v2).bind fun y3=>
  (zc2 y3 3).bind fun v4=>
  if v4 then
   req (0≤(0:Int)∧(0:Int)≤v2∧v2≤(a0.length:Int))<|
   (zhX (ze8 a0 0 v2) y3).bind fun v5=>
   if(decide (v5≥0))then
    some (.inr (some false))
   else
    some (.inl (IntKind.i64.wrap (v2+1)))
  else
   some (.inr (some false))
 else
  some (.inr (zht a0))
noncomputable def zhT (a0:List (List UInt8)):Option (Bool):=
 zau (fun s:Int=>zhv a0 s) 0
noncomputable def zen (a0:zab) (v3:Int):Option ((Int) ⊕ Option (Bool)):=
 if(decide (v3<(a0.fIdxs.length:Int)))then
  (getI a0.fIdxs v3).bind fun y4=>
  (zc2 y4.fName 1).bind fun v5=>
  if v5 then
   (zba y4.fCol 1 (IntKind.i64.wrap ((a0.fCols.length:Int)-1))).bind fun v6=>
   if v6 then
    (zba y4.fStage 0 3).bind fun v7=>
    if(decide (v3>0))then
     if v7 then
      (getI a0.fIdxs (IntKind.i64.wrap (v3-1))).bind fun y8=>
      if(!Op.bytesLess y8.fName y4.fName)then
       some (.inr (some false))
      else
       some (.inl (IntKind.i64.wrap (v3+1)))
     else
      some (.inr (some false))
    else
     if((!v7)||false)then
      some (.inr (some false))
     else
      some (.inl (IntKind.i64.wrap (v3+1)))
   else
    some (.inr (some false))
  else
   some (.inr (some false))
 else
  some (.inr (some true))
noncomputable def zbH (a0:zab):Option (Bool):=
 (zc2 a0.fName 1).bind fun v1=>
 if v1 then
  (zhT a0.fCols).bind fun v2=>
  if((!v2)||(decide ((a0.fIdxs.length:Int)>3)))then
   some false
  else
   zau (fun s:Int=>zen a0 s) 0
 else
  some false
noncomputable def zig (a0:zab) (a1:List UInt8) (v1:Int):Option ((Int) ⊕ Option (Int)):=
 if(decide (v1<(a0.fIdxs.length:Int)))then
  (getI a0.fIdxs v1).bind fun y2=>
  if(y2.fName==a1)then
   some (.inr (some v1))
  else
   some (.inl (IntKind.i64.wrap (v1+1)))
 else
  some (.inr (some (-1)))
noncomputable def zbd (a0:zab) (a1:List UInt8):Option (Int):=
 zau (fun s:Int=>zig a0 a1 s) 0
noncomputable def zgW (a0:zab) (a1:List UInt8) (a2:Int):Option (Bool):=
 (zbH a0).bind fun v1=>
 if v1 then
  (zbd a0 a1).bind fun v2=>
  if(decide (v2≥0))then
   (zba a2 0 3).bind fun v3=>
   some v3
  else
   some false
 else
  some false
noncomputable def zfv (a0:zab):Option (zab):=
 req (((([]:List (List UInt8)).length:Int)+((a0.fCols).length:Int))*16≤140737488355328∧(([]:List (List UInt8)).length:Int)+((a0.fCols).length:Int)≤140737488355328)<|
 req (((([]:List za7).length:Int)+((a0.fIdxs).length:Int))*32≤140737488355328∧(([]:List za7).length:Int)+((a0.fIdxs).length:Int)≤140737488355328)<|
 some a0
noncomputable def zfu (a0:zab) (a1:List UInt8) (a2:Int):Option (zab):=
 (zfv a0).bind fun v1=>
 (zbd a0 a1).bind fun v2=>
 (getI v1.fIdxs v2).bind fun y3=>
 some (⟨v1.fName,v1.fCols,(v1.fIdxs.set (v2).toNat {y3 with fStage:=a2})⟩:zab)
noncomputable def zbc (a0:Int) (a1:Int) (a2:Int):Option (Bool):=
 some ((decide (a0≥a1))&&(decide (a0≤a2)))
noncomputable def zfD (a0:List UInt8) (a1:Int):Option (Bool):=
 (zbc (a0.length:Int) 1 a1).bind fun v1=>
 some v1
noncomputable def zfE (a0:List UInt8) (a1:Int) (v2:Int):Option ((Int) ⊕ Option (Bool)):=
 if(decide (v2<(a0.length:Int)))then
  (getI a0 v2).bind fun y3=>
  if((decide ((y3.toNat:Int)<97))||(decide ((y3.toNat:Int)>122)))then
   some (.inr (some false))
  else
   some (.inl (IntKind.i64.wrap (v2+1)))
 else
  some (.inr (zfD a0 a1))
noncomputable def zc1 (a0:List UInt8) (a1:Int):Option (Bool):=
 zau (fun s:Int=>zfE a0 a1 s) 0
noncomputable def zbZ (a0:List (List UInt8)) (a1:List UInt8) (v1:Int):Option ((Int) ⊕ Option (Int)):=
 if(decide (v1<(a0.length:Int)))then
  (getI a0 v1).bind fun y2=>
  if(a1==y2)then
   some (.inr (some v1))
  else
   some (.inl (IntKind.i64.wrap (v1+1)))
 else
  some (.inr (some (-1)))
noncomputable def zbs (a0:List (List UInt8)) (a1:List UInt8):Option (Int):=
 zau (fun s:Int=>zbZ a0 a1 s) 0
noncomputable def zaN (a0:List (List UInt8)) (a1:List UInt8):Option (Bool):=
 (zbs a0 a1).bind fun v1=>
 some (decide (v1≥0))
noncomputable def zjF (a0:Int):Option (Bool):=
 (zbc a0 0 3).bind fun v1=>
 some v1
noncomputable def zeq (a0:zab) (v3:Int):Option ((Int) ⊕ Option (Bool)):=
 if(decide (v3<(a0.fIdxs.length:Int)))then
  (getI a0.fIdxs v3).bind fun y4=>
  (zc1 y4.fName 1).bind fun v5=>
  if v5 then
   (zbc y4.fCol 1 (IntKind.i64.wrap ((a0.fCols.length:Int)-1))).bind fun v6=>
   if v6 then
    (zjF y4.fStage).bind fun v7=>
    if(decide (v3>0))then
     if v7 then
      (getI a0.fIdxs (IntKind.i64.wrap (v3-1))).bind fun y8=>
      if(Op.bytesLess y4.fName y8.fName||y4.fName==y8.fName)then
       some (.inr (some false))
      else
       some (.inl (IntKind.i64.wrap (v3+1)))
     else
      some (.inr (some false))
    else
     if((!v7)||false)then
      some (.inr (some false))
     else
      some (.inl (IntKind.i64.wrap (v3+1)))
   else
    some (.inr (some false))
  else
   some (.inr (some false))
 else
  some (.inr (some true))
noncomputable def zga (a0:zab):Option (Bool):=
 zau (fun s:Int=>zeq a0 s) 0
noncomputable def zex (a0:zab) (v9:Int):Option ((Int) ⊕ Option (Bool)):=
 if(decide (v9<(a0.fCols.length:Int)))then
  (getI a0.fCols v9).bind fun y10=>
  (zc1 y10 3).bind fun v11=>
  if v11 then
   req (0≤(0:Int)∧(0:Int)≤v9∧v9≤(a0.fCols.length:Int))<|
   (zaN (ze8 a0.fCols 0 v9) y10).bind fun v12=>
   if v12 then
    some (.inr (some false))
   else
    some (.inl (IntKind.i64.wrap (v9+1)))
  else
   some (.inr (some false))
 else
  some (.inr (zga a0))
noncomputable def zfU (a0:zab):Option (Bool):=
 (zc1 a0.fName 1).bind fun v1=>
 if v1 then
  (zbc (a0.fCols.length:Int) 2 4).bind fun v2=>
  if((!v2)||(decide ((a0.fIdxs.length:Int)>3)))then
   some false
  else
   zau (fun s:Int=>zex a0 s) 0
 else
  some false
noncomputable def zfl (a0:Int):Option (Bool):=
 some (((decide (a0≥97))&&(decide (a0≤122)))||((decide (a0≥48))&&(decide (a0≤57))))
noncomputable def zgh (a0:List UInt8) (a1:Int):Option (Int):=
 (zbk a0 a1).bind fun v1=>
 some v1
noncomputable def zgy (a0:List UInt8) (a1:List UInt8) (v1:Int):Option ((Int) ⊕ Option (Bool)):=
 if(decide (v1<(a0.length:Int)))then
  (getI a0 v1).bind fun y2=>
  (zfl (y2.toNat:Int)).bind fun v3=>
  if v3 then
   some (.inl (IntKind.i64.wrap (v1+1)))
  else
   (zgh a1 (y2.toNat:Int)).bind fun v4=>
   if(decide (v4<0))then
    some (.inr (some false))
   else
    some (.inl (IntKind.i64.wrap (v1+1)))
 else
  some (.inr (some true))
noncomputable def zd4 (a0:List UInt8) (a1:List UInt8):Option (Bool):=
 zau (fun s:Int=>zgy a0 a1 s) 0
noncomputable def zeQ (a0:List UInt8):Option (Bool):=
 (zbc (a0.length:Int) 1 3).bind fun v1=>
 if v1 then
  (zd4 a0 ([]:List UInt8)).bind fun v2=>
  some v2
 else
  some false
noncomputable def zdo (a0:List UInt8):Option (Bool):=
 (zeQ a0).bind fun v1=>
 some (!v1)
noncomputable def za9 (a0:zab) (a1:zcm):Option (Bool):=
 if((a1.fVals.length:Int)==(a0.fCols.length:Int))then
  (zaT a1.fVals (fun y0_=>zdo y0_)).bind fun v1=>
  some (!v1)
 else
  some false
noncomputable def zcV (a0:zab) (a1:zan):Option (Bool):=
 if(a1.fKind==1)then
  if((a1.fOld.fVals.length:Int)==0)then
   (za9 a0 a1.fNew).bind fun v1=>
   some v1
  else
   some false
 else
  if(a1.fKind==2)then
   (za9 a0 a1.fOld).bind fun v2=>
   some (v2&&((a1.fNew.fVals.length:Int)==0))
  else
   if(a1.fKind==3)then
    (za9 a0 a1.fOld).bind fun v3=>
    if v3 then
     (za9 a0 a1.fNew).bind fun v4=>
     if v4 then
      (getI a1.fOld.fVals 0).bind fun y5=>
      (getI a1.fNew.fVals 0).bind fun y6=>
      some (y5==y6)
     else
      some false
    else
     some false
   else
    some false
noncomputable def zcv (a0:List zaa) (v1:Int) (v2:List (List UInt8)):Option ((Int × List (List UInt8)) ⊕ Option (List (List UInt8))):=
 if(decide (v1<(a0.length:Int)))then
  (getI a0 v1).bind fun y3=>
  req ((((v2).length:Int)+(([y3.fKey]:List (List UInt8)).length:Int))*16≤140737488355328∧((v2).length:Int)+(([y3.fKey]:List (List UInt8)).length:Int)≤140737488355328)<|
  some (.inl ((IntKind.i64.wrap (v1+1)),(v2++ [y3.fKey])))
 else
  some (.inr (some v2))
noncomputable def zf4 (a0:List zaa):Option (List (List UInt8)):=
 zau (fun s:Int × List (List UInt8)=>zcv a0 s.1 s.2) (0, [])
noncomputable def zhK (a0:List UInt8):Option (Bool):=
 (zbc (a0.length:Int) 1 12).bind fun v1=>
 if v1 then
  (zd4 a0 ([46,47]:List UInt8)).bind fun v2=>
  some v2
 else
  some false
noncomputable def zgb (a0:List (List UInt8)) (v1:Int):Option ((Int) ⊕ Option (Bool)):=
 if(decide (v1<(a0.length:Int)))then
  (getI a0 v1).bind fun y2=>
  (zhK y2).bind fun v3=>
  if(decide (v1>0))then
   if v3 then
    (getI a0 (IntKind.i64.wrap (v1-1))).bind fun y4=>
    if(Op.bytesLess y2 y4||y2==y4)then
     some (.inr (some false))
    else
     some (.inl (IntKind.i64.wrap (v1+1)))
   else
    some (.inr (some false))
  else
   if((!v3)||false)then
    some (.inr (some false))
   else
    some (.inl (IntKind.i64.wrap (v1+1)))
 else
  some (.inr (some true))
noncomputable def zf6 (a0:List (List UInt8)):Option (Bool):=
 zau (fun s:Int=>zgb a0 s) 0
noncomputable def zhI (a0:List UInt8):Option (Bool):=
 if(decide ((a0.length:Int)≤24))then
  (zd4 a0 ([46,45,44,95]:List UInt8)).bind fun v1=>
  some v1
 else
  some false
noncomputable def zgF (a0:List UInt8) (a1:Bool):Option (Bool):=
 (zhI a0).bind fun v1=>
 some (v1&&(!(a1&&(a0 !=([]:List UInt8)))))
noncomputable def zel (a0:zaa):Option (Bool):=
 (zgF a0.fVal a0.fGone).bind fun v1=>
 some (!v1)
noncomputable def zfo (a0:List zaa):Option (Bool):=
 if(decide ((a0.length:Int)≤24))then
  (zf4 a0).bind fun v1=>
  (zf6 v1).bind fun v2=>
  if v2 then
   (zaT a0 (fun y0_=>zel y0_)).bind fun v3=>
   some (!v3)
  else
   some false
 else
  some false
noncomputable def zgT (a0:zaa):Option (Bool):=
 some a0.fGone
noncomputable def ziR (a0:List zaa):Option (Bool):=
 (zfo a0).bind fun v1=>
 if v1 then
  (zaT a0 (fun y0_=>zgT y0_)).bind fun v2=>
  some (!v2)
 else
  some false
noncomputable def zbq (a0:zab) (a1:zcm):Option (zaa):=
 req ((a0.fName).length+(([47]:List UInt8)).length≤9223372036854775807)<|
 (getI a1.fVals 0).bind fun y1=>
 req (((a0.fName++([47]:List UInt8))).length+(y1).length≤9223372036854775807)<|
 req (0≤(1:Int)∧(1:Int)≤(a1.fVals.length:Int)∧(a1.fVals.length:Int)≤(a1.fVals.length:Int))<|
 (zhW (ze8 a1.fVals 1 (a1.fVals.length:Int)) ([44]:List UInt8)).bind fun v2=>
 some (⟨((a0.fName++([47]:List UInt8))++y1),v2,false⟩:zaa)
noncomputable def zaB (a0:Int) (a1:zaa) (a2:List DOp):Option (Unit × List DOp):=
 req ((((a2).length:Int)+(([(⟨a0,a1.fKey,a1.fVal,0⟩:DOp)]:List DOp).length:Int))*48≤140737488355328∧((a2).length:Int)+(([(⟨a0,a1.fKey,a1.fVal,0⟩:DOp)]:List DOp).length:Int)≤140737488355328)<|
 some ((),(a2++ [(⟨a0,a1.fKey,a1.fVal,0⟩:DOp)]))
noncomputable def zcl (a0:zab) (a1:List UInt8):Option (List UInt8):=
 req ((a0.fName).length+(([46]:List UInt8)).length≤9223372036854775807)<|
 req (((a0.fName++([46]:List UInt8))).length+(a1).length≤9223372036854775807)<|
 req ((((a0.fName++([46]:List UInt8))++a1)).length+(([47]:List UInt8)).length≤9223372036854775807)<|
 some (((a0.fName++([46]:List UInt8))++a1)++([47]:List UInt8))
noncomputable def zef (a0:za7) (a1:List UInt8):Option (Bool):=
 some (a0.fName==a1)
noncomputable def zbB (a0:zab) (a1:List UInt8):Option (Int):=
 (zbo a0.fIdxs (fun y0_=>zef y0_ a1)).bind fun v1=>
 some v1
noncomputable def zbx (a0:zab) (a1:List UInt8):Option (za7):=
 (zbB a0 a1).bind fun v1=>
 (getI a0.fIdxs v1).bind fun y2=>
 some y2
noncomputable def za3 (a0:zab) (a1:List UInt8) (a2:zcm):Option (List UInt8):=
 (zcl a0 a1).bind fun v1=>
 (zbx a0 a1).bind fun v2=>
 (getI a2.fVals v2.fCol).bind fun y3=>
 req ((v1).length+(y3).length≤9223372036854775807)<|
 req (((v1++y3)).length+(([47]:List UInt8)).length≤9223372036854775807)<|
 (getI a2.fVals 0).bind fun y4=>
 req ((((v1++y3)++([47]:List UInt8))).length+(y4).length≤9223372036854775807)<|
 some (((v1++y3)++([47]:List UInt8))++y4)
noncomputable def zjJ (a0:Int):Option (Bool):=
 some (decide (a0≥1))
noncomputable def zjx (a0:Int):Option (Bool):=
 some (decide (a0≥2))
noncomputable def zbi (v9:Int) (y11:za7) (v13:List UInt8) (v14:List DOp):Option ((Int × List DOp) ⊕ Option (List DOp)):=
 if(v13 !=([]:List UInt8))then
  (zjx y11.fStage).bind fun v15=>
  if v15 then
   (zaB 2 (⟨v13,([]:List UInt8),false⟩:zaa) v14).bind fun v16=>
   some (.inl ((IntKind.i64.wrap (v9+1)),v16.2))
  else
   some (.inl ((IntKind.i64.wrap (v9+1)),v14))
 else
  some (.inl ((IntKind.i64.wrap (v9+1)),v14))
noncomputable def zaZ (v9:Int) (v10:List DOp) (y11:za7) (v12:List UInt8) (v13:List UInt8):Option ((Int × List DOp) ⊕ Option (List DOp)):=
 if(v12 !=([]:List UInt8))then
  if(v12 !=v13)then
   (zjJ y11.fStage).bind fun v17=>
   if v17 then
    (zaB 3 (⟨v12,([]:List UInt8),false⟩:zaa) v10).bind fun v18=>
    zbi v9 y11 v13 v18.2
   else
    zbi v9 y11 v13 v10
  else
   zbi v9 y11 v13 v10
 else
  zbi v9 y11 v13 v10
noncomputable def zec (a0:zab) (a1:zan) (v9:Int) (v10:List DOp) (y11:za7) (v12:List UInt8):Option ((Int × List DOp) ⊕ Option (List DOp)):=
 if(a1.fKind !=2)then
  (za3 a0 y11.fName a1.fNew).bind fun v19=>
  zaZ v9 v10 y11 v12 v19
 else
  zaZ v9 v10 y11 v12 ([]:List UInt8)
noncomputable def zbg (a0:zab) (a1:zan) (v9:Int) (v10:List DOp):Option ((Int × List DOp) ⊕ Option (List DOp)):=
 if(decide (v9<(a0.fIdxs.length:Int)))then
  (getI a0.fIdxs v9).bind fun y11=>
  zyn (σ:=List UInt8) (
   if(a1.fKind !=1)then
    (za3 a0 y11.fName a1.fOld).bind fun v20=>
    some (.inl v20)
   else
    some (.inl ([]:List UInt8))
  ) (fun s=>zec a0 a1 v9 v10 y11 s)
 else
  some (.inr (some v10))
noncomputable def zbh (a0:zab) (a1:zan) (v8:List DOp):Option (List DOp):=
 zau (fun s:Int × List DOp=>zbg a0 a1 s.1 s.2) (0,v8)
noncomputable def zbV (a0:zab) (a1:zan) (v1:List UInt8) (v4:List DOp) (v5:List UInt8) (v6:List UInt8) (v7:Bool):Option (List DOp):=
 if(a1.fKind==1)then
  (zaB 6 (⟨v5,([]:List UInt8),false⟩:zaa) v4).bind fun v21=>
  (zaB 2 (⟨v5,v6,v7⟩:zaa) v21.2).bind fun v22=>
  zbh a0 a1 v22.2
 else
  if(a1.fKind==2)then
   (zaB 3 (⟨v1,([]:List UInt8),false⟩:zaa) v4).bind fun v23=>
   zbh a0 a1 v23.2
  else
   if(a1.fKind==3)then
    (zaB 2 (⟨v5,v6,v7⟩:zaa) v4).bind fun v24=>
    zbh a0 a1 v24.2
   else
    zbh a0 a1 v4
noncomputable def zaY (a0:zab) (a1:zan) (v1:List UInt8) (v2:List UInt8) (v3:Bool) (v4:List DOp):Option (List DOp):=
 if(a1.fKind !=2)then
  (zbq a0 a1.fNew).bind fun v25=>
  zbV a0 a1 v1 v4 v25.fKey v25.fVal v25.fGone
 else
  zbV a0 a1 v1 v4 ([]:List UInt8) ([]:List UInt8) false
noncomputable def zdC (a0:zab) (a1:zan):Option (List DOp):=
 zyn (σ:=List UInt8 × List UInt8 × Bool × List DOp) (
  if(a1.fKind !=1)then
   (zbq a0 a1.fOld).bind fun v26=>
   (zaB 7 v26 ([]:List DOp)).bind fun v27=>
   some (.inl (v26.fKey,v26.fVal,v26.fGone,v27.2))
  else
   some (.inl (([]:List UInt8),([]:List UInt8),false, []))
 ) (fun s=>zaY a0 a1 s.1 s.2.1 s.2.2.1 s.2.2.2)
noncomputable def zaz (a0:List zaa) (a1:List UInt8) (a2:zaa→(List UInt8)→Option Int) (v1:Int):Option (Int × Bool):=
 if(decide (v1<(a0.length:Int)))then
  (getI a0 v1).bind fun y2=>
  (a2 y2 a1).bind fun v3=>
  some (v1,(v3==0))
 else
  some (v1,false)
noncomputable def zaj (a0:List zaa) (a1:List UInt8) (a2:zaa→(List UInt8)→Option Int) (v4:Int) (v5:Int):Option ((Int × Int) ⊕ Option (Int × Bool)):=
 if(decide (v4<v5))then
  (getI a0 (IntKind.i64.wrap (Int.fdiv (IntKind.u64.wrap (IntKind.i64.wrap (v4+v5))) (2^(min ((1:Int)).toNat (IntKind.bits .u64)))))).bind fun y6=>
  (a2 y6 a1).bind fun v7=>
  if(decide (v7<0))then
   some (.inl ((IntKind.i64.wrap ((IntKind.i64.wrap (Int.fdiv (IntKind.u64.wrap (IntKind.i64.wrap (v4+v5))) (2^(min ((1:Int)).toNat (IntKind.bits .u64)))))+1)),v5))
  else
   some (.inl (v4,(IntKind.i64.wrap (Int.fdiv (IntKind.u64.wrap (IntKind.i64.wrap (v4+v5))) (2^(min ((1:Int)).toNat (IntKind.bits .u64)))))))
 else
  some (.inr (zaz a0 a1 a2 v4))
noncomputable def zaC (a0:List zaa) (a1:List UInt8) (a2:zaa→(List UInt8)→Option Int):Option (Int × Bool):=
 zau (fun s:Int × Int=>zaj a0 a1 a2 s.1 s.2) (0,(a0.length:Int))
noncomputable def zdf (a0:List UInt8):Option (Bool):=
 some (a0 !=a0)
noncomputable def zdz (a0:List UInt8) (a1:List UInt8):Option (Int):=
 (zdf a0).bind fun v1=>
 (zdf a1).bind fun v2=>
 if v1 then
  if v2 then
   some 0
  else
   some (-1)
 else
  if v2 then
   some 1
  else
   if(Op.bytesLess a0 a1)then
    some (-1)
   else
    if(!(Op.bytesLess a0 a1||a0==a1))then
     some 1
    else
     some 0
noncomputable def zcN (a0:zaa) (a1:List UInt8):Option (Int):=
 (zdz a0.fKey a1).bind fun v1=>
 some v1
noncomputable def zcf (a0:List zaa) (a1:List UInt8):Option (Int × Bool):=
 (zaC a0 a1 (fun y0_ y1_=>zcN y0_ y1_)).bind fun v1=>
 some (v1.1,v1.2)
noncomputable def zdi (a0:List zaa) (a1:zaa):Option (List zaa):=
 (zcf a0 a1.fKey).bind fun v1=>
 if v1.2 then
  (getI a0 v1.1).bind fun y2=>
  some (a0.set (v1.1).toNat a1)
 else
  (zpA a0 v1.1 ([a1]:List zaa)).bind fun v3=>
  some v3
noncomputable def zc7 (a0:List UInt8) (a2:List zhb) (v3:Int):Option ((Int) ⊕ Option (List UInt8 × Bool × Bool)):=
 if(decide (v3<(a2.length:Int)))then
  (getI a2 v3).bind fun y4=>
  if(y4.fKey==a0)then
   some (.inr (some (y4.fVal,y4.fThere,true)))
  else
   some (.inl (IntKind.i64.wrap (v3+1)))
 else
  some (.inr (some (([]:List UInt8),false,false)))
noncomputable def zhE (a0:List UInt8) (a1:List zaa) (a2:List zhb):Option (List UInt8 × Bool × Bool):=
 (zcf a1 a0).bind fun v1=>
 if v1.2 then
  (getI a1 v1.1).bind fun y2=>
  some (y2.fVal,(!y2.fGone),true)
 else
  zau (fun s:Int=>zc7 a0 a2 s) 0
noncomputable def zfg (a0:List UInt8):Option (Int × Bool):=
 (zhP a0 (-999999) 999999).bind fun v1=>
 some (v1.1,v1.2)
noncomputable def zfr (a0:DOp) (a1:List UInt8) (a2:Bool):Option (Bool):=
 (zfg a1).bind fun v1=>
 if(a0.fKind==4)then
  if v1.2 then
   if a2 then
    (zbc (IntKind.i64.wrap (v1.1+a0.fBy)) (-999999) 999999).bind fun v2=>
    some v2
   else
    some true
  else
   some ((!a2)||false)
 else
  if(a0.fKind==5)then
   some ((a2&&v1.2)&&(decide (v1.1≥a0.fBy)))
  else
   if(a0.fKind==6)then
    some (!a2)
   else
    if(a0.fKind==7)then
     some (a2&&(a1==a0.fVal))
    else
     some true
noncomputable def zaI (a0:List DOp) (a1:List zhb) (v1:Int) (v2:List zaa):Option ((Int × List zaa) ⊕ Option (Int × List UInt8 × List zaa)):=
 if(decide (v1<(a0.length:Int)))then
  (getI a0 v1).bind fun y3=>
  if(y3.fKind==2)then
   (zdi v2 (⟨y3.fKey,y3.fVal,false⟩:zaa)).bind fun v4=>
   some (.inl ((IntKind.i64.wrap (v1+1)),v4))
  else
   if(y3.fKind==3)then
    (zdi v2 (⟨y3.fKey,([]:List UInt8),true⟩:zaa)).bind fun v5=>
    some (.inl ((IntKind.i64.wrap (v1+1)),v5))
   else
    (zhE y3.fKey v2 a1).bind fun v6=>
    if(!v6.2.2)then
     some (.inr (some (1,y3.fKey, [])))
    else
     (zfr y3 v6.1 v6.2.1).bind fun v7=>
     if(!v7)then
      some (.inr (some (2,([]:List UInt8), [])))
     else
      if(y3.fKind==4)then
       (zfg v6.1).bind fun v8=>
       (zjD (IntKind.i64.wrap (v8.1+y3.fBy))).bind fun v9=>
       (zdi v2 (⟨y3.fKey,v9,false⟩:zaa)).bind fun v10=>
       some (.inl ((IntKind.i64.wrap (v1+1)),v10))
      else
       some (.inl ((IntKind.i64.wrap (v1+1)),v2))
 else
  some (.inr (some (3,([]:List UInt8),v2)))
noncomputable def zjC (a0:List DOp) (a1:List zhb):Option (Int × List UInt8 × List zaa):=
 zau (fun s:Int × List zaa=>zaI a0 a1 s.1 s.2) (0, [])
noncomputable def zjr (a0:List zaa) (a1:List UInt8):Option (zhb):=
 (zcf a0 a1).bind fun v1=>
 if(!v1.2)then
  some (⟨a1,([]:List UInt8),false⟩:zhb)
 else
  (getI a0 v1.1).bind fun y2=>
  some (⟨a1,y2.fVal,true⟩:zhb)
noncomputable def zb6 (a0:List zaa) (a1:List DOp) (v1:List zhb):Option ((List zhb) ⊕ Option (List zhb × List zaa × Bool)):=
 (zjC a1 v1).bind fun v2=>
 if(v2.1 !=1)then
  some (.inr (some (v1,v2.2.2,(v2.1==3))))
 else
  (zjr a0 v2.2.1).bind fun v3=>
  req ((((v1).length:Int)+(([v3]:List zhb).length:Int))*40≤140737488355328∧((v1).length:Int)+(([v3]:List zhb).length:Int)≤140737488355328)<|
  some (.inl (v1++ [v3]))
noncomputable def zjf (a0:List zaa) (a1:List DOp):Option (List zhb × List zaa × Bool):=
 zau (fun s:List zhb=>zb6 a0 a1 s) []
noncomputable def zaD (xs:List zaa):Option (List zaa):=zou 40 xs
noncomputable def zih (a0:zaa):Option (Bool):=
 some a0.fGone
noncomputable def zhA (v2:List zaa):Option (List zaa × Bool):=
 (ze9 v2 (fun y0_=>zih y0_)).bind fun v3=>
 if(decide ((v3.length:Int)>24))then
  some ([],false)
 else
  some (v3,true)
noncomputable def zc8 (a1:List zaa) (v4:Int) (v5:List zaa):Option ((Int × List zaa) ⊕ Option (List zaa × Bool)):=
 if(decide (v4<(a1.length:Int)))then
  (getI a1 v4).bind fun y6=>
  (zdi v5 y6).bind fun v7=>
  some (.inl ((IntKind.i64.wrap (v4+1)),v7))
 else
  some (.inr (zhA v5))
noncomputable def zhU (a0:List zaa) (a1:List zaa):Option (List zaa × Bool):=
 (zaD a0).bind fun v1=>
 zau (fun s:Int × List zaa=>zc8 a1 s.1 s.2) (0,v1)
noncomputable def ziN (a0:List zaa) (a1:List DOp):Option (List zaa × Bool):=
 (zjf a0 a1).bind fun v1=>
 (zhU a0 v1.2.1).bind fun v2=>
 if((!v1.2.2)||(!v2.2))then
  req (((([]:List zaa).length:Int)+((a0).length:Int))*40≤140737488355328∧(([]:List zaa).length:Int)+((a0).length:Int)≤140737488355328)<|
  some (a0,false)
 else
  some (v2.1,true)
noncomputable def zfN (a0:zab) (a1:zan):Option (Bool):=
 if(a1.fKind==1)then
  if((a1.fOld.fVals.length:Int)==0)then
   (zcX a0 a1.fNew).bind fun v1=>
   some v1
  else
   some false
 else
  if(a1.fKind==2)then
   if((a1.fNew.fVals.length:Int)==0)then
    (zcX a0 a1.fOld).bind fun v2=>
    some v2
   else
    some false
  else
   if(a1.fKind==3)then
    (zcX a0 a1.fOld).bind fun v3=>
    if v3 then
     (zcX a0 a1.fNew).bind fun v4=>
     if v4 then
      (getI a1.fOld.fVals 0).bind fun y5=>
      (getI a1.fNew.fVals 0).bind fun y6=>
      some (y5==y6)
     else
      some false
    else
     some false
   else
    some false
noncomputable def zeU (a0:zab) (a1:zan):Option (Bool):=
 (zbH a0).bind fun v1=>
 if v1 then
  (zfN a0 a1).bind fun v2=>
  some v2
 else
  some false
noncomputable def zh6 (a0:List UInt8):Option (Bool):=
 (zba (a0.length:Int) 1 12).bind fun v1=>
 if v1 then
  (zeR a0 ([46,47]:List UInt8)).bind fun v2=>
  some v2
 else
  some false
noncomputable def zh0 (a0:List UInt8):Option (Bool):=
 if(decide ((a0.length:Int)≤24))then
  (zeR a0 ([46,45,44,95]:List UInt8)).bind fun v1=>
  some v1
 else
  some false
noncomputable def zhG (a0:List UInt8) (a1:List UInt8) (a2:Bool):Option (Bool):=
 (zh6 a0).bind fun v1=>
 if v1 then
  (zh0 a1).bind fun v2=>
  some (v2&&((!a2)||(a1==([]:List UInt8))))
 else
  some false
noncomputable def zgw (a0:List zaa):Option (Bool):=
 some (decide ((a0.length:Int)≤24))
noncomputable def zg5 (a0:List zaa) (v1:Int):Option ((Int) ⊕ Option (Bool)):=
 if(decide (v1<(a0.length:Int)))then
  (getI a0 v1).bind fun y2=>
  (zhG y2.fKey y2.fVal y2.fGone).bind fun v3=>
  if(decide (v1>0))then
   if v3 then
    (getI a0 (IntKind.i64.wrap (v1-1))).bind fun y4=>
    if(!Op.bytesLess y4.fKey y2.fKey)then
     some (.inr (some false))
    else
     some (.inl (IntKind.i64.wrap (v1+1)))
   else
    some (.inr (some false))
  else
   if((!v3)||false)then
    some (.inr (some false))
   else
    some (.inl (IntKind.i64.wrap (v1+1)))
 else
  some (.inr (zgw a0))
noncomputable def zgB (a0:List zaa):Option (Bool):=
 zau (fun s:Int=>zg5 a0 s) 0
noncomputable def zil (a0:List zaa):Option (Bool):=
 (zgB a0).bind fun v1=>
 some v1
noncomputable def zik (a0:List zaa) (v2:Int):Option ((Int) ⊕ Option (Bool)):=
 if(decide (v2<(a0.length:Int)))then
  (getI a0 v2).bind fun y3=>
  if y3.fGone then
   some (.inr (some false))
  else
   some (.inl (IntKind.i64.wrap (v2+1)))
 else
  some (.inr (zil a0))
noncomputable def zcx (a0:List zaa):Option (Bool):=
 zau (fun s:Int=>zik a0 s) 0
noncomputable def zhJ (a0:zab) (a1:zan):Option (List DOp):=
 if(a1.fKind==1)then
  (zb2 a0 a1.fNew).bind fun v1=>
  some [(⟨6,v1.fKey,([]:List UInt8),0⟩:DOp),(⟨2,v1.fKey,v1.fVal,0⟩:DOp)]
 else
  (zb2 a0 a1.fOld).bind fun v2=>
  if(a1.fKind==2)then
   some [(⟨7,v2.fKey,v2.fVal,0⟩:DOp),(⟨3,v2.fKey,([]:List UInt8),0⟩:DOp)]
  else
   (zb2 a0 a1.fNew).bind fun v3=>
   some [(⟨7,v2.fKey,v2.fVal,0⟩:DOp),(⟨2,v2.fKey,v3.fVal,0⟩:DOp)]
noncomputable def zf5 (a1:za7) (v2:List UInt8) (v3:List DOp):Option (List DOp):=
 if((v2 !=([]:List UInt8))&&(decide (a1.fStage≥2)))then
  req ((((v3).length:Int)+(([(⟨2,v2,([]:List UInt8),0⟩:DOp)]:List DOp).length:Int))*48≤140737488355328∧((v3).length:Int)+(([(⟨2,v2,([]:List UInt8),0⟩:DOp)]:List DOp).length:Int)≤140737488355328)<|
  some (v3++ [(⟨2,v2,([]:List UInt8),0⟩:DOp)])
 else
  some v3
noncomputable def zeF (a1:za7) (v1:List UInt8) (v2:List UInt8):Option (List DOp):=
 if(((v1 !=([]:List UInt8))&&(v1 !=v2))&&(decide (a1.fStage≥1)))then
  req (((([]:List DOp).length:Int)+(([(⟨3,v1,([]:List UInt8),0⟩:DOp)]:List DOp).length:Int))*48≤140737488355328∧(([]:List DOp).length:Int)+(([(⟨3,v1,([]:List UInt8),0⟩:DOp)]:List DOp).length:Int)≤140737488355328)<|
  zf5 a1 v2 [(⟨3,v1,([]:List UInt8),0⟩:DOp)]
 else
  zf5 a1 v2 []
noncomputable def zf3 (a0:zab) (a1:za7) (a2:zan) (v1:List UInt8):Option (List DOp):=
 if(a2.fKind !=2)then
  (zb9 a0 a1 a2.fNew).bind fun v4=>
  zeF a1 v1 v4
 else
  zeF a1 v1 ([]:List UInt8)
noncomputable def zgI (a0:zab) (a1:za7) (a2:zan):Option (List DOp):=
 zyn (σ:=List UInt8) (
  if(a2.fKind !=1)then
   (zb9 a0 a1 a2.fOld).bind fun v5=>
   some (.inl v5)
  else
   some (.inl ([]:List UInt8))
 ) (fun s=>zf3 a0 a1 a2 s)
noncomputable def zds (a0:zab) (a1:zan) (v2:Int) (v3:List DOp):Option ((Int × List DOp) ⊕ Option (List DOp)):=
 if(decide (v2<(a0.fIdxs.length:Int)))then
  (getI a0.fIdxs v2).bind fun y4=>
  (zgI a0 y4 a1).bind fun v5=>
  req ((((v3).length:Int)+((v5).length:Int))*48≤140737488355328∧((v3).length:Int)+((v5).length:Int)≤140737488355328)<|
  some (.inl ((IntKind.i64.wrap (v2+1)),(v3++v5)))
 else
  some (.inr (some v3))
noncomputable def ziL (a0:zab) (a1:zan):Option (List DOp):=
 (zhJ a0 a1).bind fun v1=>
 zau (fun s:Int × List DOp=>zds a0 a1 s.1 s.2) (0,v1)
noncomputable def zjE (a0:DOp) (v2:Bool):Option (Bool):=
 if v2 then
  (zh0 a0.fVal).bind fun v3=>
  some (v3&&(a0.fBy==0))
 else
  if(a0.fKind==4)then
   if(a0.fKind==4)then
    if(a0.fVal==([]:List UInt8))then
     (zba a0.fBy (-9999) 9999).bind fun v4=>
     some v4
    else
     some false
   else
    some (((((a0.fKind==1)||(a0.fKind==3))||(a0.fKind==6))&&(a0.fVal==([]:List UInt8)))&&(a0.fBy==0))
  else
   if(a0.fKind==5)then
    if(a0.fVal==([]:List UInt8))then
     (zba a0.fBy (-9999) 9999).bind fun v5=>
     some v5
    else
     some false
   else
    some (((((a0.fKind==1)||(a0.fKind==3))||(a0.fKind==6))&&(a0.fVal==([]:List UInt8)))&&(a0.fBy==0))
noncomputable def zkt (a0:DOp):Option (Bool):=
 (zh6 a0.fKey).bind fun v1=>
 if(!v1)then
  some false
 else
  if(a0.fKind==2)then
   zjE a0 (a0.fKind==2)
  else
   zjE a0 (a0.fKind==7)
noncomputable def zim (a0:List DOp):Option (Bool):=
 some (decide ((a0.length:Int)≤8))
noncomputable def zdt (a0:List DOp) (v1:Int):Option ((Int) ⊕ Option (Bool)):=
 if(decide (v1<(a0.length:Int)))then
  (getI a0 v1).bind fun y2=>
  (zkt y2).bind fun v3=>
  if(!v3)then
   some (.inr (some false))
  else
   some (.inl (IntKind.i64.wrap (v1+1)))
 else
  some (.inr (zim a0))
noncomputable def ziO (a0:List DOp):Option (Bool):=
 zau (fun s:Int=>zdt a0 s) 0
noncomputable def zcO (a1:List zhb) (a2:List UInt8) (v1:Int):Option ((Int) ⊕ Option (List UInt8 × Bool × Bool)):=
 if(decide (v1<(a1.length:Int)))then
  (getI a1 v1).bind fun y2=>
  if(y2.fKey==a2)then
   some (.inr (some (y2.fVal,y2.fThere,true)))
  else
   some (.inl (IntKind.i64.wrap (v1+1)))
 else
  some (.inr (some (([]:List UInt8),false,false)))
noncomputable def ze3 (a1:List zhb) (a2:List UInt8):Option (List UInt8 × Bool × Bool):=
 zau (fun s:Int=>zcO a1 a2 s) 0
noncomputable def zcK (a0:List zaa) (a1:List zhb) (a2:List UInt8) (v3:Int):Option ((Int) ⊕ Option (List UInt8 × Bool × Bool)):=
 if(decide (v3<(a0.length:Int)))then
  (getI a0 v3).bind fun y4=>
  if(y4.fKey==a2)then
   some (.inr (some (y4.fVal,(!y4.fGone),true)))
  else
   some (.inl (IntKind.i64.wrap (v3+1)))
 else
  some (.inr (ze3 a1 a2))
noncomputable def zgN (a0:List zaa) (a1:List zhb) (a2:List UInt8):Option (List UInt8 × Bool × Bool):=
 zau (fun s:Int=>zcK a0 a1 a2 s) 0
noncomputable def zbG (a0:List UInt8) (v3:Int) (v4:Int):Option ((Int × Int) ⊕ Option (Int)):=
 if(decide (v4<(a0.length:Int)))then
  (getI a0 v4).bind fun y5=>
  if((decide ((y5.toNat:Int)<48))||(decide ((y5.toNat:Int)>57)))then
   some (.inr (some (-1)))
  else
   some (.inl ((IntKind.i64.wrap ((IntKind.i64.wrap ((10:Int)*v3))+(IntKind.i64.wrap (IntKind.u8.wrap ((y5.toNat:Int)-48))))),(IntKind.i64.wrap (v4+1))))
 else
  some (.inr (some v3))
noncomputable def zgV (a0:List UInt8):Option (Int):=
 (zba (a0.length:Int) 1 6).bind fun v1=>
 if v1 then
  (getI a0 0).bind fun y2=>
  if(((y2.toNat:Int)==48)&&(decide ((a0.length:Int)>1)))then
   some (-1)
  else
   zau (fun s:Int × Int=>zbG a0 s.1 s.2) (0,0)
 else
  some (-1)
noncomputable def zgY (y1:UInt8) (v2:List UInt8):Option (Int × Bool):=
 (zgV v2).bind fun v3=>
 if((decide (v3<0))||(((y1.toNat:Int)==45)&&(v3==0)))then
  some (0,false)
 else
  if((y1.toNat:Int)==45)then
   some ((IntKind.i64.wrap (0-v3)),true)
  else
   some (v3,true)
noncomputable def zlg (v4:List UInt8):Option (Int × Bool):=
 (zgV v4).bind fun v5=>
 if((decide (v5<0))||false)then
  some (0,false)
 else
  some (v5,true)
noncomputable def zid (a0:List UInt8):Option (Int × Bool):=
 if(decide ((a0.length:Int)>0))then
  (getI a0 0).bind fun y1=>
  if((y1.toNat:Int)==45)then
   req (0≤(1:Int)∧(1:Int)≤(a0.length:Int)∧(a0.length:Int)≤(a0.length:Int))<|
   zgY y1 (ze8 a0 1 (a0.length:Int))
  else
   zgY y1 a0
 else
  zlg a0
noncomputable def zhQ (a0:DOp) (a1:List UInt8) (a2:Bool):Option (Bool):=
 (zid a1).bind fun v1=>
 if(a0.fKind==4)then
  if(!a2)then
   some false
  else
   if v1.2 then
    (zba (IntKind.i64.wrap (v1.1+a0.fBy)) (-999999) 999999).bind fun v2=>
    some (!v2)
   else
    some true
 else
  if(a0.fKind==5)then
   some (((!a2)||(!v1.2))||(decide (v1.1<a0.fBy)))
  else
   if(a0.fKind==6)then
    some a2
   else
    if(a0.fKind==7)then
     some ((!a2)||(a1 !=a0.fVal))
    else
     some false
noncomputable def zfH:Nat→Int→Option (List UInt8)
 |0,_=>none
 |n_+1,a0=>
  if(decide (a0<10))then
   req (([(IntKind.u8.wrap (IntKind.i64.wrap ((48:Int)+a0)))]:List Int).length≤9223372036854775807)<|
   some ([(IntKind.u8.wrap (IntKind.i64.wrap ((48:Int)+a0)))].map fun n=>UInt8.ofNat n.toNat)
  else
   ((zfH n_) (IntKind.i64.wrap (Int.tdiv a0 10))).bind fun v1=>
   req (([(IntKind.u8.wrap (IntKind.i64.wrap ((48:Int)+(Int.tmod a0 10))))]:List Int).length≤9223372036854775807)<|
   req ((v1).length+(([(IntKind.u8.wrap (IntKind.i64.wrap ((48:Int)+(Int.tmod a0 10))))].map fun n=>UInt8.ofNat n.toNat)).length≤9223372036854775807)<|
   some (v1++([(IntKind.u8.wrap (IntKind.i64.wrap ((48:Int)+(Int.tmod a0 10))))].map fun n=>UInt8.ofNat n.toNat))
noncomputable def zlL:Int→Option (List UInt8):=zfH zEM
noncomputable def zkC (a0:Int):Option (List UInt8):=
 if(decide (a0<0))then
  (zlL (IntKind.i64.wrap (0-a0))).bind fun v1=>
  req ((([45]:List UInt8)).length+(v1).length≤9223372036854775807)<|
  some ((([45]:List UInt8):List UInt8)++v1)
 else
  (zlL a0).bind fun v2=>
  some v2
noncomputable def zaQ (a0:List DOp) (a1:List zhb) (v1:List zaa) (v2:Int):Option ((List zaa × Int) ⊕ Option (Int × List UInt8 × List zaa)):=
 if(decide (v2<(a0.length:Int)))then
  (getI a0 v2).bind fun y3=>
  (zgN v1 a1 y3.fKey).bind fun v4=>
  if(((!v4.2.2)&&(y3.fKind !=2))&&(y3.fKind !=3))then
   some (.inr (some (1,y3.fKey, [])))
  else
   (zhQ y3 v4.1 v4.2.1).bind fun v5=>
   if v5 then
    some (.inr (some (2,([]:List UInt8), [])))
   else
    if(y3.fKind==2)then
     (zaX v1 (⟨y3.fKey,y3.fVal,false⟩:zaa)).bind fun v6=>
     some (.inl (v6,(IntKind.i64.wrap (v2+1))))
    else
     if(y3.fKind==3)then
      (zaX v1 (⟨y3.fKey,([]:List UInt8),true⟩:zaa)).bind fun v7=>
      some (.inl (v7,(IntKind.i64.wrap (v2+1))))
     else
      if(y3.fKind==4)then
       (zid v4.1).bind fun v8=>
       if(!v4.2.1)then
        (zkC (IntKind.i64.wrap ((0:Int)+y3.fBy))).bind fun v9=>
        (zaX v1 (⟨y3.fKey,v9,false⟩:zaa)).bind fun v10=>
        some (.inl (v10,(IntKind.i64.wrap (v2+1))))
       else
        (zkC (IntKind.i64.wrap (v8.1+y3.fBy))).bind fun v11=>
        (zaX v1 (⟨y3.fKey,v11,false⟩:zaa)).bind fun v12=>
        some (.inl (v12,(IntKind.i64.wrap (v2+1))))
      else
       some (.inl (v1,(IntKind.i64.wrap (v2+1))))
 else
  some (.inr (some (3,([]:List UInt8),v1)))
noncomputable def zkq (a0:List DOp) (a1:List zhb):Option (Int × List UInt8 × List zaa):=
 zau (fun s:List zaa × Int=>zaQ a0 a1 s.1 s.2) ([],0)
noncomputable def zkX (a1:List UInt8):Option (zhb):=
 some (⟨a1,([]:List UInt8),false⟩:zhb)
noncomputable def zdr (a0:List zaa) (a1:List UInt8) (v1:Int):Option ((Int) ⊕ Option (zhb)):=
 if(decide (v1<(a0.length:Int)))then
  (getI a0 v1).bind fun y2=>
  if(y2.fKey==a1)then
   some (.inr (some (⟨a1,y2.fVal,true⟩:zhb)))
  else
   some (.inl (IntKind.i64.wrap (v1+1)))
 else
  some (.inr (zkX a1))
noncomputable def ziJ (a0:List zaa) (a1:List UInt8):Option (zhb):=
 zau (fun s:Int=>zdr a0 a1 s) 0
noncomputable def zco (a0:List zaa) (a1:List DOp) (v1:List zhb):Option ((List zhb) ⊕ Option (List zhb × List zaa × Bool)):=
 (zkq a1 v1).bind fun v2=>
 if(v2.1 !=1)then
  some (.inr (some (v1,v2.2.2,(v2.1==3))))
 else
  (ziJ a0 v2.2.1).bind fun v3=>
  req ((((v1).length:Int)+(([v3]:List zhb).length:Int))*40≤140737488355328∧((v1).length:Int)+(([v3]:List zhb).length:Int)≤140737488355328)<|
  some (.inl (v1++ [v3]))
noncomputable def zjI (a0:List zaa) (a1:List DOp):Option (List zhb × List zaa × Bool):=
 zau (fun s:List zhb=>zco a0 a1 s) []
noncomputable def zcn (v1:List zaa) (v2:List zaa) (v3:Int):Option ((List zaa × Int) ⊕ Option (List zaa)):=
 if(decide (v3<(v1.length:Int)))then
  (getI v1 v3).bind fun y4=>
  if(!y4.fGone)then
   req ((((v2).length:Int)+(([y4]:List zaa).length:Int))*40≤140737488355328∧((v2).length:Int)+(([y4]:List zaa).length:Int)≤140737488355328)<|
   some (.inl ((v2++ [y4]),(IntKind.i64.wrap (v3+1))))
  else
   some (.inl (v2,(IntKind.i64.wrap (v3+1))))
 else
  some (.inr (some v2))
noncomputable def zf9 (v1:List zaa):Option (List zaa):=
 zau (fun s:List zaa × Int=>zcn v1 s.1 s.2) ([],0)
noncomputable def zcs (a1:List zaa) (v5:Int) (v6:List zaa):Option ((Int × List zaa) ⊕ Option (List zaa)):=
 if(decide (v5<(a1.length:Int)))then
  (getI a1 v5).bind fun y7=>
  (zaX v6 y7).bind fun v8=>
  some (.inl ((IntKind.i64.wrap (v5+1)),v8))
 else
  some (.inr (zf9 v6))
noncomputable def zf2 (a0:List zaa) (a1:List zaa):Option (List zaa):=
 req (((([]:List zaa).length:Int)+((a0).length:Int))*40≤140737488355328∧(([]:List zaa).length:Int)+((a0).length:Int)≤140737488355328)<|
 zau (fun s:Int × List zaa=>zcs a1 s.1 s.2) (0,a0)
noncomputable def zbR (a1:List (List DOp)) (v2:List Bool) (v3:Int) (v4:List zaa):Option ((List Bool × Int × List zaa) ⊕ Option (List zaa × List Bool × Bool)):=
 if(decide (v3<(a1.length:Int)))then
  (getI a1 v3).bind fun y5=>
  (zjI v4 y5).bind fun v6=>
  (zf2 v4 v6.2.1).bind fun v7=>
  if v6.2.2 then
   (zcx v7).bind fun v8=>
   if v8 then
    req ((((v2).length:Int)+(([v8]:List Bool).length:Int))*1≤140737488355328∧((v2).length:Int)+(([v8]:List Bool).length:Int)≤140737488355328)<|
    some (.inl ((v2++ [v8]),(IntKind.i64.wrap (v3+1)),v7))
   else
    req ((((v2).length:Int)+(([v8]:List Bool).length:Int))*1≤140737488355328∧((v2).length:Int)+(([v8]:List Bool).length:Int)≤140737488355328)<|
    some (.inl ((v2++ [v8]),(IntKind.i64.wrap (v3+1)),v4))
  else
   req ((((v2).length:Int)+(([false]:List Bool).length:Int))*1≤140737488355328∧((v2).length:Int)+(([false]:List Bool).length:Int)≤140737488355328)<|
   some (.inl ((v2++ [false]),(IntKind.i64.wrap (v3+1)),v4))
 else
  some (.inr (some (v4,v2,true)))
noncomputable def zgj (a0:List zaa) (a1:List (List DOp)):Option (List zaa × List Bool × Bool):=
 req (((([]:List zaa).length:Int)+((a0).length:Int))*40≤140737488355328∧(([]:List zaa).length:Int)+((a0).length:Int)≤140737488355328)<|
 zau (fun s:List Bool × Int × List zaa=>zbR a1 s.1 s.2.1 s.2.2) ([],0,a0)
noncomputable def zbO (a0:List zaa) (a1:List (List DOp)) (v9:Int):Option ((Int) ⊕ Option (List zaa × List Bool × Bool)):=
 if(decide (v9<(a1.length:Int)))then
  (getI a1 v9).bind fun y10=>
  (ziO y10).bind fun v11=>
  if(!v11)then
   some (.inr (some ([], [],false)))
  else
   some (.inl (IntKind.i64.wrap (v9+1)))
 else
  some (.inr (zgj a0 a1))
noncomputable def zf1 (a0:List zaa) (a1:List (List DOp)):Option (List zaa × List Bool × Bool):=
 (zcx a0).bind fun v1=>
 if((!v1)||(decide ((a1.length:Int)>20)))then
  some ([], [],false)
 else
  zau (fun s:Int=>zbO a0 a1 s) 0
noncomputable def zjs (a0:List zaa) (a1:List DOp):Option (List zaa × Bool):=
 (zf1 a0 ([a1]:List (List DOp))).bind fun v1=>
 if((v1.2.1.length:Int)==1)then
  (getI v1.2.1 0).bind fun y2=>
  some (v1.1,y2)
 else
  some (v1.1,false)
noncomputable def zgk (a0:zab) (a1:List zaa) (a2:zan):Option (List zaa × Bool × Bool):=
 (zeU a0 a2).bind fun v1=>
 if v1 then
  (zcx a1).bind fun v2=>
  if(!v2)then
   some ([],false,false)
  else
   (ziL a0 a2).bind fun v3=>
   (zjs a1 v3).bind fun v4=>
   some (v4.1,v4.2,true)
 else
  some ([],false,false)
noncomputable def ziQ (a0:zab) (a1:List UInt8):Option (Bool):=
 (zfU a0).bind fun v1=>
 if v1 then
  (zbB a0 a1).bind fun v2=>
  some (decide (v2≥0))
 else
  some false
noncomputable def zbl (a0:List UInt8) (a1:List UInt8):Option (Bool):=
 if(decide ((a0.length:Int)≥(a1.length:Int)))then
  req (0≤(0:Int)∧(0:Int)≤(a1.length:Int)∧(a1.length:Int)≤(a0.length:Int))<|
  some ((ze8 a0 0 (a1.length:Int))==a1)
 else
  some false
noncomputable def zcg (a0:List UInt8) (a1:List UInt8):Option (List UInt8 × Bool):=
 (zbl a0 a1).bind fun v1=>
 if(!v1)then
  some (a0,false)
 else
  req (0≤(a1.length:Int)∧(a1.length:Int)≤(a0.length:Int)∧(a0.length:Int)≤(a0.length:Int))<|
  some ((ze8 a0 (a1.length:Int) (a0.length:Int)),true)
noncomputable def zdh (a0:List UInt8) (a1:List UInt8):Option (List UInt8 × Bool):=
 (zcg a0 a1).bind fun v1=>
 some (v1.1,v1.2)
noncomputable def zci (a0:List UInt8) (a1:List UInt8):Option (List UInt8 × List UInt8 × Bool):=
 (zaV a0 a1).bind fun v1=>
 if(decide (v1≥0))then
  req (0≤(0:Int)∧(0:Int)≤v1∧v1≤(a0.length:Int))<|
  req (0≤(IntKind.i64.wrap (v1+(a1.length:Int)))∧(IntKind.i64.wrap (v1+(a1.length:Int)))≤(a0.length:Int)∧(a0.length:Int)≤(a0.length:Int))<|
  some ((ze8 a0 0 v1),(ze8 a0 (IntKind.i64.wrap (v1+(a1.length:Int))) (a0.length:Int)),true)
 else
  some (a0,([]:List UInt8),false)
noncomputable def zfq (a0:List UInt8) (a1:List UInt8):Option (List UInt8 × List UInt8 × Bool):=
 (zci a0 a1).bind fun v1=>
 some (v1.1,v1.2.1,v1.2.2)
noncomputable def zcz (a0:zab) (a1:List UInt8) (a2:List UInt8):Option (List UInt8 × List UInt8 × Bool):=
 (zcl a0 a1).bind fun v1=>
 (zdh a2 v1).bind fun v2=>
 (zfq v2.1 ([47]:List UInt8)).bind fun v3=>
 if v2.2 then
  if v3.2.2 then
   (zeQ v3.1).bind fun v4=>
   if v4 then
    (zeQ v3.2.1).bind fun v5=>
    if(!v5)then
     some (([]:List UInt8),([]:List UInt8),false)
    else
     some (v3.1,v3.2.1,true)
   else
    some (([]:List UInt8),([]:List UInt8),false)
  else
   some (([]:List UInt8),([]:List UInt8),false)
 else
  some (([]:List UInt8),([]:List UInt8),false)
noncomputable def za1 (a0:zab) (a1:List UInt8) (a2:List zaa) (v1:Int) (v2:List (List UInt8)):Option ((Int × List (List UInt8)) ⊕ Option (List (List UInt8))):=
 if(decide (v1<(a2.length:Int)))then
  (getI a2 v1).bind fun y3=>
  (zcz a0 a1 y3.fKey).bind fun v4=>
  if v4.2.2 then
   req ((((v2).length:Int)+(([y3.fKey]:List (List UInt8)).length:Int))*16≤140737488355328∧((v2).length:Int)+(([y3.fKey]:List (List UInt8)).length:Int)≤140737488355328)<|
   some (.inl ((IntKind.i64.wrap (v1+1)),(v2++ [y3.fKey])))
  else
   some (.inl ((IntKind.i64.wrap (v1+1)),v2))
 else
  some (.inr (some v2))
noncomputable def zbX (a0:zab) (a1:List UInt8) (a2:List zaa):Option (List (List UInt8)):=
 zau (fun s:Int × List (List UInt8)=>za1 a0 a1 a2 s.1 s.2) (0, [])
noncomputable def zgK (a0:List UInt8) (a1:List UInt8):Option (Int):=
 (zaV a0 a1).bind fun v1=>
 some v1
noncomputable def zfd (v3:List UInt8) (v4:Int) (v5:List (List UInt8)):Option (List (List UInt8)):=
 (getI v5 v4).bind fun y6=>
 req (0≤(0:Int)∧(0:Int)≤(IntKind.i64.wrap (v4+1))∧(IntKind.i64.wrap (v4+1))≤((v5.set (v4).toNat v3).length:Int))<|
 some (ze8 (v5.set (v4).toNat v3) 0 (IntKind.i64.wrap (v4+1)))
noncomputable def zbU (a0:List UInt8) (a1:List UInt8) (a2:Int) (v2:Int) (v7:List UInt8) (v8:Int) (v9:List (List UInt8)):Option ((List UInt8 × Int × List (List UInt8)) ⊕ Option (List (List UInt8))):=
 if(decide (v8<(IntKind.i64.wrap ((bif (decide ((IntKind.i64.wrap ((a0.length:Int)+1))<v2))then(IntKind.i64.wrap ((a0.length:Int)+1))else v2)-1))))then
  (zgK v7 a1).bind fun v10=>
  if(decide (v10<0))then
   some (.inr (zfd v7 v8 v9))
  else
   req (0≤(0:Int)∧(0:Int)≤(IntKind.i64.wrap (v10+a2))∧(IntKind.i64.wrap (v10+a2))≤(v7.length:Int))<|
   (getI v9 v8).bind fun y11=>
   req (0≤(IntKind.i64.wrap (v10+(a1.length:Int)))∧(IntKind.i64.wrap (v10+(a1.length:Int)))≤(v7.length:Int)∧(v7.length:Int)≤(v7.length:Int))<|
   some (.inl ((ze8 v7 (IntKind.i64.wrap (v10+(a1.length:Int))) (v7.length:Int)),(IntKind.i64.wrap (v8+1)),(v9.set (v8).toNat (ze8 v7 0 (IntKind.i64.wrap (v10+a2))))))
 else
  some (.inr (zfd v7 v8 v9))
noncomputable def zfj (a0:List UInt8) (a1:List UInt8) (a2:Int) (v2:Int):Option (List (List UInt8)):=
 req (0≤(bif (decide ((IntKind.i64.wrap ((a0.length:Int)+1))<v2))then(IntKind.i64.wrap ((a0.length:Int)+1))else v2)∧(bif (decide ((IntKind.i64.wrap ((a0.length:Int)+1))<v2))then(IntKind.i64.wrap ((a0.length:Int)+1))else v2)*16≤140737488355328∧(bif (decide ((IntKind.i64.wrap ((a0.length:Int)+1))<v2))then(IntKind.i64.wrap ((a0.length:Int)+1))else v2)≤140737488355328)<|
 zau (fun s:List UInt8 × Int × List (List UInt8)=>zbU a0 a1 a2 v2 s.1 s.2.1 s.2.2) (a0,0,(List.replicate ((bif (decide ((IntKind.i64.wrap ((a0.length:Int)+1))<v2))then(IntKind.i64.wrap ((a0.length:Int)+1))else v2)).toNat ([]:List UInt8)))
noncomputable def zgU (a0:List UInt8) (a1:List UInt8) (a2:Int) (a3:Int):Option (List (List UInt8)):=
 if(a3==0)then
  some []
 else
  if(a1==([]:List UInt8))then
   (zhu a0 a3).bind fun v1=>
   some v1
  else
   if(decide (a3<0))then
    (zgx a0 a1).bind fun v12=>
    zfj a0 a1 a2 (IntKind.i64.wrap (v12+1))
   else
    zfj a0 a1 a2 a3
noncomputable def zfn (a0:List UInt8) (a1:List UInt8):Option (List (List UInt8)):=
 (zgU a0 a1 0 (-1)).bind fun v1=>
 some v1
noncomputable def zdk (a0:zab) (a1:zaa):Option (zcm × Bool):=
 req ((a0.fName).length+(([47]:List UInt8)).length≤9223372036854775807)<|
 (zdh a1.fKey (a0.fName++([47]:List UInt8))).bind fun v1=>
 (zfn a1.fVal ([44]:List UInt8)).bind fun v2=>
 req (((([v1.1]:List (List UInt8)).length:Int)+((v2).length:Int))*16≤140737488355328∧(([v1.1]:List (List UInt8)).length:Int)+((v2).length:Int)≤140737488355328)<|
 if v1.2 then
  (za9 a0 (⟨([v1.1]++v2)⟩:zcm)).bind fun v3=>
  if v3 then
   (zbq a0 (⟨([v1.1]++v2)⟩:zcm)).bind fun v4=>
   if(!(a1.fKey==v4.fKey&&(a1.fVal==v4.fVal&&(a1.fGone==v4.fGone))))then
    some ((⟨[]⟩:zcm),false)
   else
    some ((⟨([v1.1]++v2)⟩:zcm),true)
  else
   some ((⟨[]⟩:zcm),false)
 else
  some ((⟨[]⟩:zcm),false)
noncomputable def zbe (a0:zab) (a1:List zaa) (v1:Int) (v2:List zcm):Option ((Int × List zcm) ⊕ Option (List zcm)):=
 if(decide (v1<(a1.length:Int)))then
  (getI a1 v1).bind fun y3=>
  (zdk a0 y3).bind fun v4=>
  if v4.2 then
   req ((((v2).length:Int)+(([v4.1]:List zcm).length:Int))*24≤140737488355328∧((v2).length:Int)+(([v4.1]:List zcm).length:Int)≤140737488355328)<|
   some (.inl ((IntKind.i64.wrap (v1+1)),(v2++ [v4.1])))
  else
   some (.inl ((IntKind.i64.wrap (v1+1)),v2))
 else
  some (.inr (some v2))
noncomputable def zfa (a0:zab) (a1:List zaa):Option (List zcm):=
 zau (fun s:Int × List zcm=>zbe a0 a1 s.1 s.2) (0, [])
noncomputable def zbf (a0:zab) (a1:List UInt8) (v1:List zcm) (v2:Int) (v3:List (List UInt8)):Option ((Int × List (List UInt8)) ⊕ Option (List (List UInt8))):=
 if(decide (v2<(v1.length:Int)))then
  (getI v1 v2).bind fun y4=>
  (za3 a0 a1 y4).bind fun v5=>
  req ((((v3).length:Int)+(([v5]:List (List UInt8)).length:Int))*16≤140737488355328∧((v3).length:Int)+(([v5]:List (List UInt8)).length:Int)≤140737488355328)<|
  some (.inl ((IntKind.i64.wrap (v2+1)),(v3++ [v5])))
 else
  some (.inr (some v3))
noncomputable def zcF (a0:zab) (a1:List UInt8) (a2:List zaa):Option (List (List UInt8)):=
 (zfa a0 a2).bind fun v1=>
 zau (fun s:Int × List (List UInt8)=>zbf a0 a1 v1 s.1 s.2) (0, [])
noncomputable def za0 (xs:List (List UInt8)):Option (List (List UInt8)):=zou 16 xs
noncomputable def zis (a0:List UInt8) (a1:List (List UInt8)):Option (Bool):=
 (zaN a1 a0).bind fun v1=>
 some v1
noncomputable def zfP (a0:List (List UInt8)) (a1:List (List UInt8)):Option (List (List UInt8)):=
 (za0 a0).bind fun v1=>
 (ze9 v1 (fun y0_=>zis y0_ a1)).bind fun v2=>
 some v2
noncomputable def zcM (a0:zab) (a1:List UInt8) (a2:List zaa):Option (List (List UInt8)):=
 (zbX a0 a1 a2).bind fun v1=>
 (zcF a0 a1 a2).bind fun v2=>
 (zfP v1 v2).bind fun v3=>
 some v3
noncomputable def zeX (a0:zab) (a1:List UInt8) (a2:List zaa):Option (List (List UInt8)):=
 (zcF a0 a1 a2).bind fun v1=>
 (zbX a0 a1 a2).bind fun v2=>
 (zfP v1 v2).bind fun v3=>
 some v3
noncomputable def zdj (a0:zab) (a1:List UInt8) (a2:Int) (a3:List zaa):Option (Bool):=
 if(a2==0)then
  (zbX a0 a1 a3).bind fun v1=>
  some ((v1.length:Int)==0)
 else
  if(a2==1)then
   (zcM a0 a1 a3).bind fun v2=>
   some ((v2.length:Int)==0)
  else
   (zcM a0 a1 a3).bind fun v3=>
   if((v3.length:Int)==0)then
    (zeX a0 a1 a3).bind fun v4=>
    some ((v4.length:Int)==0)
   else
    some false
noncomputable def zde (a0:zab) (a1:List UInt8) (a2:List zaa):Option (Bool):=
 (zbH a0).bind fun v1=>
 if v1 then
  (zbd a0 a1).bind fun v2=>
  if(decide (v2≥0))then
   (zcx a2).bind fun v3=>
   some v3
  else
   some false
 else
  some false
noncomputable def zer (a0:zab) (a1:List UInt8) (a2:List UInt8):Option (List UInt8 × List UInt8 × Bool):=
 (zdL a2 47).bind fun v1=>
 if((v1.length:Int) !=3)then
  some (([]:List UInt8),([]:List UInt8),false)
 else
  (getI v1 0).bind fun y2=>
  req ((a0.fName).length+(([46]:List UInt8)).length≤9223372036854775807)<|
  req (((a0.fName++([46]:List UInt8))).length+(a1).length≤9223372036854775807)<|
  if(y2 !=((a0.fName++([46]:List UInt8))++a1))then
   some (([]:List UInt8),([]:List UInt8),false)
  else
   (getI v1 1).bind fun y3=>
   (zd6 y3).bind fun v4=>
   if v4 then
    (getI v1 2).bind fun y5=>
    (zd6 y5).bind fun v6=>
    if(!v6)then
     some (([]:List UInt8),([]:List UInt8),false)
    else
     some (y3,y5,true)
   else
    some (([]:List UInt8),([]:List UInt8),false)
noncomputable def zcd (a0:zab) (a1:List UInt8) (a2:List zaa) (v1:List (List UInt8)) (v2:Int):Option ((List (List UInt8) × Int) ⊕ Option (List (List UInt8))):=
 if(decide (v2<(a2.length:Int)))then
  (getI a2 v2).bind fun y3=>
  (zer a0 a1 y3.fKey).bind fun v4=>
  if v4.2.2 then
   req ((((v1).length:Int)+(([y3.fKey]:List (List UInt8)).length:Int))*16≤140737488355328∧((v1).length:Int)+(([y3.fKey]:List (List UInt8)).length:Int)≤140737488355328)<|
   some (.inl ((v1++ [y3.fKey]),(IntKind.i64.wrap (v2+1))))
  else
   some (.inl (v1,(IntKind.i64.wrap (v2+1))))
 else
  some (.inr (some v1))
noncomputable def zd7 (a0:zab) (a1:List UInt8) (a2:List zaa):Option (List (List UInt8)):=
 zau (fun s:List (List UInt8) × Int=>zcd a0 a1 a2 s.1 s.2) ([],0)
noncomputable def zcu (a0:zab) (a1:List UInt8) (v1:List zcm) (v2:List (List UInt8)) (v3:Int):Option ((List (List UInt8) × Int) ⊕ Option (List (List UInt8))):=
 if(decide (v3<(v1.length:Int)))then
  (getI v1 v3).bind fun y4=>
  (zbd a0 a1).bind fun v5=>
  (getI a0.fIdxs v5).bind fun y6=>
  (zb9 a0 y6 y4).bind fun v7=>
  req ((((v2).length:Int)+(([v7]:List (List UInt8)).length:Int))*16≤140737488355328∧((v2).length:Int)+(([v7]:List (List UInt8)).length:Int)≤140737488355328)<|
  some (.inl ((v2++ [v7]),(IntKind.i64.wrap (v3+1))))
 else
  some (.inr (some v2))
noncomputable def zdx (a0:zab) (a1:List UInt8) (a2:List zaa):Option (List (List UInt8)):=
 (zeO a0 a2).bind fun v1=>
 zau (fun s:List (List UInt8) × Int=>zcu a0 a1 v1 s.1 s.2) ([],0)
noncomputable def zc5 (a0:List (List UInt8)) (a1:List (List UInt8)) (v1:List (List UInt8)) (v2:Int):Option ((List (List UInt8) × Int) ⊕ Option (List (List UInt8))):=
 if(decide (v2<(a0.length:Int)))then
  (getI a0 v2).bind fun y3=>
  (zhX a1 y3).bind fun v4=>
  if(decide (v4<0))then
   req ((((v1).length:Int)+(([y3]:List (List UInt8)).length:Int))*16≤140737488355328∧((v1).length:Int)+(([y3]:List (List UInt8)).length:Int)≤140737488355328)<|
   some (.inl ((v1++ [y3]),(IntKind.i64.wrap (v2+1))))
  else
   some (.inl (v1,(IntKind.i64.wrap (v2+1))))
 else
  some (.inr (some v1))
noncomputable def zhS (a0:List (List UInt8)) (a1:List (List UInt8)):Option (List (List UInt8)):=
 zau (fun s:List (List UInt8) × Int=>zc5 a0 a1 s.1 s.2) ([],0)
noncomputable def zio (a0:zab) (a1:List UInt8) (a2:List zaa):Option (List (List UInt8) × Bool):=
 (zde a0 a1 a2).bind fun v1=>
 if(!v1)then
  some ([],false)
 else
  (zd7 a0 a1 a2).bind fun v2=>
  (zdx a0 a1 a2).bind fun v3=>
  (zhS v2 v3).bind fun v4=>
  some (v4,true)
noncomputable def zjw (a0:zab) (a1:List UInt8) (a2:List zaa):Option (List (List UInt8) × Bool):=
 (zde a0 a1 a2).bind fun v1=>
 if(!v1)then
  some ([],false)
 else
  (zdx a0 a1 a2).bind fun v2=>
  (zd7 a0 a1 a2).bind fun v3=>
  (zhS v2 v3).bind fun v4=>
  some (v4,true)
noncomputable def zgA (a0:zab) (a1:List UInt8) (a2:Int) (a3:List zaa):Option (Bool):=
 if(a2==0)then
  (zd7 a0 a1 a3).bind fun v1=>
  some ((v1.length:Int)==0)
 else
  (zio a0 a1 a3).bind fun v2=>
  (zjw a0 a1 a3).bind fun v3=>
  some (((v2.1.length:Int)==0)&&((a2==1)||((v3.1.length:Int)==0)))
noncomputable def zeD (a0:List zaa) (a1:List zaa) (v1:Int):Option ((Int) ⊕ Option (Bool)):=
 if(decide (v1<(a0.length:Int)))then
  (getI a0 v1).bind fun y2=>
  (getI a1 v1).bind fun y3=>
  if(!(y2.fKey==y3.fKey&&(y2.fVal==y3.fVal&&(y2.fGone==y3.fGone))))then
   some (.inr (some false))
  else
   some (.inl (IntKind.i64.wrap (v1+1)))
 else
  some (.inr (some true))
noncomputable def ziD (a0:List zaa) (a1:List zaa):Option (Bool):=
 if((a0.length:Int) !=(a1.length:Int))then
  some false
 else
  zau (fun s:Int=>zeD a0 a1 s) 0
noncomputable def zeB (a0:List (List UInt8)) (a1:List (List UInt8)) (v1:Int):Option ((Int) ⊕ Option (Bool)):=
 if(decide (v1<(a0.length:Int)))then
  (getI a0 v1).bind fun y2=>
  (getI a1 v1).bind fun y3=>
  if(y2 !=y3)then
   some (.inr (some false))
  else
   some (.inl (IntKind.i64.wrap (v1+1)))
 else
  some (.inr (some true))
noncomputable def ziM (a0:List (List UInt8)) (a1:List (List UInt8)):Option (Bool):=
 if((a0.length:Int) !=(a1.length:Int))then
  some false
 else
  zau (fun s:Int=>zeB a0 a1 s) 0
noncomputable def zeL (a0:zab) (a1:List UInt8) (a2:Int) (v4:Int) (v5:List zab):Option ((Int × List zab) ⊕ Option (List zab)):=
 if(v4 !=a2)then
  if(decide (v4<a2))then
   (zfu a0 a1 (IntKind.i64.wrap (v4+1))).bind fun v6=>
   req ((((v5).length:Int)+(([v6]:List zab).length:Int))*64≤140737488355328∧((v5).length:Int)+(([v6]:List zab).length:Int)≤140737488355328)<|
   some (.inl ((IntKind.i64.wrap (v4+1)),(v5++ [v6])))
  else
   (zfu a0 a1 (IntKind.i64.wrap (v4-1))).bind fun v7=>
   req ((((v5).length:Int)+(([v7]:List zab).length:Int))*64≤140737488355328∧((v5).length:Int)+(([v7]:List zab).length:Int)≤140737488355328)<|
   some (.inl ((IntKind.i64.wrap (v4-1)),(v5++ [v7])))
 else
  some (.inr (some v5))
noncomputable def zgX (a0:zab) (a1:List UInt8) (a2:Int):Option (List zab):=
 (zfv a0).bind fun v1=>
 (zbd a0 a1).bind fun v2=>
 (getI a0.fIdxs v2).bind fun y3=>
 zau (fun s:Int × List zab=>zeL a0 a1 a2 s.1 s.2) (y3.fStage, [v1])
noncomputable def zjv (a0:List Int):Option (List Int):=
 req (((([]:List Int).length:Int)+((a0).length:Int))*8≤140737488355328∧(([]:List Int).length:Int)+((a0).length:Int)≤140737488355328)<|
 some a0
noncomputable def zdw (a0:zaf) (v1:List Int) (v2:Int) (v3:List zab):Option ((Int × List zab) ⊕ Option (zaf)):=
 if(decide (v2<(a0.fWays.length:Int)))then
  (getI a0.fWays v2).bind fun y4=>
  (zfv y4).bind fun v5=>
  req ((((v3).length:Int)+(([v5]:List zab).length:Int))*64≤140737488355328∧((v3).length:Int)+(([v5]:List zab).length:Int)≤140737488355328)<|
  some (.inl ((IntKind.i64.wrap (v2+1)),(v3++ [v5])))
 else
  some (.inr (some (⟨a0.fName,v3,v1,a0.fStore⟩:zaf)))
noncomputable def zgZ (a0:zaf):Option (zaf):=
 (zjv a0.fAt).bind fun v1=>
 req (((([]:List zaa).length:Int)+((a0.fStore).length:Int))*40≤140737488355328∧(([]:List zaa).length:Int)+((a0.fStore).length:Int)≤140737488355328)<|
 zau (fun s:Int × List zab=>zdw a0 v1 s.1 s.2) (0, [])
noncomputable def zgv (a0:zab) (a1:List UInt8) (a2:Int) (a3:Int) (a4:List zaa):Option (zaf × Bool):=
 (zgW a0 a1 a2).bind fun v1=>
 if v1 then
  (zba a3 1 3).bind fun v2=>
  if v2 then
   (zcx a4).bind fun v3=>
   if(!v3)then
    some ((⟨([]:List UInt8), [], [], []⟩:zaf),false)
   else
    (zgX a0 a1 a2).bind fun v4=>
    req (0≤a3∧a3*8≤140737488355328∧a3≤140737488355328)<|
    (zgZ (⟨a1,v4,(List.replicate (a3).toNat 0),a4⟩:zaf)).bind fun v5=>
    some (v5,true)
  else
   some ((⟨([]:List UInt8), [], [], []⟩:zaf),false)
 else
  some ((⟨([]:List UInt8), [], [], []⟩:zaf),false)
noncomputable def zhN (a0:Int) (a1:Int):Option (Int):=
 if(decide (a0<a1))then
  some a0
 else
  some a1
noncomputable def zcq (a0:zaf) (v1:List Int) (v2:Int):Option ((List Int × Int) ⊕ Option (List Int)):=
 if(decide (v2<(a0.fAt.length:Int)))then
  (getI a0.fAt v2).bind fun y3=>
  (getI a0.fWays y3).bind fun y4=>
  (zbd y4 a0.fName).bind fun v5=>
  (getI y4.fIdxs v5).bind fun y6=>
  req ((((v1).length:Int)+(([y6.fStage]:List Int).length:Int))*8≤140737488355328∧((v1).length:Int)+(([y6.fStage]:List Int).length:Int)≤140737488355328)<|
  some (.inl ((v1++ [y6.fStage]),(IntKind.i64.wrap (v2+1))))
 else
  some (.inr (some v1))
noncomputable def zf7 (a0:zaf):Option (List Int):=
 zau (fun s:List Int × Int=>zcq a0 s.1 s.2) ([],0)
noncomputable def zd5 (a0:List Int) (a1:Int) (v1:Int):Option ((Int) ⊕ Option (Bool)):=
 if(decide (v1<(a0.length:Int)))then
  (getI a0 v1).bind fun y2=>
  if(y2==a1)then
   some (.inr (some true))
  else
   some (.inl (IntKind.i64.wrap (v1+1)))
 else
  some (.inr (some false))
noncomputable def zh7 (a0:List Int) (a1:Int):Option (Bool):=
 zau (fun s:Int=>zd5 a0 a1 s) 0
noncomputable def zdO (a0:zaf):Option (Int):=
 (zf7 a0).bind fun v1=>
 (zh7 v1 3).bind fun v2=>
 if v2 then
  some 2
 else
  (zh7 v1 0).bind fun v3=>
  if v3 then
   some 0
  else
   some 1
noncomputable def zdN (v11:List zaa × zad) (v16:zaf × Bool) (v21:List Int) (v24:List Int) (v25:Int) (v26:Int) (v27:List zaa):Option (zaf × zad):=
 (zas (⟨v24,v25,v26⟩:zad) 7).bind fun v28=>
 if v28.1 then
  some ((⟨v16.1.fName,v16.1.fWays,v21,v11.1⟩:zaf),(⟨v28.2.fcode,v28.2.fat,v28.2.fseed⟩:zad))
 else
  some ((⟨v16.1.fName,v16.1.fWays,v21,v27⟩:zaf),(⟨v28.2.fcode,v28.2.fat,v28.2.fseed⟩:zad))
noncomputable def zfJ (v11:List zaa × zad) (v16:zaf × Bool) (v21:List Int) (v22:Int) (v23:List (List UInt8)) (v29:Int) (v30:List Int) (v31:Int) (v32:Int) (v33:List zaa):Option ((Int × List Int × Int × Int × List zaa) ⊕ Option (zaf × zad)):=
 if(decide (v29<(v23.length:Int)))then
  (getI v23 v29).bind fun y34=>
  if(v22==2)then
   if true then
    (zaX v33 (⟨y34,([]:List UInt8),false⟩:zaa)).bind fun v35=>
    some (.inl ((IntKind.i64.wrap (v29+1)),v30,v31,v32,v35))
   else
    some (.inl ((IntKind.i64.wrap (v29+1)),v30,v31,v32,v33))
  else
   if(v22==1)then
    (zas (⟨v30,v31,v32⟩:zad) 2).bind fun v36=>
    if v36.1 then
     (zaX v33 (⟨y34,([]:List UInt8),false⟩:zaa)).bind fun v37=>
     some (.inl ((IntKind.i64.wrap (v29+1)),v36.2.fcode,v36.2.fat,v36.2.fseed,v37))
    else
     some (.inl ((IntKind.i64.wrap (v29+1)),v36.2.fcode,v36.2.fat,v36.2.fseed,v33))
   else
    if false then
     (zaX v33 (⟨y34,([]:List UInt8),false⟩:zaa)).bind fun v38=>
     some (.inl ((IntKind.i64.wrap (v29+1)),v30,v31,v32,v38))
    else
     some (.inl ((IntKind.i64.wrap (v29+1)),v30,v31,v32,v33))
 else
  some (.inr (zdN v11 v16 v21 v30 v31 v32 v33))
noncomputable def zdK (y8:za7) (v10:zab) (v11:List zaa × zad) (v13:List zaa) (v16:zaf × Bool) (v18:List Int) (v19:Int) (v20:Int) (v21:List Int):Option (zaf × zad):=
 (zdO (⟨v16.1.fName,v16.1.fWays,v21,v16.1.fStore⟩:zaf)).bind fun v22=>
 (zdx v10 y8.fName v13).bind fun v23=>
 zau (fun s:Int × List Int × Int × Int × List zaa=>zfJ v11 v16 v21 v22 v23 s.1 s.2.1 s.2.2.1 s.2.2.2.1 s.2.2.2.2) (0,v18,v19,v20,v16.1.fStore)
noncomputable def zfK (y8:za7) (v10:zab) (v11:List zaa × zad) (v13:List zaa) (v16:zaf × Bool) (v17:Int × zad) (v39:Int) (v40:List Int) (v41:Int) (v42:Int) (v43:List Int):Option ((Int × List Int × Int × Int × List Int) ⊕ Option (zaf × zad)):=
 if(decide (v39<(v16.1.fAt.length:Int)))then
  (zac (⟨v40,v41,v42⟩:zad) 2).bind fun v44=>
  (zhN (IntKind.i64.wrap (v17.1+v44.1)) (IntKind.i64.wrap ((v16.1.fWays.length:Int)-1))).bind fun v45=>
  (getI v43 v39).bind fun y46=>
  (zas v44.2 9).bind fun v47=>
  if v47.1 then
   (zac v47.2 (v16.1.fWays.length:Int)).bind fun v48=>
   some (.inl ((IntKind.i64.wrap (v39+1)),v48.2.fcode,v48.2.fat,v48.2.fseed,((v43.set (v39).toNat v45).set (v39).toNat v48.1)))
  else
   some (.inl ((IntKind.i64.wrap (v39+1)),v47.2.fcode,v47.2.fat,v47.2.fseed,(v43.set (v39).toNat v45)))
 else
  some (.inr (zdK y8 v10 v11 v13 v16 v40 v41 v42 v43))
noncomputable def zdM (y8:za7) (v10:zab) (v11:List zaa × zad) (v13:List zaa):Option (zaf × zad):=
 (zac v11.2 4).bind fun v14=>
 (zac v14.2 3).bind fun v15=>
 (zgv v10 y8.fName v14.1 (IntKind.i64.wrap ((1:Int)+v15.1)) v13).bind fun v16=>
 (zac v15.2 (v16.1.fWays.length:Int)).bind fun v17=>
 zau (fun s:Int × List Int × Int × Int × List Int=>zfK y8 v10 v11 v13 v16 v17 s.1 s.2.1 s.2.2.1 s.2.2.2.1 s.2.2.2.2) (0,v17.2.fcode,v17.2.fat,v17.2.fseed,v16.1.fAt)
noncomputable def zfS (y8:za7) (v10:zab) (v11:List zaa × zad) (v12:List zcm) (v49:List zaa) (v50:Int):Option ((List zaa × Int) ⊕ Option (zaf × zad)):=
 if(decide (v50<(v12.length:Int)))then
  (getI v12 v50).bind fun y51=>
  (zb2 v10 y51).bind fun v52=>
  (zaX v49 v52).bind fun v53=>
  some (.inl (v53,(IntKind.i64.wrap (v50+1))))
 else
  some (.inr (zdM y8 v10 v11 v49))
noncomputable def zbC (v2:List Int) (v3:Int) (v4:Int) (v5:List UInt8) (v6:List (List UInt8)) (v7:List za7):Option (zaf × zad):=
 (getI v7 0).bind fun y8=>
 (zac (⟨v2,v3,v4⟩:zad) 4).bind fun v9=>
 (zfu (⟨v5,v6,v7⟩:zab) y8.fName v9.1).bind fun v10=>
 (zdE v9.2 v10).bind fun v11=>
 (zeO v10 v11.1).bind fun v12=>
 zau (fun s:List zaa × Int=>zfS y8 v10 v11 v12 s.1 s.2) ([],0)
noncomputable def za6 (v54:List Int) (v55:Int) (v56:Int) (v57:List UInt8) (v58:List (List UInt8)) (v59:List za7):Option ((List Int × Int × Int × List UInt8 × List (List UInt8) × List za7) ⊕ Option (zaf × zad)):=
 if((v59.length:Int)==0)then
  (zax (⟨v54,v55,v56⟩:zad)).bind fun v60=>
  some (.inl (v60.2.fcode,v60.2.fat,v60.2.fseed,v60.1.fName,v60.1.fCols,v60.1.fIdxs))
 else
  some (.inr (zbC v54 v55 v56 v57 v58 v59))
noncomputable def zbb (a0:zad):Option (zaf × zad):=
 (zax a0).bind fun v1=>
 zau (fun s:List Int × Int × Int × List UInt8 × List (List UInt8) × List za7=>za6 s.1 s.2.1 s.2.2.1 s.2.2.2.1 s.2.2.2.2.1 s.2.2.2.2.2) (v1.2.fcode,v1.2.fat,v1.2.fseed,v1.1.fName,v1.1.fCols,v1.1.fIdxs)
noncomputable def zck (a0:zad):Option (zaf × zad):=
 (zbb a0).bind fun v1=>
 (zac v1.2 14).bind fun v2=>
 if(v2.1==0)then
  (zac v2.2 6).bind fun v3=>
  req ((((v1.1.fAt).length:Int)+(([(IntKind.i64.wrap (v3.1-1))]:List Int).length:Int))*8≤140737488355328∧((v1.1.fAt).length:Int)+(([(IntKind.i64.wrap (v3.1-1))]:List Int).length:Int)≤140737488355328)<|
  some ((⟨v1.1.fName,v1.1.fWays,(v1.1.fAt++ [(IntKind.i64.wrap (v3.1-1))]),v1.1.fStore⟩:zaf),(⟨v3.2.fcode,v3.2.fat,v3.2.fseed⟩:zad))
 else
  if(v2.1==1)then
   (zax v2.2).bind fun v4=>
   req ((((v1.1.fWays).length:Int)+(([v4.1]:List zab).length:Int))*64≤140737488355328∧((v1.1.fWays).length:Int)+(([v4.1]:List zab).length:Int)≤140737488355328)<|
   some ((⟨v1.1.fName,(v1.1.fWays++ [v4.1]),v1.1.fAt,v1.1.fStore⟩:zaf),(⟨v4.2.fcode,v4.2.fat,v4.2.fseed⟩:zad))
  else
   if(v2.1==2)then
    (za2 v2.2 ([([]:List UInt8),([122]:List UInt8)]:List (List UInt8))).bind fun v5=>
    some ((⟨v5.1,v1.1.fWays,v1.1.fAt,v1.1.fStore⟩:zaf),(⟨v5.2.fcode,v5.2.fat,v5.2.fseed⟩:zad))
   else
    if(v2.1==3)then
     req ((((v1.1.fStore).length:Int)+(([(⟨([97]:List UInt8),([]:List UInt8),true⟩:zaa)]:List zaa).length:Int))*40≤140737488355328∧((v1.1.fStore).length:Int)+(([(⟨([97]:List UInt8),([]:List UInt8),true⟩:zaa)]:List zaa).length:Int)≤140737488355328)<|
     some ((⟨v1.1.fName,v1.1.fWays,v1.1.fAt,(v1.1.fStore++ [(⟨([97]:List UInt8),([]:List UInt8),true⟩:zaa)])⟩:zaf),(⟨v2.2.fcode,v2.2.fat,v2.2.fseed⟩:zad))
    else
     if(v2.1==4)then
      some ((⟨v1.1.fName, [],v1.1.fAt,v1.1.fStore⟩:zaf),(⟨v2.2.fcode,v2.2.fat,v2.2.fseed⟩:zad))
     else
      if(v2.1==5)then
       req (0≤(1:Int)∧(1:Int)≤(v1.1.fWays.length:Int)∧(v1.1.fWays.length:Int)≤(v1.1.fWays.length:Int))<|
       some ((⟨v1.1.fName,(ze8 v1.1.fWays 1 (v1.1.fWays.length:Int)),v1.1.fAt,v1.1.fStore⟩:zaf),(⟨v2.2.fcode,v2.2.fat,v2.2.fseed⟩:zad))
      else
       some ((⟨v1.1.fName,v1.1.fWays,v1.1.fAt,v1.1.fStore⟩:zaf),(⟨v2.2.fcode,v2.2.fat,v2.2.fseed⟩:zad))
noncomputable def zdB (a0:zad) (a1:List Int):Option (Int × zad):=
 (zac a0 (a1.length:Int)).bind fun v1=>
 (getI a1 v1.1).bind fun y2=>
 some (y2,v1.2)
noncomputable def zcA (a0:zad) (a1:zaf):Option (zap × zad):=
 (zac a0 (a1.fAt.length:Int)).bind fun v1=>
 (zas v1.2 3).bind fun v2=>
 if v2.1 then
  (zdB v2.2 ([1,1,1,(-1)]:List Int)).bind fun v3=>
  some ((⟨v1.1,v3.1,(⟨0,(⟨[]⟩:zcm),(⟨[]⟩:zcm)⟩:zan)⟩:zap),v3.2)
 else
  (getI a1.fWays 0).bind fun y4=>
  (zep v2.2 y4 a1.fStore).bind fun v5=>
  some ((⟨v1.1,0,v5.1⟩:zap),v5.2)
noncomputable def zbF (a0:zad) (a1:zaf):Option (zap × zad):=
 if((a1.fAt.length:Int)==0)then
  some ((⟨0,0,(⟨0,(⟨[]⟩:zcm),(⟨[]⟩:zcm)⟩:zan)⟩:zap),a0)
 else
  if((a1.fWays.length:Int)==0)then
   some ((⟨0,0,(⟨0,(⟨[]⟩:zcm),(⟨[]⟩:zcm)⟩:zan)⟩:zap),a0)
  else
   (getI a1.fWays 0).bind fun y1=>
   if(decide ((y1.fCols.length:Int)<2))then
    some ((⟨0,0,(⟨0,(⟨[]⟩:zcm),(⟨[]⟩:zcm)⟩:zan)⟩:zap),a0)
   else
    (zcA a0 a1).bind fun v2=>
    (zac v2.2 14).bind fun v3=>
    if(v3.1==0)then
     (zac v3.2 5).bind fun v4=>
     some ((⟨(IntKind.i64.wrap (v4.1-1)),v2.1.fStep,(⟨v2.1.fAct.fKind,v2.1.fAct.fOld,v2.1.fAct.fNew⟩:zan)⟩:zap),(⟨v4.2.fcode,v4.2.fat,v4.2.fseed⟩:zad))
    else
     if(v3.1==1)then
      (zac v3.2 5).bind fun v5=>
      some ((⟨v2.1.fServer,(IntKind.i64.wrap (v5.1-2)),(⟨v2.1.fAct.fKind,v2.1.fAct.fOld,v2.1.fAct.fNew⟩:zan)⟩:zap),(⟨v5.2.fcode,v5.2.fat,v5.2.fseed⟩:zad))
     else
      if(v3.1==2)then
       (zac v3.2 5).bind fun v6=>
       some ((⟨v2.1.fServer,v2.1.fStep,(⟨v6.1,v2.1.fAct.fOld,v2.1.fAct.fNew⟩:zan)⟩:zap),(⟨v6.2.fcode,v6.2.fat,v6.2.fseed⟩:zad))
      else
       some ((⟨v2.1.fServer,v2.1.fStep,(⟨v2.1.fAct.fKind,v2.1.fAct.fOld,v2.1.fAct.fNew⟩:zan)⟩:zap),(⟨v3.2.fcode,v3.2.fat,v3.2.fseed⟩:zad))
noncomputable def zey (a0:List Int):Option (zaf × zap):=
 (zck (⟨a0,0,0⟩:zad)).bind fun v1=>
 (zbF v1.2 v1.1).bind fun v2=>
 some (v1.1,v2.1)
noncomputable def zdT (a0:List Int):Option (zaf × zap):=
 (zey a0).bind fun v1=>
 some (v1.1,v1.2)
noncomputable def zgC (a0:zab) (a1:zaf):Option (Bool):=
 (ziQ a0 a1.fName).bind fun v1=>
 some (!v1)
noncomputable def zg0 (a0:Int) (a1:zaf):Option (Bool):=
 (zbc a0 0 (IntKind.i64.wrap ((a1.fWays.length:Int)-1))).bind fun v1=>
 some (!v1)
noncomputable def zbz (a0:zaf) (a1:zab):Option (Int):=
 (zbx a1 a0.fName).bind fun v1=>
 some v1.fStage
noncomputable def zbQ (xs:List za7):Option (List za7):=zou 32 xs
noncomputable def zdv (a0:zab):Option (zab):=
 (za0 a0.fCols).bind fun v1=>
 (zbQ a0.fIdxs).bind fun v2=>
 some (⟨a0.fName,v1,v2⟩:zab)
noncomputable def zbW (a0:zab) (a1:List UInt8) (a2:Int):Option (zab):=
 (zdv a0).bind fun v1=>
 (zbB a0 a1).bind fun v2=>
 (getI v1.fIdxs v2).bind fun y3=>
 some (⟨v1.fName,v1.fCols,(v1.fIdxs.set (v2).toNat {y3 with fStage:=a2})⟩:zab)
noncomputable def zb5 (a0:zab) (a1:List UInt8) (a2:Int) (v3:Int) (v4:List zab):Option ((Int × List zab) ⊕ Option (List zab)):=
 if(v3 !=a2)then
  if(decide (v3<a2))then
   (zbW a0 a1 (IntKind.i64.wrap (v3+1))).bind fun v5=>
   req ((((v4).length:Int)+(([v5]:List zab).length:Int))*64≤140737488355328∧((v4).length:Int)+(([v5]:List zab).length:Int)≤140737488355328)<|
   some (.inl ((IntKind.i64.wrap (v3+1)),(v4++ [v5])))
  else
   (zbW a0 a1 (IntKind.i64.wrap (v3-1))).bind fun v6=>
   req ((((v4).length:Int)+(([v6]:List zab).length:Int))*64≤140737488355328∧((v4).length:Int)+(([v6]:List zab).length:Int)≤140737488355328)<|
   some (.inl ((IntKind.i64.wrap (v3-1)),(v4++ [v6])))
 else
  some (.inr (some v4))
noncomputable def zdS (a0:zab) (a1:List UInt8) (a2:Int):Option (List zab):=
 (zbx a0 a1).bind fun v1=>
 (zdv a0).bind fun v2=>
 zau (fun s:Int × List zab=>zb5 a0 a1 a2 s.1 s.2) (v1.fStage, [v2])
noncomputable def zai (a0:List zab) (a1:List zab) (a2:zab→zab→Option Bool) (v1:Int):Option ((Int) ⊕ Option (Bool)):=
 if(decide (v1<(a0.length:Int)))then
  (getI a0 v1).bind fun y2=>
  (getI a1 v1).bind fun y3=>
  (a2 y2 y3).bind fun v4=>
  if(!v4)then
   some (.inr (some false))
  else
   some (.inl (IntKind.i64.wrap (v1+1)))
 else
  some (.inr (some true))
noncomputable def zam (a0:List zab) (a1:List zab) (a2:zab→zab→Option Bool):Option (Bool):=
 if((a0.length:Int) !=(a1.length:Int))then
  some false
 else
  zau (fun s:Int=>zai a0 a1 a2 s) 0
noncomputable def zaL (a0:List (List UInt8)) (a1:List (List UInt8)) (v1:Int):Option ((Int) ⊕ Option (Bool)):=
 if(decide (v1<(a0.length:Int)))then
  (getI a0 v1).bind fun y2=>
  (getI a1 v1).bind fun y3=>
  if(y2 !=y3)then
   some (.inr (some false))
  else
   some (.inl (IntKind.i64.wrap (v1+1)))
 else
  some (.inr (some true))
noncomputable def zbr (a0:List (List UInt8)) (a1:List (List UInt8)):Option (Bool):=
 if((a0.length:Int) !=(a1.length:Int))then
  some false
 else
  zau (fun s:Int=>zaL a0 a1 s) 0
noncomputable def zaF (a0:List za7) (a1:List za7) (v1:Int):Option ((Int) ⊕ Option (Bool)):=
 if(decide (v1<(a0.length:Int)))then
  (getI a0 v1).bind fun y2=>
  (getI a1 v1).bind fun y3=>
  if(!(y2.fName==y3.fName&&(y2.fCol==y3.fCol&&(y2.fStage==y3.fStage))))then
   some (.inr (some false))
  else
   some (.inl (IntKind.i64.wrap (v1+1)))
 else
  some (.inr (some true))
noncomputable def za4 (a0:List za7) (a1:List za7):Option (Bool):=
 if((a0.length:Int) !=(a1.length:Int))then
  some false
 else
  zau (fun s:Int=>zaF a0 a1 s) 0
noncomputable def zce (a0:zab) (a1:zab):Option (Bool):=
 if(a0.fName==a1.fName)then
  (zbr a0.fCols a1.fCols).bind fun v1=>
  if v1 then
   (za4 a0.fIdxs a1.fIdxs).bind fun v2=>
   some v2
  else
   some false
 else
  some false
noncomputable def zbI (a0:zaf):Option (Bool):=
 (zbc (a0.fWays.length:Int) 1 4).bind fun v1=>
 if v1 then
  (zbc (a0.fAt.length:Int) 1 3).bind fun v2=>
  if v2 then
   (ziR a0.fStore).bind fun v3=>
   if(!v3)then
    some false
   else
    (zaT a0.fWays (fun y0_=>zgC y0_ a0)).bind fun v4=>
    if v4 then
     some false
    else
     (zaT a0.fAt (fun y0_=>zg0 y0_ a0)).bind fun v5=>
     if v5 then
      some false
     else
      (getI a0.fWays 0).bind fun y6=>
      (getI a0.fWays (IntKind.i64.wrap ((a0.fWays.length:Int)-1))).bind fun y7=>
      (zbz a0 y7).bind fun v8=>
      (zdS y6 a0.fName v8).bind fun v9=>
      (zam a0.fWays v9 (fun y0_ y1_=>zce y0_ y1_)).bind fun v10=>
      some v10
  else
   some false
 else
  some false
noncomputable def zaG (a0:zaf) (a1:Int):Option (zab):=
 (getI a0.fAt a1).bind fun y1=>
 (getI a0.fWays y1).bind fun y2=>
 some y2
noncomputable def zkI (a0:zan):Option (Bool):=
 some (((a0.fKind==0)&&((a0.fOld.fVals.length:Int)==0))&&((a0.fNew.fVals.length:Int)==0))
noncomputable def zbE (a0:zaf) (a1:zap):Option (Bool):=
 (zbc a1.fServer 0 (IntKind.i64.wrap ((a0.fAt.length:Int)-1))).bind fun v1=>
 if(!v1)then
  some false
 else
  if(a1.fStep==0)then
   (zaG a0 a1.fServer).bind fun v2=>
   (zcV v2 a1.fAct).bind fun v3=>
   some v3
  else
   if(a1.fStep==1)then
    (zkI a1.fAct).bind fun v4=>
    some v4
   else
    if(a1.fStep==(-1))then
     (zkI a1.fAct).bind fun v5=>
     some v5
    else
     some false
noncomputable def zbM (a0:zaf) (a1:zap):Option (Bool):=
 (zbI a0).bind fun v1=>
 if v1 then
  (zbE a0 a1).bind fun v2=>
  some v2
 else
  some false
noncomputable def zdI (xs:List Int):Option (List Int):=zou 8 xs
noncomputable def zct (a0:zaf) (v1:List Int) (v2:List zaa) (v3:Int) (v4:List zab):Option ((Int × List zab) ⊕ Option (zaf)):=
 if(decide (v3<(a0.fWays.length:Int)))then
  (getI a0.fWays v3).bind fun y5=>
  (zdv y5).bind fun v6=>
  req ((((v4).length:Int)+(([v6]:List zab).length:Int))*64≤140737488355328∧((v4).length:Int)+(([v6]:List zab).length:Int)≤140737488355328)<|
  some (.inl ((IntKind.i64.wrap (v3+1)),(v4++ [v6])))
 else
  some (.inr (some (⟨a0.fName,v4,v1,v2⟩:zaf)))
noncomputable def zfY (a0:zaf):Option (zaf):=
 (zdI a0.fAt).bind fun v1=>
 (zaD a0.fStore).bind fun v2=>
 zau (fun s:Int × List zab=>zct a0 v1 v2 s.1 s.2) (0, [])
noncomputable def zdb (a0:zaf) (a1:zap):Option (zaf × Bool):=
 (zfY a0).bind fun v1=>
 if(a1.fStep !=0)then
  (getI a0.fAt a1.fServer).bind fun y2=>
  (zbc (IntKind.i64.wrap (y2+a1.fStep)) 0 (IntKind.i64.wrap ((a0.fWays.length:Int)-1))).bind fun v3=>
  if(!v3)then
   some (v1,false)
  else
   (getI v1.fAt a1.fServer).bind fun y4=>
   some ((⟨v1.fName,v1.fWays,(v1.fAt.set (a1.fServer).toNat (IntKind.i64.wrap (y2+a1.fStep))),v1.fStore⟩:zaf),true)
 else
  (zaG a0 a1.fServer).bind fun v5=>
  (zdC v5 a1.fAct).bind fun v6=>
  (ziN a0.fStore v6).bind fun v7=>
  some ((⟨v1.fName,v1.fWays,v1.fAt,v7.1⟩:zaf),v7.2)
noncomputable def zeM (a0:zaf) (a1:zap):Option (zaf × Bool × Bool):=
 (zbM a0 a1).bind fun v1=>
 if(!v1)then
  some ((⟨([]:List UInt8), [], [], []⟩:zaf),false,false)
 else
  (zdb a0 a1).bind fun v2=>
  some (v2.1,v2.2,true)
noncomputable def zcC (a0:zab) (a1:zab) (v1:Int):Option ((Int) ⊕ Option (Bool)):=
 if(decide (v1<(a0.fIdxs.length:Int)))then
  (getI a0.fIdxs v1).bind fun y2=>
  (getI a1.fIdxs v1).bind fun y3=>
  if((y2.fName !=y3.fName)||(y2.fCol !=y3.fCol))then
   some (.inr (some false))
  else
   some (.inl (IntKind.i64.wrap (v1+1)))
 else
  some (.inr (some true))
noncomputable def zdA (a0:zab) (a1:zab):Option (Bool):=
 zau (fun s:Int=>zcC a0 a1 s) 0
noncomputable def zcI (a0:zab) (a1:zab) (v4:Int):Option ((Int) ⊕ Option (Bool)):=
 if(decide (v4<(a0.fCols.length:Int)))then
  (getI a0.fCols v4).bind fun y5=>
  (getI a1.fCols v4).bind fun y6=>
  if(y5 !=y6)then
   some (.inr (some false))
  else
   some (.inl (IntKind.i64.wrap (v4+1)))
 else
  some (.inr (zdA a0 a1))
noncomputable def ze2 (a0:zab) (a1:zab):Option (Bool):=
 if(((a0.fName !=a1.fName)||((a0.fCols.length:Int) !=(a1.fCols.length:Int)))||((a0.fIdxs.length:Int) !=(a1.fIdxs.length:Int)))then
  some false
 else
  zau (fun s:Int=>zcI a0 a1 s) 0
noncomputable def ziF (a0:Int) (a1:Int):Option (Int):=
 if(decide (a0>a1))then
  some a0
 else
  some a1
noncomputable def zdy (a0:zab) (a1:zab) (v1:Int) (v2:Int):Option ((Int × Int) ⊕ Option (Int)):=
 if(decide (v2<(a0.fIdxs.length:Int)))then
  (getI a0.fIdxs v2).bind fun y3=>
  (getI a1.fIdxs v2).bind fun y4=>
  (ziF (IntKind.i64.wrap (y3.fStage-y4.fStage)) (IntKind.i64.wrap (0-(IntKind.i64.wrap (y3.fStage-y4.fStage))))).bind fun v5=>
  some (.inl ((IntKind.i64.wrap (v1+v5)),(IntKind.i64.wrap (v2+1))))
 else
  some (.inr (some v1))
noncomputable def ziB (a0:zab) (a1:zab):Option (Int):=
 zau (fun s:Int × Int=>zdy a0 a1 s.1 s.2) (0,0)
noncomputable def zd8 (a0:zaf) (v10:List zab) (v11:Int):Option ((Int) ⊕ Option (Bool)):=
 if(decide (v11<(v10.length:Int)))then
  (getI a0.fWays v11).bind fun y12=>
  (zbH y12).bind fun v13=>
  if v13 then
   (getI v10 v11).bind fun y14=>
   (ze2 y14 y12).bind fun v15=>
   if v15 then
    (ziB y14 y12).bind fun v16=>
    if(v16 !=0)then
     some (.inr (some false))
    else
     some (.inl (IntKind.i64.wrap (v11+1)))
   else
    some (.inr (some false))
  else
   some (.inr (some false))
 else
  some (.inr (some true))
noncomputable def zeS (a0:zaf):Option (Bool):=
 (zba (a0.fWays.length:Int) 1 4).bind fun v1=>
 if v1 then
  (getI a0.fWays 0).bind fun y2=>
  (zbH y2).bind fun v3=>
  if v3 then
   (zbd y2 a0.fName).bind fun v4=>
   if(decide (v4<0))then
    some false
   else
    (getI a0.fWays (IntKind.i64.wrap ((a0.fWays.length:Int)-1))).bind fun y5=>
    (zbH y5).bind fun v6=>
    if v6 then
     (zbd y5 a0.fName).bind fun v7=>
     if(decide (v7<0))then
      some false
     else
      (zbd y5 a0.fName).bind fun v8=>
      (getI y5.fIdxs v8).bind fun y9=>
      (zgX y2 a0.fName y9.fStage).bind fun v10=>
      if((v10.length:Int) !=(a0.fWays.length:Int))then
       some false
      else
       zau (fun s:Int=>zd8 a0 v10 s) 0
    else
     some false
  else
   some false
 else
  some false
noncomputable def zdV (a0:List Int) (a1:Int) (a2:Int) (v1:Int):Option ((Int) ⊕ Option (Bool)):=
 if(decide (v1<(a0.length:Int)))then
  (getI a0 v1).bind fun y2=>
  (zba y2 a1 a2).bind fun v3=>
  if(!v3)then
   some (.inr (some false))
  else
   some (.inl (IntKind.i64.wrap (v1+1)))
 else
  some (.inr (some true))
noncomputable def zjq (a0:List Int) (a1:Int) (a2:Int):Option (Bool):=
 zau (fun s:Int=>zdV a0 a1 a2 s) 0
noncomputable def zbJ (a0:zaf):Option (Bool):=
 (zeS a0).bind fun v1=>
 if v1 then
  (zba (a0.fAt.length:Int) 1 3).bind fun v2=>
  if v2 then
   (zjq a0.fAt 0 (IntKind.i64.wrap ((a0.fWays.length:Int)-1))).bind fun v3=>
   if v3 then
    (zcx a0.fStore).bind fun v4=>
    some v4
   else
    some false
  else
   some false
 else
  some false
noncomputable def zlH (a0:zan):Option (Bool):=
 some (((a0.fKind==0)&&((a0.fOld.fVals.length:Int)==0))&&((a0.fNew.fVals.length:Int)==0))
noncomputable def zfQ (a0:zaf) (a1:zap):Option (Bool):=
 (zba a1.fServer 0 (IntKind.i64.wrap ((a0.fAt.length:Int)-1))).bind fun v1=>
 if(!v1)then
  some false
 else
  if((a1.fStep==1)||(a1.fStep==(-1)))then
   (zlH a1.fAct).bind fun v2=>
   some v2
  else
   if(a1.fStep==0)then
    (getI a0.fAt a1.fServer).bind fun y3=>
    (getI a0.fWays y3).bind fun y4=>
    (zfN y4 a1.fAct).bind fun v5=>
    some v5
   else
    some false
noncomputable def zcp (a0:zaf) (a1:zap):Option (Bool):=
 (zbJ a0).bind fun v1=>
 if v1 then
  (zfQ a0 a1).bind fun v2=>
  some v2
 else
  some false
noncomputable def zcZ (a0:zaf) (a1:zap):Option (zaf × Bool):=
 (zgZ a0).bind fun v1=>
 if(a1.fStep !=0)then
  (getI v1.fAt a1.fServer).bind fun y2=>
  (zba (IntKind.i64.wrap (y2+a1.fStep)) 0 (IntKind.i64.wrap ((a0.fWays.length:Int)-1))).bind fun v3=>
  if(!v3)then
   some (v1,false)
  else
   some ((⟨v1.fName,v1.fWays,(v1.fAt.set (a1.fServer).toNat (IntKind.i64.wrap (y2+a1.fStep))),v1.fStore⟩:zaf),true)
 else
  (getI a0.fAt a1.fServer).bind fun y4=>
  (getI a0.fWays y4).bind fun y5=>
  (zgk y5 a0.fStore a1.fAct).bind fun v6=>
  some ((⟨v1.fName,v1.fWays,v1.fAt,v6.1⟩:zaf),v6.2.1)
noncomputable def zeC (a0:zaf) (a1:zap):Option (zaf × Bool × Bool):=
 (zcp a0 a1).bind fun v1=>
 if(!v1)then
  some ((⟨([]:List UInt8), [], [], []⟩:zaf),false,false)
 else
  (zcZ a0 a1).bind fun v2=>
  some (v2.1,v2.2,true)
noncomputable def zaP (a0:List Int) (v2:Int) (v3:Int):Option ((Int × Int) ⊕ Option (Int)):=
 if(decide (v3<(a0.length:Int)))then
  (getI a0 v3).bind fun y4=>
  some (.inl ((bif (decide (y4>v2))then y4 else v2),(IntKind.i64.wrap (v3+1))))
 else
  some (.inr (some v2))
noncomputable def zcU (a0:List Int):Option (Int):=
 if(decide ((a0.length:Int)<1))then
  none
 else
  (getI a0 0).bind fun y1=>
  zau (fun s:Int × Int=>zaP a0 s.1 s.2) (y1,1)
noncomputable def zaO (a0:List Int) (v2:Int) (v3:Int):Option ((Int × Int) ⊕ Option (Int)):=
 if(decide (v3<(a0.length:Int)))then
  (getI a0 v3).bind fun y4=>
  some (.inl ((bif (decide (y4<v2))then y4 else v2),(IntKind.i64.wrap (v3+1))))
 else
  some (.inr (some v2))
noncomputable def zcW (a0:List Int):Option (Int):=
 if(decide ((a0.length:Int)<1))then
  none
 else
  (getI a0 0).bind fun y1=>
  zau (fun s:Int × Int=>zaO a0 s.1 s.2) (y1,1)
noncomputable def zbp (a0:zaf):Option (Bool):=
 (zcU a0.fAt).bind fun v1=>
 (zcW a0.fAt).bind fun v2=>
 some (decide ((IntKind.i64.wrap (v1-v2))≤1))
noncomputable def zbA (a0:zaf) (v1:Int) (v2:Int):Option ((Int × Int) ⊕ Option (Int)):=
 if(decide (v2<(a0.fAt.length:Int)))then
  (zaG a0 v2).bind fun v3=>
  (zbz a0 v3).bind fun v4=>
  if(v4==3)then
   some (.inr (some 2))
  else
   if(v4==0)then
    some (.inl (0,(IntKind.i64.wrap (v2+1))))
   else
    some (.inl (v1,(IntKind.i64.wrap (v2+1))))
 else
  some (.inr (some v1))
noncomputable def zcr (a0:zaf):Option (Int):=
 zau (fun s:Int × Int=>zbA a0 s.1 s.2) (1,0)
noncomputable def zbT (a0:zaf):Option (Bool):=
 (getI a0.fWays 0).bind fun y1=>
 (zcr a0).bind fun v2=>
 (zdj y1 a0.fName v2 a0.fStore).bind fun v3=>
 some v3
noncomputable def ze1 (a0:zaf) (a1:zap):Option (Bool):=
 (zdb a0 a1).bind fun v1=>
 if v1.2 then
  (zbp v1.1).bind fun v2=>
  if v2 then
   (zbT v1.1).bind fun v3=>
   some v3
  else
   some false
 else
  some false
noncomputable def zfI (a0:zaf) (a1:zap):Option (Bool × Bool):=
 (zbM a0 a1).bind fun v1=>
 if((!v1)||(a1.fStep==0))then
  some (false,false)
 else
  (ze1 a0 a1).bind fun v2=>
  some (v2,true)
noncomputable def zgE (v1:Int):Option ((Int) ⊕ Option (Bool)):=
 some (.inl (IntKind.i64.wrap (v1+1)))
noncomputable def zcc (a0:List Int) (v1:Int) (y2:Int) (v3:Int):Option ((Int) ⊕ Option ((Int) ⊕ Option (Bool))):=
 if(decide (v3<(a0.length:Int)))then
  (getI a0 v3).bind fun y4=>
  if(decide ((IntKind.i64.wrap (y2-y4))>1))then
   some (.inr (some (.inr (some false))))
  else
   some (.inl (IntKind.i64.wrap (v3+1)))
 else
  some (.inr (zgE v1))
noncomputable def zcP (a0:List Int) (v1:Int):Option ((Int) ⊕ Option (Bool)):=
 if(decide (v1<(a0.length:Int)))then
  (getI a0 v1).bind fun y2=>
  zau (fun s:Int=>zcc a0 v1 y2 s) 0
 else
  some (.inr (some true))
noncomputable def zd9 (a0:List Int):Option (Bool):=
 zau (fun s:Int=>zcP a0 s) 0
noncomputable def zeN (a0:zaf):Option (Bool):=
 (getI a0.fWays 0).bind fun y1=>
 (zdO a0).bind fun v2=>
 (zgA y1 a0.fName v2 a0.fStore).bind fun v3=>
 some v3
noncomputable def zfw (a0:zaf) (a1:zap):Option (Bool):=
 (zcZ a0 a1).bind fun v1=>
 if v1.2 then
  (zd9 v1.1.fAt).bind fun v2=>
  if v2 then
   (zeN v1.1).bind fun v3=>
   some v3
  else
   some false
 else
  some false
noncomputable def zeP (a0:zaf) (a1:zap):Option (Bool × Bool):=
 (zcp a0 a1).bind fun v1=>
 if((!v1)||(a1.fStep==0))then
  some (false,false)
 else
  (zfw a0 a1).bind fun v2=>
  some (v2,true)
noncomputable def zfs (a0:zaf):Option (Bool × Bool):=
 (zbI a0).bind fun v1=>
 if(!v1)then
  some (false,false)
 else
  (zbT a0).bind fun v2=>
  some (v2,true)
noncomputable def zgG (a0:zaf):Option (Bool × Bool):=
 (zbJ a0).bind fun v1=>
 if(!v1)then
  some (false,false)
 else
  (zeN a0).bind fun v2=>
  some (v2,true)
noncomputable def zd0 (a0:zaf):Option (Bool × Bool):=
 (zbI a0).bind fun v1=>
 if(!v1)then
  some (false,false)
 else
  (zbp a0).bind fun v2=>
  some (v2,true)
noncomputable def zfk (a0:zaf):Option (Bool × Bool):=
 (zbJ a0).bind fun v1=>
 if(!v1)then
  some (false,false)
 else
  (zd9 a0.fAt).bind fun v2=>
  some (v2,true)
noncomputable def zgR (a0:zaf):Option (Int × Bool):=
 (zbI a0).bind fun v1=>
 if(!v1)then
  some (0,false)
 else
  (zcr a0).bind fun v2=>
  some (v2,true)
noncomputable def zgJ (a0:zaf):Option (Int × Bool):=
 (zbJ a0).bind fun v1=>
 if(!v1)then
  some (0,false)
 else
  (zdO a0).bind fun v2=>
  some (v2,true)
noncomputable def zeI (a0:zab) (a1:zab) (v2:Int):Option ((Int) ⊕ Option (Bool)):=
 if(decide (v2<(a0.fIdxs.length:Int)))then
  (getI a0.fIdxs v2).bind fun y3=>
  (getI a1.fIdxs v2).bind fun y4=>
  if(!(y3.fName==y4.fName&&(y3.fCol==y4.fCol&&(y3.fStage==y4.fStage))))then
   some (.inr (some false))
  else
   some (.inl (IntKind.i64.wrap (v2+1)))
 else
  some (.inr (some true))
noncomputable def ziU (a0:zab) (a1:zab):Option (Bool):=
 if(a0.fName !=a1.fName)then
  some false
 else
  (ziM a0.fCols a1.fCols).bind fun v1=>
  if((!v1)||((a0.fIdxs.length:Int) !=(a1.fIdxs.length:Int)))then
   some false
  else
   zau (fun s:Int=>zeI a0 a1 s) 0
noncomputable def zeb (a0:List zab) (a1:List zab) (v1:Int):Option ((Int) ⊕ Option (Bool)):=
 if(decide (v1<(a0.length:Int)))then
  (getI a0 v1).bind fun y2=>
  (getI a1 v1).bind fun y3=>
  (ziU y2 y3).bind fun v4=>
  if(!v4)then
   some (.inr (some false))
  else
   some (.inl (IntKind.i64.wrap (v1+1)))
 else
  some (.inr (some true))
noncomputable def zhV (a0:List zab) (a1:List zab):Option (Bool):=
 if((a0.length:Int) !=(a1.length:Int))then
  some false
 else
  zau (fun s:Int=>zeb a0 a1 s) 0
noncomputable def zeH (a0:List Int) (a1:List Int) (v1:Int):Option ((Int) ⊕ Option (Bool)):=
 if(decide (v1<(a0.length:Int)))then
  (getI a0 v1).bind fun y2=>
  (getI a1 v1).bind fun y3=>
  if(y2 !=y3)then
   some (.inr (some false))
  else
   some (.inl (IntKind.i64.wrap (v1+1)))
 else
  some (.inr (some true))
noncomputable def ziH (a0:List Int) (a1:List Int):Option (Bool):=
 if((a0.length:Int) !=(a1.length:Int))then
  some false
 else
  zau (fun s:Int=>zeH a0 a1 s) 0
noncomputable def ziP (a0:zaf) (a1:zaf):Option (Bool):=
 if(a0.fName==a1.fName)then
  (zhV a0.fWays a1.fWays).bind fun v1=>
  if v1 then
   (ziH a0.fAt a1.fAt).bind fun v2=>
   if v2 then
    (ziD a0.fStore a1.fStore).bind fun v3=>
    some v3
   else
    some false
  else
   some false
 else
  some false
noncomputable def zhM (a0:List Int) (a1:List Int):Option (Bool):=
 if(decide ((IntKind.i64.wrap ((a0.length:Int)+(a1.length:Int)))>1048576))then
  some true
 else
  (zdT a0).bind fun v1=>
  (zeM v1.1 v1.2).bind fun v2=>
  (zeC v1.1 v1.2).bind fun v3=>
  (zfI v1.1 v1.2).bind fun v4=>
  (zeP v1.1 v1.2).bind fun v5=>
  (zfs v1.1).bind fun v6=>
  (zgG v1.1).bind fun v7=>
  (zd0 v1.1).bind fun v8=>
  (zfk v1.1).bind fun v9=>
  (zgR v1.1).bind fun v10=>
  (zgJ v1.1).bind fun v11=>
  if(v2.2.2 !=v3.2.2)then
   some false
  else
   if(v2.2.1 !=v3.2.1)then
    some false
   else
    (ziP v2.1 v3.1).bind fun v12=>
    if v12 then
     if(v4.2 !=v5.2)then
      some false
     else
      if(v4.1 !=v5.1)then
       some false
      else
       if(v6.2 !=v7.2)then
        some false
       else
        if(v6.1 !=v7.1)then
         some false
        else
         if(v8.2 !=v9.2)then
          some false
         else
          if(v8.1 !=v9.1)then
           some false
          else
           if(v10.2 !=v11.2)then
            some false
           else
            if(v10.1 !=v11.1)then
             some false
            else
             (zbI v1.1).bind fun v13=>
             (zbJ v1.1).bind fun v14=>
             if(v13 !=v14)then
              some false
             else
              (zbM v1.1 v1.2).bind fun v15=>
              if(v15 !=v2.2.2)then
               some false
              else
               if((((!v2.2.2)||(!v6.1))||(!v8.1))||((v1.2.fStep !=0)&&(!v4.1)))then
                some true
               else
                (zfs v2.1).bind fun v16=>
                (zd0 v2.1).bind fun v17=>
                some (((v16.2&&v17.2)&&v16.1)&&v17.1)
    else
     some false
end Go.Proofs.YtgobcjbjogkpjaaGreatDoor
end
section
namespace Go.Proofs.YtgobcjbjogkpjaaGreatDoor
open Go.RowKit
set_option maxRecDepth 100000
set_option maxHeartbeats 4000000
noncomputable def ze0:FS:=mkH 376 [.v .s, .v .s] (.v (.i .i64)) (fun x=>zaV x.1 x.2.1) fun x r _ h=>ziz x.1 x.2.1 r h
noncomputable def zhe:FS:=mkH 350 [.v .s, .v (.i .u8)] (.v (.i .i64)) (fun x=>zbk x.1 x.2.1) fun x r _ h=>zg8 x.1 x.2.1 r h
noncomputable def zrw:FS:=mkH 351 [.v .s, .v (.i .i64), .v (.i .i64)] (.tu (.cons (.v (.i .i64)) (.cons (.v .b) .nil))) (fun x=>zhP x.1 x.2.1 x.2.2.1) fun x r _ h=>zrm x.1 x.2.1 x.2.2.1 r h
noncomputable def zrT:FS:=mkH 327 [.v (.i .i64)] (.v .s) (fun x=>zjD x.1) fun x r _ h=>zrQ x.1 r h
noncomputable def zqO:FS:=mkH 367 [.v .s, .v .s] (.v (.i .i64)) (fun x=>zgx x.1 x.2.1) fun x r _ h=>zra x.1 x.2.1 r h
noncomputable def zrl:FS:=mkH 274 [.v (.l .s), .v .s] (.v .s) (fun x=>zhW x.1 x.2.1) fun x r _ h=>zrI x.1 x.2.1 r h
noncomputable def zot:FS:=mkH 366 [.v .s, .v (.i .i64)] (.v (.l .s)) (fun x=>zhu x.1 x.2.1) fun x r _ h=>zoh x.1 x.2.1 r h
noncomputable def ze7:FS:=mkH 329 [.v (.l (.st 0)), .v (.i .i64), .v (.l (.st 0))] (.v (.l (.st 0))) (fun x=>zpA x.1 x.2.1 x.2.2.1) fun x r hp h=>zDH (t:=34) (it:=3) (el:=152) (K:=3) (by kernel_rfl) (fun _=>by kernel_rfl) zAm h
noncomputable def zl8:FS:=mkF 200 [.rf (.st 1)] (.tu (.cons (.v (.i .i64)) (.cons (.v (.st 1)) .nil))) (fun x=>zbw x.1) [] [.inl] (fun _ _=>by kernel_rfl) (fun _ _=>by kernel_rfl)
noncomputable def zaK:FS:=mkF 97 [.rf (.st 1), .v (.i .i64)] (.tu (.cons (.v (.i .i64)) (.cons (.v (.st 1)) .nil))) (fun x=>zac x.1 x.2.1) [zl8] [.inl] (fun _ _=>by kernel_rfl) (fun _ _=>by kernel_rfl)
noncomputable def zdD:FS:=mkF 138 [.rf (.st 1), .v (.l .s)] (.tu (.cons (.v .s) (.cons (.v (.st 1)) .nil))) (fun x=>za2 x.1 x.2.1) [zaK] [] (fun _ _=>by kernel_rfl) (fun _ _=>by kernel_rfl)
noncomputable def zdc:FS:=mkF 78 [.rf (.st 1), .v (.i .i64)] (.tu (.cons (.v .b) (.cons (.v (.st 1)) .nil))) (fun x=>zas x.1 x.2.1) [zaK] [] (fun _ _=>by kernel_rfl) (fun _ _=>by kernel_rfl)
noncomputable def zib:FS:=mkF 76 [.rf (.st 1)] (.tu (.cons (.v (.st 3)) (.cons (.v (.st 1)) .nil))) (fun x=>zax x.1) [zdD,zaK,zdc] [.sp [.i .i64, .l (.i .u8), .i .i64, .i .u64, .l (.st 2)], .inl, .pt] (fun _ _=>by kernel_rfl) (fun _ _=>by kernel_rfl)
noncomputable def zi7:FS:=mkF 171 [.rf (.st 1), .v (.st 3)] (.tu (.cons (.v (.st 4)) (.cons (.v (.st 1)) .nil))) (fun x=>zbm x.1 x.2.1) [zdD] [.sp [.l (.i .u8), .i .i64, .i .u64, .l .s]] (fun _ _=>by kernel_rfl) (fun _ _=>by kernel_rfl)
noncomputable def zrt:FS:=mkF 298 [.v (.l .s), .v .s] (.v .s) (fun x=>zjO x.1 x.2.1) [] [.sp [.s, .i .i64], .inl] (fun _ _=>by kernel_rfl) (fun _ _=>by kernel_rfl)
noncomputable def zgz:FS:=mkF 224 [.v (.st 3), .v (.st 4)] (.v (.st 0)) (fun x=>zb2 x.1 x.2.1) [zrt] [] (fun _ _=>by kernel_rfl) (fun _ _=>by kernel_rfl)
noncomputable def ziV:FS:=mkF 193 [.v (.l (.st 0)), .v (.st 0)] (.v (.l (.st 0))) (fun x=>zaX x.1 x.2.1) [] [.sp [.i .i64]] (fun _ _=>by kernel_rfl) (fun _ _=>by kernel_rfl)
noncomputable def zmx:FS:=mkF 345 [.v .s, .v (.i .u8)] (.v (.l .s)) (fun x=>zdL x.1 x.2.1) [] [.sp [.l .s, .i .i64, .i .i64], .inl] (fun _ _=>by kernel_rfl) (fun _ _=>by kernel_rfl)
noncomputable def zb7:FS:=mkF 101 [.v (.i .i64), .v (.i .i64), .v (.i .i64)] (.v .b) (fun x=>zba x.1 x.2.1 x.2.2.1) [] [] (fun _ _=>by kernel_rfl) (fun _ _=>by kernel_rfl)
noncomputable def zjK:FS:=mkF 260 [.v .s, .v .s] (.v .b) (fun x=>zeR x.1 x.2.1) [] [.sp [.i .i64], .sp [.b, .i .i64]] (fun _ _=>by kernel_rfl) (fun _ _=>by kernel_rfl)
noncomputable def zld:FS:=mkF 175 [.v .s] (.v .b) (fun x=>zd6 x.1) [zb7,zjK] [] (fun _ _=>by kernel_rfl) (fun _ _=>by kernel_rfl)
noncomputable def zmq:FS:=mkF 82 [.v (.st 3), .v (.st 4)] (.v .b) (fun x=>zcX x.1 x.2.1) [zld] [.sp [.i .i64]] (fun _ _=>by kernel_rfl) (fun _ _=>by kernel_rfl)
noncomputable def zrG:FS:=mkF 297 [.v (.st 3), .v (.st 0)] (.tu (.cons (.v (.st 4)) (.cons (.v .b) .nil))) (fun x=>zhF x.1 x.2.1) [zmx,zmq,zgz] [] (fun _ _=>by kernel_rfl) (fun _ _=>by kernel_rfl)
noncomputable def zhH:FS:=mkF 223 [.v (.st 3), .v (.l (.st 0))] (.v (.l (.st 4))) (fun x=>zeO x.1 x.2.1) [zrG] [.sp [.l (.st 4), .i .i64], .inl] (fun _ _=>by kernel_rfl) (fun _ _=>by kernel_rfl)
noncomputable def zi1:FS:=mkF 279 [.v (.st 3), .v (.st 2), .v (.st 4)] (.v .s) (fun x=>zb9 x.1 x.2.1 x.2.2.1) [] [] (fun _ _=>by kernel_rfl) (fun _ _=>by kernel_rfl)
noncomputable def zmG:FS:=mkF 280 [.rf (.st 1)] (.tu (.cons (.v .s) (.cons (.v (.st 1)) .nil))) (fun x=>zeu x.1) [zdD] [] (fun _ _=>by kernel_rfl) (fun _ _=>by kernel_rfl)
noncomputable def zmT:FS:=mkF 281 [.rf (.st 1)] (.tu (.cons (.v .s) (.cons (.v (.st 1)) .nil))) (fun x=>zew x.1) [zdD] [] (fun _ _=>by kernel_rfl) (fun _ _=>by kernel_rfl)
noncomputable def zlE:FS:=mkF 192 [.rf (.st 1), .v (.st 3)] (.tu (.cons (.v (.l (.st 0))) (.cons (.v (.st 1)) .nil))) (fun x=>zdE x.1 x.2.1) [zaK,zdc,zmG,zmT,ziV,zhH,zi7,zi1,zgz] [.sp [.l (.st 0), .i .i64, .l (.i .u8), .i .i64, .i .u64], .sp [.i .i64, .l (.i .u8), .i .i64, .i .u64, .l (.st 0)], .inl, .sp [.i .i64, .l (.i .u8), .i .i64, .i .u64, .l (.st 0)], .inl, .inl] (fun _ _=>by kernel_rfl) (fun _ _=>by kernel_rfl)
noncomputable def zmE:FS:=mkF 194 [.rf (.st 1), .v (.st 3), .v (.l (.st 0))] (.tu (.cons (.v (.st 5)) (.cons (.v (.st 1)) .nil))) (fun x=>zep x.1 x.2.1 x.2.2.1) [zhH,zi7,zaK,zdc] [.pt, .pt] (fun _ _=>by kernel_rfl) (fun _ _=>by kernel_rfl)
noncomputable def zj9:FS:=mkF 173 [.v .s, .v (.i .i64)] (.v .b) (fun x=>zc2 x.1 x.2.1) [] [.sp [.i .i64]] (fun _ _=>by kernel_rfl) (fun _ _=>by kernel_rfl)
noncomputable def zo2:FS:=mkF 259 [.v (.l .s), .v .s] (.v (.i .i64)) (fun x=>zhX x.1 x.2.1) [] [.sp [.i .i64]] (fun _ _=>by kernel_rfl) (fun _ _=>by kernel_rfl)
noncomputable def zrA:FS:=mkF 174 [.v (.l .s)] (.v .b) (fun x=>zhT x.1) [zb7,zj9,zo2] [.sp [.i .i64]] (fun _ _=>by kernel_rfl) (fun _ _=>by kernel_rfl)
noncomputable def zf0:FS:=mkF 81 [.v (.st 3)] (.v .b) (fun x=>zbH x.1) [zj9,zrA,zb7] [.sp [.i .i64]] (fun _ _=>by kernel_rfl) (fun _ _=>by kernel_rfl)
noncomputable def zeo:FS:=mkF 219 [.v (.st 3), .v .s] (.v (.i .i64)) (fun x=>zbd x.1 x.2.1) [] [.sp [.i .i64]] (fun _ _=>by kernel_rfl) (fun _ _=>by kernel_rfl)
noncomputable def zq2:FS:=mkF 141 [.v (.st 3), .v .s, .v (.i .i64)] (.v .b) (fun x=>zgW x.1 x.2.1 x.2.2.1) [zf0,zeo,zb7] [] (fun _ _=>by kernel_rfl) (fun _ _=>by kernel_rfl)
noncomputable def zkV:FS:=mkF 230 [.v (.st 3)] (.v (.st 3)) (fun x=>zfv x.1) [] [] (fun _ _=>by kernel_rfl) (fun _ _=>by kernel_rfl)
noncomputable def znI:FS:=mkF 172 [.v (.st 3), .v .s, .v (.i .i64)] (.v (.st 3)) (fun x=>zfu x.1 x.2.1 x.2.2.1) [zkV,zeo] [] (fun _ _=>by kernel_rfl) (fun _ _=>by kernel_rfl)
noncomputable def zcB:FS:=mkF 89 [.v (.i .i64), .v (.i .i64), .v (.i .i64)] (.v .b) (fun x=>zbc x.1 x.2.1 x.2.2.1) [] [] (fun _ _=>by kernel_rfl) (fun _ _=>by kernel_rfl)
noncomputable def zop:FS:=mkF 176 [.v .s, .v (.i .i64)] (.v .b) (fun x=>zc1 x.1 x.2.1) [zcB] [.sp [.i .i64]] (fun _ _=>by kernel_rfl) (fun _ _=>by kernel_rfl)
noncomputable def zhz:FS:=mkF 261 [.v (.l .s), .v .s] (.v (.i .i64)) (fun x=>zbs x.1 x.2.1) [] [.sp [.i .i64]] (fun _ _=>by kernel_rfl) (fun _ _=>by kernel_rfl)
noncomputable def zdp:FS:=mkF 177 [.v (.l .s), .v .s] (.v .b) (fun x=>zaN x.1 x.2.1) [zhz] [] (fun _ _=>by kernel_rfl) (fun _ _=>by kernel_rfl)
noncomputable def zrB:FS:=mkF 98 [.v (.i .i64)] (.v .b) (fun x=>zjF x.1) [zcB] [] (fun _ _=>by kernel_rfl) (fun _ _=>by kernel_rfl)
noncomputable def zo7:FS:=mkF 83 [.v (.st 3)] (.v .b) (fun x=>zfU x.1) [zop,zcB,zrB,zdp] [.sp [.i .i64], .sp [.i .i64]] (fun _ _=>by kernel_rfl) (fun _ _=>by kernel_rfl)
noncomputable def zdd:FS:=mkH 262 [.v (.l .s), .fn [.s] .b] (.v (.i .i64)) (fun x=>zbo x.1 (fun y=>x.2.1.φ (y,()))) fun x r hp h=>ziu (f:=262) (t:=zwF) (by kernel_rfl) (by kernel_rfl) (zw2 (av:=(zhj tab.av .s)) (fun _=>rfl) h (fun y b hb=>hp.2.1 (y,()) b hb))
noncomputable def zfp:FS:=mkH 178 [.v (.l .s), .fn [.s] .b] (.v .b) (fun x=>zaT x.1 (fun y=>x.2.1.φ (y,()))) fun x r hp h=>ziu (f:=178) (t:=zxg 262) (by kernel_rfl) (by kernel_rfl) (zsD h fun r hr=>zdd.ok x r hp hr)
noncomputable def zly:FS:=mkF 320 [.v (.i .u8)] (.v .b) (fun x=>zfl x.1) [] [] (fun _ _=>by kernel_rfl) (fun _ _=>by kernel_rfl)
noncomputable def zmC:FS:=mkF 321 [.v .s, .v (.i .u8)] (.v (.i .i64)) (fun x=>zgh x.1 x.2.1) [zhe] [] (fun _ _=>by kernel_rfl) (fun _ _=>by kernel_rfl)
noncomputable def zi9:FS:=mkF 263 [.v .s, .v .s] (.v .b) (fun x=>zd4 x.1 x.2.1) [zly,zmC] [.sp [.i .i64]] (fun _ _=>by kernel_rfl) (fun _ _=>by kernel_rfl)
noncomputable def zms:FS:=mkF 180 [.v .s] (.v .b) (fun x=>zeQ x.1) [zcB,zi9] [] (fun _ _=>by kernel_rfl) (fun _ _=>by kernel_rfl)
noncomputable def zk1:FS:=mkF 179 [.v .s] (.v .b) (fun x=>zdo x.1) [zms] [] (fun _ _=>by kernel_rfl) (fun _ _=>by kernel_rfl)
noncomputable def zkw:FS:=mkP zk1 fun _=>by kernel_rfl
noncomputable def ziv:FS:=mkF 84 [.v (.st 3), .v (.st 4)] (.v .b) (fun x=>za9 x.1 x.2.1) [zfp,zkw] [] (fun _ _=>by kernel_rfl) (fun _ _=>by kernel_rfl)
noncomputable def zkP:FS:=mkF 102 [.v (.st 3), .v (.st 5)] (.v .b) (fun x=>zcV x.1 x.2.1) [ziv] [] (fun _ _=>by kernel_rfl) (fun _ _=>by kernel_rfl)
noncomputable def zpp:FS:=mkF 265 [.v (.l (.st 0))] (.v (.l .s)) (fun x=>zf4 x.1) [] [.sp [.i .i64, .l .s]] (fun _ _=>by kernel_rfl) (fun _ _=>by kernel_rfl)
noncomputable def zrN:FS:=mkF 322 [.v .s] (.v .b) (fun x=>zhK x.1) [zcB,zi9] [] (fun _ _=>by kernel_rfl) (fun _ _=>by kernel_rfl)
noncomputable def zpm:FS:=mkF 264 [.v (.l .s)] (.v .b) (fun x=>zf6 x.1) [zrN] [.sp [.i .i64]] (fun _ _=>by kernel_rfl) (fun _ _=>by kernel_rfl)
noncomputable def zb4:FS:=mkH 268 [.v (.l (.st 0)), .fn [.st 0] .b] (.v (.i .i64)) (fun x=>zbo x.1 (fun y=>x.2.1.φ (y,()))) fun x r hp h=>ziu (f:=268) (t:=zyE 3) (by kernel_rfl) (by kernel_rfl) (zv8 (av:=(zhj tab.av (.st 0))) (cn:=3) (fun _=>⟨_,rfl,rfl⟩) h (fun y b hb=>hp.2.1 (y,()) b hb))
noncomputable def zbK:FS:=mkH 182 [.v (.l (.st 0)), .fn [.st 0] .b] (.v .b) (fun x=>zaT x.1 (fun y=>x.2.1.φ (y,()))) fun x r hp h=>ziu (f:=182) (t:=zxg 268) (by kernel_rfl) (by kernel_rfl) (zsD h fun r hr=>zb4.ok x r hp hr)
noncomputable def zrx:FS:=mkF 323 [.v .s] (.v .b) (fun x=>zhI x.1) [zi9] [] (fun _ _=>by kernel_rfl) (fun _ _=>by kernel_rfl)
noncomputable def zq5:FS:=mkF 267 [.v .s, .v .b] (.v .b) (fun x=>zgF x.1 x.2.1) [zrx] [] (fun _ _=>by kernel_rfl) (fun _ _=>by kernel_rfl)
end Go.Proofs.YtgobcjbjogkpjaaGreatDoor
end
section
namespace Go.Proofs.YtgobcjbjogkpjaaGreatDoor
open Go.RowKit
set_option maxRecDepth 100000
set_option maxHeartbeats 4000000
noncomputable def zm3:FS:=mkF 266 [.v (.st 0)] (.v .b) (fun x=>zel x.1) [zq5] [] (fun _ _=>by kernel_rfl) (fun _ _=>by kernel_rfl)
noncomputable def zl7:FS:=mkP zm3 fun _=>by kernel_rfl
noncomputable def zn5:FS:=mkF 181 [.v (.l (.st 0))] (.v .b) (fun x=>zfo x.1) [zpp,zpm,zbK,zl7] [] (fun _ _=>by kernel_rfl) (fun _ _=>by kernel_rfl)
noncomputable def zqn:FS:=mkF 183 [.v (.st 0)] (.v .b) (fun x=>zgT x.1) [] [] (fun _ _=>by kernel_rfl) (fun _ _=>by kernel_rfl)
noncomputable def zpi:FS:=mkP zqn fun _=>by kernel_rfl
noncomputable def ztI:FS:=mkF 85 [.v (.l (.st 0))] (.v .b) (fun x=>ziR x.1) [zn5,zbK,zpi] [] (fun _ _=>by kernel_rfl) (fun _ _=>by kernel_rfl)
noncomputable def zgL:FS:=mkF 187 [.v (.st 3), .v (.st 4)] (.v (.st 0)) (fun x=>zbq x.1 x.2.1) [zrl] [] (fun _ _=>by kernel_rfl) (fun _ _=>by kernel_rfl)
noncomputable def zkL:FS:=mkF 186 [.v (.i .i64), .v (.st 0), .rf (.l (.st 6))] (.tu (.cons (.tu .nil) (.cons (.bo (.l (.st 6))) .nil))) (fun x=>zaB x.1 x.2.1 x.2.2.1) [] [] (fun _ _=>by kernel_rfl) (fun _ _=>by kernel_rfl)
noncomputable def zhf:FS:=mkF 275 [.v (.st 3), .v .s] (.v .s) (fun x=>zcl x.1 x.2.1) [] [] (fun _ _=>by kernel_rfl) (fun _ _=>by kernel_rfl)
noncomputable def zfm:FS:=mkH 292 [.v (.l (.st 2)), .fn [.st 2] .b] (.v (.i .i64)) (fun x=>zbo x.1 (fun y=>x.2.1.φ (y,()))) fun x r hp h=>ziu (f:=292) (t:=zyE 3) (by kernel_rfl) (by kernel_rfl) (zv8 (av:=(zhj tab.av (.st 2))) (cn:=3) (fun _=>⟨_,rfl,rfl⟩) h (fun y b hb=>hp.2.1 (y,()) b hb))
noncomputable def zjT:FS:=mkF 293 [.v (.st 2), .rf .s] (.v .b) (fun x=>zef x.1 x.2.1) [] [] (fun _ _=>by kernel_rfl) (fun _ _=>by kernel_rfl)
noncomputable def zjL:FS:=mkP zjT fun _=>by kernel_rfl
noncomputable def zeZ:FS:=mkF 212 [.v (.st 3), .v .s] (.v (.i .i64)) (fun x=>zbB x.1 x.2.1) [zfm,zjL] [] (fun _ _=>by kernel_rfl) (fun _ _=>by kernel_rfl)
noncomputable def zg6:FS:=mkF 214 [.v (.st 3), .v .s] (.v (.st 2)) (fun x=>zbx x.1 x.2.1) [zeZ] [] (fun _ _=>by kernel_rfl) (fun _ _=>by kernel_rfl)
noncomputable def zhY:FS:=mkF 188 [.v (.st 3), .v .s, .v (.st 4)] (.v .s) (fun x=>za3 x.1 x.2.1 x.2.2.1) [zhf,zg6] [] (fun _ _=>by kernel_rfl) (fun _ _=>by kernel_rfl)
noncomputable def zri:FS:=mkF 99 [.v (.i .i64)] (.v .b) (fun x=>zjJ x.1) [] [] (fun _ _=>by kernel_rfl) (fun _ _=>by kernel_rfl)
noncomputable def zrk:FS:=mkF 100 [.v (.i .i64)] (.v .b) (fun x=>zjx x.1) [] [] (fun _ _=>by kernel_rfl) (fun _ _=>by kernel_rfl)
noncomputable def zlo:FS:=mkF 87 [.v (.st 3), .v (.st 5)] (.v (.l (.st 6))) (fun x=>zdC x.1 x.2.1) [zrk,zkL,zri,zhY,zgL] [.sp [.s, .s, .b, .l (.st 6)], .pt, .pt, .sp [.i .i64, .l (.st 6)], .inl, .sp [.s], .pt, .pt] (fun _ _=>by kernel_rfl) (fun _ _=>by kernel_rfl)
noncomputable def zcD:FS:=mkF 353 [.v (.l (.st 0)), .v .s, .fn [.st 0, .s] (.i .i64)] (.tu (.cons (.v (.i .i64)) (.cons (.v .b) .nil))) (fun x=>zaC x.1 x.2.1 (fun y0 y1=>x.2.2.1.φ (y0,y1,()))) [] [.sp [.i .i64, .i .i64]] (fun _ _=>by kernel_rfl) (fun _ _=>by kernel_rfl)
noncomputable def zmN:FS:=mkF 372 [.v .s] (.v .b) (fun x=>zdf x.1) [] [] (fun _ _=>by kernel_rfl) (fun _ _=>by kernel_rfl)
noncomputable def zlt:FS:=mkF 355 [.v .s, .v .s] (.v (.i .i64)) (fun x=>zdz x.1 x.2.1) [zmN] [] (fun _ _=>by kernel_rfl) (fun _ _=>by kernel_rfl)
noncomputable def znC:FS:=mkF 354 [.v (.st 0), .v .s] (.v (.i .i64)) (fun x=>zcN x.1 x.2.1) [zlt] [] (fun _ _=>by kernel_rfl) (fun _ _=>by kernel_rfl)
noncomputable def zmR:FS:=mkP znC fun _=>by kernel_rfl
noncomputable def ziq:FS:=mkF 328 [.v (.l (.st 0)), .v .s] (.tu (.cons (.v (.i .i64)) (.cons (.v .b) .nil))) (fun x=>zcf x.1 x.2.1) [zcD,zmR] [] (fun _ _=>by kernel_rfl) (fun _ _=>by kernel_rfl)
noncomputable def zlz:FS:=mkF 271 [.v (.l (.st 0)), .v (.st 0)] (.v (.l (.st 0))) (fun x=>zdi x.1 x.2.1) [ziq,ze7] [] (fun _ _=>by kernel_rfl) (fun _ _=>by kernel_rfl)
noncomputable def zrO:FS:=mkF 324 [.v .s, .v (.l (.st 0)), .v (.l (.st 7))] (.tu (.cons (.v .s) (.cons (.v .b) (.cons (.v .b) .nil)))) (fun x=>zhE x.1 x.2.1 x.2.2.1) [ziq] [.sp [.i .i64]] (fun _ _=>by kernel_rfl) (fun _ _=>by kernel_rfl)
noncomputable def zlK:FS:=mkF 326 [.v .s] (.tu (.cons (.v (.i .i64)) (.cons (.v .b) .nil))) (fun x=>zfg x.1) [zrw] [] (fun _ _=>by kernel_rfl) (fun _ _=>by kernel_rfl)
noncomputable def zof:FS:=mkF 325 [.v (.st 6), .v .s, .v .b] (.v .b) (fun x=>zfr x.1 x.2.1 x.2.2.1) [zlK,zcB] [] (fun _ _=>by kernel_rfl) (fun _ _=>by kernel_rfl)
noncomputable def zrz:FS:=mkF 269 [.v (.l (.st 6)), .v (.l (.st 7))] (.tu (.cons (.v (.i .i64)) (.cons (.v .s) (.cons (.v (.l (.st 0))) .nil)))) (fun x=>zjC x.1 x.2.1) [zlz,zrO,zof,zlK,zrT] [.sp [.i .i64, .l (.st 0)], .inl] (fun _ _=>by kernel_rfl) (fun _ _=>by kernel_rfl)
noncomputable def zuQ:FS:=mkF 270 [.v (.l (.st 0)), .v .s] (.v (.st 7)) (fun x=>zjr x.1 x.2.1) [ziq] [] (fun _ _=>by kernel_rfl) (fun _ _=>by kernel_rfl)
noncomputable def zq0:FS:=mkF 184 [.v (.l (.st 0)), .v (.l (.st 6))] (.tu (.cons (.v (.l (.st 7))) (.cons (.v (.l (.st 0))) (.cons (.v .b) .nil)))) (fun x=>zjf x.1 x.2.1) [zrz,zuQ] [.sp [.l (.st 7)]] (fun _ _=>by kernel_rfl) (fun _ _=>by kernel_rfl)
noncomputable def zcG:FS:=mkH 140 [.v (.l (.st 0))] (.v (.l (.st 0))) (fun x=>zaD x.1) fun x r hp h=>ziu (f:=140) (t:=zr7 40 3) (by kernel_rfl) (by kernel_rfl) (znJ (bytes:=40) (sz:=3) (av:=(zhj tab.av (.st 0))) (fun x=>⟨zlF _ x,zgn (by kernel_rfl) x⟩) h)
noncomputable def zei:FS:=mkH 272 [.v (.l (.st 0)), .fn [.st 0] .b] (.v (.l (.st 0))) (fun x=>ze9 x.1 (fun y=>x.2.1.φ (y,()))) fun x r hp h=>ziu (f:=272) (t:=zBj 268 3 true (.mk (.cons (.fld (.fld (.idx (.var 5) (.var 4)) 0 3 true) 0 1 false) (.cons (.fld (.fld (.idx (.var 5) (.var 4)) 0 3 true) 1 1 false) (.cons (.fld (.fld (.idx (.var 5) (.var 4)) 0 3 true) 2 1 false) .nil)))) [(.agg (.fld (.idx (.var 5) (.var 4)) 0 3 true) 3)] (.mk (.cons (.str (ByteArray.mk #[])) (.cons (.str (ByteArray.mk #[])) (.cons (.bool false) .nil))))) (by kernel_rfl) (by kernel_rfl) (zyo (av:=(zhj tab.av (.st 0))) (fun x=>⟨zlF _ x,zgn (by kernel_rfl) x,fun _=>⟨_,rfl⟩,fun e=>nomatch e⟩) (by decide) (fun a b c d j ys x tl hj=>by simp [AV.nth,hj,zhj,tAv]) (fun a b c d j ys x hj=>by simp [AV.nth,hj,zhj,tAv]) h (fun i hi=>zb4.ok x i hp hi) (fun y b hb=>hp.2.1 (y,()) b hb))
noncomputable def zpo:FS:=mkF 273 [.v (.st 0)] (.v .b) (fun x=>zih x.1) [] [] (fun _ _=>by kernel_rfl) (fun _ _=>by kernel_rfl)
noncomputable def zn8:FS:=mkP zpo fun _=>by kernel_rfl
noncomputable def zrp:FS:=mkF 185 [.v (.l (.st 0)), .v (.l (.st 0))] (.tu (.cons (.v (.l (.st 0))) (.cons (.v .b) .nil))) (fun x=>zhU x.1 x.2.1) [zcG,zei,zn8,zlz] [.sp [.i .i64, .l (.st 0)]] (fun _ _=>by kernel_rfl) (fun _ _=>by kernel_rfl)
noncomputable def ztN:FS:=mkF 86 [.v (.l (.st 0)), .v (.l (.st 6))] (.tu (.cons (.v (.l (.st 0))) (.cons (.v .b) .nil))) (fun x=>ziN x.1 x.2.1) [zq0,zrp] [] (fun _ _=>by kernel_rfl) (fun _ _=>by kernel_rfl)
noncomputable def zmy:FS:=mkF 195 [.v (.st 3), .v (.st 5)] (.v .b) (fun x=>zfN x.1 x.2.1) [zmq] [] (fun _ _=>by kernel_rfl) (fun _ _=>by kernel_rfl)
noncomputable def zrn:FS:=mkF 93 [.v (.st 3), .v (.st 5)] (.v .b) (fun x=>zeU x.1 x.2.1) [zf0,zmy] [] (fun _ _=>by kernel_rfl) (fun _ _=>by kernel_rfl)
noncomputable def zoR:FS:=mkF 336 [.v .s] (.v .b) (fun x=>zh6 x.1) [zb7,zjK] [] (fun _ _=>by kernel_rfl) (fun _ _=>by kernel_rfl)
noncomputable def zoU:FS:=mkF 337 [.v .s] (.v .b) (fun x=>zh0 x.1) [zjK] [] (fun _ _=>by kernel_rfl) (fun _ _=>by kernel_rfl)
noncomputable def zrL:FS:=mkF 282 [.v .s, .v .s, .v .b] (.v .b) (fun x=>zhG x.1 x.2.1 x.2.2.1) [zoR,zoU] [] (fun _ _=>by kernel_rfl) (fun _ _=>by kernel_rfl)
noncomputable def zql:FS:=mkF 196 [.v (.l (.st 0))] (.v .b) (fun x=>zgB x.1) [zrL] [.sp [.i .i64]] (fun _ _=>by kernel_rfl) (fun _ _=>by kernel_rfl)
noncomputable def zgP:FS:=mkF 94 [.v (.l (.st 0))] (.v .b) (fun x=>zcx x.1) [zql] [.sp [.i .i64]] (fun _ _=>by kernel_rfl) (fun _ _=>by kernel_rfl)
noncomputable def zrP:FS:=mkF 198 [.v (.st 3), .v (.st 5)] (.v (.l (.st 6))) (fun x=>zhJ x.1 x.2.1) [zgz] [] (fun _ _=>by kernel_rfl) (fun _ _=>by kernel_rfl)
noncomputable def ztO:FS:=mkF 199 [.v (.st 3), .v (.st 2), .v (.st 5)] (.v (.l (.st 6))) (fun x=>zgI x.1 x.2.1 x.2.2.1) [zi1] [.sp [.s], .pt, .pt, .inl] (fun _ _=>by kernel_rfl) (fun _ _=>by kernel_rfl)
noncomputable def zsT:FS:=mkF 96 [.v (.st 3), .v (.st 5)] (.v (.l (.st 6))) (fun x=>ziL x.1 x.2.1) [zrP,ztO] [.sp [.i .i64, .l (.st 6)]] (fun _ _=>by kernel_rfl) (fun _ _=>by kernel_rfl)
noncomputable def zvD:FS:=mkF 338 [.v (.st 6)] (.v .b) (fun x=>zkt x.1) [zoR,zoU,zb7] [.pt, .inl] (fun _ _=>by kernel_rfl) (fun _ _=>by kernel_rfl)
noncomputable def zs6:FS:=mkF 283 [.v (.l (.st 6))] (.v .b) (fun x=>ziO x.1) [zvD] [.sp [.i .i64]] (fun _ _=>by kernel_rfl) (fun _ _=>by kernel_rfl)
noncomputable def zqd:FS:=mkF 361 [.v (.l (.st 0)), .v (.l (.st 7)), .v .s] (.tu (.cons (.v .s) (.cons (.v .b) (.cons (.v .b) .nil)))) (fun x=>zgN x.1 x.2.1 x.2.2.1) [] [.sp [.i .i64], .sp [.i .i64]] (fun _ _=>by kernel_rfl) (fun _ _=>by kernel_rfl)
noncomputable def zta:FS:=mkF 377 [.v .s] (.v (.i .i64)) (fun x=>zgV x.1) [zb7] [.sp [.i .i64, .i .i64]] (fun _ _=>by kernel_rfl) (fun _ _=>by kernel_rfl)
noncomputable def zoT:FS:=mkF 363 [.v .s] (.tu (.cons (.v (.i .i64)) (.cons (.v .b) .nil))) (fun x=>zid x.1) [zta] [.pt] (fun _ _=>by kernel_rfl) (fun _ _=>by kernel_rfl)
noncomputable def zrJ:FS:=mkF 362 [.v (.st 6), .v .s, .v .b] (.v .b) (fun x=>zhQ x.1 x.2.1 x.2.2.1) [zoT,zb7] [] (fun _ _=>by kernel_rfl) (fun _ _=>by kernel_rfl)
theorem zoY: ∀(n:Nat) (xs:HP tab.car [.v (.i .i64)]) (y:RTI tab.car (.v .s)),zxd tab [.v (.i .i64)] xs→((fun x=>zfH n x.1):HP tab.car [.v (.i .i64)]→Option (RTI tab.car (.v .s))) xs=some y→tab.Rt 378 (zk5 tab [.v (.i .i64)] xs) (ztU tab (.v .s) y)
 |0,_,_,_,h=>nomatch h
 |n+1,xs,y,hp,h=>zD8 (ps:= [.v (.i .i64)]) (r:=(.v .s)) [mkH 378 [.v (.i .i64)] (.v .s) (fun x=>zfH n x.1) (zoY n)] [] (φ:=(fun x=>zfH (n+1) x.1)) (fun _ _=>by kernel_rfl) (fun _ _=>by kernel_rfl) xs y hp h
noncomputable def zug:FS:=mkH 378 [.v (.i .i64)] (.v .s) (fun x=>zlL x.1) (zoY zEM)
noncomputable def ztt:FS:=mkF 364 [.v (.i .i64)] (.v .s) (fun x=>zkC x.1) [zug] [] (fun _ _=>by kernel_rfl) (fun _ _=>by kernel_rfl)
noncomputable def zsR:FS:=mkF 339 [.v (.l (.st 6)), .v (.l (.st 7))] (.tu (.cons (.v (.i .i64)) (.cons (.v .s) (.cons (.v (.l (.st 0))) .nil)))) (fun x=>zkq x.1 x.2.1) [zqd,zrJ,ziV,zoT,ztt] [.sp [.l (.st 0), .i .i64], .inl, .inl] (fun _ _=>by kernel_rfl) (fun _ _=>by kernel_rfl)
noncomputable def zs5:FS:=mkF 340 [.v (.l (.st 0)), .v .s] (.v (.st 7)) (fun x=>ziJ x.1 x.2.1) [] [.sp [.i .i64]] (fun _ _=>by kernel_rfl) (fun _ _=>by kernel_rfl)
noncomputable def zrH:FS:=mkF 284 [.v (.l (.st 0)), .v (.l (.st 6))] (.tu (.cons (.v (.l (.st 7))) (.cons (.v (.l (.st 0))) (.cons (.v .b) .nil)))) (fun x=>zjI x.1 x.2.1) [zsR,zs5] [.sp [.l (.st 7)]] (fun _ _=>by kernel_rfl) (fun _ _=>by kernel_rfl)
noncomputable def zo8:FS:=mkF 285 [.v (.l (.st 0)), .v (.l (.st 0))] (.v (.l (.st 0))) (fun x=>zf2 x.1 x.2.1) [ziV] [.sp [.i .i64, .l (.st 0)], .sp [.l (.st 0), .i .i64], .inl] (fun _ _=>by kernel_rfl) (fun _ _=>by kernel_rfl)
noncomputable def zph:FS:=mkF 197 [.v (.l (.st 0)), .v (.l (.l (.st 6)))] (.tu (.cons (.v (.l (.st 0))) (.cons (.v (.l .b)) (.cons (.v .b) .nil)))) (fun x=>zf1 x.1 x.2.1) [zgP,zrH,zo8,zs6] [.sp [.i .i64], .sp [.l .b, .i .i64, .l (.st 0)], .inl] (fun _ _=>by kernel_rfl) (fun _ _=>by kernel_rfl)
noncomputable def zt6:FS:=mkF 95 [.v (.l (.st 0)), .v (.l (.st 6))] (.tu (.cons (.v (.l (.st 0))) (.cons (.v .b) .nil))) (fun x=>zjs x.1 x.2.1) [zph] [] (fun _ _=>by kernel_rfl) (fun _ _=>by kernel_rfl)
noncomputable def zud:FS:=mkF 19 [.v (.st 3), .v (.l (.st 0)), .v (.st 5)] (.tu (.cons (.v (.l (.st 0))) (.cons (.v .b) (.cons (.v .b) .nil)))) (fun x=>zgk x.1 x.2.1 x.2.2.1) [zrn,zgP,zsT,zt6] [] (fun _ _=>by kernel_rfl) (fun _ _=>by kernel_rfl)
noncomputable def zsZ:FS:=mkF 121 [.v (.st 3), .v .s] (.v .b) (fun x=>ziQ x.1 x.2.1) [zo7,zeZ] [] (fun _ _=>by kernel_rfl) (fun _ _=>by kernel_rfl)
end Go.Proofs.YtgobcjbjogkpjaaGreatDoor
end
section
namespace Go.Proofs.YtgobcjbjogkpjaaGreatDoor
open Go.RowKit
set_option maxRecDepth 100000
set_option maxHeartbeats 4000000
noncomputable def zg9:FS:=mkF 365 [.v .s, .v .s] (.v .b) (fun x=>zbl x.1 x.2.1) [] [] (fun _ _=>by kernel_rfl) (fun _ _=>by kernel_rfl)
noncomputable def zg7:FS:=mkF 341 [.v .s, .v .s] (.tu (.cons (.v .s) (.cons (.v .b) .nil))) (fun x=>zcg x.1 x.2.1) [zg9] [] (fun _ _=>by kernel_rfl) (fun _ _=>by kernel_rfl)
noncomputable def zjd:FS:=mkF 286 [.v .s, .v .s] (.tu (.cons (.v .s) (.cons (.v .b) .nil))) (fun x=>zdh x.1 x.2.1) [zg7] [] (fun _ _=>by kernel_rfl) (fun _ _=>by kernel_rfl)
noncomputable def zjl:FS:=mkF 360 [.v .s, .v .s] (.tu (.cons (.v .s) (.cons (.v .s) (.cons (.v .b) .nil)))) (fun x=>zci x.1 x.2.1) [ze0] [] (fun _ _=>by kernel_rfl) (fun _ _=>by kernel_rfl)
noncomputable def ztK:FS:=mkF 333 [.v .s, .v .s] (.tu (.cons (.v .s) (.cons (.v .s) (.cons (.v .b) .nil)))) (fun x=>zfq x.1 x.2.1) [zjl] [] (fun _ _=>by kernel_rfl) (fun _ _=>by kernel_rfl)
noncomputable def zjz:FS:=mkF 276 [.v (.st 3), .v .s, .v .s] (.tu (.cons (.v .s) (.cons (.v .s) (.cons (.v .b) .nil)))) (fun x=>zcz x.1 x.2.1 x.2.2.1) [zhf,zjd,ztK,zms] [] (fun _ _=>by kernel_rfl) (fun _ _=>by kernel_rfl)
noncomputable def zdX:FS:=mkF 189 [.v (.st 3), .v .s, .v (.l (.st 0))] (.v (.l .s)) (fun x=>zbX x.1 x.2.1 x.2.2.1) [zjz] [.sp [.i .i64, .l .s], .inl] (fun _ _=>by kernel_rfl) (fun _ _=>by kernel_rfl)
noncomputable def zqE:FS:=mkF 368 [.v .s, .v .s] (.v (.i .i64)) (fun x=>zgK x.1 x.2.1) [ze0] [] (fun _ _=>by kernel_rfl) (fun _ _=>by kernel_rfl)
noncomputable def zng:FS:=mkF 342 [.v .s, .v .s, .v (.i .i64), .v (.i .i64)] (.v (.l .s)) (fun x=>zgU x.1 x.2.1 x.2.2.1 x.2.2.2.1) [zot,zqE,zqO] [.pt, .sp [.s, .i .i64, .l .s]] (fun _ _=>by kernel_rfl) (fun _ _=>by kernel_rfl)
noncomputable def zqX:FS:=mkF 287 [.v .s, .v .s] (.v (.l .s)) (fun x=>zfn x.1 x.2.1) [zng] [] (fun _ _=>by kernel_rfl) (fun _ _=>by kernel_rfl)
noncomputable def zk2:FS:=mkF 201 [.v (.st 3), .v (.st 0)] (.tu (.cons (.v (.st 4)) (.cons (.v .b) .nil))) (fun x=>zdk x.1 x.2.1) [zjd,zqX,ziv,zgL] [] (fun _ _=>by kernel_rfl) (fun _ _=>by kernel_rfl)
noncomputable def zlf:FS:=mkF 103 [.v (.st 3), .v (.l (.st 0))] (.v (.l (.st 4))) (fun x=>zfa x.1 x.2.1) [zk2] [.sp [.i .i64, .l (.st 4)], .inl] (fun _ _=>by kernel_rfl) (fun _ _=>by kernel_rfl)
noncomputable def zia:FS:=mkF 278 [.v (.st 3), .v .s, .v (.l (.st 0))] (.v (.l .s)) (fun x=>zcF x.1 x.2.1 x.2.2.1) [zlf,zhY] [.sp [.i .i64, .l .s]] (fun _ _=>by kernel_rfl) (fun _ _=>by kernel_rfl)
noncomputable def zdZ:FS:=mkH 294 [.v (.l .s)] (.v (.l .s)) (fun x=>za0 x.1) fun x r hp h=>ziu (f:=294) (t:=zr7 16 1) (by kernel_rfl) (by kernel_rfl) (znJ (bytes:=16) (sz:=1) (av:=(zhj tab.av .s)) (fun x=>⟨zlF _ x,zgn (by kernel_rfl) x⟩) h)
noncomputable def zfR:FS:=mkH 334 [.v (.l .s), .fn [.s] .b] (.v (.l .s)) (fun x=>ze9 x.1 (fun y=>x.2.1.φ (y,()))) fun x r hp h=>ziu (f:=334) (t:=zBj 262 1 false (.fld (.idx (.var 5) (.var 4)) 0 1 false) [] (.str (ByteArray.mk #[]))) (by kernel_rfl) (by kernel_rfl) (zyo (av:=(zhj tab.av .s)) (fun x=>⟨zlF _ x,zgn (by kernel_rfl) x,(fun e=>nomatch e),fun _=>rfl⟩) (by decide) (fun a b c d j ys x tl hj=>by simp [AV.nth,hj,zhj,tAv]) (fun a b c d j ys x hj=>by simp [AV.nth,hj,zhj,tAv]) h (fun i hi=>zdd.ok x i hp hi) (fun y b hb=>hp.2.1 (y,()) b hb))
noncomputable def zpb:FS:=mkF 335 [.v .s, .rf (.l .s)] (.v .b) (fun x=>zis x.1 x.2.1) [zdp] [] (fun _ _=>by kernel_rfl) (fun _ _=>by kernel_rfl)
noncomputable def zn7:FS:=mkP zpb fun _=>by kernel_rfl
noncomputable def zmp:FS:=mkF 277 [.v (.l .s), .v (.l .s)] (.v (.l .s)) (fun x=>zfP x.1 x.2.1) [zdZ,zfR,zn7] [] (fun _ _=>by kernel_rfl) (fun _ _=>by kernel_rfl)
noncomputable def zj2:FS:=mkF 190 [.v (.st 3), .v .s, .v (.l (.st 0))] (.v (.l .s)) (fun x=>zcM x.1 x.2.1 x.2.2.1) [zdX,zia,zmp] [] (fun _ _=>by kernel_rfl) (fun _ _=>by kernel_rfl)
noncomputable def zk7:FS:=mkF 191 [.v (.st 3), .v .s, .v (.l (.st 0))] (.v (.l .s)) (fun x=>zeX x.1 x.2.1 x.2.2.1) [zia,zdX,zmp] [] (fun _ _=>by kernel_rfl) (fun _ _=>by kernel_rfl)
noncomputable def zk4:FS:=mkF 90 [.v (.st 3), .v .s, .v (.i .i64), .v (.l (.st 0))] (.v .b) (fun x=>zdj x.1 x.2.1 x.2.2.1 x.2.2.2.1) [zdX,zj2,zk7] [] (fun _ _=>by kernel_rfl) (fun _ _=>by kernel_rfl)
noncomputable def zlq:FS:=mkF 202 [.v (.st 3), .v .s, .v (.l (.st 0))] (.v .b) (fun x=>zde x.1 x.2.1 x.2.2.1) [zf0,zeo,zgP] [] (fun _ _=>by kernel_rfl) (fun _ _=>by kernel_rfl)
noncomputable def zmS:FS:=mkF 343 [.v (.st 3), .v .s, .v .s] (.tu (.cons (.v .s) (.cons (.v .s) (.cons (.v .b) .nil)))) (fun x=>zer x.1 x.2.1 x.2.2.1) [zmx,zld] [] (fun _ _=>by kernel_rfl) (fun _ _=>by kernel_rfl)
noncomputable def zhB:FS:=mkF 288 [.v (.st 3), .v .s, .v (.l (.st 0))] (.v (.l .s)) (fun x=>zd7 x.1 x.2.1 x.2.2.1) [zmS] [.sp [.l .s, .i .i64], .inl] (fun _ _=>by kernel_rfl) (fun _ _=>by kernel_rfl)
noncomputable def zii:FS:=mkF 226 [.v (.st 3), .v .s, .v (.l (.st 0))] (.v (.l .s)) (fun x=>zdx x.1 x.2.1 x.2.2.1) [zhH,zeo,zi1] [.sp [.l .s, .i .i64]] (fun _ _=>by kernel_rfl) (fun _ _=>by kernel_rfl)
noncomputable def zml:FS:=mkF 344 [.v (.l .s), .v (.l .s)] (.v (.l .s)) (fun x=>zhS x.1 x.2.1) [zo2] [.sp [.l .s, .i .i64], .inl] (fun _ _=>by kernel_rfl) (fun _ _=>by kernel_rfl)
noncomputable def zo5:FS:=mkF 289 [.v (.st 3), .v .s, .v (.l (.st 0))] (.tu (.cons (.v (.l .s)) (.cons (.v .b) .nil))) (fun x=>zio x.1 x.2.1 x.2.2.1) [zlq,zhB,zii,zml] [] (fun _ _=>by kernel_rfl) (fun _ _=>by kernel_rfl)
noncomputable def zrs:FS:=mkF 290 [.v (.st 3), .v .s, .v (.l (.st 0))] (.tu (.cons (.v (.l .s)) (.cons (.v .b) .nil))) (fun x=>zjw x.1 x.2.1 x.2.2.1) [zlq,zii,zhB,zml] [] (fun _ _=>by kernel_rfl) (fun _ _=>by kernel_rfl)
noncomputable def zqW:FS:=mkF 203 [.v (.st 3), .v .s, .v (.i .i64), .v (.l (.st 0))] (.v .b) (fun x=>zgA x.1 x.2.1 x.2.2.1 x.2.2.2.1) [zhB,zo5,zrs] [] (fun _ _=>by kernel_rfl) (fun _ _=>by kernel_rfl)
noncomputable def ztF:FS:=mkF 25 [.v (.l (.st 0)), .v (.l (.st 0))] (.v .b) (fun x=>ziD x.1 x.2.1) [] [.sp [.i .i64]] (fun _ _=>by kernel_rfl) (fun _ _=>by kernel_rfl)
noncomputable def zsL:FS:=mkF 29 [.v (.l .s), .v (.l .s)] (.v .b) (fun x=>ziM x.1 x.2.1) [] [.sp [.i .i64]] (fun _ _=>by kernel_rfl) (fun _ _=>by kernel_rfl)
noncomputable def zny:FS:=mkF 142 [.v (.st 3), .v .s, .v (.i .i64)] (.v (.l (.st 3))) (fun x=>zgX x.1 x.2.1 x.2.2.1) [zkV,zeo,znI] [.sp [.i .i64, .l (.st 3)], .inl] (fun _ _=>by kernel_rfl) (fun _ _=>by kernel_rfl)
noncomputable def zvl:FS:=mkF 229 [.v (.l (.i .i64))] (.v (.l (.i .i64))) (fun x=>zjv x.1) [] [] (fun _ _=>by kernel_rfl) (fun _ _=>by kernel_rfl)
noncomputable def znl:FS:=mkF 137 [.v (.st 8)] (.v (.st 8)) (fun x=>zgZ x.1) [zvl,zkV] [.sp [.i .i64, .l (.st 3)]] (fun _ _=>by kernel_rfl) (fun _ _=>by kernel_rfl)
noncomputable def zqv:FS:=mkF 51 [.v (.st 3), .v .s, .v (.i .i64), .v (.i .i64), .v (.l (.st 0))] (.tu (.cons (.v (.st 8)) (.cons (.v .b) .nil))) (fun x=>zgv x.1 x.2.1 x.2.2.1 x.2.2.2.1 x.2.2.2.2.1) [zq2,zb7,zgP,zny,znl] [] (fun _ _=>by kernel_rfl) (fun _ _=>by kernel_rfl)
noncomputable def zrq:FS:=mkF 225 [.v (.i .i64), .v (.i .i64)] (.v (.i .i64)) (fun x=>zhN x.1 x.2.1) [] [] (fun _ _=>by kernel_rfl) (fun _ _=>by kernel_rfl)
noncomputable def zpq:FS:=mkF 208 [.v (.st 8)] (.v (.l (.i .i64))) (fun x=>zf7 x.1) [zeo] [.sp [.l (.i .i64), .i .i64]] (fun _ _=>by kernel_rfl) (fun _ _=>by kernel_rfl)
noncomputable def zuV:FS:=mkF 209 [.v (.l (.i .i64)), .v (.i .i64)] (.v .b) (fun x=>zh7 x.1 x.2.1) [] [.sp [.i .i64]] (fun _ _=>by kernel_rfl) (fun _ _=>by kernel_rfl)
noncomputable def zjy:FS:=mkF 116 [.v (.st 8)] (.v (.i .i64)) (fun x=>zdO x.1) [zpq,zuV] [] (fun _ _=>by kernel_rfl) (fun _ _=>by kernel_rfl)
noncomputable def zk3:FS:=mkF 131 [.rf (.st 1)] (.tu (.cons (.v (.st 8)) (.cons (.v (.st 1)) .nil))) (fun x=>zbb x.1) [zib,zaK,znI,zlE,zhH,zqv,zjy,zii,zdc,ziV,zrq,zgz] [.sp [.l (.i .u8), .i .i64, .i .u64, .s, .l .s, .l (.st 2)], .sp [.l (.st 0), .i .i64], .sp [.i .i64, .l (.i .u8), .i .i64, .i .u64, .l (.i .i64)], .inl, .sp [.i .i64, .l (.i .u8), .i .i64, .i .u64, .l (.st 0)], .inl, .inl, .inl] (fun _ _=>by kernel_rfl) (fun _ _=>by kernel_rfl)
noncomputable def zjk:FS:=mkF 134 [.rf (.st 1)] (.tu (.cons (.v (.st 8)) (.cons (.v (.st 1)) .nil))) (fun x=>zck x.1) [zk3,zaK,zib,zdD] [.inl] (fun _ _=>by kernel_rfl) (fun _ _=>by kernel_rfl)
noncomputable def zll:FS:=mkF 299 [.rf (.st 1), .v (.l (.i .i64))] (.tu (.cons (.v (.i .i64)) (.cons (.v (.st 1)) .nil))) (fun x=>zdB x.1 x.2.1) [zaK] [] (fun _ _=>by kernel_rfl) (fun _ _=>by kernel_rfl)
noncomputable def zjH:FS:=mkF 227 [.rf (.st 1), .v (.st 8)] (.tu (.cons (.v (.st 9)) (.cons (.v (.st 1)) .nil))) (fun x=>zcA x.1 x.2.1) [zaK,zdc,zll,zmE] [] (fun _ _=>by kernel_rfl) (fun _ _=>by kernel_rfl)
end Go.Proofs.YtgobcjbjogkpjaaGreatDoor
end
section
namespace Go.Proofs.YtgobcjbjogkpjaaGreatDoor
open Go.RowKit
set_option maxRecDepth 100000
set_option maxHeartbeats 4000000
noncomputable def zir:FS:=mkF 133 [.rf (.st 1), .v (.st 8)] (.tu (.cons (.v (.st 9)) (.cons (.v (.st 1)) .nil))) (fun x=>zbF x.1 x.2.1) [zjH,zaK] [.inl] (fun _ _=>by kernel_rfl) (fun _ _=>by kernel_rfl)
noncomputable def zkN:FS:=mkF 105 [.v (.l (.i .u8))] (.tu (.cons (.v (.st 8)) (.cons (.v (.st 9)) .nil))) (fun x=>zey x.1) [zjk,zir] [] (fun _ _=>by kernel_rfl) (fun _ _=>by kernel_rfl)
noncomputable def zmd:FS:=mkF 31 [.v (.l (.i .u8))] (.tu (.cons (.v (.st 8)) (.cons (.v (.st 9)) .nil))) (fun x=>zdT x.1) [zkN] [] (fun _ _=>by kernel_rfl) (fun _ _=>by kernel_rfl)
noncomputable def zet:FS:=mkH 211 [.v (.l (.st 3)), .fn [.st 3] .b] (.v (.i .i64)) (fun x=>zbo x.1 (fun y=>x.2.1.φ (y,()))) fun x r hp h=>ziu (f:=211) (t:=zyE 3) (by kernel_rfl) (by kernel_rfl) (zv8 (av:=(zhj tab.av (.st 3))) (cn:=3) (fun _=>⟨_,rfl,rfl⟩) h (fun y b hb=>hp.2.1 (y,()) b hb))
noncomputable def zdQ:FS:=mkH 119 [.v (.l (.st 3)), .fn [.st 3] .b] (.v .b) (fun x=>zaT x.1 (fun y=>x.2.1.φ (y,()))) fun x r hp h=>ziu (f:=119) (t:=zxg 211) (by kernel_rfl) (by kernel_rfl) (zsD h fun r hr=>zet.ok x r hp hr)
noncomputable def znQ:FS:=mkF 120 [.v (.st 3), .rf (.st 8)] (.v .b) (fun x=>zgC x.1 x.2.1) [zsZ] [] (fun _ _=>by kernel_rfl) (fun _ _=>by kernel_rfl)
noncomputable def zmP:FS:=mkP znQ fun _=>by kernel_rfl
noncomputable def zin:FS:=mkH 213 [.v (.l (.i .i64)), .fn [.i .i64] .b] (.v (.i .i64)) (fun x=>zbo x.1 (fun y=>x.2.1.φ (y,()))) fun x r hp h=>ziu (f:=213) (t:=zwF) (by kernel_rfl) (by kernel_rfl) (zw2 (av:=(zhj tab.av (.i .i64))) (fun _=>rfl) h (fun y b hb=>hp.2.1 (y,()) b hb))
noncomputable def zhd:FS:=mkH 122 [.v (.l (.i .i64)), .fn [.i .i64] .b] (.v .b) (fun x=>zaT x.1 (fun y=>x.2.1.φ (y,()))) fun x r hp h=>ziu (f:=122) (t:=zxg 213) (by kernel_rfl) (by kernel_rfl) (zsD h fun r hr=>zin.ok x r hp hr)
noncomputable def zni:FS:=mkF 123 [.v (.i .i64), .rf (.st 8)] (.v .b) (fun x=>zg0 x.1 x.2.1) [zcB] [] (fun _ _=>by kernel_rfl) (fun _ _=>by kernel_rfl)
noncomputable def znb:FS:=mkP zni fun _=>by kernel_rfl
noncomputable def zhg:FS:=mkF 126 [.v (.st 8), .v (.st 3)] (.v (.i .i64)) (fun x=>zbz x.1 x.2.1) [zg6] [] (fun _ _=>by kernel_rfl) (fun _ _=>by kernel_rfl)
noncomputable def zgi:FS:=mkH 295 [.v (.l (.st 2))] (.v (.l (.st 2))) (fun x=>zbQ x.1) fun x r hp h=>ziu (f:=295) (t:=zr7 32 3) (by kernel_rfl) (by kernel_rfl) (znJ (bytes:=32) (sz:=3) (av:=(zhj tab.av (.st 2))) (fun x=>⟨zlF _ x,zgn (by kernel_rfl) x⟩) h)
noncomputable def zif:FS:=mkF 215 [.v (.st 3)] (.v (.st 3)) (fun x=>zdv x.1) [zdZ,zgi] [] (fun _ _=>by kernel_rfl) (fun _ _=>by kernel_rfl)
noncomputable def zkg:FS:=mkF 216 [.v (.st 3), .v .s, .v (.i .i64)] (.v (.st 3)) (fun x=>zbW x.1 x.2.1 x.2.2.1) [zif,zeZ] [] (fun _ _=>by kernel_rfl) (fun _ _=>by kernel_rfl)
noncomputable def zmb:FS:=mkF 125 [.v (.st 3), .v .s, .v (.i .i64)] (.v (.l (.st 3))) (fun x=>zdS x.1 x.2.1 x.2.2.1) [zg6,zif,zkg] [.sp [.i .i64, .l (.st 3)], .inl] (fun _ _=>by kernel_rfl) (fun _ _=>by kernel_rfl)
noncomputable def zbP:FS:=mkF 124 [.v (.l (.st 3)), .v (.l (.st 3)), .fn [.st 3, .st 3] .b] (.v .b) (fun x=>zam x.1 x.2.1 (fun y0 y1=>x.2.2.1.φ (y0,y1,()))) [] [.sp [.i .i64]] (fun _ _=>by kernel_rfl) (fun _ _=>by kernel_rfl)
noncomputable def zhy:FS:=mkF 217 [.v (.l .s), .v (.l .s)] (.v .b) (fun x=>zbr x.1 x.2.1) [] [.sp [.i .i64]] (fun _ _=>by kernel_rfl) (fun _ _=>by kernel_rfl)
noncomputable def zgc:FS:=mkF 218 [.v (.l (.st 2)), .v (.l (.st 2))] (.v .b) (fun x=>za4 x.1 x.2.1) [] [.sp [.i .i64]] (fun _ _=>by kernel_rfl) (fun _ _=>by kernel_rfl)
noncomputable def zpk:FS:=mkF 127 [.v (.st 3), .v (.st 3)] (.v .b) (fun x=>zce x.1 x.2.1) [zhy,zgc] [] (fun _ _=>by kernel_rfl) (fun _ _=>by kernel_rfl)
noncomputable def zn4:FS:=mkP zpk fun _=>by kernel_rfl
noncomputable def zeE:FS:=mkF 43 [.v (.st 8)] (.v .b) (fun x=>zbI x.1) [zcB,ztI,zdQ,zmP,zhd,znb,zhg,zmb,zbP,zn4] [] (fun _ _=>by kernel_rfl) (fun _ _=>by kernel_rfl)
noncomputable def zfC:FS:=mkF 204 [.v (.st 8), .v (.i .i64)] (.v (.st 3)) (fun x=>zaG x.1 x.2.1) [] [] (fun _ _=>by kernel_rfl) (fun _ _=>by kernel_rfl)
noncomputable def ztp:FS:=mkF 222 [.v (.st 5)] (.v .b) (fun x=>zkI x.1) [] [] (fun _ _=>by kernel_rfl) (fun _ _=>by kernel_rfl)
noncomputable def zjA:FS:=mkF 130 [.v (.st 8), .v (.st 9)] (.v .b) (fun x=>zbE x.1 x.2.1) [zcB,zfC,zkP,ztp] [] (fun _ _=>by kernel_rfl) (fun _ _=>by kernel_rfl)
noncomputable def zf8:FS:=mkF 45 [.v (.st 8), .v (.st 9)] (.v .b) (fun x=>zbM x.1 x.2.1) [zeE,zjA] [] (fun _ _=>by kernel_rfl) (fun _ _=>by kernel_rfl)
noncomputable def zjM:FS:=mkH 228 [.v (.l (.i .i64))] (.v (.l (.i .i64))) (fun x=>zdI x.1) fun x r hp h=>ziu (f:=228) (t:=zr7 8 1) (by kernel_rfl) (by kernel_rfl) (znJ (bytes:=8) (sz:=1) (av:=(zhj tab.av (.i .i64))) (fun x=>⟨zlF _ x,zgn (by kernel_rfl) x⟩) h)
noncomputable def zpr:FS:=mkF 135 [.v (.st 8)] (.v (.st 8)) (fun x=>zfY x.1) [zjM,zcG,zif] [.sp [.i .i64, .l (.st 3)]] (fun _ _=>by kernel_rfl) (fun _ _=>by kernel_rfl)
noncomputable def zje:FS:=mkF 106 [.v (.st 8), .v (.st 9)] (.tu (.cons (.v (.st 8)) (.cons (.v .b) .nil))) (fun x=>zdb x.1 x.2.1) [zpr,zcB,zfC,zlo,ztN] [] (fun _ _=>by kernel_rfl) (fun _ _=>by kernel_rfl)
noncomputable def zo4:FS:=mkF 32 [.v (.st 8), .v (.st 9)] (.tu (.cons (.v (.st 8)) (.cons (.v .b) (.cons (.v .b) .nil)))) (fun x=>zeM x.1 x.2.1) [zf8,zje] [] (fun _ _=>by kernel_rfl) (fun _ _=>by kernel_rfl)
noncomputable def znd:FS:=mkF 220 [.v (.st 3), .v (.st 3)] (.v .b) (fun x=>ze2 x.1 x.2.1) [] [.sp [.i .i64], .sp [.i .i64]] (fun _ _=>by kernel_rfl) (fun _ _=>by kernel_rfl)
noncomputable def zsz:FS:=mkF 296 [.v (.i .i64), .v (.i .i64)] (.v (.i .i64)) (fun x=>ziF x.1 x.2.1) [] [] (fun _ _=>by kernel_rfl) (fun _ _=>by kernel_rfl)
noncomputable def ztz:FS:=mkF 221 [.v (.st 3), .v (.st 3)] (.v (.i .i64)) (fun x=>ziB x.1 x.2.1) [zsz] [.sp [.i .i64, .i .i64]] (fun _ _=>by kernel_rfl) (fun _ _=>by kernel_rfl)
noncomputable def zrE:FS:=mkF 128 [.v (.st 8)] (.v .b) (fun x=>zeS x.1) [zb7,zf0,zeo,zny,znd,ztz] [.sp [.i .i64]] (fun _ _=>by kernel_rfl) (fun _ _=>by kernel_rfl)
noncomputable def zus:FS:=mkF 129 [.v (.l (.i .i64)), .v (.i .i64), .v (.i .i64)] (.v .b) (fun x=>zjq x.1 x.2.1 x.2.2.1) [zb7] [.sp [.i .i64]] (fun _ _=>by kernel_rfl) (fun _ _=>by kernel_rfl)
noncomputable def zeJ:FS:=mkF 44 [.v (.st 8)] (.v .b) (fun x=>zbJ x.1) [zrE,zb7,zus,zgP] [] (fun _ _=>by kernel_rfl) (fun _ _=>by kernel_rfl)
noncomputable def zqc:FS:=mkF 291 [.v (.st 5)] (.v .b) (fun x=>zlH x.1) [] [] (fun _ _=>by kernel_rfl) (fun _ _=>by kernel_rfl)
noncomputable def zrF:FS:=mkF 205 [.v (.st 8), .v (.st 9)] (.v .b) (fun x=>zfQ x.1 x.2.1) [zb7,zqc,zmy] [] (fun _ _=>by kernel_rfl) (fun _ _=>by kernel_rfl)
noncomputable def zi4:FS:=mkF 107 [.v (.st 8), .v (.st 9)] (.v .b) (fun x=>zcp x.1 x.2.1) [zeJ,zrF] [] (fun _ _=>by kernel_rfl) (fun _ _=>by kernel_rfl)
noncomputable def zoO:FS:=mkF 108 [.v (.st 8), .v (.st 9)] (.tu (.cons (.v (.st 8)) (.cons (.v .b) .nil))) (fun x=>zcZ x.1 x.2.1) [znl,zb7,zud] [] (fun _ _=>by kernel_rfl) (fun _ _=>by kernel_rfl)
noncomputable def zpf:FS:=mkF 33 [.v (.st 8), .v (.st 9)] (.tu (.cons (.v (.st 8)) (.cons (.v .b) (.cons (.v .b) .nil)))) (fun x=>zeC x.1 x.2.1) [zi4,zoO] [] (fun _ _=>by kernel_rfl) (fun _ _=>by kernel_rfl)
noncomputable def zkH:FS:=mkF 206 [.v (.l (.i .i64))] (.v (.i .i64)) (fun x=>zcU x.1) [] [.sp [.i .i64, .i .i64]] (fun _ _=>by kernel_rfl) (fun _ _=>by kernel_rfl)
noncomputable def zkp:FS:=mkF 207 [.v (.l (.i .i64))] (.v (.i .i64)) (fun x=>zcW x.1) [] [.sp [.i .i64, .i .i64]] (fun _ _=>by kernel_rfl) (fun _ _=>by kernel_rfl)
noncomputable def zgH:FS:=mkF 113 [.v (.st 8)] (.v .b) (fun x=>zbp x.1) [zkH,zkp] [] (fun _ _=>by kernel_rfl) (fun _ _=>by kernel_rfl)
noncomputable def zjc:FS:=mkF 115 [.v (.st 8)] (.v (.i .i64)) (fun x=>zcr x.1) [zfC,zhg] [.sp [.i .i64, .i .i64], .inl] (fun _ _=>by kernel_rfl) (fun _ _=>by kernel_rfl)
noncomputable def zh9:FS:=mkF 111 [.v (.st 8)] (.v .b) (fun x=>zbT x.1) [zjc,zk4] [] (fun _ _=>by kernel_rfl) (fun _ _=>by kernel_rfl)
noncomputable def znk:FS:=mkF 109 [.v (.st 8), .v (.st 9)] (.v .b) (fun x=>ze1 x.1 x.2.1) [zje,zgH,zh9] [] (fun _ _=>by kernel_rfl) (fun _ _=>by kernel_rfl)
noncomputable def zru:FS:=mkF 34 [.v (.st 8), .v (.st 9)] (.tu (.cons (.v .b) (.cons (.v .b) .nil))) (fun x=>zfI x.1 x.2.1) [zf8,znk] [] (fun _ _=>by kernel_rfl) (fun _ _=>by kernel_rfl)
noncomputable def zlG:FS:=mkF 114 [.v (.l (.i .i64))] (.v .b) (fun x=>zd9 x.1) [] [.sp [.i .i64], .sp [.i .i64]] (fun _ _=>by kernel_rfl) (fun _ _=>by kernel_rfl)
noncomputable def zmv:FS:=mkF 112 [.v (.st 8)] (.v .b) (fun x=>zeN x.1) [zjy,zqW] [] (fun _ _=>by kernel_rfl) (fun _ _=>by kernel_rfl)
noncomputable def ztT:FS:=mkF 110 [.v (.st 8), .v (.st 9)] (.v .b) (fun x=>zfw x.1 x.2.1) [zoO,zlG,zmv] [] (fun _ _=>by kernel_rfl) (fun _ _=>by kernel_rfl)
noncomputable def zrK:FS:=mkF 35 [.v (.st 8), .v (.st 9)] (.tu (.cons (.v .b) (.cons (.v .b) .nil))) (fun x=>zeP x.1 x.2.1) [zi4,ztT] [] (fun _ _=>by kernel_rfl) (fun _ _=>by kernel_rfl)
noncomputable def zsJ:FS:=mkF 36 [.v (.st 8)] (.tu (.cons (.v .b) (.cons (.v .b) .nil))) (fun x=>zfs x.1) [zeE,zh9] [] (fun _ _=>by kernel_rfl) (fun _ _=>by kernel_rfl)
noncomputable def zsB:FS:=mkF 37 [.v (.st 8)] (.tu (.cons (.v .b) (.cons (.v .b) .nil))) (fun x=>zgG x.1) [zeJ,zmv] [] (fun _ _=>by kernel_rfl) (fun _ _=>by kernel_rfl)
noncomputable def zqx:FS:=mkF 38 [.v (.st 8)] (.tu (.cons (.v .b) (.cons (.v .b) .nil))) (fun x=>zd0 x.1) [zeE,zgH] [] (fun _ _=>by kernel_rfl) (fun _ _=>by kernel_rfl)
noncomputable def zpT:FS:=mkF 39 [.v (.st 8)] (.tu (.cons (.v .b) (.cons (.v .b) .nil))) (fun x=>zfk x.1) [zeJ,zlG] [] (fun _ _=>by kernel_rfl) (fun _ _=>by kernel_rfl)
noncomputable def zts:FS:=mkF 40 [.v (.st 8)] (.tu (.cons (.v (.i .i64)) (.cons (.v .b) .nil))) (fun x=>zgR x.1) [zeE,zjc] [] (fun _ _=>by kernel_rfl) (fun _ _=>by kernel_rfl)
noncomputable def zsw:FS:=mkF 41 [.v (.st 8)] (.tu (.cons (.v (.i .i64)) (.cons (.v .b) .nil))) (fun x=>zgJ x.1) [zeJ,zjy] [] (fun _ _=>by kernel_rfl) (fun _ _=>by kernel_rfl)
noncomputable def zsM:FS:=mkF 210 [.v (.st 3), .v (.st 3)] (.v .b) (fun x=>ziU x.1 x.2.1) [zsL] [.sp [.i .i64]] (fun _ _=>by kernel_rfl) (fun _ _=>by kernel_rfl)
noncomputable def zrv:FS:=mkF 117 [.v (.l (.st 3)), .v (.l (.st 3))] (.v .b) (fun x=>zhV x.1 x.2.1) [zsM] [.sp [.i .i64]] (fun _ _=>by kernel_rfl) (fun _ _=>by kernel_rfl)
noncomputable def zsv:FS:=mkF 118 [.v (.l (.i .i64)), .v (.l (.i .i64))] (.v .b) (fun x=>ziH x.1 x.2.1) [] [.sp [.i .i64]] (fun _ _=>by kernel_rfl) (fun _ _=>by kernel_rfl)
noncomputable def ztw:FS:=mkF 42 [.v (.st 8), .v (.st 8)] (.v .b) (fun x=>ziP x.1 x.2.1) [zrv,zsv,ztF] [] (fun _ _=>by kernel_rfl) (fun _ _=>by kernel_rfl)
noncomputable def zmh:FS:=mkF 8 [.v (.l (.i .u8)), .v (.l (.i .u8))] (.v .b) (fun x=>zhM x.1 x.2.1) [zmd,zo4,zpf,zru,zrK,zsJ,zsB,zqx,zpT,zts,zsw,ztw,zeE,zeJ,zf8] [] (fun _ _=>by kernel_rfl) (fun _ _=>by kernel_rfl)
end Go.Proofs.YtgobcjbjogkpjaaGreatDoor
end
section
namespace Go.Proofs.YtgobcjbjogkpjaaGreatDoor
open Go.RowKit
set_option maxRecDepth 100000
set_option maxHeartbeats 4000000
end Go.Proofs.YtgobcjbjogkpjaaGreatDoor
end
section
namespace Go.Proofs.YtgobcjbjogkpjaaGreatDoor
open Go.RowKit
set_option maxRecDepth 100000
theorem zrj (a0:List Int) (a1:List Int) (r:Bool) (h:zhM a0 a1=some r):Rts Tryz.prog sgs 8 [.sl (a0.map zDT), .sl (a1.map zDT)] (.bool r):=zmh.ok (a0,a1,()) r (by simp [zmh,mkF,zxd,zE0]) h
end Go.Proofs.YtgobcjbjogkpjaaGreatDoor
end
section
namespace Go.Proofs.YtgobcjbjogkpjaaGreatDoor
open Go.ChangeShapes Go.WideShapes Go.ChangeAt Go.RowKit
theorem zlr {H:Type} {P:Program} {t:TypeId} {ts:List TypeId} {d:DataW H} {r:List (DataW H)} {n:Nat} (h:(DataW.weightsEach P (t::ts) (d::r)).all (· ≤n)=true):(d.weights P t).all (· ≤n)=true∧(DataW.weightsEach P ts r).all (· ≤n)=true:=by
 rw [DataW.weightsEach,List.all_append,Bool.and_eq_true]at h
 exact h
theorem zCd {w:World} {p:Option Addr} {n c:Nat} {xs:List AV} {f:List Nat} (h:Rd w [.slice p n c] [.sl xs] f):n=xs.length:=by
 cases h<;>first|rfl|(symm;assumption)
theorem zAL {w:World} {v:Value} {xs:List AV} {f:List Nat} (h:Rd w [v] [.sl xs] f):v.cells.toList= [v]:=by
 cases h<;>rfl
theorem zpY {H:Type} {P:Program} {enc:TypeId × Value→H} {w:World} {spare:Nat→Bool} {held:Bool} {t e:TypeId} {v:Value} {d:DataW H} {p:List MemPlace} {xs:List AV} {f:List Nat} (ht:P.underlying t=some (.slice e)) (hb:P.bytesOf e=1) (h:DataW.Trod enc P w 0 spare held t v d p) (hr:Rd w [v] [.sl xs] f) (hw:(d.weights P t).all (· ≤reachBytes)=true):xs.length≤reachBytes:=by
 have hc:=zAL hr
 obtain⟨m,hm⟩:=h
 rcases DataW.trod_slice ht hm with⟨h1,_⟩|⟨a,len,cap,elems,rest,n,_,h1,h2,_,_,_,h3,_⟩
 ·rw [hc]at h1
  obtain rfl:=(List.cons.inj h1).1
  rw [←zCd hr];omega
 ·rw [hc]at h1
  obtain rfl:=(List.cons.inj h1).1
  rw [←zCd hr]
  have:d= .slice (elems.map (·.1)) (rest.map (·.1)):=congrArg Prod.fst h2
  subst this
  rw [DataW.weights,ht]at hw
  dsimp only at hw
  rw [List.all_cons,Bool.and_eq_true,decide_eq_true_eq,hb,List.length_map]at hw
  omega
end Go.Proofs.YtgobcjbjogkpjaaGreatDoor
end
