/- Parts of a proof, joined: QM, QF1, QF2, QF3, QF4, QF5, QR, NA, ND, NE, N5. -/
import Derived.Test.YtgobcjbjogkpjaaGreatDoorK7
section
namespace Go.Proofs.YtgobcjbjogkpjaaGreatDoor
open Go.RowKit
set_option maxRecDepth 100000
noncomputable def zcg (a0:zak):Option (Int × zak):=
 if(decide (a0.fat<(a0.fcode.length:Int)))then
  (getI a0.fcode a0.fat).bind fun y1=>
  if(decide ((IntKind.i64.wrap (a0.fat+1))≤(a0.fcode.length:Int)))then
   some ((IntKind.i64.wrap y1),(⟨a0.fcode,(IntKind.i64.wrap (a0.fat+1)),(IntKind.u64.wrap ((IntKind.u64.wrap ((IntKind.u64.wrap (a0.fseed*6364136223846793005))+(IntKind.u64.wrap (IntKind.i64.wrap y1))))+1442695040888963407))⟩:zak))
  else
   some ((IntKind.i64.wrap (IntKind.u64.wrap ((BitVec.ofInt (IntKind.bits .u64) (Int.fdiv (IntKind.u64.wrap ((IntKind.u64.wrap ((IntKind.u64.wrap (a0.fseed*6364136223846793005))+(IntKind.u64.wrap (IntKind.i64.wrap y1))))+1442695040888963407)) (2^(min ((40:Int)).toNat (IntKind.bits .u64))))&&&BitVec.ofInt (IntKind.bits .u64) 255).toNat:Int))),(⟨a0.fcode,(IntKind.i64.wrap (a0.fat+1)),(IntKind.u64.wrap ((IntKind.u64.wrap ((IntKind.u64.wrap (a0.fseed*6364136223846793005))+(IntKind.u64.wrap (IntKind.i64.wrap y1))))+1442695040888963407))⟩:zak))
 else
  if(decide ((IntKind.i64.wrap (a0.fat+1))≤(a0.fcode.length:Int)))then
   some (0,(⟨a0.fcode,(IntKind.i64.wrap (a0.fat+1)),(IntKind.u64.wrap ((IntKind.u64.wrap ((IntKind.u64.wrap (a0.fseed*6364136223846793005))+(IntKind.u64.wrap 0)))+1442695040888963407))⟩:zak))
  else
   some ((IntKind.i64.wrap (IntKind.u64.wrap ((BitVec.ofInt (IntKind.bits .u64) (Int.fdiv (IntKind.u64.wrap ((IntKind.u64.wrap ((IntKind.u64.wrap (a0.fseed*6364136223846793005))+(IntKind.u64.wrap 0)))+1442695040888963407)) (2^(min ((40:Int)).toNat (IntKind.bits .u64))))&&&BitVec.ofInt (IntKind.bits .u64) 255).toNat:Int))),(⟨a0.fcode,(IntKind.i64.wrap (a0.fat+1)),(IntKind.u64.wrap ((IntKind.u64.wrap ((IntKind.u64.wrap (a0.fseed*6364136223846793005))+(IntKind.u64.wrap 0)))+1442695040888963407))⟩:zak))
noncomputable def zag (a0:zak) (a1:Int):Option (Int × zak):=
 if(decide (a1≤1))then
  some (0,a0)
 else
  (zcg a0).bind fun v1=>
  if(decide (a1>200))then
   (zcg v1.2).bind fun v2=>
   req (a1≠0)<|
   some ((Int.tmod (IntKind.i64.wrap ((IntKind.i64.wrap (v1.1*256))+v2.1)) a1),(⟨v2.2.fcode,v2.2.fat,v2.2.fseed⟩:zak))
  else
   req (a1≠0)<|
   some ((Int.tmod v1.1 a1),(⟨v1.2.fcode,v1.2.fat,v1.2.fseed⟩:zak))
noncomputable def zar (a0:zak) (a1:List (List UInt8)):Option (List UInt8 × zak):=
 (zag a0 (a1.length:Int)).bind fun v1=>
 (getI a1 v1.1).bind fun y2=>
 some (y2,v1.2)
noncomputable def zaz (a0:zak) (a1:Int):Option (Bool × zak):=
 (zag a0 a1).bind fun v1=>
 some ((v1.1==0),v1.2)
noncomputable def zbm (v2:Int × zak) (v3:Int) (v7:List zbD) (y8:List UInt8) (v9:List Int) (v10:Int) (v11:Int) (v12:Bool):Option ((Int × List Int × Int × Int × List zbD) ⊕ Option (zab × zak)):=
 if v12 then
  (zag (⟨v9,v10,v11⟩:zak) (IntKind.i64.wrap (((zd8 [([107]:List UInt8),([97]:List UInt8),([98]:List UInt8),([99,99]:List UInt8)] 0 (IntKind.i64.wrap ((2:Int)+v2.1))).length:Int)-1))).bind fun v13=>
  (zag v13.2 4).bind fun v14=>
  req ((((v7).length:Int)+(([(⟨y8,(IntKind.i64.wrap ((1:Int)+v13.1)),v14.1⟩:zbD)]:List zbD).length:Int))*32≤140737488355328∧((v7).length:Int)+(([(⟨y8,(IntKind.i64.wrap ((1:Int)+v13.1)),v14.1⟩:zbD)]:List zbD).length:Int)≤140737488355328)<|
  some (.inl ((IntKind.i64.wrap (v3+1)),v14.2.fcode,v14.2.fat,v14.2.fseed,(v7++ [(⟨y8,(IntKind.i64.wrap ((1:Int)+v13.1)),v14.1⟩:zbD)])))
 else
  some (.inl ((IntKind.i64.wrap (v3+1)),v9,v10,v11,v7))
noncomputable def zfi (v1:List UInt8 × zak) (v2:Int × zak) (v3:Int) (v4:List Int) (v5:Int) (v6:Int) (v7:List zbD):Option ((Int × List Int × Int × Int × List zbD) ⊕ Option (zab × zak)):=
 if(decide (v3<([([105]:List UInt8),([106]:List UInt8),([109]:List UInt8)].length:Int)))then
  (getI [([105]:List UInt8),([106]:List UInt8),([109]:List UInt8)] v3).bind fun y8=>
  (zaz (⟨v4,v5,v6⟩:zak) 3).bind fun v15=>
  if(!v15.1)then
   zbm v2 v3 v7 y8 v15.2.fcode v15.2.fat v15.2.fseed true
  else
   if(y8==([105]:List UInt8))then
    (zaz v15.2 8).bind fun v16=>
    zbm v2 v3 v7 y8 v16.2.fcode v16.2.fat v16.2.fseed (!v16.1)
   else
    zbm v2 v3 v7 y8 v15.2.fcode v15.2.fat v15.2.fseed false
 else
  some (.inr (some ((⟨v1.1,(zd8 [([107]:List UInt8),([97]:List UInt8),([98]:List UInt8),([99,99]:List UInt8)] 0 (IntKind.i64.wrap ((2:Int)+v2.1))),v7⟩:zab),(⟨v4,v5,v6⟩:zak))))
noncomputable def zbn (a0:zak):Option (zab × zak):=
 (zar a0 ([([116]:List UInt8),([117]:List UInt8)]:List (List UInt8))).bind fun v1=>
 (zag v1.2 3).bind fun v2=>
 req (0≤(0:Int)∧(0:Int)≤(IntKind.i64.wrap ((2:Int)+v2.1))∧(IntKind.i64.wrap ((2:Int)+v2.1))≤(([([107]:List UInt8),([97]:List UInt8),([98]:List UInt8),([99,99]:List UInt8)]:List (List UInt8)).length:Int))<|
 req (((([]:List (List UInt8)).length:Int)+(((zd8 [([107]:List UInt8),([97]:List UInt8),([98]:List UInt8),([99,99]:List UInt8)] 0 (IntKind.i64.wrap ((2:Int)+v2.1)))).length:Int))*16≤140737488355328∧(([]:List (List UInt8)).length:Int)+(((zd8 [([107]:List UInt8),([97]:List UInt8),([98]:List UInt8),([99,99]:List UInt8)] 0 (IntKind.i64.wrap ((2:Int)+v2.1)))).length:Int)≤140737488355328)<|
 zaA (fun s:Int × List Int × Int × Int × List zbD=>zfi v1 v2 s.1 s.2.1 s.2.2.1 s.2.2.2.1 s.2.2.2.2) (0,v2.2.fcode,v2.2.fat,v2.2.fseed, [])
noncomputable def zf8 (a1:zab) (v2:List Int) (v3:Int) (v4:Int) (v5:List (List UInt8)):Option ((List Int × Int × Int × List (List UInt8)) ⊕ Option (za5 × zak)):=
 if(decide ((v5.length:Int)<(a1.fCols.length:Int)))then
  (zar (⟨v2,v3,v4⟩:zak) ([([120]:List UInt8),([121]:List UInt8),([120]:List UInt8),([48]:List UInt8),([97,98,99]:List UInt8)]:List (List UInt8))).bind fun v6=>
  req ((((v5).length:Int)+(([v6.1]:List (List UInt8)).length:Int))*16≤140737488355328∧((v5).length:Int)+(([v6.1]:List (List UInt8)).length:Int)≤140737488355328)<|
  some (.inl (v6.2.fcode,v6.2.fat,v6.2.fseed,(v5++ [v6.1])))
 else
  some (.inr (some ((⟨v5⟩:za5),(⟨v2,v3,v4⟩:zak))))
noncomputable def zaQ (a0:zak) (a1:zab):Option (za5 × zak):=
 (zar a0 ([([49]:List UInt8),([50]:List UInt8),([51]:List UInt8),([97]:List UInt8),([122,122]:List UInt8),([97,98,99]:List UInt8)]:List (List UInt8))).bind fun v1=>
 zaA (fun s:List Int × Int × Int × List (List UInt8)=>zf8 a1 s.1 s.2.1 s.2.2.1 s.2.2.2) (v1.2.fcode,v1.2.fat,v1.2.fseed, [v1.1])
noncomputable def zcs (a0:List (List UInt8)) (a1:List UInt8) (v1:List UInt8) (v2:Int):Option ((List UInt8 × Int) ⊕ Option (List UInt8)):=
 if(decide (v2<(a0.length:Int)))then
  (getI a0 v2).bind fun y3=>
  if(decide (v2>0))then
   req ((v1).length+(a1).length≤9223372036854775807)<|
   req (((v1++a1)).length+(y3).length≤9223372036854775807)<|
   some (.inl (((v1++a1)++y3),(IntKind.i64.wrap (v2+1))))
  else
   req ((v1).length+(y3).length≤9223372036854775807)<|
   some (.inl ((v1++y3),(IntKind.i64.wrap (v2+1))))
 else
  some (.inr (some v1))
noncomputable def zim (a0:List (List UInt8)) (a1:List UInt8):Option (List UInt8):=
 zaA (fun s:List UInt8 × Int=>zcs a0 a1 s.1 s.2) (([]:List UInt8),0)
noncomputable def zbY (a0:zab) (a1:za5):Option (zaa):=
 req ((a0.fName).length+(([47]:List UInt8)).length≤9223372036854775807)<|
 (getI a1.fVals 0).bind fun y1=>
 req (((a0.fName++([47]:List UInt8))).length+(y1).length≤9223372036854775807)<|
 req (0≤(1:Int)∧(1:Int)≤(a1.fVals.length:Int)∧(a1.fVals.length:Int)≤(a1.fVals.length:Int))<|
 (zim (zd8 a1.fVals 1 (a1.fVals.length:Int)) ([44]:List UInt8)).bind fun v2=>
 some (⟨((a0.fName++([47]:List UInt8))++y1),v2,false⟩:zaa)
noncomputable def zeX (a0:List zaa) (a1:zaa) (v1:Int):Option (List zaa):=
 if(decide (v1>0))then
  (getI a0 (IntKind.i64.wrap (v1-1))).bind fun y2=>
  if(y2.fKey==a1.fKey)then
   req (((([]:List zaa).length:Int)+((a0).length:Int))*40≤140737488355328∧(([]:List zaa).length:Int)+((a0).length:Int)≤140737488355328)<|
   (getI a0 (IntKind.i64.wrap (v1-1))).bind fun y3=>
   some (a0.set ((IntKind.i64.wrap (v1-1))).toNat a1)
  else
   req (0≤v1∧v1≤(a0.length:Int)∧(a0.length:Int)≤(a0.length:Int))<|
   req (((([]:List zaa).length:Int)+(((zd8 a0 v1 (a0.length:Int))).length:Int))*40≤140737488355328∧(([]:List zaa).length:Int)+(((zd8 a0 v1 (a0.length:Int))).length:Int)≤140737488355328)<|
   req (0≤(0:Int)∧(0:Int)≤v1∧v1≤(a0.length:Int))<|
   req (((([]:List zaa).length:Int)+(((zd8 a0 0 v1)).length:Int))*40≤140737488355328∧(([]:List zaa).length:Int)+(((zd8 a0 0 v1)).length:Int)≤140737488355328)<|
   req (((((zd8 a0 0 v1)).length:Int)+(([a1]:List zaa).length:Int))*40≤140737488355328∧(((zd8 a0 0 v1)).length:Int)+(([a1]:List zaa).length:Int)≤140737488355328)<|
   req ((((((zd8 a0 0 v1)++ [a1])).length:Int)+(((zd8 a0 v1 (a0.length:Int))).length:Int))*40≤140737488355328∧((((zd8 a0 0 v1)++ [a1])).length:Int)+(((zd8 a0 v1 (a0.length:Int))).length:Int)≤140737488355328)<|
   some (((zd8 a0 0 v1)++ [a1])++(zd8 a0 v1 (a0.length:Int)))
 else
  req (0≤v1∧v1≤(a0.length:Int)∧(a0.length:Int)≤(a0.length:Int))<|
  req (((([]:List zaa).length:Int)+(((zd8 a0 v1 (a0.length:Int))).length:Int))*40≤140737488355328∧(([]:List zaa).length:Int)+(((zd8 a0 v1 (a0.length:Int))).length:Int)≤140737488355328)<|
  req (0≤(0:Int)∧(0:Int)≤v1∧v1≤(a0.length:Int))<|
  req (((([]:List zaa).length:Int)+(((zd8 a0 0 v1)).length:Int))*40≤140737488355328∧(([]:List zaa).length:Int)+(((zd8 a0 0 v1)).length:Int)≤140737488355328)<|
  req (((((zd8 a0 0 v1)).length:Int)+(([a1]:List zaa).length:Int))*40≤140737488355328∧(((zd8 a0 0 v1)).length:Int)+(([a1]:List zaa).length:Int)≤140737488355328)<|
  req ((((((zd8 a0 0 v1)++ [a1])).length:Int)+(((zd8 a0 v1 (a0.length:Int))).length:Int))*40≤140737488355328∧((((zd8 a0 0 v1)++ [a1])).length:Int)+(((zd8 a0 v1 (a0.length:Int))).length:Int)≤140737488355328)<|
  some (((zd8 a0 0 v1)++ [a1])++(zd8 a0 v1 (a0.length:Int)))
noncomputable def zca (a0:List zaa) (a1:zaa) (v4:Int):Option ((Int) ⊕ Option (List zaa)):=
 if(decide (v4>0))then
  (getI a0 (IntKind.i64.wrap (v4-1))).bind fun y5=>
  if(!(Op.bytesLess y5.fKey a1.fKey||y5.fKey==a1.fKey))then
   some (.inl (IntKind.i64.wrap (v4-1)))
  else
   some (.inr (zeX a0 a1 v4))
 else
  some (.inr (zeX a0 a1 v4))
noncomputable def zaT (a0:List zaa) (a1:zaa):Option (List zaa):=
 zaA (fun s:Int=>zca a0 a1 s) (a0.length:Int)
noncomputable def zgc (a0:List UInt8) (v1:Int) (v2:List (List UInt8)):Option (List (List UInt8)):=
 req (0≤v1∧v1≤(a0.length:Int)∧(a0.length:Int)≤(a0.length:Int))<|
 req ((((v2).length:Int)+(([(zd8 a0 v1 (a0.length:Int))]:List (List UInt8)).length:Int))*16≤140737488355328∧((v2).length:Int)+(([(zd8 a0 v1 (a0.length:Int))]:List (List UInt8)).length:Int)≤140737488355328)<|
 some (v2++ [(zd8 a0 v1 (a0.length:Int))])
noncomputable def zcq (a0:List UInt8) (a1:Int) (v3:List (List UInt8)) (v4:Int) (v5:Int):Option ((List (List UInt8) × Int × Int) ⊕ Option (List (List UInt8))):=
 if(decide (v5<(a0.length:Int)))then
  (getI a0 v5).bind fun y6=>
  if((y6.toNat:Int)==a1)then
   req (0≤v4∧v4≤v5∧v5≤(a0.length:Int))<|
   req ((((v3).length:Int)+(([(zd8 a0 v4 v5)]:List (List UInt8)).length:Int))*16≤140737488355328∧((v3).length:Int)+(([(zd8 a0 v4 v5)]:List (List UInt8)).length:Int)≤140737488355328)<|
   some (.inl ((v3++ [(zd8 a0 v4 v5)]),(IntKind.i64.wrap (v5+1)),(IntKind.i64.wrap (v5+1))))
  else
   some (.inl (v3,v4,(IntKind.i64.wrap (v5+1))))
 else
  some (.inr (zgc a0 v4 v3))
noncomputable def zc2 (a0:List UInt8) (a1:Int):Option (List (List UInt8)):=
 zaA (fun s:List (List UInt8) × Int × Int=>zcq a0 a1 s.1 s.2.1 s.2.2) ([],0,0)
noncomputable def zbw (a0:Int) (a1:Int) (a2:Int):Option (Bool):=
 some ((decide (a0≥a1))&&(decide (a0≤a2)))
noncomputable def zgr (v1:Int) (v3:Bool):Option ((Int) ⊕ Option (Bool)):=
 if(!v3)then
  some (.inr (some false))
 else
  some (.inl (IntKind.i64.wrap (v1+1)))
noncomputable def zdd (a1:List UInt8) (v1:Int) (y2:UInt8) (v4:Bool) (v5:Int):Option ((Bool × Int) ⊕ Option ((Int) ⊕ Option (Bool))):=
 if(decide (v5<(a1.length:Int)))then
  if v4 then
   some (.inl (true,(IntKind.i64.wrap (v5+1))))
  else
   (getI a1 v5).bind fun y6=>
   some (.inl (((y2.toNat:Int)==(y6.toNat:Int)),(IntKind.i64.wrap (v5+1))))
 else
  some (.inr (zgr v1 v4))
noncomputable def zgb (a0:List UInt8) (a1:List UInt8) (v1:Int):Option ((Int) ⊕ Option (Bool)):=
 if(decide (v1<(a0.length:Int)))then
  (getI a0 v1).bind fun y2=>
  zaA (fun s:Bool × Int=>zdd a1 v1 y2 s.1 s.2) ((((decide ((y2.toNat:Int)≥97))&&(decide ((y2.toNat:Int)≤122)))||((decide ((y2.toNat:Int)≥48))&&(decide ((y2.toNat:Int)≤57)))),0)
 else
  some (.inr (some true))
noncomputable def zdT (a0:List UInt8) (a1:List UInt8):Option (Bool):=
 zaA (fun s:Int=>zgb a0 a1 s) 0
noncomputable def zdf (a0:List UInt8):Option (Bool):=
 (zbw (a0.length:Int) 1 3).bind fun v1=>
 if v1 then
  (zdT a0 ([]:List UInt8)).bind fun v2=>
  some v2
 else
  some false
noncomputable def zgf (a0:zab) (a1:za5):Option (Bool):=
 some ((a1.fVals.length:Int)==(a0.fCols.length:Int))
noncomputable def zge (a0:zab) (a1:za5) (v1:Int):Option ((Int) ⊕ Option (Bool)):=
 if(decide (v1<(a1.fVals.length:Int)))then
  (getI a1.fVals v1).bind fun y2=>
  (zdf y2).bind fun v3=>
  if(!v3)then
   some (.inr (some false))
  else
   some (.inl (IntKind.i64.wrap (v1+1)))
 else
  some (.inr (zgf a0 a1))
noncomputable def zbV (a0:zab) (a1:za5):Option (Bool):=
 zaA (fun s:Int=>zge a0 a1 s) 0
noncomputable def zgu (a0:zab) (a1:zaa):Option (za5 × Bool):=
 if(decide ((a1.fKey.length:Int)<3))then
  some ((⟨[]⟩:za5),false)
 else
  req (0≤(2:Int)∧(2:Int)≤(a1.fKey.length:Int)∧(a1.fKey.length:Int)≤(a1.fKey.length:Int))<|
  (zc2 a1.fVal 44).bind fun v1=>
  req (((([(zd8 a1.fKey 2 (a1.fKey.length:Int))]:List (List UInt8)).length:Int)+((v1).length:Int))*16≤140737488355328∧(([(zd8 a1.fKey 2 (a1.fKey.length:Int))]:List (List UInt8)).length:Int)+((v1).length:Int)≤140737488355328)<|
  (zbV a0 (⟨([(zd8 a1.fKey 2 (a1.fKey.length:Int))]++v1)⟩:za5)).bind fun v2=>
  if v2 then
   (zbY a0 (⟨([(zd8 a1.fKey 2 (a1.fKey.length:Int))]++v1)⟩:za5)).bind fun v3=>
   some ((⟨([(zd8 a1.fKey 2 (a1.fKey.length:Int))]++v1)⟩:za5),(v3.fKey==a1.fKey&&(v3.fVal==a1.fVal&&(v3.fGone==a1.fGone))))
  else
   some ((⟨([(zd8 a1.fKey 2 (a1.fKey.length:Int))]++v1)⟩:za5),false)
noncomputable def zcp (a0:zab) (a1:List zaa) (v1:List za5) (v2:Int):Option ((List za5 × Int) ⊕ Option (List za5)):=
 if(decide (v2<(a1.length:Int)))then
  (getI a1 v2).bind fun y3=>
  (zgu a0 y3).bind fun v4=>
  if v4.2 then
   req ((((v1).length:Int)+(([v4.1]:List za5).length:Int))*24≤140737488355328∧((v1).length:Int)+(([v4.1]:List za5).length:Int)≤140737488355328)<|
   some (.inl ((v1++ [v4.1]),(IntKind.i64.wrap (v2+1))))
  else
   some (.inl (v1,(IntKind.i64.wrap (v2+1))))
 else
  some (.inr (some v1))
noncomputable def zeI (a0:zab) (a1:List zaa):Option (List za5):=
 zaA (fun s:List za5 × Int=>zcp a0 a1 s.1 s.2) ([],0)
noncomputable def zbB (a0:zab) (a1:zbD) (a2:za5):Option (List UInt8):=
 req ((a0.fName).length+(([46]:List UInt8)).length≤9223372036854775807)<|
 req (((a0.fName++([46]:List UInt8))).length+(a1.fName).length≤9223372036854775807)<|
 req ((((a0.fName++([46]:List UInt8))++a1.fName)).length+(([47]:List UInt8)).length≤9223372036854775807)<|
 (getI a2.fVals a1.fCol).bind fun y1=>
 req (((((a0.fName++([46]:List UInt8))++a1.fName)++([47]:List UInt8))).length+(y1).length≤9223372036854775807)<|
 req ((((((a0.fName++([46]:List UInt8))++a1.fName)++([47]:List UInt8))++y1)).length+(([47]:List UInt8)).length≤9223372036854775807)<|
 (getI a2.fVals 0).bind fun y2=>
 req (((((((a0.fName++([46]:List UInt8))++a1.fName)++([47]:List UInt8))++y1)++([47]:List UInt8))).length+(y2).length≤9223372036854775807)<|
 some ((((((a0.fName++([46]:List UInt8))++a1.fName)++([47]:List UInt8))++y1)++([47]:List UInt8))++y2)
noncomputable def zdC (a0:zak):Option (List UInt8 × zak):=
 (zar a0 ([([97]:List UInt8),([98]:List UInt8),([99]:List UInt8),([109]:List UInt8),([110]:List UInt8),([122]:List UInt8),([114,47,49]:List UInt8),([105,47,120,47,49]:List UInt8)]:List (List UInt8))).bind fun v1=>
 some (v1.1,v1.2)
noncomputable def zdD (a0:zak):Option (List UInt8 × zak):=
 (zar a0 ([([]:List UInt8),([49]:List UInt8),([55]:List UInt8),([49,48]:List UInt8),([45,51]:List UInt8),([120]:List UInt8),([97,44,98,95,99]:List UInt8)]:List (List UInt8))).bind fun v1=>
 some (v1.1,v1.2)
noncomputable def zdk (v6:List Int) (v7:Int) (v8:Int) (v9:List zaa):Option (List zaa × zak):=
 (zaz (⟨v6,v7,v8⟩:zak) 6).bind fun v10=>
 if v10.1 then
  (zdC v10.2).bind fun v11=>
  (zdD v11.2).bind fun v12=>
  (zaT v9 (⟨v11.1,v12.1,false⟩:zaa)).bind fun v13=>
  some (v13,(⟨v12.2.fcode,v12.2.fat,v12.2.fseed⟩:zak))
 else
  some (v9,(⟨v10.2.fcode,v10.2.fat,v10.2.fseed⟩:zak))
noncomputable def zdn (a1:zab) (v14:Int) (y19:zbD) (v21:List Int) (v22:Int) (v23:Int) (v24:List zaa):Option ((Int × List Int × Int × Int × List zaa) ⊕ Option (List zaa × zak)):=
 (zaz (⟨v21,v22,v23⟩:zak) 5).bind fun v25=>
 if v25.1 then
  (zaQ v25.2 a1).bind fun v26=>
  (zbB a1 y19 v26.1).bind fun v27=>
  (zaT v24 (⟨v27,([]:List UInt8),false⟩:zaa)).bind fun v28=>
  some (.inl ((IntKind.i64.wrap (v14+1)),v26.2.fcode,v26.2.fat,v26.2.fseed,v28))
 else
  some (.inl ((IntKind.i64.wrap (v14+1)),v25.2.fcode,v25.2.fat,v25.2.fseed,v24))
noncomputable def zfj (a1:zab) (v14:Int) (y19:zbD) (v20:List za5) (v29:Int) (v30:List Int) (v31:Int) (v32:Int) (v33:List zaa):Option ((Int × List Int × Int × Int × List zaa) ⊕ Option ((Int × List Int × Int × Int × List zaa) ⊕ Option (List zaa × zak))):=
 if(decide (v29<(v20.length:Int)))then
  (getI v20 v29).bind fun y34=>
  (zaz (⟨v30,v31,v32⟩:zak) 5).bind fun v35=>
  if(!v35.1)then
   (zbB a1 y19 y34).bind fun v36=>
   (zaT v33 (⟨v36,([]:List UInt8),false⟩:zaa)).bind fun v37=>
   some (.inl ((IntKind.i64.wrap (v29+1)),v35.2.fcode,v35.2.fat,v35.2.fseed,v37))
  else
   some (.inl ((IntKind.i64.wrap (v29+1)),v35.2.fcode,v35.2.fat,v35.2.fseed,v33))
 else
  some (.inr (zdn a1 v14 y19 v30 v31 v32 v33))
noncomputable def zfh (a1:zab) (v14:Int) (v15:List Int) (v16:Int) (v17:Int) (v18:List zaa):Option ((Int × List Int × Int × Int × List zaa) ⊕ Option (List zaa × zak)):=
 if(decide (v14<(a1.fIdxs.length:Int)))then
  (getI a1.fIdxs v14).bind fun y19=>
  (zeI a1 v18).bind fun v20=>
  zaA (fun s:Int × List Int × Int × Int × List zaa=>zfj a1 v14 y19 v20 s.1 s.2.1 s.2.2.1 s.2.2.2.1 s.2.2.2.2) (0,v15,v16,v17,v18)
 else
  some (.inr (zdk v15 v16 v17 v18))
noncomputable def zda (a1:zab) (v2:List Int) (v3:Int) (v4:Int) (v5:List zaa):Option (List zaa × zak):=
 zaA (fun s:Int × List Int × Int × Int × List zaa=>zfh a1 s.1 s.2.1 s.2.2.1 s.2.2.2.1 s.2.2.2.2) (0,v2,v3,v4,v5)
noncomputable def zfl (a1:zab) (v38:List zaa) (v39:Int) (v40:List Int) (v41:Int) (v42:Int):Option ((List zaa × Int × List Int × Int × Int) ⊕ Option (List zaa × zak)):=
 if(decide (v39>0))then
  (zaQ (⟨v40,v41,v42⟩:zak) a1).bind fun v43=>
  (zbY a1 v43.1).bind fun v44=>
  (zaT v38 v44).bind fun v45=>
  some (.inl (v45,(IntKind.i64.wrap (v39-1)),v43.2.fcode,v43.2.fat,v43.2.fseed))
 else
  some (.inr (zda a1 v40 v41 v42 v38))
noncomputable def zcX (a0:zak) (a1:zab):Option (List zaa × zak):=
 (zag a0 5).bind fun v1=>
 zaA (fun s:List zaa × Int × List Int × Int × Int=>zfl a1 s.1 s.2.1 s.2.2.1 s.2.2.2.1 s.2.2.2.2) ([],v1.1,v1.2.fcode,v1.2.fat,v1.2.fseed)
noncomputable def zbX (a0:zak) (a1:zab):Option (List zaa × zak):=
 (zcX a0 a1).bind fun v1=>
 (zag v1.2 12).bind fun v2=>
 if(v2.1==0)then
  req ((((v1.1).length:Int)+(([(⟨([97]:List UInt8),([33]:List UInt8),false⟩:zaa)]:List zaa).length:Int))*40≤140737488355328∧((v1.1).length:Int)+(([(⟨([97]:List UInt8),([33]:List UInt8),false⟩:zaa)]:List zaa).length:Int)≤140737488355328)<|
  some ((v1.1++ [(⟨([97]:List UInt8),([33]:List UInt8),false⟩:zaa)]),(⟨v2.2.fcode,v2.2.fat,v2.2.fseed⟩:zak))
 else
  if(v2.1==1)then
   req ((a1.fName).length+(([47]:List UInt8)).length≤9223372036854775807)<|
   (zar v2.2 ([([97,98,99,100]:List UInt8),([97]:List UInt8),([49]:List UInt8)]:List (List UInt8))).bind fun v3=>
   req (((a1.fName++([47]:List UInt8))).length+(v3.1).length≤9223372036854775807)<|
   (zar v3.2 ([([120]:List UInt8),([120,44,44,121]:List UInt8),([]:List UInt8),([120,44,121,44,122]:List UInt8)]:List (List UInt8))).bind fun v4=>
   (zaT v1.1 (⟨((a1.fName++([47]:List UInt8))++v3.1),v4.1,false⟩:zaa)).bind fun v5=>
   some (v5,(⟨v4.2.fcode,v4.2.fat,v4.2.fseed⟩:zak))
  else
   if(v2.1==2)then
    if(decide ((v1.1.length:Int)>0))then
     (zag v2.2 (v1.1.length:Int)).bind fun v6=>
     (getI v1.1 v6.1).bind fun y7=>
     some ((v1.1.set (v6.1).toNat {y7 with fGone:=true}),(⟨v6.2.fcode,v6.2.fat,v6.2.fseed⟩:zak))
    else
     some (v1.1,(⟨v2.2.fcode,v2.2.fat,v2.2.fseed⟩:zak))
   else
    if(v2.1==3)then
     req ((a1.fName).length+(([46,105,47]:List UInt8)).length≤9223372036854775807)<|
     (zar v2.2 ([([120]:List UInt8),([120,47,49,47,50]:List UInt8),([47,49]:List UInt8),([97,98,99,100,47,49]:List UInt8)]:List (List UInt8))).bind fun v8=>
     req (((a1.fName++([46,105,47]:List UInt8))).length+(v8.1).length≤9223372036854775807)<|
     (zaT v1.1 (⟨((a1.fName++([46,105,47]:List UInt8))++v8.1),([]:List UInt8),false⟩:zaa)).bind fun v9=>
     some (v9,(⟨v8.2.fcode,v8.2.fat,v8.2.fseed⟩:zak))
    else
     some (v1.1,(⟨v2.2.fcode,v2.2.fat,v2.2.fseed⟩:zak))
noncomputable def zcF (a1:zab) (v3:List Int) (v4:Int) (v5:Int) (v6:List (List UInt8)):Option (zae × zak):=
 (zag (⟨v3,v4,v5⟩:zak) 3).bind fun v7=>
 if(v7.1==0)then
  (zaQ v7.2 a1).bind fun v8=>
  some ((⟨1,(⟨[]⟩:za5),v8.1⟩:zae),v8.2)
 else
  if(v7.1==1)then
   some ((⟨2,(⟨v6⟩:za5),(⟨[]⟩:za5)⟩:zae),v7.2)
  else
   (zaQ v7.2 a1).bind fun v9=>
   (getI v6 0).bind fun y10=>
   (getI v9.1.fVals 0).bind fun y11=>
   some ((⟨3,(⟨v6⟩:za5),(⟨(v9.1.fVals.set ((0:Int)).toNat y10)⟩:za5)⟩:zae),v9.2)
noncomputable def zcE (a1:zab) (v1:List za5) (v2:za5 × zak) (v12:Bool) (v13:List Int) (v14:Int) (v15:Int):Option (zae × zak):=
 if v12 then
  (zag (⟨v13,v14,v15⟩:zak) (v1.length:Int)).bind fun v16=>
  (getI v1 v16.1).bind fun y17=>
  zcF a1 v16.2.fcode v16.2.fat v16.2.fseed y17.fVals
 else
  zcF a1 v13 v14 v15 v2.1.fVals
noncomputable def zdx (a0:zak) (a1:zab) (a2:List zaa):Option (zae × zak):=
 (zeI a1 a2).bind fun v1=>
 (zaQ a0 a1).bind fun v2=>
 if(decide ((v1.length:Int)>0))then
  (zaz v2.2 4).bind fun v18=>
  zcE a1 v1 v2 (!v18.1) v18.2.fcode v18.2.fat v18.2.fseed
 else
  zcE a1 v1 v2 false v2.2.fcode v2.2.fat v2.2.fseed
noncomputable def za6 (a0:zak) (a1:zab):Option (za5 × zak):=
 (zaQ a0 a1).bind fun v1=>
 (zag v1.2 10).bind fun v2=>
 if(v2.1==0)then
  (zag v2.2 (v1.1.fVals.length:Int)).bind fun v3=>
  (zar v3.2 ([([]:List UInt8),([97,98,99,100]:List UInt8),([45]:List UInt8),([65]:List UInt8)]:List (List UInt8))).bind fun v4=>
  (getI v1.1.fVals v3.1).bind fun y5=>
  some ((⟨(v1.1.fVals.set (v3.1).toNat v4.1)⟩:za5),(⟨v4.2.fcode,v4.2.fat,v4.2.fseed⟩:zak))
 else
  if(v2.1==1)then
   req ((((v1.1.fVals).length:Int)+(([([120]:List UInt8)]:List (List UInt8)).length:Int))*16≤140737488355328∧((v1.1.fVals).length:Int)+(([([120]:List UInt8)]:List (List UInt8)).length:Int)≤140737488355328)<|
   some ((⟨(v1.1.fVals++ [([120]:List UInt8)])⟩:za5),(⟨v2.2.fcode,v2.2.fat,v2.2.fseed⟩:zak))
  else
   if(v2.1==2)then
    some ((⟨[]⟩:za5),(⟨v2.2.fcode,v2.2.fat,v2.2.fseed⟩:zak))
   else
    some ((⟨v1.1.fVals⟩:za5),(⟨v2.2.fcode,v2.2.fat,v2.2.fseed⟩:zak))
noncomputable def zci (a0:zak) (a1:zab) (a2:List zaa):Option (zae × zak):=
 (zdx a0 a1 a2).bind fun v1=>
 (zag v1.2 10).bind fun v2=>
 if(v2.1==0)then
  (zag v2.2 5).bind fun v3=>
  some ((⟨v3.1,(⟨v1.1.fOld.fVals⟩:za5),(⟨v1.1.fNew.fVals⟩:za5)⟩:zae),(⟨v3.2.fcode,v3.2.fat,v3.2.fseed⟩:zak))
 else
  if(v2.1==1)then
   (za6 v2.2 a1).bind fun v4=>
   some ((⟨v1.1.fKind,(⟨v1.1.fOld.fVals⟩:za5),(⟨v4.1.fVals⟩:za5)⟩:zae),(⟨v4.2.fcode,v4.2.fat,v4.2.fseed⟩:zak))
  else
   if(v2.1==2)then
    (za6 v2.2 a1).bind fun v5=>
    some ((⟨v1.1.fKind,(⟨v5.1.fVals⟩:za5),(⟨v1.1.fNew.fVals⟩:za5)⟩:zae),(⟨v5.2.fcode,v5.2.fat,v5.2.fseed⟩:zak))
   else
    some ((⟨v1.1.fKind,(⟨v1.1.fOld.fVals⟩:za5),(⟨v1.1.fNew.fVals⟩:za5)⟩:zae),(⟨v2.2.fcode,v2.2.fat,v2.2.fseed⟩:zak))
noncomputable def zbe (a0:zak):Option (zab × zak):=
 (zbn a0).bind fun v1=>
 (zag v1.2 14).bind fun v2=>
 if(v2.1==0)then
  (zar v2.2 ([([]:List UInt8),([116,116]:List UInt8),([84]:List UInt8)]:List (List UInt8))).bind fun v3=>
  some ((⟨v3.1,v1.1.fCols,v1.1.fIdxs⟩:zab),(⟨v3.2.fcode,v3.2.fat,v3.2.fseed⟩:zak))
 else
  if(v2.1==1)then
   (zar v2.2 ([([97]:List UInt8),([97,98,99,100]:List UInt8),([]:List UInt8),([100]:List UInt8)]:List (List UInt8))).bind fun v4=>
   req ((((v1.1.fCols).length:Int)+(([v4.1]:List (List UInt8)).length:Int))*16≤140737488355328∧((v1.1.fCols).length:Int)+(([v4.1]:List (List UInt8)).length:Int)≤140737488355328)<|
   some ((⟨v1.1.fName,(v1.1.fCols++ [v4.1]),v1.1.fIdxs⟩:zab),(⟨v4.2.fcode,v4.2.fat,v4.2.fseed⟩:zak))
  else
   if(v2.1==2)then
    req (0≤(0:Int)∧(0:Int)≤1∧(1:Int)≤(v1.1.fCols.length:Int))<|
    some ((⟨v1.1.fName,(zd8 v1.1.fCols 0 1),v1.1.fIdxs⟩:zab),(⟨v2.2.fcode,v2.2.fat,v2.2.fseed⟩:zak))
   else
    if(v2.1==3)then
     (zar v2.2 ([([97]:List UInt8),([122]:List UInt8),([122,122]:List UInt8)]:List (List UInt8))).bind fun v5=>
     (zag v5.2 5).bind fun v6=>
     (zag v6.2 5).bind fun v7=>
     req ((((v1.1.fIdxs).length:Int)+(([(⟨v5.1,v6.1,(IntKind.i64.wrap (v7.1-1))⟩:zbD)]:List zbD).length:Int))*32≤140737488355328∧((v1.1.fIdxs).length:Int)+(([(⟨v5.1,v6.1,(IntKind.i64.wrap (v7.1-1))⟩:zbD)]:List zbD).length:Int)≤140737488355328)<|
     some ((⟨v1.1.fName,v1.1.fCols,(v1.1.fIdxs++ [(⟨v5.1,v6.1,(IntKind.i64.wrap (v7.1-1))⟩:zbD)])⟩:zab),(⟨v7.2.fcode,v7.2.fat,v7.2.fseed⟩:zak))
    else
     some ((⟨v1.1.fName,v1.1.fCols,v1.1.fIdxs⟩:zab),(⟨v2.2.fcode,v2.2.fat,v2.2.fseed⟩:zak))
noncomputable def zdO (a0:List Int):Option (zab × List zaa × zae):=
 (zbn (⟨a0,0,0⟩:zak)).bind fun v1=>
 (zbX v1.2 v1.1).bind fun v2=>
 (zci v2.2 v1.1 v2.1).bind fun v3=>
 (zaz v3.2 12).bind fun v4=>
 if v4.1 then
  (zbe v4.2).bind fun v5=>
  some ((⟨v5.1.fName,v5.1.fCols,v5.1.fIdxs⟩:zab),v2.1,v3.1)
 else
  some ((⟨v1.1.fName,v1.1.fCols,v1.1.fIdxs⟩:zab),v2.1,v3.1)
noncomputable def zeC (a0:List UInt8) (a1:Int):Option (Bool):=
 some ((decide ((a0.length:Int)≥1))&&(decide ((a0.length:Int)≤a1)))
noncomputable def zeA (a0:List UInt8) (a1:Int) (v1:Int):Option ((Int) ⊕ Option (Bool)):=
 if(decide (v1<(a0.length:Int)))then
  (getI a0 v1).bind fun y2=>
  if((decide ((y2.toNat:Int)<97))||(decide ((y2.toNat:Int)>122)))then
   some (.inr (some false))
  else
   some (.inl (IntKind.i64.wrap (v1+1)))
 else
  some (.inr (zeC a0 a1))
noncomputable def zco (a0:List UInt8) (a1:Int):Option (Bool):=
 zaA (fun s:Int=>zeA a0 a1 s) 0
noncomputable def zhJ (a0:List (List UInt8)) (a1:List UInt8) (v1:Int):Option ((Int) ⊕ Option (Int)):=
 if(decide (v1<(a0.length:Int)))then
  (getI a0 v1).bind fun y2=>
  if(y2==a1)then
   some (.inr (some v1))
  else
   some (.inl (IntKind.i64.wrap (v1+1)))
 else
  some (.inr (some (-1)))
noncomputable def zgM (a0:List (List UInt8)) (a1:List UInt8):Option (Int):=
 zaA (fun s:Int=>zhJ a0 a1 s) 0
noncomputable def zgk (a0:List (List UInt8)):Option (Bool):=
 (zbw (a0.length:Int) 2 4).bind fun v1=>
 some v1
noncomputable def zgm (a0:List (List UInt8)) (v2:Int):Option ((Int) ⊕ Option (Bool)):=
 if(decide (v2<(a0.length:Int)))then
  (getI a0 v2).bind fun y3=>
  (zco y3 3).bind fun v4=>
  if v4 then
   req (0≤(0:Int)∧(0:Int)≤v2∧v2≤(a0.length:Int))<|
   (zgM (zd8 a0 0 v2) y3).bind fun v5=>
   if(decide (v5≥0))then
    some (.inr (some false))
   else
    some (.inl (IntKind.i64.wrap (v2+1)))
  else
   some (.inr (some false))
 else
  some (.inr (zgk a0))
noncomputable def zgH (a0:List (List UInt8)):Option (Bool):=
 zaA (fun s:Int=>zgm a0 s) 0
noncomputable def zdu (a0:zab) (v3:Int):Option ((Int) ⊕ Option (Bool)):=
 if(decide (v3<(a0.fIdxs.length:Int)))then
  (getI a0.fIdxs v3).bind fun y4=>
  (zco y4.fName 1).bind fun v5=>
  if v5 then
   (zbw y4.fCol 1 (IntKind.i64.wrap ((a0.fCols.length:Int)-1))).bind fun v6=>
   if v6 then
    (zbw y4.fStage 0 3).bind fun v7=>
    if(decide (v3>0))then
     if v7 then
      (getI a0.fIdxs (IntKind.i64.wrap (v3-1))).bind fun y8=>
      if(!Op.bytesLess y8.fName y4.fName)then
       some (.inr (some false))
      else
       some (.inl (IntKind.i64.wrap (v3+1)))
     else
      some (.inr (some false))
    else
     if((!v7)||false)then
      some (.inr (some false))
     else
      some (.inl (IntKind.i64.wrap (v3+1)))
   else
    some (.inr (some false))
  else
   some (.inr (some false))
 else
  some (.inr (some true))
noncomputable def zcc (a0:zab):Option (Bool):=
 (zco a0.fName 1).bind fun v1=>
 if v1 then
  (zgH a0.fCols).bind fun v2=>
  if((!v2)||(decide ((a0.fIdxs.length:Int)>3)))then
   some false
  else
   zaA (fun s:Int=>zdu a0 s) 0
 else
  some false
noncomputable def zg2 (a0:zab) (a1:List UInt8) (v1:Int):Option ((Int) ⊕ Option (Int)):=
 if(decide (v1<(a0.fIdxs.length:Int)))then
  (getI a0.fIdxs v1).bind fun y2=>
  if(y2.fName==a1)then
   some (.inr (some v1))
  else
   some (.inl (IntKind.i64.wrap (v1+1)))
 else
  some (.inr (some (-1)))
noncomputable def zdz (a0:zab) (a1:List UInt8):Option (Int):=
 zaA (fun s:Int=>zg2 a0 a1 s) 0
noncomputable def zhR (a0:zab) (a1:List UInt8) (a2:Int):Option (Bool):=
 (zcc a0).bind fun v1=>
 if v1 then
  (zdz a0 a1).bind fun v2=>
  if(decide (v2≥0))then
   (zbw a2 0 3).bind fun v3=>
   some v3
  else
   some false
 else
  some false
noncomputable def zhs (a0:zab):Option (zab):=
 req (((([]:List (List UInt8)).length:Int)+((a0.fCols).length:Int))*16≤140737488355328∧(([]:List (List UInt8)).length:Int)+((a0.fCols).length:Int)≤140737488355328)<|
 req (((([]:List zbD).length:Int)+((a0.fIdxs).length:Int))*32≤140737488355328∧(([]:List zbD).length:Int)+((a0.fIdxs).length:Int)≤140737488355328)<|
 some a0
noncomputable def zhn (a0:zab) (a1:List UInt8) (a2:Int):Option (zab):=
 (zhs a0).bind fun v1=>
 (zdz a0 a1).bind fun v2=>
 (getI v1.fIdxs v2).bind fun y3=>
 some (⟨v1.fName,v1.fCols,(v1.fIdxs.set (v2).toNat {y3 with fStage:=a2})⟩:zab)
noncomputable def zhP (a0:zab) (a1:List UInt8) (a2:Int):Option (zab × Bool):=
 (zhR a0 a1 a2).bind fun v1=>
 if(!v1)then
  some ((⟨([]:List UInt8), [], []⟩:zab),false)
 else
  (zhn a0 a1 a2).bind fun v2=>
  some (v2,true)
noncomputable def zck (a0:zab) (a1:Int):Option (zab × List UInt8 × Bool):=
 if((a0.fIdxs.length:Int)==0)then
  some ((⟨([]:List UInt8), [], []⟩:zab),([]:List UInt8),false)
 else
  (getI a0.fIdxs 0).bind fun y1=>
  (zhP a0 y1.fName a1).bind fun v2=>
  some (v2.1,y1.fName,v2.2)
noncomputable def zbU (a0:Int) (a1:Int) (a2:Int):Option (Bool):=
 some ((decide (a0≥a1))&&(decide (a0≤a2)))
noncomputable def zeD (a0:List UInt8) (a1:Int):Option (Bool):=
 (zbU (a0.length:Int) 1 a1).bind fun v1=>
 some v1
noncomputable def zeE (a0:List UInt8) (a1:Int) (v2:Int):Option ((Int) ⊕ Option (Bool)):=
 if(decide (v2<(a0.length:Int)))then
  (getI a0 v2).bind fun y3=>
  if((decide ((y3.toNat:Int)<97))||(decide ((y3.toNat:Int)>122)))then
   some (.inr (some false))
  else
   some (.inl (IntKind.i64.wrap (v2+1)))
 else
  some (.inr (zeD a0 a1))
noncomputable def zcn (a0:List UInt8) (a1:Int):Option (Bool):=
 zaA (fun s:Int=>zeE a0 a1 s) 0
noncomputable def zbs (a0:List (List UInt8)) (a1:List UInt8) (v1:Int):Option ((Int) ⊕ Option (Int)):=
 if(decide (v1<(a0.length:Int)))then
  (getI a0 v1).bind fun y2=>
  if(a1==y2)then
   some (.inr (some v1))
  else
   some (.inl (IntKind.i64.wrap (v1+1)))
 else
  some (.inr (some (-1)))
noncomputable def za8 (a0:List (List UInt8)) (a1:List UInt8):Option (Int):=
 zaA (fun s:Int=>zbs a0 a1 s) 0
noncomputable def zaD (a0:List (List UInt8)) (a1:List UInt8):Option (Bool):=
 (za8 a0 a1).bind fun v1=>
 some (decide (v1≥0))
noncomputable def zeN (a0:Int):Option (Bool):=
 (zbU a0 0 3).bind fun v1=>
 some v1
noncomputable def zdy (a0:zab) (v3:Int):Option ((Int) ⊕ Option (Bool)):=
 if(decide (v3<(a0.fIdxs.length:Int)))then
  (getI a0.fIdxs v3).bind fun y4=>
  (zcn y4.fName 1).bind fun v5=>
  if v5 then
   (zbU y4.fCol 1 (IntKind.i64.wrap ((a0.fCols.length:Int)-1))).bind fun v6=>
   if v6 then
    (zeN y4.fStage).bind fun v7=>
    if(decide (v3>0))then
     if v7 then
      (getI a0.fIdxs (IntKind.i64.wrap (v3-1))).bind fun y8=>
      if(Op.bytesLess y4.fName y8.fName||y4.fName==y8.fName)then
       some (.inr (some false))
      else
       some (.inl (IntKind.i64.wrap (v3+1)))
     else
      some (.inr (some false))
    else
     if((!v7)||false)then
      some (.inr (some false))
     else
      some (.inl (IntKind.i64.wrap (v3+1)))
   else
    some (.inr (some false))
  else
   some (.inr (some false))
 else
  some (.inr (some true))
noncomputable def ze8 (a0:zab):Option (Bool):=
 zaA (fun s:Int=>zdy a0 s) 0
noncomputable def zdF (a0:zab) (v9:Int):Option ((Int) ⊕ Option (Bool)):=
 if(decide (v9<(a0.fCols.length:Int)))then
  (getI a0.fCols v9).bind fun y10=>
  (zcn y10 3).bind fun v11=>
  if v11 then
   req (0≤(0:Int)∧(0:Int)≤v9∧v9≤(a0.fCols.length:Int))<|
   (zaD (zd8 a0.fCols 0 v9) y10).bind fun v12=>
   if v12 then
    some (.inr (some false))
   else
    some (.inl (IntKind.i64.wrap (v9+1)))
  else
   some (.inr (some false))
 else
  some (.inr (ze8 a0))
noncomputable def zb9 (a0:zab):Option (Bool):=
 (zcn a0.fName 1).bind fun v1=>
 if v1 then
  (zbU (a0.fCols.length:Int) 2 4).bind fun v2=>
  if((!v2)||(decide ((a0.fIdxs.length:Int)>3)))then
   some false
  else
   zaA (fun s:Int=>zdF a0 s) 0
 else
  some false
noncomputable def zej (a0:Int):Option (Bool):=
 some (((decide (a0≥97))&&(decide (a0≤122)))||((decide (a0≥48))&&(decide (a0≤57))))
noncomputable def zfe (a0:List UInt8) (a1:Int):Option (Int):=
 (za0 a0 a1).bind fun v1=>
 some v1
noncomputable def zft (a0:List UInt8) (a1:List UInt8) (v1:Int):Option ((Int) ⊕ Option (Bool)):=
 if(decide (v1<(a0.length:Int)))then
  (getI a0 v1).bind fun y2=>
  (zej (y2.toNat:Int)).bind fun v3=>
  if v3 then
   some (.inl (IntKind.i64.wrap (v1+1)))
  else
   (zfe a1 (y2.toNat:Int)).bind fun v4=>
   if(decide (v4<0))then
    some (.inr (some false))
   else
    some (.inl (IntKind.i64.wrap (v1+1)))
 else
  some (.inr (some true))
noncomputable def zde (a0:List UInt8) (a1:List UInt8):Option (Bool):=
 zaA (fun s:Int=>zft a0 a1 s) 0
noncomputable def zdR (a0:List UInt8):Option (Bool):=
 (zbU (a0.length:Int) 1 3).bind fun v1=>
 if v1 then
  (zde a0 ([]:List UInt8)).bind fun v2=>
  some v2
 else
  some false
noncomputable def zcG (a0:List UInt8):Option (Bool):=
 (zdR a0).bind fun v1=>
 some (!v1)
noncomputable def zaL (a0:zab) (a1:za5):Option (Bool):=
 if((a1.fVals.length:Int)==(a0.fCols.length:Int))then
  (zbd a1.fVals (fun y0_=>zcG y0_)).bind fun v1=>
  some (!v1)
 else
  some false
noncomputable def zcj (a0:zab) (a1:zae):Option (Bool):=
 if(a1.fKind==1)then
  if((a1.fOld.fVals.length:Int)==0)then
   (zaL a0 a1.fNew).bind fun v1=>
   some v1
  else
   some false
 else
  if(a1.fKind==2)then
   (zaL a0 a1.fOld).bind fun v2=>
   some (v2&&((a1.fNew.fVals.length:Int)==0))
  else
   if(a1.fKind==3)then
    (zaL a0 a1.fOld).bind fun v3=>
    if v3 then
     (zaL a0 a1.fNew).bind fun v4=>
     if v4 then
      (getI a1.fOld.fVals 0).bind fun y5=>
      (getI a1.fNew.fVals 0).bind fun y6=>
      some (y5==y6)
     else
      some false
    else
     some false
   else
    some false
noncomputable def zdS (a0:zab) (a1:zae):Option (Bool):=
 (zb9 a0).bind fun v1=>
 if v1 then
  (zcj a0 a1).bind fun v2=>
  some v2
 else
  some false
noncomputable def zbS (a0:List zaa) (v1:Int) (v2:List (List UInt8)):Option ((Int × List (List UInt8)) ⊕ Option (List (List UInt8))):=
 if(decide (v1<(a0.length:Int)))then
  (getI a0 v1).bind fun y3=>
  req ((((v2).length:Int)+(([y3.fKey]:List (List UInt8)).length:Int))*16≤140737488355328∧((v2).length:Int)+(([y3.fKey]:List (List UInt8)).length:Int)≤140737488355328)<|
  some (.inl ((IntKind.i64.wrap (v1+1)),(v2++ [y3.fKey])))
 else
  some (.inr (some v2))
noncomputable def ze4 (a0:List zaa):Option (List (List UInt8)):=
 zaA (fun s:Int × List (List UInt8)=>zbS a0 s.1 s.2) (0, [])
noncomputable def zgy (a0:List UInt8):Option (Bool):=
 (zbU (a0.length:Int) 1 12).bind fun v1=>
 if v1 then
  (zde a0 ([46,47]:List UInt8)).bind fun v2=>
  some v2
 else
  some false
noncomputable def zfa (a0:List (List UInt8)) (v1:Int):Option ((Int) ⊕ Option (Bool)):=
 if(decide (v1<(a0.length:Int)))then
  (getI a0 v1).bind fun y2=>
  (zgy y2).bind fun v3=>
  if(decide (v1>0))then
   if v3 then
    (getI a0 (IntKind.i64.wrap (v1-1))).bind fun y4=>
    if(Op.bytesLess y2 y4||y2==y4)then
     some (.inr (some false))
    else
     some (.inl (IntKind.i64.wrap (v1+1)))
   else
    some (.inr (some false))
  else
   if((!v3)||false)then
    some (.inr (some false))
   else
    some (.inl (IntKind.i64.wrap (v1+1)))
 else
  some (.inr (some true))
noncomputable def ze6 (a0:List (List UInt8)):Option (Bool):=
 zaA (fun s:Int=>zfa a0 s) 0
noncomputable def zgw (a0:List UInt8):Option (Bool):=
 if(decide ((a0.length:Int)≤24))then
  (zde a0 ([46,45,44,95]:List UInt8)).bind fun v1=>
  some v1
 else
  some false
noncomputable def zfA (a0:List UInt8) (a1:Bool):Option (Bool):=
 (zgw a0).bind fun v1=>
 some (v1&&(!(a1&&(a0 !=([]:List UInt8)))))
noncomputable def zds (a0:zaa):Option (Bool):=
 (zfA a0.fVal a0.fGone).bind fun v1=>
 some (!v1)
noncomputable def zen (a0:List zaa):Option (Bool):=
 if(decide ((a0.length:Int)≤24))then
  (ze4 a0).bind fun v1=>
  (ze6 v1).bind fun v2=>
  if v2 then
   (zbd a0 (fun y0_=>zds y0_)).bind fun v3=>
   some (!v3)
  else
   some false
 else
  some false
noncomputable def zfO (a0:zaa):Option (Bool):=
 some a0.fGone
noncomputable def zex (a0:List zaa):Option (Bool):=
 (zen a0).bind fun v1=>
 if v1 then
  (zbd a0 (fun y0_=>zfO y0_)).bind fun v2=>
  some (!v2)
 else
  some false
noncomputable def za7 (a0:zab) (a1:za5):Option (zaa):=
 req ((a0.fName).length+(([47]:List UInt8)).length≤9223372036854775807)<|
 (getI a1.fVals 0).bind fun y1=>
 req (((a0.fName++([47]:List UInt8))).length+(y1).length≤9223372036854775807)<|
 req (0≤(1:Int)∧(1:Int)≤(a1.fVals.length:Int)∧(a1.fVals.length:Int)≤(a1.fVals.length:Int))<|
 (zgK (zd8 a1.fVals 1 (a1.fVals.length:Int)) ([44]:List UInt8)).bind fun v2=>
 some (⟨((a0.fName++([47]:List UInt8))++y1),v2,false⟩:zaa)
noncomputable def zav (a0:Int) (a1:zaa) (a2:List DOp):Option (Unit × List DOp):=
 req ((((a2).length:Int)+(([(⟨a0,a1.fKey,a1.fVal,0⟩:DOp)]:List DOp).length:Int))*48≤140737488355328∧((a2).length:Int)+(([(⟨a0,a1.fKey,a1.fVal,0⟩:DOp)]:List DOp).length:Int)≤140737488355328)<|
 some ((),(a2++ [(⟨a0,a1.fKey,a1.fVal,0⟩:DOp)]))
noncomputable def zbK (a0:zab) (a1:List UInt8):Option (List UInt8):=
 req ((a0.fName).length+(([46]:List UInt8)).length≤9223372036854775807)<|
 req (((a0.fName++([46]:List UInt8))).length+(a1).length≤9223372036854775807)<|
 req ((((a0.fName++([46]:List UInt8))++a1)).length+(([47]:List UInt8)).length≤9223372036854775807)<|
 some (((a0.fName++([46]:List UInt8))++a1)++([47]:List UInt8))
noncomputable def zdl (a0:zbD) (a1:List UInt8):Option (Bool):=
 some (a0.fName==a1)
noncomputable def zbM (a0:zab) (a1:List UInt8):Option (Int):=
 (zbk a0.fIdxs (fun y0_=>zdl y0_ a1)).bind fun v1=>
 some v1
noncomputable def zd0 (a0:zab) (a1:List UInt8):Option (zbD):=
 (zbM a0 a1).bind fun v1=>
 (getI a0.fIdxs v1).bind fun y2=>
 some y2
noncomputable def zaP (a0:zab) (a1:List UInt8) (a2:za5):Option (List UInt8):=
 (zbK a0 a1).bind fun v1=>
 (zd0 a0 a1).bind fun v2=>
 (getI a2.fVals v2.fCol).bind fun y3=>
 req ((v1).length+(y3).length≤9223372036854775807)<|
 req (((v1++y3)).length+(([47]:List UInt8)).length≤9223372036854775807)<|
 (getI a2.fVals 0).bind fun y4=>
 req ((((v1++y3)++([47]:List UInt8))).length+(y4).length≤9223372036854775807)<|
 some (((v1++y3)++([47]:List UInt8))++y4)
noncomputable def zeR (a0:Int):Option (Bool):=
 some (decide (a0≥1))
noncomputable def zeK (a0:Int):Option (Bool):=
 some (decide (a0≥2))
noncomputable def zaZ (v9:Int) (y11:zbD) (v13:List UInt8) (v14:List DOp):Option ((Int × List DOp) ⊕ Option (List DOp)):=
 if(v13 !=([]:List UInt8))then
  (zeK y11.fStage).bind fun v15=>
  if v15 then
   (zav 2 (⟨v13,([]:List UInt8),false⟩:zaa) v14).bind fun v16=>
   some (.inl ((IntKind.i64.wrap (v9+1)),v16.2))
  else
   some (.inl ((IntKind.i64.wrap (v9+1)),v14))
 else
  some (.inl ((IntKind.i64.wrap (v9+1)),v14))
noncomputable def zaN (v9:Int) (v10:List DOp) (y11:zbD) (v12:List UInt8) (v13:List UInt8):Option ((Int × List DOp) ⊕ Option (List DOp)):=
 if(v12 !=([]:List UInt8))then
  if(v12 !=v13)then
   (zeR y11.fStage).bind fun v17=>
   if v17 then
    (zav 3 (⟨v12,([]:List UInt8),false⟩:zaa) v10).bind fun v18=>
    zaZ v9 y11 v13 v18.2
   else
    zaZ v9 y11 v13 v10
  else
   zaZ v9 y11 v13 v10
 else
  zaZ v9 y11 v13 v10
noncomputable def zdi (a0:zab) (a1:zae) (v9:Int) (v10:List DOp) (y11:zbD) (v12:List UInt8):Option ((Int × List DOp) ⊕ Option (List DOp)):=
 if(a1.fKind !=2)then
  (zaP a0 y11.fName a1.fNew).bind fun v19=>
  zaN v9 v10 y11 v12 v19
 else
  zaN v9 v10 y11 v12 ([]:List UInt8)
noncomputable def zaX (a0:zab) (a1:zae) (v9:Int) (v10:List DOp):Option ((Int × List DOp) ⊕ Option (List DOp)):=
 if(decide (v9<(a0.fIdxs.length:Int)))then
  (getI a0.fIdxs v9).bind fun y11=>
  zwq (σ:=List UInt8) (
   if(a1.fKind !=1)then
    (zaP a0 y11.fName a1.fOld).bind fun v20=>
    some (.inl v20)
   else
    some (.inl ([]:List UInt8))
  ) (fun s=>zdi a0 a1 v9 v10 y11 s)
 else
  some (.inr (some v10))
noncomputable def zaY (a0:zab) (a1:zae) (v8:List DOp):Option (List DOp):=
 zaA (fun s:Int × List DOp=>zaX a0 a1 s.1 s.2) (0,v8)
noncomputable def zbq (a0:zab) (a1:zae) (v1:List UInt8) (v4:List DOp) (v5:List UInt8) (v6:List UInt8) (v7:Bool):Option (List DOp):=
 if(a1.fKind==1)then
  (zav 6 (⟨v5,([]:List UInt8),false⟩:zaa) v4).bind fun v21=>
  (zav 2 (⟨v5,v6,v7⟩:zaa) v21.2).bind fun v22=>
  zaY a0 a1 v22.2
 else
  if(a1.fKind==2)then
   (zav 3 (⟨v1,([]:List UInt8),false⟩:zaa) v4).bind fun v23=>
   zaY a0 a1 v23.2
  else
   if(a1.fKind==3)then
    (zav 2 (⟨v5,v6,v7⟩:zaa) v4).bind fun v24=>
    zaY a0 a1 v24.2
   else
    zaY a0 a1 v4
noncomputable def zaM (a0:zab) (a1:zae) (v1:List UInt8) (v2:List UInt8) (v3:Bool) (v4:List DOp):Option (List DOp):=
 if(a1.fKind !=2)then
  (za7 a0 a1.fNew).bind fun v25=>
  zbq a0 a1 v1 v4 v25.fKey v25.fVal v25.fGone
 else
  zbq a0 a1 v1 v4 ([]:List UInt8) ([]:List UInt8) false
noncomputable def zb2 (a0:zab) (a1:zae):Option (List DOp):=
 zwq (σ:=List UInt8 × List UInt8 × Bool × List DOp) (
  if(a1.fKind !=1)then
   (za7 a0 a1.fOld).bind fun v26=>
   (zav 7 v26 ([]:List DOp)).bind fun v27=>
   some (.inl (v26.fKey,v26.fVal,v26.fGone,v27.2))
  else
   some (.inl (([]:List UInt8),([]:List UInt8),false, []))
 ) (fun s=>zaM a0 a1 s.1 s.2.1 s.2.2.1 s.2.2.2)
noncomputable def zat (a0:List zaa) (a1:List UInt8) (a2:zaa→(List UInt8)→Option Int) (v1:Int):Option (Int × Bool):=
 if(decide (v1<(a0.length:Int)))then
  (getI a0 v1).bind fun y2=>
  (a2 y2 a1).bind fun v3=>
  some (v1,(v3==0))
 else
  some (v1,false)
noncomputable def zaf (a0:List zaa) (a1:List UInt8) (a2:zaa→(List UInt8)→Option Int) (v4:Int) (v5:Int):Option ((Int × Int) ⊕ Option (Int × Bool)):=
 if(decide (v4<v5))then
  (getI a0 (IntKind.i64.wrap (Int.fdiv (IntKind.u64.wrap (IntKind.i64.wrap (v4+v5))) (2^(min ((1:Int)).toNat (IntKind.bits .u64)))))).bind fun y6=>
  (a2 y6 a1).bind fun v7=>
  if(decide (v7<0))then
   some (.inl ((IntKind.i64.wrap ((IntKind.i64.wrap (Int.fdiv (IntKind.u64.wrap (IntKind.i64.wrap (v4+v5))) (2^(min ((1:Int)).toNat (IntKind.bits .u64)))))+1)),v5))
  else
   some (.inl (v4,(IntKind.i64.wrap (Int.fdiv (IntKind.u64.wrap (IntKind.i64.wrap (v4+v5))) (2^(min ((1:Int)).toNat (IntKind.bits .u64)))))))
 else
  some (.inr (zat a0 a1 a2 v4))
noncomputable def zaw (a0:List zaa) (a1:List UInt8) (a2:zaa→(List UInt8)→Option Int):Option (Int × Bool):=
 zaA (fun s:Int × Int=>zaf a0 a1 a2 s.1 s.2) (0,(a0.length:Int))
noncomputable def zcz (a0:List UInt8):Option (Bool):=
 some (a0 !=a0)
noncomputable def zcV (a0:List UInt8) (a1:List UInt8):Option (Int):=
 (zcz a0).bind fun v1=>
 (zcz a1).bind fun v2=>
 if v1 then
  if v2 then
   some 0
  else
   some (-1)
 else
  if v2 then
   some 1
  else
   if(Op.bytesLess a0 a1)then
    some (-1)
   else
    if(!(Op.bytesLess a0 a1||a0==a1))then
     some 1
    else
     some 0
noncomputable def zb7 (a0:zaa) (a1:List UInt8):Option (Int):=
 (zcV a0.fKey a1).bind fun v1=>
 some v1
noncomputable def zbF (a0:List zaa) (a1:List UInt8):Option (Int × Bool):=
 (zaw a0 a1 (fun y0_ y1_=>zb7 y0_ y1_)).bind fun v1=>
 some (v1.1,v1.2)
noncomputable def zcB (a0:List zaa) (a1:zaa):Option (List zaa):=
 (zbF a0 a1.fKey).bind fun v1=>
 if v1.2 then
  (getI a0 v1.1).bind fun y2=>
  some (a0.set (v1.1).toNat a1)
 else
  (znN a0 v1.1 ([a1]:List zaa)).bind fun v3=>
  some v3
noncomputable def zct (a0:List UInt8) (a2:List zf4) (v3:Int):Option ((Int) ⊕ Option (List UInt8 × Bool × Bool)):=
 if(decide (v3<(a2.length:Int)))then
  (getI a2 v3).bind fun y4=>
  if(y4.fKey==a0)then
   some (.inr (some (y4.fVal,y4.fThere,true)))
  else
   some (.inl (IntKind.i64.wrap (v3+1)))
 else
  some (.inr (some (([]:List UInt8),false,false)))
noncomputable def zgt (a0:List UInt8) (a1:List zaa) (a2:List zf4):Option (List UInt8 × Bool × Bool):=
 (zbF a1 a0).bind fun v1=>
 if v1.2 then
  (getI a1 v1.1).bind fun y2=>
  some (y2.fVal,(!y2.fGone),true)
 else
  zaA (fun s:Int=>zct a0 a2 s) 0
noncomputable def zed (a0:List UInt8):Option (Int × Bool):=
 (zgB a0 (-999999) 999999).bind fun v1=>
 some (v1.1,v1.2)
noncomputable def zet (a0:DOp) (a1:List UInt8) (a2:Bool):Option (Bool):=
 (zed a1).bind fun v1=>
 if(a0.fKind==4)then
  if v1.2 then
   if a2 then
    (zbU (IntKind.i64.wrap (v1.1+a0.fBy)) (-999999) 999999).bind fun v2=>
    some v2
   else
    some true
  else
   some ((!a2)||false)
 else
  if(a0.fKind==5)then
   some ((a2&&v1.2)&&(decide (v1.1≥a0.fBy)))
  else
   if(a0.fKind==6)then
    some (!a2)
   else
    if(a0.fKind==7)then
     some (a2&&(a1==a0.fVal))
    else
     some true
noncomputable def zay (a0:List DOp) (a1:List zf4) (v1:Int) (v2:List zaa):Option ((Int × List zaa) ⊕ Option (Int × List UInt8 × List zaa)):=
 if(decide (v1<(a0.length:Int)))then
  (getI a0 v1).bind fun y3=>
  if(y3.fKind==2)then
   (zcB v2 (⟨y3.fKey,y3.fVal,false⟩:zaa)).bind fun v4=>
   some (.inl ((IntKind.i64.wrap (v1+1)),v4))
  else
   if(y3.fKind==3)then
    (zcB v2 (⟨y3.fKey,([]:List UInt8),true⟩:zaa)).bind fun v5=>
    some (.inl ((IntKind.i64.wrap (v1+1)),v5))
   else
    (zgt y3.fKey v2 a1).bind fun v6=>
    if(!v6.2.2)then
     some (.inr (some (1,y3.fKey, [])))
    else
     (zet y3 v6.1 v6.2.1).bind fun v7=>
     if(!v7)then
      some (.inr (some (2,([]:List UInt8), [])))
     else
      if(y3.fKind==4)then
       (zed v6.1).bind fun v8=>
       (zic (IntKind.i64.wrap (v8.1+y3.fBy))).bind fun v9=>
       (zcB v2 (⟨y3.fKey,v9,false⟩:zaa)).bind fun v10=>
       some (.inl ((IntKind.i64.wrap (v1+1)),v10))
      else
       some (.inl ((IntKind.i64.wrap (v1+1)),v2))
 else
  some (.inr (some (3,([]:List UInt8),v2)))
noncomputable def zib (a0:List DOp) (a1:List zf4):Option (Int × List UInt8 × List zaa):=
 zaA (fun s:Int × List zaa=>zay a0 a1 s.1 s.2) (0, [])
noncomputable def zh3 (a0:List zaa) (a1:List UInt8):Option (zf4):=
 (zbF a0 a1).bind fun v1=>
 if(!v1.2)then
  some (⟨a1,([]:List UInt8),false⟩:zf4)
 else
  (getI a0 v1.1).bind fun y2=>
  some (⟨a1,y2.fVal,true⟩:zf4)
noncomputable def zbz (a0:List zaa) (a1:List DOp) (v1:List zf4):Option ((List zf4) ⊕ Option (List zf4 × List zaa × Bool)):=
 (zib a1 v1).bind fun v2=>
 if(v2.1 !=1)then
  some (.inr (some (v1,v2.2.2,(v2.1==3))))
 else
  (zh3 a0 v2.2.1).bind fun v3=>
  req ((((v1).length:Int)+(([v3]:List zf4).length:Int))*40≤140737488355328∧((v1).length:Int)+(([v3]:List zf4).length:Int)≤140737488355328)<|
  some (.inl (v1++ [v3]))
noncomputable def zhS (a0:List zaa) (a1:List DOp):Option (List zf4 × List zaa × Bool):=
 zaA (fun s:List zf4=>zbz a0 a1 s) []
noncomputable def za3 (xs:List zaa):Option (List zaa):=zrV 40 xs
noncomputable def zg3 (a0:zaa):Option (Bool):=
 some a0.fGone
noncomputable def zgp (v2:List zaa):Option (List zaa × Bool):=
 (zd9 v2 (fun y0_=>zg3 y0_)).bind fun v3=>
 if(decide ((v3.length:Int)>24))then
  some ([],false)
 else
  some (v3,true)
noncomputable def zcu (a1:List zaa) (v4:Int) (v5:List zaa):Option ((Int × List zaa) ⊕ Option (List zaa × Bool)):=
 if(decide (v4<(a1.length:Int)))then
  (getI a1 v4).bind fun y6=>
  (zcB v5 y6).bind fun v7=>
  some (.inl ((IntKind.i64.wrap (v4+1)),v7))
 else
  some (.inr (zgp v5))
noncomputable def zgI (a0:List zaa) (a1:List zaa):Option (List zaa × Bool):=
 (za3 a0).bind fun v1=>
 zaA (fun s:Int × List zaa=>zcu a1 s.1 s.2) (0,v1)
noncomputable def zhp (a0:List zaa) (a1:List DOp):Option (List zaa × Bool):=
 (zhS a0 a1).bind fun v1=>
 (zgI a0 v1.2.1).bind fun v2=>
 if((!v1.2.2)||(!v2.2))then
  req (((([]:List zaa).length:Int)+((a0).length:Int))*40≤140737488355328∧(([]:List zaa).length:Int)+((a0).length:Int)≤140737488355328)<|
  some (a0,false)
 else
  some (v2.1,true)
noncomputable def zcU (a0:zab) (a1:List zaa) (a2:zae):Option (List zaa × Bool × Bool):=
 (zdS a0 a2).bind fun v1=>
 if v1 then
  (zex a1).bind fun v2=>
  if(!v2)then
   some ([],false,false)
  else
   (zb2 a0 a2).bind fun v3=>
   (zhp a1 v3).bind fun v4=>
   some (v4.1,v4.2,true)
 else
  some ([],false,false)
noncomputable def zgz (a0:zab) (a1:zae):Option (Bool):=
 if(a1.fKind==1)then
  if((a1.fOld.fVals.length:Int)==0)then
   (zbV a0 a1.fNew).bind fun v1=>
   some v1
  else
   some false
 else
  if(a1.fKind==2)then
   if((a1.fNew.fVals.length:Int)==0)then
    (zbV a0 a1.fOld).bind fun v2=>
    some v2
   else
    some false
  else
   if(a1.fKind==3)then
    (zbV a0 a1.fOld).bind fun v3=>
    if v3 then
     (zbV a0 a1.fNew).bind fun v4=>
     if v4 then
      (getI a1.fOld.fVals 0).bind fun y5=>
      (getI a1.fNew.fVals 0).bind fun y6=>
      some (y5==y6)
     else
      some false
    else
     some false
   else
    some false
noncomputable def zeT (a0:zab) (a1:zae):Option (Bool):=
 (zcc a0).bind fun v1=>
 if v1 then
  (zgz a0 a1).bind fun v2=>
  some v2
 else
  some false
noncomputable def zgW (a0:List UInt8):Option (Bool):=
 (zbw (a0.length:Int) 1 12).bind fun v1=>
 if v1 then
  (zdT a0 ([46,47]:List UInt8)).bind fun v2=>
  some v2
 else
  some false
noncomputable def zgR (a0:List UInt8):Option (Bool):=
 if(decide ((a0.length:Int)≤24))then
  (zdT a0 ([46,45,44,95]:List UInt8)).bind fun v1=>
  some v1
 else
  some false
noncomputable def zgv (a0:List UInt8) (a1:List UInt8) (a2:Bool):Option (Bool):=
 (zgW a0).bind fun v1=>
 if v1 then
  (zgR a1).bind fun v2=>
  some (v2&&((!a2)||(a1==([]:List UInt8))))
 else
  some false
noncomputable def zfp (a0:List zaa):Option (Bool):=
 some (decide ((a0.length:Int)≤24))
noncomputable def zf0 (a0:List zaa) (v1:Int):Option ((Int) ⊕ Option (Bool)):=
 if(decide (v1<(a0.length:Int)))then
  (getI a0 v1).bind fun y2=>
  (zgv y2.fKey y2.fVal y2.fGone).bind fun v3=>
  if(decide (v1>0))then
   if v3 then
    (getI a0 (IntKind.i64.wrap (v1-1))).bind fun y4=>
    if(!Op.bytesLess y4.fKey y2.fKey)then
     some (.inr (some false))
    else
     some (.inl (IntKind.i64.wrap (v1+1)))
   else
    some (.inr (some false))
  else
   if((!v3)||false)then
    some (.inr (some false))
   else
    some (.inl (IntKind.i64.wrap (v1+1)))
 else
  some (.inr (zfp a0))
noncomputable def zfv (a0:List zaa):Option (Bool):=
 zaA (fun s:Int=>zf0 a0 s) 0
noncomputable def zg5 (a0:List zaa):Option (Bool):=
 (zfv a0).bind fun v1=>
 some v1
noncomputable def zg4 (a0:List zaa) (v2:Int):Option ((Int) ⊕ Option (Bool)):=
 if(decide (v2<(a0.length:Int)))then
  (getI a0 v2).bind fun y3=>
  if y3.fGone then
   some (.inr (some false))
  else
   some (.inl (IntKind.i64.wrap (v2+1)))
 else
  some (.inr (zg5 a0))
noncomputable def zcS (a0:List zaa):Option (Bool):=
 zaA (fun s:Int=>zg4 a0 s) 0
noncomputable def zgx (a0:zab) (a1:zae):Option (List DOp):=
 if(a1.fKind==1)then
  (zbY a0 a1.fNew).bind fun v1=>
  some [(⟨6,v1.fKey,([]:List UInt8),0⟩:DOp),(⟨2,v1.fKey,v1.fVal,0⟩:DOp)]
 else
  (zbY a0 a1.fOld).bind fun v2=>
  if(a1.fKind==2)then
   some [(⟨7,v2.fKey,v2.fVal,0⟩:DOp),(⟨3,v2.fKey,([]:List UInt8),0⟩:DOp)]
  else
   (zbY a0 a1.fNew).bind fun v3=>
   some [(⟨7,v2.fKey,v2.fVal,0⟩:DOp),(⟨2,v2.fKey,v3.fVal,0⟩:DOp)]
noncomputable def ze5 (a1:zbD) (v2:List UInt8) (v3:List DOp):Option (List DOp):=
 if((v2 !=([]:List UInt8))&&(decide (a1.fStage≥2)))then
  req ((((v3).length:Int)+(([(⟨2,v2,([]:List UInt8),0⟩:DOp)]:List DOp).length:Int))*48≤140737488355328∧((v3).length:Int)+(([(⟨2,v2,([]:List UInt8),0⟩:DOp)]:List DOp).length:Int)≤140737488355328)<|
  some (v3++ [(⟨2,v2,([]:List UInt8),0⟩:DOp)])
 else
  some v3
noncomputable def zdJ (a1:zbD) (v1:List UInt8) (v2:List UInt8):Option (List DOp):=
 if(((v1 !=([]:List UInt8))&&(v1 !=v2))&&(decide (a1.fStage≥1)))then
  req (((([]:List DOp).length:Int)+(([(⟨3,v1,([]:List UInt8),0⟩:DOp)]:List DOp).length:Int))*48≤140737488355328∧(([]:List DOp).length:Int)+(([(⟨3,v1,([]:List UInt8),0⟩:DOp)]:List DOp).length:Int)≤140737488355328)<|
  ze5 a1 v2 [(⟨3,v1,([]:List UInt8),0⟩:DOp)]
 else
  ze5 a1 v2 []
noncomputable def ze3 (a0:zab) (a1:zbD) (a2:zae) (v1:List UInt8):Option (List DOp):=
 if(a2.fKind !=2)then
  (zbB a0 a1 a2.fNew).bind fun v4=>
  zdJ a1 v1 v4
 else
  zdJ a1 v1 ([]:List UInt8)
noncomputable def zfC (a0:zab) (a1:zbD) (a2:zae):Option (List DOp):=
 zwq (σ:=List UInt8) (
  if(a2.fKind !=1)then
   (zbB a0 a1 a2.fOld).bind fun v5=>
   some (.inl v5)
  else
   some (.inl ([]:List UInt8))
 ) (fun s=>ze3 a0 a1 a2 s)
noncomputable def zcO (a0:zab) (a1:zae) (v2:Int) (v3:List DOp):Option ((Int × List DOp) ⊕ Option (List DOp)):=
 if(decide (v2<(a0.fIdxs.length:Int)))then
  (getI a0.fIdxs v2).bind fun y4=>
  (zfC a0 y4 a1).bind fun v5=>
  req ((((v3).length:Int)+((v5).length:Int))*48≤140737488355328∧((v3).length:Int)+((v5).length:Int)≤140737488355328)<|
  some (.inl ((IntKind.i64.wrap (v2+1)),(v3++v5)))
 else
  some (.inr (some v3))
noncomputable def zfH (a0:zab) (a1:zae):Option (List DOp):=
 (zgx a0 a1).bind fun v1=>
 zaA (fun s:Int × List DOp=>zcO a0 a1 s.1 s.2) (0,v1)
noncomputable def zid (a0:DOp) (v2:Bool):Option (Bool):=
 if v2 then
  (zgR a0.fVal).bind fun v3=>
  some (v3&&(a0.fBy==0))
 else
  if(a0.fKind==4)then
   if(a0.fKind==4)then
    if(a0.fVal==([]:List UInt8))then
     (zbw a0.fBy (-9999) 9999).bind fun v4=>
     some v4
    else
     some false
   else
    some (((((a0.fKind==1)||(a0.fKind==3))||(a0.fKind==6))&&(a0.fVal==([]:List UInt8)))&&(a0.fBy==0))
  else
   if(a0.fKind==5)then
    if(a0.fVal==([]:List UInt8))then
     (zbw a0.fBy (-9999) 9999).bind fun v5=>
     some v5
    else
     some false
   else
    some (((((a0.fKind==1)||(a0.fKind==3))||(a0.fKind==6))&&(a0.fVal==([]:List UInt8)))&&(a0.fBy==0))
noncomputable def ziW (a0:DOp):Option (Bool):=
 (zgW a0.fKey).bind fun v1=>
 if(!v1)then
  some false
 else
  if(a0.fKind==2)then
   zid a0 (a0.fKind==2)
  else
   zid a0 (a0.fKind==7)
noncomputable def zg6 (a0:List DOp):Option (Bool):=
 some (decide ((a0.length:Int)≤8))
noncomputable def zcP (a0:List DOp) (v1:Int):Option ((Int) ⊕ Option (Bool)):=
 if(decide (v1<(a0.length:Int)))then
  (getI a0 v1).bind fun y2=>
  (ziW y2).bind fun v3=>
  if(!v3)then
   some (.inr (some false))
  else
   some (.inl (IntKind.i64.wrap (v1+1)))
 else
  some (.inr (zg6 a0))
noncomputable def zhq (a0:List DOp):Option (Bool):=
 zaA (fun s:Int=>zcP a0 s) 0
noncomputable def zb8 (a1:List zf4) (a2:List UInt8) (v1:Int):Option ((Int) ⊕ Option (List UInt8 × Bool × Bool)):=
 if(decide (v1<(a1.length:Int)))then
  (getI a1 v1).bind fun y2=>
  if(y2.fKey==a2)then
   some (.inr (some (y2.fVal,y2.fThere,true)))
  else
   some (.inl (IntKind.i64.wrap (v1+1)))
 else
  some (.inr (some (([]:List UInt8),false,false)))
noncomputable def zd2 (a1:List zf4) (a2:List UInt8):Option (List UInt8 × Bool × Bool):=
 zaA (fun s:Int=>zb8 a1 a2 s) 0
noncomputable def zb4 (a0:List zaa) (a1:List zf4) (a2:List UInt8) (v3:Int):Option ((Int) ⊕ Option (List UInt8 × Bool × Bool)):=
 if(decide (v3<(a0.length:Int)))then
  (getI a0 v3).bind fun y4=>
  if(y4.fKey==a2)then
   some (.inr (some (y4.fVal,(!y4.fGone),true)))
  else
   some (.inl (IntKind.i64.wrap (v3+1)))
 else
  some (.inr (zd2 a1 a2))
noncomputable def zfI (a0:List zaa) (a1:List zf4) (a2:List UInt8):Option (List UInt8 × Bool × Bool):=
 zaA (fun s:Int=>zb4 a0 a1 a2 s) 0
noncomputable def zbf (a0:List UInt8) (v3:Int) (v4:Int):Option ((Int × Int) ⊕ Option (Int)):=
 if(decide (v4<(a0.length:Int)))then
  (getI a0 v4).bind fun y5=>
  if((decide ((y5.toNat:Int)<48))||(decide ((y5.toNat:Int)>57)))then
   some (.inr (some (-1)))
  else
   some (.inl ((IntKind.i64.wrap ((IntKind.i64.wrap ((10:Int)*v3))+(IntKind.i64.wrap (IntKind.u8.wrap ((y5.toNat:Int)-48))))),(IntKind.i64.wrap (v4+1))))
 else
  some (.inr (some v3))
noncomputable def zfR (a0:List UInt8):Option (Int):=
 (zbw (a0.length:Int) 1 6).bind fun v1=>
 if v1 then
  (getI a0 0).bind fun y2=>
  if(((y2.toNat:Int)==48)&&(decide ((a0.length:Int)>1)))then
   some (-1)
  else
   zaA (fun s:Int × Int=>zbf a0 s.1 s.2) (0,0)
 else
  some (-1)
noncomputable def zfT (y1:UInt8) (v2:List UInt8):Option (Int × Bool):=
 (zfR v2).bind fun v3=>
 if((decide (v3<0))||(((y1.toNat:Int)==45)&&(v3==0)))then
  some (0,false)
 else
  if((y1.toNat:Int)==45)then
   some ((IntKind.i64.wrap (0-v3)),true)
  else
   some (v3,true)
noncomputable def zjK (v4:List UInt8):Option (Int × Bool):=
 (zfR v4).bind fun v5=>
 if((decide (v5<0))||false)then
  some (0,false)
 else
  some (v5,true)
noncomputable def zgZ (a0:List UInt8):Option (Int × Bool):=
 if(decide ((a0.length:Int)>0))then
  (getI a0 0).bind fun y1=>
  if((y1.toNat:Int)==45)then
   req (0≤(1:Int)∧(1:Int)≤(a0.length:Int)∧(a0.length:Int)≤(a0.length:Int))<|
   zfT y1 (zd8 a0 1 (a0.length:Int))
  else
   zfT y1 a0
 else
  zjK a0
noncomputable def zgC (a0:DOp) (a1:List UInt8) (a2:Bool):Option (Bool):=
 (zgZ a1).bind fun v1=>
 if(a0.fKind==4)then
  if(!a2)then
   some false
  else
   if v1.2 then
    (zbw (IntKind.i64.wrap (v1.1+a0.fBy)) (-999999) 999999).bind fun v2=>
    some (!v2)
   else
    some true
 else
  if(a0.fKind==5)then
   some (((!a2)||(!v1.2))||(decide (v1.1<a0.fBy)))
  else
   if(a0.fKind==6)then
    some a2
   else
    if(a0.fKind==7)then
     some ((!a2)||(a1 !=a0.fVal))
    else
     some false
noncomputable def zeH:Nat→Int→Option (List UInt8)
 |0,_=>none
 |n_+1,a0=>
  if(decide (a0<10))then
   req (([(IntKind.u8.wrap (IntKind.i64.wrap ((48:Int)+a0)))]:List Int).length≤9223372036854775807)<|
   some ([(IntKind.u8.wrap (IntKind.i64.wrap ((48:Int)+a0)))].map fun n=>UInt8.ofNat n.toNat)
  else
   ((zeH n_) (IntKind.i64.wrap (Int.tdiv a0 10))).bind fun v1=>
   req (([(IntKind.u8.wrap (IntKind.i64.wrap ((48:Int)+(Int.tmod a0 10))))]:List Int).length≤9223372036854775807)<|
   req ((v1).length+(([(IntKind.u8.wrap (IntKind.i64.wrap ((48:Int)+(Int.tmod a0 10))))].map fun n=>UInt8.ofNat n.toNat)).length≤9223372036854775807)<|
   some (v1++([(IntKind.u8.wrap (IntKind.i64.wrap ((48:Int)+(Int.tmod a0 10))))].map fun n=>UInt8.ofNat n.toNat))
noncomputable def zj4:Int→Option (List UInt8):=zeH zBX
noncomputable def zi6 (a0:Int):Option (List UInt8):=
 if(decide (a0<0))then
  (zj4 (IntKind.i64.wrap (0-a0))).bind fun v1=>
  req ((([45]:List UInt8)).length+(v1).length≤9223372036854775807)<|
  some ((([45]:List UInt8):List UInt8)++v1)
 else
  (zj4 a0).bind fun v2=>
  some v2
noncomputable def zaE (a0:List DOp) (a1:List zf4) (v1:List zaa) (v2:Int):Option ((List zaa × Int) ⊕ Option (Int × List UInt8 × List zaa)):=
 if(decide (v2<(a0.length:Int)))then
  (getI a0 v2).bind fun y3=>
  (zfI v1 a1 y3.fKey).bind fun v4=>
  if(((!v4.2.2)&&(y3.fKind !=2))&&(y3.fKind !=3))then
   some (.inr (some (1,y3.fKey, [])))
  else
   (zgC y3 v4.1 v4.2.1).bind fun v5=>
   if v5 then
    some (.inr (some (2,([]:List UInt8), [])))
   else
    if(y3.fKind==2)then
     (zaT v1 (⟨y3.fKey,y3.fVal,false⟩:zaa)).bind fun v6=>
     some (.inl (v6,(IntKind.i64.wrap (v2+1))))
    else
     if(y3.fKind==3)then
      (zaT v1 (⟨y3.fKey,([]:List UInt8),true⟩:zaa)).bind fun v7=>
      some (.inl (v7,(IntKind.i64.wrap (v2+1))))
     else
      if(y3.fKind==4)then
       (zgZ v4.1).bind fun v8=>
       if(!v4.2.1)then
        (zi6 (IntKind.i64.wrap ((0:Int)+y3.fBy))).bind fun v9=>
        (zaT v1 (⟨y3.fKey,v9,false⟩:zaa)).bind fun v10=>
        some (.inl (v10,(IntKind.i64.wrap (v2+1))))
       else
        (zi6 (IntKind.i64.wrap (v8.1+y3.fBy))).bind fun v11=>
        (zaT v1 (⟨y3.fKey,v11,false⟩:zaa)).bind fun v12=>
        some (.inl (v12,(IntKind.i64.wrap (v2+1))))
      else
       some (.inl (v1,(IntKind.i64.wrap (v2+1))))
 else
  some (.inr (some (3,([]:List UInt8),v1)))
noncomputable def ziS (a0:List DOp) (a1:List zf4):Option (Int × List UInt8 × List zaa):=
 zaA (fun s:List zaa × Int=>zaE a0 a1 s.1 s.2) ([],0)
noncomputable def zjr (a1:List UInt8):Option (zf4):=
 some (⟨a1,([]:List UInt8),false⟩:zf4)
noncomputable def zcN (a0:List zaa) (a1:List UInt8) (v1:Int):Option ((Int) ⊕ Option (zf4)):=
 if(decide (v1<(a0.length:Int)))then
  (getI a0 v1).bind fun y2=>
  if(y2.fKey==a1)then
   some (.inr (some (⟨a1,y2.fVal,true⟩:zf4)))
  else
   some (.inl (IntKind.i64.wrap (v1+1)))
 else
  some (.inr (zjr a1))
noncomputable def zhm (a0:List zaa) (a1:List UInt8):Option (zf4):=
 zaA (fun s:Int=>zcN a0 a1 s) 0
noncomputable def zbO (a0:List zaa) (a1:List DOp) (v1:List zf4):Option ((List zf4) ⊕ Option (List zf4 × List zaa × Bool)):=
 (ziS a1 v1).bind fun v2=>
 if(v2.1 !=1)then
  some (.inr (some (v1,v2.2.2,(v2.1==3))))
 else
  (zhm a0 v2.2.1).bind fun v3=>
  req ((((v1).length:Int)+(([v3]:List zf4).length:Int))*40≤140737488355328∧((v1).length:Int)+(([v3]:List zf4).length:Int)≤140737488355328)<|
  some (.inl (v1++ [v3]))
noncomputable def zih (a0:List zaa) (a1:List DOp):Option (List zf4 × List zaa × Bool):=
 zaA (fun s:List zf4=>zbO a0 a1 s) []
noncomputable def zbN (v1:List zaa) (v2:List zaa) (v3:Int):Option ((List zaa × Int) ⊕ Option (List zaa)):=
 if(decide (v3<(v1.length:Int)))then
  (getI v1 v3).bind fun y4=>
  if(!y4.fGone)then
   req ((((v2).length:Int)+(([y4]:List zaa).length:Int))*40≤140737488355328∧((v2).length:Int)+(([y4]:List zaa).length:Int)≤140737488355328)<|
   some (.inl ((v2++ [y4]),(IntKind.i64.wrap (v3+1))))
  else
   some (.inl (v2,(IntKind.i64.wrap (v3+1))))
 else
  some (.inr (some v2))
noncomputable def ze7 (v1:List zaa):Option (List zaa):=
 zaA (fun s:List zaa × Int=>zbN v1 s.1 s.2) ([],0)
noncomputable def zbP (a1:List zaa) (v5:Int) (v6:List zaa):Option ((Int × List zaa) ⊕ Option (List zaa)):=
 if(decide (v5<(a1.length:Int)))then
  (getI a1 v5).bind fun y7=>
  (zaT v6 y7).bind fun v8=>
  some (.inl ((IntKind.i64.wrap (v5+1)),v8))
 else
  some (.inr (ze7 v6))
noncomputable def ze2 (a0:List zaa) (a1:List zaa):Option (List zaa):=
 req (((([]:List zaa).length:Int)+((a0).length:Int))*40≤140737488355328∧(([]:List zaa).length:Int)+((a0).length:Int)≤140737488355328)<|
 zaA (fun s:Int × List zaa=>zbP a1 s.1 s.2) (0,a0)
noncomputable def zbl (a1:List (List DOp)) (v2:List Bool) (v3:Int) (v4:List zaa):Option ((List Bool × Int × List zaa) ⊕ Option (List zaa × List Bool × Bool)):=
 if(decide (v3<(a1.length:Int)))then
  (getI a1 v3).bind fun y5=>
  (zih v4 y5).bind fun v6=>
  (ze2 v4 v6.2.1).bind fun v7=>
  if v6.2.2 then
   (zcS v7).bind fun v8=>
   if v8 then
    req ((((v2).length:Int)+(([v8]:List Bool).length:Int))*1≤140737488355328∧((v2).length:Int)+(([v8]:List Bool).length:Int)≤140737488355328)<|
    some (.inl ((v2++ [v8]),(IntKind.i64.wrap (v3+1)),v7))
   else
    req ((((v2).length:Int)+(([v8]:List Bool).length:Int))*1≤140737488355328∧((v2).length:Int)+(([v8]:List Bool).length:Int)≤140737488355328)<|
    some (.inl ((v2++ [v8]),(IntKind.i64.wrap (v3+1)),v4))
  else
   req ((((v2).length:Int)+(([false]:List Bool).length:Int))*1≤140737488355328∧((v2).length:Int)+(([false]:List Bool).length:Int)≤140737488355328)<|
   some (.inl ((v2++ [false]),(IntKind.i64.wrap (v3+1)),v4))
 else
  some (.inr (some (v4,v2,true)))
noncomputable def zff (a0:List zaa) (a1:List (List DOp)):Option (List zaa × List Bool × Bool):=
 req (((([]:List zaa).length:Int)+((a0).length:Int))*40≤140737488355328∧(([]:List zaa).length:Int)+((a0).length:Int)≤140737488355328)<|
 zaA (fun s:List Bool × Int × List zaa=>zbl a1 s.1 s.2.1 s.2.2) ([],0,a0)
noncomputable def zbi (a0:List zaa) (a1:List (List DOp)) (v9:Int):Option ((Int) ⊕ Option (List zaa × List Bool × Bool)):=
 if(decide (v9<(a1.length:Int)))then
  (getI a1 v9).bind fun y10=>
  (zhq y10).bind fun v11=>
  if(!v11)then
   some (.inr (some ([], [],false)))
  else
   some (.inl (IntKind.i64.wrap (v9+1)))
 else
  some (.inr (zff a0 a1))
noncomputable def ze1 (a0:List zaa) (a1:List (List DOp)):Option (List zaa × List Bool × Bool):=
 (zcS a0).bind fun v1=>
 if((!v1)||(decide ((a1.length:Int)>20)))then
  some ([], [],false)
 else
  zaA (fun s:Int=>zbi a0 a1 s) 0
noncomputable def zh4 (a0:List zaa) (a1:List DOp):Option (List zaa × Bool):=
 (ze1 a0 ([a1]:List (List DOp))).bind fun v1=>
 if((v1.2.1.length:Int)==1)then
  (getI v1.2.1 0).bind fun y2=>
  some (v1.1,y2)
 else
  some (v1.1,false)
noncomputable def zfg (a0:zab) (a1:List zaa) (a2:zae):Option (List zaa × Bool × Bool):=
 (zeT a0 a2).bind fun v1=>
 if v1 then
  (zcS a1).bind fun v2=>
  if(!v2)then
   some ([],false,false)
  else
   (zfH a0 a2).bind fun v3=>
   (zh4 a1 v3).bind fun v4=>
   some (v4.1,v4.2,true)
 else
  some ([],false,false)
noncomputable def zht (a0:zab) (a1:List UInt8):Option (Bool):=
 (zb9 a0).bind fun v1=>
 if v1 then
  (zbM a0 a1).bind fun v2=>
  some (decide (v2≥0))
 else
  some false
noncomputable def zeu (a0:zab) (a1:List UInt8) (a2:List zaa):Option (Bool):=
 (zht a0 a1).bind fun v1=>
 if v1 then
  (zex a2).bind fun v2=>
  some v2
 else
  some false
noncomputable def za1 (a0:List UInt8) (a1:List UInt8):Option (Bool):=
 if(decide ((a0.length:Int)≥(a1.length:Int)))then
  req (0≤(0:Int)∧(0:Int)≤(a1.length:Int)∧(a1.length:Int)≤(a0.length:Int))<|
  some ((zd8 a0 0 (a1.length:Int))==a1)
 else
  some false
noncomputable def zbG (a0:List UInt8) (a1:List UInt8):Option (List UInt8 × Bool):=
 (za1 a0 a1).bind fun v1=>
 if(!v1)then
  some (a0,false)
 else
  req (0≤(a1.length:Int)∧(a1.length:Int)≤(a0.length:Int)∧(a0.length:Int)≤(a0.length:Int))<|
  some ((zd8 a0 (a1.length:Int) (a0.length:Int)),true)
noncomputable def zcA (a0:List UInt8) (a1:List UInt8):Option (List UInt8 × Bool):=
 (zbG a0 a1).bind fun v1=>
 some (v1.1,v1.2)
noncomputable def zbI (a0:List UInt8) (a1:List UInt8):Option (List UInt8 × List UInt8 × Bool):=
 (zaI a0 a1).bind fun v1=>
 if(decide (v1≥0))then
  req (0≤(0:Int)∧(0:Int)≤v1∧v1≤(a0.length:Int))<|
  req (0≤(IntKind.i64.wrap (v1+(a1.length:Int)))∧(IntKind.i64.wrap (v1+(a1.length:Int)))≤(a0.length:Int)∧(a0.length:Int)≤(a0.length:Int))<|
  some ((zd8 a0 0 v1),(zd8 a0 (IntKind.i64.wrap (v1+(a1.length:Int))) (a0.length:Int)),true)
 else
  some (a0,([]:List UInt8),false)
noncomputable def zeq (a0:List UInt8) (a1:List UInt8):Option (List UInt8 × List UInt8 × Bool):=
 (zbI a0 a1).bind fun v1=>
 some (v1.1,v1.2.1,v1.2.2)
noncomputable def zbW (a0:zab) (a1:List UInt8) (a2:List UInt8):Option (List UInt8 × List UInt8 × Bool):=
 (zbK a0 a1).bind fun v1=>
 (zcA a2 v1).bind fun v2=>
 (zeq v2.1 ([47]:List UInt8)).bind fun v3=>
 if v2.2 then
  if v3.2.2 then
   (zdR v3.1).bind fun v4=>
   if v4 then
    (zdR v3.2.1).bind fun v5=>
    if(!v5)then
     some (([]:List UInt8),([]:List UInt8),false)
    else
     some (v3.1,v3.2.1,true)
   else
    some (([]:List UInt8),([]:List UInt8),false)
  else
   some (([]:List UInt8),([]:List UInt8),false)
 else
  some (([]:List UInt8),([]:List UInt8),false)
noncomputable def zaO (a0:zab) (a1:List UInt8) (a2:List zaa) (v1:Int) (v2:List (List UInt8)):Option ((Int × List (List UInt8)) ⊕ Option (List (List UInt8))):=
 if(decide (v1<(a2.length:Int)))then
  (getI a2 v1).bind fun y3=>
  (zbW a0 a1 y3.fKey).bind fun v4=>
  if v4.2.2 then
   req ((((v2).length:Int)+(([y3.fKey]:List (List UInt8)).length:Int))*16≤140737488355328∧((v2).length:Int)+(([y3.fKey]:List (List UInt8)).length:Int)≤140737488355328)<|
   some (.inl ((IntKind.i64.wrap (v1+1)),(v2++ [y3.fKey])))
  else
   some (.inl ((IntKind.i64.wrap (v1+1)),v2))
 else
  some (.inr (some v2))
noncomputable def zbr (a0:zab) (a1:List UInt8) (a2:List zaa):Option (List (List UInt8)):=
 zaA (fun s:Int × List (List UInt8)=>zaO a0 a1 a2 s.1 s.2) (0, [])
noncomputable def zfD (a0:List UInt8) (a1:List UInt8):Option (Int):=
 (zaI a0 a1).bind fun v1=>
 some v1
noncomputable def zeb (v3:List UInt8) (v4:Int) (v5:List (List UInt8)):Option (List (List UInt8)):=
 (getI v5 v4).bind fun y6=>
 req (0≤(0:Int)∧(0:Int)≤(IntKind.i64.wrap (v4+1))∧(IntKind.i64.wrap (v4+1))≤((v5.set (v4).toNat v3).length:Int))<|
 some (zd8 (v5.set (v4).toNat v3) 0 (IntKind.i64.wrap (v4+1)))
noncomputable def zbp (a0:List UInt8) (a1:List UInt8) (a2:Int) (v2:Int) (v7:List UInt8) (v8:Int) (v9:List (List UInt8)):Option ((List UInt8 × Int × List (List UInt8)) ⊕ Option (List (List UInt8))):=
 if(decide (v8<(IntKind.i64.wrap ((bif (decide ((IntKind.i64.wrap ((a0.length:Int)+1))<v2))then(IntKind.i64.wrap ((a0.length:Int)+1))else v2)-1))))then
  (zfD v7 a1).bind fun v10=>
  if(decide (v10<0))then
   some (.inr (zeb v7 v8 v9))
  else
   req (0≤(0:Int)∧(0:Int)≤(IntKind.i64.wrap (v10+a2))∧(IntKind.i64.wrap (v10+a2))≤(v7.length:Int))<|
   (getI v9 v8).bind fun y11=>
   req (0≤(IntKind.i64.wrap (v10+(a1.length:Int)))∧(IntKind.i64.wrap (v10+(a1.length:Int)))≤(v7.length:Int)∧(v7.length:Int)≤(v7.length:Int))<|
   some (.inl ((zd8 v7 (IntKind.i64.wrap (v10+(a1.length:Int))) (v7.length:Int)),(IntKind.i64.wrap (v8+1)),(v9.set (v8).toNat (zd8 v7 0 (IntKind.i64.wrap (v10+a2))))))
 else
  some (.inr (zeb v7 v8 v9))
noncomputable def zei (a0:List UInt8) (a1:List UInt8) (a2:Int) (v2:Int):Option (List (List UInt8)):=
 req (0≤(bif (decide ((IntKind.i64.wrap ((a0.length:Int)+1))<v2))then(IntKind.i64.wrap ((a0.length:Int)+1))else v2)∧(bif (decide ((IntKind.i64.wrap ((a0.length:Int)+1))<v2))then(IntKind.i64.wrap ((a0.length:Int)+1))else v2)*16≤140737488355328∧(bif (decide ((IntKind.i64.wrap ((a0.length:Int)+1))<v2))then(IntKind.i64.wrap ((a0.length:Int)+1))else v2)≤140737488355328)<|
 zaA (fun s:List UInt8 × Int × List (List UInt8)=>zbp a0 a1 a2 v2 s.1 s.2.1 s.2.2) (a0,0,(List.replicate ((bif (decide ((IntKind.i64.wrap ((a0.length:Int)+1))<v2))then(IntKind.i64.wrap ((a0.length:Int)+1))else v2)).toNat ([]:List UInt8)))
noncomputable def zfP (a0:List UInt8) (a1:List UInt8) (a2:Int) (a3:Int):Option (List (List UInt8)):=
 if(a3==0)then
  some []
 else
  if(a1==([]:List UInt8))then
   (zgl a0 a3).bind fun v1=>
   some v1
  else
   if(decide (a3<0))then
    (zfr a0 a1).bind fun v12=>
    zei a0 a1 a2 (IntKind.i64.wrap (v12+1))
   else
    zei a0 a1 a2 a3
noncomputable def zem (a0:List UInt8) (a1:List UInt8):Option (List (List UInt8)):=
 (zfP a0 a1 0 (-1)).bind fun v1=>
 some v1
noncomputable def zcD (a0:zab) (a1:zaa):Option (za5 × Bool):=
 req ((a0.fName).length+(([47]:List UInt8)).length≤9223372036854775807)<|
 (zcA a1.fKey (a0.fName++([47]:List UInt8))).bind fun v1=>
 (zem a1.fVal ([44]:List UInt8)).bind fun v2=>
 req (((([v1.1]:List (List UInt8)).length:Int)+((v2).length:Int))*16≤140737488355328∧(([v1.1]:List (List UInt8)).length:Int)+((v2).length:Int)≤140737488355328)<|
 if v1.2 then
  (zaL a0 (⟨([v1.1]++v2)⟩:za5)).bind fun v3=>
  if v3 then
   (za7 a0 (⟨([v1.1]++v2)⟩:za5)).bind fun v4=>
   if(!(a1.fKey==v4.fKey&&(a1.fVal==v4.fVal&&(a1.fGone==v4.fGone))))then
    some ((⟨[]⟩:za5),false)
   else
    some ((⟨([v1.1]++v2)⟩:za5),true)
  else
   some ((⟨[]⟩:za5),false)
 else
  some ((⟨[]⟩:za5),false)
noncomputable def zaV (a0:zab) (a1:List zaa) (v1:Int) (v2:List za5):Option ((Int × List za5) ⊕ Option (List za5)):=
 if(decide (v1<(a1.length:Int)))then
  (getI a1 v1).bind fun y3=>
  (zcD a0 y3).bind fun v4=>
  if v4.2 then
   req ((((v2).length:Int)+(([v4.1]:List za5).length:Int))*24≤140737488355328∧((v2).length:Int)+(([v4.1]:List za5).length:Int)≤140737488355328)<|
   some (.inl ((IntKind.i64.wrap (v1+1)),(v2++ [v4.1])))
  else
   some (.inl ((IntKind.i64.wrap (v1+1)),v2))
 else
  some (.inr (some v2))
noncomputable def zcR (a0:zab) (a1:List zaa):Option (List za5):=
 zaA (fun s:Int × List za5=>zaV a0 a1 s.1 s.2) (0, [])
noncomputable def zaW (a0:zab) (a1:List UInt8) (v1:List za5) (v2:Int) (v3:List (List UInt8)):Option ((Int × List (List UInt8)) ⊕ Option (List (List UInt8))):=
 if(decide (v2<(v1.length:Int)))then
  (getI v1 v2).bind fun y4=>
  (zaP a0 a1 y4).bind fun v5=>
  req ((((v3).length:Int)+(([v5]:List (List UInt8)).length:Int))*16≤140737488355328∧((v3).length:Int)+(([v5]:List (List UInt8)).length:Int)≤140737488355328)<|
  some (.inl ((IntKind.i64.wrap (v2+1)),(v3++ [v5])))
 else
  some (.inr (some v3))
noncomputable def zb0 (a0:zab) (a1:List UInt8) (a2:List zaa):Option (List (List UInt8)):=
 (zcR a0 a2).bind fun v1=>
 zaA (fun s:Int × List (List UInt8)=>zaW a0 a1 v1 s.1 s.2) (0, [])
noncomputable def zbR (xs:List (List UInt8)):Option (List (List UInt8)):=zrV 16 xs
noncomputable def zha (a0:List UInt8) (a1:List (List UInt8)):Option (Bool):=
 (zaD a1 a0).bind fun v1=>
 some v1
noncomputable def zeO (a0:List (List UInt8)) (a1:List (List UInt8)):Option (List (List UInt8)):=
 (zbR a0).bind fun v1=>
 (zd9 v1 (fun y0_=>zha y0_ a1)).bind fun v2=>
 some v2
noncomputable def zb6 (a0:zab) (a1:List UInt8) (a2:List zaa):Option (List (List UInt8)):=
 (zbr a0 a1 a2).bind fun v1=>
 (zb0 a0 a1 a2).bind fun v2=>
 (zeO v1 v2).bind fun v3=>
 some v3
noncomputable def zdW (a0:zab) (a1:List UInt8) (a2:List zaa):Option (List (List UInt8)):=
 (zb0 a0 a1 a2).bind fun v1=>
 (zbr a0 a1 a2).bind fun v2=>
 (zeO v1 v2).bind fun v3=>
 some v3
noncomputable def zcC (a0:zab) (a1:List UInt8) (a2:Int) (a3:List zaa):Option (Bool):=
 if(a2==0)then
  (zbr a0 a1 a3).bind fun v1=>
  some ((v1.length:Int)==0)
 else
  if(a2==1)then
   (zb6 a0 a1 a3).bind fun v2=>
   some ((v2.length:Int)==0)
  else
   (zb6 a0 a1 a3).bind fun v3=>
   if((v3.length:Int)==0)then
    (zdW a0 a1 a3).bind fun v4=>
    some ((v4.length:Int)==0)
   else
    some false
noncomputable def zcl (a0:zab) (a1:List UInt8) (a2:Int) (a3:List zaa):Option (Bool × Bool):=
 (zeu a0 a1 a3).bind fun v1=>
 if v1 then
  (zbU a2 0 2).bind fun v2=>
  if(!v2)then
   some (false,false)
  else
   (zcC a0 a1 a2 a3).bind fun v3=>
   some (v3,true)
 else
  some (false,false)
noncomputable def zcy (a0:zab) (a1:List UInt8) (a2:List zaa):Option (Bool):=
 (zcc a0).bind fun v1=>
 if v1 then
  (zdz a0 a1).bind fun v2=>
  if(decide (v2≥0))then
   (zcS a2).bind fun v3=>
   some v3
  else
   some false
 else
  some false
noncomputable def zdA (a0:zab) (a1:List UInt8) (a2:List UInt8):Option (List UInt8 × List UInt8 × Bool):=
 (zc2 a2 47).bind fun v1=>
 if((v1.length:Int) !=3)then
  some (([]:List UInt8),([]:List UInt8),false)
 else
  (getI v1 0).bind fun y2=>
  req ((a0.fName).length+(([46]:List UInt8)).length≤9223372036854775807)<|
  req (((a0.fName++([46]:List UInt8))).length+(a1).length≤9223372036854775807)<|
  if(y2 !=((a0.fName++([46]:List UInt8))++a1))then
   some (([]:List UInt8),([]:List UInt8),false)
  else
   (getI v1 1).bind fun y3=>
   (zdf y3).bind fun v4=>
   if v4 then
    (getI v1 2).bind fun y5=>
    (zdf y5).bind fun v6=>
    if(!v6)then
     some (([]:List UInt8),([]:List UInt8),false)
    else
     some (y3,y5,true)
   else
    some (([]:List UInt8),([]:List UInt8),false)
noncomputable def zbE (a0:zab) (a1:List UInt8) (a2:List zaa) (v1:List (List UInt8)) (v2:Int):Option ((List (List UInt8) × Int) ⊕ Option (List (List UInt8))):=
 if(decide (v2<(a2.length:Int)))then
  (getI a2 v2).bind fun y3=>
  (zdA a0 a1 y3.fKey).bind fun v4=>
  if v4.2.2 then
   req ((((v1).length:Int)+(([y3.fKey]:List (List UInt8)).length:Int))*16≤140737488355328∧((v1).length:Int)+(([y3.fKey]:List (List UInt8)).length:Int)≤140737488355328)<|
   some (.inl ((v1++ [y3.fKey]),(IntKind.i64.wrap (v2+1))))
  else
   some (.inl (v1,(IntKind.i64.wrap (v2+1))))
 else
  some (.inr (some v1))
noncomputable def zdg (a0:zab) (a1:List UInt8) (a2:List zaa):Option (List (List UInt8)):=
 zaA (fun s:List (List UInt8) × Int=>zbE a0 a1 a2 s.1 s.2) ([],0)
noncomputable def zbQ (a0:zab) (a1:List UInt8) (v1:List za5) (v2:List (List UInt8)) (v3:Int):Option ((List (List UInt8) × Int) ⊕ Option (List (List UInt8))):=
 if(decide (v3<(v1.length:Int)))then
  (getI v1 v3).bind fun y4=>
  (zdz a0 a1).bind fun v5=>
  (getI a0.fIdxs v5).bind fun y6=>
  (zbB a0 y6 y4).bind fun v7=>
  req ((((v2).length:Int)+(([v7]:List (List UInt8)).length:Int))*16≤140737488355328∧((v2).length:Int)+(([v7]:List (List UInt8)).length:Int)≤140737488355328)<|
  some (.inl ((v2++ [v7]),(IntKind.i64.wrap (v3+1))))
 else
  some (.inr (some v2))
noncomputable def zdP (a0:zab) (a1:List UInt8) (a2:List zaa):Option (List (List UInt8)):=
 (zeI a0 a2).bind fun v1=>
 zaA (fun s:List (List UInt8) × Int=>zbQ a0 a1 v1 s.1 s.2) ([],0)
noncomputable def zcr (a0:List (List UInt8)) (a1:List (List UInt8)) (v1:List (List UInt8)) (v2:Int):Option ((List (List UInt8) × Int) ⊕ Option (List (List UInt8))):=
 if(decide (v2<(a0.length:Int)))then
  (getI a0 v2).bind fun y3=>
  (zgM a1 y3).bind fun v4=>
  if(decide (v4<0))then
   req ((((v1).length:Int)+(([y3]:List (List UInt8)).length:Int))*16≤140737488355328∧((v1).length:Int)+(([y3]:List (List UInt8)).length:Int)≤140737488355328)<|
   some (.inl ((v1++ [y3]),(IntKind.i64.wrap (v2+1))))
  else
   some (.inl (v1,(IntKind.i64.wrap (v2+1))))
 else
  some (.inr (some v1))
noncomputable def zgF (a0:List (List UInt8)) (a1:List (List UInt8)):Option (List (List UInt8)):=
 zaA (fun s:List (List UInt8) × Int=>zcr a0 a1 s.1 s.2) ([],0)
noncomputable def zg8 (a0:zab) (a1:List UInt8) (a2:List zaa):Option (List (List UInt8) × Bool):=
 (zcy a0 a1 a2).bind fun v1=>
 if(!v1)then
  some ([],false)
 else
  (zdg a0 a1 a2).bind fun v2=>
  (zdP a0 a1 a2).bind fun v3=>
  (zgF v2 v3).bind fun v4=>
  some (v4,true)
noncomputable def zh7 (a0:zab) (a1:List UInt8) (a2:List zaa):Option (List (List UInt8) × Bool):=
 (zcy a0 a1 a2).bind fun v1=>
 if(!v1)then
  some ([],false)
 else
  (zdP a0 a1 a2).bind fun v2=>
  (zdg a0 a1 a2).bind fun v3=>
  (zgF v2 v3).bind fun v4=>
  some (v4,true)
noncomputable def zfu (a0:zab) (a1:List UInt8) (a2:Int) (a3:List zaa):Option (Bool):=
 if(a2==0)then
  (zdg a0 a1 a3).bind fun v1=>
  some ((v1.length:Int)==0)
 else
  (zg8 a0 a1 a3).bind fun v2=>
  (zh7 a0 a1 a3).bind fun v3=>
  some (((v2.1.length:Int)==0)&&((a2==1)||((v3.1.length:Int)==0)))
noncomputable def zeL (a0:zab) (a1:List UInt8) (a2:Int) (a3:List zaa):Option (Bool × Bool):=
 (zcy a0 a1 a3).bind fun v1=>
 if v1 then
  (zbw a2 0 2).bind fun v2=>
  if(!v2)then
   some (false,false)
  else
   (zfu a0 a1 a2 a3).bind fun v3=>
   some (v3,true)
 else
  some (false,false)
noncomputable def zdI (a0:List zaa) (a1:List zaa) (v1:Int):Option ((Int) ⊕ Option (Bool)):=
 if(decide (v1<(a0.length:Int)))then
  (getI a0 v1).bind fun y2=>
  (getI a1 v1).bind fun y3=>
  if(!(y2.fKey==y3.fKey&&(y2.fVal==y3.fVal&&(y2.fGone==y3.fGone))))then
   some (.inr (some false))
  else
   some (.inl (IntKind.i64.wrap (v1+1)))
 else
  some (.inr (some true))
noncomputable def zes (a0:List zaa) (a1:List zaa):Option (Bool):=
 if((a0.length:Int) !=(a1.length:Int))then
  some false
 else
  zaA (fun s:Int=>zdI a0 a1 s) 0
noncomputable def zch (a0:List Int) (a1:Int) (a2:Int):Option (Bool):=
 (zdO a0).bind fun v1=>
 (zck v1.1 a1).bind fun v2=>
 if(!v2.2.2)then
  some true
 else
  (zcU v2.1 v1.2.1 v1.2.2).bind fun v3=>
  (zfg v2.1 v1.2.1 v1.2.2).bind fun v4=>
  (zcl v2.1 v2.2.1 a2 v1.2.1).bind fun v5=>
  (zeL v2.1 v2.2.1 a2 v1.2.1).bind fun v6=>
  if(v3.2.2 !=v4.2.2)then
   some false
  else
   if(v3.2.1 !=v4.2.1)then
    some false
   else
    (zes v3.1 v4.1).bind fun v7=>
    if(((!v7)||(v5.2 !=v6.2))||(v5.1 !=v6.1))then
     some false
    else
     if((!v3.2.2)||(!v5.1))then
      some true
     else
      (zcl v2.1 v2.2.1 a2 v3.1).bind fun v8=>
      some (v8.2&&v8.1)
noncomputable def zhi (a0:List Int) (a1:List Int):Option (Bool):=
 if(decide ((IntKind.i64.wrap ((a0.length:Int)+(a1.length:Int)))>1048576))then
  some true
 else
  (zch a0 0 0).bind fun v1=>
  if v1 then
   (zch a1 1 0).bind fun v2=>
   some v2
  else
   some false
noncomputable def zd4 (a0:List Int) (a1:List Int):Option (Bool):=
 if(decide ((IntKind.i64.wrap ((a0.length:Int)+(a1.length:Int)))>1048576))then
  some true
 else
  (zch a0 1 1).bind fun v1=>
  if v1 then
   (zch a1 2 1).bind fun v2=>
   some v2
  else
   some false
noncomputable def zgE (a0:List Int) (a1:List Int):Option (Bool):=
 if(decide ((IntKind.i64.wrap ((a0.length:Int)+(a1.length:Int)))>1048576))then
  some true
 else
  (zch a0 2 2).bind fun v1=>
  if v1 then
   (zch a1 3 2).bind fun v2=>
   some v2
  else
   some false
noncomputable def zfE (a0:zab) (a1:zae):Option (List DOp × Bool):=
 (zdS a0 a1).bind fun v1=>
 if(!v1)then
  some ([],false)
 else
  (zb2 a0 a1).bind fun v2=>
  some (v2,true)
noncomputable def zfK (a0:zab) (a1:zae):Option (List DOp × Bool):=
 (zeT a0 a1).bind fun v1=>
 if(!v1)then
  some ([],false)
 else
  (zfH a0 a1).bind fun v2=>
  some (v2,true)
noncomputable def zdv (a0:List Int):Option (Int):=
 (zag (⟨a0,0,0⟩:zak) 6).bind fun v1=>
 some (IntKind.i64.wrap (v1.1-1))
noncomputable def zfS (a0:Int):Option (Bool × Bool × Bool × Bool):=
 (zeN a0).bind fun v1=>
 if(!v1)then
  some (false,false,false,false)
 else
  (zeR a0).bind fun v2=>
  (zeK a0).bind fun v3=>
  some (v2,v3,(a0==3),true)
noncomputable def zfq (a0:Int):Option (Bool × Bool × Bool × Bool):=
 (zbw a0 0 3).bind fun v1=>
 if(!v1)then
  some (false,false,false,false)
 else
  some ((decide (a0≥1)),(decide (a0≥2)),(decide (a0≥3)),true)
noncomputable def zcW (a0:List DOp) (a1:List DOp) (v1:Int):Option ((Int) ⊕ Option (Bool)):=
 if(decide (v1<(a0.length:Int)))then
  (getI a0 v1).bind fun y2=>
  (getI a1 v1).bind fun y3=>
  if(!(y2.fKind==y3.fKind&&(y2.fKey==y3.fKey&&(y2.fVal==y3.fVal&&(y2.fBy==y3.fBy)))))then
   some (.inr (some false))
  else
   some (.inl (IntKind.i64.wrap (v1+1)))
 else
  some (.inr (some true))
noncomputable def zfX (a0:List DOp) (a1:List DOp):Option (Bool):=
 if((a0.length:Int) !=(a1.length:Int))then
  some false
 else
  zaA (fun s:Int=>zcW a0 a1 s) 0
noncomputable def zfs (a0:zab) (a1:List zaa):Option (List za5 × Bool):=
 (zb9 a0).bind fun v1=>
 if v1 then
  (zex a1).bind fun v2=>
  if(!v2)then
   some ([],false)
  else
   (zcR a0 a1).bind fun v3=>
   some (v3,true)
 else
  some ([],false)
noncomputable def zcM (a0:List (List UInt8)) (a1:List (List UInt8)) (v1:Int):Option ((Int) ⊕ Option (Bool)):=
 if(decide (v1<(a0.length:Int)))then
  (getI a0 v1).bind fun y2=>
  (getI a1 v1).bind fun y3=>
  if(y2 !=y3)then
   some (.inr (some false))
  else
   some (.inl (IntKind.i64.wrap (v1+1)))
 else
  some (.inr (some true))
noncomputable def zfM (a0:List (List UInt8)) (a1:List (List UInt8)):Option (Bool):=
 if((a0.length:Int) !=(a1.length:Int))then
  some false
 else
  zaA (fun s:Int=>zcM a0 a1 s) 0
noncomputable def zg7 (v1:zab × List zaa × zae) (v12:List za5 × Bool) (v13:List za5 × Bool) (v15:Int):Option (Bool):=
 if(v1.2.2.fKind==1)then
  some ((v15==1)&&((v13.1.length:Int)==(IntKind.i64.wrap ((v12.1.length:Int)+1))))
 else
  if(v1.2.2.fKind==2)then
   some ((v15==0)&&((v13.1.length:Int)==(IntKind.i64.wrap ((v12.1.length:Int)-1))))
  else
   some ((decide (v15≤1))&&((v13.1.length:Int)==(v12.1.length:Int)))
noncomputable def zeY (v1:zab × List zaa × zae) (v16:Int) (v17:Int) (y18:za5) (v19:Bool):Option ((Int × Int) ⊕ Option (Bool)):=
 if(!v19)then
  (zfM y18.fVals v1.2.2.fNew.fVals).bind fun v20=>
  if(!v20)then
   some (.inr (some false))
  else
   some (.inl ((IntKind.i64.wrap (v16+1)),(IntKind.i64.wrap (v17+1))))
 else
  some (.inl (v16,(IntKind.i64.wrap (v17+1))))
noncomputable def zcb (v1:zab × List zaa × zae) (v12:List za5 × Bool) (v16:Int) (v17:Int) (y18:za5) (v21:Bool) (v22:Int):Option ((Bool × Int) ⊕ Option ((Int × Int) ⊕ Option (Bool))):=
 if(decide (v22<(v12.1.length:Int)))then
  (getI v12.1 v22).bind fun y23=>
  if v21 then
   some (.inl (true,(IntKind.i64.wrap (v22+1))))
  else
   (zfM y18.fVals y23.fVals).bind fun v24=>
   some (.inl (v24,(IntKind.i64.wrap (v22+1))))
 else
  some (.inr (zeY v1 v16 v17 y18 v21))
noncomputable def zcQ (v1:zab × List zaa × zae) (v12:List za5 × Bool) (v13:List za5 × Bool) (v16:Int) (v17:Int):Option ((Int × Int) ⊕ Option (Bool)):=
 if(decide (v17<(v13.1.length:Int)))then
  (getI v13.1 v17).bind fun y18=>
  zaA (fun s:Bool × Int=>zcb v1 v12 v16 v17 y18 s.1 s.2) (false,0)
 else
  some (.inr (zg7 v1 v12 v13 v16))
noncomputable def zhr (a0:List Int) (a1:List Int):Option (Bool):=
 if(decide ((IntKind.i64.wrap ((a0.length:Int)+(a1.length:Int)))>1048576))then
  some true
 else
  (zdO a0).bind fun v1=>
  (zcU v1.1 v1.2.1 v1.2.2).bind fun v2=>
  (zfg v1.1 v1.2.1 v1.2.2).bind fun v3=>
  (zfE v1.1 v1.2.2).bind fun v4=>
  (zfK v1.1 v1.2.2).bind fun v5=>
  (zdv a1).bind fun v6=>
  (zfS v6).bind fun v7=>
  (zfq v6).bind fun v8=>
  if(v2.2.2 !=v3.2.2)then
   some false
  else
   if(v2.2.1 !=v3.2.1)then
    some false
   else
    (zes v2.1 v3.1).bind fun v9=>
    if v9 then
     if(v4.2 !=v5.2)then
      some false
     else
      (zfX v4.1 v5.1).bind fun v10=>
      if v10 then
       if(v7.2.2.2 !=v8.2.2.2)then
        some false
       else
        if(v7.1 !=v8.1)then
         some false
        else
         if(v7.2.1 !=v8.2.1)then
          some false
         else
          if(v7.2.2.1 !=v8.2.2.1)then
           some false
          else
           (zdS v1.1 v1.2.2).bind fun v11=>
           if(v11 !=v4.2)then
            some false
           else
            if(!v2.2.2)then
             some true
            else
             (zfs v1.1 v1.2.1).bind fun v12=>
             (zfs v1.1 v2.1).bind fun v13=>
             if(((!v12.2)||(!v13.2))||(decide ((v4.1.length:Int)>8)))then
              some false
             else
              if(!v2.2.1)then
               (zes v2.1 v1.2.1).bind fun v14=>
               some v14
              else
               zaA (fun s:Int × Int=>zcQ v1 v12 v13 s.1 s.2) (0,0)
      else
       some false
    else
     some false
noncomputable def zdY (a0:List Int):Option (zab × za5):=
 (zbn (⟨a0,0,0⟩:zak)).bind fun v1=>
 (za6 v1.2 v1.1).bind fun v2=>
 (zaz v2.2 9).bind fun v3=>
 if v3.1 then
  (zbe v3.2).bind fun v4=>
  some ((⟨v4.1.fName,v4.1.fCols,v4.1.fIdxs⟩:zab),v2.1)
 else
  some ((⟨v1.1.fName,v1.1.fCols,v1.1.fIdxs⟩:zab),v2.1)
noncomputable def zgG (a0:zab) (a1:za5):Option (Bool):=
 (zcc a0).bind fun v1=>
 if v1 then
  (zbV a0 a1).bind fun v2=>
  some v2
 else
  some false
noncomputable def zeP (a0:zab) (a1:za5):Option (Bool):=
 (zb9 a0).bind fun v1=>
 if v1 then
  (zaL a0 a1).bind fun v2=>
  some v2
 else
  some false
noncomputable def zgJ (a0:List Int) (a1:List Int):Option (Bool):=
 if(decide ((IntKind.i64.wrap ((a0.length:Int)+(a1.length:Int)))>1048576))then
  some true
 else
  (zdY a0).bind fun v1=>
  (zck v1.1 0).bind fun v2=>
  (zck v1.1 2).bind fun v3=>
  (zck v1.1 1).bind fun v4=>
  (zck v1.1 3).bind fun v5=>
  if v2.2.2 then
   (zgG v1.1 v1.2).bind fun v6=>
   if(!v6)then
    (zeP v1.1 v1.2).bind fun v7=>
    some ((!v7)||((v1.1.fIdxs.length:Int)==0))
   else
    (zcU v3.1 ([]:List zaa) (⟨1,(⟨[]⟩:za5),v1.2⟩:zae)).bind fun v8=>
    (zcU v2.1 v8.1 (⟨2,v1.2,(⟨[]⟩:za5)⟩:zae)).bind fun v9=>
    (zcl v2.1 v2.2.1 1 v9.1).bind fun v10=>
    if((((((!v8.2.1)||(!v8.2.2))||(!v9.2.1))||(!v9.2.2))||(!v10.2))||v10.1)then
     some false
    else
     (zcU v4.1 ([]:List zaa) (⟨1,(⟨[]⟩:za5),v1.2⟩:zae)).bind fun v11=>
     (zcl v5.1 v2.2.1 2 v11.1).bind fun v12=>
     some (((v11.2.1&&v11.2.2)&&v12.2)&&(!v12.1))
  else
   (zeP v1.1 v1.2).bind fun v13=>
   some ((!v13)||((v1.1.fIdxs.length:Int)==0))
end Go.Proofs.YtgobcjbjogkpjaaGreatDoor
end
section
namespace Go.Proofs.YtgobcjbjogkpjaaGreatDoor
open Go.RowKit
set_option maxRecDepth 100000
set_option maxHeartbeats 4000000
noncomputable def zd1:FS:=mkH 376 [.v .s, .v .s] (.v (.i .i64)) (fun x=>zaI x.1 x.2.1) fun x r _ h=>zhf x.1 x.2.1 r h
noncomputable def zf5:FS:=mkH 350 [.v .s, .v (.i .u8)] (.v (.i .i64)) (fun x=>za0 x.1 x.2.1) fun x r _ h=>zf2 x.1 x.2.1 r h
noncomputable def zpI:FS:=mkH 351 [.v .s, .v (.i .i64), .v (.i .i64)] (.tu (.cons (.v (.i .i64)) (.cons (.v .b) .nil))) (fun x=>zgB x.1 x.2.1 x.2.2.1) fun x r _ h=>zpA x.1 x.2.1 x.2.2.1 r h
noncomputable def zp8:FS:=mkH 327 [.v (.i .i64)] (.v .s) (fun x=>zic x.1) fun x r _ h=>zp3 x.1 r h
noncomputable def zoZ:FS:=mkH 367 [.v .s, .v .s] (.v (.i .i64)) (fun x=>zfr x.1 x.2.1) fun x r _ h=>zpq x.1 x.2.1 r h
noncomputable def zpz:FS:=mkH 274 [.v (.l .s), .v .s] (.v .s) (fun x=>zgK x.1 x.2.1) fun x r _ h=>zpV x.1 x.2.1 r h
noncomputable def zmL:FS:=mkH 366 [.v .s, .v (.i .i64)] (.v (.l .s)) (fun x=>zgl x.1 x.2.1) fun x r _ h=>zmB x.1 x.2.1 r h
noncomputable def zd7:FS:=mkH 329 [.v (.l (.st 0)), .v (.i .i64), .v (.l (.st 0))] (.v (.l (.st 0))) (fun x=>znN x.1 x.2.1 x.2.2.1) fun x r hp h=>zA1 (t:=34) (it:=3) (el:=152) (K:=3) (by kernel_rfl) (fun _=>by kernel_rfl) zya h
noncomputable def zkq:FS:=mkF 200 [.rf (.st 1)] (.tu (.cons (.v (.i .i64)) (.cons (.v (.st 1)) .nil))) (fun x=>zcg x.1) [] [.inl] (fun _ _=>by kernel_rfl) (fun _ _=>by kernel_rfl)
noncomputable def zaB:FS:=mkF 97 [.rf (.st 1), .v (.i .i64)] (.tu (.cons (.v (.i .i64)) (.cons (.v (.st 1)) .nil))) (fun x=>zag x.1 x.2.1) [zkq] [.inl] (fun _ _=>by kernel_rfl) (fun _ _=>by kernel_rfl)
noncomputable def zby:FS:=mkF 138 [.rf (.st 1), .v (.l .s)] (.tu (.cons (.v .s) (.cons (.v (.st 1)) .nil))) (fun x=>zar x.1 x.2.1) [zaB] [] (fun _ _=>by kernel_rfl) (fun _ _=>by kernel_rfl)
noncomputable def zcw:FS:=mkF 78 [.rf (.st 1), .v (.i .i64)] (.tu (.cons (.v .b) (.cons (.v (.st 1)) .nil))) (fun x=>zaz x.1 x.2.1) [zaB] [] (fun _ _=>by kernel_rfl) (fun _ _=>by kernel_rfl)
noncomputable def zel:FS:=mkF 76 [.rf (.st 1)] (.tu (.cons (.v (.st 3)) (.cons (.v (.st 1)) .nil))) (fun x=>zbn x.1) [zby,zaB,zcw] [.sp [.i .i64, .l (.i .u8), .i .i64, .i .u64, .l (.st 2)], .inl, .pt] (fun _ _=>by kernel_rfl) (fun _ _=>by kernel_rfl)
noncomputable def ze9:FS:=mkF 171 [.rf (.st 1), .v (.st 3)] (.tu (.cons (.v (.st 4)) (.cons (.v (.st 1)) .nil))) (fun x=>zaQ x.1 x.2.1) [zby] [.sp [.l (.i .u8), .i .i64, .i .u64, .l .s]] (fun _ _=>by kernel_rfl) (fun _ _=>by kernel_rfl)
noncomputable def zpH:FS:=mkF 298 [.v (.l .s), .v .s] (.v .s) (fun x=>zim x.1 x.2.1) [] [.sp [.s, .i .i64], .inl] (fun _ _=>by kernel_rfl) (fun _ _=>by kernel_rfl)
noncomputable def zhH:FS:=mkF 224 [.v (.st 3), .v (.st 4)] (.v (.st 0)) (fun x=>zbY x.1 x.2.1) [zpH] [] (fun _ _=>by kernel_rfl) (fun _ _=>by kernel_rfl)
noncomputable def zhw:FS:=mkF 193 [.v (.l (.st 0)), .v (.st 0)] (.v (.l (.st 0))) (fun x=>zaT x.1 x.2.1) [] [.sp [.i .i64]] (fun _ _=>by kernel_rfl) (fun _ _=>by kernel_rfl)
noncomputable def zkP:FS:=mkF 345 [.v .s, .v (.i .u8)] (.v (.l .s)) (fun x=>zc2 x.1 x.2.1) [] [.sp [.l .s, .i .i64, .i .i64], .inl] (fun _ _=>by kernel_rfl) (fun _ _=>by kernel_rfl)
noncomputable def zc3:FS:=mkF 101 [.v (.i .i64), .v (.i .i64), .v (.i .i64)] (.v .b) (fun x=>zbw x.1 x.2.1 x.2.2.1) [] [] (fun _ _=>by kernel_rfl) (fun _ _=>by kernel_rfl)
noncomputable def zij:FS:=mkF 260 [.v .s, .v .s] (.v .b) (fun x=>zdT x.1 x.2.1) [] [.sp [.i .i64], .sp [.b, .i .i64]] (fun _ _=>by kernel_rfl) (fun _ _=>by kernel_rfl)
noncomputable def zjI:FS:=mkF 175 [.v .s] (.v .b) (fun x=>zdf x.1) [zc3,zij] [] (fun _ _=>by kernel_rfl) (fun _ _=>by kernel_rfl)
noncomputable def zie:FS:=mkF 82 [.v (.st 3), .v (.st 4)] (.v .b) (fun x=>zbV x.1 x.2.1) [zjI] [.sp [.i .i64]] (fun _ _=>by kernel_rfl) (fun _ _=>by kernel_rfl)
noncomputable def zpT:FS:=mkF 297 [.v (.st 3), .v (.st 0)] (.tu (.cons (.v (.st 4)) (.cons (.v .b) .nil))) (fun x=>zgu x.1 x.2.1) [zkP,zie,zhH] [] (fun _ _=>by kernel_rfl) (fun _ _=>by kernel_rfl)
noncomputable def zh8:FS:=mkF 223 [.v (.st 3), .v (.l (.st 0))] (.v (.l (.st 4))) (fun x=>zeI x.1 x.2.1) [zpT] [.sp [.l (.st 4), .i .i64], .inl] (fun _ _=>by kernel_rfl) (fun _ _=>by kernel_rfl)
noncomputable def zhF:FS:=mkF 279 [.v (.st 3), .v (.st 2), .v (.st 4)] (.v .s) (fun x=>zbB x.1 x.2.1 x.2.2.1) [] [] (fun _ _=>by kernel_rfl) (fun _ _=>by kernel_rfl)
noncomputable def zkZ:FS:=mkF 280 [.rf (.st 1)] (.tu (.cons (.v .s) (.cons (.v (.st 1)) .nil))) (fun x=>zdC x.1) [zby] [] (fun _ _=>by kernel_rfl) (fun _ _=>by kernel_rfl)
noncomputable def zlc:FS:=mkF 281 [.rf (.st 1)] (.tu (.cons (.v .s) (.cons (.v (.st 1)) .nil))) (fun x=>zdD x.1) [zby] [] (fun _ _=>by kernel_rfl) (fun _ _=>by kernel_rfl)
noncomputable def zj1:FS:=mkF 192 [.rf (.st 1), .v (.st 3)] (.tu (.cons (.v (.l (.st 0))) (.cons (.v (.st 1)) .nil))) (fun x=>zcX x.1 x.2.1) [zaB,zcw,zkZ,zlc,zhw,zh8,ze9,zhF,zhH] [.sp [.l (.st 0), .i .i64, .l (.i .u8), .i .i64, .i .u64], .sp [.i .i64, .l (.i .u8), .i .i64, .i .u64, .l (.st 0)], .inl, .sp [.i .i64, .l (.i .u8), .i .i64, .i .u64, .l (.st 0)], .inl, .inl] (fun _ _=>by kernel_rfl) (fun _ _=>by kernel_rfl)
noncomputable def zin:FS:=mkF 91 [.rf (.st 1), .v (.st 3)] (.tu (.cons (.v (.l (.st 0))) (.cons (.v (.st 1)) .nil))) (fun x=>zbX x.1 x.2.1) [zj1,zaB,zby,zhw] [.inl] (fun _ _=>by kernel_rfl) (fun _ _=>by kernel_rfl)
noncomputable def zkX:FS:=mkF 194 [.rf (.st 1), .v (.st 3), .v (.l (.st 0))] (.tu (.cons (.v (.st 5)) (.cons (.v (.st 1)) .nil))) (fun x=>zdx x.1 x.2.1 x.2.2.1) [zh8,ze9,zaB,zcw] [.pt, .pt] (fun _ _=>by kernel_rfl) (fun _ _=>by kernel_rfl)
noncomputable def zfL:FS:=mkF 77 [.rf (.st 1), .v (.st 3)] (.tu (.cons (.v (.st 4)) (.cons (.v (.st 1)) .nil))) (fun x=>za6 x.1 x.2.1) [ze9,zaB,zby] [.inl] (fun _ _=>by kernel_rfl) (fun _ _=>by kernel_rfl)
noncomputable def zjd:FS:=mkF 92 [.rf (.st 1), .v (.st 3), .v (.l (.st 0))] (.tu (.cons (.v (.st 5)) (.cons (.v (.st 1)) .nil))) (fun x=>zci x.1 x.2.1 x.2.2.1) [zkX,zaB,zfL] [.inl] (fun _ _=>by kernel_rfl) (fun _ _=>by kernel_rfl)
noncomputable def zeS:FS:=mkF 79 [.rf (.st 1)] (.tu (.cons (.v (.st 3)) (.cons (.v (.st 1)) .nil))) (fun x=>zbe x.1) [zel,zaB,zby] [.inl] (fun _ _=>by kernel_rfl) (fun _ _=>by kernel_rfl)
noncomputable def zju:FS:=mkF 18 [.v (.l (.i .u8))] (.tu (.cons (.v (.st 3)) (.cons (.v (.l (.st 0))) (.cons (.v (.st 5)) .nil)))) (fun x=>zdO x.1) [zel,zin,zjd,zcw,zeS] [.inl] (fun _ _=>by kernel_rfl) (fun _ _=>by kernel_rfl)
noncomputable def ziG:FS:=mkF 173 [.v .s, .v (.i .i64)] (.v .b) (fun x=>zco x.1 x.2.1) [] [.sp [.i .i64]] (fun _ _=>by kernel_rfl) (fun _ _=>by kernel_rfl)
noncomputable def znm:FS:=mkF 259 [.v (.l .s), .v .s] (.v (.i .i64)) (fun x=>zgM x.1 x.2.1) [] [.sp [.i .i64]] (fun _ _=>by kernel_rfl) (fun _ _=>by kernel_rfl)
noncomputable def zpP:FS:=mkF 174 [.v (.l .s)] (.v .b) (fun x=>zgH x.1) [zc3,ziG,znm] [.sp [.i .i64]] (fun _ _=>by kernel_rfl) (fun _ _=>by kernel_rfl)
noncomputable def ze0:FS:=mkF 81 [.v (.st 3)] (.v .b) (fun x=>zcc x.1) [ziG,zpP,zc3] [.sp [.i .i64]] (fun _ _=>by kernel_rfl) (fun _ _=>by kernel_rfl)
noncomputable def zhg:FS:=mkF 219 [.v (.st 3), .v .s] (.v (.i .i64)) (fun x=>zdz x.1 x.2.1) [] [.sp [.i .i64]] (fun _ _=>by kernel_rfl) (fun _ _=>by kernel_rfl)
noncomputable def zph:FS:=mkF 141 [.v (.st 3), .v .s, .v (.i .i64)] (.v .b) (fun x=>zhR x.1 x.2.1 x.2.2.1) [ze0,zhg,zc3] [] (fun _ _=>by kernel_rfl) (fun _ _=>by kernel_rfl)
noncomputable def zr8:FS:=mkF 230 [.v (.st 3)] (.v (.st 3)) (fun x=>zhs x.1) [] [] (fun _ _=>by kernel_rfl) (fun _ _=>by kernel_rfl)
noncomputable def zrW:FS:=mkF 172 [.v (.st 3), .v .s, .v (.i .i64)] (.v (.st 3)) (fun x=>zhn x.1 x.2.1 x.2.2.1) [zr8,zhg] [] (fun _ _=>by kernel_rfl) (fun _ _=>by kernel_rfl)
noncomputable def zod:FS:=mkF 80 [.v (.st 3), .v .s, .v (.i .i64)] (.tu (.cons (.v (.st 3)) (.cons (.v .b) .nil))) (fun x=>zhP x.1 x.2.1 x.2.2.1) [zph,zrW] [] (fun _ _=>by kernel_rfl) (fun _ _=>by kernel_rfl)
noncomputable def zkG:FS:=mkF 13 [.v (.st 3), .v (.i .i64)] (.tu (.cons (.v (.st 3)) (.cons (.v .s) (.cons (.v .b) .nil)))) (fun x=>zck x.1 x.2.1) [zod] [] (fun _ _=>by kernel_rfl) (fun _ _=>by kernel_rfl)
noncomputable def zdE:FS:=mkF 89 [.v (.i .i64), .v (.i .i64), .v (.i .i64)] (.v .b) (fun x=>zbU x.1 x.2.1 x.2.2.1) [] [] (fun _ _=>by kernel_rfl) (fun _ _=>by kernel_rfl)
noncomputable def zmI:FS:=mkF 176 [.v .s, .v (.i .i64)] (.v .b) (fun x=>zcn x.1 x.2.1) [zdE] [.sp [.i .i64]] (fun _ _=>by kernel_rfl) (fun _ _=>by kernel_rfl)
noncomputable def zgo:FS:=mkF 261 [.v (.l .s), .v .s] (.v (.i .i64)) (fun x=>za8 x.1 x.2.1) [] [.sp [.i .i64]] (fun _ _=>by kernel_rfl) (fun _ _=>by kernel_rfl)
noncomputable def zcK:FS:=mkF 177 [.v (.l .s), .v .s] (.v .b) (fun x=>zaD x.1 x.2.1) [zgo] [] (fun _ _=>by kernel_rfl) (fun _ _=>by kernel_rfl)
noncomputable def zkK:FS:=mkF 98 [.v (.i .i64)] (.v .b) (fun x=>zeN x.1) [zdE] [] (fun _ _=>by kernel_rfl) (fun _ _=>by kernel_rfl)
noncomputable def zeV:FS:=mkF 83 [.v (.st 3)] (.v .b) (fun x=>zb9 x.1) [zmI,zdE,zkK,zcK] [.sp [.i .i64], .sp [.i .i64]] (fun _ _=>by kernel_rfl) (fun _ _=>by kernel_rfl)
noncomputable def zcx:FS:=mkH 262 [.v (.l .s), .fn [.s] .b] (.v (.i .i64)) (fun x=>zbk x.1 (fun y=>x.2.1.φ (y,()))) fun x r hp h=>zkA (f:=262) (t:=zwU) (by kernel_rfl) (by kernel_rfl) (zzj (av:=(zg0 tab.av .s)) (fun _=>rfl) h (fun y b hb=>hp.2.1 (y,()) b hb))
noncomputable def zep:FS:=mkH 178 [.v (.l .s), .fn [.s] .b] (.v .b) (fun x=>zbd x.1 (fun y=>x.2.1.φ (y,()))) fun x r hp h=>zkA (f:=178) (t:=zyo 262) (by kernel_rfl) (by kernel_rfl) (zwx h fun r hr=>zcx.ok x r hp hr)
noncomputable def zjW:FS:=mkF 320 [.v (.i .u8)] (.v .b) (fun x=>zej x.1) [] [] (fun _ _=>by kernel_rfl) (fun _ _=>by kernel_rfl)
noncomputable def zkT:FS:=mkF 321 [.v .s, .v (.i .u8)] (.v (.i .i64)) (fun x=>zfe x.1 x.2.1) [zf5] [] (fun _ _=>by kernel_rfl) (fun _ _=>by kernel_rfl)
noncomputable def zhL:FS:=mkF 263 [.v .s, .v .s] (.v .b) (fun x=>zde x.1 x.2.1) [zjW,zkT] [.sp [.i .i64]] (fun _ _=>by kernel_rfl) (fun _ _=>by kernel_rfl)
noncomputable def zkL:FS:=mkF 180 [.v .s] (.v .b) (fun x=>zdR x.1) [zdE,zhL] [] (fun _ _=>by kernel_rfl) (fun _ _=>by kernel_rfl)
noncomputable def zjv:FS:=mkF 179 [.v .s] (.v .b) (fun x=>zcG x.1) [zkL] [] (fun _ _=>by kernel_rfl) (fun _ _=>by kernel_rfl)
noncomputable def zi0:FS:=mkP zjv fun _=>by kernel_rfl
noncomputable def zeB:FS:=mkF 84 [.v (.st 3), .v (.st 4)] (.v .b) (fun x=>zaL x.1 x.2.1) [zep,zi0] [] (fun _ _=>by kernel_rfl) (fun _ _=>by kernel_rfl)
noncomputable def zjj:FS:=mkF 102 [.v (.st 3), .v (.st 5)] (.v .b) (fun x=>zcj x.1 x.2.1) [zeB] [] (fun _ _=>by kernel_rfl) (fun _ _=>by kernel_rfl)
noncomputable def zif:FS:=mkF 27 [.v (.st 3), .v (.st 5)] (.v .b) (fun x=>zdS x.1 x.2.1) [zeV,zjj] [] (fun _ _=>by kernel_rfl) (fun _ _=>by kernel_rfl)
noncomputable def znC:FS:=mkF 265 [.v (.l (.st 0))] (.v (.l .s)) (fun x=>ze4 x.1) [] [.sp [.i .i64, .l .s]] (fun _ _=>by kernel_rfl) (fun _ _=>by kernel_rfl)
noncomputable def zp0:FS:=mkF 322 [.v .s] (.v .b) (fun x=>zgy x.1) [zdE,zhL] [] (fun _ _=>by kernel_rfl) (fun _ _=>by kernel_rfl)
noncomputable def znz:FS:=mkF 264 [.v (.l .s)] (.v .b) (fun x=>ze6 x.1) [zp0] [.sp [.i .i64]] (fun _ _=>by kernel_rfl) (fun _ _=>by kernel_rfl)
noncomputable def zbx:FS:=mkH 268 [.v (.l (.st 0)), .fn [.st 0] .b] (.v (.i .i64)) (fun x=>zbk x.1 (fun y=>x.2.1.φ (y,()))) fun x r hp h=>zkA (f:=268) (t:=zyy 3) (by kernel_rfl) (by kernel_rfl) (zxL (av:=(zg0 tab.av (.st 0))) (cn:=3) (fun _=>⟨_,rfl,rfl⟩) h (fun y b hb=>hp.2.1 (y,()) b hb))
noncomputable def zbg:FS:=mkH 182 [.v (.l (.st 0)), .fn [.st 0] .b] (.v .b) (fun x=>zbd x.1 (fun y=>x.2.1.φ (y,()))) fun x r hp h=>zkA (f:=182) (t:=zyo 268) (by kernel_rfl) (by kernel_rfl) (zwx h fun r hr=>zbx.ok x r hp hr)
noncomputable def zpL:FS:=mkF 323 [.v .s] (.v .b) (fun x=>zgw x.1) [zhL] [] (fun _ _=>by kernel_rfl) (fun _ _=>by kernel_rfl)
noncomputable def zpk:FS:=mkF 267 [.v .s, .v .b] (.v .b) (fun x=>zfA x.1 x.2.1) [zpL] [] (fun _ _=>by kernel_rfl) (fun _ _=>by kernel_rfl)
end Go.Proofs.YtgobcjbjogkpjaaGreatDoor
end
section
namespace Go.Proofs.YtgobcjbjogkpjaaGreatDoor
open Go.RowKit
set_option maxRecDepth 100000
set_option maxHeartbeats 4000000
noncomputable def zlm:FS:=mkF 266 [.v (.st 0)] (.v .b) (fun x=>zds x.1) [zpk] [] (fun _ _=>by kernel_rfl) (fun _ _=>by kernel_rfl)
noncomputable def zkp:FS:=mkP zlm fun _=>by kernel_rfl
noncomputable def zmp:FS:=mkF 181 [.v (.l (.st 0))] (.v .b) (fun x=>zen x.1) [znC,znz,zbg,zkp] [] (fun _ _=>by kernel_rfl) (fun _ _=>by kernel_rfl)
noncomputable def zov:FS:=mkF 183 [.v (.st 0)] (.v .b) (fun x=>zfO x.1) [] [] (fun _ _=>by kernel_rfl) (fun _ _=>by kernel_rfl)
noncomputable def zny:FS:=mkP zov fun _=>by kernel_rfl
noncomputable def zjm:FS:=mkF 85 [.v (.l (.st 0))] (.v .b) (fun x=>zex x.1) [zmp,zbg,zny] [] (fun _ _=>by kernel_rfl) (fun _ _=>by kernel_rfl)
noncomputable def zfF:FS:=mkF 187 [.v (.st 3), .v (.st 4)] (.v (.st 0)) (fun x=>za7 x.1 x.2.1) [zpz] [] (fun _ _=>by kernel_rfl) (fun _ _=>by kernel_rfl)
noncomputable def zjg:FS:=mkF 186 [.v (.i .i64), .v (.st 0), .rf (.l (.st 6))] (.tu (.cons (.tu .nil) (.cons (.bo (.l (.st 6))) .nil))) (fun x=>zav x.1 x.2.1 x.2.2.1) [] [] (fun _ _=>by kernel_rfl) (fun _ _=>by kernel_rfl)
noncomputable def zf6:FS:=mkF 275 [.v (.st 3), .v .s] (.v .s) (fun x=>zbK x.1 x.2.1) [] [] (fun _ _=>by kernel_rfl) (fun _ _=>by kernel_rfl)
noncomputable def zek:FS:=mkH 292 [.v (.l (.st 2)), .fn [.st 2] .b] (.v (.i .i64)) (fun x=>zbk x.1 (fun y=>x.2.1.φ (y,()))) fun x r hp h=>zkA (f:=292) (t:=zyy 3) (by kernel_rfl) (by kernel_rfl) (zxL (av:=(zg0 tab.av (.st 2))) (cn:=3) (fun _=>⟨_,rfl,rfl⟩) h (fun y b hb=>hp.2.1 (y,()) b hb))
noncomputable def zis:FS:=mkF 293 [.v (.st 2), .rf .s] (.v .b) (fun x=>zdl x.1 x.2.1) [] [] (fun _ _=>by kernel_rfl) (fun _ _=>by kernel_rfl)
noncomputable def zik:FS:=mkP zis fun _=>by kernel_rfl
noncomputable def zf9:FS:=mkF 212 [.v (.st 3), .v .s] (.v (.i .i64)) (fun x=>zbM x.1 x.2.1) [zek,zik] [] (fun _ _=>by kernel_rfl) (fun _ _=>by kernel_rfl)
noncomputable def zmf:FS:=mkF 214 [.v (.st 3), .v .s] (.v (.st 2)) (fun x=>zd0 x.1 x.2.1) [zf9] [] (fun _ _=>by kernel_rfl) (fun _ _=>by kernel_rfl)
noncomputable def zgN:FS:=mkF 188 [.v (.st 3), .v .s, .v (.st 4)] (.v .s) (fun x=>zaP x.1 x.2.1 x.2.2.1) [zf6,zmf] [] (fun _ _=>by kernel_rfl) (fun _ _=>by kernel_rfl)
noncomputable def zku:FS:=mkF 99 [.v (.i .i64)] (.v .b) (fun x=>zeR x.1) [] [] (fun _ _=>by kernel_rfl) (fun _ _=>by kernel_rfl)
noncomputable def zkx:FS:=mkF 100 [.v (.i .i64)] (.v .b) (fun x=>zeK x.1) [] [] (fun _ _=>by kernel_rfl) (fun _ _=>by kernel_rfl)
noncomputable def zgQ:FS:=mkF 87 [.v (.st 3), .v (.st 5)] (.v (.l (.st 6))) (fun x=>zb2 x.1 x.2.1) [zkx,zjg,zku,zgN,zfF] [.sp [.s, .s, .b, .l (.st 6)], .pt, .pt, .sp [.i .i64, .l (.st 6)], .inl, .sp [.s], .pt, .pt] (fun _ _=>by kernel_rfl) (fun _ _=>by kernel_rfl)
noncomputable def zbZ:FS:=mkF 353 [.v (.l (.st 0)), .v .s, .fn [.st 0, .s] (.i .i64)] (.tu (.cons (.v (.i .i64)) (.cons (.v .b) .nil))) (fun x=>zaw x.1 x.2.1 (fun y0 y1=>x.2.2.1.φ (y0,y1,()))) [] [.sp [.i .i64, .i .i64]] (fun _ _=>by kernel_rfl) (fun _ _=>by kernel_rfl)
noncomputable def zk7:FS:=mkF 372 [.v .s] (.v .b) (fun x=>zcz x.1) [] [] (fun _ _=>by kernel_rfl) (fun _ _=>by kernel_rfl)
noncomputable def zjR:FS:=mkF 355 [.v .s, .v .s] (.v (.i .i64)) (fun x=>zcV x.1 x.2.1) [zk7] [] (fun _ _=>by kernel_rfl) (fun _ _=>by kernel_rfl)
noncomputable def zlV:FS:=mkF 354 [.v (.st 0), .v .s] (.v (.i .i64)) (fun x=>zb7 x.1 x.2.1) [zjR] [] (fun _ _=>by kernel_rfl) (fun _ _=>by kernel_rfl)
noncomputable def zla:FS:=mkP zlV fun _=>by kernel_rfl
noncomputable def zg9:FS:=mkF 328 [.v (.l (.st 0)), .v .s] (.tu (.cons (.v (.i .i64)) (.cons (.v .b) .nil))) (fun x=>zbF x.1 x.2.1) [zbZ,zla] [] (fun _ _=>by kernel_rfl) (fun _ _=>by kernel_rfl)
noncomputable def zjX:FS:=mkF 271 [.v (.l (.st 0)), .v (.st 0)] (.v (.l (.st 0))) (fun x=>zcB x.1 x.2.1) [zg9,zd7] [] (fun _ _=>by kernel_rfl) (fun _ _=>by kernel_rfl)
noncomputable def zp1:FS:=mkF 324 [.v .s, .v (.l (.st 0)), .v (.l (.st 7))] (.tu (.cons (.v .s) (.cons (.v .b) (.cons (.v .b) .nil)))) (fun x=>zgt x.1 x.2.1 x.2.2.1) [zg9] [.sp [.i .i64]] (fun _ _=>by kernel_rfl) (fun _ _=>by kernel_rfl)
noncomputable def zj3:FS:=mkF 326 [.v .s] (.tu (.cons (.v (.i .i64)) (.cons (.v .b) .nil))) (fun x=>zed x.1) [zpI] [] (fun _ _=>by kernel_rfl) (fun _ _=>by kernel_rfl)
noncomputable def zmz:FS:=mkF 325 [.v (.st 6), .v .s, .v .b] (.v .b) (fun x=>zet x.1 x.2.1 x.2.2.1) [zj3,zdE] [] (fun _ _=>by kernel_rfl) (fun _ _=>by kernel_rfl)
noncomputable def zpN:FS:=mkF 269 [.v (.l (.st 6)), .v (.l (.st 7))] (.tu (.cons (.v (.i .i64)) (.cons (.v .s) (.cons (.v (.l (.st 0))) .nil)))) (fun x=>zib x.1 x.2.1) [zjX,zp1,zmz,zj3,zp8] [.sp [.i .i64, .l (.st 0)], .inl] (fun _ _=>by kernel_rfl) (fun _ _=>by kernel_rfl)
noncomputable def zsZ:FS:=mkF 270 [.v (.l (.st 0)), .v .s] (.v (.st 7)) (fun x=>zh3 x.1 x.2.1) [zg9] [] (fun _ _=>by kernel_rfl) (fun _ _=>by kernel_rfl)
noncomputable def zpe:FS:=mkF 184 [.v (.l (.st 0)), .v (.l (.st 6))] (.tu (.cons (.v (.l (.st 7))) (.cons (.v (.l (.st 0))) (.cons (.v .b) .nil)))) (fun x=>zhS x.1 x.2.1) [zpN,zsZ] [.sp [.l (.st 7)]] (fun _ _=>by kernel_rfl) (fun _ _=>by kernel_rfl)
noncomputable def zef:FS:=mkH 140 [.v (.l (.st 0))] (.v (.l (.st 0))) (fun x=>za3 x.1) fun x r hp h=>zkA (f:=140) (t:=zu0 40 3) (by kernel_rfl) (by kernel_rfl) (zth (bytes:=40) (sz:=3) (av:=(zg0 tab.av (.st 0))) (fun x=>⟨zmQ _ x,zhz (by kernel_rfl) x⟩) h)
noncomputable def zdo:FS:=mkH 272 [.v (.l (.st 0)), .fn [.st 0] .b] (.v (.l (.st 0))) (fun x=>zd9 x.1 (fun y=>x.2.1.φ (y,()))) fun x r hp h=>zkA (f:=272) (t:=zy0 268 3 true (.mk (.cons (.fld (.fld (.idx (.var 5) (.var 4)) 0 3 true) 0 1 false) (.cons (.fld (.fld (.idx (.var 5) (.var 4)) 0 3 true) 1 1 false) (.cons (.fld (.fld (.idx (.var 5) (.var 4)) 0 3 true) 2 1 false) .nil)))) [(.agg (.fld (.idx (.var 5) (.var 4)) 0 3 true) 3)] (.mk (.cons (.str (ByteArray.mk #[])) (.cons (.str (ByteArray.mk #[])) (.cons (.bool false) .nil))))) (by kernel_rfl) (by kernel_rfl) (zwr (av:=(zg0 tab.av (.st 0))) (fun x=>⟨zmQ _ x,zhz (by kernel_rfl) x,fun _=>⟨_,rfl⟩,fun e=>nomatch e⟩) (by decide) (fun a b c d j ys x tl hj=>by simp [AV.nth,hj,zg0,tAv]) (fun a b c d j ys x hj=>by simp [AV.nth,hj,zg0,tAv]) h (fun i hi=>zbx.ok x i hp hi) (fun y b hb=>hp.2.1 (y,()) b hb))
noncomputable def znB:FS:=mkF 273 [.v (.st 0)] (.v .b) (fun x=>zg3 x.1) [] [] (fun _ _=>by kernel_rfl) (fun _ _=>by kernel_rfl)
noncomputable def zms:FS:=mkP znB fun _=>by kernel_rfl
noncomputable def zpE:FS:=mkF 185 [.v (.l (.st 0)), .v (.l (.st 0))] (.tu (.cons (.v (.l (.st 0))) (.cons (.v .b) .nil))) (fun x=>zgI x.1 x.2.1) [zef,zdo,zms,zjX] [.sp [.i .i64, .l (.st 0)]] (fun _ _=>by kernel_rfl) (fun _ _=>by kernel_rfl)
noncomputable def zr4:FS:=mkF 86 [.v (.l (.st 0)), .v (.l (.st 6))] (.tu (.cons (.v (.l (.st 0))) (.cons (.v .b) .nil))) (fun x=>zhp x.1 x.2.1) [zpe,zpE] [] (fun _ _=>by kernel_rfl) (fun _ _=>by kernel_rfl)
noncomputable def zjG:FS:=mkF 16 [.v (.st 3), .v (.l (.st 0)), .v (.st 5)] (.tu (.cons (.v (.l (.st 0))) (.cons (.v .b) (.cons (.v .b) .nil)))) (fun x=>zcU x.1 x.2.1 x.2.2.1) [zif,zjm,zgQ,zr4] [] (fun _ _=>by kernel_rfl) (fun _ _=>by kernel_rfl)
noncomputable def zp5:FS:=mkF 195 [.v (.st 3), .v (.st 5)] (.v .b) (fun x=>zgz x.1 x.2.1) [zie] [] (fun _ _=>by kernel_rfl) (fun _ _=>by kernel_rfl)
noncomputable def zkz:FS:=mkF 93 [.v (.st 3), .v (.st 5)] (.v .b) (fun x=>zeT x.1 x.2.1) [ze0,zp5] [] (fun _ _=>by kernel_rfl) (fun _ _=>by kernel_rfl)
noncomputable def znb:FS:=mkF 336 [.v .s] (.v .b) (fun x=>zgW x.1) [zc3,zij] [] (fun _ _=>by kernel_rfl) (fun _ _=>by kernel_rfl)
noncomputable def znf:FS:=mkF 337 [.v .s] (.v .b) (fun x=>zgR x.1) [zij] [] (fun _ _=>by kernel_rfl) (fun _ _=>by kernel_rfl)
noncomputable def zpX:FS:=mkF 282 [.v .s, .v .s, .v .b] (.v .b) (fun x=>zgv x.1 x.2.1 x.2.2.1) [znb,znf] [] (fun _ _=>by kernel_rfl) (fun _ _=>by kernel_rfl)
noncomputable def zot:FS:=mkF 196 [.v (.l (.st 0))] (.v .b) (fun x=>zfv x.1) [zpX] [.sp [.i .i64]] (fun _ _=>by kernel_rfl) (fun _ _=>by kernel_rfl)
noncomputable def zjb:FS:=mkF 94 [.v (.l (.st 0))] (.v .b) (fun x=>zcS x.1) [zot] [.sp [.i .i64]] (fun _ _=>by kernel_rfl) (fun _ _=>by kernel_rfl)
noncomputable def zp2:FS:=mkF 198 [.v (.st 3), .v (.st 5)] (.v (.l (.st 6))) (fun x=>zgx x.1 x.2.1) [zhH] [] (fun _ _=>by kernel_rfl) (fun _ _=>by kernel_rfl)
noncomputable def zr5:FS:=mkF 199 [.v (.st 3), .v (.st 2), .v (.st 5)] (.v (.l (.st 6))) (fun x=>zfC x.1 x.2.1 x.2.2.1) [zhF] [.sp [.s], .pt, .pt, .inl] (fun _ _=>by kernel_rfl) (fun _ _=>by kernel_rfl)
noncomputable def zlI:FS:=mkF 96 [.v (.st 3), .v (.st 5)] (.v (.l (.st 6))) (fun x=>zfH x.1 x.2.1) [zp2,zr5] [.sp [.i .i64, .l (.st 6)]] (fun _ _=>by kernel_rfl) (fun _ _=>by kernel_rfl)
noncomputable def ztI:FS:=mkF 338 [.v (.st 6)] (.v .b) (fun x=>ziW x.1) [znb,znf,zc3] [.pt, .inl] (fun _ _=>by kernel_rfl) (fun _ _=>by kernel_rfl)
noncomputable def zrq:FS:=mkF 283 [.v (.l (.st 6))] (.v .b) (fun x=>zhq x.1) [ztI] [.sp [.i .i64]] (fun _ _=>by kernel_rfl) (fun _ _=>by kernel_rfl)
noncomputable def zom:FS:=mkF 361 [.v (.l (.st 0)), .v (.l (.st 7)), .v .s] (.tu (.cons (.v .s) (.cons (.v .b) (.cons (.v .b) .nil)))) (fun x=>zfI x.1 x.2.1 x.2.2.1) [] [.sp [.i .i64], .sp [.i .i64]] (fun _ _=>by kernel_rfl) (fun _ _=>by kernel_rfl)
noncomputable def zru:FS:=mkF 377 [.v .s] (.v (.i .i64)) (fun x=>zfR x.1) [zc3] [.sp [.i .i64, .i .i64]] (fun _ _=>by kernel_rfl) (fun _ _=>by kernel_rfl)
noncomputable def zne:FS:=mkF 363 [.v .s] (.tu (.cons (.v (.i .i64)) (.cons (.v .b) .nil))) (fun x=>zgZ x.1) [zru] [.pt] (fun _ _=>by kernel_rfl) (fun _ _=>by kernel_rfl)
noncomputable def zpW:FS:=mkF 362 [.v (.st 6), .v .s, .v .b] (.v .b) (fun x=>zgC x.1 x.2.1 x.2.2.1) [zne,zc3] [] (fun _ _=>by kernel_rfl) (fun _ _=>by kernel_rfl)
theorem zni: ∀(n:Nat) (xs:HP tab.car [.v (.i .i64)]) (y:RTI tab.car (.v .s)),zsd tab [.v (.i .i64)] xs→((fun x=>zeH n x.1):HP tab.car [.v (.i .i64)]→Option (RTI tab.car (.v .s))) xs=some y→tab.Rt 378 (zjz tab [.v (.i .i64)] xs) (zsc tab (.v .s) y)
 |0,_,_,_,h=>nomatch h
 |n+1,xs,y,hp,h=>zBq (ps:= [.v (.i .i64)]) (r:=(.v .s)) [mkH 378 [.v (.i .i64)] (.v .s) (fun x=>zeH n x.1) (zni n)] [] (φ:=(fun x=>zeH (n+1) x.1)) (fun _ _=>by kernel_rfl) (fun _ _=>by kernel_rfl) xs y hp h
noncomputable def zsv:FS:=mkH 378 [.v (.i .i64)] (.v .s) (fun x=>zj4 x.1) (zni zBX)
noncomputable def zrN:FS:=mkF 364 [.v (.i .i64)] (.v .s) (fun x=>zi6 x.1) [zsv] [] (fun _ _=>by kernel_rfl) (fun _ _=>by kernel_rfl)
noncomputable def zrb:FS:=mkF 339 [.v (.l (.st 6)), .v (.l (.st 7))] (.tu (.cons (.v (.i .i64)) (.cons (.v .s) (.cons (.v (.l (.st 0))) .nil)))) (fun x=>ziS x.1 x.2.1) [zom,zpW,zhw,zne,zrN] [.sp [.l (.st 0), .i .i64], .inl, .inl] (fun _ _=>by kernel_rfl) (fun _ _=>by kernel_rfl)
noncomputable def zrp:FS:=mkF 340 [.v (.l (.st 0)), .v .s] (.v (.st 7)) (fun x=>zhm x.1 x.2.1) [] [.sp [.i .i64]] (fun _ _=>by kernel_rfl) (fun _ _=>by kernel_rfl)
noncomputable def zpU:FS:=mkF 284 [.v (.l (.st 0)), .v (.l (.st 6))] (.tu (.cons (.v (.l (.st 7))) (.cons (.v (.l (.st 0))) (.cons (.v .b) .nil)))) (fun x=>zih x.1 x.2.1) [zrb,zrp] [.sp [.l (.st 7)]] (fun _ _=>by kernel_rfl) (fun _ _=>by kernel_rfl)
noncomputable def znq:FS:=mkF 285 [.v (.l (.st 0)), .v (.l (.st 0))] (.v (.l (.st 0))) (fun x=>ze2 x.1 x.2.1) [zhw] [.sp [.i .i64, .l (.st 0)], .sp [.l (.st 0), .i .i64], .inl] (fun _ _=>by kernel_rfl) (fun _ _=>by kernel_rfl)
noncomputable def znx:FS:=mkF 197 [.v (.l (.st 0)), .v (.l (.l (.st 6)))] (.tu (.cons (.v (.l (.st 0))) (.cons (.v (.l .b)) (.cons (.v .b) .nil)))) (fun x=>ze1 x.1 x.2.1) [zjb,zpU,znq,zrq] [.sp [.i .i64], .sp [.l .b, .i .i64, .l (.st 0)], .inl] (fun _ _=>by kernel_rfl) (fun _ _=>by kernel_rfl)
noncomputable def zsn:FS:=mkF 95 [.v (.l (.st 0)), .v (.l (.st 6))] (.tu (.cons (.v (.l (.st 0))) (.cons (.v .b) .nil))) (fun x=>zh4 x.1 x.2.1) [znx] [] (fun _ _=>by kernel_rfl) (fun _ _=>by kernel_rfl)
noncomputable def zm5:FS:=mkF 19 [.v (.st 3), .v (.l (.st 0)), .v (.st 5)] (.tu (.cons (.v (.l (.st 0))) (.cons (.v .b) (.cons (.v .b) .nil)))) (fun x=>zfg x.1 x.2.1 x.2.2.1) [zkz,zjb,zlI,zsn] [] (fun _ _=>by kernel_rfl) (fun _ _=>by kernel_rfl)
noncomputable def zri:FS:=mkF 121 [.v (.st 3), .v .s] (.v .b) (fun x=>zht x.1 x.2.1) [zeV,zf9] [] (fun _ _=>by kernel_rfl) (fun _ _=>by kernel_rfl)
noncomputable def zmt:FS:=mkF 88 [.v (.st 3), .v .s, .v (.l (.st 0))] (.v .b) (fun x=>zeu x.1 x.2.1 x.2.2.1) [zri,zjm] [] (fun _ _=>by kernel_rfl) (fun _ _=>by kernel_rfl)
end Go.Proofs.YtgobcjbjogkpjaaGreatDoor
end
section
namespace Go.Proofs.YtgobcjbjogkpjaaGreatDoor
open Go.RowKit
set_option maxRecDepth 100000
set_option maxHeartbeats 4000000
noncomputable def zf3:FS:=mkF 365 [.v .s, .v .s] (.v .b) (fun x=>za1 x.1 x.2.1) [] [] (fun _ _=>by kernel_rfl) (fun _ _=>by kernel_rfl)
noncomputable def zf1:FS:=mkF 341 [.v .s, .v .s] (.tu (.cons (.v .s) (.cons (.v .b) .nil))) (fun x=>zbG x.1 x.2.1) [zf3] [] (fun _ _=>by kernel_rfl) (fun _ _=>by kernel_rfl)
noncomputable def zhQ:FS:=mkF 286 [.v .s, .v .s] (.tu (.cons (.v .s) (.cons (.v .b) .nil))) (fun x=>zcA x.1 x.2.1) [zf1] [] (fun _ _=>by kernel_rfl) (fun _ _=>by kernel_rfl)
noncomputable def zhW:FS:=mkF 360 [.v .s, .v .s] (.tu (.cons (.v .s) (.cons (.v .s) (.cons (.v .b) .nil)))) (fun x=>zbI x.1 x.2.1) [zd1] [] (fun _ _=>by kernel_rfl) (fun _ _=>by kernel_rfl)
noncomputable def zr1:FS:=mkF 333 [.v .s, .v .s] (.tu (.cons (.v .s) (.cons (.v .s) (.cons (.v .b) .nil)))) (fun x=>zeq x.1 x.2.1) [zhW] [] (fun _ _=>by kernel_rfl) (fun _ _=>by kernel_rfl)
noncomputable def zh9:FS:=mkF 276 [.v (.st 3), .v .s, .v .s] (.tu (.cons (.v .s) (.cons (.v .s) (.cons (.v .b) .nil)))) (fun x=>zbW x.1 x.2.1 x.2.2.1) [zf6,zhQ,zr1,zkL] [] (fun _ _=>by kernel_rfl) (fun _ _=>by kernel_rfl)
noncomputable def zc8:FS:=mkF 189 [.v (.st 3), .v .s, .v (.l (.st 0))] (.v (.l .s)) (fun x=>zbr x.1 x.2.1 x.2.2.1) [zh9] [.sp [.i .i64, .l .s], .inl] (fun _ _=>by kernel_rfl) (fun _ _=>by kernel_rfl)
noncomputable def zoN:FS:=mkF 368 [.v .s, .v .s] (.v (.i .i64)) (fun x=>zfD x.1 x.2.1) [zd1] [] (fun _ _=>by kernel_rfl) (fun _ _=>by kernel_rfl)
noncomputable def zlB:FS:=mkF 342 [.v .s, .v .s, .v (.i .i64), .v (.i .i64)] (.v (.l .s)) (fun x=>zfP x.1 x.2.1 x.2.2.1 x.2.2.2.1) [zmL,zoN,zoZ] [.pt, .sp [.s, .i .i64, .l .s]] (fun _ _=>by kernel_rfl) (fun _ _=>by kernel_rfl)
noncomputable def zpb:FS:=mkF 287 [.v .s, .v .s] (.v (.l .s)) (fun x=>zem x.1 x.2.1) [zlB] [] (fun _ _=>by kernel_rfl) (fun _ _=>by kernel_rfl)
noncomputable def zjw:FS:=mkF 201 [.v (.st 3), .v (.st 0)] (.tu (.cons (.v (.st 4)) (.cons (.v .b) .nil))) (fun x=>zcD x.1 x.2.1) [zhQ,zpb,zeB,zfF] [] (fun _ _=>by kernel_rfl) (fun _ _=>by kernel_rfl)
noncomputable def zgL:FS:=mkF 103 [.v (.st 3), .v (.l (.st 0))] (.v (.l (.st 4))) (fun x=>zcR x.1 x.2.1) [zjw] [.sp [.i .i64, .l (.st 4)], .inl] (fun _ _=>by kernel_rfl) (fun _ _=>by kernel_rfl)
noncomputable def zgY:FS:=mkF 278 [.v (.st 3), .v .s, .v (.l (.st 0))] (.v (.l .s)) (fun x=>zb0 x.1 x.2.1 x.2.2.1) [zgL,zgN] [.sp [.i .i64, .l .s]] (fun _ _=>by kernel_rfl) (fun _ _=>by kernel_rfl)
noncomputable def zgd:FS:=mkH 294 [.v (.l .s)] (.v (.l .s)) (fun x=>zbR x.1) fun x r hp h=>zkA (f:=294) (t:=zu0 16 1) (by kernel_rfl) (by kernel_rfl) (zth (bytes:=16) (sz:=1) (av:=(zg0 tab.av .s)) (fun x=>⟨zmQ _ x,zhz (by kernel_rfl) x⟩) h)
noncomputable def zeQ:FS:=mkH 334 [.v (.l .s), .fn [.s] .b] (.v (.l .s)) (fun x=>zd9 x.1 (fun y=>x.2.1.φ (y,()))) fun x r hp h=>zkA (f:=334) (t:=zy0 262 1 false (.fld (.idx (.var 5) (.var 4)) 0 1 false) [] (.str (ByteArray.mk #[]))) (by kernel_rfl) (by kernel_rfl) (zwr (av:=(zg0 tab.av .s)) (fun x=>⟨zmQ _ x,zhz (by kernel_rfl) x,(fun e=>nomatch e),fun _=>rfl⟩) (by decide) (fun a b c d j ys x tl hj=>by simp [AV.nth,hj,zg0,tAv]) (fun a b c d j ys x hj=>by simp [AV.nth,hj,zg0,tAv]) h (fun i hi=>zcx.ok x i hp hi) (fun y b hb=>hp.2.1 (y,()) b hb))
noncomputable def zns:FS:=mkF 335 [.v .s, .rf (.l .s)] (.v .b) (fun x=>zha x.1 x.2.1) [zcK] [] (fun _ _=>by kernel_rfl) (fun _ _=>by kernel_rfl)
noncomputable def zmr:FS:=mkP zns fun _=>by kernel_rfl
noncomputable def zkI:FS:=mkF 277 [.v (.l .s), .v (.l .s)] (.v (.l .s)) (fun x=>zeO x.1 x.2.1) [zgd,zeQ,zmr] [] (fun _ _=>by kernel_rfl) (fun _ _=>by kernel_rfl)
noncomputable def ziw:FS:=mkF 190 [.v (.st 3), .v .s, .v (.l (.st 0))] (.v (.l .s)) (fun x=>zb6 x.1 x.2.1 x.2.2.1) [zc8,zgY,zkI] [] (fun _ _=>by kernel_rfl) (fun _ _=>by kernel_rfl)
noncomputable def zjB:FS:=mkF 191 [.v (.st 3), .v .s, .v (.l (.st 0))] (.v (.l .s)) (fun x=>zdW x.1 x.2.1 x.2.2.1) [zgY,zc8,zkI] [] (fun _ _=>by kernel_rfl) (fun _ _=>by kernel_rfl)
noncomputable def zjy:FS:=mkF 90 [.v (.st 3), .v .s, .v (.i .i64), .v (.l (.st 0))] (.v .b) (fun x=>zcC x.1 x.2.1 x.2.2.1 x.2.2.2.1) [zc8,ziw,zjB] [] (fun _ _=>by kernel_rfl) (fun _ _=>by kernel_rfl)
noncomputable def zkQ:FS:=mkF 17 [.v (.st 3), .v .s, .v (.i .i64), .v (.l (.st 0))] (.tu (.cons (.v .b) (.cons (.v .b) .nil))) (fun x=>zcl x.1 x.2.1 x.2.2.1 x.2.2.2.1) [zmt,zdE,zjy] [] (fun _ _=>by kernel_rfl) (fun _ _=>by kernel_rfl)
noncomputable def zhM:FS:=mkF 202 [.v (.st 3), .v .s, .v (.l (.st 0))] (.v .b) (fun x=>zcy x.1 x.2.1 x.2.2.1) [ze0,zhg,zjb] [] (fun _ _=>by kernel_rfl) (fun _ _=>by kernel_rfl)
noncomputable def zlb:FS:=mkF 343 [.v (.st 3), .v .s, .v .s] (.tu (.cons (.v .s) (.cons (.v .s) (.cons (.v .b) .nil)))) (fun x=>zdA x.1 x.2.1 x.2.2.1) [zkP,zjI] [] (fun _ _=>by kernel_rfl) (fun _ _=>by kernel_rfl)
noncomputable def zgq:FS:=mkF 288 [.v (.st 3), .v .s, .v (.l (.st 0))] (.v (.l .s)) (fun x=>zdg x.1 x.2.1 x.2.2.1) [zlb] [.sp [.l .s, .i .i64], .inl] (fun _ _=>by kernel_rfl) (fun _ _=>by kernel_rfl)
noncomputable def zjt:FS:=mkF 226 [.v (.st 3), .v .s, .v (.l (.st 0))] (.v (.l .s)) (fun x=>zdP x.1 x.2.1 x.2.2.1) [zh8,zhg,zhF] [.sp [.l .s, .i .i64]] (fun _ _=>by kernel_rfl) (fun _ _=>by kernel_rfl)
noncomputable def zkE:FS:=mkF 344 [.v (.l .s), .v (.l .s)] (.v (.l .s)) (fun x=>zgF x.1 x.2.1) [znm] [.sp [.l .s, .i .i64], .inl] (fun _ _=>by kernel_rfl) (fun _ _=>by kernel_rfl)
noncomputable def zno:FS:=mkF 289 [.v (.st 3), .v .s, .v (.l (.st 0))] (.tu (.cons (.v (.l .s)) (.cons (.v .b) .nil))) (fun x=>zg8 x.1 x.2.1 x.2.2.1) [zhM,zgq,zjt,zkE] [] (fun _ _=>by kernel_rfl) (fun _ _=>by kernel_rfl)
noncomputable def zpG:FS:=mkF 290 [.v (.st 3), .v .s, .v (.l (.st 0))] (.tu (.cons (.v (.l .s)) (.cons (.v .b) .nil))) (fun x=>zh7 x.1 x.2.1 x.2.2.1) [zhM,zjt,zgq,zkE] [] (fun _ _=>by kernel_rfl) (fun _ _=>by kernel_rfl)
noncomputable def zpa:FS:=mkF 203 [.v (.st 3), .v .s, .v (.i .i64), .v (.l (.st 0))] (.v .b) (fun x=>zfu x.1 x.2.1 x.2.2.1 x.2.2.2.1) [zgq,zno,zpG] [] (fun _ _=>by kernel_rfl) (fun _ _=>by kernel_rfl)
noncomputable def zpK:FS:=mkF 104 [.v (.st 3), .v .s, .v (.i .i64), .v (.l (.st 0))] (.tu (.cons (.v .b) (.cons (.v .b) .nil))) (fun x=>zeL x.1 x.2.1 x.2.2.1 x.2.2.2.1) [zhM,zc3,zpa] [] (fun _ _=>by kernel_rfl) (fun _ _=>by kernel_rfl)
noncomputable def zl3:FS:=mkF 25 [.v (.l (.st 0)), .v (.l (.st 0))] (.v .b) (fun x=>zes x.1 x.2.1) [] [.sp [.i .i64]] (fun _ _=>by kernel_rfl) (fun _ _=>by kernel_rfl)
noncomputable def zi3:FS:=mkF 30 [.v (.l (.i .u8)), .v (.i .i64), .v (.i .i64)] (.v .b) (fun x=>zch x.1 x.2.1 x.2.2.1) [zju,zkG,zjG,zm5,zkQ,zpK,zl3] [] (fun _ _=>by kernel_rfl) (fun _ _=>by kernel_rfl)
noncomputable def zlY:FS:=mkF 6 [.v (.l (.i .u8)), .v (.l (.i .u8))] (.v .b) (fun x=>zhi x.1 x.2.1) [zi3] [] (fun _ _=>by kernel_rfl) (fun _ _=>by kernel_rfl)
noncomputable def zhX:FS:=mkF 5 [.v (.l (.i .u8)), .v (.l (.i .u8))] (.v .b) (fun x=>zd4 x.1 x.2.1) [zi3] [] (fun _ _=>by kernel_rfl) (fun _ _=>by kernel_rfl)
noncomputable def zkJ:FS:=mkF 7 [.v (.l (.i .u8)), .v (.l (.i .u8))] (.v .b) (fun x=>zgE x.1 x.2.1) [zi3] [] (fun _ _=>by kernel_rfl) (fun _ _=>by kernel_rfl)
noncomputable def zqX:FS:=mkF 20 [.v (.st 3), .v (.st 5)] (.tu (.cons (.v (.l (.st 6))) (.cons (.v .b) .nil))) (fun x=>zfE x.1 x.2.1) [zif,zgQ] [] (fun _ _=>by kernel_rfl) (fun _ _=>by kernel_rfl)
noncomputable def zrQ:FS:=mkF 21 [.v (.st 3), .v (.st 5)] (.tu (.cons (.v (.l (.st 6))) (.cons (.v .b) .nil))) (fun x=>zfK x.1 x.2.1) [zkz,zlI] [] (fun _ _=>by kernel_rfl) (fun _ _=>by kernel_rfl)
noncomputable def zle:FS:=mkF 22 [.v (.l (.i .u8))] (.v (.i .i64)) (fun x=>zdv x.1) [zaB] [] (fun _ _=>by kernel_rfl) (fun _ _=>by kernel_rfl)
noncomputable def zoy:FS:=mkF 23 [.v (.i .i64)] (.tu (.cons (.v .b) (.cons (.v .b) (.cons (.v .b) (.cons (.v .b) .nil))))) (fun x=>zfS x.1) [zkK,zku,zkx] [] (fun _ _=>by kernel_rfl) (fun _ _=>by kernel_rfl)
noncomputable def zn4:FS:=mkF 24 [.v (.i .i64)] (.tu (.cons (.v .b) (.cons (.v .b) (.cons (.v .b) (.cons (.v .b) .nil))))) (fun x=>zfq x.1) [zc3] [] (fun _ _=>by kernel_rfl) (fun _ _=>by kernel_rfl)
noncomputable def zoh:FS:=mkF 26 [.v (.l (.st 6)), .v (.l (.st 6))] (.v .b) (fun x=>zfX x.1 x.2.1) [] [.sp [.i .i64]] (fun _ _=>by kernel_rfl) (fun _ _=>by kernel_rfl)
noncomputable def zq5:FS:=mkF 28 [.v (.st 3), .v (.l (.st 0))] (.tu (.cons (.v (.l (.st 4))) (.cons (.v .b) .nil))) (fun x=>zfs x.1 x.2.1) [zeV,zjm,zgL] [] (fun _ _=>by kernel_rfl) (fun _ _=>by kernel_rfl)
noncomputable def zq4:FS:=mkF 29 [.v (.l .s), .v (.l .s)] (.v .b) (fun x=>zfM x.1 x.2.1) [] [.sp [.i .i64]] (fun _ _=>by kernel_rfl) (fun _ _=>by kernel_rfl)
noncomputable def zl2:FS:=mkF 4 [.v (.l (.i .u8)), .v (.l (.i .u8))] (.v .b) (fun x=>zhr x.1 x.2.1) [zju,zjG,zm5,zqX,zrQ,zle,zoy,zn4,zl3,zoh,zif,zq5,zq4] [.sp [.i .i64, .i .i64], .inl, .sp [.b, .i .i64]] (fun _ _=>by kernel_rfl) (fun _ _=>by kernel_rfl)
noncomputable def zlN:FS:=mkF 12 [.v (.l (.i .u8))] (.tu (.cons (.v (.st 3)) (.cons (.v (.st 4)) .nil))) (fun x=>zdY x.1) [zel,zfL,zcw,zeS] [.inl] (fun _ _=>by kernel_rfl) (fun _ _=>by kernel_rfl)
noncomputable def zpY:FS:=mkF 14 [.v (.st 3), .v (.st 4)] (.v .b) (fun x=>zgG x.1 x.2.1) [ze0,zie] [] (fun _ _=>by kernel_rfl) (fun _ _=>by kernel_rfl)
noncomputable def zpS:FS:=mkF 15 [.v (.st 3), .v (.st 4)] (.v .b) (fun x=>zeP x.1 x.2.1) [zeV,zeB] [] (fun _ _=>by kernel_rfl) (fun _ _=>by kernel_rfl)
noncomputable def zkD:FS:=mkF 3 [.v (.l (.i .u8)), .v (.l (.i .u8))] (.v .b) (fun x=>zgJ x.1 x.2.1) [zlN,zkG,zpY,zpS,zjG,zkQ] [] (fun _ _=>by kernel_rfl) (fun _ _=>by kernel_rfl)
end Go.Proofs.YtgobcjbjogkpjaaGreatDoor
end
section
namespace Go.Proofs.YtgobcjbjogkpjaaGreatDoor
open Go.RowKit
set_option maxRecDepth 100000
set_option maxHeartbeats 4000000
end Go.Proofs.YtgobcjbjogkpjaaGreatDoor
end
section
namespace Go.Proofs.YtgobcjbjogkpjaaGreatDoor
open Go.RowKit
set_option maxRecDepth 100000
set_option maxHeartbeats 4000000
end Go.Proofs.YtgobcjbjogkpjaaGreatDoor
end
section
namespace Go.Proofs.YtgobcjbjogkpjaaGreatDoor
open Go.RowKit
set_option maxRecDepth 100000
theorem zsa (a0:List Int) (a1:List Int) (r:Bool) (h:zhi a0 a1=some r):Rts Tryz.prog sgs 6 [.sl (a0.map zuM), .sl (a1.map zuM)] (.bool r):=zlY.ok (a0,a1,()) r (by simp [zlY,mkF,zsd,zzp]) h
theorem zly (a0:List Int) (a1:List Int) (r:Bool) (h:zd4 a0 a1=some r):Rts Tryz.prog sgs 5 [.sl (a0.map zuM), .sl (a1.map zuM)] (.bool r):=zhX.ok (a0,a1,()) r (by simp [zhX,mkF,zsd,zzp]) h
theorem zpD (a0:List Int) (a1:List Int) (r:Bool) (h:zgE a0 a1=some r):Rts Tryz.prog sgs 7 [.sl (a0.map zuM), .sl (a1.map zuM)] (.bool r):=zkJ.ok (a0,a1,()) r (by simp [zkJ,mkF,zsd,zzp]) h
theorem zq0 (a0:List Int) (a1:List Int) (r:Bool) (h:zhr a0 a1=some r):Rts Tryz.prog sgs 4 [.sl (a0.map zuM), .sl (a1.map zuM)] (.bool r):=zl2.ok (a0,a1,()) r (by simp [zl2,mkF,zsd,zzp]) h
theorem zpB (a0:List Int) (a1:List Int) (r:Bool) (h:zgJ a0 a1=some r):Rts Tryz.prog sgs 3 [.sl (a0.map zuM), .sl (a1.map zuM)] (.bool r):=zkD.ok (a0,a1,()) r (by simp [zkD,mkF,zsd,zzp]) h
end Go.Proofs.YtgobcjbjogkpjaaGreatDoor
end
section
namespace Go.Proofs.YtgobcjbjogkpjaaGreatDoor
open Go.RowKit
theorem zaj {α:Type} {xs:List α} {i:Nat} (h:i<xs.length):getI xs (i:Int)=some xs[i]:=by simp [getI,h]
theorem zlo {α:Type} {xs:List α} {i:Int} (h0:0≤i) (h:i<xs.length): ∃x,getI xs i=some x∧x∈xs∧xs[i.toNat]?=some x:=by
 have hi:i.toNat<xs.length:=by omega
 exact⟨xs[i.toNat],by simp [getI,h0,hi],List.getElem_mem hi,by simp [hi]⟩
theorem zr0 {α:Type} {xs:List α} {i:Int} {x:α} (h:getI xs i=some x):x∈xs:=by
 obtain⟨h1,h2,h3⟩:=zzz h
 exact List.mem_of_getElem? h3
theorem zcJ {q n:Nat} (h:q<n) (hn:n≤9223372036854775807):IntKind.i64.wrap ((q:Int)+1)=((q+1:Nat):Int):=by rw [zbo (by omega) (by omega)];simp
theorem zah {α:Type} {p:Prop} {k:Option α} (h:p):req p k=k:=by simp [req,h]
def goL {α σ β:Type} (step:α→σ→Option (σ ⊕ Option β)) (fin:σ→Option β):List α→σ→Option β
 | [],s=>fin s
 |x::xs,s=>match step x s with
  |none=>none
  |some (.inl s')=>goL step fin xs s'
  |some (.inr o)=>o
def zuh {σ τ β:Type} (f:σ→τ):Option (σ ⊕ Option β)→Option (τ ⊕ Option β)
 |none=>none
 |some (.inl s)=>some (.inl (f s))
 |some (.inr o)=>some (.inr o)
theorem zxb {α σ τ β:Type} {xs:List α} {body:τ→Option (τ ⊕ Option β)} (emb:Int→σ→τ) (step:α→σ→Option (σ ⊕ Option β)) (fin:σ→Option β) (q0:Nat)
  (hs: ∀(i:Nat) (hi:i<xs.length) (s:σ),q0≤i→body (emb i s)=zuh (emb ((i+1:Nat):Int)) (step xs[i] s)) (he: ∀s,body (emb xs.length s)=some (.inr (fin s))) (s:σ) (h0:q0≤xs.length):zaA body (emb q0 s)=goL step fin (xs.drop q0) s:=by
 have key: ∀(n q:Nat) (s:σ),q0≤q→q+n=xs.length→zaA body (emb q s)=goL step fin (xs.drop q) s:=by
  intro n
  induction n with
  |zero=>
   intro q s _ hq
   have:q=xs.length:=by omega
   subst this
   rw [zdZ,he s]
   simp [goL]
  |succ n ih=>
   intro q s h0 hq
   have hlt:q<xs.length:=by omega
   rw [zdZ,hs q hlt s h0,List.drop_eq_getElem_cons hlt]
   rcases hst:step xs[q] s with _|s'|o
   ·simp [goL,hst,zuh]
   ·simp only [goL,hst,zuh];exact ih (q+1) s' (by omega) (by omega)
   ·simp [goL,hst,zuh]
 exact key (xs.length-q0) q0 s (Nat.le_refl _) (by omega)
theorem ztk {α σ τ β:Type} {xs:List α} {body:τ→Option (τ ⊕ Option β)} (emb:Int→σ→τ) (step:α→σ→Option (σ ⊕ Option β)) (fin:σ→Option β)
  (hs: ∀(i:Nat) (hi:i<xs.length) (s:σ),body (emb i s)=zuh (emb ((i+1:Nat):Int)) (step xs[i] s)) (he: ∀s,body (emb xs.length s)=some (.inr (fin s))) (s:σ):zaA body (emb 0 s)=goL step fin xs s:=by
 have:=zxb emb step fin 0 (fun i hi s _=>hs i hi s) he s (by omega)
 simpa using this
theorem zAc {α σ β:Type} {step:α→σ→Option (σ ⊕ Option β)} {fin:σ→Option β} {xs:List α} (p:α→Bool) (b:β) (h: ∀x∈xs,∀s,step x s=some (if p x=true then .inl s else .inr (some b))) (s:σ):goL step fin xs s=if xs.all p=true then fin s else some b:=by
 induction xs with
 |nil=>simp [goL]
 |cons x xs ih=>
  simp only [goL,h x (by simp) s]
  cases hp:p x with
  |true=>simp [hp,ih fun y hy=>h y (by simp [hy])]
  |false=>simp [hp]
theorem zyq {α σ β:Type} {step:α→σ→Option (σ ⊕ Option β)} {fin:σ→Option β} {xs:List α} (f:σ→α→σ) (I:σ→Prop) (hI: ∀x∈xs,∀s,I s→I (f s x)) (h: ∀x∈xs,∀s,I s→step x s=some (.inl (f s x))) {s:σ} (hs:I s):goL step fin xs s=fin (xs.foldl f s):=by
 induction xs generalizing s with
 |nil=>simp [goL]
 |cons x xs ih=>
  simp only [goL,h x (by simp) s hs,List.foldl_cons]
  exact ih (fun y hy=>hI y (by simp [hy])) (fun y hy=>h y (by simp [hy])) (hI x (by simp) s hs)
theorem zb1 {α σ τ β:Type} {xs:List α} {body:τ→Option (τ ⊕ Option β)} (emb:Int→σ→τ) (f:σ→α→σ) (fin:σ→Option β) (I:Nat→σ→Prop)
  (hs: ∀(i:Nat) (hi:i<xs.length) (s:σ),I i s→body (emb i s)=some (.inl (emb ((i+1:Nat):Int) (f s xs[i])))∧I (i+1) (f s xs[i])) (he: ∀s,I xs.length s→body (emb xs.length s)=some (.inr (fin s))) {s:σ} (h0:I 0 s):zaA body (emb 0 s)=fin (xs.foldl f s)∧I xs.length (xs.foldl f s):=by
 have key: ∀(n q:Nat) (s:σ),q+n=xs.length→I q s→zaA body (emb q s)=fin ((xs.drop q).foldl f s)∧I xs.length ((xs.drop q).foldl f s):=by
  intro n
  induction n with
  |zero=>
   intro q s hq hI
   have:q=xs.length:=by omega
   subst this
   rw [zdZ,he s hI]
   simp [hI]
  |succ n ih=>
   intro q s hq hI
   have hlt:q<xs.length:=by omega
   obtain⟨h1,h2⟩:=hs q hlt s hI
   rw [zdZ,h1,List.drop_eq_getElem_cons hlt,List.foldl_cons]
   exact ih (q+1) _ (by omega) h2
 have:=key xs.length 0 s (by omega) h0
 simpa using this
theorem ztK {α:Type} {xs:List α} {p:α→Option Bool} (q:α→Bool) (hp: ∀x∈xs,p x=some (q x)) (hn:xs.length≤9223372036854775806):zbd xs p=some (xs.any q):=by
 have key: ∀(l:List α) (i:Int),0≤i→(∀x∈l,p x=some (q x))→ ∃r,zpw p l i=some r∧decide (r≥0)=l.any q:=by
  intro l
  induction l with
  |nil=>intro i _ _;exact⟨-1,rfl,by simp⟩
  |cons x l ih=>
   intro i hi h
   simp only [zpw,h x (by simp),Option.bind_some]
   cases hq:q x with
   |true=>exact⟨i,by simp,by simp [hq,hi]⟩
   |false=>
    obtain⟨r,h1,h2⟩:=ih (i+1) (by omega) fun y hy=>h y (by simp [hy])
    exact⟨r,by simp [h1],by simp [hq,h2]⟩
 obtain⟨r,h1,h2⟩:=key xs 0 (by omega) hp
 simp [zbd,zbk,zah hn,h1,h2]
theorem zu8 {α:Type} {b:Nat} {xs:List α} (h:(xs.length:Int)*b≤140737488355328) (h2:(xs.length:Int)≤140737488355328):zrV b xs=some xs:=zah ⟨h,h2⟩
theorem zfQ {β:Type} {n:Nat} {body:Int→Option (Int ⊕ Option β)} (p:Nat→Bool) (b:β) (fin:Option β)
  (hs: ∀i:Nat,i<n→body i=some (if p i=true then .inl ((i+1:Nat):Int)else .inr (some b))) (he:body n=some (.inr fin)):zaA body 0=if(List.range n).all p=true then fin else some b:=by
 have h1:=ztk (xs:=List.range n) (body:=body) (fun i (_:Unit)=>i) (fun i _=>some (if p i=true then .inl ()else .inr (some b))) (fun _=>fin)
  (fun i hi s=>by
   rw [List.length_range]at hi
   rw [hs i hi,List.getElem_range]
   cases p i<;>simp [zuh]) (fun s=>by simpa using he) ()
 rw [zAc p b fun x _ s=>rfl]at h1
 exact h1
def zho {α:Type} (p:α→Bool) (l:List α):Int:=match l.findIdx? p with|some i=>(i:Int)|none=> -1
theorem znL {α:Type} (p:α→Bool):zho p []= -1:=rfl
theorem zgV {α:Type} (p:α→Bool) (x:α) (l:List α):zho p (x::l)=if p x=true then 0 else if zho p l= -1 then-1 else zho p l+1:=by
 unfold zho
 rw [List.findIdx?_cons]
 cases p x with
 |true=>simp
 |false=>
  cases h:l.findIdx? p with
  |none=>simp
  |some i=>simp<;>omega
theorem zoa {α:Type} (p:α→Bool) (l:List α): -1≤zho p l:=by
 unfold zho
 split<;>omega
theorem ziN {α:Type} (p:α→Bool) (l:List α):decide (zho p l≥0)=l.any p:=by
 induction l with
 |nil=>simp [znL]
 |cons x l ih=>
  have h1:=zoa p l
  rw [zgV,List.any_cons,←ih]
  cases p x with
  |true=>simp
  |false=>
   by_cases h:zho p l= -1
   ·simp [h]
   ·have:zho p l≥0:=by omega
    simp [h,this];try omega
theorem zux {α:Type} {p:α→Bool} {l:List α} (h:zho p l≥0): ∃x,getI l (zho p l)=some x∧p x=true∧x∈l:=by
 induction l with
 |nil=>simp [znL]at h
 |cons y l ih=>
  rw [zgV]at h ⊢
  cases hy:p y with
  |true=>exact⟨y,by simp [getI],hy,by simp⟩
  |false=>
   have h1:=zoa p l
   by_cases hm:zho p l= -1
   ·rw [hy,hm]at h;simp at h
   ·have h0:zho p l≥0:=by omega
    obtain⟨x,e1,e2,e3⟩:=ih h0
    obtain⟨_,e4,e5⟩:=zzz e1
    refine⟨x, ?_,e2,by simp [e3]⟩
    simp only [Bool.false_eq_true,if_false,hm]
    unfold getI
    rw [if_pos (by omega),show(zho p l+1).toNat=(zho p l).toNat+1 by omega]
    simpa using e5
theorem zq3 {α:Type} {xs:List α} {body:Int→Option (Int ⊕ Option Int)} (p:α→Bool) (hs: ∀(i:Nat) (hi:i<xs.length),body i=some (if p xs[i]=true then .inr (some (i:Int))else .inl ((i+1:Nat):Int))) (he:body xs.length=some (.inr (some (-1)))):zaA body 0=some (zho p xs):=by
 have key: ∀(n q:Nat),q+n=xs.length→zaA body q=some (if zho p (xs.drop q)= -1 then-1 else q+zho p (xs.drop q)):=by
  intro n
  induction n with
  |zero=>
   intro q hq
   have:q=xs.length:=by omega
   subst this
   rw [zdZ,he]
   simp [znL]
  |succ n ih=>
   intro q hq
   have hlt:q<xs.length:=by omega
   rw [zdZ,hs q hlt,List.drop_eq_getElem_cons hlt,zgV]
   cases p xs[q]with
   |true=>simp
   |false=>
    simp only [Bool.false_eq_true,if_false]
    rw [ih (q+1) (by omega)]
    have h1:=zoa p (xs.drop (q+1))
    congr 1
    by_cases hm:zho p (xs.drop (q+1))= -1
    ·simp [hm]
    ·have h2: ¬(zho p (xs.drop (q+1))+1= -1):=by omega
     simp only [hm,if_false,h2]
     omega
 have h:=key xs.length 0 (by omega)
 rw [List.drop_zero]at h
 rw [show((0:Nat):Int)=0 from rfl]at h
 rw [h]
 have h1:=zoa p xs
 by_cases hm:zho p xs= -1
 ·simp [hm]
 ·simp [hm]
theorem zts {α:Type} {xs:List α} {p:α→Option Bool} (q:α→Bool) (hp: ∀x∈xs,p x=some (q x)) (hn:xs.length≤9223372036854775806):zbk xs p=some (zho q xs):=by
 have key: ∀(l:List α) (i:Int),(∀x∈l,p x=some (q x))→zpw p l i=some (if zho q l= -1 then-1 else i+zho q l):=by
  intro l
  induction l with
  |nil=>intro i _;simp [zpw,znL]
  |cons x l ih=>
   intro i h
   simp only [zpw,h x (by simp),Option.bind_some,zgV]
   cases q x with
   |true=>simp
   |false=>
    simp only [Bool.false_eq_true,if_false]
    rw [ih (i+1) fun y hy=>h y (by simp [hy])]
    have h1:=zoa q l
    congr 1
    by_cases hm:zho q l= -1
    ·simp [hm]
    ·have h2: ¬(zho q l+1= -1):=by omega
     simp only [hm,if_false,h2]
     omega
 unfold zbk
 rw [zah hn,key xs 0 hp]
 by_cases hm:zho q xs= -1
 ·simp [hm]
 ·simp [hm]
theorem zxw {α:Type} {b:Bool} {A B:Option α} {y:Option α} (ha:b=true→A=y) (hb:b=false→B=y):(if b=true then A else B)=y:=by
 cases b with
 |true=>simpa using ha rfl
 |false=>simpa using hb rfl
theorem zvO {α:Type} {b:Bool} {A B y:Option α} (h:b=false) (hb:B=y):(if b=true then A else B)=y:=by rw [if_neg (by simp [h])];exact hb
theorem zBu {α:Type} {b:Bool} {A B y:Option α} (h:b=true) (ha:A=y):(if b=true then A else B)=y:=by rw [if_pos h];exact ha
theorem zaK {α β:Type} {o:Option α} {x:α} {f:α→Option β} (h:o=some x):o.bind f=f x:=by rw [h];rfl
end Go.Proofs.YtgobcjbjogkpjaaGreatDoor
end
section
namespace Go.Proofs.YtgobcjbjogkpjaaGreatDoor
open Go.RowKit
def zcI {α:Type} (o:Option α) (Q:α→Prop):Prop:= ∃x,o=some x∧Q x
section
variable {α β σ:Type} {Q:β→Prop}
theorem zcI.bind {o:Option α} {P:α→Prop} {f:α→Option β} (h:zcI o P) (hf: ∀x,P x→zcI (f x) Q):zcI (o.bind f) Q:=by
 obtain⟨x,rfl,hx⟩:=h
 exact hf x hx
theorem zcI.ret {x:β} (h:Q x):zcI (some x) Q:=⟨x,rfl,h⟩
theorem zcI.ite {b:Bool} {A B:Option β} (ha:b=true→zcI A Q) (hb:b=false→zcI B Q):zcI (if b=true then A else B) Q:=by
 cases b with
 |true=>simpa using ha rfl
 |false=>simpa using hb rfl
theorem zcI.req {p:Prop} [Decidable p] {k:Option β} (hp:p) (hk:zcI k Q):zcI (req p k) Q:=by rw [zah hp];exact hk
theorem zcI.mono {o:Option β} {P:β→Prop} (h:zcI o P) (hPQ: ∀x,P x→Q x):zcI o Q:=by
 obtain⟨x,hx,h⟩:=h
 exact⟨x,hx,hPQ x h⟩
theorem zcI.getI {xs:List β} {i:Int} (h0:0≤i) (h:i<xs.length) (hq: ∀x,x∈xs→Q x):zcI (getI xs i) Q:=by
 obtain⟨x,h1,h2,_⟩:=zlo h0 h
 exact⟨x,h1,hq x h2⟩
theorem ziD {body:σ→Option (σ ⊕ Option β)} (I:Nat→σ→Prop) (h: ∀n s,I n s→zcI (body s) fun o=>match o with| .inl s'=> ∃m,m<n∧I m s'| .inr q=>zcI q Q): ∀{n:Nat} {s:σ},I n s→zcI (zaA body s) Q:=by
 intro n
 induction n using Nat.strongRecOn with
 |_ n ih=>
  intro s hI
  obtain⟨o,ho,h2⟩:=h n s hI
  rw [zdZ,ho]
  match o,h2 with
  | .inl s',⟨m,hm,hI'⟩=>exact ih m hm hI'
  | .inr q,hq=>exact hq
end
def okC (c:zak) (k:Int):Prop:=(∀b∈c.fcode,0≤b∧b≤255)∧0≤c.fat∧c.fat≤k
theorem okC.up {c:zak} {i j:Int} (h:okC c i) (hij:i≤j):okC c j:=⟨h.1,h.2.1,by have:=h.2.2;omega⟩
theorem okC.start {code:List Int} (h: ∀b∈code,0≤b∧b≤255):okC ⟨code,0,0⟩ 0:=⟨h,by simp,by simp⟩
theorem zzL (a:Int):0≤IntKind.i64.wrap (IntKind.u64.wrap ((BitVec.ofInt (IntKind.bits .u64) a&&&BitVec.ofInt (IntKind.bits .u64) 255).toNat:Int))∧IntKind.i64.wrap (IntKind.u64.wrap ((BitVec.ofInt (IntKind.bits .u64) a&&&BitVec.ofInt (IntKind.bits .u64) 255).toNat:Int))≤255:=by
 have h:(BitVec.ofInt (IntKind.bits .u64) a&&&BitVec.ofInt (IntKind.bits .u64) 255).toNat≤255:=by
  rw [BitVec.toNat_and]
  exact Nat.le_trans Nat.and_le_right (by decide)
 generalize (BitVec.ofInt (IntKind.bits .u64) a&&&BitVec.ofInt (IntKind.bits .u64) 255).toNat=m at h ⊢
 have e:IntKind.u64.wrap (m:Int)=m:=by simp [IntKind.wrap,IntKind.bits,IntKind.signed];omega
 rw [e,zbo (by omega) (by omega)]
 omega
theorem zx3 {c:zak} {k:Int} (h:okC c k) (hk:k≤4611686018427387904):zcI (zcg c) fun p=>(0≤p.1∧p.1≤255)∧okC p.2 (k+1):=by
 obtain⟨hb,h0,h1⟩:=h
 have w:IntKind.i64.wrap (c.fat+1)=c.fat+1:=zbo (by omega) (by omega)
 unfold zcg
 refine .ite (fun hlt=> ?_) fun hlt=> ?_
 ·simp only [decide_eq_true_eq]at hlt
  refine zcI.bind (P:=fun y=>0≤y∧y≤255) (.getI h0 hlt hb) fun y hy=> ?_
  have wy:IntKind.i64.wrap y=y:=zbo (by omega) (by omega)
  refine .ite (fun _=> .ret ⟨by dsimp only;rw [wy];exact hy,hb,by dsimp only;omega,by dsimp only;omega⟩) fun _=> .ret ⟨zzL _,hb,by dsimp only;omega,by dsimp only;omega⟩
 ·refine .ite (fun _=> .ret ⟨by simp,hb,by dsimp only;omega,by dsimp only;omega⟩) fun _=> .ret ⟨zzL _,hb,by dsimp only;omega,by dsimp only;omega⟩
theorem zdX {c:zak} {k:Int} (n:Int) (h:okC c k) (hk:k≤4611686018427387000):zcI (zag c n) fun p=>(0≤p.1∧(1≤n→p.1<n)∧p.1≤65535)∧okC p.2 (k+2):=by
 have tm: ∀x:Int,0≤x→1<n→0≤x.tmod n∧x.tmod n<n∧x.tmod n≤x:=fun x hx hn=>by
  rw [Int.tmod_eq_emod_of_nonneg hx]
  exact⟨Int.emod_nonneg _ (by omega),Int.emod_lt_of_pos _ (by omega),by
   have:=Int.emod_add_mul_ediv x n
   have h2:0≤n*(x/n):=Int.mul_nonneg (by omega) (Int.ediv_nonneg hx (by omega))
   omega⟩
 unfold zag
 refine .ite (fun hn=> .ret ⟨⟨by simp,fun h1=>by dsimp only;omega,by simp⟩,h.up (by omega)⟩) fun hn=> ?_
 simp only [decide_eq_false_iff_not]at hn
 refine(zx3 h (by omega)).bind fun p ⟨hp,hc⟩=> ?_
 refine .ite (fun _=> ?_) fun _=> ?_
 ·refine(zx3 hc (by omega)).bind fun q ⟨hq,hd⟩=> .req (by omega) (.ret ?_)
  have w1:IntKind.i64.wrap (p.1*256)=p.1*256:=zbo (by omega) (by omega)
  have w2:IntKind.i64.wrap (p.1*256+q.1)=p.1*256+q.1:=zbo (by omega) (by omega)
  have:=tm (p.1*256+q.1) (by omega) (by omega)
  dsimp only
  rw [w1,w2]
  exact⟨⟨this.1,fun _=>this.2.1,by omega⟩,hd.up (by omega)⟩
 ·have:=tm p.1 hp.1 (by omega)
  exact .req (by omega) (.ret ⟨⟨this.1,fun _=>this.2.1,by dsimp only;omega⟩,hc.up (by omega)⟩)
theorem zm6 {c:zak} {k:Int} (n:Int) (h:okC c k) (hk:k≤4611686018427387000):zcI (zaz c n) fun p=>okC p.2 (k+2):=by
 unfold zaz
 exact(zdX n h hk).bind fun p ⟨_,hc⟩=> .ret hc
end Go.Proofs.YtgobcjbjogkpjaaGreatDoor
end
section
namespace Go.Proofs.YtgobcjbjogkpjaaGreatDoor
open Go.RowKit
set_option maxRecDepth 100000
theorem ztA {α β:Type} (f:α→β) (l:List α) (o:List β):l.foldl (fun o x=>o++ [f x]) o=o++l.map f:=by
 induction l generalizing o with
 |nil=>simp
 |cons x l ih=>rw [List.foldl_cons,ih];simp
end Go.Proofs.YtgobcjbjogkpjaaGreatDoor
end
section
namespace Go.Proofs.YtgobcjbjogkpjaaGreatDoor
open Go.RowKit
set_option maxRecDepth 100000
abbrev Str:=List UInt8
def inB (a b c:Int):Bool:=decide (a≥b)&&decide (a≤c)
theorem zbv {a b c:Int}:inB a b c=true↔b≤a∧a≤c:=by simp [inB]
@[simp] theorem zm4 (a b c:Int):zbw a b c=some (inB a b c):=rfl
@[simp] theorem ziV (a b c:Int):zbU a b c=some (inB a b c):=rfl
def zey (b:UInt8):Bool:=(decide ((b.toNat:Int)≥97)&&decide ((b.toNat:Int)≤122))||(decide ((b.toNat:Int)≥48)&&decide ((b.toNat:Int)≤57))
def zhN (s more:Str):Bool:=s.all fun b=>zey b||more.contains b
theorem zBJ {a b:UInt8}:((a.toNat:Int)==(b.toNat:Int))=(a==b):=by
 rw [Bool.eq_iff_iff]
 simp only [beq_iff_eq]
 constructor
 ·intro h;exact UInt8.toNat_inj.1 (by omega)
 ·rintro rfl;rfl
theorem ztn {α:Type} (xs:List α) (p:α→Bool) (q:Nat→Bool) (h: ∀(i:Nat) (hi:i<xs.length),q i=p xs[i]):(List.range xs.length).all q=xs.all p:=by
 rw [Bool.eq_iff_iff]
 simp only [List.all_eq_true,List.mem_range]
 constructor
 ·intro hq x hx
  obtain⟨i,hi,rfl⟩:=List.getElem_of_mem hx
  rw [←h i hi];exact hq i hi
 ·intro hp i hi
  rw [h i hi];exact hp _ (List.getElem_mem hi)
theorem ziO {α β:Type} {xs:List α} {body:Int→Option (Int ⊕ Option β)} (p:α→Bool) (b:β) (fin:Option β)
  (hs: ∀(i:Nat) (hi:i<xs.length),body i=some (if p xs[i]=true then .inl ((i+1:Nat):Int)else .inr (some b))) (he:body xs.length=some (.inr fin)):zaA body 0=if xs.all p=true then fin else some b:=by
 rw [zfQ (n:=xs.length) (fun i=>match xs[i]? with|some x=>p x|none=>true) b fin (fun i hi=>by rw [hs i hi];simp [hi]) he,
  ztn xs p _ fun i hi=>by simp [hi]]
theorem zop {s more:Str} (h1:s.length≤2000000) (h2:more.length≤2000000):zdT s more=some (zhN s more):=by
 unfold zdT
 rw [ziO (xs:=s) (fun b=>zey b||more.contains b) false (some true) ?_ (by simp [zgb])]
 ·unfold zhN
  cases(s.all fun b=>zey b||more.contains b)<;>rfl
 ·intro i hi
  have hin:zaA (fun t:Bool × Int=>zdd more i s[i] t.1 t.2) (zey s[i],0)=some (if(zey s[i]||more.contains s[i])=true then .inl ((i+1:Nat):Int)else .inr (some false)):=by
   have hl:=ztk (xs:=more) (body:=fun t:Bool × Int=>zdd more i s[i] t.1 t.2) (fun k (ok:Bool)=>(ok,k)) (fun b ok=>some (.inl (ok||s[i]==b))) (fun ok=>zgr i ok)
    (fun k hk ok=>by
     simp only [zdd,Int.ofNat_lt,hk,decide_true,if_true,zaj hk,Option.bind_some,zcJ hk (by omega:more.length≤_),zBJ,zuh]
     cases ok<;>simp) (fun ok=>by simp [zdd]) (zey s[i])
   rw [zyq (fun ok b=>ok||s[i]==b) (fun _=>True) (fun _ _ _ _=>trivial) (fun _ _ _ _=>rfl) trivial]at hl
   have hf: ∀(l:Str) (ok:Bool),l.foldl (fun ok b=>ok||s[i]==b) ok=(ok||l.contains s[i]):=by
    intro l
    induction l with
    |nil=>intro ok;simp
    |cons c l ih=>intro ok;rw [List.foldl_cons,ih,List.contains_cons,Bool.or_assoc]
   rw [hl,hf]
   unfold zgr
   rw [zcJ hi (by omega)]
   cases(zey s[i]||more.contains s[i])<;>rfl
  simp only [zgb,Int.ofNat_lt,hi,decide_true,if_true,zaj hi,Option.bind_some]
  exact hin
theorem zrj (l:Str) (c:UInt8):decide (Lib.indexByte l c<0)= !l.contains c:=by
 induction l with
 |nil=>rfl
 |cons b l ih=>
  unfold Lib.indexByte
  have hge:=Lib.indexByte_ge l c
  rw [List.contains_cons]
  by_cases hb:b=c
  ·subst hb;simp
  ·have h1:(b==c)=false:=by simpa using hb
   have h2:(c==b)=false:=by simpa using fun h=>hb h.symm
   rw [h1,h2]
   simp only [Bool.false_eq_true,if_false,Bool.false_or]
   rw [←ih]
   by_cases hm:Lib.indexByte l c= -1
   ·simp [hm]
   ·have h3:(Lib.indexByte l c== -1)=false:=by simpa using hm
    rw [h3]
    simp only [Bool.false_eq_true,if_false]
    rw [decide_eq_decide]
    omega
theorem zmy {s more:Str} (h1:s.length≤2000000):zde s more=some (zhN s more):=by
 unfold zde
 rw [ziO (xs:=s) (fun b=>zey b||more.contains b) false (some true) ?_ (by simp [zft])]
 ·unfold zhN
  cases(s.all fun b=>zey b||more.contains b)<;>rfl
 ·intro i hi
  have hu:((s[i].toNat:Int)).toNat.toUInt8=s[i]:=by simp
  simp only [zft,Int.ofNat_lt,hi,decide_true,if_true,zaj hi,Option.bind_some,zej,zfe,za0,hu,zrj,zcJ hi (by omega:s.length≤_)]
  rw [show((decide ((s[i].toNat:Int)≥97)&&decide ((s[i].toNat:Int)≤122))||(decide ((s[i].toNat:Int)≥48)&&decide ((s[i].toNat:Int)≤57)))=zey s[i]from rfl]
  cases zey s[i]<;>cases more.contains s[i]<;>rfl
def zbH (s:Str):Bool:=inB s.length 1 12&&zhN s [46,47]
def zeG (s:Str):Bool:=decide ((s.length:Int)≤24)&&zhN s [46,45,44,95]
theorem zzG {s:Str} (h:s.length≤2000000):zgW s=some (zbH s):=by
 simp only [zgW,zm4,Option.bind_some,zop h (more:= [46,47]) (by decide),zbH]
 cases inB s.length 1 12<;>simp
theorem zBZ {s:Str} (h:s.length≤2000000):zgy s=some (zbH s):=by
 simp only [zgy,ziV,Option.bind_some,zmy h,zbH]
 cases inB s.length 1 12<;>simp
theorem zx8 {s:Str} (h:s.length≤2000000):zgR s=some (zeG s):=by
 simp only [zgR,Option.bind_some,zop h (more:= [46,45,44,95]) (by decide),zeG]
 by_cases hl:(s.length:Int)≤24<;>simp [hl]
theorem zBr {s:Str} (h:s.length≤2000000):zgw s=some (zeG s):=by
 simp only [zgw,Option.bind_some,zmy h,zeG]
 by_cases hl:(s.length:Int)≤24<;>simp [hl]
def zh5 (v:Str) (gone:Bool):Bool:=zeG v&&(!gone||v== [])
theorem zwZ {v:Str} {gone:Bool} (h:v.length≤2000000):zfA v gone=some (zh5 v gone):=by
 simp only [zfA,zBr h,Option.bind_some,zh5,bne]
 cases zeG v<;>cases gone<;>cases(v== [])<;>rfl
theorem zzB {k v:Str} {gone:Bool} (hk:k.length≤2000000) (hv:v.length≤2000000):zgv k v gone=some (zbH k&&zh5 v gone):=by
 simp only [zgv,zzG hk,zx8 hv,Option.bind_some,zh5]
 cases zbH k<;>simp
def zeW (ks:List Str) (i:Nat):Bool:=i==0||Op.bytesLess ((ks[i-1]?).getD []) ((ks[i]?).getD [])
def zkR (ks:List Str):Bool:=(List.range ks.length).all (zeW ks)
theorem zr6: ∀(a b:Str),(Op.bytesLess a b||a==b)= !Op.bytesLess b a
 | [], []=>rfl
 | [],_::_=>rfl
 |_::_, []=>rfl
 |x::a,y::b=>by
  have ih:=zr6 a b
  simp only [Op.bytesLess]
  rcases Nat.lt_trichotomy x.toNat y.toNat with h|h|h
  ·have h1:x<y:=UInt8.lt_iff_toNat_lt.2 h
   have h2: ¬y<x:=fun h'=>by have:=UInt8.lt_iff_toNat_lt.1 h';omega
   have h3: ¬y=x:=fun h'=>by subst h';omega
   simp [h1,h2,h3]
  ·have h0:x=y:=UInt8.toNat_inj.1 h
   subst h0
   have h1: ¬x<x:=fun h'=>by have:=UInt8.lt_iff_toNat_lt.1 h';omega
   rw [show((x::a)==(x::b))=(a==b) by simp]
   simp only [h1,decide_false,Bool.false_or,beq_self_eq_true,Bool.true_and]
   exact ih
  ·have h1: ¬x<y:=fun h'=>by have:=UInt8.lt_iff_toNat_lt.1 h';omega
   have h2:y<x:=UInt8.lt_iff_toNat_lt.2 h
   have h3: ¬x=y:=fun h'=>by subst h';omega
   simp [h1,h2,h3]
theorem zrX {i:Nat} (h0:0<i) (h:i≤2000000):IntKind.i64.wrap ((i:Int)-1)=((i-1:Nat):Int):=by
 rw [zbo (by omega) (by omega)];omega
theorem zxK {α:Type} (xs:List α) (p:α→Bool) (q r:Nat→Bool) (h: ∀(i:Nat) (hi:i<xs.length),r i=(p xs[i]&&q i)):(List.range xs.length).all r=(xs.all p&&(List.range xs.length).all q):=by
 rw [←ztn xs p (fun i=>match xs[i]? with|some x=>p x|none=>true) fun i hi=>by simp [hi]]
 rw [Bool.eq_iff_iff]
 simp only [Bool.and_eq_true,List.all_eq_true,List.mem_range]
 constructor
 ·intro hr
  exact⟨fun i hi=>by have:=hr i hi;rw [h i hi,Bool.and_eq_true]at this;simpa [hi]using this.1,fun i hi=>by have:=hr i hi;rw [h i hi,Bool.and_eq_true]at this;exact this.2⟩
 ·rintro⟨h1,h2⟩ i hi
  rw [h i hi,Bool.and_eq_true]
  exact⟨by have:=h1 i hi;simpa [hi]using this,h2 i hi⟩
theorem ztQ {ks:List Str} (h:ks.length≤2000000) (hk: ∀k∈ks,k.length≤2000000):ze6 ks=some (ks.all zbH&&zkR ks):=by
 unfold ze6 zkR
 rw [zfQ (n:=ks.length) (fun i=>zbH ((ks[i]?).getD [])&&zeW ks i) false (some true) ?_ (by simp [zfa]),zxK ks zbH (zeW ks) _ fun i hi=>by simp [hi]]
 ·cases(ks.all zbH&&(List.range ks.length).all (zeW ks))<;>rfl
 ·intro i hi
  simp only [zfa,Int.ofNat_lt,hi,decide_true,if_true,zaj hi,Option.bind_some,zBZ (hk _ (List.getElem_mem hi)),zcJ hi (by omega:ks.length≤_),List.getElem?_eq_getElem hi,Option.getD_some,zeW]
  by_cases h0:i=0
  ·subst h0
   cases zbH ks[0]<;>simp
  ·have hp:(i:Int)>0:=by omega
   have hi1:i-1<ks.length:=by omega
   have hb:(i==0)=false:=by simpa using h0
   simp only [hp,decide_true,if_true,zrX (Nat.pos_of_ne_zero h0) (by omega:i≤2000000),zaj hi1,Option.bind_some,zr6,List.getElem?_eq_getElem hi1,Option.getD_some,hb,Bool.false_or]
   cases zbH ks[i]<;>cases Op.bytesLess ks[i-1] ks[i]<;>rfl
theorem zul {l:List zaa} (h:l.length≤2000000):ze4 l=some (l.map (·.fKey)):=by
 have h1:=zb1 (xs:=l) (body:=fun s:Int × List Str=>zbS l s.1 s.2) (fun i (o:List Str)=>(i,o)) (fun o w=>o++ [w.fKey]) (fun o=>some o) (fun q o=>o.length=q)
  (fun i hi o hI=>by
   refine⟨?_,by simp [hI]⟩
   show zbS l i o=_
   unfold zbS
   have hr:((o.length:Int)+(([l[i].fKey]:List Str).length:Int))*16≤140737488355328∧(o.length:Int)+(([l[i].fKey]:List Str).length:Int)≤140737488355328:=by
    rw [List.length_singleton,hI];omega
   rw [if_pos (by simpa using hi),zaj hi,Option.bind_some,zah hr,zcJ hi (by omega)]) (fun o _=>by
   show zbS l l.length o=_
   unfold zbS
   rw [if_neg (by simp)]) (s:= []) rfl
 have hf: ∀(l:List zaa) (o:List Str),l.foldl (fun o w=>o++ [w.fKey]) o=o++l.map (·.fKey):=by
  intro l
  induction l with
  |nil=>intro o;simp
  |cons w l ih=>intro o;rw [List.foldl_cons,ih];simp
 have h2:=h1.1
 rw [hf,List.nil_append]at h2
 unfold ze4
 exact h2
def zfn (w:zaa):Bool:=zbH w.fKey&&zh5 w.fVal w.fGone
def zc7 (l:List zaa):Bool:=decide ((l.length:Int)≤24)&&(l.all zfn&&zkR (l.map (·.fKey)))
def zgO (l:List zaa):Prop:=l.length≤2000000∧ ∀w∈l,w.fKey.length≤2000000∧w.fVal.length≤2000000
theorem zxG {l:List zaa} (h:zgO l):zen l=some (zc7 l):=by
 have e1:zbd l (fun y0_=>zds y0_)=some (l.any fun w=> !zh5 w.fVal w.fGone):=ztK _ (fun w hw=>by simp [zds,zwZ (h.2 w hw).2]) (by have:=h.1;omega)
 have e2:=ztQ (ks:=l.map (·.fKey)) (by simpa using h.1) (by simp only [List.mem_map];rintro k ⟨w,hw,rfl⟩;exact(h.2 w hw).1)
 simp only [zen,zul h.1,e1,e2,Option.bind_some,zc7,←List.not_all_eq_any_not]
 have e3:l.all zfn=((l.map (·.fKey)).all zbH&&l.all fun w=>zh5 w.fVal w.fGone):=by
  rw [Bool.eq_iff_iff]
  simp only [List.all_eq_true,Bool.and_eq_true,zfn,List.mem_map]
  constructor
  ·intro h;exact⟨by rintro k ⟨w,hw,rfl⟩;exact(h w hw).1,fun w hw=>(h w hw).2⟩
  ·rintro⟨h1,h2⟩ w hw;exact⟨h1 _ ⟨w,hw,rfl⟩,h2 w hw⟩
 rw [e3]
 generalize (l.map (·.fKey)).all zbH=b1
 generalize zkR (l.map (·.fKey))=b2
 generalize (l.all fun w=>zh5 w.fVal w.fGone)=b3
 by_cases hl:(l.length:Int)≤24<;>cases b1<;>cases b2<;>cases b3<;>simp [hl]
theorem zxR {l:List zaa} (h:zgO l):zfv l=some (zc7 l):=by
 unfold zfv
 have hn:=h.1
 rw [zfQ (n:=l.length) (fun i=>zfn ((l[i]?).getD ⟨[], [],false⟩)&&zeW (l.map (·.fKey)) i) false (zfp l) ?_ (by simp [zf0]),zxK l zfn (zeW (l.map (·.fKey))) _ fun i hi=>by simp [hi]]
 ·unfold zfp zc7 zkR
  rw [List.length_map]
  cases(l.all zfn&&(List.range l.length).all (zeW (l.map (·.fKey))))<;>simp
 ·intro i hi
  have hm:=h.2 _ (List.getElem_mem hi)
  simp only [zf0,Int.ofNat_lt,hi,decide_true,if_true,zaj hi,Option.bind_some,zzB hm.1 hm.2,zcJ hi (by omega:l.length≤_),List.getElem?_eq_getElem hi,Option.getD_some,zeW,List.getElem?_map,Option.map_some]
  rw [show(zbH l[i].fKey&&zh5 l[i].fVal l[i].fGone)=zfn l[i]from rfl]
  by_cases h0:i=0
  ·subst h0
   cases zfn l[0]<;>simp
  ·have hp:(i:Int)>0:=by omega
   have hi1:i-1<l.length:=by omega
   have hb:(i==0)=false:=by simpa using h0
   simp only [hp,decide_true,if_true,zrX (Nat.pos_of_ne_zero h0) (by omega:i≤2000000),zaj hi1,Option.bind_some,List.getElem?_eq_getElem hi1,Option.map_some,Option.getD_some,hb,Bool.false_or]
   cases zfn l[i]<;>cases Op.bytesLess l[i-1].fKey l[i].fKey<;>rfl
def zax (l:List zaa):Bool:=zc7 l&&l.all fun w=> !w.fGone
theorem ztR {l:List zaa} (h:zgO l):zex l=some (zax l):=by
 have e1:zbd l (fun y0_=>zfO y0_)=some (l.any fun w=> !!w.fGone):=ztK _ (fun w hw=>by simp [zfO]) (by have:=h.1;omega)
 simp only [zex,zxG h,e1,Option.bind_some,zax,←List.not_all_eq_any_not]
 cases zc7 l<;>simp
theorem zrS {l:List zaa} (h:zgO l):zcS l=some (zax l):=by
 have hn:=h.1
 unfold zcS
 rw [ziO (xs:=l) (fun w=> !w.fGone) false (zg5 l) (fun i hi=>by
  simp only [zg4,Int.ofNat_lt,hi,decide_true,if_true,zaj hi,Option.bind_some,zcJ hi (by omega:l.length≤_)]
  cases l[i].fGone<;>rfl) (by simp [zg4])]
 simp only [zg5,zxR h,Option.bind_some,zax]
 cases(l.all fun w=> !w.fGone)<;>simp
end Go.Proofs.YtgobcjbjogkpjaaGreatDoor
end
