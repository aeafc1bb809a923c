/- Parts of a proof, joined: QM, QF1, QF2. -/
import Derived.Test.YtbmbkgalkfmjdaaGreatDoorZ7
set_option linter.unusedVariables false
set_option linter.unusedSimpArgs false
noncomputable section
namespace Go.Proofs.YtbmbkgalkfmjdaaGreatDoor
open Go.RowKit
set_option maxRecDepth 100000
set_option maxHeartbeats 4000000
abbrev Ab:=List UInt8
def PD (a0:Ap):Option (Int × Ap):=
 if(decide (a0.bz<(a0.aw.length:Int)))then
  (getI a0.aw a0.bz).bind fun y1=>
  if(decide ((IntKind.i64.wrap (a0.bz+1))≤(a0.aw.length:Int)))then
   some ((IntKind.i64.wrap y1),(⟨a0.aw,(IntKind.i64.wrap (a0.bz+1)),(IntKind.u64.wrap ((IntKind.u64.wrap ((IntKind.u64.wrap (a0.az*6364136223846793005))+(IntKind.u64.wrap (IntKind.i64.wrap y1))))+1442695040888963407))⟩:Ap))
  else
   some ((IntKind.i64.wrap (IntKind.u64.wrap ((BitVec.ofInt (IntKind.bits .u64) (Int.fdiv (IntKind.u64.wrap ((IntKind.u64.wrap ((IntKind.u64.wrap (a0.az*6364136223846793005))+(IntKind.u64.wrap (IntKind.i64.wrap y1))))+1442695040888963407)) (2^(min ((40:Int)).toNat (IntKind.bits .u64))))&&&BitVec.ofInt (IntKind.bits .u64) 255).toNat:Int))),(⟨a0.aw,(IntKind.i64.wrap (a0.bz+1)),(IntKind.u64.wrap ((IntKind.u64.wrap ((IntKind.u64.wrap (a0.az*6364136223846793005))+(IntKind.u64.wrap (IntKind.i64.wrap y1))))+1442695040888963407))⟩:Ap))
 else
  if(decide ((IntKind.i64.wrap (a0.bz+1))≤(a0.aw.length:Int)))then
   some (0,(⟨a0.aw,(IntKind.i64.wrap (a0.bz+1)),(IntKind.u64.wrap ((IntKind.u64.wrap ((IntKind.u64.wrap (a0.az*6364136223846793005))+(IntKind.u64.wrap 0)))+1442695040888963407))⟩:Ap))
  else
   some ((IntKind.i64.wrap (IntKind.u64.wrap ((BitVec.ofInt (IntKind.bits .u64) (Int.fdiv (IntKind.u64.wrap ((IntKind.u64.wrap ((IntKind.u64.wrap (a0.az*6364136223846793005))+(IntKind.u64.wrap 0)))+1442695040888963407)) (2^(min ((40:Int)).toNat (IntKind.bits .u64))))&&&BitVec.ofInt (IntKind.bits .u64) 255).toNat:Int))),(⟨a0.aw,(IntKind.i64.wrap (a0.bz+1)),(IntKind.u64.wrap ((IntKind.u64.wrap ((IntKind.u64.wrap (a0.az*6364136223846793005))+(IntKind.u64.wrap 0)))+1442695040888963407))⟩:Ap))
def Dx (a0:Ap) (a1:Int):Option (Int × Ap):=
 if(decide (a1≤1))then
  some (0,a0)
 else
  (PD a0).bind fun v1=>
  if(decide (a1>200))then
   (PD v1.2).bind fun v2=>
   req (a1≠0)<|
   some ((Int.tmod (IntKind.i64.wrap ((IntKind.i64.wrap (v1.1*256))+v2.1)) a1),(⟨v2.2.aw,v2.2.bz,v2.2.az⟩:Ap))
  else
   req (a1≠0)<|
   some ((Int.tmod v1.1 a1),(⟨v1.2.aw,v1.2.bz,v1.2.az⟩:Ap))
def Ii (a0:Ap) (a1:List (Ab)):Option (Ab × Ap):=
 (Dx a0 (a1.length:Int)).bind fun v1=>
 (getI a1 v1.1).bind fun y2=>
 some (y2,v1.2)
def F4 (a0:Ap) (a1:Int):Option (Bool × Ap):=
 (Dx a0 a1).bind fun v1=>
 some ((v1.1==0),v1.2)
def Nv (v2:Int × Ap) (v3:Int) (v7:List At) (y8:Ab) (v9:List Int) (v10 v11:Int) (v12:Bool):Option ((Int × List Int × Int × Int × List At) ⊕ Option (Ad × Ap)):=
 if v12 then
  (Dx (⟨v9,v10,v11⟩:Ap) (IntKind.i64.wrap (((Bn [([107]:Ab),([97]:Ab),([98]:Ab),([99,99]:Ab)] 0 (IntKind.i64.wrap ((2:Int)+v2.1))).length:Int)-1))).bind fun v13=>
  (Dx v13.2 4).bind fun v14=>
  req ((((v7).length:Int)+(([(⟨y8,(IntKind.i64.wrap ((1:Int)+v13.1)),v14.1⟩:At)]:List At).length:Int))*32≤140737488355328∧((v7).length:Int)+(([(⟨y8,(IntKind.i64.wrap ((1:Int)+v13.1)),v14.1⟩:At)]:List At).length:Int)≤140737488355328)<|
  some (.inl ((IntKind.i64.wrap (v3+1)),v14.2.aw,v14.2.bz,v14.2.az,(v7++ [(⟨y8,(IntKind.i64.wrap ((1:Int)+v13.1)),v14.1⟩:At)])))
 else
  some (.inl ((IntKind.i64.wrap (v3+1)),v9,v10,v11,v7))
def lC (v1:Ab × Ap) (v2:Int × Ap) (v3:Int) (v4:List Int) (v5 v6:Int) (v7:List At):Option ((Int × List Int × Int × Int × List At) ⊕ Option (Ad × Ap)):=
 if(decide (v3<([([105]:Ab),([106]:Ab),([109]:Ab)].length:Int)))then
  (getI [([105]:Ab),([106]:Ab),([109]:Ab)] v3).bind fun y8=>
  (F4 (⟨v4,v5,v6⟩:Ap) 3).bind fun v15=>
  if(!v15.1)then
   Nv v2 v3 v7 y8 v15.2.aw v15.2.bz v15.2.az true
  else
   if(y8==([105]:Ab))then
    (F4 v15.2 8).bind fun v16=>
    Nv v2 v3 v7 y8 v16.2.aw v16.2.bz v16.2.az (!v16.1)
   else
    Nv v2 v3 v7 y8 v15.2.aw v15.2.bz v15.2.az false
 else
  some (.inr (some ((⟨v1.1,(Bn [([107]:Ab),([97]:Ab),([98]:Ab),([99,99]:Ab)] 0 (IntKind.i64.wrap ((2:Int)+v2.1))),v7⟩:Ad),(⟨v4,v5,v6⟩:Ap))))
def Jl (a0:Ap):Option (Ad × Ap):=
 (Ii a0 ([([116]:Ab),([117]:Ab)]:List (Ab))).bind fun v1=>
 (Dx v1.2 3).bind fun v2=>
 req (0≤(0:Int)∧(0:Int)≤(IntKind.i64.wrap ((2:Int)+v2.1))∧(IntKind.i64.wrap ((2:Int)+v2.1))≤(([([107]:Ab),([97]:Ab),([98]:Ab),([99,99]:Ab)]:List (Ab)).length:Int))<|
 req (((([]:List (Ab)).length:Int)+(((Bn [([107]:Ab),([97]:Ab),([98]:Ab),([99,99]:Ab)] 0 (IntKind.i64.wrap ((2:Int)+v2.1)))).length:Int))*16≤140737488355328∧(([]:List (Ab)).length:Int)+(((Bn [([107]:Ab),([97]:Ab),([98]:Ab),([99,99]:Ab)] 0 (IntKind.i64.wrap ((2:Int)+v2.1)))).length:Int)≤140737488355328)<|
 AA (fun s:Int × List Int × Int × Int × List At=>lC v1 v2 s.1 s.2.1 s.2.2.1 s.2.2.2.1 s.2.2.2.2) (0,v2.2.aw,v2.2.bz,v2.2.az, [])
def SE (a0:Ad):Option (Ad):=
 req (((([]:List (Ab)).length:Int)+((a0.ar).length:Int))*16≤140737488355328∧(([]:List (Ab)).length:Int)+((a0.ar).length:Int)≤140737488355328)<|
 req (((([]:List At).length:Int)+((a0.ah).length:Int))*32≤140737488355328∧(([]:List At).length:Int)+((a0.ah).length:Int)≤140737488355328)<|
 some a0
def mX (a0:Ad) (a1:Ab) (v1:Int):Option ((Int) ⊕ Option (Int)):=
 if(decide (v1<(a0.ah.length:Int)))then
  (getI a0.ah v1).bind fun y2=>
  if(y2.ab==a1)then
   some (.inr (some v1))
  else
   some (.inl (IntKind.i64.wrap (v1+1)))
 else
  some (.inr (some (-1)))
def GO (a0:Ad) (a1:Ab):Option (Int):=
 AA (fun s:Int=>mX a0 a1 s) 0
def SD (a0:Ad) (a1:Ab) (a2:Int):Option (Ad):=
 (SE a0).bind fun v1=>
 (GO a0 a1).bind fun v2=>
 (getI v1.ah v2).bind fun y3=>
 some (⟨v1.ab,v1.ar,(v1.ah.set (v2).toNat {y3 with aq:=a2})⟩:Ad)
def ziD (a1:Ad) (v2:List Int) (v3 v4:Int) (v5:List (Ab)):Option ((List Int × Int × Int × List (Ab)) ⊕ Option (AD × Ap)):=
 if(decide ((v5.length:Int)<(a1.ar.length:Int)))then
  (Ii (⟨v2,v3,v4⟩:Ap) ([([120]:Ab),([121]:Ab),([120]:Ab),([48]:Ab),([97,98,99]:Ab)]:List (Ab))).bind fun v6=>
  req ((((v5).length:Int)+(([v6.1]:List (Ab)).length:Int))*16≤140737488355328∧((v5).length:Int)+(([v6.1]:List (Ab)).length:Int)≤140737488355328)<|
  some (.inl (v6.2.aw,v6.2.bz,v6.2.az,(v5++ [v6.1])))
 else
  some (.inr (some ((⟨v5⟩:AD),(⟨v2,v3,v4⟩:Ap))))
def Nz (a0:Ap) (a1:Ad):Option (AD × Ap):=
 (Ii a0 ([([49]:Ab),([50]:Ab),([51]:Ab),([97]:Ab),([122,122]:Ab),([97,98,99]:Ab)]:List (Ab))).bind fun v1=>
 AA (fun s:List Int × Int × Int × List (Ab)=>ziD a1 s.1 s.2.1 s.2.2.1 s.2.2.2) (v1.2.aw,v1.2.bz,v1.2.az, [v1.1])
def Sh (a0:List (Ab)) (a1 v1:Ab) (v2:Int):Option ((Ab × Int) ⊕ Option (Ab)):=
 if(decide (v2<(a0.length:Int)))then
  (getI a0 v2).bind fun y3=>
  if(decide (v2>0))then
   req ((v1).length+(a1).length≤9223372036854775807)<|
   req (((v1++a1)).length+(y3).length≤9223372036854775807)<|
   some (.inl (((v1++a1)++y3),(IntKind.i64.wrap (v2+1))))
  else
   req ((v1).length+(y3).length≤9223372036854775807)<|
   some (.inl ((v1++y3),(IntKind.i64.wrap (v2+1))))
 else
  some (.inr (some v1))
def oA (a0:List (Ab)) (a1:Ab):Option (Ab):=
 AA (fun s:Ab × Int=>Sh a0 a1 s.1 s.2) (([]:Ab),0)
def IN (a0:Ad) (a1:AD):Option (Ac):=
 req ((a0.ab).length+(([47]:Ab)).length≤9223372036854775807)<|
 (getI a1.ax 0).bind fun y1=>
 req (((a0.ab++([47]:Ab))).length+(y1).length≤9223372036854775807)<|
 req (0≤(1:Int)∧(1:Int)≤(a1.ax.length:Int)∧(a1.ax.length:Int)≤(a1.ax.length:Int))<|
 (oA (Bn a1.ax 1 (a1.ax.length:Int)) ([44]:Ab)).bind fun v2=>
 some (⟨((a0.ab++([47]:Ab))++y1),v2,false⟩:Ac)
def Zt (a0:List Ac) (a1:Ac) (v1:Int):Option (List Ac):=
 if(decide (v1>0))then
  (getI a0 (IntKind.i64.wrap (v1-1))).bind fun y2=>
  if(y2.af==a1.af)then
   req (((([]:List Ac).length:Int)+((a0).length:Int))*40≤140737488355328∧(([]:List Ac).length:Int)+((a0).length:Int)≤140737488355328)<|
   (getI a0 (IntKind.i64.wrap (v1-1))).bind fun y3=>
   some (a0.set ((IntKind.i64.wrap (v1-1))).toNat a1)
  else
   req (0≤v1∧v1≤(a0.length:Int)∧(a0.length:Int)≤(a0.length:Int))<|
   req (((([]:List Ac).length:Int)+(((Bn a0 v1 (a0.length:Int))).length:Int))*40≤140737488355328∧(([]:List Ac).length:Int)+(((Bn a0 v1 (a0.length:Int))).length:Int)≤140737488355328)<|
   req (0≤(0:Int)∧(0:Int)≤v1∧v1≤(a0.length:Int))<|
   req (((([]:List Ac).length:Int)+(((Bn a0 0 v1)).length:Int))*40≤140737488355328∧(([]:List Ac).length:Int)+(((Bn a0 0 v1)).length:Int)≤140737488355328)<|
   req (((((Bn a0 0 v1)).length:Int)+(([a1]:List Ac).length:Int))*40≤140737488355328∧(((Bn a0 0 v1)).length:Int)+(([a1]:List Ac).length:Int)≤140737488355328)<|
   req ((((((Bn a0 0 v1)++ [a1])).length:Int)+(((Bn a0 v1 (a0.length:Int))).length:Int))*40≤140737488355328∧((((Bn a0 0 v1)++ [a1])).length:Int)+(((Bn a0 v1 (a0.length:Int))).length:Int)≤140737488355328)<|
   some (((Bn a0 0 v1)++ [a1])++(Bn a0 v1 (a0.length:Int)))
 else
  req (0≤v1∧v1≤(a0.length:Int)∧(a0.length:Int)≤(a0.length:Int))<|
  req (((([]:List Ac).length:Int)+(((Bn a0 v1 (a0.length:Int))).length:Int))*40≤140737488355328∧(([]:List Ac).length:Int)+(((Bn a0 v1 (a0.length:Int))).length:Int)≤140737488355328)<|
  req (0≤(0:Int)∧(0:Int)≤v1∧v1≤(a0.length:Int))<|
  req (((([]:List Ac).length:Int)+(((Bn a0 0 v1)).length:Int))*40≤140737488355328∧(([]:List Ac).length:Int)+(((Bn a0 0 v1)).length:Int)≤140737488355328)<|
  req (((((Bn a0 0 v1)).length:Int)+(([a1]:List Ac).length:Int))*40≤140737488355328∧(((Bn a0 0 v1)).length:Int)+(([a1]:List Ac).length:Int)≤140737488355328)<|
  req ((((((Bn a0 0 v1)++ [a1])).length:Int)+(((Bn a0 v1 (a0.length:Int))).length:Int))*40≤140737488355328∧((((Bn a0 0 v1)++ [a1])).length:Int)+(((Bn a0 v1 (a0.length:Int))).length:Int)≤140737488355328)<|
  some (((Bn a0 0 v1)++ [a1])++(Bn a0 v1 (a0.length:Int)))
def PQ (a0:List Ac) (a1:Ac) (v4:Int):Option ((Int) ⊕ Option (List Ac)):=
 if(decide (v4>0))then
  (getI a0 (IntKind.i64.wrap (v4-1))).bind fun y5=>
  if(!(Op.bytesLess y5.af a1.af||y5.af==a1.af))then
   some (.inl (IntKind.i64.wrap (v4-1)))
  else
   some (.inr (Zt a0 a1 v4))
 else
  some (.inr (Zt a0 a1 v4))
def G7 (a0:List Ac) (a1:Ac):Option (List Ac):=
 AA (fun s:Int=>PQ a0 a1 s) (a0.length:Int)
def mL (a0:Ab) (v1:Int) (v2:List (Ab)):Option (List (Ab)):=
 req (0≤v1∧v1≤(a0.length:Int)∧(a0.length:Int)≤(a0.length:Int))<|
 req ((((v2).length:Int)+(([(Bn a0 v1 (a0.length:Int))]:List (Ab)).length:Int))*16≤140737488355328∧((v2).length:Int)+(([(Bn a0 v1 (a0.length:Int))]:List (Ab)).length:Int)≤140737488355328)<|
 some (v2++ [(Bn a0 v1 (a0.length:Int))])
def RX (a0:Ab) (a1:Int) (v3:List (Ab)) (v4 v5:Int):Option ((List (Ab) × Int × Int) ⊕ Option (List (Ab))):=
 if(decide (v5<(a0.length:Int)))then
  (getI a0 v5).bind fun y6=>
  if((y6.toNat:Int)==a1)then
   req (0≤v4∧v4≤v5∧v5≤(a0.length:Int))<|
   req ((((v3).length:Int)+(([(Bn a0 v4 v5)]:List (Ab)).length:Int))*16≤140737488355328∧((v3).length:Int)+(([(Bn a0 v4 v5)]:List (Ab)).length:Int)≤140737488355328)<|
   some (.inl ((v3++ [(Bn a0 v4 v5)]),(IntKind.i64.wrap (v5+1)),(IntKind.i64.wrap (v5+1))))
  else
   some (.inl (v3,v4,(IntKind.i64.wrap (v5+1))))
 else
  some (.inr (mL a0 v4 v3))
def PW (a0:Ab) (a1:Int):Option (List (Ab)):=
 AA (fun s:List (Ab) × Int × Int=>RX a0 a1 s.1 s.2.1 s.2.2) ([],0,0)
def F6 (a0 a1 a2:Int):Option (Bool):=
 some ((decide (a0≥a1))&&(decide (a0≤a2)))
def mJ (v1:Int) (v3:Bool):Option ((Int) ⊕ Option (Bool)):=
 if(!v3)then
  some (.inr (some false))
 else
  some (.inl (IntKind.i64.wrap (v1+1)))
def Vw (a1:Ab) (v1:Int) (y2:UInt8) (v4:Bool) (v5:Int):Option ((Bool × Int) ⊕ Option ((Int) ⊕ Option (Bool))):=
 if(decide (v5<(a1.length:Int)))then
  if v4 then
   some (.inl (true,(IntKind.i64.wrap (v5+1))))
  else
   (getI a1 v5).bind fun y6=>
   some (.inl (((y2.toNat:Int)==(y6.toNat:Int)),(IntKind.i64.wrap (v5+1))))
 else
  some (.inr (mJ v1 v4))
def mK (a0 a1:Ab) (v1:Int):Option ((Int) ⊕ Option (Bool)):=
 if(decide (v1<(a0.length:Int)))then
  (getI a0 v1).bind fun y2=>
  AA (fun s:Bool × Int=>Vw a1 v1 y2 s.1 s.2) ((((decide ((y2.toNat:Int)≥97))&&(decide ((y2.toNat:Int)≤122)))||((decide ((y2.toNat:Int)≥48))&&(decide ((y2.toNat:Int)≤57)))),0)
 else
  some (.inr (some true))
def Sx (a0 a1:Ab):Option (Bool):=
 AA (fun s:Int=>mK a0 a1 s) 0
def Sz (a0:Ab):Option (Bool):=
 (F6 (a0.length:Int) 1 3).bind fun v1=>
 if v1 then
  (Sx a0 ([]:Ab)).bind fun v2=>
  some v2
 else
  some false
def mN (a0:Ad) (a1:AD):Option (Bool):=
 some ((a1.ax.length:Int)==(a0.ar.length:Int))
def mM (a0:Ad) (a1:AD) (v1:Int):Option ((Int) ⊕ Option (Bool)):=
 if(decide (v1<(a1.ax.length:Int)))then
  (getI a1.ax v1).bind fun y2=>
  (Sz y2).bind fun v3=>
  if(!v3)then
   some (.inr (some false))
  else
   some (.inl (IntKind.i64.wrap (v1+1)))
 else
  some (.inr (mN a0 a1))
def NH (a0:Ad) (a1:AD):Option (Bool):=
 AA (fun s:Int=>mM a0 a1 s) 0
def ZE (a0:Ad) (a1:Ac):Option (AD × Bool):=
 if(decide ((a1.af.length:Int)<3))then
  some ((⟨[]⟩:AD),false)
 else
  req (0≤(2:Int)∧(2:Int)≤(a1.af.length:Int)∧(a1.af.length:Int)≤(a1.af.length:Int))<|
  (PW a1.a7 44).bind fun v1=>
  req (((([(Bn a1.af 2 (a1.af.length:Int))]:List (Ab)).length:Int)+((v1).length:Int))*16≤140737488355328∧(([(Bn a1.af 2 (a1.af.length:Int))]:List (Ab)).length:Int)+((v1).length:Int)≤140737488355328)<|
  (NH a0 (⟨([(Bn a1.af 2 (a1.af.length:Int))]++v1)⟩:AD)).bind fun v2=>
  if v2 then
   (IN a0 (⟨([(Bn a1.af 2 (a1.af.length:Int))]++v1)⟩:AD)).bind fun v3=>
   some ((⟨([(Bn a1.af 2 (a1.af.length:Int))]++v1)⟩:AD),(v3.af==a1.af&&(v3.a7==a1.a7&&(v3.bh==a1.bh))))
  else
   some ((⟨([(Bn a1.af 2 (a1.af.length:Int))]++v1)⟩:AD),false)
def RW (a0:Ad) (a1:List Ac) (v1:List AD) (v2:Int):Option ((List AD × Int) ⊕ Option (List AD)):=
 if(decide (v2<(a1.length:Int)))then
  (getI a1 v2).bind fun y3=>
  (ZE a0 y3).bind fun v4=>
  if v4.2 then
   req ((((v1).length:Int)+(([v4.1]:List AD).length:Int))*24≤140737488355328∧((v1).length:Int)+(([v4.1]:List AD).length:Int)≤140737488355328)<|
   some (.inl ((v1++ [v4.1]),(IntKind.i64.wrap (v2+1))))
  else
   some (.inl (v1,(IntKind.i64.wrap (v2+1))))
 else
  some (.inr (some v1))
def Jn (a0:Ad) (a1:List Ac):Option (List AD):=
 AA (fun s:List AD × Int=>RW a0 a1 s.1 s.2) ([],0)
def IP (a0:Ad) (a1:At) (a2:AD):Option (Ab):=
 req ((a0.ab).length+(([46]:Ab)).length≤9223372036854775807)<|
 req (((a0.ab++([46]:Ab))).length+(a1.ab).length≤9223372036854775807)<|
 req ((((a0.ab++([46]:Ab))++a1.ab)).length+(([47]:Ab)).length≤9223372036854775807)<|
 (getI a2.ax a1.bj).bind fun y1=>
 req (((((a0.ab++([46]:Ab))++a1.ab)++([47]:Ab))).length+(y1).length≤9223372036854775807)<|
 req ((((((a0.ab++([46]:Ab))++a1.ab)++([47]:Ab))++y1)).length+(([47]:Ab)).length≤9223372036854775807)<|
 (getI a2.ax 0).bind fun y2=>
 req (((((((a0.ab++([46]:Ab))++a1.ab)++([47]:Ab))++y1)++([47]:Ab))).length+(y2).length≤9223372036854775807)<|
 some ((((((a0.ab++([46]:Ab))++a1.ab)++([47]:Ab))++y1)++([47]:Ab))++y2)
def Y4 (a0:Ap):Option (Ab × Ap):=
 (Ii a0 ([([97]:Ab),([98]:Ab),([99]:Ab),([109]:Ab),([110]:Ab),([122]:Ab),([114,47,49]:Ab),([105,47,120,47,49]:Ab)]:List (Ab))).bind fun v1=>
 some (v1.1,v1.2)
def Y5 (a0:Ap):Option (Ab × Ap):=
 (Ii a0 ([([]:Ab),([49]:Ab),([55]:Ab),([49,48]:Ab),([45,51]:Ab),([120]:Ab),([97,44,98,95,99]:Ab)]:List (Ab))).bind fun v1=>
 some (v1.1,v1.2)
def lM (v6:List Int) (v7 v8:Int) (v9:List Ac):Option (List Ac × Ap):=
 (F4 (⟨v6,v7,v8⟩:Ap) 6).bind fun v10=>
 if v10.1 then
  (Y4 v10.2).bind fun v11=>
  (Y5 v11.2).bind fun v12=>
  (G7 v9 (⟨v11.1,v12.1,false⟩:Ac)).bind fun v13=>
  some (v13,(⟨v12.2.aw,v12.2.bz,v12.2.az⟩:Ap))
 else
  some (v9,(⟨v10.2.aw,v10.2.bz,v10.2.az⟩:Ap))
def lO (a1:Ad) (v14:Int) (y19:At) (v21:List Int) (v22 v23:Int) (v24:List Ac):Option ((Int × List Int × Int × Int × List Ac) ⊕ Option (List Ac × Ap)):=
 (F4 (⟨v21,v22,v23⟩:Ap) 5).bind fun v25=>
 if v25.1 then
  (Nz v25.2 a1).bind fun v26=>
  (IP a1 y19 v26.1).bind fun v27=>
  (G7 v24 (⟨v27,([]:Ab),false⟩:Ac)).bind fun v28=>
  some (.inl ((IntKind.i64.wrap (v14+1)),v26.2.aw,v26.2.bz,v26.2.az,v28))
 else
  some (.inl ((IntKind.i64.wrap (v14+1)),v25.2.aw,v25.2.bz,v25.2.az,v24))
def zhJ (a1:Ad) (v14:Int) (y19:At) (v20:List AD) (v29:Int) (v30:List Int) (v31 v32:Int) (v33:List Ac):Option ((Int × List Int × Int × Int × List Ac) ⊕ Option ((Int × List Int × Int × Int × List Ac) ⊕ Option (List Ac × Ap))):=
 if(decide (v29<(v20.length:Int)))then
  (getI v20 v29).bind fun y34=>
  (F4 (⟨v30,v31,v32⟩:Ap) 5).bind fun v35=>
  if(!v35.1)then
   (IP a1 y19 y34).bind fun v36=>
   (G7 v33 (⟨v36,([]:Ab),false⟩:Ac)).bind fun v37=>
   some (.inl ((IntKind.i64.wrap (v29+1)),v35.2.aw,v35.2.bz,v35.2.az,v37))
  else
   some (.inl ((IntKind.i64.wrap (v29+1)),v35.2.aw,v35.2.bz,v35.2.az,v33))
 else
  some (.inr (lO a1 v14 y19 v30 v31 v32 v33))
def zhH (a1:Ad) (v14:Int) (v15:List Int) (v16 v17:Int) (v18:List Ac):Option ((Int × List Int × Int × Int × List Ac) ⊕ Option (List Ac × Ap)):=
 if(decide (v14<(a1.ah.length:Int)))then
  (getI a1.ah v14).bind fun y19=>
  (Jn a1 v18).bind fun v20=>
  AA (fun s:Int × List Int × Int × Int × List Ac=>zhJ a1 v14 y19 v20 s.1 s.2.1 s.2.2.1 s.2.2.2.1 s.2.2.2.2) (0,v15,v16,v17,v18)
 else
  some (.inr (lM v15 v16 v17 v18))
def lD (a1:Ad) (v2:List Int) (v3 v4:Int) (v5:List Ac):Option (List Ac × Ap):=
 AA (fun s:Int × List Int × Int × Int × List Ac=>zhH a1 s.1 s.2.1 s.2.2.1 s.2.2.2.1 s.2.2.2.2) (0,v2,v3,v4,v5)
def zhL (a1:Ad) (v38:List Ac) (v39:Int) (v40:List Int) (v41 v42:Int):Option ((List Ac × Int × List Int × Int × Int) ⊕ Option (List Ac × Ap)):=
 if(decide (v39>0))then
  (Nz (⟨v40,v41,v42⟩:Ap) a1).bind fun v43=>
  (IN a1 v43.1).bind fun v44=>
  (G7 v38 v44).bind fun v45=>
  some (.inl (v45,(IntKind.i64.wrap (v39-1)),v43.2.aw,v43.2.bz,v43.2.az))
 else
  some (.inr (lD a1 v40 v41 v42 v38))
def YT (a0:Ap) (a1:Ad):Option (List Ac × Ap):=
 (Dx a0 5).bind fun v1=>
 AA (fun s:List Ac × Int × List Int × Int × Int=>zhL a1 s.1 s.2.1 s.2.2.1 s.2.2.2.1 s.2.2.2.2) ([],v1.1,v1.2.aw,v1.2.bz,v1.2.az)
def lP (a0:Ab) (a1:Int):Option (Bool):=
 some ((decide ((a0.length:Int)≥1))&&(decide ((a0.length:Int)≤a1)))
def lV (a0:Ab) (a1 v1:Int):Option ((Int) ⊕ Option (Bool)):=
 if(decide (v1<(a0.length:Int)))then
  (getI a0 v1).bind fun y2=>
  if((decide ((y2.toNat:Int)<97))||(decide ((y2.toNat:Int)>122)))then
   some (.inr (some false))
  else
   some (.inl (IntKind.i64.wrap (v1+1)))
 else
  some (.inr (lP a0 a1))
def RV (a0:Ab) (a1:Int):Option (Bool):=
 AA (fun s:Int=>lV a0 a1 s) 0
def nI (a0:List (Ab)) (a1:Ab) (v1:Int):Option ((Int) ⊕ Option (Int)):=
 if(decide (v1<(a0.length:Int)))then
  (getI a0 v1).bind fun y2=>
  if(y2==a1)then
   some (.inr (some v1))
  else
   some (.inl (IntKind.i64.wrap (v1+1)))
 else
  some (.inr (some (-1)))
def P2 (a0:List (Ab)) (a1:Ab):Option (Int):=
 AA (fun s:Int=>nI a0 a1 s) 0
def mO (a0:List (Ab)):Option (Bool):=
 (F6 (a0.length:Int) 2 4).bind fun v1=>
 some v1
def mQ (a0:List (Ab)) (v2:Int):Option ((Int) ⊕ Option (Bool)):=
 if(decide (v2<(a0.length:Int)))then
  (getI a0 v2).bind fun y3=>
  (RV y3 3).bind fun v4=>
  if v4 then
   req (0≤(0:Int)∧(0:Int)≤v2∧v2≤(a0.length:Int))<|
   (P2 (Bn a0 0 v2) y3).bind fun v5=>
   if(decide (v5≥0))then
    some (.inr (some false))
   else
    some (.inl (IntKind.i64.wrap (v2+1)))
  else
   some (.inr (some false))
 else
  some (.inr (mO a0))
def Z3 (a0:List (Ab)):Option (Bool):=
 AA (fun s:Int=>mQ a0 s) 0
def Y9 (a0:Ad) (v3:Int):Option ((Int) ⊕ Option (Bool)):=
 if(decide (v3<(a0.ah.length:Int)))then
  (getI a0.ah v3).bind fun y4=>
  (RV y4.ab 1).bind fun v5=>
  if v5 then
   (F6 y4.bj 1 (IntKind.i64.wrap ((a0.ar.length:Int)-1))).bind fun v6=>
   if v6 then
    (F6 y4.aq 0 3).bind fun v7=>
    if(decide (v3>0))then
     if v7 then
      (getI a0.ah (IntKind.i64.wrap (v3-1))).bind fun y8=>
      if(!Op.bytesLess y8.ab y4.ab)then
       some (.inr (some false))
      else
       some (.inl (IntKind.i64.wrap (v3+1)))
     else
      some (.inr (some false))
    else
     if((!v7)||false)then
      some (.inr (some false))
     else
      some (.inl (IntKind.i64.wrap (v3+1)))
   else
    some (.inr (some false))
  else
   some (.inr (some false))
 else
  some (.inr (some true))
def L5 (a0:Ad):Option (Bool):=
 (RV a0.ab 1).bind fun v1=>
 if v1 then
  (Z3 a0.ar).bind fun v2=>
  if((!v2)||(decide ((a0.ah.length:Int)>3)))then
   some false
  else
   AA (fun s:Int=>Y9 a0 s) 0
 else
  some false
def ZK (a0:Ad) (a1:Ab) (a2:Int):Option (Bool):=
 (L5 a0).bind fun v1=>
 if v1 then
  (GO a0 a1).bind fun v2=>
  if(decide (v2≥0))then
   (F6 a2 0 3).bind fun v3=>
   some v3
  else
   some false
 else
  some false
def SH (a0:Ab):Option (Bool):=
 (F6 (a0.length:Int) 1 12).bind fun v1=>
 if v1 then
  (Sx a0 ([46,47]:Ab)).bind fun v2=>
  some v2
 else
  some false
def Wg (a0:Ab):Option (Bool):=
 if(decide ((a0.length:Int)≤24))then
  (Sx a0 ([46,45,44,95]:Ab)).bind fun v1=>
  some v1
 else
  some false
def ZF (a0 a1:Ab) (a2:Bool):Option (Bool):=
 (SH a0).bind fun v1=>
 if v1 then
  (Wg a1).bind fun v2=>
  some (v2&&((!a2)||(a1==([]:Ab))))
 else
  some false
def mB (a0:List Ac):Option (Bool):=
 some (decide ((a0.length:Int)≤24))
def mT (a0:List Ac) (v1:Int):Option ((Int) ⊕ Option (Bool)):=
 if(decide (v1<(a0.length:Int)))then
  (getI a0 v1).bind fun y2=>
  (ZF y2.af y2.a7 y2.bh).bind fun v3=>
  if(decide (v1>0))then
   if v3 then
    (getI a0 (IntKind.i64.wrap (v1-1))).bind fun y4=>
    if(!Op.bytesLess y4.af y2.af)then
     some (.inr (some false))
    else
     some (.inl (IntKind.i64.wrap (v1+1)))
   else
    some (.inr (some false))
  else
   if((!v3)||false)then
    some (.inr (some false))
   else
    some (.inl (IntKind.i64.wrap (v1+1)))
 else
  some (.inr (mB a0))
def Zr (a0:List Ac):Option (Bool):=
 AA (fun s:Int=>mT a0 s) 0
def nB (a0:List Ac):Option (Bool):=
 (Zr a0).bind fun v1=>
 some v1
def nA (a0:List Ac) (v2:Int):Option ((Int) ⊕ Option (Bool)):=
 if(decide (v2<(a0.length:Int)))then
  (getI a0 v2).bind fun y3=>
  if y3.bh then
   some (.inr (some false))
  else
   some (.inl (IntKind.i64.wrap (v2+1)))
 else
  some (.inr (nB a0))
def KV (a0:List Ac):Option (Bool):=
 AA (fun s:Int=>nA a0 s) 0
def VJ (a0:Ad) (a1:Ab) (a2 v4:Int) (v5:List Ad):Option ((Int × List Ad) ⊕ Option (List Ad)):=
 if(v4 !=a2)then
  if(decide (v4<a2))then
   (SD a0 a1 (IntKind.i64.wrap (v4+1))).bind fun v6=>
   req ((((v5).length:Int)+(([v6]:List Ad).length:Int))*64≤140737488355328∧((v5).length:Int)+(([v6]:List Ad).length:Int)≤140737488355328)<|
   some (.inl ((IntKind.i64.wrap (v4+1)),(v5++ [v6])))
  else
   (SD a0 a1 (IntKind.i64.wrap (v4-1))).bind fun v7=>
   req ((((v5).length:Int)+(([v7]:List Ad).length:Int))*64≤140737488355328∧((v5).length:Int)+(([v7]:List Ad).length:Int)≤140737488355328)<|
   some (.inl ((IntKind.i64.wrap (v4-1)),(v5++ [v7])))
 else
  some (.inr (some v5))
def Wc (a0:Ad) (a1:Ab) (a2:Int):Option (List Ad):=
 (SE a0).bind fun v1=>
 (GO a0 a1).bind fun v2=>
 (getI a0.ah v2).bind fun y3=>
 AA (fun s:Int × List Ad=>VJ a0 a1 a2 s.1 s.2) (y3.aq, [v1])
def aS (a0:List Int):Option (List Int):=
 req (((([]:List Int).length:Int)+((a0).length:Int))*8≤140737488355328∧(([]:List Int).length:Int)+((a0).length:Int)≤140737488355328)<|
 some a0
def Sr (a0:Au) (v1:List Int) (v2:Int) (v3:List Ad):Option ((Int × List Ad) ⊕ Option (Au)):=
 if(decide (v2<(a0.ak.length:Int)))then
  (getI a0.ak v2).bind fun y4=>
  (SE y4).bind fun v5=>
  req ((((v3).length:Int)+(([v5]:List Ad).length:Int))*64≤140737488355328∧((v3).length:Int)+(([v5]:List Ad).length:Int)≤140737488355328)<|
  some (.inl ((IntKind.i64.wrap (v2+1)),(v3++ [v5])))
 else
  some (.inr (some (⟨a0.ab,v3,v1,a0.ao⟩:Au)))
def SF (a0:Au):Option (Au):=
 (aS a0.bp).bind fun v1=>
 req (((([]:List Ac).length:Int)+((a0.ao).length:Int))*40≤140737488355328∧(([]:List Ac).length:Int)+((a0.ao).length:Int)≤140737488355328)<|
 AA (fun s:Int × List Ad=>Sr a0 v1 s.1 s.2) (0, [])
def Zo (a0:Ad) (a1:Ab) (a2 a3:Int) (a4:List Ac):Option (Au × Bool):=
 (ZK a0 a1 a2).bind fun v1=>
 if v1 then
  (F6 a3 1 3).bind fun v2=>
  if v2 then
   (KV a4).bind fun v3=>
   if(!v3)then
    some ((⟨([]:Ab), [], [], []⟩:Au),false)
   else
    (Wc a0 a1 a2).bind fun v4=>
    req (0≤a3∧a3*8≤140737488355328∧a3≤140737488355328)<|
    (SF (⟨a1,v4,(List.replicate (a3).toNat 0),a4⟩:Au)).bind fun v5=>
    some (v5,true)
  else
   some ((⟨([]:Ab), [], [], []⟩:Au),false)
 else
  some ((⟨([]:Ab), [], [], []⟩:Au),false)
def ZU (a0 a1:Int):Option (Int):=
 if(decide (a0<a1))then
  some a0
 else
  some a1
def RF (a0:Au) (v1:List Int) (v2:Int):Option ((List Int × Int) ⊕ Option (List Int)):=
 if(decide (v2<(a0.bp.length:Int)))then
  (getI a0.bp v2).bind fun y3=>
  (getI a0.ak y3).bind fun y4=>
  (GO y4 a0.ab).bind fun v5=>
  (getI y4.ah v5).bind fun y6=>
  req ((((v1).length:Int)+(([y6.aq]:List Int).length:Int))*8≤140737488355328∧((v1).length:Int)+(([y6.aq]:List Int).length:Int)≤140737488355328)<|
  some (.inl ((v1++ [y6.aq]),(IntKind.i64.wrap (v2+1))))
 else
  some (.inr (some v1))
def L6 (a0:Au):Option (List Int):=
 AA (fun s:List Int × Int=>RF a0 s.1 s.2) ([],0)
def Sy (a0:List Int) (a1 v1:Int):Option ((Int) ⊕ Option (Bool)):=
 if(decide (v1<(a0.length:Int)))then
  (getI a0 v1).bind fun y2=>
  if(y2==a1)then
   some (.inr (some true))
  else
   some (.inl (IntKind.i64.wrap (v1+1)))
 else
  some (.inr (some false))
def We (a0:List Int) (a1:Int):Option (Bool):=
 AA (fun s:Int=>Sy a0 a1 s) 0
def V8 (a0:Au):Option (Int):=
 (L6 a0).bind fun v1=>
 (We v1 3).bind fun v2=>
 if v2 then
  some 2
 else
  (We v1 0).bind fun v3=>
  if v3 then
   some 0
  else
   some 1
def R4 (a0:Ad) (a1:Ab) (v1:List AD) (v2:List (Ab)) (v3:Int):Option ((List (Ab) × Int) ⊕ Option (List (Ab))):=
 if(decide (v3<(v1.length:Int)))then
  (getI v1 v3).bind fun y4=>
  (GO a0 a1).bind fun v5=>
  (getI a0.ah v5).bind fun y6=>
  (IP a0 y6 y4).bind fun v7=>
  req ((((v2).length:Int)+(([v7]:List (Ab)).length:Int))*16≤140737488355328∧((v2).length:Int)+(([v7]:List (Ab)).length:Int)≤140737488355328)<|
  some (.inl ((v2++ [v7]),(IntKind.i64.wrap (v3+1))))
 else
  some (.inr (some v2))
def Se (a0:Ad) (a1:Ab) (a2:List Ac):Option (List (Ab)):=
 (Jn a0 a2).bind fun v1=>
 AA (fun s:List (Ab) × Int=>R4 a0 a1 v1 s.1 s.2) ([],0)
def lI (v11:List Ac × Ap) (v16:Au × Bool) (v21 v24:List Int) (v25 v26:Int) (v27:List Ac):Option (Au × Ap):=
 (F4 (⟨v24,v25,v26⟩:Ap) 7).bind fun v28=>
 if v28.1 then
  some ((⟨v16.1.ab,v16.1.ak,v21,v11.1⟩:Au),(⟨v28.2.aw,v28.2.bz,v28.2.az⟩:Ap))
 else
  some ((⟨v16.1.ab,v16.1.ak,v21,v27⟩:Au),(⟨v28.2.aw,v28.2.bz,v28.2.az⟩:Ap))
def zg4 (v11:List Ac × Ap) (v16:Au × Bool) (v21:List Int) (v22:Int) (v23:List (Ab)) (v29:Int) (v30:List Int) (v31 v32:Int) (v33:List Ac):Option ((Int × List Int × Int × Int × List Ac) ⊕ Option (Au × Ap)):=
 if(decide (v29<(v23.length:Int)))then
  (getI v23 v29).bind fun y34=>
  if(v22==2)then
   if true then
    (G7 v33 (⟨y34,([]:Ab),false⟩:Ac)).bind fun v35=>
    some (.inl ((IntKind.i64.wrap (v29+1)),v30,v31,v32,v35))
   else
    some (.inl ((IntKind.i64.wrap (v29+1)),v30,v31,v32,v33))
  else
   if(v22==1)then
    (F4 (⟨v30,v31,v32⟩:Ap) 2).bind fun v36=>
    if v36.1 then
     (G7 v33 (⟨y34,([]:Ab),false⟩:Ac)).bind fun v37=>
     some (.inl ((IntKind.i64.wrap (v29+1)),v36.2.aw,v36.2.bz,v36.2.az,v37))
    else
     some (.inl ((IntKind.i64.wrap (v29+1)),v36.2.aw,v36.2.bz,v36.2.az,v33))
   else
    if false then
     (G7 v33 (⟨y34,([]:Ab),false⟩:Ac)).bind fun v38=>
     some (.inl ((IntKind.i64.wrap (v29+1)),v30,v31,v32,v38))
    else
     some (.inl ((IntKind.i64.wrap (v29+1)),v30,v31,v32,v33))
 else
  some (.inr (lI v11 v16 v21 v30 v31 v32 v33))
def lG (y8:At) (v10:Ad) (v11:List Ac × Ap) (v13:List Ac) (v16:Au × Bool) (v18:List Int) (v19 v20:Int) (v21:List Int):Option (Au × Ap):=
 (V8 (⟨v16.1.ab,v16.1.ak,v21,v16.1.ao⟩:Au)).bind fun v22=>
 (Se v10 y8.ab v13).bind fun v23=>
 AA (fun s:Int × List Int × Int × Int × List Ac=>zg4 v11 v16 v21 v22 v23 s.1 s.2.1 s.2.2.1 s.2.2.2.1 s.2.2.2.2) (0,v18,v19,v20,v16.1.ao)
def zg5 (y8:At) (v10:Ad) (v11:List Ac × Ap) (v13:List Ac) (v16:Au × Bool) (v17:Int × Ap) (v39:Int) (v40:List Int) (v41 v42:Int) (v43:List Int):Option ((Int × List Int × Int × Int × List Int) ⊕ Option (Au × Ap)):=
 if(decide (v39<(v16.1.bp.length:Int)))then
  (Dx (⟨v40,v41,v42⟩:Ap) 2).bind fun v44=>
  (ZU (IntKind.i64.wrap (v17.1+v44.1)) (IntKind.i64.wrap ((v16.1.ak.length:Int)-1))).bind fun v45=>
  (getI v43 v39).bind fun y46=>
  (F4 v44.2 9).bind fun v47=>
  if v47.1 then
   (Dx v47.2 (v16.1.ak.length:Int)).bind fun v48=>
   some (.inl ((IntKind.i64.wrap (v39+1)),v48.2.aw,v48.2.bz,v48.2.az,((v43.set (v39).toNat v45).set (v39).toNat v48.1)))
  else
   some (.inl ((IntKind.i64.wrap (v39+1)),v47.2.aw,v47.2.bz,v47.2.az,(v43.set (v39).toNat v45)))
 else
  some (.inr (lG y8 v10 v11 v13 v16 v40 v41 v42 v43))
def lH (y8:At) (v10:Ad) (v11:List Ac × Ap) (v13:List Ac):Option (Au × Ap):=
 (Dx v11.2 4).bind fun v14=>
 (Dx v14.2 3).bind fun v15=>
 (Zo v10 y8.ab v14.1 (IntKind.i64.wrap ((1:Int)+v15.1)) v13).bind fun v16=>
 (Dx v15.2 (v16.1.ak.length:Int)).bind fun v17=>
 AA (fun s:Int × List Int × Int × Int × List Int=>zg5 y8 v10 v11 v13 v16 v17 s.1 s.2.1 s.2.2.1 s.2.2.2.1 s.2.2.2.2) (0,v17.2.aw,v17.2.bz,v17.2.az,v16.1.bp)
def zhi (y8:At) (v10:Ad) (v11:List Ac × Ap) (v12:List AD) (v49:List Ac) (v50:Int):Option ((List Ac × Int) ⊕ Option (Au × Ap)):=
 if(decide (v50<(v12.length:Int)))then
  (getI v12 v50).bind fun y51=>
  (IN v10 y51).bind fun v52=>
  (G7 v49 v52).bind fun v53=>
  some (.inl (v53,(IntKind.i64.wrap (v50+1))))
 else
  some (.inr (lH y8 v10 v11 v49))
def Vn (v2:List Int) (v3 v4:Int) (v5:Ab) (v6:List (Ab)) (v7:List At):Option (Au × Ap):=
 (getI v7 0).bind fun y8=>
 (Dx (⟨v2,v3,v4⟩:Ap) 4).bind fun v9=>
 (SD (⟨v5,v6,v7⟩:Ad) y8.ab v9.1).bind fun v10=>
 (YT v9.2 v10).bind fun v11=>
 (Jn v10 v11.1).bind fun v12=>
 AA (fun s:List Ac × Int=>zhi y8 v10 v11 v12 s.1 s.2) ([],0)
def Ro (v54:List Int) (v55 v56:Int) (v57:Ab) (v58:List (Ab)) (v59:List At):Option ((List Int × Int × Int × Ab × List (Ab) × List At) ⊕ Option (Au × Ap)):=
 if((v59.length:Int)==0)then
  (Jl (⟨v54,v55,v56⟩:Ap)).bind fun v60=>
  some (.inl (v60.2.aw,v60.2.bz,v60.2.az,v60.1.ab,v60.1.ar,v60.1.ah))
 else
  some (.inr (Vn v54 v55 v56 v57 v58 v59))
def NA (a0:Ap):Option (Au × Ap):=
 (Jl a0).bind fun v1=>
 AA (fun s:List Int × Int × Int × Ab × List (Ab) × List At=>Ro s.1 s.2.1 s.2.2.1 s.2.2.2.1 s.2.2.2.2.1 s.2.2.2.2.2) (v1.2.aw,v1.2.bz,v1.2.az,v1.1.ab,v1.1.ar,v1.1.ah)
def YC (a0:Ap):Option (Au × Ap):=
 (NA a0).bind fun v1=>
 (Dx v1.2 14).bind fun v2=>
 if(v2.1==0)then
  (Dx v2.2 6).bind fun v3=>
  req ((((v1.1.bp).length:Int)+(([(IntKind.i64.wrap (v3.1-1))]:List Int).length:Int))*8≤140737488355328∧((v1.1.bp).length:Int)+(([(IntKind.i64.wrap (v3.1-1))]:List Int).length:Int)≤140737488355328)<|
  some ((⟨v1.1.ab,v1.1.ak,(v1.1.bp++ [(IntKind.i64.wrap (v3.1-1))]),v1.1.ao⟩:Au),(⟨v3.2.aw,v3.2.bz,v3.2.az⟩:Ap))
 else
  if(v2.1==1)then
   (Jl v2.2).bind fun v4=>
   req ((((v1.1.ak).length:Int)+(([v4.1]:List Ad).length:Int))*64≤140737488355328∧((v1.1.ak).length:Int)+(([v4.1]:List Ad).length:Int)≤140737488355328)<|
   some ((⟨v1.1.ab,(v1.1.ak++ [v4.1]),v1.1.bp,v1.1.ao⟩:Au),(⟨v4.2.aw,v4.2.bz,v4.2.az⟩:Ap))
  else
   if(v2.1==2)then
    (Ii v2.2 ([([]:Ab),([122]:Ab)]:List (Ab))).bind fun v5=>
    some ((⟨v5.1,v1.1.ak,v1.1.bp,v1.1.ao⟩:Au),(⟨v5.2.aw,v5.2.bz,v5.2.az⟩:Ap))
   else
    if(v2.1==3)then
     req ((((v1.1.ao).length:Int)+(([(⟨([97]:Ab),([]:Ab),true⟩:Ac)]:List Ac).length:Int))*40≤140737488355328∧((v1.1.ao).length:Int)+(([(⟨([97]:Ab),([]:Ab),true⟩:Ac)]:List Ac).length:Int)≤140737488355328)<|
     some ((⟨v1.1.ab,v1.1.ak,v1.1.bp,(v1.1.ao++ [(⟨([97]:Ab),([]:Ab),true⟩:Ac)])⟩:Au),(⟨v2.2.aw,v2.2.bz,v2.2.az⟩:Ap))
    else
     if(v2.1==4)then
      some ((⟨v1.1.ab, [],v1.1.bp,v1.1.ao⟩:Au),(⟨v2.2.aw,v2.2.bz,v2.2.az⟩:Ap))
     else
      if(v2.1==5)then
       req (0≤(1:Int)∧(1:Int)≤(v1.1.ak.length:Int)∧(v1.1.ak.length:Int)≤(v1.1.ak.length:Int))<|
       some ((⟨v1.1.ab,(Bn v1.1.ak 1 (v1.1.ak.length:Int)),v1.1.bp,v1.1.ao⟩:Au),(⟨v2.2.aw,v2.2.bz,v2.2.az⟩:Ap))
      else
       some ((⟨v1.1.ab,v1.1.ak,v1.1.bp,v1.1.ao⟩:Au),(⟨v2.2.aw,v2.2.bz,v2.2.az⟩:Ap))
def Vs (a0 a1:Ad) (v1:Int):Option ((Int) ⊕ Option (Bool)):=
 if(decide (v1<(a0.ah.length:Int)))then
  (getI a0.ah v1).bind fun y2=>
  (getI a1.ah v1).bind fun y3=>
  if((y2.ab !=y3.ab)||(y2.bj !=y3.bj))then
   some (.inr (some false))
  else
   some (.inl (IntKind.i64.wrap (v1+1)))
 else
  some (.inr (some true))
def YR (a0 a1:Ad):Option (Bool):=
 AA (fun s:Int=>Vs a0 a1 s) 0
def Vu (a0 a1:Ad) (v4:Int):Option ((Int) ⊕ Option (Bool)):=
 if(decide (v4<(a0.ar.length:Int)))then
  (getI a0.ar v4).bind fun y5=>
  (getI a1.ar v4).bind fun y6=>
  if(y5 !=y6)then
   some (.inr (some false))
  else
   some (.inl (IntKind.i64.wrap (v4+1)))
 else
  some (.inr (YR a0 a1))
def Zj (a0 a1:Ad):Option (Bool):=
 if(((a0.ab !=a1.ab)||((a0.ar.length:Int) !=(a1.ar.length:Int)))||((a0.ah.length:Int) !=(a1.ah.length:Int)))then
  some false
 else
  AA (fun s:Int=>Vu a0 a1 s) 0
def aD (a0 a1:Int):Option (Int):=
 if(decide (a0>a1))then
  some a0
 else
  some a1
def Sf (a0 a1:Ad) (v1 v2:Int):Option ((Int × Int) ⊕ Option (Int)):=
 if(decide (v2<(a0.ah.length:Int)))then
  (getI a0.ah v2).bind fun y3=>
  (getI a1.ah v2).bind fun y4=>
  (aD (IntKind.i64.wrap (y3.aq-y4.aq)) (IntKind.i64.wrap (0-(IntKind.i64.wrap (y3.aq-y4.aq))))).bind fun v5=>
  some (.inl ((IntKind.i64.wrap (v1+v5)),(IntKind.i64.wrap (v2+1))))
 else
  some (.inr (some v1))
def ZP (a0 a1:Ad):Option (Int):=
 AA (fun s:Int × Int=>Sf a0 a1 s.1 s.2) (0,0)
def VK (a0:Au) (v10:List Ad) (v11:Int):Option ((Int) ⊕ Option (Bool)):=
 if(decide (v11<(v10.length:Int)))then
  (getI a0.ak v11).bind fun y12=>
  (L5 y12).bind fun v13=>
  if v13 then
   (getI v10 v11).bind fun y14=>
   (Zj y14 y12).bind fun v15=>
   if v15 then
    (ZP y14 y12).bind fun v16=>
    if(v16 !=0)then
     some (.inr (some false))
    else
     some (.inl (IntKind.i64.wrap (v11+1)))
   else
    some (.inr (some false))
  else
   some (.inr (some false))
 else
  some (.inr (some true))
def Ss (a0:Au):Option (Bool):=
 (F6 (a0.ak.length:Int) 1 4).bind fun v1=>
 if v1 then
  (getI a0.ak 0).bind fun y2=>
  (L5 y2).bind fun v3=>
  if v3 then
   (GO y2 a0.ab).bind fun v4=>
   if(decide (v4<0))then
    some false
   else
    (getI a0.ak (IntKind.i64.wrap ((a0.ak.length:Int)-1))).bind fun y5=>
    (L5 y5).bind fun v6=>
    if v6 then
     (GO y5 a0.ab).bind fun v7=>
     if(decide (v7<0))then
      some false
     else
      (GO y5 a0.ab).bind fun v8=>
      (getI y5.ah v8).bind fun y9=>
      (Wc y2 a0.ab y9.aq).bind fun v10=>
      if((v10.length:Int) !=(a0.ak.length:Int))then
       some false
      else
       AA (fun s:Int=>VK a0 v10 s) 0
    else
     some false
  else
   some false
 else
  some false
def Sb (a0:List Int) (a1 a2 v1:Int):Option ((Int) ⊕ Option (Bool)):=
 if(decide (v1<(a0.length:Int)))then
  (getI a0 v1).bind fun y2=>
  (F6 y2 a1 a2).bind fun v3=>
  if(!v3)then
   some (.inr (some false))
  else
   some (.inl (IntKind.i64.wrap (v1+1)))
 else
  some (.inr (some true))
def Z9 (a0:List Int) (a1 a2:Int):Option (Bool):=
 AA (fun s:Int=>Sb a0 a1 a2 s) 0
def Sg (a0:Au):Option (Bool):=
 (Ss a0).bind fun v1=>
 if v1 then
  (F6 (a0.bp.length:Int) 1 3).bind fun v2=>
  if v2 then
   (Z9 a0.bp 0 (IntKind.i64.wrap ((a0.ak.length:Int)-1))).bind fun v3=>
   if v3 then
    (KV a0.ao).bind fun v4=>
    some v4
   else
    some false
  else
   some false
 else
  some false
def G6 (a0 a1 a2:Int):Option (Bool):=
 some ((decide (a0≥a1))&&(decide (a0≤a2)))
def R5 (a0:List Ac) (v1:Int) (v2:List (Ab)):Option ((Int × List (Ab)) ⊕ Option (List (Ab))):=
 if(decide (v1<(a0.length:Int)))then
  (getI a0 v1).bind fun y3=>
  req ((((v2).length:Int)+(([y3.af]:List (Ab)).length:Int))*16≤140737488355328∧((v2).length:Int)+(([y3.af]:List (Ab)).length:Int)≤140737488355328)<|
  some (.inl ((IntKind.i64.wrap (v1+1)),(v2++ [y3.af])))
 else
  some (.inr (some v2))
def Zz (a0:List Ac):Option (List (Ab)):=
 AA (fun s:Int × List (Ab)=>R5 a0 s.1 s.2) (0, [])
def lU (a0:Int):Option (Bool):=
 some (((decide (a0≥97))&&(decide (a0≤122)))||((decide (a0≥48))&&(decide (a0≤57))))
def lZ (a0:Ab) (a1:Int):Option (Int):=
 (Yx a0 a1).bind fun v1=>
 some v1
def mC (a0 a1:Ab) (v1:Int):Option ((Int) ⊕ Option (Bool)):=
 if(decide (v1<(a0.length:Int)))then
  (getI a0 v1).bind fun y2=>
  (lU (y2.toNat:Int)).bind fun v3=>
  if v3 then
   some (.inl (IntKind.i64.wrap (v1+1)))
  else
   (lZ a1 (y2.toNat:Int)).bind fun v4=>
   if(decide (v4<0))then
    some (.inr (some false))
   else
    some (.inl (IntKind.i64.wrap (v1+1)))
 else
  some (.inr (some true))
def Sd (a0 a1:Ab):Option (Bool):=
 AA (fun s:Int=>mC a0 a1 s) 0
def VP (a0:Ab):Option (Bool):=
 (G6 (a0.length:Int) 1 12).bind fun v1=>
 if v1 then
  (Sd a0 ([46,47]:Ab)).bind fun v2=>
  some v2
 else
  some false
def mH (a0:List (Ab)) (v1:Int):Option ((Int) ⊕ Option (Bool)):=
 if(decide (v1<(a0.length:Int)))then
  (getI a0 v1).bind fun y2=>
  (VP y2).bind fun v3=>
  if(decide (v1>0))then
   if v3 then
    (getI a0 (IntKind.i64.wrap (v1-1))).bind fun y4=>
    if(Op.bytesLess y2 y4||y2==y4)then
     some (.inr (some false))
    else
     some (.inl (IntKind.i64.wrap (v1+1)))
   else
    some (.inr (some false))
  else
   if((!v3)||false)then
    some (.inr (some false))
   else
    some (.inl (IntKind.i64.wrap (v1+1)))
 else
  some (.inr (some true))
def ZB (a0:List (Ab)):Option (Bool):=
 AA (fun s:Int=>mH a0 s) 0
def ZH (a0:Ab):Option (Bool):=
 if(decide ((a0.length:Int)≤24))then
  (Sd a0 ([46,45,44,95]:Ab)).bind fun v1=>
  some v1
 else
  some false
def Zl (a0:Ab) (a1:Bool):Option (Bool):=
 (ZH a0).bind fun v1=>
 some (v1&&(!(a1&&(a0 !=([]:Ab)))))
def Y7 (a0:Ac):Option (Bool):=
 (Zl a0.a7 a0.bh).bind fun v1=>
 some (!v1)
def Zd (a0:List Ac):Option (Bool):=
 if(decide ((a0.length:Int)≤24))then
  (Zz a0).bind fun v1=>
  (ZB v1).bind fun v2=>
  if v2 then
   (FL a0 (fun y0_=>Y7 y0_)).bind fun v3=>
   some (!v3)
  else
   some false
 else
  some false
def ZJ (a0:Ac):Option (Bool):=
 some a0.bh
def aP (a0:List Ac):Option (Bool):=
 (Zd a0).bind fun v1=>
 if v1 then
  (FL a0 (fun y0_=>ZJ y0_)).bind fun v2=>
  some (!v2)
 else
  some false
def lQ (a0:Ab) (a1:Int):Option (Bool):=
 (G6 (a0.length:Int) 1 a1).bind fun v1=>
 some v1
def lS (a0:Ab) (a1 v2:Int):Option ((Int) ⊕ Option (Bool)):=
 if(decide (v2<(a0.length:Int)))then
  (getI a0 v2).bind fun y3=>
  if((decide ((y3.toNat:Int)<97))||(decide ((y3.toNat:Int)>122)))then
   some (.inr (some false))
  else
   some (.inl (IntKind.i64.wrap (v2+1)))
 else
  some (.inr (lQ a0 a1))
def RU (a0:Ab) (a1:Int):Option (Bool):=
 AA (fun s:Int=>lS a0 a1 s) 0
def kY (a0:List (Ab)) (a1:Ab) (v1:Int):Option ((Int) ⊕ Option (Int)):=
 if(decide (v1<(a0.length:Int)))then
  (getI a0 v1).bind fun y2=>
  if(a1==y2)then
   some (.inr (some v1))
  else
   some (.inl (IntKind.i64.wrap (v1+1)))
 else
  some (.inr (some (-1)))
def Yw (a0:List (Ab)) (a1:Ab):Option (Int):=
 AA (fun s:Int=>kY a0 a1 s) 0
def PB (a0:List (Ab)) (a1:Ab):Option (Bool):=
 (Yw a0 a1).bind fun v1=>
 some (decide (v1≥0))
def nW (a0:Int):Option (Bool):=
 (G6 a0 0 3).bind fun v1=>
 some v1
def Zb (a0:Ad) (v3:Int):Option ((Int) ⊕ Option (Bool)):=
 if(decide (v3<(a0.ah.length:Int)))then
  (getI a0.ah v3).bind fun y4=>
  (RU y4.ab 1).bind fun v5=>
  if v5 then
   (G6 y4.bj 1 (IntKind.i64.wrap ((a0.ar.length:Int)-1))).bind fun v6=>
   if v6 then
    (nW y4.aq).bind fun v7=>
    if(decide (v3>0))then
     if v7 then
      (getI a0.ah (IntKind.i64.wrap (v3-1))).bind fun y8=>
      if(Op.bytesLess y4.ab y8.ab||y4.ab==y8.ab)then
       some (.inr (some false))
      else
       some (.inl (IntKind.i64.wrap (v3+1)))
     else
      some (.inr (some false))
    else
     if((!v7)||false)then
      some (.inr (some false))
     else
      some (.inl (IntKind.i64.wrap (v3+1)))
   else
    some (.inr (some false))
  else
   some (.inr (some false))
 else
  some (.inr (some true))
def mG (a0:Ad):Option (Bool):=
 AA (fun s:Int=>Zb a0 s) 0
def Y6 (a0:Ad) (v9:Int):Option ((Int) ⊕ Option (Bool)):=
 if(decide (v9<(a0.ar.length:Int)))then
  (getI a0.ar v9).bind fun y10=>
  (RU y10 3).bind fun v11=>
  if v11 then
   req (0≤(0:Int)∧(0:Int)≤v9∧v9≤(a0.ar.length:Int))<|
   (PB (Bn a0.ar 0 v9) y10).bind fun v12=>
   if v12 then
    some (.inr (some false))
   else
    some (.inl (IntKind.i64.wrap (v9+1)))
  else
   some (.inr (some false))
 else
  some (.inr (mG a0))
def Zs (a0:Ad):Option (Bool):=
 (RU a0.ab 1).bind fun v1=>
 if v1 then
  (G6 (a0.ar.length:Int) 2 4).bind fun v2=>
  if((!v2)||(decide ((a0.ah.length:Int)>3)))then
   some false
  else
   AA (fun s:Int=>Y6 a0 s) 0
 else
  some false
def lN (a0:At) (a1:Ab):Option (Bool):=
 some (a0.ab==a1)
def RP (a0:Ad) (a1:Ab):Option (Int):=
 (Fc a0.ah (fun y0_=>lN y0_ a1)).bind fun v1=>
 some v1
def aO (a0:Ad) (a1:Ab):Option (Bool):=
 (Zs a0).bind fun v1=>
 if v1 then
  (RP a0 a1).bind fun v2=>
  some (decide (v2≥0))
 else
  some false
def mD (a0:Ad) (a1:Au):Option (Bool):=
 (aO a0 a1.ab).bind fun v1=>
 some (!v1)
def mS (a0:Int) (a1:Au):Option (Bool):=
 (G6 a0 0 (IntKind.i64.wrap ((a1.ak.length:Int)-1))).bind fun v1=>
 some (!v1)
def Nx (a0:Ad) (a1:Ab):Option (At):=
 (RP a0 a1).bind fun v1=>
 (getI a0.ah v1).bind fun y2=>
 some y2
def Ki (a0:Au) (a1:Ad):Option (Int):=
 (Nx a1 a0.ab).bind fun v1=>
 some v1.aq
def Vi (xs:List (Ab)):Option (List (Ab)):=N7 16 xs
def lB (xs:List At):Option (List At):=N7 32 xs
def Sq (a0:Ad):Option (Ad):=
 (Vi a0.ar).bind fun v1=>
 (lB a0.ah).bind fun v2=>
 some (⟨a0.ab,v1,v2⟩:Ad)
def Vk (a0:Ad) (a1:Ab) (a2:Int):Option (Ad):=
 (Sq a0).bind fun v1=>
 (RP a0 a1).bind fun v2=>
 (getI v1.ah v2).bind fun y3=>
 some (⟨v1.ab,v1.ar,(v1.ah.set (v2).toNat {y3 with aq:=a2})⟩:Ad)
def Vm (a0:Ad) (a1:Ab) (a2 v3:Int) (v4:List Ad):Option ((Int × List Ad) ⊕ Option (List Ad)):=
 if(v3 !=a2)then
  if(decide (v3<a2))then
   (Vk a0 a1 (IntKind.i64.wrap (v3+1))).bind fun v5=>
   req ((((v4).length:Int)+(([v5]:List Ad).length:Int))*64≤140737488355328∧((v4).length:Int)+(([v5]:List Ad).length:Int)≤140737488355328)<|
   some (.inl ((IntKind.i64.wrap (v3+1)),(v4++ [v5])))
  else
   (Vk a0 a1 (IntKind.i64.wrap (v3-1))).bind fun v6=>
   req ((((v4).length:Int)+(([v6]:List Ad).length:Int))*64≤140737488355328∧((v4).length:Int)+(([v6]:List Ad).length:Int)≤140737488355328)<|
   some (.inl ((IntKind.i64.wrap (v3-1)),(v4++ [v6])))
 else
  some (.inr (some v4))
def YV (a0:Ad) (a1:Ab) (a2:Int):Option (List Ad):=
 (Nx a0 a1).bind fun v1=>
 (Sq a0).bind fun v2=>
 AA (fun s:Int × List Ad=>Vm a0 a1 a2 s.1 s.2) (v1.aq, [v2])
def Vh (a0 a1:List Ad) (a2:Ad→Ad→Option Bool) (v1:Int):Option ((Int) ⊕ Option (Bool)):=
 if(decide (v1<(a0.length:Int)))then
  (getI a0 v1).bind fun y2=>
  (getI a1 v1).bind fun y3=>
  (a2 y2 y3).bind fun v4=>
  if(!v4)then
   some (.inr (some false))
  else
   some (.inl (IntKind.i64.wrap (v1+1)))
 else
  some (.inr (some true))
def Yv (a0 a1:List Ad) (a2:Ad→Ad→Option Bool):Option (Bool):=
 if((a0.length:Int) !=(a1.length:Int))then
  some false
 else
  AA (fun s:Int=>Vh a0 a1 a2 s) 0
def Vf (a0:List (Ab)) (a1:List (Ab)) (v1:Int):Option ((Int) ⊕ Option (Bool)):=
 if(decide (v1<(a0.length:Int)))then
  (getI a0 v1).bind fun y2=>
  (getI a1 v1).bind fun y3=>
  if(y2 !=y3)then
   some (.inr (some false))
  else
   some (.inl (IntKind.i64.wrap (v1+1)))
 else
  some (.inr (some true))
def Yz (a0:List (Ab)) (a1:List (Ab)):Option (Bool):=
 if((a0.length:Int) !=(a1.length:Int))then
  some false
 else
  AA (fun s:Int=>Vf a0 a1 s) 0
def Vg (a0 a1:List At) (v1:Int):Option ((Int) ⊕ Option (Bool)):=
 if(decide (v1<(a0.length:Int)))then
  (getI a0 v1).bind fun y2=>
  (getI a1 v1).bind fun y3=>
  if(!(y2.ab==y3.ab&&(y2.bj==y3.bj&&(y2.aq==y3.aq))))then
   some (.inr (some false))
  else
   some (.inl (IntKind.i64.wrap (v1+1)))
 else
  some (.inr (some true))
def YA (a0 a1:List At):Option (Bool):=
 if((a0.length:Int) !=(a1.length:Int))then
  some false
 else
  AA (fun s:Int=>Vg a0 a1 s) 0
def NB (a0 a1:Ad):Option (Bool):=
 if(a0.ab==a1.ab)then
  (Yz a0.ar a1.ar).bind fun v1=>
  if v1 then
   (YA a0.ah a1.ah).bind fun v2=>
   some v2
  else
   some false
 else
  some false
def PR (a0:Au):Option (Bool):=
 (G6 (a0.ak.length:Int) 1 4).bind fun v1=>
 if v1 then
  (G6 (a0.bp.length:Int) 1 3).bind fun v2=>
  if v2 then
   (aP a0.ao).bind fun v3=>
   if(!v3)then
    some false
   else
    (FL a0.ak (fun y0_=>mD y0_ a0)).bind fun v4=>
    if v4 then
     some false
    else
     (FL a0.bp (fun y0_=>mS y0_ a0)).bind fun v5=>
     if v5 then
      some false
     else
      (getI a0.ak 0).bind fun y6=>
      (getI a0.ak (IntKind.i64.wrap ((a0.ak.length:Int)-1))).bind fun y7=>
      (Ki a0 y7).bind fun v8=>
      (YV y6 a0.ab v8).bind fun v9=>
      (Yv a0.ak v9 (fun y0_ y1_=>NB y0_ y1_)).bind fun v10=>
      some v10
  else
   some false
 else
  some false
def PC (xs:List Ac):Option (List Ac):=N7 40 xs
def GL (a0:Au) (a1:Int):Option (Ad):=
 (getI a0.bp a1).bind fun y1=>
 (getI a0.ak y1).bind fun y2=>
 some y2
def RO (a0:Au) (v1 v2:Int):Option ((Int × Int) ⊕ Option (Int)):=
 if(decide (v2<(a0.bp.length:Int)))then
  (GL a0 v2).bind fun v3=>
  (Ki a0 v3).bind fun v4=>
  if(v4==3)then
   some (.inr (some 2))
  else
   if(v4==0)then
    some (.inl (0,(IntKind.i64.wrap (v2+1))))
   else
    some (.inl (v1,(IntKind.i64.wrap (v2+1))))
 else
  some (.inr (some v1))
def Zc (a0:Au):Option (Int):=
 AA (fun s:Int × Int=>RO a0 s.1 s.2) (1,0)
def Vj (a0:Ad) (a1:Ab):Option (Ab):=
 req ((a0.ab).length+(([46]:Ab)).length≤9223372036854775807)<|
 req (((a0.ab++([46]:Ab))).length+(a1).length≤9223372036854775807)<|
 req ((((a0.ab++([46]:Ab))++a1)).length+(([47]:Ab)).length≤9223372036854775807)<|
 some (((a0.ab++([46]:Ab))++a1)++([47]:Ab))
def Yy (a0 a1:Ab):Option (Bool):=
 if(decide ((a0.length:Int)≥(a1.length:Int)))then
  req (0≤(0:Int)∧(0:Int)≤(a1.length:Int)∧(a1.length:Int)≤(a0.length:Int))<|
  some ((Bn a0 0 (a1.length:Int))==a1)
 else
  some false
def lA (a0 a1:Ab):Option (Ab × Bool):=
 (Yy a0 a1).bind fun v1=>
 if(!v1)then
  some (a0,false)
 else
  req (0≤(a1.length:Int)∧(a1.length:Int)≤(a0.length:Int)∧(a0.length:Int)≤(a0.length:Int))<|
  some ((Bn a0 (a1.length:Int) (a0.length:Int)),true)
def Vz (a0 a1:Ab):Option (Ab × Bool):=
 (lA a0 a1).bind fun v1=>
 some (v1.1,v1.2)
def YD (a0 a1:Ab):Option (Ab × Ab × Bool):=
 (Rz a0 a1).bind fun v1=>
 if(decide (v1≥0))then
  req (0≤(0:Int)∧(0:Int)≤v1∧v1≤(a0.length:Int))<|
  req (0≤(IntKind.i64.wrap (v1+(a1.length:Int)))∧(IntKind.i64.wrap (v1+(a1.length:Int)))≤(a0.length:Int)∧(a0.length:Int)≤(a0.length:Int))<|
  some ((Bn a0 0 v1),(Bn a0 (IntKind.i64.wrap (v1+(a1.length:Int))) (a0.length:Int)),true)
 else
  some (a0,([]:Ab),false)
def SC (a0 a1:Ab):Option (Ab × Ab × Bool):=
 (YD a0 a1).bind fun v1=>
 some (v1.1,v1.2.1,v1.2.2)
def Sw (a0:Ab):Option (Bool):=
 (G6 (a0.length:Int) 1 3).bind fun v1=>
 if v1 then
  (Sd a0 ([]:Ab)).bind fun v2=>
  some v2
 else
  some false
def YL (a0:Ad) (a1 a2:Ab):Option (Ab × Ab × Bool):=
 (Vj a0 a1).bind fun v1=>
 (Vz a2 v1).bind fun v2=>
 (SC v2.1 ([47]:Ab)).bind fun v3=>
 if v2.2 then
  if v3.2.2 then
   (Sw v3.1).bind fun v4=>
   if v4 then
    (Sw v3.2.1).bind fun v5=>
    if(!v5)then
     some (([]:Ab),([]:Ab),false)
    else
     some (v3.1,v3.2.1,true)
   else
    some (([]:Ab),([]:Ab),false)
  else
   some (([]:Ab),([]:Ab),false)
 else
  some (([]:Ab),([]:Ab),false)
def RB (a0:Ad) (a1:Ab) (a2:List Ac) (v1:Int) (v2:List (Ab)):Option ((Int × List (Ab)) ⊕ Option (List (Ab))):=
 if(decide (v1<(a2.length:Int)))then
  (getI a2 v1).bind fun y3=>
  (YL a0 a1 y3.af).bind fun v4=>
  if v4.2.2 then
   req ((((v2).length:Int)+(([y3.af]:List (Ab)).length:Int))*16≤140737488355328∧((v2).length:Int)+(([y3.af]:List (Ab)).length:Int)≤140737488355328)<|
   some (.inl ((IntKind.i64.wrap (v1+1)),(v2++ [y3.af])))
  else
   some (.inl ((IntKind.i64.wrap (v1+1)),v2))
 else
  some (.inr (some v2))
def KR (a0:Ad) (a1:Ab) (a2:List Ac):Option (List (Ab)):=
 AA (fun s:Int × List (Ab)=>RB a0 a1 a2 s.1 s.2) (0, [])
def Zm (a0 a1:Ab):Option (Int):=
 (Rz a0 a1).bind fun v1=>
 some v1
def lX (v3:Ab) (v4:Int) (v5:List (Ab)):Option (List (Ab)):=
 (getI v5 v4).bind fun y6=>
 req (0≤(0:Int)∧(0:Int)≤(IntKind.i64.wrap (v4+1))∧(IntKind.i64.wrap (v4+1))≤((v5.set (v4).toNat v3).length:Int))<|
 some (Bn (v5.set (v4).toNat v3) 0 (IntKind.i64.wrap (v4+1)))
def RR (a0 a1:Ab) (a2 v2:Int) (v7:Ab) (v8:Int) (v9:List (Ab)):Option ((Ab × Int × List (Ab)) ⊕ Option (List (Ab))):=
 if(decide (v8<(IntKind.i64.wrap ((bif (decide ((IntKind.i64.wrap ((a0.length:Int)+1))<v2))then(IntKind.i64.wrap ((a0.length:Int)+1))else v2)-1))))then
  (Zm v7 a1).bind fun v10=>
  if(decide (v10<0))then
   some (.inr (lX v7 v8 v9))
  else
   req (0≤(0:Int)∧(0:Int)≤(IntKind.i64.wrap (v10+a2))∧(IntKind.i64.wrap (v10+a2))≤(v7.length:Int))<|
   (getI v9 v8).bind fun y11=>
   req (0≤(IntKind.i64.wrap (v10+(a1.length:Int)))∧(IntKind.i64.wrap (v10+(a1.length:Int)))≤(v7.length:Int)∧(v7.length:Int)≤(v7.length:Int))<|
   some (.inl ((Bn v7 (IntKind.i64.wrap (v10+(a1.length:Int))) (v7.length:Int)),(IntKind.i64.wrap (v8+1)),(v9.set (v8).toNat (Bn v7 0 (IntKind.i64.wrap (v10+a2))))))
 else
  some (.inr (lX v7 v8 v9))
def lT (a0 a1:Ab) (a2 v2:Int):Option (List (Ab)):=
 req (0≤(bif (decide ((IntKind.i64.wrap ((a0.length:Int)+1))<v2))then(IntKind.i64.wrap ((a0.length:Int)+1))else v2)∧(bif (decide ((IntKind.i64.wrap ((a0.length:Int)+1))<v2))then(IntKind.i64.wrap ((a0.length:Int)+1))else v2)*16≤140737488355328∧(bif (decide ((IntKind.i64.wrap ((a0.length:Int)+1))<v2))then(IntKind.i64.wrap ((a0.length:Int)+1))else v2)≤140737488355328)<|
 AA (fun s:Ab × Int × List (Ab)=>RR a0 a1 a2 v2 s.1 s.2.1 s.2.2) (a0,0,(List.replicate ((bif (decide ((IntKind.i64.wrap ((a0.length:Int)+1))<v2))then(IntKind.i64.wrap ((a0.length:Int)+1))else v2)).toNat ([]:Ab)))
def mR (a0 a1:Ab) (a2 a3:Int):Option (List (Ab)):=
 if(a3==0)then
  some []
 else
  if(a1==([]:Ab))then
   (mP a0 a3).bind fun v1=>
   some v1
  else
   if(decide (a3<0))then
    (Zp a0 a1).bind fun v12=>
    lT a0 a1 a2 (IntKind.i64.wrap (v12+1))
   else
    lT a0 a1 a2 a3
def VV (a0 a1:Ab):Option (List (Ab)):=
 (mR a0 a1 0 (-1)).bind fun v1=>
 some v1
def Y2 (a0:Ab):Option (Bool):=
 (Sw a0).bind fun v1=>
 some (!v1)
def Ny (a0:Ad) (a1:AD):Option (Bool):=
 if((a1.ax.length:Int)==(a0.ar.length:Int))then
  (FL a1.ax (fun y0_=>Y2 y0_)).bind fun v1=>
  some (!v1)
 else
  some false
def L0 (a0:Ad) (a1:AD):Option (Ac):=
 req ((a0.ab).length+(([47]:Ab)).length≤9223372036854775807)<|
 (getI a1.ax 0).bind fun y1=>
 req (((a0.ab++([47]:Ab))).length+(y1).length≤9223372036854775807)<|
 req (0≤(1:Int)∧(1:Int)≤(a1.ax.length:Int)∧(a1.ax.length:Int)≤(a1.ax.length:Int))<|
 (Z7 (Bn a1.ax 1 (a1.ax.length:Int)) ([44]:Ab)).bind fun v2=>
 some (⟨((a0.ab++([47]:Ab))++y1),v2,false⟩:Ac)
def YZ (a0:Ad) (a1:Ac):Option (AD × Bool):=
 req ((a0.ab).length+(([47]:Ab)).length≤9223372036854775807)<|
 (Vz a1.af (a0.ab++([47]:Ab))).bind fun v1=>
 (VV a1.a7 ([44]:Ab)).bind fun v2=>
 req (((([v1.1]:List (Ab)).length:Int)+((v2).length:Int))*16≤140737488355328∧(([v1.1]:List (Ab)).length:Int)+((v2).length:Int)≤140737488355328)<|
 if v1.2 then
  (Ny a0 (⟨([v1.1]++v2)⟩:AD)).bind fun v3=>
  if v3 then
   (L0 a0 (⟨([v1.1]++v2)⟩:AD)).bind fun v4=>
   if(!(a1.af==v4.af&&(a1.a7==v4.a7&&(a1.bh==v4.bh))))then
    some ((⟨[]⟩:AD),false)
   else
    some ((⟨([v1.1]++v2)⟩:AD),true)
  else
   some ((⟨[]⟩:AD),false)
 else
  some ((⟨[]⟩:AD),false)
def Rp (a0:Ad) (a1:List Ac) (v1:Int) (v2:List AD):Option ((Int × List AD) ⊕ Option (List AD)):=
 if(decide (v1<(a1.length:Int)))then
  (getI a1 v1).bind fun y3=>
  (YZ a0 y3).bind fun v4=>
  if v4.2 then
   req ((((v2).length:Int)+(([v4.1]:List AD).length:Int))*24≤140737488355328∧((v2).length:Int)+(([v4.1]:List AD).length:Int)≤140737488355328)<|
   some (.inl ((IntKind.i64.wrap (v1+1)),(v2++ [v4.1])))
  else
   some (.inl ((IntKind.i64.wrap (v1+1)),v2))
 else
  some (.inr (some v2))
def PE (a0:Ad) (a1:List Ac):Option (List AD):=
 AA (fun s:Int × List AD=>Rp a0 a1 s.1 s.2) (0, [])
def Kj (a0:Ad) (a1:Ab) (a2:AD):Option (Ab):=
 (Vj a0 a1).bind fun v1=>
 (Nx a0 a1).bind fun v2=>
 (getI a2.ax v2.bj).bind fun y3=>
 req ((v1).length+(y3).length≤9223372036854775807)<|
 req (((v1++y3)).length+(([47]:Ab)).length≤9223372036854775807)<|
 (getI a2.ax 0).bind fun y4=>
 req ((((v1++y3)++([47]:Ab))).length+(y4).length≤9223372036854775807)<|
 some (((v1++y3)++([47]:Ab))++y4)
def Rr (a0:Ad) (a1:Ab) (v1:List AD) (v2:Int) (v3:List (Ab)):Option ((Int × List (Ab)) ⊕ Option (List (Ab))):=
 if(decide (v2<(v1.length:Int)))then
  (getI v1 v2).bind fun y4=>
  (Kj a0 a1 y4).bind fun v5=>
  req ((((v3).length:Int)+(([v5]:List (Ab)).length:Int))*16≤140737488355328∧((v3).length:Int)+(([v5]:List (Ab)).length:Int)≤140737488355328)<|
  some (.inl ((IntKind.i64.wrap (v2+1)),(v3++ [v5])))
 else
  some (.inr (some v3))
def Vt (a0:Ad) (a1:Ab) (a2:List Ac):Option (List (Ab)):=
 (PE a0 a2).bind fun v1=>
 AA (fun s:Int × List (Ab)=>Rr a0 a1 v1 s.1 s.2) (0, [])
def nG (a0:Ab) (a1:List (Ab)):Option (Bool):=
 (PB a1 a0).bind fun v1=>
 some v1
def V6 (a0:List (Ab)) (a1:List (Ab)):Option (List (Ab)):=
 (Vi a0).bind fun v1=>
 (Jp v1 (fun y0_=>nG y0_ a1)).bind fun v2=>
 some v2
def YO (a0:Ad) (a1:Ab) (a2:List Ac):Option (List (Ab)):=
 (KR a0 a1 a2).bind fun v1=>
 (Vt a0 a1 a2).bind fun v2=>
 (V6 v1 v2).bind fun v3=>
 some v3
def lJ (a0:Ad) (a1:Ab) (a2:List Ac):Option (List (Ab)):=
 (Vt a0 a1 a2).bind fun v1=>
 (KR a0 a1 a2).bind fun v2=>
 (V6 v1 v2).bind fun v3=>
 some v3
def YX (a0:Ad) (a1:Ab) (a2:Int) (a3:List Ac):Option (Bool):=
 if(a2==0)then
  (KR a0 a1 a3).bind fun v1=>
  some ((v1.length:Int)==0)
 else
  if(a2==1)then
   (YO a0 a1 a3).bind fun v2=>
   some ((v2.length:Int)==0)
  else
   (YO a0 a1 a3).bind fun v3=>
   if((v3.length:Int)==0)then
    (lJ a0 a1 a3).bind fun v4=>
    some ((v4.length:Int)==0)
   else
    some false
def RQ (a0:Au):Option (Bool):=
 (getI a0.ak 0).bind fun y1=>
 (Zc a0).bind fun v2=>
 (YX y1 a0.ab v2 a0.ao).bind fun v3=>
 some v3
def V2 (a0:Au):Option (Bool × Bool):=
 (PR a0).bind fun v1=>
 if(!v1)then
  some (false,false)
 else
  (RQ a0).bind fun v2=>
  some (v2,true)
def VQ (a0:AL):Option (Bool):=
 if(a0.al==([]:Ab))then
  some true
 else
  (VP a0.al).bind fun v1=>
  some v1
def L3 (a0:AI):Option (Bool):=
 (PR a0.ae).bind fun v1=>
 if v1 then
  (VQ a0.cx).bind fun v2=>
  if v2 then
   (VQ a0.bf).bind fun v3=>
   some v3
  else
   some false
 else
  some false
def YI (a0:Ad) (a1:Bf):Option (Bool):=
 if(a1.aj==1)then
  if((a1.bq.ax.length:Int)==0)then
   (Ny a0 a1.bw).bind fun v1=>
   some v1
  else
   some false
 else
  if(a1.aj==2)then
   (Ny a0 a1.bq).bind fun v2=>
   some (v2&&((a1.bw.ax.length:Int)==0))
  else
   if(a1.aj==3)then
    (Ny a0 a1.bq).bind fun v3=>
    if v3 then
     (Ny a0 a1.bw).bind fun v4=>
     if v4 then
      (getI a1.bq.ax 0).bind fun y5=>
      (getI a1.bw.ax 0).bind fun y6=>
      some (y5==y6)
     else
      some false
    else
     some false
   else
    some false
def V9 (a0:Bf):Option (Bool):=
 some (((a0.aj==0)&&((a0.bq.ax.length:Int)==0))&&((a0.bw.ax.length:Int)==0))
def YN (a0:Au) (a1:Dv):Option (Bool):=
 (G6 a1.a6 0 (IntKind.i64.wrap ((a0.bp.length:Int)-1))).bind fun v1=>
 if(!v1)then
  some false
 else
  if(a1.bd==0)then
   (GL a0 a1.a6).bind fun v2=>
   (YI v2 a1.ay).bind fun v3=>
   some v3
  else
   if(a1.bd==1)then
    (V9 a1.ay).bind fun v4=>
    some v4
   else
    if(a1.bd==(-1))then
     (V9 a1.ay).bind fun v5=>
     some v5
    else
     some false
def YB (a1:CR) (v2:Bool):Option (Bool):=
 if v2 then
  (G6 a1.b8 1 24).bind fun v3=>
  if v3 then
   if(a1.ay.a6==0)then
    if(a1.ay.bd==0)then
     (V9 a1.ay.ay).bind fun v4=>
     some v4
    else
     some false
   else
    some false
  else
   some false
 else
  some false
def YF (a0:AI) (a1:CR):Option (Bool):=
 if(a1.aj==1)then
  if(a1.b8==0)then
   (YN a0.ae a1.ay).bind fun v1=>
   some v1
  else
   some false
 else
  if(a1.aj==2)then
   YB a1 (a1.aj==2)
  else
   YB a1 (a1.aj==3)
def R7 (a0:AI) (a1:CR):Option (Bool):=
 (L3 a0).bind fun v1=>
 if v1 then
  (YF a0 a1).bind fun v2=>
  some v2
 else
  some false
def lF (xs:List Int):Option (List Int):=N7 8 xs
def R3 (a0:Au) (v1:List Int) (v2:List Ac) (v3:Int) (v4:List Ad):Option ((Int × List Ad) ⊕ Option (Au)):=
 if(decide (v3<(a0.ak.length:Int)))then
  (getI a0.ak v3).bind fun y5=>
  (Sq y5).bind fun v6=>
  req ((((v4).length:Int)+(([v6]:List Ad).length:Int))*64≤140737488355328∧((v4).length:Int)+(([v6]:List Ad).length:Int)≤140737488355328)<|
  some (.inl ((IntKind.i64.wrap (v3+1)),(v4++ [v6])))
 else
  some (.inr (some (⟨a0.ab,v4,v1,v2⟩:Au)))
def VG (a0:Au):Option (Au):=
 (lF a0.bp).bind fun v1=>
 (PC a0.ao).bind fun v2=>
 AA (fun s:Int × List Ad=>R3 a0 v1 v2 s.1 s.2) (0, [])
def V0 (a0:AI):Option (AI):=
 (VG a0.ae).bind fun v1=>
 some (⟨v1,a0.cx,a0.bf⟩:AI)
def KS (a0:Int) (a1:Ac) (a2:List Ay):Option (Unit × List Ay):=
 req ((((a2).length:Int)+(([(⟨a0,a1.af,a1.a7,0⟩:Ay)]:List Ay).length:Int))*48≤140737488355328∧((a2).length:Int)+(([(⟨a0,a1.af,a1.a7,0⟩:Ay)]:List Ay).length:Int)≤140737488355328)<|
 some ((),(a2++ [(⟨a0,a1.af,a1.a7,0⟩:Ay)]))
def nY (a0:Int):Option (Bool):=
 some (decide (a0≥1))
def NG (a0:Int):Option (Bool):=
 some (decide (a0≥2))
def Rw (v9:Int) (y11:At) (v13:Ab) (v14:List Ay):Option ((Int × List Ay) ⊕ Option (List Ay)):=
 if(v13 !=([]:Ab))then
  (NG y11.aq).bind fun v15=>
  if v15 then
   (KS 2 (⟨v13,([]:Ab),false⟩:Ac) v14).bind fun v16=>
   some (.inl ((IntKind.i64.wrap (v9+1)),v16.2))
  else
   some (.inl ((IntKind.i64.wrap (v9+1)),v14))
 else
  some (.inl ((IntKind.i64.wrap (v9+1)),v14))
def PG (v9:Int) (v10:List Ay) (y11:At) (v12 v13:Ab):Option ((Int × List Ay) ⊕ Option (List Ay)):=
 if(v12 !=([]:Ab))then
  if(v12 !=v13)then
   (nY y11.aq).bind fun v17=>
   if v17 then
    (KS 3 (⟨v12,([]:Ab),false⟩:Ac) v10).bind fun v18=>
    Rw v9 y11 v13 v18.2
   else
    Rw v9 y11 v13 v10
  else
   Rw v9 y11 v13 v10
 else
  Rw v9 y11 v13 v10
def lL (a0:Ad) (a1:Bf) (v9:Int) (v10:List Ay) (y11:At) (v12:Ab):Option ((Int × List Ay) ⊕ Option (List Ay)):=
 if(a1.aj !=2)then
  (Kj a0 y11.ab a1.bw).bind fun v19=>
  PG v9 v10 y11 v12 v19
 else
  PG v9 v10 y11 v12 ([]:Ab)
def Ru (a0:Ad) (a1:Bf) (v9:Int) (v10:List Ay):Option ((Int × List Ay) ⊕ Option (List Ay)):=
 if(decide (v9<(a0.ah.length:Int)))then
  (getI a0.ah v9).bind fun y11=>
  UZ (σ:=Ab) (
   if(a1.aj !=1)then
    (Kj a0 y11.ab a1.bq).bind fun v20=>
    some (.inl v20)
   else
    some (.inl ([]:Ab))
  ) (fun s=>lL a0 a1 v9 v10 y11 s)
 else
  some (.inr (some v10))
def Rv (a0:Ad) (a1:Bf) (v8:List Ay):Option (List Ay):=
 AA (fun s:Int × List Ay=>Ru a0 a1 s.1 s.2) (0,v8)
def Vo (a0:Ad) (a1:Bf) (v1:Ab) (v4:List Ay) (v5 v6:Ab) (v7:Bool):Option (List Ay):=
 if(a1.aj==1)then
  (KS 6 (⟨v5,([]:Ab),false⟩:Ac) v4).bind fun v21=>
  (KS 2 (⟨v5,v6,v7⟩:Ac) v21.2).bind fun v22=>
  Rv a0 a1 v22.2
 else
  if(a1.aj==2)then
   (KS 3 (⟨v1,([]:Ab),false⟩:Ac) v4).bind fun v23=>
   Rv a0 a1 v23.2
  else
   if(a1.aj==3)then
    (KS 2 (⟨v5,v6,v7⟩:Ac) v4).bind fun v24=>
    Rv a0 a1 v24.2
   else
    Rv a0 a1 v4
def PF (a0:Ad) (a1:Bf) (v1 v2:Ab) (v3:Bool) (v4:List Ay):Option (List Ay):=
 if(a1.aj !=2)then
  (L0 a0 a1.bw).bind fun v25=>
  Vo a0 a1 v1 v4 v25.af v25.a7 v25.bh
 else
  Vo a0 a1 v1 v4 ([]:Ab) ([]:Ab) false
def YS (a0:Ad) (a1:Bf):Option (List Ay):=
 UZ (σ:=Ab × Ab × Bool × List Ay) (
  if(a1.aj !=1)then
   (L0 a0 a1.bq).bind fun v26=>
   (KS 7 v26 ([]:List Ay)).bind fun v27=>
   some (.inl (v26.af,v26.a7,v26.bh,v27.2))
  else
   some (.inl (([]:Ab),([]:Ab),false, []))
 ) (fun s=>PF a0 a1 s.1 s.2.1 s.2.2.1 s.2.2.2)
def kU (a0:List Ac) (a1:Ab) (a2:Ac→(Ab)→Option Int) (v1:Int):Option (Int × Bool):=
 if(decide (v1<(a0.length:Int)))then
  (getI a0 v1).bind fun y2=>
  (a2 y2 a1).bind fun v3=>
  some (v1,(v3==0))
 else
  some (v1,false)
def Rm (a0:List Ac) (a1:Ab) (a2:Ac→(Ab)→Option Int) (v4 v5:Int):Option ((Int × Int) ⊕ Option (Int × Bool)):=
 if(decide (v4<v5))then
  (getI a0 (IntKind.i64.wrap (Int.fdiv (IntKind.u64.wrap (IntKind.i64.wrap (v4+v5))) (2^(min ((1:Int)).toNat (IntKind.bits .u64)))))).bind fun y6=>
  (a2 y6 a1).bind fun v7=>
  if(decide (v7<0))then
   some (.inl ((IntKind.i64.wrap ((IntKind.i64.wrap (Int.fdiv (IntKind.u64.wrap (IntKind.i64.wrap (v4+v5))) (2^(min ((1:Int)).toNat (IntKind.bits .u64)))))+1)),v5))
  else
   some (.inl (v4,(IntKind.i64.wrap (Int.fdiv (IntKind.u64.wrap (IntKind.i64.wrap (v4+v5))) (2^(min ((1:Int)).toNat (IntKind.bits .u64)))))))
 else
  some (.inr (kU a0 a1 a2 v4))
def kV (a0:List Ac) (a1:Ab) (a2:Ac→(Ab)→Option Int):Option (Int × Bool):=
 AA (fun s:Int × Int=>Rm a0 a1 a2 s.1 s.2) (0,(a0.length:Int))
def Vy (a0:Ab):Option (Bool):=
 some (a0 !=a0)
def YQ (a0 a1:Ab):Option (Int):=
 (Vy a0).bind fun v1=>
 (Vy a1).bind fun v2=>
 if v1 then
  if v2 then
   some 0
  else
   some (-1)
 else
  if v2 then
   some 1
  else
   if(Op.bytesLess a0 a1)then
    some (-1)
   else
    if(!(Op.bytesLess a0 a1||a0==a1))then
     some 1
    else
     some 0
def R9 (a0:Ac) (a1:Ab):Option (Int):=
 (YQ a0.af a1).bind fun v1=>
 some v1
def NC (a0:List Ac) (a1:Ab):Option (Int × Bool):=
 (kV a0 a1 (fun y0_ y1_=>R9 y0_ y1_)).bind fun v1=>
 some (v1.1,v1.2)
def PY (a0:List Ac) (a1:Ac):Option (List Ac):=
 (NC a0 a1.af).bind fun v1=>
 if v1.2 then
  (getI a0 v1.1).bind fun y2=>
  some (a0.set (v1.1).toNat a1)
 else
  (cK a0 v1.1 ([a1]:List Ac)).bind fun v3=>
  some v3
def Sk (a0:Ab) (a2:List BO) (v3:Int):Option ((Int) ⊕ Option (Ab × Bool × Bool)):=
 if(decide (v3<(a2.length:Int)))then
  (getI a2 v3).bind fun y4=>
  if(y4.af==a0)then
   some (.inr (some (y4.a7,y4.dn,true)))
  else
   some (.inl (IntKind.i64.wrap (v3+1)))
 else
  some (.inr (some (([]:Ab),false,false)))
def ZD (a0:Ab) (a1:List Ac) (a2:List BO):Option (Ab × Bool × Bool):=
 (NC a1 a0).bind fun v1=>
 if v1.2 then
  (getI a1 v1.1).bind fun y2=>
  some (y2.a7,(!y2.bh),true)
 else
  AA (fun s:Int=>Sk a0 a2 s) 0
def VY (a0:Ab):Option (Int × Bool):=
 (ZW a0 (-999999) 999999).bind fun v1=>
 some (v1.1,v1.2)
def Ze (a0:Ay) (a1:Ab) (a2:Bool):Option (Bool):=
 (VY a1).bind fun v1=>
 if(a0.aj==4)then
  if v1.2 then
   if a2 then
    (G6 (IntKind.i64.wrap (v1.1+a0.ji)) (-999999) 999999).bind fun v2=>
    some v2
   else
    some true
  else
   some ((!a2)||false)
 else
  if(a0.aj==5)then
   some ((a2&&v1.2)&&(decide (v1.1≥a0.ji)))
  else
   if(a0.aj==6)then
    some (!a2)
   else
    if(a0.aj==7)then
     some (a2&&(a1==a0.a7))
    else
     some true
def IM (a0:List Ay) (a1:List BO) (v1:Int) (v2:List Ac):Option ((Int × List Ac) ⊕ Option (Int × Ab × List Ac)):=
 if(decide (v1<(a0.length:Int)))then
  (getI a0 v1).bind fun y3=>
  if(y3.aj==2)then
   (PY v2 (⟨y3.af,y3.a7,false⟩:Ac)).bind fun v4=>
   some (.inl ((IntKind.i64.wrap (v1+1)),v4))
  else
   if(y3.aj==3)then
    (PY v2 (⟨y3.af,([]:Ab),true⟩:Ac)).bind fun v5=>
    some (.inl ((IntKind.i64.wrap (v1+1)),v5))
   else
    (ZD y3.af v2 a1).bind fun v6=>
    if(!v6.2.2)then
     some (.inr (some (1,y3.af, [])))
    else
     (Ze y3 v6.1 v6.2.1).bind fun v7=>
     if(!v7)then
      some (.inr (some (2,([]:Ab), [])))
     else
      if(y3.aj==4)then
       (VY v6.1).bind fun v8=>
       (nU (IntKind.i64.wrap (v8.1+y3.ji))).bind fun v9=>
       (PY v2 (⟨y3.af,v9,false⟩:Ac)).bind fun v10=>
       some (.inl ((IntKind.i64.wrap (v1+1)),v10))
      else
       some (.inl ((IntKind.i64.wrap (v1+1)),v2))
 else
  some (.inr (some (3,([]:Ab),v2)))
def nT (a0:List Ay) (a1:List BO):Option (Int × Ab × List Ac):=
 AA (fun s:Int × List Ac=>IM a0 a1 s.1 s.2) (0, [])
def aA (a0:List Ac) (a1:Ab):Option (BO):=
 (NC a0 a1).bind fun v1=>
 if(!v1.2)then
  some (⟨a1,([]:Ab),false⟩:BO)
 else
  (getI a0 v1.1).bind fun y2=>
  some (⟨a1,y2.a7,true⟩:BO)
def PJ (a0:List Ac) (a1:List Ay) (v1:List BO):Option ((List BO) ⊕ Option (List BO × List Ac × Bool)):=
 (nT a1 v1).bind fun v2=>
 if(v2.1 !=1)then
  some (.inr (some (v1,v2.2.2,(v2.1==3))))
 else
  (aA a0 v2.2.1).bind fun v3=>
  req ((((v1).length:Int)+(([v3]:List BO).length:Int))*40≤140737488355328∧((v1).length:Int)+(([v3]:List BO).length:Int)≤140737488355328)<|
  some (.inl (v1++ [v3]))
def nK (a0:List Ac) (a1:List Ay):Option (List BO × List Ac × Bool):=
 AA (fun s:List BO=>PJ a0 a1 s) []
def mY (a0:Ac):Option (Bool):=
 some a0.bh
def mI (v2:List Ac):Option (List Ac × Bool):=
 (Jp v2 (fun y0_=>mY y0_)).bind fun v3=>
 if(decide ((v3.length:Int)>24))then
  some ([],false)
 else
  some (v3,true)
def Sl (a1:List Ac) (v4:Int) (v5:List Ac):Option ((Int × List Ac) ⊕ Option (List Ac × Bool)):=
 if(decide (v4<(a1.length:Int)))then
  (getI a1 v4).bind fun y6=>
  (PY v5 y6).bind fun v7=>
  some (.inl ((IntKind.i64.wrap (v4+1)),v7))
 else
  some (.inr (mI v5))
def Z4 (a0 a1:List Ac):Option (List Ac × Bool):=
 (PC a0).bind fun v1=>
 AA (fun s:Int × List Ac=>Sl a1 s.1 s.2) (0,v1)
def Wa (a0:List Ac) (a1:List Ay):Option (List Ac × Bool):=
 (nK a0 a1).bind fun v1=>
 (Z4 a0 v1.2.1).bind fun v2=>
 if((!v1.2.2)||(!v2.2))then
  req (((([]:List Ac).length:Int)+((a0).length:Int))*40≤140737488355328∧(([]:List Ac).length:Int)+((a0).length:Int)≤140737488355328)<|
  some (a0,false)
 else
  some (v2.1,true)
def RE (a0:Au) (a1:Dv):Option (Au × Bool):=
 (VG a0).bind fun v1=>
 if(a1.bd !=0)then
  (getI a0.bp a1.a6).bind fun y2=>
  (G6 (IntKind.i64.wrap (y2+a1.bd)) 0 (IntKind.i64.wrap ((a0.ak.length:Int)-1))).bind fun v3=>
  if(!v3)then
   some (v1,false)
  else
   (getI v1.bp a1.a6).bind fun y4=>
   some ((⟨v1.ab,v1.ak,(v1.bp.set (a1.a6).toNat (IntKind.i64.wrap (y2+a1.bd))),v1.ao⟩:Au),true)
 else
  (GL a0 a1.a6).bind fun v5=>
  (YS v5 a1.ay).bind fun v6=>
  (Wa a0.ao v6).bind fun v7=>
  some ((⟨v1.ab,v1.ak,v1.bp,v7.1⟩:Au),v7.2)
def Pz (a0:List Int) (v2 v3:Int):Option ((Int × Int) ⊕ Option (Int)):=
 if(decide (v3<(a0.length:Int)))then
  (getI a0 v3).bind fun y4=>
  some (.inl ((bif (decide (y4>v2))then y4 else v2),(IntKind.i64.wrap (v3+1))))
 else
  some (.inr (some v2))
def YG (a0:List Int):Option (Int):=
 if(decide ((a0.length:Int)<1))then
  none
 else
  (getI a0 0).bind fun y1=>
  AA (fun s:Int × Int=>Pz a0 s.1 s.2) (y1,1)
def Py (a0:List Int) (v2 v3:Int):Option ((Int × Int) ⊕ Option (Int)):=
 if(decide (v3<(a0.length:Int)))then
  (getI a0 v3).bind fun y4=>
  some (.inl ((bif (decide (y4<v2))then y4 else v2),(IntKind.i64.wrap (v3+1))))
 else
  some (.inr (some v2))
def YK (a0:List Int):Option (Int):=
 if(decide ((a0.length:Int)<1))then
  none
 else
  (getI a0 0).bind fun y1=>
  AA (fun s:Int × Int=>Py a0 s.1 s.2) (y1,1)
def Ry (a0:Au):Option (Bool):=
 (YG a0.bp).bind fun v1=>
 (YK a0.bp).bind fun v2=>
 some (decide ((IntKind.i64.wrap (v1-v2))≤1))
def Zi (a0:Au) (a1:Dv):Option (Bool):=
 (RE a0 a1).bind fun v1=>
 if v1.2 then
  (Ry v1.1).bind fun v2=>
  if v2 then
   (RQ v1.1).bind fun v3=>
   some v3
  else
   some false
 else
  some false
def L2 (a0:AI) (a1:Dv):Option (AI × Bool):=
 (V0 a0).bind fun v1=>
 if(a1.bd !=0)then
  (Zi a0.ae a1).bind fun v2=>
  if(!v2)then
   some (v1,false)
  else
   (RE a0.ae a1).bind fun v3=>
   if(!v3.2)then
    some (v1,false)
   else
    if(a1.bd==0)then
     (GL a0.ae a1.a6).bind fun v4=>
     (Ki a0.ae v4).bind fun v5=>
     (NG v5).bind fun v6=>
     if v6 then
      some ((⟨v3.1,(⟨v1.cx.al,v1.cx.bg⟩:AL),(⟨([]:Ab),false⟩:AL)⟩:AI),true)
     else
      some ((⟨v3.1,(⟨([]:Ab),false⟩:AL),(⟨v1.bf.al,v1.bf.bg⟩:AL)⟩:AI),true)
    else
     some ((⟨v3.1,(⟨v1.cx.al,v1.cx.bg⟩:AL),(⟨v1.bf.al,v1.bf.bg⟩:AL)⟩:AI),true)
 else
  (RE a0.ae a1).bind fun v7=>
  if(!v7.2)then
   some (v1,false)
  else
   if(a1.bd==0)then
    (GL a0.ae a1.a6).bind fun v8=>
    (Ki a0.ae v8).bind fun v9=>
    (NG v9).bind fun v10=>
    if v10 then
     some ((⟨v7.1,(⟨v1.cx.al,v1.cx.bg⟩:AL),(⟨([]:Ab),false⟩:AL)⟩:AI),true)
    else
     some ((⟨v7.1,(⟨([]:Ab),false⟩:AL),(⟨v1.bf.al,v1.bf.bg⟩:AL)⟩:AI),true)
   else
    some ((⟨v7.1,(⟨v1.cx.al,v1.cx.bg⟩:AL),(⟨v1.bf.al,v1.bf.bg⟩:AL)⟩:AI),true)
def Nw (a0:AI) (v1 v2:Int):Option ((Int × Int) ⊕ Option (Int)):=
 if(decide (v2<(a0.ae.bp.length:Int)))then
  (GL a0.ae v2).bind fun v3=>
  (Ki a0.ae v3).bind fun v4=>
  (NG v4).bind fun v5=>
  if v5 then
   some (.inl ((IntKind.i64.wrap (v1+1)),(IntKind.i64.wrap (v2+1))))
  else
   some (.inl (v1,(IntKind.i64.wrap (v2+1))))
 else
  some (.inr (some v1))
def RA (a0:AI):Option (Int):=
 AA (fun s:Int × Int=>Nw a0 s.1 s.2) (0,0)
def YY (a0:Ad) (a1:Ab) (a2:AD):Option (List Ay):=
 (L0 a0 a2).bind fun v1=>
 (Kj a0 a1 a2).bind fun v2=>
 some [(⟨7,v1.af,v1.a7,0⟩:Ay),(⟨2,v2,([]:Ab),0⟩:Ay)]
def Rn (a0:Ad) (a1:Ab) (v1:List AD) (v2:Int) (v3:List B2):Option ((Int × List B2) ⊕ Option (List B2)):=
 if(decide (v2<(v1.length:Int)))then
  (getI v1 v2).bind fun y4=>
  (L0 a0 y4).bind fun v5=>
  (YY a0 a1 y4).bind fun v6=>
  req ((((v3).length:Int)+(([(⟨v5.af,v6⟩:B2)]:List B2).length:Int))*40≤140737488355328∧((v3).length:Int)+(([(⟨v5.af,v6⟩:B2)]:List B2).length:Int)≤140737488355328)<|
  some (.inl ((IntKind.i64.wrap (v2+1)),(v3++ [(⟨v5.af,v6⟩:B2)])))
 else
  some (.inr (some v3))
def Vp (a0:Ad) (a1:Ab) (a2:List Ac):Option (List B2):=
 (PE a0 a2).bind fun v1=>
 AA (fun s:Int × List B2=>Rn a0 a1 v1 s.1 s.2) (0, [])
def kW (xs:List B2):Option (List B2):=N7 40 xs
def Z0 (a0:B2) (a1:AL):Option (Bool):=
 some (Op.bytesLess a0.bb a1.al||a0.bb==a1.al)
def ZI (a2:AL) (v2:List B2) (v3:List Ac) (v4:Int) (v5:Ab):Option (List Ac × AL):=
 (PC v3).bind fun v6=>
 some (v6,(⟨v5,(a2.bg||(v4==(v2.length:Int)))⟩:AL))
def KU (a2:AL) (a3:Int) (v2:List B2) (v7:List Ac) (v8:Int) (v9:Ab):Option ((List Ac × Int × Ab) ⊕ Option (List Ac × AL)):=
 if(decide (v8<(bif (decide ((v2.length:Int)<a3))then(v2.length:Int)else a3)))then
  (getI v2 v8).bind fun y10=>
  (Wa v7 y10.cj).bind fun v11=>
  if(!v11.2)then
   some (.inr (ZI a2 v2 v7 v8 v9))
  else
   some (.inl (v11.1,(IntKind.i64.wrap (v8+1)),y10.bb))
 else
  some (.inr (ZI a2 v2 v7 v8 v9))
def NK (a0:List B2) (a1:List Ac) (a2:AL) (a3:Int):Option (List Ac × AL):=
 (kW a0).bind fun v1=>
 (Jp v1 (fun y0_=>Z0 y0_ a2)).bind fun v2=>
 AA (fun s:List Ac × Int × Ab=>KU a2 a3 v2 s.1 s.2.1 s.2.2) (a1,0,a2.al)
def Rx (v1:List (Ab)) (v2:Int) (v3:List B2):Option ((Int × List B2) ⊕ Option (List B2)):=
 if(decide (v2<(v1.length:Int)))then
  (getI v1 v2).bind fun y4=>
  req ((((v3).length:Int)+(([(⟨y4, [(⟨3,y4,([]:Ab),0⟩:Ay)]⟩:B2)]:List B2).length:Int))*40≤140737488355328∧((v3).length:Int)+(([(⟨y4, [(⟨3,y4,([]:Ab),0⟩:Ay)]⟩:B2)]:List B2).length:Int)≤140737488355328)<|
  some (.inl ((IntKind.i64.wrap (v2+1)),(v3++ [(⟨y4, [(⟨3,y4,([]:Ab),0⟩:Ay)]⟩:B2)])))
 else
  some (.inr (some v3))
def RH (a0:Ad) (a1:Ab) (a2:List Ac):Option (List B2):=
 (KR a0 a1 a2).bind fun v1=>
 AA (fun s:Int × List B2=>Rx v1 s.1 s.2) (0, [])
def NF (a0:AI) (a1:CR):Option (AI × Bool):=
 if(a1.aj==1)then
  (L2 a0 a1.ay).bind fun v1=>
  some (v1.1,v1.2)
 else
  (V0 a0).bind fun v2=>
  if(a1.aj==2)then
   (RA a0).bind fun v3=>
   if(v3==(a0.ae.bp.length:Int))then
    (getI a0.ae.ak 0).bind fun y4=>
    (Vp y4 a0.ae.ab a0.ae.ao).bind fun v5=>
    (NK v5 a0.ae.ao a0.cx a1.b8).bind fun v6=>
    some ((⟨(⟨v2.ae.ab,v2.ae.ak,v2.ae.bp,v6.1⟩:Au),(⟨v6.2.al,v6.2.bg⟩:AL),(⟨([]:Ab),false⟩:AL)⟩:AI),true)
   else
    if(a1.aj==3)then
     (RA a0).bind fun v7=>
     if(v7==0)then
      (getI a0.ae.ak 0).bind fun y8=>
      (RH y8 a0.ae.ab a0.ae.ao).bind fun v9=>
      (NK v9 a0.ae.ao a0.bf a1.b8).bind fun v10=>
      some ((⟨(⟨v2.ae.ab,v2.ae.ak,v2.ae.bp,v10.1⟩:Au),(⟨([]:Ab),false⟩:AL),(⟨v10.2.al,v10.2.bg⟩:AL)⟩:AI),true)
     else
      some (v2,false)
    else
     some (v2,false)
  else
   if(a1.aj==3)then
    (RA a0).bind fun v11=>
    if(v11==0)then
     (getI a0.ae.ak 0).bind fun y12=>
     (RH y12 a0.ae.ab a0.ae.ao).bind fun v13=>
     (NK v13 a0.ae.ao a0.bf a1.b8).bind fun v14=>
     some ((⟨(⟨v2.ae.ab,v2.ae.ak,v2.ae.bp,v14.1⟩:Au),(⟨([]:Ab),false⟩:AL),(⟨v14.2.al,v14.2.bg⟩:AL)⟩:AI),true)
    else
     some (v2,false)
   else
    some (v2,false)
def VS (a0:AI) (a1:CR):Option (AI × Bool × Bool):=
 (R7 a0 a1).bind fun v1=>
 if(!v1)then
  some ((⟨(⟨([]:Ab), [], [], []⟩:Au),(⟨([]:Ab),false⟩:AL),(⟨([]:Ab),false⟩:AL)⟩:AI),false,false)
 else
  (NF a0 a1).bind fun v2=>
  some (v2.1,v2.2,true)
def RM (a0:Ad) (v1:List AD) (v2:List (Ab)) (v3:Int):Option ((List (Ab) × Int) ⊕ Option (List (Ab))):=
 if(decide (v3<(v1.length:Int)))then
  (getI v1 v3).bind fun y4=>
  (IN a0 y4).bind fun v5=>
  req ((((v2).length:Int)+(([v5.af]:List (Ab)).length:Int))*16≤140737488355328∧((v2).length:Int)+(([v5.af]:List (Ab)).length:Int)≤140737488355328)<|
  some (.inl ((v2++ [v5.af]),(IntKind.i64.wrap (v3+1))))
 else
  some (.inr (some v2))
def Vv (a0:Ad) (a1:List Ac):Option (List (Ab)):=
 (Jn a0 a1).bind fun v1=>
 AA (fun s:List (Ab) × Int=>RM a0 v1 s.1 s.2) ([],0)
def YJ (a1:Ad) (a2:List (Ab)) (v1:Bool) (v2:List Int) (v3 v4:Int):Option (AL × Ap):=
 if v1 then
  (Ii (⟨v2,v3,v4⟩:Ap) a2).bind fun v5=>
  (F4 v5.2 3).bind fun v6=>
  some ((⟨v5.1,v6.1⟩:AL),v6.2)
 else
  req ((a1.ab).length+(([47,50]:Ab)).length≤9223372036854775807)<|
  (Ii (⟨v2,v3,v4⟩:Ap) ([([]:Ab),([]:Ab),([97]:Ab),([122,122]:Ab),(a1.ab++([47,50]:Ab))]:List (Ab))).bind fun v7=>
  (F4 v7.2 4).bind fun v8=>
  some ((⟨v7.1,v8.1⟩:AL),v8.2)
def Vq (a0:Ap) (a1:Ad) (a2:List (Ab)):Option (AL × Ap):=
 if(decide ((a2.length:Int)>0))then
  (F4 a0 2).bind fun v9=>
  YJ a1 a2 v9.1 v9.2.aw v9.2.bz v9.2.az
 else
  YJ a1 a2 false a0.aw a0.bz a0.az
def Y3 (a0:Ad) (a1 a2:Ab):Option (Ab × Ab × Bool):=
 (PW a2 47).bind fun v1=>
 if((v1.length:Int) !=3)then
  some (([]:Ab),([]:Ab),false)
 else
  (getI v1 0).bind fun y2=>
  req ((a0.ab).length+(([46]:Ab)).length≤9223372036854775807)<|
  req (((a0.ab++([46]:Ab))).length+(a1).length≤9223372036854775807)<|
  if(y2 !=((a0.ab++([46]:Ab))++a1))then
   some (([]:Ab),([]:Ab),false)
  else
   (getI v1 1).bind fun y3=>
   (Sz y3).bind fun v4=>
   if v4 then
    (getI v1 2).bind fun y5=>
    (Sz y5).bind fun v6=>
    if(!v6)then
     some (([]:Ab),([]:Ab),false)
    else
     some (y3,y5,true)
   else
    some (([]:Ab),([]:Ab),false)
def RN (a0:Ad) (a1:Ab) (a2:List Ac) (v1:List (Ab)) (v2:Int):Option ((List (Ab) × Int) ⊕ Option (List (Ab))):=
 if(decide (v2<(a2.length:Int)))then
  (getI a2 v2).bind fun y3=>
  (Y3 a0 a1 y3.af).bind fun v4=>
  if v4.2.2 then
   req ((((v1).length:Int)+(([y3.af]:List (Ab)).length:Int))*16≤140737488355328∧((v1).length:Int)+(([y3.af]:List (Ab)).length:Int)≤140737488355328)<|
   some (.inl ((v1++ [y3.af]),(IntKind.i64.wrap (v2+1))))
  else
   some (.inl (v1,(IntKind.i64.wrap (v2+1))))
 else
  some (.inr (some v1))
def Jo (a0:Ad) (a1:Ab) (a2:List Ac):Option (List (Ab)):=
 AA (fun s:List (Ab) × Int=>RN a0 a1 a2 s.1 s.2) ([],0)
def YU (a0:Ap):Option (AI × Ap):=
 (NA a0).bind fun v1=>
 (F4 v1.2 3).bind fun v2=>
 if v2.1 then
  (getI v1.1.ak 0).bind fun y3=>
  (Vv y3 v1.1.ao).bind fun v4=>
  (Vq v2.2 y3 v4).bind fun v5=>
  (Jo y3 v1.1.ab v1.1.ao).bind fun v6=>
  (Vq v5.2 y3 v6).bind fun v7=>
  some ((⟨v1.1,(⟨v5.1.al,v5.1.bg⟩:AL),(⟨v7.1.al,v7.1.bg⟩:AL)⟩:AI),(⟨v7.2.aw,v7.2.bz,v7.2.az⟩:Ap))
 else
  some ((⟨v1.1,(⟨([]:Ab),false⟩:AL),(⟨([]:Ab),false⟩:AL)⟩:AI),(⟨v2.2.aw,v2.2.bz,v2.2.az⟩:Ap))
def YE (a0:Ap):Option (AI × Ap):=
 (YU a0).bind fun v1=>
 (Dx v1.2 10).bind fun v2=>
 if(v2.1==0)then
  (YC v2.2).bind fun v3=>
  some ((⟨(⟨v3.1.ab,v3.1.ak,v3.1.bp,v3.1.ao⟩:Au),(⟨v1.1.cx.al,v1.1.cx.bg⟩:AL),(⟨v1.1.bf.al,v1.1.bf.bg⟩:AL)⟩:AI),(⟨v3.2.aw,v3.2.bz,v3.2.az⟩:Ap))
 else
  if(v2.1==1)then
   (Ii v2.2 ([([65]:Ab),([97,98,99,100,101,102,103,104,105,106,107,108,109]:Ab),([33]:Ab)]:List (Ab))).bind fun v4=>
   some ((⟨(⟨v1.1.ae.ab,v1.1.ae.ak,v1.1.ae.bp,v1.1.ae.ao⟩:Au),(⟨v4.1,v1.1.cx.bg⟩:AL),(⟨v1.1.bf.al,v1.1.bf.bg⟩:AL)⟩:AI),(⟨v4.2.aw,v4.2.bz,v4.2.az⟩:Ap))
  else
   if(v2.1==2)then
    (Ii v2.2 ([([65]:Ab),([97,98,99,100,101,102,103,104,105,106,107,108,109]:Ab),([33]:Ab)]:List (Ab))).bind fun v5=>
    some ((⟨(⟨v1.1.ae.ab,v1.1.ae.ak,v1.1.ae.bp,v1.1.ae.ao⟩:Au),(⟨v1.1.cx.al,v1.1.cx.bg⟩:AL),(⟨v5.1,v1.1.bf.bg⟩:AL)⟩:AI),(⟨v5.2.aw,v5.2.bz,v5.2.az⟩:Ap))
   else
    some ((⟨(⟨v1.1.ae.ab,v1.1.ae.ak,v1.1.ae.bp,v1.1.ae.ao⟩:Au),(⟨v1.1.cx.al,v1.1.cx.bg⟩:AL),(⟨v1.1.bf.al,v1.1.bf.bg⟩:AL)⟩:AI),(⟨v2.2.aw,v2.2.bz,v2.2.az⟩:Ap))
def VT (a0:AL):Option (Bool):=
 if(a0.al==([]:Ab))then
  some true
 else
  (SH a0.al).bind fun v1=>
  some v1
def KT (a0:AI):Option (Bool):=
 (Sg a0.ae).bind fun v1=>
 if v1 then
  (VT a0.cx).bind fun v2=>
  if v2 then
   (VT a0.bf).bind fun v3=>
   some v3
  else
   some false
 else
  some false
def RS (a0:Ap) (a1:List Int):Option (Int × Ap):=
 (Dx a0 (a1.length:Int)).bind fun v1=>
 (getI a1 v1.1).bind fun y2=>
 some (y2,v1.2)
def Y1 (a1:Ad) (v3:List Int) (v4 v5:Int) (v6:List (Ab)):Option (Bf × Ap):=
 (Dx (⟨v3,v4,v5⟩:Ap) 3).bind fun v7=>
 if(v7.1==0)then
  (Nz v7.2 a1).bind fun v8=>
  some ((⟨1,(⟨[]⟩:AD),v8.1⟩:Bf),v8.2)
 else
  if(v7.1==1)then
   some ((⟨2,(⟨v6⟩:AD),(⟨[]⟩:AD)⟩:Bf),v7.2)
  else
   (Nz v7.2 a1).bind fun v9=>
   (getI v6 0).bind fun y10=>
   (getI v9.1.ax 0).bind fun y11=>
   some ((⟨3,(⟨v6⟩:AD),(⟨(v9.1.ax.set ((0:Int)).toNat y10)⟩:AD)⟩:Bf),v9.2)
def Y0 (a1:Ad) (v1:List AD) (v2:AD × Ap) (v12:Bool) (v13:List Int) (v14 v15:Int):Option (Bf × Ap):=
 if v12 then
  (Dx (⟨v13,v14,v15⟩:Ap) (v1.length:Int)).bind fun v16=>
  (getI v1 v16.1).bind fun y17=>
  Y1 a1 v16.2.aw v16.2.bz v16.2.az y17.ax
 else
  Y1 a1 v13 v14 v15 v2.1.ax
def Za (a0:Ap) (a1:Ad) (a2:List Ac):Option (Bf × Ap):=
 (Jn a1 a2).bind fun v1=>
 (Nz a0 a1).bind fun v2=>
 if(decide ((v1.length:Int)>0))then
  (F4 v2.2 4).bind fun v18=>
  Y0 a1 v1 v2 (!v18.1) v18.2.aw v18.2.bz v18.2.az
 else
  Y0 a1 v1 v2 false v2.2.aw v2.2.bz v2.2.az
def YM (a0:Ap) (a1:Au):Option (Dv × Ap):=
 (Dx a0 (a1.bp.length:Int)).bind fun v1=>
 (F4 v1.2 3).bind fun v2=>
 if v2.1 then
  (RS v2.2 ([1,1,1,(-1)]:List Int)).bind fun v3=>
  some ((⟨v1.1,v3.1,(⟨0,(⟨[]⟩:AD),(⟨[]⟩:AD)⟩:Bf)⟩:Dv),v3.2)
 else
  (getI a1.ak 0).bind fun y4=>
  (Za v2.2 y4 a1.ao).bind fun v5=>
  some ((⟨v1.1,0,v5.1⟩:Dv),v5.2)
def YH (a0:Ap) (a1:AI):Option (CR × Ap):=
 (Dx a0 4).bind fun v1=>
 if(v1.1==0)then
  (Dx v1.2 3).bind fun v2=>
  some ((⟨2,(IntKind.i64.wrap ((1:Int)+v2.1)),(⟨0,0,(⟨0,(⟨[]⟩:AD),(⟨[]⟩:AD)⟩:Bf)⟩:Dv)⟩:CR),v2.2)
 else
  if(v1.1==1)then
   (RS v1.2 ([2,3]:List Int)).bind fun v3=>
   (Dx v3.2 3).bind fun v4=>
   some ((⟨v3.1,(IntKind.i64.wrap ((1:Int)+v4.1)),(⟨0,0,(⟨0,(⟨[]⟩:AD),(⟨[]⟩:AD)⟩:Bf)⟩:Dv)⟩:CR),v4.2)
  else
   (YM v1.2 a1.ae).bind fun v5=>
   some ((⟨1,0,v5.1⟩:CR),v5.2)
def Y8 (a0:List Int):Option (AI × CR):=
 (YE (⟨a0,0,0⟩:Ap)).bind fun v1=>
 (KT v1.1).bind fun v2=>
 if(!v2)then
  some (v1.1,(⟨2,1,(⟨0,0,(⟨0,(⟨[]⟩:AD),(⟨[]⟩:AD)⟩:Bf)⟩:Dv)⟩:CR))
 else
  (YH v1.2 v1.1).bind fun v3=>
  (Dx v3.2 14).bind fun v4=>
  if(v4.1==0)then
   (Dx v4.2 5).bind fun v5=>
   some (v1.1,(⟨v5.1,v3.1.b8,(⟨v3.1.ay.a6,v3.1.ay.bd,v3.1.ay.ay⟩:Dv)⟩:CR))
  else
   if(v4.1==1)then
    (RS v4.2 ([(-1),0,24,25]:List Int)).bind fun v6=>
    some (v1.1,(⟨v3.1.aj,v6.1,(⟨v3.1.ay.a6,v3.1.ay.bd,v3.1.ay.ay⟩:Dv)⟩:CR))
   else
    if(v4.1==2)then
     (Dx v4.2 4).bind fun v7=>
     some (v1.1,(⟨v3.1.aj,v3.1.b8,(⟨v7.1,v3.1.ay.bd,v3.1.ay.ay⟩:Dv)⟩:CR))
    else
     some (v1.1,(⟨v3.1.aj,v3.1.b8,(⟨v3.1.ay.a6,v3.1.ay.bd,v3.1.ay.ay⟩:Dv)⟩:CR))
def ZN (a0:Bf):Option (Bool):=
 some (((a0.aj==0)&&((a0.bq.ax.length:Int)==0))&&((a0.bw.ax.length:Int)==0))
def V5 (a0:Ad) (a1:Bf):Option (Bool):=
 if(a1.aj==1)then
  if((a1.bq.ax.length:Int)==0)then
   (NH a0 a1.bw).bind fun v1=>
   some v1
  else
   some false
 else
  if(a1.aj==2)then
   if((a1.bw.ax.length:Int)==0)then
    (NH a0 a1.bq).bind fun v2=>
    some v2
   else
    some false
  else
   if(a1.aj==3)then
    (NH a0 a1.bq).bind fun v3=>
    if v3 then
     (NH a0 a1.bw).bind fun v4=>
     if v4 then
      (getI a1.bq.ax 0).bind fun y5=>
      (getI a1.bw.ax 0).bind fun y6=>
      some (y5==y6)
     else
      some false
    else
     some false
   else
    some false
def Z1 (a0:Au) (a1:Dv):Option (Bool):=
 (F6 a1.a6 0 (IntKind.i64.wrap ((a0.bp.length:Int)-1))).bind fun v1=>
 if(!v1)then
  some false
 else
  if((a1.bd==1)||(a1.bd==(-1)))then
   (ZN a1.ay).bind fun v2=>
   some v2
  else
   if(a1.bd==0)then
    (getI a0.bp a1.a6).bind fun y3=>
    (getI a0.ak y3).bind fun y4=>
    (V5 y4 a1.ay).bind fun v5=>
    some v5
   else
    some false
def nR (a0:Int):Option (Bool):=
 (F6 a0 1 24).bind fun v1=>
 some v1
def Zf (a1:CR) (v2:Bool):Option (Bool):=
 if v2 then
  (nR a1.b8).bind fun v3=>
  if v3 then
   if(a1.ay.a6==0)then
    if(a1.ay.bd==0)then
     (ZN a1.ay.ay).bind fun v4=>
     some v4
    else
     some false
   else
    some false
  else
   some false
 else
  some false
def ZG (a0:AI) (a1:CR):Option (Bool):=
 if(a1.aj==1)then
  if(a1.b8==0)then
   (Z1 a0.ae a1.ay).bind fun v1=>
   some v1
  else
   some false
 else
  if(a1.aj==2)then
   Zf a1 (a1.aj==2)
  else
   Zf a1 (a1.aj==3)
def Vx (a0:AI) (a1:CR):Option (Bool):=
 (KT a0).bind fun v1=>
 if v1 then
  (ZG a0 a1).bind fun v2=>
  some v2
 else
  some false
def aG (a0:AI):Option (AI):=
 (SF a0.ae).bind fun v1=>
 some (⟨v1,a0.cx,a0.bf⟩:AI)
def R0 (v1:List Int) (v2 v3:Bool) (v4:Int):Option ((Bool × Bool × Int) ⊕ Option (Bool × Bool)):=
 if(decide (v4<(v1.length:Int)))then
  (getI v1 v4).bind fun y5=>
  some (.inl ((v2&&(decide (y5≥2))),(v3||(decide (y5≥2))),(IntKind.i64.wrap (v4+1))))
 else
  some (.inr (some (v2,v3)))
def ZY (a0:Au):Option (Bool × Bool):=
 (L6 a0).bind fun v1=>
 AA (fun s:Bool × Bool × Int=>R0 v1 s.1 s.2.1 s.2.2) (true,false,0)
def Su (a0:Ad) (a1:Bf):Option (Bool):=
 (L5 a0).bind fun v1=>
 if v1 then
  (V5 a0 a1).bind fun v2=>
  some v2
 else
  some false
def ZT (a0:Ad) (a1:Bf):Option (List Ay):=
 if(a1.aj==1)then
  (IN a0 a1.bw).bind fun v1=>
  some [(⟨6,v1.af,([]:Ab),0⟩:Ay),(⟨2,v1.af,v1.a7,0⟩:Ay)]
 else
  (IN a0 a1.bq).bind fun v2=>
  if(a1.aj==2)then
   some [(⟨7,v2.af,v2.a7,0⟩:Ay),(⟨3,v2.af,([]:Ab),0⟩:Ay)]
  else
   (IN a0 a1.bw).bind fun v3=>
   some [(⟨7,v2.af,v2.a7,0⟩:Ay),(⟨2,v2.af,v3.a7,0⟩:Ay)]
def ZA (a1:At) (v2:Ab) (v3:List Ay):Option (List Ay):=
 if((v2 !=([]:Ab))&&(decide (a1.aq≥2)))then
  req ((((v3).length:Int)+(([(⟨2,v2,([]:Ab),0⟩:Ay)]:List Ay).length:Int))*48≤140737488355328∧((v3).length:Int)+(([(⟨2,v2,([]:Ab),0⟩:Ay)]:List Ay).length:Int)≤140737488355328)<|
  some (v3++ [(⟨2,v2,([]:Ab),0⟩:Ay)])
 else
  some v3
def VF (a1:At) (v1 v2:Ab):Option (List Ay):=
 if(((v1 !=([]:Ab))&&(v1 !=v2))&&(decide (a1.aq≥1)))then
  req (((([]:List Ay).length:Int)+(([(⟨3,v1,([]:Ab),0⟩:Ay)]:List Ay).length:Int))*48≤140737488355328∧(([]:List Ay).length:Int)+(([(⟨3,v1,([]:Ab),0⟩:Ay)]:List Ay).length:Int)≤140737488355328)<|
  ZA a1 v2 [(⟨3,v1,([]:Ab),0⟩:Ay)]
 else
  ZA a1 v2 []
def Zy (a0:Ad) (a1:At) (a2:Bf) (v1:Ab):Option (List Ay):=
 if(a2.aj !=2)then
  (IP a0 a1 a2.bw).bind fun v4=>
  VF a1 v1 v4
 else
  VF a1 v1 ([]:Ab)
def V3 (a0:Ad) (a1:At) (a2:Bf):Option (List Ay):=
 UZ (σ:=Ab) (
  if(a2.aj !=1)then
   (IP a0 a1 a2.bq).bind fun v5=>
   some (.inl v5)
  else
   some (.inl ([]:Ab))
 ) (fun s=>Zy a0 a1 a2 s)
def Sn (a0:Ad) (a1:Bf) (v2:Int) (v3:List Ay):Option ((Int × List Ay) ⊕ Option (List Ay)):=
 if(decide (v2<(a0.ah.length:Int)))then
  (getI a0.ah v2).bind fun y4=>
  (V3 a0 y4 a1).bind fun v5=>
  req ((((v3).length:Int)+((v5).length:Int))*48≤140737488355328∧((v3).length:Int)+((v5).length:Int)≤140737488355328)<|
  some (.inl ((IntKind.i64.wrap (v2+1)),(v3++v5)))
 else
  some (.inr (some v3))
def aI (a0:Ad) (a1:Bf):Option (List Ay):=
 (ZT a0 a1).bind fun v1=>
 AA (fun s:Int × List Ay=>Sn a0 a1 s.1 s.2) (0,v1)
def nV (a0:Ay) (v2:Bool):Option (Bool):=
 if v2 then
  (Wg a0.a7).bind fun v3=>
  some (v3&&(a0.ji==0))
 else
  if(a0.aj==4)then
   if(a0.aj==4)then
    if(a0.a7==([]:Ab))then
     (F6 a0.ji (-9999) 9999).bind fun v4=>
     some v4
    else
     some false
   else
    some (((((a0.aj==1)||(a0.aj==3))||(a0.aj==6))&&(a0.a7==([]:Ab)))&&(a0.ji==0))
  else
   if(a0.aj==5)then
    if(a0.a7==([]:Ab))then
     (F6 a0.ji (-9999) 9999).bind fun v5=>
     some v5
    else
     some false
   else
    some (((((a0.aj==1)||(a0.aj==3))||(a0.aj==6))&&(a0.a7==([]:Ab)))&&(a0.ji==0))
def aV (a0:Ay):Option (Bool):=
 (SH a0.af).bind fun v1=>
 if(!v1)then
  some false
 else
  if(a0.aj==2)then
   nV a0 (a0.aj==2)
  else
   nV a0 (a0.aj==7)
def nC (a0:List Ay):Option (Bool):=
 some (decide ((a0.length:Int)≤8))
def Sp (a0:List Ay) (v1:Int):Option ((Int) ⊕ Option (Bool)):=
 if(decide (v1<(a0.length:Int)))then
  (getI a0 v1).bind fun y2=>
  (aV y2).bind fun v3=>
  if(!v3)then
   some (.inr (some false))
  else
   some (.inl (IntKind.i64.wrap (v1+1)))
 else
  some (.inr (nC a0))
def aL (a0:List Ay):Option (Bool):=
 AA (fun s:Int=>Sp a0 s) 0
def Sa (a1:List BO) (a2:Ab) (v1:Int):Option ((Int) ⊕ Option (Ab × Bool × Bool)):=
 if(decide (v1<(a1.length:Int)))then
  (getI a1 v1).bind fun y2=>
  if(y2.af==a2)then
   some (.inr (some (y2.a7,y2.dn,true)))
  else
   some (.inl (IntKind.i64.wrap (v1+1)))
 else
  some (.inr (some (([]:Ab),false,false)))
def Zk (a1:List BO) (a2:Ab):Option (Ab × Bool × Bool):=
 AA (fun s:Int=>Sa a1 a2 s) 0
def R6 (a0:List Ac) (a1:List BO) (a2:Ab) (v3:Int):Option ((Int) ⊕ Option (Ab × Bool × Bool)):=
 if(decide (v3<(a0.length:Int)))then
  (getI a0 v3).bind fun y4=>
  if(y4.af==a2)then
   some (.inr (some (y4.a7,(!y4.bh),true)))
  else
   some (.inl (IntKind.i64.wrap (v3+1)))
 else
  some (.inr (Zk a1 a2))
def Zn (a0:List Ac) (a1:List BO) (a2:Ab):Option (Ab × Bool × Bool):=
 AA (fun s:Int=>R6 a0 a1 a2 s) 0
def L4 (a0:Ab) (v3 v4:Int):Option ((Int × Int) ⊕ Option (Int)):=
 if(decide (v4<(a0.length:Int)))then
  (getI a0 v4).bind fun y5=>
  if((decide ((y5.toNat:Int)<48))||(decide ((y5.toNat:Int)>57)))then
   some (.inr (some (-1)))
  else
   some (.inl ((IntKind.i64.wrap ((IntKind.i64.wrap ((10:Int)*v3))+(IntKind.i64.wrap (IntKind.u8.wrap ((y5.toNat:Int)-48))))),(IntKind.i64.wrap (v4+1))))
 else
  some (.inr (some v3))
def Wb (a0:Ab):Option (Int):=
 (F6 (a0.length:Int) 1 6).bind fun v1=>
 if v1 then
  (getI a0 0).bind fun y2=>
  if(((y2.toNat:Int)==48)&&(decide ((a0.length:Int)>1)))then
   some (-1)
  else
   AA (fun s:Int × Int=>L4 a0 s.1 s.2) (0,0)
 else
  some (-1)
def ZM (y1:UInt8) (v2:Ab):Option (Int × Bool):=
 (Wb v2).bind fun v3=>
 if((decide (v3<0))||(((y1.toNat:Int)==45)&&(v3==0)))then
  some (0,false)
 else
  if((y1.toNat:Int)==45)then
   some ((IntKind.i64.wrap (0-v3)),true)
  else
   some (v3,true)
def zm5 (v4:Ab):Option (Int × Bool):=
 (Wb v4).bind fun v5=>
 if((decide (v5<0))||false)then
  some (0,false)
 else
  some (v5,true)
def Wf (a0:Ab):Option (Int × Bool):=
 if(decide ((a0.length:Int)>0))then
  (getI a0 0).bind fun y1=>
  if((y1.toNat:Int)==45)then
   req (0≤(1:Int)∧(1:Int)≤(a0.length:Int)∧(a0.length:Int)≤(a0.length:Int))<|
   ZM y1 (Bn a0 1 (a0.length:Int))
  else
   ZM y1 a0
 else
  zm5 a0
def ZX (a0:Ay) (a1:Ab) (a2:Bool):Option (Bool):=
 (Wf a1).bind fun v1=>
 if(a0.aj==4)then
  if(!a2)then
   some false
  else
   if v1.2 then
    (F6 (IntKind.i64.wrap (v1.1+a0.ji)) (-999999) 999999).bind fun v2=>
    some (!v2)
   else
    some true
 else
  if(a0.aj==5)then
   some (((!a2)||(!v1.2))||(decide (v1.1<a0.ji)))
  else
   if(a0.aj==6)then
    some a2
   else
    if(a0.aj==7)then
     some ((!a2)||(a1 !=a0.a7))
    else
     some false
def VO:Nat→Int→Option (Ab)
 |0,_=>none
 |n_+1,a0=>
  if(decide (a0<10))then
   req (([(IntKind.u8.wrap (IntKind.i64.wrap ((48:Int)+a0)))]:List Int).length≤9223372036854775807)<|
   some ([(IntKind.u8.wrap (IntKind.i64.wrap ((48:Int)+a0)))].map fun n=>UInt8.ofNat n.toNat)
  else
   ((VO n_) (IntKind.i64.wrap (Int.tdiv a0 10))).bind fun v1=>
   req (([(IntKind.u8.wrap (IntKind.i64.wrap ((48:Int)+(Int.tmod a0 10))))]:List Int).length≤9223372036854775807)<|
   req ((v1).length+(([(IntKind.u8.wrap (IntKind.i64.wrap ((48:Int)+(Int.tmod a0 10))))].map fun n=>UInt8.ofNat n.toNat)).length≤9223372036854775807)<|
   some (v1++([(IntKind.u8.wrap (IntKind.i64.wrap ((48:Int)+(Int.tmod a0 10))))].map fun n=>UInt8.ofNat n.toNat))
def oL:Int→Option (Ab):=VO zL
def oG (a0:Int):Option (Ab):=
 if(decide (a0<0))then
  (oL (IntKind.i64.wrap (0-a0))).bind fun v1=>
  req ((([45]:Ab)).length+(v1).length≤9223372036854775807)<|
  some ((([45]:Ab):Ab)++v1)
 else
  (oL a0).bind fun v2=>
  some v2
def IL (a0:List Ay) (a1:List BO) (v1:List Ac) (v2:Int):Option ((List Ac × Int) ⊕ Option (Int × Ab × List Ac)):=
 if(decide (v2<(a0.length:Int)))then
  (getI a0 v2).bind fun y3=>
  (Zn v1 a1 y3.af).bind fun v4=>
  if(((!v4.2.2)&&(y3.aj !=2))&&(y3.aj !=3))then
   some (.inr (some (1,y3.af, [])))
  else
   (ZX y3 v4.1 v4.2.1).bind fun v5=>
   if v5 then
    some (.inr (some (2,([]:Ab), [])))
   else
    if(y3.aj==2)then
     (G7 v1 (⟨y3.af,y3.a7,false⟩:Ac)).bind fun v6=>
     some (.inl (v6,(IntKind.i64.wrap (v2+1))))
    else
     if(y3.aj==3)then
      (G7 v1 (⟨y3.af,([]:Ab),true⟩:Ac)).bind fun v7=>
      some (.inl (v7,(IntKind.i64.wrap (v2+1))))
     else
      if(y3.aj==4)then
       (Wf v4.1).bind fun v8=>
       if(!v4.2.1)then
        (oG (IntKind.i64.wrap ((0:Int)+y3.ji))).bind fun v9=>
        (G7 v1 (⟨y3.af,v9,false⟩:Ac)).bind fun v10=>
        some (.inl (v10,(IntKind.i64.wrap (v2+1))))
       else
        (oG (IntKind.i64.wrap (v8.1+y3.ji))).bind fun v11=>
        (G7 v1 (⟨y3.af,v11,false⟩:Ac)).bind fun v12=>
        some (.inl (v12,(IntKind.i64.wrap (v2+1))))
      else
       some (.inl (v1,(IntKind.i64.wrap (v2+1))))
 else
  some (.inr (some (3,([]:Ab),v1)))
def nN (a0:List Ay) (a1:List BO):Option (Int × Ab × List Ac):=
 AA (fun s:List Ac × Int=>IL a0 a1 s.1 s.2) ([],0)
def zmL (a1:Ab):Option (BO):=
 some (⟨a1,([]:Ab),false⟩:BO)
def Sm (a0:List Ac) (a1:Ab) (v1:Int):Option ((Int) ⊕ Option (BO)):=
 if(decide (v1<(a0.length:Int)))then
  (getI a0 v1).bind fun y2=>
  if(y2.af==a1)then
   some (.inr (some (⟨a1,y2.a7,true⟩:BO)))
  else
   some (.inl (IntKind.i64.wrap (v1+1)))
 else
  some (.inr (zmL a1))
def aH (a0:List Ac) (a1:Ab):Option (BO):=
 AA (fun s:Int=>Sm a0 a1 s) 0
def PH (a0:List Ac) (a1:List Ay) (v1:List BO):Option ((List BO) ⊕ Option (List BO × List Ac × Bool)):=
 (nN a1 v1).bind fun v2=>
 if(v2.1 !=1)then
  some (.inr (some (v1,v2.2.2,(v2.1==3))))
 else
  (aH a0 v2.2.1).bind fun v3=>
  req ((((v1).length:Int)+(([v3]:List BO).length:Int))*40≤140737488355328∧((v1).length:Int)+(([v3]:List BO).length:Int)≤140737488355328)<|
  some (.inl (v1++ [v3]))
def nX (a0:List Ac) (a1:List Ay):Option (List BO × List Ac × Bool):=
 AA (fun s:List BO=>PH a0 a1 s) []
def RC (v1 v2:List Ac) (v3:Int):Option ((List Ac × Int) ⊕ Option (List Ac)):=
 if(decide (v3<(v1.length:Int)))then
  (getI v1 v3).bind fun y4=>
  if(!y4.bh)then
   req ((((v2).length:Int)+(([y4]:List Ac).length:Int))*40≤140737488355328∧((v2).length:Int)+(([y4]:List Ac).length:Int)≤140737488355328)<|
   some (.inl ((v2++ [y4]),(IntKind.i64.wrap (v3+1))))
  else
   some (.inl (v2,(IntKind.i64.wrap (v3+1))))
 else
  some (.inr (some v2))
def mF (v1:List Ac):Option (List Ac):=
 AA (fun s:List Ac × Int=>RC v1 s.1 s.2) ([],0)
def RG (a1:List Ac) (v5:Int) (v6:List Ac):Option ((Int × List Ac) ⊕ Option (List Ac)):=
 if(decide (v5<(a1.length:Int)))then
  (getI a1 v5).bind fun y7=>
  (G7 v6 y7).bind fun v8=>
  some (.inl ((IntKind.i64.wrap (v5+1)),v8))
 else
  some (.inr (mF v6))
def Zx (a0 a1:List Ac):Option (List Ac):=
 req (((([]:List Ac).length:Int)+((a0).length:Int))*40≤140737488355328∧(([]:List Ac).length:Int)+((a0).length:Int)≤140737488355328)<|
 AA (fun s:Int × List Ac=>RG a1 s.1 s.2) (0,a0)
def PO (a1:List (List Ay)) (v2:List Bool) (v3:Int) (v4:List Ac):Option ((List Bool × Int × List Ac) ⊕ Option (List Ac × List Bool × Bool)):=
 if(decide (v3<(a1.length:Int)))then
  (getI a1 v3).bind fun y5=>
  (nX v4 y5).bind fun v6=>
  (Zx v4 v6.2.1).bind fun v7=>
  if v6.2.2 then
   (KV v7).bind fun v8=>
   if v8 then
    req ((((v2).length:Int)+(([v8]:List Bool).length:Int))*1≤140737488355328∧((v2).length:Int)+(([v8]:List Bool).length:Int)≤140737488355328)<|
    some (.inl ((v2++ [v8]),(IntKind.i64.wrap (v3+1)),v7))
   else
    req ((((v2).length:Int)+(([v8]:List Bool).length:Int))*1≤140737488355328∧((v2).length:Int)+(([v8]:List Bool).length:Int)≤140737488355328)<|
    some (.inl ((v2++ [v8]),(IntKind.i64.wrap (v3+1)),v4))
  else
   req ((((v2).length:Int)+(([false]:List Bool).length:Int))*1≤140737488355328∧((v2).length:Int)+(([false]:List Bool).length:Int)≤140737488355328)<|
   some (.inl ((v2++ [false]),(IntKind.i64.wrap (v3+1)),v4))
 else
  some (.inr (some (v4,v2,true)))
def mA (a0:List Ac) (a1:List (List Ay)):Option (List Ac × List Bool × Bool):=
 req (((([]:List Ac).length:Int)+((a0).length:Int))*40≤140737488355328∧(([]:List Ac).length:Int)+((a0).length:Int)≤140737488355328)<|
 AA (fun s:List Bool × Int × List Ac=>PO a1 s.1 s.2.1 s.2.2) ([],0,a0)
def PN (a0:List Ac) (a1:List (List Ay)) (v9:Int):Option ((Int) ⊕ Option (List Ac × List Bool × Bool)):=
 if(decide (v9<(a1.length:Int)))then
  (getI a1 v9).bind fun y10=>
  (aL y10).bind fun v11=>
  if(!v11)then
   some (.inr (some ([], [],false)))
  else
   some (.inl (IntKind.i64.wrap (v9+1)))
 else
  some (.inr (mA a0 a1))
def Zw (a0:List Ac) (a1:List (List Ay)):Option (List Ac × List Bool × Bool):=
 (KV a0).bind fun v1=>
 if((!v1)||(decide ((a1.length:Int)>20)))then
  some ([], [],false)
 else
  AA (fun s:Int=>PN a0 a1 s) 0
def P1 (a0:List Ac) (a1:List Ay):Option (List Ac × Bool):=
 (Zw a0 ([a1]:List (List Ay))).bind fun v1=>
 if((v1.2.1.length:Int)==1)then
  (getI v1.2.1 0).bind fun y2=>
  some (v1.1,y2)
 else
  some (v1.1,false)
def SG (a0:Ad) (a1:List Ac) (a2:Bf):Option (List Ac × Bool × Bool):=
 (Su a0 a2).bind fun v1=>
 if v1 then
  (KV a1).bind fun v2=>
  if(!v2)then
   some ([],false,false)
  else
   (aI a0 a2).bind fun v3=>
   (P1 a1 v3).bind fun v4=>
   some (v4.1,v4.2,true)
 else
  some ([],false,false)
def G5 (a0:Au) (a1:Dv):Option (Au × Bool):=
 (SF a0).bind fun v1=>
 if(a1.bd !=0)then
  (getI v1.bp a1.a6).bind fun y2=>
  (F6 (IntKind.i64.wrap (y2+a1.bd)) 0 (IntKind.i64.wrap ((a0.ak.length:Int)-1))).bind fun v3=>
  if(!v3)then
   some (v1,false)
  else
   some ((⟨v1.ab,v1.ak,(v1.bp.set (a1.a6).toNat (IntKind.i64.wrap (y2+a1.bd))),v1.ao⟩:Au),true)
 else
  (getI a0.bp a1.a6).bind fun y4=>
  (getI a0.ak y4).bind fun y5=>
  (SG y5 a0.ao a1.ay).bind fun v6=>
  some ((⟨v1.ab,v1.ak,v1.bp,v6.1⟩:Au),v6.2.1)
def mE (v1:Int):Option ((Int) ⊕ Option (Bool)):=
 some (.inl (IntKind.i64.wrap (v1+1)))
def PK (a0:List Int) (v1 y2 v3:Int):Option ((Int) ⊕ Option ((Int) ⊕ Option (Bool))):=
 if(decide (v3<(a0.length:Int)))then
  (getI a0 v3).bind fun y4=>
  if(decide ((IntKind.i64.wrap (y2-y4))>1))then
   some (.inr (some (.inr (some false))))
  else
   some (.inl (IntKind.i64.wrap (v3+1)))
 else
  some (.inr (mE v1))
def R2 (a0:List Int) (v1:Int):Option ((Int) ⊕ Option (Bool)):=
 if(decide (v1<(a0.length:Int)))then
  (getI a0 v1).bind fun y2=>
  AA (fun s:Int=>PK a0 v1 y2 s) 0
 else
  some (.inr (some true))
def SA (a0:List Int):Option (Bool):=
 AA (fun s:Int=>R2 a0 s) 0
def PX (a0:Ad) (a1:Ab) (a2:List Ac):Option (Bool):=
 (L5 a0).bind fun v1=>
 if v1 then
  (GO a0 a1).bind fun v2=>
  if(decide (v2≥0))then
   (KV a2).bind fun v3=>
   some v3
  else
   some false
 else
  some false
def R1 (a0:List (Ab)) (a1:List (Ab)) (v1:List (Ab)) (v2:Int):Option ((List (Ab) × Int) ⊕ Option (List (Ab))):=
 if(decide (v2<(a0.length:Int)))then
  (getI a0 v2).bind fun y3=>
  (P2 a1 y3).bind fun v4=>
  if(decide (v4<0))then
   req ((((v1).length:Int)+(([y3]:List (Ab)).length:Int))*16≤140737488355328∧((v1).length:Int)+(([y3]:List (Ab)).length:Int)≤140737488355328)<|
   some (.inl ((v1++ [y3]),(IntKind.i64.wrap (v2+1))))
  else
   some (.inl (v1,(IntKind.i64.wrap (v2+1))))
 else
  some (.inr (some v1))
def Z2 (a0:List (Ab)) (a1:List (Ab)):Option (List (Ab)):=
 AA (fun s:List (Ab) × Int=>R1 a0 a1 s.1 s.2) ([],0)
def nD (a0:Ad) (a1:Ab) (a2:List Ac):Option (List (Ab) × Bool):=
 (PX a0 a1 a2).bind fun v1=>
 if(!v1)then
  some ([],false)
 else
  (Jo a0 a1 a2).bind fun v2=>
  (Se a0 a1 a2).bind fun v3=>
  (Z2 v2 v3).bind fun v4=>
  some (v4,true)
def nQ (a0:Ad) (a1:Ab) (a2:List Ac):Option (List (Ab) × Bool):=
 (PX a0 a1 a2).bind fun v1=>
 if(!v1)then
  some ([],false)
 else
  (Se a0 a1 a2).bind fun v2=>
  (Jo a0 a1 a2).bind fun v3=>
  (Z2 v2 v3).bind fun v4=>
  some (v4,true)
def Zq (a0:Ad) (a1:Ab) (a2:Int) (a3:List Ac):Option (Bool):=
 if(a2==0)then
  (Jo a0 a1 a3).bind fun v1=>
  some ((v1.length:Int)==0)
 else
  (nD a0 a1 a3).bind fun v2=>
  (nQ a0 a1 a3).bind fun v3=>
  some (((v2.1.length:Int)==0)&&((a2==1)||((v3.1.length:Int)==0)))
def Sv (a0:Au):Option (Bool):=
 (getI a0.ak 0).bind fun y1=>
 (V8 a0).bind fun v2=>
 (Zq y1 a0.ab v2 a0.ao).bind fun v3=>
 some v3
def P0 (a0:Au) (a1:Dv):Option (Bool):=
 (G5 a0 a1).bind fun v1=>
 if v1.2 then
  (SA v1.1.bp).bind fun v2=>
  if v2 then
   (Sv v1.1).bind fun v3=>
   some v3
  else
   some false
 else
  some false
def L8 (a0:AI) (a1:Dv):Option (AI × Bool):=
 if(a1.bd !=0)then
  (P0 a0.ae a1).bind fun v1=>
  if(!v1)then
   some (a0,false)
  else
   (L6 a0.ae).bind fun v2=>
   (getI v2 a1.a6).bind fun y3=>
   (G5 a0.ae a1).bind fun v4=>
   if(!v4.2)then
    some (a0,false)
   else
    if((a1.bd==0)&&(decide (y3≥2)))then
     some ((⟨v4.1,(⟨a0.cx.al,a0.cx.bg⟩:AL),(⟨([]:Ab),false⟩:AL)⟩:AI),true)
    else
     if(a1.bd==0)then
      some ((⟨v4.1,(⟨([]:Ab),false⟩:AL),(⟨a0.bf.al,a0.bf.bg⟩:AL)⟩:AI),true)
     else
      some ((⟨v4.1,(⟨a0.cx.al,a0.cx.bg⟩:AL),(⟨a0.bf.al,a0.bf.bg⟩:AL)⟩:AI),true)
 else
  (L6 a0.ae).bind fun v5=>
  (getI v5 a1.a6).bind fun y6=>
  (G5 a0.ae a1).bind fun v7=>
  if(!v7.2)then
   some (a0,false)
  else
   if((a1.bd==0)&&(decide (y6≥2)))then
    some ((⟨v7.1,(⟨a0.cx.al,a0.cx.bg⟩:AL),(⟨([]:Ab),false⟩:AL)⟩:AI),true)
   else
    if(a1.bd==0)then
     some ((⟨v7.1,(⟨([]:Ab),false⟩:AL),(⟨a0.bf.al,a0.bf.bg⟩:AL)⟩:AI),true)
    else
     some ((⟨v7.1,(⟨a0.cx.al,a0.cx.bg⟩:AL),(⟨a0.bf.al,a0.bf.bg⟩:AL)⟩:AI),true)
def ZC (a0:Ad) (a1:At) (a2:AD):Option (List Ay):=
 (IN a0 a2).bind fun v1=>
 (IP a0 a1 a2).bind fun v2=>
 some [(⟨7,v1.af,v1.a7,0⟩:Ay),(⟨2,v2,([]:Ab),0⟩:Ay)]
def VM (a0:List (Ab)) (a1:Ab) (v1:Int):Option ((Int) ⊕ Option (Bool)):=
 if(decide (v1<(a0.length:Int)))then
  (getI a0 v1).bind fun y2=>
  if(!(Op.bytesLess y2 a1||y2==a1))then
   some (.inr (some true))
  else
   some (.inl (IntKind.i64.wrap (v1+1)))
 else
  some (.inr (some false))
def Z6 (a0:List (Ab)) (a1:Ab):Option (Bool):=
 AA (fun s:Int=>VM a0 a1 s) 0
def RZ (a0:Ad) (a3:AL) (v4:Ab) (v5:List Ac):Option (List Ac × AL):=
 if a3.bg then
  some (v5,(⟨v4,true⟩:AL))
 else
  (Vv a0 v5).bind fun v6=>
  (Z6 v6 v4).bind fun v7=>
  some (v5,(⟨v4,(!v7)⟩:AL))
def L1 (a0:Ad) (a3:AL) (y2:At) (v3:List AD) (v8 v9:Int) (v10:Ab) (v11:List Ac):Option ((Int × Int × Ab × List Ac) ⊕ Option (List Ac × AL)):=
 if(decide (v9<(v3.length:Int)))then
  (getI v3 v9).bind fun y12=>
  (IN a0 y12).bind fun v13=>
  if((v8==0)||(Op.bytesLess v13.af v10||v13.af==v10))then
   some (.inl (v8,(IntKind.i64.wrap (v9+1)),v10,v11))
  else
   (ZC a0 y2 y12).bind fun v14=>
   (P1 v11 v14).bind fun v15=>
   if(!v15.2)then
    some (.inr (RZ a0 a3 v10 v11))
   else
    some (.inl ((IntKind.i64.wrap (v8-1)),(IntKind.i64.wrap (v9+1)),v13.af,v15.1))
 else
  some (.inr (RZ a0 a3 v10 v11))
def V7 (a0:Ad) (a1:Ab) (a2:List Ac) (a3:AL) (a4:Int):Option (List Ac × AL):=
 req (((([]:List Ac).length:Int)+((a2).length:Int))*40≤140737488355328∧(([]:List Ac).length:Int)+((a2).length:Int)≤140737488355328)<|
 (GO a0 a1).bind fun v1=>
 (getI a0.ah v1).bind fun y2=>
 (Jn a0 a2).bind fun v3=>
 AA (fun s:Int × Int × Ab × List Ac=>L1 a0 a3 y2 v3 s.1 s.2.1 s.2.2.1 s.2.2.2) (a4,0,a3.al,a2)
def Zh (a0:Ad) (a1:Ab) (a3:AL) (v2:Ab) (v3:List Ac):Option (List Ac × AL):=
 if a3.bg then
  some (v3,(⟨v2,true⟩:AL))
 else
  (Jo a0 a1 v3).bind fun v4=>
  (Z6 v4 v2).bind fun v5=>
  some (v3,(⟨v2,(!v5)⟩:AL))
def ND (a0:Ad) (a1:Ab) (a3:AL) (v1:List (Ab)) (v6 v7:Int) (v8:Ab) (v9:List Ac):Option ((Int × Int × Ab × List Ac) ⊕ Option (List Ac × AL)):=
 if(decide (v7<(v1.length:Int)))then
  (getI v1 v7).bind fun y10=>
  if((v6==0)||(Op.bytesLess y10 v8||y10==v8))then
   some (.inl (v6,(IntKind.i64.wrap (v7+1)),v8,v9))
  else
   (P1 v9 ([(⟨3,y10,([]:Ab),0⟩:Ay)]:List Ay)).bind fun v11=>
   some (.inl ((IntKind.i64.wrap (v6-1)),(IntKind.i64.wrap (v7+1)),y10,v11.1))
 else
  some (.inr (Zh a0 a1 a3 v8 v9))
def VW (a0:Ad) (a1:Ab) (a2:List Ac) (a3:AL) (a4:Int):Option (List Ac × AL):=
 req (((([]:List Ac).length:Int)+((a2).length:Int))*40≤140737488355328∧(([]:List Ac).length:Int)+((a2).length:Int)≤140737488355328)<|
 (Jo a0 a1 a2).bind fun v1=>
 AA (fun s:Int × Int × Ab × List Ac=>ND a0 a1 a3 v1 s.1 s.2.1 s.2.2.1 s.2.2.2) (a4,0,a3.al,a2)
def NJ (a0:AI) (a1:CR):Option (AI × Bool):=
 (ZY a0.ae).bind fun v1=>
 if(a1.aj==1)then
  (L8 a0 a1.ay).bind fun v2=>
  some (v2.1,v2.2)
 else
  if((a1.aj==2)&&v1.1)then
   (getI a0.ae.ak 0).bind fun y3=>
   (V7 y3 a0.ae.ab a0.ae.ao a0.cx a1.b8).bind fun v4=>
   some ((⟨(⟨a0.ae.ab,a0.ae.ak,a0.ae.bp,v4.1⟩:Au),v4.2,(⟨([]:Ab),false⟩:AL)⟩:AI),true)
  else
   if((a1.aj==3)&&(!v1.2))then
    (getI a0.ae.ak 0).bind fun y5=>
    (VW y5 a0.ae.ab a0.ae.ao a0.bf a1.b8).bind fun v6=>
    some ((⟨(⟨a0.ae.ab,a0.ae.ak,a0.ae.bp,v6.1⟩:Au),(⟨([]:Ab),false⟩:AL),v6.2⟩:AI),true)
   else
    some (a0,false)
def VR (a0:AI) (a1:CR):Option (AI × Bool × Bool):=
 (Vx a0 a1).bind fun v1=>
 if(!v1)then
  some ((⟨(⟨([]:Ab), [], [], []⟩:Au),(⟨([]:Ab),false⟩:AL),(⟨([]:Ab),false⟩:AL)⟩:AI),false,false)
 else
  (aG a0).bind fun v2=>
  (NJ v2 a1).bind fun v3=>
  some (v3.1,v3.2,true)
def RY (a0:AD) (a1:AI) (a2:Au) (a3:List (Ab)):Option (Bool):=
 if a1.cx.bg then
  (getI a2.ak 0).bind fun y1=>
  (Kj y1 a2.ab a0).bind fun v2=>
  (PB a3 v2).bind fun v3=>
  some (!v3)
 else
  (getI a2.ak 0).bind fun y4=>
  (L0 y4 a0).bind fun v5=>
  if(Op.bytesLess v5.af a1.cx.al||v5.af==a1.cx.al)then
   (Kj y4 a2.ab a0).bind fun v6=>
   (PB a3 v6).bind fun v7=>
   some (!v7)
  else
   some false
def SB (a0:AI):Option (Bool × Bool):=
 (L3 a0).bind fun v1=>
 if(!v1)then
  some (false,false)
 else
  (getI a0.ae.ak 0).bind fun y2=>
  (KR y2 a0.ae.ab a0.ae.ao).bind fun v3=>
  (PE y2 a0.ae.ao).bind fun v4=>
  (FL v4 (fun y0_=>RY y0_ a0 a0.ae v3)).bind fun v5=>
  some ((!v5),true)
def RD (a0:AI) (y1:Ad) (v2:List (Ab)) (v3:List AD) (v4:Int):Option ((Int) ⊕ Option (Bool)):=
 if(decide (v4<(v3.length:Int)))then
  (getI v3 v4).bind fun y5=>
  if a0.cx.bg then
   (GO y1 a0.ae.ab).bind fun v6=>
   (getI y1.ah v6).bind fun y7=>
   (IP y1 y7 y5).bind fun v8=>
   (P2 v2 v8).bind fun v9=>
   if(decide (v9<0))then
    some (.inr (some false))
   else
    some (.inl (IntKind.i64.wrap (v4+1)))
  else
   (IN y1 y5).bind fun v10=>
   if(Op.bytesLess v10.af a0.cx.al||v10.af==a0.cx.al)then
    (GO y1 a0.ae.ab).bind fun v11=>
    (getI y1.ah v11).bind fun y12=>
    (IP y1 y12 y5).bind fun v13=>
    (P2 v2 v13).bind fun v14=>
    if(decide (v14<0))then
     some (.inr (some false))
    else
     some (.inl (IntKind.i64.wrap (v4+1)))
   else
    some (.inl (IntKind.i64.wrap (v4+1)))
 else
  some (.inr (some true))
def Zu (a0:AI):Option (Bool):=
 (getI a0.ae.ak 0).bind fun y1=>
 (Jo y1 a0.ae.ab a0.ae.ao).bind fun v2=>
 (Jn y1 a0.ae.ao).bind fun v3=>
 AA (fun s:Int=>RD a0 y1 v2 v3 s) 0
def VU (a0:AI):Option (Bool × Bool):=
 (KT a0).bind fun v1=>
 if(!v1)then
  some (false,false)
 else
  (Zu a0).bind fun v2=>
  some (v2,true)
def R8 (a0:Ab) (a1:AI):Option (Bool):=
 some (a1.bf.bg||(Op.bytesLess a0 a1.bf.al||a0==a1.bf.al))
def So (a0:AI):Option (Bool × Bool):=
 (L3 a0).bind fun v1=>
 if(!v1)then
  some (false,false)
 else
  (getI a0.ae.ak 0).bind fun y2=>
  (KR y2 a0.ae.ab a0.ae.ao).bind fun v3=>
  (FL v3 (fun y0_=>R8 y0_ a0)).bind fun v4=>
  some ((!v4),true)
def RJ (a0:AI) (v2:List (Ab)) (v3:Int):Option ((Int) ⊕ Option (Bool)):=
 if(decide (v3<(v2.length:Int)))then
  (getI v2 v3).bind fun y4=>
  if(a0.bf.bg||(Op.bytesLess y4 a0.bf.al||y4==a0.bf.al))then
   some (.inr (some false))
  else
   some (.inl (IntKind.i64.wrap (v3+1)))
 else
  some (.inr (some true))
def Zg (a0:AI):Option (Bool):=
 (getI a0.ae.ak 0).bind fun y1=>
 (Jo y1 a0.ae.ab a0.ae.ao).bind fun v2=>
 AA (fun s:Int=>RJ a0 v2 s) 0
def VE (a0:AI):Option (Bool × Bool):=
 (KT a0).bind fun v1=>
 if(!v1)then
  some (false,false)
 else
  (Zg a0).bind fun v2=>
  some (v2,true)
def VB (a0:List (Ab)) (a1:List (Ab)) (v1:Int):Option ((Int) ⊕ Option (Bool)):=
 if(decide (v1<(a0.length:Int)))then
  (getI a0 v1).bind fun y2=>
  (getI a1 v1).bind fun y3=>
  if(y2 !=y3)then
   some (.inr (some false))
  else
   some (.inl (IntKind.i64.wrap (v1+1)))
 else
  some (.inr (some true))
def aJ (a0:List (Ab)) (a1:List (Ab)):Option (Bool):=
 if((a0.length:Int) !=(a1.length:Int))then
  some false
 else
  AA (fun s:Int=>VB a0 a1 s) 0
def VI (a0 a1:Ad) (v2:Int):Option ((Int) ⊕ Option (Bool)):=
 if(decide (v2<(a0.ah.length:Int)))then
  (getI a0.ah v2).bind fun y3=>
  (getI a1.ah v2).bind fun y4=>
  if(!(y3.ab==y4.ab&&(y3.bj==y4.bj&&(y3.aq==y4.aq))))then
   some (.inr (some false))
  else
   some (.inl (IntKind.i64.wrap (v2+1)))
 else
  some (.inr (some true))
def aQ (a0 a1:Ad):Option (Bool):=
 if(a0.ab !=a1.ab)then
  some false
 else
  (aJ a0.ar a1.ar).bind fun v1=>
  if((!v1)||((a0.ah.length:Int) !=(a1.ah.length:Int)))then
   some false
  else
   AA (fun s:Int=>VI a0 a1 s) 0
def VN (a0 a1:List Ad) (v1:Int):Option ((Int) ⊕ Option (Bool)):=
 if(decide (v1<(a0.length:Int)))then
  (getI a0 v1).bind fun y2=>
  (getI a1 v1).bind fun y3=>
  (aQ y2 y3).bind fun v4=>
  if(!v4)then
   some (.inr (some false))
  else
   some (.inl (IntKind.i64.wrap (v1+1)))
 else
  some (.inr (some true))
def Z5 (a0 a1:List Ad):Option (Bool):=
 if((a0.length:Int) !=(a1.length:Int))then
  some false
 else
  AA (fun s:Int=>VN a0 a1 s) 0
def VH (a0 a1:List Int) (v1:Int):Option ((Int) ⊕ Option (Bool)):=
 if(decide (v1<(a0.length:Int)))then
  (getI a0 v1).bind fun y2=>
  (getI a1 v1).bind fun y3=>
  if(y2 !=y3)then
   some (.inr (some false))
  else
   some (.inl (IntKind.i64.wrap (v1+1)))
 else
  some (.inr (some true))
def aE (a0 a1:List Int):Option (Bool):=
 if((a0.length:Int) !=(a1.length:Int))then
  some false
 else
  AA (fun s:Int=>VH a0 a1 s) 0
def VD (a0 a1:List Ac) (v1:Int):Option ((Int) ⊕ Option (Bool)):=
 if(decide (v1<(a0.length:Int)))then
  (getI a0 v1).bind fun y2=>
  (getI a1 v1).bind fun y3=>
  if(!(y2.af==y3.af&&(y2.a7==y3.a7&&(y2.bh==y3.bh))))then
   some (.inr (some false))
  else
   some (.inl (IntKind.i64.wrap (v1+1)))
 else
  some (.inr (some true))
def ZS (a0 a1:List Ac):Option (Bool):=
 if((a0.length:Int) !=(a1.length:Int))then
  some false
 else
  AA (fun s:Int=>VD a0 a1 s) 0
def aM (a0 a1:Au):Option (Bool):=
 if(a0.ab==a1.ab)then
  (Z5 a0.ak a1.ak).bind fun v1=>
  if v1 then
   (aE a0.bp a1.bp).bind fun v2=>
   if v2 then
    (ZS a0.ao a1.ao).bind fun v3=>
    some v3
   else
    some false
  else
   some false
 else
  some false
def ZQ (a0 a1:AI):Option (Bool):=
 (aM a0.ae a1.ae).bind fun v1=>
 some ((v1&&(a0.cx.al==a1.cx.al&&(a0.cx.bg==a1.cx.bg)))&&(a0.bf.al==a1.bf.al&&(a0.bf.bg==a1.bf.bg)))
def aF (a0:Au):Option (Bool × Bool):=
 (Sg a0).bind fun v1=>
 if(!v1)then
  some (false,false)
 else
  (Sv a0).bind fun v2=>
  some (v2,true)
def ZL (a0:Au):Option (Bool × Bool):=
 (Sg a0).bind fun v1=>
 if(!v1)then
  some (false,false)
 else
  (SA a0.bp).bind fun v2=>
  some (v2,true)
def V1 (a0:Au):Option (Bool × Bool):=
 (PR a0).bind fun v1=>
 if(!v1)then
  some (false,false)
 else
  (Ry a0).bind fun v2=>
  some (v2,true)
def aK (a0 a1:List Int):Option (Bool):=
 if(decide ((IntKind.i64.wrap ((a0.length:Int)+(a1.length:Int)))>1048576))then
  some true
 else
  (Y8 a0).bind fun v1=>
  (VS v1.1 v1.2).bind fun v2=>
  (VR v1.1 v1.2).bind fun v3=>
  (SB v1.1).bind fun v4=>
  (VU v1.1).bind fun v5=>
  (So v1.1).bind fun v6=>
  (VE v1.1).bind fun v7=>
  if(v2.2.2 !=v3.2.2)then
   some false
  else
   if(v2.2.1 !=v3.2.1)then
    some false
   else
    (ZQ v2.1 v3.1).bind fun v8=>
    if v8 then
     if(v4.2 !=v5.2)then
      some false
     else
      if(v4.1 !=v5.1)then
       some false
      else
       if(v6.2 !=v7.2)then
        some false
       else
        if(v6.1 !=v7.1)then
         some false
        else
         (L3 v1.1).bind fun v9=>
         (KT v1.1).bind fun v10=>
         if(v9 !=v10)then
          some false
         else
          (R7 v1.1 v1.2).bind fun v11=>
          if(v11 !=v2.2.2)then
           some false
          else
           if(!v2.2.2)then
            some true
           else
            (SB v2.1).bind fun v12=>
            (So v2.1).bind fun v13=>
            (aF v1.1.ae).bind fun v14=>
            (ZL v1.1.ae).bind fun v15=>
            (V2 v2.1.ae).bind fun v16=>
            (V1 v2.1.ae).bind fun v17=>
            some ((((((((v12.2&&v13.2)&&v14.2)&&v15.2)&&v16.2)&&v17.2)&&((!v4.1)||v12.1))&&((!v6.1)||v13.1))&&(((!v14.1)||(!v15.1))||(v16.1&&v17.1)))
    else
     some false
def zgb:FS:=DG 313 [.v .s, .v .s] (.v (.i .i64)) (fun x=>Rz x.1 x.2.1) fun x r _ h=>zj3 x.1 x.2.1 r h
def ziz:FS:=DG 319 [.v .s, .v (.i .u8)] (.v (.i .i64)) (fun x=>Yx x.1 x.2.1) fun x r _ h=>ziw x.1 x.2.1 r h
def zuf:FS:=DG 301 [.v .s, .v (.i .i64), .v (.i .i64)] (.tu (.cons (.v (.i .i64)) (.cons (.v .b) .nil))) (fun x=>ZW x.1 x.2.1 x.2.2.1) fun x r _ h=>zt2 x.1 x.2.1 x.2.2.1 r h
def zuF:FS:=DG 283 [.v (.i .i64)] (.v .s) (fun x=>nU x.1) fun x r _ h=>zuB x.1 r h
def ztp:FS:=DG 315 [.v .s, .v .s] (.v (.i .i64)) (fun x=>Zp x.1 x.2.1) fun x r _ h=>ztR x.1 x.2.1 r h
def zt1:FS:=DG 199 [.v (.l .s), .v .s] (.v .s) (fun x=>Z7 x.1 x.2.1) fun x r _ h=>zuu x.1 x.2.1 r h
def zqW:FS:=DG 314 [.v .s, .v (.i .i64)] (.v (.l .s)) (fun x=>mP x.1 x.2.1) fun x r _ h=>zqF x.1 x.2.1 r h
def zgl:FS:=DG 285 [.v (.l (.st 0)), .v (.i .i64), .v (.l (.st 0))] (.v (.l (.st 0))) (fun x=>cK x.1 x.2.1 x.2.2.1) fun x r hp h=>zHB (t:=27) (it:=3) (el:=143) (K:=3) (by kernel_rfl) (fun _=>by kernel_rfl) zD0 h
def zn6:FS:=Ak 129 [.rf (.st 1)] (.tu (.cons (.v (.i .i64)) (.cons (.v (.st 1)) .nil))) (fun x=>PD x.1) [] [.inl]
def Jm:FS:=Ak 53 [.rf (.st 1), .v (.i .i64)] (.tu (.cons (.v (.i .i64)) (.cons (.v (.st 1)) .nil))) (fun x=>Dx x.1 x.2.1) [zn6] [.inl]
def PI:FS:=Ak 121 [.rf (.st 1), .v (.l .s)] (.tu (.cons (.v .s) (.cons (.v (.st 1)) .nil))) (fun x=>Ii x.1 x.2.1) [Jm] []
def PL:FS:=Ak 48 [.rf (.st 1), .v (.i .i64)] (.tu (.cons (.v .b) (.cons (.v (.st 1)) .nil))) (fun x=>F4 x.1 x.2.1) [Jm] []
def zjE:FS:=Ak 45 [.rf (.st 1)] (.tu (.cons (.v (.st 3)) (.cons (.v (.st 1)) .nil))) (fun x=>Jl x.1) [PI,Jm,PL] [.sp [.i .i64, .l (.i .u8), .i .i64, .i .u64, .l (.st 2)], .inl, .pt]
def oE:FS:=Ak 167 [.v (.st 3)] (.v (.st 3)) (fun x=>SE x.1) [] []
def L7:FS:=Ak 158 [.v (.st 3), .v .s] (.v (.i .i64)) (fun x=>GO x.1 x.2.1) [] [.sp [.i .i64]]
def zpX:FS:=Ak 85 [.v (.st 3), .v .s, .v (.i .i64)] (.v (.st 3)) (fun x=>SD x.1 x.2.1 x.2.2.1) [oE,L7] []
def zkH:FS:=Ak 212 [.rf (.st 1), .v (.st 3)] (.tu (.cons (.v (.st 4)) (.cons (.v (.st 1)) .nil))) (fun x=>Nz x.1 x.2.1) [PI] [.sp [.l (.i .u8), .i .i64, .i .u64, .l .s]]
def zud:FS:=Ak 268 [.v (.l .s), .v .s] (.v .s) (fun x=>oA x.1 x.2.1) [] [.sp [.s, .i .i64], .inl]
def NI:FS:=Ak 206 [.v (.st 3), .v (.st 4)] (.v (.st 0)) (fun x=>IN x.1 x.2.1) [zud] []
def aR:FS:=Ak 123 [.v (.l (.st 0)), .v (.st 0)] (.v (.l (.st 0))) (fun x=>G7 x.1 x.2.1) [] [.sp [.i .i64]]
def zoD:FS:=Ak 240 [.v .s, .v (.i .u8)] (.v (.l .s)) (fun x=>PW x.1 x.2.1) [] [.sp [.l .s, .i .i64, .i .i64], .inl]
def HM:FS:=Ak 59 [.v (.i .i64), .v (.i .i64), .v (.i .i64)] (.v .b) (fun x=>F6 x.1 x.2.1 x.2.2.1) [] []
def nZ:FS:=Ak 270 [.v .s, .v .s] (.v .b) (fun x=>Sx x.1 x.2.1) [] [.sp [.i .i64], .sp [.b, .i .i64]]
def zm1:FS:=Ak 226 [.v .s] (.v .b) (fun x=>Sz x.1) [HM,nZ] []
def zou:FS:=Ak 146 [.v (.st 3), .v (.st 4)] (.v .b) (fun x=>NH x.1 x.2.1) [zm1] [.sp [.i .i64]]
def zus:FS:=Ak 168 [.v (.st 3), .v (.st 0)] (.tu (.cons (.v (.st 4)) (.cons (.v .b) .nil))) (fun x=>ZE x.1 x.2.1) [zoD,zou,NI] []
def PU:FS:=Ak 87 [.v (.st 3), .v (.l (.st 0))] (.v (.l (.st 4))) (fun x=>Jn x.1 x.2.1) [zus] [.sp [.l (.st 4), .i .i64], .inl]
def VX:FS:=Ak 207 [.v (.st 3), .v (.st 2), .v (.st 4)] (.v .s) (fun x=>IP x.1 x.2.1 x.2.2.1) [] []
def zoN:FS:=Ak 213 [.rf (.st 1)] (.tu (.cons (.v .s) (.cons (.v (.st 1)) .nil))) (fun x=>Y4 x.1) [PI] []
def zo2:FS:=Ak 214 [.rf (.st 1)] (.tu (.cons (.v .s) (.cons (.v (.st 1)) .nil))) (fun x=>Y5 x.1) [PI] []
def znu:FS:=Ak 122 [.rf (.st 1), .v (.st 3)] (.tu (.cons (.v (.l (.st 0))) (.cons (.v (.st 1)) .nil))) (fun x=>YT x.1 x.2.1) [Jm,PL,zoN,zo2,aR,PU,zkH,VX,NI] [.sp [.l (.st 0), .i .i64, .l (.i .u8), .i .i64, .i .u64], .sp [.i .i64, .l (.i .u8), .i .i64, .i .u64, .l (.st 0)], .inl, .sp [.i .i64, .l (.i .u8), .i .i64, .i .u64, .l (.st 0)], .inl, .inl]
def zlT:FS:=Ak 57 [.v .s, .v (.i .i64)] (.v .b) (fun x=>RV x.1 x.2.1) [] [.sp [.i .i64]]
def oK:FS:=Ak 135 [.v (.l .s), .v .s] (.v (.i .i64)) (fun x=>P2 x.1 x.2.1) [] [.sp [.i .i64]]
def zuj:FS:=Ak 58 [.v (.l .s)] (.v .b) (fun x=>Z3 x.1) [HM,zlT,oK] [.sp [.i .i64]]
def Zv:FS:=Ak 11 [.v (.st 3)] (.v .b) (fun x=>L5 x.1) [zlT,zuj,HM] [.sp [.i .i64]]
def ztH:FS:=Ak 84 [.v (.st 3), .v .s, .v (.i .i64)] (.v .b) (fun x=>ZK x.1 x.2.1 x.2.2.1) [Zv,L7,HM] []
def oO:FS:=Ak 209 [.v .s] (.v .b) (fun x=>SH x.1) [HM,nZ] []
def zrp:FS:=Ak 286 [.v .s] (.v .b) (fun x=>Wg x.1) [nZ] []
def zuw:FS:=Ak 239 [.v .s, .v .s, .v .b] (.v .b) (fun x=>ZF x.1 x.2.1 x.2.2.1) [oO,zrp] []
def zsS:FS:=Ak 162 [.v (.l (.st 0))] (.v .b) (fun x=>Zr x.1) [zuw] [.sp [.i .i64]]
def V4:FS:=Ak 76 [.v (.l (.st 0))] (.v .b) (fun x=>KV x.1) [zsS] [.sp [.i .i64]]
def zpG:FS:=Ak 159 [.v (.st 3), .v .s, .v (.i .i64)] (.v (.l (.st 3))) (fun x=>Wc x.1 x.2.1 x.2.2.1) [oE,L7,zpX] [.sp [.i .i64, .l (.st 3)], .inl]
def zyt:FS:=Ak 253 [.v (.l (.i .i64))] (.v (.l (.i .i64))) (fun x=>aS x.1) [] []
def nO:FS:=Ak 185 [.v (.st 5)] (.v (.st 5)) (fun x=>SF x.1) [zyt,oE] [.sp [.i .i64, .l (.st 3)]]
def zs7:FS:=Ak 248 [.v (.st 3), .v .s, .v (.i .i64), .v (.i .i64), .v (.l (.st 0))] (.tu (.cons (.v (.st 5)) (.cons (.v .b) .nil))) (fun x=>Zo x.1 x.2.1 x.2.2.1 x.2.2.2.1 x.2.2.2.2.1) [ztH,HM,V4,zpG,nO] []
def zt8:FS:=Ak 249 [.v (.i .i64), .v (.i .i64)] (.v (.i .i64)) (fun x=>ZU x.1 x.2.1) [] []
def nH:FS:=Ak 254 [.v (.st 5)] (.v (.l (.i .i64))) (fun x=>L6 x.1) [L7] [.sp [.l (.i .i64), .i .i64]]
def zx0:FS:=Ak 273 [.v (.l (.i .i64)), .v (.i .i64)] (.v .b) (fun x=>We x.1 x.2.1) [] [.sp [.i .i64]]
def zor:FS:=Ak 211 [.v (.st 5)] (.v (.i .i64)) (fun x=>V8 x.1) [nH,zx0] []
def mZ:FS:=Ak 250 [.v (.st 3), .v .s, .v (.l (.st 0))] (.v (.l .s)) (fun x=>Se x.1 x.2.1 x.2.2.1) [PU,L7,VX] [.sp [.l .s, .i .i64]]
def ziB:FS:=Ak 179 [.rf (.st 1)] (.tu (.cons (.v (.st 5)) (.cons (.v (.st 1)) .nil))) (fun x=>NA x.1) [zjE,Jm,zpX,znu,PU,zs7,zor,mZ,PL,aR,zt8,NI] [.sp [.l (.i .u8), .i .i64, .i .u64, .s, .l .s, .l (.st 2)], .sp [.l (.st 0), .i .i64], .sp [.i .i64, .l (.i .u8), .i .i64, .i .u64, .l (.i .i64)], .inl, .sp [.i .i64, .l (.i .u8), .i .i64, .i .u64, .l (.st 0)], .inl, .inl, .inl]
def zkU:FS:=Ak 157 [.rf (.st 1)] (.tu (.cons (.v (.st 5)) (.cons (.v (.st 1)) .nil))) (fun x=>YC x.1) [ziB,Jm,zjE,PI] [.inl]
def zpm:FS:=Ak 160 [.v (.st 3), .v (.st 3)] (.v .b) (fun x=>Zj x.1 x.2.1) [] [.sp [.i .i64], .sp [.i .i64]]
def zvA:FS:=Ak 238 [.v (.i .i64), .v (.i .i64)] (.v (.i .i64)) (fun x=>aD x.1 x.2.1) [] []
def zwC:FS:=Ak 161 [.v (.st 3), .v (.st 3)] (.v (.i .i64)) (fun x=>ZP x.1 x.2.1) [zvA] [.sp [.i .i64, .i .i64]]
def zuq:FS:=Ak 74 [.v (.st 5)] (.v .b) (fun x=>Ss x.1) [HM,Zv,L7,zpG,zpm,zwC] [.sp [.i .i64]]
def zxx:FS:=Ak 75 [.v (.l (.i .i64)), .v (.i .i64), .v (.i .i64)] (.v .b) (fun x=>Z9 x.1 x.2.1 x.2.2.1) [HM] [.sp [.i .i64]]
def nE:FS:=Ak 19 [.v (.st 5)] (.v .b) (fun x=>Sg x.1) [zuq,HM,zxx,V4] []
def Kk:FS:=Ak 60 [.v (.i .i64), .v (.i .i64), .v (.i .i64)] (.v .b) (fun x=>G6 x.1 x.2.1 x.2.2.1) [] []
def zrT:FS:=Ak 229 [.v (.l (.st 0))] (.v (.l .s)) (fun x=>Zz x.1) [] [.sp [.i .i64, .l .s]]
def znp:FS:=Ak 296 [.v (.i .u8)] (.v .b) (fun x=>lU x.1) [] []
def zoJ:FS:=Ak 297 [.v .s, .v (.i .u8)] (.v (.i .i64)) (fun x=>lZ x.1 x.2.1) [ziz] []
def nJ:FS:=Ak 269 [.v .s, .v .s] (.v .b) (fun x=>Sd x.1 x.2.1) [znp,zoJ] [.sp [.i .i64]]
def zoB:FS:=Ak 208 [.v .s] (.v .b) (fun x=>VP x.1) [Kk,nJ] []
def zrQ:FS:=Ak 228 [.v (.l .s)] (.v .b) (fun x=>ZB x.1) [zoB] [.sp [.i .i64]]
def zcH:FS:=DG 232 [.v (.l (.st 0)), .fn [.st 0] .b] (.v (.i .i64)) (fun x=>Fc x.1 (fun y=>x.2.1.φ (y,()))) fun x r hp h=>Fy (f:=232) (t:=QA 3) (by kernel_rfl) (by kernel_rfl) (W6 (av:=(By tab.av (.st 0))) (cn:=3) (fun _=>⟨_,rfl,rfl⟩) h (fun y b hb=>hp.2.1 (y,()) b hb))
def zcn:FS:=DG 149 [.v (.l (.st 0)), .fn [.st 0] .b] (.v .b) (fun x=>FL x.1 (fun y=>x.2.1.φ (y,()))) fun x r hp h=>Fy (f:=149) (t:=Qz 232) (by kernel_rfl) (by kernel_rfl) (WX h fun r hr=>zcH.ok x r hp hr)
def zug:FS:=Ak 279 [.v .s] (.v .b) (fun x=>ZH x.1) [nJ] []
def ztM:FS:=Ak 231 [.v .s, .v .b] (.v .b) (fun x=>Zl x.1 x.2.1) [zug] []
def zpb:FS:=Ak 230 [.v (.st 0)] (.v .b) (fun x=>Y7 x.1) [ztM] []
def zn5:FS:=IH zpb fun _=>by kernel_rfl
def zqp:FS:=Ak 148 [.v (.l (.st 0))] (.v .b) (fun x=>Zd x.1) [zrT,zrQ,zcn,zn5] []
def zsW:FS:=Ak 150 [.v (.st 0)] (.v .b) (fun x=>ZJ x.1) [] []
def zrN:FS:=IH zsW fun _=>by kernel_rfl
def zwL:FS:=Ak 68 [.v (.l (.st 0))] (.v .b) (fun x=>aP x.1) [zqp,zcn,zrN] []
def zfD:FS:=DG 163 [.v (.l (.st 3)), .fn [.st 3] .b] (.v (.i .i64)) (fun x=>Fc x.1 (fun y=>x.2.1.φ (y,()))) fun x r hp h=>Fy (f:=163) (t:=QA 3) (by kernel_rfl) (by kernel_rfl) (W6 (av:=(By tab.av (.st 3))) (cn:=3) (fun _=>⟨_,rfl,rfl⟩) h (fun y b hb=>hp.2.1 (y,()) b hb))
def zeV:FS:=DG 77 [.v (.l (.st 3)), .fn [.st 3] .b] (.v .b) (fun x=>FL x.1 (fun y=>x.2.1.φ (y,()))) fun x r hp h=>Fy (f:=77) (t:=Qz 163) (by kernel_rfl) (by kernel_rfl) (WX h fun r hr=>zfD.ok x r hp hr)
def zqQ:FS:=Ak 219 [.v .s, .v (.i .i64)] (.v .b) (fun x=>RU x.1 x.2.1) [Kk] [.sp [.i .i64]]
def ziZ:FS:=Ak 200 [.v (.l .s), .v .s] (.v (.i .i64)) (fun x=>Yw x.1 x.2.1) [] [.sp [.i .i64]]
def kZ:FS:=Ak 107 [.v (.l .s), .v .s] (.v .b) (fun x=>PB x.1 x.2.1) [ziZ] []
def zuk:FS:=Ak 55 [.v (.i .i64)] (.v .b) (fun x=>nW x.1) [Kk] []
def zrC:FS:=Ak 130 [.v (.st 3)] (.v .b) (fun x=>Zs x.1) [zqQ,Kk,zuk,kZ] [.sp [.i .i64], .sp [.i .i64]]
def zgJ:FS:=DG 220 [.v (.l (.st 2)), .fn [.st 2] .b] (.v (.i .i64)) (fun x=>Fc x.1 (fun y=>x.2.1.φ (y,()))) fun x r hp h=>Fy (f:=220) (t:=QA 3) (by kernel_rfl) (by kernel_rfl) (W6 (av:=(By tab.av (.st 2))) (cn:=3) (fun _=>⟨_,rfl,rfl⟩) h (fun y b hb=>hp.2.1 (y,()) b hb))
def zlE:FS:=Ak 221 [.v (.st 2), .rf .s] (.v .b) (fun x=>lN x.1 x.2.1) [] []
def zlv:FS:=IH zlE fun _=>by kernel_rfl
def lK:FS:=Ak 131 [.v (.st 3), .v .s] (.v (.i .i64)) (fun x=>RP x.1 x.2.1) [zgJ,zlv] []
def zv2:FS:=Ak 54 [.v (.st 3), .v .s] (.v .b) (fun x=>aO x.1 x.2.1) [zrC,lK] []
def zp7:FS:=Ak 78 [.v (.st 3), .rf (.st 5)] (.v .b) (fun x=>mD x.1 x.2.1) [zv2] []
def zoY:FS:=IH zp7 fun _=>by kernel_rfl
def zjQ:FS:=DG 164 [.v (.l (.i .i64)), .fn [.i .i64] .b] (.v (.i .i64)) (fun x=>Fc x.1 (fun y=>x.2.1.φ (y,()))) fun x r hp h=>Fy (f:=164) (t:=dM) (by kernel_rfl) (by kernel_rfl) (wD (av:=(By tab.av (.i .i64))) (fun _=>rfl) h (fun y b hb=>hp.2.1 (y,()) b hb))
def ziy:FS:=DG 79 [.v (.l (.i .i64)), .fn [.i .i64] .b] (.v .b) (fun x=>FL x.1 (fun y=>x.2.1.φ (y,()))) fun x r hp h=>Fy (f:=79) (t:=Qz 164) (by kernel_rfl) (by kernel_rfl) (WX h fun r hr=>zjQ.ok x r hp hr)
def zpr:FS:=Ak 80 [.v (.i .i64), .rf (.st 5)] (.v .b) (fun x=>mS x.1 x.2.1) [Kk] []
def zpj:FS:=IH zpr fun _=>by kernel_rfl
def mU:FS:=Ak 132 [.v (.st 3), .v .s] (.v (.st 2)) (fun x=>Nx x.1 x.2.1) [lK] []
def YW:FS:=Ak 82 [.v (.st 5), .v (.st 3)] (.v (.i .i64)) (fun x=>Ki x.1 x.2.1) [mU] []
def ze5:FS:=DG 222 [.v (.l .s)] (.v (.l .s)) (fun x=>Vi x.1) fun x r hp h=>Fy (f:=222) (t:=Tw 16 1) (by kernel_rfl) (by kernel_rfl) (cD (bytes:=16) (sz:=1) (av:=(By tab.av .s)) (fun x=>⟨K4 _ x,NL (by kernel_rfl) x⟩) h)
def zhE:FS:=DG 223 [.v (.l (.st 2))] (.v (.l (.st 2))) (fun x=>lB x.1) fun x r hp h=>Fy (f:=223) (t:=Tw 32 3) (by kernel_rfl) (by kernel_rfl) (cD (bytes:=32) (sz:=3) (av:=(By tab.av (.st 2))) (fun x=>⟨K4 _ x,NL (by kernel_rfl) x⟩) h)
def mV:FS:=Ak 133 [.v (.st 3)] (.v (.st 3)) (fun x=>Sq x.1) [ze5,zhE] []
def zlZ:FS:=Ak 134 [.v (.st 3), .v .s, .v (.i .i64)] (.v (.st 3)) (fun x=>Vk x.1 x.2.1 x.2.2.1) [mV,lK] []
def zob:FS:=Ak 56 [.v (.st 3), .v .s, .v (.i .i64)] (.v (.l (.st 3))) (fun x=>YV x.1 x.2.1 x.2.2.1) [mU,mV,zlZ] [.sp [.i .i64, .l (.st 3)], .inl]
def zcr:FS:=Ak 81 [.v (.l (.st 3)), .v (.l (.st 3)), .fn [.st 3, .st 3] .b] (.v .b) (fun x=>Yv x.1 x.2.1 (fun y0 y1=>x.2.2.1.φ (y0,y1,()))) [] [.sp [.i .i64]]
def ziY:FS:=Ak 165 [.v (.l .s), .v (.l .s)] (.v .b) (fun x=>Yz x.1 x.2.1) [] [.sp [.i .i64]]
def zhA:FS:=Ak 166 [.v (.l (.st 2)), .v (.l (.st 2))] (.v .b) (fun x=>YA x.1 x.2.1) [] [.sp [.i .i64]]
def zrP:FS:=Ak 83 [.v (.st 3), .v (.st 3)] (.v .b) (fun x=>NB x.1 x.2.1) [ziY,zhA] []
def zqo:FS:=IH zrP fun _=>by kernel_rfl
def mW:FS:=Ak 20 [.v (.st 5)] (.v .b) (fun x=>PR x.1) [Kk,zwL,zeV,zoY,ziy,zpj,YW,zob,zcr,zqo] []
def kX:FS:=DG 86 [.v (.l (.st 0))] (.v (.l (.st 0))) (fun x=>PC x.1) fun x r hp h=>Fy (f:=86) (t:=Tw 40 3) (by kernel_rfl) (by kernel_rfl) (cD (bytes:=40) (sz:=3) (av:=(By tab.av (.st 0))) (fun x=>⟨K4 _ x,NL (by kernel_rfl) x⟩) h)
def Vr:FS:=Ak 241 [.v (.st 5), .v (.i .i64)] (.v (.st 3)) (fun x=>GL x.1 x.2.1) [] []
def zo5:FS:=Ak 169 [.v (.st 5)] (.v (.i .i64)) (fun x=>Zc x.1) [Vr,YW] [.sp [.i .i64, .i .i64], .inl]
def ziA:FS:=Ak 201 [.v (.st 3), .v .s] (.v .s) (fun x=>Vj x.1 x.2.1) [] []
def zix:FS:=Ak 312 [.v .s, .v .s] (.v .b) (fun x=>Yy x.1 x.2.1) [] []
def ziv:FS:=Ak 291 [.v .s, .v .s] (.tu (.cons (.v .s) (.cons (.v .b) .nil))) (fun x=>lA x.1 x.2.1) [zix] []
def zkN:FS:=Ak 261 [.v .s, .v .s] (.tu (.cons (.v .s) (.cons (.v .b) .nil))) (fun x=>Vz x.1 x.2.1) [ziv] []
def zkV:FS:=Ak 292 [.v .s, .v .s] (.tu (.cons (.v .s) (.cons (.v .s) (.cons (.v .b) .nil)))) (fun x=>YD x.1 x.2.1) [zgb] []
def zwN:FS:=Ak 262 [.v .s, .v .s] (.tu (.cons (.v .s) (.cons (.v .s) (.cons (.v .b) .nil)))) (fun x=>SC x.1 x.2.1) [zkV] []
def zow:FS:=Ak 263 [.v .s] (.v .b) (fun x=>Sw x.1) [Kk,nJ] []
def zlg:FS:=Ak 196 [.v (.st 3), .v .s, .v .s] (.tu (.cons (.v .s) (.cons (.v .s) (.cons (.v .b) .nil)))) (fun x=>YL x.1 x.2.1 x.2.2.1) [ziA,zkN,zwN,zow] []
def Rq:FS:=Ak 102 [.v (.st 3), .v .s, .v (.l (.st 0))] (.v (.l .s)) (fun x=>KR x.1 x.2.1 x.2.2.1) [zlg] [.sp [.i .i64, .l .s], .inl]
def zte:FS:=Ak 316 [.v .s, .v .s] (.v (.i .i64)) (fun x=>Zm x.1 x.2.1) [zgb] []
def zpq:FS:=Ak 293 [.v .s, .v .s, .v (.i .i64), .v (.i .i64)] (.v (.l .s)) (fun x=>mR x.1 x.2.1 x.2.2.1 x.2.2.2.1) [zqW,zte,ztp] [.pt, .sp [.s, .i .i64, .l .s]]
def ztC:FS:=Ak 264 [.v .s, .v .s] (.v (.l .s)) (fun x=>VV x.1 x.2.1) [zpq] []
def zef:FS:=DG 202 [.v (.l .s), .fn [.s] .b] (.v (.i .i64)) (fun x=>Fc x.1 (fun y=>x.2.1.φ (y,()))) fun x r hp h=>Fy (f:=202) (t:=dM) (by kernel_rfl) (by kernel_rfl) (wD (av:=(By tab.av .s)) (fun _=>rfl) h (fun y b hb=>hp.2.1 (y,()) b hb))
def zdv:FS:=DG 109 [.v (.l .s), .fn [.s] .b] (.v .b) (fun x=>FL x.1 (fun y=>x.2.1.φ (y,()))) fun x r hp h=>Fy (f:=109) (t:=Qz 202) (by kernel_rfl) (by kernel_rfl) (WX h fun r hr=>zef.ok x r hp hr)
def zmQ:FS:=Ak 278 [.v .s] (.v .b) (fun x=>Y2 x.1) [zow] []
def zmf:FS:=IH zmQ fun _=>by kernel_rfl
def zjX:FS:=Ak 227 [.v (.st 3), .v (.st 4)] (.v .b) (fun x=>Ny x.1 x.2.1) [zdv,zmf] []
def Vl:FS:=Ak 106 [.v (.st 3), .v (.st 4)] (.v (.st 0)) (fun x=>L0 x.1 x.2.1) [zt1] []
def zmR:FS:=Ak 198 [.v (.st 3), .v (.st 0)] (.tu (.cons (.v (.st 4)) (.cons (.v .b) .nil))) (fun x=>YZ x.1 x.2.1) [zkN,ztC,zjX,Vl] []
end Go.Proofs.YtbmbkgalkfmjdaaGreatDoor
end
