/- Parts of a proof, joined: QM, QF1. -/
import Derived.Test.YtbmbkgalkfmjdaaGreatDoorY7
set_option linter.unusedVariables false
set_option linter.unusedSimpArgs false
noncomputable section
namespace Go.Proofs.YtbmbkgalkfmjdaaGreatDoor
open Go.RowKit
set_option maxRecDepth 100000
set_option maxHeartbeats 4000000
abbrev Ab:=List UInt8
def PW (a0:Ap):Option (Int × Ap):=
 if(decide (a0.bw<(a0.ax.length:Int)))then
  (getI a0.ax a0.bw).bind fun y1=>
  if(decide ((IntKind.i64.wrap (a0.bw+1))≤(a0.ax.length:Int)))then
   some ((IntKind.i64.wrap y1),(⟨a0.ax,(IntKind.i64.wrap (a0.bw+1)),(IntKind.u64.wrap ((IntKind.u64.wrap ((IntKind.u64.wrap (a0.a7*6364136223846793005))+(IntKind.u64.wrap (IntKind.i64.wrap y1))))+1442695040888963407))⟩:Ap))
  else
   some ((IntKind.i64.wrap (IntKind.u64.wrap ((BitVec.ofInt (IntKind.bits .u64) (Int.fdiv (IntKind.u64.wrap ((IntKind.u64.wrap ((IntKind.u64.wrap (a0.a7*6364136223846793005))+(IntKind.u64.wrap (IntKind.i64.wrap y1))))+1442695040888963407)) (2^(min ((40:Int)).toNat (IntKind.bits .u64))))&&&BitVec.ofInt (IntKind.bits .u64) 255).toNat:Int))),(⟨a0.ax,(IntKind.i64.wrap (a0.bw+1)),(IntKind.u64.wrap ((IntKind.u64.wrap ((IntKind.u64.wrap (a0.a7*6364136223846793005))+(IntKind.u64.wrap (IntKind.i64.wrap y1))))+1442695040888963407))⟩:Ap))
 else
  if(decide ((IntKind.i64.wrap (a0.bw+1))≤(a0.ax.length:Int)))then
   some (0,(⟨a0.ax,(IntKind.i64.wrap (a0.bw+1)),(IntKind.u64.wrap ((IntKind.u64.wrap ((IntKind.u64.wrap (a0.a7*6364136223846793005))+(IntKind.u64.wrap 0)))+1442695040888963407))⟩:Ap))
  else
   some ((IntKind.i64.wrap (IntKind.u64.wrap ((BitVec.ofInt (IntKind.bits .u64) (Int.fdiv (IntKind.u64.wrap ((IntKind.u64.wrap ((IntKind.u64.wrap (a0.a7*6364136223846793005))+(IntKind.u64.wrap 0)))+1442695040888963407)) (2^(min ((40:Int)).toNat (IntKind.bits .u64))))&&&BitVec.ofInt (IntKind.bits .u64) 255).toNat:Int))),(⟨a0.ax,(IntKind.i64.wrap (a0.bw+1)),(IntKind.u64.wrap ((IntKind.u64.wrap ((IntKind.u64.wrap (a0.a7*6364136223846793005))+(IntKind.u64.wrap 0)))+1442695040888963407))⟩:Ap))
def C5 (a0:Ap) (a1:Int):Option (Int × Ap):=
 if(decide (a1≤1))then
  some (0,a0)
 else
  (PW a0).bind fun v1=>
  if(decide (a1>200))then
   (PW v1.2).bind fun v2=>
   req (a1≠0)<|
   some ((Int.tmod (IntKind.i64.wrap ((IntKind.i64.wrap (v1.1*256))+v2.1)) a1),(⟨v2.2.ax,v2.2.bw,v2.2.a7⟩:Ap))
  else
   req (a1≠0)<|
   some ((Int.tmod v1.1 a1),(⟨v1.2.ax,v1.2.bw,v1.2.a7⟩:Ap))
def Ii (a0:Ap) (a1:List (Ab)):Option (Ab × Ap):=
 (C5 a0 (a1.length:Int)).bind fun v1=>
 (getI a1 v1.1).bind fun y2=>
 some (y2,v1.2)
def F8 (a0:Ap) (a1:Int):Option (Bool × Ap):=
 (C5 a0 a1).bind fun v1=>
 some ((v1.1==0),v1.2)
def NH (v2:Int × Ap) (v3:Int) (v7:List Au) (y8:Ab) (v9:List Int) (v10 v11:Int) (v12:Bool):Option ((Int × List Int × Int × Int × List Au) ⊕ Option (Ad × Ap)):=
 if v12 then
  (C5 (⟨v9,v10,v11⟩:Ap) (IntKind.i64.wrap (((Bn [([107]:Ab),([97]:Ab),([98]:Ab),([99,99]:Ab)] 0 (IntKind.i64.wrap ((2:Int)+v2.1))).length:Int)-1))).bind fun v13=>
  (C5 v13.2 4).bind fun v14=>
  req ((((v7).length:Int)+(([(⟨y8,(IntKind.i64.wrap ((1:Int)+v13.1)),v14.1⟩:Au)]:List Au).length:Int))*32≤140737488355328∧((v7).length:Int)+(([(⟨y8,(IntKind.i64.wrap ((1:Int)+v13.1)),v14.1⟩:Au)]:List Au).length:Int)≤140737488355328)<|
  some (.inl ((IntKind.i64.wrap (v3+1)),v14.2.ax,v14.2.bw,v14.2.a7,(v7++ [(⟨y8,(IntKind.i64.wrap ((1:Int)+v13.1)),v14.1⟩:Au)])))
 else
  some (.inl ((IntKind.i64.wrap (v3+1)),v9,v10,v11,v7))
def lX (v1:Ab × Ap) (v2:Int × Ap) (v3:Int) (v4:List Int) (v5 v6:Int) (v7:List Au):Option ((Int × List Int × Int × Int × List Au) ⊕ Option (Ad × Ap)):=
 if(decide (v3<([([105]:Ab),([106]:Ab),([109]:Ab)].length:Int)))then
  (getI [([105]:Ab),([106]:Ab),([109]:Ab)] v3).bind fun y8=>
  (F8 (⟨v4,v5,v6⟩:Ap) 3).bind fun v15=>
  if(!v15.1)then
   NH v2 v3 v7 y8 v15.2.ax v15.2.bw v15.2.a7 true
  else
   if(y8==([105]:Ab))then
    (F8 v15.2 8).bind fun v16=>
    NH v2 v3 v7 y8 v16.2.ax v16.2.bw v16.2.a7 (!v16.1)
   else
    NH v2 v3 v7 y8 v15.2.ax v15.2.bw v15.2.a7 false
 else
  some (.inr (some ((⟨v1.1,(Bn [([107]:Ab),([97]:Ab),([98]:Ab),([99,99]:Ab)] 0 (IntKind.i64.wrap ((2:Int)+v2.1))),v7⟩:Ad),(⟨v4,v5,v6⟩:Ap))))
def Jo (a0:Ap):Option (Ad × Ap):=
 (Ii a0 ([([116]:Ab),([117]:Ab)]:List (Ab))).bind fun v1=>
 (C5 v1.2 3).bind fun v2=>
 req (0≤(0:Int)∧(0:Int)≤(IntKind.i64.wrap ((2:Int)+v2.1))∧(IntKind.i64.wrap ((2:Int)+v2.1))≤(([([107]:Ab),([97]:Ab),([98]:Ab),([99,99]:Ab)]:List (Ab)).length:Int))<|
 req (((([]:List (Ab)).length:Int)+(((Bn [([107]:Ab),([97]:Ab),([98]:Ab),([99,99]:Ab)] 0 (IntKind.i64.wrap ((2:Int)+v2.1)))).length:Int))*16≤140737488355328∧(([]:List (Ab)).length:Int)+(((Bn [([107]:Ab),([97]:Ab),([98]:Ab),([99,99]:Ab)] 0 (IntKind.i64.wrap ((2:Int)+v2.1)))).length:Int)≤140737488355328)<|
 Ay (fun s:Int × List Int × Int × Int × List Au=>lX v1 v2 s.1 s.2.1 s.2.2.1 s.2.2.2.1 s.2.2.2.2) (0,v2.2.ax,v2.2.bw,v2.2.a7, [])
def SO (a0:Ad):Option (Ad):=
 req (((([]:List (Ab)).length:Int)+((a0.ar).length:Int))*16≤140737488355328∧(([]:List (Ab)).length:Int)+((a0.ar).length:Int)≤140737488355328)<|
 req (((([]:List Au).length:Int)+((a0.ah).length:Int))*32≤140737488355328∧(([]:List Au).length:Int)+((a0.ah).length:Int)≤140737488355328)<|
 some a0
def nM (a0:Ad) (a1:Ab) (v1:Int):Option ((Int) ⊕ Option (Int)):=
 if(decide (v1<(a0.ah.length:Int)))then
  (getI a0.ah v1).bind fun y2=>
  if(y2.ae==a1)then
   some (.inr (some v1))
  else
   some (.inl (IntKind.i64.wrap (v1+1)))
 else
  some (.inr (some (-1)))
def GQ (a0:Ad) (a1:Ab):Option (Int):=
 Ay (fun s:Int=>nM a0 a1 s) 0
def SQ (a0:Ad) (a1:Ab) (a2:Int):Option (Ad):=
 (SO a0).bind fun v1=>
 (GQ a0 a1).bind fun v2=>
 (getI v1.ah v2).bind fun y3=>
 some (⟨v1.ae,v1.ar,(v1.ah.set (v2).toNat {y3 with aq:=a2})⟩:Ad)
def ziJ (a1:Ad) (v2:List Int) (v3 v4:Int) (v5:List (Ab)):Option ((List Int × Int × Int × List (Ab)) ⊕ Option (AE × Ap)):=
 if(decide ((v5.length:Int)<(a1.ar.length:Int)))then
  (Ii (⟨v2,v3,v4⟩:Ap) ([([120]:Ab),([121]:Ab),([120]:Ab),([48]:Ab),([97,98,99]:Ab)]:List (Ab))).bind fun v6=>
  req ((((v5).length:Int)+(([v6.1]:List (Ab)).length:Int))*16≤140737488355328∧((v5).length:Int)+(([v6.1]:List (Ab)).length:Int)≤140737488355328)<|
  some (.inl (v6.2.ax,v6.2.bw,v6.2.a7,(v5++ [v6.1])))
 else
  some (.inr (some ((⟨v5⟩:AE),(⟨v2,v3,v4⟩:Ap))))
def NK (a0:Ap) (a1:Ad):Option (AE × Ap):=
 (Ii a0 ([([49]:Ab),([50]:Ab),([51]:Ab),([97]:Ab),([122,122]:Ab),([97,98,99]:Ab)]:List (Ab))).bind fun v1=>
 Ay (fun s:List Int × Int × Int × List (Ab)=>ziJ a1 s.1 s.2.1 s.2.2.1 s.2.2.2) (v1.2.ax,v1.2.bw,v1.2.a7, [v1.1])
def SC (a0:List (Ab)) (a1 v1:Ab) (v2:Int):Option ((Ab × Int) ⊕ Option (Ab)):=
 if(decide (v2<(a0.length:Int)))then
  (getI a0 v2).bind fun y3=>
  if(decide (v2>0))then
   req ((v1).length+(a1).length≤9223372036854775807)<|
   req (((v1++a1)).length+(y3).length≤9223372036854775807)<|
   some (.inl (((v1++a1)++y3),(IntKind.i64.wrap (v2+1))))
  else
   req ((v1).length+(y3).length≤9223372036854775807)<|
   some (.inl ((v1++y3),(IntKind.i64.wrap (v2+1))))
 else
  some (.inr (some v1))
def oK (a0:List (Ab)) (a1:Ab):Option (Ab):=
 Ay (fun s:Ab × Int=>SC a0 a1 s.1 s.2) (([]:Ab),0)
def IQ (a0:Ad) (a1:AE):Option (Ac):=
 req ((a0.ae).length+(([47]:Ab)).length≤9223372036854775807)<|
 (getI a1.ay 0).bind fun y1=>
 req (((a0.ae++([47]:Ab))).length+(y1).length≤9223372036854775807)<|
 req (0≤(1:Int)∧(1:Int)≤(a1.ay.length:Int)∧(a1.ay.length:Int)≤(a1.ay.length:Int))<|
 (oK (Bn a1.ay 1 (a1.ay.length:Int)) ([44]:Ab)).bind fun v2=>
 some (⟨((a0.ae++([47]:Ab))++y1),v2,false⟩:Ac)
def ZK (a0:List Ac) (a1:Ac) (v1:Int):Option (List Ac):=
 if(decide (v1>0))then
  (getI a0 (IntKind.i64.wrap (v1-1))).bind fun y2=>
  if(y2.af==a1.af)then
   req (((([]:List Ac).length:Int)+((a0).length:Int))*40≤140737488355328∧(([]:List Ac).length:Int)+((a0).length:Int)≤140737488355328)<|
   (getI a0 (IntKind.i64.wrap (v1-1))).bind fun y3=>
   some (a0.set ((IntKind.i64.wrap (v1-1))).toNat a1)
  else
   req (0≤v1∧v1≤(a0.length:Int)∧(a0.length:Int)≤(a0.length:Int))<|
   req (((([]:List Ac).length:Int)+(((Bn a0 v1 (a0.length:Int))).length:Int))*40≤140737488355328∧(([]:List Ac).length:Int)+(((Bn a0 v1 (a0.length:Int))).length:Int)≤140737488355328)<|
   req (0≤(0:Int)∧(0:Int)≤v1∧v1≤(a0.length:Int))<|
   req (((([]:List Ac).length:Int)+(((Bn a0 0 v1)).length:Int))*40≤140737488355328∧(([]:List Ac).length:Int)+(((Bn a0 0 v1)).length:Int)≤140737488355328)<|
   req (((((Bn a0 0 v1)).length:Int)+(([a1]:List Ac).length:Int))*40≤140737488355328∧(((Bn a0 0 v1)).length:Int)+(([a1]:List Ac).length:Int)≤140737488355328)<|
   req ((((((Bn a0 0 v1)++ [a1])).length:Int)+(((Bn a0 v1 (a0.length:Int))).length:Int))*40≤140737488355328∧((((Bn a0 0 v1)++ [a1])).length:Int)+(((Bn a0 v1 (a0.length:Int))).length:Int)≤140737488355328)<|
   some (((Bn a0 0 v1)++ [a1])++(Bn a0 v1 (a0.length:Int)))
 else
  req (0≤v1∧v1≤(a0.length:Int)∧(a0.length:Int)≤(a0.length:Int))<|
  req (((([]:List Ac).length:Int)+(((Bn a0 v1 (a0.length:Int))).length:Int))*40≤140737488355328∧(([]:List Ac).length:Int)+(((Bn a0 v1 (a0.length:Int))).length:Int)≤140737488355328)<|
  req (0≤(0:Int)∧(0:Int)≤v1∧v1≤(a0.length:Int))<|
  req (((([]:List Ac).length:Int)+(((Bn a0 0 v1)).length:Int))*40≤140737488355328∧(([]:List Ac).length:Int)+(((Bn a0 0 v1)).length:Int)≤140737488355328)<|
  req (((((Bn a0 0 v1)).length:Int)+(([a1]:List Ac).length:Int))*40≤140737488355328∧(((Bn a0 0 v1)).length:Int)+(([a1]:List Ac).length:Int)≤140737488355328)<|
  req ((((((Bn a0 0 v1)++ [a1])).length:Int)+(((Bn a0 v1 (a0.length:Int))).length:Int))*40≤140737488355328∧((((Bn a0 0 v1)++ [a1])).length:Int)+(((Bn a0 v1 (a0.length:Int))).length:Int)≤140737488355328)<|
  some (((Bn a0 0 v1)++ [a1])++(Bn a0 v1 (a0.length:Int)))
def P0 (a0:List Ac) (a1:Ac) (v4:Int):Option ((Int) ⊕ Option (List Ac)):=
 if(decide (v4>0))then
  (getI a0 (IntKind.i64.wrap (v4-1))).bind fun y5=>
  if(!(Op.bytesLess y5.af a1.af||y5.af==a1.af))then
   some (.inl (IntKind.i64.wrap (v4-1)))
  else
   some (.inr (ZK a0 a1 v4))
 else
  some (.inr (ZK a0 a1 v4))
def G8 (a0:List Ac) (a1:Ac):Option (List Ac):=
 Ay (fun s:Int=>P0 a0 a1 s) (a0.length:Int)
def mT (a0:Ab) (v1:Int) (v2:List (Ab)):Option (List (Ab)):=
 req (0≤v1∧v1≤(a0.length:Int)∧(a0.length:Int)≤(a0.length:Int))<|
 req ((((v2).length:Int)+(([(Bn a0 v1 (a0.length:Int))]:List (Ab)).length:Int))*16≤140737488355328∧((v2).length:Int)+(([(Bn a0 v1 (a0.length:Int))]:List (Ab)).length:Int)≤140737488355328)<|
 some (v2++ [(Bn a0 v1 (a0.length:Int))])
def R3 (a0:Ab) (a1:Int) (v3:List (Ab)) (v4 v5:Int):Option ((List (Ab) × Int × Int) ⊕ Option (List (Ab))):=
 if(decide (v5<(a0.length:Int)))then
  (getI a0 v5).bind fun y6=>
  if((y6.toNat:Int)==a1)then
   req (0≤v4∧v4≤v5∧v5≤(a0.length:Int))<|
   req ((((v3).length:Int)+(([(Bn a0 v4 v5)]:List (Ab)).length:Int))*16≤140737488355328∧((v3).length:Int)+(([(Bn a0 v4 v5)]:List (Ab)).length:Int)≤140737488355328)<|
   some (.inl ((v3++ [(Bn a0 v4 v5)]),(IntKind.i64.wrap (v5+1)),(IntKind.i64.wrap (v5+1))))
  else
   some (.inl (v3,v4,(IntKind.i64.wrap (v5+1))))
 else
  some (.inr (mT a0 v4 v3))
def P4 (a0:Ab) (a1:Int):Option (List (Ab)):=
 Ay (fun s:List (Ab) × Int × Int=>R3 a0 a1 s.1 s.2.1 s.2.2) ([],0,0)
def Ga (a0 a1 a2:Int):Option (Bool):=
 some ((decide (a0≥a1))&&(decide (a0≤a2)))
def nC (v1:Int) (v3:Bool):Option ((Int) ⊕ Option (Bool)):=
 if(!v3)then
  some (.inr (some false))
 else
  some (.inl (IntKind.i64.wrap (v1+1)))
def V1 (a1:Ab) (v1:Int) (y2:UInt8) (v4:Bool) (v5:Int):Option ((Bool × Int) ⊕ Option ((Int) ⊕ Option (Bool))):=
 if(decide (v5<(a1.length:Int)))then
  if v4 then
   some (.inl (true,(IntKind.i64.wrap (v5+1))))
  else
   (getI a1 v5).bind fun y6=>
   some (.inl (((y2.toNat:Int)==(y6.toNat:Int)),(IntKind.i64.wrap (v5+1))))
 else
  some (.inr (nC v1 v4))
def mW (a0 a1:Ab) (v1:Int):Option ((Int) ⊕ Option (Bool)):=
 if(decide (v1<(a0.length:Int)))then
  (getI a0 v1).bind fun y2=>
  Ay (fun s:Bool × Int=>V1 a1 v1 y2 s.1 s.2) ((((decide ((y2.toNat:Int)≥97))&&(decide ((y2.toNat:Int)≤122)))||((decide ((y2.toNat:Int)≥48))&&(decide ((y2.toNat:Int)≤57)))),0)
 else
  some (.inr (some true))
def SE (a0 a1:Ab):Option (Bool):=
 Ay (fun s:Int=>mW a0 a1 s) 0
def SM (a0:Ab):Option (Bool):=
 (Ga (a0.length:Int) 1 3).bind fun v1=>
 if v1 then
  (SE a0 ([]:Ab)).bind fun v2=>
  some v2
 else
  some false
def mX (a0:Ad) (a1:AE):Option (Bool):=
 some ((a1.ay.length:Int)==(a0.ar.length:Int))
def mU (a0:Ad) (a1:AE) (v1:Int):Option ((Int) ⊕ Option (Bool)):=
 if(decide (v1<(a1.ay.length:Int)))then
  (getI a1.ay v1).bind fun y2=>
  (SM y2).bind fun v3=>
  if(!v3)then
   some (.inr (some false))
  else
   some (.inl (IntKind.i64.wrap (v1+1)))
 else
  some (.inr (mX a0 a1))
def NS (a0:Ad) (a1:AE):Option (Bool):=
 Ay (fun s:Int=>mU a0 a1 s) 0
def ZZ (a0:Ad) (a1:Ac):Option (AE × Bool):=
 if(decide ((a1.af.length:Int)<3))then
  some ((⟨[]⟩:AE),false)
 else
  req (0≤(2:Int)∧(2:Int)≤(a1.af.length:Int)∧(a1.af.length:Int)≤(a1.af.length:Int))<|
  (P4 a1.bb 44).bind fun v1=>
  req (((([(Bn a1.af 2 (a1.af.length:Int))]:List (Ab)).length:Int)+((v1).length:Int))*16≤140737488355328∧(([(Bn a1.af 2 (a1.af.length:Int))]:List (Ab)).length:Int)+((v1).length:Int)≤140737488355328)<|
  (NS a0 (⟨([(Bn a1.af 2 (a1.af.length:Int))]++v1)⟩:AE)).bind fun v2=>
  if v2 then
   (IQ a0 (⟨([(Bn a1.af 2 (a1.af.length:Int))]++v1)⟩:AE)).bind fun v3=>
   some ((⟨([(Bn a1.af 2 (a1.af.length:Int))]++v1)⟩:AE),(v3.af==a1.af&&(v3.bb==a1.bb&&(v3.bh==a1.bh))))
  else
   some ((⟨([(Bn a1.af 2 (a1.af.length:Int))]++v1)⟩:AE),false)
def Sz (a0:Ad) (a1:List Ac) (v1:List AE) (v2:Int):Option ((List AE × Int) ⊕ Option (List AE)):=
 if(decide (v2<(a1.length:Int)))then
  (getI a1 v2).bind fun y3=>
  (ZZ a0 y3).bind fun v4=>
  if v4.2 then
   req ((((v1).length:Int)+(([v4.1]:List AE).length:Int))*24≤140737488355328∧((v1).length:Int)+(([v4.1]:List AE).length:Int)≤140737488355328)<|
   some (.inl ((v1++ [v4.1]),(IntKind.i64.wrap (v2+1))))
  else
   some (.inl (v1,(IntKind.i64.wrap (v2+1))))
 else
  some (.inr (some v1))
def Jp (a0:Ad) (a1:List Ac):Option (List AE):=
 Ay (fun s:List AE × Int=>Sz a0 a1 s.1 s.2) ([],0)
def IS (a0:Ad) (a1:Au) (a2:AE):Option (Ab):=
 req ((a0.ae).length+(([46]:Ab)).length≤9223372036854775807)<|
 req (((a0.ae++([46]:Ab))).length+(a1.ae).length≤9223372036854775807)<|
 req ((((a0.ae++([46]:Ab))++a1.ae)).length+(([47]:Ab)).length≤9223372036854775807)<|
 (getI a2.ay a1.bj).bind fun y1=>
 req (((((a0.ae++([46]:Ab))++a1.ae)++([47]:Ab))).length+(y1).length≤9223372036854775807)<|
 req ((((((a0.ae++([46]:Ab))++a1.ae)++([47]:Ab))++y1)).length+(([47]:Ab)).length≤9223372036854775807)<|
 (getI a2.ay 0).bind fun y2=>
 req (((((((a0.ae++([46]:Ab))++a1.ae)++([47]:Ab))++y1)++([47]:Ab))).length+(y2).length≤9223372036854775807)<|
 some ((((((a0.ae++([46]:Ab))++a1.ae)++([47]:Ab))++y1)++([47]:Ab))++y2)
def Zk (a0:Ap):Option (Ab × Ap):=
 (Ii a0 ([([97]:Ab),([98]:Ab),([99]:Ab),([109]:Ab),([110]:Ab),([122]:Ab),([114,47,49]:Ab),([105,47,120,47,49]:Ab)]:List (Ab))).bind fun v1=>
 some (v1.1,v1.2)
def Zf (a0:Ap):Option (Ab × Ap):=
 (Ii a0 ([([]:Ab),([49]:Ab),([55]:Ab),([49,48]:Ab),([45,51]:Ab),([120]:Ab),([97,44,98,95,99]:Ab)]:List (Ab))).bind fun v1=>
 some (v1.1,v1.2)
def lZ (v6:List Int) (v7 v8:Int) (v9:List Ac):Option (List Ac × Ap):=
 (F8 (⟨v6,v7,v8⟩:Ap) 6).bind fun v10=>
 if v10.1 then
  (Zk v10.2).bind fun v11=>
  (Zf v11.2).bind fun v12=>
  (G8 v9 (⟨v11.1,v12.1,false⟩:Ac)).bind fun v13=>
  some (v13,(⟨v12.2.ax,v12.2.bw,v12.2.a7⟩:Ap))
 else
  some (v9,(⟨v10.2.ax,v10.2.bw,v10.2.a7⟩:Ap))
def lW (a1:Ad) (v14:Int) (y19:Au) (v21:List Int) (v22 v23:Int) (v24:List Ac):Option ((Int × List Int × Int × Int × List Ac) ⊕ Option (List Ac × Ap)):=
 (F8 (⟨v21,v22,v23⟩:Ap) 5).bind fun v25=>
 if v25.1 then
  (NK v25.2 a1).bind fun v26=>
  (IS a1 y19 v26.1).bind fun v27=>
  (G8 v24 (⟨v27,([]:Ab),false⟩:Ac)).bind fun v28=>
  some (.inl ((IntKind.i64.wrap (v14+1)),v26.2.ax,v26.2.bw,v26.2.a7,v28))
 else
  some (.inl ((IntKind.i64.wrap (v14+1)),v25.2.ax,v25.2.bw,v25.2.a7,v24))
def zhL (a1:Ad) (v14:Int) (y19:Au) (v20:List AE) (v29:Int) (v30:List Int) (v31 v32:Int) (v33:List Ac):Option ((Int × List Int × Int × Int × List Ac) ⊕ Option ((Int × List Int × Int × Int × List Ac) ⊕ Option (List Ac × Ap))):=
 if(decide (v29<(v20.length:Int)))then
  (getI v20 v29).bind fun y34=>
  (F8 (⟨v30,v31,v32⟩:Ap) 5).bind fun v35=>
  if(!v35.1)then
   (IS a1 y19 y34).bind fun v36=>
   (G8 v33 (⟨v36,([]:Ab),false⟩:Ac)).bind fun v37=>
   some (.inl ((IntKind.i64.wrap (v29+1)),v35.2.ax,v35.2.bw,v35.2.a7,v37))
  else
   some (.inl ((IntKind.i64.wrap (v29+1)),v35.2.ax,v35.2.bw,v35.2.a7,v33))
 else
  some (.inr (lW a1 v14 y19 v30 v31 v32 v33))
def zhO (a1:Ad) (v14:Int) (v15:List Int) (v16 v17:Int) (v18:List Ac):Option ((Int × List Int × Int × Int × List Ac) ⊕ Option (List Ac × Ap)):=
 if(decide (v14<(a1.ah.length:Int)))then
  (getI a1.ah v14).bind fun y19=>
  (Jp a1 v18).bind fun v20=>
  Ay (fun s:Int × List Int × Int × Int × List Ac=>zhL a1 v14 y19 v20 s.1 s.2.1 s.2.2.1 s.2.2.2.1 s.2.2.2.2) (0,v15,v16,v17,v18)
 else
  some (.inr (lZ v15 v16 v17 v18))
def lY (a1:Ad) (v2:List Int) (v3 v4:Int) (v5:List Ac):Option (List Ac × Ap):=
 Ay (fun s:Int × List Int × Int × Int × List Ac=>zhO a1 s.1 s.2.1 s.2.2.1 s.2.2.2.1 s.2.2.2.2) (0,v2,v3,v4,v5)
def zhM (a1:Ad) (v38:List Ac) (v39:Int) (v40:List Int) (v41 v42:Int):Option ((List Ac × Int × List Int × Int × Int) ⊕ Option (List Ac × Ap)):=
 if(decide (v39>0))then
  (NK (⟨v40,v41,v42⟩:Ap) a1).bind fun v43=>
  (IQ a1 v43.1).bind fun v44=>
  (G8 v38 v44).bind fun v45=>
  some (.inl (v45,(IntKind.i64.wrap (v39-1)),v43.2.ax,v43.2.bw,v43.2.a7))
 else
  some (.inr (lY a1 v40 v41 v42 v38))
def Y4 (a0:Ap) (a1:Ad):Option (List Ac × Ap):=
 (C5 a0 5).bind fun v1=>
 Ay (fun s:List Ac × Int × List Int × Int × Int=>zhM a1 s.1 s.2.1 s.2.2.1 s.2.2.2.1 s.2.2.2.2) ([],v1.1,v1.2.ax,v1.2.bw,v1.2.a7)
def mD (a0:Ab) (a1:Int):Option (Bool):=
 some ((decide ((a0.length:Int)≥1))&&(decide ((a0.length:Int)≤a1)))
def mA (a0:Ab) (a1 v1:Int):Option ((Int) ⊕ Option (Bool)):=
 if(decide (v1<(a0.length:Int)))then
  (getI a0 v1).bind fun y2=>
  if((decide ((y2.toNat:Int)<97))||(decide ((y2.toNat:Int)>122)))then
   some (.inr (some false))
  else
   some (.inl (IntKind.i64.wrap (v1+1)))
 else
  some (.inr (mD a0 a1))
def R2 (a0:Ab) (a1:Int):Option (Bool):=
 Ay (fun s:Int=>mA a0 a1 s) 0
def nY (a0:List (Ab)) (a1:Ab) (v1:Int):Option ((Int) ⊕ Option (Int)):=
 if(decide (v1<(a0.length:Int)))then
  (getI a0 v1).bind fun y2=>
  if(y2==a1)then
   some (.inr (some v1))
  else
   some (.inl (IntKind.i64.wrap (v1+1)))
 else
  some (.inr (some (-1)))
def Qc (a0:List (Ab)) (a1:Ab):Option (Int):=
 Ay (fun s:Int=>nY a0 a1 s) 0
def mY (a0:List (Ab)):Option (Bool):=
 (Ga (a0.length:Int) 2 4).bind fun v1=>
 some v1
def mZ (a0:List (Ab)) (v2:Int):Option ((Int) ⊕ Option (Bool)):=
 if(decide (v2<(a0.length:Int)))then
  (getI a0 v2).bind fun y3=>
  (R2 y3 3).bind fun v4=>
  if v4 then
   req (0≤(0:Int)∧(0:Int)≤v2∧v2≤(a0.length:Int))<|
   (Qc (Bn a0 0 v2) y3).bind fun v5=>
   if(decide (v5≥0))then
    some (.inr (some false))
   else
    some (.inl (IntKind.i64.wrap (v2+1)))
  else
   some (.inr (some false))
 else
  some (.inr (mY a0))
def aG (a0:List (Ab)):Option (Bool):=
 Ay (fun s:Int=>mZ a0 s) 0
def Zm (a0:Ad) (v3:Int):Option ((Int) ⊕ Option (Bool)):=
 if(decide (v3<(a0.ah.length:Int)))then
  (getI a0.ah v3).bind fun y4=>
  (R2 y4.ae 1).bind fun v5=>
  if v5 then
   (Ga y4.bj 1 (IntKind.i64.wrap ((a0.ar.length:Int)-1))).bind fun v6=>
   if v6 then
    (Ga y4.aq 0 3).bind fun v7=>
    if(decide (v3>0))then
     if v7 then
      (getI a0.ah (IntKind.i64.wrap (v3-1))).bind fun y8=>
      if(!Op.bytesLess y8.ae y4.ae)then
       some (.inr (some false))
      else
       some (.inl (IntKind.i64.wrap (v3+1)))
     else
      some (.inr (some false))
    else
     if((!v7)||false)then
      some (.inr (some false))
     else
      some (.inl (IntKind.i64.wrap (v3+1)))
   else
    some (.inr (some false))
  else
   some (.inr (some false))
 else
  some (.inr (some true))
def Mk (a0:Ad):Option (Bool):=
 (R2 a0.ae 1).bind fun v1=>
 if v1 then
  (aG a0.ar).bind fun v2=>
  if((!v2)||(decide ((a0.ah.length:Int)>3)))then
   some false
  else
   Ay (fun s:Int=>Zm a0 s) 0
 else
  some false
def ZU (a0:Ad) (a1:Ab) (a2:Int):Option (Bool):=
 (Mk a0).bind fun v1=>
 if v1 then
  (GQ a0 a1).bind fun v2=>
  if(decide (v2≥0))then
   (Ga a2 0 3).bind fun v3=>
   some v3
  else
   some false
 else
  some false
def SZ (a0:Ab):Option (Bool):=
 (Ga (a0.length:Int) 1 12).bind fun v1=>
 if v1 then
  (SE a0 ([46,47]:Ab)).bind fun v2=>
  some v2
 else
  some false
def Wn (a0:Ab):Option (Bool):=
 if(decide ((a0.length:Int)≤24))then
  (SE a0 ([46,45,44,95]:Ab)).bind fun v1=>
  some v1
 else
  some false
def Z9 (a0 a1:Ab) (a2:Bool):Option (Bool):=
 (SZ a0).bind fun v1=>
 if v1 then
  (Wn a1).bind fun v2=>
  some (v2&&((!a2)||(a1==([]:Ab))))
 else
  some false
def mQ (a0:List Ac):Option (Bool):=
 some (decide ((a0.length:Int)≤24))
def nD (a0:List Ac) (v1:Int):Option ((Int) ⊕ Option (Bool)):=
 if(decide (v1<(a0.length:Int)))then
  (getI a0 v1).bind fun y2=>
  (Z9 y2.af y2.bb y2.bh).bind fun v3=>
  if(decide (v1>0))then
   if v3 then
    (getI a0 (IntKind.i64.wrap (v1-1))).bind fun y4=>
    if(!Op.bytesLess y4.af y2.af)then
     some (.inr (some false))
    else
     some (.inl (IntKind.i64.wrap (v1+1)))
   else
    some (.inr (some false))
  else
   if((!v3)||false)then
    some (.inr (some false))
   else
    some (.inl (IntKind.i64.wrap (v1+1)))
 else
  some (.inr (mQ a0))
def ZR (a0:List Ac):Option (Bool):=
 Ay (fun s:Int=>nD a0 s) 0
def nR (a0:List Ac):Option (Bool):=
 (ZR a0).bind fun v1=>
 some v1
def nQ (a0:List Ac) (v2:Int):Option ((Int) ⊕ Option (Bool)):=
 if(decide (v2<(a0.length:Int)))then
  (getI a0 v2).bind fun y3=>
  if y3.bh then
   some (.inr (some false))
  else
   some (.inl (IntKind.i64.wrap (v2+1)))
 else
  some (.inr (nR a0))
def K6 (a0:List Ac):Option (Bool):=
 Ay (fun s:Int=>nQ a0 s) 0
def VQ (a0:Ad) (a1:Ab) (a2 v4:Int) (v5:List Ad):Option ((Int × List Ad) ⊕ Option (List Ad)):=
 if(v4 !=a2)then
  if(decide (v4<a2))then
   (SQ a0 a1 (IntKind.i64.wrap (v4+1))).bind fun v6=>
   req ((((v5).length:Int)+(([v6]:List Ad).length:Int))*64≤140737488355328∧((v5).length:Int)+(([v6]:List Ad).length:Int)≤140737488355328)<|
   some (.inl ((IntKind.i64.wrap (v4+1)),(v5++ [v6])))
  else
   (SQ a0 a1 (IntKind.i64.wrap (v4-1))).bind fun v7=>
   req ((((v5).length:Int)+(([v7]:List Ad).length:Int))*64≤140737488355328∧((v5).length:Int)+(([v7]:List Ad).length:Int)≤140737488355328)<|
   some (.inl ((IntKind.i64.wrap (v4-1)),(v5++ [v7])))
 else
  some (.inr (some v5))
def Wm (a0:Ad) (a1:Ab) (a2:Int):Option (List Ad):=
 (SO a0).bind fun v1=>
 (GQ a0 a1).bind fun v2=>
 (getI a0.ah v2).bind fun y3=>
 Ay (fun s:Int × List Ad=>VQ a0 a1 a2 s.1 s.2) (y3.aq, [v1])
def bA (a0:List Int):Option (List Int):=
 req (((([]:List Int).length:Int)+((a0).length:Int))*8≤140737488355328∧(([]:List Int).length:Int)+((a0).length:Int)≤140737488355328)<|
 some a0
def Su (a0:Aq) (v1:List Int) (v2:Int) (v3:List Ad):Option ((Int × List Ad) ⊕ Option (Aq)):=
 if(decide (v2<(a0.aj.length:Int)))then
  (getI a0.aj v2).bind fun y4=>
  (SO y4).bind fun v5=>
  req ((((v3).length:Int)+(([v5]:List Ad).length:Int))*64≤140737488355328∧((v3).length:Int)+(([v5]:List Ad).length:Int)≤140737488355328)<|
  some (.inl ((IntKind.i64.wrap (v2+1)),(v3++ [v5])))
 else
  some (.inr (some (⟨a0.ae,v3,v1,a0.ao⟩:Aq)))
def SS (a0:Aq):Option (Aq):=
 (bA a0.bp).bind fun v1=>
 req (((([]:List Ac).length:Int)+((a0.ao).length:Int))*40≤140737488355328∧(([]:List Ac).length:Int)+((a0.ao).length:Int)≤140737488355328)<|
 Ay (fun s:Int × List Ad=>Su a0 v1 s.1 s.2) (0, [])
def ZP (a0:Ad) (a1:Ab) (a2 a3:Int) (a4:List Ac):Option (Aq × Bool):=
 (ZU a0 a1 a2).bind fun v1=>
 if v1 then
  (Ga a3 1 3).bind fun v2=>
  if v2 then
   (K6 a4).bind fun v3=>
   if(!v3)then
    some ((⟨([]:Ab), [], [], []⟩:Aq),false)
   else
    (Wm a0 a1 a2).bind fun v4=>
    req (0≤a3∧a3*8≤140737488355328∧a3≤140737488355328)<|
    (SS (⟨a1,v4,(List.replicate (a3).toNat 0),a4⟩:Aq)).bind fun v5=>
    some (v5,true)
  else
   some ((⟨([]:Ab), [], [], []⟩:Aq),false)
 else
  some ((⟨([]:Ab), [], [], []⟩:Aq),false)
def aB (a0 a1:Int):Option (Int):=
 if(decide (a0<a1))then
  some a0
 else
  some a1
def Sh (a0:Aq) (v1:List Int) (v2:Int):Option ((List Int × Int) ⊕ Option (List Int)):=
 if(decide (v2<(a0.bp.length:Int)))then
  (getI a0.bp v2).bind fun y3=>
  (getI a0.aj y3).bind fun y4=>
  (GQ y4 a0.ae).bind fun v5=>
  (getI y4.ah v5).bind fun y6=>
  req ((((v1).length:Int)+(([y6.aq]:List Int).length:Int))*8≤140737488355328∧((v1).length:Int)+(([y6.aq]:List Int).length:Int)≤140737488355328)<|
  some (.inl ((v1++ [y6.aq]),(IntKind.i64.wrap (v2+1))))
 else
  some (.inr (some v1))
def Ml (a0:Aq):Option (List Int):=
 Ay (fun s:List Int × Int=>Sh a0 s.1 s.2) ([],0)
def SL (a0:List Int) (a1 v1:Int):Option ((Int) ⊕ Option (Bool)):=
 if(decide (v1<(a0.length:Int)))then
  (getI a0 v1).bind fun y2=>
  if(y2==a1)then
   some (.inr (some true))
  else
   some (.inl (IntKind.i64.wrap (v1+1)))
 else
  some (.inr (some false))
def Wo (a0:List Int) (a1:Int):Option (Bool):=
 Ay (fun s:Int=>SL a0 a1 s) 0
def Wk (a0:Aq):Option (Int):=
 (Ml a0).bind fun v1=>
 (Wo v1 3).bind fun v2=>
 if v2 then
  some 2
 else
  (Wo v1 0).bind fun v3=>
  if v3 then
   some 0
  else
   some 1
def Se (a0:Ad) (a1:Ab) (v1:List AE) (v2:List (Ab)) (v3:Int):Option ((List (Ab) × Int) ⊕ Option (List (Ab))):=
 if(decide (v3<(v1.length:Int)))then
  (getI v1 v3).bind fun y4=>
  (GQ a0 a1).bind fun v5=>
  (getI a0.ah v5).bind fun y6=>
  (IS a0 y6 y4).bind fun v7=>
  req ((((v2).length:Int)+(([v7]:List (Ab)).length:Int))*16≤140737488355328∧((v2).length:Int)+(([v7]:List (Ab)).length:Int)≤140737488355328)<|
  some (.inl ((v2++ [v7]),(IntKind.i64.wrap (v3+1))))
 else
  some (.inr (some v2))
def Sq (a0:Ad) (a1:Ab) (a2:List Ac):Option (List (Ab)):=
 (Jp a0 a2).bind fun v1=>
 Ay (fun s:List (Ab) × Int=>Se a0 a1 v1 s.1 s.2) ([],0)
def lV (v11:List Ac × Ap) (v16:Aq × Bool) (v21 v24:List Int) (v25 v26:Int) (v27:List Ac):Option (Aq × Ap):=
 (F8 (⟨v24,v25,v26⟩:Ap) 7).bind fun v28=>
 if v28.1 then
  some ((⟨v16.1.ae,v16.1.aj,v21,v11.1⟩:Aq),(⟨v28.2.ax,v28.2.bw,v28.2.a7⟩:Ap))
 else
  some ((⟨v16.1.ae,v16.1.aj,v21,v27⟩:Aq),(⟨v28.2.ax,v28.2.bw,v28.2.a7⟩:Ap))
def zhe (v11:List Ac × Ap) (v16:Aq × Bool) (v21:List Int) (v22:Int) (v23:List (Ab)) (v29:Int) (v30:List Int) (v31 v32:Int) (v33:List Ac):Option ((Int × List Int × Int × Int × List Ac) ⊕ Option (Aq × Ap)):=
 if(decide (v29<(v23.length:Int)))then
  (getI v23 v29).bind fun y34=>
  if(v22==2)then
   if true then
    (G8 v33 (⟨y34,([]:Ab),false⟩:Ac)).bind fun v35=>
    some (.inl ((IntKind.i64.wrap (v29+1)),v30,v31,v32,v35))
   else
    some (.inl ((IntKind.i64.wrap (v29+1)),v30,v31,v32,v33))
  else
   if(v22==1)then
    (F8 (⟨v30,v31,v32⟩:Ap) 2).bind fun v36=>
    if v36.1 then
     (G8 v33 (⟨y34,([]:Ab),false⟩:Ac)).bind fun v37=>
     some (.inl ((IntKind.i64.wrap (v29+1)),v36.2.ax,v36.2.bw,v36.2.a7,v37))
    else
     some (.inl ((IntKind.i64.wrap (v29+1)),v36.2.ax,v36.2.bw,v36.2.a7,v33))
   else
    if false then
     (G8 v33 (⟨y34,([]:Ab),false⟩:Ac)).bind fun v38=>
     some (.inl ((IntKind.i64.wrap (v29+1)),v30,v31,v32,v38))
    else
     some (.inl ((IntKind.i64.wrap (v29+1)),v30,v31,v32,v33))
 else
  some (.inr (lV v11 v16 v21 v30 v31 v32 v33))
def lU (y8:Au) (v10:Ad) (v11:List Ac × Ap) (v13:List Ac) (v16:Aq × Bool) (v18:List Int) (v19 v20:Int) (v21:List Int):Option (Aq × Ap):=
 (Wk (⟨v16.1.ae,v16.1.aj,v21,v16.1.ao⟩:Aq)).bind fun v22=>
 (Sq v10 y8.ae v13).bind fun v23=>
 Ay (fun s:Int × List Int × Int × Int × List Ac=>zhe v11 v16 v21 v22 v23 s.1 s.2.1 s.2.2.1 s.2.2.2.1 s.2.2.2.2) (0,v18,v19,v20,v16.1.ao)
def zg5 (y8:Au) (v10:Ad) (v11:List Ac × Ap) (v13:List Ac) (v16:Aq × Bool) (v17:Int × Ap) (v39:Int) (v40:List Int) (v41 v42:Int) (v43:List Int):Option ((Int × List Int × Int × Int × List Int) ⊕ Option (Aq × Ap)):=
 if(decide (v39<(v16.1.bp.length:Int)))then
  (C5 (⟨v40,v41,v42⟩:Ap) 2).bind fun v44=>
  (aB (IntKind.i64.wrap (v17.1+v44.1)) (IntKind.i64.wrap ((v16.1.aj.length:Int)-1))).bind fun v45=>
  (getI v43 v39).bind fun y46=>
  (F8 v44.2 9).bind fun v47=>
  if v47.1 then
   (C5 v47.2 (v16.1.aj.length:Int)).bind fun v48=>
   some (.inl ((IntKind.i64.wrap (v39+1)),v48.2.ax,v48.2.bw,v48.2.a7,((v43.set (v39).toNat v45).set (v39).toNat v48.1)))
  else
   some (.inl ((IntKind.i64.wrap (v39+1)),v47.2.ax,v47.2.bw,v47.2.a7,(v43.set (v39).toNat v45)))
 else
  some (.inr (lU y8 v10 v11 v13 v16 v40 v41 v42 v43))
def lS (y8:Au) (v10:Ad) (v11:List Ac × Ap) (v13:List Ac):Option (Aq × Ap):=
 (C5 v11.2 4).bind fun v14=>
 (C5 v14.2 3).bind fun v15=>
 (ZP v10 y8.ae v14.1 (IntKind.i64.wrap ((1:Int)+v15.1)) v13).bind fun v16=>
 (C5 v15.2 (v16.1.aj.length:Int)).bind fun v17=>
 Ay (fun s:Int × List Int × Int × Int × List Int=>zg5 y8 v10 v11 v13 v16 v17 s.1 s.2.1 s.2.2.1 s.2.2.2.1 s.2.2.2.2) (0,v17.2.ax,v17.2.bw,v17.2.a7,v16.1.bp)
def zhc (y8:Au) (v10:Ad) (v11:List Ac × Ap) (v12:List AE) (v49:List Ac) (v50:Int):Option ((List Ac × Int) ⊕ Option (Aq × Ap)):=
 if(decide (v50<(v12.length:Int)))then
  (getI v12 v50).bind fun y51=>
  (IQ v10 y51).bind fun v52=>
  (G8 v49 v52).bind fun v53=>
  some (.inl (v53,(IntKind.i64.wrap (v50+1))))
 else
  some (.inr (lS y8 v10 v11 v49))
def VD (v2:List Int) (v3 v4:Int) (v5:Ab) (v6:List (Ab)) (v7:List Au):Option (Aq × Ap):=
 (getI v7 0).bind fun y8=>
 (C5 (⟨v2,v3,v4⟩:Ap) 4).bind fun v9=>
 (SQ (⟨v5,v6,v7⟩:Ad) y8.ae v9.1).bind fun v10=>
 (Y4 v9.2 v10).bind fun v11=>
 (Jp v10 v11.1).bind fun v12=>
 Ay (fun s:List Ac × Int=>zhc y8 v10 v11 v12 s.1 s.2) ([],0)
def RE (v54:List Int) (v55 v56:Int) (v57:Ab) (v58:List (Ab)) (v59:List Au):Option ((List Int × Int × Int × Ab × List (Ab) × List Au) ⊕ Option (Aq × Ap)):=
 if((v59.length:Int)==0)then
  (Jo (⟨v54,v55,v56⟩:Ap)).bind fun v60=>
  some (.inl (v60.2.ax,v60.2.bw,v60.2.a7,v60.1.ae,v60.1.ar,v60.1.ah))
 else
  some (.inr (VD v54 v55 v56 v57 v58 v59))
def NL (a0:Ap):Option (Aq × Ap):=
 (Jo a0).bind fun v1=>
 Ay (fun s:List Int × Int × Int × Ab × List (Ab) × List Au=>RE s.1 s.2.1 s.2.2.1 s.2.2.2.1 s.2.2.2.2.1 s.2.2.2.2.2) (v1.2.ax,v1.2.bw,v1.2.a7,v1.1.ae,v1.1.ar,v1.1.ah)
def YP (a0:Ap):Option (Aq × Ap):=
 (NL a0).bind fun v1=>
 (C5 v1.2 14).bind fun v2=>
 if(v2.1==0)then
  (C5 v2.2 6).bind fun v3=>
  req ((((v1.1.bp).length:Int)+(([(IntKind.i64.wrap (v3.1-1))]:List Int).length:Int))*8≤140737488355328∧((v1.1.bp).length:Int)+(([(IntKind.i64.wrap (v3.1-1))]:List Int).length:Int)≤140737488355328)<|
  some ((⟨v1.1.ae,v1.1.aj,(v1.1.bp++ [(IntKind.i64.wrap (v3.1-1))]),v1.1.ao⟩:Aq),(⟨v3.2.ax,v3.2.bw,v3.2.a7⟩:Ap))
 else
  if(v2.1==1)then
   (Jo v2.2).bind fun v4=>
   req ((((v1.1.aj).length:Int)+(([v4.1]:List Ad).length:Int))*64≤140737488355328∧((v1.1.aj).length:Int)+(([v4.1]:List Ad).length:Int)≤140737488355328)<|
   some ((⟨v1.1.ae,(v1.1.aj++ [v4.1]),v1.1.bp,v1.1.ao⟩:Aq),(⟨v4.2.ax,v4.2.bw,v4.2.a7⟩:Ap))
  else
   if(v2.1==2)then
    (Ii v2.2 ([([]:Ab),([122]:Ab)]:List (Ab))).bind fun v5=>
    some ((⟨v5.1,v1.1.aj,v1.1.bp,v1.1.ao⟩:Aq),(⟨v5.2.ax,v5.2.bw,v5.2.a7⟩:Ap))
   else
    if(v2.1==3)then
     req ((((v1.1.ao).length:Int)+(([(⟨([97]:Ab),([]:Ab),true⟩:Ac)]:List Ac).length:Int))*40≤140737488355328∧((v1.1.ao).length:Int)+(([(⟨([97]:Ab),([]:Ab),true⟩:Ac)]:List Ac).length:Int)≤140737488355328)<|
     some ((⟨v1.1.ae,v1.1.aj,v1.1.bp,(v1.1.ao++ [(⟨([97]:Ab),([]:Ab),true⟩:Ac)])⟩:Aq),(⟨v2.2.ax,v2.2.bw,v2.2.a7⟩:Ap))
    else
     if(v2.1==4)then
      some ((⟨v1.1.ae, [],v1.1.bp,v1.1.ao⟩:Aq),(⟨v2.2.ax,v2.2.bw,v2.2.a7⟩:Ap))
     else
      if(v2.1==5)then
       req (0≤(1:Int)∧(1:Int)≤(v1.1.aj.length:Int)∧(v1.1.aj.length:Int)≤(v1.1.aj.length:Int))<|
       some ((⟨v1.1.ae,(Bn v1.1.aj 1 (v1.1.aj.length:Int)),v1.1.bp,v1.1.ao⟩:Aq),(⟨v2.2.ax,v2.2.bw,v2.2.a7⟩:Ap))
      else
       some ((⟨v1.1.ae,v1.1.aj,v1.1.bp,v1.1.ao⟩:Aq),(⟨v2.2.ax,v2.2.bw,v2.2.a7⟩:Ap))
def VI (a0 a1:Ad) (v1:Int):Option ((Int) ⊕ Option (Bool)):=
 if(decide (v1<(a0.ah.length:Int)))then
  (getI a0.ah v1).bind fun y2=>
  (getI a1.ah v1).bind fun y3=>
  if((y2.ae !=y3.ae)||(y2.bj !=y3.bj))then
   some (.inr (some false))
  else
   some (.inl (IntKind.i64.wrap (v1+1)))
 else
  some (.inr (some true))
def Y2 (a0 a1:Ad):Option (Bool):=
 Ay (fun s:Int=>VI a0 a1 s) 0
def VK (a0 a1:Ad) (v4:Int):Option ((Int) ⊕ Option (Bool)):=
 if(decide (v4<(a0.ar.length:Int)))then
  (getI a0.ar v4).bind fun y5=>
  (getI a1.ar v4).bind fun y6=>
  if(y5 !=y6)then
   some (.inr (some false))
  else
   some (.inl (IntKind.i64.wrap (v4+1)))
 else
  some (.inr (Y2 a0 a1))
def Zu (a0 a1:Ad):Option (Bool):=
 if(((a0.ae !=a1.ae)||((a0.ar.length:Int) !=(a1.ar.length:Int)))||((a0.ah.length:Int) !=(a1.ah.length:Int)))then
  some false
 else
  Ay (fun s:Int=>VK a0 a1 s) 0
def aQ (a0 a1:Int):Option (Int):=
 if(decide (a0>a1))then
  some a0
 else
  some a1
def Sv (a0 a1:Ad) (v1 v2:Int):Option ((Int × Int) ⊕ Option (Int)):=
 if(decide (v2<(a0.ah.length:Int)))then
  (getI a0.ah v2).bind fun y3=>
  (getI a1.ah v2).bind fun y4=>
  (aQ (IntKind.i64.wrap (y3.aq-y4.aq)) (IntKind.i64.wrap (0-(IntKind.i64.wrap (y3.aq-y4.aq))))).bind fun v5=>
  some (.inl ((IntKind.i64.wrap (v1+v5)),(IntKind.i64.wrap (v2+1))))
 else
  some (.inr (some v1))
def aO (a0 a1:Ad):Option (Int):=
 Ay (fun s:Int × Int=>Sv a0 a1 s.1 s.2) (0,0)
def V2 (a0:Aq) (v10:List Ad) (v11:Int):Option ((Int) ⊕ Option (Bool)):=
 if(decide (v11<(v10.length:Int)))then
  (getI a0.aj v11).bind fun y12=>
  (Mk y12).bind fun v13=>
  if v13 then
   (getI v10 v11).bind fun y14=>
   (Zu y14 y12).bind fun v15=>
   if v15 then
    (aO y14 y12).bind fun v16=>
    if(v16 !=0)then
     some (.inr (some false))
    else
     some (.inl (IntKind.i64.wrap (v11+1)))
   else
    some (.inr (some false))
  else
   some (.inr (some false))
 else
  some (.inr (some true))
def SW (a0:Aq):Option (Bool):=
 (Ga (a0.aj.length:Int) 1 4).bind fun v1=>
 if v1 then
  (getI a0.aj 0).bind fun y2=>
  (Mk y2).bind fun v3=>
  if v3 then
   (GQ y2 a0.ae).bind fun v4=>
   if(decide (v4<0))then
    some false
   else
    (getI a0.aj (IntKind.i64.wrap ((a0.aj.length:Int)-1))).bind fun y5=>
    (Mk y5).bind fun v6=>
    if v6 then
     (GQ y5 a0.ae).bind fun v7=>
     if(decide (v7<0))then
      some false
     else
      (GQ y5 a0.ae).bind fun v8=>
      (getI y5.ah v8).bind fun y9=>
      (Wm y2 a0.ae y9.aq).bind fun v10=>
      if((v10.length:Int) !=(a0.aj.length:Int))then
       some false
      else
       Ay (fun s:Int=>V2 a0 v10 s) 0
    else
     some false
  else
   some false
 else
  some false
def SH (a0:List Int) (a1 a2 v1:Int):Option ((Int) ⊕ Option (Bool)):=
 if(decide (v1<(a0.length:Int)))then
  (getI a0 v1).bind fun y2=>
  (Ga y2 a1 a2).bind fun v3=>
  if(!v3)then
   some (.inr (some false))
  else
   some (.inl (IntKind.i64.wrap (v1+1)))
 else
  some (.inr (some true))
def bC (a0:List Int) (a1 a2:Int):Option (Bool):=
 Ay (fun s:Int=>SH a0 a1 a2 s) 0
def Sr (a0:Aq):Option (Bool):=
 (SW a0).bind fun v1=>
 if v1 then
  (Ga (a0.bp.length:Int) 1 3).bind fun v2=>
  if v2 then
   (bC a0.bp 0 (IntKind.i64.wrap ((a0.aj.length:Int)-1))).bind fun v3=>
   if v3 then
    (K6 a0.ao).bind fun v4=>
    some v4
   else
    some false
  else
   some false
 else
  some false
def G9 (a0 a1 a2:Int):Option (Bool):=
 some ((decide (a0≥a1))&&(decide (a0≤a2)))
def Sf (a0:List Ac) (v1:Int) (v2:List (Ab)):Option ((Int × List (Ab)) ⊕ Option (List (Ab))):=
 if(decide (v1<(a0.length:Int)))then
  (getI a0 v1).bind fun y3=>
  req ((((v2).length:Int)+(([y3.af]:List (Ab)).length:Int))*16≤140737488355328∧((v2).length:Int)+(([y3.af]:List (Ab)).length:Int)≤140737488355328)<|
  some (.inl ((IntKind.i64.wrap (v1+1)),(v2++ [y3.af])))
 else
  some (.inr (some v2))
def ZN (a0:List Ac):Option (List (Ab)):=
 Ay (fun s:Int × List (Ab)=>Sf a0 s.1 s.2) (0, [])
def mF (a0:Int):Option (Bool):=
 some (((decide (a0≥97))&&(decide (a0≤122)))||((decide (a0≥48))&&(decide (a0≤57))))
def mP (a0:Ab) (a1:Int):Option (Int):=
 (YL a0 a1).bind fun v1=>
 some v1
def mR (a0 a1:Ab) (v1:Int):Option ((Int) ⊕ Option (Bool)):=
 if(decide (v1<(a0.length:Int)))then
  (getI a0 v1).bind fun y2=>
  (mF (y2.toNat:Int)).bind fun v3=>
  if v3 then
   some (.inl (IntKind.i64.wrap (v1+1)))
  else
   (mP a1 (y2.toNat:Int)).bind fun v4=>
   if(decide (v4<0))then
    some (.inr (some false))
   else
    some (.inl (IntKind.i64.wrap (v1+1)))
 else
  some (.inr (some true))
def Sl (a0 a1:Ab):Option (Bool):=
 Ay (fun s:Int=>mR a0 a1 s) 0
def Wj (a0:Ab):Option (Bool):=
 (G9 (a0.length:Int) 1 12).bind fun v1=>
 if v1 then
  (Sl a0 ([46,47]:Ab)).bind fun v2=>
  some v2
 else
  some false
def mL (a0:List (Ab)) (v1:Int):Option ((Int) ⊕ Option (Bool)):=
 if(decide (v1<(a0.length:Int)))then
  (getI a0 v1).bind fun y2=>
  (Wj y2).bind fun v3=>
  if(decide (v1>0))then
   if v3 then
    (getI a0 (IntKind.i64.wrap (v1-1))).bind fun y4=>
    if(Op.bytesLess y2 y4||y2==y4)then
     some (.inr (some false))
    else
     some (.inl (IntKind.i64.wrap (v1+1)))
   else
    some (.inr (some false))
  else
   if((!v3)||false)then
    some (.inr (some false))
   else
    some (.inl (IntKind.i64.wrap (v1+1)))
 else
  some (.inr (some true))
def ZI (a0:List (Ab)):Option (Bool):=
 Ay (fun s:Int=>mL a0 s) 0
def aA (a0:Ab):Option (Bool):=
 if(decide ((a0.length:Int)≤24))then
  (Sl a0 ([46,45,44,95]:Ab)).bind fun v1=>
  some v1
 else
  some false
def ZD (a0:Ab) (a1:Bool):Option (Bool):=
 (aA a0).bind fun v1=>
 some (v1&&(!(a1&&(a0 !=([]:Ab)))))
def Zl (a0:Ac):Option (Bool):=
 (ZD a0.bb a0.bh).bind fun v1=>
 some (!v1)
def Zp (a0:List Ac):Option (Bool):=
 if(decide ((a0.length:Int)≤24))then
  (ZN a0).bind fun v1=>
  (ZI v1).bind fun v2=>
  if v2 then
   (FP a0 (fun y0_=>Zl y0_)).bind fun v3=>
   some (!v3)
  else
   some false
 else
  some false
def Zy (a0:Ac):Option (Bool):=
 some a0.bh
def aY (a0:List Ac):Option (Bool):=
 (Zp a0).bind fun v1=>
 if v1 then
  (FP a0 (fun y0_=>Zy y0_)).bind fun v2=>
  some (!v2)
 else
  some false
def mB (a0:Ab) (a1:Int):Option (Bool):=
 (G9 (a0.length:Int) 1 a1).bind fun v1=>
 some v1
def mC (a0:Ab) (a1 v2:Int):Option ((Int) ⊕ Option (Bool)):=
 if(decide (v2<(a0.length:Int)))then
  (getI a0 v2).bind fun y3=>
  if((decide ((y3.toNat:Int)<97))||(decide ((y3.toNat:Int)>122)))then
   some (.inr (some false))
  else
   some (.inl (IntKind.i64.wrap (v2+1)))
 else
  some (.inr (mB a0 a1))
def Sy (a0:Ab) (a1:Int):Option (Bool):=
 Ay (fun s:Int=>mC a0 a1 s) 0
def lM (a0:List (Ab)) (a1:Ab) (v1:Int):Option ((Int) ⊕ Option (Int)):=
 if(decide (v1<(a0.length:Int)))then
  (getI a0 v1).bind fun y2=>
  if(a1==y2)then
   some (.inr (some v1))
  else
   some (.inl (IntKind.i64.wrap (v1+1)))
 else
  some (.inr (some (-1)))
def YK (a0:List (Ab)) (a1:Ab):Option (Int):=
 Ay (fun s:Int=>lM a0 a1 s) 0
def PJ (a0:List (Ab)) (a1:Ab):Option (Bool):=
 (YK a0 a1).bind fun v1=>
 some (decide (v1≥0))
def oH (a0:Int):Option (Bool):=
 (G9 a0 0 3).bind fun v1=>
 some v1
def Zh (a0:Ad) (v3:Int):Option ((Int) ⊕ Option (Bool)):=
 if(decide (v3<(a0.ah.length:Int)))then
  (getI a0.ah v3).bind fun y4=>
  (Sy y4.ae 1).bind fun v5=>
  if v5 then
   (G9 y4.bj 1 (IntKind.i64.wrap ((a0.ar.length:Int)-1))).bind fun v6=>
   if v6 then
    (oH y4.aq).bind fun v7=>
    if(decide (v3>0))then
     if v7 then
      (getI a0.ah (IntKind.i64.wrap (v3-1))).bind fun y8=>
      if(Op.bytesLess y4.ae y8.ae||y4.ae==y8.ae)then
       some (.inr (some false))
      else
       some (.inl (IntKind.i64.wrap (v3+1)))
     else
      some (.inr (some false))
    else
     if((!v7)||false)then
      some (.inr (some false))
     else
      some (.inl (IntKind.i64.wrap (v3+1)))
   else
    some (.inr (some false))
  else
   some (.inr (some false))
 else
  some (.inr (some true))
def mS (a0:Ad):Option (Bool):=
 Ay (fun s:Int=>Zh a0 s) 0
def Zg (a0:Ad) (v9:Int):Option ((Int) ⊕ Option (Bool)):=
 if(decide (v9<(a0.ar.length:Int)))then
  (getI a0.ar v9).bind fun y10=>
  (Sy y10 3).bind fun v11=>
  if v11 then
   req (0≤(0:Int)∧(0:Int)≤v9∧v9≤(a0.ar.length:Int))<|
   (PJ (Bn a0.ar 0 v9) y10).bind fun v12=>
   if v12 then
    some (.inr (some false))
   else
    some (.inl (IntKind.i64.wrap (v9+1)))
  else
   some (.inr (some false))
 else
  some (.inr (mS a0))
def ZE (a0:Ad):Option (Bool):=
 (Sy a0.ae 1).bind fun v1=>
 if v1 then
  (G9 (a0.ar.length:Int) 2 4).bind fun v2=>
  if((!v2)||(decide ((a0.ah.length:Int)>3)))then
   some false
  else
   Ay (fun s:Int=>Zg a0 s) 0
 else
  some false
def lQ (a0:Au) (a1:Ab):Option (Bool):=
 some (a0.ae==a1)
def R0 (a0:Ad) (a1:Ab):Option (Int):=
 (Ff a0.ah (fun y0_=>lQ y0_ a1)).bind fun v1=>
 some v1
def aX (a0:Ad) (a1:Ab):Option (Bool):=
 (ZE a0).bind fun v1=>
 if v1 then
  (R0 a0 a1).bind fun v2=>
  some (decide (v2≥0))
 else
  some false
def nF (a0:Ad) (a1:Aq):Option (Bool):=
 (aX a0 a1.ae).bind fun v1=>
 some (!v1)
def nH (a0:Int) (a1:Aq):Option (Bool):=
 (G9 a0 0 (IntKind.i64.wrap ((a1.aj.length:Int)-1))).bind fun v1=>
 some (!v1)
def NQ (a0:Ad) (a1:Ab):Option (Au):=
 (R0 a0 a1).bind fun v1=>
 (getI a0.ah v1).bind fun y2=>
 some y2
def Kn (a0:Aq) (a1:Ad):Option (Int):=
 (NQ a1 a0.ae).bind fun v1=>
 some v1.aq
def Vt (xs:List (Ab)):Option (List (Ab)):=Og 16 xs
def lO (xs:List Au):Option (List Au):=Og 32 xs
def Sp (a0:Ad):Option (Ad):=
 (Vt a0.ar).bind fun v1=>
 (lO a0.ah).bind fun v2=>
 some (⟨a0.ae,v1,v2⟩:Ad)
def Vw (a0:Ad) (a1:Ab) (a2:Int):Option (Ad):=
 (Sp a0).bind fun v1=>
 (R0 a0 a1).bind fun v2=>
 (getI v1.ah v2).bind fun y3=>
 some (⟨v1.ae,v1.ar,(v1.ah.set (v2).toNat {y3 with aq:=a2})⟩:Ad)
def Vz (a0:Ad) (a1:Ab) (a2 v3:Int) (v4:List Ad):Option ((Int × List Ad) ⊕ Option (List Ad)):=
 if(v3 !=a2)then
  if(decide (v3<a2))then
   (Vw a0 a1 (IntKind.i64.wrap (v3+1))).bind fun v5=>
   req ((((v4).length:Int)+(([v5]:List Ad).length:Int))*64≤140737488355328∧((v4).length:Int)+(([v5]:List Ad).length:Int)≤140737488355328)<|
   some (.inl ((IntKind.i64.wrap (v3+1)),(v4++ [v5])))
  else
   (Vw a0 a1 (IntKind.i64.wrap (v3-1))).bind fun v6=>
   req ((((v4).length:Int)+(([v6]:List Ad).length:Int))*64≤140737488355328∧((v4).length:Int)+(([v6]:List Ad).length:Int)≤140737488355328)<|
   some (.inl ((IntKind.i64.wrap (v3-1)),(v4++ [v6])))
 else
  some (.inr (some v4))
def Y0 (a0:Ad) (a1:Ab) (a2:Int):Option (List Ad):=
 (NQ a0 a1).bind fun v1=>
 (Sp a0).bind fun v2=>
 Ay (fun s:Int × List Ad=>Vz a0 a1 a2 s.1 s.2) (v1.aq, [v2])
def Vs (a0 a1:List Ad) (a2:Ad→Ad→Option Bool) (v1:Int):Option ((Int) ⊕ Option (Bool)):=
 if(decide (v1<(a0.length:Int)))then
  (getI a0 v1).bind fun y2=>
  (getI a1 v1).bind fun y3=>
  (a2 y2 y3).bind fun v4=>
  if(!v4)then
   some (.inr (some false))
  else
   some (.inl (IntKind.i64.wrap (v1+1)))
 else
  some (.inr (some true))
def YI (a0 a1:List Ad) (a2:Ad→Ad→Option Bool):Option (Bool):=
 if((a0.length:Int) !=(a1.length:Int))then
  some false
 else
  Ay (fun s:Int=>Vs a0 a1 a2 s) 0
def Vq (a0:List (Ab)) (a1:List (Ab)) (v1:Int):Option ((Int) ⊕ Option (Bool)):=
 if(decide (v1<(a0.length:Int)))then
  (getI a0 v1).bind fun y2=>
  (getI a1 v1).bind fun y3=>
  if(y2 !=y3)then
   some (.inr (some false))
  else
   some (.inl (IntKind.i64.wrap (v1+1)))
 else
  some (.inr (some true))
def YJ (a0:List (Ab)) (a1:List (Ab)):Option (Bool):=
 if((a0.length:Int) !=(a1.length:Int))then
  some false
 else
  Ay (fun s:Int=>Vq a0 a1 s) 0
def Vr (a0 a1:List Au) (v1:Int):Option ((Int) ⊕ Option (Bool)):=
 if(decide (v1<(a0.length:Int)))then
  (getI a0 v1).bind fun y2=>
  (getI a1 v1).bind fun y3=>
  if(!(y2.ae==y3.ae&&(y2.bj==y3.bj&&(y2.aq==y3.aq))))then
   some (.inr (some false))
  else
   some (.inl (IntKind.i64.wrap (v1+1)))
 else
  some (.inr (some true))
def YN (a0 a1:List Au):Option (Bool):=
 if((a0.length:Int) !=(a1.length:Int))then
  some false
 else
  Ay (fun s:Int=>Vr a0 a1 s) 0
def NN (a0 a1:Ad):Option (Bool):=
 if(a0.ae==a1.ae)then
  (YJ a0.ar a1.ar).bind fun v1=>
  if v1 then
   (YN a0.ah a1.ah).bind fun v2=>
   some v2
  else
   some false
 else
  some false
def P1 (a0:Aq):Option (Bool):=
 (G9 (a0.aj.length:Int) 1 4).bind fun v1=>
 if v1 then
  (G9 (a0.bp.length:Int) 1 3).bind fun v2=>
  if v2 then
   (aY a0.ao).bind fun v3=>
   if(!v3)then
    some false
   else
    (FP a0.aj (fun y0_=>nF y0_ a0)).bind fun v4=>
    if v4 then
     some false
    else
     (FP a0.bp (fun y0_=>nH y0_ a0)).bind fun v5=>
     if v5 then
      some false
     else
      (getI a0.aj 0).bind fun y6=>
      (getI a0.aj (IntKind.i64.wrap ((a0.aj.length:Int)-1))).bind fun y7=>
      (Kn a0 y7).bind fun v8=>
      (Y0 y6 a0.ae v8).bind fun v9=>
      (YI a0.aj v9 (fun y0_ y1_=>NN y0_ y1_)).bind fun v10=>
      some v10
  else
   some false
 else
  some false
def PK (xs:List Ac):Option (List Ac):=Og 40 xs
def GN (a0:Aq) (a1:Int):Option (Ad):=
 (getI a0.bp a1).bind fun y1=>
 (getI a0.aj y1).bind fun y2=>
 some y2
def RZ (a0:Aq) (v1 v2:Int):Option ((Int × Int) ⊕ Option (Int)):=
 if(decide (v2<(a0.bp.length:Int)))then
  (GN a0 v2).bind fun v3=>
  (Kn a0 v3).bind fun v4=>
  if(v4==3)then
   some (.inr (some 2))
  else
   if(v4==0)then
    some (.inl (0,(IntKind.i64.wrap (v2+1))))
   else
    some (.inl (v1,(IntKind.i64.wrap (v2+1))))
 else
  some (.inr (some v1))
def Ze (a0:Aq):Option (Int):=
 Ay (fun s:Int × Int=>RZ a0 s.1 s.2) (1,0)
def Vu (a0:Ad) (a1:Ab):Option (Ab):=
 req ((a0.ae).length+(([46]:Ab)).length≤9223372036854775807)<|
 req (((a0.ae++([46]:Ab))).length+(a1).length≤9223372036854775807)<|
 req ((((a0.ae++([46]:Ab))++a1)).length+(([47]:Ab)).length≤9223372036854775807)<|
 some (((a0.ae++([46]:Ab))++a1)++([47]:Ab))
def YM (a0 a1:Ab):Option (Bool):=
 if(decide ((a0.length:Int)≥(a1.length:Int)))then
  req (0≤(0:Int)∧(0:Int)≤(a1.length:Int)∧(a1.length:Int)≤(a0.length:Int))<|
  some ((Bn a0 0 (a1.length:Int))==a1)
 else
  some false
def lL (a0 a1:Ab):Option (Ab × Bool):=
 (YM a0 a1).bind fun v1=>
 if(!v1)then
  some (a0,false)
 else
  req (0≤(a1.length:Int)∧(a1.length:Int)≤(a0.length:Int)∧(a0.length:Int)≤(a0.length:Int))<|
  some ((Bn a0 (a1.length:Int) (a0.length:Int)),true)
def VP (a0 a1:Ab):Option (Ab × Bool):=
 (lL a0 a1).bind fun v1=>
 some (v1.1,v1.2)
def YO (a0 a1:Ab):Option (Ab × Ab × Bool):=
 (RP a0 a1).bind fun v1=>
 if(decide (v1≥0))then
  req (0≤(0:Int)∧(0:Int)≤v1∧v1≤(a0.length:Int))<|
  req (0≤(IntKind.i64.wrap (v1+(a1.length:Int)))∧(IntKind.i64.wrap (v1+(a1.length:Int)))≤(a0.length:Int)∧(a0.length:Int)≤(a0.length:Int))<|
  some ((Bn a0 0 v1),(Bn a0 (IntKind.i64.wrap (v1+(a1.length:Int))) (a0.length:Int)),true)
 else
  some (a0,([]:Ab),false)
def SN (a0 a1:Ab):Option (Ab × Ab × Bool):=
 (YO a0 a1).bind fun v1=>
 some (v1.1,v1.2.1,v1.2.2)
def SU (a0:Ab):Option (Bool):=
 (G9 (a0.length:Int) 1 3).bind fun v1=>
 if v1 then
  (Sl a0 ([]:Ab)).bind fun v2=>
  some v2
 else
  some false
def YW (a0:Ad) (a1 a2:Ab):Option (Ab × Ab × Bool):=
 (Vu a0 a1).bind fun v1=>
 (VP a2 v1).bind fun v2=>
 (SN v2.1 ([47]:Ab)).bind fun v3=>
 if v2.2 then
  if v3.2.2 then
   (SU v3.1).bind fun v4=>
   if v4 then
    (SU v3.2.1).bind fun v5=>
    if(!v5)then
     some (([]:Ab),([]:Ab),false)
    else
     some (v3.1,v3.2.1,true)
   else
    some (([]:Ab),([]:Ab),false)
  else
   some (([]:Ab),([]:Ab),false)
 else
  some (([]:Ab),([]:Ab),false)
def RR (a0:Ad) (a1:Ab) (a2:List Ac) (v1:Int) (v2:List (Ab)):Option ((Int × List (Ab)) ⊕ Option (List (Ab))):=
 if(decide (v1<(a2.length:Int)))then
  (getI a2 v1).bind fun y3=>
  (YW a0 a1 y3.af).bind fun v4=>
  if v4.2.2 then
   req ((((v2).length:Int)+(([y3.af]:List (Ab)).length:Int))*16≤140737488355328∧((v2).length:Int)+(([y3.af]:List (Ab)).length:Int)≤140737488355328)<|
   some (.inl ((IntKind.i64.wrap (v1+1)),(v2++ [y3.af])))
  else
   some (.inl ((IntKind.i64.wrap (v1+1)),v2))
 else
  some (.inr (some v2))
def K1 (a0:Ad) (a1:Ab) (a2:List Ac):Option (List (Ab)):=
 Ay (fun s:Int × List (Ab)=>RR a0 a1 a2 s.1 s.2) (0, [])
def Zv (a0 a1:Ab):Option (Int):=
 (RP a0 a1).bind fun v1=>
 some v1
def mG (v3:Ab) (v4:Int) (v5:List (Ab)):Option (List (Ab)):=
 (getI v5 v4).bind fun y6=>
 req (0≤(0:Int)∧(0:Int)≤(IntKind.i64.wrap (v4+1))∧(IntKind.i64.wrap (v4+1))≤((v5.set (v4).toNat v3).length:Int))<|
 some (Bn (v5.set (v4).toNat v3) 0 (IntKind.i64.wrap (v4+1)))
def RV (a0 a1:Ab) (a2 v2:Int) (v7:Ab) (v8:Int) (v9:List (Ab)):Option ((Ab × Int × List (Ab)) ⊕ Option (List (Ab))):=
 if(decide (v8<(IntKind.i64.wrap ((bif (decide ((IntKind.i64.wrap ((a0.length:Int)+1))<v2))then(IntKind.i64.wrap ((a0.length:Int)+1))else v2)-1))))then
  (Zv v7 a1).bind fun v10=>
  if(decide (v10<0))then
   some (.inr (mG v7 v8 v9))
  else
   req (0≤(0:Int)∧(0:Int)≤(IntKind.i64.wrap (v10+a2))∧(IntKind.i64.wrap (v10+a2))≤(v7.length:Int))<|
   (getI v9 v8).bind fun y11=>
   req (0≤(IntKind.i64.wrap (v10+(a1.length:Int)))∧(IntKind.i64.wrap (v10+(a1.length:Int)))≤(v7.length:Int)∧(v7.length:Int)≤(v7.length:Int))<|
   some (.inl ((Bn v7 (IntKind.i64.wrap (v10+(a1.length:Int))) (v7.length:Int)),(IntKind.i64.wrap (v8+1)),(v9.set (v8).toNat (Bn v7 0 (IntKind.i64.wrap (v10+a2))))))
 else
  some (.inr (mG v7 v8 v9))
def mE (a0 a1:Ab) (a2 v2:Int):Option (List (Ab)):=
 req (0≤(bif (decide ((IntKind.i64.wrap ((a0.length:Int)+1))<v2))then(IntKind.i64.wrap ((a0.length:Int)+1))else v2)∧(bif (decide ((IntKind.i64.wrap ((a0.length:Int)+1))<v2))then(IntKind.i64.wrap ((a0.length:Int)+1))else v2)*16≤140737488355328∧(bif (decide ((IntKind.i64.wrap ((a0.length:Int)+1))<v2))then(IntKind.i64.wrap ((a0.length:Int)+1))else v2)≤140737488355328)<|
 Ay (fun s:Ab × Int × List (Ab)=>RV a0 a1 a2 v2 s.1 s.2.1 s.2.2) (a0,0,(List.replicate ((bif (decide ((IntKind.i64.wrap ((a0.length:Int)+1))<v2))then(IntKind.i64.wrap ((a0.length:Int)+1))else v2)).toNat ([]:Ab)))
def mK (a0 a1:Ab) (a2 a3:Int):Option (List (Ab)):=
 if(a3==0)then
  some []
 else
  if(a1==([]:Ab))then
   (mV a0 a3).bind fun v1=>
   some v1
  else
   if(decide (a3<0))then
    (ZC a0 a1).bind fun v12=>
    mE a0 a1 a2 (IntKind.i64.wrap (v12+1))
   else
    mE a0 a1 a2 a3
def V7 (a0 a1:Ab):Option (List (Ab)):=
 (mK a0 a1 0 (-1)).bind fun v1=>
 some v1
def Y8 (a0:Ab):Option (Bool):=
 (SU a0).bind fun v1=>
 some (!v1)
def NJ (a0:Ad) (a1:AE):Option (Bool):=
 if((a1.ay.length:Int)==(a0.ar.length:Int))then
  (FP a1.ay (fun y0_=>Y8 y0_)).bind fun v1=>
  some (!v1)
 else
  some false
def Mf (a0:Ad) (a1:AE):Option (Ac):=
 req ((a0.ae).length+(([47]:Ab)).length≤9223372036854775807)<|
 (getI a1.ay 0).bind fun y1=>
 req (((a0.ae++([47]:Ab))).length+(y1).length≤9223372036854775807)<|
 req (0≤(1:Int)∧(1:Int)≤(a1.ay.length:Int)∧(a1.ay.length:Int)≤(a1.ay.length:Int))<|
 (aH (Bn a1.ay 1 (a1.ay.length:Int)) ([44]:Ab)).bind fun v2=>
 some (⟨((a0.ae++([47]:Ab))++y1),v2,false⟩:Ac)
def Zb (a0:Ad) (a1:Ac):Option (AE × Bool):=
 req ((a0.ae).length+(([47]:Ab)).length≤9223372036854775807)<|
 (VP a1.af (a0.ae++([47]:Ab))).bind fun v1=>
 (V7 a1.bb ([44]:Ab)).bind fun v2=>
 req (((([v1.1]:List (Ab)).length:Int)+((v2).length:Int))*16≤140737488355328∧(([v1.1]:List (Ab)).length:Int)+((v2).length:Int)≤140737488355328)<|
 if v1.2 then
  (NJ a0 (⟨([v1.1]++v2)⟩:AE)).bind fun v3=>
  if v3 then
   (Mf a0 (⟨([v1.1]++v2)⟩:AE)).bind fun v4=>
   if(!(a1.af==v4.af&&(a1.bb==v4.bb&&(a1.bh==v4.bh))))then
    some ((⟨[]⟩:AE),false)
   else
    some ((⟨([v1.1]++v2)⟩:AE),true)
  else
   some ((⟨[]⟩:AE),false)
 else
  some ((⟨[]⟩:AE),false)
def RJ (a0:Ad) (a1:List Ac) (v1:Int) (v2:List AE):Option ((Int × List AE) ⊕ Option (List AE)):=
 if(decide (v1<(a1.length:Int)))then
  (getI a1 v1).bind fun y3=>
  (Zb a0 y3).bind fun v4=>
  if v4.2 then
   req ((((v2).length:Int)+(([v4.1]:List AE).length:Int))*24≤140737488355328∧((v2).length:Int)+(([v4.1]:List AE).length:Int)≤140737488355328)<|
   some (.inl ((IntKind.i64.wrap (v1+1)),(v2++ [v4.1])))
  else
   some (.inl ((IntKind.i64.wrap (v1+1)),v2))
 else
  some (.inr (some v2))
def PL (a0:Ad) (a1:List Ac):Option (List AE):=
 Ay (fun s:Int × List AE=>RJ a0 a1 s.1 s.2) (0, [])
def Ko (a0:Ad) (a1:Ab) (a2:AE):Option (Ab):=
 (Vu a0 a1).bind fun v1=>
 (NQ a0 a1).bind fun v2=>
 (getI a2.ay v2.bj).bind fun y3=>
 req ((v1).length+(y3).length≤9223372036854775807)<|
 req (((v1++y3)).length+(([47]:Ab)).length≤9223372036854775807)<|
 (getI a2.ay 0).bind fun y4=>
 req ((((v1++y3)++([47]:Ab))).length+(y4).length≤9223372036854775807)<|
 some (((v1++y3)++([47]:Ab))++y4)
def RF (a0:Ad) (a1:Ab) (v1:List AE) (v2:Int) (v3:List (Ab)):Option ((Int × List (Ab)) ⊕ Option (List (Ab))):=
 if(decide (v2<(v1.length:Int)))then
  (getI v1 v2).bind fun y4=>
  (Ko a0 a1 y4).bind fun v5=>
  req ((((v3).length:Int)+(([v5]:List (Ab)).length:Int))*16≤140737488355328∧((v3).length:Int)+(([v5]:List (Ab)).length:Int)≤140737488355328)<|
  some (.inl ((IntKind.i64.wrap (v2+1)),(v3++ [v5])))
 else
  some (.inr (some v3))
def VJ (a0:Ad) (a1:Ab) (a2:List Ac):Option (List (Ab)):=
 (PL a0 a2).bind fun v1=>
 Ay (fun s:Int × List (Ab)=>RF a0 a1 v1 s.1 s.2) (0, [])
def nK (a0:Ab) (a1:List (Ab)):Option (Bool):=
 (PJ a1 a0).bind fun v1=>
 some v1
def V5 (a0:List (Ab)) (a1:List (Ab)):Option (List (Ab)):=
 (Vt a0).bind fun v1=>
 (Jr v1 (fun y0_=>nK y0_ a1)).bind fun v2=>
 some v2
def YZ (a0:Ad) (a1:Ab) (a2:List Ac):Option (List (Ab)):=
 (K1 a0 a1 a2).bind fun v1=>
 (VJ a0 a1 a2).bind fun v2=>
 (V5 v1 v2).bind fun v3=>
 some v3
def mH (a0:Ad) (a1:Ab) (a2:List Ac):Option (List (Ab)):=
 (VJ a0 a1 a2).bind fun v1=>
 (K1 a0 a1 a2).bind fun v2=>
 (V5 v1 v2).bind fun v3=>
 some v3
def Za (a0:Ad) (a1:Ab) (a2:Int) (a3:List Ac):Option (Bool):=
 if(a2==0)then
  (K1 a0 a1 a3).bind fun v1=>
  some ((v1.length:Int)==0)
 else
  if(a2==1)then
   (YZ a0 a1 a3).bind fun v2=>
   some ((v2.length:Int)==0)
  else
   (YZ a0 a1 a3).bind fun v3=>
   if((v3.length:Int)==0)then
    (mH a0 a1 a3).bind fun v4=>
    some ((v4.length:Int)==0)
   else
    some false
def R1 (a0:Aq):Option (Bool):=
 (getI a0.aj 0).bind fun y1=>
 (Ze a0).bind fun v2=>
 (Za y1 a0.ae v2 a0.ao).bind fun v3=>
 some v3
def Qa (a0:Aq):Option (Bool × Bool):=
 (P1 a0).bind fun v1=>
 if(!v1)then
  some (false,false)
 else
  (R1 a0).bind fun v2=>
  some (v2,true)
def Wa (a0:AD):Option (Bool):=
 if(a0.al==([]:Ab))then
  some true
 else
  (Wj a0.al).bind fun v1=>
  some v1
def K4 (a0:Ax):Option (Bool):=
 (P1 a0.ab).bind fun v1=>
 if v1 then
  (Wa a0.ca).bind fun v2=>
  if v2 then
   (Wa a0.az).bind fun v3=>
   some v3
  else
   some false
 else
  some false
def YT (a0:Ad) (a1:Bb):Option (Bool):=
 if(a1.ak==1)then
  if((a1.bq.ay.length:Int)==0)then
   (NJ a0 a1.bz).bind fun v1=>
   some v1
  else
   some false
 else
  if(a1.ak==2)then
   (NJ a0 a1.bq).bind fun v2=>
   some (v2&&((a1.bz.ay.length:Int)==0))
  else
   if(a1.ak==3)then
    (NJ a0 a1.bq).bind fun v3=>
    if v3 then
     (NJ a0 a1.bz).bind fun v4=>
     if v4 then
      (getI a1.bq.ay 0).bind fun y5=>
      (getI a1.bz.ay 0).bind fun y6=>
      some (y5==y6)
     else
      some false
    else
     some false
   else
    some false
def Wc (a0:Bb):Option (Bool):=
 some (((a0.ak==0)&&((a0.bq.ay.length:Int)==0))&&((a0.bz.ay.length:Int)==0))
def YY (a0:Aq) (a1:C4):Option (Bool):=
 (G9 a1.a8 0 (IntKind.i64.wrap ((a0.bp.length:Int)-1))).bind fun v1=>
 if(!v1)then
  some false
 else
  if(a1.bg==0)then
   (GN a0 a1.a8).bind fun v2=>
   (YT v2 a1.au).bind fun v3=>
   some v3
  else
   if(a1.bg==1)then
    (Wc a1.au).bind fun v4=>
    some v4
   else
    if(a1.bg==(-1))then
     (Wc a1.au).bind fun v5=>
     some v5
    else
     some false
def YQ (a1:BT) (v2:Bool):Option (Bool):=
 if v2 then
  (G9 a1.b8 1 24).bind fun v3=>
  if v3 then
   if(a1.au.a8==0)then
    if(a1.au.bg==0)then
     (Wc a1.au.au).bind fun v4=>
     some v4
    else
     some false
   else
    some false
  else
   some false
 else
  some false
def VA (a0:Ax) (a1:BT):Option (Bool):=
 if(a1.ak==1)then
  if(a1.b8==0)then
   (YY a0.ab a1.au).bind fun v1=>
   some v1
  else
   some false
 else
  if(a1.ak==2)then
   YQ a1 (a1.ak==2)
  else
   YQ a1 (a1.ak==3)
def VN (a0:Ax) (a1:BT):Option (Bool):=
 (K4 a0).bind fun v1=>
 if v1 then
  (VA a0 a1).bind fun v2=>
  some v2
 else
  some false
def lT (xs:List Int):Option (List Int):=Og 8 xs
def Sk (a0:Aq) (v1:List Int) (v2:List Ac) (v3:Int) (v4:List Ad):Option ((Int × List Ad) ⊕ Option (Aq)):=
 if(decide (v3<(a0.aj.length:Int)))then
  (getI a0.aj v3).bind fun y5=>
  (Sp y5).bind fun v6=>
  req ((((v4).length:Int)+(([v6]:List Ad).length:Int))*64≤140737488355328∧((v4).length:Int)+(([v6]:List Ad).length:Int)≤140737488355328)<|
  some (.inl ((IntKind.i64.wrap (v3+1)),(v4++ [v6])))
 else
  some (.inr (some (⟨a0.ae,v4,v1,v2⟩:Aq)))
def VU (a0:Aq):Option (Aq):=
 (lT a0.bp).bind fun v1=>
 (PK a0.ao).bind fun v2=>
 Ay (fun s:Int × List Ad=>Sk a0 v1 v2 s.1 s.2) (0, [])
def SI (a0:Ax):Option (Ax):=
 (VU a0.ab).bind fun v1=>
 some (⟨v1,a0.ca,a0.az⟩:Ax)
def K2 (a0:Int) (a1:Ac) (a2:List AA):Option (Unit × List AA):=
 req ((((a2).length:Int)+(([(⟨a0,a1.af,a1.bb,0⟩:AA)]:List AA).length:Int))*48≤140737488355328∧((a2).length:Int)+(([(⟨a0,a1.af,a1.bb,0⟩:AA)]:List AA).length:Int)≤140737488355328)<|
 some ((),(a2++ [(⟨a0,a1.af,a1.bb,0⟩:AA)]))
def oJ (a0:Int):Option (Bool):=
 some (decide (a0≥1))
def NR (a0:Int):Option (Bool):=
 some (decide (a0≥2))
def RO (v9:Int) (y11:Au) (v13:Ab) (v14:List AA):Option ((Int × List AA) ⊕ Option (List AA)):=
 if(v13 !=([]:Ab))then
  (NR y11.aq).bind fun v15=>
  if v15 then
   (K2 2 (⟨v13,([]:Ab),false⟩:Ac) v14).bind fun v16=>
   some (.inl ((IntKind.i64.wrap (v9+1)),v16.2))
  else
   some (.inl ((IntKind.i64.wrap (v9+1)),v14))
 else
  some (.inl ((IntKind.i64.wrap (v9+1)),v14))
def PO (v9:Int) (v10:List AA) (y11:Au) (v12 v13:Ab):Option ((Int × List AA) ⊕ Option (List AA)):=
 if(v12 !=([]:Ab))then
  if(v12 !=v13)then
   (oJ y11.aq).bind fun v17=>
   if v17 then
    (K2 3 (⟨v12,([]:Ab),false⟩:Ac) v10).bind fun v18=>
    RO v9 y11 v13 v18.2
   else
    RO v9 y11 v13 v10
  else
   RO v9 y11 v13 v10
 else
  RO v9 y11 v13 v10
def lP (a0:Ad) (a1:Bb) (v9:Int) (v10:List AA) (y11:Au) (v12:Ab):Option ((Int × List AA) ⊕ Option (List AA)):=
 if(a1.ak !=2)then
  (Ko a0 y11.ae a1.bz).bind fun v19=>
  PO v9 v10 y11 v12 v19
 else
  PO v9 v10 y11 v12 ([]:Ab)
def RN (a0:Ad) (a1:Bb) (v9:Int) (v10:List AA):Option ((Int × List AA) ⊕ Option (List AA)):=
 if(decide (v9<(a0.ah.length:Int)))then
  (getI a0.ah v9).bind fun y11=>
  Va (σ:=Ab) (
   if(a1.ak !=1)then
    (Ko a0 y11.ae a1.bq).bind fun v20=>
    some (.inl v20)
   else
    some (.inl ([]:Ab))
  ) (fun s=>lP a0 a1 v9 v10 y11 s)
 else
  some (.inr (some v10))
def RG (a0:Ad) (a1:Bb) (v8:List AA):Option (List AA):=
 Ay (fun s:Int × List AA=>RN a0 a1 s.1 s.2) (0,v8)
def Vv (a0:Ad) (a1:Bb) (v1:Ab) (v4:List AA) (v5 v6:Ab) (v7:Bool):Option (List AA):=
 if(a1.ak==1)then
  (K2 6 (⟨v5,([]:Ab),false⟩:Ac) v4).bind fun v21=>
  (K2 2 (⟨v5,v6,v7⟩:Ac) v21.2).bind fun v22=>
  RG a0 a1 v22.2
 else
  if(a1.ak==2)then
   (K2 3 (⟨v1,([]:Ab),false⟩:Ac) v4).bind fun v23=>
   RG a0 a1 v23.2
  else
   if(a1.ak==3)then
    (K2 2 (⟨v5,v6,v7⟩:Ac) v4).bind fun v24=>
    RG a0 a1 v24.2
   else
    RG a0 a1 v4
def PN (a0:Ad) (a1:Bb) (v1 v2:Ab) (v3:Bool) (v4:List AA):Option (List AA):=
 if(a1.ak !=2)then
  (Mf a0 a1.bz).bind fun v25=>
  Vv a0 a1 v1 v4 v25.af v25.bb v25.bh
 else
  Vv a0 a1 v1 v4 ([]:Ab) ([]:Ab) false
def Y3 (a0:Ad) (a1:Bb):Option (List AA):=
 Va (σ:=Ab × Ab × Bool × List AA) (
  if(a1.ak !=1)then
   (Mf a0 a1.bq).bind fun v26=>
   (K2 7 v26 ([]:List AA)).bind fun v27=>
   some (.inl (v26.af,v26.bb,v26.bh,v27.2))
  else
   some (.inl (([]:Ab),([]:Ab),false, []))
 ) (fun s=>PN a0 a1 s.1 s.2.1 s.2.2.1 s.2.2.2)
def lH (a0:List Ac) (a1:Ab) (a2:Ac→(Ab)→Option Int) (v1:Int):Option (Int × Bool):=
 if(decide (v1<(a0.length:Int)))then
  (getI a0 v1).bind fun y2=>
  (a2 y2 a1).bind fun v3=>
  some (v1,(v3==0))
 else
  some (v1,false)
def RB (a0:List Ac) (a1:Ab) (a2:Ac→(Ab)→Option Int) (v4 v5:Int):Option ((Int × Int) ⊕ Option (Int × Bool)):=
 if(decide (v4<v5))then
  (getI a0 (IntKind.i64.wrap (Int.fdiv (IntKind.u64.wrap (IntKind.i64.wrap (v4+v5))) (2^(min ((1:Int)).toNat (IntKind.bits .u64)))))).bind fun y6=>
  (a2 y6 a1).bind fun v7=>
  if(decide (v7<0))then
   some (.inl ((IntKind.i64.wrap ((IntKind.i64.wrap (Int.fdiv (IntKind.u64.wrap (IntKind.i64.wrap (v4+v5))) (2^(min ((1:Int)).toNat (IntKind.bits .u64)))))+1)),v5))
  else
   some (.inl (v4,(IntKind.i64.wrap (Int.fdiv (IntKind.u64.wrap (IntKind.i64.wrap (v4+v5))) (2^(min ((1:Int)).toNat (IntKind.bits .u64)))))))
 else
  some (.inr (lH a0 a1 a2 v4))
def lI (a0:List Ac) (a1:Ab) (a2:Ac→(Ab)→Option Int):Option (Int × Bool):=
 Ay (fun s:Int × Int=>RB a0 a1 a2 s.1 s.2) (0,(a0.length:Int))
def VO (a0:Ab):Option (Bool):=
 some (a0 !=a0)
def Y1 (a0 a1:Ab):Option (Int):=
 (VO a0).bind fun v1=>
 (VO a1).bind fun v2=>
 if v1 then
  if v2 then
   some 0
  else
   some (-1)
 else
  if v2 then
   some 1
  else
   if(Op.bytesLess a0 a1)then
    some (-1)
   else
    if(!(Op.bytesLess a0 a1||a0==a1))then
     some 1
    else
     some 0
def R6 (a0:Ac) (a1:Ab):Option (Int):=
 (Y1 a0.af a1).bind fun v1=>
 some v1
def NO (a0:List Ac) (a1:Ab):Option (Int × Bool):=
 (lI a0 a1 (fun y0_ y1_=>R6 y0_ y1_)).bind fun v1=>
 some (v1.1,v1.2)
def P8 (a0:List Ac) (a1:Ac):Option (List Ac):=
 (NO a0 a1.af).bind fun v1=>
 if v1.2 then
  (getI a0 v1.1).bind fun y2=>
  some (a0.set (v1.1).toNat a1)
 else
  (cZ a0 v1.1 ([a1]:List Ac)).bind fun v3=>
  some v3
def Sw (a0:Ab) (a2:List BP) (v3:Int):Option ((Int) ⊕ Option (Ab × Bool × Bool)):=
 if(decide (v3<(a2.length:Int)))then
  (getI a2 v3).bind fun y4=>
  if(y4.af==a0)then
   some (.inr (some (y4.bb,y4.dn,true)))
  else
   some (.inl (IntKind.i64.wrap (v3+1)))
 else
  some (.inr (some (([]:Ab),false,false)))
def ZY (a0:Ab) (a1:List Ac) (a2:List BP):Option (Ab × Bool × Bool):=
 (NO a1 a0).bind fun v1=>
 if v1.2 then
  (getI a1 v1.1).bind fun y2=>
  some (y2.bb,(!y2.bh),true)
 else
  Ay (fun s:Int=>Sw a0 a2 s) 0
def V9 (a0:Ab):Option (Int × Bool):=
 (aC a0 (-999999) 999999).bind fun v1=>
 some (v1.1,v1.2)
def Zn (a0:AA) (a1:Ab) (a2:Bool):Option (Bool):=
 (V9 a1).bind fun v1=>
 if(a0.ak==4)then
  if v1.2 then
   if a2 then
    (G9 (IntKind.i64.wrap (v1.1+a0.jj)) (-999999) 999999).bind fun v2=>
    some v2
   else
    some true
  else
   some ((!a2)||false)
 else
  if(a0.ak==5)then
   some ((a2&&v1.2)&&(decide (v1.1≥a0.jj)))
  else
   if(a0.ak==6)then
    some (!a2)
   else
    if(a0.ak==7)then
     some (a2&&(a1==a0.bb))
    else
     some true
def IN (a0:List AA) (a1:List BP) (v1:Int) (v2:List Ac):Option ((Int × List Ac) ⊕ Option (Int × Ab × List Ac)):=
 if(decide (v1<(a0.length:Int)))then
  (getI a0 v1).bind fun y3=>
  if(y3.ak==2)then
   (P8 v2 (⟨y3.af,y3.bb,false⟩:Ac)).bind fun v4=>
   some (.inl ((IntKind.i64.wrap (v1+1)),v4))
  else
   if(y3.ak==3)then
    (P8 v2 (⟨y3.af,([]:Ab),true⟩:Ac)).bind fun v5=>
    some (.inl ((IntKind.i64.wrap (v1+1)),v5))
   else
    (ZY y3.af v2 a1).bind fun v6=>
    if(!v6.2.2)then
     some (.inr (some (1,y3.af, [])))
    else
     (Zn y3 v6.1 v6.2.1).bind fun v7=>
     if(!v7)then
      some (.inr (some (2,([]:Ab), [])))
     else
      if(y3.ak==4)then
       (V9 v6.1).bind fun v8=>
       (oC (IntKind.i64.wrap (v8.1+y3.jj))).bind fun v9=>
       (P8 v2 (⟨y3.af,v9,false⟩:Ac)).bind fun v10=>
       some (.inl ((IntKind.i64.wrap (v1+1)),v10))
      else
       some (.inl ((IntKind.i64.wrap (v1+1)),v2))
 else
  some (.inr (some (3,([]:Ab),v2)))
def oN (a0:List AA) (a1:List BP):Option (Int × Ab × List Ac):=
 Ay (fun s:Int × List Ac=>IN a0 a1 s.1 s.2) (0, [])
def bD (a0:List Ac) (a1:Ab):Option (BP):=
 (NO a0 a1).bind fun v1=>
 if(!v1.2)then
  some (⟨a1,([]:Ab),false⟩:BP)
 else
  (getI a0 v1.1).bind fun y2=>
  some (⟨a1,y2.bb,true⟩:BP)
def PU (a0:List Ac) (a1:List AA) (v1:List BP):Option ((List BP) ⊕ Option (List BP × List Ac × Bool)):=
 (oN a1 v1).bind fun v2=>
 if(v2.1 !=1)then
  some (.inr (some (v1,v2.2.2,(v2.1==3))))
 else
  (bD a0 v2.2.1).bind fun v3=>
  req ((((v1).length:Int)+(([v3]:List BP).length:Int))*40≤140737488355328∧((v1).length:Int)+(([v3]:List BP).length:Int)≤140737488355328)<|
  some (.inl (v1++ [v3]))
def nV (a0:List Ac) (a1:List AA):Option (List BP × List Ac × Bool):=
 Ay (fun s:List BP=>PU a0 a1 s) []
def nN (a0:Ac):Option (Bool):=
 some a0.bh
def nA (v2:List Ac):Option (List Ac × Bool):=
 (Jr v2 (fun y0_=>nN y0_)).bind fun v3=>
 if(decide ((v3.length:Int)>24))then
  some ([],false)
 else
  some (v3,true)
def Sx (a1:List Ac) (v4:Int) (v5:List Ac):Option ((Int × List Ac) ⊕ Option (List Ac × Bool)):=
 if(decide (v4<(a1.length:Int)))then
  (getI a1 v4).bind fun y6=>
  (P8 v5 y6).bind fun v7=>
  some (.inl ((IntKind.i64.wrap (v4+1)),v7))
 else
  some (.inr (nA v5))
def Z5 (a0 a1:List Ac):Option (List Ac × Bool):=
 (PK a0).bind fun v1=>
 Ay (fun s:Int × List Ac=>Sx a1 s.1 s.2) (0,v1)
def We (a0:List Ac) (a1:List AA):Option (List Ac × Bool):=
 (nV a0 a1).bind fun v1=>
 (Z5 a0 v1.2.1).bind fun v2=>
 if((!v1.2.2)||(!v2.2))then
  req (((([]:List Ac).length:Int)+((a0).length:Int))*40≤140737488355328∧(([]:List Ac).length:Int)+((a0).length:Int)≤140737488355328)<|
  some (a0,false)
 else
  some (v2.1,true)
def Sc (a0:Aq) (a1:C4):Option (Aq × Bool):=
 (VU a0).bind fun v1=>
 if(a1.bg !=0)then
  (getI a0.bp a1.a8).bind fun y2=>
  (G9 (IntKind.i64.wrap (y2+a1.bg)) 0 (IntKind.i64.wrap ((a0.aj.length:Int)-1))).bind fun v3=>
  if(!v3)then
   some (v1,false)
  else
   (getI v1.bp a1.a8).bind fun y4=>
   some ((⟨v1.ae,v1.aj,(v1.bp.set (a1.a8).toNat (IntKind.i64.wrap (y2+a1.bg))),v1.ao⟩:Aq),true)
 else
  (GN a0 a1.a8).bind fun v5=>
  (Y3 v5 a1.au).bind fun v6=>
  (We a0.ao v6).bind fun v7=>
  some ((⟨v1.ae,v1.aj,v1.bp,v7.1⟩:Aq),v7.2)
def PH (a0:List Int) (v2 v3:Int):Option ((Int × Int) ⊕ Option (Int)):=
 if(decide (v3<(a0.length:Int)))then
  (getI a0 v3).bind fun y4=>
  some (.inl ((bif (decide (y4>v2))then y4 else v2),(IntKind.i64.wrap (v3+1))))
 else
  some (.inr (some v2))
def YS (a0:List Int):Option (Int):=
 if(decide ((a0.length:Int)<1))then
  none
 else
  (getI a0 0).bind fun y1=>
  Ay (fun s:Int × Int=>PH a0 s.1 s.2) (y1,1)
def PI (a0:List Int) (v2 v3:Int):Option ((Int × Int) ⊕ Option (Int)):=
 if(decide (v3<(a0.length:Int)))then
  (getI a0 v3).bind fun y4=>
  some (.inl ((bif (decide (y4<v2))then y4 else v2),(IntKind.i64.wrap (v3+1))))
 else
  some (.inr (some v2))
def YV (a0:List Int):Option (Int):=
 if(decide ((a0.length:Int)<1))then
  none
 else
  (getI a0 0).bind fun y1=>
  Ay (fun s:Int × Int=>PI a0 s.1 s.2) (y1,1)
def RD (a0:Aq):Option (Bool):=
 (YS a0.bp).bind fun v1=>
 (YV a0.bp).bind fun v2=>
 some (decide ((IntKind.i64.wrap (v1-v2))≤1))
def Zq (a0:Aq) (a1:C4):Option (Bool):=
 (Sc a0 a1).bind fun v1=>
 if v1.2 then
  (RD v1.1).bind fun v2=>
  if v2 then
   (R1 v1.1).bind fun v3=>
   some v3
  else
   some false
 else
  some false
def Mi (a0:Ax) (a1:C4):Option (Ax × Bool):=
 (SI a0).bind fun v1=>
 if(a1.bg !=0)then
  (Zq a0.ab a1).bind fun v2=>
  if(!v2)then
   some (v1,false)
  else
   (Sc a0.ab a1).bind fun v3=>
   if(!v3.2)then
    some (v1,false)
   else
    if(a1.bg==0)then
     (GN a0.ab a1.a8).bind fun v4=>
     (Kn a0.ab v4).bind fun v5=>
     (NR v5).bind fun v6=>
     if v6 then
      some ((⟨v3.1,(⟨v1.ca.al,v1.ca.a6⟩:AD),(⟨([]:Ab),false⟩:AD)⟩:Ax),true)
     else
      some ((⟨v3.1,(⟨([]:Ab),false⟩:AD),(⟨v1.az.al,v1.az.a6⟩:AD)⟩:Ax),true)
    else
     some ((⟨v3.1,(⟨v1.ca.al,v1.ca.a6⟩:AD),(⟨v1.az.al,v1.az.a6⟩:AD)⟩:Ax),true)
 else
  (Sc a0.ab a1).bind fun v7=>
  if(!v7.2)then
   some (v1,false)
  else
   if(a1.bg==0)then
    (GN a0.ab a1.a8).bind fun v8=>
    (Kn a0.ab v8).bind fun v9=>
    (NR v9).bind fun v10=>
    if v10 then
     some ((⟨v7.1,(⟨v1.ca.al,v1.ca.a6⟩:AD),(⟨([]:Ab),false⟩:AD)⟩:Ax),true)
    else
     some ((⟨v7.1,(⟨([]:Ab),false⟩:AD),(⟨v1.az.al,v1.az.a6⟩:AD)⟩:Ax),true)
   else
    some ((⟨v7.1,(⟨v1.ca.al,v1.ca.a6⟩:AD),(⟨v1.az.al,v1.az.a6⟩:AD)⟩:Ax),true)
def NI (a0:Ax) (v1 v2:Int):Option ((Int × Int) ⊕ Option (Int)):=
 if(decide (v2<(a0.ab.bp.length:Int)))then
  (GN a0.ab v2).bind fun v3=>
  (Kn a0.ab v3).bind fun v4=>
  (NR v4).bind fun v5=>
  if v5 then
   some (.inl ((IntKind.i64.wrap (v1+1)),(IntKind.i64.wrap (v2+1))))
  else
   some (.inl (v1,(IntKind.i64.wrap (v2+1))))
 else
  some (.inr (some v1))
def RQ (a0:Ax):Option (Int):=
 Ay (fun s:Int × Int=>NI a0 s.1 s.2) (0,0)
def Y6 (a0:Ad) (a1:Ab) (a2:AE):Option (List AA):=
 (Mf a0 a2).bind fun v1=>
 (Ko a0 a1 a2).bind fun v2=>
 some [(⟨7,v1.af,v1.bb,0⟩:AA),(⟨2,v2,([]:Ab),0⟩:AA)]
def RC (a0:Ad) (a1:Ab) (v1:List AE) (v2:Int) (v3:List B3):Option ((Int × List B3) ⊕ Option (List B3)):=
 if(decide (v2<(v1.length:Int)))then
  (getI v1 v2).bind fun y4=>
  (Mf a0 y4).bind fun v5=>
  (Y6 a0 a1 y4).bind fun v6=>
  req ((((v3).length:Int)+(([(⟨v5.af,v6⟩:B3)]:List B3).length:Int))*40≤140737488355328∧((v3).length:Int)+(([(⟨v5.af,v6⟩:B3)]:List B3).length:Int)≤140737488355328)<|
  some (.inl ((IntKind.i64.wrap (v2+1)),(v3++ [(⟨v5.af,v6⟩:B3)])))
 else
  some (.inr (some v3))
def VF (a0:Ad) (a1:Ab) (a2:List Ac):Option (List B3):=
 (PL a0 a2).bind fun v1=>
 Ay (fun s:Int × List B3=>RC a0 a1 v1 s.1 s.2) (0, [])
def lJ (xs:List B3):Option (List B3):=Og 40 xs
def Z3 (a0:B3) (a1:AD):Option (Bool):=
 some (Op.bytesLess a0.bd a1.al||a0.bd==a1.al)
def Zw (a2:AD) (v2:List B3) (v3:List Ac) (v4:Int) (v5:Ab):Option (List Ac × AD):=
 (PK v3).bind fun v6=>
 some (v6,(⟨v5,(a2.a6||(v4==(v2.length:Int)))⟩:AD))
def K3 (a2:AD) (a3:Int) (v2:List B3) (v7:List Ac) (v8:Int) (v9:Ab):Option ((List Ac × Int × Ab) ⊕ Option (List Ac × AD)):=
 if(decide (v8<(bif (decide ((v2.length:Int)<a3))then(v2.length:Int)else a3)))then
  (getI v2 v8).bind fun y10=>
  (We v7 y10.cm).bind fun v11=>
  if(!v11.2)then
   some (.inr (Zw a2 v2 v7 v8 v9))
  else
   some (.inl (v11.1,(IntKind.i64.wrap (v8+1)),y10.bd))
 else
  some (.inr (Zw a2 v2 v7 v8 v9))
def NV (a0:List B3) (a1:List Ac) (a2:AD) (a3:Int):Option (List Ac × AD):=
 (lJ a0).bind fun v1=>
 (Jr v1 (fun y0_=>Z3 y0_ a2)).bind fun v2=>
 Ay (fun s:List Ac × Int × Ab=>K3 a2 a3 v2 s.1 s.2.1 s.2.2) (a1,0,a2.al)
def RH (v1:List (Ab)) (v2:Int) (v3:List B3):Option ((Int × List B3) ⊕ Option (List B3)):=
 if(decide (v2<(v1.length:Int)))then
  (getI v1 v2).bind fun y4=>
  req ((((v3).length:Int)+(([(⟨y4, [(⟨3,y4,([]:Ab),0⟩:AA)]⟩:B3)]:List B3).length:Int))*40≤140737488355328∧((v3).length:Int)+(([(⟨y4, [(⟨3,y4,([]:Ab),0⟩:AA)]⟩:B3)]:List B3).length:Int)≤140737488355328)<|
  some (.inl ((IntKind.i64.wrap (v2+1)),(v3++ [(⟨y4, [(⟨3,y4,([]:Ab),0⟩:AA)]⟩:B3)])))
 else
  some (.inr (some v3))
def RU (a0:Ad) (a1:Ab) (a2:List Ac):Option (List B3):=
 (K1 a0 a1 a2).bind fun v1=>
 Ay (fun s:Int × List B3=>RH v1 s.1 s.2) (0, [])
def Mh (a0:Ax) (a1:BT):Option (Ax × Bool):=
 if(a1.ak==1)then
  (Mi a0 a1.au).bind fun v1=>
  some (v1.1,v1.2)
 else
  (SI a0).bind fun v2=>
  if(a1.ak==2)then
   (RQ a0).bind fun v3=>
   if(v3==(a0.ab.bp.length:Int))then
    (getI a0.ab.aj 0).bind fun y4=>
    (VF y4 a0.ab.ae a0.ab.ao).bind fun v5=>
    (NV v5 a0.ab.ao a0.ca a1.b8).bind fun v6=>
    some ((⟨(⟨v2.ab.ae,v2.ab.aj,v2.ab.bp,v6.1⟩:Aq),(⟨v6.2.al,v6.2.a6⟩:AD),(⟨([]:Ab),false⟩:AD)⟩:Ax),true)
   else
    if(a1.ak==3)then
     (RQ a0).bind fun v7=>
     if(v7==0)then
      (getI a0.ab.aj 0).bind fun y8=>
      (RU y8 a0.ab.ae a0.ab.ao).bind fun v9=>
      (NV v9 a0.ab.ao a0.az a1.b8).bind fun v10=>
      some ((⟨(⟨v2.ab.ae,v2.ab.aj,v2.ab.bp,v10.1⟩:Aq),(⟨([]:Ab),false⟩:AD),(⟨v10.2.al,v10.2.a6⟩:AD)⟩:Ax),true)
     else
      some (v2,false)
    else
     some (v2,false)
  else
   if(a1.ak==3)then
    (RQ a0).bind fun v11=>
    if(v11==0)then
     (getI a0.ab.aj 0).bind fun y12=>
     (RU y12 a0.ab.ae a0.ab.ao).bind fun v13=>
     (NV v13 a0.ab.ao a0.az a1.b8).bind fun v14=>
     some ((⟨(⟨v2.ab.ae,v2.ab.aj,v2.ab.bp,v14.1⟩:Aq),(⟨([]:Ab),false⟩:AD),(⟨v14.2.al,v14.2.a6⟩:AD)⟩:Ax),true)
    else
     some (v2,false)
   else
    some (v2,false)
def ZT (a0:Ax) (a1:BT):Option (Ax × Bool × Bool):=
 (VN a0 a1).bind fun v1=>
 if(!v1)then
  some ((⟨(⟨([]:Ab), [], [], []⟩:Aq),(⟨([]:Ab),false⟩:AD),(⟨([]:Ab),false⟩:AD)⟩:Ax),false,false)
 else
  (Mh a0 a1).bind fun v2=>
  some (v2.1,v2.2,true)
def RX (a0:Ad) (v1:List AE) (v2:List (Ab)) (v3:Int):Option ((List (Ab) × Int) ⊕ Option (List (Ab))):=
 if(decide (v3<(v1.length:Int)))then
  (getI v1 v3).bind fun y4=>
  (IQ a0 y4).bind fun v5=>
  req ((((v2).length:Int)+(([v5.af]:List (Ab)).length:Int))*16≤140737488355328∧((v2).length:Int)+(([v5.af]:List (Ab)).length:Int)≤140737488355328)<|
  some (.inl ((v2++ [v5.af]),(IntKind.i64.wrap (v3+1))))
 else
  some (.inr (some v2))
def V0 (a0:Ad) (a1:List Ac):Option (List (Ab)):=
 (Jp a0 a1).bind fun v1=>
 Ay (fun s:List (Ab) × Int=>RX a0 v1 s.1 s.2) ([],0)
def YU (a1:Ad) (a2:List (Ab)) (v1:Bool) (v2:List Int) (v3 v4:Int):Option (AD × Ap):=
 if v1 then
  (Ii (⟨v2,v3,v4⟩:Ap) a2).bind fun v5=>
  (F8 v5.2 3).bind fun v6=>
  some ((⟨v5.1,v6.1⟩:AD),v6.2)
 else
  req ((a1.ae).length+(([47,50]:Ab)).length≤9223372036854775807)<|
  (Ii (⟨v2,v3,v4⟩:Ap) ([([]:Ab),([]:Ab),([97]:Ab),([122,122]:Ab),(a1.ae++([47,50]:Ab))]:List (Ab))).bind fun v7=>
  (F8 v7.2 4).bind fun v8=>
  some ((⟨v7.1,v8.1⟩:AD),v8.2)
def VH (a0:Ap) (a1:Ad) (a2:List (Ab)):Option (AD × Ap):=
 if(decide ((a2.length:Int)>0))then
  (F8 a0 2).bind fun v9=>
  YU a1 a2 v9.1 v9.2.ax v9.2.bw v9.2.a7
 else
  YU a1 a2 false a0.ax a0.bw a0.a7
def Zj (a0:Ad) (a1 a2:Ab):Option (Ab × Ab × Bool):=
 (P4 a2 47).bind fun v1=>
 if((v1.length:Int) !=3)then
  some (([]:Ab),([]:Ab),false)
 else
  (getI v1 0).bind fun y2=>
  req ((a0.ae).length+(([46]:Ab)).length≤9223372036854775807)<|
  req (((a0.ae++([46]:Ab))).length+(a1).length≤9223372036854775807)<|
  if(y2 !=((a0.ae++([46]:Ab))++a1))then
   some (([]:Ab),([]:Ab),false)
  else
   (getI v1 1).bind fun y3=>
   (SM y3).bind fun v4=>
   if v4 then
    (getI v1 2).bind fun y5=>
    (SM y5).bind fun v6=>
    if(!v6)then
     some (([]:Ab),([]:Ab),false)
    else
     some (y3,y5,true)
   else
    some (([]:Ab),([]:Ab),false)
def RY (a0:Ad) (a1:Ab) (a2:List Ac) (v1:List (Ab)) (v2:Int):Option ((List (Ab) × Int) ⊕ Option (List (Ab))):=
 if(decide (v2<(a2.length:Int)))then
  (getI a2 v2).bind fun y3=>
  (Zj a0 a1 y3.af).bind fun v4=>
  if v4.2.2 then
   req ((((v1).length:Int)+(([y3.af]:List (Ab)).length:Int))*16≤140737488355328∧((v1).length:Int)+(([y3.af]:List (Ab)).length:Int)≤140737488355328)<|
   some (.inl ((v1++ [y3.af]),(IntKind.i64.wrap (v2+1))))
  else
   some (.inl (v1,(IntKind.i64.wrap (v2+1))))
 else
  some (.inr (some v1))
def Jq (a0:Ad) (a1:Ab) (a2:List Ac):Option (List (Ab)):=
 Ay (fun s:List (Ab) × Int=>RY a0 a1 a2 s.1 s.2) ([],0)
def VG (a0:Ap):Option (Ax × Ap):=
 (NL a0).bind fun v1=>
 (F8 v1.2 3).bind fun v2=>
 if v2.1 then
  (getI v1.1.aj 0).bind fun y3=>
  (V0 y3 v1.1.ao).bind fun v4=>
  (VH v2.2 y3 v4).bind fun v5=>
  (Jq y3 v1.1.ae v1.1.ao).bind fun v6=>
  (VH v5.2 y3 v6).bind fun v7=>
  some ((⟨v1.1,(⟨v5.1.al,v5.1.a6⟩:AD),(⟨v7.1.al,v7.1.a6⟩:AD)⟩:Ax),(⟨v7.2.ax,v7.2.bw,v7.2.a7⟩:Ap))
 else
  some ((⟨v1.1,(⟨([]:Ab),false⟩:AD),(⟨([]:Ab),false⟩:AD)⟩:Ax),(⟨v2.2.ax,v2.2.bw,v2.2.a7⟩:Ap))
def Vx (a0:Ap):Option (Ax × Ap):=
 (VG a0).bind fun v1=>
 (C5 v1.2 10).bind fun v2=>
 if(v2.1==0)then
  (YP v2.2).bind fun v3=>
  some ((⟨(⟨v3.1.ae,v3.1.aj,v3.1.bp,v3.1.ao⟩:Aq),(⟨v1.1.ca.al,v1.1.ca.a6⟩:AD),(⟨v1.1.az.al,v1.1.az.a6⟩:AD)⟩:Ax),(⟨v3.2.ax,v3.2.bw,v3.2.a7⟩:Ap))
 else
  if(v2.1==1)then
   (Ii v2.2 ([([65]:Ab),([97,98,99,100,101,102,103,104,105,106,107,108,109]:Ab),([33]:Ab)]:List (Ab))).bind fun v4=>
   some ((⟨(⟨v1.1.ab.ae,v1.1.ab.aj,v1.1.ab.bp,v1.1.ab.ao⟩:Aq),(⟨v4.1,v1.1.ca.a6⟩:AD),(⟨v1.1.az.al,v1.1.az.a6⟩:AD)⟩:Ax),(⟨v4.2.ax,v4.2.bw,v4.2.a7⟩:Ap))
  else
   if(v2.1==2)then
    (Ii v2.2 ([([65]:Ab),([97,98,99,100,101,102,103,104,105,106,107,108,109]:Ab),([33]:Ab)]:List (Ab))).bind fun v5=>
    some ((⟨(⟨v1.1.ab.ae,v1.1.ab.aj,v1.1.ab.bp,v1.1.ab.ao⟩:Aq),(⟨v1.1.ca.al,v1.1.ca.a6⟩:AD),(⟨v5.1,v1.1.az.a6⟩:AD)⟩:Ax),(⟨v5.2.ax,v5.2.bw,v5.2.a7⟩:Ap))
   else
    some ((⟨(⟨v1.1.ab.ae,v1.1.ab.aj,v1.1.ab.bp,v1.1.ab.ao⟩:Aq),(⟨v1.1.ca.al,v1.1.ca.a6⟩:AD),(⟨v1.1.az.al,v1.1.az.a6⟩:AD)⟩:Ax),(⟨v2.2.ax,v2.2.bw,v2.2.a7⟩:Ap))
def V6 (a0:AD):Option (Bool):=
 if(a0.al==([]:Ab))then
  some true
 else
  (SZ a0.al).bind fun v1=>
  some v1
def Kp (a0:Ax):Option (Bool):=
 (Sr a0.ab).bind fun v1=>
 if v1 then
  (V6 a0.ca).bind fun v2=>
  if v2 then
   (V6 a0.az).bind fun v3=>
   some v3
  else
   some false
 else
  some false
def RS (a0:Ap) (a1:List Int):Option (Int × Ap):=
 (C5 a0 (a1.length:Int)).bind fun v1=>
 (getI a1 v1.1).bind fun y2=>
 some (y2,v1.2)
def Y7 (a1:Ad) (v3:List Int) (v4 v5:Int) (v6:List (Ab)):Option (Bb × Ap):=
 (C5 (⟨v3,v4,v5⟩:Ap) 3).bind fun v7=>
 if(v7.1==0)then
  (NK v7.2 a1).bind fun v8=>
  some ((⟨1,(⟨[]⟩:AE),v8.1⟩:Bb),v8.2)
 else
  if(v7.1==1)then
   some ((⟨2,(⟨v6⟩:AE),(⟨[]⟩:AE)⟩:Bb),v7.2)
  else
   (NK v7.2 a1).bind fun v9=>
   (getI v6 0).bind fun y10=>
   (getI v9.1.ay 0).bind fun y11=>
   some ((⟨3,(⟨v6⟩:AE),(⟨(v9.1.ay.set ((0:Int)).toNat y10)⟩:AE)⟩:Bb),v9.2)
def Zc (a1:Ad) (v1:List AE) (v2:AE × Ap) (v12:Bool) (v13:List Int) (v14 v15:Int):Option (Bb × Ap):=
 if v12 then
  (C5 (⟨v13,v14,v15⟩:Ap) (v1.length:Int)).bind fun v16=>
  (getI v1 v16.1).bind fun y17=>
  Y7 a1 v16.2.ax v16.2.bw v16.2.a7 y17.ay
 else
  Y7 a1 v13 v14 v15 v2.1.ay
def Zd (a0:Ap) (a1:Ad) (a2:List Ac):Option (Bb × Ap):=
 (Jp a1 a2).bind fun v1=>
 (NK a0 a1).bind fun v2=>
 if(decide ((v1.length:Int)>0))then
  (F8 v2.2 4).bind fun v18=>
  Zc a1 v1 v2 (!v18.1) v18.2.ax v18.2.bw v18.2.a7
 else
  Zc a1 v1 v2 false v2.2.ax v2.2.bw v2.2.a7
def YX (a0:Ap) (a1:Aq):Option (C4 × Ap):=
 (C5 a0 (a1.bp.length:Int)).bind fun v1=>
 (F8 v1.2 3).bind fun v2=>
 if v2.1 then
  (RS v2.2 ([1,1,1,(-1)]:List Int)).bind fun v3=>
  some ((⟨v1.1,v3.1,(⟨0,(⟨[]⟩:AE),(⟨[]⟩:AE)⟩:Bb)⟩:C4),v3.2)
 else
  (getI a1.aj 0).bind fun y4=>
  (Zd v2.2 y4 a1.ao).bind fun v5=>
  some ((⟨v1.1,0,v5.1⟩:C4),v5.2)
def VB (a0:Ap) (a1:Ax):Option (BT × Ap):=
 (C5 a0 4).bind fun v1=>
 if(v1.1==0)then
  (C5 v1.2 3).bind fun v2=>
  some ((⟨2,(IntKind.i64.wrap ((1:Int)+v2.1)),(⟨0,0,(⟨0,(⟨[]⟩:AE),(⟨[]⟩:AE)⟩:Bb)⟩:C4)⟩:BT),v2.2)
 else
  if(v1.1==1)then
   (RS v1.2 ([2,3]:List Int)).bind fun v3=>
   (C5 v3.2 3).bind fun v4=>
   some ((⟨v3.1,(IntKind.i64.wrap ((1:Int)+v4.1)),(⟨0,0,(⟨0,(⟨[]⟩:AE),(⟨[]⟩:AE)⟩:Bb)⟩:C4)⟩:BT),v4.2)
  else
   (YX v1.2 a1.ab).bind fun v5=>
   some ((⟨1,0,v5.1⟩:BT),v5.2)
def mN (a0:List Int):Option (Ax × BT):=
 (Vx (⟨a0,0,0⟩:Ap)).bind fun v1=>
 (Kp v1.1).bind fun v2=>
 if(!v2)then
  some (v1.1,(⟨2,1,(⟨0,0,(⟨0,(⟨[]⟩:AE),(⟨[]⟩:AE)⟩:Bb)⟩:C4)⟩:BT))
 else
  (VB v1.2 v1.1).bind fun v3=>
  (C5 v3.2 14).bind fun v4=>
  if(v4.1==0)then
   (C5 v4.2 5).bind fun v5=>
   some (v1.1,(⟨v5.1,v3.1.b8,(⟨v3.1.au.a8,v3.1.au.bg,v3.1.au.au⟩:C4)⟩:BT))
  else
   if(v4.1==1)then
    (RS v4.2 ([(-1),0,24,25]:List Int)).bind fun v6=>
    some (v1.1,(⟨v3.1.ak,v6.1,(⟨v3.1.au.a8,v3.1.au.bg,v3.1.au.au⟩:C4)⟩:BT))
   else
    if(v4.1==2)then
     (C5 v4.2 4).bind fun v7=>
     some (v1.1,(⟨v3.1.ak,v3.1.b8,(⟨v7.1,v3.1.au.bg,v3.1.au.au⟩:C4)⟩:BT))
    else
     some (v1.1,(⟨v3.1.ak,v3.1.b8,(⟨v3.1.au.a8,v3.1.au.bg,v3.1.au.au⟩:C4)⟩:BT))
def Zz (a0:Bb):Option (Bool):=
 some (((a0.ak==0)&&((a0.bq.ay.length:Int)==0))&&((a0.bz.ay.length:Int)==0))
def V4 (a0:Ad) (a1:Bb):Option (Bool):=
 if(a1.ak==1)then
  if((a1.bq.ay.length:Int)==0)then
   (NS a0 a1.bz).bind fun v1=>
   some v1
  else
   some false
 else
  if(a1.ak==2)then
   if((a1.bz.ay.length:Int)==0)then
    (NS a0 a1.bq).bind fun v2=>
    some v2
   else
    some false
  else
   if(a1.ak==3)then
    (NS a0 a1.bq).bind fun v3=>
    if v3 then
     (NS a0 a1.bz).bind fun v4=>
     if v4 then
      (getI a1.bq.ay 0).bind fun y5=>
      (getI a1.bz.ay 0).bind fun y6=>
      some (y5==y6)
     else
      some false
    else
     some false
   else
    some false
def Z4 (a0:Aq) (a1:C4):Option (Bool):=
 (Ga a1.a8 0 (IntKind.i64.wrap ((a0.bp.length:Int)-1))).bind fun v1=>
 if(!v1)then
  some false
 else
  if((a1.bg==1)||(a1.bg==(-1)))then
   (Zz a1.au).bind fun v2=>
   some v2
  else
   if(a1.bg==0)then
    (getI a0.bp a1.a8).bind fun y3=>
    (getI a0.aj y3).bind fun y4=>
    (V4 y4 a1.au).bind fun v5=>
    some v5
   else
    some false
def oG (a0:Int):Option (Bool):=
 (Ga a0 1 24).bind fun v1=>
 some v1
def Zo (a1:BT) (v2:Bool):Option (Bool):=
 if v2 then
  (oG a1.b8).bind fun v3=>
  if v3 then
   if(a1.au.a8==0)then
    if(a1.au.bg==0)then
     (Zz a1.au.au).bind fun v4=>
     some v4
    else
     some false
   else
    some false
  else
   some false
 else
  some false
def SD (a0:Ax) (a1:BT):Option (Bool):=
 if(a1.ak==1)then
  if(a1.b8==0)then
   (Z4 a0.ab a1.au).bind fun v1=>
   some v1
  else
   some false
 else
  if(a1.ak==2)then
   Zo a1 (a1.ak==2)
  else
   Zo a1 (a1.ak==3)
def Zs (a0:Ax) (a1:BT):Option (Bool):=
 (Kp a0).bind fun v1=>
 if v1 then
  (SD a0 a1).bind fun v2=>
  some v2
 else
  some false
def SP (a0:Ax):Option (Ax):=
 (SS a0.ab).bind fun v1=>
 some (⟨v1,a0.ca,a0.az⟩:Ax)
def R4 (v1:List Int) (v2 v3:Bool) (v4:Int):Option ((Bool × Bool × Int) ⊕ Option (Bool × Bool)):=
 if(decide (v4<(v1.length:Int)))then
  (getI v1 v4).bind fun y5=>
  some (.inl ((v2&&(decide (y5≥2))),(v3||(decide (y5≥2))),(IntKind.i64.wrap (v4+1))))
 else
  some (.inr (some (v2,v3)))
def Z2 (a0:Aq):Option (Bool × Bool):=
 (Ml a0).bind fun v1=>
 Ay (fun s:Bool × Bool × Int=>R4 v1 s.1 s.2.1 s.2.2) (true,false,0)
def SX (a0:Ad) (a1:Bb):Option (Bool):=
 (Mk a0).bind fun v1=>
 if v1 then
  (V4 a0 a1).bind fun v2=>
  some v2
 else
  some false
def Z0 (a0:Ad) (a1:Bb):Option (List AA):=
 if(a1.ak==1)then
  (IQ a0 a1.bz).bind fun v1=>
  some [(⟨6,v1.af,([]:Ab),0⟩:AA),(⟨2,v1.af,v1.bb,0⟩:AA)]
 else
  (IQ a0 a1.bq).bind fun v2=>
  if(a1.ak==2)then
   some [(⟨7,v2.af,v2.bb,0⟩:AA),(⟨3,v2.af,([]:Ab),0⟩:AA)]
  else
   (IQ a0 a1.bz).bind fun v3=>
   some [(⟨7,v2.af,v2.bb,0⟩:AA),(⟨2,v2.af,v3.bb,0⟩:AA)]
def ZH (a1:Au) (v2:Ab) (v3:List AA):Option (List AA):=
 if((v2 !=([]:Ab))&&(decide (a1.aq≥2)))then
  req ((((v3).length:Int)+(([(⟨2,v2,([]:Ab),0⟩:AA)]:List AA).length:Int))*48≤140737488355328∧((v3).length:Int)+(([(⟨2,v2,([]:Ab),0⟩:AA)]:List AA).length:Int)≤140737488355328)<|
  some (v3++ [(⟨2,v2,([]:Ab),0⟩:AA)])
 else
  some v3
def VT (a1:Au) (v1 v2:Ab):Option (List AA):=
 if(((v1 !=([]:Ab))&&(v1 !=v2))&&(decide (a1.aq≥1)))then
  req (((([]:List AA).length:Int)+(([(⟨3,v1,([]:Ab),0⟩:AA)]:List AA).length:Int))*48≤140737488355328∧(([]:List AA).length:Int)+(([(⟨3,v1,([]:Ab),0⟩:AA)]:List AA).length:Int)≤140737488355328)<|
  ZH a1 v2 [(⟨3,v1,([]:Ab),0⟩:AA)]
 else
  ZH a1 v2 []
def ZG (a0:Ad) (a1:Au) (a2:Bb) (v1:Ab):Option (List AA):=
 if(a2.ak !=2)then
  (IS a0 a1 a2.bz).bind fun v4=>
  VT a1 v1 v4
 else
  VT a1 v1 ([]:Ab)
def Wg (a0:Ad) (a1:Au) (a2:Bb):Option (List AA):=
 Va (σ:=Ab) (
  if(a2.ak !=1)then
   (IS a0 a1 a2.bq).bind fun v5=>
   some (.inl v5)
  else
   some (.inl ([]:Ab))
 ) (fun s=>ZG a0 a1 a2 s)
def Ss (a0:Ad) (a1:Bb) (v2:Int) (v3:List AA):Option ((Int × List AA) ⊕ Option (List AA)):=
 if(decide (v2<(a0.ah.length:Int)))then
  (getI a0.ah v2).bind fun y4=>
  (Wg a0 y4 a1).bind fun v5=>
  req ((((v3).length:Int)+((v5).length:Int))*48≤140737488355328∧((v3).length:Int)+((v5).length:Int)≤140737488355328)<|
  some (.inl ((IntKind.i64.wrap (v2+1)),(v3++v5)))
 else
  some (.inr (some v3))
def aT (a0:Ad) (a1:Bb):Option (List AA):=
 (Z0 a0 a1).bind fun v1=>
 Ay (fun s:Int × List AA=>Ss a0 a1 s.1 s.2) (0,v1)
def oD (a0:AA) (v2:Bool):Option (Bool):=
 if v2 then
  (Wn a0.bb).bind fun v3=>
  some (v3&&(a0.jj==0))
 else
  if(a0.ak==4)then
   if(a0.ak==4)then
    if(a0.bb==([]:Ab))then
     (Ga a0.jj (-9999) 9999).bind fun v4=>
     some v4
    else
     some false
   else
    some (((((a0.ak==1)||(a0.ak==3))||(a0.ak==6))&&(a0.bb==([]:Ab)))&&(a0.jj==0))
  else
   if(a0.ak==5)then
    if(a0.bb==([]:Ab))then
     (Ga a0.jj (-9999) 9999).bind fun v5=>
     some v5
    else
     some false
   else
    some (((((a0.ak==1)||(a0.ak==3))||(a0.ak==6))&&(a0.bb==([]:Ab)))&&(a0.jj==0))
def bL (a0:AA):Option (Bool):=
 (SZ a0.af).bind fun v1=>
 if(!v1)then
  some false
 else
  if(a0.ak==2)then
   oD a0 (a0.ak==2)
  else
   oD a0 (a0.ak==7)
def nU (a0:List AA):Option (Bool):=
 some (decide ((a0.length:Int)≤8))
def So (a0:List AA) (v1:Int):Option ((Int) ⊕ Option (Bool)):=
 if(decide (v1<(a0.length:Int)))then
  (getI a0 v1).bind fun y2=>
  (bL y2).bind fun v3=>
  if(!v3)then
   some (.inr (some false))
  else
   some (.inl (IntKind.i64.wrap (v1+1)))
 else
  some (.inr (nU a0))
def aU (a0:List AA):Option (Bool):=
 Ay (fun s:Int=>So a0 s) 0
def R9 (a1:List BP) (a2:Ab) (v1:Int):Option ((Int) ⊕ Option (Ab × Bool × Bool)):=
 if(decide (v1<(a1.length:Int)))then
  (getI a1 v1).bind fun y2=>
  if(y2.af==a2)then
   some (.inr (some (y2.bb,y2.dn,true)))
  else
   some (.inl (IntKind.i64.wrap (v1+1)))
 else
  some (.inr (some (([]:Ab),false,false)))
def Zr (a1:List BP) (a2:Ab):Option (Ab × Bool × Bool):=
 Ay (fun s:Int=>R9 a1 a2 s) 0
def R7 (a0:List Ac) (a1:List BP) (a2:Ab) (v3:Int):Option ((Int) ⊕ Option (Ab × Bool × Bool)):=
 if(decide (v3<(a0.length:Int)))then
  (getI a0 v3).bind fun y4=>
  if(y4.af==a2)then
   some (.inr (some (y4.bb,(!y4.bh),true)))
  else
   some (.inl (IntKind.i64.wrap (v3+1)))
 else
  some (.inr (Zr a1 a2))
def zip (a0:List Ac) (a1:List BP) (a2:Ab):Option (Ab × Bool × Bool):=
 Ay (fun s:Int=>R7 a0 a1 a2 s) 0
def Mj (a0:Ab) (v3 v4:Int):Option ((Int × Int) ⊕ Option (Int)):=
 if(decide (v4<(a0.length:Int)))then
  (getI a0 v4).bind fun y5=>
  if((decide ((y5.toNat:Int)<48))||(decide ((y5.toNat:Int)>57)))then
   some (.inr (some (-1)))
  else
   some (.inl ((IntKind.i64.wrap ((IntKind.i64.wrap ((10:Int)*v3))+(IntKind.i64.wrap (IntKind.u8.wrap ((y5.toNat:Int)-48))))),(IntKind.i64.wrap (v4+1))))
 else
  some (.inr (some v3))
def Wl (a0:Ab):Option (Int):=
 (Ga (a0.length:Int) 1 6).bind fun v1=>
 if v1 then
  (getI a0 0).bind fun y2=>
  if(((y2.toNat:Int)==48)&&(decide ((a0.length:Int)>1)))then
   some (-1)
  else
   Ay (fun s:Int × Int=>Mj a0 s.1 s.2) (0,0)
 else
  some (-1)
def ZV (y1:UInt8) (v2:Ab):Option (Int × Bool):=
 (Wl v2).bind fun v3=>
 if((decide (v3<0))||(((y1.toNat:Int)==45)&&(v3==0)))then
  some (0,false)
 else
  if((y1.toNat:Int)==45)then
   some ((IntKind.i64.wrap (0-v3)),true)
  else
   some (v3,true)
def zm9 (v4:Ab):Option (Int × Bool):=
 (Wl v4).bind fun v5=>
 if((decide (v5<0))||false)then
  some (0,false)
 else
  some (v5,true)
def Wp (a0:Ab):Option (Int × Bool):=
 if(decide ((a0.length:Int)>0))then
  (getI a0 0).bind fun y1=>
  if((y1.toNat:Int)==45)then
   req (0≤(1:Int)∧(1:Int)≤(a0.length:Int)∧(a0.length:Int)≤(a0.length:Int))<|
   ZV y1 (Bn a0 1 (a0.length:Int))
  else
   ZV y1 a0
 else
  zm9 a0
def aD (a0:AA) (a1:Ab) (a2:Bool):Option (Bool):=
 (Wp a1).bind fun v1=>
 if(a0.ak==4)then
  if(!a2)then
   some false
  else
   if v1.2 then
    (Ga (IntKind.i64.wrap (v1.1+a0.jj)) (-999999) 999999).bind fun v2=>
    some (!v2)
   else
    some true
 else
  if(a0.ak==5)then
   some (((!a2)||(!v1.2))||(decide (v1.1<a0.jj)))
  else
   if(a0.ak==6)then
    some a2
   else
    if(a0.ak==7)then
     some ((!a2)||(a1 !=a0.bb))
    else
     some false
def Wi:Nat→Int→Option (Ab)
 |0,_=>none
 |n_+1,a0=>
  if(decide (a0<10))then
   req (([(IntKind.u8.wrap (IntKind.i64.wrap ((48:Int)+a0)))]:List Int).length≤9223372036854775807)<|
   some ([(IntKind.u8.wrap (IntKind.i64.wrap ((48:Int)+a0)))].map fun n=>UInt8.ofNat n.toNat)
  else
   ((Wi n_) (IntKind.i64.wrap (Int.tdiv a0 10))).bind fun v1=>
   req (([(IntKind.u8.wrap (IntKind.i64.wrap ((48:Int)+(Int.tmod a0 10))))]:List Int).length≤9223372036854775807)<|
   req ((v1).length+(([(IntKind.u8.wrap (IntKind.i64.wrap ((48:Int)+(Int.tmod a0 10))))].map fun n=>UInt8.ofNat n.toNat)).length≤9223372036854775807)<|
   some (v1++([(IntKind.u8.wrap (IntKind.i64.wrap ((48:Int)+(Int.tmod a0 10))))].map fun n=>UInt8.ofNat n.toNat))
def pA:Int→Option (Ab):=Wi zIr
def oV (a0:Int):Option (Ab):=
 if(decide (a0<0))then
  (pA (IntKind.i64.wrap (0-a0))).bind fun v1=>
  req ((([45]:Ab)).length+(v1).length≤9223372036854775807)<|
  some ((([45]:Ab):Ab)++v1)
 else
  (pA a0).bind fun v2=>
  some v2
def IP (a0:List AA) (a1:List BP) (v1:List Ac) (v2:Int):Option ((List Ac × Int) ⊕ Option (Int × Ab × List Ac)):=
 if(decide (v2<(a0.length:Int)))then
  (getI a0 v2).bind fun y3=>
  (zip v1 a1 y3.af).bind fun v4=>
  if(((!v4.2.2)&&(y3.ak !=2))&&(y3.ak !=3))then
   some (.inr (some (1,y3.af, [])))
  else
   (aD y3 v4.1 v4.2.1).bind fun v5=>
   if v5 then
    some (.inr (some (2,([]:Ab), [])))
   else
    if(y3.ak==2)then
     (G8 v1 (⟨y3.af,y3.bb,false⟩:Ac)).bind fun v6=>
     some (.inl (v6,(IntKind.i64.wrap (v2+1))))
    else
     if(y3.ak==3)then
      (G8 v1 (⟨y3.af,([]:Ab),true⟩:Ac)).bind fun v7=>
      some (.inl (v7,(IntKind.i64.wrap (v2+1))))
     else
      if(y3.ak==4)then
       (Wp v4.1).bind fun v8=>
       if(!v4.2.1)then
        (oV (IntKind.i64.wrap ((0:Int)+y3.jj))).bind fun v9=>
        (G8 v1 (⟨y3.af,v9,false⟩:Ac)).bind fun v10=>
        some (.inl (v10,(IntKind.i64.wrap (v2+1))))
       else
        (oV (IntKind.i64.wrap (v8.1+y3.jj))).bind fun v11=>
        (G8 v1 (⟨y3.af,v11,false⟩:Ac)).bind fun v12=>
        some (.inl (v12,(IntKind.i64.wrap (v2+1))))
      else
       some (.inl (v1,(IntKind.i64.wrap (v2+1))))
 else
  some (.inr (some (3,([]:Ab),v1)))
def oS (a0:List AA) (a1:List BP):Option (Int × Ab × List Ac):=
 Ay (fun s:List Ac × Int=>IP a0 a1 s.1 s.2) ([],0)
def zmX (a1:Ab):Option (BP):=
 some (⟨a1,([]:Ab),false⟩:BP)
def Sn (a0:List Ac) (a1:Ab) (v1:Int):Option ((Int) ⊕ Option (BP)):=
 if(decide (v1<(a0.length:Int)))then
  (getI a0 v1).bind fun y2=>
  if(y2.af==a1)then
   some (.inr (some (⟨a1,y2.bb,true⟩:BP)))
  else
   some (.inl (IntKind.i64.wrap (v1+1)))
 else
  some (.inr (zmX a1))
def aS (a0:List Ac) (a1:Ab):Option (BP):=
 Ay (fun s:Int=>Sn a0 a1 s) 0
def P2 (a0:List Ac) (a1:List AA) (v1:List BP):Option ((List BP) ⊕ Option (List BP × List Ac × Bool)):=
 (oS a1 v1).bind fun v2=>
 if(v2.1 !=1)then
  some (.inr (some (v1,v2.2.2,(v2.1==3))))
 else
  (aS a0 v2.2.1).bind fun v3=>
  req ((((v1).length:Int)+(([v3]:List BP).length:Int))*40≤140737488355328∧((v1).length:Int)+(([v3]:List BP).length:Int)≤140737488355328)<|
  some (.inl (v1++ [v3]))
def oI (a0:List Ac) (a1:List AA):Option (List BP × List Ac × Bool):=
 Ay (fun s:List BP=>P2 a0 a1 s) []
def Sg (v1 v2:List Ac) (v3:Int):Option ((List Ac × Int) ⊕ Option (List Ac)):=
 if(decide (v3<(v1.length:Int)))then
  (getI v1 v3).bind fun y4=>
  if(!y4.bh)then
   req ((((v2).length:Int)+(([y4]:List Ac).length:Int))*40≤140737488355328∧((v2).length:Int)+(([y4]:List Ac).length:Int)≤140737488355328)<|
   some (.inl ((v2++ [y4]),(IntKind.i64.wrap (v3+1))))
  else
   some (.inl (v2,(IntKind.i64.wrap (v3+1))))
 else
  some (.inr (some v2))
def mO (v1:List Ac):Option (List Ac):=
 Ay (fun s:List Ac × Int=>Sg v1 s.1 s.2) ([],0)
def Sd (a1:List Ac) (v5:Int) (v6:List Ac):Option ((Int × List Ac) ⊕ Option (List Ac)):=
 if(decide (v5<(a1.length:Int)))then
  (getI a1 v5).bind fun y7=>
  (G8 v6 y7).bind fun v8=>
  some (.inl ((IntKind.i64.wrap (v5+1)),v8))
 else
  some (.inr (mO v6))
def ZM (a0 a1:List Ac):Option (List Ac):=
 req (((([]:List Ac).length:Int)+((a0).length:Int))*40≤140737488355328∧(([]:List Ac).length:Int)+((a0).length:Int)≤140737488355328)<|
 Ay (fun s:Int × List Ac=>Sd a1 s.1 s.2) (0,a0)
def PZ (a1:List (List AA)) (v2:List Bool) (v3:Int) (v4:List Ac):Option ((List Bool × Int × List Ac) ⊕ Option (List Ac × List Bool × Bool)):=
 if(decide (v3<(a1.length:Int)))then
  (getI a1 v3).bind fun y5=>
  (oI v4 y5).bind fun v6=>
  (ZM v4 v6.2.1).bind fun v7=>
  if v6.2.2 then
   (K6 v7).bind fun v8=>
   if v8 then
    req ((((v2).length:Int)+(([v8]:List Bool).length:Int))*1≤140737488355328∧((v2).length:Int)+(([v8]:List Bool).length:Int)≤140737488355328)<|
    some (.inl ((v2++ [v8]),(IntKind.i64.wrap (v3+1)),v7))
   else
    req ((((v2).length:Int)+(([v8]:List Bool).length:Int))*1≤140737488355328∧((v2).length:Int)+(([v8]:List Bool).length:Int)≤140737488355328)<|
    some (.inl ((v2++ [v8]),(IntKind.i64.wrap (v3+1)),v4))
  else
   req ((((v2).length:Int)+(([false]:List Bool).length:Int))*1≤140737488355328∧((v2).length:Int)+(([false]:List Bool).length:Int)≤140737488355328)<|
   some (.inl ((v2++ [false]),(IntKind.i64.wrap (v3+1)),v4))
 else
  some (.inr (some (v4,v2,true)))
def mM (a0:List Ac) (a1:List (List AA)):Option (List Ac × List Bool × Bool):=
 req (((([]:List Ac).length:Int)+((a0).length:Int))*40≤140737488355328∧(([]:List Ac).length:Int)+((a0).length:Int)≤140737488355328)<|
 Ay (fun s:List Bool × Int × List Ac=>PZ a1 s.1 s.2.1 s.2.2) ([],0,a0)
def PY (a0:List Ac) (a1:List (List AA)) (v9:Int):Option ((Int) ⊕ Option (List Ac × List Bool × Bool)):=
 if(decide (v9<(a1.length:Int)))then
  (getI a1 v9).bind fun y10=>
  (aU y10).bind fun v11=>
  if(!v11)then
   some (.inr (some ([], [],false)))
  else
   some (.inl (IntKind.i64.wrap (v9+1)))
 else
  some (.inr (mM a0 a1))
def ZL (a0:List Ac) (a1:List (List AA)):Option (List Ac × List Bool × Bool):=
 (K6 a0).bind fun v1=>
 if((!v1)||(decide ((a1.length:Int)>20)))then
  some ([], [],false)
 else
  Ay (fun s:Int=>PY a0 a1 s) 0
def Qd (a0:List Ac) (a1:List AA):Option (List Ac × Bool):=
 (ZL a0 ([a1]:List (List AA))).bind fun v1=>
 if((v1.2.1.length:Int)==1)then
  (getI v1.2.1 0).bind fun y2=>
  some (v1.1,y2)
 else
  some (v1.1,false)
def SY (a0:Ad) (a1:List Ac) (a2:Bb):Option (List Ac × Bool × Bool):=
 (SX a0 a2).bind fun v1=>
 if v1 then
  (K6 a1).bind fun v2=>
  if(!v2)then
   some ([],false,false)
  else
   (aT a0 a2).bind fun v3=>
   (Qd a1 v3).bind fun v4=>
   some (v4.1,v4.2,true)
 else
  some ([],false,false)
def G7 (a0:Aq) (a1:C4):Option (Aq × Bool):=
 (SS a0).bind fun v1=>
 if(a1.bg !=0)then
  (getI v1.bp a1.a8).bind fun y2=>
  (Ga (IntKind.i64.wrap (y2+a1.bg)) 0 (IntKind.i64.wrap ((a0.aj.length:Int)-1))).bind fun v3=>
  if(!v3)then
   some (v1,false)
  else
   some ((⟨v1.ae,v1.aj,(v1.bp.set (a1.a8).toNat (IntKind.i64.wrap (y2+a1.bg))),v1.ao⟩:Aq),true)
 else
  (getI a0.bp a1.a8).bind fun y4=>
  (getI a0.aj y4).bind fun y5=>
  (SY y5 a0.ao a1.au).bind fun v6=>
  some ((⟨v1.ae,v1.aj,v1.bp,v6.1⟩:Aq),v6.2.1)
def nG (v1:Int):Option ((Int) ⊕ Option (Bool)):=
 some (.inl (IntKind.i64.wrap (v1+1)))
def PV (a0:List Int) (v1 y2 v3:Int):Option ((Int) ⊕ Option ((Int) ⊕ Option (Bool))):=
 if(decide (v3<(a0.length:Int)))then
  (getI a0 v3).bind fun y4=>
  if(decide ((IntKind.i64.wrap (y2-y4))>1))then
   some (.inr (some (.inr (some false))))
  else
   some (.inl (IntKind.i64.wrap (v3+1)))
 else
  some (.inr (nG v1))
def Sa (a0:List Int) (v1:Int):Option ((Int) ⊕ Option (Bool)):=
 if(decide (v1<(a0.length:Int)))then
  (getI a0 v1).bind fun y2=>
  Ay (fun s:Int=>PV a0 v1 y2 s) 0
 else
  some (.inr (some true))
def Sm (a0:List Int):Option (Bool):=
 Ay (fun s:Int=>Sa a0 s) 0
def P5 (a0:Ad) (a1:Ab) (a2:List Ac):Option (Bool):=
 (Mk a0).bind fun v1=>
 if v1 then
  (GQ a0 a1).bind fun v2=>
  if(decide (v2≥0))then
   (K6 a2).bind fun v3=>
   some v3
  else
   some false
 else
  some false
def R5 (a0:List (Ab)) (a1:List (Ab)) (v1:List (Ab)) (v2:Int):Option ((List (Ab) × Int) ⊕ Option (List (Ab))):=
 if(decide (v2<(a0.length:Int)))then
  (getI a0 v2).bind fun y3=>
  (Qc a1 y3).bind fun v4=>
  if(decide (v4<0))then
   req ((((v1).length:Int)+(([y3]:List (Ab)).length:Int))*16≤140737488355328∧((v1).length:Int)+(([y3]:List (Ab)).length:Int)≤140737488355328)<|
   some (.inl ((v1++ [y3]),(IntKind.i64.wrap (v2+1))))
  else
   some (.inl (v1,(IntKind.i64.wrap (v2+1))))
 else
  some (.inr (some v1))
def aF (a0:List (Ab)) (a1:List (Ab)):Option (List (Ab)):=
 Ay (fun s:List (Ab) × Int=>R5 a0 a1 s.1 s.2) ([],0)
def nI (a0:Ad) (a1:Ab) (a2:List Ac):Option (List (Ab) × Bool):=
 (P5 a0 a1 a2).bind fun v1=>
 if(!v1)then
  some ([],false)
 else
  (Jq a0 a1 a2).bind fun v2=>
  (Sq a0 a1 a2).bind fun v3=>
  (aF v2 v3).bind fun v4=>
  some (v4,true)
def oF (a0:Ad) (a1:Ab) (a2:List Ac):Option (List (Ab) × Bool):=
 (P5 a0 a1 a2).bind fun v1=>
 if(!v1)then
  some ([],false)
 else
  (Sq a0 a1 a2).bind fun v2=>
  (Jq a0 a1 a2).bind fun v3=>
  (aF v2 v3).bind fun v4=>
  some (v4,true)
def ZQ (a0:Ad) (a1:Ab) (a2:Int) (a3:List Ac):Option (Bool):=
 if(a2==0)then
  (Jq a0 a1 a3).bind fun v1=>
  some ((v1.length:Int)==0)
 else
  (nI a0 a1 a3).bind fun v2=>
  (oF a0 a1 a3).bind fun v3=>
  some (((v2.1.length:Int)==0)&&((a2==1)||((v3.1.length:Int)==0)))
def SF (a0:Aq):Option (Bool):=
 (getI a0.aj 0).bind fun y1=>
 (Wk a0).bind fun v2=>
 (ZQ y1 a0.ae v2 a0.ao).bind fun v3=>
 some v3
def Qb (a0:Aq) (a1:C4):Option (Bool):=
 (G7 a0 a1).bind fun v1=>
 if v1.2 then
  (Sm v1.1.bp).bind fun v2=>
  if v2 then
   (SF v1.1).bind fun v3=>
   some v3
  else
   some false
 else
  some false
def Mm (a0:Ax) (a1:C4):Option (Ax × Bool):=
 if(a1.bg !=0)then
  (Qb a0.ab a1).bind fun v1=>
  if(!v1)then
   some (a0,false)
  else
   (Ml a0.ab).bind fun v2=>
   (getI v2 a1.a8).bind fun y3=>
   (G7 a0.ab a1).bind fun v4=>
   if(!v4.2)then
    some (a0,false)
   else
    if((a1.bg==0)&&(decide (y3≥2)))then
     some ((⟨v4.1,(⟨a0.ca.al,a0.ca.a6⟩:AD),(⟨([]:Ab),false⟩:AD)⟩:Ax),true)
    else
     if(a1.bg==0)then
      some ((⟨v4.1,(⟨([]:Ab),false⟩:AD),(⟨a0.az.al,a0.az.a6⟩:AD)⟩:Ax),true)
     else
      some ((⟨v4.1,(⟨a0.ca.al,a0.ca.a6⟩:AD),(⟨a0.az.al,a0.az.a6⟩:AD)⟩:Ax),true)
 else
  (Ml a0.ab).bind fun v5=>
  (getI v5 a1.a8).bind fun y6=>
  (G7 a0.ab a1).bind fun v7=>
  if(!v7.2)then
   some (a0,false)
  else
   if((a1.bg==0)&&(decide (y6≥2)))then
    some ((⟨v7.1,(⟨a0.ca.al,a0.ca.a6⟩:AD),(⟨([]:Ab),false⟩:AD)⟩:Ax),true)
   else
    if(a1.bg==0)then
     some ((⟨v7.1,(⟨([]:Ab),false⟩:AD),(⟨a0.az.al,a0.az.a6⟩:AD)⟩:Ax),true)
    else
     some ((⟨v7.1,(⟨a0.ca.al,a0.ca.a6⟩:AD),(⟨a0.az.al,a0.az.a6⟩:AD)⟩:Ax),true)
def Z8 (a0:Ad) (a1:Au) (a2:AE):Option (List AA):=
 (IQ a0 a2).bind fun v1=>
 (IS a0 a1 a2).bind fun v2=>
 some [(⟨7,v1.af,v1.bb,0⟩:AA),(⟨2,v2,([]:Ab),0⟩:AA)]
def V3 (a0:List (Ab)) (a1:Ab) (v1:Int):Option ((Int) ⊕ Option (Bool)):=
 if(decide (v1<(a0.length:Int)))then
  (getI a0 v1).bind fun y2=>
  if(!(Op.bytesLess y2 a1||y2==a1))then
   some (.inr (some true))
  else
   some (.inl (IntKind.i64.wrap (v1+1)))
 else
  some (.inr (some false))
def Z7 (a0:List (Ab)) (a1:Ab):Option (Bool):=
 Ay (fun s:Int=>V3 a0 a1 s) 0
def SB (a0:Ad) (a3:AD) (v4:Ab) (v5:List Ac):Option (List Ac × AD):=
 if a3.a6 then
  some (v5,(⟨v4,true⟩:AD))
 else
  (V0 a0 v5).bind fun v6=>
  (Z7 v6 v4).bind fun v7=>
  some (v5,(⟨v4,(!v7)⟩:AD))
def Mg (a0:Ad) (a3:AD) (y2:Au) (v3:List AE) (v8 v9:Int) (v10:Ab) (v11:List Ac):Option ((Int × Int × Ab × List Ac) ⊕ Option (List Ac × AD)):=
 if(decide (v9<(v3.length:Int)))then
  (getI v3 v9).bind fun y12=>
  (IQ a0 y12).bind fun v13=>
  if((v8==0)||(Op.bytesLess v13.af v10||v13.af==v10))then
   some (.inl (v8,(IntKind.i64.wrap (v9+1)),v10,v11))
  else
   (Z8 a0 y2 y12).bind fun v14=>
   (Qd v11 v14).bind fun v15=>
   if(!v15.2)then
    some (.inr (SB a0 a3 v10 v11))
   else
    some (.inl ((IntKind.i64.wrap (v8-1)),(IntKind.i64.wrap (v9+1)),v13.af,v15.1))
 else
  some (.inr (SB a0 a3 v10 v11))
def Wh (a0:Ad) (a1:Ab) (a2:List Ac) (a3:AD) (a4:Int):Option (List Ac × AD):=
 req (((([]:List Ac).length:Int)+((a2).length:Int))*40≤140737488355328∧(([]:List Ac).length:Int)+((a2).length:Int)≤140737488355328)<|
 (GQ a0 a1).bind fun v1=>
 (getI a0.ah v1).bind fun y2=>
 (Jp a0 a2).bind fun v3=>
 Ay (fun s:Int × Int × Ab × List Ac=>Mg a0 a3 y2 v3 s.1 s.2.1 s.2.2.1 s.2.2.2) (a4,0,a3.al,a2)
def Zt (a0:Ad) (a1:Ab) (a3:AD) (v2:Ab) (v3:List Ac):Option (List Ac × AD):=
 if a3.a6 then
  some (v3,(⟨v2,true⟩:AD))
 else
  (Jq a0 a1 v3).bind fun v4=>
  (Z7 v4 v2).bind fun v5=>
  some (v3,(⟨v2,(!v5)⟩:AD))
def NP (a0:Ad) (a1:Ab) (a3:AD) (v1:List (Ab)) (v6 v7:Int) (v8:Ab) (v9:List Ac):Option ((Int × Int × Ab × List Ac) ⊕ Option (List Ac × AD)):=
 if(decide (v7<(v1.length:Int)))then
  (getI v1 v7).bind fun y10=>
  if((v6==0)||(Op.bytesLess y10 v8||y10==v8))then
   some (.inl (v6,(IntKind.i64.wrap (v7+1)),v8,v9))
  else
   (Qd v9 ([(⟨3,y10,([]:Ab),0⟩:AA)]:List AA)).bind fun v11=>
   some (.inl ((IntKind.i64.wrap (v6-1)),(IntKind.i64.wrap (v7+1)),y10,v11.1))
 else
  some (.inr (Zt a0 a1 a3 v8 v9))
def V8 (a0:Ad) (a1:Ab) (a2:List Ac) (a3:AD) (a4:Int):Option (List Ac × AD):=
 req (((([]:List Ac).length:Int)+((a2).length:Int))*40≤140737488355328∧(([]:List Ac).length:Int)+((a2).length:Int)≤140737488355328)<|
 (Jq a0 a1 a2).bind fun v1=>
 Ay (fun s:Int × Int × Ab × List Ac=>NP a0 a1 a3 v1 s.1 s.2.1 s.2.2.1 s.2.2.2) (a4,0,a3.al,a2)
def K5 (a0:Ax) (a1:BT):Option (Ax × Bool):=
 (Z2 a0.ab).bind fun v1=>
 if(a1.ak==1)then
  (Mm a0 a1.au).bind fun v2=>
  some (v2.1,v2.2)
 else
  if((a1.ak==2)&&v1.1)then
   (getI a0.ab.aj 0).bind fun y3=>
   (Wh y3 a0.ab.ae a0.ab.ao a0.ca a1.b8).bind fun v4=>
   some ((⟨(⟨a0.ab.ae,a0.ab.aj,a0.ab.bp,v4.1⟩:Aq),v4.2,(⟨([]:Ab),false⟩:AD)⟩:Ax),true)
  else
   if((a1.ak==3)&&(!v1.2))then
    (getI a0.ab.aj 0).bind fun y5=>
    (V8 y5 a0.ab.ae a0.ab.ao a0.az a1.b8).bind fun v6=>
    some ((⟨(⟨a0.ab.ae,a0.ab.aj,a0.ab.bp,v6.1⟩:Aq),(⟨([]:Ab),false⟩:AD),v6.2⟩:Ax),true)
   else
    some (a0,false)
def Zx (a0:Ax) (a1:BT):Option (Ax × Bool × Bool):=
 (Zs a0 a1).bind fun v1=>
 if(!v1)then
  some ((⟨(⟨([]:Ab), [], [], []⟩:Aq),(⟨([]:Ab),false⟩:AD),(⟨([]:Ab),false⟩:AD)⟩:Ax),false,false)
 else
  (SP a0).bind fun v2=>
  (K5 v2 a1).bind fun v3=>
  some (v3.1,v3.2,true)
def SA (a0:AE) (a1:Ax) (a2:Aq) (a3:List (Ab)):Option (Bool):=
 if a1.ca.a6 then
  (getI a2.aj 0).bind fun y1=>
  (Ko y1 a2.ae a0).bind fun v2=>
  (PJ a3 v2).bind fun v3=>
  some (!v3)
 else
  (getI a2.aj 0).bind fun y4=>
  (Mf y4 a0).bind fun v5=>
  if(Op.bytesLess v5.af a1.ca.al||v5.af==a1.ca.al)then
   (Ko y4 a2.ae a0).bind fun v6=>
   (PJ a3 v6).bind fun v7=>
   some (!v7)
  else
   some false
def NT (a0:Ax):Option (Bool × Bool):=
 (K4 a0).bind fun v1=>
 if(!v1)then
  some (false,false)
 else
  (getI a0.ab.aj 0).bind fun y2=>
  (K1 y2 a0.ab.ae a0.ab.ao).bind fun v3=>
  (PL y2 a0.ab.ao).bind fun v4=>
  (FP v4 (fun y0_=>SA y0_ a0 a0.ab v3)).bind fun v5=>
  some ((!v5),true)
def Sb (a0:Ax) (y1:Ad) (v2:List (Ab)) (v3:List AE) (v4:Int):Option ((Int) ⊕ Option (Bool)):=
 if(decide (v4<(v3.length:Int)))then
  (getI v3 v4).bind fun y5=>
  if a0.ca.a6 then
   (GQ y1 a0.ab.ae).bind fun v6=>
   (getI y1.ah v6).bind fun y7=>
   (IS y1 y7 y5).bind fun v8=>
   (Qc v2 v8).bind fun v9=>
   if(decide (v9<0))then
    some (.inr (some false))
   else
    some (.inl (IntKind.i64.wrap (v4+1)))
  else
   (IQ y1 y5).bind fun v10=>
   if(Op.bytesLess v10.af a0.ca.al||v10.af==a0.ca.al)then
    (GQ y1 a0.ab.ae).bind fun v11=>
    (getI y1.ah v11).bind fun y12=>
    (IS y1 y12 y5).bind fun v13=>
    (Qc v2 v13).bind fun v14=>
    if(decide (v14<0))then
     some (.inr (some false))
    else
     some (.inl (IntKind.i64.wrap (v4+1)))
   else
    some (.inl (IntKind.i64.wrap (v4+1)))
 else
  some (.inr (some true))
def nP (a0:Ax):Option (Bool):=
 (getI a0.ab.aj 0).bind fun y1=>
 (Jq y1 a0.ab.ae a0.ab.ao).bind fun v2=>
 (Jp y1 a0.ab.ao).bind fun v3=>
 Ay (fun s:Int=>Sb a0 y1 v2 v3 s) 0
def ZW (a0:Ax):Option (Bool × Bool):=
 (Kp a0).bind fun v1=>
 if(!v1)then
  some (false,false)
 else
  (nP a0).bind fun v2=>
  some (v2,true)
def R8 (a0:Ab) (a1:Ax):Option (Bool):=
 some (a1.az.a6||(Op.bytesLess a0 a1.az.al||a0==a1.az.al))
def NM (a0:Ax):Option (Bool × Bool):=
 (K4 a0).bind fun v1=>
 if(!v1)then
  some (false,false)
 else
  (getI a0.ab.aj 0).bind fun y2=>
  (K1 y2 a0.ab.ae a0.ab.ao).bind fun v3=>
  (FP v3 (fun y0_=>R8 y0_ a0)).bind fun v4=>
  some ((!v4),true)
def RW (a0:Ax) (v2:List (Ab)) (v3:Int):Option ((Int) ⊕ Option (Bool)):=
 if(decide (v3<(v2.length:Int)))then
  (getI v2 v3).bind fun y4=>
  if(a0.az.a6||(Op.bytesLess y4 a0.az.al||y4==a0.az.al))then
   some (.inr (some false))
  else
   some (.inl (IntKind.i64.wrap (v3+1)))
 else
  some (.inr (some true))
def nB (a0:Ax):Option (Bool):=
 (getI a0.ab.aj 0).bind fun y1=>
 (Jq y1 a0.ab.ae a0.ab.ao).bind fun v2=>
 Ay (fun s:Int=>RW a0 v2 s) 0
def ZJ (a0:Ax):Option (Bool × Bool):=
 (Kp a0).bind fun v1=>
 if(!v1)then
  some (false,false)
 else
  (nB a0).bind fun v2=>
  some (v2,true)
def VR (a0:List (Ab)) (a1:List (Ab)) (v1:Int):Option ((Int) ⊕ Option (Bool)):=
 if(decide (v1<(a0.length:Int)))then
  (getI a0 v1).bind fun y2=>
  (getI a1 v1).bind fun y3=>
  if(y2 !=y3)then
   some (.inr (some false))
  else
   some (.inl (IntKind.i64.wrap (v1+1)))
 else
  some (.inr (some true))
def aM (a0:List (Ab)) (a1:List (Ab)):Option (Bool):=
 if((a0.length:Int) !=(a1.length:Int))then
  some false
 else
  Ay (fun s:Int=>VR a0 a1 s) 0
def VW (a0 a1:Ad) (v2:Int):Option ((Int) ⊕ Option (Bool)):=
 if(decide (v2<(a0.ah.length:Int)))then
  (getI a0.ah v2).bind fun y3=>
  (getI a1.ah v2).bind fun y4=>
  if(!(y3.ae==y4.ae&&(y3.bj==y4.bj&&(y3.aq==y4.aq))))then
   some (.inr (some false))
  else
   some (.inl (IntKind.i64.wrap (v2+1)))
 else
  some (.inr (some true))
def aN (a0 a1:Ad):Option (Bool):=
 if(a0.ae !=a1.ae)then
  some false
 else
  (aM a0.ar a1.ar).bind fun v1=>
  if((!v1)||((a0.ah.length:Int) !=(a1.ah.length:Int)))then
   some false
  else
   Ay (fun s:Int=>VW a0 a1 s) 0
def VM (a0 a1:List Ad) (v1:Int):Option ((Int) ⊕ Option (Bool)):=
 if(decide (v1<(a0.length:Int)))then
  (getI a0 v1).bind fun y2=>
  (getI a1 v1).bind fun y3=>
  (aN y2 y3).bind fun v4=>
  if(!v4)then
   some (.inr (some false))
  else
   some (.inl (IntKind.i64.wrap (v1+1)))
 else
  some (.inr (some true))
def Z6 (a0 a1:List Ad):Option (Bool):=
 if((a0.length:Int) !=(a1.length:Int))then
  some false
 else
  Ay (fun s:Int=>VM a0 a1 s) 0
def VV (a0 a1:List Int) (v1:Int):Option ((Int) ⊕ Option (Bool)):=
 if(decide (v1<(a0.length:Int)))then
  (getI a0 v1).bind fun y2=>
  (getI a1 v1).bind fun y3=>
  if(y2 !=y3)then
   some (.inr (some false))
  else
   some (.inl (IntKind.i64.wrap (v1+1)))
 else
  some (.inr (some true))
def aR (a0 a1:List Int):Option (Bool):=
 if((a0.length:Int) !=(a1.length:Int))then
  some false
 else
  Ay (fun s:Int=>VV a0 a1 s) 0
def VS (a0 a1:List Ac) (v1:Int):Option ((Int) ⊕ Option (Bool)):=
 if(decide (v1<(a0.length:Int)))then
  (getI a0 v1).bind fun y2=>
  (getI a1 v1).bind fun y3=>
  if(!(y2.af==y3.af&&(y2.bb==y3.bb&&(y2.bh==y3.bh))))then
   some (.inr (some false))
  else
   some (.inl (IntKind.i64.wrap (v1+1)))
 else
  some (.inr (some true))
def aP (a0 a1:List Ac):Option (Bool):=
 if((a0.length:Int) !=(a1.length:Int))then
  some false
 else
  Ay (fun s:Int=>VS a0 a1 s) 0
def aV (a0 a1:Aq):Option (Bool):=
 if(a0.ae==a1.ae)then
  (Z6 a0.aj a1.aj).bind fun v1=>
  if v1 then
   (aR a0.bp a1.bp).bind fun v2=>
   if v2 then
    (aP a0.ao a1.ao).bind fun v3=>
    some v3
   else
    some false
  else
   some false
 else
  some false
def Wf (a0 a1:Ax):Option (Bool):=
 (aV a0.ab a1.ab).bind fun v1=>
 some ((v1&&(a0.ca.al==a1.ca.al&&(a0.ca.a6==a1.ca.a6)))&&(a0.az.al==a1.az.al&&(a0.az.a6==a1.az.a6)))
def oU (a0:Aq):Option (Bool × Bool):=
 (Sr a0).bind fun v1=>
 if(!v1)then
  some (false,false)
 else
  (SF a0).bind fun v2=>
  some (v2,true)
def oA (a0:Aq):Option (Bool × Bool):=
 (Sr a0).bind fun v1=>
 if(!v1)then
  some (false,false)
 else
  (Sm a0.bp).bind fun v2=>
  some (v2,true)
def P6 (a0:Aq):Option (Bool × Bool):=
 (P1 a0).bind fun v1=>
 if(!v1)then
  some (false,false)
 else
  (RD a0).bind fun v2=>
  some (v2,true)
def zp8 (a0 a1:List Int):Option (Bool):=
 if(decide ((IntKind.i64.wrap ((a0.length:Int)+(a1.length:Int)))>1048576))then
  some true
 else
  (mN a0).bind fun v1=>
  (ZT v1.1 v1.2).bind fun v2=>
  (Zx v1.1 v1.2).bind fun v3=>
  (NT v1.1).bind fun v4=>
  (ZW v1.1).bind fun v5=>
  (NM v1.1).bind fun v6=>
  (ZJ v1.1).bind fun v7=>
  if(v2.2.2 !=v3.2.2)then
   some false
  else
   if(v2.2.1 !=v3.2.1)then
    some false
   else
    (Wf v2.1 v3.1).bind fun v8=>
    if v8 then
     if(v4.2 !=v5.2)then
      some false
     else
      if(v4.1 !=v5.1)then
       some false
      else
       if(v6.2 !=v7.2)then
        some false
       else
        if(v6.1 !=v7.1)then
         some false
        else
         (K4 v1.1).bind fun v9=>
         (Kp v1.1).bind fun v10=>
         if(v9 !=v10)then
          some false
         else
          (VN v1.1 v1.2).bind fun v11=>
          if(v11 !=v2.2.2)then
           some false
          else
           if(!v2.2.2)then
            some true
           else
            (NT v2.1).bind fun v12=>
            (NM v2.1).bind fun v13=>
            (oU v1.1.ab).bind fun v14=>
            (oA v1.1.ab).bind fun v15=>
            (Qa v2.1.ab).bind fun v16=>
            (P6 v2.1.ab).bind fun v17=>
            some ((((((((v12.2&&v13.2)&&v14.2)&&v15.2)&&v16.2)&&v17.2)&&((!v4.1)||v12.1))&&((!v6.1)||v13.1))&&(((!v14.1)||(!v15.1))||(v16.1&&v17.1)))
    else
     some false
def zgN (v3:List BT) (v4:Int) (v5:List Int) (v6 v7:Int) (v8:Ab) (v9:List Ad) (v10:List Int) (v11:List Ac) (v12:Ab) (v13:Bool) (v14:Ab) (v15:Bool):Option ((List BT × Int × List Int × Int × Int × Ab × List Ad × List Int × List Ac × Ab × Bool × Ab × Bool) ⊕ Option (List BT × Ap)):=
 if(decide (v4>0))then
  (VB (⟨v5,v6,v7⟩:Ap) (⟨(⟨v8,v9,v10,v11⟩:Aq),(⟨v12,v13⟩:AD),(⟨v14,v15⟩:AD)⟩:Ax)).bind fun v16=>
  req ((((v3).length:Int)+(([v16.1]:List BT).length:Int))*88≤140737488355328∧((v3).length:Int)+(([v16.1]:List BT).length:Int)≤140737488355328)<|
  (SD (⟨(⟨v8,v9,v10,v11⟩:Aq),(⟨v12,v13⟩:AD),(⟨v14,v15⟩:AD)⟩:Ax) v16.1).bind fun v17=>
  if v17 then
   (K5 (⟨(⟨v8,v9,v10,v11⟩:Aq),(⟨v12,v13⟩:AD),(⟨v14,v15⟩:AD)⟩:Ax) v16.1).bind fun v18=>
   some (.inl ((v3++ [v16.1]),(IntKind.i64.wrap (v4-1)),v16.2.ax,v16.2.bw,v16.2.a7,v18.1.ab.ae,v18.1.ab.aj,v18.1.ab.bp,v18.1.ab.ao,v18.1.ca.al,v18.1.ca.a6,v18.1.az.al,v18.1.az.a6))
  else
   some (.inl ((v3++ [v16.1]),(IntKind.i64.wrap (v4-1)),v16.2.ax,v16.2.bw,v16.2.a7,v8,v9,v10,v11,v12,v13,v14,v15))
 else
  some (.inr (some (v3,(⟨v5,v6,v7⟩:Ap))))
def YR (a0:Ap) (a1:Ax) (a2:Int):Option (List BT × Ap):=
 (SP a1).bind fun v1=>
 (C5 a0 (IntKind.i64.wrap (a2+1))).bind fun v2=>
 Ay (fun s:List BT × Int × List Int × Int × Int × Ab × List Ad × List Int × List Ac × Ab × Bool × Ab × Bool=>zgN s.1 s.2.1 s.2.2.1 s.2.2.2.1 s.2.2.2.2.1 s.2.2.2.2.2.1 s.2.2.2.2.2.2.1 s.2.2.2.2.2.2.2.1 s.2.2.2.2.2.2.2.2.1 s.2.2.2.2.2.2.2.2.2.1 s.2.2.2.2.2.2.2.2.2.2.1 s.2.2.2.2.2.2.2.2.2.2.2.1 s.2.2.2.2.2.2.2.2.2.2.2.2) ([],v2.1,v2.2.ax,v2.2.bw,v2.2.a7,v1.ab.ae,v1.ab.aj,v1.ab.bp,v1.ab.ao,v1.ca.al,v1.ca.a6,v1.az.al,v1.az.a6)
def Zi (a0:List Int):Option (Ax × List BT):=
 (VG (⟨a0,0,0⟩:Ap)).bind fun v1=>
 (YR v1.2 v1.1 30).bind fun v2=>
 (C5 v2.2 12).bind fun v3=>
 if(v3.1==0)then
  (C5 v3.2 4).bind fun v4=>
  req ((((v2.1).length:Int)+(([(⟨v4.1,0,(⟨0,0,(⟨0,(⟨[]⟩:AE),(⟨[]⟩:AE)⟩:Bb)⟩:C4)⟩:BT)]:List BT).length:Int))*88≤140737488355328∧((v2.1).length:Int)+(([(⟨v4.1,0,(⟨0,0,(⟨0,(⟨[]⟩:AE),(⟨[]⟩:AE)⟩:Bb)⟩:C4)⟩:BT)]:List BT).length:Int)≤140737488355328)<|
  some ((⟨(⟨v1.1.ab.ae,v1.1.ab.aj,v1.1.ab.bp,v1.1.ab.ao⟩:Aq),(⟨v1.1.ca.al,v1.1.ca.a6⟩:AD),(⟨v1.1.az.al,v1.1.az.a6⟩:AD)⟩:Ax),(v2.1++ [(⟨v4.1,0,(⟨0,0,(⟨0,(⟨[]⟩:AE),(⟨[]⟩:AE)⟩:Bb)⟩:C4)⟩:BT)]))
 else
  if(v3.1==1)then
   (Vx v3.2).bind fun v5=>
   some ((⟨(⟨v5.1.ab.ae,v5.1.ab.aj,v5.1.ab.bp,v5.1.ab.ao⟩:Aq),(⟨v5.1.ca.al,v5.1.ca.a6⟩:AD),(⟨v5.1.az.al,v5.1.az.a6⟩:AD)⟩:Ax),v2.1)
  else
   some ((⟨(⟨v1.1.ab.ae,v1.1.ab.aj,v1.1.ab.bp,v1.1.ab.ao⟩:Aq),(⟨v1.1.ca.al,v1.1.ca.a6⟩:AD),(⟨v1.1.az.al,v1.1.az.a6⟩:AD)⟩:Ax),v2.1)
def PS (a1:List BT) (v3:Int) (v4 v5:Ab) (v6:Bool) (v7:Ab) (v8:Bool) (v9:List Ad) (v10:List Int) (v11:List Ac) (v12:List Bool):Option ((Int × Ab × Ab × Bool × Ab × Bool × List Ad × List Int × List Ac × List Bool) ⊕ Option (Ax × List Bool × Bool)):=
 if(decide (v3<(a1.length:Int)))then
  (getI a1 v3).bind fun y13=>
  (VA (⟨(⟨v4,v9,v10,v11⟩:Aq),(⟨v5,v6⟩:AD),(⟨v7,v8⟩:AD)⟩:Ax) y13).bind fun v14=>
  if v14 then
   (Mh (⟨(⟨v4,v9,v10,v11⟩:Aq),(⟨v5,v6⟩:AD),(⟨v7,v8⟩:AD)⟩:Ax) y13).bind fun v15=>
   req ((((v12).length:Int)+(([v15.2]:List Bool).length:Int))*1≤140737488355328∧((v12).length:Int)+(([v15.2]:List Bool).length:Int)≤140737488355328)<|
   some (.inl ((IntKind.i64.wrap (v3+1)),v15.1.ab.ae,v15.1.ca.al,v15.1.ca.a6,v15.1.az.al,v15.1.az.a6,v15.1.ab.aj,v15.1.ab.bp,v15.1.ab.ao,(v12++ [v15.2])))
  else
   req ((((v12).length:Int)+(([false]:List Bool).length:Int))*1≤140737488355328∧((v12).length:Int)+(([false]:List Bool).length:Int)≤140737488355328)<|
   some (.inl ((IntKind.i64.wrap (v3+1)),v4,v5,v6,v7,v8,v9,v10,v11,(v12++ [false])))
 else
  some (.inr (some ((⟨(⟨v4,v9,v10,v11⟩:Aq),(⟨v5,v6⟩:AD),(⟨v7,v8⟩:AD)⟩:Ax),v12,true)))
def ZS (a0:Ax) (a1:List BT):Option (Ax × List Bool × Bool):=
 (K4 a0).bind fun v1=>
 if((!v1)||(decide ((a1.length:Int)>30)))then
  some ((⟨(⟨([]:Ab), [], [], []⟩:Aq),(⟨([]:Ab),false⟩:AD),(⟨([]:Ab),false⟩:AD)⟩:Ax), [],false)
 else
  (SI a0).bind fun v2=>
  Ay (fun s:Int × Ab × Ab × Bool × Ab × Bool × List Ad × List Int × List Ac × List Bool=>PS a1 s.1 s.2.1 s.2.2.1 s.2.2.2.1 s.2.2.2.2.1 s.2.2.2.2.2.1 s.2.2.2.2.2.2.1 s.2.2.2.2.2.2.2.1 s.2.2.2.2.2.2.2.2.1 s.2.2.2.2.2.2.2.2.2) (0,v2.ab.ae,v2.ca.al,v2.ca.a6,v2.az.al,v2.az.a6,v2.ab.aj,v2.ab.bp,v2.ab.ao, [])
def PQ (a1:List BT) (v3:List Bool) (v4:Int) (v5:Ab) (v6:List Ad) (v7:List Int) (v8:List Ac) (v9:Ab) (v10:Bool) (v11:Ab) (v12:Bool):Option ((List Bool × Int × Ab × List Ad × List Int × List Ac × Ab × Bool × Ab × Bool) ⊕ Option (Ax × List Bool × Bool)):=
 if(decide (v4<(a1.length:Int)))then
  (getI a1 v4).bind fun y13=>
  (SD (⟨(⟨v5,v6,v7,v8⟩:Aq),(⟨v9,v10⟩:AD),(⟨v11,v12⟩:AD)⟩:Ax) y13).bind fun v14=>
  if v14 then
   (K5 (⟨(⟨v5,v6,v7,v8⟩:Aq),(⟨v9,v10⟩:AD),(⟨v11,v12⟩:AD)⟩:Ax) y13).bind fun v15=>
   req ((((v3).length:Int)+(([v15.2]:List Bool).length:Int))*1≤140737488355328∧((v3).length:Int)+(([v15.2]:List Bool).length:Int)≤140737488355328)<|
   some (.inl ((v3++ [v15.2]),(IntKind.i64.wrap (v4+1)),v15.1.ab.ae,v15.1.ab.aj,v15.1.ab.bp,v15.1.ab.ao,v15.1.ca.al,v15.1.ca.a6,v15.1.az.al,v15.1.az.a6))
  else
   req ((((v3).length:Int)+(([v14]:List Bool).length:Int))*1≤140737488355328∧((v3).length:Int)+(([v14]:List Bool).length:Int)≤140737488355328)<|
   some (.inl ((v3++ [v14]),(IntKind.i64.wrap (v4+1)),v5,v6,v7,v8,v9,v10,v11,v12))
 else
  some (.inr (some ((⟨(⟨v5,v6,v7,v8⟩:Aq),(⟨v9,v10⟩:AD),(⟨v11,v12⟩:AD)⟩:Ax),v3,true)))
def ZO (a0:Ax) (a1:List BT):Option (Ax × List Bool × Bool):=
 (Kp a0).bind fun v1=>
 if((!v1)||(decide ((a1.length:Int)>30)))then
  some ((⟨(⟨([]:Ab), [], [], []⟩:Aq),(⟨([]:Ab),false⟩:AD),(⟨([]:Ab),false⟩:AD)⟩:Ax), [],false)
 else
  (SP a0).bind fun v2=>
  Ay (fun s:List Bool × Int × Ab × List Ad × List Int × List Ac × Ab × Bool × Ab × Bool=>PQ a1 s.1 s.2.1 s.2.2.1 s.2.2.2.1 s.2.2.2.2.1 s.2.2.2.2.2.1 s.2.2.2.2.2.2.1 s.2.2.2.2.2.2.2.1 s.2.2.2.2.2.2.2.2.1 s.2.2.2.2.2.2.2.2.2) ([],0,v2.ab.ae,v2.ab.aj,v2.ab.bp,v2.ab.ao,v2.ca.al,v2.ca.a6,v2.az.al,v2.az.a6)
def VX (a0 a1:List Bool) (v1:Int):Option ((Int) ⊕ Option (Bool)):=
 if(decide (v1<(a0.length:Int)))then
  (getI a0 v1).bind fun y2=>
  (getI a1 v1).bind fun y3=>
  if(y2 !=y3)then
   some (.inr (some false))
  else
   some (.inl (IntKind.i64.wrap (v1+1)))
 else
  some (.inr (some true))
def aL (a0 a1:List Bool):Option (Bool):=
 if((a0.length:Int) !=(a1.length:Int))then
  some false
 else
  Ay (fun s:Int=>VX a0 a1 s) 0
def ZX (a0 a1:List Int):Option (Bool):=
 if(decide ((IntKind.i64.wrap ((a0.length:Int)+(a1.length:Int)))>1048576))then
  some true
 else
  (Zi a0).bind fun v1=>
  (ZS v1.1 v1.2).bind fun v2=>
  (ZO v1.1 v1.2).bind fun v3=>
  if(v2.2.2 !=v3.2.2)then
   some false
  else
   (aL v2.2.1 v3.2.1).bind fun v4=>
   if v4 then
    (Wf v2.1 v3.1).bind fun v5=>
    if(!v5)then
     some false
    else
     if(!v2.2.2)then
      some true
     else
      (NT v1.1).bind fun v6=>
      (NM v1.1).bind fun v7=>
      (Qa v1.1.ab).bind fun v8=>
      (P6 v1.1.ab).bind fun v9=>
      (NT v2.1).bind fun v10=>
      (NM v2.1).bind fun v11=>
      (Qa v2.1.ab).bind fun v12=>
      (P6 v2.1.ab).bind fun v13=>
      some ((((((((((v6.2&&v7.2)&&v8.2)&&v9.2)&&v10.2)&&v11.2)&&v12.2)&&v13.2)&&((!v6.1)||v10.1))&&((!v7.1)||v11.1))&&(((!v8.1)||(!v9.1))||(v12.1&&v13.1)))
   else
    some false
def zgi:FS:=DJ 313 [.v .s, .v .s] (.v (.i .i64)) (fun x=>RP x.1 x.2.1) fun x r _ h=>zkh x.1 x.2.1 r h
def ziE:FS:=DJ 319 [.v .s, .v (.i .u8)] (.v (.i .i64)) (fun x=>YL x.1 x.2.1) fun x r _ h=>ziB x.1 x.2.1 r h
def zuD:FS:=DJ 301 [.v .s, .v (.i .i64), .v (.i .i64)] (.tu (.cons (.v (.i .i64)) (.cons (.v .b) .nil))) (fun x=>aC x.1 x.2.1 x.2.2.1) fun x r _ h=>zub x.1 x.2.1 x.2.2.1 r h
def zus:FS:=DJ 283 [.v (.i .i64)] (.v .s) (fun x=>oC x.1) fun x r _ h=>zur x.1 r h
def zsZ:FS:=DJ 315 [.v .s, .v .s] (.v (.i .i64)) (fun x=>ZC x.1 x.2.1) fun x r _ h=>zt5 x.1 x.2.1 r h
def zuu:FS:=DJ 199 [.v (.l .s), .v .s] (.v .s) (fun x=>aH x.1 x.2.1) fun x r _ h=>zuI x.1 x.2.1 r h
def zqG:FS:=DJ 314 [.v .s, .v (.i .i64)] (.v (.l .s)) (fun x=>mV x.1 x.2.1) fun x r _ h=>zqZ x.1 x.2.1 r h
def zgs:FS:=DJ 285 [.v (.l (.st 0)), .v (.i .i64), .v (.l (.st 0))] (.v (.l (.st 0))) (fun x=>cZ x.1 x.2.1 x.2.2.1) fun x r hp h=>zHT (t:=27) (it:=3) (el:=143) (K:=3) (by kernel_rfl) (fun _=>by kernel_rfl) zEk h
def zog:FS:=Am 129 [.rf (.st 1)] (.tu (.cons (.v (.i .i64)) (.cons (.v (.st 1)) .nil))) (fun x=>PW x.1) [] [.inl]
def IM:FS:=Am 53 [.rf (.st 1), .v (.i .i64)] (.tu (.cons (.v (.i .i64)) (.cons (.v (.st 1)) .nil))) (fun x=>C5 x.1 x.2.1) [zog] [.inl]
def PR:FS:=Am 121 [.rf (.st 1), .v (.l .s)] (.tu (.cons (.v .s) (.cons (.v (.st 1)) .nil))) (fun x=>Ii x.1 x.2.1) [IM] []
def PX:FS:=Am 48 [.rf (.st 1), .v (.i .i64)] (.tu (.cons (.v .b) (.cons (.v (.st 1)) .nil))) (fun x=>F8 x.1 x.2.1) [IM] []
def zjO:FS:=Am 45 [.rf (.st 1)] (.tu (.cons (.v (.st 3)) (.cons (.v (.st 1)) .nil))) (fun x=>Jo x.1) [PR,IM,PX] [.sp [.i .i64, .l (.i .u8), .i .i64, .i .u64, .l (.st 2)], .inl, .pt]
def oP:FS:=Am 167 [.v (.st 3)] (.v (.st 3)) (fun x=>SO x.1) [] []
def NU:FS:=Am 158 [.v (.st 3), .v .s] (.v (.i .i64)) (fun x=>GQ x.1 x.2.1) [] [.sp [.i .i64]]
def zqc:FS:=Am 85 [.v (.st 3), .v .s, .v (.i .i64)] (.v (.st 3)) (fun x=>SQ x.1 x.2.1 x.2.2.1) [oP,NU] []
def zkT:FS:=Am 212 [.rf (.st 1), .v (.st 3)] (.tu (.cons (.v (.st 4)) (.cons (.v (.st 1)) .nil))) (fun x=>NK x.1 x.2.1) [PR] [.sp [.l (.i .u8), .i .i64, .i .u64, .l .s]]
def zuB:FS:=Am 268 [.v (.l .s), .v .s] (.v .s) (fun x=>oK x.1 x.2.1) [] [.sp [.s, .i .i64], .inl]
def P7:FS:=Am 206 [.v (.st 3), .v (.st 4)] (.v (.st 0)) (fun x=>IQ x.1 x.2.1) [zuB] []
def aZ:FS:=Am 123 [.v (.l (.st 0)), .v (.st 0)] (.v (.l (.st 0))) (fun x=>G8 x.1 x.2.1) [] [.sp [.i .i64]]
def zoP:FS:=Am 240 [.v .s, .v (.i .u8)] (.v (.l .s)) (fun x=>P4 x.1 x.2.1) [] [.sp [.l .s, .i .i64, .i .i64], .inl]
def HM:FS:=Am 59 [.v (.i .i64), .v (.i .i64), .v (.i .i64)] (.v .b) (fun x=>Ga x.1 x.2.1 x.2.2.1) [] []
def oE:FS:=Am 270 [.v .s, .v .s] (.v .b) (fun x=>SE x.1 x.2.1) [] [.sp [.i .i64], .sp [.b, .i .i64]]
def zns:FS:=Am 226 [.v .s] (.v .b) (fun x=>SM x.1) [HM,oE] []
def zox:FS:=Am 146 [.v (.st 3), .v (.st 4)] (.v .b) (fun x=>NS x.1 x.2.1) [zns] [.sp [.i .i64]]
def zuG:FS:=Am 168 [.v (.st 3), .v (.st 0)] (.tu (.cons (.v (.st 4)) (.cons (.v .b) .nil))) (fun x=>ZZ x.1 x.2.1) [zoP,zox,P7] []
def SG:FS:=Am 87 [.v (.st 3), .v (.l (.st 0))] (.v (.l (.st 4))) (fun x=>Jp x.1 x.2.1) [zuG] [.sp [.l (.st 4), .i .i64], .inl]
def ZB:FS:=Am 207 [.v (.st 3), .v (.st 2), .v (.st 4)] (.v .s) (fun x=>IS x.1 x.2.1 x.2.2.1) [] []
def zpd:FS:=Am 213 [.rf (.st 1)] (.tu (.cons (.v .s) (.cons (.v (.st 1)) .nil))) (fun x=>Zk x.1) [PR] []
def zpm:FS:=Am 214 [.rf (.st 1)] (.tu (.cons (.v .s) (.cons (.v (.st 1)) .nil))) (fun x=>Zf x.1) [PR] []
def znm:FS:=Am 122 [.rf (.st 1), .v (.st 3)] (.tu (.cons (.v (.l (.st 0))) (.cons (.v (.st 1)) .nil))) (fun x=>Y4 x.1 x.2.1) [IM,PX,zpd,zpm,aZ,SG,zkT,ZB,P7] [.sp [.l (.st 0), .i .i64, .l (.i .u8), .i .i64, .i .u64], .sp [.i .i64, .l (.i .u8), .i .i64, .i .u64, .l (.st 0)], .inl, .sp [.i .i64, .l (.i .u8), .i .i64, .i .u64, .l (.st 0)], .inl, .inl]
def zlR:FS:=Am 57 [.v .s, .v (.i .i64)] (.v .b) (fun x=>R2 x.1 x.2.1) [] [.sp [.i .i64]]
def zry:FS:=Am 135 [.v (.l .s), .v .s] (.v (.i .i64)) (fun x=>Qc x.1 x.2.1) [] [.sp [.i .i64]]
def zuh:FS:=Am 58 [.v (.l .s)] (.v .b) (fun x=>aG x.1) [HM,zlR,zry] [.sp [.i .i64]]
def ZF:FS:=Am 11 [.v (.st 3)] (.v .b) (fun x=>Mk x.1) [zlR,zuh,HM] [.sp [.i .i64]]
def zt0:FS:=Am 84 [.v (.st 3), .v .s, .v (.i .i64)] (.v .b) (fun x=>ZU x.1 x.2.1 x.2.2.1) [ZF,NU,HM] []
def pD:FS:=Am 209 [.v .s] (.v .b) (fun x=>SZ x.1) [HM,oE] []
def zrt:FS:=Am 286 [.v .s] (.v .b) (fun x=>Wn x.1) [oE] []
def zup:FS:=Am 239 [.v .s, .v .s, .v .b] (.v .b) (fun x=>Z9 x.1 x.2.1 x.2.2.1) [pD,zrt] []
def zsM:FS:=Am 162 [.v (.l (.st 0))] (.v .b) (fun x=>ZR x.1) [zup] [.sp [.i .i64]]
def Wb:FS:=Am 76 [.v (.l (.st 0))] (.v .b) (fun x=>K6 x.1) [zsM] [.sp [.i .i64]]
def zp4:FS:=Am 159 [.v (.st 3), .v .s, .v (.i .i64)] (.v (.l (.st 3))) (fun x=>Wm x.1 x.2.1 x.2.2.1) [oP,NU,zqc] [.sp [.i .i64, .l (.st 3)], .inl]
def zyL:FS:=Am 253 [.v (.l (.i .i64))] (.v (.l (.i .i64))) (fun x=>bA x.1) [] []
def oT:FS:=Am 185 [.v (.st 5)] (.v (.st 5)) (fun x=>SS x.1) [zyL,oP] [.sp [.i .i64, .l (.st 3)]]
def ztI:FS:=Am 248 [.v (.st 3), .v .s, .v (.i .i64), .v (.i .i64), .v (.l (.st 0))] (.tu (.cons (.v (.st 5)) (.cons (.v .b) .nil))) (fun x=>ZP x.1 x.2.1 x.2.2.1 x.2.2.2.1 x.2.2.2.2.1) [zt0,HM,Wb,zp4,oT] []
def zuz:FS:=Am 249 [.v (.i .i64), .v (.i .i64)] (.v (.i .i64)) (fun x=>aB x.1 x.2.1) [] []
def nL:FS:=Am 254 [.v (.st 5)] (.v (.l (.i .i64))) (fun x=>Ml x.1) [NU] [.sp [.l (.i .i64), .i .i64]]
def zyx:FS:=Am 273 [.v (.l (.i .i64)), .v (.i .i64)] (.v .b) (fun x=>Wo x.1 x.2.1) [] [.sp [.i .i64]]
def zoL:FS:=Am 211 [.v (.st 5)] (.v (.i .i64)) (fun x=>Wk x.1) [nL,zyx] []
def nO:FS:=Am 250 [.v (.st 3), .v .s, .v (.l (.st 0))] (.v (.l .s)) (fun x=>Sq x.1 x.2.1 x.2.2.1) [SG,NU,ZB] [.sp [.l .s, .i .i64]]
def ziI:FS:=Am 179 [.rf (.st 1)] (.tu (.cons (.v (.st 5)) (.cons (.v (.st 1)) .nil))) (fun x=>NL x.1) [zjO,IM,zqc,znm,SG,ztI,zoL,nO,PX,aZ,zuz,P7] [.sp [.l (.i .u8), .i .i64, .i .u64, .s, .l .s, .l (.st 2)], .sp [.l (.st 0), .i .i64], .sp [.i .i64, .l (.i .u8), .i .i64, .i .u64, .l (.i .i64)], .inl, .sp [.i .i64, .l (.i .u8), .i .i64, .i .u64, .l (.st 0)], .inl, .inl, .inl]
def zk2:FS:=Am 157 [.rf (.st 1)] (.tu (.cons (.v (.st 5)) (.cons (.v (.st 1)) .nil))) (fun x=>YP x.1) [ziI,IM,zjO,PR] [.inl]
def zpv:FS:=Am 160 [.v (.st 3), .v (.st 3)] (.v .b) (fun x=>Zu x.1 x.2.1) [] [.sp [.i .i64], .sp [.i .i64]]
def zwz:FS:=Am 238 [.v (.i .i64), .v (.i .i64)] (.v (.i .i64)) (fun x=>aQ x.1 x.2.1) [] []
def zwl:FS:=Am 161 [.v (.st 3), .v (.st 3)] (.v (.i .i64)) (fun x=>aO x.1 x.2.1) [zwz] [.sp [.i .i64, .i .i64]]
def zun:FS:=Am 74 [.v (.st 5)] (.v .b) (fun x=>SW x.1) [HM,ZF,NU,zp4,zpv,zwl] [.sp [.i .i64]]
def zxw:FS:=Am 75 [.v (.l (.i .i64)), .v (.i .i64), .v (.i .i64)] (.v .b) (fun x=>bC x.1 x.2.1 x.2.2.1) [HM] [.sp [.i .i64]]
def zr2:FS:=Am 19 [.v (.st 5)] (.v .b) (fun x=>Sr x.1) [zun,HM,zxw,Wb] []
def Kq:FS:=Am 60 [.v (.i .i64), .v (.i .i64), .v (.i .i64)] (.v .b) (fun x=>G9 x.1 x.2.1 x.2.2.1) [] []
def zrT:FS:=Am 229 [.v (.l (.st 0))] (.v (.l .s)) (fun x=>ZN x.1) [] [.sp [.i .i64, .l .s]]
def znk:FS:=Am 296 [.v (.i .u8)] (.v .b) (fun x=>mF x.1) [] []
def zpc:FS:=Am 297 [.v .s, .v (.i .u8)] (.v (.i .i64)) (fun x=>mP x.1 x.2.1) [ziE] []
def nZ:FS:=Am 269 [.v .s, .v .s] (.v .b) (fun x=>Sl x.1 x.2.1) [znk,zpc] [.sp [.i .i64]]
def zoB:FS:=Am 208 [.v .s] (.v .b) (fun x=>Wj x.1) [Kq,nZ] []
def zrR:FS:=Am 228 [.v (.l .s)] (.v .b) (fun x=>ZI x.1) [zoB] [.sp [.i .i64]]
end Go.Proofs.YtbmbkgalkfmjdaaGreatDoor
end
