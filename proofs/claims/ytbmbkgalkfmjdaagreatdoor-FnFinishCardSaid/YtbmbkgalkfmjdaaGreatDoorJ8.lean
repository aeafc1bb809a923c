/- Parts of a proof, joined: QM, QF1, QF2. -/
import Derived.Test.YtbmbkgalkfmjdaaGreatDoorJ7
set_option linter.unusedVariables false
set_option linter.unusedSimpArgs false
noncomputable section
namespace Go.Proofs.YtbmbkgalkfmjdaaGreatDoor
open Go.RowKit
set_option maxRecDepth 100000
set_option maxHeartbeats 4000000
abbrev Ac:=List UInt8
def Pz (a0:Az):Option (Int × Az):=
 if(decide (a0.cc<(a0.az.length:Int)))then
  (getI a0.az a0.cc).bind fun y1=>
  if(decide ((IntKind.i64.wrap (a0.cc+1))≤(a0.az.length:Int)))then
   some ((IntKind.i64.wrap y1),(⟨a0.az,(IntKind.i64.wrap (a0.cc+1)),(IntKind.u64.wrap ((IntKind.u64.wrap ((IntKind.u64.wrap (a0.a8*6364136223846793005))+(IntKind.u64.wrap (IntKind.i64.wrap y1))))+1442695040888963407))⟩:Az))
  else
   some ((IntKind.i64.wrap (IntKind.u64.wrap ((BitVec.ofInt (IntKind.bits .u64) (Int.fdiv (IntKind.u64.wrap ((IntKind.u64.wrap ((IntKind.u64.wrap (a0.a8*6364136223846793005))+(IntKind.u64.wrap (IntKind.i64.wrap y1))))+1442695040888963407)) (2^(min ((40:Int)).toNat (IntKind.bits .u64))))&&&BitVec.ofInt (IntKind.bits .u64) 255).toNat:Int))),(⟨a0.az,(IntKind.i64.wrap (a0.cc+1)),(IntKind.u64.wrap ((IntKind.u64.wrap ((IntKind.u64.wrap (a0.a8*6364136223846793005))+(IntKind.u64.wrap (IntKind.i64.wrap y1))))+1442695040888963407))⟩:Az))
 else
  if(decide ((IntKind.i64.wrap (a0.cc+1))≤(a0.az.length:Int)))then
   some (0,(⟨a0.az,(IntKind.i64.wrap (a0.cc+1)),(IntKind.u64.wrap ((IntKind.u64.wrap ((IntKind.u64.wrap (a0.a8*6364136223846793005))+(IntKind.u64.wrap 0)))+1442695040888963407))⟩:Az))
  else
   some ((IntKind.i64.wrap (IntKind.u64.wrap ((BitVec.ofInt (IntKind.bits .u64) (Int.fdiv (IntKind.u64.wrap ((IntKind.u64.wrap ((IntKind.u64.wrap (a0.a8*6364136223846793005))+(IntKind.u64.wrap 0)))+1442695040888963407)) (2^(min ((40:Int)).toNat (IntKind.bits .u64))))&&&BitVec.ofInt (IntKind.bits .u64) 255).toNat:Int))),(⟨a0.az,(IntKind.i64.wrap (a0.cc+1)),(IntKind.u64.wrap ((IntKind.u64.wrap ((IntKind.u64.wrap (a0.a8*6364136223846793005))+(IntKind.u64.wrap 0)))+1442695040888963407))⟩:Az))
def Fy (a0:Az) (a1:Int):Option (Int × Az):=
 if(decide (a1≤1))then
  some (0,a0)
 else
  (Pz a0).bind fun v1=>
  if(decide (a1>200))then
   (Pz v1.2).bind fun v2=>
   req (a1≠0)<|
   some ((Int.tmod (IntKind.i64.wrap ((IntKind.i64.wrap (v1.1*256))+v2.1)) a1),(⟨v2.2.az,v2.2.cc,v2.2.a8⟩:Az))
  else
   req (a1≠0)<|
   some ((Int.tmod v1.1 a1),(⟨v1.2.az,v1.2.cc,v1.2.a8⟩:Az))
def KV (a0:Az) (a1:List (Ac)):Option (Ac × Az):=
 (Fy a0 (a1.length:Int)).bind fun v1=>
 (getI a1 v1.1).bind fun y2=>
 some (y2,v1.2)
def II (a0:Az) (a1:Int):Option (Bool × Az):=
 (Fy a0 a1).bind fun v1=>
 some ((v1.1==0),v1.2)
def Nx (v2:Int × Az) (v3:Int) (v7:List Aq) (y8:Ac) (v9:List Int) (v10 v11:Int) (v12:Bool):Option ((Int × List Int × Int × Int × List Aq) ⊕ Option (Ad × Az)):=
 if v12 then
  (Fy (⟨v9,v10,v11⟩:Az) (IntKind.i64.wrap (((Bk [([107]:Ac),([97]:Ac),([98]:Ac),([99,99]:Ac)] 0 (IntKind.i64.wrap ((2:Int)+v2.1))).length:Int)-1))).bind fun v13=>
  (Fy v13.2 4).bind fun v14=>
  req ((((v7).length:Int)+(([(⟨y8,(IntKind.i64.wrap ((1:Int)+v13.1)),v14.1⟩:Aq)]:List Aq).length:Int))*32≤140737488355328∧((v7).length:Int)+(([(⟨y8,(IntKind.i64.wrap ((1:Int)+v13.1)),v14.1⟩:Aq)]:List Aq).length:Int)≤140737488355328)<|
  some (.inl ((IntKind.i64.wrap (v3+1)),v14.2.az,v14.2.cc,v14.2.a8,(v7++ [(⟨y8,(IntKind.i64.wrap ((1:Int)+v13.1)),v14.1⟩:Aq)])))
 else
  some (.inl ((IntKind.i64.wrap (v3+1)),v9,v10,v11,v7))
def jC (v1:Ac × Az) (v2:Int × Az) (v3:Int) (v4:List Int) (v5 v6:Int) (v7:List Aq):Option ((Int × List Int × Int × Int × List Aq) ⊕ Option (Ad × Az)):=
 if(decide (v3<([([105]:Ac),([106]:Ac),([109]:Ac)].length:Int)))then
  (getI [([105]:Ac),([106]:Ac),([109]:Ac)] v3).bind fun y8=>
  (II (⟨v4,v5,v6⟩:Az) 3).bind fun v15=>
  if(!v15.1)then
   Nx v2 v3 v7 y8 v15.2.az v15.2.cc v15.2.a8 true
  else
   if(y8==([105]:Ac))then
    (II v15.2 8).bind fun v16=>
    Nx v2 v3 v7 y8 v16.2.az v16.2.cc v16.2.a8 (!v16.1)
   else
    Nx v2 v3 v7 y8 v15.2.az v15.2.cc v15.2.a8 false
 else
  some (.inr (some ((⟨v1.1,(Bk [([107]:Ac),([97]:Ac),([98]:Ac),([99,99]:Ac)] 0 (IntKind.i64.wrap ((2:Int)+v2.1))),v7⟩:Ad),(⟨v4,v5,v6⟩:Az))))
def Jh (a0:Az):Option (Ad × Az):=
 (KV a0 ([([116]:Ac),([117]:Ac)]:List (Ac))).bind fun v1=>
 (Fy v1.2 3).bind fun v2=>
 req (0≤(0:Int)∧(0:Int)≤(IntKind.i64.wrap ((2:Int)+v2.1))∧(IntKind.i64.wrap ((2:Int)+v2.1))≤(([([107]:Ac),([97]:Ac),([98]:Ac),([99,99]:Ac)]:List (Ac)).length:Int))<|
 req (((([]:List (Ac)).length:Int)+(((Bk [([107]:Ac),([97]:Ac),([98]:Ac),([99,99]:Ac)] 0 (IntKind.i64.wrap ((2:Int)+v2.1)))).length:Int))*16≤140737488355328∧(([]:List (Ac)).length:Int)+(((Bk [([107]:Ac),([97]:Ac),([98]:Ac),([99,99]:Ac)] 0 (IntKind.i64.wrap ((2:Int)+v2.1)))).length:Int)≤140737488355328)<|
 AA (fun s:Int × List Int × Int × Int × List Aq=>jC v1 v2 s.1 s.2.1 s.2.2.1 s.2.2.2.1 s.2.2.2.2) (0,v2.2.az,v2.2.cc,v2.2.a8, [])
def Sd (a0:Ad):Option (Ad):=
 req (((([]:List (Ac)).length:Int)+((a0.ar).length:Int))*16≤140737488355328∧(([]:List (Ac)).length:Int)+((a0.ar).length:Int)≤140737488355328)<|
 req (((([]:List Aq).length:Int)+((a0.ah).length:Int))*32≤140737488355328∧(([]:List Aq).length:Int)+((a0.ah).length:Int)≤140737488355328)<|
 some a0
def kQ (a0:Ad) (a1:Ac) (v1:Int):Option ((Int) ⊕ Option (Int)):=
 if(decide (v1<(a0.ah.length:Int)))then
  (getI a0.ah v1).bind fun y2=>
  if(y2.ab==a1)then
   some (.inr (some v1))
  else
   some (.inl (IntKind.i64.wrap (v1+1)))
 else
  some (.inr (some (-1)))
def GP (a0:Ad) (a1:Ac):Option (Int):=
 AA (fun s:Int=>kQ a0 a1 s) 0
def PV (a0:Ad) (a1:Ac) (a2:Int):Option (Ad):=
 (Sd a0).bind fun v1=>
 (GP a0 a1).bind fun v2=>
 (getI v1.ah v2).bind fun y3=>
 some (⟨v1.ab,v1.ar,(v1.ah.set (v2).toNat {y3 with aq:=a2})⟩:Ad)
def yR (a1:Ad) (v2:List Int) (v3 v4:Int) (v5:List (Ac)):Option ((List Int × Int × Int × List (Ac)) ⊕ Option (AI × Az)):=
 if(decide ((v5.length:Int)<(a1.ar.length:Int)))then
  (KV (⟨v2,v3,v4⟩:Az) ([([120]:Ac),([121]:Ac),([120]:Ac),([48]:Ac),([97,98,99]:Ac)]:List (Ac))).bind fun v6=>
  req ((((v5).length:Int)+(([v6.1]:List (Ac)).length:Int))*16≤140737488355328∧((v5).length:Int)+(([v6.1]:List (Ac)).length:Int)≤140737488355328)<|
  some (.inl (v6.2.az,v6.2.cc,v6.2.a8,(v5++ [v6.1])))
 else
  some (.inr (some ((⟨v5⟩:AI),(⟨v2,v3,v4⟩:Az))))
def Vf (a0:Az) (a1:Ad):Option (AI × Az):=
 (KV a0 ([([49]:Ac),([50]:Ac),([51]:Ac),([97]:Ac),([122,122]:Ac),([97,98,99]:Ac)]:List (Ac))).bind fun v1=>
 AA (fun s:List Int × Int × Int × List (Ac)=>yR a1 s.1 s.2.1 s.2.2.1 s.2.2.2) (v1.2.az,v1.2.cc,v1.2.a8, [v1.1])
def RH (a0:List (Ac)) (a1 v1:Ac) (v2:Int):Option ((Ac × Int) ⊕ Option (Ac)):=
 if(decide (v2<(a0.length:Int)))then
  (getI a0 v2).bind fun y3=>
  if(decide (v2>0))then
   req ((v1).length+(a1).length≤9223372036854775807)<|
   req (((v1++a1)).length+(y3).length≤9223372036854775807)<|
   some (.inl (((v1++a1)++y3),(IntKind.i64.wrap (v2+1))))
  else
   req ((v1).length+(y3).length≤9223372036854775807)<|
   some (.inl ((v1++y3),(IntKind.i64.wrap (v2+1))))
 else
  some (.inr (some v1))
def lX (a0:List (Ac)) (a1:Ac):Option (Ac):=
 AA (fun s:Ac × Int=>RH a0 a1 s.1 s.2) (([]:Ac),0)
def IK (a0:Ad) (a1:AI):Option (Ab):=
 req ((a0.ab).length+(([47]:Ac)).length≤9223372036854775807)<|
 (getI a1.aw 0).bind fun y1=>
 req (((a0.ab++([47]:Ac))).length+(y1).length≤9223372036854775807)<|
 req (0≤(1:Int)∧(1:Int)≤(a1.aw.length:Int)∧(a1.aw.length:Int)≤(a1.aw.length:Int))<|
 (lX (Bk a1.aw 1 (a1.aw.length:Int)) ([44]:Ac)).bind fun v2=>
 some (⟨((a0.ab++([47]:Ac))++y1),v2,false⟩:Ab)
def YH (a0:List Ab) (a1:Ab) (v1:Int):Option (List Ab):=
 if(decide (v1>0))then
  (getI a0 (IntKind.i64.wrap (v1-1))).bind fun y2=>
  if(y2.af==a1.af)then
   req (((([]:List Ab).length:Int)+((a0).length:Int))*40≤140737488355328∧(([]:List Ab).length:Int)+((a0).length:Int)≤140737488355328)<|
   (getI a0 (IntKind.i64.wrap (v1-1))).bind fun y3=>
   some (a0.set ((IntKind.i64.wrap (v1-1))).toNat a1)
  else
   req (0≤v1∧v1≤(a0.length:Int)∧(a0.length:Int)≤(a0.length:Int))<|
   req (((([]:List Ab).length:Int)+(((Bk a0 v1 (a0.length:Int))).length:Int))*40≤140737488355328∧(([]:List Ab).length:Int)+(((Bk a0 v1 (a0.length:Int))).length:Int)≤140737488355328)<|
   req (0≤(0:Int)∧(0:Int)≤v1∧v1≤(a0.length:Int))<|
   req (((([]:List Ab).length:Int)+(((Bk a0 0 v1)).length:Int))*40≤140737488355328∧(([]:List Ab).length:Int)+(((Bk a0 0 v1)).length:Int)≤140737488355328)<|
   req (((((Bk a0 0 v1)).length:Int)+(([a1]:List Ab).length:Int))*40≤140737488355328∧(((Bk a0 0 v1)).length:Int)+(([a1]:List Ab).length:Int)≤140737488355328)<|
   req ((((((Bk a0 0 v1)++ [a1])).length:Int)+(((Bk a0 v1 (a0.length:Int))).length:Int))*40≤140737488355328∧((((Bk a0 0 v1)++ [a1])).length:Int)+(((Bk a0 v1 (a0.length:Int))).length:Int)≤140737488355328)<|
   some (((Bk a0 0 v1)++ [a1])++(Bk a0 v1 (a0.length:Int)))
 else
  req (0≤v1∧v1≤(a0.length:Int)∧(a0.length:Int)≤(a0.length:Int))<|
  req (((([]:List Ab).length:Int)+(((Bk a0 v1 (a0.length:Int))).length:Int))*40≤140737488355328∧(([]:List Ab).length:Int)+(((Bk a0 v1 (a0.length:Int))).length:Int)≤140737488355328)<|
  req (0≤(0:Int)∧(0:Int)≤v1∧v1≤(a0.length:Int))<|
  req (((([]:List Ab).length:Int)+(((Bk a0 0 v1)).length:Int))*40≤140737488355328∧(([]:List Ab).length:Int)+(((Bk a0 0 v1)).length:Int)≤140737488355328)<|
  req (((((Bk a0 0 v1)).length:Int)+(([a1]:List Ab).length:Int))*40≤140737488355328∧(((Bk a0 0 v1)).length:Int)+(([a1]:List Ab).length:Int)≤140737488355328)<|
  req ((((((Bk a0 0 v1)++ [a1])).length:Int)+(((Bk a0 v1 (a0.length:Int))).length:Int))*40≤140737488355328∧((((Bk a0 0 v1)++ [a1])).length:Int)+(((Bk a0 v1 (a0.length:Int))).length:Int)≤140737488355328)<|
  some (((Bk a0 0 v1)++ [a1])++(Bk a0 v1 (a0.length:Int)))
def PQ (a0:List Ab) (a1:Ab) (v4:Int):Option ((Int) ⊕ Option (List Ab)):=
 if(decide (v4>0))then
  (getI a0 (IntKind.i64.wrap (v4-1))).bind fun y5=>
  if(!(Op.bytesLess y5.af a1.af||y5.af==a1.af))then
   some (.inl (IntKind.i64.wrap (v4-1)))
  else
   some (.inr (YH a0 a1 v4))
 else
  some (.inr (YH a0 a1 v4))
def G8 (a0:List Ab) (a1:Ab):Option (List Ab):=
 AA (fun s:Int=>PQ a0 a1 s) (a0.length:Int)
def kF (a0:Ac) (v1:Int) (v2:List (Ac)):Option (List (Ac)):=
 req (0≤v1∧v1≤(a0.length:Int)∧(a0.length:Int)≤(a0.length:Int))<|
 req ((((v2).length:Int)+(([(Bk a0 v1 (a0.length:Int))]:List (Ac)).length:Int))*16≤140737488355328∧((v2).length:Int)+(([(Bk a0 v1 (a0.length:Int))]:List (Ac)).length:Int)≤140737488355328)<|
 some (v2++ [(Bk a0 v1 (a0.length:Int))])
def RD (a0:Ac) (a1:Int) (v3:List (Ac)) (v4 v5:Int):Option ((List (Ac) × Int × Int) ⊕ Option (List (Ac))):=
 if(decide (v5<(a0.length:Int)))then
  (getI a0 v5).bind fun y6=>
  if((y6.toNat:Int)==a1)then
   req (0≤v4∧v4≤v5∧v5≤(a0.length:Int))<|
   req ((((v3).length:Int)+(([(Bk a0 v4 v5)]:List (Ac)).length:Int))*16≤140737488355328∧((v3).length:Int)+(([(Bk a0 v4 v5)]:List (Ac)).length:Int)≤140737488355328)<|
   some (.inl ((v3++ [(Bk a0 v4 v5)]),(IntKind.i64.wrap (v5+1)),(IntKind.i64.wrap (v5+1))))
  else
   some (.inl (v3,v4,(IntKind.i64.wrap (v5+1))))
 else
  some (.inr (kF a0 v4 v3))
def PS (a0:Ac) (a1:Int):Option (List (Ac)):=
 AA (fun s:List (Ac) × Int × Int=>RD a0 a1 s.1 s.2.1 s.2.2) ([],0,0)
def F9 (a0 a1 a2:Int):Option (Bool):=
 some ((decide (a0≥a1))&&(decide (a0≤a2)))
def lD (v1:Int) (v3:Bool):Option ((Int) ⊕ Option (Bool)):=
 if(!v3)then
  some (.inr (some false))
 else
  some (.inl (IntKind.i64.wrap (v1+1)))
def Vn (a1:Ac) (v1:Int) (y2:UInt8) (v4:Bool) (v5:Int):Option ((Bool × Int) ⊕ Option ((Int) ⊕ Option (Bool))):=
 if(decide (v5<(a1.length:Int)))then
  if v4 then
   some (.inl (true,(IntKind.i64.wrap (v5+1))))
  else
   (getI a1 v5).bind fun y6=>
   some (.inl (((y2.toNat:Int)==(y6.toNat:Int)),(IntKind.i64.wrap (v5+1))))
 else
  some (.inr (lD v1 v4))
def kE (a0 a1:Ac) (v1:Int):Option ((Int) ⊕ Option (Bool)):=
 if(decide (v1<(a0.length:Int)))then
  (getI a0 v1).bind fun y2=>
  AA (fun s:Bool × Int=>Vn a1 v1 y2 s.1 s.2) ((((decide ((y2.toNat:Int)≥97))&&(decide ((y2.toNat:Int)≤122)))||((decide ((y2.toNat:Int)≥48))&&(decide ((y2.toNat:Int)≤57)))),0)
 else
  some (.inr (some true))
def Sa (a0 a1:Ac):Option (Bool):=
 AA (fun s:Int=>kE a0 a1 s) 0
def RY (a0:Ac):Option (Bool):=
 (F9 (a0.length:Int) 1 3).bind fun v1=>
 if v1 then
  (Sa a0 ([]:Ac)).bind fun v2=>
  some v2
 else
  some false
def kY (a0:Ad) (a1:AI):Option (Bool):=
 some ((a1.aw.length:Int)==(a0.ar.length:Int))
def kX (a0:Ad) (a1:AI) (v1:Int):Option ((Int) ⊕ Option (Bool)):=
 if(decide (v1<(a1.aw.length:Int)))then
  (getI a1.aw v1).bind fun y2=>
  (RY y2).bind fun v3=>
  if(!v3)then
   some (.inr (some false))
  else
   some (.inl (IntKind.i64.wrap (v1+1)))
 else
  some (.inr (kY a0 a1))
def NG (a0:Ad) (a1:AI):Option (Bool):=
 AA (fun s:Int=>kX a0 a1 s) 0
def Zc (a0:Ad) (a1:Ab):Option (AI × Bool):=
 if(decide ((a1.af.length:Int)<3))then
  some ((⟨[]⟩:AI),false)
 else
  req (0≤(2:Int)∧(2:Int)≤(a1.af.length:Int)∧(a1.af.length:Int)≤(a1.af.length:Int))<|
  (PS a1.a7 44).bind fun v1=>
  req (((([(Bk a1.af 2 (a1.af.length:Int))]:List (Ac)).length:Int)+((v1).length:Int))*16≤140737488355328∧(([(Bk a1.af 2 (a1.af.length:Int))]:List (Ac)).length:Int)+((v1).length:Int)≤140737488355328)<|
  (NG a0 (⟨([(Bk a1.af 2 (a1.af.length:Int))]++v1)⟩:AI)).bind fun v2=>
  if v2 then
   (IK a0 (⟨([(Bk a1.af 2 (a1.af.length:Int))]++v1)⟩:AI)).bind fun v3=>
   some ((⟨([(Bk a1.af 2 (a1.af.length:Int))]++v1)⟩:AI),(v3.af==a1.af&&(v3.a7==a1.a7&&(v3.bh==a1.bh))))
  else
   some ((⟨([(Bk a1.af 2 (a1.af.length:Int))]++v1)⟩:AI),false)
def RC (a0:Ad) (a1:List Ab) (v1:List AI) (v2:Int):Option ((List AI × Int) ⊕ Option (List AI)):=
 if(decide (v2<(a1.length:Int)))then
  (getI a1 v2).bind fun y3=>
  (Zc a0 y3).bind fun v4=>
  if v4.2 then
   req ((((v1).length:Int)+(([v4.1]:List AI).length:Int))*24≤140737488355328∧((v1).length:Int)+(([v4.1]:List AI).length:Int)≤140737488355328)<|
   some (.inl ((v1++ [v4.1]),(IntKind.i64.wrap (v2+1))))
  else
   some (.inl (v1,(IntKind.i64.wrap (v2+1))))
 else
  some (.inr (some v1))
def Km (a0:Ad) (a1:List Ab):Option (List AI):=
 AA (fun s:List AI × Int=>RC a0 a1 s.1 s.2) ([],0)
def Ji (a0:Ad) (a1:Aq) (a2:AI):Option (Ac):=
 req ((a0.ab).length+(([46]:Ac)).length≤9223372036854775807)<|
 req (((a0.ab++([46]:Ac))).length+(a1.ab).length≤9223372036854775807)<|
 req ((((a0.ab++([46]:Ac))++a1.ab)).length+(([47]:Ac)).length≤9223372036854775807)<|
 (getI a2.aw a1.bm).bind fun y1=>
 req (((((a0.ab++([46]:Ac))++a1.ab)++([47]:Ac))).length+(y1).length≤9223372036854775807)<|
 req ((((((a0.ab++([46]:Ac))++a1.ab)++([47]:Ac))++y1)).length+(([47]:Ac)).length≤9223372036854775807)<|
 (getI a2.aw 0).bind fun y2=>
 req (((((((a0.ab++([46]:Ac))++a1.ab)++([47]:Ac))++y1)++([47]:Ac))).length+(y2).length≤9223372036854775807)<|
 some ((((((a0.ab++([46]:Ac))++a1.ab)++([47]:Ac))++y1)++([47]:Ac))++y2)
def YC (a0:Az):Option (Ac × Az):=
 (KV a0 ([([97]:Ac),([98]:Ac),([99]:Ac),([109]:Ac),([110]:Ac),([122]:Ac),([114,47,49]:Ac),([105,47,120,47,49]:Ac)]:List (Ac))).bind fun v1=>
 some (v1.1,v1.2)
def YD (a0:Az):Option (Ac × Az):=
 (KV a0 ([([]:Ac),([49]:Ac),([55]:Ac),([49,48]:Ac),([45,51]:Ac),([120]:Ac),([97,44,98,95,99]:Ac)]:List (Ac))).bind fun v1=>
 some (v1.1,v1.2)
def jF (v6:List Int) (v7 v8:Int) (v9:List Ab):Option (List Ab × Az):=
 (II (⟨v6,v7,v8⟩:Az) 6).bind fun v10=>
 if v10.1 then
  (YC v10.2).bind fun v11=>
  (YD v11.2).bind fun v12=>
  (G8 v9 (⟨v11.1,v12.1,false⟩:Ab)).bind fun v13=>
  some (v13,(⟨v12.2.az,v12.2.cc,v12.2.a8⟩:Az))
 else
  some (v9,(⟨v10.2.az,v10.2.cc,v10.2.a8⟩:Az))
def jB (a1:Ad) (v14:Int) (y19:Aq) (v21:List Int) (v22 v23:Int) (v24:List Ab):Option ((Int × List Int × Int × Int × List Ab) ⊕ Option (List Ab × Az)):=
 (II (⟨v21,v22,v23⟩:Az) 5).bind fun v25=>
 if v25.1 then
  (Vf v25.2 a1).bind fun v26=>
  (Ji a1 y19 v26.1).bind fun v27=>
  (G8 v24 (⟨v27,([]:Ac),false⟩:Ab)).bind fun v28=>
  some (.inl ((IntKind.i64.wrap (v14+1)),v26.2.az,v26.2.cc,v26.2.a8,v28))
 else
  some (.inl ((IntKind.i64.wrap (v14+1)),v25.2.az,v25.2.cc,v25.2.a8,v24))
def yL (a1:Ad) (v14:Int) (y19:Aq) (v20:List AI) (v29:Int) (v30:List Int) (v31 v32:Int) (v33:List Ab):Option ((Int × List Int × Int × Int × List Ab) ⊕ Option ((Int × List Int × Int × Int × List Ab) ⊕ Option (List Ab × Az))):=
 if(decide (v29<(v20.length:Int)))then
  (getI v20 v29).bind fun y34=>
  (II (⟨v30,v31,v32⟩:Az) 5).bind fun v35=>
  if(!v35.1)then
   (Ji a1 y19 y34).bind fun v36=>
   (G8 v33 (⟨v36,([]:Ac),false⟩:Ab)).bind fun v37=>
   some (.inl ((IntKind.i64.wrap (v29+1)),v35.2.az,v35.2.cc,v35.2.a8,v37))
  else
   some (.inl ((IntKind.i64.wrap (v29+1)),v35.2.az,v35.2.cc,v35.2.a8,v33))
 else
  some (.inr (jB a1 v14 y19 v30 v31 v32 v33))
def yK (a1:Ad) (v14:Int) (v15:List Int) (v16 v17:Int) (v18:List Ab):Option ((Int × List Int × Int × Int × List Ab) ⊕ Option (List Ab × Az)):=
 if(decide (v14<(a1.ah.length:Int)))then
  (getI a1.ah v14).bind fun y19=>
  (Km a1 v18).bind fun v20=>
  AA (fun s:Int × List Int × Int × Int × List Ab=>yL a1 v14 y19 v20 s.1 s.2.1 s.2.2.1 s.2.2.2.1 s.2.2.2.2) (0,v15,v16,v17,v18)
 else
  some (.inr (jF v15 v16 v17 v18))
def jD (a1:Ad) (v2:List Int) (v3 v4:Int) (v5:List Ab):Option (List Ab × Az):=
 AA (fun s:Int × List Int × Int × Int × List Ab=>yK a1 s.1 s.2.1 s.2.2.1 s.2.2.2.1 s.2.2.2.2) (0,v2,v3,v4,v5)
def yM (a1:Ad) (v38:List Ab) (v39:Int) (v40:List Int) (v41 v42:Int):Option ((List Ab × Int × List Int × Int × Int) ⊕ Option (List Ab × Az)):=
 if(decide (v39>0))then
  (Vf (⟨v40,v41,v42⟩:Az) a1).bind fun v43=>
  (IK a1 v43.1).bind fun v44=>
  (G8 v38 v44).bind fun v45=>
  some (.inl (v45,(IntKind.i64.wrap (v39-1)),v43.2.az,v43.2.cc,v43.2.a8))
 else
  some (.inr (jD a1 v40 v41 v42 v38))
def Yt (a0:Az) (a1:Ad):Option (List Ab × Az):=
 (Fy a0 5).bind fun v1=>
 AA (fun s:List Ab × Int × List Int × Int × Int=>yM a1 s.1 s.2.1 s.2.2.1 s.2.2.2.1 s.2.2.2.2) ([],v1.1,v1.2.az,v1.2.cc,v1.2.a8)
def jZ (a0:Ac) (a1:Int):Option (Bool):=
 some ((decide ((a0.length:Int)≥1))&&(decide ((a0.length:Int)≤a1)))
def jY (a0:Ac) (a1 v1:Int):Option ((Int) ⊕ Option (Bool)):=
 if(decide (v1<(a0.length:Int)))then
  (getI a0 v1).bind fun y2=>
  if((decide ((y2.toNat:Int)<97))||(decide ((y2.toNat:Int)>122)))then
   some (.inr (some false))
  else
   some (.inl (IntKind.i64.wrap (v1+1)))
 else
  some (.inr (jZ a0 a1))
def RB (a0:Ac) (a1:Int):Option (Bool):=
 AA (fun s:Int=>jY a0 a1 s) 0
def lK (a0:List (Ac)) (a1:Ac) (v1:Int):Option ((Int) ⊕ Option (Int)):=
 if(decide (v1<(a0.length:Int)))then
  (getI a0 v1).bind fun y2=>
  if(y2==a1)then
   some (.inr (some v1))
  else
   some (.inl (IntKind.i64.wrap (v1+1)))
 else
  some (.inr (some (-1)))
def PU (a0:List (Ac)) (a1:Ac):Option (Int):=
 AA (fun s:Int=>lK a0 a1 s) 0
def kZ (a0:List (Ac)):Option (Bool):=
 (F9 (a0.length:Int) 2 4).bind fun v1=>
 some v1
def lB (a0:List (Ac)) (v2:Int):Option ((Int) ⊕ Option (Bool)):=
 if(decide (v2<(a0.length:Int)))then
  (getI a0 v2).bind fun y3=>
  (RB y3 3).bind fun v4=>
  if v4 then
   req (0≤(0:Int)∧(0:Int)≤v2∧v2≤(a0.length:Int))<|
   (PU (Bk a0 0 v2) y3).bind fun v5=>
   if(decide (v5≥0))then
    some (.inr (some false))
   else
    some (.inl (IntKind.i64.wrap (v2+1)))
  else
   some (.inr (some false))
 else
  some (.inr (kZ a0))
def Y7 (a0:List (Ac)):Option (Bool):=
 AA (fun s:Int=>lB a0 s) 0
def Yz (a0:Ad) (v3:Int):Option ((Int) ⊕ Option (Bool)):=
 if(decide (v3<(a0.ah.length:Int)))then
  (getI a0.ah v3).bind fun y4=>
  (RB y4.ab 1).bind fun v5=>
  if v5 then
   (F9 y4.bm 1 (IntKind.i64.wrap ((a0.ar.length:Int)-1))).bind fun v6=>
   if v6 then
    (F9 y4.aq 0 3).bind fun v7=>
    if(decide (v3>0))then
     if v7 then
      (getI a0.ah (IntKind.i64.wrap (v3-1))).bind fun y8=>
      if(!Op.bytesLess y8.ab y4.ab)then
       some (.inr (some false))
      else
       some (.inl (IntKind.i64.wrap (v3+1)))
     else
      some (.inr (some false))
    else
     if((!v7)||false)then
      some (.inr (some false))
     else
      some (.inl (IntKind.i64.wrap (v3+1)))
   else
    some (.inr (some false))
  else
   some (.inr (some false))
 else
  some (.inr (some true))
def KU (a0:Ad):Option (Bool):=
 (RB a0.ab 1).bind fun v1=>
 if v1 then
  (Y7 a0.ar).bind fun v2=>
  if((!v2)||(decide ((a0.ah.length:Int)>3)))then
   some false
  else
   AA (fun s:Int=>Yz a0 s) 0
 else
  some false
def NH (a0:Ad) (a1:Ac) (a2:Int):Option (Bool):=
 (KU a0).bind fun v1=>
 if v1 then
  (GP a0 a1).bind fun v2=>
  if(decide (v2≥0))then
   (F9 a2 0 3).bind fun v3=>
   some v3
  else
   some false
 else
  some false
def Sl (a0:Ac):Option (Bool):=
 (F9 (a0.length:Int) 1 12).bind fun v1=>
 if v1 then
  (Sa a0 ([46,47]:Ac)).bind fun v2=>
  some v2
 else
  some false
def VS (a0:Ac):Option (Bool):=
 if(decide ((a0.length:Int)≤24))then
  (Sa a0 ([46,45,44,95]:Ac)).bind fun v1=>
  some v1
 else
  some false
def Zd (a0 a1:Ac) (a2:Bool):Option (Bool):=
 (Sl a0).bind fun v1=>
 if v1 then
  (VS a1).bind fun v2=>
  some (v2&&((!a2)||(a1==([]:Ac))))
 else
  some false
def kK (a0:List Ab):Option (Bool):=
 some (decide ((a0.length:Int)≤24))
def kI (a0:List Ab) (v1:Int):Option ((Int) ⊕ Option (Bool)):=
 if(decide (v1<(a0.length:Int)))then
  (getI a0 v1).bind fun y2=>
  (Zd y2.af y2.a7 y2.bh).bind fun v3=>
  if(decide (v1>0))then
   if v3 then
    (getI a0 (IntKind.i64.wrap (v1-1))).bind fun y4=>
    if(!Op.bytesLess y4.af y2.af)then
     some (.inr (some false))
    else
     some (.inl (IntKind.i64.wrap (v1+1)))
   else
    some (.inr (some false))
  else
   if((!v3)||false)then
    some (.inr (some false))
   else
    some (.inl (IntKind.i64.wrap (v1+1)))
 else
  some (.inr (kK a0))
def YV (a0:List Ab):Option (Bool):=
 AA (fun s:Int=>kI a0 s) 0
def kU (a0:List Ab):Option (Bool):=
 (YV a0).bind fun v1=>
 some v1
def kT (a0:List Ab) (v2:Int):Option ((Int) ⊕ Option (Bool)):=
 if(decide (v2<(a0.length:Int)))then
  (getI a0 v2).bind fun y3=>
  if y3.bh then
   some (.inr (some false))
  else
   some (.inl (IntKind.i64.wrap (v2+1)))
 else
  some (.inr (kU a0))
def Kn (a0:List Ab):Option (Bool):=
 AA (fun s:Int=>kT a0 s) 0
def VD (a0:Ad) (a1:Ac) (a2 v4:Int) (v5:List Ad):Option ((Int × List Ad) ⊕ Option (List Ad)):=
 if(v4 !=a2)then
  if(decide (v4<a2))then
   (PV a0 a1 (IntKind.i64.wrap (v4+1))).bind fun v6=>
   req ((((v5).length:Int)+(([v6]:List Ad).length:Int))*64≤140737488355328∧((v5).length:Int)+(([v6]:List Ad).length:Int)≤140737488355328)<|
   some (.inl ((IntKind.i64.wrap (v4+1)),(v5++ [v6])))
  else
   (PV a0 a1 (IntKind.i64.wrap (v4-1))).bind fun v7=>
   req ((((v5).length:Int)+(([v7]:List Ad).length:Int))*64≤140737488355328∧((v5).length:Int)+(([v7]:List Ad).length:Int)≤140737488355328)<|
   some (.inl ((IntKind.i64.wrap (v4-1)),(v5++ [v7])))
 else
  some (.inr (some v5))
def VM (a0:Ad) (a1:Ac) (a2:Int):Option (List Ad):=
 (Sd a0).bind fun v1=>
 (GP a0 a1).bind fun v2=>
 (getI a0.ah v2).bind fun y3=>
 AA (fun s:Int × List Ad=>VD a0 a1 a2 s.1 s.2) (y3.aq, [v1])
def Zr (a0:List Int):Option (List Int):=
 req (((([]:List Int).length:Int)+((a0).length:Int))*8≤140737488355328∧(([]:List Int).length:Int)+((a0).length:Int)≤140737488355328)<|
 some a0
def R3 (a0:Ar) (v1:List Int) (v2:Int) (v3:List Ad):Option ((Int × List Ad) ⊕ Option (Ar)):=
 if(decide (v2<(a0.aj.length:Int)))then
  (getI a0.aj v2).bind fun y4=>
  (Sd y4).bind fun v5=>
  req ((((v3).length:Int)+(([v5]:List Ad).length:Int))*64≤140737488355328∧((v3).length:Int)+(([v5]:List Ad).length:Int)≤140737488355328)<|
  some (.inl ((IntKind.i64.wrap (v2+1)),(v3++ [v5])))
 else
  some (.inr (some (⟨a0.ab,v3,v1,a0.ao⟩:Ar)))
def Se (a0:Ar):Option (Ar):=
 (Zr a0.bp).bind fun v1=>
 req (((([]:List Ab).length:Int)+((a0.ao).length:Int))*40≤140737488355328∧(([]:List Ab).length:Int)+((a0.ao).length:Int)≤140737488355328)<|
 AA (fun s:Int × List Ad=>R3 a0 v1 s.1 s.2) (0, [])
def RR (a0:Ad) (a1:Ac) (a2 a3:Int) (a4:List Ab):Option (Ar × Bool):=
 (NH a0 a1 a2).bind fun v1=>
 if v1 then
  (F9 a3 1 3).bind fun v2=>
  if v2 then
   (Kn a4).bind fun v3=>
   if(!v3)then
    some ((⟨([]:Ac), [], [], []⟩:Ar),false)
   else
    (VM a0 a1 a2).bind fun v4=>
    req (0≤a3∧a3*8≤140737488355328∧a3≤140737488355328)<|
    (Se (⟨a1,v4,(List.replicate (a3).toNat 0),a4⟩:Ar)).bind fun v5=>
    some (v5,true)
  else
   some ((⟨([]:Ac), [], [], []⟩:Ar),false)
 else
  some ((⟨([]:Ac), [], [], []⟩:Ar),false)
def Y1 (a0 a1:Int):Option (Int):=
 if(decide (a0<a1))then
  some a0
 else
  some a1
def Rl (a0:Ar) (v1:List Int) (v2:Int):Option ((List Int × Int) ⊕ Option (List Int)):=
 if(decide (v2<(a0.bp.length:Int)))then
  (getI a0.bp v2).bind fun y3=>
  (getI a0.aj y3).bind fun y4=>
  (GP y4 a0.ab).bind fun v5=>
  (getI y4.ah v5).bind fun y6=>
  req ((((v1).length:Int)+(([y6.aq]:List Int).length:Int))*8≤140737488355328∧((v1).length:Int)+(([y6.aq]:List Int).length:Int)≤140737488355328)<|
  some (.inl ((v1++ [y6.aq]),(IntKind.i64.wrap (v2+1))))
 else
  some (.inr (some v1))
def L6 (a0:Ar):Option (List Int):=
 AA (fun s:List Int × Int=>Rl a0 s.1 s.2) ([],0)
def RX (a0:List Int) (a1 v1:Int):Option ((Int) ⊕ Option (Bool)):=
 if(decide (v1<(a0.length:Int)))then
  (getI a0 v1).bind fun y2=>
  if(y2==a1)then
   some (.inr (some true))
  else
   some (.inl (IntKind.i64.wrap (v1+1)))
 else
  some (.inr (some false))
def VU (a0:List Int) (a1:Int):Option (Bool):=
 AA (fun s:Int=>RX a0 a1 s) 0
def VG (a0:Ar):Option (Int):=
 (L6 a0).bind fun v1=>
 (VU v1 3).bind fun v2=>
 if v2 then
  some 2
 else
  (VU v1 0).bind fun v3=>
  if v3 then
   some 0
  else
   some 1
def Ro (a0:Ad) (a1:Ac) (v1:List AI) (v2:List (Ac)) (v3:Int):Option ((List (Ac) × Int) ⊕ Option (List (Ac))):=
 if(decide (v3<(v1.length:Int)))then
  (getI v1 v3).bind fun y4=>
  (GP a0 a1).bind fun v5=>
  (getI a0.ah v5).bind fun y6=>
  (Ji a0 y6 y4).bind fun v7=>
  req ((((v2).length:Int)+(([v7]:List (Ac)).length:Int))*16≤140737488355328∧((v2).length:Int)+(([v7]:List (Ac)).length:Int)≤140737488355328)<|
  some (.inl ((v2++ [v7]),(IntKind.i64.wrap (v3+1))))
 else
  some (.inr (some v2))
def R4 (a0:Ad) (a1:Ac) (a2:List Ab):Option (List (Ac)):=
 (Km a0 a2).bind fun v1=>
 AA (fun s:List (Ac) × Int=>Ro a0 a1 v1 s.1 s.2) ([],0)
def jK (v11:List Ab × Az) (v16:Ar × Bool) (v21 v24:List Int) (v25 v26:Int) (v27:List Ab):Option (Ar × Az):=
 (II (⟨v24,v25,v26⟩:Az) 7).bind fun v28=>
 if v28.1 then
  some ((⟨v16.1.ab,v16.1.aj,v21,v11.1⟩:Ar),(⟨v28.2.az,v28.2.cc,v28.2.a8⟩:Az))
 else
  some ((⟨v16.1.ab,v16.1.aj,v21,v27⟩:Ar),(⟨v28.2.az,v28.2.cc,v28.2.a8⟩:Az))
def yO (v11:List Ab × Az) (v16:Ar × Bool) (v21:List Int) (v22:Int) (v23:List (Ac)) (v29:Int) (v30:List Int) (v31 v32:Int) (v33:List Ab):Option ((Int × List Int × Int × Int × List Ab) ⊕ Option (Ar × Az)):=
 if(decide (v29<(v23.length:Int)))then
  (getI v23 v29).bind fun y34=>
  if(v22==2)then
   if true then
    (G8 v33 (⟨y34,([]:Ac),false⟩:Ab)).bind fun v35=>
    some (.inl ((IntKind.i64.wrap (v29+1)),v30,v31,v32,v35))
   else
    some (.inl ((IntKind.i64.wrap (v29+1)),v30,v31,v32,v33))
  else
   if(v22==1)then
    (II (⟨v30,v31,v32⟩:Az) 2).bind fun v36=>
    if v36.1 then
     (G8 v33 (⟨y34,([]:Ac),false⟩:Ab)).bind fun v37=>
     some (.inl ((IntKind.i64.wrap (v29+1)),v36.2.az,v36.2.cc,v36.2.a8,v37))
    else
     some (.inl ((IntKind.i64.wrap (v29+1)),v36.2.az,v36.2.cc,v36.2.a8,v33))
   else
    if false then
     (G8 v33 (⟨y34,([]:Ac),false⟩:Ab)).bind fun v38=>
     some (.inl ((IntKind.i64.wrap (v29+1)),v30,v31,v32,v38))
    else
     some (.inl ((IntKind.i64.wrap (v29+1)),v30,v31,v32,v33))
 else
  some (.inr (jK v11 v16 v21 v30 v31 v32 v33))
def jI (y8:Aq) (v10:Ad) (v11:List Ab × Az) (v13:List Ab) (v16:Ar × Bool) (v18:List Int) (v19 v20:Int) (v21:List Int):Option (Ar × Az):=
 (VG (⟨v16.1.ab,v16.1.aj,v21,v16.1.ao⟩:Ar)).bind fun v22=>
 (R4 v10 y8.ab v13).bind fun v23=>
 AA (fun s:Int × List Int × Int × Int × List Ab=>yO v11 v16 v21 v22 v23 s.1 s.2.1 s.2.2.1 s.2.2.2.1 s.2.2.2.2) (0,v18,v19,v20,v16.1.ao)
def yP (y8:Aq) (v10:Ad) (v11:List Ab × Az) (v13:List Ab) (v16:Ar × Bool) (v17:Int × Az) (v39:Int) (v40:List Int) (v41 v42:Int) (v43:List Int):Option ((Int × List Int × Int × Int × List Int) ⊕ Option (Ar × Az)):=
 if(decide (v39<(v16.1.bp.length:Int)))then
  (Fy (⟨v40,v41,v42⟩:Az) 2).bind fun v44=>
  (Y1 (IntKind.i64.wrap (v17.1+v44.1)) (IntKind.i64.wrap ((v16.1.aj.length:Int)-1))).bind fun v45=>
  (getI v43 v39).bind fun y46=>
  (II v44.2 9).bind fun v47=>
  if v47.1 then
   (Fy v47.2 (v16.1.aj.length:Int)).bind fun v48=>
   some (.inl ((IntKind.i64.wrap (v39+1)),v48.2.az,v48.2.cc,v48.2.a8,((v43.set (v39).toNat v45).set (v39).toNat v48.1)))
  else
   some (.inl ((IntKind.i64.wrap (v39+1)),v47.2.az,v47.2.cc,v47.2.a8,(v43.set (v39).toNat v45)))
 else
  some (.inr (jI y8 v10 v11 v13 v16 v40 v41 v42 v43))
def jJ (y8:Aq) (v10:Ad) (v11:List Ab × Az) (v13:List Ab):Option (Ar × Az):=
 (Fy v11.2 4).bind fun v14=>
 (Fy v14.2 3).bind fun v15=>
 (RR v10 y8.ab v14.1 (IntKind.i64.wrap ((1:Int)+v15.1)) v13).bind fun v16=>
 (Fy v15.2 (v16.1.aj.length:Int)).bind fun v17=>
 AA (fun s:Int × List Int × Int × Int × List Int=>yP y8 v10 v11 v13 v16 v17 s.1 s.2.1 s.2.2.1 s.2.2.2.1 s.2.2.2.2) (0,v17.2.az,v17.2.cc,v17.2.a8,v16.1.bp)
def yN (y8:Aq) (v10:Ad) (v11:List Ab × Az) (v12:List AI) (v49:List Ab) (v50:Int):Option ((List Ab × Int) ⊕ Option (Ar × Az)):=
 if(decide (v50<(v12.length:Int)))then
  (getI v12 v50).bind fun y51=>
  (IK v10 y51).bind fun v52=>
  (G8 v49 v52).bind fun v53=>
  some (.inl (v53,(IntKind.i64.wrap (v50+1))))
 else
  some (.inr (jJ y8 v10 v11 v49))
def U5 (v2:List Int) (v3 v4:Int) (v5:Ac) (v6:List (Ac)) (v7:List Aq):Option (Ar × Az):=
 (getI v7 0).bind fun y8=>
 (Fy (⟨v2,v3,v4⟩:Az) 4).bind fun v9=>
 (PV (⟨v5,v6,v7⟩:Ad) y8.ab v9.1).bind fun v10=>
 (Yt v9.2 v10).bind fun v11=>
 (Km v10 v11.1).bind fun v12=>
 AA (fun s:List Ab × Int=>yN y8 v10 v11 v12 s.1 s.2) ([],0)
def Q9 (v54:List Int) (v55 v56:Int) (v57:Ac) (v58:List (Ac)) (v59:List Aq):Option ((List Int × Int × Int × Ac × List (Ac) × List Aq) ⊕ Option (Ar × Az)):=
 if((v59.length:Int)==0)then
  (Jh (⟨v54,v55,v56⟩:Az)).bind fun v60=>
  some (.inl (v60.2.az,v60.2.cc,v60.2.a8,v60.1.ab,v60.1.ar,v60.1.ah))
 else
  some (.inr (U5 v54 v55 v56 v57 v58 v59))
def PB (a0:Az):Option (Ar × Az):=
 (Jh a0).bind fun v1=>
 AA (fun s:List Int × Int × Int × Ac × List (Ac) × List Aq=>Q9 s.1 s.2.1 s.2.2.1 s.2.2.2.1 s.2.2.2.2.1 s.2.2.2.2.2) (v1.2.az,v1.2.cc,v1.2.a8,v1.1.ab,v1.1.ar,v1.1.ah)
def Yb (a0:Az):Option (Ar × Az):=
 (PB a0).bind fun v1=>
 (Fy v1.2 14).bind fun v2=>
 if(v2.1==0)then
  (Fy v2.2 6).bind fun v3=>
  req ((((v1.1.bp).length:Int)+(([(IntKind.i64.wrap (v3.1-1))]:List Int).length:Int))*8≤140737488355328∧((v1.1.bp).length:Int)+(([(IntKind.i64.wrap (v3.1-1))]:List Int).length:Int)≤140737488355328)<|
  some ((⟨v1.1.ab,v1.1.aj,(v1.1.bp++ [(IntKind.i64.wrap (v3.1-1))]),v1.1.ao⟩:Ar),(⟨v3.2.az,v3.2.cc,v3.2.a8⟩:Az))
 else
  if(v2.1==1)then
   (Jh v2.2).bind fun v4=>
   req ((((v1.1.aj).length:Int)+(([v4.1]:List Ad).length:Int))*64≤140737488355328∧((v1.1.aj).length:Int)+(([v4.1]:List Ad).length:Int)≤140737488355328)<|
   some ((⟨v1.1.ab,(v1.1.aj++ [v4.1]),v1.1.bp,v1.1.ao⟩:Ar),(⟨v4.2.az,v4.2.cc,v4.2.a8⟩:Az))
  else
   if(v2.1==2)then
    (KV v2.2 ([([]:Ac),([122]:Ac)]:List (Ac))).bind fun v5=>
    some ((⟨v5.1,v1.1.aj,v1.1.bp,v1.1.ao⟩:Ar),(⟨v5.2.az,v5.2.cc,v5.2.a8⟩:Az))
   else
    if(v2.1==3)then
     req ((((v1.1.ao).length:Int)+(([(⟨([97]:Ac),([]:Ac),true⟩:Ab)]:List Ab).length:Int))*40≤140737488355328∧((v1.1.ao).length:Int)+(([(⟨([97]:Ac),([]:Ac),true⟩:Ab)]:List Ab).length:Int)≤140737488355328)<|
     some ((⟨v1.1.ab,v1.1.aj,v1.1.bp,(v1.1.ao++ [(⟨([97]:Ac),([]:Ac),true⟩:Ab)])⟩:Ar),(⟨v2.2.az,v2.2.cc,v2.2.a8⟩:Az))
    else
     if(v2.1==4)then
      some ((⟨v1.1.ab, [],v1.1.bp,v1.1.ao⟩:Ar),(⟨v2.2.az,v2.2.cc,v2.2.a8⟩:Az))
     else
      if(v2.1==5)then
       req (0≤(1:Int)∧(1:Int)≤(v1.1.aj.length:Int)∧(v1.1.aj.length:Int)≤(v1.1.aj.length:Int))<|
       some ((⟨v1.1.ab,(Bk v1.1.aj 1 (v1.1.aj.length:Int)),v1.1.bp,v1.1.ao⟩:Ar),(⟨v2.2.az,v2.2.cc,v2.2.a8⟩:Az))
      else
       some ((⟨v1.1.ab,v1.1.aj,v1.1.bp,v1.1.ao⟩:Ar),(⟨v2.2.az,v2.2.cc,v2.2.a8⟩:Az))
def kA (a0:List Int):Option (Ar):=
 (Yb (⟨a0,0,0⟩:Az)).bind fun v1=>
 some v1.1
def Yp (a0:List Int):Option (Ar):=
 (kA a0).bind fun v1=>
 some v1
def Vh (a0 a1:Ad) (v1:Int):Option ((Int) ⊕ Option (Bool)):=
 if(decide (v1<(a0.ah.length:Int)))then
  (getI a0.ah v1).bind fun y2=>
  (getI a1.ah v1).bind fun y3=>
  if((y2.ab !=y3.ab)||(y2.bm !=y3.bm))then
   some (.inr (some false))
  else
   some (.inl (IntKind.i64.wrap (v1+1)))
 else
  some (.inr (some true))
def Yr (a0 a1:Ad):Option (Bool):=
 AA (fun s:Int=>Vh a0 a1 s) 0
def Vj (a0 a1:Ad) (v4:Int):Option ((Int) ⊕ Option (Bool)):=
 if(decide (v4<(a0.ar.length:Int)))then
  (getI a0.ar v4).bind fun y5=>
  (getI a1.ar v4).bind fun y6=>
  if(y5 !=y6)then
   some (.inr (some false))
  else
   some (.inl (IntKind.i64.wrap (v4+1)))
 else
  some (.inr (Yr a0 a1))
def Yx (a0 a1:Ad):Option (Bool):=
 if(((a0.ab !=a1.ab)||((a0.ar.length:Int) !=(a1.ar.length:Int)))||((a0.ah.length:Int) !=(a1.ah.length:Int)))then
  some false
 else
  AA (fun s:Int=>Vj a0 a1 s) 0
def Zk (a0 a1:Int):Option (Int):=
 if(decide (a0>a1))then
  some a0
 else
  some a1
def R5 (a0 a1:Ad) (v1 v2:Int):Option ((Int × Int) ⊕ Option (Int)):=
 if(decide (v2<(a0.ah.length:Int)))then
  (getI a0.ah v2).bind fun y3=>
  (getI a1.ah v2).bind fun y4=>
  (Zk (IntKind.i64.wrap (y3.aq-y4.aq)) (IntKind.i64.wrap (0-(IntKind.i64.wrap (y3.aq-y4.aq))))).bind fun v5=>
  some (.inl ((IntKind.i64.wrap (v1+v5)),(IntKind.i64.wrap (v2+1))))
 else
  some (.inr (some v1))
def Zh (a0 a1:Ad):Option (Int):=
 AA (fun s:Int × Int=>R5 a0 a1 s.1 s.2) (0,0)
def Vo (a0:Ar) (v10:List Ad) (v11:Int):Option ((Int) ⊕ Option (Bool)):=
 if(decide (v11<(v10.length:Int)))then
  (getI a0.aj v11).bind fun y12=>
  (KU y12).bind fun v13=>
  if v13 then
   (getI v10 v11).bind fun y14=>
   (Yx y14 y12).bind fun v15=>
   if v15 then
    (Zh y14 y12).bind fun v16=>
    if(v16 !=0)then
     some (.inr (some false))
    else
     some (.inl (IntKind.i64.wrap (v11+1)))
   else
    some (.inr (some false))
  else
   some (.inr (some false))
 else
  some (.inr (some true))
def Sb (a0:Ar):Option (Bool):=
 (F9 (a0.aj.length:Int) 1 4).bind fun v1=>
 if v1 then
  (getI a0.aj 0).bind fun y2=>
  (KU y2).bind fun v3=>
  if v3 then
   (GP y2 a0.ab).bind fun v4=>
   if(decide (v4<0))then
    some false
   else
    (getI a0.aj (IntKind.i64.wrap ((a0.aj.length:Int)-1))).bind fun y5=>
    (KU y5).bind fun v6=>
    if v6 then
     (GP y5 a0.ab).bind fun v7=>
     if(decide (v7<0))then
      some false
     else
      (GP y5 a0.ab).bind fun v8=>
      (getI y5.ah v8).bind fun y9=>
      (VM y2 a0.ab y9.aq).bind fun v10=>
      if((v10.length:Int) !=(a0.aj.length:Int))then
       some false
      else
       AA (fun s:Int=>Vo a0 v10 s) 0
    else
     some false
  else
   some false
 else
  some false
def RS (a0:List Int) (a1 a2 v1:Int):Option ((Int) ⊕ Option (Bool)):=
 if(decide (v1<(a0.length:Int)))then
  (getI a0 v1).bind fun y2=>
  (F9 y2 a1 a2).bind fun v3=>
  if(!v3)then
   some (.inr (some false))
  else
   some (.inl (IntKind.i64.wrap (v1+1)))
 else
  some (.inr (some true))
def Zp (a0:List Int) (a1 a2:Int):Option (Bool):=
 AA (fun s:Int=>RS a0 a1 a2 s) 0
def VE (a0:Ar):Option (Bool):=
 (Sb a0).bind fun v1=>
 if v1 then
  (F9 (a0.bp.length:Int) 1 3).bind fun v2=>
  if v2 then
   (Zp a0.bp 0 (IntKind.i64.wrap ((a0.aj.length:Int)-1))).bind fun v3=>
   if v3 then
    (Kn a0.ao).bind fun v4=>
    some v4
   else
    some false
  else
   some false
 else
  some false
def GM (a0 a1 a2:Int):Option (Bool):=
 some ((decide (a0≥a1))&&(decide (a0≤a2)))
def Rp (a0:List Ab) (v1:Int) (v2:List (Ac)):Option ((Int × List (Ac)) ⊕ Option (List (Ac))):=
 if(decide (v1<(a0.length:Int)))then
  (getI a0 v1).bind fun y3=>
  req ((((v2).length:Int)+(([y3.af]:List (Ac)).length:Int))*16≤140737488355328∧((v2).length:Int)+(([y3.af]:List (Ac)).length:Int)≤140737488355328)<|
  some (.inl ((IntKind.i64.wrap (v1+1)),(v2++ [y3.af])))
 else
  some (.inr (some v2))
def YJ (a0:List Ab):Option (List (Ac)):=
 AA (fun s:Int × List (Ac)=>Rp a0 s.1 s.2) (0, [])
def jM (a0:Int):Option (Bool):=
 some (((decide (a0≥97))&&(decide (a0≤122)))||((decide (a0≥48))&&(decide (a0≤57))))
def jQ (a0:Ac) (a1:Int):Option (Int):=
 (X2 a0 a1).bind fun v1=>
 some v1
def kL (a0 a1:Ac) (v1:Int):Option ((Int) ⊕ Option (Bool)):=
 if(decide (v1<(a0.length:Int)))then
  (getI a0 v1).bind fun y2=>
  (jM (y2.toNat:Int)).bind fun v3=>
  if v3 then
   some (.inl (IntKind.i64.wrap (v1+1)))
  else
   (jQ a1 (y2.toNat:Int)).bind fun v4=>
   if(decide (v4<0))then
    some (.inr (some false))
   else
    some (.inl (IntKind.i64.wrap (v1+1)))
 else
  some (.inr (some true))
def RW (a0 a1:Ac):Option (Bool):=
 AA (fun s:Int=>kL a0 a1 s) 0
def VJ (a0:Ac):Option (Bool):=
 (GM (a0.length:Int) 1 12).bind fun v1=>
 if v1 then
  (RW a0 ([46,47]:Ac)).bind fun v2=>
  some v2
 else
  some false
def jW (a0:List (Ac)) (v1:Int):Option ((Int) ⊕ Option (Bool)):=
 if(decide (v1<(a0.length:Int)))then
  (getI a0 v1).bind fun y2=>
  (VJ y2).bind fun v3=>
  if(decide (v1>0))then
   if v3 then
    (getI a0 (IntKind.i64.wrap (v1-1))).bind fun y4=>
    if(Op.bytesLess y2 y4||y2==y4)then
     some (.inr (some false))
    else
     some (.inl (IntKind.i64.wrap (v1+1)))
   else
    some (.inr (some false))
  else
   if((!v3)||false)then
    some (.inr (some false))
   else
    some (.inl (IntKind.i64.wrap (v1+1)))
 else
  some (.inr (some true))
def YL (a0:List (Ac)):Option (Bool):=
 AA (fun s:Int=>jW a0 s) 0
def Zf (a0:Ac):Option (Bool):=
 if(decide ((a0.length:Int)≤24))then
  (RW a0 ([46,45,44,95]:Ac)).bind fun v1=>
  some v1
 else
  some false
def YW (a0:Ac) (a1:Bool):Option (Bool):=
 (Zf a0).bind fun v1=>
 some (v1&&(!(a1&&(a0 !=([]:Ac)))))
def Yo (a0:Ab):Option (Bool):=
 (YW a0.a7 a0.bh).bind fun v1=>
 some (!v1)
def Yu (a0:List Ab):Option (Bool):=
 if(decide ((a0.length:Int)≤24))then
  (YJ a0).bind fun v1=>
  (YL v1).bind fun v2=>
  if v2 then
   (GN a0 (fun y0_=>Yo y0_)).bind fun v3=>
   some (!v3)
  else
   some false
 else
  some false
def Y0 (a0:Ab):Option (Bool):=
 some a0.bh
def Sh (a0:List Ab):Option (Bool):=
 (Yu a0).bind fun v1=>
 if v1 then
  (GN a0 (fun y0_=>Y0 y0_)).bind fun v2=>
  some (!v2)
 else
  some false
def kB (a0:Ac) (a1:Int):Option (Bool):=
 (GM (a0.length:Int) 1 a1).bind fun v1=>
 some v1
def kC (a0:Ac) (a1 v2:Int):Option ((Int) ⊕ Option (Bool)):=
 if(decide (v2<(a0.length:Int)))then
  (getI a0 v2).bind fun y3=>
  if((decide ((y3.toNat:Int)<97))||(decide ((y3.toNat:Int)>122)))then
   some (.inr (some false))
  else
   some (.inl (IntKind.i64.wrap (v2+1)))
 else
  some (.inr (kB a0 a1))
def RA (a0:Ac) (a1:Int):Option (Bool):=
 AA (fun s:Int=>kC a0 a1 s) 0
def jA (a0:List (Ac)) (a1:Ac) (v1:Int):Option ((Int) ⊕ Option (Int)):=
 if(decide (v1<(a0.length:Int)))then
  (getI a0 v1).bind fun y2=>
  if(a1==y2)then
   some (.inr (some v1))
  else
   some (.inl (IntKind.i64.wrap (v1+1)))
 else
  some (.inr (some (-1)))
def X5 (a0:List (Ac)) (a1:Ac):Option (Int):=
 AA (fun s:Int=>jA a0 a1 s) 0
def Py (a0:List (Ac)) (a1:Ac):Option (Bool):=
 (X5 a0 a1).bind fun v1=>
 some (decide (v1≥0))
def R9 (a0:Int):Option (Bool):=
 (GM a0 0 3).bind fun v1=>
 some v1
def YA (a0:Ad) (v3:Int):Option ((Int) ⊕ Option (Bool)):=
 if(decide (v3<(a0.ah.length:Int)))then
  (getI a0.ah v3).bind fun y4=>
  (RA y4.ab 1).bind fun v5=>
  if v5 then
   (GM y4.bm 1 (IntKind.i64.wrap ((a0.ar.length:Int)-1))).bind fun v6=>
   if v6 then
    (R9 y4.aq).bind fun v7=>
    if(decide (v3>0))then
     if v7 then
      (getI a0.ah (IntKind.i64.wrap (v3-1))).bind fun y8=>
      if(Op.bytesLess y4.ab y8.ab||y4.ab==y8.ab)then
       some (.inr (some false))
      else
       some (.inl (IntKind.i64.wrap (v3+1)))
     else
      some (.inr (some false))
    else
     if((!v7)||false)then
      some (.inr (some false))
     else
      some (.inl (IntKind.i64.wrap (v3+1)))
   else
    some (.inr (some false))
  else
   some (.inr (some false))
 else
  some (.inr (some true))
def jU (a0:Ad):Option (Bool):=
 AA (fun s:Int=>YA a0 s) 0
def YE (a0:Ad) (v9:Int):Option ((Int) ⊕ Option (Bool)):=
 if(decide (v9<(a0.ar.length:Int)))then
  (getI a0.ar v9).bind fun y10=>
  (RA y10 3).bind fun v11=>
  if v11 then
   req (0≤(0:Int)∧(0:Int)≤v9∧v9≤(a0.ar.length:Int))<|
   (Py (Bk a0.ar 0 v9) y10).bind fun v12=>
   if v12 then
    some (.inr (some false))
   else
    some (.inl (IntKind.i64.wrap (v9+1)))
  else
   some (.inr (some false))
 else
  some (.inr (jU a0))
def YG (a0:Ad):Option (Bool):=
 (RA a0.ab 1).bind fun v1=>
 if v1 then
  (GM (a0.ar.length:Int) 2 4).bind fun v2=>
  if((!v2)||(decide ((a0.ah.length:Int)>3)))then
   some false
  else
   AA (fun s:Int=>YE a0 s) 0
 else
  some false
def jG (a0:Aq) (a1:Ac):Option (Bool):=
 some (a0.ab==a1)
def Q8 (a0:Ad) (a1:Ac):Option (Int):=
 (Fz a0.ah (fun y0_=>jG y0_ a1)).bind fun v1=>
 some v1
def Sf (a0:Ad) (a1:Ac):Option (Bool):=
 (YG a0).bind fun v1=>
 if v1 then
  (Q8 a0 a1).bind fun v2=>
  some (decide (v2≥0))
 else
  some false
def kM (a0:Ad) (a1:Ar):Option (Bool):=
 (Sf a0 a1.ab).bind fun v1=>
 some (!v1)
def kH (a0:Int) (a1:Ar):Option (Bool):=
 (GM a0 0 (IntKind.i64.wrap ((a1.aj.length:Int)-1))).bind fun v1=>
 some (!v1)
def Ny (a0:Ad) (a1:Ac):Option (Aq):=
 (Q8 a0 a1).bind fun v1=>
 (getI a0.ah v1).bind fun y2=>
 some y2
def Kk (a0:Ar) (a1:Ad):Option (Int):=
 (Ny a1 a0.ab).bind fun v1=>
 some v1.aq
def U6 (xs:List (Ac)):Option (List (Ac)):=NY 16 xs
def iZ (xs:List Aq):Option (List Aq):=NY 32 xs
def R2 (a0:Ad):Option (Ad):=
 (U6 a0.ar).bind fun v1=>
 (iZ a0.ah).bind fun v2=>
 some (⟨a0.ab,v1,v2⟩:Ad)
def Vc (a0:Ad) (a1:Ac) (a2:Int):Option (Ad):=
 (R2 a0).bind fun v1=>
 (Q8 a0 a1).bind fun v2=>
 (getI v1.ah v2).bind fun y3=>
 some (⟨v1.ab,v1.ar,(v1.ah.set (v2).toNat {y3 with aq:=a2})⟩:Ad)
def U7 (a0:Ad) (a1:Ac) (a2 v3:Int) (v4:List Ad):Option ((Int × List Ad) ⊕ Option (List Ad)):=
 if(v3 !=a2)then
  if(decide (v3<a2))then
   (Vc a0 a1 (IntKind.i64.wrap (v3+1))).bind fun v5=>
   req ((((v4).length:Int)+(([v5]:List Ad).length:Int))*64≤140737488355328∧((v4).length:Int)+(([v5]:List Ad).length:Int)≤140737488355328)<|
   some (.inl ((IntKind.i64.wrap (v3+1)),(v4++ [v5])))
  else
   (Vc a0 a1 (IntKind.i64.wrap (v3-1))).bind fun v6=>
   req ((((v4).length:Int)+(([v6]:List Ad).length:Int))*64≤140737488355328∧((v4).length:Int)+(([v6]:List Ad).length:Int)≤140737488355328)<|
   some (.inl ((IntKind.i64.wrap (v3-1)),(v4++ [v6])))
 else
  some (.inr (some v4))
def Vl (a0:Ad) (a1:Ac) (a2:Int):Option (List Ad):=
 (Ny a0 a1).bind fun v1=>
 (R2 a0).bind fun v2=>
 AA (fun s:Int × List Ad=>U7 a0 a1 a2 s.1 s.2) (v1.aq, [v2])
def U4 (a0 a1:List Ad) (a2:Ad→Ad→Option Bool) (v1:Int):Option ((Int) ⊕ Option (Bool)):=
 if(decide (v1<(a0.length:Int)))then
  (getI a0 v1).bind fun y2=>
  (getI a1 v1).bind fun y3=>
  (a2 y2 y3).bind fun v4=>
  if(!v4)then
   some (.inr (some false))
  else
   some (.inl (IntKind.i64.wrap (v1+1)))
 else
  some (.inr (some true))
def X1 (a0 a1:List Ad) (a2:Ad→Ad→Option Bool):Option (Bool):=
 if((a0.length:Int) !=(a1.length:Int))then
  some false
 else
  AA (fun s:Int=>U4 a0 a1 a2 s) 0
def U3 (a0:List (Ac)) (a1:List (Ac)) (v1:Int):Option ((Int) ⊕ Option (Bool)):=
 if(decide (v1<(a0.length:Int)))then
  (getI a0 v1).bind fun y2=>
  (getI a1 v1).bind fun y3=>
  if(y2 !=y3)then
   some (.inr (some false))
  else
   some (.inl (IntKind.i64.wrap (v1+1)))
 else
  some (.inr (some true))
def X4 (a0:List (Ac)) (a1:List (Ac)):Option (Bool):=
 if((a0.length:Int) !=(a1.length:Int))then
  some false
 else
  AA (fun s:Int=>U3 a0 a1 s) 0
def U2 (a0 a1:List Aq) (v1:Int):Option ((Int) ⊕ Option (Bool)):=
 if(decide (v1<(a0.length:Int)))then
  (getI a0 v1).bind fun y2=>
  (getI a1 v1).bind fun y3=>
  if(!(y2.ab==y3.ab&&(y2.bm==y3.bm&&(y2.aq==y3.aq))))then
   some (.inr (some false))
  else
   some (.inl (IntKind.i64.wrap (v1+1)))
 else
  some (.inr (some true))
def X7 (a0 a1:List Aq):Option (Bool):=
 if((a0.length:Int) !=(a1.length:Int))then
  some false
 else
  AA (fun s:Int=>U2 a0 a1 s) 0
def NC (a0 a1:Ad):Option (Bool):=
 if(a0.ab==a1.ab)then
  (X4 a0.ar a1.ar).bind fun v1=>
  if v1 then
   (X7 a0.ah a1.ah).bind fun v2=>
   some v2
  else
   some false
 else
  some false
def L5 (a0:Ar):Option (Bool):=
 (GM (a0.aj.length:Int) 1 4).bind fun v1=>
 if v1 then
  (GM (a0.bp.length:Int) 1 3).bind fun v2=>
  if v2 then
   (Sh a0.ao).bind fun v3=>
   if(!v3)then
    some false
   else
    (GN a0.aj (fun y0_=>kM y0_ a0)).bind fun v4=>
    if v4 then
     some false
    else
     (GN a0.bp (fun y0_=>kH y0_ a0)).bind fun v5=>
     if v5 then
      some false
     else
      (getI a0.aj 0).bind fun y6=>
      (getI a0.aj (IntKind.i64.wrap ((a0.aj.length:Int)-1))).bind fun y7=>
      (Kk a0 y7).bind fun v8=>
      (Vl y6 a0.ab v8).bind fun v9=>
      (X1 a0.aj v9 (fun y0_ y1_=>NC y0_ y1_)).bind fun v10=>
      some v10
  else
   some false
 else
  some false
def Vy (a0:Ad) (a1:Ac) (a2:Int):Option (Ad × Bool):=
 (NH a0 a1 a2).bind fun v1=>
 if(!v1)then
  some ((⟨([]:Ac), [], []⟩:Ad),false)
 else
  (PV a0 a1 a2).bind fun v2=>
  some (v2,true)
def nA (a0:Ad) (a1:Ac) (a2:Int):Option (List Ad × Bool):=
 (Sf a0 a1).bind fun v1=>
 if v1 then
  (R9 a2).bind fun v2=>
  if(!v2)then
   some ([],false)
  else
   (Vl a0 a1 a2).bind fun v3=>
   some (v3,true)
 else
  some ([],false)
def L1 (xs:List Ab):Option (List Ab):=NY 40 xs
def YP (a0:Ad) (a1:Ac) (a2 a3:Int) (a4:List Ab):Option (Ar × Bool):=
 (nA a0 a1 a2).bind fun v1=>
 if v1.2 then
  (GM a3 1 3).bind fun v2=>
  if v2 then
   (Sh a4).bind fun v3=>
   if(!v3)then
    some ((⟨([]:Ac), [], [], []⟩:Ar),false)
   else
    req (0≤a3∧a3*8≤140737488355328∧a3≤140737488355328)<|
    (L1 a4).bind fun v4=>
    some ((⟨a1,v1.1,(List.replicate (a3).toNat 0),v4⟩:Ar),true)
  else
   some ((⟨([]:Ac), [], [], []⟩:Ar),false)
 else
  some ((⟨([]:Ac), [], [], []⟩:Ar),false)
def Zj (a0:Ad) (a1:List Ab):Option (List AI × Bool):=
 (KU a0).bind fun v1=>
 if v1 then
  (Kn a1).bind fun v2=>
  if(!v2)then
   some ([],false)
  else
   (Km a0 a1).bind fun v3=>
   some (v3,true)
 else
  some ([],false)
def GO (a0:Ar) (a1:Int):Option (Ad):=
 (getI a0.bp a1).bind fun y1=>
 (getI a0.aj y1).bind fun y2=>
 some y2
def Q7 (a0:Ar) (v1 v2:Int):Option ((Int × Int) ⊕ Option (Int)):=
 if(decide (v2<(a0.bp.length:Int)))then
  (GO a0 v2).bind fun v3=>
  (Kk a0 v3).bind fun v4=>
  if(v4==3)then
   some (.inr (some 2))
  else
   if(v4==0)then
    some (.inl (0,(IntKind.i64.wrap (v2+1))))
   else
    some (.inl (v1,(IntKind.i64.wrap (v2+1))))
 else
  some (.inr (some v1))
def YB (a0:Ar):Option (Int):=
 AA (fun s:Int × Int=>Q7 a0 s.1 s.2) (1,0)
def U9 (a0:Ad) (a1:Ac):Option (Ac):=
 req ((a0.ab).length+(([46]:Ac)).length≤9223372036854775807)<|
 req (((a0.ab++([46]:Ac))).length+(a1).length≤9223372036854775807)<|
 req ((((a0.ab++([46]:Ac))++a1)).length+(([47]:Ac)).length≤9223372036854775807)<|
 some (((a0.ab++([46]:Ac))++a1)++([47]:Ac))
def X3 (a0 a1:Ac):Option (Bool):=
 if(decide ((a0.length:Int)≥(a1.length:Int)))then
  req (0≤(0:Int)∧(0:Int)≤(a1.length:Int)∧(a1.length:Int)≤(a0.length:Int))<|
  some ((Bk a0 0 (a1.length:Int))==a1)
 else
  some false
def iY (a0 a1:Ac):Option (Ac × Bool):=
 (X3 a0 a1).bind fun v1=>
 if(!v1)then
  some (a0,false)
 else
  req (0≤(a1.length:Int)∧(a1.length:Int)≤(a0.length:Int)∧(a0.length:Int)≤(a0.length:Int))<|
  some ((Bk a0 (a1.length:Int) (a0.length:Int)),true)
def Ve (a0 a1:Ac):Option (Ac × Bool):=
 (iY a0 a1).bind fun v1=>
 some (v1.1,v1.2)
def X9 (a0 a1:Ac):Option (Ac × Ac × Bool):=
 (Ri a0 a1).bind fun v1=>
 if(decide (v1≥0))then
  req (0≤(0:Int)∧(0:Int)≤v1∧v1≤(a0.length:Int))<|
  req (0≤(IntKind.i64.wrap (v1+(a1.length:Int)))∧(IntKind.i64.wrap (v1+(a1.length:Int)))≤(a0.length:Int)∧(a0.length:Int)≤(a0.length:Int))<|
  some ((Bk a0 0 v1),(Bk a0 (IntKind.i64.wrap (v1+(a1.length:Int))) (a0.length:Int)),true)
 else
  some (a0,([]:Ac),false)
def R6 (a0 a1:Ac):Option (Ac × Ac × Bool):=
 (X9 a0 a1).bind fun v1=>
 some (v1.1,v1.2.1,v1.2.2)
def R8 (a0:Ac):Option (Bool):=
 (GM (a0.length:Int) 1 3).bind fun v1=>
 if v1 then
  (RW a0 ([]:Ac)).bind fun v2=>
  some v2
 else
  some false
def X8 (a0:Ad) (a1 a2:Ac):Option (Ac × Ac × Bool):=
 (U9 a0 a1).bind fun v1=>
 (Ve a2 v1).bind fun v2=>
 (R6 v2.1 ([47]:Ac)).bind fun v3=>
 if v2.2 then
  if v3.2.2 then
   (R8 v3.1).bind fun v4=>
   if v4 then
    (R8 v3.2.1).bind fun v5=>
    if(!v5)then
     some (([]:Ac),([]:Ac),false)
    else
     some (v3.1,v3.2.1,true)
   else
    some (([]:Ac),([]:Ac),false)
  else
   some (([]:Ac),([]:Ac),false)
 else
  some (([]:Ac),([]:Ac),false)
def Rk (a0:Ad) (a1:Ac) (a2:List Ab) (v1:Int) (v2:List (Ac)):Option ((Int × List (Ac)) ⊕ Option (List (Ac))):=
 if(decide (v1<(a2.length:Int)))then
  (getI a2 v1).bind fun y3=>
  (X8 a0 a1 y3.af).bind fun v4=>
  if v4.2.2 then
   req ((((v2).length:Int)+(([y3.af]:List (Ac)).length:Int))*16≤140737488355328∧((v2).length:Int)+(([y3.af]:List (Ac)).length:Int)≤140737488355328)<|
   some (.inl ((IntKind.i64.wrap (v1+1)),(v2++ [y3.af])))
  else
   some (.inl ((IntKind.i64.wrap (v1+1)),v2))
 else
  some (.inr (some v2))
def KS (a0:Ad) (a1:Ac) (a2:List Ab):Option (List (Ac)):=
 AA (fun s:Int × List (Ac)=>Rk a0 a1 a2 s.1 s.2) (0, [])
def YX (a0 a1:Ac):Option (Int):=
 (Ri a0 a1).bind fun v1=>
 some v1
def jP (v3:Ac) (v4:Int) (v5:List (Ac)):Option (List (Ac)):=
 (getI v5 v4).bind fun y6=>
 req (0≤(0:Int)∧(0:Int)≤(IntKind.i64.wrap (v4+1))∧(IntKind.i64.wrap (v4+1))≤((v5.set (v4).toNat v3).length:Int))<|
 some (Bk (v5.set (v4).toNat v3) 0 (IntKind.i64.wrap (v4+1)))
def Ry (a0 a1:Ac) (a2 v2:Int) (v7:Ac) (v8:Int) (v9:List (Ac)):Option ((Ac × Int × List (Ac)) ⊕ Option (List (Ac))):=
 if(decide (v8<(IntKind.i64.wrap ((bif (decide ((IntKind.i64.wrap ((a0.length:Int)+1))<v2))then(IntKind.i64.wrap ((a0.length:Int)+1))else v2)-1))))then
  (YX v7 a1).bind fun v10=>
  if(decide (v10<0))then
   some (.inr (jP v7 v8 v9))
  else
   req (0≤(0:Int)∧(0:Int)≤(IntKind.i64.wrap (v10+a2))∧(IntKind.i64.wrap (v10+a2))≤(v7.length:Int))<|
   (getI v9 v8).bind fun y11=>
   req (0≤(IntKind.i64.wrap (v10+(a1.length:Int)))∧(IntKind.i64.wrap (v10+(a1.length:Int)))≤(v7.length:Int)∧(v7.length:Int)≤(v7.length:Int))<|
   some (.inl ((Bk v7 (IntKind.i64.wrap (v10+(a1.length:Int))) (v7.length:Int)),(IntKind.i64.wrap (v8+1)),(v9.set (v8).toNat (Bk v7 0 (IntKind.i64.wrap (v10+a2))))))
 else
  some (.inr (jP v7 v8 v9))
def jL (a0 a1:Ac) (a2 v2:Int):Option (List (Ac)):=
 req (0≤(bif (decide ((IntKind.i64.wrap ((a0.length:Int)+1))<v2))then(IntKind.i64.wrap ((a0.length:Int)+1))else v2)∧(bif (decide ((IntKind.i64.wrap ((a0.length:Int)+1))<v2))then(IntKind.i64.wrap ((a0.length:Int)+1))else v2)*16≤140737488355328∧(bif (decide ((IntKind.i64.wrap ((a0.length:Int)+1))<v2))then(IntKind.i64.wrap ((a0.length:Int)+1))else v2)≤140737488355328)<|
 AA (fun s:Ac × Int × List (Ac)=>Ry a0 a1 a2 v2 s.1 s.2.1 s.2.2) (a0,0,(List.replicate ((bif (decide ((IntKind.i64.wrap ((a0.length:Int)+1))<v2))then(IntKind.i64.wrap ((a0.length:Int)+1))else v2)).toNat ([]:Ac)))
def kG (a0 a1:Ac) (a2 a3:Int):Option (List (Ac)):=
 if(a3==0)then
  some []
 else
  if(a1==([]:Ac))then
   (lA a0 a3).bind fun v1=>
   some v1
  else
   if(decide (a3<0))then
    (YU a0 a1).bind fun v12=>
    jL a0 a1 a2 (IntKind.i64.wrap (v12+1))
   else
    jL a0 a1 a2 a3
def Vu (a0 a1:Ac):Option (List (Ac)):=
 (kG a0 a1 0 (-1)).bind fun v1=>
 some v1
def Yg (a0:Ac):Option (Bool):=
 (R8 a0).bind fun v1=>
 some (!v1)
def NB (a0:Ad) (a1:AI):Option (Bool):=
 if((a1.aw.length:Int)==(a0.ar.length:Int))then
  (GN a1.aw (fun y0_=>Yg y0_)).bind fun v1=>
  some (!v1)
 else
  some false
def L0 (a0:Ad) (a1:AI):Option (Ab):=
 req ((a0.ab).length+(([47]:Ac)).length≤9223372036854775807)<|
 (getI a1.aw 0).bind fun y1=>
 req (((a0.ab++([47]:Ac))).length+(y1).length≤9223372036854775807)<|
 req (0≤(1:Int)∧(1:Int)≤(a1.aw.length:Int)∧(a1.aw.length:Int)≤(a1.aw.length:Int))<|
 (Y9 (Bk a1.aw 1 (a1.aw.length:Int)) ([44]:Ac)).bind fun v2=>
 some (⟨((a0.ab++([47]:Ac))++y1),v2,false⟩:Ab)
def Yf (a0:Ad) (a1:Ab):Option (AI × Bool):=
 req ((a0.ab).length+(([47]:Ac)).length≤9223372036854775807)<|
 (Ve a1.af (a0.ab++([47]:Ac))).bind fun v1=>
 (Vu a1.a7 ([44]:Ac)).bind fun v2=>
 req (((([v1.1]:List (Ac)).length:Int)+((v2).length:Int))*16≤140737488355328∧(([v1.1]:List (Ac)).length:Int)+((v2).length:Int)≤140737488355328)<|
 if v1.2 then
  (NB a0 (⟨([v1.1]++v2)⟩:AI)).bind fun v3=>
  if v3 then
   (L0 a0 (⟨([v1.1]++v2)⟩:AI)).bind fun v4=>
   if(!(a1.af==v4.af&&(a1.a7==v4.a7&&(a1.bh==v4.bh))))then
    some ((⟨[]⟩:AI),false)
   else
    some ((⟨([v1.1]++v2)⟩:AI),true)
  else
   some ((⟨[]⟩:AI),false)
 else
  some ((⟨[]⟩:AI),false)
def Ra (a0:Ad) (a1:List Ab) (v1:Int) (v2:List AI):Option ((Int × List AI) ⊕ Option (List AI)):=
 if(decide (v1<(a1.length:Int)))then
  (getI a1 v1).bind fun y3=>
  (Yf a0 y3).bind fun v4=>
  if v4.2 then
   req ((((v2).length:Int)+(([v4.1]:List AI).length:Int))*24≤140737488355328∧((v2).length:Int)+(([v4.1]:List AI).length:Int)≤140737488355328)<|
   some (.inl ((IntKind.i64.wrap (v1+1)),(v2++ [v4.1])))
  else
   some (.inl ((IntKind.i64.wrap (v1+1)),v2))
 else
  some (.inr (some v2))
def PC (a0:Ad) (a1:List Ab):Option (List AI):=
 AA (fun s:Int × List AI=>Ra a0 a1 s.1 s.2) (0, [])
def Kl (a0:Ad) (a1:Ac) (a2:AI):Option (Ac):=
 (U9 a0 a1).bind fun v1=>
 (Ny a0 a1).bind fun v2=>
 (getI a2.aw v2.bm).bind fun y3=>
 req ((v1).length+(y3).length≤9223372036854775807)<|
 req (((v1++y3)).length+(([47]:Ac)).length≤9223372036854775807)<|
 (getI a2.aw 0).bind fun y4=>
 req ((((v1++y3)++([47]:Ac))).length+(y4).length≤9223372036854775807)<|
 some (((v1++y3)++([47]:Ac))++y4)
def Rb (a0:Ad) (a1:Ac) (v1:List AI) (v2:Int) (v3:List (Ac)):Option ((Int × List (Ac)) ⊕ Option (List (Ac))):=
 if(decide (v2<(v1.length:Int)))then
  (getI v1 v2).bind fun y4=>
  (Kl a0 a1 y4).bind fun v5=>
  req ((((v3).length:Int)+(([v5]:List (Ac)).length:Int))*16≤140737488355328∧((v3).length:Int)+(([v5]:List (Ac)).length:Int)≤140737488355328)<|
  some (.inl ((IntKind.i64.wrap (v2+1)),(v3++ [v5])))
 else
  some (.inr (some v3))
def Vi (a0:Ad) (a1:Ac) (a2:List Ab):Option (List (Ac)):=
 (PC a0 a2).bind fun v1=>
 AA (fun s:Int × List (Ac)=>Rb a0 a1 v1 s.1 s.2) (0, [])
def lQ (a0:Ac) (a1:List (Ac)):Option (Bool):=
 (Py a1 a0).bind fun v1=>
 some v1
def VF (a0:List (Ac)) (a1:List (Ac)):Option (List (Ac)):=
 (U6 a0).bind fun v1=>
 (Jj v1 (fun y0_=>lQ y0_ a1)).bind fun v2=>
 some v2
def Yn (a0:Ad) (a1:Ac) (a2:List Ab):Option (List (Ac)):=
 (KS a0 a1 a2).bind fun v1=>
 (Vi a0 a1 a2).bind fun v2=>
 (VF v1 v2).bind fun v3=>
 some v3
def U8 (a0:Ad) (a1:Ac) (a2:List Ab):Option (List (Ac)):=
 (Vi a0 a1 a2).bind fun v1=>
 (KS a0 a1 a2).bind fun v2=>
 (VF v1 v2).bind fun v3=>
 some v3
def Yd (a0:Ad) (a1:Ac) (a2:Int) (a3:List Ab):Option (Bool):=
 if(a2==0)then
  (KS a0 a1 a3).bind fun v1=>
  some ((v1.length:Int)==0)
 else
  if(a2==1)then
   (Yn a0 a1 a3).bind fun v2=>
   some ((v2.length:Int)==0)
  else
   (Yn a0 a1 a3).bind fun v3=>
   if((v3.length:Int)==0)then
    (U8 a0 a1 a3).bind fun v4=>
    some ((v4.length:Int)==0)
   else
    some false
def Rx (a0:Ar):Option (Bool):=
 (getI a0.aj 0).bind fun y1=>
 (YB a0).bind fun v2=>
 (Yd y1 a0.ab v2 a0.ao).bind fun v3=>
 some v3
def VO (a0:Ar):Option (Bool × Bool):=
 (L5 a0).bind fun v1=>
 if(!v1)then
  some (false,false)
 else
  (Rx a0).bind fun v2=>
  some (v2,true)
def Vx (a0:AY):Option (Bool):=
 if(a0.al==([]:Ac))then
  some true
 else
  (VJ a0.al).bind fun v1=>
  some v1
def NI (a0:AK):Option (Bool):=
 (L5 a0.ae).bind fun v1=>
 if v1 then
  (Vx a0.cy).bind fun v2=>
  if v2 then
   (Vx a0.bj).bind fun v3=>
   some v3
  else
   some false
 else
  some false
def Yj (a0:Ad) (a1:Bv):Option (Bool):=
 if(a1.ak==1)then
  if((a1.br.aw.length:Int)==0)then
   (NB a0 a1.bw).bind fun v1=>
   some v1
  else
   some false
 else
  if(a1.ak==2)then
   (NB a0 a1.br).bind fun v2=>
   some (v2&&((a1.bw.aw.length:Int)==0))
  else
   if(a1.ak==3)then
    (NB a0 a1.br).bind fun v3=>
    if v3 then
     (NB a0 a1.bw).bind fun v4=>
     if v4 then
      (getI a1.br.aw 0).bind fun y5=>
      (getI a1.bw.aw 0).bind fun y6=>
      some (y5==y6)
     else
      some false
    else
     some false
   else
    some false
def VP (a0:Bv):Option (Bool):=
 some (((a0.ak==0)&&((a0.br.aw.length:Int)==0))&&((a0.bw.aw.length:Int)==0))
def Va (a0:Ar) (a1:D4):Option (Bool):=
 (GM a1.a6 0 (IntKind.i64.wrap ((a0.bp.length:Int)-1))).bind fun v1=>
 if(!v1)then
  some false
 else
  if(a1.bd==0)then
   (GO a0 a1.a6).bind fun v2=>
   (Yj v2 a1.ax).bind fun v3=>
   some v3
  else
   if(a1.bd==1)then
    (VP a1.ax).bind fun v4=>
    some v4
   else
    if(a1.bd==(-1))then
     (VP a1.ax).bind fun v5=>
     some v5
    else
     some false
def Ya (a1:DQ) (v2:Bool):Option (Bool):=
 if v2 then
  (GM a1.bz 1 24).bind fun v3=>
  if v3 then
   if(a1.ax.a6==0)then
    if(a1.ax.bd==0)then
     (VP a1.ax.ax).bind fun v4=>
     some v4
    else
     some false
   else
    some false
  else
   some false
 else
  some false
def Yh (a0:AK) (a1:DQ):Option (Bool):=
 if(a1.ak==1)then
  if(a1.bz==0)then
   (Va a0.ae a1.ax).bind fun v1=>
   some v1
  else
   some false
 else
  if(a1.ak==2)then
   Ya a1 (a1.ak==2)
  else
   Ya a1 (a1.ak==3)
def Vq (a0:AK) (a1:DQ):Option (Bool):=
 (NI a0).bind fun v1=>
 if v1 then
  (Yh a0 a1).bind fun v2=>
  some v2
 else
  some false
def jH (xs:List Int):Option (List Int):=NY 8 xs
def Rn (a0:Ar) (v1:List Int) (v2:List Ab) (v3:Int) (v4:List Ad):Option ((Int × List Ad) ⊕ Option (Ar)):=
 if(decide (v3<(a0.aj.length:Int)))then
  (getI a0.aj v3).bind fun y5=>
  (R2 y5).bind fun v6=>
  req ((((v4).length:Int)+(([v6]:List Ad).length:Int))*64≤140737488355328∧((v4).length:Int)+(([v6]:List Ad).length:Int)≤140737488355328)<|
  some (.inl ((IntKind.i64.wrap (v3+1)),(v4++ [v6])))
 else
  some (.inr (some (⟨a0.ab,v4,v1,v2⟩:Ar)))
def VB (a0:Ar):Option (Ar):=
 (jH a0.bp).bind fun v1=>
 (L1 a0.ao).bind fun v2=>
 AA (fun s:Int × List Ad=>Rn a0 v1 v2 s.1 s.2) (0, [])
def Vw (a0:AK):Option (AK):=
 (VB a0.ae).bind fun v1=>
 some (⟨v1,a0.cy,a0.bj⟩:AK)
def KT (a0:Int) (a1:Ab) (a2:List Ax):Option (Unit × List Ax):=
 req ((((a2).length:Int)+(([(⟨a0,a1.af,a1.a7,0⟩:Ax)]:List Ax).length:Int))*48≤140737488355328∧((a2).length:Int)+(([(⟨a0,a1.af,a1.a7,0⟩:Ax)]:List Ax).length:Int)≤140737488355328)<|
 some ((),(a2++ [(⟨a0,a1.af,a1.a7,0⟩:Ax)]))
def lU (a0:Int):Option (Bool):=
 some (decide (a0≥1))
def NF (a0:Int):Option (Bool):=
 some (decide (a0≥2))
def Rf (v9:Int) (y11:Aq) (v13:Ac) (v14:List Ax):Option ((Int × List Ax) ⊕ Option (List Ax)):=
 if(v13 !=([]:Ac))then
  (NF y11.aq).bind fun v15=>
  if v15 then
   (KT 2 (⟨v13,([]:Ac),false⟩:Ab) v14).bind fun v16=>
   some (.inl ((IntKind.i64.wrap (v9+1)),v16.2))
  else
   some (.inl ((IntKind.i64.wrap (v9+1)),v14))
 else
  some (.inl ((IntKind.i64.wrap (v9+1)),v14))
def PE (v9:Int) (v10:List Ax) (y11:Aq) (v12 v13:Ac):Option ((Int × List Ax) ⊕ Option (List Ax)):=
 if(v12 !=([]:Ac))then
  if(v12 !=v13)then
   (lU y11.aq).bind fun v17=>
   if v17 then
    (KT 3 (⟨v12,([]:Ac),false⟩:Ab) v10).bind fun v18=>
    Rf v9 y11 v13 v18.2
   else
    Rf v9 y11 v13 v10
  else
   Rf v9 y11 v13 v10
 else
  Rf v9 y11 v13 v10
def jE (a0:Ad) (a1:Bv) (v9:Int) (v10:List Ax) (y11:Aq) (v12:Ac):Option ((Int × List Ax) ⊕ Option (List Ax)):=
 if(a1.ak !=2)then
  (Kl a0 y11.ab a1.bw).bind fun v19=>
  PE v9 v10 y11 v12 v19
 else
  PE v9 v10 y11 v12 ([]:Ac)
def Rc (a0:Ad) (a1:Bv) (v9:Int) (v10:List Ax):Option ((Int × List Ax) ⊕ Option (List Ax)):=
 if(decide (v9<(a0.ah.length:Int)))then
  (getI a0.ah v9).bind fun y11=>
  UM (σ:=Ac) (
   if(a1.ak !=1)then
    (Kl a0 y11.ab a1.br).bind fun v20=>
    some (.inl v20)
   else
    some (.inl ([]:Ac))
  ) (fun s=>jE a0 a1 v9 v10 y11 s)
 else
  some (.inr (some v10))
def Re (a0:Ad) (a1:Bv) (v8:List Ax):Option (List Ax):=
 AA (fun s:Int × List Ax=>Rc a0 a1 s.1 s.2) (0,v8)
def Vb (a0:Ad) (a1:Bv) (v1:Ac) (v4:List Ax) (v5 v6:Ac) (v7:Bool):Option (List Ax):=
 if(a1.ak==1)then
  (KT 6 (⟨v5,([]:Ac),false⟩:Ab) v4).bind fun v21=>
  (KT 2 (⟨v5,v6,v7⟩:Ab) v21.2).bind fun v22=>
  Re a0 a1 v22.2
 else
  if(a1.ak==2)then
   (KT 3 (⟨v1,([]:Ac),false⟩:Ab) v4).bind fun v23=>
   Re a0 a1 v23.2
  else
   if(a1.ak==3)then
    (KT 2 (⟨v5,v6,v7⟩:Ab) v4).bind fun v24=>
    Re a0 a1 v24.2
   else
    Re a0 a1 v4
def PD (a0:Ad) (a1:Bv) (v1 v2:Ac) (v3:Bool) (v4:List Ax):Option (List Ax):=
 if(a1.ak !=2)then
  (L0 a0 a1.bw).bind fun v25=>
  Vb a0 a1 v1 v4 v25.af v25.a7 v25.bh
 else
  Vb a0 a1 v1 v4 ([]:Ac) ([]:Ac) false
def Ys (a0:Ad) (a1:Bv):Option (List Ax):=
 UM (σ:=Ac × Ac × Bool × List Ax) (
  if(a1.ak !=1)then
   (L0 a0 a1.br).bind fun v26=>
   (KT 7 v26 ([]:List Ax)).bind fun v27=>
   some (.inl (v26.af,v26.a7,v26.bh,v27.2))
  else
   some (.inl (([]:Ac),([]:Ac),false, []))
 ) (fun s=>PD a0 a1 s.1 s.2.1 s.2.2.1 s.2.2.2)
def iV (a0:List Ab) (a1:Ac) (a2:Ab→(Ac)→Option Int) (v1:Int):Option (Int × Bool):=
 if(decide (v1<(a0.length:Int)))then
  (getI a0 v1).bind fun y2=>
  (a2 y2 a1).bind fun v3=>
  some (v1,(v3==0))
 else
  some (v1,false)
def Q6 (a0:List Ab) (a1:Ac) (a2:Ab→(Ac)→Option Int) (v4 v5:Int):Option ((Int × Int) ⊕ Option (Int × Bool)):=
 if(decide (v4<v5))then
  (getI a0 (IntKind.i64.wrap (Int.fdiv (IntKind.u64.wrap (IntKind.i64.wrap (v4+v5))) (2^(min ((1:Int)).toNat (IntKind.bits .u64)))))).bind fun y6=>
  (a2 y6 a1).bind fun v7=>
  if(decide (v7<0))then
   some (.inl ((IntKind.i64.wrap ((IntKind.i64.wrap (Int.fdiv (IntKind.u64.wrap (IntKind.i64.wrap (v4+v5))) (2^(min ((1:Int)).toNat (IntKind.bits .u64)))))+1)),v5))
  else
   some (.inl (v4,(IntKind.i64.wrap (Int.fdiv (IntKind.u64.wrap (IntKind.i64.wrap (v4+v5))) (2^(min ((1:Int)).toNat (IntKind.bits .u64)))))))
 else
  some (.inr (iV a0 a1 a2 v4))
def iW (a0:List Ab) (a1:Ac) (a2:Ab→(Ac)→Option Int):Option (Int × Bool):=
 AA (fun s:Int × Int=>Q6 a0 a1 a2 s.1 s.2) (0,(a0.length:Int))
def Vg (a0:Ac):Option (Bool):=
 some (a0 !=a0)
def Yq (a0 a1:Ac):Option (Int):=
 (Vg a0).bind fun v1=>
 (Vg a1).bind fun v2=>
 if v1 then
  if v2 then
   some 0
  else
   some (-1)
 else
  if v2 then
   some 1
  else
   if(Op.bytesLess a0 a1)then
    some (-1)
   else
    if(!(Op.bytesLess a0 a1||a0==a1))then
     some 1
    else
     some 0
def RO (a0:Ab) (a1:Ac):Option (Int):=
 (Yq a0.af a1).bind fun v1=>
 some v1
def ND (a0:List Ab) (a1:Ac):Option (Int × Bool):=
 (iW a0 a1 (fun y0_ y1_=>RO y0_ y1_)).bind fun v1=>
 some (v1.1,v1.2)
def PN (a0:List Ab) (a1:Ab):Option (List Ab):=
 (ND a0 a1.af).bind fun v1=>
 if v1.2 then
  (getI a0 v1.1).bind fun y2=>
  some (a0.set (v1.1).toNat a1)
 else
  (aG a0 v1.1 ([a1]:List Ab)).bind fun v3=>
  some v3
def RJ (a0:Ac) (a2:List BR) (v3:Int):Option ((Int) ⊕ Option (Ac × Bool × Bool)):=
 if(decide (v3<(a2.length:Int)))then
  (getI a2 v3).bind fun y4=>
  if(y4.af==a0)then
   some (.inr (some (y4.a7,y4.di,true)))
  else
   some (.inl (IntKind.i64.wrap (v3+1)))
 else
  some (.inr (some (([]:Ac),false,false)))
def Zb (a0:Ac) (a1:List Ab) (a2:List BR):Option (Ac × Bool × Bool):=
 (ND a1 a0).bind fun v1=>
 if v1.2 then
  (getI a1 v1.1).bind fun y2=>
  some (y2.a7,(!y2.bh),true)
 else
  AA (fun s:Int=>RJ a0 a2 s) 0
def Vv (a0:Ac):Option (Int × Bool):=
 (Y3 a0 (-999999) 999999).bind fun v1=>
 some (v1.1,v1.2)
def Yv (a0:Ax) (a1:Ac) (a2:Bool):Option (Bool):=
 (Vv a1).bind fun v1=>
 if(a0.ak==4)then
  if v1.2 then
   if a2 then
    (GM (IntKind.i64.wrap (v1.1+a0.jm)) (-999999) 999999).bind fun v2=>
    some v2
   else
    some true
  else
   some ((!a2)||false)
 else
  if(a0.ak==5)then
   some ((a2&&v1.2)&&(decide (v1.1≥a0.jm)))
  else
   if(a0.ak==6)then
    some (!a2)
   else
    if(a0.ak==7)then
     some (a2&&(a1==a0.a7))
    else
     some true
def IJ (a0:List Ax) (a1:List BR) (v1:Int) (v2:List Ab):Option ((Int × List Ab) ⊕ Option (Int × Ac × List Ab)):=
 if(decide (v1<(a0.length:Int)))then
  (getI a0 v1).bind fun y3=>
  if(y3.ak==2)then
   (PN v2 (⟨y3.af,y3.a7,false⟩:Ab)).bind fun v4=>
   some (.inl ((IntKind.i64.wrap (v1+1)),v4))
  else
   if(y3.ak==3)then
    (PN v2 (⟨y3.af,([]:Ac),true⟩:Ab)).bind fun v5=>
    some (.inl ((IntKind.i64.wrap (v1+1)),v5))
   else
    (Zb y3.af v2 a1).bind fun v6=>
    if(!v6.2.2)then
     some (.inr (some (1,y3.af, [])))
    else
     (Yv y3 v6.1 v6.2.1).bind fun v7=>
     if(!v7)then
      some (.inr (some (2,([]:Ac), [])))
     else
      if(y3.ak==4)then
       (Vv v6.1).bind fun v8=>
       (mE (IntKind.i64.wrap (v8.1+y3.jm))).bind fun v9=>
       (PN v2 (⟨y3.af,v9,false⟩:Ab)).bind fun v10=>
       some (.inl ((IntKind.i64.wrap (v1+1)),v10))
      else
       some (.inl ((IntKind.i64.wrap (v1+1)),v2))
 else
  some (.inr (some (3,([]:Ac),v2)))
def mD (a0:List Ax) (a1:List BR):Option (Int × Ac × List Ab):=
 AA (fun s:Int × List Ab=>IJ a0 a1 s.1 s.2) (0, [])
def Zq (a0:List Ab) (a1:Ac):Option (BR):=
 (ND a0 a1).bind fun v1=>
 if(!v1.2)then
  some (⟨a1,([]:Ac),false⟩:BR)
 else
  (getI a0 v1.1).bind fun y2=>
  some (⟨a1,y2.a7,true⟩:BR)
def PF (a0:List Ab) (a1:List Ax) (v1:List BR):Option ((List BR) ⊕ Option (List BR × List Ab × Bool)):=
 (mD a1 v1).bind fun v2=>
 if(v2.1 !=1)then
  some (.inr (some (v1,v2.2.2,(v2.1==3))))
 else
  (Zq a0 v2.2.1).bind fun v3=>
  req ((((v1).length:Int)+(([v3]:List BR).length:Int))*40≤140737488355328∧((v1).length:Int)+(([v3]:List BR).length:Int)≤140737488355328)<|
  some (.inl (v1++ [v3]))
def lN (a0:List Ab) (a1:List Ax):Option (List BR × List Ab × Bool):=
 AA (fun s:List BR=>PF a0 a1 s) []
def kR (a0:Ab):Option (Bool):=
 some a0.bh
def lC (v2:List Ab):Option (List Ab × Bool):=
 (Jj v2 (fun y0_=>kR y0_)).bind fun v3=>
 if(decide ((v3.length:Int)>24))then
  some ([],false)
 else
  some (v3,true)
def RM (a1:List Ab) (v4:Int) (v5:List Ab):Option ((Int × List Ab) ⊕ Option (List Ab × Bool)):=
 if(decide (v4<(a1.length:Int)))then
  (getI a1 v4).bind fun y6=>
  (PN v5 y6).bind fun v7=>
  some (.inl ((IntKind.i64.wrap (v4+1)),v7))
 else
  some (.inr (lC v5))
def Y8 (a0 a1:List Ab):Option (List Ab × Bool):=
 (L1 a0).bind fun v1=>
 AA (fun s:Int × List Ab=>RM a1 s.1 s.2) (0,v1)
def VQ (a0:List Ab) (a1:List Ax):Option (List Ab × Bool):=
 (lN a0 a1).bind fun v1=>
 (Y8 a0 v1.2.1).bind fun v2=>
 if((!v1.2.2)||(!v2.2))then
  req (((([]:List Ab).length:Int)+((a0).length:Int))*40≤140737488355328∧(([]:List Ab).length:Int)+((a0).length:Int)≤140737488355328)<|
  some (a0,false)
 else
  some (v2.1,true)
def Rw (a0:Ar) (a1:D4):Option (Ar × Bool):=
 (VB a0).bind fun v1=>
 if(a1.bd !=0)then
  (getI a0.bp a1.a6).bind fun y2=>
  (GM (IntKind.i64.wrap (y2+a1.bd)) 0 (IntKind.i64.wrap ((a0.aj.length:Int)-1))).bind fun v3=>
  if(!v3)then
   some (v1,false)
  else
   (getI v1.bp a1.a6).bind fun y4=>
   some ((⟨v1.ab,v1.aj,(v1.bp.set (a1.a6).toNat (IntKind.i64.wrap (y2+a1.bd))),v1.ao⟩:Ar),true)
 else
  (GO a0 a1.a6).bind fun v5=>
  (Ys v5 a1.ax).bind fun v6=>
  (VQ a0.ao v6).bind fun v7=>
  some ((⟨v1.ab,v1.aj,v1.bp,v7.1⟩:Ar),v7.2)
def Px (a0:List Int) (v2 v3:Int):Option ((Int × Int) ⊕ Option (Int)):=
 if(decide (v3<(a0.length:Int)))then
  (getI a0 v3).bind fun y4=>
  some (.inl ((bif (decide (y4>v2))then y4 else v2),(IntKind.i64.wrap (v3+1))))
 else
  some (.inr (some v2))
def Yi (a0:List Int):Option (Int):=
 if(decide ((a0.length:Int)<1))then
  none
 else
  (getI a0 0).bind fun y1=>
  AA (fun s:Int × Int=>Px a0 s.1 s.2) (y1,1)
def Pw (a0:List Int) (v2 v3:Int):Option ((Int × Int) ⊕ Option (Int)):=
 if(decide (v3<(a0.length:Int)))then
  (getI a0 v3).bind fun y4=>
  some (.inl ((bif (decide (y4<v2))then y4 else v2),(IntKind.i64.wrap (v3+1))))
 else
  some (.inr (some v2))
def Yl (a0:List Int):Option (Int):=
 if(decide ((a0.length:Int)<1))then
  none
 else
  (getI a0 0).bind fun y1=>
  AA (fun s:Int × Int=>Pw a0 s.1 s.2) (y1,1)
def Vd (a0:Ar):Option (Bool):=
 (Yi a0.bp).bind fun v1=>
 (Yl a0.bp).bind fun v2=>
 some (decide ((IntKind.i64.wrap (v1-v2))≤1))
def Vs (a0:Ar) (a1:D4):Option (Bool):=
 (Rw a0 a1).bind fun v1=>
 if v1.2 then
  (Vd v1.1).bind fun v2=>
  if v2 then
   (Rx v1.1).bind fun v3=>
   some v3
  else
   some false
 else
  some false
def LZ (a0:AK) (a1:D4):Option (AK × Bool):=
 (Vw a0).bind fun v1=>
 if(a1.bd !=0)then
  (Vs a0.ae a1).bind fun v2=>
  if(!v2)then
   some (v1,false)
  else
   (Rw a0.ae a1).bind fun v3=>
   if(!v3.2)then
    some (v1,false)
   else
    if(a1.bd==0)then
     (GO a0.ae a1.a6).bind fun v4=>
     (Kk a0.ae v4).bind fun v5=>
     (NF v5).bind fun v6=>
     if v6 then
      some ((⟨v3.1,(⟨v1.cy.al,v1.cy.bf⟩:AY),(⟨([]:Ac),false⟩:AY)⟩:AK),true)
     else
      some ((⟨v3.1,(⟨([]:Ac),false⟩:AY),(⟨v1.bj.al,v1.bj.bf⟩:AY)⟩:AK),true)
    else
     some ((⟨v3.1,(⟨v1.cy.al,v1.cy.bf⟩:AY),(⟨v1.bj.al,v1.bj.bf⟩:AY)⟩:AK),true)
 else
  (Rw a0.ae a1).bind fun v7=>
  if(!v7.2)then
   some (v1,false)
  else
   if(a1.bd==0)then
    (GO a0.ae a1.a6).bind fun v8=>
    (Kk a0.ae v8).bind fun v9=>
    (NF v9).bind fun v10=>
    if v10 then
     some ((⟨v7.1,(⟨v1.cy.al,v1.cy.bf⟩:AY),(⟨([]:Ac),false⟩:AY)⟩:AK),true)
    else
     some ((⟨v7.1,(⟨([]:Ac),false⟩:AY),(⟨v1.bj.al,v1.bj.bf⟩:AY)⟩:AK),true)
   else
    some ((⟨v7.1,(⟨v1.cy.al,v1.cy.bf⟩:AY),(⟨v1.bj.al,v1.bj.bf⟩:AY)⟩:AK),true)
def Nw (a0:AK) (v1 v2:Int):Option ((Int × Int) ⊕ Option (Int)):=
 if(decide (v2<(a0.ae.bp.length:Int)))then
  (GO a0.ae v2).bind fun v3=>
  (Kk a0.ae v3).bind fun v4=>
  (NF v4).bind fun v5=>
  if v5 then
   some (.inl ((IntKind.i64.wrap (v1+1)),(IntKind.i64.wrap (v2+1))))
  else
   some (.inl (v1,(IntKind.i64.wrap (v2+1))))
 else
  some (.inr (some v1))
def Rj (a0:AK):Option (Int):=
 AA (fun s:Int × Int=>Nw a0 s.1 s.2) (0,0)
def Ye (a0:Ad) (a1:Ac) (a2:AI):Option (List Ax):=
 (L0 a0 a2).bind fun v1=>
 (Kl a0 a1 a2).bind fun v2=>
 some [(⟨7,v1.af,v1.a7,0⟩:Ax),(⟨2,v2,([]:Ac),0⟩:Ax)]
def Rh (a0:Ad) (a1:Ac) (v1:List AI) (v2:Int) (v3:List BU):Option ((Int × List BU) ⊕ Option (List BU)):=
 if(decide (v2<(v1.length:Int)))then
  (getI v1 v2).bind fun y4=>
  (L0 a0 y4).bind fun v5=>
  (Ye a0 a1 y4).bind fun v6=>
  req ((((v3).length:Int)+(([(⟨v5.af,v6⟩:BU)]:List BU).length:Int))*40≤140737488355328∧((v3).length:Int)+(([(⟨v5.af,v6⟩:BU)]:List BU).length:Int)≤140737488355328)<|
  some (.inl ((IntKind.i64.wrap (v2+1)),(v3++ [(⟨v5.af,v6⟩:BU)])))
 else
  some (.inr (some v3))
def Vk (a0:Ad) (a1:Ac) (a2:List Ab):Option (List BU):=
 (PC a0 a2).bind fun v1=>
 AA (fun s:Int × List BU=>Rh a0 a1 v1 s.1 s.2) (0, [])
def iX (xs:List BU):Option (List BU):=NY 40 xs
def Y5 (a0:BU) (a1:AY):Option (Bool):=
 some (Op.bytesLess a0.ay a1.al||a0.ay==a1.al)
def YY (a2:AY) (v2:List BU) (v3:List Ab) (v4:Int) (v5:Ac):Option (List Ab × AY):=
 (L1 v3).bind fun v6=>
 some (v6,(⟨v5,(a2.bf||(v4==(v2.length:Int)))⟩:AY))
def KW (a2:AY) (a3:Int) (v2:List BU) (v7:List Ab) (v8:Int) (v9:Ac):Option ((List Ab × Int × Ac) ⊕ Option (List Ab × AY)):=
 if(decide (v8<(bif (decide ((v2.length:Int)<a3))then(v2.length:Int)else a3)))then
  (getI v2 v8).bind fun y10=>
  (VQ v7 y10.cd).bind fun v11=>
  if(!v11.2)then
   some (.inr (YY a2 v2 v7 v8 v9))
  else
   some (.inl (v11.1,(IntKind.i64.wrap (v8+1)),y10.ay))
 else
  some (.inr (YY a2 v2 v7 v8 v9))
def NK (a0:List BU) (a1:List Ab) (a2:AY) (a3:Int):Option (List Ab × AY):=
 (iX a0).bind fun v1=>
 (Jj v1 (fun y0_=>Y5 y0_ a2)).bind fun v2=>
 AA (fun s:List Ab × Int × Ac=>KW a2 a3 v2 s.1 s.2.1 s.2.2) (a1,0,a2.al)
def Rg (v1:List (Ac)) (v2:Int) (v3:List BU):Option ((Int × List BU) ⊕ Option (List BU)):=
 if(decide (v2<(v1.length:Int)))then
  (getI v1 v2).bind fun y4=>
  req ((((v3).length:Int)+(([(⟨y4, [(⟨3,y4,([]:Ac),0⟩:Ax)]⟩:BU)]:List BU).length:Int))*40≤140737488355328∧((v3).length:Int)+(([(⟨y4, [(⟨3,y4,([]:Ac),0⟩:Ax)]⟩:BU)]:List BU).length:Int)≤140737488355328)<|
  some (.inl ((IntKind.i64.wrap (v2+1)),(v3++ [(⟨y4, [(⟨3,y4,([]:Ac),0⟩:Ax)]⟩:BU)])))
 else
  some (.inr (some v3))
def Rz (a0:Ad) (a1:Ac) (a2:List Ab):Option (List BU):=
 (KS a0 a1 a2).bind fun v1=>
 AA (fun s:Int × List BU=>Rg v1 s.1 s.2) (0, [])
def NA (a0:AK) (a1:DQ):Option (AK × Bool):=
 if(a1.ak==1)then
  (LZ a0 a1.ax).bind fun v1=>
  some (v1.1,v1.2)
 else
  (Vw a0).bind fun v2=>
  if(a1.ak==2)then
   (Rj a0).bind fun v3=>
   if(v3==(a0.ae.bp.length:Int))then
    (getI a0.ae.aj 0).bind fun y4=>
    (Vk y4 a0.ae.ab a0.ae.ao).bind fun v5=>
    (NK v5 a0.ae.ao a0.cy a1.bz).bind fun v6=>
    some ((⟨(⟨v2.ae.ab,v2.ae.aj,v2.ae.bp,v6.1⟩:Ar),(⟨v6.2.al,v6.2.bf⟩:AY),(⟨([]:Ac),false⟩:AY)⟩:AK),true)
   else
    if(a1.ak==3)then
     (Rj a0).bind fun v7=>
     if(v7==0)then
      (getI a0.ae.aj 0).bind fun y8=>
      (Rz y8 a0.ae.ab a0.ae.ao).bind fun v9=>
      (NK v9 a0.ae.ao a0.bj a1.bz).bind fun v10=>
      some ((⟨(⟨v2.ae.ab,v2.ae.aj,v2.ae.bp,v10.1⟩:Ar),(⟨([]:Ac),false⟩:AY),(⟨v10.2.al,v10.2.bf⟩:AY)⟩:AK),true)
     else
      some (v2,false)
    else
     some (v2,false)
  else
   if(a1.ak==3)then
    (Rj a0).bind fun v11=>
    if(v11==0)then
     (getI a0.ae.aj 0).bind fun y12=>
     (Rz y12 a0.ae.ab a0.ae.ao).bind fun v13=>
     (NK v13 a0.ae.ao a0.bj a1.bz).bind fun v14=>
     some ((⟨(⟨v2.ae.ab,v2.ae.aj,v2.ae.bp,v14.1⟩:Ar),(⟨([]:Ac),false⟩:AY),(⟨v14.2.al,v14.2.bf⟩:AY)⟩:AK),true)
    else
     some (v2,false)
   else
    some (v2,false)
def PL (a0:AK) (a1:DQ):Option (AK × Bool × Bool):=
 (Vq a0 a1).bind fun v1=>
 if(!v1)then
  some ((⟨(⟨([]:Ac), [], [], []⟩:Ar),(⟨([]:Ac),false⟩:AY),(⟨([]:Ac),false⟩:AY)⟩:AK),false,false)
 else
  (NA a0 a1).bind fun v2=>
  some (v2.1,v2.2,true)
def YM (a0:Ad) (a1:Ac) (a2:List Ab):Option (Bool):=
 (Sf a0 a1).bind fun v1=>
 if v1 then
  (Sh a2).bind fun v2=>
  some v2
 else
  some false
def VK (a0:Ad) (a1:Ac) (a2:List Ab):Option (List (Ac) × Bool):=
 (YM a0 a1 a2).bind fun v1=>
 if(!v1)then
  some ([],false)
 else
  (U8 a0 a1 a2).bind fun v2=>
  some (v2,true)
def jS (a0:Ar) (a1:D4):Option (Bool):=
 (L5 a0).bind fun v1=>
 if v1 then
  (Va a0 a1).bind fun v2=>
  some v2
 else
  some false
def VI (a0:Ar) (a1:D4):Option (Bool × Bool):=
 (jS a0 a1).bind fun v1=>
 if((!v1)||(a1.bd==0))then
  some (false,false)
 else
  (Vs a0 a1).bind fun v2=>
  some (v2,true)
def kO (v1:Ar) (v5:Ad × Bool) (v9:Ac) (v10:List Ad) (v11:Ac) (v12:Bool) (v13:Ac) (v14:Bool) (v15:List Int) (v16:List Ab):Option (Bool):=
 (VK v5.1 v1.ab v16).bind fun v17=>
 (VI (⟨v9,v10,v15,v16⟩:Ar) (⟨0,1,(⟨0,(⟨[]⟩:AI),(⟨[]⟩:AI)⟩:Bv)⟩:D4)).bind fun v18=>
 some ((((v17.2&&v18.2)&&((v17.1.length:Int)==0))&&v12)&&v18.1)
def PG (v1:Ar) (v5:Ad × Bool) (v7:List AI × Bool) (v19:Int) (v20:Ac) (v21:List Ad) (v22:Ac) (v23:Bool) (v24:Ac) (v25:Bool) (v26:List Int) (v27:List Ab):Option ((Int × Ac × List Ad × Ac × Bool × Ac × Bool × List Int × List Ab) ⊕ Option (Bool)):=
 if(decide (v19≤(v7.1.length:Int)))then
  (PL (⟨(⟨v20,v21,v26,v27⟩:Ar),(⟨v22,v23⟩:AY),(⟨v24,v25⟩:AY)⟩:AK) (⟨2,1,(⟨0,0,(⟨0,(⟨[]⟩:AI),(⟨[]⟩:AI)⟩:Bv)⟩:D4)⟩:DQ)).bind fun v28=>
  if((!v28.2.2)||(!v28.2.1))then
   some (.inr (some false))
  else
   some (.inl ((IntKind.i64.wrap (v19+1)),v28.1.ae.ab,v28.1.ae.aj,v28.1.cy.al,v28.1.cy.bf,v28.1.bj.al,v28.1.bj.bf,v28.1.ae.bp,v28.1.ae.ao))
 else
  some (.inr (kO v1 v5 v20 v21 v22 v23 v24 v25 v26 v27))
def YR (a0 a1:List Int):Option (Bool):=
 if(decide ((IntKind.i64.wrap ((a0.length:Int)+(a1.length:Int)))>1048576))then
  some true
 else
  (Yp a0).bind fun v1=>
  (VE v1).bind fun v2=>
  if(!v2)then
   (L5 v1).bind fun v3=>
   some (!v3)
  else
   (getI v1.aj 0).bind fun y4=>
   (Vy y4 v1.ab 2).bind fun v5=>
   (YP v5.1 v1.ab 3 (v1.bp.length:Int) v1.ao).bind fun v6=>
   (Zj v5.1 v1.ao).bind fun v7=>
   (VO v6.1).bind fun v8=>
   if((((!v5.2)||(!v6.2))||(!v7.2))||(!v8.2))then
    some false
   else
    if((!v8.1)||(decide ((IntKind.i64.wrap ((v1.ao.length:Int)+(v7.1.length:Int)))>24)))then
     some true
    else
     AA (fun s:Int × Ac × List Ad × Ac × Bool × Ac × Bool × List Int × List Ab=>PG v1 v5 v7 s.1 s.2.1 s.2.2.1 s.2.2.2.1 s.2.2.2.2.1 s.2.2.2.2.2.1 s.2.2.2.2.2.2.1 s.2.2.2.2.2.2.2.1 s.2.2.2.2.2.2.2.2) (0,v6.1.ab,v6.1.aj,([]:Ac),false,([]:Ac),false,v6.1.bp,v6.1.ao)
def Rq (a0:Ad) (v1:List AI) (v2:List (Ac)) (v3:Int):Option ((List (Ac) × Int) ⊕ Option (List (Ac))):=
 if(decide (v3<(v1.length:Int)))then
  (getI v1 v3).bind fun y4=>
  (IK a0 y4).bind fun v5=>
  req ((((v2).length:Int)+(([v5.af]:List (Ac)).length:Int))*16≤140737488355328∧((v2).length:Int)+(([v5.af]:List (Ac)).length:Int)≤140737488355328)<|
  some (.inl ((v2++ [v5.af]),(IntKind.i64.wrap (v3+1))))
 else
  some (.inr (some v2))
def kD (a0:Ad) (a1:List Ab):Option (List (Ac)):=
 (Km a0 a1).bind fun v1=>
 AA (fun s:List (Ac) × Int=>Rq a0 v1 s.1 s.2) ([],0)
def jX (a0:Ad) (a1 a2:Ac):Option (Ac × Ac × Bool):=
 (PS a2 47).bind fun v1=>
 if((v1.length:Int) !=3)then
  some (([]:Ac),([]:Ac),false)
 else
  (getI v1 0).bind fun y2=>
  req ((a0.ab).length+(([46]:Ac)).length≤9223372036854775807)<|
  req (((a0.ab++([46]:Ac))).length+(a1).length≤9223372036854775807)<|
  if(y2 !=((a0.ab++([46]:Ac))++a1))then
   some (([]:Ac),([]:Ac),false)
  else
   (getI v1 1).bind fun y3=>
   (RY y3).bind fun v4=>
   if v4 then
    (getI v1 2).bind fun y5=>
    (RY y5).bind fun v6=>
    if(!v6)then
     some (([]:Ac),([]:Ac),false)
    else
     some (y3,y5,true)
   else
    some (([]:Ac),([]:Ac),false)
def Rr (a0:Ad) (a1:Ac) (a2:List Ab) (v1:List (Ac)) (v2:Int):Option ((List (Ac) × Int) ⊕ Option (List (Ac))):=
 if(decide (v2<(a2.length:Int)))then
  (getI a2 v2).bind fun y3=>
  (jX a0 a1 y3.af).bind fun v4=>
  if v4.2.2 then
   req ((((v1).length:Int)+(([y3.af]:List (Ac)).length:Int))*16≤140737488355328∧((v1).length:Int)+(([y3.af]:List (Ac)).length:Int)≤140737488355328)<|
   some (.inl ((v1++ [y3.af]),(IntKind.i64.wrap (v2+1))))
  else
   some (.inl (v1,(IntKind.i64.wrap (v2+1))))
 else
  some (.inr (some v1))
def L3 (a0:Ad) (a1:Ac) (a2:List Ab):Option (List (Ac)):=
 AA (fun s:List (Ac) × Int=>Rr a0 a1 a2 s.1 s.2) ([],0)
def YO (a0:AY):Option (Bool):=
 if(a0.al==([]:Ac))then
  some true
 else
  (Sl a0.al).bind fun v1=>
  some v1
def PO (a0:AK):Option (Bool):=
 (VE a0.ae).bind fun v1=>
 if v1 then
  (YO a0.cy).bind fun v2=>
  if v2 then
   (YO a0.bj).bind fun v3=>
   some v3
  else
   some false
 else
  some false
def lH (a0:Bv):Option (Bool):=
 some (((a0.ak==0)&&((a0.br.aw.length:Int)==0))&&((a0.bw.aw.length:Int)==0))
def Zg (a0:Ad) (a1:Bv):Option (Bool):=
 if(a1.ak==1)then
  if((a1.br.aw.length:Int)==0)then
   (NG a0 a1.bw).bind fun v1=>
   some v1
  else
   some false
 else
  if(a1.ak==2)then
   if((a1.bw.aw.length:Int)==0)then
    (NG a0 a1.br).bind fun v2=>
    some v2
   else
    some false
  else
   if(a1.ak==3)then
    (NG a0 a1.br).bind fun v3=>
    if v3 then
     (NG a0 a1.bw).bind fun v4=>
     if v4 then
      (getI a1.br.aw 0).bind fun y5=>
      (getI a1.bw.aw 0).bind fun y6=>
      some (y5==y6)
     else
      some false
    else
     some false
   else
    some false
def lS (a0:Ar) (a1:D4):Option (Bool):=
 (F9 a1.a6 0 (IntKind.i64.wrap ((a0.bp.length:Int)-1))).bind fun v1=>
 if(!v1)then
  some false
 else
  if((a1.bd==1)||(a1.bd==(-1)))then
   (lH a1.ax).bind fun v2=>
   some v2
  else
   if(a1.bd==0)then
    (getI a0.bp a1.a6).bind fun y3=>
    (getI a0.aj y3).bind fun y4=>
    (Zg y4 a1.ax).bind fun v5=>
    some v5
   else
    some false
def zY (a0:Int):Option (Bool):=
 (F9 a0 1 24).bind fun v1=>
 some v1
def YN (a1:DQ) (v2:Bool):Option (Bool):=
 if v2 then
  (zY a1.bz).bind fun v3=>
  if v3 then
   if(a1.ax.a6==0)then
    if(a1.ax.bd==0)then
     (lH a1.ax.ax).bind fun v4=>
     some v4
    else
     some false
   else
    some false
  else
   some false
 else
  some false
def mA (a0:AK) (a1:DQ):Option (Bool):=
 if(a1.ak==1)then
  if(a1.bz==0)then
   (lS a0.ae a1.ax).bind fun v1=>
   some v1
  else
   some false
 else
  if(a1.ak==2)then
   YN a1 (a1.ak==2)
  else
   YN a1 (a1.ak==3)
def Vr (a0:AK) (a1:DQ):Option (Bool):=
 (PO a0).bind fun v1=>
 if v1 then
  (mA a0 a1).bind fun v2=>
  some v2
 else
  some false
def mR (a0:AK):Option (AK):=
 (Se a0.ae).bind fun v1=>
 some (⟨v1,a0.cy,a0.bj⟩:AK)
def RF (v1:List Int) (v2 v3:Bool) (v4:Int):Option ((Bool × Bool × Int) ⊕ Option (Bool × Bool)):=
 if(decide (v4<(v1.length:Int)))then
  (getI v1 v4).bind fun y5=>
  some (.inl ((v2&&(decide (y5≥2))),(v3||(decide (y5≥2))),(IntKind.i64.wrap (v4+1))))
 else
  some (.inr (some (v2,v3)))
def mH (a0:Ar):Option (Bool × Bool):=
 (L6 a0).bind fun v1=>
 AA (fun s:Bool × Bool × Int=>RF v1 s.1 s.2.1 s.2.2) (true,false,0)
def VH (a0:Ad) (a1:Bv):Option (Bool):=
 (KU a0).bind fun v1=>
 if v1 then
  (Zg a0 a1).bind fun v2=>
  some v2
 else
  some false
def mC (a0:Ad) (a1:Bv):Option (List Ax):=
 if(a1.ak==1)then
  (IK a0 a1.bw).bind fun v1=>
  some [(⟨6,v1.af,([]:Ac),0⟩:Ax),(⟨2,v1.af,v1.a7,0⟩:Ax)]
 else
  (IK a0 a1.br).bind fun v2=>
  if(a1.ak==2)then
   some [(⟨7,v2.af,v2.a7,0⟩:Ax),(⟨3,v2.af,([]:Ac),0⟩:Ax)]
  else
   (IK a0 a1.bw).bind fun v3=>
   some [(⟨7,v2.af,v2.a7,0⟩:Ax),(⟨2,v2.af,v3.a7,0⟩:Ax)]
def YK (a1:Aq) (v2:Ac) (v3:List Ax):Option (List Ax):=
 if((v2 !=([]:Ac))&&(decide (a1.aq≥2)))then
  req ((((v3).length:Int)+(([(⟨2,v2,([]:Ac),0⟩:Ax)]:List Ax).length:Int))*48≤140737488355328∧((v3).length:Int)+(([(⟨2,v2,([]:Ac),0⟩:Ax)]:List Ax).length:Int)≤140737488355328)<|
  some (v3++ [(⟨2,v2,([]:Ac),0⟩:Ax)])
 else
  some v3
def VA (a1:Aq) (v1 v2:Ac):Option (List Ax):=
 if(((v1 !=([]:Ac))&&(v1 !=v2))&&(decide (a1.aq≥1)))then
  req (((([]:List Ax).length:Int)+(([(⟨3,v1,([]:Ac),0⟩:Ax)]:List Ax).length:Int))*48≤140737488355328∧(([]:List Ax).length:Int)+(([(⟨3,v1,([]:Ac),0⟩:Ax)]:List Ax).length:Int)≤140737488355328)<|
  YK a1 v2 [(⟨3,v1,([]:Ac),0⟩:Ax)]
 else
  YK a1 v2 []
def YI (a0:Ad) (a1:Aq) (a2:Bv) (v1:Ac):Option (List Ax):=
 if(a2.ak !=2)then
  (Ji a0 a1 a2.bw).bind fun v4=>
  VA a1 v1 v4
 else
  VA a1 v1 ([]:Ac)
def Zl (a0:Ad) (a1:Aq) (a2:Bv):Option (List Ax):=
 UM (σ:=Ac) (
  if(a2.ak !=1)then
   (Ji a0 a1 a2.br).bind fun v5=>
   some (.inl v5)
  else
   some (.inl ([]:Ac))
 ) (fun s=>YI a0 a1 a2 s)
def R0 (a0:Ad) (a1:Bv) (v2:Int) (v3:List Ax):Option ((Int × List Ax) ⊕ Option (List Ax)):=
 if(decide (v2<(a0.ah.length:Int)))then
  (getI a0.ah v2).bind fun y4=>
  (Zl a0 y4 a1).bind fun v5=>
  req ((((v3).length:Int)+((v5).length:Int))*48≤140737488355328∧((v3).length:Int)+((v5).length:Int)≤140737488355328)<|
  some (.inl ((IntKind.i64.wrap (v2+1)),(v3++v5)))
 else
  some (.inr (some v3))
def mT (a0:Ad) (a1:Bv):Option (List Ax):=
 (mC a0 a1).bind fun v1=>
 AA (fun s:Int × List Ax=>R0 a0 a1 s.1 s.2) (0,v1)
def mF (a0:Ax) (v2:Bool):Option (Bool):=
 if v2 then
  (VS a0.a7).bind fun v3=>
  some (v3&&(a0.jm==0))
 else
  if(a0.ak==4)then
   if(a0.ak==4)then
    if(a0.a7==([]:Ac))then
     (F9 a0.jm (-9999) 9999).bind fun v4=>
     some v4
    else
     some false
   else
    some (((((a0.ak==1)||(a0.ak==3))||(a0.ak==6))&&(a0.a7==([]:Ac)))&&(a0.jm==0))
  else
   if(a0.ak==5)then
    if(a0.a7==([]:Ac))then
     (F9 a0.jm (-9999) 9999).bind fun v5=>
     some v5
    else
     some false
   else
    some (((((a0.ak==1)||(a0.ak==3))||(a0.ak==6))&&(a0.a7==([]:Ac)))&&(a0.jm==0))
def nE (a0:Ax):Option (Bool):=
 (Sl a0.af).bind fun v1=>
 if(!v1)then
  some false
 else
  if(a0.ak==2)then
   mF a0 (a0.ak==2)
  else
   mF a0 (a0.ak==7)
def kW (a0:List Ax):Option (Bool):=
 some (decide ((a0.length:Int)≤8))
def R1 (a0:List Ax) (v1:Int):Option ((Int) ⊕ Option (Bool)):=
 if(decide (v1<(a0.length:Int)))then
  (getI a0 v1).bind fun y2=>
  (nE y2).bind fun v3=>
  if(!v3)then
   some (.inr (some false))
  else
   some (.inl (IntKind.i64.wrap (v1+1)))
 else
  some (.inr (kW a0))
def mK (a0:List Ax):Option (Bool):=
 AA (fun s:Int=>R1 a0 s) 0
def RP (a1:List BR) (a2:Ac) (v1:Int):Option ((Int) ⊕ Option (Ac × Bool × Bool)):=
 if(decide (v1<(a1.length:Int)))then
  (getI a1 v1).bind fun y2=>
  if(y2.af==a2)then
   some (.inr (some (y2.a7,y2.di,true)))
  else
   some (.inl (IntKind.i64.wrap (v1+1)))
 else
  some (.inr (some (([]:Ac),false,false)))
def Yy (a1:List BR) (a2:Ac):Option (Ac × Bool × Bool):=
 AA (fun s:Int=>RP a1 a2 s) 0
def RN (a0:List Ab) (a1:List BR) (a2:Ac) (v3:Int):Option ((Int) ⊕ Option (Ac × Bool × Bool)):=
 if(decide (v3<(a0.length:Int)))then
  (getI a0 v3).bind fun y4=>
  if(y4.af==a2)then
   some (.inr (some (y4.a7,(!y4.bh),true)))
  else
   some (.inl (IntKind.i64.wrap (v3+1)))
 else
  some (.inr (Yy a1 a2))
def lM (a0:List Ab) (a1:List BR) (a2:Ac):Option (Ac × Bool × Bool):=
 AA (fun s:Int=>RN a0 a1 a2 s) 0
def L4 (a0:Ac) (v3 v4:Int):Option ((Int × Int) ⊕ Option (Int)):=
 if(decide (v4<(a0.length:Int)))then
  (getI a0 v4).bind fun y5=>
  if((decide ((y5.toNat:Int)<48))||(decide ((y5.toNat:Int)>57)))then
   some (.inr (some (-1)))
  else
   some (.inl ((IntKind.i64.wrap ((IntKind.i64.wrap ((10:Int)*v3))+(IntKind.i64.wrap (IntKind.u8.wrap ((y5.toNat:Int)-48))))),(IntKind.i64.wrap (v4+1))))
 else
  some (.inr (some v3))
def Zm (a0:Ac):Option (Int):=
 (F9 (a0.length:Int) 1 6).bind fun v1=>
 if v1 then
  (getI a0 0).bind fun y2=>
  if(((y2.toNat:Int)==48)&&(decide ((a0.length:Int)>1)))then
   some (-1)
  else
   AA (fun s:Int × Int=>L4 a0 s.1 s.2) (0,0)
 else
  some (-1)
def YQ (y1:UInt8) (v2:Ac):Option (Int × Bool):=
 (Zm v2).bind fun v3=>
 if((decide (v3<0))||(((y1.toNat:Int)==45)&&(v3==0)))then
  some (0,false)
 else
  if((y1.toNat:Int)==45)then
   some ((IntKind.i64.wrap (0-v3)),true)
  else
   some (v3,true)
def zO (v4:Ac):Option (Int × Bool):=
 (Zm v4).bind fun v5=>
 if((decide (v5<0))||false)then
  some (0,false)
 else
  some (v5,true)
def Zs (a0:Ac):Option (Int × Bool):=
 if(decide ((a0.length:Int)>0))then
  (getI a0 0).bind fun y1=>
  if((y1.toNat:Int)==45)then
   req (0≤(1:Int)∧(1:Int)≤(a0.length:Int)∧(a0.length:Int)≤(a0.length:Int))<|
   YQ y1 (Bk a0 1 (a0.length:Int))
  else
   YQ y1 a0
 else
  zO a0
def mG (a0:Ax) (a1:Ac) (a2:Bool):Option (Bool):=
 (Zs a1).bind fun v1=>
 if(a0.ak==4)then
  if(!a2)then
   some false
  else
   if v1.2 then
    (F9 (IntKind.i64.wrap (v1.1+a0.jm)) (-999999) 999999).bind fun v2=>
    some (!v2)
   else
    some true
 else
  if(a0.ak==5)then
   some (((!a2)||(!v1.2))||(decide (v1.1<a0.jm)))
  else
   if(a0.ak==6)then
    some a2
   else
    if(a0.ak==7)then
     some ((!a2)||(a1 !=a0.a7))
    else
     some false
def zV:Nat→Int→Option (Ac)
 |0,_=>none
 |n_+1,a0=>
  if(decide (a0<10))then
   req (([(IntKind.u8.wrap (IntKind.i64.wrap ((48:Int)+a0)))]:List Int).length≤9223372036854775807)<|
   some ([(IntKind.u8.wrap (IntKind.i64.wrap ((48:Int)+a0)))].map fun n=>UInt8.ofNat n.toNat)
  else
   ((zV n_) (IntKind.i64.wrap (Int.tdiv a0 10))).bind fun v1=>
   req (([(IntKind.u8.wrap (IntKind.i64.wrap ((48:Int)+(Int.tmod a0 10))))]:List Int).length≤9223372036854775807)<|
   req ((v1).length+(([(IntKind.u8.wrap (IntKind.i64.wrap ((48:Int)+(Int.tmod a0 10))))].map fun n=>UInt8.ofNat n.toNat)).length≤9223372036854775807)<|
   some (v1++([(IntKind.u8.wrap (IntKind.i64.wrap ((48:Int)+(Int.tmod a0 10))))].map fun n=>UInt8.ofNat n.toNat))
def zqH:Int→Option (Ac):=zV zH1
def zoP (a0:Int):Option (Ac):=
 if(decide (a0<0))then
  (zqH (IntKind.i64.wrap (0-a0))).bind fun v1=>
  req ((([45]:Ac)).length+(v1).length≤9223372036854775807)<|
  some ((([45]:Ac):Ac)++v1)
 else
  (zqH a0).bind fun v2=>
  some v2
def IH (a0:List Ax) (a1:List BR) (v1:List Ab) (v2:Int):Option ((List Ab × Int) ⊕ Option (Int × Ac × List Ab)):=
 if(decide (v2<(a0.length:Int)))then
  (getI a0 v2).bind fun y3=>
  (lM v1 a1 y3.af).bind fun v4=>
  if(((!v4.2.2)&&(y3.ak !=2))&&(y3.ak !=3))then
   some (.inr (some (1,y3.af, [])))
  else
   (mG y3 v4.1 v4.2.1).bind fun v5=>
   if v5 then
    some (.inr (some (2,([]:Ac), [])))
   else
    if(y3.ak==2)then
     (G8 v1 (⟨y3.af,y3.a7,false⟩:Ab)).bind fun v6=>
     some (.inl (v6,(IntKind.i64.wrap (v2+1))))
    else
     if(y3.ak==3)then
      (G8 v1 (⟨y3.af,([]:Ac),true⟩:Ab)).bind fun v7=>
      some (.inl (v7,(IntKind.i64.wrap (v2+1))))
     else
      if(y3.ak==4)then
       (Zs v4.1).bind fun v8=>
       if(!v4.2.1)then
        (zoP (IntKind.i64.wrap ((0:Int)+y3.jm))).bind fun v9=>
        (G8 v1 (⟨y3.af,v9,false⟩:Ab)).bind fun v10=>
        some (.inl (v10,(IntKind.i64.wrap (v2+1))))
       else
        (zoP (IntKind.i64.wrap (v8.1+y3.jm))).bind fun v11=>
        (G8 v1 (⟨y3.af,v11,false⟩:Ab)).bind fun v12=>
        some (.inl (v12,(IntKind.i64.wrap (v2+1))))
      else
       some (.inl (v1,(IntKind.i64.wrap (v2+1))))
 else
  some (.inr (some (3,([]:Ac),v1)))
def z7 (a0:List Ax) (a1:List BR):Option (Int × Ac × List Ab):=
 AA (fun s:List Ab × Int=>IH a0 a1 s.1 s.2) ([],0)
def zH (a1:Ac):Option (BR):=
 some (⟨a1,([]:Ac),false⟩:BR)
def RZ (a0:List Ab) (a1:Ac) (v1:Int):Option ((Int) ⊕ Option (BR)):=
 if(decide (v1<(a0.length:Int)))then
  (getI a0 v1).bind fun y2=>
  if(y2.af==a1)then
   some (.inr (some (⟨a1,y2.a7,true⟩:BR)))
  else
   some (.inl (IntKind.i64.wrap (v1+1)))
 else
  some (.inr (zH a1))
def mS (a0:List Ab) (a1:Ac):Option (BR):=
 AA (fun s:Int=>RZ a0 a1 s) 0
def PI (a0:List Ab) (a1:List Ax) (v1:List BR):Option ((List BR) ⊕ Option (List BR × List Ab × Bool)):=
 (z7 a1 v1).bind fun v2=>
 if(v2.1 !=1)then
  some (.inr (some (v1,v2.2.2,(v2.1==3))))
 else
  (mS a0 v2.2.1).bind fun v3=>
  req ((((v1).length:Int)+(([v3]:List BR).length:Int))*40≤140737488355328∧((v1).length:Int)+(([v3]:List BR).length:Int)≤140737488355328)<|
  some (.inl (v1++ [v3]))
def zS (a0:List Ab) (a1:List Ax):Option (List BR × List Ab × Bool):=
 AA (fun s:List BR=>PI a0 a1 s) []
def Rv (v1 v2:List Ab) (v3:Int):Option ((List Ab × Int) ⊕ Option (List Ab)):=
 if(decide (v3<(v1.length:Int)))then
  (getI v1 v3).bind fun y4=>
  if(!y4.bh)then
   req ((((v2).length:Int)+(([y4]:List Ab).length:Int))*40≤140737488355328∧((v2).length:Int)+(([y4]:List Ab).length:Int)≤140737488355328)<|
   some (.inl ((v2++ [y4]),(IntKind.i64.wrap (v3+1))))
  else
   some (.inl (v2,(IntKind.i64.wrap (v3+1))))
 else
  some (.inr (some v2))
def jT (v1:List Ab):Option (List Ab):=
 AA (fun s:List Ab × Int=>Rv v1 s.1 s.2) ([],0)
def Rm (a1:List Ab) (v5:Int) (v6:List Ab):Option ((Int × List Ab) ⊕ Option (List Ab)):=
 if(decide (v5<(a1.length:Int)))then
  (getI a1 v5).bind fun y7=>
  (G8 v6 y7).bind fun v8=>
  some (.inl ((IntKind.i64.wrap (v5+1)),v8))
 else
  some (.inr (jT v6))
def lO (a0 a1:List Ab):Option (List Ab):=
 req (((([]:List Ab).length:Int)+((a0).length:Int))*40≤140737488355328∧(([]:List Ab).length:Int)+((a0).length:Int)≤140737488355328)<|
 AA (fun s:Int × List Ab=>Rm a1 s.1 s.2) (0,a0)
def PK (a1:List (List Ax)) (v2:List Bool) (v3:Int) (v4:List Ab):Option ((List Bool × Int × List Ab) ⊕ Option (List Ab × List Bool × Bool)):=
 if(decide (v3<(a1.length:Int)))then
  (getI a1 v3).bind fun y5=>
  (zS v4 y5).bind fun v6=>
  (lO v4 v6.2.1).bind fun v7=>
  if v6.2.2 then
   (Kn v7).bind fun v8=>
   if v8 then
    req ((((v2).length:Int)+(([v8]:List Bool).length:Int))*1≤140737488355328∧((v2).length:Int)+(([v8]:List Bool).length:Int)≤140737488355328)<|
    some (.inl ((v2++ [v8]),(IntKind.i64.wrap (v3+1)),v7))
   else
    req ((((v2).length:Int)+(([v8]:List Bool).length:Int))*1≤140737488355328∧((v2).length:Int)+(([v8]:List Bool).length:Int)≤140737488355328)<|
    some (.inl ((v2++ [v8]),(IntKind.i64.wrap (v3+1)),v4))
  else
   req ((((v2).length:Int)+(([false]:List Bool).length:Int))*1≤140737488355328∧((v2).length:Int)+(([false]:List Bool).length:Int)≤140737488355328)<|
   some (.inl ((v2++ [false]),(IntKind.i64.wrap (v3+1)),v4))
 else
  some (.inr (some (v4,v2,true)))
def jR (a0:List Ab) (a1:List (List Ax)):Option (List Ab × List Bool × Bool):=
 req (((([]:List Ab).length:Int)+((a0).length:Int))*40≤140737488355328∧(([]:List Ab).length:Int)+((a0).length:Int)≤140737488355328)<|
 AA (fun s:List Bool × Int × List Ab=>PK a1 s.1 s.2.1 s.2.2) ([],0,a0)
def PJ (a0:List Ab) (a1:List (List Ax)) (v9:Int):Option ((Int) ⊕ Option (List Ab × List Bool × Bool)):=
 if(decide (v9<(a1.length:Int)))then
  (getI a1 v9).bind fun y10=>
  (mK y10).bind fun v11=>
  if(!v11)then
   some (.inr (some ([], [],false)))
  else
   some (.inl (IntKind.i64.wrap (v9+1)))
 else
  some (.inr (jR a0 a1))
def kV (a0:List Ab) (a1:List (List Ax)):Option (List Ab × List Bool × Bool):=
 (Kn a0).bind fun v1=>
 if((!v1)||(decide ((a1.length:Int)>20)))then
  some ([], [],false)
 else
  AA (fun s:Int=>PJ a0 a1 s) 0
def Sc (a0:List Ab) (a1:List Ax):Option (List Ab × Bool):=
 (kV a0 ([a1]:List (List Ax))).bind fun v1=>
 if((v1.2.1.length:Int)==1)then
  (getI v1.2.1 0).bind fun y2=>
  some (v1.1,y2)
 else
  some (v1.1,false)
def VR (a0:Ad) (a1:List Ab) (a2:Bv):Option (List Ab × Bool × Bool):=
 (VH a0 a2).bind fun v1=>
 if v1 then
  (Kn a1).bind fun v2=>
  if(!v2)then
   some ([],false,false)
  else
   (mT a0 a2).bind fun v3=>
   (Sc a1 v3).bind fun v4=>
   some (v4.1,v4.2,true)
 else
  some ([],false,false)
def GQ (a0:Ar) (a1:D4):Option (Ar × Bool):=
 (Se a0).bind fun v1=>
 if(a1.bd !=0)then
  (getI v1.bp a1.a6).bind fun y2=>
  (F9 (IntKind.i64.wrap (y2+a1.bd)) 0 (IntKind.i64.wrap ((a0.aj.length:Int)-1))).bind fun v3=>
  if(!v3)then
   some (v1,false)
  else
   some ((⟨v1.ab,v1.aj,(v1.bp.set (a1.a6).toNat (IntKind.i64.wrap (y2+a1.bd))),v1.ao⟩:Ar),true)
 else
  (getI a0.bp a1.a6).bind fun y4=>
  (getI a0.aj y4).bind fun y5=>
  (VR y5 a0.ao a1.ax).bind fun v6=>
  some ((⟨v1.ab,v1.aj,v1.bp,v6.1⟩:Ar),v6.2.1)
def kN (v1:Int):Option ((Int) ⊕ Option (Bool)):=
 some (.inl (IntKind.i64.wrap (v1+1)))
def PH (a0:List Int) (v1 y2 v3:Int):Option ((Int) ⊕ Option ((Int) ⊕ Option (Bool))):=
 if(decide (v3<(a0.length:Int)))then
  (getI a0 v3).bind fun y4=>
  if(decide ((IntKind.i64.wrap (y2-y4))>1))then
   some (.inr (some (.inr (some false))))
  else
   some (.inl (IntKind.i64.wrap (v3+1)))
 else
  some (.inr (kN v1))
def RQ (a0:List Int) (v1:Int):Option ((Int) ⊕ Option (Bool)):=
 if(decide (v1<(a0.length:Int)))then
  (getI a0 v1).bind fun y2=>
  AA (fun s:Int=>PH a0 v1 y2 s) 0
 else
  some (.inr (some true))
def lF (a0:List Int):Option (Bool):=
 AA (fun s:Int=>RQ a0 s) 0
def RU (a0:Ad) (a1:Ac) (a2:List Ab):Option (Bool):=
 (KU a0).bind fun v1=>
 if v1 then
  (GP a0 a1).bind fun v2=>
  if(decide (v2≥0))then
   (Kn a2).bind fun v3=>
   some v3
  else
   some false
 else
  some false
def RG (a0:List (Ac)) (a1:List (Ac)) (v1:List (Ac)) (v2:Int):Option ((List (Ac) × Int) ⊕ Option (List (Ac))):=
 if(decide (v2<(a0.length:Int)))then
  (getI a0 v2).bind fun y3=>
  (PU a1 y3).bind fun v4=>
  if(decide (v4<0))then
   req ((((v1).length:Int)+(([y3]:List (Ac)).length:Int))*16≤140737488355328∧((v1).length:Int)+(([y3]:List (Ac)).length:Int)≤140737488355328)<|
   some (.inl ((v1++ [y3]),(IntKind.i64.wrap (v2+1))))
  else
   some (.inl (v1,(IntKind.i64.wrap (v2+1))))
 else
  some (.inr (some v1))
def lT (a0:List (Ac)) (a1:List (Ac)):Option (List (Ac)):=
 AA (fun s:List (Ac) × Int=>RG a0 a1 s.1 s.2) ([],0)
def zF (a0:Ad) (a1:Ac) (a2:List Ab):Option (List (Ac) × Bool):=
 (RU a0 a1 a2).bind fun v1=>
 if(!v1)then
  some ([],false)
 else
  (L3 a0 a1 a2).bind fun v2=>
  (R4 a0 a1 a2).bind fun v3=>
  (lT v2 v3).bind fun v4=>
  some (v4,true)
def zW (a0:Ad) (a1:Ac) (a2:List Ab):Option (List (Ac) × Bool):=
 (RU a0 a1 a2).bind fun v1=>
 if(!v1)then
  some ([],false)
 else
  (R4 a0 a1 a2).bind fun v2=>
  (L3 a0 a1 a2).bind fun v3=>
  (lT v2 v3).bind fun v4=>
  some (v4,true)
def lJ (a0:Ad) (a1:Ac) (a2:Int) (a3:List Ab):Option (Bool):=
 if(a2==0)then
  (L3 a0 a1 a3).bind fun v1=>
  some ((v1.length:Int)==0)
 else
  (zF a0 a1 a3).bind fun v2=>
  (zW a0 a1 a3).bind fun v3=>
  some (((v2.1.length:Int)==0)&&((a2==1)||((v3.1.length:Int)==0)))
def Za (a0:Ar):Option (Bool):=
 (getI a0.aj 0).bind fun y1=>
 (VG a0).bind fun v2=>
 (lJ y1 a0.ab v2 a0.ao).bind fun v3=>
 some v3
def Sg (a0:Ar) (a1:D4):Option (Bool):=
 (GQ a0 a1).bind fun v1=>
 if v1.2 then
  (lF v1.1.bp).bind fun v2=>
  if v2 then
   (Za v1.1).bind fun v3=>
   some v3
  else
   some false
 else
  some false
def NL (a0:AK) (a1:D4):Option (AK × Bool):=
 if(a1.bd !=0)then
  (Sg a0.ae a1).bind fun v1=>
  if(!v1)then
   some (a0,false)
  else
   (L6 a0.ae).bind fun v2=>
   (getI v2 a1.a6).bind fun y3=>
   (GQ a0.ae a1).bind fun v4=>
   if(!v4.2)then
    some (a0,false)
   else
    if((a1.bd==0)&&(decide (y3≥2)))then
     some ((⟨v4.1,(⟨a0.cy.al,a0.cy.bf⟩:AY),(⟨([]:Ac),false⟩:AY)⟩:AK),true)
    else
     if(a1.bd==0)then
      some ((⟨v4.1,(⟨([]:Ac),false⟩:AY),(⟨a0.bj.al,a0.bj.bf⟩:AY)⟩:AK),true)
     else
      some ((⟨v4.1,(⟨a0.cy.al,a0.cy.bf⟩:AY),(⟨a0.bj.al,a0.bj.bf⟩:AY)⟩:AK),true)
 else
  (L6 a0.ae).bind fun v5=>
  (getI v5 a1.a6).bind fun y6=>
  (GQ a0.ae a1).bind fun v7=>
  if(!v7.2)then
   some (a0,false)
  else
   if((a1.bd==0)&&(decide (y6≥2)))then
    some ((⟨v7.1,(⟨a0.cy.al,a0.cy.bf⟩:AY),(⟨([]:Ac),false⟩:AY)⟩:AK),true)
   else
    if(a1.bd==0)then
     some ((⟨v7.1,(⟨([]:Ac),false⟩:AY),(⟨a0.bj.al,a0.bj.bf⟩:AY)⟩:AK),true)
    else
     some ((⟨v7.1,(⟨a0.cy.al,a0.cy.bf⟩:AY),(⟨a0.bj.al,a0.bj.bf⟩:AY)⟩:AK),true)
def lY (a0:Ad) (a1:Aq) (a2:AI):Option (List Ax):=
 (IK a0 a2).bind fun v1=>
 (Ji a0 a1 a2).bind fun v2=>
 some [(⟨7,v1.af,v1.a7,0⟩:Ax),(⟨2,v2,([]:Ac),0⟩:Ax)]
def Vp (a0:List (Ac)) (a1:Ac) (v1:Int):Option ((Int) ⊕ Option (Bool)):=
 if(decide (v1<(a0.length:Int)))then
  (getI a0 v1).bind fun y2=>
  if(!(Op.bytesLess y2 a1||y2==a1))then
   some (.inr (some true))
  else
   some (.inl (IntKind.i64.wrap (v1+1)))
 else
  some (.inr (some false))
def lW (a0:List (Ac)) (a1:Ac):Option (Bool):=
 AA (fun s:Int=>Vp a0 a1 s) 0
def RE (a0:Ad) (a3:AY) (v4:Ac) (v5:List Ab):Option (List Ab × AY):=
 if a3.bf then
  some (v5,(⟨v4,true⟩:AY))
 else
  (kD a0 v5).bind fun v6=>
  (lW v6 v4).bind fun v7=>
  some (v5,(⟨v4,(!v7)⟩:AY))
def L2 (a0:Ad) (a3:AY) (y2:Aq) (v3:List AI) (v8 v9:Int) (v10:Ac) (v11:List Ab):Option ((Int × Int × Ac × List Ab) ⊕ Option (List Ab × AY)):=
 if(decide (v9<(v3.length:Int)))then
  (getI v3 v9).bind fun y12=>
  (IK a0 y12).bind fun v13=>
  if((v8==0)||(Op.bytesLess v13.af v10||v13.af==v10))then
   some (.inl (v8,(IntKind.i64.wrap (v9+1)),v10,v11))
  else
   (lY a0 y2 y12).bind fun v14=>
   (Sc v11 v14).bind fun v15=>
   if(!v15.2)then
    some (.inr (RE a0 a3 v10 v11))
   else
    some (.inl ((IntKind.i64.wrap (v8-1)),(IntKind.i64.wrap (v9+1)),v13.af,v15.1))
 else
  some (.inr (RE a0 a3 v10 v11))
def Y6 (a0:Ad) (a1:Ac) (a2:List Ab) (a3:AY) (a4:Int):Option (List Ab × AY):=
 req (((([]:List Ab).length:Int)+((a2).length:Int))*40≤140737488355328∧(([]:List Ab).length:Int)+((a2).length:Int)≤140737488355328)<|
 (GP a0 a1).bind fun v1=>
 (getI a0.ah v1).bind fun y2=>
 (Km a0 a2).bind fun v3=>
 AA (fun s:Int × Int × Ac × List Ab=>L2 a0 a3 y2 v3 s.1 s.2.1 s.2.2.1 s.2.2.2) (a4,0,a3.al,a2)
def Yw (a0:Ad) (a1:Ac) (a3:AY) (v2:Ac) (v3:List Ab):Option (List Ab × AY):=
 if a3.bf then
  some (v3,(⟨v2,true⟩:AY))
 else
  (L3 a0 a1 v3).bind fun v4=>
  (lW v4 v2).bind fun v5=>
  some (v3,(⟨v2,(!v5)⟩:AY))
def Nz (a0:Ad) (a1:Ac) (a3:AY) (v1:List (Ac)) (v6 v7:Int) (v8:Ac) (v9:List Ab):Option ((Int × Int × Ac × List Ab) ⊕ Option (List Ab × AY)):=
 if(decide (v7<(v1.length:Int)))then
  (getI v1 v7).bind fun y10=>
  if((v6==0)||(Op.bytesLess y10 v8||y10==v8))then
   some (.inl (v6,(IntKind.i64.wrap (v7+1)),v8,v9))
  else
   (Sc v9 ([(⟨3,y10,([]:Ac),0⟩:Ax)]:List Ax)).bind fun v11=>
   some (.inl ((IntKind.i64.wrap (v6-1)),(IntKind.i64.wrap (v7+1)),y10,v11.1))
 else
  some (.inr (Yw a0 a1 a3 v8 v9))
def YT (a0:Ad) (a1:Ac) (a2:List Ab) (a3:AY) (a4:Int):Option (List Ab × AY):=
 req (((([]:List Ab).length:Int)+((a2).length:Int))*40≤140737488355328∧(([]:List Ab).length:Int)+((a2).length:Int)≤140737488355328)<|
 (L3 a0 a1 a2).bind fun v1=>
 AA (fun s:Int × Int × Ac × List Ab=>Nz a0 a1 a3 v1 s.1 s.2.1 s.2.2.1 s.2.2.2) (a4,0,a3.al,a2)
def NJ (a0:AK) (a1:DQ):Option (AK × Bool):=
 (mH a0.ae).bind fun v1=>
 if(a1.ak==1)then
  (NL a0 a1.ax).bind fun v2=>
  some (v2.1,v2.2)
 else
  if((a1.ak==2)&&v1.1)then
   (getI a0.ae.aj 0).bind fun y3=>
   (Y6 y3 a0.ae.ab a0.ae.ao a0.cy a1.bz).bind fun v4=>
   some ((⟨(⟨a0.ae.ab,a0.ae.aj,a0.ae.bp,v4.1⟩:Ar),v4.2,(⟨([]:Ac),false⟩:AY)⟩:AK),true)
  else
   if((a1.ak==3)&&(!v1.2))then
    (getI a0.ae.aj 0).bind fun y5=>
    (YT y5 a0.ae.ab a0.ae.ao a0.bj a1.bz).bind fun v6=>
    some ((⟨(⟨a0.ae.ab,a0.ae.aj,a0.ae.bp,v6.1⟩:Ar),(⟨([]:Ac),false⟩:AY),v6.2⟩:AK),true)
   else
    some (a0,false)
def YZ (a0:AK) (a1:DQ):Option (AK × Bool × Bool):=
 (Vr a0 a1).bind fun v1=>
 if(!v1)then
  some ((⟨(⟨([]:Ac), [], [], []⟩:Ar),(⟨([]:Ac),false⟩:AY),(⟨([]:Ac),false⟩:AY)⟩:AK),false,false)
 else
  (mR a0).bind fun v2=>
  (NJ v2 a1).bind fun v3=>
  some (v3.1,v3.2,true)
def zpT (a0:AI) (a1:AK) (a2:Ar) (a3:List (Ac)):Option (Bool):=
 if a1.cy.bf then
  (getI a2.aj 0).bind fun y1=>
  (Kl y1 a2.ab a0).bind fun v2=>
  (Py a3 v2).bind fun v3=>
  some (!v3)
 else
  (getI a2.aj 0).bind fun y4=>
  (L0 y4 a0).bind fun v5=>
  if(Op.bytesLess v5.af a1.cy.al||v5.af==a1.cy.al)then
   (Kl y4 a2.ab a0).bind fun v6=>
   (Py a3 v6).bind fun v7=>
   some (!v7)
  else
   some false
def zsQ (a0:AK):Option (Bool × Bool):=
 (NI a0).bind fun v1=>
 if(!v1)then
  some (false,false)
 else
  (getI a0.ae.aj 0).bind fun y2=>
  (KS y2 a0.ae.ab a0.ae.ao).bind fun v3=>
  (PC y2 a0.ae.ao).bind fun v4=>
  (GN v4 (fun y0_=>zpT y0_ a0 a0.ae v3)).bind fun v5=>
  some ((!v5),true)
def znM (a0:AK) (y1:Ad) (v2:List (Ac)) (v3:List AI) (v4:Int):Option ((Int) ⊕ Option (Bool)):=
 if(decide (v4<(v3.length:Int)))then
  (getI v3 v4).bind fun y5=>
  if a0.cy.bf then
   (GP y1 a0.ae.ab).bind fun v6=>
   (getI y1.ah v6).bind fun y7=>
   (Ji y1 y7 y5).bind fun v8=>
   (PU v2 v8).bind fun v9=>
   if(decide (v9<0))then
    some (.inr (some false))
   else
    some (.inl (IntKind.i64.wrap (v4+1)))
  else
   (IK y1 y5).bind fun v10=>
   if(Op.bytesLess v10.af a0.cy.al||v10.af==a0.cy.al)then
    (GP y1 a0.ae.ab).bind fun v11=>
    (getI y1.ah v11).bind fun y12=>
    (Ji y1 y12 y5).bind fun v13=>
    (PU v2 v13).bind fun v14=>
    if(decide (v14<0))then
     some (.inr (some false))
    else
     some (.inl (IntKind.i64.wrap (v4+1)))
   else
    some (.inl (IntKind.i64.wrap (v4+1)))
 else
  some (.inr (some true))
def zqS (a0:AK):Option (Bool):=
 (getI a0.ae.aj 0).bind fun y1=>
 (L3 y1 a0.ae.ab a0.ae.ao).bind fun v2=>
 (Km y1 a0.ae.ao).bind fun v3=>
 AA (fun s:Int=>znM a0 y1 v2 v3 s) 0
def zsP (a0:AK):Option (Bool × Bool):=
 (PO a0).bind fun v1=>
 if(!v1)then
  some (false,false)
 else
  (zqS a0).bind fun v2=>
  some (v2,true)
def zoB (a0:Ac) (a1:AK):Option (Bool):=
 some (a1.bj.bf||(Op.bytesLess a0 a1.bj.al||a0==a1.bj.al))
def zqO (a0:AK):Option (Bool × Bool):=
 (NI a0).bind fun v1=>
 if(!v1)then
  some (false,false)
 else
  (getI a0.ae.aj 0).bind fun y2=>
  (KS y2 a0.ae.ab a0.ae.ao).bind fun v3=>
  (GN v3 (fun y0_=>zoB y0_ a0)).bind fun v4=>
  some ((!v4),true)
def znh (a0:AK) (v2:List (Ac)) (v3:Int):Option ((Int) ⊕ Option (Bool)):=
 if(decide (v3<(v2.length:Int)))then
  (getI v2 v3).bind fun y4=>
  if(a0.bj.bf||(Op.bytesLess y4 a0.bj.al||y4==a0.bj.al))then
   some (.inr (some false))
  else
   some (.inl (IntKind.i64.wrap (v3+1)))
 else
  some (.inr (some true))
def zqk (a0:AK):Option (Bool):=
 (getI a0.ae.aj 0).bind fun y1=>
 (L3 y1 a0.ae.ab a0.ae.ao).bind fun v2=>
 AA (fun s:Int=>znh a0 v2 s) 0
def zqL (a0:AK):Option (Bool × Bool):=
 (PO a0).bind fun v1=>
 if(!v1)then
  some (false,false)
 else
  (zqk a0).bind fun v2=>
  some (v2,true)
def zr3 (a0:Ar):Option (Bool × Bool):=
 (L5 a0).bind fun v1=>
 if(!v1)then
  some (false,false)
 else
  (Vd a0).bind fun v2=>
  some (v2,true)
def yJ:FS:=Eh 313 [.v .s, .v .s] (.v (.i .i64)) (fun x=>Ri x.1 x.2.1) fun x r _ h=>zjk x.1 x.2.1 r h
def zhV:FS:=Eh 319 [.v .s, .v (.i .u8)] (.v (.i .i64)) (fun x=>X2 x.1 x.2.1) fun x r _ h=>zhR x.1 x.2.1 r h
def zth:FS:=Eh 301 [.v .s, .v (.i .i64), .v (.i .i64)] (.tu (.cons (.v (.i .i64)) (.cons (.v .b) .nil))) (fun x=>Y3 x.1 x.2.1 x.2.2.1) fun x r _ h=>zs8 x.1 x.2.1 x.2.2.1 r h
def ztB:FS:=Eh 283 [.v (.i .i64)] (.v .s) (fun x=>mE x.1) fun x r _ h=>zty x.1 r h
def zsw:FS:=Eh 315 [.v .s, .v .s] (.v (.i .i64)) (fun x=>YU x.1 x.2.1) fun x r _ h=>zsY x.1 x.2.1 r h
def zs7:FS:=Eh 199 [.v (.l .s), .v .s] (.v .s) (fun x=>Y9 x.1 x.2.1) fun x r _ h=>zts x.1 x.2.1 r h
def zp7:FS:=Eh 314 [.v .s, .v (.i .i64)] (.v (.l .s)) (fun x=>lA x.1 x.2.1) fun x r _ h=>zpQ x.1 x.2.1 r h
def zfQ:FS:=Eh 285 [.v (.l (.st 0)), .v (.i .i64), .v (.l (.st 0))] (.v (.l (.st 0))) (fun x=>aG x.1 x.2.1 x.2.2.1) fun x r hp h=>zF6 (t:=27) (it:=3) (el:=143) (K:=3) (by kernel_rfl) (fun _=>by kernel_rfl) zCG h
def zng:FS:=At 129 [.rf (.st 1)] (.tu (.cons (.v (.i .i64)) (.cons (.v (.st 1)) .nil))) (fun x=>Pz x.1) [] [.inl]
def Ru:FS:=At 53 [.rf (.st 1), .v (.i .i64)] (.tu (.cons (.v (.i .i64)) (.cons (.v (.st 1)) .nil))) (fun x=>Fy x.1 x.2.1) [zng] [.inl]
def Vt:FS:=At 121 [.rf (.st 1), .v (.l .s)] (.tu (.cons (.v .s) (.cons (.v (.st 1)) .nil))) (fun x=>KV x.1 x.2.1) [Ru] []
def jV:FS:=At 48 [.rf (.st 1), .v (.i .i64)] (.tu (.cons (.v .b) (.cons (.v (.st 1)) .nil))) (fun x=>II x.1 x.2.1) [Ru] []
def yU:FS:=At 45 [.rf (.st 1)] (.tu (.cons (.v (.st 3)) (.cons (.v (.st 1)) .nil))) (fun x=>Jh x.1) [Vt,Ru,jV] [.sp [.i .i64, .l (.i .u8), .i .i64, .i .u64, .l (.st 2)], .inl, .pt]
def mO:FS:=At 167 [.v (.st 3)] (.v (.st 3)) (fun x=>Sd x.1) [] []
def R7:FS:=At 158 [.v (.st 3), .v .s] (.v (.i .i64)) (fun x=>GP x.1 x.2.1) [] [.sp [.i .i64]]
def mM:FS:=At 85 [.v (.st 3), .v .s, .v (.i .i64)] (.v (.st 3)) (fun x=>PV x.1 x.2.1 x.2.2.1) [mO,R7] []
def zn4:FS:=At 212 [.rf (.st 1), .v (.st 3)] (.tu (.cons (.v (.st 4)) (.cons (.v (.st 1)) .nil))) (fun x=>Vf x.1 x.2.1) [Vt] [.sp [.l (.i .u8), .i .i64, .i .u64, .l .s]]
def zte:FS:=At 268 [.v (.l .s), .v .s] (.v .s) (fun x=>lX x.1 x.2.1) [] [.sp [.s, .i .i64], .inl]
def lI:FS:=At 206 [.v (.st 3), .v (.st 4)] (.v (.st 0)) (fun x=>IK x.1 x.2.1) [zte] []
def zpj:FS:=At 123 [.v (.l (.st 0)), .v (.st 0)] (.v (.l (.st 0))) (fun x=>G8 x.1 x.2.1) [] [.sp [.i .i64]]
def ztx:FS:=At 240 [.v .s, .v (.i .u8)] (.v (.l .s)) (fun x=>PS x.1 x.2.1) [] [.sp [.l .s, .i .i64, .i .i64], .inl]
def L9:FS:=At 59 [.v (.i .i64), .v (.i .i64), .v (.i .i64)] (.v .b) (fun x=>F9 x.1 x.2.1 x.2.2.1) [] []
def lV:FS:=At 270 [.v .s, .v .s] (.v .b) (fun x=>Sa x.1 x.2.1) [] [.sp [.i .i64], .sp [.b, .i .i64]]
def zrv:FS:=At 226 [.v .s] (.v .b) (fun x=>RY x.1) [L9,lV] []
def ztg:FS:=At 146 [.v (.st 3), .v (.st 4)] (.v .b) (fun x=>NG x.1 x.2.1) [zrv] [.sp [.i .i64]]
def ztr:FS:=At 168 [.v (.st 3), .v (.st 0)] (.tu (.cons (.v (.st 4)) (.cons (.v .b) .nil))) (fun x=>Zc x.1 x.2.1) [ztx,ztg,lI] []
def Ze:FS:=At 87 [.v (.st 3), .v (.l (.st 0))] (.v (.l (.st 4))) (fun x=>Km x.1 x.2.1) [ztr] [.sp [.l (.st 4), .i .i64], .inl]
def zM:FS:=At 207 [.v (.st 3), .v (.st 2), .v (.st 4)] (.v .s) (fun x=>Ji x.1 x.2.1 x.2.2.1) [] []
def znV:FS:=At 213 [.rf (.st 1)] (.tu (.cons (.v .s) (.cons (.v (.st 1)) .nil))) (fun x=>YC x.1) [Vt] []
def zoa:FS:=At 214 [.rf (.st 1)] (.tu (.cons (.v .s) (.cons (.v (.st 1)) .nil))) (fun x=>YD x.1) [Vt] []
def zmG:FS:=At 122 [.rf (.st 1), .v (.st 3)] (.tu (.cons (.v (.l (.st 0))) (.cons (.v (.st 1)) .nil))) (fun x=>Yt x.1 x.2.1) [Ru,jV,znV,zoa,zpj,Ze,zn4,zM,lI] [.sp [.l (.st 0), .i .i64, .l (.i .u8), .i .i64, .i .u64], .sp [.i .i64, .l (.i .u8), .i .i64, .i .u64, .l (.st 0)], .inl, .sp [.i .i64, .l (.i .u8), .i .i64, .i .u64, .l (.st 0)], .inl, .inl]
def zD:FS:=At 57 [.v .s, .v (.i .i64)] (.v .b) (fun x=>RB x.1 x.2.1) [] [.sp [.i .i64]]
def zxf:FS:=At 135 [.v (.l .s), .v .s] (.v (.i .i64)) (fun x=>PU x.1 x.2.1) [] [.sp [.i .i64]]
def ztl:FS:=At 58 [.v (.l .s)] (.v .b) (fun x=>Y7 x.1) [L9,zD,zxf] [.sp [.i .i64]]
def kS:FS:=At 11 [.v (.st 3)] (.v .b) (fun x=>KU x.1) [zD,ztl,L9] [.sp [.i .i64]]
def zJ:FS:=At 84 [.v (.st 3), .v .s, .v (.i .i64)] (.v .b) (fun x=>NH x.1 x.2.1 x.2.2.1) [kS,R7,L9] []
def zwu:FS:=At 209 [.v .s] (.v .b) (fun x=>Sl x.1) [L9,lV] []
def zwT:FS:=At 286 [.v .s] (.v .b) (fun x=>VS x.1) [lV] []
def ztt:FS:=At 239 [.v .s, .v .s, .v .b] (.v .b) (fun x=>Zd x.1 x.2.1 x.2.2.1) [zwu,zwT] []
def zr5:FS:=At 162 [.v (.l (.st 0))] (.v .b) (fun x=>YV x.1) [ztt] [.sp [.i .i64]]
def mJ:FS:=At 76 [.v (.l (.st 0))] (.v .b) (fun x=>Kn x.1) [zr5] [.sp [.i .i64]]
def zoR:FS:=At 159 [.v (.st 3), .v .s, .v (.i .i64)] (.v (.l (.st 3))) (fun x=>VM x.1 x.2.1 x.2.2.1) [mO,R7,mM] [.sp [.i .i64, .l (.st 3)], .inl]
def zw5:FS:=At 253 [.v (.l (.i .i64))] (.v (.l (.i .i64))) (fun x=>Zr x.1) [] []
def zuC:FS:=At 185 [.v (.st 5)] (.v (.st 5)) (fun x=>Se x.1) [zw5,mO] [.sp [.i .i64, .l (.st 3)]]
def zsh:FS:=At 248 [.v (.st 3), .v .s, .v (.i .i64), .v (.i .i64), .v (.l (.st 0))] (.tu (.cons (.v (.st 5)) (.cons (.v .b) .nil))) (fun x=>RR x.1 x.2.1 x.2.2.1 x.2.2.2.1 x.2.2.2.2.1) [zJ,L9,mJ,zoR,zuC] []
def ztb:FS:=At 249 [.v (.i .i64), .v (.i .i64)] (.v (.i .i64)) (fun x=>Y1 x.1 x.2.1) [] []
def zq4:FS:=At 254 [.v (.st 5)] (.v (.l (.i .i64))) (fun x=>L6 x.1) [R7] [.sp [.l (.i .i64), .i .i64]]
def zwB:FS:=At 273 [.v (.l (.i .i64)), .v (.i .i64)] (.v .b) (fun x=>VU x.1 x.2.1) [] [.sp [.i .i64]]
def ztd:FS:=At 211 [.v (.st 5)] (.v (.i .i64)) (fun x=>VG x.1) [zq4,zwB] []
def zqR:FS:=At 250 [.v (.st 3), .v .s, .v (.l (.st 0))] (.v (.l .s)) (fun x=>R4 x.1 x.2.1 x.2.2.1) [Ze,R7,zM] [.sp [.l .s, .i .i64]]
def zl6:FS:=At 179 [.rf (.st 1)] (.tu (.cons (.v (.st 5)) (.cons (.v (.st 1)) .nil))) (fun x=>PB x.1) [yU,Ru,mM,zmG,Ze,zsh,ztd,zqR,jV,zpj,ztb,lI] [.sp [.l (.i .u8), .i .i64, .i .u64, .s, .l .s, .l (.st 2)], .sp [.l (.st 0), .i .i64], .sp [.i .i64, .l (.i .u8), .i .i64, .i .u64, .l (.i .i64)], .inl, .sp [.i .i64, .l (.i .u8), .i .i64, .i .u64, .l (.st 0)], .inl, .inl, .inl]
def zj9:FS:=At 157 [.rf (.st 1)] (.tu (.cons (.v (.st 5)) (.cons (.v (.st 1)) .nil))) (fun x=>Yb x.1) [zl6,Ru,yU,Vt] [.inl]
def znj:FS:=At 73 [.v (.l (.i .u8))] (.v (.st 5)) (fun x=>kA x.1) [zj9] []
def zog:FS:=At 18 [.v (.l (.i .u8))] (.v (.st 5)) (fun x=>Yp x.1) [znj] []
def zot:FS:=At 160 [.v (.st 3), .v (.st 3)] (.v .b) (fun x=>Yx x.1 x.2.1) [] [.sp [.i .i64], .sp [.i .i64]]
def zup:FS:=At 238 [.v (.i .i64), .v (.i .i64)] (.v (.i .i64)) (fun x=>Zk x.1 x.2.1) [] []
def zvi:FS:=At 161 [.v (.st 3), .v (.st 3)] (.v (.i .i64)) (fun x=>Zh x.1 x.2.1) [zup] [.sp [.i .i64, .i .i64]]
def ztq:FS:=At 74 [.v (.st 5)] (.v .b) (fun x=>Sb x.1) [L9,kS,R7,zoR,zot,zvi] [.sp [.i .i64]]
def zv6:FS:=At 75 [.v (.l (.i .i64)), .v (.i .i64), .v (.i .i64)] (.v .b) (fun x=>Zp x.1 x.2.1 x.2.2.1) [L9] [.sp [.i .i64]]
def zqX:FS:=At 19 [.v (.st 5)] (.v .b) (fun x=>VE x.1) [ztq,L9,zv6,mJ] []
def Jk:FS:=At 60 [.v (.i .i64), .v (.i .i64), .v (.i .i64)] (.v .b) (fun x=>GM x.1 x.2.1 x.2.2.1) [] []
def zq3:FS:=At 229 [.v (.l (.st 0))] (.v (.l .s)) (fun x=>YJ x.1) [] [.sp [.i .i64, .l .s]]
def zmA:FS:=At 296 [.v (.i .u8)] (.v .b) (fun x=>jM x.1) [] []
def znQ:FS:=At 297 [.v .s, .v (.i .u8)] (.v (.i .i64)) (fun x=>jQ x.1 x.2.1) [zhV] []
def lL:FS:=At 269 [.v .s, .v .s] (.v .b) (fun x=>RW x.1 x.2.1) [zmA,znQ] [.sp [.i .i64]]
def zU:FS:=At 208 [.v .s] (.v .b) (fun x=>VJ x.1) [Jk,lL] []
def zqZ:FS:=At 228 [.v (.l .s)] (.v .b) (fun x=>YL x.1) [zU] [.sp [.i .i64]]
def yE:FS:=Eh 232 [.v (.l (.st 0)), .fn [.st 0] .b] (.v (.i .i64)) (fun x=>Fz x.1 (fun y=>x.2.1.φ (y,()))) fun x r hp h=>Gc (f:=232) (t:=Tu 3) (by kernel_rfl) (by kernel_rfl) (aZ (av:=(BB tab.av (.st 0))) (cn:=3) (fun _=>⟨_,rfl,rfl⟩) h (fun y b hb=>hp.2.1 (y,()) b hb))
def yF:FS:=Eh 149 [.v (.l (.st 0)), .fn [.st 0] .b] (.v .b) (fun x=>GN x.1 (fun y=>x.2.1.φ (y,()))) fun x r hp h=>Gc (f:=149) (t:=Ts 232) (by kernel_rfl) (by kernel_rfl) (aW h fun r hr=>yE.ok x r hp hr)
def zti:FS:=At 279 [.v .s] (.v .b) (fun x=>Zf x.1) [lL] []
def zsR:FS:=At 231 [.v .s, .v .b] (.v .b) (fun x=>YW x.1 x.2.1) [zti] []
def zoj:FS:=At 230 [.v (.st 0)] (.v .b) (fun x=>Yo x.1) [zsR] []
def znf:FS:=Kf zoj fun _=>by kernel_rfl
def zpz:FS:=At 148 [.v (.l (.st 0))] (.v .b) (fun x=>Yu x.1) [zq3,zqZ,yF,znf] []
def zr8:FS:=At 150 [.v (.st 0)] (.v .b) (fun x=>Y0 x.1) [] []
def zqV:FS:=Kf zr8 fun _=>by kernel_rfl
def mN:FS:=At 68 [.v (.l (.st 0))] (.v .b) (fun x=>Sh x.1) [zpz,yF,zqV] []
def zff:FS:=Eh 163 [.v (.l (.st 3)), .fn [.st 3] .b] (.v (.i .i64)) (fun x=>Fz x.1 (fun y=>x.2.1.φ (y,()))) fun x r hp h=>Gc (f:=163) (t:=Tu 3) (by kernel_rfl) (by kernel_rfl) (aZ (av:=(BB tab.av (.st 3))) (cn:=3) (fun _=>⟨_,rfl,rfl⟩) h (fun y b hb=>hp.2.1 (y,()) b hb))
def zeB:FS:=Eh 77 [.v (.l (.st 3)), .fn [.st 3] .b] (.v .b) (fun x=>GN x.1 (fun y=>x.2.1.φ (y,()))) fun x r hp h=>Gc (f:=77) (t:=Ts 163) (by kernel_rfl) (by kernel_rfl) (aW h fun r hr=>zff.ok x r hp hr)
def zp2:FS:=At 219 [.v .s, .v (.i .i64)] (.v .b) (fun x=>RA x.1 x.2.1) [Jk] [.sp [.i .i64]]
def zio:FS:=At 200 [.v (.l .s), .v .s] (.v (.i .i64)) (fun x=>X5 x.1 x.2.1) [] [.sp [.i .i64]]
def yG:FS:=At 107 [.v (.l .s), .v .s] (.v .b) (fun x=>Py x.1 x.2.1) [zio] []
def zR:FS:=At 55 [.v (.i .i64)] (.v .b) (fun x=>R9 x.1) [Jk] []
def zqK:FS:=At 130 [.v (.st 3)] (.v .b) (fun x=>YG x.1) [zp2,Jk,zR,yG] [.sp [.i .i64], .sp [.i .i64]]
def zf3:FS:=Eh 220 [.v (.l (.st 2)), .fn [.st 2] .b] (.v (.i .i64)) (fun x=>Fz x.1 (fun y=>x.2.1.φ (y,()))) fun x r hp h=>Gc (f:=220) (t:=Tu 3) (by kernel_rfl) (by kernel_rfl) (aZ (av:=(BB tab.av (.st 2))) (cn:=3) (fun _=>⟨_,rfl,rfl⟩) h (fun y b hb=>hp.2.1 (y,()) b hb))
def zkR:FS:=At 221 [.v (.st 2), .rf .s] (.v .b) (fun x=>jG x.1 x.2.1) [] []
def zkI:FS:=Kf zkR fun _=>by kernel_rfl
def jN:FS:=At 131 [.v (.st 3), .v .s] (.v (.i .i64)) (fun x=>Q8 x.1 x.2.1) [zf3,zkI] []
def mQ:FS:=At 54 [.v (.st 3), .v .s] (.v .b) (fun x=>Sf x.1 x.2.1) [zqK,jN] []
def zpe:FS:=At 78 [.v (.st 3), .rf (.st 5)] (.v .b) (fun x=>kM x.1 x.2.1) [mQ] []
def zn7:FS:=Kf zpe fun _=>by kernel_rfl
def zjb:FS:=Eh 164 [.v (.l (.i .i64)), .fn [.i .i64] .b] (.v (.i .i64)) (fun x=>Fz x.1 (fun y=>x.2.1.φ (y,()))) fun x r hp h=>Gc (f:=164) (t:=bK) (by kernel_rfl) (by kernel_rfl) (zy4 (av:=(BB tab.av (.i .i64))) (fun _=>rfl) h (fun y b hb=>hp.2.1 (y,()) b hb))
def zhU:FS:=Eh 79 [.v (.l (.i .i64)), .fn [.i .i64] .b] (.v .b) (fun x=>GN x.1 (fun y=>x.2.1.φ (y,()))) fun x r hp h=>Gc (f:=79) (t:=Ts 164) (by kernel_rfl) (by kernel_rfl) (aW h fun r hr=>zjb.ok x r hp hr)
def zoz:FS:=At 80 [.v (.i .i64), .rf (.st 5)] (.v .b) (fun x=>kH x.1 x.2.1) [Jk] []
def zor:FS:=Kf zoz fun _=>by kernel_rfl
def kJ:FS:=At 132 [.v (.st 3), .v .s] (.v (.st 2)) (fun x=>Ny x.1 x.2.1) [jN] []
def Yc:FS:=At 82 [.v (.st 5), .v (.st 3)] (.v (.i .i64)) (fun x=>Kk x.1 x.2.1) [kJ] []
def yI:FS:=Eh 222 [.v (.l .s)] (.v (.l .s)) (fun x=>U6 x.1) fun x r hp h=>Gc (f:=222) (t:=Th 16 1) (by kernel_rfl) (by kernel_rfl) (ZT (bytes:=16) (sz:=1) (av:=(BB tab.av .s)) (fun x=>⟨K3 _ x,NN (by kernel_rfl) x⟩) h)
def zg2:FS:=Eh 223 [.v (.l (.st 2))] (.v (.l (.st 2))) (fun x=>iZ x.1) fun x r hp h=>Gc (f:=223) (t:=Th 32 3) (by kernel_rfl) (by kernel_rfl) (ZT (bytes:=32) (sz:=3) (av:=(BB tab.av (.st 2))) (fun x=>⟨K3 _ x,NN (by kernel_rfl) x⟩) h)
def kP:FS:=At 133 [.v (.st 3)] (.v (.st 3)) (fun x=>R2 x.1) [yI,zg2] []
def zlb:FS:=At 134 [.v (.st 3), .v .s, .v (.i .i64)] (.v (.st 3)) (fun x=>Vc x.1 x.2.1 x.2.2.1) [kP,jN] []
def zB:FS:=At 56 [.v (.st 3), .v .s, .v (.i .i64)] (.v (.l (.st 3))) (fun x=>Vl x.1 x.2.1 x.2.2.1) [kJ,kP,zlb] [.sp [.i .i64, .l (.st 3)], .inl]
def zcl:FS:=At 81 [.v (.l (.st 3)), .v (.l (.st 3)), .fn [.st 3, .st 3] .b] (.v .b) (fun x=>X1 x.1 x.2.1 (fun y0 y1=>x.2.2.1.φ (y0,y1,()))) [] [.sp [.i .i64]]
def zin:FS:=At 165 [.v (.l .s), .v (.l .s)] (.v .b) (fun x=>X4 x.1 x.2.1) [] [.sp [.i .i64]]
def zgV:FS:=At 166 [.v (.l (.st 2)), .v (.l (.st 2))] (.v .b) (fun x=>X7 x.1 x.2.1) [] [.sp [.i .i64]]
def zqY:FS:=At 83 [.v (.st 3), .v (.st 3)] (.v .b) (fun x=>NC x.1 x.2.1) [zin,zgV] []
def zpy:FS:=Kf zqY fun _=>by kernel_rfl
def YF:FS:=At 20 [.v (.st 5)] (.v .b) (fun x=>L5 x.1) [Jk,mN,zeB,zn7,zhU,zor,Yc,zB,zcl,zpy] []
def zrL:FS:=At 21 [.v (.st 3), .v .s, .v (.i .i64)] (.tu (.cons (.v (.st 3)) (.cons (.v .b) .nil))) (fun x=>Vy x.1 x.2.1 x.2.2.1) [zJ,mM] []
def zwQ:FS:=At 10 [.v (.st 3), .v .s, .v (.i .i64)] (.tu (.cons (.v (.l (.st 3))) (.cons (.v .b) .nil))) (fun x=>nA x.1 x.2.1 x.2.2.1) [mQ,zR,zB] []
def X6:FS:=Eh 86 [.v (.l (.st 0))] (.v (.l (.st 0))) (fun x=>L1 x.1) fun x r hp h=>Gc (f:=86) (t:=Th 40 3) (by kernel_rfl) (by kernel_rfl) (ZT (bytes:=40) (sz:=3) (av:=(BB tab.av (.st 0))) (fun x=>⟨K3 _ x,NN (by kernel_rfl) x⟩) h)
def zrS:FS:=At 22 [.v (.st 3), .v .s, .v (.i .i64), .v (.i .i64), .v (.l (.st 0))] (.tu (.cons (.v (.st 5)) (.cons (.v .b) .nil))) (fun x=>YP x.1 x.2.1 x.2.2.1 x.2.2.2.1 x.2.2.2.2.1) [zwQ,Jk,mN,X6] []
def zu2:FS:=At 23 [.v (.st 3), .v (.l (.st 0))] (.tu (.cons (.v (.l (.st 4))) (.cons (.v .b) .nil))) (fun x=>Zj x.1 x.2.1) [kS,mJ,Ze] []
def Vm:FS:=At 241 [.v (.st 5), .v (.i .i64)] (.v (.st 3)) (fun x=>GO x.1 x.2.1) [] []
def zod:FS:=At 169 [.v (.st 5)] (.v (.i .i64)) (fun x=>YB x.1) [Vm,Yc] [.sp [.i .i64, .i .i64], .inl]
def yT:FS:=At 201 [.v (.st 3), .v .s] (.v .s) (fun x=>U9 x.1 x.2.1) [] []
def zhS:FS:=At 312 [.v .s, .v .s] (.v .b) (fun x=>X3 x.1 x.2.1) [] []
def zhQ:FS:=At 291 [.v .s, .v .s] (.tu (.cons (.v .s) (.cons (.v .b) .nil))) (fun x=>iY x.1 x.2.1) [zhS] []
def yY:FS:=At 261 [.v .s, .v .s] (.tu (.cons (.v .s) (.cons (.v .b) .nil))) (fun x=>Ve x.1 x.2.1) [zhQ] []
def zka:FS:=At 292 [.v .s, .v .s] (.tu (.cons (.v .s) (.cons (.v .s) (.cons (.v .b) .nil)))) (fun x=>X9 x.1 x.2.1) [yJ] []
def zvt:FS:=At 262 [.v .s, .v .s] (.tu (.cons (.v .s) (.cons (.v .s) (.cons (.v .b) .nil)))) (fun x=>R6 x.1 x.2.1) [zka] []
def zT:FS:=At 263 [.v .s] (.v .b) (fun x=>R8 x.1) [Jk,lL] []
def zkt:FS:=At 196 [.v (.st 3), .v .s, .v .s] (.tu (.cons (.v .s) (.cons (.v .s) (.cons (.v .b) .nil)))) (fun x=>X8 x.1 x.2.1 x.2.2.1) [yT,yY,zvt,zT] []
def Ym:FS:=At 102 [.v (.st 3), .v .s, .v (.l (.st 0))] (.v (.l .s)) (fun x=>KS x.1 x.2.1 x.2.2.1) [zkt] [.sp [.i .i64, .l .s], .inl]
def zsn:FS:=At 316 [.v .s, .v .s] (.v (.i .i64)) (fun x=>YX x.1 x.2.1) [yJ] []
def zox:FS:=At 293 [.v .s, .v .s, .v (.i .i64), .v (.i .i64)] (.v (.l .s)) (fun x=>kG x.1 x.2.1 x.2.2.1 x.2.2.2.1) [zp7,zsn,zsw] [.pt, .sp [.s, .i .i64, .l .s]]
def zsH:FS:=At 264 [.v .s, .v .s] (.v (.l .s)) (fun x=>Vu x.1 x.2.1) [zox] []
def yH:FS:=Eh 202 [.v (.l .s), .fn [.s] .b] (.v (.i .i64)) (fun x=>Fz x.1 (fun y=>x.2.1.φ (y,()))) fun x r hp h=>Gc (f:=202) (t:=bK) (by kernel_rfl) (by kernel_rfl) (zy4 (av:=(BB tab.av .s)) (fun _=>rfl) h (fun y b hb=>hp.2.1 (y,()) b hb))
def zf6:FS:=Eh 109 [.v (.l .s), .fn [.s] .b] (.v .b) (fun x=>GN x.1 (fun y=>x.2.1.φ (y,()))) fun x r hp h=>Gc (f:=109) (t:=Ts 202) (by kernel_rfl) (by kernel_rfl) (aW h fun r hr=>yH.ok x r hp hr)
def zl4:FS:=At 278 [.v .s] (.v .b) (fun x=>Yg x.1) [zT] []
def zln:FS:=Kf zl4 fun _=>by kernel_rfl
def zA:FS:=At 227 [.v (.st 3), .v (.st 4)] (.v .b) (fun x=>NB x.1 x.2.1) [zf6,zln] []
def Yk:FS:=At 106 [.v (.st 3), .v (.st 4)] (.v (.st 0)) (fun x=>L0 x.1 x.2.1) [zs7] []
def zl5:FS:=At 198 [.v (.st 3), .v (.st 0)] (.tu (.cons (.v (.st 4)) (.cons (.v .b) .nil))) (fun x=>Yf x.1 x.2.1) [yY,zsH,zA,Yk] []
end Go.Proofs.YtbmbkgalkfmjdaaGreatDoor
end
