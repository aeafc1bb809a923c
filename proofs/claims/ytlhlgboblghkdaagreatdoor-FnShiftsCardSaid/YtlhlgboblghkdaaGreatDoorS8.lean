/- Parts of a proof, joined: QM, QF1, QF2. -/
import Derived.Test.YtlhlgboblghkdaaGreatDoorS7
set_option linter.unusedVariables false
set_option linter.unusedSimpArgs false
noncomputable section
namespace Go.Proofs.YtlhlgboblghkdaaGreatDoor
open Go.RowKit
set_option maxRecDepth 100000
set_option maxHeartbeats 4000000
abbrev Ab:=List UInt8
def Od (a0:An):Option (Int × An):=
 if(decide (a0.bf<(a0.ar.length:Int)))then
  (getI a0.ar a0.bf).bind fun y1=>
  if(decide ((IntKind.i64.wrap (a0.bf+1))≤(a0.ar.length:Int)))then
   some ((IntKind.i64.wrap y1),(⟨a0.ar,(IntKind.i64.wrap (a0.bf+1)),(IntKind.u64.wrap ((IntKind.u64.wrap ((IntKind.u64.wrap (a0.au*6364136223846793005))+(IntKind.u64.wrap (IntKind.i64.wrap y1))))+1442695040888963407))⟩:An))
  else
   some ((IntKind.i64.wrap (IntKind.u64.wrap ((BitVec.ofInt (IntKind.bits .u64) (Int.fdiv (IntKind.u64.wrap ((IntKind.u64.wrap ((IntKind.u64.wrap (a0.au*6364136223846793005))+(IntKind.u64.wrap (IntKind.i64.wrap y1))))+1442695040888963407)) (2^(min ((40:Int)).toNat (IntKind.bits .u64))))&&&BitVec.ofInt (IntKind.bits .u64) 255).toNat:Int))),(⟨a0.ar,(IntKind.i64.wrap (a0.bf+1)),(IntKind.u64.wrap ((IntKind.u64.wrap ((IntKind.u64.wrap (a0.au*6364136223846793005))+(IntKind.u64.wrap (IntKind.i64.wrap y1))))+1442695040888963407))⟩:An))
 else
  if(decide ((IntKind.i64.wrap (a0.bf+1))≤(a0.ar.length:Int)))then
   some (0,(⟨a0.ar,(IntKind.i64.wrap (a0.bf+1)),(IntKind.u64.wrap ((IntKind.u64.wrap ((IntKind.u64.wrap (a0.au*6364136223846793005))+(IntKind.u64.wrap 0)))+1442695040888963407))⟩:An))
  else
   some ((IntKind.i64.wrap (IntKind.u64.wrap ((BitVec.ofInt (IntKind.bits .u64) (Int.fdiv (IntKind.u64.wrap ((IntKind.u64.wrap ((IntKind.u64.wrap (a0.au*6364136223846793005))+(IntKind.u64.wrap 0)))+1442695040888963407)) (2^(min ((40:Int)).toNat (IntKind.bits .u64))))&&&BitVec.ofInt (IntKind.bits .u64) 255).toNat:Int))),(⟨a0.ar,(IntKind.i64.wrap (a0.bf+1)),(IntKind.u64.wrap ((IntKind.u64.wrap ((IntKind.u64.wrap (a0.au*6364136223846793005))+(IntKind.u64.wrap 0)))+1442695040888963407))⟩:An))
def Cv (a0:An) (a1:Int):Option (Int × An):=
 if(decide (a1≤1))then
  some (0,a0)
 else
  (Od a0).bind fun v1=>
  if(decide (a1>200))then
   (Od v1.2).bind fun v2=>
   req (a1≠0)<|
   some ((Int.tmod (IntKind.i64.wrap ((IntKind.i64.wrap (v1.1*256))+v2.1)) a1),(⟨v2.2.ar,v2.2.bf,v2.2.au⟩:An))
  else
   req (a1≠0)<|
   some ((Int.tmod v1.1 a1),(⟨v1.2.ar,v1.2.bf,v1.2.au⟩:An))
def Gn (a0:An) (a1:Int):Option (Bool × An):=
 (Cv a0 a1).bind fun v1=>
 some ((v1.1==0),v1.2)
def F3 (a0:An) (a1:List (Ab)):Option (Ab × An):=
 (Cv a0 (a1.length:Int)).bind fun v1=>
 (getI a1 v1.1).bind fun y2=>
 some (y2,v1.2)
def Mj (v2:Int × An) (v3:Int) (v7:List Au) (y8:Ab) (v9:List Int) (v10 v11:Int) (v12:Bool):Option ((Int × List Int × Int × Int × List Au) ⊕ Option (Ad × An)):=
 if v12 then
  (Cv (⟨v9,v10,v11⟩:An) (IntKind.i64.wrap (((A7 [([107]:Ab),([97]:Ab),([98]:Ab),([99,99]:Ab)] 0 (IntKind.i64.wrap ((2:Int)+v2.1))).length:Int)-1))).bind fun v13=>
  (Cv v13.2 4).bind fun v14=>
  req ((((v7).length:Int)+(([(⟨y8,(IntKind.i64.wrap ((1:Int)+v13.1)),v14.1⟩:Au)]:List Au).length:Int))*32≤140737488355328∧((v7).length:Int)+(([(⟨y8,(IntKind.i64.wrap ((1:Int)+v13.1)),v14.1⟩:Au)]:List Au).length:Int)≤140737488355328)<|
  some (.inl ((IntKind.i64.wrap (v3+1)),v14.2.ar,v14.2.bf,v14.2.au,(v7++ [(⟨y8,(IntKind.i64.wrap ((1:Int)+v13.1)),v14.1⟩:Au)])))
 else
  some (.inl ((IntKind.i64.wrap (v3+1)),v9,v10,v11,v7))
def dS (v1:Ab × An) (v2:Int × An) (v3:Int) (v4:List Int) (v5 v6:Int) (v7:List Au):Option ((Int × List Int × Int × Int × List Au) ⊕ Option (Ad × An)):=
 if(decide (v3<([([105]:Ab),([106]:Ab),([109]:Ab)].length:Int)))then
  (getI [([105]:Ab),([106]:Ab),([109]:Ab)] v3).bind fun y8=>
  (Gn (⟨v4,v5,v6⟩:An) 3).bind fun v15=>
  if(!v15.1)then
   Mj v2 v3 v7 y8 v15.2.ar v15.2.bf v15.2.au true
  else
   if(y8==([105]:Ab))then
    (Gn v15.2 8).bind fun v16=>
    Mj v2 v3 v7 y8 v16.2.ar v16.2.bf v16.2.au (!v16.1)
   else
    Mj v2 v3 v7 y8 v15.2.ar v15.2.bf v15.2.au false
 else
  some (.inr (some ((⟨v1.1,(A7 [([107]:Ab),([97]:Ab),([98]:Ab),([99,99]:Ab)] 0 (IntKind.i64.wrap ((2:Int)+v2.1))),v7⟩:Ad),(⟨v4,v5,v6⟩:An))))
def HD (a0:An):Option (Ad × An):=
 (F3 a0 ([([116]:Ab),([117]:Ab)]:List (Ab))).bind fun v1=>
 (Cv v1.2 3).bind fun v2=>
 req (0≤(0:Int)∧(0:Int)≤(IntKind.i64.wrap ((2:Int)+v2.1))∧(IntKind.i64.wrap ((2:Int)+v2.1))≤(([([107]:Ab),([97]:Ab),([98]:Ab),([99,99]:Ab)]:List (Ab)).length:Int))<|
 req (((([]:List (Ab)).length:Int)+(((A7 [([107]:Ab),([97]:Ab),([98]:Ab),([99,99]:Ab)] 0 (IntKind.i64.wrap ((2:Int)+v2.1)))).length:Int))*16≤140737488355328∧(([]:List (Ab)).length:Int)+(((A7 [([107]:Ab),([97]:Ab),([98]:Ab),([99,99]:Ab)] 0 (IntKind.i64.wrap ((2:Int)+v2.1)))).length:Int)≤140737488355328)<|
 AA (fun s:Int × List Int × Int × Int × List Au=>dS v1 v2 s.1 s.2.1 s.2.2.1 s.2.2.2.1 s.2.2.2.2) (0,v2.2.ar,v2.2.bf,v2.2.au, [])
def Qx (a0:Ad):Option (Ad):=
 req (((([]:List (Ab)).length:Int)+((a0.al).length:Int))*16≤140737488355328∧(([]:List (Ab)).length:Int)+((a0.al).length:Int)≤140737488355328)<|
 req (((([]:List Au).length:Int)+((a0.ae).length:Int))*32≤140737488355328∧(([]:List Au).length:Int)+((a0.ae).length:Int)≤140737488355328)<|
 some a0
def fQ (a0:Ad) (a1:Ab) (v1:Int):Option ((Int) ⊕ Option (Int)):=
 if(decide (v1<(a0.ae.length:Int)))then
  (getI a0.ae v1).bind fun y2=>
  if(y2.ab==a1)then
   some (.inr (some v1))
  else
   some (.inl (IntKind.i64.wrap (v1+1)))
 else
  some (.inr (some (-1)))
def HE (a0:Ad) (a1:Ab):Option (Int):=
 AA (fun s:Int=>fQ a0 a1 s) 0
def Qw (a0:Ad) (a1:Ab) (a2:Int):Option (Ad):=
 (Qx a0).bind fun v1=>
 (HE a0 a1).bind fun v2=>
 (getI v1.ae v2).bind fun y3=>
 some (⟨v1.ab,v1.al,(v1.ae.set (v2).toNat {y3 with ak:=a2})⟩:Ad)
def sD (a1:Ad) (v2:List Int) (v3 v4:Int) (v5:List (Ab)):Option ((List Int × Int × Int × List (Ab)) ⊕ Option (AI × An)):=
 if(decide ((v5.length:Int)<(a1.al.length:Int)))then
  (F3 (⟨v2,v3,v4⟩:An) ([([120]:Ab),([121]:Ab),([120]:Ab),([48]:Ab),([97,98,99]:Ab)]:List (Ab))).bind fun v6=>
  req ((((v5).length:Int)+(([v6.1]:List (Ab)).length:Int))*16≤140737488355328∧((v5).length:Int)+(([v6.1]:List (Ab)).length:Int)≤140737488355328)<|
  some (.inl (v6.2.ar,v6.2.bf,v6.2.au,(v5++ [v6.1])))
 else
  some (.inr (some ((⟨v5⟩:AI),(⟨v2,v3,v4⟩:An))))
def Mn (a0:An) (a1:Ad):Option (AI × An):=
 (F3 a0 ([([49]:Ab),([50]:Ab),([51]:Ab),([97]:Ab),([122,122]:Ab),([97,98,99]:Ab)]:List (Ab))).bind fun v1=>
 AA (fun s:List Int × Int × Int × List (Ab)=>sD a1 s.1 s.2.1 s.2.2.1 s.2.2.2) (v1.2.ar,v1.2.bf,v1.2.au, [v1.1])
def Qh (a0:List (Ab)) (a1 v1:Ab) (v2:Int):Option ((Ab × Int) ⊕ Option (Ab)):=
 if(decide (v2<(a0.length:Int)))then
  (getI a0 v2).bind fun y3=>
  if(decide (v2>0))then
   req ((v1).length+(a1).length≤9223372036854775807)<|
   req (((v1++a1)).length+(y3).length≤9223372036854775807)<|
   some (.inl (((v1++a1)++y3),(IntKind.i64.wrap (v2+1))))
  else
   req ((v1).length+(y3).length≤9223372036854775807)<|
   some (.inl ((v1++y3),(IntKind.i64.wrap (v2+1))))
 else
  some (.inr (some v1))
def fW (a0:List (Ab)) (a1:Ab):Option (Ab):=
 AA (fun s:Ab × Int=>Qh a0 a1 s.1 s.2) (([]:Ab),0)
def K1 (a0:Ad) (a1:AI):Option (Ac):=
 req ((a0.ab).length+(([47]:Ab)).length≤9223372036854775807)<|
 (getI a1.aw 0).bind fun y1=>
 req (((a0.ab++([47]:Ab))).length+(y1).length≤9223372036854775807)<|
 req (0≤(1:Int)∧(1:Int)≤(a1.aw.length:Int)∧(a1.aw.length:Int)≤(a1.aw.length:Int))<|
 (fW (A7 a1.aw 1 (a1.aw.length:Int)) ([44]:Ab)).bind fun v2=>
 some (⟨((a0.ab++([47]:Ab))++y1),v2,false⟩:Ac)
def Xp (a0:List Ac) (a1:Ac) (v1:Int):Option (List Ac):=
 if(decide (v1>0))then
  (getI a0 (IntKind.i64.wrap (v1-1))).bind fun y2=>
  if(y2.af==a1.af)then
   req (((([]:List Ac).length:Int)+((a0).length:Int))*40≤140737488355328∧(([]:List Ac).length:Int)+((a0).length:Int)≤140737488355328)<|
   (getI a0 (IntKind.i64.wrap (v1-1))).bind fun y3=>
   some (a0.set ((IntKind.i64.wrap (v1-1))).toNat a1)
  else
   req (0≤v1∧v1≤(a0.length:Int)∧(a0.length:Int)≤(a0.length:Int))<|
   req (((([]:List Ac).length:Int)+(((A7 a0 v1 (a0.length:Int))).length:Int))*40≤140737488355328∧(([]:List Ac).length:Int)+(((A7 a0 v1 (a0.length:Int))).length:Int)≤140737488355328)<|
   req (0≤(0:Int)∧(0:Int)≤v1∧v1≤(a0.length:Int))<|
   req (((([]:List Ac).length:Int)+(((A7 a0 0 v1)).length:Int))*40≤140737488355328∧(([]:List Ac).length:Int)+(((A7 a0 0 v1)).length:Int)≤140737488355328)<|
   req (((((A7 a0 0 v1)).length:Int)+(([a1]:List Ac).length:Int))*40≤140737488355328∧(((A7 a0 0 v1)).length:Int)+(([a1]:List Ac).length:Int)≤140737488355328)<|
   req ((((((A7 a0 0 v1)++ [a1])).length:Int)+(((A7 a0 v1 (a0.length:Int))).length:Int))*40≤140737488355328∧((((A7 a0 0 v1)++ [a1])).length:Int)+(((A7 a0 v1 (a0.length:Int))).length:Int)≤140737488355328)<|
   some (((A7 a0 0 v1)++ [a1])++(A7 a0 v1 (a0.length:Int)))
 else
  req (0≤v1∧v1≤(a0.length:Int)∧(a0.length:Int)≤(a0.length:Int))<|
  req (((([]:List Ac).length:Int)+(((A7 a0 v1 (a0.length:Int))).length:Int))*40≤140737488355328∧(([]:List Ac).length:Int)+(((A7 a0 v1 (a0.length:Int))).length:Int)≤140737488355328)<|
  req (0≤(0:Int)∧(0:Int)≤v1∧v1≤(a0.length:Int))<|
  req (((([]:List Ac).length:Int)+(((A7 a0 0 v1)).length:Int))*40≤140737488355328∧(([]:List Ac).length:Int)+(((A7 a0 0 v1)).length:Int)≤140737488355328)<|
  req (((((A7 a0 0 v1)).length:Int)+(([a1]:List Ac).length:Int))*40≤140737488355328∧(((A7 a0 0 v1)).length:Int)+(([a1]:List Ac).length:Int)≤140737488355328)<|
  req ((((((A7 a0 0 v1)++ [a1])).length:Int)+(((A7 a0 v1 (a0.length:Int))).length:Int))*40≤140737488355328∧((((A7 a0 0 v1)++ [a1])).length:Int)+(((A7 a0 v1 (a0.length:Int))).length:Int)≤140737488355328)<|
  some (((A7 a0 0 v1)++ [a1])++(A7 a0 v1 (a0.length:Int)))
def Oi (a0:List Ac) (a1:Ac) (v4:Int):Option ((Int) ⊕ Option (List Ac)):=
 if(decide (v4>0))then
  (getI a0 (IntKind.i64.wrap (v4-1))).bind fun y5=>
  if(!(Op.bytesLess y5.af a1.af||y5.af==a1.af))then
   some (.inl (IntKind.i64.wrap (v4-1)))
  else
   some (.inr (Xp a0 a1 v4))
 else
  some (.inr (Xp a0 a1 v4))
def FB (a0:List Ac) (a1:Ac):Option (List Ac):=
 AA (fun s:Int=>Oi a0 a1 s) (a0.length:Int)
def fA (a0:Ab) (v1:Int) (v2:List (Ab)):Option (List (Ab)):=
 req (0≤v1∧v1≤(a0.length:Int)∧(a0.length:Int)≤(a0.length:Int))<|
 req ((((v2).length:Int)+(([(A7 a0 v1 (a0.length:Int))]:List (Ab)).length:Int))*16≤140737488355328∧((v2).length:Int)+(([(A7 a0 v1 (a0.length:Int))]:List (Ab)).length:Int)≤140737488355328)<|
 some (v2++ [(A7 a0 v1 (a0.length:Int))])
def Qf (a0:Ab) (a1:Int) (v3:List (Ab)) (v4 v5:Int):Option ((List (Ab) × Int × Int) ⊕ Option (List (Ab))):=
 if(decide (v5<(a0.length:Int)))then
  (getI a0 v5).bind fun y6=>
  if((y6.toNat:Int)==a1)then
   req (0≤v4∧v4≤v5∧v5≤(a0.length:Int))<|
   req ((((v3).length:Int)+(([(A7 a0 v4 v5)]:List (Ab)).length:Int))*16≤140737488355328∧((v3).length:Int)+(([(A7 a0 v4 v5)]:List (Ab)).length:Int)≤140737488355328)<|
   some (.inl ((v3++ [(A7 a0 v4 v5)]),(IntKind.i64.wrap (v5+1)),(IntKind.i64.wrap (v5+1))))
  else
   some (.inl (v3,v4,(IntKind.i64.wrap (v5+1))))
 else
  some (.inr (fA a0 v4 v3))
def On (a0:Ab) (a1:Int):Option (List (Ab)):=
 AA (fun s:List (Ab) × Int × Int=>Qf a0 a1 s.1 s.2.1 s.2.2) ([],0,0)
def FC (a0 a1 a2:Int):Option (Bool):=
 some ((decide (a0≥a1))&&(decide (a0≤a2)))
def fI (v1:Int) (v3:Bool):Option ((Int) ⊕ Option (Bool)):=
 if(!v3)then
  some (.inr (some false))
 else
  some (.inl (IntKind.i64.wrap (v1+1)))
def Tx (a1:Ab) (v1:Int) (y2:UInt8) (v4:Bool) (v5:Int):Option ((Bool × Int) ⊕ Option ((Int) ⊕ Option (Bool))):=
 if(decide (v5<(a1.length:Int)))then
  if v4 then
   some (.inl (true,(IntKind.i64.wrap (v5+1))))
  else
   (getI a1 v5).bind fun y6=>
   some (.inl (((y2.toNat:Int)==(y6.toNat:Int)),(IntKind.i64.wrap (v5+1))))
 else
  some (.inr (fI v1 v4))
def fL (a0 a1:Ab) (v1:Int):Option ((Int) ⊕ Option (Bool)):=
 if(decide (v1<(a0.length:Int)))then
  (getI a0 v1).bind fun y2=>
  AA (fun s:Bool × Int=>Tx a1 v1 y2 s.1 s.2) ((((decide ((y2.toNat:Int)≥97))&&(decide ((y2.toNat:Int)≤122)))||((decide ((y2.toNat:Int)≥48))&&(decide ((y2.toNat:Int)≤57)))),0)
 else
  some (.inr (some true))
def Qo (a0 a1:Ab):Option (Bool):=
 AA (fun s:Int=>fL a0 a1 s) 0
def Qu (a0:Ab):Option (Bool):=
 (FC (a0.length:Int) 1 3).bind fun v1=>
 if v1 then
  (Qo a0 ([]:Ab)).bind fun v2=>
  some v2
 else
  some false
def fC (a0:Ad) (a1:AI):Option (Bool):=
 some ((a1.aw.length:Int)==(a0.al.length:Int))
def fB (a0:Ad) (a1:AI) (v1:Int):Option ((Int) ⊕ Option (Bool)):=
 if(decide (v1<(a1.aw.length:Int)))then
  (getI a1.aw v1).bind fun y2=>
  (Qu y2).bind fun v3=>
  if(!v3)then
   some (.inr (some false))
  else
   some (.inl (IntKind.i64.wrap (v1+1)))
 else
  some (.inr (fC a0 a1))
def Mr (a0:Ad) (a1:AI):Option (Bool):=
 AA (fun s:Int=>fB a0 a1 s) 0
def XL (a0:Ad) (a1:Ac):Option (AI × Bool):=
 if(decide ((a1.af.length:Int)<3))then
  some ((⟨[]⟩:AI),false)
 else
  req (0≤(2:Int)∧(2:Int)≤(a1.af.length:Int)∧(a1.af.length:Int)≤(a1.af.length:Int))<|
  (On a1.ay 44).bind fun v1=>
  req (((([(A7 a1.af 2 (a1.af.length:Int))]:List (Ab)).length:Int)+((v1).length:Int))*16≤140737488355328∧(([(A7 a1.af 2 (a1.af.length:Int))]:List (Ab)).length:Int)+((v1).length:Int)≤140737488355328)<|
  (Mr a0 (⟨([(A7 a1.af 2 (a1.af.length:Int))]++v1)⟩:AI)).bind fun v2=>
  if v2 then
   (K1 a0 (⟨([(A7 a1.af 2 (a1.af.length:Int))]++v1)⟩:AI)).bind fun v3=>
   some ((⟨([(A7 a1.af 2 (a1.af.length:Int))]++v1)⟩:AI),(v3.af==a1.af&&(v3.ay==a1.ay&&(v3.bb==a1.bb))))
  else
   some ((⟨([(A7 a1.af 2 (a1.af.length:Int))]++v1)⟩:AI),false)
def Qe (a0:Ad) (a1:List Ac) (v1:List AI) (v2:Int):Option ((List AI × Int) ⊕ Option (List AI)):=
 if(decide (v2<(a1.length:Int)))then
  (getI a1 v2).bind fun y3=>
  (XL a0 y3).bind fun v4=>
  if v4.2 then
   req ((((v1).length:Int)+(([v4.1]:List AI).length:Int))*24≤140737488355328∧((v1).length:Int)+(([v4.1]:List AI).length:Int)≤140737488355328)<|
   some (.inl ((v1++ [v4.1]),(IntKind.i64.wrap (v2+1))))
  else
   some (.inl (v1,(IntKind.i64.wrap (v2+1))))
 else
  some (.inr (some v1))
def Ql (a0:Ad) (a1:List Ac):Option (List AI):=
 AA (fun s:List AI × Int=>Qe a0 a1 s.1 s.2) ([],0)
def K4 (a0:Ad) (a1:Au) (a2:AI):Option (Ab):=
 req ((a0.ab).length+(([46]:Ab)).length≤9223372036854775807)<|
 req (((a0.ab++([46]:Ab))).length+(a1.ab).length≤9223372036854775807)<|
 req ((((a0.ab++([46]:Ab))++a1.ab)).length+(([47]:Ab)).length≤9223372036854775807)<|
 (getI a2.aw a1.bh).bind fun y1=>
 req (((((a0.ab++([46]:Ab))++a1.ab)++([47]:Ab))).length+(y1).length≤9223372036854775807)<|
 req ((((((a0.ab++([46]:Ab))++a1.ab)++([47]:Ab))++y1)).length+(([47]:Ab)).length≤9223372036854775807)<|
 (getI a2.aw 0).bind fun y2=>
 req (((((((a0.ab++([46]:Ab))++a1.ab)++([47]:Ab))++y1)++([47]:Ab))).length+(y2).length≤9223372036854775807)<|
 some ((((((a0.ab++([46]:Ab))++a1.ab)++([47]:Ab))++y1)++([47]:Ab))++y2)
def WV (a0:An):Option (Ab × An):=
 (F3 a0 ([([97]:Ab),([98]:Ab),([99]:Ab),([109]:Ab),([110]:Ab),([122]:Ab),([114,47,49]:Ab),([105,47,120,47,49]:Ab)]:List (Ab))).bind fun v1=>
 some (v1.1,v1.2)
def WW (a0:An):Option (Ab × An):=
 (F3 a0 ([([]:Ab),([49]:Ab),([55]:Ab),([49,48]:Ab),([45,51]:Ab),([120]:Ab),([97,44,98,95,99]:Ab)]:List (Ab))).bind fun v1=>
 some (v1.1,v1.2)
def eC (v6:List Int) (v7 v8:Int) (v9:List Ac):Option (List Ac × An):=
 (Gn (⟨v6,v7,v8⟩:An) 6).bind fun v10=>
 if v10.1 then
  (WV v10.2).bind fun v11=>
  (WW v11.2).bind fun v12=>
  (FB v9 (⟨v11.1,v12.1,false⟩:Ac)).bind fun v13=>
  some (v13,(⟨v12.2.ar,v12.2.bf,v12.2.au⟩:An))
 else
  some (v9,(⟨v10.2.ar,v10.2.bf,v10.2.au⟩:An))
def eE (a1:Ad) (v14:Int) (y19:Au) (v21:List Int) (v22 v23:Int) (v24:List Ac):Option ((Int × List Int × Int × Int × List Ac) ⊕ Option (List Ac × An)):=
 (Gn (⟨v21,v22,v23⟩:An) 5).bind fun v25=>
 if v25.1 then
  (Mn v25.2 a1).bind fun v26=>
  (K4 a1 y19 v26.1).bind fun v27=>
  (FB v24 (⟨v27,([]:Ab),false⟩:Ac)).bind fun v28=>
  some (.inl ((IntKind.i64.wrap (v14+1)),v26.2.ar,v26.2.bf,v26.2.au,v28))
 else
  some (.inl ((IntKind.i64.wrap (v14+1)),v25.2.ar,v25.2.bf,v25.2.au,v24))
def rV (a1:Ad) (v14:Int) (y19:Au) (v20:List AI) (v29:Int) (v30:List Int) (v31 v32:Int) (v33:List Ac):Option ((Int × List Int × Int × Int × List Ac) ⊕ Option ((Int × List Int × Int × Int × List Ac) ⊕ Option (List Ac × An))):=
 if(decide (v29<(v20.length:Int)))then
  (getI v20 v29).bind fun y34=>
  (Gn (⟨v30,v31,v32⟩:An) 5).bind fun v35=>
  if(!v35.1)then
   (K4 a1 y19 y34).bind fun v36=>
   (FB v33 (⟨v36,([]:Ab),false⟩:Ac)).bind fun v37=>
   some (.inl ((IntKind.i64.wrap (v29+1)),v35.2.ar,v35.2.bf,v35.2.au,v37))
  else
   some (.inl ((IntKind.i64.wrap (v29+1)),v35.2.ar,v35.2.bf,v35.2.au,v33))
 else
  some (.inr (eE a1 v14 y19 v30 v31 v32 v33))
def rZ (a1:Ad) (v14:Int) (v15:List Int) (v16 v17:Int) (v18:List Ac):Option ((Int × List Int × Int × Int × List Ac) ⊕ Option (List Ac × An)):=
 if(decide (v14<(a1.ae.length:Int)))then
  (getI a1.ae v14).bind fun y19=>
  (Ql a1 v18).bind fun v20=>
  AA (fun s:Int × List Int × Int × Int × List Ac=>rV a1 v14 y19 v20 s.1 s.2.1 s.2.2.1 s.2.2.2.1 s.2.2.2.2) (0,v15,v16,v17,v18)
 else
  some (.inr (eC v15 v16 v17 v18))
def dU (a1:Ad) (v2:List Int) (v3 v4:Int) (v5:List Ac):Option (List Ac × An):=
 AA (fun s:Int × List Int × Int × Int × List Ac=>rZ a1 s.1 s.2.1 s.2.2.1 s.2.2.2.1 s.2.2.2.2) (0,v2,v3,v4,v5)
def rW (a1:Ad) (v38:List Ac) (v39:Int) (v40:List Int) (v41 v42:Int):Option ((List Ac × Int × List Int × Int × Int) ⊕ Option (List Ac × An)):=
 if(decide (v39>0))then
  (Mn (⟨v40,v41,v42⟩:An) a1).bind fun v43=>
  (K1 a1 v43.1).bind fun v44=>
  (FB v38 v44).bind fun v45=>
  some (.inl (v45,(IntKind.i64.wrap (v39-1)),v43.2.ar,v43.2.bf,v43.2.au))
 else
  some (.inr (dU a1 v40 v41 v42 v38))
def Tt (a0:An) (a1:Ad):Option (List Ac × An):=
 (Cv a0 5).bind fun v1=>
 AA (fun s:List Ac × Int × List Int × Int × Int=>rW a1 s.1 s.2.1 s.2.2.1 s.2.2.2.1 s.2.2.2.2) ([],v1.1,v1.2.ar,v1.2.bf,v1.2.au)
def eG (a0:Ab) (a1:Int):Option (Bool):=
 some ((decide ((a0.length:Int)≥1))&&(decide ((a0.length:Int)≤a1)))
def eF (a0:Ab) (a1 v1:Int):Option ((Int) ⊕ Option (Bool)):=
 if(decide (v1<(a0.length:Int)))then
  (getI a0 v1).bind fun y2=>
  if((decide ((y2.toNat:Int)<97))||(decide ((y2.toNat:Int)>122)))then
   some (.inr (some false))
  else
   some (.inl (IntKind.i64.wrap (v1+1)))
 else
  some (.inr (eG a0 a1))
def Qd (a0:Ab) (a1:Int):Option (Bool):=
 AA (fun s:Int=>eF a0 a1 s) 0
def gG (a0:List (Ab)) (a1:Ab) (v1:Int):Option ((Int) ⊕ Option (Int)):=
 if(decide (v1<(a0.length:Int)))then
  (getI a0 v1).bind fun y2=>
  if(y2==a1)then
   some (.inr (some v1))
  else
   some (.inl (IntKind.i64.wrap (v1+1)))
 else
  some (.inr (some (-1)))
def T3 (a0:List (Ab)) (a1:Ab):Option (Int):=
 AA (fun s:Int=>gG a0 a1 s) 0
def fD (a0:List (Ab)):Option (Bool):=
 (FC (a0.length:Int) 2 4).bind fun v1=>
 some v1
def fF (a0:List (Ab)) (v2:Int):Option ((Int) ⊕ Option (Bool)):=
 if(decide (v2<(a0.length:Int)))then
  (getI a0 v2).bind fun y3=>
  (Qd y3 3).bind fun v4=>
  if v4 then
   req (0≤(0:Int)∧(0:Int)≤v2∧v2≤(a0.length:Int))<|
   (T3 (A7 a0 0 v2) y3).bind fun v5=>
   if(decide (v5≥0))then
    some (.inr (some false))
   else
    some (.inl (IntKind.i64.wrap (v2+1)))
  else
   some (.inr (some false))
 else
  some (.inr (fD a0))
def XG (a0:List (Ab)):Option (Bool):=
 AA (fun s:Int=>fF a0 s) 0
def WZ (a0:Ad) (v3:Int):Option ((Int) ⊕ Option (Bool)):=
 if(decide (v3<(a0.ae.length:Int)))then
  (getI a0.ae v3).bind fun y4=>
  (Qd y4.ab 1).bind fun v5=>
  if v5 then
   (FC y4.bh 1 (IntKind.i64.wrap ((a0.al.length:Int)-1))).bind fun v6=>
   if v6 then
    (FC y4.ak 0 3).bind fun v7=>
    if(decide (v3>0))then
     if v7 then
      (getI a0.ae (IntKind.i64.wrap (v3-1))).bind fun y8=>
      if(!Op.bytesLess y8.ab y4.ab)then
       some (.inr (some false))
      else
       some (.inl (IntKind.i64.wrap (v3+1)))
     else
      some (.inr (some false))
    else
     if((!v7)||false)then
      some (.inr (some false))
     else
      some (.inl (IntKind.i64.wrap (v3+1)))
   else
    some (.inr (some false))
  else
   some (.inr (some false))
 else
  some (.inr (some true))
def K3 (a0:Ad):Option (Bool):=
 (Qd a0.ab 1).bind fun v1=>
 if v1 then
  (XG a0.al).bind fun v2=>
  if((!v2)||(decide ((a0.ae.length:Int)>3)))then
   some false
  else
   AA (fun s:Int=>WZ a0 s) 0
 else
  some false
def Qt (a0:Ad) (a1:Ab) (a2:Int):Option (Bool):=
 (K3 a0).bind fun v1=>
 if v1 then
  (HE a0 a1).bind fun v2=>
  if(decide (v2≥0))then
   (FC a2 0 3).bind fun v3=>
   some v3
  else
   some false
 else
  some false
def T9 (a0:Ab):Option (Bool):=
 (FC (a0.length:Int) 1 12).bind fun v1=>
 if v1 then
  (Qo a0 ([46,47]:Ab)).bind fun v2=>
  some v2
 else
  some false
def T7 (a0:Ab):Option (Bool):=
 if(decide ((a0.length:Int)≤24))then
  (Qo a0 ([46,45,44,95]:Ab)).bind fun v1=>
  some v1
 else
  some false
def XM (a0 a1:Ab) (a2:Bool):Option (Bool):=
 (T9 a0).bind fun v1=>
 if v1 then
  (T7 a1).bind fun v2=>
  some (v2&&((!a2)||(a1==([]:Ab))))
 else
  some false
def eQ (a0:List Ac):Option (Bool):=
 some (decide ((a0.length:Int)≤24))
def fJ (a0:List Ac) (v1:Int):Option ((Int) ⊕ Option (Bool)):=
 if(decide (v1<(a0.length:Int)))then
  (getI a0 v1).bind fun y2=>
  (XM y2.af y2.ay y2.bb).bind fun v3=>
  if(decide (v1>0))then
   if v3 then
    (getI a0 (IntKind.i64.wrap (v1-1))).bind fun y4=>
    if(!Op.bytesLess y4.af y2.af)then
     some (.inr (some false))
    else
     some (.inl (IntKind.i64.wrap (v1+1)))
   else
    some (.inr (some false))
  else
   if((!v3)||false)then
    some (.inr (some false))
   else
    some (.inl (IntKind.i64.wrap (v1+1)))
 else
  some (.inr (eQ a0))
def Xl (a0:List Ac):Option (Bool):=
 AA (fun s:Int=>fJ a0 s) 0
def fU (a0:List Ac):Option (Bool):=
 (Xl a0).bind fun v1=>
 some v1
def fT (a0:List Ac) (v2:Int):Option ((Int) ⊕ Option (Bool)):=
 if(decide (v2<(a0.length:Int)))then
  (getI a0 v2).bind fun y3=>
  if y3.bb then
   some (.inr (some false))
  else
   some (.inl (IntKind.i64.wrap (v2+1)))
 else
  some (.inr (fU a0))
def J8 (a0:List Ac):Option (Bool):=
 AA (fun s:Int=>fT a0 s) 0
def TK (a0:Ad) (a1:Ab) (a2 v4:Int) (v5:List Ad):Option ((Int × List Ad) ⊕ Option (List Ad)):=
 if(v4 !=a2)then
  if(decide (v4<a2))then
   (Qw a0 a1 (IntKind.i64.wrap (v4+1))).bind fun v6=>
   req ((((v5).length:Int)+(([v6]:List Ad).length:Int))*64≤140737488355328∧((v5).length:Int)+(([v6]:List Ad).length:Int)≤140737488355328)<|
   some (.inl ((IntKind.i64.wrap (v4+1)),(v5++ [v6])))
  else
   (Qw a0 a1 (IntKind.i64.wrap (v4-1))).bind fun v7=>
   req ((((v5).length:Int)+(([v7]:List Ad).length:Int))*64≤140737488355328∧((v5).length:Int)+(([v7]:List Ad).length:Int)≤140737488355328)<|
   some (.inl ((IntKind.i64.wrap (v4-1)),(v5++ [v7])))
 else
  some (.inr (some v5))
def T0 (a0:Ad) (a1:Ab) (a2:Int):Option (List Ad):=
 (Qx a0).bind fun v1=>
 (HE a0 a1).bind fun v2=>
 (getI a0.ae v2).bind fun y3=>
 AA (fun s:Int × List Ad=>TK a0 a1 a2 s.1 s.2) (y3.ak, [v1])
def Yc (a0:List Int):Option (List Int):=
 req (((([]:List Int).length:Int)+((a0).length:Int))*8≤140737488355328∧(([]:List Int).length:Int)+((a0).length:Int)≤140737488355328)<|
 some a0
def P9 (a0:Am) (v1:List Int) (v2:Int) (v3:List Ad):Option ((Int × List Ad) ⊕ Option (Am)):=
 if(decide (v2<(a0.ah.length:Int)))then
  (getI a0.ah v2).bind fun y4=>
  (Qx y4).bind fun v5=>
  req ((((v3).length:Int)+(([v5]:List Ad).length:Int))*64≤140737488355328∧((v3).length:Int)+(([v5]:List Ad).length:Int)≤140737488355328)<|
  some (.inl ((IntKind.i64.wrap (v2+1)),(v3++ [v5])))
 else
  some (.inr (some (⟨a0.ab,v3,v1,a0.ao⟩:Am)))
def Qy (a0:Am):Option (Am):=
 (Yc a0.a7).bind fun v1=>
 req (((([]:List Ac).length:Int)+((a0.ao).length:Int))*40≤140737488355328∧(([]:List Ac).length:Int)+((a0.ao).length:Int)≤140737488355328)<|
 AA (fun s:Int × List Ad=>P9 a0 v1 s.1 s.2) (0, [])
def Oo (a0:Ad) (a1:Ab) (a2 a3:Int) (a4:List Ac):Option (Am × Bool):=
 (Qt a0 a1 a2).bind fun v1=>
 if v1 then
  (FC a3 1 3).bind fun v2=>
  if v2 then
   (J8 a4).bind fun v3=>
   if(!v3)then
    some ((⟨([]:Ab), [], [], []⟩:Am),false)
   else
    (T0 a0 a1 a2).bind fun v4=>
    req (0≤a3∧a3*8≤140737488355328∧a3≤140737488355328)<|
    (Qy (⟨a1,v4,(List.replicate (a3).toNat 0),a4⟩:Am)).bind fun v5=>
    some (v5,true)
  else
   some ((⟨([]:Ab), [], [], []⟩:Am),false)
 else
  some ((⟨([]:Ab), [], [], []⟩:Am),false)
def XR (a0 a1:Int):Option (Int):=
 if(decide (a0<a1))then
  some a0
 else
  some a1
def PS (a0:Am) (v1:List Int) (v2:Int):Option ((List Int × Int) ⊕ Option (List Int)):=
 if(decide (v2<(a0.a7.length:Int)))then
  (getI a0.a7 v2).bind fun y3=>
  (getI a0.ah y3).bind fun y4=>
  (HE y4 a0.ab).bind fun v5=>
  (getI y4.ae v5).bind fun y6=>
  req ((((v1).length:Int)+(([y6.ak]:List Int).length:Int))*8≤140737488355328∧((v1).length:Int)+(([y6.ak]:List Int).length:Int)≤140737488355328)<|
  some (.inl ((v1++ [y6.ak]),(IntKind.i64.wrap (v2+1))))
 else
  some (.inr (some v1))
def XA (a0:Am):Option (List Int):=
 AA (fun s:List Int × Int=>PS a0 s.1 s.2) ([],0)
def Qr (a0:List Int) (a1 v1:Int):Option ((Int) ⊕ Option (Bool)):=
 if(decide (v1<(a0.length:Int)))then
  (getI a0 v1).bind fun y2=>
  if(y2==a1)then
   some (.inr (some true))
  else
   some (.inl (IntKind.i64.wrap (v1+1)))
 else
  some (.inr (some false))
def Ua (a0:List Int) (a1:Int):Option (Bool):=
 AA (fun s:Int=>Qr a0 a1 s) 0
def TQ (a0:Am):Option (Int):=
 (XA a0).bind fun v1=>
 (Ua v1 3).bind fun v2=>
 if v2 then
  some 2
 else
  (Ua v1 0).bind fun v3=>
  if v3 then
   some 0
  else
   some 1
def PW (a0:Ad) (a1:Ab) (v1:List AI) (v2:List (Ab)) (v3:Int):Option ((List (Ab) × Int) ⊕ Option (List (Ab))):=
 if(decide (v3<(v1.length:Int)))then
  (getI v1 v3).bind fun y4=>
  (HE a0 a1).bind fun v5=>
  (getI a0.ae v5).bind fun y6=>
  (K4 a0 y6 y4).bind fun v7=>
  req ((((v2).length:Int)+(([v7]:List (Ab)).length:Int))*16≤140737488355328∧((v2).length:Int)+(([v7]:List (Ab)).length:Int)≤140737488355328)<|
  some (.inl ((v2++ [v7]),(IntKind.i64.wrap (v3+1))))
 else
  some (.inr (some v2))
def Qa (a0:Ad) (a1:Ab) (a2:List Ac):Option (List (Ab)):=
 (Ql a0 a2).bind fun v1=>
 AA (fun s:List (Ab) × Int=>PW a0 a1 v1 s.1 s.2) ([],0)
def dY (v11:List Ac × An) (v16:Am × Bool) (v21 v24:List Int) (v25 v26:Int) (v27:List Ac):Option (Am × An):=
 (Gn (⟨v24,v25,v26⟩:An) 7).bind fun v28=>
 if v28.1 then
  some ((⟨v16.1.ab,v16.1.ah,v21,v11.1⟩:Am),(⟨v28.2.ar,v28.2.bf,v28.2.au⟩:An))
 else
  some ((⟨v16.1.ab,v16.1.ah,v21,v27⟩:Am),(⟨v28.2.ar,v28.2.bf,v28.2.au⟩:An))
def rS (v11:List Ac × An) (v16:Am × Bool) (v21:List Int) (v22:Int) (v23:List (Ab)) (v29:Int) (v30:List Int) (v31 v32:Int) (v33:List Ac):Option ((Int × List Int × Int × Int × List Ac) ⊕ Option (Am × An)):=
 if(decide (v29<(v23.length:Int)))then
  (getI v23 v29).bind fun y34=>
  if(v22==2)then
   if true then
    (FB v33 (⟨y34,([]:Ab),false⟩:Ac)).bind fun v35=>
    some (.inl ((IntKind.i64.wrap (v29+1)),v30,v31,v32,v35))
   else
    some (.inl ((IntKind.i64.wrap (v29+1)),v30,v31,v32,v33))
  else
   if(v22==1)then
    (Gn (⟨v30,v31,v32⟩:An) 2).bind fun v36=>
    if v36.1 then
     (FB v33 (⟨y34,([]:Ab),false⟩:Ac)).bind fun v37=>
     some (.inl ((IntKind.i64.wrap (v29+1)),v36.2.ar,v36.2.bf,v36.2.au,v37))
    else
     some (.inl ((IntKind.i64.wrap (v29+1)),v36.2.ar,v36.2.bf,v36.2.au,v33))
   else
    if false then
     (FB v33 (⟨y34,([]:Ab),false⟩:Ac)).bind fun v38=>
     some (.inl ((IntKind.i64.wrap (v29+1)),v30,v31,v32,v38))
    else
     some (.inl ((IntKind.i64.wrap (v29+1)),v30,v31,v32,v33))
 else
  some (.inr (dY v11 v16 v21 v30 v31 v32 v33))
def dW (y8:Au) (v10:Ad) (v11:List Ac × An) (v13:List Ac) (v16:Am × Bool) (v18:List Int) (v19 v20:Int) (v21:List Int):Option (Am × An):=
 (TQ (⟨v16.1.ab,v16.1.ah,v21,v16.1.ao⟩:Am)).bind fun v22=>
 (Qa v10 y8.ab v13).bind fun v23=>
 AA (fun s:Int × List Int × Int × Int × List Ac=>rS v11 v16 v21 v22 v23 s.1 s.2.1 s.2.2.1 s.2.2.2.1 s.2.2.2.2) (0,v18,v19,v20,v16.1.ao)
def rT (y8:Au) (v10:Ad) (v11:List Ac × An) (v13:List Ac) (v16:Am × Bool) (v17:Int × An) (v39:Int) (v40:List Int) (v41 v42:Int) (v43:List Int):Option ((Int × List Int × Int × Int × List Int) ⊕ Option (Am × An)):=
 if(decide (v39<(v16.1.a7.length:Int)))then
  (Cv (⟨v40,v41,v42⟩:An) 2).bind fun v44=>
  (XR (IntKind.i64.wrap (v17.1+v44.1)) (IntKind.i64.wrap ((v16.1.ah.length:Int)-1))).bind fun v45=>
  (getI v43 v39).bind fun y46=>
  (Gn v44.2 9).bind fun v47=>
  if v47.1 then
   (Cv v47.2 (v16.1.ah.length:Int)).bind fun v48=>
   some (.inl ((IntKind.i64.wrap (v39+1)),v48.2.ar,v48.2.bf,v48.2.au,((v43.set (v39).toNat v45).set (v39).toNat v48.1)))
  else
   some (.inl ((IntKind.i64.wrap (v39+1)),v47.2.ar,v47.2.bf,v47.2.au,(v43.set (v39).toNat v45)))
 else
  some (.inr (dW y8 v10 v11 v13 v16 v40 v41 v42 v43))
def dX (y8:Au) (v10:Ad) (v11:List Ac × An) (v13:List Ac):Option (Am × An):=
 (Cv v11.2 4).bind fun v14=>
 (Cv v14.2 3).bind fun v15=>
 (Oo v10 y8.ab v14.1 (IntKind.i64.wrap ((1:Int)+v15.1)) v13).bind fun v16=>
 (Cv v15.2 (v16.1.ah.length:Int)).bind fun v17=>
 AA (fun s:Int × List Int × Int × Int × List Int=>rT y8 v10 v11 v13 v16 v17 s.1 s.2.1 s.2.2.1 s.2.2.2.1 s.2.2.2.2) (0,v17.2.ar,v17.2.bf,v17.2.au,v16.1.a7)
def rR (y8:Au) (v10:Ad) (v11:List Ac × An) (v12:List AI) (v49:List Ac) (v50:Int):Option ((List Ac × Int) ⊕ Option (Am × An)):=
 if(decide (v50<(v12.length:Int)))then
  (getI v12 v50).bind fun y51=>
  (K1 v10 y51).bind fun v52=>
  (FB v49 v52).bind fun v53=>
  some (.inl (v53,(IntKind.i64.wrap (v50+1))))
 else
  some (.inr (dX y8 v10 v11 v49))
def Tm (v2:List Int) (v3 v4:Int) (v5:Ab) (v6:List (Ab)) (v7:List Au):Option (Am × An):=
 (getI v7 0).bind fun y8=>
 (Cv (⟨v2,v3,v4⟩:An) 4).bind fun v9=>
 (Qw (⟨v5,v6,v7⟩:Ad) y8.ab v9.1).bind fun v10=>
 (Tt v9.2 v10).bind fun v11=>
 (Ql v10 v11.1).bind fun v12=>
 AA (fun s:List Ac × Int=>rR y8 v10 v11 v12 s.1 s.2) ([],0)
def PG (v54:List Int) (v55 v56:Int) (v57:Ab) (v58:List (Ab)) (v59:List Au):Option ((List Int × Int × Int × Ab × List (Ab) × List Au) ⊕ Option (Am × An)):=
 if((v59.length:Int)==0)then
  (HD (⟨v54,v55,v56⟩:An)).bind fun v60=>
  some (.inl (v60.2.ar,v60.2.bf,v60.2.au,v60.1.ab,v60.1.al,v60.1.ae))
 else
  some (.inr (Tm v54 v55 v56 v57 v58 v59))
def Mh (a0:An):Option (Am × An):=
 (HD a0).bind fun v1=>
 AA (fun s:List Int × Int × Int × Ab × List (Ab) × List Au=>PG s.1 s.2.1 s.2.2.1 s.2.2.2.1 s.2.2.2.2.1 s.2.2.2.2.2) (v1.2.ar,v1.2.bf,v1.2.au,v1.1.ab,v1.1.al,v1.1.ae)
def WL (a0:An) (a1:List Int):Option (Int × An):=
 (Cv a0 (a1.length:Int)).bind fun v1=>
 (getI a1 v1.1).bind fun y2=>
 some (y2,v1.2)
def WS (a1:Ad) (v3:List Int) (v4 v5:Int) (v6:List (Ab)):Option (A2 × An):=
 (Cv (⟨v3,v4,v5⟩:An) 3).bind fun v7=>
 if(v7.1==0)then
  (Mn v7.2 a1).bind fun v8=>
  some ((⟨1,(⟨[]⟩:AI),v8.1⟩:A2),v8.2)
 else
  if(v7.1==1)then
   some ((⟨2,(⟨v6⟩:AI),(⟨[]⟩:AI)⟩:A2),v7.2)
  else
   (Mn v7.2 a1).bind fun v9=>
   (getI v6 0).bind fun y10=>
   (getI v9.1.aw 0).bind fun y11=>
   some ((⟨3,(⟨v6⟩:AI),(⟨(v9.1.aw.set ((0:Int)).toNat y10)⟩:AI)⟩:A2),v9.2)
def WR (a1:Ad) (v1:List AI) (v2:AI × An) (v12:Bool) (v13:List Int) (v14 v15:Int):Option (A2 × An):=
 if v12 then
  (Cv (⟨v13,v14,v15⟩:An) (v1.length:Int)).bind fun v16=>
  (getI v1 v16.1).bind fun y17=>
  WS a1 v16.2.ar v16.2.bf v16.2.au y17.aw
 else
  WS a1 v13 v14 v15 v2.1.aw
def W4 (a0:An) (a1:Ad) (a2:List Ac):Option (A2 × An):=
 (Ql a1 a2).bind fun v1=>
 (Mn a0 a1).bind fun v2=>
 if(decide ((v1.length:Int)>0))then
  (Gn v2.2 4).bind fun v18=>
  WR a1 v1 v2 (!v18.1) v18.2.ar v18.2.bf v18.2.au
 else
  WR a1 v1 v2 false v2.2.ar v2.2.bf v2.2.au
def Tn (a0:An) (a1:Am):Option (BN × An):=
 (Cv a0 (a1.a7.length:Int)).bind fun v1=>
 (Gn v1.2 3).bind fun v2=>
 if v2.1 then
  (WL v2.2 ([1,1,1,(-1)]:List Int)).bind fun v3=>
  some ((⟨v1.1,v3.1,(⟨0,(⟨[]⟩:AI),(⟨[]⟩:AI)⟩:A2)⟩:BN),v3.2)
 else
  (getI a1.ah 0).bind fun y4=>
  (W4 v2.2 y4 a1.ao).bind fun v5=>
  some ((⟨v1.1,0,v5.1⟩:BN),v5.2)
def sS (a0:A2):Option (Bool):=
 some (((a0.aj==0)&&((a0.bd.aw.length:Int)==0))&&((a0.bj.aw.length:Int)==0))
def TU (a0:Ad) (a1:A2):Option (Bool):=
 if(a1.aj==1)then
  if((a1.bd.aw.length:Int)==0)then
   (Mr a0 a1.bj).bind fun v1=>
   some v1
  else
   some false
 else
  if(a1.aj==2)then
   if((a1.bj.aw.length:Int)==0)then
    (Mr a0 a1.bd).bind fun v2=>
    some v2
   else
    some false
  else
   if(a1.aj==3)then
    (Mr a0 a1.bd).bind fun v3=>
    if v3 then
     (Mr a0 a1.bj).bind fun v4=>
     if v4 then
      (getI a1.bd.aw 0).bind fun y5=>
      (getI a1.bj.aw 0).bind fun y6=>
      some (y5==y6)
     else
      some false
    else
     some false
   else
    some false
def TP (a0:Am) (a1:BN):Option (Bool):=
 (FC a1.a8 0 (IntKind.i64.wrap ((a0.a7.length:Int)-1))).bind fun v1=>
 if(!v1)then
  some false
 else
  if((a1.bc==1)||(a1.bc==(-1)))then
   (sS a1.bp).bind fun v2=>
   some v2
  else
   if(a1.bc==0)then
    (getI a0.a7 a1.a8).bind fun y3=>
    (getI a0.ah y3).bind fun y4=>
    (TU y4 a1.bp).bind fun v5=>
    some v5
   else
    some false
def Qk (a0:Ad) (a1:A2):Option (Bool):=
 (K3 a0).bind fun v1=>
 if v1 then
  (TU a0 a1).bind fun v2=>
  some v2
 else
  some false
def XP (a0:Ad) (a1:A2):Option (List Az):=
 if(a1.aj==1)then
  (K1 a0 a1.bj).bind fun v1=>
  some [(⟨6,v1.af,([]:Ab),0⟩:Az),(⟨2,v1.af,v1.ay,0⟩:Az)]
 else
  (K1 a0 a1.bd).bind fun v2=>
  if(a1.aj==2)then
   some [(⟨7,v2.af,v2.ay,0⟩:Az),(⟨3,v2.af,([]:Ab),0⟩:Az)]
  else
   (K1 a0 a1.bj).bind fun v3=>
   some [(⟨7,v2.af,v2.ay,0⟩:Az),(⟨2,v2.af,v3.ay,0⟩:Az)]
def Xx (a1:Au) (v2:Ab) (v3:List Az):Option (List Az):=
 if((v2 !=([]:Ab))&&(decide (a1.ak≥2)))then
  req ((((v3).length:Int)+(([(⟨2,v2,([]:Ab),0⟩:Az)]:List Az).length:Int))*48≤140737488355328∧((v3).length:Int)+(([(⟨2,v2,([]:Ab),0⟩:Az)]:List Az).length:Int)≤140737488355328)<|
  some (v3++ [(⟨2,v2,([]:Ab),0⟩:Az)])
 else
  some v3
def TE (a1:Au) (v1 v2:Ab):Option (List Az):=
 if(((v1 !=([]:Ab))&&(v1 !=v2))&&(decide (a1.ak≥1)))then
  req (((([]:List Az).length:Int)+(([(⟨3,v1,([]:Ab),0⟩:Az)]:List Az).length:Int))*48≤140737488355328∧(([]:List Az).length:Int)+(([(⟨3,v1,([]:Ab),0⟩:Az)]:List Az).length:Int)≤140737488355328)<|
  Xx a1 v2 [(⟨3,v1,([]:Ab),0⟩:Az)]
 else
  Xx a1 v2 []
def Xv (a0:Ad) (a1:Au) (a2:A2) (v1:Ab):Option (List Az):=
 if(a2.aj !=2)then
  (K4 a0 a1 a2.bj).bind fun v4=>
  TE a1 v1 v4
 else
  TE a1 v1 ([]:Ab)
def T2 (a0:Ad) (a1:Au) (a2:A2):Option (List Az):=
 Vd (σ:=Ab) (
  if(a2.aj !=1)then
   (K4 a0 a1 a2.bd).bind fun v5=>
   some (.inl v5)
  else
   some (.inl ([]:Ab))
 ) (fun s=>Xv a0 a1 a2 s)
def P6 (a0:Ad) (a1:A2) (v2:Int) (v3:List Az):Option ((Int × List Az) ⊕ Option (List Az)):=
 if(decide (v2<(a0.ae.length:Int)))then
  (getI a0.ae v2).bind fun y4=>
  (T2 a0 y4 a1).bind fun v5=>
  req ((((v3).length:Int)+((v5).length:Int))*48≤140737488355328∧((v3).length:Int)+((v5).length:Int)≤140737488355328)<|
  some (.inl ((IntKind.i64.wrap (v2+1)),(v3++v5)))
 else
  some (.inr (some v3))
def X6 (a0:Ad) (a1:A2):Option (List Az):=
 (XP a0 a1).bind fun v1=>
 AA (fun s:Int × List Az=>P6 a0 a1 s.1 s.2) (0,v1)
def gB (a0:Az) (v2:Bool):Option (Bool):=
 if v2 then
  (T7 a0.ay).bind fun v3=>
  some (v3&&(a0.jq==0))
 else
  if(a0.aj==4)then
   if(a0.aj==4)then
    if(a0.ay==([]:Ab))then
     (FC a0.jq (-9999) 9999).bind fun v4=>
     some v4
    else
     some false
   else
    some (((((a0.aj==1)||(a0.aj==3))||(a0.aj==6))&&(a0.ay==([]:Ab)))&&(a0.jq==0))
  else
   if(a0.aj==5)then
    if(a0.ay==([]:Ab))then
     (FC a0.jq (-9999) 9999).bind fun v5=>
     some v5
    else
     some false
   else
    some (((((a0.aj==1)||(a0.aj==3))||(a0.aj==6))&&(a0.ay==([]:Ab)))&&(a0.jq==0))
def Ye (a0:Az):Option (Bool):=
 (T9 a0.af).bind fun v1=>
 if(!v1)then
  some false
 else
  if(a0.aj==2)then
   gB a0 (a0.aj==2)
  else
   gB a0 (a0.aj==7)
def fV (a0:List Az):Option (Bool):=
 some (decide ((a0.length:Int)≤8))
def P7 (a0:List Az) (v1:Int):Option ((Int) ⊕ Option (Bool)):=
 if(decide (v1<(a0.length:Int)))then
  (getI a0 v1).bind fun y2=>
  (Ye y2).bind fun v3=>
  if(!v3)then
   some (.inr (some false))
  else
   some (.inl (IntKind.i64.wrap (v1+1)))
 else
  some (.inr (fV a0))
def XX (a0:List Az):Option (Bool):=
 AA (fun s:Int=>P7 a0 s) 0
def PQ (a1:List BC) (a2:Ab) (v1:Int):Option ((Int) ⊕ Option (Ab × Bool × Bool)):=
 if(decide (v1<(a1.length:Int)))then
  (getI a1 v1).bind fun y2=>
  if(y2.af==a2)then
   some (.inr (some (y2.ay,y2.c8,true)))
  else
   some (.inl (IntKind.i64.wrap (v1+1)))
 else
  some (.inr (some (([]:Ab),false,false)))
def Xc (a1:List BC) (a2:Ab):Option (Ab × Bool × Bool):=
 AA (fun s:Int=>PQ a1 a2 s) 0
def PY (a0:List Ac) (a1:List BC) (a2:Ab) (v3:Int):Option ((Int) ⊕ Option (Ab × Bool × Bool)):=
 if(decide (v3<(a0.length:Int)))then
  (getI a0 v3).bind fun y4=>
  if(y4.af==a2)then
   some (.inr (some (y4.ay,(!y4.bb),true)))
  else
   some (.inl (IntKind.i64.wrap (v3+1)))
 else
  some (.inr (Xc a1 a2))
def Xo (a0:List Ac) (a1:List BC) (a2:Ab):Option (Ab × Bool × Bool):=
 AA (fun s:Int=>PY a0 a1 a2 s) 0
def K2 (a0:Ab) (v3 v4:Int):Option ((Int × Int) ⊕ Option (Int)):=
 if(decide (v4<(a0.length:Int)))then
  (getI a0 v4).bind fun y5=>
  if((decide ((y5.toNat:Int)<48))||(decide ((y5.toNat:Int)>57)))then
   some (.inr (some (-1)))
  else
   some (.inl ((IntKind.i64.wrap ((IntKind.i64.wrap ((10:Int)*v3))+(IntKind.i64.wrap (IntKind.u8.wrap ((y5.toNat:Int)-48))))),(IntKind.i64.wrap (v4+1))))
 else
  some (.inr (some v3))
def TZ (a0:Ab):Option (Int):=
 (FC (a0.length:Int) 1 6).bind fun v1=>
 if v1 then
  (getI a0 0).bind fun y2=>
  if(((y2.toNat:Int)==48)&&(decide ((a0.length:Int)>1)))then
   some (-1)
  else
   AA (fun s:Int × Int=>K2 a0 s.1 s.2) (0,0)
 else
  some (-1)
def Xh (y1:UInt8) (v2:Ab):Option (Int × Bool):=
 (TZ v2).bind fun v3=>
 if((decide (v3<0))||(((y1.toNat:Int)==45)&&(v3==0)))then
  some (0,false)
 else
  if((y1.toNat:Int)==45)then
   some ((IntKind.i64.wrap (0-v3)),true)
  else
   some (v3,true)
def sY (v4:Ab):Option (Int × Bool):=
 (TZ v4).bind fun v5=>
 if((decide (v5<0))||false)then
  some (0,false)
 else
  some (v5,true)
def Ub (a0:Ab):Option (Int × Bool):=
 if(decide ((a0.length:Int)>0))then
  (getI a0 0).bind fun y1=>
  if((y1.toNat:Int)==45)then
   req (0≤(1:Int)∧(1:Int)≤(a0.length:Int)∧(a0.length:Int)≤(a0.length:Int))<|
   Xh y1 (A7 a0 1 (a0.length:Int))
  else
   Xh y1 a0
 else
  sY a0
def XD (a0:Az) (a1:Ab) (a2:Bool):Option (Bool):=
 (Ub a1).bind fun v1=>
 if(a0.aj==4)then
  if(!a2)then
   some false
  else
   if v1.2 then
    (FC (IntKind.i64.wrap (v1.1+a0.jq)) (-999999) 999999).bind fun v2=>
    some (!v2)
   else
    some true
 else
  if(a0.aj==5)then
   some (((!a2)||(!v1.2))||(decide (v1.1<a0.jq)))
  else
   if(a0.aj==6)then
    some a2
   else
    if(a0.aj==7)then
     some ((!a2)||(a1 !=a0.ay))
    else
     some false
def TR:Nat→Int→Option (Ab)
 |0,_=>none
 |n_+1,a0=>
  if(decide (a0<10))then
   req (([(IntKind.u8.wrap (IntKind.i64.wrap ((48:Int)+a0)))]:List Int).length≤9223372036854775807)<|
   some ([(IntKind.u8.wrap (IntKind.i64.wrap ((48:Int)+a0)))].map fun n=>UInt8.ofNat n.toNat)
  else
   ((TR n_) (IntKind.i64.wrap (Int.tdiv a0 10))).bind fun v1=>
   req (([(IntKind.u8.wrap (IntKind.i64.wrap ((48:Int)+(Int.tmod a0 10))))]:List Int).length≤9223372036854775807)<|
   req ((v1).length+(([(IntKind.u8.wrap (IntKind.i64.wrap ((48:Int)+(Int.tmod a0 10))))].map fun n=>UInt8.ofNat n.toNat)).length≤9223372036854775807)<|
   some (v1++([(IntKind.u8.wrap (IntKind.i64.wrap ((48:Int)+(Int.tmod a0 10))))].map fun n=>UInt8.ofNat n.toNat))
def gY:Int→Option (Ab):=TR qL
def gO (a0:Int):Option (Ab):=
 if(decide (a0<0))then
  (gY (IntKind.i64.wrap (0-a0))).bind fun v1=>
  req ((([45]:Ab)).length+(v1).length≤9223372036854775807)<|
  some ((([45]:Ab):Ab)++v1)
 else
  (gY a0).bind fun v2=>
  some v2
def Ig (a0:List Az) (a1:List BC) (v1:List Ac) (v2:Int):Option ((List Ac × Int) ⊕ Option (Int × Ab × List Ac)):=
 if(decide (v2<(a0.length:Int)))then
  (getI a0 v2).bind fun y3=>
  (Xo v1 a1 y3.af).bind fun v4=>
  if(((!v4.2.2)&&(y3.aj !=2))&&(y3.aj !=3))then
   some (.inr (some (1,y3.af, [])))
  else
   (XD y3 v4.1 v4.2.1).bind fun v5=>
   if v5 then
    some (.inr (some (2,([]:Ab), [])))
   else
    if(y3.aj==2)then
     (FB v1 (⟨y3.af,y3.ay,false⟩:Ac)).bind fun v6=>
     some (.inl (v6,(IntKind.i64.wrap (v2+1))))
    else
     if(y3.aj==3)then
      (FB v1 (⟨y3.af,([]:Ab),true⟩:Ac)).bind fun v7=>
      some (.inl (v7,(IntKind.i64.wrap (v2+1))))
     else
      if(y3.aj==4)then
       (Ub v4.1).bind fun v8=>
       if(!v4.2.1)then
        (gO (IntKind.i64.wrap ((0:Int)+y3.jq))).bind fun v9=>
        (FB v1 (⟨y3.af,v9,false⟩:Ac)).bind fun v10=>
        some (.inl (v10,(IntKind.i64.wrap (v2+1))))
       else
        (gO (IntKind.i64.wrap (v8.1+y3.jq))).bind fun v11=>
        (FB v1 (⟨y3.af,v11,false⟩:Ac)).bind fun v12=>
        some (.inl (v12,(IntKind.i64.wrap (v2+1))))
      else
       some (.inl (v1,(IntKind.i64.wrap (v2+1))))
 else
  some (.inr (some (3,([]:Ab),v1)))
def gM (a0:List Az) (a1:List BC):Option (Int × Ab × List Ac):=
 AA (fun s:List Ac × Int=>Ig a0 a1 s.1 s.2) ([],0)
def sM (a1:Ab):Option (BC):=
 some (⟨a1,([]:Ab),false⟩:BC)
def P5 (a0:List Ac) (a1:Ab) (v1:Int):Option ((Int) ⊕ Option (BC)):=
 if(decide (v1<(a0.length:Int)))then
  (getI a0 v1).bind fun y2=>
  if(y2.af==a1)then
   some (.inr (some (⟨a1,y2.ay,true⟩:BC)))
  else
   some (.inl (IntKind.i64.wrap (v1+1)))
 else
  some (.inr (sM a1))
def X5 (a0:List Ac) (a1:Ab):Option (BC):=
 AA (fun s:Int=>P5 a0 a1 s) 0
def Ol (a0:List Ac) (a1:List Az) (v1:List BC):Option ((List BC) ⊕ Option (List BC × List Ac × Bool)):=
 (gM a1 v1).bind fun v2=>
 if(v2.1 !=1)then
  some (.inr (some (v1,v2.2.2,(v2.1==3))))
 else
  (X5 a0 v2.2.1).bind fun v3=>
  req ((((v1).length:Int)+(([v3]:List BC).length:Int))*40≤140737488355328∧((v1).length:Int)+(([v3]:List BC).length:Int)≤140737488355328)<|
  some (.inl (v1++ [v3]))
def gC (a0:List Ac) (a1:List Az):Option (List BC × List Ac × Bool):=
 AA (fun s:List BC=>Ol a0 a1 s) []
def P1 (v1 v2:List Ac) (v3:Int):Option ((List Ac × Int) ⊕ Option (List Ac)):=
 if(decide (v3<(v1.length:Int)))then
  (getI v1 v3).bind fun y4=>
  if(!y4.bb)then
   req ((((v2).length:Int)+(([y4]:List Ac).length:Int))*40≤140737488355328∧((v2).length:Int)+(([y4]:List Ac).length:Int)≤140737488355328)<|
   some (.inl ((v2++ [y4]),(IntKind.i64.wrap (v3+1))))
  else
   some (.inl (v2,(IntKind.i64.wrap (v3+1))))
 else
  some (.inr (some v2))
def eV (v1:List Ac):Option (List Ac):=
 AA (fun s:List Ac × Int=>P1 v1 s.1 s.2) ([],0)
def PU (a1:List Ac) (v5:Int) (v6:List Ac):Option ((Int × List Ac) ⊕ Option (List Ac)):=
 if(decide (v5<(a1.length:Int)))then
  (getI a1 v5).bind fun y7=>
  (FB v6 y7).bind fun v8=>
  some (.inl ((IntKind.i64.wrap (v5+1)),v8))
 else
  some (.inr (eV v6))
def Xu (a0 a1:List Ac):Option (List Ac):=
 req (((([]:List Ac).length:Int)+((a0).length:Int))*40≤140737488355328∧(([]:List Ac).length:Int)+((a0).length:Int)≤140737488355328)<|
 AA (fun s:Int × List Ac=>PU a1 s.1 s.2) (0,a0)
def Oh (a1:List (List Az)) (v2:List Bool) (v3:Int) (v4:List Ac):Option ((List Bool × Int × List Ac) ⊕ Option (List Ac × List Bool × Bool)):=
 if(decide (v3<(a1.length:Int)))then
  (getI a1 v3).bind fun y5=>
  (gC v4 y5).bind fun v6=>
  (Xu v4 v6.2.1).bind fun v7=>
  if v6.2.2 then
   (J8 v7).bind fun v8=>
   if v8 then
    req ((((v2).length:Int)+(([v8]:List Bool).length:Int))*1≤140737488355328∧((v2).length:Int)+(([v8]:List Bool).length:Int)≤140737488355328)<|
    some (.inl ((v2++ [v8]),(IntKind.i64.wrap (v3+1)),v7))
   else
    req ((((v2).length:Int)+(([v8]:List Bool).length:Int))*1≤140737488355328∧((v2).length:Int)+(([v8]:List Bool).length:Int)≤140737488355328)<|
    some (.inl ((v2++ [v8]),(IntKind.i64.wrap (v3+1)),v4))
  else
   req ((((v2).length:Int)+(([false]:List Bool).length:Int))*1≤140737488355328∧((v2).length:Int)+(([false]:List Bool).length:Int)≤140737488355328)<|
   some (.inl ((v2++ [false]),(IntKind.i64.wrap (v3+1)),v4))
 else
  some (.inr (some (v4,v2,true)))
def eZ (a0:List Ac) (a1:List (List Az)):Option (List Ac × List Bool × Bool):=
 req (((([]:List Ac).length:Int)+((a0).length:Int))*40≤140737488355328∧(([]:List Ac).length:Int)+((a0).length:Int)≤140737488355328)<|
 AA (fun s:List Bool × Int × List Ac=>Oh a1 s.1 s.2.1 s.2.2) ([],0,a0)
def Og (a0:List Ac) (a1:List (List Az)) (v9:Int):Option ((Int) ⊕ Option (List Ac × List Bool × Bool)):=
 if(decide (v9<(a1.length:Int)))then
  (getI a1 v9).bind fun y10=>
  (XX y10).bind fun v11=>
  if(!v11)then
   some (.inr (some ([], [],false)))
  else
   some (.inl (IntKind.i64.wrap (v9+1)))
 else
  some (.inr (eZ a0 a1))
def Xs (a0:List Ac) (a1:List (List Az)):Option (List Ac × List Bool × Bool):=
 (J8 a0).bind fun v1=>
 if((!v1)||(decide ((a1.length:Int)>20)))then
  some ([], [],false)
 else
  AA (fun s:Int=>Og a0 a1 s) 0
def Yb (a0:List Ac) (a1:List Az):Option (List Ac × Bool):=
 (Xs a0 ([a1]:List (List Az))).bind fun v1=>
 if((v1.2.1.length:Int)==1)then
  (getI v1.2.1 0).bind fun y2=>
  some (v1.1,y2)
 else
  some (v1.1,false)
def QB (a0:Ad) (a1:List Ac) (a2:A2):Option (List Ac × Bool × Bool):=
 (Qk a0 a2).bind fun v1=>
 if v1 then
  (J8 a1).bind fun v2=>
  if(!v2)then
   some ([],false,false)
  else
   (X6 a0 a2).bind fun v3=>
   (Yb a1 v3).bind fun v4=>
   some (v4.1,v4.2,true)
 else
  some ([],false,false)
def Ju (a0:Am) (a1:BN):Option (Am × Bool):=
 (Qy a0).bind fun v1=>
 if(a1.bc !=0)then
  (getI v1.a7 a1.a8).bind fun y2=>
  (FC (IntKind.i64.wrap (y2+a1.bc)) 0 (IntKind.i64.wrap ((a0.ah.length:Int)-1))).bind fun v3=>
  if(!v3)then
   some (v1,false)
  else
   some ((⟨v1.ab,v1.ah,(v1.a7.set (a1.a8).toNat (IntKind.i64.wrap (y2+a1.bc))),v1.ao⟩:Am),true)
 else
  (getI a0.a7 a1.a8).bind fun y4=>
  (getI a0.ah y4).bind fun y5=>
  (QB y5 a0.ao a1.bp).bind fun v6=>
  some ((⟨v1.ab,v1.ah,v1.a7,v6.1⟩:Am),v6.2.1)
def eU (v1:Int):Option ((Int) ⊕ Option (Bool)):=
 some (.inl (IntKind.i64.wrap (v1+1)))
def Ok (a0:List Int) (v1 y2 v3:Int):Option ((Int) ⊕ Option ((Int) ⊕ Option (Bool))):=
 if(decide (v3<(a0.length:Int)))then
  (getI a0 v3).bind fun y4=>
  if(decide ((IntKind.i64.wrap (y2-y4))>1))then
   some (.inr (some (.inr (some false))))
  else
   some (.inl (IntKind.i64.wrap (v3+1)))
 else
  some (.inr (eU v1))
def PR (a0:List Int) (v1:Int):Option ((Int) ⊕ Option (Bool)):=
 if(decide (v1<(a0.length:Int)))then
  (getI a0 v1).bind fun y2=>
  AA (fun s:Int=>Ok a0 v1 y2 s) 0
 else
  some (.inr (some true))
def TW (a0:List Int):Option (Bool):=
 AA (fun s:Int=>PR a0 s) 0
def W7 (a0:Ad) (a1 a2:Ab):Option (Ab × Ab × Bool):=
 (On a2 47).bind fun v1=>
 if((v1.length:Int) !=3)then
  some (([]:Ab),([]:Ab),false)
 else
  (getI v1 0).bind fun y2=>
  req ((a0.ab).length+(([46]:Ab)).length≤9223372036854775807)<|
  req (((a0.ab++([46]:Ab))).length+(a1).length≤9223372036854775807)<|
  if(y2 !=((a0.ab++([46]:Ab))++a1))then
   some (([]:Ab),([]:Ab),false)
  else
   (getI v1 1).bind fun y3=>
   (Qu y3).bind fun v4=>
   if v4 then
    (getI v1 2).bind fun y5=>
    (Qu y5).bind fun v6=>
    if(!v6)then
     some (([]:Ab),([]:Ab),false)
    else
     some (y3,y5,true)
   else
    some (([]:Ab),([]:Ab),false)
def P0 (a0:Ad) (a1:Ab) (a2:List Ac) (v1:List (Ab)) (v2:Int):Option ((List (Ab) × Int) ⊕ Option (List (Ab))):=
 if(decide (v2<(a2.length:Int)))then
  (getI a2 v2).bind fun y3=>
  (W7 a0 a1 y3.af).bind fun v4=>
  if v4.2.2 then
   req ((((v1).length:Int)+(([y3.af]:List (Ab)).length:Int))*16≤140737488355328∧((v1).length:Int)+(([y3.af]:List (Ab)).length:Int)≤140737488355328)<|
   some (.inl ((v1++ [y3.af]),(IntKind.i64.wrap (v2+1))))
  else
   some (.inl (v1,(IntKind.i64.wrap (v2+1))))
 else
  some (.inr (some v1))
def TL (a0:Ad) (a1:Ab) (a2:List Ac):Option (List (Ab)):=
 AA (fun s:List (Ab) × Int=>P0 a0 a1 a2 s.1 s.2) ([],0)
def Oq (a0:Ad) (a1:Ab) (a2:List Ac):Option (Bool):=
 (K3 a0).bind fun v1=>
 if v1 then
  (HE a0 a1).bind fun v2=>
  if(decide (v2≥0))then
   (J8 a2).bind fun v3=>
   some v3
  else
   some false
 else
  some false
def Qg (a0:List (Ab)) (a1:List (Ab)) (v1:List (Ab)) (v2:Int):Option ((List (Ab) × Int) ⊕ Option (List (Ab))):=
 if(decide (v2<(a0.length:Int)))then
  (getI a0 v2).bind fun y3=>
  (T3 a1 y3).bind fun v4=>
  if(decide (v4<0))then
   req ((((v1).length:Int)+(([y3]:List (Ab)).length:Int))*16≤140737488355328∧((v1).length:Int)+(([y3]:List (Ab)).length:Int)≤140737488355328)<|
   some (.inl ((v1++ [y3]),(IntKind.i64.wrap (v2+1))))
  else
   some (.inl (v1,(IntKind.i64.wrap (v2+1))))
 else
  some (.inr (some v1))
def XF (a0:List (Ab)) (a1:List (Ab)):Option (List (Ab)):=
 AA (fun s:List (Ab) × Int=>Qg a0 a1 s.1 s.2) ([],0)
def fM (a0:Ad) (a1:Ab) (a2:List Ac):Option (List (Ab) × Bool):=
 (Oq a0 a1 a2).bind fun v1=>
 if(!v1)then
  some ([],false)
 else
  (TL a0 a1 a2).bind fun v2=>
  (Qa a0 a1 a2).bind fun v3=>
  (XF v2 v3).bind fun v4=>
  some (v4,true)
def fX (a0:Ad) (a1:Ab) (a2:List Ac):Option (List (Ab) × Bool):=
 (Oq a0 a1 a2).bind fun v1=>
 if(!v1)then
  some ([],false)
 else
  (Qa a0 a1 a2).bind fun v2=>
  (TL a0 a1 a2).bind fun v3=>
  (XF v2 v3).bind fun v4=>
  some (v4,true)
def Xk (a0:Ad) (a1:Ab) (a2:Int) (a3:List Ac):Option (Bool):=
 if(a2==0)then
  (TL a0 a1 a3).bind fun v1=>
  some ((v1.length:Int)==0)
 else
  (fM a0 a1 a3).bind fun v2=>
  (fX a0 a1 a3).bind fun v3=>
  some (((v2.1.length:Int)==0)&&((a2==1)||((v3.1.length:Int)==0)))
def TS (a0:Am):Option (Bool):=
 (getI a0.ah 0).bind fun y1=>
 (TQ a0).bind fun v2=>
 (Xk y1 a0.ab v2 a0.ao).bind fun v3=>
 some v3
def Qz (a0:Am) (a1:BN):Option (Bool):=
 (Ju a0 a1).bind fun v1=>
 if v1.2 then
  (TW v1.1.a7).bind fun v2=>
  if v2 then
   (TS v1.1).bind fun v3=>
   some v3
  else
   some false
 else
  some false
def HC (a1:List BN) (a2:Bool) (v1:List Bool) (v2:Int) (v3:Ab) (v4:List Ad) (v5:List Int) (v6:List Ac):Option ((List Bool × Int × Ab × List Ad × List Int × List Ac) ⊕ Option (Am × List Bool)):=
 if(decide (v2<(a1.length:Int)))then
  (getI a1 v2).bind fun y7=>
  (TP (⟨v3,v4,v5,v6⟩:Am) y7).bind fun v8=>
  if a2 then
   if(y7.bc==0)then
    if(v8&&true)then
     (Ju (⟨v3,v4,v5,v6⟩:Am) y7).bind fun v9=>
     req ((((v1).length:Int)+(([v9.2]:List Bool).length:Int))*1≤140737488355328∧((v1).length:Int)+(([v9.2]:List Bool).length:Int)≤140737488355328)<|
     some (.inl ((v1++ [v9.2]),(IntKind.i64.wrap (v2+1)),v9.1.ab,v9.1.ah,v9.1.a7,v9.1.ao))
    else
     req ((((v1).length:Int)+(([(v8&&true)]:List Bool).length:Int))*1≤140737488355328∧((v1).length:Int)+(([(v8&&true)]:List Bool).length:Int)≤140737488355328)<|
     some (.inl ((v1++ [(v8&&true)]),(IntKind.i64.wrap (v2+1)),v3,v4,v5,v6))
   else
    if v8 then
     (Qz (⟨v3,v4,v5,v6⟩:Am) y7).bind fun v10=>
     if v10 then
      (Ju (⟨v3,v4,v5,v6⟩:Am) y7).bind fun v11=>
      req ((((v1).length:Int)+(([v11.2]:List Bool).length:Int))*1≤140737488355328∧((v1).length:Int)+(([v11.2]:List Bool).length:Int)≤140737488355328)<|
      some (.inl ((v1++ [v11.2]),(IntKind.i64.wrap (v2+1)),v11.1.ab,v11.1.ah,v11.1.a7,v11.1.ao))
     else
      req ((((v1).length:Int)+(([v10]:List Bool).length:Int))*1≤140737488355328∧((v1).length:Int)+(([v10]:List Bool).length:Int)≤140737488355328)<|
      some (.inl ((v1++ [v10]),(IntKind.i64.wrap (v2+1)),v3,v4,v5,v6))
    else
     req ((((v1).length:Int)+(([false]:List Bool).length:Int))*1≤140737488355328∧((v1).length:Int)+(([false]:List Bool).length:Int)≤140737488355328)<|
     some (.inl ((v1++ [false]),(IntKind.i64.wrap (v2+1)),v3,v4,v5,v6))
  else
   if(v8&&true)then
    (Ju (⟨v3,v4,v5,v6⟩:Am) y7).bind fun v12=>
    req ((((v1).length:Int)+(([v12.2]:List Bool).length:Int))*1≤140737488355328∧((v1).length:Int)+(([v12.2]:List Bool).length:Int)≤140737488355328)<|
    some (.inl ((v1++ [v12.2]),(IntKind.i64.wrap (v2+1)),v12.1.ab,v12.1.ah,v12.1.a7,v12.1.ao))
   else
    req ((((v1).length:Int)+(([(v8&&true)]:List Bool).length:Int))*1≤140737488355328∧((v1).length:Int)+(([(v8&&true)]:List Bool).length:Int)≤140737488355328)<|
    some (.inl ((v1++ [(v8&&true)]),(IntKind.i64.wrap (v2+1)),v3,v4,v5,v6))
 else
  some (.inr (some ((⟨v3,v4,v5,v6⟩:Am),v1)))
def TT (a0:Am) (a1:List BN) (a2:Bool):Option (Am × List Bool):=
 AA (fun s:List Bool × Int × Ab × List Ad × List Int × List Ac=>HC a1 a2 s.1 s.2.1 s.2.2.1 s.2.2.2.1 s.2.2.2.2.1 s.2.2.2.2.2) ([],0,a0.ab,a0.ah,a0.a7,a0.ao)
def rQ (v2:List BN) (v3:Int) (v4:List Int) (v5 v6:Int) (v7:Ab) (v8:List Ad) (v9:List Int) (v10:List Ac):Option ((List BN × Int × List Int × Int × Int × Ab × List Ad × List Int × List Ac) ⊕ Option (List BN × An)):=
 if(decide (v3>0))then
  (Tn (⟨v4,v5,v6⟩:An) (⟨v7,v8,v9,v10⟩:Am)).bind fun v11=>
  req ((((v2).length:Int)+(([v11.1]:List BN).length:Int))*72≤140737488355328∧((v2).length:Int)+(([v11.1]:List BN).length:Int)≤140737488355328)<|
  (TT (⟨v7,v8,v9,v10⟩:Am) ([v11.1]:List BN) true).bind fun v12=>
  some (.inl ((v2++ [v11.1]),(IntKind.i64.wrap (v3-1)),v11.2.ar,v11.2.bf,v11.2.au,v12.1.ab,v12.1.ah,v12.1.a7,v12.1.ao))
 else
  some (.inr (some (v2,(⟨v4,v5,v6⟩:An))))
def WG (a0:An) (a1:Am) (a2:Int):Option (List BN × An):=
 (Cv a0 (IntKind.i64.wrap (a2+1))).bind fun v1=>
 AA (fun s:List BN × Int × List Int × Int × Int × Ab × List Ad × List Int × List Ac=>rQ s.1 s.2.1 s.2.2.1 s.2.2.2.1 s.2.2.2.2.1 s.2.2.2.2.2.1 s.2.2.2.2.2.2.1 s.2.2.2.2.2.2.2.1 s.2.2.2.2.2.2.2.2) ([],v1.1,v1.2.ar,v1.2.bf,v1.2.au,a1.ab,a1.ah,a1.a7,a1.ao)
def Ws (a0:An) (a1:Am):Option (BN × An):=
 if((a1.a7.length:Int)==0)then
  some ((⟨0,0,(⟨0,(⟨[]⟩:AI),(⟨[]⟩:AI)⟩:A2)⟩:BN),a0)
 else
  if((a1.ah.length:Int)==0)then
   some ((⟨0,0,(⟨0,(⟨[]⟩:AI),(⟨[]⟩:AI)⟩:A2)⟩:BN),a0)
  else
   (getI a1.ah 0).bind fun y1=>
   if(decide ((y1.al.length:Int)<2))then
    some ((⟨0,0,(⟨0,(⟨[]⟩:AI),(⟨[]⟩:AI)⟩:A2)⟩:BN),a0)
   else
    (Tn a0 a1).bind fun v2=>
    (Cv v2.2 14).bind fun v3=>
    if(v3.1==0)then
     (Cv v3.2 5).bind fun v4=>
     some ((⟨(IntKind.i64.wrap (v4.1-1)),v2.1.bc,(⟨v2.1.bp.aj,v2.1.bp.bd,v2.1.bp.bj⟩:A2)⟩:BN),(⟨v4.2.ar,v4.2.bf,v4.2.au⟩:An))
    else
     if(v3.1==1)then
      (Cv v3.2 5).bind fun v5=>
      some ((⟨v2.1.a8,(IntKind.i64.wrap (v5.1-2)),(⟨v2.1.bp.aj,v2.1.bp.bd,v2.1.bp.bj⟩:A2)⟩:BN),(⟨v5.2.ar,v5.2.bf,v5.2.au⟩:An))
     else
      if(v3.1==2)then
       (Cv v3.2 5).bind fun v6=>
       some ((⟨v2.1.a8,v2.1.bc,(⟨v6.1,v2.1.bp.bd,v2.1.bp.bj⟩:A2)⟩:BN),(⟨v6.2.ar,v6.2.bf,v6.2.au⟩:An))
      else
       some ((⟨v2.1.a8,v2.1.bc,(⟨v2.1.bp.aj,v2.1.bp.bd,v2.1.bp.bj⟩:A2)⟩:BN),(⟨v3.2.ar,v3.2.bf,v3.2.au⟩:An))
def WH (a0:An):Option (Am × An):=
 (Mh a0).bind fun v1=>
 (Cv v1.2 14).bind fun v2=>
 if(v2.1==0)then
  (Cv v2.2 6).bind fun v3=>
  req ((((v1.1.a7).length:Int)+(([(IntKind.i64.wrap (v3.1-1))]:List Int).length:Int))*8≤140737488355328∧((v1.1.a7).length:Int)+(([(IntKind.i64.wrap (v3.1-1))]:List Int).length:Int)≤140737488355328)<|
  some ((⟨v1.1.ab,v1.1.ah,(v1.1.a7++ [(IntKind.i64.wrap (v3.1-1))]),v1.1.ao⟩:Am),(⟨v3.2.ar,v3.2.bf,v3.2.au⟩:An))
 else
  if(v2.1==1)then
   (HD v2.2).bind fun v4=>
   req ((((v1.1.ah).length:Int)+(([v4.1]:List Ad).length:Int))*64≤140737488355328∧((v1.1.ah).length:Int)+(([v4.1]:List Ad).length:Int)≤140737488355328)<|
   some ((⟨v1.1.ab,(v1.1.ah++ [v4.1]),v1.1.a7,v1.1.ao⟩:Am),(⟨v4.2.ar,v4.2.bf,v4.2.au⟩:An))
  else
   if(v2.1==2)then
    (F3 v2.2 ([([]:Ab),([122]:Ab)]:List (Ab))).bind fun v5=>
    some ((⟨v5.1,v1.1.ah,v1.1.a7,v1.1.ao⟩:Am),(⟨v5.2.ar,v5.2.bf,v5.2.au⟩:An))
   else
    if(v2.1==3)then
     req ((((v1.1.ao).length:Int)+(([(⟨([97]:Ab),([]:Ab),true⟩:Ac)]:List Ac).length:Int))*40≤140737488355328∧((v1.1.ao).length:Int)+(([(⟨([97]:Ab),([]:Ab),true⟩:Ac)]:List Ac).length:Int)≤140737488355328)<|
     some ((⟨v1.1.ab,v1.1.ah,v1.1.a7,(v1.1.ao++ [(⟨([97]:Ab),([]:Ab),true⟩:Ac)])⟩:Am),(⟨v2.2.ar,v2.2.bf,v2.2.au⟩:An))
    else
     if(v2.1==4)then
      some ((⟨v1.1.ab, [],v1.1.a7,v1.1.ao⟩:Am),(⟨v2.2.ar,v2.2.bf,v2.2.au⟩:An))
     else
      if(v2.1==5)then
       req (0≤(1:Int)∧(1:Int)≤(v1.1.ah.length:Int)∧(v1.1.ah.length:Int)≤(v1.1.ah.length:Int))<|
       some ((⟨v1.1.ab,(A7 v1.1.ah 1 (v1.1.ah.length:Int)),v1.1.a7,v1.1.ao⟩:Am),(⟨v2.2.ar,v2.2.bf,v2.2.au⟩:An))
      else
       some ((⟨v1.1.ab,v1.1.ah,v1.1.a7,v1.1.ao⟩:Am),(⟨v2.2.ar,v2.2.bf,v2.2.au⟩:An))
def WI (a0:List Int):Option (Am × List BN × Bool):=
 (Gn (⟨a0,0,0⟩:An) 3).bind fun v1=>
 (Mh v1.2).bind fun v2=>
 (WG v2.2 v2.1 20).bind fun v3=>
 (Cv v3.2 12).bind fun v4=>
 if(v4.1==0)then
  (Ws v4.2 v2.1).bind fun v5=>
  req ((((v3.1).length:Int)+(([v5.1]:List BN).length:Int))*72≤140737488355328∧((v3.1).length:Int)+(([v5.1]:List BN).length:Int)≤140737488355328)<|
  some ((⟨v2.1.ab,v2.1.ah,v2.1.a7,v2.1.ao⟩:Am),(v3.1++ [v5.1]),(!v1.1))
 else
  if(v4.1==1)then
   (WH v4.2).bind fun v6=>
   some ((⟨v6.1.ab,v6.1.ah,v6.1.a7,v6.1.ao⟩:Am),v3.1,(!v1.1))
  else
   some ((⟨v2.1.ab,v2.1.ah,v2.1.a7,v2.1.ao⟩:Am),v3.1,(!v1.1))
def G6 (a0 a1 a2:Int):Option (Bool):=
 some ((decide (a0≥a1))&&(decide (a0≤a2)))
def PX (a0:List Ac) (v1:Int) (v2:List (Ab)):Option ((Int × List (Ab)) ⊕ Option (List (Ab))):=
 if(decide (v1<(a0.length:Int)))then
  (getI a0 v1).bind fun y3=>
  req ((((v2).length:Int)+(([y3.af]:List (Ab)).length:Int))*16≤140737488355328∧((v2).length:Int)+(([y3.af]:List (Ab)).length:Int)≤140737488355328)<|
  some (.inl ((IntKind.i64.wrap (v1+1)),(v2++ [y3.af])))
 else
  some (.inr (some v2))
def Xw (a0:List Ac):Option (List (Ab)):=
 AA (fun s:Int × List (Ab)=>PX a0 s.1 s.2) (0, [])
def eN (a0:Int):Option (Bool):=
 some (((decide (a0≥97))&&(decide (a0≤122)))||((decide (a0≥48))&&(decide (a0≤57))))
def eY (a0:Ab) (a1:Int):Option (Int):=
 (Wt a0 a1).bind fun v1=>
 some v1
def eR (a0 a1:Ab) (v1:Int):Option ((Int) ⊕ Option (Bool)):=
 if(decide (v1<(a0.length:Int)))then
  (getI a0 v1).bind fun y2=>
  (eN (y2.toNat:Int)).bind fun v3=>
  if v3 then
   some (.inl (IntKind.i64.wrap (v1+1)))
  else
   (eY a1 (y2.toNat:Int)).bind fun v4=>
   if(decide (v4<0))then
    some (.inr (some false))
   else
    some (.inl (IntKind.i64.wrap (v1+1)))
 else
  some (.inr (some true))
def Qq (a0 a1:Ab):Option (Bool):=
 AA (fun s:Int=>eR a0 a1 s) 0
def XQ (a0:Ab):Option (Bool):=
 (G6 (a0.length:Int) 1 12).bind fun v1=>
 if v1 then
  (Qq a0 ([46,47]:Ab)).bind fun v2=>
  some v2
 else
  some false
def eX (a0:List (Ab)) (v1:Int):Option ((Int) ⊕ Option (Bool)):=
 if(decide (v1<(a0.length:Int)))then
  (getI a0 v1).bind fun y2=>
  (XQ y2).bind fun v3=>
  if(decide (v1>0))then
   if v3 then
    (getI a0 (IntKind.i64.wrap (v1-1))).bind fun y4=>
    if(Op.bytesLess y2 y4||y2==y4)then
     some (.inr (some false))
    else
     some (.inl (IntKind.i64.wrap (v1+1)))
   else
    some (.inr (some false))
  else
   if((!v3)||false)then
    some (.inr (some false))
   else
    some (.inl (IntKind.i64.wrap (v1+1)))
 else
  some (.inr (some true))
def Xz (a0:List (Ab)):Option (Bool):=
 AA (fun s:Int=>eX a0 s) 0
def XO (a0:Ab):Option (Bool):=
 if(decide ((a0.length:Int)≤24))then
  (Qq a0 ([46,45,44,95]:Ab)).bind fun v1=>
  some v1
 else
  some false
def Xm (a0:Ab) (a1:Bool):Option (Bool):=
 (XO a0).bind fun v1=>
 some (v1&&(!(a1&&(a0 !=([]:Ab)))))
def WY (a0:Ac):Option (Bool):=
 (Xm a0.ay a0.bb).bind fun v1=>
 some (!v1)
def Xd (a0:List Ac):Option (Bool):=
 if(decide ((a0.length:Int)≤24))then
  (Xw a0).bind fun v1=>
  (Xz v1).bind fun v2=>
  if v2 then
   (G7 a0 (fun y0_=>WY y0_)).bind fun v3=>
   some (!v3)
  else
   some false
 else
  some false
def Xf (a0:Ac):Option (Bool):=
 some a0.bb
def T5 (a0:List Ac):Option (Bool):=
 (Xd a0).bind fun v1=>
 if v1 then
  (G7 a0 (fun y0_=>Xf y0_)).bind fun v2=>
  some (!v2)
 else
  some false
def eI (a0:Ab) (a1:Int):Option (Bool):=
 (G6 (a0.length:Int) 1 a1).bind fun v1=>
 some v1
def eJ (a0:Ab) (a1 v2:Int):Option ((Int) ⊕ Option (Bool)):=
 if(decide (v2<(a0.length:Int)))then
  (getI a0 v2).bind fun y3=>
  if((decide ((y3.toNat:Int)<97))||(decide ((y3.toNat:Int)>122)))then
   some (.inr (some false))
  else
   some (.inl (IntKind.i64.wrap (v2+1)))
 else
  some (.inr (eI a0 a1))
def Qc (a0:Ab) (a1:Int):Option (Bool):=
 AA (fun s:Int=>eJ a0 a1 s) 0
def dN (a0:List (Ab)) (a1:Ab) (v1:Int):Option ((Int) ⊕ Option (Int)):=
 if(decide (v1<(a0.length:Int)))then
  (getI a0 v1).bind fun y2=>
  if(a1==y2)then
   some (.inr (some v1))
  else
   some (.inl (IntKind.i64.wrap (v1+1)))
 else
  some (.inr (some (-1)))
def Ww (a0:List (Ab)) (a1:Ab):Option (Int):=
 AA (fun s:Int=>dN a0 a1 s) 0
def Tg (a0:List (Ab)) (a1:Ab):Option (Bool):=
 (Ww a0 a1).bind fun v1=>
 some (decide (v1≥0))
def Qn (a0:Int):Option (Bool):=
 (G6 a0 0 3).bind fun v1=>
 some v1
def W5 (a0:Ad) (v3:Int):Option ((Int) ⊕ Option (Bool)):=
 if(decide (v3<(a0.ae.length:Int)))then
  (getI a0.ae v3).bind fun y4=>
  (Qc y4.ab 1).bind fun v5=>
  if v5 then
   (G6 y4.bh 1 (IntKind.i64.wrap ((a0.al.length:Int)-1))).bind fun v6=>
   if v6 then
    (Qn y4.ak).bind fun v7=>
    if(decide (v3>0))then
     if v7 then
      (getI a0.ae (IntKind.i64.wrap (v3-1))).bind fun y8=>
      if(Op.bytesLess y4.ab y8.ab||y4.ab==y8.ab)then
       some (.inr (some false))
      else
       some (.inl (IntKind.i64.wrap (v3+1)))
     else
      some (.inr (some false))
    else
     if((!v7)||false)then
      some (.inr (some false))
     else
      some (.inl (IntKind.i64.wrap (v3+1)))
   else
    some (.inr (some false))
  else
   some (.inr (some false))
 else
  some (.inr (some true))
def eW (a0:Ad):Option (Bool):=
 AA (fun s:Int=>W5 a0 s) 0
def WX (a0:Ad) (v9:Int):Option ((Int) ⊕ Option (Bool)):=
 if(decide (v9<(a0.al.length:Int)))then
  (getI a0.al v9).bind fun y10=>
  (Qc y10 3).bind fun v11=>
  if v11 then
   req (0≤(0:Int)∧(0:Int)≤v9∧v9≤(a0.al.length:Int))<|
   (Tg (A7 a0.al 0 v9) y10).bind fun v12=>
   if v12 then
    some (.inr (some false))
   else
    some (.inl (IntKind.i64.wrap (v9+1)))
  else
   some (.inr (some false))
 else
  some (.inr (eW a0))
def W9 (a0:Ad):Option (Bool):=
 (Qc a0.ab 1).bind fun v1=>
 if v1 then
  (G6 (a0.al.length:Int) 2 4).bind fun v2=>
  if((!v2)||(decide ((a0.ae.length:Int)>3)))then
   some false
  else
   AA (fun s:Int=>WX a0 s) 0
 else
  some false
def eD (a0:Au) (a1:Ab):Option (Bool):=
 some (a0.ab==a1)
def PF (a0:Ad) (a1:Ab):Option (Int):=
 (F4 a0.ae (fun y0_=>eD y0_ a1)).bind fun v1=>
 some v1
def T4 (a0:Ad) (a1:Ab):Option (Bool):=
 (W9 a0).bind fun v1=>
 if v1 then
  (PF a0 a1).bind fun v2=>
  some (decide (v2≥0))
 else
  some false
def eT (a0:Ad) (a1:Am):Option (Bool):=
 (T4 a0 a1.ab).bind fun v1=>
 some (!v1)
def eP (a0:Int) (a1:Am):Option (Bool):=
 (G6 a0 0 (IntKind.i64.wrap ((a1.ah.length:Int)-1))).bind fun v1=>
 some (!v1)
def Mk (a0:Ad) (a1:Ab):Option (Au):=
 (PF a0 a1).bind fun v1=>
 (getI a0.ae v1).bind fun y2=>
 some y2
def PD (a0:Am) (a1:Ad):Option (Int):=
 (Mk a1 a0.ab).bind fun v1=>
 some v1.ak
def Td (xs:List (Ab)):Option (List (Ab)):=Q3 16 xs
def dO (xs:List Au):Option (List Au):=Q3 32 xs
def P8 (a0:Ad):Option (Ad):=
 (Td a0.al).bind fun v1=>
 (dO a0.ae).bind fun v2=>
 some (⟨a0.ab,v1,v2⟩:Ad)
def Tk (a0:Ad) (a1:Ab) (a2:Int):Option (Ad):=
 (P8 a0).bind fun v1=>
 (PF a0 a1).bind fun v2=>
 (getI v1.ae v2).bind fun y3=>
 some (⟨v1.ab,v1.al,(v1.ae.set (v2).toNat {y3 with ak:=a2})⟩:Ad)
def Tv (a0:Ad) (a1:Ab) (a2 v3:Int) (v4:List Ad):Option ((Int × List Ad) ⊕ Option (List Ad)):=
 if(v3 !=a2)then
  if(decide (v3<a2))then
   (Tk a0 a1 (IntKind.i64.wrap (v3+1))).bind fun v5=>
   req ((((v4).length:Int)+(([v5]:List Ad).length:Int))*64≤140737488355328∧((v4).length:Int)+(([v5]:List Ad).length:Int)≤140737488355328)<|
   some (.inl ((IntKind.i64.wrap (v3+1)),(v4++ [v5])))
  else
   (Tk a0 a1 (IntKind.i64.wrap (v3-1))).bind fun v6=>
   req ((((v4).length:Int)+(([v6]:List Ad).length:Int))*64≤140737488355328∧((v4).length:Int)+(([v6]:List Ad).length:Int)≤140737488355328)<|
   some (.inl ((IntKind.i64.wrap (v3-1)),(v4++ [v6])))
 else
  some (.inr (some v4))
def Tp (a0:Ad) (a1:Ab) (a2:Int):Option (List Ad):=
 (Mk a0 a1).bind fun v1=>
 (P8 a0).bind fun v2=>
 AA (fun s:Int × List Ad=>Tv a0 a1 a2 s.1 s.2) (v1.ak, [v2])
def Th (a0 a1:List Ad) (a2:Ad→Ad→Option Bool) (v1:Int):Option ((Int) ⊕ Option (Bool)):=
 if(decide (v1<(a0.length:Int)))then
  (getI a0 v1).bind fun y2=>
  (getI a1 v1).bind fun y3=>
  (a2 y2 y3).bind fun v4=>
  if(!v4)then
   some (.inr (some false))
  else
   some (.inl (IntKind.i64.wrap (v1+1)))
 else
  some (.inr (some true))
def Wr (a0 a1:List Ad) (a2:Ad→Ad→Option Bool):Option (Bool):=
 if((a0.length:Int) !=(a1.length:Int))then
  some false
 else
  AA (fun s:Int=>Th a0 a1 a2 s) 0
def Tf (a0:List (Ab)) (a1:List (Ab)) (v1:Int):Option ((Int) ⊕ Option (Bool)):=
 if(decide (v1<(a0.length:Int)))then
  (getI a0 v1).bind fun y2=>
  (getI a1 v1).bind fun y3=>
  if(y2 !=y3)then
   some (.inr (some false))
  else
   some (.inl (IntKind.i64.wrap (v1+1)))
 else
  some (.inr (some true))
def Wv (a0:List (Ab)) (a1:List (Ab)):Option (Bool):=
 if((a0.length:Int) !=(a1.length:Int))then
  some false
 else
  AA (fun s:Int=>Tf a0 a1 s) 0
def Te (a0 a1:List Au) (v1:Int):Option ((Int) ⊕ Option (Bool)):=
 if(decide (v1<(a0.length:Int)))then
  (getI a0 v1).bind fun y2=>
  (getI a1 v1).bind fun y3=>
  if(!(y2.ab==y3.ab&&(y2.bh==y3.bh&&(y2.ak==y3.ak))))then
   some (.inr (some false))
  else
   some (.inl (IntKind.i64.wrap (v1+1)))
 else
  some (.inr (some true))
def Wq (a0 a1:List Au):Option (Bool):=
 if((a0.length:Int) !=(a1.length:Int))then
  some false
 else
  AA (fun s:Int=>Te a0 a1 s) 0
def Mo (a0 a1:Ad):Option (Bool):=
 if(a0.ab==a1.ab)then
  (Wv a0.al a1.al).bind fun v1=>
  if v1 then
   (Wq a0.ae a1.ae).bind fun v2=>
   some v2
  else
   some false
 else
  some false
def Mq (a0:Am):Option (Bool):=
 (G6 (a0.ah.length:Int) 1 4).bind fun v1=>
 if v1 then
  (G6 (a0.a7.length:Int) 1 3).bind fun v2=>
  if v2 then
   (T5 a0.ao).bind fun v3=>
   if(!v3)then
    some false
   else
    (G7 a0.ah (fun y0_=>eT y0_ a0)).bind fun v4=>
    if v4 then
     some false
    else
     (G7 a0.a7 (fun y0_=>eP y0_ a0)).bind fun v5=>
     if v5 then
      some false
     else
      (getI a0.ah 0).bind fun y6=>
      (getI a0.ah (IntKind.i64.wrap ((a0.ah.length:Int)-1))).bind fun y7=>
      (PD a0 y7).bind fun v8=>
      (Tp y6 a0.ab v8).bind fun v9=>
      (Wr a0.ah v9 (fun y0_ y1_=>Mo y0_ y1_)).bind fun v10=>
      some v10
  else
   some false
 else
  some false
def dV (xs:List Int):Option (List Int):=Q3 8 xs
def Oc (xs:List Ac):Option (List Ac):=Q3 40 xs
def PV (a0:Am) (v1:List Int) (v2:List Ac) (v3:Int) (v4:List Ad):Option ((Int × List Ad) ⊕ Option (Am)):=
 if(decide (v3<(a0.ah.length:Int)))then
  (getI a0.ah v3).bind fun y5=>
  (P8 y5).bind fun v6=>
  req ((((v4).length:Int)+(([v6]:List Ad).length:Int))*64≤140737488355328∧((v4).length:Int)+(([v6]:List Ad).length:Int)≤140737488355328)<|
  some (.inl ((IntKind.i64.wrap (v3+1)),(v4++ [v6])))
 else
  some (.inr (some (⟨a0.ab,v4,v1,v2⟩:Am)))
def TF (a0:Am):Option (Am):=
 (dV a0.a7).bind fun v1=>
 (Oc a0.ao).bind fun v2=>
 AA (fun s:Int × List Ad=>PV a0 v1 v2 s.1 s.2) (0, [])
def J7 (a0:Am) (a1:Int):Option (Ad):=
 (getI a0.a7 a1).bind fun y1=>
 (getI a0.ah y1).bind fun y2=>
 some y2
def Qm (a0:Ab):Option (Bool):=
 (G6 (a0.length:Int) 1 3).bind fun v1=>
 if v1 then
  (Qq a0 ([]:Ab)).bind fun v2=>
  some v2
 else
  some false
def WT (a0:Ab):Option (Bool):=
 (Qm a0).bind fun v1=>
 some (!v1)
def Mm (a0:Ad) (a1:AI):Option (Bool):=
 if((a1.aw.length:Int)==(a0.al.length:Int))then
  (G7 a1.aw (fun y0_=>WT y0_)).bind fun v1=>
  some (!v1)
 else
  some false
def Wy (a0:Ad) (a1:A2):Option (Bool):=
 if(a1.aj==1)then
  if((a1.bd.aw.length:Int)==0)then
   (Mm a0 a1.bj).bind fun v1=>
   some v1
  else
   some false
 else
  if(a1.aj==2)then
   (Mm a0 a1.bd).bind fun v2=>
   some (v2&&((a1.bj.aw.length:Int)==0))
  else
   if(a1.aj==3)then
    (Mm a0 a1.bd).bind fun v3=>
    if v3 then
     (Mm a0 a1.bj).bind fun v4=>
     if v4 then
      (getI a1.bd.aw 0).bind fun y5=>
      (getI a1.bj.aw 0).bind fun y6=>
      some (y5==y6)
     else
      some false
    else
     some false
   else
    some false
def gR (a0:A2):Option (Bool):=
 some (((a0.aj==0)&&((a0.bd.aw.length:Int)==0))&&((a0.bj.aw.length:Int)==0))
def To (a0:Am) (a1:BN):Option (Bool):=
 (G6 a1.a8 0 (IntKind.i64.wrap ((a0.a7.length:Int)-1))).bind fun v1=>
 if(!v1)then
  some false
 else
  if(a1.bc==0)then
   (J7 a0 a1.a8).bind fun v2=>
   (Wy v2 a1.bp).bind fun v3=>
   some v3
  else
   if(a1.bc==1)then
    (gR a1.bp).bind fun v4=>
    some v4
   else
    if(a1.bc==(-1))then
     (gR a1.bp).bind fun v5=>
     some v5
    else
     some false
def PO (a0:Ad) (a1:AI):Option (Ac):=
 req ((a0.ab).length+(([47]:Ab)).length≤9223372036854775807)<|
 (getI a1.aw 0).bind fun y1=>
 req (((a0.ab++([47]:Ab))).length+(y1).length≤9223372036854775807)<|
 req (0≤(1:Int)∧(1:Int)≤(a1.aw.length:Int)∧(a1.aw.length:Int)≤(a1.aw.length:Int))<|
 (XJ (A7 a1.aw 1 (a1.aw.length:Int)) ([44]:Ab)).bind fun v2=>
 some (⟨((a0.ab++([47]:Ab))++y1),v2,false⟩:Ac)
def J6 (a0:Int) (a1:Ac) (a2:List Az):Option (Unit × List Az):=
 req ((((a2).length:Int)+(([(⟨a0,a1.af,a1.ay,0⟩:Az)]:List Az).length:Int))*48≤140737488355328∧((a2).length:Int)+(([(⟨a0,a1.af,a1.ay,0⟩:Az)]:List Az).length:Int)≤140737488355328)<|
 some ((),(a2++ [(⟨a0,a1.af,a1.ay,0⟩:Az)]))
def Tw (a0:Ad) (a1:Ab):Option (Ab):=
 req ((a0.ab).length+(([46]:Ab)).length≤9223372036854775807)<|
 req (((a0.ab++([46]:Ab))).length+(a1).length≤9223372036854775807)<|
 req ((((a0.ab++([46]:Ab))++a1)).length+(([47]:Ab)).length≤9223372036854775807)<|
 some (((a0.ab++([46]:Ab))++a1)++([47]:Ab))
def Mi (a0:Ad) (a1:Ab) (a2:AI):Option (Ab):=
 (Tw a0 a1).bind fun v1=>
 (Mk a0 a1).bind fun v2=>
 (getI a2.aw v2.bh).bind fun y3=>
 req ((v1).length+(y3).length≤9223372036854775807)<|
 req (((v1++y3)).length+(([47]:Ab)).length≤9223372036854775807)<|
 (getI a2.aw 0).bind fun y4=>
 req ((((v1++y3)++([47]:Ab))).length+(y4).length≤9223372036854775807)<|
 some (((v1++y3)++([47]:Ab))++y4)
def gD (a0:Int):Option (Bool):=
 some (decide (a0≥1))
def fY (a0:Int):Option (Bool):=
 some (decide (a0≥2))
def PL (v9:Int) (y11:Au) (v13:Ab) (v14:List Az):Option ((Int × List Az) ⊕ Option (List Az)):=
 if(v13 !=([]:Ab))then
  (fY y11.ak).bind fun v15=>
  if v15 then
   (J6 2 (⟨v13,([]:Ab),false⟩:Ac) v14).bind fun v16=>
   some (.inl ((IntKind.i64.wrap (v9+1)),v16.2))
  else
   some (.inl ((IntKind.i64.wrap (v9+1)),v14))
 else
  some (.inl ((IntKind.i64.wrap (v9+1)),v14))
def N8 (v9:Int) (v10:List Az) (y11:Au) (v12 v13:Ab):Option ((Int × List Az) ⊕ Option (List Az)):=
 if(v12 !=([]:Ab))then
  if(v12 !=v13)then
   (gD y11.ak).bind fun v17=>
   if v17 then
    (J6 3 (⟨v12,([]:Ab),false⟩:Ac) v10).bind fun v18=>
    PL v9 y11 v13 v18.2
   else
    PL v9 y11 v13 v10
  else
   PL v9 y11 v13 v10
 else
  PL v9 y11 v13 v10
def eB (a0:Ad) (a1:A2) (v9:Int) (v10:List Az) (y11:Au) (v12:Ab):Option ((Int × List Az) ⊕ Option (List Az)):=
 if(a1.aj !=2)then
  (Mi a0 y11.ab a1.bj).bind fun v19=>
  N8 v9 v10 y11 v12 v19
 else
  N8 v9 v10 y11 v12 ([]:Ab)
def PJ (a0:Ad) (a1:A2) (v9:Int) (v10:List Az):Option ((Int × List Az) ⊕ Option (List Az)):=
 if(decide (v9<(a0.ae.length:Int)))then
  (getI a0.ae v9).bind fun y11=>
  Vd (σ:=Ab) (
   if(a1.aj !=1)then
    (Mi a0 y11.ab a1.bd).bind fun v20=>
    some (.inl v20)
   else
    some (.inl ([]:Ab))
  ) (fun s=>eB a0 a1 v9 v10 y11 s)
 else
  some (.inr (some v10))
def PK (a0:Ad) (a1:A2) (v8:List Az):Option (List Az):=
 AA (fun s:Int × List Az=>PJ a0 a1 s.1 s.2) (0,v8)
def Tj (a0:Ad) (a1:A2) (v1:Ab) (v4:List Az) (v5 v6:Ab) (v7:Bool):Option (List Az):=
 if(a1.aj==1)then
  (J6 6 (⟨v5,([]:Ab),false⟩:Ac) v4).bind fun v21=>
  (J6 2 (⟨v5,v6,v7⟩:Ac) v21.2).bind fun v22=>
  PK a0 a1 v22.2
 else
  if(a1.aj==2)then
   (J6 3 (⟨v1,([]:Ab),false⟩:Ac) v4).bind fun v23=>
   PK a0 a1 v23.2
  else
   if(a1.aj==3)then
    (J6 2 (⟨v5,v6,v7⟩:Ac) v4).bind fun v24=>
    PK a0 a1 v24.2
   else
    PK a0 a1 v4
def N7 (a0:Ad) (a1:A2) (v1 v2:Ab) (v3:Bool) (v4:List Az):Option (List Az):=
 if(a1.aj !=2)then
  (PO a0 a1.bj).bind fun v25=>
  Tj a0 a1 v1 v4 v25.af v25.ay v25.bb
 else
  Tj a0 a1 v1 v4 ([]:Ab) ([]:Ab) false
def WM (a0:Ad) (a1:A2):Option (List Az):=
 Vd (σ:=Ab × Ab × Bool × List Az) (
  if(a1.aj !=1)then
   (PO a0 a1.bd).bind fun v26=>
   (J6 7 v26 ([]:List Az)).bind fun v27=>
   some (.inl (v26.af,v26.ay,v26.bb,v27.2))
  else
   some (.inl (([]:Ab),([]:Ab),false, []))
 ) (fun s=>N7 a0 a1 s.1 s.2.1 s.2.2.1 s.2.2.2)
def dL (a0:List Ac) (a1:Ab) (a2:Ac→(Ab)→Option Int) (v1:Int):Option (Int × Bool):=
 if(decide (v1<(a0.length:Int)))then
  (getI a0 v1).bind fun y2=>
  (a2 y2 a1).bind fun v3=>
  some (v1,(v3==0))
 else
  some (v1,false)
def Pz (a0:List Ac) (a1:Ab) (a2:Ac→(Ab)→Option Int) (v4 v5:Int):Option ((Int × Int) ⊕ Option (Int × Bool)):=
 if(decide (v4<v5))then
  (getI a0 (IntKind.i64.wrap (Int.fdiv (IntKind.u64.wrap (IntKind.i64.wrap (v4+v5))) (2^(min ((1:Int)).toNat (IntKind.bits .u64)))))).bind fun y6=>
  (a2 y6 a1).bind fun v7=>
  if(decide (v7<0))then
   some (.inl ((IntKind.i64.wrap ((IntKind.i64.wrap (Int.fdiv (IntKind.u64.wrap (IntKind.i64.wrap (v4+v5))) (2^(min ((1:Int)).toNat (IntKind.bits .u64)))))+1)),v5))
  else
   some (.inl (v4,(IntKind.i64.wrap (Int.fdiv (IntKind.u64.wrap (IntKind.i64.wrap (v4+v5))) (2^(min ((1:Int)).toNat (IntKind.bits .u64)))))))
 else
  some (.inr (dL a0 a1 a2 v4))
def dM (a0:List Ac) (a1:Ab) (a2:Ac→(Ab)→Option Int):Option (Int × Bool):=
 AA (fun s:Int × Int=>Pz a0 a1 a2 s.1 s.2) (0,(a0.length:Int))
def Tz (a0:Ab):Option (Bool):=
 some (a0 !=a0)
def WJ (a0 a1:Ab):Option (Int):=
 (Tz a0).bind fun v1=>
 (Tz a1).bind fun v2=>
 if v1 then
  if v2 then
   some 0
  else
   some (-1)
 else
  if v2 then
   some 1
  else
   if(Op.bytesLess a0 a1)then
    some (-1)
   else
    if(!(Op.bytesLess a0 a1||a0==a1))then
     some 1
    else
     some 0
def PZ (a0:Ac) (a1:Ab):Option (Int):=
 (WJ a0.af a1).bind fun v1=>
 some v1
def Mp (a0:List Ac) (a1:Ab):Option (Int × Bool):=
 (dM a0 a1 (fun y0_ y1_=>PZ y0_ y1_)).bind fun v1=>
 some (v1.1,v1.2)
def Ou (a0:List Ac) (a1:Ac):Option (List Ac):=
 (Mp a0 a1.af).bind fun v1=>
 if v1.2 then
  (getI a0 v1.1).bind fun y2=>
  some (a0.set (v1.1).toNat a1)
 else
  (YX a0 v1.1 ([a1]:List Ac)).bind fun v3=>
  some v3
def Qi (a0:Ab) (a2:List BC) (v3:Int):Option ((Int) ⊕ Option (Ab × Bool × Bool)):=
 if(decide (v3<(a2.length:Int)))then
  (getI a2 v3).bind fun y4=>
  if(y4.af==a0)then
   some (.inr (some (y4.ay,y4.c8,true)))
  else
   some (.inl (IntKind.i64.wrap (v3+1)))
 else
  some (.inr (some (([]:Ab),false,false)))
def XK (a0:Ab) (a1:List Ac) (a2:List BC):Option (Ab × Bool × Bool):=
 (Mp a1 a0).bind fun v1=>
 if v1.2 then
  (getI a1 v1.1).bind fun y2=>
  some (y2.ay,(!y2.bb),true)
 else
  AA (fun s:Int=>Qi a0 a2 s) 0
def TV (a0:Ab):Option (Int × Bool):=
 (XC a0 (-999999) 999999).bind fun v1=>
 some (v1.1,v1.2)
def Xe (a0:Az) (a1:Ab) (a2:Bool):Option (Bool):=
 (TV a1).bind fun v1=>
 if(a0.aj==4)then
  if v1.2 then
   if a2 then
    (G6 (IntKind.i64.wrap (v1.1+a0.jq)) (-999999) 999999).bind fun v2=>
    some v2
   else
    some true
  else
   some ((!a2)||false)
 else
  if(a0.aj==5)then
   some ((a2&&v1.2)&&(decide (v1.1≥a0.jq)))
  else
   if(a0.aj==6)then
    some (!a2)
   else
    if(a0.aj==7)then
     some (a2&&(a1==a0.ay))
    else
     some true
def Ie (a0:List Az) (a1:List BC) (v1:Int) (v2:List Ac):Option ((Int × List Ac) ⊕ Option (Int × Ab × List Ac)):=
 if(decide (v1<(a0.length:Int)))then
  (getI a0 v1).bind fun y3=>
  if(y3.aj==2)then
   (Ou v2 (⟨y3.af,y3.ay,false⟩:Ac)).bind fun v4=>
   some (.inl ((IntKind.i64.wrap (v1+1)),v4))
  else
   if(y3.aj==3)then
    (Ou v2 (⟨y3.af,([]:Ab),true⟩:Ac)).bind fun v5=>
    some (.inl ((IntKind.i64.wrap (v1+1)),v5))
   else
    (XK y3.af v2 a1).bind fun v6=>
    if(!v6.2.2)then
     some (.inr (some (1,y3.af, [])))
    else
     (Xe y3 v6.1 v6.2.1).bind fun v7=>
     if(!v7)then
      some (.inr (some (2,([]:Ab), [])))
     else
      if(y3.aj==4)then
       (TV v6.1).bind fun v8=>
       (gA (IntKind.i64.wrap (v8.1+y3.jq))).bind fun v9=>
       (Ou v2 (⟨y3.af,v9,false⟩:Ac)).bind fun v10=>
       some (.inl ((IntKind.i64.wrap (v1+1)),v10))
      else
       some (.inl ((IntKind.i64.wrap (v1+1)),v2))
 else
  some (.inr (some (3,([]:Ab),v2)))
def fZ (a0:List Az) (a1:List BC):Option (Int × Ab × List Ac):=
 AA (fun s:Int × List Ac=>Ie a0 a1 s.1 s.2) (0, [])
def Ya (a0:List Ac) (a1:Ab):Option (BC):=
 (Mp a0 a1).bind fun v1=>
 if(!v1.2)then
  some (⟨a1,([]:Ab),false⟩:BC)
 else
  (getI a0 v1.1).bind fun y2=>
  some (⟨a1,y2.ay,true⟩:BC)
def Oj (a0:List Ac) (a1:List Az) (v1:List BC):Option ((List BC) ⊕ Option (List BC × List Ac × Bool)):=
 (fZ a1 v1).bind fun v2=>
 if(v2.1 !=1)then
  some (.inr (some (v1,v2.2.2,(v2.1==3))))
 else
  (Ya a0 v2.2.1).bind fun v3=>
  req ((((v1).length:Int)+(([v3]:List BC).length:Int))*40≤140737488355328∧((v1).length:Int)+(([v3]:List BC).length:Int)≤140737488355328)<|
  some (.inl (v1++ [v3]))
def gI (a0:List Ac) (a1:List Az):Option (List BC × List Ac × Bool):=
 AA (fun s:List BC=>Oj a0 a1 s) []
def fR (a0:Ac):Option (Bool):=
 some a0.bb
def fG (v2:List Ac):Option (List Ac × Bool):=
 (Ox v2 (fun y0_=>fR y0_)).bind fun v3=>
 if(decide ((v3.length:Int)>24))then
  some ([],false)
 else
  some (v3,true)
def Qj (a1:List Ac) (v4:Int) (v5:List Ac):Option ((Int × List Ac) ⊕ Option (List Ac × Bool)):=
 if(decide (v4<(a1.length:Int)))then
  (getI a1 v4).bind fun y6=>
  (Ou v5 y6).bind fun v7=>
  some (.inl ((IntKind.i64.wrap (v4+1)),v7))
 else
  some (.inr (fG v5))
def XH (a0 a1:List Ac):Option (List Ac × Bool):=
 (Oc a0).bind fun v1=>
 AA (fun s:Int × List Ac=>Qj a1 s.1 s.2) (0,v1)
def XW (a0:List Ac) (a1:List Az):Option (List Ac × Bool):=
 (gI a0 a1).bind fun v1=>
 (XH a0 v1.2.1).bind fun v2=>
 if((!v1.2.2)||(!v2.2))then
  req (((([]:List Ac).length:Int)+((a0).length:Int))*40≤140737488355328∧(([]:List Ac).length:Int)+((a0).length:Int)≤140737488355328)<|
  some (a0,false)
 else
  some (v2.1,true)
def Oe (a0:Am) (a1:BN):Option (Am × Bool):=
 (TF a0).bind fun v1=>
 if(a1.bc !=0)then
  (getI a0.a7 a1.a8).bind fun y2=>
  (G6 (IntKind.i64.wrap (y2+a1.bc)) 0 (IntKind.i64.wrap ((a0.ah.length:Int)-1))).bind fun v3=>
  if(!v3)then
   some (v1,false)
  else
   (getI v1.a7 a1.a8).bind fun y4=>
   some ((⟨v1.ab,v1.ah,(v1.a7.set (a1.a8).toNat (IntKind.i64.wrap (y2+a1.bc))),v1.ao⟩:Am),true)
 else
  (J7 a0 a1.a8).bind fun v5=>
  (WM v5 a1.bp).bind fun v6=>
  (XW a0.ao v6).bind fun v7=>
  some ((⟨v1.ab,v1.ah,v1.a7,v7.1⟩:Am),v7.2)
def Ob (a0:List Int) (v2 v3:Int):Option ((Int × Int) ⊕ Option (Int)):=
 if(decide (v3<(a0.length:Int)))then
  (getI a0 v3).bind fun y4=>
  some (.inl ((bif (decide (y4>v2))then y4 else v2),(IntKind.i64.wrap (v3+1))))
 else
  some (.inr (some v2))
def Wx (a0:List Int):Option (Int):=
 if(decide ((a0.length:Int)<1))then
  none
 else
  (getI a0 0).bind fun y1=>
  AA (fun s:Int × Int=>Ob a0 s.1 s.2) (y1,1)
def Oa (a0:List Int) (v2 v3:Int):Option ((Int × Int) ⊕ Option (Int)):=
 if(decide (v3<(a0.length:Int)))then
  (getI a0 v3).bind fun y4=>
  some (.inl ((bif (decide (y4<v2))then y4 else v2),(IntKind.i64.wrap (v3+1))))
 else
  some (.inr (some v2))
def Wz (a0:List Int):Option (Int):=
 if(decide ((a0.length:Int)<1))then
  none
 else
  (getI a0 0).bind fun y1=>
  AA (fun s:Int × Int=>Oa a0 s.1 s.2) (y1,1)
def PN (a0:Am):Option (Bool):=
 (Wx a0.a7).bind fun v1=>
 (Wz a0.a7).bind fun v2=>
 some (decide ((IntKind.i64.wrap (v1-v2))≤1))
def PE (a0:Am) (v1 v2:Int):Option ((Int × Int) ⊕ Option (Int)):=
 if(decide (v2<(a0.a7.length:Int)))then
  (J7 a0 v2).bind fun v3=>
  (PD a0 v3).bind fun v4=>
  if(v4==3)then
   some (.inr (some 2))
  else
   if(v4==0)then
    some (.inl (0,(IntKind.i64.wrap (v2+1))))
   else
    some (.inl (v1,(IntKind.i64.wrap (v2+1))))
 else
  some (.inr (some v1))
def W6 (a0:Am):Option (Int):=
 AA (fun s:Int × Int=>PE a0 s.1 s.2) (1,0)
def Wu (a0 a1:Ab):Option (Bool):=
 if(decide ((a0.length:Int)≥(a1.length:Int)))then
  req (0≤(0:Int)∧(0:Int)≤(a1.length:Int)∧(a1.length:Int)≤(a0.length:Int))<|
  some ((A7 a0 0 (a1.length:Int))==a1)
 else
  some false
def dQ (a0 a1:Ab):Option (Ab × Bool):=
 (Wu a0 a1).bind fun v1=>
 if(!v1)then
  some (a0,false)
 else
  req (0≤(a1.length:Int)∧(a1.length:Int)≤(a0.length:Int)∧(a0.length:Int)≤(a0.length:Int))<|
  some ((A7 a0 (a1.length:Int) (a0.length:Int)),true)
def TA (a0 a1:Ab):Option (Ab × Bool):=
 (dQ a0 a1).bind fun v1=>
 some (v1.1,v1.2)
def WE (a0 a1:Ab):Option (Ab × Ab × Bool):=
 (Py a0 a1).bind fun v1=>
 if(decide (v1≥0))then
  req (0≤(0:Int)∧(0:Int)≤v1∧v1≤(a0.length:Int))<|
  req (0≤(IntKind.i64.wrap (v1+(a1.length:Int)))∧(IntKind.i64.wrap (v1+(a1.length:Int)))≤(a0.length:Int)∧(a0.length:Int)≤(a0.length:Int))<|
  some ((A7 a0 0 v1),(A7 a0 (IntKind.i64.wrap (v1+(a1.length:Int))) (a0.length:Int)),true)
 else
  some (a0,([]:Ab),false)
def QA (a0 a1:Ab):Option (Ab × Ab × Bool):=
 (WE a0 a1).bind fun v1=>
 some (v1.1,v1.2.1,v1.2.2)
def WA (a0:Ad) (a1 a2:Ab):Option (Ab × Ab × Bool):=
 (Tw a0 a1).bind fun v1=>
 (TA a2 v1).bind fun v2=>
 (QA v2.1 ([47]:Ab)).bind fun v3=>
 if v2.2 then
  if v3.2.2 then
   (Qm v3.1).bind fun v4=>
   if v4 then
    (Qm v3.2.1).bind fun v5=>
    if(!v5)then
     some (([]:Ab),([]:Ab),false)
    else
     some (v3.1,v3.2.1,true)
   else
    some (([]:Ab),([]:Ab),false)
  else
   some (([]:Ab),([]:Ab),false)
 else
  some (([]:Ab),([]:Ab),false)
def Px (a0:Ad) (a1:Ab) (a2:List Ac) (v1:Int) (v2:List (Ab)):Option ((Int × List (Ab)) ⊕ Option (List (Ab))):=
 if(decide (v1<(a2.length:Int)))then
  (getI a2 v1).bind fun y3=>
  (WA a0 a1 y3.af).bind fun v4=>
  if v4.2.2 then
   req ((((v2).length:Int)+(([y3.af]:List (Ab)).length:Int))*16≤140737488355328∧((v2).length:Int)+(([y3.af]:List (Ab)).length:Int)≤140737488355328)<|
   some (.inl ((IntKind.i64.wrap (v1+1)),(v2++ [y3.af])))
  else
   some (.inl ((IntKind.i64.wrap (v1+1)),v2))
 else
  some (.inr (some v2))
def Tl (a0:Ad) (a1:Ab) (a2:List Ac):Option (List (Ab)):=
 AA (fun s:Int × List (Ab)=>Px a0 a1 a2 s.1 s.2) (0, [])
def Xn (a0 a1:Ab):Option (Int):=
 (Py a0 a1).bind fun v1=>
 some v1
def eL (v3:Ab) (v4:Int) (v5:List (Ab)):Option (List (Ab)):=
 (getI v5 v4).bind fun y6=>
 req (0≤(0:Int)∧(0:Int)≤(IntKind.i64.wrap (v4+1))∧(IntKind.i64.wrap (v4+1))≤((v5.set (v4).toNat v3).length:Int))<|
 some (A7 (v5.set (v4).toNat v3) 0 (IntKind.i64.wrap (v4+1)))
def PC (a0 a1:Ab) (a2 v2:Int) (v7:Ab) (v8:Int) (v9:List (Ab)):Option ((Ab × Int × List (Ab)) ⊕ Option (List (Ab))):=
 if(decide (v8<(IntKind.i64.wrap ((bif (decide ((IntKind.i64.wrap ((a0.length:Int)+1))<v2))then(IntKind.i64.wrap ((a0.length:Int)+1))else v2)-1))))then
  (Xn v7 a1).bind fun v10=>
  if(decide (v10<0))then
   some (.inr (eL v7 v8 v9))
  else
   req (0≤(0:Int)∧(0:Int)≤(IntKind.i64.wrap (v10+a2))∧(IntKind.i64.wrap (v10+a2))≤(v7.length:Int))<|
   (getI v9 v8).bind fun y11=>
   req (0≤(IntKind.i64.wrap (v10+(a1.length:Int)))∧(IntKind.i64.wrap (v10+(a1.length:Int)))≤(v7.length:Int)∧(v7.length:Int)≤(v7.length:Int))<|
   some (.inl ((A7 v7 (IntKind.i64.wrap (v10+(a1.length:Int))) (v7.length:Int)),(IntKind.i64.wrap (v8+1)),(v9.set (v8).toNat (A7 v7 0 (IntKind.i64.wrap (v10+a2))))))
 else
  some (.inr (eL v7 v8 v9))
def eM (a0 a1:Ab) (a2 v2:Int):Option (List (Ab)):=
 req (0≤(bif (decide ((IntKind.i64.wrap ((a0.length:Int)+1))<v2))then(IntKind.i64.wrap ((a0.length:Int)+1))else v2)∧(bif (decide ((IntKind.i64.wrap ((a0.length:Int)+1))<v2))then(IntKind.i64.wrap ((a0.length:Int)+1))else v2)*16≤140737488355328∧(bif (decide ((IntKind.i64.wrap ((a0.length:Int)+1))<v2))then(IntKind.i64.wrap ((a0.length:Int)+1))else v2)≤140737488355328)<|
 AA (fun s:Ab × Int × List (Ab)=>PC a0 a1 a2 v2 s.1 s.2.1 s.2.2) (a0,0,(List.replicate ((bif (decide ((IntKind.i64.wrap ((a0.length:Int)+1))<v2))then(IntKind.i64.wrap ((a0.length:Int)+1))else v2)).toNat ([]:Ab)))
def eO (a0 a1:Ab) (a2 a3:Int):Option (List (Ab)):=
 if(a3==0)then
  some []
 else
  if(a1==([]:Ab))then
   (fE a0 a3).bind fun v1=>
   some v1
  else
   if(decide (a3<0))then
    (Xi a0 a1).bind fun v12=>
    eM a0 a1 a2 (IntKind.i64.wrap (v12+1))
   else
    eM a0 a1 a2 a3
def TX (a0 a1:Ab):Option (List (Ab)):=
 (eO a0 a1 0 (-1)).bind fun v1=>
 some v1
def WQ (a0:Ad) (a1:Ac):Option (AI × Bool):=
 req ((a0.ab).length+(([47]:Ab)).length≤9223372036854775807)<|
 (TA a1.af (a0.ab++([47]:Ab))).bind fun v1=>
 (TX a1.ay ([44]:Ab)).bind fun v2=>
 req (((([v1.1]:List (Ab)).length:Int)+((v2).length:Int))*16≤140737488355328∧(([v1.1]:List (Ab)).length:Int)+((v2).length:Int)≤140737488355328)<|
 if v1.2 then
  (Mm a0 (⟨([v1.1]++v2)⟩:AI)).bind fun v3=>
  if v3 then
   (PO a0 (⟨([v1.1]++v2)⟩:AI)).bind fun v4=>
   if(!(a1.af==v4.af&&(a1.ay==v4.ay&&(a1.bb==v4.bb))))then
    some ((⟨[]⟩:AI),false)
   else
    some ((⟨([v1.1]++v2)⟩:AI),true)
  else
   some ((⟨[]⟩:AI),false)
 else
  some ((⟨[]⟩:AI),false)
def PH (a0:Ad) (a1:List Ac) (v1:Int) (v2:List AI):Option ((Int × List AI) ⊕ Option (List AI)):=
 if(decide (v1<(a1.length:Int)))then
  (getI a1 v1).bind fun y3=>
  (WQ a0 y3).bind fun v4=>
  if v4.2 then
   req ((((v2).length:Int)+(([v4.1]:List AI).length:Int))*24≤140737488355328∧((v2).length:Int)+(([v4.1]:List AI).length:Int)≤140737488355328)<|
   some (.inl ((IntKind.i64.wrap (v1+1)),(v2++ [v4.1])))
  else
   some (.inl ((IntKind.i64.wrap (v1+1)),v2))
 else
  some (.inr (some v2))
def eK (a0:Ad) (a1:List Ac):Option (List AI):=
 AA (fun s:Int × List AI=>PH a0 a1 s.1 s.2) (0, [])
def PI (a0:Ad) (a1:Ab) (v1:List AI) (v2:Int) (v3:List (Ab)):Option ((Int × List (Ab)) ⊕ Option (List (Ab))):=
 if(decide (v2<(v1.length:Int)))then
  (getI v1 v2).bind fun y4=>
  (Mi a0 a1 y4).bind fun v5=>
  req ((((v3).length:Int)+(([v5]:List (Ab)).length:Int))*16≤140737488355328∧((v3).length:Int)+(([v5]:List (Ab)).length:Int)≤140737488355328)<|
  some (.inl ((IntKind.i64.wrap (v2+1)),(v3++ [v5])))
 else
  some (.inr (some v3))
def Ts (a0:Ad) (a1:Ab) (a2:List Ac):Option (List (Ab)):=
 (eK a0 a2).bind fun v1=>
 AA (fun s:Int × List (Ab)=>PI a0 a1 v1 s.1 s.2) (0, [])
def fO (a0:Ab) (a1:List (Ab)):Option (Bool):=
 (Tg a1 a0).bind fun v1=>
 some v1
def TO (a0:List (Ab)) (a1:List (Ab)):Option (List (Ab)):=
 (Td a0).bind fun v1=>
 (Ox v1 (fun y0_=>fO y0_ a1)).bind fun v2=>
 some v2
def WD (a0:Ad) (a1:Ab) (a2:List Ac):Option (List (Ab)):=
 (Tl a0 a1 a2).bind fun v1=>
 (Ts a0 a1 a2).bind fun v2=>
 (TO v1 v2).bind fun v3=>
 some v3
def dZ (a0:Ad) (a1:Ab) (a2:List Ac):Option (List (Ab)):=
 (Ts a0 a1 a2).bind fun v1=>
 (Tl a0 a1 a2).bind fun v2=>
 (TO v1 v2).bind fun v3=>
 some v3
def WO (a0:Ad) (a1:Ab) (a2:Int) (a3:List Ac):Option (Bool):=
 if(a2==0)then
  (Tl a0 a1 a3).bind fun v1=>
  some ((v1.length:Int)==0)
 else
  if(a2==1)then
   (WD a0 a1 a3).bind fun v2=>
   some ((v2.length:Int)==0)
  else
   (WD a0 a1 a3).bind fun v3=>
   if((v3.length:Int)==0)then
    (dZ a0 a1 a3).bind fun v4=>
    some ((v4.length:Int)==0)
   else
    some false
def PB (a0:Am):Option (Bool):=
 (getI a0.ah 0).bind fun y1=>
 (W6 a0).bind fun v2=>
 (WO y1 a0.ab v2 a0.ao).bind fun v3=>
 some v3
def Xa (a0:Am) (a1:BN):Option (Bool):=
 (Oe a0 a1).bind fun v1=>
 if v1.2 then
  (PN v1.1).bind fun v2=>
  if v2 then
   (PB v1.1).bind fun v3=>
   some v3
  else
   some false
 else
  some false
def Of (a1:List BN) (a2:Bool) (v3:Int) (v4:Ab) (v5:List Ad) (v6:List Int) (v7:List Ac) (v8:List Bool):Option ((Int × Ab × List Ad × List Int × List Ac × List Bool) ⊕ Option (Am × List Bool × Bool)):=
 if(decide (v3<(a1.length:Int)))then
  (getI a1 v3).bind fun y9=>
  (To (⟨v4,v5,v6,v7⟩:Am) y9).bind fun v10=>
  if a2 then
   if(y9.bc !=0)then
    if v10 then
     (Xa (⟨v4,v5,v6,v7⟩:Am) y9).bind fun v11=>
     if(!(!v11))then
      (Oe (⟨v4,v5,v6,v7⟩:Am) y9).bind fun v12=>
      req ((((v8).length:Int)+(([v12.2]:List Bool).length:Int))*1≤140737488355328∧((v8).length:Int)+(([v12.2]:List Bool).length:Int)≤140737488355328)<|
      some (.inl ((IntKind.i64.wrap (v3+1)),v12.1.ab,v12.1.ah,v12.1.a7,v12.1.ao,(v8++ [v12.2])))
     else
      req ((((v8).length:Int)+(([false]:List Bool).length:Int))*1≤140737488355328∧((v8).length:Int)+(([false]:List Bool).length:Int)≤140737488355328)<|
      some (.inl ((IntKind.i64.wrap (v3+1)),v4,v5,v6,v7,(v8++ [false])))
    else
     req ((((v8).length:Int)+(([false]:List Bool).length:Int))*1≤140737488355328∧((v8).length:Int)+(([false]:List Bool).length:Int)≤140737488355328)<|
     some (.inl ((IntKind.i64.wrap (v3+1)),v4,v5,v6,v7,(v8++ [false])))
   else
    if(v10&&true)then
     (Oe (⟨v4,v5,v6,v7⟩:Am) y9).bind fun v13=>
     req ((((v8).length:Int)+(([v13.2]:List Bool).length:Int))*1≤140737488355328∧((v8).length:Int)+(([v13.2]:List Bool).length:Int)≤140737488355328)<|
     some (.inl ((IntKind.i64.wrap (v3+1)),v13.1.ab,v13.1.ah,v13.1.a7,v13.1.ao,(v8++ [v13.2])))
    else
     req ((((v8).length:Int)+(([false]:List Bool).length:Int))*1≤140737488355328∧((v8).length:Int)+(([false]:List Bool).length:Int)≤140737488355328)<|
     some (.inl ((IntKind.i64.wrap (v3+1)),v4,v5,v6,v7,(v8++ [false])))
  else
   if(v10&&true)then
    (Oe (⟨v4,v5,v6,v7⟩:Am) y9).bind fun v14=>
    req ((((v8).length:Int)+(([v14.2]:List Bool).length:Int))*1≤140737488355328∧((v8).length:Int)+(([v14.2]:List Bool).length:Int)≤140737488355328)<|
    some (.inl ((IntKind.i64.wrap (v3+1)),v14.1.ab,v14.1.ah,v14.1.a7,v14.1.ao,(v8++ [v14.2])))
   else
    req ((((v8).length:Int)+(([false]:List Bool).length:Int))*1≤140737488355328∧((v8).length:Int)+(([false]:List Bool).length:Int)≤140737488355328)<|
    some (.inl ((IntKind.i64.wrap (v3+1)),v4,v5,v6,v7,(v8++ [false])))
 else
  some (.inr (some ((⟨v4,v5,v6,v7⟩:Am),v8,true)))
def Xy (a0:Am) (a1:List BN) (a2:Bool):Option (Am × List Bool × Bool):=
 (Mq a0).bind fun v1=>
 if((!v1)||(decide ((a1.length:Int)>20)))then
  some ((⟨([]:Ab), [], [], []⟩:Am), [],false)
 else
  (TF a0).bind fun v2=>
  AA (fun s:Int × Ab × List Ad × List Int × List Ac × List Bool=>Of a1 a2 s.1 s.2.1 s.2.2.1 s.2.2.2.1 s.2.2.2.2.1 s.2.2.2.2.2) (0,v2.ab,v2.ah,v2.a7,v2.ao, [])
def Tq (a0 a1:Ad) (v1:Int):Option ((Int) ⊕ Option (Bool)):=
 if(decide (v1<(a0.ae.length:Int)))then
  (getI a0.ae v1).bind fun y2=>
  (getI a1.ae v1).bind fun y3=>
  if((y2.ab !=y3.ab)||(y2.bh !=y3.bh))then
   some (.inr (some false))
  else
   some (.inl (IntKind.i64.wrap (v1+1)))
 else
  some (.inr (some true))
def WK (a0 a1:Ad):Option (Bool):=
 AA (fun s:Int=>Tq a0 a1 s) 0
def Tu (a0 a1:Ad) (v4:Int):Option ((Int) ⊕ Option (Bool)):=
 if(decide (v4<(a0.al.length:Int)))then
  (getI a0.al v4).bind fun y5=>
  (getI a1.al v4).bind fun y6=>
  if(y5 !=y6)then
   some (.inr (some false))
  else
   some (.inl (IntKind.i64.wrap (v4+1)))
 else
  some (.inr (WK a0 a1))
def Xb (a0 a1:Ad):Option (Bool):=
 if(((a0.ab !=a1.ab)||((a0.al.length:Int) !=(a1.al.length:Int)))||((a0.ae.length:Int) !=(a1.ae.length:Int)))then
  some false
 else
  AA (fun s:Int=>Tu a0 a1 s) 0
def X2 (a0 a1:Int):Option (Int):=
 if(decide (a0>a1))then
  some a0
 else
  some a1
def Qb (a0 a1:Ad) (v1 v2:Int):Option ((Int × Int) ⊕ Option (Int)):=
 if(decide (v2<(a0.ae.length:Int)))then
  (getI a0.ae v2).bind fun y3=>
  (getI a1.ae v2).bind fun y4=>
  (X2 (IntKind.i64.wrap (y3.ak-y4.ak)) (IntKind.i64.wrap (0-(IntKind.i64.wrap (y3.ak-y4.ak))))).bind fun v5=>
  some (.inl ((IntKind.i64.wrap (v1+v5)),(IntKind.i64.wrap (v2+1))))
 else
  some (.inr (some v1))
def XZ (a0 a1:Ad):Option (Int):=
 AA (fun s:Int × Int=>Qb a0 a1 s.1 s.2) (0,0)
def TM (a0:Am) (v10:List Ad) (v11:Int):Option ((Int) ⊕ Option (Bool)):=
 if(decide (v11<(v10.length:Int)))then
  (getI a0.ah v11).bind fun y12=>
  (K3 y12).bind fun v13=>
  if v13 then
   (getI v10 v11).bind fun y14=>
   (Xb y14 y12).bind fun v15=>
   if v15 then
    (XZ y14 y12).bind fun v16=>
    if(v16 !=0)then
     some (.inr (some false))
    else
     some (.inl (IntKind.i64.wrap (v11+1)))
   else
    some (.inr (some false))
  else
   some (.inr (some false))
 else
  some (.inr (some true))
def Qp (a0:Am):Option (Bool):=
 (FC (a0.ah.length:Int) 1 4).bind fun v1=>
 if v1 then
  (getI a0.ah 0).bind fun y2=>
  (K3 y2).bind fun v3=>
  if v3 then
   (HE y2 a0.ab).bind fun v4=>
   if(decide (v4<0))then
    some false
   else
    (getI a0.ah (IntKind.i64.wrap ((a0.ah.length:Int)-1))).bind fun y5=>
    (K3 y5).bind fun v6=>
    if v6 then
     (HE y5 a0.ab).bind fun v7=>
     if(decide (v7<0))then
      some false
     else
      (HE y5 a0.ab).bind fun v8=>
      (getI y5.ae v8).bind fun y9=>
      (T0 y2 a0.ab y9.ak).bind fun v10=>
      if((v10.length:Int) !=(a0.ah.length:Int))then
       some false
      else
       AA (fun s:Int=>TM a0 v10 s) 0
    else
     some false
  else
   some false
 else
  some false
def P3 (a0:List Int) (a1 a2 v1:Int):Option ((Int) ⊕ Option (Bool)):=
 if(decide (v1<(a0.length:Int)))then
  (getI a0 v1).bind fun y2=>
  (FC y2 a1 a2).bind fun v3=>
  if(!v3)then
   some (.inr (some false))
  else
   some (.inl (IntKind.i64.wrap (v1+1)))
 else
  some (.inr (some true))
def X9 (a0:List Int) (a1 a2:Int):Option (Bool):=
 AA (fun s:Int=>P3 a0 a1 a2 s) 0
def XB (a0:Am):Option (Bool):=
 (Qp a0).bind fun v1=>
 if v1 then
  (FC (a0.a7.length:Int) 1 3).bind fun v2=>
  if v2 then
   (X9 a0.a7 0 (IntKind.i64.wrap ((a0.ah.length:Int)-1))).bind fun v3=>
   if v3 then
    (J8 a0.ao).bind fun v4=>
    some v4
   else
    some false
  else
   some false
 else
  some false
def Xq (a0:Am) (a1:List BN) (a2:Bool):Option (Am × List Bool × Bool):=
 (XB a0).bind fun v1=>
 if((!v1)||(decide ((a1.length:Int)>20)))then
  some ((⟨([]:Ab), [], [], []⟩:Am), [],false)
 else
  (Qy a0).bind fun v2=>
  (TT v2 a1 a2).bind fun v3=>
  some (v3.1,v3.2,true)
def WC (a0:An):Option (Ad × An):=
 (HD a0).bind fun v1=>
 (Cv v1.2 14).bind fun v2=>
 if(v2.1==0)then
  (F3 v2.2 ([([]:Ab),([116,116]:Ab),([84]:Ab)]:List (Ab))).bind fun v3=>
  some ((⟨v3.1,v1.1.al,v1.1.ae⟩:Ad),(⟨v3.2.ar,v3.2.bf,v3.2.au⟩:An))
 else
  if(v2.1==1)then
   (F3 v2.2 ([([97]:Ab),([97,98,99,100]:Ab),([]:Ab),([100]:Ab)]:List (Ab))).bind fun v4=>
   req ((((v1.1.al).length:Int)+(([v4.1]:List (Ab)).length:Int))*16≤140737488355328∧((v1.1.al).length:Int)+(([v4.1]:List (Ab)).length:Int)≤140737488355328)<|
   some ((⟨v1.1.ab,(v1.1.al++ [v4.1]),v1.1.ae⟩:Ad),(⟨v4.2.ar,v4.2.bf,v4.2.au⟩:An))
  else
   if(v2.1==2)then
    req (0≤(0:Int)∧(0:Int)≤1∧(1:Int)≤(v1.1.al.length:Int))<|
    some ((⟨v1.1.ab,(A7 v1.1.al 0 1),v1.1.ae⟩:Ad),(⟨v2.2.ar,v2.2.bf,v2.2.au⟩:An))
   else
    if(v2.1==3)then
     (F3 v2.2 ([([97]:Ab),([122]:Ab),([122,122]:Ab)]:List (Ab))).bind fun v5=>
     (Cv v5.2 5).bind fun v6=>
     (Cv v6.2 5).bind fun v7=>
     req ((((v1.1.ae).length:Int)+(([(⟨v5.1,v6.1,(IntKind.i64.wrap (v7.1-1))⟩:Au)]:List Au).length:Int))*32≤140737488355328∧((v1.1.ae).length:Int)+(([(⟨v5.1,v6.1,(IntKind.i64.wrap (v7.1-1))⟩:Au)]:List Au).length:Int)≤140737488355328)<|
     some ((⟨v1.1.ab,v1.1.al,(v1.1.ae++ [(⟨v5.1,v6.1,(IntKind.i64.wrap (v7.1-1))⟩:Au)])⟩:Ad),(⟨v7.2.ar,v7.2.bf,v7.2.au⟩:An))
    else
     some ((⟨v1.1.ab,v1.1.al,v1.1.ae⟩:Ad),(⟨v2.2.ar,v2.2.bf,v2.2.au⟩:An))
def WB (a0:An) (a1:Ad):Option (List Ac × An):=
 (Tt a0 a1).bind fun v1=>
 (Cv v1.2 12).bind fun v2=>
 if(v2.1==0)then
  req ((((v1.1).length:Int)+(([(⟨([97]:Ab),([33]:Ab),false⟩:Ac)]:List Ac).length:Int))*40≤140737488355328∧((v1.1).length:Int)+(([(⟨([97]:Ab),([33]:Ab),false⟩:Ac)]:List Ac).length:Int)≤140737488355328)<|
  some ((v1.1++ [(⟨([97]:Ab),([33]:Ab),false⟩:Ac)]),(⟨v2.2.ar,v2.2.bf,v2.2.au⟩:An))
 else
  if(v2.1==1)then
   req ((a1.ab).length+(([47]:Ab)).length≤9223372036854775807)<|
   (F3 v2.2 ([([97,98,99,100]:Ab),([97]:Ab),([49]:Ab)]:List (Ab))).bind fun v3=>
   req (((a1.ab++([47]:Ab))).length+(v3.1).length≤9223372036854775807)<|
   (F3 v3.2 ([([120]:Ab),([120,44,44,121]:Ab),([]:Ab),([120,44,121,44,122]:Ab)]:List (Ab))).bind fun v4=>
   (FB v1.1 (⟨((a1.ab++([47]:Ab))++v3.1),v4.1,false⟩:Ac)).bind fun v5=>
   some (v5,(⟨v4.2.ar,v4.2.bf,v4.2.au⟩:An))
  else
   if(v2.1==2)then
    if(decide ((v1.1.length:Int)>0))then
     (Cv v2.2 (v1.1.length:Int)).bind fun v6=>
     (getI v1.1 v6.1).bind fun y7=>
     some ((v1.1.set (v6.1).toNat {y7 with bb:=true}),(⟨v6.2.ar,v6.2.bf,v6.2.au⟩:An))
    else
     some (v1.1,(⟨v2.2.ar,v2.2.bf,v2.2.au⟩:An))
   else
    if(v2.1==3)then
     req ((a1.ab).length+(([46,105,47]:Ab)).length≤9223372036854775807)<|
     (F3 v2.2 ([([120]:Ab),([120,47,49,47,50]:Ab),([47,49]:Ab),([97,98,99,100,47,49]:Ab)]:List (Ab))).bind fun v8=>
     req (((a1.ab++([46,105,47]:Ab))).length+(v8.1).length≤9223372036854775807)<|
     (FB v1.1 (⟨((a1.ab++([46,105,47]:Ab))++v8.1),([]:Ab),false⟩:Ac)).bind fun v9=>
     some (v9,(⟨v8.2.ar,v8.2.bf,v8.2.au⟩:An))
    else
     some (v1.1,(⟨v2.2.ar,v2.2.bf,v2.2.au⟩:An))
def W0 (a0:List Int):Option (Ad × Ab × Int × Int × List Ac):=
 (WC (⟨a0,0,0⟩:An)).bind fun v1=>
 (F3 v1.2 ([([105]:Ab),([105]:Ab),([105]:Ab),([105]:Ab),([106]:Ab),([122]:Ab)]:List (Ab))).bind fun v2=>
 (Cv v2.2 6).bind fun v3=>
 (Cv v3.2 5).bind fun v4=>
 (HD v4.2).bind fun v5=>
 (WB v5.2 v5.1).bind fun v6=>
 some (v1.1,v2.1,(IntKind.i64.wrap (v3.1-1)),v4.1,v6.1)
def hY (a0:Ad) (a1:Ab) (a2:Int):Option (List Ad × Bool):=
 (T4 a0 a1).bind fun v1=>
 if v1 then
  (Qn a2).bind fun v2=>
  if(!v2)then
   some ([],false)
  else
   (Tp a0 a1 a2).bind fun v3=>
   some (v3,true)
 else
  some ([],false)
def Xg (a0:Ad) (a1:Ab) (a2 a3:Int) (a4:List Ac):Option (Am × Bool):=
 (hY a0 a1 a2).bind fun v1=>
 if v1.2 then
  (G6 a3 1 3).bind fun v2=>
  if v2 then
   (T5 a4).bind fun v3=>
   if(!v3)then
    some ((⟨([]:Ab), [], [], []⟩:Am),false)
   else
    req (0≤a3∧a3*8≤140737488355328∧a3≤140737488355328)<|
    (Oc a4).bind fun v4=>
    some ((⟨a1,v1.1,(List.replicate (a3).toNat 0),v4⟩:Am),true)
  else
   some ((⟨([]:Ab), [], [], []⟩:Am),false)
 else
  some ((⟨([]:Ab), [], [], []⟩:Am),false)
def TJ (a0 a1:List Bool) (v1:Int):Option ((Int) ⊕ Option (Bool)):=
 if(decide (v1<(a0.length:Int)))then
  (getI a0 v1).bind fun y2=>
  (getI a1 v1).bind fun y3=>
  if(y2 !=y3)then
   some (.inr (some false))
  else
   some (.inl (IntKind.i64.wrap (v1+1)))
 else
  some (.inr (some true))
def X4 (a0 a1:List Bool):Option (Bool):=
 if((a0.length:Int) !=(a1.length:Int))then
  some false
 else
  AA (fun s:Int=>TJ a0 a1 s) 0
def TC (a0:List (Ab)) (a1:List (Ab)) (v1:Int):Option ((Int) ⊕ Option (Bool)):=
 if(decide (v1<(a0.length:Int)))then
  (getI a0 v1).bind fun y2=>
  (getI a1 v1).bind fun y3=>
  if(y2 !=y3)then
   some (.inr (some false))
  else
   some (.inl (IntKind.i64.wrap (v1+1)))
 else
  some (.inr (some true))
def XV (a0:List (Ab)) (a1:List (Ab)):Option (Bool):=
 if((a0.length:Int) !=(a1.length:Int))then
  some false
 else
  AA (fun s:Int=>TC a0 a1 s) 0
def TH (a0 a1:Ad) (v2:Int):Option ((Int) ⊕ Option (Bool)):=
 if(decide (v2<(a0.ae.length:Int)))then
  (getI a0.ae v2).bind fun y3=>
  (getI a1.ae v2).bind fun y4=>
  if(!(y3.ab==y4.ab&&(y3.bh==y4.bh&&(y3.ak==y4.ak))))then
   some (.inr (some false))
  else
   some (.inl (IntKind.i64.wrap (v2+1)))
 else
  some (.inr (some true))
def XY (a0 a1:Ad):Option (Bool):=
 if(a0.ab !=a1.ab)then
  some false
 else
  (XV a0.al a1.al).bind fun v1=>
  if((!v1)||((a0.ae.length:Int) !=(a1.ae.length:Int)))then
   some false
  else
   AA (fun s:Int=>TH a0 a1 s) 0
def TN (a0 a1:List Ad) (v1:Int):Option ((Int) ⊕ Option (Bool)):=
 if(decide (v1<(a0.length:Int)))then
  (getI a0 v1).bind fun y2=>
  (getI a1 v1).bind fun y3=>
  (XY y2 y3).bind fun v4=>
  if(!v4)then
   some (.inr (some false))
  else
   some (.inl (IntKind.i64.wrap (v1+1)))
 else
  some (.inr (some true))
def XI (a0 a1:List Ad):Option (Bool):=
 if((a0.length:Int) !=(a1.length:Int))then
  some false
 else
  AA (fun s:Int=>TN a0 a1 s) 0
def TG (a0 a1:List Int) (v1:Int):Option ((Int) ⊕ Option (Bool)):=
 if(decide (v1<(a0.length:Int)))then
  (getI a0 v1).bind fun y2=>
  (getI a1 v1).bind fun y3=>
  if(y2 !=y3)then
   some (.inr (some false))
  else
   some (.inl (IntKind.i64.wrap (v1+1)))
 else
  some (.inr (some true))
def X3 (a0 a1:List Int):Option (Bool):=
 if((a0.length:Int) !=(a1.length:Int))then
  some false
 else
  AA (fun s:Int=>TG a0 a1 s) 0
def TD (a0 a1:List Ac) (v1:Int):Option ((Int) ⊕ Option (Bool)):=
 if(decide (v1<(a0.length:Int)))then
  (getI a0 v1).bind fun y2=>
  (getI a1 v1).bind fun y3=>
  if(!(y2.af==y3.af&&(y2.ay==y3.ay&&(y2.bb==y3.bb))))then
   some (.inr (some false))
  else
   some (.inl (IntKind.i64.wrap (v1+1)))
 else
  some (.inr (some true))
def X1 (a0 a1:List Ac):Option (Bool):=
 if((a0.length:Int) !=(a1.length:Int))then
  some false
 else
  AA (fun s:Int=>TD a0 a1 s) 0
def T1 (a0 a1:Am):Option (Bool):=
 if(a0.ab==a1.ab)then
  (XI a0.ah a1.ah).bind fun v1=>
  if v1 then
   (X3 a0.a7 a1.a7).bind fun v2=>
   if v2 then
    (X1 a0.ao a1.ao).bind fun v3=>
    some v3
   else
    some false
  else
   some false
 else
  some false
def Ot (a0:Am):Option (Bool × Bool):=
 (Mq a0).bind fun v1=>
 if(!v1)then
  some (false,false)
 else
  (PN a0).bind fun v2=>
  some (v2,true)
def Qv (a0:Am):Option (Bool × Bool):=
 (Mq a0).bind fun v1=>
 if(!v1)then
  some (false,false)
 else
  (PB a0).bind fun v2=>
  some (v2,true)
def WU (v1:Am × List BN × Bool) (v2:Am × List Bool × Bool):Option (Bool):=
 if(!v2.2.2)then
  some true
 else
  (Qv v1.1).bind fun v10=>
  (Ot v1.1).bind fun v11=>
  if(((!v10.2)||(!v11.2))||((v2.2.1.length:Int) !=(v1.2.1.length:Int)))then
   some false
  else
   if(((!v1.2.2)||(!v10.1))||(!v11.1))then
    some true
   else
    (Qv v2.1).bind fun v12=>
    (Ot v2.1).bind fun v13=>
    some (((v12.2&&v13.2)&&v12.1)&&v13.1)
def XU (a0 a1:List Int):Option (Bool):=
 if(decide ((IntKind.i64.wrap ((a0.length:Int)+(a1.length:Int)))>1048576))then
  some true
 else
  (WI a0).bind fun v1=>
  (Xy v1.1 v1.2.1 v1.2.2).bind fun v2=>
  (Xq v1.1 v1.2.1 v1.2.2).bind fun v3=>
  (W0 a1).bind fun v4=>
  (Xg v4.1 v4.2.1 v4.2.2.1 v4.2.2.2.1 v4.2.2.2.2).bind fun v5=>
  (Oo v4.1 v4.2.1 v4.2.2.1 v4.2.2.2.1 v4.2.2.2.2).bind fun v6=>
  if(v2.2.2 !=v3.2.2)then
   some false
  else
   (X4 v2.2.1 v3.2.1).bind fun v7=>
   if v7 then
    (T1 v2.1 v3.1).bind fun v8=>
    if v8 then
     if(v5.2 !=v6.2)then
      some false
     else
      (T1 v5.1 v6.1).bind fun v9=>
      if(!v9)then
       some false
      else
       if v5.2 then
        (Ot v5.1).bind fun v14=>
        if v14.2 then
         if v14.1 then
          (Mq v5.1).bind fun v15=>
          if(!v15)then
           some false
          else
           WU v1 v2
         else
          some false
        else
         some false
       else
        WU v1 v2
    else
     some false
   else
    some false
def rP:FS:=D4 222 [.v .s, .v .s] (.v (.i .i64)) (fun x=>Py x.1 x.2.1) fun x r _ h=>ziO x.1 x.2.1 r h
def zhr:FS:=D4 211 [.v .s, .v (.i .u8)] (.v (.i .i64)) (fun x=>Wt x.1 x.2.1) fun x r _ h=>zhn x.1 x.2.1 r h
def zrQ:FS:=D4 193 [.v .s, .v (.i .i64), .v (.i .i64)] (.tu (.cons (.v (.i .i64)) (.cons (.v .b) .nil))) (fun x=>XC x.1 x.2.1 x.2.2.1) fun x r _ h=>zrH x.1 x.2.1 x.2.2.1 r h
def zsc:FS:=D4 173 [.v (.i .i64)] (.v .s) (fun x=>gA x.1) fun x r _ h=>zr9 x.1 r h
def zq9:FS:=D4 254 [.v .s, .v .s] (.v (.i .i64)) (fun x=>Xi x.1 x.2.1) fun x r _ h=>zrw x.1 x.2.1 r h
def zrG:FS:=D4 151 [.v (.l .s), .v .s] (.v .s) (fun x=>XJ x.1 x.2.1) fun x r _ h=>zr1 x.1 x.2.1 r h
def zoN:FS:=D4 253 [.v .s, .v (.i .i64)] (.v (.l .s)) (fun x=>fE x.1 x.2.1) fun x r _ h=>zoA x.1 x.2.1 r h
def zfg:FS:=D4 175 [.v (.l (.st 0)), .v (.i .i64), .v (.l (.st 0))] (.v (.l (.st 0))) (fun x=>YX x.1 x.2.1 x.2.2.1) fun x r hp h=>zD3 (t:=25) (it:=3) (el:=77) (K:=3) (by kernel_rfl) (fun _=>by kernel_rfl) zAJ h
def zml:FS:=Ak 63 [.rf (.st 1)] (.tu (.cons (.v (.i .i64)) (.cons (.v (.st 1)) .nil))) (fun x=>Od x.1) [] [.inl]
def G8:FS:=Ak 18 [.rf (.st 1), .v (.i .i64)] (.tu (.cons (.v (.i .i64)) (.cons (.v (.st 1)) .nil))) (fun x=>Cv x.1 x.2.1) [zml] [.inl]
def P2:FS:=Ak 15 [.rf (.st 1), .v (.i .i64)] (.tu (.cons (.v .b) (.cons (.v (.st 1)) .nil))) (fun x=>Gn x.1 x.2.1) [G8] []
def Ml:FS:=Ak 29 [.rf (.st 1), .v (.l .s)] (.tu (.cons (.v .s) (.cons (.v (.st 1)) .nil))) (fun x=>F3 x.1 x.2.1) [G8] []
def WN:FS:=Ak 31 [.rf (.st 1)] (.tu (.cons (.v (.st 3)) (.cons (.v (.st 1)) .nil))) (fun x=>HD x.1) [Ml,G8,P2] [.sp [.i .i64, .l (.i .u8), .i .i64, .i .u64, .l (.st 2)], .inl, .pt]
def gL:FS:=Ak 77 [.v (.st 3)] (.v (.st 3)) (fun x=>Qx x.1) [] []
def Ow:FS:=Ak 83 [.v (.st 3), .v .s] (.v (.i .i64)) (fun x=>HE x.1 x.2.1) [] [.sp [.i .i64]]
def tL:FS:=Ak 54 [.v (.st 3), .v .s, .v (.i .i64)] (.v (.st 3)) (fun x=>Qw x.1 x.2.1 x.2.2.1) [gL,Ow] []
def sJ:FS:=Ak 98 [.rf (.st 1), .v (.st 3)] (.tu (.cons (.v (.st 4)) (.cons (.v (.st 1)) .nil))) (fun x=>Mn x.1 x.2.1) [Ml] [.sp [.l (.i .u8), .i .i64, .i .u64, .l .s]]
def zrO:FS:=Ak 103 [.v (.l .s), .v .s] (.v .s) (fun x=>fW x.1 x.2.1) [] [.sp [.s, .i .i64], .inl]
def Xj:FS:=Ak 58 [.v (.st 3), .v (.st 4)] (.v (.st 0)) (fun x=>K1 x.1 x.2.1) [zrO] []
def T6:FS:=Ak 57 [.v (.l (.st 0)), .v (.st 0)] (.v (.l (.st 0))) (fun x=>FB x.1 x.2.1) [] [.sp [.i .i64]]
def tA:FS:=Ak 141 [.v .s, .v (.i .u8)] (.v (.l .s)) (fun x=>On x.1 x.2.1) [] [.sp [.l .s, .i .i64, .i .i64], .inl]
def HF:FS:=Ak 37 [.v (.i .i64), .v (.i .i64), .v (.i .i64)] (.v .b) (fun x=>FC x.1 x.2.1 x.2.2.1) [] []
def gE:FS:=Ak 185 [.v .s, .v .s] (.v .b) (fun x=>Qo x.1 x.2.1) [] [.sp [.i .i64], .sp [.b, .i .i64]]
def sX:FS:=Ak 167 [.v .s] (.v .b) (fun x=>Qu x.1) [HF,gE] []
def s6:FS:=Ak 142 [.v (.st 3), .v (.st 4)] (.v .b) (fun x=>Mr x.1 x.2.1) [sX] [.sp [.i .i64]]
def zrZ:FS:=Ak 102 [.v (.st 3), .v (.st 0)] (.tu (.cons (.v (.st 4)) (.cons (.v .b) .nil))) (fun x=>XL x.1 x.2.1) [tA,s6,Xj] []
def XN:FS:=Ak 56 [.v (.st 3), .v (.l (.st 0))] (.v (.l (.st 4))) (fun x=>Ql x.1 x.2.1) [zrZ] [.sp [.l (.st 4), .i .i64], .inl]
def gF:FS:=Ak 99 [.v (.st 3), .v (.st 2), .v (.st 4)] (.v .s) (fun x=>K4 x.1 x.2.1 x.2.2.1) [] []
def zmW:FS:=Ak 100 [.rf (.st 1)] (.tu (.cons (.v .s) (.cons (.v (.st 1)) .nil))) (fun x=>WV x.1) [Ml] []
def zna:FS:=Ak 101 [.rf (.st 1)] (.tu (.cons (.v .s) (.cons (.v (.st 1)) .nil))) (fun x=>WW x.1) [Ml] []
def sH:FS:=Ak 55 [.rf (.st 1), .v (.st 3)] (.tu (.cons (.v (.l (.st 0))) (.cons (.v (.st 1)) .nil))) (fun x=>Tt x.1 x.2.1) [G8,P2,zmW,zna,T6,XN,sJ,gF,Xj] [.sp [.l (.st 0), .i .i64, .l (.i .u8), .i .i64, .i .u64], .sp [.i .i64, .l (.i .u8), .i .i64, .i .u64, .l (.st 0)], .inl, .sp [.i .i64, .l (.i .u8), .i .i64, .i .u64, .l (.st 0)], .inl, .inl]
def sO:FS:=Ak 130 [.v .s, .v (.i .i64)] (.v .b) (fun x=>Qd x.1 x.2.1) [] [.sp [.i .i64]]
def uF:FS:=Ak 160 [.v (.l .s), .v .s] (.v (.i .i64)) (fun x=>T3 x.1 x.2.1) [] [.sp [.i .i64]]
def zrU:FS:=Ak 131 [.v (.l .s)] (.v .b) (fun x=>XG x.1) [HF,sO,uF] [.sp [.i .i64]]
def Xr:FS:=Ak 82 [.v (.st 3)] (.v .b) (fun x=>K3 x.1) [sO,zrU,HF] [.sp [.i .i64]]
def zro:FS:=Ak 36 [.v (.st 3), .v .s, .v (.i .i64)] (.v .b) (fun x=>Qt x.1 x.2.1 x.2.2.1) [Xr,Ow,HF] []
def tV:FS:=Ak 161 [.v .s] (.v .b) (fun x=>T9 x.1) [HF,gE] []
def tY:FS:=Ak 162 [.v .s] (.v .b) (fun x=>T7 x.1) [gE] []
def zr3:FS:=Ak 132 [.v .s, .v .s, .v .b] (.v .b) (fun x=>XM x.1 x.2.1 x.2.2.1) [tV,tY] []
def zqI:FS:=Ak 84 [.v (.l (.st 0))] (.v .b) (fun x=>Xl x.1) [zr3] [.sp [.i .i64]]
def TY:FS:=Ak 38 [.v (.l (.st 0))] (.v .b) (fun x=>J8 x.1) [zqI] [.sp [.i .i64]]
def tJ:FS:=Ak 39 [.v (.st 3), .v .s, .v (.i .i64)] (.v (.l (.st 3))) (fun x=>T0 x.1 x.2.1 x.2.2.1) [gL,Ow,tL] [.sp [.i .i64, .l (.st 3)], .inl]
def zvD:FS:=Ak 76 [.v (.l (.i .i64))] (.v (.l (.i .i64))) (fun x=>Yc x.1) [] []
def gN:FS:=Ak 27 [.v (.st 5)] (.v (.st 5)) (fun x=>Qy x.1) [zvD,gL] [.sp [.i .i64, .l (.st 3)]]
def sQ:FS:=Ak 9 [.v (.st 3), .v .s, .v (.i .i64), .v (.i .i64), .v (.l (.st 0))] (.tu (.cons (.v (.st 5)) (.cons (.v .b) .nil))) (fun x=>Oo x.1 x.2.1 x.2.2.1 x.2.2.2.1 x.2.2.2.2.1) [zro,HF,TY,tJ,gN] []
def zrL:FS:=Ak 59 [.v (.i .i64), .v (.i .i64)] (.v (.i .i64)) (fun x=>XR x.1 x.2.1) [] []
def zpO:FS:=Ak 104 [.v (.st 5)] (.v (.l (.i .i64))) (fun x=>XA x.1) [Ow] [.sp [.l (.i .i64), .i .i64]]
def zvc:FS:=Ak 105 [.v (.l (.i .i64)), .v (.i .i64)] (.v .b) (fun x=>Ua x.1 x.2.1) [] [.sp [.i .i64]]
def sZ:FS:=Ak 60 [.v (.st 5)] (.v (.i .i64)) (fun x=>TQ x.1) [zpO,zvc] []
def fS:FS:=Ak 61 [.v (.st 3), .v .s, .v (.l (.st 0))] (.v (.l .s)) (fun x=>Qa x.1 x.2.1 x.2.2.1) [XN,Ow,gF] [.sp [.l .s, .i .i64]]
def sC:FS:=Ak 16 [.rf (.st 1)] (.tu (.cons (.v (.st 5)) (.cons (.v (.st 1)) .nil))) (fun x=>Mh x.1) [WN,G8,tL,sH,XN,sQ,sZ,fS,P2,T6,zrL,Xj] [.sp [.l (.i .u8), .i .i64, .i .u64, .s, .l .s, .l (.st 2)], .sp [.l (.st 0), .i .i64], .sp [.i .i64, .l (.i .u8), .i .i64, .i .u64, .l (.i .i64)], .inl, .sp [.i .i64, .l (.i .u8), .i .i64, .i .u64, .l (.st 0)], .inl, .inl, .inl]
def zlw:FS:=Ak 106 [.rf (.st 1), .v (.l (.i .i64))] (.tu (.cons (.v (.i .i64)) (.cons (.v (.st 1)) .nil))) (fun x=>WL x.1 x.2.1) [G8] []
def zmU:FS:=Ak 107 [.rf (.st 1), .v (.st 3), .v (.l (.st 0))] (.tu (.cons (.v (.st 6)) (.cons (.v (.st 1)) .nil))) (fun x=>W4 x.1 x.2.1 x.2.2.1) [XN,sJ,G8,P2] [.pt, .pt]
def rU:FS:=Ak 62 [.rf (.st 1), .v (.st 5)] (.tu (.cons (.v (.st 7)) (.cons (.v (.st 1)) .nil))) (fun x=>Tn x.1 x.2.1) [G8,P2,zlw,zmU] []
def zqz:FS:=Ak 120 [.v (.st 6)] (.v .b) (fun x=>sS x.1) [] []
def tB:FS:=Ak 121 [.v (.st 3), .v (.st 6)] (.v .b) (fun x=>TU x.1 x.2.1) [s6] []
def zrY:FS:=Ak 73 [.v (.st 5), .v (.st 7)] (.v .b) (fun x=>TP x.1 x.2.1) [HF,zqz,tB] []
def zrI:FS:=Ak 155 [.v (.st 3), .v (.st 6)] (.v .b) (fun x=>Qk x.1 x.2.1) [Xr,tB] []
def zr8:FS:=Ak 183 [.v (.st 3), .v (.st 6)] (.v (.l (.st 8))) (fun x=>XP x.1 x.2.1) [Xj] []
def zt6:FS:=Ak 184 [.v (.st 3), .v (.st 2), .v (.st 6)] (.v (.l (.st 8))) (fun x=>T2 x.1 x.2.1 x.2.2.1) [gF] [.sp [.s], .pt, .pt, .inl]
def ztc:FS:=Ak 157 [.v (.st 3), .v (.st 6)] (.v (.l (.st 8))) (fun x=>X6 x.1 x.2.1) [zr8,zt6] [.sp [.i .i64, .l (.st 8)]]
def zvU:FS:=Ak 218 [.v (.st 8)] (.v .b) (fun x=>Ye x.1) [tV,tY,HF] [.pt, .inl]
def ztq:FS:=Ak 205 [.v (.l (.st 8))] (.v .b) (fun x=>XX x.1) [zvU] [.sp [.i .i64]]
def zqA:FS:=Ak 232 [.v (.l (.st 0)), .v (.l (.st 9)), .v .s] (.tu (.cons (.v .s) (.cons (.v .b) (.cons (.v .b) .nil)))) (fun x=>Xo x.1 x.2.1 x.2.2.1) [] [.sp [.i .i64], .sp [.i .i64]]
def ztu:FS:=Ak 250 [.v .s] (.v (.i .i64)) (fun x=>TZ x.1) [HF] [.sp [.i .i64, .i .i64]]
def tX:FS:=Ak 234 [.v .s] (.tu (.cons (.v (.i .i64)) (.cons (.v .b) .nil))) (fun x=>Ub x.1) [ztu] [.pt]
def zr2:FS:=Ak 233 [.v (.st 8), .v .s, .v .b] (.v .b) (fun x=>XD x.1 x.2.1 x.2.2.1) [tX,HF] []
theorem uB: ∀(n:Nat) (xs:HP tab.car [.v (.i .i64)]) (y:GD tab.car (.v .s)),HV tab [.v (.i .i64)] xs→((fun x=>TR n x.1):HP tab.car [.v (.i .i64)]→Option (GD tab.car (.v .s))) xs=some y→tab.Rt 251 (Fw tab [.v (.i .i64)] xs) (FF tab (.v .s) y)
 |0,_,_,_,h=>nomatch h
 |n+1,xs,y,hp,h=>qV (ps:= [.v (.i .i64)]) (r:=(.v .s)) [D4 251 [.v (.i .i64)] (.v .s) (fun x=>TR n x.1) (uB n)] [] (φ:=(fun x=>TR (n+1) x.1)) (fun _ _=>by kernel_rfl) (fun _ _=>by kernel_rfl) xs y hp h
def zuy:FS:=D4 251 [.v (.i .i64)] (.v .s) (fun x=>gY x.1) (uB qL)
def ztN:FS:=Ak 235 [.v (.i .i64)] (.v .s) (fun x=>gO x.1) [zuy] []
def zta:FS:=Ak 219 [.v (.l (.st 8)), .v (.l (.st 9))] (.tu (.cons (.v (.i .i64)) (.cons (.v .s) (.cons (.v (.l (.st 0))) .nil)))) (fun x=>gM x.1 x.2.1) [zqA,zr2,T6,tX,ztN] [.sp [.l (.st 0), .i .i64], .inl, .inl]
def ztp:FS:=Ak 220 [.v (.l (.st 0)), .v .s] (.v (.st 9)) (fun x=>X5 x.1 x.2.1) [] [.sp [.i .i64]]
def zr0:FS:=Ak 206 [.v (.l (.st 0)), .v (.l (.st 8))] (.tu (.cons (.v (.l (.st 9))) (.cons (.v (.l (.st 0))) (.cons (.v .b) .nil)))) (fun x=>gC x.1 x.2.1) [zta,ztp] [.sp [.l (.st 9)]]
def zpu:FS:=Ak 207 [.v (.l (.st 0)), .v (.l (.st 0))] (.v (.l (.st 0))) (fun x=>Xu x.1 x.2.1) [T6] [.sp [.i .i64, .l (.st 0)], .sp [.l (.st 0), .i .i64], .inl]
def zpF:FS:=Ak 182 [.v (.l (.st 0)), .v (.l (.l (.st 8)))] (.tu (.cons (.v (.l (.st 0))) (.cons (.v (.l .b)) (.cons (.v .b) .nil)))) (fun x=>Xs x.1 x.2.1) [TY,zr0,zpu,ztq] [.sp [.i .i64], .sp [.l .b, .i .i64, .l (.st 0)], .inl]
def zuo:FS:=Ak 156 [.v (.l (.st 0)), .v (.l (.st 8))] (.tu (.cons (.v (.l (.st 0))) (.cons (.v .b) .nil))) (fun x=>Yb x.1 x.2.1) [zpF] []
def zuv:FS:=Ak 124 [.v (.st 3), .v (.l (.st 0)), .v (.st 6)] (.tu (.cons (.v (.l (.st 0))) (.cons (.v .b) (.cons (.v .b) .nil)))) (fun x=>QB x.1 x.2.1 x.2.2.1) [zrI,TY,ztc,zuo] []
def tT:FS:=Ak 75 [.v (.st 5), .v (.st 7)] (.tu (.cons (.v (.st 5)) (.cons (.v .b) .nil))) (fun x=>Ju x.1 x.2.1) [gN,HF,zuv] []
def zrh:FS:=Ak 122 [.v (.l (.i .i64))] (.v .b) (fun x=>TW x.1) [] [.sp [.i .i64], .sp [.i .i64]]
def zm9:FS:=Ak 202 [.v (.st 3), .v .s, .v .s] (.tu (.cons (.v .s) (.cons (.v .s) (.cons (.v .b) .nil)))) (fun x=>W7 x.1 x.2.1 x.2.2.1) [tA,sX] []
def fH:FS:=Ak 179 [.v (.st 3), .v .s, .v (.l (.st 0))] (.v (.l .s)) (fun x=>TL x.1 x.2.1 x.2.2.1) [zm9] [.sp [.l .s, .i .i64], .inl]
def sP:FS:=Ak 203 [.v (.st 3), .v .s, .v (.l (.st 0))] (.v .b) (fun x=>Oq x.1 x.2.1 x.2.2.1) [Xr,Ow,TY] []
def tE:FS:=Ak 204 [.v (.l .s), .v (.l .s)] (.v (.l .s)) (fun x=>XF x.1 x.2.1) [uF] [.sp [.l .s, .i .i64], .inl]
def zpr:FS:=Ak 180 [.v (.st 3), .v .s, .v (.l (.st 0))] (.tu (.cons (.v (.l .s)) (.cons (.v .b) .nil))) (fun x=>fM x.1 x.2.1 x.2.2.1) [sP,fH,fS,tE] []
def zrN:FS:=Ak 181 [.v (.st 3), .v .s, .v (.l (.st 0))] (.tu (.cons (.v (.l .s)) (.cons (.v .b) .nil))) (fun x=>fX x.1 x.2.1 x.2.2.1) [sP,fS,fH,tE] []
def zri:FS:=Ak 154 [.v (.st 3), .v .s, .v (.i .i64), .v (.l (.st 0))] (.v .b) (fun x=>Xk x.1 x.2.1 x.2.2.1 x.2.2.2.1) [fH,zpr,zrN] []
def zr5:FS:=Ak 123 [.v (.st 5)] (.v .b) (fun x=>TS x.1) [sZ,zri] []
def zuc:FS:=Ak 74 [.v (.st 5), .v (.st 7)] (.v .b) (fun x=>Qz x.1 x.2.1) [tT,zrh,zr5] []
def s7:FS:=Ak 26 [.v (.st 5), .v (.l (.st 7)), .v .b] (.tu (.cons (.v (.st 5)) (.cons (.v (.l .b)) .nil))) (fun x=>TT x.1 x.2.1 x.2.2.1) [zrY,tT,zuc] [.sp [.l .b, .i .i64, .s, .l (.st 3), .l (.i .i64), .l (.st 0)], .inl]
def zjw:FS:=Ak 17 [.rf (.st 1), .v (.st 5), .v (.i .i64)] (.tu (.cons (.v (.l (.st 7))) (.cons (.v (.st 1)) .nil))) (fun x=>WG x.1 x.2.1 x.2.2.1) [G8,rU,s7] [.sp [.l (.st 7), .i .i64, .l (.i .u8), .i .i64, .i .u64, .s, .l (.st 3), .l (.i .i64), .l (.st 0)]]
def ziE:FS:=Ak 19 [.rf (.st 1), .v (.st 5)] (.tu (.cons (.v (.st 7)) (.cons (.v (.st 1)) .nil))) (fun x=>Ws x.1 x.2.1) [rU,G8] [.inl]
def zjy:FS:=Ak 20 [.rf (.st 1)] (.tu (.cons (.v (.st 5)) (.cons (.v (.st 1)) .nil))) (fun x=>WH x.1) [sC,G8,WN,Ml] [.inl]
def zmp:FS:=Ak 4 [.v (.l (.i .u8))] (.tu (.cons (.v (.st 5)) (.cons (.v (.l (.st 7))) (.cons (.v .b) .nil)))) (fun x=>WI x.1) [P2,sC,zjw,G8,ziE,zjy] [.inl]
def Jv:FS:=Ak 33 [.v (.i .i64), .v (.i .i64), .v (.i .i64)] (.v .b) (fun x=>G6 x.1 x.2.1 x.2.2.1) [] []
def zpN:FS:=Ak 126 [.v (.l (.st 0))] (.v (.l .s)) (fun x=>Xw x.1) [] [.sp [.i .i64, .l .s]]
def zlL:FS:=Ak 191 [.v (.i .u8)] (.v .b) (fun x=>eN x.1) [] []
def zmS:FS:=Ak 192 [.v .s, .v (.i .u8)] (.v (.i .i64)) (fun x=>eY x.1 x.2.1) [zhr] []
def gH:FS:=Ak 169 [.v .s, .v .s] (.v .b) (fun x=>Qq x.1 x.2.1) [zlL,zmS] [.sp [.i .i64]]
def zr6:FS:=Ak 158 [.v .s] (.v .b) (fun x=>XQ x.1) [Jv,gH] []
def zpK:FS:=Ak 125 [.v (.l .s)] (.v .b) (fun x=>Xz x.1) [zr6] [.sp [.i .i64]]
def rL:FS:=D4 129 [.v (.l (.st 0)), .fn [.st 0] .b] (.v (.i .i64)) (fun x=>F4 x.1 (fun y=>x.2.1.φ (y,()))) fun x r hp h=>Gu (f:=129) (t:=Ve 3) (by kernel_rfl) (by kernel_rfl) (mJ (av:=(BB tab.av (.st 0))) (cn:=3) (fun _=>⟨_,rfl,rfl⟩) h (fun y b hb=>hp.2.1 (y,()) b hb))
def rK:FS:=D4 80 [.v (.l (.st 0)), .fn [.st 0] .b] (.v .b) (fun x=>G7 x.1 (fun y=>x.2.1.φ (y,()))) fun x r hp h=>Gu (f:=80) (t:=Rx 129) (by kernel_rfl) (by kernel_rfl) (Y3 h fun r hr=>rL.ok x r hp hr)
def zrR:FS:=Ak 159 [.v .s] (.v .b) (fun x=>XO x.1) [gH] []
def zrs:FS:=Ak 128 [.v .s, .v .b] (.v .b) (fun x=>Xm x.1 x.2.1) [zrR] []
def zni:FS:=Ak 127 [.v (.st 0)] (.v .b) (fun x=>WY x.1) [zrs] []
def zmk:FS:=J0 zni fun _=>by kernel_rfl
def zom:FS:=Ak 79 [.v (.l (.st 0))] (.v .b) (fun x=>Xd x.1) [zpN,zpK,rK,zmk] []
def zqK:FS:=Ak 81 [.v (.st 0)] (.v .b) (fun x=>Xf x.1) [] []
def zpG:FS:=J0 zqK fun _=>by kernel_rfl
def tF:FS:=Ak 34 [.v (.l (.st 0))] (.v .b) (fun x=>T5 x.1) [zom,rK,zpG] []
def zeB:FS:=D4 88 [.v (.l (.st 3)), .fn [.st 3] .b] (.v (.i .i64)) (fun x=>F4 x.1 (fun y=>x.2.1.φ (y,()))) fun x r hp h=>Gu (f:=88) (t:=Ve 3) (by kernel_rfl) (by kernel_rfl) (mJ (av:=(BB tab.av (.st 3))) (cn:=3) (fun _=>⟨_,rfl,rfl⟩) h (fun y b hb=>hp.2.1 (y,()) b hb))
def zdY:FS:=D4 44 [.v (.l (.st 3)), .fn [.st 3] .b] (.v .b) (fun x=>G7 x.1 (fun y=>x.2.1.φ (y,()))) fun x r hp h=>Gu (f:=44) (t:=Rx 88) (by kernel_rfl) (by kernel_rfl) (Y3 h fun r hr=>zeB.ok x r hp hr)
def zoI:FS:=Ak 134 [.v .s, .v (.i .i64)] (.v .b) (fun x=>Qc x.1 x.2.1) [Jv] [.sp [.i .i64]]
def zhM:FS:=Ak 163 [.v (.l .s), .v .s] (.v (.i .i64)) (fun x=>Ww x.1 x.2.1) [] [.sp [.i .i64]]
def rO:FS:=Ak 135 [.v (.l .s), .v .s] (.v .b) (fun x=>Tg x.1 x.2.1) [zhM] []
def s8:FS:=Ak 78 [.v (.i .i64)] (.v .b) (fun x=>Qn x.1) [Jv] []
def zpt:FS:=Ak 89 [.v (.st 3)] (.v .b) (fun x=>W9 x.1) [zoI,Jv,s8,rO] [.sp [.i .i64], .sp [.i .i64]]
def zft:FS:=D4 136 [.v (.l (.st 2)), .fn [.st 2] .b] (.v (.i .i64)) (fun x=>F4 x.1 (fun y=>x.2.1.φ (y,()))) fun x r hp h=>Gu (f:=136) (t:=Ve 3) (by kernel_rfl) (by kernel_rfl) (mJ (av:=(BB tab.av (.st 2))) (cn:=3) (fun _=>⟨_,rfl,rfl⟩) h (fun y b hb=>hp.2.1 (y,()) b hb))
def zj8:FS:=Ak 137 [.v (.st 2), .rf .s] (.v .b) (fun x=>eD x.1 x.2.1) [] []
def zjZ:FS:=J0 zj8 fun _=>by kernel_rfl
def eA:FS:=Ak 90 [.v (.st 3), .v .s] (.v (.i .i64)) (fun x=>PF x.1 x.2.1) [zft,zjZ] []
def tI:FS:=Ak 46 [.v (.st 3), .v .s] (.v .b) (fun x=>T4 x.1 x.2.1) [zpt,eA] []
def zn8:FS:=Ak 45 [.v (.st 3), .rf (.st 5)] (.v .b) (fun x=>eT x.1 x.2.1) [tI] []
def zm5:FS:=J0 zn8 fun _=>by kernel_rfl
def ziA:FS:=D4 91 [.v (.l (.i .i64)), .fn [.i .i64] .b] (.v (.i .i64)) (fun x=>F4 x.1 (fun y=>x.2.1.φ (y,()))) fun x r hp h=>Gu (f:=91) (t:=Zg) (by kernel_rfl) (by kernel_rfl) (yJ (av:=(BB tab.av (.i .i64))) (fun _=>rfl) h (fun y b hb=>hp.2.1 (y,()) b hb))
def zhq:FS:=D4 47 [.v (.l (.i .i64)), .fn [.i .i64] .b] (.v .b) (fun x=>G7 x.1 (fun y=>x.2.1.φ (y,()))) fun x r hp h=>Gu (f:=47) (t:=Rx 91) (by kernel_rfl) (by kernel_rfl) (Y3 h fun r hr=>ziA.ok x r hp hr)
def znw:FS:=Ak 48 [.v (.i .i64), .rf (.st 5)] (.v .b) (fun x=>eP x.1 x.2.1) [Jv] []
def znq:FS:=J0 znw fun _=>by kernel_rfl
def fK:FS:=Ak 92 [.v (.st 3), .v .s] (.v (.st 2)) (fun x=>Mk x.1 x.2.1) [eA] []
def sB:FS:=Ak 51 [.v (.st 5), .v (.st 3)] (.v (.i .i64)) (fun x=>PD x.1 x.2.1) [fK] []
def rM:FS:=D4 108 [.v (.l .s)] (.v (.l .s)) (fun x=>Td x.1) fun x r hp h=>Gu (f:=108) (t:=Rm 16 1) (by kernel_rfl) (by kernel_rfl) (Yx (bytes:=16) (sz:=1) (av:=(BB tab.av .s)) (fun x=>⟨MH _ x,Ms (by kernel_rfl) x⟩) h)
def zgv:FS:=D4 109 [.v (.l (.st 2))] (.v (.l (.st 2))) (fun x=>dO x.1) fun x r hp h=>Gu (f:=109) (t:=Rm 32 3) (by kernel_rfl) (by kernel_rfl) (Yx (bytes:=32) (sz:=3) (av:=(BB tab.av (.st 2))) (fun x=>⟨MH _ x,Ms (by kernel_rfl) x⟩) h)
def fP:FS:=Ak 65 [.v (.st 3)] (.v (.st 3)) (fun x=>P8 x.1) [rM,zgv] []
end Go.Proofs.YtlhlgboblghkdaaGreatDoor
end
