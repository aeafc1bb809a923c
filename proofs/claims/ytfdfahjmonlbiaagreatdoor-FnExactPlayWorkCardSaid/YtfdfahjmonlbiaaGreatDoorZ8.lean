/- Parts of a proof, joined: QM, QF1, QF2. -/
import Derived.Test.YtfdfahjmonlbiaaGreatDoorZ7
set_option linter.unusedVariables false
set_option linter.unusedSimpArgs false
noncomputable section
namespace Go.Proofs.YtfdfahjmonlbiaaGreatDoor
open Go.RowKit
set_option maxRecDepth 100000
set_option maxHeartbeats 4000000
abbrev Ac:=List UInt8
def QW (a0:List (Ac)) (v1 v2:Int):Option ((Int × Int) ⊕ Option (Int)):=
 if(decide (v2<(a0.length:Int)))then
  (Am a0 v2).bind fun y3=>
  if(decide ((IntKind.i64.wrap (v1-(y3.length:Int)))<0))then
   some (.inr (some (-1)))
  else
   some (.inl ((IntKind.i64.wrap (v1-(y3.length:Int))),(IntKind.i64.wrap (v2+1))))
 else
  some (.inr (some v1))
def U7 (a0:List (Ac)) (a1:Int):Option (Int):=
 if(decide ((IntKind.i64.wrap (a1-(a0.length:Int)))<0))then
  some (-1)
 else
  At (fun s:Int × Int=>QW a0 s.1 s.2) ((IntKind.i64.wrap (a1-(a0.length:Int))),0)
def aG (a0:Au) (a1:Int):Option (Int):=
 if(decide ((IntKind.i64.wrap (a1-(a0.ab.length:Int)))<0))then
  some (-1)
 else
  some (IntKind.i64.wrap (a1-(a0.ab.length:Int)))
def Ry (a0:List Au) (v1 v2:Int):Option ((Int × Int) ⊕ Option (Int)):=
 if(decide (v2<(a0.length:Int)))then
  (Am a0 v2).bind fun y3=>
  (aG y3 v1).bind fun v4=>
  if(decide (v4<0))then
   some (.inr (some (-1)))
  else
   some (.inl (v4,(IntKind.i64.wrap (v2+1))))
 else
  some (.inr (some v1))
def ZY (a0:List Au) (a1:Int):Option (Int):=
 if(decide ((IntKind.i64.wrap (a1-(a0.length:Int)))<0))then
  some (-1)
 else
  At (fun s:Int × Int=>Ry a0 s.1 s.2) ((IntKind.i64.wrap (a1-(a0.length:Int))),0)
def ZR (a0:Ad) (a1:Int):Option (Int):=
 if(decide ((IntKind.i64.wrap (a1-(a0.ab.length:Int)))<0))then
  some (-1)
 else
  (U7 a0.aq (IntKind.i64.wrap (a1-(a0.ab.length:Int)))).bind fun v1=>
  if(decide (v1<0))then
   some (-1)
  else
   (ZY a0.ah v1).bind fun v2=>
   if(decide (v2<0))then
    some (-1)
   else
    some v2
def Ro (a0:List Ad) (v1 v2:Int):Option ((Int × Int) ⊕ Option (Int)):=
 if(decide (v2<(a0.length:Int)))then
  (Am a0 v2).bind fun y3=>
  (ZR y3 v1).bind fun v4=>
  if(decide (v4<0))then
   some (.inr (some (-1)))
  else
   some (.inl (v4,(IntKind.i64.wrap (v2+1))))
 else
  some (.inr (some v1))
def Y5 (a0:List Ad) (a1:Int):Option (Int):=
 if(decide ((IntKind.i64.wrap (a1-(a0.length:Int)))<0))then
  some (-1)
 else
  At (fun s:Int × Int=>Ro a0 s.1 s.2) ((IntKind.i64.wrap (a1-(a0.length:Int))),0)
def Z6 (a0:List Int) (a1:Int):Option (Int):=
 if(decide ((IntKind.i64.wrap (a1-(a0.length:Int)))<0))then
  some (-1)
 else
  some (IntKind.i64.wrap (a1-(a0.length:Int)))
def ZJ (a0:Ab) (a1:Int):Option (Int):=
 if(decide ((IntKind.i64.wrap (a1-(a0.af.length:Int)))<0))then
  some (-1)
 else
  if(decide ((IntKind.i64.wrap ((IntKind.i64.wrap (a1-(a0.af.length:Int)))-(a0.ay.length:Int)))<0))then
   some (-1)
  else
   some (IntKind.i64.wrap ((IntKind.i64.wrap (a1-(a0.af.length:Int)))-(a0.ay.length:Int)))
def Rk (a0:List Ab) (v1 v2:Int):Option ((Int × Int) ⊕ Option (Int)):=
 if(decide (v2<(a0.length:Int)))then
  (Am a0 v2).bind fun y3=>
  (ZJ y3 v1).bind fun v4=>
  if(decide (v4<0))then
   some (.inr (some (-1)))
  else
   some (.inl (v4,(IntKind.i64.wrap (v2+1))))
 else
  some (.inr (some v1))
def Y1 (a0:List Ab) (a1:Int):Option (Int):=
 if(decide ((IntKind.i64.wrap (a1-(a0.length:Int)))<0))then
  some (-1)
 else
  At (fun s:Int × Int=>Rk a0 s.1 s.2) ((IntKind.i64.wrap (a1-(a0.length:Int))),0)
def ZC (a0:AA) (a1:Int):Option (Int):=
 if(decide ((IntKind.i64.wrap (a1-(a0.ab.length:Int)))<0))then
  some (-1)
 else
  (Y5 a0.ak (IntKind.i64.wrap (a1-(a0.ab.length:Int)))).bind fun v1=>
  if(decide (v1<0))then
   some (-1)
  else
   (Z6 a0.bj v1).bind fun v2=>
   if(decide (v2<0))then
    some (-1)
   else
    (Y1 a0.au v2).bind fun v3=>
    if(decide (v3<0))then
     some (-1)
    else
     some v3
def Vv (a0:AJ) (a1:Int):Option (Int):=
 if(decide ((IntKind.i64.wrap (a1-(a0.al.length:Int)))<0))then
  some (-1)
 else
  some (IntKind.i64.wrap (a1-(a0.al.length:Int)))
def ZW (a0:AI) (a1:Int):Option (Int):=
 (ZC a0.ae a1).bind fun v1=>
 if(decide (v1<0))then
  some (-1)
 else
  (Vv a0.ch v1).bind fun v2=>
  if(decide (v2<0))then
   some (-1)
  else
   (Vv a0.a8 v2).bind fun v3=>
   if(decide (v3<0))then
    some (-1)
   else
    some v3
def VG (a0:AL) (a1:Int):Option (Int):=
 (U7 a0.ar a1).bind fun v1=>
 if(decide (v1<0))then
  some (-1)
 else
  some v1
def Zv (a0:Bf) (a1:Int):Option (Int):=
 (VG a0.bg a1).bind fun v1=>
 if(decide (v1<0))then
  some (-1)
 else
  (VG a0.bm v1).bind fun v2=>
  if(decide (v2<0))then
   some (-1)
  else
   some v2
def YQ (a0:CW) (a1:Int):Option (Int):=
 (Zv a0.fAct a1).bind fun v1=>
 if(decide (v1<0))then
  some (-1)
 else
  some v1
def YM (a0:Bm) (a1:Int):Option (Int):=
 (YQ a0.fAct a1).bind fun v1=>
 if(decide (v1<0))then
  some (-1)
 else
  some v1
def QN (a0:List Bm) (v1 v2:Int):Option ((Int × Int) ⊕ Option (Int)):=
 if(decide (v2<(a0.length:Int)))then
  (Am a0 v2).bind fun y3=>
  (YM y3 v1).bind fun v4=>
  if(decide (v4<0))then
   some (.inr (some (-1)))
  else
   some (.inl (v4,(IntKind.i64.wrap (v2+1))))
 else
  some (.inr (some v1))
def YX (a0:List Bm) (a1:Int):Option (Int):=
 if(decide ((IntKind.i64.wrap (a1-(a0.length:Int)))<0))then
  some (-1)
 else
  At (fun s:Int × Int=>QN a0 s.1 s.2) ((IntKind.i64.wrap (a1-(a0.length:Int))),0)
def UF (a0:List (Ac)) (v1:Int) (v2:List (Ac)):Option ((Int × List (Ac)) ⊕ Option (List (Ac))):=
 if(decide (v1<(a0.length:Int)))then
  (Am a0 v1).bind fun y3=>
  (Am v2 v1).bind fun y4=>
  some (.inl ((IntKind.i64.wrap (v1+1)),(v2.set (v1).toNat y3)))
 else
  some (.inr (some v2))
def U3 (a0:List (Ac)):Option (List (Ac)):=
 AD (0≤(a0.length:Int)∧(a0.length:Int)*16≤140737488355328∧(a0.length:Int)≤140737488355328)<|
 At (fun s:Int × List (Ac)=>UF a0 s.1 s.2) (0,(List.replicate ((a0.length:Int)).toNat ([]:Ac)))
def oA (a0:Au):Option (Au):=
 some a0
def U5 (a0:List Au) (v1:Int) (v2:List Au):Option ((Int × List Au) ⊕ Option (List Au)):=
 if(decide (v1<(a0.length:Int)))then
  (Am a0 v1).bind fun y3=>
  (oA y3).bind fun v4=>
  (Am v2 v1).bind fun y5=>
  some (.inl ((IntKind.i64.wrap (v1+1)),(v2.set (v1).toNat v4)))
 else
  some (.inr (some v2))
def ZZ (a0:List Au):Option (List Au):=
 AD (0≤(a0.length:Int)∧(a0.length:Int)*32≤140737488355328∧(a0.length:Int)≤140737488355328)<|
 At (fun s:Int × List Au=>U5 a0 s.1 s.2) (0,(List.replicate ((a0.length:Int)).toNat (⟨([]:Ac),0,0⟩:Au)))
def ZH (a0:Ad):Option (Ad):=
 (U3 a0.aq).bind fun v1=>
 (ZZ a0.ah).bind fun v2=>
 some (⟨a0.ab,v1,v2⟩:Ad)
def UT (a0:List Ad) (v1:Int) (v2:List Ad):Option ((Int × List Ad) ⊕ Option (List Ad)):=
 if(decide (v1<(a0.length:Int)))then
  (Am a0 v1).bind fun y3=>
  (ZH y3).bind fun v4=>
  (Am v2 v1).bind fun y5=>
  some (.inl ((IntKind.i64.wrap (v1+1)),(v2.set (v1).toNat v4)))
 else
  some (.inr (some v2))
def Zx (a0:List Ad):Option (List Ad):=
 AD (0≤(a0.length:Int)∧(a0.length:Int)*64≤140737488355328∧(a0.length:Int)≤140737488355328)<|
 At (fun s:Int × List Ad=>UT a0 s.1 s.2) (0,(List.replicate ((a0.length:Int)).toNat (⟨([]:Ac), [], []⟩:Ad)))
def Va (a0:List Int) (v1:Int) (v2:List Int):Option ((Int × List Int) ⊕ Option (List Int)):=
 if(decide (v1<(a0.length:Int)))then
  (Am a0 v1).bind fun y3=>
  (Am v2 v1).bind fun y4=>
  some (.inl ((IntKind.i64.wrap (v1+1)),(v2.set (v1).toNat y3)))
 else
  some (.inr (some v2))
def Z0 (a0:List Int):Option (List Int):=
 AD (0≤(a0.length:Int)∧(a0.length:Int)*8≤140737488355328∧(a0.length:Int)≤140737488355328)<|
 At (fun s:Int × List Int=>Va a0 s.1 s.2) (0,(List.replicate ((a0.length:Int)).toNat 0))
def nW (a0:Ab):Option (Ab):=
 some a0
def UZ (a0:List Ab) (v1:Int) (v2:List Ab):Option ((Int × List Ab) ⊕ Option (List Ab)):=
 if(decide (v1<(a0.length:Int)))then
  (Am a0 v1).bind fun y3=>
  (nW y3).bind fun v4=>
  (Am v2 v1).bind fun y5=>
  some (.inl ((IntKind.i64.wrap (v1+1)),(v2.set (v1).toNat v4)))
 else
  some (.inr (some v2))
def Y2 (a0:List Ab):Option (List Ab):=
 AD (0≤(a0.length:Int)∧(a0.length:Int)*40≤140737488355328∧(a0.length:Int)≤140737488355328)<|
 At (fun s:Int × List Ab=>UZ a0 s.1 s.2) (0,(List.replicate ((a0.length:Int)).toNat (⟨([]:Ac),([]:Ac),false⟩:Ab)))
def Zn (a0:AA):Option (AA):=
 (Zx a0.ak).bind fun v1=>
 (Z0 a0.bj).bind fun v2=>
 (Y2 a0.au).bind fun v3=>
 some (⟨a0.ab,v1,v2,v3⟩:AA)
def Z9 (a0:AJ):Option (AJ):=
 some a0
def Pc (a0:AI):Option (AI):=
 (Zn a0.ae).bind fun v1=>
 (Z9 a0.ch).bind fun v2=>
 (Z9 a0.a8).bind fun v3=>
 some (⟨v1,v2,v3⟩:AI)
def VA (a0:AL):Option (AL):=
 (U3 a0.ar).bind fun v1=>
 some (⟨v1⟩:AL)
def Y3 (a0:Bf):Option (Bf):=
 (VA a0.bg).bind fun v1=>
 (VA a0.bm).bind fun v2=>
 some (⟨a0.aj,v1,v2⟩:Bf)
def YN (a0:CW):Option (CW):=
 (Y3 a0.fAct).bind fun v1=>
 some (⟨a0.ax,a0.a7,v1⟩:CW)
def YE (a0:Bm):Option (Bm):=
 (YN a0.fAct).bind fun v1=>
 some (⟨a0.aj,a0.br,v1⟩:Bm)
def UH (a0:List Bm) (v1:Int) (v2:List Bm):Option ((Int × List Bm) ⊕ Option (List Bm)):=
 if(decide (v1<(a0.length:Int)))then
  (Am a0 v1).bind fun y3=>
  (YE y3).bind fun v4=>
  (Am v2 v1).bind fun y5=>
  some (.inl ((IntKind.i64.wrap (v1+1)),(v2.set (v1).toNat v4)))
 else
  some (.inr (some v2))
def OZ (a0:List Bm):Option (List Bm):=
 AD (0≤(a0.length:Int)∧(a0.length:Int)*88≤140737488355328∧(a0.length:Int)≤140737488355328)<|
 At (fun s:Int × List Bm=>UH a0 s.1 s.2) (0,(List.replicate ((a0.length:Int)).toNat (⟨0,0,(⟨0,0,(⟨0,(⟨[]⟩:AL),(⟨[]⟩:AL)⟩:Bf)⟩:CW)⟩:Bm)))
def Gq (a0 a1 a2:Int):Option (Bool):=
 some ((decide (a0≥a1))&&(decide (a0≤a2)))
def lJ (a0:Ac) (a1:Int):Option (Bool):=
 some ((decide ((a0.length:Int)≥1))&&(decide ((a0.length:Int)≤a1)))
def lG (a0:Ac) (a1 v1:Int):Option ((Int) ⊕ Option (Bool)):=
 if(decide (v1<(a0.length:Int)))then
  (Am a0 v1).bind fun y2=>
  if((decide ((y2.toNat:Int)<97))||(decide ((y2.toNat:Int)>122)))then
   some (.inr (some false))
  else
   some (.inl (IntKind.i64.wrap (v1+1)))
 else
  some (.inr (lJ a0 a1))
def Q6 (a0:Ac) (a1:Int):Option (Bool):=
 At (fun s:Int=>lG a0 a1 s) 0
def nC (a0:List (Ac)) (a1:Ac) (v1:Int):Option ((Int) ⊕ Option (Int)):=
 if(decide (v1<(a0.length:Int)))then
  (Am a0 v1).bind fun y2=>
  if(y2==a1)then
   some (.inr (some v1))
  else
   some (.inl (IntKind.i64.wrap (v1+1)))
 else
  some (.inr (some (-1)))
def VE (a0:List (Ac)) (a1:Ac):Option (Int):=
 At (fun s:Int=>nC a0 a1 s) 0
def mF (a0:List (Ac)):Option (Bool):=
 (Gq (a0.length:Int) 2 4).bind fun v1=>
 some v1
def mG (a0:List (Ac)) (v2:Int):Option ((Int) ⊕ Option (Bool)):=
 if(decide (v2<(a0.length:Int)))then
  (Am a0 v2).bind fun y3=>
  (Q6 y3 3).bind fun v4=>
  if v4 then
   AD (0≤(0:Int)∧(0:Int)≤v2∧v2≤(a0.length:Int))<|
   (VE (By a0 0 v2) y3).bind fun v5=>
   if(decide (v5≥0))then
    some (.inr (some false))
   else
    some (.inl (IntKind.i64.wrap (v2+1)))
  else
   some (.inr (some false))
 else
  some (.inr (mF a0))
def ZP (a0:List (Ac)):Option (Bool):=
 At (fun s:Int=>mG a0 s) 0
def Yz (a0:Ad) (v3:Int):Option ((Int) ⊕ Option (Bool)):=
 if(decide (v3<(a0.ah.length:Int)))then
  (Am a0.ah v3).bind fun y4=>
  (Q6 y4.ab 1).bind fun v5=>
  if v5 then
   (Gq y4.bh 1 (IntKind.i64.wrap ((a0.aq.length:Int)-1))).bind fun v6=>
   if v6 then
    (Gq y4.ao 0 3).bind fun v7=>
    if(decide (v3>0))then
     if v7 then
      (Am a0.ah (IntKind.i64.wrap (v3-1))).bind fun y8=>
      if(!Op.bytesLess y8.ab y4.ab)then
       some (.inr (some false))
      else
       some (.inl (IntKind.i64.wrap (v3+1)))
     else
      some (.inr (some false))
    else
     if((!v7)||false)then
      some (.inr (some false))
     else
      some (.inl (IntKind.i64.wrap (v3+1)))
   else
    some (.inr (some false))
  else
   some (.inr (some false))
 else
  some (.inr (some true))
def M8 (a0:Ad):Option (Bool):=
 (Q6 a0.ab 1).bind fun v1=>
 if v1 then
  (ZP a0.aq).bind fun v2=>
  if((!v2)||(decide ((a0.ah.length:Int)>3)))then
   some false
  else
   At (fun s:Int=>Yz a0 s) 0
 else
  some false
def mT (a0:Ad) (a1:Ac) (v1:Int):Option ((Int) ⊕ Option (Int)):=
 if(decide (v1<(a0.ah.length:Int)))then
  (Am a0.ah v1).bind fun y2=>
  if(y2.ab==a1)then
   some (.inr (some v1))
  else
   some (.inl (IntKind.i64.wrap (v1+1)))
 else
  some (.inr (some (-1)))
def HW (a0:Ad) (a1:Ac):Option (Int):=
 At (fun s:Int=>mT a0 a1 s) 0
def RO (a0:Ad):Option (Ad):=
 AD (((([]:List (Ac)).length:Int)+((a0.aq).length:Int))*16≤140737488355328∧(([]:List (Ac)).length:Int)+((a0.aq).length:Int)≤140737488355328)<|
 AD (((([]:List Au).length:Int)+((a0.ah).length:Int))*32≤140737488355328∧(([]:List Au).length:Int)+((a0.ah).length:Int)≤140737488355328)<|
 some a0
def Vw (a0:Ad) (a1:Ac) (a2:Int):Option (Ad):=
 (RO a0).bind fun v1=>
 (HW a0 a1).bind fun v2=>
 (Am v1.ah v2).bind fun y3=>
 some (⟨v1.ab,v1.aq,(v1.ah.set (v2).toNat {y3 with ao:=a2})⟩:Ad)
def U4 (a0:Ad) (a1:Ac) (a2 v4:Int) (v5:List Ad):Option ((Int × List Ad) ⊕ Option (List Ad)):=
 if(v4 !=a2)then
  if(decide (v4<a2))then
   (Vw a0 a1 (IntKind.i64.wrap (v4+1))).bind fun v6=>
   AD ((((v5).length:Int)+(([v6]:List Ad).length:Int))*64≤140737488355328∧((v5).length:Int)+(([v6]:List Ad).length:Int)≤140737488355328)<|
   some (.inl ((IntKind.i64.wrap (v4+1)),(v5++ [v6])))
  else
   (Vw a0 a1 (IntKind.i64.wrap (v4-1))).bind fun v7=>
   AD ((((v5).length:Int)+(([v7]:List Ad).length:Int))*64≤140737488355328∧((v5).length:Int)+(([v7]:List Ad).length:Int)≤140737488355328)<|
   some (.inl ((IntKind.i64.wrap (v4-1)),(v5++ [v7])))
 else
  some (.inr (some v5))
def aC (a0:Ad) (a1:Ac) (a2:Int):Option (List Ad):=
 (RO a0).bind fun v1=>
 (HW a0 a1).bind fun v2=>
 (Am a0.ah v2).bind fun y3=>
 At (fun s:Int × List Ad=>U4 a0 a1 a2 s.1 s.2) (y3.ao, [v1])
def UJ (a0 a1:Ad) (v1:Int):Option ((Int) ⊕ Option (Bool)):=
 if(decide (v1<(a0.ah.length:Int)))then
  (Am a0.ah v1).bind fun y2=>
  (Am a1.ah v1).bind fun y3=>
  if((y2.ab !=y3.ab)||(y2.bh !=y3.bh))then
   some (.inr (some false))
  else
   some (.inl (IntKind.i64.wrap (v1+1)))
 else
  some (.inr (some true))
def Yt (a0 a1:Ad):Option (Bool):=
 At (fun s:Int=>UJ a0 a1 s) 0
def UM (a0 a1:Ad) (v4:Int):Option ((Int) ⊕ Option (Bool)):=
 if(decide (v4<(a0.aq.length:Int)))then
  (Am a0.aq v4).bind fun y5=>
  (Am a1.aq v4).bind fun y6=>
  if(y5 !=y6)then
   some (.inr (some false))
  else
   some (.inl (IntKind.i64.wrap (v4+1)))
 else
  some (.inr (Yt a0 a1))
def Yw (a0 a1:Ad):Option (Bool):=
 if(((a0.ab !=a1.ab)||((a0.aq.length:Int) !=(a1.aq.length:Int)))||((a0.ah.length:Int) !=(a1.ah.length:Int)))then
  some false
 else
  At (fun s:Int=>UM a0 a1 s) 0
def Z5 (a0 a1:Int):Option (Int):=
 if(decide (a0>a1))then
  some a0
 else
  some a1
def RD (a0 a1:Ad) (v1 v2:Int):Option ((Int × Int) ⊕ Option (Int)):=
 if(decide (v2<(a0.ah.length:Int)))then
  (Am a0.ah v2).bind fun y3=>
  (Am a1.ah v2).bind fun y4=>
  (Z5 (IntKind.i64.wrap (y3.ao-y4.ao)) (IntKind.i64.wrap (0-(IntKind.i64.wrap (y3.ao-y4.ao))))).bind fun v5=>
  some (.inl ((IntKind.i64.wrap (v1+v5)),(IntKind.i64.wrap (v2+1))))
 else
  some (.inr (some v1))
def Z3 (a0 a1:Ad):Option (Int):=
 At (fun s:Int × Int=>RD a0 a1 s.1 s.2) (0,0)
def UQ (a0:AA) (v10:List Ad) (v11:Int):Option ((Int) ⊕ Option (Bool)):=
 if(decide (v11<(v10.length:Int)))then
  (Am a0.ak v11).bind fun y12=>
  (M8 y12).bind fun v13=>
  if v13 then
   (Am v10 v11).bind fun y14=>
   (Yw y14 y12).bind fun v15=>
   if v15 then
    (Z3 y14 y12).bind fun v16=>
    if(v16 !=0)then
     some (.inr (some false))
    else
     some (.inl (IntKind.i64.wrap (v11+1)))
   else
    some (.inr (some false))
  else
   some (.inr (some false))
 else
  some (.inr (some true))
def RJ (a0:AA):Option (Bool):=
 (Gq (a0.ak.length:Int) 1 4).bind fun v1=>
 if v1 then
  (Am a0.ak 0).bind fun y2=>
  (M8 y2).bind fun v3=>
  if v3 then
   (HW y2 a0.ab).bind fun v4=>
   if(decide (v4<0))then
    some false
   else
    (Am a0.ak (IntKind.i64.wrap ((a0.ak.length:Int)-1))).bind fun y5=>
    (M8 y5).bind fun v6=>
    if v6 then
     (HW y5 a0.ab).bind fun v7=>
     if(decide (v7<0))then
      some false
     else
      (HW y5 a0.ab).bind fun v8=>
      (Am y5.ah v8).bind fun y9=>
      (aC y2 a0.ab y9.ao).bind fun v10=>
      if((v10.length:Int) !=(a0.ak.length:Int))then
       some false
      else
       At (fun s:Int=>UQ a0 v10 s) 0
    else
     some false
  else
   some false
 else
  some false
def Rv (a0:List Int) (a1 a2 v1:Int):Option ((Int) ⊕ Option (Bool)):=
 if(decide (v1<(a0.length:Int)))then
  (Am a0 v1).bind fun y2=>
  (Gq y2 a1 a2).bind fun v3=>
  if(!v3)then
   some (.inr (some false))
  else
   some (.inl (IntKind.i64.wrap (v1+1)))
 else
  some (.inr (some true))
def aJ (a0:List Int) (a1 a2:Int):Option (Bool):=
 At (fun s:Int=>Rv a0 a1 a2 s) 0
def mJ (v1:Int) (v3:Bool):Option ((Int) ⊕ Option (Bool)):=
 if(!v3)then
  some (.inr (some false))
 else
  some (.inl (IntKind.i64.wrap (v1+1)))
def UP (a1:Ac) (v1:Int) (y2:UInt8) (v4:Bool) (v5:Int):Option ((Bool × Int) ⊕ Option ((Int) ⊕ Option (Bool))):=
 if(decide (v5<(a1.length:Int)))then
  if v4 then
   some (.inl (true,(IntKind.i64.wrap (v5+1))))
  else
   (Am a1 v5).bind fun y6=>
   some (.inl (((y2.toNat:Int)==(y6.toNat:Int)),(IntKind.i64.wrap (v5+1))))
 else
  some (.inr (mJ v1 v4))
def mC (a0 a1:Ac) (v1:Int):Option ((Int) ⊕ Option (Bool)):=
 if(decide (v1<(a0.length:Int)))then
  (Am a0 v1).bind fun y2=>
  At (fun s:Bool × Int=>UP a1 v1 y2 s.1 s.2) ((((decide ((y2.toNat:Int)≥97))&&(decide ((y2.toNat:Int)≤122)))||((decide ((y2.toNat:Int)≥48))&&(decide ((y2.toNat:Int)≤57)))),0)
 else
  some (.inr (some true))
def RF (a0 a1:Ac):Option (Bool):=
 At (fun s:Int=>mC a0 a1 s) 0
def RQ (a0:Ac):Option (Bool):=
 (Gq (a0.length:Int) 1 12).bind fun v1=>
 if v1 then
  (RF a0 ([46,47]:Ac)).bind fun v2=>
  some v2
 else
  some false
def VH (a0:Ac):Option (Bool):=
 if(decide ((a0.length:Int)≤24))then
  (RF a0 ([46,45,44,95]:Ac)).bind fun v1=>
  some v1
 else
  some false
def ZG (a0 a1:Ac) (a2:Bool):Option (Bool):=
 (RQ a0).bind fun v1=>
 if v1 then
  (VH a1).bind fun v2=>
  some (v2&&((!a2)||(a1==([]:Ac))))
 else
  some false
def mB (a0:List Ab):Option (Bool):=
 some (decide ((a0.length:Int)≤24))
def lT (a0:List Ab) (v1:Int):Option ((Int) ⊕ Option (Bool)):=
 if(decide (v1<(a0.length:Int)))then
  (Am a0 v1).bind fun y2=>
  (ZG y2.af y2.ay y2.bf).bind fun v3=>
  if(decide (v1>0))then
   if v3 then
    (Am a0 (IntKind.i64.wrap (v1-1))).bind fun y4=>
    if(!Op.bytesLess y4.af y2.af)then
     some (.inr (some false))
    else
     some (.inl (IntKind.i64.wrap (v1+1)))
   else
    some (.inr (some false))
  else
   if((!v3)||false)then
    some (.inr (some false))
   else
    some (.inl (IntKind.i64.wrap (v1+1)))
 else
  some (.inr (mB a0))
def Y0 (a0:List Ab):Option (Bool):=
 At (fun s:Int=>lT a0 s) 0
def mY (a0:List Ab):Option (Bool):=
 (Y0 a0).bind fun v1=>
 some v1
def mX (a0:List Ab) (v2:Int):Option ((Int) ⊕ Option (Bool)):=
 if(decide (v2<(a0.length:Int)))then
  (Am a0 v2).bind fun y3=>
  if y3.bf then
   some (.inr (some false))
  else
   some (.inl (IntKind.i64.wrap (v2+1)))
 else
  some (.inr (mY a0))
def Lz (a0:List Ab):Option (Bool):=
 At (fun s:Int=>mX a0 s) 0
def YK (a0:AA):Option (Bool):=
 (RJ a0).bind fun v1=>
 if v1 then
  (Gq (a0.bj.length:Int) 1 3).bind fun v2=>
  if v2 then
   (aJ a0.bj 0 (IntKind.i64.wrap ((a0.ak.length:Int)-1))).bind fun v3=>
   if v3 then
    (Lz a0.au).bind fun v4=>
    some v4
   else
    some false
  else
   some false
 else
  some false
def Vi (a0:AJ):Option (Bool):=
 if(a0.al==([]:Ac))then
  some true
 else
  (RQ a0.al).bind fun v1=>
  some v1
def Y6 (a0:AI):Option (Bool):=
 (YK a0.ae).bind fun v1=>
 if v1 then
  (Vi a0.ch).bind fun v2=>
  if v2 then
   (Vi a0.a8).bind fun v3=>
   some v3
  else
   some false
 else
  some false
def aH (a0:List Int):Option (List Int):=
 AD (((([]:List Int).length:Int)+((a0).length:Int))*8≤140737488355328∧(([]:List Int).length:Int)+((a0).length:Int)≤140737488355328)<|
 some a0
def RC (a0:AA) (v1:List Int) (v2:Int) (v3:List Ad):Option ((Int × List Ad) ⊕ Option (AA)):=
 if(decide (v2<(a0.ak.length:Int)))then
  (Am a0.ak v2).bind fun y4=>
  (RO y4).bind fun v5=>
  AD ((((v3).length:Int)+(([v5]:List Ad).length:Int))*64≤140737488355328∧((v3).length:Int)+(([v5]:List Ad).length:Int)≤140737488355328)<|
  some (.inl ((IntKind.i64.wrap (v2+1)),(v3++ [v5])))
 else
  some (.inr (some (⟨a0.ab,v3,v1,a0.au⟩:AA)))
def Vy (a0:AA):Option (AA):=
 (aH a0.bj).bind fun v1=>
 AD (((([]:List Ab).length:Int)+((a0.au).length:Int))*40≤140737488355328∧(([]:List Ab).length:Int)+((a0.au).length:Int)≤140737488355328)<|
 At (fun s:Int × List Ad=>RC a0 v1 s.1 s.2) (0, [])
def Z7 (a0:AI):Option (AI):=
 (Vy a0.ae).bind fun v1=>
 some (⟨v1,a0.ch,a0.a8⟩:AI)
def Zc (a0:Bf):Option (Bool):=
 some (((a0.aj==0)&&((a0.bg.ar.length:Int)==0))&&((a0.bm.ar.length:Int)==0))
def Rr (a0:Ac):Option (Bool):=
 (Gq (a0.length:Int) 1 3).bind fun v1=>
 if v1 then
  (RF a0 ([]:Ac)).bind fun v2=>
  some v2
 else
  some false
def mD (a0:Ad) (a1:AL):Option (Bool):=
 some ((a1.ar.length:Int)==(a0.aq.length:Int))
def mM (a0:Ad) (a1:AL) (v1:Int):Option ((Int) ⊕ Option (Bool)):=
 if(decide (v1<(a1.ar.length:Int)))then
  (Am a1.ar v1).bind fun y2=>
  (Rr y2).bind fun v3=>
  if(!v3)then
   some (.inr (some false))
  else
   some (.inl (IntKind.i64.wrap (v1+1)))
 else
  some (.inr (mD a0 a1))
def Na (a0:Ad) (a1:AL):Option (Bool):=
 At (fun s:Int=>mM a0 a1 s) 0
def Vc (a0:Ad) (a1:Bf):Option (Bool):=
 if(a1.aj==1)then
  if((a1.bg.ar.length:Int)==0)then
   (Na a0 a1.bm).bind fun v1=>
   some v1
  else
   some false
 else
  if(a1.aj==2)then
   if((a1.bm.ar.length:Int)==0)then
    (Na a0 a1.bg).bind fun v2=>
    some v2
   else
    some false
  else
   if(a1.aj==3)then
    (Na a0 a1.bg).bind fun v3=>
    if v3 then
     (Na a0 a1.bm).bind fun v4=>
     if v4 then
      (Am a1.bg.ar 0).bind fun y5=>
      (Am a1.bm.ar 0).bind fun y6=>
      some (y5==y6)
     else
      some false
    else
     some false
   else
    some false
def ZB (a0:AA) (a1:CW):Option (Bool):=
 (Gq a1.ax 0 (IntKind.i64.wrap ((a0.bj.length:Int)-1))).bind fun v1=>
 if(!v1)then
  some false
 else
  if((a1.a7==1)||(a1.a7==(-1)))then
   (Zc a1.fAct).bind fun v2=>
   some v2
  else
   if(a1.a7==0)then
    (Am a0.bj a1.ax).bind fun y3=>
    (Am a0.ak y3).bind fun y4=>
    (Vc y4 a1.fAct).bind fun v5=>
    some v5
   else
    some false
def nS (a0:Int):Option (Bool):=
 (Gq a0 1 24).bind fun v1=>
 some v1
def YV (a1:Bm) (v2:Bool):Option (Bool):=
 if v2 then
  (nS a1.br).bind fun v3=>
  if v3 then
   if(a1.fAct.ax==0)then
    if(a1.fAct.a7==0)then
     (Zc a1.fAct.fAct).bind fun v4=>
     some v4
    else
     some false
   else
    some false
  else
   some false
 else
  some false
def Zo (a0:AI) (a1:Bm):Option (Bool):=
 if(a1.aj==1)then
  if(a1.br==0)then
   (ZB a0.ae a1.fAct).bind fun v1=>
   some v1
  else
   some false
 else
  if(a1.aj==2)then
   YV a1 (a1.aj==2)
  else
   YV a1 (a1.aj==3)
def QL (a0:AA) (v1:List Int) (v2:Int):Option ((List Int × Int) ⊕ Option (List Int)):=
 if(decide (v2<(a0.bj.length:Int)))then
  (Am a0.bj v2).bind fun y3=>
  (Am a0.ak y3).bind fun y4=>
  (HW y4 a0.ab).bind fun v5=>
  (Am y4.ah v5).bind fun y6=>
  AD ((((v1).length:Int)+(([y6.ao]:List Int).length:Int))*8≤140737488355328∧((v1).length:Int)+(([y6.ao]:List Int).length:Int)≤140737488355328)<|
  some (.inl ((v1++ [y6.ao]),(IntKind.i64.wrap (v2+1))))
 else
  some (.inr (some v1))
def Lx (a0:AA):Option (List Int):=
 At (fun s:List Int × Int=>QL a0 s.1 s.2) ([],0)
def Q8 (v1:List Int) (v2 v3:Bool) (v4:Int):Option ((Bool × Bool × Int) ⊕ Option (Bool × Bool)):=
 if(decide (v4<(v1.length:Int)))then
  (Am v1 v4).bind fun y5=>
  some (.inl ((v2&&(decide (y5≥2))),(v3||(decide (y5≥2))),(IntKind.i64.wrap (v4+1))))
 else
  some (.inr (some (v2,v3)))
def Zs (a0:AA):Option (Bool × Bool):=
 (Lx a0).bind fun v1=>
 At (fun s:Bool × Bool × Int=>Q8 v1 s.1 s.2.1 s.2.2) (true,false,0)
def RM (a0:Ad) (a1:Bf):Option (Bool):=
 (M8 a0).bind fun v1=>
 if v1 then
  (Vc a0 a1).bind fun v2=>
  some v2
 else
  some false
def Q5 (a0:List (Ac)) (a1 v1:Ac) (v2:Int):Option ((Ac × Int) ⊕ Option (Ac)):=
 if(decide (v2<(a0.length:Int)))then
  (Am a0 v2).bind fun y3=>
  if(decide (v2>0))then
   AD ((v1).length+(a1).length≤9223372036854775807)<|
   AD (((v1++a1)).length+(y3).length≤9223372036854775807)<|
   some (.inl (((v1++a1)++y3),(IntKind.i64.wrap (v2+1))))
  else
   AD ((v1).length+(y3).length≤9223372036854775807)<|
   some (.inl ((v1++y3),(IntKind.i64.wrap (v2+1))))
 else
  some (.inr (some v1))
def nX (a0:List (Ac)) (a1:Ac):Option (Ac):=
 At (fun s:Ac × Int=>Q5 a0 a1 s.1 s.2) (([]:Ac),0)
def Kw (a0:Ad) (a1:AL):Option (Ab):=
 AD ((a0.ab).length+(([47]:Ac)).length≤9223372036854775807)<|
 (Am a1.ar 0).bind fun y1=>
 AD (((a0.ab++([47]:Ac))).length+(y1).length≤9223372036854775807)<|
 AD (0≤(1:Int)∧(1:Int)≤(a1.ar.length:Int)∧(a1.ar.length:Int)≤(a1.ar.length:Int))<|
 (nX (By a1.ar 1 (a1.ar.length:Int)) ([44]:Ac)).bind fun v2=>
 some (⟨((a0.ab++([47]:Ac))++y1),v2,false⟩:Ab)
def Zp (a0:Ad) (a1:Bf):Option (List Ax):=
 if(a1.aj==1)then
  (Kw a0 a1.bm).bind fun v1=>
  some [(⟨6,v1.af,([]:Ac),0⟩:Ax),(⟨2,v1.af,v1.ay,0⟩:Ax)]
 else
  (Kw a0 a1.bg).bind fun v2=>
  if(a1.aj==2)then
   some [(⟨7,v2.af,v2.ay,0⟩:Ax),(⟨3,v2.af,([]:Ac),0⟩:Ax)]
  else
   (Kw a0 a1.bm).bind fun v3=>
   some [(⟨7,v2.af,v2.ay,0⟩:Ax),(⟨2,v2.af,v3.ay,0⟩:Ax)]
def Nc (a0:Ad) (a1:Au) (a2:AL):Option (Ac):=
 AD ((a0.ab).length+(([46]:Ac)).length≤9223372036854775807)<|
 AD (((a0.ab++([46]:Ac))).length+(a1.ab).length≤9223372036854775807)<|
 AD ((((a0.ab++([46]:Ac))++a1.ab)).length+(([47]:Ac)).length≤9223372036854775807)<|
 (Am a2.ar a1.bh).bind fun y1=>
 AD (((((a0.ab++([46]:Ac))++a1.ab)++([47]:Ac))).length+(y1).length≤9223372036854775807)<|
 AD ((((((a0.ab++([46]:Ac))++a1.ab)++([47]:Ac))++y1)).length+(([47]:Ac)).length≤9223372036854775807)<|
 (Am a2.ar 0).bind fun y2=>
 AD (((((((a0.ab++([46]:Ac))++a1.ab)++([47]:Ac))++y1)++([47]:Ac))).length+(y2).length≤9223372036854775807)<|
 some ((((((a0.ab++([46]:Ac))++a1.ab)++([47]:Ac))++y1)++([47]:Ac))++y2)
def YI (a1:Au) (v2:Ac) (v3:List Ax):Option (List Ax):=
 if((v2 !=([]:Ac))&&(decide (a1.ao≥2)))then
  AD ((((v3).length:Int)+(([(⟨2,v2,([]:Ac),0⟩:Ax)]:List Ax).length:Int))*48≤140737488355328∧((v3).length:Int)+(([(⟨2,v2,([]:Ac),0⟩:Ax)]:List Ax).length:Int)≤140737488355328)<|
  some (v3++ [(⟨2,v2,([]:Ac),0⟩:Ax)])
 else
  some v3
def U8 (a1:Au) (v1 v2:Ac):Option (List Ax):=
 if(((v1 !=([]:Ac))&&(v1 !=v2))&&(decide (a1.ao≥1)))then
  AD (((([]:List Ax).length:Int)+(([(⟨3,v1,([]:Ac),0⟩:Ax)]:List Ax).length:Int))*48≤140737488355328∧(([]:List Ax).length:Int)+(([(⟨3,v1,([]:Ac),0⟩:Ax)]:List Ax).length:Int)≤140737488355328)<|
  YI a1 v2 [(⟨3,v1,([]:Ac),0⟩:Ax)]
 else
  YI a1 v2 []
def YH (a0:Ad) (a1:Au) (a2:Bf) (v1:Ac):Option (List Ax):=
 if(a2.aj !=2)then
  (Nc a0 a1 a2.bm).bind fun v4=>
  U8 a1 v1 v4
 else
  U8 a1 v1 ([]:Ac)
def Vs (a0:Ad) (a1:Au) (a2:Bf):Option (List Ax):=
 Uc (σ:=Ac) (
  if(a2.aj !=1)then
   (Nc a0 a1 a2.bg).bind fun v5=>
   some (.inl v5)
  else
   some (.inl ([]:Ac))
 ) (fun s=>YH a0 a1 a2 s)
def RB (a0:Ad) (a1:Bf) (v2:Int) (v3:List Ax):Option ((Int × List Ax) ⊕ Option (List Ax)):=
 if(decide (v2<(a0.ah.length:Int)))then
  (Am a0.ah v2).bind fun y4=>
  (Vs a0 y4 a1).bind fun v5=>
  AD ((((v3).length:Int)+((v5).length:Int))*48≤140737488355328∧((v3).length:Int)+((v5).length:Int)≤140737488355328)<|
  some (.inl ((IntKind.i64.wrap (v2+1)),(v3++v5)))
 else
  some (.inr (some v3))
def aA (a0:Ad) (a1:Bf):Option (List Ax):=
 (Zp a0 a1).bind fun v1=>
 At (fun s:Int × List Ax=>RB a0 a1 s.1 s.2) (0,v1)
def nP (a0:Ax) (v2:Bool):Option (Bool):=
 if v2 then
  (VH a0.ay).bind fun v3=>
  some (v3&&(a0.jq==0))
 else
  if(a0.aj==4)then
   if(a0.aj==4)then
    if(a0.ay==([]:Ac))then
     (Gq a0.jq (-9999) 9999).bind fun v4=>
     some v4
    else
     some false
   else
    some (((((a0.aj==1)||(a0.aj==3))||(a0.aj==6))&&(a0.ay==([]:Ac)))&&(a0.jq==0))
  else
   if(a0.aj==5)then
    if(a0.ay==([]:Ac))then
     (Gq a0.jq (-9999) 9999).bind fun v5=>
     some v5
    else
     some false
   else
    some (((((a0.aj==1)||(a0.aj==3))||(a0.aj==6))&&(a0.ay==([]:Ac)))&&(a0.jq==0))
def aQ (a0:Ax):Option (Bool):=
 (RQ a0.af).bind fun v1=>
 if(!v1)then
  some false
 else
  if(a0.aj==2)then
   nP a0 (a0.aj==2)
  else
   nP a0 (a0.aj==7)
def nA (a0:List Ax):Option (Bool):=
 some (decide ((a0.length:Int)≤8))
def Rz (a0:List Ax) (v1:Int):Option ((Int) ⊕ Option (Bool)):=
 if(decide (v1<(a0.length:Int)))then
  (Am a0 v1).bind fun y2=>
  (aQ y2).bind fun v3=>
  if(!v3)then
   some (.inr (some false))
  else
   some (.inl (IntKind.i64.wrap (v1+1)))
 else
  some (.inr (nA a0))
def aB (a0:List Ax):Option (Bool):=
 At (fun s:Int=>Rz a0 s) 0
def Rm (a1:List zip) (a2:Ac) (v1:Int):Option ((Int) ⊕ Option (Ac × Bool × Bool)):=
 if(decide (v1<(a1.length:Int)))then
  (Am a1 v1).bind fun y2=>
  if(y2.af==a2)then
   some (.inr (some (y2.ay,y2.dh,true)))
  else
   some (.inl (IntKind.i64.wrap (v1+1)))
 else
  some (.inr (some (([]:Ac),false,false)))
def Yu (a1:List zip) (a2:Ac):Option (Ac × Bool × Bool):=
 At (fun s:Int=>Rm a1 a2 s) 0
def Rl (a0:List Ab) (a1:List zip) (a2:Ac) (v3:Int):Option ((Int) ⊕ Option (Ac × Bool × Bool)):=
 if(decide (v3<(a0.length:Int)))then
  (Am a0 v3).bind fun y4=>
  if(y4.af==a2)then
   some (.inr (some (y4.ay,(!y4.bf),true)))
  else
   some (.inl (IntKind.i64.wrap (v3+1)))
 else
  some (.inr (Yu a1 a2))
def Zw (a0:List Ab) (a1:List zip) (a2:Ac):Option (Ac × Bool × Bool):=
 At (fun s:Int=>Rl a0 a1 a2 s) 0
def Lw (a0:Ac) (v3 v4:Int):Option ((Int × Int) ⊕ Option (Int)):=
 if(decide (v4<(a0.length:Int)))then
  (Am a0 v4).bind fun y5=>
  if((decide ((y5.toNat:Int)<48))||(decide ((y5.toNat:Int)>57)))then
   some (.inr (some (-1)))
  else
   some (.inl ((IntKind.i64.wrap ((IntKind.i64.wrap ((10:Int)*v3))+(IntKind.i64.wrap (IntKind.u8.wrap ((y5.toNat:Int)-48))))),(IntKind.i64.wrap (v4+1))))
 else
  some (.inr (some v3))
def Vx (a0:Ac):Option (Int):=
 (Gq (a0.length:Int) 1 6).bind fun v1=>
 if v1 then
  (Am a0 0).bind fun y2=>
  if(((y2.toNat:Int)==48)&&(decide ((a0.length:Int)>1)))then
   some (-1)
  else
   At (fun s:Int × Int=>Lw a0 s.1 s.2) (0,0)
 else
  some (-1)
def Zy (y1:UInt8) (v2:Ac):Option (Int × Bool):=
 (Vx v2).bind fun v3=>
 if((decide (v3<0))||(((y1.toNat:Int)==45)&&(v3==0)))then
  some (0,false)
 else
  if((y1.toNat:Int)==45)then
   some ((IntKind.i64.wrap (0-v3)),true)
  else
   some (v3,true)
def znb (v4:Ac):Option (Int × Bool):=
 (Vx v4).bind fun v5=>
 if((decide (v5<0))||false)then
  some (0,false)
 else
  some (v5,true)
def VD (a0:Ac):Option (Int × Bool):=
 if(decide ((a0.length:Int)>0))then
  (Am a0 0).bind fun y1=>
  if((y1.toNat:Int)==45)then
   AD (0≤(1:Int)∧(1:Int)≤(a0.length:Int)∧(a0.length:Int)≤(a0.length:Int))<|
   Zy y1 (By a0 1 (a0.length:Int))
  else
   Zy y1 a0
 else
  znb a0
def ZL (a0:Ax) (a1:Ac) (a2:Bool):Option (Bool):=
 (VD a1).bind fun v1=>
 if(a0.aj==4)then
  if(!a2)then
   some false
  else
   if v1.2 then
    (Gq (IntKind.i64.wrap (v1.1+a0.jq)) (-999999) 999999).bind fun v2=>
    some (!v2)
   else
    some true
 else
  if(a0.aj==5)then
   some (((!a2)||(!v1.2))||(decide (v1.1<a0.jq)))
  else
   if(a0.aj==6)then
    some a2
   else
    if(a0.aj==7)then
     some ((!a2)||(a1 !=a0.ay))
    else
     some false
def YL (a0:List Ab) (a1:Ab) (v1:Int):Option (List Ab):=
 if(decide (v1>0))then
  (Am a0 (IntKind.i64.wrap (v1-1))).bind fun y2=>
  if(y2.af==a1.af)then
   AD (((([]:List Ab).length:Int)+((a0).length:Int))*40≤140737488355328∧(([]:List Ab).length:Int)+((a0).length:Int)≤140737488355328)<|
   (Am a0 (IntKind.i64.wrap (v1-1))).bind fun y3=>
   some (a0.set ((IntKind.i64.wrap (v1-1))).toNat a1)
  else
   AD (0≤v1∧v1≤(a0.length:Int)∧(a0.length:Int)≤(a0.length:Int))<|
   AD (((([]:List Ab).length:Int)+(((By a0 v1 (a0.length:Int))).length:Int))*40≤140737488355328∧(([]:List Ab).length:Int)+(((By a0 v1 (a0.length:Int))).length:Int)≤140737488355328)<|
   AD (0≤(0:Int)∧(0:Int)≤v1∧v1≤(a0.length:Int))<|
   AD (((([]:List Ab).length:Int)+(((By a0 0 v1)).length:Int))*40≤140737488355328∧(([]:List Ab).length:Int)+(((By a0 0 v1)).length:Int)≤140737488355328)<|
   AD (((((By a0 0 v1)).length:Int)+(([a1]:List Ab).length:Int))*40≤140737488355328∧(((By a0 0 v1)).length:Int)+(([a1]:List Ab).length:Int)≤140737488355328)<|
   AD ((((((By a0 0 v1)++ [a1])).length:Int)+(((By a0 v1 (a0.length:Int))).length:Int))*40≤140737488355328∧((((By a0 0 v1)++ [a1])).length:Int)+(((By a0 v1 (a0.length:Int))).length:Int)≤140737488355328)<|
   some (((By a0 0 v1)++ [a1])++(By a0 v1 (a0.length:Int)))
 else
  AD (0≤v1∧v1≤(a0.length:Int)∧(a0.length:Int)≤(a0.length:Int))<|
  AD (((([]:List Ab).length:Int)+(((By a0 v1 (a0.length:Int))).length:Int))*40≤140737488355328∧(([]:List Ab).length:Int)+(((By a0 v1 (a0.length:Int))).length:Int)≤140737488355328)<|
  AD (0≤(0:Int)∧(0:Int)≤v1∧v1≤(a0.length:Int))<|
  AD (((([]:List Ab).length:Int)+(((By a0 0 v1)).length:Int))*40≤140737488355328∧(([]:List Ab).length:Int)+(((By a0 0 v1)).length:Int)≤140737488355328)<|
  AD (((((By a0 0 v1)).length:Int)+(([a1]:List Ab).length:Int))*40≤140737488355328∧(((By a0 0 v1)).length:Int)+(([a1]:List Ab).length:Int)≤140737488355328)<|
  AD ((((((By a0 0 v1)++ [a1])).length:Int)+(((By a0 v1 (a0.length:Int))).length:Int))*40≤140737488355328∧((((By a0 0 v1)++ [a1])).length:Int)+(((By a0 v1 (a0.length:Int))).length:Int)≤140737488355328)<|
  some (((By a0 0 v1)++ [a1])++(By a0 v1 (a0.length:Int)))
def O7 (a0:List Ab) (a1:Ab) (v4:Int):Option ((Int) ⊕ Option (List Ab)):=
 if(decide (v4>0))then
  (Am a0 (IntKind.i64.wrap (v4-1))).bind fun y5=>
  if(!(Op.bytesLess y5.af a1.af||y5.af==a1.af))then
   some (.inl (IntKind.i64.wrap (v4-1)))
  else
   some (.inr (YL a0 a1 v4))
 else
  some (.inr (YL a0 a1 v4))
def Nd (a0:List Ab) (a1:Ab):Option (List Ab):=
 At (fun s:Int=>O7 a0 a1 s) (a0.length:Int)
def Vf:Nat→Int→Option (Ac)
 |0,_=>none
 |n_+1,a0=>
  if(decide (a0<10))then
   AD (([(IntKind.u8.wrap (IntKind.i64.wrap ((48:Int)+a0)))]:List Int).length≤9223372036854775807)<|
   some ([(IntKind.u8.wrap (IntKind.i64.wrap ((48:Int)+a0)))].map fun n=>UInt8.ofNat n.toNat)
  else
   ((Vf n_) (IntKind.i64.wrap (Int.tdiv a0 10))).bind fun v1=>
   AD (([(IntKind.u8.wrap (IntKind.i64.wrap ((48:Int)+(Int.tmod a0 10))))]:List Int).length≤9223372036854775807)<|
   AD ((v1).length+(([(IntKind.u8.wrap (IntKind.i64.wrap ((48:Int)+(Int.tmod a0 10))))].map fun n=>UInt8.ofNat n.toNat)).length≤9223372036854775807)<|
   some (v1++([(IntKind.u8.wrap (IntKind.i64.wrap ((48:Int)+(Int.tmod a0 10))))].map fun n=>UInt8.ofNat n.toNat))
def oM:Int→Option (Ac):=Vf zF
def oF (a0:Int):Option (Ac):=
 if(decide (a0<0))then
  (oM (IntKind.i64.wrap (0-a0))).bind fun v1=>
  AD ((([45]:Ac)).length+(v1).length≤9223372036854775807)<|
  some ((([45]:Ac):Ac)++v1)
 else
  (oM a0).bind fun v2=>
  some v2
def Ir (a0:List Ax) (a1:List zip) (v1:List Ab) (v2:Int):Option ((List Ab × Int) ⊕ Option (Int × Ac × List Ab)):=
 if(decide (v2<(a0.length:Int)))then
  (Am a0 v2).bind fun y3=>
  (Zw v1 a1 y3.af).bind fun v4=>
  if(((!v4.2.2)&&(y3.aj !=2))&&(y3.aj !=3))then
   some (.inr (some (1,y3.af, [])))
  else
   (ZL y3 v4.1 v4.2.1).bind fun v5=>
   if v5 then
    some (.inr (some (2,([]:Ac), [])))
   else
    if(y3.aj==2)then
     (Nd v1 (⟨y3.af,y3.ay,false⟩:Ab)).bind fun v6=>
     some (.inl (v6,(IntKind.i64.wrap (v2+1))))
    else
     if(y3.aj==3)then
      (Nd v1 (⟨y3.af,([]:Ac),true⟩:Ab)).bind fun v7=>
      some (.inl (v7,(IntKind.i64.wrap (v2+1))))
     else
      if(y3.aj==4)then
       (VD v4.1).bind fun v8=>
       if(!v4.2.1)then
        (oF (IntKind.i64.wrap ((0:Int)+y3.jq))).bind fun v9=>
        (Nd v1 (⟨y3.af,v9,false⟩:Ab)).bind fun v10=>
        some (.inl (v10,(IntKind.i64.wrap (v2+1))))
       else
        (oF (IntKind.i64.wrap (v8.1+y3.jq))).bind fun v11=>
        (Nd v1 (⟨y3.af,v11,false⟩:Ab)).bind fun v12=>
        some (.inl (v12,(IntKind.i64.wrap (v2+1))))
      else
       some (.inl (v1,(IntKind.i64.wrap (v2+1))))
 else
  some (.inr (some (3,([]:Ac),v1)))
def oE (a0:List Ax) (a1:List zip):Option (Int × Ac × List Ab):=
 At (fun s:List Ab × Int=>Ir a0 a1 s.1 s.2) ([],0)
def zmS (a1:Ac):Option (zip):=
 some (⟨a1,([]:Ac),false⟩:zip)
def Rx (a0:List Ab) (a1:Ac) (v1:Int):Option ((Int) ⊕ Option (zip)):=
 if(decide (v1<(a0.length:Int)))then
  (Am a0 v1).bind fun y2=>
  if(y2.af==a1)then
   some (.inr (some (⟨a1,y2.ay,true⟩:zip)))
  else
   some (.inl (IntKind.i64.wrap (v1+1)))
 else
  some (.inr (zmS a1))
def Z8 (a0:List Ab) (a1:Ac):Option (zip):=
 At (fun s:Int=>Rx a0 a1 s) 0
def OY (a0:List Ab) (a1:List Ax) (v1:List zip):Option ((List zip) ⊕ Option (List zip × List Ab × Bool)):=
 (oE a1 v1).bind fun v2=>
 if(v2.1 !=1)then
  some (.inr (some (v1,v2.2.2,(v2.1==3))))
 else
  (Z8 a0 v2.2.1).bind fun v3=>
  AD ((((v1).length:Int)+(([v3]:List zip).length:Int))*40≤140737488355328∧((v1).length:Int)+(([v3]:List zip).length:Int)≤140737488355328)<|
  some (.inl (v1++ [v3]))
def nU (a0:List Ab) (a1:List Ax):Option (List zip × List Ab × Bool):=
 At (fun s:List zip=>OY a0 a1 s) []
def QJ (v1 v2:List Ab) (v3:Int):Option ((List Ab × Int) ⊕ Option (List Ab)):=
 if(decide (v3<(v1.length:Int)))then
  (Am v1 v3).bind fun y4=>
  if(!y4.bf)then
   AD ((((v2).length:Int)+(([y4]:List Ab).length:Int))*40≤140737488355328∧((v2).length:Int)+(([y4]:List Ab).length:Int)≤140737488355328)<|
   some (.inl ((v2++ [y4]),(IntKind.i64.wrap (v3+1))))
  else
   some (.inl (v2,(IntKind.i64.wrap (v3+1))))
 else
  some (.inr (some v2))
def lZ (v1:List Ab):Option (List Ab):=
 At (fun s:List Ab × Int=>QJ v1 s.1 s.2) ([],0)
def QU (a1:List Ab) (v5:Int) (v6:List Ab):Option ((Int × List Ab) ⊕ Option (List Ab)):=
 if(decide (v5<(a1.length:Int)))then
  (Am a1 v5).bind fun y7=>
  (Nd v6 y7).bind fun v8=>
  some (.inl ((IntKind.i64.wrap (v5+1)),v8))
 else
  some (.inr (lZ v6))
def Zg (a0 a1:List Ab):Option (List Ab):=
 AD (((([]:List Ab).length:Int)+((a0).length:Int))*40≤140737488355328∧(([]:List Ab).length:Int)+((a0).length:Int)≤140737488355328)<|
 At (fun s:Int × List Ab=>QU a1 s.1 s.2) (0,a0)
def O1 (a1:List (List Ax)) (v2:List Bool) (v3:Int) (v4:List Ab):Option ((List Bool × Int × List Ab) ⊕ Option (List Ab × List Bool × Bool)):=
 if(decide (v3<(a1.length:Int)))then
  (Am a1 v3).bind fun y5=>
  (nU v4 y5).bind fun v6=>
  (Zg v4 v6.2.1).bind fun v7=>
  if v6.2.2 then
   (Lz v7).bind fun v8=>
   if v8 then
    AD ((((v2).length:Int)+(([v8]:List Bool).length:Int))*1≤140737488355328∧((v2).length:Int)+(([v8]:List Bool).length:Int)≤140737488355328)<|
    some (.inl ((v2++ [v8]),(IntKind.i64.wrap (v3+1)),v7))
   else
    AD ((((v2).length:Int)+(([v8]:List Bool).length:Int))*1≤140737488355328∧((v2).length:Int)+(([v8]:List Bool).length:Int)≤140737488355328)<|
    some (.inl ((v2++ [v8]),(IntKind.i64.wrap (v3+1)),v4))
  else
   AD ((((v2).length:Int)+(([false]:List Bool).length:Int))*1≤140737488355328∧((v2).length:Int)+(([false]:List Bool).length:Int)≤140737488355328)<|
   some (.inl ((v2++ [false]),(IntKind.i64.wrap (v3+1)),v4))
 else
  some (.inr (some (v4,v2,true)))
def lX (a0:List Ab) (a1:List (List Ax)):Option (List Ab × List Bool × Bool):=
 AD (((([]:List Ab).length:Int)+((a0).length:Int))*40≤140737488355328∧(([]:List Ab).length:Int)+((a0).length:Int)≤140737488355328)<|
 At (fun s:List Bool × Int × List Ab=>O1 a1 s.1 s.2.1 s.2.2) ([],0,a0)
def O0 (a0:List Ab) (a1:List (List Ax)) (v9:Int):Option ((Int) ⊕ Option (List Ab × List Bool × Bool)):=
 if(decide (v9<(a1.length:Int)))then
  (Am a1 v9).bind fun y10=>
  (aB y10).bind fun v11=>
  if(!v11)then
   some (.inr (some ([], [],false)))
  else
   some (.inl (IntKind.i64.wrap (v9+1)))
 else
  some (.inr (lX a0 a1))
def Zf (a0:List Ab) (a1:List (List Ax)):Option (List Ab × List Bool × Bool):=
 (Lz a0).bind fun v1=>
 if((!v1)||(decide ((a1.length:Int)>20)))then
  some ([], [],false)
 else
  At (fun s:Int=>O0 a0 a1 s) 0
def Pb (a0:List Ab) (a1:List Ax):Option (List Ab × Bool):=
 (Zf a0 ([a1]:List (List Ax))).bind fun v1=>
 if((v1.2.1.length:Int)==1)then
  (Am v1.2.1 0).bind fun y2=>
  some (v1.1,y2)
 else
  some (v1.1,false)
def RP (a0:Ad) (a1:List Ab) (a2:Bf):Option (List Ab × Bool × Bool):=
 (RM a0 a2).bind fun v1=>
 if v1 then
  (Lz a1).bind fun v2=>
  if(!v2)then
   some ([],false,false)
  else
   (aA a0 a2).bind fun v3=>
   (Pb a1 v3).bind fun v4=>
   some (v4.1,v4.2,true)
 else
  some ([],false,false)
def GL (a0:AA) (a1:CW):Option (AA × Bool):=
 (Vy a0).bind fun v1=>
 if(a1.a7 !=0)then
  (Am v1.bj a1.ax).bind fun y2=>
  (Gq (IntKind.i64.wrap (y2+a1.a7)) 0 (IntKind.i64.wrap ((a0.ak.length:Int)-1))).bind fun v3=>
  if(!v3)then
   some (v1,false)
  else
   some ((⟨v1.ab,v1.ak,(v1.bj.set (a1.ax).toNat (IntKind.i64.wrap (y2+a1.a7))),v1.au⟩:AA),true)
 else
  (Am a0.bj a1.ax).bind fun y4=>
  (Am a0.ak y4).bind fun y5=>
  (RP y5 a0.au a1.fAct).bind fun v6=>
  some ((⟨v1.ab,v1.ak,v1.bj,v6.1⟩:AA),v6.2.1)
def lP (v1:Int):Option ((Int) ⊕ Option (Bool)):=
 some (.inl (IntKind.i64.wrap (v1+1)))
def O5 (a0:List Int) (v1 y2 v3:Int):Option ((Int) ⊕ Option ((Int) ⊕ Option (Bool))):=
 if(decide (v3<(a0.length:Int)))then
  (Am a0 v3).bind fun y4=>
  if(decide ((IntKind.i64.wrap (y2-y4))>1))then
   some (.inr (some (.inr (some false))))
  else
   some (.inl (IntKind.i64.wrap (v3+1)))
 else
  some (.inr (lP v1))
def Rn (a0:List Int) (v1:Int):Option ((Int) ⊕ Option (Bool)):=
 if(decide (v1<(a0.length:Int)))then
  (Am a0 v1).bind fun y2=>
  At (fun s:Int=>O5 a0 v1 y2 s) 0
 else
  some (.inr (some true))
def Zb (a0:List Int):Option (Bool):=
 At (fun s:Int=>Rn a0 s) 0
def Rq (a0:List Int) (a1 v1:Int):Option ((Int) ⊕ Option (Bool)):=
 if(decide (v1<(a0.length:Int)))then
  (Am a0 v1).bind fun y2=>
  if(y2==a1)then
   some (.inr (some true))
  else
   some (.inl (IntKind.i64.wrap (v1+1)))
 else
  some (.inr (some false))
def Vz (a0:List Int) (a1:Int):Option (Bool):=
 At (fun s:Int=>Rq a0 a1 s) 0
def ZQ (a0:AA):Option (Int):=
 (Lx a0).bind fun v1=>
 (Vz v1 3).bind fun v2=>
 if v2 then
  some 2
 else
  (Vz v1 0).bind fun v3=>
  if v3 then
   some 0
  else
   some 1
def mL (a0:Ac) (v1:Int) (v2:List (Ac)):Option (List (Ac)):=
 AD (0≤v1∧v1≤(a0.length:Int)∧(a0.length:Int)≤(a0.length:Int))<|
 AD ((((v2).length:Int)+(([(By a0 v1 (a0.length:Int))]:List (Ac)).length:Int))*16≤140737488355328∧((v2).length:Int)+(([(By a0 v1 (a0.length:Int))]:List (Ac)).length:Int)≤140737488355328)<|
 some (v2++ [(By a0 v1 (a0.length:Int))])
def Q7 (a0:Ac) (a1:Int) (v3:List (Ac)) (v4 v5:Int):Option ((List (Ac) × Int × Int) ⊕ Option (List (Ac))):=
 if(decide (v5<(a0.length:Int)))then
  (Am a0 v5).bind fun y6=>
  if((y6.toNat:Int)==a1)then
   AD (0≤v4∧v4≤v5∧v5≤(a0.length:Int))<|
   AD ((((v3).length:Int)+(([(By a0 v4 v5)]:List (Ac)).length:Int))*16≤140737488355328∧((v3).length:Int)+(([(By a0 v4 v5)]:List (Ac)).length:Int)≤140737488355328)<|
   some (.inl ((v3++ [(By a0 v4 v5)]),(IntKind.i64.wrap (v5+1)),(IntKind.i64.wrap (v5+1))))
  else
   some (.inl (v3,v4,(IntKind.i64.wrap (v5+1))))
 else
  some (.inr (mL a0 v4 v3))
def O9 (a0:Ac) (a1:Int):Option (List (Ac)):=
 At (fun s:List (Ac) × Int × Int=>Q7 a0 a1 s.1 s.2.1 s.2.2) ([],0,0)
def YD (a0:Ad) (a1 a2:Ac):Option (Ac × Ac × Bool):=
 (O9 a2 47).bind fun v1=>
 if((v1.length:Int) !=3)then
  some (([]:Ac),([]:Ac),false)
 else
  (Am v1 0).bind fun y2=>
  AD ((a0.ab).length+(([46]:Ac)).length≤9223372036854775807)<|
  AD (((a0.ab++([46]:Ac))).length+(a1).length≤9223372036854775807)<|
  if(y2 !=((a0.ab++([46]:Ac))++a1))then
   some (([]:Ac),([]:Ac),false)
  else
   (Am v1 1).bind fun y3=>
   (Rr y3).bind fun v4=>
   if v4 then
    (Am v1 2).bind fun y5=>
    (Rr y5).bind fun v6=>
    if(!v6)then
     some (([]:Ac),([]:Ac),false)
    else
     some (y3,y5,true)
   else
    some (([]:Ac),([]:Ac),false)
def QR (a0:Ad) (a1:Ac) (a2:List Ab) (v1:List (Ac)) (v2:Int):Option ((List (Ac) × Int) ⊕ Option (List (Ac))):=
 if(decide (v2<(a2.length:Int)))then
  (Am a2 v2).bind fun y3=>
  (YD a0 a1 y3.af).bind fun v4=>
  if v4.2.2 then
   AD ((((v1).length:Int)+(([y3.af]:List (Ac)).length:Int))*16≤140737488355328∧((v1).length:Int)+(([y3.af]:List (Ac)).length:Int)≤140737488355328)<|
   some (.inl ((v1++ [y3.af]),(IntKind.i64.wrap (v2+1))))
  else
   some (.inl (v1,(IntKind.i64.wrap (v2+1))))
 else
  some (.inr (some v1))
def OX (a0:Ad) (a1:Ac) (a2:List Ab):Option (List (Ac)):=
 At (fun s:List (Ac) × Int=>QR a0 a1 a2 s.1 s.2) ([],0)
def O6 (a0:Ad) (a1:Ac) (a2:List Ab):Option (Bool):=
 (M8 a0).bind fun v1=>
 if v1 then
  (HW a0 a1).bind fun v2=>
  if(decide (v2≥0))then
   (Lz a2).bind fun v3=>
   some v3
  else
   some false
 else
  some false
def Zm (a0:Ad) (a1:Ab):Option (AL × Bool):=
 if(decide ((a1.af.length:Int)<3))then
  some ((⟨[]⟩:AL),false)
 else
  AD (0≤(2:Int)∧(2:Int)≤(a1.af.length:Int)∧(a1.af.length:Int)≤(a1.af.length:Int))<|
  (O9 a1.ay 44).bind fun v1=>
  AD (((([(By a1.af 2 (a1.af.length:Int))]:List (Ac)).length:Int)+((v1).length:Int))*16≤140737488355328∧(([(By a1.af 2 (a1.af.length:Int))]:List (Ac)).length:Int)+((v1).length:Int)≤140737488355328)<|
  (Na a0 (⟨([(By a1.af 2 (a1.af.length:Int))]++v1)⟩:AL)).bind fun v2=>
  if v2 then
   (Kw a0 (⟨([(By a1.af 2 (a1.af.length:Int))]++v1)⟩:AL)).bind fun v3=>
   some ((⟨([(By a1.af 2 (a1.af.length:Int))]++v1)⟩:AL),(v3.af==a1.af&&(v3.ay==a1.ay&&(v3.bf==a1.bf))))
  else
   some ((⟨([(By a1.af 2 (a1.af.length:Int))]++v1)⟩:AL),false)
def Re (a0:Ad) (a1:List Ab) (v1:List AL) (v2:Int):Option ((List AL × Int) ⊕ Option (List AL)):=
 if(decide (v2<(a1.length:Int)))then
  (Am a1 v2).bind fun y3=>
  (Zm a0 y3).bind fun v4=>
  if v4.2 then
   AD ((((v1).length:Int)+(([v4.1]:List AL).length:Int))*24≤140737488355328∧((v1).length:Int)+(([v4.1]:List AL).length:Int)≤140737488355328)<|
   some (.inl ((v1++ [v4.1]),(IntKind.i64.wrap (v2+1))))
  else
   some (.inl (v1,(IntKind.i64.wrap (v2+1))))
 else
  some (.inr (some v1))
def RG (a0:Ad) (a1:List Ab):Option (List AL):=
 At (fun s:List AL × Int=>Re a0 a1 s.1 s.2) ([],0)
def QV (a0:Ad) (a1:Ac) (v1:List AL) (v2:List (Ac)) (v3:Int):Option ((List (Ac) × Int) ⊕ Option (List (Ac))):=
 if(decide (v3<(v1.length:Int)))then
  (Am v1 v3).bind fun y4=>
  (HW a0 a1).bind fun v5=>
  (Am a0.ah v5).bind fun y6=>
  (Nc a0 y6 y4).bind fun v7=>
  AD ((((v2).length:Int)+(([v7]:List (Ac)).length:Int))*16≤140737488355328∧((v2).length:Int)+(([v7]:List (Ac)).length:Int)≤140737488355328)<|
  some (.inl ((v2++ [v7]),(IntKind.i64.wrap (v3+1))))
 else
  some (.inr (some v2))
def Vb (a0:Ad) (a1:Ac) (a2:List Ab):Option (List (Ac)):=
 (RG a0 a2).bind fun v1=>
 At (fun s:List (Ac) × Int=>QV a0 a1 v1 s.1 s.2) ([],0)
def Q9 (a0:List (Ac)) (a1:List (Ac)) (v1:List (Ac)) (v2:Int):Option ((List (Ac) × Int) ⊕ Option (List (Ac))):=
 if(decide (v2<(a0.length:Int)))then
  (Am a0 v2).bind fun y3=>
  (VE a1 y3).bind fun v4=>
  if(decide (v4<0))then
   AD ((((v1).length:Int)+(([y3]:List (Ac)).length:Int))*16≤140737488355328∧((v1).length:Int)+(([y3]:List (Ac)).length:Int)≤140737488355328)<|
   some (.inl ((v1++ [y3]),(IntKind.i64.wrap (v2+1))))
  else
   some (.inl (v1,(IntKind.i64.wrap (v2+1))))
 else
  some (.inr (some v1))
def ZN (a0:List (Ac)) (a1:List (Ac)):Option (List (Ac)):=
 At (fun s:List (Ac) × Int=>Q9 a0 a1 s.1 s.2) ([],0)
def nB (a0:Ad) (a1:Ac) (a2:List Ab):Option (List (Ac) × Bool):=
 (O6 a0 a1 a2).bind fun v1=>
 if(!v1)then
  some ([],false)
 else
  (OX a0 a1 a2).bind fun v2=>
  (Vb a0 a1 a2).bind fun v3=>
  (ZN v2 v3).bind fun v4=>
  some (v4,true)
def nR (a0:Ad) (a1:Ac) (a2:List Ab):Option (List (Ac) × Bool):=
 (O6 a0 a1 a2).bind fun v1=>
 if(!v1)then
  some ([],false)
 else
  (Vb a0 a1 a2).bind fun v2=>
  (OX a0 a1 a2).bind fun v3=>
  (ZN v2 v3).bind fun v4=>
  some (v4,true)
def YZ (a0:Ad) (a1:Ac) (a2:Int) (a3:List Ab):Option (Bool):=
 if(a2==0)then
  (OX a0 a1 a3).bind fun v1=>
  some ((v1.length:Int)==0)
 else
  (nB a0 a1 a3).bind fun v2=>
  (nR a0 a1 a3).bind fun v3=>
  some (((v2.1.length:Int)==0)&&((a2==1)||((v3.1.length:Int)==0)))
def Vg (a0:AA):Option (Bool):=
 (Am a0.ak 0).bind fun y1=>
 (ZQ a0).bind fun v2=>
 (YZ y1 a0.ab v2 a0.au).bind fun v3=>
 some v3
def Pg (a0:AA) (a1:CW):Option (Bool):=
 (GL a0 a1).bind fun v1=>
 if v1.2 then
  (Zb v1.1.bj).bind fun v2=>
  if v2 then
   (Vg v1.1).bind fun v3=>
   some v3
  else
   some false
 else
  some false
def LA (a0:AI) (a1:CW):Option (AI × Bool):=
 if(a1.a7 !=0)then
  (Pg a0.ae a1).bind fun v1=>
  if(!v1)then
   some (a0,false)
  else
   (Lx a0.ae).bind fun v2=>
   (Am v2 a1.ax).bind fun y3=>
   (GL a0.ae a1).bind fun v4=>
   if(!v4.2)then
    some (a0,false)
   else
    if((a1.a7==0)&&(decide (y3≥2)))then
     some ((⟨v4.1,(⟨a0.ch.al,a0.ch.bc⟩:AJ),(⟨([]:Ac),false⟩:AJ)⟩:AI),true)
    else
     if(a1.a7==0)then
      some ((⟨v4.1,(⟨([]:Ac),false⟩:AJ),(⟨a0.a8.al,a0.a8.bc⟩:AJ)⟩:AI),true)
     else
      some ((⟨v4.1,(⟨a0.ch.al,a0.ch.bc⟩:AJ),(⟨a0.a8.al,a0.a8.bc⟩:AJ)⟩:AI),true)
 else
  (Lx a0.ae).bind fun v5=>
  (Am v5 a1.ax).bind fun y6=>
  (GL a0.ae a1).bind fun v7=>
  if(!v7.2)then
   some (a0,false)
  else
   if((a1.a7==0)&&(decide (y6≥2)))then
    some ((⟨v7.1,(⟨a0.ch.al,a0.ch.bc⟩:AJ),(⟨([]:Ac),false⟩:AJ)⟩:AI),true)
   else
    if(a1.a7==0)then
     some ((⟨v7.1,(⟨([]:Ac),false⟩:AJ),(⟨a0.a8.al,a0.a8.bc⟩:AJ)⟩:AI),true)
    else
     some ((⟨v7.1,(⟨a0.ch.al,a0.ch.bc⟩:AJ),(⟨a0.a8.al,a0.a8.bc⟩:AJ)⟩:AI),true)
def ZF (a0:Ad) (a1:Au) (a2:AL):Option (List Ax):=
 (Kw a0 a2).bind fun v1=>
 (Nc a0 a1 a2).bind fun v2=>
 some [(⟨7,v1.af,v1.ay,0⟩:Ax),(⟨2,v2,([]:Ac),0⟩:Ax)]
def QQ (a0:Ad) (v1:List AL) (v2:List (Ac)) (v3:Int):Option ((List (Ac) × Int) ⊕ Option (List (Ac))):=
 if(decide (v3<(v1.length:Int)))then
  (Am v1 v3).bind fun y4=>
  (Kw a0 y4).bind fun v5=>
  AD ((((v2).length:Int)+(([v5.af]:List (Ac)).length:Int))*16≤140737488355328∧((v2).length:Int)+(([v5.af]:List (Ac)).length:Int)≤140737488355328)<|
  some (.inl ((v2++ [v5.af]),(IntKind.i64.wrap (v3+1))))
 else
  some (.inr (some v2))
def YP (a0:Ad) (a1:List Ab):Option (List (Ac)):=
 (RG a0 a1).bind fun v1=>
 At (fun s:List (Ac) × Int=>QQ a0 v1 s.1 s.2) ([],0)
def UR (a0:List (Ac)) (a1:Ac) (v1:Int):Option ((Int) ⊕ Option (Bool)):=
 if(decide (v1<(a0.length:Int)))then
  (Am a0 v1).bind fun y2=>
  if(!(Op.bytesLess y2 a1||y2==a1))then
   some (.inr (some true))
  else
   some (.inl (IntKind.i64.wrap (v1+1)))
 else
  some (.inr (some false))
def ZE (a0:List (Ac)) (a1:Ac):Option (Bool):=
 At (fun s:Int=>UR a0 a1 s) 0
def Q4 (a0:Ad) (a3:AJ) (v4:Ac) (v5:List Ab):Option (List Ab × AJ):=
 if a3.bc then
  some (v5,(⟨v4,true⟩:AJ))
 else
  (YP a0 v5).bind fun v6=>
  (ZE v6 v4).bind fun v7=>
  some (v5,(⟨v4,(!v7)⟩:AJ))
def Ly (a0:Ad) (a3:AJ) (y2:Au) (v3:List AL) (v8 v9:Int) (v10:Ac) (v11:List Ab):Option ((Int × Int × Ac × List Ab) ⊕ Option (List Ab × AJ)):=
 if(decide (v9<(v3.length:Int)))then
  (Am v3 v9).bind fun y12=>
  (Kw a0 y12).bind fun v13=>
  if((v8==0)||(Op.bytesLess v13.af v10||v13.af==v10))then
   some (.inl (v8,(IntKind.i64.wrap (v9+1)),v10,v11))
  else
   (ZF a0 y2 y12).bind fun v14=>
   (Pb v11 v14).bind fun v15=>
   if(!v15.2)then
    some (.inr (Q4 a0 a3 v10 v11))
   else
    some (.inl ((IntKind.i64.wrap (v8-1)),(IntKind.i64.wrap (v9+1)),v13.af,v15.1))
 else
  some (.inr (Q4 a0 a3 v10 v11))
def Ve (a0:Ad) (a1:Ac) (a2:List Ab) (a3:AJ) (a4:Int):Option (List Ab × AJ):=
 AD (((([]:List Ab).length:Int)+((a2).length:Int))*40≤140737488355328∧(([]:List Ab).length:Int)+((a2).length:Int)≤140737488355328)<|
 (HW a0 a1).bind fun v1=>
 (Am a0.ah v1).bind fun y2=>
 (RG a0 a2).bind fun v3=>
 At (fun s:Int × Int × Ac × List Ab=>Ly a0 a3 y2 v3 s.1 s.2.1 s.2.2.1 s.2.2.2) (a4,0,a3.al,a2)
def Yv (a0:Ad) (a1:Ac) (a3:AJ) (v2:Ac) (v3:List Ab):Option (List Ab × AJ):=
 if a3.bc then
  some (v3,(⟨v2,true⟩:AJ))
 else
  (OX a0 a1 v3).bind fun v4=>
  (ZE v4 v2).bind fun v5=>
  some (v3,(⟨v2,(!v5)⟩:AJ))
def M0 (a0:Ad) (a1:Ac) (a3:AJ) (v1:List (Ac)) (v6 v7:Int) (v8:Ac) (v9:List Ab):Option ((Int × Int × Ac × List Ab) ⊕ Option (List Ab × AJ)):=
 if(decide (v7<(v1.length:Int)))then
  (Am v1 v7).bind fun y10=>
  if((v6==0)||(Op.bytesLess y10 v8||y10==v8))then
   some (.inl (v6,(IntKind.i64.wrap (v7+1)),v8,v9))
  else
   (Pb v9 ([(⟨3,y10,([]:Ac),0⟩:Ax)]:List Ax)).bind fun v11=>
   some (.inl ((IntKind.i64.wrap (v6-1)),(IntKind.i64.wrap (v7+1)),y10,v11.1))
 else
  some (.inr (Yv a0 a1 a3 v8 v9))
def Vk (a0:Ad) (a1:Ac) (a2:List Ab) (a3:AJ) (a4:Int):Option (List Ab × AJ):=
 AD (((([]:List Ab).length:Int)+((a2).length:Int))*40≤140737488355328∧(([]:List Ab).length:Int)+((a2).length:Int)≤140737488355328)<|
 (OX a0 a1 a2).bind fun v1=>
 At (fun s:Int × Int × Ac × List Ab=>M0 a0 a1 a3 v1 s.1 s.2.1 s.2.2.1 s.2.2.2) (a4,0,a3.al,a2)
def Ng (a0:AI) (a1:Bm):Option (AI × Bool):=
 (Zs a0.ae).bind fun v1=>
 if(a1.aj==1)then
  (LA a0 a1.fAct).bind fun v2=>
  some (v2.1,v2.2)
 else
  if((a1.aj==2)&&v1.1)then
   (Am a0.ae.ak 0).bind fun y3=>
   (Ve y3 a0.ae.ab a0.ae.au a0.ch a1.br).bind fun v4=>
   some ((⟨(⟨a0.ae.ab,a0.ae.ak,a0.ae.bj,v4.1⟩:AA),v4.2,(⟨([]:Ac),false⟩:AJ)⟩:AI),true)
  else
   if((a1.aj==3)&&(!v1.2))then
    (Am a0.ae.ak 0).bind fun y5=>
    (Vk y5 a0.ae.ab a0.ae.au a0.a8 a1.br).bind fun v6=>
    some ((⟨(⟨a0.ae.ab,a0.ae.ak,a0.ae.bj,v6.1⟩:AA),(⟨([]:Ac),false⟩:AJ),v6.2⟩:AI),true)
   else
    some (a0,false)
def O2 (a1:List Bm) (v3:List Bool) (v4:Int) (v5:Ac) (v6:List Ad) (v7:List Int) (v8:List Ab) (v9:Ac) (v10:Bool) (v11:Ac) (v12:Bool):Option ((List Bool × Int × Ac × List Ad × List Int × List Ab × Ac × Bool × Ac × Bool) ⊕ Option (AI × List Bool × Bool)):=
 if(decide (v4<(a1.length:Int)))then
  (Am a1 v4).bind fun y13=>
  (Zo (⟨(⟨v5,v6,v7,v8⟩:AA),(⟨v9,v10⟩:AJ),(⟨v11,v12⟩:AJ)⟩:AI) y13).bind fun v14=>
  if v14 then
   (Ng (⟨(⟨v5,v6,v7,v8⟩:AA),(⟨v9,v10⟩:AJ),(⟨v11,v12⟩:AJ)⟩:AI) y13).bind fun v15=>
   AD ((((v3).length:Int)+(([v15.2]:List Bool).length:Int))*1≤140737488355328∧((v3).length:Int)+(([v15.2]:List Bool).length:Int)≤140737488355328)<|
   some (.inl ((v3++ [v15.2]),(IntKind.i64.wrap (v4+1)),v15.1.ae.ab,v15.1.ae.ak,v15.1.ae.bj,v15.1.ae.au,v15.1.ch.al,v15.1.ch.bc,v15.1.a8.al,v15.1.a8.bc))
  else
   AD ((((v3).length:Int)+(([v14]:List Bool).length:Int))*1≤140737488355328∧((v3).length:Int)+(([v14]:List Bool).length:Int)≤140737488355328)<|
   some (.inl ((v3++ [v14]),(IntKind.i64.wrap (v4+1)),v5,v6,v7,v8,v9,v10,v11,v12))
 else
  some (.inr (some ((⟨(⟨v5,v6,v7,v8⟩:AA),(⟨v9,v10⟩:AJ),(⟨v11,v12⟩:AJ)⟩:AI),v3,true)))
def Ze (a0:AI) (a1:List Bm):Option (AI × List Bool × Bool):=
 (Y6 a0).bind fun v1=>
 if((!v1)||(decide ((a1.length:Int)>30)))then
  some ((⟨(⟨([]:Ac), [], [], []⟩:AA),(⟨([]:Ac),false⟩:AJ),(⟨([]:Ac),false⟩:AJ)⟩:AI), [],false)
 else
  (Z7 a0).bind fun v2=>
  At (fun s:List Bool × Int × Ac × List Ad × List Int × List Ab × Ac × Bool × Ac × Bool=>O2 a1 s.1 s.2.1 s.2.2.1 s.2.2.2.1 s.2.2.2.2.1 s.2.2.2.2.2.1 s.2.2.2.2.2.2.1 s.2.2.2.2.2.2.2.1 s.2.2.2.2.2.2.2.2.1 s.2.2.2.2.2.2.2.2.2) ([],0,v2.ae.ab,v2.ae.ak,v2.ae.bj,v2.ae.au,v2.ch.al,v2.ch.bc,v2.a8.al,v2.a8.bc)
def GK (a0 a1 a2:Int):Option (Bool):=
 some ((decide (a0≥a1))&&(decide (a0≤a2)))
def QX (a0:List Ab) (v1:Int) (v2:List (Ac)):Option ((Int × List (Ac)) ⊕ Option (List (Ac))):=
 if(decide (v1<(a0.length:Int)))then
  (Am a0 v1).bind fun y3=>
  AD ((((v2).length:Int)+(([y3.af]:List (Ac)).length:Int))*16≤140737488355328∧((v2).length:Int)+(([y3.af]:List (Ac)).length:Int)≤140737488355328)<|
  some (.inl ((IntKind.i64.wrap (v1+1)),(v2++ [y3.af])))
 else
  some (.inr (some v2))
def Zj (a0:List Ab):Option (List (Ac)):=
 At (fun s:Int × List (Ac)=>QX a0 s.1 s.2) (0, [])
def lL (a0:Int):Option (Bool):=
 some (((decide (a0≥97))&&(decide (a0≤122)))||((decide (a0≥48))&&(decide (a0≤57))))
def mA (a0:Ac) (a1:Int):Option (Int):=
 (X3 a0 a1).bind fun v1=>
 some v1
def lQ (a0 a1:Ac) (v1:Int):Option ((Int) ⊕ Option (Bool)):=
 if(decide (v1<(a0.length:Int)))then
  (Am a0 v1).bind fun y2=>
  (lL (y2.toNat:Int)).bind fun v3=>
  if v3 then
   some (.inl (IntKind.i64.wrap (v1+1)))
  else
   (mA a1 (y2.toNat:Int)).bind fun v4=>
   if(decide (v4<0))then
    some (.inr (some false))
   else
    some (.inl (IntKind.i64.wrap (v1+1)))
 else
  some (.inr (some true))
def Ru (a0 a1:Ac):Option (Bool):=
 At (fun s:Int=>lQ a0 a1 s) 0
def Vh (a0:Ac):Option (Bool):=
 (GK (a0.length:Int) 1 12).bind fun v1=>
 if v1 then
  (Ru a0 ([46,47]:Ac)).bind fun v2=>
  some v2
 else
  some false
def lW (a0:List (Ac)) (v1:Int):Option ((Int) ⊕ Option (Bool)):=
 if(decide (v1<(a0.length:Int)))then
  (Am a0 v1).bind fun y2=>
  (Vh y2).bind fun v3=>
  if(decide (v1>0))then
   if v3 then
    (Am a0 (IntKind.i64.wrap (v1-1))).bind fun y4=>
    if(Op.bytesLess y2 y4||y2==y4)then
     some (.inr (some false))
    else
     some (.inl (IntKind.i64.wrap (v1+1)))
   else
    some (.inr (some false))
  else
   if((!v3)||false)then
    some (.inr (some false))
   else
    some (.inl (IntKind.i64.wrap (v1+1)))
 else
  some (.inr (some true))
def YJ (a0:List (Ac)):Option (Bool):=
 At (fun s:Int=>lW a0 s) 0
def ZI (a0:Ac):Option (Bool):=
 if(decide ((a0.length:Int)≤24))then
  (Ru a0 ([46,45,44,95]:Ac)).bind fun v1=>
  some v1
 else
  some false
def Y7 (a0:Ac) (a1:Bool):Option (Bool):=
 (ZI a0).bind fun v1=>
 some (v1&&(!(a1&&(a0 !=([]:Ac)))))
def Yy (a0:Ab):Option (Bool):=
 (Y7 a0.ay a0.bf).bind fun v1=>
 some (!v1)
def YO (a0:List Ab):Option (Bool):=
 if(decide ((a0.length:Int)≤24))then
  (Zj a0).bind fun v1=>
  (YJ v1).bind fun v2=>
  if v2 then
   (Hq a0 (fun y0_=>Yy y0_)).bind fun v3=>
   some (!v3)
  else
   some false
 else
  some false
def Za (a0:Ab):Option (Bool):=
 some a0.bf
def aF (a0:List Ab):Option (Bool):=
 (YO a0).bind fun v1=>
 if v1 then
  (Hq a0 (fun y0_=>Za y0_)).bind fun v2=>
  some (!v2)
 else
  some false
def lH (a0:Ac) (a1:Int):Option (Bool):=
 (GK (a0.length:Int) 1 a1).bind fun v1=>
 some v1
def lI (a0:Ac) (a1 v2:Int):Option ((Int) ⊕ Option (Bool)):=
 if(decide (v2<(a0.length:Int)))then
  (Am a0 v2).bind fun y3=>
  if((decide ((y3.toNat:Int)<97))||(decide ((y3.toNat:Int)>122)))then
   some (.inr (some false))
  else
   some (.inl (IntKind.i64.wrap (v2+1)))
 else
  some (.inr (lH a0 a1))
def Rc (a0:Ac) (a1:Int):Option (Bool):=
 At (fun s:Int=>lI a0 a1 s) 0
def lA (a0:List (Ac)) (a1:Ac) (v1:Int):Option ((Int) ⊕ Option (Int)):=
 if(decide (v1<(a0.length:Int)))then
  (Am a0 v1).bind fun y2=>
  if(a1==y2)then
   some (.inr (some v1))
  else
   some (.inl (IntKind.i64.wrap (v1+1)))
 else
  some (.inr (some (-1)))
def X6 (a0:List (Ac)) (a1:Ac):Option (Int):=
 At (fun s:Int=>lA a0 a1 s) 0
def Uw (a0:List (Ac)) (a1:Ac):Option (Bool):=
 (X6 a0 a1).bind fun v1=>
 some (decide (v1≥0))
def nT (a0:Int):Option (Bool):=
 (GK a0 0 3).bind fun v1=>
 some v1
def YC (a0:Ad) (v3:Int):Option ((Int) ⊕ Option (Bool)):=
 if(decide (v3<(a0.ah.length:Int)))then
  (Am a0.ah v3).bind fun y4=>
  (Rc y4.ab 1).bind fun v5=>
  if v5 then
   (GK y4.bh 1 (IntKind.i64.wrap ((a0.aq.length:Int)-1))).bind fun v6=>
   if v6 then
    (nT y4.ao).bind fun v7=>
    if(decide (v3>0))then
     if v7 then
      (Am a0.ah (IntKind.i64.wrap (v3-1))).bind fun y8=>
      if(Op.bytesLess y4.ab y8.ab||y4.ab==y8.ab)then
       some (.inr (some false))
      else
       some (.inl (IntKind.i64.wrap (v3+1)))
     else
      some (.inr (some false))
    else
     if((!v7)||false)then
      some (.inr (some false))
     else
      some (.inl (IntKind.i64.wrap (v3+1)))
   else
    some (.inr (some false))
  else
   some (.inr (some false))
 else
  some (.inr (some true))
def lV (a0:Ad):Option (Bool):=
 At (fun s:Int=>YC a0 s) 0
def YB (a0:Ad) (v9:Int):Option ((Int) ⊕ Option (Bool)):=
 if(decide (v9<(a0.aq.length:Int)))then
  (Am a0.aq v9).bind fun y10=>
  (Rc y10 3).bind fun v11=>
  if v11 then
   AD (0≤(0:Int)∧(0:Int)≤v9∧v9≤(a0.aq.length:Int))<|
   (Uw (By a0.aq 0 v9) y10).bind fun v12=>
   if v12 then
    some (.inr (some false))
   else
    some (.inl (IntKind.i64.wrap (v9+1)))
  else
   some (.inr (some false))
 else
  some (.inr (lV a0))
def YR (a0:Ad):Option (Bool):=
 (Rc a0.ab 1).bind fun v1=>
 if v1 then
  (GK (a0.aq.length:Int) 2 4).bind fun v2=>
  if((!v2)||(decide ((a0.ah.length:Int)>3)))then
   some false
  else
   At (fun s:Int=>YB a0 s) 0
 else
  some false
def lD (a0:Au) (a1:Ac):Option (Bool):=
 some (a0.ab==a1)
def Qy (a0:Ad) (a1:Ac):Option (Int):=
 (Ff a0.ah (fun y0_=>lD y0_ a1)).bind fun v1=>
 some v1
def aE (a0:Ad) (a1:Ac):Option (Bool):=
 (YR a0).bind fun v1=>
 if v1 then
  (Qy a0 a1).bind fun v2=>
  some (decide (v2≥0))
 else
  some false
def lO (a0:Ad) (a1:AA):Option (Bool):=
 (aE a0 a1.ab).bind fun v1=>
 some (!v1)
def mP (a0:Int) (a1:AA):Option (Bool):=
 (GK a0 0 (IntKind.i64.wrap ((a1.ak.length:Int)-1))).bind fun v1=>
 some (!v1)
def M3 (a0:Ad) (a1:Ac):Option (Au):=
 (Qy a0 a1).bind fun v1=>
 (Am a0.ah v1).bind fun y2=>
 some y2
def J2 (a0:AA) (a1:Ad):Option (Int):=
 (M3 a1 a0.ab).bind fun v1=>
 some v1.ao
def Uy (xs:List (Ac)):Option (List (Ac)):=Nv 16 xs
def kZ (xs:List Au):Option (List Au):=Nv 32 xs
def RA (a0:Ad):Option (Ad):=
 (Uy a0.aq).bind fun v1=>
 (kZ a0.ah).bind fun v2=>
 some (⟨a0.ab,v1,v2⟩:Ad)
def UC (a0:Ad) (a1:Ac) (a2:Int):Option (Ad):=
 (RA a0).bind fun v1=>
 (Qy a0 a1).bind fun v2=>
 (Am v1.ah v2).bind fun y3=>
 some (⟨v1.ab,v1.aq,(v1.ah.set (v2).toNat {y3 with ao:=a2})⟩:Ad)
def UD (a0:Ad) (a1:Ac) (a2 v3:Int) (v4:List Ad):Option ((Int × List Ad) ⊕ Option (List Ad)):=
 if(v3 !=a2)then
  if(decide (v3<a2))then
   (UC a0 a1 (IntKind.i64.wrap (v3+1))).bind fun v5=>
   AD ((((v4).length:Int)+(([v5]:List Ad).length:Int))*64≤140737488355328∧((v4).length:Int)+(([v5]:List Ad).length:Int)≤140737488355328)<|
   some (.inl ((IntKind.i64.wrap (v3+1)),(v4++ [v5])))
  else
   (UC a0 a1 (IntKind.i64.wrap (v3-1))).bind fun v6=>
   AD ((((v4).length:Int)+(([v6]:List Ad).length:Int))*64≤140737488355328∧((v4).length:Int)+(([v6]:List Ad).length:Int)≤140737488355328)<|
   some (.inl ((IntKind.i64.wrap (v3-1)),(v4++ [v6])))
 else
  some (.inr (some v4))
def Yl (a0:Ad) (a1:Ac) (a2:Int):Option (List Ad):=
 (M3 a0 a1).bind fun v1=>
 (RA a0).bind fun v2=>
 At (fun s:Int × List Ad=>UD a0 a1 a2 s.1 s.2) (v1.ao, [v2])
def Ux (a0 a1:List Ad) (a2:Ad→Ad→Option Bool) (v1:Int):Option ((Int) ⊕ Option (Bool)):=
 if(decide (v1<(a0.length:Int)))then
  (Am a0 v1).bind fun y2=>
  (Am a1 v1).bind fun y3=>
  (a2 y2 y3).bind fun v4=>
  if(!v4)then
   some (.inr (some false))
  else
   some (.inl (IntKind.i64.wrap (v1+1)))
 else
  some (.inr (some true))
def X2 (a0 a1:List Ad) (a2:Ad→Ad→Option Bool):Option (Bool):=
 if((a0.length:Int) !=(a1.length:Int))then
  some false
 else
  At (fun s:Int=>Ux a0 a1 a2 s) 0
def Uv (a0:List (Ac)) (a1:List (Ac)) (v1:Int):Option ((Int) ⊕ Option (Bool)):=
 if(decide (v1<(a0.length:Int)))then
  (Am a0 v1).bind fun y2=>
  (Am a1 v1).bind fun y3=>
  if(y2 !=y3)then
   some (.inr (some false))
  else
   some (.inl (IntKind.i64.wrap (v1+1)))
 else
  some (.inr (some true))
def X5 (a0:List (Ac)) (a1:List (Ac)):Option (Bool):=
 if((a0.length:Int) !=(a1.length:Int))then
  some false
 else
  At (fun s:Int=>Uv a0 a1 s) 0
def Uu (a0 a1:List Au) (v1:Int):Option ((Int) ⊕ Option (Bool)):=
 if(decide (v1<(a0.length:Int)))then
  (Am a0 v1).bind fun y2=>
  (Am a1 v1).bind fun y3=>
  if(!(y2.ab==y3.ab&&(y2.bh==y3.bh&&(y2.ao==y3.ao))))then
   some (.inr (some false))
  else
   some (.inl (IntKind.i64.wrap (v1+1)))
 else
  some (.inr (some true))
def X7 (a0 a1:List Au):Option (Bool):=
 if((a0.length:Int) !=(a1.length:Int))then
  some false
 else
  At (fun s:Int=>Uu a0 a1 s) 0
def M6 (a0 a1:Ad):Option (Bool):=
 if(a0.ab==a1.ab)then
  (X5 a0.aq a1.aq).bind fun v1=>
  if v1 then
   (X7 a0.ah a1.ah).bind fun v2=>
   some v2
  else
   some false
 else
  some false
def Zk (a0:AA):Option (Bool):=
 (GK (a0.ak.length:Int) 1 4).bind fun v1=>
 if v1 then
  (GK (a0.bj.length:Int) 1 3).bind fun v2=>
  if v2 then
   (aF a0.au).bind fun v3=>
   if(!v3)then
    some false
   else
    (Hq a0.ak (fun y0_=>lO y0_ a0)).bind fun v4=>
    if v4 then
     some false
    else
     (Hq a0.bj (fun y0_=>mP y0_ a0)).bind fun v5=>
     if v5 then
      some false
     else
      (Am a0.ak 0).bind fun y6=>
      (Am a0.ak (IntKind.i64.wrap ((a0.ak.length:Int)-1))).bind fun y7=>
      (J2 a0 y7).bind fun v8=>
      (Yl y6 a0.ab v8).bind fun v9=>
      (X2 a0.ak v9 (fun y0_ y1_=>M6 y0_ y1_)).bind fun v10=>
      some v10
  else
   some false
 else
  some false
def Vo (a0:AJ):Option (Bool):=
 if(a0.al==([]:Ac))then
  some true
 else
  (Vh a0.al).bind fun v1=>
  some v1
def Zz (a0:AI):Option (Bool):=
 (Zk a0.ae).bind fun v1=>
 if v1 then
  (Vo a0.ch).bind fun v2=>
  if v2 then
   (Vo a0.a8).bind fun v3=>
   some v3
  else
   some false
 else
  some false
def lB (xs:List Int):Option (List Int):=Nv 8 xs
def OT (xs:List Ab):Option (List Ab):=Nv 40 xs
def QM (a0:AA) (v1:List Int) (v2:List Ab) (v3:Int) (v4:List Ad):Option ((Int × List Ad) ⊕ Option (AA)):=
 if(decide (v3<(a0.ak.length:Int)))then
  (Am a0.ak v3).bind fun y5=>
  (RA y5).bind fun v6=>
  AD ((((v4).length:Int)+(([v6]:List Ad).length:Int))*64≤140737488355328∧((v4).length:Int)+(([v6]:List Ad).length:Int)≤140737488355328)<|
  some (.inl ((IntKind.i64.wrap (v3+1)),(v4++ [v6])))
 else
  some (.inr (some (⟨a0.ab,v4,v1,v2⟩:AA)))
def U9 (a0:AA):Option (AA):=
 (lB a0.bj).bind fun v1=>
 (OT a0.au).bind fun v2=>
 At (fun s:Int × List Ad=>QM a0 v1 v2 s.1 s.2) (0, [])
def Rw (a0:AI):Option (AI):=
 (U9 a0.ae).bind fun v1=>
 some (⟨v1,a0.ch,a0.a8⟩:AI)
def Gp (a0:AA) (a1:Int):Option (Ad):=
 (Am a0.bj a1).bind fun y1=>
 (Am a0.ak y1).bind fun y2=>
 some y2
def RH (a0:Ac):Option (Bool):=
 (GK (a0.length:Int) 1 3).bind fun v1=>
 if v1 then
  (Ru a0 ([]:Ac)).bind fun v2=>
  some v2
 else
  some false
def Yo (a0:Ac):Option (Bool):=
 (RH a0).bind fun v1=>
 some (!v1)
def M5 (a0:Ad) (a1:AL):Option (Bool):=
 if((a1.ar.length:Int)==(a0.aq.length:Int))then
  (Hq a1.ar (fun y0_=>Yo y0_)).bind fun v1=>
  some (!v1)
 else
  some false
def Yd (a0:Ad) (a1:Bf):Option (Bool):=
 if(a1.aj==1)then
  if((a1.bg.ar.length:Int)==0)then
   (M5 a0 a1.bm).bind fun v1=>
   some v1
  else
   some false
 else
  if(a1.aj==2)then
   (M5 a0 a1.bg).bind fun v2=>
   some (v2&&((a1.bm.ar.length:Int)==0))
  else
   if(a1.aj==3)then
    (M5 a0 a1.bg).bind fun v3=>
    if v3 then
     (M5 a0 a1.bm).bind fun v4=>
     if v4 then
      (Am a1.bg.ar 0).bind fun y5=>
      (Am a1.bm.ar 0).bind fun y6=>
      some (y5==y6)
     else
      some false
    else
     some false
   else
    some false
def Vt (a0:Bf):Option (Bool):=
 some (((a0.aj==0)&&((a0.bg.ar.length:Int)==0))&&((a0.bm.ar.length:Int)==0))
def X9 (a0:AA) (a1:CW):Option (Bool):=
 (GK a1.ax 0 (IntKind.i64.wrap ((a0.bj.length:Int)-1))).bind fun v1=>
 if(!v1)then
  some false
 else
  if(a1.a7==0)then
   (Gp a0 a1.ax).bind fun v2=>
   (Yd v2 a1.fAct).bind fun v3=>
   some v3
  else
   if(a1.a7==1)then
    (Vt a1.fAct).bind fun v4=>
    some v4
   else
    if(a1.a7==(-1))then
     (Vt a1.fAct).bind fun v5=>
     some v5
    else
     some false
def Yb (a1:Bm) (v2:Bool):Option (Bool):=
 if v2 then
  (GK a1.br 1 24).bind fun v3=>
  if v3 then
   if(a1.fAct.ax==0)then
    if(a1.fAct.a7==0)then
     (Vt a1.fAct.fAct).bind fun v4=>
     some v4
    else
     some false
   else
    some false
  else
   some false
 else
  some false
def Yg (a0:AI) (a1:Bm):Option (Bool):=
 if(a1.aj==1)then
  if(a1.br==0)then
   (X9 a0.ae a1.fAct).bind fun v1=>
   some v1
  else
   some false
 else
  if(a1.aj==2)then
   Yb a1 (a1.aj==2)
  else
   Yb a1 (a1.aj==3)
def MY (a0:Ad) (a1:AL):Option (Ab):=
 AD ((a0.ab).length+(([47]:Ac)).length≤9223372036854775807)<|
 (Am a1.ar 0).bind fun y1=>
 AD (((a0.ab++([47]:Ac))).length+(y1).length≤9223372036854775807)<|
 AD (0≤(1:Int)∧(1:Int)≤(a1.ar.length:Int)∧(a1.ar.length:Int)≤(a1.ar.length:Int))<|
 (ZT (By a1.ar 1 (a1.ar.length:Int)) ([44]:Ac)).bind fun v2=>
 some (⟨((a0.ab++([47]:Ac))++y1),v2,false⟩:Ab)
def Kv (a0:Int) (a1:Ab) (a2:List Ax):Option (Unit × List Ax):=
 AD ((((a2).length:Int)+(([(⟨a0,a1.af,a1.ay,0⟩:Ax)]:List Ax).length:Int))*48≤140737488355328∧((a2).length:Int)+(([(⟨a0,a1.af,a1.ay,0⟩:Ax)]:List Ax).length:Int)≤140737488355328)<|
 some ((),(a2++ [(⟨a0,a1.af,a1.ay,0⟩:Ax)]))
def UA (a0:Ad) (a1:Ac):Option (Ac):=
 AD ((a0.ab).length+(([46]:Ac)).length≤9223372036854775807)<|
 AD (((a0.ab++([46]:Ac))).length+(a1).length≤9223372036854775807)<|
 AD ((((a0.ab++([46]:Ac))++a1)).length+(([47]:Ac)).length≤9223372036854775807)<|
 some (((a0.ab++([46]:Ac))++a1)++([47]:Ac))
def Lu (a0:Ad) (a1:Ac) (a2:AL):Option (Ac):=
 (UA a0 a1).bind fun v1=>
 (M3 a0 a1).bind fun v2=>
 (Am a2.ar v2.bh).bind fun y3=>
 AD ((v1).length+(y3).length≤9223372036854775807)<|
 AD (((v1++y3)).length+(([47]:Ac)).length≤9223372036854775807)<|
 (Am a2.ar 0).bind fun y4=>
 AD ((((v1++y3)++([47]:Ac))).length+(y4).length≤9223372036854775807)<|
 some (((v1++y3)++([47]:Ac))++y4)
def nV (a0:Int):Option (Bool):=
 some (decide (a0≥1))
def M9 (a0:Int):Option (Bool):=
 some (decide (a0≥2))
def QC (v9:Int) (y11:Au) (v13:Ac) (v14:List Ax):Option ((Int × List Ax) ⊕ Option (List Ax)):=
 if(v13 !=([]:Ac))then
  (M9 y11.ao).bind fun v15=>
  if v15 then
   (Kv 2 (⟨v13,([]:Ac),false⟩:Ab) v14).bind fun v16=>
   some (.inl ((IntKind.i64.wrap (v9+1)),v16.2))
  else
   some (.inl ((IntKind.i64.wrap (v9+1)),v14))
 else
  some (.inl ((IntKind.i64.wrap (v9+1)),v14))
def OW (v9:Int) (v10:List Ax) (y11:Au) (v12 v13:Ac):Option ((Int × List Ax) ⊕ Option (List Ax)):=
 if(v12 !=([]:Ac))then
  if(v12 !=v13)then
   (nV y11.ao).bind fun v17=>
   if v17 then
    (Kv 3 (⟨v12,([]:Ac),false⟩:Ab) v10).bind fun v18=>
    QC v9 y11 v13 v18.2
   else
    QC v9 y11 v13 v10
  else
   QC v9 y11 v13 v10
 else
  QC v9 y11 v13 v10
def lC (a0:Ad) (a1:Bf) (v9:Int) (v10:List Ax) (y11:Au) (v12:Ac):Option ((Int × List Ax) ⊕ Option (List Ax)):=
 if(a1.aj !=2)then
  (Lu a0 y11.ab a1.bm).bind fun v19=>
  OW v9 v10 y11 v12 v19
 else
  OW v9 v10 y11 v12 ([]:Ac)
def QB (a0:Ad) (a1:Bf) (v9:Int) (v10:List Ax):Option ((Int × List Ax) ⊕ Option (List Ax)):=
 if(decide (v9<(a0.ah.length:Int)))then
  (Am a0.ah v9).bind fun y11=>
  Uc (σ:=Ac) (
   if(a1.aj !=1)then
    (Lu a0 y11.ab a1.bg).bind fun v20=>
    some (.inl v20)
   else
    some (.inl ([]:Ac))
  ) (fun s=>lC a0 a1 v9 v10 y11 s)
 else
  some (.inr (some v10))
def QI (a0:Ad) (a1:Bf) (v8:List Ax):Option (List Ax):=
 At (fun s:Int × List Ax=>QB a0 a1 s.1 s.2) (0,v8)
def UB (a0:Ad) (a1:Bf) (v1:Ac) (v4:List Ax) (v5 v6:Ac) (v7:Bool):Option (List Ax):=
 if(a1.aj==1)then
  (Kv 6 (⟨v5,([]:Ac),false⟩:Ab) v4).bind fun v21=>
  (Kv 2 (⟨v5,v6,v7⟩:Ab) v21.2).bind fun v22=>
  QI a0 a1 v22.2
 else
  if(a1.aj==2)then
   (Kv 3 (⟨v1,([]:Ac),false⟩:Ab) v4).bind fun v23=>
   QI a0 a1 v23.2
  else
   if(a1.aj==3)then
    (Kv 2 (⟨v5,v6,v7⟩:Ab) v4).bind fun v24=>
    QI a0 a1 v24.2
   else
    QI a0 a1 v4
def OV (a0:Ad) (a1:Bf) (v1 v2:Ac) (v3:Bool) (v4:List Ax):Option (List Ax):=
 if(a1.aj !=2)then
  (MY a0 a1.bm).bind fun v25=>
  UB a0 a1 v1 v4 v25.af v25.ay v25.bf
 else
  UB a0 a1 v1 v4 ([]:Ac) ([]:Ac) false
def Yk (a0:Ad) (a1:Bf):Option (List Ax):=
 Uc (σ:=Ac × Ac × Bool × List Ax) (
  if(a1.aj !=1)then
   (MY a0 a1.bg).bind fun v26=>
   (Kv 7 v26 ([]:List Ax)).bind fun v27=>
   some (.inl (v26.af,v26.ay,v26.bf,v27.2))
  else
   some (.inl (([]:Ac),([]:Ac),false, []))
 ) (fun s=>OV a0 a1 s.1 s.2.1 s.2.2.1 s.2.2.2)
def kU (a0:List Ab) (a1:Ac) (a2:Ab→(Ac)→Option Int) (v1:Int):Option (Int × Bool):=
 if(decide (v1<(a0.length:Int)))then
  (Am a0 v1).bind fun y2=>
  (a2 y2 a1).bind fun v3=>
  some (v1,(v3==0))
 else
  some (v1,false)
def Qv (a0:List Ab) (a1:Ac) (a2:Ab→(Ac)→Option Int) (v4 v5:Int):Option ((Int × Int) ⊕ Option (Int × Bool)):=
 if(decide (v4<v5))then
  (Am a0 (IntKind.i64.wrap (Int.fdiv (IntKind.u64.wrap (IntKind.i64.wrap (v4+v5))) (2^(min ((1:Int)).toNat (IntKind.bits .u64)))))).bind fun y6=>
  (a2 y6 a1).bind fun v7=>
  if(decide (v7<0))then
   some (.inl ((IntKind.i64.wrap ((IntKind.i64.wrap (Int.fdiv (IntKind.u64.wrap (IntKind.i64.wrap (v4+v5))) (2^(min ((1:Int)).toNat (IntKind.bits .u64)))))+1)),v5))
  else
   some (.inl (v4,(IntKind.i64.wrap (Int.fdiv (IntKind.u64.wrap (IntKind.i64.wrap (v4+v5))) (2^(min ((1:Int)).toNat (IntKind.bits .u64)))))))
 else
  some (.inr (kU a0 a1 a2 v4))
def kV (a0:List Ab) (a1:Ac) (a2:Ab→(Ac)→Option Int):Option (Int × Bool):=
 At (fun s:Int × Int=>Qv a0 a1 a2 s.1 s.2) (0,(a0.length:Int))
def UW (a0:Ac):Option (Bool):=
 some (a0 !=a0)
def Ys (a0 a1:Ac):Option (Int):=
 (UW a0).bind fun v1=>
 (UW a1).bind fun v2=>
 if v1 then
  if v2 then
   some 0
  else
   some (-1)
 else
  if v2 then
   some 1
  else
   if(Op.bytesLess a0 a1)then
    some (-1)
   else
    if(!(Op.bytesLess a0 a1||a0==a1))then
     some 1
    else
     some 0
def Rh (a0:Ab) (a1:Ac):Option (Int):=
 (Ys a0.af a1).bind fun v1=>
 some v1
def M7 (a0:List Ab) (a1:Ac):Option (Int × Bool):=
 (kV a0 a1 (fun y0_ y1_=>Rh y0_ y1_)).bind fun v1=>
 some (v1.1,v1.2)
def Pa (a0:List Ab) (a1:Ab):Option (List Ab):=
 (M7 a0 a1.af).bind fun v1=>
 if v1.2 then
  (Am a0 v1.1).bind fun y2=>
  some (a0.set (v1.1).toNat a1)
 else
  (cJ a0 v1.1 ([a1]:List Ab)).bind fun v3=>
  some v3
def Ra (a0:Ac) (a2:List zip) (v3:Int):Option ((Int) ⊕ Option (Ac × Bool × Bool)):=
 if(decide (v3<(a2.length:Int)))then
  (Am a2 v3).bind fun y4=>
  if(y4.af==a0)then
   some (.inr (some (y4.ay,y4.dh,true)))
  else
   some (.inl (IntKind.i64.wrap (v3+1)))
 else
  some (.inr (some (([]:Ac),false,false)))
def Zu (a0:Ac) (a1:List Ab) (a2:List zip):Option (Ac × Bool × Bool):=
 (M7 a1 a0).bind fun v1=>
 if v1.2 then
  (Am a1 v1.1).bind fun y2=>
  some (y2.ay,(!y2.bf),true)
 else
  At (fun s:Int=>Ra a0 a2 s) 0
def Vm (a0:Ac):Option (Int × Bool):=
 (ZK a0 (-999999) 999999).bind fun v1=>
 some (v1.1,v1.2)
def YU (a0:Ax) (a1:Ac) (a2:Bool):Option (Bool):=
 (Vm a1).bind fun v1=>
 if(a0.aj==4)then
  if v1.2 then
   if a2 then
    (GK (IntKind.i64.wrap (v1.1+a0.jq)) (-999999) 999999).bind fun v2=>
    some v2
   else
    some true
  else
   some ((!a2)||false)
 else
  if(a0.aj==5)then
   some ((a2&&v1.2)&&(decide (v1.1≥a0.jq)))
  else
   if(a0.aj==6)then
    some (!a2)
   else
    if(a0.aj==7)then
     some (a2&&(a1==a0.ay))
    else
     some true
def Is (a0:List Ax) (a1:List zip) (v1:Int) (v2:List Ab):Option ((Int × List Ab) ⊕ Option (Int × Ac × List Ab)):=
 if(decide (v1<(a0.length:Int)))then
  (Am a0 v1).bind fun y3=>
  if(y3.aj==2)then
   (Pa v2 (⟨y3.af,y3.ay,false⟩:Ab)).bind fun v4=>
   some (.inl ((IntKind.i64.wrap (v1+1)),v4))
  else
   if(y3.aj==3)then
    (Pa v2 (⟨y3.af,([]:Ac),true⟩:Ab)).bind fun v5=>
    some (.inl ((IntKind.i64.wrap (v1+1)),v5))
   else
    (Zu y3.af v2 a1).bind fun v6=>
    if(!v6.2.2)then
     some (.inr (some (1,y3.af, [])))
    else
     (YU y3 v6.1 v6.2.1).bind fun v7=>
     if(!v7)then
      some (.inr (some (2,([]:Ac), [])))
     else
      if(y3.aj==4)then
       (Vm v6.1).bind fun v8=>
       (nO (IntKind.i64.wrap (v8.1+y3.jq))).bind fun v9=>
       (Pa v2 (⟨y3.af,v9,false⟩:Ab)).bind fun v10=>
       some (.inl ((IntKind.i64.wrap (v1+1)),v10))
      else
       some (.inl ((IntKind.i64.wrap (v1+1)),v2))
 else
  some (.inr (some (3,([]:Ac),v2)))
def nN (a0:List Ax) (a1:List zip):Option (Int × Ac × List Ab):=
 At (fun s:Int × List Ab=>Is a0 a1 s.1 s.2) (0, [])
def aK (a0:List Ab) (a1:Ac):Option (zip):=
 (M7 a0 a1).bind fun v1=>
 if(!v1.2)then
  some (⟨a1,([]:Ac),false⟩:zip)
 else
  (Am a0 v1.1).bind fun y2=>
  some (⟨a1,y2.ay,true⟩:zip)
def O4 (a0:List Ab) (a1:List Ax) (v1:List zip):Option ((List zip) ⊕ Option (List zip × List Ab × Bool)):=
 (nN a1 v1).bind fun v2=>
 if(v2.1 !=1)then
  some (.inr (some (v1,v2.2.2,(v2.1==3))))
 else
  (aK a0 v2.2.1).bind fun v3=>
  AD ((((v1).length:Int)+(([v3]:List zip).length:Int))*40≤140737488355328∧((v1).length:Int)+(([v3]:List zip).length:Int)≤140737488355328)<|
  some (.inl (v1++ [v3]))
def nG (a0:List Ab) (a1:List Ax):Option (List zip × List Ab × Bool):=
 At (fun s:List zip=>O4 a0 a1 s) []
def mV (a0:Ab):Option (Bool):=
 some a0.bf
def mH (v2:List Ab):Option (List Ab × Bool):=
 (IW v2 (fun y0_=>mV y0_)).bind fun v3=>
 if(decide ((v3.length:Int)>24))then
  some ([],false)
 else
  some (v3,true)
def Rb (a1:List Ab) (v4:Int) (v5:List Ab):Option ((Int × List Ab) ⊕ Option (List Ab × Bool)):=
 if(decide (v4<(a1.length:Int)))then
  (Am a1 v4).bind fun y6=>
  (Pa v5 y6).bind fun v7=>
  some (.inl ((IntKind.i64.wrap (v4+1)),v7))
 else
  some (.inr (mH v5))
def ZD (a0 a1:List Ab):Option (List Ab × Bool):=
 (OT a0).bind fun v1=>
 At (fun s:Int × List Ab=>Rb a1 s.1 s.2) (0,v1)
def Vu (a0:List Ab) (a1:List Ax):Option (List Ab × Bool):=
 (nG a0 a1).bind fun v1=>
 (ZD a0 v1.2.1).bind fun v2=>
 if((!v1.2.2)||(!v2.2))then
  AD (((([]:List Ab).length:Int)+((a0).length:Int))*40≤140737488355328∧(([]:List Ab).length:Int)+((a0).length:Int)≤140737488355328)<|
  some (a0,false)
 else
  some (v2.1,true)
def QS (a0:AA) (a1:CW):Option (AA × Bool):=
 (U9 a0).bind fun v1=>
 if(a1.a7 !=0)then
  (Am a0.bj a1.ax).bind fun y2=>
  (GK (IntKind.i64.wrap (y2+a1.a7)) 0 (IntKind.i64.wrap ((a0.ak.length:Int)-1))).bind fun v3=>
  if(!v3)then
   some (v1,false)
  else
   (Am v1.bj a1.ax).bind fun y4=>
   some ((⟨v1.ab,v1.ak,(v1.bj.set (a1.ax).toNat (IntKind.i64.wrap (y2+a1.a7))),v1.au⟩:AA),true)
 else
  (Gp a0 a1.ax).bind fun v5=>
  (Yk v5 a1.fAct).bind fun v6=>
  (Vu a0.au v6).bind fun v7=>
  some ((⟨v1.ab,v1.ak,v1.bj,v7.1⟩:AA),v7.2)
def OR (a0:List Int) (v2 v3:Int):Option ((Int × Int) ⊕ Option (Int)):=
 if(decide (v3<(a0.length:Int)))then
  (Am a0 v3).bind fun y4=>
  some (.inl ((bif (decide (y4>v2))then y4 else v2),(IntKind.i64.wrap (v3+1))))
 else
  some (.inr (some v2))
def Yc (a0:List Int):Option (Int):=
 if(decide ((a0.length:Int)<1))then
  none
 else
  (Am a0 0).bind fun y1=>
  At (fun s:Int × Int=>OR a0 s.1 s.2) (y1,1)
def OS (a0:List Int) (v2 v3:Int):Option ((Int × Int) ⊕ Option (Int)):=
 if(decide (v3<(a0.length:Int)))then
  (Am a0 v3).bind fun y4=>
  some (.inl ((bif (decide (y4<v2))then y4 else v2),(IntKind.i64.wrap (v3+1))))
 else
  some (.inr (some v2))
def Yh (a0:List Int):Option (Int):=
 if(decide ((a0.length:Int)<1))then
  none
 else
  (Am a0 0).bind fun y1=>
  At (fun s:Int × Int=>OS a0 s.1 s.2) (y1,1)
def Yf (a0:AA):Option (Bool):=
 (Yc a0.bj).bind fun v1=>
 (Yh a0.bj).bind fun v2=>
 some (decide ((IntKind.i64.wrap (v1-v2))≤1))
def Qw (a0:AA) (v1 v2:Int):Option ((Int × Int) ⊕ Option (Int)):=
 if(decide (v2<(a0.bj.length:Int)))then
  (Gp a0 v2).bind fun v3=>
  (J2 a0 v3).bind fun v4=>
  if(v4==3)then
   some (.inr (some 2))
  else
   if(v4==0)then
    some (.inl (0,(IntKind.i64.wrap (v2+1))))
   else
    some (.inl (v1,(IntKind.i64.wrap (v2+1))))
 else
  some (.inr (some v1))
def YA (a0:AA):Option (Int):=
 At (fun s:Int × Int=>Qw a0 s.1 s.2) (1,0)
def X4 (a0 a1:Ac):Option (Bool):=
 if(decide ((a0.length:Int)≥(a1.length:Int)))then
  AD (0≤(0:Int)∧(0:Int)≤(a1.length:Int)∧(a1.length:Int)≤(a0.length:Int))<|
  some ((By a0 0 (a1.length:Int))==a1)
 else
  some false
def kY (a0 a1:Ac):Option (Ac × Bool):=
 (X4 a0 a1).bind fun v1=>
 if(!v1)then
  some (a0,false)
 else
  AD (0≤(a1.length:Int)∧(a1.length:Int)≤(a0.length:Int)∧(a0.length:Int)≤(a0.length:Int))<|
  some ((By a0 (a1.length:Int) (a0.length:Int)),true)
def UX (a0 a1:Ac):Option (Ac × Bool):=
 (kY a0 a1).bind fun v1=>
 some (v1.1,v1.2)
def Ya (a0 a1:Ac):Option (Ac × Ac × Bool):=
 (QE a0 a1).bind fun v1=>
 if(decide (v1≥0))then
  AD (0≤(0:Int)∧(0:Int)≤v1∧v1≤(a0.length:Int))<|
  AD (0≤(IntKind.i64.wrap (v1+(a1.length:Int)))∧(IntKind.i64.wrap (v1+(a1.length:Int)))≤(a0.length:Int)∧(a0.length:Int)≤(a0.length:Int))<|
  some ((By a0 0 v1),(By a0 (IntKind.i64.wrap (v1+(a1.length:Int))) (a0.length:Int)),true)
 else
  some (a0,([]:Ac),false)
def RN (a0 a1:Ac):Option (Ac × Ac × Bool):=
 (Ya a0 a1).bind fun v1=>
 some (v1.1,v1.2.1,v1.2.2)
def X8 (a0:Ad) (a1 a2:Ac):Option (Ac × Ac × Bool):=
 (UA a0 a1).bind fun v1=>
 (UX a2 v1).bind fun v2=>
 (RN v2.1 ([47]:Ac)).bind fun v3=>
 if v2.2 then
  if v3.2.2 then
   (RH v3.1).bind fun v4=>
   if v4 then
    (RH v3.2.1).bind fun v5=>
    if(!v5)then
     some (([]:Ac),([]:Ac),false)
    else
     some (v3.1,v3.2.1,true)
   else
    some (([]:Ac),([]:Ac),false)
  else
   some (([]:Ac),([]:Ac),false)
 else
  some (([]:Ac),([]:Ac),false)
def QG (a0:Ad) (a1:Ac) (a2:List Ab) (v1:Int) (v2:List (Ac)):Option ((Int × List (Ac)) ⊕ Option (List (Ac))):=
 if(decide (v1<(a2.length:Int)))then
  (Am a2 v1).bind fun y3=>
  (X8 a0 a1 y3.af).bind fun v4=>
  if v4.2.2 then
   AD ((((v2).length:Int)+(([y3.af]:List (Ac)).length:Int))*16≤140737488355328∧((v2).length:Int)+(([y3.af]:List (Ac)).length:Int)≤140737488355328)<|
   some (.inl ((IntKind.i64.wrap (v1+1)),(v2++ [y3.af])))
  else
   some (.inl ((IntKind.i64.wrap (v1+1)),v2))
 else
  some (.inr (some v2))
def OU (a0:Ad) (a1:Ac) (a2:List Ab):Option (List (Ac)):=
 At (fun s:Int × List (Ac)=>QG a0 a1 a2 s.1 s.2) (0, [])
def Y8 (a0 a1:Ac):Option (Int):=
 (QE a0 a1).bind fun v1=>
 some v1
def lN (v3:Ac) (v4:Int) (v5:List (Ac)):Option (List (Ac)):=
 (Am v5 v4).bind fun y6=>
 AD (0≤(0:Int)∧(0:Int)≤(IntKind.i64.wrap (v4+1))∧(IntKind.i64.wrap (v4+1))≤((v5.set (v4).toNat v3).length:Int))<|
 some (By (v5.set (v4).toNat v3) 0 (IntKind.i64.wrap (v4+1)))
def Q0 (a0 a1:Ac) (a2 v2:Int) (v7:Ac) (v8:Int) (v9:List (Ac)):Option ((Ac × Int × List (Ac)) ⊕ Option (List (Ac))):=
 if(decide (v8<(IntKind.i64.wrap ((bif (decide ((IntKind.i64.wrap ((a0.length:Int)+1))<v2))then(IntKind.i64.wrap ((a0.length:Int)+1))else v2)-1))))then
  (Y8 v7 a1).bind fun v10=>
  if(decide (v10<0))then
   some (.inr (lN v7 v8 v9))
  else
   AD (0≤(0:Int)∧(0:Int)≤(IntKind.i64.wrap (v10+a2))∧(IntKind.i64.wrap (v10+a2))≤(v7.length:Int))<|
   (Am v9 v8).bind fun y11=>
   AD (0≤(IntKind.i64.wrap (v10+(a1.length:Int)))∧(IntKind.i64.wrap (v10+(a1.length:Int)))≤(v7.length:Int)∧(v7.length:Int)≤(v7.length:Int))<|
   some (.inl ((By v7 (IntKind.i64.wrap (v10+(a1.length:Int))) (v7.length:Int)),(IntKind.i64.wrap (v8+1)),(v9.set (v8).toNat (By v7 0 (IntKind.i64.wrap (v10+a2))))))
 else
  some (.inr (lN v7 v8 v9))
def lK (a0 a1:Ac) (a2 v2:Int):Option (List (Ac)):=
 AD (0≤(bif (decide ((IntKind.i64.wrap ((a0.length:Int)+1))<v2))then(IntKind.i64.wrap ((a0.length:Int)+1))else v2)∧(bif (decide ((IntKind.i64.wrap ((a0.length:Int)+1))<v2))then(IntKind.i64.wrap ((a0.length:Int)+1))else v2)*16≤140737488355328∧(bif (decide ((IntKind.i64.wrap ((a0.length:Int)+1))<v2))then(IntKind.i64.wrap ((a0.length:Int)+1))else v2)≤140737488355328)<|
 At (fun s:Ac × Int × List (Ac)=>Q0 a0 a1 a2 v2 s.1 s.2.1 s.2.2) (a0,0,(List.replicate ((bif (decide ((IntKind.i64.wrap ((a0.length:Int)+1))<v2))then(IntKind.i64.wrap ((a0.length:Int)+1))else v2)).toNat ([]:Ac)))
def lS (a0 a1:Ac) (a2 a3:Int):Option (List (Ac)):=
 if(a3==0)then
  some []
 else
  if(a1==([]:Ac))then
   (mN a0 a3).bind fun v1=>
   some v1
  else
   if(decide (a3<0))then
    (Y4 a0 a1).bind fun v12=>
    lK a0 a1 a2 (IntKind.i64.wrap (v12+1))
   else
    lK a0 a1 a2 a3
def Vj (a0 a1:Ac):Option (List (Ac)):=
 (lS a0 a1 0 (-1)).bind fun v1=>
 some v1
def Yr (a0:Ad) (a1:Ab):Option (AL × Bool):=
 AD ((a0.ab).length+(([47]:Ac)).length≤9223372036854775807)<|
 (UX a1.af (a0.ab++([47]:Ac))).bind fun v1=>
 (Vj a1.ay ([44]:Ac)).bind fun v2=>
 AD (((([v1.1]:List (Ac)).length:Int)+((v2).length:Int))*16≤140737488355328∧(([v1.1]:List (Ac)).length:Int)+((v2).length:Int)≤140737488355328)<|
 if v1.2 then
  (M5 a0 (⟨([v1.1]++v2)⟩:AL)).bind fun v3=>
  if v3 then
   (MY a0 (⟨([v1.1]++v2)⟩:AL)).bind fun v4=>
   if(!(a1.af==v4.af&&(a1.ay==v4.ay&&(a1.bf==v4.bf))))then
    some ((⟨[]⟩:AL),false)
   else
    some ((⟨([v1.1]++v2)⟩:AL),true)
  else
   some ((⟨[]⟩:AL),false)
 else
  some ((⟨[]⟩:AL),false)
def QA (a0:Ad) (a1:List Ab) (v1:Int) (v2:List AL):Option ((Int × List AL) ⊕ Option (List AL)):=
 if(decide (v1<(a1.length:Int)))then
  (Am a1 v1).bind fun y3=>
  (Yr a0 y3).bind fun v4=>
  if v4.2 then
   AD ((((v2).length:Int)+(([v4.1]:List AL).length:Int))*24≤140737488355328∧((v2).length:Int)+(([v4.1]:List AL).length:Int)≤140737488355328)<|
   some (.inl ((IntKind.i64.wrap (v1+1)),(v2++ [v4.1])))
  else
   some (.inl ((IntKind.i64.wrap (v1+1)),v2))
 else
  some (.inr (some v2))
def Uz (a0:Ad) (a1:List Ab):Option (List AL):=
 At (fun s:Int × List AL=>QA a0 a1 s.1 s.2) (0, [])
def QH (a0:Ad) (a1:Ac) (v1:List AL) (v2:Int) (v3:List (Ac)):Option ((Int × List (Ac)) ⊕ Option (List (Ac))):=
 if(decide (v2<(v1.length:Int)))then
  (Am v1 v2).bind fun y4=>
  (Lu a0 a1 y4).bind fun v5=>
  AD ((((v3).length:Int)+(([v5]:List (Ac)).length:Int))*16≤140737488355328∧((v3).length:Int)+(([v5]:List (Ac)).length:Int)≤140737488355328)<|
  some (.inl ((IntKind.i64.wrap (v2+1)),(v3++ [v5])))
 else
  some (.inr (some v3))
def UL (a0:Ad) (a1:Ac) (a2:List Ab):Option (List (Ac)):=
 (Uz a0 a2).bind fun v1=>
 At (fun s:Int × List (Ac)=>QH a0 a1 v1 s.1 s.2) (0, [])
def mR (a0:Ac) (a1:List (Ac)):Option (Bool):=
 (Uw a1 a0).bind fun v1=>
 some v1
def Vd (a0:List (Ac)) (a1:List (Ac)):Option (List (Ac)):=
 (Uy a0).bind fun v1=>
 (IW v1 (fun y0_=>mR y0_ a1)).bind fun v2=>
 some v2
def Yi (a0:Ad) (a1:Ac) (a2:List Ab):Option (List (Ac)):=
 (OU a0 a1 a2).bind fun v1=>
 (UL a0 a1 a2).bind fun v2=>
 (Vd v1 v2).bind fun v3=>
 some v3
def lE (a0:Ad) (a1:Ac) (a2:List Ab):Option (List (Ac)):=
 (UL a0 a1 a2).bind fun v1=>
 (OU a0 a1 a2).bind fun v2=>
 (Vd v1 v2).bind fun v3=>
 some v3
def Yq (a0:Ad) (a1:Ac) (a2:Int) (a3:List Ab):Option (Bool):=
 if(a2==0)then
  (OU a0 a1 a3).bind fun v1=>
  some ((v1.length:Int)==0)
 else
  if(a2==1)then
   (Yi a0 a1 a3).bind fun v2=>
   some ((v2.length:Int)==0)
  else
   (Yi a0 a1 a3).bind fun v3=>
   if((v3.length:Int)==0)then
    (lE a0 a1 a3).bind fun v4=>
    some ((v4.length:Int)==0)
   else
    some false
def UK (a0:AA):Option (Bool):=
 (Am a0.ak 0).bind fun y1=>
 (YA a0).bind fun v2=>
 (Yq y1 a0.ab v2 a0.au).bind fun v3=>
 some v3
def Yx (a0:AA) (a1:CW):Option (Bool):=
 (QS a0 a1).bind fun v1=>
 if v1.2 then
  (Yf v1.1).bind fun v2=>
  if v2 then
   (UK v1.1).bind fun v3=>
   some v3
  else
   some false
 else
  some false
def Lv (a0:AI) (a1:CW):Option (AI × Bool):=
 (Rw a0).bind fun v1=>
 if(a1.a7 !=0)then
  (Yx a0.ae a1).bind fun v2=>
  if(!v2)then
   some (v1,false)
  else
   (QS a0.ae a1).bind fun v3=>
   if(!v3.2)then
    some (v1,false)
   else
    if(a1.a7==0)then
     (Gp a0.ae a1.ax).bind fun v4=>
     (J2 a0.ae v4).bind fun v5=>
     (M9 v5).bind fun v6=>
     if v6 then
      some ((⟨v3.1,(⟨v1.ch.al,v1.ch.bc⟩:AJ),(⟨([]:Ac),false⟩:AJ)⟩:AI),true)
     else
      some ((⟨v3.1,(⟨([]:Ac),false⟩:AJ),(⟨v1.a8.al,v1.a8.bc⟩:AJ)⟩:AI),true)
    else
     some ((⟨v3.1,(⟨v1.ch.al,v1.ch.bc⟩:AJ),(⟨v1.a8.al,v1.a8.bc⟩:AJ)⟩:AI),true)
 else
  (QS a0.ae a1).bind fun v7=>
  if(!v7.2)then
   some (v1,false)
  else
   if(a1.a7==0)then
    (Gp a0.ae a1.ax).bind fun v8=>
    (J2 a0.ae v8).bind fun v9=>
    (M9 v9).bind fun v10=>
    if v10 then
     some ((⟨v7.1,(⟨v1.ch.al,v1.ch.bc⟩:AJ),(⟨([]:Ac),false⟩:AJ)⟩:AI),true)
    else
     some ((⟨v7.1,(⟨([]:Ac),false⟩:AJ),(⟨v1.a8.al,v1.a8.bc⟩:AJ)⟩:AI),true)
   else
    some ((⟨v7.1,(⟨v1.ch.al,v1.ch.bc⟩:AJ),(⟨v1.a8.al,v1.a8.bc⟩:AJ)⟩:AI),true)
def MZ (a0:AI) (v1 v2:Int):Option ((Int × Int) ⊕ Option (Int)):=
 if(decide (v2<(a0.ae.bj.length:Int)))then
  (Gp a0.ae v2).bind fun v3=>
  (J2 a0.ae v3).bind fun v4=>
  (M9 v4).bind fun v5=>
  if v5 then
   some (.inl ((IntKind.i64.wrap (v1+1)),(IntKind.i64.wrap (v2+1))))
  else
   some (.inl (v1,(IntKind.i64.wrap (v2+1))))
 else
  some (.inr (some v1))
def QF (a0:AI):Option (Int):=
 At (fun s:Int × Int=>MZ a0 s.1 s.2) (0,0)
def Ym (a0:Ad) (a1:Ac) (a2:AL):Option (List Ax):=
 (MY a0 a2).bind fun v1=>
 (Lu a0 a1 a2).bind fun v2=>
 some [(⟨7,v1.af,v1.ay,0⟩:Ax),(⟨2,v2,([]:Ac),0⟩:Ax)]
def QD (a0:Ad) (a1:Ac) (v1:List AL) (v2:Int) (v3:List B0):Option ((Int × List B0) ⊕ Option (List B0)):=
 if(decide (v2<(v1.length:Int)))then
  (Am v1 v2).bind fun y4=>
  (MY a0 y4).bind fun v5=>
  (Ym a0 a1 y4).bind fun v6=>
  AD ((((v3).length:Int)+(([(⟨v5.af,v6⟩:B0)]:List B0).length:Int))*40≤140737488355328∧((v3).length:Int)+(([(⟨v5.af,v6⟩:B0)]:List B0).length:Int)≤140737488355328)<|
  some (.inl ((IntKind.i64.wrap (v2+1)),(v3++ [(⟨v5.af,v6⟩:B0)])))
 else
  some (.inr (some v3))
def UI (a0:Ad) (a1:Ac) (a2:List Ab):Option (List B0):=
 (Uz a0 a2).bind fun v1=>
 At (fun s:Int × List B0=>QD a0 a1 v1 s.1 s.2) (0, [])
def kX (xs:List B0):Option (List B0):=Nv 40 xs
def Zt (a0:B0) (a1:AJ):Option (Bool):=
 some (Op.bytesLess a0.a6 a1.al||a0.a6==a1.al)
def Y9 (a2:AJ) (v2:List B0) (v3:List Ab) (v4:Int) (v5:Ac):Option (List Ab × AJ):=
 (OT v3).bind fun v6=>
 some (v6,(⟨v5,(a2.bc||(v4==(v2.length:Int)))⟩:AJ))
def Kx (a2:AJ) (a3:Int) (v2:List B0) (v7:List Ab) (v8:Int) (v9:Ac):Option ((List Ab × Int × Ac) ⊕ Option (List Ab × AJ)):=
 if(decide (v8<(bif (decide ((v2.length:Int)<a3))then(v2.length:Int)else a3)))then
  (Am v2 v8).bind fun y10=>
  (Vu v7 y10.cc).bind fun v11=>
  if(!v11.2)then
   some (.inr (Y9 a2 v2 v7 v8 v9))
  else
   some (.inl (v11.1,(IntKind.i64.wrap (v8+1)),y10.a6))
 else
  some (.inr (Y9 a2 v2 v7 v8 v9))
def Nf (a0:List B0) (a1:List Ab) (a2:AJ) (a3:Int):Option (List Ab × AJ):=
 (kX a0).bind fun v1=>
 (IW v1 (fun y0_=>Zt y0_ a2)).bind fun v2=>
 At (fun s:List Ab × Int × Ac=>Kx a2 a3 v2 s.1 s.2.1 s.2.2) (a1,0,a2.al)
def Qz (v1:List (Ac)) (v2:Int) (v3:List B0):Option ((Int × List B0) ⊕ Option (List B0)):=
 if(decide (v2<(v1.length:Int)))then
  (Am v1 v2).bind fun y4=>
  AD ((((v3).length:Int)+(([(⟨y4, [(⟨3,y4,([]:Ac),0⟩:Ax)]⟩:B0)]:List B0).length:Int))*40≤140737488355328∧((v3).length:Int)+(([(⟨y4, [(⟨3,y4,([]:Ac),0⟩:Ax)]⟩:B0)]:List B0).length:Int)≤140737488355328)<|
  some (.inl ((IntKind.i64.wrap (v2+1)),(v3++ [(⟨y4, [(⟨3,y4,([]:Ac),0⟩:Ax)]⟩:B0)])))
 else
  some (.inr (some v3))
def QY (a0:Ad) (a1:Ac) (a2:List Ab):Option (List B0):=
 (OU a0 a1 a2).bind fun v1=>
 At (fun s:Int × List B0=>Qz v1 s.1 s.2) (0, [])
def M4 (a0:AI) (a1:Bm):Option (AI × Bool):=
 if(a1.aj==1)then
  (Lv a0 a1.fAct).bind fun v1=>
  some (v1.1,v1.2)
 else
  (Rw a0).bind fun v2=>
  if(a1.aj==2)then
   (QF a0).bind fun v3=>
   if(v3==(a0.ae.bj.length:Int))then
    (Am a0.ae.ak 0).bind fun y4=>
    (UI y4 a0.ae.ab a0.ae.au).bind fun v5=>
    (Nf v5 a0.ae.au a0.ch a1.br).bind fun v6=>
    some ((⟨(⟨v2.ae.ab,v2.ae.ak,v2.ae.bj,v6.1⟩:AA),(⟨v6.2.al,v6.2.bc⟩:AJ),(⟨([]:Ac),false⟩:AJ)⟩:AI),true)
   else
    if(a1.aj==3)then
     (QF a0).bind fun v7=>
     if(v7==0)then
      (Am a0.ae.ak 0).bind fun y8=>
      (QY y8 a0.ae.ab a0.ae.au).bind fun v9=>
      (Nf v9 a0.ae.au a0.a8 a1.br).bind fun v10=>
      some ((⟨(⟨v2.ae.ab,v2.ae.ak,v2.ae.bj,v10.1⟩:AA),(⟨([]:Ac),false⟩:AJ),(⟨v10.2.al,v10.2.bc⟩:AJ)⟩:AI),true)
     else
      some (v2,false)
    else
     some (v2,false)
  else
   if(a1.aj==3)then
    (QF a0).bind fun v11=>
    if(v11==0)then
     (Am a0.ae.ak 0).bind fun y12=>
     (QY y12 a0.ae.ab a0.ae.au).bind fun v13=>
     (Nf v13 a0.ae.au a0.a8 a1.br).bind fun v14=>
     some ((⟨(⟨v2.ae.ab,v2.ae.ak,v2.ae.bj,v14.1⟩:AA),(⟨([]:Ac),false⟩:AJ),(⟨v14.2.al,v14.2.bc⟩:AJ)⟩:AI),true)
    else
     some (v2,false)
   else
    some (v2,false)
def O3 (a1:List Bm) (v3:Int) (v4 v5:Ac) (v6:Bool) (v7:Ac) (v8:Bool) (v9:List Ad) (v10:List Int) (v11:List Ab) (v12:List Bool):Option ((Int × Ac × Ac × Bool × Ac × Bool × List Ad × List Int × List Ab × List Bool) ⊕ Option (AI × List Bool × Bool)):=
 if(decide (v3<(a1.length:Int)))then
  (Am a1 v3).bind fun y13=>
  (Yg (⟨(⟨v4,v9,v10,v11⟩:AA),(⟨v5,v6⟩:AJ),(⟨v7,v8⟩:AJ)⟩:AI) y13).bind fun v14=>
  if v14 then
   (M4 (⟨(⟨v4,v9,v10,v11⟩:AA),(⟨v5,v6⟩:AJ),(⟨v7,v8⟩:AJ)⟩:AI) y13).bind fun v15=>
   AD ((((v12).length:Int)+(([v15.2]:List Bool).length:Int))*1≤140737488355328∧((v12).length:Int)+(([v15.2]:List Bool).length:Int)≤140737488355328)<|
   some (.inl ((IntKind.i64.wrap (v3+1)),v15.1.ae.ab,v15.1.ch.al,v15.1.ch.bc,v15.1.a8.al,v15.1.a8.bc,v15.1.ae.ak,v15.1.ae.bj,v15.1.ae.au,(v12++ [v15.2])))
  else
   AD ((((v12).length:Int)+(([false]:List Bool).length:Int))*1≤140737488355328∧((v12).length:Int)+(([false]:List Bool).length:Int)≤140737488355328)<|
   some (.inl ((IntKind.i64.wrap (v3+1)),v4,v5,v6,v7,v8,v9,v10,v11,(v12++ [false])))
 else
  some (.inr (some ((⟨(⟨v4,v9,v10,v11⟩:AA),(⟨v5,v6⟩:AJ),(⟨v7,v8⟩:AJ)⟩:AI),v12,true)))
def Vn (a0:AI) (a1:List Bm):Option (AI × List Bool × Bool):=
 (Zz a0).bind fun v1=>
 if((!v1)||(decide ((a1.length:Int)>30)))then
  some ((⟨(⟨([]:Ac), [], [], []⟩:AA),(⟨([]:Ac),false⟩:AJ),(⟨([]:Ac),false⟩:AJ)⟩:AI), [],false)
 else
  (Rw a0).bind fun v2=>
  At (fun s:Int × Ac × Ac × Bool × Ac × Bool × List Ad × List Int × List Ab × List Bool=>O3 a1 s.1 s.2.1 s.2.2.1 s.2.2.2.1 s.2.2.2.2.1 s.2.2.2.2.2.1 s.2.2.2.2.2.2.1 s.2.2.2.2.2.2.2.1 s.2.2.2.2.2.2.2.2.1 s.2.2.2.2.2.2.2.2.2) (0,v2.ae.ab,v2.ch.al,v2.ch.bc,v2.a8.al,v2.a8.bc,v2.ae.ak,v2.ae.bj,v2.ae.au, [])
def UE (a0:List (Ac)) (a1:List (Ac)) (v1:Int):Option ((Int) ⊕ Option (Bool)):=
 if(decide (v1<(a0.length:Int)))then
  (Am a0 v1).bind fun y2=>
  (Am a1 v1).bind fun y3=>
  if(y2 !=y3)then
   some (.inr (some false))
  else
   some (.inl (IntKind.i64.wrap (v1+1)))
 else
  some (.inr (some true))
def U2 (a0:List (Ac)) (a1:List (Ac)):Option (Bool):=
 if((a0.length:Int) !=(a1.length:Int))then
  some false
 else
  At (fun s:Int=>UE a0 a1 s) 0
def ZV (a0 a1:Au):Option (Bool):=
 if(a0.ab !=a1.ab)then
  some false
 else
  if(a0.bh !=a1.bh)then
   some false
  else
   if(a0.ao !=a1.ao)then
    some false
   else
    some true
def U1 (a0 a1:List Au) (v1:Int):Option ((Int) ⊕ Option (Bool)):=
 if(decide (v1<(a0.length:Int)))then
  (Am a0 v1).bind fun y2=>
  (Am a1 v1).bind fun y3=>
  (ZV y2 y3).bind fun v4=>
  if(!v4)then
   some (.inr (some false))
  else
   some (.inl (IntKind.i64.wrap (v1+1)))
 else
  some (.inr (some true))
def Z2 (a0 a1:List Au):Option (Bool):=
 if((a0.length:Int) !=(a1.length:Int))then
  some false
 else
  At (fun s:Int=>U1 a0 a1 s) 0
def ZO (a0 a1:Ad):Option (Bool):=
 if(a0.ab !=a1.ab)then
  some false
 else
  (U2 a0.aq a1.aq).bind fun v1=>
  if(!v1)then
   some false
  else
   (Z2 a0.ah a1.ah).bind fun v2=>
   if(!v2)then
    some false
   else
    some true
def US (a0 a1:List Ad) (v1:Int):Option ((Int) ⊕ Option (Bool)):=
 if(decide (v1<(a0.length:Int)))then
  (Am a0 v1).bind fun y2=>
  (Am a1 v1).bind fun y3=>
  (ZO y2 y3).bind fun v4=>
  if(!v4)then
   some (.inr (some false))
  else
   some (.inl (IntKind.i64.wrap (v1+1)))
 else
  some (.inr (some true))
def Zl (a0 a1:List Ad):Option (Bool):=
 if((a0.length:Int) !=(a1.length:Int))then
  some false
 else
  At (fun s:Int=>US a0 a1 s) 0
def U6 (a0 a1:List Int) (v1:Int):Option ((Int) ⊕ Option (Bool)):=
 if(decide (v1<(a0.length:Int)))then
  (Am a0 v1).bind fun y2=>
  (Am a1 v1).bind fun y3=>
  if(y2 !=y3)then
   some (.inr (some false))
  else
   some (.inl (IntKind.i64.wrap (v1+1)))
 else
  some (.inr (some true))
def Z4 (a0 a1:List Int):Option (Bool):=
 if((a0.length:Int) !=(a1.length:Int))then
  some false
 else
  At (fun s:Int=>U6 a0 a1 s) 0
def Zq (a0 a1:Ab):Option (Bool):=
 if(a0.af !=a1.af)then
  some false
 else
  if(a0.ay !=a1.ay)then
   some false
  else
   if(a0.bf !=a1.bf)then
    some false
   else
    some true
def UU (a0 a1:List Ab) (v1:Int):Option ((Int) ⊕ Option (Bool)):=
 if(decide (v1<(a0.length:Int)))then
  (Am a0 v1).bind fun y2=>
  (Am a1 v1).bind fun y3=>
  (Zq y2 y3).bind fun v4=>
  if(!v4)then
   some (.inr (some false))
  else
   some (.inl (IntKind.i64.wrap (v1+1)))
 else
  some (.inr (some true))
def ZA (a0 a1:List Ab):Option (Bool):=
 if((a0.length:Int) !=(a1.length:Int))then
  some false
 else
  At (fun s:Int=>UU a0 a1 s) 0
def ZS (a0 a1:AA):Option (Bool):=
 if(a0.ab !=a1.ab)then
  some false
 else
  (Zl a0.ak a1.ak).bind fun v1=>
  if(!v1)then
   some false
  else
   (Z4 a0.bj a1.bj).bind fun v2=>
   if(!v2)then
    some false
   else
    (ZA a0.au a1.au).bind fun v3=>
    if(!v3)then
     some false
    else
     some true
def Vr (a0 a1:AJ):Option (Bool):=
 if(a0.al !=a1.al)then
  some false
 else
  if(a0.bc !=a1.bc)then
   some false
  else
   some true
def Pf (a0 a1:AI):Option (Bool):=
 (ZS a0.ae a1.ae).bind fun v1=>
 if(!v1)then
  some false
 else
  (Vr a0.ch a1.ch).bind fun v2=>
  if(!v2)then
   some false
  else
   (Vr a0.a8 a1.a8).bind fun v3=>
   if(!v3)then
    some false
   else
    some true
def UO (a0 a1:List Bool) (v1:Int):Option ((Int) ⊕ Option (Bool)):=
 if(decide (v1<(a0.length:Int)))then
  (Am a0 v1).bind fun y2=>
  (Am a1 v1).bind fun y3=>
  if(y2 !=y3)then
   some (.inr (some false))
  else
   some (.inl (IntKind.i64.wrap (v1+1)))
 else
  some (.inr (some true))
def RE (a0 a1:List Bool):Option (Bool):=
 if((a0.length:Int) !=(a1.length:Int))then
  some false
 else
  At (fun s:Int=>UO a0 a1 s) 0
def VB (a0 a1:AL):Option (Bool):=
 (U2 a0.ar a1.ar).bind fun v1=>
 if(!v1)then
  some false
 else
  some true
def YY (a0 a1:Bf):Option (Bool):=
 if(a0.aj !=a1.aj)then
  some false
 else
  (VB a0.bg a1.bg).bind fun v1=>
  if(!v1)then
   some false
  else
   (VB a0.bm a1.bm).bind fun v2=>
   if(!v2)then
    some false
   else
    some true
def YS (a0 a1:CW):Option (Bool):=
 if(a0.ax !=a1.ax)then
  some false
 else
  if(a0.a7 !=a1.a7)then
   some false
  else
   (YY a0.fAct a1.fAct).bind fun v1=>
   if(!v1)then
    some false
   else
    some true
def Zi (a0 a1:Bm):Option (Bool):=
 if(a0.aj !=a1.aj)then
  some false
 else
  if(a0.br !=a1.br)then
   some false
  else
   (YS a0.fAct a1.fAct).bind fun v1=>
   if(!v1)then
    some false
   else
    some true
def UN (a0 a1:List Bm) (v1:Int):Option ((Int) ⊕ Option (Bool)):=
 if(decide (v1<(a0.length:Int)))then
  (Am a0 v1).bind fun y2=>
  (Am a1 v1).bind fun y3=>
  (Zi y2 y3).bind fun v4=>
  if(!v4)then
   some (.inr (some false))
  else
   some (.inl (IntKind.i64.wrap (v1+1)))
 else
  some (.inr (some true))
def YT (a0 a1:List Bm):Option (Bool):=
 if((a0.length:Int) !=(a1.length:Int))then
  some false
 else
  At (fun s:Int=>UN a0 a1 s) 0
def zli (v1:Ac):Option (Ac):=
 AD ((([109]:Ac)).length+(v1).length≤9223372036854775807)<|
 some ((([109]:Ac):Ac)++v1)
def M1 (v2:Int) (v3:Ac):Option ((Int × Ac) ⊕ Option (Ac)):=
 if(decide (v2>0))then
  AD (([(IntKind.u8.wrap (IntKind.i64.wrap ((48:Int)+(Int.tmod v2 10))))]:List Int).length≤9223372036854775807)<|
  AD ((([(IntKind.u8.wrap (IntKind.i64.wrap ((48:Int)+(Int.tmod v2 10))))].map fun n=>UInt8.ofNat n.toNat)).length+(v3).length≤9223372036854775807)<|
  some (.inl ((IntKind.i64.wrap (Int.tdiv v2 10)),(([(IntKind.u8.wrap (IntKind.i64.wrap ((48:Int)+(Int.tmod v2 10))))].map fun n=>UInt8.ofNat n.toNat)++v3)))
 else
  some (.inr (zli v3))
def Hr (a0:Int):Option (Ac):=
 if(decide (a0≤0))then
  some ([109,48]:Ac)
 else
  At (fun s:Int × Ac=>M1 s.1 s.2) (a0,([]:Ac))
def QZ (v1 v2:Int) (v3:List (Ac)):Option ((Int × Int × List (Ac)) ⊕ Option (Int × List (Ac))):=
 if(decide (v2<(v3.length:Int)))then
  (Hr v1).bind fun v4=>
  (Am v3 v2).bind fun y5=>
  some (.inl ((IntKind.i64.wrap (v1+1)),(IntKind.i64.wrap (v2+1)),(v3.set (v2).toNat v4)))
 else
  some (.inr (some (v1,v3)))
def UY (a0:List (Ac)) (a1:Int):Option (Int × List (Ac)):=
 At (fun s:Int × Int × List (Ac)=>QZ s.1 s.2.1 s.2.2) (a1,0,a0)
def Rg (v1 v2:Int) (v3:List Au):Option ((Int × Int × List Au) ⊕ Option (Int × List Au)):=
 if(decide (v2<(v3.length:Int)))then
  (Hr v1).bind fun v4=>
  (Am v3 v2).bind fun y5=>
  some (.inl ((IntKind.i64.wrap ((IntKind.i64.wrap ((IntKind.i64.wrap (v1+1))+1))+1)),(IntKind.i64.wrap (v2+1)),(((v3.set (v2).toNat {y5 with ab:=v4}).set (v2).toNat {{y5 with ab:=v4}with bh:=(IntKind.i64.wrap (v1+1))}).set (v2).toNat {{{y5 with ab:=v4}with bh:=(IntKind.i64.wrap (v1+1))}with ao:=(IntKind.i64.wrap ((IntKind.i64.wrap (v1+1))+1))})))
 else
  some (.inr (some (v1,v3)))
def nF (a0:List Au) (a1:Int):Option (Int × List Au):=
 At (fun s:Int × Int × List Au=>Rg s.1 s.2.1 s.2.2) (a1,0,a0)
def Q3 (v1 v2:Int) (v3:List Ad):Option ((Int × Int × List Ad) ⊕ Option (Int × List Ad)):=
 if(decide (v2<(v3.length:Int)))then
  (Hr v1).bind fun v4=>
  (Am v3 v2).bind fun y5=>
  (UY ({y5 with ab:=v4}.aq) (IntKind.i64.wrap (v1+1))).bind fun v6=>
  (nF ({{y5 with ab:=v4}with aq:=v6.2}.ah) v6.1).bind fun v7=>
  some (.inl (v7.1,(IntKind.i64.wrap (v2+1)),(((v3.set (v2).toNat {y5 with ab:=v4}).set (v2).toNat {{y5 with ab:=v4}with aq:=v6.2}).set (v2).toNat {{{y5 with ab:=v4}with aq:=v6.2}with ah:=v7.2})))
 else
  some (.inr (some (v1,v3)))
def mO (a0:List Ad) (a1:Int):Option (Int × List Ad):=
 At (fun s:Int × Int × List Ad=>Q3 s.1 s.2.1 s.2.2) (a1,0,a0)
def Rf (v1 v2:Int) (v3:List Int):Option ((Int × Int × List Int) ⊕ Option (Int × List Int)):=
 if(decide (v2<(v3.length:Int)))then
  (Am v3 v2).bind fun y4=>
  some (.inl ((IntKind.i64.wrap (v1+1)),(IntKind.i64.wrap (v2+1)),(v3.set (v2).toNat v1)))
 else
  some (.inr (some (v1,v3)))
def nK (a0:List Int) (a1:Int):Option (Int × List Int):=
 At (fun s:Int × Int × List Int=>Rf s.1 s.2.1 s.2.2) (a1,0,a0)
def QO (v1 v2:Int) (v3:List Ab):Option ((Int × Int × List Ab) ⊕ Option (Int × List Ab)):=
 if(decide (v2<(v3.length:Int)))then
  (Hr v1).bind fun v4=>
  (Am v3 v2).bind fun y5=>
  (Hr (IntKind.i64.wrap (v1+1))).bind fun v6=>
  some (.inl ((IntKind.i64.wrap ((IntKind.i64.wrap ((IntKind.i64.wrap (v1+1))+1))+1)),(IntKind.i64.wrap (v2+1)),(((v3.set (v2).toNat {y5 with af:=v4}).set (v2).toNat {{y5 with af:=v4}with ay:=v6}).set (v2).toNat {{{y5 with af:=v4}with ay:=v6}with bf:=((Int.tmod (IntKind.i64.wrap ((IntKind.i64.wrap (v1+1))+1)) 3)==0)})))
 else
  some (.inr (some (v1,v3)))
def mE (a0:List Ab) (a1:Int):Option (Int × List Ab):=
 At (fun s:Int × Int × List Ab=>QO s.1 s.2.1 s.2.2) (a1,0,a0)
def YF (a0:AA) (a1:Int):Option (Int × AA):=
 (mO a0.ak a1).bind fun v1=>
 (nK a0.bj v1.1).bind fun v2=>
 (mE a0.au v2.1).bind fun v3=>
 some (v3.1,(⟨a0.ab,v1.2,v2.2,v3.2⟩:AA))
def Vp (a0:AI) (a1:Int):Option (Int × AI):=
 (YF a0.ae a1).bind fun v1=>
 some (v1.1,(⟨(⟨a0.ae.ab,v1.2.ak,v1.2.bj,v1.2.au⟩:AA),a0.ch,a0.a8⟩:AI))
def Qx (v1 v2:Int) (v3:List Bm):Option ((Int × Int × List Bm) ⊕ Option (Int × List Bm)):=
 if(decide (v2<(v3.length:Int)))then
  (Am v3 v2).bind fun y4=>
  (UY ({{{{{y4 with aj:=v1}with br:=(IntKind.i64.wrap (v1+1))}with fAct.ax:=(IntKind.i64.wrap ((IntKind.i64.wrap (v1+1))+1))}with fAct.a7:=(IntKind.i64.wrap ((IntKind.i64.wrap ((IntKind.i64.wrap (v1+1))+1))+1))}with fAct.fAct.aj:=(IntKind.i64.wrap ((IntKind.i64.wrap ((IntKind.i64.wrap ((IntKind.i64.wrap (v1+1))+1))+1))+1))}.fAct.fAct.bg.ar) (IntKind.i64.wrap ((IntKind.i64.wrap ((IntKind.i64.wrap ((IntKind.i64.wrap ((IntKind.i64.wrap (v1+1))+1))+1))+1))+1))).bind fun v5=>
  (UY ({{{{{{y4 with aj:=v1}with br:=(IntKind.i64.wrap (v1+1))}with fAct.ax:=(IntKind.i64.wrap ((IntKind.i64.wrap (v1+1))+1))}with fAct.a7:=(IntKind.i64.wrap ((IntKind.i64.wrap ((IntKind.i64.wrap (v1+1))+1))+1))}with fAct.fAct.aj:=(IntKind.i64.wrap ((IntKind.i64.wrap ((IntKind.i64.wrap ((IntKind.i64.wrap (v1+1))+1))+1))+1))}with fAct.fAct.bg.ar:=v5.2}.fAct.fAct.bm.ar) v5.1).bind fun v6=>
  some (.inl (v6.1,(IntKind.i64.wrap (v2+1)),(((((((v3.set (v2).toNat {y4 with aj:=v1}).set (v2).toNat {{y4 with aj:=v1}with br:=(IntKind.i64.wrap (v1+1))}).set (v2).toNat {{{y4 with aj:=v1}with br:=(IntKind.i64.wrap (v1+1))}with fAct.ax:=(IntKind.i64.wrap ((IntKind.i64.wrap (v1+1))+1))}).set (v2).toNat {{{{y4 with aj:=v1}with br:=(IntKind.i64.wrap (v1+1))}with fAct.ax:=(IntKind.i64.wrap ((IntKind.i64.wrap (v1+1))+1))}with fAct.a7:=(IntKind.i64.wrap ((IntKind.i64.wrap ((IntKind.i64.wrap (v1+1))+1))+1))}).set (v2).toNat {{{{{y4 with aj:=v1}with br:=(IntKind.i64.wrap (v1+1))}with fAct.ax:=(IntKind.i64.wrap ((IntKind.i64.wrap (v1+1))+1))}with fAct.a7:=(IntKind.i64.wrap ((IntKind.i64.wrap ((IntKind.i64.wrap (v1+1))+1))+1))}with fAct.fAct.aj:=(IntKind.i64.wrap ((IntKind.i64.wrap ((IntKind.i64.wrap ((IntKind.i64.wrap (v1+1))+1))+1))+1))}).set (v2).toNat {{{{{{y4 with aj:=v1}with br:=(IntKind.i64.wrap (v1+1))}with fAct.ax:=(IntKind.i64.wrap ((IntKind.i64.wrap (v1+1))+1))}with fAct.a7:=(IntKind.i64.wrap ((IntKind.i64.wrap ((IntKind.i64.wrap (v1+1))+1))+1))}with fAct.fAct.aj:=(IntKind.i64.wrap ((IntKind.i64.wrap ((IntKind.i64.wrap ((IntKind.i64.wrap (v1+1))+1))+1))+1))}with fAct.fAct.bg.ar:=v5.2}).set (v2).toNat {{{{{{{y4 with aj:=v1}with br:=(IntKind.i64.wrap (v1+1))}with fAct.ax:=(IntKind.i64.wrap ((IntKind.i64.wrap (v1+1))+1))}with fAct.a7:=(IntKind.i64.wrap ((IntKind.i64.wrap ((IntKind.i64.wrap (v1+1))+1))+1))}with fAct.fAct.aj:=(IntKind.i64.wrap ((IntKind.i64.wrap ((IntKind.i64.wrap ((IntKind.i64.wrap (v1+1))+1))+1))+1))}with fAct.fAct.bg.ar:=v5.2}with fAct.fAct.bm.ar:=v6.2})))
 else
  some (.inr (some (v1,v3)))
def lY (a0:List Bm) (a1:Int):Option (Int × List Bm):=
 At (fun s:Int × Int × List Bm=>Qx s.1 s.2.1 s.2.2) (a1,0,a0)
def QK (v1 v2:Int) (v3:List Bool):Option ((Int × Int × List Bool) ⊕ Option (Int × List Bool)):=
 if(decide (v2<(v3.length:Int)))then
  (Am v3 v2).bind fun y4=>
  some (.inl ((IntKind.i64.wrap (v1+1)),(IntKind.i64.wrap (v2+1)),(v3.set (v2).toNat ((Int.tmod v1 3)==0))))
 else
  some (.inr (some (v1,v3)))
def mU (a0:List Bool) (a1:Int):Option (Int × List Bool):=
 At (fun s:Int × Int × List Bool=>QK s.1 s.2.1 s.2.2) (a1,0,a0)
def Q1 (a0:List (Ac)) (v1 v2:Int):Option ((Int × Int) ⊕ Option (Int)):=
 if(decide (v2<(a0.length:Int)))then
  (Am a0 v2).bind fun y3=>
  (Hr v1).bind fun v4=>
  if(y3 !=v4)then
   some (.inr (some (-1)))
  else
   some (.inl ((IntKind.i64.wrap (v1+1)),(IntKind.i64.wrap (v2+1))))
 else
  some (.inr (some v1))
def lR (a0:List (Ac)) (a1:Int):Option (Int):=
 At (fun s:Int × Int=>Q1 a0 s.1 s.2) (a1,0)
def Ri (a0:List Au) (v1 v2:Int):Option ((Int × Int) ⊕ Option (Int)):=
 if(decide (v2<(a0.length:Int)))then
  (Am a0 v2).bind fun y3=>
  (Hr v1).bind fun v4=>
  if(y3.ab !=v4)then
   some (.inr (some (-1)))
  else
   if(y3.bh !=(IntKind.i64.wrap (v1+1)))then
    some (.inr (some (-1)))
   else
    if(y3.ao !=(IntKind.i64.wrap ((IntKind.i64.wrap (v1+1))+1)))then
     some (.inr (some (-1)))
    else
     some (.inl ((IntKind.i64.wrap ((IntKind.i64.wrap ((IntKind.i64.wrap (v1+1))+1))+1)),(IntKind.i64.wrap (v2+1))))
 else
  some (.inr (some v1))
def nJ (a0:List Au) (a1:Int):Option (Int):=
 At (fun s:Int × Int=>Ri a0 s.1 s.2) (a1,0)
def Q2 (a0:List Ad) (v1 v2:Int):Option ((Int × Int) ⊕ Option (Int)):=
 if(decide (v2<(a0.length:Int)))then
  (Am a0 v2).bind fun y3=>
  (Hr v1).bind fun v4=>
  if(y3.ab !=v4)then
   some (.inr (some (-1)))
  else
   (lR y3.aq (IntKind.i64.wrap (v1+1))).bind fun v5=>
   if(decide (v5<0))then
    some (.inr (some (-1)))
   else
    (nJ y3.ah v5).bind fun v6=>
    if(decide (v6<0))then
     some (.inr (some (-1)))
    else
     some (.inl (v6,(IntKind.i64.wrap (v2+1))))
 else
  some (.inr (some v1))
def mK (a0:List Ad) (a1:Int):Option (Int):=
 At (fun s:Int × Int=>Q2 a0 s.1 s.2) (a1,0)
def Rj (a0:List Int) (v1 v2:Int):Option ((Int × Int) ⊕ Option (Int)):=
 if(decide (v2<(a0.length:Int)))then
  (Am a0 v2).bind fun y3=>
  if(y3 !=v1)then
   some (.inr (some (-1)))
  else
   some (.inl ((IntKind.i64.wrap (v1+1)),(IntKind.i64.wrap (v2+1))))
 else
  some (.inr (some v1))
def nI (a0:List Int) (a1:Int):Option (Int):=
 At (fun s:Int × Int=>Rj a0 s.1 s.2) (a1,0)
def QP (a0:List Ab) (v1 v2:Int):Option ((Int × Int) ⊕ Option (Int)):=
 if(decide (v2<(a0.length:Int)))then
  (Am a0 v2).bind fun y3=>
  (Hr v1).bind fun v4=>
  if(y3.af !=v4)then
   some (.inr (some (-1)))
  else
   (Hr (IntKind.i64.wrap (v1+1))).bind fun v5=>
   if(y3.ay !=v5)then
    some (.inr (some (-1)))
   else
    if(y3.bf !=((Int.tmod (IntKind.i64.wrap ((IntKind.i64.wrap (v1+1))+1)) 3)==0))then
     some (.inr (some (-1)))
    else
     some (.inl ((IntKind.i64.wrap ((IntKind.i64.wrap ((IntKind.i64.wrap (v1+1))+1))+1)),(IntKind.i64.wrap (v2+1))))
 else
  some (.inr (some v1))
def mI (a0:List Ab) (a1:Int):Option (Int):=
 At (fun s:Int × Int=>QP a0 s.1 s.2) (a1,0)
def Zh (a0:AA) (a1:Int):Option (Int):=
 (mK a0.ak a1).bind fun v1=>
 if(decide (v1<0))then
  some (-1)
 else
  (nI a0.bj v1).bind fun v2=>
  if(decide (v2<0))then
   some (-1)
  else
   (mI a0.au v2).bind fun v3=>
   if(decide (v3<0))then
    some (-1)
   else
    some v3
def Vq (a0:AI) (a1:Int):Option (Int):=
 (Zh a0.ae a1).bind fun v1=>
 if(decide (v1<0))then
  some (-1)
 else
  some v1
def QT (a0:List Bool) (v1 v2:Int):Option ((Int × Int) ⊕ Option (Int)):=
 if(decide (v2<(a0.length:Int)))then
  (Am a0 v2).bind fun y3=>
  if(y3 !=((Int.tmod v1 3)==0))then
   some (.inr (some (-1)))
  else
   some (.inl ((IntKind.i64.wrap (v1+1)),(IntKind.i64.wrap (v2+1))))
 else
  some (.inr (some v1))
def YG (a0:List Bool) (a1:Int):Option (Int):=
 At (fun s:Int × Int=>QT a0 s.1 s.2) (a1,0)
def Yn (a0:AI) (a1:List Bm):Option (Bool):=
 (ZW a0 1048576).bind fun v1=>
 if(decide (v1<0))then
  some true
 else
  (YX a1 v1).bind fun v2=>
  if(decide (v2<0))then
   some true
  else
   (Pc a0).bind fun v3=>
   (OZ a1).bind fun v4=>
   (Ze v3 v4).bind fun v5=>
   (Pc a0).bind fun v6=>
   (OZ a1).bind fun v7=>
   (Vn v6 v7).bind fun v8=>
   (Pf v8.1 v5.1).bind fun v9=>
   if v9 then
    (RE v8.2.1 v5.2.1).bind fun v10=>
    if((!v10)||(v8.2.2 !=v5.2.2))then
     some false
    else
     (Pc a0).bind fun v11=>
     (Pf v6 v11).bind fun v12=>
     if(!v12)then
      some false
     else
      (OZ a1).bind fun v13=>
      (YT v7 v13).bind fun v14=>
      if(!v14)then
       some false
      else
       (Vp v6 1).bind fun v15=>
       (lY v7 v15.1).bind fun v16=>
       if(decide (v16.1<0))then
        some false
       else
        (Pf v8.1 v5.1).bind fun v17=>
        if v17 then
         (RE v8.2.1 v5.2.1).bind fun v18=>
         if((!v18)||(v8.2.2 !=v5.2.2))then
          some false
         else
          (Vp v8.1 1).bind fun v19=>
          (mU v8.2.1 v19.1).bind fun v20=>
          (Vq (⟨(⟨v8.1.ae.ab,v19.2.ae.ak,v19.2.ae.bj,v19.2.ae.au⟩:AA),v8.1.ch,v8.1.a8⟩:AI) 1).bind fun v21=>
          if(decide (v21<0))then
           some false
          else
           (YG v20.2 v21).bind fun v22=>
           if(decide (v22<0))then
            some false
           else
            if(v22 !=v20.1)then
             some false
            else
             (Pc a0).bind fun v23=>
             (OZ a1).bind fun v24=>
             (Vn v23 v24).bind fun v25=>
             (Pf v25.1 v5.1).bind fun v26=>
             if v26 then
              (RE v25.2.1 v5.2.1).bind fun v27=>
              if((!v27)||(v25.2.2 !=v5.2.2))then
               some false
              else
               (Vq (⟨(⟨v8.1.ae.ab,v19.2.ae.ak,v19.2.ae.bj,v19.2.ae.au⟩:AA),v8.1.ch,v8.1.a8⟩:AI) 1).bind fun v28=>
               if(decide (v28<0))then
                some false
               else
                (YG v20.2 v28).bind fun v29=>
                if(decide (v29<0))then
                 some false
                else
                 if(v29 !=v20.1)then
                  some false
                 else
                  some true
             else
              some false
        else
         some false
   else
    some false
def zfY:FS:=DF 286 [.v .s, .v .s] (.v (.i .i64)) (fun x=>QE x.1 x.2.1) fun x r _ h=>zkh x.1 x.2.1 r h
def ziv:FS:=DF 248 [.v .s, .v (.i .u8)] (.v (.i .i64)) (fun x=>X3 x.1 x.2.1) fun x r _ h=>ziq x.1 x.2.1 r h
def zu4:FS:=DF 273 [.v .s, .v (.i .i64), .v (.i .i64)] (.tu (.cons (.v (.i .i64)) (.cons (.v .b) .nil))) (fun x=>ZK x.1 x.2.1 x.2.2.1) fun x r _ h=>zuv x.1 x.2.1 x.2.2.1 r h
def zuO:FS:=DF 255 [.v (.i .i64)] (.v .s) (fun x=>nO x.1) fun x r _ h=>zuM x.1 r h
def zte:FS:=DF 282 [.v .s, .v .s] (.v (.i .i64)) (fun x=>Y4 x.1 x.2.1) fun x r _ h=>zuo x.1 x.2.1 r h
def zuR:FS:=DF 179 [.v (.l .s), .v .s] (.v .s) (fun x=>ZT x.1 x.2.1) fun x r _ h=>zvb x.1 x.2.1 r h
def zqC:FS:=DF 281 [.v .s, .v (.i .i64)] (.v (.l .s)) (fun x=>mN x.1 x.2.1) fun x r _ h=>zq2 x.1 x.2.1 r h
def zf5:FS:=DF 257 [.v (.l (.st 0)), .v (.i .i64), .v (.l (.st 0))] (.v (.l (.st 0))) (fun x=>cJ x.1 x.2.1 x.2.2.1) fun x r hp h=>zIE (t:=35) (it:=3) (el:=145) (K:=3) (by kernel_rfl) (fun _=>by kernel_rfl) zEX h
def zmV:FS:=Ak 136 [.v (.l .s), .v (.i .i64)] (.v (.i .i64)) (fun x=>U7 x.1 x.2.1) [] [.sp [.i .i64, .i .i64]]
def zxY:FS:=Ak 185 [.v (.st 1), .v (.i .i64)] (.v (.i .i64)) (fun x=>aG x.1 x.2.1) [] []
def zwp:FS:=Ak 137 [.v (.l (.st 1)), .v (.i .i64)] (.v (.i .i64)) (fun x=>ZY x.1 x.2.1) [zxY] [.sp [.i .i64, .i .i64]]
def zuZ:FS:=Ak 78 [.v (.st 2), .v (.i .i64)] (.v (.i .i64)) (fun x=>ZR x.1 x.2.1) [zmV,zwp] []
def zua:FS:=Ak 38 [.v (.l (.st 2)), .v (.i .i64)] (.v (.i .i64)) (fun x=>Y5 x.1 x.2.1) [zuZ] [.sp [.i .i64, .i .i64]]
def zxz:FS:=Ak 39 [.v (.l (.i .i64)), .v (.i .i64)] (.v (.i .i64)) (fun x=>Z6 x.1 x.2.1) [] []
def zu6:FS:=Ak 79 [.v (.st 0), .v (.i .i64)] (.v (.i .i64)) (fun x=>ZJ x.1 x.2.1) [] []
def zui:FS:=Ak 40 [.v (.l (.st 0)), .v (.i .i64)] (.v (.i .i64)) (fun x=>Y1 x.1 x.2.1) [zu6] [.sp [.i .i64, .i .i64]]
def zu5:FS:=Ak 18 [.v (.st 3), .v (.i .i64)] (.v (.i .i64)) (fun x=>ZC x.1 x.2.1) [zua,zxz,zui] []
def zwn:FS:=Ak 19 [.v (.st 4), .v (.i .i64)] (.v (.i .i64)) (fun x=>Vv x.1 x.2.1) [] []
def zxs:FS:=Ak 4 [.v (.st 5), .v (.i .i64)] (.v (.i .i64)) (fun x=>ZW x.1 x.2.1) [zu5,zwn] []
def zy8:FS:=Ak 138 [.v (.st 6), .v (.i .i64)] (.v (.i .i64)) (fun x=>VG x.1 x.2.1) [zmV] []
def ztD:FS:=Ak 80 [.v (.st 7), .v (.i .i64)] (.v (.i .i64)) (fun x=>Zv x.1 x.2.1) [zy8] []
def zqT:FS:=Ak 41 [.v (.st 8), .v (.i .i64)] (.v (.i .i64)) (fun x=>YQ x.1 x.2.1) [ztD] []
def zr7:FS:=Ak 20 [.v (.st 9), .v (.i .i64)] (.v (.i .i64)) (fun x=>YM x.1 x.2.1) [zqT] []
def zqs:FS:=Ak 5 [.v (.l (.st 9)), .v (.i .i64)] (.v (.i .i64)) (fun x=>YX x.1 x.2.1) [zr7] [.sp [.i .i64, .i .i64]]
def zmZ:FS:=Ak 154 [.v (.l .s)] (.v (.l .s)) (fun x=>U3 x.1) [] [.sp [.i .i64, .l .s]]
def zy3:FS:=Ak 200 [.v (.st 1)] (.v (.st 1)) (fun x=>oA x.1) [] []
def zxk:FS:=Ak 155 [.v (.l (.st 1))] (.v (.l (.st 1))) (fun x=>ZZ x.1) [zy3] [.sp [.i .i64, .l (.st 1)]]
def zuT:FS:=Ak 100 [.v (.st 2)] (.v (.st 2)) (fun x=>ZH x.1) [zmZ,zxk] []
def zty:FS:=Ak 52 [.v (.l (.st 2))] (.v (.l (.st 2))) (fun x=>Zx x.1) [zuT] [.sp [.i .i64, .l (.st 2)]]
def zwt:FS:=Ak 53 [.v (.l (.i .i64))] (.v (.l (.i .i64))) (fun x=>Z0 x.1) [] [.sp [.i .i64, .l (.i .i64)]]
def zuu:FS:=Ak 101 [.v (.st 0)] (.v (.st 0)) (fun x=>nW x.1) [] []
def ztk:FS:=Ak 54 [.v (.l (.st 0))] (.v (.l (.st 0))) (fun x=>Y2 x.1) [zuu] [.sp [.i .i64, .l (.st 0)]]
def zuN:FS:=Ak 25 [.v (.st 3)] (.v (.st 3)) (fun x=>Zn x.1) [zty,zwt,ztk] []
def zwg:FS:=Ak 26 [.v (.st 4)] (.v (.st 4)) (fun x=>Z9 x.1) [] []
def zwE:FS:=Ak 7 [.v (.st 5)] (.v (.st 5)) (fun x=>Pc x.1) [zuN,zwg] []
def zyO:FS:=Ak 156 [.v (.st 6)] (.v (.st 6)) (fun x=>VA x.1) [zmZ] []
def ztM:FS:=Ak 102 [.v (.st 7)] (.v (.st 7)) (fun x=>Y3 x.1) [zyO] []
def zqP:FS:=Ak 55 [.v (.st 8)] (.v (.st 8)) (fun x=>YN x.1) [ztM] []
def zr5:FS:=Ak 27 [.v (.st 9)] (.v (.st 9)) (fun x=>YE x.1) [zqP] []
def zql:FS:=Ak 8 [.v (.l (.st 9))] (.v (.l (.st 9))) (fun x=>OZ x.1) [zr5] [.sp [.i .i64, .l (.st 9)]]
def It:FS:=Ak 82 [.v (.i .i64), .v (.i .i64), .v (.i .i64)] (.v .b) (fun x=>Gq x.1 x.2.1 x.2.2.1) [] []
def zlS:FS:=Ak 186 [.v .s, .v (.i .i64)] (.v .b) (fun x=>Q6 x.1 x.2.1) [] [.sp [.i .i64]]
def zrz:FS:=Ak 235 [.v (.l .s), .v .s] (.v (.i .i64)) (fun x=>VE x.1 x.2.1) [] [.sp [.i .i64]]
def zuB:FS:=Ak 187 [.v (.l .s)] (.v .b) (fun x=>ZP x.1) [It,zlS,zrz] [.sp [.i .i64]]
def mW:FS:=Ak 139 [.v (.st 2)] (.v .b) (fun x=>M8 x.1) [zlS,zuB,It] [.sp [.i .i64]]
def Pd:FS:=Ak 92 [.v (.st 2), .v .s] (.v (.i .i64)) (fun x=>HW x.1 x.2.1) [] [.sp [.i .i64]]
def oB:FS:=Ak 87 [.v (.st 2)] (.v (.st 2)) (fun x=>RO x.1) [] []
def zxE:FS:=Ak 188 [.v (.st 2), .v .s, .v (.i .i64)] (.v (.st 2)) (fun x=>Vw x.1 x.2.1 x.2.2.1) [oB,Pd] []
def zxr:FS:=Ak 140 [.v (.st 2), .v .s, .v (.i .i64)] (.v (.l (.st 2))) (fun x=>aC x.1 x.2.1 x.2.2.1) [oB,Pd,zxE] [.sp [.i .i64, .l (.st 2)], .inl]
def zpn:FS:=Ak 141 [.v (.st 2), .v (.st 2)] (.v .b) (fun x=>Yw x.1 x.2.1) [] [.sp [.i .i64], .sp [.i .i64]]
def zw2:FS:=Ak 189 [.v (.i .i64), .v (.i .i64)] (.v (.i .i64)) (fun x=>Z5 x.1 x.2.1) [] []
def zwQ:FS:=Ak 142 [.v (.st 2), .v (.st 2)] (.v (.i .i64)) (fun x=>Z3 x.1 x.2.1) [zw2] [.sp [.i .i64, .i .i64]]
def zuI:FS:=Ak 81 [.v (.st 3)] (.v .b) (fun x=>RJ x.1) [It,mW,Pd,zxr,zpn,zwQ] [.sp [.i .i64]]
def zx4:FS:=Ak 83 [.v (.l (.i .i64)), .v (.i .i64), .v (.i .i64)] (.v .b) (fun x=>aJ x.1 x.2.1 x.2.2.1) [It] [.sp [.i .i64]]
def nQ:FS:=Ak 144 [.v .s, .v .s] (.v .b) (fun x=>RF x.1 x.2.1) [] [.sp [.i .i64], .sp [.b, .i .i64]]
def oP:FS:=Ak 85 [.v .s] (.v .b) (fun x=>RQ x.1) [It,nQ] []
def zru:FS:=Ak 236 [.v .s] (.v .b) (fun x=>VH x.1) [nQ] []
def zuK:FS:=Ak 190 [.v .s, .v .s, .v .b] (.v .b) (fun x=>ZG x.1 x.2.1 x.2.2.1) [oP,zru] []
def zs2:FS:=Ak 143 [.v (.l (.st 0))] (.v .b) (fun x=>Y0 x.1) [zuK] [.sp [.i .i64]]
def Z1:FS:=Ak 84 [.v (.l (.st 0))] (.v .b) (fun x=>Lz x.1) [zs2] [.sp [.i .i64]]
def zsc:FS:=Ak 42 [.v (.st 3)] (.v .b) (fun x=>YK x.1) [zuI,It,zx4,Z1] []
def zs0:FS:=Ak 43 [.v (.st 4)] (.v .b) (fun x=>Vi x.1) [oP] []
def zsR:FS:=Ak 21 [.v (.st 5)] (.v .b) (fun x=>Y6 x.1) [zsc,zs0] []
def zzd:FS:=Ak 86 [.v (.l (.i .i64))] (.v (.l (.i .i64))) (fun x=>aH x.1) [] []
def zpu:FS:=Ak 44 [.v (.st 3)] (.v (.st 3)) (fun x=>Vy x.1) [zzd,oB] [.sp [.i .i64, .l (.st 2)]]
def zw7:FS:=Ak 22 [.v (.st 5)] (.v (.st 5)) (fun x=>Z7 x.1) [zpu] []
def znz:FS:=Ak 47 [.v (.st 7)] (.v .b) (fun x=>Zc x.1) [] []
def zns:FS:=Ak 191 [.v .s] (.v .b) (fun x=>Rr x.1) [It,nQ] []
def zow:FS:=Ak 145 [.v (.st 2), .v (.st 6)] (.v .b) (fun x=>Na x.1 x.2.1) [zns] [.sp [.i .i64]]
def zoC:FS:=Ak 88 [.v (.st 2), .v (.st 7)] (.v .b) (fun x=>Vc x.1 x.2.1) [zow] []
def zuJ:FS:=Ak 45 [.v (.st 3), .v (.st 8)] (.v .b) (fun x=>ZB x.1 x.2.1) [It,znz,zoC] []
def zvi:FS:=Ak 46 [.v (.i .i64)] (.v .b) (fun x=>nS x.1) [It] []
def zuw:FS:=Ak 23 [.v (.st 5), .v (.st 9)] (.v .b) (fun x=>Zo x.1 x.2.1) [zuJ,zvi,znz] [.pt]
def mS:FS:=Ak 89 [.v (.st 3)] (.v (.l (.i .i64))) (fun x=>Lx x.1) [Pd] [.sp [.l (.i .i64), .i .i64]]
def zuy:FS:=Ak 48 [.v (.st 3)] (.tu (.cons (.v .b) (.cons (.v .b) .nil))) (fun x=>Zs x.1) [mS] [.sp [.b, .b, .i .i64]]
def zuU:FS:=Ak 194 [.v (.st 2), .v (.st 7)] (.v .b) (fun x=>RM x.1 x.2.1) [mW,zoC] []
def zu2:FS:=Ak 150 [.v (.l .s), .v .s] (.v .s) (fun x=>nX x.1 x.2.1) [] [.sp [.s, .i .i64], .inl]
def Vl:FS:=Ak 94 [.v (.st 2), .v (.st 6)] (.v (.st 0)) (fun x=>Kw x.1 x.2.1) [zu2] []
def zvf:FS:=Ak 240 [.v (.st 2), .v (.st 7)] (.v (.l (.st 10))) (fun x=>Zp x.1 x.2.1) [Vl] []
def nE:FS:=Ak 152 [.v (.st 2), .v (.st 1), .v (.st 6)] (.v .s) (fun x=>Nc x.1 x.2.1 x.2.2.1) [] []
def zwW:FS:=Ak 241 [.v (.st 2), .v (.st 1), .v (.st 7)] (.v (.l (.st 10))) (fun x=>Vs x.1 x.2.1 x.2.2.1) [nE] [.sp [.s], .pt, .pt, .inl]
def zxf:FS:=Ak 195 [.v (.st 2), .v (.st 7)] (.v (.l (.st 10))) (fun x=>aA x.1 x.2.1) [zvf,zwW] [.sp [.i .i64, .l (.st 10)]]
def zzm:FS:=Ak 242 [.v (.st 10)] (.v .b) (fun x=>aQ x.1) [oP,zru,It] [.pt, .inl]
def zxn:FS:=Ak 197 [.v (.l (.st 10))] (.v .b) (fun x=>aB x.1) [zzm] [.sp [.i .i64]]
def zsS:FS:=Ak 266 [.v (.l (.st 0)), .v (.l (.st 11)), .v .s] (.tu (.cons (.v .s) (.cons (.v .b) (.cons (.v .b) .nil)))) (fun x=>Zw x.1 x.2.1 x.2.2.1) [] [.sp [.i .i64], .sp [.i .i64]]
def zwD:FS:=Ak 287 [.v .s] (.v (.i .i64)) (fun x=>Vx x.1) [It] [.sp [.i .i64, .i .i64]]
def zrH:FS:=Ak 268 [.v .s] (.tu (.cons (.v (.i .i64)) (.cons (.v .b) .nil))) (fun x=>VD x.1) [zwD] [.pt]
def zvc:FS:=Ak 267 [.v (.st 10), .v .s, .v .b] (.v .b) (fun x=>ZL x.1 x.2.1 x.2.2.1) [zrH,It] []
def zqe:FS:=Ak 245 [.v (.l (.st 0)), .v (.st 0)] (.v (.l (.st 0))) (fun x=>Nd x.1 x.2.1) [] [.sp [.i .i64]]
theorem zrJ: ∀(n:Nat) (xs:HP tab.car [.v (.i .i64)]) (y:G1 tab.car (.v .s)),HV tab [.v (.i .i64)] xs→((fun x=>Vf n x.1):HP tab.car [.v (.i .i64)]→Option (G1 tab.car (.v .s))) xs=some y→tab.Rt 288 (FR tab [.v (.i .i64)] xs) (F2 tab (.v .s) y)
 |0,_,_,_,h=>nomatch h
 |n+1,xs,y,hp,h=>zT (ps:= [.v (.i .i64)]) (r:=(.v .s)) [DF 288 [.v (.i .i64)] (.v .s) (fun x=>Vf n x.1) (zrJ n)] [] (φ:=(fun x=>Vf (n+1) x.1)) (fun _ _=>by kernel_rfl) (fun _ _=>by kernel_rfl) xs y hp h
def zxW:FS:=DF 288 [.v (.i .i64)] (.v .s) (fun x=>oM x.1) (zrJ zF)
def zxx:FS:=Ak 269 [.v (.i .i64)] (.v .s) (fun x=>oF x.1) [zxW] []
def zxd:FS:=Ak 243 [.v (.l (.st 10)), .v (.l (.st 11))] (.tu (.cons (.v (.i .i64)) (.cons (.v .s) (.cons (.v (.l (.st 0))) .nil)))) (fun x=>oE x.1 x.2.1) [zsS,zvc,zqe,zrH,zxx] [.sp [.l (.st 0), .i .i64], .inl, .inl]
def zxm:FS:=Ak 244 [.v (.l (.st 0)), .v .s] (.v (.st 11)) (fun x=>Z8 x.1 x.2.1) [] [.sp [.i .i64]]
def zva:FS:=Ak 198 [.v (.l (.st 0)), .v (.l (.st 10))] (.tu (.cons (.v (.l (.st 11))) (.cons (.v (.l (.st 0))) (.cons (.v .b) .nil)))) (fun x=>nU x.1 x.2.1) [zxd,zxm] [.sp [.l (.st 11)]]
def zrP:FS:=Ak 199 [.v (.l (.st 0)), .v (.l (.st 0))] (.v (.l (.st 0))) (fun x=>Zg x.1 x.2.1) [zqe] [.sp [.i .i64, .l (.st 0)], .sp [.l (.st 0), .i .i64], .inl]
def zrT:FS:=Ak 151 [.v (.l (.st 0)), .v (.l (.l (.st 10)))] (.tu (.cons (.v (.l (.st 0))) (.cons (.v (.l .b)) (.cons (.v .b) .nil)))) (fun x=>Zf x.1 x.2.1) [Z1,zva,zrP,zxn] [.sp [.i .i64], .sp [.l .b, .i .i64, .l (.st 0)], .inl]
def oS:FS:=Ak 95 [.v (.l (.st 0)), .v (.l (.st 10))] (.tu (.cons (.v (.l (.st 0))) (.cons (.v .b) .nil))) (fun x=>Pb x.1 x.2.1) [zrT] []
def zxV:FS:=Ak 148 [.v (.st 2), .v (.l (.st 0)), .v (.st 7)] (.tu (.cons (.v (.l (.st 0))) (.cons (.v .b) (.cons (.v .b) .nil)))) (fun x=>RP x.1 x.2.1 x.2.2.1) [zuU,Z1,zxf,oS] []
def zrG:FS:=Ak 91 [.v (.st 3), .v (.st 8)] (.tu (.cons (.v (.st 3)) (.cons (.v .b) .nil))) (fun x=>GL x.1 x.2.1) [zpu,It,zxV] []
def zud:FS:=Ak 146 [.v (.l (.i .i64))] (.v .b) (fun x=>Zb x.1) [] [.sp [.i .i64], .sp [.i .i64]]
def zy2:FS:=Ak 239 [.v (.l (.i .i64)), .v (.i .i64)] (.v .b) (fun x=>Vz x.1 x.2.1) [] [.sp [.i .i64]]
def zuY:FS:=Ak 193 [.v (.st 3)] (.v (.i .i64)) (fun x=>ZQ x.1) [mS,zy2] []
def zoM:FS:=Ak 196 [.v .s, .v (.i .u8)] (.v (.l .s)) (fun x=>O9 x.1 x.2.1) [] [.sp [.l .s, .i .i64, .i .i64], .inl]
def zoV:FS:=Ak 153 [.v (.st 2), .v .s, .v .s] (.tu (.cons (.v .s) (.cons (.v .s) (.cons (.v .b) .nil)))) (fun x=>YD x.1 x.2.1 x.2.2.1) [zoM,zns] []
def YW:FS:=Ak 99 [.v (.st 2), .v .s, .v (.l (.st 0))] (.v (.l .s)) (fun x=>OX x.1 x.2.1 x.2.2.1) [zoV] [.sp [.l .s, .i .i64], .inl]
def znC:FS:=Ak 263 [.v (.st 2), .v .s, .v (.l (.st 0))] (.v .b) (fun x=>O6 x.1 x.2.1 x.2.2.1) [mW,Pd,Z1] []
def zu9:FS:=Ak 149 [.v (.st 2), .v (.st 0)] (.tu (.cons (.v (.st 6)) (.cons (.v .b) .nil))) (fun x=>Zm x.1 x.2.1) [zoM,zow,Vl] []
def nZ:FS:=Ak 93 [.v (.st 2), .v (.l (.st 0))] (.v (.l (.st 6))) (fun x=>RG x.1 x.2.1) [zu9] [.sp [.l (.st 6), .i .i64], .inl]
def zmU:FS:=Ak 265 [.v (.st 2), .v .s, .v (.l (.st 0))] (.v (.l .s)) (fun x=>Vb x.1 x.2.1 x.2.2.1) [nZ,Pd,nE] [.sp [.l .s, .i .i64]]
def zot:FS:=Ak 264 [.v (.l .s), .v (.l .s)] (.v (.l .s)) (fun x=>ZN x.1 x.2.1) [zrz] [.sp [.l .s, .i .i64], .inl]
def zr0:FS:=Ak 237 [.v (.st 2), .v .s, .v (.l (.st 0))] (.tu (.cons (.v (.l .s)) (.cons (.v .b) .nil))) (fun x=>nB x.1 x.2.1 x.2.2.1) [znC,YW,zmU,zot] []
def zu0:FS:=Ak 238 [.v (.st 2), .v .s, .v (.l (.st 0))] (.tu (.cons (.v (.l .s)) (.cons (.v .b) .nil))) (fun x=>nR x.1 x.2.1 x.2.2.1) [znC,zmU,YW,zot] []
def zue:FS:=Ak 192 [.v (.st 2), .v .s, .v (.i .i64), .v (.l (.st 0))] (.v .b) (fun x=>YZ x.1 x.2.1 x.2.2.1 x.2.2.2.1) [YW,zr0,zu0] []
def zve:FS:=Ak 147 [.v (.st 3)] (.v .b) (fun x=>Vg x.1) [zuY,zue] []
def zwZ:FS:=Ak 90 [.v (.st 3), .v (.st 8)] (.v .b) (fun x=>Pg x.1 x.2.1) [zrG,zud,zve] []
def zwy:FS:=Ak 49 [.v (.st 5), .v (.st 8)] (.tu (.cons (.v (.st 5)) (.cons (.v .b) .nil))) (fun x=>LA x.1 x.2.1) [zwZ,mS,zrG] [.inl]
def zuG:FS:=Ak 96 [.v (.st 2), .v (.st 1), .v (.st 6)] (.v (.l (.st 10))) (fun x=>ZF x.1 x.2.1 x.2.2.1) [Vl,nE] []
def zrg:FS:=Ak 98 [.v (.st 2), .v (.l (.st 0))] (.v (.l .s)) (fun x=>YP x.1 x.2.1) [nZ,Vl] [.sp [.l .s, .i .i64]]
def zoL:FS:=Ak 97 [.v (.l .s), .v .s] (.v .b) (fun x=>ZE x.1 x.2.1) [] [.sp [.i .i64]]
def zuV:FS:=Ak 50 [.v (.st 2), .v .s, .v (.l (.st 0)), .v (.st 4), .v (.i .i64)] (.tu (.cons (.v (.l (.st 0))) (.cons (.v (.st 4)) .nil))) (fun x=>Ve x.1 x.2.1 x.2.2.1 x.2.2.2.1 x.2.2.2.2.1) [Pd,nZ,zrg,zoL,Vl,zuG,oS] [.sp [.i .i64, .i .i64, .s, .l (.st 0)], .inl]
def zs4:FS:=Ak 51 [.v (.st 2), .v .s, .v (.l (.st 0)), .v (.st 4), .v (.i .i64)] (.tu (.cons (.v (.l (.st 0))) (.cons (.v (.st 4)) .nil))) (fun x=>Vk x.1 x.2.1 x.2.2.1 x.2.2.2.1 x.2.2.2.2.1) [YW,zoL,oS] [.sp [.i .i64, .i .i64, .s, .l (.st 0)], .inl]
def zyj:FS:=Ak 24 [.v (.st 5), .v (.st 9)] (.tu (.cons (.v (.st 5)) (.cons (.v .b) .nil))) (fun x=>Ng x.1 x.2.1) [zuy,zwy,zuV,zs4] []
def ztK:FS:=Ak 6 [.v (.st 5), .v (.l (.st 9))] (.tu (.cons (.v (.st 5)) (.cons (.v (.l .b)) (.cons (.v .b) .nil)))) (fun x=>Ze x.1 x.2.1) [zsR,zw7,zuw,zyj] [.sp [.l .b, .i .i64, .s, .l (.st 2), .l (.i .i64), .l (.st 0), .s, .b, .s, .b], .inl]
def J3:FS:=Ak 60 [.v (.i .i64), .v (.i .i64), .v (.i .i64)] (.v .b) (fun x=>GK x.1 x.2.1 x.2.2.1) [] []
def zrZ:FS:=Ak 202 [.v (.l (.st 0))] (.v (.l .s)) (fun x=>Zj x.1) [] [.sp [.i .i64, .l .s]]
def zni:FS:=Ak 211 [.v (.i .u8)] (.v .b) (fun x=>lL x.1) [] []
def zo6:FS:=Ak 212 [.v .s, .v (.i .u8)] (.v (.i .i64)) (fun x=>mA x.1 x.2.1) [ziv] []
end Go.Proofs.YtfdfahjmonlbiaaGreatDoor
end
