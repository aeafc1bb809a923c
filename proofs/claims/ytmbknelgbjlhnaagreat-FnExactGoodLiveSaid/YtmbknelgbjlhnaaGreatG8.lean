/- Parts of a proof, joined: QM, QF1, QF2, QF3, QF4, QF5, QR. -/
import Derived.Test.YtmbknelgbjlhnaaGreatG7
set_option linter.unusedVariables false
set_option linter.unusedSimpArgs false
noncomputable section
namespace Go.Proofs.YtmbknelgbjlhnaaGreat
open Go.RowKit
set_option maxRecDepth 100000
set_option maxHeartbeats 4000000
abbrev Af:=List UInt8
def Ny (a0:List (Af)) (v1 v2:Int):Option ((Int × Int) ⊕ Option (Int)):=
 if(decide (v2<(a0.length:Int)))then
  (Aj a0 v2).bind fun y3=>
  if(decide ((IntKind.i64.wrap (v1-(y3.length:Int)))<0))then
   some (.inr (some (-1)))
  else
   some (.inl ((IntKind.i64.wrap (v1-(y3.length:Int))),(IntKind.i64.wrap (v2+1))))
 else
  some (.inr (some v1))
def K0 (a0:List (Af)) (a1:Int):Option (Int):=
 if(decide ((IntKind.i64.wrap (a1-(a0.length:Int)))<0))then
  some (-1)
 else
  Aq (fun s:Int × Int=>Ny a0 s.1 s.2) ((IntKind.i64.wrap (a1-(a0.length:Int))),0)
def WG (a0:AI) (a1:Int):Option (Int):=
 if(decide ((IntKind.i64.wrap (a1-(a0.ab.length:Int)))<0))then
  some (-1)
 else
  some (IntKind.i64.wrap (a1-(a0.ab.length:Int)))
def NJ (a0:List AI) (v1 v2:Int):Option ((Int × Int) ⊕ Option (Int)):=
 if(decide (v2<(a0.length:Int)))then
  (Aj a0 v2).bind fun y3=>
  (WG y3 v1).bind fun v4=>
  if(decide (v4<0))then
   some (.inr (some (-1)))
  else
   some (.inl (v4,(IntKind.i64.wrap (v2+1))))
 else
  some (.inr (some v1))
def V8 (a0:List AI) (a1:Int):Option (Int):=
 if(decide ((IntKind.i64.wrap (a1-(a0.length:Int)))<0))then
  some (-1)
 else
  Aq (fun s:Int × Int=>NJ a0 s.1 s.2) ((IntKind.i64.wrap (a1-(a0.length:Int))),0)
def Ww (a0:Ai) (a1:Int):Option (Int):=
 if(decide ((IntKind.i64.wrap (a1-(a0.ab.length:Int)))<0))then
  some (-1)
 else
  (K0 a0.ak (IntKind.i64.wrap (a1-(a0.ab.length:Int)))).bind fun v1=>
  if(decide (v1<0))then
   some (-1)
  else
   (V8 a0.ae v1).bind fun v2=>
   if(decide (v2<0))then
    some (-1)
   else
    some v2
def N5 (a0:List Ai) (v1 v2:Int):Option ((Int × Int) ⊕ Option (Int)):=
 if(decide (v2<(a0.length:Int)))then
  (Aj a0 v2).bind fun y3=>
  (Ww y3 v1).bind fun v4=>
  if(decide (v4<0))then
   some (.inr (some (-1)))
  else
   some (.inl (v4,(IntKind.i64.wrap (v2+1))))
 else
  some (.inr (some v1))
def Vu (a0:List Ai) (a1:Int):Option (Int):=
 if(decide ((IntKind.i64.wrap (a1-(a0.length:Int)))<0))then
  some (-1)
 else
  Aq (fun s:Int × Int=>N5 a0 s.1 s.2) ((IntKind.i64.wrap (a1-(a0.length:Int))),0)
def Ol (a0:List Int) (a1:Int):Option (Int):=
 if(decide ((IntKind.i64.wrap (a1-(a0.length:Int)))<0))then
  some (-1)
 else
  some (IntKind.i64.wrap (a1-(a0.length:Int)))
def Ot (a0:BI) (a1:Int):Option (Int):=
 (K0 a0.al a1).bind fun v1=>
 if(decide (v1<0))then
  some (-1)
 else
  some v1
def Vj (a0:BC) (a1:Int):Option (Int):=
 (Ot a0.ca a1).bind fun v1=>
 if(decide (v1<0))then
  some (-1)
 else
  (Ot a0.cm v1).bind fun v2=>
  if(decide (v2<0))then
   some (-1)
  else
   some v2
def UN (a0:Cj) (a1:Int):Option (Int):=
 (Vj a0.c9 a1).bind fun v1=>
 if(decide (v1<0))then
  some (-1)
 else
  (Ot a0.ee v1).bind fun v2=>
  if(decide (v2<0))then
   some (-1)
  else
   some v2
def Nu (a0:List Cj) (v1 v2:Int):Option ((Int × Int) ⊕ Option (Int)):=
 if(decide (v2<(a0.length:Int)))then
  (Aj a0 v2).bind fun y3=>
  (UN y3 v1).bind fun v4=>
  if(decide (v4<0))then
   some (.inr (some (-1)))
  else
   some (.inl (v4,(IntKind.i64.wrap (v2+1))))
 else
  some (.inr (some v1))
def Uu (a0:List Cj) (a1:Int):Option (Int):=
 if(decide ((IntKind.i64.wrap (a1-(a0.length:Int)))<0))then
  some (-1)
 else
  Aq (fun s:Int × Int=>Nu a0 s.1 s.2) ((IntKind.i64.wrap (a1-(a0.length:Int))),0)
def Vy (a0:List CL) (a1:Int):Option (Int):=
 if(decide ((IntKind.i64.wrap (a1-(a0.length:Int)))<0))then
  some (-1)
 else
  some (IntKind.i64.wrap (a1-(a0.length:Int)))
def VB (a0:A7) (a1:Int):Option (Int):=
 if(decide ((IntKind.i64.wrap (a1-(a0.aj.length:Int)))<0))then
  some (-1)
 else
  if(decide ((IntKind.i64.wrap ((IntKind.i64.wrap (a1-(a0.aj.length:Int)))-(a0.bd.length:Int)))<0))then
   some (-1)
  else
   some (IntKind.i64.wrap ((IntKind.i64.wrap (a1-(a0.aj.length:Int)))-(a0.bd.length:Int)))
def N6 (a0:List A7) (v1 v2:Int):Option ((Int × Int) ⊕ Option (Int)):=
 if(decide (v2<(a0.length:Int)))then
  (Aj a0 v2).bind fun y3=>
  (VB y3 v1).bind fun v4=>
  if(decide (v4<0))then
   some (.inr (some (-1)))
  else
   some (.inl (v4,(IntKind.i64.wrap (v2+1))))
 else
  some (.inr (some v1))
def Vg (a0:List A7) (a1:Int):Option (Int):=
 if(decide ((IntKind.i64.wrap (a1-(a0.length:Int)))<0))then
  some (-1)
 else
  Aq (fun s:Int × Int=>N6 a0 s.1 s.2) ((IntKind.i64.wrap (a1-(a0.length:Int))),0)
def WB (a0:Dz) (a1:Int):Option (Int):=
 (K0 a0.bg a1).bind fun v1=>
 if(decide (v1<0))then
  some (-1)
 else
  (Vg a0.ay v1).bind fun v2=>
  if(decide (v2<0))then
   some (-1)
  else
   some v2
def Wv (a0:BT) (a1:Int):Option (Int):=
 (WB a0.db a1).bind fun v1=>
 if(decide (v1<0))then
  some (-1)
 else
  some v1
def Ns (a0:List BT) (v1 v2:Int):Option ((Int × Int) ⊕ Option (Int)):=
 if(decide (v2<(a0.length:Int)))then
  (Aj a0 v2).bind fun y3=>
  (Wv y3 v1).bind fun v4=>
  if(decide (v4<0))then
   some (.inr (some (-1)))
  else
   some (.inl (v4,(IntKind.i64.wrap (v2+1))))
 else
  some (.inr (some v1))
def Vn (a0:List BT) (a1:Int):Option (Int):=
 if(decide ((IntKind.i64.wrap (a1-(a0.length:Int)))<0))then
  some (-1)
 else
  Aq (fun s:Int × Int=>Ns a0 s.1 s.2) ((IntKind.i64.wrap (a1-(a0.length:Int))),0)
def UT (a0:Ci) (a1:Int):Option (Int):=
 (Vn a0.cj a1).bind fun v1=>
 if(decide (v1<0))then
  some (-1)
 else
  some v1
def Nt (a0:List Ci) (v1 v2:Int):Option ((Int × Int) ⊕ Option (Int)):=
 if(decide (v2<(a0.length:Int)))then
  (Aj a0 v2).bind fun y3=>
  (UT y3 v1).bind fun v4=>
  if(decide (v4<0))then
   some (.inr (some (-1)))
  else
   some (.inl (v4,(IntKind.i64.wrap (v2+1))))
 else
  some (.inr (some v1))
def U6 (a0:List Ci) (a1:Int):Option (Int):=
 if(decide ((IntKind.i64.wrap (a1-(a0.length:Int)))<0))then
  some (-1)
 else
  Aq (fun s:Int × Int=>Nt a0 s.1 s.2) ((IntKind.i64.wrap (a1-(a0.length:Int))),0)
def VF (a0:BH) (a1:Int):Option (Int):=
 (U6 a0.au a1).bind fun v1=>
 if(decide (v1<0))then
  some (-1)
 else
  some v1
def N4 (a0:List BH) (v1 v2:Int):Option ((Int × Int) ⊕ Option (Int)):=
 if(decide (v2<(a0.length:Int)))then
  (Aj a0 v2).bind fun y3=>
  (VF y3 v1).bind fun v4=>
  if(decide (v4<0))then
   some (.inr (some (-1)))
  else
   some (.inl (v4,(IntKind.i64.wrap (v2+1))))
 else
  some (.inr (some v1))
def Vh (a0:List BH) (a1:Int):Option (Int):=
 if(decide ((IntKind.i64.wrap (a1-(a0.length:Int)))<0))then
  some (-1)
 else
  Aq (fun s:Int × Int=>N4 a0 s.1 s.2) ((IntKind.i64.wrap (a1-(a0.length:Int))),0)
def V6 (a0:AU) (a1:Int):Option (Int):=
 if(decide ((IntKind.i64.wrap (a1-(a0.aj.length:Int)))<0))then
  some (-1)
 else
  some (IntKind.i64.wrap (a1-(a0.aj.length:Int)))
def NX (a0:List AU) (v1 v2:Int):Option ((Int × Int) ⊕ Option (Int)):=
 if(decide (v2<(a0.length:Int)))then
  (Aj a0 v2).bind fun y3=>
  (V6 y3 v1).bind fun v4=>
  if(decide (v4<0))then
   some (.inr (some (-1)))
  else
   some (.inl (v4,(IntKind.i64.wrap (v2+1))))
 else
  some (.inr (some v1))
def Wm (a0:List AU) (a1:Int):Option (Int):=
 if(decide ((IntKind.i64.wrap (a1-(a0.length:Int)))<0))then
  some (-1)
 else
  Aq (fun s:Int × Int=>NX a0 s.1 s.2) ((IntKind.i64.wrap (a1-(a0.length:Int))),0)
def NZ (a0:List (List AU)) (v1 v2:Int):Option ((Int × Int) ⊕ Option (Int)):=
 if(decide (v2<(a0.length:Int)))then
  (Aj a0 v2).bind fun y3=>
  (Wm y3 v1).bind fun v4=>
  if(decide (v4<0))then
   some (.inr (some (-1)))
  else
   some (.inl (v4,(IntKind.i64.wrap (v2+1))))
 else
  some (.inr (some v1))
def Vl (a0:List (List AU)) (a1:Int):Option (Int):=
 if(decide ((IntKind.i64.wrap (a1-(a0.length:Int)))<0))then
  some (-1)
 else
  Aq (fun s:Int × Int=>NZ a0 s.1 s.2) ((IntKind.i64.wrap (a1-(a0.length:Int))),0)
def W6 (a0:Ar) (a1:Int):Option (Int):=
 if(decide ((IntKind.i64.wrap (a1-(a0.aj.length:Int)))<0))then
  some (-1)
 else
  if(decide ((IntKind.i64.wrap ((IntKind.i64.wrap (a1-(a0.aj.length:Int)))-(a0.bd.length:Int)))<0))then
   some (-1)
  else
   some (IntKind.i64.wrap ((IntKind.i64.wrap (a1-(a0.aj.length:Int)))-(a0.bd.length:Int)))
def Oc (a0:List Ar) (v1 v2:Int):Option ((Int × Int) ⊕ Option (Int)):=
 if(decide (v2<(a0.length:Int)))then
  (Aj a0 v2).bind fun y3=>
  (W6 y3 v1).bind fun v4=>
  if(decide (v4<0))then
   some (.inr (some (-1)))
  else
   some (.inl (v4,(IntKind.i64.wrap (v2+1))))
 else
  some (.inr (some v1))
def WL (a0:List Ar) (a1:Int):Option (Int):=
 if(decide ((IntKind.i64.wrap (a1-(a0.length:Int)))<0))then
  some (-1)
 else
  Aq (fun s:Int × Int=>Oc a0 s.1 s.2) ((IntKind.i64.wrap (a1-(a0.length:Int))),0)
def WA (a0:BA) (a1:Int):Option (Int):=
 if(decide ((IntKind.i64.wrap (a1-(a0.aj.length:Int)))<0))then
  some (-1)
 else
  if(decide ((IntKind.i64.wrap ((IntKind.i64.wrap (a1-(a0.aj.length:Int)))-(a0.bd.length:Int)))<0))then
   some (-1)
  else
   some (IntKind.i64.wrap ((IntKind.i64.wrap (a1-(a0.aj.length:Int)))-(a0.bd.length:Int)))
def NN (a0:List BA) (v1 v2:Int):Option ((Int × Int) ⊕ Option (Int)):=
 if(decide (v2<(a0.length:Int)))then
  (Aj a0 v2).bind fun y3=>
  (WA y3 v1).bind fun v4=>
  if(decide (v4<0))then
   some (.inr (some (-1)))
  else
   some (.inl (v4,(IntKind.i64.wrap (v2+1))))
 else
  some (.inr (some v1))
def RH (a0:List BA) (a1:Int):Option (Int):=
 if(decide ((IntKind.i64.wrap (a1-(a0.length:Int)))<0))then
  some (-1)
 else
  Aq (fun s:Int × Int=>NN a0 s.1 s.2) ((IntKind.i64.wrap (a1-(a0.length:Int))),0)
def U8 (a0:B7) (a1:Int):Option (Int):=
 (WL a0.dq a1).bind fun v1=>
 if(decide (v1<0))then
  some (-1)
 else
  (RH a0.bp v1).bind fun v2=>
  if(decide (v2<0))then
   some (-1)
  else
   (Ol a0.cb v2).bind fun v3=>
   if(decide (v3<0))then
    some (-1)
   else
    some v3
def NG (a0:List B7) (v1 v2:Int):Option ((Int × Int) ⊕ Option (Int)):=
 if(decide (v2<(a0.length:Int)))then
  (Aj a0 v2).bind fun y3=>
  (U8 y3 v1).bind fun v4=>
  if(decide (v4<0))then
   some (.inr (some (-1)))
  else
   some (.inl (v4,(IntKind.i64.wrap (v2+1))))
 else
  some (.inr (some v1))
def Ux (a0:List B7) (a1:Int):Option (Int):=
 if(decide ((IntKind.i64.wrap (a1-(a0.length:Int)))<0))then
  some (-1)
 else
  Aq (fun s:Int × Int=>NG a0 s.1 s.2) ((IntKind.i64.wrap (a1-(a0.length:Int))),0)
def UB (a0:BK) (a1:Int):Option (Int):=
 (K0 a0.bm a1).bind fun v1=>
 if(decide (v1<0))then
  some (-1)
 else
  (RH a0.bp v1).bind fun v2=>
  if(decide (v2<0))then
   some (-1)
  else
   some v2
def ND (a0:List BK) (v1 v2:Int):Option ((Int × Int) ⊕ Option (Int)):=
 if(decide (v2<(a0.length:Int)))then
  (Aj a0 v2).bind fun y3=>
  (UB y3 v1).bind fun v4=>
  if(decide (v4<0))then
   some (.inr (some (-1)))
  else
   some (.inl (v4,(IntKind.i64.wrap (v2+1))))
 else
  some (.inr (some v1))
def UE (a0:List BK) (a1:Int):Option (Int):=
 if(decide ((IntKind.i64.wrap (a1-(a0.length:Int)))<0))then
  some (-1)
 else
  Aq (fun s:Int × Int=>ND a0 s.1 s.2) ((IntKind.i64.wrap (a1-(a0.length:Int))),0)
def Wu (a0:By) (a1:Int):Option (Int):=
 (Vy a0.ax a1).bind fun v1=>
 if(decide (v1<0))then
  some (-1)
 else
  (K0 a0.a7 v1).bind fun v2=>
  if(decide (v2<0))then
   some (-1)
  else
   (Vh a0.aw v2).bind fun v3=>
   if(decide (v3<0))then
    some (-1)
   else
    (Vl a0.bu v3).bind fun v4=>
    if(decide (v4<0))then
     some (-1)
    else
     (Ol a0.a8 v4).bind fun v5=>
     if(decide (v5<0))then
      some (-1)
     else
      (Ux a0.bj v5).bind fun v6=>
      if(decide (v6<0))then
       some (-1)
      else
       (UE a0.bh v6).bind fun v7=>
       if(decide (v7<0))then
        some (-1)
       else
        some v7
def Wj (a0:Cz) (a1:Int):Option (Int):=
 if(decide ((IntKind.i64.wrap (a1-(a0.ab.length:Int)))<0))then
  some (-1)
 else
  (Vu a0.ch (IntKind.i64.wrap (a1-(a0.ab.length:Int)))).bind fun v1=>
  if(decide (v1<0))then
   some (-1)
  else
   (Ol a0.a6 v1).bind fun v2=>
   if(decide (v2<0))then
    some (-1)
   else
    (Uu a0.bw v2).bind fun v3=>
    if(decide (v3<0))then
     some (-1)
    else
     (Wu a0.aq v3).bind fun v4=>
     if(decide (v4<0))then
      some (-1)
     else
      some v4
def QV (a0:List (Af)) (v1:Int) (v2:List (Af)):Option ((Int × List (Af)) ⊕ Option (List (Af))):=
 if(decide (v1<(a0.length:Int)))then
  (Aj a0 v1).bind fun y3=>
  (Aj v2 v1).bind fun y4=>
  some (.inl ((IntKind.i64.wrap (v1+1)),(v2.set (v1).toNat y3)))
 else
  some (.inr (some v2))
def K2 (a0:List (Af)):Option (List (Af)):=
 A0 (0≤(a0.length:Int)∧(a0.length:Int)*16≤140737488355328∧(a0.length:Int)≤140737488355328)<|
 Aq (fun s:Int × List (Af)=>QV a0 s.1 s.2) (0,(List.replicate ((a0.length:Int)).toNat ([]:Af)))
def cQ (a0:AI):Option (AI):=
 some a0
def RA (a0:List AI) (v1:Int) (v2:List AI):Option ((Int × List AI) ⊕ Option (List AI)):=
 if(decide (v1<(a0.length:Int)))then
  (Aj a0 v1).bind fun y3=>
  (cQ y3).bind fun v4=>
  (Aj v2 v1).bind fun y5=>
  some (.inl ((IntKind.i64.wrap (v1+1)),(v2.set (v1).toNat v4)))
 else
  some (.inr (some v2))
def Wa (a0:List AI):Option (List AI):=
 A0 (0≤(a0.length:Int)∧(a0.length:Int)*32≤140737488355328∧(a0.length:Int)≤140737488355328)<|
 Aq (fun s:Int × List AI=>RA a0 s.1 s.2) (0,(List.replicate ((a0.length:Int)).toNat (⟨([]:Af),0,0⟩:AI)))
def VQ (a0:Ai):Option (Ai):=
 (K2 a0.ak).bind fun v1=>
 (Wa a0.ae).bind fun v2=>
 some (⟨a0.ab,v1,v2⟩:Ai)
def Re (a0:List Ai) (v1:Int) (v2:List Ai):Option ((Int × List Ai) ⊕ Option (List Ai)):=
 if(decide (v1<(a0.length:Int)))then
  (Aj a0 v1).bind fun y3=>
  (VQ y3).bind fun v4=>
  (Aj v2 v1).bind fun y5=>
  some (.inl ((IntKind.i64.wrap (v1+1)),(v2.set (v1).toNat v4)))
 else
  some (.inr (some v2))
def Vm (a0:List Ai):Option (List Ai):=
 A0 (0≤(a0.length:Int)∧(a0.length:Int)*64≤140737488355328∧(a0.length:Int)≤140737488355328)<|
 Aq (fun s:Int × List Ai=>Re a0 s.1 s.2) (0,(List.replicate ((a0.length:Int)).toNat (⟨([]:Af), [], []⟩:Ai)))
def Rq (a0:List Int) (v1:Int) (v2:List Int):Option ((Int × List Int) ⊕ Option (List Int)):=
 if(decide (v1<(a0.length:Int)))then
  (Aj a0 v1).bind fun y3=>
  (Aj v2 v1).bind fun y4=>
  some (.inl ((IntKind.i64.wrap (v1+1)),(v2.set (v1).toNat y3)))
 else
  some (.inr (some v2))
def Om (a0:List Int):Option (List Int):=
 A0 (0≤(a0.length:Int)∧(a0.length:Int)*8≤140737488355328∧(a0.length:Int)≤140737488355328)<|
 Aq (fun s:Int × List Int=>Rq a0 s.1 s.2) (0,(List.replicate ((a0.length:Int)).toNat 0))
def Oq (a0:BI):Option (BI):=
 (K2 a0.al).bind fun v1=>
 some (⟨v1⟩:BI)
def Vt (a0:BC):Option (BC):=
 (Oq a0.ca).bind fun v1=>
 (Oq a0.cm).bind fun v2=>
 some (⟨a0.af,v1,v2⟩:BC)
def UR (a0:Cj):Option (Cj):=
 (Vt a0.c9).bind fun v1=>
 (Oq a0.ee).bind fun v2=>
 some (⟨a0.eu,a0.fw,v1,v2⟩:Cj)
def QY (a0:List Cj) (v1:Int) (v2:List Cj):Option ((Int × List Cj) ⊕ Option (List Cj)):=
 if(decide (v1<(a0.length:Int)))then
  (Aj a0 v1).bind fun y3=>
  (UR y3).bind fun v4=>
  (Aj v2 v1).bind fun y5=>
  some (.inl ((IntKind.i64.wrap (v1+1)),(v2.set (v1).toNat v4)))
 else
  some (.inr (some v2))
def U3 (a0:List Cj):Option (List Cj):=
 A0 (0≤(a0.length:Int)∧(a0.length:Int)*96≤140737488355328∧(a0.length:Int)≤140737488355328)<|
 Aq (fun s:Int × List Cj=>QY a0 s.1 s.2) (0,(List.replicate ((a0.length:Int)).toNat (⟨0,false,(⟨0,(⟨[]⟩:BI),(⟨[]⟩:BI)⟩:BC),(⟨[]⟩:BI)⟩:Cj)))
def bP (a0:CL):Option (CL):=
 some a0
def Q9 (a0:List CL) (v1:Int) (v2:List CL):Option ((Int × List CL) ⊕ Option (List CL)):=
 if(decide (v1<(a0.length:Int)))then
  (Aj a0 v1).bind fun y3=>
  (bP y3).bind fun v4=>
  (Aj v2 v1).bind fun y5=>
  some (.inl ((IntKind.i64.wrap (v1+1)),(v2.set (v1).toNat v4)))
 else
  some (.inr (some v2))
def VZ (a0:List CL):Option (List CL):=
 A0 (0≤(a0.length:Int)∧(a0.length:Int)*8≤140737488355328∧(a0.length:Int)≤140737488355328)<|
 Aq (fun s:Int × List CL=>Q9 a0 s.1 s.2) (0,(List.replicate ((a0.length:Int)).toNat (⟨0⟩:CL)))
def bL (a0:A7):Option (A7):=
 some a0
def Q6 (a0:List A7) (v1:Int) (v2:List A7):Option ((Int × List A7) ⊕ Option (List A7)):=
 if(decide (v1<(a0.length:Int)))then
  (Aj a0 v1).bind fun y3=>
  (bL y3).bind fun v4=>
  (Aj v2 v1).bind fun y5=>
  some (.inl ((IntKind.i64.wrap (v1+1)),(v2.set (v1).toNat v4)))
 else
  some (.inr (some v2))
def Vi (a0:List A7):Option (List A7):=
 A0 (0≤(a0.length:Int)∧(a0.length:Int)*40≤140737488355328∧(a0.length:Int)≤140737488355328)<|
 Aq (fun s:Int × List A7=>Q6 a0 s.1 s.2) (0,(List.replicate ((a0.length:Int)).toNat (⟨([]:Af),([]:Af),false⟩:A7)))
def WM (a0:Dz):Option (Dz):=
 (K2 a0.bg).bind fun v1=>
 (Vi a0.ay).bind fun v2=>
 some (⟨a0.af,a0.ct,a0.bq,a0.bf,v1,v2,a0.dn⟩:Dz)
def Wo (a0:BT):Option (BT):=
 (WM a0.db).bind fun v1=>
 some (⟨a0.bc,v1⟩:BT)
def Rh (a0:List BT) (v1:Int) (v2:List BT):Option ((Int × List BT) ⊕ Option (List BT)):=
 if(decide (v1<(a0.length:Int)))then
  (Aj a0 v1).bind fun y3=>
  (Wo y3).bind fun v4=>
  (Aj v2 v1).bind fun y5=>
  some (.inl ((IntKind.i64.wrap (v1+1)),(v2.set (v1).toNat v4)))
 else
  some (.inr (some v2))
def Vs (a0:List BT):Option (List BT):=
 A0 (0≤(a0.length:Int)∧(a0.length:Int)*96≤140737488355328∧(a0.length:Int)≤140737488355328)<|
 Aq (fun s:Int × List BT=>Rh a0 s.1 s.2) (0,(List.replicate ((a0.length:Int)).toNat (⟨0,(⟨0,0,0,0, [], [],false⟩:Dz)⟩:BT)))
def UL (a0:Ci):Option (Ci):=
 (Vs a0.cj).bind fun v1=>
 some (⟨a0.j5,v1,a0.fh⟩:Ci)
def QW (a0:List Ci) (v1:Int) (v2:List Ci):Option ((Int × List Ci) ⊕ Option (List Ci)):=
 if(decide (v1<(a0.length:Int)))then
  (Aj a0 v1).bind fun y3=>
  (UL y3).bind fun v4=>
  (Aj v2 v1).bind fun y5=>
  some (.inl ((IntKind.i64.wrap (v1+1)),(v2.set (v1).toNat v4)))
 else
  some (.inr (some v2))
def U4 (a0:List Ci):Option (List Ci):=
 A0 (0≤(a0.length:Int)∧(a0.length:Int)*40≤140737488355328∧(a0.length:Int)≤140737488355328)<|
 Aq (fun s:Int × List Ci=>QW a0 s.1 s.2) (0,(List.replicate ((a0.length:Int)).toNat (⟨false, [],0⟩:Ci)))
def Wx (a0:BH):Option (BH):=
 (U4 a0.au).bind fun v1=>
 some (⟨v1,a0.bc,a0.bf⟩:BH)
def Q5 (a0:List BH) (v1:Int) (v2:List BH):Option ((Int × List BH) ⊕ Option (List BH)):=
 if(decide (v1<(a0.length:Int)))then
  (Aj a0 v1).bind fun y3=>
  (Wx y3).bind fun v4=>
  (Aj v2 v1).bind fun y5=>
  some (.inl ((IntKind.i64.wrap (v1+1)),(v2.set (v1).toNat v4)))
 else
  some (.inr (some v2))
def Vo (a0:List BH):Option (List BH):=
 A0 (0≤(a0.length:Int)∧(a0.length:Int)*40≤140737488355328∧(a0.length:Int)≤140737488355328)<|
 Aq (fun s:Int × List BH=>Q5 a0 s.1 s.2) (0,(List.replicate ((a0.length:Int)).toNat (⟨[],0,0⟩:BH)))
def cB (a0:AU):Option (AU):=
 some a0
def Q1 (a0:List AU) (v1:Int) (v2:List AU):Option ((Int × List AU) ⊕ Option (List AU)):=
 if(decide (v1<(a0.length:Int)))then
  (Aj a0 v1).bind fun y3=>
  (cB y3).bind fun v4=>
  (Aj v2 v1).bind fun y5=>
  some (.inl ((IntKind.i64.wrap (v1+1)),(v2.set (v1).toNat v4)))
 else
  some (.inr (some v2))
def VJ (a0:List AU):Option (List AU):=
 A0 (0≤(a0.length:Int)∧(a0.length:Int)*32≤140737488355328∧(a0.length:Int)≤140737488355328)<|
 Aq (fun s:Int × List AU=>Q1 a0 s.1 s.2) (0,(List.replicate ((a0.length:Int)).toNat (⟨([]:Af),0,false⟩:AU)))
def Rb (a0:List (List AU)) (v1:Int) (v2:List (List AU)):Option ((Int × List (List AU)) ⊕ Option (List (List AU))):=
 if(decide (v1<(a0.length:Int)))then
  (Aj a0 v1).bind fun y3=>
  (VJ y3).bind fun v4=>
  (Aj v2 v1).bind fun y5=>
  some (.inl ((IntKind.i64.wrap (v1+1)),(v2.set (v1).toNat v4)))
 else
  some (.inr (some v2))
def Vc (a0:List (List AU)):Option (List (List AU)):=
 A0 (0≤(a0.length:Int)∧(a0.length:Int)*24≤140737488355328∧(a0.length:Int)≤140737488355328)<|
 Aq (fun s:Int × List (List AU)=>Rb a0 s.1 s.2) (0,(List.replicate ((a0.length:Int)).toNat []))
def dH (a0:Ar):Option (Ar):=
 some a0
def Rl (a0:List Ar) (v1:Int) (v2:List Ar):Option ((Int × List Ar) ⊕ Option (List Ar)):=
 if(decide (v1<(a0.length:Int)))then
  (Aj a0 v1).bind fun y3=>
  (dH y3).bind fun v4=>
  (Aj v2 v1).bind fun y5=>
  some (.inl ((IntKind.i64.wrap (v1+1)),(v2.set (v1).toNat v4)))
 else
  some (.inr (some v2))
def WI (a0:List Ar):Option (List Ar):=
 A0 (0≤(a0.length:Int)∧(a0.length:Int)*48≤140737488355328∧(a0.length:Int)≤140737488355328)<|
 Aq (fun s:Int × List Ar=>Rl a0 s.1 s.2) (0,(List.replicate ((a0.length:Int)).toNat (⟨0,([]:Af),([]:Af),0⟩:Ar)))
def cP (a0:BA):Option (BA):=
 some a0
def Rm (a0:List BA) (v1:Int) (v2:List BA):Option ((Int × List BA) ⊕ Option (List BA)):=
 if(decide (v1<(a0.length:Int)))then
  (Aj a0 v1).bind fun y3=>
  (cP y3).bind fun v4=>
  (Aj v2 v1).bind fun y5=>
  some (.inl ((IntKind.i64.wrap (v1+1)),(v2.set (v1).toNat v4)))
 else
  some (.inr (some v2))
def RU (a0:List BA):Option (List BA):=
 A0 (0≤(a0.length:Int)∧(a0.length:Int)*40≤140737488355328∧(a0.length:Int)≤140737488355328)<|
 Aq (fun s:Int × List BA=>Rm a0 s.1 s.2) (0,(List.replicate ((a0.length:Int)).toNat (⟨([]:Af),([]:Af),false⟩:BA)))
def U9 (a0:B7):Option (B7):=
 (WI a0.dq).bind fun v1=>
 (RU a0.bp).bind fun v2=>
 (Om a0.cb).bind fun v3=>
 some (⟨v1,v2,v3,a0.cu,a0.ej,a0.dn,a0.bq,a0.ia,a0.jh,a0.ew⟩:B7)
def QK (a0:List B7) (v1:Int) (v2:List B7):Option ((Int × List B7) ⊕ Option (List B7)):=
 if(decide (v1<(a0.length:Int)))then
  (Aj a0 v1).bind fun y3=>
  (U9 y3).bind fun v4=>
  (Aj v2 v1).bind fun y5=>
  some (.inl ((IntKind.i64.wrap (v1+1)),(v2.set (v1).toNat v4)))
 else
  some (.inr (some v2))
def UA (a0:List B7):Option (List B7):=
 A0 (0≤(a0.length:Int)∧(a0.length:Int)*112≤140737488355328∧(a0.length:Int)≤140737488355328)<|
 Aq (fun s:Int × List B7=>QK a0 s.1 s.2) (0,(List.replicate ((a0.length:Int)).toNat (⟨[], [], [],0,0,false,0,false,false,false⟩:B7)))
def Uy (a0:BK):Option (BK):=
 (K2 a0.bm).bind fun v1=>
 (RU a0.bp).bind fun v2=>
 some (⟨a0.dw,v1,v2,a0.bq,a0.cu,a0.ej⟩:BK)
def QO (a0:List BK) (v1:Int) (v2:List BK):Option ((Int × List BK) ⊕ Option (List BK)):=
 if(decide (v1<(a0.length:Int)))then
  (Aj a0 v1).bind fun y3=>
  (Uy y3).bind fun v4=>
  (Aj v2 v1).bind fun y5=>
  some (.inl ((IntKind.i64.wrap (v1+1)),(v2.set (v1).toNat v4)))
 else
  some (.inr (some v2))
def Up (a0:List BK):Option (List BK):=
 A0 (0≤(a0.length:Int)∧(a0.length:Int)*80≤140737488355328∧(a0.length:Int)≤140737488355328)<|
 Aq (fun s:Int × List BK=>QO a0 s.1 s.2) (0,(List.replicate ((a0.length:Int)).toNat (⟨0, [], [],0,0,0⟩:BK)))
def Wy (a0:By):Option (By):=
 (VZ a0.ax).bind fun v1=>
 (K2 a0.a7).bind fun v2=>
 (Vo a0.aw).bind fun v3=>
 (Vc a0.bu).bind fun v4=>
 (Om a0.a8).bind fun v5=>
 (UA a0.bj).bind fun v6=>
 (Up a0.bh).bind fun v7=>
 some (⟨a0.gi,a0.bz,v1,v2,v3,v4,v5,v6,v7⟩:By)
def Ok (a0:Cz):Option (Cz):=
 (Vm a0.ch).bind fun v1=>
 (Om a0.a6).bind fun v2=>
 (U3 a0.bw).bind fun v3=>
 (Wy a0.aq).bind fun v4=>
 some (⟨a0.ab,v1,a0.ga,v2,v3,v4⟩:Cz)
def aF (a0:Af) (a1:Int):Option (Bool):=
 some ((decide ((a0.length:Int)≥1))&&(decide ((a0.length:Int)≤a1)))
def aE (a0:Af) (a1 v1:Int):Option ((Int) ⊕ Option (Bool)):=
 if(decide (v1<(a0.length:Int)))then
  (Aj a0 v1).bind fun y2=>
  if((decide ((y2.toNat:Int)<97))||(decide ((y2.toNat:Int)>122)))then
   some (.inr (some false))
  else
   some (.inl (IntKind.i64.wrap (v1+1)))
 else
  some (.inr (aF a0 a1))
def NO (a0:Af) (a1:Int):Option (Bool):=
 Aq (fun s:Int=>aE a0 a1 s) 0
def bU (a0:List (Af)) (a1:Af) (v1:Int):Option ((Int) ⊕ Option (Int)):=
 if(decide (v1<(a0.length:Int)))then
  (Aj a0 v1).bind fun y2=>
  if(y2==a1)then
   some (.inr (some v1))
  else
   some (.inl (IntKind.i64.wrap (v1+1)))
 else
  some (.inr (some (-1)))
def WR (a0:List (Af)) (a1:Af):Option (Int):=
 Aq (fun s:Int=>bU a0 a1 s) 0
def Cl (a0 a1 a2:Int):Option (Bool):=
 some ((decide (a0≥a1))&&(decide (a0≤a2)))
def aN (a0:List (Af)):Option (Bool):=
 (Cl (a0.length:Int) 2 4).bind fun v1=>
 some v1
def aP (a0:List (Af)) (v2:Int):Option ((Int) ⊕ Option (Bool)):=
 if(decide (v2<(a0.length:Int)))then
  (Aj a0 v2).bind fun y3=>
  (NO y3 3).bind fun v4=>
  if v4 then
   A0 (0≤(0:Int)∧(0:Int)≤v2∧v2≤(a0.length:Int))<|
   (WR (Eh a0 0 v2) y3).bind fun v5=>
   if(decide (v5≥0))then
    some (.inr (some false))
   else
    some (.inl (IntKind.i64.wrap (v2+1)))
  else
   some (.inr (some false))
 else
  some (.inr (aN a0))
def Wr (a0:List (Af)):Option (Bool):=
 Aq (fun s:Int=>aP a0 s) 0
def Uq (a0:Ai) (v3:Int):Option ((Int) ⊕ Option (Bool)):=
 if(decide (v3<(a0.ae.length:Int)))then
  (Aj a0.ae v3).bind fun y4=>
  (NO y4.ab 1).bind fun v5=>
  if v5 then
   (Cl y4.cw 1 (IntKind.i64.wrap ((a0.ak.length:Int)-1))).bind fun v6=>
   if v6 then
    (Cl y4.ao 0 3).bind fun v7=>
    if(decide (v3>0))then
     if v7 then
      (Aj a0.ae (IntKind.i64.wrap (v3-1))).bind fun y8=>
      if(!Op.bytesLess y8.ab y4.ab)then
       some (.inr (some false))
      else
       some (.inl (IntKind.i64.wrap (v3+1)))
     else
      some (.inr (some false))
    else
     if((!v7)||false)then
      some (.inr (some false))
     else
      some (.inl (IntKind.i64.wrap (v3+1)))
   else
    some (.inr (some false))
  else
   some (.inr (some false))
 else
  some (.inr (some true))
def Mk (a0:Ai):Option (Bool):=
 (NO a0.ab 1).bind fun v1=>
 if v1 then
  (Wr a0.ak).bind fun v2=>
  if((!v2)||(decide ((a0.ae.length:Int)>3)))then
   some false
  else
   Aq (fun s:Int=>Uq a0 s) 0
 else
  some false
def bE (a0:Ai) (a1:Af) (v1:Int):Option ((Int) ⊕ Option (Int)):=
 if(decide (v1<(a0.ae.length:Int)))then
  (Aj a0.ae v1).bind fun y2=>
  if(y2.ab==a1)then
   some (.inr (some v1))
  else
   some (.inl (IntKind.i64.wrap (v1+1)))
 else
  some (.inr (some (-1)))
def Mm (a0:Ai) (a1:Af):Option (Int):=
 Aq (fun s:Int=>bE a0 a1 s) 0
def RV (a0:Ai) (a1:Af):Option (AI × Bool):=
 (Mm a0 a1).bind fun v1=>
 (Mk a0).bind fun v2=>
 if((!v2)||(decide (v1<0)))then
  some ((⟨([]:Af),0,0⟩:AI),false)
 else
  (Aj a0.ae v1).bind fun y3=>
  some (y3,true)
def Og (a0:Ai) (a1:Af) (a2:Int):Option (Bool):=
 (Mk a0).bind fun v1=>
 if v1 then
  (Mm a0 a1).bind fun v2=>
  if(decide (v2≥0))then
   (Cl a2 0 3).bind fun v3=>
   some v3
  else
   some false
 else
  some false
def RE (a0:Ai):Option (Ai):=
 A0 (((([]:List (Af)).length:Int)+((a0.ak).length:Int))*16≤140737488355328∧(([]:List (Af)).length:Int)+((a0.ak).length:Int)≤140737488355328)<|
 A0 (((([]:List AI).length:Int)+((a0.ae).length:Int))*32≤140737488355328∧(([]:List AI).length:Int)+((a0.ae).length:Int)≤140737488355328)<|
 some a0
def RO (a0:Ai) (a1:Af) (a2:Int):Option (Ai):=
 (RE a0).bind fun v1=>
 (Mm a0 a1).bind fun v2=>
 (Aj v1.ae v2).bind fun y3=>
 some (⟨v1.ab,v1.ak,(v1.ae.set (v2).toNat {y3 with ao:=a2})⟩:Ai)
def Rz (a0:Ai) (a1:Af) (a2 v4:Int) (v5:List Ai):Option ((Int × List Ai) ⊕ Option (List Ai)):=
 if(v4 !=a2)then
  if(decide (v4<a2))then
   (RO a0 a1 (IntKind.i64.wrap (v4+1))).bind fun v6=>
   A0 ((((v5).length:Int)+(([v6]:List Ai).length:Int))*64≤140737488355328∧((v5).length:Int)+(([v6]:List Ai).length:Int)≤140737488355328)<|
   some (.inl ((IntKind.i64.wrap (v4+1)),(v5++ [v6])))
  else
   (RO a0 a1 (IntKind.i64.wrap (v4-1))).bind fun v7=>
   A0 ((((v5).length:Int)+(([v7]:List Ai).length:Int))*64≤140737488355328∧((v5).length:Int)+(([v7]:List Ai).length:Int)≤140737488355328)<|
   some (.inl ((IntKind.i64.wrap (v4-1)),(v5++ [v7])))
 else
  some (.inr (some v5))
def V2 (a0:Ai) (a1:Af) (a2:Int):Option (List Ai):=
 (RE a0).bind fun v1=>
 (Mm a0 a1).bind fun v2=>
 (Aj a0.ae v2).bind fun y3=>
 Aq (fun s:Int × List Ai=>Rz a0 a1 a2 s.1 s.2) (y3.ao, [v1])
def Ou (a0:Ai) (a1:Af) (a2:Int):Option (List Ai × Bool):=
 (Og a0 a1 a2).bind fun v1=>
 if(!v1)then
  some ([],false)
 else
  (V2 a0 a1 a2).bind fun v2=>
  some (v2,true)
def Q0 (a0:List (Af)) (a1:List (Af)) (v1:Int):Option ((Int) ⊕ Option (Bool)):=
 if(decide (v1<(a0.length:Int)))then
  (Aj a0 v1).bind fun y2=>
  (Aj a1 v1).bind fun y3=>
  if(y2 !=y3)then
   some (.inr (some false))
  else
   some (.inl (IntKind.i64.wrap (v1+1)))
 else
  some (.inr (some true))
def VN (a0:List (Af)) (a1:List (Af)):Option (Bool):=
 if((a0.length:Int) !=(a1.length:Int))then
  some false
 else
  Aq (fun s:Int=>Q0 a0 a1 s) 0
def NC (a0 a1:Ai) (v2:Int):Option ((Int) ⊕ Option (Bool)):=
 if(decide (v2<(a0.ae.length:Int)))then
  (Aj a0.ae v2).bind fun y3=>
  (Aj a1.ae v2).bind fun y4=>
  if(!(y3.ab==y4.ab&&(y3.cw==y4.cw&&(y3.ao==y4.ao))))then
   some (.inr (some false))
  else
   some (.inl (IntKind.i64.wrap (v2+1)))
 else
  some (.inr (some true))
def QU (a0 a1:Ai):Option (Bool):=
 if(a0.ab !=a1.ab)then
  some false
 else
  (VN a0.ak a1.ak).bind fun v1=>
  if((!v1)||((a0.ae.length:Int) !=(a1.ae.length:Int)))then
   some false
  else
   Aq (fun s:Int=>NC a0 a1 s) 0
def NP (a0:List Ai) (v4:List Ai × Bool) (v5:Int):Option ((Int) ⊕ Option (Bool)):=
 if(decide (v5<(v4.1.length:Int)))then
  (Aj v4.1 v5).bind fun y6=>
  (Aj a0 v5).bind fun y7=>
  (QU y6 y7).bind fun v8=>
  if(!v8)then
   some (.inr (some false))
  else
   some (.inl (IntKind.i64.wrap (v5+1)))
 else
  some (.inr (some true))
def VH (a0:List Ai) (a1:Af):Option (Bool):=
 if((a0.length:Int) !=4)then
  some false
 else
  (Aj a0 0).bind fun y1=>
  (Mk y1).bind fun v2=>
  if(!v2)then
   some false
  else
   (RV y1 a1).bind fun v3=>
   (Ou y1 a1 3).bind fun v4=>
   if((((!v3.2)||(!v4.2))||(v3.1.ao !=0))||((v4.1.length:Int) !=4))then
    some false
   else
    Aq (fun s:Int=>NP a0 v4 s) 0
def Ob (a0:List Int) (a1 a2 v1:Int):Option ((Int) ⊕ Option (Bool)):=
 if(decide (v1<(a0.length:Int)))then
  (Aj a0 v1).bind fun y2=>
  (Cl y2 a1 a2).bind fun v3=>
  if(!v3)then
   some (.inr (some false))
  else
   some (.inl (IntKind.i64.wrap (v1+1)))
 else
  some (.inr (some true))
def Oo (a0:List Int) (a1 a2:Int):Option (Bool):=
 Aq (fun s:Int=>Ob a0 a1 a2 s) 0
def aR (v1:Int) (v3:Bool):Option ((Int) ⊕ Option (Bool)):=
 if(!v3)then
  some (.inr (some false))
 else
  some (.inl (IntKind.i64.wrap (v1+1)))
def Q2 (a1:Af) (v1:Int) (y2:UInt8) (v4:Bool) (v5:Int):Option ((Bool × Int) ⊕ Option ((Int) ⊕ Option (Bool))):=
 if(decide (v5<(a1.length:Int)))then
  if v4 then
   some (.inl (true,(IntKind.i64.wrap (v5+1))))
  else
   (Aj a1 v5).bind fun y6=>
   some (.inl (((y2.toNat:Int)==(y6.toNat:Int)),(IntKind.i64.wrap (v5+1))))
 else
  some (.inr (aR v1 v4))
def aX (a0 a1:Af) (v1:Int):Option ((Int) ⊕ Option (Bool)):=
 if(decide (v1<(a0.length:Int)))then
  (Aj a0 v1).bind fun y2=>
  Aq (fun s:Bool × Int=>Q2 a1 v1 y2 s.1 s.2) ((((decide ((y2.toNat:Int)≥97))&&(decide ((y2.toNat:Int)≤122)))||((decide ((y2.toNat:Int)≥48))&&(decide ((y2.toNat:Int)≤57)))),0)
 else
  some (.inr (some true))
def Oi (a0 a1:Af):Option (Bool):=
 Aq (fun s:Int=>aX a0 a1 s) 0
def IS (a0:Af):Option (Bool):=
 (Cl (a0.length:Int) 1 12).bind fun v1=>
 if v1 then
  (Oi a0 ([46,47]:Af)).bind fun v2=>
  some v2
 else
  some false
def bB (a0:List (Af)):Option (Bool):=
 some (decide ((a0.length:Int)<4))
def N8 (a0:List (Af)) (v1:Int):Option ((Int) ⊕ Option (Bool)):=
 if(decide (v1<(a0.length:Int)))then
  (Aj a0 v1).bind fun y2=>
  (IS y2).bind fun v3=>
  if(decide (v1>0))then
   if v3 then
    (Aj a0 (IntKind.i64.wrap (v1-1))).bind fun y4=>
    if(!Op.bytesLess y4 y2)then
     some (.inr (some false))
    else
     some (.inl (IntKind.i64.wrap (v1+1)))
   else
    some (.inr (some false))
  else
   if((!v3)||false)then
    some (.inr (some false))
   else
    some (.inl (IntKind.i64.wrap (v1+1)))
 else
  some (.inr (bB a0))
def VM (a0:List (Af)):Option (Bool):=
 Aq (fun s:Int=>N8 a0 s) 0
def RF (a0:Int):Option (Bool):=
 (Cl a0 1 100000).bind fun v1=>
 some v1
def bF (a0:List (Af)):Option (Bool):=
 some (decide ((a0.length:Int)≤8))
def NH (a0:List (Af)) (v1:Int):Option ((Int) ⊕ Option (Bool)):=
 if(decide (v1<(a0.length:Int)))then
  (Aj a0 v1).bind fun y2=>
  (IS y2).bind fun v3=>
  if(decide (v1>0))then
   if v3 then
    (Aj a0 (IntKind.i64.wrap (v1-1))).bind fun y4=>
    if(!Op.bytesLess y4 y2)then
     some (.inr (some false))
    else
     some (.inl (IntKind.i64.wrap (v1+1)))
   else
    some (.inr (some false))
  else
   if((!v3)||false)then
    some (.inr (some false))
   else
    some (.inl (IntKind.i64.wrap (v1+1)))
 else
  some (.inr (bF a0))
def Wh (a0:List (Af)):Option (Bool):=
 Aq (fun s:Int=>NH a0 s) 0
def On (a0:Af):Option (Bool):=
 if(decide ((a0.length:Int)≤24))then
  (Oi a0 ([46,45,44,95]:Af)).bind fun v1=>
  some v1
 else
  some false
def VO (a0 a1:Af) (a2:Bool):Option (Bool):=
 (IS a0).bind fun v1=>
 if v1 then
  (On a1).bind fun v2=>
  some (v2&&((!a2)||(a1==([]:Af))))
 else
  some false
def aJ (a0:List A7):Option (Bool):=
 some (decide ((a0.length:Int)≤24))
def aT (a0:List A7) (v1:Int):Option ((Int) ⊕ Option (Bool)):=
 if(decide (v1<(a0.length:Int)))then
  (Aj a0 v1).bind fun y2=>
  (VO y2.aj y2.bd y2.dh).bind fun v3=>
  if(decide (v1>0))then
   if v3 then
    (Aj a0 (IntKind.i64.wrap (v1-1))).bind fun y4=>
    if(!Op.bytesLess y4.aj y2.aj)then
     some (.inr (some false))
    else
     some (.inl (IntKind.i64.wrap (v1+1)))
   else
    some (.inr (some false))
  else
   if((!v3)||false)then
    some (.inr (some false))
   else
    some (.inl (IntKind.i64.wrap (v1+1)))
 else
  some (.inr (aJ a0))
def Vf (a0:List A7):Option (Bool):=
 Aq (fun s:Int=>aT a0 s) 0
def UQ (a0:Dz) (v7:Bool):Option (Bool):=
 if v7 then
  (Cl a0.ct 1 60).bind fun v8=>
  if a0.dn then
   if v8 then
    (RF a0.bq).bind fun v9=>
    some (v9||false)
   else
    some false
  else
   some (v8&&(a0.bq==0))
 else
  if(a0.af==4)then
   if(a0.ct==0)then
    (RF a0.bq).bind fun v10=>
    some (v10&&(!a0.dn))
   else
    some false
  else
   some false
def cC (a0:Dz):Option (Bool):=
 if((a0.af !=1)&&((a0.bf !=0)||(decide ((IntKind.i64.wrap ((a0.bg.length:Int)+(a0.ay.length:Int)))>0))))then
  some false
 else
  if(a0.af==1)then
   (Cl a0.ct 1 60).bind fun v1=>
   if v1 then
    (RF a0.bq).bind fun v2=>
    if v2 then
     (Cl a0.bf 0 3).bind fun v3=>
     if v3 then
      (Wh a0.bg).bind fun v4=>
      if v4 then
       (Vf a0.ay).bind fun v5=>
       if v5 then
        (Cl (a0.ay.length:Int) 0 8).bind fun v6=>
        some ((v6&&(decide ((IntKind.i64.wrap ((a0.bg.length:Int)+(a0.ay.length:Int)))>0)))&&(!a0.dn))
       else
        some false
      else
       some false
     else
      some false
    else
     some false
   else
    some false
  else
   if(a0.af==2)then
    UQ a0 (a0.af==2)
   else
    UQ a0 (a0.af==3)
def Wl (a0:Dz):Option (Bool):=
 (cC a0).bind fun v1=>
 some v1
def Nw (a0:Ci) (a1 v2 v3:Int):Option ((Int × Int) ⊕ Option (Bool)):=
 if(decide (v3<(a0.cj.length:Int)))then
  (Aj a0.cj v3).bind fun y4=>
  (Cl y4.bc v2 a1).bind fun v5=>
  if v5 then
   (Wl y4.db).bind fun v6=>
   if(!v6)then
    some (.inr (some false))
   else
    some (.inl (y4.bc,(IntKind.i64.wrap (v3+1))))
  else
   some (.inr (some false))
 else
  some (.inr (some true))
def Rw (a0:Ci) (a1:Int):Option (Bool):=
 if(decide ((a0.cj.length:Int)>60))then
  some false
 else
  (Cl a0.fh 0 (a0.cj.length:Int)).bind fun v1=>
  if(!v1)then
   some false
  else
   Aq (fun s:Int × Int=>Nw a0 a1 s.1 s.2) (1,0)
def Z9 (a0:BH):Option (Bool):=
 if(decide (a0.bf<0))then
  some true
 else
  (Aj a0.au a0.bf).bind fun y3=>
  some y3.j5
def QS (a0:BH) (v4:Int):Option ((Int) ⊕ Option (Bool)):=
 if(decide (v4<(a0.au.length:Int)))then
  (Aj a0.au v4).bind fun y5=>
  (Rw y5 a0.bc).bind fun v6=>
  if(!v6)then
   some (.inr (some false))
  else
   some (.inl (IntKind.i64.wrap (v4+1)))
 else
  some (.inr (Z9 a0))
def aC (a0:BH):Option (Bool):=
 if(decide (a0.bf<0))then
  some true
 else
  (Aj a0.au a0.bf).bind fun y9=>
  some y9.j5
def QR (a0:BH) (v10:Int):Option ((Int) ⊕ Option (Bool)):=
 if(decide (v10<(a0.au.length:Int)))then
  (Aj a0.au v10).bind fun y11=>
  (Rw y11 a0.bc).bind fun v12=>
  if(!v12)then
   some (.inr (some false))
  else
   some (.inl (IntKind.i64.wrap (v10+1)))
 else
  some (.inr (aC a0))
def UH (a0:BH):Option (Bool):=
 if((a0.au.length:Int) !=3)then
  if((a0.au.length:Int) !=5)then
   some false
  else
   (Cl a0.bc 0 200).bind fun v1=>
   if v1 then
    (Cl a0.bf (-1) (IntKind.i64.wrap ((a0.au.length:Int)-1))).bind fun v2=>
    if(!v2)then
     some false
    else
     Aq (fun s:Int=>QS a0 s) 0
   else
    some false
 else
  (Cl a0.bc 0 200).bind fun v7=>
  if v7 then
   (Cl a0.bf (-1) (IntKind.i64.wrap ((a0.au.length:Int)-1))).bind fun v8=>
   if(!v8)then
    some false
   else
    Aq (fun s:Int=>QR a0 s) 0
  else
   some false
def VV (a0:AU):Option (Bool):=
 (IS a0.aj).bind fun v1=>
 if v1 then
  (Cl a0.ct 1 60).bind fun v2=>
  some v2
 else
  some false
def Vv (a0 a1:AU):Option (Bool):=
 some (((a0.aj==a1.aj)&&(a0.ct !=a1.ct))&&(a0.dk||a1.dk))
def aV (a0:List AU):Option (Bool):=
 some (decide ((a0.length:Int)≤60))
def Va (v1:Int):Option ((Int) ⊕ Option (Bool)):=
 some (.inl (IntKind.i64.wrap (v1+1)))
def Mh (a0:List AU) (v1:Int) (y2:AU) (v4:Int):Option ((Int) ⊕ Option ((Int) ⊕ Option (Bool))):=
 if(decide (v4<((Eh a0 0 v1).length:Int)))then
  (Aj (Eh a0 0 v1) v4).bind fun y5=>
  if(y2.aj==y5.aj)then
   if(y2.ct==y5.ct)then
    some (.inr (some (.inr (some false))))
   else
    (Vv y2 y5).bind fun v6=>
    if v6 then
     some (.inr (some (.inr (some false))))
    else
     some (.inl (IntKind.i64.wrap (v4+1)))
  else
   (Vv y2 y5).bind fun v7=>
   if v7 then
    some (.inr (some (.inr (some false))))
   else
    some (.inl (IntKind.i64.wrap (v4+1)))
 else
  some (.inr (Va v1))
def NW (a0:List AU) (v1:Int):Option ((Int) ⊕ Option (Bool)):=
 if(decide (v1<(a0.length:Int)))then
  (Aj a0 v1).bind fun y2=>
  (VV y2).bind fun v3=>
  if(!v3)then
   some (.inr (some false))
  else
   A0 (0≤(0:Int)∧(0:Int)≤v1∧v1≤(a0.length:Int))<|
   Aq (fun s:Int=>Mh a0 v1 y2 s) 0
 else
  some (.inr (aV a0))
def VK (a0:List AU):Option (Bool):=
 Aq (fun s:Int=>NW a0 s) 0
def bS (a0:CL):Option (Bool):=
 (Cl a0.ff (-5) 5).bind fun v1=>
 some v1
def VE (a0:Ar) (v2:Bool):Option (Bool):=
 if v2 then
  (On a0.bd).bind fun v3=>
  some (v3&&(a0.gg==0))
 else
  if(a0.af==4)then
   if(a0.af==4)then
    if(a0.bd==([]:Af))then
     (Cl a0.gg (-9999) 9999).bind fun v4=>
     some v4
    else
     some false
   else
    some (((((a0.af==1)||(a0.af==3))||(a0.af==6))&&(a0.bd==([]:Af)))&&(a0.gg==0))
  else
   if(a0.af==5)then
    if(a0.bd==([]:Af))then
     (Cl a0.gg (-9999) 9999).bind fun v5=>
     some v5
    else
     some false
   else
    some (((((a0.af==1)||(a0.af==3))||(a0.af==6))&&(a0.bd==([]:Af)))&&(a0.gg==0))
def WT (a0:Ar):Option (Bool):=
 (IS a0.aj).bind fun v1=>
 if(!v1)then
  some false
 else
  if(a0.af==2)then
   VE a0 (a0.af==2)
  else
   VE a0 (a0.af==7)
def bG (a0:List Ar):Option (Bool):=
 some (decide ((a0.length:Int)≤8))
def NL (a0:List Ar) (v1:Int):Option ((Int) ⊕ Option (Bool)):=
 if(decide (v1<(a0.length:Int)))then
  (Aj a0 v1).bind fun y2=>
  (WT y2).bind fun v3=>
  if(!v3)then
   some (.inr (some false))
  else
   some (.inl (IntKind.i64.wrap (v1+1)))
 else
  some (.inr (bG a0))
def Wg (a0:List Ar):Option (Bool):=
 Aq (fun s:Int=>NL a0 s) 0
def bC (a0:List BA):Option (Bool):=
 some (decide ((a0.length:Int)≤8))
def UX (v1:Int):Option ((Int) ⊕ Option (Bool)):=
 some (.inl (IntKind.i64.wrap (v1+1)))
def Mj (a0:List BA) (v1:Int) (y2:BA) (v5:Int):Option ((Int) ⊕ Option ((Int) ⊕ Option (Bool))):=
 if(decide (v5<((Eh a0 0 v1).length:Int)))then
  (Aj (Eh a0 0 v1) v5).bind fun y6=>
  if(y2.aj==y6.aj)then
   some (.inr (some (.inr (some false))))
  else
   some (.inl (IntKind.i64.wrap (v5+1)))
 else
  some (.inr (UX v1))
def NI (a0:List BA) (v1:Int):Option ((Int) ⊕ Option (Bool)):=
 if(decide (v1<(a0.length:Int)))then
  (Aj a0 v1).bind fun y2=>
  (IS y2.aj).bind fun v3=>
  if v3 then
   (On y2.bd).bind fun v4=>
   if((!v4)||((!y2.di)&&(y2.bd !=([]:Af))))then
    some (.inr (some false))
   else
    A0 (0≤(0:Int)∧(0:Int)≤v1∧v1≤(a0.length:Int))<|
    Aq (fun s:Int=>Mj a0 v1 y2 s) 0
  else
   some (.inr (some false))
 else
  some (.inr (bC a0))
def RS (a0:List BA):Option (Bool):=
 Aq (fun s:Int=>NI a0 s) 0
def RG (a0:Int):Option (Bool):=
 (Cl a0 0 100000).bind fun v1=>
 some v1
def V9 (a0:By) (a1:B7):Option (Bool):=
 (Wg a1.dq).bind fun v1=>
 if v1 then
  if(decide ((a1.dq.length:Int)>0))then
   (RS a1.bp).bind fun v2=>
   if v2 then
    if((a1.cb.length:Int)==(a0.aw.length:Int))then
     (Oo a1.cb 0 200).bind fun v3=>
     if v3 then
      (Cl a1.cu (-1) a0.bz).bind fun v4=>
      if v4 then
       (Cl a1.ej (-1) a0.bz).bind fun v5=>
       if v5 then
        (RG a1.bq).bind fun v6=>
        some v6
       else
        some false
      else
       some false
     else
      some false
    else
     some false
   else
    some false
  else
   some false
 else
  some false
def aO (a0:List (Af)):Option (Bool):=
 (Cl (a0.length:Int) 1 8).bind fun v1=>
 some v1
def NV (a0:List (Af)) (v2:Int):Option ((Int) ⊕ Option (Bool)):=
 if(decide (v2<(a0.length:Int)))then
  (Aj a0 v2).bind fun y3=>
  (IS y3).bind fun v4=>
  if(decide (v2>0))then
   if v4 then
    (Aj a0 (IntKind.i64.wrap (v2-1))).bind fun y5=>
    if(!Op.bytesLess y5 y3)then
     some (.inr (some false))
    else
     some (.inl (IntKind.i64.wrap (v2+1)))
   else
    some (.inr (some false))
  else
   if((!v4)||false)then
    some (.inr (some false))
   else
    some (.inl (IntKind.i64.wrap (v2+1)))
 else
  some (.inr (aO a0))
def VT (a0:List (Af)):Option (Bool):=
 Aq (fun s:Int=>NV a0 s) 0
def aM (a0:By) (a1:BK):Option (Bool):=
 (Cl a1.dw 0 (IntKind.i64.wrap ((a0.ax.length:Int)-1))).bind fun v3=>
 if v3 then
  (RG a1.bq).bind fun v4=>
  if v4 then
   (Cl a1.cu (-1) a0.bz).bind fun v5=>
   if v5 then
    (Cl a1.ej (-1) a0.bz).bind fun v6=>
    some v6
   else
    some false
  else
   some false
 else
  some false
def NR (a0:By) (a1:BK) (v7:Int):Option ((Int) ⊕ Option (Bool)):=
 if(decide (v7<(a1.bp.length:Int)))then
  (Aj a1.bp v7).bind fun y8=>
  (Aj a1.bm v7).bind fun y9=>
  if(y8.aj !=y9)then
   some (.inr (some false))
  else
   some (.inl (IntKind.i64.wrap (v7+1)))
 else
  some (.inr (aM a0 a1))
def VI (a0:By) (a1:BK):Option (Bool):=
 (VT a1.bm).bind fun v1=>
 if v1 then
  if(decide ((a1.bp.length:Int)>(a1.bm.length:Int)))then
   some false
  else
   (RS a1.bp).bind fun v2=>
   if(!v2)then
    some false
   else
    Aq (fun s:Int=>NR a0 a1 s) 0
 else
  some false
def aL (a0:By):Option (Bool):=
 (RG a0.gi).bind fun v3=>
 if v3 then
  (Cl a0.bz 0 1000000).bind fun v4=>
  some ((v4&&(decide ((a0.bj.length:Int)≤6)))&&(decide ((a0.bh.length:Int)≤4)))
 else
  some false
def NS (a0:By) (v5:Int):Option ((Int) ⊕ Option (Bool)):=
 if(decide (v5<(a0.bh.length:Int)))then
  (Aj a0.bh v5).bind fun y6=>
  (VI a0 y6).bind fun v7=>
  if(!v7)then
   some (.inr (some false))
  else
   some (.inl (IntKind.i64.wrap (v5+1)))
 else
  some (.inr (aL a0))
def aQ (a0:By):Option (Bool):=
 Aq (fun s:Int=>NS a0 s) 0
def NQ (a0:By) (v8:Int):Option ((Int) ⊕ Option (Bool)):=
 if(decide (v8<(a0.bj.length:Int)))then
  (Aj a0.bj v8).bind fun y9=>
  (V9 a0 y9).bind fun v10=>
  if(!v10)then
   some (.inr (some false))
  else
   some (.inl (IntKind.i64.wrap (v8+1)))
 else
  some (.inr (aQ a0))
def bA (a0:By):Option (Bool):=
 Aq (fun s:Int=>NQ a0 s) 0
def NT (a0:By) (v11:Int):Option ((Int) ⊕ Option (Bool)):=
 if(decide (v11<(a0.ax.length:Int)))then
  (Aj a0.ax v11).bind fun y12=>
  (bS y12).bind fun v13=>
  if(!v13)then
   some (.inr (some false))
  else
   some (.inl (IntKind.i64.wrap (v11+1)))
 else
  some (.inr (bA a0))
def aW (a0:By):Option (Bool):=
 Aq (fun s:Int=>NT a0 s) 0
def Oa (a0:By) (v14:Int):Option ((Int) ⊕ Option (Bool)):=
 if(decide (v14<(a0.aw.length:Int)))then
  (Aj a0.aw v14).bind fun y15=>
  (UH y15).bind fun v16=>
  if v16 then
   if((y15.au.length:Int) !=3)then
    some (.inr (some false))
   else
    (Aj a0.bu v14).bind fun y17=>
    (VK y17).bind fun v18=>
    if(!v18)then
     some (.inr (some false))
    else
     some (.inl (IntKind.i64.wrap (v14+1)))
  else
   some (.inr (some false))
 else
  some (.inr (aW a0))
def VR (a0:By):Option (Bool):=
 (VM a0.a7).bind fun v1=>
 if v1 then
  if(decide ((IntKind.i64.wrap ((a0.a7.length:Int)+1))>3))then
   some false
  else
   if((a0.aw.length:Int) !=(IntKind.i64.wrap ((a0.a7.length:Int)+1)))then
    some false
   else
    if((a0.ax.length:Int) !=(IntKind.i64.wrap ((3:Int)*(IntKind.i64.wrap ((a0.a7.length:Int)+1)))))then
     some false
    else
     if((a0.bu.length:Int) !=(IntKind.i64.wrap ((a0.a7.length:Int)+1)))then
      some false
     else
      if((a0.a8.length:Int) !=(IntKind.i64.wrap ((a0.a7.length:Int)+1)))then
       some false
      else
       (Oo a0.a8 0 100000).bind fun v2=>
       if(!v2)then
        some false
       else
        Aq (fun s:Int=>Oa a0 s) 0
 else
  some false
def V0 (a0:BC):Option (Bool):=
 some ((a0.af==0)&&((IntKind.i64.wrap ((a0.ca.al.length:Int)+(a0.cm.al.length:Int)))==0))
def Vb (a0:Af):Option (Bool):=
 (Cl (a0.length:Int) 1 3).bind fun v1=>
 if v1 then
  (Oi a0 ([]:Af)).bind fun v2=>
  some v2
 else
  some false
def aZ (a0:Ai) (a1:BI):Option (Bool):=
 some ((a1.al.length:Int)==(a0.ak.length:Int))
def aY (a0:Ai) (a1:BI) (v1:Int):Option ((Int) ⊕ Option (Bool)):=
 if(decide (v1<(a1.al.length:Int)))then
  (Aj a1.al v1).bind fun y2=>
  (Vb y2).bind fun v3=>
  if(!v3)then
   some (.inr (some false))
  else
   some (.inl (IntKind.i64.wrap (v1+1)))
 else
  some (.inr (aZ a0 a1))
def K4 (a0:Ai) (a1:BI):Option (Bool):=
 Aq (fun s:Int=>aY a0 a1 s) 0
def NU (a0:List (Af)) (a1 v1:Af) (v2:Int):Option ((Af × Int) ⊕ Option (Af)):=
 if(decide (v2<(a0.length:Int)))then
  (Aj a0 v2).bind fun y3=>
  if(decide (v2>0))then
   A0 ((v1).length+(a1).length≤9223372036854775807)<|
   A0 (((v1++a1)).length+(y3).length≤9223372036854775807)<|
   some (.inl (((v1++a1)++y3),(IntKind.i64.wrap (v2+1))))
  else
   A0 ((v1).length+(y3).length≤9223372036854775807)<|
   some (.inl ((v1++y3),(IntKind.i64.wrap (v2+1))))
 else
  some (.inr (some v1))
def bM (a0:List (Af)) (a1:Af):Option (Af):=
 Aq (fun s:Af × Int=>NU a0 a1 s.1 s.2) (([]:Af),0)
def Mi (a0:Ai) (a1:BI):Option (A7):=
 A0 ((a0.ab).length+(([47]:Af)).length≤9223372036854775807)<|
 (Aj a1.al 0).bind fun y1=>
 A0 (((a0.ab++([47]:Af))).length+(y1).length≤9223372036854775807)<|
 A0 (0≤(1:Int)∧(1:Int)≤(a1.al.length:Int)∧(a1.al.length:Int)≤(a1.al.length:Int))<|
 (bM (Eh a1.al 1 (a1.al.length:Int)) ([44]:Af)).bind fun v2=>
 some (⟨((a0.ab++([47]:Af))++y1),v2,false⟩:A7)
def Oh (a0:Ai) (a1:AI) (a2:BI):Option (Af):=
 A0 ((a0.ab).length+(([46]:Af)).length≤9223372036854775807)<|
 A0 (((a0.ab++([46]:Af))).length+(a1.ab).length≤9223372036854775807)<|
 A0 ((((a0.ab++([46]:Af))++a1.ab)).length+(([47]:Af)).length≤9223372036854775807)<|
 (Aj a2.al a1.cw).bind fun y1=>
 A0 (((((a0.ab++([46]:Af))++a1.ab)++([47]:Af))).length+(y1).length≤9223372036854775807)<|
 A0 ((((((a0.ab++([46]:Af))++a1.ab)++([47]:Af))++y1)).length+(([47]:Af)).length≤9223372036854775807)<|
 (Aj a2.al 0).bind fun y2=>
 A0 (((((((a0.ab++([46]:Af))++a1.ab)++([47]:Af))++y1)++([47]:Af))).length+(y2).length≤9223372036854775807)<|
 some ((((((a0.ab++([46]:Af))++a1.ab)++([47]:Af))++y1)++([47]:Af))++y2)
def bO (a0:Ai) (a1:AI) (a2:BI):Option (List Ar):=
 (Mi a0 a2).bind fun v1=>
 (Oh a0 a1 a2).bind fun v2=>
 some [(⟨7,v1.aj,v1.bd,0⟩:Ar),(⟨2,v2,([]:Af),0⟩:Ar)]
def bT (a0:Ai) (a1:Af) (a2:BI):Option (List Ar × Bool):=
 (RV a0 a1).bind fun v1=>
 if v1.2 then
  (K4 a0 a2).bind fun v2=>
  if(!v2)then
   some ([],false)
  else
   (bO a0 v1.1 a2).bind fun v3=>
   some (v3,true)
 else
  some ([],false)
def VA (a0:Ai) (a1:BC):Option (Bool):=
 if(a1.af==1)then
  if((a1.ca.al.length:Int)==0)then
   (K4 a0 a1.cm).bind fun v1=>
   some v1
  else
   some false
 else
  if(a1.af==2)then
   if((a1.cm.al.length:Int)==0)then
    (K4 a0 a1.ca).bind fun v2=>
    some v2
   else
    some false
  else
   if(a1.af==3)then
    (K4 a0 a1.ca).bind fun v3=>
    if v3 then
     (K4 a0 a1.cm).bind fun v4=>
     if v4 then
      (Aj a1.ca.al 0).bind fun y5=>
      (Aj a1.cm.al 0).bind fun y6=>
      some (y5==y6)
     else
      some false
    else
     some false
   else
    some false
def bN (a0:Ai) (a1:BC):Option (Bool):=
 (Mk a0).bind fun v1=>
 if v1 then
  (VA a0 a1).bind fun v2=>
  some v2
 else
  some false
def VS (a0:Ai) (a1:BC):Option (List Ar):=
 if(a1.af==1)then
  (Mi a0 a1.cm).bind fun v1=>
  some [(⟨6,v1.aj,([]:Af),0⟩:Ar),(⟨2,v1.aj,v1.bd,0⟩:Ar)]
 else
  (Mi a0 a1.ca).bind fun v2=>
  if(a1.af==2)then
   some [(⟨7,v2.aj,v2.bd,0⟩:Ar),(⟨3,v2.aj,([]:Af),0⟩:Ar)]
  else
   (Mi a0 a1.cm).bind fun v3=>
   some [(⟨7,v2.aj,v2.bd,0⟩:Ar),(⟨2,v2.aj,v3.bd,0⟩:Ar)]
def UZ (a1:AI) (v2:Af) (v3:List Ar):Option (List Ar):=
 if((v2 !=([]:Af))&&(decide (a1.ao≥2)))then
  A0 ((((v3).length:Int)+(([(⟨2,v2,([]:Af),0⟩:Ar)]:List Ar).length:Int))*48≤140737488355328∧((v3).length:Int)+(([(⟨2,v2,([]:Af),0⟩:Ar)]:List Ar).length:Int)≤140737488355328)<|
  some (v3++ [(⟨2,v2,([]:Af),0⟩:Ar)])
 else
  some v3
def Ro (a1:AI) (v1 v2:Af):Option (List Ar):=
 if(((v1 !=([]:Af))&&(v1 !=v2))&&(decide (a1.ao≥1)))then
  A0 (((([]:List Ar).length:Int)+(([(⟨3,v1,([]:Af),0⟩:Ar)]:List Ar).length:Int))*48≤140737488355328∧(([]:List Ar).length:Int)+(([(⟨3,v1,([]:Af),0⟩:Ar)]:List Ar).length:Int)≤140737488355328)<|
  UZ a1 v2 [(⟨3,v1,([]:Af),0⟩:Ar)]
 else
  UZ a1 v2 []
def UU (a0:Ai) (a1:AI) (a2:BC) (v1:Af):Option (List Ar):=
 if(a2.af !=2)then
  (Oh a0 a1 a2.cm).bind fun v4=>
  Ro a1 v1 v4
 else
  Ro a1 v1 ([]:Af)
def RM (a0:Ai) (a1:AI) (a2:BC):Option (List Ar):=
 Tf (σ:=Af) (
  if(a2.af !=1)then
   (Oh a0 a1 a2.ca).bind fun v5=>
   some (.inl v5)
  else
   some (.inl ([]:Af))
 ) (fun s=>UU a0 a1 a2 s)
def NK (a0:Ai) (a1:BC) (v2:Int) (v3:List Ar):Option ((Int × List Ar) ⊕ Option (List Ar)):=
 if(decide (v2<(a0.ae.length:Int)))then
  (Aj a0.ae v2).bind fun y4=>
  (RM a0 y4 a1).bind fun v5=>
  A0 ((((v3).length:Int)+((v5).length:Int))*48≤140737488355328∧((v3).length:Int)+((v5).length:Int)≤140737488355328)<|
  some (.inl ((IntKind.i64.wrap (v2+1)),(v3++v5)))
 else
  some (.inr (some v3))
def Wc (a0:Ai) (a1:BC):Option (List Ar):=
 (VS a0 a1).bind fun v1=>
 Aq (fun s:Int × List Ar=>NK a0 a1 s.1 s.2) (0,v1)
def cK (a0:Ai) (a1:BC):Option (List Ar × Bool):=
 (bN a0 a1).bind fun v1=>
 if(!v1)then
  some ([],false)
 else
  (Wc a0 a1).bind fun v2=>
  some (v2,true)
def V5 (a0:List Ai) (a1:Af) (a2:Cj):Option (List Ar × Bool):=
 (Cl a2.eu 0 3).bind fun v1=>
 if(!v1)then
  some ([],false)
 else
  if a2.fw then
   if(decide (a2.eu<2))then
    some ([],false)
   else
    (V0 a2.c9).bind fun v2=>
    if(!v2)then
     some ([],false)
    else
     (Aj a0 a2.eu).bind fun y3=>
     (bT y3 a1 a2.ee).bind fun v4=>
     some (v4.1,v4.2)
  else
   if(decide ((a2.ee.al.length:Int)>0))then
    some ([],false)
   else
    (Aj a0 a2.eu).bind fun y5=>
    (cK y5 a2.c9).bind fun v6=>
    some (v6.1,v6.2)
def Nv (a0 a1:List Ar) (v1:Int):Option ((Int) ⊕ Option (Bool)):=
 if(decide (v1<(a0.length:Int)))then
  (Aj a0 v1).bind fun y2=>
  (Aj a1 v1).bind fun y3=>
  if(!(y2.af==y3.af&&(y2.aj==y3.aj&&(y2.bd==y3.bd&&(y2.gg==y3.gg)))))then
   some (.inr (some false))
  else
   some (.inl (IntKind.i64.wrap (v1+1)))
 else
  some (.inr (some true))
def U7 (a0 a1:List Ar):Option (Bool):=
 if((a0.length:Int) !=(a1.length:Int))then
  some false
 else
  Aq (fun s:Int=>Nv a0 a1 s) 0
def JP (a0:Cz) (v8:Int):Option ((Int) ⊕ Option (Bool)):=
 if(decide (v8<(a0.bw.length:Int)))then
  (Aj a0.bw v8).bind fun y9=>
  (V5 a0.ch a0.ab y9).bind fun v10=>
  if v10.2 then
   (Aj a0.aq.bj v8).bind fun y11=>
   (U7 v10.1 y11.dq).bind fun v12=>
   if(!v12)then
    some (.inr (some false))
   else
    some (.inl (IntKind.i64.wrap (v8+1)))
  else
   some (.inr (some false))
 else
  some (.inr (some true))
def JQ (a0:Cz):Option (Bool):=
 (VR a0.aq).bind fun v5=>
 if v5 then
  if((a0.aq.a7.length:Int) !=1)then
   some false
  else
   (Aj a0.aq.a7 0).bind fun y6=>
   (Aj a0.ch 0).bind fun y7=>
   A0 ((y7.ab).length+(([47]:Af)).length≤9223372036854775807)<|
   if(((y6 !=(y7.ab++([47]:Af)))||((a0.aq.bj.length:Int) !=(a0.bw.length:Int)))||(decide ((a0.aq.bh.length:Int)>0)))then
    some false
   else
    Aq (fun s:Int=>JP a0 s) 0
 else
  some false
def IJ (a0:Cz) (v13:Int):Option ((Int) ⊕ Option (Bool)):=
 if(decide (v13<(a0.a6.length:Int)))then
  (Aj a0.a6 v13).bind fun y14=>
  (Aj a0.a6 (IntKind.i64.wrap (v13-1))).bind fun y15=>
  if(decide (y14<y15))then
   some (.inr (some false))
  else
   some (.inl (IntKind.i64.wrap (v13+1)))
 else
  some (.inr (JQ a0))
def bI (a0:Cz):Option (Bool):=
 (VH a0.ch a0.ab).bind fun v1=>
 if v1 then
  (Cl a0.ga 0 2).bind fun v2=>
  if v2 then
   if((a0.a6.length:Int) !=(IntKind.i64.wrap (a0.ga+1)))then
    some false
   else
    (Aj a0.a6 0).bind fun y3=>
    if(y3 !=0)then
     some false
    else
     (Oo a0.a6 0 100000).bind fun v4=>
     if(!v4)then
      some false
     else
      Aq (fun s:Int=>IJ a0 s) 1
  else
   some false
 else
  some false
def Vx (a0:Cz):Option (Bool):=
 (bI a0).bind fun v1=>
 some v1
def Dd (a0 a1 a2:Int):Option (Bool):=
 some ((decide (a0≥a1))&&(decide (a0≤a2)))
def aG (a0:Af) (a1:Int):Option (Bool):=
 (Dd (a0.length:Int) 1 a1).bind fun v1=>
 some v1
def aH (a0:Af) (a1 v2:Int):Option ((Int) ⊕ Option (Bool)):=
 if(decide (v2<(a0.length:Int)))then
  (Aj a0 v2).bind fun y3=>
  if((decide ((y3.toNat:Int)<97))||(decide ((y3.toNat:Int)>122)))then
   some (.inr (some false))
  else
   some (.inl (IntKind.i64.wrap (v2+1)))
 else
  some (.inr (aG a0 a1))
def N7 (a0:Af) (a1:Int):Option (Bool):=
 Aq (fun s:Int=>aH a0 a1 s) 0
def ZY (a0:List (Af)) (a1:Af) (v1:Int):Option ((Int) ⊕ Option (Int)):=
 if(decide (v1<(a0.length:Int)))then
  (Aj a0 v1).bind fun y2=>
  if(a1==y2)then
   some (.inr (some v1))
  else
   some (.inl (IntKind.i64.wrap (v1+1)))
 else
  some (.inr (some (-1)))
def Uj (a0:List (Af)) (a1:Af):Option (Int):=
 Aq (fun s:Int=>ZY a0 a1 s) 0
def Uc (a0:List (Af)) (a1:Af):Option (Bool):=
 (Uj a0 a1).bind fun v1=>
 some (decide (v1≥0))
def bR (a0:Int):Option (Bool):=
 (Dd a0 0 3).bind fun v1=>
 some v1
def Ur (a0:Ai) (v3:Int):Option ((Int) ⊕ Option (Bool)):=
 if(decide (v3<(a0.ae.length:Int)))then
  (Aj a0.ae v3).bind fun y4=>
  (N7 y4.ab 1).bind fun v5=>
  if v5 then
   (Dd y4.cw 1 (IntKind.i64.wrap ((a0.ak.length:Int)-1))).bind fun v6=>
   if v6 then
    (bR y4.ao).bind fun v7=>
    if(decide (v3>0))then
     if v7 then
      (Aj a0.ae (IntKind.i64.wrap (v3-1))).bind fun y8=>
      if(Op.bytesLess y4.ab y8.ab||y4.ab==y8.ab)then
       some (.inr (some false))
      else
       some (.inl (IntKind.i64.wrap (v3+1)))
     else
      some (.inr (some false))
    else
     if((!v7)||false)then
      some (.inr (some false))
     else
      some (.inl (IntKind.i64.wrap (v3+1)))
   else
    some (.inr (some false))
  else
   some (.inr (some false))
 else
  some (.inr (some true))
def aD (a0:Ai):Option (Bool):=
 Aq (fun s:Int=>Ur a0 s) 0
def UF (a0:Ai) (v9:Int):Option ((Int) ⊕ Option (Bool)):=
 if(decide (v9<(a0.ak.length:Int)))then
  (Aj a0.ak v9).bind fun y10=>
  (N7 y10 3).bind fun v11=>
  if v11 then
   A0 (0≤(0:Int)∧(0:Int)≤v9∧v9≤(a0.ak.length:Int))<|
   (Uc (Eh a0.ak 0 v9) y10).bind fun v12=>
   if v12 then
    some (.inr (some false))
   else
    some (.inl (IntKind.i64.wrap (v9+1)))
  else
   some (.inr (some false))
 else
  some (.inr (aD a0))
def UI (a0:Ai):Option (Bool):=
 (N7 a0.ab 1).bind fun v1=>
 if v1 then
  (Dd (a0.ak.length:Int) 2 4).bind fun v2=>
  if((!v2)||(decide ((a0.ae.length:Int)>3)))then
   some false
  else
   Aq (fun s:Int=>UF a0 s) 0
 else
  some false
def Z2 (a0:AI) (a1:Af):Option (Bool):=
 some (a0.ab==a1)
def NF (a0:Ai) (a1:Af):Option (Int):=
 (Es a0.ae (fun y0_=>Z2 y0_ a1)).bind fun v1=>
 some v1
def V4 (a0:Ai) (a1:Af):Option (Bool):=
 (UI a0).bind fun v1=>
 if v1 then
  (NF a0 a1).bind fun v2=>
  some (decide (v2≥0))
 else
  some false
def JN (a0:Ai) (a1:Af):Option (AI):=
 (NF a0 a1).bind fun v1=>
 (Aj a0.ae v1).bind fun y2=>
 some y2
def ZW (xs:List (Af)):Option (List (Af)):=XC 16 xs
def ZX (xs:List AI):Option (List AI):=XC 32 xs
def Ru (a0:Ai):Option (Ai):=
 (ZW a0.ak).bind fun v1=>
 (ZX a0.ae).bind fun v2=>
 some (⟨a0.ab,v1,v2⟩:Ai)
def QQ (a0:Ai) (a1:Af) (a2:Int):Option (Ai):=
 (Ru a0).bind fun v1=>
 (NF a0 a1).bind fun v2=>
 (Aj v1.ae v2).bind fun y3=>
 some (⟨v1.ab,v1.ak,(v1.ae.set (v2).toNat {y3 with ao:=a2})⟩:Ai)
def QM (a0:Ai) (a1:Af) (a2 v3:Int) (v4:List Ai):Option ((Int × List Ai) ⊕ Option (List Ai)):=
 if(v3 !=a2)then
  if(decide (v3<a2))then
   (QQ a0 a1 (IntKind.i64.wrap (v3+1))).bind fun v5=>
   A0 ((((v4).length:Int)+(([v5]:List Ai).length:Int))*64≤140737488355328∧((v4).length:Int)+(([v5]:List Ai).length:Int)≤140737488355328)<|
   some (.inl ((IntKind.i64.wrap (v3+1)),(v4++ [v5])))
  else
   (QQ a0 a1 (IntKind.i64.wrap (v3-1))).bind fun v6=>
   A0 ((((v4).length:Int)+(([v6]:List Ai).length:Int))*64≤140737488355328∧((v4).length:Int)+(([v6]:List Ai).length:Int)≤140737488355328)<|
   some (.inl ((IntKind.i64.wrap (v3-1)),(v4++ [v6])))
 else
  some (.inr (some v4))
def Us (a0:Ai) (a1:Af) (a2:Int):Option (List Ai):=
 (JN a0 a1).bind fun v1=>
 (Ru a0).bind fun v2=>
 Aq (fun s:Int × List Ai=>QM a0 a1 a2 s.1 s.2) (v1.ao, [v2])
def QJ (a0 a1:List Ai) (a2:Ai→Ai→Option Bool) (v1:Int):Option ((Int) ⊕ Option (Bool)):=
 if(decide (v1<(a0.length:Int)))then
  (Aj a0 v1).bind fun y2=>
  (Aj a1 v1).bind fun y3=>
  (a2 y2 y3).bind fun v4=>
  if(!v4)then
   some (.inr (some false))
  else
   some (.inl (IntKind.i64.wrap (v1+1)))
 else
  some (.inr (some true))
def Uf (a0 a1:List Ai) (a2:Ai→Ai→Option Bool):Option (Bool):=
 if((a0.length:Int) !=(a1.length:Int))then
  some false
 else
  Aq (fun s:Int=>QJ a0 a1 a2 s) 0
def IK (a0:List (Af)) (a1:List (Af)) (v1:Int):Option ((Int) ⊕ Option (Bool)):=
 if(decide (v1<(a0.length:Int)))then
  (Aj a0 v1).bind fun y2=>
  (Aj a1 v1).bind fun y3=>
  if(y2 !=y3)then
   some (.inr (some false))
  else
   some (.inl (IntKind.i64.wrap (v1+1)))
 else
  some (.inr (some true))
def JO (a0:List (Af)) (a1:List (Af)):Option (Bool):=
 if((a0.length:Int) !=(a1.length:Int))then
  some false
 else
  Aq (fun s:Int=>IK a0 a1 s) 0
def QI (a0 a1:List AI) (v1:Int):Option ((Int) ⊕ Option (Bool)):=
 if(decide (v1<(a0.length:Int)))then
  (Aj a0 v1).bind fun y2=>
  (Aj a1 v1).bind fun y3=>
  if(!(y2.ab==y3.ab&&(y2.cw==y3.cw&&(y2.ao==y3.ao))))then
   some (.inr (some false))
  else
   some (.inl (IntKind.i64.wrap (v1+1)))
 else
  some (.inr (some true))
def Ue (a0 a1:List AI):Option (Bool):=
 if((a0.length:Int) !=(a1.length:Int))then
  some false
 else
  Aq (fun s:Int=>QI a0 a1 s) 0
def KZ (a0 a1:Ai):Option (Bool):=
 if(a0.ab==a1.ab)then
  (JO a0.ak a1.ak).bind fun v1=>
  if v1 then
   (Ue a0.ae a1.ae).bind fun v2=>
   some v2
  else
   some false
 else
  some false
def VU (a0:List Ai) (a1:Af):Option (Bool):=
 if((a0.length:Int)==4)then
  (Aj a0 0).bind fun y1=>
  (V4 y1 a1).bind fun v2=>
  if v2 then
   (JN y1 a1).bind fun v3=>
   if(v3.ao==0)then
    (Us y1 a1 3).bind fun v4=>
    (Uf a0 v4 (fun y0_ y1_=>KZ y0_ y1_)).bind fun v5=>
    some v5
   else
    some false
  else
   some false
 else
  some false
def Ml (a0:Int):Option (Bool):=
 (Dd a0 0 100000).bind fun v1=>
 some v1
def NY (a0:List Int) (v1:Int):Option ((Int) ⊕ Option (Bool)):=
 if(decide (v1<(a0.length:Int)))then
  (Aj a0 v1).bind fun y2=>
  (Ml y2).bind fun v3=>
  if(decide (v1>0))then
   if v3 then
    if(v1==0)then
     if(y2 !=0)then
      some (.inr (some false))
     else
      (Aj a0 (IntKind.i64.wrap (v1-1))).bind fun y4=>
      if(decide (y2<y4))then
       some (.inr (some false))
      else
       some (.inl (IntKind.i64.wrap (v1+1)))
    else
     (Aj a0 (IntKind.i64.wrap (v1-1))).bind fun y5=>
     if(decide (y2<y5))then
      some (.inr (some false))
     else
      some (.inl (IntKind.i64.wrap (v1+1)))
   else
    some (.inr (some false))
  else
   if(((!v3)||((v1==0)&&(y2 !=0)))||false)then
    some (.inr (some false))
   else
    some (.inl (IntKind.i64.wrap (v1+1)))
 else
  some (.inr (some true))
def Vd (a0:List Int):Option (Bool):=
 Aq (fun s:Int=>NY a0 s) 0
def Z3 (a0:Int):Option (Bool):=
 some (((decide (a0≥97))&&(decide (a0≤122)))||((decide (a0≥48))&&(decide (a0≤57))))
def aA (a0:Af) (a1:Int):Option (Int):=
 (Ui a0 a1).bind fun v1=>
 some v1
def aK (a0 a1:Af) (v1:Int):Option ((Int) ⊕ Option (Bool)):=
 if(decide (v1<(a0.length:Int)))then
  (Aj a0 v1).bind fun y2=>
  (Z3 (y2.toNat:Int)).bind fun v3=>
  if v3 then
   some (.inl (IntKind.i64.wrap (v1+1)))
  else
   (aA a1 (y2.toNat:Int)).bind fun v4=>
   if(decide (v4<0))then
    some (.inr (some false))
   else
    some (.inl (IntKind.i64.wrap (v1+1)))
 else
  some (.inr (some true))
def Of (a0 a1:Af):Option (Bool):=
 Aq (fun s:Int=>aK a0 a1 s) 0
def Mo (a0:Af):Option (Bool):=
 (Dd (a0.length:Int) 1 12).bind fun v1=>
 if v1 then
  (Of a0 ([46,47]:Af)).bind fun v2=>
  some v2
 else
  some false
def Z8 (a0:List (Af)) (v1:Int):Option ((Int) ⊕ Option (Bool)):=
 if(decide (v1<(a0.length:Int)))then
  (Aj a0 v1).bind fun y2=>
  (Mo y2).bind fun v3=>
  if(decide (v1>0))then
   if v3 then
    (Aj a0 (IntKind.i64.wrap (v1-1))).bind fun y4=>
    if(Op.bytesLess y2 y4||y2==y4)then
     some (.inr (some false))
    else
     some (.inl (IntKind.i64.wrap (v1+1)))
   else
    some (.inr (some false))
  else
   if((!v3)||false)then
    some (.inr (some false))
   else
    some (.inl (IntKind.i64.wrap (v1+1)))
 else
  some (.inr (some true))
def K3 (a0:List (Af)):Option (Bool):=
 Aq (fun s:Int=>Z8 a0 s) 0
def Vk (a0:List (Af)):Option (Bool):=
 if(decide ((a0.length:Int)<4))then
  (K3 a0).bind fun v1=>
  some v1
 else
  some false
def cJ (a0:Int):Option (Bool):=
 some ((a0==3)||(a0==5))
def aI (a0:BH) (a1:Int):Option (Bool):=
 (Dd a1 0 (IntKind.i64.wrap ((a0.au.length:Int)-1))).bind fun v1=>
 some v1
def RX (a0:Int):Option (Bool):=
 (Dd a0 1 60).bind fun v1=>
 some v1
def RQ (a0:Int):Option (Bool):=
 (Dd a0 1 100000).bind fun v1=>
 some v1
def NA (a0:List A7) (v1:Int) (v2:List (Af)):Option ((Int × List (Af)) ⊕ Option (List (Af))):=
 if(decide (v1<(a0.length:Int)))then
  (Aj a0 v1).bind fun y3=>
  A0 ((((v2).length:Int)+(([y3.aj]:List (Af)).length:Int))*16≤140737488355328∧((v2).length:Int)+(([y3.aj]:List (Af)).length:Int)≤140737488355328)<|
  some (.inl ((IntKind.i64.wrap (v1+1)),(v2++ [y3.aj])))
 else
  some (.inr (some v2))
def UW (a0:List A7):Option (List (Af)):=
 Aq (fun s:Int × List (Af)=>NA a0 s.1 s.2) (0, [])
def RD (a0:Af):Option (Bool):=
 if(decide ((a0.length:Int)≤24))then
  (Of a0 ([46,45,44,95]:Af)).bind fun v1=>
  some v1
 else
  some false
def Rk (a0:Af) (a1:Bool):Option (Bool):=
 (RD a0).bind fun v1=>
 some (v1&&(!(a1&&(a0 !=([]:Af)))))
def Uo (a0:A7):Option (Bool):=
 (Rk a0.bd a0.dh).bind fun v1=>
 some (!v1)
def Uv (a0:List A7):Option (Bool):=
 if(decide ((a0.length:Int)≤24))then
  (UW a0).bind fun v1=>
  (K3 v1).bind fun v2=>
  if v2 then
   (CH a0 (fun y0_=>Uo y0_)).bind fun v3=>
   some (!v3)
  else
   some false
 else
  some false
def U2 (a0:Dz) (v6:Bool):Option (Bool):=
 if v6 then
  if(a0.bf==0)then
   if((a0.bg.length:Int)==0)then
    if((a0.ay.length:Int)==0)then
     (RX a0.ct).bind fun v7=>
     if a0.dn then
      if v7 then
       (RQ a0.bq).bind fun v8=>
       some (v8||false)
      else
       some false
     else
      some (v7&&(a0.bq==0))
    else
     some false
   else
    some false
  else
   some false
 else
  if(a0.af==4)then
   if(a0.bf==0)then
    if((a0.bg.length:Int)==0)then
     if((a0.ay.length:Int)==0)then
      if(a0.ct==0)then
       (RQ a0.bq).bind fun v9=>
       some (v9&&(!a0.dn))
      else
       some false
     else
      some false
    else
     some false
   else
    some false
  else
   some false
def VP (a0:Dz):Option (Bool):=
 if(a0.af==1)then
  (RX a0.ct).bind fun v1=>
  if v1 then
   (RQ a0.bq).bind fun v2=>
   if v2 then
    (Dd a0.bf 0 3).bind fun v3=>
    if v3 then
     if(decide ((a0.bg.length:Int)≤8))then
      (K3 a0.bg).bind fun v4=>
      if v4 then
       if(decide ((a0.ay.length:Int)≤8))then
        (Uv a0.ay).bind fun v5=>
        some ((v5&&(decide ((IntKind.i64.wrap ((a0.bg.length:Int)+(a0.ay.length:Int)))>0)))&&(!a0.dn))
       else
        some false
      else
       some false
     else
      some false
    else
     some false
   else
    some false
  else
   some false
 else
  if(a0.af==2)then
   U2 a0 (a0.af==2)
  else
   U2 a0 (a0.af==3)
def bV (a0:List BT):Option (Bool):=
 some (decide ((a0.length:Int)≤60))
def Od (a0:List BT) (a1 v1:Int):Option ((Int) ⊕ Option (Bool)):=
 if(decide (v1<(a0.length:Int)))then
  (Aj a0 v1).bind fun y2=>
  (Dd y2.bc 1 a1).bind fun v3=>
  if v3 then
   (VP y2.db).bind fun v4=>
   if(decide (v1>0))then
    if v4 then
     (Aj a0 (IntKind.i64.wrap (v1-1))).bind fun y5=>
     if(decide (y2.bc<y5.bc))then
      some (.inr (some false))
     else
      some (.inl (IntKind.i64.wrap (v1+1)))
    else
     some (.inr (some false))
   else
    if((!v4)||false)then
     some (.inr (some false))
    else
     some (.inl (IntKind.i64.wrap (v1+1)))
  else
   some (.inr (some false))
 else
  some (.inr (bV a0))
def WE (a0:List BT) (a1:Int):Option (Bool):=
 Aq (fun s:Int=>Od a0 a1 s) 0
def Nr (a0:Ci) (a1:BH):Option (Bool):=
 (WE a0.cj a1.bc).bind fun v1=>
 if v1 then
  (Dd a0.fh 0 (a0.cj.length:Int)).bind fun v2=>
  some (!v2)
 else
  some true
def UK (a0:BH):Option (Bool):=
 (cJ (a0.au.length:Int)).bind fun v1=>
 if v1 then
  (Dd a0.bc 0 200).bind fun v2=>
  if(a0.bf !=(-1))then
   if v2 then
    (aI a0 a0.bf).bind fun v3=>
    if v3 then
     (Aj a0.au a0.bf).bind fun y4=>
     if(!y4.j5)then
      some false
     else
      (CH a0.au (fun y0_=>Nr y0_ a0)).bind fun v5=>
      some (!v5)
    else
     some false
   else
    some false
  else
   if((!v2)||false)then
    some false
   else
    (CH a0.au (fun y0_=>Nr y0_ a0)).bind fun v6=>
    some (!v6)
 else
  some false
def V3 (a0:AU):Option (Bool):=
 (Mo a0.aj).bind fun v1=>
 if v1 then
  (RX a0.ct).bind fun v2=>
  some v2
 else
  some false
def lE (a0 a1:AU):Option (Bool):=
 some (((a0.aj==a1.aj)&&(a0.ct !=a1.ct))&&(a0.dk||a1.dk))
def aS (a0 a1:AU):Option (Bool):=
 (lE a1 a0).bind fun v1=>
 some (v1||((a1.aj==a0.aj)&&(a1.ct==a0.ct)))
def Z7 (a0:List AU):Option (Bool):=
 some (decide ((a0.length:Int)≤60))
def Nx (a0:List AU) (v1:Int):Option ((Int) ⊕ Option (Bool)):=
 if(decide (v1<(a0.length:Int)))then
  (Aj a0 v1).bind fun y2=>
  (V3 y2).bind fun v3=>
  if v3 then
   A0 (0≤(0:Int)∧(0:Int)≤v1∧v1≤(a0.length:Int))<|
   (CH (Eh a0 0 v1) (fun y0_=>aS y0_ y2)).bind fun v4=>
   if v4 then
    some (.inr (some false))
   else
    some (.inl (IntKind.i64.wrap (v1+1)))
  else
   some (.inr (some false))
 else
  some (.inr (Z7 a0))
def UO (a0:List AU):Option (Bool):=
 Aq (fun s:Int=>Nx a0 s) 0
def lH (a0:CL):Option (Bool):=
 (Dd a0.ff (-5) 5).bind fun v1=>
 some v1
def Uz (a0:CL):Option (Bool):=
 (lH a0).bind fun v1=>
 some (!v1)
def cE (a0:Int):Option (Bool):=
 some ((a0==2)||(a0==7))
def WN (a0:Int):Option (Bool):=
 some ((a0==4)||(a0==5))
def WU (a0:Ar):Option (Bool):=
 (Dd a0.af 1 7).bind fun v1=>
 if v1 then
  (Mo a0.aj).bind fun v2=>
  if v2 then
   (RD a0.bd).bind fun v3=>
   if v3 then
    (cE a0.af).bind fun v4=>
    if v4 then
     (Dd a0.gg (-9999) 9999).bind fun v5=>
     if v5 then
      (WN a0.af).bind fun v6=>
      some (v6||(a0.gg==0))
     else
      some false
    else
     if(a0.bd==([]:Af))then
      (Dd a0.gg (-9999) 9999).bind fun v7=>
      if v7 then
       (WN a0.af).bind fun v8=>
       some (v8||(a0.gg==0))
      else
       some false
     else
      some false
   else
    some false
  else
   some false
 else
  some false
def UM (a0:Ar):Option (Bool):=
 (WU a0).bind fun v1=>
 some (!v1)
def zip (a0:List Ar):Option (Bool):=
 if(decide ((a0.length:Int)≤8))then
  (CH a0 (fun y0_=>UM y0_)).bind fun v1=>
  some (!v1)
 else
  some false
def bH (a0:List Ar):Option (Bool):=
 if(decide ((a0.length:Int)>0))then
  (zip a0).bind fun v1=>
  some v1
 else
  some false
def bX (a0 a1:BA):Option (Bool):=
 some (a0.aj==a1.aj)
def bD (a0:List BA):Option (Bool):=
 some (decide ((a0.length:Int)≤8))
def NM (a0:List BA) (v1:Int):Option ((Int) ⊕ Option (Bool)):=
 if(decide (v1<(a0.length:Int)))then
  (Aj a0 v1).bind fun y2=>
  (Mo y2.aj).bind fun v3=>
  if v3 then
   (Rk y2.bd (!y2.di)).bind fun v4=>
   if v4 then
    A0 (0≤(0:Int)∧(0:Int)≤v1∧v1≤(a0.length:Int))<|
    (CH (Eh a0 0 v1) (fun y0_=>bX y0_ y2)).bind fun v5=>
    if v5 then
     some (.inr (some false))
    else
     some (.inl (IntKind.i64.wrap (v1+1)))
   else
    some (.inr (some false))
  else
   some (.inr (some false))
 else
  some (.inr (bD a0))
def RR (a0:List BA):Option (Bool):=
 Aq (fun s:Int=>NM a0 s) 0
def ZZ (a0:Int):Option (Bool):=
 (Dd a0 0 200).bind fun v1=>
 some (!v1)
def Mg (a0:By) (a1:Int):Option (Bool):=
 (Dd a1 (-1) a0.bz).bind fun v1=>
 some v1
def Ug (a0:By) (a1:B7):Option (Bool):=
 (bH a1.dq).bind fun v1=>
 if v1 then
  (RR a1.bp).bind fun v2=>
  if v2 then
   if((a1.cb.length:Int)==(a0.aw.length:Int))then
    (CH a1.cb (fun y0_=>ZZ y0_)).bind fun v3=>
    if v3 then
     some false
    else
     (Mg a0 a1.cu).bind fun v4=>
     if v4 then
      (Mg a0 a1.ej).bind fun v5=>
      if v5 then
       (Ml a1.bq).bind fun v6=>
       some v6
      else
       some false
     else
      some false
   else
    some false
  else
   some false
 else
  some false
def Q7 (a0:B7) (a1:By):Option (Bool):=
 (Ug a1 a0).bind fun v1=>
 some (!v1)
def Z6 (a0:By) (a1:Int):Option (Bool):=
 (Dd a1 0 (IntKind.i64.wrap ((a0.ax.length:Int)-1))).bind fun v1=>
 some v1
def Uw (a0:List (Af)):Option (Bool):=
 (Dd (a0.length:Int) 1 8).bind fun v1=>
 if v1 then
  (K3 a0).bind fun v2=>
  some v2
 else
  some false
def Z0 (a0:By) (a1:BK):Option (Bool):=
 (Ml a1.bq).bind fun v4=>
 if v4 then
  (Mg a0 a1.cu).bind fun v5=>
  if v5 then
   (Mg a0 a1.ej).bind fun v6=>
   some v6
  else
   some false
 else
  some false
def Np (a0:By) (a1:BK) (v7:Int):Option ((Int) ⊕ Option (Bool)):=
 if(decide (v7<(a1.bp.length:Int)))then
  (Aj a1.bp v7).bind fun y8=>
  (Aj a1.bm v7).bind fun y9=>
  if(y8.aj !=y9)then
   some (.inr (some false))
  else
   some (.inl (IntKind.i64.wrap (v7+1)))
 else
  some (.inr (Z0 a0 a1))
def Uh (a0:By) (a1:BK):Option (Bool):=
 (Z6 a0 a1.dw).bind fun v1=>
 if v1 then
  (Uw a1.bm).bind fun v2=>
  if v2 then
   if(decide ((a1.bp.length:Int)>(a1.bm.length:Int)))then
    some false
   else
    (RR a1.bp).bind fun v3=>
    if(!v3)then
     some false
    else
     Aq (fun s:Int=>Np a0 a1 s) 0
  else
   some false
 else
  some false
def Q4 (a0:BK) (a1:By):Option (Bool):=
 (Uh a1 a0).bind fun v1=>
 some (!v1)
def aB (a0:By):Option (Bool):=
 (Ml a0.gi).bind fun v2=>
 if v2 then
  (Dd a0.bz 0 1000000).bind fun v3=>
  if v3 then
   if(decide ((a0.bj.length:Int)≤6))then
    if(decide ((a0.bh.length:Int)≤4))then
     (CH a0.ax (fun y0_=>Uz y0_)).bind fun v4=>
     if v4 then
      some false
     else
      (CH a0.bj (fun y0_=>Q7 y0_ a0)).bind fun v5=>
      if v5 then
       some false
      else
       (CH a0.bh (fun y0_=>Q4 y0_ a0)).bind fun v6=>
       some (!v6)
    else
     some false
   else
    some false
  else
   some false
 else
  some false
def Nz (a0:By) (v7:Int):Option ((Int) ⊕ Option (Bool)):=
 if(decide (v7<(a0.aw.length:Int)))then
  (Aj a0.aw v7).bind fun y8=>
  (UK y8).bind fun v9=>
  if v9 then
   if((y8.au.length:Int) !=3)then
    some (.inr (some false))
   else
    (Aj a0.bu v7).bind fun y10=>
    (UO y10).bind fun v11=>
    if v11 then
     (Aj a0.a8 v7).bind fun y12=>
     (Ml y12).bind fun v13=>
     if(!v13)then
      some (.inr (some false))
     else
      some (.inl (IntKind.i64.wrap (v7+1)))
    else
     some (.inr (some false))
  else
   some (.inr (some false))
 else
  some (.inr (aB a0))
def Rr (a0:By):Option (Bool):=
 if(decide ((a0.a7.length:Int)>2))then
  some false
 else
  (Vk a0.a7).bind fun v1=>
  if(((((!v1)||((a0.aw.length:Int) !=(IntKind.i64.wrap ((a0.a7.length:Int)+1))))||((a0.bu.length:Int) !=(IntKind.i64.wrap ((a0.a7.length:Int)+1))))||((a0.a8.length:Int) !=(IntKind.i64.wrap ((a0.a7.length:Int)+1))))||((a0.ax.length:Int) !=(IntKind.i64.wrap ((3:Int)*(IntKind.i64.wrap ((a0.a7.length:Int)+1))))))then
   some false
  else
   Aq (fun s:Int=>Nz a0 s) 0
def RP (a0:BC):Option (Bool):=
 some (((a0.af==0)&&((a0.ca.al.length:Int)==0))&&((a0.cm.al.length:Int)==0))
def VX (a0:Af):Option (Bool):=
 (Dd (a0.length:Int) 1 3).bind fun v1=>
 if v1 then
  (Of a0 ([]:Af)).bind fun v2=>
  some v2
 else
  some false
def Um (a0:Af):Option (Bool):=
 (VX a0).bind fun v1=>
 some (!v1)
def KX (a0:Ai) (a1:BI):Option (Bool):=
 if((a1.al.length:Int)==(a0.ak.length:Int))then
  (CH a1.al (fun y0_=>Um y0_)).bind fun v1=>
  some (!v1)
 else
  some false
def Un (a0:Ai) (a1:BC):Option (Bool):=
 if(a1.af==1)then
  if((a1.ca.al.length:Int)==0)then
   (KX a0 a1.cm).bind fun v1=>
   some v1
  else
   some false
 else
  if(a1.af==2)then
   (KX a0 a1.ca).bind fun v2=>
   some (v2&&((a1.cm.al.length:Int)==0))
  else
   if(a1.af==3)then
    (KX a0 a1.ca).bind fun v3=>
    if v3 then
     (KX a0 a1.cm).bind fun v4=>
     if v4 then
      (Aj a1.ca.al 0).bind fun y5=>
      (Aj a1.cm.al 0).bind fun y6=>
      some (y5==y6)
     else
      some false
    else
     some false
   else
    some false
def WH (a0:List Ai) (a1:Cj):Option (Bool):=
 (Dd a1.eu 0 3).bind fun v1=>
 if(!v1)then
  some false
 else
  if a1.fw then
   if(decide (a1.eu≥2))then
    (RP a1.c9).bind fun v2=>
    if v2 then
     (Aj a0 a1.eu).bind fun y3=>
     (KX y3 a1.ee).bind fun v4=>
     some v4
    else
     some false
   else
    some false
  else
   (Aj a0 a1.eu).bind fun y5=>
   (Un y5 a1.c9).bind fun v6=>
   some (v6&&((a1.ee.al.length:Int)==0))
def NB (a0:Ai) (a1:BI):Option (A7):=
 A0 ((a0.ab).length+(([47]:Af)).length≤9223372036854775807)<|
 (Aj a1.al 0).bind fun y1=>
 A0 (((a0.ab++([47]:Af))).length+(y1).length≤9223372036854775807)<|
 A0 (0≤(1:Int)∧(1:Int)≤(a1.al.length:Int)∧(a1.al.length:Int)≤(a1.al.length:Int))<|
 (Wz (Eh a1.al 1 (a1.al.length:Int)) ([44]:Af)).bind fun v2=>
 some (⟨((a0.ab++([47]:Af))++y1),v2,false⟩:A7)
def Ul (a0:Ai) (a1:Af):Option (Af):=
 A0 ((a0.ab).length+(([46]:Af)).length≤9223372036854775807)<|
 A0 (((a0.ab++([46]:Af))).length+(a1).length≤9223372036854775807)<|
 A0 ((((a0.ab++([46]:Af))++a1)).length+(([47]:Af)).length≤9223372036854775807)<|
 some (((a0.ab++([46]:Af))++a1)++([47]:Af))
def KY (a0:Ai) (a1:Af) (a2:BI):Option (Af):=
 (Ul a0 a1).bind fun v1=>
 (JN a0 a1).bind fun v2=>
 (Aj a2.al v2.cw).bind fun y3=>
 A0 ((v1).length+(y3).length≤9223372036854775807)<|
 A0 (((v1++y3)).length+(([47]:Af)).length≤9223372036854775807)<|
 (Aj a2.al 0).bind fun y4=>
 A0 ((((v1++y3)++([47]:Af))).length+(y4).length≤9223372036854775807)<|
 some (((v1++y3)++([47]:Af))++y4)
def Z4 (a0:Ai) (a1:Af) (a2:BI):Option (List Ar):=
 (NB a0 a2).bind fun v1=>
 (KY a0 a1 a2).bind fun v2=>
 some [(⟨7,v1.aj,v1.bd,0⟩:Ar),(⟨2,v2,([]:Af),0⟩:Ar)]
def IL (a0:Int) (a1:A7) (a2:List Ar):Option (Unit × List Ar):=
 A0 ((((a2).length:Int)+(([(⟨a0,a1.aj,a1.bd,0⟩:Ar)]:List Ar).length:Int))*48≤140737488355328∧((a2).length:Int)+(([(⟨a0,a1.aj,a1.bd,0⟩:Ar)]:List Ar).length:Int)≤140737488355328)<|
 some ((),(a2++ [(⟨a0,a1.aj,a1.bd,0⟩:Ar)]))
def bJ (a0:Int):Option (Bool):=
 some (decide (a0≥1))
def bQ (a0:Int):Option (Bool):=
 some (decide (a0≥2))
def No (v9:Int) (y11:AI) (v13:Af) (v14:List Ar):Option ((Int × List Ar) ⊕ Option (List Ar)):=
 if(v13 !=([]:Af))then
  (bQ y11.ao).bind fun v15=>
  if v15 then
   (IL 2 (⟨v13,([]:Af),false⟩:A7) v14).bind fun v16=>
   some (.inl ((IntKind.i64.wrap (v9+1)),v16.2))
  else
   some (.inl ((IntKind.i64.wrap (v9+1)),v14))
 else
  some (.inl ((IntKind.i64.wrap (v9+1)),v14))
def Mf (v9:Int) (v10:List Ar) (y11:AI) (v12 v13:Af):Option ((Int × List Ar) ⊕ Option (List Ar)):=
 if(v12 !=([]:Af))then
  if(v12 !=v13)then
   (bJ y11.ao).bind fun v17=>
   if v17 then
    (IL 3 (⟨v12,([]:Af),false⟩:A7) v10).bind fun v18=>
    No v9 y11 v13 v18.2
   else
    No v9 y11 v13 v10
  else
   No v9 y11 v13 v10
 else
  No v9 y11 v13 v10
def Z1 (a0:Ai) (a1:BC) (v9:Int) (v10:List Ar) (y11:AI) (v12:Af):Option ((Int × List Ar) ⊕ Option (List Ar)):=
 if(a1.af !=2)then
  (KY a0 y11.ab a1.cm).bind fun v19=>
  Mf v9 v10 y11 v12 v19
 else
  Mf v9 v10 y11 v12 ([]:Af)
def Nl (a0:Ai) (a1:BC) (v9:Int) (v10:List Ar):Option ((Int × List Ar) ⊕ Option (List Ar)):=
 if(decide (v9<(a0.ae.length:Int)))then
  (Aj a0.ae v9).bind fun y11=>
  Tf (σ:=Af) (
   if(a1.af !=1)then
    (KY a0 y11.ab a1.ca).bind fun v20=>
    some (.inl v20)
   else
    some (.inl ([]:Af))
  ) (fun s=>Z1 a0 a1 v9 v10 y11 s)
 else
  some (.inr (some v10))
def Nn (a0:Ai) (a1:BC) (v8:List Ar):Option (List Ar):=
 Aq (fun s:Int × List Ar=>Nl a0 a1 s.1 s.2) (0,v8)
def QP (a0:Ai) (a1:BC) (v1:Af) (v4:List Ar) (v5 v6:Af) (v7:Bool):Option (List Ar):=
 if(a1.af==1)then
  (IL 6 (⟨v5,([]:Af),false⟩:A7) v4).bind fun v21=>
  (IL 2 (⟨v5,v6,v7⟩:A7) v21.2).bind fun v22=>
  Nn a0 a1 v22.2
 else
  if(a1.af==2)then
   (IL 3 (⟨v1,([]:Af),false⟩:A7) v4).bind fun v23=>
   Nn a0 a1 v23.2
  else
   if(a1.af==3)then
    (IL 2 (⟨v5,v6,v7⟩:A7) v4).bind fun v24=>
    Nn a0 a1 v24.2
   else
    Nn a0 a1 v4
def Me (a0:Ai) (a1:BC) (v1 v2:Af) (v3:Bool) (v4:List Ar):Option (List Ar):=
 if(a1.af !=2)then
  (NB a0 a1.cm).bind fun v25=>
  QP a0 a1 v1 v4 v25.aj v25.bd v25.dh
 else
  QP a0 a1 v1 v4 ([]:Af) ([]:Af) false
def Ut (a0:Ai) (a1:BC):Option (List Ar):=
 Tf (σ:=Af × Af × Bool × List Ar) (
  if(a1.af !=1)then
   (NB a0 a1.ca).bind fun v26=>
   (IL 7 v26 ([]:List Ar)).bind fun v27=>
   some (.inl (v26.aj,v26.bd,v26.dh,v27.2))
  else
   some (.inl (([]:Af),([]:Af),false, []))
 ) (fun s=>Me a0 a1 s.1 s.2.1 s.2.2.1 s.2.2.2)
def RN (a0:List Ai) (a1:Af) (a2:Cj):Option (List Ar):=
 if a2.fw then
  (Aj a0 a2.eu).bind fun y1=>
  (Z4 y1 a1 a2.ee).bind fun v2=>
  some v2
 else
  (Aj a0 a2.eu).bind fun y3=>
  (Ut y3 a2.c9).bind fun v4=>
  some v4
def Nq (a0 a1:List Ar) (v1:Int):Option ((Int) ⊕ Option (Bool)):=
 if(decide (v1<(a0.length:Int)))then
  (Aj a0 v1).bind fun y2=>
  (Aj a1 v1).bind fun y3=>
  if(!(y2.af==y3.af&&(y2.aj==y3.aj&&(y2.bd==y3.bd&&(y2.gg==y3.gg)))))then
   some (.inr (some false))
  else
   some (.inl (IntKind.i64.wrap (v1+1)))
 else
  some (.inr (some true))
def Ud (a0 a1:List Ar):Option (Bool):=
 if((a0.length:Int) !=(a1.length:Int))then
  some false
 else
  Aq (fun s:Int=>Nq a0 a1 s) 0
def Hq (a0:Cz) (v7:Int):Option ((Int) ⊕ Option (Bool)):=
 if(decide (v7<(a0.bw.length:Int)))then
  (Aj a0.bw v7).bind fun y8=>
  (WH a0.ch y8).bind fun v9=>
  if v9 then
   (Aj a0.aq.bj v7).bind fun y10=>
   (RN a0.ch a0.ab y8).bind fun v11=>
   (Ud y10.dq v11).bind fun v12=>
   if(!v12)then
    some (.inr (some false))
   else
    some (.inl (IntKind.i64.wrap (v7+1)))
  else
   some (.inr (some false))
 else
  some (.inr (some true))
def Vz (a0:Cz):Option (Bool):=
 (VU a0.ch a0.ab).bind fun v1=>
 if v1 then
  (Dd a0.ga 0 2).bind fun v2=>
  if v2 then
   if((a0.a6.length:Int) !=(IntKind.i64.wrap (a0.ga+1)))then
    some false
   else
    (Vd a0.a6).bind fun v3=>
    if((!v3)||(decide ((a0.bw.length:Int)>6)))then
     some false
    else
     (Rr a0.aq).bind fun v4=>
     if v4 then
      (Aj a0.ch 0).bind fun y5=>
      A0 ((y5.ab).length+(([47]:Af)).length≤9223372036854775807)<|
      (JO a0.aq.a7 ([(y5.ab++([47]:Af))]:List (Af))).bind fun v6=>
      if(((!v6)||(decide ((a0.aq.bh.length:Int)>0)))||((a0.aq.bj.length:Int) !=(a0.bw.length:Int)))then
       some false
      else
       Aq (fun s:Int=>Hq a0 s) 0
     else
      some false
  else
   some false
 else
  some false
def QT (a0:List (Af)) (a1:List (Af)) (v1:Int):Option ((Int) ⊕ Option (Bool)):=
 if(decide (v1<(a0.length:Int)))then
  (Aj a0 v1).bind fun y2=>
  (Aj a1 v1).bind fun y3=>
  if(y2 !=y3)then
   some (.inr (some false))
  else
   some (.inl (IntKind.i64.wrap (v1+1)))
 else
  some (.inr (some true))
def K1 (a0:List (Af)) (a1:List (Af)):Option (Bool):=
 if((a0.length:Int) !=(a1.length:Int))then
  some false
 else
  Aq (fun s:Int=>QT a0 a1 s) 0
def WD (a0 a1:AI):Option (Bool):=
 if(a0.ab !=a1.ab)then
  some false
 else
  if(a0.cw !=a1.cw)then
   some false
  else
   if(a0.ao !=a1.ao)then
    some false
   else
    some true
def Rp (a0 a1:List AI) (v1:Int):Option ((Int) ⊕ Option (Bool)):=
 if(decide (v1<(a0.length:Int)))then
  (Aj a0 v1).bind fun y2=>
  (Aj a1 v1).bind fun y3=>
  (WD y2 y3).bind fun v4=>
  if(!v4)then
   some (.inr (some false))
  else
   some (.inl (IntKind.i64.wrap (v1+1)))
 else
  some (.inr (some true))
def Wi (a0 a1:List AI):Option (Bool):=
 if((a0.length:Int) !=(a1.length:Int))then
  some false
 else
  Aq (fun s:Int=>Rp a0 a1 s) 0
def Wq (a0 a1:Ai):Option (Bool):=
 if(a0.ab !=a1.ab)then
  some false
 else
  (K1 a0.ak a1.ak).bind fun v1=>
  if(!v1)then
   some false
  else
   (Wi a0.ae a1.ae).bind fun v2=>
   if(!v2)then
    some false
   else
    some true
def Ri (a0 a1:List Ai) (v1:Int):Option ((Int) ⊕ Option (Bool)):=
 if(decide (v1<(a0.length:Int)))then
  (Aj a0 v1).bind fun y2=>
  (Aj a1 v1).bind fun y3=>
  (Wq y2 y3).bind fun v4=>
  if(!v4)then
   some (.inr (some false))
  else
   some (.inl (IntKind.i64.wrap (v1+1)))
 else
  some (.inr (some true))
def Vq (a0 a1:List Ai):Option (Bool):=
 if((a0.length:Int) !=(a1.length:Int))then
  some false
 else
  Aq (fun s:Int=>Ri a0 a1 s) 0
def RC (a0 a1:List Int) (v1:Int):Option ((Int) ⊕ Option (Bool)):=
 if(decide (v1<(a0.length:Int)))then
  (Aj a0 v1).bind fun y2=>
  (Aj a1 v1).bind fun y3=>
  if(y2 !=y3)then
   some (.inr (some false))
  else
   some (.inl (IntKind.i64.wrap (v1+1)))
 else
  some (.inr (some true))
def Oj (a0 a1:List Int):Option (Bool):=
 if((a0.length:Int) !=(a1.length:Int))then
  some false
 else
  Aq (fun s:Int=>RC a0 a1 s) 0
def Ov (a0 a1:BI):Option (Bool):=
 (K1 a0.al a1.al).bind fun v1=>
 if(!v1)then
  some false
 else
  some true
def Vp (a0 a1:BC):Option (Bool):=
 if(a0.af !=a1.af)then
  some false
 else
  (Ov a0.ca a1.ca).bind fun v1=>
  if(!v1)then
   some false
  else
   (Ov a0.cm a1.cm).bind fun v2=>
   if(!v2)then
    some false
   else
    some true
def US (a0 a1:Cj):Option (Bool):=
 if(a0.eu !=a1.eu)then
  some false
 else
  if(a0.fw !=a1.fw)then
   some false
  else
   (Vp a0.c9 a1.c9).bind fun v1=>
   if(!v1)then
    some false
   else
    (Ov a0.ee a1.ee).bind fun v2=>
    if(!v2)then
     some false
    else
     some true
def QX (a0 a1:List Cj) (v1:Int):Option ((Int) ⊕ Option (Bool)):=
 if(decide (v1<(a0.length:Int)))then
  (Aj a0 v1).bind fun y2=>
  (Aj a1 v1).bind fun y3=>
  (US y2 y3).bind fun v4=>
  if(!v4)then
   some (.inr (some false))
  else
   some (.inl (IntKind.i64.wrap (v1+1)))
 else
  some (.inr (some true))
def U0 (a0 a1:List Cj):Option (Bool):=
 if((a0.length:Int) !=(a1.length:Int))then
  some false
 else
  Aq (fun s:Int=>QX a0 a1 s) 0
def Ws (a0 a1:CL):Option (Bool):=
 if(a0.ff !=a1.ff)then
  some false
 else
  some true
def Rf (a0 a1:List CL) (v1:Int):Option ((Int) ⊕ Option (Bool)):=
 if(decide (v1<(a0.length:Int)))then
  (Aj a0 v1).bind fun y2=>
  (Aj a1 v1).bind fun y3=>
  (Ws y2 y3).bind fun v4=>
  if(!v4)then
   some (.inr (some false))
  else
   some (.inl (IntKind.i64.wrap (v1+1)))
 else
  some (.inr (some true))
def Vw (a0 a1:List CL):Option (Bool):=
 if((a0.length:Int) !=(a1.length:Int))then
  some false
 else
  Aq (fun s:Int=>Rf a0 a1 s) 0
def VW (a0 a1:A7):Option (Bool):=
 if(a0.aj !=a1.aj)then
  some false
 else
  if(a0.bd !=a1.bd)then
   some false
  else
   if(a0.dh !=a1.dh)then
    some false
   else
    some true
def Rg (a0 a1:List A7) (v1:Int):Option ((Int) ⊕ Option (Bool)):=
 if(decide (v1<(a0.length:Int)))then
  (Aj a0 v1).bind fun y2=>
  (Aj a1 v1).bind fun y3=>
  (VW y2 y3).bind fun v4=>
  if(!v4)then
   some (.inr (some false))
  else
   some (.inl (IntKind.i64.wrap (v1+1)))
 else
  some (.inr (some true))
def VY (a0 a1:List A7):Option (Bool):=
 if((a0.length:Int) !=(a1.length:Int))then
  some false
 else
  Aq (fun s:Int=>Rg a0 a1 s) 0
def WJ (a0 a1:Dz):Option (Bool):=
 if(a0.af !=a1.af)then
  some false
 else
  if(a0.ct !=a1.ct)then
   some false
  else
   if(a0.bq !=a1.bq)then
    some false
   else
    if(a0.bf !=a1.bf)then
     some false
    else
     (K1 a0.bg a1.bg).bind fun v1=>
     if(!v1)then
      some false
     else
      (VY a0.ay a1.ay).bind fun v2=>
      if(!v2)then
       some false
      else
       if(a0.dn !=a1.dn)then
        some false
       else
        some true
def Wp (a0 a1:BT):Option (Bool):=
 if(a0.bc !=a1.bc)then
  some false
 else
  (WJ a0.db a1.db).bind fun v1=>
  if(!v1)then
   some false
  else
   some true
def Q8 (a0 a1:List BT) (v1:Int):Option ((Int) ⊕ Option (Bool)):=
 if(decide (v1<(a0.length:Int)))then
  (Aj a0 v1).bind fun y2=>
  (Aj a1 v1).bind fun y3=>
  (Wp y2 y3).bind fun v4=>
  if(!v4)then
   some (.inr (some false))
  else
   some (.inl (IntKind.i64.wrap (v1+1)))
 else
  some (.inr (some true))
def Ve (a0 a1:List BT):Option (Bool):=
 if((a0.length:Int) !=(a1.length:Int))then
  some false
 else
  Aq (fun s:Int=>Q8 a0 a1 s) 0
def UJ (a0 a1:Ci):Option (Bool):=
 if(a0.j5 !=a1.j5)then
  some false
 else
  (Ve a0.cj a1.cj).bind fun v1=>
  if(!v1)then
   some false
  else
   if(a0.fh !=a1.fh)then
    some false
   else
    some true
def QZ (a0 a1:List Ci) (v1:Int):Option ((Int) ⊕ Option (Bool)):=
 if(decide (v1<(a0.length:Int)))then
  (Aj a0 v1).bind fun y2=>
  (Aj a1 v1).bind fun y3=>
  (UJ y2 y3).bind fun v4=>
  if(!v4)then
   some (.inr (some false))
  else
   some (.inl (IntKind.i64.wrap (v1+1)))
 else
  some (.inr (some true))
def U1 (a0 a1:List Ci):Option (Bool):=
 if((a0.length:Int) !=(a1.length:Int))then
  some false
 else
  Aq (fun s:Int=>QZ a0 a1 s) 0
def VG (a0 a1:BH):Option (Bool):=
 (U1 a0.au a1.au).bind fun v1=>
 if(!v1)then
  some false
 else
  if(a0.bc !=a1.bc)then
   some false
  else
   if(a0.bf !=a1.bf)then
    some false
   else
    some true
def Ra (a0 a1:List BH) (v1:Int):Option ((Int) ⊕ Option (Bool)):=
 if(decide (v1<(a0.length:Int)))then
  (Aj a0 v1).bind fun y2=>
  (Aj a1 v1).bind fun y3=>
  (VG y2 y3).bind fun v4=>
  if(!v4)then
   some (.inr (some false))
  else
   some (.inl (IntKind.i64.wrap (v1+1)))
 else
  some (.inr (some true))
def Vr (a0 a1:List BH):Option (Bool):=
 if((a0.length:Int) !=(a1.length:Int))then
  some false
 else
  Aq (fun s:Int=>Ra a0 a1 s) 0
def Wf (a0 a1:AU):Option (Bool):=
 if(a0.aj !=a1.aj)then
  some false
 else
  if(a0.ct !=a1.ct)then
   some false
  else
   if(a0.dk !=a1.dk)then
    some false
   else
    some true
def Q3 (a0 a1:List AU) (v1:Int):Option ((Int) ⊕ Option (Bool)):=
 if(decide (v1<(a0.length:Int)))then
  (Aj a0 v1).bind fun y2=>
  (Aj a1 v1).bind fun y3=>
  (Wf y2 y3).bind fun v4=>
  if(!v4)then
   some (.inr (some false))
  else
   some (.inl (IntKind.i64.wrap (v1+1)))
 else
  some (.inr (some true))
def VC (a0 a1:List AU):Option (Bool):=
 if((a0.length:Int) !=(a1.length:Int))then
  some false
 else
  Aq (fun s:Int=>Q3 a0 a1 s) 0
def Rc (a0:List (List AU)) (a1:List (List AU)) (v1:Int):Option ((Int) ⊕ Option (Bool)):=
 if(decide (v1<(a0.length:Int)))then
  (Aj a0 v1).bind fun y2=>
  (Aj a1 v1).bind fun y3=>
  (VC y2 y3).bind fun v4=>
  if(!v4)then
   some (.inr (some false))
  else
   some (.inl (IntKind.i64.wrap (v1+1)))
 else
  some (.inr (some true))
def V1 (a0:List (List AU)) (a1:List (List AU)):Option (Bool):=
 if((a0.length:Int) !=(a1.length:Int))then
  some false
 else
  Aq (fun s:Int=>Rc a0 a1 s) 0
def WS (a0 a1:Ar):Option (Bool):=
 if(a0.af !=a1.af)then
  some false
 else
  if(a0.aj !=a1.aj)then
   some false
  else
   if(a0.bd !=a1.bd)then
    some false
   else
    if(a0.gg !=a1.gg)then
     some false
    else
     some true
def Rj (a0 a1:List Ar) (v1:Int):Option ((Int) ⊕ Option (Bool)):=
 if(decide (v1<(a0.length:Int)))then
  (Aj a0 v1).bind fun y2=>
  (Aj a1 v1).bind fun y3=>
  (WS y2 y3).bind fun v4=>
  if(!v4)then
   some (.inr (some false))
  else
   some (.inl (IntKind.i64.wrap (v1+1)))
 else
  some (.inr (some true))
def WC (a0 a1:List Ar):Option (Bool):=
 if((a0.length:Int) !=(a1.length:Int))then
  some false
 else
  Aq (fun s:Int=>Rj a0 a1 s) 0
def WK (a0 a1:BA):Option (Bool):=
 if(a0.aj !=a1.aj)then
  some false
 else
  if(a0.bd !=a1.bd)then
   some false
  else
   if(a0.di !=a1.di)then
    some false
   else
    some true
def Ry (a0 a1:List BA) (v1:Int):Option ((Int) ⊕ Option (Bool)):=
 if(decide (v1<(a0.length:Int)))then
  (Aj a0 v1).bind fun y2=>
  (Aj a1 v1).bind fun y3=>
  (WK y2 y3).bind fun v4=>
  if(!v4)then
   some (.inr (some false))
  else
   some (.inl (IntKind.i64.wrap (v1+1)))
 else
  some (.inr (some true))
def RJ (a0 a1:List BA):Option (Bool):=
 if((a0.length:Int) !=(a1.length:Int))then
  some false
 else
  Aq (fun s:Int=>Ry a0 a1 s) 0
def U5 (a0 a1:B7):Option (Bool):=
 (WC a0.dq a1.dq).bind fun v1=>
 if(!v1)then
  some false
 else
  (RJ a0.bp a1.bp).bind fun v2=>
  if(!v2)then
   some false
  else
   (Oj a0.cb a1.cb).bind fun v3=>
   if(!v3)then
    some false
   else
    if(a0.cu !=a1.cu)then
     some false
    else
     if(a0.ej !=a1.ej)then
      some false
     else
      if(a0.dn !=a1.dn)then
       some false
      else
       if(a0.bq !=a1.bq)then
        some false
       else
        if(a0.ia !=a1.ia)then
         some false
        else
         if(a0.jh !=a1.jh)then
          some false
         else
          if(a0.ew !=a1.ew)then
           some false
          else
           some true
def QL (a0 a1:List B7) (v1:Int):Option ((Int) ⊕ Option (Bool)):=
 if(decide (v1<(a0.length:Int)))then
  (Aj a0 v1).bind fun y2=>
  (Aj a1 v1).bind fun y3=>
  (U5 y2 y3).bind fun v4=>
  if(!v4)then
   some (.inr (some false))
  else
   some (.inl (IntKind.i64.wrap (v1+1)))
 else
  some (.inr (some true))
def UD (a0 a1:List B7):Option (Bool):=
 if((a0.length:Int) !=(a1.length:Int))then
  some false
 else
  Aq (fun s:Int=>QL a0 a1 s) 0
def UC (a0 a1:BK):Option (Bool):=
 if(a0.dw !=a1.dw)then
  some false
 else
  (K1 a0.bm a1.bm).bind fun v1=>
  if(!v1)then
   some false
  else
   (RJ a0.bp a1.bp).bind fun v2=>
   if(!v2)then
    some false
   else
    if(a0.bq !=a1.bq)then
     some false
    else
     if(a0.cu !=a1.cu)then
      some false
     else
      if(a0.ej !=a1.ej)then
       some false
      else
       some true
def QN (a0 a1:List BK) (v1:Int):Option ((Int) ⊕ Option (Bool)):=
 if(decide (v1<(a0.length:Int)))then
  (Aj a0 v1).bind fun y2=>
  (Aj a1 v1).bind fun y3=>
  (UC y2 y3).bind fun v4=>
  if(!v4)then
   some (.inr (some false))
  else
   some (.inl (IntKind.i64.wrap (v1+1)))
 else
  some (.inr (some true))
def UG (a0 a1:List BK):Option (Bool):=
 if((a0.length:Int) !=(a1.length:Int))then
  some false
 else
  Aq (fun s:Int=>QN a0 a1 s) 0
def Wn (a0 a1:By):Option (Bool):=
 if(a0.gi !=a1.gi)then
  some false
 else
  if(a0.bz !=a1.bz)then
   some false
  else
   (Vw a0.ax a1.ax).bind fun v1=>
   if(!v1)then
    some false
   else
    (K1 a0.a7 a1.a7).bind fun v2=>
    if(!v2)then
     some false
    else
     (Vr a0.aw a1.aw).bind fun v3=>
     if(!v3)then
      some false
     else
      (V1 a0.bu a1.bu).bind fun v4=>
      if(!v4)then
       some false
      else
       (Oj a0.a8 a1.a8).bind fun v5=>
       if(!v5)then
        some false
       else
        (UD a0.bj a1.bj).bind fun v6=>
        if(!v6)then
         some false
        else
         (UG a0.bh a1.bh).bind fun v7=>
         if(!v7)then
          some false
         else
          some true
def Wb (a0 a1:Cz):Option (Bool):=
 if(a0.ab !=a1.ab)then
  some false
 else
  (Vq a0.ch a1.ch).bind fun v1=>
  if(!v1)then
   some false
  else
   if(a0.ga !=a1.ga)then
    some false
   else
    (Oj a0.a6 a1.a6).bind fun v2=>
    if(!v2)then
     some false
    else
     (U0 a0.bw a1.bw).bind fun v3=>
     if(!v3)then
      some false
     else
      (Wn a0.aq a1.aq).bind fun v4=>
      if(!v4)then
       some false
      else
       some true
def Uk (a0:Cz):Option (Bool):=
 (Wj a0 1048576).bind fun v1=>
 if(decide (v1<0))then
  some true
 else
  (Ok a0).bind fun v2=>
  (Vx v2).bind fun v3=>
  (Ok a0).bind fun v4=>
  (Vz v4).bind fun v5=>
  if(v5 !=v3)then
   some false
  else
   (Ok a0).bind fun v6=>
   (Wb v4 v6).bind fun v7=>
   if(!v7)then
    some false
   else
    some true
def zhl:FS:=Dx 251 [.v .s, .v (.i .u8)] (.v (.i .i64)) (fun x=>Ui x.1 x.2.1) fun x r _ h=>zhj x.1 x.2.1 r h
def zrb:FS:=Dx 199 [.v (.l .s), .v .s] (.v .s) (fun x=>Wz x.1 x.2.1) fun x r _ h=>zrQ x.1 x.2.1 r h
def RB:FS:=Ah 33 [.v (.l .s), .v (.i .i64)] (.v (.i .i64)) (fun x=>K0 x.1 x.2.1) [] [.sp [.i .i64, .i .i64]]
def zue:FS:=Ah 153 [.v (.st 0), .v (.i .i64)] (.v (.i .i64)) (fun x=>WG x.1 x.2.1) [] []
def zsK:FS:=Ah 83 [.v (.l (.st 0)), .v (.i .i64)] (.v (.i .i64)) (fun x=>V8 x.1 x.2.1) [zue] [.sp [.i .i64, .i .i64]]
def zrq:FS:=Ah 30 [.v (.st 1), .v (.i .i64)] (.v (.i .i64)) (fun x=>Ww x.1 x.2.1) [RB,zsK] []
def zqK:FS:=Ah 9 [.v (.l (.st 1)), .v (.i .i64)] (.v (.i .i64)) (fun x=>Vu x.1 x.2.1) [zrq] [.sp [.i .i64, .i .i64]]
def bZ:FS:=Ah 10 [.v (.l (.i .i64)), .v (.i .i64)] (.v (.i .i64)) (fun x=>Ol x.1 x.2.1) [] []
def mE:FS:=Ah 85 [.v (.st 2), .v (.i .i64)] (.v (.i .i64)) (fun x=>Ot x.1 x.2.1) [RB] []
def zpI:FS:=Ah 84 [.v (.st 3), .v (.i .i64)] (.v (.i .i64)) (fun x=>Vj x.1 x.2.1) [mE] []
def zoX:FS:=Ah 31 [.v (.st 4), .v (.i .i64)] (.v (.i .i64)) (fun x=>UN x.1 x.2.1) [zpI,mE] []
def zn3:FS:=Ah 11 [.v (.l (.st 4)), .v (.i .i64)] (.v (.i .i64)) (fun x=>Uu x.1 x.2.1) [zoX] [.sp [.i .i64, .i .i64]]
def zp9:FS:=Ah 32 [.v (.l (.st 5)), .v (.i .i64)] (.v (.i .i64)) (fun x=>Vy x.1 x.2.1) [] []
def zrB:FS:=Ah 272 [.v (.st 6), .v (.i .i64)] (.v (.i .i64)) (fun x=>VB x.1 x.2.1) [] []
def zqT:FS:=Ah 269 [.v (.l (.st 6)), .v (.i .i64)] (.v (.i .i64)) (fun x=>Vg x.1 x.2.1) [zrB] [.sp [.i .i64, .i .i64]]
def zu4:FS:=Ah 265 [.v (.st 7), .v (.i .i64)] (.v (.i .i64)) (fun x=>WB x.1 x.2.1) [RB,zqT] []
def zrr:FS:=Ah 255 [.v (.st 8), .v (.i .i64)] (.v (.i .i64)) (fun x=>Wv x.1 x.2.1) [zu4] []
def zp6:FS:=Ah 241 [.v (.l (.st 8)), .v (.i .i64)] (.v (.i .i64)) (fun x=>Vn x.1 x.2.1) [zrr] [.sp [.i .i64, .i .i64]]
def zoW:FS:=Ah 206 [.v (.st 9), .v (.i .i64)] (.v (.i .i64)) (fun x=>UT x.1 x.2.1) [zp6] []
def zov:FS:=Ah 154 [.v (.l (.st 9)), .v (.i .i64)] (.v (.i .i64)) (fun x=>U6 x.1 x.2.1) [zoW] [.sp [.i .i64, .i .i64]]
def zrY:FS:=Ah 86 [.v (.st 10), .v (.i .i64)] (.v (.i .i64)) (fun x=>VF x.1 x.2.1) [zov] []
def zpP:FS:=Ah 34 [.v (.l (.st 10)), .v (.i .i64)] (.v (.i .i64)) (fun x=>Vh x.1 x.2.1) [zrY] [.sp [.i .i64, .i .i64]]
def ztU:FS:=Ah 155 [.v (.st 11), .v (.i .i64)] (.v (.i .i64)) (fun x=>V6 x.1 x.2.1) [] []
def zry:FS:=Ah 87 [.v (.l (.st 11)), .v (.i .i64)] (.v (.i .i64)) (fun x=>Wm x.1 x.2.1) [ztU] [.sp [.i .i64, .i .i64]]
def zp1:FS:=Ah 35 [.v (.l (.l (.st 11))), .v (.i .i64)] (.v (.i .i64)) (fun x=>Vl x.1 x.2.1) [zry] [.sp [.i .i64, .i .i64]]
def zvJ:FS:=Ah 207 [.v (.st 12), .v (.i .i64)] (.v (.i .i64)) (fun x=>W6 x.1 x.2.1) [] []
def zt9:FS:=Ah 156 [.v (.l (.st 12)), .v (.i .i64)] (.v (.i .i64)) (fun x=>WL x.1 x.2.1) [zvJ] [.sp [.i .i64, .i .i64]]
def zu2:FS:=Ah 208 [.v (.st 13), .v (.i .i64)] (.v (.i .i64)) (fun x=>WA x.1 x.2.1) [] []
def lU:FS:=Ah 157 [.v (.l (.st 13)), .v (.i .i64)] (.v (.i .i64)) (fun x=>RH x.1 x.2.1) [zu2] [.sp [.i .i64, .i .i64]]
def zol:FS:=Ah 88 [.v (.st 14), .v (.i .i64)] (.v (.i .i64)) (fun x=>U8 x.1 x.2.1) [zt9,lU,bZ] []
def znI:FS:=Ah 36 [.v (.l (.st 14)), .v (.i .i64)] (.v (.i .i64)) (fun x=>Ux x.1 x.2.1) [zol] [.sp [.i .i64, .i .i64]]
def zmY:FS:=Ah 89 [.v (.st 15), .v (.i .i64)] (.v (.i .i64)) (fun x=>UB x.1 x.2.1) [RB,lU] []
def zmT:FS:=Ah 37 [.v (.l (.st 15)), .v (.i .i64)] (.v (.i .i64)) (fun x=>UE x.1 x.2.1) [zmY] [.sp [.i .i64, .i .i64]]
def zrX:FS:=Ah 12 [.v (.st 16), .v (.i .i64)] (.v (.i .i64)) (fun x=>Wu x.1 x.2.1) [zp9,RB,zpP,zp1,bZ,znI,zmT] []
def zt3:FS:=Ah 4 [.v (.st 17), .v (.i .i64)] (.v (.i .i64)) (fun x=>Wj x.1 x.2.1) [zqK,bZ,zn3,zrX] []
def Rx:FS:=Ah 47 [.v (.l .s)] (.v (.l .s)) (fun x=>K2 x.1) [] [.sp [.i .i64, .l .s]]
def zuP:FS:=Ah 175 [.v (.st 0)] (.v (.st 0)) (fun x=>cQ x.1) [] []
def zs7:FS:=Ah 104 [.v (.l (.st 0))] (.v (.l (.st 0))) (fun x=>Wa x.1) [zuP] [.sp [.i .i64, .l (.st 0)]]
def zrg:FS:=Ah 44 [.v (.st 1)] (.v (.st 1)) (fun x=>VQ x.1) [Rx,zs7] []
def zpx:FS:=Ah 14 [.v (.l (.st 1))] (.v (.l (.st 1))) (fun x=>Vm x.1) [zrg] [.sp [.i .i64, .l (.st 1)]]
def cF:FS:=Ah 15 [.v (.l (.i .i64))] (.v (.l (.i .i64))) (fun x=>Om x.1) [] [.sp [.i .i64, .l (.i .i64)]]
def mA:FS:=Ah 106 [.v (.st 2)] (.v (.st 2)) (fun x=>Oq x.1) [Rx] []
def zp4:FS:=Ah 105 [.v (.st 3)] (.v (.st 3)) (fun x=>Vt x.1) [mA] []
def zoR:FS:=Ah 45 [.v (.st 4)] (.v (.st 4)) (fun x=>UR x.1) [zp4,mA] []
def znZ:FS:=Ah 16 [.v (.l (.st 4))] (.v (.l (.st 4))) (fun x=>U3 x.1) [zoR] [.sp [.i .i64, .l (.st 4)]]
def zrw:FS:=Ah 107 [.v (.st 5)] (.v (.st 5)) (fun x=>bP x.1) [] []
def zq0:FS:=Ah 46 [.v (.l (.st 5))] (.v (.l (.st 5))) (fun x=>VZ x.1) [zrw] [.sp [.i .i64, .l (.st 5)]]
def zq7:FS:=Ah 273 [.v (.st 6)] (.v (.st 6)) (fun x=>bL x.1) [] []
def zqO:FS:=Ah 270 [.v (.l (.st 6))] (.v (.l (.st 6))) (fun x=>Vi x.1) [zq7] [.sp [.i .i64, .l (.st 6)]]
def zuO:FS:=Ah 267 [.v (.st 7)] (.v (.st 7)) (fun x=>WM x.1) [Rx,zqO] []
def zrO:FS:=Ah 259 [.v (.st 8)] (.v (.st 8)) (fun x=>Wo x.1) [zuO] []
def zqj:FS:=Ah 244 [.v (.l (.st 8))] (.v (.l (.st 8))) (fun x=>Vs x.1) [zrO] [.sp [.i .i64, .l (.st 8)]]
def zo1:FS:=Ah 222 [.v (.st 9)] (.v (.st 9)) (fun x=>UL x.1) [zqj] []
def zom:FS:=Ah 176 [.v (.l (.st 9))] (.v (.l (.st 9))) (fun x=>U4 x.1) [zo1] [.sp [.i .i64, .l (.st 9)]]
def zrs:FS:=Ah 108 [.v (.st 10)] (.v (.st 10)) (fun x=>Wx x.1) [zom] []
def zpv:FS:=Ah 48 [.v (.l (.st 10))] (.v (.l (.st 10))) (fun x=>Vo x.1) [zrs] [.sp [.i .i64, .l (.st 10)]]
def zsz:FS:=Ah 177 [.v (.st 11)] (.v (.st 11)) (fun x=>cB x.1) [] []
def zq8:FS:=Ah 109 [.v (.l (.st 11))] (.v (.l (.st 11))) (fun x=>VJ x.1) [zsz] [.sp [.i .i64, .l (.st 11)]]
def zqi:FS:=Ah 49 [.v (.l (.l (.st 11)))] (.v (.l (.l (.st 11)))) (fun x=>Vc x.1) [zq8] [.sp [.i .i64, .l (.l (.st 11))]]
def zvU:FS:=Ah 223 [.v (.st 12)] (.v (.st 12)) (fun x=>dH x.1) [] []
def zul:FS:=Ah 178 [.v (.l (.st 12))] (.v (.l (.st 12))) (fun x=>WI x.1) [zvU] [.sp [.i .i64, .l (.st 12)]]
def zuL:FS:=Ah 224 [.v (.st 13)] (.v (.st 13)) (fun x=>cP x.1) [] []
def lP:FS:=Ah 179 [.v (.l (.st 13))] (.v (.l (.st 13))) (fun x=>RU x.1) [zuL] [.sp [.i .i64, .l (.st 13)]]
def zoa:FS:=Ah 110 [.v (.st 14)] (.v (.st 14)) (fun x=>U9 x.1) [zul,lP,cF] []
def zng:FS:=Ah 50 [.v (.l (.st 14))] (.v (.l (.st 14))) (fun x=>UA x.1) [zoa] [.sp [.i .i64, .l (.st 14)]]
def zm9:FS:=Ah 111 [.v (.st 15)] (.v (.st 15)) (fun x=>Uy x.1) [Rx,lP] []
def zmx:FS:=Ah 51 [.v (.l (.st 15))] (.v (.l (.st 15))) (fun x=>Up x.1) [zm9] [.sp [.i .i64, .l (.st 15)]]
def zr2:FS:=Ah 17 [.v (.st 16)] (.v (.st 16)) (fun x=>Wy x.1) [zq0,Rx,zpv,zqi,cF,zng,zmx] []
def zs5:FS:=Ah 6 [.v (.st 17)] (.v (.st 17)) (fun x=>Ok x.1) [zpx,cF,znZ,zr2] []
def lD:FS:=Ah 158 [.v .s, .v (.i .i64)] (.v .b) (fun x=>NO x.1 x.2.1) [] [.sp [.i .i64]]
def zvo:FS:=Ah 209 [.v (.l .s), .v .s] (.v (.i .i64)) (fun x=>WR x.1 x.2.1) [] [.sp [.i .i64]]
def Er:FS:=Ah 39 [.v (.i .i64), .v (.i .i64), .v (.i .i64)] (.v .b) (fun x=>Cl x.1 x.2.1 x.2.2.1) [] []
def zrI:FS:=Ah 159 [.v (.l .s)] (.v .b) (fun x=>Wr x.1) [Er,lD,zvo] [.sp [.i .i64]]
def UP:FS:=Ah 90 [.v (.st 1)] (.v .b) (fun x=>Mk x.1) [lD,zrI,Er] [.sp [.i .i64]]
def V7:FS:=Ah 160 [.v (.st 1), .v .s] (.v (.i .i64)) (fun x=>Mm x.1 x.2.1) [] [.sp [.i .i64]]
def lZ:FS:=Ah 91 [.v (.st 1), .v .s] (.tu (.cons (.v (.st 0)) (.cons (.v .b) .nil))) (fun x=>RV x.1 x.2.1) [V7,UP] []
def zqW:FS:=Ah 161 [.v (.st 1), .v .s, .v (.i .i64)] (.v .b) (fun x=>Og x.1 x.2.1 x.2.2.1) [UP,V7,Er] []
def lS:FS:=Ah 210 [.v (.st 1)] (.v (.st 1)) (fun x=>RE x.1) [] []
def ztJ:FS:=Ah 211 [.v (.st 1), .v .s, .v (.i .i64)] (.v (.st 1)) (fun x=>RO x.1 x.2.1 x.2.2.1) [lS,V7] []
def ztj:FS:=Ah 162 [.v (.st 1), .v .s, .v (.i .i64)] (.v (.l (.st 1))) (fun x=>V2 x.1 x.2.1 x.2.2.1) [lS,V7,ztJ] [.sp [.i .i64, .l (.st 1)], .inl]
def zuA:FS:=Ah 92 [.v (.st 1), .v .s, .v (.i .i64)] (.tu (.cons (.v (.l (.st 1))) (.cons (.v .b) .nil))) (fun x=>Ou x.1 x.2.1 x.2.2.1) [zqW,ztj] []
def zrf:FS:=Ah 163 [.v (.l .s), .v (.l .s)] (.v .b) (fun x=>VN x.1 x.2.1) [] [.sp [.i .i64]]
def zmI:FS:=Ah 93 [.v (.st 1), .v (.st 1)] (.v .b) (fun x=>QU x.1 x.2.1) [zrf] [.sp [.i .i64]]
def zrS:FS:=Ah 38 [.v (.l (.st 1)), .v .s] (.v .b) (fun x=>VH x.1 x.2.1) [UP,lZ,zuA,zmI] [.sp [.i .i64]]
def cL:FS:=Ah 40 [.v (.l (.i .i64)), .v (.i .i64), .v (.i .i64)] (.v .b) (fun x=>Oo x.1 x.2.1 x.2.2.1) [Er] [.sp [.i .i64]]
def bK:FS:=Ah 212 [.v .s, .v .s] (.v .b) (fun x=>Oi x.1 x.2.1) [] [.sp [.i .i64], .sp [.b, .i .i64]]
def Mq:FS:=Ah 164 [.v .s] (.v .b) (fun x=>IS x.1) [Er,bK] []
def zq9:FS:=Ah 94 [.v (.l .s)] (.v .b) (fun x=>VM x.1) [Mq] [.sp [.i .i64]]
def zti:FS:=Ah 256 [.v (.i .i64)] (.v .b) (fun x=>RF x.1) [Er] []
def ztl:FS:=Ah 257 [.v (.l .s)] (.v .b) (fun x=>Wh x.1) [Mq] [.sp [.i .i64]]
def cO:FS:=Ah 215 [.v .s] (.v .b) (fun x=>On x.1) [bK] []
def zrT:FS:=Ah 266 [.v .s, .v .s, .v .b] (.v .b) (fun x=>VO x.1 x.2.1 x.2.2.1) [Mq,cO] []
def zqc:FS:=Ah 258 [.v (.l (.st 6))] (.v .b) (fun x=>Vf x.1) [zrT] [.sp [.i .i64]]
def zsD:FS:=Ah 242 [.v (.st 7)] (.v .b) (fun x=>cC x.1) [Er,zti,ztl,zqc] [.pt]
def zrp:FS:=Ah 213 [.v (.st 7)] (.v .b) (fun x=>Wl x.1) [zsD] []
def zo4:FS:=Ah 165 [.v (.st 9), .v (.i .i64)] (.v .b) (fun x=>Rw x.1 x.2.1) [Er,zrp] [.sp [.i .i64, .i .i64]]
def zoT:FS:=Ah 95 [.v (.st 10)] (.v .b) (fun x=>UH x.1) [Er,zo4] [.sp [.i .i64]]
def zrz:FS:=Ah 166 [.v (.st 11)] (.v .b) (fun x=>VV x.1) [Mq,Er] []
def zqZ:FS:=Ah 167 [.v (.st 11), .v (.st 11)] (.v .b) (fun x=>Vv x.1 x.2.1) [] []
def zrP:FS:=Ah 96 [.v (.l (.st 11))] (.v .b) (fun x=>VK x.1) [zrz,zqZ] [.sp [.i .i64], .sp [.i .i64]]
def zrW:FS:=Ah 97 [.v (.st 5)] (.v .b) (fun x=>bS x.1) [Er] []
def zvz:FS:=Ah 214 [.v (.st 12)] (.v .b) (fun x=>WT x.1) [Mq,cO,Er] [.pt, .inl]
def zta:FS:=Ah 168 [.v (.l (.st 12))] (.v .b) (fun x=>Wg x.1) [zvz] [.sp [.i .i64]]
def lT:FS:=Ah 169 [.v (.l (.st 13))] (.v .b) (fun x=>RS x.1) [Mq,cO] [.sp [.i .i64], .sp [.i .i64]]
def cH:FS:=Ah 100 [.v (.i .i64)] (.v .b) (fun x=>RG x.1) [Er] []
def ztQ:FS:=Ah 98 [.v (.st 16), .v (.st 14)] (.v .b) (fun x=>V9 x.1 x.2.1) [zta,lT,cL,Er,cH] []
def zrm:FS:=Ah 170 [.v (.l .s)] (.v .b) (fun x=>VT x.1) [Er,Mq] [.sp [.i .i64]]
def zrH:FS:=Ah 99 [.v (.st 16), .v (.st 15)] (.v .b) (fun x=>VI x.1 x.2.1) [zrm,lT,Er,cH] [.sp [.i .i64]]
def zrv:FS:=Ah 41 [.v (.st 16)] (.v .b) (fun x=>VR x.1) [zq9,cL,cH,Er,zrH,ztQ,zrW,zoT,zrP] [.sp [.i .i64], .sp [.i .i64], .sp [.i .i64], .sp [.i .i64]]
def zqx:FS:=Ah 101 [.v (.st 3)] (.v .b) (fun x=>V0 x.1) [] []
def zpy:FS:=Ah 216 [.v .s] (.v .b) (fun x=>Vb x.1) [Er,bK] []
def lN:FS:=Ah 171 [.v (.st 1), .v (.st 2)] (.v .b) (fun x=>K4 x.1 x.2.1) [zpy] [.sp [.i .i64]]
def zrt:FS:=Ah 243 [.v (.l .s), .v .s] (.v .s) (fun x=>bM x.1 x.2.1) [] [.sp [.s, .i .i64], .inl]
def lJ:FS:=Ah 217 [.v (.st 1), .v (.st 2)] (.v (.st 6)) (fun x=>Mi x.1 x.2.1) [zrt] []
def lI:FS:=Ah 218 [.v (.st 1), .v (.st 0), .v (.st 2)] (.v .s) (fun x=>Oh x.1 x.2.1 x.2.2.1) [] []
def zrM:FS:=Ah 172 [.v (.st 1), .v (.st 0), .v (.st 2)] (.v (.l (.st 12))) (fun x=>bO x.1 x.2.1 x.2.2.1) [lJ,lI] []
def zrd:FS:=Ah 102 [.v (.st 1), .v .s, .v (.st 2)] (.tu (.cons (.v (.l (.st 12))) (.cons (.v .b) .nil))) (fun x=>bT x.1 x.2.1 x.2.2.1) [lZ,lN,zrM] []
def zr0:FS:=Ah 219 [.v (.st 1), .v (.st 3)] (.v .b) (fun x=>VA x.1 x.2.1) [lN] []
def zrh:FS:=Ah 173 [.v (.st 1), .v (.st 3)] (.v .b) (fun x=>bN x.1 x.2.1) [UP,zr0] []
def zrZ:FS:=Ah 220 [.v (.st 1), .v (.st 3)] (.v (.l (.st 12))) (fun x=>VS x.1 x.2.1) [lJ] []
def ztZ:FS:=Ah 221 [.v (.st 1), .v (.st 0), .v (.st 3)] (.v (.l (.st 12))) (fun x=>RM x.1 x.2.1 x.2.2.1) [lI] [.sp [.s], .pt, .pt, .inl]
def zsW:FS:=Ah 174 [.v (.st 1), .v (.st 3)] (.v (.l (.st 12))) (fun x=>Wc x.1 x.2.1) [zrZ,ztZ] [.sp [.i .i64, .l (.st 12)]]
def ztC:FS:=Ah 103 [.v (.st 1), .v (.st 3)] (.tu (.cons (.v (.l (.st 12))) (.cons (.v .b) .nil))) (fun x=>cK x.1 x.2.1) [zrh,zsW] []
def ztW:FS:=Ah 42 [.v (.l (.st 1)), .v .s, .v (.st 4)] (.tu (.cons (.v (.l (.st 12))) (.cons (.v .b) .nil))) (fun x=>V5 x.1 x.2.1 x.2.2.1) [Er,zqx,zrd,ztC] []
def znX:FS:=Ah 43 [.v (.l (.st 12)), .v (.l (.st 12))] (.v .b) (fun x=>U7 x.1 x.2.1) [] [.sp [.i .i64]]
def zrA:FS:=Ah 13 [.v (.st 17)] (.v .b) (fun x=>bI x.1) [zrS,Er,cL,zrv,ztW,znX] [.sp [.i .i64], .sp [.i .i64]]
def zpH:FS:=Ah 5 [.v (.st 17)] (.v .b) (fun x=>Vx x.1) [zrA] []
def D2:FS:=Ah 19 [.v (.i .i64), .v (.i .i64), .v (.i .i64)] (.v .b) (fun x=>Dd x.1 x.2.1 x.2.2.1) [] []
def zoj:FS:=Ah 180 [.v .s, .v (.i .i64)] (.v .b) (fun x=>N7 x.1 x.2.1) [D2] [.sp [.i .i64]]
def zhI:FS:=Ah 225 [.v (.l .s), .v .s] (.v (.i .i64)) (fun x=>Uj x.1 x.2.1) [] [.sp [.i .i64]]
def zgj:FS:=Ah 181 [.v (.l .s), .v .s] (.v .b) (fun x=>Uc x.1 x.2.1) [zhI] []
def zrJ:FS:=Ah 182 [.v (.i .i64)] (.v .b) (fun x=>bR x.1) [D2] []
def zoU:FS:=Ah 112 [.v (.st 1)] (.v .b) (fun x=>UI x.1) [zoj,D2,zrJ,zgj] [.sp [.i .i64], .sp [.i .i64]]
def ze4:FS:=Dx 183 [.v (.l (.st 0)), .fn [.st 0] .b] (.v (.i .i64)) (fun x=>Es x.1 (fun y=>x.2.1.φ (y,()))) fun x r hp h=>DD (f:=183) (t:=Is 3) (by kernel_rfl) (by kernel_rfl) (JZ (av:=(Bn Cf.av (.st 0))) (cn:=3) (fun _=>⟨_,rfl,rfl⟩) h (fun y b hb=>hp.2.1 (y,()) b hb))
def zkf:FS:=Ah 184 [.v (.st 0), .rf .s] (.v .b) (fun x=>Z2 x.1 x.2.1) [] []
def zj5:FS:=Hp zkf fun _=>by kernel_rfl
def Z5:FS:=Ah 113 [.v (.st 1), .v .s] (.v (.i .i64)) (fun x=>NF x.1 x.2.1) [ze4,zj5] []
def zs1:FS:=Ah 52 [.v (.st 1), .v .s] (.v .b) (fun x=>V4 x.1 x.2.1) [zoU,Z5] []
def aU:FS:=Ah 53 [.v (.st 1), .v .s] (.v (.st 0)) (fun x=>JN x.1 x.2.1) [Z5] []
def zht:FS:=Dx 185 [.v (.l .s)] (.v (.l .s)) (fun x=>ZW x.1) fun x r hp h=>DD (f:=185) (t:=XV 16 1) (by kernel_rfl) (by kernel_rfl) (nV (bytes:=16) (sz:=1) (av:=(Bn Cf.av .s)) (fun x=>⟨XF _ x,WW (by kernel_rfl) x⟩) h)
def zf7:FS:=Dx 186 [.v (.l (.st 0))] (.v (.l (.st 0))) (fun x=>ZX x.1) fun x r hp h=>DD (f:=186) (t:=XV 32 3) (by kernel_rfl) (by kernel_rfl) (nV (bytes:=32) (sz:=3) (av:=(Bn Cf.av (.st 0))) (fun x=>⟨XF _ x,WW (by kernel_rfl) x⟩) h)
def lG:FS:=Ah 114 [.v (.st 1)] (.v (.st 1)) (fun x=>Ru x.1) [zht,zf7] []
def zkA:FS:=Ah 115 [.v (.st 1), .v .s, .v (.i .i64)] (.v (.st 1)) (fun x=>QQ x.1 x.2.1 x.2.2.1) [lG,Z5] []
def zl9:FS:=Ah 55 [.v (.st 1), .v .s, .v (.i .i64)] (.v (.l (.st 1))) (fun x=>Us x.1 x.2.1 x.2.2.1) [aU,lG,zkA] [.sp [.i .i64, .l (.st 1)], .inl]
def zbr:FS:=Ah 54 [.v (.l (.st 1)), .v (.l (.st 1)), .fn [.st 1, .st 1] .b] (.v .b) (fun x=>Uf x.1 x.2.1 (fun y0 y1=>x.2.2.1.φ (y0,y1,()))) [] [.sp [.i .i64]]
def kW:FS:=Ah 22 [.v (.l .s), .v (.l .s)] (.v .b) (fun x=>JO x.1 x.2.1) [] [.sp [.i .i64]]
def zf3:FS:=Ah 116 [.v (.l (.st 0)), .v (.l (.st 0))] (.v .b) (fun x=>Ue x.1 x.2.1) [] [.sp [.i .i64]]
def zo8:FS:=Ah 56 [.v (.st 1), .v (.st 1)] (.v .b) (fun x=>KZ x.1 x.2.1) [kW,zf3] []
def znY:FS:=Hp zo8 fun _=>by kernel_rfl
def zro:FS:=Ah 18 [.v (.l (.st 1)), .v .s] (.v .b) (fun x=>VU x.1 x.2.1) [zs1,aU,zl9,zbr,znY] []
def We:FS:=Ah 57 [.v (.i .i64)] (.v .b) (fun x=>Ml x.1) [D2] []
def zqL:FS:=Ah 20 [.v (.l (.i .i64))] (.v .b) (fun x=>Vd x.1) [We] [.sp [.i .i64]]
def zlK:FS:=Ah 233 [.v (.i .u8)] (.v .b) (fun x=>Z3 x.1) [] []
def zmq:FS:=Ah 234 [.v .s, .v (.i .u8)] (.v (.i .i64)) (fun x=>aA x.1 x.2.1) [zhl] []
def bW:FS:=Ah 198 [.v .s, .v .s] (.v .b) (fun x=>Of x.1 x.2.1) [zlK,zmq] [.sp [.i .i64]]
def Wt:FS:=Ah 187 [.v .s] (.v .b) (fun x=>Mo x.1) [D2,bW] []
def UY:FS:=Ah 117 [.v (.l .s)] (.v .b) (fun x=>K3 x.1) [Wt] [.sp [.i .i64]]
def zqV:FS:=Ah 58 [.v (.l .s)] (.v .b) (fun x=>Vk x.1) [UY] []
def ztq:FS:=Ah 118 [.v (.i .i64)] (.v .b) (fun x=>cJ x.1) [] []
def zl8:FS:=Ah 119 [.v (.st 10), .v (.i .i64)] (.v .b) (fun x=>aI x.1 x.2.1) [D2] []
def zdw:FS:=Dx 188 [.v (.l (.st 9)), .fn [.st 9] .b] (.v (.i .i64)) (fun x=>Es x.1 (fun y=>x.2.1.φ (y,()))) fun x r hp h=>DD (f:=188) (t:=Is 3) (by kernel_rfl) (by kernel_rfl) (JZ (av:=(Bn Cf.av (.st 9))) (cn:=3) (fun _=>⟨_,rfl,rfl⟩) h (fun y b hb=>hp.2.1 (y,()) b hb))
def zcZ:FS:=Dx 120 [.v (.l (.st 9)), .fn [.st 9] .b] (.v .b) (fun x=>CH x.1 (fun y=>x.2.1.φ (y,()))) fun x r hp h=>DD (f:=120) (t:=Hz 188) (by kernel_rfl) (by kernel_rfl) (I3 h fun r hr=>zdw.ok x r hp hr)
def mC:FS:=Ah 190 [.v (.i .i64)] (.v .b) (fun x=>RX x.1) [D2] []
def ztV:FS:=Ah 226 [.v (.i .i64)] (.v .b) (fun x=>RQ x.1) [D2] []
def zpd:FS:=Ah 245 [.v (.l (.st 6))] (.v (.l .s)) (fun x=>UW x.1) [] [.sp [.i .i64, .l .s]]
def zd8:FS:=Dx 260 [.v (.l (.st 6)), .fn [.st 6] .b] (.v (.i .i64)) (fun x=>Es x.1 (fun y=>x.2.1.φ (y,()))) fun x r hp h=>DD (f:=260) (t:=Is 3) (by kernel_rfl) (by kernel_rfl) (JZ (av:=(Bn Cf.av (.st 6))) (cn:=3) (fun _=>⟨_,rfl,rfl⟩) h (fun y b hb=>hp.2.1 (y,()) b hb))
def zdy:FS:=Dx 246 [.v (.l (.st 6)), .fn [.st 6] .b] (.v .b) (fun x=>CH x.1 (fun y=>x.2.1.φ (y,()))) fun x r hp h=>DD (f:=246) (t:=Hz 260) (by kernel_rfl) (by kernel_rfl) (I3 h fun r hr=>zd8.ok x r hp hr)
def lO:FS:=Ah 231 [.v .s] (.v .b) (fun x=>RD x.1) [bW] []
def lF:FS:=Ah 193 [.v .s, .v .b] (.v .b) (fun x=>Rk x.1 x.2.1) [lO] []
def zmQ:FS:=Ah 247 [.v (.st 6)] (.v .b) (fun x=>Uo x.1) [lF] []
def zl6:FS:=Hp zmQ fun _=>by kernel_rfl
def zn1:FS:=Ah 227 [.v (.l (.st 6))] (.v .b) (fun x=>Uv x.1) [zpd,UY,zdy,zl6] []
def zrN:FS:=Ah 189 [.v (.st 7)] (.v .b) (fun x=>VP x.1) [mC,ztV,D2,UY,zn1] [.pt]
def zuI:FS:=Ah 122 [.v (.l (.st 8)), .v (.i .i64)] (.v .b) (fun x=>WE x.1 x.2.1) [D2,zrN] [.sp [.i .i64]]
def znj:FS:=Ah 121 [.v (.st 9), .rf (.st 10)] (.v .b) (fun x=>Nr x.1 x.2.1) [zuI,D2] []
def zmR:FS:=Hp znj fun _=>by kernel_rfl
def zoV:FS:=Ah 59 [.v (.st 10)] (.v .b) (fun x=>UK x.1) [ztq,D2,zl8,zcZ,zmR] []
def ztu:FS:=Ah 123 [.v (.st 11)] (.v .b) (fun x=>V3 x.1) [Wt,mC] []
def zeE:FS:=Dx 191 [.v (.l (.st 11)), .fn [.st 11] .b] (.v (.i .i64)) (fun x=>Es x.1 (fun y=>x.2.1.φ (y,()))) fun x r hp h=>DD (f:=191) (t:=Is 3) (by kernel_rfl) (by kernel_rfl) (JZ (av:=(Bn Cf.av (.st 11))) (cn:=3) (fun _=>⟨_,rfl,rfl⟩) h (fun y b hb=>hp.2.1 (y,()) b hb))
def zdY:FS:=Dx 124 [.v (.l (.st 11)), .fn [.st 11] .b] (.v .b) (fun x=>CH x.1 (fun y=>x.2.1.φ (y,()))) fun x r hp h=>DD (f:=124) (t:=Hz 191) (by kernel_rfl) (by kernel_rfl) (I3 h fun r hr=>zeE.ok x r hp hr)
def zqe:FS:=Ah 126 [.v (.st 11), .v (.st 11)] (.v .b) (fun x=>lE x.1 x.2.1) [] []
def znE:FS:=Ah 125 [.v (.st 11), .rf (.st 11)] (.v .b) (fun x=>aS x.1 x.2.1) [zqe] []
def zmC:FS:=Hp znE fun _=>by kernel_rfl
def zpe:FS:=Ah 60 [.v (.l (.st 11))] (.v .b) (fun x=>UO x.1) [ztu,zdY,zmC] [.sp [.i .i64]]
def zec:FS:=Dx 127 [.v (.l (.st 5)), .fn [.st 5] .b] (.v (.i .i64)) (fun x=>Es x.1 (fun y=>x.2.1.φ (y,()))) fun x r hp h=>DD (f:=127) (t:=Is 1) (by kernel_rfl) (by kernel_rfl) (JZ (av:=(Bn Cf.av (.st 5))) (cn:=1) (fun _=>⟨_,rfl,rfl⟩) h (fun y b hb=>hp.2.1 (y,()) b hb))
def zdz:FS:=Dx 61 [.v (.l (.st 5)), .fn [.st 5] .b] (.v .b) (fun x=>CH x.1 (fun y=>x.2.1.φ (y,()))) fun x r hp h=>DD (f:=61) (t:=Hz 127) (by kernel_rfl) (by kernel_rfl) (I3 h fun r hr=>zec.ok x r hp hr)
def zo0:FS:=Ah 63 [.v (.st 5)] (.v .b) (fun x=>lH x.1) [D2] []
def zm8:FS:=Ah 62 [.v (.st 5)] (.v .b) (fun x=>Uz x.1) [zo0] []
def zmJ:FS:=Hp zm8 fun _=>by kernel_rfl
def zc1:FS:=Dx 128 [.v (.l (.st 14)), .fn [.st 14] .b] (.v (.i .i64)) (fun x=>Es x.1 (fun y=>x.2.1.φ (y,()))) fun x r hp h=>DD (f:=128) (t:=Is 10) (by kernel_rfl) (by kernel_rfl) (JZ (av:=(Bn Cf.av (.st 14))) (cn:=10) (fun _=>⟨_,rfl,rfl⟩) h (fun y b hb=>hp.2.1 (y,()) b hb))
def zcy:FS:=Dx 64 [.v (.l (.st 14)), .fn [.st 14] .b] (.v .b) (fun x=>CH x.1 (fun y=>x.2.1.φ (y,()))) fun x r hp h=>DD (f:=64) (t:=Hz 128) (by kernel_rfl) (by kernel_rfl) (I3 h fun r hr=>zc1.ok x r hp hr)
def zft:FS:=Dx 248 [.v (.l (.st 12)), .fn [.st 12] .b] (.v (.i .i64)) (fun x=>Es x.1 (fun y=>x.2.1.φ (y,()))) fun x r hp h=>DD (f:=248) (t:=Is 4) (by kernel_rfl) (by kernel_rfl) (JZ (av:=(Bn Cf.av (.st 12))) (cn:=4) (fun _=>⟨_,rfl,rfl⟩) h (fun y b hb=>hp.2.1 (y,()) b hb))
def zeT:FS:=Dx 228 [.v (.l (.st 12)), .fn [.st 12] .b] (.v .b) (fun x=>CH x.1 (fun y=>x.2.1.φ (y,()))) fun x r hp h=>DD (f:=228) (t:=Hz 248) (by kernel_rfl) (by kernel_rfl) (I3 h fun r hr=>zft.ok x r hp hr)
def ztt:FS:=Ah 249 [.v (.i .i64)] (.v .b) (fun x=>cE x.1) [] []
def zu3:FS:=Ah 250 [.v (.i .i64)] (.v .b) (fun x=>WN x.1) [] []
def zvL:FS:=Ah 230 [.v (.st 12)] (.v .b) (fun x=>WU x.1) [D2,Wt,lO,ztt,zu3] []
def zpb:FS:=Ah 229 [.v (.st 12)] (.v .b) (fun x=>UM x.1) [zvL] []
def zn8:FS:=Hp zpb fun _=>by kernel_rfl
def zri:FS:=Ah 192 [.v (.l (.st 12))] (.v .b) (fun x=>zip x.1) [zeT,zn8] []
def zo7:FS:=Ah 129 [.v (.l (.st 12))] (.v .b) (fun x=>bH x.1) [zri] []
def ze1:FS:=Dx 232 [.v (.l (.st 13)), .fn [.st 13] .b] (.v (.i .i64)) (fun x=>Es x.1 (fun y=>x.2.1.φ (y,()))) fun x r hp h=>DD (f:=232) (t:=Is 3) (by kernel_rfl) (by kernel_rfl) (JZ (av:=(Bn Cf.av (.st 13))) (cn:=3) (fun _=>⟨_,rfl,rfl⟩) h (fun y b hb=>hp.2.1 (y,()) b hb))
def zem:FS:=Dx 194 [.v (.l (.st 13)), .fn [.st 13] .b] (.v .b) (fun x=>CH x.1 (fun y=>x.2.1.φ (y,()))) fun x r hp h=>DD (f:=194) (t:=Hz 232) (by kernel_rfl) (by kernel_rfl) (I3 h fun r hr=>ze1.ok x r hp hr)
def zqI:FS:=Ah 195 [.v (.st 13), .rf (.st 13)] (.v .b) (fun x=>bX x.1 x.2.1) [] []
def zo2:FS:=Hp zqI fun _=>by kernel_rfl
def lX:FS:=Ah 130 [.v (.l (.st 13))] (.v .b) (fun x=>RR x.1) [Wt,lF,zem,zo2] [.sp [.i .i64]]
def ziG:FS:=Dx 196 [.v (.l (.i .i64)), .fn [.i .i64] .b] (.v (.i .i64)) (fun x=>Es x.1 (fun y=>x.2.1.φ (y,()))) fun x r hp h=>DD (f:=196) (t:=XS) (by kernel_rfl) (by kernel_rfl) (pP (av:=(Bn Cf.av (.i .i64))) (fun _=>rfl) h (fun y b hb=>hp.2.1 (y,()) b hb))
def zhk:FS:=Dx 131 [.v (.l (.i .i64)), .fn [.i .i64] .b] (.v .b) (fun x=>CH x.1 (fun y=>x.2.1.φ (y,()))) fun x r hp h=>DD (f:=131) (t:=Hz 196) (by kernel_rfl) (by kernel_rfl) (I3 h fun r hr=>ziG.ok x r hp hr)
def zjc:FS:=Ah 132 [.v (.i .i64)] (.v .b) (fun x=>ZZ x.1) [D2] []
def ziM:FS:=Hp zjc fun _=>by kernel_rfl
def kY:FS:=Ah 133 [.v (.st 16), .v (.i .i64)] (.v .b) (fun x=>Mg x.1 x.2.1) [D2] []
def zj2:FS:=Ah 66 [.v (.st 16), .v (.st 14)] (.v .b) (fun x=>Ug x.1 x.2.1) [zo7,lX,zhk,ziM,kY,We] []
def zne:FS:=Ah 65 [.v (.st 14), .rf (.st 16)] (.v .b) (fun x=>Q7 x.1 x.2.1) [zj2] []
def zmA:FS:=Hp zne fun _=>by kernel_rfl
def zcP:FS:=Dx 134 [.v (.l (.st 15)), .fn [.st 15] .b] (.v (.i .i64)) (fun x=>Es x.1 (fun y=>x.2.1.φ (y,()))) fun x r hp h=>DD (f:=134) (t:=Is 6) (by kernel_rfl) (by kernel_rfl) (JZ (av:=(Bn Cf.av (.st 15))) (cn:=6) (fun _=>⟨_,rfl,rfl⟩) h (fun y b hb=>hp.2.1 (y,()) b hb))
def zcm:FS:=Dx 67 [.v (.l (.st 15)), .fn [.st 15] .b] (.v .b) (fun x=>CH x.1 (fun y=>x.2.1.φ (y,()))) fun x r hp h=>DD (f:=67) (t:=Hz 134) (by kernel_rfl) (by kernel_rfl) (I3 h fun r hr=>zcP.ok x r hp hr)
def zlB:FS:=Ah 135 [.v (.st 16), .v (.i .i64)] (.v .b) (fun x=>Z6 x.1 x.2.1) [D2] []
def znH:FS:=Ah 136 [.v (.l .s)] (.v .b) (fun x=>Uw x.1) [D2,UY] []
def zjv:FS:=Ah 69 [.v (.st 16), .v (.st 15)] (.v .b) (fun x=>Uh x.1 x.2.1) [zlB,znH,lX,We,kY] [.sp [.i .i64]]
def znK:FS:=Ah 68 [.v (.st 15), .rf (.st 16)] (.v .b) (fun x=>Q4 x.1 x.2.1) [zjv] []
def zmG:FS:=Hp znK fun _=>by kernel_rfl
def zo6:FS:=Ah 21 [.v (.st 16)] (.v .b) (fun x=>Rr x.1) [zqV,We,D2,zdz,zmJ,zcy,zmA,zcm,zmG,zoV,zpe] [.sp [.i .i64]]
def ztx:FS:=Ah 70 [.v (.st 3)] (.v .b) (fun x=>RP x.1) [] []
def zf2:FS:=Dx 197 [.v (.l .s), .fn [.s] .b] (.v (.i .i64)) (fun x=>Es x.1 (fun y=>x.2.1.φ (y,()))) fun x r hp h=>DD (f:=197) (t:=XS) (by kernel_rfl) (by kernel_rfl) (pP (av:=(Bn Cf.av .s)) (fun _=>rfl) h (fun y b hb=>hp.2.1 (y,()) b hb))
def ze7:FS:=Dx 137 [.v (.l .s), .fn [.s] .b] (.v .b) (fun x=>CH x.1 (fun y=>x.2.1.φ (y,()))) fun x r hp h=>DD (f:=137) (t:=Hz 197) (by kernel_rfl) (by kernel_rfl) (I3 h fun r hr=>zf2.ok x r hp hr)
def zrR:FS:=Ah 139 [.v .s] (.v .b) (fun x=>VX x.1) [D2,bW] []
def zll:FS:=Ah 138 [.v .s] (.v .b) (fun x=>Um x.1) [zrR] []
def zkO:FS:=Hp zll fun _=>by kernel_rfl
def lA:FS:=Ah 71 [.v (.st 1), .v (.st 2)] (.v .b) (fun x=>KX x.1 x.2.1) [ze7,zkO] []
def zk7:FS:=Ah 72 [.v (.st 1), .v (.st 3)] (.v .b) (fun x=>Un x.1 x.2.1) [lA] []
def zvj:FS:=Ah 23 [.v (.l (.st 1)), .v (.st 4)] (.v .b) (fun x=>WH x.1 x.2.1) [D2,ztx,lA,zk7] []
def kX:FS:=Ah 140 [.v (.st 1), .v (.st 2)] (.v (.st 6)) (fun x=>NB x.1 x.2.1) [zrb] []
def zli:FS:=Ah 200 [.v (.st 1), .v .s] (.v .s) (fun x=>Ul x.1 x.2.1) [] []
def lB:FS:=Ah 141 [.v (.st 1), .v .s, .v (.st 2)] (.v .s) (fun x=>KY x.1 x.2.1 x.2.2.1) [zli,aU] []
def zlk:FS:=Ah 73 [.v (.st 1), .v .s, .v (.st 2)] (.v (.l (.st 12))) (fun x=>Z4 x.1 x.2.1 x.2.2.1) [kX,lB] []
def zk1:FS:=Ah 142 [.v (.i .i64), .v (.st 6), .rf (.l (.st 12))] (.tu (.cons (.tu .nil) (.cons (.bo (.l (.st 12))) .nil))) (fun x=>IL x.1 x.2.1 x.2.2.1) [] []
def zq6:FS:=Ah 143 [.v (.i .i64)] (.v .b) (fun x=>bJ x.1) [] []
def zra:FS:=Ah 144 [.v (.i .i64)] (.v .b) (fun x=>bQ x.1) [] []
def zlC:FS:=Ah 74 [.v (.st 1), .v (.st 3)] (.v (.l (.st 12))) (fun x=>Ut x.1 x.2.1) [zra,zk1,zq6,lB,kX] [.sp [.s, .s, .b, .l (.st 12)], .pt, .pt, .sp [.i .i64, .l (.st 12)], .inl, .sp [.s], .pt, .pt]
def zsH:FS:=Ah 25 [.v (.l (.st 1)), .v .s, .v (.st 4)] (.v (.l (.st 12))) (fun x=>RN x.1 x.2.1 x.2.2.1) [zlk,zlC] []
def zgX:FS:=Ah 24 [.v (.l (.st 12)), .v (.l (.st 12))] (.v .b) (fun x=>Ud x.1 x.2.1) [] [.sp [.i .i64]]
def zqP:FS:=Ah 7 [.v (.st 17)] (.v .b) (fun x=>Vz x.1) [zro,D2,zqL,zo6,kW,zvj,zsH,zgX] [.sp [.i .i64]]
def Rv:FS:=Ah 78 [.v (.l .s), .v (.l .s)] (.v .b) (fun x=>K1 x.1 x.2.1) [] [.sp [.i .i64]]
def zuo:FS:=Ah 201 [.v (.st 0), .v (.st 0)] (.v .b) (fun x=>WD x.1 x.2.1) [] []
def ztg:FS:=Ah 145 [.v (.l (.st 0)), .v (.l (.st 0))] (.v .b) (fun x=>Wi x.1 x.2.1) [zuo] [.sp [.i .i64]]
def zrc:FS:=Ah 75 [.v (.st 1), .v (.st 1)] (.v .b) (fun x=>Wq x.1 x.2.1) [Rv,ztg] []
def zqz:FS:=Ah 26 [.v (.l (.st 1)), .v (.l (.st 1))] (.v .b) (fun x=>Vq x.1 x.2.1) [zrc] [.sp [.i .i64]]
def cG:FS:=Ah 27 [.v (.l (.i .i64)), .v (.l (.i .i64))] (.v .b) (fun x=>Oj x.1 x.2.1) [] [.sp [.i .i64]]
def mJ:FS:=Ah 147 [.v (.st 2), .v (.st 2)] (.v .b) (fun x=>Ov x.1 x.2.1) [Rv] []
def zqQ:FS:=Ah 146 [.v (.st 3), .v (.st 3)] (.v .b) (fun x=>Vp x.1 x.2.1) [mJ] []
def zpf:FS:=Ah 76 [.v (.st 4), .v (.st 4)] (.v .b) (fun x=>US x.1 x.2.1) [zqQ,mJ] []
def znP:FS:=Ah 28 [.v (.l (.st 4)), .v (.l (.st 4))] (.v .b) (fun x=>U0 x.1 x.2.1) [zpf] [.sp [.i .i64]]
def zrE:FS:=Ah 148 [.v (.st 5), .v (.st 5)] (.v .b) (fun x=>Ws x.1 x.2.1) [] []
def zpM:FS:=Ah 77 [.v (.l (.st 5)), .v (.l (.st 5))] (.v .b) (fun x=>Vw x.1 x.2.1) [zrE] [.sp [.i .i64]]
def zr1:FS:=Ah 274 [.v (.st 6), .v (.st 6)] (.v .b) (fun x=>VW x.1 x.2.1) [] []
def zpF:FS:=Ah 271 [.v (.l (.st 6)), .v (.l (.st 6))] (.v .b) (fun x=>VY x.1 x.2.1) [zr1] [.sp [.i .i64]]
def zuM:FS:=Ah 268 [.v (.st 7), .v (.st 7)] (.v .b) (fun x=>WJ x.1 x.2.1) [Rv,zpF] []
def zrG:FS:=Ah 264 [.v (.st 8), .v (.st 8)] (.v .b) (fun x=>Wp x.1 x.2.1) [zuM] []
def zqB:FS:=Ah 254 [.v (.l (.st 8)), .v (.l (.st 8))] (.v .b) (fun x=>Ve x.1 x.2.1) [zrG] [.sp [.i .i64]]
def zpc:FS:=Ah 238 [.v (.st 9), .v (.st 9)] (.v .b) (fun x=>UJ x.1 x.2.1) [zqB] []
def znO:FS:=Ah 202 [.v (.l (.st 9)), .v (.l (.st 9))] (.v .b) (fun x=>U1 x.1 x.2.1) [zpc] [.sp [.i .i64]]
def zrD:FS:=Ah 149 [.v (.st 10), .v (.st 10)] (.v .b) (fun x=>VG x.1 x.2.1) [znO] []
def zpq:FS:=Ah 79 [.v (.l (.st 10)), .v (.l (.st 10))] (.v .b) (fun x=>Vr x.1 x.2.1) [zrD] [.sp [.i .i64]]
def zte:FS:=Ah 203 [.v (.st 11), .v (.st 11)] (.v .b) (fun x=>Wf x.1 x.2.1) [] []
def zrF:FS:=Ah 150 [.v (.l (.st 11)), .v (.l (.st 11))] (.v .b) (fun x=>VC x.1 x.2.1) [zte] [.sp [.i .i64]]
def zqu:FS:=Ah 80 [.v (.l (.l (.st 11))), .v (.l (.l (.st 11)))] (.v .b) (fun x=>V1 x.1 x.2.1) [zrF] [.sp [.i .i64]]
def zv0:FS:=Ah 239 [.v (.st 12), .v (.st 12)] (.v .b) (fun x=>WS x.1 x.2.1) [] []
def zuK:FS:=Ah 204 [.v (.l (.st 12)), .v (.l (.st 12))] (.v .b) (fun x=>WC x.1 x.2.1) [zv0] [.sp [.i .i64]]
def zvi:FS:=Ah 240 [.v (.st 13), .v (.st 13)] (.v .b) (fun x=>WK x.1 x.2.1) [] []
def lV:FS:=Ah 205 [.v (.l (.st 13)), .v (.l (.st 13))] (.v .b) (fun x=>RJ x.1 x.2.1) [zvi] [.sp [.i .i64]]
def zn0:FS:=Ah 151 [.v (.st 14), .v (.st 14)] (.v .b) (fun x=>U5 x.1 x.2.1) [zuK,lV,cG] []
def zm6:FS:=Ah 81 [.v (.l (.st 14)), .v (.l (.st 14))] (.v .b) (fun x=>UD x.1 x.2.1) [zn0] [.sp [.i .i64]]
def znL:FS:=Ah 152 [.v (.st 15), .v (.st 15)] (.v .b) (fun x=>UC x.1 x.2.1) [Rv,lV] []
def zmP:FS:=Ah 82 [.v (.l (.st 15)), .v (.l (.st 15))] (.v .b) (fun x=>UG x.1 x.2.1) [znL] [.sp [.i .i64]]
def zrk:FS:=Ah 29 [.v (.st 16), .v (.st 16)] (.v .b) (fun x=>Wn x.1 x.2.1) [zpM,Rv,zpq,zqu,cG,zm6,zmP] []
def ztE:FS:=Ah 8 [.v (.st 17), .v (.st 17)] (.v .b) (fun x=>Wb x.1 x.2.1) [zqz,cG,znP,zrk] []
def kZ:FS:=Ah 3 [.v (.st 17)] (.v .b) (fun x=>Uk x.1) [zt3,zs5,zpH,zqP,ztE] []
theorem zln (a0:Cz) (r:Bool) (h:Uk a0=some r):CY Tryz.prog Dy 3 [gJ a0] (.bool r):=kZ.ok (a0,()) r (by simp [kZ,Ah,Hg,QH]) h
end Go.Proofs.YtmbknelgbjlhnaaGreat
end
