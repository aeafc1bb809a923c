/- Parts of a proof, joined: QM, QF1, QF2, QF3, QF4, QR, NA, NE, N5, N6, N7, N8, N9, N10, N11, N12, N13, N14, N15, N16, PK, NK, NP, NQ, NX. -/
import Derived.Test.YtollgpkegmbpmaaGreatDoorA7
set_option linter.unusedVariables false
set_option linter.unusedSimpArgs false
noncomputable section
namespace Go.Proofs.YtollgpkegmbpmaaGreatDoor
open Go.RowKit
set_option maxRecDepth 100000
set_option maxHeartbeats 4000000
abbrev Aa:=List UInt8
def Xq (a0 a1:List Int):Option (Bool):=
 some ((decide ((a0.length:Int)>1048576))||(decide ((a1.length:Int)>(IntKind.i64.wrap ((1048576:Int)-(a0.length:Int))))))
def PG (a0:AO):Option (Int × AO):=
 if(decide (a0.cw<(a0.ao.length:Int)))then
  (getI a0.ao a0.cw).bind fun y1=>
  if(decide ((IntKind.i64.wrap (a0.cw+1))≤(a0.ao.length:Int)))then
   some ((IntKind.i64.wrap y1),(⟨a0.ao,(IntKind.i64.wrap (a0.cw+1)),(IntKind.u64.wrap ((IntKind.u64.wrap ((IntKind.u64.wrap (a0.au*6364136223846793005))+(IntKind.u64.wrap (IntKind.i64.wrap y1))))+1442695040888963407))⟩:AO))
  else
   some ((IntKind.i64.wrap (IntKind.u64.wrap ((BitVec.ofInt (IntKind.bits .u64) (Int.fdiv (IntKind.u64.wrap ((IntKind.u64.wrap ((IntKind.u64.wrap (a0.au*6364136223846793005))+(IntKind.u64.wrap (IntKind.i64.wrap y1))))+1442695040888963407)) (2^(min ((40:Int)).toNat (IntKind.bits .u64))))&&&BitVec.ofInt (IntKind.bits .u64) 255).toNat:Int))),(⟨a0.ao,(IntKind.i64.wrap (a0.cw+1)),(IntKind.u64.wrap ((IntKind.u64.wrap ((IntKind.u64.wrap (a0.au*6364136223846793005))+(IntKind.u64.wrap (IntKind.i64.wrap y1))))+1442695040888963407))⟩:AO))
 else
  if(decide ((IntKind.i64.wrap (a0.cw+1))≤(a0.ao.length:Int)))then
   some (0,(⟨a0.ao,(IntKind.i64.wrap (a0.cw+1)),(IntKind.u64.wrap ((IntKind.u64.wrap ((IntKind.u64.wrap (a0.au*6364136223846793005))+(IntKind.u64.wrap 0)))+1442695040888963407))⟩:AO))
  else
   some ((IntKind.i64.wrap (IntKind.u64.wrap ((BitVec.ofInt (IntKind.bits .u64) (Int.fdiv (IntKind.u64.wrap ((IntKind.u64.wrap ((IntKind.u64.wrap (a0.au*6364136223846793005))+(IntKind.u64.wrap 0)))+1442695040888963407)) (2^(min ((40:Int)).toNat (IntKind.bits .u64))))&&&BitVec.ofInt (IntKind.bits .u64) 255).toNat:Int))),(⟨a0.ao,(IntKind.i64.wrap (a0.cw+1)),(IntKind.u64.wrap ((IntKind.u64.wrap ((IntKind.u64.wrap (a0.au*6364136223846793005))+(IntKind.u64.wrap 0)))+1442695040888963407))⟩:AO))
def GP (a0:AO) (a1:Int):Option (Int × AO):=
 if(decide (a1≤1))then
  some (0,a0)
 else
  (PG a0).bind fun v1=>
  if(decide (a1>200))then
   (PG v1.2).bind fun v2=>
   req (a1≠0)<|
   some ((Int.tmod (IntKind.i64.wrap ((IntKind.i64.wrap (v1.1*256))+v2.1)) a1),(⟨v2.2.ao,v2.2.cw,v2.2.au⟩:AO))
  else
   req (a1≠0)<|
   some ((Int.tmod v1.1 a1),(⟨v1.2.ao,v1.2.cw,v1.2.au⟩:AO))
def M3 (a0:AO) (a1:List (Aa)):Option (Aa × AO):=
 (GP a0 (a1.length:Int)).bind fun v1=>
 (getI a1 v1.1).bind fun y2=>
 some (y2,v1.2)
def R4 (a0:AO):Option (Aa × AO):=
 (M3 a0 ([([97]:Aa),([98]:Aa),([99]:Aa),([109]:Aa),([110]:Aa),([122]:Aa),([114,47,49]:Aa),([105,47,120,47,49]:Aa)]:List (Aa))).bind fun v1=>
 some (v1.1,v1.2)
def PF (a0:AO):Option (Aa × AO):=
 (M3 a0 ([([]:Aa),([49]:Aa),([55]:Aa),([49,48]:Aa),([45,51]:Aa),([120]:Aa),([97,44,98,95,99]:Aa)]:List (Aa))).bind fun v1=>
 some (v1.1,v1.2)
def LI (a0:AO) (a1:List Int):Option (Int × AO):=
 (GP a0 (a1.length:Int)).bind fun v1=>
 (getI a1 v1.1).bind fun y2=>
 some (y2,v1.2)
def R5 (v1:Int × AO) (v2:Aa × AO) (v3:Bool):Option (Ap × AO):=
 if v3 then
  (PF v2.2).bind fun v4=>
  some ((⟨(IntKind.i64.wrap ((1:Int)+v1.1)),v2.1,v4.1,0⟩:Ap),(⟨v4.2.ao,v4.2.cw,v4.2.au⟩:AO))
 else
  if((IntKind.i64.wrap ((1:Int)+v1.1))==4)then
   if((IntKind.i64.wrap ((1:Int)+v1.1))==4)then
    (LI v2.2 ([1,2,5,(-3),0,100]:List Int)).bind fun v5=>
    some ((⟨(IntKind.i64.wrap ((1:Int)+v1.1)),v2.1,([]:Aa),v5.1⟩:Ap),(⟨v5.2.ao,v5.2.cw,v5.2.au⟩:AO))
   else
    some ((⟨(IntKind.i64.wrap ((1:Int)+v1.1)),v2.1,([]:Aa),0⟩:Ap),(⟨v2.2.ao,v2.2.cw,v2.2.au⟩:AO))
  else
   if((IntKind.i64.wrap ((1:Int)+v1.1))==5)then
    (LI v2.2 ([1,2,5,(-3),0,100]:List Int)).bind fun v6=>
    some ((⟨(IntKind.i64.wrap ((1:Int)+v1.1)),v2.1,([]:Aa),v6.1⟩:Ap),(⟨v6.2.ao,v6.2.cw,v6.2.au⟩:AO))
   else
    some ((⟨(IntKind.i64.wrap ((1:Int)+v1.1)),v2.1,([]:Aa),0⟩:Ap),(⟨v2.2.ao,v2.2.cw,v2.2.au⟩:AO))
def PK (a0:AO):Option (Ap × AO):=
 (GP a0 7).bind fun v1=>
 (R4 v1.2).bind fun v2=>
 if((IntKind.i64.wrap ((1:Int)+v1.1))==2)then
  R5 v1 v2 ((IntKind.i64.wrap ((1:Int)+v1.1))==2)
 else
  R5 v1 v2 ((IntKind.i64.wrap ((1:Int)+v1.1))==7)
def Jf (a0:AO) (a1:Int):Option (Bool × AO):=
 (GP a0 a1).bind fun v1=>
 some ((v1.1==0),v1.2)
def aC (v2:List Ap) (v3:Int) (v4:List Int) (v5 v6:Int):Option ((List Ap × Int × List Int × Int × Int) ⊕ Option (List Ap × AO)):=
 if(decide (v3>0))then
  (PK (⟨v4,v5,v6⟩:AO)).bind fun v7=>
  if(((v7.1.ae==5)||(v7.1.ae==6))||(v7.1.ae==7))then
   (Jf v7.2 3).bind fun v8=>
   if(!v8.1)then
    (GP (⟨v8.2.ao,v8.2.cw,v8.2.au⟩:AO) 5).bind fun v9=>
    req ((((v2).length:Int)+(([(⟨4,v7.1.ab,([]:Aa),(IntKind.i64.wrap ((1:Int)+v9.1))⟩:Ap)]:List Ap).length:Int))*48≤140737488355328∧((v2).length:Int)+(([(⟨4,v7.1.ab,([]:Aa),(IntKind.i64.wrap ((1:Int)+v9.1))⟩:Ap)]:List Ap).length:Int)≤140737488355328)<|
    some (.inl ((v2++ [(⟨4,v7.1.ab,([]:Aa),(IntKind.i64.wrap ((1:Int)+v9.1))⟩:Ap)]),(IntKind.i64.wrap (v3-1)),v9.2.ao,v9.2.cw,v9.2.au))
   else
    req ((((v2).length:Int)+(([(⟨v7.1.ae,v7.1.ab,v7.1.ak,v7.1.cf⟩:Ap)]:List Ap).length:Int))*48≤140737488355328∧((v2).length:Int)+(([(⟨v7.1.ae,v7.1.ab,v7.1.ak,v7.1.cf⟩:Ap)]:List Ap).length:Int)≤140737488355328)<|
    some (.inl ((v2++ [(⟨v7.1.ae,v7.1.ab,v7.1.ak,v7.1.cf⟩:Ap)]),(IntKind.i64.wrap (v3-1)),v8.2.ao,v8.2.cw,v8.2.au))
  else
   if false then
    (GP (⟨v7.2.ao,v7.2.cw,v7.2.au⟩:AO) 5).bind fun v10=>
    req ((((v2).length:Int)+(([(⟨4,v7.1.ab,([]:Aa),(IntKind.i64.wrap ((1:Int)+v10.1))⟩:Ap)]:List Ap).length:Int))*48≤140737488355328∧((v2).length:Int)+(([(⟨4,v7.1.ab,([]:Aa),(IntKind.i64.wrap ((1:Int)+v10.1))⟩:Ap)]:List Ap).length:Int)≤140737488355328)<|
    some (.inl ((v2++ [(⟨4,v7.1.ab,([]:Aa),(IntKind.i64.wrap ((1:Int)+v10.1))⟩:Ap)]),(IntKind.i64.wrap (v3-1)),v10.2.ao,v10.2.cw,v10.2.au))
   else
    req ((((v2).length:Int)+(([(⟨v7.1.ae,v7.1.ab,v7.1.ak,v7.1.cf⟩:Ap)]:List Ap).length:Int))*48≤140737488355328∧((v2).length:Int)+(([(⟨v7.1.ae,v7.1.ab,v7.1.ak,v7.1.cf⟩:Ap)]:List Ap).length:Int)≤140737488355328)<|
    some (.inl ((v2++ [(⟨v7.1.ae,v7.1.ab,v7.1.ak,v7.1.cf⟩:Ap)]),(IntKind.i64.wrap (v3-1)),v7.2.ao,v7.2.cw,v7.2.au))
 else
  some (.inr (some (v2,(⟨v4,v5,v6⟩:AO))))
def R3 (a0:AO):Option (List Ap × AO):=
 (GP a0 4).bind fun v1=>
 AL (fun s:List Ap × Int × List Int × Int × Int=>aC s.1 s.2.1 s.2.2.1 s.2.2.2.1 s.2.2.2.2) ([],(IntKind.i64.wrap ((1:Int)+v1.1)),v1.2.ao,v1.2.cw,v1.2.au)
def pL (v9:List Int) (v10 v11:Int) (v12:List Ap):Option (List Ap × AO):=
 some (v12,(⟨v9,v10,v11⟩:AO))
def Z9 (v13:List Int) (v14 v15:Int) (v16:List Ap):Option ((List Int × Int × Int × List Ap) ⊕ Option (List Ap × AO)):=
 (GP (⟨v13,v14,v15⟩:AO) 2).bind fun v17=>
 if(decide ((v16.length:Int)<(IntKind.i64.wrap ((8:Int)+v17.1))))then
  (PK v17.2).bind fun v18=>
  req ((((v16).length:Int)+(([v18.1]:List Ap).length:Int))*48≤140737488355328∧((v16).length:Int)+(([v18.1]:List Ap).length:Int)≤140737488355328)<|
  some (.inl (v18.2.ao,v18.2.cw,v18.2.au,(v16++ [v18.1])))
 else
  some (.inr (pL v17.2.ao v17.2.cw v17.2.au v16))
def MT (a0:AO):Option (List Ap × AO):=
 (R3 a0).bind fun v1=>
 (GP v1.2 (v1.1.length:Int)).bind fun v2=>
 (GP v2.2 25).bind fun v3=>
 if(v3.1==0)then
  (LI v3.2 ([0,8]:List Int)).bind fun v4=>
  (getI v1.1 v2.1).bind fun y5=>
  some ((v1.1.set (v2.1).toNat {y5 with ae:=v4.1}),(⟨v4.2.ao,v4.2.cw,v4.2.au⟩:AO))
 else
  if(v3.1==1)then
   (LI v3.2 ([9999,10000,(-10000)]:List Int)).bind fun v6=>
   (getI v1.1 v2.1).bind fun y7=>
   some ((v1.1.set (v2.1).toNat {y7 with cf:=v6.1}),(⟨v6.2.ao,v6.2.cw,v6.2.au⟩:AO))
  else
   if(v3.1==2)then
    (getI v1.1 v2.1).bind fun y8=>
    some ((v1.1.set (v2.1).toNat {y8 with ab:=([65]:Aa)}),(⟨v3.2.ao,v3.2.cw,v3.2.au⟩:AO))
   else
    if(v3.1==3)then
     AL (fun s:List Int × Int × Int × List Ap=>Z9 s.1 s.2.1 s.2.2.1 s.2.2.2) (v3.2.ao,v3.2.cw,v3.2.au,v1.1)
    else
     some (v1.1,(⟨v3.2.ao,v3.2.cw,v3.2.au⟩:AO))
def aE (v1:List Int) (v2 v3:Int) (v4:List Ag):Option (List Ag × AO):=
 if(decide ((v4.length:Int)>0))then
  (Jf (⟨v1,v2,v3⟩:AO) 30).bind fun v5=>
  if v5.1 then
   (getI v4 0).bind fun y6=>
   some ((v4.set ((0:Int)).toNat {y6 with bd:=true}),(⟨v5.2.ao,v5.2.cw,v5.2.au⟩:AO))
  else
   some (v4,(⟨v5.2.ao,v5.2.cw,v5.2.au⟩:AO))
 else
  if false then
   (getI v4 0).bind fun y7=>
   some ((v4.set ((0:Int)).toNat {y7 with bd:=true}),(⟨v1,v2,v3⟩:AO))
  else
   some (v4,(⟨v1,v2,v3⟩:AO))
def aB (v8:List Ag) (v9:Int) (v10:List Int) (v11 v12:Int):Option ((List Ag × Int × List Int × Int × Int) ⊕ Option (List Ag × AO)):=
 if(decide (v9<([([97]:Aa),([98]:Aa),([99]:Aa),([109]:Aa),([110]:Aa),([122]:Aa)].length:Int)))then
  (getI [([97]:Aa),([98]:Aa),([99]:Aa),([109]:Aa),([110]:Aa),([122]:Aa)] v9).bind fun y13=>
  (Jf (⟨v10,v11,v12⟩:AO) 3).bind fun v14=>
  if(!v14.1)then
   (M3 v14.2 ([([49]:Aa),([55]:Aa),([49,48]:Aa),([45,51]:Aa),([120]:Aa),([57,57,57,57,57,57]:Aa)]:List (Aa))).bind fun v15=>
   req ((((v8).length:Int)+(([(⟨y13,v15.1,false⟩:Ag)]:List Ag).length:Int))*40≤140737488355328∧((v8).length:Int)+(([(⟨y13,v15.1,false⟩:Ag)]:List Ag).length:Int)≤140737488355328)<|
   some (.inl ((v8++ [(⟨y13,v15.1,false⟩:Ag)]),(IntKind.i64.wrap (v9+1)),v15.2.ao,v15.2.cw,v15.2.au))
  else
   some (.inl (v8,(IntKind.i64.wrap (v9+1)),v14.2.ao,v14.2.cw,v14.2.au))
 else
  some (.inr (aE v10 v11 v12 v8))
def R8 (a0:AO):Option (List Ag × AO):=
 AL (fun s:List Ag × Int × List Int × Int × Int=>aB s.1 s.2.1 s.2.2.1 s.2.2.2.1 s.2.2.2.2) ([],0,a0.ao,a0.cw,a0.au)
def Nb (a0:List Ag) (v1:Int) (v2:List (Aa)):Option ((Int × List (Aa)) ⊕ Option (List (Aa))):=
 if(decide (v1<(a0.length:Int)))then
  (getI a0 v1).bind fun y3=>
  req ((((v2).length:Int)+(([y3.ab]:List (Aa)).length:Int))*16≤140737488355328∧((v2).length:Int)+(([y3.ab]:List (Aa)).length:Int)≤140737488355328)<|
  some (.inl ((IntKind.i64.wrap (v1+1)),(v2++ [y3.ab])))
 else
  some (.inr (some v2))
def Sh (a0:List Ag):Option (List (Aa)):=
 AL (fun s:Int × List (Aa)=>Nb a0 s.1 s.2) (0, [])
def LR (a0 a1 a2:Int):Option (Bool):=
 some ((decide (a0≥a1))&&(decide (a0≤a2)))
def Wm (a0:Int):Option (Bool):=
 some (((decide (a0≥97))&&(decide (a0≤122)))||((decide (a0≥48))&&(decide (a0≤57))))
def Wu (a0:Aa) (a1:Int):Option (Int):=
 (RU a0 a1).bind fun v1=>
 some v1
def Ww (a0 a1:Aa) (v1:Int):Option ((Int) ⊕ Option (Bool)):=
 if(decide (v1<(a0.length:Int)))then
  (getI a0 v1).bind fun y2=>
  (Wm (y2.toNat:Int)).bind fun v3=>
  if v3 then
   some (.inl (IntKind.i64.wrap (v1+1)))
  else
   (Wu a1 (y2.toNat:Int)).bind fun v4=>
   if(decide (v4<0))then
    some (.inr (some false))
   else
    some (.inl (IntKind.i64.wrap (v1+1)))
 else
  some (.inr (some true))
def PR (a0 a1:Aa):Option (Bool):=
 AL (fun s:Int=>Ww a0 a1 s) 0
def Nc (a0:Aa):Option (Bool):=
 (LR (a0.length:Int) 1 12).bind fun v1=>
 if v1 then
  (PR a0 ([46,47]:Aa)).bind fun v2=>
  some v2
 else
  some false
def Wk (a0:List (Aa)) (v1:Int):Option ((Int) ⊕ Option (Bool)):=
 if(decide (v1<(a0.length:Int)))then
  (getI a0 v1).bind fun y2=>
  (Nc y2).bind fun v3=>
  if(decide (v1>0))then
   if v3 then
    (getI a0 (IntKind.i64.wrap (v1-1))).bind fun y4=>
    if(Op.bytesLess y2 y4||y2==y4)then
     some (.inr (some false))
    else
     some (.inl (IntKind.i64.wrap (v1+1)))
   else
    some (.inr (some false))
  else
   if((!v3)||false)then
    some (.inr (some false))
   else
    some (.inl (IntKind.i64.wrap (v1+1)))
 else
  some (.inr (some true))
def Sb (a0:List (Aa)):Option (Bool):=
 AL (fun s:Int=>Wk a0 s) 0
def PL (a0:Aa):Option (Bool):=
 if(decide ((a0.length:Int)≤24))then
  (PR a0 ([46,45,44,95]:Aa)).bind fun v1=>
  some v1
 else
  some false
def PQ (a0:Aa) (a1:Bool):Option (Bool):=
 (PL a0).bind fun v1=>
 some (v1&&(!(a1&&(a0 !=([]:Aa)))))
def R1 (a0:Ag):Option (Bool):=
 (PQ a0.ak a0.bd).bind fun v1=>
 some (!v1)
def Sk (a0:List Ag):Option (Bool):=
 if(decide ((a0.length:Int)≤24))then
  (Sh a0).bind fun v1=>
  (Sb v1).bind fun v2=>
  if v2 then
   (GO a0 (fun y0_=>R1 y0_)).bind fun v3=>
   some (!v3)
  else
   some false
 else
  some false
def Ss (a0:Ag):Option (Bool):=
 some a0.bd
def SG (a0:List Ag):Option (Bool):=
 (Sk a0).bind fun v1=>
 if v1 then
  (GO a0 (fun y0_=>Ss y0_)).bind fun v2=>
  some (!v2)
 else
  some false
def WI (a0:Int):Option (Bool):=
 some ((a0==2)||(a0==7))
def S2 (a0:Int):Option (Bool):=
 some ((a0==4)||(a0==5))
def SS (a0:Ap):Option (Bool):=
 (LR a0.ae 1 7).bind fun v1=>
 if v1 then
  (Nc a0.ab).bind fun v2=>
  if v2 then
   (PL a0.ak).bind fun v3=>
   if v3 then
    (WI a0.ae).bind fun v4=>
    if v4 then
     (LR a0.cf (-9999) 9999).bind fun v5=>
     if v5 then
      (S2 a0.ae).bind fun v6=>
      some (v6||(a0.cf==0))
     else
      some false
    else
     if(a0.ak==([]:Aa))then
      (LR a0.cf (-9999) 9999).bind fun v7=>
      if v7 then
       (S2 a0.ae).bind fun v8=>
       some (v8||(a0.cf==0))
      else
       some false
     else
      some false
   else
    some false
  else
   some false
 else
  some false
def Sf (a0:Ap):Option (Bool):=
 (SS a0).bind fun v1=>
 some (!v1)
def LY (a0:List Ap):Option (Bool):=
 if(decide ((a0.length:Int)≤8))then
  (GO a0 (fun y0_=>Sf y0_)).bind fun v1=>
  some (!v1)
 else
  some false
def Wc (a0:List Ag) (a1:Aa) (a2:Ag→(Aa)→Option Int) (v1:Int):Option (Int × Bool):=
 if(decide (v1<(a0.length:Int)))then
  (getI a0 v1).bind fun y2=>
  (a2 y2 a1).bind fun v3=>
  some (v1,(v3==0))
 else
  some (v1,false)
def MU (a0:List Ag) (a1:Aa) (a2:Ag→(Aa)→Option Int) (v4 v5:Int):Option ((Int × Int) ⊕ Option (Int × Bool)):=
 if(decide (v4<v5))then
  (getI a0 (IntKind.i64.wrap (Int.fdiv (IntKind.u64.wrap (IntKind.i64.wrap (v4+v5))) (2^(min ((1:Int)).toNat (IntKind.bits .u64)))))).bind fun y6=>
  (a2 y6 a1).bind fun v7=>
  if(decide (v7<0))then
   some (.inl ((IntKind.i64.wrap ((IntKind.i64.wrap (Int.fdiv (IntKind.u64.wrap (IntKind.i64.wrap (v4+v5))) (2^(min ((1:Int)).toNat (IntKind.bits .u64)))))+1)),v5))
  else
   some (.inl (v4,(IntKind.i64.wrap (Int.fdiv (IntKind.u64.wrap (IntKind.i64.wrap (v4+v5))) (2^(min ((1:Int)).toNat (IntKind.bits .u64)))))))
 else
  some (.inr (Wc a0 a1 a2 v4))
def We (a0:List Ag) (a1:Aa) (a2:Ag→(Aa)→Option Int):Option (Int × Bool):=
 AL (fun s:Int × Int=>MU a0 a1 a2 s.1 s.2) (0,(a0.length:Int))
def Kq (a0:Aa):Option (Bool):=
 some (a0 !=a0)
def R6 (a0 a1:Aa):Option (Int):=
 (Kq a0).bind fun v1=>
 (Kq a1).bind fun v2=>
 if v1 then
  if v2 then
   some 0
  else
   some (-1)
 else
  if v2 then
   some 1
  else
   if(Op.bytesLess a0 a1)then
    some (-1)
   else
    if(!(Op.bytesLess a0 a1||a0==a1))then
     some 1
    else
     some 0
def MZ (a0:Ag) (a1:Aa):Option (Int):=
 (R6 a0.ab a1).bind fun v1=>
 some v1
def Kt (a0:List Ag) (a1:Aa):Option (Int × Bool):=
 (We a0 a1 (fun y0_ y1_=>MZ y0_ y1_)).bind fun v1=>
 some (v1.1,v1.2)
def Nf (a0:List Ag) (a1:Ag):Option (List Ag):=
 (Kt a0 a1.ab).bind fun v1=>
 if v1.2 then
  (getI a0 v1.1).bind fun y2=>
  some (a0.set (v1.1).toNat a1)
 else
  (TD a0 v1.1 ([a1]:List Ag)).bind fun v3=>
  some v3
def M6 (a0:Aa) (a2:List As) (v3:Int):Option ((Int) ⊕ Option (Aa × Bool × Bool)):=
 if(decide (v3<(a2.length:Int)))then
  (getI a2 v3).bind fun y4=>
  if(y4.ab==a0)then
   some (.inr (some (y4.ak,y4.a7,true)))
  else
   some (.inl (IntKind.i64.wrap (v3+1)))
 else
  some (.inr (some (([]:Aa),false,false)))
def Sm (a0:Aa) (a1:List Ag) (a2:List As):Option (Aa × Bool × Bool):=
 (Kt a1 a0).bind fun v1=>
 if v1.2 then
  (getI a1 v1.1).bind fun y2=>
  some (y2.ak,(!y2.bd),true)
 else
  AL (fun s:Int=>M6 a0 a2 s) 0
def PO (a0:Aa):Option (Int × Bool):=
 (SN a0 (-999999) 999999).bind fun v1=>
 some (v1.1,v1.2)
def Sc (a0:Ap) (a1:Aa) (a2:Bool):Option (Bool):=
 (PO a1).bind fun v1=>
 if(a0.ae==4)then
  if v1.2 then
   if a2 then
    (LR (IntKind.i64.wrap (v1.1+a0.cf)) (-999999) 999999).bind fun v2=>
    some v2
   else
    some true
  else
   some ((!a2)||false)
 else
  if(a0.ae==5)then
   some ((a2&&v1.2)&&(decide (v1.1≥a0.cf)))
  else
   if(a0.ae==6)then
    some (!a2)
   else
    if(a0.ae==7)then
     some (a2&&(a1==a0.ak))
    else
     some true
def Ew (a0:List Ap) (a1:List As) (v1:Int) (v2:List Ag):Option ((Int × List Ag) ⊕ Option (Int × Aa × List Ag)):=
 if(decide (v1<(a0.length:Int)))then
  (getI a0 v1).bind fun y3=>
  if(y3.ae==2)then
   (Nf v2 (⟨y3.ab,y3.ak,false⟩:Ag)).bind fun v4=>
   some (.inl ((IntKind.i64.wrap (v1+1)),v4))
  else
   if(y3.ae==3)then
    (Nf v2 (⟨y3.ab,([]:Aa),true⟩:Ag)).bind fun v5=>
    some (.inl ((IntKind.i64.wrap (v1+1)),v5))
   else
    (Sm y3.ab v2 a1).bind fun v6=>
    if(!v6.2.2)then
     some (.inr (some (1,y3.ab, [])))
    else
     (Sc y3 v6.1 v6.2.1).bind fun v7=>
     if(!v7)then
      some (.inr (some (2,([]:Aa), [])))
     else
      if(y3.ae==4)then
       (PO v6.1).bind fun v8=>
       (SJ (IntKind.i64.wrap (v8.1+y3.cf))).bind fun v9=>
       (Nf v2 (⟨y3.ab,v9,false⟩:Ag)).bind fun v10=>
       some (.inl ((IntKind.i64.wrap (v1+1)),v10))
      else
       some (.inl ((IntKind.i64.wrap (v1+1)),v2))
 else
  some (.inr (some (3,([]:Aa),v2)))
def SI (a0:List Ap) (a1:List As):Option (Int × Aa × List Ag):=
 AL (fun s:Int × List Ag=>Ew a0 a1 s.1 s.2) (0, [])
def S1 (a0:List Ag) (a1:Aa):Option (As):=
 (Kt a0 a1).bind fun v1=>
 if(!v1.2)then
  some (⟨a1,([]:Aa),false⟩:As)
 else
  (getI a0 v1.1).bind fun y2=>
  some (⟨a1,y2.ak,true⟩:As)
def LN (a0:List Ag) (a1:List Ap) (v1:List As):Option ((List As) ⊕ Option (List As × List Ag × Bool)):=
 (SI a1 v1).bind fun v2=>
 if(v2.1 !=1)then
  some (.inr (some (v1,v2.2.2,(v2.1==3))))
 else
  (S1 a0 v2.2.1).bind fun v3=>
  req ((((v1).length:Int)+(([v3]:List As).length:Int))*40≤140737488355328∧((v1).length:Int)+(([v3]:List As).length:Int)≤140737488355328)<|
  some (.inl (v1++ [v3]))
def WJ (a0:List Ag) (a1:List Ap):Option (List As × List Ag × Bool):=
 AL (fun s:List As=>LN a0 a1 s) []
def LZ (a0 a1 a2:Int):Option (Bool):=
 some ((decide (a0≥a1))&&(decide (a0≤a2)))
def Wo (v1:Int) (v3:Bool):Option ((Int) ⊕ Option (Bool)):=
 if(!v3)then
  some (.inr (some false))
 else
  some (.inl (IntKind.i64.wrap (v1+1)))
def PH (a1:Aa) (v1:Int) (y2:UInt8) (v4:Bool) (v5:Int):Option ((Bool × Int) ⊕ Option ((Int) ⊕ Option (Bool))):=
 if(decide (v5<(a1.length:Int)))then
  if v4 then
   some (.inl (true,(IntKind.i64.wrap (v5+1))))
  else
   (getI a1 v5).bind fun y6=>
   some (.inl (((y2.toNat:Int)==(y6.toNat:Int)),(IntKind.i64.wrap (v5+1))))
 else
  some (.inr (Wo v1 v4))
def Ws (a0 a1:Aa) (v1:Int):Option ((Int) ⊕ Option (Bool)):=
 if(decide (v1<(a0.length:Int)))then
  (getI a0 v1).bind fun y2=>
  AL (fun s:Bool × Int=>PH a1 v1 y2 s.1 s.2) ((((decide ((y2.toNat:Int)≥97))&&(decide ((y2.toNat:Int)≤122)))||((decide ((y2.toNat:Int)≥48))&&(decide ((y2.toNat:Int)≤57)))),0)
 else
  some (.inr (some true))
def PN (a0 a1:Aa):Option (Bool):=
 AL (fun s:Int=>Ws a0 a1 s) 0
def No (a0:Aa):Option (Bool):=
 (LZ (a0.length:Int) 1 12).bind fun v1=>
 if v1 then
  (PN a0 ([46,47]:Aa)).bind fun v2=>
  some v2
 else
  some false
def Nn (a0:Aa):Option (Bool):=
 if(decide ((a0.length:Int)≤24))then
  (PN a0 ([46,45,44,95]:Aa)).bind fun v1=>
  some v1
 else
  some false
def Sn (a0 a1:Aa) (a2:Bool):Option (Bool):=
 (No a0).bind fun v1=>
 if v1 then
  (Nn a1).bind fun v2=>
  some (v2&&((!a2)||(a1==([]:Aa))))
 else
  some false
def Wv (a0:List Ag):Option (Bool):=
 some (decide ((a0.length:Int)≤24))
def Wr (a0:List Ag) (v1:Int):Option ((Int) ⊕ Option (Bool)):=
 if(decide (v1<(a0.length:Int)))then
  (getI a0 v1).bind fun y2=>
  (Sn y2.ab y2.ak y2.bd).bind fun v3=>
  if(decide (v1>0))then
   if v3 then
    (getI a0 (IntKind.i64.wrap (v1-1))).bind fun y4=>
    if(!Op.bytesLess y4.ab y2.ab)then
     some (.inr (some false))
    else
     some (.inl (IntKind.i64.wrap (v1+1)))
   else
    some (.inr (some false))
  else
   if((!v3)||false)then
    some (.inr (some false))
   else
    some (.inl (IntKind.i64.wrap (v1+1)))
 else
  some (.inr (Wv a0))
def Sw (a0:List Ag):Option (Bool):=
 AL (fun s:Int=>Wr a0 s) 0
def WC (a0:List Ag):Option (Bool):=
 (Sw a0).bind fun v1=>
 some v1
def WB (a0:List Ag) (v2:Int):Option ((Int) ⊕ Option (Bool)):=
 if(decide (v2<(a0.length:Int)))then
  (getI a0 v2).bind fun y3=>
  if y3.bd then
   some (.inr (some false))
  else
   some (.inl (IntKind.i64.wrap (v2+1)))
 else
  some (.inr (WC a0))
def SC (a0:List Ag):Option (Bool):=
 AL (fun s:Int=>WB a0 s) 0
def SM (a0:Ap) (v2:Bool):Option (Bool):=
 if v2 then
  (Nn a0.ak).bind fun v3=>
  some (v3&&(a0.cf==0))
 else
  if(a0.ae==4)then
   if(a0.ae==4)then
    if(a0.ak==([]:Aa))then
     (LZ a0.cf (-9999) 9999).bind fun v4=>
     some v4
    else
     some false
   else
    some (((((a0.ae==1)||(a0.ae==3))||(a0.ae==6))&&(a0.ak==([]:Aa)))&&(a0.cf==0))
  else
   if(a0.ae==5)then
    if(a0.ak==([]:Aa))then
     (LZ a0.cf (-9999) 9999).bind fun v5=>
     some v5
    else
     some false
   else
    some (((((a0.ae==1)||(a0.ae==3))||(a0.ae==6))&&(a0.ak==([]:Aa)))&&(a0.cf==0))
def SY (a0:Ap):Option (Bool):=
 (No a0.ab).bind fun v1=>
 if(!v1)then
  some false
 else
  if(a0.ae==2)then
   SM a0 (a0.ae==2)
  else
   SM a0 (a0.ae==7)
def WD (a0:List Ap):Option (Bool):=
 some (decide ((a0.length:Int)≤8))
def Ng (a0:List Ap) (v1:Int):Option ((Int) ⊕ Option (Bool)):=
 if(decide (v1<(a0.length:Int)))then
  (getI a0 v1).bind fun y2=>
  (SY y2).bind fun v3=>
  if(!v3)then
   some (.inr (some false))
  else
   some (.inl (IntKind.i64.wrap (v1+1)))
 else
  some (.inr (WD a0))
def LU (a0:List Ap):Option (Bool):=
 AL (fun s:Int=>Ng a0 s) 0
def M1 (a1:List As) (a2:Aa) (v1:Int):Option ((Int) ⊕ Option (Aa × Bool × Bool)):=
 if(decide (v1<(a1.length:Int)))then
  (getI a1 v1).bind fun y2=>
  if(y2.ab==a2)then
   some (.inr (some (y2.ak,y2.a7,true)))
  else
   some (.inl (IntKind.i64.wrap (v1+1)))
 else
  some (.inr (some (([]:Aa),false,false)))
def Sj (a1:List As) (a2:Aa):Option (Aa × Bool × Bool):=
 AL (fun s:Int=>M1 a1 a2 s) 0
def MY (a0:List Ag) (a1:List As) (a2:Aa) (v3:Int):Option ((Int) ⊕ Option (Aa × Bool × Bool)):=
 if(decide (v3<(a0.length:Int)))then
  (getI a0 v3).bind fun y4=>
  if(y4.ab==a2)then
   some (.inr (some (y4.ak,(!y4.bd),true)))
  else
   some (.inl (IntKind.i64.wrap (v3+1)))
 else
  some (.inr (Sj a1 a2))
def Sr (a0:List Ag) (a1:List As) (a2:Aa):Option (Aa × Bool × Bool):=
 AL (fun s:Int=>MY a0 a1 a2 s) 0
def Ks (a0:Aa) (v3 v4:Int):Option ((Int × Int) ⊕ Option (Int)):=
 if(decide (v4<(a0.length:Int)))then
  (getI a0 v4).bind fun y5=>
  if((decide ((y5.toNat:Int)<48))||(decide ((y5.toNat:Int)>57)))then
   some (.inr (some (-1)))
  else
   some (.inl ((IntKind.i64.wrap ((IntKind.i64.wrap ((10:Int)*v3))+(IntKind.i64.wrap (IntKind.u8.wrap ((y5.toNat:Int)-48))))),(IntKind.i64.wrap (v4+1))))
 else
  some (.inr (some v3))
def PU (a0:Aa):Option (Int):=
 (LZ (a0.length:Int) 1 6).bind fun v1=>
 if v1 then
  (getI a0 0).bind fun y2=>
  if(((y2.toNat:Int)==48)&&(decide ((a0.length:Int)>1)))then
   some (-1)
  else
   AL (fun s:Int × Int=>Ks a0 s.1 s.2) (0,0)
 else
  some (-1)
def Su (y1:UInt8) (v2:Aa):Option (Int × Bool):=
 (PU v2).bind fun v3=>
 if((decide (v3<0))||(((y1.toNat:Int)==45)&&(v3==0)))then
  some (0,false)
 else
  if((y1.toNat:Int)==45)then
   some ((IntKind.i64.wrap (0-v3)),true)
  else
   some (v3,true)
def aQ (v4:Aa):Option (Int × Bool):=
 (PU v4).bind fun v5=>
 if((decide (v5<0))||false)then
  some (0,false)
 else
  some (v5,true)
def PY (a0:Aa):Option (Int × Bool):=
 if(decide ((a0.length:Int)>0))then
  (getI a0 0).bind fun y1=>
  if((y1.toNat:Int)==45)then
   req (0≤(1:Int)∧(1:Int)≤(a0.length:Int)∧(a0.length:Int)≤(a0.length:Int))<|
   Su y1 (Br a0 1 (a0.length:Int))
  else
   Su y1 a0
 else
  aQ a0
def SO (a0:Ap) (a1:Aa) (a2:Bool):Option (Bool):=
 (PY a1).bind fun v1=>
 if(a0.ae==4)then
  if(!a2)then
   some false
  else
   if v1.2 then
    (LZ (IntKind.i64.wrap (v1.1+a0.cf)) (-999999) 999999).bind fun v2=>
    some (!v2)
   else
    some true
 else
  if(a0.ae==5)then
   some (((!a2)||(!v1.2))||(decide (v1.1<a0.cf)))
  else
   if(a0.ae==6)then
    some a2
   else
    if(a0.ae==7)then
     some ((!a2)||(a1 !=a0.ak))
    else
     some false
def Se (a0:List Ag) (a1:Ag) (v1:Int):Option (List Ag):=
 if(decide (v1>0))then
  (getI a0 (IntKind.i64.wrap (v1-1))).bind fun y2=>
  if(y2.ab==a1.ab)then
   req (((([]:List Ag).length:Int)+((a0).length:Int))*40≤140737488355328∧(([]:List Ag).length:Int)+((a0).length:Int)≤140737488355328)<|
   (getI a0 (IntKind.i64.wrap (v1-1))).bind fun y3=>
   some (a0.set ((IntKind.i64.wrap (v1-1))).toNat a1)
  else
   req (0≤v1∧v1≤(a0.length:Int)∧(a0.length:Int)≤(a0.length:Int))<|
   req (((([]:List Ag).length:Int)+(((Br a0 v1 (a0.length:Int))).length:Int))*40≤140737488355328∧(([]:List Ag).length:Int)+(((Br a0 v1 (a0.length:Int))).length:Int)≤140737488355328)<|
   req (0≤(0:Int)∧(0:Int)≤v1∧v1≤(a0.length:Int))<|
   req (((([]:List Ag).length:Int)+(((Br a0 0 v1)).length:Int))*40≤140737488355328∧(([]:List Ag).length:Int)+(((Br a0 0 v1)).length:Int)≤140737488355328)<|
   req (((((Br a0 0 v1)).length:Int)+(([a1]:List Ag).length:Int))*40≤140737488355328∧(((Br a0 0 v1)).length:Int)+(([a1]:List Ag).length:Int)≤140737488355328)<|
   req ((((((Br a0 0 v1)++ [a1])).length:Int)+(((Br a0 v1 (a0.length:Int))).length:Int))*40≤140737488355328∧((((Br a0 0 v1)++ [a1])).length:Int)+(((Br a0 v1 (a0.length:Int))).length:Int)≤140737488355328)<|
   some (((Br a0 0 v1)++ [a1])++(Br a0 v1 (a0.length:Int)))
 else
  req (0≤v1∧v1≤(a0.length:Int)∧(a0.length:Int)≤(a0.length:Int))<|
  req (((([]:List Ag).length:Int)+(((Br a0 v1 (a0.length:Int))).length:Int))*40≤140737488355328∧(([]:List Ag).length:Int)+(((Br a0 v1 (a0.length:Int))).length:Int)≤140737488355328)<|
  req (0≤(0:Int)∧(0:Int)≤v1∧v1≤(a0.length:Int))<|
  req (((([]:List Ag).length:Int)+(((Br a0 0 v1)).length:Int))*40≤140737488355328∧(([]:List Ag).length:Int)+(((Br a0 0 v1)).length:Int)≤140737488355328)<|
  req (((((Br a0 0 v1)).length:Int)+(([a1]:List Ag).length:Int))*40≤140737488355328∧(((Br a0 0 v1)).length:Int)+(([a1]:List Ag).length:Int)≤140737488355328)<|
  req ((((((Br a0 0 v1)++ [a1])).length:Int)+(((Br a0 v1 (a0.length:Int))).length:Int))*40≤140737488355328∧((((Br a0 0 v1)++ [a1])).length:Int)+(((Br a0 v1 (a0.length:Int))).length:Int)≤140737488355328)<|
  some (((Br a0 0 v1)++ [a1])++(Br a0 v1 (a0.length:Int)))
def LJ (a0:List Ag) (a1:Ag) (v4:Int):Option ((Int) ⊕ Option (List Ag)):=
 if(decide (v4>0))then
  (getI a0 (IntKind.i64.wrap (v4-1))).bind fun y5=>
  if(!(Op.bytesLess y5.ab a1.ab||y5.ab==a1.ab))then
   some (.inl (IntKind.i64.wrap (v4-1)))
  else
   some (.inr (Se a0 a1 v4))
 else
  some (.inr (Se a0 a1 v4))
def LS (a0:List Ag) (a1:Ag):Option (List Ag):=
 AL (fun s:Int=>LJ a0 a1 s) (a0.length:Int)
def LW:Nat→Int→Option (Aa)
 |0,_=>none
 |n_+1,a0=>
  if(decide (a0<10))then
   req (([(IntKind.u8.wrap (IntKind.i64.wrap ((48:Int)+a0)))]:List Int).length≤9223372036854775807)<|
   some ([(IntKind.u8.wrap (IntKind.i64.wrap ((48:Int)+a0)))].map fun n=>UInt8.ofNat n.toNat)
  else
   ((LW n_) (IntKind.i64.wrap (Int.tdiv a0 10))).bind fun v1=>
   req (([(IntKind.u8.wrap (IntKind.i64.wrap ((48:Int)+(Int.tmod a0 10))))]:List Int).length≤9223372036854775807)<|
   req ((v1).length+(([(IntKind.u8.wrap (IntKind.i64.wrap ((48:Int)+(Int.tmod a0 10))))].map fun n=>UInt8.ofNat n.toNat)).length≤9223372036854775807)<|
   some (v1++([(IntKind.u8.wrap (IntKind.i64.wrap ((48:Int)+(Int.tmod a0 10))))].map fun n=>UInt8.ofNat n.toNat))
def S3:Int→Option (Aa):=LW JJ
def PV (a0:Int):Option (Aa):=
 if(decide (a0<0))then
  (S3 (IntKind.i64.wrap (0-a0))).bind fun v1=>
  req ((([45]:Aa)).length+(v1).length≤9223372036854775807)<|
  some ((([45]:Aa):Aa)++v1)
 else
  (S3 a0).bind fun v2=>
  some v2
def Ex (a0:List Ap) (a1:List As) (v1:List Ag) (v2:Int):Option ((List Ag × Int) ⊕ Option (Int × Aa × List Ag)):=
 if(decide (v2<(a0.length:Int)))then
  (getI a0 v2).bind fun y3=>
  (Sr v1 a1 y3.ab).bind fun v4=>
  if(((!v4.2.2)&&(y3.ae !=2))&&(y3.ae !=3))then
   some (.inr (some (1,y3.ab, [])))
  else
   (SO y3 v4.1 v4.2.1).bind fun v5=>
   if v5 then
    some (.inr (some (2,([]:Aa), [])))
   else
    if(y3.ae==2)then
     (LS v1 (⟨y3.ab,y3.ak,false⟩:Ag)).bind fun v6=>
     some (.inl (v6,(IntKind.i64.wrap (v2+1))))
    else
     if(y3.ae==3)then
      (LS v1 (⟨y3.ab,([]:Aa),true⟩:Ag)).bind fun v7=>
      some (.inl (v7,(IntKind.i64.wrap (v2+1))))
     else
      if(y3.ae==4)then
       (PY v4.1).bind fun v8=>
       if(!v4.2.1)then
        (PV (IntKind.i64.wrap ((0:Int)+y3.cf))).bind fun v9=>
        (LS v1 (⟨y3.ab,v9,false⟩:Ag)).bind fun v10=>
        some (.inl (v10,(IntKind.i64.wrap (v2+1))))
       else
        (PV (IntKind.i64.wrap (v8.1+y3.cf))).bind fun v11=>
        (LS v1 (⟨y3.ab,v11,false⟩:Ag)).bind fun v12=>
        some (.inl (v12,(IntKind.i64.wrap (v2+1))))
      else
       some (.inl (v1,(IntKind.i64.wrap (v2+1))))
 else
  some (.inr (some (3,([]:Aa),v1)))
def SA (a0:List Ap) (a1:List As):Option (Int × Aa × List Ag):=
 AL (fun s:List Ag × Int=>Ex a0 a1 s.1 s.2) ([],0)
def aP (a1:Aa):Option (As):=
 some (⟨a1,([]:Aa),false⟩:As)
def MW (a0:List Ag) (a1:Aa) (v1:Int):Option ((Int) ⊕ Option (As)):=
 if(decide (v1<(a0.length:Int)))then
  (getI a0 v1).bind fun y2=>
  if(y2.ab==a1)then
   some (.inr (some (⟨a1,y2.ak,true⟩:As)))
  else
   some (.inl (IntKind.i64.wrap (v1+1)))
 else
  some (.inr (aP a1))
def SE (a0:List Ag) (a1:Aa):Option (As):=
 AL (fun s:Int=>MW a0 a1 s) 0
def LP (a0:List Ag) (a1:List Ap) (v1:List As):Option ((List As) ⊕ Option (List As × List Ag × Bool)):=
 (SA a1 v1).bind fun v2=>
 if(v2.1 !=1)then
  some (.inr (some (v1,v2.2.2,(v2.1==3))))
 else
  (SE a0 v2.2.1).bind fun v3=>
  req ((((v1).length:Int)+(([v3]:List As).length:Int))*40≤140737488355328∧((v1).length:Int)+(([v3]:List As).length:Int)≤140737488355328)<|
  some (.inl (v1++ [v3]))
def WM (a0:List Ag) (a1:List Ap):Option (List As × List Ag × Bool):=
 AL (fun s:List As=>LP a0 a1 s) []
def M7 (a0 a1:List Ag) (v1:Int):Option ((Int) ⊕ Option (Bool)):=
 if(decide (v1<(a0.length:Int)))then
  (getI a0 v1).bind fun y2=>
  (getI a1 v1).bind fun y3=>
  if(!(y2.ab==y3.ab&&(y2.ak==y3.ak&&(y2.bd==y3.bd))))then
   some (.inr (some false))
  else
   some (.inl (IntKind.i64.wrap (v1+1)))
 else
  some (.inr (some true))
def M0 (a0 a1:List Ag):Option (Bool):=
 if((a0.length:Int) !=(a1.length:Int))then
  some false
 else
  AL (fun s:Int=>M7 a0 a1 s) 0
def Sx (a0:List Ag) (a1:List Ap):Option (List As × List Ag × Bool × Bool):=
 (SG a0).bind fun v1=>
 if v1 then
  (LY a1).bind fun v2=>
  if(!v2)then
   some ([], [],false,false)
  else
   (WJ a0 a1).bind fun v3=>
   some (v3.1,v3.2.1,v3.2.2,true)
 else
  some ([], [],false,false)
def R2 (a0:List Int):Option (List Ag × List Ap):=
 (R8 (⟨a0,0,0⟩:AO)).bind fun v1=>
 (MT v1.2).bind fun v2=>
 some (v1.1,v2.1)
def Sv (a0:List Ag) (a1:List Ap):Option (List As × List Ag × Bool × Bool):=
 (SC a0).bind fun v1=>
 if v1 then
  (LU a1).bind fun v2=>
  if(!v2)then
   some ([], [],false,false)
  else
   (WM a0 a1).bind fun v3=>
   some (v3.1,v3.2.1,v3.2.2,true)
 else
  some ([], [],false,false)
def M9 (a0 a1:List As) (v1:Int):Option ((Int) ⊕ Option (Bool)):=
 if(decide (v1<(a0.length:Int)))then
  (getI a0 v1).bind fun y2=>
  (getI a1 v1).bind fun y3=>
  if(!(y2.ab==y3.ab&&(y2.ak==y3.ak&&(y2.a7==y3.a7))))then
   some (.inr (some false))
  else
   some (.inl (IntKind.i64.wrap (v1+1)))
 else
  some (.inr (some true))
def Sg (a0 a1:List As):Option (Bool):=
 if((a0.length:Int) !=(a1.length:Int))then
  some false
 else
  AL (fun s:Int=>M9 a0 a1 s) 0
def SH (a0:List Ap):Option (Bool):=
 (LU a0).bind fun v1=>
 some v1
def Wx (a0 a1:As):Option (Bool):=
 some (a0.ab==a1.ab)
def WA (a0:List As):Option (Bool):=
 some (decide ((a0.length:Int)≤8))
def Nh (a0:List As) (v1:Int):Option ((Int) ⊕ Option (Bool)):=
 if(decide (v1<(a0.length:Int)))then
  (getI a0 v1).bind fun y2=>
  (Nc y2.ab).bind fun v3=>
  if v3 then
   (PQ y2.ak (!y2.a7)).bind fun v4=>
   if v4 then
    req (0≤(0:Int)∧(0:Int)≤v1∧v1≤(a0.length:Int))<|
    (GO (Br a0 0 v1) (fun y0_=>Wx y0_ y2)).bind fun v5=>
    if v5 then
     some (.inr (some false))
    else
     some (.inl (IntKind.i64.wrap (v1+1)))
   else
    some (.inr (some false))
  else
   some (.inr (some false))
 else
  some (.inr (WA a0))
def SF (a0:List As):Option (Bool):=
 AL (fun s:Int=>Nh a0 s) 0
def Nd (a0:List Ap) (a1:List As):Option (Int × Aa × List Ag × Bool):=
 (LY a0).bind fun v1=>
 if v1 then
  (SF a1).bind fun v2=>
  if(!v2)then
   some (0,([]:Aa), [],false)
  else
   (SI a0 a1).bind fun v3=>
   some (v3.1,v3.2.1,v3.2.2,true)
 else
  some (0,([]:Aa), [],false)
def Fj (a0 a1:Aa):Option (Bool):=
 (Kq a0).bind fun v1=>
 if v1 then
  (Kq a1).bind fun v2=>
  some ((!v2)||(Op.bytesLess a0 a1))
 else
  some (Op.bytesLess a0 a1)
def PE (v1:Int) (v3:List (Aa)):Option ((Int × List (Aa)) ⊕ Option (Unit × List (Aa))):=
 some (.inl ((IntKind.i64.wrap (v1+1)),v3))
def Kr (a1 v1 v4:Int) (v5:List (Aa)):Option ((Int × List (Aa)) ⊕ Option ((Int × List (Aa)) ⊕ Option (Unit × List (Aa)))):=
 if(decide (v4>a1))then
  (getI v5 v4).bind fun y6=>
  (getI v5 (IntKind.i64.wrap (v4-1))).bind fun y7=>
  (Fj y6 y7).bind fun v8=>
  if v8 then
   (getI (v5.set (v4).toNat y7) (IntKind.i64.wrap (v4-1))).bind fun y9=>
   some (.inl ((IntKind.i64.wrap (v4-1)),((v5.set (v4).toNat y7).set ((IntKind.i64.wrap (v4-1))).toNat y6)))
  else
   some (.inr (PE v1 v5))
 else
  some (.inr (PE v1 v5))
def Jg (a1 a2 v1:Int) (v2:List (Aa)):Option ((Int × List (Aa)) ⊕ Option (Unit × List (Aa))):=
 if(decide (v1<a2))then
  AL (fun s:Int × List (Aa)=>Kr a1 v1 s.1 s.2) (v1,v2)
 else
  some (.inr (some ((),v2)))
def RR (a0:List (Aa)) (a1 a2:Int):Option (Unit × List (Aa)):=
 AL (fun s:Int × List (Aa)=>Jg a1 a2 s.1 s.2) ((IntKind.i64.wrap (a1+1)),a0)
def Wa (a3 v1:Int) (v2:List (Aa)) (v3:Int):Option ((Int × List (Aa)) ⊕ Option (Unit × List (Aa))):=
 (getI v2 (IntKind.i64.wrap (a3+v1))).bind fun y4=>
 (getI v2 (IntKind.i64.wrap (a3+v3))).bind fun y5=>
 (Fj y4 y5).bind fun v6=>
 if(!v6)then
  some (.inr (some ((),v2)))
 else
  (getI (v2.set ((IntKind.i64.wrap (a3+v1))).toNat y5) (IntKind.i64.wrap (a3+v3))).bind fun y7=>
  some (.inl (v3,((v2.set ((IntKind.i64.wrap (a3+v1))).toNat y5).set ((IntKind.i64.wrap (a3+v3))).toNat y4)))
def oL (a2 a3 v1:Int) (v2:List (Aa)):Option ((Int × List (Aa)) ⊕ Option (Unit × List (Aa))):=
 if(decide ((IntKind.i64.wrap ((IntKind.i64.wrap ((2:Int)*v1))+1))≥a2))then
  some (.inr (some ((),v2)))
 else
  if(decide ((IntKind.i64.wrap ((IntKind.i64.wrap ((IntKind.i64.wrap ((2:Int)*v1))+1))+1))<a2))then
   (getI v2 (IntKind.i64.wrap (a3+(IntKind.i64.wrap ((IntKind.i64.wrap ((2:Int)*v1))+1))))).bind fun y8=>
   (getI v2 (IntKind.i64.wrap ((IntKind.i64.wrap (a3+(IntKind.i64.wrap ((IntKind.i64.wrap ((2:Int)*v1))+1))))+1))).bind fun y9=>
   (Fj y8 y9).bind fun v10=>
   if v10 then
    Wa a3 v1 v2 (IntKind.i64.wrap ((IntKind.i64.wrap ((IntKind.i64.wrap ((2:Int)*v1))+1))+1))
   else
    Wa a3 v1 v2 (IntKind.i64.wrap ((IntKind.i64.wrap ((2:Int)*v1))+1))
  else
   Wa a3 v1 v2 (IntKind.i64.wrap ((IntKind.i64.wrap ((2:Int)*v1))+1))
def Wh (a0:List (Aa)) (a1 a2 a3:Int):Option (Unit × List (Aa)):=
 AL (fun s:Int × List (Aa)=>oL a2 a3 s.1 s.2) (a1,a0)
def pF (a1 v2:Int) (v3:List (Aa)):Option ((Int × List (Aa)) ⊕ Option (Unit × List (Aa))):=
 if(decide (v2≥0))then
  (getI v3 (IntKind.i64.wrap (a1+v2))).bind fun y4=>
  (getI v3 a1).bind fun y5=>
  (getI (v3.set (a1).toNat y4) (IntKind.i64.wrap (a1+v2))).bind fun y6=>
  (Wh ((v3.set (a1).toNat y4).set ((IntKind.i64.wrap (a1+v2))).toNat y5) 0 v2 a1).bind fun v7=>
  some (.inl ((IntKind.i64.wrap (v2-1)),v7.2))
 else
  some (.inr (some ((),v3)))
def oJ (a1 a2:Int) (v1:List (Aa)):Option (Unit × List (Aa)):=
 AL (fun s:Int × List (Aa)=>pF a1 s.1 s.2) ((IntKind.i64.wrap ((IntKind.i64.wrap (a2-a1))-1)),v1)
def oM (a1 a2 v8:Int) (v9:List (Aa)):Option ((Int × List (Aa)) ⊕ Option (Unit × List (Aa))):=
 if(decide (v8≥0))then
  (Wh v9 v8 (IntKind.i64.wrap (a2-a1)) a1).bind fun v10=>
  some (.inl ((IntKind.i64.wrap (v8-1)),v10.2))
 else
  some (.inr (oJ a1 a2 v9))
def Z7 (a0:List (Aa)) (a1 a2:Int):Option (Unit × List (Aa)):=
 AL (fun s:Int × List (Aa)=>oM a1 a2 s.1 s.2) ((IntKind.i64.wrap (Int.tdiv (IntKind.i64.wrap ((IntKind.i64.wrap (a2-a1))-1)) 2)),a0)
def aD (a0:Int):Option (Int):=
 (PS (IntKind.u64.wrap a0)).bind fun v1=>
 req (0≤v1)<|
 some (IntKind.u64.wrap (1*2^(min (v1).toNat (IntKind.bits .u64))))
def aA (a0:Int):Option (Int × Int):=
 some ((IntKind.u64.wrap ((BitVec.ofInt (IntKind.bits .u64) (IntKind.u64.wrap ((BitVec.ofInt (IntKind.bits .u64) (IntKind.u64.wrap ((BitVec.ofInt (IntKind.bits .u64) a0^^^BitVec.ofInt (IntKind.bits .u64) (IntKind.u64.wrap (a0*2^(min ((13:Int)).toNat (IntKind.bits .u64))))).toNat:Int))^^^BitVec.ofInt (IntKind.bits .u64) (Int.fdiv (IntKind.u64.wrap ((BitVec.ofInt (IntKind.bits .u64) a0^^^BitVec.ofInt (IntKind.bits .u64) (IntKind.u64.wrap (a0*2^(min ((13:Int)).toNat (IntKind.bits .u64))))).toNat:Int)) (2^(min ((7:Int)).toNat (IntKind.bits .u64))))).toNat:Int))^^^BitVec.ofInt (IntKind.bits .u64) (IntKind.u64.wrap ((IntKind.u64.wrap ((BitVec.ofInt (IntKind.bits .u64) (IntKind.u64.wrap ((BitVec.ofInt (IntKind.bits .u64) a0^^^BitVec.ofInt (IntKind.bits .u64) (IntKind.u64.wrap (a0*2^(min ((13:Int)).toNat (IntKind.bits .u64))))).toNat:Int))^^^BitVec.ofInt (IntKind.bits .u64) (Int.fdiv (IntKind.u64.wrap ((BitVec.ofInt (IntKind.bits .u64) a0^^^BitVec.ofInt (IntKind.bits .u64) (IntKind.u64.wrap (a0*2^(min ((13:Int)).toNat (IntKind.bits .u64))))).toNat:Int)) (2^(min ((7:Int)).toNat (IntKind.bits .u64))))).toNat:Int))*2^(min ((17:Int)).toNat (IntKind.bits .u64))))).toNat:Int)),(IntKind.u64.wrap ((BitVec.ofInt (IntKind.bits .u64) (IntKind.u64.wrap ((BitVec.ofInt (IntKind.bits .u64) (IntKind.u64.wrap ((BitVec.ofInt (IntKind.bits .u64) a0^^^BitVec.ofInt (IntKind.bits .u64) (IntKind.u64.wrap (a0*2^(min ((13:Int)).toNat (IntKind.bits .u64))))).toNat:Int))^^^BitVec.ofInt (IntKind.bits .u64) (Int.fdiv (IntKind.u64.wrap ((BitVec.ofInt (IntKind.bits .u64) a0^^^BitVec.ofInt (IntKind.bits .u64) (IntKind.u64.wrap (a0*2^(min ((13:Int)).toNat (IntKind.bits .u64))))).toNat:Int)) (2^(min ((7:Int)).toNat (IntKind.bits .u64))))).toNat:Int))^^^BitVec.ofInt (IntKind.bits .u64) (IntKind.u64.wrap ((IntKind.u64.wrap ((BitVec.ofInt (IntKind.bits .u64) (IntKind.u64.wrap ((BitVec.ofInt (IntKind.bits .u64) a0^^^BitVec.ofInt (IntKind.bits .u64) (IntKind.u64.wrap (a0*2^(min ((13:Int)).toNat (IntKind.bits .u64))))).toNat:Int))^^^BitVec.ofInt (IntKind.bits .u64) (Int.fdiv (IntKind.u64.wrap ((BitVec.ofInt (IntKind.bits .u64) a0^^^BitVec.ofInt (IntKind.bits .u64) (IntKind.u64.wrap (a0*2^(min ((13:Int)).toNat (IntKind.bits .u64))))).toNat:Int)) (2^(min ((7:Int)).toNat (IntKind.bits .u64))))).toNat:Int))*2^(min ((17:Int)).toNat (IntKind.bits .u64))))).toNat:Int)))
def Z5 (a1 v2:Int) (v4:List (Aa)) (v5:Int × Int) (v6:Int):Option ((Int × Int × List (Aa)) ⊕ Option (Unit × List (Aa))):=
 (getI v4 (IntKind.i64.wrap (a1+v6))).bind fun y7=>
 (getI v4 v2).bind fun y8=>
 (getI (v4.set (v2).toNat y7) (IntKind.i64.wrap (a1+v6))).bind fun y9=>
 some (.inl ((IntKind.i64.wrap (v2+1)),v5.2,((v4.set (v2).toNat y7).set ((IntKind.i64.wrap (a1+v6))).toNat y8)))
def oY (a1 a2:Int) (v1 v2 v3:Int) (v4:List (Aa)):Option ((Int × Int × List (Aa)) ⊕ Option (Unit × List (Aa))):=
 if(decide (v2≤(IntKind.i64.wrap ((IntKind.i64.wrap (a1+(IntKind.i64.wrap ((IntKind.i64.wrap (Int.tdiv (IntKind.i64.wrap (a2-a1)) 4))*2))))+1))))then
  (aA v3).bind fun v5=>
  if(decide ((IntKind.i64.wrap (IntKind.u64.wrap ((BitVec.ofInt (IntKind.bits .u64) v5.1&&&BitVec.ofInt (IntKind.bits .u64) (IntKind.u64.wrap (v1-1))).toNat:Int)))≥(IntKind.i64.wrap (a2-a1))))then
   Z5 a1 v2 v4 v5 (IntKind.i64.wrap ((IntKind.i64.wrap (IntKind.u64.wrap ((BitVec.ofInt (IntKind.bits .u64) v5.1&&&BitVec.ofInt (IntKind.bits .u64) (IntKind.u64.wrap (v1-1))).toNat:Int)))-(IntKind.i64.wrap (a2-a1))))
  else
   Z5 a1 v2 v4 v5 (IntKind.i64.wrap (IntKind.u64.wrap ((BitVec.ofInt (IntKind.bits .u64) v5.1&&&BitVec.ofInt (IntKind.bits .u64) (IntKind.u64.wrap (v1-1))).toNat:Int)))
 else
  some (.inr (some ((),v4)))
def ZW (a0:List (Aa)) (a1 a2:Int):Option (Unit × List (Aa)):=
 if(decide ((IntKind.i64.wrap (a2-a1))≥8))then
  (aD (IntKind.i64.wrap (a2-a1))).bind fun v1=>
  AL (fun s:Int × Int × List (Aa)=>oY a1 a2 v1 s.1 s.2.1 s.2.2) ((IntKind.i64.wrap ((IntKind.i64.wrap (a1+(IntKind.i64.wrap ((IntKind.i64.wrap (Int.tdiv (IntKind.i64.wrap (a2-a1)) 4))*2))))-1)),(IntKind.u64.wrap (IntKind.i64.wrap (a2-a1))),a0)
 else
  some ((),a0)
def RX (a0:List (Aa)) (a1 a2 a3:Int):Option ((Int × Int) × List (Aa) × Int):=
 (getI a0 a2).bind fun y1=>
 (getI a0 a1).bind fun y2=>
 (Fj y1 y2).bind fun v3=>
 if v3 then
  some ((a2,a1),a0,(IntKind.i64.wrap (a3+1)))
 else
  some ((a1,a2),a0,a3)
def RY (a0:List (Aa)) (a1 a2:Int) (a3 a4:Int):Option (Int × List (Aa) × Int):=
 (RX a0 a1 a2 a4).bind fun v1=>
 (RX v1.2.1 v1.1.2 a3 v1.2.2).bind fun v2=>
 (RX v2.2.1 v1.1.1 v2.1.1 v2.2.2).bind fun v3=>
 some (v3.1.2,v3.2.1,v3.2.2)
def RQ (a0:List (Aa)) (a1 a2:Int):Option (Int × List (Aa) × Int):=
 (RY a0 (IntKind.i64.wrap (a1-1)) a1 (IntKind.i64.wrap (a1+1)) a2).bind fun v1=>
 some (v1.1,v1.2.1,v1.2.2)
def Wb (v1 v2:Int) (v3:List (Aa)):Option ((Int × Int) × List (Aa)):=
 if(v2==0)then
  some ((v1,1),v3)
 else
  if(v2==12)then
   some ((v1,2),v3)
  else
   some ((v1,0),v3)
def ZS (a0:List (Aa)) (a1 a2:Int):Option ((Int × Int) × List (Aa)):=
 if(decide ((IntKind.i64.wrap (a2-a1))≥8))then
  if(decide ((IntKind.i64.wrap (a2-a1))≥50))then
   (RQ a0 (IntKind.i64.wrap (a1+(IntKind.i64.wrap ((IntKind.i64.wrap (Int.tdiv (IntKind.i64.wrap (a2-a1)) 4))*1)))) 0).bind fun v4=>
   (RQ v4.2.1 (IntKind.i64.wrap (a1+(IntKind.i64.wrap ((IntKind.i64.wrap (Int.tdiv (IntKind.i64.wrap (a2-a1)) 4))*2)))) v4.2.2).bind fun v5=>
   (RQ v5.2.1 (IntKind.i64.wrap (a1+(IntKind.i64.wrap ((IntKind.i64.wrap (Int.tdiv (IntKind.i64.wrap (a2-a1)) 4))*3)))) v5.2.2).bind fun v6=>
   (RY v6.2.1 v4.1 v5.1 v6.1 v6.2.2).bind fun v7=>
   Wb v7.1 v7.2.2 v7.2.1
  else
   (RY a0 (IntKind.i64.wrap (a1+(IntKind.i64.wrap ((IntKind.i64.wrap (Int.tdiv (IntKind.i64.wrap (a2-a1)) 4))*1)))) (IntKind.i64.wrap (a1+(IntKind.i64.wrap ((IntKind.i64.wrap (Int.tdiv (IntKind.i64.wrap (a2-a1)) 4))*2)))) (IntKind.i64.wrap (a1+(IntKind.i64.wrap ((IntKind.i64.wrap (Int.tdiv (IntKind.i64.wrap (a2-a1)) 4))*3)))) 0).bind fun v8=>
   Wb v8.1 v8.2.2 v8.2.1
 else
  Wb (IntKind.i64.wrap (a1+(IntKind.i64.wrap ((IntKind.i64.wrap (Int.tdiv (IntKind.i64.wrap (a2-a1)) 4))*2)))) 0 a0
def o5 (v1 v2:Int) (v3:List (Aa)):Option ((Int × Int × List (Aa)) ⊕ Option (Unit × List (Aa))):=
 if(decide (v1<v2))then
  (getI v3 v2).bind fun y4=>
  (getI v3 v1).bind fun y5=>
  (getI (v3.set (v1).toNat y4) v2).bind fun y6=>
  some (.inl ((IntKind.i64.wrap (v1+1)),(IntKind.i64.wrap (v2-1)),((v3.set (v1).toNat y4).set (v2).toNat y5)))
 else
  some (.inr (some ((),v3)))
def Z0 (a0:List (Aa)) (a1 a2:Int):Option (Unit × List (Aa)):=
 AL (fun s:Int × Int × List (Aa)=>o5 s.1 s.2.1 s.2.2) (a1,(IntKind.i64.wrap (a2-1)),a0)
def ZQ (v2 v4:Int) (v9:List (Aa)):Option ((Int × Int × List (Aa)) ⊕ Option (Bool × List (Aa))):=
 some (.inl (v4,(IntKind.i64.wrap (v2+1)),v9))
def oF (a2 v2:Int) (v4 v10:Int) (v11:List (Aa)):Option ((Int × List (Aa)) ⊕ Option ((Int × Int × List (Aa)) ⊕ Option (Bool × List (Aa)))):=
 if(decide (v10<a2))then
  (getI v11 v10).bind fun y12=>
  (getI v11 (IntKind.i64.wrap (v10-1))).bind fun y13=>
  (Fj y12 y13).bind fun v14=>
  if(!v14)then
   some (.inr (ZQ v2 v4 v11))
  else
   (getI (v11.set (v10).toNat y13) (IntKind.i64.wrap (v10-1))).bind fun y15=>
   some (.inl ((IntKind.i64.wrap (v10+1)),((v11.set (v10).toNat y13).set ((IntKind.i64.wrap (v10-1))).toNat y12)))
 else
  some (.inr (ZQ v2 v4 v11))
def ZN (a2 v2 v4:Int) (v8:List (Aa)):Option ((Int × Int × List (Aa)) ⊕ Option (Bool × List (Aa))):=
 if(decide ((IntKind.i64.wrap (a2-v4))≥2))then
  AL (fun s:Int × List (Aa)=>oF a2 v2 v4 s.1 s.2) ((IntKind.i64.wrap (v4+1)),v8)
 else
  some (.inl (v4,(IntKind.i64.wrap (v2+1)),v8))
def ZP (a2 v2 v4:Int) (v16:List (Aa)):Option ((Int × Int × List (Aa)) ⊕ Option (Bool × List (Aa))):=
 ZN a2 v2 v4 v16
def oH (a2 v2:Int) (v4 v17:Int) (v18:List (Aa)):Option ((Int × List (Aa)) ⊕ Option ((Int × Int × List (Aa)) ⊕ Option (Bool × List (Aa)))):=
 if(decide (v17≥1))then
  (getI v18 v17).bind fun y19=>
  (getI v18 (IntKind.i64.wrap (v17-1))).bind fun y20=>
  (Fj y19 y20).bind fun v21=>
  if(!v21)then
   some (.inr (ZP a2 v2 v4 v18))
  else
   (getI (v18.set (v17).toNat y20) (IntKind.i64.wrap (v17-1))).bind fun y22=>
   some (.inl ((IntKind.i64.wrap (v17-1)),((v18.set (v17).toNat y20).set ((IntKind.i64.wrap (v17-1))).toNat y19)))
 else
  some (.inr (ZP a2 v2 v4 v18))
def ZO (a1 a2 v2:Int) (v3:List (Aa)) (v4:Int):Option ((Int × Int × List (Aa)) ⊕ Option (Bool × List (Aa))):=
 if(v4==a2)then
  some (.inr (some (true,v3)))
 else
  if(decide ((IntKind.i64.wrap (a2-a1))<50))then
   some (.inr (some (false,v3)))
  else
   (getI v3 (IntKind.i64.wrap (v4-1))).bind fun y5=>
   (getI v3 v4).bind fun y6=>
   (getI (v3.set (v4).toNat y5) (IntKind.i64.wrap (v4-1))).bind fun y7=>
   if(decide ((IntKind.i64.wrap (v4-a1))≥2))then
    AL (fun s:Int × List (Aa)=>oH a2 v2 v4 s.1 s.2) ((IntKind.i64.wrap (v4-1)),((v3.set (v4).toNat y5).set ((IntKind.i64.wrap (v4-1))).toNat y6))
   else
    ZN a2 v2 v4 ((v3.set (v4).toNat y5).set ((IntKind.i64.wrap (v4-1))).toNat y6)
def oI (a1 a2 v2:Int) (v3:List (Aa)) (v23:Int):Option ((Int) ⊕ Option ((Int × Int × List (Aa)) ⊕ Option (Bool × List (Aa)))):=
 if(decide (v23<a2))then
  (getI v3 v23).bind fun y24=>
  (getI v3 (IntKind.i64.wrap (v23-1))).bind fun y25=>
  (Fj y24 y25).bind fun v26=>
  if(!v26)then
   some (.inl (IntKind.i64.wrap (v23+1)))
  else
   some (.inr (ZO a1 a2 v2 v3 v23))
 else
  some (.inr (ZO a1 a2 v2 v3 v23))
def oG (a1 a2:Int) (v1 v2:Int) (v3:List (Aa)):Option ((Int × Int × List (Aa)) ⊕ Option (Bool × List (Aa))):=
 if(decide (v2<5))then
  AL (fun s:Int=>oI a1 a2 v2 v3 s) v1
 else
  some (.inr (some (false,v3)))
def Z2 (a0:List (Aa)) (a1 a2:Int):Option (Bool × List (Aa)):=
 AL (fun s:Int × Int × List (Aa)=>oG a1 a2 s.1 s.2.1 s.2.2) ((IntKind.i64.wrap (a1+1)),0,a0)
def Z4 (v6:List (Aa)) (v7 v8:Int):Option ((Int × Int × List (Aa)) ⊕ Option (Int × List (Aa))):=
 if(decide (v7>v8))then
  some (.inr (some (v7,v6)))
 else
  (getI v6 v8).bind fun y9=>
  (getI v6 v7).bind fun y10=>
  (getI (v6.set (v7).toNat y9) v8).bind fun y11=>
  some (.inl ((IntKind.i64.wrap (v7+1)),(IntKind.i64.wrap (v8-1)),((v6.set (v7).toNat y9).set (v8).toNat y10)))
def n8 (a1:Int) (v6:List (Aa)) (v7 v12:Int):Option ((Int) ⊕ Option ((Int × Int × List (Aa)) ⊕ Option (Int × List (Aa)))):=
 if(decide (v7≤v12))then
  (getI v6 a1).bind fun y13=>
  (getI v6 v12).bind fun y14=>
  (Fj y13 y14).bind fun v15=>
  if v15 then
   some (.inl (IntKind.i64.wrap (v12-1)))
  else
   some (.inr (Z4 v6 v7 v12))
 else
  some (.inr (Z4 v6 v7 v12))
def Z3 (a1 v5:Int) (v6:List (Aa)) (v7:Int):Option ((Int × Int × List (Aa)) ⊕ Option (Int × List (Aa))):=
 AL (fun s:Int=>n8 a1 v6 v7 s) v5
def oB (a1 v5:Int) (v6:List (Aa)) (v16:Int):Option ((Int) ⊕ Option ((Int × Int × List (Aa)) ⊕ Option (Int × List (Aa)))):=
 if(decide (v16≤v5))then
  (getI v6 a1).bind fun y17=>
  (getI v6 v16).bind fun y18=>
  (Fj y17 y18).bind fun v19=>
  if(!v19)then
   some (.inl (IntKind.i64.wrap (v16+1)))
  else
   some (.inr (Z3 a1 v5 v6 v16))
 else
  some (.inr (Z3 a1 v5 v6 v16))
def oA (a1 v4 v5:Int) (v6:List (Aa)):Option ((Int × Int × List (Aa)) ⊕ Option (Int × List (Aa))):=
 AL (fun s:Int=>oB a1 v5 v6 s) v4
def ZV (a0:List (Aa)) (a1 a2 a3:Int):Option (Int × List (Aa)):=
 (getI a0 a3).bind fun y1=>
 (getI a0 a1).bind fun y2=>
 (getI (a0.set (a1).toNat y1) a3).bind fun y3=>
 AL (fun s:Int × Int × List (Aa)=>oA a1 s.1 s.2.1 s.2.2) ((IntKind.i64.wrap (a1+1)),(IntKind.i64.wrap (a2-1)),((a0.set (a1).toNat y1).set (a3).toNat y2))
def oS (a1 v12:Int) (v13:List (Aa)):Option ((Int × Bool) × List (Aa)):=
 (getI v13 a1).bind fun y14=>
 (getI v13 v12).bind fun y15=>
 (getI (v13.set (v12).toNat y14) a1).bind fun y16=>
 some ((v12,false),((v13.set (v12).toNat y14).set (a1).toNat y15))
def ZX (a1:Int) (v19:List (Aa)) (v20 v21:Int):Option ((Int × Int × List (Aa)) ⊕ Option ((Int × Bool) × List (Aa))):=
 if(decide (v20>v21))then
  some (.inr (oS a1 v21 v19))
 else
  (getI v19 v21).bind fun y22=>
  (getI v19 v20).bind fun y23=>
  (getI (v19.set (v20).toNat y22) v21).bind fun y24=>
  some (.inl ((IntKind.i64.wrap (v20+1)),(IntKind.i64.wrap (v21-1)),((v19.set (v20).toNat y22).set (v21).toNat y23)))
def oV (a1:Int) (v19:List (Aa)) (v20 v25:Int):Option ((Int) ⊕ Option ((Int × Int × List (Aa)) ⊕ Option ((Int × Bool) × List (Aa)))):=
 if(decide (v20≤v25))then
  (getI v19 v25).bind fun y26=>
  (getI v19 a1).bind fun y27=>
  (Fj y26 y27).bind fun v28=>
  if(!v28)then
   some (.inl (IntKind.i64.wrap (v25-1)))
  else
   some (.inr (ZX a1 v19 v20 v25))
 else
  some (.inr (ZX a1 v19 v20 v25))
def Z1 (a1 v18:Int) (v19:List (Aa)) (v20:Int):Option ((Int × Int × List (Aa)) ⊕ Option ((Int × Bool) × List (Aa))):=
 AL (fun s:Int=>oV a1 v19 v20 s) v18
def oW (a1 v18:Int) (v19:List (Aa)) (v29:Int):Option ((Int) ⊕ Option ((Int × Int × List (Aa)) ⊕ Option ((Int × Bool) × List (Aa)))):=
 if(decide (v29≤v18))then
  (getI v19 v29).bind fun y30=>
  (getI v19 a1).bind fun y31=>
  (Fj y30 y31).bind fun v32=>
  if v32 then
   some (.inl (IntKind.i64.wrap (v29+1)))
  else
   some (.inr (Z1 a1 v18 v19 v29))
 else
  some (.inr (Z1 a1 v18 v19 v29))
def oT (a1 v17 v18:Int) (v19:List (Aa)):Option ((Int × Int × List (Aa)) ⊕ Option ((Int × Bool) × List (Aa))):=
 AL (fun s:Int=>oW a1 v18 v19 s) v17
def ZZ (a0:List (Aa)) (a1 a3:Int) (y1 y2:Aa) (v4 v5:Int):Option ((Int × Bool) × List (Aa)):=
 if(decide (v4>v5))then
  (getI ((a0.set (a1).toNat y1).set (a3).toNat y2) a1).bind fun y6=>
  (getI ((a0.set (a1).toNat y1).set (a3).toNat y2) v5).bind fun y7=>
  (getI (((a0.set (a1).toNat y1).set (a3).toNat y2).set (v5).toNat y6) a1).bind fun y8=>
  some ((v5,true),((((a0.set (a1).toNat y1).set (a3).toNat y2).set (v5).toNat y6).set (a1).toNat y7))
 else
  (getI ((a0.set (a1).toNat y1).set (a3).toNat y2) v5).bind fun y9=>
  (getI ((a0.set (a1).toNat y1).set (a3).toNat y2) v4).bind fun y10=>
  (getI (((a0.set (a1).toNat y1).set (a3).toNat y2).set (v4).toNat y9) v5).bind fun y11=>
  AL (fun s:Int × Int × List (Aa)=>oT a1 s.1 s.2.1 s.2.2) ((IntKind.i64.wrap (v4+1)),(IntKind.i64.wrap (v5-1)),((((a0.set (a1).toNat y1).set (a3).toNat y2).set (v4).toNat y9).set (v5).toNat y10))
def oU (a0:List (Aa)) (a1 a3:Int) (y1 y2:Aa) (v4 v33:Int):Option ((Int) ⊕ Option ((Int × Bool) × List (Aa))):=
 if(decide (v4≤v33))then
  (getI ((a0.set (a1).toNat y1).set (a3).toNat y2) v33).bind fun y34=>
  (getI ((a0.set (a1).toNat y1).set (a3).toNat y2) a1).bind fun y35=>
  (Fj y34 y35).bind fun v36=>
  if(!v36)then
   some (.inl (IntKind.i64.wrap (v33-1)))
  else
   some (.inr (ZZ a0 a1 a3 y1 y2 v4 v33))
 else
  some (.inr (ZZ a0 a1 a3 y1 y2 v4 v33))
def ZY (a0:List (Aa)) (a1 a2 a3:Int) (y1 y2:Aa) (v4:Int):Option ((Int × Bool) × List (Aa)):=
 AL (fun s:Int=>oU a0 a1 a3 y1 y2 v4 s) (IntKind.i64.wrap (a2-1))
def oQ (a0:List (Aa)) (a1 a2 a3:Int) (y1 y2:Aa) (v37:Int):Option ((Int) ⊕ Option ((Int × Bool) × List (Aa))):=
 if(decide (v37≤(IntKind.i64.wrap (a2-1))))then
  (getI ((a0.set (a1).toNat y1).set (a3).toNat y2) v37).bind fun y38=>
  (getI ((a0.set (a1).toNat y1).set (a3).toNat y2) a1).bind fun y39=>
  (Fj y38 y39).bind fun v40=>
  if v40 then
   some (.inl (IntKind.i64.wrap (v37+1)))
  else
   some (.inr (ZY a0 a1 a2 a3 y1 y2 v37))
 else
  some (.inr (ZY a0 a1 a2 a3 y1 y2 v37))
def Wg (a0:List (Aa)) (a1 a2 a3:Int):Option ((Int × Bool) × List (Aa)):=
 (getI a0 a3).bind fun y1=>
 (getI a0 a1).bind fun y2=>
 (getI (a0.set (a1).toNat y1) a3).bind fun y3=>
 AL (fun s:Int=>oQ a0 a1 a2 a3 y1 y2 s) (IntKind.i64.wrap (a1+1))
def ZT (rec_:(List (Aa))→Int→Int→Int→Option (Unit × List (Aa))) (v1:Int) (v3 v4:Bool) (v5 v10 v13:Int) (v15:List (Aa)):Option ((Int × List (Aa) × Bool × Bool × Int × Int) ⊕ Option (Unit × List (Aa))):=
 if(decide (v1>0))then
  (getI v15 (IntKind.i64.wrap (v1-1))).bind fun y16=>
  (getI v15 v13).bind fun y17=>
  (Fj y16 y17).bind fun v18=>
  if(!v18)then
   (ZV v15 v1 v5 v13).bind fun v19=>
   some (.inl (v19.1,v19.2,v3,v4,v5,v10))
  else
   (Wg v15 v1 v5 v13).bind fun v20=>
   if(decide ((IntKind.i64.wrap (v20.1.1-v1))<(IntKind.i64.wrap (v5-v20.1.1))))then
    (rec_ v20.2 v1 v20.1.1 v10).bind fun v21=>
    some (.inl ((IntKind.i64.wrap (v20.1.1+1)),v21.2,(decide ((IntKind.i64.wrap (v20.1.1-v1))≥(IntKind.i64.wrap (Int.tdiv (IntKind.i64.wrap (v5-v1)) 8)))),v20.1.2,v5,v10))
   else
    (rec_ v20.2 (IntKind.i64.wrap (v20.1.1+1)) v5 v10).bind fun v22=>
    some (.inl (v1,v22.2,(decide ((IntKind.i64.wrap (v5-v20.1.1))≥(IntKind.i64.wrap (Int.tdiv (IntKind.i64.wrap (v5-v1)) 8)))),v20.1.2,v20.1.1,v10))
 else
  (Wg v15 v1 v5 v13).bind fun v23=>
  if(decide ((IntKind.i64.wrap (v23.1.1-v1))<(IntKind.i64.wrap (v5-v23.1.1))))then
   (rec_ v23.2 v1 v23.1.1 v10).bind fun v24=>
   some (.inl ((IntKind.i64.wrap (v23.1.1+1)),v24.2,(decide ((IntKind.i64.wrap (v23.1.1-v1))≥(IntKind.i64.wrap (Int.tdiv (IntKind.i64.wrap (v5-v1)) 8)))),v23.1.2,v5,v10))
  else
   (rec_ v23.2 (IntKind.i64.wrap (v23.1.1+1)) v5 v10).bind fun v25=>
   some (.inl (v1,v25.2,(decide ((IntKind.i64.wrap (v5-v23.1.1))≥(IntKind.i64.wrap (Int.tdiv (IntKind.i64.wrap (v5-v1)) 8)))),v23.1.2,v23.1.1,v10))
def ZU (rec_:(List (Aa))→Int→Int→Int→Option (Unit × List (Aa))) (v1:Int) (v3 v4:Bool) (v5 v10:Int) (v12:List (Aa)) (v13 v14:Int):Option ((Int × List (Aa) × Bool × Bool × Int × Int) ⊕ Option (Unit × List (Aa))):=
 if((v3&&v4)&&(v14==1))then
  (Z2 v12 v1 v5).bind fun v26=>
  if v26.1 then
   some (.inr (some ((),v26.2)))
  else
   ZT rec_ v1 v3 v4 v5 v10 v13 v26.2
 else
  ZT rec_ v1 v3 v4 v5 v10 v13 v12
def pG (rec_:(List (Aa))→Int→Int→Int→Option (Unit × List (Aa))) (v1:Int) (v3 v4:Bool) (v5:Int) (v9:List (Aa)) (v10:Int):Option ((Int × List (Aa) × Bool × Bool × Int × Int) ⊕ Option (Unit × List (Aa))):=
 (ZS v9 v1 v5).bind fun v11=>
 if(v11.1.2==2)then
  (Z0 v11.2 v1 v5).bind fun v27=>
  ZU rec_ v1 v3 v4 v5 v10 v27.2 (IntKind.i64.wrap ((IntKind.i64.wrap (v5-1))-(IntKind.i64.wrap (v11.1.1-v1)))) 1
 else
  ZU rec_ v1 v3 v4 v5 v10 v11.2 v11.1.1 v11.1.2
def Wf (rec_:(List (Aa))→Int→Int→Int→Option (Unit × List (Aa))) (v1:Int) (v2:List (Aa)) (v3 v4:Bool) (v5 v6:Int):Option ((Int × List (Aa) × Bool × Bool × Int × Int) ⊕ Option (Unit × List (Aa))):=
 if(decide ((IntKind.i64.wrap (v5-v1))≤12))then
  (RR v2 v1 v5).bind fun v7=>
  some (.inr (some ((),v7.2)))
 else
  if(v6==0)then
   (Z7 v2 v1 v5).bind fun v8=>
   some (.inr (some ((),v8.2)))
  else
   YU (σ:=List (Aa) × Int) (
    if(!v3)then
     (ZW v2 v1 v5).bind fun v28=>
     some (.inl (v28.2,(IntKind.i64.wrap (v6-1))))
    else
     some (.inl (v2,v6))
   ) (fun s=>pG rec_ v1 v3 v4 v5 s.1 s.2)
def MV:Nat→(List (Aa))→Int→Int→Int→Option (Unit × List (Aa))
 |0,_,_,_,_=>none
 |n_+1,a0,a1,a2,a3=>AL (fun s:Int × List (Aa) × Bool × Bool × Int × Int=>Wf (MV n_) s.1 s.2.1 s.2.2.1 s.2.2.2.1 s.2.2.2.2.1 s.2.2.2.2.2) (a1,a0,true,true,a2,a3)
def RV:(List (Aa))→Int→Int→Int→Option (Unit × List (Aa)):=MV JJ
def RW (a0:List (Aa)):Option (Unit × List (Aa)):=
 (PS (IntKind.u64.wrap (a0.length:Int))).bind fun v1=>
 (RV a0 0 (a0.length:Int) v1).bind fun v2=>
 some ((),v2.2)
def Wl (v2:List (Aa)):Option (List (Aa) × Bool):=
 (RW v2).bind fun v3=>
 (RS v3.2).bind fun v4=>
 some (v4,true)
def MR (a0:List Ap) (v5:Int) (v6:List (Aa)):Option ((Int × List (Aa)) ⊕ Option (List (Aa) × Bool)):=
 if(decide (v5<(a0.length:Int)))then
  (getI a0 v5).bind fun y7=>
  if(((y7.ae==2)||(y7.ae==3))||(y7.ae==4))then
   req ((((v6).length:Int)+(([y7.ab]:List (Aa)).length:Int))*16≤140737488355328∧((v6).length:Int)+(([y7.ab]:List (Aa)).length:Int)≤140737488355328)<|
   some (.inl ((IntKind.i64.wrap (v5+1)),(v6++ [y7.ab])))
  else
   some (.inl ((IntKind.i64.wrap (v5+1)),v6))
 else
  some (.inr (Wl v6))
def PJ (a0:List Ap):Option (List (Aa) × Bool):=
 (LY a0).bind fun v1=>
 if(!v1)then
  some ([],false)
 else
  AL (fun s:Int × List (Aa)=>MR a0 s.1 s.2) (0, [])
def R7 (v1:List Ap × AO) (v5:List As) (v6:Bool):Option (List Ap × List As):=
 if v6 then
  (getI v5 0).bind fun y7=>
  req ((((v5).length:Int)+(([y7]:List As).length:Int))*40≤140737488355328∧((v5).length:Int)+(([y7]:List As).length:Int)≤140737488355328)<|
  some (v1.1,(v5++ [y7]))
 else
  some (v1.1,v5)
def aH (v1:List Ap × AO) (v2:List Int) (v3 v4:Int) (v5:List As):Option (List Ap × List As):=
 if(decide ((v5.length:Int)>0))then
  (Jf (⟨v2,v3,v4⟩:AO) 20).bind fun v8=>
  R7 v1 v5 v8.1
 else
  R7 v1 v5 false
def aJ (v1:List Ap × AO) (v9:List As) (v10:Int) (v11:List Int) (v12 v13:Int):Option ((List As × Int × List Int × Int × Int) ⊕ Option (List Ap × List As)):=
 if(decide (v10<([([97]:Aa),([98]:Aa),([99]:Aa),([109]:Aa),([110]:Aa)].length:Int)))then
  (getI [([97]:Aa),([98]:Aa),([99]:Aa),([109]:Aa),([110]:Aa)] v10).bind fun y14=>
  (Jf (⟨v11,v12,v13⟩:AO) 2).bind fun v15=>
  if v15.1 then
   (PF v15.2).bind fun v16=>
   req ((((v9).length:Int)+(([(⟨y14,v16.1,true⟩:As)]:List As).length:Int))*40≤140737488355328∧((v9).length:Int)+(([(⟨y14,v16.1,true⟩:As)]:List As).length:Int)≤140737488355328)<|
   (Jf v16.2 4).bind fun v17=>
   if v17.1 then
    (getI (v9++ [(⟨y14,v16.1,true⟩:As)]) (IntKind.i64.wrap (((v9++ [(⟨y14,v16.1,true⟩:As)]).length:Int)-1))).bind fun y18=>
    some (.inl (((v9++ [(⟨y14,v16.1,true⟩:As)]).set ((IntKind.i64.wrap (((v9++ [(⟨y14,v16.1,true⟩:As)]).length:Int)-1))).toNat (⟨y14,([]:Aa),false⟩:As)),(IntKind.i64.wrap (v10+1)),v17.2.ao,v17.2.cw,v17.2.au))
   else
    some (.inl ((v9++ [(⟨y14,v16.1,true⟩:As)]),(IntKind.i64.wrap (v10+1)),v17.2.ao,v17.2.cw,v17.2.au))
  else
   some (.inl (v9,(IntKind.i64.wrap (v10+1)),v15.2.ao,v15.2.cw,v15.2.au))
 else
  some (.inr (aH v1 v11 v12 v13 v9))
def Si (a0:List Int):Option (List Ap × List As):=
 (MT (⟨a0,0,0⟩:AO)).bind fun v1=>
 AL (fun s:List As × Int × List Int × Int × Int=>aJ v1 s.1 s.2.1 s.2.2.1 s.2.2.2.1 s.2.2.2.2) ([],0,v1.2.ao,v1.2.cw,v1.2.au)
def Wz (a0:List As):Option (Bool):=
 some (decide ((a0.length:Int)≤8))
def R9 (v1:Int):Option ((Int) ⊕ Option (Bool)):=
 some (.inl (IntKind.i64.wrap (v1+1)))
def LL (a0:List As) (v1:Int) (y2:As) (v5:Int):Option ((Int) ⊕ Option ((Int) ⊕ Option (Bool))):=
 if(decide (v5<((Br a0 0 v1).length:Int)))then
  (getI (Br a0 0 v1) v5).bind fun y6=>
  if(y2.ab==y6.ab)then
   some (.inr (some (.inr (some false))))
  else
   some (.inl (IntKind.i64.wrap (v5+1)))
 else
  some (.inr (R9 v1))
def MX (a0:List As) (v1:Int):Option ((Int) ⊕ Option (Bool)):=
 if(decide (v1<(a0.length:Int)))then
  (getI a0 v1).bind fun y2=>
  (No y2.ab).bind fun v3=>
  if v3 then
   (Nn y2.ak).bind fun v4=>
   if((!v4)||((!y2.a7)&&(y2.ak !=([]:Aa))))then
    some (.inr (some false))
   else
    req (0≤(0:Int)∧(0:Int)≤v1∧v1≤(a0.length:Int))<|
    AL (fun s:Int=>LL a0 v1 y2 s) 0
  else
   some (.inr (some false))
 else
  some (.inr (Wz a0))
def Sz (a0:List As):Option (Bool):=
 AL (fun s:Int=>MX a0 s) 0
def Sq (a0:List Ap) (a1:List As):Option (Int × Aa × List Ag × Bool):=
 (LU a0).bind fun v1=>
 if v1 then
  (Sz a1).bind fun v2=>
  if(!v2)then
   some (0,([]:Aa), [],false)
  else
   (SA a0 a1).bind fun v3=>
   some (v3.1,v3.2.1,v3.2.2,true)
 else
  some (0,([]:Aa), [],false)
def Wq (a0:List Int):Option (List Ap):=
 (MT (⟨a0,0,0⟩:AO)).bind fun v1=>
 some v1.1
def RZ (a0:List Int):Option (List Ap):=
 (Wq a0).bind fun v1=>
 some v1
def WL (a0:Int):Option (Bool):=
 some (((a0==2)||(a0==3))||(a0==4))
def Jh (a0:List (Aa)):Option (List (Aa)):=
 req (((([]:List (Aa)).length:Int)+((a0).length:Int))*16≤140737488355328∧(([]:List (Aa)).length:Int)+((a0).length:Int)≤140737488355328)<|
 some a0
def Ni (a0:List (Aa)) (a1:Aa) (v1:Int):Option (List (Aa)):=
 if(decide (v1>0))then
  (getI a0 (IntKind.i64.wrap (v1-1))).bind fun y2=>
  if(y2==a1)then
   some a0
  else
   req (0≤v1∧v1≤(a0.length:Int)∧(a0.length:Int)≤(a0.length:Int))<|
   (Jh (Br a0 v1 (a0.length:Int))).bind fun v3=>
   req (0≤(0:Int)∧(0:Int)≤v1∧v1≤(a0.length:Int))<|
   (Jh (Br a0 0 v1)).bind fun v4=>
   req ((((v4).length:Int)+(([a1]:List (Aa)).length:Int))*16≤140737488355328∧((v4).length:Int)+(([a1]:List (Aa)).length:Int)≤140737488355328)<|
   req (((((v4++ [a1])).length:Int)+((v3).length:Int))*16≤140737488355328∧(((v4++ [a1])).length:Int)+((v3).length:Int)≤140737488355328)<|
   some ((v4++ [a1])++v3)
 else
  req (0≤v1∧v1≤(a0.length:Int)∧(a0.length:Int)≤(a0.length:Int))<|
  (Jh (Br a0 v1 (a0.length:Int))).bind fun v5=>
  req (0≤(0:Int)∧(0:Int)≤v1∧v1≤(a0.length:Int))<|
  (Jh (Br a0 0 v1)).bind fun v6=>
  req ((((v6).length:Int)+(([a1]:List (Aa)).length:Int))*16≤140737488355328∧((v6).length:Int)+(([a1]:List (Aa)).length:Int)≤140737488355328)<|
  req (((((v6++ [a1])).length:Int)+((v5).length:Int))*16≤140737488355328∧(((v6++ [a1])).length:Int)+((v5).length:Int)≤140737488355328)<|
  some ((v6++ [a1])++v5)
def H3 (a0:List (Aa)) (a1:Aa) (v7:Int):Option ((Int) ⊕ Option (List (Aa))):=
 if(decide (v7>0))then
  (getI a0 (IntKind.i64.wrap (v7-1))).bind fun y8=>
  if(!(Op.bytesLess y8 a1||y8==a1))then
   some (.inl (IntKind.i64.wrap (v7-1)))
  else
   some (.inr (Ni a0 a1 v7))
 else
  some (.inr (Ni a0 a1 v7))
def Sy (a0:List (Aa)) (a1:Aa):Option (List (Aa)):=
 AL (fun s:Int=>H3 a0 a1 s) (a0.length:Int)
def MS (a0:List Ap) (v2:List (Aa)) (v3:Int):Option ((List (Aa) × Int) ⊕ Option (List (Aa) × Bool)):=
 if(decide (v3<(a0.length:Int)))then
  (getI a0 v3).bind fun y4=>
  (WL y4.ae).bind fun v5=>
  if v5 then
   (Sy v2 y4.ab).bind fun v6=>
   some (.inl (v6,(IntKind.i64.wrap (v3+1))))
  else
   some (.inl (v2,(IntKind.i64.wrap (v3+1))))
 else
  some (.inr (some (v2,true)))
def R0 (a0:List Ap):Option (List (Aa) × Bool):=
 (LU a0).bind fun v1=>
 if(!v1)then
  some ([],false)
 else
  AL (fun s:List (Aa) × Int=>MS a0 s.1 s.2) ([],0)
def Na (a0:List (Aa)) (a1:List (Aa)) (v1:Int):Option ((Int) ⊕ Option (Bool)):=
 if(decide (v1<(a0.length:Int)))then
  (getI a0 v1).bind fun y2=>
  (getI a1 v1).bind fun y3=>
  if(y2 !=y3)then
   some (.inr (some false))
  else
   some (.inl (IntKind.i64.wrap (v1+1)))
 else
  some (.inr (some true))
def Sa (a0:List (Aa)) (a1:List (Aa)):Option (Bool):=
 if((a0.length:Int) !=(a1.length:Int))then
  some false
 else
  AL (fun s:Int=>Na a0 a1 s) 0
def Sl (a1:List Int):Option (Bool):=
 (Si a1).bind fun v9=>
 (Nd v9.1 v9.2).bind fun v10=>
 (Sq v9.1 v9.2).bind fun v11=>
 (RZ a1).bind fun v12=>
 (PJ v12).bind fun v13=>
 (R0 v12).bind fun v14=>
 if(v10.2.2.2==v11.2.2.2)then
  if(v10.1==v11.1)then
   if(v10.2.1==v11.2.1)then
    (M0 v10.2.2.1 v11.2.2.1).bind fun v15=>
    if v15 then
     if(v13.2==v14.2)then
      (Sa v13.1 v14.1).bind fun v16=>
      some v16
     else
      some false
    else
     some false
   else
    some false
  else
   some false
 else
  some false
def Wn (a1:List Int):Option (Bool):=
 Sl a1
def Sd (v20:Int) (y21:As) (v22:Bool):Option ((Int) ⊕ Option (Bool)):=
 if(y21.a7 !=v22)then
  some (.inr (some false))
 else
  some (.inl (IntKind.i64.wrap (v20+1)))
def LQ (v2:List Ag × List Ap) (v20:Int) (y21:As) (v23:Bool) (v24:Int):Option ((Bool × Int) ⊕ Option ((Int) ⊕ Option (Bool))):=
 if(decide (v24<(v2.1.length:Int)))then
  (getI v2.1 v24).bind fun y25=>
  some (.inl ((v23||((y25.ab==y21.ab)&&(y25.ak==y21.ak))),(IntKind.i64.wrap (v24+1))))
 else
  some (.inr (Sd v20 y21 v23))
def M5 (a1:List Int) (v2:List Ag × List Ap) (v3:List As × List Ag × Bool × Bool) (v20:Int):Option ((Int) ⊕ Option (Bool)):=
 if(decide (v20<(v3.1.length:Int)))then
  (getI v3.1 v20).bind fun y21=>
  AL (fun s:Bool × Int=>LQ v2 v20 y21 s.1 s.2) (false,0)
 else
  some (.inr (Wn a1))
def Wt (a1:List Int) (v2:List Ag × List Ap) (v3:List As × List Ag × Bool × Bool):Option (Bool):=
 (Nd v2.2 v3.1).bind fun v17=>
 (PJ v2.2).bind fun v18=>
 if v17.2.2.2 then
  if((v17.1==3) !=v3.2.2.1)then
   some false
  else
   if(v17.1==1)then
    some false
   else
    (M0 v17.2.2.1 v3.2.1).bind fun v19=>
    if((((!v19)||(!v18.2))||(v3.2.2.1&&((v18.1.length:Int) !=(v3.2.1.length:Int))))||((!v3.2.2.1)&&(decide ((v3.2.1.length:Int)>0))))then
     some false
    else
     AL (fun s:Int=>M5 a1 v2 v3 s) 0
 else
  some false
def M4 (a1:List Int) (v2:List Ag × List Ap) (v3:List As × List Ag × Bool × Bool) (v26:Int):Option ((Int) ⊕ Option (Bool)):=
 if(decide (v26<(v3.1.length:Int)))then
  req (0≤(0:Int)∧(0:Int)≤v26∧v26≤(v3.1.length:Int))<|
  (Nd v2.2 (Br v3.1 0 v26)).bind fun v27=>
  if v27.2.2.2 then
   if(v27.1 !=1)then
    some (.inr (some false))
   else
    (getI v3.1 v26).bind fun y28=>
    if(v27.2.1 !=y28.ab)then
     some (.inr (some false))
    else
     some (.inl (IntKind.i64.wrap (v26+1)))
  else
   some (.inr (some false))
 else
  some (.inr (Wt a1 v2 v3))
def SQ (a0 a1:List Int):Option (Bool):=
 (Xq a0 a1).bind fun v1=>
 if v1 then
  some true
 else
  (R2 a0).bind fun v2=>
  (Sx v2.1 v2.2).bind fun v3=>
  (Sv v2.1 v2.2).bind fun v4=>
  if(v3.2.2.2 !=v4.2.2.2)then
   some false
  else
   if(v3.2.2.1 !=v4.2.2.1)then
    some false
   else
    (Sg v3.1 v4.1).bind fun v5=>
    if v5 then
     (M0 v3.2.1 v4.2.1).bind fun v6=>
     if v6 then
      (LY v2.2).bind fun v7=>
      (SH v2.2).bind fun v8=>
      if(v7 !=v8)then
       some false
      else
       if v3.2.2.2 then
        AL (fun s:Int=>M4 a1 v2 v3 s) 0
       else
        Sl a1
     else
      some false
    else
     some false
def pB:FS:=Fw 288 [.v .s, .v (.i .u8)] (.v (.i .i64)) (fun x=>RU x.1 x.2.1) fun x r _ h=>o9 x.1 x.2.1 r h
def rN:FS:=Fw 231 [.v .s, .v (.i .i64), .v (.i .i64)] (.tu (.cons (.v (.i .i64)) (.cons (.v .b) .nil))) (fun x=>SN x.1 x.2.1 x.2.2.1) fun x r _ h=>rI x.1 x.2.1 x.2.2.1 r h
def aM:FS:=Fw 185 [.v (.i .u64)] (.v (.i .i64)) (fun x=>PS x.1) fun x r _ h=>qX x.1 r h
def pI:FS:=Fw 94 [.v (.l .s)] (.v (.l .s)) (fun x=>RS x.1) fun x r _ h=>o8 x.1 r h
def rH:FS:=Fw 183 [.v (.i .i64)] (.v .s) (fun x=>SJ x.1) fun x r _ h=>rY x.1 r h
def oZ:FS:=Fw 228 [.v (.l (.st 0)), .v (.i .i64), .v (.l (.st 0))] (.v (.l (.st 0))) (fun x=>TD x.1 x.2.1 x.2.2.1) fun x r hp h=>zwi (t:=47) (it:=3) (el:=74) (K:=3) (by kernel_rfl) (fun _=>by kernel_rfl) xJ h
def uS:FS:=AG 18 [.v (.l (.i .u8)), .v (.l (.i .u8))] (.v .b) (fun x=>Xq x.1 x.2.1) [] []
def pX:FS:=AG 155 [.rf (.st 1)] (.tu (.cons (.v (.i .i64)) (.cons (.v (.st 1)) .nil))) (fun x=>PG x.1) [] [.inl]
def M8:FS:=AG 71 [.rf (.st 1), .v (.i .i64)] (.tu (.cons (.v (.i .i64)) (.cons (.v (.st 1)) .nil))) (fun x=>GP x.1 x.2.1) [pX] [.inl]
def Wp:FS:=AG 106 [.rf (.st 1), .v (.l .s)] (.tu (.cons (.v .s) (.cons (.v (.st 1)) .nil))) (fun x=>M3 x.1 x.2.1) [M8] []
def pS:FS:=AG 142 [.rf (.st 1)] (.tu (.cons (.v .s) (.cons (.v (.st 1)) .nil))) (fun x=>R4 x.1) [Wp] []
def aG:FS:=AG 95 [.rf (.st 1)] (.tu (.cons (.v .s) (.cons (.v (.st 1)) .nil))) (fun x=>PF x.1) [Wp] []
def aI:FS:=AG 157 [.rf (.st 1), .v (.l (.i .i64))] (.tu (.cons (.v (.i .i64)) (.cons (.v (.st 1)) .nil))) (fun x=>LI x.1 x.2.1) [M8] []
def aL:FS:=AG 156 [.rf (.st 1)] (.tu (.cons (.v (.st 2)) (.cons (.v (.st 1)) .nil))) (fun x=>PK x.1) [M8,pS,aG,aI] [.inl, .pt, .inl]
def Wj:FS:=AG 64 [.rf (.st 1), .v (.i .i64)] (.tu (.cons (.v .b) (.cons (.v (.st 1)) .nil))) (fun x=>Jf x.1 x.2.1) [M8] []
def pU:FS:=AG 72 [.rf (.st 1)] (.tu (.cons (.v (.l (.st 2))) (.cons (.v (.st 1)) .nil))) (fun x=>R3 x.1) [M8,aL,Wj] [.sp [.l (.st 2), .i .i64, .l (.i .u8), .i .i64, .i .u64], .inl, .inl]
def Wi:FS:=AG 73 [.rf (.st 1)] (.tu (.cons (.v (.l (.st 2))) (.cons (.v (.st 1)) .nil))) (fun x=>MT x.1) [pU,M8,aI,aL] [.inl, .sp [.l (.i .u8), .i .i64, .i .u64, .l (.st 2)]]
def pY:FS:=AG 74 [.rf (.st 1)] (.tu (.cons (.v (.l (.st 0))) (.cons (.v (.st 1)) .nil))) (fun x=>R8 x.1) [Wj,Wp] [.sp [.l (.st 0), .i .i64, .l (.i .u8), .i .i64, .i .u64], .inl, .inl, .inl]
def qR:FS:=AG 168 [.v (.l (.st 0))] (.v (.l .s)) (fun x=>Sh x.1) [] [.sp [.i .i64, .l .s]]
def WU:FS:=AG 107 [.v (.i .i64), .v (.i .i64), .v (.i .i64)] (.v .b) (fun x=>LR x.1 x.2.1 x.2.2.1) [] []
def pO:FS:=AG 252 [.v (.i .u8)] (.v .b) (fun x=>Wm x.1) [] []
def pZ:FS:=AG 253 [.v .s, .v (.i .u8)] (.v (.i .i64)) (fun x=>Wu x.1 x.2.1) [pB] []
def aR:FS:=AG 202 [.v .s, .v .s] (.v .b) (fun x=>PR x.1 x.2.1) [pO,pZ] [.sp [.i .i64]]
def WN:FS:=AG 174 [.v .s] (.v .b) (fun x=>Nc x.1) [WU,aR] []
def qO:FS:=AG 167 [.v (.l .s)] (.v .b) (fun x=>Sb x.1) [WN] [.sp [.i .i64]]
def oD:FS:=Fw 226 [.v (.l (.st 0)), .fn [.st 0] .b] (.v (.i .i64)) (fun x=>L1 x.1 (fun y=>x.2.1.φ (y,()))) fun x r hp h=>Mi (f:=226) (t:=QR 3) (by kernel_rfl) (by kernel_rfl) (Yi (av:=(BK tab.av (.st 0))) (cn:=3) (fun _=>⟨_,rfl,rfl⟩) h (fun y b hb=>hp.2.1 (y,()) b hb))
def ZR:FS:=Fw 158 [.v (.l (.st 0)), .fn [.st 0] .b] (.v .b) (fun x=>GO x.1 (fun y=>x.2.1.φ (y,()))) fun x r hp h=>Mi (f:=158) (t:=QM 226) (by kernel_rfl) (by kernel_rfl) (Ym h fun r hr=>oD.ok x r hp hr)
def aX:FS:=AG 175 [.v .s] (.v .b) (fun x=>PL x.1) [aR] []
def aN:FS:=AG 170 [.v .s, .v .b] (.v .b) (fun x=>PQ x.1 x.2.1) [aX] []
def pV:FS:=AG 169 [.v (.st 0)] (.v .b) (fun x=>R1 x.1) [aN] []
def pW:FS:=PB pV fun _=>by kernel_rfl
def qB:FS:=AG 85 [.v (.l (.st 0))] (.v .b) (fun x=>Sk x.1) [qR,qO,ZR,pW] []
def rF:FS:=AG 159 [.v (.st 0)] (.v .b) (fun x=>Ss x.1) [] []
def qN:FS:=PB rF fun _=>by kernel_rfl
def sA:FS:=AG 75 [.v (.l (.st 0))] (.v .b) (fun x=>SG x.1) [qB,ZR,qN] []
def oP:FS:=Fw 173 [.v (.l (.st 2)), .fn [.st 2] .b] (.v (.i .i64)) (fun x=>L1 x.1 (fun y=>x.2.1.φ (y,()))) fun x r hp h=>Mi (f:=173) (t:=QR 4) (by kernel_rfl) (by kernel_rfl) (Yi (av:=(BK tab.av (.st 2))) (cn:=4) (fun _=>⟨_,rfl,rfl⟩) h (fun y b hb=>hp.2.1 (y,()) b hb))
def o0:FS:=Fw 88 [.v (.l (.st 2)), .fn [.st 2] .b] (.v .b) (fun x=>GO x.1 (fun y=>x.2.1.φ (y,()))) fun x r hp h=>Mi (f:=88) (t:=QM 173) (by kernel_rfl) (by kernel_rfl) (Ym h fun r hr=>oP.ok x r hp hr)
def sI:FS:=AG 176 [.v (.i .i64)] (.v .b) (fun x=>WI x.1) [] []
def s4:FS:=AG 177 [.v (.i .i64)] (.v .b) (fun x=>S2 x.1) [] []
def tL:FS:=AG 90 [.v (.st 2)] (.v .b) (fun x=>SS x.1) [WU,WN,aX,sI,s4] []
def qQ:FS:=AG 89 [.v (.st 2)] (.v .b) (fun x=>Sf x.1) [tL] []
def qC:FS:=PB qQ fun _=>by kernel_rfl
def Sp:FS:=AG 31 [.v (.l (.st 2))] (.v .b) (fun x=>LY x.1) [o0,qC] []
def n7:FS:=AG 267 [.v (.l (.st 0)), .v .s, .fn [.st 0, .s] (.i .i64)] (.tu (.cons (.v (.i .i64)) (.cons (.v .b) .nil))) (fun x=>We x.1 x.2.1 (fun y0 y1=>x.2.2.1.φ (y0,y1,()))) [] [.sp [.i .i64, .i .i64]]
def aF:FS:=AG 206 [.v .s] (.v .b) (fun x=>Kq x.1) [] []
def pN:FS:=AG 115 [.v .s, .v .s] (.v (.i .i64)) (fun x=>R6 x.1 x.2.1) [aF] []
def qH:FS:=AG 268 [.v (.st 0), .v .s] (.v (.i .i64)) (fun x=>MZ x.1 x.2.1) [pN] []
def pT:FS:=PB qH fun _=>by kernel_rfl
def Wy:FS:=AG 227 [.v (.l (.st 0)), .v .s] (.tu (.cons (.v (.i .i64)) (.cons (.v .b) .nil))) (fun x=>Kt x.1 x.2.1) [n7,pT] []
def qY:FS:=AG 162 [.v (.l (.st 0)), .v (.st 0)] (.v (.l (.st 0))) (fun x=>Nf x.1 x.2.1) [Wy,oZ] []
def rX:FS:=AG 180 [.v .s, .v (.l (.st 0)), .v (.l (.st 3))] (.tu (.cons (.v .s) (.cons (.v .b) (.cons (.v .b) .nil)))) (fun x=>Sm x.1 x.2.1 x.2.2.1) [Wy] [.sp [.i .i64]]
def aO:FS:=AG 182 [.v .s] (.tu (.cons (.v (.i .i64)) (.cons (.v .b) .nil))) (fun x=>PO x.1) [rN] []
def qD:FS:=AG 181 [.v (.st 2), .v .s, .v .b] (.v .b) (fun x=>Sc x.1 x.2.1 x.2.2.1) [aO,WU] []
def zip:FS:=AG 92 [.v (.l (.st 2)), .v (.l (.st 3))] (.tu (.cons (.v (.i .i64)) (.cons (.v .s) (.cons (.v (.l (.st 0))) .nil)))) (fun x=>SI x.1 x.2.1) [qY,rX,qD,aO,rH] [.sp [.i .i64, .l (.st 0)], .inl]
def s8:FS:=AG 161 [.v (.l (.st 0)), .v .s] (.v (.st 3)) (fun x=>S1 x.1 x.2.1) [Wy] []
def qW:FS:=AG 79 [.v (.l (.st 0)), .v (.l (.st 2))] (.tu (.cons (.v (.l (.st 3))) (.cons (.v (.l (.st 0))) (.cons (.v .b) .nil)))) (fun x=>WJ x.1 x.2.1) [zip,s8] [.sp [.l (.st 3)]]
def Ti:FS:=AG 116 [.v (.i .i64), .v (.i .i64), .v (.i .i64)] (.v .b) (fun x=>LZ x.1 x.2.1 x.2.2.1) [] []
def aY:FS:=AG 207 [.v .s, .v .s] (.v .b) (fun x=>PN x.1 x.2.1) [] [.sp [.i .i64], .sp [.b, .i .i64]]
def WQ:FS:=AG 186 [.v .s] (.v .b) (fun x=>No x.1) [Ti,aY] []
def WS:FS:=AG 187 [.v .s] (.v .b) (fun x=>Nn x.1) [aY] []
def rU:FS:=AG 172 [.v .s, .v .s, .v .b] (.v .b) (fun x=>Sn x.1 x.2.1 x.2.2.1) [WQ,WS] []
def rE:FS:=AG 87 [.v (.l (.st 0))] (.v .b) (fun x=>Sw x.1) [rU] [.sp [.i .i64]]
def sH:FS:=AG 81 [.v (.l (.st 0))] (.v .b) (fun x=>SC x.1) [rE] [.sp [.i .i64]]
def uC:FS:=AG 165 [.v (.st 2)] (.v .b) (fun x=>SY x.1) [WQ,WS,Ti] [.pt, .inl]
def SD:FS:=AG 82 [.v (.l (.st 2))] (.v .b) (fun x=>LU x.1) [uC] [.sp [.i .i64]]
def rD:FS:=AG 188 [.v (.l (.st 0)), .v (.l (.st 3)), .v .s] (.tu (.cons (.v .s) (.cons (.v .b) (.cons (.v .b) .nil)))) (fun x=>Sr x.1 x.2.1 x.2.2.1) [] [.sp [.i .i64], .sp [.i .i64]]
def sC:FS:=AG 244 [.v .s] (.v (.i .i64)) (fun x=>PU x.1) [Ti] [.sp [.i .i64, .i .i64]]
def bM:FS:=AG 190 [.v .s] (.tu (.cons (.v (.i .i64)) (.cons (.v .b) .nil))) (fun x=>PY x.1) [sC] [.pt]
def rS:FS:=AG 189 [.v (.st 2), .v .s, .v .b] (.v .b) (fun x=>SO x.1 x.2.1 x.2.2.1) [bM,Ti] []
def sD:FS:=AG 138 [.v (.l (.st 0)), .v (.st 0)] (.v (.l (.st 0))) (fun x=>LS x.1 x.2.1) [] [.sp [.i .i64]]
theorem bP: ∀(n:Nat) (xs:HP tab.car [.v (.i .i64)]) (y:EW tab.car (.v .s)),Gb tab [.v (.i .i64)] xs→((fun x=>LW n x.1):HP tab.car [.v (.i .i64)]→Option (EW tab.car (.v .s))) xs=some y→tab.Rt 245 (EC tab [.v (.i .i64)] xs) (ER tab (.v .s) y)
 |0,_,_,_,h=>nomatch h
 |n+1,xs,y,hp,h=>YV (ps:= [.v (.i .i64)]) (r:=(.v .s)) [Fw 245 [.v (.i .i64)] (.v .s) (fun x=>LW n x.1) (bP n)] [] (φ:=(fun x=>LW (n+1) x.1)) (fun _ _=>by kernel_rfl) (fun _ _=>by kernel_rfl) xs y hp h
def tC:FS:=Fw 245 [.v (.i .i64)] (.v .s) (fun x=>S3 x.1) (bP JJ)
def sM:FS:=AG 191 [.v (.i .i64)] (.v .s) (fun x=>PV x.1) [tC] []
def aS:FS:=AG 97 [.v (.l (.st 2)), .v (.l (.st 3))] (.tu (.cons (.v (.i .i64)) (.cons (.v .s) (.cons (.v (.l (.st 0))) .nil)))) (fun x=>SA x.1 x.2.1) [rD,rS,sD,bM,sM] [.sp [.l (.st 0), .i .i64], .inl, .inl]
def sW:FS:=AG 166 [.v (.l (.st 0)), .v .s] (.v (.st 3)) (fun x=>SE x.1 x.2.1) [] [.sp [.i .i64]]
def rR:FS:=AG 83 [.v (.l (.st 0)), .v (.l (.st 2))] (.tu (.cons (.v (.l (.st 3))) (.cons (.v (.l (.st 0))) (.cons (.v .b) .nil)))) (fun x=>WM x.1 x.2.1) [aS,sW] [.sp [.l (.st 3)]]
def qI:FS:=AG 22 [.v (.l (.st 0)), .v (.l (.st 0))] (.v .b) (fun x=>M0 x.1 x.2.1) [] [.sp [.i .i64]]
def rA:FS:=AG 24 [.v (.l (.st 0)), .v (.l (.st 2))] (.tu (.cons (.v (.l (.st 3))) (.cons (.v (.l (.st 0))) (.cons (.v .b) (.cons (.v .b) .nil))))) (fun x=>Sx x.1 x.2.1) [sA,Sp,qW] []
def qA:FS:=AG 28 [.v (.l (.i .u8))] (.tu (.cons (.v (.l (.st 0))) (.cons (.v (.l (.st 2))) .nil))) (fun x=>R2 x.1) [pY,Wi] []
def qZ:FS:=AG 29 [.v (.l (.st 0)), .v (.l (.st 2))] (.tu (.cons (.v (.l (.st 3))) (.cons (.v (.l (.st 0))) (.cons (.v .b) (.cons (.v .b) .nil))))) (fun x=>Sv x.1 x.2.1) [sH,SD,rR] []
def qM:FS:=AG 30 [.v (.l (.st 3)), .v (.l (.st 3))] (.v .b) (fun x=>Sg x.1 x.2.1) [] [.sp [.i .i64]]
def rW:FS:=AG 32 [.v (.l (.st 2))] (.v .b) (fun x=>SH x.1) [SD] []
def o6:FS:=Fw 230 [.v (.l (.st 3)), .fn [.st 3] .b] (.v (.i .i64)) (fun x=>L1 x.1 (fun y=>x.2.1.φ (y,()))) fun x r hp h=>Mi (f:=230) (t:=QR 3) (by kernel_rfl) (by kernel_rfl) (Yi (av:=(BK tab.av (.st 3))) (cn:=3) (fun _=>⟨_,rfl,rfl⟩) h (fun y b hb=>hp.2.1 (y,()) b hb))
def oE:FS:=Fw 178 [.v (.l (.st 3)), .fn [.st 3] .b] (.v .b) (fun x=>GO x.1 (fun y=>x.2.1.φ (y,()))) fun x r hp h=>Mi (f:=178) (t:=QM 230) (by kernel_rfl) (by kernel_rfl) (Ym h fun r hr=>o6.ok x r hp hr)
def qT:FS:=AG 179 [.v (.st 3), .rf (.st 3)] (.v .b) (fun x=>Wx x.1 x.2.1) [] []
def qL:FS:=PB qT fun _=>by kernel_rfl
def sO:FS:=AG 91 [.v (.l (.st 3))] (.v .b) (fun x=>SF x.1) [WN,aN,oE,qL] [.sp [.i .i64]]
def rT:FS:=AG 33 [.v (.l (.st 2)), .v (.l (.st 3))] (.tu (.cons (.v (.i .i64)) (.cons (.v .s) (.cons (.v (.l (.st 0))) (.cons (.v .b) .nil))))) (fun x=>Nd x.1 x.2.1) [Sp,sO,zip] []
def LM:FS:=AG 239 [.v .s, .v .s] (.v .b) (fun x=>Fj x.1 x.2.1) [aF] []
def oO:FS:=AG 233 [.v (.l .s), .v (.i .i64), .v (.i .i64)] (.tu (.cons (.tu .nil) (.cons (.v (.l .s)) .nil))) (fun x=>RR x.1 x.2.1 x.2.2.1) [LM] [.sp [.i .i64, .l .s], .sp [.i .i64, .l .s]]
def pC:FS:=AG 273 [.v (.l .s), .v (.i .i64), .v (.i .i64), .v (.i .i64)] (.tu (.cons (.tu .nil) (.cons (.v (.l .s)) .nil))) (fun x=>Wh x.1 x.2.1 x.2.2.1 x.2.2.2.1) [LM] [.sp [.i .i64, .l .s], .pt]
def pA:FS:=AG 234 [.v (.l .s), .v (.i .i64), .v (.i .i64)] (.tu (.cons (.tu .nil) (.cons (.v (.l .s)) .nil))) (fun x=>Z7 x.1 x.2.1 x.2.2.1) [pC] [.sp [.i .i64, .l .s], .sp [.i .i64, .l .s]]
def pP:FS:=AG 274 [.v (.i .i64)] (.v (.i .u64)) (fun x=>aD x.1) [aM] []
def pM:FS:=AG 275 [.rf (.i .u64)] (.tu (.cons (.v (.i .u64)) (.cons (.bo (.i .u64)) .nil))) (fun x=>aA x.1) [] []
def oR:FS:=AG 235 [.v (.l .s), .v (.i .i64), .v (.i .i64)] (.tu (.cons (.tu .nil) (.cons (.v (.l .s)) .nil))) (fun x=>ZW x.1 x.2.1 x.2.2.1) [pP,pM] [.sp [.i .i64, .i .u64, .l .s], .pt]
def pK:FS:=AG 307 [.v (.l .s), .v (.i .i64), .v (.i .i64), .rf (.i .i64)] (.tu (.cons (.tu (.cons (.v (.i .i64)) (.cons (.v (.i .i64)) .nil))) (.cons (.v (.l .s)) (.cons (.bo (.i .i64)) .nil)))) (fun x=>RX x.1 x.2.1 x.2.2.1 x.2.2.2.1) [LM] []
def Z6:FS:=AG 277 [.v (.l .s), .v (.i .i64), .v (.i .i64), .v (.i .i64), .rf (.i .i64)] (.tu (.cons (.v (.i .i64)) (.cons (.v (.l .s)) (.cons (.bo (.i .i64)) .nil)))) (fun x=>RY x.1 x.2.1 x.2.2.1 x.2.2.2.1 x.2.2.2.2.1) [pK] []
def o7:FS:=AG 276 [.v (.l .s), .v (.i .i64), .rf (.i .i64)] (.tu (.cons (.v (.i .i64)) (.cons (.v (.l .s)) (.cons (.bo (.i .i64)) .nil)))) (fun x=>RQ x.1 x.2.1 x.2.2.1) [Z6] []
def oK:FS:=AG 236 [.v (.l .s), .v (.i .i64), .v (.i .i64)] (.tu (.cons (.tu (.cons (.v (.i .i64)) (.cons (.v (.i .i64)) .nil))) (.cons (.v (.l .s)) .nil))) (fun x=>ZS x.1 x.2.1 x.2.2.1) [o7,Z6] [.pt, .inl]
def oX:FS:=AG 237 [.v (.l .s), .v (.i .i64), .v (.i .i64)] (.tu (.cons (.tu .nil) (.cons (.v (.l .s)) .nil))) (fun x=>Z0 x.1 x.2.1 x.2.2.1) [] [.sp [.i .i64, .i .i64, .l .s]]
def oC:FS:=AG 238 [.v (.l .s), .v (.i .i64), .v (.i .i64)] (.tu (.cons (.v .b) (.cons (.v (.l .s)) .nil))) (fun x=>Z2 x.1 x.2.1 x.2.2.1) [LM] [.sp [.i .i64, .i .i64, .l .s], .inl, .sp [.i .i64], .pt, .sp [.i .i64, .l .s], .sp [.i .i64, .l .s]]
def oN:FS:=AG 240 [.v (.l .s), .v (.i .i64), .v (.i .i64), .v (.i .i64)] (.tu (.cons (.v (.i .i64)) (.cons (.v (.l .s)) .nil))) (fun x=>ZV x.1 x.2.1 x.2.2.1 x.2.2.2.1) [LM] [.sp [.i .i64, .i .i64, .l .s], .sp [.i .i64], .sp [.i .i64]]
def pH:FS:=AG 241 [.v (.l .s), .v (.i .i64), .v (.i .i64), .v (.i .i64)] (.tu (.cons (.tu (.cons (.v (.i .i64)) (.cons (.v .b) .nil))) (.cons (.v (.l .s)) .nil))) (fun x=>Wg x.1 x.2.1 x.2.2.1 x.2.2.2.1) [LM] [.sp [.i .i64], .sp [.i .i64], .sp [.i .i64, .i .i64, .l .s], .sp [.i .i64], .sp [.i .i64]]
theorem Z8: ∀(n:Nat) (xs:HP tab.car [.v (.l .s), .v (.i .i64), .v (.i .i64), .v (.i .i64)]) (y:EW tab.car (.tu (.cons (.tu .nil) (.cons (.v (.l .s)) .nil)))),Gb tab [.v (.l .s), .v (.i .i64), .v (.i .i64), .v (.i .i64)] xs→((fun x=>MV n x.1 x.2.1 x.2.2.1 x.2.2.2.1):HP tab.car [.v (.l .s), .v (.i .i64), .v (.i .i64), .v (.i .i64)]→Option (EW tab.car (.tu (.cons (.tu .nil) (.cons (.v (.l .s)) .nil))))) xs=some y→tab.Rt 184 (EC tab [.v (.l .s), .v (.i .i64), .v (.i .i64), .v (.i .i64)] xs) (ER tab (.tu (.cons (.tu .nil) (.cons (.v (.l .s)) .nil))) y)
 |0,_,_,_,h=>nomatch h
 |n+1,xs,y,hp,h=>YV (ps:= [.v (.l .s), .v (.i .i64), .v (.i .i64), .v (.i .i64)]) (r:=(.tu (.cons (.tu .nil) (.cons (.v (.l .s)) .nil)))) [Fw 184 [.v (.l .s), .v (.i .i64), .v (.i .i64), .v (.i .i64)] (.tu (.cons (.tu .nil) (.cons (.v (.l .s)) .nil))) (fun x=>MV n x.1 x.2.1 x.2.2.1 x.2.2.2.1) (Z8 n),oO,pA,oK,LM,oN,pH,oC,oX,oR] [.sp [.i .i64, .l .s, .b, .b, .i .i64, .i .i64], .sp [.l .s, .i .i64], .pt, .pt] (φ:=(fun x=>MV (n+1) x.1 x.2.1 x.2.2.1 x.2.2.2.1)) (fun _ _=>by kernel_rfl) (fun _ _=>by kernel_rfl) xs y hp h
def pD:FS:=Fw 184 [.v (.l .s), .v (.i .i64), .v (.i .i64), .v (.i .i64)] (.tu (.cons (.tu .nil) (.cons (.v (.l .s)) .nil))) (fun x=>RV x.1 x.2.1 x.2.2.1 x.2.2.2.1) (Z8 JJ)
def pJ:FS:=AG 93 [.v (.l .s)] (.tu (.cons (.tu .nil) (.cons (.v (.l .s)) .nil))) (fun x=>RW x.1) [aM,pD] []
def qG:FS:=AG 34 [.v (.l (.st 2))] (.tu (.cons (.v (.l .s)) (.cons (.v .b) .nil))) (fun x=>PJ x.1) [Sp,pJ,pI] [.sp [.i .i64, .l .s], .inl]
def qF:FS:=AG 35 [.v (.l (.i .u8))] (.tu (.cons (.v (.l (.st 2))) (.cons (.v (.l (.st 3))) .nil))) (fun x=>Si x.1) [Wi,Wj,aG] [.sp [.l (.st 3), .i .i64, .l (.i .u8), .i .i64, .i .u64], .inl, .inl, .pt]
def sF:FS:=AG 96 [.v (.l (.st 3))] (.v .b) (fun x=>Sz x.1) [WQ,WS] [.sp [.i .i64], .sp [.i .i64]]
def rJ:FS:=AG 36 [.v (.l (.st 2)), .v (.l (.st 3))] (.tu (.cons (.v (.i .i64)) (.cons (.v .s) (.cons (.v (.l (.st 0))) (.cons (.v .b) .nil))))) (fun x=>Sq x.1 x.2.1) [SD,sF,aS] []
def qE:FS:=AG 98 [.v (.l (.i .u8))] (.v (.l (.st 2))) (fun x=>Wq x.1) [Wi] []
def pQ:FS:=AG 37 [.v (.l (.i .u8))] (.v (.l (.st 2))) (fun x=>RZ x.1) [qE] []
def qU:FS:=AG 99 [.v (.i .i64)] (.v .b) (fun x=>WL x.1) [] []
def sE:FS:=AG 192 [.v (.l .s)] (.v (.l .s)) (fun x=>Jh x.1) [] []
def sP:FS:=AG 100 [.v (.l .s), .v .s] (.v (.l .s)) (fun x=>Sy x.1 x.2.1) [sE] [.sp [.i .i64]]
def pR:FS:=AG 38 [.v (.l (.st 2))] (.tu (.cons (.v (.l .s)) (.cons (.v .b) .nil))) (fun x=>R0 x.1) [SD,qU,sP] [.sp [.l .s, .i .i64], .inl]
def qS:FS:=AG 39 [.v (.l .s), .v (.l .s)] (.v .b) (fun x=>Sa x.1 x.2.1) [] [.sp [.i .i64]]
def aZ:FS:=AG 5 [.v (.l (.i .u8)), .v (.l (.i .u8))] (.v .b) (fun x=>SQ x.1 x.2.1) [uS,qA,rA,qZ,qM,qI,Sp,rW,qF,rT,rJ,pQ,qG,pR,qS] [.pt, .sp [.i .i64], .sp [.i .i64], .sp [.b, .i .i64]]
theorem rK (a0 a1:List Int) (r:Bool) (h:SQ a0 a1=some r):Ca Tryz.prog B8 5 [.sl (a0.map Od), .sl (a1.map Od)] (.bool r):=aZ.ok (a0,a1,()) r (by simp [aZ,AG,Gb,Q2]) h
theorem BA {α:Type} {xs:List α} {i:Nat} (h:i<xs.length):getI xs (i:Int)=some xs[i]:=by simp [getI,h]
theorem TK {α:Type} {xs:List α} {i:Int} (h0:0≤i) (h:i<xs.length): ∃x,getI xs i=some x∧x∈xs∧xs[i.toNat]?=some x:=by
 have hi:i.toNat<xs.length:=by omega
 exact⟨xs[i.toNat],by simp [getI,h0,hi],List.getElem_mem hi,by simp [hi]⟩
theorem CZ {q n:Nat} (h:q<n) (hn:n≤9223372036854775807):IntKind.i64.wrap ((q:Int)+1)=((q+1:Nat):Int):=by rw [B3 (by omega) (by omega)];simp
theorem Cp {α:Type} {p:Prop} {k:Option α} (h:p):req p k=k:=by simp [req,h]
def Gg {α σ β:Type} (step:α→σ→Option (σ ⊕ Option β)) (fin:σ→Option β):List α→σ→Option β
 | [],s=>fin s
 |x::xs,s=>match step x s with
  |none=>none
  |some (.inl s')=>Gg step fin xs s'
  |some (.inr o)=>o
def Mr {σ τ β:Type} (f:σ→τ):Option (σ ⊕ Option β)→Option (τ ⊕ Option β)
 |none=>none
 |some (.inl s)=>some (.inl (f s))
 |some (.inr o)=>some (.inr o)
theorem wB {α σ τ β:Type} {xs:List α} {body:τ→Option (τ ⊕ Option β)} (emb:Int→σ→τ) (step:α→σ→Option (σ ⊕ Option β)) (fin:σ→Option β) (q0:Nat)
  (hs: ∀(i:Nat) (hi:i<xs.length) (s:σ),q0≤i→body (emb i s)=Mr (emb ((i+1:Nat):Int)) (step xs[i] s)) (he: ∀s,body (emb xs.length s)=some (.inr (fin s))) (s:σ) (h0:q0≤xs.length):AL body (emb q0 s)=Gg step fin (xs.drop q0) s:=by
 have key: ∀(n q:Nat) (s:σ),q0≤q→q+n=xs.length→AL body (emb q s)=Gg step fin (xs.drop q) s:=by
  intro n
  induction n with
  |zero=>
   intro q s _ hq;have:q=xs.length:=by omega
   subst this;rw [IC,he s];simp [Gg]
  |succ n ih=>
   intro q s h0 hq;have Au:q<xs.length:=by omega
   rw [IC,hs q Au s h0,List.drop_eq_getElem_cons Au];rcases Ef:step xs[q] s with _|s'|o
   ·simp [Gg,Ef,Mr]
   ·simp only [Gg,Ef,Mr];exact ih (q+1) s' (by omega) (by omega)
   ·simp [Gg,Ef,Mr]
 exact key (xs.length-q0) q0 s (Nat.le_refl _) (by omega)
theorem eR {α σ τ β:Type} {xs:List α} {body:τ→Option (τ ⊕ Option β)} (emb:Int→σ→τ) (step:α→σ→Option (σ ⊕ Option β)) (fin:σ→Option β)
  (hs: ∀(i:Nat) (hi:i<xs.length) (s:σ),body (emb i s)=Mr (emb ((i+1:Nat):Int)) (step xs[i] s)) (he: ∀s,body (emb xs.length s)=some (.inr (fin s))) (s:σ):AL body (emb 0 s)=Gg step fin xs s:=by
 have:=wB emb step fin 0 (fun i hi s _=>hs i hi s) he s (by omega);simpa using this
theorem zvu {α σ β:Type} {step:α→σ→Option (σ ⊕ Option β)} {fin:σ→Option β} {xs:List α} (p:α→Bool) (b:β) (h: ∀x∈xs,∀s,step x s=some (if p x=true then .inl s else .inr (some b))) (s:σ):Gg step fin xs s=if xs.all p=true then fin s else some b:=by
 induction xs with
 |nil=>simp [Gg]
 |cons x xs ih=>
  simp only [Gg,h x (by simp) s];cases hp:p x with
  |true=>simp [hp,ih fun y hy=>h y (by simp [hy])]
  |false=>simp [hp]
theorem w5 {α σ β:Type} {step:α→σ→Option (σ ⊕ Option β)} {fin:σ→Option β} {xs:List α} (f:σ→α→σ) (I:σ→Prop) (hI: ∀x∈xs,∀s,I s→I (f s x)) (h: ∀x∈xs,∀s,I s→step x s=some (.inl (f s x))) {s:σ} (hs:I s):Gg step fin xs s=fin (xs.foldl f s):=by
 induction xs generalizing s with
 |nil=>simp [Gg]
 |cons x xs ih=>simp only [Gg,h x (by simp) s hs,List.foldl_cons];exact ih (fun y hy=>hI y (by simp [hy])) (fun y hy=>h y (by simp [hy])) (hI x (by simp) s hs)
theorem To {α σ τ β:Type} {xs:List α} {body:τ→Option (τ ⊕ Option β)} (emb:Int→σ→τ) (f:σ→α→σ) (fin:σ→Option β) (I:Nat→σ→Prop)
  (hs: ∀(i:Nat) (hi:i<xs.length) (s:σ),I i s→body (emb i s)=some (.inl (emb ((i+1:Nat):Int) (f s xs[i])))∧I (i+1) (f s xs[i])) (he: ∀s,I xs.length s→body (emb xs.length s)=some (.inr (fin s))) {s:σ} (h0:I 0 s):AL body (emb 0 s)=fin (xs.foldl f s)∧I xs.length (xs.foldl f s):=by
 have key: ∀(n q:Nat) (s:σ),q+n=xs.length→I q s→AL body (emb q s)=fin ((xs.drop q).foldl f s)∧I xs.length ((xs.drop q).foldl f s):=by
  intro n
  induction n with
  |zero=>
   intro q s hq hI;have:q=xs.length:=by omega
   subst this;rw [IC,he s hI];simp [hI]
  |succ n ih=>
   intro q s hq hI;have Au:q<xs.length:=by omega
   obtain⟨h1,h2⟩:=hs q Au s hI;rw [IC,h1,List.drop_eq_getElem_cons Au,List.foldl_cons];exact ih (q+1) _ (by omega) h2
 have:=key xs.length 0 s (by omega) h0;simpa using this
theorem TR {α:Type} {xs:List α} {p:α→Option Bool} (q:α→Bool) (hp: ∀x∈xs,p x=some (q x)) (hn:xs.length≤9223372036854775806):GO xs p=some (xs.any q):=by
 have key: ∀(l:List α) (i:Int),0≤i→(∀x∈l,p x=some (q x))→ ∃r,KR p l i=some r∧decide (r≥0)=l.any q:=by
  intro l
  induction l with
  |nil=>intro i _ _;exact⟨-1,rfl,by simp⟩
  |cons x l ih=>
   intro i hi h;simp only [KR,h x (by simp),Ab];cases hq:q x with
   |true=>exact⟨i,by simp,by simp [hq,hi]⟩
   |false=>obtain⟨r,h1,h2⟩:=ih (i+1) (by omega) fun y hy=>h y (by simp [hy]);exact⟨r,by simp [h1],by simp [hq,h2]⟩
 obtain⟨r,h1,h2⟩:=key xs 0 (by omega) hp;simp [GO,L1,Cp hn,h1,h2]
theorem Qa {β:Type} {n:Nat} {body:Int→Option (Int ⊕ Option β)} (p:Nat→Bool) (b:β) (fin:Option β)
  (hs: ∀i:Nat,i<n→body i=some (if p i=true then .inl ((i+1:Nat):Int)else .inr (some b))) (he:body n=some (.inr fin)):AL body 0=if(List.range n).all p=true then fin else some b:=by
 have h1:=eR (xs:=List.range n) (body:=body) (fun i (_:Unit)=>i) (fun i _=>some (if p i=true then .inl ()else .inr (some b))) (fun _=>fin)
  (fun i hi s=>by rw [List.length_range]at hi;rw [hs i hi,List.getElem_range];cases p i<;>simp [Mr]) (fun s=>by simpa using he) ()
 rw [zvu p b fun x _ s=>rfl]at h1;exact h1
def kI {α:Type} (p:α→Bool) (l:List α):Int:=match l.findIdx? p with|some i=>(i:Int)|none=> -1
theorem zyj {α:Type} {b:Bool} {A B:Option α} {y:Option α} (ha:b=true→A=y) (hb:b=false→B=y):(if b=true then A else B)=y:=by
 cases b with
 |true=>simpa using ha rfl
 |false=>simpa using hb rfl
abbrev Ai:=Aa
def Dm (a b c:Int):Bool:=decide (a≥b)&&decide (a≤c)
theorem GU {a b c:Int}:Dm a b c=true↔b≤a∧a≤c:=by simp [Dm]
@[simp] theorem TZ (a b c:Int):LZ a b c=some (Dm a b c):=rfl
@[simp] theorem Tz (a b c:Int):LR a b c=some (Dm a b c):=rfl
def Eg (b:UInt8):Bool:=(decide ((b.toNat:Int)≥97)&&decide ((b.toNat:Int)≤122))||(decide ((b.toNat:Int)≥48)&&decide ((b.toNat:Int)≤57))
def Jr (s more:Ai):Bool:=s.all fun b=>Eg b||more.contains b
theorem zxI {a b:UInt8}:((a.toNat:Int)==(b.toNat:Int))=(a==b):=by
 rw [Bool.eq_iff_iff];simp only [beq_iff_eq];constructor
 ·intro h;exact UInt8.toNat_inj.1 (by omega)
 ·rintro rfl;rfl
theorem eT {α:Type} (xs:List α) (p:α→Bool) (q:Nat→Bool) (h: ∀(i:Nat) (hi:i<xs.length),q i=p xs[i]):(List.range xs.length).all q=xs.all p:=by
 rw [Bool.eq_iff_iff];simp only [AN,List.mem_range];constructor
 ·intro hq x hx;obtain⟨i,hi,rfl⟩:=List.getElem_of_mem hx;rw [←h i hi];exact hq i hi
 ·intro hp i hi;rw [h i hi];exact hp _ (List.getElem_mem hi)
theorem IB {α β:Type} {xs:List α} {body:Int→Option (Int ⊕ Option β)} (p:α→Bool) (b:β) (fin:Option β)
  (hs: ∀(i:Nat) (hi:i<xs.length),body i=some (if p xs[i]=true then .inl ((i+1:Nat):Int)else .inr (some b))) (he:body xs.length=some (.inr fin)):AL body 0=if xs.all p=true then fin else some b:=by
 rw [Qa (n:=xs.length) (fun i=>match xs[i]? with|some x=>p x|none=>true) b fin (fun i hi=>by rw [hs i hi];simp [hi]) he,
  eT xs p _ fun i hi=>by simp [hi]]
theorem eO {s more:Ai} (h1:s.length≤2000000) (h2:more.length≤2000000):PN s more=some (Jr s more):=by
 unfold PN;rw [IB (xs:=s) (fun b=>Eg b||more.contains b) false (some true) ?_ (by simp [Ws])]
 ·unfold Jr;cases(s.all fun b=>Eg b||more.contains b)<;>rfl
 ·intro i hi;have B0:AL (fun t:Bool × Int=>PH more i s[i] t.1 t.2) (Eg s[i],0)=some (if(Eg s[i]||more.contains s[i])=true then .inl ((i+1:Nat):Int)else .inr (some false)):=by
   have hl:=eR (xs:=more) (body:=fun t:Bool × Int=>PH more i s[i] t.1 t.2) (fun k (ok:Bool)=>(ok,k)) (fun b ok=>some (.inl (ok||s[i]==b))) (fun ok=>Wo i ok)
    (fun k hk ok=>by simp only [PH,Int.ofNat_lt,hk,decide_true,if_true,BA hk,Ab,CZ hk (by omega:more.length≤_),zxI,Mr];cases ok<;>simp) (fun ok=>by simp [PH]) (Eg s[i])
   rw [w5 (fun ok b=>ok||s[i]==b) (fun _=>True) (fun _ _ _ _=>trivial) (fun _ _ _ _=>rfl) trivial]at hl;have hf: ∀(l:Ai) (ok:Bool),l.foldl (fun ok b=>ok||s[i]==b) ok=(ok||l.contains s[i]):=by
    intro l
    induction l with
    |nil=>intro ok;simp
    |cons c l ih=>intro ok;rw [List.foldl_cons,ih,List.contains_cons,Bool.or_assoc]
   rw [hl,hf];unfold Wo;rw [CZ hi (by omega)];cases(Eg s[i]||more.contains s[i])<;>rfl
  simp only [Ws,Int.ofNat_lt,hi,decide_true,if_true,BA hi,Ab];exact B0
theorem sV (l:Ai) (c:UInt8):decide (Lib.indexByte l c<0)= !l.contains c:=by
 induction l with
 |nil=>rfl
 |cons b l ih=>
  unfold Lib.indexByte;have J0:=Lib.indexByte_ge l c;rw [List.contains_cons];by_cases hb:b=c
  ·subst hb;simp
  ·have h1:(b==c)=false:=by simpa using hb
   have h2:(c==b)=false:=by simpa using fun h=>hb h.symm
   rw [h1,h2];simp only [A9,if_false,Bool.false_or];rw [←ih];by_cases hm:Lib.indexByte l c= -1
   ·simp [hm]
   ·have h3:(Lib.indexByte l c== -1)=false:=by simpa using hm
    rw [h3];simp only [A9,if_false];rw [decide_eq_decide];omega
theorem cT {s more:Ai} (h1:s.length≤2000000):PR s more=some (Jr s more):=by
 unfold PR;rw [IB (xs:=s) (fun b=>Eg b||more.contains b) false (some true) ?_ (by simp [Ww])]
 ·unfold Jr;cases(s.all fun b=>Eg b||more.contains b)<;>rfl
 ·intro i hi;have hu:((s[i].toNat:Int)).toNat.toUInt8=s[i]:=by simp
  simp only [Ww,Int.ofNat_lt,hi,decide_true,if_true,BA hi,Ab,Wm,Wu,RU,hu,sV,CZ hi (by omega:s.length≤_)];rw [show((decide ((s[i].toNat:Int)≥97)&&decide ((s[i].toNat:Int)≤122))||(decide ((s[i].toNat:Int)≥48)&&decide ((s[i].toNat:Int)≤57)))=Eg s[i]from rfl];cases Eg s[i]<;>cases more.contains s[i]<;>rfl
def Cc (s:Ai):Bool:=Dm s.length 1 12&&Jr s [46,47]
def EO (s:Ai):Bool:=decide ((s.length:Int)≤24)&&Jr s [46,45,44,95]
theorem Ys {s:Ai} (h:s.length≤2000000):No s=some (Cc s):=by simp only [No,TZ,Ab,eO h (more:= [46,47]) (by decide),Cc];cases Dm s.length 1 12<;>simp
theorem YF {s:Ai} (h:s.length≤2000000):Nc s=some (Cc s):=by simp only [Nc,Tz,Ab,cT h,Cc];cases Dm s.length 1 12<;>simp
theorem YD {s:Ai} (h:s.length≤2000000):Nn s=some (EO s):=by simp only [Nn,Ab,eO h (more:= [46,45,44,95]) (by decide),EO];by_cases hl:(s.length:Int)≤24<;>simp [hl]
theorem iY {s:Ai} (h:s.length≤2000000):PL s=some (EO s):=by simp only [PL,Ab,cT h,EO];by_cases hl:(s.length:Int)≤24<;>simp [hl]
def CW (v:Ai) (F8:Bool):Bool:=EO v&&(!F8||v== [])
theorem eN {v:Ai} {F8:Bool} (h:v.length≤2000000):PQ v F8=some (CW v F8):=by simp only [PQ,iY h,Ab,CW,bne];cases EO v<;>cases F8<;>cases(v== [])<;>rfl
theorem yM {k v:Ai} {F8:Bool} (hk:k.length≤2000000) (hv:v.length≤2000000):Sn k v F8=some (Cc k&&CW v F8):=by simp only [Sn,Ys hk,YD hv,Ab,CW];cases Cc k<;>simp
def Hn (ks:List Ai) (i:Nat):Bool:=i==0||Op.bytesLess ((ks[i-1]?).getD []) ((ks[i]?).getD [])
def JG (ks:List Ai):Bool:=(List.range ks.length).all (Hn ks)
theorem fB: ∀(a b:Ai),(Op.bytesLess a b||a==b)= !Op.bytesLess b a
 | [], []=>rfl
 | [],_::_=>rfl
 |_::_, []=>rfl
 |x::a,y::b=>by
  have ih:=fB a b;simp only [Op.bytesLess];rcases Nat.lt_trichotomy x.toNat y.toNat with h|h|h
  ·have h1:x<y:=UInt8.lt_iff_toNat_lt.2 h;have h2: ¬y<x:=fun h'=>by have:=UInt8.lt_iff_toNat_lt.1 h';omega
   have h3: ¬y=x:=fun h'=>by subst h';omega
   simp [h1,h2,h3]
  ·have h0:x=y:=UInt8.toNat_inj.1 h;subst h0;have h1: ¬x<x:=fun h'=>by have:=UInt8.lt_iff_toNat_lt.1 h';omega
   rw [show((x::a)==(x::b))=(a==b) by simp];simp only [h1,decide_false,Bool.false_or,beq_self_eq_true,Bool.true_and];exact ih
  ·have h1: ¬x<y:=fun h'=>by have:=UInt8.lt_iff_toNat_lt.1 h';omega
   have h2:y<x:=UInt8.lt_iff_toNat_lt.2 h;have h3: ¬x=y:=fun h'=>by subst h';omega
   simp [h1,h2,h3]
theorem iT {i:Nat} (h0:0<i) (h:i≤2000000):IntKind.i64.wrap ((i:Int)-1)=((i-1:Nat):Int):=by rw [B3 (by omega) (by omega)];omega
theorem iS {α:Type} (xs:List α) (p:α→Bool) (q r:Nat→Bool) (h: ∀(i:Nat) (hi:i<xs.length),r i=(p xs[i]&&q i)):(List.range xs.length).all r=(xs.all p&&(List.range xs.length).all q):=by
 rw [←eT xs p (fun i=>match xs[i]? with|some x=>p x|none=>true) fun i hi=>by simp [hi]];rw [Bool.eq_iff_iff];simp only [Ac,AN,List.mem_range];constructor
 ·intro hr;exact⟨fun i hi=>by have:=hr i hi;rw [h i hi,Ac]at this;simpa [hi]using this.1,fun i hi=>by have:=hr i hi;rw [h i hi,Ac]at this;exact this.2⟩
 ·rintro⟨h1,h2⟩ i hi;rw [h i hi,Ac];exact⟨by have:=h1 i hi;simpa [hi]using this,h2 i hi⟩
theorem uE {ks:List Ai} (h:ks.length≤2000000) (hk: ∀k∈ks,k.length≤2000000):Sb ks=some (ks.all Cc&&JG ks):=by
 unfold Sb JG;rw [Qa (n:=ks.length) (fun i=>Cc ((ks[i]?).getD [])&&Hn ks i) false (some true) ?_ (by simp [Wk]),iS ks Cc (Hn ks) _ fun i hi=>by simp [hi]]
 ·cases(ks.all Cc&&(List.range ks.length).all (Hn ks))<;>rfl
 ·intro i hi;simp only [Wk,Int.ofNat_lt,hi,decide_true,if_true,BA hi,Ab,YF (hk _ (List.getElem_mem hi)),CZ hi (by omega:ks.length≤_),List.getElem?_eq_getElem hi,Option.getD_some,Hn];by_cases h0:i=0
  ·subst h0;cases Cc ks[0]<;>simp
  ·have hp:(i:Int)>0:=by omega
   have O0:i-1<ks.length:=by omega
   have hb:(i==0)=false:=by simpa using h0
   simp only [hp,decide_true,if_true,iT (Nat.pos_of_ne_zero h0) (by omega:i≤2000000),BA O0,Ab,fB,List.getElem?_eq_getElem O0,Option.getD_some,hb,Bool.false_or];cases Cc ks[i]<;>cases Op.bytesLess ks[i-1] ks[i]<;>rfl
theorem tI {l:List Ag} (h:l.length≤2000000):Sh l=some (l.map (·.ab)):=by
 have h1:=To (xs:=l) (body:=fun s:Int × List Ai=>Nb l s.1 s.2) (fun i (o:List Ai)=>(i,o)) (fun o w=>o++ [w.ab]) (fun o=>some o) (fun q o=>o.length=q)
  (fun i hi o hI=>by
   refine⟨?_,by simp [hI]⟩;show Nb l i o=_;unfold Nb;have hr:((o.length:Int)+(([l[i].ab]:List Ai).length:Int))*16≤140737488355328∧(o.length:Int)+(([l[i].ab]:List Ai).length:Int)≤140737488355328:=by rw [Bk,hI];omega
   rw [if_pos (by simpa using hi),BA hi,Ab,Cp hr,CZ hi (by omega)]) (fun o _=>by
   show Nb l l.length o=_;unfold Nb;rw [if_neg (by simp)]) (s:= []) rfl
 have hf: ∀(l:List Ag) (o:List Ai),l.foldl (fun o w=>o++ [w.ab]) o=o++l.map (·.ab):=by
  intro l
  induction l with
  |nil=>intro o;simp
  |cons w l ih=>intro o;rw [List.foldl_cons,ih];simp
 have h2:=h1.1;rw [hf,List.nil_append]at h2;unfold Sh;exact h2
def Dp (w:Ag):Bool:=Cc w.ab&&CW w.ak w.bd
def Iz (l:List Ag):Bool:=decide ((l.length:Int)≤24)&&(l.all Dp&&JG (l.map (·.ab)))
def JB (l:List Ag):Prop:=l.length≤2000000∧ ∀w∈l,w.ab.length≤2000000∧w.ak.length≤2000000
theorem xQ {l:List Ag} (h:JB l):Sk l=some (Iz l):=by
 have e1:GO l (fun y0_=>R1 y0_)=some (l.any fun w=> !CW w.ak w.bd):=TR _ (fun w hw=>by simp [R1,eN (h.2 w hw).2]) (by have:=h.1;omega);have e2:=uE (ks:=l.map (·.ab)) (by simpa using h.1) (by simp only [List.mem_map];rintro k ⟨w,hw,rfl⟩;exact(h.2 w hw).1);simp only [Sk,tI h.1,e1,e2,Ab,Iz,←List.not_all_eq_any_not];have e3:l.all Dp=((l.map (·.ab)).all Cc&&l.all fun w=>CW w.ak w.bd):=by
  rw [Bool.eq_iff_iff];simp only [AN,Ac,Dp,List.mem_map];constructor
  ·intro h;exact⟨by rintro k ⟨w,hw,rfl⟩;exact(h w hw).1,fun w hw=>(h w hw).2⟩
  ·rintro⟨h1,h2⟩ w hw;exact⟨h1 _ ⟨w,hw,rfl⟩,h2 w hw⟩
 rw [e3];generalize (l.map (·.ab)).all Cc=b1;generalize JG (l.map (·.ab))=b2;generalize (l.all fun w=>CW w.ak w.bd)=b3;by_cases hl:(l.length:Int)≤24<;>cases b1<;>cases b2<;>cases b3<;>simp [hl]
theorem xY {l:List Ag} (h:JB l):Sw l=some (Iz l):=by
 unfold Sw;have hn:=h.1;rw [Qa (n:=l.length) (fun i=>Dp ((l[i]?).getD ⟨[], [],false⟩)&&Hn (l.map (·.ab)) i) false (Wv l) ?_ (by simp [Wr]),iS l Dp (Hn (l.map (·.ab))) _ fun i hi=>by simp [hi]]
 ·unfold Wv Iz JG;rw [List.length_map];cases(l.all Dp&&(List.range l.length).all (Hn (l.map (·.ab))))<;>simp
 ·intro i hi;have hm:=h.2 _ (List.getElem_mem hi);simp only [Wr,Int.ofNat_lt,hi,decide_true,if_true,BA hi,Ab,yM hm.1 hm.2,CZ hi (by omega:l.length≤_),List.getElem?_eq_getElem hi,Option.getD_some,Hn,List.getElem?_map,Option.map_some];rw [show(Cc l[i].ab&&CW l[i].ak l[i].bd)=Dp l[i]from rfl];by_cases h0:i=0
  ·subst h0;cases Dp l[0]<;>simp
  ·have hp:(i:Int)>0:=by omega
   have O0:i-1<l.length:=by omega
   have hb:(i==0)=false:=by simpa using h0
   simp only [hp,decide_true,if_true,iT (Nat.pos_of_ne_zero h0) (by omega:i≤2000000),BA O0,Ab,List.getElem?_eq_getElem O0,Option.map_some,Option.getD_some,hb,Bool.false_or];cases Dp l[i]<;>cases Op.bytesLess l[i-1].ab l[i].ab<;>rfl
def GR (l:List Ag):Bool:=Iz l&&l.all fun w=> !w.bd
theorem zW {l:List Ag} (h:JB l):SG l=some (GR l):=by have e1:GO l (fun y0_=>Ss y0_)=some (l.any fun w=> !!w.bd):=TR _ (fun w hw=>by simp [Ss]) (by have:=h.1;omega);simp only [SG,xQ h,e1,Ab,GR,←List.not_all_eq_any_not];cases Iz l<;>simp
theorem zM {l:List Ag} (h:JB l):SC l=some (GR l):=by
 have hn:=h.1;unfold SC;rw [IB (xs:=l) (fun w=> !w.bd) false (WC l) (fun i hi=>by simp only [WB,Int.ofNat_lt,hi,decide_true,if_true,BA hi,Ab,CZ hi (by omega:l.length≤_)];cases l[i].bd<;>rfl) (by simp [WB])]
 simp only [WC,xY h,Ab,GR];cases(l.all fun w=> !w.bd)<;>simp
def small (b:UInt8):Bool:= !(decide ((b.toNat:Int)<97)||decide ((b.toNat:Int)>122))
def Fk (s:Ai) (n:Int):Bool:=s.all small&&Dm s.length 1 n
def zxB (cs:List Ai) (i:Nat):Bool:=Fk ((cs[i]?).getD []) 3&& !(cs.take i).contains ((cs[i]?).getD [])
def zw6 (cs:List Ai):Bool:=(List.range cs.length).all (zxB cs)
def YM (t:A7) (i:Nat):Bool:=
 let x:=(t.bq[i]?).getD ⟨[],0,0⟩
 Fk x.aw 1&&Dm x.da 1 ((t.cr.length:Int)-1)&&Dm x.b8 0 3&&(i==0||Op.bytesLess ((t.bq[i-1]?).getD ⟨[],0,0⟩).aw x.aw)
def Eu (t:A7):Bool:=Fk t.aw 1&&(zw6 t.cr&&Dm t.cr.length 2 4)&&decide ((t.bq.length:Int)≤3)&&(List.range t.bq.length).all (YM t)
structure zx7 (t:A7):Prop where
 name:t.aw.length≤2000000
 nf:t.cr.length≤2000000
 mg: ∀c∈t.cr,c.length≤2000000
 idxs:t.bq.length≤2000000
 idx: ∀x∈t.bq,x.aw.length≤2000000
theorem zyf {α:Type} (xs:List α) (i:Nat):Br xs 0 i=xs.take i:=by simp [Br]
def F4 (c:UInt8):Ai→List Ai
 | []=> [[]]
 |b::s=>if b=c then []::F4 c s else(match F4 c s with| []=> [[b]]|x::xs=>(b::x)::xs)
theorem SX {c:UInt8}: ∀{s:Ai},(∀b∈s,b≠c)→F4 c s= [s]
 | [],_=>rfl
 |b::s,h=>by have e:=SX (c:=c) (s:=s) fun x hx=>h x (List.mem_cons_of_mem _ hx);simp only [F4,if_neg (h b (by simp)),e]
theorem dU {c:UInt8}: ∀{p q:Ai},(∀b∈p,b≠c)→F4 c (p++c::q)=p::F4 c q
 | [],q,_=>by simp [F4]
 |b::p,q,h=>by have e:=dU (c:=c) (p:=p) (q:=q) fun x hx=>h x (List.mem_cons_of_mem _ hx);simp only [List.cons_append,F4,if_neg (h b (by simp)),e]
theorem zyk {α:Type} (xs:List α) (i j:Nat):Br xs (i:Int) (j:Int)=(xs.take j).drop i:=by simp [Br]
def field (s:Ai):Bool:=Dm s.length 1 3&&Jr s []
def JF:List Ai→Nat
 | []=>0
 |x::xs=>x.length+JF xs
theorem vL {xs:List Ai} {i:Nat} (hi:i<xs.length):xs[i].length≤JF xs:=by
 induction xs generalizing i with
 |nil=>simp at hi
 |cons x xs ih=>
  cases i with
  |zero=>simp [JF]
  |succ i=>simp only [List.getElem_cons_succ,JF];have:=ih (i:=i) (by simpa using hi);omega
def Small (xs:List Ai):Prop:=xs.length≤2000000∧JF xs≤2000000
theorem Small.each {xs:List Ai} (h:Small xs): ∀x∈xs,x.length≤2000000:=by intro x hx;obtain⟨i,hi,rfl⟩:=List.getElem_of_mem hx;exact Nat.le_trans (vL hi) h.2
def Dv (t:A7) (r:Dq):Bool:=((r.bm.length:Int)==t.cr.length)&&r.bm.all field
def Db (t:A7) (r:Dq):Ag:=⟨t.aw++ [47]++(r.bm.head?).getD [],Lib.join r.bm.tail [44],false⟩
theorem kK {α:Type} (xs:List α):Br xs 1 (xs.length:Int)=xs.tail:=by simp [Br]
theorem Small.tail {xs:List Ai} (h:Small xs):Small xs.tail:=by
 cases xs with
 |nil=>exact h
 |cons x xs=>exact⟨by have:=h.1;simp at this ⊢;omega,by have:=h.2;simp only [JF,List.tail_cons]at this ⊢;omega⟩
def YN (a b:Ag):Bool:=a.ab==b.ab&&(a.ak==b.ak&&(a.bd==b.bd))
def G8 (w:Ag):Dq:=⟨w.ab.drop 2::F4 44 w.ak⟩
def H9 (t:A7) (w:Ag):Bool:=Dv t (G8 w)&&YN (Db t (G8 w)) w
def YL (w:Ag):Prop:=w.ab.length≤1000∧w.ak.length≤1000
theorem vM {α β:Type} (p:α→Bool) (f:α→β) (l:List α) (o:List β):l.foldl (fun o x=>if p x=true then o++ [f x]else o) o=o++(l.filter p).map f:=by
 induction l generalizing o with
 |nil=>simp
 |cons x l ih=>rw [List.foldl_cons,ih,List.filter_cons];cases p x<;>simp
def rows (t:A7) (l:List Ag):List Dq:=(l.filter (H9 t)).map G8
def head (t:A7) (n:Ai):Ai:=t.aw++ [46]++n
def F3 (t:A7) (n k:Ai):Bool:=match F4 47 k with
 | [x,y,z]=>x==head t n&&field y&&field z
 |_=>false
def KB (t:A7) (n:Ai) (l:List Ag):List Ai:=(l.filter fun w=>F3 t n w.ab).map (·.ab)
def Ud (a b:List Ai):List Ai:=a.filter fun k=> !b.contains k
structure zx1 (t:A7) (n:Ai) (x:Cq):Prop where
 at_:getI t.bq (kI (fun y:Cq=>y.aw==n) t.bq)=some x
 name:x.aw=n
 c0:1≤x.da
 c1:x.da≤(t.cr.length:Int)-1
def Eh (r:Dq) (c:Int):Ai:=(r.bm[c.toNat]?).getD []
def Ej (t:A7) (n:Ai) (c:Int) (r:Dq):Ai:=head t n++ [47]++Eh r c++ [47]++Eh r 0
structure kR (t:A7) (r:Dq):Prop where
 len:r.bm.length=t.cr.length
 small:Small r.bm
def wanted (t:A7) (n:Ai) (x:Cq) (l:List Ag):List Ai:=(rows t l).map (Ej t n x.da)
def holds (t:A7) (n:Ai) (x:Cq) (lv:Int) (l:List Ag):Bool:=
 if lv==0 then((KB t n l).length:Int)==0
 else(((Ud (KB t n l) (wanted t n x l)).length:Int)==0)&&((lv==1)||(((Ud (wanted t n x l) (KB t n l)).length:Int)==0))
def zyd (t:A7) (n:Ai):Bool:=Eu t&&decide (kI (fun x:Cq=>x.aw==n) t.bq≥0)
def zyc (t:A7) (n:Ai) (l:List Ag):Bool:=zyd t n&&GR l
theorem tH {s:Ai} (h:Fk s 1=true):s.length=1:=by unfold Fk at h;simp only [Ac]at h;have:=GU.1 h.2;omega
theorem XF {t:A7} (h:Eu t=true):Fk t.aw 1=true:=by unfold Eu at h;simp only [Ac]at h;exact h.1.1.1
theorem Jm {t:A7} (h:Eu t=true) {x:Cq} (hx:x∈t.bq):Fk x.aw 1=true∧Dm x.da 1 ((t.cr.length:Int)-1)=true:=by unfold Eu at h;simp only [Ac]at h;obtain⟨i,hi,rfl⟩:=List.mem_iff_getElem.1 hx;have h1:=AN.1 h.2 i (List.mem_range.2 hi);unfold YM at h1;simp only [Ac,List.getElem?_eq_getElem hi,Option.getD_some]at h1;exact⟨h1.1.1.1,h1.1.1.2⟩
abbrev bl (a b:Aa):Bool:=Op.bytesLess a b
theorem Jk: ∀a:Aa,bl a a=false
 | []=>rfl
 |x::a=>by
  have h: ¬x<x:=fun h=>by have:=UInt8.lt_iff_toNat_lt.1 h;omega
  show Op.bytesLess (x::a) (x::a)=false;simp only [Op.bytesLess,h,decide_false,Bool.false_or,beq_self_eq_true,Bool.true_and];exact Jk a
theorem Yh (x y:UInt8) (a b:Aa):bl (x::a) (y::b)=true↔x.toNat<y.toNat∨x=y∧bl a b=true:=by show Op.bytesLess (x::a) (y::b)=true↔_;simp only [Op.bytesLess,Bool.or_eq_true,decide_eq_true_eq,Ac,beq_iff_eq,UInt8.lt_iff_toNat_lt]
theorem Gu: ∀{a b c:Aa},bl a b=true→bl b c=true→bl a c=true
 | [],_, [],_,h=>by rename_i b _;cases b<;>cases h
 | [],_,_::_,_,_=>rfl
 |_::_, [],_,h,_=>by cases h
 |_::_,_::_, [],_,h=>by cases h
 |x::a,y::b,z::c,h1,h2=>by
  rw [Yh]at*;rcases h1 with h1|⟨rfl,h1⟩<;>rcases h2 with h2|⟨rfl,h2⟩
  ·exact .inl (by omega)
  ·exact .inl h1
  ·exact .inl h2
  ·exact .inr ⟨rfl,Gu h1 h2⟩
theorem TX: ∀a b:Aa,bl a b=true∨a=b∨bl b a=true
 | [], []=> .inr (.inl rfl)
 | [],_::_=> .inl rfl
 |_::_, []=> .inr (.inr rfl)
 |x::a,y::b=>by
  rw [Yh,Yh];rcases Nat.lt_trichotomy x.toNat y.toNat with h|h|h
  ·exact .inl (.inl h)
  ·have h0:x=y:=UInt8.toNat_inj.1 h;subst h0;rcases TX a b with h1|h1|h1
   ·exact .inl (.inr ⟨rfl,h1⟩)
   ·exact .inr (.inl (by rw [h1]))
   ·exact .inr (.inr (.inr ⟨rfl,h1⟩))
  ·exact .inr (.inr (.inl h))
theorem Kz {a b:Aa} (h:bl a b=true):bl b a=false:=by
 cases h2:bl b a with
 |false=>rfl
 |true=>have:=Gu h h2;rw [Jk]at this;cases this
theorem FB {a b:Aa} (h:bl a b=true):a≠b:=by rintro rfl;rw [Jk]at h;cases h
theorem L4 {a b:Aa} (h:bl a b=false) (hn:a≠b):bl b a=true:=by
 rcases TX a b with h1|h1|h1
 ·rw [h]at h1;cases h1
 ·exact absurd h1 hn
 ·exact h1
section
variable {α:Type} (key:α→Aa)
def Da (l:List α):Prop:=l.Pairwise fun a b=>bl (key a) (key b)=true
def BB (x:α):List α→List α
 | []=> [x]
 |y::l=>if bl (key x) (key y)=true then x::y::l else if key x=key y then x::l else y::BB x l
variable {key}
theorem Da.gh {l:List α} (h:Da key l) {a b:α} (ha:a∈l) (hb:b∈l) (e:key a=key b):a=b:=by
 induction l with
 |nil=>cases ha
 |cons y l ih=>
  have h1:=List.pairwise_cons.1 h;rcases Ae.1 ha with q1|q1<;>rcases Ae.1 hb with q2|q2
  ·rw [q1,q2]
  ·exact absurd (q1▸e) (FB (h1.1 _ q2))
  ·exact absurd (q2▸e.symm) (FB (h1.1 _ q1))
  ·exact ih h1.2 q1 q2
theorem Qk {x:α}: ∀{l:List α},Da key l→ ∀y,y∈BB key x l↔y=x∨y∈l∧key y≠key x
 | [],_,y=>by simp [BB]
 |z::l,h,y=>by
  have h1:=List.pairwise_cons.1 h;unfold BB;split
  ·rename_i hb;constructor
   ·intro hy;rcases Ae.1 hy with rfl|hy
    ·exact .inl rfl
    ·refine .inr ⟨hy, ?_⟩;rcases Ae.1 hy with rfl|hy
     ·exact(FB hb).symm
     ·exact(FB (Gu hb (h1.1 _ hy))).symm
   ·rintro(rfl|⟨hy,_⟩)
    ·simp
    ·exact List.mem_cons_of_mem _ hy
  ·rename_i hb;split
   ·rename_i he;constructor
    ·intro hy;rcases Ae.1 hy with rfl|hy
     ·exact .inl rfl
     ·exact .inr ⟨List.mem_cons_of_mem _ hy,fun e=>FB (h1.1 _ hy) (by rw [e,he])⟩
    ·rintro(rfl|⟨hy,hn⟩)
     ·simp
     ·rcases Ae.1 hy with rfl|hy
      ·exact absurd he.symm hn
      ·exact List.mem_cons_of_mem _ hy
   ·rename_i he;rw [Ae,Qk h1.2];constructor
    ·rintro(rfl|rfl|⟨hy,hn⟩)
     ·exact .inr ⟨by simp,fun e=>he e.symm⟩
     ·exact .inl rfl
     ·exact .inr ⟨List.mem_cons_of_mem _ hy,hn⟩
    ·rintro(rfl|⟨hy,hn⟩)
     ·exact .inr (.inl rfl)
     ·rcases Ae.1 hy with rfl|hy
      ·exact .inl rfl
      ·exact .inr (.inr ⟨hy,hn⟩)
theorem Qc {x:α}: ∀{l:List α},Da key l→Da key (BB key x l)
 | [],_=>by simp [BB,Da]
 |z::l,h=>by
  have h1:=List.pairwise_cons.1 h;unfold BB;split
  ·rename_i hb;refine List.pairwise_cons.2 ⟨fun y hy=> ?_,h⟩;rcases Ae.1 hy with rfl|hy
   ·exact hb
   ·exact Gu hb (h1.1 _ hy)
  ·rename_i hb;split
   ·rename_i he;exact List.pairwise_cons.2 ⟨fun y hy=>by rw [he];exact h1.1 _ hy,h1.2⟩
   ·rename_i he;refine List.pairwise_cons.2 ⟨fun y hy=> ?_,Qc h1.2⟩;rcases(Qk h1.2 y).1 hy with rfl|⟨hy,_⟩
    ·exact L4 (by simpa using hb) he
    ·exact h1.1 _ hy
theorem Da.ext: ∀{a b:List α},Da key a→Da key b→(∀x,x∈a↔x∈b)→a=b
 | [], [],_,_,_=>rfl
 | [],y::b,_,_,h=>absurd ((h y).2 (by simp)) (by simp)
 |x::a, [],_,_,h=>absurd ((h x).1 (by simp)) (by simp)
 |x::a,y::b,ha,hb,h=>by
  have h1:=List.pairwise_cons.1 ha;have h2:=List.pairwise_cons.1 hb;have e:x=y:=by
   rcases Ae.1 ((h x).1 (by simp))with e|hx
   ·exact e
   ·rcases Ae.1 ((h y).2 (by simp))with e|hy
    ·exact e.symm
    ·have:=Gu (h1.1 _ hy) (h2.1 _ hx);rw [Jk]at this;cases this
  subst e;rw [Da.ext h1.2 h2.2 fun z=> ?_];constructor
  ·intro hz;rcases Ae.1 ((h z).1 (List.mem_cons_of_mem _ hz))with rfl|Pz
   ·have:=h1.1 _ hz;rw [Jk]at this;cases this
   ·exact Pz
  ·intro hz;rcases Ae.1 ((h z).2 (List.mem_cons_of_mem _ hz))with rfl|Pz
   ·have:=h2.1 _ hz;rw [Jk]at this;cases this
   ·exact Pz
theorem Da.filter {l:List α} (h:Da key l) (p:α→Bool):Da key (l.filter p):=List.Pairwise.filter p h
theorem Da.sub {a b:List α} (h:Da key b) (hs:a.Sublist b):Da key a:=List.Pairwise.sublist hs h
theorem TJ {x:α}: ∀(l:List α),(BB key x l).length≤l.length+1
 | []=>by simp [BB]
 |y::l=>by
  unfold BB;have:=TJ (x:=x) l;split
  ·simp
  ·split
   ·simp
   ·simp only [AA];omega
end
def GY {α:Type} (r:α→α→Bool):List α→Bool
 | []=>true
 | [_]=>true
 |x::y::l=>r x y&&GY r (y::l)
theorem XI {α:Type} {r:α→α→Bool} (ht: ∀a b c,r a b=true→r b c=true→r a c=true): ∀{l:List α},GY r l=true↔l.Pairwise fun a b=>r a b=true
 | []=>by simp [GY]
 | [_]=>by simp [GY]
 |x::y::l=>by
  rw [GY,Ac,XI ht];constructor
  ·rintro⟨h1,h2⟩;refine List.pairwise_cons.2 ⟨fun z hz=> ?_,h2⟩;rcases Ae.1 hz with rfl|hz
   ·exact h1
   ·exact ht _ _ _ h1 ((List.pairwise_cons.1 h2).1 z hz)
  ·intro h;have h:=List.pairwise_cons.1 h;exact⟨h.1 y (by simp),h.2⟩
theorem tW {α:Type} {r:α→α→Bool} {l:List α} {q:Nat} (h:q+1<l.length):GY r (l.drop q)=(r l[q] l[q+1]&&GY r (l.drop (q+1))):=by rw [List.drop_eq_getElem_cons (show q<l.length by omega),List.drop_eq_getElem_cons h,GY]
def Bv {α:Type} (lt:α→Bool) (l:List α):Nat:=(l.takeWhile lt).length
theorem NF {α:Type} (lt:α→Bool): ∀l:List α,Bv lt l≤l.length
 | []=>by simp [Bv]
 |x::l=>by have:=NF lt l;unfold Bv at this ⊢;rw [List.takeWhile_cons];split<;>simp<;>omega
theorem Yg {α:Type} {lt:α→Bool}: ∀{l:List α} {i:Nat} (h:i<Bv lt l),lt (l[i]'(Nat.lt_of_lt_of_le h (NF lt l)))=true
 |x::l,i,h=>by
  unfold Bv at h;rw [List.takeWhile_cons]at h;split at h
  ·rename_i hx;cases i with
   |zero=>exact hx
   |succ i=>exact Yg (l:=l) (i:=i) (by unfold Bv;simpa using h)
  ·simp at h
theorem gZ {α:Type} {lt:α→Bool}: ∀{l:List α} (h:Bv lt l<l.length),lt l[Bv lt l]=false
 |x::l,h=>by
  by_cases hx:lt x=true
  ·have e:Bv lt (x::l)=Bv lt l+1:=by unfold Bv;rw [List.takeWhile_cons,if_pos hx];rfl
   have:=gZ (l:=l) (lt:=lt) (by rw [e]at h;simpa using h);simp only [e,List.getElem_cons_succ];exact this
  ·have e:Bv lt (x::l)=0:=by unfold Bv;rw [List.takeWhile_cons,if_neg hx];rfl
   simp only [e,List.getElem_cons_zero];simpa using hx
theorem zX {α β:Type} {xs:List α} {body:Int × Int→Option ((Int × Int) ⊕ Option β)} {fin:Int→Option β} (lt:α→Bool) (hm: ∀i j (hj:j<xs.length) (hi:i≤j),lt xs[j]=true→lt xs[i]=true)
  (hs: ∀i j:Nat,i<j→j≤xs.length→(h:(i+j)/2<xs.length)→body ((i:Int),(j:Int))=some (.inl (if lt xs[(i+j)/2]=true then((((i+j)/2+1:Nat):Int),(j:Int))else((i:Int),(((i+j)/2:Nat):Int)))))
  (he: ∀i:Nat,i≤xs.length→body ((i:Int),(i:Int))=some (.inr (fin i))):AL body (0,(xs.length:Int))=fin (Bv lt xs):=by
 have key: ∀n i j:Nat,j-i≤n→i≤Bv lt xs→Bv lt xs≤j→j≤xs.length→AL body ((i:Int),(j:Int))=fin (Bv lt xs):=by
  intro n
  induction n with
  |zero=>
   intro i j h1 h2 h3 h4;have:i=j:=by omega
   subst this;have:i=Bv lt xs:=by omega
   rw [IC,he i h4,this]
  |succ n ih=>
   intro i j h1 h2 h3 h4;by_cases I5:i=j
   ·subst I5;have:i=Bv lt xs:=by omega
    rw [IC,he i h4,this]
   ·have Au:(i+j)/2<xs.length:=by omega
    rw [IC,hs i j (by omega) h4 Au];by_cases hc:lt xs[(i+j)/2]=true
    ·rw [if_pos hc];refine ih _ _ (by omega) ?_ h3 h4;by_cases hp:(i+j)/2<Bv lt xs
     ·omega
     ·have h5:Bv lt xs<xs.length:=by omega
      have:=gZ h5;rw [hm _ _ Au (by omega) hc]at this;cases this
    ·rw [if_neg hc];refine ih _ _ (by omega) h2 ?_ (by omega);by_cases hp:(i+j)/2<Bv lt xs
     ·exact absurd (Yg hp) hc
     ·omega
 exact key xs.length 0 xs.length (by omega) (by omega) (NF lt xs) (Nat.le_refl _)
theorem fL {α:Type} {key:α→Aa} {x:α}: ∀{l:List α},Da key l→BB key x l=(match l[Bv (fun y=>bl (key y) (key x)) l]? with
  |some y=>if key y=key x then l.set (Bv (fun y=>bl (key y) (key x)) l) x else l.take (Bv (fun y=>bl (key y) (key x)) l)++ [x]++l.drop (Bv (fun y=>bl (key y) (key x)) l)
  |none=>l.take (Bv (fun y=>bl (key y) (key x)) l)++ [x]++l.drop (Bv (fun y=>bl (key y) (key x)) l))
 | [],_=>by simp [BB,Bv]
 |y::l,h=>by
  have h1:=List.pairwise_cons.1 h;unfold BB;by_cases hb:bl (key x) (key y)=true
  ·have e:Bv (fun z=>bl (key z) (key x)) (y::l)=0:=by unfold Bv;rw [List.takeWhile_cons,if_neg (by rw [Kz hb];simp)];rfl
   rw [if_pos hb,e];simp [(FB hb).symm]
  ·rw [if_neg hb];by_cases hk:key x=key y
   ·have e:Bv (fun z=>bl (key z) (key x)) (y::l)=0:=by unfold Bv;rw [List.takeWhile_cons,if_neg (by rw [hk,Jk];simp)];rfl
    rw [if_pos hk,e];simp [hk]
   ·have FY:=L4 (by simpa using hb) hk;have e:Bv (fun z=>bl (key z) (key x)) (y::l)=Bv (fun z=>bl (key z) (key x)) l+1:=by unfold Bv;rw [List.takeWhile_cons,if_pos FY];rfl
    rw [if_neg hk,e,fL h1.2];simp only [List.getElem?_cons_succ];split
    ·split<;>simp
    ·simp
def Mx (a b:Ai):Int:=if bl a b=true then-1 else if a=b then 0 else 1
@[simp] theorem x6 (a:Ai):Kq a=some false:=by simp [Kq]
@[simp] theorem zx5 (a b:Ai):R6 a b=some (Mx a b):=by
 unfold R6 Mx;simp only [x6,Ab,A9,if_false];by_cases h:bl a b=true
 ·have:Op.bytesLess a b=true:=h;simp [this]
 ·have h1:Op.bytesLess a b=false:=by simpa using h
  by_cases he:a=b
  ·subst he;simp [h1]
  ·simp [h1,he]
theorem zV {a b:Ai}:decide (Mx a b<0)=bl a b:=by
 unfold Mx;cases h:bl a b with
 |true=>simp
 |false=>by_cases he:a=b<;>simp [he]
theorem zwl {a b:Ai}:(Mx a b==0)=decide (a=b):=by
 unfold Mx;cases h:bl a b with
 |true=>simp [FB h]
 |false=>by_cases he:a=b<;>simp [he]
theorem zw4 {i j:Nat} (h:i≤j) (hj:j≤2000000):IntKind.i64.wrap (Int.fdiv (IntKind.u64.wrap (IntKind.i64.wrap ((i:Int)+(j:Int)))) (2^(min ((1:Int)).toNat (IntKind.bits .u64))))=(((i+j)/2:Nat):Int):=by
 have e1:IntKind.i64.wrap ((i:Int)+(j:Int))=((i+j:Nat):Int):=by rw [B3 (by omega) (by omega)];simp
 have e2:IntKind.u64.wrap ((i+j:Nat):Int)=((i+j:Nat):Int):=by simp only [IntKind.wrap,IntKind.bits,IntKind.signed];simp;omega
 have e3:(2:Int)^(min ((1:Int)).toNat (IntKind.bits .u64))=((2:Nat):Int):=rfl;rw [e1,e2,e3,Int.fdiv_eq_ediv_of_nonneg _ (by omega),←Int.natCast_ediv,B3 (by omega) (by omega)]
theorem zwy {i:Nat} (h:i≤2000000):IntKind.i64.wrap ((i:Int)+1)=((i+1:Nat):Int):=by rw [B3 (by omega) (by omega)];simp
abbrev DX (l:List Ag):Prop:=Da (fun w:Ag=>w.ab) l
abbrev FA (l:List Ag) (k:Ai):Nat:=Bv (fun w:Ag=>bl w.ab k) l
theorem jV {l:List Ag} {k:Ai} (hl:l.length≤2000000) (hr:DX l):Kt l k=some (((FA l k:Nat):Int),(match l[FA l k]? with|some w=>decide (w.ab=k)|none=>false)):=by
 unfold Kt We;have hc: ∀w:Ag,MZ w k=some (Mx w.ab k):=fun w=>by simp [MZ]
 have h:=zX (xs:=l) (body:=fun s:Int × Int=>MU l k (fun y0_ y1_=>MZ y0_ y1_) s.1 s.2) (fin:=fun i=>Wc l k (fun y0_ y1_=>MZ y0_ y1_) i) (fun w:Ag=>bl w.ab k)
  (fun i j hj hi h=>by
   rcases Nat.lt_or_ge i j with I5|I5
   ·exact Gu ((List.pairwise_iff_getElem.1 hr) i j (by omega) hj I5) h
   ·have:i=j:=by omega
    subst this;exact h)
  (fun i j I5 hj Vn=>by show MU l k _ (i:Int) (j:Int)=_;unfold MU;rw [if_pos (by simpa using I5),zw4 (by omega) (by omega),BA Vn,Ab];simp only [hc,Ab,zV,zwy (show(i+j)/2≤2000000 by omega)];cases bl l[(i+j)/2].ab k<;>rfl)
  (fun i hi=>by show MU l k _ (i:Int) (i:Int)=_;unfold MU;rw [if_neg (by simp)])
 rw [h];unfold Wc;show Option.bind (if decide (((FA l k:Nat):Int)<l.length)=true then _ else _) _=_;by_cases hp:FA l k<l.length
 ·rw [if_pos (by simpa using hp),BA hp,Ab];simp only [hc,Ab,zwl,List.getElem?_eq_getElem hp]
 ·rw [if_neg (by simpa using hp),List.getElem?_eq_none (by omega)];rfl
theorem Xv {l:List Ag} {w:Ag} (hl:l.length≤2000000) (hr:DX l):Nf l w=some (BB (fun w:Ag=>w.ab) w l):=by
 unfold Nf;rw [jV hl hr,Ab,fL hr];show(if(match l[FA l w.ab]? with|some w'=>decide (w'.ab=w.ab)|none=>false)=true then _ else _)=_;have hle:FA l w.ab≤l.length:=NF _ _;have hI:TD l ((FA l w.ab:Nat):Int) [w]=some (l.take (FA l w.ab)++ [w]++l.drop (FA l w.ab)):=Cp ⟨by omega,by omega,by simp,by simp only [Bk];omega⟩;by_cases hp:FA l w.ab<l.length
 ·rw [List.getElem?_eq_getElem hp];by_cases hk:(l[FA l w.ab]).ab=w.ab
  ·simp only [hk,decide_true,if_true,BA hp,Ab];rfl
  ·simp only [hk,decide_false,A9,if_false];rw [hI];rfl
 ·rw [List.getElem?_eq_none (by omega)];simp only [A9,if_false];rw [hI];rfl
theorem bW (ks:List Ai):JG ks=GY bl ks:=by
 have key: ∀n q,q+n+1=ks.length→(List.range' (q+1) n).all (Hn ks)=GY bl (ks.drop q):=by
  intro n
  induction n with
  |zero=>intro q hq;rw [List.drop_eq_getElem_cons (show q<ks.length by omega),List.drop_eq_nil_of_le (show ks.length≤q+1 by omega)];rfl
  |succ n ih=>intro q hq;rw [List.range'_succ,List.all_cons,ih (q+1) (by omega),tW (show q+1<ks.length by omega)];congr 1;unfold Hn;have hb:(q+1==0)=false:=rfl;rw [hb,Bool.false_or,Nat.add_sub_cancel,List.getElem?_eq_getElem (show q<ks.length by omega),List.getElem?_eq_getElem (show q+1<ks.length by omega)];rfl
 cases ks with
 |nil=>rfl
 |cons k l=>unfold JG;rw [AA,List.range_eq_range',List.range'_succ,List.all_cons];have:=key l.length 0 (by simp);rw [List.drop_zero]at this;rw [Nat.zero_add]at this;rw [show 0+1=1 from rfl,this];rfl
theorem Xx {α β:Type} (f:α→β) (r:β→β→Bool): ∀l:List α,GY r (l.map f)=GY (fun a b=>r (f a) (f b)) l
 | []=>rfl
 | [_]=>rfl
 |x::y::l=>by have:=Xx f r (y::l);simp only [List.map_cons,GY]at this ⊢;rw [this]
theorem rC {l:List Ag} (h:Iz l=true):DX l:=by unfold Iz at h;simp only [Ac]at h;have h1:=h.2.2;rw [bW,Xx]at h1;exact(XI (r:=fun a b:Ag=>bl a.ab b.ab) fun a b c p q=>Gu p q).1 h1
theorem fN {t:A7} (h:Eu t=true):Da (fun x:Cq=>x.aw) t.bq:=by
 unfold Eu at h;simp only [Ac]at h;have h1:=h.2;have h2:JG (t.bq.map (·.aw))=true:=by
  unfold JG;rw [List.length_map,AN];intro i hi;have h3:=AN.1 h1 i hi;unfold YM at h3;simp only [Ac]at h3;have I4:i<t.bq.length:=List.mem_range.1 hi;have e: ∀j:Nat,(((t.bq.map (·.aw))[j]?).getD [])=((t.bq[j]?).getD ⟨[],0,0⟩).aw:=by intro j;rw [List.getElem?_map];cases t.bq[j]?<;>rfl
  unfold Hn;rw [e,e];exact h3.2
 rw [bW,Xx]at h2;exact(XI (r:=fun a b:Cq=>bl a.aw b.aw) fun a b c p q=>Gu p q).1 h2
theorem gK {t:A7} (h:Eu t=true):2≤t.cr.length∧t.cr.length≤4∧t.bq.length≤3:=by unfold Eu at h;simp only [Ac,decide_eq_true_eq]at h;have h1:=GU.1 h.1.1.2.2;have h2:=h.1.2;omega
def zwP (a:DU):Prop:=Small a.c7.bm∧Small a.cu.bm
structure zyq (t:A7) (a:DU):Prop where
 old:a.ae≠1→kR t a.c7
 new:a.ae≠2→kR t a.cu
 kind:a.ae=1∨a.ae=2∨a.ae=3
 same:a.ae=3→Eh a.c7 0=Eh a.cu 0
def G9 (t:A7) (a:DU) (x:Cq):Ai:=if a.ae=1 then []else Ej t x.aw x.da a.c7
def F9 (t:A7) (a:DU) (x:Cq):Ai:=if a.ae=2 then []else Ej t x.aw x.da a.cu
theorem Ez {σ α:Type} {body:σ→Option (σ ⊕ Option α)} {s:σ} {o:Option α} (h:body s=some (.inr o)):AL body s=o:=by rw [IC,h]
theorem Fx {σ α:Type} {body:σ→Option (σ ⊕ Option α)} {s s':σ} (h:body s=some (.inl s')):AL body s=AL body s':=by rw [IC,h]
end Go.Proofs.YtollgpkegmbpmaaGreatDoor
end
