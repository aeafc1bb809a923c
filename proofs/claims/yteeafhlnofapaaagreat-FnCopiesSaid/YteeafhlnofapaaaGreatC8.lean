/- Parts of a proof, joined: QM, QF1, QF2, QR, NE, N5, NK, NP, NF, NC, NI, NJ, NJA, ND, NGA, NX, NSP, NSQ, NSR, NSS, NDR, NJL. -/
import Derived.Test.YteeafhlnofapaaaGreatC7
set_option linter.unusedVariables false
set_option linter.unusedSimpArgs false
namespace Go.Proofs.YteeafhlnofapaaaGreat
noncomputable section
open Go.RowKit
set_option maxRecDepth 100000
set_option maxHeartbeats 4000000
abbrev AT:=List UInt8
def WX(a0:List Int):Option (Bool):=
 some (decide ((a0.length:Int)>65536))
def PZ(a0:BH):Option (Int × BH):=
 if(decide (a0.dg<(a0.bg.length:Int)))then
  (getI a0.bg a0.dg).bind λy1=>
  if(decide ((IntKind.i64.wrap (a0.dg+1))<=(a0.bg.length:Int)))then
   some ((IntKind.i64.wrap y1),(⟨a0.bg,(IntKind.i64.wrap (a0.dg+1)),(IntKind.u64.wrap ((IntKind.u64.wrap ((IntKind.u64.wrap (a0.bu*6364136223846793005))+(IntKind.u64.wrap (IntKind.i64.wrap y1))))+1442695040888963407))⟩:BH))
  else
   some ((IntKind.i64.wrap (IntKind.u64.wrap ((BitVec.ofInt (IntKind.bits .u64) (Int.fdiv (IntKind.u64.wrap ((IntKind.u64.wrap ((IntKind.u64.wrap (a0.bu*6364136223846793005))+(IntKind.u64.wrap (IntKind.i64.wrap y1))))+1442695040888963407)) (2^(min ((40:Int)).toNat (IntKind.bits .u64))))&&&BitVec.ofInt (IntKind.bits .u64) 255).toNat:Int))),(⟨a0.bg,(IntKind.i64.wrap (a0.dg+1)),(IntKind.u64.wrap ((IntKind.u64.wrap ((IntKind.u64.wrap (a0.bu*6364136223846793005))+(IntKind.u64.wrap (IntKind.i64.wrap y1))))+1442695040888963407))⟩:BH))
 else
  if(decide ((IntKind.i64.wrap (a0.dg+1))<=(a0.bg.length:Int)))then
   some (0,(⟨a0.bg,(IntKind.i64.wrap (a0.dg+1)),(IntKind.u64.wrap ((IntKind.u64.wrap ((IntKind.u64.wrap (a0.bu*6364136223846793005))+(IntKind.u64.wrap 0)))+1442695040888963407))⟩:BH))
  else
   some ((IntKind.i64.wrap (IntKind.u64.wrap ((BitVec.ofInt (IntKind.bits .u64) (Int.fdiv (IntKind.u64.wrap ((IntKind.u64.wrap ((IntKind.u64.wrap (a0.bu*6364136223846793005))+(IntKind.u64.wrap 0)))+1442695040888963407)) (2^(min ((40:Int)).toNat (IntKind.bits .u64))))&&&BitVec.ofInt (IntKind.bits .u64) 255).toNat:Int))),(⟨a0.bg,(IntKind.i64.wrap (a0.dg+1)),(IntKind.u64.wrap ((IntKind.u64.wrap ((IntKind.u64.wrap (a0.bu*6364136223846793005))+(IntKind.u64.wrap 0)))+1442695040888963407))⟩:BH))
def IM(a0:BH)(a1:Int):Option (Int × BH):=
 if(decide (a1<=1))then
  some (0,a0)
 else
  (PZ a0).bind λv1=>
  if(decide (a1>200))then
   (PZ v1.2).bind λv2=>
   req (a1≠0)<|
   some ((Int.tmod (IntKind.i64.wrap ((IntKind.i64.wrap (v1.1*256))+v2.1)) a1),(⟨v2.2.bg,v2.2.dg,v2.2.bu⟩:BH))
  else
   req (a1≠0)<|
   some ((Int.tmod v1.1 a1),(⟨v1.2.bg,v1.2.dg,v1.2.bu⟩:BH))
def M7(a0:BH)(a1:Int):Option (Bool × BH):=
 (IM a0 a1).bind λv1=>
 some ((v1.1==0),v1.2)
def Sn(a0:BH)(a1:List (AT)):Option (AT × BH):=
 (IM a0 (a1.length:Int)).bind λv1=>
 (getI a1 v1.1).bind λy2=>
 some (y2,v1.2)
def R6(a0:BH):Option (AT × BH):=
 (Sn a0 ([([]:AT),([49]:AT),([55]:AT),([49,48]:AT),([45,51]:AT),([120]:AT),([97,44,98,95,99]:AT)]:List (AT))).bind λv1=>
 some (v1.1,v1.2)
def Sa(a0:BH)(a1:AT):Option (Aw × BH):=
 (M7 a0 4).bind λv1=>
 if v1.1 then
  some ((⟨a1,([]:AT),true⟩:Aw),v1.2)
 else
  (R6 v1.2).bind λv2=>
  some ((⟨a1,v2.1,false⟩:Aw),v2.2)
def Wg(v1:List Aw)(v2:Int)(v3:List Int)(v4 v5:Int):Option ((List Aw × Int × List Int × Int × Int) ⊕ Option (List Aw × BH)):=
 if(decide (v2<([([97]:AT),([98]:AT),([99]:AT),([105,47,120,47,49]:AT),([109]:AT),([110]:AT),([114,47,49]:AT),([122]:AT)].length:Int)))then
  (getI [([97]:AT),([98]:AT),([99]:AT),([105,47,120,47,49]:AT),([109]:AT),([110]:AT),([114,47,49]:AT),([122]:AT)] v2).bind λy6=>
  (M7 (⟨v3,v4,v5⟩:BH) 4).bind λv7=>
  if v7.1 then
   (Sa v7.2 y6).bind λv8=>
   req ((((v1).length:Int)+(([v8.1]:List Aw).length:Int))*40<=140737488355328/\((v1).length:Int)+(([v8.1]:List Aw).length:Int)<=140737488355328)<|
   some (.inl ((v1++ [v8.1]),(IntKind.i64.wrap (v2+1)),v8.2.bg,v8.2.dg,v8.2.bu))
  else
   some (.inl (v1,(IntKind.i64.wrap (v2+1)),v7.2.bg,v7.2.dg,v7.2.bu))
 else
  some (.inr (some (v1,(⟨v3,v4,v5⟩:BH))))
def R9(a0:BH):Option (List Aw × BH):=
 Bi (λs:List Aw × Int × List Int × Int × Int=>Wg s.1 s.2.1 s.2.2.1 s.2.2.2.1 s.2.2.2.2) ([],0,a0.bg,a0.dg,a0.bu)
def Nj(a0 v1:List Ag)(v2:Int):Option ((List Ag × Int) ⊕ Option (List Ag)):=
 if(decide (v2<(a0.length:Int)))then
  (getI a0 v2).bind λy3=>
  req (((([]:List BJ).length:Int)+((y3.af).length:Int))*32<=140737488355328/\(([]:List BJ).length:Int)+((y3.af).length:Int)<=140737488355328)<|
  req ((((v1).length:Int)+(([y3]:List Ag).length:Int))*40<=140737488355328/\((v1).length:Int)+(([y3]:List Ag).length:Int)<=140737488355328)<|
  some (.inl ((v1++ [y3]),(IntKind.i64.wrap (v2+1))))
 else
  some (.inr (some v1))
def SY(a0:List Ag):Option (List Ag):=
 Bi (λs:List Ag × Int=>Nj a0 s.1 s.2) ([],0)
def Wz(a0:List Ag)(a1:AT)(v1:Int):Option ((Int) ⊕ Option (Int)):=
 if(decide (v1<(a0.length:Int)))then
  (getI a0 v1).bind λy2=>
  if(y2.ae==a1)then
   some (.inr (some v1))
  else
   some (.inl (IntKind.i64.wrap (v1+1)))
 else
  some (.inr (some (-1)))
def Ta(a0:List Ag)(a1:AT):Option (Int):=
 Bi (λs:Int=>Wz a0 a1 s) 0
def SZ(a0:List Ag)(a1:AT):Option (Int):=
 (Ta a0 a1).bind λv1=>
 if(decide (v1<0))then
  some 0
 else
  (getI a0 v1).bind λy2=>
  (getI y2.af (IntKind.i64.wrap ((y2.af.length:Int)-1))).bind λy3=>
  some y3.ab
def IN(a0 a1 a2:Int):Option (Bool):=
 some ((decide (a0>=a1))&&(decide (a0<=a2)))
def S1(a0:Int):Option (Bool):=
 (IN a0 1 100000).bind λv1=>
 some v1
def Wp(v1:Int)(v3:Bool):Option ((Int) ⊕ Option (Bool)):=
 if(!v3)then
  some (.inr (some false))
 else
  some (.inl (IntKind.i64.wrap (v1+1)))
def PW(a1:AT)(v1:Int)(y2:UInt8)(v4:Bool)(v5:Int):Option ((Bool × Int) ⊕ Option ((Int) ⊕ Option (Bool))):=
 if(decide (v5<(a1.length:Int)))then
  if v4 then
   some (.inl (true,(IntKind.i64.wrap (v5+1))))
  else
   (getI a1 v5).bind λy6=>
   some (.inl (((y2.toNat:Int)==(y6.toNat:Int)),(IntKind.i64.wrap (v5+1))))
 else
  some (.inr (Wp v1 v4))
def Wu(a0 a1:AT)(v1:Int):Option ((Int) ⊕ Option (Bool)):=
 if(decide (v1<(a0.length:Int)))then
  (getI a0 v1).bind λy2=>
  Bi (λs:Bool × Int=>PW a1 v1 y2 s.1 s.2) ((((decide ((y2.toNat:Int)>=97))&&(decide ((y2.toNat:Int)<=122)))||((decide ((y2.toNat:Int)>=48))&&(decide ((y2.toNat:Int)<=57)))),0)
 else
  some (.inr (some true))
def P7(a0 a1:AT):Option (Bool):=
 Bi (λs:Int=>Wu a0 a1 s) 0
def Qi(a0:AT):Option (Bool):=
 (IN (a0.length:Int) 1 12).bind λv1=>
 if v1 then
  (P7 a0 ([46,47]:AT)).bind λv2=>
  some v2
 else
  some false
def SQ(a0:AT):Option (Bool):=
 if(decide ((a0.length:Int)<=24))then
  (P7 a0 ([46,45,44,95]:AT)).bind λv1=>
  some v1
 else
  some false
def P4(a0 a1:AT)(a2:Bool):Option (Bool):=
 (Qi a0).bind λv1=>
 if v1 then
  (SQ a1).bind λv2=>
  some (v2&&((!a2)||(a1==([]:AT))))
 else
  some false
def Wq(a0:Ag):Option (Bool):=
 (Qi a0.ae).bind λv1=>
 if v1 then
  (IN (a0.af.length:Int) 1 16).bind λv2=>
  some v2
 else
  some false
def L5(a0:Ag)(v3:Int):Option ((Int) ⊕ Option (Bool)):=
 if(decide (v3<(a0.af.length:Int)))then
  (getI a0.af v3).bind λy4=>
  (S1 y4.ab).bind λv5=>
  if v5 then
   (P4 a0.ae y4.ar y4.al).bind λv6=>
   if(decide (v3>0))then
    if v6 then
     (getI a0.af (IntKind.i64.wrap (v3-1))).bind λy7=>
     if(decide (y7.ab>=y4.ab))then
      some (.inr (some false))
     else
      some (.inl (IntKind.i64.wrap (v3+1)))
    else
     some (.inr (some false))
   else
    if((!v6)||false)then
     some (.inr (some false))
    else
     some (.inl (IntKind.i64.wrap (v3+1)))
  else
   some (.inr (some false))
 else
  some (.inr (Wq a0))
def Sv(a0:Ag):Option (Bool):=
 Bi (λs:Int=>L5 a0 s) 0
def Wo(a0:List Ag):Option (Bool):=
 some (decide ((a0.length:Int)<=24))
def L6(a0:List Ag)(v1:Int):Option ((Int) ⊕ Option (Bool)):=
 if(decide (v1<(a0.length:Int)))then
  (getI a0 v1).bind λy2=>
  (Sv y2).bind λv3=>
  if(decide (v1>0))then
   if v3 then
    (getI a0 (IntKind.i64.wrap (v1-1))).bind λy4=>
    if(!Op.bytesLess y4.ae y2.ae)then
     some (.inr (some false))
    else
     some (.inl (IntKind.i64.wrap (v1+1)))
   else
    some (.inr (some false))
  else
   if((!v3)||false)then
    some (.inr (some false))
   else
    some (.inl (IntKind.i64.wrap (v1+1)))
 else
  some (.inr (Wo a0))
def Nn(a0:List Ag):Option (Bool):=
 Bi (λs:Int=>L6 a0 s) 0
def Sc(v2:List Ag):Option (List Ag × Bool):=
 (Nn v2).bind λv3=>
 some (v2,v3)
def Ni(a2 v4:Int)(v5:List Ag)(y6:Aw)(v7:Int):Option ((Int × List Ag) ⊕ Option (List Ag × Bool)):=
 if(decide (v7>0))then
  (getI v5 (IntKind.i64.wrap (v7-1))).bind λy8=>
  if(y8.ae==y6.ae)then
   (SZ v5 y6.ae).bind λv9=>
   if(decide (v9>=a2))then
    some (.inr (some ([],false)))
   else
    req ((((y8.af).length:Int)+(([(⟨a2,y6.ar,y6.al⟩:BJ)]:List BJ).length:Int))*32<=140737488355328/\((y8.af).length:Int)+(([(⟨a2,y6.ar,y6.al⟩:BJ)]:List BJ).length:Int)<=140737488355328)<|
    some (.inl ((IntKind.i64.wrap (v4+1)),(v5.set ((IntKind.i64.wrap (v7-1))).toNat {y8 with af:=(y8.af++ [(⟨a2,y6.ar,y6.al⟩:BJ)])})))
  else
   req (0<=v7/\v7<=(v5.length:Int)/\(v5.length:Int)<=(v5.length:Int))<|
   req (0<=v7/\v7<=(v5.length:Int)/\(v5.length:Int)<=(v5.length:Int))<|
   req (((([]:List Ag).length:Int)+(((A8 v5 v7 (v5.length:Int))).length:Int))*40<=140737488355328/\(([]:List Ag).length:Int)+(((A8 v5 v7 (v5.length:Int))).length:Int)<=140737488355328)<|
   req (0<=(0:Int)/\(0:Int)<=v7/\v7<=(v5.length:Int))<|
   req (((([]:List Ag).length:Int)+(((A8 v5 0 v7)).length:Int))*40<=140737488355328/\(([]:List Ag).length:Int)+(((A8 v5 0 v7)).length:Int)<=140737488355328)<|
   req (((((A8 v5 0 v7)).length:Int)+(([(⟨y6.ae,[(⟨a2,y6.ar,y6.al⟩:BJ)]⟩:Ag)]:List Ag).length:Int))*40<=140737488355328/\(((A8 v5 0 v7)).length:Int)+(([(⟨y6.ae,[(⟨a2,y6.ar,y6.al⟩:BJ)]⟩:Ag)]:List Ag).length:Int)<=140737488355328)<|
   req ((((((A8 v5 0 v7)++ [(⟨y6.ae,[(⟨a2,y6.ar,y6.al⟩:BJ)]⟩:Ag)])).length:Int)+(((A8 v5 v7 (v5.length:Int))).length:Int))*40<=140737488355328/\((((A8 v5 0 v7)++ [(⟨y6.ae,[(⟨a2,y6.ar,y6.al⟩:BJ)]⟩:Ag)])).length:Int)+(((A8 v5 v7 (v5.length:Int))).length:Int)<=140737488355328)<|
   some (.inl ((IntKind.i64.wrap (v4+1)),(((A8 v5 0 v7)++ [(⟨y6.ae,[(⟨a2,y6.ar,y6.al⟩:BJ)]⟩:Ag)])++(A8 v5 v7 (v5.length:Int)))))
 else
  req (0<=v7/\v7<=(v5.length:Int)/\(v5.length:Int)<=(v5.length:Int))<|
  req (0<=v7/\v7<=(v5.length:Int)/\(v5.length:Int)<=(v5.length:Int))<|
  req (((([]:List Ag).length:Int)+(((A8 v5 v7 (v5.length:Int))).length:Int))*40<=140737488355328/\(([]:List Ag).length:Int)+(((A8 v5 v7 (v5.length:Int))).length:Int)<=140737488355328)<|
  req (0<=(0:Int)/\(0:Int)<=v7/\v7<=(v5.length:Int))<|
  req (((([]:List Ag).length:Int)+(((A8 v5 0 v7)).length:Int))*40<=140737488355328/\(([]:List Ag).length:Int)+(((A8 v5 0 v7)).length:Int)<=140737488355328)<|
  req (((((A8 v5 0 v7)).length:Int)+(([(⟨y6.ae,[(⟨a2,y6.ar,y6.al⟩:BJ)]⟩:Ag)]:List Ag).length:Int))*40<=140737488355328/\(((A8 v5 0 v7)).length:Int)+(([(⟨y6.ae,[(⟨a2,y6.ar,y6.al⟩:BJ)]⟩:Ag)]:List Ag).length:Int)<=140737488355328)<|
  req ((((((A8 v5 0 v7)++ [(⟨y6.ae,[(⟨a2,y6.ar,y6.al⟩:BJ)]⟩:Ag)])).length:Int)+(((A8 v5 v7 (v5.length:Int))).length:Int))*40<=140737488355328/\((((A8 v5 0 v7)++ [(⟨y6.ae,[(⟨a2,y6.ar,y6.al⟩:BJ)]⟩:Ag)])).length:Int)+(((A8 v5 v7 (v5.length:Int))).length:Int)<=140737488355328)<|
  some (.inl ((IntKind.i64.wrap (v4+1)),(((A8 v5 0 v7)++ [(⟨y6.ae,[(⟨a2,y6.ar,y6.al⟩:BJ)]⟩:Ag)])++(A8 v5 v7 (v5.length:Int)))))
def Mb(a2 v4:Int)(v5:List Ag)(y6:Aw)(v10:Int):Option ((Int) ⊕ Option ((Int × List Ag) ⊕ Option (List Ag × Bool))):=
 if(decide (v10>0))then
  (getI v5 (IntKind.i64.wrap (v10-1))).bind λy11=>
  if(!(Op.bytesLess y11.ae y6.ae||y11.ae==y6.ae))then
   some (.inl (IntKind.i64.wrap (v10-1)))
  else
   some (.inr (Ni a2 v4 v5 y6 v10))
 else
  some (.inr (Ni a2 v4 v5 y6 v10))
def Ng(a1:List Aw)(a2 v4:Int)(v5:List Ag):Option ((Int × List Ag) ⊕ Option (List Ag × Bool)):=
 if(decide (v4<(a1.length:Int)))then
  (getI a1 v4).bind λy6=>
  Bi (λs:Int=>Mb a2 v4 v5 y6 s) (v5.length:Int)
 else
  some (.inr (Sc v5))
def SL(a0:List Ag)(a1:List Aw)(a2:Int):Option (List Ag × Bool):=
 (SY a0).bind λv1=>
 Bi (λs:Int × List Ag=>Ng a1 a2 s.1 s.2) (0,v1)
def Wh(v2:List Ag)(v3 v4:Int)(v5:List Int)(v6 v7:Int):Option ((List Ag × Int × Int × List Int × Int × Int) ⊕ Option (List Ag × BH)):=
 if(decide (v4>0))then
  (IM (⟨v5,v6,v7⟩:BH) 4).bind λv8=>
  (R9 v8.2).bind λv9=>
  (SL v2 v9.1 (IntKind.i64.wrap (v3+(IntKind.i64.wrap ((1:Int)+v8.1))))).bind λv10=>
  if v10.2 then
   some (.inl (v10.1,(IntKind.i64.wrap (v3+(IntKind.i64.wrap ((1:Int)+v8.1)))),(IntKind.i64.wrap (v4-1)),v9.2.bg,v9.2.dg,v9.2.bu))
  else
   some (.inl (v2,(IntKind.i64.wrap (v3+(IntKind.i64.wrap ((1:Int)+v8.1)))),(IntKind.i64.wrap (v4-1)),v9.2.bg,v9.2.dg,v9.2.bu))
 else
  some (.inr (some (v2,(⟨v5,v6,v7⟩:BH))))
def PS(a0:BH):Option (List Ag × BH):=
 (IM a0 6).bind λv1=>
 Bi (λs:List Ag × Int × Int × List Int × Int × Int=>Wh s.1 s.2.1 s.2.2.1 s.2.2.2.1 s.2.2.2.2.1 s.2.2.2.2.2) ([],0,v1.1,v1.2.bg,v1.2.dg,v1.2.bu)
def IL(a0:BH)(a1:List Int):Option (Int × BH):=
 (IM a0 (a1.length:Int)).bind λv1=>
 (getI a1 v1.1).bind λy2=>
 some (y2,v1.2)
def R3(a0:BH):Option (List Ag × BH):=
 (PS a0).bind λv1=>
 if(decide ((v1.1.length:Int)>0))then
  (IM v1.2 (v1.1.length:Int)).bind λv2=>
  (IM v2.2 30).bind λv3=>
  if(v3.1==0)then
   (getI v1.1 v2.1).bind λy4=>
   some ((v1.1.set (v2.1).toNat {y4 with ae:=([97]:AT)}),(⟨v3.2.bg,v3.2.dg,v3.2.bu⟩:BH))
  else
   if(v3.1==1)then
    (getI v1.1 v2.1).bind λy5=>
    (IL v3.2 ([0,100000,100001]:List Int)).bind λv6=>
    (getI y5.af 0).bind λy7=>
    some ((v1.1.set (v2.1).toNat {y5 with af:=(y5.af.set ((0:Int)).toNat {y7 with ab:=v6.1})}),(⟨v6.2.bg,v6.2.dg,v6.2.bu⟩:BH))
   else
    if(v3.1==2)then
     (getI v1.1 v2.1).bind λy8=>
     some ((v1.1.set (v2.1).toNat {y8 with af:=[]}),(⟨v3.2.bg,v3.2.dg,v3.2.bu⟩:BH))
    else
     some (v1.1,(⟨v3.2.bg,v3.2.dg,v3.2.bu⟩:BH))
 else
  some (v1.1,(⟨v1.2.bg,v1.2.dg,v1.2.bu⟩:BH))
def Si(a0:List Int):Option (List Ag × Int × Int):=
 (PS (⟨a0,0,0⟩:BH)).bind λv1=>
 (M7 v1.2 8).bind λv2=>
 if v2.1 then
  (R3 v2.2).bind λv3=>
  (IL (⟨v3.2.bg,v3.2.dg,v3.2.bu⟩:BH) ([0,0,1,5,10,(-1)]:List Int)).bind λv4=>
  (IL v4.2 ([100000,20,7,v4.1,100001,0]:List Int)).bind λv5=>
  some (v3.1,v4.1,v5.1)
 else
  (IL (⟨v2.2.bg,v2.2.dg,v2.2.bu⟩:BH) ([0,0,1,5,10,(-1)]:List Int)).bind λv6=>
  (IL v6.2 ([100000,20,7,v6.1,100001,0]:List Int)).bind λv7=>
  some (v1.1,v6.1,v7.1)
def L9(a0 a1 a2:Int):Option (Bool):=
 some ((decide (a0>=a1))&&(decide (a0<=a2)))
def No(a0:Int):Option (Bool):=
 (L9 a0 1 100000).bind λv1=>
 some v1
def Wm(a0:Int):Option (Bool):=
 some (((decide (a0>=97))&&(decide (a0<=122)))||((decide (a0>=48))&&(decide (a0<=57))))
def Wl(a0:AT)(a1:Int):Option (Int):=
 (R4 a0 a1).bind λv1=>
 some v1
def Wi(a0 a1:AT)(v1:Int):Option ((Int) ⊕ Option (Bool)):=
 if(decide (v1<(a0.length:Int)))then
  (getI a0 v1).bind λy2=>
  (Wm (y2.toNat:Int)).bind λv3=>
  if v3 then
   some (.inl (IntKind.i64.wrap (v1+1)))
  else
   (Wl a1 (y2.toNat:Int)).bind λv4=>
   if(decide (v4<0))then
    some (.inr (some false))
   else
    some (.inl (IntKind.i64.wrap (v1+1)))
 else
  some (.inr (some true))
def Qe(a0 a1:AT):Option (Bool):=
 Bi (λs:Int=>Wi a0 a1 s) 0
def Sz(a0:AT):Option (Bool):=
 if(decide ((a0.length:Int)<=24))then
  (Qe a0 ([46,45,44,95]:AT)).bind λv1=>
  some v1
 else
  some false
def Nc(a0:AT)(a1:Bool):Option (Bool):=
 (Sz a0).bind λv1=>
 some (v1&&(!(a1&&(a0 !=([]:AT)))))
def Wr(a0:Ag):Option (Bool):=
 (L9 (a0.af.length:Int) 1 16).bind λv1=>
 some v1
def L3(a0:Ag)(v2:Int):Option ((Int) ⊕ Option (Bool)):=
 if(decide (v2<(a0.af.length:Int)))then
  (getI a0.af v2).bind λy3=>
  (No y3.ab).bind λv4=>
  if v4 then
   (Nc y3.ar y3.al).bind λv5=>
   if(decide (v2>0))then
    if v5 then
     (getI a0.af (IntKind.i64.wrap (v2-1))).bind λy6=>
     if(decide (y3.ab<=y6.ab))then
      some (.inr (some false))
     else
      some (.inl (IntKind.i64.wrap (v2+1)))
    else
     some (.inr (some false))
   else
    if((!v5)||false)then
     some (.inr (some false))
    else
     some (.inl (IntKind.i64.wrap (v2+1)))
  else
   some (.inr (some false))
 else
  some (.inr (Wr a0))
def Sw(a0:Ag):Option (Bool):=
 Bi (λs:Int=>L3 a0 s) 0
def P5(a0:AT):Option (Bool):=
 (L9 (a0.length:Int) 1 12).bind λv1=>
 if v1 then
  (Qe a0 ([46,47]:AT)).bind λv2=>
  some v2
 else
  some false
def Wk(a0:List (AT))(v1:Int):Option ((Int) ⊕ Option (Bool)):=
 if(decide (v1<(a0.length:Int)))then
  (getI a0 v1).bind λy2=>
  (P5 y2).bind λv3=>
  if(decide (v1>0))then
   if v3 then
    (getI a0 (IntKind.i64.wrap (v1-1))).bind λy4=>
    if(Op.bytesLess y2 y4||y2==y4)then
     some (.inr (some false))
    else
     some (.inl (IntKind.i64.wrap (v1+1)))
   else
    some (.inr (some false))
  else
   if((!v3)||false)then
    some (.inr (some false))
   else
    some (.inl (IntKind.i64.wrap (v1+1)))
 else
  some (.inr (some true))
def Qc(a0:List (AT)):Option (Bool):=
 Bi (λs:Int=>Wk a0 s) 0
def R5(a0:List Ag)(v1:List (AT)):Option (Bool):=
 if(decide ((a0.length:Int)<=24))then
  (Qc v1).bind λv2=>
  some v2
 else
  some false
def P1(a0:List Ag)(v3:Int)(v4:List (AT)):Option ((Int × List (AT)) ⊕ Option (Bool)):=
 if(decide (v3<(a0.length:Int)))then
  (getI a0 v3).bind λy5=>
  (Sw y5).bind λv6=>
  if(!v6)then
   some (.inr (some false))
  else
   req ((((v4).length:Int)+(([y5.ae]:List (AT)).length:Int))*16<=140737488355328/\((v4).length:Int)+(([y5.ae]:List (AT)).length:Int)<=140737488355328)<|
   some (.inl ((IntKind.i64.wrap (v3+1)),(v4++ [y5.ae])))
 else
  some (.inr (R5 a0 v4))
def Qb(a0:List Ag):Option (Bool):=
 Bi (λs:Int × List (AT)=>P1 a0 s.1 s.2) (0,[])
def KH(a0:Int):Option (Bool):=
 (L9 a0 0 100000).bind λv1=>
 some v1
def Nk(a0:List Ag)(a1 v1:Int)(v2:List Aw):Option ((Int × List Aw) ⊕ Option (List Aw)):=
 if(decide (v1<(a0.length:Int)))then
  (getI a0 v1).bind λy3=>
  (Sl y3 a1).bind λv4=>
  if v4.2 then
   req ((((v2).length:Int)+(([(⟨y3.ae,v4.1,false⟩:Aw)]:List Aw).length:Int))*40<=140737488355328/\((v2).length:Int)+(([(⟨y3.ae,v4.1,false⟩:Aw)]:List Aw).length:Int)<=140737488355328)<|
   some (.inl ((IntKind.i64.wrap (v1+1)),(v2++ [(⟨y3.ae,v4.1,false⟩:Aw)])))
  else
   some (.inl ((IntKind.i64.wrap (v1+1)),v2))
 else
  some (.inr (some v2))
def SA(a0:List Ag)(a1:Int):Option (List Aw):=
 Bi (λs:Int × List Aw=>Nk a0 a1 s.1 s.2) (0,[])
def Ql(a0:List Ag)(a1:Int):Option (Dc × Bool):=
 (Qb a0).bind λv1=>
 if v1 then
  (KH a1).bind λv2=>
  if(!v2)then
   some ((⟨0,[]⟩:Dc),false)
  else
   (SA a0 a1).bind λv3=>
   some ((⟨a1,v3⟩:Dc),true)
 else
  some ((⟨0,[]⟩:Dc),false)
def P8(a0:Int):Option (Bool):=
 some (a0 !=a0)
def P2(a0 a1:Int):Option (Int):=
 (P8 a0).bind λv1=>
 (P8 a1).bind λv2=>
 if v1 then
  if v2 then
   some 0
  else
   some (-1)
 else
  if v2 then
   some 1
  else
   if(decide (a0<a1))then
    some (-1)
   else
    if(decide (a0>a1))then
     some 1
    else
     some 0
def P0(a0:AT):Option (Bool):=
 some (a0 !=a0)
def PR(a0 a1:AT):Option (Int):=
 (P0 a0).bind λv1=>
 (P0 a1).bind λv2=>
 if v1 then
  if v2 then
   some 0
  else
   some (-1)
 else
  if v2 then
   some 1
  else
   if(Op.bytesLess a0 a1)then
    some (-1)
   else
    if(!(Op.bytesLess a0 a1||a0==a1))then
     some 1
    else
     some 0
def P9(a0:List Int)(v1:Int):Option ((Int) ⊕ Option (Int)):=
 if(decide (v1<(a0.length:Int)))then
  (getI a0 v1).bind λy2=>
  if(y2 !=0)then
   some (.inr (some y2))
  else
   some (.inl (IntKind.i64.wrap (v1+1)))
 else
  some (.inr (some 0))
def S2(a0:List Int):Option (Int):=
 Bi (λs:Int=>P9 a0 s) 0
def R7(a0 a1:An):Option (Int):=
 (P2 a0.ab a1.ab).bind λv1=>
 (P2 a0.aj a1.aj).bind λv2=>
 (PR a0.ae a1.ae).bind λv3=>
 (S2 ([v1,v2,v3]:List Int)).bind λv4=>
 some v4
def Wv(v1:List An):Option (List An):=
 (S9 46 [] v1).bind λv2=>
 some v2.2
def Wx(v3:Int)(v6:List An):Option ((Int × List An) ⊕ Option (List An)):=
 some (.inl ((IntKind.i64.wrap (v3+1)),v6))
def Sr(a1 a2:Int)(a3 v3:Int)(y5:Ag)(v7:Int)(v8:List An):Option ((Int × List An) ⊕ Option ((Int × List An) ⊕ Option (List An))):=
 if(decide (v7<(y5.af.length:Int)))then
  (getI y5.af v7).bind λy9=>
  if((decide (y9.ab>a2))&&(decide (y9.ab<=a3)))then
   req ((((v8).length:Int)+(([(⟨y9.ab,a1,y5.ae,y9.ar,y9.al⟩:An)]:List An).length:Int))*56<=140737488355328/\((v8).length:Int)+(([(⟨y9.ab,a1,y5.ae,y9.ar,y9.al⟩:An)]:List An).length:Int)<=140737488355328)<|
   some (.inl ((IntKind.i64.wrap (v7+1)),(v8++ [(⟨y9.ab,a1,y5.ae,y9.ar,y9.al⟩:An)])))
  else
   some (.inl ((IntKind.i64.wrap (v7+1)),v8))
 else
  some (.inr (Wx v3 v8))
def Sh(a0:NY)(a1 a2:Int)(a3 v3:Int)(v4:List An):Option ((Int × List An) ⊕ Option (List An)):=
 if(decide (v3<(a0.bw.length:Int)))then
  (getI a0.bw v3).bind λy5=>
  Bi (λs:Int × List An=>Sr a1 a2 a3 v3 y5 s.1 s.2) (0,v4)
 else
  some (.inr (Wv v4))
def SF(a0:NY)(a1 a2 a3:Int):Option (List An):=
 Bi (λs:Int × List An=>Sh a0 a1 a2 a3 s.1 s.2) (0,[])
def Ws(a0:List An):Option (Bool):=
 some (decide ((a0.length:Int)<=400))
def L4(a0:List An)(v1:Int):Option ((Int) ⊕ Option (Bool)):=
 if(decide (v1<(a0.length:Int)))then
  if(decide (v1>0))then
   (getI a0 (IntKind.i64.wrap (v1-1))).bind λy2=>
   (getI a0 v1).bind λy3=>
   (R7 y2 y3).bind λv4=>
   if(decide (v4>=0))then
    some (.inr (some false))
   else
    some (.inl (IntKind.i64.wrap (v1+1)))
  else
   some (.inl (IntKind.i64.wrap (v1+1)))
 else
  some (.inr (Ws a0))
def S4(a0:List An):Option (Bool):=
 Bi (λs:Int=>L4 a0 s) 0
def WB(a0:Int):Option (Bool):=
 (L9 a0 0 3).bind λv1=>
 some v1
def Sf(a0:An):Option (Bool):=
 (No a0.ab).bind λv1=>
 if v1 then
  (WB a0.aj).bind λv2=>
  if v2 then
   (P5 a0.ae).bind λv3=>
   if v3 then
    (Nc a0.ar a0.al).bind λv4=>
    some v4
   else
    some false
  else
   some false
 else
  some false
def Ww(a0:An):Option (Bool):=
 (Sf a0).bind λv1=>
 some (!v1)
def Sb(a0:List An):Option (Bool):=
 (S4 a0).bind λv1=>
 if v1 then
  (Hp a0 (λy0_=>Ww y0_)).bind λv2=>
  some (!v2)
 else
  some false
def Wt(a0:An)(a1:CU):Option (Bool):=
 some (((a0.aj !=0)||(decide (a0.ab<=a1.aw)))||(decide (a0.ab>a1.cz)))
def Ma(a0:CU):Option (Bool):=
 (KH a0.aw).bind λv1=>
 if v1 then
  (KH a0.cz).bind λv2=>
  if v2 then
   if(decide (a0.aw<=a0.cz))then
    if(decide ((a0.au.length:Int)<=60))then
     (Sb a0.au).bind λv3=>
     if v3 then
      (Hp a0.au (λy0_=>Wt y0_ a0)).bind λv4=>
      some (!v4)
     else
      some false
    else
     some false
   else
    some false
  else
   some false
 else
  some false
def WN(a0:CU):Option (CU × Bool):=
 (Ma a0).bind λv1=>
 if(!v1)then
  some ((⟨0,0,[]⟩:CU),false)
 else
  some (a0,true)
def Ss(a0:List Ag)(a1 a2:Int):Option (CU × Bool):=
 (Qb a0).bind λv1=>
 if(!v1)then
  some ((⟨0,0,[]⟩:CU),false)
 else
  (SF (⟨0,a0,[],[]⟩:NY) 0 a1 a2).bind λv2=>
  (WN (⟨a1,a2,v2⟩:CU)).bind λv3=>
  some (v3.1,v3.2)
def WH(a0:Int):Option (Bool):=
 (IN a0 0 100000).bind λv1=>
 some v1
def Nd(a0:Ag)(a1:Int)(v1:Bool)(v2 v3:Int)(v4:AT)(v5:Bool):Option ((Bool × Int × Int × AT × Bool) ⊕ Option (BJ × Bool)):=
 if(decide (v2<(a0.af.length:Int)))then
  (getI a0.af v2).bind λy6=>
  if(decide (y6.ab<=a1))then
   some (.inl (true,(IntKind.i64.wrap (v2+1)),y6.ab,y6.ar,y6.al))
  else
   some (.inl (v1,(IntKind.i64.wrap (v2+1)),v3,v4,v5))
 else
  some (.inr (some ((⟨v3,v4,v5⟩:BJ),v1)))
def SS(a0:Ag)(a1:Int):Option (BJ × Bool):=
 Bi (λs:Bool × Int × Int × AT × Bool=>Nd a0 a1 s.1 s.2.1 s.2.2.1 s.2.2.2.1 s.2.2.2.2) (false,0,0,([]:AT),false)
def Na(a0:List Ag)(a1:Int)(v1:List Aw)(v2:Int):Option ((List Aw × Int) ⊕ Option (List Aw)):=
 if(decide (v2<(a0.length:Int)))then
  (getI a0 v2).bind λy3=>
  (SS y3 a1).bind λv4=>
  if(v4.2&&(!v4.1.al))then
   req ((((v1).length:Int)+(([(⟨y3.ae,v4.1.ar,false⟩:Aw)]:List Aw).length:Int))*40<=140737488355328/\((v1).length:Int)+(([(⟨y3.ae,v4.1.ar,false⟩:Aw)]:List Aw).length:Int)<=140737488355328)<|
   some (.inl ((v1++ [(⟨y3.ae,v4.1.ar,false⟩:Aw)]),(IntKind.i64.wrap (v2+1))))
  else
   some (.inl (v1,(IntKind.i64.wrap (v2+1))))
 else
  some (.inr (some v1))
def SO(a0:List Ag)(a1:Int):Option (List Aw):=
 Bi (λs:List Aw × Int=>Na a0 a1 s.1 s.2) ([],0)
def WA(a0:List Ag)(a1:Int):Option (List Aw × Bool):=
 (Nn a0).bind λv1=>
 if v1 then
  (WH a1).bind λv2=>
  if(!v2)then
   some ([],false)
  else
   (SO a0 a1).bind λv3=>
   some (v3,true)
 else
  some ([],false)
def S0(a0:List Ag)(a1:Int):Option (Dc × Bool):=
 (WA a0 a1).bind λv1=>
 if(!v1.2)then
  some ((⟨0,[]⟩:Dc),false)
 else
  some ((⟨a1,v1.1⟩:Dc),true)
def Nh(a0 a1:An):Option (Bool):=
 if(a0.ab !=a1.ab)then
  some (decide (a0.ab<a1.ab))
 else
  if(a0.aj !=a1.aj)then
   some (decide (a0.aj<a1.aj))
  else
   some (Op.bytesLess a0.ae a1.ae)
def Sj(a0:List An)(a1:An)(v1:Int):Option (List An × Bool):=
 if(decide (v1<(a0.length:Int)))then
  (getI a0 v1).bind λy2=>
  (Nh a1 y2).bind λv3=>
  if(!v3)then
   some (a0,(y2.ab==a1.ab&&(y2.aj==a1.aj&&(y2.ae==a1.ae&&(y2.ar==a1.ar&&(y2.al==a1.al))))))
  else
   req (0<=(0:Int)/\(0:Int)<=v1/\v1<=(a0.length:Int))<|
   req (((([]:List An).length:Int)+(((A8 a0 0 v1)).length:Int))*56<=140737488355328/\(([]:List An).length:Int)+(((A8 a0 0 v1)).length:Int)<=140737488355328)<|
   req (((((A8 a0 0 v1)).length:Int)+(([a1]:List An).length:Int))*56<=140737488355328/\(((A8 a0 0 v1)).length:Int)+(([a1]:List An).length:Int)<=140737488355328)<|
   req (0<=v1/\v1<=(a0.length:Int)/\(a0.length:Int)<=(a0.length:Int))<|
   req ((((((A8 a0 0 v1)++ [a1])).length:Int)+(((A8 a0 v1 (a0.length:Int))).length:Int))*56<=140737488355328/\((((A8 a0 0 v1)++ [a1])).length:Int)+(((A8 a0 v1 (a0.length:Int))).length:Int)<=140737488355328)<|
   some ((((A8 a0 0 v1)++ [a1])++(A8 a0 v1 (a0.length:Int))),true)
 else
  req (0<=(0:Int)/\(0:Int)<=v1/\v1<=(a0.length:Int))<|
  req (((([]:List An).length:Int)+(((A8 a0 0 v1)).length:Int))*56<=140737488355328/\(([]:List An).length:Int)+(((A8 a0 0 v1)).length:Int)<=140737488355328)<|
  req (((((A8 a0 0 v1)).length:Int)+(([a1]:List An).length:Int))*56<=140737488355328/\(((A8 a0 0 v1)).length:Int)+(([a1]:List An).length:Int)<=140737488355328)<|
  req (0<=v1/\v1<=(a0.length:Int)/\(a0.length:Int)<=(a0.length:Int))<|
  req ((((((A8 a0 0 v1)++ [a1])).length:Int)+(((A8 a0 v1 (a0.length:Int))).length:Int))*56<=140737488355328/\((((A8 a0 0 v1)++ [a1])).length:Int)+(((A8 a0 v1 (a0.length:Int))).length:Int)<=140737488355328)<|
  some ((((A8 a0 0 v1)++ [a1])++(A8 a0 v1 (a0.length:Int))),true)
def PU(a0:List An)(a1:An)(v4:Int):Option ((Int) ⊕ Option (List An × Bool)):=
 if(decide (v4<(a0.length:Int)))then
  (getI a0 v4).bind λy5=>
  (Nh y5 a1).bind λv6=>
  if v6 then
   some (.inl (IntKind.i64.wrap (v4+1)))
  else
   some (.inr (Sj a0 a1 v4))
 else
  some (.inr (Sj a0 a1 v4))
def P3(a0:List An)(a1:An):Option (List An × Bool):=
 Bi (λs:Int=>PU a0 a1 s) 0
def WD(v2:Int)(v3:List An):Option ((List An × Int) ⊕ Option (List An)):=
 some (.inl (v3,(IntKind.i64.wrap (v2+1))))
def SH(a0:List Ag)(a1 a2:Int)(a3 v2:Int)(v4:List An)(v5:Int):Option ((List An × Int) ⊕ Option ((List An × Int) ⊕ Option (List An))):=
 (getI a0 v2).bind λy6=>
 if(decide (v5<(y6.af.length:Int)))then
  (getI y6.af v5).bind λy7=>
  if((decide (y7.ab>a2))&&(decide (y7.ab<=a3)))then
   (P3 v4 (⟨y7.ab,a1,y6.ae,y7.ar,y7.al⟩:An)).bind λv8=>
   some (.inl (v8.1,(IntKind.i64.wrap (v5+1))))
  else
   some (.inl (v4,(IntKind.i64.wrap (v5+1))))
 else
  some (.inr (WD v2 v4))
def SI(a0:List Ag)(a1 a2 a3:Int)(v1:List An)(v2:Int):Option ((List An × Int) ⊕ Option (List An)):=
 if(decide (v2<(a0.length:Int)))then
  Bi (λs:List An × Int=>SH a0 a1 a2 a3 v2 s.1 s.2) (v1,0)
 else
  some (.inr (some v1))
def SM(a0:List Ag)(a1 a2 a3:Int):Option (List An):=
 Bi (λs:List An × Int=>SI a0 a1 a2 a3 s.1 s.2) ([],0)
def SE(a0:An):Option (Bool):=
 (IN a0.ab 1 100000).bind λv1=>
 if v1 then
  (IN a0.aj 0 3).bind λv2=>
  if v2 then
   (P4 a0.ae a0.ar a0.al).bind λv3=>
   some v3
  else
   some false
 else
  some false
def PX(a0:List An):Option (Bool):=
 some (decide ((a0.length:Int)<=400))
def G3(a0:List An)(v1:Int):Option ((Int) ⊕ Option (Bool)):=
 if((decide (v1<(a0.length:Int)))&&(decide (v1<=400)))then
  (getI a0 v1).bind λy2=>
  (SE y2).bind λv3=>
  if(decide (v1>0))then
   if v3 then
    (getI a0 (IntKind.i64.wrap (v1-1))).bind λy4=>
    (Nh y4 y2).bind λv5=>
    if(!v5)then
     some (.inr (some false))
    else
     some (.inl (IntKind.i64.wrap (v1+1)))
   else
    some (.inr (some false))
  else
   if((!v3)||false)then
    some (.inr (some false))
   else
    some (.inl (IntKind.i64.wrap (v1+1)))
 else
  some (.inr (PX a0))
def SB(a0:List An):Option (Bool):=
 Bi (λs:Int=>G3 a0 s) 0
def Sq(a0:CU):Option (Bool):=
 (IN a0.aw 0 a0.cz).bind λv1=>
 if v1 then
  if(decide (a0.cz<=100000))then
   if(decide ((a0.au.length:Int)<=60))then
    (SB a0.au).bind λv2=>
    some v2
   else
    some false
  else
   some false
 else
  some false
def Sg(a0:CU)(v3:Int):Option ((Int) ⊕ Option (Bool)):=
 if(decide (v3<(a0.au.length:Int)))then
  (getI a0.au v3).bind λy4=>
  if(y4.aj !=0)then
   some (.inr (some false))
  else
   (IN y4.ab (IntKind.i64.wrap (a0.aw+1)) a0.cz).bind λv5=>
   if(!v5)then
    some (.inr (some false))
   else
    some (.inl (IntKind.i64.wrap (v3+1)))
 else
  some (.inr (Sq a0))
def P6(a0:CU):Option (Bool):=
 Bi (λs:Int=>Sg a0 s) 0
def WI(a0:CU):Option (CU × Bool):=
 (P6 a0).bind λv1=>
 if(!v1)then
  some ((⟨0,0,[]⟩:CU),false)
 else
  some (a0,true)
def S5(a0:List Ag)(a1 a2:Int):Option (CU × Bool):=
 (Nn a0).bind λv1=>
 if(!v1)then
  some ((⟨0,0,[]⟩:CU),false)
 else
  (SM a0 0 a1 a2).bind λv2=>
  (WI (⟨a1,a2,v2⟩:CU)).bind λv3=>
  some (v3.1,v3.2)
def Qd(a0 a1:List Aw)(v1:Int):Option ((Int) ⊕ Option (Bool)):=
 if(decide (v1<(a0.length:Int)))then
  (getI a0 v1).bind λy2=>
  (getI a1 v1).bind λy3=>
  if(!(y2.ae==y3.ae&&(y2.ar==y3.ar&&(y2.al==y3.al))))then
   some (.inr (some false))
  else
   some (.inl (IntKind.i64.wrap (v1+1)))
 else
  some (.inr (some true))
def SU(a0 a1:List Aw):Option (Bool):=
 if((a0.length:Int) !=(a1.length:Int))then
  some false
 else
  Bi (λs:Int=>Qd a0 a1 s) 0
def Qj(a0 a1:Dc):Option (Bool):=
 if(a0.ab==a1.ab)then
  (SU a0.bj a1.bj).bind λv1=>
  some v1
 else
  some false
def Qa(a0 a1:List An)(v1:Int):Option ((Int) ⊕ Option (Bool)):=
 if(decide (v1<(a0.length:Int)))then
  (getI a0 v1).bind λy2=>
  (getI a1 v1).bind λy3=>
  if(!(y2.ab==y3.ab&&(y2.aj==y3.aj&&(y2.ae==y3.ae&&(y2.ar==y3.ar&&(y2.al==y3.al))))))then
   some (.inr (some false))
  else
   some (.inl (IntKind.i64.wrap (v1+1)))
 else
  some (.inr (some true))
def Sx(a0 a1:List An):Option (Bool):=
 if((a0.length:Int) !=(a1.length:Int))then
  some false
 else
  Bi (λs:Int=>Qa a0 a1 s) 0
def SX(a0 a1:CU):Option (Bool):=
 if(a0.aw==a1.aw)then
  if(a0.cz==a1.cz)then
   (Sx a0.au a1.au).bind λv1=>
   some v1
  else
   some false
 else
  some false
def M8(a0:List Aw)(v1:Int)(v2:List (AT)):Option ((Int × List (AT)) ⊕ Option (List (AT))):=
 if(decide (v1<(a0.length:Int)))then
  (getI a0 v1).bind λy3=>
  req ((((v2).length:Int)+(([y3.ae]:List (AT)).length:Int))*16<=140737488355328/\((v2).length:Int)+(([y3.ae]:List (AT)).length:Int)<=140737488355328)<|
  some (.inl ((IntKind.i64.wrap (v1+1)),(v2++ [y3.ae])))
 else
  some (.inr (some v2))
def Sm(a0:List Aw):Option (List (AT)):=
 Bi (λs:Int × List (AT)=>M8 a0 s.1 s.2) (0,[])
def R8(a0:Aw):Option (Bool):=
 (Nc a0.ar a0.al).bind λv1=>
 some (!v1)
def Sp(a0:List Aw):Option (Bool):=
 if(decide ((a0.length:Int)<=24))then
  (Sm a0).bind λv1=>
  (Qc v1).bind λv2=>
  if v2 then
   (Hp a0 (λy0_=>R8 y0_)).bind λv3=>
   some (!v3)
  else
   some false
 else
  some false
def Se(a0:Aw):Option (Bool):=
 some a0.al
def S3(a0:List Aw):Option (Bool):=
 (Sp a0).bind λv1=>
 if v1 then
  (Hp a0 (λy0_=>Se y0_)).bind λv2=>
  some (!v2)
 else
  some false
def Nb(a0:Dc):Option (Bool):=
 (KH a0.ab).bind λv1=>
 if v1 then
  (S3 a0.bj).bind λv2=>
  some (v2&&((decide (a0.ab>0))||((a0.bj.length:Int)==0)))
 else
  some false
def Wc(xs:List Aw):Option (List Aw):=Yi 40 xs
def We(a0:List Aw)(a1:AT)(a2:Aw->(AT)->Option Int)(v1:Int):Option (Int × Bool):=
 if(decide (v1<(a0.length:Int)))then
  (getI a0 v1).bind λy2=>
  (a2 y2 a1).bind λv3=>
  some (v1,(v3==0))
 else
  some (v1,false)
def M9(a0:List Aw)(a1:AT)(a2:Aw->(AT)->Option Int)(v4 v5:Int):Option ((Int × Int) ⊕ Option (Int × Bool)):=
 if(decide (v4<v5))then
  (getI a0 (IntKind.i64.wrap (Int.fdiv (IntKind.u64.wrap (IntKind.i64.wrap (v4+v5))) (2^(min ((1:Int)).toNat (IntKind.bits .u64)))))).bind λy6=>
  (a2 y6 a1).bind λv7=>
  if(decide (v7<0))then
   some (.inl ((IntKind.i64.wrap ((IntKind.i64.wrap (Int.fdiv (IntKind.u64.wrap (IntKind.i64.wrap (v4+v5))) (2^(min ((1:Int)).toNat (IntKind.bits .u64)))))+1)),v5))
  else
   some (.inl (v4,(IntKind.i64.wrap (Int.fdiv (IntKind.u64.wrap (IntKind.i64.wrap (v4+v5))) (2^(min ((1:Int)).toNat (IntKind.bits .u64)))))))
 else
  some (.inr (We a0 a1 a2 v4))
def Wf(a0:List Aw)(a1:AT)(a2:Aw->(AT)->Option Int):Option (Int × Bool):=
 Bi (λs:Int × Int=>M9 a0 a1 a2 s.1 s.2) (0,(a0.length:Int))
def M6(a0:Aw)(a1:AT):Option (Int):=
 (PR a0.ae a1).bind λv1=>
 some v1
def Sk(a0:List Aw)(a1:AT):Option (Int × Bool):=
 (Wf a0 a1 (λy0_ y1_=>M6 y0_ y1_)).bind λv1=>
 some (v1.1,v1.2)
def SG(a0:List Aw)(a1:Aw):Option (List Aw):=
 (Sk a0 a1.ae).bind λv1=>
 if v1.2 then
  (getI a0 v1.1).bind λy2=>
  some (a0.set (v1.1).toNat a1)
 else
  (TK a0 v1.1 ([a1]:List Aw)).bind λv3=>
  some v3
def Wn(a0:Aw):Option (Bool):=
 some a0.al
def Wy(a1:CU)(v4:List Aw):Option (Dc × Bool):=
 (SJ v4 (λy0_=>Wn y0_)).bind λv5=>
 (Nb (⟨a1.cz,v5⟩:Dc)).bind λv6=>
 if(!v6)then
  some ((⟨0,[]⟩:Dc),false)
 else
  some ((⟨a1.cz,v5⟩:Dc),true)
def Nl(a1:CU)(v7:Int)(v8:List Aw):Option ((Int × List Aw) ⊕ Option (Dc × Bool)):=
 if(decide (v7<(a1.au.length:Int)))then
  (getI a1.au v7).bind λy9=>
  (SG v8 (⟨y9.ae,y9.ar,y9.al⟩:Aw)).bind λv10=>
  some (.inl ((IntKind.i64.wrap (v7+1)),v10))
 else
  some (.inr (Wy a1 v8))
def Sy(a0:Dc)(a1:CU):Option (Dc × Bool):=
 (Nb a0).bind λv1=>
 if v1 then
  (Ma a1).bind λv2=>
  if((!v2)||(a1.aw !=a0.ab))then
   some ((⟨0,[]⟩:Dc),false)
  else
   (Wc a0.bj).bind λv3=>
   Bi (λs:Int × List Aw=>Nl a1 s.1 s.2) (0,v3)
 else
  some ((⟨0,[]⟩:Dc),false)
def Sd(a0:List Int):Option (Bool):=
 (WX a0).bind λv1=>
 if v1 then
  some true
 else
  (Si a0).bind λv2=>
  (Ql v2.1 v2.2.1).bind λv3=>
  (Ss v2.1 v2.2.1 v2.2.2).bind λv4=>
  (S0 v2.1 v2.2.1).bind λv5=>
  (S5 v2.1 v2.2.1 v2.2.2).bind λv6=>
  if(v3.2 !=v5.2)then
   some false
  else
   if(v4.2 !=v6.2)then
    some false
   else
    (Qj v3.1 v5.1).bind λv7=>
    if v7 then
     (SX v4.1 v6.1).bind λv8=>
     if(!v8)then
      some false
     else
      if((!v3.2)||(!v4.2))then
       some true
      else
       (Ql v2.1 v2.2.2).bind λv9=>
       (Sy v3.1 v4.1).bind λv10=>
       if v9.2 then
        if v10.2 then
         (Qj v10.1 v9.1).bind λv11=>
         if v11 then
          (Nb v10.1).bind λv12=>
          if v12 then
           (Ma v4.1).bind λv13=>
           some v13
          else
           some false
         else
          some false
        else
         some false
       else
        some false
    else
     some false
def nZ:FS:=IK 44 [.v (.st 4), .v (.i .i64)] (.tu (.cons (.v .s) (.cons (.v .b) .nil))) (λx=>Sl x.1 x.2.1) λx r _ h=>oE x.1 x.2.1 r h
def nA:FS:=IK 119 [.v .s, .v (.i .u8)] (.v (.i .i64)) (λx=>R4 x.1 x.2.1) λx r _ h=>mZ x.1 x.2.1 r h
def mW:FS:=IK 45 [.v (.l (.st 0)), .fn [.st 0, .st 0] (.i .i64)] (.tu (.cons (.tu .nil) (.cons (.v (.l (.st 0))) .nil))) (λx=>S9 x.2.1.g x.2.1.caps x.1) λx r hp h=>pO h
def mX:FS:=IK 53 [.v (.l (.st 1)), .v (.i .i64), .v (.l (.st 1))] (.v (.l (.st 1))) (λx=>TK x.1 x.2.1 x.2.2.1) λx r hp h=>zT (t:=27) (it:=3) (el:=65) (K:=3) (by kernel_rfl) (λ_=>by kernel_rfl) vX h
def rD:FS:=AR 4 [.v (.l (.i .u8))] (.v .b) (λx=>WX x.1) [] []
def nL:FS:=AR 62 [.rf (.st 2)] (.tu (.cons (.v (.i .i64)) (.cons (.v (.st 2)) .nil))) (λx=>PZ x.1) [] [.inl]
def PY:FS:=AR 38 [.rf (.st 2), .v (.i .i64)] (.tu (.cons (.v (.i .i64)) (.cons (.v (.st 2)) .nil))) (λx=>IM x.1 x.2.1) [nL] [.inl]
def Wj:FS:=AR 16 [.rf (.st 2), .v (.i .i64)] (.tu (.cons (.v .b) (.cons (.v (.st 2)) .nil))) (λx=>M7 x.1 x.2.1) [PY] []
def nV:FS:=AR 110 [.rf (.st 2), .v (.l .s)] (.tu (.cons (.v .s) (.cons (.v (.st 2)) .nil))) (λx=>Sn x.1 x.2.1) [PY] []
def nJ:FS:=AR 90 [.rf (.st 2)] (.tu (.cons (.v .s) (.cons (.v (.st 2)) .nil))) (λx=>R6 x.1) [nV] []
def nC:FS:=AR 65 [.rf (.st 2), .v .s] (.tu (.cons (.v (.st 1)) (.cons (.v (.st 2)) .nil))) (λx=>Sa x.1 x.2.1) [Wj,nJ] []
def nD:FS:=AR 40 [.rf (.st 2)] (.tu (.cons (.v (.l (.st 1))) (.cons (.v (.st 2)) .nil))) (λx=>R9 x.1) [Wj,nC] [.sp [.l (.st 1), .i .i64, .l (.i .u8), .i .i64, .i .u64], .inl]
def pW:FS:=AR 63 [.v (.l (.st 4))] (.v (.l (.st 4))) (λx=>SY x.1) [] [.sp [.l (.st 4), .i .i64]]
def rE:FS:=AR 89 [.v (.l (.st 4)), .v .s] (.v (.i .i64)) (λx=>Ta x.1 x.2.1) [] [.sp [.i .i64]]
def pB:FS:=AR 64 [.v (.l (.st 4)), .v .s] (.v (.i .i64)) (λx=>SZ x.1 x.2.1) [rE] []
def Ns:FS:=AR 75 [.v (.i .i64), .v (.i .i64), .v (.i .i64)] (.v .b) (λx=>IN x.1 x.2.1 x.2.2.1) [] []
def pM:FS:=AR 77 [.v (.i .i64)] (.v .b) (λx=>S1 x.1) [Ns] []
def Z7:FS:=AR 107 [.v .s, .v .s] (.v .b) (λx=>P7 x.1 x.2.1) [] [.sp [.i .i64], .sp [.b, .i .i64]]
def aN:FS:=AR 79 [.v .s] (.v .b) (λx=>Qi x.1) [Ns,Z7] []
def rO:FS:=AR 106 [.v .s] (.v .b) (λx=>SQ x.1) [Z7] []
def Z5:FS:=AR 78 [.v .s, .v .s, .v .b] (.v .b) (λx=>P4 x.1 x.2.1 x.2.2.1) [aN,rO] []
def pC:FS:=AR 49 [.v (.st 4)] (.v .b) (λx=>Sv x.1) [aN,Ns,pM,Z5] [.sp [.i .i64]]
def WM:FS:=AR 25 [.v (.l (.st 4))] (.v .b) (λx=>Nn x.1) [pC] [.sp [.i .i64]]
def pR:FS:=AR 39 [.v (.l (.st 4)), .v (.l (.st 1)), .v (.i .i64)] (.tu (.cons (.v (.l (.st 4))) (.cons (.v .b) .nil))) (λx=>SL x.1 x.2.1 x.2.2.1) [pW,WM,pB] [.sp [.i .i64, .l (.st 4)], .inl, .sp [.i .i64]]
def ZT:FS:=AR 15 [.rf (.st 2)] (.tu (.cons (.v (.l (.st 4))) (.cons (.v (.st 2)) .nil))) (λx=>PS x.1) [PY,nD,pR] [.sp [.l (.st 4), .i .i64, .i .i64, .l (.i .u8), .i .i64, .i .u64], .inl]
def ZU:FS:=AR 18 [.rf (.st 2), .v (.l (.i .i64))] (.tu (.cons (.v (.i .i64)) (.cons (.v (.st 2)) .nil))) (λx=>IL x.1 x.2.1) [PY] []
def nE:FS:=AR 17 [.rf (.st 2)] (.tu (.cons (.v (.l (.st 4))) (.cons (.v (.st 2)) .nil))) (λx=>R3 x.1) [ZT,PY,ZU] [.inl]
def oF:FS:=AR 5 [.v (.l (.i .u8))] (.tu (.cons (.v (.l (.st 4))) (.cons (.v (.i .i64)) (.cons (.v (.i .i64)) .nil)))) (λx=>Si x.1) [ZT,Wj,nE,ZU] [.inl]
def Qk:FS:=AR 43 [.v (.i .i64), .v (.i .i64), .v (.i .i64)] (.v .b) (λx=>L9 x.1 x.2.1 x.2.2.1) [] []
def aB:FS:=AR 66 [.v (.i .i64)] (.v .b) (λx=>No x.1) [Qk] []
def nB:FS:=AR 111 [.v (.i .u8)] (.v .b) (λx=>Wm x.1) [] []
def nG:FS:=AR 112 [.v .s, .v (.i .u8)] (.v (.i .i64)) (λx=>Wl x.1 x.2.1) [nA] []
def Z3:FS:=AR 92 [.v .s, .v .s] (.v .b) (λx=>Qe x.1 x.2.1) [nB,nG] [.sp [.i .i64]]
def oY:FS:=AR 91 [.v .s] (.v .b) (λx=>Sz x.1) [Z3] []
def WE:FS:=AR 67 [.v .s, .v .b] (.v .b) (λx=>Nc x.1 x.2.1) [oY] []
def o6:FS:=AR 41 [.v (.st 4)] (.v .b) (λx=>Sw x.1) [Qk,aB,WE] [.sp [.i .i64]]
def Z6:FS:=AR 68 [.v .s] (.v .b) (λx=>P5 x.1) [Qk,Z3] []
def Z2:FS:=AR 42 [.v (.l .s)] (.v .b) (λx=>Qc x.1) [Z6] [.sp [.i .i64]]
def Z1:FS:=AR 19 [.v (.l (.st 4))] (.v .b) (λx=>Qb x.1) [Z2,o6] [.sp [.i .i64, .l .s]]
def WR:FS:=AR 20 [.v (.i .i64)] (.v .b) (λx=>KH x.1) [Qk] []
def oQ:FS:=AR 21 [.v (.l (.st 4)), .v (.i .i64)] (.v (.l (.st 1))) (λx=>SA x.1 x.2.1) [nZ] [.sp [.i .i64, .l (.st 1)], .inl]
def pN:FS:=AR 6 [.v (.l (.st 4)), .v (.i .i64)] (.tu (.cons (.v (.st 5)) (.cons (.v .b) .nil))) (λx=>Ql x.1 x.2.1) [Z1,WR,oQ] []
def nY:FS:=AR 104 [.v (.i .i64)] (.v .b) (λx=>P8 x.1) [] []
def nT:FS:=AR 73 [.v (.i .i64), .v (.i .i64)] (.v (.i .i64)) (λx=>P2 x.1 x.2.1) [nY] []
def nH:FS:=AR 105 [.v .s] (.v .b) (λx=>P0 x.1) [] []
def ZV:FS:=AR 74 [.v .s, .v .s] (.v (.i .i64)) (λx=>PR x.1 x.2.1) [nH] []
def qL:FS:=AR 72 [.v (.l (.i .i64))] (.v (.i .i64)) (λx=>S2 x.1) [] [.sp [.i .i64]]
def ZX:FS:=AR 46 [.v (.st 0), .v (.st 0)] (.v (.i .i64)) (λx=>R7 x.1 x.2.1) [nT,ZV,qL] []
def nM:FS:=L2 ZX λ_=>by kernel_rfl
def oV:FS:=AR 23 [.v (.st 8), .v (.i .i64), .v (.i .i64), .v (.i .i64)] (.v (.l (.st 0))) (λx=>SF x.1 x.2.1 x.2.2.1 x.2.2.2.1) [mW,nM] [.sp [.i .i64, .l (.st 0)], .sp [.i .i64, .l (.st 0)], .inl]
def qN:FS:=AR 58 [.v (.l (.st 0))] (.v .b) (λx=>S4 x.1) [ZX] [.sp [.i .i64]]
def mV:FS:=IK 61 [.v (.l (.st 0)), .fn [.st 0] .b] (.v (.i .i64)) (λx=>JC x.1 (λy=>x.2.1.φ (y,()))) λx r hp h=>MA (f:=61) (t:=Ua 5) (by kernel_rfl) (by kernel_rfl) (fQ (av:=(BU C6.av (.st 0))) (cn:=5) (λ_=>⟨_,rfl,rfl⟩) h (λy b hb=>hp.2.1 (y,()) b hb))
def ZQ:FS:=IK 36 [.v (.l (.st 0)), .fn [.st 0] .b] (.v .b) (λx=>Hp x.1 (λy=>x.2.1.φ (y,()))) λx r hp h=>MA (f:=36) (t:=T9 61) (by kernel_rfl) (by kernel_rfl) (fI h λr hr=>mV.ok x r hp hr)
def oO:FS:=AR 88 [.v (.i .i64)] (.v .b) (λx=>WB x.1) [Qk] []
def oJ:FS:=AR 60 [.v (.st 0)] (.v .b) (λx=>Sf x.1) [aB,oO,Z6,WE] []
def nN:FS:=AR 59 [.v (.st 0)] (.v .b) (λx=>Ww x.1) [oJ] []
def nO:FS:=L2 nN λ_=>by kernel_rfl
def oM:FS:=AR 35 [.v (.l (.st 0))] (.v .b) (λx=>Sb x.1) [qN,ZQ,nO] []
def nR:FS:=AR 37 [.v (.st 0), .rf (.st 9)] (.v .b) (λx=>Wt x.1 x.2.1) [] []
def nP:FS:=L2 nR λ_=>by kernel_rfl
def WC:FS:=AR 14 [.v (.st 9)] (.v .b) (λx=>Ma x.1) [WR,oM,ZQ,nP] []
def o9:FS:=AR 22 [.v (.st 9)] (.tu (.cons (.v (.st 9)) (.cons (.v .b) .nil))) (λx=>WN x.1) [WC] []
def qK:FS:=AR 7 [.v (.l (.st 4)), .v (.i .i64), .v (.i .i64)] (.tu (.cons (.v (.st 9)) (.cons (.v .b) .nil))) (λx=>Ss x.1 x.2.1 x.2.2.1) [Z1,oV,o9] []
def pL:FS:=AR 47 [.v (.i .i64)] (.v .b) (λx=>WH x.1) [Ns] []
def qW:FS:=AR 76 [.v (.st 4), .v (.i .i64)] (.tu (.cons (.v (.st 3)) (.cons (.v .b) .nil))) (λx=>SS x.1 x.2.1) [] [.sp [.b, .i .i64, .i .i64, .s, .b], .inl]
def rA:FS:=AR 48 [.v (.l (.st 4)), .v (.i .i64)] (.v (.l (.st 1))) (λx=>SO x.1 x.2.1) [qW] [.sp [.l (.st 1), .i .i64], .inl]
def oS:FS:=AR 24 [.v (.l (.st 4)), .v (.i .i64)] (.tu (.cons (.v (.l (.st 1))) (.cons (.v .b) .nil))) (λx=>WA x.1 x.2.1) [WM,pL,rA] []
def pP:FS:=AR 8 [.v (.l (.st 4)), .v (.i .i64)] (.tu (.cons (.v (.st 5)) (.cons (.v .b) .nil))) (λx=>S0 x.1 x.2.1) [oS] []
def ZY:FS:=AR 81 [.v (.st 0), .v (.st 0)] (.v .b) (λx=>Nh x.1 x.2.1) [] []
def pF:FS:=AR 51 [.v (.l (.st 0)), .v (.st 0)] (.tu (.cons (.v (.l (.st 0))) (.cons (.v .b) .nil))) (λx=>P3 x.1 x.2.1) [ZY] [.sp [.i .i64]]
def rC:FS:=AR 27 [.v (.l (.st 4)), .v (.i .i64), .v (.i .i64), .v (.i .i64)] (.v (.l (.st 0))) (λx=>SM x.1 x.2.1 x.2.2.1 x.2.2.2.1) [pF] [.sp [.l (.st 0), .i .i64], .sp [.l (.st 0), .i .i64], .inl]
def oT:FS:=AR 108 [.v (.st 0)] (.v .b) (λx=>SE x.1) [Ns,Z5] []
def oR:FS:=AR 80 [.v (.l (.st 0))] (.v .b) (λx=>SB x.1) [oT,ZY] [.sp [.i .i64]]
def oX:FS:=AR 50 [.v (.st 9)] (.v .b) (λx=>P6 x.1) [Ns,oR] [.sp [.i .i64]]
def pY:FS:=AR 26 [.v (.st 9)] (.tu (.cons (.v (.st 9)) (.cons (.v .b) .nil))) (λx=>WI x.1) [oX] []
def qH:FS:=AR 9 [.v (.l (.st 4)), .v (.i .i64), .v (.i .i64)] (.tu (.cons (.v (.st 9)) (.cons (.v .b) .nil))) (λx=>S5 x.1 x.2.1 x.2.2.1) [WM,rC,pY] []
def qX:FS:=AR 28 [.v (.l (.st 1)), .v (.l (.st 1))] (.v .b) (λx=>SU x.1 x.2.1) [] [.sp [.i .i64]]
def rJ:FS:=AR 10 [.v (.st 5), .v (.st 5)] (.v .b) (λx=>Qj x.1 x.2.1) [qX] []
def o8:FS:=AR 29 [.v (.l (.st 0)), .v (.l (.st 0))] (.v .b) (λx=>Sx x.1 x.2.1) [] [.sp [.i .i64]]
def qO:FS:=AR 11 [.v (.st 9), .v (.st 9)] (.v .b) (λx=>SX x.1 x.2.1) [o8] []
def oD:FS:=AR 86 [.v (.l (.st 1))] (.v (.l .s)) (λx=>Sm x.1) [] [.sp [.i .i64, .l .s]]
def ZS:FS:=IK 54 [.v (.l (.st 1)), .fn [.st 1] .b] (.v (.i .i64)) (λx=>JC x.1 (λy=>x.2.1.φ (y,()))) λx r hp h=>MA (f:=54) (t:=Ua 3) (by kernel_rfl) (by kernel_rfl) (fQ (av:=(BU C6.av (.st 1))) (cn:=3) (λ_=>⟨_,rfl,rfl⟩) h (λy b hb=>hp.2.1 (y,()) b hb))
def ZR:FS:=IK 56 [.v (.l (.st 1)), .fn [.st 1] .b] (.v .b) (λx=>Hp x.1 (λy=>x.2.1.φ (y,()))) λx r hp h=>MA (f:=56) (t:=T9 54) (by kernel_rfl) (by kernel_rfl) (fI h λr hr=>ZS.ok x r hp hr)
def nF:FS:=AR 87 [.v (.st 1)] (.v .b) (λx=>R8 x.1) [WE] []
def nK:FS:=L2 nF λ_=>by kernel_rfl
def nS:FS:=AR 55 [.v (.l (.st 1))] (.v .b) (λx=>Sp x.1) [oD,Z2,ZR,nK] []
def oH:FS:=AR 57 [.v (.st 1)] (.v .b) (λx=>Se x.1) [] []
def nX:FS:=L2 oH λ_=>by kernel_rfl
def qJ:FS:=AR 34 [.v (.l (.st 1))] (.v .b) (λx=>S3 x.1) [nS,ZR,nX] []
def Z0:FS:=AR 13 [.v (.st 5)] (.v .b) (λx=>Nb x.1) [WR,qJ] []
def mY:FS:=IK 30 [.v (.l (.st 1))] (.v (.l (.st 1))) (λx=>Wc x.1) λx r hp h=>MA (f:=30) (t:=Yu 40 3) (by kernel_rfl) (by kernel_rfl) (tJ (bytes:=40) (sz:=3) (av:=(BU C6.av (.st 1))) (λx=>⟨TV _ x,Th (by kernel_rfl) x⟩) h)
def mT:FS:=AR 82 [.v (.l (.st 1)), .v .s, .fn [.st 1, .s] (.i .i64)] (.tu (.cons (.v (.i .i64)) (.cons (.v .b) .nil))) (λx=>Wf x.1 x.2.1 (λy0 y1=>x.2.2.1.φ (y0,y1,()))) [] [.sp [.i .i64, .i .i64]]
def nU:FS:=AR 83 [.v (.st 1), .v .s] (.v (.i .i64)) (λx=>M6 x.1 x.2.1) [ZV] []
def nI:FS:=L2 nU λ_=>by kernel_rfl
def oA:FS:=AR 52 [.v (.l (.st 1)), .v .s] (.tu (.cons (.v (.i .i64)) (.cons (.v .b) .nil))) (λx=>Sk x.1 x.2.1) [mT,nI] []
def oI:FS:=AR 31 [.v (.l (.st 1)), .v (.st 1)] (.v (.l (.st 1))) (λx=>SG x.1 x.2.1) [oA,mX] []
def mU:FS:=IK 32 [.v (.l (.st 1)), .fn [.st 1] .b] (.v (.l (.st 1))) (λx=>SJ x.1 (λy=>x.2.1.φ (y,()))) λx r hp h=>MA (f:=32) (t:=YJ 54 3 true (.mk (.cons (.fld (.fld (.idx (.var 5) (.var 4)) 0 3 true) 0 1 false) (.cons (.fld (.fld (.idx (.var 5) (.var 4)) 0 3 true) 1 1 false) (.cons (.fld (.fld (.idx (.var 5) (.var 4)) 0 3 true) 2 1 false) .nil)))) [(.agg (.fld (.idx (.var 5) (.var 4)) 0 3 true) 3)] (.mk (.cons (.str (ByteArray.mk #[])) (.cons (.str (ByteArray.mk #[])) (.cons (.bool false) .nil))))) (by kernel_rfl) (by kernel_rfl) (yF (av:=(BU C6.av (.st 1))) (λx=>⟨TV _ x,Th (by kernel_rfl) x,λ_=>⟨_,rfl⟩,λe=>nomatch e⟩) (by decide) (λa b c d j ys x tl hj=>by simp[AV.nth,hj,BU,PN]) (λa b c d j ys x hj=>by simp[AV.nth,hj,BU,PN]) h (λi hi=>ZS.ok x i hp hi) (λy b hb=>hp.2.1 (y,()) b hb))
def oC:FS:=AR 33 [.v (.st 1)] (.v .b) (λx=>Wn x.1) [] []
def nQ:FS:=L2 oC λ_=>by kernel_rfl
def oN:FS:=AR 12 [.v (.st 5), .v (.st 9)] (.tu (.cons (.v (.st 5)) (.cons (.v .b) .nil))) (λx=>Sy x.1 x.2.1) [Z0,WC,mY,mU,nQ,oI] [.sp [.i .i64, .l (.st 1)]]
def ZZ:FS:=AR 3 [.v (.l (.i .u8))] (.v .b) (λx=>Sd x.1) [rD,oF,pN,qK,pP,qH,rJ,qO,oN,Z0,WC] []
theorem oL(a0:List Int)(r:Bool)(h:Sd a0=some r):Cr Tryz.prog Cp 3 [.sl (a0.map Rh)] (.bool r):=ZZ.ok (a0,()) r (by simp[ZZ,AR,He,Rl]) h
theorem wB{α β:Type}(f:α->β)(l:List α)(o:List β):l.foldl (λo x=>o++ [f x]) o=o++l.map f:=by
 induction l generalizing o with
 |nil=>simp
 |cons x l ih=>rw[List.foldl_cons,ih];simp
theorem hF{n:Nat}{body:Int->Option (Int ⊕ Option Bool)}(hs:∀i:Nat,i<n->body i=some (.inl ((i+1:Nat):Int)))(he:body n=some (.inr (some true))):Bi body 0=some true:=by have h:=Xz (n:=n) (body:=body) (λ_=>true) false (some true) (λi hi=>by rw[hs i hi,if_pos rfl]) he;rw[h,if_pos (by simp)]
abbrev Bt:=AT
def BR(a b c:Int):Bool:=decide (a>=b)&&decide (a<=c)
theorem IU{a b c:Int}:BR a b c=true↔b<=a/\a<=c:=by simp[BR]
@[simp] theorem Mz(a b c:Int):IN a b c=some (BR a b c):=rfl
@[simp] theorem Mi(a b c:Int):L9 a b c=some (BR a b c):=rfl
def Ir(b:UInt8):Bool:=(decide ((b.toNat:Int)>=97)&&decide ((b.toNat:Int)<=122))||(decide ((b.toNat:Int)>=48)&&decide ((b.toNat:Int)<=57))
def NN(s more:Bt):Bool:=s.all λb=>Ir b||more.contains b
theorem z6{a b:UInt8}:((a.toNat:Int)==(b.toNat:Int))=(a==b):=by
 rw[Bool.eq_iff_iff];simp only[AB];constructor
 ·intro h;exact UInt8.toNat_inj.1 (by omega)
 ·rintro rfl;rfl
theorem dU{α:Type}(xs:List α)(p:α->Bool)(q:Nat->Bool)(h:∀(i:Nat) (hi:i<xs.length),q i=p xs[i]):(List.range xs.length).all q=xs.all p:=by
 rw[Bool.eq_iff_iff];simp only[Bg,List.mem_range];constructor
 ·intro hq x hx;obtain⟨i,hi,rfl⟩:=List.getElem_of_mem hx;rw[<-h i hi];exact hq i hi
 ·intro hp i hi;rw[h i hi];exact hp _ (Bc hi)
theorem X3{α β:Type}{xs:List α}{body:Int->Option (Int ⊕ Option β)}(p:α->Bool)(b:β)(fin:Option β)
  (hs:∀(i:Nat) (hi:i<xs.length),body i=some (if p xs[i]=true then .inl ((i+1:Nat):Int)else .inr (some b))) (he:body xs.length=some (.inr fin)):Bi body 0=if xs.all p=true then fin else some b:=by
 rw[Xz (n:=xs.length) (λi=>match xs[i]? with|some x=>p x|none=>true) b fin (λi hi=>by rw[hs i hi];simp[hi]) he,
  dU xs p _ λi hi=>by simp[hi]]
theorem dE{s more:Bt}(h1:s.length<=2000000)(h2:more.length<=2000000):P7 s more=some (NN s more):=by
 unfold P7;rw[X3 (xs:=s) (λb=>Ir b||more.contains b) false (some true) ?_ (by simp[Wu])]
 ·unfold NN;cases(s.all λb=>Ir b||more.contains b)<;>rfl
 ·intro i hi;have B8:Bi (λt:Bool × Int=>PW more i s[i] t.1 t.2) (Ir s[i],0)=some (if(Ir s[i]||more.contains s[i])=true then .inl ((i+1:Nat):Int)else .inr (some false)):=by
   have hl:=dR (xs:=more) (body:=λt:Bool × Int=>PW more i s[i] t.1 t.2) (λk (ok:Bool)=>(ok,k)) (λb ok=>some (.inl (ok||s[i]==b))) (λok=>Wp i ok)
    (λk hk ok=>by simp only[PW,Int.ofNat_lt,hk,decide_true,if_true,BQ hk,Af,El hk (by omega:more.length<=_),z6,MF];cases ok<;>simp) (λok=>by simp[PW]) (Ir s[i])
   rw[uZ (λok b=>ok||s[i]==b) (λ_=>True) (λ_ _ _ _=>trivial) (λ_ _ _ _=>rfl) trivial]at hl;have hf:∀(l:Bt) (ok:Bool),l.foldl (λok b=>ok||s[i]==b) ok=(ok||l.contains s[i]):=by
    intro l
    induction l with
    |nil=>intro ok;simp
    |cons c l ih=>intro ok;rw[List.foldl_cons,ih,List.contains_cons,Bool.or_assoc]
   rw[hl,hf];unfold Wp;rw[El hi (by omega)];cases(Ir s[i]||more.contains s[i])<;>rfl
  simp only[Wu,Int.ofNat_lt,hi,decide_true,if_true,BQ hi,Af];exact B8
theorem pJ(l:Bt)(c:UInt8):decide (Lib.indexByte l c<0)= !l.contains c:=by
 induction l with
 |nil=>rfl
 |cons b l ih=>
  unfold Lib.indexByte;have RC:=Lib.indexByte_ge l c;rw[List.contains_cons];by_cases hb:b=c
  ·subst hb;simp
  ·have h1:(b==c)=false:=by simpa using hb
   have h2:(c==b)=false:=by simpa using λh=>hb h.symm
   rw[h1,h2];simp only[B0,if_false,Bool.false_or];rw[<-ih];by_cases hm:Lib.indexByte l c= -1
   ·simp[hm]
   ·have h3:(Lib.indexByte l c== -1)=false:=by simpa using hm
    rw[h3];simp only[B0,if_false];rw[decide_eq_decide];omega
theorem bV{s more:Bt}(h1:s.length<=2000000):Qe s more=some (NN s more):=by
 unfold Qe;rw[X3 (xs:=s) (λb=>Ir b||more.contains b) false (some true) ?_ (by simp[Wi])]
 ·unfold NN;cases(s.all λb=>Ir b||more.contains b)<;>rfl
 ·intro i hi;have hu:((s[i].toNat:Int)).toNat.toUInt8=s[i]:=by simp
  simp only[Wi,Int.ofNat_lt,hi,decide_true,if_true,BQ hi,Af,Wm,Wl,R4,hu,pJ,El hi (by omega:s.length<=_)];rw[show((decide ((s[i].toNat:Int)>=97)&&decide ((s[i].toNat:Int)<=122))||(decide ((s[i].toNat:Int)>=48)&&decide ((s[i].toNat:Int)<=57)))=Ir s[i]from rfl];cases Ir s[i]<;>cases more.contains s[i]<;>rfl
def DK(s:Bt):Bool:=BR s.length 1 12&&NN s [46,47]
def Mo(s:Bt):Bool:=decide ((s.length:Int)<=24)&&NN s [46,45,44,95]
theorem gN{s:Bt}(h:s.length<=2000000):Qi s=some (DK s):=by simp only[Qi,Mz,Af,dE h (more:=[46,47]) (by decide),DK];cases BR s.length 1 12<;>simp
theorem gV{s:Bt}(h:s.length<=2000000):P5 s=some (DK s):=by simp only[P5,Mi,Af,bV h,DK];cases BR s.length 1 12<;>simp
theorem zvj{s:Bt}(h:s.length<=2000000):SQ s=some (Mo s):=by simp only[SQ,Af,dE h (more:=[46,45,44,95]) (by decide),Mo];by_cases hl:(s.length:Int)<=24<;>simp[hl]
theorem zC{s:Bt}(h:s.length<=2000000):Sz s=some (Mo s):=by simp only[Sz,Af,bV h,Mo];by_cases hl:(s.length:Int)<=24<;>simp[hl]
def Fw(v:Bt)(F9:Bool):Bool:=Mo v&&(!F9||v==[])
theorem Tt{v:Bt}{F9:Bool}(h:v.length<=2000000):Nc v F9=some (Fw v F9):=by simp only[Nc,zC h,Af,Fw,bne];cases Mo v<;>cases F9<;>cases(v==[])<;>rfl
theorem X8{k v:Bt}{F9:Bool}(hk:k.length<=2000000)(hv:v.length<=2000000):P4 k v F9=some (DK k&&Fw v F9):=by simp only[P4,gN hk,zvj hv,Af,Fw];cases DK k<;>simp
def Mj(ks:List Bt)(i:Nat):Bool:=i==0||Op.bytesLess ((ks[i-1]?).getD []) ((ks[i]?).getD [])
def N8(ks:List Bt):Bool:=(List.range ks.length).all (Mj ks)
theorem Qz:∀(a b:Bt),(Op.bytesLess a b||a==b)= !Op.bytesLess b a
 | [],[]=>rfl
 | [],_::_=>rfl
 |_::_,[]=>rfl
 |x::a,y::b=>by
  have ih:=Qz a b;simp only[Op.bytesLess];rcases Nat.lt_trichotomy x.toNat y.toNat with h|h|h
  ·have h1:x<y:=UInt8.lt_iff_toNat_lt.2 h;have h2: ¬y<x:=λh'=>by have:=UInt8.lt_iff_toNat_lt.1 h';omega
   have h3: ¬y=x:=λh'=>by subst h';omega
   simp[h1,h2,h3]
  ·have h0:x=y:=UInt8.toNat_inj.1 h;subst h0;have h1: ¬x<x:=λh'=>by have:=UInt8.lt_iff_toNat_lt.1 h';omega
   rw[show((x::a)==(x::b))=(a==b) by simp];simp only[h1,decide_false,Bool.false_or,beq_self_eq_true,Bool.true_and];exact ih
  ·have h1: ¬x<y:=λh'=>by have:=UInt8.lt_iff_toNat_lt.1 h';omega
   have h2:y<x:=UInt8.lt_iff_toNat_lt.2 h;have h3: ¬x=y:=λh'=>by subst h';omega
   simp[h1,h2,h3]
theorem Mm{i:Nat}(h0:0<i)(h:i<=2000000):IntKind.i64.wrap ((i:Int)-1)=((i-1:Nat):Int):=by rw[Ek (by omega) (by omega)];omega
theorem xM{α:Type}(xs:List α)(p:α->Bool)(q r:Nat->Bool)(h:∀(i:Nat) (hi:i<xs.length),r i=(p xs[i]&&q i)):(List.range xs.length).all r=(xs.all p&&(List.range xs.length).all q):=by
 rw[<-dU xs p (λi=>match xs[i]? with|some x=>p x|none=>true) λi hi=>by simp[hi]];rw[Bool.eq_iff_iff];simp only[Ad,Bg,List.mem_range];constructor
 ·intro hr;exact⟨λi hi=>by have:=hr i hi;rw[h i hi,Ad]at this;simpa[hi]using this.1,λi hi=>by have:=hr i hi;rw[h i hi,Ad]at this;exact this.2⟩
 ·rintro⟨h1,h2⟩ i hi;rw[h i hi,Ad];exact⟨by have:=h1 i hi;simpa[hi]using this,h2 i hi⟩
theorem bC{ks:List Bt}(h:ks.length<=2000000)(hk:∀k∈ks,k.length<=2000000):Qc ks=some (ks.all DK&&N8 ks):=by
 unfold Qc N8;rw[Xz (n:=ks.length) (λi=>DK ((ks[i]?).getD [])&&Mj ks i) false (some true) ?_ (by simp[Wk]),xM ks DK (Mj ks) _ λi hi=>by simp[hi]]
 ·cases(ks.all DK&&(List.range ks.length).all (Mj ks))<;>rfl
 ·intro i hi;simp only[Wk,Int.ofNat_lt,hi,decide_true,if_true,BQ hi,Af,gV (hk _ (Bc hi)),El hi (by omega:ks.length<=_),CJ hi,C7,Mj];by_cases h0:i=0
  ·subst h0;cases DK ks[0]<;>simp
  ·have hp:(i:Int)>0:=by omega
   have Zq:i-1<ks.length:=by omega
   have hb:(i==0)=false:=by simpa using h0
   simp only[hp,decide_true,if_true,Mm (Nat.pos_of_ne_zero h0) (by omega:i<=2000000),BQ Zq,Af,Qz,CJ Zq,C7,hb,Bool.false_or];cases DK ks[i]<;>cases Op.bytesLess ks[i-1] ks[i]<;>rfl
theorem rS{l:List Aw}(h:l.length<=2000000):Sm l=some (l.map (·.ae)):=by
 have h1:=Nu (xs:=l) (body:=λs:Int × List Bt=>M8 l s.1 s.2) (λi (o:List Bt)=>(i,o)) (λo w=>o++ [w.ae]) (λo=>some o) (λq o=>o.length=q)
  (λi hi o hI=>by
   refine⟨?_,by simp[hI]⟩;show M8 l i o=_;unfold M8;have hr:((o.length:Int)+(([l[i].ae]:List Bt).length:Int))*16<=140737488355328/\(o.length:Int)+(([l[i].ae]:List Bt).length:Int)<=140737488355328:=by rw[DI,hI];omega
   rw[if_pos (by simpa using hi),BQ hi,Af,CO hr,El hi (by omega)]) (λo _=>by
   show M8 l l.length o=_;unfold M8;rw[if_neg (by simp)]) (s:=[]) rfl
 have hf:∀(l:List Aw) (o:List Bt),l.foldl (λo w=>o++ [w.ae]) o=o++l.map (·.ae):=by
  intro l
  induction l with
  |nil=>intro o;simp
  |cons w l ih=>intro o;rw[List.foldl_cons,ih];simp
 have h2:=h1.1;rw[hf,List.nil_append]at h2;unfold Sm;exact h2
def Ud(w:Aw):Bool:=DK w.ae&&Fw w.ar w.al
def KI(l:List Aw):Bool:=decide ((l.length:Int)<=24)&&(l.all Ud&&N8 (l.map (·.ae)))
def KU(l:List Aw):Prop:=l.length<=2000000/\ ∀w∈l,w.ae.length<=2000000/\w.ar.length<=2000000
theorem tI{l:List Aw}(h:KU l):Sp l=some (KI l):=by
 have e1:Hp l (λy0_=>R8 y0_)=some (l.any λw=> !Fw w.ar w.al):=TL _ (λw hw=>by simp[R8,Tt (h.2 w hw).2]) (by have:=h.1;omega);have e2:=bC (ks:=l.map (·.ae)) (by simpa using h.1) (by simp only[List.mem_map];rintro k ⟨w,hw,rfl⟩;exact(h.2 w hw).1);simp only[Sp,rS h.1,e1,e2,Af,KI,<-List.not_all_eq_any_not];have e3:l.all Ud=((l.map (·.ae)).all DK&&l.all λw=>Fw w.ar w.al):=by
  rw[Bool.eq_iff_iff];simp only[Bg,Ad,Ud,List.mem_map];constructor
  ·intro h;exact⟨by rintro k ⟨w,hw,rfl⟩;exact(h w hw).1,λw hw=>(h w hw).2⟩
  ·rintro⟨h1,h2⟩ w hw;exact⟨h1 _ ⟨w,hw,rfl⟩,h2 w hw⟩
 rw[e3];generalize (l.map (·.ae)).all DK=b1;generalize N8 (l.map (·.ae))=b2;generalize (l.all λw=>Fw w.ar w.al)=b3;by_cases hl:(l.length:Int)<=24<;>cases b1<;>cases b2<;>cases b3<;>simp[hl]
def QD(l:List Aw):Bool:=KI l&&l.all λw=> !w.al
theorem xS{l:List Aw}(h:KU l):S3 l=some (QD l):=by have e1:Hp l (λy0_=>Se y0_)=some (l.any λw=> !!w.al):=TL _ (λw hw=>by simp[Se]) (by have:=h.1;omega);simp only[S3,tI h,e1,Af,QD,<-List.not_all_eq_any_not];cases KI l<;>simp
def CT{α:Type}(r:α->α->Bool):List α->Bool
 | []=>true
 | [_]=>true
 |x::y::l=>r x y&&CT r (y::l)
theorem Me{α:Type}{r:α->α->Bool}(ht:∀a b c,r a b=true->r b c=true->r a c=true):∀{l:List α},CT r l=true↔l.Pairwise λa b=>r a b=true
 | []=>by simp[CT]
 | [_]=>by simp[CT]
 |x::y::l=>by
  rw[CT,Ad,Me ht];constructor
  ·rintro⟨h1,h2⟩;refine List.pairwise_cons.2 ⟨λz hz=> ?_,h2⟩;rcases Ac.1 hz with rfl|hz
   ·exact h1
   ·exact ht _ _ _ h1 ((List.pairwise_cons.1 h2).1 z hz)
  ·intro h;have h:=List.pairwise_cons.1 h;exact⟨h.1 y (by simp),h.2⟩
theorem aQ{α:Type}{r:α->α->Bool}{l:List α}{q:Nat}(h:q+1<l.length):CT r (l.drop q)=(r l[q] l[q+1]&&CT r (l.drop (q+1))):=by rw[A7 (show q<l.length by omega),A7 h,CT]
theorem NK{α β:Type}{xs:List α}{body:Int->Option (Int ⊕ Option β)}(p:α->Bool)(r:α->α->Bool)(b:β)(fin:Option β)
  (h0:∀h:0<xs.length,body 0=some (if p xs[0]=true then .inl 1 else .inr (some b)))
  (hs:∀i (h:i+1<xs.length),body ((i+1:Nat):Int)=some (if(p xs[i+1]&&r xs[i] xs[i+1])=true then .inl ((i+2:Nat):Int)else .inr (some b)))
  (he:body xs.length=some (.inr fin)):Bi body 0=if(xs.all p&&CT r xs)=true then fin else some b:=by
 have key:∀n q,q+1+n=xs.length->Bi body ((q+1:Nat):Int)=if((xs.drop (q+1)).all p&&CT r (xs.drop q))=true then fin else some b:=by
  intro n
  induction n with
  |zero=>
   intro q hq;rw[show((q+1:Nat):Int)=(xs.length:Int) by omega,DQ,he];have e1:xs.drop (q+1)=[]:=List.drop_eq_nil_of_le (by omega);have e2:xs.drop q=[xs[q]]:=by rw[A7 (by omega),e1]
   rw[e1,e2];simp[CT]
  |succ n ih=>
   intro q hq;rw[DQ,hs q (by omega),aQ (by omega),A7 (show q+1<xs.length by omega),List.all_cons];have ih:=ih (q+1) (by omega);by_cases hp:(p xs[q+1]&&r xs[q] xs[q+1])=true
   ·rw[if_pos hp];simp only[Ad]at hp;simp only[hp.1,hp.2,Bool.true_and];rw[<-A7 (show q+1<xs.length by omega)];exact ih
   ·rw[if_neg hp];rw[if_neg];intro h;simp only[Ad]at h hp;exact hp ⟨h.1.1,h.2.1⟩
 by_cases hz:0<xs.length
 ·rw[DQ,h0 hz];have:=key (xs.length-1) 0 (by omega);rw[List.drop_zero]at this;have e:xs=xs[0]::xs.drop 1:=by rw[<-A7 hz,List.drop_zero]
  by_cases hp:p xs[0]=true
  ·rw[if_pos hp];show Bi body ((0+1:Nat):Int)=_;rw[this];have:xs.all p=(xs.drop 1).all p:=by rw[e,List.all_cons,hp,Bool.true_and];simp
   rw[this]
  ·rw[if_neg hp,if_neg];intro h;simp only[Ad,Bg]at h;exact hp (h.1 _ (Bc hz))
 ·have:xs=[]:=by cases xs with|nil=>rfl|cons=>simp at hz
  subst this;rw[DQ,show(0:Int)=(([]:List α).length:Int)from rfl,he];simp[CT]
def Bd{α:Type}(lt:α->Bool)(l:List α):Nat:=(l.takeWhile lt).length
theorem Mn{α:Type}(lt:α->Bool):∀l:List α,Bd lt l<=l.length
 | []=>by simp[Bd]
 |x::l=>by have:=Mn lt l;unfold Bd at this ⊢;rw[List.takeWhile_cons];split<;>simp<;>omega
theorem NS{α:Type}{lt:α->Bool}:∀{l:List α} {i:Nat} (h:i<Bd lt l),lt (l[i]'(Nat.lt_of_lt_of_le h (Mn lt l)))=true
 |x::l,i,h=>by
  unfold Bd at h;rw[List.takeWhile_cons]at h;split at h
  ·rename_i hx;cases i with
   |zero=>exact hx
   |succ i=>exact NS (l:=l) (i:=i) (by unfold Bd;simpa using h)
  ·simp at h
theorem QP{α:Type}{lt:α->Bool}:∀{l:List α} (h:Bd lt l<l.length),lt l[Bd lt l]=false
 |x::l,h=>by
  by_cases hx:lt x=true
  ·have e:Bd lt (x::l)=Bd lt l+1:=by unfold Bd;rw[List.takeWhile_cons,if_pos hx];rfl
   have:=QP (l:=l) (lt:=lt) (by rw[e]at h;simpa using h);simp only[e,List.getElem_cons_succ];exact this
  ·have e:Bd lt (x::l)=0:=by unfold Bd;rw[List.takeWhile_cons,if_neg hx];rfl
   simp only[e,List.getElem_cons_zero];simpa using hx
theorem xU{α β:Type}{xs:List α}{body:Int × Int->Option ((Int × Int) ⊕ Option β)}{fin:Int->Option β}(lt:α->Bool)(hm:∀i j (hj:j<xs.length) (hi:i<=j),lt xs[j]=true->lt xs[i]=true)
  (hs:∀i j:Nat,i<j->j<=xs.length->(h:(i+j)/2<xs.length)->body ((i:Int),(j:Int))=some (.inl (if lt xs[(i+j)/2]=true then((((i+j)/2+1:Nat):Int),(j:Int))else((i:Int),(((i+j)/2:Nat):Int)))))
  (he:∀i:Nat,i<=xs.length->body ((i:Int),(i:Int))=some (.inr (fin i))):Bi body (0,(xs.length:Int))=fin (Bd lt xs):=by
 have key:∀n i j:Nat,j-i<=n->i<=Bd lt xs->Bd lt xs<=j->j<=xs.length->Bi body ((i:Int),(j:Int))=fin (Bd lt xs):=by
  intro n
  induction n with
  |zero=>
   intro i j h1 h2 h3 h4;have:i=j:=by omega
   subst this;have:i=Bd lt xs:=by omega
   rw[DQ,he i h4,this]
  |succ n ih=>
   intro i j h1 h2 h3 h4;by_cases IF:i=j
   ·subst IF;have:i=Bd lt xs:=by omega
    rw[DQ,he i h4,this]
   ·have AA:(i+j)/2<xs.length:=by omega
    rw[DQ,hs i j (by omega) h4 AA];by_cases hc:lt xs[(i+j)/2]=true
    ·rw[if_pos hc];refine ih _ _ (by omega) ?_ h3 h4;by_cases hp:(i+j)/2<Bd lt xs
     ·omega
     ·have h5:Bd lt xs<xs.length:=by omega
      have:=QP h5;rw[hm _ _ AA (by omega) hc]at this;cases this
    ·rw[if_neg hc];refine ih _ _ (by omega) h2 ?_ (by omega);by_cases hp:(i+j)/2<Bd lt xs
     ·exact absurd (NS hp) hc
     ·omega
 exact key xs.length 0 xs.length (by omega) (by omega) (Mn lt xs) (Ar _)
theorem TF{α:Type}{key:α->AT}{x:α}:∀{l:List α},DA key l->Em key x l=(match l[Bd (λy=>bl (key y) (key x)) l]? with
  |some y=>if key y=key x then l.set (Bd (λy=>bl (key y) (key x)) l) x else l.take (Bd (λy=>bl (key y) (key x)) l)++ [x]++l.drop (Bd (λy=>bl (key y) (key x)) l)
  |none=>l.take (Bd (λy=>bl (key y) (key x)) l)++ [x]++l.drop (Bd (λy=>bl (key y) (key x)) l))
 | [],_=>by simp[Em,Bd]
 |y::l,h=>by
  have h1:=List.pairwise_cons.1 h;unfold Em;by_cases hb:bl (key x) (key y)=true
  ·have e:Bd (λz=>bl (key z) (key x)) (y::l)=0:=by unfold Bd;rw[List.takeWhile_cons,if_neg (by rw[TD hb];simp)];rfl
   rw[if_pos hb,e];simp[(Iy hb).symm]
  ·rw[if_neg hb];by_cases hk:key x=key y
   ·have e:Bd (λz=>bl (key z) (key x)) (y::l)=0:=by unfold Bd;rw[List.takeWhile_cons,if_neg (by rw[hk,Il];simp)];rfl
    rw[if_pos hk,e];simp[hk]
   ·have F1:=Xu (by simpa using hb) hk;have e:Bd (λz=>bl (key z) (key x)) (y::l)=Bd (λz=>bl (key z) (key x)) l+1:=by unfold Bd;rw[List.takeWhile_cons,if_pos F1];rfl
    rw[if_neg hk,e,TF h1.2];simp only[List.getElem?_cons_succ];split
    ·split<;>simp
    ·simp
theorem rQ{α:Type}{key:α->AT}{x:α}{l:List α}(h:DA key l)(p:α->Bool):(Em key x l).filter p=if p x=true then Em key x (l.filter p)else(l.filter p).filter λy=>decide (key y≠key x):=by
 split
 ·rename_i hp;refine DA.ext ((KK h).filter p) (KK (h.filter p)) λy=> ?_;rw[List.mem_filter,KP h,KP (h.filter p),List.mem_filter];constructor
  ·rintro⟨rfl|⟨h1,h2⟩,h3⟩
   ·exact .inl rfl
   ·exact .inr ⟨⟨h1,h3⟩,h2⟩
  ·rintro(rfl|⟨⟨h1,h3⟩,h2⟩)
   ·exact⟨.inl rfl,hp⟩
   ·exact⟨.inr ⟨h1,h2⟩,h3⟩
 ·rename_i hp;refine DA.ext ((KK h).filter p) ((h.filter p).filter _) λy=> ?_;rw[List.mem_filter,KP h,List.mem_filter,List.mem_filter];simp only[Au];constructor
  ·rintro⟨rfl|⟨h1,h2⟩,h3⟩
   ·exact absurd h3 hp
   ·exact⟨⟨h1,h3⟩,h2⟩
  ·rintro⟨⟨h1,h3⟩,h2⟩;exact⟨.inr ⟨h1,h2⟩,h3⟩
def K8(a b:Bt):Int:=if bl a b=true then-1 else if a=b then 0 else 1
@[simp] theorem xG(a:Bt):P0 a=some false:=by simp[P0]
@[simp] theorem zR(a:Int):P8 a=some false:=by simp[P8]
@[simp] theorem yU(a b:Bt):PR a b=some (K8 a b):=by
 unfold PR K8;simp only[xG,Af,B0,if_false];by_cases h:bl a b=true
 ·have:Op.bytesLess a b=true:=h;simp[this]
 ·have h1:Op.bytesLess a b=false:=by simpa using h
  by_cases he:a=b
  ·subst he;simp[h1]
  ·simp[h1,he]
def YV(a b:Int):Int:=if a<b then-1 else if a=b then 0 else 1
@[simp] theorem zF(a b:Int):P2 a b=some (YV a b):=by
 unfold P2 YV;simp only[zR,Af,B0,if_false];by_cases h:a<b
 ·simp[h]
 ·by_cases he:a=b
  ·subst he;simp
  ·have:b<a:=by omega
   simp[h,he,this]
theorem yP{a b:Bt}:decide (K8 a b<0)=bl a b:=by
 unfold K8;cases h:bl a b with
 |true=>simp
 |false=>by_cases he:a=b<;>simp[he]
theorem zV{a b:Bt}:(K8 a b==0)=decide (a=b):=by
 unfold K8;cases h:bl a b with
 |true=>simp[Iy h]
 |false=>by_cases he:a=b<;>simp[he]
theorem zvb{i j:Nat}(h:i<=j)(hj:j<=2000000):IntKind.i64.wrap (Int.fdiv (IntKind.u64.wrap (IntKind.i64.wrap ((i:Int)+(j:Int)))) (2^(min ((1:Int)).toNat (IntKind.bits .u64))))=(((i+j)/2:Nat):Int):=by
 have e1:IntKind.i64.wrap ((i:Int)+(j:Int))=((i+j:Nat):Int):=by rw[Ek (by omega) (by omega)];simp
 have e2:IntKind.u64.wrap ((i+j:Nat):Int)=((i+j:Nat):Int):=by simp only[IntKind.wrap,IntKind.bits,IntKind.signed];simp;omega
 have e3:(2:Int)^(min ((1:Int)).toNat (IntKind.bits .u64))=((2:Nat):Int):=rfl;rw[e1,e2,e3,Int.fdiv_eq_ediv_of_nonneg _ (by omega),<-Int.natCast_ediv,Ek (by omega) (by omega)]
theorem KT{i:Nat}(h:i<=2000000):IntKind.i64.wrap ((i:Int)+1)=((i+1:Nat):Int):=by rw[Ek (by omega) (by omega)];simp
abbrev Ha(l:List Aw):Prop:=DA (λw:Aw=>w.ae) l
abbrev Ip(l:List Aw)(k:Bt):Nat:=Bd (λw:Aw=>bl w.ae k) l
theorem zvW{l:List Aw}{k:Bt}(hl:l.length<=2000000)(hr:Ha l):Sk l k=some (((Ip l k:Nat):Int),(match l[Ip l k]? with|some w=>decide (w.ae=k)|none=>false)):=by
 unfold Sk Wf;have hc:∀w:Aw,M6 w k=some (K8 w.ae k):=λw=>by simp[M6]
 have h:=xU (xs:=l) (body:=λs:Int × Int=>M9 l k (λy0_ y1_=>M6 y0_ y1_) s.1 s.2) (fin:=λi=>We l k (λy0_ y1_=>M6 y0_ y1_) i) (λw:Aw=>bl w.ae k)
  (λi j hj hi h=>by
   rcases Nat.lt_or_ge i j with IF|IF
   ·exact G5 ((List.pairwise_iff_getElem.1 hr) i j (by omega) hj IF) h
   ·have:i=j:=by omega
    subst this;exact h)
  (λi j IF hj Vz=>by show M9 l k _ (i:Int) (j:Int)=_;unfold M9;rw[if_pos (by simpa using IF),zvb (by omega) (by omega),BQ Vz,Af];simp only[hc,Af,yP,KT (show(i+j)/2<=2000000 by omega)];cases bl l[(i+j)/2].ae k<;>rfl)
  (λi hi=>by show M9 l k _ (i:Int) (i:Int)=_;unfold M9;rw[if_neg (by simp)])
 rw[h];unfold We;show Option.bind (if decide (((Ip l k:Nat):Int)<l.length)=true then _ else _) _=_;by_cases hp:Ip l k<l.length
 ·rw[if_pos (by simpa using hp),BQ hp,Af];simp only[hc,Af,zV,CJ hp]
 ·rw[if_neg (by simpa using hp),List.getElem?_eq_none (by omega)];rfl
theorem sB{l:List Aw}{w:Aw}(hl:l.length<=2000000)(hr:Ha l):SG l w=some (Em (λw:Aw=>w.ae) w l):=by
 unfold SG;rw[zvW hl hr,Af,TF hr];show(if(match l[Ip l w.ae]? with|some w'=>decide (w'.ae=w.ae)|none=>false)=true then _ else _)=_;have hle:Ip l w.ae<=l.length:=Mn _ _;have hI:TK l ((Ip l w.ae:Nat):Int) [w]=some (l.take (Ip l w.ae)++ [w]++l.drop (Ip l w.ae)):=CO ⟨by omega,by omega,by simp,by simp only[DI];omega⟩;by_cases hp:Ip l w.ae<l.length
 ·rw[CJ hp];by_cases hk:(l[Ip l w.ae]).ae=w.ae
  ·simp only[hk,decide_true,if_true,BQ hp,Af];rfl
  ·simp only[hk,decide_false,B0,if_false];rw[hI];rfl
 ·rw[List.getElem?_eq_none (by omega)];simp only[B0,if_false];rw[hI];rfl
theorem W9(ks:List Bt):N8 ks=CT bl ks:=by
 have key:∀n q,q+n+1=ks.length->(List.range' (q+1) n).all (Mj ks)=CT bl (ks.drop q):=by
  intro n
  induction n with
  |zero=>intro q hq;rw[A7 (show q<ks.length by omega),List.drop_eq_nil_of_le (show ks.length<=q+1 by omega)];rfl
  |succ n ih=>intro q hq;rw[List.range'_succ,List.all_cons,ih (q+1) (by omega),aQ (show q+1<ks.length by omega)];congr 1;unfold Mj;have hb:(q+1==0)=false:=rfl;rw[hb,Bool.false_or,Nat.add_sub_cancel,CJ (show q<ks.length by omega),CJ (show q+1<ks.length by omega)];rfl
 cases ks with
 |nil=>rfl
 |cons k l=>unfold N8;rw[AM,List.range_eq_range',List.range'_succ,List.all_cons];have:=key l.length 0 (by simp);rw[List.drop_zero]at this;rw[Nat.zero_add]at this;rw[show 0+1=1 from rfl,this];rfl
theorem Xd{α β:Type}(f:α->β)(r:β->β->Bool):∀l:List α,CT r (l.map f)=CT (λa b=>r (f a) (f b)) l
 | []=>rfl
 | [_]=>rfl
 |x::y::l=>by have:=Xd f r (y::l);simp only[List.map_cons,CT]at this ⊢;rw[this]
theorem oK{l:List Aw}(h:KI l=true):Ha l:=by unfold KI at h;simp only[Ad]at h;have h1:=h.2.2;rw[W9,Xd]at h1;exact(Me (r:=λa b:Aw=>bl a.ae b.ae) λa b c p q=>G5 p q).1 h1
def A9(a b:An):Bool:=if a.ab≠b.ab then decide (a.ab<b.ab)else if a.aj≠b.aj then decide (a.aj<b.aj)else bl a.ae b.ae
theorem TJ(a b:An):Nh a b=some (A9 a b):=by unfold Nh A9;by_cases h:a.ab=b.ab<;>by_cases h2:a.aj=b.aj<;>simp[h,h2]
theorem bA{a b c:An}(h1:A9 a b=true)(h2:A9 b c=true):A9 a c=true:=by
 unfold A9 at*;by_cases e1:a.ab=b.ab
 ·by_cases e2:b.ab=c.ab
  ·rw[if_neg (by simpa using e1)]at h1;rw[if_neg (by simpa using e2)]at h2;rw[if_neg (by simpa using e1.trans e2)];by_cases g1:a.aj=b.aj
   ·by_cases g2:b.aj=c.aj
    ·rw[if_neg (by simpa using g1)]at h1;rw[if_neg (by simpa using g2)]at h2;rw[if_neg (by simpa using g1.trans g2)];exact G5 h1 h2
    ·rw[if_pos g2,Au]at h2;rw[if_pos (by omega),Au];omega
   ·rw[if_pos g1,Au]at h1;by_cases g2:b.aj=c.aj
    ·rw[if_pos (by omega),Au];omega
    ·rw[if_pos g2,Au]at h2;rw[if_pos (by omega),Au];omega
  ·rw[if_pos e2,Au]at h2;rw[if_pos (by omega),Au];omega
 ·rw[if_pos e1,Au]at h1;by_cases e2:b.ab=c.ab
  ·rw[if_pos (by omega),Au];omega
  ·rw[if_pos e2,Au]at h2;rw[if_pos (by omega),Au];omega
theorem rL(a:An):A9 a a=false:=by unfold A9;simp[Il]
def Ui(a b:An):Int:=if A9 a b=true then-1 else if A9 b a=true then 1 else 0
theorem zS(a b c:Int):S2 [a,b,c]=some (if a≠0 then a else if b≠0 then b else c):=by
 have hb:∀i:Nat,(h:i<3)->P9 [a,b,c] i=if([a,b,c]:List Int)[i]≠0 then some (.inr (some ([a,b,c]:List Int)[i]))else some (.inl ((i+1:Nat):Int)):=by intro i h;unfold P9;rw[if_pos (by simp;omega),BQ (by simpa using h),Af,El h (by omega)];by_cases hz:([a,b,c]:List Int)[i]=0<;>simp[hz]
 have h3:P9 [a,b,c] ((3:Nat):Int)=some (.inr (some 0)):=by unfold P9;rw[if_neg (by simp)]
 unfold S2;rw[DQ,show(0:Int)=((0:Nat):Int)from rfl,hb 0 (by omega)];by_cases ha:a=0
 ·rw[if_neg (by simpa using ha),if_neg (by simpa using ha)];show Bi _ ((1:Nat):Int)=_;rw[DQ,hb 1 (by omega)];by_cases BF:b=0
  ·rw[if_neg (by simpa using BF),if_neg (by simpa using BF)];show Bi _ ((2:Nat):Int)=_;rw[DQ,hb 2 (by omega)];by_cases hc:c=0
   ·rw[if_neg (by simpa using hc)];show Bi _ ((3:Nat):Int)=_;rw[DQ,h3];simp[hc]
   ·rw[if_pos (by simpa using hc)];rfl
  ·rw[if_pos (by simpa using BF),if_pos (by simpa using BF)];rfl
 ·rw[if_pos (by simpa using ha),if_pos (by simpa using ha)];rfl
theorem zN(a b:An):R7 a b=some (Ui a b):=by
 unfold R7;simp only[zF,yU,Af,zS];unfold Ui A9 YV K8;congr 1;rcases Int.lt_trichotomy a.ab b.ab with h|h|h
 ·have h1: ¬a.ab=b.ab:=by omega
  simp[h,h1]
 ·have h2:=h.symm;rcases Int.lt_trichotomy a.aj b.aj with g|g|g
  ·have g1: ¬a.aj=b.aj:=by omega
   simp[h,g,g1]
  ·have g2:=g.symm;rcases TY a.ae b.ae with k|k|k
   ·simp[h,g,k]
   ·simp[h,g,k,Il]
   ·have k1:=TD k;have k2: ¬a.ae=b.ae:=λe=>Iy k e.symm;simp[h,g,k,k1,k2]
  ·have g1: ¬a.aj=b.aj:=by omega
   have g2: ¬b.aj=a.aj:=by omega
   have g3: ¬a.aj<b.aj:=by omega
   simp[h,g,g1,g2,g3]
 ·have h1: ¬a.ab=b.ab:=by omega
  have h2: ¬b.ab=a.ab:=by omega
  have h3: ¬a.ab<b.ab:=by omega
  simp[h,h1,h2,h3]
theorem xT(a b:An):decide (Ui a b>=0)= !A9 a b:=by
 unfold Ui;cases A9 a b with
 |true=>simp
 |false=>cases A9 b a<;>simp
def Gv(c:An):Bool:=BR c.ab 1 100000&&(BR c.aj 0 3&&(DK c.ae&&Fw c.ar c.al))
def KQ(l:List An):Bool:=decide ((l.length:Int)<=400)&&(l.all Gv&&CT A9 l)
def YN(c:An):Prop:=c.ae.length<=2000000/\c.ar.length<=2000000
def Ob(l:List An):Prop:=l.length<=2000000/\ ∀c∈l,YN c
theorem TP{c:An}(h:YN c):SE c=some (Gv c):=by unfold SE Gv;simp only[Mz,Af,X8 h.1 h.2];cases BR c.ab 1 100000<;>cases BR c.aj 0 3<;>simp
theorem xW{c:An}(h:YN c):Sf c=some (Gv c):=by unfold Sf Gv No WB;simp only[Mi,Af,gV h.1,Tt h.2];cases BR c.ab 1 100000<;>cases BR c.aj 0 3<;>cases DK c.ae<;>simp
theorem xH{l:List An}(h:l.length<=2000000):S4 l=some (decide ((l.length:Int)<=400)&&CT A9 l):=by
 unfold S4;rw[NK (xs:=l) (body:=λs:Int=>L4 l s) (λ_=>true) A9 false (Ws l) (λh0=> ?_) (λi hi=> ?_) (by simp[L4])]
 ·unfold Ws;cases CT A9 l<;>simp
 ·show L4 l 0=_;unfold L4;rw[if_pos (by simpa using h0),if_neg (by simp)];rfl
 ·show L4 l ((i+1:Nat):Int)=_;unfold L4;rw[if_pos (by simp;omega),if_pos (by simp),Mm (by omega) (by omega),Nat.add_sub_cancel,BQ (show i<l.length by omega),Af,BQ hi,Af,zN,Af,xT,El hi (by omega)];cases A9 l[i] l[i+1]<;>rfl
theorem zW{l:List An}(h:Ob l):Sb l=some (KQ l):=by unfold Sb KQ;rw[xH h.1,Af,TL (λc=> !Gv c) (λc hc=>by simp[Ww,xW (h.2 c hc)]) (by have:=h.1;omega)];rw[<-List.not_all_eq_any_not];cases decide ((l.length:Int)<=400)<;>cases CT A9 l<;>cases l.all Gv<;>rfl
theorem yH{l:List An}(h:Ob l):SB l=some (KQ l):=by
 have hn:=h.1;unfold SB KQ;by_cases hl:(l.length:Int)<=400
 ·rw[NK (xs:=l) (body:=λs:Int=>G3 l s) Gv A9 false (PX l) (λh0=> ?_) (λi hi=> ?_) (by simp[G3])]
  ·unfold PX;cases l.all Gv<;>cases CT A9 l<;>simp[hl]
  ·show G3 l 0=_;unfold G3;rw[if_pos (by simpa using h0),show(0:Int)=((0:Nat):Int)from rfl,BQ h0,Af,TP (h.2 _ (Bc h0)),Af,if_neg (by simp)];cases Gv l[0]<;>rfl
  ·show G3 l ((i+1:Nat):Int)=_;unfold G3;rw[if_pos (by simp;omega),BQ hi,Af,TP (h.2 _ (Bc hi)),Af,if_pos (by simp),Mm (by omega) (by omega),Nat.add_sub_cancel,BQ (show i<l.length by omega),Af,TJ,Af,El hi (by omega)];cases Gv l[i+1]<;>cases A9 l[i] l[i+1]<;>rfl
 ·have ht:=NK (xs:=l.take 401) (body:=λs:Int=>G3 l s) Gv A9 false (PX l) (λh0=> ?_) (λi hi=> ?_) (by
   have:(l.take 401).length=401:=by rw[AF];omega
   rw[this];simp[G3])
  ·rw[ht];unfold PX;simp[hl]
  ·show G3 l 0=_;have h1:0<l.length:=by omega
   unfold G3;rw[if_pos (by simpa using h1),show(0:Int)=((0:Nat):Int)from rfl,BQ h1,Af,TP (h.2 _ (Bc h1)),Af,if_neg (by simp),List.getElem_take];cases Gv l[0]<;>rfl
  ·show G3 l ((i+1:Nat):Int)=_;have Zp:i+1<401:=by rw[AF]at hi;omega
   have hi:i+1<l.length:=by omega
   unfold G3;rw[if_pos (by simp;omega),BQ hi,Af,TP (h.2 _ (Bc hi)),Af,if_pos (by simp),Mm (by omega) (by omega),Nat.add_sub_cancel,BQ (show i<l.length by omega),Af,TJ,Af,El hi (by omega),List.getElem_take,List.getElem_take];cases Gv l[i+1]<;>cases A9 l[i] l[i+1]<;>rfl
def E2(d:CU):Bool:=BR d.aw 0 100000&&(BR d.cz 0 100000&&(decide (d.aw<=d.cz)&&(decide ((d.au.length:Int)<=60)&&(KQ d.au&&d.au.all λc=> !((c.aj !=0||decide (c.ab<=d.aw))||decide (c.ab>d.cz))))))
theorem Yf{d:CU}(h:Ob d.au):Ma d=some (E2 d):=by unfold Ma KH E2;simp only[Mi,Af,zW h];have e1:Hp d.au (λy0_=>Wt y0_ d)=some (d.au.any λc=>((c.aj !=0||decide (c.ab<=d.aw))||decide (c.ab>d.cz))):=TL _ (λc _=>rfl) (by have:=h.1;omega);rw[e1,List.any_eq_not_all_not];generalize (d.au.all λx=> !((x.aj !=0||decide (x.ab<=d.aw))||decide (x.ab>d.cz)))=b;cases BR d.aw 0 100000<;>cases BR d.cz 0 100000<;>cases decide (d.aw<=d.cz)<;>cases decide ((d.au.length:Int)<=60)<;>cases KQ d.au<;>cases b<;>rfl
theorem yQ{d:CU}(h:Ob d.au)(hf: -9223372036854775808<=d.aw/\d.aw<=9223372036854775807):P6 d=some (E2 d):=by
 have hn:=h.1;unfold P6;rw[X3 (xs:=d.au) (λc=> !(c.aj !=0)&&BR c.ab (IntKind.i64.wrap (d.aw+1)) d.cz) false (Sq d) (λi hi=>by show Sg d i=_;unfold Sg;rw[if_pos (by simpa using hi),BQ hi,Af,Mz,Af,El hi (by omega)];cases(d.au[i].aj !=0)<;>cases BR d.au[i].ab (IntKind.i64.wrap (d.aw+1)) d.cz<;>rfl) (by simp[Sg])]
 have hk:Sq d=some (BR d.aw 0 d.cz&&(decide (d.cz<=100000)&&(decide ((d.au.length:Int)<=60)&&KQ d.au))):=by unfold Sq;simp only[Mz,Af,yH h];cases BR d.aw 0 d.cz<;>cases decide (d.cz<=100000)<;>cases decide ((d.au.length:Int)<=60)<;>rfl
 rw[hk];by_cases hg:BR d.aw 0 d.cz=true/\d.cz<=100000
 ·obtain⟨g1,g2⟩:=hg;have g3:=IU.1 g1;have e1:IntKind.i64.wrap (d.aw+1)=d.aw+1:=Ek (by omega) (by omega);have e2:BR d.aw 0 100000=true:=IU.2 ⟨by omega,by omega⟩;have e3:BR d.cz 0 100000=true:=IU.2 ⟨by omega,by omega⟩;have e4:(d.au.all λc=> !(c.aj !=0)&&BR c.ab (IntKind.i64.wrap (d.aw+1)) d.cz)=d.au.all λc=> !((c.aj !=0||decide (c.ab<=d.aw))||decide (c.ab>d.cz)):=by
   congr 1;funext c;rw[e1];unfold BR;have q1:decide (c.ab>=d.aw+1)= !decide (c.ab<=d.aw):=by rw[<-decide_not,decide_eq_decide];omega
   have q2:decide (c.ab<=d.cz)= !decide (c.ab>d.cz):=by rw[<-decide_not,decide_eq_decide];omega
   rw[q1,q2];cases(c.aj !=0)<;>cases decide (c.ab<=d.aw)<;>cases decide (c.ab>d.cz)<;>rfl
  rw[e4];unfold E2;rw[e2,e3,g1];simp only[g2,decide_true,Bool.true_and,show d.aw<=d.cz from g3.2];cases(d.au.all λc=> !((c.aj !=0||decide (c.ab<=d.aw))||decide (c.ab>d.cz)))<;>simp
 ·have e1:E2 d=false:=by
   cases hd:E2 d with
   |false=>rfl
   |true=>unfold E2 at hd;simp only[Ad,Au]at hd;have h1:=IU.1 hd.1;have h2:=IU.1 hd.2.1;exact absurd ⟨IU.2 ⟨h1.1,hd.2.2.1⟩,h2.2⟩ hg
  rw[e1];have e2:(BR d.aw 0 d.cz&&(decide (d.cz<=100000)&&(decide ((d.au.length:Int)<=60)&&KQ d.au)))=false:=by
   cases hb:BR d.aw 0 d.cz with
   |false=>rfl
   |true=>have: ¬d.cz<=100000:=λh=>hg ⟨hb,h⟩;simp[this]
  rw[e2];split<;>rfl
def Hs(c:Dc):Bool:=BR c.ab 0 100000&&(QD c.bj&&(decide (c.ab>0)||(c.bj.length:Int)==0))
theorem Ya{c:Dc}(h:KU c.bj):Nb c=some (Hs c):=by unfold Nb KH Hs;simp only[Mi,Af,xS h];cases BR c.ab 0 100000<;>rfl
end
noncomputable section
open Go.RowKit Go.Sort
set_option maxRecDepth 100000
theorem XX{S α β σ:Type}{xs:List α}{body:S->Option (S ⊕ Option β)}(mk:Nat->σ->S)(g:σ->α->Option σ)(b:Option β)(fin:σ->Option β)(I:Nat->σ->Prop)
  (hs:∀i acc (h:i<xs.length),I i acc->body (mk i acc)=some (match g acc xs[i]with|some a=> .inl (mk (i+1) a)|none=> .inr b)/\ ∀a,g acc xs[i]=some a->I (i+1) a)
  (he:∀acc,I xs.length acc->body (mk xs.length acc)=some (.inr (fin acc))) (a0:σ) (h0:I 0 a0):Bi body (mk 0 a0)=match xs.foldlM g a0 with|some a=>fin a|none=>b:=by
 have key:∀n q acc,q+n=xs.length->I q acc->Bi body (mk q acc)=match(xs.drop q).foldlM g acc with|some a=>fin a|none=>b:=by
  intro n
  induction n with
  |zero=>
   intro q acc hq hi;have e:q=xs.length:=by omega
   subst e;rw[DQ,he acc hi,List.drop_length];rfl
  |succ n ih=>
   intro q acc hq hi;have hl:q<xs.length:=by omega
   obtain⟨h1,h2⟩:=hs q acc hl hi;rw[DQ,h1,A7 hl,List.foldlM_cons];cases hg:g acc xs[q]with
   |none=>rfl
   |some a=>exact ih (q+1) a (by omega) (h2 a hg)
 have:=key xs.length 0 a0 (by omega) h0;rwa[List.drop_zero]at this
theorem aV{α σ:Type}(g:σ->α->σ):∀(xs:List α) (a:σ),xs.foldlM (m:=Option) (λa x=>some (g a x)) a=some (xs.foldl g a)
 | [],_=>rfl
 |x::xs,a=>by rw[List.foldlM_cons,List.foldl_cons];exact aV g xs (g a x)
theorem TI{S α β σ:Type}{xs:List α}{body:S->Option (S ⊕ Option β)}(mk:Nat->σ->S)(g:σ->α->σ)(fin:σ->Option β)(I:Nat->σ->Prop)
  (hs:∀i acc (h:i<xs.length),I i acc->body (mk i acc)=some (.inl (mk (i+1) (g acc xs[i])))/\I (i+1) (g acc xs[i]))
  (he:∀acc,I xs.length acc->body (mk xs.length acc)=some (.inr (fin acc))) (a0:σ) (h0:I 0 a0):Bi body (mk 0 a0)=fin (xs.foldl g a0):=by
 rw[XX mk (λa x=>some (g a x)) none fin I (λi acc h hi=>⟨(hs i acc h hi).1,λa e=>by cases e;exact(hs i acc h hi).2⟩) he a0 h0,aV]
theorem xB{α β:Type}{xs:List α}{body:Int->Option (Int ⊕ Option β)}(p:α->Bool)(fin:Int->Option β)
  (hs:∀i (h:i<xs.length),body (i:Nat)=some (if p xs[i]=true then .inl ((i+1:Nat):Int)else .inr (fin (i:Nat)))) (he:body (xs.length:Nat)=some (.inr (fin (xs.length:Nat)))):Bi body 0=fin (Bd p xs:Nat):=by
 have key:∀n q,q+n=xs.length->Bi body (q:Nat)=fin ((q+Bd p (xs.drop q):Nat):Int):=by
  intro n
  induction n with
  |zero=>
   intro q hq;have e:q=xs.length:=by omega
   subst e;rw[DQ,he,List.drop_length];rfl
  |succ n ih=>
   intro q hq;have hl:q<xs.length:=by omega
   rw[DQ,hs q hl,A7 hl];by_cases hp:p xs[q]=true
   ·rw[if_pos hp];have e:Bd p (xs[q]::xs.drop (q+1))=Bd p (xs.drop (q+1))+1:=by unfold Bd;rw[List.takeWhile_cons,if_pos hp];rfl
    rw[e,show q+(Bd p (xs.drop (q+1))+1)=(q+1)+Bd p (xs.drop (q+1)) by omega];exact ih (q+1) (by omega)
   ·rw[if_neg hp];have e:Bd p (xs[q]::xs.drop (q+1))=0:=by unfold Bd;rw[List.takeWhile_cons,if_neg hp];rfl
    rw[e];rfl
 have:=key xs.length 0 (by omega);rw[List.drop_zero,Nat.zero_add]at this;exact this
def Io(v:BJ):Bool:=BR v.ab 1 100000&&Fw v.ar v.al
def Hd(a b:BJ):Bool:=decide (a.ab<b.ab)
def F3(l:List BJ):Bool:=BR (l.length:Int) 1 16&&(l.all Io&&CT Hd l)
def E1(c:Ag):Bool:=DK c.ae&&F3 c.af
def MD(a b:Ag):Bool:=bl a.ae b.ae
def CX(l:List Ag):Bool:=decide ((l.length:Int)<=24)&&(l.all E1&&CT MD l)
def Re(c:Ag):Prop:=c.ae.length<=2000000/\c.af.length<=2000000/\ ∀v∈c.af,v.ar.length<=2000000
def Gy(l:List Ag):Prop:=l.length<=2000000/\ ∀c∈l,Re c
theorem vA{c:Ag}(h:Re c):Sw c=some (F3 c.af):=by
 obtain⟨_,h2,h3⟩:=h;unfold Sw F3;rw[NK (xs:=c.af) (body:=λs:Int=>L3 c s) Io Hd false (Wr c) (λh0=> ?_) (λi hi=> ?_) (by simp[L3])]
 ·unfold Wr;simp only[Mi,Af];cases c.af.all Io<;>cases CT Hd c.af<;>cases BR (c.af.length:Int) 1 16<;>rfl
 ·show L3 c 0=_;unfold L3 No Io;rw[if_pos (by simpa using h0),show(0:Int)=((0:Nat):Int)from rfl,BQ h0,Af];simp only[Mi,Af,Tt (h3 _ (Bc h0))];cases BR c.af[0].ab 1 100000<;>cases Fw c.af[0].ar c.af[0].al<;>rfl
 ·show L3 c ((i+1:Nat):Int)=_;unfold L3 No Io Hd;rw[if_pos (by simp;omega),BQ hi,Af];simp only[Mi,Af,Tt (h3 _ (Bc hi))];rw[Mm (by omega) (by omega),Nat.add_sub_cancel,BQ (show i<c.af.length by omega),El hi (by omega)];have e:decide (c.af[i+1].ab<=c.af[i].ab)= !decide (c.af[i].ab<c.af[i+1].ab):=by rw[<-decide_not,decide_eq_decide];omega
  simp only[Af,e];rw[show decide (((i+1:Nat):Int)>0)=true by simp];cases BR c.af[i+1].ab 1 100000<;>cases Fw c.af[i+1].ar c.af[i+1].al<;>cases decide (c.af[i].ab<c.af[i+1].ab)<;>rfl
theorem fH{c:Ag}(h:Re c):Sv c=some (E1 c):=by
 obtain⟨h1,h2,h3⟩:=h;unfold Sv E1 F3;rw[NK (xs:=c.af) (body:=λs:Int=>L5 c s) (λv=>BR v.ab 1 100000&&(DK c.ae&&Fw v.ar v.al)) Hd false (Wq c) (λh0=> ?_) (λi hi=> ?_) (by simp[L5])]
 ·unfold Wq;simp only[gN h1,Mz,Af];cases hk:DK c.ae with
  |true=>
   have e:(c.af.all λv=>BR v.ab 1 100000&&(true&&Fw v.ar v.al))=c.af.all Io:=by congr 1
   rw[e];cases c.af.all Io<;>cases CT Hd c.af<;>cases BR (c.af.length:Int) 1 16<;>rfl
  |false=>split<;>simp
 ·show L5 c 0=_;unfold L5 S1;rw[if_pos (by simpa using h0),show(0:Int)=((0:Nat):Int)from rfl,BQ h0,Af];simp only[Mz,Af,X8 h1 (h3 _ (Bc h0))];cases BR c.af[0].ab 1 100000<;>cases(DK c.ae&&Fw c.af[0].ar c.af[0].al)<;>rfl
 ·show L5 c ((i+1:Nat):Int)=_;unfold L5 S1 Hd;rw[if_pos (by simp;omega),BQ hi,Af];simp only[Mz,Af,X8 h1 (h3 _ (Bc hi))];rw[Mm (by omega) (by omega),Nat.add_sub_cancel,BQ (show i<c.af.length by omega),El hi (by omega)];have e:decide (c.af[i].ab>=c.af[i+1].ab)= !decide (c.af[i].ab<c.af[i+1].ab):=by rw[<-decide_not,decide_eq_decide];omega
  simp only[Af,e];rw[show decide (((i+1:Nat):Int)>0)=true by simp];cases BR c.af[i+1].ab 1 100000<;>cases(DK c.ae&&Fw c.af[i+1].ar c.af[i+1].al)<;>cases decide (c.af[i].ab<c.af[i+1].ab)<;>rfl
theorem dO{α β:Type}{r:β->β->Bool}{f:α->β}:∀l:List α,CT r (l.map f)=CT (λa b=>r (f a) (f b)) l
 | []=>rfl
 | [_]=>rfl
 |x::y::l=>by show(r (f x) (f y)&&CT r ((y::l).map f))=_;rw[dO (y::l)];rfl
theorem eT{l:List Ag}(h:Gy l):Qb l=some (CX l):=by
 have hn:=h.1;unfold Qb;rw[show((0:Int),([]:List Bt))=(λ(i:Nat) (a:List Bt)=>((i:Int),a)) 0 []from rfl,XX (xs:=l) (body:=λs:Int × List Bt=>P1 l s.1 s.2) (λ(i:Nat) (a:List Bt)=>((i:Int),a)) (λa c=>if F3 c.af=true then some (a++ [c.ae])else none) (some false) (R5 l) (λi a=>a.length=i) (λi acc hi ha=> ?_) (λacc ha=>by simp[P1]) [] rfl]
 ·have hf:∀(xs:List Ag) (a:List Bt),xs.foldlM (m:=Option) (λa c=>if F3 c.af=true then some (a++ [c.ae])else none) a=if(xs.all λc=>F3 c.af)=true then some (a++xs.map (·.ae))else none:=by
   intro xs
   induction xs with
   |nil=>intro a;simp
   |cons x xs ih=>
    intro a;rw[List.foldlM_cons];by_cases hx:F3 x.af=true
    ·rw[if_pos hx];show xs.foldlM _ (a++ [x.ae])=_;rw[ih];simp[hx]
    ·rw[if_neg hx];simp[hx]
  rw[hf];unfold CX;by_cases hg:(l.all λc=>F3 c.af)=true
  ·rw[if_pos hg];show R5 l _=_;unfold R5;rw[List.nil_append,bC (by simpa using hn) (λk hk=>by obtain⟨c,hc,rfl⟩:=List.mem_map.1 hk;exact(h.2 c hc).1),W9,dO];have e:(l.map (·.ae)).all DK=l.all E1:=by
    rw[List.all_map,Bool.eq_iff_iff];simp only[Bg]at hg ⊢;refine⟨λq c hc=> ?_,λq c hc=> ?_⟩
    ·unfold E1;rw[hg c hc,Bool.and_true];exact q c hc
    ·have:=q c hc;unfold E1 at this;simp only[Ad]at this;exact this.1
   rw[e];show(if decide ((l.length:Int)<=24)=true then(some (l.all E1&&CT MD l)).bind λv2=>some v2 else some false)=_;cases decide ((l.length:Int)<=24)<;>rfl
  ·rw[if_neg hg];have e:l.all E1=false:=by
    cases hc:l.all E1
    ·rfl
    ·refine absurd ?_ hg;simp only[Bg]at hc ⊢;intro c q;have:=hc c q;unfold E1 at this;simp only[Ad]at this;exact this.2
   rw[e];simp
 ·have ha:acc.length=i:=ha;refine⟨?_,λa e=> ?_⟩
  ·show P1 l (i:Int) acc=_;unfold P1;rw[if_pos (by simpa using hi),BQ hi,Af,vA (h.2 _ (Bc hi)),Af,El hi (by omega)];cases F3 l[i].af with
   |false=>rfl
   |true=>rw[if_neg (by simp),CO (by simp;omega)];rfl
  ·split at e
   ·cases e;simp[ha]
   ·cases e
theorem X2{l:List Ag}(h:Gy l):Nn l=some (CX l):=by
 have hn:=h.1;unfold Nn CX;rw[NK (xs:=l) (body:=λs:Int=>L6 l s) E1 MD false (Wo l) (λh0=> ?_) (λi hi=> ?_) (by simp[L6])]
 ·unfold Wo;cases l.all E1<;>cases CT MD l<;>simp
 ·show L6 l 0=_;unfold L6;rw[if_pos (by simpa using h0),show(0:Int)=((0:Nat):Int)from rfl,BQ h0,Af,fH (h.2 _ (Bc h0)),Af];cases E1 l[0]<;>rfl
 ·show L6 l ((i+1:Nat):Int)=_;unfold L6 MD;rw[if_pos (by simp;omega),BQ hi,Af,fH (h.2 _ (Bc hi)),Af];rw[Mm (by omega) (by omega),Nat.add_sub_cancel,BQ (show i<l.length by omega),El hi (by omega)];simp only[Af];rw[show decide (((i+1:Nat):Int)>0)=true by simp];rw[show bl l[i].ae l[i+1].ae=Op.bytesLess l[i].ae l[i+1].ae from rfl];cases E1 l[i+1]<;>cases Op.bytesLess l[i].ae l[i+1].ae<;>rfl
def JR(a u:Int)(v:BJ):Bool:=decide (v.ab>a)&&decide (v.ab<=u)
def E3(g:Int)(c:Ag)(v:BJ):An:=⟨v.ab,g,c.ae,v.ar,v.al⟩
def JU(g a u:Int)(c:Ag):List An:=(c.af.filter (JR a u)).map (E3 g c)
def F5(g a u:Int)(l:List Ag):List An:=l.flatMap (JU g a u)
theorem Xj(g a u:Int)(c:Ag):(JU g a u c).length<=c.af.length:=by unfold JU;rw[List.length_map];exact List.length_filter_le _ _
theorem Xk{g a u:Int}:∀{l:List Ag},(∀c∈l,c.af.length<=16)->(F5 g a u l).length<=16*l.length
 | [],_=>by simp[F5]
 |c::l,h=>by have h1:=Xj g a u c;have h2:=h c (by simp);have h3:=Xk (g:=g) (a:=a) (u:=u) (l:=l) λc hc=>h c (by simp[hc]);unfold F5 at*;rw[List.flatMap_cons,AO,AM];omega
def Up(l:List Ag):Prop:=l.length<=24/\ ∀c∈l,c.af.length<=16
theorem dJ{α β:Type}(p:α->Bool)(f:α->β):∀(xs:List α) (a:List β),xs.foldl (λa x=>if p x=true then a++ [f x]else a) a=a++(xs.filter p).map f
 | [],a=>by simp
 |x::xs,a=>by
  rw[List.foldl_cons,dJ p f xs];by_cases h:p x=true
  ·rw[if_pos h,List.filter_cons_of_pos h];simp
  ·rw[if_neg h,List.filter_cons_of_neg h]
theorem bU{α β:Type}(f:α->List β):∀(xs:List α) (a:List β),xs.foldl (λa x=>a++f x) a=a++xs.flatMap f
 | [],a=>by simp
 |x::xs,a=>by rw[List.foldl_cons,bU f xs,List.flatMap_cons,List.append_assoc]
theorem tS{s:NY}{g a u:Int}(h:Up s.bw):SF s g a u=some (ES (F5 g a u s.bw).toArray).toList:=by
 obtain⟨h1,h2⟩:=h;unfold SF;rw[show((0:Int),([]:List An))=(λ(i:Nat) (a:List An)=>((i:Int),a)) 0 []from rfl,TI (xs:=s.bw) (λ(i:Nat) (a:List An)=>((i:Int),a)) (λacc c=>acc++JU g a u c) Wv (λi acc=>acc.length<=16*i) (λi acc hi ha=> ?_) (λacc ha=>by simp[Sh]) [] (by simp),bU,List.nil_append]
 ·unfold Wv S9;have hl:(F5 g a u s.bw).length<=400:=Nat.le_trans (Xk h2) (by omega);rw[CO ⟨rfl,rfl,by show(F5 g a u s.bw).length<_;omega⟩];rfl
 ·have hv:=h2 _ (Bc hi);refine⟨?_,by rw[AO];have:=Xj g a u s.bw[i];omega⟩;show Sh s g a u (i:Int) acc=_;unfold Sh;rw[if_pos (by simpa using hi),BQ hi,Af];rw[show((0:Int),acc)=(λ(i:Nat) (a:List An)=>((i:Int),a)) 0 acc from rfl,TI (xs:=s.bw[i].af) (λ(i:Nat) (a:List An)=>((i:Int),a)) (λacc v=>if JR a u v=true then acc++ [E3 g s.bw[i] v]else acc) (λacc=>Wx (i:Int) acc) (λk acc=>acc.length<=16*i+k) (λk acc hk hb=> ?_) (λacc hb=>by simp[Sr]) acc (by omega),dJ]
  ·unfold Wx;rw[El hi (by omega)];rfl
  ·have e:Sr g a u (i:Int) s.bw[i] (k:Int) acc=some (.inl (((k+1:Nat):Int),if JR a u s.bw[i].af[k]=true then acc++ [E3 g s.bw[i] s.bw[i].af[k]]else acc)):=by
    unfold Sr;rw[if_pos (by simpa using hk),BQ hk,Af,El hk (by omega)];unfold JR;by_cases hp:(decide (s.bw[i].af[k].ab>a)&&decide (s.bw[i].af[k].ab<=u))=true
    ·rw[if_pos hp,if_pos hp,CO (by simp;omega)];rfl
    ·rw[if_neg hp,if_neg hp]
   refine⟨e,?_⟩;split
   ·simp;omega
   ·omega
def Ew(l:List An)(x:An):List An:=
 if h:Bd (λy=>A9 y x) l<l.length then(if A9 x l[Bd (λy=>A9 y x) l]=true then l.take (Bd (λy=>A9 y x) l)++ [x]++l.drop (Bd (λy=>A9 y x) l)else l)else l++ [x]
theorem eN(l:List An)(x:An):(Ew l x).length<=l.length+1:=by
 unfold Ew;split
 ·split
  ·simp;omega
  ·omega
 ·simp
theorem zX{l:List An}{x:An}(h:l.length<=2000000):∃b,P3 l x=some (Ew l x,b):=by
 unfold P3;rw[xB (xs:=l) (body:=λs:Int=>PU l x s) (λy=>A9 y x) (Sj l x) (λi hi=>by show PU l x (i:Int)=_;unfold PU;rw[if_pos (by simpa using hi),BQ hi,Af,TJ,Af,El hi (by omega)];cases A9 l[i] x<;>rfl) (by simp[PU])]
 have hp:=Mn (λy=>A9 y x) l;unfold Ew;generalize Bd (λy=>A9 y x) l=p at hp;have w1:A8 l 0 (p:Int)=l.take p:=by simp[A8]
 have w2:A8 l (p:Int) (l.length:Int)=l.drop p:=by simp[A8]
 have l1:(l.take p).length=p:=by rw[AF];omega
 have l2:(l.drop p).length=l.length-p:=by rw[B1]
 unfold Sj;rw[w1,w2];by_cases hl:p<l.length
 ·rw[if_pos (by simpa using hl),BQ hl,Af,TJ,Af,dif_pos hl];cases A9 x l[p]with
  |false=>exact⟨_,rfl⟩
  |true=>rw[if_neg (by simp),if_pos rfl,CO (by omega),CO (by rw[l1];simp;omega),CO (by rw[l1];simp;omega),CO (by omega),CO (by rw[AO,l1,l2];simp;omega)];exact⟨_,rfl⟩
 ·have e:p=l.length:=by omega
  rw[if_neg (by simpa using hl),dif_neg hl,CO (by omega),CO (by rw[l1];simp;omega),CO (by rw[l1];simp;omega),CO (by omega),CO (by rw[AO,l1,l2];simp;omega)];subst e;exact⟨true,by simp⟩
theorem dK(p:BJ->Bool)(f:BJ->An):∀(xs:List BJ) (a:List An),xs.foldl (λa x=>if p x=true then Ew a (f x)else a) a=((xs.filter p).map f).foldl Ew a
 | [],a=>by simp
 |x::xs,a=>by
  rw[List.foldl_cons,dK p f xs];by_cases h:p x=true
  ·rw[if_pos h,List.filter_cons_of_pos h];simp
  ·rw[if_neg h,List.filter_cons_of_neg h]
theorem bM{α β σ:Type}(f:α->List β)(g:σ->β->σ):∀(xs:List α) (a:σ),xs.foldl (λa x=>(f x).foldl g a) a=(xs.flatMap f).foldl g a
 | [],a=>by simp
 |x::xs,a=>by rw[List.foldl_cons,bM f g xs,List.flatMap_cons,List.foldl_append]
theorem eV:∀(xs l:List An),(xs.foldl Ew l).length<=l.length+xs.length
 | [],l=>by simp
 |x::xs,l=>by have h1:=eV xs (Ew l x);have h2:=eN l x;rw[List.foldl_cons,AM];omega
theorem xR{l:List Ag}{g a u:Int}(h:Up l):SM l g a u=some ((F5 g a u l).foldl Ew []):=by
 obtain⟨h1,h2⟩:=h;unfold SM;rw[show(([]:List An),(0:Int))=(λ(i:Nat) (a:List An)=>(a,(i:Int))) 0 []from rfl,TI (xs:=l) (λ(i:Nat) (a:List An)=>(a,(i:Int))) (λacc c=>(JU g a u c).foldl Ew acc) (λacc=>some acc) (λi acc=>acc.length<=16*i) (λi acc hi ha=> ?_) (λacc ha=>by simp[SI]) [] (by simp),bM]
 ·rfl
 ·have hv:=h2 _ (Bc hi);refine⟨?_,by have:=eV (JU g a u l[i]) acc;have:=Xj g a u l[i];omega⟩;show SI l g a u acc (i:Int)=_;unfold SI;rw[if_pos (by simpa using hi)];rw[show(acc,(0:Int))=(λ(i:Nat) (a:List An)=>(a,(i:Int))) 0 acc from rfl,TI (xs:=l[i].af) (λ(i:Nat) (a:List An)=>(a,(i:Int))) (λacc v=>if JR a u v=true then Ew acc (E3 g l[i] v)else acc) (λacc=>WD (i:Int) acc) (λk acc=>acc.length<=16*i+k) (λk acc hk hb=> ?_) (λacc hb=>by simp[SH,BQ hi]) acc (by omega),dK]
  ·unfold WD;rw[El hi (by omega)];rfl
  ·have e:SH l g a u (i:Int) acc (k:Int)=some (.inl ((if JR a u l[i].af[k]=true then Ew acc (E3 g l[i] l[i].af[k])else acc),((k+1:Nat):Int))):=by
    unfold SH;rw[BQ hi,Af,if_pos (by simpa using hk),BQ hk,Af,El hk (by omega)];unfold JR;obtain⟨b,BF⟩:=zX (l:=acc) (x:=E3 g l[i] l[i].af[k]) (by omega);by_cases hp:(decide (l[i].af[k].ab>a)&&decide (l[i].af[k].ab<=u))=true
    ·rw[if_pos hp,if_pos hp];show(P3 acc (E3 g l[i] l[i].af[k])).bind _=_;rw[BF];rfl
    ·rw[if_neg hp,if_neg hp]
   refine⟨e,?_⟩;split
   ·have:=eN acc (E3 g l[i] l[i].af[k]);omega
   ·omega
def I7(a b:An):Prop:=A9 a b=true\/A9 b a=true
theorem I7.symm{a b:An}(h:I7 a b):I7 b a:=Or.symm h
theorem uI(a b:An):A9 a b=E9 a b:=rfl
theorem uL{l:List An}{x:An}(hl:l.Pairwise λa b=>A9 a b=true)(hx:∀y∈l,I7 x y):((Ew l x).Pairwise λa b=>A9 a b=true)/\(Ew l x).Perm (x::l):=by
 have e:Ew l x=l.take (Bd (λy=>A9 y x) l)++x::l.drop (Bd (λy=>A9 y x) l):=by
  unfold Ew;split
  ·rename_i h;have h1:=QP h;have h2:A9 x l[Bd (λy=>A9 y x) l]=true:=by
    rcases hx _ (Bc h)with h3|h3
    ·exact h3
    ·have h1:A9 l[Bd (λy=>A9 y x) l] x=false:=h1;rw[h1]at h3;cases h3
   rw[if_pos h2];simp
  ·rename_i h;have:=Mn (λy=>A9 y x) l;have e:Bd (λy=>A9 y x) l=l.length:=by omega
   rw[e];simp
 rw[e];have hd:l=l.take (Bd (λy=>A9 y x) l)++l.drop (Bd (λy=>A9 y x) l):=(Bq _ _).symm;have h1:∀y∈l.take (Bd (λy=>A9 y x) l),A9 y x=true:=by intro y hy;obtain⟨i,hi,rfl⟩:=List.getElem_of_mem hy;rw[List.getElem_take];exact NS (lt:=λy=>A9 y x) (l:=l) (i:=i) (by rw[AF]at hi;omega)
 have h2:∀y∈l.drop (Bd (λy=>A9 y x) l),A9 x y=true:=by
  intro y hy;by_cases hp:Bd (λy=>A9 y x) l<l.length
  ·have h3:=QP hp;rw[A7 hp]at hy;have Hg:=hl;rw[hd]at Hg;have Hg:=(List.pairwise_append.1 Hg).2.1;rw[A7 hp]at Hg;have Hg:=List.pairwise_cons.1 Hg;have h4:A9 x l[Bd (λy=>A9 y x) l]=true:=by
    rcases hx _ (Bc hp)with h|h
    ·exact h
    ·have h3:A9 l[Bd (λy=>A9 y x) l] x=false:=h3;rw[h3]at h;cases h
   rcases Ac.1 hy with rfl|hy
   ·exact h4
   ·exact bA h4 (Hg.1 y hy)
  ·rw[List.drop_eq_nil_of_le (by omega)]at hy;cases hy
 refine⟨?_,?_⟩
 ·have Bm:=hl;rw[hd]at Bm;obtain⟨a1,a2,a3⟩:=List.pairwise_append.1 Bm;refine List.pairwise_append.2 ⟨a1,List.pairwise_cons.2 ⟨h2,a2⟩,λy hy z hz=> ?_⟩;rcases Ac.1 hz with rfl|hz
  ·exact h1 y hy
  ·exact a3 y hy z hz
 ·refine List.perm_middle.trans ?_;rw[Bq]
theorem bF:∀(xs l:List An),(l.Pairwise λa b=>A9 a b=true)->xs.Pairwise I7->(∀x∈xs,∀y∈l,I7 x y)->((xs.foldl Ew l).Pairwise λa b=>A9 a b=true)/\(xs.foldl Ew l).Perm (xs++l)
 | [],l,h,_,_=>⟨h,List.Perm.refl _⟩
 |x::xs,l,h,hp,hr=>by
  have hp:=List.pairwise_cons.1 hp;obtain⟨h1,h2⟩:=uL h (hr x (by simp));obtain⟨h3,h4⟩:=bF xs (Ew l x) h1 hp.2 (λz hz y hy=>by
   rcases Ac.1 (h2.mem_iff.1 hy)with rfl|hy
   ·exact(hp.1 z hz).symm
   ·exact hr z (by simp[hz]) y hy)
  exact⟨h3,h4.trans ((List.Perm.append_left xs h2).trans List.perm_middle)⟩
theorem bP:∀{a b:List An},(a.Pairwise λx y=>A9 x y=true)->(b.Pairwise λx y=>A9 x y=true)->a.Perm b->a=b
 | [],b,_,_,h=>by rw[h.nil_eq]
 |x::a,[],_,_,h=>by have:=h.length_eq;simp at this
 |x::a,y::b,ha,hb,h=>by
  have Zh:=List.pairwise_cons.1 ha;have BF:=List.pairwise_cons.1 hb;have e:x=y:=by
   rcases Ac.1 (h.mem_iff.1 (List.mem_cons_self ..))with h1|h1
   ·exact h1
   ·rcases Ac.1 (h.mem_iff.2 (List.mem_cons_self ..))with h2|h2
    ·exact h2.symm
    ·have:=bA (Zh.1 y h2) (BF.1 x h1);rw[rL]at this;cases this
  subst e;rw[bP Zh.2 BF.2 (List.Perm.cons_inv h)]
theorem Xg{l:List An}(h:l.Pairwise I7):((ES l.toArray).toList.Pairwise λa b=>A9 a b=true)/\(ES l.toArray).toList.Perm l:=by
 obtain⟨h1,h2,h3⟩:=cO l.toArray;have hp:(ES l.toArray).toList.Perm l:=by simpa using h1
 refine⟨?_,hp⟩;have hr:(ES l.toArray).toList.Pairwise I7:=(hp.pairwise_iff (λ{a b} h=>I7.symm h)).2 h;rw[List.pairwise_iff_getElem]at hr ⊢;intro i j hi hj IF;rcases hr i j hi hj IF with q|q
 ·exact q
 ·have hs:(ES l.toArray).size=l.length:=by simpa using h2
  have IE:i<(ES l.toArray).size:=by simpa using hi
  have Km:j<(ES l.toArray).size:=by simpa using hj
  have:=h3 i j (Nat.zero_le _) IF (by simpa[hs]using Km);rw[TC,getElem!_pos _ j Km,getElem!_pos _ i IE]at this;rw[uI]at q;simp only[Array.getElem_toList]at q;rw[this]at q;cases q
theorem Ys{l:List Ag}(h:CX l=true):Up l:=by unfold CX at h;simp only[Ad,Au,Bg]at h;refine⟨by omega,λc hc=> ?_⟩;have:=h.2.1 c hc;unfold E1 F3 at this;simp only[Ad]at this;have:=IU.1 this.2.1;omega
theorem XE{g a u:Int}{l:List Ag}(h:CX l=true):(F5 g a u l).Pairwise I7:=by
 unfold CX at h;simp only[Ad,Au,Bg]at h;obtain⟨_,h2,h3⟩:=h;have h3:=(Me (r:=MD) (λa b c h k=>G5 h k)).1 h3;unfold F5;rw[List.pairwise_flatMap];refine⟨λc hc=> ?_,h3.imp λ{c d} UT x hx y hy=> ?_⟩
 ·have:=h2 c hc;unfold E1 F3 at this;simp only[Ad]at this;have hv:=(Me (r:=Hd) (λa b c h k=>by unfold Hd at*;simp only[Au]at*;omega)).1 this.2.2.2;unfold JU;rw[List.pairwise_map];refine(hv.filter _).imp λ{x y} E8=> ?_;unfold Hd at E8;rcases TU (E3 g c x) (E3 g c y)with q|q|q
  ·exact .inl q
  ·exact .inr q
  ·have q1:x.ab=y.ab:=q.1;simp only[Au]at E8;omega
 ·unfold JU at hx hy;obtain⟨v,_,rfl⟩:=List.mem_map.1 hx;obtain⟨w,_,rfl⟩:=List.mem_map.1 hy;rcases TU (E3 g c v) (E3 g d w)with q|q|q
  ·exact .inl q
  ·exact .inr q
  ·exact absurd q.2.2 (Iy UT)
theorem sO{g a u:Int}{l:List Ag}(h:CX l=true):(F5 g a u l).foldl Ew []=(ES (F5 g a u l).toArray).toList:=by have hr:=XE (g:=g) (a:=a) (u:=u) h;obtain⟨h1,h2⟩:=bF (F5 g a u l) [] .nil hr (by simp);obtain⟨h3,h4⟩:=Xg hr;exact bP h1 h3 ((by simpa using h2:((F5 g a u l).foldl Ew []).Perm (F5 g a u l)).trans h4.symm)
def Ev(g a u:Int)(l:List Ag):List An:=(ES (F5 g a u l).toArray).toList
def Iq(l:List Ag)(a u:Int):CU × Bool:=
 if CX l=true then(if E2 ⟨a,u,Ev 0 a u l⟩=true then(⟨a,u,Ev 0 a u l⟩,true)else(⟨0,0,[]⟩,false))else(⟨0,0,[]⟩,false)
theorem S7{g a u:Int}{l:List Ag}(h:Gy l)(hg:CX l=true):Ob (Ev g a u l):=by obtain⟨_,h4⟩:=Xg (XE (g:=g) (a:=a) (u:=u) hg);have hf:=Ys hg;have hl:=Xk (g:=g) (a:=a) (u:=u) hf.2;have:=hf.1;refine⟨by unfold Ev;rw[h4.length_eq];omega,λx hx=> ?_⟩;have hx:=h4.mem_iff.1 hx;obtain⟨c,hc,hx⟩:=List.mem_flatMap.1 hx;unfold JU at hx;obtain⟨v,hv,rfl⟩:=List.mem_map.1 hx;have:=h.2 c hc;exact⟨this.1,this.2.2 v (List.mem_filter.1 hv).1⟩
theorem uF{l:List Ag}{a u:Int}(h:Gy l):Ss l a u=some (Iq l a u):=by
 unfold Ss Iq;rw[eT h,Af];cases hg:CX l with
 |false=>rfl
 |true=>rw[if_neg (by simp),if_pos rfl,tS (s:=⟨0,l,[],[]⟩) (Ys hg),Af];unfold WN;have hs:=S7 (g:=0) (a:=a) (u:=u) h hg;show((Ma ⟨a,u,Ev 0 a u l⟩).bind _).bind _=_;rw[Yf (d:=⟨a,u,Ev 0 a u l⟩) hs,Af];cases E2 ⟨a,u,Ev 0 a u l⟩<;>rfl
theorem sP{l:List Ag}{a u:Int}(h:Gy l)(ha: -9223372036854775808<=a/\a<=9223372036854775807):S5 l a u=some (Iq l a u):=by
 unfold S5 Iq;rw[X2 h,Af];cases hg:CX l with
 |false=>rfl
 |true=>rw[if_neg (by simp),if_pos rfl,xR (Ys hg),Af,sO hg];unfold WI;have hs:=S7 (g:=0) (a:=a) (u:=u) h hg;show((P6 ⟨a,u,Ev 0 a u l⟩).bind _).bind _=_;rw[yQ (d:=⟨a,u,Ev 0 a u l⟩) hs ha,Af];cases E2 ⟨a,u,Ev 0 a u l⟩<;>rfl
end
noncomputable section
open Go.RowKit
set_option maxRecDepth 100000
set_option maxHeartbeats 1000000
def Cc{α:Type}(o:Option α)(Q:α->Prop):Prop:= ∃x,o=some x/\Q x
section
variable {α β σ:Type} {Q:β->Prop}
theorem Cc.bind{o:Option α}{P:α->Prop}{f:α->Option β}(h:Cc o P)(hf:∀x,P x->Cc (f x) Q):Cc (o.bind f) Q:=by obtain⟨x,rfl,hx⟩:=h;exact hf x hx
theorem Cc.ret{x:β}(h:Q x):Cc (some x) Q:=⟨x,rfl,h⟩
theorem Cc.ite{b:Bool}{A B:Option β}(ha:b=true->Cc A Q)(hb:b=false->Cc B Q):Cc (if b=true then A else B) Q:=by
 cases b with
 |true=>simpa using ha rfl
 |false=>simpa using hb rfl
theorem Cc.req{p:Prop}[Decidable p]{k:Option β}(hp:p)(hk:Cc k Q):Cc (req p k) Q:=by rw[CO hp];exact hk
theorem Cc.mono{o:Option β}{P:β->Prop}(h:Cc o P)(jE:∀x,P x->Q x):Cc o Q:=by obtain⟨x,hx,h⟩:=h;exact⟨x,hx,jE x h⟩
theorem Cc.getI{xs:List β}{i:Int}(h0:0<=i)(h:i<xs.length)(hq:∀x,x∈xs->Q x):Cc (getI xs i) Q:=by obtain⟨x,h1,h2,_⟩:=xP h0 h;exact⟨x,h1,hq x h2⟩
theorem cA{body:σ->Option (σ ⊕ Option β)}(I:Nat->σ->Prop)(h:∀n s,I n s->Cc (body s) λo=>match o with| .inl s'=> ∃m,m<n/\I m s'| .inr q=>Cc q Q):∀{n:Nat} {s:σ},I n s->Cc (Bi body s) Q:=by
 intro n
 induction n using Nat.strongRecOn with
 |_ n ih=>
  intro s hI;obtain⟨o,ho,h2⟩:=h n s hI;rw[DQ,ho]
  match o,h2 with
  | .inl s',⟨m,hm,Uy⟩=>exact ih m hm Uy
  | .inr q,hq=>exact hq
end
structure EO where
 ff:List Int->Prop
 ln:∀l,ff l-> ∀b∈l,0<=b/\b<=255
instance codeBytes:Inhabited EO:=⟨⟨λl=> ∀b∈l,0<=b/\b<=255,λ_ h=>h⟩⟩
def CW[Inhabited EO](c:BH)(k:Int):Prop:=(default:EO).ff c.bg/\0<=c.dg/\c.dg<=k
theorem CW.up[Inhabited EO]{c:BH}{i j:Int}(h:CW c i)(IF:i<=j):CW c j:=⟨h.1,h.2.1,by have:=h.2.2;omega⟩
theorem CW.start[Inhabited EO]{code:List Int}(h:(default:EO).ff code):CW ⟨code,0,0⟩ 0:=⟨h,by simp,by simp⟩
theorem gP(a:Int):0<=IntKind.i64.wrap (IntKind.u64.wrap ((BitVec.ofInt (IntKind.bits .u64) a&&&BitVec.ofInt (IntKind.bits .u64) 255).toNat:Int))/\IntKind.i64.wrap (IntKind.u64.wrap ((BitVec.ofInt (IntKind.bits .u64) a&&&BitVec.ofInt (IntKind.bits .u64) 255).toNat:Int))<=255:=by
 have h:(BitVec.ofInt (IntKind.bits .u64) a&&&BitVec.ofInt (IntKind.bits .u64) 255).toNat<=255:=by rw[BitVec.toNat_and];exact Nat.le_trans Nat.and_le_right (by decide)
 generalize (BitVec.ofInt (IntKind.bits .u64) a&&&BitVec.ofInt (IntKind.bits .u64) 255).toNat=m at h ⊢;have e:IntKind.u64.wrap (m:Int)=m:=by simp[IntKind.wrap,IntKind.bits,IntKind.signed];omega
 rw[e,Ek (by omega) (by omega)];omega
theorem gC[Inhabited EO]{c:BH}{k:Int}(h:CW c k)(hk:k<=4611686018427387904):Cc (PZ c) λp=>(0<=p.1/\p.1<=255)/\CW p.2 (k+1):=by
 obtain⟨hb,h0,h1⟩:=h;have w:IntKind.i64.wrap (c.dg+1)=c.dg+1:=Ek (by omega) (by omega);unfold PZ;refine .ite (λAA=> ?_) λAA=> ?_
 ·simp only[Au]at AA;refine Cc.bind (P:=λy=>0<=y/\y<=255) (.getI h0 AA ((default:EO).ln _ hb)) λy hy=> ?_;have wy:IntKind.i64.wrap y=y:=Ek (by omega) (by omega);refine .ite (λ_=> .ret ⟨by dsimp only;rw[wy];exact hy,hb,by dsimp only;omega,by dsimp only;omega⟩) λ_=> .ret ⟨gP _,hb,by dsimp only;omega,by dsimp only;omega⟩
 ·refine .ite (λ_=> .ret ⟨by simp,hb,by dsimp only;omega,by dsimp only;omega⟩) λ_=> .ret ⟨gP _,hb,by dsimp only;omega,by dsimp only;omega⟩
theorem Ms[Inhabited EO]{c:BH}{k:Int}(n:Int)(h:CW c k)(hk:k<=4611686018427387000):Cc (IM c n) λp=>(0<=p.1/\(1<=n->p.1<n)/\p.1<=65535)/\CW p.2 (k+2):=by
 have tm:∀x:Int,0<=x->1<n->0<=x.tmod n/\x.tmod n<n/\x.tmod n<=x:=λx hx hn=>by
  rw[Int.tmod_eq_emod_of_nonneg hx];exact⟨Int.emod_nonneg _ (by omega),Int.emod_lt_of_pos _ (by omega),by have:=Int.emod_add_mul_ediv x n;have h2:0<=n*(x/n):=Int.mul_nonneg (by omega) (Int.ediv_nonneg hx (by omega));omega⟩
 unfold IM;refine .ite (λhn=> .ret ⟨⟨by simp,λh1=>by dsimp only;omega,by simp⟩,h.up (by omega)⟩) λhn=> ?_;simp only[decide_eq_false_iff_not]at hn;refine(gC h (by omega)).bind λp ⟨hp,hc⟩=> ?_;refine .ite (λ_=> ?_) λ_=> ?_
 ·refine(gC hc (by omega)).bind λq ⟨hq,hd⟩=> .req (by omega) (.ret ?_);have w1:IntKind.i64.wrap (p.1*256)=p.1*256:=Ek (by omega) (by omega);have w2:IntKind.i64.wrap (p.1*256+q.1)=p.1*256+q.1:=Ek (by omega) (by omega);have:=tm (p.1*256+q.1) (by omega) (by omega);dsimp only;rw[w1,w2];exact⟨⟨this.1,λ_=>this.2.1,by omega⟩,hd.up (by omega)⟩
 ·have:=tm p.1 hp.1 (by omega);exact .req (by omega) (.ret ⟨⟨this.1,λ_=>this.2.1,by dsimp only;omega⟩,hc.up (by omega)⟩)
theorem XY[Inhabited EO]{c:BH}{k:Int}(l:List Int)(hl:l≠ [])(h:CW c k)(hk:k<=4611686018427387000):Cc (IL c l) λp=>p.1∈l/\CW p.2 (k+2):=by unfold IL;have Pq:0<l.length:=List.length_pos_iff.2 hl;refine(Ms l.length h hk).bind λp ⟨hp,hc⟩=> ?_;exact Cc.bind (P:=λy=>y∈l) (.getI hp.1 (hp.2.1 (by omega)) λx hx=>hx) λy hy=> .ret ⟨hy,hc⟩
theorem Yx[Inhabited EO]{c:BH}{k:Int}(n:Int)(h:CW c k)(hk:k<=4611686018427387000):Cc (M7 c n) λp=>CW p.2 (k+2):=by unfold M7;exact(Ms n h hk).bind λp ⟨_,hc⟩=> .ret hc
theorem dQ{σ α:Type}{body:σ->Option (σ ⊕ Option α)}{s:σ}{o:Option α}(h:body s=some (.inr o)):Bi body s=o:=by rw[DQ,h]
theorem uG{σ α:Type}{body:σ->Option (σ ⊕ Option α)}{s s':σ}(h:body s=some (.inl s')):Bi body s=Bi body s':=by rw[DQ,h]
theorem N7{i:Nat}(h0:0<i)(h:i<=2000000):IntKind.i64.wrap ((i:Int)-1)=((i-1:Nat):Int):=by rw[Ek (by omega) (by omega)];omega
section
variable {α:Type} {key:α->Int}
def Iv(key:α->Int)(l:List α):Prop:=l.Pairwise λa b=>key a<key b
theorem Iv.filter{l:List α}(h:Iv key l)(p:α->Bool):Iv key (l.filter p):=List.Pairwise.filter p h
theorem Iv.tail{x:α}{l:List α}(h:Iv key (x::l)):Iv key l:=(List.pairwise_cons.1 h).2
theorem Iv.mono{l:List α}(h:Iv key l){i j:Nat}(hj:j<l.length)(hi:i<j):key l[i]<key l[j]:=List.pairwise_iff_getElem.1 h i j (by omega) hj hi
theorem Iv.len{lo hi:Int}:∀{l:List α},Iv key l->(∀y∈l,lo<=key y/\key y<=hi)->(l.length:Int)<=max 0 (hi-lo+1)
 | [],_,_=>by simp;omega
 |x::l,h,hb=>by
  obtain⟨h1,h2⟩:=List.pairwise_cons.1 h;have hx:=hb x (by simp);have:=Iv.len (lo:=key x+1) (hi:=hi) h2 λy hy=>⟨by have:=h1 y hy;omega,(hb y (by simp[hy])).2⟩
  rw[AM];omega
end
abbrev ck(c:Ag):Bt:=c.ae
abbrev K2(l:List Ag):Prop:=DA ck l
def GC(l:List Ag)(k:Bt):Option Ag:=l.find? λc=>c.ae==k
def YQ(c:Ag):Int:=match c.af.getLast? with|some v=>v.ab|none=>0
def K3(l:List Ag)(k:Bt):Int:=match GC l k with|some c=>YQ c|none=>0
def JV(l:List Ag)(k:Bt):List BJ:=match GC l k with|some c=>c.af|none=> []
def J5(l:List Ag)(k:Bt)(v:BJ):List Ag:=Em ck ⟨k,JV l k++ [v]⟩ l
def J0(t:Int)(l:List Ag)(w:Aw):Option (List Ag):=if t<=K3 l w.ae then none else some (J5 l w.ae ⟨t,w.ar,w.al⟩)
def Oo(t:Int)(l:List Ag)(ws:List Aw):Option (List Ag):=ws.foldlM (J0 t) l
abbrev hk(h:Uf):Int:=h.jc
def zwd(ws:List Aw)(k:Bt):Bool:=ws.any λw=>w.ae==k
theorem Yo{β:Type}{body:Int->Option (Int ⊕ Option β)}{fin:Option β}(m:Nat)(he:body (m:Nat)=some (.inr fin)):∀n:Nat,m<=n->(∀i:Nat,m<=i->i<n->body ((i+1:Nat):Int)=some (.inl (i:Int)))->Bi body (n:Nat)=fin
 |0,h,_=>by
  have e:m=0:=by omega
  subst e;exact dQ he
 |n+1,h,hs=>by
  by_cases e:m=n+1
  ·subst e;exact dQ he
  ·rw[uG (hs n (by omega) (by omega))];exact Yo m he n (by omega) λi h1 h2=>hs i h1 (by omega)
theorem w6{α:Type}{vs:List α}(h:vs≠ [])(hl:vs.length<=2000000):getI vs (IntKind.i64.wrap ((vs.length:Int)-1))=some (vs.getLast h):=by
 have hp:0<vs.length:=by cases vs with|nil=>exact absurd rfl h|cons=>simp
 rw[N7 hp hl,BQ (by omega),List.getLast_eq_getElem]
def Ef(n:Nat)(l:List Ag):Prop:=K2 l/\(l.length<=n/\ ∀c∈l,c.af≠ []/\(c.af.length<=n/\Re c))
theorem Xs{l:List Ag}{k:Bt}{c:Ag}(h:GC l k=some c):c∈l/\c.ae=k:=⟨List.mem_of_find?_eq_some h,by have:=List.find?_some h;simpa using this⟩
theorem X5{l:List Ag}{k:Bt}{c:Ag}(hr:K2 l)(hc:c∈l)(hk:c.ae=k):GC l k=some c:=by
 cases h:GC l k with
 |none=>have:=List.find?_eq_none.1 h c hc;simp[hk]at this
 |some d=>obtain⟨h1,h2⟩:=Xs h;rw[DA.ew (key:=ck) hr h1 hc (by rw[ck,ck,h2,hk])]
theorem X7{l:List Ag}{k:Bt}(h:∀c∈l,c.ae≠k):GC l k=none:=by unfold GC;rw[List.find?_eq_none];intro y hy;simpa using h y hy
abbrev Bk(l:List Ag)(k:Bt):Nat:=Bd (λw:Ag=>bl w.ae k) l
theorem zva(l:List Ag)(k:Bt):Bk l k<=l.length:=Mn _ l
theorem rF{l:List Ag}(hr:K2 l)(k:Bt):(∃h:Bk l k<l.length,l[Bk l k].ae=k/\GC l k=some l[Bk l k])\/((∀c∈l,c.ae≠k)/\GC l k=none/\ ∀h:Bk l k<l.length,bl k l[Bk l k].ae=true):=by
 have RP:=List.pairwise_iff_getElem.1 hr;by_cases hp:Bk l k<l.length
 ·by_cases hk:l[Bk l k].ae=k
  ·exact .inl ⟨hp,hk,X5 hr (Bc hp) hk⟩
  ·right;have hn:bl (l[Bk l k]'hp).ae k=false:=QP hp;have hg:bl k l[Bk l k].ae=true:=Xu hn hk;have Ct:∀c∈l,c.ae≠k:=by
    intro c hc e;obtain⟨j,hj,rfl⟩:=List.mem_iff_getElem.1 hc;rcases Nat.lt_trichotomy j (Bk l k)with h|h|h
    ·exact Iy (NS h) e
    ·subst h;exact hk e
    ·have:=RP (Bk l k) j hp hj h;rw[ck,ck,e,TD hg]at this;cases this
   exact⟨Ct,X7 Ct,λ_=>hg⟩
 ·right;have Ct:∀c∈l,c.ae≠k:=by
   intro c hc e;obtain⟨j,hj,rfl⟩:=List.mem_iff_getElem.1 hc;exact Iy (NS (lt:=λw:Ag=>bl w.ae k) (show j<Bk l k by omega)) e
  exact⟨Ct,X7 Ct,λh=>absurd h hp⟩
theorem yZ{l:List Ag}{k:Bt}(hl:l.length<=2000000)(hr:K2 l):∃i:Int,Ta l k=some i/\((i<0/\GC l k=none)\/(0<=i/\ ∃c,getI l i=some c/\GC l k=some c)):=by
 refine⟨DU (λc:Ag=>c.ae==k) l,?_,?_⟩
 ·unfold Ta;refine vG (λc:Ag=>c.ae==k) (λi hi=> ?_) ?_
  ·unfold Wz;rw[if_pos (by simpa using hi),BQ hi,Af,KT (by omega)];cases l[i].ae==k<;>rfl
  ·unfold Wz;rw[if_neg (by simp)]
 ·by_cases h:DU (λc:Ag=>c.ae==k) l>=0
  ·obtain⟨x,h1,h2,h3⟩:=u3 h;exact .inr ⟨h,x,h1,X5 hr h3 (by simpa using h2)⟩
  ·refine .inl ⟨by omega,?_⟩;have:=u5 (λc:Ag=>c.ae==k) l;rw[decide_eq_false h]at this;unfold GC;rw[List.find?_eq_none];intro y hy hq;have:=List.any_eq_false.1 this.symm y hy;exact this hq
theorem sV{l:List Ag}{k:Bt}{c:Ag}(h:GC l k=some c)(hv:c.af≠ []):K3 l k=(c.af.getLast hv).ab:=by unfold K3;rw[h];show YQ c=_;unfold YQ;rw[List.getLast?_eq_some_getLast hv]
theorem zP{n:Nat}{l:List Ag}{k:Bt}(hn:n<=1000)(h:Ef n l):SZ l k=some (K3 l k):=by
 obtain⟨hr,hl,hc⟩:=h;unfold SZ;obtain⟨i,e,⟨h1,h2⟩|⟨h1,c,h2,h3⟩⟩:=yZ (l:=l) (k:=k) (by omega) hr
 ·rw[e,Af,if_pos (by simpa using h1)];unfold K3;rw[h2]
 ·obtain⟨hv,hw,_⟩:=hc c (Xs h3).1;rw[e,Af,if_neg (by simpa using h1),h2,Af,w6 hv (by omega),Af,sV h3 hv]
theorem wX{l:List Ag}{k:Bt}{v:BJ}(hr:K2 l)(hp:Bk l k<l.length)(hk:l[Bk l k].ae=k):J5 l k v=l.set (Bk l k) ⟨k,l[Bk l k].af++ [v]⟩:=by unfold J5;rw[TF hr];rw[show Bd (λy=>bl (ck y) (ck (⟨k,JV l k++ [v]⟩:Ag))) l=Bk l k from rfl,CJ hp];show(if l[Bk l k].ae=k then _ else _)=_;rw[if_pos hk];unfold JV;rw[X5 hr (Bc hp) hk]
theorem wQ{l:List Ag}{k:Bt}{v:BJ}(hr:K2 l)(hn:∀c∈l,c.ae≠k):J5 l k v=l.take (Bk l k)++ [⟨k,[v]⟩]++l.drop (Bk l k):=by
 have hv:JV l k=[]:=by unfold JV;rw[X7 hn]
 unfold J5;rw[TF hr,hv];rw[show Bd (λy=>bl (ck y) (ck (⟨k,[]++ [v]⟩:Ag))) l=Bk l k from rfl];by_cases hp:Bk l k<l.length
 ·rw[CJ hp];show(if l[Bk l k].ae=k then _ else _)=_;rw[if_neg (hn _ (Bc hp))];rfl
 ·rw[List.getElem?_eq_none (by omega)];rfl
theorem Ef.add{n:Nat}{l:List Ag}{k:Bt}{v:BJ}(h:Ef n l)(hn:n<=1000)(hk:k.length<=2000000)(hv:v.ar.length<=2000000):Ef (n+1) (J5 l k v):=by
 obtain⟨hr,hl,hc⟩:=h;have PF:(JV l k).length<=n/\ ∀v∈JV l k,v.ar.length<=2000000:=by
  unfold JV;cases e:GC l k with
  |none=>exact⟨by simp,λv hv=>by simp at hv⟩
  |some c=>obtain⟨_,h2,h3⟩:=hc c (Xs e).1;exact⟨h2,h3.2.2⟩
 refine⟨KK hr,?_,?_⟩
 ·have:=X9 (key:=ck) (x:=(⟨k,JV l k++ [v]⟩:Ag)) l;unfold J5;omega
 ·intro c HH;rcases(KP (key:=ck) hr c).1 HH with rfl|⟨hm,_⟩
  ·refine⟨by simp,by simp;omega,hk,by simp;omega,?_⟩;intro x hx;rcases Ae.1 hx with hx|hx
   ·exact PF.2 x hx
   ·have:x=v:=by simpa using hx
    subst this;exact hv
  ·obtain⟨h1,h2,h3⟩:=hc c hm;exact⟨h1,by omega,h3⟩
def fW(ws:List Aw):Prop:=ws.length<=100/\ ∀w∈ws,w.ae.length<=2000000/\w.ar.length<=2000000
theorem zJ{c:Ag}{k:Bt}{vs:List BJ}(h:c.ae=k):({c with af:=vs}:Ag)=⟨k,vs⟩:=by subst h;rfl
theorem Ef.small{n:Nat}{l:List Ag}(h:Ef n l)(hn:n<=1000):Gy l:=⟨by have:=h.2.1;omega,λc hc=>(h.2.2 c hc).2.2⟩
theorem zwh{α:Type}(l:List α)(p:Nat):A8 l 0 (p:Int)=l.take p:=by unfold A8;simp
theorem zwa{α:Type}(l:List α)(p:Nat):A8 l (p:Int) (l.length:Int)=l.drop p:=by unfold A8;rw[G2,G2,List.take_of_length_le (Ar _)]
theorem xX{t:Int}:∀{ws:List Aw} {n:Nat} {l o:List Ag},n+ws.length<=1000->(∀w∈ws,w.ae.length<=2000000/\w.ar.length<=2000000)->Ef n l->Oo t l ws=some o->Ef (n+ws.length) o:=by
 intro ws
 induction ws with
 |nil=>intro n l o _ _ h e;cases e;exact h
 |cons w vs ih=>
  intro n l o hn hs h e;unfold Oo at e;rw[List.foldlM_cons]at e;cases e1:J0 t l w with
  |none=>rw[e1]at e;cases e
  |some l1=>
   rw[e1]at e;have e:Oo t l1 vs=some o:=e;unfold J0 at e1;split at e1
   ·cases e1
   ·cases e1;rw[AM]at hn ⊢;have:=ih (n:=n+1) (by omega) (λw hw=>hs w (by simp[hw])) (Ef.add h (by omega) (hs w (by simp)).1 (hs w (by simp)).2) e;rwa[show n+(vs.length+1)=n+1+vs.length by omega]
theorem x4{l:List Ag}(h:Ef 24 l):SY l=some l:=by
 unfold SY;have:=(Nu (xs:=l) (body:=λs:List Ag × Int=>Nj l s.1 s.2) (λi s=>(s,i)) (λo c=>o++ [c]) (λo=>some o) (λi o=>o.length=i)
  (λi hi o ho=>by have h1:=h.2.1;have h2:=(h.2.2 _ (Bc hi)).2.1;refine⟨?_,by simp[ho]⟩;show Nj l o (i:Int)=_;unfold Nj;rw[if_pos (by simpa using hi),BQ hi,Af,CO (by simp only[List.length_nil];omega),CO (by simp only[DI];omega),KT (by omega)])
  (λo ho=>by show Nj l o (l.length:Int)=_;unfold Nj;rw[if_neg (by simp)]) (s:=[]) rfl).1
 refine this.trans ?_;have e:=wB (λc:Ag=>c) l [];simpa using e
theorem yL{l:List Ag}{ws:List Aw}{t:Int}(h:Ef 24 l)(hw:fW ws)(h0:0<t):SL l ws t=some (match Oo t l ws with|some o=>(o,CX o)|none=>([],false)):=by
 unfold SL;rw[x4 h,Af];have key:=XX (xs:=ws) (body:=λs:Int × List Ag=>Ng ws t s.1 s.2) (λi s=>((i:Int),s)) (J0 t) (some ([],false)) (λs=>Sc s) (λi s=>Ef (24+i) s)
  (λi acc hi hI=>by
   have ZI:=hw.2 _ (Bc hi);have hn:=hw.1;obtain⟨hr,hl,hc⟩:=hI;have RP:=List.pairwise_iff_getElem.1 hr;have F0:=zva acc ws[i].ae;refine⟨?_,λa ha=> ?_⟩
   ·show Ng ws t (i:Int) acc=_;unfold Ng;rw[if_pos (by simpa using hi),BQ hi,Af];have down:∀m:Nat,(∀j (hj:j<acc.length),m<=j->bl ws[i].ae acc[j].ae=true)-> ∀j:Nat,m<=j->j<acc.length->Mb t (i:Int) acc ws[i] ((j+1:Nat):Int)=some (.inl (j:Int)):=by
     intro m hm j h1 h2;unfold Mb;rw[if_pos (by simp),N7 (by omega) (by omega),show j+1-1=j by omega,BQ h2,Af,Qz,if_pos (by rw[Bool.not_not];exact hm j h2 h1)]
    rcases rF hr ws[i].ae with⟨hp,hk,hf⟩|⟨Du,hf,hg⟩
    ·have hv:=(hc _ (Bc hp))
     have stop:Mb t (i:Int) acc ws[i] ((Bk acc ws[i].ae+1:Nat):Int)=some (.inr (Ni t (i:Int) acc ws[i] ((Bk acc ws[i].ae+1:Nat):Int))):=by unfold Mb;rw[if_pos (by simp),N7 (by omega) (by omega),show Bk acc ws[i].ae+1-1=Bk acc ws[i].ae by omega,BQ hp,Af,Qz,if_neg (by rw[hk];rw[show Op.bytesLess ws[i].ae ws[i].ae=false from Il _];simp)]
     rw[Yo (Bk acc ws[i].ae+1) stop acc.length (by omega) (down _ λj hj h1=>by rw[<-hk];exact RP _ j hp hj (by omega))];unfold Ni;rw[if_pos (by simp),N7 (by omega) (by omega),show Bk acc ws[i].ae+1-1=Bk acc ws[i].ae by omega,BQ hp,Af,if_pos (by simpa using hk),zP (n:=24+i) (by omega) ⟨hr,hl,hc⟩,Af];unfold J0;by_cases ht:t<=K3 acc ws[i].ae
     ·rw[if_pos (by simpa using ht),if_pos ht]
     ·rw[if_neg (by simpa using ht),if_neg ht,CO (by simp only[DI];omega),G2,wX hr hp hk,KT (by omega)];refine congrArg (λz=>some (Sum.inl (((i+1:Nat):Int),z))) (congrArg (acc.set _) ?_);exact zJ hk
    ·have ht: ¬t<=K3 acc ws[i].ae:=by unfold K3;rw[hf];show¬t<=0;omega
     have U7:∀j (hj:j<acc.length),Bk acc ws[i].ae<=j->bl ws[i].ae acc[j].ae=true:=by
      intro j hj h1;have hp:Bk acc ws[i].ae<acc.length:=by omega
      rcases Nat.lt_or_ge (Bk acc ws[i].ae) j with h2|h2
      ·exact G5 (hg hp) (RP _ j hp hj h2)
      ·have e:Bk acc ws[i].ae=j:=by omega
       have:=hg hp;simp only[e]at this;exact this
     have stop:Mb t (i:Int) acc ws[i] ((Bk acc ws[i].ae:Nat):Int)=some (.inr (Ni t (i:Int) acc ws[i] ((Bk acc ws[i].ae:Nat):Int))):=by
      unfold Mb;by_cases h0:Bk acc ws[i].ae=0
      ·rw[if_neg (by simp[h0])]
      ·have hb:bl (acc[Bk acc ws[i].ae-1]'(by omega)).ae ws[i].ae=true:=NS (lt:=λw:Ag=>bl w.ae ws[i].ae) (show Bk acc ws[i].ae-1<Bk acc ws[i].ae by omega);rw[if_pos (by simp;omega),N7 (by omega) (by omega),BQ (show Bk acc ws[i].ae-1<acc.length by omega),Af,Qz,if_neg (by rw[show Op.bytesLess ws[i].ae _=false from TD hb];simp)]
     rw[Yo (Bk acc ws[i].ae) stop acc.length (by omega) (down _ U7)];have body:(req (0<=((Bk acc ws[i].ae:Nat):Int)/\((Bk acc ws[i].ae:Nat):Int)<=(acc.length:Int)/\(acc.length:Int)<=(acc.length:Int))<|
       req (0<=((Bk acc ws[i].ae:Nat):Int)/\((Bk acc ws[i].ae:Nat):Int)<=(acc.length:Int)/\(acc.length:Int)<=(acc.length:Int))<|
       req (((([]:List Ag).length:Int)+(((A8 acc ((Bk acc ws[i].ae:Nat):Int) (acc.length:Int))).length:Int))*40<=140737488355328/\(([]:List Ag).length:Int)+(((A8 acc ((Bk acc ws[i].ae:Nat):Int) (acc.length:Int))).length:Int)<=140737488355328)<|
       req (0<=(0:Int)/\(0:Int)<=((Bk acc ws[i].ae:Nat):Int)/\((Bk acc ws[i].ae:Nat):Int)<=(acc.length:Int))<|
       req (((([]:List Ag).length:Int)+(((A8 acc 0 ((Bk acc ws[i].ae:Nat):Int))).length:Int))*40<=140737488355328/\(([]:List Ag).length:Int)+(((A8 acc 0 ((Bk acc ws[i].ae:Nat):Int))).length:Int)<=140737488355328)<|
       req (((((A8 acc 0 ((Bk acc ws[i].ae:Nat):Int))).length:Int)+(([(⟨ws[i].ae,[(⟨t,ws[i].ar,ws[i].al⟩:BJ)]⟩:Ag)]:List Ag).length:Int))*40<=140737488355328/\(((A8 acc 0 ((Bk acc ws[i].ae:Nat):Int))).length:Int)+(([(⟨ws[i].ae,[(⟨t,ws[i].ar,ws[i].al⟩:BJ)]⟩:Ag)]:List Ag).length:Int)<=140737488355328)<|
       req ((((((A8 acc 0 ((Bk acc ws[i].ae:Nat):Int))++ [(⟨ws[i].ae,[(⟨t,ws[i].ar,ws[i].al⟩:BJ)]⟩:Ag)])).length:Int)+(((A8 acc ((Bk acc ws[i].ae:Nat):Int) (acc.length:Int))).length:Int))*40<=140737488355328/\((((A8 acc 0 ((Bk acc ws[i].ae:Nat):Int))++ [(⟨ws[i].ae,[(⟨t,ws[i].ar,ws[i].al⟩:BJ)]⟩:Ag)])).length:Int)+(((A8 acc ((Bk acc ws[i].ae:Nat):Int) (acc.length:Int))).length:Int)<=140737488355328)<|
       (some (.inl ((IntKind.i64.wrap ((i:Int)+1)),(((A8 acc 0 ((Bk acc ws[i].ae:Nat):Int))++ [(⟨ws[i].ae,[(⟨t,ws[i].ar,ws[i].al⟩:BJ)]⟩:Ag)])++(A8 acc ((Bk acc ws[i].ae:Nat):Int) (acc.length:Int))))):Option ((Int × List Ag) ⊕ Option (List Ag × Bool))))=some (.inl (((i+1:Nat):Int),J5 acc ws[i].ae ⟨t,ws[i].ar,ws[i].al⟩)):=by
      rw[zwh,zwa,wQ hr Du,KT (by omega)];rw[CO (by omega),CO (by omega),CO (by simp only[B1,List.length_nil];omega),CO (by omega),CO (by simp only[AF,List.length_nil];omega),CO (by simp only[AF,DI];omega),CO (by simp only[AO,B1,AF,DI];omega)]
     have e1:J0 t acc ws[i]=some (J5 acc ws[i].ae ⟨t,ws[i].ar,ws[i].al⟩):=by unfold J0;rw[if_neg ht]
     rw[e1];unfold Ni;by_cases h0:Bk acc ws[i].ae=0
     ·rw[if_neg (by simp[h0])];exact body
     ·have BM:(acc[Bk acc ws[i].ae-1]'(by omega)).ae≠ws[i].ae:=Du _ (Bc _);rw[if_pos (by simp;omega),N7 (by omega) (by omega),BQ (show Bk acc ws[i].ae-1<acc.length by omega),Af,if_neg (by simpa using BM)];exact body
   ·unfold J0 at ha;split at ha
    ·cases ha
    ·cases ha;exact Ef.add (n:=24+i) ⟨hr,hl,hc⟩ (by omega) ZI.1 ZI.2)
  (λacc _=>by show Ng ws t (ws.length:Int) acc=_;unfold Ng;rw[if_neg (by simp)]) l h
 refine key.trans ?_;unfold Oo;cases ho:ws.foldlM (J0 t) l with
 |none=>rfl
 |some o=>show Sc o=some (o,CX o);unfold Sc;rw[X2 ((xX (by have:=hw.1;omega) hw.2 h ho).small (by have:=hw.1;omega)),Af]
theorem Xa{l:List Ag}(h:CX l=true):K2 l:=by unfold CX at h;simp only[Ad]at h;exact(Me (r:=MD) (λa b c h k=>G5 h k)).1 h.2.2
theorem QE{l:List Ag}(h:CX l=true):Ef 24 l:=by
 refine⟨Xa h,?_⟩;unfold CX at h;simp only[Ad,Au,Bg]at h;refine⟨by omega,λc hc=> ?_⟩;have h1:=h.2.1 c hc;unfold E1 F3 DK at h1;simp only[Ad,Bg]at h1;have h2:=IU.1 h1.2.1;have h3:=IU.1 h1.1.1;refine⟨λe=>by rw[e]at h2;simp at h2,by omega,by omega,by omega,λv hv=> ?_⟩;have h4:=h1.2.2.1 v hv;unfold Io Fw Mo at h4;simp only[Ad,Au]at h4;have h5:(v.ar.length:Int)<=24:=by first|exact h4.2.1.1|exact h4.1.2.1.1|exact h4.1.1.1|exact h4.2.1.1.1
 omega
theorem dD{l:List Ag}(h:Ef 24 l):Gy l:=⟨by have:=h.2.1;omega,λc hc=>(h.2.2 c hc).2.2⟩
theorem zD[Inhabited EO]{c:BH}{k:Int}{l:List Bt}{Q:Bt->Prop}(hl:l≠ [])(hq:∀s∈l,Q s)(h:CW c k)(hk:k<=4611686018427387000):Cc (Sn c l) λp=>Q p.1/\CW p.2 (k+2):=by unfold Sn;have Pq:0<l.length:=List.length_pos_iff.2 hl;refine(Ms l.length h hk).bind λp ⟨hp,hc⟩=> ?_;exact Cc.bind (P:=λy=>Q y) (.getI hp.1 (hp.2.1 (by omega)) hq) λy hy=> .ret ⟨hy,hc⟩
theorem xO[Inhabited EO]{c:BH}{k:Int}(h:CW c k)(hk:k<=4611686018427386000):Cc (R6 c) λp=>p.1.length<=8/\CW p.2 (k+2):=by unfold R6;exact(zD (Q:=λs=>s.length<=8) (by simp) (by decide) h (by omega)).bind λn ⟨hn,hc⟩=> .ret ⟨hn,hc⟩
theorem vO[Inhabited EO]{c:BH}{k:Int}{s:Bt}(hs:s.length<=8)(h:CW c k)(hk:k<=4611686018427385000):Cc (Sa c s) λp=>(p.1.ae.length<=8/\p.1.ar.length<=8)/\CW p.2 (k+4):=by unfold Sa;refine(Yx 4 h (by omega)).bind λp hc=> ?_;refine .ite (λ_=> .ret ⟨⟨hs,by simp⟩,hc.up (by omega)⟩) λ_=> ?_;exact(xO hc (by omega)).bind λq ⟨hq,hd⟩=> .ret ⟨⟨hs,hq⟩,hd.up (by omega)⟩
theorem tH[Inhabited EO]{c:BH}{k:Int}(h:CW c k)(h0:0<=k)(hk:k<=4611686018427380000):Cc (R9 c) λp=>fW p.1/\CW p.2 (k+100):=by
 unfold R9;refine cA (λ(n:Nat) (s:List Aw × Int × List Int × Int × Int)=>s.2.1+(n:Int)=8/\0<=s.2.1/\((s.1.length:Int)<=s.2.1/\ ∀w∈s.1,w.ae.length<=8/\w.ar.length<=8)/\CW ⟨s.2.2.1,s.2.2.2.1,s.2.2.2.2⟩ (k+8*s.2.1)) (λn s hI=> ?_) (n:=8) ⟨by simp,by simp,⟨by simp,λw hw=>by simp at hw⟩,by simpa using h⟩;obtain⟨i1,i2,⟨i3,i4⟩,i5⟩:=hI;show Cc (Wg s.1 s.2.1 s.2.2.1 s.2.2.2.1 s.2.2.2.2) _;unfold Wg;refine .ite (λAA=> ?_) λ_=> .ret (.ret ⟨⟨by(try dsimp only);omega,λw hw=>by have:=i4 w hw;omega⟩,i5.up (by omega)⟩);have AA:s.2.1<8:=by simpa using AA
 have w1:IntKind.i64.wrap (s.2.1+1)=s.2.1+1:=Ek (by omega) (by omega);refine Cc.bind (P:=λy:Bt=>y.length<=8) (.getI i2 (by simpa using AA) (by decide)) λy hy=> ?_;refine(Yx 4 i5 (by omega)).bind λp hc=> ?_;refine .ite (λ_=> ?_) λ_=> .ret ⟨n-1,by omega,by(try dsimp only);rw[w1];omega,by(try dsimp only);rw[w1];omega,⟨by(try dsimp only);rw[w1];omega,i4⟩,hc.up (by(try dsimp only);rw[w1];omega)⟩;refine(vO hy hc (by omega)).bind λq ⟨hq,hd⟩=> ?_;refine .req (by simp only[DI];omega) (.ret ⟨n-1,by omega,by(try dsimp only);rw[w1];omega,by(try dsimp only);rw[w1];omega,⟨by(try dsimp only);rw[w1,AO,DI];omega,λw hw=> ?_⟩,hd.up (by(try dsimp only);rw[w1];omega)⟩);rcases Ae.1 hw with hw|hw
 ·exact i4 w hw
 ·simp only[List.mem_singleton]at hw;rw[hw];exact hq
theorem cZ[Inhabited EO]{c:BH}{k:Int}(h:CW c k)(h0:0<=k)(hk:k<=4611686018427370000):Cc (PS c) λp=>Ef 24 p.1/\CW p.2 (k+2000):=by
 unfold PS;refine(Ms 6 h (by omega)).bind λp ⟨hp,hc⟩=> ?_;have RJ:=hp.2.1 (by omega);refine cA (λ(n:Nat) (s:List Ag × Int × Int × List Int × Int × Int)=>s.2.2.1=(n:Int)/\(n:Int)<=6/\Ef 24 s.1/\(0<=s.2.1/\s.2.1+4*(n:Int)<=24)/\CW ⟨s.2.2.2.1,s.2.2.2.2.1,s.2.2.2.2.2⟩ (k+2+110*(6-(n:Int)))) (λn s hI=> ?_) (n:=p.1.toNat) ⟨by(try dsimp only);omega,by omega,⟨List.Pairwise.nil,by simp,λc hc=>by simp at hc⟩,⟨by simp,by(try dsimp only);omega⟩,hc.up (by(try dsimp only);omega)⟩;obtain⟨i1,i2,i3,⟨i4,i5⟩,i6⟩:=hI;show Cc (Wh s.1 s.2.1 s.2.2.1 s.2.2.2.1 s.2.2.2.2.1 s.2.2.2.2.2) _;unfold Wh;refine .ite (λAA=> ?_) λ_=> .ret (.ret ⟨i3,i6.up (by omega)⟩);have AA:s.2.2.1>0:=by simpa using AA
 refine(Ms 4 i6 (by omega)).bind λq ⟨hq,hd⟩=> ?_;have H7:=hq.2.1 (by omega);refine(tH hd (by omega) (by omega)).bind λr ⟨hr,he⟩=> ?_;have w1:IntKind.i64.wrap ((1:Int)+q.1)=1+q.1:=Ek (by omega) (by omega);have w2:IntKind.i64.wrap (s.2.1+(1+q.1))=s.2.1+(1+q.1):=Ek (by omega) (by omega);have w3:IntKind.i64.wrap (s.2.2.1-1)=s.2.2.1-1:=Ek (by omega) (by omega);rw[w1,w2,w3,yL i3 hr (by omega)];have up:∀l:List Ag,Ef 24 l-> ∃m,m<n/\(s.2.2.1-1=(m:Int)/\(m:Int)<=6/\Ef 24 l/\(0<=s.2.1+(1+q.1)/\s.2.1+(1+q.1)+4*(m:Int)<=24)/\CW ⟨r.2.bg,r.2.dg,r.2.bu⟩ (k+2+110*(6-(m:Int)))):=λl hl=>⟨n-1,by omega,by omega,by omega,hl,⟨by omega,by omega⟩,he.up (by omega)⟩
 rw[Af];cases H6:Oo (s.2.1+(1+q.1)) s.1 r.1 with
 |none=>exact .ret (up _ i3)
 |some o=>refine .ite (λhg=> ?_) λ_=> .ret (up _ i3);exact .ret (up _ (QE hg))
theorem pT[Inhabited EO]{c:BH}{k:Int}(h:CW c k)(h0:0<=k)(hk:k<=4611686018427360000):Cc (R3 c) λp=>Gy p.1/\CW p.2 (k+3000):=by
 unfold R3;refine(cZ h h0 (by omega)).bind λp ⟨hp,hc⟩=> ?_;have hs:=dD hp;refine .ite (λAA=> ?_) λ_=> .ret ⟨hs,hc.up (by omega)⟩;have AA:(p.1.length:Int)>0:=by simpa using AA
 refine(Ms _ hc (by omega)).bind λq ⟨hq,hd⟩=> ?_;have H7:=hq.2.1 (by omega);refine(Ms 30 hd (by omega)).bind λr ⟨_,he⟩=> ?_;have H9:∀(i:Nat) (x:Ag),Re x->Gy (p.1.set i x):=λi x hx=>⟨by rw[List.length_set];exact hs.1,λy hy=>by
  rcases List.mem_or_eq_of_mem_set hy with hy|hy
  ·exact hs.2 y hy
  ·rw[hy];exact hx⟩
 refine .ite (λ_=> ?_) λ_=> .ite (λ_=> ?_) λ_=> .ite (λ_=> ?_) λ_=> .ret ⟨hs,he.up (by omega)⟩
 ·refine Cc.bind (P:=λy=>y∈p.1) (.getI hq.1 H7 λx hx=>hx) λy hy=> .ret ⟨H9 _ _ ?_,he.up (by omega)⟩;have:=hs.2 y hy;exact⟨by simp,this.2⟩
 ·refine Cc.bind (P:=λy=>y∈p.1) (.getI hq.1 H7 λx hx=>hx) λy hy=> ?_;refine(XY _ (by simp) he (by omega)).bind λt ⟨_,hf⟩=> ?_;have mH:=hp.2.2 y hy;have Pq:0<y.af.length:=List.length_pos_iff.2 mH.1;refine Cc.bind (P:=λv=>v∈y.af) (.getI (by omega) (by omega) λx hx=>hx) λv hv=> .ret ⟨H9 _ _ ?_,hf.up (by omega)⟩;have:=hs.2 y hy;refine⟨this.1,by(try dsimp only);rw[List.length_set];exact this.2.1,λz hz=> ?_⟩;rcases List.mem_or_eq_of_mem_set hz with hz|hz
  ·exact this.2.2 z hz
  ·rw[hz];exact this.2.2 v hv
 ·refine Cc.bind (P:=λy=>y∈p.1) (.getI hq.1 H7 λx hx=>hx) λy hy=> .ret ⟨H9 _ _ ?_,he.up (by omega)⟩;have:=hs.2 y hy;exact⟨this.1,by simp,λz hz=>by simp at hz⟩
theorem vT[Inhabited EO]{code:List Int}(h:(default:EO).ff code):Cc (Si code) λp=>Gy p.1/\((-1<=p.2.1/\p.2.1<=10)/\(-1<=p.2.2/\p.2.2<=100001)):=by
 unfold Si;have tail:∀(l:List Ag) (c:BH) (k:Int),Gy l->CW c k->k<=4611686018427000000->Cc ((IL c ([0,0,1,5,10,(-1)]:List Int)).bind λv4=>(IL v4.2 ([100000,20,7,v4.1,100001,0]:List Int)).bind λv5=>some (l,v4.1,v5.1)) λp=>Gy p.1/\((-1<=p.2.1/\p.2.1<=10)/\(-1<=p.2.2/\p.2.2<=100001)):=λl c k hl hc hk=>by
  refine(XY _ (by simp) hc (by omega)).bind λp ⟨hp,hd⟩=> ?_;have hp: -1<=p.1/\p.1<=10:=by simp only[Ac,List.not_mem_nil,or_false]at hp;omega
  refine(XY _ (by simp) hd (by omega)).bind λq ⟨hq,_⟩=> .ret ⟨hl,hp,?_⟩;simp only[Ac,List.not_mem_nil,or_false]at hq;dsimp only;omega
 refine(cZ (CW.start h) (by omega) (by omega)).bind λp ⟨hp,hc⟩=> ?_;refine(Yx 8 hc (by omega)).bind λq hd=> ?_;refine .ite (λ_=> ?_) λ_=>tail _ _ _ (dD hp) hd (by omega);exact(pT hd (by omega) (by omega)).bind λr ⟨hr,he⟩=>tail _ _ _ hr he (by omega)
end
noncomputable section
open Go.RowKit Go.Sort
set_option maxRecDepth 100000
theorem rT{l:List An}(h:l.length<=2000000):Sx l l=some true:=by
 unfold Sx;rw[if_neg (by simp)];exact hF (n:=l.length) (λi hi=>by
  show Qa l l i=_;unfold Qa;rw[if_pos (by simpa using hi),BQ hi,Af,Af,if_neg (by simp),El hi (by omega)]) (by
  show Qa l l _=_;unfold Qa;rw[if_neg (by simp)])
theorem sR{d:CU}(h:d.au.length<=2000000):SX d d=some true:=by unfold SX;rw[if_pos (by simp),if_pos (by simp),rT h];rfl
theorem uA{l:List Ag}{a u:Int}(h1:CX l=true)(h2:E2 ⟨a,u,Ev 0 a u l⟩=true):Iq l a u=(⟨a,u,Ev 0 a u l⟩,true):=by unfold Iq;rw[if_pos h1,if_pos h2]
theorem qT{l:List Ag}{a u:Int}(h:(Iq l a u).2=true):CX l=true/\E2 ⟨a,u,Ev 0 a u l⟩=true:=by
 unfold Iq at h;split at h
 ·rename_i h1;split at h
  ·rename_i h2;exact⟨h1,h2⟩
  ·cases h
 ·cases h
theorem sE{l:List Ag}{a u:Int}:(Iq l a u).1.au.length<=60:=by
 unfold Iq;split
 ·split
  ·rename_i h2;unfold E2 at h2;simp only[Ad,Au]at h2;have:=h2.2.2.2.1;dsimp only at*;omega
  ·simp
 ·simp
end
end Go.Proofs.YteeafhlnofapaaaGreat
