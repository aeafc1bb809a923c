/- Parts of a proof, joined: QM, QF1, QF2, QF3, QR, ND, NE, N5, N6, N7, N8. -/
import Derived.Test.YtkpifpljpoochaaGreatDoorK7
set_option linter.unusedVariables false
set_option linter.unusedSimpArgs false
namespace Go.Proofs.YtkpifpljpoochaaGreatDoor
open Go.RowKit
noncomputable section
set_option maxRecDepth 100000
set_option maxHeartbeats 4000000
abbrev Ab:=List UInt8
def Ra(a0:AE):Option (Int × AE):=
 if(decide (a0.bz<(a0.ar.length:Int)))then
  (getI a0.ar a0.bz).bind λy1=>
  if(decide ((IntKind.i64.wrap (a0.bz+1))<=(a0.ar.length:Int)))then
   some ((IntKind.i64.wrap y1),(⟨a0.ar,(IntKind.i64.wrap (a0.bz+1)),(IntKind.u64.wrap ((IntKind.u64.wrap ((IntKind.u64.wrap (a0.au*6364136223846793005))+(IntKind.u64.wrap (IntKind.i64.wrap y1))))+1442695040888963407))⟩:AE))
  else
   some ((IntKind.i64.wrap (IntKind.u64.wrap ((BitVec.ofInt (IntKind.bits .u64) (Int.fdiv (IntKind.u64.wrap ((IntKind.u64.wrap ((IntKind.u64.wrap (a0.au*6364136223846793005))+(IntKind.u64.wrap (IntKind.i64.wrap y1))))+1442695040888963407)) (2^(min ((40:Int)).toNat (IntKind.bits .u64))))&&&BitVec.ofInt (IntKind.bits .u64) 255).toNat:Int))),(⟨a0.ar,(IntKind.i64.wrap (a0.bz+1)),(IntKind.u64.wrap ((IntKind.u64.wrap ((IntKind.u64.wrap (a0.au*6364136223846793005))+(IntKind.u64.wrap (IntKind.i64.wrap y1))))+1442695040888963407))⟩:AE))
 else
  if(decide ((IntKind.i64.wrap (a0.bz+1))<=(a0.ar.length:Int)))then
   some (0,(⟨a0.ar,(IntKind.i64.wrap (a0.bz+1)),(IntKind.u64.wrap ((IntKind.u64.wrap ((IntKind.u64.wrap (a0.au*6364136223846793005))+(IntKind.u64.wrap 0)))+1442695040888963407))⟩:AE))
  else
   some ((IntKind.i64.wrap (IntKind.u64.wrap ((BitVec.ofInt (IntKind.bits .u64) (Int.fdiv (IntKind.u64.wrap ((IntKind.u64.wrap ((IntKind.u64.wrap (a0.au*6364136223846793005))+(IntKind.u64.wrap 0)))+1442695040888963407)) (2^(min ((40:Int)).toNat (IntKind.bits .u64))))&&&BitVec.ofInt (IntKind.bits .u64) 255).toNat:Int))),(⟨a0.ar,(IntKind.i64.wrap (a0.bz+1)),(IntKind.u64.wrap ((IntKind.u64.wrap ((IntKind.u64.wrap (a0.au*6364136223846793005))+(IntKind.u64.wrap 0)))+1442695040888963407))⟩:AE))
def Es(a0:AE)(a1:Int):Option (Int × AE):=
 if(decide (a1<=1))then
  some (0,a0)
 else
  (Ra a0).bind λv1=>
  if(decide (a1>200))then
   (Ra v1.2).bind λv2=>
   req (a1≠0)<|
   some ((Int.tmod (IntKind.i64.wrap ((IntKind.i64.wrap (v1.1*256))+v2.1)) a1),(⟨v2.2.ar,v2.2.bz,v2.2.au⟩:AE))
  else
   req (a1≠0)<|
   some ((Int.tmod v1.1 a1),(⟨v1.2.ar,v1.2.bz,v1.2.au⟩:AE))
def EC(a0:AE)(a1:List (Ab)):Option (Ab × AE):=
 (Es a0 (a1.length:Int)).bind λv1=>
 (getI a1 v1.1).bind λy2=>
 some (y2,v1.2)
def IV(a0:AE)(a1:Int):Option (Bool × AE):=
 (Es a0 a1).bind λv1=>
 some ((v1.1==0),v1.2)
def Rh(v2:Int × AE)(v3:Int)(v7:List Be)(y8:Ab)(v9:List Int)(v10 v11:Int)(v12:Bool):Option ((Int × List Int × Int × Int × List Be) ⊕ Option (Ak × AE)):=
 if v12 then
  (Es (⟨v9,v10,v11⟩:AE) (IntKind.i64.wrap (((Bg [([107]:Ab),([97]:Ab),([98]:Ab),([99,99]:Ab)] 0 (IntKind.i64.wrap ((2:Int)+v2.1))).length:Int)-1))).bind λv13=>
  (Es v13.2 4).bind λv14=>
  req ((((v7).length:Int)+(([(⟨y8,(IntKind.i64.wrap ((1:Int)+v13.1)),v14.1⟩:Be)]:List Be).length:Int))*32<=140737488355328/\((v7).length:Int)+(([(⟨y8,(IntKind.i64.wrap ((1:Int)+v13.1)),v14.1⟩:Be)]:List Be).length:Int)<=140737488355328)<|
  some (.inl ((IntKind.i64.wrap (v3+1)),v14.2.ar,v14.2.bz,v14.2.au,(v7++ [(⟨y8,(IntKind.i64.wrap ((1:Int)+v13.1)),v14.1⟩:Be)])))
 else
  some (.inl ((IntKind.i64.wrap (v3+1)),v9,v10,v11,v7))
def eI(v1:Ab × AE)(v2:Int × AE)(v3:Int)(v4:List Int)(v5 v6:Int)(v7:List Be):Option ((Int × List Int × Int × Int × List Be) ⊕ Option (Ak × AE)):=
 if(decide (v3<([([105]:Ab),([106]:Ab),([109]:Ab)].length:Int)))then
  (getI [([105]:Ab),([106]:Ab),([109]:Ab)] v3).bind λy8=>
  (IV (⟨v4,v5,v6⟩:AE) 3).bind λv15=>
  if(!v15.1)then
   Rh v2 v3 v7 y8 v15.2.ar v15.2.bz v15.2.au true
  else
   if(y8==([105]:Ab))then
    (IV v15.2 8).bind λv16=>
    Rh v2 v3 v7 y8 v16.2.ar v16.2.bz v16.2.au (!v16.1)
   else
    Rh v2 v3 v7 y8 v15.2.ar v15.2.bz v15.2.au false
 else
  some (.inr (some ((⟨v1.1,(Bg [([107]:Ab),([97]:Ab),([98]:Ab),([99,99]:Ab)] 0 (IntKind.i64.wrap ((2:Int)+v2.1))),v7⟩:Ak),(⟨v4,v5,v6⟩:AE))))
def On(a0:AE):Option (Ak × AE):=
 (EC a0 ([([116]:Ab),([117]:Ab)]:List (Ab))).bind λv1=>
 (Es v1.2 3).bind λv2=>
 req (0<=(0:Int)/\(0:Int)<=(IntKind.i64.wrap ((2:Int)+v2.1))/\(IntKind.i64.wrap ((2:Int)+v2.1))<=(([([107]:Ab),([97]:Ab),([98]:Ab),([99,99]:Ab)]:List (Ab)).length:Int))<|
 req (((([]:List (Ab)).length:Int)+(((Bg [([107]:Ab),([97]:Ab),([98]:Ab),([99,99]:Ab)] 0 (IntKind.i64.wrap ((2:Int)+v2.1)))).length:Int))*16<=140737488355328/\(([]:List (Ab)).length:Int)+(((Bg [([107]:Ab),([97]:Ab),([98]:Ab),([99,99]:Ab)] 0 (IntKind.i64.wrap ((2:Int)+v2.1)))).length:Int)<=140737488355328)<|
 AX (λs:Int × List Int × Int × Int × List Be=>eI v1 v2 s.1 s.2.1 s.2.2.1 s.2.2.2.1 s.2.2.2.2) (0,v2.2.ar,v2.2.bz,v2.2.au,[])
def eM(a1:Ak)(v2:List Int)(v3 v4:Int)(v5:List (Ab)):Option ((List Int × Int × Int × List (Ab)) ⊕ Option (Ac × AE)):=
 if(decide ((v5.length:Int)<(a1.aq.length:Int)))then
  (EC (⟨v2,v3,v4⟩:AE) ([([120]:Ab),([121]:Ab),([120]:Ab),([48]:Ab),([97,98,99]:Ab)]:List (Ab))).bind λv6=>
  req ((((v5).length:Int)+(([v6.1]:List (Ab)).length:Int))*16<=140737488355328/\((v5).length:Int)+(([v6.1]:List (Ab)).length:Int)<=140737488355328)<|
  some (.inl (v6.2.ar,v6.2.bz,v6.2.au,(v5++ [v6.1])))
 else
  some (.inr (some ((⟨v5⟩:Ac),(⟨v2,v3,v4⟩:AE))))
def Kn(a0:AE)(a1:Ak):Option (Ac × AE):=
 (EC a0 ([([49]:Ab),([50]:Ab),([51]:Ab),([97]:Ab),([122,122]:Ab),([97,98,99]:Ab)]:List (Ab))).bind λv1=>
 AX (λs:List Int × Int × Int × List (Ab)=>eM a1 s.1 s.2.1 s.2.2.1 s.2.2.2) (v1.2.ar,v1.2.bz,v1.2.au,[v1.1])
def OG(a0:List (Ab))(a1 v1:Ab)(v2:Int):Option ((Ab × Int) ⊕ Option (Ab)):=
 if(decide (v2<(a0.length:Int)))then
  (getI a0 v2).bind λy3=>
  if(decide (v2>0))then
   req ((v1).length+(a1).length<=9223372036854775807)<|
   req (((v1++a1)).length+(y3).length<=9223372036854775807)<|
   some (.inl (((v1++a1)++y3),(IntKind.i64.wrap (v2+1))))
  else
   req ((v1).length+(y3).length<=9223372036854775807)<|
   some (.inl ((v1++y3),(IntKind.i64.wrap (v2+1))))
 else
  some (.inr (some v1))
def YF(a0:List (Ab))(a1:Ab):Option (Ab):=
 AX (λs:Ab × Int=>OG a0 a1 s.1 s.2) (([]:Ab),0)
def Rq(a0:Ak)(a1:Ac):Option (Ai):=
 req ((a0.ab).length+(([47]:Ab)).length<=9223372036854775807)<|
 (getI a1.ae 0).bind λy1=>
 req (((a0.ab++([47]:Ab))).length+(y1).length<=9223372036854775807)<|
 req (0<=(1:Int)/\(1:Int)<=(a1.ae.length:Int)/\(a1.ae.length:Int)<=(a1.ae.length:Int))<|
 (YF (Bg a1.ae 1 (a1.ae.length:Int)) ([44]:Ab)).bind λv2=>
 some (⟨((a0.ab++([47]:Ab))++y1),v2,false⟩:Ai)
def Uc(a0:List Ai)(a1:Ai)(v1:Int):Option (List Ai):=
 if(decide (v1>0))then
  (getI a0 (IntKind.i64.wrap (v1-1))).bind λy2=>
  if(y2.ah==a1.ah)then
   req (((([]:List Ai).length:Int)+((a0).length:Int))*40<=140737488355328/\(([]:List Ai).length:Int)+((a0).length:Int)<=140737488355328)<|
   (getI a0 (IntKind.i64.wrap (v1-1))).bind λy3=>
   some (a0.set ((IntKind.i64.wrap (v1-1))).toNat a1)
  else
   req (0<=v1/\v1<=(a0.length:Int)/\(a0.length:Int)<=(a0.length:Int))<|
   req (((([]:List Ai).length:Int)+(((Bg a0 v1 (a0.length:Int))).length:Int))*40<=140737488355328/\(([]:List Ai).length:Int)+(((Bg a0 v1 (a0.length:Int))).length:Int)<=140737488355328)<|
   req (0<=(0:Int)/\(0:Int)<=v1/\v1<=(a0.length:Int))<|
   req (((([]:List Ai).length:Int)+(((Bg a0 0 v1)).length:Int))*40<=140737488355328/\(([]:List Ai).length:Int)+(((Bg a0 0 v1)).length:Int)<=140737488355328)<|
   req (((((Bg a0 0 v1)).length:Int)+(([a1]:List Ai).length:Int))*40<=140737488355328/\(((Bg a0 0 v1)).length:Int)+(([a1]:List Ai).length:Int)<=140737488355328)<|
   req ((((((Bg a0 0 v1)++ [a1])).length:Int)+(((Bg a0 v1 (a0.length:Int))).length:Int))*40<=140737488355328/\((((Bg a0 0 v1)++ [a1])).length:Int)+(((Bg a0 v1 (a0.length:Int))).length:Int)<=140737488355328)<|
   some (((Bg a0 0 v1)++ [a1])++(Bg a0 v1 (a0.length:Int)))
 else
  req (0<=v1/\v1<=(a0.length:Int)/\(a0.length:Int)<=(a0.length:Int))<|
  req (((([]:List Ai).length:Int)+(((Bg a0 v1 (a0.length:Int))).length:Int))*40<=140737488355328/\(([]:List Ai).length:Int)+(((Bg a0 v1 (a0.length:Int))).length:Int)<=140737488355328)<|
  req (0<=(0:Int)/\(0:Int)<=v1/\v1<=(a0.length:Int))<|
  req (((([]:List Ai).length:Int)+(((Bg a0 0 v1)).length:Int))*40<=140737488355328/\(([]:List Ai).length:Int)+(((Bg a0 0 v1)).length:Int)<=140737488355328)<|
  req (((((Bg a0 0 v1)).length:Int)+(([a1]:List Ai).length:Int))*40<=140737488355328/\(((Bg a0 0 v1)).length:Int)+(([a1]:List Ai).length:Int)<=140737488355328)<|
  req ((((((Bg a0 0 v1)++ [a1])).length:Int)+(((Bg a0 v1 (a0.length:Int))).length:Int))*40<=140737488355328/\((((Bg a0 0 v1)++ [a1])).length:Int)+(((Bg a0 v1 (a0.length:Int))).length:Int)<=140737488355328)<|
  some (((Bg a0 0 v1)++ [a1])++(Bg a0 v1 (a0.length:Int)))
def MX(a0:List Ai)(a1:Ai)(v4:Int):Option ((Int) ⊕ Option (List Ai)):=
 if(decide (v4>0))then
  (getI a0 (IntKind.i64.wrap (v4-1))).bind λy5=>
  if(!(Op.bytesLess y5.ah a1.ah||y5.ah==a1.ah))then
   some (.inl (IntKind.i64.wrap (v4-1)))
  else
   some (.inr (Uc a0 a1 v4))
 else
  some (.inr (Uc a0 a1 v4))
def Kt(a0:List Ai)(a1:Ai):Option (List Ai):=
 AX (λs:Int=>MX a0 a1 s) (a0.length:Int)
def Yj(a0:Ab)(v1:Int)(v2:List (Ab)):Option (List (Ab)):=
 req (0<=v1/\v1<=(a0.length:Int)/\(a0.length:Int)<=(a0.length:Int))<|
 req ((((v2).length:Int)+(([(Bg a0 v1 (a0.length:Int))]:List (Ab)).length:Int))*16<=140737488355328/\((v2).length:Int)+(([(Bg a0 v1 (a0.length:Int))]:List (Ab)).length:Int)<=140737488355328)<|
 some (v2++ [(Bg a0 v1 (a0.length:Int))])
def OF(a0:Ab)(a1:Int)(v3:List (Ab))(v4 v5:Int):Option ((List (Ab) × Int × Int) ⊕ Option (List (Ab))):=
 if(decide (v5<(a0.length:Int)))then
  (getI a0 v5).bind λy6=>
  if((y6.toNat:Int)==a1)then
   req (0<=v4/\v4<=v5/\v5<=(a0.length:Int))<|
   req ((((v3).length:Int)+(([(Bg a0 v4 v5)]:List (Ab)).length:Int))*16<=140737488355328/\((v3).length:Int)+(([(Bg a0 v4 v5)]:List (Ab)).length:Int)<=140737488355328)<|
   some (.inl ((v3++ [(Bg a0 v4 v5)]),(IntKind.i64.wrap (v5+1)),(IntKind.i64.wrap (v5+1))))
  else
   some (.inl (v3,v4,(IntKind.i64.wrap (v5+1))))
 else
  some (.inr (Yj a0 v4 v3))
def Lv(a0:Ab)(a1:Int):Option (List (Ab)):=
 AX (λs:List (Ab) × Int × Int=>OF a0 a1 s.1 s.2.1 s.2.2) ([],0,0)
def Ku(a0 a1 a2:Int):Option (Bool):=
 some ((decide (a0>=a1))&&(decide (a0<=a2)))
def Yh(v1:Int)(v3:Bool):Option ((Int) ⊕ Option (Bool)):=
 if(!v3)then
  some (.inr (some false))
 else
  some (.inl (IntKind.i64.wrap (v1+1)))
def Rj(a1:Ab)(v1:Int)(y2:UInt8)(v4:Bool)(v5:Int):Option ((Bool × Int) ⊕ Option ((Int) ⊕ Option (Bool))):=
 if(decide (v5<(a1.length:Int)))then
  if v4 then
   some (.inl (true,(IntKind.i64.wrap (v5+1))))
  else
   (getI a1 v5).bind λy6=>
   some (.inl (((y2.toNat:Int)==(y6.toNat:Int)),(IntKind.i64.wrap (v5+1))))
 else
  some (.inr (Yh v1 v4))
def Yi(a0 a1:Ab)(v1:Int):Option ((Int) ⊕ Option (Bool)):=
 if(decide (v1<(a0.length:Int)))then
  (getI a0 v1).bind λy2=>
  AX (λs:Bool × Int=>Rj a1 v1 y2 s.1 s.2) ((((decide ((y2.toNat:Int)>=97))&&(decide ((y2.toNat:Int)<=122)))||((decide ((y2.toNat:Int)>=48))&&(decide ((y2.toNat:Int)<=57)))),0)
 else
  some (.inr (some true))
def OI(a0 a1:Ab):Option (Bool):=
 AX (λs:Int=>Yi a0 a1 s) 0
def IU(a0:Ab):Option (Bool):=
 (Ku (a0.length:Int) 1 3).bind λv1=>
 if v1 then
  (OI a0 ([]:Ab)).bind λv2=>
  some v2
 else
  some false
def Yl(a0:Ak)(a1:Ac):Option (Bool):=
 some ((a1.ae.length:Int)==(a0.aq.length:Int))
def Yk(a0:Ak)(a1:Ac)(v1:Int):Option ((Int) ⊕ Option (Bool)):=
 if(decide (v1<(a1.ae.length:Int)))then
  (getI a1.ae v1).bind λy2=>
  (IU y2).bind λv3=>
  if(!v3)then
   some (.inr (some false))
  else
   some (.inl (IntKind.i64.wrap (v1+1)))
 else
  some (.inr (Yl a0 a1))
def Lu(a0:Ak)(a1:Ac):Option (Bool):=
 AX (λs:Int=>Yk a0 a1 s) 0
def Ui(a0:Ak)(a1:Ai):Option (Ac × Bool):=
 if(decide ((a1.ah.length:Int)<3))then
  some ((⟨[]⟩:Ac),false)
 else
  req (0<=(2:Int)/\(2:Int)<=(a1.ah.length:Int)/\(a1.ah.length:Int)<=(a1.ah.length:Int))<|
  (Lv a1.bd 44).bind λv1=>
  req (((([(Bg a1.ah 2 (a1.ah.length:Int))]:List (Ab)).length:Int)+((v1).length:Int))*16<=140737488355328/\(([(Bg a1.ah 2 (a1.ah.length:Int))]:List (Ab)).length:Int)+((v1).length:Int)<=140737488355328)<|
  (Lu a0 (⟨([(Bg a1.ah 2 (a1.ah.length:Int))]++v1)⟩:Ac)).bind λv2=>
  if v2 then
   (Rq a0 (⟨([(Bg a1.ah 2 (a1.ah.length:Int))]++v1)⟩:Ac)).bind λv3=>
   some ((⟨([(Bg a1.ah 2 (a1.ah.length:Int))]++v1)⟩:Ac),(v3.ah==a1.ah&&(v3.bd==a1.bd&&(v3.bp==a1.bp))))
  else
   some ((⟨([(Bg a1.ah 2 (a1.ah.length:Int))]++v1)⟩:Ac),false)
def OE(a0:Ak)(a1:List Ai)(v1:List Ac)(v2:Int):Option ((List Ac × Int) ⊕ Option (List Ac)):=
 if(decide (v2<(a1.length:Int)))then
  (getI a1 v2).bind λy3=>
  (Ui a0 y3).bind λv4=>
  if v4.2 then
   req ((((v1).length:Int)+(([v4.1]:List Ac).length:Int))*24<=140737488355328/\((v1).length:Int)+(([v4.1]:List Ac).length:Int)<=140737488355328)<|
   some (.inl ((v1++ [v4.1]),(IntKind.i64.wrap (v2+1))))
  else
   some (.inl (v1,(IntKind.i64.wrap (v2+1))))
 else
  some (.inr (some v1))
def OH(a0:Ak)(a1:List Ai):Option (List Ac):=
 AX (λs:List Ac × Int=>OE a0 a1 s.1 s.2) ([],0)
def Ou(a0:Ak)(a1:Be)(a2:Ac):Option (Ab):=
 req ((a0.ab).length+(([46]:Ab)).length<=9223372036854775807)<|
 req (((a0.ab++([46]:Ab))).length+(a1.ab).length<=9223372036854775807)<|
 req ((((a0.ab++([46]:Ab))++a1.ab)).length+(([47]:Ab)).length<=9223372036854775807)<|
 (getI a2.ae a1.a7).bind λy1=>
 req (((((a0.ab++([46]:Ab))++a1.ab)++([47]:Ab))).length+(y1).length<=9223372036854775807)<|
 req ((((((a0.ab++([46]:Ab))++a1.ab)++([47]:Ab))++y1)).length+(([47]:Ab)).length<=9223372036854775807)<|
 (getI a2.ae 0).bind λy2=>
 req (((((((a0.ab++([46]:Ab))++a1.ab)++([47]:Ab))++y1)++([47]:Ab))).length+(y2).length<=9223372036854775807)<|
 some ((((((a0.ab++([46]:Ab))++a1.ab)++([47]:Ab))++y1)++([47]:Ab))++y2)
def T5(a0:AE):Option (Ab × AE):=
 (EC a0 ([([97]:Ab),([98]:Ab),([99]:Ab),([109]:Ab),([110]:Ab),([122]:Ab),([114,47,49]:Ab),([105,47,120,47,49]:Ab)]:List (Ab))).bind λv1=>
 some (v1.1,v1.2)
def T6(a0:AE):Option (Ab × AE):=
 (EC a0 ([([]:Ab),([49]:Ab),([55]:Ab),([49,48]:Ab),([45,51]:Ab),([120]:Ab),([97,44,98,95,99]:Ab)]:List (Ab))).bind λv1=>
 some (v1.1,v1.2)
def X5(v6:List Int)(v7 v8:Int)(v9:List Ai):Option (List Ai × AE):=
 (IV (⟨v6,v7,v8⟩:AE) 6).bind λv10=>
 if v10.1 then
  (T5 v10.2).bind λv11=>
  (T6 v11.2).bind λv12=>
  (Kt v9 (⟨v11.1,v12.1,false⟩:Ai)).bind λv13=>
  some (v13,(⟨v12.2.ar,v12.2.bz,v12.2.au⟩:AE))
 else
  some (v9,(⟨v10.2.ar,v10.2.bz,v10.2.au⟩:AE))
def Ri(a1:Ak)(v14:Int)(y19:Be)(v21:List Int)(v22 v23:Int)(v24:List Ai):Option ((Int × List Int × Int × Int × List Ai) ⊕ Option (List Ai × AE)):=
 (IV (⟨v21,v22,v23⟩:AE) 5).bind λv25=>
 if v25.1 then
  (Kn v25.2 a1).bind λv26=>
  (Ou a1 y19 v26.1).bind λv27=>
  (Kt v24 (⟨v27,([]:Ab),false⟩:Ai)).bind λv28=>
  some (.inl ((IntKind.i64.wrap (v14+1)),v26.2.ar,v26.2.bz,v26.2.au,v28))
 else
  some (.inl ((IntKind.i64.wrap (v14+1)),v25.2.ar,v25.2.bz,v25.2.au,v24))
def eJ(a1:Ak)(v14:Int)(y19:Be)(v20:List Ac)(v29:Int)(v30:List Int)(v31 v32:Int)(v33:List Ai):Option ((Int × List Int × Int × Int × List Ai) ⊕ Option ((Int × List Int × Int × Int × List Ai) ⊕ Option (List Ai × AE))):=
 if(decide (v29<(v20.length:Int)))then
  (getI v20 v29).bind λy34=>
  (IV (⟨v30,v31,v32⟩:AE) 5).bind λv35=>
  if(!v35.1)then
   (Ou a1 y19 y34).bind λv36=>
   (Kt v33 (⟨v36,([]:Ab),false⟩:Ai)).bind λv37=>
   some (.inl ((IntKind.i64.wrap (v29+1)),v35.2.ar,v35.2.bz,v35.2.au,v37))
  else
   some (.inl ((IntKind.i64.wrap (v29+1)),v35.2.ar,v35.2.bz,v35.2.au,v33))
 else
  some (.inr (Ri a1 v14 y19 v30 v31 v32 v33))
def eH(a1:Ak)(v14:Int)(v15:List Int)(v16 v17:Int)(v18:List Ai):Option ((Int × List Int × Int × Int × List Ai) ⊕ Option (List Ai × AE)):=
 if(decide (v14<(a1.af.length:Int)))then
  (getI a1.af v14).bind λy19=>
  (OH a1 v18).bind λv20=>
  AX (λs:Int × List Int × Int × Int × List Ai=>eJ a1 v14 y19 v20 s.1 s.2.1 s.2.2.1 s.2.2.2.1 s.2.2.2.2) (0,v15,v16,v17,v18)
 else
  some (.inr (X5 v15 v16 v17 v18))
def XV(a1:Ak)(v2:List Int)(v3 v4:Int)(v5:List Ai):Option (List Ai × AE):=
 AX (λs:Int × List Int × Int × Int × List Ai=>eH a1 s.1 s.2.1 s.2.2.1 s.2.2.2.1 s.2.2.2.2) (0,v2,v3,v4,v5)
def eF(a1:Ak)(v38:List Ai)(v39:Int)(v40:List Int)(v41 v42:Int):Option ((List Ai × Int × List Int × Int × Int) ⊕ Option (List Ai × AE)):=
 if(decide (v39>0))then
  (Kn (⟨v40,v41,v42⟩:AE) a1).bind λv43=>
  (Rq a1 v43.1).bind λv44=>
  (Kt v38 v44).bind λv45=>
  some (.inl (v45,(IntKind.i64.wrap (v39-1)),v43.2.ar,v43.2.bz,v43.2.au))
 else
  some (.inr (XV a1 v40 v41 v42 v38))
def TN(a0:AE)(a1:Ak):Option (List Ai × AE):=
 (Es a0 5).bind λv1=>
 AX (λs:List Ai × Int × List Int × Int × Int=>eF a1 s.1 s.2.1 s.2.2.1 s.2.2.2.1 s.2.2.2.2) ([],v1.1,v1.2.ar,v1.2.bz,v1.2.au)
def Rg(a0:AE)(a1:Ak):Option (List Ai × AE):=
 (TN a0 a1).bind λv1=>
 (Es v1.2 12).bind λv2=>
 if(v2.1==0)then
  req ((((v1.1).length:Int)+(([(⟨([97]:Ab),([33]:Ab),false⟩:Ai)]:List Ai).length:Int))*40<=140737488355328/\((v1.1).length:Int)+(([(⟨([97]:Ab),([33]:Ab),false⟩:Ai)]:List Ai).length:Int)<=140737488355328)<|
  some ((v1.1++ [(⟨([97]:Ab),([33]:Ab),false⟩:Ai)]),(⟨v2.2.ar,v2.2.bz,v2.2.au⟩:AE))
 else
  if(v2.1==1)then
   req ((a1.ab).length+(([47]:Ab)).length<=9223372036854775807)<|
   (EC v2.2 ([([97,98,99,100]:Ab),([97]:Ab),([49]:Ab)]:List (Ab))).bind λv3=>
   req (((a1.ab++([47]:Ab))).length+(v3.1).length<=9223372036854775807)<|
   (EC v3.2 ([([120]:Ab),([120,44,44,121]:Ab),([]:Ab),([120,44,121,44,122]:Ab)]:List (Ab))).bind λv4=>
   (Kt v1.1 (⟨((a1.ab++([47]:Ab))++v3.1),v4.1,false⟩:Ai)).bind λv5=>
   some (v5,(⟨v4.2.ar,v4.2.bz,v4.2.au⟩:AE))
  else
   if(v2.1==2)then
    if(decide ((v1.1.length:Int)>0))then
     (Es v2.2 (v1.1.length:Int)).bind λv6=>
     (getI v1.1 v6.1).bind λy7=>
     some ((v1.1.set (v6.1).toNat {y7 with bp:=true}),(⟨v6.2.ar,v6.2.bz,v6.2.au⟩:AE))
    else
     some (v1.1,(⟨v2.2.ar,v2.2.bz,v2.2.au⟩:AE))
   else
    if(v2.1==3)then
     req ((a1.ab).length+(([46,105,47]:Ab)).length<=9223372036854775807)<|
     (EC v2.2 ([([120]:Ab),([120,47,49,47,50]:Ab),([47,49]:Ab),([97,98,99,100,47,49]:Ab)]:List (Ab))).bind λv8=>
     req (((a1.ab++([46,105,47]:Ab))).length+(v8.1).length<=9223372036854775807)<|
     (Kt v1.1 (⟨((a1.ab++([46,105,47]:Ab))++v8.1),([]:Ab),false⟩:Ai)).bind λv9=>
     some (v9,(⟨v8.2.ar,v8.2.bz,v8.2.au⟩:AE))
    else
     some (v1.1,(⟨v2.2.ar,v2.2.bz,v2.2.au⟩:AE))
def TS(a1:Ak)(v3:List Int)(v4 v5:Int)(v6:List (Ab)):Option (Dd × AE):=
 (Es (⟨v3,v4,v5⟩:AE) 3).bind λv7=>
 if(v7.1==0)then
  (Kn v7.2 a1).bind λv8=>
  some ((⟨1,(⟨[]⟩:Ac),v8.1⟩:Dd),v8.2)
 else
  if(v7.1==1)then
   some ((⟨2,(⟨v6⟩:Ac),(⟨[]⟩:Ac)⟩:Dd),v7.2)
  else
   (Kn v7.2 a1).bind λv9=>
   (getI v6 0).bind λy10=>
   (getI v9.1.ae 0).bind λy11=>
   some ((⟨3,(⟨v6⟩:Ac),(⟨(v9.1.ae.set ((0:Int)).toNat y10)⟩:Ac)⟩:Dd),v9.2)
def TR(a1:Ak)(v1:List Ac)(v2:Ac × AE)(v12:Bool)(v13:List Int)(v14 v15:Int):Option (Dd × AE):=
 if v12 then
  (Es (⟨v13,v14,v15⟩:AE) (v1.length:Int)).bind λv16=>
  (getI v1 v16.1).bind λy17=>
  TS a1 v16.2.ar v16.2.bz v16.2.au y17.ae
 else
  TS a1 v13 v14 v15 v2.1.ae
def Rk(a0:AE)(a1:Ak)(a2:List Ai):Option (Dd × AE):=
 (OH a1 a2).bind λv1=>
 (Kn a0 a1).bind λv2=>
 if(decide ((v1.length:Int)>0))then
  (IV v2.2 4).bind λv18=>
  TR a1 v1 v2 (!v18.1) v18.2.ar v18.2.bz v18.2.au
 else
  TR a1 v1 v2 false v2.2.ar v2.2.bz v2.2.au
def TO(a0:AE)(a1:Ak)(a2:List Ai):Option (B0 × AE):=
 (Es a0 4).bind λv1=>
 if(v1.1==0)then
  (EC v1.2 ([([49]:Ab),([50]:Ab),([51]:Ab),([97]:Ab),([113]:Ab)]:List (Ab))).bind λv2=>
  some ((⟨2,(⟨0,(⟨[]⟩:Ac),(⟨[]⟩:Ac)⟩:Dd),([]:Ab),v2.1,([]:Ab)⟩:B0),v2.2)
 else
  if(v1.1==1)then
   if(decide ((a1.af.length:Int)>0))then
    (Es v1.2 (a1.af.length:Int)).bind λv3=>
    (getI a1.af v3.1).bind λy4=>
    (EC v3.2 ([([48]:Ab),([120]:Ab),([97,98,99]:Ab)]:List (Ab))).bind λv5=>
    (EC v5.2 ([([121]:Ab),([120]:Ab),([122,122]:Ab)]:List (Ab))).bind λv6=>
    some ((⟨3,(⟨0,(⟨[]⟩:Ac),(⟨[]⟩:Ac)⟩:Dd),y4.ab,v5.1,v6.1⟩:B0),v6.2)
   else
    (Rk (⟨v1.2.ar,v1.2.bz,v1.2.au⟩:AE) a1 a2).bind λv7=>
    some ((⟨1,v7.1,([]:Ab),([]:Ab),([]:Ab)⟩:B0),v7.2)
  else
   (Rk (⟨v1.2.ar,v1.2.bz,v1.2.au⟩:AE) a1 a2).bind λv8=>
   some ((⟨1,v8.1,([]:Ab),([]:Ab),([]:Ab)⟩:B0),v8.2)
def TA(a0:AE)(a1:Ak):Option (Ac × AE):=
 (Kn a0 a1).bind λv1=>
 (Es v1.2 10).bind λv2=>
 if(v2.1==0)then
  (Es v2.2 (v1.1.ae.length:Int)).bind λv3=>
  (EC v3.2 ([([]:Ab),([97,98,99,100]:Ab),([45]:Ab),([65]:Ab)]:List (Ab))).bind λv4=>
  (getI v1.1.ae v3.1).bind λy5=>
  some ((⟨(v1.1.ae.set (v3.1).toNat v4.1)⟩:Ac),(⟨v4.2.ar,v4.2.bz,v4.2.au⟩:AE))
 else
  if(v2.1==1)then
   req ((((v1.1.ae).length:Int)+(([([120]:Ab)]:List (Ab)).length:Int))*16<=140737488355328/\((v1.1.ae).length:Int)+(([([120]:Ab)]:List (Ab)).length:Int)<=140737488355328)<|
   some ((⟨(v1.1.ae++ [([120]:Ab)])⟩:Ac),(⟨v2.2.ar,v2.2.bz,v2.2.au⟩:AE))
  else
   if(v2.1==2)then
    some ((⟨[]⟩:Ac),(⟨v2.2.ar,v2.2.bz,v2.2.au⟩:AE))
   else
    some ((⟨v1.1.ae⟩:Ac),(⟨v2.2.ar,v2.2.bz,v2.2.au⟩:AE))
def TH(a0:AE)(a1:Ak)(a2:List Ai):Option (B0 × AE):=
 (TO a0 a1 a2).bind λv1=>
 (Es v1.2 12).bind λv2=>
 if(v2.1==0)then
  (Es v2.2 5).bind λv3=>
  some ((⟨v3.1,v1.1.cm,v1.1.ay,v1.1.bw,v1.1.a8⟩:B0),(⟨v3.2.ar,v3.2.bz,v3.2.au⟩:AE))
 else
  if(v2.1==1)then
   (EC v2.2 ([([]:Ab),([97,98,99,100]:Ab),([45]:Ab)]:List (Ab))).bind λv4=>
   some ((⟨v1.1.aw,v1.1.cm,v1.1.ay,v4.1,v1.1.a8⟩:B0),(⟨v4.2.ar,v4.2.bz,v4.2.au⟩:AE))
  else
   if(v2.1==2)then
    (EC v2.2 ([([122]:Ab),([105]:Ab)]:List (Ab))).bind λv5=>
    some ((⟨v1.1.aw,v1.1.cm,v5.1,v1.1.bw,v1.1.a8⟩:B0),(⟨v5.2.ar,v5.2.bz,v5.2.au⟩:AE))
   else
    if(v2.1==3)then
     (TA v2.2 a1).bind λv6=>
     some ((⟨v1.1.aw,(⟨v1.1.cm.aw,v1.1.cm.cq,(⟨v6.1.ae⟩:Ac)⟩:Dd),v1.1.ay,v1.1.bw,v1.1.a8⟩:B0),(⟨v6.2.ar,v6.2.bz,v6.2.au⟩:AE))
    else
     some ((⟨v1.1.aw,v1.1.cm,v1.1.ay,v1.1.bw,v1.1.a8⟩:B0),(⟨v2.2.ar,v2.2.bz,v2.2.au⟩:AE))
def TE(a0:AE):Option (Ak × AE):=
 (On a0).bind λv1=>
 (Es v1.2 14).bind λv2=>
 if(v2.1==0)then
  (EC v2.2 ([([]:Ab),([116,116]:Ab),([84]:Ab)]:List (Ab))).bind λv3=>
  some ((⟨v3.1,v1.1.aq,v1.1.af⟩:Ak),(⟨v3.2.ar,v3.2.bz,v3.2.au⟩:AE))
 else
  if(v2.1==1)then
   (EC v2.2 ([([97]:Ab),([97,98,99,100]:Ab),([]:Ab),([100]:Ab)]:List (Ab))).bind λv4=>
   req ((((v1.1.aq).length:Int)+(([v4.1]:List (Ab)).length:Int))*16<=140737488355328/\((v1.1.aq).length:Int)+(([v4.1]:List (Ab)).length:Int)<=140737488355328)<|
   some ((⟨v1.1.ab,(v1.1.aq++ [v4.1]),v1.1.af⟩:Ak),(⟨v4.2.ar,v4.2.bz,v4.2.au⟩:AE))
  else
   if(v2.1==2)then
    req (0<=(0:Int)/\(0:Int)<=1/\(1:Int)<=(v1.1.aq.length:Int))<|
    some ((⟨v1.1.ab,(Bg v1.1.aq 0 1),v1.1.af⟩:Ak),(⟨v2.2.ar,v2.2.bz,v2.2.au⟩:AE))
   else
    if(v2.1==3)then
     (EC v2.2 ([([97]:Ab),([122]:Ab),([122,122]:Ab)]:List (Ab))).bind λv5=>
     (Es v5.2 5).bind λv6=>
     (Es v6.2 5).bind λv7=>
     req ((((v1.1.af).length:Int)+(([(⟨v5.1,v6.1,(IntKind.i64.wrap (v7.1-1))⟩:Be)]:List Be).length:Int))*32<=140737488355328/\((v1.1.af).length:Int)+(([(⟨v5.1,v6.1,(IntKind.i64.wrap (v7.1-1))⟩:Be)]:List Be).length:Int)<=140737488355328)<|
     some ((⟨v1.1.ab,v1.1.aq,(v1.1.af++ [(⟨v5.1,v6.1,(IntKind.i64.wrap (v7.1-1))⟩:Be)])⟩:Ak),(⟨v7.2.ar,v7.2.bz,v7.2.au⟩:AE))
    else
     some ((⟨v1.1.ab,v1.1.aq,v1.1.af⟩:Ak),(⟨v2.2.ar,v2.2.bz,v2.2.au⟩:AE))
def Ol(v1:Ak × AE)(v2:List Int)(v3 v4:Int)(v5:List Be):Option (Ak × List Ai × B0):=
 (Rg (⟨v2,v3,v4⟩:AE) (⟨v1.1.ab,v1.1.aq,v5⟩:Ak)).bind λv6=>
 (TH v6.2 (⟨v1.1.ab,v1.1.aq,v5⟩:Ak) v6.1).bind λv7=>
 (IV v7.2 12).bind λv8=>
 if v8.1 then
  (TE v8.2).bind λv9=>
  some ((⟨v9.1.ab,v9.1.aq,v9.1.af⟩:Ak),v6.1,v7.1)
 else
  some ((⟨v1.1.ab,v1.1.aq,v5⟩:Ak),v6.1,v7.1)
def T2(a0:List Int):Option (Ak × List Ai × B0):=
 (On (⟨a0,0,0⟩:AE)).bind λv1=>
 if(decide ((v1.1.af.length:Int)>0))then
  (IV v1.2 2).bind λv10=>
  if v10.1 then
   (getI v1.1.af 0).bind λy11=>
   Ol v1 v10.2.ar v10.2.bz v10.2.au (v1.1.af.set ((0:Int)).toNat {y11 with bf:=3})
  else
   Ol v1 v10.2.ar v10.2.bz v10.2.au v1.1.af
 else
  if false then
   (getI v1.1.af 0).bind λy12=>
   Ol v1 v1.2.ar v1.2.bz v1.2.au (v1.1.af.set ((0:Int)).toNat {y12 with bf:=3})
  else
   Ol v1 v1.2.ar v1.2.bz v1.2.au v1.1.af
def Js(a0 a1 a2:Int):Option (Bool):=
 some ((decide (a0>=a1))&&(decide (a0<=a2)))
def Yf(a0:Ab)(a1:Int):Option (Bool):=
 (Js (a0.length:Int) 1 a1).bind λv1=>
 some v1
def Yg(a0:Ab)(a1 v2:Int):Option ((Int) ⊕ Option (Bool)):=
 if(decide (v2<(a0.length:Int)))then
  (getI a0 v2).bind λy3=>
  if((decide ((y3.toNat:Int)<97))||(decide ((y3.toNat:Int)>122)))then
   some (.inr (some false))
  else
   some (.inl (IntKind.i64.wrap (v2+1)))
 else
  some (.inr (Yf a0 a1))
def OB(a0:Ab)(a1:Int):Option (Bool):=
 AX (λs:Int=>Yg a0 a1 s) 0
def XU(a0:List (Ab))(a1:Ab)(v1:Int):Option ((Int) ⊕ Option (Int)):=
 if(decide (v1<(a0.length:Int)))then
  (getI a0 v1).bind λy2=>
  if(a1==y2)then
   some (.inr (some v1))
  else
   some (.inl (IntKind.i64.wrap (v1+1)))
 else
  some (.inr (some (-1)))
def TJ(a0:List (Ab))(a1:Ab):Option (Int):=
 AX (λs:Int=>XU a0 a1 s) 0
def Q7(a0:List (Ab))(a1:Ab):Option (Bool):=
 (TJ a0 a1).bind λv1=>
 some (decide (v1>=0))
def YD(a0:Int):Option (Bool):=
 (Js a0 0 3).bind λv1=>
 some v1
def T4(a0:Ak)(v3:Int):Option ((Int) ⊕ Option (Bool)):=
 if(decide (v3<(a0.af.length:Int)))then
  (getI a0.af v3).bind λy4=>
  (OB y4.ab 1).bind λv5=>
  if v5 then
   (Js y4.a7 1 (IntKind.i64.wrap ((a0.aq.length:Int)-1))).bind λv6=>
   if v6 then
    (YD y4.bf).bind λv7=>
    if(decide (v3>0))then
     if v7 then
      (getI a0.af (IntKind.i64.wrap (v3-1))).bind λy8=>
      if(Op.bytesLess y4.ab y8.ab||y4.ab==y8.ab)then
       some (.inr (some false))
      else
       some (.inl (IntKind.i64.wrap (v3+1)))
     else
      some (.inr (some false))
    else
     if((!v7)||false)then
      some (.inr (some false))
     else
      some (.inl (IntKind.i64.wrap (v3+1)))
   else
    some (.inr (some false))
  else
   some (.inr (some false))
 else
  some (.inr (some true))
def X9(a0:Ak):Option (Bool):=
 AX (λs:Int=>T4 a0 s) 0
def T7(a0:Ak)(v9:Int):Option ((Int) ⊕ Option (Bool)):=
 if(decide (v9<(a0.aq.length:Int)))then
  (getI a0.aq v9).bind λy10=>
  (OB y10 3).bind λv11=>
  if v11 then
   req (0<=(0:Int)/\(0:Int)<=v9/\v9<=(a0.aq.length:Int))<|
   (Q7 (Bg a0.aq 0 v9) y10).bind λv12=>
   if v12 then
    some (.inr (some false))
   else
    some (.inl (IntKind.i64.wrap (v9+1)))
  else
   some (.inr (some false))
 else
  some (.inr (X9 a0))
def Ow(a0:Ak):Option (Bool):=
 (OB a0.ab 1).bind λv1=>
 if v1 then
  (Js (a0.aq.length:Int) 2 4).bind λv2=>
  if((!v2)||(decide ((a0.af.length:Int)>3)))then
   some false
  else
   AX (λs:Int=>T7 a0 s) 0
 else
  some false
def XX(a0:Int):Option (Bool):=
 some (((decide (a0>=97))&&(decide (a0<=122)))||((decide (a0>=48))&&(decide (a0<=57))))
def Yc(a0:Ab)(a1:Int):Option (Int):=
 (Tu a0 a1).bind λv1=>
 some v1
def X8(a0 a1:Ab)(v1:Int):Option ((Int) ⊕ Option (Bool)):=
 if(decide (v1<(a0.length:Int)))then
  (getI a0 v1).bind λy2=>
  (XX (y2.toNat:Int)).bind λv3=>
  if v3 then
   some (.inl (IntKind.i64.wrap (v1+1)))
  else
   (Yc a1 (y2.toNat:Int)).bind λv4=>
   if(decide (v4<0))then
    some (.inr (some false))
   else
    some (.inl (IntKind.i64.wrap (v1+1)))
 else
  some (.inr (some true))
def Ot(a0 a1:Ab):Option (Bool):=
 AX (λs:Int=>X8 a0 a1 s) 0
def IX(a0:Ab):Option (Bool):=
 (Js (a0.length:Int) 1 3).bind λv1=>
 if v1 then
  (Ot a0 ([]:Ab)).bind λv2=>
  some v2
 else
  some false
def TU(a0:Ab):Option (Bool):=
 (IX a0).bind λv1=>
 some (!v1)
def Lt(a0:Ak)(a1:Ac):Option (Bool):=
 if((a1.ae.length:Int)==(a0.aq.length:Int))then
  (IY a1.ae (λy0_=>TU y0_)).bind λv1=>
  some (!v1)
 else
  some false
def TC(a0:Ak)(a1:Dd):Option (Bool):=
 if(a1.aw==1)then
  if((a1.cq.ae.length:Int)==0)then
   (Lt a0 a1.ct).bind λv1=>
   some v1
  else
   some false
 else
  if(a1.aw==2)then
   (Lt a0 a1.cq).bind λv2=>
   some (v2&&((a1.ct.ae.length:Int)==0))
  else
   if(a1.aw==3)then
    (Lt a0 a1.cq).bind λv3=>
    if v3 then
     (Lt a0 a1.ct).bind λv4=>
     if v4 then
      (getI a1.cq.ae 0).bind λy5=>
      (getI a1.ct.ae 0).bind λy6=>
      some (y5==y6)
     else
      some false
    else
     some false
   else
    some false
def UD(a0:Dd):Option (Bool):=
 some (((a0.aw==0)&&((a0.cq.ae.length:Int)==0))&&((a0.ct.ae.length:Int)==0))
def X6(a0:Be)(a1:Ab):Option (Bool):=
 some (a0.ab==a1)
def Om(a0:Ak)(a1:Ab):Option (Int):=
 (E8 a0.af (λy0_=>X6 y0_ a1)).bind λv1=>
 some v1
def TL(a0:Ak)(a1:B0):Option (Bool):=
 if(a1.aw==1)then
  (TC a0 a1.cm).bind λv1=>
  some (((v1&&(a1.ay==([]:Ab)))&&(a1.bw==([]:Ab)))&&(a1.a8==([]:Ab)))
 else
  if(a1.aw==2)then
   (UD a1.cm).bind λv2=>
   if v2 then
    if(a1.ay==([]:Ab))then
     (IX a1.bw).bind λv3=>
     some (v3&&(a1.a8==([]:Ab)))
    else
     some false
   else
    some false
  else
   if(a1.aw==3)then
    (UD a1.cm).bind λv4=>
    if v4 then
     (Om a0 a1.ay).bind λv5=>
     if(decide (v5>=0))then
      (IX a1.bw).bind λv6=>
      if v6 then
       (IX a1.a8).bind λv7=>
       some v7
      else
       some false
     else
      some false
    else
     some false
   else
    some false
def Uv(a0:Ak)(a1:B0):Option (Bool):=
 (Ow a0).bind λv1=>
 if v1 then
  (TL a0 a1).bind λv2=>
  some v2
 else
  some false
def Og(a0:List Ai)(v1:Int)(v2:List (Ab)):Option ((Int × List (Ab)) ⊕ Option (List (Ab))):=
 if(decide (v1<(a0.length:Int)))then
  (getI a0 v1).bind λy3=>
  req ((((v2).length:Int)+(([y3.ah]:List (Ab)).length:Int))*16<=140737488355328/\((v2).length:Int)+(([y3.ah]:List (Ab)).length:Int)<=140737488355328)<|
  some (.inl ((IntKind.i64.wrap (v1+1)),(v2++ [y3.ah])))
 else
  some (.inr (some v2))
def Ud(a0:List Ai):Option (List (Ab)):=
 AX (λs:Int × List (Ab)=>Og a0 s.1 s.2) (0,[])
def Un(a0:Ab):Option (Bool):=
 (Js (a0.length:Int) 1 12).bind λv1=>
 if v1 then
  (Ot a0 ([46,47]:Ab)).bind λv2=>
  some v2
 else
  some false
def Yb(a0:List (Ab))(v1:Int):Option ((Int) ⊕ Option (Bool)):=
 if(decide (v1<(a0.length:Int)))then
  (getI a0 v1).bind λy2=>
  (Un y2).bind λv3=>
  if(decide (v1>0))then
   if v3 then
    (getI a0 (IntKind.i64.wrap (v1-1))).bind λy4=>
    if(Op.bytesLess y2 y4||y2==y4)then
     some (.inr (some false))
    else
     some (.inl (IntKind.i64.wrap (v1+1)))
   else
    some (.inr (some false))
  else
   if((!v3)||false)then
    some (.inr (some false))
   else
    some (.inl (IntKind.i64.wrap (v1+1)))
 else
  some (.inr (some true))
def Uf(a0:List (Ab)):Option (Bool):=
 AX (λs:Int=>Yb a0 s) 0
def Um(a0:Ab):Option (Bool):=
 if(decide ((a0.length:Int)<=24))then
  (Ot a0 ([46,45,44,95]:Ab)).bind λv1=>
  some v1
 else
  some false
def Ur(a0:Ab)(a1:Bool):Option (Bool):=
 (Um a0).bind λv1=>
 some (v1&&(!(a1&&(a0 !=([]:Ab)))))
def T0(a0:Ai):Option (Bool):=
 (Ur a0.bd a0.bp).bind λv1=>
 some (!v1)
def TV(a0:List Ai):Option (Bool):=
 if(decide ((a0.length:Int)<=24))then
  (Ud a0).bind λv1=>
  (Uf v1).bind λv2=>
  if v2 then
   (IY a0 (λy0_=>T0 y0_)).bind λv3=>
   some (!v3)
  else
   some false
 else
  some false
def Uu(a0:Ai):Option (Bool):=
 some a0.bp
def ON(a0:List Ai):Option (Bool):=
 (TV a0).bind λv1=>
 if v1 then
  (IY a0 (λy0_=>Uu y0_)).bind λv2=>
  some (!v2)
 else
  some false
def Tv(a0 a1:Ab):Option (Bool):=
 if(decide ((a0.length:Int)>=(a1.length:Int)))then
  req (0<=(0:Int)/\(0:Int)<=(a1.length:Int)/\(a1.length:Int)<=(a0.length:Int))<|
  some ((Bg a0 0 (a1.length:Int))==a1)
 else
  some false
def XP(a0 a1:Ab):Option (Ab × Bool):=
 (Tv a0 a1).bind λv1=>
 if(!v1)then
  some (a0,false)
 else
  req (0<=(a1.length:Int)/\(a1.length:Int)<=(a0.length:Int)/\(a0.length:Int)<=(a0.length:Int))<|
  some ((Bg a0 (a1.length:Int) (a0.length:Int)),true)
def Rm(a0 a1:Ab):Option (Ab × Bool):=
 (XP a0 a1).bind λv1=>
 some (v1.1,v1.2)
def Us(a0 a1:Ab):Option (Int):=
 (N6 a0 a1).bind λv1=>
 some v1
def X3(v3:Ab)(v4:Int)(v5:List (Ab)):Option (List (Ab)):=
 (getI v5 v4).bind λy6=>
 req (0<=(0:Int)/\(0:Int)<=(IntKind.i64.wrap (v4+1))/\(IntKind.i64.wrap (v4+1))<=((v5.set (v4).toNat v3).length:Int))<|
 some (Bg (v5.set (v4).toNat v3) 0 (IntKind.i64.wrap (v4+1)))
def Oo(a0 a1:Ab)(a2 v2:Int)(v7:Ab)(v8:Int)(v9:List (Ab)):Option ((Ab × Int × List (Ab)) ⊕ Option (List (Ab))):=
 if(decide (v8<(IntKind.i64.wrap ((bif (decide ((IntKind.i64.wrap ((a0.length:Int)+1))<v2))then(IntKind.i64.wrap ((a0.length:Int)+1))else v2)-1))))then
  (Us v7 a1).bind λv10=>
  if(decide (v10<0))then
   some (.inr (X3 v7 v8 v9))
  else
   req (0<=(0:Int)/\(0:Int)<=(IntKind.i64.wrap (v10+a2))/\(IntKind.i64.wrap (v10+a2))<=(v7.length:Int))<|
   (getI v9 v8).bind λy11=>
   req (0<=(IntKind.i64.wrap (v10+(a1.length:Int)))/\(IntKind.i64.wrap (v10+(a1.length:Int)))<=(v7.length:Int)/\(v7.length:Int)<=(v7.length:Int))<|
   some (.inl ((Bg v7 (IntKind.i64.wrap (v10+(a1.length:Int))) (v7.length:Int)),(IntKind.i64.wrap (v8+1)),(v9.set (v8).toNat (Bg v7 0 (IntKind.i64.wrap (v10+a2))))))
 else
  some (.inr (X3 v7 v8 v9))
def X4(a0 a1:Ab)(a2 v2:Int):Option (List (Ab)):=
 req (0<=(bif (decide ((IntKind.i64.wrap ((a0.length:Int)+1))<v2))then(IntKind.i64.wrap ((a0.length:Int)+1))else v2)/\(bif (decide ((IntKind.i64.wrap ((a0.length:Int)+1))<v2))then(IntKind.i64.wrap ((a0.length:Int)+1))else v2)*16<=140737488355328/\(bif (decide ((IntKind.i64.wrap ((a0.length:Int)+1))<v2))then(IntKind.i64.wrap ((a0.length:Int)+1))else v2)<=140737488355328)<|
 AX (λs:Ab × Int × List (Ab)=>Oo a0 a1 a2 v2 s.1 s.2.1 s.2.2) (a0,0,(List.replicate ((bif (decide ((IntKind.i64.wrap ((a0.length:Int)+1))<v2))then(IntKind.i64.wrap ((a0.length:Int)+1))else v2)).toNat ([]:Ab)))
def Yq(a0 a1:Ab)(a2 a3:Int):Option (List (Ab)):=
 if(a3==0)then
  some []
 else
  if(a1==([]:Ab))then
   (Yn a0 a3).bind λv1=>
   some v1
  else
   if(decide (a3<0))then
    (Ua a0 a1).bind λv12=>
    X4 a0 a1 a2 (IntKind.i64.wrap (v12+1))
   else
    X4 a0 a1 a2 a3
def Rp(a0 a1:Ab):Option (List (Ab)):=
 (Yq a0 a1 0 (-1)).bind λv1=>
 some v1
def TB(a0:Ak)(a1:Ac):Option (Ai):=
 req ((a0.ab).length+(([47]:Ab)).length<=9223372036854775807)<|
 (getI a1.ae 0).bind λy1=>
 req (((a0.ab++([47]:Ab))).length+(y1).length<=9223372036854775807)<|
 req (0<=(1:Int)/\(1:Int)<=(a1.ae.length:Int)/\(a1.ae.length:Int)<=(a1.ae.length:Int))<|
 (UL (Bg a1.ae 1 (a1.ae.length:Int)) ([44]:Ab)).bind λv2=>
 some (⟨((a0.ab++([47]:Ab))++y1),v2,false⟩:Ai)
def TQ(a0:Ak)(a1:Ai):Option (Ac × Bool):=
 req ((a0.ab).length+(([47]:Ab)).length<=9223372036854775807)<|
 (Rm a1.ah (a0.ab++([47]:Ab))).bind λv1=>
 (Rp a1.bd ([44]:Ab)).bind λv2=>
 req (((([v1.1]:List (Ab)).length:Int)+((v2).length:Int))*16<=140737488355328/\(([v1.1]:List (Ab)).length:Int)+((v2).length:Int)<=140737488355328)<|
 if v1.2 then
  (Lt a0 (⟨([v1.1]++v2)⟩:Ac)).bind λv3=>
  if v3 then
   (TB a0 (⟨([v1.1]++v2)⟩:Ac)).bind λv4=>
   if(!(a1.ah==v4.ah&&(a1.bd==v4.bd&&(a1.bp==v4.bp))))then
    some ((⟨[]⟩:Ac),false)
   else
    some ((⟨([v1.1]++v2)⟩:Ac),true)
  else
   some ((⟨[]⟩:Ac),false)
 else
  some ((⟨[]⟩:Ac),false)
def Ob(a0:Ak)(a1:List Ai)(v1:Int)(v2:List Ac):Option ((Int × List Ac) ⊕ Option (List Ac)):=
 if(decide (v1<(a1.length:Int)))then
  (getI a1 v1).bind λy3=>
  (TQ a0 y3).bind λv4=>
  if v4.2 then
   req ((((v2).length:Int)+(([v4.1]:List Ac).length:Int))*24<=140737488355328/\((v2).length:Int)+(([v4.1]:List Ac).length:Int)<=140737488355328)<|
   some (.inl ((IntKind.i64.wrap (v1+1)),(v2++ [v4.1])))
  else
   some (.inl ((IntKind.i64.wrap (v1+1)),v2))
 else
  some (.inr (some v2))
def Re(a0:Ak)(a1:List Ai):Option (List Ac):=
 AX (λs:Int × List Ac=>Ob a0 a1 s.1 s.2) (0,[])
def XZ(a0:Ac)(a1:Ab):Option (Bool):=
 (getI a0.ae 0).bind λy1=>
 some (y1==a1)
def Q9(a0:Ak)(a1:List Ai)(a2:Ab):Option (Ac × Bool):=
 (Re a0 a1).bind λv1=>
 (E8 v1 (λy0_=>XZ y0_ a2)).bind λv2=>
 if(decide (v2<0))then
  some ((⟨[]⟩:Ac),false)
 else
  (getI v1 v2).bind λy3=>
  some (y3,true)
def MZ(a0:Ak)(a1:Ab):Option (Be):=
 (Om a0 a1).bind λv1=>
 (getI a0.af v1).bind λy2=>
 some y2
def Rc(a0:Ak)(a1:Ab):Option (Ab):=
 req ((a0.ab).length+(([46]:Ab)).length<=9223372036854775807)<|
 req (((a0.ab++([46]:Ab))).length+(a1).length<=9223372036854775807)<|
 req ((((a0.ab++([46]:Ab))++a1)).length+(([47]:Ab)).length<=9223372036854775807)<|
 some (((a0.ab++([46]:Ab))++a1)++([47]:Ab))
def TD(a0 a1:Ab):Option (Ab × Ab × Bool):=
 (N6 a0 a1).bind λv1=>
 if(decide (v1>=0))then
  req (0<=(0:Int)/\(0:Int)<=v1/\v1<=(a0.length:Int))<|
  req (0<=(IntKind.i64.wrap (v1+(a1.length:Int)))/\(IntKind.i64.wrap (v1+(a1.length:Int)))<=(a0.length:Int)/\(a0.length:Int)<=(a0.length:Int))<|
  some ((Bg a0 0 v1),(Bg a0 (IntKind.i64.wrap (v1+(a1.length:Int))) (a0.length:Int)),true)
 else
  some (a0,([]:Ab),false)
def OL(a0 a1:Ab):Option (Ab × Ab × Bool):=
 (TD a0 a1).bind λv1=>
 some (v1.1,v1.2.1,v1.2.2)
def MW(a0:Ak)(a1 a2:Ab):Option (Ab × Ab × Bool):=
 (Rc a0 a1).bind λv1=>
 (Rm a2 v1).bind λv2=>
 (OL v2.1 ([47]:Ab)).bind λv3=>
 if v2.2 then
  if v3.2.2 then
   (IX v3.1).bind λv4=>
   if v4 then
    (IX v3.2.1).bind λv5=>
    if(!v5)then
     some (([]:Ab),([]:Ab),false)
    else
     some (v3.1,v3.2.1,true)
   else
    some (([]:Ab),([]:Ab),false)
  else
   some (([]:Ab),([]:Ab),false)
 else
  some (([]:Ab),([]:Ab),false)
def N7(a0:Ak)(a1:Ab)(a2:List Ai)(v1:Int)(v2:List (Ab)):Option ((Int × List (Ab)) ⊕ Option (List (Ab))):=
 if(decide (v1<(a2.length:Int)))then
  (getI a2 v1).bind λy3=>
  (MW a0 a1 y3.ah).bind λv4=>
  if v4.2.2 then
   req ((((v2).length:Int)+(([y3.ah]:List (Ab)).length:Int))*16<=140737488355328/\((v2).length:Int)+(([y3.ah]:List (Ab)).length:Int)<=140737488355328)<|
   some (.inl ((IntKind.i64.wrap (v1+1)),(v2++ [y3.ah])))
  else
   some (.inl ((IntKind.i64.wrap (v1+1)),v2))
 else
  some (.inr (some v2))
def Od(a0:Ak)(a1:Ab)(a2:List Ai):Option (List (Ab)):=
 AX (λs:Int × List (Ab)=>N7 a0 a1 a2 s.1 s.2) (0,[])
def Rl(a0:Ab):Option (Bool):=
 some (a0 !=a0)
def MV(a0 a1:Ab):Option (Int):=
 (Rl a0).bind λv1=>
 (Rl a1).bind λv2=>
 if v1 then
  if v2 then
   some 0
  else
   some (-1)
 else
  if v2 then
   some 1
  else
   if(Op.bytesLess a0 a1)then
    some (-1)
   else
    if(!(Op.bytesLess a0 a1||a0==a1))then
     some 1
    else
     some 0
def Ru(a0:List Int)(v1:Int):Option ((Int) ⊕ Option (Int)):=
 if(decide (v1<(a0.length:Int)))then
  (getI a0 v1).bind λy2=>
  if(y2 !=0)then
   some (.inr (some y2))
  else
   some (.inl (IntKind.i64.wrap (v1+1)))
 else
  some (.inr (some 0))
def Ry(a0:List Int):Option (Int):=
 AX (λs:Int=>Ru a0 s) 0
def tU(a0 a1:Bf):Option (Int):=
 (MV a0.bb a1.bb).bind λv1=>
 (MV a0.al a1.al).bind λv2=>
 (Ry ([v1,v2]:List Int)).bind λv3=>
 some v3
def N8(a0:Ak)(a1:List Ai)(v5:Unit × List Bf)(v6:Int)(v7:List Ac):Option ((Int × List Ac) ⊕ Option (List Ac × Bool)):=
 if(decide (v6<(v5.2.length:Int)))then
  (getI v5.2 v6).bind λy8=>
  (Q9 a0 a1 y8.al).bind λv9=>
  if v9.2 then
   req ((((v7).length:Int)+(([v9.1]:List Ac).length:Int))*24<=140737488355328/\((v7).length:Int)+(([v9.1]:List Ac).length:Int)<=140737488355328)<|
   some (.inl ((IntKind.i64.wrap (v6+1)),(v7++ [v9.1])))
  else
   some (.inl ((IntKind.i64.wrap (v6+1)),v7))
 else
  some (.inr (some (v7,true)))
def XW(a0:Ak)(a1:List Ai)(v4:List Bf):Option (List Ac × Bool):=
 (UB 57 [] v4).bind λv5=>
 AX (λs:Int × List Ac=>N8 a0 a1 v5 s.1 s.2) (0,[])
def Oa(a0:Ak)(a1:List Ai)(a2:B0)(v3:List (Ab))(v10:Int)(v11:List Bf):Option ((Int × List Bf) ⊕ Option (List Ac × Bool)):=
 if(decide (v10<(v3.length:Int)))then
  (getI v3 v10).bind λy12=>
  (MW a0 a2.ay y12).bind λv13=>
  if((!Op.bytesLess v13.1 a2.bw)&&(Op.bytesLess v13.1 a2.a8||v13.1==a2.a8))then
   req ((((v11).length:Int)+(([(⟨v13.1,v13.2.1⟩:Bf)]:List Bf).length:Int))*32<=140737488355328/\((v11).length:Int)+(([(⟨v13.1,v13.2.1⟩:Bf)]:List Bf).length:Int)<=140737488355328)<|
   some (.inl ((IntKind.i64.wrap (v10+1)),(v11++ [(⟨v13.1,v13.2.1⟩:Bf)])))
  else
   some (.inl ((IntKind.i64.wrap (v10+1)),v11))
 else
  some (.inr (XW a0 a1 v11))
def Rb(a0:Ak)(a1:List Ai)(a2:B0):Option (List Ac × Bool):=
 if(a2.aw==2)then
  (Q9 a0 a1 a2.bw).bind λv1=>
  if v1.2 then
   req (((([]:List Ac).length:Int)+(([v1.1]:List Ac).length:Int))*24<=140737488355328/\(([]:List Ac).length:Int)+(([v1.1]:List Ac).length:Int)<=140737488355328)<|
   some ([v1.1],true)
  else
   some ([],true)
 else
  if(a2.aw !=3)then
   some ([],false)
  else
   (MZ a0 a2.ay).bind λv2=>
   if(v2.bf !=3)then
    some ([],false)
   else
    (Od a0 a2.ay a1).bind λv3=>
    AX (λs:Int × List Bf=>Oa a0 a1 a2 v3 s.1 s.2) (0,[])
def T9(a0:Ak)(a1:List Ai)(a2:B0):Option (List Ac × Bool):=
 (Uv a0 a2).bind λv1=>
 if v1 then
  (ON a1).bind λv2=>
  if(!v2)then
   some ([],false)
  else
   (Rb a0 a1 a2).bind λv3=>
   some (v3.1,v3.2)
 else
  some ([],false)
def Ye(a0:Ab)(a1:Int):Option (Bool):=
 some ((decide ((a0.length:Int)>=1))&&(decide ((a0.length:Int)<=a1)))
def Yd(a0:Ab)(a1 v1:Int):Option ((Int) ⊕ Option (Bool)):=
 if(decide (v1<(a0.length:Int)))then
  (getI a0 v1).bind λy2=>
  if((decide ((y2.toNat:Int)<97))||(decide ((y2.toNat:Int)>122)))then
   some (.inr (some false))
  else
   some (.inl (IntKind.i64.wrap (v1+1)))
 else
  some (.inr (Ye a0 a1))
def OD(a0:Ab)(a1:Int):Option (Bool):=
 AX (λs:Int=>Yd a0 a1 s) 0
def Ys(a0:List (Ab))(a1:Ab)(v1:Int):Option ((Int) ⊕ Option (Int)):=
 if(decide (v1<(a0.length:Int)))then
  (getI a0 v1).bind λy2=>
  if(y2==a1)then
   some (.inr (some v1))
  else
   some (.inl (IntKind.i64.wrap (v1+1)))
 else
  some (.inr (some (-1)))
def UA(a0:List (Ab))(a1:Ab):Option (Int):=
 AX (λs:Int=>Ys a0 a1 s) 0
def Ym(a0:List (Ab)):Option (Bool):=
 (Ku (a0.length:Int) 2 4).bind λv1=>
 some v1
def Yo(a0:List (Ab))(v2:Int):Option ((Int) ⊕ Option (Bool)):=
 if(decide (v2<(a0.length:Int)))then
  (getI a0 v2).bind λy3=>
  (OD y3 3).bind λv4=>
  if v4 then
   req (0<=(0:Int)/\(0:Int)<=v2/\v2<=(a0.length:Int))<|
   (UA (Bg a0 0 v2) y3).bind λv5=>
   if(decide (v5>=0))then
    some (.inr (some false))
   else
    some (.inl (IntKind.i64.wrap (v2+1)))
  else
   some (.inr (some false))
 else
  some (.inr (Ym a0))
def UJ(a0:List (Ab)):Option (Bool):=
 AX (λs:Int=>Yo a0 s) 0
def T1(a0:Ak)(v3:Int):Option ((Int) ⊕ Option (Bool)):=
 if(decide (v3<(a0.af.length:Int)))then
  (getI a0.af v3).bind λy4=>
  (OD y4.ab 1).bind λv5=>
  if v5 then
   (Ku y4.a7 1 (IntKind.i64.wrap ((a0.aq.length:Int)-1))).bind λv6=>
   if v6 then
    (Ku y4.bf 0 3).bind λv7=>
    if(decide (v3>0))then
     if v7 then
      (getI a0.af (IntKind.i64.wrap (v3-1))).bind λy8=>
      if(!Op.bytesLess y8.ab y4.ab)then
       some (.inr (some false))
      else
       some (.inl (IntKind.i64.wrap (v3+1)))
     else
      some (.inr (some false))
    else
     if((!v7)||false)then
      some (.inr (some false))
     else
      some (.inl (IntKind.i64.wrap (v3+1)))
   else
    some (.inr (some false))
  else
   some (.inr (some false))
 else
  some (.inr (some true))
def Oz(a0:Ak):Option (Bool):=
 (OD a0.ab 1).bind λv1=>
 if v1 then
  (UJ a0.aq).bind λv2=>
  if((!v2)||(decide ((a0.af.length:Int)>3)))then
   some false
  else
   AX (λs:Int=>T1 a0 s) 0
 else
  some false
def Uo(a0:Ak)(a1:Dd):Option (Bool):=
 if(a1.aw==1)then
  if((a1.cq.ae.length:Int)==0)then
   (Lu a0 a1.ct).bind λv1=>
   some v1
  else
   some false
 else
  if(a1.aw==2)then
   if((a1.ct.ae.length:Int)==0)then
    (Lu a0 a1.cq).bind λv2=>
    some v2
   else
    some false
  else
   if(a1.aw==3)then
    (Lu a0 a1.cq).bind λv3=>
    if v3 then
     (Lu a0 a1.ct).bind λv4=>
     if v4 then
      (getI a1.cq.ae 0).bind λy5=>
      (getI a1.ct.ae 0).bind λy6=>
      some (y5==y6)
     else
      some false
    else
     some false
   else
    some false
def Uw(a0:Dd):Option (Bool):=
 some (((a0.aw==0)&&((a0.cq.ae.length:Int)==0))&&((a0.ct.ae.length:Int)==0))
def Yv(a0:Ak)(a1:Ab)(v1:Int):Option ((Int) ⊕ Option (Int)):=
 if(decide (v1<(a0.af.length:Int)))then
  (getI a0.af v1).bind λy2=>
  if(y2.ab==a1)then
   some (.inr (some v1))
  else
   some (.inl (IntKind.i64.wrap (v1+1)))
 else
  some (.inr (some (-1)))
def OM(a0:Ak)(a1:Ab):Option (Int):=
 AX (λs:Int=>Yv a0 a1 s) 0
def Ul(a0:Ak)(a1:B0):Option (Bool):=
 if(a1.aw==1)then
  (Uo a0 a1.cm).bind λv1=>
  some (((v1&&(a1.ay==([]:Ab)))&&(a1.bw==([]:Ab)))&&(a1.a8==([]:Ab)))
 else
  if(a1.aw==2)then
   (Uw a1.cm).bind λv2=>
   if v2 then
    if(a1.ay==([]:Ab))then
     (IU a1.bw).bind λv3=>
     some (v3&&(a1.a8==([]:Ab)))
    else
     some false
   else
    some false
  else
   if(a1.aw==3)then
    (Uw a1.cm).bind λv4=>
    if v4 then
     (OM a0 a1.ay).bind λv5=>
     if(decide (v5>=0))then
      (IU a1.bw).bind λv6=>
      if v6 then
       (IU a1.a8).bind λv7=>
       some v7
      else
       some false
     else
      some false
    else
     some false
   else
    some false
def Uq(a0:Ak)(a1:B0):Option (Bool):=
 (Oz a0).bind λv1=>
 if v1 then
  (Ul a0 a1).bind λv2=>
  some v2
 else
  some false
def UP(a0:Ab):Option (Bool):=
 (Ku (a0.length:Int) 1 12).bind λv1=>
 if v1 then
  (OI a0 ([46,47]:Ab)).bind λv2=>
  some v2
 else
  some false
def UO(a0:Ab):Option (Bool):=
 if(decide ((a0.length:Int)<=24))then
  (OI a0 ([46,45,44,95]:Ab)).bind λv1=>
  some v1
 else
  some false
def Uj(a0 a1:Ab)(a2:Bool):Option (Bool):=
 (UP a0).bind λv1=>
 if v1 then
  (UO a1).bind λv2=>
  some (v2&&((!a2)||(a1==([]:Ab))))
 else
  some false
def X7(a0:List Ai):Option (Bool):=
 some (decide ((a0.length:Int)<=24))
def Yr(a0:List Ai)(v1:Int):Option ((Int) ⊕ Option (Bool)):=
 if(decide (v1<(a0.length:Int)))then
  (getI a0 v1).bind λy2=>
  (Uj y2.ah y2.bd y2.bp).bind λv3=>
  if(decide (v1>0))then
   if v3 then
    (getI a0 (IntKind.i64.wrap (v1-1))).bind λy4=>
    if(!Op.bytesLess y4.ah y2.ah)then
     some (.inr (some false))
    else
     some (.inl (IntKind.i64.wrap (v1+1)))
   else
    some (.inr (some false))
  else
   if((!v3)||false)then
    some (.inr (some false))
   else
    some (.inl (IntKind.i64.wrap (v1+1)))
 else
  some (.inr (X7 a0))
def Up(a0:List Ai):Option (Bool):=
 AX (λs:Int=>Yr a0 s) 0
def Yy(a0:List Ai):Option (Bool):=
 (Up a0).bind λv1=>
 some v1
def Yx(a0:List Ai)(v2:Int):Option ((Int) ⊕ Option (Bool)):=
 if(decide (v2<(a0.length:Int)))then
  (getI a0 v2).bind λy3=>
  if y3.bp then
   some (.inr (some false))
  else
   some (.inl (IntKind.i64.wrap (v2+1)))
 else
  some (.inr (Yy a0))
def Rw(a0:List Ai):Option (Bool):=
 AX (λs:Int=>Yx a0 s) 0
def Oh(a2:Ab)(v1 v2:List Ac)(v3:Int):Option ((List Ac × Int) ⊕ Option (List Ac)):=
 if(decide (v3<(v1.length:Int)))then
  (getI v1 v3).bind λy4=>
  (getI y4.ae 0).bind λy5=>
  if(y5==a2)then
   req ((((v2).length:Int)+(([y4]:List Ac).length:Int))*24<=140737488355328/\((v2).length:Int)+(([y4]:List Ac).length:Int)<=140737488355328)<|
   some (.inl ((v2++ [y4]),(IntKind.i64.wrap (v3+1))))
  else
   some (.inl (v2,(IntKind.i64.wrap (v3+1))))
 else
  some (.inr (some v2))
def Rn(a0:Ak)(a1:List Ai)(a2:Ab):Option (List Ac):=
 (OH a0 a1).bind λv1=>
 AX (λs:List Ac × Int=>Oh a2 v1 s.1 s.2) ([],0)
def MY(a0:Ak)(a1 a2:Ab):Option (Ab × Ab × Bool):=
 (Lv a2 47).bind λv1=>
 if((v1.length:Int) !=3)then
  some (([]:Ab),([]:Ab),false)
 else
  (getI v1 0).bind λy2=>
  req ((a0.ab).length+(([46]:Ab)).length<=9223372036854775807)<|
  req (((a0.ab++([46]:Ab))).length+(a1).length<=9223372036854775807)<|
  if(y2 !=((a0.ab++([46]:Ab))++a1))then
   some (([]:Ab),([]:Ab),false)
  else
   (getI v1 1).bind λy3=>
   (IU y3).bind λv4=>
   if v4 then
    (getI v1 2).bind λy5=>
    (IU y5).bind λv6=>
    if(!v6)then
     some (([]:Ab),([]:Ab),false)
    else
     some (y3,y5,true)
   else
    some (([]:Ab),([]:Ab),false)
def Oe(a0:Ak)(a1:Ab)(a2:List Ai)(v1:List (Ab))(v2:Int):Option ((List (Ab) × Int) ⊕ Option (List (Ab))):=
 if(decide (v2<(a2.length:Int)))then
  (getI a2 v2).bind λy3=>
  (MY a0 a1 y3.ah).bind λv4=>
  if v4.2.2 then
   req ((((v1).length:Int)+(([y3.ah]:List (Ab)).length:Int))*16<=140737488355328/\((v1).length:Int)+(([y3.ah]:List (Ab)).length:Int)<=140737488355328)<|
   some (.inl ((v1++ [y3.ah]),(IntKind.i64.wrap (v2+1))))
  else
   some (.inl (v1,(IntKind.i64.wrap (v2+1))))
 else
  some (.inr (some v1))
def Yp(a0:Ak)(a1:Ab)(a2:List Ai):Option (List (Ab)):=
 AX (λs:List (Ab) × Int=>Oe a0 a1 a2 s.1 s.2) ([],0)
def Kr(a0 a1:Ac)(a2:Int):Option (Bool):=
 (getI a0.ae a2).bind λy1=>
 (getI a1.ae a2).bind λy2=>
 if(y1 !=y2)then
  some (Op.bytesLess y1 y2)
 else
  (getI a0.ae 0).bind λy3=>
  (getI a1.ae 0).bind λy4=>
  some (Op.bytesLess y3 y4)
def TX(v3:Int)(v5:Ab × Ab × Bool)(v6:Int)(v7:List Ac):Option ((List Ac × Int) ⊕ Option (List Ac)):=
 (getI v7 v6).bind λy8=>
 some (.inl ((v7.set (v6).toNat (⟨[v5.2.1,v5.1]⟩:Ac)),(IntKind.i64.wrap (v3+1))))
def Ko(v3:Int)(v5:Ab × Ab × Bool)(v9:Int)(v10:List Ac):Option ((Int × List Ac) ⊕ Option ((List Ac × Int) ⊕ Option (List Ac))):=
 if(decide (v9>0))then
  (getI v10 (IntKind.i64.wrap (v9-1))).bind λy11=>
  (Kr (⟨[v5.2.1,v5.1]⟩:Ac) y11 1).bind λv12=>
  if v12 then
   (getI v10 v9).bind λy13=>
   some (.inl ((IntKind.i64.wrap (v9-1)),(v10.set (v9).toNat y11)))
  else
   some (.inr (TX v3 v5 v9 v10))
 else
  some (.inr (TX v3 v5 v9 v10))
def Oj(a0:Ak)(a1:Ab)(v1:List (Ab))(v2:List Ac)(v3:Int):Option ((List Ac × Int) ⊕ Option (List Ac)):=
 if(decide (v3<(v1.length:Int)))then
  (getI v1 v3).bind λy4=>
  (MY a0 a1 y4).bind λv5=>
  req ((((v2).length:Int)+(([(⟨[v5.2.1,v5.1]⟩:Ac)]:List Ac).length:Int))*24<=140737488355328/\((v2).length:Int)+(([(⟨[v5.2.1,v5.1]⟩:Ac)]:List Ac).length:Int)<=140737488355328)<|
  AX (λs:Int × List Ac=>Ko v3 v5 s.1 s.2) ((v2.length:Int),(v2++ [(⟨[v5.2.1,v5.1]⟩:Ac)]))
 else
  some (.inr (some v2))
def T8(a0:Ak)(a1:Ab)(a2:List Ai):Option (List Ac):=
 (Yp a0 a1 a2).bind λv1=>
 AX (λs:List Ac × Int=>Oj a0 a1 v1 s.1 s.2) ([],0)
def OA(a0:Ak)(a1:List Ai)(a2:B0)(v4 v5:List Ac)(v6:Int):Option ((List Ac × Int) ⊕ Option (List Ac × Bool)):=
 if(decide (v6<(v4.length:Int)))then
  (getI v4 v6).bind λy7=>
  (getI y7.ae 1).bind λy8=>
  if((!Op.bytesLess y8 a2.bw)&&(Op.bytesLess y8 a2.a8||y8==a2.a8))then
   (getI y7.ae 0).bind λy9=>
   (Rn a0 a1 y9).bind λv10=>
   req ((((v5).length:Int)+((v10).length:Int))*24<=140737488355328/\((v5).length:Int)+((v10).length:Int)<=140737488355328)<|
   some (.inl ((v5++v10),(IntKind.i64.wrap (v6+1))))
  else
   some (.inl (v5,(IntKind.i64.wrap (v6+1))))
 else
  some (.inr (some (v5,true)))
def Rx(a0:Ak)(a1:List Ai)(a2:B0):Option (List Ac × Bool):=
 if(a2.aw==2)then
  (Rn a0 a1 a2.bw).bind λv1=>
  some (v1,true)
 else
  if(a2.aw !=3)then
   some ([],false)
  else
   (OM a0 a2.ay).bind λv2=>
   (getI a0.af v2).bind λy3=>
   if(decide (y3.bf<3))then
    some ([],false)
   else
    (T8 a0 a2.ay a1).bind λv4=>
    AX (λs:List Ac × Int=>OA a0 a1 a2 v4 s.1 s.2) ([],0)
def Ux(a0:Ak)(a1:List Ai)(a2:B0):Option (List Ac × Bool):=
 (Uq a0 a2).bind λv1=>
 if v1 then
  (Rw a1).bind λv2=>
  if(!v2)then
   some ([],false)
  else
   (Rx a0 a1 a2).bind λv3=>
   some (v3.1,v3.2)
 else
  some ([],false)
def TK(a0:List Int):Option (Ak × List Ai × Int × Ab × Ab):=
 (On (⟨a0,0,0⟩:AE)).bind λv1=>
 (Rg v1.2 v1.1).bind λv2=>
 (Es v2.2 (v1.1.aq.length:Int)).bind λv3=>
 (EC v3.2 ([([48]:Ab),([48]:Ab),([120]:Ab),([97,98,99]:Ab),([]:Ab)]:List (Ab))).bind λv4=>
 (EC v4.2 ([([121]:Ab),([122,122]:Ab),([120]:Ab),([48]:Ab),([97,98,99,100]:Ab)]:List (Ab))).bind λv5=>
 some (v1.1,v2.1,v3.1,v4.1,v5.1)
def TZ(a0:Ac)(a1:Int)(a2 a3:Ab):Option (Bool):=
 (getI a0.ae a1).bind λy1=>
 some ((Op.bytesLess y1 a2)||(!(Op.bytesLess y1 a3||y1==a3)))
def Tw(v1:Int)(v3:List Ac):Option ((Int × List Ac) ⊕ Option (Unit × List Ac)):=
 some (.inl ((IntKind.i64.wrap (v1+1)),v3))
def Kp(a1:Int)(a3:Ac->Ac->Option Int)(v1 v4:Int)(v5:List Ac):Option ((Int × List Ac) ⊕ Option ((Int × List Ac) ⊕ Option (Unit × List Ac))):=
 if(decide (v4>a1))then
  (getI v5 v4).bind λy6=>
  (getI v5 (IntKind.i64.wrap (v4-1))).bind λy7=>
  (a3 y6 y7).bind λv8=>
  if(decide (v8<0))then
   (getI (v5.set (v4).toNat y7) (IntKind.i64.wrap (v4-1))).bind λy9=>
   some (.inl ((IntKind.i64.wrap (v4-1)),((v5.set (v4).toNat y7).set ((IntKind.i64.wrap (v4-1))).toNat y6)))
  else
   some (.inr (Tw v1 v5))
 else
  some (.inr (Tw v1 v5))
def Kq(a1 a2:Int)(a3:Ac->Ac->Option Int)(v1:Int)(v2:List Ac):Option ((Int × List Ac) ⊕ Option (Unit × List Ac)):=
 if(decide (v1<a2))then
  AX (λs:Int × List Ac=>Kp a1 a3 v1 s.1 s.2) (v1,v2)
 else
  some (.inr (some ((),v2)))
def Q8(a0:List Ac)(a1 a2:Int)(a3:Ac->Ac->Option Int):Option (Unit × List Ac):=
 AX (λs:Int × List Ac=>Kq a1 a2 a3 s.1 s.2) ((IntKind.i64.wrap (a1+1)),a0)
def sO(a1 a2:Int)(a3 v1:Int)(v2:List Ac):Option ((Int × List Ac) ⊕ Option (Unit × List Ac)):=
 if(decide (v1<a3))then
  (getI v2 (IntKind.i64.wrap (a2+v1))).bind λy3=>
  (getI v2 (IntKind.i64.wrap (a1+v1))).bind λy4=>
  (getI (v2.set ((IntKind.i64.wrap (a1+v1))).toNat y3) (IntKind.i64.wrap (a2+v1))).bind λy5=>
  some (.inl ((IntKind.i64.wrap (v1+1)),((v2.set ((IntKind.i64.wrap (a1+v1))).toNat y3).set ((IntKind.i64.wrap (a2+v1))).toNat y4)))
 else
  some (.inr (some ((),v2)))
def Tx(a0:List Ac)(a1 a2 a3:Int)(a4:Ac->Ac->Option Int):Option (Unit × List Ac):=
 AX (λs:Int × List Ac=>sO a1 a2 a3 s.1 s.2) (0,a0)
def sW(a2:Int)(a4:Ac->Ac->Option Int)(v1:Int)(v2:List Ac):Option (Unit × List Ac):=
 (Tx v2 (IntKind.i64.wrap (a2-v1)) a2 v1 a4).bind λv3=>
 some ((),v3.2)
def sY(a2:Int)(a4:Ac->Ac->Option Int)(v4:Int)(v5:List Ac)(v6:Int):Option ((Int × List Ac × Int) ⊕ Option (Unit × List Ac)):=
 if(v4 !=v6)then
  if(decide (v4>v6))then
   (Tx v5 (IntKind.i64.wrap (a2-v4)) a2 v6 a4).bind λv7=>
   some (.inl ((IntKind.i64.wrap (v4-v6)),v7.2,v6))
  else
   (Tx v5 (IntKind.i64.wrap (a2-v4)) (IntKind.i64.wrap ((IntKind.i64.wrap (a2+v6))-v4)) v4 a4).bind λv8=>
   some (.inl (v4,v8.2,(IntKind.i64.wrap (v6-v4))))
 else
  some (.inr (sW a2 a4 v4 v5))
def dZ(a0:List Ac)(a1 a2 a3:Int)(a4:Ac->Ac->Option Int):Option (Unit × List Ac):=
 AX (λs:Int × List Ac × Int=>sY a2 a4 s.1 s.2.1 s.2.2) ((IntKind.i64.wrap (a2-a1)),a0,(IntKind.i64.wrap (a3-a2)))
def s7(v1 v2:Int)(v3:List Ac):Option ((Int × List Ac) ⊕ Option (Unit × List Ac)):=
 if(decide (v2<(IntKind.i64.wrap (v1-1))))then
  (getI v3 (IntKind.i64.wrap (v2+1))).bind λy4=>
  (getI v3 v2).bind λy5=>
  (getI (v3.set (v2).toNat y4) (IntKind.i64.wrap (v2+1))).bind λy6=>
  some (.inl ((IntKind.i64.wrap (v2+1)),((v3.set (v2).toNat y4).set ((IntKind.i64.wrap (v2+1))).toNat y5)))
 else
  some (.inr (some ((),v3)))
def s8(a0:List Ac)(a1 v1:Int):Option (Unit × List Ac):=
 AX (λs:Int × List Ac=>s7 v1 s.1 s.2) (a1,a0)
def s6(a0:List Ac)(a1:Int)(a4:Ac->Ac->Option Int)(v7 v8:Int):Option ((Int × Int) ⊕ Option (Unit × List Ac)):=
 if(decide (v7<v8))then
  (getI a0 (IntKind.i64.wrap (Int.fdiv (IntKind.u64.wrap (IntKind.i64.wrap (v7+v8))) (2^(min ((1:Int)).toNat (IntKind.bits .u64)))))).bind λy9=>
  (getI a0 a1).bind λy10=>
  (a4 y9 y10).bind λv11=>
  if(decide (v11<0))then
   some (.inl ((IntKind.i64.wrap ((IntKind.i64.wrap (Int.fdiv (IntKind.u64.wrap (IntKind.i64.wrap (v7+v8))) (2^(min ((1:Int)).toNat (IntKind.bits .u64)))))+1)),v8))
  else
   some (.inl (v7,(IntKind.i64.wrap (Int.fdiv (IntKind.u64.wrap (IntKind.i64.wrap (v7+v8))) (2^(min ((1:Int)).toNat (IntKind.bits .u64)))))))
 else
  some (.inr (s8 a0 a1 v7))
def tA(v12 v13:Int)(v14:List Ac):Option ((Int × List Ac) ⊕ Option (Unit × List Ac)):=
 if(decide (v13>v12))then
  (getI v14 (IntKind.i64.wrap (v13-1))).bind λy15=>
  (getI v14 v13).bind λy16=>
  (getI (v14.set (v13).toNat y15) (IntKind.i64.wrap (v13-1))).bind λy17=>
  some (.inl ((IntKind.i64.wrap (v13-1)),((v14.set (v13).toNat y15).set ((IntKind.i64.wrap (v13-1))).toNat y16)))
 else
  some (.inr (some ((),v14)))
def tB(a0:List Ac)(a2 v12:Int):Option (Unit × List Ac):=
 AX (λs:Int × List Ac=>tA v12 s.1 s.2) (a2,a0)
def tC(a0:List Ac)(a2:Int)(a4:Ac->Ac->Option Int)(v18 v19:Int):Option ((Int × Int) ⊕ Option (Unit × List Ac)):=
 if(decide (v18<v19))then
  (getI a0 a2).bind λy20=>
  (getI a0 (IntKind.i64.wrap (Int.fdiv (IntKind.u64.wrap (IntKind.i64.wrap (v18+v19))) (2^(min ((1:Int)).toNat (IntKind.bits .u64)))))).bind λy21=>
  (a4 y20 y21).bind λv22=>
  if(!(decide (v22<0)))then
   some (.inl ((IntKind.i64.wrap ((IntKind.i64.wrap (Int.fdiv (IntKind.u64.wrap (IntKind.i64.wrap (v18+v19))) (2^(min ((1:Int)).toNat (IntKind.bits .u64)))))+1)),v19))
  else
   some (.inl (v18,(IntKind.i64.wrap (Int.fdiv (IntKind.u64.wrap (IntKind.i64.wrap (v18+v19))) (2^(min ((1:Int)).toNat (IntKind.bits .u64)))))))
 else
  some (.inr (tB a0 a2 v18))
def dW(rec_:(List Ac)->Int->Int->Int->(Ac->Ac->Option Int)->Option (Unit × List Ac))(a1 a2 a3:Int)(a4:Ac->Ac->Option Int)(v25:Int)(v26:List Ac):Option (Unit × List Ac):=
 if((decide (a1<v25))&&(decide (v25<(IntKind.i64.wrap (Int.fdiv (IntKind.u64.wrap (IntKind.i64.wrap (a1+a3))) (2^(min ((1:Int)).toNat (IntKind.bits .u64))))))))then
  (rec_ v26 a1 v25 (IntKind.i64.wrap (Int.fdiv (IntKind.u64.wrap (IntKind.i64.wrap (a1+a3))) (2^(min ((1:Int)).toNat (IntKind.bits .u64))))) a4).bind λv27=>
  if((decide ((IntKind.i64.wrap (Int.fdiv (IntKind.u64.wrap (IntKind.i64.wrap (a1+a3))) (2^(min ((1:Int)).toNat (IntKind.bits .u64)))))<(IntKind.i64.wrap ((IntKind.i64.wrap ((IntKind.i64.wrap (Int.fdiv (IntKind.u64.wrap (IntKind.i64.wrap (a1+a3))) (2^(min ((1:Int)).toNat (IntKind.bits .u64)))))+a2))-v25))))&&(decide ((IntKind.i64.wrap ((IntKind.i64.wrap ((IntKind.i64.wrap (Int.fdiv (IntKind.u64.wrap (IntKind.i64.wrap (a1+a3))) (2^(min ((1:Int)).toNat (IntKind.bits .u64)))))+a2))-v25))<a3)))then
   (rec_ v27.2 (IntKind.i64.wrap (Int.fdiv (IntKind.u64.wrap (IntKind.i64.wrap (a1+a3))) (2^(min ((1:Int)).toNat (IntKind.bits .u64))))) (IntKind.i64.wrap ((IntKind.i64.wrap ((IntKind.i64.wrap (Int.fdiv (IntKind.u64.wrap (IntKind.i64.wrap (a1+a3))) (2^(min ((1:Int)).toNat (IntKind.bits .u64)))))+a2))-v25)) a3 a4).bind λv28=>
   some ((),v28.2)
  else
   some ((),v27.2)
 else
  if((decide ((IntKind.i64.wrap (Int.fdiv (IntKind.u64.wrap (IntKind.i64.wrap (a1+a3))) (2^(min ((1:Int)).toNat (IntKind.bits .u64)))))<(IntKind.i64.wrap ((IntKind.i64.wrap ((IntKind.i64.wrap (Int.fdiv (IntKind.u64.wrap (IntKind.i64.wrap (a1+a3))) (2^(min ((1:Int)).toNat (IntKind.bits .u64)))))+a2))-v25))))&&(decide ((IntKind.i64.wrap ((IntKind.i64.wrap ((IntKind.i64.wrap (Int.fdiv (IntKind.u64.wrap (IntKind.i64.wrap (a1+a3))) (2^(min ((1:Int)).toNat (IntKind.bits .u64)))))+a2))-v25))<a3)))then
   (rec_ v26 (IntKind.i64.wrap (Int.fdiv (IntKind.u64.wrap (IntKind.i64.wrap (a1+a3))) (2^(min ((1:Int)).toNat (IntKind.bits .u64))))) (IntKind.i64.wrap ((IntKind.i64.wrap ((IntKind.i64.wrap (Int.fdiv (IntKind.u64.wrap (IntKind.i64.wrap (a1+a3))) (2^(min ((1:Int)).toNat (IntKind.bits .u64)))))+a2))-v25)) a3 a4).bind λv29=>
   some ((),v29.2)
  else
   some ((),v26)
def tD(rec_:(List Ac)->Int->Int->Int->(Ac->Ac->Option Int)->Option (Unit × List Ac))(a0:List Ac)(a1 a2 a3:Int)(a4:Ac->Ac->Option Int)(v25:Int):Option (Unit × List Ac):=
 if((decide (v25<a2))&&(decide (a2<(IntKind.i64.wrap ((IntKind.i64.wrap ((IntKind.i64.wrap (Int.fdiv (IntKind.u64.wrap (IntKind.i64.wrap (a1+a3))) (2^(min ((1:Int)).toNat (IntKind.bits .u64)))))+a2))-v25)))))then
  (dZ a0 v25 a2 (IntKind.i64.wrap ((IntKind.i64.wrap ((IntKind.i64.wrap (Int.fdiv (IntKind.u64.wrap (IntKind.i64.wrap (a1+a3))) (2^(min ((1:Int)).toNat (IntKind.bits .u64)))))+a2))-v25)) a4).bind λv30=>
  dW rec_ a1 a2 a3 a4 v25 v30.2
 else
  dW rec_ a1 a2 a3 a4 v25 a0
def s4(rec_:(List Ac)->Int->Int->Int->(Ac->Ac->Option Int)->Option (Unit × List Ac))(a0:List Ac)(a1 a2 a3:Int)(a4:Ac->Ac->Option Int)(v31 v32:Int):Option ((Int × Int) ⊕ Option (Unit × List Ac)):=
 if(decide (v31<v32))then
  (getI a0 (IntKind.i64.wrap ((IntKind.i64.wrap ((IntKind.i64.wrap ((IntKind.i64.wrap (Int.fdiv (IntKind.u64.wrap (IntKind.i64.wrap (a1+a3))) (2^(min ((1:Int)).toNat (IntKind.bits .u64)))))+a2))-1))-(IntKind.i64.wrap (Int.fdiv (IntKind.u64.wrap (IntKind.i64.wrap (v31+v32))) (2^(min ((1:Int)).toNat (IntKind.bits .u64)))))))).bind λy33=>
  (getI a0 (IntKind.i64.wrap (Int.fdiv (IntKind.u64.wrap (IntKind.i64.wrap (v31+v32))) (2^(min ((1:Int)).toNat (IntKind.bits .u64)))))).bind λy34=>
  (a4 y33 y34).bind λv35=>
  if(!(decide (v35<0)))then
   some (.inl ((IntKind.i64.wrap ((IntKind.i64.wrap (Int.fdiv (IntKind.u64.wrap (IntKind.i64.wrap (v31+v32))) (2^(min ((1:Int)).toNat (IntKind.bits .u64)))))+1)),v32))
  else
   some (.inl (v31,(IntKind.i64.wrap (Int.fdiv (IntKind.u64.wrap (IntKind.i64.wrap (v31+v32))) (2^(min ((1:Int)).toNat (IntKind.bits .u64)))))))
 else
  some (.inr (tD rec_ a0 a1 a2 a3 a4 v31))
def s9(rec_:(List Ac)->Int->Int->Int->(Ac->Ac->Option Int)->Option (Unit × List Ac))(a0:List Ac)(a1 a2 a3:Int)(a4:Ac->Ac->Option Int)(v23 v24:Int):Option (Unit × List Ac):=
 AX (λs:Int × Int=>s4 rec_ a0 a1 a2 a3 a4 s.1 s.2) (v23,v24)
def Q6:Nat->(List Ac)->Int->Int->Int->(Ac->Ac->Option Int)->Option (Unit × List Ac)
 |0,_,_,_,_,_=>none
 |n_+1,a0,a1,a2,a3,a4=>
  if((IntKind.i64.wrap (a2-a1))==1)then
   AX (λs:Int × Int=>s6 a0 a1 a4 s.1 s.2) (a2,a3)
  else
   if((IntKind.i64.wrap (a3-a2))==1)then
    AX (λs:Int × Int=>tC a0 a2 a4 s.1 s.2) (a1,a2)
   else
    bQ (σ:=Int × Int) (
     if(decide (a2>(IntKind.i64.wrap (Int.fdiv (IntKind.u64.wrap (IntKind.i64.wrap (a1+a3))) (2^(min ((1:Int)).toNat (IntKind.bits .u64)))))))then
      some (.inl ((IntKind.i64.wrap ((IntKind.i64.wrap ((IntKind.i64.wrap (Int.fdiv (IntKind.u64.wrap (IntKind.i64.wrap (a1+a3))) (2^(min ((1:Int)).toNat (IntKind.bits .u64)))))+a2))-a3)),(IntKind.i64.wrap (Int.fdiv (IntKind.u64.wrap (IntKind.i64.wrap (a1+a3))) (2^(min ((1:Int)).toNat (IntKind.bits .u64)))))))
     else
      some (.inl (a1,a2))
    ) (λs=>s9 (Q6 n_) a0 a1 a2 a3 a4 s.1 s.2)
def XT:(List Ac)->Int->Int->Int->(Ac->Ac->Option Int)->Option (Unit × List Ac):=Q6 nT
def sX(a1:Int)(a2:Ac->Ac->Option Int)(v4 v6:Int)(v7:List Ac):Option ((Int × List Ac) ⊕ Option (Unit × List Ac)):=
 if(decide ((IntKind.i64.wrap (v6+v4))<a1))then
  (XT v7 v6 (IntKind.i64.wrap (v6+v4)) a1 a2).bind λv8=>
  some (.inl ((IntKind.i64.wrap (v4*2)),v8.2))
 else
  some (.inl ((IntKind.i64.wrap (v4*2)),v7))
def sV(a1:Int)(a2:Ac->Ac->Option Int)(v4 v9 v10:Int)(v11:List Ac):Option ((Int × Int × List Ac) ⊕ Option ((Int × List Ac) ⊕ Option (Unit × List Ac))):=
 if(decide (v10<=a1))then
  (XT v11 v9 (IntKind.i64.wrap (v9+v4)) v10 a2).bind λv12=>
  some (.inl (v10,(IntKind.i64.wrap (v10+(IntKind.i64.wrap ((2:Int)*v4)))),v12.2))
 else
  some (.inr (sX a1 a2 v4 v9 v11))
def XS(a1:Int)(a2:Ac->Ac->Option Int)(v4:Int)(v5:List Ac):Option ((Int × List Ac) ⊕ Option (Unit × List Ac)):=
 if(decide (v4<a1))then
  AX (λs:Int × Int × List Ac=>sV a1 a2 v4 s.1 s.2.1 s.2.2) (0,(IntKind.i64.wrap ((2:Int)*v4)),v5)
 else
  some (.inr (some ((),v5)))
def eA(a1:Int)(a2:Ac->Ac->Option Int)(v1:Int)(v2:List Ac):Option (Unit × List Ac):=
 (Q8 v2 v1 a1 a2).bind λv3=>
 AX (λs:Int × List Ac=>XS a1 a2 s.1 s.2) (20,v3.2)
def XR(a1:Int)(a2:Ac->Ac->Option Int)(v13 v14:Int)(v15:List Ac):Option ((Int × Int × List Ac) ⊕ Option (Unit × List Ac)):=
 if(decide (v14<=a1))then
  (Q8 v15 v13 v14 a2).bind λv16=>
  some (.inl (v14,(IntKind.i64.wrap (v14+20)),v16.2))
 else
  some (.inr (eA a1 a2 v13 v15))
def Tt(a0:List Ac)(a1:Int)(a2:Ac->Ac->Option Int):Option (Unit × List Ac):=
 AX (λs:Int × Int × List Ac=>XR a1 a2 s.1 s.2.1 s.2.2) (0,20,a0)
def Tz(a0:List Ac)(a1:Ac->Ac->Option Int):Option (Unit × List Ac):=
 (Tt a0 (a0.length:Int) a1).bind λv1=>
 some ((),v1.2)
def TW(a0 a1:Ac)(a2:Int):Option (Int):=
 (getI a0.ae a2).bind λy1=>
 (getI a1.ae a2).bind λy2=>
 (MV y1 y2).bind λv3=>
 (getI a0.ae 0).bind λy4=>
 (getI a1.ae 0).bind λy5=>
 (MV y4 y5).bind λv6=>
 (Ry ([v3,v6]:List Int)).bind λv7=>
 some v7
def Oy(a0:Ak)(a1:List Ai)(a2:Int)(a3 a4:Ab):Option (List Ac × Bool):=
 (Ow a0).bind λv1=>
 if v1 then
  (ON a1).bind λv2=>
  if v2 then
   (Js a2 1 (IntKind.i64.wrap ((a0.aq.length:Int)-1))).bind λv3=>
   if v3 then
    (IX a3).bind λv4=>
    if v4 then
     (IX a4).bind λv5=>
     if(!v5)then
      some ([],false)
     else
      (Re a0 a1).bind λv6=>
      (Ks v6 (λy0_=>TZ y0_ a2 a3 a4)).bind λv7=>
      (Tz v7 (λy0_ y1_=>TW y0_ y1_ a2)).bind λv8=>
      some (v8.2,true)
    else
     some ([],false)
   else
    some ([],false)
  else
   some ([],false)
 else
  some ([],false)
def Uh(v3:Int)(y4:Ac)(v6:Int)(v7:List Ac):Option ((List Ac × Int) ⊕ Option (List Ac)):=
 (getI v7 v6).bind λy8=>
 some (.inl ((v7.set (v6).toNat y4),(IntKind.i64.wrap (v3+1))))
def Km(a2 v3:Int)(y4:Ac)(v9:Int)(v10:List Ac):Option ((Int × List Ac) ⊕ Option ((List Ac × Int) ⊕ Option (List Ac))):=
 if(decide (v9>0))then
  (getI v10 (IntKind.i64.wrap (v9-1))).bind λy11=>
  (Kr y4 y11 a2).bind λv12=>
  if v12 then
   (getI v10 v9).bind λy13=>
   some (.inl ((IntKind.i64.wrap (v9-1)),(v10.set (v9).toNat y11)))
  else
   some (.inr (Uh v3 y4 v9 v10))
 else
  some (.inr (Uh v3 y4 v9 v10))
def OC(a2:Int)(a3 a4:Ab)(v1 v2:List Ac)(v3:Int):Option ((List Ac × Int) ⊕ Option (List Ac)):=
 if(decide (v3<(v1.length:Int)))then
  (getI v1 v3).bind λy4=>
  (getI y4.ae a2).bind λy5=>
  if((Op.bytesLess y5 a3)||(!(Op.bytesLess y5 a4||y5==a4)))then
   some (.inl (v2,(IntKind.i64.wrap (v3+1))))
  else
   req ((((v2).length:Int)+(([y4]:List Ac).length:Int))*24<=140737488355328/\((v2).length:Int)+(([y4]:List Ac).length:Int)<=140737488355328)<|
   AX (λs:Int × List Ac=>Km a2 v3 y4 s.1 s.2) ((v2.length:Int),(v2++ [y4]))
 else
  some (.inr (some v2))
def UH(a0:Ak)(a1:List Ai)(a2:Int)(a3 a4:Ab):Option (List Ac):=
 (OH a0 a1).bind λv1=>
 AX (λs:List Ac × Int=>OC a2 a3 a4 v1 s.1 s.2) ([],0)
def Ue(a0:Ak)(a1:List Ai)(a2:Int)(a3 a4:Ab):Option (List Ac × Bool):=
 (Oz a0).bind λv1=>
 if v1 then
  (Rw a1).bind λv2=>
  if v2 then
   (Ku a2 1 (IntKind.i64.wrap ((a0.aq.length:Int)-1))).bind λv3=>
   if v3 then
    (IU a3).bind λv4=>
    if v4 then
     (IU a4).bind λv5=>
     if(!v5)then
      some ([],false)
     else
      (UH a0 a1 a2 a3 a4).bind λv6=>
      some (v6,true)
    else
     some ([],false)
   else
    some ([],false)
  else
   some ([],false)
 else
  some ([],false)
def Ov(a0:List (Ab))(a1:List (Ab))(v1:Int):Option ((Int) ⊕ Option (Bool)):=
 if(decide (v1<(a0.length:Int)))then
  (getI a0 v1).bind λy2=>
  (getI a1 v1).bind λy3=>
  if(y2 !=y3)then
   some (.inr (some false))
  else
   some (.inl (IntKind.i64.wrap (v1+1)))
 else
  some (.inr (some true))
def UC(a0:List (Ab))(a1:List (Ab)):Option (Bool):=
 if((a0.length:Int) !=(a1.length:Int))then
  some false
 else
  AX (λs:Int=>Ov a0 a1 s) 0
def Of(a0 a1:List Ac)(v1:Int):Option ((Int) ⊕ Option (Bool)):=
 if(decide (v1<(a0.length:Int)))then
  (getI a0 v1).bind λy2=>
  (getI a1 v1).bind λy3=>
  (UC y2.ae y3.ae).bind λv4=>
  if(!v4)then
   some (.inr (some false))
  else
   some (.inl (IntKind.i64.wrap (v1+1)))
 else
  some (.inr (some true))
def Ox(a0 a1:List Ac):Option (Bool):=
 if((a0.length:Int) !=(a1.length:Int))then
  some false
 else
  AX (λs:Int=>Of a0 a1 s) 0
def UE(a0:Ak)(a1:Ab):Option (Bool):=
 (Ow a0).bind λv1=>
 if v1 then
  (Om a0 a1).bind λv2=>
  some (decide (v2>=0))
 else
  some false
def Ug(a0:Ak)(a1:Ab)(a2:List Ai):Option (Bool):=
 (UE a0 a1).bind λv1=>
 if v1 then
  (ON a2).bind λv2=>
  some v2
 else
  some false
def TM(a0:Ak)(a1:Ab)(a2:Ac):Option (Ab):=
 (Rc a0 a1).bind λv1=>
 (MZ a0 a1).bind λv2=>
 (getI a2.ae v2.a7).bind λy3=>
 req ((v1).length+(y3).length<=9223372036854775807)<|
 req (((v1++y3)).length+(([47]:Ab)).length<=9223372036854775807)<|
 (getI a2.ae 0).bind λy4=>
 req ((((v1++y3)++([47]:Ab))).length+(y4).length<=9223372036854775807)<|
 some (((v1++y3)++([47]:Ab))++y4)
def Oc(a0:Ak)(a1:Ab)(v1:List Ac)(v2:Int)(v3:List (Ab)):Option ((Int × List (Ab)) ⊕ Option (List (Ab))):=
 if(decide (v2<(v1.length:Int)))then
  (getI v1 v2).bind λy4=>
  (TM a0 a1 y4).bind λv5=>
  req ((((v3).length:Int)+(([v5]:List (Ab)).length:Int))*16<=140737488355328/\((v3).length:Int)+(([v5]:List (Ab)).length:Int)<=140737488355328)<|
  some (.inl ((IntKind.i64.wrap (v2+1)),(v3++ [v5])))
 else
  some (.inr (some v3))
def Rf(a0:Ak)(a1:Ab)(a2:List Ai):Option (List (Ab)):=
 (Re a0 a2).bind λv1=>
 AX (λs:Int × List (Ab)=>Oc a0 a1 v1 s.1 s.2) (0,[])
def XQ(xs:List (Ab)):Option (List (Ab)):=aD 16 xs
def Yz(a0:Ab)(a1:List (Ab)):Option (Bool):=
 (Q7 a1 a0).bind λv1=>
 some v1
def Rv(a0:List (Ab))(a1:List (Ab)):Option (List (Ab)):=
 (XQ a0).bind λv1=>
 (Ks v1 (λy0_=>Yz y0_ a1)).bind λv2=>
 some v2
def TG(a0:Ak)(a1:Ab)(a2:List Ai):Option (List (Ab)):=
 (Od a0 a1 a2).bind λv1=>
 (Rf a0 a1 a2).bind λv2=>
 (Rv v1 v2).bind λv3=>
 some v3
def X0(a0:Ak)(a1:Ab)(a2:List Ai):Option (List (Ab)):=
 (Rf a0 a1 a2).bind λv1=>
 (Od a0 a1 a2).bind λv2=>
 (Rv v1 v2).bind λv3=>
 some v3
def TP(a0:Ak)(a1:Ab)(a2:Int)(a3:List Ai):Option (Bool):=
 if(a2==0)then
  (Od a0 a1 a3).bind λv1=>
  some ((v1.length:Int)==0)
 else
  if(a2==1)then
   (TG a0 a1 a3).bind λv2=>
   some ((v2.length:Int)==0)
  else
   (TG a0 a1 a3).bind λv3=>
   if((v3.length:Int)==0)then
    (X0 a0 a1 a3).bind λv4=>
    some ((v4.length:Int)==0)
   else
    some false
def UK(a0:Ak)(a1:Ab)(a2:Int)(a3:List Ai):Option (Bool × Bool):=
 (Ug a0 a1 a3).bind λv1=>
 if v1 then
  (Js a2 0 2).bind λv2=>
  if(!v2)then
   some (false,false)
  else
   (TP a0 a1 a2 a3).bind λv3=>
   some (v3,true)
 else
  some (false,false)
def UN(a0:Ak)(a1:Ab):Option (Be × Bool):=
 (OM a0 a1).bind λv1=>
 (Oz a0).bind λv2=>
 if((!v2)||(decide (v1<0)))then
  some ((⟨([]:Ab),0,0⟩:Be),false)
 else
  (getI a0.af v1).bind λy3=>
  some (y3,true)
def TY(v1:Ak × List Ai × B0)(v2:List Ac × Bool):Option (Bool):=
 if((!v2.2)||(v1.2.2.aw !=3))then
  some true
 else
  (UK v1.1 v1.2.2.ay 2 v1.2.1).bind λv9=>
  (UN v1.1 v1.2.2.ay).bind λv10=>
  (Oy v1.1 v1.2.1 v10.1.a7 v1.2.2.bw v1.2.2.a8).bind λv11=>
  if v9.1 then
   if v9.2 then
    if v10.2 then
     if v11.2 then
      (Ox v2.1 v11.1).bind λv12=>
      some v12
     else
      some false
    else
     some false
   else
    some false
  else
   some (((v9.2&&v10.2)&&v11.2)&&true)
def uY(v1:Ak × List Ai × B0)(v2:List Ac × Bool):Option (Bool):=
 TY v1 v2
def Oi(v1:Ak × List Ai × B0)(v2:List Ac × Bool)(v4:Ak × List Ai × Int × Ab × Ab)(v5:List Ac × Bool)(v13:Int):Option ((Int) ⊕ Option (Bool)):=
 if(decide (v13<(v5.1.length:Int)))then
  (getI v5.1 v13).bind λy14=>
  if(decide ((y14.ae.length:Int)<=v4.2.2.1))then
   some (.inr (some false))
  else
   (getI y14.ae v4.2.2.1).bind λy15=>
   if(decide (v13>0))then
    if(Op.bytesLess y15 v4.2.2.2.1)then
     some (.inr (some false))
    else
     if(!(Op.bytesLess y15 v4.2.2.2.2||y15==v4.2.2.2.2))then
      some (.inr (some false))
     else
      (getI v5.1 (IntKind.i64.wrap (v13-1))).bind λy16=>
      (getI y16.ae v4.2.2.1).bind λy17=>
      if(!(Op.bytesLess y17 y15||y17==y15))then
       some (.inr (some false))
      else
       some (.inl (IntKind.i64.wrap (v13+1)))
   else
    if(((Op.bytesLess y15 v4.2.2.2.1)||(!(Op.bytesLess y15 v4.2.2.2.2||y15==v4.2.2.2.2)))||false)then
     some (.inr (some false))
    else
     some (.inl (IntKind.i64.wrap (v13+1)))
 else
  some (.inr (uY v1 v2))
def Ut(a0 a1:List Int):Option (Bool):=
 if(decide ((IntKind.i64.wrap ((a0.length:Int)+(a1.length:Int)))>1048576))then
  some true
 else
  (T2 a0).bind λv1=>
  (T9 v1.1 v1.2.1 v1.2.2).bind λv2=>
  (Ux v1.1 v1.2.1 v1.2.2).bind λv3=>
  (TK a1).bind λv4=>
  (Oy v4.1 v4.2.1 v4.2.2.1 v4.2.2.2.1 v4.2.2.2.2).bind λv5=>
  (Ue v4.1 v4.2.1 v4.2.2.1 v4.2.2.2.1 v4.2.2.2.2).bind λv6=>
  if(v2.2 !=v3.2)then
   some false
  else
   (Ox v2.1 v3.1).bind λv7=>
   if v7 then
    if(v5.2 !=v6.2)then
     some false
    else
     (Ox v5.1 v6.1).bind λv8=>
     if(!v8)then
      some false
     else
      if v5.2 then
       AX (λs:Int=>Oi v1 v2 v4 v5 s) 0
      else
       TY v1 v2
   else
    some false
def eE:FS:=FW 148 [.v .s, .v .s] (.v (.i .i64)) (λx=>N6 x.1 x.2.1) λx r _ h=>tO x.1 x.2.1 r h
def tJ:FS:=FW 137 [.v .s, .v (.i .u8)] (.v (.i .i64)) (λx=>Tu x.1 x.2.1) λx r _ h=>tH x.1 x.2.1 r h
def wT:FS:=FW 156 [.v .s, .v .s] (.v (.i .i64)) (λx=>Ua x.1 x.2.1) λx r _ h=>wJ x.1 x.2.1 r h
def wK:FS:=FW 141 [.v (.l .s), .v .s] (.v .s) (λx=>UL x.1 x.2.1) λx r _ h=>wY x.1 x.2.1 r h
def u7:FS:=FW 155 [.v .s, .v (.i .i64)] (.v (.l .s)) (λx=>Yn x.1 x.2.1) λx r _ h=>vE x.1 x.2.1 r h
def sS:FS:=FW 56 [.v (.l (.st 0)), .fn [.st 0, .st 0] (.i .i64)] (.tu (.cons (.tu .nil) (.cons (.v (.l (.st 0))) .nil))) (λx=>UB x.2.1.g x.2.1.caps x.1) λx r hp h=>wH h
def uT:FS:=AB 62 [.rf (.st 1)] (.tu (.cons (.v (.i .i64)) (.cons (.v (.st 1)) .nil))) (λx=>Ra x.1) [] [.inl]
def IW:FS:=AB 24 [.rf (.st 1), .v (.i .i64)] (.tu (.cons (.v (.i .i64)) (.cons (.v (.st 1)) .nil))) (λx=>Es x.1 x.2.1) [uT] [.inl]
def Jr:FS:=AB 25 [.rf (.st 1), .v (.l .s)] (.tu (.cons (.v .s) (.cons (.v (.st 1)) .nil))) (λx=>EC x.1 x.2.1) [IW] []
def T3:FS:=AB 14 [.rf (.st 1), .v (.i .i64)] (.tu (.cons (.v .b) (.cons (.v (.st 1)) .nil))) (λx=>IV x.1 x.2.1) [IW] []
def XY:FS:=AB 13 [.rf (.st 1)] (.tu (.cons (.v (.st 3)) (.cons (.v (.st 1)) .nil))) (λx=>On x.1) [Jr,IW,T3] [.sp [.i .i64, .l (.i .u8), .i .i64, .i .u64, .l (.st 2)], .inl, .pt]
def Ya:FS:=AB 79 [.rf (.st 1), .v (.st 3)] (.tu (.cons (.v (.st 4)) (.cons (.v (.st 1)) .nil))) (λx=>Kn x.1 x.2.1) [Jr] [.sp [.l (.i .u8), .i .i64, .i .u64, .l .s]]
def wA:FS:=AB 116 [.v (.l .s), .v .s] (.v .s) (λx=>YF x.1 x.2.1) [] [.sp [.s, .i .i64], .inl]
def eV:FS:=AB 80 [.v (.st 3), .v (.st 4)] (.v (.st 5)) (λx=>Rq x.1 x.2.1) [wA] []
def fG:FS:=AB 45 [.v (.l (.st 5)), .v (.st 5)] (.v (.l (.st 5))) (λx=>Kt x.1 x.2.1) [] [.sp [.i .i64]]
def fA:FS:=AB 136 [.v .s, .v (.i .u8)] (.v (.l .s)) (λx=>Lv x.1 x.2.1) [] [.sp [.l .s, .i .i64, .i .i64], .inl]
def Rz:FS:=AB 37 [.v (.i .i64), .v (.i .i64), .v (.i .i64)] (.v .b) (λx=>Ku x.1 x.2.1 x.2.2.1) [] []
def YE:FS:=AB 73 [.v .s, .v .s] (.v .b) (λx=>OI x.1 x.2.1) [] [.sp [.i .i64], .sp [.b, .i .i64]]
def Ub:FS:=AB 38 [.v .s] (.v .b) (λx=>IU x.1) [Rz,YE] []
def eZ:FS:=AB 133 [.v (.st 3), .v (.st 4)] (.v .b) (λx=>Lu x.1 x.2.1) [Ub] [.sp [.i .i64]]
def wX:FS:=AB 113 [.v (.st 3), .v (.st 5)] (.tu (.cons (.v (.st 4)) (.cons (.v .b) .nil))) (λx=>Ui x.1 x.2.1) [fA,eZ,eV] []
def Uk:FS:=AB 74 [.v (.st 3), .v (.l (.st 5))] (.v (.l (.st 4))) (λx=>OH x.1 x.2.1) [wX] [.sp [.l (.st 4), .i .i64], .inl]
def vX:FS:=AB 81 [.v (.st 3), .v (.st 2), .v (.st 4)] (.v .s) (λx=>Ou x.1 x.2.1 x.2.2.1) [] []
def uP:FS:=AB 82 [.rf (.st 1)] (.tu (.cons (.v .s) (.cons (.v (.st 1)) .nil))) (λx=>T5 x.1) [Jr] []
def uL:FS:=AB 83 [.rf (.st 1)] (.tu (.cons (.v .s) (.cons (.v (.st 1)) .nil))) (λx=>T6 x.1) [Jr] []
def uD:FS:=AB 44 [.rf (.st 1), .v (.st 3)] (.tu (.cons (.v (.l (.st 5))) (.cons (.v (.st 1)) .nil))) (λx=>TN x.1 x.2.1) [IW,T3,uP,uL,fG,Uk,Ya,vX,eV] [.sp [.l (.st 5), .i .i64, .l (.i .u8), .i .i64, .i .u64], .sp [.i .i64, .l (.i .u8), .i .i64, .i .u64, .l (.st 5)], .inl, .sp [.i .i64, .l (.i .u8), .i .i64, .i .u64, .l (.st 5)], .inl, .inl]
def eG:FS:=AB 15 [.rf (.st 1), .v (.st 3)] (.tu (.cons (.v (.l (.st 5))) (.cons (.v (.st 1)) .nil))) (λx=>Rg x.1 x.2.1) [uD,IW,Jr,fG] [.inl]
def uO:FS:=AB 84 [.rf (.st 1), .v (.st 3), .v (.l (.st 5))] (.tu (.cons (.v (.st 6)) (.cons (.v (.st 1)) .nil))) (λx=>Rk x.1 x.2.1 x.2.2.1) [Uk,Ya,IW,T3] [.pt, .pt]
def uU:FS:=AB 46 [.rf (.st 1), .v (.st 3), .v (.l (.st 5))] (.tu (.cons (.v (.st 7)) (.cons (.v (.st 1)) .nil))) (λx=>TO x.1 x.2.1 x.2.2.1) [IW,Jr,uO] [.inl]
def uF:FS:=AB 47 [.rf (.st 1), .v (.st 3)] (.tu (.cons (.v (.st 4)) (.cons (.v (.st 1)) .nil))) (λx=>TA x.1 x.2.1) [Ya,IW,Jr] [.inl]
def tR:FS:=AB 16 [.rf (.st 1), .v (.st 3), .v (.l (.st 5))] (.tu (.cons (.v (.st 7)) (.cons (.v (.st 1)) .nil))) (λx=>TH x.1 x.2.1 x.2.2.1) [uU,IW,Jr,uF] [.inl]
def tV:FS:=AB 17 [.rf (.st 1)] (.tu (.cons (.v (.st 3)) (.cons (.v (.st 1)) .nil))) (λx=>TE x.1) [XY,IW,Jr] [.inl]
def uM:FS:=AB 4 [.v (.l (.i .u8))] (.tu (.cons (.v (.st 3)) (.cons (.v (.l (.st 5))) (.cons (.v (.st 7)) .nil)))) (λx=>T2 x.1) [XY,eG,tR,T3,tV] [.pt, .inl, .inl]
def M3:FS:=AB 27 [.v (.i .i64), .v (.i .i64), .v (.i .i64)] (.v .b) (λx=>Js x.1 x.2.1 x.2.2.1) [] []
def vF:FS:=AB 63 [.v .s, .v (.i .i64)] (.v .b) (λx=>OB x.1 x.2.1) [M3] [.sp [.i .i64]]
def tE:FS:=AB 104 [.v (.l .s), .v .s] (.v (.i .i64)) (λx=>TJ x.1 x.2.1) [] [.sp [.i .i64]]
def eD:FS:=AB 64 [.v (.l .s), .v .s] (.v .b) (λx=>Q7 x.1 x.2.1) [tE] []
def wU:FS:=AB 65 [.v (.i .i64)] (.v .b) (λx=>YD x.1) [M3] []
def Yu:FS:=AB 26 [.v (.st 3)] (.v .b) (λx=>Ow x.1) [vF,M3,wU,eD] [.sp [.i .i64], .sp [.i .i64]]
def eB:FS:=FW 158 [.v (.l .s), .fn [.s] .b] (.v (.i .i64)) (λx=>E8 x.1 (λy=>x.2.1.φ (y,()))) λx r hp h=>JF (f:=158) (t:=bC) (by kernel_rfl) (by kernel_rfl) (zwx (av:=(BP Cu.av .s)) (λ_=>rfl) h (λy b hb=>hp.2.1 (y,()) b hb))
def s5:FS:=FW 139 [.v (.l .s), .fn [.s] .b] (.v .b) (λx=>IY x.1 (λy=>x.2.1.φ (y,()))) λx r hp h=>JF (f:=139) (t:=VQ 158) (by kernel_rfl) (by kernel_rfl) (lS h λr hr=>eB.ok x r hp hr)
def uC:FS:=AB 105 [.v (.i .u8)] (.v .b) (λx=>XX x.1) [] []
def uN:FS:=AB 106 [.v .s, .v (.i .u8)] (.v (.i .i64)) (λx=>Yc x.1 x.2.1) [tJ] []
def Yt:FS:=AB 66 [.v .s, .v .s] (.v .b) (λx=>Ot x.1 x.2.1) [uC,uN] [.sp [.i .i64]]
def UI:FS:=AB 28 [.v .s] (.v .b) (λx=>IX x.1) [M3,Yt] []
def uI:FS:=AB 140 [.v .s] (.v .b) (λx=>TU x.1) [UI] []
def tP:FS:=Kk uI λ_=>by kernel_rfl
def eR:FS:=AB 108 [.v (.st 3), .v (.st 4)] (.v .b) (λx=>Lt x.1 x.2.1) [s5,tP] []
def uH:FS:=AB 85 [.v (.st 3), .v (.st 6)] (.v .b) (λx=>TC x.1 x.2.1) [eR] []
def xG:FS:=AB 86 [.v (.st 6)] (.v .b) (λx=>UD x.1) [] []
def sM:FS:=FW 117 [.v (.l (.st 2)), .fn [.st 2] .b] (.v (.i .i64)) (λx=>E8 x.1 (λy=>x.2.1.φ (y,()))) λx r hp h=>JF (f:=117) (t:=Sy 3) (by kernel_rfl) (by kernel_rfl) (aE (av:=(BP Cu.av (.st 2))) (cn:=3) (λ_=>⟨_,rfl,rfl⟩) h (λy b hb=>hp.2.1 (y,()) b hb))
def tX:FS:=AB 118 [.v (.st 2), .rf .s] (.v .b) (λx=>X6 x.1 x.2.1) [] []
def tW:FS:=Kk tX λ_=>by kernel_rfl
def X1:FS:=AB 87 [.v (.st 3), .v .s] (.v (.i .i64)) (λx=>Om x.1 x.2.1) [sM,tW] []
def uB:FS:=AB 48 [.v (.st 3), .v (.st 7)] (.v .b) (λx=>TL x.1 x.2.1) [uH,xG,UI,X1] []
def vG:FS:=AB 18 [.v (.st 3), .v (.st 7)] (.v .b) (λx=>Uv x.1 x.2.1) [Yu,uB] []
def vW:FS:=AB 89 [.v (.l (.st 5))] (.v (.l .s)) (λx=>Ud x.1) [] [.sp [.i .i64, .l .s]]
def w6:FS:=AB 119 [.v .s] (.v .b) (λx=>Un x.1) [M3,Yt] []
def vU:FS:=AB 88 [.v (.l .s)] (.v .b) (λx=>Uf x.1) [w6] [.sp [.i .i64]]
def sR:FS:=FW 92 [.v (.l (.st 5)), .fn [.st 5] .b] (.v (.i .i64)) (λx=>E8 x.1 (λy=>x.2.1.φ (y,()))) λx r hp h=>JF (f:=92) (t:=Sy 3) (by kernel_rfl) (by kernel_rfl) (aE (av:=(BP Cu.av (.st 5))) (cn:=3) (λ_=>⟨_,rfl,rfl⟩) h (λy b hb=>hp.2.1 (y,()) b hb))
def dY:FS:=FW 50 [.v (.l (.st 5)), .fn [.st 5] .b] (.v .b) (λx=>IY x.1 (λy=>x.2.1.φ (y,()))) λx r hp h=>JF (f:=50) (t:=VQ 92) (by kernel_rfl) (by kernel_rfl) (lS h λr hr=>sR.ok x r hp hr)
def wB:FS:=AB 120 [.v .s] (.v .b) (λx=>Um x.1) [Yt] []
def wI:FS:=AB 91 [.v .s, .v .b] (.v .b) (λx=>Ur x.1 x.2.1) [wB] []
def u3:FS:=AB 90 [.v (.st 5)] (.v .b) (λx=>T0 x.1) [wI] []
def uS:FS:=Kk u3 λ_=>by kernel_rfl
def vA:FS:=AB 49 [.v (.l (.st 5))] (.v .b) (λx=>TV x.1) [vW,vU,dY,uS] []
def vJ:FS:=AB 51 [.v (.st 5)] (.v .b) (λx=>Uu x.1) [] []
def vT:FS:=Kk vJ λ_=>by kernel_rfl
def YM:FS:=AB 19 [.v (.l (.st 5))] (.v .b) (λx=>ON x.1) [vA,dY,vT] []
def tI:FS:=AB 147 [.v .s, .v .s] (.v .b) (λx=>Tv x.1 x.2.1) [] []
def tG:FS:=AB 121 [.v .s, .v .s] (.tu (.cons (.v .s) (.cons (.v .b) .nil))) (λx=>XP x.1 x.2.1) [tI] []
def eO:FS:=AB 94 [.v .s, .v .s] (.tu (.cons (.v .s) (.cons (.v .b) .nil))) (λx=>Rm x.1 x.2.1) [tG] []
def wP:FS:=AB 157 [.v .s, .v .s] (.v (.i .i64)) (λx=>Us x.1 x.2.1) [eE] []
def u4:FS:=AB 138 [.v .s, .v .s, .v (.i .i64), .v (.i .i64)] (.v (.l .s)) (λx=>Yq x.1 x.2.1 x.2.2.1 x.2.2.2.1) [u7,wP,wT] [.pt, .sp [.s, .i .i64, .l .s]]
def wF:FS:=AB 107 [.v .s, .v .s] (.v (.l .s)) (λx=>Rp x.1 x.2.1) [u4] []
def uE:FS:=AB 109 [.v (.st 3), .v (.st 4)] (.v (.st 5)) (λx=>TB x.1 x.2.1) [wK] []
def uJ:FS:=AB 68 [.v (.st 3), .v (.st 5)] (.tu (.cons (.v (.st 4)) (.cons (.v .b) .nil))) (λx=>TQ x.1 x.2.1) [eO,wF,eR,uE] []
def X2:FS:=AB 30 [.v (.st 3), .v (.l (.st 5))] (.v (.l (.st 4))) (λx=>Re x.1 x.2.1) [uJ] [.sp [.i .i64, .l (.st 4)], .inl]
def dX:FS:=FW 67 [.v (.l (.st 4)), .fn [.st 4] .b] (.v (.i .i64)) (λx=>E8 x.1 (λy=>x.2.1.φ (y,()))) λx r hp h=>JF (f:=67) (t:=Sy 1) (by kernel_rfl) (by kernel_rfl) (aE (av:=(BP Cu.av (.st 4))) (cn:=1) (λ_=>⟨_,rfl,rfl⟩) h (λy b hb=>hp.2.1 (y,()) b hb))
def tZ:FS:=AB 93 [.v (.st 4), .rf .s] (.v .b) (λx=>XZ x.1 x.2.1) [] []
def uG:FS:=Kk tZ λ_=>by kernel_rfl
def uV:FS:=AB 52 [.v (.st 3), .v (.l (.st 5)), .v .s] (.tu (.cons (.v (.st 4)) (.cons (.v .b) .nil))) (λx=>Q9 x.1 x.2.1 x.2.2.1) [X2,dX,uG] []
def eU:FS:=AB 53 [.v (.st 3), .v .s] (.v (.st 2)) (λx=>MZ x.1 x.2.1) [X1] []
def eL:FS:=AB 95 [.v (.st 3), .v .s] (.v .s) (λx=>Rc x.1 x.2.1) [] []
def tN:FS:=AB 122 [.v .s, .v .s] (.tu (.cons (.v .s) (.cons (.v .s) (.cons (.v .b) .nil)))) (λx=>TD x.1 x.2.1) [eE] []
def xN:FS:=AB 96 [.v .s, .v .s] (.tu (.cons (.v .s) (.cons (.v .s) (.cons (.v .b) .nil)))) (λx=>OL x.1 x.2.1) [tN] []
def eK:FS:=AB 55 [.v (.st 3), .v .s, .v .s] (.tu (.cons (.v .s) (.cons (.v .s) (.cons (.v .b) .nil)))) (λx=>MW x.1 x.2.1 x.2.2.1) [eL,eO,xN,UI] []
def TF:FS:=AB 54 [.v (.st 3), .v .s, .v (.l (.st 5))] (.v (.l .s)) (λx=>Od x.1 x.2.1 x.2.2.1) [eK] [.sp [.i .i64, .l .s], .inl]
def uR:FS:=AB 70 [.v .s] (.v .b) (λx=>Rl x.1) [] []
def eP:FS:=AB 35 [.v .s, .v .s] (.v (.i .i64)) (λx=>MV x.1 x.2.1) [uR] []
def fL:FS:=AB 34 [.v (.l (.i .i64))] (.v (.i .i64)) (λx=>Ry x.1) [] [.sp [.i .i64]]
def tT:FS:=AB 57 [.v (.st 0), .v (.st 0)] (.v (.i .i64)) (λx=>tU x.1 x.2.1) [eP,fL] []
def tM:FS:=Kk tT λ_=>by kernel_rfl
def tS:FS:=AB 20 [.v (.st 3), .v (.l (.st 5)), .v (.st 7)] (.tu (.cons (.v (.l (.st 4))) (.cons (.v .b) .nil))) (λx=>Rb x.1 x.2.1 x.2.2.1) [uV,eU,TF,sS,tM,eK] [.inl, .sp [.i .i64, .l (.st 0)], .inl, .sp [.i .i64, .l (.st 4)], .inl]
def wN:FS:=AB 5 [.v (.st 3), .v (.l (.st 5)), .v (.st 7)] (.tu (.cons (.v (.l (.st 4))) (.cons (.v .b) .nil))) (λx=>T9 x.1 x.2.1 x.2.2.1) [vG,YM,tS] []
def eT:FS:=AB 71 [.v .s, .v (.i .i64)] (.v .b) (λx=>OD x.1 x.2.1) [] [.sp [.i .i64]]
def x7:FS:=AB 112 [.v (.l .s), .v .s] (.v (.i .i64)) (λx=>UA x.1 x.2.1) [] [.sp [.i .i64]]
def wD:FS:=AB 72 [.v (.l .s)] (.v .b) (λx=>UJ x.1) [Rz,eT,x7] [.sp [.i .i64]]
def Yw:FS:=AB 36 [.v (.st 3)] (.v .b) (λx=>Oz x.1) [eT,wD,Rz] [.sp [.i .i64]]
def xA:FS:=AB 99 [.v (.st 3), .v (.st 6)] (.v .b) (λx=>Uo x.1 x.2.1) [eZ] []
def vN:FS:=AB 100 [.v (.st 6)] (.v .b) (λx=>Uw x.1) [] []
def YC:FS:=AB 43 [.v (.st 3), .v .s] (.v (.i .i64)) (λx=>OM x.1 x.2.1) [] [.sp [.i .i64]]
def vZ:FS:=AB 58 [.v (.st 3), .v (.st 7)] (.v .b) (λx=>Ul x.1 x.2.1) [xA,vN,Ub,YC] []
def wQ:FS:=AB 21 [.v (.st 3), .v (.st 7)] (.v .b) (λx=>Uq x.1 x.2.1) [Yw,vZ] []
def yB:FS:=AB 134 [.v .s] (.v .b) (λx=>UP x.1) [Rz,YE] []
def yG:FS:=AB 135 [.v .s] (.v .b) (λx=>UO x.1) [YE] []
def wZ:FS:=AB 101 [.v .s, .v .s, .v .b] (.v .b) (λx=>Uj x.1 x.2.1 x.2.2.1) [yB,yG] []
def vH:FS:=AB 59 [.v (.l (.st 5))] (.v .b) (λx=>Up x.1) [wZ] [.sp [.i .i64]]
def fH:FS:=AB 22 [.v (.l (.st 5))] (.v .b) (λx=>Rw x.1) [vH] [.sp [.i .i64]]
def vL:FS:=AB 60 [.v (.st 3), .v (.l (.st 5)), .v .s] (.v (.l (.st 4))) (λx=>Rn x.1 x.2.1 x.2.2.1) [Uk] [.sp [.l (.st 4), .i .i64], .inl]
def eN:FS:=AB 103 [.v (.st 3), .v .s, .v .s] (.tu (.cons (.v .s) (.cons (.v .s) (.cons (.v .b) .nil)))) (λx=>MY x.1 x.2.1 x.2.2.1) [fA,Ub] []
def u9:FS:=AB 102 [.v (.st 3), .v .s, .v (.l (.st 5))] (.v (.l .s)) (λx=>Yp x.1 x.2.1 x.2.2.1) [eN] [.sp [.l .s, .i .i64], .inl]
def fC:FS:=AB 75 [.v (.st 4), .v (.st 4), .v (.i .i64)] (.v .b) (λx=>Kr x.1 x.2.1 x.2.2.1) [] []
def wM:FS:=AB 61 [.v (.st 3), .v .s, .v (.l (.st 5))] (.v (.l (.st 4))) (λx=>T8 x.1 x.2.1 x.2.2.1) [u9,eN,fC] [.sp [.l (.st 4), .i .i64], .sp [.i .i64, .l (.st 4)]]
def xD:FS:=AB 23 [.v (.st 3), .v (.l (.st 5)), .v (.st 7)] (.tu (.cons (.v (.l (.st 4))) (.cons (.v .b) .nil))) (λx=>Rx x.1 x.2.1 x.2.2.1) [vL,YC,wM] [.sp [.l (.st 4), .i .i64], .inl]
def wR:FS:=AB 6 [.v (.st 3), .v (.l (.st 5)), .v (.st 7)] (.tu (.cons (.v (.l (.st 4))) (.cons (.v .b) .nil))) (λx=>Ux x.1 x.2.1 x.2.2.1) [wQ,fH,xD] []
def uW:FS:=AB 7 [.v (.l (.i .u8))] (.tu (.cons (.v (.st 3)) (.cons (.v (.l (.st 5))) (.cons (.v (.i .i64)) (.cons (.v .s) (.cons (.v .s) .nil)))))) (λx=>TK x.1) [XY,eG,IW,Jr] []
def sP:FS:=FW 29 [.v (.l (.st 4)), .fn [.st 4] .b] (.v (.l (.st 4))) (λx=>Ks x.1 (λy=>x.2.1.φ (y,()))) λx r hp h=>JF (f:=29) (t:=aY 67 1 (.mk (.cons (.fld (.fld (.idx (.var 5) (.var 4)) 0 1 true) 0 1 false) .nil)) [(.agg (.fld (.idx (.var 5) (.var 4)) 0 1 true) 1)] (.mk (.cons (.lst .nil) .nil))) (by kernel_rfl) (by kernel_rfl) (zvV (av:=(BP Cu.av (.st 4))) (λx=>⟨Sb _ x,_,rfl⟩) (by decide) (λa b c d j ys x tl hj=>by simp[AV.nth,hj,BP,MU]) (λa b c d j ys x hj=>by simp[AV.nth,hj,BP,MU]) h (λi hi=>dX.ok x i hp hi) (λy b hb=>hp.2.1 (y,()) b hb))
def uX:FS:=AB 31 [.v (.st 4), .rf (.i .i64), .rf .s, .rf .s] (.v .b) (λx=>TZ x.1 x.2.1 x.2.2.1 x.2.2.2.1) [] []
def uQ:FS:=Kk uX λ_=>by kernel_rfl
def sN:FS:=AB 110 [.v (.l (.st 4)), .v (.i .i64), .v (.i .i64), .fn [.st 4, .st 4] (.i .i64)] (.tu (.cons (.tu .nil) (.cons (.v (.l (.st 4))) .nil))) (λx=>Q8 x.1 x.2.1 x.2.2.1 (λy0 y1=>x.2.2.2.1.φ (y0,y1,()))) [] [.sp [.i .i64, .l (.st 4)], .sp [.i .i64, .l (.st 4)]]
def sZ:FS:=AB 162 [.v (.l (.st 4)), .v (.i .i64), .v (.i .i64), .v (.i .i64), .fn [.st 4, .st 4] (.i .i64)] (.tu (.cons (.tu .nil) (.cons (.v (.l (.st 4))) .nil))) (λx=>Tx x.1 x.2.1 x.2.2.1 x.2.2.2.1 (λy0 y1=>x.2.2.2.2.1.φ (y0,y1,()))) [] [.sp [.i .i64, .l (.st 4)]]
def tF:FS:=AB 142 [.v (.l (.st 4)), .v (.i .i64), .v (.i .i64), .v (.i .i64), .fn [.st 4, .st 4] (.i .i64)] (.tu (.cons (.tu .nil) (.cons (.v (.l (.st 4))) .nil))) (λx=>dZ x.1 x.2.1 x.2.2.1 x.2.2.2.1 (λy0 y1=>x.2.2.2.2.1.φ (y0,y1,()))) [sZ] [.sp [.i .i64, .l (.st 4), .i .i64]]
theorem eC:∀(n:Nat) (xs:HP Cu.car [.v (.l (.st 4)), .v (.i .i64), .v (.i .i64), .v (.i .i64), .fn [.st 4, .st 4] (.i .i64)]) (y:Gg Cu.car (.tu (.cons (.tu .nil) (.cons (.v (.l (.st 4))) .nil)))),Hk Cu [.v (.l (.st 4)), .v (.i .i64), .v (.i .i64), .v (.i .i64), .fn [.st 4, .st 4] (.i .i64)] xs->((λx=>Q6 n x.1 x.2.1 x.2.2.1 x.2.2.2.1 (λy0 y1=>x.2.2.2.2.1.φ (y0,y1,()))):HP Cu.car [.v (.l (.st 4)), .v (.i .i64), .v (.i .i64), .v (.i .i64), .fn [.st 4, .st 4] (.i .i64)]->Option (Gg Cu.car (.tu (.cons (.tu .nil) (.cons (.v (.l (.st 4))) .nil))))) xs=some y->Cu.Rt 111 (Fw Cu [.v (.l (.st 4)), .v (.i .i64), .v (.i .i64), .v (.i .i64), .fn [.st 4, .st 4] (.i .i64)] xs) (FE Cu (.tu (.cons (.tu .nil) (.cons (.v (.l (.st 4))) .nil))) y)
 |0,_,_,_,h=>nomatch h
 |n+1,xs,y,hp,h=>oB (ps:=[.v (.l (.st 4)), .v (.i .i64), .v (.i .i64), .v (.i .i64), .fn [.st 4, .st 4] (.i .i64)]) (r:=(.tu (.cons (.tu .nil) (.cons (.v (.l (.st 4))) .nil)))) [FW 111 [.v (.l (.st 4)), .v (.i .i64), .v (.i .i64), .v (.i .i64), .fn [.st 4, .st 4] (.i .i64)] (.tu (.cons (.tu .nil) (.cons (.v (.l (.st 4))) .nil))) (λx=>Q6 n x.1 x.2.1 x.2.2.1 x.2.2.2.1 (λy0 y1=>x.2.2.2.2.1.φ (y0,y1,()))) (eC n),tF] [.sp [.i .i64, .i .i64], .sp [.i .i64, .l (.st 4)], .sp [.i .i64, .i .i64], .sp [.i .i64, .l (.st 4)], .sp [.i .i64, .i .i64], .sp [.i .i64, .i .i64], .pt, .inl] (φ:=(λx=>Q6 (n+1) x.1 x.2.1 x.2.2.1 x.2.2.2.1 (λy0 y1=>x.2.2.2.2.1.φ (y0,y1,())))) (λ_ _=>by kernel_rfl) (λ_ _=>by kernel_rfl) xs y hp h
def sT:FS:=FW 111 [.v (.l (.st 4)), .v (.i .i64), .v (.i .i64), .v (.i .i64), .fn [.st 4, .st 4] (.i .i64)] (.tu (.cons (.tu .nil) (.cons (.v (.l (.st 4))) .nil))) (λx=>XT x.1 x.2.1 x.2.2.1 x.2.2.2.1 (λy0 y1=>x.2.2.2.2.1.φ (y0,y1,()))) (eC nT)
def tK:FS:=AB 69 [.v (.l (.st 4)), .v (.i .i64), .fn [.st 4, .st 4] (.i .i64)] (.tu (.cons (.tu .nil) (.cons (.v (.l (.st 4))) .nil))) (λx=>Tt x.1 x.2.1 (λy0 y1=>x.2.2.1.φ (y0,y1,()))) [sN,sT] [.sp [.i .i64, .i .i64, .l (.st 4)], .sp [.i .i64, .l (.st 4)], .sp [.i .i64, .i .i64, .l (.st 4)], .inl]
def sQ:FS:=AB 32 [.v (.l (.st 4)), .fn [.st 4, .st 4] (.i .i64)] (.tu (.cons (.tu .nil) (.cons (.v (.l (.st 4))) .nil))) (λx=>Tz x.1 (λy0 y1=>x.2.1.φ (y0,y1,()))) [tK] []
def uZ:FS:=AB 33 [.v (.st 4), .v (.st 4), .rf (.i .i64)] (.v (.i .i64)) (λx=>TW x.1 x.2.1 x.2.2.1) [eP,fL] []
def u0:FS:=Kk uZ λ_=>by kernel_rfl
def vO:FS:=AB 8 [.v (.st 3), .v (.l (.st 5)), .v (.i .i64), .v .s, .v .s] (.tu (.cons (.v (.l (.st 4))) (.cons (.v .b) .nil))) (λx=>Oy x.1 x.2.1 x.2.2.1 x.2.2.2.1 x.2.2.2.2.1) [Yu,YM,M3,UI,X2,sP,uQ,sQ,u0] []
def w7:FS:=AB 39 [.v (.st 3), .v (.l (.st 5)), .v (.i .i64), .v .s, .v .s] (.v (.l (.st 4))) (λx=>UH x.1 x.2.1 x.2.2.1 x.2.2.2.1 x.2.2.2.2.1) [Uk,fC] [.sp [.l (.st 4), .i .i64], .inl, .sp [.i .i64, .l (.st 4)]]
def vQ:FS:=AB 9 [.v (.st 3), .v (.l (.st 5)), .v (.i .i64), .v .s, .v .s] (.tu (.cons (.v (.l (.st 4))) (.cons (.v .b) .nil))) (λx=>Ue x.1 x.2.1 x.2.2.1 x.2.2.2.1 x.2.2.2.2.1) [Yw,fH,Rz,Ub,w7] []
def xQ:FS:=AB 40 [.v (.l .s), .v (.l .s)] (.v .b) (λx=>UC x.1 x.2.1) [] [.sp [.i .i64]]
def u5:FS:=AB 10 [.v (.l (.st 4)), .v (.l (.st 4))] (.v .b) (λx=>Ox x.1 x.2.1) [xQ] [.sp [.i .i64]]
def xV:FS:=AB 76 [.v (.st 3), .v .s] (.v .b) (λx=>UE x.1 x.2.1) [Yu,X1] []
def vD:FS:=AB 41 [.v (.st 3), .v .s, .v (.l (.st 5))] (.v .b) (λx=>Ug x.1 x.2.1 x.2.2.1) [xV,YM] []
def uA:FS:=AB 146 [.v (.st 3), .v .s, .v (.st 4)] (.v .s) (λx=>TM x.1 x.2.1 x.2.2.1) [eL,eU] []
def eQ:FS:=AB 115 [.v (.st 3), .v .s, .v (.l (.st 5))] (.v (.l .s)) (λx=>Rf x.1 x.2.1 x.2.2.1) [X2,uA] [.sp [.i .i64, .l .s]]
def tL:FS:=FW 144 [.v (.l .s)] (.v (.l .s)) (λx=>XQ x.1) λx r hp h=>JF (f:=144) (t:=aZ 16 1) (by kernel_rfl) (by kernel_rfl) (zu9 (bytes:=16) (sz:=1) (av:=(BP Cu.av .s)) (λx=>⟨Sb _ x,U1 (by kernel_rfl) x⟩) h)
def sU:FS:=FW 143 [.v (.l .s), .fn [.s] .b] (.v (.l .s)) (λx=>Ks x.1 (λy=>x.2.1.φ (y,()))) λx r hp h=>JF (f:=143) (t:=bJ 158 1 false (.fld (.idx (.var 5) (.var 4)) 0 1 false) [] (.str (ByteArray.mk #[]))) (by kernel_rfl) (by kernel_rfl) (zxo (av:=(BP Cu.av .s)) (λx=>⟨Sb _ x,U1 (by kernel_rfl) x,(λe=>nomatch e),λ_=>rfl⟩) (by decide) (λa b c d j ys x tl hj=>by simp[AV.nth,hj,BP,MU]) (λa b c d j ys x hj=>by simp[AV.nth,hj,BP,MU]) h (λi hi=>eB.ok x i hp hi) (λy b hb=>hp.2.1 (y,()) b hb))
def u6:FS:=AB 145 [.v .s, .rf (.l .s)] (.v .b) (λx=>Yz x.1 x.2.1) [eD] []
def vC:FS:=Kk u6 λ_=>by kernel_rfl
def eY:FS:=AB 114 [.v (.l .s), .v (.l .s)] (.v (.l .s)) (λx=>Rv x.1 x.2.1) [tL,sU,vC] []
def tQ:FS:=AB 77 [.v (.st 3), .v .s, .v (.l (.st 5))] (.v (.l .s)) (λx=>TG x.1 x.2.1 x.2.2.1) [TF,eQ,eY] []
def tY:FS:=AB 78 [.v (.st 3), .v .s, .v (.l (.st 5))] (.v (.l .s)) (λx=>X0 x.1 x.2.1 x.2.2.1) [eQ,TF,eY] []
def uK:FS:=AB 42 [.v (.st 3), .v .s, .v (.i .i64), .v (.l (.st 5))] (.v .b) (λx=>TP x.1 x.2.1 x.2.2.1 x.2.2.2.1) [TF,tQ,tY] []
def w8:FS:=AB 11 [.v (.st 3), .v .s, .v (.i .i64), .v (.l (.st 5))] (.tu (.cons (.v .b) (.cons (.v .b) .nil))) (λx=>UK x.1 x.2.1 x.2.2.1 x.2.2.2.1) [vD,M3,uK] []
def yI:FS:=AB 12 [.v (.st 3), .v .s] (.tu (.cons (.v (.st 2)) (.cons (.v .b) .nil))) (λx=>UN x.1 x.2.1) [YC,Yw] []
def eW:FS:=AB 3 [.v (.l (.i .u8)), .v (.l (.i .u8))] (.v .b) (λx=>Ut x.1 x.2.1) [uM,wN,wR,uW,vO,vQ,u5,w8,yI] [.pt, .sp [.i .i64]]
theorem wO(a0 a1:List Int)(r:Bool)(h:Ut a0 a1=some r):Cw Tryz.prog CF 3 [.sl (a0.map PQ), .sl (a1.map PQ)] (.bool r):=eW.ok (a0,a1,()) r (by simp[eW,AB,Hk,SM]) h
def BW{α:Type}(o:Option α)(Q:α->Prop):Prop:= ∃x,o=some x/\Q x
section
variable {α β σ:Type} {Q:β->Prop}
theorem BW.bind{o:Option α}{P:α->Prop}{f:α->Option β}(h:BW o P)(hf:∀x,P x->BW (f x) Q):BW (o.bind f) Q:=by obtain⟨x,rfl,hx⟩:=h;exact hf x hx
theorem BW.ret{x:β}(h:Q x):BW (some x) Q:=⟨x,rfl,h⟩
theorem BW.ite{b:Bool}{A B:Option β}(ha:b=true->BW A Q)(hb:b=false->BW B Q):BW (if b=true then A else B) Q:=by
 cases b with
 |true=>simpa using ha rfl
 |false=>simpa using hb rfl
theorem BW.req{p:Prop}[Decidable p]{k:Option β}(hp:p)(hk:BW k Q):BW (req p k) Q:=by rw[A7 hp];exact hk
theorem BW.mono{o:Option β}{P:β->Prop}(h:BW o P)(o7:∀x,P x->Q x):BW o Q:=by obtain⟨x,hx,h⟩:=h;exact⟨x,hx,o7 x h⟩
theorem BW.getI{xs:List β}{i:Int}(h0:0<=i)(h:i<xs.length)(hq:∀x,x∈xs->Q x):BW (getI xs i) Q:=by obtain⟨x,h1,h2,_⟩:=Pg h0 h;exact⟨x,h1,hq x h2⟩
theorem RE{body:σ->Option (σ ⊕ Option β)}(I:Nat->σ->Prop)(h:∀n s,I n s->BW (body s) λo=>match o with| .inl s'=> ∃m,m<n/\I m s'| .inr q=>BW q Q):∀{n:Nat} {s:σ},I n s->BW (AX body s) Q:=by
 intro n
 induction n using Nat.strongRecOn with
 |_ n ih=>
  intro s hI;obtain⟨o,ho,h2⟩:=h n s hI;rw[G8,ho]
  match o,h2 with
  | .inl s',⟨m,hm,oZ⟩=>exact ih m hm oZ
  | .inr q,hq=>exact hq
end
structure DB where
 ku:List Int->Prop
 ma:∀l,ku l-> ∀b∈l,0<=b/\b<=255
instance codeBytes:Inhabited DB:=⟨⟨λl=> ∀b∈l,0<=b/\b<=255,λ_ h=>h⟩⟩
def BK[Inhabited DB](c:AE)(k:Int):Prop:=(default:DB).ku c.ar/\0<=c.bz/\c.bz<=k
theorem BK.up[Inhabited DB]{c:AE}{i j:Int}(h:BK c i)(cX:i<=j):BK c j:=⟨h.1,h.2.1,by have:=h.2.2;omega⟩
theorem BK.start[Inhabited DB]{code:List Int}(h:(default:DB).ku code):BK ⟨code,0,0⟩ 0:=⟨h,by simp,by simp⟩
theorem nD(a:Int):0<=IntKind.i64.wrap (IntKind.u64.wrap ((BitVec.ofInt (IntKind.bits .u64) a&&&BitVec.ofInt (IntKind.bits .u64) 255).toNat:Int))/\IntKind.i64.wrap (IntKind.u64.wrap ((BitVec.ofInt (IntKind.bits .u64) a&&&BitVec.ofInt (IntKind.bits .u64) 255).toNat:Int))<=255:=by
 have h:(BitVec.ofInt (IntKind.bits .u64) a&&&BitVec.ofInt (IntKind.bits .u64) 255).toNat<=255:=by rw[BitVec.toNat_and];exact Nat.le_trans Nat.and_le_right (by decide)
 generalize (BitVec.ofInt (IntKind.bits .u64) a&&&BitVec.ofInt (IntKind.bits .u64) 255).toNat=m at h ⊢;have e:IntKind.u64.wrap (m:Int)=m:=by simp[IntKind.wrap,IntKind.bits,IntKind.signed];omega
 rw[e,Ch (by omega) (by omega)];omega
theorem mQ[Inhabited DB]{c:AE}{k:Int}(h:BK c k)(hk:k<=4611686018427387904):BW (Ra c) λp=>(0<=p.1/\p.1<=255)/\BK p.2 (k+1):=by
 obtain⟨hb,h0,h1⟩:=h;have w:IntKind.i64.wrap (c.bz+1)=c.bz+1:=Ch (by omega) (by omega);unfold Ra;refine .ite (λAI=> ?_) λAI=> ?_
 ·simp only[AN]at AI;refine BW.bind (P:=λy=>0<=y/\y<=255) (.getI h0 AI ((default:DB).ma _ hb)) λy hy=> ?_;have wy:IntKind.i64.wrap y=y:=Ch (by omega) (by omega);refine .ite (λ_=> .ret ⟨by dsimp only;rw[wy];exact hy,hb,by dsimp only;omega,by dsimp only;omega⟩) λ_=> .ret ⟨nD _,hb,by dsimp only;omega,by dsimp only;omega⟩
 ·refine .ite (λ_=> .ret ⟨by simp,hb,by dsimp only;omega,by dsimp only;omega⟩) λ_=> .ret ⟨nD _,hb,by dsimp only;omega,by dsimp only;omega⟩
theorem Fb[Inhabited DB]{c:AE}{k:Int}(n:Int)(h:BK c k)(hk:k<=4611686018427387000):BW (Es c n) λp=>(0<=p.1/\(1<=n->p.1<n)/\p.1<=65535)/\BK p.2 (k+2):=by
 have tm:∀x:Int,0<=x->1<n->0<=x.tmod n/\x.tmod n<n/\x.tmod n<=x:=λx hx hn=>by
  rw[Int.tmod_eq_emod_of_nonneg hx];exact⟨Int.emod_nonneg _ (by omega),Int.emod_lt_of_pos _ (by omega),by have:=Int.emod_add_mul_ediv x n;have h2:0<=n*(x/n):=Int.mul_nonneg (by omega) (Int.ediv_nonneg hx (by omega));omega⟩
 unfold Es;refine .ite (λhn=> .ret ⟨⟨by simp,λh1=>by dsimp only;omega,by simp⟩,h.up (by omega)⟩) λhn=> ?_;simp only[decide_eq_false_iff_not]at hn;refine(mQ h (by omega)).bind λp ⟨hp,hc⟩=> ?_;refine .ite (λ_=> ?_) λ_=> ?_
 ·refine(mQ hc (by omega)).bind λq ⟨hq,hd⟩=> .req (by omega) (.ret ?_);have w1:IntKind.i64.wrap (p.1*256)=p.1*256:=Ch (by omega) (by omega);have w2:IntKind.i64.wrap (p.1*256+q.1)=p.1*256+q.1:=Ch (by omega) (by omega);have:=tm (p.1*256+q.1) (by omega) (by omega);dsimp only;rw[w1,w2];exact⟨⟨this.1,λ_=>this.2.1,by omega⟩,hd.up (by omega)⟩
 ·have:=tm p.1 hp.1 (by omega);exact .req (by omega) (.ret ⟨⟨this.1,λ_=>this.2.1,by dsimp only;omega⟩,hc.up (by omega)⟩)
theorem KO[Inhabited DB]{c:AE}{k:Int}(n:Int)(h:BK c k)(hk:k<=4611686018427387000):BW (IV c n) λp=>BK p.2 (k+2):=by unfold IV;exact(Fb n h hk).bind λp ⟨_,hc⟩=> .ret hc
theorem foldl_map{α β:Type}(f:α->β)(l:List α)(o:List β):l.foldl (λo x=>o++ [f x]) o=o++l.map f:=by
 induction l generalizing o with
 |nil=>simp
 |cons x l ih=>rw[List.foldl_cons,ih];simp
theorem nS{n:Nat}{body:Int->Option (Int ⊕ Option Bool)}(hs:∀i:Nat,i<n->body i=some (.inl ((i+1:Nat):Int)))(he:body n=some (.inr (some true))):AX body 0=some true:=by have h:=LB (n:=n) (body:=body) (λ_=>true) false (some true) (λi hi=>by rw[hs i hi,if_pos rfl]) he;rw[h,if_pos (by simp)]
abbrev Am:=Ab
def C7(a b c:Int):Bool:=decide (a>=b)&&decide (a<=c)
theorem D0{a b c:Int}:C7 a b c=true↔b<=a/\a<=c:=by simp[C7]
@[simp] theorem VH(a b c:Int):Ku a b c=some (C7 a b c):=rfl
@[simp] theorem Nc(a b c:Int):Js a b c=some (C7 a b c):=rfl
def EF(b:UInt8):Bool:=(decide ((b.toNat:Int)>=97)&&decide ((b.toNat:Int)<=122))||(decide ((b.toNat:Int)>=48)&&decide ((b.toNat:Int)<=57))
def I9(s more:Am):Bool:=s.all λb=>EF b||more.contains b
theorem nW{a b:UInt8}:((a.toNat:Int)==(b.toNat:Int))=(a==b):=by
 rw[Bool.eq_iff_iff];simp only[Ax];constructor
 ·intro h;exact UInt8.toNat_inj.1 (by omega)
 ·rintro rfl;rfl
theorem jF{α:Type}(xs:List α)(p:α->Bool)(q:Nat->Bool)(h:∀(i:Nat) (hi:i<xs.length),q i=p xs[i]):(List.range xs.length).all q=xs.all p:=by
 rw[Bool.eq_iff_iff];simp only[A0,List.mem_range];constructor
 ·intro hq x hx;obtain⟨i,hi,rfl⟩:=List.getElem_of_mem hx;rw[<-h i hi];exact hq i hi
 ·intro hp i hi;rw[h i hi];exact hp _ (Bu hi)
theorem Pb{α β:Type}{xs:List α}{body:Int->Option (Int ⊕ Option β)}(p:α->Bool)(b:β)(fin:Option β)
  (hs:∀(i:Nat) (hi:i<xs.length),body i=some (if p xs[i]=true then .inl ((i+1:Nat):Int)else .inr (some b))) (he:body xs.length=some (.inr fin)):AX body 0=if xs.all p=true then fin else some b:=by
 rw[LB (n:=xs.length) (λi=>match xs[i]? with|some x=>p x|none=>true) b fin (λi hi=>by rw[hs i hi];simp[hi]) he,
  jF xs p _ λi hi=>by simp[hi]]
theorem Zt{s more:Am}(h1:s.length<=2000000)(h2:more.length<=2000000):OI s more=some (I9 s more):=by
 unfold OI;rw[Pb (xs:=s) (λb=>EF b||more.contains b) false (some true) ?_ (by simp[Yi])]
 ·unfold I9;cases(s.all λb=>EF b||more.contains b)<;>rfl
 ·intro i hi;have BS:AX (λt:Bool × Int=>Rj more i s[i] t.1 t.2) (EF s[i],0)=some (if(EF s[i]||more.contains s[i])=true then .inl ((i+1:Nat):Int)else .inr (some false)):=by
   have hl:=jD (xs:=more) (body:=λt:Bool × Int=>Rj more i s[i] t.1 t.2) (λk (ok:Bool)=>(ok,k)) (λb ok=>some (.inl (ok||s[i]==b))) (λok=>Yh i ok)
    (λk hk ok=>by simp only[Rj,Int.ofNat_lt,hk,decide_true,if_true,BZ hk,Aa,CG hk (by omega:more.length<=_),nW,Nw];cases ok<;>simp) (λok=>by simp[Rj]) (EF s[i])
   rw[zvI (λok b=>ok||s[i]==b) (λ_=>True) (λ_ _ _ _=>trivial) (λ_ _ _ _=>rfl) trivial]at hl;have hf:∀(l:Am) (ok:Bool),l.foldl (λok b=>ok||s[i]==b) ok=(ok||l.contains s[i]):=by
    intro l
    induction l with
    |nil=>intro ok;simp
    |cons c l ih=>intro ok;rw[List.foldl_cons,ih,List.contains_cons,Bool.or_assoc]
   rw[hl,hf];unfold Yh;rw[CG hi (by omega)];cases(EF s[i]||more.contains s[i])<;>rfl
  simp only[Yi,Int.ofNat_lt,hi,decide_true,if_true,BZ hi,Aa];exact BS
theorem xW(l:Am)(c:UInt8):decide (Lib.indexByte l c<0)= !l.contains c:=by
 induction l with
 |nil=>rfl
 |cons b l ih=>
  unfold Lib.indexByte;have Iv:=Lib.indexByte_ge l c;rw[List.contains_cons];by_cases hb:b=c
  ·subst hb;simp
  ·have h1:(b==c)=false:=by simpa using hb
   have h2:(c==b)=false:=by simpa using λh=>hb h.symm
   rw[h1,h2];simp only[BX,if_false,Bool.false_or];rw[<-ih];by_cases hm:Lib.indexByte l c= -1
   ·simp[hm]
   ·have h3:(Lib.indexByte l c== -1)=false:=by simpa using hm
    rw[h3];simp only[BX,if_false];rw[decide_eq_decide];omega
theorem Zj{s more:Am}(h1:s.length<=2000000):Ot s more=some (I9 s more):=by
 unfold Ot;rw[Pb (xs:=s) (λb=>EF b||more.contains b) false (some true) ?_ (by simp[X8])]
 ·unfold I9;cases(s.all λb=>EF b||more.contains b)<;>rfl
 ·intro i hi;have hu:((s[i].toNat:Int)).toNat.toUInt8=s[i]:=by simp
  simp only[X8,Int.ofNat_lt,hi,decide_true,if_true,BZ hi,Aa,XX,Yc,Tu,hu,xW,CG hi (by omega:s.length<=_)];rw[show((decide ((s[i].toNat:Int)>=97)&&decide ((s[i].toNat:Int)<=122))||(decide ((s[i].toNat:Int)>=48)&&decide ((s[i].toNat:Int)<=57)))=EF s[i]from rfl];cases EF s[i]<;>cases more.contains s[i]<;>rfl
def DZ(s:Am):Bool:=C7 s.length 1 12&&I9 s [46,47]
def He(s:Am):Bool:=decide ((s.length:Int)<=24)&&I9 s [46,45,44,95]
theorem zyv{s:Am}(h:s.length<=2000000):UP s=some (DZ s):=by simp only[UP,VH,Aa,Zt h (more:=[46,47]) (by decide),DZ];cases C7 s.length 1 12<;>simp
theorem zy5{s:Am}(h:s.length<=2000000):Un s=some (DZ s):=by simp only[Un,Nc,Aa,Zj h,DZ];cases C7 s.length 1 12<;>simp
theorem zzg{s:Am}(h:s.length<=2000000):UO s=some (He s):=by simp only[UO,Aa,Zt h (more:=[46,45,44,95]) (by decide),He];by_cases hl:(s.length:Int)<=24<;>simp[hl]
theorem zyu{s:Am}(h:s.length<=2000000):Um s=some (He s):=by simp only[Um,Aa,Zj h,He];by_cases hl:(s.length:Int)<=24<;>simp[hl]
def H9(v:Am)(GK:Bool):Bool:=He v&&(!GK||v==[])
theorem zui{v:Am}{GK:Bool}(h:v.length<=2000000):Ur v GK=some (H9 v GK):=by simp only[Ur,zyu h,Aa,H9,bne];cases He v<;>cases GK<;>cases(v==[])<;>rfl
theorem zwL{k v:Am}{GK:Bool}(hk:k.length<=2000000)(hv:v.length<=2000000):Uj k v GK=some (DZ k&&H9 v GK):=by simp only[Uj,zyv hk,zzg hv,Aa,H9];cases DZ k<;>simp
def H7(ks:List Am)(i:Nat):Bool:=i==0||Op.bytesLess ((ks[i-1]?).getD []) ((ks[i]?).getD [])
def KJ(ks:List Am):Bool:=(List.range ks.length).all (H7 ks)
theorem LH:∀(a b:Am),(Op.bytesLess a b||a==b)= !Op.bytesLess b a
 | [],[]=>rfl
 | [],_::_=>rfl
 |_::_,[]=>rfl
 |x::a,y::b=>by
  have ih:=LH a b;simp only[Op.bytesLess];rcases Nat.lt_trichotomy x.toNat y.toNat with h|h|h
  ·have h1:x<y:=UInt8.lt_iff_toNat_lt.2 h;have h2: ¬y<x:=λh'=>by have:=UInt8.lt_iff_toNat_lt.1 h';omega
   have h3: ¬y=x:=λh'=>by subst h';omega
   simp[h1,h2,h3]
  ·have h0:x=y:=UInt8.toNat_inj.1 h;subst h0;have h1: ¬x<x:=λh'=>by have:=UInt8.lt_iff_toNat_lt.1 h';omega
   rw[show((x::a)==(x::b))=(a==b) by simp];simp only[h1,decide_false,Bool.false_or,beq_self_eq_true,Bool.true_and];exact ih
  ·have h1: ¬x<y:=λh'=>by have:=UInt8.lt_iff_toNat_lt.1 h';omega
   have h2:y<x:=UInt8.lt_iff_toNat_lt.2 h;have h3: ¬x=y:=λh'=>by subst h';omega
   simp[h1,h2,h3]
theorem Vz{i:Nat}(h0:0<i)(h:i<=2000000):IntKind.i64.wrap ((i:Int)-1)=((i-1:Nat):Int):=by rw[Ch (by omega) (by omega)];omega
theorem mB{α:Type}(xs:List α)(p:α->Bool)(q r:Nat->Bool)(h:∀(i:Nat) (hi:i<xs.length),r i=(p xs[i]&&q i)):(List.range xs.length).all r=(xs.all p&&(List.range xs.length).all q):=by
 rw[<-jF xs p (λi=>match xs[i]? with|some x=>p x|none=>true) λi hi=>by simp[hi]];rw[Bool.eq_iff_iff];simp only[Ae,A0,List.mem_range];constructor
 ·intro hr;exact⟨λi hi=>by have:=hr i hi;rw[h i hi,Ae]at this;simpa[hi]using this.1,λi hi=>by have:=hr i hi;rw[h i hi,Ae]at this;exact this.2⟩
 ·rintro⟨h1,h2⟩ i hi;rw[h i hi,Ae];exact⟨by have:=h1 i hi;simpa[hi]using this,h2 i hi⟩
theorem zB{ks:List Am}(h:ks.length<=2000000)(hk:∀k∈ks,k.length<=2000000):Uf ks=some (ks.all DZ&&KJ ks):=by
 unfold Uf KJ;rw[LB (n:=ks.length) (λi=>DZ ((ks[i]?).getD [])&&H7 ks i) false (some true) ?_ (by simp[Yb]),mB ks DZ (H7 ks) _ λi hi=>by simp[hi]]
 ·cases(ks.all DZ&&(List.range ks.length).all (H7 ks))<;>rfl
 ·intro i hi;simp only[Yb,Int.ofNat_lt,hi,decide_true,if_true,BZ hi,Aa,zy5 (hk _ (Bu hi)),CG hi (by omega:ks.length<=_),Bl hi,BC,H7];by_cases h0:i=0
  ·subst h0;cases DZ ks[0]<;>simp
  ·have hp:(i:Int)>0:=by omega
   have Iz:i-1<ks.length:=by omega
   have hb:(i==0)=false:=by simpa using h0
   simp only[hp,decide_true,if_true,Vz (Nat.pos_of_ne_zero h0) (by omega:i<=2000000),BZ Iz,Aa,LH,Bl Iz,BC,hb,Bool.false_or];cases DZ ks[i]<;>cases Op.bytesLess ks[i-1] ks[i]<;>rfl
theorem yR{l:List Ai}(h:l.length<=2000000):Ud l=some (l.map (·.ah)):=by
 have h1:=G6 (xs:=l) (body:=λs:Int × List Am=>Og l s.1 s.2) (λi (o:List Am)=>(i,o)) (λo w=>o++ [w.ah]) (λo=>some o) (λq o=>o.length=q)
  (λi hi o hI=>by
   refine⟨?_,by simp[hI]⟩;show Og l i o=_;unfold Og;have hr:((o.length:Int)+(([l[i].ah]:List Am).length:Int))*16<=140737488355328/\(o.length:Int)+(([l[i].ah]:List Am).length:Int)<=140737488355328:=by rw[AL,hI];omega
   rw[if_pos (by simpa using hi),BZ hi,Aa,A7 hr,CG hi (by omega)]) (λo _=>by
   show Og l l.length o=_;unfold Og;rw[if_neg (by simp)]) (s:=[]) rfl
 have hf:∀(l:List Ai) (o:List Am),l.foldl (λo w=>o++ [w.ah]) o=o++l.map (·.ah):=by
  intro l
  induction l with
  |nil=>intro o;simp
  |cons w l ih=>intro o;rw[List.foldl_cons,ih];simp
 have h2:=h1.1;rw[hf,List.nil_append]at h2;unfold Ud;exact h2
def Ev(w:Ai):Bool:=DZ w.ah&&H9 w.bd w.bp
def Jv(l:List Ai):Bool:=decide ((l.length:Int)<=24)&&(l.all Ev&&KJ (l.map (·.ah)))
def Ja(l:List Ai):Prop:=l.length<=2000000/\ ∀w∈l,w.ah.length<=2000000/\w.bd.length<=2000000
theorem zu3{l:List Ai}(h:Ja l):TV l=some (Jv l):=by
 have e1:IY l (λy0_=>T0 y0_)=some (l.any λw=> !H9 w.bd w.bp):=aL _ (λw hw=>by simp[T0,zui (h.2 w hw).2]) (by have:=h.1;omega);have e2:=zB (ks:=l.map (·.ah)) (by simpa using h.1) (by simp only[List.mem_map];rintro k ⟨w,hw,rfl⟩;exact(h.2 w hw).1);simp only[TV,yR h.1,e1,e2,Aa,Jv,<-List.not_all_eq_any_not];have e3:l.all Ev=((l.map (·.ah)).all DZ&&l.all λw=>H9 w.bd w.bp):=by
  rw[Bool.eq_iff_iff];simp only[A0,Ae,Ev,List.mem_map];constructor
  ·intro h;exact⟨by rintro k ⟨w,hw,rfl⟩;exact(h w hw).1,λw hw=>(h w hw).2⟩
  ·rintro⟨h1,h2⟩ w hw;exact⟨h1 _ ⟨w,hw,rfl⟩,h2 w hw⟩
 rw[e3];generalize (l.map (·.ah)).all DZ=b1;generalize KJ (l.map (·.ah))=b2;generalize (l.all λw=>H9 w.bd w.bp)=b3;by_cases hl:(l.length:Int)<=24<;>cases b1<;>cases b2<;>cases b3<;>simp[hl]
theorem zvd{l:List Ai}(h:Ja l):Up l=some (Jv l):=by
 unfold Up;have hn:=h.1;rw[LB (n:=l.length) (λi=>Ev ((l[i]?).getD ⟨[],[],false⟩)&&H7 (l.map (·.ah)) i) false (X7 l) ?_ (by simp[Yr]),mB l Ev (H7 (l.map (·.ah))) _ λi hi=>by simp[hi]]
 ·unfold X7 Jv KJ;rw[List.length_map];cases(l.all Ev&&(List.range l.length).all (H7 (l.map (·.ah))))<;>simp
 ·intro i hi;have hm:=h.2 _ (Bu hi);simp only[Yr,Int.ofNat_lt,hi,decide_true,if_true,BZ hi,Aa,zwL hm.1 hm.2,CG hi (by omega:l.length<=_),Bl hi,BC,H7,List.getElem?_map,Option.map_some];rw[show(DZ l[i].ah&&H9 l[i].bd l[i].bp)=Ev l[i]from rfl];by_cases h0:i=0
  ·subst h0;cases Ev l[0]<;>simp
  ·have hp:(i:Int)>0:=by omega
   have Iz:i-1<l.length:=by omega
   have hb:(i==0)=false:=by simpa using h0
   simp only[hp,decide_true,if_true,Vz (Nat.pos_of_ne_zero h0) (by omega:i<=2000000),BZ Iz,Aa,Bl Iz,Option.map_some,BC,hb,Bool.false_or];cases Ev l[i]<;>cases Op.bytesLess l[i-1].ah l[i].ah<;>rfl
def Dg(l:List Ai):Bool:=Jv l&&l.all λw=> !w.bp
theorem aN{l:List Ai}(h:Ja l):ON l=some (Dg l):=by have e1:IY l (λy0_=>Uu y0_)=some (l.any λw=> !!w.bp):=aL _ (λw hw=>by simp[Uu]) (by have:=h.1;omega);simp only[ON,zu3 h,e1,Aa,Dg,<-List.not_all_eq_any_not];cases Jv l<;>simp
theorem mH{l:List Ai}(h:Ja l):Rw l=some (Dg l):=by
 have hn:=h.1;unfold Rw;rw[Pb (xs:=l) (λw=> !w.bp) false (Yy l) (λi hi=>by simp only[Yx,Int.ofNat_lt,hi,decide_true,if_true,BZ hi,Aa,CG hi (by omega:l.length<=_)];cases l[i].bp<;>rfl) (by simp[Yx])]
 simp only[Yy,zvd h,Aa,Dg];cases(l.all λw=> !w.bp)<;>simp
def small(b:UInt8):Bool:= !(decide ((b.toNat:Int)<97)||decide ((b.toNat:Int)>122))
def CO(s:Am)(n:Int):Bool:=s.all small&&C7 s.length 1 n
theorem Zi{s:Am}{n:Int}(h:s.length<=2000000):OD s n=some (CO s n):=by
 unfold OD;rw[Pb (xs:=s) small false (Ye s n) (λi hi=>by simp only[Yd,Int.ofNat_lt,hi,decide_true,if_true,BZ hi,Aa,CG hi (by omega:s.length<=_)];rw[show(decide ((s[i].toNat:Int)<97)||decide ((s[i].toNat:Int)>122))= !small s[i] by simp[small]];cases small s[i]<;>rfl) (by simp[Yd])]
 unfold Ye CO C7;cases s.all small<;>simp
theorem Y7{s:Am}{n:Int}(h:s.length<=2000000):OB s n=some (CO s n):=by
 unfold OB;rw[Pb (xs:=s) small false (Yf s n) (λi hi=>by simp only[Yg,Int.ofNat_lt,hi,decide_true,if_true,BZ hi,Aa,CG hi (by omega:s.length<=_)];rw[show(decide ((s[i].toNat:Int)<97)||decide ((s[i].toNat:Int)>122))= !small s[i] by simp[small]];cases small s[i]<;>rfl) (by simp[Yg])]
 simp only[Yf,Nc,Aa,CO];cases s.all small<;>simp
theorem zzB{xs:List Am}{s:Am}(h:xs.length<=2000000):UA xs s=some (Co (· ==s) xs):=by unfold UA;refine Z1 (· ==s) (λi hi=> ?_) (by simp[Ys]);simp only[Ys,Int.ofNat_lt,hi,decide_true,if_true,BZ hi,Aa,CG hi (by omega:xs.length<=_)];cases xs[i]==s<;>rfl
theorem zvG{xs:List Am}{s:Am}(h:xs.length<=2000000):TJ xs s=some (Co (· ==s) xs):=by unfold TJ;refine Z1 (· ==s) (λi hi=> ?_) (by simp[XU]);simp only[XU,Int.ofNat_lt,hi,decide_true,if_true,BZ hi,Aa,CG hi (by omega:xs.length<=_)];rw[show(s==xs[i])=(xs[i]==s)from BEq.comm];cases xs[i]==s<;>rfl
theorem nJ(xs:List Am)(s:Am):(xs.any λx=>x==s)=xs.contains s:=by rw[List.contains_eq_any_beq];congr 1;funext x;exact BEq.comm
theorem nB{xs:List Am}{s:Am}(h:xs.length<=2000000):Q7 xs s=some (xs.contains s):=by simp only[Q7,zvG h,Aa,ZY,nJ]
def LR(cs:List Am)(i:Nat):Bool:=CO ((cs[i]?).getD []) 3&& !(cs.take i).contains ((cs[i]?).getD [])
def JB(cs:List Am):Bool:=(List.range cs.length).all (LR cs)
def GG(t:Ak)(i:Nat):Bool:=
 let x:=(t.af[i]?).getD ⟨[],0,0⟩
 CO x.ab 1&&C7 x.a7 1 ((t.aq.length:Int)-1)&&C7 x.bf 0 3&&(i==0||Op.bytesLess ((t.af[i-1]?).getD ⟨[],0,0⟩).ab x.ab)
def A4(t:Ak):Bool:=CO t.ab 1&&(JB t.aq&&C7 t.aq.length 2 4)&&decide ((t.af.length:Int)<=3)&&(List.range t.af.length).all (GG t)
structure Eu(t:Ak):Prop where
 name:t.ab.length<=2000000
 ew:t.aq.length<=2000000
 la:∀c∈t.aq,c.length<=2000000
 idxs:t.af.length<=2000000
 idx:∀x∈t.af,x.ab.length<=2000000
theorem NJ{α:Type}(xs:List α)(i:Nat):Bg xs 0 i=xs.take i:=by simp[Bg]
theorem zxQ{cs:List Am}(h:cs.length<=2000000)(hc:∀c∈cs,c.length<=2000000):UJ cs=some (JB cs&&C7 cs.length 2 4):=by
 unfold UJ;rw[LB (n:=cs.length) (LR cs) false (Ym cs) ?_ (by simp[Yo])]
 ·simp only[Ym,VH,Aa,JB];cases(List.range cs.length).all (LR cs)<;>simp
 ·intro i hi;unfold Yo LR;rw[if_pos (by simpa using hi),BZ hi,Aa,Zi (hc _ (Bu hi)),Aa,A7 (by omega),NJ,zzB (by rw[A1];omega),Aa,ZY,nJ,CG hi (by omega)];simp only[Bl hi,BC];cases CO cs[i] 3<;>cases(cs.take i).contains cs[i]<;>rfl
theorem ZN{t:Ak}(h:Eu t):Oz t=some (A4 t):=by
 have hw:=Ch (n:=(t.aq.length:Int)-1) (by omega) (by have:=h.ew;omega);have hn:=h.idxs;have hl:AX (λs:Int=>T1 t s) 0=some ((List.range t.af.length).all (GG t)):=by
  rw[LB (n:=t.af.length) (GG t) false (some true) ?_ (by simp[T1])]
  ·cases(List.range t.af.length).all (GG t)<;>rfl
  ·intro i hi;unfold GG;simp only[T1,Int.ofNat_lt,hi,decide_true,if_true,BZ hi,Aa,Zi (h.idx _ (Bu hi)),VH,hw,CG hi (by omega:t.af.length<=_),Bl hi,BC];by_cases h0:i=0
   ·subst h0;cases CO t.af[0].ab 1<;>cases C7 t.af[0].a7 1 ((t.aq.length:Int)-1)<;>cases C7 t.af[0].bf 0 3<;>rfl
   ·have hp:(i:Int)>0:=by omega
    have Iz:i-1<t.af.length:=by omega
    have hb:(i==0)=false:=by simpa using h0
    simp only[hp,decide_true,if_true,Vz (Nat.pos_of_ne_zero h0) (by omega:i<=2000000),BZ Iz,Aa,Bl Iz,BC,hb,Bool.false_or];cases CO t.af[i].ab 1<;>cases C7 t.af[i].a7 1 ((t.aq.length:Int)-1)<;>cases C7 t.af[i].bf 0 3<;>cases Op.bytesLess t.af[i-1].ab t.af[i].ab<;>rfl
 unfold Oz A4;rw[Zi h.name,Aa,zxQ h.ew h.la,hl];by_cases hk:(t.af.length:Int)<=3
 ·have BH: ¬(t.af.length:Int)>3:=by omega
  simp only[hk,BH,decide_true,decide_false,Bool.or_false,Bool.and_true];cases CO t.ab 1<;>cases(JB t.aq&&C7 t.aq.length 2 4)<;>simp
 ·have BH:(t.af.length:Int)>3:=by omega
  simp only[hk,BH,decide_true,decide_false,Bool.or_true,Bool.and_false,Bool.false_and];cases CO t.ab 1<;>simp
theorem Z6{t:Ak}(h:Eu t):Ow t=some (A4 t):=by
 have hw:=Ch (n:=(t.aq.length:Int)-1) (by omega) (by have:=h.ew;omega);have hn:=h.idxs;have hm:=h.ew;have hl:AX (λs:Int=>T4 t s) 0=some ((List.range t.af.length).all (GG t)):=by
  rw[LB (n:=t.af.length) (GG t) false (some true) ?_ (by simp[T4])]
  ·cases(List.range t.af.length).all (GG t)<;>rfl
  ·intro i hi;unfold GG;simp only[T4,YD,Int.ofNat_lt,hi,decide_true,if_true,BZ hi,Aa,Y7 (h.idx _ (Bu hi)),Nc,hw,CG hi (by omega:t.af.length<=_),Bl hi,BC];by_cases h0:i=0
   ·subst h0;cases CO t.af[0].ab 1<;>cases C7 t.af[0].a7 1 ((t.aq.length:Int)-1)<;>cases C7 t.af[0].bf 0 3<;>rfl
   ·have hp:(i:Int)>0:=by omega
    have Iz:i-1<t.af.length:=by omega
    have hb:(i==0)=false:=by simpa using h0
    simp only[hp,decide_true,if_true,Vz (Nat.pos_of_ne_zero h0) (by omega:i<=2000000),BZ Iz,Aa,Bl Iz,BC,hb,Bool.false_or,LH];cases CO t.af[i].ab 1<;>cases C7 t.af[i].a7 1 ((t.aq.length:Int)-1)<;>cases C7 t.af[i].bf 0 3<;>cases Op.bytesLess t.af[i-1].ab t.af[i].ab<;>rfl
 have hc:AX (λs:Int=>T7 t s) 0=some (JB t.aq&&(List.range t.af.length).all (GG t)):=by
  rw[LB (n:=t.aq.length) (LR t.aq) false (X9 t) ?_ (by simp[T7])]
  ·unfold X9 JB;rw[hl];cases(List.range t.aq.length).all (LR t.aq)<;>simp
  ·intro i hi;unfold T7 LR;rw[if_pos (by simpa using hi),BZ hi,Aa,Y7 (h.la _ (Bu hi)),Aa,A7 (by omega),NJ,nB (by rw[A1];omega),Aa,CG hi (by omega)];simp only[Bl hi,BC];cases CO t.aq[i] 3<;>cases(t.aq.take i).contains t.aq[i]<;>rfl
 unfold Ow A4;rw[Y7 h.name,Aa,Nc,Aa,hc];by_cases hk:(t.af.length:Int)<=3
 ·have BH: ¬(t.af.length:Int)>3:=by omega
  simp only[hk,BH,decide_true,decide_false,Bool.or_false,Bool.and_true];cases CO t.ab 1<;>cases JB t.aq<;>cases C7 t.aq.length 2 4<;>simp
 ·have BH:(t.af.length:Int)>3:=by omega
  simp only[hk,BH,decide_true,decide_false,Bool.or_true,Bool.and_false,Bool.false_and];cases CO t.ab 1<;>simp
theorem aW{t:Ak}{s:Am}(h:Eu t):OM t s=some (Co (λx:Be=>x.ab==s) t.af):=by have hn:=h.idxs;unfold OM;refine Z1 (λx:Be=>x.ab==s) (λi hi=> ?_) (by simp[Yv]);simp only[Yv,Int.ofNat_lt,hi,decide_true,if_true,BZ hi,Aa,CG hi (by omega:t.af.length<=_)];cases t.af[i].ab==s<;>rfl
theorem VE{t:Ak}{s:Am}(h:Eu t):Om t s=some (Co (λx:Be=>x.ab==s) t.af):=by have hn:=h.idxs;have e:E8 t.af (λy0_=>X6 y0_ s)=some (Co (λx:Be=>x.ab==s) t.af):=fP (λx:Be=>x.ab==s) (λx _=>rfl) (by omega);simp only[Om,e,Aa]
def BE(c:UInt8):Am->List Am
 | []=> [[]]
 |b::s=>if b=c then []::BE c s else(match BE c s with| []=> [[b]]|x::xs=>(b::x)::xs)
theorem Vf(c:UInt8)(s:Am):BE c s≠ []:=by
 cases s with
 |nil=>simp[BE]
 |cons b s=>simp only[BE];split;simp;split<;>simp
theorem Jt{c:UInt8}:∀{s:Am},(∀b∈s,b≠c)->BE c s=[s]
 | [],_=>rfl
 |b::s,h=>by have e:=Jt (c:=c) (s:=s) λx hx=>h x (List.mem_cons_of_mem _ hx);simp only[BE,if_neg (h b (by simp)),e]
theorem I0{c:UInt8}:∀{p q:Am},(∀b∈p,b≠c)->BE c (p++c::q)=p::BE c q
 | [],q,_=>by simp[BE]
 |b::p,q,h=>by have e:=I0 (c:=c) (p:=p) (q:=q) λx hx=>h x (List.mem_cons_of_mem _ hx);simp only[List.cons_append,BE,if_neg (h b (by simp)),e]
theorem UX(c:UInt8)(s:Am):(BE c s).length=s.count c+1:=by
 induction s with
 |nil=>rfl
 |cons b s ih=>
  simp only[BE];by_cases h:b=c
  ·subst h;simp[ih]
  ·rw[if_neg h,List.count_cons_of_ne h];cases hs:BE c s with
   |nil=>exact absurd hs (Vf c s)
   |cons x xs=>rw[hs]at ih;simpa using ih
theorem NI{α:Type}(xs:List α)(i j:Nat):Bg xs (i:Int) (j:Int)=(xs.take j).drop i:=by simp[Bg]
def V1(c:UInt8)(s:Am)(t:List Am × Nat)(i:Nat):List Am × Nat:=if(s[i]?).getD 0=c then(t.1++ [(s.take i).drop t.2],i+1)else t
theorem Z9{s:Am}{c:UInt8}(h:s.length<=2000000):Lv s c.toNat=some (BE c s):=by
 have h1:=G6 (xs:=List.range s.length) (body:=λt:List Am × Int × Int=>OF s c.toNat t.1 t.2.1 t.2.2) (λi (t:List Am × Nat)=>(t.1,(t.2:Int),i)) (V1 c s) (λt=>Yj s t.2 t.1)
  (λi t=>t.2<=i/\(∀b∈(s.take i).drop t.2,b≠c)/\t.1++BE c (s.drop t.2)=BE c s/\t.1.length<=i)
  (λi hi t hI=>by
   rw[List.length_range]at hi;obtain⟨I1,I2,I3,I4⟩:=hI;have hw:=CG hi (by omega:s.length<=_);rw[List.getElem_range];constructor
   ·show OF s c.toNat t.1 t.2 i=_;unfold OF V1;rw[if_pos (by simpa using hi),BZ hi,Aa,nW,hw,NI,Bl hi,BC];by_cases hc:s[i]=c
    ·have hr:((t.1.length:Int)+(([(s.take i).drop t.2]:List Am).length:Int))*16<=140737488355328/\(t.1.length:Int)+(([(s.take i).drop t.2]:List Am).length:Int)<=140737488355328:=by
      rw[AL];omega
     rw[if_pos (by simpa using hc),A7 (by omega),A7 hr,if_pos hc]
    ·rw[if_neg (by simpa using hc),if_neg hc]
   ·unfold V1;rw[Bl hi,BC];have Ca:s.take (i+1)=s.take i++ [s[i]]:=by rw[List.take_succ_eq_append_getElem hi]
    have hd:(s.take (i+1)).drop t.2=(s.take i).drop t.2++ [s[i]]:=by rw[Ca,List.drop_append_of_le_length (by rw[A1];omega)]
    by_cases hc:s[i]=c
    ·rw[if_pos hc];refine⟨Ay _,by simp,?_,by simp;omega⟩;have e:s.drop t.2=(s.take i).drop t.2++c::s.drop (i+1):=by
      have e0:s.drop t.2=(s.take i).drop t.2++s.drop i:=by
       conv=>lhs;rw[<-BV i s]
       rw[List.drop_append_of_le_length (by rw[A1];omega)]
      rw[e0,BL hi,hc]
     rw[e,I0 I2]at I3;simpa using I3
    ·rw[if_neg hc];refine⟨by omega,?_,I3,by omega⟩;rw[hd];intro b hb;rcases Ag.1 hb with hb|hb
     ·exact I2 b hb
     ·simp at hb;subst hb;exact hc)
  (λt hI=>by show OF s c.toNat t.1 t.2 ((List.range s.length).length:Nat)=_;unfold OF;rw[if_neg (by simp)]) (s:=([],0)) ⟨Ay _,by simp,by simp,by simp⟩
 generalize (List.range s.length).foldl (V1 c s) ([],0)=t at h1;rw[List.length_range]at h1;obtain⟨h2,I1,I2,I3,I4⟩:=h1;unfold Lv;refine Eq.trans h2 ?_;unfold Yj;have hw:Bg s (t.2:Int) (s.length:Int)=s.drop t.2:=by rw[NI,List.take_length]
 have hr:((t.1.length:Int)+(([s.drop t.2]:List Am).length:Int))*16<=140737488355328/\(t.1.length:Int)+(([s.drop t.2]:List Am).length:Int)<=140737488355328:=by rw[AL];omega
 rw[hw,A7 (by omega),A7 hr,<-I3];rw[List.take_length]at I2;rw[Jt I2]
theorem OJ(l:Am)(c:UInt8):(Lib.indexByte l c= -1/\ ∀b∈l,b≠c)\/ ∃p q:Am,l=p++c::q/\(∀b∈p,b≠c)/\Lib.indexByte l c=p.length:=by
 induction l with
 |nil=>exact .inl ⟨rfl,by simp⟩
 |cons b l ih=>
  unfold Lib.indexByte;by_cases hb:b=c
  ·subst hb;exact .inr ⟨[],l,by simp,by simp,by simp⟩
  ·have h1:(b==c)=false:=by simpa using hb
   rw[h1];simp only[BX,if_false];rcases ih with⟨e,h⟩|⟨p,q,rfl,h,e⟩
   ·refine .inl ⟨by simp[e],λx hx=> ?_⟩;rcases Ad.1 hx with rfl|hx
    ·exact hb
    ·exact h x hx
   ·refine .inr ⟨b::p,q,by simp,λx hx=> ?_,?_⟩
    ·rcases Ad.1 hx with rfl|hx
     ·exact hb
     ·exact h x hx
    ·rw[e];have:((p.length:Int)== -1)=false:=by rw[beq_eq_false_iff_ne];omega
     rw[this];simp
theorem iK{c:UInt8}{s:Am}(h:∀b∈s,b≠c):s.count c=0:=List.count_eq_zero.2 λhc=>h c hc rfl
theorem zwH{c:UInt8}{p q:Am}(h:∀b∈p,b≠c):(p++c::q).count c=q.count c+1:=by rw[List.count_append,iK h,List.count_cons_self];omega
theorem jL{α:Type}{a:List α}{i:Nat}(x:α)(h:i<a.length):(a.set i x).take (i+1)=a.take i++ [x]:=by rw[List.take_succ_eq_append_getElem (by simpa using h),List.getElem_set_self,List.take_set,List.set_eq_of_length_le (by rw[A1];omega)]
theorem zyS{a b:Int}(h: ¬a<b):(bif decide (a<b)then a else b)=b:=by simp[h]
theorem zvW{s:Am}{c:UInt8}(h:s.length<=2000000):Rp s [c]=some (BE c s):=by
 have AF:s.count c<=s.length:=List.count_le_length;have MP:IntKind.i64.wrap ((s.count c:Int)+1)=(s.count c:Int)+1:=Ch (by omega) (by omega);have Jo:IntKind.i64.wrap ((s.length:Int)+1)=(s.length:Int)+1:=Ch (by omega) (by omega);have Mh:(bif decide ((s.length:Int)+1<(s.count c:Int)+1)then(s.length:Int)+1 else(s.count c:Int)+1)=(s.count c:Int)+1:=zyS (by omega);have dN:IntKind.i64.wrap ((s.count c:Int)+1-1)=(s.count c:Int):=by rw[Ch (by omega) (by omega)];omega
 have key:∀(n:Nat) (r:Am) (a:List Am) (i:Nat),r.count c=n->r.length<=s.length->a.length=s.count c+1->i+n=s.count c->a.take i++BE c r=BE c s->
   AX (λt:Am × Int × List Am=>Oo s [c] 0 ((s.count c:Int)+1) t.1 t.2.1 t.2.2) (r,(i:Int),a)=some (BE c s):=by
  intro n
  induction n with
  |zero=>
   intro r a i hr hl ha hi hI;have F7:∀b∈r,b≠c:=λb hb e=>by subst e;exact List.count_eq_zero.1 hr hb
   have Mw:i<a.length:=by omega
   have XD:=CG Mw (by omega);have hb:Oo s [c] 0 ((s.count c:Int)+1) r i a=some (.inr (some (BE c s))):=by unfold Oo;rw[Jo,Mh,dN,if_neg (by simp;omega)];unfold X3;rw[BZ Mw,Aa,XD,FY,A7 (by rw[List.length_set];omega),NJ,jL r Mw,<-hI,Jt F7]
   rw[G8];dsimp only;rw[hb]
  |succ n ih=>
   intro r a i hr hl ha hi hI;rcases OJ r c with⟨_,h0⟩|⟨p,q,rfl,hp,hx⟩
   ·rw[iK h0]at hr;omega
   ·rw[zwH hp]at hr;have Mw:i<a.length:=by omega
    have XD:=CG Mw (by omega);simp only[Ap,Ao]at hl;have Kj:IntKind.i64.wrap ((p.length:Int)+0)=(p.length:Int):=by rw[Ch (by omega) (by omega)];omega
    have E5:IntKind.i64.wrap ((p.length:Int)+(([c]:Am).length:Int))=((p.length+1:Nat):Int):=by rw[AL,Ch (by omega) (by omega)];omega
    have hb:Oo s [c] 0 ((s.count c:Int)+1) (p++c::q) i a=some (.inl (q,((i+1:Nat):Int),a.set i p)):=by
     unfold Oo;have IA:Us (p++c::q) [c]=some (p.length:Int):=by simp[Us,N6,hx]
     rw[Jo,Mh,dN,if_pos (by simp;omega),IA,Aa,if_neg (by simp),Kj,A7 (by rw[Ap];omega),BZ Mw,Aa,E5,A7 (by rw[Ap,Ao];omega),XD,FY,NI,NJ,List.take_length];have e1:(p++c::q).drop (p.length+1)=q:=by simp
     have e2:(p++c::q).take p.length=p:=by simp
     rw[e1,e2]
    rw[G8];dsimp only;rw[hb];refine ih q (a.set i p) (i+1) (by omega) (by omega) (by simpa using ha) (by omega) ?_;rw[jL p Mw,<-hI,I0 hp];simp
 have BG:Ua s [c]=some ((s.count c:Nat):Int):=rfl;have hz:(((-1:Int))==0)=false:=rfl;have BI:(([c]:Am)==([]:Am))=false:=rfl;unfold Rp Yq;rw[hz,BI,if_neg (by simp),if_neg (by simp),if_pos (by simp),BG,Aa,MP];unfold X4;rw[Jo,Mh,A7 (by omega)];exact zxp (key (s.count c) s (List.replicate ((s.count c:Int)+1).toNat []) 0 rfl (Ay _) (by simp) (by omega) (by simp))
def field(s:Am):Bool:=C7 s.length 1 3&&I9 s []
theorem Jz{s:Am}(h:s.length<=2000000):IU s=some (field s):=by simp only[IU,VH,Aa,Zt h (more:=[]) (by decide),field];cases C7 s.length 1 3<;>simp
theorem I5{s:Am}(h:s.length<=2000000):IX s=some (field s):=by simp only[IX,Nc,Aa,Zj h,field];cases C7 s.length 1 3<;>simp
theorem ztI(sep x y:Am)(r:List Am):Lib.join (x::(r++ [y])) sep=Lib.join (x::r) sep++sep++y:=by rw[Lib.join_cons,Lib.join_cons];simp[Lib.joinTail]
theorem zug{xs:List Am}{sep:Am}{i:Nat}(hi:i<xs.length):Lib.join (xs.take (i+1)) sep=if i=0 then xs[i]else Lib.join (xs.take i) sep++sep++xs[i]:=by
 rw[List.take_succ_eq_append_getElem hi];cases xs with
 |nil=>simp at hi
 |cons x xs=>
  cases i with
  |zero=>simp[Lib.join_cons,Lib.joinTail]
  |succ i=>rw[List.take_succ_cons,List.cons_append,ztI,if_neg (by omega)]
def D1:List Am->Nat
 | []=>0
 |x::xs=>x.length+D1 xs
theorem ZL(xs:List Am)(sep:Am):(Lib.join xs sep).length<=D1 xs+xs.length*sep.length:=by
 cases xs with
 |nil=>simp[Lib.join_nil]
 |cons x xs=>
  rw[Lib.join_cons,Ap];have:∀r:List Am,(Lib.joinTail sep r).length=D1 r+r.length*sep.length:=by
   intro r
   induction r with
   |nil=>simp[Lib.joinTail,D1]
   |cons y r ih=>
    have e:Lib.joinTail sep (y::r)=sep++y++Lib.joinTail sep r:=by simp[Lib.joinTail]
    rw[e,Ap,Ap,ih,D1,Ao,Nat.succ_mul];omega
  rw[this,D1,Ao,Nat.succ_mul];omega
theorem yS(xs:List Am)(i:Nat):D1 (xs.take i)<=D1 xs:=by
 induction xs generalizing i with
 |nil=>simp[D1]
 |cons x xs ih=>
  cases i with
  |zero=>simp[D1]
  |succ i=>simp only[List.take_succ_cons,D1];have:=ih i;omega
theorem iC{xs:List Am}{i:Nat}(hi:i<xs.length):xs[i].length<=D1 xs:=by
 induction xs generalizing i with
 |nil=>simp at hi
 |cons x xs ih=>
  cases i with
  |zero=>simp[D1]
  |succ i=>simp only[List.getElem_cons_succ,D1];have:=ih (i:=i) (by simpa using hi);omega
def Small(xs:List Am):Prop:=xs.length<=2000000/\D1 xs<=2000000
theorem zxZ{xs:List Am}{c:UInt8}(h:Small xs):YF xs [c]=some (Lib.join xs [c]):=by
 obtain⟨h1,h2⟩:=h;have hl:=G6 (xs:=List.range xs.length) (body:=λs:Am × Int=>OG xs [c] s.1 s.2) (λi (o:Am)=>(o,i)) (λo i=>if i=0 then(xs[i]?).getD []else o++ [c]++(xs[i]?).getD []) (λo=>some o) (λi o=>o=Lib.join (xs.take i) [c])
  (λi hi o hI=>by
   rw[List.length_range]at hi;rw[List.getElem_range];have hI:o=Lib.join (xs.take i) [c]:=hI;have hlen:o.length<=1010000000:=by have e1:=ZL (xs.take i) [c];have e2:=yS xs i;rw[A1,AL,Nat.mul_one]at e1;rw[hI];omega
   have hg:=iC hi;have hw:=CG hi (by omega:xs.length<=_);rw[Bl hi,BC];refine⟨?_,by show _=_;rw[zug hi,hI]⟩;show OG xs [c] o i=_;unfold OG;rw[if_pos (by simpa using hi),BZ hi,Aa,hw];by_cases h0:i=0
   ·subst h0;have ho:o=[]:=by rw[hI];rfl
    subst ho;rw[if_neg (by simp),A7 (by simp;omega),if_pos rfl];rfl
   ·rw[if_pos (by simp;omega),A7 (by rw[AL];omega),A7 (by rw[Ap,AL];omega),if_neg h0])
  (λo _=>by show OG xs [c] o ((List.range xs.length).length:Nat)=_;unfold OG;rw[if_neg (by simp)]) (s:=[]) (by simp[Lib.join_nil])
 generalize (List.range xs.length).foldl (λo i=>if i=0 then(xs[i]?).getD []else o++ [c]++(xs[i]?).getD []) []=o at hl;obtain⟨h3,h4⟩:=hl;have h4:o=Lib.join (xs.take (List.range xs.length).length) [c]:=h4;rw[List.length_range,List.take_length]at h4;subst h4;exact h3
theorem zxm{xs:List Am}{c:UInt8}(h:Small xs):UL xs [c]=some (Lib.join xs [c]):=by obtain⟨h1,h2⟩:=h;have:=ZL xs [c];rw[AL,Nat.mul_one]at this;exact A7 ⟨by omega,by omega⟩
end
end Go.Proofs.YtkpifpljpoochaaGreatDoor
