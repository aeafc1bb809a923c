/- Parts of a proof, joined: QM, QF1, QF2, QF3, QR, ND, NE. -/
import Derived.Test.YtollgpkegmbpmaaGreatDoorD7
set_option linter.unusedVariables false
set_option linter.unusedSimpArgs false
noncomputable section
namespace Go.Proofs.YtollgpkegmbpmaaGreatDoor
open Go.RowKit
set_option maxRecDepth 100000
set_option maxHeartbeats 4000000
abbrev Aa:=List UInt8
def RC (a0:AH):Option (Int × AH):=
 if(decide (a0.ch<(a0.ay.length:Int)))then
  (getI a0.ay a0.ch).bind fun y1=>
  if(decide ((IntKind.i64.wrap (a0.ch+1))≤(a0.ay.length:Int)))then
   some ((IntKind.i64.wrap y1),(⟨a0.ay,(IntKind.i64.wrap (a0.ch+1)),(IntKind.u64.wrap ((IntKind.u64.wrap ((IntKind.u64.wrap (a0.az*6364136223846793005))+(IntKind.u64.wrap (IntKind.i64.wrap y1))))+1442695040888963407))⟩:AH))
  else
   some ((IntKind.i64.wrap (IntKind.u64.wrap ((BitVec.ofInt (IntKind.bits .u64) (Int.fdiv (IntKind.u64.wrap ((IntKind.u64.wrap ((IntKind.u64.wrap (a0.az*6364136223846793005))+(IntKind.u64.wrap (IntKind.i64.wrap y1))))+1442695040888963407)) (2^(min ((40:Int)).toNat (IntKind.bits .u64))))&&&BitVec.ofInt (IntKind.bits .u64) 255).toNat:Int))),(⟨a0.ay,(IntKind.i64.wrap (a0.ch+1)),(IntKind.u64.wrap ((IntKind.u64.wrap ((IntKind.u64.wrap (a0.az*6364136223846793005))+(IntKind.u64.wrap (IntKind.i64.wrap y1))))+1442695040888963407))⟩:AH))
 else
  if(decide ((IntKind.i64.wrap (a0.ch+1))≤(a0.ay.length:Int)))then
   some (0,(⟨a0.ay,(IntKind.i64.wrap (a0.ch+1)),(IntKind.u64.wrap ((IntKind.u64.wrap ((IntKind.u64.wrap (a0.az*6364136223846793005))+(IntKind.u64.wrap 0)))+1442695040888963407))⟩:AH))
  else
   some ((IntKind.i64.wrap (IntKind.u64.wrap ((BitVec.ofInt (IntKind.bits .u64) (Int.fdiv (IntKind.u64.wrap ((IntKind.u64.wrap ((IntKind.u64.wrap (a0.az*6364136223846793005))+(IntKind.u64.wrap 0)))+1442695040888963407)) (2^(min ((40:Int)).toNat (IntKind.bits .u64))))&&&BitVec.ofInt (IntKind.bits .u64) 255).toNat:Int))),(⟨a0.ay,(IntKind.i64.wrap (a0.ch+1)),(IntKind.u64.wrap ((IntKind.u64.wrap ((IntKind.u64.wrap (a0.az*6364136223846793005))+(IntKind.u64.wrap 0)))+1442695040888963407))⟩:AH))
def DQ (a0:AH) (a1:Int):Option (Int × AH):=
 if(decide (a1≤1))then
  some (0,a0)
 else
  (RC a0).bind fun v1=>
  if(decide (a1>200))then
   (RC v1.2).bind fun v2=>
   req (a1≠0)<|
   some ((Int.tmod (IntKind.i64.wrap ((IntKind.i64.wrap (v1.1*256))+v2.1)) a1),(⟨v2.2.ay,v2.2.ch,v2.2.az⟩:AH))
  else
   req (a1≠0)<|
   some ((Int.tmod v1.1 a1),(⟨v1.2.ay,v1.2.ch,v1.2.az⟩:AH))
def FI (a0:AH) (a1:List (Aa)):Option (Aa × AH):=
 (DQ a0 (a1.length:Int)).bind fun v1=>
 (getI a1 v1.1).bind fun y2=>
 some (y2,v1.2)
def HX (a0:AH) (a1:Int):Option (Bool × AH):=
 (DQ a0 a1).bind fun v1=>
 some ((v1.1==0),v1.2)
def Rw (v2:Int × AH) (v3:Int) (v7:List AX) (y8:Aa) (v9:List Int) (v10 v11:Int) (v12:Bool):Option ((Int × List Int × Int × Int × List AX) ⊕ Option (Aj × AH)):=
 if v12 then
  (DQ (⟨v9,v10,v11⟩:AH) (IntKind.i64.wrap (((AR [([107]:Aa),([97]:Aa),([98]:Aa),([99,99]:Aa)] 0 (IntKind.i64.wrap ((2:Int)+v2.1))).length:Int)-1))).bind fun v13=>
  (DQ v13.2 4).bind fun v14=>
  req ((((v7).length:Int)+(([(⟨y8,(IntKind.i64.wrap ((1:Int)+v13.1)),v14.1⟩:AX)]:List AX).length:Int))*32≤140737488355328∧((v7).length:Int)+(([(⟨y8,(IntKind.i64.wrap ((1:Int)+v13.1)),v14.1⟩:AX)]:List AX).length:Int)≤140737488355328)<|
  some (.inl ((IntKind.i64.wrap (v3+1)),v14.2.ay,v14.2.ch,v14.2.az,(v7++ [(⟨y8,(IntKind.i64.wrap ((1:Int)+v13.1)),v14.1⟩:AX)])))
 else
  some (.inl ((IntKind.i64.wrap (v3+1)),v9,v10,v11,v7))
def jS (v1:Aa × AH) (v2:Int × AH) (v3:Int) (v4:List Int) (v5 v6:Int) (v7:List AX):Option ((Int × List Int × Int × Int × List AX) ⊕ Option (Aj × AH)):=
 if(decide (v3<([([105]:Aa),([106]:Aa),([109]:Aa)].length:Int)))then
  (getI [([105]:Aa),([106]:Aa),([109]:Aa)] v3).bind fun y8=>
  (HX (⟨v4,v5,v6⟩:AH) 3).bind fun v15=>
  if(!v15.1)then
   Rw v2 v3 v7 y8 v15.2.ay v15.2.ch v15.2.az true
  else
   if(y8==([105]:Aa))then
    (HX v15.2 8).bind fun v16=>
    Rw v2 v3 v7 y8 v16.2.ay v16.2.ch v16.2.az (!v16.1)
   else
    Rw v2 v3 v7 y8 v15.2.ay v15.2.ch v15.2.az false
 else
  some (.inr (some ((⟨v1.1,(AR [([107]:Aa),([97]:Aa),([98]:Aa),([99,99]:Aa)] 0 (IntKind.i64.wrap ((2:Int)+v2.1))),v7⟩:Aj),(⟨v4,v5,v6⟩:AH))))
def Ro (a0:AH):Option (Aj × AH):=
 (FI a0 ([([116]:Aa),([117]:Aa)]:List (Aa))).bind fun v1=>
 (DQ v1.2 3).bind fun v2=>
 req (0≤(0:Int)∧(0:Int)≤(IntKind.i64.wrap ((2:Int)+v2.1))∧(IntKind.i64.wrap ((2:Int)+v2.1))≤(([([107]:Aa),([97]:Aa),([98]:Aa),([99,99]:Aa)]:List (Aa)).length:Int))<|
 req (((([]:List (Aa)).length:Int)+(((AR [([107]:Aa),([97]:Aa),([98]:Aa),([99,99]:Aa)] 0 (IntKind.i64.wrap ((2:Int)+v2.1)))).length:Int))*16≤140737488355328∧(([]:List (Aa)).length:Int)+(((AR [([107]:Aa),([97]:Aa),([98]:Aa),([99,99]:Aa)] 0 (IntKind.i64.wrap ((2:Int)+v2.1)))).length:Int)≤140737488355328)<|
 AN (fun s:Int × List Int × Int × Int × List AX=>jS v1 v2 s.1 s.2.1 s.2.2.1 s.2.2.2.1 s.2.2.2.2) (0,v2.2.ay,v2.2.ch,v2.2.az, [])
def jZ (a1:Aj) (v2:List Int) (v3 v4:Int) (v5:List (Aa)):Option ((List Int × Int × Int × List (Aa)) ⊕ Option (An × AH)):=
 if(decide ((v5.length:Int)<(a1.ax.length:Int)))then
  (FI (⟨v2,v3,v4⟩:AH) ([([120]:Aa),([121]:Aa),([120]:Aa),([48]:Aa),([97,98,99]:Aa)]:List (Aa))).bind fun v6=>
  req ((((v5).length:Int)+(([v6.1]:List (Aa)).length:Int))*16≤140737488355328∧((v5).length:Int)+(([v6.1]:List (Aa)).length:Int)≤140737488355328)<|
  some (.inl (v6.2.ay,v6.2.ch,v6.2.az,(v5++ [v6.1])))
 else
  some (.inr (some ((⟨v5⟩:An),(⟨v2,v3,v4⟩:AH))))
def Lt (a0:AH) (a1:Aj):Option (An × AH):=
 (FI a0 ([([49]:Aa),([50]:Aa),([51]:Aa),([97]:Aa),([122,122]:Aa),([97,98,99]:Aa)]:List (Aa))).bind fun v1=>
 AN (fun s:List Int × Int × Int × List (Aa)=>jZ a1 s.1 s.2.1 s.2.2.1 s.2.2.2) (v1.2.ay,v1.2.ch,v1.2.az, [v1.1])
def OU (a0:List (Aa)) (a1 v1:Aa) (v2:Int):Option ((Aa × Int) ⊕ Option (Aa)):=
 if(decide (v2<(a0.length:Int)))then
  (getI a0 v2).bind fun y3=>
  if(decide (v2>0))then
   req ((v1).length+(a1).length≤9223372036854775807)<|
   req (((v1++a1)).length+(y3).length≤9223372036854775807)<|
   some (.inl (((v1++a1)++y3),(IntKind.i64.wrap (v2+1))))
  else
   req ((v1).length+(y3).length≤9223372036854775807)<|
   some (.inl ((v1++y3),(IntKind.i64.wrap (v2+1))))
 else
  some (.inr (some v1))
def RM (a0:List (Aa)) (a1:Aa):Option (Aa):=
 AN (fun s:Aa × Int=>OU a0 a1 s.1 s.2) (([]:Aa),0)
def Lv (a0:Aj) (a1:An):Option (Ac):=
 req ((a0.ae).length+(([47]:Aa)).length≤9223372036854775807)<|
 (getI a1.ah 0).bind fun y1=>
 req (((a0.ae++([47]:Aa))).length+(y1).length≤9223372036854775807)<|
 req (0≤(1:Int)∧(1:Int)≤(a1.ah.length:Int)∧(a1.ah.length:Int)≤(a1.ah.length:Int))<|
 (RM (AR a1.ah 1 (a1.ah.length:Int)) ([44]:Aa)).bind fun v2=>
 some (⟨((a0.ae++([47]:Aa))++y1),v2,false⟩:Ac)
def UB (a0:List Ac) (a1:Ac) (v1:Int):Option (List Ac):=
 if(decide (v1>0))then
  (getI a0 (IntKind.i64.wrap (v1-1))).bind fun y2=>
  if(y2.ab==a1.ab)then
   req (((([]:List Ac).length:Int)+((a0).length:Int))*40≤140737488355328∧(([]:List Ac).length:Int)+((a0).length:Int)≤140737488355328)<|
   (getI a0 (IntKind.i64.wrap (v1-1))).bind fun y3=>
   some (a0.set ((IntKind.i64.wrap (v1-1))).toNat a1)
  else
   req (0≤v1∧v1≤(a0.length:Int)∧(a0.length:Int)≤(a0.length:Int))<|
   req (((([]:List Ac).length:Int)+(((AR a0 v1 (a0.length:Int))).length:Int))*40≤140737488355328∧(([]:List Ac).length:Int)+(((AR a0 v1 (a0.length:Int))).length:Int)≤140737488355328)<|
   req (0≤(0:Int)∧(0:Int)≤v1∧v1≤(a0.length:Int))<|
   req (((([]:List Ac).length:Int)+(((AR a0 0 v1)).length:Int))*40≤140737488355328∧(([]:List Ac).length:Int)+(((AR a0 0 v1)).length:Int)≤140737488355328)<|
   req (((((AR a0 0 v1)).length:Int)+(([a1]:List Ac).length:Int))*40≤140737488355328∧(((AR a0 0 v1)).length:Int)+(([a1]:List Ac).length:Int)≤140737488355328)<|
   req ((((((AR a0 0 v1)++ [a1])).length:Int)+(((AR a0 v1 (a0.length:Int))).length:Int))*40≤140737488355328∧((((AR a0 0 v1)++ [a1])).length:Int)+(((AR a0 v1 (a0.length:Int))).length:Int)≤140737488355328)<|
   some (((AR a0 0 v1)++ [a1])++(AR a0 v1 (a0.length:Int)))
 else
  req (0≤v1∧v1≤(a0.length:Int)∧(a0.length:Int)≤(a0.length:Int))<|
  req (((([]:List Ac).length:Int)+(((AR a0 v1 (a0.length:Int))).length:Int))*40≤140737488355328∧(([]:List Ac).length:Int)+(((AR a0 v1 (a0.length:Int))).length:Int)≤140737488355328)<|
  req (0≤(0:Int)∧(0:Int)≤v1∧v1≤(a0.length:Int))<|
  req (((([]:List Ac).length:Int)+(((AR a0 0 v1)).length:Int))*40≤140737488355328∧(([]:List Ac).length:Int)+(((AR a0 0 v1)).length:Int)≤140737488355328)<|
  req (((((AR a0 0 v1)).length:Int)+(([a1]:List Ac).length:Int))*40≤140737488355328∧(((AR a0 0 v1)).length:Int)+(([a1]:List Ac).length:Int)≤140737488355328)<|
  req ((((((AR a0 0 v1)++ [a1])).length:Int)+(((AR a0 v1 (a0.length:Int))).length:Int))*40≤140737488355328∧((((AR a0 0 v1)++ [a1])).length:Int)+(((AR a0 v1 (a0.length:Int))).length:Int)≤140737488355328)<|
  some (((AR a0 0 v1)++ [a1])++(AR a0 v1 (a0.length:Int)))
def Na (a0:List Ac) (a1:Ac) (v4:Int):Option ((Int) ⊕ Option (List Ac)):=
 if(decide (v4>0))then
  (getI a0 (IntKind.i64.wrap (v4-1))).bind fun y5=>
  if(!(Op.bytesLess y5.ab a1.ab||y5.ab==a1.ab))then
   some (.inl (IntKind.i64.wrap (v4-1)))
  else
   some (.inr (UB a0 a1 v4))
 else
  some (.inr (UB a0 a1 v4))
def G1 (a0:List Ac) (a1:Ac):Option (List Ac):=
 AN (fun s:Int=>Na a0 a1 s) (a0.length:Int)
def Zv (a0:Aa) (v1:Int) (v2:List (Aa)):Option (List (Aa)):=
 req (0≤v1∧v1≤(a0.length:Int)∧(a0.length:Int)≤(a0.length:Int))<|
 req ((((v2).length:Int)+(([(AR a0 v1 (a0.length:Int))]:List (Aa)).length:Int))*16≤140737488355328∧((v2).length:Int)+(([(AR a0 v1 (a0.length:Int))]:List (Aa)).length:Int)≤140737488355328)<|
 some (v2++ [(AR a0 v1 (a0.length:Int))])
def Pb (a0:Aa) (a1:Int) (v3:List (Aa)) (v4 v5:Int):Option ((List (Aa) × Int × Int) ⊕ Option (List (Aa))):=
 if(decide (v5<(a0.length:Int)))then
  (getI a0 v5).bind fun y6=>
  if((y6.toNat:Int)==a1)then
   req (0≤v4∧v4≤v5∧v5≤(a0.length:Int))<|
   req ((((v3).length:Int)+(([(AR a0 v4 v5)]:List (Aa)).length:Int))*16≤140737488355328∧((v3).length:Int)+(([(AR a0 v4 v5)]:List (Aa)).length:Int)≤140737488355328)<|
   some (.inl ((v3++ [(AR a0 v4 v5)]),(IntKind.i64.wrap (v5+1)),(IntKind.i64.wrap (v5+1))))
  else
   some (.inl (v3,v4,(IntKind.i64.wrap (v5+1))))
 else
  some (.inr (Zv a0 v4 v3))
def HW (a0:Aa) (a1:Int):Option (List (Aa)):=
 AN (fun s:List (Aa) × Int × Int=>Pb a0 a1 s.1 s.2.1 s.2.2) ([],0,0)
def IT (a0 a1 a2:Int):Option (Bool):=
 some ((decide (a0≥a1))&&(decide (a0≤a2)))
def Zs (v1:Int) (v3:Bool):Option ((Int) ⊕ Option (Bool)):=
 if(!v3)then
  some (.inr (some false))
 else
  some (.inl (IntKind.i64.wrap (v1+1)))
def RG (a1:Aa) (v1:Int) (y2:UInt8) (v4:Bool) (v5:Int):Option ((Bool × Int) ⊕ Option ((Int) ⊕ Option (Bool))):=
 if(decide (v5<(a1.length:Int)))then
  if v4 then
   some (.inl (true,(IntKind.i64.wrap (v5+1))))
  else
   (getI a1 v5).bind fun y6=>
   some (.inl (((y2.toNat:Int)==(y6.toNat:Int)),(IntKind.i64.wrap (v5+1))))
 else
  some (.inr (Zs v1 v4))
def Zu (a0 a1:Aa) (v1:Int):Option ((Int) ⊕ Option (Bool)):=
 if(decide (v1<(a0.length:Int)))then
  (getI a0 v1).bind fun y2=>
  AN (fun s:Bool × Int=>RG a1 v1 y2 s.1 s.2) ((((decide ((y2.toNat:Int)≥97))&&(decide ((y2.toNat:Int)≤122)))||((decide ((y2.toNat:Int)≥48))&&(decide ((y2.toNat:Int)≤57)))),0)
 else
  some (.inr (some true))
def Pd (a0 a1:Aa):Option (Bool):=
 AN (fun s:Int=>Zu a0 a1 s) 0
def Kl (a0:Aa):Option (Bool):=
 (IT (a0.length:Int) 1 3).bind fun v1=>
 if v1 then
  (Pd a0 ([]:Aa)).bind fun v2=>
  some v2
 else
  some false
def Zx (a0:Aj) (a1:An):Option (Bool):=
 some ((a1.ah.length:Int)==(a0.ax.length:Int))
def Zw (a0:Aj) (a1:An) (v1:Int):Option ((Int) ⊕ Option (Bool)):=
 if(decide (v1<(a1.ah.length:Int)))then
  (getI a1.ah v1).bind fun y2=>
  (Kl y2).bind fun v3=>
  if(!v3)then
   some (.inr (some false))
  else
   some (.inl (IntKind.i64.wrap (v1+1)))
 else
  some (.inr (Zx a0 a1))
def Ly (a0:Aj) (a1:An):Option (Bool):=
 AN (fun s:Int=>Zw a0 a1 s) 0
def U7 (a0:Aj) (a1:Ac):Option (An × Bool):=
 if(decide ((a1.ab.length:Int)<3))then
  some ((⟨[]⟩:An),false)
 else
  req (0≤(2:Int)∧(2:Int)≤(a1.ab.length:Int)∧(a1.ab.length:Int)≤(a1.ab.length:Int))<|
  (HW a1.aw 44).bind fun v1=>
  req (((([(AR a1.ab 2 (a1.ab.length:Int))]:List (Aa)).length:Int)+((v1).length:Int))*16≤140737488355328∧(([(AR a1.ab 2 (a1.ab.length:Int))]:List (Aa)).length:Int)+((v1).length:Int)≤140737488355328)<|
  (Ly a0 (⟨([(AR a1.ab 2 (a1.ab.length:Int))]++v1)⟩:An)).bind fun v2=>
  if v2 then
   (Lv a0 (⟨([(AR a1.ab 2 (a1.ab.length:Int))]++v1)⟩:An)).bind fun v3=>
   some ((⟨([(AR a1.ab 2 (a1.ab.length:Int))]++v1)⟩:An),(v3.ab==a1.ab&&(v3.aw==a1.aw&&(v3.a8==a1.a8))))
  else
   some ((⟨([(AR a1.ab 2 (a1.ab.length:Int))]++v1)⟩:An),false)
def Pa (a0:Aj) (a1:List Ac) (v1:List An) (v2:Int):Option ((List An × Int) ⊕ Option (List An)):=
 if(decide (v2<(a1.length:Int)))then
  (getI a1 v2).bind fun y3=>
  (U7 a0 y3).bind fun v4=>
  if v4.2 then
   req ((((v1).length:Int)+(([v4.1]:List An).length:Int))*24≤140737488355328∧((v1).length:Int)+(([v4.1]:List An).length:Int)≤140737488355328)<|
   some (.inl ((v1++ [v4.1]),(IntKind.i64.wrap (v2+1))))
  else
   some (.inl (v1,(IntKind.i64.wrap (v2+1))))
 else
  some (.inr (some v1))
def RH (a0:Aj) (a1:List Ac):Option (List An):=
 AN (fun s:List An × Int=>Pa a0 a1 s.1 s.2) ([],0)
def Lw (a0:Aj) (a1:AX) (a2:An):Option (Aa):=
 req ((a0.ae).length+(([46]:Aa)).length≤9223372036854775807)<|
 req (((a0.ae++([46]:Aa))).length+(a1.ae).length≤9223372036854775807)<|
 req ((((a0.ae++([46]:Aa))++a1.ae)).length+(([47]:Aa)).length≤9223372036854775807)<|
 (getI a2.ah a1.cy).bind fun y1=>
 req (((((a0.ae++([46]:Aa))++a1.ae)++([47]:Aa))).length+(y1).length≤9223372036854775807)<|
 req ((((((a0.ae++([46]:Aa))++a1.ae)++([47]:Aa))++y1)).length+(([47]:Aa)).length≤9223372036854775807)<|
 (getI a2.ah 0).bind fun y2=>
 req (((((((a0.ae++([46]:Aa))++a1.ae)++([47]:Aa))++y1)++([47]:Aa))).length+(y2).length≤9223372036854775807)<|
 some ((((((a0.ae++([46]:Aa))++a1.ae)++([47]:Aa))++y1)++([47]:Aa))++y2)
def Uv (a0:AH):Option (Aa × AH):=
 (FI a0 ([([97]:Aa),([98]:Aa),([99]:Aa),([109]:Aa),([110]:Aa),([122]:Aa),([114,47,49]:Aa),([105,47,120,47,49]:Aa)]:List (Aa))).bind fun v1=>
 some (v1.1,v1.2)
def Uw (a0:AH):Option (Aa × AH):=
 (FI a0 ([([]:Aa),([49]:Aa),([55]:Aa),([49,48]:Aa),([45,51]:Aa),([120]:Aa),([97,44,98,95,99]:Aa)]:List (Aa))).bind fun v1=>
 some (v1.1,v1.2)
def Y6 (v6:List Int) (v7 v8:Int) (v9:List Ac):Option (List Ac × AH):=
 (HX (⟨v6,v7,v8⟩:AH) 6).bind fun v10=>
 if v10.1 then
  (Uv v10.2).bind fun v11=>
  (Uw v11.2).bind fun v12=>
  (G1 v9 (⟨v11.1,v12.1,false⟩:Ac)).bind fun v13=>
  some (v13,(⟨v12.2.ay,v12.2.ch,v12.2.az⟩:AH))
 else
  some (v9,(⟨v10.2.ay,v10.2.ch,v10.2.az⟩:AH))
def Y8 (a1:Aj) (v14:Int) (y19:AX) (v21:List Int) (v22 v23:Int) (v24:List Ac):Option ((Int × List Int × Int × Int × List Ac) ⊕ Option (List Ac × AH)):=
 (HX (⟨v21,v22,v23⟩:AH) 5).bind fun v25=>
 if v25.1 then
  (Lt v25.2 a1).bind fun v26=>
  (Lw a1 y19 v26.1).bind fun v27=>
  (G1 v24 (⟨v27,([]:Aa),false⟩:Ac)).bind fun v28=>
  some (.inl ((IntKind.i64.wrap (v14+1)),v26.2.ay,v26.2.ch,v26.2.az,v28))
 else
  some (.inl ((IntKind.i64.wrap (v14+1)),v25.2.ay,v25.2.ch,v25.2.az,v24))
def jT (a1:Aj) (v14:Int) (y19:AX) (v20:List An) (v29:Int) (v30:List Int) (v31 v32:Int) (v33:List Ac):Option ((Int × List Int × Int × Int × List Ac) ⊕ Option ((Int × List Int × Int × Int × List Ac) ⊕ Option (List Ac × AH))):=
 if(decide (v29<(v20.length:Int)))then
  (getI v20 v29).bind fun y34=>
  (HX (⟨v30,v31,v32⟩:AH) 5).bind fun v35=>
  if(!v35.1)then
   (Lw a1 y19 y34).bind fun v36=>
   (G1 v33 (⟨v36,([]:Aa),false⟩:Ac)).bind fun v37=>
   some (.inl ((IntKind.i64.wrap (v29+1)),v35.2.ay,v35.2.ch,v35.2.az,v37))
  else
   some (.inl ((IntKind.i64.wrap (v29+1)),v35.2.ay,v35.2.ch,v35.2.az,v33))
 else
  some (.inr (Y8 a1 v14 y19 v30 v31 v32 v33))
def jR (a1:Aj) (v14:Int) (v15:List Int) (v16 v17:Int) (v18:List Ac):Option ((Int × List Int × Int × Int × List Ac) ⊕ Option (List Ac × AH)):=
 if(decide (v14<(a1.aj.length:Int)))then
  (getI a1.aj v14).bind fun y19=>
  (RH a1 v18).bind fun v20=>
  AN (fun s:Int × List Int × Int × Int × List Ac=>jT a1 v14 y19 v20 s.1 s.2.1 s.2.2.1 s.2.2.2.1 s.2.2.2.2) (0,v15,v16,v17,v18)
 else
  some (.inr (Y6 v15 v16 v17 v18))
def Y4 (a1:Aj) (v2:List Int) (v3 v4:Int) (v5:List Ac):Option (List Ac × AH):=
 AN (fun s:Int × List Int × Int × Int × List Ac=>jR a1 s.1 s.2.1 s.2.2.1 s.2.2.2.1 s.2.2.2.2) (0,v2,v3,v4,v5)
def jU (a1:Aj) (v38:List Ac) (v39:Int) (v40:List Int) (v41 v42:Int):Option ((List Ac × Int × List Int × Int × Int) ⊕ Option (List Ac × AH)):=
 if(decide (v39>0))then
  (Lt (⟨v40,v41,v42⟩:AH) a1).bind fun v43=>
  (Lv a1 v43.1).bind fun v44=>
  (G1 v38 v44).bind fun v45=>
  some (.inl (v45,(IntKind.i64.wrap (v39-1)),v43.2.ay,v43.2.ch,v43.2.az))
 else
  some (.inr (Y4 a1 v40 v41 v42 v38))
def Ug (a0:AH) (a1:Aj):Option (List Ac × AH):=
 (DQ a0 5).bind fun v1=>
 AN (fun s:List Ac × Int × List Int × Int × Int=>jU a1 s.1 s.2.1 s.2.2.1 s.2.2.2.1 s.2.2.2.2) ([],v1.1,v1.2.ay,v1.2.ch,v1.2.az)
def Ua (a0:AH) (a1:Aj):Option (List Ac × AH):=
 (Ug a0 a1).bind fun v1=>
 (DQ v1.2 12).bind fun v2=>
 if(v2.1==0)then
  req ((((v1.1).length:Int)+(([(⟨([97]:Aa),([33]:Aa),false⟩:Ac)]:List Ac).length:Int))*40≤140737488355328∧((v1.1).length:Int)+(([(⟨([97]:Aa),([33]:Aa),false⟩:Ac)]:List Ac).length:Int)≤140737488355328)<|
  some ((v1.1++ [(⟨([97]:Aa),([33]:Aa),false⟩:Ac)]),(⟨v2.2.ay,v2.2.ch,v2.2.az⟩:AH))
 else
  if(v2.1==1)then
   req ((a1.ae).length+(([47]:Aa)).length≤9223372036854775807)<|
   (FI v2.2 ([([97,98,99,100]:Aa),([97]:Aa),([49]:Aa)]:List (Aa))).bind fun v3=>
   req (((a1.ae++([47]:Aa))).length+(v3.1).length≤9223372036854775807)<|
   (FI v3.2 ([([120]:Aa),([120,44,44,121]:Aa),([]:Aa),([120,44,121,44,122]:Aa)]:List (Aa))).bind fun v4=>
   (G1 v1.1 (⟨((a1.ae++([47]:Aa))++v3.1),v4.1,false⟩:Ac)).bind fun v5=>
   some (v5,(⟨v4.2.ay,v4.2.ch,v4.2.az⟩:AH))
  else
   if(v2.1==2)then
    if(decide ((v1.1.length:Int)>0))then
     (DQ v2.2 (v1.1.length:Int)).bind fun v6=>
     (getI v1.1 v6.1).bind fun y7=>
     some ((v1.1.set (v6.1).toNat {y7 with a8:=true}),(⟨v6.2.ay,v6.2.ch,v6.2.az⟩:AH))
    else
     some (v1.1,(⟨v2.2.ay,v2.2.ch,v2.2.az⟩:AH))
   else
    if(v2.1==3)then
     req ((a1.ae).length+(([46,105,47]:Aa)).length≤9223372036854775807)<|
     (FI v2.2 ([([120]:Aa),([120,47,49,47,50]:Aa),([47,49]:Aa),([97,98,99,100,47,49]:Aa)]:List (Aa))).bind fun v8=>
     req (((a1.ae++([46,105,47]:Aa))).length+(v8.1).length≤9223372036854775807)<|
     (G1 v1.1 (⟨((a1.ae++([46,105,47]:Aa))++v8.1),([]:Aa),false⟩:Ac)).bind fun v9=>
     some (v9,(⟨v8.2.ay,v8.2.ch,v8.2.az⟩:AH))
    else
     some (v1.1,(⟨v2.2.ay,v2.2.ch,v2.2.az⟩:AH))
def Ub (a0:AH):Option (Aj × AH):=
 (Ro a0).bind fun v1=>
 (DQ v1.2 14).bind fun v2=>
 if(v2.1==0)then
  (FI v2.2 ([([]:Aa),([116,116]:Aa),([84]:Aa)]:List (Aa))).bind fun v3=>
  some ((⟨v3.1,v1.1.ax,v1.1.aj⟩:Aj),(⟨v3.2.ay,v3.2.ch,v3.2.az⟩:AH))
 else
  if(v2.1==1)then
   (FI v2.2 ([([97]:Aa),([97,98,99,100]:Aa),([]:Aa),([100]:Aa)]:List (Aa))).bind fun v4=>
   req ((((v1.1.ax).length:Int)+(([v4.1]:List (Aa)).length:Int))*16≤140737488355328∧((v1.1.ax).length:Int)+(([v4.1]:List (Aa)).length:Int)≤140737488355328)<|
   some ((⟨v1.1.ae,(v1.1.ax++ [v4.1]),v1.1.aj⟩:Aj),(⟨v4.2.ay,v4.2.ch,v4.2.az⟩:AH))
  else
   if(v2.1==2)then
    req (0≤(0:Int)∧(0:Int)≤1∧(1:Int)≤(v1.1.ax.length:Int))<|
    some ((⟨v1.1.ae,(AR v1.1.ax 0 1),v1.1.aj⟩:Aj),(⟨v2.2.ay,v2.2.ch,v2.2.az⟩:AH))
   else
    if(v2.1==3)then
     (FI v2.2 ([([97]:Aa),([122]:Aa),([122,122]:Aa)]:List (Aa))).bind fun v5=>
     (DQ v5.2 5).bind fun v6=>
     (DQ v6.2 5).bind fun v7=>
     req ((((v1.1.aj).length:Int)+(([(⟨v5.1,v6.1,(IntKind.i64.wrap (v7.1-1))⟩:AX)]:List AX).length:Int))*32≤140737488355328∧((v1.1.aj).length:Int)+(([(⟨v5.1,v6.1,(IntKind.i64.wrap (v7.1-1))⟩:AX)]:List AX).length:Int)≤140737488355328)<|
     some ((⟨v1.1.ae,v1.1.ax,(v1.1.aj++ [(⟨v5.1,v6.1,(IntKind.i64.wrap (v7.1-1))⟩:AX)])⟩:Aj),(⟨v7.2.ay,v7.2.ch,v7.2.az⟩:AH))
    else
     some ((⟨v1.1.ae,v1.1.ax,v1.1.aj⟩:Aj),(⟨v2.2.ay,v2.2.ch,v2.2.az⟩:AH))
def Zk (a0:Aa) (a1:Int):Option (Bool):=
 some ((decide ((a0.length:Int)≥1))&&(decide ((a0.length:Int)≤a1)))
def Zj (a0:Aa) (a1 v1:Int):Option ((Int) ⊕ Option (Bool)):=
 if(decide (v1<(a0.length:Int)))then
  (getI a0 v1).bind fun y2=>
  if((decide ((y2.toNat:Int)<97))||(decide ((y2.toNat:Int)>122)))then
   some (.inr (some false))
  else
   some (.inl (IntKind.i64.wrap (v1+1)))
 else
  some (.inr (Zk a0 a1))
def O7 (a0:Aa) (a1:Int):Option (Bool):=
 AN (fun s:Int=>Zj a0 a1 s) 0
def ZY (a0:List (Aa)) (a1:Aa) (v1:Int):Option ((Int) ⊕ Option (Int)):=
 if(decide (v1<(a0.length:Int)))then
  (getI a0 v1).bind fun y2=>
  if(y2==a1)then
   some (.inr (some v1))
  else
   some (.inl (IntKind.i64.wrap (v1+1)))
 else
  some (.inr (some (-1)))
def Vq (a0:List (Aa)) (a1:Aa):Option (Int):=
 AN (fun s:Int=>ZY a0 a1 s) 0
def Zn (a0:List (Aa)):Option (Bool):=
 (IT (a0.length:Int) 2 4).bind fun v1=>
 some v1
def Zp (a0:List (Aa)) (v2:Int):Option ((Int) ⊕ Option (Bool)):=
 if(decide (v2<(a0.length:Int)))then
  (getI a0 v2).bind fun y3=>
  (O7 y3 3).bind fun v4=>
  if v4 then
   req (0≤(0:Int)∧(0:Int)≤v2∧v2≤(a0.length:Int))<|
   (Vq (AR a0 0 v2) y3).bind fun v5=>
   if(decide (v5≥0))then
    some (.inr (some false))
   else
    some (.inl (IntKind.i64.wrap (v2+1)))
  else
   some (.inr (some false))
 else
  some (.inr (Zn a0))
def Vk (a0:List (Aa)):Option (Bool):=
 AN (fun s:Int=>Zp a0 s) 0
def Us (a0:Aj) (v3:Int):Option ((Int) ⊕ Option (Bool)):=
 if(decide (v3<(a0.aj.length:Int)))then
  (getI a0.aj v3).bind fun y4=>
  (O7 y4.ae 1).bind fun v5=>
  if v5 then
   (IT y4.cy 1 (IntKind.i64.wrap ((a0.ax.length:Int)-1))).bind fun v6=>
   if v6 then
    (IT y4.bc 0 3).bind fun v7=>
    if(decide (v3>0))then
     if v7 then
      (getI a0.aj (IntKind.i64.wrap (v3-1))).bind fun y8=>
      if(!Op.bytesLess y8.ae y4.ae)then
       some (.inr (some false))
      else
       some (.inl (IntKind.i64.wrap (v3+1)))
     else
      some (.inr (some false))
    else
     if((!v7)||false)then
      some (.inr (some false))
     else
      some (.inl (IntKind.i64.wrap (v3+1)))
   else
    some (.inr (some false))
  else
   some (.inr (some false))
 else
  some (.inr (some true))
def RF (a0:Aj):Option (Bool):=
 (O7 a0.ae 1).bind fun v1=>
 if v1 then
  (Vk a0.ax).bind fun v2=>
  if((!v2)||(decide ((a0.aj.length:Int)>3)))then
   some false
  else
   AN (fun s:Int=>Us a0 s) 0
 else
  some false
def Uk (a1:Aj) (v3:List Int) (v4 v5:Int) (v6:List (Aa)):Option (Ba × AH):=
 (DQ (⟨v3,v4,v5⟩:AH) 3).bind fun v7=>
 if(v7.1==0)then
  (Lt v7.2 a1).bind fun v8=>
  some ((⟨1,(⟨[]⟩:An),v8.1⟩:Ba),v8.2)
 else
  if(v7.1==1)then
   some ((⟨2,(⟨v6⟩:An),(⟨[]⟩:An)⟩:Ba),v7.2)
  else
   (Lt v7.2 a1).bind fun v9=>
   (getI v6 0).bind fun y10=>
   (getI v9.1.ah 0).bind fun y11=>
   some ((⟨3,(⟨v6⟩:An),(⟨(v9.1.ah.set ((0:Int)).toNat y10)⟩:An)⟩:Ba),v9.2)
def Uj (a1:Aj) (v1:List An) (v2:An × AH) (v12:Bool) (v13:List Int) (v14 v15:Int):Option (Ba × AH):=
 if v12 then
  (DQ (⟨v13,v14,v15⟩:AH) (v1.length:Int)).bind fun v16=>
  (getI v1 v16.1).bind fun y17=>
  Uk a1 v16.2.ay v16.2.ch v16.2.az y17.ah
 else
  Uk a1 v13 v14 v15 v2.1.ah
def Ry (a0:AH) (a1:Aj) (a2:List Ac):Option (Ba × AH):=
 (RH a1 a2).bind fun v1=>
 (Lt a0 a1).bind fun v2=>
 if(decide ((v1.length:Int)>0))then
  (HX v2.2 4).bind fun v18=>
  Uj a1 v1 v2 (!v18.1) v18.2.ay v18.2.ch v18.2.az
 else
  Uj a1 v1 v2 false v2.2.ay v2.2.ch v2.2.az
def UA (a0:AH) (a1:Aj) (a2:List Ac):Option (Bo × AH):=
 (DQ a0 4).bind fun v1=>
 if(v1.1==0)then
  (FI v1.2 ([([49]:Aa),([50]:Aa),([51]:Aa),([97]:Aa),([113]:Aa)]:List (Aa))).bind fun v2=>
  some ((⟨2,(⟨0,(⟨[]⟩:An),(⟨[]⟩:An)⟩:Ba),([]:Aa),v2.1,([]:Aa)⟩:Bo),v2.2)
 else
  if(v1.1==1)then
   if(decide ((a1.aj.length:Int)>0))then
    (DQ v1.2 (a1.aj.length:Int)).bind fun v3=>
    (getI a1.aj v3.1).bind fun y4=>
    (FI v3.2 ([([48]:Aa),([120]:Aa),([97,98,99]:Aa)]:List (Aa))).bind fun v5=>
    (FI v5.2 ([([121]:Aa),([120]:Aa),([122,122]:Aa)]:List (Aa))).bind fun v6=>
    some ((⟨3,(⟨0,(⟨[]⟩:An),(⟨[]⟩:An)⟩:Ba),y4.ae,v5.1,v6.1⟩:Bo),v6.2)
   else
    (Ry (⟨v1.2.ay,v1.2.ch,v1.2.az⟩:AH) a1 a2).bind fun v7=>
    some ((⟨1,v7.1,([]:Aa),([]:Aa),([]:Aa)⟩:Bo),v7.2)
  else
   (Ry (⟨v1.2.ay,v1.2.ch,v1.2.az⟩:AH) a1 a2).bind fun v8=>
   some ((⟨1,v8.1,([]:Aa),([]:Aa),([]:Aa)⟩:Bo),v8.2)
def IP (a0:An):Option (Aa):=
 (RM a0.ah ([44]:Aa)).bind fun v1=>
 some v1
def RJ (a0:Aj) (a1:Bo):Option (Aa):=
 if(a1.af==2)then
  req ((([103,101,116,32]:Aa)).length+(a0.ae).length≤9223372036854775807)<|
  req ((((([103,101,116,32]:Aa):Aa)++a0.ae)).length+(([32]:Aa)).length≤9223372036854775807)<|
  req (((((([103,101,116,32]:Aa):Aa)++a0.ae)++([32]:Aa))).length+(a1.ca).length≤9223372036854775807)<|
  some ((((([103,101,116,32]:Aa):Aa)++a0.ae)++([32]:Aa))++a1.ca)
 else
  if(a1.af==3)then
   req ((([114,97,110,103,101,32]:Aa)).length+(a0.ae).length≤9223372036854775807)<|
   req ((((([114,97,110,103,101,32]:Aa):Aa)++a0.ae)).length+(([32]:Aa)).length≤9223372036854775807)<|
   req (((((([114,97,110,103,101,32]:Aa):Aa)++a0.ae)++([32]:Aa))).length+(a1.a7).length≤9223372036854775807)<|
   req ((((((([114,97,110,103,101,32]:Aa):Aa)++a0.ae)++([32]:Aa))++a1.a7)).length+(([32]:Aa)).length≤9223372036854775807)<|
   req (((((((([114,97,110,103,101,32]:Aa):Aa)++a0.ae)++([32]:Aa))++a1.a7)++([32]:Aa))).length+(a1.ca).length≤9223372036854775807)<|
   req ((((((((([114,97,110,103,101,32]:Aa):Aa)++a0.ae)++([32]:Aa))++a1.a7)++([32]:Aa))++a1.ca)).length+(([32]:Aa)).length≤9223372036854775807)<|
   req (((((((((([114,97,110,103,101,32]:Aa):Aa)++a0.ae)++([32]:Aa))++a1.a7)++([32]:Aa))++a1.ca)++([32]:Aa))).length+(a1.cg).length≤9223372036854775807)<|
   some ((((((((([114,97,110,103,101,32]:Aa):Aa)++a0.ae)++([32]:Aa))++a1.a7)++([32]:Aa))++a1.ca)++([32]:Aa))++a1.cg)
  else
   if(a1.bb.af==1)then
    req ((([105,110,115,101,114,116,32]:Aa)).length+(a0.ae).length≤9223372036854775807)<|
    req ((((([105,110,115,101,114,116,32]:Aa):Aa)++a0.ae)).length+(([32]:Aa)).length≤9223372036854775807)<|
    (IP a1.bb.bj).bind fun v1=>
    req (((((([105,110,115,101,114,116,32]:Aa):Aa)++a0.ae)++([32]:Aa))).length+(v1).length≤9223372036854775807)<|
    some ((((([105,110,115,101,114,116,32]:Aa):Aa)++a0.ae)++([32]:Aa))++v1)
   else
    if(a1.bb.af==2)then
     req ((([100,101,108,101,116,101,32]:Aa)).length+(a0.ae).length≤9223372036854775807)<|
     req ((((([100,101,108,101,116,101,32]:Aa):Aa)++a0.ae)).length+(([32]:Aa)).length≤9223372036854775807)<|
     (IP a1.bb.bg).bind fun v2=>
     req (((((([100,101,108,101,116,101,32]:Aa):Aa)++a0.ae)++([32]:Aa))).length+(v2).length≤9223372036854775807)<|
     some ((((([100,101,108,101,116,101,32]:Aa):Aa)++a0.ae)++([32]:Aa))++v2)
    else
     req ((([117,112,100,97,116,101,32]:Aa)).length+(a0.ae).length≤9223372036854775807)<|
     req ((((([117,112,100,97,116,101,32]:Aa):Aa)++a0.ae)).length+(([32]:Aa)).length≤9223372036854775807)<|
     (IP a1.bb.bg).bind fun v3=>
     req (((((([117,112,100,97,116,101,32]:Aa):Aa)++a0.ae)++([32]:Aa))).length+(v3).length≤9223372036854775807)<|
     req ((((((([117,112,100,97,116,101,32]:Aa):Aa)++a0.ae)++([32]:Aa))++v3)).length+(([32,116,111,32]:Aa)).length≤9223372036854775807)<|
     (IP a1.bb.bj).bind fun v4=>
     req (((((((([117,112,100,97,116,101,32]:Aa):Aa)++a0.ae)++([32]:Aa))++v3)++([32,116,111,32]:Aa))).length+(v4).length≤9223372036854775807)<|
     some ((((((([117,112,100,97,116,101,32]:Aa):Aa)++a0.ae)++([32]:Aa))++v3)++([32,116,111,32]:Aa))++v4)
def jW (a2 v2:Aa) (v3:Int) (v4:List Int) (v5 v6:Int):Option ((Aa × Int × List Int × Int × Int) ⊕ Option (Aa × AH)):=
 if((decide (v3>0))&&(decide ((v2.length:Int)>0)))then
  (DQ (⟨v4,v5,v6⟩:AH) (v2.length:Int)).bind fun v7=>
  (DQ v7.2 (a2.length:Int)).bind fun v8=>
  (getI a2 v8.1).bind fun y9=>
  req (([(y9.toNat:Int)]:List Int).length≤9223372036854775807)<|
  (DQ v8.2 3).bind fun v10=>
  if(v10.1==0)then
   req (0≤(0:Int)∧(0:Int)≤v7.1∧v7.1≤(v2.length:Int))<|
   req (((AR v2 0 v7.1)).length+(([(y9.toNat:Int)].map fun n=>UInt8.ofNat n.toNat)).length≤9223372036854775807)<|
   req (0≤v7.1∧v7.1≤(v2.length:Int)∧(v2.length:Int)≤(v2.length:Int))<|
   req ((((AR v2 0 v7.1)++([(y9.toNat:Int)].map fun n=>UInt8.ofNat n.toNat))).length+((AR v2 v7.1 (v2.length:Int))).length≤9223372036854775807)<|
   some (.inl ((((AR v2 0 v7.1)++([(y9.toNat:Int)].map fun n=>UInt8.ofNat n.toNat))++(AR v2 v7.1 (v2.length:Int))),(IntKind.i64.wrap (v3-1)),v10.2.ay,v10.2.ch,v10.2.az))
  else
   if(v10.1==1)then
    req (0≤(0:Int)∧(0:Int)≤v7.1∧v7.1≤(v2.length:Int))<|
    req (((AR v2 0 v7.1)).length+(([(y9.toNat:Int)].map fun n=>UInt8.ofNat n.toNat)).length≤9223372036854775807)<|
    req (0≤(IntKind.i64.wrap (v7.1+1))∧(IntKind.i64.wrap (v7.1+1))≤(v2.length:Int)∧(v2.length:Int)≤(v2.length:Int))<|
    req ((((AR v2 0 v7.1)++([(y9.toNat:Int)].map fun n=>UInt8.ofNat n.toNat))).length+((AR v2 (IntKind.i64.wrap (v7.1+1)) (v2.length:Int))).length≤9223372036854775807)<|
    some (.inl ((((AR v2 0 v7.1)++([(y9.toNat:Int)].map fun n=>UInt8.ofNat n.toNat))++(AR v2 (IntKind.i64.wrap (v7.1+1)) (v2.length:Int))),(IntKind.i64.wrap (v3-1)),v10.2.ay,v10.2.ch,v10.2.az))
   else
    req (0≤(0:Int)∧(0:Int)≤v7.1∧v7.1≤(v2.length:Int))<|
    req (0≤(IntKind.i64.wrap (v7.1+1))∧(IntKind.i64.wrap (v7.1+1))≤(v2.length:Int)∧(v2.length:Int)≤(v2.length:Int))<|
    req (((AR v2 0 v7.1)).length+((AR v2 (IntKind.i64.wrap (v7.1+1)) (v2.length:Int))).length≤9223372036854775807)<|
    some (.inl (((AR v2 0 v7.1)++(AR v2 (IntKind.i64.wrap (v7.1+1)) (v2.length:Int))),(IntKind.i64.wrap (v3-1)),v10.2.ay,v10.2.ch,v10.2.az))
 else
  some (.inr (some (v2,(⟨v4,v5,v6⟩:AH))))
def Ui (a0:AH) (a1 a2:Aa):Option (Aa × AH):=
 (DQ a0 2).bind fun v1=>
 AN (fun s:Aa × Int × List Int × Int × Int=>jW a2 s.1 s.2.1 s.2.2.1 s.2.2.2.1 s.2.2.2.2) (a1,(IntKind.i64.wrap ((1:Int)+v1.1)),v1.2.ay,v1.2.ch,v1.2.az)
def Uy (v2:List Ac × AH) (v6:Aa) (v7:List (Aa)) (v8:List AX) (v10:List Int) (v11 v12:Int) (v13:List (Aa)):Option (Aj × List Ac × List (Aa)):=
 (HX (⟨v10,v11,v12⟩:AH) 20).bind fun v14=>
 if v14.1 then
  (DQ v14.2 2).bind fun v15=>
  req (0≤(IntKind.i64.wrap ((12:Int)+v15.1))∧(IntKind.i64.wrap ((12:Int)+v15.1))*16≤140737488355328∧(IntKind.i64.wrap ((12:Int)+v15.1))≤140737488355328)<|
  some ((⟨v6,v7,v8⟩:Aj),v2.1,(List.replicate ((IntKind.i64.wrap ((12:Int)+v15.1))).toNat ([]:Aa)))
 else
  some ((⟨v6,v7,v8⟩:Aj),v2.1,v13)
def kD (v2:List Ac × AH) (v6:Aa) (v7:List (Aa)) (v8:List AX) (v16:List (Aa)) (v17:Int) (v18:List Int) (v19 v20:Int):Option ((List (Aa) × Int × List Int × Int × Int) ⊕ Option (Aj × List Ac × List (Aa))):=
 if(decide (v17>0))then
  (RF (⟨v6,v7,v8⟩:Aj)).bind fun v21=>
  if v21 then
   (UA (⟨v18,v19,v20⟩:AH) (⟨v6,v7,v8⟩:Aj) v2.1).bind fun v22=>
   (RJ (⟨v6,v7,v8⟩:Aj) v22.1).bind fun v23=>
   (HX v22.2 6).bind fun v24=>
   if v24.1 then
    (Ui v24.2 v23 ([97,98,44,32,49,120]:Aa)).bind fun v25=>
    req ((((v16).length:Int)+(([v25.1]:List (Aa)).length:Int))*16≤140737488355328∧((v16).length:Int)+(([v25.1]:List (Aa)).length:Int)≤140737488355328)<|
    some (.inl ((v16++ [v25.1]),(IntKind.i64.wrap (v17-1)),v25.2.ay,v25.2.ch,v25.2.az))
   else
    req ((((v16).length:Int)+(([v23]:List (Aa)).length:Int))*16≤140737488355328∧((v16).length:Int)+(([v23]:List (Aa)).length:Int)≤140737488355328)<|
    some (.inl ((v16++ [v23]),(IntKind.i64.wrap (v17-1)),v24.2.ay,v24.2.ch,v24.2.az))
  else
   some (.inr (Uy v2 v6 v7 v8 v18 v19 v20 v16))
 else
  some (.inr (Uy v2 v6 v7 v8 v18 v19 v20 v16))
def Ue (v2:List Ac × AH) (v3:List Int) (v4 v5:Int) (v6:Aa) (v7:List (Aa)) (v8:List AX):Option (Aj × List Ac × List (Aa)):=
 (DQ (⟨v3,v4,v5⟩:AH) 9).bind fun v9=>
 AN (fun s:List (Aa) × Int × List Int × Int × Int=>kD v2 v6 v7 v8 s.1 s.2.1 s.2.2.1 s.2.2.2.1 s.2.2.2.2) ([],v9.1,v9.2.ay,v9.2.ch,v9.2.az)
def Up (a0:List Int):Option (Aj × List Ac × List (Aa)):=
 (Ro (⟨a0,0,0⟩:AH)).bind fun v1=>
 (Ua v1.2 v1.1).bind fun v2=>
 (HX v2.2 12).bind fun v26=>
 if v26.1 then
  (Ub v26.2).bind fun v27=>
  Ue v2 v27.2.ay v27.2.ch v27.2.az v27.1.ae v27.1.ax v27.1.aj
 else
  Ue v2 v26.2.ay v26.2.ch v26.2.az v1.1.ae v1.1.ax v1.1.aj
def Kp (a0 a1 a2:Int):Option (Bool):=
 some ((decide (a0≥a1))&&(decide (a0≤a2)))
def Zl (a0:Aa) (a1:Int):Option (Bool):=
 (Kp (a0.length:Int) 1 a1).bind fun v1=>
 some v1
def Zm (a0:Aa) (a1 v2:Int):Option ((Int) ⊕ Option (Bool)):=
 if(decide (v2<(a0.length:Int)))then
  (getI a0 v2).bind fun y3=>
  if((decide ((y3.toNat:Int)<97))||(decide ((y3.toNat:Int)>122)))then
   some (.inr (some false))
  else
   some (.inl (IntKind.i64.wrap (v2+1)))
 else
  some (.inr (Zl a0 a1))
def O6 (a0:Aa) (a1:Int):Option (Bool):=
 AN (fun s:Int=>Zm a0 a1 s) 0
def YZ (a0:List (Aa)) (a1:Aa) (v1:Int):Option ((Int) ⊕ Option (Int)):=
 if(decide (v1<(a0.length:Int)))then
  (getI a0 v1).bind fun y2=>
  if(a1==y2)then
   some (.inr (some v1))
  else
   some (.inl (IntKind.i64.wrap (v1+1)))
 else
  some (.inr (some (-1)))
def Ud (a0:List (Aa)) (a1:Aa):Option (Int):=
 AN (fun s:Int=>YZ a0 a1 s) 0
def T9 (a0:List (Aa)) (a1:Aa):Option (Bool):=
 (Ud a0 a1).bind fun v1=>
 some (decide (v1≥0))
def ZV (a0:Int):Option (Bool):=
 (Kp a0 0 3).bind fun v1=>
 some v1
def Uu (a0:Aj) (v3:Int):Option ((Int) ⊕ Option (Bool)):=
 if(decide (v3<(a0.aj.length:Int)))then
  (getI a0.aj v3).bind fun y4=>
  (O6 y4.ae 1).bind fun v5=>
  if v5 then
   (Kp y4.cy 1 (IntKind.i64.wrap ((a0.ax.length:Int)-1))).bind fun v6=>
   if v6 then
    (ZV y4.bc).bind fun v7=>
    if(decide (v3>0))then
     if v7 then
      (getI a0.aj (IntKind.i64.wrap (v3-1))).bind fun y8=>
      if(Op.bytesLess y4.ae y8.ae||y4.ae==y8.ae)then
       some (.inr (some false))
      else
       some (.inl (IntKind.i64.wrap (v3+1)))
     else
      some (.inr (some false))
    else
     if((!v7)||false)then
      some (.inr (some false))
     else
      some (.inl (IntKind.i64.wrap (v3+1)))
   else
    some (.inr (some false))
  else
   some (.inr (some false))
 else
  some (.inr (some true))
def Zb (a0:Aj):Option (Bool):=
 AN (fun s:Int=>Uu a0 s) 0
def Ux (a0:Aj) (v9:Int):Option ((Int) ⊕ Option (Bool)):=
 if(decide (v9<(a0.ax.length:Int)))then
  (getI a0.ax v9).bind fun y10=>
  (O6 y10 3).bind fun v11=>
  if v11 then
   req (0≤(0:Int)∧(0:Int)≤v9∧v9≤(a0.ax.length:Int))<|
   (T9 (AR a0.ax 0 v9) y10).bind fun v12=>
   if v12 then
    some (.inr (some false))
   else
    some (.inl (IntKind.i64.wrap (v9+1)))
  else
   some (.inr (some false))
 else
  some (.inr (Zb a0))
def OZ (a0:Aj):Option (Bool):=
 (O6 a0.ae 1).bind fun v1=>
 if v1 then
  (Kp (a0.ax.length:Int) 2 4).bind fun v2=>
  if((!v2)||(decide ((a0.aj.length:Int)>3)))then
   some false
  else
   AN (fun s:Int=>Ux a0 s) 0
 else
  some false
def OM (a0:List Ac) (v1:Int) (v2:List (Aa)):Option ((Int × List (Aa)) ⊕ Option (List (Aa))):=
 if(decide (v1<(a0.length:Int)))then
  (getI a0 v1).bind fun y3=>
  req ((((v2).length:Int)+(([y3.ab]:List (Aa)).length:Int))*16≤140737488355328∧((v2).length:Int)+(([y3.ab]:List (Aa)).length:Int)≤140737488355328)<|
  some (.inl ((IntKind.i64.wrap (v1+1)),(v2++ [y3.ab])))
 else
  some (.inr (some v2))
def UG (a0:List Ac):Option (List (Aa)):=
 AN (fun s:Int × List (Aa)=>OM a0 s.1 s.2) (0, [])
def Zi (a0:Int):Option (Bool):=
 some (((decide (a0≥97))&&(decide (a0≤122)))||((decide (a0≥48))&&(decide (a0≤57))))
def Zd (a0:Aa) (a1:Int):Option (Int):=
 (T7 a0 a1).bind fun v1=>
 some v1
def Zz (a0 a1:Aa) (v1:Int):Option ((Int) ⊕ Option (Bool)):=
 if(decide (v1<(a0.length:Int)))then
  (getI a0 v1).bind fun y2=>
  (Zi (y2.toNat:Int)).bind fun v3=>
  if v3 then
   some (.inl (IntKind.i64.wrap (v1+1)))
  else
   (Zd a1 (y2.toNat:Int)).bind fun v4=>
   if(decide (v4<0))then
    some (.inr (some false))
   else
    some (.inl (IntKind.i64.wrap (v1+1)))
 else
  some (.inr (some true))
def Pg (a0 a1:Aa):Option (Bool):=
 AN (fun s:Int=>Zz a0 a1 s) 0
def Vd (a0:Aa):Option (Bool):=
 (Kp (a0.length:Int) 1 12).bind fun v1=>
 if v1 then
  (Pg a0 ([46,47]:Aa)).bind fun v2=>
  some v2
 else
  some false
def Zc (a0:List (Aa)) (v1:Int):Option ((Int) ⊕ Option (Bool)):=
 if(decide (v1<(a0.length:Int)))then
  (getI a0 v1).bind fun y2=>
  (Vd y2).bind fun v3=>
  if(decide (v1>0))then
   if v3 then
    (getI a0 (IntKind.i64.wrap (v1-1))).bind fun y4=>
    if(Op.bytesLess y2 y4||y2==y4)then
     some (.inr (some false))
    else
     some (.inl (IntKind.i64.wrap (v1+1)))
   else
    some (.inr (some false))
  else
   if((!v3)||false)then
    some (.inr (some false))
   else
    some (.inl (IntKind.i64.wrap (v1+1)))
 else
  some (.inr (some true))
def UI (a0:List (Aa)):Option (Bool):=
 AN (fun s:Int=>Zc a0 s) 0
def Va (a0:Aa):Option (Bool):=
 if(decide ((a0.length:Int)≤24))then
  (Pg a0 ([46,45,44,95]:Aa)).bind fun v1=>
  some v1
 else
  some false
def UR (a0:Aa) (a1:Bool):Option (Bool):=
 (Va a0).bind fun v1=>
 some (v1&&(!(a1&&(a0 !=([]:Aa)))))
def Ur (a0:Ac):Option (Bool):=
 (UR a0.aw a0.a8).bind fun v1=>
 some (!v1)
def UJ (a0:List Ac):Option (Bool):=
 if(decide ((a0.length:Int)≤24))then
  (UG a0).bind fun v1=>
  (UI v1).bind fun v2=>
  if v2 then
   (IQ a0 (fun y0_=>Ur y0_)).bind fun v3=>
   some (!v3)
  else
   some false
 else
  some false
def UU (a0:Ac):Option (Bool):=
 some a0.a8
def RQ (a0:List Ac):Option (Bool):=
 (UJ a0).bind fun v1=>
 if v1 then
  (IQ a0 (fun y0_=>UU y0_)).bind fun v2=>
  some (!v2)
 else
  some false
def Rn (xs:List Ac):Option (List Ac):=eT 40 xs
def US (a0 a1:Aa):Option (Int):=
 (OA a0 a1).bind fun v1=>
 some v1
def Zg (v3:Aa) (v4:Int) (v5:List (Aa)):Option (List (Aa)):=
 (getI v5 v4).bind fun y6=>
 req (0≤(0:Int)∧(0:Int)≤(IntKind.i64.wrap (v4+1))∧(IntKind.i64.wrap (v4+1))≤((v5.set (v4).toNat v3).length:Int))<|
 some (AR (v5.set (v4).toNat v3) 0 (IntKind.i64.wrap (v4+1)))
def OP (a0 a1:Aa) (a2 v2:Int) (v7:Aa) (v8:Int) (v9:List (Aa)):Option ((Aa × Int × List (Aa)) ⊕ Option (List (Aa))):=
 if(decide (v8<(IntKind.i64.wrap ((bif (decide ((IntKind.i64.wrap ((a0.length:Int)+1))<v2))then(IntKind.i64.wrap ((a0.length:Int)+1))else v2)-1))))then
  (US v7 a1).bind fun v10=>
  if(decide (v10<0))then
   some (.inr (Zg v7 v8 v9))
  else
   req (0≤(0:Int)∧(0:Int)≤(IntKind.i64.wrap (v10+a2))∧(IntKind.i64.wrap (v10+a2))≤(v7.length:Int))<|
   (getI v9 v8).bind fun y11=>
   req (0≤(IntKind.i64.wrap (v10+(a1.length:Int)))∧(IntKind.i64.wrap (v10+(a1.length:Int)))≤(v7.length:Int)∧(v7.length:Int)≤(v7.length:Int))<|
   some (.inl ((AR v7 (IntKind.i64.wrap (v10+(a1.length:Int))) (v7.length:Int)),(IntKind.i64.wrap (v8+1)),(v9.set (v8).toNat (AR v7 0 (IntKind.i64.wrap (v10+a2))))))
 else
  some (.inr (Zg v7 v8 v9))
def Zh (a0 a1:Aa) (a2 v2:Int):Option (List (Aa)):=
 req (0≤(bif (decide ((IntKind.i64.wrap ((a0.length:Int)+1))<v2))then(IntKind.i64.wrap ((a0.length:Int)+1))else v2)∧(bif (decide ((IntKind.i64.wrap ((a0.length:Int)+1))<v2))then(IntKind.i64.wrap ((a0.length:Int)+1))else v2)*16≤140737488355328∧(bif (decide ((IntKind.i64.wrap ((a0.length:Int)+1))<v2))then(IntKind.i64.wrap ((a0.length:Int)+1))else v2)≤140737488355328)<|
 AN (fun s:Aa × Int × List (Aa)=>OP a0 a1 a2 v2 s.1 s.2.1 s.2.2) (a0,0,(List.replicate ((bif (decide ((IntKind.i64.wrap ((a0.length:Int)+1))<v2))then(IntKind.i64.wrap ((a0.length:Int)+1))else v2)).toNat ([]:Aa)))
def ZA (a0 a1:Aa) (a2 a3:Int):Option (List (Aa)):=
 if(a3==0)then
  some []
 else
  if(a1==([]:Aa))then
   (Zo a0 a3).bind fun v1=>
   some v1
  else
   if(decide (a3<0))then
    (UP a0 a1).bind fun v12=>
    Zh a0 a1 a2 (IntKind.i64.wrap (v12+1))
   else
    Zh a0 a1 a2 a3
def M9 (a0 a1:Aa):Option (List (Aa)):=
 (ZA a0 a1 0 (-1)).bind fun v1=>
 some v1
def Kr (a0:Aa):Option (An):=
 (M9 a0 ([44]:Aa)).bind fun v1=>
 some (⟨v1⟩:An)
def Kn (a0:Aa):Option (Bool):=
 (Kp (a0.length:Int) 1 3).bind fun v1=>
 if v1 then
  (Pg a0 ([]:Aa)).bind fun v2=>
  some v2
 else
  some false
def Ul (a0:Aa):Option (Bool):=
 (Kn a0).bind fun v1=>
 some (!v1)
def Lu (a0:Aj) (a1:An):Option (Bool):=
 if((a1.ah.length:Int)==(a0.ax.length:Int))then
  (IQ a1.ah (fun y0_=>Ul y0_)).bind fun v1=>
  some (!v1)
 else
  some false
def Rq (a0:Aj) (a1:Ba):Option (Bool):=
 if(a1.af==1)then
  if((a1.bg.ah.length:Int)==0)then
   (Lu a0 a1.bj).bind fun v1=>
   some v1
  else
   some false
 else
  if(a1.af==2)then
   (Lu a0 a1.bg).bind fun v2=>
   some (v2&&((a1.bj.ah.length:Int)==0))
  else
   if(a1.af==3)then
    (Lu a0 a1.bg).bind fun v3=>
    if v3 then
     (Lu a0 a1.bj).bind fun v4=>
     if v4 then
      (getI a1.bg.ah 0).bind fun y5=>
      (getI a1.bj.ah 0).bind fun y6=>
      some (y5==y6)
     else
      some false
    else
     some false
   else
    some false
def U3 (a0:Ba):Option (Bool):=
 some (((a0.af==0)&&((a0.bg.ah.length:Int)==0))&&((a0.bj.ah.length:Int)==0))
def Y7 (a0:AX) (a1:Aa):Option (Bool):=
 some (a0.ae==a1)
def Rv (a0:Aj) (a1:Aa):Option (Int):=
 (FH a0.aj (fun y0_=>Y7 y0_ a1)).bind fun v1=>
 some v1
def Uf (a0:Aj) (a1:Bo):Option (Bool):=
 if(a1.af==1)then
  (Rq a0 a1.bb).bind fun v1=>
  some (((v1&&(a1.a7==([]:Aa)))&&(a1.ca==([]:Aa)))&&(a1.cg==([]:Aa)))
 else
  if(a1.af==2)then
   (U3 a1.bb).bind fun v2=>
   if v2 then
    if(a1.a7==([]:Aa))then
     (Kn a1.ca).bind fun v3=>
     some (v3&&(a1.cg==([]:Aa)))
    else
     some false
   else
    some false
  else
   if(a1.af==3)then
    (U3 a1.bb).bind fun v4=>
    if v4 then
     (Rv a0 a1.a7).bind fun v5=>
     if(decide (v5≥0))then
      (Kn a1.ca).bind fun v6=>
      if v6 then
       (Kn a1.cg).bind fun v7=>
       some v7
      else
       some false
     else
      some false
    else
     some false
   else
    some false
def IS (a0:An):Option (Aa):=
 (Pc a0.ah ([44]:Aa)).bind fun v1=>
 some v1
def Um (a0:Aj) (a1:Bo):Option (Aa):=
 if(a1.af==2)then
  req ((([103,101,116,32]:Aa)).length+(a0.ae).length≤9223372036854775807)<|
  req ((((([103,101,116,32]:Aa):Aa)++a0.ae)).length+(([32]:Aa)).length≤9223372036854775807)<|
  req (((((([103,101,116,32]:Aa):Aa)++a0.ae)++([32]:Aa))).length+(a1.ca).length≤9223372036854775807)<|
  some ((((([103,101,116,32]:Aa):Aa)++a0.ae)++([32]:Aa))++a1.ca)
 else
  if(a1.af==3)then
   req ((([114,97,110,103,101,32]:Aa)).length+(a0.ae).length≤9223372036854775807)<|
   req ((((([114,97,110,103,101,32]:Aa):Aa)++a0.ae)).length+(([32]:Aa)).length≤9223372036854775807)<|
   req (((((([114,97,110,103,101,32]:Aa):Aa)++a0.ae)++([32]:Aa))).length+(a1.a7).length≤9223372036854775807)<|
   req ((((((([114,97,110,103,101,32]:Aa):Aa)++a0.ae)++([32]:Aa))++a1.a7)).length+(([32]:Aa)).length≤9223372036854775807)<|
   req (((((((([114,97,110,103,101,32]:Aa):Aa)++a0.ae)++([32]:Aa))++a1.a7)++([32]:Aa))).length+(a1.ca).length≤9223372036854775807)<|
   req ((((((((([114,97,110,103,101,32]:Aa):Aa)++a0.ae)++([32]:Aa))++a1.a7)++([32]:Aa))++a1.ca)).length+(([32]:Aa)).length≤9223372036854775807)<|
   req (((((((((([114,97,110,103,101,32]:Aa):Aa)++a0.ae)++([32]:Aa))++a1.a7)++([32]:Aa))++a1.ca)++([32]:Aa))).length+(a1.cg).length≤9223372036854775807)<|
   some ((((((((([114,97,110,103,101,32]:Aa):Aa)++a0.ae)++([32]:Aa))++a1.a7)++([32]:Aa))++a1.ca)++([32]:Aa))++a1.cg)
  else
   if(a1.bb.af==1)then
    req ((([105,110,115,101,114,116,32]:Aa)).length+(a0.ae).length≤9223372036854775807)<|
    req ((((([105,110,115,101,114,116,32]:Aa):Aa)++a0.ae)).length+(([32]:Aa)).length≤9223372036854775807)<|
    (IS a1.bb.bj).bind fun v1=>
    req (((((([105,110,115,101,114,116,32]:Aa):Aa)++a0.ae)++([32]:Aa))).length+(v1).length≤9223372036854775807)<|
    some ((((([105,110,115,101,114,116,32]:Aa):Aa)++a0.ae)++([32]:Aa))++v1)
   else
    if(a1.bb.af==2)then
     req ((([100,101,108,101,116,101,32]:Aa)).length+(a0.ae).length≤9223372036854775807)<|
     req ((((([100,101,108,101,116,101,32]:Aa):Aa)++a0.ae)).length+(([32]:Aa)).length≤9223372036854775807)<|
     (IS a1.bb.bg).bind fun v2=>
     req (((((([100,101,108,101,116,101,32]:Aa):Aa)++a0.ae)++([32]:Aa))).length+(v2).length≤9223372036854775807)<|
     some ((((([100,101,108,101,116,101,32]:Aa):Aa)++a0.ae)++([32]:Aa))++v2)
    else
     req ((([117,112,100,97,116,101,32]:Aa)).length+(a0.ae).length≤9223372036854775807)<|
     req ((((([117,112,100,97,116,101,32]:Aa):Aa)++a0.ae)).length+(([32]:Aa)).length≤9223372036854775807)<|
     (IS a1.bb.bg).bind fun v3=>
     req (((((([117,112,100,97,116,101,32]:Aa):Aa)++a0.ae)++([32]:Aa))).length+(v3).length≤9223372036854775807)<|
     req ((((((([117,112,100,97,116,101,32]:Aa):Aa)++a0.ae)++([32]:Aa))++v3)).length+(([32,116,111,32]:Aa)).length≤9223372036854775807)<|
     (IS a1.bb.bj).bind fun v4=>
     req (((((((([117,112,100,97,116,101,32]:Aa):Aa)++a0.ae)++([32]:Aa))++v3)++([32,116,111,32]:Aa))).length+(v4).length≤9223372036854775807)<|
     some ((((((([117,112,100,97,116,101,32]:Aa):Aa)++a0.ae)++([32]:Aa))++v3)++([32,116,111,32]:Aa))++v4)
def Kk (a0:Aj) (a1:Aa) (v2:List (Aa)) (v3:Int) (v4:List (Aa)) (v5:Int) (v6 v7 v8:Aa):Option (Bo × Bool):=
 (Uf a0 (⟨v5,(⟨v3,(⟨v4⟩:An),(⟨v2⟩:An)⟩:Ba),v7,v6,v8⟩:Bo)).bind fun v9=>
 if v9 then
  (Um a0 (⟨v5,(⟨v3,(⟨v4⟩:An),(⟨v2⟩:An)⟩:Ba),v7,v6,v8⟩:Bo)).bind fun v10=>
  if(v10 !=a1)then
   some ((⟨0,(⟨0,(⟨[]⟩:An),(⟨[]⟩:An)⟩:Ba),([]:Aa),([]:Aa),([]:Aa)⟩:Bo),false)
  else
   some ((⟨v5,(⟨v3,(⟨v4⟩:An),(⟨v2⟩:An)⟩:Ba),v7,v6,v8⟩:Bo),true)
 else
  some ((⟨0,(⟨0,(⟨[]⟩:An),(⟨[]⟩:An)⟩:Ba),([]:Aa),([]:Aa),([]:Aa)⟩:Bo),false)
def Rr (a0:Aj) (a1:Aa):Option (Bo × Bool):=
 (M9 a1 ([32]:Aa)).bind fun v1=>
 if((v1.length:Int)==3)then
  (getI v1 0).bind fun y11=>
  if(y11==([105,110,115,101,114,116]:Aa))then
   (getI v1 2).bind fun y12=>
   (Kr y12).bind fun v13=>
   Kk a0 a1 v13.ah 1 [] 1 ([]:Aa) ([]:Aa) ([]:Aa)
  else
   if(y11==([100,101,108,101,116,101]:Aa))then
    (getI v1 2).bind fun y14=>
    (Kr y14).bind fun v15=>
    Kk a0 a1 [] 2 v15.ah 1 ([]:Aa) ([]:Aa) ([]:Aa)
   else
    if(((v1.length:Int)==5)&&(y11==([117,112,100,97,116,101]:Aa)))then
     (getI v1 2).bind fun y16=>
     (Kr y16).bind fun v17=>
     (getI v1 4).bind fun y18=>
     (Kr y18).bind fun v19=>
     Kk a0 a1 v19.ah 3 v17.ah 1 ([]:Aa) ([]:Aa) ([]:Aa)
    else
     (getI v1 2).bind fun y20=>
     Kk a0 a1 [] 0 [] 2 y20 ([]:Aa) ([]:Aa)
 else
  if((v1.length:Int)==5)then
   (getI v1 0).bind fun y21=>
   if(y21==([117,112,100,97,116,101]:Aa))then
    (getI v1 2).bind fun y22=>
    (Kr y22).bind fun v23=>
    (getI v1 4).bind fun y24=>
    (Kr y24).bind fun v25=>
    Kk a0 a1 v25.ah 3 v23.ah 1 ([]:Aa) ([]:Aa) ([]:Aa)
   else
    (getI v1 2).bind fun y26=>
    (getI v1 3).bind fun y27=>
    (getI v1 4).bind fun y28=>
    Kk a0 a1 [] 0 [] 3 y27 y26 y28
  else
   Kk a0 a1 [] 0 [] 1 ([]:Aa) ([]:Aa) ([]:Aa)
def ON (a0:Aj) (a1:An):Option (Ac):=
 req ((a0.ae).length+(([47]:Aa)).length≤9223372036854775807)<|
 (getI a1.ah 0).bind fun y1=>
 req (((a0.ae++([47]:Aa))).length+(y1).length≤9223372036854775807)<|
 req (0≤(1:Int)∧(1:Int)≤(a1.ah.length:Int)∧(a1.ah.length:Int)≤(a1.ah.length:Int))<|
 (Pc (AR a1.ah 1 (a1.ah.length:Int)) ([44]:Aa)).bind fun v2=>
 some (⟨((a0.ae++([47]:Aa))++y1),v2,false⟩:Ac)
def Jk (a0:Int) (a1:Ac) (a2:List AB):Option (Unit × List AB):=
 req ((((a2).length:Int)+(([(⟨a0,a1.ab,a1.aw,0⟩:AB)]:List AB).length:Int))*48≤140737488355328∧((a2).length:Int)+(([(⟨a0,a1.ab,a1.aw,0⟩:AB)]:List AB).length:Int)≤140737488355328)<|
 some ((),(a2++ [(⟨a0,a1.ab,a1.aw,0⟩:AB)]))
def Ru (a0:Aj) (a1:Aa):Option (Aa):=
 req ((a0.ae).length+(([46]:Aa)).length≤9223372036854775807)<|
 req (((a0.ae++([46]:Aa))).length+(a1).length≤9223372036854775807)<|
 req ((((a0.ae++([46]:Aa))++a1)).length+(([47]:Aa)).length≤9223372036854775807)<|
 some (((a0.ae++([46]:Aa))++a1)++([47]:Aa))
def M7 (a0:Aj) (a1:Aa):Option (AX):=
 (Rv a0 a1).bind fun v1=>
 (getI a0.aj v1).bind fun y2=>
 some y2
def MW (a0:Aj) (a1:Aa) (a2:An):Option (Aa):=
 (Ru a0 a1).bind fun v1=>
 (M7 a0 a1).bind fun v2=>
 (getI a2.ah v2.cy).bind fun y3=>
 req ((v1).length+(y3).length≤9223372036854775807)<|
 req (((v1++y3)).length+(([47]:Aa)).length≤9223372036854775807)<|
 (getI a2.ah 0).bind fun y4=>
 req ((((v1++y3)++([47]:Aa))).length+(y4).length≤9223372036854775807)<|
 some (((v1++y3)++([47]:Aa))++y4)
def ZM (a0:Int):Option (Bool):=
 some (decide (a0≥1))
def ZP (a0:Int):Option (Bool):=
 some (decide (a0≥2))
def Oz (v9:Int) (y11:AX) (v13:Aa) (v14:List AB):Option ((Int × List AB) ⊕ Option (List AB)):=
 if(v13 !=([]:Aa))then
  (ZP y11.bc).bind fun v15=>
  if v15 then
   (Jk 2 (⟨v13,([]:Aa),false⟩:Ac) v14).bind fun v16=>
   some (.inl ((IntKind.i64.wrap (v9+1)),v16.2))
  else
   some (.inl ((IntKind.i64.wrap (v9+1)),v14))
 else
  some (.inl ((IntKind.i64.wrap (v9+1)),v14))
def MZ (v9:Int) (v10:List AB) (y11:AX) (v12 v13:Aa):Option ((Int × List AB) ⊕ Option (List AB)):=
 if(v12 !=([]:Aa))then
  if(v12 !=v13)then
   (ZM y11.bc).bind fun v17=>
   if v17 then
    (Jk 3 (⟨v12,([]:Aa),false⟩:Ac) v10).bind fun v18=>
    Oz v9 y11 v13 v18.2
   else
    Oz v9 y11 v13 v10
  else
   Oz v9 y11 v13 v10
 else
  Oz v9 y11 v13 v10
def Y5 (a0:Aj) (a1:Ba) (v9:Int) (v10:List AB) (y11:AX) (v12:Aa):Option ((Int × List AB) ⊕ Option (List AB)):=
 if(a1.af !=2)then
  (MW a0 y11.ae a1.bj).bind fun v19=>
  MZ v9 v10 y11 v12 v19
 else
  MZ v9 v10 y11 v12 ([]:Aa)
def Ox (a0:Aj) (a1:Ba) (v9:Int) (v10:List AB):Option ((Int × List AB) ⊕ Option (List AB)):=
 if(decide (v9<(a0.aj.length:Int)))then
  (getI a0.aj v9).bind fun y11=>
  S5 (σ:=Aa) (
   if(a1.af !=1)then
    (MW a0 y11.ae a1.bg).bind fun v20=>
    some (.inl v20)
   else
    some (.inl ([]:Aa))
  ) (fun s=>Y5 a0 a1 v9 v10 y11 s)
 else
  some (.inr (some v10))
def Oy (a0:Aj) (a1:Ba) (v8:List AB):Option (List AB):=
 AN (fun s:Int × List AB=>Ox a0 a1 s.1 s.2) (0,v8)
def Rx (a0:Aj) (a1:Ba) (v1:Aa) (v4:List AB) (v5 v6:Aa) (v7:Bool):Option (List AB):=
 if(a1.af==1)then
  (Jk 6 (⟨v5,([]:Aa),false⟩:Ac) v4).bind fun v21=>
  (Jk 2 (⟨v5,v6,v7⟩:Ac) v21.2).bind fun v22=>
  Oy a0 a1 v22.2
 else
  if(a1.af==2)then
   (Jk 3 (⟨v1,([]:Aa),false⟩:Ac) v4).bind fun v23=>
   Oy a0 a1 v23.2
  else
   if(a1.af==3)then
    (Jk 2 (⟨v5,v6,v7⟩:Ac) v4).bind fun v24=>
    Oy a0 a1 v24.2
   else
    Oy a0 a1 v4
def MY (a0:Aj) (a1:Ba) (v1 v2:Aa) (v3:Bool) (v4:List AB):Option (List AB):=
 if(a1.af !=2)then
  (ON a0 a1.bj).bind fun v25=>
  Rx a0 a1 v1 v4 v25.ab v25.aw v25.a8
 else
  Rx a0 a1 v1 v4 ([]:Aa) ([]:Aa) false
def Rp (a0:Aj) (a1:Ba):Option (List AB):=
 S5 (σ:=Aa × Aa × Bool × List AB) (
  if(a1.af !=1)then
   (ON a0 a1.bg).bind fun v26=>
   (Jk 7 v26 ([]:List AB)).bind fun v27=>
   some (.inl (v26.ab,v26.aw,v26.a8,v27.2))
  else
   some (.inl (([]:Aa),([]:Aa),false, []))
 ) (fun s=>MY a0 a1 s.1 s.2.1 s.2.2.1 s.2.2.2)
def YW (a0:List Ac) (a1:Aa) (a2:Ac→(Aa)→Option Int) (v1:Int):Option (Int × Bool):=
 if(decide (v1<(a0.length:Int)))then
  (getI a0 v1).bind fun y2=>
  (a2 y2 a1).bind fun v3=>
  some (v1,(v3==0))
 else
  some (v1,false)
def OG (a0:List Ac) (a1:Aa) (a2:Ac→(Aa)→Option Int) (v4 v5:Int):Option ((Int × Int) ⊕ Option (Int × Bool)):=
 if(decide (v4<v5))then
  (getI a0 (IntKind.i64.wrap (Int.fdiv (IntKind.u64.wrap (IntKind.i64.wrap (v4+v5))) (2^(min ((1:Int)).toNat (IntKind.bits .u64)))))).bind fun y6=>
  (a2 y6 a1).bind fun v7=>
  if(decide (v7<0))then
   some (.inl ((IntKind.i64.wrap ((IntKind.i64.wrap (Int.fdiv (IntKind.u64.wrap (IntKind.i64.wrap (v4+v5))) (2^(min ((1:Int)).toNat (IntKind.bits .u64)))))+1)),v5))
  else
   some (.inl (v4,(IntKind.i64.wrap (Int.fdiv (IntKind.u64.wrap (IntKind.i64.wrap (v4+v5))) (2^(min ((1:Int)).toNat (IntKind.bits .u64)))))))
 else
  some (.inr (YW a0 a1 a2 v4))
def YX (a0:List Ac) (a1:Aa) (a2:Ac→(Aa)→Option Int):Option (Int × Bool):=
 AN (fun s:Int × Int=>OG a0 a1 a2 s.1 s.2) (0,(a0.length:Int))
def Rz (a0:Aa):Option (Bool):=
 some (a0 !=a0)
def OO (a0 a1:Aa):Option (Int):=
 (Rz a0).bind fun v1=>
 (Rz a1).bind fun v2=>
 if v1 then
  if v2 then
   some 0
  else
   some (-1)
 else
  if v2 then
   some 1
  else
   if(Op.bytesLess a0 a1)then
    some (-1)
   else
    if(!(Op.bytesLess a0 a1||a0==a1))then
     some 1
    else
     some 0
def O3 (a0:Ac) (a1:Aa):Option (Int):=
 (OO a0.ab a1).bind fun v1=>
 some v1
def Lx (a0:List Ac) (a1:Aa):Option (Int × Bool):=
 (YX a0 a1 (fun y0_ y1_=>O3 y0_ y1_)).bind fun v1=>
 some (v1.1,v1.2)
def M8 (a0:List Ac) (a1:Ac):Option (List Ac):=
 (Lx a0 a1.ab).bind fun v1=>
 if v1.2 then
  (getI a0 v1.1).bind fun y2=>
  some (a0.set (v1.1).toNat a1)
 else
  (We a0 v1.1 ([a1]:List Ac)).bind fun v3=>
  some v3
def OV (a0:Aa) (a2:List By) (v3:Int):Option ((Int) ⊕ Option (Aa × Bool × Bool)):=
 if(decide (v3<(a2.length:Int)))then
  (getI a2 v3).bind fun y4=>
  if(y4.ab==a0)then
   some (.inr (some (y4.aw,y4.en,true)))
  else
   some (.inl (IntKind.i64.wrap (v3+1)))
 else
  some (.inr (some (([]:Aa),false,false)))
def U6 (a0:Aa) (a1:List Ac) (a2:List By):Option (Aa × Bool × Bool):=
 (Lx a1 a0).bind fun v1=>
 if v1.2 then
  (getI a1 v1.1).bind fun y2=>
  some (y2.aw,(!y2.a8),true)
 else
  AN (fun s:Int=>OV a0 a2 s) 0
def RN (a0:Aa):Option (Int × Bool):=
 (Vg a0 (-999999) 999999).bind fun v1=>
 some (v1.1,v1.2)
def UK (a0:AB) (a1:Aa) (a2:Bool):Option (Bool):=
 (RN a1).bind fun v1=>
 if(a0.af==4)then
  if v1.2 then
   if a2 then
    (Kp (IntKind.i64.wrap (v1.1+a0.iw)) (-999999) 999999).bind fun v2=>
    some v2
   else
    some true
  else
   some ((!a2)||false)
 else
  if(a0.af==5)then
   some ((a2&&v1.2)&&(decide (v1.1≥a0.iw)))
  else
   if(a0.af==6)then
    some (!a2)
   else
    if(a0.af==7)then
     some (a2&&(a1==a0.aw))
    else
     some true
def Hr (a0:List AB) (a1:List By) (v1:Int) (v2:List Ac):Option ((Int × List Ac) ⊕ Option (Int × Aa × List Ac)):=
 if(decide (v1<(a0.length:Int)))then
  (getI a0 v1).bind fun y3=>
  if(y3.af==2)then
   (M8 v2 (⟨y3.ab,y3.aw,false⟩:Ac)).bind fun v4=>
   some (.inl ((IntKind.i64.wrap (v1+1)),v4))
  else
   if(y3.af==3)then
    (M8 v2 (⟨y3.ab,([]:Aa),true⟩:Ac)).bind fun v5=>
    some (.inl ((IntKind.i64.wrap (v1+1)),v5))
   else
    (U6 y3.ab v2 a1).bind fun v6=>
    if(!v6.2.2)then
     some (.inr (some (1,y3.ab, [])))
    else
     (UK y3 v6.1 v6.2.1).bind fun v7=>
     if(!v7)then
      some (.inr (some (2,([]:Aa), [])))
     else
      if(y3.af==4)then
       (RN v6.1).bind fun v8=>
       (ZS (IntKind.i64.wrap (v8.1+y3.iw))).bind fun v9=>
       (M8 v2 (⟨y3.ab,v9,false⟩:Ac)).bind fun v10=>
       some (.inl ((IntKind.i64.wrap (v1+1)),v10))
      else
       some (.inl ((IntKind.i64.wrap (v1+1)),v2))
 else
  some (.inr (some (3,([]:Aa),v2)))
def ZR (a0:List AB) (a1:List By):Option (Int × Aa × List Ac):=
 AN (fun s:Int × List Ac=>Hr a0 a1 s.1 s.2) (0, [])
def Vs (a0:List Ac) (a1:Aa):Option (By):=
 (Lx a0 a1).bind fun v1=>
 if(!v1.2)then
  some (⟨a1,([]:Aa),false⟩:By)
 else
  (getI a0 v1.1).bind fun y2=>
  some (⟨a1,y2.aw,true⟩:By)
def M1 (a0:List Ac) (a1:List AB) (v1:List By):Option ((List By) ⊕ Option (List By × List Ac × Bool)):=
 (ZR a1 v1).bind fun v2=>
 if(v2.1 !=1)then
  some (.inr (some (v1,v2.2.2,(v2.1==3))))
 else
  (Vs a0 v2.2.1).bind fun v3=>
  req ((((v1).length:Int)+(([v3]:List By).length:Int))*40≤140737488355328∧((v1).length:Int)+(([v3]:List By).length:Int)≤140737488355328)<|
  some (.inl (v1++ [v3]))
def Z0 (a0:List Ac) (a1:List AB):Option (List By × List Ac × Bool):=
 AN (fun s:List By=>M1 a0 a1 s) []
def ZD (a0:Ac):Option (Bool):=
 some a0.a8
def Zr (v2:List Ac):Option (List Ac × Bool):=
 (Vv v2 (fun y0_=>ZD y0_)).bind fun v3=>
 if(decide ((v3.length:Int)>24))then
  some ([],false)
 else
  some (v3,true)
def OW (a1:List Ac) (v4:Int) (v5:List Ac):Option ((Int × List Ac) ⊕ Option (List Ac × Bool)):=
 if(decide (v4<(a1.length:Int)))then
  (getI a1 v4).bind fun y6=>
  (M8 v5 y6).bind fun v7=>
  some (.inl ((IntKind.i64.wrap (v4+1)),v7))
 else
  some (.inr (Zr v5))
def Vl (a0 a1:List Ac):Option (List Ac × Bool):=
 (Rn a0).bind fun v1=>
 AN (fun s:Int × List Ac=>OW a1 s.1 s.2) (0,v1)
def RV (a0:List Ac) (a1:List AB):Option (List Ac × Bool):=
 (Z0 a0 a1).bind fun v1=>
 (Vl a0 v1.2.1).bind fun v2=>
 if((!v1.2.2)||(!v2.2))then
  req (((([]:List Ac).length:Int)+((a0).length:Int))*40≤140737488355328∧(([]:List Ac).length:Int)+((a0).length:Int)≤140737488355328)<|
  some (a0,false)
 else
  some (v2.1,true)
def T8 (a0 a1:Aa):Option (Bool):=
 if(decide ((a0.length:Int)≥(a1.length:Int)))then
  req (0≤(0:Int)∧(0:Int)≤(a1.length:Int)∧(a1.length:Int)≤(a0.length:Int))<|
  some ((AR a0 0 (a1.length:Int))==a1)
 else
  some false
def YY (a0 a1:Aa):Option (Aa × Bool):=
 (T8 a0 a1).bind fun v1=>
 if(!v1)then
  some (a0,false)
 else
  req (0≤(a1.length:Int)∧(a1.length:Int)≤(a0.length:Int)∧(a0.length:Int)≤(a0.length:Int))<|
  some ((AR a0 (a1.length:Int) (a0.length:Int)),true)
def RA (a0 a1:Aa):Option (Aa × Bool):=
 (YY a0 a1).bind fun v1=>
 some (v1.1,v1.2)
def Uh (a0:Aj) (a1:Ac):Option (An × Bool):=
 req ((a0.ae).length+(([47]:Aa)).length≤9223372036854775807)<|
 (RA a1.ab (a0.ae++([47]:Aa))).bind fun v1=>
 (M9 a1.aw ([44]:Aa)).bind fun v2=>
 req (((([v1.1]:List (Aa)).length:Int)+((v2).length:Int))*16≤140737488355328∧(([v1.1]:List (Aa)).length:Int)+((v2).length:Int)≤140737488355328)<|
 if v1.2 then
  (Lu a0 (⟨([v1.1]++v2)⟩:An)).bind fun v3=>
  if v3 then
   (ON a0 (⟨([v1.1]++v2)⟩:An)).bind fun v4=>
   if(!(a1.ab==v4.ab&&(a1.aw==v4.aw&&(a1.a8==v4.a8))))then
    some ((⟨[]⟩:An),false)
   else
    some ((⟨([v1.1]++v2)⟩:An),true)
  else
   some ((⟨[]⟩:An),false)
 else
  some ((⟨[]⟩:An),false)
def OE (a0:Aj) (a1:List Ac) (v1:Int) (v2:List An):Option ((Int × List An) ⊕ Option (List An)):=
 if(decide (v1<(a1.length:Int)))then
  (getI a1 v1).bind fun y3=>
  (Uh a0 y3).bind fun v4=>
  if v4.2 then
   req ((((v2).length:Int)+(([v4.1]:List An).length:Int))*24≤140737488355328∧((v2).length:Int)+(([v4.1]:List An).length:Int)≤140737488355328)<|
   some (.inl ((IntKind.i64.wrap (v1+1)),(v2++ [v4.1])))
  else
   some (.inl ((IntKind.i64.wrap (v1+1)),v2))
 else
  some (.inr (some v2))
def Zf (a0:Aj) (a1:List Ac):Option (List An):=
 AN (fun s:Int × List An=>OE a0 a1 s.1 s.2) (0, [])
def Y1 (a0:An) (a1:Aa):Option (Bool):=
 (getI a0.ah 0).bind fun y1=>
 some (y1==a1)
def RB (a0:Aj) (a1:List Ac) (a2:Aa):Option (An × Bool):=
 (Zf a0 a1).bind fun v1=>
 (FH v1 (fun y0_=>Y1 y0_ a2)).bind fun v2=>
 if(decide (v2<0))then
  some ((⟨[]⟩:An),false)
 else
  (getI v1 v2).bind fun y3=>
  some (y3,true)
def Uc (a0 a1:Aa):Option (Aa × Aa × Bool):=
 (OA a0 a1).bind fun v1=>
 if(decide (v1≥0))then
  req (0≤(0:Int)∧(0:Int)≤v1∧v1≤(a0.length:Int))<|
  req (0≤(IntKind.i64.wrap (v1+(a1.length:Int)))∧(IntKind.i64.wrap (v1+(a1.length:Int)))≤(a0.length:Int)∧(a0.length:Int)≤(a0.length:Int))<|
  some ((AR a0 0 v1),(AR a0 (IntKind.i64.wrap (v1+(a1.length:Int))) (a0.length:Int)),true)
 else
  some (a0,([]:Aa),false)
def Pj (a0 a1:Aa):Option (Aa × Aa × Bool):=
 (Uc a0 a1).bind fun v1=>
 some (v1.1,v1.2.1,v1.2.2)
def MX (a0:Aj) (a1 a2:Aa):Option (Aa × Aa × Bool):=
 (Ru a0 a1).bind fun v1=>
 (RA a2 v1).bind fun v2=>
 (Pj v2.1 ([47]:Aa)).bind fun v3=>
 if v2.2 then
  if v3.2.2 then
   (Kn v3.1).bind fun v4=>
   if v4 then
    (Kn v3.2.1).bind fun v5=>
    if(!v5)then
     some (([]:Aa),([]:Aa),false)
    else
     some (v3.1,v3.2.1,true)
   else
    some (([]:Aa),([]:Aa),false)
  else
   some (([]:Aa),([]:Aa),false)
 else
  some (([]:Aa),([]:Aa),false)
def OB (a0:Aj) (a1:Aa) (a2:List Ac) (v1:Int) (v2:List (Aa)):Option ((Int × List (Aa)) ⊕ Option (List (Aa))):=
 if(decide (v1<(a2.length:Int)))then
  (getI a2 v1).bind fun y3=>
  (MX a0 a1 y3.ab).bind fun v4=>
  if v4.2.2 then
   req ((((v2).length:Int)+(([y3.ab]:List (Aa)).length:Int))*16≤140737488355328∧((v2).length:Int)+(([y3.ab]:List (Aa)).length:Int)≤140737488355328)<|
   some (.inl ((IntKind.i64.wrap (v1+1)),(v2++ [y3.ab])))
  else
   some (.inl ((IntKind.i64.wrap (v1+1)),v2))
 else
  some (.inr (some v2))
def Y2 (a0:Aj) (a1:Aa) (a2:List Ac):Option (List (Aa)):=
 AN (fun s:Int × List (Aa)=>OB a0 a1 a2 s.1 s.2) (0, [])
def zna (a0:List Int) (v1:Int):Option ((Int) ⊕ Option (Int)):=
 if(decide (v1<(a0.length:Int)))then
  (getI a0 v1).bind fun y2=>
  if(y2 !=0)then
   some (.inr (some y2))
  else
   some (.inl (IntKind.i64.wrap (v1+1)))
 else
  some (.inr (some 0))
def lB (a0:List Int):Option (Int):=
 AN (fun s:Int=>zna a0 s) 0
def zh1 (a0 a1:Bk):Option (Int):=
 (OO a0.bh a1.bh).bind fun v1=>
 (OO a0.al a1.al).bind fun v2=>
 (lB ([v1,v2]:List Int)).bind fun v3=>
 some v3
def OC (a0:Aj) (a1:List Ac) (v5:Unit × List Bk) (v6:Int) (v7:List An):Option ((Int × List An) ⊕ Option (List An × Bool)):=
 if(decide (v6<(v5.2.length:Int)))then
  (getI v5.2 v6).bind fun y8=>
  (RB a0 a1 y8.al).bind fun v9=>
  if v9.2 then
   req ((((v7).length:Int)+(([v9.1]:List An).length:Int))*24≤140737488355328∧((v7).length:Int)+(([v9.1]:List An).length:Int)≤140737488355328)<|
   some (.inl ((IntKind.i64.wrap (v6+1)),(v7++ [v9.1])))
  else
   some (.inl ((IntKind.i64.wrap (v6+1)),v7))
 else
  some (.inr (some (v7,true)))
def Y0 (a0:Aj) (a1:List Ac) (v4:List Bk):Option (List An × Bool):=
 (UX 199 [] v4).bind fun v5=>
 AN (fun s:Int × List An=>OC a0 a1 v5 s.1 s.2) (0, [])
def OD (a0:Aj) (a1:List Ac) (a2:Bo) (v3:List (Aa)) (v10:Int) (v11:List Bk):Option ((Int × List Bk) ⊕ Option (List An × Bool)):=
 if(decide (v10<(v3.length:Int)))then
  (getI v3 v10).bind fun y12=>
  (MX a0 a2.a7 y12).bind fun v13=>
  if((!Op.bytesLess v13.1 a2.ca)&&(Op.bytesLess v13.1 a2.cg||v13.1==a2.cg))then
   req ((((v11).length:Int)+(([(⟨v13.1,v13.2.1⟩:Bk)]:List Bk).length:Int))*32≤140737488355328∧((v11).length:Int)+(([(⟨v13.1,v13.2.1⟩:Bk)]:List Bk).length:Int)≤140737488355328)<|
   some (.inl ((IntKind.i64.wrap (v10+1)),(v11++ [(⟨v13.1,v13.2.1⟩:Bk)])))
  else
   some (.inl ((IntKind.i64.wrap (v10+1)),v11))
 else
  some (.inr (Y0 a0 a1 v11))
def Un (a0:Aj) (a1:List Ac) (a2:Bo):Option (List An × Bool):=
 if(a2.af==2)then
  (RB a0 a1 a2.ca).bind fun v1=>
  if v1.2 then
   req (((([]:List An).length:Int)+(([v1.1]:List An).length:Int))*24≤140737488355328∧(([]:List An).length:Int)+(([v1.1]:List An).length:Int)≤140737488355328)<|
   some ([v1.1],true)
  else
   some ([],true)
 else
  if(a2.af !=3)then
   some ([],false)
  else
   (M7 a0 a2.a7).bind fun v2=>
   if(v2.bc !=3)then
    some ([],false)
   else
    (Y2 a0 a2.a7 a1).bind fun v3=>
    AN (fun s:Int × List Bk=>OD a0 a1 a2 v3 s.1 s.2) (0, [])
def Y3 (a1:List Ac) (v5:List (Aa)):Option (List Ac × Aa):=
 (Pc v5 ([32]:Aa)).bind fun v6=>
 some (a1,v6)
def OF (a1:List Ac) (v4:List An × Bool) (v7:Int) (v8:List (Aa)):Option ((Int × List (Aa)) ⊕ Option (List Ac × Aa)):=
 if(decide (v7<(v4.1.length:Int)))then
  (getI v4.1 v7).bind fun y9=>
  (IS y9).bind fun v10=>
  req ((((v8).length:Int)+(([v10]:List (Aa)).length:Int))*16≤140737488355328∧((v8).length:Int)+(([v10]:List (Aa)).length:Int)≤140737488355328)<|
  some (.inl ((IntKind.i64.wrap (v7+1)),(v8++ [v10])))
 else
  some (.inr (Y3 a1 v8))
def Uz (a0:Aj) (a1:List Ac) (a2:Aa):Option (List Ac × Aa):=
 (Rr a0 a2).bind fun v1=>
 if(!v1.2)then
  some (a1,([119,104,97,116]:Aa))
 else
  if(v1.1.af==1)then
   (Rp a0 v1.1.bb).bind fun v2=>
   (RV a1 v2).bind fun v3=>
   if v3.2 then
    some (v3.1,([100,111,110,101]:Aa))
   else
    some (v3.1,([110,111,116]:Aa))
  else
   (Un a0 a1 v1.1).bind fun v4=>
   if(!v4.2)then
    some (a1,([99,108,111,115,101,100]:Aa))
   else
    if((v4.1.length:Int)==0)then
     some (a1,([110,111,110,101]:Aa))
    else
     AN (fun s:Int × List (Aa)=>OF a1 v4 s.1 s.2) (0, [])
def O8 (a0:Aj) (a2:List (Aa)) (v4:List Ac) (v5:Int) (v6:List (Aa)):Option ((List Ac × Int × List (Aa)) ⊕ Option (List Ac × List (Aa) × Bool)):=
 if(decide (v5<(a2.length:Int)))then
  (getI a2 v5).bind fun y7=>
  (Uz a0 v4 y7).bind fun v8=>
  req ((((v6).length:Int)+(([v8.2]:List (Aa)).length:Int))*16≤140737488355328∧((v6).length:Int)+(([v8.2]:List (Aa)).length:Int)≤140737488355328)<|
  some (.inl (v8.1,(IntKind.i64.wrap (v5+1)),(v6++ [v8.2])))
 else
  some (.inr (some (v4,v6,true)))
def Vc (a0:Aj) (a1:List Ac) (a2:List (Aa)):Option (List Ac × List (Aa) × Bool):=
 (OZ a0).bind fun v1=>
 if v1 then
  (RQ a1).bind fun v2=>
  if((!v2)||(decide ((a2.length:Int)>12)))then
   some ([], [],false)
  else
   (Rn a1).bind fun v3=>
   AN (fun s:List Ac × Int × List (Aa)=>O8 a0 a2 s.1 s.2.1 s.2.2) (v3,0, [])
 else
  some ([], [],false)
def RY (a0:Aa):Option (Bool):=
 (IT (a0.length:Int) 1 12).bind fun v1=>
 if v1 then
  (Pd a0 ([46,47]:Aa)).bind fun v2=>
  some v2
 else
  some false
def R0 (a0:Aa):Option (Bool):=
 if(decide ((a0.length:Int)≤24))then
  (Pd a0 ([46,45,44,95]:Aa)).bind fun v1=>
  some v1
 else
  some false
def U8 (a0 a1:Aa) (a2:Bool):Option (Bool):=
 (RY a0).bind fun v1=>
 if v1 then
  (R0 a1).bind fun v2=>
  some (v2&&((!a2)||(a1==([]:Aa))))
 else
  some false
def Zy (a0:List Ac):Option (Bool):=
 some (decide ((a0.length:Int)≤24))
def Zt (a0:List Ac) (v1:Int):Option ((Int) ⊕ Option (Bool)):=
 if(decide (v1<(a0.length:Int)))then
  (getI a0 v1).bind fun y2=>
  (U8 y2.ab y2.aw y2.a8).bind fun v3=>
  if(decide (v1>0))then
   if v3 then
    (getI a0 (IntKind.i64.wrap (v1-1))).bind fun y4=>
    if(!Op.bytesLess y4.ab y2.ab)then
     some (.inr (some false))
    else
     some (.inl (IntKind.i64.wrap (v1+1)))
   else
    some (.inr (some false))
  else
   if((!v3)||false)then
    some (.inr (some false))
   else
    some (.inl (IntKind.i64.wrap (v1+1)))
 else
  some (.inr (Zy a0))
def UQ (a0:List Ac):Option (Bool):=
 AN (fun s:Int=>Zt a0 s) 0
def ZG (a0:List Ac):Option (Bool):=
 (UQ a0).bind fun v1=>
 some v1
def ZF (a0:List Ac) (v2:Int):Option ((Int) ⊕ Option (Bool)):=
 if(decide (v2<(a0.length:Int)))then
  (getI a0 v2).bind fun y3=>
  if y3.a8 then
   some (.inr (some false))
  else
   some (.inl (IntKind.i64.wrap (v2+1)))
 else
  some (.inr (ZG a0))
def Nb (a0:List Ac):Option (Bool):=
 AN (fun s:Int=>ZF a0 s) 0
def Km (a0:Aa):Option (An):=
 (HW a0 44).bind fun v1=>
 some (⟨v1⟩:An)
def Vn (a0:List (Aa)):Option (Bo):=
 if((a0.length:Int)==3)then
  (getI a0 0).bind fun y1=>
  if(y1==([103,101,116]:Aa))then
   (getI a0 2).bind fun y2=>
   some (⟨2,(⟨0,(⟨[]⟩:An),(⟨[]⟩:An)⟩:Ba),([]:Aa),y2,([]:Aa)⟩:Bo)
  else
   if(((a0.length:Int)==5)&&(y1==([114,97,110,103,101]:Aa)))then
    (getI a0 2).bind fun y3=>
    (getI a0 3).bind fun y4=>
    (getI a0 4).bind fun y5=>
    some (⟨3,(⟨0,(⟨[]⟩:An),(⟨[]⟩:An)⟩:Ba),y3,y4,y5⟩:Bo)
   else
    if(y1==([105,110,115,101,114,116]:Aa))then
     (getI a0 2).bind fun y6=>
     (Km y6).bind fun v7=>
     some (⟨1,(⟨1,(⟨[]⟩:An),v7⟩:Ba),([]:Aa),([]:Aa),([]:Aa)⟩:Bo)
    else
     if(y1==([100,101,108,101,116,101]:Aa))then
      (getI a0 2).bind fun y8=>
      (Km y8).bind fun v9=>
      some (⟨1,(⟨2,v9,(⟨[]⟩:An)⟩:Ba),([]:Aa),([]:Aa),([]:Aa)⟩:Bo)
     else
      if(((a0.length:Int)==5)&&(y1==([117,112,100,97,116,101]:Aa)))then
       (getI a0 2).bind fun y10=>
       (Km y10).bind fun v11=>
       (getI a0 4).bind fun y12=>
       (Km y12).bind fun v13=>
       some (⟨1,(⟨3,v11,v13⟩:Ba),([]:Aa),([]:Aa),([]:Aa)⟩:Bo)
      else
       some (⟨0,(⟨0,(⟨[]⟩:An),(⟨[]⟩:An)⟩:Ba),([]:Aa),([]:Aa),([]:Aa)⟩:Bo)
 else
  if((a0.length:Int)==5)then
   (getI a0 0).bind fun y14=>
   if(y14==([114,97,110,103,101]:Aa))then
    (getI a0 2).bind fun y15=>
    (getI a0 3).bind fun y16=>
    (getI a0 4).bind fun y17=>
    some (⟨3,(⟨0,(⟨[]⟩:An),(⟨[]⟩:An)⟩:Ba),y15,y16,y17⟩:Bo)
   else
    if(y14==([117,112,100,97,116,101]:Aa))then
     (getI a0 2).bind fun y18=>
     (Km y18).bind fun v19=>
     (getI a0 4).bind fun y20=>
     (Km y20).bind fun v21=>
     some (⟨1,(⟨3,v19,v21⟩:Ba),([]:Aa),([]:Aa),([]:Aa)⟩:Bo)
    else
     some (⟨0,(⟨0,(⟨[]⟩:An),(⟨[]⟩:An)⟩:Ba),([]:Aa),([]:Aa),([]:Aa)⟩:Bo)
  else
   some (⟨0,(⟨0,(⟨[]⟩:An),(⟨[]⟩:An)⟩:Ba),([]:Aa),([]:Aa),([]:Aa)⟩:Bo)
def Ve (a0:Aj) (a1:Ba):Option (Bool):=
 if(a1.af==1)then
  if((a1.bg.ah.length:Int)==0)then
   (Ly a0 a1.bj).bind fun v1=>
   some v1
  else
   some false
 else
  if(a1.af==2)then
   if((a1.bj.ah.length:Int)==0)then
    (Ly a0 a1.bg).bind fun v2=>
    some v2
   else
    some false
  else
   if(a1.af==3)then
    (Ly a0 a1.bg).bind fun v3=>
    if v3 then
     (Ly a0 a1.bj).bind fun v4=>
     if v4 then
      (getI a1.bg.ah 0).bind fun y5=>
      (getI a1.bj.ah 0).bind fun y6=>
      some (y5==y6)
     else
      some false
    else
     some false
   else
    some false
def UM (a0:Ba):Option (Bool):=
 some (((a0.af==0)&&((a0.bg.ah.length:Int)==0))&&((a0.bj.ah.length:Int)==0))
def ZC (a0:Aj) (a1:Aa) (v1:Int):Option ((Int) ⊕ Option (Int)):=
 if(decide (v1<(a0.aj.length:Int)))then
  (getI a0.aj v1).bind fun y2=>
  if(y2.ae==a1)then
   some (.inr (some v1))
  else
   some (.inl (IntKind.i64.wrap (v1+1)))
 else
  some (.inr (some (-1)))
def RU (a0:Aj) (a1:Aa):Option (Int):=
 AN (fun s:Int=>ZC a0 a1 s) 0
def U9 (a0:Aj) (a1:Bo):Option (Bool):=
 if(a1.af==1)then
  (Ve a0 a1.bb).bind fun v1=>
  some (((v1&&(a1.a7==([]:Aa)))&&(a1.ca==([]:Aa)))&&(a1.cg==([]:Aa)))
 else
  if(a1.af==2)then
   (UM a1.bb).bind fun v2=>
   if v2 then
    if(a1.a7==([]:Aa))then
     (Kl a1.ca).bind fun v3=>
     some (v3&&(a1.cg==([]:Aa)))
    else
     some false
   else
    some false
  else
   if(a1.af==3)then
    (UM a1.bb).bind fun v4=>
    if v4 then
     (RU a0 a1.a7).bind fun v5=>
     if(decide (v5≥0))then
      (Kl a1.ca).bind fun v6=>
      if v6 then
       (Kl a1.cg).bind fun v7=>
       some v7
      else
       some false
     else
      some false
    else
     some false
   else
    some false
def Vj (a0:Aj) (a1:Aa):Option (Bo × Bool):=
 (HW a1 32).bind fun v1=>
 (Vn v1).bind fun v2=>
 (U9 a0 v2).bind fun v3=>
 if v3 then
  (RJ a0 v2).bind fun v4=>
  some (v2,(v4==a1))
 else
  some (v2,false)
def Vb (a0:Aj) (a1:Ba):Option (List AB):=
 if(a1.af==1)then
  (Lv a0 a1.bj).bind fun v1=>
  some [(⟨6,v1.ab,([]:Aa),0⟩:AB),(⟨2,v1.ab,v1.aw,0⟩:AB)]
 else
  (Lv a0 a1.bg).bind fun v2=>
  if(a1.af==2)then
   some [(⟨7,v2.ab,v2.aw,0⟩:AB),(⟨3,v2.ab,([]:Aa),0⟩:AB)]
  else
   (Lv a0 a1.bj).bind fun v3=>
   some [(⟨7,v2.ab,v2.aw,0⟩:AB),(⟨2,v2.ab,v3.aw,0⟩:AB)]
def UH (a1:AX) (v2:Aa) (v3:List AB):Option (List AB):=
 if((v2 !=([]:Aa))&&(decide (a1.bc≥2)))then
  req ((((v3).length:Int)+(([(⟨2,v2,([]:Aa),0⟩:AB)]:List AB).length:Int))*48≤140737488355328∧((v3).length:Int)+(([(⟨2,v2,([]:Aa),0⟩:AB)]:List AB).length:Int)≤140737488355328)<|
  some (v3++ [(⟨2,v2,([]:Aa),0⟩:AB)])
 else
  some v3
def RE (a1:AX) (v1 v2:Aa):Option (List AB):=
 if(((v1 !=([]:Aa))&&(v1 !=v2))&&(decide (a1.bc≥1)))then
  req (((([]:List AB).length:Int)+(([(⟨3,v1,([]:Aa),0⟩:AB)]:List AB).length:Int))*48≤140737488355328∧(([]:List AB).length:Int)+(([(⟨3,v1,([]:Aa),0⟩:AB)]:List AB).length:Int)≤140737488355328)<|
  UH a1 v2 [(⟨3,v1,([]:Aa),0⟩:AB)]
 else
  UH a1 v2 []
def UF (a0:Aj) (a1:AX) (a2:Ba) (v1:Aa):Option (List AB):=
 if(a2.af !=2)then
  (Lw a0 a1 a2.bj).bind fun v4=>
  RE a1 v1 v4
 else
  RE a1 v1 ([]:Aa)
def RS (a0:Aj) (a1:AX) (a2:Ba):Option (List AB):=
 S5 (σ:=Aa) (
  if(a2.af !=1)then
   (Lw a0 a1 a2.bg).bind fun v5=>
   some (.inl v5)
  else
   some (.inl ([]:Aa))
 ) (fun s=>UF a0 a1 a2 s)
def OQ (a0:Aj) (a1:Ba) (v2:Int) (v3:List AB):Option ((Int × List AB) ⊕ Option (List AB)):=
 if(decide (v2<(a0.aj.length:Int)))then
  (getI a0.aj v2).bind fun y4=>
  (RS a0 y4 a1).bind fun v5=>
  req ((((v3).length:Int)+((v5).length:Int))*48≤140737488355328∧((v3).length:Int)+((v5).length:Int)≤140737488355328)<|
  some (.inl ((IntKind.i64.wrap (v2+1)),(v3++v5)))
 else
  some (.inr (some v3))
def U1 (a0:Aj) (a1:Ba):Option (List AB):=
 (Vb a0 a1).bind fun v1=>
 AN (fun s:Int × List AB=>OQ a0 a1 s.1 s.2) (0,v1)
def ZT (a0:AB) (v2:Bool):Option (Bool):=
 if v2 then
  (R0 a0.aw).bind fun v3=>
  some (v3&&(a0.iw==0))
 else
  if(a0.af==4)then
   if(a0.af==4)then
    if(a0.aw==([]:Aa))then
     (IT a0.iw (-9999) 9999).bind fun v4=>
     some v4
    else
     some false
   else
    some (((((a0.af==1)||(a0.af==3))||(a0.af==6))&&(a0.aw==([]:Aa)))&&(a0.iw==0))
  else
   if(a0.af==5)then
    if(a0.aw==([]:Aa))then
     (IT a0.iw (-9999) 9999).bind fun v5=>
     some v5
    else
     some false
   else
    some (((((a0.af==1)||(a0.af==3))||(a0.af==6))&&(a0.aw==([]:Aa)))&&(a0.iw==0))
def Vy (a0:AB):Option (Bool):=
 (RY a0.ab).bind fun v1=>
 if(!v1)then
  some false
 else
  if(a0.af==2)then
   ZT a0 (a0.af==2)
  else
   ZT a0 (a0.af==7)
def ZH (a0:List AB):Option (Bool):=
 some (decide ((a0.length:Int)≤8))
def OR (a0:List AB) (v1:Int):Option ((Int) ⊕ Option (Bool)):=
 if(decide (v1<(a0.length:Int)))then
  (getI a0 v1).bind fun y2=>
  (Vy y2).bind fun v3=>
  if(!v3)then
   some (.inr (some false))
  else
   some (.inl (IntKind.i64.wrap (v1+1)))
 else
  some (.inr (ZH a0))
def U4 (a0:List AB):Option (Bool):=
 AN (fun s:Int=>OR a0 s) 0
def O4 (a1:List By) (a2:Aa) (v1:Int):Option ((Int) ⊕ Option (Aa × Bool × Bool)):=
 if(decide (v1<(a1.length:Int)))then
  (getI a1 v1).bind fun y2=>
  if(y2.ab==a2)then
   some (.inr (some (y2.aw,y2.en,true)))
  else
   some (.inl (IntKind.i64.wrap (v1+1)))
 else
  some (.inr (some (([]:Aa),false,false)))
def Uq (a1:List By) (a2:Aa):Option (Aa × Bool × Bool):=
 AN (fun s:Int=>O4 a1 a2 s) 0
def O1 (a0:List Ac) (a1:List By) (a2:Aa) (v3:Int):Option ((Int) ⊕ Option (Aa × Bool × Bool)):=
 if(decide (v3<(a0.length:Int)))then
  (getI a0 v3).bind fun y4=>
  if(y4.ab==a2)then
   some (.inr (some (y4.aw,(!y4.a8),true)))
  else
   some (.inl (IntKind.i64.wrap (v3+1)))
 else
  some (.inr (Uq a1 a2))
def UT (a0:List Ac) (a1:List By) (a2:Aa):Option (Aa × Bool × Bool):=
 AN (fun s:Int=>O1 a0 a1 a2 s) 0
def Ko (a0:Aa) (v3 v4:Int):Option ((Int × Int) ⊕ Option (Int)):=
 if(decide (v4<(a0.length:Int)))then
  (getI a0 v4).bind fun y5=>
  if((decide ((y5.toNat:Int)<48))||(decide ((y5.toNat:Int)>57)))then
   some (.inr (some (-1)))
  else
   some (.inl ((IntKind.i64.wrap ((IntKind.i64.wrap ((10:Int)*v3))+(IntKind.i64.wrap (IntKind.u8.wrap ((y5.toNat:Int)-48))))),(IntKind.i64.wrap (v4+1))))
 else
  some (.inr (some v3))
def RW (a0:Aa):Option (Int):=
 (IT (a0.length:Int) 1 6).bind fun v1=>
 if v1 then
  (getI a0 0).bind fun y2=>
  if(((y2.toNat:Int)==48)&&(decide ((a0.length:Int)>1)))then
   some (-1)
  else
   AN (fun s:Int × Int=>Ko a0 s.1 s.2) (0,0)
 else
  some (-1)
def UW (y1:UInt8) (v2:Aa):Option (Int × Bool):=
 (RW v2).bind fun v3=>
 if((decide (v3<0))||(((y1.toNat:Int)==45)&&(v3==0)))then
  some (0,false)
 else
  if((y1.toNat:Int)==45)then
   some ((IntKind.i64.wrap (0-v3)),true)
  else
   some (v3,true)
def kS (v4:Aa):Option (Int × Bool):=
 (RW v4).bind fun v5=>
 if((decide (v5<0))||false)then
  some (0,false)
 else
  some (v5,true)
def RZ (a0:Aa):Option (Int × Bool):=
 if(decide ((a0.length:Int)>0))then
  (getI a0 0).bind fun y1=>
  if((y1.toNat:Int)==45)then
   req (0≤(1:Int)∧(1:Int)≤(a0.length:Int)∧(a0.length:Int)≤(a0.length:Int))<|
   UW y1 (AR a0 1 (a0.length:Int))
  else
   UW y1 a0
 else
  kS a0
def Vh (a0:AB) (a1:Aa) (a2:Bool):Option (Bool):=
 (RZ a1).bind fun v1=>
 if(a0.af==4)then
  if(!a2)then
   some false
  else
   if v1.2 then
    (IT (IntKind.i64.wrap (v1.1+a0.iw)) (-999999) 999999).bind fun v2=>
    some (!v2)
   else
    some true
 else
  if(a0.af==5)then
   some (((!a2)||(!v1.2))||(decide (v1.1<a0.iw)))
  else
   if(a0.af==6)then
    some a2
   else
    if(a0.af==7)then
     some ((!a2)||(a1 !=a0.aw))
    else
     some false
def RP:Nat→Int→Option (Aa)
 |0,_=>none
 |n_+1,a0=>
  if(decide (a0<10))then
   req (([(IntKind.u8.wrap (IntKind.i64.wrap ((48:Int)+a0)))]:List Int).length≤9223372036854775807)<|
   some ([(IntKind.u8.wrap (IntKind.i64.wrap ((48:Int)+a0)))].map fun n=>UInt8.ofNat n.toNat)
  else
   ((RP n_) (IntKind.i64.wrap (Int.tdiv a0 10))).bind fun v1=>
   req (([(IntKind.u8.wrap (IntKind.i64.wrap ((48:Int)+(Int.tmod a0 10))))]:List Int).length≤9223372036854775807)<|
   req ((v1).length+(([(IntKind.u8.wrap (IntKind.i64.wrap ((48:Int)+(Int.tmod a0 10))))].map fun n=>UInt8.ofNat n.toNat)).length≤9223372036854775807)<|
   some (v1++([(IntKind.u8.wrap (IntKind.i64.wrap ((48:Int)+(Int.tmod a0 10))))].map fun n=>UInt8.ofNat n.toNat))
def aC:Int→Option (Aa):=RP jA
def Z6 (a0:Int):Option (Aa):=
 if(decide (a0<0))then
  (aC (IntKind.i64.wrap (0-a0))).bind fun v1=>
  req ((([45]:Aa)).length+(v1).length≤9223372036854775807)<|
  some ((([45]:Aa):Aa)++v1)
 else
  (aC a0).bind fun v2=>
  some v2
def Hs (a0:List AB) (a1:List By) (v1:List Ac) (v2:Int):Option ((List Ac × Int) ⊕ Option (Int × Aa × List Ac)):=
 if(decide (v2<(a0.length:Int)))then
  (getI a0 v2).bind fun y3=>
  (UT v1 a1 y3.ab).bind fun v4=>
  if(((!v4.2.2)&&(y3.af !=2))&&(y3.af !=3))then
   some (.inr (some (1,y3.ab, [])))
  else
   (Vh y3 v4.1 v4.2.1).bind fun v5=>
   if v5 then
    some (.inr (some (2,([]:Aa), [])))
   else
    if(y3.af==2)then
     (G1 v1 (⟨y3.ab,y3.aw,false⟩:Ac)).bind fun v6=>
     some (.inl (v6,(IntKind.i64.wrap (v2+1))))
    else
     if(y3.af==3)then
      (G1 v1 (⟨y3.ab,([]:Aa),true⟩:Ac)).bind fun v7=>
      some (.inl (v7,(IntKind.i64.wrap (v2+1))))
     else
      if(y3.af==4)then
       (RZ v4.1).bind fun v8=>
       if(!v4.2.1)then
        (Z6 (IntKind.i64.wrap ((0:Int)+y3.iw))).bind fun v9=>
        (G1 v1 (⟨y3.ab,v9,false⟩:Ac)).bind fun v10=>
        some (.inl (v10,(IntKind.i64.wrap (v2+1))))
       else
        (Z6 (IntKind.i64.wrap (v8.1+y3.iw))).bind fun v11=>
        (G1 v1 (⟨y3.ab,v11,false⟩:Ac)).bind fun v12=>
        some (.inl (v12,(IntKind.i64.wrap (v2+1))))
      else
       some (.inl (v1,(IntKind.i64.wrap (v2+1))))
 else
  some (.inr (some (3,([]:Aa),v1)))
def Z5 (a0:List AB) (a1:List By):Option (Int × Aa × List Ac):=
 AN (fun s:List Ac × Int=>Hs a0 a1 s.1 s.2) ([],0)
def kP (a1:Aa):Option (By):=
 some (⟨a1,([]:Aa),false⟩:By)
def O0 (a0:List Ac) (a1:Aa) (v1:Int):Option ((Int) ⊕ Option (By)):=
 if(decide (v1<(a0.length:Int)))then
  (getI a0 v1).bind fun y2=>
  if(y2.ab==a1)then
   some (.inr (some (⟨a1,y2.aw,true⟩:By)))
  else
   some (.inl (IntKind.i64.wrap (v1+1)))
 else
  some (.inr (kP a1))
def UZ (a0:List Ac) (a1:Aa):Option (By):=
 AN (fun s:Int=>O0 a0 a1 s) 0
def M3 (a0:List Ac) (a1:List AB) (v1:List By):Option ((List By) ⊕ Option (List By × List Ac × Bool)):=
 (Z5 a1 v1).bind fun v2=>
 if(v2.1 !=1)then
  some (.inr (some (v1,v2.2.2,(v2.1==3))))
 else
  (UZ a0 v2.2.1).bind fun v3=>
  req ((((v1).length:Int)+(([v3]:List By).length:Int))*40≤140737488355328∧((v1).length:Int)+(([v3]:List By).length:Int)≤140737488355328)<|
  some (.inl (v1++ [v3]))
def ZJ (a0:List Ac) (a1:List AB):Option (List By × List Ac × Bool):=
 AN (fun s:List By=>M3 a0 a1 s) []
def OI (v1 v2:List Ac) (v3:Int):Option ((List Ac × Int) ⊕ Option (List Ac)):=
 if(decide (v3<(v1.length:Int)))then
  (getI v1 v3).bind fun y4=>
  if(!y4.a8)then
   req ((((v2).length:Int)+(([y4]:List Ac).length:Int))*40≤140737488355328∧((v2).length:Int)+(([y4]:List Ac).length:Int)≤140737488355328)<|
   some (.inl ((v2++ [y4]),(IntKind.i64.wrap (v3+1))))
  else
   some (.inl (v2,(IntKind.i64.wrap (v3+1))))
 else
  some (.inr (some v2))
def Y9 (v1:List Ac):Option (List Ac):=
 AN (fun s:List Ac × Int=>OI v1 s.1 s.2) ([],0)
def OJ (a1:List Ac) (v5:Int) (v6:List Ac):Option ((Int × List Ac) ⊕ Option (List Ac)):=
 if(decide (v5<(a1.length:Int)))then
  (getI a1 v5).bind fun y7=>
  (G1 v6 y7).bind fun v8=>
  some (.inl ((IntKind.i64.wrap (v5+1)),v8))
 else
  some (.inr (Y9 v6))
def UD (a0 a1:List Ac):Option (List Ac):=
 req (((([]:List Ac).length:Int)+((a0).length:Int))*40≤140737488355328∧(([]:List Ac).length:Int)+((a0).length:Int)≤140737488355328)<|
 AN (fun s:Int × List Ac=>OJ a1 s.1 s.2) (0,a0)
def M6 (a1:List (List AB)) (v2:List Bool) (v3:Int) (v4:List Ac):Option ((List Bool × Int × List Ac) ⊕ Option (List Ac × List Bool × Bool)):=
 if(decide (v3<(a1.length:Int)))then
  (getI a1 v3).bind fun y5=>
  (ZJ v4 y5).bind fun v6=>
  (UD v4 v6.2.1).bind fun v7=>
  if v6.2.2 then
   (Nb v7).bind fun v8=>
   if v8 then
    req ((((v2).length:Int)+(([v8]:List Bool).length:Int))*1≤140737488355328∧((v2).length:Int)+(([v8]:List Bool).length:Int)≤140737488355328)<|
    some (.inl ((v2++ [v8]),(IntKind.i64.wrap (v3+1)),v7))
   else
    req ((((v2).length:Int)+(([v8]:List Bool).length:Int))*1≤140737488355328∧((v2).length:Int)+(([v8]:List Bool).length:Int)≤140737488355328)<|
    some (.inl ((v2++ [v8]),(IntKind.i64.wrap (v3+1)),v4))
  else
   req ((((v2).length:Int)+(([false]:List Bool).length:Int))*1≤140737488355328∧((v2).length:Int)+(([false]:List Bool).length:Int)≤140737488355328)<|
   some (.inl ((v2++ [false]),(IntKind.i64.wrap (v3+1)),v4))
 else
  some (.inr (some (v4,v2,true)))
def Ze (a0:List Ac) (a1:List (List AB)):Option (List Ac × List Bool × Bool):=
 req (((([]:List Ac).length:Int)+((a0).length:Int))*40≤140737488355328∧(([]:List Ac).length:Int)+((a0).length:Int)≤140737488355328)<|
 AN (fun s:List Bool × Int × List Ac=>M6 a1 s.1 s.2.1 s.2.2) ([],0,a0)
def M4 (a0:List Ac) (a1:List (List AB)) (v9:Int):Option ((Int) ⊕ Option (List Ac × List Bool × Bool)):=
 if(decide (v9<(a1.length:Int)))then
  (getI a1 v9).bind fun y10=>
  (U4 y10).bind fun v11=>
  if(!v11)then
   some (.inr (some ([], [],false)))
  else
   some (.inl (IntKind.i64.wrap (v9+1)))
 else
  some (.inr (Ze a0 a1))
def UC (a0:List Ac) (a1:List (List AB)):Option (List Ac × List Bool × Bool):=
 (Nb a0).bind fun v1=>
 if((!v1)||(decide ((a1.length:Int)>20)))then
  some ([], [],false)
 else
  AN (fun s:Int=>M4 a0 a1 s) 0
def Vt (a0:List Ac) (a1:List AB):Option (List Ac × Bool):=
 (UC a0 ([a1]:List (List AB))).bind fun v1=>
 if((v1.2.1.length:Int)==1)then
  (getI v1.2.1 0).bind fun y2=>
  some (v1.1,y2)
 else
  some (v1.1,false)
def O2 (a2:Aa) (v1 v2:List An) (v3:Int):Option ((List An × Int) ⊕ Option (List An)):=
 if(decide (v3<(v1.length:Int)))then
  (getI v1 v3).bind fun y4=>
  (getI y4.ah 0).bind fun y5=>
  if(y5==a2)then
   req ((((v2).length:Int)+(([y4]:List An).length:Int))*24≤140737488355328∧((v2).length:Int)+(([y4]:List An).length:Int)≤140737488355328)<|
   some (.inl ((v2++ [y4]),(IntKind.i64.wrap (v3+1))))
  else
   some (.inl (v2,(IntKind.i64.wrap (v3+1))))
 else
  some (.inr (some v2))
def RO (a0:Aj) (a1:List Ac) (a2:Aa):Option (List An):=
 (RH a0 a1).bind fun v1=>
 AN (fun s:List An × Int=>O2 a2 v1 s.1 s.2) ([],0)
def M5 (a0:Aj) (a1 a2:Aa):Option (Aa × Aa × Bool):=
 (HW a2 47).bind fun v1=>
 if((v1.length:Int) !=3)then
  some (([]:Aa),([]:Aa),false)
 else
  (getI v1 0).bind fun y2=>
  req ((a0.ae).length+(([46]:Aa)).length≤9223372036854775807)<|
  req (((a0.ae++([46]:Aa))).length+(a1).length≤9223372036854775807)<|
  if(y2 !=((a0.ae++([46]:Aa))++a1))then
   some (([]:Aa),([]:Aa),false)
  else
   (getI v1 1).bind fun y3=>
   (Kl y3).bind fun v4=>
   if v4 then
    (getI v1 2).bind fun y5=>
    (Kl y5).bind fun v6=>
    if(!v6)then
     some (([]:Aa),([]:Aa),false)
    else
     some (y3,y5,true)
   else
    some (([]:Aa),([]:Aa),false)
def OH (a0:Aj) (a1:Aa) (a2:List Ac) (v1:List (Aa)) (v2:Int):Option ((List (Aa) × Int) ⊕ Option (List (Aa))):=
 if(decide (v2<(a2.length:Int)))then
  (getI a2 v2).bind fun y3=>
  (M5 a0 a1 y3.ab).bind fun v4=>
  if v4.2.2 then
   req ((((v1).length:Int)+(([y3.ab]:List (Aa)).length:Int))*16≤140737488355328∧((v1).length:Int)+(([y3.ab]:List (Aa)).length:Int)≤140737488355328)<|
   some (.inl ((v1++ [y3.ab]),(IntKind.i64.wrap (v2+1))))
  else
   some (.inl (v1,(IntKind.i64.wrap (v2+1))))
 else
  some (.inr (some v1))
def Zq (a0:Aj) (a1:Aa) (a2:List Ac):Option (List (Aa)):=
 AN (fun s:List (Aa) × Int=>OH a0 a1 a2 s.1 s.2) ([],0)
def Pe (a0 a1:An) (a2:Int):Option (Bool):=
 (getI a0.ah a2).bind fun y1=>
 (getI a1.ah a2).bind fun y2=>
 if(y1 !=y2)then
  some (Op.bytesLess y1 y2)
 else
  (getI a0.ah 0).bind fun y3=>
  (getI a1.ah 0).bind fun y4=>
  some (Op.bytesLess y3 y4)
def Uo (v3:Int) (v5:Aa × Aa × Bool) (v6:Int) (v7:List An):Option ((List An × Int) ⊕ Option (List An)):=
 (getI v7 v6).bind fun y8=>
 some (.inl ((v7.set (v6).toNat (⟨[v5.2.1,v5.1]⟩:An)),(IntKind.i64.wrap (v3+1))))
def Kj (v3:Int) (v5:Aa × Aa × Bool) (v9:Int) (v10:List An):Option ((Int × List An) ⊕ Option ((List An × Int) ⊕ Option (List An))):=
 if(decide (v9>0))then
  (getI v10 (IntKind.i64.wrap (v9-1))).bind fun y11=>
  (Pe (⟨[v5.2.1,v5.1]⟩:An) y11 1).bind fun v12=>
  if v12 then
   (getI v10 v9).bind fun y13=>
   some (.inl ((IntKind.i64.wrap (v9-1)),(v10.set (v9).toNat y11)))
  else
   some (.inr (Uo v3 v5 v9 v10))
 else
  some (.inr (Uo v3 v5 v9 v10))
def O5 (a0:Aj) (a1:Aa) (v1:List (Aa)) (v2:List An) (v3:Int):Option ((List An × Int) ⊕ Option (List An)):=
 if(decide (v3<(v1.length:Int)))then
  (getI v1 v3).bind fun y4=>
  (M5 a0 a1 y4).bind fun v5=>
  req ((((v2).length:Int)+(([(⟨[v5.2.1,v5.1]⟩:An)]:List An).length:Int))*24≤140737488355328∧((v2).length:Int)+(([(⟨[v5.2.1,v5.1]⟩:An)]:List An).length:Int)≤140737488355328)<|
  AN (fun s:Int × List An=>Kj v3 v5 s.1 s.2) ((v2.length:Int),(v2++ [(⟨[v5.2.1,v5.1]⟩:An)]))
 else
  some (.inr (some v2))
def UN (a0:Aj) (a1:Aa) (a2:List Ac):Option (List An):=
 (Zq a0 a1 a2).bind fun v1=>
 AN (fun s:List An × Int=>O5 a0 a1 v1 s.1 s.2) ([],0)
def OS (a0:Aj) (a1:List Ac) (a2:Bo) (v4 v5:List An) (v6:Int):Option ((List An × Int) ⊕ Option (List An × Bool)):=
 if(decide (v6<(v4.length:Int)))then
  (getI v4 v6).bind fun y7=>
  (getI y7.ah 1).bind fun y8=>
  if((!Op.bytesLess y8 a2.ca)&&(Op.bytesLess y8 a2.cg||y8==a2.cg))then
   (getI y7.ah 0).bind fun y9=>
   (RO a0 a1 y9).bind fun v10=>
   req ((((v5).length:Int)+((v10).length:Int))*24≤140737488355328∧((v5).length:Int)+((v10).length:Int)≤140737488355328)<|
   some (.inl ((v5++v10),(IntKind.i64.wrap (v6+1))))
  else
   some (.inl (v5,(IntKind.i64.wrap (v6+1))))
 else
  some (.inr (some (v5,true)))
def UY (a0:Aj) (a1:List Ac) (a2:Bo):Option (List An × Bool):=
 if(a2.af==2)then
  (RO a0 a1 a2.ca).bind fun v1=>
  some (v1,true)
 else
  if(a2.af !=3)then
   some ([],false)
  else
   (RU a0 a2.a7).bind fun v2=>
   (getI a0.aj v2).bind fun y3=>
   if(decide (y3.bc<3))then
    some ([],false)
   else
    (UN a0 a2.a7 a1).bind fun v4=>
    AN (fun s:List An × Int=>OS a0 a1 a2 v4 s.1 s.2) ([],0)
def Za (a1:List Ac) (v5:List (Aa)):Option (List Ac × Aa):=
 (RM v5 ([32]:Aa)).bind fun v6=>
 some (a1,v6)
def OL (a1:List Ac) (v4:List An × Bool) (v7:List (Aa)) (v8:Int):Option ((List (Aa) × Int) ⊕ Option (List Ac × Aa)):=
 if(decide (v8<(v4.1.length:Int)))then
  (getI v4.1 v8).bind fun y9=>
  (IP y9).bind fun v10=>
  req ((((v7).length:Int)+(([v10]:List (Aa)).length:Int))*16≤140737488355328∧((v7).length:Int)+(([v10]:List (Aa)).length:Int)≤140737488355328)<|
  some (.inl ((v7++ [v10]),(IntKind.i64.wrap (v8+1))))
 else
  some (.inr (Za a1 v7))
def UE (a0:Aj) (a1:List Ac) (a2:Aa):Option (List Ac × Aa):=
 (Vj a0 a2).bind fun v1=>
 if(!v1.2)then
  some (a1,([119,104,97,116]:Aa))
 else
  if(v1.1.af==1)then
   (U1 a0 v1.1.bb).bind fun v2=>
   (Vt a1 v2).bind fun v3=>
   if v3.2 then
    some (v3.1,([100,111,110,101]:Aa))
   else
    some (v3.1,([110,111,116]:Aa))
  else
   (UY a0 a1 v1.1).bind fun v4=>
   if(!v4.2)then
    some (a1,([99,108,111,115,101,100]:Aa))
   else
    if((v4.1.length:Int)==0)then
     some (a1,([110,111,110,101]:Aa))
    else
     AN (fun s:List (Aa) × Int=>OL a1 v4 s.1 s.2) ([],0)
def O9 (a0:Aj) (a2:List (Aa)) (v3:List Ac) (v4:List (Aa)) (v5:Int):Option ((List Ac × List (Aa) × Int) ⊕ Option (List Ac × List (Aa) × Bool)):=
 if(decide (v5<(a2.length:Int)))then
  (getI a2 v5).bind fun y6=>
  (UE a0 v3 y6).bind fun v7=>
  req ((((v4).length:Int)+(([v7.2]:List (Aa)).length:Int))*16≤140737488355328∧((v4).length:Int)+(([v7.2]:List (Aa)).length:Int)≤140737488355328)<|
  some (.inl (v7.1,(v4++ [v7.2]),(IntKind.i64.wrap (v5+1))))
 else
  some (.inr (some (v3,v4,true)))
def UL (a0:Aj) (a1:List Ac) (a2:List (Aa)):Option (List Ac × List (Aa) × Bool):=
 (RF a0).bind fun v1=>
 if v1 then
  (Nb a1).bind fun v2=>
  if((!v2)||(decide ((a2.length:Int)>12)))then
   some ([], [],false)
  else
   req (((([]:List Ac).length:Int)+((a1).length:Int))*40≤140737488355328∧(([]:List Ac).length:Int)+((a1).length:Int)≤140737488355328)<|
   AN (fun s:List Ac × List (Aa) × Int=>O9 a0 a2 s.1 s.2.1 s.2.2) (a1, [],0)
 else
  some ([], [],false)
def OY (a0 a1:List Ac) (v1:Int):Option ((Int) ⊕ Option (Bool)):=
 if(decide (v1<(a0.length:Int)))then
  (getI a0 v1).bind fun y2=>
  (getI a1 v1).bind fun y3=>
  if(!(y2.ab==y3.ab&&(y2.aw==y3.aw&&(y2.a8==y3.a8))))then
   some (.inr (some false))
  else
   some (.inl (IntKind.i64.wrap (v1+1)))
 else
  some (.inr (some true))
def RR (a0 a1:List Ac):Option (Bool):=
 if((a0.length:Int) !=(a1.length:Int))then
  some false
 else
  AN (fun s:Int=>OY a0 a1 s) 0
def OX (a0:List (Aa)) (a1:List (Aa)) (v1:Int):Option ((Int) ⊕ Option (Bool)):=
 if(decide (v1<(a0.length:Int)))then
  (getI a0 v1).bind fun y2=>
  (getI a1 v1).bind fun y3=>
  if(y2 !=y3)then
   some (.inr (some false))
  else
   some (.inl (IntKind.i64.wrap (v1+1)))
 else
  some (.inr (some true))
def U2 (a0:List (Aa)) (a1:List (Aa)):Option (Bool):=
 if((a0.length:Int) !=(a1.length:Int))then
  some false
 else
  AN (fun s:Int=>OX a0 a1 s) 0
def UO (a0:Aj) (a1:Aa):Option (Bo × Bool):=
 (OZ a0).bind fun v1=>
 if(!v1)then
  some ((⟨0,(⟨0,(⟨[]⟩:An),(⟨[]⟩:An)⟩:Ba),([]:Aa),([]:Aa),([]:Aa)⟩:Bo),false)
 else
  (Rr a0 a1).bind fun v2=>
  some (v2.1,v2.2)
def ZK (a0:Aj) (a1:Ba):Option (Bool):=
 (OZ a0).bind fun v1=>
 if v1 then
  (Rq a0 a1).bind fun v2=>
  some v2
 else
  some false
def Vr (a0:Aj) (a1:List Ac) (a2:Ba):Option (List Ac × Bool × Bool):=
 (ZK a0 a2).bind fun v1=>
 if v1 then
  (RQ a1).bind fun v2=>
  if(!v2)then
   some ([],false,false)
  else
   (Rp a0 a2).bind fun v3=>
   (RV a1 v3).bind fun v4=>
   some (v4.1,v4.2,true)
 else
  some ([],false,false)
def ZE (v1:Aj × List Ac × List (Aa)) (v2:List Ac × List (Aa) × Bool) (v6:List Ac):Option (Bool):=
 if((v2.2.1.length:Int)==(v1.2.2.length:Int))then
  (RR v6 v2.1).bind fun v7=>
  some v7
 else
  some false
def OT (v1:Aj × List Ac × List (Aa)) (v2:List Ac × List (Aa) × Bool) (v8:List Ac) (v9:Int):Option ((List Ac × Int) ⊕ Option (Bool)):=
 if(decide (v9<(v1.2.2.length:Int)))then
  (getI v1.2.2 v9).bind fun y10=>
  (UO v1.1 y10).bind fun v11=>
  if((!v11.2)||(v11.1.af !=1))then
   some (.inl (v8,(IntKind.i64.wrap (v9+1))))
  else
   (Vr v1.1 v8 v11.1.bb).bind fun v12=>
   if(!v12.2.2)then
    some (.inr (some false))
   else
    some (.inl (v12.1,(IntKind.i64.wrap (v9+1))))
 else
  some (.inr (ZE v1 v2 v8))
def U0 (a0 a1:List Int):Option (Bool):=
 if(decide ((IntKind.i64.wrap ((a0.length:Int)+(a1.length:Int)))>1048576))then
  some true
 else
  (Up a0).bind fun v1=>
  (Vc v1.1 v1.2.1 v1.2.2).bind fun v2=>
  (UL v1.1 v1.2.1 v1.2.2).bind fun v3=>
  if(v2.2.2 !=v3.2.2)then
   some false
  else
   (RR v2.1 v3.1).bind fun v4=>
   if v4 then
    (U2 v2.2.1 v3.2.1).bind fun v5=>
    if(!v5)then
     some false
    else
     if(!v2.2.2)then
      some true
     else
      AN (fun s:List Ac × Int=>OT v1 v2 s.1 s.2) (v1.2.1,0)
   else
    some false
def jQ:FS:=E8 298 [.v .s, .v .s] (.v (.i .i64)) (fun x=>OA x.1 x.2.1) fun x r _ h=>zgX x.1 x.2.1 r h
def zfL:FS:=E8 288 [.v .s, .v (.i .u8)] (.v (.i .i64)) (fun x=>T7 x.1 x.2.1) fun x r _ h=>zfJ x.1 x.2.1 r h
def zpl:FS:=E8 231 [.v .s, .v (.i .i64), .v (.i .i64)] (.tu (.cons (.v (.i .i64)) (.cons (.v .b) .nil))) (fun x=>Vg x.1 x.2.1 x.2.2.1) fun x r _ h=>zo8 x.1 x.2.1 x.2.2.1 r h
def zpL:FS:=E8 183 [.v (.i .i64)] (.v .s) (fun x=>ZS x.1) fun x r _ h=>zpF x.1 r h
def zoE:FS:=E8 263 [.v .s, .v .s] (.v (.i .i64)) (fun x=>UP x.1 x.2.1) fun x r _ h=>zo0 x.1 x.2.1 r h
def ZO:FS:=E8 212 [.v (.l .s), .v .s] (.v .s) (fun x=>Pc x.1 x.2.1) fun x r _ h=>zpy x.1 x.2.1 r h
def zmu:FS:=E8 262 [.v .s, .v (.i .i64)] (.v (.l .s)) (fun x=>Zo x.1 x.2.1) fun x r _ h=>zmk x.1 x.2.1 r h
def zY:FS:=E8 198 [.v (.l (.st 0)), .fn [.st 0, .st 0] (.i .i64)] (.tu (.cons (.tu .nil) (.cons (.v (.l (.st 0))) .nil))) (fun x=>UX x.2.1.g x.2.1.caps x.1) fun x r hp h=>zoS h
def z7:FS:=E8 228 [.v (.l (.st 1)), .v (.i .i64), .v (.l (.st 1))] (.v (.l (.st 1))) (fun x=>We x.1 x.2.1 x.2.2.1) fun x r hp h=>xU (t:=47) (it:=3) (el:=74) (K:=3) (by kernel_rfl) (fun _=>by kernel_rfl) zxG h
def zkf:FS:=Av 155 [.rf (.st 2)] (.tu (.cons (.v (.i .i64)) (.cons (.v (.st 2)) .nil))) (fun x=>RC x.1) [] [.inl]
def Jj:FS:=Av 71 [.rf (.st 2), .v (.i .i64)] (.tu (.cons (.v (.i .i64)) (.cons (.v (.st 2)) .nil))) (fun x=>DQ x.1 x.2.1) [zkf] [.inl]
def M0:FS:=Av 106 [.rf (.st 2), .v (.l .s)] (.tu (.cons (.v .s) (.cons (.v (.st 2)) .nil))) (fun x=>FI x.1 x.2.1) [Jj] []
def Ut:FS:=Av 64 [.rf (.st 2), .v (.i .i64)] (.tu (.cons (.v .b) (.cons (.v (.st 2)) .nil))) (fun x=>HX x.1 x.2.1) [Jj] []
def kE:FS:=Av 61 [.rf (.st 2)] (.tu (.cons (.v (.st 4)) (.cons (.v (.st 2)) .nil))) (fun x=>Ro x.1) [M0,Jj,Ut] [.sp [.i .i64, .l (.i .u8), .i .i64, .i .u64, .l (.st 3)], .inl, .pt]
def kJ:FS:=Av 137 [.rf (.st 2), .v (.st 4)] (.tu (.cons (.v (.st 5)) (.cons (.v (.st 2)) .nil))) (fun x=>Lt x.1 x.2.1) [M0] [.sp [.l (.i .u8), .i .i64, .i .u64, .l .s]]
def ZU:FS:=Av 214 [.v (.l .s), .v .s] (.v .s) (fun x=>RM x.1 x.2.1) [] [.sp [.s, .i .i64], .inl]
def ZX:FS:=Av 139 [.v (.st 4), .v (.st 5)] (.v (.st 1)) (fun x=>Lv x.1 x.2.1) [ZU] []
def Vu:FS:=Av 138 [.v (.l (.st 1)), .v (.st 1)] (.v (.l (.st 1))) (fun x=>G1 x.1 x.2.1) [] [.sp [.i .i64]]
def Vm:FS:=Av 149 [.v .s, .v (.i .u8)] (.v (.l .s)) (fun x=>HW x.1 x.2.1) [] [.sp [.l .s, .i .i64, .i .i64], .inl]
def Ng:FS:=Av 116 [.v (.i .i64), .v (.i .i64), .v (.i .i64)] (.v .b) (fun x=>IT x.1 x.2.1 x.2.2.1) [] []
def ZN:FS:=Av 207 [.v .s, .v .s] (.v .b) (fun x=>Pd x.1 x.2.1) [] [.sp [.i .i64], .sp [.b, .i .i64]]
def ZW:FS:=Av 117 [.v .s] (.v .b) (fun x=>Kl x.1) [Ng,ZN] []
def kX:FS:=Av 261 [.v (.st 4), .v (.st 5)] (.v .b) (fun x=>Ly x.1 x.2.1) [ZW] [.sp [.i .i64]]
def zpw:FS:=Av 218 [.v (.st 4), .v (.st 1)] (.tu (.cons (.v (.st 5)) (.cons (.v .b) .nil))) (fun x=>U7 x.1 x.2.1) [Vm,kX,ZX] []
def ZQ:FS:=Av 140 [.v (.st 4), .v (.l (.st 1))] (.v (.l (.st 5))) (fun x=>RH x.1 x.2.1) [zpw] [.sp [.l (.st 5), .i .i64], .inl]
def kR:FS:=Av 141 [.v (.st 4), .v (.st 3), .v (.st 5)] (.v .s) (fun x=>Lw x.1 x.2.1 x.2.2.1) [] []
def zkG:FS:=Av 142 [.rf (.st 2)] (.tu (.cons (.v .s) (.cons (.v (.st 2)) .nil))) (fun x=>Uv x.1) [M0] []
def zkT:FS:=Av 95 [.rf (.st 2)] (.tu (.cons (.v .s) (.cons (.v (.st 2)) .nil))) (fun x=>Uw x.1) [M0] []
def zjP:FS:=Av 63 [.rf (.st 2), .v (.st 4)] (.tu (.cons (.v (.l (.st 1))) (.cons (.v (.st 2)) .nil))) (fun x=>Ug x.1 x.2.1) [Jj,Ut,zkG,zkT,Vu,ZQ,kJ,kR,ZX] [.sp [.l (.st 1), .i .i64, .l (.i .u8), .i .i64, .i .u64], .sp [.i .i64, .l (.i .u8), .i .i64, .i .u64, .l (.st 1)], .inl, .sp [.i .i64, .l (.i .u8), .i .i64, .i .u64, .l (.st 1)], .inl, .inl]
def zib:FS:=Av 101 [.rf (.st 2), .v (.st 4)] (.tu (.cons (.v (.l (.st 1))) (.cons (.v (.st 2)) .nil))) (fun x=>Ua x.1 x.2.1) [zjP,Jj,M0,Vu] [.inl]
def zh9:FS:=Av 103 [.rf (.st 2)] (.tu (.cons (.v (.st 4)) (.cons (.v (.st 2)) .nil))) (fun x=>Ub x.1) [kE,Jj,M0] [.inl]
def kM:FS:=Av 150 [.v .s, .v (.i .i64)] (.v .b) (fun x=>O7 x.1 x.2.1) [] [.sp [.i .i64]]
def zsX:FS:=Av 222 [.v (.l .s), .v .s] (.v (.i .i64)) (fun x=>Vq x.1 x.2.1) [] [.sp [.i .i64]]
def zpr:FS:=Av 151 [.v (.l .s)] (.v .b) (fun x=>Vk x.1) [Ng,kM,zsX] [.sp [.i .i64]]
def kQ:FS:=Av 69 [.v (.st 4)] (.v .b) (fun x=>RF x.1) [kM,zpr,Ng] [.sp [.i .i64]]
def zkF:FS:=Av 136 [.rf (.st 2), .v (.st 4), .v (.l (.st 1))] (.tu (.cons (.v (.st 6)) (.cons (.v (.st 2)) .nil))) (fun x=>Ry x.1 x.2.1 x.2.2.1) [ZQ,kJ,Jj,Ut] [.pt, .pt]
def zki:FS:=Av 62 [.rf (.st 2), .v (.st 4), .v (.l (.st 1))] (.tu (.cons (.v (.st 7)) (.cons (.v (.st 2)) .nil))) (fun x=>UA x.1 x.2.1 x.2.2.1) [Jj,M0,zkF] [.inl]
def lE:FS:=Av 128 [.v (.st 5)] (.v .s) (fun x=>IP x.1) [ZU] []
def kW:FS:=Av 58 [.v (.st 4), .v (.st 7)] (.v .s) (fun x=>RJ x.1 x.2.1) [lE] []
def zji:FS:=Av 65 [.rf (.st 2), .v .s, .v .s] (.tu (.cons (.v .s) (.cons (.v (.st 2)) .nil))) (fun x=>Ui x.1 x.2.1 x.2.2.1) [Jj] [.sp [.s, .i .i64, .l (.i .u8), .i .i64, .i .u64], .inl]
def zlH:FS:=Av 49 [.v (.l (.i .u8))] (.tu (.cons (.v (.st 4)) (.cons (.v (.l (.st 1))) (.cons (.v (.l .s)) .nil)))) (fun x=>Up x.1) [kE,zib,Jj,Ut,kQ,zki,kW,zji,zh9] [.pt, .sp [.l .s, .i .i64, .l (.i .u8), .i .i64, .i .u64], .inl, .inl]
def Pk:FS:=Av 107 [.v (.i .i64), .v (.i .i64), .v (.i .i64)] (.v .b) (fun x=>Kp x.1 x.2.1 x.2.2.1) [] []
def zms:FS:=Av 143 [.v .s, .v (.i .i64)] (.v .b) (fun x=>O6 x.1 x.2.1) [Pk] [.sp [.i .i64]]
def zf6:FS:=Av 219 [.v (.l .s), .v .s] (.v (.i .i64)) (fun x=>Ud x.1 x.2.1) [] [.sp [.i .i64]]
def zZ:FS:=Av 144 [.v (.l .s), .v .s] (.v .b) (fun x=>T9 x.1 x.2.1) [zf6] []
def zps:FS:=Av 145 [.v (.i .i64)] (.v .b) (fun x=>ZV x.1) [Pk] []
def ZB:FS:=Av 66 [.v (.st 4)] (.v .b) (fun x=>OZ x.1) [zms,Pk,zps,zZ] [.sp [.i .i64], .sp [.i .i64]]
def znk:FS:=Av 168 [.v (.l (.st 1))] (.v (.l .s)) (fun x=>UG x.1) [] [.sp [.i .i64, .l .s]]
def zjJ:FS:=Av 252 [.v (.i .u8)] (.v .b) (fun x=>Zi x.1) [] []
def zkD:FS:=Av 253 [.v .s, .v (.i .u8)] (.v (.i .i64)) (fun x=>Zd x.1 x.2.1) [zfL] []
def ZZ:FS:=Av 202 [.v .s, .v .s] (.v .b) (fun x=>Pg x.1 x.2.1) [zjJ,zkD] [.sp [.i .i64]]
def zpC:FS:=Av 174 [.v .s] (.v .b) (fun x=>Vd x.1) [Pk,ZZ] []
def zng:FS:=Av 167 [.v (.l .s)] (.v .b) (fun x=>UI x.1) [zpC] [.sp [.i .i64]]
def jO:FS:=E8 226 [.v (.l (.st 1)), .fn [.st 1] .b] (.v (.i .i64)) (fun x=>FH x.1 (fun y=>x.2.1.φ (y,()))) fun x r hp h=>KO (f:=226) (t:=S1 3) (by kernel_rfl) (by kernel_rfl) (eU (av:=(BK Co.av (.st 1))) (cn:=3) (fun _=>⟨_,rfl,rfl⟩) h (fun y b hb=>hp.2.1 (y,()) b hb))
def jP:FS:=E8 158 [.v (.l (.st 1)), .fn [.st 1] .b] (.v .b) (fun x=>IQ x.1 (fun y=>x.2.1.φ (y,()))) fun x r hp h=>KO (f:=158) (t:=WD 226) (by kernel_rfl) (by kernel_rfl) (rI h fun r hr=>jO.ok x r hp hr)
def zpo:FS:=Av 175 [.v .s] (.v .b) (fun x=>Va x.1) [ZZ] []
def zoT:FS:=Av 170 [.v .s, .v .b] (.v .b) (fun x=>UR x.1 x.2.1) [zpo] []
def zk5:FS:=Av 169 [.v (.st 1)] (.v .b) (fun x=>Ur x.1) [zoT] []
def zke:FS:=Lo zk5 fun _=>by kernel_rfl
def zl8:FS:=Av 85 [.v (.l (.st 1))] (.v .b) (fun x=>UJ x.1) [znk,zng,jP,zke] []
def zof:FS:=Av 159 [.v (.st 1)] (.v .b) (fun x=>UU x.1) [] []
def znf:FS:=Lo zof fun _=>by kernel_rfl
def lC:FS:=Av 75 [.v (.l (.st 1))] (.v .b) (fun x=>RQ x.1) [zl8,jP,znf] []
def jN:FS:=E8 78 [.v (.l (.st 1))] (.v (.l (.st 1))) (fun x=>Rn x.1) fun x r hp h=>KO (f:=78) (t:=fF 40 3) (by kernel_rfl) (by kernel_rfl) (zxh (bytes:=40) (sz:=3) (av:=(BK Co.av (.st 1))) (fun x=>⟨Ws _ x,VG (by kernel_rfl) x⟩) h)
def zot:FS:=Av 264 [.v .s, .v .s] (.v (.i .i64)) (fun x=>US x.1 x.2.1) [jQ] []
def zlh:FS:=Av 220 [.v .s, .v .s, .v (.i .i64), .v (.i .i64)] (.v (.l .s)) (fun x=>ZA x.1 x.2.1 x.2.2.1 x.2.2.2.1) [zmu,zot,zoE] [.pt, .sp [.s, .i .i64, .l .s]]
def Z2:FS:=Av 146 [.v .s, .v .s] (.v (.l .s)) (fun x=>M9 x.1 x.2.1) [zlh] []
def zsx:FS:=Av 147 [.v .s] (.v (.st 5)) (fun x=>Kr x.1) [Z2] []
def z6:FS:=E8 299 [.v (.l .s), .fn [.s] .b] (.v (.i .i64)) (fun x=>FH x.1 (fun y=>x.2.1.φ (y,()))) fun x r hp h=>KO (f:=299) (t:=fJ) (by kernel_rfl) (by kernel_rfl) (zyL (av:=(BK Co.av .s)) (fun _=>rfl) h (fun y b hb=>hp.2.1 (y,()) b hb))
def zel:FS:=E8 265 [.v (.l .s), .fn [.s] .b] (.v .b) (fun x=>IQ x.1 (fun y=>x.2.1.φ (y,()))) fun x r hp h=>KO (f:=265) (t:=WD 299) (by kernel_rfl) (by kernel_rfl) (rI h fun r hr=>z6.ok x r hp hr)
def ZL:FS:=Av 108 [.v .s] (.v .b) (fun x=>Kn x.1) [Pk,ZZ] []
def zjg:FS:=Av 266 [.v .s] (.v .b) (fun x=>Ul x.1) [ZL] []
def ziM:FS:=Lo zjg fun _=>by kernel_rfl
def kF:FS:=Av 223 [.v (.st 4), .v (.st 5)] (.v .b) (fun x=>Lu x.1 x.2.1) [zel,ziM] []
def jX:FS:=Av 152 [.v (.st 4), .v (.st 6)] (.v .b) (fun x=>Rq x.1 x.2.1) [kF] []
def zrg:FS:=Av 153 [.v (.st 6)] (.v .b) (fun x=>U3 x.1) [] []
def zei:FS:=E8 224 [.v (.l (.st 3)), .fn [.st 3] .b] (.v (.i .i64)) (fun x=>FH x.1 (fun y=>x.2.1.φ (y,()))) fun x r hp h=>KO (f:=224) (t:=S1 3) (by kernel_rfl) (by kernel_rfl) (eU (av:=(BK Co.av (.st 3))) (cn:=3) (fun _=>⟨_,rfl,rfl⟩) h (fun y b hb=>hp.2.1 (y,()) b hb))
def zih:FS:=Av 225 [.v (.st 3), .rf .s] (.v .b) (fun x=>Y7 x.1 x.2.1) [] []
def zia:FS:=Lo zih fun _=>by kernel_rfl
def kA:FS:=Av 154 [.v (.st 4), .v .s] (.v (.i .i64)) (fun x=>Rv x.1 x.2.1) [zei,zia] []
def zjE:FS:=Av 70 [.v (.st 4), .v (.st 7)] (.v .b) (fun x=>Uf x.1 x.2.1) [jX,zrg,ZL,kA] []
def kY:FS:=Av 126 [.v (.st 5)] (.v .s) (fun x=>IS x.1) [ZO] []
def ziF:FS:=Av 56 [.v (.st 4), .v (.st 7)] (.v .s) (fun x=>Um x.1 x.2.1) [kY] []
def kC:FS:=Av 67 [.v (.st 4), .v .s] (.tu (.cons (.v (.st 7)) (.cons (.v .b) .nil))) (fun x=>Rr x.1 x.2.1) [Z2,zjE,ziF,zsx] [.pt]
def kB:FS:=Av 130 [.v (.st 4), .v (.st 5)] (.v (.st 1)) (fun x=>ON x.1 x.2.1) [ZO] []
def zi1:FS:=Av 129 [.v (.i .i64), .v (.st 1), .rf (.l (.st 8))] (.tu (.cons (.tu .nil) (.cons (.bo (.l (.st 8))) .nil))) (fun x=>Jk x.1 x.2.1 x.2.2.1) [] []
def jY:FS:=Av 217 [.v (.st 4), .v .s] (.v .s) (fun x=>Ru x.1 x.2.1) [] []
def kI:FS:=Av 195 [.v (.st 4), .v .s] (.v (.st 3)) (fun x=>M7 x.1 x.2.1) [kA] []
def zju:FS:=Av 131 [.v (.st 4), .v .s, .v (.st 5)] (.v .s) (fun x=>MW x.1 x.2.1 x.2.2.1) [jY,kI] []
def zo6:FS:=Av 132 [.v (.i .i64)] (.v .b) (fun x=>ZM x.1) [] []
def zo7:FS:=Av 133 [.v (.i .i64)] (.v .b) (fun x=>ZP x.1) [] []
def kG:FS:=Av 59 [.v (.st 4), .v (.st 6)] (.v (.l (.st 8))) (fun x=>Rp x.1 x.2.1) [zo7,zi1,zo6,zju,kB] [.sp [.s, .s, .b, .l (.st 8)], .pt, .pt, .sp [.i .i64, .l (.st 8)], .inl, .sp [.s], .pt, .pt]
def zW:FS:=Av 267 [.v (.l (.st 1)), .v .s, .fn [.st 1, .s] (.i .i64)] (.tu (.cons (.v (.i .i64)) (.cons (.v .b) .nil))) (fun x=>YX x.1 x.2.1 (fun y0 y1=>x.2.2.1.φ (y0,y1,()))) [] [.sp [.i .i64, .i .i64]]
def zkP:FS:=Av 206 [.v .s] (.v .b) (fun x=>Rz x.1) [] []
def kH:FS:=Av 115 [.v .s, .v .s] (.v (.i .i64)) (fun x=>OO x.1 x.2.1) [zkP] []
def zlG:FS:=Av 268 [.v (.st 1), .v .s] (.v (.i .i64)) (fun x=>O3 x.1 x.2.1) [kH] []
def zkS:FS:=Lo zlG fun _=>by kernel_rfl
def ZI:FS:=Av 227 [.v (.l (.st 1)), .v .s] (.tu (.cons (.v (.i .i64)) (.cons (.v .b) .nil))) (fun x=>Lx x.1 x.2.1) [zW,zkS] []
def kN:FS:=Av 162 [.v (.l (.st 1)), .v (.st 1)] (.v (.l (.st 1))) (fun x=>M8 x.1 x.2.1) [ZI,z7] []
def zpD:FS:=Av 180 [.v .s, .v (.l (.st 1)), .v (.l (.st 9))] (.tu (.cons (.v .s) (.cons (.v .b) (.cons (.v .b) .nil)))) (fun x=>U6 x.1 x.2.1 x.2.2.1) [ZI] [.sp [.i .i64]]
def kO:FS:=Av 182 [.v .s] (.tu (.cons (.v (.i .i64)) (.cons (.v .b) .nil))) (fun x=>RN x.1) [zpl] []
def zmi:FS:=Av 181 [.v (.st 8), .v .s, .v .b] (.v .b) (fun x=>UK x.1 x.2.1 x.2.2.1) [kO,Pk] []
def zpq:FS:=Av 92 [.v (.l (.st 8)), .v (.l (.st 9))] (.tu (.cons (.v (.i .i64)) (.cons (.v .s) (.cons (.v (.l (.st 1))) .nil)))) (fun x=>ZR x.1 x.2.1) [kN,zpD,zmi,kO,zpL] [.sp [.i .i64, .l (.st 1)], .inl]
def zst:FS:=Av 161 [.v (.l (.st 1)), .v .s] (.v (.st 9)) (fun x=>Vs x.1 x.2.1) [ZI] []
def zoO:FS:=Av 79 [.v (.l (.st 1)), .v (.l (.st 8))] (.tu (.cons (.v (.l (.st 9))) (.cons (.v (.l (.st 1))) (.cons (.v .b) .nil)))) (fun x=>Z0 x.1 x.2.1) [zpq,zst] [.sp [.l (.st 9)]]
def zX:FS:=E8 163 [.v (.l (.st 1)), .fn [.st 1] .b] (.v (.l (.st 1))) (fun x=>Vv x.1 (fun y=>x.2.1.φ (y,()))) fun x r hp h=>KO (f:=163) (t:=fN 226 3 true (.mk (.cons (.fld (.fld (.idx (.var 5) (.var 4)) 0 3 true) 0 1 false) (.cons (.fld (.fld (.idx (.var 5) (.var 4)) 0 3 true) 1 1 false) (.cons (.fld (.fld (.idx (.var 5) (.var 4)) 0 3 true) 2 1 false) .nil)))) [(.agg (.fld (.idx (.var 5) (.var 4)) 0 3 true) 3)] (.mk (.cons (.str (ByteArray.mk #[])) (.cons (.str (ByteArray.mk #[])) (.cons (.bool false) .nil))))) (by kernel_rfl) (by kernel_rfl) (zzB (av:=(BK Co.av (.st 1))) (fun x=>⟨Ws _ x,VG (by kernel_rfl) x,fun _=>⟨_,rfl⟩,fun e=>nomatch e⟩) (by decide) (fun a b c d j ys x tl hj=>by simp [AV.nth,hj,BK,Rh]) (fun a b c d j ys x hj=>by simp [AV.nth,hj,BK,Rh]) h (fun i hi=>jO.ok x i hp hi) (fun y b hb=>hp.2.1 (y,()) b hb))
def zni:FS:=Av 164 [.v (.st 1)] (.v .b) (fun x=>ZD x.1) [] []
def zmb:FS:=Lo zni fun _=>by kernel_rfl
def zpc:FS:=Av 80 [.v (.l (.st 1)), .v (.l (.st 1))] (.tu (.cons (.v (.l (.st 1))) (.cons (.v .b) .nil))) (fun x=>Vl x.1 x.2.1) [jN,zX,zmb,kN] [.sp [.i .i64, .l (.st 1)]]
def lG:FS:=Av 125 [.v (.l (.st 1)), .v (.l (.st 8))] (.tu (.cons (.v (.l (.st 1))) (.cons (.v .b) .nil))) (fun x=>RV x.1 x.2.1) [zoO,zpc] []
def zfK:FS:=Av 308 [.v .s, .v .s] (.v .b) (fun x=>T8 x.1 x.2.1) [] []
def zfI:FS:=Av 278 [.v .s, .v .s] (.tu (.cons (.v .s) (.cons (.v .b) .nil))) (fun x=>YY x.1 x.2.1) [zfK] []
def kL:FS:=Av 247 [.v .s, .v .s] (.tu (.cons (.v .s) (.cons (.v .b) .nil))) (fun x=>RA x.1 x.2.1) [zfI] []
def zjh:FS:=Av 204 [.v (.st 4), .v (.st 1)] (.tu (.cons (.v (.st 5)) (.cons (.v .b) .nil))) (fun x=>Uh x.1 x.2.1) [kL,Z2,kF,kB] []
def zjr:FS:=Av 110 [.v (.st 4), .v (.l (.st 1))] (.v (.l (.st 5))) (fun x=>Zf x.1 x.2.1) [zjh] [.sp [.i .i64, .l (.st 5)], .inl]
def z8:FS:=E8 203 [.v (.l (.st 5)), .fn [.st 5] .b] (.v (.i .i64)) (fun x=>FH x.1 (fun y=>x.2.1.φ (y,()))) fun x r hp h=>KO (f:=203) (t:=S1 1) (by kernel_rfl) (by kernel_rfl) (eU (av:=(BK Co.av (.st 5))) (cn:=1) (fun _=>⟨_,rfl,rfl⟩) h (fun y b hb=>hp.2.1 (y,()) b hb))
def zjm:FS:=Av 246 [.v (.st 5), .rf .s] (.v .b) (fun x=>Y1 x.1 x.2.1) [] []
def zi2:FS:=Lo zjm fun _=>by kernel_rfl
def zkn:FS:=Av 194 [.v (.st 4), .v (.l (.st 1)), .v .s] (.tu (.cons (.v (.st 5)) (.cons (.v .b) .nil))) (fun x=>RB x.1 x.2.1 x.2.2.1) [zjr,z8,zi2] []
def zhy:FS:=Av 279 [.v .s, .v .s] (.tu (.cons (.v .s) (.cons (.v .s) (.cons (.v .b) .nil)))) (fun x=>Uc x.1 x.2.1) [jQ] []
def zry:FS:=Av 248 [.v .s, .v .s] (.tu (.cons (.v .s) (.cons (.v .s) (.cons (.v .b) .nil)))) (fun x=>Pj x.1 x.2.1) [zhy] []
def jV:FS:=Av 197 [.v (.st 4), .v .s, .v .s] (.tu (.cons (.v .s) (.cons (.v .s) (.cons (.v .b) .nil)))) (fun x=>MX x.1 x.2.1 x.2.2.1) [jY,kL,zry,ZL] []
def zij:FS:=Av 196 [.v (.st 4), .v .s, .v (.l (.st 1))] (.v (.l .s)) (fun x=>Y2 x.1 x.2.1 x.2.2.1) [jV] [.sp [.i .i64, .l .s], .inl]
def zrx:FS:=Av 114 [.v (.l (.i .i64))] (.v (.i .i64)) (fun x=>lB x.1) [] [.sp [.i .i64]]
def zhZ:FS:=Av 199 [.v (.st 0), .v (.st 0)] (.v (.i .i64)) (fun x=>zh1 x.1 x.2.1) [kH,zrx] []
def zhx:FS:=Lo zhZ fun _=>by kernel_rfl
def ziA:FS:=Av 104 [.v (.st 4), .v (.l (.st 1)), .v (.st 7)] (.tu (.cons (.v (.l (.st 5))) (.cons (.v .b) .nil))) (fun x=>Un x.1 x.2.1 x.2.2.1) [zkn,kI,zij,zY,zhx,jV] [.inl, .sp [.i .i64, .l (.st 0)], .inl, .sp [.i .i64, .l (.st 5)], .inl]
def zjT:FS:=Av 122 [.v (.st 4), .v (.l (.st 1)), .v .s] (.tu (.cons (.v (.l (.st 1))) (.cons (.v .s) .nil))) (fun x=>Uz x.1 x.2.1 x.2.2.1) [kC,kG,lG,ziA,ZO,kY] [.sp [.i .i64, .l .s]]
def zpf:FS:=Av 50 [.v (.st 4), .v (.l (.st 1)), .v (.l .s)] (.tu (.cons (.v (.l (.st 1))) (.cons (.v (.l .s)) (.cons (.v .b) .nil)))) (fun x=>Vc x.1 x.2.1 x.2.2.1) [ZB,lC,jN,zjT] [.sp [.l (.st 1), .i .i64, .l .s]]
def lU:FS:=Av 186 [.v .s] (.v .b) (fun x=>RY x.1) [Ng,ZN] []
def lW:FS:=Av 187 [.v .s] (.v .b) (fun x=>R0 x.1) [ZN] []
def zpA:FS:=Av 172 [.v .s, .v .s, .v .b] (.v .b) (fun x=>U8 x.1 x.2.1 x.2.2.1) [lU,lW] []
def zod:FS:=Av 87 [.v (.l (.st 1))] (.v .b) (fun x=>UQ x.1) [zpA] [.sp [.i .i64]]
def kZ:FS:=Av 81 [.v (.l (.st 1))] (.v .b) (fun x=>Nb x.1) [zod] [.sp [.i .i64]]
def zpG:FS:=Av 221 [.v .s] (.v (.st 5)) (fun x=>Km x.1) [Vm] []
def zpn:FS:=Av 148 [.v (.l .s)] (.v (.st 7)) (fun x=>Vn x.1) [zpG] []
def zpH:FS:=Av 215 [.v (.st 4), .v (.st 6)] (.v .b) (fun x=>Ve x.1 x.2.1) [kX] []
def zn3:FS:=Av 216 [.v (.st 6)] (.v .b) (fun x=>UM x.1) [] []
def lI:FS:=Av 121 [.v (.st 4), .v .s] (.v (.i .i64)) (fun x=>RU x.1 x.2.1) [] [.sp [.i .i64]]
def zpe:FS:=Av 127 [.v (.st 4), .v (.st 7)] (.v .b) (fun x=>U9 x.1 x.2.1) [zpH,zn3,ZW,lI] []
def zpj:FS:=Av 68 [.v (.st 4), .v .s] (.tu (.cons (.v (.st 7)) (.cons (.v .b) .nil))) (fun x=>Vj x.1 x.2.1) [Vm,zpn,zpe,kW] []
def zpE:FS:=Av 134 [.v (.st 4), .v (.st 6)] (.v (.l (.st 8))) (fun x=>Vb x.1 x.2.1) [ZX] []
def zrC:FS:=Av 135 [.v (.st 4), .v (.st 3), .v (.st 6)] (.v (.l (.st 8))) (fun x=>RS x.1 x.2.1 x.2.2.1) [kR] [.sp [.s], .pt, .pt, .inl]
def zqN:FS:=Av 60 [.v (.st 4), .v (.st 6)] (.v (.l (.st 8))) (fun x=>U1 x.1 x.2.1) [zpE,zrC] [.sp [.i .i64, .l (.st 8)]]
def zs5:FS:=Av 165 [.v (.st 8)] (.v .b) (fun x=>Vy x.1) [lU,lW,Ng] [.pt, .inl]
def zqZ:FS:=Av 82 [.v (.l (.st 8))] (.v .b) (fun x=>U4 x.1) [zs5] [.sp [.i .i64]]
def zn4:FS:=Av 188 [.v (.l (.st 1)), .v (.l (.st 9)), .v .s] (.tu (.cons (.v .s) (.cons (.v .b) (.cons (.v .b) .nil)))) (fun x=>UT x.1 x.2.1 x.2.2.1) [] [.sp [.i .i64], .sp [.i .i64]]
def zq3:FS:=Av 244 [.v .s] (.v (.i .i64)) (fun x=>RW x.1) [Ng] [.sp [.i .i64, .i .i64]]
def lV:FS:=Av 190 [.v .s] (.tu (.cons (.v (.i .i64)) (.cons (.v .b) .nil))) (fun x=>RZ x.1) [zq3] [.pt]
def zpz:FS:=Av 189 [.v (.st 8), .v .s, .v .b] (.v .b) (fun x=>Vh x.1 x.2.1 x.2.2.1) [lV,Ng] []
theorem lM: ∀(n:Nat) (xs:HP Co.car [.v (.i .i64)]) (y:F8 Co.car (.v .s)),Hi Co [.v (.i .i64)] xs→((fun x=>RP n x.1):HP Co.car [.v (.i .i64)]→Option (F8 Co.car (.v .s))) xs=some y→Co.Rt 245 (Fb Co [.v (.i .i64)] xs) (Fm Co (.v .s) y)
 |0,_,_,_,h=>nomatch h
 |n+1,xs,y,hp,h=>iQ (ps:= [.v (.i .i64)]) (r:=(.v .s)) [E8 245 [.v (.i .i64)] (.v .s) (fun x=>RP n x.1) (lM n)] [] (φ:=(fun x=>RP (n+1) x.1)) (fun _ _=>by kernel_rfl) (fun _ _=>by kernel_rfl) xs y hp h
def zr0:FS:=E8 245 [.v (.i .i64)] (.v .s) (fun x=>aC x.1) (lM jA)
def zrl:FS:=Av 191 [.v (.i .i64)] (.v .s) (fun x=>Z6 x.1) [zr0] []
def zqL:FS:=Av 97 [.v (.l (.st 8)), .v (.l (.st 9))] (.tu (.cons (.v (.i .i64)) (.cons (.v .s) (.cons (.v (.l (.st 1))) .nil)))) (fun x=>Z5 x.1 x.2.1) [zn4,zpz,Vu,lV,zrl] [.sp [.l (.st 1), .i .i64], .inl, .inl]
def zqY:FS:=Av 166 [.v (.l (.st 1)), .v .s] (.v (.st 9)) (fun x=>UZ x.1 x.2.1) [] [.sp [.i .i64]]
def zpx:FS:=Av 83 [.v (.l (.st 1)), .v (.l (.st 8))] (.tu (.cons (.v (.l (.st 9))) (.cons (.v (.l (.st 1))) (.cons (.v .b) .nil)))) (fun x=>ZJ x.1 x.2.1) [zqL,zqY] [.sp [.l (.st 9)]]
def zm9:FS:=Av 84 [.v (.l (.st 1)), .v (.l (.st 1))] (.v (.l (.st 1))) (fun x=>UD x.1 x.2.1) [Vu] [.sp [.i .i64, .l (.st 1)], .sp [.l (.st 1), .i .i64], .inl]
def zne:FS:=Av 21 [.v (.l (.st 1)), .v (.l (.l (.st 8)))] (.tu (.cons (.v (.l (.st 1))) (.cons (.v (.l .b)) (.cons (.v .b) .nil)))) (fun x=>UC x.1 x.2.1) [kZ,zpx,zm9,zqZ] [.sp [.i .i64], .sp [.l .b, .i .i64, .l (.st 1)], .inl]
def zrT:FS:=Av 213 [.v (.l (.st 1)), .v (.l (.st 8))] (.tu (.cons (.v (.l (.st 1))) (.cons (.v .b) .nil))) (fun x=>Vt x.1 x.2.1) [zne] []
def znK:FS:=Av 200 [.v (.st 4), .v (.l (.st 1)), .v .s] (.v (.l (.st 5))) (fun x=>RO x.1 x.2.1 x.2.2.1) [ZQ] [.sp [.l (.st 5), .i .i64], .inl]
def kK:FS:=Av 251 [.v (.st 4), .v .s, .v .s] (.tu (.cons (.v .s) (.cons (.v .s) (.cons (.v .b) .nil)))) (fun x=>M5 x.1 x.2.1 x.2.2.1) [Vm,ZW] []
def zmG:FS:=Av 250 [.v (.st 4), .v .s, .v (.l (.st 1))] (.v (.l .s)) (fun x=>Zq x.1 x.2.1 x.2.2.1) [kK] [.sp [.l .s, .i .i64], .inl]
def zo9:FS:=Av 208 [.v (.st 5), .v (.st 5), .v (.i .i64)] (.v .b) (fun x=>Pe x.1 x.2.1 x.2.2.1) [] []
def zon:FS:=Av 201 [.v (.st 4), .v .s, .v (.l (.st 1))] (.v (.l (.st 5))) (fun x=>UN x.1 x.2.1 x.2.2.1) [zmG,kK,zo9] [.sp [.l (.st 5), .i .i64], .sp [.i .i64, .l (.st 5)]]
def zq7:FS:=Av 105 [.v (.st 4), .v (.l (.st 1)), .v (.st 7)] (.tu (.cons (.v (.l (.st 5))) (.cons (.v .b) .nil))) (fun x=>UY x.1 x.2.1 x.2.2.1) [znK,lI,zon] [.sp [.l (.st 5), .i .i64], .inl]
def znj:FS:=Av 123 [.v (.st 4), .v (.l (.st 1)), .v .s] (.tu (.cons (.v (.l (.st 1))) (.cons (.v .s) .nil))) (fun x=>UE x.1 x.2.1 x.2.2.1) [zpj,zqN,zrT,zq7,ZU,lE] [.sp [.l .s, .i .i64]]
def zpK:FS:=Av 51 [.v (.st 4), .v (.l (.st 1)), .v (.l .s)] (.tu (.cons (.v (.l (.st 1))) (.cons (.v (.l .s)) (.cons (.v .b) .nil)))) (fun x=>UL x.1 x.2.1 x.2.2.1) [kQ,kZ,znj] [.sp [.l (.st 1), .l .s, .i .i64]]
def zrs:FS:=Av 52 [.v (.l (.st 1)), .v (.l (.st 1))] (.v .b) (fun x=>RR x.1 x.2.1) [] [.sp [.i .i64]]
def zqE:FS:=Av 53 [.v (.l .s), .v (.l .s)] (.v .b) (fun x=>U2 x.1 x.2.1) [] [.sp [.i .i64]]
def znL:FS:=Av 14 [.v (.st 4), .v .s] (.tu (.cons (.v (.st 7)) (.cons (.v .b) .nil))) (fun x=>UO x.1 x.2.1) [ZB,kC] []
def zpk:FS:=Av 124 [.v (.st 4), .v (.st 6)] (.v .b) (fun x=>ZK x.1 x.2.1) [ZB,jX] []
def zrO:FS:=Av 54 [.v (.st 4), .v (.l (.st 1)), .v (.st 6)] (.tu (.cons (.v (.l (.st 1))) (.cons (.v .b) (.cons (.v .b) .nil)))) (fun x=>Vr x.1 x.2.1 x.2.2.1) [zpk,lC,kG,lG] []
def lK:FS:=Av 7 [.v (.l (.i .u8)), .v (.l (.i .u8))] (.v .b) (fun x=>U0 x.1 x.2.1) [zlH,zpf,zpK,zrs,zqE,znL,zrO] [.sp [.l (.st 1), .i .i64], .inl]
theorem zrh (a0 a1:List Int) (r:Bool) (h:U0 a0 a1=some r):B6 Tryz.prog B2 7 [.sl (a0.map Ol), .sl (a1.map Ol)] (.bool r):=lK.ok (a0,a1,()) r (by simp [lK,Av,Hi,Rj]) h
def BU {α:Type} (o:Option α) (Q:α→Prop):Prop:= ∃x,o=some x∧Q x
section
variable {α β σ:Type} {Q:β→Prop}
theorem BU.bind {o:Option α} {P:α→Prop} {f:α→Option β} (h:BU o P) (hf: ∀x,P x→BU (f x) Q):BU (o.bind f) Q:=by obtain⟨x,rfl,hx⟩:=h;exact hf x hx
theorem BU.ret {x:β} (h:Q x):BU (some x) Q:=⟨x,rfl,h⟩
theorem BU.ite {b:Bool} {A B:Option β} (ha:b=true→BU A Q) (hb:b=false→BU B Q):BU (if b=true then A else B) Q:=by
 cases b with
 |true=>simpa using ha rfl
 |false=>simpa using hb rfl
theorem BU.req {p:Prop} [Decidable p] {k:Option β} (hp:p) (hk:BU k Q):BU (req p k) Q:=by rw [AG hp];exact hk
theorem BU.mono {o:Option β} {P:β→Prop} (h:BU o P) (tS: ∀x,P x→Q x):BU o Q:=by obtain⟨x,hx,h⟩:=h;exact⟨x,hx,tS x h⟩
theorem BU.getI {xs:List β} {i:Int} (h0:0≤i) (h:i<xs.length) (hq: ∀x,x∈xs→Q x):BU (getI xs i) Q:=by obtain⟨x,h1,h2,_⟩:=LM h0 h;exact⟨x,h1,hq x h2⟩
theorem Ni {body:σ→Option (σ ⊕ Option β)} (I:Nat→σ→Prop) (h: ∀n s,I n s→BU (body s) fun o=>match o with| .inl s'=> ∃m,m<n∧I m s'| .inr q=>BU q Q): ∀{n:Nat} {s:σ},I n s→BU (AN body s) Q:=by
 intro n
 induction n using Nat.strongRecOn with
 |_ n ih=>
  intro s hI;obtain⟨o,ho,h2⟩:=h n s hI;rw [G4,ho]
  match o,h2 with
  | .inl s',⟨m,hm,tQ⟩=>exact ih m hm tQ
  | .inr q,hq=>exact hq
end
structure DB where
 l5:List Int→Prop
 mv: ∀l,l5 l→ ∀b∈l,0≤b∧b≤255
instance codeBytes:Inhabited DB:=⟨⟨fun l=> ∀b∈l,0≤b∧b≤255,fun _ h=>h⟩⟩
def BG [Inhabited DB] (c:AH) (k:Int):Prop:=(default:DB).l5 c.ay∧0≤c.ch∧c.ch≤k
theorem BG.up [Inhabited DB] {c:AH} {i j:Int} (h:BG c i) (J4:i≤j):BG c j:=⟨h.1,h.2.1,by have:=h.2.2;omega⟩
theorem BG.start [Inhabited DB] {code:List Int} (h:(default:DB).l5 code):BG ⟨code,0,0⟩ 0:=⟨h,by simp,by simp⟩
theorem sO (a:Int):0≤IntKind.i64.wrap (IntKind.u64.wrap ((BitVec.ofInt (IntKind.bits .u64) a&&&BitVec.ofInt (IntKind.bits .u64) 255).toNat:Int))∧IntKind.i64.wrap (IntKind.u64.wrap ((BitVec.ofInt (IntKind.bits .u64) a&&&BitVec.ofInt (IntKind.bits .u64) 255).toNat:Int))≤255:=by
 have h:(BitVec.ofInt (IntKind.bits .u64) a&&&BitVec.ofInt (IntKind.bits .u64) 255).toNat≤255:=by rw [BitVec.toNat_and];exact Nat.le_trans Nat.and_le_right (by decide)
 generalize (BitVec.ofInt (IntKind.bits .u64) a&&&BitVec.ofInt (IntKind.bits .u64) 255).toNat=m at h ⊢;have e:IntKind.u64.wrap (m:Int)=m:=by simp [IntKind.wrap,IntKind.bits,IntKind.signed];omega
 rw [e,B3 (by omega) (by omega)];omega
theorem sK [Inhabited DB] {c:AH} {k:Int} (h:BG c k) (hk:k≤4611686018427387904):BU (RC c) fun p=>(0≤p.1∧p.1≤255)∧BG p.2 (k+1):=by
 obtain⟨hb,h0,h1⟩:=h;have w:IntKind.i64.wrap (c.ch+1)=c.ch+1:=B3 (by omega) (by omega);unfold RC;refine .ite (fun Ax=> ?_) fun Ax=> ?_
 ·simp only [decide_eq_true_eq]at Ax;refine BU.bind (P:=fun y=>0≤y∧y≤255) (.getI h0 Ax ((default:DB).mv _ hb)) fun y hy=> ?_;have wy:IntKind.i64.wrap y=y:=B3 (by omega) (by omega);refine .ite (fun _=> .ret ⟨by dsimp only;rw [wy];exact hy,hb,by dsimp only;omega,by dsimp only;omega⟩) fun _=> .ret ⟨sO _,hb,by dsimp only;omega,by dsimp only;omega⟩
 ·refine .ite (fun _=> .ret ⟨by simp,hb,by dsimp only;omega,by dsimp only;omega⟩) fun _=> .ret ⟨sO _,hb,by dsimp only;omega,by dsimp only;omega⟩
theorem EB [Inhabited DB] {c:AH} {k:Int} (n:Int) (h:BG c k) (hk:k≤4611686018427387000):BU (DQ c n) fun p=>(0≤p.1∧(1≤n→p.1<n)∧p.1≤65535)∧BG p.2 (k+2):=by
 have tm: ∀x:Int,0≤x→1<n→0≤x.tmod n∧x.tmod n<n∧x.tmod n≤x:=fun x hx hn=>by
  rw [Int.tmod_eq_emod_of_nonneg hx];exact⟨Int.emod_nonneg _ (by omega),Int.emod_lt_of_pos _ (by omega),by have:=Int.emod_add_mul_ediv x n;have h2:0≤n*(x/n):=Int.mul_nonneg (by omega) (Int.ediv_nonneg hx (by omega));omega⟩
 unfold DQ;refine .ite (fun hn=> .ret ⟨⟨by simp,fun h1=>by dsimp only;omega,by simp⟩,h.up (by omega)⟩) fun hn=> ?_;simp only [decide_eq_false_iff_not]at hn;refine(sK h (by omega)).bind fun p ⟨hp,hc⟩=> ?_;refine .ite (fun _=> ?_) fun _=> ?_
 ·refine(sK hc (by omega)).bind fun q ⟨hq,hd⟩=> .req (by omega) (.ret ?_);have w1:IntKind.i64.wrap (p.1*256)=p.1*256:=B3 (by omega) (by omega);have w2:IntKind.i64.wrap (p.1*256+q.1)=p.1*256+q.1:=B3 (by omega) (by omega);have:=tm (p.1*256+q.1) (by omega) (by omega);dsimp only;rw [w1,w2];exact⟨⟨this.1,fun _=>this.2.1,by omega⟩,hd.up (by omega)⟩
 ·have:=tm p.1 hp.1 (by omega);exact .req (by omega) (.ret ⟨⟨this.1,fun _=>this.2.1,by dsimp only;omega⟩,hc.up (by omega)⟩)
theorem KQ [Inhabited DB] {c:AH} {k:Int} (n:Int) (h:BG c k) (hk:k≤4611686018427387000):BU (HX c n) fun p=>BG p.2 (k+2):=by unfold HX;exact(EB n h hk).bind fun p ⟨_,hc⟩=> .ret hc
theorem foldl_map {α β:Type} (f:α→β) (l:List α) (o:List β):l.foldl (fun o x=>o++ [f x]) o=o++l.map f:=by
 induction l generalizing o with
 |nil=>simp
 |cons x l ih=>rw [List.foldl_cons,ih];simp
theorem tD {n:Nat} {body:Int→Option (Int ⊕ Option Bool)} (hs: ∀i:Nat,i<n→body i=some (.inl ((i+1:Nat):Int))) (he:body n=some (.inr (some true))):AN body 0=some true:=by have h:=LD (n:=n) (body:=body) (fun _=>true) false (some true) (fun i hi=>by rw [hs i hi,if_pos rfl]) he;rw [h,if_pos (by simp)]
end Go.Proofs.YtollgpkegmbpmaaGreatDoor
end
