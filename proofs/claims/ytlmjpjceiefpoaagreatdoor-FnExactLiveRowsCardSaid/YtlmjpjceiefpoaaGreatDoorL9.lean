/- Parts of a proof, joined: QM. -/
import Derived.Test.YtlmjpjceiefpoaaGreatDoorL8
set_option linter.unusedVariables false
set_option linter.unusedSimpArgs false
namespace Go.Proofs.YtlmjpjceiefpoaaGreatDoor
open Go.RowKit
noncomputable section
set_option maxRecDepth 100000
abbrev Ab:=List UInt8
def Sh(a0:List (Ab))(v1 v2:Int):Option ((Int × Int) ⊕ Option (Int)):=
 if(decide (v2<(a0.length:Int)))then
  (Ak a0 v2).bind λy3=>
  if(decide ((IntKind.i64.wrap (v1-(y3.length:Int)))<0))then
   some (.inr (some (-1)))
  else
   some (.inl ((IntKind.i64.wrap (v1-(y3.length:Int))),(IntKind.i64.wrap (v2+1))))
 else
  some (.inr (some v1))
def OL(a0:List (Ab))(a1:Int):Option (Int):=
 if(decide ((IntKind.i64.wrap (a1-(a0.length:Int)))<0))then
  some (-1)
 else
  Ao (λs:Int × Int=>Sh a0 s.1 s.2) ((IntKind.i64.wrap (a1-(a0.length:Int))),0)
def iW(a0:A5)(a1:Int):Option (Int):=
 if(decide ((IntKind.i64.wrap (a1-(a0.ae.length:Int)))<0))then
  some (-1)
 else
  some (IntKind.i64.wrap (a1-(a0.ae.length:Int)))
def zC(a0:List A5)(a1:Int):Option (Int):=Iu iW a0 a1
def gI(a0:An)(a1:Int):Option (Int):=
 if(decide ((IntKind.i64.wrap (a1-(a0.ae.length:Int)))<0))then
  some (-1)
 else
  (OL a0.bf (IntKind.i64.wrap (a1-(a0.ae.length:Int)))).bind λv1=>
  if(decide (v1<0))then
   some (-1)
  else
   (zC a0.aj v1).bind λv2=>
   if(decide (v2<0))then
    some (-1)
   else
    some v2
def yA(a0:List An)(a1:Int):Option (Int):=Iu gI a0 a1
def TK(a0:List Int)(a1:Int):Option (Int):=
 if(decide ((IntKind.i64.wrap (a1-(a0.length:Int)))<0))then
  some (-1)
 else
  some (IntKind.i64.wrap (a1-(a0.length:Int)))
def TQ(a0:A4)(a1:Int):Option (Int):=
 (OL a0.ay a1).bind λv1=>
 if(decide (v1<0))then
  some (-1)
 else
  some v1
def eS(a0:Cv)(a1:Int):Option (Int):=
 (TQ a0.cu a1).bind λv1=>
 if(decide (v1<0))then
  some (-1)
 else
  (TQ a0.c9 v1).bind λv2=>
  if(decide (v2<0))then
   some (-1)
  else
   some v2
def cM(a0:Db)(a1:Int):Option (Int):=
 (eS a0.fAct a1).bind λv1=>
 if(decide (v1<0))then
  some (-1)
 else
  (TQ a0.fRow v1).bind λv2=>
  if(decide (v2<0))then
   some (-1)
  else
   some v2
def wZ(a0:List Db)(a1:Int):Option (Int):=Iu cM a0 a1
def eP(a0:List DB)(a1:Int):Option (Int):=
 if(decide ((IntKind.i64.wrap (a1-(a0.length:Int)))<0))then
  some (-1)
 else
  some (IntKind.i64.wrap (a1-(a0.length:Int)))
def fU(a0:Ah)(a1:Int):Option (Int):=
 if(decide ((IntKind.i64.wrap (a1-(a0.ab.length:Int)))<0))then
  some (-1)
 else
  if(decide ((IntKind.i64.wrap ((IntKind.i64.wrap (a1-(a0.ab.length:Int)))-(a0.aw.length:Int)))<0))then
   some (-1)
  else
   some (IntKind.i64.wrap ((IntKind.i64.wrap (a1-(a0.ab.length:Int)))-(a0.aw.length:Int)))
def yQ(a0:List Ah)(a1:Int):Option (Int):=Iu fU a0 a1
def jD(a0:BH)(a1:Int):Option (Int):=
 (OL a0.bc a1).bind λv1=>
 if(decide (v1<0))then
  some (-1)
 else
  (yQ a0.af v1).bind λv2=>
  if(decide (v2<0))then
   some (-1)
  else
   some v2
def gH(a0:B8)(a1:Int):Option (Int):=
 (jD a0.fRec a1).bind λv1=>
 if(decide (v1<0))then
  some (-1)
 else
  some v1
def xT(a0:List B8)(a1:Int):Option (Int):=Iu gH a0 a1
def dZ(a0:Cu)(a1:Int):Option (Int):=
 (xT a0.cr a1).bind λv1=>
 if(decide (v1<0))then
  some (-1)
 else
  some v1
def wB(a0:List Cu)(a1:Int):Option (Int):=Iu dZ a0 a1
def fW(a0:BZ)(a1:Int):Option (Int):=
 (wB a0.ar a1).bind λv1=>
 if(decide (v1<0))then
  some (-1)
 else
  some v1
def yR(a0:List BZ)(a1:Int):Option (Int):=Iu fW a0 a1
def gV(a0:Bh)(a1:Int):Option (Int):=
 if(decide ((IntKind.i64.wrap (a1-(a0.ab.length:Int)))<0))then
  some (-1)
 else
  some (IntKind.i64.wrap (a1-(a0.ab.length:Int)))
def zG(a0:List Bh)(a1:Int):Option (Int):=Iu gV a0 a1
def xR(a0:List (List Bh))(a1:Int):Option (Int):=Iu zG a0 a1
def jK(a0:AK)(a1:Int):Option (Int):=
 if(decide ((IntKind.i64.wrap (a1-(a0.ab.length:Int)))<0))then
  some (-1)
 else
  if(decide ((IntKind.i64.wrap ((IntKind.i64.wrap (a1-(a0.ab.length:Int)))-(a0.aw.length:Int)))<0))then
   some (-1)
  else
   some (IntKind.i64.wrap ((IntKind.i64.wrap (a1-(a0.ab.length:Int)))-(a0.aw.length:Int)))
def zqp(a0:List AK)(a1:Int):Option (Int):=Iu jK a0 a1
def iT(a0:Cd)(a1:Int):Option (Int):=
 if(decide ((IntKind.i64.wrap (a1-(a0.ab.length:Int)))<0))then
  some (-1)
 else
  if(decide ((IntKind.i64.wrap ((IntKind.i64.wrap (a1-(a0.ab.length:Int)))-(a0.aw.length:Int)))<0))then
   some (-1)
  else
   some (IntKind.i64.wrap ((IntKind.i64.wrap (a1-(a0.ab.length:Int)))-(a0.aw.length:Int)))
def iA(a0:List Cd)(a1:Int):Option (Int):=Iu iT a0 a1
def dB(a0:CU)(a1:Int):Option (Int):=
 (zqp a0.ef a1).bind λv1=>
 if(decide (v1<0))then
  some (-1)
 else
  (iA a0.cm v1).bind λv2=>
  if(decide (v2<0))then
   some (-1)
  else
   (TK a0.c6 v2).bind λv3=>
   if(decide (v3<0))then
    some (-1)
   else
    some v3
def vL(a0:List CU)(a1:Int):Option (Int):=Iu dB a0 a1
def cB(a0:Cw)(a1:Int):Option (Int):=
 (OL a0.ch a1).bind λv1=>
 if(decide (v1<0))then
  some (-1)
 else
  (iA a0.cm v1).bind λv2=>
  if(decide (v2<0))then
   some (-1)
  else
   some v2
def vA(a0:List Cw)(a1:Int):Option (Int):=Iu cB a0 a1
def eZ(a0:BG)(a1:Int):Option (Int):=
 (eP a0.bh a1).bind λv1=>
 if(decide (v1<0))then
  some (-1)
 else
  (OL a0.br v1).bind λv2=>
  if(decide (v2<0))then
   some (-1)
  else
   (yR a0.az v2).bind λv3=>
   if(decide (v3<0))then
    some (-1)
   else
    (xR a0.cj v3).bind λv4=>
    if(decide (v4<0))then
     some (-1)
    else
     (TK a0.bj v4).bind λv5=>
     if(decide (v5<0))then
      some (-1)
     else
      (vL a0.cf v5).bind λv6=>
      if(decide (v6<0))then
       some (-1)
      else
       (vA a0.cc v6).bind λv7=>
       if(decide (v7<0))then
        some (-1)
       else
        some v7
def gP(a0:CW)(a1:Int):Option (Int):=
 if(decide ((IntKind.i64.wrap (a1-(a0.ae.length:Int)))<0))then
  some (-1)
 else
  (yA a0.cz (IntKind.i64.wrap (a1-(a0.ae.length:Int)))).bind λv1=>
  if(decide (v1<0))then
   some (-1)
  else
   (TK a0.bq v1).bind λv2=>
   if(decide (v2<0))then
    some (-1)
   else
    (wZ a0.cq v2).bind λv3=>
    if(decide (v3<0))then
     some (-1)
    else
     (eZ a0.aq v3).bind λv4=>
     if(decide (v4<0))then
      some (-1)
     else
      some v4
def Xg(a0:List (Ab))(v1:Int)(v2:List (Ab)):Option ((Int × List (Ab)) ⊕ Option (List (Ab))):=
 if(decide (v1<(a0.length:Int)))then
  (Ak a0 v1).bind λy3=>
  (Ak v2 v1).bind λy4=>
  some (.inl ((IntKind.i64.wrap (v1+1)),(v2.set (v1).toNat y3)))
 else
  some (.inr (some v2))
def OO(a0:List (Ab)):Option (List (Ab)):=
 Ar (0<=(a0.length:Int)/\(a0.length:Int)*16<=140737488355328/\(a0.length:Int)<=140737488355328)<|
 Ao (λs:Int × List (Ab)=>Xg a0 s.1 s.2) (0,(List.replicate ((a0.length:Int)).toNat ([]:Ab)))
def zS(a0:A5):Option (A5):=
 some a0
def zD(a0:List A5):Option (List A5):=toL zS (⟨([]:Ab),0,0⟩:A5) 32 a0
def fP(a0:An):Option (An):=
 (OO a0.bf).bind λv1=>
 (zD a0.aj).bind λv2=>
 some (⟨a0.ae,v1,v2⟩:An)
def yV(a0:List An):Option (List An):=toL fP (⟨([]:Ab),[],[]⟩:An) 64 a0
def Xu(a0:List Int)(v1:Int)(v2:List Int):Option ((Int × List Int) ⊕ Option (List Int)):=
 if(decide (v1<(a0.length:Int)))then
  (Ak a0 v1).bind λy3=>
  (Ak v2 v1).bind λy4=>
  some (.inl ((IntKind.i64.wrap (v1+1)),(v2.set (v1).toNat y3)))
 else
  some (.inr (some v2))
def TI(a0:List Int):Option (List Int):=
 Ar (0<=(a0.length:Int)/\(a0.length:Int)*8<=140737488355328/\(a0.length:Int)<=140737488355328)<|
 Ao (λs:Int × List Int=>Xu a0 s.1 s.2) (0,(List.replicate ((a0.length:Int)).toNat 0))
def TN(a0:A4):Option (A4):=
 (OO a0.ay).bind λv1=>
 some (⟨v1⟩:A4)
def dJ(a0:Cv):Option (Cv):=
 (TN a0.cu).bind λv1=>
 (TN a0.c9).bind λv2=>
 some (⟨a0.ah,v1,v2⟩:Cv)
def cP(a0:Db):Option (Db):=
 (dJ a0.fAct).bind λv1=>
 (TN a0.fRow).bind λv2=>
 some (⟨a0.ga,a0.gy,v1,v2⟩:Db)
def xB(a0:List Db):Option (List Db):=toL cP (⟨0,false,(⟨0,(⟨[]⟩:A4),(⟨[]⟩:A4)⟩:Cv),(⟨[]⟩:A4)⟩:Db) 96 a0
def yF(a0:DB):Option (DB):=
 some a0
def xX(a0:List DB):Option (List DB):=toL yF (⟨0⟩:DB) 8 a0
def zK(a0:Ah):Option (Ah):=
 some a0
def yT(a0:List Ah):Option (List Ah):=toL zK (⟨([]:Ab),([]:Ab),false⟩:Ah) 40 a0
def iQ(a0:BH):Option (BH):=
 (OO a0.bc).bind λv1=>
 (yT a0.af).bind λv2=>
 some (⟨a0.ah,a0.bd,a0.ak,a0.bu,v1,v2,a0.dj⟩:BH)
def gB(a0:B8):Option (B8):=
 (iQ a0.fRec).bind λv1=>
 some (⟨a0.cd,v1⟩:B8)
def xZ(a0:List B8):Option (List B8):=toL gB (⟨0,(⟨0,0,0,0,[],[],false⟩:BH)⟩:B8) 96 a0
def dS(a0:Cu):Option (Cu):=
 (xZ a0.cr).bind λv1=>
 some (⟨a0.ju,v1,a0.cw⟩:Cu)
def wR(a0:List Cu):Option (List Cu):=toL dS (⟨false,[],0⟩:Cu) 40 a0
def gJ(a0:BZ):Option (BZ):=
 (wR a0.ar).bind λv1=>
 some (⟨v1,a0.cd,a0.bu⟩:BZ)
def xU(a0:List BZ):Option (List BZ):=toL gJ (⟨[],0,0⟩:BZ) 40 a0
def zpl(a0:Bh):Option (Bh):=
 some a0
def zF(a0:List Bh):Option (List Bh):=toL zpl (⟨([]:Ab),0,false⟩:Bh) 32 a0
def yW(a0:List (List Bh)):Option (List (List Bh)):=toL zF [] 24 a0
def zrZ(a0:AK):Option (AK):=
 some a0
def zqH(a0:List AK):Option (List AK):=toL zrZ (⟨0,([]:Ab),([]:Ab),0⟩:AK) 48 a0
def zqt(a0:Cd):Option (Cd):=
 some a0
def iH(a0:List Cd):Option (List Cd):=toL zqt (⟨([]:Ab),([]:Ab),false⟩:Cd) 40 a0
def dC(a0:CU):Option (CU):=
 (zqH a0.ef).bind λv1=>
 (iH a0.cm).bind λv2=>
 (TI a0.c6).bind λv3=>
 some (⟨v1,v2,v3,a0.di,a0.fw,a0.dj,a0.ak,a0.je,a0.ky,a0.gb⟩:CU)
def vO(a0:List CU):Option (List CU):=toL dC (⟨[],[],[],0,0,false,0,false,false,false⟩:CU) 112 a0
def bZ(a0:Cw):Option (Cw):=
 (OO a0.ch).bind λv1=>
 (iH a0.cm).bind λv2=>
 some (⟨a0.ff,v1,v2,a0.ak,a0.di,a0.fw⟩:Cw)
def vF(a0:List Cw):Option (List Cw):=toL bZ (⟨0,[],[],0,0,0⟩:Cw) 80 a0
def gK(a0:BG):Option (BG):=
 (xX a0.bh).bind λv1=>
 (OO a0.br).bind λv2=>
 (xU a0.az).bind λv3=>
 (yW a0.cj).bind λv4=>
 (TI a0.bj).bind λv5=>
 (vO a0.cf).bind λv6=>
 (vF a0.cc).bind λv7=>
 some (⟨a0.gq,a0.cy,v1,v2,v3,v4,v5,v6,v7⟩:BG)
def QM(a0:CW):Option (CW):=
 (yV a0.cz).bind λv1=>
 (TI a0.bq).bind λv2=>
 (xB a0.cq).bind λv3=>
 (gK a0.aq).bind λv4=>
 some (⟨a0.ae,v1,a0.gi,v2,v3,v4⟩:CW)
def uQ(a0:Ab)(a1:Int):Option (Bool):=
 some ((decide ((a0.length:Int)>=1))&&(decide ((a0.length:Int)<=a1)))
def uK(a0:Ab)(a1 v1:Int):Option ((Int) ⊕ Option (Bool)):=
 if(decide (v1<(a0.length:Int)))then
  (Ak a0 v1).bind λy2=>
  if((decide ((y2.toNat:Int)<97))||(decide ((y2.toNat:Int)>122)))then
   some (.inr (some false))
  else
   some (.inl (IntKind.i64.wrap (v1+1)))
 else
  some (.inr (uQ a0 a1))
def SO(a0:Ab)(a1:Int):Option (Bool):=
 Ao (λs:Int=>uK a0 a1 s) 0
def yS(a0:List (Ab))(a1:Ab)(v1:Int):Option ((Int) ⊕ Option (Int)):=
 if(decide (v1<(a0.length:Int)))then
  (Ak a0 v1).bind λy2=>
  if(y2==a1)then
   some (.inr (some v1))
  else
   some (.inl (IntKind.i64.wrap (v1+1)))
 else
  some (.inr (some (-1)))
def jC(a0:List (Ab))(a1:Ab):Option (Int):=
 Ao (λs:Int=>yS a0 a1 s) 0
def Dj(a0 a1 a2:Int):Option (Bool):=
 some ((decide (a0>=a1))&&(decide (a0<=a2)))
def wT(a0:List (Ab)):Option (Bool):=
 (Dj (a0.length:Int) 2 4).bind λv1=>
 some v1
def wU(a0:List (Ab))(v2:Int):Option ((Int) ⊕ Option (Bool)):=
 if(decide (v2<(a0.length:Int)))then
  (Ak a0 v2).bind λy3=>
  (SO y3 3).bind λv4=>
  if v4 then
   Ar (0<=(0:Int)/\(0:Int)<=v2/\v2<=(a0.length:Int))<|
   (jC (AU a0 0 v2) y3).bind λv5=>
   if(decide (v5>=0))then
    some (.inr (some false))
   else
    some (.inl (IntKind.i64.wrap (v2+1)))
  else
   some (.inr (some false))
 else
  some (.inr (wT a0))
def gF(a0:List (Ab)):Option (Bool):=
 Ao (λs:Int=>wU a0 s) 0
def bV(a0:An)(v3:Int):Option ((Int) ⊕ Option (Bool)):=
 if(decide (v3<(a0.aj.length:Int)))then
  (Ak a0.aj v3).bind λy4=>
  (SO y4.ae 1).bind λv5=>
  if v5 then
   (Dj y4.dk 1 (IntKind.i64.wrap ((a0.bf.length:Int)-1))).bind λv6=>
   if v6 then
    (Dj y4.bg 0 3).bind λv7=>
    if(decide (v3>0))then
     if v7 then
      (Ak a0.aj (IntKind.i64.wrap (v3-1))).bind λy8=>
      if(!Op.bytesLess y8.ae y4.ae)then
       some (.inr (some false))
      else
       some (.inl (IntKind.i64.wrap (v3+1)))
     else
      some (.inr (some false))
    else
     if((!v7)||false)then
      some (.inr (some false))
     else
      some (.inl (IntKind.i64.wrap (v3+1)))
   else
    some (.inr (some false))
  else
   some (.inr (some false))
 else
  some (.inr (some true))
def OP(a0:An):Option (Bool):=
 (SO a0.ae 1).bind λv1=>
 if v1 then
  (gF a0.bf).bind λv2=>
  if((!v2)||(decide ((a0.aj.length:Int)>3)))then
   some false
  else
   Ao (λs:Int=>bV a0 s) 0
 else
  some false
def xI(a0:An)(a1:Ab)(v1:Int):Option ((Int) ⊕ Option (Int)):=
 if(decide (v1<(a0.aj.length:Int)))then
  (Ak a0.aj v1).bind λy2=>
  if(y2.ae==a1)then
   some (.inr (some v1))
  else
   some (.inl (IntKind.i64.wrap (v1+1)))
 else
  some (.inr (some (-1)))
def QK(a0:An)(a1:Ab):Option (Int):=
 Ao (λs:Int=>xI a0 a1 s) 0
def XY(a0:An)(a1:Ab):Option (A5 × Bool):=
 (QK a0 a1).bind λv1=>
 (OP a0).bind λv2=>
 if((!v2)||(decide (v1<0)))then
  some ((⟨([]:Ab),0,0⟩:A5),false)
 else
  (Ak a0.aj v1).bind λy3=>
  some (y3,true)
def Tv(a0:An)(a1:Ab)(a2:Int):Option (Bool):=
 (OP a0).bind λv1=>
 if v1 then
  (QK a0 a1).bind λv2=>
  if(decide (v2>=0))then
   (Dj a2 0 3).bind λv3=>
   some v3
  else
   some false
 else
  some false
def XT(a0:An):Option (An):=
 Ar (RM ((([]:List (Ab)).length:Int)+((a0.bf).length:Int)) 16)<|
 Ar (RM ((([]:List A5).length:Int)+((a0.aj).length:Int)) 32)<|
 some a0
def XR(a0:An)(a1:Ab)(a2:Int):Option (An):=
 (XT a0).bind λv1=>
 (QK a0 a1).bind λv2=>
 (Ak v1.aj v2).bind λy3=>
 some (⟨v1.ae,v1.bf,(v1.aj.set (v2).toNat {y3 with bg:=a2})⟩:An)
def XD(a0:An)(a1:Ab)(a2 v4:Int)(v5:List An):Option ((Int × List An) ⊕ Option (List An)):=
 if(v4 !=a2)then
  if(decide (v4<a2))then
   (XR a0 a1 (IntKind.i64.wrap (v4+1))).bind λv6=>
   Ar (RM (((v5).length:Int)+(([v6]:List An).length:Int)) 64)<|
   some (.inl ((IntKind.i64.wrap (v4+1)),(v5++ [v6])))
  else
   (XR a0 a1 (IntKind.i64.wrap (v4-1))).bind λv7=>
   Ar (RM (((v5).length:Int)+(([v7]:List An).length:Int)) 64)<|
   some (.inl ((IntKind.i64.wrap (v4-1)),(v5++ [v7])))
 else
  some (.inr (some v5))
def gQ(a0:An)(a1:Ab)(a2:Int):Option (List An):=
 (XT a0).bind λv1=>
 (QK a0 a1).bind λv2=>
 (Ak a0.aj v2).bind λy3=>
 Ao (λs:Int × List An=>XD a0 a1 a2 s.1 s.2) (y3.bg,[v1])
def TO(a0:An)(a1:Ab)(a2:Int):Option (List An × Bool):=
 (Tv a0 a1 a2).bind λv1=>
 if(!v1)then
  some ([],false)
 else
  (gQ a0 a1 a2).bind λv2=>
  some (v2,true)
def Xl(a0:List (Ab))(a1:List (Ab))(v1:Int):Option ((Int) ⊕ Option (Bool)):=
 if(decide (v1<(a0.length:Int)))then
  (Ak a0 v1).bind λy2=>
  (Ak a1 v1).bind λy3=>
  if(y2 !=y3)then
   some (.inr (some false))
  else
   some (.inl (IntKind.i64.wrap (v1+1)))
 else
  some (.inr (some true))
def fE(a0:List (Ab))(a1:List (Ab)):Option (Bool):=
 if((a0.length:Int) !=(a1.length:Int))then
  some false
 else
  Ao (λs:Int=>Xl a0 a1 s) 0
def R5(a0 a1:An)(v2:Int):Option ((Int) ⊕ Option (Bool)):=
 if(decide (v2<(a0.aj.length:Int)))then
  (Ak a0.aj v2).bind λy3=>
  (Ak a1.aj v2).bind λy4=>
  if(!(y3.ae==y4.ae&&(y3.dk==y4.dk&&(y3.bg==y4.bg))))then
   some (.inr (some false))
  else
   some (.inl (IntKind.i64.wrap (v2+1)))
 else
  some (.inr (some true))
def Xf(a0 a1:An):Option (Bool):=
 if(a0.ae !=a1.ae)then
  some false
 else
  (fE a0.bf a1.bf).bind λv1=>
  if((!v1)||((a0.aj.length:Int) !=(a1.aj.length:Int)))then
   some false
  else
   Ao (λs:Int=>R5 a0 a1 s) 0
def SU(a0:List An)(v4:List An × Bool)(v5:Int):Option ((Int) ⊕ Option (Bool)):=
 if(decide (v5<(v4.1.length:Int)))then
  (Ak v4.1 v5).bind λy6=>
  (Ak a0 v5).bind λy7=>
  (Xf y6 y7).bind λv8=>
  if(!v8)then
   some (.inr (some false))
  else
   some (.inl (IntKind.i64.wrap (v5+1)))
 else
  some (.inr (some true))
def eT(a0:List An)(a1:Ab):Option (Bool):=
 if((a0.length:Int) !=4)then
  some false
 else
  (Ak a0 0).bind λy1=>
  (OP y1).bind λv2=>
  if(!v2)then
   some false
  else
   (XY y1 a1).bind λv3=>
   (TO y1 a1 3).bind λv4=>
   if((((!v3.2)||(!v4.2))||(v3.1.bg !=0))||((v4.1.length:Int) !=4))then
    some false
   else
    Ao (λs:Int=>SU a0 v4 s) 0
def Tq(a0:List Int)(a1 a2 v1:Int):Option ((Int) ⊕ Option (Bool)):=
 if(decide (v1<(a0.length:Int)))then
  (Ak a0 v1).bind λy2=>
  (Dj y2 a1 a2).bind λv3=>
  if(!v3)then
   some (.inr (some false))
  else
   some (.inl (IntKind.i64.wrap (v1+1)))
 else
  some (.inr (some true))
def TP(a0:List Int)(a1 a2:Int):Option (Bool):=
 Ao (λs:Int=>Tq a0 a1 a2 s) 0
def wY(v1:Int)(v3:Bool):Option ((Int) ⊕ Option (Bool)):=
 if(!v3)then
  some (.inr (some false))
 else
  some (.inl (IntKind.i64.wrap (v1+1)))
def Xk(a1:Ab)(v1:Int)(y2:UInt8)(v4:Bool)(v5:Int):Option ((Bool × Int) ⊕ Option ((Int) ⊕ Option (Bool))):=
 if(decide (v5<(a1.length:Int)))then
  if v4 then
   some (.inl (true,(IntKind.i64.wrap (v5+1))))
  else
   (Ak a1 v5).bind λy6=>
   some (.inl (((y2.toNat:Int)==(y6.toNat:Int)),(IntKind.i64.wrap (v5+1))))
 else
  some (.inr (wY v1 v4))
def vJ(a0 a1:Ab)(v1:Int):Option ((Int) ⊕ Option (Bool)):=
 if(decide (v1<(a0.length:Int)))then
  (Ak a0 v1).bind λy2=>
  Ao (λs:Bool × Int=>Xk a1 v1 y2 s.1 s.2) ((((decide ((y2.toNat:Int)>=97))&&(decide ((y2.toNat:Int)<=122)))||((decide ((y2.toNat:Int)>=48))&&(decide ((y2.toNat:Int)<=57)))),0)
 else
  some (.inr (some true))
def TG(a0 a1:Ab):Option (Bool):=
 Ao (λs:Int=>vJ a0 a1 s) 0
def Ld(a0:Ab):Option (Bool):=
 (Dj (a0.length:Int) 1 12).bind λv1=>
 if v1 then
  (TG a0 ([46,47]:Ab)).bind λv2=>
  some v2
 else
  some false
def vY(a0:List (Ab)):Option (Bool):=
 some (decide ((a0.length:Int)<4))
def SF(a0:List (Ab))(v1:Int):Option ((Int) ⊕ Option (Bool)):=
 if(decide (v1<(a0.length:Int)))then
  (Ak a0 v1).bind λy2=>
  (Ld y2).bind λv3=>
  if(decide (v1>0))then
   if v3 then
    (Ak a0 (IntKind.i64.wrap (v1-1))).bind λy4=>
    if(!Op.bytesLess y4 y2)then
     some (.inr (some false))
    else
     some (.inl (IntKind.i64.wrap (v1+1)))
   else
    some (.inr (some false))
  else
   if((!v3)||false)then
    some (.inr (some false))
   else
    some (.inl (IntKind.i64.wrap (v1+1)))
 else
  some (.inr (vY a0))
def fD(a0:List (Ab)):Option (Bool):=
 Ao (λs:Int=>SF a0 s) 0
def OS(a0:Int):Option (Bool):=
 (Dj a0 1 100000).bind λv1=>
 some v1
def xL(a0:List (Ab)):Option (Bool):=
 some (decide ((a0.length:Int)<=8))
def Tc(a0:List (Ab))(v1:Int):Option ((Int) ⊕ Option (Bool)):=
 if(decide (v1<(a0.length:Int)))then
  (Ak a0 v1).bind λy2=>
  (Ld y2).bind λv3=>
  if(decide (v1>0))then
   if v3 then
    (Ak a0 (IntKind.i64.wrap (v1-1))).bind λy4=>
    if(!Op.bytesLess y4 y2)then
     some (.inr (some false))
    else
     some (.inl (IntKind.i64.wrap (v1+1)))
   else
    some (.inr (some false))
  else
   if((!v3)||false)then
    some (.inr (some false))
   else
    some (.inl (IntKind.i64.wrap (v1+1)))
 else
  some (.inr (xL a0))
def gO(a0:List (Ab)):Option (Bool):=
 Ao (λs:Int=>Tc a0 s) 0
def TM(a0:Ab):Option (Bool):=
 if(decide ((a0.length:Int)<=24))then
  (TG a0 ([46,45,44,95]:Ab)).bind λv1=>
  some v1
 else
  some false
def XI(a0 a1:Ab)(a2:Bool):Option (Bool):=
 (Ld a0).bind λv1=>
 if v1 then
  (TM a1).bind λv2=>
  some (v2&&((!a2)||(a1==([]:Ab))))
 else
  some false
def u5(a0:List Ah):Option (Bool):=
 some (decide ((a0.length:Int)<=24))
def vT(a0:List Ah)(v1:Int):Option ((Int) ⊕ Option (Bool)):=
 if(decide (v1<(a0.length:Int)))then
  (Ak a0 v1).bind λy2=>
  (XI y2.ab y2.aw y2.bm).bind λv3=>
  if(decide (v1>0))then
   if v3 then
    (Ak a0 (IntKind.i64.wrap (v1-1))).bind λy4=>
    if(!Op.bytesLess y4.ab y2.ab)then
     some (.inr (some false))
    else
     some (.inl (IntKind.i64.wrap (v1+1)))
   else
    some (.inr (some false))
  else
   if((!v3)||false)then
    some (.inr (some false))
   else
    some (.inl (IntKind.i64.wrap (v1+1)))
 else
  some (.inr (u5 a0))
def Xo(a0:List Ah):Option (Bool):=
 Ao (λs:Int=>vT a0 s) 0
def cO(a0:BH)(v7:Bool):Option (Bool):=
 if v7 then
  (Dj a0.bd 1 60).bind λv8=>
  if a0.dj then
   if v8 then
    (OS a0.ak).bind λv9=>
    some (v9||false)
   else
    some false
  else
   some (v8&&(a0.ak==0))
 else
  if(a0.ah==4)then
   if(a0.bd==0)then
    (OS a0.ak).bind λv10=>
    some (v10&&(!a0.dj))
   else
    some false
  else
   some false
def zY(a0:BH):Option (Bool):=
 if((a0.ah !=1)&&((a0.bu !=0)||(decide ((IntKind.i64.wrap ((a0.bc.length:Int)+(a0.af.length:Int)))>0))))then
  some false
 else
  if(a0.ah==1)then
   (Dj a0.bd 1 60).bind λv1=>
   if v1 then
    (OS a0.ak).bind λv2=>
    if v2 then
     (Dj a0.bu 0 3).bind λv3=>
     if v3 then
      (gO a0.bc).bind λv4=>
      if v4 then
       (Xo a0.af).bind λv5=>
       if v5 then
        (Dj (a0.af.length:Int) 0 8).bind λv6=>
        some ((v6&&(decide ((IntKind.i64.wrap ((a0.bc.length:Int)+(a0.af.length:Int)))>0)))&&(!a0.dj))
       else
        some false
      else
       some false
     else
      some false
    else
     some false
   else
    some false
  else
   if(a0.ah==2)then
    cO a0 (a0.ah==2)
   else
    cO a0 (a0.ah==3)
def eU(a0:BH):Option (Bool):=
 (zY a0).bind λv1=>
 some v1
def Sk(a0:Cu)(a1 v2 v3:Int):Option ((Int × Int) ⊕ Option (Bool)):=
 if(decide (v3<(a0.cr.length:Int)))then
  (Ak a0.cr v3).bind λy4=>
  (Dj y4.cd v2 a1).bind λv5=>
  if v5 then
   (eU y4.fRec).bind λv6=>
   if(!v6)then
    some (.inr (some false))
   else
    some (.inl (y4.cd,(IntKind.i64.wrap (v3+1))))
  else
   some (.inr (some false))
 else
  some (.inr (some true))
def Xw(a0:Cu)(a1:Int):Option (Bool):=
 if(decide ((a0.cr.length:Int)>60))then
  some false
 else
  (Dj a0.cw 0 (a0.cr.length:Int)).bind λv1=>
  if(!v1)then
   some false
  else
   Ao (λs:Int × Int=>Sk a0 a1 s.1 s.2) (1,0)
def uZ(a0:BZ):Option (Bool):=
 if(decide (a0.bu<0))then
  some true
 else
  (Ak a0.ar a0.bu).bind λy3=>
  some y3.ju
def Xe(a0:BZ)(v4:Int):Option ((Int) ⊕ Option (Bool)):=
 if(decide (v4<(a0.ar.length:Int)))then
  (Ak a0.ar v4).bind λy5=>
  (Xw y5 a0.cd).bind λv6=>
  if(!v6)then
   some (.inr (some false))
  else
   some (.inl (IntKind.i64.wrap (v4+1)))
 else
  some (.inr (uZ a0))
def vG(a0:BZ):Option (Bool):=
 if(decide (a0.bu<0))then
  some true
 else
  (Ak a0.ar a0.bu).bind λy9=>
  some y9.ju
def Xb(a0:BZ)(v10:Int):Option ((Int) ⊕ Option (Bool)):=
 if(decide (v10<(a0.ar.length:Int)))then
  (Ak a0.ar v10).bind λy11=>
  (Xw y11 a0.cd).bind λv12=>
  if(!v12)then
   some (.inr (some false))
  else
   some (.inl (IntKind.i64.wrap (v10+1)))
 else
  some (.inr (vG a0))
def dP(a0:BZ):Option (Bool):=
 if((a0.ar.length:Int) !=3)then
  if((a0.ar.length:Int) !=5)then
   some false
  else
   (Dj a0.cd 0 200).bind λv1=>
   if v1 then
    (Dj a0.bu (-1) (IntKind.i64.wrap ((a0.ar.length:Int)-1))).bind λv2=>
    if(!v2)then
     some false
    else
     Ao (λs:Int=>Xe a0 s) 0
   else
    some false
 else
  (Dj a0.cd 0 200).bind λv7=>
  if v7 then
   (Dj a0.bu (-1) (IntKind.i64.wrap ((a0.ar.length:Int)-1))).bind λv8=>
   if(!v8)then
    some false
   else
    Ao (λs:Int=>Xb a0 s) 0
  else
   some false
def fJ(a0:Bh):Option (Bool):=
 (Ld a0.ab).bind λv1=>
 if v1 then
  (Dj a0.bd 1 60).bind λv2=>
  some v2
 else
  some false
def eM(a0 a1:Bh):Option (Bool):=
 some (((a0.ab==a1.ab)&&(a0.bd !=a1.bd))&&(a0.ei||a1.ei))
def w5(a0:List Bh):Option (Bool):=
 some (decide ((a0.length:Int)<=60))
def cU(v1:Int):Option ((Int) ⊕ Option (Bool)):=
 some (.inl (IntKind.i64.wrap (v1+1)))
def Qz(a0:List Bh)(v1:Int)(y2:Bh)(v4:Int):Option ((Int) ⊕ Option ((Int) ⊕ Option (Bool))):=
 if(decide (v4<((AU a0 0 v1).length:Int)))then
  (Ak (AU a0 0 v1) v4).bind λy5=>
  if(y2.ab==y5.ab)then
   if(y2.bd==y5.bd)then
    some (.inr (some (.inr (some false))))
   else
    (eM y2 y5).bind λv6=>
    if v6 then
     some (.inr (some (.inr (some false))))
    else
     some (.inl (IntKind.i64.wrap (v4+1)))
  else
   (eM y2 y5).bind λv7=>
   if v7 then
    some (.inr (some (.inr (some false))))
   else
    some (.inl (IntKind.i64.wrap (v4+1)))
 else
  some (.inr (cU v1))
def To(a0:List Bh)(v1:Int):Option ((Int) ⊕ Option (Bool)):=
 if(decide (v1<(a0.length:Int)))then
  (Ak a0 v1).bind λy2=>
  (fJ y2).bind λv3=>
  if(!v3)then
   some (.inr (some false))
  else
   Ar (0<=(0:Int)/\(0:Int)<=v1/\v1<=(a0.length:Int))<|
   Ao (λs:Int=>Qz a0 v1 y2 s) 0
 else
  some (.inr (w5 a0))
def fB(a0:List Bh):Option (Bool):=
 Ao (λs:Int=>To a0 s) 0
def zH(a0:DB):Option (Bool):=
 (Dj a0.gn (-5) 5).bind λv1=>
 some v1
def fV(a0:AK)(v2:Bool):Option (Bool):=
 if v2 then
  (TM a0.aw).bind λv3=>
  some (v3&&(a0.ic==0))
 else
  if(a0.ah==4)then
   if(a0.ah==4)then
    if(a0.aw==([]:Ab))then
     (Dj a0.ic (-9999) 9999).bind λv4=>
     some v4
    else
     some false
   else
    some (((((a0.ah==1)||(a0.ah==3))||(a0.ah==6))&&(a0.aw==([]:Ab)))&&(a0.ic==0))
  else
   if(a0.ah==5)then
    if(a0.aw==([]:Ab))then
     (Dj a0.ic (-9999) 9999).bind λv5=>
     some v5
    else
     some false
   else
    some (((((a0.ah==1)||(a0.ah==3))||(a0.ah==6))&&(a0.aw==([]:Ab)))&&(a0.ic==0))
def jI(a0:AK):Option (Bool):=
 (Ld a0.ab).bind λv1=>
 if(!v1)then
  some false
 else
  if(a0.ah==2)then
   fV a0 (a0.ah==2)
  else
   fV a0 (a0.ah==7)
def xD(a0:List AK):Option (Bool):=
 some (decide ((a0.length:Int)<=8))
def S9(a0:List AK)(v1:Int):Option ((Int) ⊕ Option (Bool)):=
 if(decide (v1<(a0.length:Int)))then
  (Ak a0 v1).bind λy2=>
  (jI y2).bind λv3=>
  if(!v3)then
   some (.inr (some false))
  else
   some (.inl (IntKind.i64.wrap (v1+1)))
 else
  some (.inr (xD a0))
def iO(a0:List AK):Option (Bool):=
 Ao (λs:Int=>S9 a0 s) 0
def xG(a0:List Cd):Option (Bool):=
 some (decide ((a0.length:Int)<=8))
def eB(v1:Int):Option ((Int) ⊕ Option (Bool)):=
 some (.inl (IntKind.i64.wrap (v1+1)))
def QC(a0:List Cd)(v1:Int)(y2:Cd)(v5:Int):Option ((Int) ⊕ Option ((Int) ⊕ Option (Bool))):=
 if(decide (v5<((AU a0 0 v1).length:Int)))then
  (Ak (AU a0 0 v1) v5).bind λy6=>
  if(y2.ab==y6.ab)then
   some (.inr (some (.inr (some false))))
  else
   some (.inl (IntKind.i64.wrap (v5+1)))
 else
  some (.inr (eB v1))
def S8(a0:List Cd)(v1:Int):Option ((Int) ⊕ Option (Bool)):=
 if(decide (v1<(a0.length:Int)))then
  (Ak a0 v1).bind λy2=>
  (Ld y2.ab).bind λv3=>
  if v3 then
   (TM y2.aw).bind λv4=>
   if((!v4)||((!y2.dz)&&(y2.aw !=([]:Ab))))then
    some (.inr (some false))
   else
    Ar (0<=(0:Int)/\(0:Int)<=v1/\v1<=(a0.length:Int))<|
    Ao (λs:Int=>QC a0 v1 y2 s) 0
  else
   some (.inr (some false))
 else
  some (.inr (xG a0))
def XO(a0:List Cd):Option (Bool):=
 Ao (λs:Int=>S8 a0 s) 0
def TH(a0:Int):Option (Bool):=
 (Dj a0 0 100000).bind λv1=>
 some v1
def iI(a0:BG)(a1:CU):Option (Bool):=
 (iO a1.ef).bind λv1=>
 if v1 then
  if(decide ((a1.ef.length:Int)>0))then
   (XO a1.cm).bind λv2=>
   if v2 then
    if((a1.c6.length:Int)==(a0.az.length:Int))then
     (TP a1.c6 0 200).bind λv3=>
     if v3 then
      (Dj a1.di (-1) a0.cy).bind λv4=>
      if v4 then
       (Dj a1.fw (-1) a0.cy).bind λv5=>
       if v5 then
        (TH a1.ak).bind λv6=>
        some v6
       else
        some false
      else
       some false
     else
      some false
    else
     some false
   else
    some false
  else
   some false
 else
  some false
def wA(a0:List (Ab)):Option (Bool):=
 (Dj (a0.length:Int) 1 8).bind λv1=>
 some v1
def Tn(a0:List (Ab))(v2:Int):Option ((Int) ⊕ Option (Bool)):=
 if(decide (v2<(a0.length:Int)))then
  (Ak a0 v2).bind λy3=>
  (Ld y3).bind λv4=>
  if(decide (v2>0))then
   if v4 then
    (Ak a0 (IntKind.i64.wrap (v2-1))).bind λy5=>
    if(!Op.bytesLess y5 y3)then
     some (.inr (some false))
    else
     some (.inl (IntKind.i64.wrap (v2+1)))
   else
    some (.inr (some false))
  else
   if((!v4)||false)then
    some (.inr (some false))
   else
    some (.inl (IntKind.i64.wrap (v2+1)))
 else
  some (.inr (wA a0))
def fQ(a0:List (Ab)):Option (Bool):=
 Ao (λs:Int=>Tn a0 s) 0
def vZ(a0:BG)(a1:Cw):Option (Bool):=
 (Dj a1.ff 0 (IntKind.i64.wrap ((a0.bh.length:Int)-1))).bind λv3=>
 if v3 then
  (TH a1.ak).bind λv4=>
  if v4 then
   (Dj a1.di (-1) a0.cy).bind λv5=>
   if v5 then
    (Dj a1.fw (-1) a0.cy).bind λv6=>
    some v6
   else
    some false
  else
   some false
 else
  some false
def SC(a0:BG)(a1:Cw)(v7:Int):Option ((Int) ⊕ Option (Bool)):=
 if(decide (v7<(a1.cm.length:Int)))then
  (Ak a1.cm v7).bind λy8=>
  (Ak a1.ch v7).bind λy9=>
  if(y8.ab !=y9)then
   some (.inr (some false))
  else
   some (.inl (IntKind.i64.wrap (v7+1)))
 else
  some (.inr (vZ a0 a1))
def fY(a0:BG)(a1:Cw):Option (Bool):=
 (fQ a1.ch).bind λv1=>
 if v1 then
  if(decide ((a1.cm.length:Int)>(a1.ch.length:Int)))then
   some false
  else
   (XO a1.cm).bind λv2=>
   if(!v2)then
    some false
   else
    Ao (λs:Int=>SC a0 a1 s) 0
 else
  some false
def wP(a0:BG):Option (Bool):=
 (TH a0.gq).bind λv3=>
 if v3 then
  (Dj a0.cy 0 1000000).bind λv4=>
  some ((v4&&(decide ((a0.cf.length:Int)<=6)))&&(decide ((a0.cc.length:Int)<=4)))
 else
  some false
def Tj(a0:BG)(v5:Int):Option ((Int) ⊕ Option (Bool)):=
 if(decide (v5<(a0.cc.length:Int)))then
  (Ak a0.cc v5).bind λy6=>
  (fY a0 y6).bind λv7=>
  if(!v7)then
   some (.inr (some false))
  else
   some (.inl (IntKind.i64.wrap (v5+1)))
 else
  some (.inr (wP a0))
def wV(a0:BG):Option (Bool):=
 Ao (λs:Int=>Tj a0 s) 0
def SW(a0:BG)(v8:Int):Option ((Int) ⊕ Option (Bool)):=
 if(decide (v8<(a0.cf.length:Int)))then
  (Ak a0.cf v8).bind λy9=>
  (iI a0 y9).bind λv10=>
  if(!v10)then
   some (.inr (some false))
  else
   some (.inl (IntKind.i64.wrap (v8+1)))
 else
  some (.inr (wV a0))
def w8(a0:BG):Option (Bool):=
 Ao (λs:Int=>SW a0 s) 0
def Tk(a0:BG)(v11:Int):Option ((Int) ⊕ Option (Bool)):=
 if(decide (v11<(a0.bh.length:Int)))then
  (Ak a0.bh v11).bind λy12=>
  (zH y12).bind λv13=>
  if(!v13)then
   some (.inr (some false))
  else
   some (.inl (IntKind.i64.wrap (v11+1)))
 else
  some (.inr (w8 a0))
def vH(a0:BG):Option (Bool):=
 Ao (λs:Int=>Tk a0 s) 0
def SG(a0:BG)(v14:Int):Option ((Int) ⊕ Option (Bool)):=
 if(decide (v14<(a0.az.length:Int)))then
  (Ak a0.az v14).bind λy15=>
  (dP y15).bind λv16=>
  if v16 then
   if((y15.ar.length:Int) !=3)then
    some (.inr (some false))
   else
    (Ak a0.cj v14).bind λy17=>
    (fB y17).bind λv18=>
    if(!v18)then
     some (.inr (some false))
    else
     some (.inl (IntKind.i64.wrap (v14+1)))
  else
   some (.inr (some false))
 else
  some (.inr (vH a0))
def fF(a0:BG):Option (Bool):=
 (fD a0.br).bind λv1=>
 if v1 then
  if(decide ((IntKind.i64.wrap ((a0.br.length:Int)+1))>3))then
   some false
  else
   if((a0.az.length:Int) !=(IntKind.i64.wrap ((a0.br.length:Int)+1)))then
    some false
   else
    if((a0.bh.length:Int) !=(IntKind.i64.wrap ((3:Int)*(IntKind.i64.wrap ((a0.br.length:Int)+1)))))then
     some false
    else
     if((a0.cj.length:Int) !=(IntKind.i64.wrap ((a0.br.length:Int)+1)))then
      some false
     else
      if((a0.bj.length:Int) !=(IntKind.i64.wrap ((a0.br.length:Int)+1)))then
       some false
      else
       (TP a0.bj 0 100000).bind λv2=>
       if(!v2)then
        some false
       else
        Ao (λs:Int=>SG a0 s) 0
 else
  some false
def eJ(a0:Cv):Option (Bool):=
 some ((a0.ah==0)&&((IntKind.i64.wrap ((a0.cu.ay.length:Int)+(a0.c9.ay.length:Int)))==0))
def eE(a0:Ab):Option (Bool):=
 (Dj (a0.length:Int) 1 3).bind λv1=>
 if v1 then
  (TG a0 ([]:Ab)).bind λv2=>
  some v2
 else
  some false
def wL(a0:An)(a1:A4):Option (Bool):=
 some ((a1.ay.length:Int)==(a0.bf.length:Int))
def w7(a0:An)(a1:A4)(v1:Int):Option ((Int) ⊕ Option (Bool)):=
 if(decide (v1<(a1.ay.length:Int)))then
  (Ak a1.ay v1).bind λy2=>
  (eE y2).bind λv3=>
  if(!v3)then
   some (.inr (some false))
  else
   some (.inl (IntKind.i64.wrap (v1+1)))
 else
  some (.inr (wL a0 a1))
def Nc(a0:An)(a1:A4):Option (Bool):=
 Ao (λs:Int=>w7 a0 a1 s) 0
def Tm(a0:List (Ab))(a1 v1:Ab)(v2:Int):Option ((Ab × Int) ⊕ Option (Ab)):=
 if(decide (v2<(a0.length:Int)))then
  (Ak a0 v2).bind λy3=>
  if(decide (v2>0))then
   Ar ((v1).length+(a1).length<=9223372036854775807)<|
   Ar (((v1++a1)).length+(y3).length<=9223372036854775807)<|
   some (.inl (((v1++a1)++y3),(IntKind.i64.wrap (v2+1))))
  else
   Ar ((v1).length+(y3).length<=9223372036854775807)<|
   some (.inl ((v1++y3),(IntKind.i64.wrap (v2+1))))
 else
  some (.inr (some v1))
def zL(a0:List (Ab))(a1:Ab):Option (Ab):=
 Ao (λs:Ab × Int=>Tm a0 a1 s.1 s.2) (([]:Ab),0)
def OQ(a0:An)(a1:A4):Option (Ah):=
 Ar ((a0.ae).length+(([47]:Ab)).length<=9223372036854775807)<|
 (Ak a1.ay 0).bind λy1=>
 Ar (((a0.ae++([47]:Ab))).length+(y1).length<=9223372036854775807)<|
 Ar (0<=(1:Int)/\(1:Int)<=(a1.ay.length:Int)/\(a1.ay.length:Int)<=(a1.ay.length:Int))<|
 (zL (AU a1.ay 1 (a1.ay.length:Int)) ([44]:Ab)).bind λv2=>
 some (⟨((a0.ae++([47]:Ab))++y1),v2,false⟩:Ah)
def Tw(a0:An)(a1:A5)(a2:A4):Option (Ab):=
 Ar ((a0.ae).length+(([46]:Ab)).length<=9223372036854775807)<|
 Ar (((a0.ae++([46]:Ab))).length+(a1.ae).length<=9223372036854775807)<|
 Ar ((((a0.ae++([46]:Ab))++a1.ae)).length+(([47]:Ab)).length<=9223372036854775807)<|
 (Ak a2.ay a1.dk).bind λy1=>
 Ar (((((a0.ae++([46]:Ab))++a1.ae)++([47]:Ab))).length+(y1).length<=9223372036854775807)<|
 Ar ((((((a0.ae++([46]:Ab))++a1.ae)++([47]:Ab))++y1)).length+(([47]:Ab)).length<=9223372036854775807)<|
 (Ak a2.ay 0).bind λy2=>
 Ar (((((((a0.ae++([46]:Ab))++a1.ae)++([47]:Ab))++y1)++([47]:Ab))).length+(y2).length<=9223372036854775807)<|
 some ((((((a0.ae++([46]:Ab))++a1.ae)++([47]:Ab))++y1)++([47]:Ab))++y2)
def zM(a0:An)(a1:A5)(a2:A4):Option (List AK):=
 (OQ a0 a2).bind λv1=>
 (Tw a0 a1 a2).bind λv2=>
 some [(⟨7,v1.ab,v1.aw,0⟩:AK),(⟨2,v2,([]:Ab),0⟩:AK)]
def zI(a0:An)(a1:Ab)(a2:A4):Option (List AK × Bool):=
 (XY a0 a1).bind λv1=>
 if v1.2 then
  (Nc a0 a2).bind λv2=>
  if(!v2)then
   some ([],false)
  else
   (zM a0 v1.1 a2).bind λv3=>
   some (v3,true)
 else
  some ([],false)
def fL(a0:An)(a1:Cv):Option (Bool):=
 if(a1.ah==1)then
  if((a1.cu.ay.length:Int)==0)then
   (Nc a0 a1.c9).bind λv1=>
   some v1
  else
   some false
 else
  if(a1.ah==2)then
   if((a1.c9.ay.length:Int)==0)then
    (Nc a0 a1.cu).bind λv2=>
    some v2
   else
    some false
  else
   if(a1.ah==3)then
    (Nc a0 a1.cu).bind λv3=>
    if v3 then
     (Nc a0 a1.c9).bind λv4=>
     if v4 then
      (Ak a1.cu.ay 0).bind λy5=>
      (Ak a1.c9.ay 0).bind λy6=>
      some (y5==y6)
     else
      some false
    else
     some false
   else
    some false
def zR(a0:An)(a1:Cv):Option (Bool):=
 (OP a0).bind λv1=>
 if v1 then
  (fL a0 a1).bind λv2=>
  some v2
 else
  some false
def fH(a0:An)(a1:Cv):Option (List AK):=
 if(a1.ah==1)then
  (OQ a0 a1.c9).bind λv1=>
  some [(⟨6,v1.ab,([]:Ab),0⟩:AK),(⟨2,v1.ab,v1.aw,0⟩:AK)]
 else
  (OQ a0 a1.cu).bind λv2=>
  if(a1.ah==2)then
   some [(⟨7,v2.ab,v2.aw,0⟩:AK),(⟨3,v2.ab,([]:Ab),0⟩:AK)]
  else
   (OQ a0 a1.c9).bind λv3=>
   some [(⟨7,v2.ab,v2.aw,0⟩:AK),(⟨2,v2.ab,v3.aw,0⟩:AK)]
def dN(a1:A5)(v2:Ab)(v3:List AK):Option (List AK):=
 if((v2 !=([]:Ab))&&(decide (a1.bg>=2)))then
  Ar (RM (((v3).length:Int)+(([(⟨2,v2,([]:Ab),0⟩:AK)]:List AK).length:Int)) 48)<|
  some (v3++ [(⟨2,v2,([]:Ab),0⟩:AK)])
 else
  some v3
def Xr(a1:A5)(v1 v2:Ab):Option (List AK):=
 if(((v1 !=([]:Ab))&&(v1 !=v2))&&(decide (a1.bg>=1)))then
  Ar (RM ((([]:List AK).length:Int)+(([(⟨3,v1,([]:Ab),0⟩:AK)]:List AK).length:Int)) 48)<|
  dN a1 v2 [(⟨3,v1,([]:Ab),0⟩:AK)]
 else
  dN a1 v2 []
def cR(a0:An)(a1:A5)(a2:Cv)(v1:Ab):Option (List AK):=
 if(a2.ah !=2)then
  (Tw a0 a1 a2.c9).bind λv4=>
  Xr a1 v1 v4
 else
  Xr a1 v1 ([]:Ab)
def XL(a0:An)(a1:A5)(a2:Cv):Option (List AK):=
 Wo (σ:=Ab) (
  if(a2.ah !=1)then
   (Tw a0 a1 a2.cu).bind λv5=>
   some (.inl v5)
  else
   some (.inl ([]:Ab))
 ) (λs=>cR a0 a1 a2 s)
def Te(a0:An)(a1:Cv)(v2:Int)(v3:List AK):Option ((Int × List AK) ⊕ Option (List AK)):=
 if(decide (v2<(a0.aj.length:Int)))then
  (Ak a0.aj v2).bind λy4=>
  (XL a0 y4 a1).bind λv5=>
  Ar (RM (((v3).length:Int)+((v5).length:Int)) 48)<|
  some (.inl ((IntKind.i64.wrap (v2+1)),(v3++v5)))
 else
  some (.inr (some v3))
def iM(a0:An)(a1:Cv):Option (List AK):=
 (fH a0 a1).bind λv1=>
 Ao (λs:Int × List AK=>Te a0 a1 s.1 s.2) (0,v1)
def z6(a0:An)(a1:Cv):Option (List AK × Bool):=
 (zR a0 a1).bind λv1=>
 if(!v1)then
  some ([],false)
 else
  (iM a0 a1).bind λv2=>
  some (v2,true)
def gT(a0:List An)(a1:Ab)(a2:Db):Option (List AK × Bool):=
 (Dj a2.ga 0 3).bind λv1=>
 if(!v1)then
  some ([],false)
 else
  if a2.gy then
   if(decide (a2.ga<2))then
    some ([],false)
   else
    (eJ a2.fAct).bind λv2=>
    if(!v2)then
     some ([],false)
    else
     (Ak a0 a2.ga).bind λy3=>
     (zI y3 a1 a2.fRow).bind λv4=>
     some (v4.1,v4.2)
  else
   if(decide ((a2.fRow.ay.length:Int)>0))then
    some ([],false)
   else
    (Ak a0 a2.ga).bind λy5=>
    (z6 y5 a2.fAct).bind λv6=>
    some (v6.1,v6.2)
def Sq(a0 a1:List AK)(v1:Int):Option ((Int) ⊕ Option (Bool)):=
 if(decide (v1<(a0.length:Int)))then
  (Ak a0 v1).bind λy2=>
  (Ak a1 v1).bind λy3=>
  if(!(y2.ah==y3.ah&&(y2.ab==y3.ab&&(y2.aw==y3.aw&&(y2.ic==y3.ic)))))then
   some (.inr (some false))
  else
   some (.inl (IntKind.i64.wrap (v1+1)))
 else
  some (.inr (some true))
def cZ(a0 a1:List AK):Option (Bool):=
 if((a0.length:Int) !=(a1.length:Int))then
  some false
 else
  Ao (λs:Int=>Sq a0 a1 s) 0
def M7(a0:CW)(v8:Int):Option ((Int) ⊕ Option (Bool)):=
 if(decide (v8<(a0.cq.length:Int)))then
  (Ak a0.cq v8).bind λy9=>
  (gT a0.cz a0.ae y9).bind λv10=>
  if v10.2 then
   (Ak a0.aq.cf v8).bind λy11=>
   (cZ v10.1 y11.ef).bind λv12=>
   if(!v12)then
    some (.inr (some false))
   else
    some (.inl (IntKind.i64.wrap (v8+1)))
  else
   some (.inr (some false))
 else
  some (.inr (some true))
def M8(a0:CW):Option (Bool):=
 (fF a0.aq).bind λv5=>
 if v5 then
  if((a0.aq.br.length:Int) !=1)then
   some false
  else
   (Ak a0.aq.br 0).bind λy6=>
   (Ak a0.cz 0).bind λy7=>
   Ar ((y7.ae).length+(([47]:Ab)).length<=9223372036854775807)<|
   if(((y6 !=(y7.ae++([47]:Ab)))||((a0.aq.cf.length:Int) !=(a0.cq.length:Int)))||(decide ((a0.aq.cc.length:Int)>0)))then
    some false
   else
    Ao (λs:Int=>M7 a0 s) 0
 else
  some false
def LV(a0:CW)(v13:Int):Option ((Int) ⊕ Option (Bool)):=
 if(decide (v13<(a0.bq.length:Int)))then
  (Ak a0.bq v13).bind λy14=>
  (Ak a0.bq (IntKind.i64.wrap (v13-1))).bind λy15=>
  if(decide (y14<y15))then
   some (.inr (some false))
  else
   some (.inl (IntKind.i64.wrap (v13+1)))
 else
  some (.inr (M8 a0))
def gG(a0:CW):Option (Bool):=
 (eT a0.cz a0.ae).bind λv1=>
 if v1 then
  (Dj a0.gi 0 2).bind λv2=>
  if v2 then
   if((a0.bq.length:Int) !=(IntKind.i64.wrap (a0.gi+1)))then
    some false
   else
    (Ak a0.bq 0).bind λy3=>
    if(y3 !=0)then
     some false
    else
     (TP a0.bq 0 100000).bind λv4=>
     if(!v4)then
      some false
     else
      Ao (λs:Int=>LV a0 s) 1
  else
   some false
 else
  some false
def Tx(a0 v1:List Ap)(v2:Int):Option ((List Ap × Int) ⊕ Option (List Ap)):=
 if(decide (v2<(a0.length:Int)))then
  (Ak a0 v2).bind λy3=>
  Ar (RM ((([]:List CD).length:Int)+((y3.au).length:Int)) 32)<|
  Ar (RM (((v1).length:Int)+(([y3]:List Ap).length:Int)) 40)<|
  some (.inl ((v1++ [y3]),(IntKind.i64.wrap (v2+1))))
 else
  some (.inr (some v1))
def XV(a0:List Ap):Option (List Ap):=
 Ao (λs:List Ap × Int=>Tx a0 s.1 s.2) ([],0)
def Lc(a0:List (Ab)):Option (List (Ab)):=
 Ar (RM ((([]:List (Ab)).length:Int)+((a0).length:Int)) 16)<|
 some a0
def dA(a0:AX):Option (AX):=
 (Lc a0.bc).bind λv1=>
 Ar (RM ((([]:List Ah).length:Int)+((a0.af).length:Int)) 40)<|
 some (⟨a0.bd,a0.ak,a0.bu,v1,a0.af⟩:AX)
def Th(a0:AF)(v1:List Ap)(v2:Int)(v3:List AX):Option ((Int × List AX) ⊕ Option (AF)):=
 if(decide (v2<(a0.al.length:Int)))then
  (Ak a0.al v2).bind λy4=>
  (dA y4).bind λv5=>
  Ar (RM (((v3).length:Int)+(([v5]:List AX).length:Int)) 72)<|
  some (.inl ((IntKind.i64.wrap (v2+1)),(v3++ [v5])))
 else
  some (.inr (some (⟨a0.bw,v1,v3,a0.bz⟩:AF)))
def iG(a0:AF):Option (AF):=
 (XV a0.ao).bind λv1=>
 Ar (RM ((([]:List Cp).length:Int)+((a0.bz).length:Int)) 24)<|
 Ao (λs:Int × List AX=>Th a0 v1 s.1 s.2) (0,[])
def vC(a0:AF)(a1 v1:Int):Option ((Int) ⊕ Option (AX × Bool)):=
 if(decide (v1<(a0.al.length:Int)))then
  (Ak a0.al v1).bind λy2=>
  if(y2.bd==a1)then
   some (.inr (some (y2,true)))
  else
   some (.inl (IntKind.i64.wrap (v1+1)))
 else
  some (.inr (some ((⟨0,0,0,[],[]⟩:AX),false)))
def dW(a0:AF)(a1:Int):Option (AX × Bool):=
 Ao (λs:Int=>vC a0 a1 s) 0
def u4(a0:AF)(a1 v1:Int):Option ((Int) ⊕ Option (Cp × Bool)):=
 if(decide (v1<(a0.bz.length:Int)))then
  (Ak a0.bz v1).bind λy2=>
  if(y2.bd==a1)then
   some (.inr (some (y2,true)))
  else
   some (.inl (IntKind.i64.wrap (v1+1)))
 else
  some (.inr (some ((⟨0,false,0⟩:Cp),false)))
def cQ(a0:AF)(a1:Int):Option (Cp × Bool):=
 Ao (λs:Int=>u4 a0 a1 s) 0
def bX(a0:List AX)(a1:AX)(v1:Int):Option (List AX):=
 Ar (0<=v1/\v1<=(a0.length:Int)/\(a0.length:Int)<=(a0.length:Int))<|
 Ar (RM ((([]:List AX).length:Int)+(((AU a0 v1 (a0.length:Int))).length:Int)) 72)<|
 Ar (0<=(0:Int)/\(0:Int)<=v1/\v1<=(a0.length:Int))<|
 Ar (RM ((([]:List AX).length:Int)+(((AU a0 0 v1)).length:Int)) 72)<|
 Ar (RM ((((AU a0 0 v1)).length:Int)+(([a1]:List AX).length:Int)) 72)<|
 Ar (RM (((((AU a0 0 v1)++ [a1])).length:Int)+(((AU a0 v1 (a0.length:Int))).length:Int)) 72)<|
 some (((AU a0 0 v1)++ [a1])++(AU a0 v1 (a0.length:Int)))
def uM(a0:List AX)(a1:AX)(v2:Int):Option ((Int) ⊕ Option (List AX)):=
 if(decide (v2>0))then
  (Ak a0 (IntKind.i64.wrap (v2-1))).bind λy3=>
  if(decide (y3.bd>a1.bd))then
   some (.inl (IntKind.i64.wrap (v2-1)))
  else
   some (.inr (bX a0 a1 v2))
 else
  some (.inr (bX a0 a1 v2))
def dD(a0:List AX)(a1:AX):Option (List AX):=
 Ao (λs:Int=>uM a0 a1 s) (a0.length:Int)
def vW(a0:List Ah)(a1:Ab)(v1:Int):Option ((Int) ⊕ Option (Bool)):=
 if(decide (v1<(a0.length:Int)))then
  (Ak a0 v1).bind λy2=>
  if(y2.ab==a1)then
   some (.inr (some true))
  else
   some (.inl (IntKind.i64.wrap (v1+1)))
 else
  some (.inr (some false))
def Xp(a0:List Ah)(a1:Ab):Option (Bool):=
 Ao (λs:Int=>vW a0 a1 s) 0
def xE(a0:List (Ab))(a1:Ab)(v1:Int):Option ((Int) ⊕ Option (Bool)):=
 if(decide (v1<(a0.length:Int)))then
  (Ak a0 v1).bind λy2=>
  if(y2==a1)then
   some (.inr (some true))
  else
   some (.inl (IntKind.i64.wrap (v1+1)))
 else
  some (.inr (some false))
def iF(a0:List (Ab))(a1:Ab):Option (Bool):=
 Ao (λs:Int=>xE a0 a1 s) 0
def vV(a0:AX)(a2:List Ah)(v1:Int):Option ((Int) ⊕ Option (Bool)):=
 if(decide (v1<(a2.length:Int)))then
  (Ak a2 v1).bind λy2=>
  (Xp a0.af y2.ab).bind λv3=>
  if v3 then
   some (.inr (some false))
  else
   (iF a0.bc y2.ab).bind λv4=>
   if v4 then
    some (.inr (some false))
   else
    some (.inl (IntKind.i64.wrap (v1+1)))
 else
  some (.inr (some true))
def cC(a0:AX)(a2:List Ah):Option (Bool):=
 Ao (λs:Int=>vV a0 a2 s) 0
def uW(a0:AX)(a1:List (Ab))(a2:List Ah)(v5:Int):Option ((Int) ⊕ Option (Bool)):=
 if(decide (v5<(a1.length:Int)))then
  (Ak a1 v5).bind λy6=>
  (Xp a0.af y6).bind λv7=>
  if v7 then
   some (.inr (some false))
  else
   some (.inl (IntKind.i64.wrap (v5+1)))
 else
  some (.inr (cC a0 a2))
def eL(a0:AX)(a1:List (Ab))(a2:List Ah):Option (Bool):=
 Ao (λs:Int=>uW a0 a1 a2 s) 0
def Tg(a0:List (Ab))(a1:Ab)(v1:Int):Option (List (Ab)):=
 if(decide (v1>0))then
  (Ak a0 (IntKind.i64.wrap (v1-1))).bind λy2=>
  if(y2==a1)then
   some a0
  else
   Ar (0<=v1/\v1<=(a0.length:Int)/\(a0.length:Int)<=(a0.length:Int))<|
   (Lc (AU a0 v1 (a0.length:Int))).bind λv3=>
   Ar (0<=(0:Int)/\(0:Int)<=v1/\v1<=(a0.length:Int))<|
   (Lc (AU a0 0 v1)).bind λv4=>
   Ar (RM (((v4).length:Int)+(([a1]:List (Ab)).length:Int)) 16)<|
   Ar (RM ((((v4++ [a1])).length:Int)+((v3).length:Int)) 16)<|
   some ((v4++ [a1])++v3)
 else
  Ar (0<=v1/\v1<=(a0.length:Int)/\(a0.length:Int)<=(a0.length:Int))<|
  (Lc (AU a0 v1 (a0.length:Int))).bind λv5=>
  Ar (0<=(0:Int)/\(0:Int)<=v1/\v1<=(a0.length:Int))<|
  (Lc (AU a0 0 v1)).bind λv6=>
  Ar (RM (((v6).length:Int)+(([a1]:List (Ab)).length:Int)) 16)<|
  Ar (RM ((((v6++ [a1])).length:Int)+((v5).length:Int)) 16)<|
  some ((v6++ [a1])++v5)
def Lb(a0:List (Ab))(a1:Ab)(v7:Int):Option ((Int) ⊕ Option (List (Ab))):=
 if(decide (v7>0))then
  (Ak a0 (IntKind.i64.wrap (v7-1))).bind λy8=>
  if(!(Op.bytesLess y8 a1||y8==a1))then
   some (.inl (IntKind.i64.wrap (v7-1)))
  else
   some (.inr (Tg a0 a1 v7))
 else
  some (.inr (Tg a0 a1 v7))
def XU(a0:List (Ab))(a1:Ab):Option (List (Ab)):=
 Ao (λs:Int=>Lb a0 a1 s) (a0.length:Int)
def yE(a0:List Ap)(a1:Ab)(v1:Int):Option ((Int) ⊕ Option (Int)):=
 if(decide (v1<(a0.length:Int)))then
  (Ak a0 v1).bind λy2=>
  if(y2.ab==a1)then
   some (.inr (some v1))
  else
   some (.inl (IntKind.i64.wrap (v1+1)))
 else
  some (.inr (some (-1)))
def X1(a0:List Ap)(a1:Ab):Option (Int):=
 Ao (λs:Int=>yE a0 a1 s) 0
def cY(v3:List (Ab)):Option (Bool):=
 some (decide ((v3.length:Int)<=24))
def SM(a0:AF)(v2:List Ah)(v4:List (Ab))(v5:Int):Option ((List (Ab) × Int) ⊕ Option (Bool)):=
 if(decide (v5<(v2.length:Int)))then
  (Ak v2 v5).bind λy6=>
  (XU v4 y6.ab).bind λv7=>
  (X1 a0.ao y6.ab).bind λv8=>
  if(decide (v8>=0))then
   (Ak a0.ao v8).bind λy9=>
   if(decide ((y9.au.length:Int)>=16))then
    some (.inr (some false))
   else
    some (.inl (v7,(IntKind.i64.wrap (v5+1))))
  else
   some (.inl (v7,(IntKind.i64.wrap (v5+1))))
 else
  some (.inr (cY v4))
def vX(a0:AF)(v1:List (Ab))(v2:List Ah):Option (Bool):=
 Ao (λs:List (Ab) × Int=>SM a0 v2 s.1 s.2) (v1,0)
def Tl(a0:AF)(v1:List (Ab))(v10:Int)(v11:List Ah):Option ((Int × List Ah) ⊕ Option (Bool)):=
 if(decide (v10<(a0.al.length:Int)))then
  (Ak a0.al v10).bind λy12=>
  Ar (RM (((v11).length:Int)+((y12.af).length:Int)) 40)<|
  some (.inl ((IntKind.i64.wrap (v10+1)),(v11++y12.af)))
 else
  some (.inr (vX a0 v1 v11))
def xA(a0:AF)(a1:List Ah)(v1:List (Ab)):Option (Bool):=
 Ar (RM ((([]:List Ah).length:Int)+((a1).length:Int)) 40)<|
 Ao (λs:Int × List Ah=>Tl a0 v1 s.1 s.2) (0,a1)
def Ti(a0:AF)(a1:List Ah)(v13:List (Ab))(v14:Int):Option ((List (Ab) × Int) ⊕ Option (Bool)):=
 if(decide (v14<(a0.ao.length:Int)))then
  (Ak a0.ao v14).bind λy15=>
  (XU v13 y15.ab).bind λv16=>
  some (.inl (v16,(IntKind.i64.wrap (v14+1))))
 else
  some (.inr (xA a0 a1 v13))
def gD(a0:AF)(a1:List Ah):Option (Bool):=
 Ao (λs:List (Ab) × Int=>Ti a0 a1 s.1 s.2) ([],0)
def cW(a0:AF)(a2:List Ah):Option (Bool):=
 if(decide ((a0.al.length:Int)<12))then
  (gD a0 a2).bind λv1=>
  some v1
 else
  some false
def wD(a0:AF)(a1:List (Ab))(a2:List Ah)(v2:Int):Option ((Int) ⊕ Option (Bool)):=
 if(decide (v2<(a0.al.length:Int)))then
  (Ak a0.al v2).bind λy3=>
  (eL y3 a1 a2).bind λv4=>
  if(!v4)then
   some (.inr (some false))
  else
   some (.inl (IntKind.i64.wrap (v2+1)))
 else
  some (.inr (cW a0 a2))
def fO(a0:AF)(a1:List (Ab))(a2:List Ah):Option (Bool):=
 Ao (λs:Int=>wD a0 a1 a2 s) 0
def hZ(a0:List Ap)(a1:Ab):Option (Int):=
 (X1 a0 a1).bind λv1=>
 if(decide (v1<0))then
  some 0
 else
  (Ak a0 v1).bind λy2=>
  (Ak y2.au (IntKind.i64.wrap ((y2.au.length:Int)-1))).bind λy3=>
  some y3.ak
def xH(a0:Ap):Option (Bool):=
 (Ld a0.ab).bind λv1=>
 if v1 then
  (Dj (a0.au.length:Int) 1 16).bind λv2=>
  some v2
 else
  some false
def QG(a0:Ap)(v3:Int):Option ((Int) ⊕ Option (Bool)):=
 if(decide (v3<(a0.au.length:Int)))then
  (Ak a0.au v3).bind λy4=>
  (OS y4.ak).bind λv5=>
  if v5 then
   (XI a0.ab y4.aw y4.bm).bind λv6=>
   if(decide (v3>0))then
    if v6 then
     (Ak a0.au (IntKind.i64.wrap (v3-1))).bind λy7=>
     if(decide (y7.ak>=y4.ak))then
      some (.inr (some false))
     else
      some (.inl (IntKind.i64.wrap (v3+1)))
    else
     some (.inr (some false))
   else
    if((!v6)||false)then
     some (.inr (some false))
    else
     some (.inl (IntKind.i64.wrap (v3+1)))
  else
   some (.inr (some false))
 else
  some (.inr (xH a0))
def iJ(a0:Ap):Option (Bool):=
 Ao (λs:Int=>QG a0 s) 0
def xO(a0:List Ap):Option (Bool):=
 some (decide ((a0.length:Int)<=24))
def QD(a0:List Ap)(v1:Int):Option ((Int) ⊕ Option (Bool)):=
 if(decide (v1<(a0.length:Int)))then
  (Ak a0 v1).bind λy2=>
  (iJ y2).bind λv3=>
  if(decide (v1>0))then
   if v3 then
    (Ak a0 (IntKind.i64.wrap (v1-1))).bind λy4=>
    if(!Op.bytesLess y4.ab y2.ab)then
     some (.inr (some false))
    else
     some (.inl (IntKind.i64.wrap (v1+1)))
   else
    some (.inr (some false))
  else
   if((!v3)||false)then
    some (.inr (some false))
   else
    some (.inl (IntKind.i64.wrap (v1+1)))
 else
  some (.inr (xO a0))
def gX(a0:List Ap):Option (Bool):=
 Ao (λs:Int=>QD a0 s) 0
def eN(v2:List Ap):Option (List Ap × Bool):=
 (gX v2).bind λv3=>
 some (v2,v3)
def TD(a2 v4:Int)(v5:List Ap)(y6:Ah)(v7:Int):Option ((Int × List Ap) ⊕ Option (List Ap × Bool)):=
 if(decide (v7>0))then
  (Ak v5 (IntKind.i64.wrap (v7-1))).bind λy8=>
  if(y8.ab==y6.ab)then
   (hZ v5 y6.ab).bind λv9=>
   if(decide (v9>=a2))then
    some (.inr (some ([],false)))
   else
    Ar (RM (((y8.au).length:Int)+(([(⟨a2,y6.aw,y6.bm⟩:CD)]:List CD).length:Int)) 32)<|
    some (.inl ((IntKind.i64.wrap (v4+1)),(v5.set ((IntKind.i64.wrap (v7-1))).toNat {y8 with au:=(y8.au++ [(⟨a2,y6.aw,y6.bm⟩:CD)])})))
  else
   Ar (0<=v7/\v7<=(v5.length:Int)/\(v5.length:Int)<=(v5.length:Int))<|
   Ar (0<=v7/\v7<=(v5.length:Int)/\(v5.length:Int)<=(v5.length:Int))<|
   Ar (RM ((([]:List Ap).length:Int)+(((AU v5 v7 (v5.length:Int))).length:Int)) 40)<|
   Ar (0<=(0:Int)/\(0:Int)<=v7/\v7<=(v5.length:Int))<|
   Ar (RM ((([]:List Ap).length:Int)+(((AU v5 0 v7)).length:Int)) 40)<|
   Ar (RM ((((AU v5 0 v7)).length:Int)+(([(⟨y6.ab,[(⟨a2,y6.aw,y6.bm⟩:CD)]⟩:Ap)]:List Ap).length:Int)) 40)<|
   Ar (RM (((((AU v5 0 v7)++ [(⟨y6.ab,[(⟨a2,y6.aw,y6.bm⟩:CD)]⟩:Ap)])).length:Int)+(((AU v5 v7 (v5.length:Int))).length:Int)) 40)<|
   some (.inl ((IntKind.i64.wrap (v4+1)),(((AU v5 0 v7)++ [(⟨y6.ab,[(⟨a2,y6.aw,y6.bm⟩:CD)]⟩:Ap)])++(AU v5 v7 (v5.length:Int)))))
 else
  Ar (0<=v7/\v7<=(v5.length:Int)/\(v5.length:Int)<=(v5.length:Int))<|
  Ar (0<=v7/\v7<=(v5.length:Int)/\(v5.length:Int)<=(v5.length:Int))<|
  Ar (RM ((([]:List Ap).length:Int)+(((AU v5 v7 (v5.length:Int))).length:Int)) 40)<|
  Ar (0<=(0:Int)/\(0:Int)<=v7/\v7<=(v5.length:Int))<|
  Ar (RM ((([]:List Ap).length:Int)+(((AU v5 0 v7)).length:Int)) 40)<|
  Ar (RM ((((AU v5 0 v7)).length:Int)+(([(⟨y6.ab,[(⟨a2,y6.aw,y6.bm⟩:CD)]⟩:Ap)]:List Ap).length:Int)) 40)<|
  Ar (RM (((((AU v5 0 v7)++ [(⟨y6.ab,[(⟨a2,y6.aw,y6.bm⟩:CD)]⟩:Ap)])).length:Int)+(((AU v5 v7 (v5.length:Int))).length:Int)) 40)<|
  some (.inl ((IntKind.i64.wrap (v4+1)),(((AU v5 0 v7)++ [(⟨y6.ab,[(⟨a2,y6.aw,y6.bm⟩:CD)]⟩:Ap)])++(AU v5 v7 (v5.length:Int)))))
def QJ(a2 v4:Int)(v5:List Ap)(y6:Ah)(v10:Int):Option ((Int) ⊕ Option ((Int × List Ap) ⊕ Option (List Ap × Bool))):=
 if(decide (v10>0))then
  (Ak v5 (IntKind.i64.wrap (v10-1))).bind λy11=>
  if(!(Op.bytesLess y11.ab y6.ab||y11.ab==y6.ab))then
   some (.inl (IntKind.i64.wrap (v10-1)))
  else
   some (.inr (TD a2 v4 v5 y6 v10))
 else
  some (.inr (TD a2 v4 v5 y6 v10))
def TC(a1:List Ah)(a2 v4:Int)(v5:List Ap):Option ((Int × List Ap) ⊕ Option (List Ap × Bool)):=
 if(decide (v4<(a1.length:Int)))then
  (Ak a1 v4).bind λy6=>
  Ao (λs:Int=>QJ a2 v4 v5 y6 s) (v5.length:Int)
 else
  some (.inr (eN v5))
def jH(a0:List Ap)(a1:List Ah)(a2:Int):Option (List Ap × Bool):=
 (XV a0).bind λv1=>
 Ao (λs:Int × List Ap=>TC a1 a2 s.1 s.2) (0,v1)
def iL(a0 a1:Int):Option (Int):=
 if(decide (a0>a1))then
  some a0
 else
  some a1
def SJ(a0:List AX)(a1:Int)(v1:List AX)(v2:Int):Option ((List AX × Int) ⊕ Option (List AX)):=
 if(decide (v2<(a0.length:Int)))then
  (Ak a0 v2).bind λy3=>
  if(y3.bd !=a1)then
   Ar (RM (((v1).length:Int)+(([y3]:List AX).length:Int)) 72)<|
   some (.inl ((v1++ [y3]),(IntKind.i64.wrap (v2+1))))
  else
   some (.inl (v1,(IntKind.i64.wrap (v2+1))))
 else
  some (.inr (some v1))
def XG(a0:List AX)(a1:Int):Option (List AX):=
 Ao (λs:List AX × Int=>SJ a0 a1 s.1 s.2) ([],0)
def bY(a0:List Cp)(a1:Cp)(v1:Int):Option (List Cp):=
 Ar (0<=v1/\v1<=(a0.length:Int)/\(a0.length:Int)<=(a0.length:Int))<|
 Ar (RM ((([]:List Cp).length:Int)+(((AU a0 v1 (a0.length:Int))).length:Int)) 24)<|
 Ar (0<=(0:Int)/\(0:Int)<=v1/\v1<=(a0.length:Int))<|
 Ar (RM ((([]:List Cp).length:Int)+(((AU a0 0 v1)).length:Int)) 24)<|
 Ar (RM ((((AU a0 0 v1)).length:Int)+(([a1]:List Cp).length:Int)) 24)<|
 Ar (RM (((((AU a0 0 v1)++ [a1])).length:Int)+(((AU a0 v1 (a0.length:Int))).length:Int)) 24)<|
 some (((AU a0 0 v1)++ [a1])++(AU a0 v1 (a0.length:Int)))
def uR(a0:List Cp)(a1:Cp)(v2:Int):Option ((Int) ⊕ Option (List Cp)):=
 if(decide (v2>0))then
  (Ak a0 (IntKind.i64.wrap (v2-1))).bind λy3=>
  if(decide (y3.bd>a1.bd))then
   some (.inl (IntKind.i64.wrap (v2-1)))
  else
   some (.inr (bY a0 a1 v2))
 else
  some (.inr (bY a0 a1 v2))
def Xj(a0:List Cp)(a1:Cp):Option (List Cp):=
 Ao (λs:Int=>uR a0 a1 s) (a0.length:Int)
def eI(a0:AF)(a1:BH):Option (AF × Bool):=
 (iG a0).bind λv1=>
 (dW a0 a1.bd).bind λv2=>
 (cQ a0 a1.bd).bind λv3=>
 if(a1.ah==4)then
  some ((⟨a1.ak,v1.ao,v1.al,v1.bz⟩:AF),(decide (a1.ak>a0.bw)))
 else
  if v3.2 then
   some (v1,false)
  else
   if(a1.ah==1)then
    (Lc a1.bc).bind λv4=>
    Ar (RM ((([]:List Ah).length:Int)+((a1.af).length:Int)) 40)<|
    (dD v1.al (⟨a1.bd,a1.ak,a1.bu,v4,a1.af⟩:AX)).bind λv5=>
    if v2.2 then
     some ((⟨a1.ak,v1.ao,v5,v1.bz⟩:AF),false)
    else
     if(decide (a1.ak>a0.bw))then
      (fO a0 a1.bc a1.af).bind λv6=>
      some ((⟨a1.ak,v1.ao,v5,v1.bz⟩:AF),v6)
     else
      some ((⟨a1.ak,v1.ao,v5,v1.bz⟩:AF),false)
   else
    if a1.dj then
     if((!v2.2)||(decide (v2.1.ak>a1.ak)))then
      some (v1,false)
     else
      (jH a0.ao v2.1.af a1.ak).bind λv7=>
      if(!v7.2)then
       some (v1,false)
      else
       (iL a0.bw a1.ak).bind λv8=>
       (XG v1.al a1.bd).bind λv9=>
       (Xj v1.bz (⟨a1.bd,a1.dj,a1.ak⟩:Cp)).bind λv10=>
       some ((⟨v8,v7.1,v9,v10⟩:AF),true)
    else
     (XG v1.al a1.bd).bind λv11=>
     (Xj v1.bz (⟨a1.bd,a1.dj,a1.ak⟩:Cp)).bind λv12=>
     some ((⟨v1.bw,v1.ao,v11,v12⟩:AF),true)
def TF(a0:List BH)(v1:List Bool)(v2 v3:Int)(v4:List Ap)(v5:List AX)(v6:List Cp):Option ((List Bool × Int × Int × List Ap × List AX × List Cp) ⊕ Option (AF × List Bool)):=
 if(decide (v2<(a0.length:Int)))then
  (Ak a0 v2).bind λy7=>
  (eI (⟨v3,v4,v5,v6⟩:AF) y7).bind λv8=>
  if v8.2 then
   Ar (RM (((v1).length:Int)+(([v8.2]:List Bool).length:Int)) 1)<|
   some (.inl ((v1++ [v8.2]),(IntKind.i64.wrap (v2+1)),v8.1.bw,v8.1.ao,v8.1.al,v8.1.bz))
  else
   Ar (RM (((v1).length:Int)+(([v8.2]:List Bool).length:Int)) 1)<|
   some (.inl ((v1++ [v8.2]),(IntKind.i64.wrap (v2+1)),v3,v4,v5,v6))
 else
  some (.inr (some ((⟨v3,v4,v5,v6⟩:AF),v1)))
def jF(a0:List BH):Option (AF × List Bool):=
 Ao (λs:List Bool × Int × Int × List Ap × List AX × List Cp=>TF a0 s.1 s.2.1 s.2.2.1 s.2.2.2.1 s.2.2.2.2.1 s.2.2.2.2.2) ([],0,0,[],[],[])
def vK(v1:List BH):Option (AF):=
 (jF v1).bind λv2=>
 some v2.1
def S6(a0:List B8)(a1:Int)(v3:List BH)(v4:Int):Option ((List BH × Int) ⊕ Option (AF)):=
 if(decide (v4<((AU a0 0 a1).length:Int)))then
  (Ak (AU a0 0 a1) v4).bind λy5=>
  Ar (RM (((v3).length:Int)+(([y5.fRec]:List BH).length:Int)) 88)<|
  some (.inl ((v3++ [y5.fRec]),(IntKind.i64.wrap (v4+1))))
 else
  some (.inr (vK v3))
def eR(a0:List B8)(a1:Int):Option (AF):=
 Ar (0<=(0:Int)/\(0:Int)<=a1/\a1<=(a0.length:Int))<|
 Ao (λs:List BH × Int=>S6 a0 a1 s.1 s.2) ([],0)
def wI(a0:BZ)(v1:Int):Option (AF):=
 (Ak a0.ar v1).bind λy2=>
 (eR y2.cr y2.cw).bind λv3=>
 some v3
def QA(a0:BZ)(v4 v5:Int):Option ((Int × Int) ⊕ Option (AF)):=
 if(decide (v4<(a0.ar.length:Int)))then
  (Ak a0.ar v4).bind λy6=>
  (Ak a0.ar v5).bind λy7=>
  if(decide (y6.cw>y7.cw))then
   some (.inl ((IntKind.i64.wrap (v4+1)),v4))
  else
   some (.inl ((IntKind.i64.wrap (v4+1)),v5))
 else
  some (.inr (wI a0 v5))
def eV(a0:BZ):Option (AF):=
 Ao (λs:Int × Int=>QA a0 s.1 s.2) (0,0)
def Tt(a0:Ap)(a1:Int)(v1:Bool)(v2 v3:Int)(v4:Ab)(v5:Bool):Option ((Bool × Int × Int × Ab × Bool) ⊕ Option (CD × Bool)):=
 if(decide (v2<(a0.au.length:Int)))then
  (Ak a0.au v2).bind λy6=>
  if(decide (y6.ak<=a1))then
   some (.inl (true,(IntKind.i64.wrap (v2+1)),y6.ak,y6.aw,y6.bm))
  else
   some (.inl (v1,(IntKind.i64.wrap (v2+1)),v3,v4,v5))
 else
  some (.inr (some ((⟨v3,v4,v5⟩:CD),v1)))
def iU(a0:Ap)(a1:Int):Option (CD × Bool):=
 Ao (λs:Bool × Int × Int × Ab × Bool=>Tt a0 a1 s.1 s.2.1 s.2.2.1 s.2.2.2.1 s.2.2.2.2) (false,0,0,([]:Ab),false)
def Tz(a0:List Ap)(a1:Int)(v1:List Ah)(v2:Int):Option ((List Ah × Int) ⊕ Option (List Ah)):=
 if(decide (v2<(a0.length:Int)))then
  (Ak a0 v2).bind λy3=>
  (iU y3 a1).bind λv4=>
  if(v4.2&&(!v4.1.bm))then
   Ar (RM (((v1).length:Int)+(([(⟨y3.ab,v4.1.aw,false⟩:Ah)]:List Ah).length:Int)) 40)<|
   some (.inl ((v1++ [(⟨y3.ab,v4.1.aw,false⟩:Ah)]),(IntKind.i64.wrap (v2+1))))
  else
   some (.inl (v1,(IntKind.i64.wrap (v2+1))))
 else
  some (.inr (some v1))
def iS(a0:List Ap)(a1:Int):Option (List Ah):=
 Ao (λs:List Ah × Int=>Tz a0 a1 s.1 s.2) ([],0)
def dU(a0:List Ah)(a1:Ah)(v1:Int):Option (List Ah):=
 if(decide (v1>0))then
  (Ak a0 (IntKind.i64.wrap (v1-1))).bind λy2=>
  if(y2.ab==a1.ab)then
   Ar (RM ((([]:List Ah).length:Int)+((a0).length:Int)) 40)<|
   (Ak a0 (IntKind.i64.wrap (v1-1))).bind λy3=>
   some (a0.set ((IntKind.i64.wrap (v1-1))).toNat a1)
  else
   Ar (0<=v1/\v1<=(a0.length:Int)/\(a0.length:Int)<=(a0.length:Int))<|
   Ar (RM ((([]:List Ah).length:Int)+(((AU a0 v1 (a0.length:Int))).length:Int)) 40)<|
   Ar (0<=(0:Int)/\(0:Int)<=v1/\v1<=(a0.length:Int))<|
   Ar (RM ((([]:List Ah).length:Int)+(((AU a0 0 v1)).length:Int)) 40)<|
   Ar (RM ((((AU a0 0 v1)).length:Int)+(([a1]:List Ah).length:Int)) 40)<|
   Ar (RM (((((AU a0 0 v1)++ [a1])).length:Int)+(((AU a0 v1 (a0.length:Int))).length:Int)) 40)<|
   some (((AU a0 0 v1)++ [a1])++(AU a0 v1 (a0.length:Int)))
 else
  Ar (0<=v1/\v1<=(a0.length:Int)/\(a0.length:Int)<=(a0.length:Int))<|
  Ar (RM ((([]:List Ah).length:Int)+(((AU a0 v1 (a0.length:Int))).length:Int)) 40)<|
  Ar (0<=(0:Int)/\(0:Int)<=v1/\v1<=(a0.length:Int))<|
  Ar (RM ((([]:List Ah).length:Int)+(((AU a0 0 v1)).length:Int)) 40)<|
  Ar (RM ((((AU a0 0 v1)).length:Int)+(([a1]:List Ah).length:Int)) 40)<|
  Ar (RM (((((AU a0 0 v1)++ [a1])).length:Int)+(((AU a0 v1 (a0.length:Int))).length:Int)) 40)<|
  some (((AU a0 0 v1)++ [a1])++(AU a0 v1 (a0.length:Int)))
def QE(a0:List Ah)(a1:Ah)(v4:Int):Option ((Int) ⊕ Option (List Ah)):=
 if(decide (v4>0))then
  (Ak a0 (IntKind.i64.wrap (v4-1))).bind λy5=>
  if(!(Op.bytesLess y5.ab a1.ab||y5.ab==a1.ab))then
   some (.inl (IntKind.i64.wrap (v4-1)))
  else
   some (.inr (dU a0 a1 v4))
 else
  some (.inr (dU a0 a1 v4))
def iE(a0:List Ah)(a1:Ah):Option (List Ah):=
 Ao (λs:Int=>QE a0 a1 s) (a0.length:Int)
def wG(v2:Int)(v6:List Ah):Option ((List Ah × Int) ⊕ Option (List Ah)):=
 some (.inl (v6,(IntKind.i64.wrap (v2+1))))
def Tp(v2:Int)(v5:List Ah)(v7:Int)(v8:List Ah):Option ((Int × List Ah) ⊕ Option ((List Ah × Int) ⊕ Option (List Ah))):=
 if(decide (v7<(v5.length:Int)))then
  (Ak v5 v7).bind λy9=>
  (iE v8 y9).bind λv10=>
  some (.inl ((IntKind.i64.wrap (v7+1)),v10))
 else
  some (.inr (wG v2 v8))
def SH(a0:BG)(a1:Int)(v1:List Ah)(v2:Int):Option ((List Ah × Int) ⊕ Option (List Ah)):=
 if(decide (v2<(a0.az.length:Int)))then
  (Ak a0.az v2).bind λy3=>
  (eV y3).bind λv4=>
  (iS v4.ao a1).bind λv5=>
  Ao (λs:Int × List Ah=>Tp v2 v5 s.1 s.2) (0,v1)
 else
  some (.inr (some v1))
def eW(a0:BG)(a1:Int):Option (List Ah):=
 Ao (λs:List Ah × Int=>SH a0 a1 s.1 s.2) ([],0)
def xK(a0:List Ah):Option (Bool):=
 (Xo a0).bind λv1=>
 some v1
def xJ(a0:List Ah)(v2:Int):Option ((Int) ⊕ Option (Bool)):=
 if(decide (v2<(a0.length:Int)))then
  (Ak a0 v2).bind λy3=>
  if y3.bm then
   some (.inr (some false))
  else
   some (.inl (IntKind.i64.wrap (v2+1)))
 else
  some (.inr (xK a0))
def hP(a0:List Ah):Option (Bool):=
 Ao (λs:Int=>xJ a0 s) 0
def w6(a0:Ab)(v1:Int)(v2:List (Ab)):Option (List (Ab)):=
 Ar (0<=v1/\v1<=(a0.length:Int)/\(a0.length:Int)<=(a0.length:Int))<|
 Ar (RM (((v2).length:Int)+(([(AU a0 v1 (a0.length:Int))]:List (Ab)).length:Int)) 16)<|
 some (v2++ [(AU a0 v1 (a0.length:Int))])
def SQ(a0:Ab)(a1:Int)(v3:List (Ab))(v4 v5:Int):Option ((List (Ab) × Int × Int) ⊕ Option (List (Ab))):=
 if(decide (v5<(a0.length:Int)))then
  (Ak a0 v5).bind λy6=>
  if((y6.toNat:Int)==a1)then
   Ar (0<=v4/\v4<=v5/\v5<=(a0.length:Int))<|
   Ar (RM (((v3).length:Int)+(([(AU a0 v4 v5)]:List (Ab)).length:Int)) 16)<|
   some (.inl ((v3++ [(AU a0 v4 v5)]),(IntKind.i64.wrap (v5+1)),(IntKind.i64.wrap (v5+1))))
  else
   some (.inl (v3,v4,(IntKind.i64.wrap (v5+1))))
 else
  some (.inr (w6 a0 v4 v3))
def XF(a0:Ab)(a1:Int):Option (List (Ab)):=
 Ao (λs:List (Ab) × Int × Int=>SQ a0 a1 s.1 s.2.1 s.2.2) ([],0,0)
def fC(a0:An)(a1:Ah):Option (A4 × Bool):=
 if(decide ((a1.ab.length:Int)<3))then
  some ((⟨[]⟩:A4),false)
 else
  Ar (0<=(2:Int)/\(2:Int)<=(a1.ab.length:Int)/\(a1.ab.length:Int)<=(a1.ab.length:Int))<|
  (XF a1.aw 44).bind λv1=>
  Ar (RM ((([(AU a1.ab 2 (a1.ab.length:Int))]:List (Ab)).length:Int)+((v1).length:Int)) 16)<|
  (Nc a0 (⟨([(AU a1.ab 2 (a1.ab.length:Int))]++v1)⟩:A4)).bind λv2=>
  if v2 then
   (OQ a0 (⟨([(AU a1.ab 2 (a1.ab.length:Int))]++v1)⟩:A4)).bind λv3=>
   some ((⟨([(AU a1.ab 2 (a1.ab.length:Int))]++v1)⟩:A4),(v3.ab==a1.ab&&(v3.aw==a1.aw&&(v3.bm==a1.bm))))
  else
   some ((⟨([(AU a1.ab 2 (a1.ab.length:Int))]++v1)⟩:A4),false)
def SI(a0:An)(a1:List Ah)(v1:List A4)(v2:Int):Option ((List A4 × Int) ⊕ Option (List A4)):=
 if(decide (v2<(a1.length:Int)))then
  (Ak a1 v2).bind λy3=>
  (fC a0 y3).bind λv4=>
  if v4.2 then
   Ar (RM (((v1).length:Int)+(([v4.1]:List A4).length:Int)) 24)<|
   some (.inl ((v1++ [v4.1]),(IntKind.i64.wrap (v2+1))))
  else
   some (.inl (v1,(IntKind.i64.wrap (v2+1))))
 else
  some (.inr (some v1))
def zN(a0:An)(a1:List Ah):Option (List A4):=
 Ao (λs:List A4 × Int=>SI a0 a1 s.1 s.2) ([],0)
def zpv(a0:An)(a1:List Ah):Option (List A4 × Bool):=
 (OP a0).bind λv1=>
 if v1 then
  (hP a1).bind λv2=>
  if(!v2)then
   some ([],false)
  else
   (zN a0 a1).bind λv3=>
   some (v3,true)
 else
  some ([],false)
def eD(a0:CW)(a1:Int):Option (List A4 × Bool):=
 (gG a0).bind λv1=>
 if v1 then
  (TH a1).bind λv2=>
  if(!v2)then
   some ([],false)
  else
   (Ak a0.cz 0).bind λy3=>
   (eW a0.aq a1).bind λv4=>
   (zpv y3 v4).bind λv5=>
   some (v5.1,v5.2)
 else
  some ([],false)
def Ef(a0 a1 a2:Int):Option (Bool):=
 some ((decide (a0>=a1))&&(decide (a0<=a2)))
def uN(a0:Ab)(a1:Int):Option (Bool):=
 (Ef (a0.length:Int) 1 a1).bind λv1=>
 some v1
def uO(a0:Ab)(a1 v2:Int):Option ((Int) ⊕ Option (Bool)):=
 if(decide (v2<(a0.length:Int)))then
  (Ak a0 v2).bind λy3=>
  if((decide ((y3.toNat:Int)<97))||(decide ((y3.toNat:Int)>122)))then
   some (.inr (some false))
  else
   some (.inl (IntKind.i64.wrap (v2+1)))
 else
  some (.inr (uN a0 a1))
def SE(a0:Ab)(a1:Int):Option (Bool):=
 Ao (λs:Int=>uO a0 a1 s) 0
def tW(a0:List (Ab))(a1:Ab)(v1:Int):Option ((Int) ⊕ Option (Int)):=
 if(decide (v1<(a0.length:Int)))then
  (Ak a0 v1).bind λy2=>
  if(a1==y2)then
   some (.inr (some v1))
  else
   some (.inl (IntKind.i64.wrap (v1+1)))
 else
  some (.inr (some (-1)))
def aT(a0:List (Ab))(a1:Ab):Option (Int):=
 Ao (λs:Int=>tW a0 a1 s) 0
def WW(a0:List (Ab))(a1:Ab):Option (Bool):=
 (aT a0 a1).bind λv1=>
 some (decide (v1>=0))
def yJ(a0:Int):Option (Bool):=
 (Ef a0 0 3).bind λv1=>
 some v1
def cH(a0:An)(v3:Int):Option ((Int) ⊕ Option (Bool)):=
 if(decide (v3<(a0.aj.length:Int)))then
  (Ak a0.aj v3).bind λy4=>
  (SE y4.ae 1).bind λv5=>
  if v5 then
   (Ef y4.dk 1 (IntKind.i64.wrap ((a0.bf.length:Int)-1))).bind λv6=>
   if v6 then
    (yJ y4.bg).bind λv7=>
    if(decide (v3>0))then
     if v7 then
      (Ak a0.aj (IntKind.i64.wrap (v3-1))).bind λy8=>
      if(Op.bytesLess y4.ae y8.ae||y4.ae==y8.ae)then
       some (.inr (some false))
      else
       some (.inl (IntKind.i64.wrap (v3+1)))
     else
      some (.inr (some false))
    else
     if((!v7)||false)then
      some (.inr (some false))
     else
      some (.inl (IntKind.i64.wrap (v3+1)))
   else
    some (.inr (some false))
  else
   some (.inr (some false))
 else
  some (.inr (some true))
def u7(a0:An):Option (Bool):=
 Ao (λs:Int=>cH a0 s) 0
def bP(a0:An)(v9:Int):Option ((Int) ⊕ Option (Bool)):=
 if(decide (v9<(a0.bf.length:Int)))then
  (Ak a0.bf v9).bind λy10=>
  (SE y10 3).bind λv11=>
  if v11 then
   Ar (0<=(0:Int)/\(0:Int)<=v9/\v9<=(a0.bf.length:Int))<|
   (WW (AU a0.bf 0 v9) y10).bind λv12=>
   if v12 then
    some (.inr (some false))
   else
    some (.inl (IntKind.i64.wrap (v9+1)))
  else
   some (.inr (some false))
 else
  some (.inr (u7 a0))
def cK(a0:An):Option (Bool):=
 (SE a0.ae 1).bind λv1=>
 if v1 then
  (Ef (a0.bf.length:Int) 2 4).bind λv2=>
  if((!v2)||(decide ((a0.aj.length:Int)>3)))then
   some false
  else
   Ao (λs:Int=>bP a0 s) 0
 else
  some false
def uB(a0:A5)(a1:Ab):Option (Bool):=
 some (a0.ae==a1)
def Sy(a0:An)(a1:Ab):Option (Int):=
 (FI a0.aj (λy0_=>uB y0_ a1)).bind λv1=>
 some v1
def gS(a0:An)(a1:Ab):Option (Bool):=
 (cK a0).bind λv1=>
 if v1 then
  (Sy a0 a1).bind λv2=>
  some (decide (v2>=0))
 else
  some false
def M6(a0:An)(a1:Ab):Option (A5):=
 (Sy a0 a1).bind λv1=>
 (Ak a0.aj v1).bind λy2=>
 some y2
def Qq(xs:List (Ab)):Option (List (Ab)):=O9 16 xs
def tV(xs:List A5):Option (List A5):=O9 32 xs
def Xv(a0:An):Option (An):=
 (Qq a0.bf).bind λv1=>
 (tV a0.aj).bind λv2=>
 some (⟨a0.ae,v1,v2⟩:An)
def W5(a0:An)(a1:Ab)(a2:Int):Option (An):=
 (Xv a0).bind λv1=>
 (Sy a0 a1).bind λv2=>
 (Ak v1.aj v2).bind λy3=>
 some (⟨v1.ae,v1.bf,(v1.aj.set (v2).toNat {y3 with bg:=a2})⟩:An)
def W6(a0:An)(a1:Ab)(a2 v3:Int)(v4:List An):Option ((Int × List An) ⊕ Option (List An)):=
 if(v3 !=a2)then
  if(decide (v3<a2))then
   (W5 a0 a1 (IntKind.i64.wrap (v3+1))).bind λv5=>
   Ar (RM (((v4).length:Int)+(([v5]:List An).length:Int)) 64)<|
   some (.inl ((IntKind.i64.wrap (v3+1)),(v4++ [v5])))
  else
   (W5 a0 a1 (IntKind.i64.wrap (v3-1))).bind λv6=>
   Ar (RM (((v4).length:Int)+(([v6]:List An).length:Int)) 64)<|
   some (.inl ((IntKind.i64.wrap (v3-1)),(v4++ [v6])))
 else
  some (.inr (some v4))
def bW(a0:An)(a1:Ab)(a2:Int):Option (List An):=
 (M6 a0 a1).bind λv1=>
 (Xv a0).bind λv2=>
 Ao (λs:Int × List An=>W6 a0 a1 a2 s.1 s.2) (v1.bg,[v2])
def WZ(a0 a1:List An)(a2:An->An->Option Bool)(v1:Int):Option ((Int) ⊕ Option (Bool)):=
 if(decide (v1<(a0.length:Int)))then
  (Ak a0 v1).bind λy2=>
  (Ak a1 v1).bind λy3=>
  (a2 y2 y3).bind λv4=>
  if(!v4)then
   some (.inr (some false))
  else
   some (.inl (IntKind.i64.wrap (v1+1)))
 else
  some (.inr (some true))
def aN(a0 a1:List An)(a2:An->An->Option Bool):Option (Bool):=
 if((a0.length:Int) !=(a1.length:Int))then
  some false
 else
  Ao (λs:Int=>WZ a0 a1 a2 s) 0
def LU(a0:List (Ab))(a1:List (Ab))(v1:Int):Option ((Int) ⊕ Option (Bool)):=
 if(decide (v1<(a0.length:Int)))then
  (Ak a0 v1).bind λy2=>
  (Ak a1 v1).bind λy3=>
  if(y2 !=y3)then
   some (.inr (some false))
  else
   some (.inl (IntKind.i64.wrap (v1+1)))
 else
  some (.inr (some true))
def M5(a0:List (Ab))(a1:List (Ab)):Option (Bool):=
 if((a0.length:Int) !=(a1.length:Int))then
  some false
 else
  Ao (λs:Int=>LU a0 a1 s) 0
def WY(a0 a1:List A5)(v1:Int):Option ((Int) ⊕ Option (Bool)):=
 if(decide (v1<(a0.length:Int)))then
  (Ak a0 v1).bind λy2=>
  (Ak a1 v1).bind λy3=>
  if(!(y2.ae==y3.ae&&(y2.dk==y3.dk&&(y2.bg==y3.bg))))then
   some (.inr (some false))
  else
   some (.inl (IntKind.i64.wrap (v1+1)))
 else
  some (.inr (some true))
def aU(a0 a1:List A5):Option (Bool):=
 if((a0.length:Int) !=(a1.length:Int))then
  some false
 else
  Ao (λs:Int=>WY a0 a1 s) 0
def OM(a0 a1:An):Option (Bool):=
 if(a0.ae==a1.ae)then
  (M5 a0.bf a1.bf).bind λv1=>
  if v1 then
   (aU a0.aj a1.aj).bind λv2=>
   some v2
  else
   some false
 else
  some false
def fI(a0:List An)(a1:Ab):Option (Bool):=
 if((a0.length:Int)==4)then
  (Ak a0 0).bind λy1=>
  (gS y1 a1).bind λv2=>
  if v2 then
   (M6 y1 a1).bind λv3=>
   if(v3.bg==0)then
    (bW y1 a1 3).bind λv4=>
    (aN a0 v4 (λy0_ y1_=>OM y0_ y1_)).bind λv5=>
    some v5
   else
    some false
  else
   some false
 else
  some false
def Nb(a0:Int):Option (Bool):=
 (Ef a0 0 100000).bind λv1=>
 some v1
def SL(a0:List Int)(v1:Int):Option ((Int) ⊕ Option (Bool)):=
 if(decide (v1<(a0.length:Int)))then
  (Ak a0 v1).bind λy2=>
  (Nb y2).bind λv3=>
  if(decide (v1>0))then
   if v3 then
    if(v1==0)then
     if(y2 !=0)then
      some (.inr (some false))
     else
      (Ak a0 (IntKind.i64.wrap (v1-1))).bind λy4=>
      if(decide (y2<y4))then
       some (.inr (some false))
      else
       some (.inl (IntKind.i64.wrap (v1+1)))
    else
     (Ak a0 (IntKind.i64.wrap (v1-1))).bind λy5=>
     if(decide (y2<y5))then
      some (.inr (some false))
     else
      some (.inl (IntKind.i64.wrap (v1+1)))
   else
    some (.inr (some false))
  else
   if(((!v3)||((v1==0)&&(y2 !=0)))||false)then
    some (.inr (some false))
   else
    some (.inl (IntKind.i64.wrap (v1+1)))
 else
  some (.inr (some true))
def eG(a0:List Int):Option (Bool):=
 Ao (λs:Int=>SL a0 s) 0
def uD(a0:Int):Option (Bool):=
 some (((decide (a0>=97))&&(decide (a0<=122)))||((decide (a0>=48))&&(decide (a0<=57))))
def u3(a0:Ab)(a1:Int):Option (Int):=
 (aR a0 a1).bind λv1=>
 some v1
def uV(a0 a1:Ab)(v1:Int):Option ((Int) ⊕ Option (Bool)):=
 if(decide (v1<(a0.length:Int)))then
  (Ak a0 v1).bind λy2=>
  (uD (y2.toNat:Int)).bind λv3=>
  if v3 then
   some (.inl (IntKind.i64.wrap (v1+1)))
  else
   (u3 a1 (y2.toNat:Int)).bind λv4=>
   if(decide (v4<0))then
    some (.inr (some false))
   else
    some (.inl (IntKind.i64.wrap (v1+1)))
 else
  some (.inr (some true))
def TB(a0 a1:Ab):Option (Bool):=
 Ao (λs:Int=>uV a0 a1 s) 0
def QN(a0:Ab):Option (Bool):=
 (Ef (a0.length:Int) 1 12).bind λv1=>
 if v1 then
  (TB a0 ([46,47]:Ab)).bind λv2=>
  some v2
 else
  some false
def u9(a0:List (Ab))(v1:Int):Option ((Int) ⊕ Option (Bool)):=
 if(decide (v1<(a0.length:Int)))then
  (Ak a0 v1).bind λy2=>
  (QN y2).bind λv3=>
  if(decide (v1>0))then
   if v3 then
    (Ak a0 (IntKind.i64.wrap (v1-1))).bind λy4=>
    if(Op.bytesLess y2 y4||y2==y4)then
     some (.inr (some false))
    else
     some (.inl (IntKind.i64.wrap (v1+1)))
   else
    some (.inr (some false))
  else
   if((!v3)||false)then
    some (.inr (some false))
   else
    some (.inl (IntKind.i64.wrap (v1+1)))
 else
  some (.inr (some true))
def Na(a0:List (Ab)):Option (Bool):=
 Ao (λs:Int=>u9 a0 s) 0
def eC(a0:List (Ab)):Option (Bool):=
 if(decide ((a0.length:Int)<4))then
  (Na a0).bind λv1=>
  some v1
 else
  some false
def zW(a0:Int):Option (Bool):=
 some ((a0==3)||(a0==5))
def uS(a0:BZ)(a1:Int):Option (Bool):=
 (Ef a1 0 (IntKind.i64.wrap ((a0.ar.length:Int)-1))).bind λv1=>
 some v1
def XX(a0:Int):Option (Bool):=
 (Ef a0 1 60).bind λv1=>
 some v1
def OT(a0:Int):Option (Bool):=
 (Ef a0 1 100000).bind λv1=>
 some v1
def Si(a0:List Ah)(v1:Int)(v2:List (Ab)):Option ((Int × List (Ab)) ⊕ Option (List (Ab))):=
 if(decide (v1<(a0.length:Int)))then
  (Ak a0 v1).bind λy3=>
  Ar (RM (((v2).length:Int)+(([y3.ab]:List (Ab)).length:Int)) 16)<|
  some (.inl ((IntKind.i64.wrap (v1+1)),(v2++ [y3.ab])))
 else
  some (.inr (some v2))
def eA(a0:List Ah):Option (List (Ab)):=
 Ao (λs:Int × List (Ab)=>Si a0 s.1 s.2) (0,[])
def XJ(a0:Ab):Option (Bool):=
 if(decide ((a0.length:Int)<=24))then
  (TB a0 ([46,45,44,95]:Ab)).bind λv1=>
  some v1
 else
  some false
def TA(a0:Ab)(a1:Bool):Option (Bool):=
 (XJ a0).bind λv1=>
 some (v1&&(!(a1&&(a0 !=([]:Ab)))))
def bU(a0:Ah):Option (Bool):=
 (TA a0.aw a0.bm).bind λv1=>
 some (!v1)
def Xi(a0:List Ah):Option (Bool):=
 if(decide ((a0.length:Int)<=24))then
  (eA a0).bind λv1=>
  (Na v1).bind λv2=>
  if v2 then
   (Dy a0 (λy0_=>bU y0_)).bind λv3=>
   some (!v3)
  else
   some false
 else
  some false
def cX(a0:BH)(v6:Bool):Option (Bool):=
 if v6 then
  if(a0.bu==0)then
   if((a0.bc.length:Int)==0)then
    if((a0.af.length:Int)==0)then
     (XX a0.bd).bind λv7=>
     if a0.dj then
      if v7 then
       (OT a0.ak).bind λv8=>
       some (v8||false)
      else
       some false
     else
      some (v7&&(a0.ak==0))
    else
     some false
   else
    some false
  else
   some false
 else
  if(a0.ah==4)then
   if(a0.bu==0)then
    if((a0.bc.length:Int)==0)then
     if((a0.af.length:Int)==0)then
      if(a0.bd==0)then
       (OT a0.ak).bind λv9=>
       some (v9&&(!a0.dj))
      else
       some false
     else
      some false
    else
     some false
   else
    some false
  else
   some false
def fA(a0:BH):Option (Bool):=
 if(a0.ah==1)then
  (XX a0.bd).bind λv1=>
  if v1 then
   (OT a0.ak).bind λv2=>
   if v2 then
    (Ef a0.bu 0 3).bind λv3=>
    if v3 then
     if(decide ((a0.bc.length:Int)<=8))then
      (Na a0.bc).bind λv4=>
      if v4 then
       if(decide ((a0.af.length:Int)<=8))then
        (Xi a0.af).bind λv5=>
        some ((v5&&(decide ((IntKind.i64.wrap ((a0.bc.length:Int)+(a0.af.length:Int)))>0)))&&(!a0.dj))
       else
        some false
      else
       some false
     else
      some false
    else
     some false
   else
    some false
  else
   some false
 else
  if(a0.ah==2)then
   cX a0 (a0.ah==2)
  else
   cX a0 (a0.ah==3)
def yC(a0:List B8):Option (Bool):=
 some (decide ((a0.length:Int)<=60))
def Ts(a0:List B8)(a1 v1:Int):Option ((Int) ⊕ Option (Bool)):=
 if(decide (v1<(a0.length:Int)))then
  (Ak a0 v1).bind λy2=>
  (Ef y2.cd 1 a1).bind λv3=>
  if v3 then
   (fA y2.fRec).bind λv4=>
   if(decide (v1>0))then
    if v4 then
     (Ak a0 (IntKind.i64.wrap (v1-1))).bind λy5=>
     if(decide (y2.cd<y5.cd))then
      some (.inr (some false))
     else
      some (.inl (IntKind.i64.wrap (v1+1)))
    else
     some (.inr (some false))
   else
    if((!v4)||false)then
     some (.inr (some false))
    else
     some (.inl (IntKind.i64.wrap (v1+1)))
  else
   some (.inr (some false))
 else
  some (.inr (yC a0))
def jE(a0:List B8)(a1:Int):Option (Bool):=
 Ao (λs:Int=>Ts a0 a1 s) 0
def SY(a0:Cu)(a1:BZ):Option (Bool):=
 (jE a0.cr a1.cd).bind λv1=>
 if v1 then
  (Ef a0.cw 0 (a0.cr.length:Int)).bind λv2=>
  some (!v2)
 else
  some true
def dR(a0:BZ):Option (Bool):=
 (zW (a0.ar.length:Int)).bind λv1=>
 if v1 then
  (Ef a0.cd 0 200).bind λv2=>
  if(a0.bu !=(-1))then
   if v2 then
    (uS a0 a0.bu).bind λv3=>
    if v3 then
     (Ak a0.ar a0.bu).bind λy4=>
     if(!y4.ju)then
      some false
     else
      (Dy a0.ar (λy0_=>SY y0_ a0)).bind λv5=>
      some (!v5)
    else
     some false
   else
    some false
  else
   if((!v2)||false)then
    some false
   else
    (Dy a0.ar (λy0_=>SY y0_ a0)).bind λv6=>
    some (!v6)
 else
  some false
def gR(a0:Bh):Option (Bool):=
 (QN a0.ab).bind λv1=>
 if v1 then
  (XX a0.bd).bind λv2=>
  some v2
 else
  some false
def zqJ(a0 a1:Bh):Option (Bool):=
 some (((a0.ab==a1.ab)&&(a0.bd !=a1.bd))&&(a0.ei||a1.ei))
def vM(a0 a1:Bh):Option (Bool):=
 (zqJ a1 a0).bind λv1=>
 some (v1||((a1.ab==a0.ab)&&(a1.bd==a0.bd)))
def uY(a0:List Bh):Option (Bool):=
 some (decide ((a0.length:Int)<=60))
def Sw(a0:List Bh)(v1:Int):Option ((Int) ⊕ Option (Bool)):=
 if(decide (v1<(a0.length:Int)))then
  (Ak a0 v1).bind λy2=>
  (gR y2).bind λv3=>
  if v3 then
   Ar (0<=(0:Int)/\(0:Int)<=v1/\v1<=(a0.length:Int))<|
   (Dy (AU a0 0 v1) (λy0_=>vM y0_ y2)).bind λv4=>
   if v4 then
    some (.inr (some false))
   else
    some (.inl (IntKind.i64.wrap (v1+1)))
  else
   some (.inr (some false))
 else
  some (.inr (uY a0))
def dX(a0:List Bh):Option (Bool):=
 Ao (λs:Int=>Sw a0 s) 0
def zpQ(a0:DB):Option (Bool):=
 (Ef a0.gn (-5) 5).bind λv1=>
 some v1
def cA(a0:DB):Option (Bool):=
 (zpQ a0).bind λv1=>
 some (!v1)
def zB(a0:Int):Option (Bool):=
 some ((a0==2)||(a0==7))
def iZ(a0:Int):Option (Bool):=
 some ((a0==4)||(a0==5))
def jJ(a0:AK):Option (Bool):=
 (Ef a0.ah 1 7).bind λv1=>
 if v1 then
  (QN a0.ab).bind λv2=>
  if v2 then
   (XJ a0.aw).bind λv3=>
   if v3 then
    (zB a0.ah).bind λv4=>
    if v4 then
     (Ef a0.ic (-9999) 9999).bind λv5=>
     if v5 then
      (iZ a0.ah).bind λv6=>
      some (v6||(a0.ic==0))
     else
      some false
    else
     if(a0.aw==([]:Ab))then
      (Ef a0.ic (-9999) 9999).bind λv7=>
      if v7 then
       (iZ a0.ah).bind λv8=>
       some (v8||(a0.ic==0))
      else
       some false
     else
      some false
   else
    some false
  else
   some false
 else
  some false
def cL(a0:AK):Option (Bool):=
 (jJ a0).bind λv1=>
 some (!v1)
def gL(a0:List AK):Option (Bool):=
 if(decide ((a0.length:Int)<=8))then
  (Dy a0 (λy0_=>cL y0_)).bind λv1=>
  some (!v1)
 else
  some false
def xN(a0:List AK):Option (Bool):=
 if(decide ((a0.length:Int)>0))then
  (gL a0).bind λv1=>
  some v1
 else
  some false
def yD(a0 a1:Cd):Option (Bool):=
 some (a0.ab==a1.ab)
def xC(a0:List Cd):Option (Bool):=
 some (decide ((a0.length:Int)<=8))
def Tf(a0:List Cd)(v1:Int):Option ((Int) ⊕ Option (Bool)):=
 if(decide (v1<(a0.length:Int)))then
  (Ak a0 v1).bind λy2=>
  (QN y2.ab).bind λv3=>
  if v3 then
   (TA y2.aw (!y2.dz)).bind λv4=>
   if v4 then
    Ar (0<=(0:Int)/\(0:Int)<=v1/\v1<=(a0.length:Int))<|
    (Dy (AU a0 0 v1) (λy0_=>yD y0_ y2)).bind λv5=>
    if v5 then
     some (.inr (some false))
    else
     some (.inl (IntKind.i64.wrap (v1+1)))
   else
    some (.inr (some false))
  else
   some (.inr (some false))
 else
  some (.inr (xC a0))
def XS(a0:List Cd):Option (Bool):=
 Ao (λs:Int=>Tf a0 s) 0
def tY(a0:Int):Option (Bool):=
 (Ef a0 0 200).bind λv1=>
 some (!v1)
def Qx(a0:BG)(a1:Int):Option (Bool):=
 (Ef a1 (-1) a0.cy).bind λv1=>
 some v1
def aY(a0:BG)(a1:CU):Option (Bool):=
 (xN a1.ef).bind λv1=>
 if v1 then
  (XS a1.cm).bind λv2=>
  if v2 then
   if((a1.c6.length:Int)==(a0.az.length:Int))then
    (Dy a1.c6 (λy0_=>tY y0_)).bind λv3=>
    if v3 then
     some false
    else
     (Qx a0 a1.di).bind λv4=>
     if v4 then
      (Qx a0 a1.fw).bind λv5=>
      if v5 then
       (Nb a1.ak).bind λv6=>
       some v6
      else
       some false
     else
      some false
   else
    some false
  else
   some false
 else
  some false
def W9(a0:CU)(a1:BG):Option (Bool):=
 (aY a1 a0).bind λv1=>
 some (!v1)
def uI(a0:BG)(a1:Int):Option (Bool):=
 (Ef a1 0 (IntKind.i64.wrap ((a0.bh.length:Int)-1))).bind λv1=>
 some v1
def cD(a0:List (Ab)):Option (Bool):=
 (Ef (a0.length:Int) 1 8).bind λv1=>
 if v1 then
  (Na a0).bind λv2=>
  some v2
 else
  some false
def tX(a0:BG)(a1:Cw):Option (Bool):=
 (Nb a1.ak).bind λv4=>
 if v4 then
  (Qx a0 a1.di).bind λv5=>
  if v5 then
   (Qx a0 a1.fw).bind λv6=>
   some v6
  else
   some false
 else
  some false
def Sf(a0:BG)(a1:Cw)(v7:Int):Option ((Int) ⊕ Option (Bool)):=
 if(decide (v7<(a1.cm.length:Int)))then
  (Ak a1.cm v7).bind λy8=>
  (Ak a1.ch v7).bind λy9=>
  if(y8.ab !=y9)then
   some (.inr (some false))
  else
   some (.inl (IntKind.i64.wrap (v7+1)))
 else
  some (.inr (tX a0 a1))
def aV(a0:BG)(a1:Cw):Option (Bool):=
 (uI a0 a1.ff).bind λv1=>
 if v1 then
  (cD a1.ch).bind λv2=>
  if v2 then
   if(decide ((a1.cm.length:Int)>(a1.ch.length:Int)))then
    some false
   else
    (XS a1.cm).bind λv3=>
    if(!v3)then
     some false
    else
     Ao (λs:Int=>Sf a0 a1 s) 0
  else
   some false
 else
  some false
def W8(a0:Cw)(a1:BG):Option (Bool):=
 (aV a1 a0).bind λv1=>
 some (!v1)
def u6(a0:BG):Option (Bool):=
 (Nb a0.gq).bind λv2=>
 if v2 then
  (Ef a0.cy 0 1000000).bind λv3=>
  if v3 then
   if(decide ((a0.cf.length:Int)<=6))then
    if(decide ((a0.cc.length:Int)<=4))then
     (Dy a0.bh (λy0_=>cA y0_)).bind λv4=>
     if v4 then
      some false
     else
      (Dy a0.cf (λy0_=>W9 y0_ a0)).bind λv5=>
      if v5 then
       some false
      else
       (Dy a0.cc (λy0_=>W8 y0_ a0)).bind λv6=>
       some (!v6)
    else
     some false
   else
    some false
  else
   some false
 else
  some false
def Sm(a0:BG)(v7:Int):Option ((Int) ⊕ Option (Bool)):=
 if(decide (v7<(a0.az.length:Int)))then
  (Ak a0.az v7).bind λy8=>
  (dR y8).bind λv9=>
  if v9 then
   if((y8.ar.length:Int) !=3)then
    some (.inr (some false))
   else
    (Ak a0.cj v7).bind λy10=>
    (dX y10).bind λv11=>
    if v11 then
     (Ak a0.bj v7).bind λy12=>
     (Nb y12).bind λv13=>
     if(!v13)then
      some (.inr (some false))
     else
      some (.inl (IntKind.i64.wrap (v7+1)))
    else
     some (.inr (some false))
  else
   some (.inr (some false))
 else
  some (.inr (u6 a0))
def XA(a0:BG):Option (Bool):=
 if(decide ((a0.br.length:Int)>2))then
  some false
 else
  (eC a0.br).bind λv1=>
  if(((((!v1)||((a0.az.length:Int) !=(IntKind.i64.wrap ((a0.br.length:Int)+1))))||((a0.cj.length:Int) !=(IntKind.i64.wrap ((a0.br.length:Int)+1))))||((a0.bj.length:Int) !=(IntKind.i64.wrap ((a0.br.length:Int)+1))))||((a0.bh.length:Int) !=(IntKind.i64.wrap ((3:Int)*(IntKind.i64.wrap ((a0.br.length:Int)+1))))))then
   some false
  else
   Ao (λs:Int=>Sm a0 s) 0
def XM(a0:Cv):Option (Bool):=
 some (((a0.ah==0)&&((a0.cu.ay.length:Int)==0))&&((a0.c9.ay.length:Int)==0))
def fT(a0:Ab):Option (Bool):=
 (Ef (a0.length:Int) 1 3).bind λv1=>
 if v1 then
  (TB a0 ([]:Ab)).bind λv2=>
  some v2
 else
  some false
def bM(a0:Ab):Option (Bool):=
 (fT a0).bind λv1=>
 some (!v1)
def M9(a0:An)(a1:A4):Option (Bool):=
 if((a1.ay.length:Int)==(a0.bf.length:Int))then
  (Dy a1.ay (λy0_=>bM y0_)).bind λv1=>
  some (!v1)
 else
  some false
def aX(a0:An)(a1:Cv):Option (Bool):=
 if(a1.ah==1)then
  if((a1.cu.ay.length:Int)==0)then
   (M9 a0 a1.c9).bind λv1=>
   some v1
  else
   some false
 else
  if(a1.ah==2)then
   (M9 a0 a1.cu).bind λv2=>
   some (v2&&((a1.c9.ay.length:Int)==0))
  else
   if(a1.ah==3)then
    (M9 a0 a1.cu).bind λv3=>
    if v3 then
     (M9 a0 a1.c9).bind λv4=>
     if v4 then
      (Ak a1.cu.ay 0).bind λy5=>
      (Ak a1.c9.ay 0).bind λy6=>
      some (y5==y6)
     else
      some false
    else
     some false
   else
    some false
def iX(a0:List An)(a1:Db):Option (Bool):=
 (Ef a1.ga 0 3).bind λv1=>
 if(!v1)then
  some false
 else
  if a1.gy then
   if(decide (a1.ga>=2))then
    (XM a1.fAct).bind λv2=>
    if v2 then
     (Ak a0 a1.ga).bind λy3=>
     (M9 y3 a1.fRow).bind λv4=>
     some v4
    else
     some false
   else
    some false
  else
   (Ak a0 a1.ga).bind λy5=>
   (aX y5 a1.fAct).bind λv6=>
   some (v6&&((a1.fRow.ay.length:Int)==0))
def Qy(a0:An)(a1:A4):Option (Ah):=
 Ar ((a0.ae).length+(([47]:Ab)).length<=9223372036854775807)<|
 (Ak a1.ay 0).bind λy1=>
 Ar (((a0.ae++([47]:Ab))).length+(y1).length<=9223372036854775807)<|
 Ar (0<=(1:Int)/\(1:Int)<=(a1.ay.length:Int)/\(a1.ay.length:Int)<=(a1.ay.length:Int))<|
 (gN (AU a1.ay 1 (a1.ay.length:Int)) ([44]:Ab)).bind λv2=>
 some (⟨((a0.ae++([47]:Ab))++y1),v2,false⟩:Ah)
def bI(a0:An)(a1:Ab):Option (Ab):=
 Ar ((a0.ae).length+(([46]:Ab)).length<=9223372036854775807)<|
 Ar (((a0.ae++([46]:Ab))).length+(a1).length<=9223372036854775807)<|
 Ar ((((a0.ae++([46]:Ab))++a1)).length+(([47]:Ab)).length<=9223372036854775807)<|
 some (((a0.ae++([46]:Ab))++a1)++([47]:Ab))
def OJ(a0:An)(a1:Ab)(a2:A4):Option (Ab):=
 (bI a0 a1).bind λv1=>
 (M6 a0 a1).bind λv2=>
 (Ak a2.ay v2.dk).bind λy3=>
 Ar ((v1).length+(y3).length<=9223372036854775807)<|
 Ar (((v1++y3)).length+(([47]:Ab)).length<=9223372036854775807)<|
 (Ak a2.ay 0).bind λy4=>
 Ar ((((v1++y3)++([47]:Ab))).length+(y4).length<=9223372036854775807)<|
 some (((v1++y3)++([47]:Ab))++y4)
def uF(a0:An)(a1:Ab)(a2:A4):Option (List AK):=
 (Qy a0 a2).bind λv1=>
 (OJ a0 a1 a2).bind λv2=>
 some [(⟨7,v1.ab,v1.aw,0⟩:AK),(⟨2,v2,([]:Ab),0⟩:AK)]
def LS(a0:Int)(a1:Ah)(a2:List AK):Option (Unit × List AK):=
 Ar (RM (((a2).length:Int)+(([(⟨a0,a1.ab,a1.aw,0⟩:AK)]:List AK).length:Int)) 48)<|
 some ((),(a2++ [(⟨a0,a1.ab,a1.aw,0⟩:AK)]))
def zJ(a0:Int):Option (Bool):=
 some (decide (a0>=1))
def yG(a0:Int):Option (Bool):=
 some (decide (a0>=2))
def Sc(v9:Int)(y11:A5)(v13:Ab)(v14:List AK):Option ((Int × List AK) ⊕ Option (List AK)):=
 if(v13 !=([]:Ab))then
  (yG y11.bg).bind λv15=>
  if v15 then
   (LS 2 (⟨v13,([]:Ab),false⟩:Ah) v14).bind λv16=>
   some (.inl ((IntKind.i64.wrap (v9+1)),v16.2))
  else
   some (.inl ((IntKind.i64.wrap (v9+1)),v14))
 else
  some (.inl ((IntKind.i64.wrap (v9+1)),v14))
def Qw(v9:Int)(v10:List AK)(y11:A5)(v12 v13:Ab):Option ((Int × List AK) ⊕ Option (List AK)):=
 if(v12 !=([]:Ab))then
  if(v12 !=v13)then
   (zJ y11.bg).bind λv17=>
   if v17 then
    (LS 3 (⟨v12,([]:Ab),false⟩:Ah) v10).bind λv18=>
    Sc v9 y11 v13 v18.2
   else
    Sc v9 y11 v13 v10
  else
   Sc v9 y11 v13 v10
 else
  Sc v9 y11 v13 v10
def uA(a0:An)(a1:Cv)(v9:Int)(v10:List AK)(y11:A5)(v12:Ab):Option ((Int × List AK) ⊕ Option (List AK)):=
 if(a1.ah !=2)then
  (OJ a0 y11.ae a1.c9).bind λv19=>
  Qw v9 v10 y11 v12 v19
 else
  Qw v9 v10 y11 v12 ([]:Ab)
def Sb(a0:An)(a1:Cv)(v9:Int)(v10:List AK):Option ((Int × List AK) ⊕ Option (List AK)):=
 if(decide (v9<(a0.aj.length:Int)))then
  (Ak a0.aj v9).bind λy11=>
  Wo (σ:=Ab) (
   if(a1.ah !=1)then
    (OJ a0 y11.ae a1.cu).bind λv20=>
    some (.inl v20)
   else
    some (.inl ([]:Ab))
  ) (λs=>uA a0 a1 v9 v10 y11 s)
 else
  some (.inr (some v10))
def R8(a0:An)(a1:Cv)(v8:List AK):Option (List AK):=
 Ao (λs:Int × List AK=>Sb a0 a1 s.1 s.2) (0,v8)
def W4(a0:An)(a1:Cv)(v1:Ab)(v4:List AK)(v5 v6:Ab)(v7:Bool):Option (List AK):=
 if(a1.ah==1)then
  (LS 6 (⟨v5,([]:Ab),false⟩:Ah) v4).bind λv21=>
  (LS 2 (⟨v5,v6,v7⟩:Ah) v21.2).bind λv22=>
  R8 a0 a1 v22.2
 else
  if(a1.ah==2)then
   (LS 3 (⟨v1,([]:Ab),false⟩:Ah) v4).bind λv23=>
   R8 a0 a1 v23.2
  else
   if(a1.ah==3)then
    (LS 2 (⟨v5,v6,v7⟩:Ah) v4).bind λv24=>
    R8 a0 a1 v24.2
   else
    R8 a0 a1 v4
def Qv(a0:An)(a1:Cv)(v1 v2:Ab)(v3:Bool)(v4:List AK):Option (List AK):=
 if(a1.ah !=2)then
  (Qy a0 a1.c9).bind λv25=>
  W4 a0 a1 v1 v4 v25.ab v25.aw v25.bm
 else
  W4 a0 a1 v1 v4 ([]:Ab) ([]:Ab) false
def bK(a0:An)(a1:Cv):Option (List AK):=
 Wo (σ:=Ab × Ab × Bool × List AK) (
  if(a1.ah !=1)then
   (Qy a0 a1.cu).bind λv26=>
   (LS 7 v26 ([]:List AK)).bind λv27=>
   some (.inl (v26.ab,v26.aw,v26.bm,v27.2))
  else
   some (.inl (([]:Ab),([]:Ab),false,[]))
 ) (λs=>Qv a0 a1 s.1 s.2.1 s.2.2.1 s.2.2.2)
def XP(a0:List An)(a1:Ab)(a2:Db):Option (List AK):=
 if a2.gy then
  (Ak a0 a2.ga).bind λy1=>
  (uF y1 a1 a2.fRow).bind λv2=>
  some v2
 else
  (Ak a0 a2.ga).bind λy3=>
  (bK y3 a2.fAct).bind λv4=>
  some v4
def RZ(a0 a1:List AK)(v1:Int):Option ((Int) ⊕ Option (Bool)):=
 if(decide (v1<(a0.length:Int)))then
  (Ak a0 v1).bind λy2=>
  (Ak a1 v1).bind λy3=>
  if(!(y2.ah==y3.ah&&(y2.ab==y3.ab&&(y2.aw==y3.aw&&(y2.ic==y3.ic)))))then
   some (.inr (some false))
  else
   some (.inl (IntKind.i64.wrap (v1+1)))
 else
  some (.inr (some true))
def aQ(a0 a1:List AK):Option (Bool):=
 if((a0.length:Int) !=(a1.length:Int))then
  some false
 else
  Ao (λs:Int=>RZ a0 a1 s) 0
def Ki(a0:CW)(v7:Int):Option ((Int) ⊕ Option (Bool)):=
 if(decide (v7<(a0.cq.length:Int)))then
  (Ak a0.cq v7).bind λy8=>
  (iX a0.cz y8).bind λv9=>
  if v9 then
   (Ak a0.aq.cf v7).bind λy10=>
   (XP a0.cz a0.ae y8).bind λv11=>
   (aQ y10.ef v11).bind λv12=>
   if(!v12)then
    some (.inr (some false))
   else
    some (.inl (IntKind.i64.wrap (v7+1)))
  else
   some (.inr (some false))
 else
  some (.inr (some true))
def eQ(a0:CW):Option (Bool):=
 (fI a0.cz a0.ae).bind λv1=>
 if v1 then
  (Ef a0.gi 0 2).bind λv2=>
  if v2 then
   if((a0.bq.length:Int) !=(IntKind.i64.wrap (a0.gi+1)))then
    some false
   else
    (eG a0.bq).bind λv3=>
    if((!v3)||(decide ((a0.cq.length:Int)>6)))then
     some false
    else
     (XA a0.aq).bind λv4=>
     if v4 then
      (Ak a0.cz 0).bind λy5=>
      Ar ((y5.ae).length+(([47]:Ab)).length<=9223372036854775807)<|
      (M5 a0.aq.br ([(y5.ae++([47]:Ab))]:List (Ab))).bind λv6=>
      if(((!v6)||(decide ((a0.aq.cc.length:Int)>0)))||((a0.aq.cf.length:Int) !=(a0.cq.length:Int)))then
       some false
      else
       Ao (λs:Int=>Ki a0 s) 0
     else
      some false
  else
   some false
 else
  some false
def R7(a0:BZ)(v2:Int)(v3:Bool)(v4:List B8)(v5:Int):Option ((Int × Bool × List B8 × Int) ⊕ Option (Cu)):=
 if(decide (v2<(a0.ar.length:Int)))then
  (Ak a0.ar v2).bind λy6=>
  if(decide (y6.cw>v5))then
   some (.inl ((IntKind.i64.wrap (v2+1)),y6.ju,y6.cr,y6.cw))
  else
   some (.inl ((IntKind.i64.wrap (v2+1)),v3,v4,v5))
 else
  some (.inr (some (⟨v3,v4,v5⟩:Cu)))
def bO(a0:BZ):Option (Cu):=
 (Ak a0.ar 0).bind λy1=>
 Ao (λs:Int × Bool × List B8 × Int=>R7 a0 s.1 s.2.1 s.2.2.1 s.2.2.2) (0,y1.ju,y1.cr,y1.cw)
def uU(a0:Cu):Option (List B8):=
 Ar (0<=(0:Int)/\(0:Int)<=a0.cw/\a0.cw<=(a0.cr.length:Int))<|
 some (AU a0.cr 0 a0.cw)
def tT(xs:List Cp):Option (List Cp):=O9 24 xs
def wW(a0:AX):Option (BH):=
 some (⟨1,a0.bd,a0.ak,a0.bu,a0.bc,a0.af,false⟩:BH)
def WX(xs:List Ah):Option (List Ah):=O9 40 xs
def TL(a0:BH):Option (AX):=
 (Qq a0.bc).bind λv1=>
 (WX a0.af).bind λv2=>
 some (⟨a0.bd,a0.ak,a0.bu,v1,v2⟩:AX)
def dL(a0:AX):Option (AX):=
 (wW a0).bind λv1=>
 (TL v1).bind λv2=>
 some v2
def Sj(a0:AF)(v1:List Ap)(v2:List Cp)(v3:Int)(v4:List AX):Option ((Int × List AX) ⊕ Option (AF)):=
 if(decide (v3<(a0.al.length:Int)))then
  (Ak a0.al v3).bind λy5=>
  (dL y5).bind λv6=>
  Ar (RM (((v4).length:Int)+(([v6]:List AX).length:Int)) 72)<|
  some (.inl ((IntKind.i64.wrap (v3+1)),(v4++ [v6])))
 else
  some (.inr (some (⟨a0.bw,v1,v4,v2⟩:AF)))
def Ta(a0:AF):Option (AF):=
 (Td a0.ao).bind λv1=>
 (tT a0.bz).bind λv2=>
 Ao (λs:Int × List AX=>Sj a0 v1 v2 s.1 s.2) (0,[])
def tR(a0:List Cp)(a1:Int)(a2:Cp->Int->Option Int)(v1:Int):Option (Int × Bool):=
 if(decide (v1<(a0.length:Int)))then
  (Ak a0 v1).bind λy2=>
  (a2 y2 a1).bind λv3=>
  some (v1,(v3==0))
 else
  some (v1,false)
def R3(a0:List Cp)(a1:Int)(a2:Cp->Int->Option Int)(v4 v5:Int):Option ((Int × Int) ⊕ Option (Int × Bool)):=
 if(decide (v4<v5))then
  (Ak a0 (IntKind.i64.wrap (Int.fdiv (IntKind.u64.wrap (IntKind.i64.wrap (v4+v5))) (2^(min ((1:Int)).toNat (IntKind.bits .u64)))))).bind λy6=>
  (a2 y6 a1).bind λv7=>
  if(decide (v7<0))then
   some (.inl ((IntKind.i64.wrap ((IntKind.i64.wrap (Int.fdiv (IntKind.u64.wrap (IntKind.i64.wrap (v4+v5))) (2^(min ((1:Int)).toNat (IntKind.bits .u64)))))+1)),v5))
  else
   some (.inl (v4,(IntKind.i64.wrap (Int.fdiv (IntKind.u64.wrap (IntKind.i64.wrap (v4+v5))) (2^(min ((1:Int)).toNat (IntKind.bits .u64)))))))
 else
  some (.inr (tR a0 a1 a2 v4))
def aL(a0:List Cp)(a1:Int)(a2:Cp->Int->Option Int):Option (Int × Bool):=
 Ao (λs:Int × Int=>R3 a0 a1 a2 s.1 s.2) (0,(a0.length:Int))
def Xq(a0:Int):Option (Bool):=
 some (a0 !=a0)
def Xa(a0 a1:Int):Option (Int):=
 (Xq a0).bind λv1=>
 (Xq a1).bind λv2=>
 if v1 then
  if v2 then
   some 0
  else
   some (-1)
 else
  if v2 then
   some 1
  else
   if(decide (a0<a1))then
    some (-1)
   else
    if(decide (a0>a1))then
     some 1
    else
     some 0
def Qu(a0:Cp)(a1:Int):Option (Int):=
 (Xa a0.bd a1).bind λv1=>
 some v1
def Sd(a0:AF)(a1:Int):Option (Int × Bool):=
 (aL a0.bz a1 (λy0_ y1_=>Qu y0_ y1_)).bind λv1=>
 some (v1.1,v1.2)
def tQ(a0:List AX)(a1:Int)(a2:AX->Int->Option Int)(v1:Int):Option (Int × Bool):=
 if(decide (v1<(a0.length:Int)))then
  (Ak a0 v1).bind λy2=>
  (a2 y2 a1).bind λv3=>
  some (v1,(v3==0))
 else
  some (v1,false)
def R2(a0:List AX)(a1:Int)(a2:AX->Int->Option Int)(v4 v5:Int):Option ((Int × Int) ⊕ Option (Int × Bool)):=
 if(decide (v4<v5))then
  (Ak a0 (IntKind.i64.wrap (Int.fdiv (IntKind.u64.wrap (IntKind.i64.wrap (v4+v5))) (2^(min ((1:Int)).toNat (IntKind.bits .u64)))))).bind λy6=>
  (a2 y6 a1).bind λv7=>
  if(decide (v7<0))then
   some (.inl ((IntKind.i64.wrap ((IntKind.i64.wrap (Int.fdiv (IntKind.u64.wrap (IntKind.i64.wrap (v4+v5))) (2^(min ((1:Int)).toNat (IntKind.bits .u64)))))+1)),v5))
  else
   some (.inl (v4,(IntKind.i64.wrap (Int.fdiv (IntKind.u64.wrap (IntKind.i64.wrap (v4+v5))) (2^(min ((1:Int)).toNat (IntKind.bits .u64)))))))
 else
  some (.inr (tQ a0 a1 a2 v4))
def aM(a0:List AX)(a1:Int)(a2:AX->Int->Option Int):Option (Int × Bool):=
 Ao (λs:Int × Int=>R2 a0 a1 a2 s.1 s.2) (0,(a0.length:Int))
def Qt(a0:AX)(a1:Int):Option (Int):=
 (Xa a0.bd a1).bind λv1=>
 some v1
def W2(a0:AF)(a1:Int):Option (Int × Bool):=
 (aM a0.al a1 (λy0_ y1_=>Qt y0_ y1_)).bind λv1=>
 some (v1.1,v1.2)
def tO(a0:List Ap)(a1:Ab)(a2:Ap->(Ab)->Option Int)(v1:Int):Option (Int × Bool):=
 if(decide (v1<(a0.length:Int)))then
  (Ak a0 v1).bind λy2=>
  (a2 y2 a1).bind λv3=>
  some (v1,(v3==0))
 else
  some (v1,false)
def R1(a0:List Ap)(a1:Ab)(a2:Ap->(Ab)->Option Int)(v4 v5:Int):Option ((Int × Int) ⊕ Option (Int × Bool)):=
 if(decide (v4<v5))then
  (Ak a0 (IntKind.i64.wrap (Int.fdiv (IntKind.u64.wrap (IntKind.i64.wrap (v4+v5))) (2^(min ((1:Int)).toNat (IntKind.bits .u64)))))).bind λy6=>
  (a2 y6 a1).bind λv7=>
  if(decide (v7<0))then
   some (.inl ((IntKind.i64.wrap ((IntKind.i64.wrap (Int.fdiv (IntKind.u64.wrap (IntKind.i64.wrap (v4+v5))) (2^(min ((1:Int)).toNat (IntKind.bits .u64)))))+1)),v5))
  else
   some (.inl (v4,(IntKind.i64.wrap (Int.fdiv (IntKind.u64.wrap (IntKind.i64.wrap (v4+v5))) (2^(min ((1:Int)).toNat (IntKind.bits .u64)))))))
 else
  some (.inr (tO a0 a1 a2 v4))
def aK(a0:List Ap)(a1:Ab)(a2:Ap->(Ab)->Option Int):Option (Int × Bool):=
 Ao (λs:Int × Int=>R1 a0 a1 a2 s.1 s.2) (0,(a0.length:Int))
def Xh(a0:Ab):Option (Bool):=
 some (a0 !=a0)
def W7(a0 a1:Ab):Option (Int):=
 (Xh a0).bind λv1=>
 (Xh a1).bind λv2=>
 if v1 then
  if v2 then
   some 0
  else
   some (-1)
 else
  if v2 then
   some 1
  else
   if(Op.bytesLess a0 a1)then
    some (-1)
   else
    if(!(Op.bytesLess a0 a1||a0==a1))then
     some 1
    else
     some 0
def QH(a0:Ap)(a1:Ab):Option (Int):=
 (W7 a0.ab a1).bind λv1=>
 some v1
def TE(a0:List Ap)(a1:Ab):Option (Int × Bool):=
 (aK a0 a1 (λy0_ y1_=>QH y0_ y1_)).bind λv1=>
 some (v1.1,v1.2)
def dF(a0:List Ap)(a1:Ab):Option (Int):=
 (TE a0 a1).bind λv1=>
 if(!v1.2)then
  some 0
 else
  (Ak a0 v1.1).bind λy2=>
  (Ak y2.au (IntKind.i64.wrap ((y2.au.length:Int)-1))).bind λy3=>
  some y3.ak
def xQ(a0:Ap):Option (Bool):=
 (Ef (a0.au.length:Int) 1 16).bind λv1=>
 some v1
def QB(a0:Ap)(v2:Int):Option ((Int) ⊕ Option (Bool)):=
 if(decide (v2<(a0.au.length:Int)))then
  (Ak a0.au v2).bind λy3=>
  (OT y3.ak).bind λv4=>
  if v4 then
   (TA y3.aw y3.bm).bind λv5=>
   if(decide (v2>0))then
    if v5 then
     (Ak a0.au (IntKind.i64.wrap (v2-1))).bind λy6=>
     if(decide (y3.ak<=y6.ak))then
      some (.inr (some false))
     else
      some (.inl (IntKind.i64.wrap (v2+1)))
    else
     some (.inr (some false))
   else
    if((!v5)||false)then
     some (.inr (some false))
    else
     some (.inl (IntKind.i64.wrap (v2+1)))
  else
   some (.inr (some false))
 else
  some (.inr (xQ a0))
def iK(a0:Ap):Option (Bool):=
 Ao (λs:Int=>QB a0 s) 0
def bR(a0:List Ap)(v1:List (Ab)):Option (Bool):=
 if(decide ((a0.length:Int)<=24))then
  (Na v1).bind λv2=>
  some v2
 else
  some false
def Xd(a0:List Ap)(v3:Int)(v4:List (Ab)):Option ((Int × List (Ab)) ⊕ Option (Bool)):=
 if(decide (v3<(a0.length:Int)))then
  (Ak a0 v3).bind λy5=>
  (iK y5).bind λv6=>
  if(!v6)then
   some (.inr (some false))
  else
   Ar (RM (((v4).length:Int)+(([y5.ab]:List (Ab)).length:Int)) 16)<|
   some (.inl ((IntKind.i64.wrap (v3+1)),(v4++ [y5.ab])))
 else
  some (.inr (bR a0 v4))
def dO(a0:List Ap):Option (Bool):=
 Ao (λs:Int × List (Ab)=>Xd a0 s.1 s.2) (0,[])
def cE(v2:List Ap):Option (List Ap × Bool):=
 (dO v2).bind λv3=>
 if(!v3)then
  some ([],false)
 else
  some (v2,true)
def S5(a1:List Ah)(a2 v4:Int)(v5:List Ap):Option ((Int × List Ap) ⊕ Option (List Ap × Bool)):=
 if(decide (v4<(a1.length:Int)))then
  (Ak a1 v4).bind λy6=>
  (dF v5 y6.ab).bind λv7=>
  if(decide (a2<=v7))then
   some (.inr (some ([],false)))
  else
   (TE v5 y6.ab).bind λv8=>
   if(!v8.2)then
    (Gt v5 v8.1 ([(⟨y6.ab,[]⟩:Ap)]:List Ap)).bind λv9=>
    (Ak v9 v8.1).bind λy10=>
    Ar (RM (((y10.au).length:Int)+(([(⟨a2,y6.aw,y6.bm⟩:CD)]:List CD).length:Int)) 32)<|
    some (.inl ((IntKind.i64.wrap (v4+1)),(v9.set (v8.1).toNat {y10 with au:=(y10.au++ [(⟨a2,y6.aw,y6.bm⟩:CD)])})))
   else
    (Ak v5 v8.1).bind λy11=>
    Ar (RM (((y11.au).length:Int)+(([(⟨a2,y6.aw,y6.bm⟩:CD)]:List CD).length:Int)) 32)<|
    some (.inl ((IntKind.i64.wrap (v4+1)),(v5.set (v8.1).toNat {y11 with au:=(y11.au++ [(⟨a2,y6.aw,y6.bm⟩:CD)])})))
 else
  some (.inr (cE v5))
def dG(a0:List Ap)(a1:List Ah)(a2:Int):Option (List Ap × Bool):=
 (Td a0).bind λv1=>
 Ao (λs:Int × List Ap=>S5 a1 a2 s.1 s.2) (0,v1)
def aZ(a1:BH)(v1:AF)(v2:Int × Bool)(v3:List Ap)(v4:Int):Option (AF × Bool):=
 if v2.2 then
  (Ys v1.al v2.1 (IntKind.i64.wrap (v2.1+1))).bind λv5=>
  (Sd (⟨v4,v3,v5,v1.bz⟩:AF) a1.bd).bind λv6=>
  (Gt v1.bz v6.1 ([(⟨a1.bd,a1.dj,a1.ak⟩:Cp)]:List Cp)).bind λv7=>
  some ((⟨v4,v3,v5,v7⟩:AF),true)
 else
  (Sd (⟨v4,v3,v1.al,v1.bz⟩:AF) a1.bd).bind λv8=>
  (Gt v1.bz v8.1 ([(⟨a1.bd,a1.dj,a1.ak⟩:Cp)]:List Cp)).bind λv9=>
  some ((⟨v4,v3,v1.al,v9⟩:AF),true)
def bF(a0:AF)(a1:BH):Option (AF × Bool):=
 (Ta a0).bind λv1=>
 (W2 v1 a1.bd).bind λv2=>
 if a1.dj then
  if v2.2 then
   (Ak v1.al v2.1).bind λy10=>
   if(decide (y10.ak>a1.ak))then
    some ((⟨0,[],[],[]⟩:AF),false)
   else
    (dG v1.ao y10.af a1.ak).bind λv11=>
    if(!v11.2)then
     some ((⟨0,[],[],[]⟩:AF),false)
    else
     aZ a1 v1 v2 v11.1 (bif (decide (a1.ak>v1.bw))then a1.ak else v1.bw)
  else
   some ((⟨0,[],[],[]⟩:AF),false)
 else
  aZ a1 v1 v2 v1.ao v1.bw
def tN(a0:List Ah)(a1:Ab)(a2:Ah->(Ab)->Option Int)(v1:Int):Option (Int × Bool):=
 if(decide (v1<(a0.length:Int)))then
  (Ak a0 v1).bind λy2=>
  (a2 y2 a1).bind λv3=>
  some (v1,(v3==0))
 else
  some (v1,false)
def R0(a0:List Ah)(a1:Ab)(a2:Ah->(Ab)->Option Int)(v4 v5:Int):Option ((Int × Int) ⊕ Option (Int × Bool)):=
 if(decide (v4<v5))then
  (Ak a0 (IntKind.i64.wrap (Int.fdiv (IntKind.u64.wrap (IntKind.i64.wrap (v4+v5))) (2^(min ((1:Int)).toNat (IntKind.bits .u64)))))).bind λy6=>
  (a2 y6 a1).bind λv7=>
  if(decide (v7<0))then
   some (.inl ((IntKind.i64.wrap ((IntKind.i64.wrap (Int.fdiv (IntKind.u64.wrap (IntKind.i64.wrap (v4+v5))) (2^(min ((1:Int)).toNat (IntKind.bits .u64)))))+1)),v5))
  else
   some (.inl (v4,(IntKind.i64.wrap (Int.fdiv (IntKind.u64.wrap (IntKind.i64.wrap (v4+v5))) (2^(min ((1:Int)).toNat (IntKind.bits .u64)))))))
 else
  some (.inr (tN a0 a1 a2 v4))
def tP(a0:List Ah)(a1:Ab)(a2:Ah->(Ab)->Option Int):Option (Int × Bool):=
 Ao (λs:Int × Int=>R0 a0 a1 a2 s.1 s.2) (0,(a0.length:Int))
def S0(a0:Ah)(a1:Ab):Option (Int):=
 (W7 a0.ab a1).bind λv1=>
 some v1
def QF(a0:List Ah)(a1:Ab):Option (Int × Bool):=
 (tP a0 a1 (λy0_ y1_=>S0 y0_ y1_)).bind λv1=>
 some (v1.1,v1.2)
def xM(a0:Ah)(a1:List Ah)(a2:List (Ab)):Option (Bool):=
 (QF a1 a0.ab).bind λv1=>
 if v1.2 then
  some true
 else
  (WW a2 a0.ab).bind λv2=>
  some v2
def XH(a0:List Ah)(a1:List (Ab))(a2:List Ah):Option (Bool):=
 (Dy a0 (λy0_=>xM y0_ a2 a1)).bind λv1=>
 some v1
def zqm(a0 a1:AX):Option (Bool):=
 (XH a0.af a1.bc a1.af).bind λv1=>
 if v1 then
  some true
 else
  (XH a1.af a0.bc a0.af).bind λv2=>
  some v2
def bC(a0 a1:AX):Option (Bool):=
 (zqm a1 a0).bind λv1=>
 some v1
def tS(xs:List AX):Option (List AX):=O9 72 xs
def bL(a1:List AX)(v2:List (Ab)):Option (Bool):=
 (aO v2).bind λv3=>
 if(decide ((a1.length:Int)<=12))then
  (aP v3.2).bind λv4=>
  some (decide ((v4.length:Int)<=24))
 else
  some false
def bD(v5:Int)(v8:List (Ab)):Option ((Int × List (Ab)) ⊕ Option (Bool)):=
 some (.inl ((IntKind.i64.wrap (v5+1)),v8))
def Qr(a0:AF)(v5:Int)(y7:AX)(v9:Int)(v10:List (Ab)):Option ((Int × List (Ab)) ⊕ Option ((Int × List (Ab)) ⊕ Option (Bool))):=
 if(decide (v9<(y7.af.length:Int)))then
  (Ak y7.af v9).bind λy11=>
  (TE a0.ao y11.ab).bind λv12=>
  if v12.2 then
   (Ak a0.ao v12.1).bind λy13=>
   if(decide ((y13.au.length:Int)>=16))then
    some (.inr (some (.inr (some false))))
   else
    Ar (RM (((v10).length:Int)+(([y11.ab]:List (Ab)).length:Int)) 16)<|
    some (.inl ((IntKind.i64.wrap (v9+1)),(v10++ [y11.ab])))
  else
   Ar (RM (((v10).length:Int)+(([y11.ab]:List (Ab)).length:Int)) 16)<|
   some (.inl ((IntKind.i64.wrap (v9+1)),(v10++ [y11.ab])))
 else
  some (.inr (bD v5 v10))
def OI(a0:AF)(a1:List AX)(v5:Int)(v6:List (Ab)):Option ((Int × List (Ab)) ⊕ Option (Bool)):=
 if(decide (v5<(a1.length:Int)))then
  (Ak a1 v5).bind λy7=>
  Ao (λs:Int × List (Ab)=>Qr a0 v5 y7 s.1 s.2) (0,v6)
 else
  some (.inr (bL a1 v6))
def uG(a0:AF)(a1:List AX)(v1:List (Ab)):Option (Bool):=
 Ao (λs:Int × List (Ab)=>OI a0 a1 s.1 s.2) (0,v1)
def Sx(a0:AF)(a1:List AX)(v14:Int)(v15:List (Ab)):Option ((Int × List (Ab)) ⊕ Option (Bool)):=
 if(decide (v14<(a0.ao.length:Int)))then
  (Ak a0.ao v14).bind λy16=>
  Ar (RM (((v15).length:Int)+(([y16.ab]:List (Ab)).length:Int)) 16)<|
  some (.inl ((IntKind.i64.wrap (v14+1)),(v15++ [y16.ab])))
 else
  some (.inr (uG a0 a1 v15))
def bQ(a0:AF)(a1:List AX):Option (Bool):=
 Ao (λs:Int × List (Ab)=>Sx a0 a1 s.1 s.2) (0,[])
def cI(a0:AF)(a1:List (Ab))(a2:List Ah):Option (Bool):=
 (Dy a0.al (λy0_=>bC y0_ (⟨0,0,0,a1,a2⟩:AX))).bind λv1=>
 if v1 then
  some false
 else
  (tS a0.al).bind λv2=>
  Ar (RM (((v2).length:Int)+(([(⟨0,0,0,a1,a2⟩:AX)]:List AX).length:Int)) 72)<|
  (bQ a0 (v2++ [(⟨0,0,0,a1,a2⟩:AX)])).bind λv3=>
  some v3
def bH(a0:AF)(a1:BH):Option (AF × Bool):=
 if(a1.ah==4)then
  if(decide (a1.ak<=a0.bw))then
   some ((⟨0,[],[],[]⟩:AF),false)
  else
   (Ta a0).bind λv1=>
   some ((⟨a1.ak,v1.ao,v1.al,v1.bz⟩:AF),true)
 else
  (Sd a0 a1.bd).bind λv2=>
  if v2.2 then
   some ((⟨0,[],[],[]⟩:AF),false)
  else
   if(a1.ah !=1)then
    (bF a0 a1).bind λv3=>
    some (v3.1,v3.2)
   else
    (W2 a0 a1.bd).bind λv4=>
    if v4.2 then
     some ((⟨0,[],[],[]⟩:AF),false)
    else
     if(decide (a1.ak<=a0.bw))then
      some ((⟨0,[],[],[]⟩:AF),false)
     else
      (cI a0 a1.bc a1.af).bind λv5=>
      if(!v5)then
       some ((⟨0,[],[],[]⟩:AF),false)
      else
       (Ta a0).bind λv6=>
       (TL a1).bind λv7=>
       (Gt v6.al v4.1 ([v7]:List AX)).bind λv8=>
       some ((⟨a1.ak,v6.ao,v8,v6.bz⟩:AF),true)
def SS(a0:List BH)(v1 v2:Int)(v3:List Ap)(v4:List AX)(v5:List Cp)(v6:List Bool):Option ((Int × Int × List Ap × List AX × List Cp × List Bool) ⊕ Option (AF × List Bool)):=
 if(decide (v1<(a0.length:Int)))then
  (Ak a0 v1).bind λy7=>
  (bH (⟨v2,v3,v4,v5⟩:AF) y7).bind λv8=>
  if v8.2 then
   Ar (RM (((v6).length:Int)+(([v8.2]:List Bool).length:Int)) 1)<|
   some (.inl ((IntKind.i64.wrap (v1+1)),v8.1.bw,v8.1.ao,v8.1.al,v8.1.bz,(v6++ [v8.2])))
  else
   Ar (RM (((v6).length:Int)+(([v8.2]:List Bool).length:Int)) 1)<|
   some (.inl ((IntKind.i64.wrap (v1+1)),v2,v3,v4,v5,(v6++ [v8.2])))
 else
  some (.inr (some ((⟨v2,v3,v4,v5⟩:AF),v6)))
def gM(a0:List BH):Option (AF × List Bool):=
 Ao (λs:Int × Int × List Ap × List AX × List Cp × List Bool=>SS a0 s.1 s.2.1 s.2.2.1 s.2.2.2.1 s.2.2.2.2.1 s.2.2.2.2.2) (0,0,[],[],[],[])
def wN(v1:List BH):Option (AF):=
 (gM v1).bind λv2=>
 some v2.1
def SD(a0:List B8)(v3:Int)(v4:List BH):Option ((Int × List BH) ⊕ Option (AF)):=
 if(decide (v3<(a0.length:Int)))then
  (Ak a0 v3).bind λy5=>
  Ar (RM (((v4).length:Int)+(([y5.fRec]:List BH).length:Int)) 88)<|
  some (.inl ((IntKind.i64.wrap (v3+1)),(v4++ [y5.fRec])))
 else
  some (.inr (wN v4))
def gA(a0:List B8):Option (AF):=
 Ao (λs:Int × List BH=>SD a0 s.1 s.2) (0,[])
def bB(a0:BZ):Option (AF):=
 (bO a0).bind λv1=>
 (uU v1).bind λv2=>
 (gA v2).bind λv3=>
 some v3
def Sg(a0:BG)(v1:Int)(v2:List AF):Option ((Int × List AF) ⊕ Option (List AF)):=
 if(decide (v1<(a0.az.length:Int)))then
  (Ak a0.az v1).bind λy3=>
  (bB y3).bind λv4=>
  Ar (RM (((v2).length:Int)+(([v4]:List AF).length:Int)) 80)<|
  some (.inl ((IntKind.i64.wrap (v1+1)),(v2++ [v4])))
 else
  some (.inr (some v2))
def bA(a0:BG):Option (List AF):=
 Ao (λs:Int × List AF=>Sg a0 s.1 s.2) (0,[])
def SN(a0:List Ap)(a1 v1:Int)(v2:List Ah):Option ((Int × List Ah) ⊕ Option (List Ah)):=
 if(decide (v1<(a0.length:Int)))then
  (Ak a0 v1).bind λy3=>
  (dV y3 a1).bind λv4=>
  if v4.2 then
   Ar (RM (((v2).length:Int)+(([(⟨y3.ab,v4.1,false⟩:Ah)]:List Ah).length:Int)) 40)<|
   some (.inl ((IntKind.i64.wrap (v1+1)),(v2++ [(⟨y3.ab,v4.1,false⟩:Ah)])))
  else
   some (.inl ((IntKind.i64.wrap (v1+1)),v2))
 else
  some (.inr (some v2))
def fR(a0:List Ap)(a1:Int):Option (List Ah):=
 Ao (λs:Int × List Ah=>SN a0 a1 s.1 s.2) (0,[])
def eF(a0:List Ah)(a1:Ah):Option (List Ah):=
 (QF a0 a1.ab).bind λv1=>
 if v1.2 then
  (Ak a0 v1.1).bind λy2=>
  some (a0.set (v1.1).toNat a1)
 else
  (Gt a0 v1.1 ([a1]:List Ah)).bind λv3=>
  some v3
def cN(v1:List Ah):Option (List Ah × Bool):=
 (Xi v1).bind λv2=>
 if(!v2)then
  some ([],false)
 else
  some (v1,true)
def xF(v3:Int)(v7:List Ah):Option ((Int × List Ah) ⊕ Option (List Ah × Bool)):=
 some (.inl ((IntKind.i64.wrap (v3+1)),v7))
def S7(v3:Int)(v6:List Ah)(v8:Int)(v9:List Ah):Option ((Int × List Ah) ⊕ Option ((Int × List Ah) ⊕ Option (List Ah × Bool))):=
 if(decide (v8<(v6.length:Int)))then
  (Ak v6 v8).bind λy10=>
  (eF v9 y10).bind λv11=>
  some (.inl ((IntKind.i64.wrap (v8+1)),v11))
 else
  some (.inr (xF v3 v9))
def Tb(a0:List AF)(a1 v3:Int)(v4:List Ah):Option ((Int × List Ah) ⊕ Option (List Ah × Bool)):=
 if(decide (v3<(a0.length:Int)))then
  (Ak a0 v3).bind λy5=>
  (fR y5.ao a1).bind λv6=>
  Ao (λs:Int × List Ah=>S7 v3 v6 s.1 s.2) (0,v4)
 else
  some (.inr (cN v4))
def gW(a0:List AF)(a1:Int):Option (List Ah × Bool):=
 Ao (λs:Int × List Ah=>Tb a0 a1 s.1 s.2) (0,[])
def aS(a0 a1:Ab):Option (Bool):=
 if(decide ((a0.length:Int)>=(a1.length:Int)))then
  Ar (0<=(0:Int)/\(0:Int)<=(a1.length:Int)/\(a1.length:Int)<=(a0.length:Int))<|
  some ((AU a0 0 (a1.length:Int))==a1)
 else
  some false
def tU(a0 a1:Ab):Option (Ab × Bool):=
 (aS a0 a1).bind λv1=>
 if(!v1)then
  some (a0,false)
 else
  Ar (0<=(a1.length:Int)/\(a1.length:Int)<=(a0.length:Int)/\(a0.length:Int)<=(a0.length:Int))<|
  some ((AU a0 (a1.length:Int) (a0.length:Int)),true)
def cJ(a0 a1:Ab):Option (Ab × Bool):=
 (tU a0 a1).bind λv1=>
 some (v1.1,v1.2)
def dH(a0 a1:Ab):Option (Int):=
 (aW a0 a1).bind λv1=>
 some v1
def uT(v3:Ab)(v4:Int)(v5:List (Ab)):Option (List (Ab)):=
 (Ak v5 v4).bind λy6=>
 Ar (0<=(0:Int)/\(0:Int)<=(IntKind.i64.wrap (v4+1))/\(IntKind.i64.wrap (v4+1))<=((v5.set (v4).toNat v3).length:Int))<|
 some (AU (v5.set (v4).toNat v3) 0 (IntKind.i64.wrap (v4+1)))
def SA(a0 a1:Ab)(a2 v2:Int)(v7:Ab)(v8:Int)(v9:List (Ab)):Option ((Ab × Int × List (Ab)) ⊕ Option (List (Ab))):=
 if(decide (v8<(IntKind.i64.wrap ((bif (decide ((IntKind.i64.wrap ((a0.length:Int)+1))<v2))then(IntKind.i64.wrap ((a0.length:Int)+1))else v2)-1))))then
  (dH v7 a1).bind λv10=>
  if(decide (v10<0))then
   some (.inr (uT v7 v8 v9))
  else
   Ar (0<=(0:Int)/\(0:Int)<=(IntKind.i64.wrap (v10+a2))/\(IntKind.i64.wrap (v10+a2))<=(v7.length:Int))<|
   (Ak v9 v8).bind λy11=>
   Ar (0<=(IntKind.i64.wrap (v10+(a1.length:Int)))/\(IntKind.i64.wrap (v10+(a1.length:Int)))<=(v7.length:Int)/\(v7.length:Int)<=(v7.length:Int))<|
   some (.inl ((AU v7 (IntKind.i64.wrap (v10+(a1.length:Int))) (v7.length:Int)),(IntKind.i64.wrap (v8+1)),(v9.set (v8).toNat (AU v7 0 (IntKind.i64.wrap (v10+a2))))))
 else
  some (.inr (uT v7 v8 v9))
def uC(a0 a1:Ab)(a2 v2:Int):Option (List (Ab)):=
 Ar (0<=(bif (decide ((IntKind.i64.wrap ((a0.length:Int)+1))<v2))then(IntKind.i64.wrap ((a0.length:Int)+1))else v2)/\(bif (decide ((IntKind.i64.wrap ((a0.length:Int)+1))<v2))then(IntKind.i64.wrap ((a0.length:Int)+1))else v2)*16<=140737488355328/\(bif (decide ((IntKind.i64.wrap ((a0.length:Int)+1))<v2))then(IntKind.i64.wrap ((a0.length:Int)+1))else v2)<=140737488355328)<|
 Ao (λs:Ab × Int × List (Ab)=>SA a0 a1 a2 v2 s.1 s.2.1 s.2.2) (a0,0,(List.replicate ((bif (decide ((IntKind.i64.wrap ((a0.length:Int)+1))<v2))then(IntKind.i64.wrap ((a0.length:Int)+1))else v2)).toNat ([]:Ab)))
def vN(a0 a1:Ab)(a2 a3:Int):Option (List (Ab)):=
 if(a3==0)then
  some []
 else
  if(a1==([]:Ab))then
   (wF a0 a3).bind λv1=>
   some v1
  else
   if(decide (a3<0))then
    (dK a0 a1).bind λv12=>
    uC a0 a1 a2 (IntKind.i64.wrap (v12+1))
   else
    uC a0 a1 a2 a3
def Xm(a0 a1:Ab):Option (List (Ab)):=
 (vN a0 a1 0 (-1)).bind λv1=>
 some v1
def bE(a0:An)(a1:Ah):Option (A4 × Bool):=
 Ar ((a0.ae).length+(([47]:Ab)).length<=9223372036854775807)<|
 (cJ a1.ab (a0.ae++([47]:Ab))).bind λv1=>
 (Xm a1.aw ([44]:Ab)).bind λv2=>
 Ar (RM ((([v1.1]:List (Ab)).length:Int)+((v2).length:Int)) 16)<|
 if v1.2 then
  (M9 a0 (⟨([v1.1]++v2)⟩:A4)).bind λv3=>
  if v3 then
   (Qy a0 (⟨([v1.1]++v2)⟩:A4)).bind λv4=>
   if(!(a1.ab==v4.ab&&(a1.aw==v4.aw&&(a1.bm==v4.bm))))then
    some ((⟨[]⟩:A4),false)
   else
    some ((⟨([v1.1]++v2)⟩:A4),true)
  else
   some ((⟨[]⟩:A4),false)
 else
  some ((⟨[]⟩:A4),false)
def Sa(a0:An)(a1:List Ah)(v1:Int)(v2:List A4):Option ((Int × List A4) ⊕ Option (List A4)):=
 if(decide (v1<(a1.length:Int)))then
  (Ak a1 v1).bind λy3=>
  (bE a0 y3).bind λv4=>
  if v4.2 then
   Ar (RM (((v2).length:Int)+(([v4.1]:List A4).length:Int)) 24)<|
   some (.inl ((IntKind.i64.wrap (v1+1)),(v2++ [v4.1])))
  else
   some (.inl ((IntKind.i64.wrap (v1+1)),v2))
 else
  some (.inr (some v2))
def uJ(a0:An)(a1:List Ah):Option (List A4):=
 Ao (λs:Int × List A4=>Sa a0 a1 s.1 s.2) (0,[])
def XK(a0:CW)(a1:Int):Option (List A4 × Bool):=
 (eQ a0).bind λv1=>
 if v1 then
  (Nb a1).bind λv2=>
  if(!v2)then
   some ([],false)
  else
   (bA a0.aq).bind λv3=>
   (gW v3 a1).bind λv4=>
   if(!v4.2)then
    some ([],false)
   else
    (Ak a0.cz 0).bind λy5=>
    (uJ y5 v4.1).bind λv6=>
    some (v6,true)
 else
  some ([],false)
def Xc(a0:List (Ab))(a1:List (Ab))(v1:Int):Option ((Int) ⊕ Option (Bool)):=
 if(decide (v1<(a0.length:Int)))then
  (Ak a0 v1).bind λy2=>
  (Ak a1 v1).bind λy3=>
  if(y2 !=y3)then
   some (.inr (some false))
  else
   some (.inl (IntKind.i64.wrap (v1+1)))
 else
  some (.inr (some true))
def ON(a0:List (Ab))(a1:List (Ab)):Option (Bool):=
 if((a0.length:Int) !=(a1.length:Int))then
  some false
 else
  Ao (λs:Int=>Xc a0 a1 s) 0
def QO(a0 a1:A4):Option (Bool):=
 (ON a0.ay a1.ay).bind λv1=>
 if(!v1)then
  some false
 else
  some true
def XN(a0 a1:List A4):Option (Bool):=GA QO a0 a1
def iV(a0 a1:A5):Option (Bool):=
 if(a0.ae !=a1.ae)then
  some false
 else
  if(a0.dk !=a1.dk)then
   some false
  else
   if(a0.bg !=a1.bg)then
    some false
   else
    some true
def z8(a0 a1:List A5):Option (Bool):=GA iV a0 a1
def gE(a0 a1:An):Option (Bool):=
 if(a0.ae !=a1.ae)then
  some false
 else
  (ON a0.bf a1.bf).bind λv1=>
  if(!v1)then
   some false
  else
   (z8 a0.aj a1.aj).bind λv2=>
   if(!v2)then
    some false
   else
    some true
def xY(a0 a1:List An):Option (Bool):=GA gE a0 a1
def XE(a0 a1:List Int)(v1:Int):Option ((Int) ⊕ Option (Bool)):=
 if(decide (v1<(a0.length:Int)))then
  (Ak a0 v1).bind λy2=>
  (Ak a1 v1).bind λy3=>
  if(y2 !=y3)then
   some (.inr (some false))
  else
   some (.inl (IntKind.i64.wrap (v1+1)))
 else
  some (.inr (some true))
def TJ(a0 a1:List Int):Option (Bool):=
 if((a0.length:Int) !=(a1.length:Int))then
  some false
 else
  Ao (λs:Int=>XE a0 a1 s) 0
def eK(a0 a1:Cv):Option (Bool):=
 if(a0.ah !=a1.ah)then
  some false
 else
  (QO a0.cu a1.cu).bind λv1=>
  if(!v1)then
   some false
  else
   (QO a0.c9 a1.c9).bind λv2=>
   if(!v2)then
    some false
   else
    some true
def dY(a0 a1:Db):Option (Bool):=
 if(a0.ga !=a1.ga)then
  some false
 else
  if(a0.gy !=a1.gy)then
   some false
  else
   (eK a0.fAct a1.fAct).bind λv1=>
   if(!v1)then
    some false
   else
    (QO a0.fRow a1.fRow).bind λv2=>
    if(!v2)then
     some false
    else
     some true
def wJ(a0 a1:List Db):Option (Bool):=GA dY a0 a1
def eX(a0 a1:DB):Option (Bool):=
 if(a0.gn !=a1.gn)then
  some false
 else
  some true
def yB(a0 a1:List DB):Option (Bool):=GA eX a0 a1
def fK(a0 a1:Ah):Option (Bool):=
 if(a0.ab !=a1.ab)then
  some false
 else
  if(a0.aw !=a1.aw)then
   some false
  else
   if(a0.bm !=a1.bm)then
    some false
   else
    some true
def yX(a0 a1:List Ah):Option (Bool):=GA fK a0 a1
def jG(a0 a1:BH):Option (Bool):=
 if(a0.ah !=a1.ah)then
  some false
 else
  if(a0.bd !=a1.bd)then
   some false
  else
   if(a0.ak !=a1.ak)then
    some false
   else
    if(a0.bu !=a1.bu)then
     some false
    else
     (ON a0.bc a1.bc).bind λv1=>
     if(!v1)then
      some false
     else
      (yX a0.af a1.af).bind λv2=>
      if(!v2)then
       some false
      else
       if(a0.dj !=a1.dj)then
        some false
       else
        some true
def gC(a0 a1:B8):Option (Bool):=
 if(a0.cd !=a1.cd)then
  some false
 else
  (jG a0.fRec a1.fRec).bind λv1=>
  if(!v1)then
   some false
  else
   some true
def xW(a0 a1:List B8):Option (Bool):=GA gC a0 a1
def dQ(a0 a1:Cu):Option (Bool):=
 if(a0.ju !=a1.ju)then
  some false
 else
  (xW a0.cr a1.cr).bind λv1=>
  if(!v1)then
   some false
  else
   if(a0.cw !=a1.cw)then
    some false
   else
    some true
def wM(a0 a1:List Cu):Option (Bool):=GA dQ a0 a1
def fX(a0 a1:BZ):Option (Bool):=
 (wM a0.ar a1.ar).bind λv1=>
 if(!v1)then
  some false
 else
  if(a0.cd !=a1.cd)then
   some false
  else
   if(a0.bu !=a1.bu)then
    some false
   else
    some true
def yN(a0 a1:List BZ):Option (Bool):=GA fX a0 a1
def iN(a0 a1:Bh):Option (Bool):=
 if(a0.ab !=a1.ab)then
  some false
 else
  if(a0.bd !=a1.bd)then
   some false
  else
   if(a0.ei !=a1.ei)then
    some false
   else
    some true
def yH(a0 a1:List Bh):Option (Bool):=GA iN a0 a1
def yM(a0:List (List Bh))(a1:List (List Bh)):Option (Bool):=GA yH a0 a1
def jM(a0 a1:AK):Option (Bool):=
 if(a0.ah !=a1.ah)then
  some false
 else
  if(a0.ab !=a1.ab)then
   some false
  else
   if(a0.aw !=a1.aw)then
    some false
   else
    if(a0.ic !=a1.ic)then
     some false
    else
     some true
def zqf(a0 a1:List AK):Option (Bool):=GA jM a0 a1
def iP(a0 a1:Cd):Option (Bool):=
 if(a0.ab !=a1.ab)then
  some false
 else
  if(a0.aw !=a1.aw)then
   some false
  else
   if(a0.dz !=a1.dz)then
    some false
   else
    some true
def iC(a0 a1:List Cd):Option (Bool):=GA iP a0 a1
def dE(a0 a1:CU):Option (Bool):=
 (zqf a0.ef a1.ef).bind λv1=>
 if(!v1)then
  some false
 else
  (iC a0.cm a1.cm).bind λv2=>
  if(!v2)then
   some false
  else
   (TJ a0.c6 a1.c6).bind λv3=>
   if(!v3)then
    some false
   else
    if(a0.di !=a1.di)then
     some false
    else
     if(a0.fw !=a1.fw)then
      some false
     else
      if(a0.dj !=a1.dj)then
       some false
      else
       if(a0.ak !=a1.ak)then
        some false
       else
        if(a0.je !=a1.je)then
         some false
        else
         if(a0.ky !=a1.ky)then
          some false
         else
          if(a0.gb !=a1.gb)then
           some false
          else
           some true
def vQ(a0 a1:List CU):Option (Bool):=GA dE a0 a1
def cF(a0 a1:Cw):Option (Bool):=
 if(a0.ff !=a1.ff)then
  some false
 else
  (ON a0.ch a1.ch).bind λv1=>
  if(!v1)then
   some false
  else
   (iC a0.cm a1.cm).bind λv2=>
   if(!v2)then
    some false
   else
    if(a0.ak !=a1.ak)then
     some false
    else
     if(a0.di !=a1.di)then
      some false
     else
      if(a0.fw !=a1.fw)then
       some false
      else
       some true
def vD(a0 a1:List Cw):Option (Bool):=GA cF a0 a1
def fZ(a0 a1:BG):Option (Bool):=
 if(a0.gq !=a1.gq)then
  some false
 else
  if(a0.cy !=a1.cy)then
   some false
  else
   (yB a0.bh a1.bh).bind λv1=>
   if(!v1)then
    some false
   else
    (ON a0.br a1.br).bind λv2=>
    if(!v2)then
     some false
    else
     (yN a0.az a1.az).bind λv3=>
     if(!v3)then
      some false
     else
      (yM a0.cj a1.cj).bind λv4=>
      if(!v4)then
       some false
      else
       (TJ a0.bj a1.bj).bind λv5=>
       if(!v5)then
        some false
       else
        (vQ a0.cf a1.cf).bind λv6=>
        if(!v6)then
         some false
        else
         (vD a0.cc a1.cc).bind λv7=>
         if(!v7)then
          some false
         else
          some true
def iD(a0 a1:CW):Option (Bool):=
 if(a0.ae !=a1.ae)then
  some false
 else
  (xY a0.cz a1.cz).bind λv1=>
  if(!v1)then
   some false
  else
   if(a0.gi !=a1.gi)then
    some false
   else
    (TJ a0.bq a1.bq).bind λv2=>
    if(!v2)then
     some false
    else
     (wJ a0.cq a1.cq).bind λv3=>
     if(!v3)then
      some false
     else
      (fZ a0.aq a1.aq).bind λv4=>
      if(!v4)then
       some false
      else
       some true
def znU(v1:Ab):Option (Ab):=
 Ar ((([109]:Ab)).length+(v1).length<=9223372036854775807)<|
 some ((([109]:Ab):Ab)++v1)
def OH(v2:Int)(v3:Ab):Option ((Int × Ab) ⊕ Option (Ab)):=
 if(decide (v2>0))then
  Ar (([(IntKind.u8.wrap (IntKind.i64.wrap ((48:Int)+(Int.tmod v2 10))))]:List Int).length<=9223372036854775807)<|
  Ar ((([(IntKind.u8.wrap (IntKind.i64.wrap ((48:Int)+(Int.tmod v2 10))))].map λn=>UInt8.ofNat n.toNat)).length+(v3).length<=9223372036854775807)<|
  some (.inl ((IntKind.i64.wrap (Int.tdiv v2 10)),(([(IntKind.u8.wrap (IntKind.i64.wrap ((48:Int)+(Int.tmod v2 10))))].map λn=>UInt8.ofNat n.toNat)++v3)))
 else
  some (.inr (znU v3))
def Ht(a0:Int):Option (Ab):=
 if(decide (a0<=0))then
  some ([109,48]:Ab)
 else
  Ao (λs:Int × Ab=>OH s.1 s.2) (a0,([]:Ab))
def Sz(v1 v2:Int)(v3:List (Ab)):Option ((Int × Int × List (Ab)) ⊕ Option (Int × List (Ab))):=
 if(decide (v2<(v3.length:Int)))then
  (Ht v1).bind λv4=>
  (Ak v3 v2).bind λy5=>
  some (.inl ((IntKind.i64.wrap (v1+1)),(IntKind.i64.wrap (v2+1)),(v3.set (v2).toNat v4)))
 else
  some (.inr (some (v1,v3)))
def LW(a0:List (Ab))(a1:Int):Option (Int × List (Ab)):=
 Ao (λs:Int × Int × List (Ab)=>Sz s.1 s.2.1 s.2.2) (a1,0,a0)
def SZ(v1 v2:Int)(v3:List A5):Option ((Int × Int × List A5) ⊕ Option (Int × List A5)):=
 if(decide (v2<(v3.length:Int)))then
  (Ht v1).bind λv4=>
  (Ak v3 v2).bind λy5=>
  some (.inl ((IntKind.i64.wrap ((IntKind.i64.wrap ((IntKind.i64.wrap (v1+1))+1))+1)),(IntKind.i64.wrap (v2+1)),(((v3.set (v2).toNat {y5 with ae:=v4}).set (v2).toNat {{y5 with ae:=v4}with dk:=(IntKind.i64.wrap (v1+1))}).set (v2).toNat {{{y5 with ae:=v4}with dk:=(IntKind.i64.wrap (v1+1))}with bg:=(IntKind.i64.wrap ((IntKind.i64.wrap (v1+1))+1))})))
 else
  some (.inr (some (v1,v3)))
def xS(a0:List A5)(a1:Int):Option (Int × List A5):=
 Ao (λs:Int × Int × List A5=>SZ s.1 s.2.1 s.2.2) (a1,0,a0)
def Sp(v1 v2:Int)(v3:List An):Option ((Int × Int × List An) ⊕ Option (Int × List An)):=
 if(decide (v2<(v3.length:Int)))then
  (Ht v1).bind λv4=>
  (Ak v3 v2).bind λy5=>
  (LW ({y5 with ae:=v4}.bf) (IntKind.i64.wrap (v1+1))).bind λv6=>
  (xS ({{y5 with ae:=v4}with bf:=v6.2}.aj) v6.1).bind λv7=>
  some (.inl (v7.1,(IntKind.i64.wrap (v2+1)),(((v3.set (v2).toNat {y5 with ae:=v4}).set (v2).toNat {{y5 with ae:=v4}with bf:=v6.2}).set (v2).toNat {{{y5 with ae:=v4}with bf:=v6.2}with aj:=v7.2})))
 else
  some (.inr (some (v1,v3)))
def wH(a0:List An)(a1:Int):Option (Int × List An):=
 Ao (λs:Int × Int × List An=>Sp s.1 s.2.1 s.2.2) (a1,0,a0)
def SX(v1 v2:Int)(v3:List Int):Option ((Int × Int × List Int) ⊕ Option (Int × List Int)):=
 if(decide (v2<(v3.length:Int)))then
  (Ak v3 v2).bind λy4=>
  some (.inl ((IntKind.i64.wrap (v1+1)),(IntKind.i64.wrap (v2+1)),(v3.set (v2).toNat v1)))
 else
  some (.inr (some (v1,v3)))
def Xn(a0:List Int)(a1:Int):Option (Int × List Int):=
 Ao (λs:Int × Int × List Int=>SX s.1 s.2.1 s.2.2) (a1,0,a0)
def R6(v1 v2:Int)(v3:List Db):Option ((Int × Int × List Db) ⊕ Option (Int × List Db)):=
 if(decide (v2<(v3.length:Int)))then
  (Ak v3 v2).bind λy4=>
  (LW ({{{y4 with ga:=v1}with gy:=((Int.tmod (IntKind.i64.wrap (v1+1)) 3)==0)}with fAct.ah:=(IntKind.i64.wrap ((IntKind.i64.wrap (v1+1))+1))}.fAct.cu.ay) (IntKind.i64.wrap ((IntKind.i64.wrap ((IntKind.i64.wrap (v1+1))+1))+1))).bind λv5=>
  (LW ({{{{y4 with ga:=v1}with gy:=((Int.tmod (IntKind.i64.wrap (v1+1)) 3)==0)}with fAct.ah:=(IntKind.i64.wrap ((IntKind.i64.wrap (v1+1))+1))}with fAct.cu.ay:=v5.2}.fAct.c9.ay) v5.1).bind λv6=>
  (LW ({{{{{y4 with ga:=v1}with gy:=((Int.tmod (IntKind.i64.wrap (v1+1)) 3)==0)}with fAct.ah:=(IntKind.i64.wrap ((IntKind.i64.wrap (v1+1))+1))}with fAct.cu.ay:=v5.2}with fAct.c9.ay:=v6.2}.fRow.ay) v6.1).bind λv7=>
  some (.inl (v7.1,(IntKind.i64.wrap (v2+1)),((((((v3.set (v2).toNat {y4 with ga:=v1}).set (v2).toNat {{y4 with ga:=v1}with gy:=((Int.tmod (IntKind.i64.wrap (v1+1)) 3)==0)}).set (v2).toNat {{{y4 with ga:=v1}with gy:=((Int.tmod (IntKind.i64.wrap (v1+1)) 3)==0)}with fAct.ah:=(IntKind.i64.wrap ((IntKind.i64.wrap (v1+1))+1))}).set (v2).toNat {{{{y4 with ga:=v1}with gy:=((Int.tmod (IntKind.i64.wrap (v1+1)) 3)==0)}with fAct.ah:=(IntKind.i64.wrap ((IntKind.i64.wrap (v1+1))+1))}with fAct.cu.ay:=v5.2}).set (v2).toNat {{{{{y4 with ga:=v1}with gy:=((Int.tmod (IntKind.i64.wrap (v1+1)) 3)==0)}with fAct.ah:=(IntKind.i64.wrap ((IntKind.i64.wrap (v1+1))+1))}with fAct.cu.ay:=v5.2}with fAct.c9.ay:=v6.2}).set (v2).toNat {{{{{{y4 with ga:=v1}with gy:=((Int.tmod (IntKind.i64.wrap (v1+1)) 3)==0)}with fAct.ah:=(IntKind.i64.wrap ((IntKind.i64.wrap (v1+1))+1))}with fAct.cu.ay:=v5.2}with fAct.c9.ay:=v6.2}with fRow.ay:=v7.2})))
 else
  some (.inr (some (v1,v3)))
def vE(a0:List Db)(a1:Int):Option (Int × List Db):=
 Ao (λs:Int × Int × List Db=>R6 s.1 s.2.1 s.2.2) (a1,0,a0)
def Sn(v1 v2:Int)(v3:List DB):Option ((Int × Int × List DB) ⊕ Option (Int × List DB)):=
 if(decide (v2<(v3.length:Int)))then
  (Ak v3 v2).bind λy4=>
  some (.inl ((IntKind.i64.wrap (v1+1)),(IntKind.i64.wrap (v2+1)),(v3.set (v2).toNat {y4 with gn:=v1})))
 else
  some (.inr (some (v1,v3)))
def wX(a0:List DB)(a1:Int):Option (Int × List DB):=
 Ao (λs:Int × Int × List DB=>Sn s.1 s.2.1 s.2.2) (a1,0,a0)
def Ss(v1 v2:Int)(v3:List Ah):Option ((Int × Int × List Ah) ⊕ Option (Int × List Ah)):=
 if(decide (v2<(v3.length:Int)))then
  (Ht v1).bind λv4=>
  (Ak v3 v2).bind λy5=>
  (Ht (IntKind.i64.wrap (v1+1))).bind λv6=>
  some (.inl ((IntKind.i64.wrap ((IntKind.i64.wrap ((IntKind.i64.wrap (v1+1))+1))+1)),(IntKind.i64.wrap (v2+1)),(((v3.set (v2).toNat {y5 with ab:=v4}).set (v2).toNat {{y5 with ab:=v4}with aw:=v6}).set (v2).toNat {{{y5 with ab:=v4}with aw:=v6}with bm:=((Int.tmod (IntKind.i64.wrap ((IntKind.i64.wrap (v1+1))+1)) 3)==0)})))
 else
  some (.inr (some (v1,v3)))
def wO(a0:List Ah)(a1:Int):Option (Int × List Ah):=
 Ao (λs:Int × Int × List Ah=>Ss s.1 s.2.1 s.2.2) (a1,0,a0)
def Sr(v1 v2:Int)(v3:List B8):Option ((Int × Int × List B8) ⊕ Option (Int × List B8)):=
 if(decide (v2<(v3.length:Int)))then
  (Ak v3 v2).bind λy4=>
  (LW ({{{{{y4 with cd:=v1}with fRec.ah:=(IntKind.i64.wrap (v1+1))}with fRec.bd:=(IntKind.i64.wrap ((IntKind.i64.wrap (v1+1))+1))}with fRec.ak:=(IntKind.i64.wrap ((IntKind.i64.wrap ((IntKind.i64.wrap (v1+1))+1))+1))}with fRec.bu:=(IntKind.i64.wrap ((IntKind.i64.wrap ((IntKind.i64.wrap ((IntKind.i64.wrap (v1+1))+1))+1))+1))}.fRec.bc) (IntKind.i64.wrap ((IntKind.i64.wrap ((IntKind.i64.wrap ((IntKind.i64.wrap ((IntKind.i64.wrap (v1+1))+1))+1))+1))+1))).bind λv5=>
  (wO ({{{{{{y4 with cd:=v1}with fRec.ah:=(IntKind.i64.wrap (v1+1))}with fRec.bd:=(IntKind.i64.wrap ((IntKind.i64.wrap (v1+1))+1))}with fRec.ak:=(IntKind.i64.wrap ((IntKind.i64.wrap ((IntKind.i64.wrap (v1+1))+1))+1))}with fRec.bu:=(IntKind.i64.wrap ((IntKind.i64.wrap ((IntKind.i64.wrap ((IntKind.i64.wrap (v1+1))+1))+1))+1))}with fRec.bc:=v5.2}.fRec.af) v5.1).bind λv6=>
  some (.inl ((IntKind.i64.wrap (v6.1+1)),(IntKind.i64.wrap (v2+1)),((((((((v3.set (v2).toNat {y4 with cd:=v1}).set (v2).toNat {{y4 with cd:=v1}with fRec.ah:=(IntKind.i64.wrap (v1+1))}).set (v2).toNat {{{y4 with cd:=v1}with fRec.ah:=(IntKind.i64.wrap (v1+1))}with fRec.bd:=(IntKind.i64.wrap ((IntKind.i64.wrap (v1+1))+1))}).set (v2).toNat {{{{y4 with cd:=v1}with fRec.ah:=(IntKind.i64.wrap (v1+1))}with fRec.bd:=(IntKind.i64.wrap ((IntKind.i64.wrap (v1+1))+1))}with fRec.ak:=(IntKind.i64.wrap ((IntKind.i64.wrap ((IntKind.i64.wrap (v1+1))+1))+1))}).set (v2).toNat {{{{{y4 with cd:=v1}with fRec.ah:=(IntKind.i64.wrap (v1+1))}with fRec.bd:=(IntKind.i64.wrap ((IntKind.i64.wrap (v1+1))+1))}with fRec.ak:=(IntKind.i64.wrap ((IntKind.i64.wrap ((IntKind.i64.wrap (v1+1))+1))+1))}with fRec.bu:=(IntKind.i64.wrap ((IntKind.i64.wrap ((IntKind.i64.wrap ((IntKind.i64.wrap (v1+1))+1))+1))+1))}).set (v2).toNat {{{{{{y4 with cd:=v1}with fRec.ah:=(IntKind.i64.wrap (v1+1))}with fRec.bd:=(IntKind.i64.wrap ((IntKind.i64.wrap (v1+1))+1))}with fRec.ak:=(IntKind.i64.wrap ((IntKind.i64.wrap ((IntKind.i64.wrap (v1+1))+1))+1))}with fRec.bu:=(IntKind.i64.wrap ((IntKind.i64.wrap ((IntKind.i64.wrap ((IntKind.i64.wrap (v1+1))+1))+1))+1))}with fRec.bc:=v5.2}).set (v2).toNat {{{{{{{y4 with cd:=v1}with fRec.ah:=(IntKind.i64.wrap (v1+1))}with fRec.bd:=(IntKind.i64.wrap ((IntKind.i64.wrap (v1+1))+1))}with fRec.ak:=(IntKind.i64.wrap ((IntKind.i64.wrap ((IntKind.i64.wrap (v1+1))+1))+1))}with fRec.bu:=(IntKind.i64.wrap ((IntKind.i64.wrap ((IntKind.i64.wrap ((IntKind.i64.wrap (v1+1))+1))+1))+1))}with fRec.bc:=v5.2}with fRec.af:=v6.2}).set (v2).toNat {{{{{{{{y4 with cd:=v1}with fRec.ah:=(IntKind.i64.wrap (v1+1))}with fRec.bd:=(IntKind.i64.wrap ((IntKind.i64.wrap (v1+1))+1))}with fRec.ak:=(IntKind.i64.wrap ((IntKind.i64.wrap ((IntKind.i64.wrap (v1+1))+1))+1))}with fRec.bu:=(IntKind.i64.wrap ((IntKind.i64.wrap ((IntKind.i64.wrap ((IntKind.i64.wrap (v1+1))+1))+1))+1))}with fRec.bc:=v5.2}with fRec.af:=v6.2}with fRec.dj:=((Int.tmod v6.1 3)==0)})))
 else
  some (.inr (some (v1,v3)))
def wQ(a0:List B8)(a1:Int):Option (Int × List B8):=
 Ao (λs:Int × Int × List B8=>Sr s.1 s.2.1 s.2.2) (a1,0,a0)
def R4(v1 v2:Int)(v3:List Cu):Option ((Int × Int × List Cu) ⊕ Option (Int × List Cu)):=
 if(decide (v2<(v3.length:Int)))then
  (Ak v3 v2).bind λy4=>
  (wQ ({y4 with ju:=((Int.tmod v1 3)==0)}.cr) (IntKind.i64.wrap (v1+1))).bind λv5=>
  some (.inl ((IntKind.i64.wrap (v5.1+1)),(IntKind.i64.wrap (v2+1)),(((v3.set (v2).toNat {y4 with ju:=((Int.tmod v1 3)==0)}).set (v2).toNat {{y4 with ju:=((Int.tmod v1 3)==0)}with cr:=v5.2}).set (v2).toNat {{{y4 with ju:=((Int.tmod v1 3)==0)}with cr:=v5.2}with cw:=v5.1})))
 else
  some (.inr (some (v1,v3)))
def zip(a0:List Cu)(a1:Int):Option (Int × List Cu):=
 Ao (λs:Int × Int × List Cu=>R4 s.1 s.2.1 s.2.2) (a1,0,a0)
def Sv(v1 v2:Int)(v3:List BZ):Option ((Int × Int × List BZ) ⊕ Option (Int × List BZ)):=
 if(decide (v2<(v3.length:Int)))then
  (Ak v3 v2).bind λy4=>
  (zip y4.ar v1).bind λv5=>
  some (.inl ((IntKind.i64.wrap ((IntKind.i64.wrap (v5.1+1))+1)),(IntKind.i64.wrap (v2+1)),(((v3.set (v2).toNat {y4 with ar:=v5.2}).set (v2).toNat {{y4 with ar:=v5.2}with cd:=v5.1}).set (v2).toNat {{{y4 with ar:=v5.2}with cd:=v5.1}with bu:=(IntKind.i64.wrap (v5.1+1))})))
 else
  some (.inr (some (v1,v3)))
def wK(a0:List BZ)(a1:Int):Option (Int × List BZ):=
 Ao (λs:Int × Int × List BZ=>Sv s.1 s.2.1 s.2.2) (a1,0,a0)
def Sl(v1 v2:Int)(v3:List Bh):Option ((Int × Int × List Bh) ⊕ Option (Int × List Bh)):=
 if(decide (v2<(v3.length:Int)))then
  (Ht v1).bind λv4=>
  (Ak v3 v2).bind λy5=>
  some (.inl ((IntKind.i64.wrap ((IntKind.i64.wrap ((IntKind.i64.wrap (v1+1))+1))+1)),(IntKind.i64.wrap (v2+1)),(((v3.set (v2).toNat {y5 with ab:=v4}).set (v2).toNat {{y5 with ab:=v4}with bd:=(IntKind.i64.wrap (v1+1))}).set (v2).toNat {{{y5 with ab:=v4}with bd:=(IntKind.i64.wrap (v1+1))}with ei:=((Int.tmod (IntKind.i64.wrap ((IntKind.i64.wrap (v1+1))+1)) 3)==0)})))
 else
  some (.inr (some (v1,v3)))
def xP(a0:List Bh)(a1:Int):Option (Int × List Bh):=
 Ao (λs:Int × Int × List Bh=>Sl s.1 s.2.1 s.2.2) (a1,0,a0)
def Su(v1 v2:Int)(v3:List (List Bh)):Option ((Int × Int × List (List Bh)) ⊕ Option (Int × List (List Bh))):=
 if(decide (v2<(v3.length:Int)))then
  (Ak v3 v2).bind λy4=>
  (xP y4 v1).bind λv5=>
  some (.inl (v5.1,(IntKind.i64.wrap (v2+1)),(v3.set (v2).toNat v5.2)))
 else
  some (.inr (some (v1,v3)))
def wC(a0:List (List Bh))(a1:Int):Option (Int × List (List Bh)):=
 Ao (λs:Int × Int × List (List Bh)=>Su s.1 s.2.1 s.2.2) (a1,0,a0)
def SP(v1 v2:Int)(v3:List AK):Option ((Int × Int × List AK) ⊕ Option (Int × List AK)):=
 if(decide (v2<(v3.length:Int)))then
  (Ak v3 v2).bind λy4=>
  (Ht (IntKind.i64.wrap (v1+1))).bind λv5=>
  (Ht (IntKind.i64.wrap ((IntKind.i64.wrap (v1+1))+1))).bind λv6=>
  some (.inl ((IntKind.i64.wrap ((IntKind.i64.wrap ((IntKind.i64.wrap ((IntKind.i64.wrap (v1+1))+1))+1))+1)),(IntKind.i64.wrap (v2+1)),((((v3.set (v2).toNat {y4 with ah:=v1}).set (v2).toNat {{y4 with ah:=v1}with ab:=v5}).set (v2).toNat {{{y4 with ah:=v1}with ab:=v5}with aw:=v6}).set (v2).toNat {{{{y4 with ah:=v1}with ab:=v5}with aw:=v6}with ic:=(IntKind.i64.wrap ((IntKind.i64.wrap ((IntKind.i64.wrap (v1+1))+1))+1))})))
 else
  some (.inr (some (v1,v3)))
def zP(a0:List AK)(a1:Int):Option (Int × List AK):=
 Ao (λs:Int × Int × List AK=>SP s.1 s.2.1 s.2.2) (a1,0,a0)
def S2(v1 v2:Int)(v3:List Cd):Option ((Int × Int × List Cd) ⊕ Option (Int × List Cd)):=
 if(decide (v2<(v3.length:Int)))then
  (Ht v1).bind λv4=>
  (Ak v3 v2).bind λy5=>
  (Ht (IntKind.i64.wrap (v1+1))).bind λv6=>
  some (.inl ((IntKind.i64.wrap ((IntKind.i64.wrap ((IntKind.i64.wrap (v1+1))+1))+1)),(IntKind.i64.wrap (v2+1)),(((v3.set (v2).toNat {y5 with ab:=v4}).set (v2).toNat {{y5 with ab:=v4}with aw:=v6}).set (v2).toNat {{{y5 with ab:=v4}with aw:=v6}with dz:=((Int.tmod (IntKind.i64.wrap ((IntKind.i64.wrap (v1+1))+1)) 3)==0)})))
 else
  some (.inr (some (v1,v3)))
def eH(a0:List Cd)(a1:Int):Option (Int × List Cd):=
 Ao (λs:Int × Int × List Cd=>S2 s.1 s.2.1 s.2.2) (a1,0,a0)
def Se(v1 v2:Int)(v3:List CU):Option ((Int × Int × List CU) ⊕ Option (Int × List CU)):=
 if(decide (v2<(v3.length:Int)))then
  (Ak v3 v2).bind λy4=>
  (zP y4.ef v1).bind λv5=>
  (eH ({y4 with ef:=v5.2}.cm) v5.1).bind λv6=>
  (Xn ({{y4 with ef:=v5.2}with cm:=v6.2}.c6) v6.1).bind λv7=>
  some (.inl ((IntKind.i64.wrap ((IntKind.i64.wrap ((IntKind.i64.wrap ((IntKind.i64.wrap ((IntKind.i64.wrap ((IntKind.i64.wrap ((IntKind.i64.wrap (v7.1+1))+1))+1))+1))+1))+1))+1)),(IntKind.i64.wrap (v2+1)),((((((((((v3.set (v2).toNat {y4 with ef:=v5.2}).set (v2).toNat {{y4 with ef:=v5.2}with cm:=v6.2}).set (v2).toNat {{{y4 with ef:=v5.2}with cm:=v6.2}with c6:=v7.2}).set (v2).toNat {{{{y4 with ef:=v5.2}with cm:=v6.2}with c6:=v7.2}with di:=v7.1}).set (v2).toNat {{{{{y4 with ef:=v5.2}with cm:=v6.2}with c6:=v7.2}with di:=v7.1}with fw:=(IntKind.i64.wrap (v7.1+1))}).set (v2).toNat {{{{{{y4 with ef:=v5.2}with cm:=v6.2}with c6:=v7.2}with di:=v7.1}with fw:=(IntKind.i64.wrap (v7.1+1))}with dj:=((Int.tmod (IntKind.i64.wrap ((IntKind.i64.wrap (v7.1+1))+1)) 3)==0)}).set (v2).toNat {{{{{{{y4 with ef:=v5.2}with cm:=v6.2}with c6:=v7.2}with di:=v7.1}with fw:=(IntKind.i64.wrap (v7.1+1))}with dj:=((Int.tmod (IntKind.i64.wrap ((IntKind.i64.wrap (v7.1+1))+1)) 3)==0)}with ak:=(IntKind.i64.wrap ((IntKind.i64.wrap ((IntKind.i64.wrap (v7.1+1))+1))+1))}).set (v2).toNat {{{{{{{{y4 with ef:=v5.2}with cm:=v6.2}with c6:=v7.2}with di:=v7.1}with fw:=(IntKind.i64.wrap (v7.1+1))}with dj:=((Int.tmod (IntKind.i64.wrap ((IntKind.i64.wrap (v7.1+1))+1)) 3)==0)}with ak:=(IntKind.i64.wrap ((IntKind.i64.wrap ((IntKind.i64.wrap (v7.1+1))+1))+1))}with je:=((Int.tmod (IntKind.i64.wrap ((IntKind.i64.wrap ((IntKind.i64.wrap ((IntKind.i64.wrap (v7.1+1))+1))+1))+1)) 3)==0)}).set (v2).toNat {{{{{{{{{y4 with ef:=v5.2}with cm:=v6.2}with c6:=v7.2}with di:=v7.1}with fw:=(IntKind.i64.wrap (v7.1+1))}with dj:=((Int.tmod (IntKind.i64.wrap ((IntKind.i64.wrap (v7.1+1))+1)) 3)==0)}with ak:=(IntKind.i64.wrap ((IntKind.i64.wrap ((IntKind.i64.wrap (v7.1+1))+1))+1))}with je:=((Int.tmod (IntKind.i64.wrap ((IntKind.i64.wrap ((IntKind.i64.wrap ((IntKind.i64.wrap (v7.1+1))+1))+1))+1)) 3)==0)}with ky:=((Int.tmod (IntKind.i64.wrap ((IntKind.i64.wrap ((IntKind.i64.wrap ((IntKind.i64.wrap ((IntKind.i64.wrap (v7.1+1))+1))+1))+1))+1)) 3)==0)}).set (v2).toNat {{{{{{{{{{y4 with ef:=v5.2}with cm:=v6.2}with c6:=v7.2}with di:=v7.1}with fw:=(IntKind.i64.wrap (v7.1+1))}with dj:=((Int.tmod (IntKind.i64.wrap ((IntKind.i64.wrap (v7.1+1))+1)) 3)==0)}with ak:=(IntKind.i64.wrap ((IntKind.i64.wrap ((IntKind.i64.wrap (v7.1+1))+1))+1))}with je:=((Int.tmod (IntKind.i64.wrap ((IntKind.i64.wrap ((IntKind.i64.wrap ((IntKind.i64.wrap (v7.1+1))+1))+1))+1)) 3)==0)}with ky:=((Int.tmod (IntKind.i64.wrap ((IntKind.i64.wrap ((IntKind.i64.wrap ((IntKind.i64.wrap ((IntKind.i64.wrap (v7.1+1))+1))+1))+1))+1)) 3)==0)}with gb:=((Int.tmod (IntKind.i64.wrap ((IntKind.i64.wrap ((IntKind.i64.wrap ((IntKind.i64.wrap ((IntKind.i64.wrap ((IntKind.i64.wrap (v7.1+1))+1))+1))+1))+1))+1)) 3)==0)})))
 else
  some (.inr (some (v1,v3)))
def uL(a0:List CU)(a1:Int):Option (Int × List CU):=
 Ao (λs:Int × Int × List CU=>Se s.1 s.2.1 s.2.2) (a1,0,a0)
def R9(v1 v2:Int)(v3:List Cw):Option ((Int × Int × List Cw) ⊕ Option (Int × List Cw)):=
 if(decide (v2<(v3.length:Int)))then
  (Ak v3 v2).bind λy4=>
  (LW ({y4 with ff:=v1}.ch) (IntKind.i64.wrap (v1+1))).bind λv5=>
  (eH ({{y4 with ff:=v1}with ch:=v5.2}.cm) v5.1).bind λv6=>
  some (.inl ((IntKind.i64.wrap ((IntKind.i64.wrap ((IntKind.i64.wrap (v6.1+1))+1))+1)),(IntKind.i64.wrap (v2+1)),((((((v3.set (v2).toNat {y4 with ff:=v1}).set (v2).toNat {{y4 with ff:=v1}with ch:=v5.2}).set (v2).toNat {{{y4 with ff:=v1}with ch:=v5.2}with cm:=v6.2}).set (v2).toNat {{{{y4 with ff:=v1}with ch:=v5.2}with cm:=v6.2}with ak:=v6.1}).set (v2).toNat {{{{{y4 with ff:=v1}with ch:=v5.2}with cm:=v6.2}with ak:=v6.1}with di:=(IntKind.i64.wrap (v6.1+1))}).set (v2).toNat {{{{{{y4 with ff:=v1}with ch:=v5.2}with cm:=v6.2}with ak:=v6.1}with di:=(IntKind.i64.wrap (v6.1+1))}with fw:=(IntKind.i64.wrap ((IntKind.i64.wrap (v6.1+1))+1))})))
 else
  some (.inr (some (v1,v3)))
def uE(a0:List Cw)(a1:Int):Option (Int × List Cw):=
 Ao (λs:Int × Int × List Cw=>R9 s.1 s.2.1 s.2.2) (a1,0,a0)
def dM(a0:BG)(a1:Int):Option (Int × BG):=
 (wX a0.bh a1).bind λv1=>
 (LW a0.br v1.1).bind λv2=>
 (wK a0.az v2.1).bind λv3=>
 (wC a0.cj v3.1).bind λv4=>
 (Xn a0.bj v4.1).bind λv5=>
 (uL a0.cf v5.1).bind λv6=>
 (uE a0.cc v6.1).bind λv7=>
 some (v7.1,(⟨a0.gq,a0.cy,v1.2,v2.2,v3.2,v4.2,v5.2,v6.2,v7.2⟩:BG))
def dI(a0:CW)(a1:Int):Option (Int × CW):=
 (wH a0.cz a1).bind λv1=>
 (Xn a0.bq v1.1).bind λv2=>
 (vE a0.cq v2.1).bind λv3=>
 (dM a0.aq v3.1).bind λv4=>
 some (v4.1,(⟨a0.ae,v1.2,a0.gi,v2.2,v3.2,(⟨a0.aq.gq,a0.aq.cy,v4.2.bh,v4.2.br,v4.2.az,v4.2.cj,v4.2.bj,v4.2.cf,v4.2.cc⟩:BG)⟩:CW))
def S1(v1 v2:Int)(v3:List A4):Option ((Int × Int × List A4) ⊕ Option (Int × List A4)):=
 if(decide (v2<(v3.length:Int)))then
  (Ak v3 v2).bind λy4=>
  (LW y4.ay v1).bind λv5=>
  some (.inl (v5.1,(IntKind.i64.wrap (v2+1)),(v3.set (v2).toNat {y4 with ay:=v5.2})))
 else
  some (.inr (some (v1,v3)))
def yL(a0:List A4)(a1:Int):Option (Int × List A4):=
 Ao (λs:Int × Int × List A4=>S1 s.1 s.2.1 s.2.2) (a1,0,a0)
def SB(a0:List (Ab))(v1 v2:Int):Option ((Int × Int) ⊕ Option (Int)):=
 if(decide (v2<(a0.length:Int)))then
  (Ak a0 v2).bind λy3=>
  (Ht v1).bind λv4=>
  if(y3 !=v4)then
   some (.inr (some (-1)))
  else
   some (.inl ((IntKind.i64.wrap (v1+1)),(IntKind.i64.wrap (v2+1))))
 else
  some (.inr (some v1))
def uX(a0:List (Ab))(a1:Int):Option (Int):=
 Ao (λs:Int × Int=>SB a0 s.1 s.2) (a1,0)
def S4(a0:List A4)(v1 v2:Int):Option ((Int × Int) ⊕ Option (Int)):=
 if(decide (v2<(a0.length:Int)))then
  (Ak a0 v2).bind λy3=>
  (uX y3.ay v1).bind λv4=>
  if(decide (v4<0))then
   some (.inr (some (-1)))
  else
   some (.inl (v4,(IntKind.i64.wrap (v2+1))))
 else
  some (.inr (some v1))
def eO(a0:List A4)(a1:Int):Option (Int):=
 Ao (λs:Int × Int=>S4 a0 s.1 s.2) (a1,0)
def bJ(a0:CW)(a1:Int):Option (Bool):=
 (gP a0 1048576).bind λv1=>
 if(decide (v1<0))then
  some true
 else
  (QM a0).bind λv2=>
  (eD v2 a1).bind λv3=>
  (QM a0).bind λv4=>
  (XK v4 a1).bind λv5=>
  (XN v5.1 v3.1).bind λv6=>
  if((!v6)||(v5.2 !=v3.2))then
   some false
  else
   (QM a0).bind λv7=>
   (iD v4 v7).bind λv8=>
   if(!v8)then
    some false
   else
    (dI v4 1).bind λv9=>
    if(decide (v9.1<0))then
     some false
    else
     (XN v5.1 v3.1).bind λv10=>
     if((!v10)||(v5.2 !=v3.2))then
      some false
     else
      (yL v5.1 1).bind λv11=>
      (eO v11.2 1).bind λv12=>
      if(decide (v12<0))then
       some false
      else
       if(v12 !=v11.1)then
        some false
       else
        (QM a0).bind λv13=>
        (XK v13 a1).bind λv14=>
        (XN v14.1 v3.1).bind λv15=>
        if((!v15)||(v14.2 !=v3.2))then
         some false
        else
         (eO v11.2 1).bind λv16=>
         if(decide (v16<0))then
          some false
         else
          if(v16 !=v11.1)then
           some false
          else
           some true
end
end Go.Proofs.YtlmjpjceiefpoaaGreatDoor
