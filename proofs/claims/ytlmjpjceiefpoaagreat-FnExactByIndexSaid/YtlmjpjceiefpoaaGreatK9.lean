/- Parts of a proof, joined: QM. -/
import Derived.Test.YtlmjpjceiefpoaaGreatK8
set_option linter.unusedVariables false
set_option linter.unusedSimpArgs false
namespace Go.Proofs.YtlmjpjceiefpoaaGreat
open Go.RowKit
noncomputable section
set_option maxRecDepth 100000
abbrev Ab:=List UInt8
def Sp(a0:List (Ab))(v1 v2:Int):Option ((Int × Int) ⊕ Option (Int)):=
 if(decide (v2<(a0.length:Int)))then
  (Ak a0 v2).bind λy3=>
  if(decide ((IntKind.i64.wrap (v1-(y3.length:Int)))<0))then
   some (.inr (some (-1)))
  else
   some (.inl ((IntKind.i64.wrap (v1-(y3.length:Int))),(IntKind.i64.wrap (v2+1))))
 else
  some (.inr (some v1))
def ON(a0:List (Ab))(a1:Int):Option (Int):=
 if(decide ((IntKind.i64.wrap (a1-(a0.length:Int)))<0))then
  some (-1)
 else
  Ao (λs:Int × Int=>Sp a0 s.1 s.2) ((IntKind.i64.wrap (a1-(a0.length:Int))),0)
def jX(a0:A5)(a1:Int):Option (Int):=
 if(decide ((IntKind.i64.wrap (a1-(a0.ae.length:Int)))<0))then
  some (-1)
 else
  some (IntKind.i64.wrap (a1-(a0.ae.length:Int)))
def zpf(a0:List A5)(a1:Int):Option (Int):=It jX a0 a1
def gG(a0:An)(a1:Int):Option (Int):=
 if(decide ((IntKind.i64.wrap (a1-(a0.ae.length:Int)))<0))then
  some (-1)
 else
  (ON a0.bd (IntKind.i64.wrap (a1-(a0.ae.length:Int)))).bind λv1=>
  if(decide (v1<0))then
   some (-1)
  else
   (zpf a0.aj v1).bind λv2=>
   if(decide (v2<0))then
    some (-1)
   else
    some v2
def yU(a0:List An)(a1:Int):Option (Int):=It gG a0 a1
def TX(a0:List Int)(a1:Int):Option (Int):=
 if(decide ((IntKind.i64.wrap (a1-(a0.length:Int)))<0))then
  some (-1)
 else
  some (IntKind.i64.wrap (a1-(a0.length:Int)))
def T5(a0:CD)(a1:Int):Option (Int):=
 (ON a0.bb a1).bind λv1=>
 if(decide (v1<0))then
  some (-1)
 else
  some v1
def fI(a0:Cu)(a1:Int):Option (Int):=
 (T5 a0.cw a1).bind λv1=>
 if(decide (v1<0))then
  some (-1)
 else
  (T5 a0.c9 v1).bind λv2=>
  if(decide (v2<0))then
   some (-1)
  else
   some v2
def eG(a0:Dc)(a1:Int):Option (Int):=
 (fI a0.fAct a1).bind λv1=>
 if(decide (v1<0))then
  some (-1)
 else
  (T5 a0.fRow v1).bind λv2=>
  if(decide (v2<0))then
   some (-1)
  else
   some v2
def xG(a0:List Dc)(a1:Int):Option (Int):=It eG a0 a1
def fE(a0:List DG)(a1:Int):Option (Int):=
 if(decide ((IntKind.i64.wrap (a1-(a0.length:Int)))<0))then
  some (-1)
 else
  some (IntKind.i64.wrap (a1-(a0.length:Int)))
def hP(a0:Ai)(a1:Int):Option (Int):=
 if(decide ((IntKind.i64.wrap (a1-(a0.ab.length:Int)))<0))then
  some (-1)
 else
  if(decide ((IntKind.i64.wrap ((IntKind.i64.wrap (a1-(a0.ab.length:Int)))-(a0.bf.length:Int)))<0))then
   some (-1)
  else
   some (IntKind.i64.wrap ((IntKind.i64.wrap (a1-(a0.ab.length:Int)))-(a0.bf.length:Int)))
def zQ(a0:List Ai)(a1:Int):Option (Int):=It hP a0 a1
def jN(a0:BG)(a1:Int):Option (Int):=
 (ON a0.az a1).bind λv1=>
 if(decide (v1<0))then
  some (-1)
 else
  (zQ a0.af v1).bind λv2=>
  if(decide (v2<0))then
   some (-1)
  else
   some v2
def gF(a0:Cb)(a1:Int):Option (Int):=
 (jN a0.fRec a1).bind λv1=>
 if(decide (v1<0))then
  some (-1)
 else
  some v1
def zI(a0:List Cb)(a1:Int):Option (Int):=It gF a0 a1
def eX(a0:Ct)(a1:Int):Option (Int):=
 (zI a0.ct a1).bind λv1=>
 if(decide (v1<0))then
  some (-1)
 else
  some v1
def xR(a0:List Ct)(a1:Int):Option (Int):=It eX a0 a1
def iA(a0:BZ)(a1:Int):Option (Int):=
 (xR a0.ar a1).bind λv1=>
 if(decide (v1<0))then
  some (-1)
 else
  some v1
def zR(a0:List BZ)(a1:Int):Option (Int):=It iA a0 a1
def iX(a0:Bh)(a1:Int):Option (Int):=
 if(decide ((IntKind.i64.wrap (a1-(a0.ab.length:Int)))<0))then
  some (-1)
 else
  some (IntKind.i64.wrap (a1-(a0.ab.length:Int)))
def zom(a0:List Bh)(a1:Int):Option (Int):=It iX a0 a1
def zG(a0:List (List Bh))(a1:Int):Option (Int):=It zom a0 a1
def kK(a0:AL)(a1:Int):Option (Int):=
 if(decide ((IntKind.i64.wrap (a1-(a0.ab.length:Int)))<0))then
  some (-1)
 else
  if(decide ((IntKind.i64.wrap ((IntKind.i64.wrap (a1-(a0.ab.length:Int)))-(a0.bf.length:Int)))<0))then
   some (-1)
  else
   some (IntKind.i64.wrap ((IntKind.i64.wrap (a1-(a0.ab.length:Int)))-(a0.bf.length:Int)))
def zqE(a0:List AL)(a1:Int):Option (Int):=It kK a0 a1
def jU(a0:Ce)(a1:Int):Option (Int):=
 if(decide ((IntKind.i64.wrap (a1-(a0.ab.length:Int)))<0))then
  some (-1)
 else
  if(decide ((IntKind.i64.wrap ((IntKind.i64.wrap (a1-(a0.ab.length:Int)))-(a0.bf.length:Int)))<0))then
   some (-1)
  else
   some (IntKind.i64.wrap ((IntKind.i64.wrap (a1-(a0.ab.length:Int)))-(a0.bf.length:Int)))
def jD(a0:List Ce)(a1:Int):Option (Int):=It jU a0 a1
def dY(a0:CV)(a1:Int):Option (Int):=
 (zqE a0.ef a1).bind λv1=>
 if(decide (v1<0))then
  some (-1)
 else
  (jD a0.cm v1).bind λv2=>
  if(decide (v2<0))then
   some (-1)
  else
   (TX a0.c6 v2).bind λv3=>
   if(decide (v3<0))then
    some (-1)
   else
    some v3
def wP(a0:List CV)(a1:Int):Option (Int):=It dY a0 a1
def dE(a0:Cw)(a1:Int):Option (Int):=
 (ON a0.ch a1).bind λv1=>
 if(decide (v1<0))then
  some (-1)
 else
  (jD a0.cm v1).bind λv2=>
  if(decide (v2<0))then
   some (-1)
  else
   some v2
def wF(a0:List Cw)(a1:Int):Option (Int):=It dE a0 a1
def gU(a0:BA)(a1:Int):Option (Int):=
 (fE a0.bj a1).bind λv1=>
 if(decide (v1<0))then
  some (-1)
 else
  (ON a0.bq v1).bind λv2=>
  if(decide (v2<0))then
   some (-1)
  else
   (zR a0.aw v2).bind λv3=>
   if(decide (v3<0))then
    some (-1)
   else
    (zG a0.cj v3).bind λv4=>
    if(decide (v4<0))then
     some (-1)
    else
     (TX a0.bm v4).bind λv5=>
     if(decide (v5<0))then
      some (-1)
     else
      (wP a0.cf v5).bind λv6=>
      if(decide (v6<0))then
       some (-1)
      else
       (wF a0.cc v6).bind λv7=>
       if(decide (v7<0))then
        some (-1)
       else
        some v7
def iR(a0:CI)(a1:Int):Option (Int):=
 if(decide ((IntKind.i64.wrap (a1-(a0.ae.length:Int)))<0))then
  some (-1)
 else
  (yU a0.cq (IntKind.i64.wrap (a1-(a0.ae.length:Int)))).bind λv1=>
  if(decide (v1<0))then
   some (-1)
  else
   (TX a0.bg v1).bind λv2=>
   if(decide (v2<0))then
    some (-1)
   else
    (xG a0.cr v2).bind λv3=>
    if(decide (v3<0))then
     some (-1)
    else
     (gU a0.ao v3).bind λv4=>
     if(decide (v4<0))then
      some (-1)
     else
      some v4
def XC(a0:List (Ab))(v1:Int)(v2:List (Ab)):Option ((Int × List (Ab)) ⊕ Option (List (Ab))):=
 if(decide (v1<(a0.length:Int)))then
  (Ak a0 v1).bind λy3=>
  (Ak v2 v1).bind λy4=>
  some (.inl ((IntKind.i64.wrap (v1+1)),(v2.set (v1).toNat y3)))
 else
  some (.inr (some v2))
def OP(a0:List (Ab)):Option (List (Ab)):=
 Ax (0<=(a0.length:Int)/\(a0.length:Int)*16<=140737488355328/\(a0.length:Int)<=140737488355328)<|
 Ao (λs:Int × List (Ab)=>XC a0 s.1 s.2) (0,(List.replicate ((a0.length:Int)).toNat ([]:Ab)))
def zqk(a0:A5):Option (A5):=
 some a0
def zpg(a0:List A5):Option (List A5):=toL zqk (⟨([]:Ab),0,0⟩:A5) 32 a0
def gW(a0:An):Option (An):=
 (OP a0.bd).bind λv1=>
 (zpg a0.aj).bind λv2=>
 some (⟨a0.ae,v1,v2⟩:An)
def zV(a0:List An):Option (List An):=toL gW (⟨([]:Ab),[],[]⟩:An) 64 a0
def XR(a0:List Int)(v1:Int)(v2:List Int):Option ((Int × List Int) ⊕ Option (List Int)):=
 if(decide (v1<(a0.length:Int)))then
  (Ak a0 v1).bind λy3=>
  (Ak v2 v1).bind λy4=>
  some (.inl ((IntKind.i64.wrap (v1+1)),(v2.set (v1).toNat y3)))
 else
  some (.inr (some v2))
def T0(a0:List Int):Option (List Int):=
 Ax (0<=(a0.length:Int)/\(a0.length:Int)*8<=140737488355328/\(a0.length:Int)<=140737488355328)<|
 Ao (λs:Int × List Int=>XR a0 s.1 s.2) (0,(List.replicate ((a0.length:Int)).toNat 0))
def T1(a0:CD):Option (CD):=
 (OP a0.bb).bind λv1=>
 some (⟨v1⟩:CD)
def fK(a0:Cu):Option (Cu):=
 (T1 a0.cw).bind λv1=>
 (T1 a0.c9).bind λv2=>
 some (⟨a0.ah,v1,v2⟩:Cu)
def eJ(a0:Dc):Option (Dc):=
 (fK a0.fAct).bind λv1=>
 (T1 a0.fRow).bind λv2=>
 some (⟨a0.gh,a0.gz,v1,v2⟩:Dc)
def xM(a0:List Dc):Option (List Dc):=toL eJ (⟨0,false,(⟨0,(⟨[]⟩:CD),(⟨[]⟩:CD)⟩:Cu),(⟨[]⟩:CD)⟩:Dc) 96 a0
def z6(a0:DG):Option (DG):=
 some a0
def zM(a0:List DG):Option (List DG):=toL z6 (⟨0⟩:DG) 8 a0
def zos(a0:Ai):Option (Ai):=
 some a0
def zT(a0:List Ai):Option (List Ai):=toL zos (⟨([]:Ab),([]:Ab),false⟩:Ai) 40 a0
def kC(a0:BG):Option (BG):=
 (OP a0.az).bind λv1=>
 (zT a0.af).bind λv2=>
 some (⟨a0.ah,a0.bc,a0.ak,a0.br,v1,v2,a0.dj⟩:BG)
def iF(a0:Cb):Option (Cb):=
 (kC a0.fRec).bind λv1=>
 some (⟨a0.cd,v1⟩:Cb)
def yT(a0:List Cb):Option (List Cb):=toL iF (⟨0,(⟨0,0,0,0,[],[],false⟩:BG)⟩:Cb) 96 a0
def eR(a0:Ct):Option (Ct):=
 (yT a0.ct).bind λv1=>
 some (⟨a0.ju,v1,a0.cx⟩:Ct)
def w8(a0:List Ct):Option (List Ct):=toL eR (⟨false,[],0⟩:Ct) 40 a0
def gH(a0:BZ):Option (BZ):=
 (w8 a0.ar).bind λv1=>
 some (⟨v1,a0.cd,a0.br⟩:BZ)
def zJ(a0:List BZ):Option (List BZ):=toL gH (⟨[],0,0⟩:BZ) 40 a0
def zpA(a0:Bh):Option (Bh):=
 some a0
def zol(a0:List Bh):Option (List Bh):=toL zpA (⟨([]:Ab),0,false⟩:Bh) 32 a0
def zW(a0:List (List Bh)):Option (List (List Bh)):=toL zol [] 24 a0
def zsi(a0:AL):Option (AL):=
 some a0
def zqY(a0:List AL):Option (List AL):=toL zsi (⟨0,([]:Ab),([]:Ab),0⟩:AL) 48 a0
def zqH(a0:Ce):Option (Ce):=
 some a0
def iI(a0:List Ce):Option (List Ce):=toL zqH (⟨([]:Ab),([]:Ab),false⟩:Ce) 40 a0
def dZ(a0:CV):Option (CV):=
 (zqY a0.ef).bind λv1=>
 (iI a0.cm).bind λv2=>
 (T0 a0.c6).bind λv3=>
 some (⟨v1,v2,v3,a0.di,a0.ga,a0.dj,a0.ak,a0.jf,a0.ky,a0.gi⟩:CV)
def wZ(a0:List CV):Option (List CV):=toL dZ (⟨[],[],[],0,0,false,0,false,false,false⟩:CV) 112 a0
def dC(a0:Cw):Option (Cw):=
 (OP a0.ch).bind λv1=>
 (iI a0.cm).bind λv2=>
 some (⟨a0.fg,v1,v2,a0.ak,a0.di,a0.ga⟩:Cw)
def wJ(a0:List Cw):Option (List Cw):=toL dC (⟨0,[],[],0,0,0⟩:Cw) 80 a0
def gI(a0:BA):Option (BA):=
 (zM a0.bj).bind λv1=>
 (OP a0.bq).bind λv2=>
 (zJ a0.aw).bind λv3=>
 (zW a0.cj).bind λv4=>
 (T0 a0.bm).bind λv5=>
 (wZ a0.cf).bind λv6=>
 (wJ a0.cc).bind λv7=>
 some (⟨a0.gr,a0.cz,v1,v2,v3,v4,v5,v6,v7⟩:BA)
def QT(a0:CI):Option (CI):=
 (zV a0.cq).bind λv1=>
 (T0 a0.bg).bind λv2=>
 (xM a0.cr).bind λv3=>
 (gI a0.ao).bind λv4=>
 some (⟨a0.ae,v1,a0.fw,v2,v3,v4⟩:CI)
def vV(a0:Ab)(a1:Int):Option (Bool):=
 some ((decide ((a0.length:Int)>=1))&&(decide ((a0.length:Int)<=a1)))
def vN(a0:Ab)(a1 v1:Int):Option ((Int) ⊕ Option (Bool)):=
 if(decide (v1<(a0.length:Int)))then
  (Ak a0 v1).bind λy2=>
  if((decide ((y2.toNat:Int)<97))||(decide ((y2.toNat:Int)>122)))then
   some (.inr (some false))
  else
   some (.inl (IntKind.i64.wrap (v1+1)))
 else
  some (.inr (vV a0 a1))
def SJ(a0:Ab)(a1:Int):Option (Bool):=
 Ao (λs:Int=>vN a0 a1 s) 0
def zS(a0:List (Ab))(a1:Ab)(v1:Int):Option ((Int) ⊕ Option (Int)):=
 if(decide (v1<(a0.length:Int)))then
  (Ak a0 v1).bind λy2=>
  if(y2==a1)then
   some (.inr (some v1))
  else
   some (.inl (IntKind.i64.wrap (v1+1)))
 else
  some (.inr (some (-1)))
def jM(a0:List (Ab))(a1:Ab):Option (Int):=
 Ao (λs:Int=>zS a0 a1 s) 0
def Dd(a0 a1 a2:Int):Option (Bool):=
 some ((decide (a0>=a1))&&(decide (a0<=a2)))
def xA(a0:List (Ab)):Option (Bool):=
 (Dd (a0.length:Int) 2 4).bind λv1=>
 some v1
def xB(a0:List (Ab))(v2:Int):Option ((Int) ⊕ Option (Bool)):=
 if(decide (v2<(a0.length:Int)))then
  (Ak a0 v2).bind λy3=>
  (SJ y3 3).bind λv4=>
  if v4 then
   Ax (0<=(0:Int)/\(0:Int)<=v2/\v2<=(a0.length:Int))<|
   (jM (A1 a0 0 v2) y3).bind λv5=>
   if(decide (v5>=0))then
    some (.inr (some false))
   else
    some (.inl (IntKind.i64.wrap (v2+1)))
  else
   some (.inr (some false))
 else
  some (.inr (xA a0))
def gD(a0:List (Ab)):Option (Bool):=
 Ao (λs:Int=>xB a0 s) 0
def cP(a0:An)(v3:Int):Option ((Int) ⊕ Option (Bool)):=
 if(decide (v3<(a0.aj.length:Int)))then
  (Ak a0.aj v3).bind λy4=>
  (SJ y4.ae 1).bind λv5=>
  if v5 then
   (Dd y4.dk 1 (IntKind.i64.wrap ((a0.bd.length:Int)-1))).bind λv6=>
   if v6 then
    (Dd y4.bh 0 3).bind λv7=>
    if(decide (v3>0))then
     if v7 then
      (Ak a0.aj (IntKind.i64.wrap (v3-1))).bind λy8=>
      if(!Op.bytesLess y8.ae y4.ae)then
       some (.inr (some false))
      else
       some (.inl (IntKind.i64.wrap (v3+1)))
     else
      some (.inr (some false))
    else
     if((!v7)||false)then
      some (.inr (some false))
     else
      some (.inl (IntKind.i64.wrap (v3+1)))
   else
    some (.inr (some false))
  else
   some (.inr (some false))
 else
  some (.inr (some true))
def OQ(a0:An):Option (Bool):=
 (SJ a0.ae 1).bind λv1=>
 if v1 then
  (gD a0.bd).bind λv2=>
  if((!v2)||(decide ((a0.aj.length:Int)>3)))then
   some false
  else
   Ao (λs:Int=>cP a0 s) 0
 else
  some false
def yH(a0:An)(a1:Ab)(v1:Int):Option ((Int) ⊕ Option (Int)):=
 if(decide (v1<(a0.aj.length:Int)))then
  (Ak a0.aj v1).bind λy2=>
  if(y2.ae==a1)then
   some (.inr (some v1))
  else
   some (.inl (IntKind.i64.wrap (v1+1)))
 else
  some (.inr (some (-1)))
def OU(a0:An)(a1:Ab):Option (Int):=
 Ao (λs:Int=>yH a0 a1 s) 0
def T6(a0:An)(a1:Ab):Option (A5 × Bool):=
 (OU a0 a1).bind λv1=>
 (OQ a0).bind λv2=>
 if((!v2)||(decide (v1<0)))then
  some ((⟨([]:Ab),0,0⟩:A5),false)
 else
  (Ak a0.aj v1).bind λy3=>
  some (y3,true)
def TM(a0:An)(a1:Ab)(a2:Int):Option (Bool):=
 (OQ a0).bind λv1=>
 if v1 then
  (OU a0 a1).bind λv2=>
  if(decide (v2>=0))then
   (Dd a2 0 3).bind λv3=>
   some v3
  else
   some false
 else
  some false
def Yf(a0:An):Option (An):=
 Ax (RM ((([]:List (Ab)).length:Int)+((a0.bd).length:Int)) 16)<|
 Ax (RM ((([]:List A5).length:Int)+((a0.aj).length:Int)) 32)<|
 some a0
def Ya(a0:An)(a1:Ab)(a2:Int):Option (An):=
 (Yf a0).bind λv1=>
 (OU a0 a1).bind λv2=>
 (Ak v1.aj v2).bind λy3=>
 some (⟨v1.ae,v1.bd,(v1.aj.set (v2).toNat {y3 with bh:=a2})⟩:An)
def XM(a0:An)(a1:Ab)(a2 v4:Int)(v5:List An):Option ((Int × List An) ⊕ Option (List An)):=
 if(v4 !=a2)then
  if(decide (v4<a2))then
   (Ya a0 a1 (IntKind.i64.wrap (v4+1))).bind λv6=>
   Ax (RM (((v5).length:Int)+(([v6]:List An).length:Int)) 64)<|
   some (.inl ((IntKind.i64.wrap (v4+1)),(v5++ [v6])))
  else
   (Ya a0 a1 (IntKind.i64.wrap (v4-1))).bind λv7=>
   Ax (RM (((v5).length:Int)+(([v7]:List An).length:Int)) 64)<|
   some (.inl ((IntKind.i64.wrap (v4-1)),(v5++ [v7])))
 else
  some (.inr (some v5))
def iS(a0:An)(a1:Ab)(a2:Int):Option (List An):=
 (Yf a0).bind λv1=>
 (OU a0 a1).bind λv2=>
 (Ak a0.aj v2).bind λy3=>
 Ao (λs:Int × List An=>XM a0 a1 a2 s.1 s.2) (y3.bh,[v1])
def T2(a0:An)(a1:Ab)(a2:Int):Option (List An × Bool):=
 (TM a0 a1 a2).bind λv1=>
 if(!v1)then
  some ([],false)
 else
  (iS a0 a1 a2).bind λv2=>
  some (v2,true)
def XI(a0:List (Ab))(a1:List (Ab))(v1:Int):Option ((Int) ⊕ Option (Bool)):=
 if(decide (v1<(a0.length:Int)))then
  (Ak a0 v1).bind λy2=>
  (Ak a1 v1).bind λy3=>
  if(y2 !=y3)then
   some (.inr (some false))
  else
   some (.inl (IntKind.i64.wrap (v1+1)))
 else
  some (.inr (some true))
def fX(a0:List (Ab))(a1:List (Ab)):Option (Bool):=
 if((a0.length:Int) !=(a1.length:Int))then
  some false
 else
  Ao (λs:Int=>XI a0 a1 s) 0
def SC(a0 a1:An)(v2:Int):Option ((Int) ⊕ Option (Bool)):=
 if(decide (v2<(a0.aj.length:Int)))then
  (Ak a0.aj v2).bind λy3=>
  (Ak a1.aj v2).bind λy4=>
  if(!(y3.ae==y4.ae&&(y3.dk==y4.dk&&(y3.bh==y4.bh))))then
   some (.inr (some false))
  else
   some (.inl (IntKind.i64.wrap (v2+1)))
 else
  some (.inr (some true))
def XB(a0 a1:An):Option (Bool):=
 if(a0.ae !=a1.ae)then
  some false
 else
  (fX a0.bd a1.bd).bind λv1=>
  if((!v1)||((a0.aj.length:Int) !=(a1.aj.length:Int)))then
   some false
  else
   Ao (λs:Int=>SC a0 a1 s) 0
def SO(a0:List An)(v4:List An × Bool)(v5:Int):Option ((Int) ⊕ Option (Bool)):=
 if(decide (v5<(v4.1.length:Int)))then
  (Ak v4.1 v5).bind λy6=>
  (Ak a0 v5).bind λy7=>
  (XB y6 y7).bind λv8=>
  if(!v8)then
   some (.inr (some false))
  else
   some (.inl (IntKind.i64.wrap (v5+1)))
 else
  some (.inr (some true))
def gP(a0:List An)(a1:Ab):Option (Bool):=
 if((a0.length:Int) !=4)then
  some false
 else
  (Ak a0 0).bind λy1=>
  (OQ y1).bind λv2=>
  if(!v2)then
   some false
  else
   (T6 y1 a1).bind λv3=>
   (T2 y1 a1 3).bind λv4=>
   if((((!v3.2)||(!v4.2))||(v3.1.bh !=0))||((v4.1.length:Int) !=4))then
    some false
   else
    Ao (λs:Int=>SO a0 v4 s) 0
def TI(a0:List Int)(a1 a2 v1:Int):Option ((Int) ⊕ Option (Bool)):=
 if(decide (v1<(a0.length:Int)))then
  (Ak a0 v1).bind λy2=>
  (Dd y2 a1 a2).bind λv3=>
  if(!v3)then
   some (.inr (some false))
  else
   some (.inl (IntKind.i64.wrap (v1+1)))
 else
  some (.inr (some true))
def T4(a0:List Int)(a1 a2:Int):Option (Bool):=
 Ao (λs:Int=>TI a0 a1 a2 s) 0
def xF(v1:Int)(v3:Bool):Option ((Int) ⊕ Option (Bool)):=
 if(!v3)then
  some (.inr (some false))
 else
  some (.inl (IntKind.i64.wrap (v1+1)))
def XF(a1:Ab)(v1:Int)(y2:UInt8)(v4:Bool)(v5:Int):Option ((Bool × Int) ⊕ Option ((Int) ⊕ Option (Bool))):=
 if(decide (v5<(a1.length:Int)))then
  if v4 then
   some (.inl (true,(IntKind.i64.wrap (v5+1))))
  else
   (Ak a1 v5).bind λy6=>
   some (.inl (((y2.toNat:Int)==(y6.toNat:Int)),(IntKind.i64.wrap (v5+1))))
 else
  some (.inr (xF v1 v4))
def xX(a0 a1:Ab)(v1:Int):Option ((Int) ⊕ Option (Bool)):=
 if(decide (v1<(a0.length:Int)))then
  (Ak a0 v1).bind λy2=>
  Ao (λs:Bool × Int=>XF a1 v1 y2 s.1 s.2) ((((decide ((y2.toNat:Int)>=97))&&(decide ((y2.toNat:Int)<=122)))||((decide ((y2.toNat:Int)>=48))&&(decide ((y2.toNat:Int)<=57)))),0)
 else
  some (.inr (some true))
def TR(a0 a1:Ab):Option (Bool):=
 Ao (λs:Int=>xX a0 a1 s) 0
def Lg(a0:Ab):Option (Bool):=
 (Dd (a0.length:Int) 1 12).bind λv1=>
 if v1 then
  (TR a0 ([46,47]:Ab)).bind λv2=>
  some v2
 else
  some false
def xO(a0:List (Ab)):Option (Bool):=
 some (decide ((a0.length:Int)<4))
def SW(a0:List (Ab))(v1:Int):Option ((Int) ⊕ Option (Bool)):=
 if(decide (v1<(a0.length:Int)))then
  (Ak a0 v1).bind λy2=>
  (Lg y2).bind λv3=>
  if(decide (v1>0))then
   if v3 then
    (Ak a0 (IntKind.i64.wrap (v1-1))).bind λy4=>
    if(!Op.bytesLess y4 y2)then
     some (.inr (some false))
    else
     some (.inl (IntKind.i64.wrap (v1+1)))
   else
    some (.inr (some false))
  else
   if((!v3)||false)then
    some (.inr (some false))
   else
    some (.inl (IntKind.i64.wrap (v1+1)))
 else
  some (.inr (xO a0))
def fW(a0:List (Ab)):Option (Bool):=
 Ao (λs:Int=>SW a0 s) 0
def OY(a0:Int):Option (Bool):=
 (Dd a0 1 100000).bind λv1=>
 some v1
def yK(a0:List (Ab)):Option (Bool):=
 some (decide ((a0.length:Int)<=8))
def To(a0:List (Ab))(v1:Int):Option ((Int) ⊕ Option (Bool)):=
 if(decide (v1<(a0.length:Int)))then
  (Ak a0 v1).bind λy2=>
  (Lg y2).bind λv3=>
  if(decide (v1>0))then
   if v3 then
    (Ak a0 (IntKind.i64.wrap (v1-1))).bind λy4=>
    if(!Op.bytesLess y4 y2)then
     some (.inr (some false))
    else
     some (.inl (IntKind.i64.wrap (v1+1)))
   else
    some (.inr (some false))
  else
   if((!v3)||false)then
    some (.inr (some false))
   else
    some (.inl (IntKind.i64.wrap (v1+1)))
 else
  some (.inr (yK a0))
def iQ(a0:List (Ab)):Option (Bool):=
 Ao (λs:Int=>To a0 s) 0
def T7(a0:Ab):Option (Bool):=
 if(decide ((a0.length:Int)<=24))then
  (TR a0 ([46,45,44,95]:Ab)).bind λv1=>
  some v1
 else
  some false
def X0(a0 a1:Ab)(a2:Bool):Option (Bool):=
 (Lg a0).bind λv1=>
 if v1 then
  (T7 a1).bind λv2=>
  some (v2&&((!a2)||(a1==([]:Ab))))
 else
  some false
def wW(a0:List Ai):Option (Bool):=
 some (decide ((a0.length:Int)<=24))
def wQ(a0:List Ai)(v1:Int):Option ((Int) ⊕ Option (Bool)):=
 if(decide (v1<(a0.length:Int)))then
  (Ak a0 v1).bind λy2=>
  (X0 y2.ab y2.bf y2.bu).bind λv3=>
  if(decide (v1>0))then
   if v3 then
    (Ak a0 (IntKind.i64.wrap (v1-1))).bind λy4=>
    if(!Op.bytesLess y4.ab y2.ab)then
     some (.inr (some false))
    else
     some (.inl (IntKind.i64.wrap (v1+1)))
   else
    some (.inr (some false))
  else
   if((!v3)||false)then
    some (.inr (some false))
   else
    some (.inl (IntKind.i64.wrap (v1+1)))
 else
  some (.inr (wW a0))
def X3(a0:List Ai):Option (Bool):=
 Ao (λs:Int=>wQ a0 s) 0
def eI(a0:BG)(v7:Bool):Option (Bool):=
 if v7 then
  (Dd a0.bc 1 60).bind λv8=>
  if a0.dj then
   if v8 then
    (OY a0.ak).bind λv9=>
    some (v9||false)
   else
    some false
  else
   some (v8&&(a0.ak==0))
 else
  if(a0.ah==4)then
   if(a0.bc==0)then
    (OY a0.ak).bind λv10=>
    some (v10&&(!a0.dj))
   else
    some false
  else
   some false
def zpV(a0:BG):Option (Bool):=
 if((a0.ah !=1)&&((a0.br !=0)||(decide ((IntKind.i64.wrap ((a0.az.length:Int)+(a0.af.length:Int)))>0))))then
  some false
 else
  if(a0.ah==1)then
   (Dd a0.bc 1 60).bind λv1=>
   if v1 then
    (OY a0.ak).bind λv2=>
    if v2 then
     (Dd a0.br 0 3).bind λv3=>
     if v3 then
      (iQ a0.az).bind λv4=>
      if v4 then
       (X3 a0.af).bind λv5=>
       if v5 then
        (Dd (a0.af.length:Int) 0 8).bind λv6=>
        some ((v6&&(decide ((IntKind.i64.wrap ((a0.az.length:Int)+(a0.af.length:Int)))>0)))&&(!a0.dj))
       else
        some false
      else
       some false
     else
      some false
    else
     some false
   else
    some false
  else
   if(a0.ah==2)then
    eI a0 (a0.ah==2)
   else
    eI a0 (a0.ah==3)
def gQ(a0:BG):Option (Bool):=
 (zpV a0).bind λv1=>
 some v1
def S6(a0:Ct)(a1 v2 v3:Int):Option ((Int × Int) ⊕ Option (Bool)):=
 if(decide (v3<(a0.ct.length:Int)))then
  (Ak a0.ct v3).bind λy4=>
  (Dd y4.cd v2 a1).bind λv5=>
  if v5 then
   (gQ y4.fRec).bind λv6=>
   if(!v6)then
    some (.inr (some false))
   else
    some (.inl (y4.cd,(IntKind.i64.wrap (v3+1))))
  else
   some (.inr (some false))
 else
  some (.inr (some true))
def XT(a0:Ct)(a1:Int):Option (Bool):=
 if(decide ((a0.ct.length:Int)>60))then
  some false
 else
  (Dd a0.cx 0 (a0.ct.length:Int)).bind λv1=>
  if(!v1)then
   some false
  else
   Ao (λs:Int × Int=>S6 a0 a1 s.1 s.2) (1,0)
def wM(a0:BZ):Option (Bool):=
 if(decide (a0.br<0))then
  some true
 else
  (Ak a0.ar a0.br).bind λy3=>
  some y3.ju
def XA(a0:BZ)(v4:Int):Option ((Int) ⊕ Option (Bool)):=
 if(decide (v4<(a0.ar.length:Int)))then
  (Ak a0.ar v4).bind λy5=>
  (XT y5 a0.cd).bind λv6=>
  if(!v6)then
   some (.inr (some false))
  else
   some (.inl (IntKind.i64.wrap (v4+1)))
 else
  some (.inr (wM a0))
def wK(a0:BZ):Option (Bool):=
 if(decide (a0.br<0))then
  some true
 else
  (Ak a0.ar a0.br).bind λy9=>
  some y9.ju
def Xx(a0:BZ)(v10:Int):Option ((Int) ⊕ Option (Bool)):=
 if(decide (v10<(a0.ar.length:Int)))then
  (Ak a0.ar v10).bind λy11=>
  (XT y11 a0.cd).bind λv12=>
  if(!v12)then
   some (.inr (some false))
  else
   some (.inl (IntKind.i64.wrap (v10+1)))
 else
  some (.inr (wK a0))
def eO(a0:BZ):Option (Bool):=
 if((a0.ar.length:Int) !=3)then
  if((a0.ar.length:Int) !=5)then
   some false
  else
   (Dd a0.cd 0 200).bind λv1=>
   if v1 then
    (Dd a0.br (-1) (IntKind.i64.wrap ((a0.ar.length:Int)-1))).bind λv2=>
    if(!v2)then
     some false
    else
     Ao (λs:Int=>XA a0 s) 0
   else
    some false
 else
  (Dd a0.cd 0 200).bind λv7=>
  if v7 then
   (Dd a0.br (-1) (IntKind.i64.wrap ((a0.ar.length:Int)-1))).bind λv8=>
   if(!v8)then
    some false
   else
    Ao (λs:Int=>Xx a0 s) 0
  else
   some false
def gA(a0:Bh):Option (Bool):=
 (Lg a0.ab).bind λv1=>
 if v1 then
  (Dd a0.bc 1 60).bind λv2=>
  some v2
 else
  some false
def fC(a0 a1:Bh):Option (Bool):=
 some (((a0.ab==a1.ab)&&(a0.bc !=a1.bc))&&(a0.ei||a1.ei))
def xH(a0:List Bh):Option (Bool):=
 some (decide ((a0.length:Int)<=60))
def dR(v1:Int):Option ((Int) ⊕ Option (Bool)):=
 some (.inl (IntKind.i64.wrap (v1+1)))
def QD(a0:List Bh)(v1:Int)(y2:Bh)(v4:Int):Option ((Int) ⊕ Option ((Int) ⊕ Option (Bool))):=
 if(decide (v4<((A1 a0 0 v1).length:Int)))then
  (Ak (A1 a0 0 v1) v4).bind λy5=>
  if(y2.ab==y5.ab)then
   if(y2.bc==y5.bc)then
    some (.inr (some (.inr (some false))))
   else
    (fC y2 y5).bind λv6=>
    if v6 then
     some (.inr (some (.inr (some false))))
    else
     some (.inl (IntKind.i64.wrap (v4+1)))
  else
   (fC y2 y5).bind λv7=>
   if v7 then
    some (.inr (some (.inr (some false))))
   else
    some (.inl (IntKind.i64.wrap (v4+1)))
 else
  some (.inr (dR v1))
def TA(a0:List Bh)(v1:Int):Option ((Int) ⊕ Option (Bool)):=
 if(decide (v1<(a0.length:Int)))then
  (Ak a0 v1).bind λy2=>
  (gA y2).bind λv3=>
  if(!v3)then
   some (.inr (some false))
  else
   Ax (0<=(0:Int)/\(0:Int)<=v1/\v1<=(a0.length:Int))<|
   Ao (λs:Int=>QD a0 v1 y2 s) 0
 else
  some (.inr (xH a0))
def fV(a0:List Bh):Option (Bool):=
 Ao (λs:Int=>TA a0 s) 0
def zoo(a0:DG):Option (Bool):=
 (Dd a0.gp (-5) 5).bind λv1=>
 some v1
def hZ(a0:AL)(v2:Bool):Option (Bool):=
 if v2 then
  (T7 a0.bf).bind λv3=>
  some (v3&&(a0.ie==0))
 else
  if(a0.ah==4)then
   if(a0.ah==4)then
    if(a0.bf==([]:Ab))then
     (Dd a0.ie (-9999) 9999).bind λv4=>
     some v4
    else
     some false
   else
    some (((((a0.ah==1)||(a0.ah==3))||(a0.ah==6))&&(a0.bf==([]:Ab)))&&(a0.ie==0))
  else
   if(a0.ah==5)then
    if(a0.bf==([]:Ab))then
     (Dd a0.ie (-9999) 9999).bind λv5=>
     some v5
    else
     some false
   else
    some (((((a0.ah==1)||(a0.ah==3))||(a0.ah==6))&&(a0.bf==([]:Ab)))&&(a0.ie==0))
def kL(a0:AL):Option (Bool):=
 (Lg a0.ab).bind λv1=>
 if(!v1)then
  some false
 else
  if(a0.ah==2)then
   hZ a0 (a0.ah==2)
  else
   hZ a0 (a0.ah==7)
def zA(a0:List AL):Option (Bool):=
 some (decide ((a0.length:Int)<=8))
def Tl(a0:List AL)(v1:Int):Option ((Int) ⊕ Option (Bool)):=
 if(decide (v1<(a0.length:Int)))then
  (Ak a0 v1).bind λy2=>
  (kL y2).bind λv3=>
  if(!v3)then
   some (.inr (some false))
  else
   some (.inl (IntKind.i64.wrap (v1+1)))
 else
  some (.inr (zA a0))
def iP(a0:List AL):Option (Bool):=
 Ao (λs:Int=>Tl a0 s) 0
def yQ(a0:List Ce):Option (Bool):=
 some (decide ((a0.length:Int)<=8))
def eD(v1:Int):Option ((Int) ⊕ Option (Bool)):=
 some (.inl (IntKind.i64.wrap (v1+1)))
def QG(a0:List Ce)(v1:Int)(y2:Ce)(v5:Int):Option ((Int) ⊕ Option ((Int) ⊕ Option (Bool))):=
 if(decide (v5<((A1 a0 0 v1).length:Int)))then
  (Ak (A1 a0 0 v1) v5).bind λy6=>
  if(y2.ab==y6.ab)then
   some (.inr (some (.inr (some false))))
  else
   some (.inl (IntKind.i64.wrap (v5+1)))
 else
  some (.inr (eD v1))
def Tj(a0:List Ce)(v1:Int):Option ((Int) ⊕ Option (Bool)):=
 if(decide (v1<(a0.length:Int)))then
  (Ak a0 v1).bind λy2=>
  (Lg y2.ab).bind λv3=>
  if v3 then
   (T7 y2.bf).bind λv4=>
   if((!v4)||((!y2.dz)&&(y2.bf !=([]:Ab))))then
    some (.inr (some false))
   else
    Ax (0<=(0:Int)/\(0:Int)<=v1/\v1<=(a0.length:Int))<|
    Ao (λs:Int=>QG a0 v1 y2 s) 0
  else
   some (.inr (some false))
 else
  some (.inr (yQ a0))
def Yb(a0:List Ce):Option (Bool):=
 Ao (λs:Int=>Tj a0 s) 0
def Yg(a0:Int):Option (Bool):=
 (Dd a0 0 100000).bind λv1=>
 some v1
def iJ(a0:BA)(a1:CV):Option (Bool):=
 (iP a1.ef).bind λv1=>
 if v1 then
  if(decide ((a1.ef.length:Int)>0))then
   (Yb a1.cm).bind λv2=>
   if v2 then
    if((a1.c6.length:Int)==(a0.aw.length:Int))then
     (T4 a1.c6 0 200).bind λv3=>
     if v3 then
      (Dd a1.di (-1) a0.cz).bind λv4=>
      if v4 then
       (Dd a1.ga (-1) a0.cz).bind λv5=>
       if v5 then
        (Yg a1.ak).bind λv6=>
        some v6
       else
        some false
      else
       some false
     else
      some false
    else
     some false
   else
    some false
  else
   some false
 else
  some false
def xQ(a0:List (Ab)):Option (Bool):=
 (Dd (a0.length:Int) 1 8).bind λv1=>
 some v1
def Tz(a0:List (Ab))(v2:Int):Option ((Int) ⊕ Option (Bool)):=
 if(decide (v2<(a0.length:Int)))then
  (Ak a0 v2).bind λy3=>
  (Lg y3).bind λv4=>
  if(decide (v2>0))then
   if v4 then
    (Ak a0 (IntKind.i64.wrap (v2-1))).bind λy5=>
    if(!Op.bytesLess y5 y3)then
     some (.inr (some false))
    else
     some (.inl (IntKind.i64.wrap (v2+1)))
   else
    some (.inr (some false))
  else
   if((!v4)||false)then
    some (.inr (some false))
   else
    some (.inl (IntKind.i64.wrap (v2+1)))
 else
  some (.inr (xQ a0))
def gX(a0:List (Ab)):Option (Bool):=
 Ao (λs:Int=>Tz a0 s) 0
def xP(a0:BA)(a1:Cw):Option (Bool):=
 (Dd a1.fg 0 (IntKind.i64.wrap ((a0.bj.length:Int)-1))).bind λv3=>
 if v3 then
  (Yg a1.ak).bind λv4=>
  if v4 then
   (Dd a1.di (-1) a0.cz).bind λv5=>
   if v5 then
    (Dd a1.ga (-1) a0.cz).bind λv6=>
    some v6
   else
    some false
  else
   some false
 else
  some false
def SQ(a0:BA)(a1:Cw)(v7:Int):Option ((Int) ⊕ Option (Bool)):=
 if(decide (v7<(a1.cm.length:Int)))then
  (Ak a1.cm v7).bind λy8=>
  (Ak a1.ch v7).bind λy9=>
  if(y8.ab !=y9)then
   some (.inr (some false))
  else
   some (.inl (IntKind.i64.wrap (v7+1)))
 else
  some (.inr (xP a0 a1))
def iC(a0:BA)(a1:Cw):Option (Bool):=
 (gX a1.ch).bind λv1=>
 if v1 then
  if(decide ((a1.cm.length:Int)>(a1.ch.length:Int)))then
   some false
  else
   (Yb a1.cm).bind λv2=>
   if(!v2)then
    some false
   else
    Ao (λs:Int=>SQ a0 a1 s) 0
 else
  some false
def yF(a0:BA):Option (Bool):=
 (Yg a0.gr).bind λv3=>
 if v3 then
  (Dd a0.cz 0 1000000).bind λv4=>
  some ((v4&&(decide ((a0.cf.length:Int)<=6)))&&(decide ((a0.cc.length:Int)<=4)))
 else
  some false
def Tu(a0:BA)(v5:Int):Option ((Int) ⊕ Option (Bool)):=
 if(decide (v5<(a0.cc.length:Int)))then
  (Ak a0.cc v5).bind λy6=>
  (iC a0 y6).bind λv7=>
  if(!v7)then
   some (.inr (some false))
  else
   some (.inl (IntKind.i64.wrap (v5+1)))
 else
  some (.inr (yF a0))
def xC(a0:BA):Option (Bool):=
 Ao (λs:Int=>Tu a0 s) 0
def SP(a0:BA)(v8:Int):Option ((Int) ⊕ Option (Bool)):=
 if(decide (v8<(a0.cf.length:Int)))then
  (Ak a0.cf v8).bind λy9=>
  (iJ a0 y9).bind λv10=>
  if(!v10)then
   some (.inr (some false))
  else
   some (.inl (IntKind.i64.wrap (v8+1)))
 else
  some (.inr (xC a0))
def xK(a0:BA):Option (Bool):=
 Ao (λs:Int=>SP a0 s) 0
def Tv(a0:BA)(v11:Int):Option ((Int) ⊕ Option (Bool)):=
 if(decide (v11<(a0.bj.length:Int)))then
  (Ak a0.bj v11).bind λy12=>
  (zoo y12).bind λv13=>
  if(!v13)then
   some (.inr (some false))
  else
   some (.inl (IntKind.i64.wrap (v11+1)))
 else
  some (.inr (xK a0))
def xW(a0:BA):Option (Bool):=
 Ao (λs:Int=>Tv a0 s) 0
def Tp(a0:BA)(v14:Int):Option ((Int) ⊕ Option (Bool)):=
 if(decide (v14<(a0.aw.length:Int)))then
  (Ak a0.aw v14).bind λy15=>
  (eO y15).bind λv16=>
  if v16 then
   if((y15.ar.length:Int) !=3)then
    some (.inr (some false))
   else
    (Ak a0.cj v14).bind λy17=>
    (fV y17).bind λv18=>
    if(!v18)then
     some (.inr (some false))
    else
     some (.inl (IntKind.i64.wrap (v14+1)))
  else
   some (.inr (some false))
 else
  some (.inr (xW a0))
def QQ(a0:BA):Option (Bool):=
 (fW a0.bq).bind λv1=>
 if v1 then
  if(decide ((IntKind.i64.wrap ((a0.bq.length:Int)+1))>3))then
   some false
  else
   if((a0.aw.length:Int) !=(IntKind.i64.wrap ((a0.bq.length:Int)+1)))then
    some false
   else
    if((a0.bj.length:Int) !=(IntKind.i64.wrap ((3:Int)*(IntKind.i64.wrap ((a0.bq.length:Int)+1)))))then
     some false
    else
     if((a0.cj.length:Int) !=(IntKind.i64.wrap ((a0.bq.length:Int)+1)))then
      some false
     else
      if((a0.bm.length:Int) !=(IntKind.i64.wrap ((a0.bq.length:Int)+1)))then
       some false
      else
       (T4 a0.bm 0 100000).bind λv2=>
       if(!v2)then
        some false
       else
        Ao (λs:Int=>Tp a0 s) 0
 else
  some false
def fU(a0:Cu):Option (Bool):=
 some ((a0.ah==0)&&((IntKind.i64.wrap ((a0.cw.bb.length:Int)+(a0.c9.bb.length:Int)))==0))
def TN(a0:Ab):Option (Bool):=
 (Dd (a0.length:Int) 1 3).bind λv1=>
 if v1 then
  (TR a0 ([]:Ab)).bind λv2=>
  some v2
 else
  some false
def yB(a0:An)(a1:CD):Option (Bool):=
 some ((a1.bb.length:Int)==(a0.bd.length:Int))
def xJ(a0:An)(a1:CD)(v1:Int):Option ((Int) ⊕ Option (Bool)):=
 if(decide (v1<(a1.bb.length:Int)))then
  (Ak a1.bb v1).bind λy2=>
  (TN y2).bind λv3=>
  if(!v3)then
   some (.inr (some false))
  else
   some (.inl (IntKind.i64.wrap (v1+1)))
 else
  some (.inr (yB a0 a1))
def OS(a0:An)(a1:CD):Option (Bool):=
 Ao (λs:Int=>xJ a0 a1 s) 0
def Tx(a0:List (Ab))(a1 v1:Ab)(v2:Int):Option ((Ab × Int) ⊕ Option (Ab)):=
 if(decide (v2<(a0.length:Int)))then
  (Ak a0 v2).bind λy3=>
  if(decide (v2>0))then
   Ax ((v1).length+(a1).length<=9223372036854775807)<|
   Ax (((v1++a1)).length+(y3).length<=9223372036854775807)<|
   some (.inl (((v1++a1)++y3),(IntKind.i64.wrap (v2+1))))
  else
   Ax ((v1).length+(y3).length<=9223372036854775807)<|
   some (.inl ((v1++y3),(IntKind.i64.wrap (v2+1))))
 else
  some (.inr (some v1))
def zot(a0:List (Ab))(a1:Ab):Option (Ab):=
 Ao (λs:Ab × Int=>Tx a0 a1 s.1 s.2) (([]:Ab),0)
def QP(a0:An)(a1:CD):Option (Ai):=
 Ax ((a0.ae).length+(([47]:Ab)).length<=9223372036854775807)<|
 (Ak a1.bb 0).bind λy1=>
 Ax (((a0.ae++([47]:Ab))).length+(y1).length<=9223372036854775807)<|
 Ax (0<=(1:Int)/\(1:Int)<=(a1.bb.length:Int)/\(a1.bb.length:Int)<=(a1.bb.length:Int))<|
 (zot (A1 a1.bb 1 (a1.bb.length:Int)) ([44]:Ab)).bind λv2=>
 some (⟨((a0.ae++([47]:Ab))++y1),v2,false⟩:Ai)
def TO(a0:An)(a1:A5)(a2:CD):Option (Ab):=
 Ax ((a0.ae).length+(([46]:Ab)).length<=9223372036854775807)<|
 Ax (((a0.ae++([46]:Ab))).length+(a1.ae).length<=9223372036854775807)<|
 Ax ((((a0.ae++([46]:Ab))++a1.ae)).length+(([47]:Ab)).length<=9223372036854775807)<|
 (Ak a2.bb a1.dk).bind λy1=>
 Ax (((((a0.ae++([46]:Ab))++a1.ae)++([47]:Ab))).length+(y1).length<=9223372036854775807)<|
 Ax ((((((a0.ae++([46]:Ab))++a1.ae)++([47]:Ab))++y1)).length+(([47]:Ab)).length<=9223372036854775807)<|
 (Ak a2.bb 0).bind λy2=>
 Ax (((((((a0.ae++([46]:Ab))++a1.ae)++([47]:Ab))++y1)++([47]:Ab))).length+(y2).length<=9223372036854775807)<|
 some ((((((a0.ae++([46]:Ab))++a1.ae)++([47]:Ab))++y1)++([47]:Ab))++y2)
def zou(a0:An)(a1:A5)(a2:CD):Option (List AL):=
 (QP a0 a2).bind λv1=>
 (TO a0 a1 a2).bind λv2=>
 some [(⟨7,v1.ab,v1.bf,0⟩:AL),(⟨2,v2,([]:Ab),0⟩:AL)]
def zop(a0:An)(a1:Ab)(a2:CD):Option (List AL × Bool):=
 (T6 a0 a1).bind λv1=>
 if v1.2 then
  (OS a0 a2).bind λv2=>
  if(!v2)then
   some ([],false)
  else
   (zou a0 v1.1 a2).bind λv3=>
   some (v3,true)
 else
  some ([],false)
def gN(a0:An)(a1:Cu):Option (Bool):=
 if(a1.ah==1)then
  if((a1.cw.bb.length:Int)==0)then
   (OS a0 a1.c9).bind λv1=>
   some v1
  else
   some false
 else
  if(a1.ah==2)then
   if((a1.c9.bb.length:Int)==0)then
    (OS a0 a1.cw).bind λv2=>
    some v2
   else
    some false
  else
   if(a1.ah==3)then
    (OS a0 a1.cw).bind λv3=>
    if v3 then
     (OS a0 a1.c9).bind λv4=>
     if v4 then
      (Ak a1.cw.bb 0).bind λy5=>
      (Ak a1.c9.bb 0).bind λy6=>
      some (y5==y6)
     else
      some false
    else
     some false
   else
    some false
def zY(a0:An)(a1:Cu):Option (Bool):=
 (OQ a0).bind λv1=>
 if v1 then
  (gN a0 a1).bind λv2=>
  some v2
 else
  some false
def fY(a0:An)(a1:Cu):Option (List AL):=
 if(a1.ah==1)then
  (QP a0 a1.c9).bind λv1=>
  some [(⟨6,v1.ab,([]:Ab),0⟩:AL),(⟨2,v1.ab,v1.bf,0⟩:AL)]
 else
  (QP a0 a1.cw).bind λv2=>
  if(a1.ah==2)then
   some [(⟨7,v2.ab,v2.bf,0⟩:AL),(⟨3,v2.ab,([]:Ab),0⟩:AL)]
  else
   (QP a0 a1.c9).bind λv3=>
   some [(⟨7,v2.ab,v2.bf,0⟩:AL),(⟨2,v2.ab,v3.bf,0⟩:AL)]
def eN(a1:A5)(v2:Ab)(v3:List AL):Option (List AL):=
 if((v2 !=([]:Ab))&&(decide (a1.bh>=2)))then
  Ax (RM (((v3).length:Int)+(([(⟨2,v2,([]:Ab),0⟩:AL)]:List AL).length:Int)) 48)<|
  some (v3++ [(⟨2,v2,([]:Ab),0⟩:AL)])
 else
  some v3
def XP(a1:A5)(v1 v2:Ab):Option (List AL):=
 if(((v1 !=([]:Ab))&&(v1 !=v2))&&(decide (a1.bh>=1)))then
  Ax (RM ((([]:List AL).length:Int)+(([(⟨3,v1,([]:Ab),0⟩:AL)]:List AL).length:Int)) 48)<|
  eN a1 v2 [(⟨3,v1,([]:Ab),0⟩:AL)]
 else
  eN a1 v2 []
def eL(a0:An)(a1:A5)(a2:Cu)(v1:Ab):Option (List AL):=
 if(a2.ah !=2)then
  (TO a0 a1 a2.c9).bind λv4=>
  XP a1 v1 v4
 else
  XP a1 v1 ([]:Ab)
def Yd(a0:An)(a1:A5)(a2:Cu):Option (List AL):=
 WE (σ:=Ab) (
  if(a2.ah !=1)then
   (TO a0 a1 a2.cw).bind λv5=>
   some (.inl v5)
  else
   some (.inl ([]:Ab))
 ) (λs=>eL a0 a1 a2 s)
def Td(a0:An)(a1:Cu)(v2:Int)(v3:List AL):Option ((Int × List AL) ⊕ Option (List AL)):=
 if(decide (v2<(a0.aj.length:Int)))then
  (Ak a0.aj v2).bind λy4=>
  (Yd a0 y4 a1).bind λv5=>
  Ax (RM (((v3).length:Int)+((v5).length:Int)) 48)<|
  some (.inl ((IntKind.i64.wrap (v2+1)),(v3++v5)))
 else
  some (.inr (some v3))
def iN(a0:An)(a1:Cu):Option (List AL):=
 (fY a0 a1).bind λv1=>
 Ao (λs:Int × List AL=>Td a0 a1 s.1 s.2) (0,v1)
def zpu(a0:An)(a1:Cu):Option (List AL × Bool):=
 (zY a0 a1).bind λv1=>
 if(!v1)then
  some ([],false)
 else
  (iN a0 a1).bind λv2=>
  some (v2,true)
def iV(a0:List An)(a1:Ab)(a2:Dc):Option (List AL × Bool):=
 (Dd a2.gh 0 3).bind λv1=>
 if(!v1)then
  some ([],false)
 else
  if a2.gz then
   if(decide (a2.gh<2))then
    some ([],false)
   else
    (fU a2.fAct).bind λv2=>
    if(!v2)then
     some ([],false)
    else
     (Ak a0 a2.gh).bind λy3=>
     (zop y3 a1 a2.fRow).bind λv4=>
     some (v4.1,v4.2)
  else
   if(decide ((a2.fRow.bb.length:Int)>0))then
    some ([],false)
   else
    (Ak a0 a2.gh).bind λy5=>
    (zpu y5 a2.fAct).bind λv6=>
    some (v6.1,v6.2)
def Su(a0 a1:List AL)(v1:Int):Option ((Int) ⊕ Option (Bool)):=
 if(decide (v1<(a0.length:Int)))then
  (Ak a0 v1).bind λy2=>
  (Ak a1 v1).bind λy3=>
  if(!(y2.ah==y3.ah&&(y2.ab==y3.ab&&(y2.bf==y3.bf&&(y2.ie==y3.ie)))))then
   some (.inr (some false))
  else
   some (.inl (IntKind.i64.wrap (v1+1)))
 else
  some (.inr (some true))
def dW(a0 a1:List AL):Option (Bool):=
 if((a0.length:Int) !=(a1.length:Int))then
  some false
 else
  Ao (λs:Int=>Su a0 a1 s) 0
def Na(a0:CI)(v8:Int):Option ((Int) ⊕ Option (Bool)):=
 if(decide (v8<(a0.cr.length:Int)))then
  (Ak a0.cr v8).bind λy9=>
  (iV a0.cq a0.ae y9).bind λv10=>
  if v10.2 then
   (Ak a0.ao.cf v8).bind λy11=>
   (dW v10.1 y11.ef).bind λv12=>
   if(!v12)then
    some (.inr (some false))
   else
    some (.inl (IntKind.i64.wrap (v8+1)))
  else
   some (.inr (some false))
 else
  some (.inr (some true))
def M8(a0:CI):Option (Bool):=
 (QQ a0.ao).bind λv5=>
 if v5 then
  if((a0.ao.bq.length:Int) !=1)then
   some false
  else
   (Ak a0.ao.bq 0).bind λy6=>
   (Ak a0.cq 0).bind λy7=>
   Ax ((y7.ae).length+(([47]:Ab)).length<=9223372036854775807)<|
   if(((y6 !=(y7.ae++([47]:Ab)))||((a0.ao.cf.length:Int) !=(a0.cr.length:Int)))||(decide ((a0.ao.cc.length:Int)>0)))then
    some false
   else
    Ao (λs:Int=>Na a0 s) 0
 else
  some false
def LY(a0:CI)(v13:Int):Option ((Int) ⊕ Option (Bool)):=
 if(decide (v13<(a0.bg.length:Int)))then
  (Ak a0.bg v13).bind λy14=>
  (Ak a0.bg (IntKind.i64.wrap (v13-1))).bind λy15=>
  if(decide (y14<y15))then
   some (.inr (some false))
  else
   some (.inl (IntKind.i64.wrap (v13+1)))
 else
  some (.inr (M8 a0))
def gE(a0:CI):Option (Bool):=
 (gP a0.cq a0.ae).bind λv1=>
 if v1 then
  (Dd a0.fw 0 2).bind λv2=>
  if v2 then
   if((a0.bg.length:Int) !=(IntKind.i64.wrap (a0.fw+1)))then
    some false
   else
    (Ak a0.bg 0).bind λy3=>
    if(y3 !=0)then
     some false
    else
     (T4 a0.bg 0 100000).bind λv4=>
     if(!v4)then
      some false
     else
      Ao (λs:Int=>LY a0 s) 1
  else
   some false
 else
  some false
def TP(a0 v1:List Ap)(v2:Int):Option ((List Ap × Int) ⊕ Option (List Ap)):=
 if(decide (v2<(a0.length:Int)))then
  (Ak a0 v2).bind λy3=>
  Ax (RM ((([]:List CE).length:Int)+((y3.au).length:Int)) 32)<|
  Ax (RM (((v1).length:Int)+(([y3]:List Ap).length:Int)) 40)<|
  some (.inl ((v1++ [y3]),(IntKind.i64.wrap (v2+1))))
 else
  some (.inr (some v1))
def Yh(a0:List Ap):Option (List Ap):=
 Ao (λs:List Ap × Int=>TP a0 s.1 s.2) ([],0)
def Lf(a0:List (Ab)):Option (List (Ab)):=
 Ax (RM ((([]:List (Ab)).length:Int)+((a0).length:Int)) 16)<|
 some a0
def dX(a0:AX):Option (AX):=
 (Lf a0.az).bind λv1=>
 Ax (RM ((([]:List Ai).length:Int)+((a0.af).length:Int)) 40)<|
 some (⟨a0.bc,a0.ak,a0.br,v1,a0.af⟩:AX)
def Th(a0:AD)(v1:List Ap)(v2:Int)(v3:List AX):Option ((Int × List AX) ⊕ Option (AD)):=
 if(decide (v2<(a0.al.length:Int)))then
  (Ak a0.al v2).bind λy4=>
  (dX y4).bind λv5=>
  Ax (RM (((v3).length:Int)+(([v5]:List AX).length:Int)) 72)<|
  some (.inl ((IntKind.i64.wrap (v2+1)),(v3++ [v5])))
 else
  some (.inr (some (⟨a0.bw,v1,v3,a0.bz⟩:AD)))
def jJ(a0:AD):Option (AD):=
 (Yh a0.aq).bind λv1=>
 Ax (RM ((([]:List Cm).length:Int)+((a0.bz).length:Int)) 24)<|
 Ao (λs:Int × List AX=>Th a0 v1 s.1 s.2) (0,[])
def wG(a0:AD)(a1 v1:Int):Option ((Int) ⊕ Option (AX × Bool)):=
 if(decide (v1<(a0.al.length:Int)))then
  (Ak a0.al v1).bind λy2=>
  if(y2.bc==a1)then
   some (.inr (some (y2,true)))
  else
   some (.inl (IntKind.i64.wrap (v1+1)))
 else
  some (.inr (some ((⟨0,0,0,[],[]⟩:AX),false)))
def eU(a0:AD)(a1:Int):Option (AX × Bool):=
 Ao (λs:Int=>wG a0 a1 s) 0
def wO(a0:AD)(a1 v1:Int):Option ((Int) ⊕ Option (Cm × Bool)):=
 if(decide (v1<(a0.bz.length:Int)))then
  (Ak a0.bz v1).bind λy2=>
  if(y2.bc==a1)then
   some (.inr (some (y2,true)))
  else
   some (.inl (IntKind.i64.wrap (v1+1)))
 else
  some (.inr (some ((⟨0,false,0⟩:Cm),false)))
def eK(a0:AD)(a1:Int):Option (Cm × Bool):=
 Ao (λs:Int=>wO a0 a1 s) 0
def cW(a0:List AX)(a1:AX)(v1:Int):Option (List AX):=
 Ax (0<=v1/\v1<=(a0.length:Int)/\(a0.length:Int)<=(a0.length:Int))<|
 Ax (RM ((([]:List AX).length:Int)+(((A1 a0 v1 (a0.length:Int))).length:Int)) 72)<|
 Ax (0<=(0:Int)/\(0:Int)<=v1/\v1<=(a0.length:Int))<|
 Ax (RM ((([]:List AX).length:Int)+(((A1 a0 0 v1)).length:Int)) 72)<|
 Ax (RM ((((A1 a0 0 v1)).length:Int)+(([a1]:List AX).length:Int)) 72)<|
 Ax (RM (((((A1 a0 0 v1)++ [a1])).length:Int)+(((A1 a0 v1 (a0.length:Int))).length:Int)) 72)<|
 some (((A1 a0 0 v1)++ [a1])++(A1 a0 v1 (a0.length:Int)))
def vQ(a0:List AX)(a1:AX)(v2:Int):Option ((Int) ⊕ Option (List AX)):=
 if(decide (v2>0))then
  (Ak a0 (IntKind.i64.wrap (v2-1))).bind λy3=>
  if(decide (y3.bc>a1.bc))then
   some (.inl (IntKind.i64.wrap (v2-1)))
  else
   some (.inr (cW a0 a1 v2))
 else
  some (.inr (cW a0 a1 v2))
def dO(a0:List AX)(a1:AX):Option (List AX):=
 Ao (λs:Int=>vQ a0 a1 s) (a0.length:Int)
def wU(a0:List Ai)(a1:Ab)(v1:Int):Option ((Int) ⊕ Option (Bool)):=
 if(decide (v1<(a0.length:Int)))then
  (Ak a0 v1).bind λy2=>
  if(y2.ab==a1)then
   some (.inr (some true))
  else
   some (.inl (IntKind.i64.wrap (v1+1)))
 else
  some (.inr (some false))
def XJ(a0:List Ai)(a1:Ab):Option (Bool):=
 Ao (λs:Int=>wU a0 a1 s) 0
def zB(a0:List (Ab))(a1:Ab)(v1:Int):Option ((Int) ⊕ Option (Bool)):=
 if(decide (v1<(a0.length:Int)))then
  (Ak a0 v1).bind λy2=>
  if(y2==a1)then
   some (.inr (some true))
  else
   some (.inl (IntKind.i64.wrap (v1+1)))
 else
  some (.inr (some false))
def jH(a0:List (Ab))(a1:Ab):Option (Bool):=
 Ao (λs:Int=>zB a0 a1 s) 0
def wT(a0:AX)(a2:List Ai)(v1:Int):Option ((Int) ⊕ Option (Bool)):=
 if(decide (v1<(a2.length:Int)))then
  (Ak a2 v1).bind λy2=>
  (XJ a0.af y2.ab).bind λv3=>
  if v3 then
   some (.inr (some false))
  else
   (jH a0.az y2.ab).bind λv4=>
   if v4 then
    some (.inr (some false))
   else
    some (.inl (IntKind.i64.wrap (v1+1)))
 else
  some (.inr (some true))
def dF(a0:AX)(a2:List Ai):Option (Bool):=
 Ao (λs:Int=>wT a0 a2 s) 0
def wY(a0:AX)(a1:List (Ab))(a2:List Ai)(v5:Int):Option ((Int) ⊕ Option (Bool)):=
 if(decide (v5<(a1.length:Int)))then
  (Ak a1 v5).bind λy6=>
  (XJ a0.af y6).bind λv7=>
  if v7 then
   some (.inr (some false))
  else
   some (.inl (IntKind.i64.wrap (v5+1)))
 else
  some (.inr (dF a0 a2))
def fB(a0:AX)(a1:List (Ab))(a2:List Ai):Option (Bool):=
 Ao (λs:Int=>wY a0 a1 a2 s) 0
def Tg(a0:List (Ab))(a1:Ab)(v1:Int):Option (List (Ab)):=
 if(decide (v1>0))then
  (Ak a0 (IntKind.i64.wrap (v1-1))).bind λy2=>
  if(y2==a1)then
   some a0
  else
   Ax (0<=v1/\v1<=(a0.length:Int)/\(a0.length:Int)<=(a0.length:Int))<|
   (Lf (A1 a0 v1 (a0.length:Int))).bind λv3=>
   Ax (0<=(0:Int)/\(0:Int)<=v1/\v1<=(a0.length:Int))<|
   (Lf (A1 a0 0 v1)).bind λv4=>
   Ax (RM (((v4).length:Int)+(([a1]:List (Ab)).length:Int)) 16)<|
   Ax (RM ((((v4++ [a1])).length:Int)+((v3).length:Int)) 16)<|
   some ((v4++ [a1])++v3)
 else
  Ax (0<=v1/\v1<=(a0.length:Int)/\(a0.length:Int)<=(a0.length:Int))<|
  (Lf (A1 a0 v1 (a0.length:Int))).bind λv5=>
  Ax (0<=(0:Int)/\(0:Int)<=v1/\v1<=(a0.length:Int))<|
  (Lf (A1 a0 0 v1)).bind λv6=>
  Ax (RM (((v6).length:Int)+(([a1]:List (Ab)).length:Int)) 16)<|
  Ax (RM ((((v6++ [a1])).length:Int)+((v5).length:Int)) 16)<|
  some ((v6++ [a1])++v5)
def Le(a0:List (Ab))(a1:Ab)(v7:Int):Option ((Int) ⊕ Option (List (Ab))):=
 if(decide (v7>0))then
  (Ak a0 (IntKind.i64.wrap (v7-1))).bind λy8=>
  if(!(Op.bytesLess y8 a1||y8==a1))then
   some (.inl (IntKind.i64.wrap (v7-1)))
  else
   some (.inr (Tg a0 a1 v7))
 else
  some (.inr (Tg a0 a1 v7))
def TV(a0:List (Ab))(a1:Ab):Option (List (Ab)):=
 Ao (λs:Int=>Le a0 a1 s) (a0.length:Int)
def zZ(a0:List Ap)(a1:Ab)(v1:Int):Option ((Int) ⊕ Option (Int)):=
 if(decide (v1<(a0.length:Int)))then
  (Ak a0 v1).bind λy2=>
  if(y2.ab==a1)then
   some (.inr (some v1))
  else
   some (.inl (IntKind.i64.wrap (v1+1)))
 else
  some (.inr (some (-1)))
def Yk(a0:List Ap)(a1:Ab):Option (Int):=
 Ao (λs:Int=>zZ a0 a1 s) 0
def dV(v3:List (Ab)):Option (Bool):=
 some (decide ((v3.length:Int)<=24))
def S3(a0:AD)(v2:List Ai)(v4:List (Ab))(v5:Int):Option ((List (Ab) × Int) ⊕ Option (Bool)):=
 if(decide (v5<(v2.length:Int)))then
  (Ak v2 v5).bind λy6=>
  (TV v4 y6.ab).bind λv7=>
  (Yk a0.aq y6.ab).bind λv8=>
  if(decide (v8>=0))then
   (Ak a0.aq v8).bind λy9=>
   if(decide ((y9.au.length:Int)>=16))then
    some (.inr (some false))
   else
    some (.inl (v7,(IntKind.i64.wrap (v5+1))))
  else
   some (.inl (v7,(IntKind.i64.wrap (v5+1))))
 else
  some (.inr (dV v4))
def xN(a0:AD)(v1:List (Ab))(v2:List Ai):Option (Bool):=
 Ao (λs:List (Ab) × Int=>S3 a0 v2 s.1 s.2) (v1,0)
def Tw(a0:AD)(v1:List (Ab))(v10:Int)(v11:List Ai):Option ((Int × List Ai) ⊕ Option (Bool)):=
 if(decide (v10<(a0.al.length:Int)))then
  (Ak a0.al v10).bind λy12=>
  Ax (RM (((v11).length:Int)+((y12.af).length:Int)) 40)<|
  some (.inl ((IntKind.i64.wrap (v10+1)),(v11++y12.af)))
 else
  some (.inr (xN a0 v1 v11))
def xL(a0:AD)(a1:List Ai)(v1:List (Ab)):Option (Bool):=
 Ax (RM ((([]:List Ai).length:Int)+((a1).length:Int)) 40)<|
 Ao (λs:Int × List Ai=>Tw a0 v1 s.1 s.2) (0,a1)
def Tt(a0:AD)(a1:List Ai)(v13:List (Ab))(v14:Int):Option ((List (Ab) × Int) ⊕ Option (Bool)):=
 if(decide (v14<(a0.aq.length:Int)))then
  (Ak a0.aq v14).bind λy15=>
  (TV v13 y15.ab).bind λv16=>
  some (.inl (v16,(IntKind.i64.wrap (v14+1))))
 else
  some (.inr (xL a0 a1 v13))
def iH(a0:AD)(a1:List Ai):Option (Bool):=
 Ao (λs:List (Ab) × Int=>Tt a0 a1 s.1 s.2) ([],0)
def dS(a0:AD)(a2:List Ai):Option (Bool):=
 if(decide ((a0.al.length:Int)<12))then
  (iH a0 a2).bind λv1=>
  some v1
 else
  some false
def xT(a0:AD)(a1:List (Ab))(a2:List Ai)(v2:Int):Option ((Int) ⊕ Option (Bool)):=
 if(decide (v2<(a0.al.length:Int)))then
  (Ak a0.al v2).bind λy3=>
  (fB y3 a1 a2).bind λv4=>
  if(!v4)then
   some (.inr (some false))
  else
   some (.inl (IntKind.i64.wrap (v2+1)))
 else
  some (.inr (dS a0 a2))
def gO(a0:AD)(a1:List (Ab))(a2:List Ai):Option (Bool):=
 Ao (λs:Int=>xT a0 a1 a2 s) 0
def jC(a0:List Ap)(a1:Ab):Option (Int):=
 (Yk a0 a1).bind λv1=>
 if(decide (v1<0))then
  some 0
 else
  (Ak a0 v1).bind λy2=>
  (Ak y2.au (IntKind.i64.wrap ((y2.au.length:Int)-1))).bind λy3=>
  some y3.ak
def yR(a0:Ap):Option (Bool):=
 (Lg a0.ab).bind λv1=>
 if v1 then
  (Dd (a0.au.length:Int) 1 16).bind λv2=>
  some v2
 else
  some false
def QK(a0:Ap)(v3:Int):Option ((Int) ⊕ Option (Bool)):=
 if(decide (v3<(a0.au.length:Int)))then
  (Ak a0.au v3).bind λy4=>
  (OY y4.ak).bind λv5=>
  if v5 then
   (X0 a0.ab y4.bf y4.bu).bind λv6=>
   if(decide (v3>0))then
    if v6 then
     (Ak a0.au (IntKind.i64.wrap (v3-1))).bind λy7=>
     if(decide (y7.ak>=y4.ak))then
      some (.inr (some false))
     else
      some (.inl (IntKind.i64.wrap (v3+1)))
    else
     some (.inr (some false))
   else
    if((!v6)||false)then
     some (.inr (some false))
    else
     some (.inl (IntKind.i64.wrap (v3+1)))
  else
   some (.inr (some false))
 else
  some (.inr (yR a0))
def iK(a0:Ap):Option (Bool):=
 Ao (λs:Int=>QK a0 s) 0
def yN(a0:List Ap):Option (Bool):=
 some (decide ((a0.length:Int)<=24))
def QH(a0:List Ap)(v1:Int):Option ((Int) ⊕ Option (Bool)):=
 if(decide (v1<(a0.length:Int)))then
  (Ak a0 v1).bind λy2=>
  (iK y2).bind λv3=>
  if(decide (v1>0))then
   if v3 then
    (Ak a0 (IntKind.i64.wrap (v1-1))).bind λy4=>
    if(!Op.bytesLess y4.ab y2.ab)then
     some (.inr (some false))
    else
     some (.inl (IntKind.i64.wrap (v1+1)))
   else
    some (.inr (some false))
  else
   if((!v3)||false)then
    some (.inr (some false))
   else
    some (.inl (IntKind.i64.wrap (v1+1)))
 else
  some (.inr (yN a0))
def iZ(a0:List Ap):Option (Bool):=
 Ao (λs:Int=>QH a0 s) 0
def fD(v2:List Ap):Option (List Ap × Bool):=
 (iZ v2).bind λv3=>
 some (v2,v3)
def TF(a2 v4:Int)(v5:List Ap)(y6:Ai)(v7:Int):Option ((Int × List Ap) ⊕ Option (List Ap × Bool)):=
 if(decide (v7>0))then
  (Ak v5 (IntKind.i64.wrap (v7-1))).bind λy8=>
  if(y8.ab==y6.ab)then
   (jC v5 y6.ab).bind λv9=>
   if(decide (v9>=a2))then
    some (.inr (some ([],false)))
   else
    Ax (RM (((y8.au).length:Int)+(([(⟨a2,y6.bf,y6.bu⟩:CE)]:List CE).length:Int)) 32)<|
    some (.inl ((IntKind.i64.wrap (v4+1)),(v5.set ((IntKind.i64.wrap (v7-1))).toNat {y8 with au:=(y8.au++ [(⟨a2,y6.bf,y6.bu⟩:CE)])})))
  else
   Ax (0<=v7/\v7<=(v5.length:Int)/\(v5.length:Int)<=(v5.length:Int))<|
   Ax (0<=v7/\v7<=(v5.length:Int)/\(v5.length:Int)<=(v5.length:Int))<|
   Ax (RM ((([]:List Ap).length:Int)+(((A1 v5 v7 (v5.length:Int))).length:Int)) 40)<|
   Ax (0<=(0:Int)/\(0:Int)<=v7/\v7<=(v5.length:Int))<|
   Ax (RM ((([]:List Ap).length:Int)+(((A1 v5 0 v7)).length:Int)) 40)<|
   Ax (RM ((((A1 v5 0 v7)).length:Int)+(([(⟨y6.ab,[(⟨a2,y6.bf,y6.bu⟩:CE)]⟩:Ap)]:List Ap).length:Int)) 40)<|
   Ax (RM (((((A1 v5 0 v7)++ [(⟨y6.ab,[(⟨a2,y6.bf,y6.bu⟩:CE)]⟩:Ap)])).length:Int)+(((A1 v5 v7 (v5.length:Int))).length:Int)) 40)<|
   some (.inl ((IntKind.i64.wrap (v4+1)),(((A1 v5 0 v7)++ [(⟨y6.ab,[(⟨a2,y6.bf,y6.bu⟩:CE)]⟩:Ap)])++(A1 v5 v7 (v5.length:Int)))))
 else
  Ax (0<=v7/\v7<=(v5.length:Int)/\(v5.length:Int)<=(v5.length:Int))<|
  Ax (0<=v7/\v7<=(v5.length:Int)/\(v5.length:Int)<=(v5.length:Int))<|
  Ax (RM ((([]:List Ap).length:Int)+(((A1 v5 v7 (v5.length:Int))).length:Int)) 40)<|
  Ax (0<=(0:Int)/\(0:Int)<=v7/\v7<=(v5.length:Int))<|
  Ax (RM ((([]:List Ap).length:Int)+(((A1 v5 0 v7)).length:Int)) 40)<|
  Ax (RM ((((A1 v5 0 v7)).length:Int)+(([(⟨y6.ab,[(⟨a2,y6.bf,y6.bu⟩:CE)]⟩:Ap)]:List Ap).length:Int)) 40)<|
  Ax (RM (((((A1 v5 0 v7)++ [(⟨y6.ab,[(⟨a2,y6.bf,y6.bu⟩:CE)]⟩:Ap)])).length:Int)+(((A1 v5 v7 (v5.length:Int))).length:Int)) 40)<|
  some (.inl ((IntKind.i64.wrap (v4+1)),(((A1 v5 0 v7)++ [(⟨y6.ab,[(⟨a2,y6.bf,y6.bu⟩:CE)]⟩:Ap)])++(A1 v5 v7 (v5.length:Int)))))
def QO(a2 v4:Int)(v5:List Ap)(y6:Ai)(v10:Int):Option ((Int) ⊕ Option ((Int × List Ap) ⊕ Option (List Ap × Bool))):=
 if(decide (v10>0))then
  (Ak v5 (IntKind.i64.wrap (v10-1))).bind λy11=>
  if(!(Op.bytesLess y11.ab y6.ab||y11.ab==y6.ab))then
   some (.inl (IntKind.i64.wrap (v10-1)))
  else
   some (.inr (TF a2 v4 v5 y6 v10))
 else
  some (.inr (TF a2 v4 v5 y6 v10))
def TE(a1:List Ai)(a2 v4:Int)(v5:List Ap):Option ((Int × List Ap) ⊕ Option (List Ap × Bool)):=
 if(decide (v4<(a1.length:Int)))then
  (Ak a1 v4).bind λy6=>
  Ao (λs:Int=>QO a2 v4 v5 y6 s) (v5.length:Int)
 else
  some (.inr (fD v5))
def jR(a0:List Ap)(a1:List Ai)(a2:Int):Option (List Ap × Bool):=
 (Yh a0).bind λv1=>
 Ao (λs:Int × List Ap=>TE a1 a2 s.1 s.2) (0,v1)
def iM(a0 a1:Int):Option (Int):=
 if(decide (a0>a1))then
  some a0
 else
  some a1
def Ts(a0:List AX)(a1:Int)(v1:List AX)(v2:Int):Option ((List AX × Int) ⊕ Option (List AX)):=
 if(decide (v2<(a0.length:Int)))then
  (Ak a0 v2).bind λy3=>
  if(y3.bc !=a1)then
   Ax (RM (((v1).length:Int)+(([y3]:List AX).length:Int)) 72)<|
   some (.inl ((v1++ [y3]),(IntKind.i64.wrap (v2+1))))
  else
   some (.inl (v1,(IntKind.i64.wrap (v2+1))))
 else
  some (.inr (some v1))
def XY(a0:List AX)(a1:Int):Option (List AX):=
 Ao (λs:List AX × Int=>Ts a0 a1 s.1 s.2) ([],0)
def cX(a0:List Cm)(a1:Cm)(v1:Int):Option (List Cm):=
 Ax (0<=v1/\v1<=(a0.length:Int)/\(a0.length:Int)<=(a0.length:Int))<|
 Ax (RM ((([]:List Cm).length:Int)+(((A1 a0 v1 (a0.length:Int))).length:Int)) 24)<|
 Ax (0<=(0:Int)/\(0:Int)<=v1/\v1<=(a0.length:Int))<|
 Ax (RM ((([]:List Cm).length:Int)+(((A1 a0 0 v1)).length:Int)) 24)<|
 Ax (RM ((((A1 a0 0 v1)).length:Int)+(([a1]:List Cm).length:Int)) 24)<|
 Ax (RM (((((A1 a0 0 v1)++ [a1])).length:Int)+(((A1 a0 v1 (a0.length:Int))).length:Int)) 24)<|
 some (((A1 a0 0 v1)++ [a1])++(A1 a0 v1 (a0.length:Int)))
def vL(a0:List Cm)(a1:Cm)(v2:Int):Option ((Int) ⊕ Option (List Cm)):=
 if(decide (v2>0))then
  (Ak a0 (IntKind.i64.wrap (v2-1))).bind λy3=>
  if(decide (y3.bc>a1.bc))then
   some (.inl (IntKind.i64.wrap (v2-1)))
  else
   some (.inr (cX a0 a1 v2))
 else
  some (.inr (cX a0 a1 v2))
def XE(a0:List Cm)(a1:Cm):Option (List Cm):=
 Ao (λs:Int=>vL a0 a1 s) (a0.length:Int)
def fT(a0:AD)(a1:BG):Option (AD × Bool):=
 (jJ a0).bind λv1=>
 (eU a0 a1.bc).bind λv2=>
 (eK a0 a1.bc).bind λv3=>
 if(a1.ah==4)then
  some ((⟨a1.ak,v1.aq,v1.al,v1.bz⟩:AD),(decide (a1.ak>a0.bw)))
 else
  if v3.2 then
   some (v1,false)
  else
   if(a1.ah==1)then
    (Lf a1.az).bind λv4=>
    Ax (RM ((([]:List Ai).length:Int)+((a1.af).length:Int)) 40)<|
    (dO v1.al (⟨a1.bc,a1.ak,a1.br,v4,a1.af⟩:AX)).bind λv5=>
    if v2.2 then
     some ((⟨a1.ak,v1.aq,v5,v1.bz⟩:AD),false)
    else
     if(decide (a1.ak>a0.bw))then
      (gO a0 a1.az a1.af).bind λv6=>
      some ((⟨a1.ak,v1.aq,v5,v1.bz⟩:AD),v6)
     else
      some ((⟨a1.ak,v1.aq,v5,v1.bz⟩:AD),false)
   else
    if a1.dj then
     if((!v2.2)||(decide (v2.1.ak>a1.ak)))then
      some (v1,false)
     else
      (jR a0.aq v2.1.af a1.ak).bind λv7=>
      if(!v7.2)then
       some (v1,false)
      else
       (iM a0.bw a1.ak).bind λv8=>
       (XY v1.al a1.bc).bind λv9=>
       (XE v1.bz (⟨a1.bc,a1.dj,a1.ak⟩:Cm)).bind λv10=>
       some ((⟨v8,v7.1,v9,v10⟩:AD),true)
    else
     (XY v1.al a1.bc).bind λv11=>
     (XE v1.bz (⟨a1.bc,a1.dj,a1.ak⟩:Cm)).bind λv12=>
     some ((⟨v1.bw,v1.aq,v11,v12⟩:AD),true)
def TH(a0:List BG)(v1:List Bool)(v2 v3:Int)(v4:List Ap)(v5:List AX)(v6:List Cm):Option ((List Bool × Int × Int × List Ap × List AX × List Cm) ⊕ Option (AD × List Bool)):=
 if(decide (v2<(a0.length:Int)))then
  (Ak a0 v2).bind λy7=>
  (fT (⟨v3,v4,v5,v6⟩:AD) y7).bind λv8=>
  if v8.2 then
   Ax (RM (((v1).length:Int)+(([v8.2]:List Bool).length:Int)) 1)<|
   some (.inl ((v1++ [v8.2]),(IntKind.i64.wrap (v2+1)),v8.1.bw,v8.1.aq,v8.1.al,v8.1.bz))
  else
   Ax (RM (((v1).length:Int)+(([v8.2]:List Bool).length:Int)) 1)<|
   some (.inl ((v1++ [v8.2]),(IntKind.i64.wrap (v2+1)),v3,v4,v5,v6))
 else
  some (.inr (some ((⟨v3,v4,v5,v6⟩:AD),v1)))
def jP(a0:List BG):Option (AD × List Bool):=
 Ao (λs:List Bool × Int × Int × List Ap × List AX × List Cm=>TH a0 s.1 s.2.1 s.2.2.1 s.2.2.2.1 s.2.2.2.2.1 s.2.2.2.2.2) ([],0,0,[],[],[])
def wV(v1:List BG):Option (AD):=
 (jP v1).bind λv2=>
 some v2.1
def S1(a0:List Cb)(a1:Int)(v3:List BG)(v4:Int):Option ((List BG × Int) ⊕ Option (AD)):=
 if(decide (v4<((A1 a0 0 a1).length:Int)))then
  (Ak (A1 a0 0 a1) v4).bind λy5=>
  Ax (RM (((v3).length:Int)+(([y5.fRec]:List BG).length:Int)) 88)<|
  some (.inl ((v3++ [y5.fRec]),(IntKind.i64.wrap (v4+1))))
 else
  some (.inr (wV v3))
def fH(a0:List Cb)(a1:Int):Option (AD):=
 Ax (0<=(0:Int)/\(0:Int)<=a1/\a1<=(a0.length:Int))<|
 Ao (λs:List BG × Int=>S1 a0 a1 s.1 s.2) ([],0)
def xY(a0:BZ)(v1:Int):Option (AD):=
 (Ak a0.ar v1).bind λy2=>
 (fH y2.ct y2.cx).bind λv3=>
 some v3
def QC(a0:BZ)(v4 v5:Int):Option ((Int × Int) ⊕ Option (AD)):=
 if(decide (v4<(a0.ar.length:Int)))then
  (Ak a0.ar v4).bind λy6=>
  (Ak a0.ar v5).bind λy7=>
  if(decide (y6.cx>y7.cx))then
   some (.inl ((IntKind.i64.wrap (v4+1)),v4))
  else
   some (.inl ((IntKind.i64.wrap (v4+1)),v5))
 else
  some (.inr (xY a0 v5))
def XX(a0:BZ):Option (AD):=
 Ao (λs:Int × Int=>QC a0 s.1 s.2) (0,0)
def X6(a0 a1:Int):Option (Int):=
 if(decide (a0<a1))then
  some a0
 else
  some a1
def Sz(a0:AD)(v1 v2:Int):Option ((Int × Int) ⊕ Option (Int)):=
 if(decide (v2<(a0.al.length:Int)))then
  (Ak a0.al v2).bind λy3=>
  (X6 v1 (IntKind.i64.wrap (y3.ak-1))).bind λv4=>
  some (.inl (v4,(IntKind.i64.wrap (v2+1))))
 else
  some (.inr (some v1))
def eA(a0:AD):Option (Int):=
 Ao (λs:Int × Int=>Sz a0 s.1 s.2) (a0.bw,0)
def Qv(a0:BA)(v2 v3:Int):Option ((Int × Int) ⊕ Option (Int × Bool)):=
 if(decide (v3<(a0.aw.length:Int)))then
  (Ak a0.aw v3).bind λy4=>
  (XX y4).bind λv5=>
  (eA v5).bind λv6=>
  (X6 v2 v6).bind λv7=>
  some (.inl (v7,(IntKind.i64.wrap (v3+1))))
 else
  some (.inr (some (v2,true)))
def wD(a0:BA):Option (Int × Bool):=
 (QQ a0).bind λv1=>
 if(!v1)then
  some (0,false)
 else
  Ao (λs:Int × Int=>Qv a0 s.1 s.2) (100000,0)
def dP(a0:BA):Option (Int):=
 (wD a0).bind λv1=>
 some v1.1
def TK(a0:Ap)(a1:Int)(v1:Bool)(v2 v3:Int)(v4:Ab)(v5:Bool):Option ((Bool × Int × Int × Ab × Bool) ⊕ Option (CE × Bool)):=
 if(decide (v2<(a0.au.length:Int)))then
  (Ak a0.au v2).bind λy6=>
  if(decide (y6.ak<=a1))then
   some (.inl (true,(IntKind.i64.wrap (v2+1)),y6.ak,y6.bf,y6.bu))
  else
   some (.inl (v1,(IntKind.i64.wrap (v2+1)),v3,v4,v5))
 else
  some (.inr (some ((⟨v3,v4,v5⟩:CE),v1)))
def jV(a0:Ap)(a1:Int):Option (CE × Bool):=
 Ao (λs:Bool × Int × Int × Ab × Bool=>TK a0 a1 s.1 s.2.1 s.2.2.1 s.2.2.2.1 s.2.2.2.2) (false,0,0,([]:Ab),false)
def TQ(a0:List Ap)(a1:Int)(v1:List Ai)(v2:Int):Option ((List Ai × Int) ⊕ Option (List Ai)):=
 if(decide (v2<(a0.length:Int)))then
  (Ak a0 v2).bind λy3=>
  (jV y3 a1).bind λv4=>
  if(v4.2&&(!v4.1.bu))then
   Ax (RM (((v1).length:Int)+(([(⟨y3.ab,v4.1.bf,false⟩:Ai)]:List Ai).length:Int)) 40)<|
   some (.inl ((v1++ [(⟨y3.ab,v4.1.bf,false⟩:Ai)]),(IntKind.i64.wrap (v2+1))))
  else
   some (.inl (v1,(IntKind.i64.wrap (v2+1))))
 else
  some (.inr (some v1))
def jT(a0:List Ap)(a1:Int):Option (List Ai):=
 Ao (λs:List Ai × Int=>TQ a0 a1 s.1 s.2) ([],0)
def eS(a0:List Ai)(a1:Ai)(v1:Int):Option (List Ai):=
 if(decide (v1>0))then
  (Ak a0 (IntKind.i64.wrap (v1-1))).bind λy2=>
  if(y2.ab==a1.ab)then
   Ax (RM ((([]:List Ai).length:Int)+((a0).length:Int)) 40)<|
   (Ak a0 (IntKind.i64.wrap (v1-1))).bind λy3=>
   some (a0.set ((IntKind.i64.wrap (v1-1))).toNat a1)
  else
   Ax (0<=v1/\v1<=(a0.length:Int)/\(a0.length:Int)<=(a0.length:Int))<|
   Ax (RM ((([]:List Ai).length:Int)+(((A1 a0 v1 (a0.length:Int))).length:Int)) 40)<|
   Ax (0<=(0:Int)/\(0:Int)<=v1/\v1<=(a0.length:Int))<|
   Ax (RM ((([]:List Ai).length:Int)+(((A1 a0 0 v1)).length:Int)) 40)<|
   Ax (RM ((((A1 a0 0 v1)).length:Int)+(([a1]:List Ai).length:Int)) 40)<|
   Ax (RM (((((A1 a0 0 v1)++ [a1])).length:Int)+(((A1 a0 v1 (a0.length:Int))).length:Int)) 40)<|
   some (((A1 a0 0 v1)++ [a1])++(A1 a0 v1 (a0.length:Int)))
 else
  Ax (0<=v1/\v1<=(a0.length:Int)/\(a0.length:Int)<=(a0.length:Int))<|
  Ax (RM ((([]:List Ai).length:Int)+(((A1 a0 v1 (a0.length:Int))).length:Int)) 40)<|
  Ax (0<=(0:Int)/\(0:Int)<=v1/\v1<=(a0.length:Int))<|
  Ax (RM ((([]:List Ai).length:Int)+(((A1 a0 0 v1)).length:Int)) 40)<|
  Ax (RM ((((A1 a0 0 v1)).length:Int)+(([a1]:List Ai).length:Int)) 40)<|
  Ax (RM (((((A1 a0 0 v1)++ [a1])).length:Int)+(((A1 a0 v1 (a0.length:Int))).length:Int)) 40)<|
  some (((A1 a0 0 v1)++ [a1])++(A1 a0 v1 (a0.length:Int)))
def QI(a0:List Ai)(a1:Ai)(v4:Int):Option ((Int) ⊕ Option (List Ai)):=
 if(decide (v4>0))then
  (Ak a0 (IntKind.i64.wrap (v4-1))).bind λy5=>
  if(!(Op.bytesLess y5.ab a1.ab||y5.ab==a1.ab))then
   some (.inl (IntKind.i64.wrap (v4-1)))
  else
   some (.inr (eS a0 a1 v4))
 else
  some (.inr (eS a0 a1 v4))
def jG(a0:List Ai)(a1:Ai):Option (List Ai):=
 Ao (λs:Int=>QI a0 a1 s) (a0.length:Int)
def w6(v2:Int)(v6:List Ai):Option ((List Ai × Int) ⊕ Option (List Ai)):=
 some (.inl (v6,(IntKind.i64.wrap (v2+1))))
def TB(v2:Int)(v5:List Ai)(v7:Int)(v8:List Ai):Option ((Int × List Ai) ⊕ Option ((List Ai × Int) ⊕ Option (List Ai))):=
 if(decide (v7<(v5.length:Int)))then
  (Ak v5 v7).bind λy9=>
  (jG v8 y9).bind λv10=>
  some (.inl ((IntKind.i64.wrap (v7+1)),v10))
 else
  some (.inr (w6 v2 v8))
def Tq(a0:BA)(a1:Int)(v1:List Ai)(v2:Int):Option ((List Ai × Int) ⊕ Option (List Ai)):=
 if(decide (v2<(a0.aw.length:Int)))then
  (Ak a0.aw v2).bind λy3=>
  (XX y3).bind λv4=>
  (jT v4.aq a1).bind λv5=>
  Ao (λs:Int × List Ai=>TB v2 v5 s.1 s.2) (0,v1)
 else
  some (.inr (some v1))
def gR(a0:BA)(a1:Int):Option (List Ai):=
 Ao (λs:List Ai × Int=>Tq a0 a1 s.1 s.2) ([],0)
def yJ(a0:List Ai):Option (Bool):=
 (X3 a0).bind λv1=>
 some v1
def yI(a0:List Ai)(v2:Int):Option ((Int) ⊕ Option (Bool)):=
 if(decide (v2<(a0.length:Int)))then
  (Ak a0 v2).bind λy3=>
  if y3.bu then
   some (.inr (some false))
  else
   some (.inl (IntKind.i64.wrap (v2+1)))
 else
  some (.inr (yJ a0))
def jB(a0:List Ai):Option (Bool):=
 Ao (λs:Int=>yI a0 s) 0
def fQ(a0:An)(a1:Ab)(a2:List Ai):Option (Bool):=
 (OQ a0).bind λv1=>
 if v1 then
  (OU a0 a1).bind λv2=>
  if(decide (v2>=0))then
   (jB a2).bind λv3=>
   some v3
  else
   some false
 else
  some false
def xI(a0:Ab)(v1:Int)(v2:List (Ab)):Option (List (Ab)):=
 Ax (0<=v1/\v1<=(a0.length:Int)/\(a0.length:Int)<=(a0.length:Int))<|
 Ax (RM (((v2).length:Int)+(([(A1 a0 v1 (a0.length:Int))]:List (Ab)).length:Int)) 16)<|
 some (v2++ [(A1 a0 v1 (a0.length:Int))])
def SM(a0:Ab)(a1:Int)(v3:List (Ab))(v4 v5:Int):Option ((List (Ab) × Int × Int) ⊕ Option (List (Ab))):=
 if(decide (v5<(a0.length:Int)))then
  (Ak a0 v5).bind λy6=>
  if((y6.toNat:Int)==a1)then
   Ax (0<=v4/\v4<=v5/\v5<=(a0.length:Int))<|
   Ax (RM (((v3).length:Int)+(([(A1 a0 v4 v5)]:List (Ab)).length:Int)) 16)<|
   some (.inl ((v3++ [(A1 a0 v4 v5)]),(IntKind.i64.wrap (v5+1)),(IntKind.i64.wrap (v5+1))))
  else
   some (.inl (v3,v4,(IntKind.i64.wrap (v5+1))))
 else
  some (.inr (xI a0 v4 v3))
def TU(a0:Ab)(a1:Int):Option (List (Ab)):=
 Ao (λs:List (Ab) × Int × Int=>SM a0 a1 s.1 s.2.1 s.2.2) ([],0,0)
def QE(a0:An)(a1 a2:Ab):Option (Ab × Ab × Bool):=
 (TU a2 47).bind λv1=>
 if((v1.length:Int) !=3)then
  some (([]:Ab),([]:Ab),false)
 else
  (Ak v1 0).bind λy2=>
  Ax ((a0.ae).length+(([46]:Ab)).length<=9223372036854775807)<|
  Ax (((a0.ae++([46]:Ab))).length+(a1).length<=9223372036854775807)<|
  if(y2 !=((a0.ae++([46]:Ab))++a1))then
   some (([]:Ab),([]:Ab),false)
  else
   (Ak v1 1).bind λy3=>
   (TN y3).bind λv4=>
   if v4 then
    (Ak v1 2).bind λy5=>
    (TN y5).bind λv6=>
    if(!v6)then
     some (([]:Ab),([]:Ab),false)
    else
     some (y3,y5,true)
   else
    some (([]:Ab),([]:Ab),false)
def SA(a0:An)(a1:Ab)(a2:List Ai)(v1:List (Ab))(v2:Int):Option ((List (Ab) × Int) ⊕ Option (List (Ab))):=
 if(decide (v2<(a2.length:Int)))then
  (Ak a2 v2).bind λy3=>
  (QE a0 a1 y3.ab).bind λv4=>
  if v4.2.2 then
   Ax (RM (((v1).length:Int)+(([y3.ab]:List (Ab)).length:Int)) 16)<|
   some (.inl ((v1++ [y3.ab]),(IntKind.i64.wrap (v2+1))))
  else
   some (.inl (v1,(IntKind.i64.wrap (v2+1))))
 else
  some (.inr (some v1))
def xU(a0:An)(a1:Ab)(a2:List Ai):Option (List (Ab)):=
 Ao (λs:List (Ab) × Int=>SA a0 a1 a2 s.1 s.2) ([],0)
def yZ(a0:An)(a1:Ab)(a2:List Ai):Option (List (Ab) × Bool):=
 (fQ a0 a1 a2).bind λv1=>
 if(!v1)then
  some ([],false)
 else
  (xU a0 a1 a2).bind λv2=>
  some (v2,true)
def dN(a0:An)(a1 a2:Ab):Option (Ab × Ab × Bool):=
 (QE a0 a1 a2).bind λv1=>
 (T6 a0 a1).bind λv2=>
 if((!v2.2)||(!v1.2.2))then
  some (([]:Ab),([]:Ab),false)
 else
  some (v1.1,v1.2.1,true)
def QL(a0:CI)(a1:Ab)(y6:An)(v8:List (Ab) × Bool)(v9:List (Ab))(v10:Int):Option ((List (Ab) × Int) ⊕ Option (List (Ab) × Bool)):=
 if(decide (v10<(v8.1.length:Int)))then
  (Ak v8.1 v10).bind λy11=>
  (dN y6 a0.ae y11).bind λv12=>
  if(v12.2.2&&(v12.1==a1))then
   (TV v9 v12.2.1).bind λv13=>
   some (.inl (v13,(IntKind.i64.wrap (v10+1))))
  else
   some (.inl (v9,(IntKind.i64.wrap (v10+1))))
 else
  some (.inr (some (v9,true)))
def gY(a0:CI)(a1:Ab)(a2:Int):Option (List (Ab) × Bool):=
 (gE a0).bind λv1=>
 if v1 then
  (Dd (a1.length:Int) 1 3).bind λv2=>
  if v2 then
   if(a0.fw !=2)then
    some ([],false)
   else
    (Ak a0.bg 2).bind λy3=>
    (dP a0.ao).bind λv4=>
    (Dd a2 y3 v4).bind λv5=>
    if(!v5)then
     some ([],false)
    else
     (Ak a0.cq 0).bind λy6=>
     (gR a0.ao a2).bind λv7=>
     (yZ y6 a0.ae v7).bind λv8=>
     if(!v8.2)then
      some ([],false)
     else
      Ao (λs:List (Ab) × Int=>QL a0 a1 y6 v8 s.1 s.2) ([],0)
  else
   some ([],false)
 else
  some ([],false)
def Ed(a0 a1 a2:Int):Option (Bool):=
 some ((decide (a0>=a1))&&(decide (a0<=a2)))
def vT(a0:Ab)(a1:Int):Option (Bool):=
 (Ed (a0.length:Int) 1 a1).bind λv1=>
 some v1
def vU(a0:Ab)(a1 v2:Int):Option ((Int) ⊕ Option (Bool)):=
 if(decide (v2<(a0.length:Int)))then
  (Ak a0 v2).bind λy3=>
  if((decide ((y3.toNat:Int)<97))||(decide ((y3.toNat:Int)>122)))then
   some (.inr (some false))
  else
   some (.inl (IntKind.i64.wrap (v2+1)))
 else
  some (.inr (vT a0 a1))
def SU(a0:Ab)(a1:Int):Option (Bool):=
 Ao (λs:Int=>vU a0 a1 s) 0
def u9(a0:List (Ab))(a1:Ab)(v1:Int):Option ((Int) ⊕ Option (Int)):=
 if(decide (v1<(a0.length:Int)))then
  (Ak a0 v1).bind λy2=>
  if(a1==y2)then
   some (.inr (some v1))
  else
   some (.inl (IntKind.i64.wrap (v1+1)))
 else
  some (.inr (some (-1)))
def bW(a0:List (Ab))(a1:Ab):Option (Int):=
 Ao (λs:Int=>u9 a0 a1 s) 0
def Xn(a0:List (Ab))(a1:Ab):Option (Bool):=
 (bW a0 a1).bind λv1=>
 some (decide (v1>=0))
def zok(a0:Int):Option (Bool):=
 (Ed a0 0 3).bind λv1=>
 some v1
def dK(a0:An)(v3:Int):Option ((Int) ⊕ Option (Bool)):=
 if(decide (v3<(a0.aj.length:Int)))then
  (Ak a0.aj v3).bind λy4=>
  (SU y4.ae 1).bind λv5=>
  if v5 then
   (Ed y4.dk 1 (IntKind.i64.wrap ((a0.bd.length:Int)-1))).bind λv6=>
   if v6 then
    (zok y4.bh).bind λv7=>
    if(decide (v3>0))then
     if v7 then
      (Ak a0.aj (IntKind.i64.wrap (v3-1))).bind λy8=>
      if(Op.bytesLess y4.ae y8.ae||y4.ae==y8.ae)then
       some (.inr (some false))
      else
       some (.inl (IntKind.i64.wrap (v3+1)))
     else
      some (.inr (some false))
    else
     if((!v7)||false)then
      some (.inr (some false))
     else
      some (.inl (IntKind.i64.wrap (v3+1)))
   else
    some (.inr (some false))
  else
   some (.inr (some false))
 else
  some (.inr (some true))
def wB(a0:An):Option (Bool):=
 Ao (λs:Int=>dK a0 s) 0
def dH(a0:An)(v9:Int):Option ((Int) ⊕ Option (Bool)):=
 if(decide (v9<(a0.bd.length:Int)))then
  (Ak a0.bd v9).bind λy10=>
  (SU y10 3).bind λv11=>
  if v11 then
   Ax (0<=(0:Int)/\(0:Int)<=v9/\v9<=(a0.bd.length:Int))<|
   (Xn (A1 a0.bd 0 v9) y10).bind λv12=>
   if v12 then
    some (.inr (some false))
   else
    some (.inl (IntKind.i64.wrap (v9+1)))
  else
   some (.inr (some false))
 else
  some (.inr (wB a0))
def eE(a0:An):Option (Bool):=
 (SU a0.ae 1).bind λv1=>
 if v1 then
  (Ed (a0.bd.length:Int) 2 4).bind λv2=>
  if((!v2)||(decide ((a0.aj.length:Int)>3)))then
   some false
  else
   Ao (λs:Int=>dH a0 s) 0
 else
  some false
def vE(a0:A5)(a1:Ab):Option (Bool):=
 some (a0.ae==a1)
def SG(a0:An)(a1:Ab):Option (Int):=
 (FK a0.aj (λy0_=>vE y0_ a1)).bind λv1=>
 some v1
def iU(a0:An)(a1:Ab):Option (Bool):=
 (eE a0).bind λv1=>
 if v1 then
  (SG a0 a1).bind λv2=>
  some (decide (v2>=0))
 else
  some false
def M9(a0:An)(a1:Ab):Option (A5):=
 (SG a0 a1).bind λv1=>
 (Ak a0.aj v1).bind λy2=>
 some y2
def Qt(xs:List (Ab)):Option (List (Ab)):=Pe 16 xs
def u7(xs:List A5):Option (List A5):=Pe 32 xs
def XS(a0:An):Option (An):=
 (Qt a0.bd).bind λv1=>
 (u7 a0.aj).bind λv2=>
 some (⟨a0.ae,v1,v2⟩:An)
def Xr(a0:An)(a1:Ab)(a2:Int):Option (An):=
 (XS a0).bind λv1=>
 (SG a0 a1).bind λv2=>
 (Ak v1.aj v2).bind λy3=>
 some (⟨v1.ae,v1.bd,(v1.aj.set (v2).toNat {y3 with bh:=a2})⟩:An)
def Xs(a0:An)(a1:Ab)(a2 v3:Int)(v4:List An):Option ((Int × List An) ⊕ Option (List An)):=
 if(v3 !=a2)then
  if(decide (v3<a2))then
   (Xr a0 a1 (IntKind.i64.wrap (v3+1))).bind λv5=>
   Ax (RM (((v4).length:Int)+(([v5]:List An).length:Int)) 64)<|
   some (.inl ((IntKind.i64.wrap (v3+1)),(v4++ [v5])))
  else
   (Xr a0 a1 (IntKind.i64.wrap (v3-1))).bind λv6=>
   Ax (RM (((v4).length:Int)+(([v6]:List An).length:Int)) 64)<|
   some (.inl ((IntKind.i64.wrap (v3-1)),(v4++ [v6])))
 else
  some (.inr (some v4))
def cU(a0:An)(a1:Ab)(a2:Int):Option (List An):=
 (M9 a0 a1).bind λv1=>
 (XS a0).bind λv2=>
 Ao (λs:Int × List An=>Xs a0 a1 a2 s.1 s.2) (v1.bh,[v2])
def Xm(a0 a1:List An)(a2:An->An->Option Bool)(v1:Int):Option ((Int) ⊕ Option (Bool)):=
 if(decide (v1<(a0.length:Int)))then
  (Ak a0 v1).bind λy2=>
  (Ak a1 v1).bind λy3=>
  (a2 y2 y3).bind λv4=>
  if(!v4)then
   some (.inr (some false))
  else
   some (.inl (IntKind.i64.wrap (v1+1)))
 else
  some (.inr (some true))
def bP(a0 a1:List An)(a2:An->An->Option Bool):Option (Bool):=
 if((a0.length:Int) !=(a1.length:Int))then
  some false
 else
  Ao (λs:Int=>Xm a0 a1 a2 s) 0
def LX(a0:List (Ab))(a1:List (Ab))(v1:Int):Option ((Int) ⊕ Option (Bool)):=
 if(decide (v1<(a0.length:Int)))then
  (Ak a0 v1).bind λy2=>
  (Ak a1 v1).bind λy3=>
  if(y2 !=y3)then
   some (.inr (some false))
  else
   some (.inl (IntKind.i64.wrap (v1+1)))
 else
  some (.inr (some true))
def M7(a0:List (Ab))(a1:List (Ab)):Option (Bool):=
 if((a0.length:Int) !=(a1.length:Int))then
  some false
 else
  Ao (λs:Int=>LX a0 a1 s) 0
def Xl(a0 a1:List A5)(v1:Int):Option ((Int) ⊕ Option (Bool)):=
 if(decide (v1<(a0.length:Int)))then
  (Ak a0 v1).bind λy2=>
  (Ak a1 v1).bind λy3=>
  if(!(y2.ae==y3.ae&&(y2.dk==y3.dk&&(y2.bh==y3.bh))))then
   some (.inr (some false))
  else
   some (.inl (IntKind.i64.wrap (v1+1)))
 else
  some (.inr (some true))
def bX(a0 a1:List A5):Option (Bool):=
 if((a0.length:Int) !=(a1.length:Int))then
  some false
 else
  Ao (λs:Int=>Xl a0 a1 s) 0
def OO(a0 a1:An):Option (Bool):=
 if(a0.ae==a1.ae)then
  (M7 a0.bd a1.bd).bind λv1=>
  if v1 then
   (bX a0.aj a1.aj).bind λv2=>
   some v2
  else
   some false
 else
  some false
def fZ(a0:List An)(a1:Ab):Option (Bool):=
 if((a0.length:Int)==4)then
  (Ak a0 0).bind λy1=>
  (iU y1 a1).bind λv2=>
  if v2 then
   (M9 y1 a1).bind λv3=>
   if(v3.bh==0)then
    (cU y1 a1 3).bind λv4=>
    (bP a0 v4 (λy0_ y1_=>OO y0_ y1_)).bind λv5=>
    some v5
   else
    some false
  else
   some false
 else
  some false
def Nc(a0:Int):Option (Bool):=
 (Ed a0 0 100000).bind λv1=>
 some v1
def S2(a0:List Int)(v1:Int):Option ((Int) ⊕ Option (Bool)):=
 if(decide (v1<(a0.length:Int)))then
  (Ak a0 v1).bind λy2=>
  (Nc y2).bind λv3=>
  if(decide (v1>0))then
   if v3 then
    if(v1==0)then
     if(y2 !=0)then
      some (.inr (some false))
     else
      (Ak a0 (IntKind.i64.wrap (v1-1))).bind λy4=>
      if(decide (y2<y4))then
       some (.inr (some false))
      else
       some (.inl (IntKind.i64.wrap (v1+1)))
    else
     (Ak a0 (IntKind.i64.wrap (v1-1))).bind λy5=>
     if(decide (y2<y5))then
      some (.inr (some false))
     else
      some (.inl (IntKind.i64.wrap (v1+1)))
   else
    some (.inr (some false))
  else
   if(((!v3)||((v1==0)&&(y2 !=0)))||false)then
    some (.inr (some false))
   else
    some (.inl (IntKind.i64.wrap (v1+1)))
 else
  some (.inr (some true))
def eZ(a0:List Int):Option (Bool):=
 Ao (λs:Int=>S2 a0 s) 0
def vW(a0:Int):Option (Bool):=
 some (((decide (a0>=97))&&(decide (a0<=122)))||((decide (a0>=48))&&(decide (a0<=57))))
def wN(a0:Ab)(a1:Int):Option (Int):=
 (bU a0 a1).bind λv1=>
 some v1
def wX(a0 a1:Ab)(v1:Int):Option ((Int) ⊕ Option (Bool)):=
 if(decide (v1<(a0.length:Int)))then
  (Ak a0 v1).bind λy2=>
  (vW (y2.toNat:Int)).bind λv3=>
  if v3 then
   some (.inl (IntKind.i64.wrap (v1+1)))
  else
   (wN a1 (y2.toNat:Int)).bind λv4=>
   if(decide (v4<0))then
    some (.inr (some false))
   else
    some (.inl (IntKind.i64.wrap (v1+1)))
 else
  some (.inr (some true))
def TD(a0 a1:Ab):Option (Bool):=
 Ao (λs:Int=>wX a0 a1 s) 0
def QS(a0:Ab):Option (Bool):=
 (Ed (a0.length:Int) 1 12).bind λv1=>
 if v1 then
  (TD a0 ([46,47]:Ab)).bind λv2=>
  some v2
 else
  some false
def wC(a0:List (Ab))(v1:Int):Option ((Int) ⊕ Option (Bool)):=
 if(decide (v1<(a0.length:Int)))then
  (Ak a0 v1).bind λy2=>
  (QS y2).bind λv3=>
  if(decide (v1>0))then
   if v3 then
    (Ak a0 (IntKind.i64.wrap (v1-1))).bind λy4=>
    if(Op.bytesLess y2 y4||y2==y4)then
     some (.inr (some false))
    else
     some (.inl (IntKind.i64.wrap (v1+1)))
   else
    some (.inr (some false))
  else
   if((!v3)||false)then
    some (.inr (some false))
   else
    some (.inl (IntKind.i64.wrap (v1+1)))
 else
  some (.inr (some true))
def Nb(a0:List (Ab)):Option (Bool):=
 Ao (λs:Int=>wC a0 s) 0
def fJ(a0:List (Ab)):Option (Bool):=
 if(decide ((a0.length:Int)<4))then
  (Nb a0).bind λv1=>
  some v1
 else
  some false
def zpQ(a0:Int):Option (Bool):=
 some ((a0==3)||(a0==5))
def vM(a0:BZ)(a1:Int):Option (Bool):=
 (Ed a1 0 (IntKind.i64.wrap ((a0.ar.length:Int)-1))).bind λv1=>
 some v1
def Yj(a0:Int):Option (Bool):=
 (Ed a0 1 60).bind λv1=>
 some v1
def OV(a0:Int):Option (Bool):=
 (Ed a0 1 100000).bind λv1=>
 some v1
def Sq(a0:List Ai)(v1:Int)(v2:List (Ab)):Option ((Int × List (Ab)) ⊕ Option (List (Ab))):=
 if(decide (v1<(a0.length:Int)))then
  (Ak a0 v1).bind λy3=>
  Ax (RM (((v2).length:Int)+(([y3.ab]:List (Ab)).length:Int)) 16)<|
  some (.inl ((IntKind.i64.wrap (v1+1)),(v2++ [y3.ab])))
 else
  some (.inr (some v2))
def eC(a0:List Ai):Option (List (Ab)):=
 Ao (λs:Int × List (Ab)=>Sq a0 s.1 s.2) (0,[])
def X4(a0:Ab):Option (Bool):=
 if(decide ((a0.length:Int)<=24))then
  (TD a0 ([46,45,44,95]:Ab)).bind λv1=>
  some v1
 else
  some false
def TC(a0:Ab)(a1:Bool):Option (Bool):=
 (X4 a0).bind λv1=>
 some (v1&&(!(a1&&(a0 !=([]:Ab)))))
def cO(a0:Ai):Option (Bool):=
 (TC a0.bf a0.bu).bind λv1=>
 some (!v1)
def XD(a0:List Ai):Option (Bool):=
 if(decide ((a0.length:Int)<=24))then
  (eC a0).bind λv1=>
  (Nb v1).bind λv2=>
  if v2 then
   (DB a0 (λy0_=>cO y0_)).bind λv3=>
   some (!v3)
  else
   some false
 else
  some false
def dU(a0:BG)(v6:Bool):Option (Bool):=
 if v6 then
  if(a0.br==0)then
   if((a0.az.length:Int)==0)then
    if((a0.af.length:Int)==0)then
     (Yj a0.bc).bind λv7=>
     if a0.dj then
      if v7 then
       (OV a0.ak).bind λv8=>
       some (v8||false)
      else
       some false
     else
      some (v7&&(a0.ak==0))
    else
     some false
   else
    some false
  else
   some false
 else
  if(a0.ah==4)then
   if(a0.br==0)then
    if((a0.az.length:Int)==0)then
     if((a0.af.length:Int)==0)then
      if(a0.bc==0)then
       (OV a0.ak).bind λv9=>
       some (v9&&(!a0.dj))
      else
       some false
     else
      some false
    else
     some false
   else
    some false
  else
   some false
def gV(a0:BG):Option (Bool):=
 if(a0.ah==1)then
  (Yj a0.bc).bind λv1=>
  if v1 then
   (OV a0.ak).bind λv2=>
   if v2 then
    (Ed a0.br 0 3).bind λv3=>
    if v3 then
     if(decide ((a0.az.length:Int)<=8))then
      (Nb a0.az).bind λv4=>
      if v4 then
       if(decide ((a0.af.length:Int)<=8))then
        (XD a0.af).bind λv5=>
        some ((v5&&(decide ((IntKind.i64.wrap ((a0.az.length:Int)+(a0.af.length:Int)))>0)))&&(!a0.dj))
       else
        some false
      else
       some false
     else
      some false
    else
     some false
   else
    some false
  else
   some false
 else
  if(a0.ah==2)then
   dU a0 (a0.ah==2)
  else
   dU a0 (a0.ah==3)
def yW(a0:List Cb):Option (Bool):=
 some (decide ((a0.length:Int)<=60))
def TJ(a0:List Cb)(a1 v1:Int):Option ((Int) ⊕ Option (Bool)):=
 if(decide (v1<(a0.length:Int)))then
  (Ak a0 v1).bind λy2=>
  (Ed y2.cd 1 a1).bind λv3=>
  if v3 then
   (gV y2.fRec).bind λv4=>
   if(decide (v1>0))then
    if v4 then
     (Ak a0 (IntKind.i64.wrap (v1-1))).bind λy5=>
     if(decide (y2.cd<y5.cd))then
      some (.inr (some false))
     else
      some (.inl (IntKind.i64.wrap (v1+1)))
    else
     some (.inr (some false))
   else
    if((!v4)||false)then
     some (.inr (some false))
    else
     some (.inl (IntKind.i64.wrap (v1+1)))
  else
   some (.inr (some false))
 else
  some (.inr (yW a0))
def jO(a0:List Cb)(a1:Int):Option (Bool):=
 Ao (λs:Int=>TJ a0 a1 s) 0
def Ta(a0:Ct)(a1:BZ):Option (Bool):=
 (jO a0.ct a1.cd).bind λv1=>
 if v1 then
  (Ed a0.cx 0 (a0.ct.length:Int)).bind λv2=>
  some (!v2)
 else
  some true
def eQ(a0:BZ):Option (Bool):=
 (zpQ (a0.ar.length:Int)).bind λv1=>
 if v1 then
  (Ed a0.cd 0 200).bind λv2=>
  if(a0.br !=(-1))then
   if v2 then
    (vM a0 a0.br).bind λv3=>
    if v3 then
     (Ak a0.ar a0.br).bind λy4=>
     if(!y4.ju)then
      some false
     else
      (DB a0.ar (λy0_=>Ta y0_ a0)).bind λv5=>
      some (!v5)
    else
     some false
   else
    some false
  else
   if((!v2)||false)then
    some false
   else
    (DB a0.ar (λy0_=>Ta y0_ a0)).bind λv6=>
    some (!v6)
 else
  some false
def iT(a0:Bh):Option (Bool):=
 (QS a0.ab).bind λv1=>
 if v1 then
  (Yj a0.bc).bind λv2=>
  some v2
 else
  some false
def zq0(a0 a1:Bh):Option (Bool):=
 some (((a0.ab==a1.ab)&&(a0.bc !=a1.bc))&&(a0.ei||a1.ei))
def xV(a0 a1:Bh):Option (Bool):=
 (zq0 a1 a0).bind λv1=>
 some (v1||((a1.ab==a0.ab)&&(a1.bc==a0.bc)))
def wL(a0:List Bh):Option (Bool):=
 some (decide ((a0.length:Int)<=60))
def Sn(a0:List Bh)(v1:Int):Option ((Int) ⊕ Option (Bool)):=
 if(decide (v1<(a0.length:Int)))then
  (Ak a0 v1).bind λy2=>
  (iT y2).bind λv3=>
  if v3 then
   Ax (0<=(0:Int)/\(0:Int)<=v1/\v1<=(a0.length:Int))<|
   (DB (A1 a0 0 v1) (λy0_=>xV y0_ y2)).bind λv4=>
   if v4 then
    some (.inr (some false))
   else
    some (.inl (IntKind.i64.wrap (v1+1)))
  else
   some (.inr (some false))
 else
  some (.inr (wL a0))
def eV(a0:List Bh):Option (Bool):=
 Ao (λs:Int=>Sn a0 s) 0
def zp5(a0:DG):Option (Bool):=
 (Ed a0.gp (-5) 5).bind λv1=>
 some v1
def dD(a0:DG):Option (Bool):=
 (zp5 a0).bind λv1=>
 some (!v1)
def zpd(a0:Int):Option (Bool):=
 some ((a0==2)||(a0==7))
def kA(a0:Int):Option (Bool):=
 some ((a0==4)||(a0==5))
def kM(a0:AL):Option (Bool):=
 (Ed a0.ah 1 7).bind λv1=>
 if v1 then
  (QS a0.ab).bind λv2=>
  if v2 then
   (X4 a0.bf).bind λv3=>
   if v3 then
    (zpd a0.ah).bind λv4=>
    if v4 then
     (Ed a0.ie (-9999) 9999).bind λv5=>
     if v5 then
      (kA a0.ah).bind λv6=>
      some (v6||(a0.ie==0))
     else
      some false
    else
     if(a0.bf==([]:Ab))then
      (Ed a0.ie (-9999) 9999).bind λv7=>
      if v7 then
       (kA a0.ah).bind λv8=>
       some (v8||(a0.ie==0))
      else
       some false
     else
      some false
   else
    some false
  else
   some false
 else
  some false
def eF(a0:AL):Option (Bool):=
 (kM a0).bind λv1=>
 some (!v1)
def gJ(a0:List AL):Option (Bool):=
 if(decide ((a0.length:Int)<=8))then
  (DB a0 (λy0_=>eF y0_)).bind λv1=>
  some (!v1)
 else
  some false
def yM(a0:List AL):Option (Bool):=
 if(decide ((a0.length:Int)>0))then
  (gJ a0).bind λv1=>
  some v1
 else
  some false
def yX(a0 a1:Ce):Option (Bool):=
 some (a0.ab==a1.ab)
def yY(a0:List Ce):Option (Bool):=
 some (decide ((a0.length:Int)<=8))
def Te(a0:List Ce)(v1:Int):Option ((Int) ⊕ Option (Bool)):=
 if(decide (v1<(a0.length:Int)))then
  (Ak a0 v1).bind λy2=>
  (QS y2.ab).bind λv3=>
  if v3 then
   (TC y2.bf (!y2.dz)).bind λv4=>
   if v4 then
    Ax (0<=(0:Int)/\(0:Int)<=v1/\v1<=(a0.length:Int))<|
    (DB (A1 a0 0 v1) (λy0_=>yX y0_ y2)).bind λv5=>
    if v5 then
     some (.inr (some false))
    else
     some (.inl (IntKind.i64.wrap (v1+1)))
   else
    some (.inr (some false))
  else
   some (.inr (some false))
 else
  some (.inr (yY a0))
def X7(a0:List Ce):Option (Bool):=
 Ao (λs:Int=>Te a0 s) 0
def vC(a0:Int):Option (Bool):=
 (Ed a0 0 200).bind λv1=>
 some (!v1)
def QB(a0:BA)(a1:Int):Option (Bool):=
 (Ed a1 (-1) a0.cz).bind λv1=>
 some v1
def cD(a0:BA)(a1:CV):Option (Bool):=
 (yM a1.ef).bind λv1=>
 if v1 then
  (X7 a1.cm).bind λv2=>
  if v2 then
   if((a1.c6.length:Int)==(a0.aw.length:Int))then
    (DB a1.c6 (λy0_=>vC y0_)).bind λv3=>
    if v3 then
     some false
    else
     (QB a0 a1.di).bind λv4=>
     if v4 then
      (QB a0 a1.ga).bind λv5=>
      if v5 then
       (Nc a1.ak).bind λv6=>
       some v6
      else
       some false
     else
      some false
   else
    some false
  else
   some false
 else
  some false
def XH(a0:CV)(a1:BA):Option (Bool):=
 (cD a1 a0).bind λv1=>
 some (!v1)
def vG(a0:BA)(a1:Int):Option (Bool):=
 (Ed a1 0 (IntKind.i64.wrap ((a0.bj.length:Int)-1))).bind λv1=>
 some v1
def cY(a0:List (Ab)):Option (Bool):=
 (Ed (a0.length:Int) 1 8).bind λv1=>
 if v1 then
  (Nb a0).bind λv2=>
  some v2
 else
  some false
def vA(a0:BA)(a1:Cw):Option (Bool):=
 (Nc a1.ak).bind λv4=>
 if v4 then
  (QB a0 a1.di).bind λv5=>
  if v5 then
   (QB a0 a1.ga).bind λv6=>
   some v6
  else
   some false
 else
  some false
def Sk(a0:BA)(a1:Cw)(v7:Int):Option ((Int) ⊕ Option (Bool)):=
 if(decide (v7<(a1.cm.length:Int)))then
  (Ak a1.cm v7).bind λy8=>
  (Ak a1.ch v7).bind λy9=>
  if(y8.ab !=y9)then
   some (.inr (some false))
  else
   some (.inl (IntKind.i64.wrap (v7+1)))
 else
  some (.inr (vA a0 a1))
def bZ(a0:BA)(a1:Cw):Option (Bool):=
 (vG a0 a1.fg).bind λv1=>
 if v1 then
  (cY a1.ch).bind λv2=>
  if v2 then
   if(decide ((a1.cm.length:Int)>(a1.ch.length:Int)))then
    some false
   else
    (X7 a1.cm).bind λv3=>
    if(!v3)then
     some false
    else
     Ao (λs:Int=>Sk a0 a1 s) 0
  else
   some false
 else
  some false
def XG(a0:Cw)(a1:BA):Option (Bool):=
 (bZ a1 a0).bind λv1=>
 some (!v1)
def wA(a0:BA):Option (Bool):=
 (Nc a0.gr).bind λv2=>
 if v2 then
  (Ed a0.cz 0 1000000).bind λv3=>
  if v3 then
   if(decide ((a0.cf.length:Int)<=6))then
    if(decide ((a0.cc.length:Int)<=4))then
     (DB a0.bj (λy0_=>dD y0_)).bind λv4=>
     if v4 then
      some false
     else
      (DB a0.cf (λy0_=>XH y0_ a0)).bind λv5=>
      if v5 then
       some false
      else
       (DB a0.cc (λy0_=>XG y0_ a0)).bind λv6=>
       some (!v6)
    else
     some false
   else
    some false
  else
   some false
 else
  some false
def S8(a0:BA)(v7:Int):Option ((Int) ⊕ Option (Bool)):=
 if(decide (v7<(a0.aw.length:Int)))then
  (Ak a0.aw v7).bind λy8=>
  (eQ y8).bind λv9=>
  if v9 then
   if((y8.ar.length:Int) !=3)then
    some (.inr (some false))
   else
    (Ak a0.cj v7).bind λy10=>
    (eV y10).bind λv11=>
    if v11 then
     (Ak a0.bm v7).bind λy12=>
     (Nc y12).bind λv13=>
     if(!v13)then
      some (.inr (some false))
     else
      some (.inl (IntKind.i64.wrap (v7+1)))
    else
     some (.inr (some false))
  else
   some (.inr (some false))
 else
  some (.inr (wA a0))
def XK(a0:BA):Option (Bool):=
 if(decide ((a0.bq.length:Int)>2))then
  some false
 else
  (fJ a0.bq).bind λv1=>
  if(((((!v1)||((a0.aw.length:Int) !=(IntKind.i64.wrap ((a0.bq.length:Int)+1))))||((a0.cj.length:Int) !=(IntKind.i64.wrap ((a0.bq.length:Int)+1))))||((a0.bm.length:Int) !=(IntKind.i64.wrap ((a0.bq.length:Int)+1))))||((a0.bj.length:Int) !=(IntKind.i64.wrap ((3:Int)*(IntKind.i64.wrap ((a0.bq.length:Int)+1))))))then
   some false
  else
   Ao (λs:Int=>S8 a0 s) 0
def Ye(a0:Cu):Option (Bool):=
 some (((a0.ah==0)&&((a0.cw.bb.length:Int)==0))&&((a0.c9.bb.length:Int)==0))
def TS(a0:Ab):Option (Bool):=
 (Ed (a0.length:Int) 1 3).bind λv1=>
 if v1 then
  (TD a0 ([]:Ab)).bind λv2=>
  some v2
 else
  some false
def cK(a0:Ab):Option (Bool):=
 (TS a0).bind λv1=>
 some (!v1)
def OJ(a0:An)(a1:CD):Option (Bool):=
 if((a1.bb.length:Int)==(a0.bd.length:Int))then
  (DB a1.bb (λy0_=>cK y0_)).bind λv1=>
  some (!v1)
 else
  some false
def cC(a0:An)(a1:Cu):Option (Bool):=
 if(a1.ah==1)then
  if((a1.cw.bb.length:Int)==0)then
   (OJ a0 a1.c9).bind λv1=>
   some v1
  else
   some false
 else
  if(a1.ah==2)then
   (OJ a0 a1.cw).bind λv2=>
   some (v2&&((a1.c9.bb.length:Int)==0))
  else
   if(a1.ah==3)then
    (OJ a0 a1.cw).bind λv3=>
    if v3 then
     (OJ a0 a1.c9).bind λv4=>
     if v4 then
      (Ak a1.cw.bb 0).bind λy5=>
      (Ak a1.c9.bb 0).bind λy6=>
      some (y5==y6)
     else
      some false
    else
     some false
   else
    some false
def jY(a0:List An)(a1:Dc):Option (Bool):=
 (Ed a1.gh 0 3).bind λv1=>
 if(!v1)then
  some false
 else
  if a1.gz then
   if(decide (a1.gh>=2))then
    (Ye a1.fAct).bind λv2=>
    if v2 then
     (Ak a0 a1.gh).bind λy3=>
     (OJ y3 a1.fRow).bind λv4=>
     some v4
    else
     some false
   else
    some false
  else
   (Ak a0 a1.gh).bind λy5=>
   (cC y5 a1.fAct).bind λv6=>
   some (v6&&((a1.fRow.bb.length:Int)==0))
def Se(a0:An)(a1:CD):Option (Ai):=
 Ax ((a0.ae).length+(([47]:Ab)).length<=9223372036854775807)<|
 (Ak a1.bb 0).bind λy1=>
 Ax (((a0.ae++([47]:Ab))).length+(y1).length<=9223372036854775807)<|
 Ax (0<=(1:Int)/\(1:Int)<=(a1.bb.length:Int)/\(a1.bb.length:Int)<=(a1.bb.length:Int))<|
 (gL (A1 a1.bb 1 (a1.bb.length:Int)) ([44]:Ab)).bind λv2=>
 some (⟨((a0.ae++([47]:Ab))++y1),v2,false⟩:Ai)
def Xo(a0:An)(a1:Ab):Option (Ab):=
 Ax ((a0.ae).length+(([46]:Ab)).length<=9223372036854775807)<|
 Ax (((a0.ae++([46]:Ab))).length+(a1).length<=9223372036854775807)<|
 Ax ((((a0.ae++([46]:Ab))++a1)).length+(([47]:Ab)).length<=9223372036854775807)<|
 some (((a0.ae++([46]:Ab))++a1)++([47]:Ab))
def OM(a0:An)(a1:Ab)(a2:CD):Option (Ab):=
 (Xo a0 a1).bind λv1=>
 (M9 a0 a1).bind λv2=>
 (Ak a2.bb v2.dk).bind λy3=>
 Ax ((v1).length+(y3).length<=9223372036854775807)<|
 Ax (((v1++y3)).length+(([47]:Ab)).length<=9223372036854775807)<|
 (Ak a2.bb 0).bind λy4=>
 Ax ((((v1++y3)++([47]:Ab))).length+(y4).length<=9223372036854775807)<|
 some (((v1++y3)++([47]:Ab))++y4)
def vH(a0:An)(a1:Ab)(a2:CD):Option (List AL):=
 (Se a0 a2).bind λv1=>
 (OM a0 a1 a2).bind λv2=>
 some [(⟨7,v1.ab,v1.bf,0⟩:AL),(⟨2,v2,([]:Ab),0⟩:AL)]
def LW(a0:Int)(a1:Ai)(a2:List AL):Option (Unit × List AL):=
 Ax (RM (((a2).length:Int)+(([(⟨a0,a1.ab,a1.bf,0⟩:AL)]:List AL).length:Int)) 48)<|
 some ((),(a2++ [(⟨a0,a1.ab,a1.bf,0⟩:AL)]))
def zoq(a0:Int):Option (Bool):=
 some (decide (a0>=1))
def z7(a0:Int):Option (Bool):=
 some (decide (a0>=2))
def Sj(v9:Int)(y11:A5)(v13:Ab)(v14:List AL):Option ((Int × List AL) ⊕ Option (List AL)):=
 if(v13 !=([]:Ab))then
  (z7 y11.bh).bind λv15=>
  if v15 then
   (LW 2 (⟨v13,([]:Ab),false⟩:Ai) v14).bind λv16=>
   some (.inl ((IntKind.i64.wrap (v9+1)),v16.2))
  else
   some (.inl ((IntKind.i64.wrap (v9+1)),v14))
 else
  some (.inl ((IntKind.i64.wrap (v9+1)),v14))
def QA(v9:Int)(v10:List AL)(y11:A5)(v12 v13:Ab):Option ((Int × List AL) ⊕ Option (List AL)):=
 if(v12 !=([]:Ab))then
  if(v12 !=v13)then
   (zoq y11.bh).bind λv17=>
   if v17 then
    (LW 3 (⟨v12,([]:Ab),false⟩:Ai) v10).bind λv18=>
    Sj v9 y11 v13 v18.2
   else
    Sj v9 y11 v13 v10
  else
   Sj v9 y11 v13 v10
 else
  Sj v9 y11 v13 v10
def vD(a0:An)(a1:Cu)(v9:Int)(v10:List AL)(y11:A5)(v12:Ab):Option ((Int × List AL) ⊕ Option (List AL)):=
 if(a1.ah !=2)then
  (OM a0 y11.ae a1.c9).bind λv19=>
  QA v9 v10 y11 v12 v19
 else
  QA v9 v10 y11 v12 ([]:Ab)
def Si(a0:An)(a1:Cu)(v9:Int)(v10:List AL):Option ((Int × List AL) ⊕ Option (List AL)):=
 if(decide (v9<(a0.aj.length:Int)))then
  (Ak a0.aj v9).bind λy11=>
  WE (σ:=Ab) (
   if(a1.ah !=1)then
    (OM a0 y11.ae a1.cw).bind λv20=>
    some (.inl v20)
   else
    some (.inl ([]:Ab))
  ) (λs=>vD a0 a1 v9 v10 y11 s)
 else
  some (.inr (some v10))
def Sg(a0:An)(a1:Cu)(v8:List AL):Option (List AL):=
 Ao (λs:Int × List AL=>Si a0 a1 s.1 s.2) (0,v8)
def Xq(a0:An)(a1:Cu)(v1:Ab)(v4:List AL)(v5 v6:Ab)(v7:Bool):Option (List AL):=
 if(a1.ah==1)then
  (LW 6 (⟨v5,([]:Ab),false⟩:Ai) v4).bind λv21=>
  (LW 2 (⟨v5,v6,v7⟩:Ai) v21.2).bind λv22=>
  Sg a0 a1 v22.2
 else
  if(a1.ah==2)then
   (LW 3 (⟨v1,([]:Ab),false⟩:Ai) v4).bind λv23=>
   Sg a0 a1 v23.2
  else
   if(a1.ah==3)then
    (LW 2 (⟨v5,v6,v7⟩:Ai) v4).bind λv24=>
    Sg a0 a1 v24.2
   else
    Sg a0 a1 v4
def Qz(a0:An)(a1:Cu)(v1 v2:Ab)(v3:Bool)(v4:List AL):Option (List AL):=
 if(a1.ah !=2)then
  (Se a0 a1.c9).bind λv25=>
  Xq a0 a1 v1 v4 v25.ab v25.bf v25.bu
 else
  Xq a0 a1 v1 v4 ([]:Ab) ([]:Ab) false
def cQ(a0:An)(a1:Cu):Option (List AL):=
 WE (σ:=Ab × Ab × Bool × List AL) (
  if(a1.ah !=1)then
   (Se a0 a1.cw).bind λv26=>
   (LW 7 v26 ([]:List AL)).bind λv27=>
   some (.inl (v26.ab,v26.bf,v26.bu,v27.2))
  else
   some (.inl (([]:Ab),([]:Ab),false,[]))
 ) (λs=>Qz a0 a1 s.1 s.2.1 s.2.2.1 s.2.2.2)
def X8(a0:List An)(a1:Ab)(a2:Dc):Option (List AL):=
 if a2.gz then
  (Ak a0 a2.gh).bind λy1=>
  (vH y1 a1 a2.fRow).bind λv2=>
  some v2
 else
  (Ak a0 a2.gh).bind λy3=>
  (cQ y3 a2.fAct).bind λv4=>
  some v4
def R7(a0 a1:List AL)(v1:Int):Option ((Int) ⊕ Option (Bool)):=
 if(decide (v1<(a0.length:Int)))then
  (Ak a0 v1).bind λy2=>
  (Ak a1 v1).bind λy3=>
  if(!(y2.ah==y3.ah&&(y2.ab==y3.ab&&(y2.bf==y3.bf&&(y2.ie==y3.ie)))))then
   some (.inr (some false))
  else
   some (.inl (IntKind.i64.wrap (v1+1)))
 else
  some (.inr (some true))
def bR(a0 a1:List AL):Option (Bool):=
 if((a0.length:Int) !=(a1.length:Int))then
  some false
 else
  Ao (λs:Int=>R7 a0 a1 s) 0
def Kn(a0:CI)(v7:Int):Option ((Int) ⊕ Option (Bool)):=
 if(decide (v7<(a0.cr.length:Int)))then
  (Ak a0.cr v7).bind λy8=>
  (jY a0.cq y8).bind λv9=>
  if v9 then
   (Ak a0.ao.cf v7).bind λy10=>
   (X8 a0.cq a0.ae y8).bind λv11=>
   (bR y10.ef v11).bind λv12=>
   if(!v12)then
    some (.inr (some false))
   else
    some (.inl (IntKind.i64.wrap (v7+1)))
  else
   some (.inr (some false))
 else
  some (.inr (some true))
def fF(a0:CI):Option (Bool):=
 (fZ a0.cq a0.ae).bind λv1=>
 if v1 then
  (Ed a0.fw 0 2).bind λv2=>
  if v2 then
   if((a0.bg.length:Int) !=(IntKind.i64.wrap (a0.fw+1)))then
    some false
   else
    (eZ a0.bg).bind λv3=>
    if((!v3)||(decide ((a0.cr.length:Int)>6)))then
     some false
    else
     (XK a0.ao).bind λv4=>
     if v4 then
      (Ak a0.cq 0).bind λy5=>
      Ax ((y5.ae).length+(([47]:Ab)).length<=9223372036854775807)<|
      (M7 a0.ao.bq ([(y5.ae++([47]:Ab))]:List (Ab))).bind λv6=>
      if(((!v6)||(decide ((a0.ao.cc.length:Int)>0)))||((a0.ao.cf.length:Int) !=(a0.cr.length:Int)))then
       some false
      else
       Ao (λs:Int=>Kn a0 s) 0
     else
      some false
  else
   some false
 else
  some false
def SE(a0:BZ)(v2:Int)(v3:Bool)(v4:List Cb)(v5:Int):Option ((Int × Bool × List Cb × Int) ⊕ Option (Ct)):=
 if(decide (v2<(a0.ar.length:Int)))then
  (Ak a0.ar v2).bind λy6=>
  if(decide (y6.cx>v5))then
   some (.inl ((IntKind.i64.wrap (v2+1)),y6.ju,y6.ct,y6.cx))
  else
   some (.inl ((IntKind.i64.wrap (v2+1)),v3,v4,v5))
 else
  some (.inr (some (⟨v3,v4,v5⟩:Ct)))
def dG(a0:BZ):Option (Ct):=
 (Ak a0.ar 0).bind λy1=>
 Ao (λs:Int × Bool × List Cb × Int=>SE a0 s.1 s.2.1 s.2.2.1 s.2.2.2) (0,y1.ju,y1.ct,y1.cx)
def vY(a0:Ct):Option (List Cb):=
 Ax (0<=(0:Int)/\(0:Int)<=a0.cx/\a0.cx<=(a0.ct.length:Int))<|
 some (A1 a0.ct 0 a0.cx)
def u5(xs:List Cm):Option (List Cm):=Pe 24 xs
def xD(a0:AX):Option (BG):=
 some (⟨1,a0.bc,a0.ak,a0.br,a0.az,a0.af,false⟩:BG)
def Xk(xs:List Ai):Option (List Ai):=Pe 40 xs
def TY(a0:BG):Option (AX):=
 (Qt a0.az).bind λv1=>
 (Xk a0.af).bind λv2=>
 some (⟨a0.bc,a0.ak,a0.br,v1,v2⟩:AX)
def fL(a0:AX):Option (AX):=
 (xD a0).bind λv1=>
 (TY v1).bind λv2=>
 some v2
def S5(a0:AD)(v1:List Ap)(v2:List Cm)(v3:Int)(v4:List AX):Option ((Int × List AX) ⊕ Option (AD)):=
 if(decide (v3<(a0.al.length:Int)))then
  (Ak a0.al v3).bind λy5=>
  (fL y5).bind λv6=>
  Ax (RM (((v4).length:Int)+(([v6]:List AX).length:Int)) 72)<|
  some (.inl ((IntKind.i64.wrap (v3+1)),(v4++ [v6])))
 else
  some (.inr (some (⟨a0.bw,v1,v4,v2⟩:AD)))
def Tm(a0:AD):Option (AD):=
 (Tc a0.aq).bind λv1=>
 (u5 a0.bz).bind λv2=>
 Ao (λs:Int × List AX=>S5 a0 v1 v2 s.1 s.2) (0,[])
def u3(a0:List Cm)(a1:Int)(a2:Cm->Int->Option Int)(v1:Int):Option (Int × Bool):=
 if(decide (v1<(a0.length:Int)))then
  (Ak a0 v1).bind λy2=>
  (a2 y2 a1).bind λv3=>
  some (v1,(v3==0))
 else
  some (v1,false)
def Sb(a0:List Cm)(a1:Int)(a2:Cm->Int->Option Int)(v4 v5:Int):Option ((Int × Int) ⊕ Option (Int × Bool)):=
 if(decide (v4<v5))then
  (Ak a0 (IntKind.i64.wrap (Int.fdiv (IntKind.u64.wrap (IntKind.i64.wrap (v4+v5))) (2^(min ((1:Int)).toNat (IntKind.bits .u64)))))).bind λy6=>
  (a2 y6 a1).bind λv7=>
  if(decide (v7<0))then
   some (.inl ((IntKind.i64.wrap ((IntKind.i64.wrap (Int.fdiv (IntKind.u64.wrap (IntKind.i64.wrap (v4+v5))) (2^(min ((1:Int)).toNat (IntKind.bits .u64)))))+1)),v5))
  else
   some (.inl (v4,(IntKind.i64.wrap (Int.fdiv (IntKind.u64.wrap (IntKind.i64.wrap (v4+v5))) (2^(min ((1:Int)).toNat (IntKind.bits .u64)))))))
 else
  some (.inr (u3 a0 a1 a2 v4))
def bM(a0:List Cm)(a1:Int)(a2:Cm->Int->Option Int):Option (Int × Bool):=
 Ao (λs:Int × Int=>Sb a0 a1 a2 s.1 s.2) (0,(a0.length:Int))
def XO(a0:Int):Option (Bool):=
 some (a0 !=a0)
def Xv(a0 a1:Int):Option (Int):=
 (XO a0).bind λv1=>
 (XO a1).bind λv2=>
 if v1 then
  if v2 then
   some 0
  else
   some (-1)
 else
  if v2 then
   some 1
  else
   if(decide (a0<a1))then
    some (-1)
   else
    if(decide (a0>a1))then
     some 1
    else
     some 0
def Qy(a0:Cm)(a1:Int):Option (Int):=
 (Xv a0.bc a1).bind λv1=>
 some v1
def Sc(a0:AD)(a1:Int):Option (Int × Bool):=
 (bM a0.bz a1 (λy0_ y1_=>Qy y0_ y1_)).bind λv1=>
 some (v1.1,v1.2)
def uZ(a0:List AX)(a1:Int)(a2:AX->Int->Option Int)(v1:Int):Option (Int × Bool):=
 if(decide (v1<(a0.length:Int)))then
  (Ak a0 v1).bind λy2=>
  (a2 y2 a1).bind λv3=>
  some (v1,(v3==0))
 else
  some (v1,false)
def Sa(a0:List AX)(a1:Int)(a2:AX->Int->Option Int)(v4 v5:Int):Option ((Int × Int) ⊕ Option (Int × Bool)):=
 if(decide (v4<v5))then
  (Ak a0 (IntKind.i64.wrap (Int.fdiv (IntKind.u64.wrap (IntKind.i64.wrap (v4+v5))) (2^(min ((1:Int)).toNat (IntKind.bits .u64)))))).bind λy6=>
  (a2 y6 a1).bind λv7=>
  if(decide (v7<0))then
   some (.inl ((IntKind.i64.wrap ((IntKind.i64.wrap (Int.fdiv (IntKind.u64.wrap (IntKind.i64.wrap (v4+v5))) (2^(min ((1:Int)).toNat (IntKind.bits .u64)))))+1)),v5))
  else
   some (.inl (v4,(IntKind.i64.wrap (Int.fdiv (IntKind.u64.wrap (IntKind.i64.wrap (v4+v5))) (2^(min ((1:Int)).toNat (IntKind.bits .u64)))))))
 else
  some (.inr (uZ a0 a1 a2 v4))
def bO(a0:List AX)(a1:Int)(a2:AX->Int->Option Int):Option (Int × Bool):=
 Ao (λs:Int × Int=>Sa a0 a1 a2 s.1 s.2) (0,(a0.length:Int))
def Qx(a0:AX)(a1:Int):Option (Int):=
 (Xv a0.bc a1).bind λv1=>
 some v1
def Xp(a0:AD)(a1:Int):Option (Int × Bool):=
 (bO a0.al a1 (λy0_ y1_=>Qx y0_ y1_)).bind λv1=>
 some (v1.1,v1.2)
def uX(a0:List Ap)(a1:Ab)(a2:Ap->(Ab)->Option Int)(v1:Int):Option (Int × Bool):=
 if(decide (v1<(a0.length:Int)))then
  (Ak a0 v1).bind λy2=>
  (a2 y2 a1).bind λv3=>
  some (v1,(v3==0))
 else
  some (v1,false)
def R9(a0:List Ap)(a1:Ab)(a2:Ap->(Ab)->Option Int)(v4 v5:Int):Option ((Int × Int) ⊕ Option (Int × Bool)):=
 if(decide (v4<v5))then
  (Ak a0 (IntKind.i64.wrap (Int.fdiv (IntKind.u64.wrap (IntKind.i64.wrap (v4+v5))) (2^(min ((1:Int)).toNat (IntKind.bits .u64)))))).bind λy6=>
  (a2 y6 a1).bind λv7=>
  if(decide (v7<0))then
   some (.inl ((IntKind.i64.wrap ((IntKind.i64.wrap (Int.fdiv (IntKind.u64.wrap (IntKind.i64.wrap (v4+v5))) (2^(min ((1:Int)).toNat (IntKind.bits .u64)))))+1)),v5))
  else
   some (.inl (v4,(IntKind.i64.wrap (Int.fdiv (IntKind.u64.wrap (IntKind.i64.wrap (v4+v5))) (2^(min ((1:Int)).toNat (IntKind.bits .u64)))))))
 else
  some (.inr (uX a0 a1 a2 v4))
def bL(a0:List Ap)(a1:Ab)(a2:Ap->(Ab)->Option Int):Option (Int × Bool):=
 Ao (λs:Int × Int=>R9 a0 a1 a2 s.1 s.2) (0,(a0.length:Int))
def Xw(a0:Ab):Option (Bool):=
 some (a0 !=a0)
def Xu(a0 a1:Ab):Option (Int):=
 (Xw a0).bind λv1=>
 (Xw a1).bind λv2=>
 if v1 then
  if v2 then
   some 0
  else
   some (-1)
 else
  if v2 then
   some 1
  else
   if(Op.bytesLess a0 a1)then
    some (-1)
   else
    if(!(Op.bytesLess a0 a1||a0==a1))then
     some 1
    else
     some 0
def QN(a0:Ap)(a1:Ab):Option (Int):=
 (Xu a0.ab a1).bind λv1=>
 some v1
def TG(a0:List Ap)(a1:Ab):Option (Int × Bool):=
 (bL a0 a1 (λy0_ y1_=>QN y0_ y1_)).bind λv1=>
 some (v1.1,v1.2)
def fO(a0:List Ap)(a1:Ab):Option (Int):=
 (TG a0 a1).bind λv1=>
 if(!v1.2)then
  some 0
 else
  (Ak a0 v1.1).bind λy2=>
  (Ak y2.au (IntKind.i64.wrap ((y2.au.length:Int)-1))).bind λy3=>
  some y3.ak
def yP(a0:Ap):Option (Bool):=
 (Ed (a0.au.length:Int) 1 16).bind λv1=>
 some v1
def QF(a0:Ap)(v2:Int):Option ((Int) ⊕ Option (Bool)):=
 if(decide (v2<(a0.au.length:Int)))then
  (Ak a0.au v2).bind λy3=>
  (OV y3.ak).bind λv4=>
  if v4 then
   (TC y3.bf y3.bu).bind λv5=>
   if(decide (v2>0))then
    if v5 then
     (Ak a0.au (IntKind.i64.wrap (v2-1))).bind λy6=>
     if(decide (y3.ak<=y6.ak))then
      some (.inr (some false))
     else
      some (.inl (IntKind.i64.wrap (v2+1)))
    else
     some (.inr (some false))
   else
    if((!v5)||false)then
     some (.inr (some false))
    else
     some (.inl (IntKind.i64.wrap (v2+1)))
  else
   some (.inr (some false))
 else
  some (.inr (yP a0))
def iL(a0:Ap):Option (Bool):=
 Ao (λs:Int=>QF a0 s) 0
def dJ(a0:List Ap)(v1:List (Ab)):Option (Bool):=
 if(decide ((a0.length:Int)<=24))then
  (Nb v1).bind λv2=>
  some v2
 else
  some false
def Xz(a0:List Ap)(v3:Int)(v4:List (Ab)):Option ((Int × List (Ab)) ⊕ Option (Bool)):=
 if(decide (v3<(a0.length:Int)))then
  (Ak a0 v3).bind λy5=>
  (iL y5).bind λv6=>
  if(!v6)then
   some (.inr (some false))
  else
   Ax (RM (((v4).length:Int)+(([y5.ab]:List (Ab)).length:Int)) 16)<|
   some (.inl ((IntKind.i64.wrap (v3+1)),(v4++ [y5.ab])))
 else
  some (.inr (dJ a0 v4))
def zip(a0:List Ap):Option (Bool):=
 Ao (λs:Int × List (Ab)=>Xz a0 s.1 s.2) (0,[])
def cZ(v2:List Ap):Option (List Ap × Bool):=
 (zip v2).bind λv3=>
 if(!v3)then
  some ([],false)
 else
  some (v2,true)
def S0(a1:List Ai)(a2 v4:Int)(v5:List Ap):Option ((Int × List Ap) ⊕ Option (List Ap × Bool)):=
 if(decide (v4<(a1.length:Int)))then
  (Ak a1 v4).bind λy6=>
  (fO v5 y6.ab).bind λv7=>
  if(decide (a2<=v7))then
   some (.inr (some ([],false)))
  else
   (TG v5 y6.ab).bind λv8=>
   if(!v8.2)then
    (Gz v5 v8.1 ([(⟨y6.ab,[]⟩:Ap)]:List Ap)).bind λv9=>
    (Ak v9 v8.1).bind λy10=>
    Ax (RM (((y10.au).length:Int)+(([(⟨a2,y6.bf,y6.bu⟩:CE)]:List CE).length:Int)) 32)<|
    some (.inl ((IntKind.i64.wrap (v4+1)),(v9.set (v8.1).toNat {y10 with au:=(y10.au++ [(⟨a2,y6.bf,y6.bu⟩:CE)])})))
   else
    (Ak v5 v8.1).bind λy11=>
    Ax (RM (((y11.au).length:Int)+(([(⟨a2,y6.bf,y6.bu⟩:CE)]:List CE).length:Int)) 32)<|
    some (.inl ((IntKind.i64.wrap (v4+1)),(v5.set (v8.1).toNat {y11 with au:=(y11.au++ [(⟨a2,y6.bf,y6.bu⟩:CE)])})))
 else
  some (.inr (cZ v5))
def fP(a0:List Ap)(a1:List Ai)(a2:Int):Option (List Ap × Bool):=
 (Tc a0).bind λv1=>
 Ao (λs:Int × List Ap=>S0 a1 a2 s.1 s.2) (0,v1)
def cE(a1:BG)(v1:AD)(v2:Int × Bool)(v3:List Ap)(v4:Int):Option (AD × Bool):=
 if v2.2 then
  (YN v1.al v2.1 (IntKind.i64.wrap (v2.1+1))).bind λv5=>
  (Sc (⟨v4,v3,v5,v1.bz⟩:AD) a1.bc).bind λv6=>
  (Gz v1.bz v6.1 ([(⟨a1.bc,a1.dj,a1.ak⟩:Cm)]:List Cm)).bind λv7=>
  some ((⟨v4,v3,v5,v7⟩:AD),true)
 else
  (Sc (⟨v4,v3,v1.al,v1.bz⟩:AD) a1.bc).bind λv8=>
  (Gz v1.bz v8.1 ([(⟨a1.bc,a1.dj,a1.ak⟩:Cm)]:List Cm)).bind λv9=>
  some ((⟨v4,v3,v1.al,v9⟩:AD),true)
def cM(a0:AD)(a1:BG):Option (AD × Bool):=
 (Tm a0).bind λv1=>
 (Xp v1 a1.bc).bind λv2=>
 if a1.dj then
  if v2.2 then
   (Ak v1.al v2.1).bind λy10=>
   if(decide (y10.ak>a1.ak))then
    some ((⟨0,[],[],[]⟩:AD),false)
   else
    (fP v1.aq y10.af a1.ak).bind λv11=>
    if(!v11.2)then
     some ((⟨0,[],[],[]⟩:AD),false)
    else
     cE a1 v1 v2 v11.1 (bif (decide (a1.ak>v1.bw))then a1.ak else v1.bw)
  else
   some ((⟨0,[],[],[]⟩:AD),false)
 else
  cE a1 v1 v2 v1.aq v1.bw
def uW(a0:List Ai)(a1:Ab)(a2:Ai->(Ab)->Option Int)(v1:Int):Option (Int × Bool):=
 if(decide (v1<(a0.length:Int)))then
  (Ak a0 v1).bind λy2=>
  (a2 y2 a1).bind λv3=>
  some (v1,(v3==0))
 else
  some (v1,false)
def R8(a0:List Ai)(a1:Ab)(a2:Ai->(Ab)->Option Int)(v4 v5:Int):Option ((Int × Int) ⊕ Option (Int × Bool)):=
 if(decide (v4<v5))then
  (Ak a0 (IntKind.i64.wrap (Int.fdiv (IntKind.u64.wrap (IntKind.i64.wrap (v4+v5))) (2^(min ((1:Int)).toNat (IntKind.bits .u64)))))).bind λy6=>
  (a2 y6 a1).bind λv7=>
  if(decide (v7<0))then
   some (.inl ((IntKind.i64.wrap ((IntKind.i64.wrap (Int.fdiv (IntKind.u64.wrap (IntKind.i64.wrap (v4+v5))) (2^(min ((1:Int)).toNat (IntKind.bits .u64)))))+1)),v5))
  else
   some (.inl (v4,(IntKind.i64.wrap (Int.fdiv (IntKind.u64.wrap (IntKind.i64.wrap (v4+v5))) (2^(min ((1:Int)).toNat (IntKind.bits .u64)))))))
 else
  some (.inr (uW a0 a1 a2 v4))
def uY(a0:List Ai)(a1:Ab)(a2:Ai->(Ab)->Option Int):Option (Int × Bool):=
 Ao (λs:Int × Int=>R8 a0 a1 a2 s.1 s.2) (0,(a0.length:Int))
def SX(a0:Ai)(a1:Ab):Option (Int):=
 (Xu a0.ab a1).bind λv1=>
 some v1
def QJ(a0:List Ai)(a1:Ab):Option (Int × Bool):=
 (uY a0 a1 (λy0_ y1_=>SX y0_ y1_)).bind λv1=>
 some (v1.1,v1.2)
def yL(a0:Ai)(a1:List Ai)(a2:List (Ab)):Option (Bool):=
 (QJ a1 a0.ab).bind λv1=>
 if v1.2 then
  some true
 else
  (Xn a2 a0.ab).bind λv2=>
  some v2
def XZ(a0:List Ai)(a1:List (Ab))(a2:List Ai):Option (Bool):=
 (DB a0 (λy0_=>yL y0_ a2 a1)).bind λv1=>
 some v1
def zqB(a0 a1:AX):Option (Bool):=
 (XZ a0.af a1.az a1.af).bind λv1=>
 if v1 then
  some true
 else
  (XZ a1.af a0.az a0.af).bind λv2=>
  some v2
def cR(a0 a1:AX):Option (Bool):=
 (zqB a1 a0).bind λv1=>
 some v1
def u4(xs:List AX):Option (List AX):=Pe 72 xs
def cI(a1:List AX)(v2:List (Ab)):Option (Bool):=
 (R6 v2).bind λv3=>
 if(decide ((a1.length:Int)<=12))then
  (bQ v3.2).bind λv4=>
  some (decide ((v4.length:Int)<=24))
 else
  some false
def cL(v5:Int)(v8:List (Ab)):Option ((Int × List (Ab)) ⊕ Option (Bool)):=
 some (.inl ((IntKind.i64.wrap (v5+1)),v8))
def Qu(a0:AD)(v5:Int)(y7:AX)(v9:Int)(v10:List (Ab)):Option ((Int × List (Ab)) ⊕ Option ((Int × List (Ab)) ⊕ Option (Bool))):=
 if(decide (v9<(y7.af.length:Int)))then
  (Ak y7.af v9).bind λy11=>
  (TG a0.aq y11.ab).bind λv12=>
  if v12.2 then
   (Ak a0.aq v12.1).bind λy13=>
   if(decide ((y13.au.length:Int)>=16))then
    some (.inr (some (.inr (some false))))
   else
    Ax (RM (((v10).length:Int)+(([y11.ab]:List (Ab)).length:Int)) 16)<|
    some (.inl ((IntKind.i64.wrap (v9+1)),(v10++ [y11.ab])))
  else
   Ax (RM (((v10).length:Int)+(([y11.ab]:List (Ab)).length:Int)) 16)<|
   some (.inl ((IntKind.i64.wrap (v9+1)),(v10++ [y11.ab])))
 else
  some (.inr (cL v5 v10))
def OL(a0:AD)(a1:List AX)(v5:Int)(v6:List (Ab)):Option ((Int × List (Ab)) ⊕ Option (Bool)):=
 if(decide (v5<(a1.length:Int)))then
  (Ak a1 v5).bind λy7=>
  Ao (λs:Int × List (Ab)=>Qu a0 v5 y7 s.1 s.2) (0,v6)
 else
  some (.inr (cI a1 v6))
def vJ(a0:AD)(a1:List AX)(v1:List (Ab)):Option (Bool):=
 Ao (λs:Int × List (Ab)=>OL a0 a1 s.1 s.2) (0,v1)
def SF(a0:AD)(a1:List AX)(v14:Int)(v15:List (Ab)):Option ((Int × List (Ab)) ⊕ Option (Bool)):=
 if(decide (v14<(a0.aq.length:Int)))then
  (Ak a0.aq v14).bind λy16=>
  Ax (RM (((v15).length:Int)+(([y16.ab]:List (Ab)).length:Int)) 16)<|
  some (.inl ((IntKind.i64.wrap (v14+1)),(v15++ [y16.ab])))
 else
  some (.inr (vJ a0 a1 v15))
def dI(a0:AD)(a1:List AX):Option (Bool):=
 Ao (λs:Int × List (Ab)=>SF a0 a1 s.1 s.2) (0,[])
def dL(a0:AD)(a1:List (Ab))(a2:List Ai):Option (Bool):=
 (DB a0.al (λy0_=>cR y0_ (⟨0,0,0,a1,a2⟩:AX))).bind λv1=>
 if v1 then
  some false
 else
  (u4 a0.al).bind λv2=>
  Ax (RM (((v2).length:Int)+(([(⟨0,0,0,a1,a2⟩:AX)]:List AX).length:Int)) 72)<|
  (dI a0 (v2++ [(⟨0,0,0,a1,a2⟩:AX)])).bind λv3=>
  some v3
def cN(a0:AD)(a1:BG):Option (AD × Bool):=
 if(a1.ah==4)then
  if(decide (a1.ak<=a0.bw))then
   some ((⟨0,[],[],[]⟩:AD),false)
  else
   (Tm a0).bind λv1=>
   some ((⟨a1.ak,v1.aq,v1.al,v1.bz⟩:AD),true)
 else
  (Sc a0 a1.bc).bind λv2=>
  if v2.2 then
   some ((⟨0,[],[],[]⟩:AD),false)
  else
   if(a1.ah !=1)then
    (cM a0 a1).bind λv3=>
    some (v3.1,v3.2)
   else
    (Xp a0 a1.bc).bind λv4=>
    if v4.2 then
     some ((⟨0,[],[],[]⟩:AD),false)
    else
     if(decide (a1.ak<=a0.bw))then
      some ((⟨0,[],[],[]⟩:AD),false)
     else
      (dL a0 a1.az a1.af).bind λv5=>
      if(!v5)then
       some ((⟨0,[],[],[]⟩:AD),false)
      else
       (Tm a0).bind λv6=>
       (TY a1).bind λv7=>
       (Gz v6.al v4.1 ([v7]:List AX)).bind λv8=>
       some ((⟨a1.ak,v6.aq,v8,v6.bz⟩:AD),true)
def SN(a0:List BG)(v1 v2:Int)(v3:List Ap)(v4:List AX)(v5:List Cm)(v6:List Bool):Option ((Int × Int × List Ap × List AX × List Cm × List Bool) ⊕ Option (AD × List Bool)):=
 if(decide (v1<(a0.length:Int)))then
  (Ak a0 v1).bind λy7=>
  (cN (⟨v2,v3,v4,v5⟩:AD) y7).bind λv8=>
  if v8.2 then
   Ax (RM (((v6).length:Int)+(([v8.2]:List Bool).length:Int)) 1)<|
   some (.inl ((IntKind.i64.wrap (v1+1)),v8.1.bw,v8.1.aq,v8.1.al,v8.1.bz,(v6++ [v8.2])))
  else
   Ax (RM (((v6).length:Int)+(([v8.2]:List Bool).length:Int)) 1)<|
   some (.inl ((IntKind.i64.wrap (v1+1)),v2,v3,v4,v5,(v6++ [v8.2])))
 else
  some (.inr (some ((⟨v2,v3,v4,v5⟩:AD),v6)))
def gK(a0:List BG):Option (AD × List Bool):=
 Ao (λs:Int × Int × List Ap × List AX × List Cm × List Bool=>SN a0 s.1 s.2.1 s.2.2.1 s.2.2.2.1 s.2.2.2.2.1 s.2.2.2.2.2) (0,0,[],[],[],[])
def yD(v1:List BG):Option (AD):=
 (gK v1).bind λv2=>
 some v2.1
def SS(a0:List Cb)(v3:Int)(v4:List BG):Option ((Int × List BG) ⊕ Option (AD)):=
 if(decide (v3<(a0.length:Int)))then
  (Ak a0 v3).bind λy5=>
  Ax (RM (((v4).length:Int)+(([y5.fRec]:List BG).length:Int)) 88)<|
  some (.inl ((IntKind.i64.wrap (v3+1)),(v4++ [y5.fRec])))
 else
  some (.inr (yD v4))
def iE(a0:List Cb):Option (AD):=
 Ao (λs:Int × List BG=>SS a0 s.1 s.2) (0,[])
def cB(a0:BZ):Option (AD):=
 (dG a0).bind λv1=>
 (vY v1).bind λv2=>
 (iE v2).bind λv3=>
 some v3
def Sl(a0:BA)(v1:Int)(v2:List AD):Option ((Int × List AD) ⊕ Option (List AD)):=
 if(decide (v1<(a0.aw.length:Int)))then
  (Ak a0.aw v1).bind λy3=>
  (cB y3).bind λv4=>
  Ax (RM (((v2).length:Int)+(([v4]:List AD).length:Int)) 80)<|
  some (.inl ((IntKind.i64.wrap (v1+1)),(v2++ [v4])))
 else
  some (.inr (some v2))
def cF(a0:BA):Option (List AD):=
 Ao (λs:Int × List AD=>Sl a0 s.1 s.2) (0,[])
def S4(a0:List Ap)(a1 v1:Int)(v2:List Ai):Option ((Int × List Ai) ⊕ Option (List Ai)):=
 if(decide (v1<(a0.length:Int)))then
  (Ak a0 v1).bind λy3=>
  (eT y3 a1).bind λv4=>
  if v4.2 then
   Ax (RM (((v2).length:Int)+(([(⟨y3.ab,v4.1,false⟩:Ai)]:List Ai).length:Int)) 40)<|
   some (.inl ((IntKind.i64.wrap (v1+1)),(v2++ [(⟨y3.ab,v4.1,false⟩:Ai)])))
  else
   some (.inl ((IntKind.i64.wrap (v1+1)),v2))
 else
  some (.inr (some v2))
def gZ(a0:List Ap)(a1:Int):Option (List Ai):=
 Ao (λs:Int × List Ai=>S4 a0 a1 s.1 s.2) (0,[])
def eY(a0:List Ai)(a1:Ai):Option (List Ai):=
 (QJ a0 a1.ab).bind λv1=>
 if v1.2 then
  (Ak a0 v1.1).bind λy2=>
  some (a0.set (v1.1).toNat a1)
 else
  (Gz a0 v1.1 ([a1]:List Ai)).bind λv3=>
  some v3
def eH(v1:List Ai):Option (List Ai × Bool):=
 (XD v1).bind λv2=>
 if(!v2)then
  some ([],false)
 else
  some (v1,true)
def zC(v3:Int)(v7:List Ai):Option ((Int × List Ai) ⊕ Option (List Ai × Bool)):=
 some (.inl ((IntKind.i64.wrap (v3+1)),v7))
def Ti(v3:Int)(v6:List Ai)(v8:Int)(v9:List Ai):Option ((Int × List Ai) ⊕ Option ((Int × List Ai) ⊕ Option (List Ai × Bool))):=
 if(decide (v8<(v6.length:Int)))then
  (Ak v6 v8).bind λy10=>
  (eY v9 y10).bind λv11=>
  some (.inl ((IntKind.i64.wrap (v8+1)),v11))
 else
  some (.inr (zC v3 v9))
def Tn(a0:List AD)(a1 v3:Int)(v4:List Ai):Option ((Int × List Ai) ⊕ Option (List Ai × Bool)):=
 if(decide (v3<(a0.length:Int)))then
  (Ak a0 v3).bind λy5=>
  (gZ y5.aq a1).bind λv6=>
  Ao (λs:Int × List Ai=>Ti v3 v6 s.1 s.2) (0,v4)
 else
  some (.inr (eH v4))
def iY(a0:List AD)(a1:Int):Option (List Ai × Bool):=
 Ao (λs:Int × List Ai=>Tn a0 a1 s.1 s.2) (0,[])
def Sf(a0:AD)(v1 v2:Int):Option ((Int × Int) ⊕ Option (Int)):=
 if(decide (v2<(a0.al.length:Int)))then
  (Ak a0.al v2).bind λy3=>
  some (.inl ((bif (decide ((IntKind.i64.wrap (y3.ak-1))<v1))then(IntKind.i64.wrap (y3.ak-1))else v1),(IntKind.i64.wrap (v2+1))))
 else
  some (.inr (some v1))
def cJ(a0:AD):Option (Int):=
 Ao (λs:Int × Int=>Sf a0 s.1 s.2) (a0.bw,0)
def Tk(a0:List AD)(v1 v2:Int):Option ((Int × Int) ⊕ Option (Int)):=
 if(decide (v2<(a0.length:Int)))then
  (Ak a0 v2).bind λy3=>
  (cJ y3).bind λv4=>
  some (.inl ((bif (decide (v4<v1))then v4 else v1),(IntKind.i64.wrap (v2+1))))
 else
  some (.inr (some v1))
def jI(a0:List AD):Option (Int):=
 Ao (λs:Int × Int=>Tk a0 s.1 s.2) (100000,0)
def bV(a0 a1:Ab):Option (Bool):=
 if(decide ((a0.length:Int)>=(a1.length:Int)))then
  Ax (0<=(0:Int)/\(0:Int)<=(a1.length:Int)/\(a1.length:Int)<=(a0.length:Int))<|
  some ((A1 a0 0 (a1.length:Int))==a1)
 else
  some false
def u6(a0 a1:Ab):Option (Ab × Bool):=
 (bV a0 a1).bind λv1=>
 if(!v1)then
  some (a0,false)
 else
  Ax (0<=(a1.length:Int)/\(a1.length:Int)<=(a0.length:Int)/\(a0.length:Int)<=(a0.length:Int))<|
  some ((A1 a0 (a1.length:Int) (a0.length:Int)),true)
def dM(a0 a1:Ab):Option (Ab × Bool):=
 (u6 a0 a1).bind λv1=>
 some (v1.1,v1.2)
def bY(a0 a1:Ab):Option (Ab × Ab × Bool):=
 (cA a0 a1).bind λv1=>
 if(decide (v1>=0))then
  Ax (0<=(0:Int)/\(0:Int)<=v1/\v1<=(a0.length:Int))<|
  Ax (0<=(IntKind.i64.wrap (v1+(a1.length:Int)))/\(IntKind.i64.wrap (v1+(a1.length:Int)))<=(a0.length:Int)/\(a0.length:Int)<=(a0.length:Int))<|
  some ((A1 a0 0 v1),(A1 a0 (IntKind.i64.wrap (v1+(a1.length:Int))) (a0.length:Int)),true)
 else
  some (a0,([]:Ab),false)
def TZ(a0 a1:Ab):Option (Ab × Ab × Bool):=
 (bY a0 a1).bind λv1=>
 some (v1.1,v1.2.1,v1.2.2)
def Qw(a0:An)(a1 a2:Ab):Option (Ab × Ab × Bool):=
 (Xo a0 a1).bind λv1=>
 (dM a2 v1).bind λv2=>
 (TZ v2.1 ([47]:Ab)).bind λv3=>
 if v2.2 then
  if v3.2.2 then
   (TS v3.1).bind λv4=>
   if v4 then
    (TS v3.2.1).bind λv5=>
    if(!v5)then
     some (([]:Ab),([]:Ab),false)
    else
     some (v3.1,v3.2.1,true)
   else
    some (([]:Ab),([]:Ab),false)
  else
   some (([]:Ab),([]:Ab),false)
 else
  some (([]:Ab),([]:Ab),false)
def Sm(a0:An)(a1:Ab)(a2:List Ai)(v1:Int)(v2:List (Ab)):Option ((Int × List (Ab)) ⊕ Option (List (Ab))):=
 if(decide (v1<(a2.length:Int)))then
  (Ak a2 v1).bind λy3=>
  (Qw a0 a1 y3.ab).bind λv4=>
  if v4.2.2 then
   Ax (RM (((v2).length:Int)+(([y3.ab]:List (Ab)).length:Int)) 16)<|
   some (.inl ((IntKind.i64.wrap (v1+1)),(v2++ [y3.ab])))
  else
   some (.inl ((IntKind.i64.wrap (v1+1)),v2))
 else
  some (.inr (some v2))
def vF(a0:An)(a1:Ab)(a2:List Ai):Option (List (Ab)):=
 Ao (λs:Int × List (Ab)=>Sm a0 a1 a2 s.1 s.2) (0,[])
def eB(v10:List (Ab)):Option (List (Ab) × Bool):=
 (R6 v10).bind λv11=>
 some (v11.2,true)
def QM(a0:CI)(a1:Ab)(y8:An)(v9:List (Ab))(v12:Int)(v13:List (Ab)):Option ((Int × List (Ab)) ⊕ Option (List (Ab) × Bool)):=
 if(decide (v12<(v9.length:Int)))then
  (Ak v9 v12).bind λy14=>
  (Qw y8 a0.ae y14).bind λv15=>
  if(v15.1==a1)then
   Ax (RM (((v13).length:Int)+(([v15.2.1]:List (Ab)).length:Int)) 16)<|
   some (.inl ((IntKind.i64.wrap (v12+1)),(v13++ [v15.2.1])))
  else
   some (.inl ((IntKind.i64.wrap (v12+1)),v13))
 else
  some (.inr (eB v13))
def X5(a0:CI)(a1:Ab)(a2:Int):Option (List (Ab) × Bool):=
 (fF a0).bind λv1=>
 if v1 then
  (Nc a2).bind λv2=>
  if v2 then
   (Ed (a1.length:Int) 1 3).bind λv3=>
   if((!v3)||(a0.fw !=2))then
    some ([],false)
   else
    (cF a0.ao).bind λv4=>
    (iY v4 a2).bind λv5=>
    if v5.2 then
     (Ak a0.bg a0.fw).bind λy6=>
     if(decide (a2<y6))then
      some ([],false)
     else
      (jI v4).bind λv7=>
      if(decide (a2>v7))then
       some ([],false)
      else
       (Ak a0.cq 0).bind λy8=>
       (vF y8 a0.ae v5.1).bind λv9=>
       Ao (λs:Int × List (Ab)=>QM a0 a1 y8 v9 s.1 s.2) (0,[])
    else
     some ([],false)
  else
   some ([],false)
 else
  some ([],false)
def Xy(a0:List (Ab))(a1:List (Ab))(v1:Int):Option ((Int) ⊕ Option (Bool)):=
 if(decide (v1<(a0.length:Int)))then
  (Ak a0 v1).bind λy2=>
  (Ak a1 v1).bind λy3=>
  if(y2 !=y3)then
   some (.inr (some false))
  else
   some (.inl (IntKind.i64.wrap (v1+1)))
 else
  some (.inr (some true))
def Ld(a0:List (Ab))(a1:List (Ab)):Option (Bool):=
 if((a0.length:Int) !=(a1.length:Int))then
  some false
 else
  Ao (λs:Int=>Xy a0 a1 s) 0
def jW(a0 a1:A5):Option (Bool):=
 if(a0.ae !=a1.ae)then
  some false
 else
  if(a0.dk !=a1.dk)then
   some false
  else
   if(a0.bh !=a1.bh)then
    some false
   else
    some true
def zpw(a0 a1:List A5):Option (Bool):=Hj jW a0 a1
def gC(a0 a1:An):Option (Bool):=
 if(a0.ae !=a1.ae)then
  some false
 else
  (Ld a0.bd a1.bd).bind λv1=>
  if(!v1)then
   some false
  else
   (zpw a0.aj a1.aj).bind λv2=>
   if(!v2)then
    some false
   else
    some true
def yS(a0 a1:List An):Option (Bool):=Hj gC a0 a1
def XN(a0 a1:List Int)(v1:Int):Option ((Int) ⊕ Option (Bool)):=
 if(decide (v1<(a0.length:Int)))then
  (Ak a0 v1).bind λy2=>
  (Ak a1 v1).bind λy3=>
  if(y2 !=y3)then
   some (.inr (some false))
  else
   some (.inl (IntKind.i64.wrap (v1+1)))
 else
  some (.inr (some true))
def TW(a0 a1:List Int):Option (Bool):=
 if((a0.length:Int) !=(a1.length:Int))then
  some false
 else
  Ao (λs:Int=>XN a0 a1 s) 0
def T3(a0 a1:CD):Option (Bool):=
 (Ld a0.bb a1.bb).bind λv1=>
 if(!v1)then
  some false
 else
  some true
def fA(a0 a1:Cu):Option (Bool):=
 if(a0.ah !=a1.ah)then
  some false
 else
  (T3 a0.cw a1.cw).bind λv1=>
  if(!v1)then
   some false
  else
   (T3 a0.c9 a1.c9).bind λv2=>
   if(!v2)then
    some false
   else
    some true
def eW(a0 a1:Dc):Option (Bool):=
 if(a0.gh !=a1.gh)then
  some false
 else
  if(a0.gz !=a1.gz)then
   some false
  else
   (fA a0.fAct a1.fAct).bind λv1=>
   if(!v1)then
    some false
   else
    (T3 a0.fRow a1.fRow).bind λv2=>
    if(!v2)then
     some false
    else
     some true
def xZ(a0 a1:List Dc):Option (Bool):=Hj eW a0 a1
def gS(a0 a1:DG):Option (Bool):=
 if(a0.gp !=a1.gp)then
  some false
 else
  some true
def yV(a0 a1:List DG):Option (Bool):=Hj gS a0 a1
def gM(a0 a1:Ai):Option (Bool):=
 if(a0.ab !=a1.ab)then
  some false
 else
  if(a0.bf !=a1.bf)then
   some false
  else
   if(a0.bu !=a1.bu)then
    some false
   else
    some true
def zD(a0 a1:List Ai):Option (Bool):=Hj gM a0 a1
def jQ(a0 a1:BG):Option (Bool):=
 if(a0.ah !=a1.ah)then
  some false
 else
  if(a0.bc !=a1.bc)then
   some false
  else
   if(a0.ak !=a1.ak)then
    some false
   else
    if(a0.br !=a1.br)then
     some false
    else
     (Ld a0.az a1.az).bind λv1=>
     if(!v1)then
      some false
     else
      (zD a0.af a1.af).bind λv2=>
      if(!v2)then
       some false
      else
       if(a0.dj !=a1.dj)then
        some false
       else
        some true
def iG(a0 a1:Cb):Option (Bool):=
 if(a0.cd !=a1.cd)then
  some false
 else
  (jQ a0.fRec a1.fRec).bind λv1=>
  if(!v1)then
   some false
  else
   some true
def zL(a0 a1:List Cb):Option (Bool):=Hj iG a0 a1
def eP(a0 a1:Ct):Option (Bool):=
 if(a0.ju !=a1.ju)then
  some false
 else
  (zL a0.ct a1.ct).bind λv1=>
  if(!v1)then
   some false
  else
   if(a0.cx !=a1.cx)then
    some false
   else
    some true
def yC(a0 a1:List Ct):Option (Bool):=Hj eP a0 a1
def iB(a0 a1:BZ):Option (Bool):=
 (yC a0.ar a1.ar).bind λv1=>
 if(!v1)then
  some false
 else
  if(a0.cd !=a1.cd)then
   some false
  else
   if(a0.br !=a1.br)then
    some false
   else
    some true
def zO(a0 a1:List BZ):Option (Bool):=Hj iB a0 a1
def iO(a0 a1:Bh):Option (Bool):=
 if(a0.ab !=a1.ab)then
  some false
 else
  if(a0.bc !=a1.bc)then
   some false
  else
   if(a0.ei !=a1.ei)then
    some false
   else
    some true
def z8(a0 a1:List Bh):Option (Bool):=Hj iO a0 a1
def zN(a0:List (List Bh))(a1:List (List Bh)):Option (Bool):=Hj z8 a0 a1
def kF(a0 a1:AL):Option (Bool):=
 if(a0.ah !=a1.ah)then
  some false
 else
  if(a0.ab !=a1.ab)then
   some false
  else
   if(a0.bf !=a1.bf)then
    some false
   else
    if(a0.ie !=a1.ie)then
     some false
    else
     some true
def zqs(a0 a1:List AL):Option (Bool):=Hj kF a0 a1
def kB(a0 a1:Ce):Option (Bool):=
 if(a0.ab !=a1.ab)then
  some false
 else
  if(a0.bf !=a1.bf)then
   some false
  else
   if(a0.dz !=a1.dz)then
    some false
   else
    some true
def jE(a0 a1:List Ce):Option (Bool):=Hj kB a0 a1
def dQ(a0 a1:CV):Option (Bool):=
 (zqs a0.ef a1.ef).bind λv1=>
 if(!v1)then
  some false
 else
  (jE a0.cm a1.cm).bind λv2=>
  if(!v2)then
   some false
  else
   (TW a0.c6 a1.c6).bind λv3=>
   if(!v3)then
    some false
   else
    if(a0.di !=a1.di)then
     some false
    else
     if(a0.ga !=a1.ga)then
      some false
     else
      if(a0.dj !=a1.dj)then
       some false
      else
       if(a0.ak !=a1.ak)then
        some false
       else
        if(a0.jf !=a1.jf)then
         some false
        else
         if(a0.ky !=a1.ky)then
          some false
         else
          if(a0.gi !=a1.gi)then
           some false
          else
           some true
def w5(a0 a1:List CV):Option (Bool):=Hj dQ a0 a1
def dA(a0 a1:Cw):Option (Bool):=
 if(a0.fg !=a1.fg)then
  some false
 else
  (Ld a0.ch a1.ch).bind λv1=>
  if(!v1)then
   some false
  else
   (jE a0.cm a1.cm).bind λv2=>
   if(!v2)then
    some false
   else
    if(a0.ak !=a1.ak)then
     some false
    else
     if(a0.di !=a1.di)then
      some false
     else
      if(a0.ga !=a1.ga)then
       some false
      else
       some true
def wH(a0 a1:List Cw):Option (Bool):=Hj dA a0 a1
def iD(a0 a1:BA):Option (Bool):=
 if(a0.gr !=a1.gr)then
  some false
 else
  if(a0.cz !=a1.cz)then
   some false
  else
   (yV a0.bj a1.bj).bind λv1=>
   if(!v1)then
    some false
   else
    (Ld a0.bq a1.bq).bind λv2=>
    if(!v2)then
     some false
    else
     (zO a0.aw a1.aw).bind λv3=>
     if(!v3)then
      some false
     else
      (zN a0.cj a1.cj).bind λv4=>
      if(!v4)then
       some false
      else
       (TW a0.bm a1.bm).bind λv5=>
       if(!v5)then
        some false
       else
        (w5 a0.cf a1.cf).bind λv6=>
        if(!v6)then
         some false
        else
         (wH a0.cc a1.cc).bind λv7=>
         if(!v7)then
          some false
         else
          some true
def jF(a0 a1:CI):Option (Bool):=
 if(a0.ae !=a1.ae)then
  some false
 else
  (yS a0.cq a1.cq).bind λv1=>
  if(!v1)then
   some false
  else
   if(a0.fw !=a1.fw)then
    some false
   else
    (TW a0.bg a1.bg).bind λv2=>
    if(!v2)then
     some false
    else
     (xZ a0.cr a1.cr).bind λv3=>
     if(!v3)then
      some false
     else
      (iD a0.ao a1.ao).bind λv4=>
      if(!v4)then
       some false
      else
       some true
def zn5(v1:Ab):Option (Ab):=
 Ax ((([109]:Ab)).length+(v1).length<=9223372036854775807)<|
 some ((([109]:Ab):Ab)++v1)
def OR(v2:Int)(v3:Ab):Option ((Int × Ab) ⊕ Option (Ab)):=
 if(decide (v2>0))then
  Ax (([(IntKind.u8.wrap (IntKind.i64.wrap ((48:Int)+(Int.tmod v2 10))))]:List Int).length<=9223372036854775807)<|
  Ax ((([(IntKind.u8.wrap (IntKind.i64.wrap ((48:Int)+(Int.tmod v2 10))))].map λn=>UInt8.ofNat n.toNat)).length+(v3).length<=9223372036854775807)<|
  some (.inl ((IntKind.i64.wrap (Int.tdiv v2 10)),(([(IntKind.u8.wrap (IntKind.i64.wrap ((48:Int)+(Int.tmod v2 10))))].map λn=>UInt8.ofNat n.toNat)++v3)))
 else
  some (.inr (zn5 v3))
def Hw(a0:Int):Option (Ab):=
 if(decide (a0<=0))then
  some ([109,48]:Ab)
 else
  Ao (λs:Int × Ab=>OR s.1 s.2) (a0,([]:Ab))
def SH(v1 v2:Int)(v3:List (Ab)):Option ((Int × Int × List (Ab)) ⊕ Option (Int × List (Ab))):=
 if(decide (v2<(v3.length:Int)))then
  (Hw v1).bind λv4=>
  (Ak v3 v2).bind λy5=>
  some (.inl ((IntKind.i64.wrap (v1+1)),(IntKind.i64.wrap (v2+1)),(v3.set (v2).toNat v4)))
 else
  some (.inr (some (v1,v3)))
def LZ(a0:List (Ab))(a1:Int):Option (Int × List (Ab)):=
 Ao (λs:Int × Int × List (Ab)=>SH s.1 s.2.1 s.2.2) (a1,0,a0)
def Tb(v1 v2:Int)(v3:List A5):Option ((Int × Int × List A5) ⊕ Option (Int × List A5)):=
 if(decide (v2<(v3.length:Int)))then
  (Hw v1).bind λv4=>
  (Ak v3 v2).bind λy5=>
  some (.inl ((IntKind.i64.wrap ((IntKind.i64.wrap ((IntKind.i64.wrap (v1+1))+1))+1)),(IntKind.i64.wrap (v2+1)),(((v3.set (v2).toNat {y5 with ae:=v4}).set (v2).toNat {{y5 with ae:=v4}with dk:=(IntKind.i64.wrap (v1+1))}).set (v2).toNat {{{y5 with ae:=v4}with dk:=(IntKind.i64.wrap (v1+1))}with bh:=(IntKind.i64.wrap ((IntKind.i64.wrap (v1+1))+1))})))
 else
  some (.inr (some (v1,v3)))
def zH(a0:List A5)(a1:Int):Option (Int × List A5):=
 Ao (λs:Int × Int × List A5=>Tb s.1 s.2.1 s.2.2) (a1,0,a0)
def Ss(v1 v2:Int)(v3:List An):Option ((Int × Int × List An) ⊕ Option (Int × List An)):=
 if(decide (v2<(v3.length:Int)))then
  (Hw v1).bind λv4=>
  (Ak v3 v2).bind λy5=>
  (LZ ({y5 with ae:=v4}.bd) (IntKind.i64.wrap (v1+1))).bind λv6=>
  (zH ({{y5 with ae:=v4}with bd:=v6.2}.aj) v6.1).bind λv7=>
  some (.inl (v7.1,(IntKind.i64.wrap (v2+1)),(((v3.set (v2).toNat {y5 with ae:=v4}).set (v2).toNat {{y5 with ae:=v4}with bd:=v6.2}).set (v2).toNat {{{y5 with ae:=v4}with bd:=v6.2}with aj:=v7.2})))
 else
  some (.inr (some (v1,v3)))
def w7(a0:List An)(a1:Int):Option (Int × List An):=
 Ao (λs:Int × Int × List An=>Ss s.1 s.2.1 s.2.2) (a1,0,a0)
def S9(v1 v2:Int)(v3:List Int):Option ((Int × Int × List Int) ⊕ Option (Int × List Int)):=
 if(decide (v2<(v3.length:Int)))then
  (Ak v3 v2).bind λy4=>
  some (.inl ((IntKind.i64.wrap (v1+1)),(IntKind.i64.wrap (v2+1)),(v3.set (v2).toNat v1)))
 else
  some (.inr (some (v1,v3)))
def X2(a0:List Int)(a1:Int):Option (Int × List Int):=
 Ao (λs:Int × Int × List Int=>S9 s.1 s.2.1 s.2.2) (a1,0,a0)
def SD(v1 v2:Int)(v3:List Dc):Option ((Int × Int × List Dc) ⊕ Option (Int × List Dc)):=
 if(decide (v2<(v3.length:Int)))then
  (Ak v3 v2).bind λy4=>
  (LZ ({{{y4 with gh:=v1}with gz:=((Int.tmod (IntKind.i64.wrap (v1+1)) 3)==0)}with fAct.ah:=(IntKind.i64.wrap ((IntKind.i64.wrap (v1+1))+1))}.fAct.cw.bb) (IntKind.i64.wrap ((IntKind.i64.wrap ((IntKind.i64.wrap (v1+1))+1))+1))).bind λv5=>
  (LZ ({{{{y4 with gh:=v1}with gz:=((Int.tmod (IntKind.i64.wrap (v1+1)) 3)==0)}with fAct.ah:=(IntKind.i64.wrap ((IntKind.i64.wrap (v1+1))+1))}with fAct.cw.bb:=v5.2}.fAct.c9.bb) v5.1).bind λv6=>
  (LZ ({{{{{y4 with gh:=v1}with gz:=((Int.tmod (IntKind.i64.wrap (v1+1)) 3)==0)}with fAct.ah:=(IntKind.i64.wrap ((IntKind.i64.wrap (v1+1))+1))}with fAct.cw.bb:=v5.2}with fAct.c9.bb:=v6.2}.fRow.bb) v6.1).bind λv7=>
  some (.inl (v7.1,(IntKind.i64.wrap (v2+1)),((((((v3.set (v2).toNat {y4 with gh:=v1}).set (v2).toNat {{y4 with gh:=v1}with gz:=((Int.tmod (IntKind.i64.wrap (v1+1)) 3)==0)}).set (v2).toNat {{{y4 with gh:=v1}with gz:=((Int.tmod (IntKind.i64.wrap (v1+1)) 3)==0)}with fAct.ah:=(IntKind.i64.wrap ((IntKind.i64.wrap (v1+1))+1))}).set (v2).toNat {{{{y4 with gh:=v1}with gz:=((Int.tmod (IntKind.i64.wrap (v1+1)) 3)==0)}with fAct.ah:=(IntKind.i64.wrap ((IntKind.i64.wrap (v1+1))+1))}with fAct.cw.bb:=v5.2}).set (v2).toNat {{{{{y4 with gh:=v1}with gz:=((Int.tmod (IntKind.i64.wrap (v1+1)) 3)==0)}with fAct.ah:=(IntKind.i64.wrap ((IntKind.i64.wrap (v1+1))+1))}with fAct.cw.bb:=v5.2}with fAct.c9.bb:=v6.2}).set (v2).toNat {{{{{{y4 with gh:=v1}with gz:=((Int.tmod (IntKind.i64.wrap (v1+1)) 3)==0)}with fAct.ah:=(IntKind.i64.wrap ((IntKind.i64.wrap (v1+1))+1))}with fAct.cw.bb:=v5.2}with fAct.c9.bb:=v6.2}with fRow.bb:=v7.2})))
 else
  some (.inr (some (v1,v3)))
def wI(a0:List Dc)(a1:Int):Option (Int × List Dc):=
 Ao (λs:Int × Int × List Dc=>SD s.1 s.2.1 s.2.2) (a1,0,a0)
def Sr(v1 v2:Int)(v3:List DG):Option ((Int × Int × List DG) ⊕ Option (Int × List DG)):=
 if(decide (v2<(v3.length:Int)))then
  (Ak v3 v2).bind λy4=>
  some (.inl ((IntKind.i64.wrap (v1+1)),(IntKind.i64.wrap (v2+1)),(v3.set (v2).toNat {y4 with gp:=v1})))
 else
  some (.inr (some (v1,v3)))
def xE(a0:List DG)(a1:Int):Option (Int × List DG):=
 Ao (λs:Int × Int × List DG=>Sr s.1 s.2.1 s.2.2) (a1,0,a0)
def Sw(v1 v2:Int)(v3:List Ai):Option ((Int × Int × List Ai) ⊕ Option (Int × List Ai)):=
 if(decide (v2<(v3.length:Int)))then
  (Hw v1).bind λv4=>
  (Ak v3 v2).bind λy5=>
  (Hw (IntKind.i64.wrap (v1+1))).bind λv6=>
  some (.inl ((IntKind.i64.wrap ((IntKind.i64.wrap ((IntKind.i64.wrap (v1+1))+1))+1)),(IntKind.i64.wrap (v2+1)),(((v3.set (v2).toNat {y5 with ab:=v4}).set (v2).toNat {{y5 with ab:=v4}with bf:=v6}).set (v2).toNat {{{y5 with ab:=v4}with bf:=v6}with bu:=((Int.tmod (IntKind.i64.wrap ((IntKind.i64.wrap (v1+1))+1)) 3)==0)})))
 else
  some (.inr (some (v1,v3)))
def yE(a0:List Ai)(a1:Int):Option (Int × List Ai):=
 Ao (λs:Int × Int × List Ai=>Sw s.1 s.2.1 s.2.2) (a1,0,a0)
def Sv(v1 v2:Int)(v3:List Cb):Option ((Int × Int × List Cb) ⊕ Option (Int × List Cb)):=
 if(decide (v2<(v3.length:Int)))then
  (Ak v3 v2).bind λy4=>
  (LZ ({{{{{y4 with cd:=v1}with fRec.ah:=(IntKind.i64.wrap (v1+1))}with fRec.bc:=(IntKind.i64.wrap ((IntKind.i64.wrap (v1+1))+1))}with fRec.ak:=(IntKind.i64.wrap ((IntKind.i64.wrap ((IntKind.i64.wrap (v1+1))+1))+1))}with fRec.br:=(IntKind.i64.wrap ((IntKind.i64.wrap ((IntKind.i64.wrap ((IntKind.i64.wrap (v1+1))+1))+1))+1))}.fRec.az) (IntKind.i64.wrap ((IntKind.i64.wrap ((IntKind.i64.wrap ((IntKind.i64.wrap ((IntKind.i64.wrap (v1+1))+1))+1))+1))+1))).bind λv5=>
  (yE ({{{{{{y4 with cd:=v1}with fRec.ah:=(IntKind.i64.wrap (v1+1))}with fRec.bc:=(IntKind.i64.wrap ((IntKind.i64.wrap (v1+1))+1))}with fRec.ak:=(IntKind.i64.wrap ((IntKind.i64.wrap ((IntKind.i64.wrap (v1+1))+1))+1))}with fRec.br:=(IntKind.i64.wrap ((IntKind.i64.wrap ((IntKind.i64.wrap ((IntKind.i64.wrap (v1+1))+1))+1))+1))}with fRec.az:=v5.2}.fRec.af) v5.1).bind λv6=>
  some (.inl ((IntKind.i64.wrap (v6.1+1)),(IntKind.i64.wrap (v2+1)),((((((((v3.set (v2).toNat {y4 with cd:=v1}).set (v2).toNat {{y4 with cd:=v1}with fRec.ah:=(IntKind.i64.wrap (v1+1))}).set (v2).toNat {{{y4 with cd:=v1}with fRec.ah:=(IntKind.i64.wrap (v1+1))}with fRec.bc:=(IntKind.i64.wrap ((IntKind.i64.wrap (v1+1))+1))}).set (v2).toNat {{{{y4 with cd:=v1}with fRec.ah:=(IntKind.i64.wrap (v1+1))}with fRec.bc:=(IntKind.i64.wrap ((IntKind.i64.wrap (v1+1))+1))}with fRec.ak:=(IntKind.i64.wrap ((IntKind.i64.wrap ((IntKind.i64.wrap (v1+1))+1))+1))}).set (v2).toNat {{{{{y4 with cd:=v1}with fRec.ah:=(IntKind.i64.wrap (v1+1))}with fRec.bc:=(IntKind.i64.wrap ((IntKind.i64.wrap (v1+1))+1))}with fRec.ak:=(IntKind.i64.wrap ((IntKind.i64.wrap ((IntKind.i64.wrap (v1+1))+1))+1))}with fRec.br:=(IntKind.i64.wrap ((IntKind.i64.wrap ((IntKind.i64.wrap ((IntKind.i64.wrap (v1+1))+1))+1))+1))}).set (v2).toNat {{{{{{y4 with cd:=v1}with fRec.ah:=(IntKind.i64.wrap (v1+1))}with fRec.bc:=(IntKind.i64.wrap ((IntKind.i64.wrap (v1+1))+1))}with fRec.ak:=(IntKind.i64.wrap ((IntKind.i64.wrap ((IntKind.i64.wrap (v1+1))+1))+1))}with fRec.br:=(IntKind.i64.wrap ((IntKind.i64.wrap ((IntKind.i64.wrap ((IntKind.i64.wrap (v1+1))+1))+1))+1))}with fRec.az:=v5.2}).set (v2).toNat {{{{{{{y4 with cd:=v1}with fRec.ah:=(IntKind.i64.wrap (v1+1))}with fRec.bc:=(IntKind.i64.wrap ((IntKind.i64.wrap (v1+1))+1))}with fRec.ak:=(IntKind.i64.wrap ((IntKind.i64.wrap ((IntKind.i64.wrap (v1+1))+1))+1))}with fRec.br:=(IntKind.i64.wrap ((IntKind.i64.wrap ((IntKind.i64.wrap ((IntKind.i64.wrap (v1+1))+1))+1))+1))}with fRec.az:=v5.2}with fRec.af:=v6.2}).set (v2).toNat {{{{{{{{y4 with cd:=v1}with fRec.ah:=(IntKind.i64.wrap (v1+1))}with fRec.bc:=(IntKind.i64.wrap ((IntKind.i64.wrap (v1+1))+1))}with fRec.ak:=(IntKind.i64.wrap ((IntKind.i64.wrap ((IntKind.i64.wrap (v1+1))+1))+1))}with fRec.br:=(IntKind.i64.wrap ((IntKind.i64.wrap ((IntKind.i64.wrap ((IntKind.i64.wrap (v1+1))+1))+1))+1))}with fRec.az:=v5.2}with fRec.af:=v6.2}with fRec.dj:=((Int.tmod v6.1 3)==0)})))
 else
  some (.inr (some (v1,v3)))
def yG(a0:List Cb)(a1:Int):Option (Int × List Cb):=
 Ao (λs:Int × Int × List Cb=>Sv s.1 s.2.1 s.2.2) (a1,0,a0)
def SB(v1 v2:Int)(v3:List Ct):Option ((Int × Int × List Ct) ⊕ Option (Int × List Ct)):=
 if(decide (v2<(v3.length:Int)))then
  (Ak v3 v2).bind λy4=>
  (yG ({y4 with ju:=((Int.tmod v1 3)==0)}.ct) (IntKind.i64.wrap (v1+1))).bind λv5=>
  some (.inl ((IntKind.i64.wrap (v5.1+1)),(IntKind.i64.wrap (v2+1)),(((v3.set (v2).toNat {y4 with ju:=((Int.tmod v1 3)==0)}).set (v2).toNat {{y4 with ju:=((Int.tmod v1 3)==0)}with ct:=v5.2}).set (v2).toNat {{{y4 with ju:=((Int.tmod v1 3)==0)}with ct:=v5.2}with cx:=v5.1})))
 else
  some (.inr (some (v1,v3)))
def vZ(a0:List Ct)(a1:Int):Option (Int × List Ct):=
 Ao (λs:Int × Int × List Ct=>SB s.1 s.2.1 s.2.2) (a1,0,a0)
def Sy(v1 v2:Int)(v3:List BZ):Option ((Int × Int × List BZ) ⊕ Option (Int × List BZ)):=
 if(decide (v2<(v3.length:Int)))then
  (Ak v3 v2).bind λy4=>
  (vZ y4.ar v1).bind λv5=>
  some (.inl ((IntKind.i64.wrap ((IntKind.i64.wrap (v5.1+1))+1)),(IntKind.i64.wrap (v2+1)),(((v3.set (v2).toNat {y4 with ar:=v5.2}).set (v2).toNat {{y4 with ar:=v5.2}with cd:=v5.1}).set (v2).toNat {{{y4 with ar:=v5.2}with cd:=v5.1}with br:=(IntKind.i64.wrap (v5.1+1))})))
 else
  some (.inr (some (v1,v3)))
def yA(a0:List BZ)(a1:Int):Option (Int × List BZ):=
 Ao (λs:Int × Int × List BZ=>Sy s.1 s.2.1 s.2.2) (a1,0,a0)
def S7(v1 v2:Int)(v3:List Bh):Option ((Int × Int × List Bh) ⊕ Option (Int × List Bh)):=
 if(decide (v2<(v3.length:Int)))then
  (Hw v1).bind λv4=>
  (Ak v3 v2).bind λy5=>
  some (.inl ((IntKind.i64.wrap ((IntKind.i64.wrap ((IntKind.i64.wrap (v1+1))+1))+1)),(IntKind.i64.wrap (v2+1)),(((v3.set (v2).toNat {y5 with ab:=v4}).set (v2).toNat {{y5 with ab:=v4}with bc:=(IntKind.i64.wrap (v1+1))}).set (v2).toNat {{{y5 with ab:=v4}with bc:=(IntKind.i64.wrap (v1+1))}with ei:=((Int.tmod (IntKind.i64.wrap ((IntKind.i64.wrap (v1+1))+1)) 3)==0)})))
 else
  some (.inr (some (v1,v3)))
def yO(a0:List Bh)(a1:Int):Option (Int × List Bh):=
 Ao (λs:Int × Int × List Bh=>S7 s.1 s.2.1 s.2.2) (a1,0,a0)
def Sx(v1 v2:Int)(v3:List (List Bh)):Option ((Int × Int × List (List Bh)) ⊕ Option (Int × List (List Bh))):=
 if(decide (v2<(v3.length:Int)))then
  (Ak v3 v2).bind λy4=>
  (yO y4 v1).bind λv5=>
  some (.inl (v5.1,(IntKind.i64.wrap (v2+1)),(v3.set (v2).toNat v5.2)))
 else
  some (.inr (some (v1,v3)))
def xS(a0:List (List Bh))(a1:Int):Option (Int × List (List Bh)):=
 Ao (λs:Int × Int × List (List Bh)=>Sx s.1 s.2.1 s.2.2) (a1,0,a0)
def SL(v1 v2:Int)(v3:List AL):Option ((Int × Int × List AL) ⊕ Option (Int × List AL)):=
 if(decide (v2<(v3.length:Int)))then
  (Ak v3 v2).bind λy4=>
  (Hw (IntKind.i64.wrap (v1+1))).bind λv5=>
  (Hw (IntKind.i64.wrap ((IntKind.i64.wrap (v1+1))+1))).bind λv6=>
  some (.inl ((IntKind.i64.wrap ((IntKind.i64.wrap ((IntKind.i64.wrap ((IntKind.i64.wrap (v1+1))+1))+1))+1)),(IntKind.i64.wrap (v2+1)),((((v3.set (v2).toNat {y4 with ah:=v1}).set (v2).toNat {{y4 with ah:=v1}with ab:=v5}).set (v2).toNat {{{y4 with ah:=v1}with ab:=v5}with bf:=v6}).set (v2).toNat {{{{y4 with ah:=v1}with ab:=v5}with bf:=v6}with ie:=(IntKind.i64.wrap ((IntKind.i64.wrap ((IntKind.i64.wrap (v1+1))+1))+1))})))
 else
  some (.inr (some (v1,v3)))
def zox(a0:List AL)(a1:Int):Option (Int × List AL):=
 Ao (λs:Int × Int × List AL=>SL s.1 s.2.1 s.2.2) (a1,0,a0)
def SY(v1 v2:Int)(v3:List Ce):Option ((Int × Int × List Ce) ⊕ Option (Int × List Ce)):=
 if(decide (v2<(v3.length:Int)))then
  (Hw v1).bind λv4=>
  (Ak v3 v2).bind λy5=>
  (Hw (IntKind.i64.wrap (v1+1))).bind λv6=>
  some (.inl ((IntKind.i64.wrap ((IntKind.i64.wrap ((IntKind.i64.wrap (v1+1))+1))+1)),(IntKind.i64.wrap (v2+1)),(((v3.set (v2).toNat {y5 with ab:=v4}).set (v2).toNat {{y5 with ab:=v4}with bf:=v6}).set (v2).toNat {{{y5 with ab:=v4}with bf:=v6}with dz:=((Int.tmod (IntKind.i64.wrap ((IntKind.i64.wrap (v1+1))+1)) 3)==0)})))
 else
  some (.inr (some (v1,v3)))
def gB(a0:List Ce)(a1:Int):Option (Int × List Ce):=
 Ao (λs:Int × Int × List Ce=>SY s.1 s.2.1 s.2.2) (a1,0,a0)
def Sd(v1 v2:Int)(v3:List CV):Option ((Int × Int × List CV) ⊕ Option (Int × List CV)):=
 if(decide (v2<(v3.length:Int)))then
  (Ak v3 v2).bind λy4=>
  (zox y4.ef v1).bind λv5=>
  (gB ({y4 with ef:=v5.2}.cm) v5.1).bind λv6=>
  (X2 ({{y4 with ef:=v5.2}with cm:=v6.2}.c6) v6.1).bind λv7=>
  some (.inl ((IntKind.i64.wrap ((IntKind.i64.wrap ((IntKind.i64.wrap ((IntKind.i64.wrap ((IntKind.i64.wrap ((IntKind.i64.wrap ((IntKind.i64.wrap (v7.1+1))+1))+1))+1))+1))+1))+1)),(IntKind.i64.wrap (v2+1)),((((((((((v3.set (v2).toNat {y4 with ef:=v5.2}).set (v2).toNat {{y4 with ef:=v5.2}with cm:=v6.2}).set (v2).toNat {{{y4 with ef:=v5.2}with cm:=v6.2}with c6:=v7.2}).set (v2).toNat {{{{y4 with ef:=v5.2}with cm:=v6.2}with c6:=v7.2}with di:=v7.1}).set (v2).toNat {{{{{y4 with ef:=v5.2}with cm:=v6.2}with c6:=v7.2}with di:=v7.1}with ga:=(IntKind.i64.wrap (v7.1+1))}).set (v2).toNat {{{{{{y4 with ef:=v5.2}with cm:=v6.2}with c6:=v7.2}with di:=v7.1}with ga:=(IntKind.i64.wrap (v7.1+1))}with dj:=((Int.tmod (IntKind.i64.wrap ((IntKind.i64.wrap (v7.1+1))+1)) 3)==0)}).set (v2).toNat {{{{{{{y4 with ef:=v5.2}with cm:=v6.2}with c6:=v7.2}with di:=v7.1}with ga:=(IntKind.i64.wrap (v7.1+1))}with dj:=((Int.tmod (IntKind.i64.wrap ((IntKind.i64.wrap (v7.1+1))+1)) 3)==0)}with ak:=(IntKind.i64.wrap ((IntKind.i64.wrap ((IntKind.i64.wrap (v7.1+1))+1))+1))}).set (v2).toNat {{{{{{{{y4 with ef:=v5.2}with cm:=v6.2}with c6:=v7.2}with di:=v7.1}with ga:=(IntKind.i64.wrap (v7.1+1))}with dj:=((Int.tmod (IntKind.i64.wrap ((IntKind.i64.wrap (v7.1+1))+1)) 3)==0)}with ak:=(IntKind.i64.wrap ((IntKind.i64.wrap ((IntKind.i64.wrap (v7.1+1))+1))+1))}with jf:=((Int.tmod (IntKind.i64.wrap ((IntKind.i64.wrap ((IntKind.i64.wrap ((IntKind.i64.wrap (v7.1+1))+1))+1))+1)) 3)==0)}).set (v2).toNat {{{{{{{{{y4 with ef:=v5.2}with cm:=v6.2}with c6:=v7.2}with di:=v7.1}with ga:=(IntKind.i64.wrap (v7.1+1))}with dj:=((Int.tmod (IntKind.i64.wrap ((IntKind.i64.wrap (v7.1+1))+1)) 3)==0)}with ak:=(IntKind.i64.wrap ((IntKind.i64.wrap ((IntKind.i64.wrap (v7.1+1))+1))+1))}with jf:=((Int.tmod (IntKind.i64.wrap ((IntKind.i64.wrap ((IntKind.i64.wrap ((IntKind.i64.wrap (v7.1+1))+1))+1))+1)) 3)==0)}with ky:=((Int.tmod (IntKind.i64.wrap ((IntKind.i64.wrap ((IntKind.i64.wrap ((IntKind.i64.wrap ((IntKind.i64.wrap (v7.1+1))+1))+1))+1))+1)) 3)==0)}).set (v2).toNat {{{{{{{{{{y4 with ef:=v5.2}with cm:=v6.2}with c6:=v7.2}with di:=v7.1}with ga:=(IntKind.i64.wrap (v7.1+1))}with dj:=((Int.tmod (IntKind.i64.wrap ((IntKind.i64.wrap (v7.1+1))+1)) 3)==0)}with ak:=(IntKind.i64.wrap ((IntKind.i64.wrap ((IntKind.i64.wrap (v7.1+1))+1))+1))}with jf:=((Int.tmod (IntKind.i64.wrap ((IntKind.i64.wrap ((IntKind.i64.wrap ((IntKind.i64.wrap (v7.1+1))+1))+1))+1)) 3)==0)}with ky:=((Int.tmod (IntKind.i64.wrap ((IntKind.i64.wrap ((IntKind.i64.wrap ((IntKind.i64.wrap ((IntKind.i64.wrap (v7.1+1))+1))+1))+1))+1)) 3)==0)}with gi:=((Int.tmod (IntKind.i64.wrap ((IntKind.i64.wrap ((IntKind.i64.wrap ((IntKind.i64.wrap ((IntKind.i64.wrap ((IntKind.i64.wrap (v7.1+1))+1))+1))+1))+1))+1)) 3)==0)})))
 else
  some (.inr (some (v1,v3)))
def vO(a0:List CV)(a1:Int):Option (Int × List CV):=
 Ao (λs:Int × Int × List CV=>Sd s.1 s.2.1 s.2.2) (a1,0,a0)
def Sh(v1 v2:Int)(v3:List Cw):Option ((Int × Int × List Cw) ⊕ Option (Int × List Cw)):=
 if(decide (v2<(v3.length:Int)))then
  (Ak v3 v2).bind λy4=>
  (LZ ({y4 with fg:=v1}.ch) (IntKind.i64.wrap (v1+1))).bind λv5=>
  (gB ({{y4 with fg:=v1}with ch:=v5.2}.cm) v5.1).bind λv6=>
  some (.inl ((IntKind.i64.wrap ((IntKind.i64.wrap ((IntKind.i64.wrap (v6.1+1))+1))+1)),(IntKind.i64.wrap (v2+1)),((((((v3.set (v2).toNat {y4 with fg:=v1}).set (v2).toNat {{y4 with fg:=v1}with ch:=v5.2}).set (v2).toNat {{{y4 with fg:=v1}with ch:=v5.2}with cm:=v6.2}).set (v2).toNat {{{{y4 with fg:=v1}with ch:=v5.2}with cm:=v6.2}with ak:=v6.1}).set (v2).toNat {{{{{y4 with fg:=v1}with ch:=v5.2}with cm:=v6.2}with ak:=v6.1}with di:=(IntKind.i64.wrap (v6.1+1))}).set (v2).toNat {{{{{{y4 with fg:=v1}with ch:=v5.2}with cm:=v6.2}with ak:=v6.1}with di:=(IntKind.i64.wrap (v6.1+1))}with ga:=(IntKind.i64.wrap ((IntKind.i64.wrap (v6.1+1))+1))})))
 else
  some (.inr (some (v1,v3)))
def vX(a0:List Cw)(a1:Int):Option (Int × List Cw):=
 Ao (λs:Int × Int × List Cw=>Sh s.1 s.2.1 s.2.2) (a1,0,a0)
def eM(a0:BA)(a1:Int):Option (Int × BA):=
 (xE a0.bj a1).bind λv1=>
 (LZ a0.bq v1.1).bind λv2=>
 (yA a0.aw v2.1).bind λv3=>
 (xS a0.cj v3.1).bind λv4=>
 (X2 a0.bm v4.1).bind λv5=>
 (vO a0.cf v5.1).bind λv6=>
 (vX a0.cc v6.1).bind λv7=>
 some (v7.1,(⟨a0.gr,a0.cz,v1.2,v2.2,v3.2,v4.2,v5.2,v6.2,v7.2⟩:BA))
def fR(a0:CI)(a1:Int):Option (Int × CI):=
 (w7 a0.cq a1).bind λv1=>
 (X2 a0.bg v1.1).bind λv2=>
 (wI a0.cr v2.1).bind λv3=>
 (eM a0.ao v3.1).bind λv4=>
 some (v4.1,(⟨a0.ae,v1.2,a0.fw,v2.2,v3.2,(⟨a0.ao.gr,a0.ao.cz,v4.2.bj,v4.2.bq,v4.2.aw,v4.2.cj,v4.2.bm,v4.2.cf,v4.2.cc⟩:BA)⟩:CI))
def SI(a0:List (Ab))(v1 v2:Int):Option ((Int × Int) ⊕ Option (Int)):=
 if(decide (v2<(a0.length:Int)))then
  (Ak a0 v2).bind λy3=>
  (Hw v1).bind λv4=>
  if(y3 !=v4)then
   some (.inr (some (-1)))
  else
   some (.inl ((IntKind.i64.wrap (v1+1)),(IntKind.i64.wrap (v2+1))))
 else
  some (.inr (some v1))
def dB(a0:List (Ab))(a1:Int):Option (Int):=
 Ao (λs:Int × Int=>SI a0 s.1 s.2) (a1,0)
def cH(a0:CI)(a1:Ab)(a2:Int):Option (Bool):=
 if(decide ((a1.length:Int)>1048576))then
  some true
 else
  (iR a0 1048576).bind λv1=>
  if(decide (v1<0))then
   some true
  else
   (QT a0).bind λv2=>
   (gY v2 a1 a2).bind λv3=>
   (QT a0).bind λv4=>
   (X5 v4 a1 a2).bind λv5=>
   (Ld v5.1 v3.1).bind λv6=>
   if((!v6)||(v5.2 !=v3.2))then
    some false
   else
    (QT a0).bind λv7=>
    (jF v4 v7).bind λv8=>
    if(!v8)then
     some false
    else
     (fR v4 1).bind λv9=>
     if(decide (v9.1<0))then
      some false
     else
      (Ld v5.1 v3.1).bind λv10=>
      if((!v10)||(v5.2 !=v3.2))then
       some false
      else
       (LZ v5.1 1).bind λv11=>
       (dB v11.2 1).bind λv12=>
       if(decide (v12<0))then
        some false
       else
        if(v12 !=v11.1)then
         some false
        else
         (QT a0).bind λv13=>
         (X5 v13 a1 a2).bind λv14=>
         (Ld v14.1 v3.1).bind λv15=>
         if((!v15)||(v14.2 !=v3.2))then
          some false
         else
          (dB v11.2 1).bind λv16=>
          if(decide (v16<0))then
           some false
          else
           if(v16 !=v11.1)then
            some false
           else
            some true
end
end Go.Proofs.YtlmjpjceiefpoaaGreat
