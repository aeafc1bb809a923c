/- Parts of a proof, joined: QM, QF1, QF2, QF3. -/
import Derived.Test.YtgobcjbjogkpjaaGreatDoorW7
set_option linter.unusedVariables false
set_option linter.unusedSimpArgs false
section
namespace Go.Proofs.YtgobcjbjogkpjaaGreatDoor
open Go.RowKit
set_option maxRecDepth 100000
set_option maxHeartbeats 4000000
abbrev yqS:=List UInt8
noncomputable def zcP (a0:List (yqS)) (v1 v2:Int):Option ((Int × Int) ⊕ Option (Int)):=
 if(decide (v2<(a0.length:Int)))then
  (zaD a0 v2).bind fun y3=>
  if(decide ((IntKind.i64.wrap (v1-(y3.length:Int)))<0))then
   some (.inr (some (-1)))
  else
   some (.inl ((IntKind.i64.wrap (v1-(y3.length:Int))),(IntKind.i64.wrap (v2+1))))
 else
  some (.inr (some v1))
noncomputable def zff (a0:List (yqS)) (a1:Int):Option (Int):=
 if(decide ((IntKind.i64.wrap (a1-(a0.length:Int)))<0))then
  some (-1)
 else
  zak (fun s:Int × Int=>zcP a0 s.1 s.2) ((IntKind.i64.wrap (a1-(a0.length:Int))),0)
noncomputable def zkV (a0:zbh) (a1:Int):Option (Int):=
 if(decide ((IntKind.i64.wrap (a1-(a0.ab.length:Int)))<0))then
  some (-1)
 else
  some (IntKind.i64.wrap (a1-(a0.ab.length:Int)))
noncomputable def zd6 (a0:List zbh) (v1 v2:Int):Option ((Int × Int) ⊕ Option (Int)):=
 if(decide (v2<(a0.length:Int)))then
  (zaD a0 v2).bind fun y3=>
  (zkV y3 v1).bind fun v4=>
  if(decide (v4<0))then
   some (.inr (some (-1)))
  else
   some (.inl (v4,(IntKind.i64.wrap (v2+1))))
 else
  some (.inr (some v1))
noncomputable def zjO (a0:List zbh) (a1:Int):Option (Int):=
 if(decide ((IntKind.i64.wrap (a1-(a0.length:Int)))<0))then
  some (-1)
 else
  zak (fun s:Int × Int=>zd6 a0 s.1 s.2) ((IntKind.i64.wrap (a1-(a0.length:Int))),0)
noncomputable def zi2 (a0:zab) (a1:Int):Option (Int):=
 if(decide ((IntKind.i64.wrap (a1-(a0.ab.length:Int)))<0))then
  some (-1)
 else
  (zff a0.ao (IntKind.i64.wrap (a1-(a0.ab.length:Int)))).bind fun v1=>
  if(decide (v1<0))then
   some (-1)
  else
   (zjO a0.af v1).bind fun v2=>
   if(decide (v2<0))then
    some (-1)
   else
    some v2
noncomputable def zde (a0:List zab) (v1 v2:Int):Option ((Int × Int) ⊕ Option (Int)):=
 if(decide (v2<(a0.length:Int)))then
  (zaD a0 v2).bind fun y3=>
  (zi2 y3 v1).bind fun v4=>
  if(decide (v4<0))then
   some (.inr (some (-1)))
  else
   some (.inl (v4,(IntKind.i64.wrap (v2+1))))
 else
  some (.inr (some v1))
noncomputable def zhn (a0:List zab) (a1:Int):Option (Int):=
 if(decide ((IntKind.i64.wrap (a1-(a0.length:Int)))<0))then
  some (-1)
 else
  zak (fun s:Int × Int=>zde a0 s.1 s.2) ((IntKind.i64.wrap (a1-(a0.length:Int))),0)
noncomputable def zjU (a0:List Int) (a1:Int):Option (Int):=
 if(decide ((IntKind.i64.wrap (a1-(a0.length:Int)))<0))then
  some (-1)
 else
  some (IntKind.i64.wrap (a1-(a0.length:Int)))
noncomputable def ziN (a0:zaa) (a1:Int):Option (Int):=
 if(decide ((IntKind.i64.wrap (a1-(a0.ae.length:Int)))<0))then
  some (-1)
 else
  if(decide ((IntKind.i64.wrap ((IntKind.i64.wrap (a1-(a0.ae.length:Int)))-(a0.az.length:Int)))<0))then
   some (-1)
  else
   some (IntKind.i64.wrap ((IntKind.i64.wrap (a1-(a0.ae.length:Int)))-(a0.az.length:Int)))
noncomputable def zdg (a0:List zaa) (v1 v2:Int):Option ((Int × Int) ⊕ Option (Int)):=
 if(decide (v2<(a0.length:Int)))then
  (zaD a0 v2).bind fun y3=>
  (ziN y3 v1).bind fun v4=>
  if(decide (v4<0))then
   some (.inr (some (-1)))
  else
   some (.inl (v4,(IntKind.i64.wrap (v2+1))))
 else
  some (.inr (some v1))
noncomputable def zhu (a0:List zaa) (a1:Int):Option (Int):=
 if(decide ((IntKind.i64.wrap (a1-(a0.length:Int)))<0))then
  some (-1)
 else
  zak (fun s:Int × Int=>zdg a0 s.1 s.2) ((IntKind.i64.wrap (a1-(a0.length:Int))),0)
noncomputable def zi0 (a0:zai) (a1:Int):Option (Int):=
 if(decide ((IntKind.i64.wrap (a1-(a0.ab.length:Int)))<0))then
  some (-1)
 else
  (zhn a0.ak (IntKind.i64.wrap (a1-(a0.ab.length:Int)))).bind fun v1=>
  if(decide (v1<0))then
   some (-1)
  else
   (zjU a0.bm v1).bind fun v2=>
   if(decide (v2<0))then
    some (-1)
   else
    (zhu a0.ay v2).bind fun v3=>
    if(decide (v3<0))then
     some (-1)
    else
     some v3
noncomputable def zhi (a0:zaK) (a1:Int):Option (Int):=
 if(decide ((IntKind.i64.wrap (a1-(a0.aq.length:Int)))<0))then
  some (-1)
 else
  some (IntKind.i64.wrap (a1-(a0.aq.length:Int)))
noncomputable def zkc (a0:zaJ) (a1:Int):Option (Int):=
 (zi0 a0.ah a1).bind fun v1=>
 if(decide (v1<0))then
  some (-1)
 else
  (zhi a0.c8 v1).bind fun v2=>
  if(decide (v2<0))then
   some (-1)
  else
   (zhi a0.bf v2).bind fun v3=>
   if(decide (v3<0))then
    some (-1)
   else
    some v3
noncomputable def zjm (a0:zch) (a1:Int):Option (Int):=
 (zff a0.au a1).bind fun v1=>
 if(decide (v1<0))then
  some (-1)
 else
  some v1
noncomputable def zhw (a0:zao) (a1:Int):Option (Int):=
 (zjm a0.bg a1).bind fun v1=>
 if(decide (v1<0))then
  some (-1)
 else
  (zjm a0.bh v1).bind fun v2=>
  if(decide (v2<0))then
   some (-1)
  else
   some v2
noncomputable def zgp (a0:zax) (a1:Int):Option (Int):=
 (zhw a0.aw a1).bind fun v1=>
 if(decide (v1<0))then
  some (-1)
 else
  some v1
noncomputable def zgN (a0:zaw) (a1:Int):Option (Int):=
 (zgp a0.aw a1).bind fun v1=>
 if(decide (v1<0))then
  some (-1)
 else
  some v1
noncomputable def zdO (a0:List (yqS)) (v1:Int) (v2:List (yqS)):Option ((Int × List (yqS)) ⊕ Option (List (yqS))):=
 if(decide (v1<(a0.length:Int)))then
  (zaD a0 v1).bind fun y3=>
  (zaD v2 v1).bind fun y4=>
  some (.inl ((IntKind.i64.wrap (v1+1)),(v2.set (v1).toNat y3)))
 else
  some (.inr (some v2))
noncomputable def zfo (a0:List (yqS)):Option (List (yqS)):=
 req (0≤(a0.length:Int)∧(a0.length:Int)*16≤140737488355328∧(a0.length:Int)≤140737488355328)<|
 zak (fun s:Int × List (yqS)=>zdO a0 s.1 s.2) (0,(List.replicate ((a0.length:Int)).toNat ([]:yqS)))
noncomputable def zmG (a0:zbh):Option (zbh):=
 some a0
noncomputable def zfr (a0:List zbh) (v1:Int) (v2:List zbh):Option ((Int × List zbh) ⊕ Option (List zbh)):=
 if(decide (v1<(a0.length:Int)))then
  (zaD a0 v1).bind fun y3=>
  (zmG y3).bind fun v4=>
  (zaD v2 v1).bind fun y5=>
  some (.inl ((IntKind.i64.wrap (v1+1)),(v2.set (v1).toNat v4)))
 else
  some (.inr (some v2))
noncomputable def zjP (a0:List zbh):Option (List zbh):=
 req (0≤(a0.length:Int)∧(a0.length:Int)*32≤140737488355328∧(a0.length:Int)≤140737488355328)<|
 zak (fun s:Int × List zbh=>zfr a0 s.1 s.2) (0,(List.replicate ((a0.length:Int)).toNat (⟨([]:yqS),0,0⟩:zbh)))
noncomputable def ziG (a0:zab):Option (zab):=
 (zfo a0.ao).bind fun v1=>
 (zjP a0.af).bind fun v2=>
 some (⟨a0.ab,v1,v2⟩:zab)
noncomputable def zen (a0:List zab) (v1:Int) (v2:List zab):Option ((Int × List zab) ⊕ Option (List zab)):=
 if(decide (v1<(a0.length:Int)))then
  (zaD a0 v1).bind fun y3=>
  (ziG y3).bind fun v4=>
  (zaD v2 v1).bind fun y5=>
  some (.inl ((IntKind.i64.wrap (v1+1)),(v2.set (v1).toNat v4)))
 else
  some (.inr (some v2))
noncomputable def zhF (a0:List zab):Option (List zab):=
 req (0≤(a0.length:Int)∧(a0.length:Int)*64≤140737488355328∧(a0.length:Int)≤140737488355328)<|
 zak (fun s:Int × List zab=>zen a0 s.1 s.2) (0,(List.replicate ((a0.length:Int)).toNat (⟨([]:yqS), [], []⟩:zab)))
noncomputable def zfn (a0:List Int) (v1:Int) (v2:List Int):Option ((Int × List Int) ⊕ Option (List Int)):=
 if(decide (v1<(a0.length:Int)))then
  (zaD a0 v1).bind fun y3=>
  (zaD v2 v1).bind fun y4=>
  some (.inl ((IntKind.i64.wrap (v1+1)),(v2.set (v1).toNat y3)))
 else
  some (.inr (some v2))
noncomputable def zj1 (a0:List Int):Option (List Int):=
 req (0≤(a0.length:Int)∧(a0.length:Int)*8≤140737488355328∧(a0.length:Int)≤140737488355328)<|
 zak (fun s:Int × List Int=>zfn a0 s.1 s.2) (0,(List.replicate ((a0.length:Int)).toNat 0))
noncomputable def zli (a0:zaa):Option (zaa):=
 some a0
noncomputable def zeg (a0:List zaa) (v1:Int) (v2:List zaa):Option ((Int × List zaa) ⊕ Option (List zaa)):=
 if(decide (v1<(a0.length:Int)))then
  (zaD a0 v1).bind fun y3=>
  (zli y3).bind fun v4=>
  (zaD v2 v1).bind fun y5=>
  some (.inl ((IntKind.i64.wrap (v1+1)),(v2.set (v1).toNat v4)))
 else
  some (.inr (some v2))
noncomputable def zhv (a0:List zaa):Option (List zaa):=
 req (0≤(a0.length:Int)∧(a0.length:Int)*40≤140737488355328∧(a0.length:Int)≤140737488355328)<|
 zak (fun s:Int × List zaa=>zeg a0 s.1 s.2) (0,(List.replicate ((a0.length:Int)).toNat (⟨([]:yqS),([]:yqS),false⟩:zaa)))
noncomputable def ziF (a0:zai):Option (zai):=
 (zhF a0.ak).bind fun v1=>
 (zj1 a0.bm).bind fun v2=>
 (zhv a0.ay).bind fun v3=>
 some (⟨a0.ab,v1,v2,v3⟩:zai)
noncomputable def zjX (a0:zaK):Option (zaK):=
 some a0
noncomputable def ze1 (a0:zaJ):Option (zaJ):=
 (ziF a0.ah).bind fun v1=>
 (zjX a0.c8).bind fun v2=>
 (zjX a0.bf).bind fun v3=>
 some (⟨v1,v2,v3⟩:zaJ)
noncomputable def zjj (a0:zch):Option (zch):=
 (zfo a0.au).bind fun v1=>
 some (⟨v1⟩:zch)
noncomputable def zhj (a0:zao):Option (zao):=
 (zjj a0.bg).bind fun v1=>
 (zjj a0.bh).bind fun v2=>
 some (⟨a0.aj,v1,v2⟩:zao)
noncomputable def zgs (a0:zax):Option (zax):=
 (zhj a0.aw).bind fun v1=>
 some (⟨a0.ax,a0.bb,v1⟩:zax)
noncomputable def zdi (a0:zaw):Option (zaw):=
 (zgs a0.aw).bind fun v1=>
 some (⟨a0.aj,a0.bt,v1⟩:zaw)
noncomputable def zbw (a0 a1 a2:Int):Option (Bool):=
 some ((decide (a0≥a1))&&(decide (a0≤a2)))
noncomputable def zgx (a0:yqS) (a1:Int):Option (Bool):=
 some ((decide ((a0.length:Int)≥1))&&(decide ((a0.length:Int)≤a1)))
noncomputable def zgw (a0:yqS) (a1 v1:Int):Option ((Int) ⊕ Option (Bool)):=
 if(decide (v1<(a0.length:Int)))then
  (zaD a0 v1).bind fun y2=>
  if((decide ((y2.toNat:Int)<97))||(decide ((y2.toNat:Int)>122)))then
   some (.inr (some false))
  else
   some (.inl (IntKind.i64.wrap (v1+1)))
 else
  some (.inr (zgx a0 a1))
noncomputable def zdC (a0:yqS) (a1:Int):Option (Bool):=
 zak (fun s:Int=>zgw a0 a1 s) 0
noncomputable def zkq (a0:List (yqS)) (a1:yqS) (v1:Int):Option ((Int) ⊕ Option (Int)):=
 if(decide (v1<(a0.length:Int)))then
  (zaD a0 v1).bind fun y2=>
  if(y2==a1)then
   some (.inr (some v1))
  else
   some (.inl (IntKind.i64.wrap (v1+1)))
 else
  some (.inr (some (-1)))
noncomputable def zi8 (a0:List (yqS)) (a1:yqS):Option (Int):=
 zak (fun s:Int=>zkq a0 a1 s) 0
noncomputable def zip (a0:List (yqS)):Option (Bool):=
 (zbw (a0.length:Int) 2 4).bind fun v1=>
 some v1
noncomputable def zis (a0:List (yqS)) (v2:Int):Option ((Int) ⊕ Option (Bool)):=
 if(decide (v2<(a0.length:Int)))then
  (zaD a0 v2).bind fun y3=>
  (zdC y3 3).bind fun v4=>
  if v4 then
   req (0≤(0:Int)∧(0:Int)≤v2∧v2≤(a0.length:Int))<|
   (zi8 (zg2 a0 0 v2) y3).bind fun v5=>
   if(decide (v5≥0))then
    some (.inr (some false))
   else
    some (.inl (IntKind.i64.wrap (v2+1)))
  else
   some (.inr (some false))
 else
  some (.inr (zip a0))
noncomputable def ziY (a0:List (yqS)):Option (Bool):=
 zak (fun s:Int=>zis a0 s) 0
noncomputable def ze3 (a0:zab) (v3:Int):Option ((Int) ⊕ Option (Bool)):=
 if(decide (v3<(a0.af.length:Int)))then
  (zaD a0.af v3).bind fun y4=>
  (zdC y4.ab 1).bind fun v5=>
  if v5 then
   (zbw y4.bj 1 (IntKind.i64.wrap ((a0.ao.length:Int)-1))).bind fun v6=>
   if v6 then
    (zbw y4.al 0 3).bind fun v7=>
    if(decide (v3>0))then
     if v7 then
      (zaD a0.af (IntKind.i64.wrap (v3-1))).bind fun y8=>
      if(!Op.bytesLess y8.ab y4.ab)then
       some (.inr (some false))
      else
       some (.inl (IntKind.i64.wrap (v3+1)))
     else
      some (.inr (some false))
    else
     if((!v7)||false)then
      some (.inr (some false))
     else
      some (.inl (IntKind.i64.wrap (v3+1)))
   else
    some (.inr (some false))
  else
   some (.inr (some false))
 else
  some (.inr (some true))
noncomputable def zcx (a0:zab):Option (Bool):=
 (zdC a0.ab 1).bind fun v1=>
 if v1 then
  (ziY a0.ao).bind fun v2=>
  if((!v2)||(decide ((a0.af.length:Int)>3)))then
   some false
  else
   zak (fun s:Int=>ze3 a0 s) 0
 else
  some false
noncomputable def zjr (a0:zab) (a1:yqS) (v1:Int):Option ((Int) ⊕ Option (Int)):=
 if(decide (v1<(a0.af.length:Int)))then
  (zaD a0.af v1).bind fun y2=>
  if(y2.ab==a1)then
   some (.inr (some v1))
  else
   some (.inl (IntKind.i64.wrap (v1+1)))
 else
  some (.inr (some (-1)))
noncomputable def zbm (a0:zab) (a1:yqS):Option (Int):=
 zak (fun s:Int=>zjr a0 a1 s) 0
noncomputable def zgn (a0:zab):Option (zab):=
 req (((([]:List (yqS)).length:Int)+((a0.ao).length:Int))*16≤140737488355328∧(([]:List (yqS)).length:Int)+((a0.ao).length:Int)≤140737488355328)<|
 req (((([]:List zbh).length:Int)+((a0.af).length:Int))*32≤140737488355328∧(([]:List zbh).length:Int)+((a0.af).length:Int)≤140737488355328)<|
 some a0
noncomputable def zhG (a0:zab) (a1:yqS) (a2:Int):Option (zab):=
 (zgn a0).bind fun v1=>
 (zbm a0 a1).bind fun v2=>
 (zaD v1.af v2).bind fun y3=>
 some (⟨v1.ab,v1.ao,(v1.af.set (v2).toNat {y3 with al:=a2})⟩:zab)
noncomputable def zfq (a0:zab) (a1:yqS) (a2 v4:Int) (v5:List zab):Option ((Int × List zab) ⊕ Option (List zab)):=
 if(v4 !=a2)then
  if(decide (v4<a2))then
   (zhG a0 a1 (IntKind.i64.wrap (v4+1))).bind fun v6=>
   req ((((v5).length:Int)+(([v6]:List zab).length:Int))*64≤140737488355328∧((v5).length:Int)+(([v6]:List zab).length:Int)≤140737488355328)<|
   some (.inl ((IntKind.i64.wrap (v4+1)),(v5++ [v6])))
  else
   (zhG a0 a1 (IntKind.i64.wrap (v4-1))).bind fun v7=>
   req ((((v5).length:Int)+(([v7]:List zab).length:Int))*64≤140737488355328∧((v5).length:Int)+(([v7]:List zab).length:Int)≤140737488355328)<|
   some (.inl ((IntKind.i64.wrap (v4-1)),(v5++ [v7])))
 else
  some (.inr (some v5))
noncomputable def zj5 (a0:zab) (a1:yqS) (a2:Int):Option (List zab):=
 (zgn a0).bind fun v1=>
 (zbm a0 a1).bind fun v2=>
 (zaD a0.af v2).bind fun y3=>
 zak (fun s:Int × List zab=>zfq a0 a1 a2 s.1 s.2) (y3.al, [v1])
noncomputable def zcU (a0 a1:zab) (v1:Int):Option ((Int) ⊕ Option (Bool)):=
 if(decide (v1<(a0.af.length:Int)))then
  (zaD a0.af v1).bind fun y2=>
  (zaD a1.af v1).bind fun y3=>
  if((y2.ab !=y3.ab)||(y2.bj !=y3.bj))then
   some (.inr (some false))
  else
   some (.inl (IntKind.i64.wrap (v1+1)))
 else
  some (.inr (some true))
noncomputable def zeh (a0 a1:zab):Option (Bool):=
 zak (fun s:Int=>zcU a0 a1 s) 0
noncomputable def zc1 (a0 a1:zab) (v4:Int):Option ((Int) ⊕ Option (Bool)):=
 if(decide (v4<(a0.ao.length:Int)))then
  (zaD a0.ao v4).bind fun y5=>
  (zaD a1.ao v4).bind fun y6=>
  if(y5 !=y6)then
   some (.inr (some false))
  else
   some (.inl (IntKind.i64.wrap (v4+1)))
 else
  some (.inr (zeh a0 a1))
noncomputable def zfN (a0 a1:zab):Option (Bool):=
 if(((a0.ab !=a1.ab)||((a0.ao.length:Int) !=(a1.ao.length:Int)))||((a0.af.length:Int) !=(a1.af.length:Int)))then
  some false
 else
  zak (fun s:Int=>zc1 a0 a1 s) 0
noncomputable def zjT (a0 a1:Int):Option (Int):=
 if(decide (a0>a1))then
  some a0
 else
  some a1
noncomputable def zeb (a0 a1:zab) (v1 v2:Int):Option ((Int × Int) ⊕ Option (Int)):=
 if(decide (v2<(a0.af.length:Int)))then
  (zaD a0.af v2).bind fun y3=>
  (zaD a1.af v2).bind fun y4=>
  (zjT (IntKind.i64.wrap (y3.al-y4.al)) (IntKind.i64.wrap (0-(IntKind.i64.wrap (y3.al-y4.al))))).bind fun v5=>
  some (.inl ((IntKind.i64.wrap (v1+v5)),(IntKind.i64.wrap (v2+1))))
 else
  some (.inr (some v1))
noncomputable def zjM (a0 a1:zab):Option (Int):=
 zak (fun s:Int × Int=>zeb a0 a1 s.1 s.2) (0,0)
noncomputable def zeO (a0:zai) (v10:List zab) (v11:Int):Option ((Int) ⊕ Option (Bool)):=
 if(decide (v11<(v10.length:Int)))then
  (zaD a0.ak v11).bind fun y12=>
  (zcx y12).bind fun v13=>
  if v13 then
   (zaD v10 v11).bind fun y14=>
   (zfN y14 y12).bind fun v15=>
   if v15 then
    (zjM y14 y12).bind fun v16=>
    if(v16 !=0)then
     some (.inr (some false))
    else
     some (.inl (IntKind.i64.wrap (v11+1)))
   else
    some (.inr (some false))
  else
   some (.inr (some false))
 else
  some (.inr (some true))
noncomputable def zfz (a0:zai):Option (Bool):=
 (zbw (a0.ak.length:Int) 1 4).bind fun v1=>
 if v1 then
  (zaD a0.ak 0).bind fun y2=>
  (zcx y2).bind fun v3=>
  if v3 then
   (zbm y2 a0.ab).bind fun v4=>
   if(decide (v4<0))then
    some false
   else
    (zaD a0.ak (IntKind.i64.wrap ((a0.ak.length:Int)-1))).bind fun y5=>
    (zcx y5).bind fun v6=>
    if v6 then
     (zbm y5 a0.ab).bind fun v7=>
     if(decide (v7<0))then
      some false
     else
      (zbm y5 a0.ab).bind fun v8=>
      (zaD y5.af v8).bind fun y9=>
      (zj5 y2 a0.ab y9.al).bind fun v10=>
      if((v10.length:Int) !=(a0.ak.length:Int))then
       some false
      else
       zak (fun s:Int=>zeO a0 v10 s) 0
    else
     some false
  else
   some false
 else
  some false
noncomputable def zeE (a0:List Int) (a1 a2 v1:Int):Option ((Int) ⊕ Option (Bool)):=
 if(decide (v1<(a0.length:Int)))then
  (zaD a0 v1).bind fun y2=>
  (zbw y2 a1 a2).bind fun v3=>
  if(!v3)then
   some (.inr (some false))
  else
   some (.inl (IntKind.i64.wrap (v1+1)))
 else
  some (.inr (some true))
noncomputable def zkT (a0:List Int) (a1 a2:Int):Option (Bool):=
 zak (fun s:Int=>zeE a0 a1 a2 s) 0
noncomputable def ziz (v1:Int) (v3:Bool):Option ((Int) ⊕ Option (Bool)):=
 if(!v3)then
  some (.inr (some false))
 else
  some (.inl (IntKind.i64.wrap (v1+1)))
noncomputable def zeJ (a1:yqS) (v1:Int) (y2:UInt8) (v4:Bool) (v5:Int):Option ((Bool × Int) ⊕ Option ((Int) ⊕ Option (Bool))):=
 if(decide (v5<(a1.length:Int)))then
  if v4 then
   some (.inl (true,(IntKind.i64.wrap (v5+1))))
  else
   (zaD a1 v5).bind fun y6=>
   some (.inl (((y2.toNat:Int)==(y6.toNat:Int)),(IntKind.i64.wrap (v5+1))))
 else
  some (.inr (ziz v1 v4))
noncomputable def zif (a0 a1:yqS) (v1:Int):Option ((Int) ⊕ Option (Bool)):=
 if(decide (v1<(a0.length:Int)))then
  (zaD a0 v1).bind fun y2=>
  zak (fun s:Bool × Int=>zeJ a1 v1 y2 s.1 s.2) ((((decide ((y2.toNat:Int)≥97))&&(decide ((y2.toNat:Int)≤122)))||((decide ((y2.toNat:Int)≥48))&&(decide ((y2.toNat:Int)≤57)))),0)
 else
  some (.inr (some true))
noncomputable def zfy (a0 a1:yqS):Option (Bool):=
 zak (fun s:Int=>zif a0 a1 s) 0
noncomputable def zhc (a0:yqS):Option (Bool):=
 (zbw (a0.length:Int) 1 12).bind fun v1=>
 if v1 then
  (zfy a0 ([46,47]:yqS)).bind fun v2=>
  some v2
 else
  some false
noncomputable def zjb (a0:yqS):Option (Bool):=
 if(decide ((a0.length:Int)≤24))then
  (zfy a0 ([46,45,44,95]:yqS)).bind fun v1=>
  some v1
 else
  some false
noncomputable def ziE (a0 a1:yqS) (a2:Bool):Option (Bool):=
 (zhc a0).bind fun v1=>
 if v1 then
  (zjb a1).bind fun v2=>
  some (v2&&((!a2)||(a1==([]:yqS))))
 else
  some false
noncomputable def zhg (a0:List zaa):Option (Bool):=
 some (decide ((a0.length:Int)≤24))
noncomputable def zh1 (a0:List zaa) (v1:Int):Option ((Int) ⊕ Option (Bool)):=
 if(decide (v1<(a0.length:Int)))then
  (zaD a0 v1).bind fun y2=>
  (ziE y2.ae y2.az y2.bd).bind fun v3=>
  if(decide (v1>0))then
   if v3 then
    (zaD a0 (IntKind.i64.wrap (v1-1))).bind fun y4=>
    if(!Op.bytesLess y4.ae y2.ae)then
     some (.inr (some false))
    else
     some (.inl (IntKind.i64.wrap (v1+1)))
   else
    some (.inr (some false))
  else
   if((!v3)||false)then
    some (.inr (some false))
   else
    some (.inl (IntKind.i64.wrap (v1+1)))
 else
  some (.inr (zhg a0))
noncomputable def zhq (a0:List zaa):Option (Bool):=
 zak (fun s:Int=>zh1 a0 s) 0
noncomputable def zjw (a0:List zaa):Option (Bool):=
 (zhq a0).bind fun v1=>
 some v1
noncomputable def zjv (a0:List zaa) (v2:Int):Option ((Int) ⊕ Option (Bool)):=
 if(decide (v2<(a0.length:Int)))then
  (zaD a0 v2).bind fun y3=>
  if y3.bd then
   some (.inr (some false))
  else
   some (.inl (IntKind.i64.wrap (v2+1)))
 else
  some (.inr (zjw a0))
noncomputable def zdr (a0:List zaa):Option (Bool):=
 zak (fun s:Int=>zjv a0 s) 0
noncomputable def zgY (a0:zai):Option (Bool):=
 (zfz a0).bind fun v1=>
 if v1 then
  (zbw (a0.bm.length:Int) 1 3).bind fun v2=>
  if v2 then
   (zkT a0.bm 0 (IntKind.i64.wrap ((a0.ak.length:Int)-1))).bind fun v3=>
   if v3 then
    (zdr a0.ay).bind fun v4=>
    some v4
   else
    some false
  else
   some false
 else
  some false
noncomputable def zf9 (a0:zaK):Option (Bool):=
 if(a0.aq==([]:yqS))then
  some true
 else
  (zhc a0.aq).bind fun v1=>
  some v1
noncomputable def zfW (a0:zaJ):Option (Bool):=
 (zgY a0.ah).bind fun v1=>
 if v1 then
  (zf9 a0.c8).bind fun v2=>
  if v2 then
   (zf9 a0.bf).bind fun v3=>
   some v3
  else
   some false
 else
  some false
noncomputable def zhW (a0:zao):Option (Bool):=
 some (((a0.aj==0)&&((a0.bg.au.length:Int)==0))&&((a0.bh.au.length:Int)==0))
noncomputable def zeN (a0:yqS):Option (Bool):=
 (zbw (a0.length:Int) 1 3).bind fun v1=>
 if v1 then
  (zfy a0 ([]:yqS)).bind fun v2=>
  some v2
 else
  some false
noncomputable def zii (a0:zab) (a1:zch):Option (Bool):=
 some ((a1.au.length:Int)==(a0.ao.length:Int))
noncomputable def zih (a0:zab) (a1:zch) (v1:Int):Option ((Int) ⊕ Option (Bool)):=
 if(decide (v1<(a1.au.length:Int)))then
  (zaD a1.au v1).bind fun y2=>
  (zeN y2).bind fun v3=>
  if(!v3)then
   some (.inr (some false))
  else
   some (.inl (IntKind.i64.wrap (v1+1)))
 else
  some (.inr (zii a0 a1))
noncomputable def zdA (a0:zab) (a1:zch):Option (Bool):=
 zak (fun s:Int=>zih a0 a1 s) 0
noncomputable def zgE (a0:zab) (a1:zao):Option (Bool):=
 if(a1.aj==1)then
  if((a1.bg.au.length:Int)==0)then
   (zdA a0 a1.bh).bind fun v1=>
   some v1
  else
   some false
 else
  if(a1.aj==2)then
   if((a1.bh.au.length:Int)==0)then
    (zdA a0 a1.bg).bind fun v2=>
    some v2
   else
    some false
  else
   if(a1.aj==3)then
    (zdA a0 a1.bg).bind fun v3=>
    if v3 then
     (zdA a0 a1.bh).bind fun v4=>
     if v4 then
      (zaD a1.bg.au 0).bind fun y5=>
      (zaD a1.bh.au 0).bind fun y6=>
      some (y5==y6)
     else
      some false
    else
     some false
   else
    some false
noncomputable def ziV (a0:zai) (a1:zax):Option (Bool):=
 (zbw a1.ax 0 (IntKind.i64.wrap ((a0.bm.length:Int)-1))).bind fun v1=>
 if(!v1)then
  some false
 else
  if((a1.bb==1)||(a1.bb==(-1)))then
   (zhW a1.aw).bind fun v2=>
   some v2
  else
   if(a1.bb==0)then
    (zaD a0.bm a1.ax).bind fun y3=>
    (zaD a0.ak y3).bind fun y4=>
    (zgE y4 a1.aw).bind fun v5=>
    some v5
   else
    some false
noncomputable def zk5 (a0:Int):Option (Bool):=
 (zbw a0 1 24).bind fun v1=>
 some v1
noncomputable def zgq (a1:zaw) (v2:Bool):Option (Bool):=
 if v2 then
  (zk5 a1.bt).bind fun v3=>
  if v3 then
   if(a1.aw.ax==0)then
    if(a1.aw.bb==0)then
     (zhW a1.aw.aw).bind fun v4=>
     some v4
    else
     some false
   else
    some false
  else
   some false
 else
  some false
noncomputable def ziH (a0:zaJ) (a1:zaw):Option (Bool):=
 if(a1.aj==1)then
  if(a1.bt==0)then
   (ziV a0.ah a1.aw).bind fun v1=>
   some v1
  else
   some false
 else
  if(a1.aj==2)then
   zgq a1 (a1.aj==2)
  else
   zgq a1 (a1.aj==3)
noncomputable def zed (a0:zaJ) (a1:zaw):Option (Bool):=
 (zfW a0).bind fun v1=>
 if v1 then
  (ziH a0 a1).bind fun v2=>
  some v2
 else
  some false
noncomputable def zk0 (a0:List Int):Option (List Int):=
 req (((([]:List Int).length:Int)+((a0).length:Int))*8≤140737488355328∧(([]:List Int).length:Int)+((a0).length:Int)≤140737488355328)<|
 some a0
noncomputable def zea (a0:zai) (v1:List Int) (v2:Int) (v3:List zab):Option ((Int × List zab) ⊕ Option (zai)):=
 if(decide (v2<(a0.ak.length:Int)))then
  (zaD a0.ak v2).bind fun y4=>
  (zgn y4).bind fun v5=>
  req ((((v3).length:Int)+(([v5]:List zab).length:Int))*64≤140737488355328∧((v3).length:Int)+(([v5]:List zab).length:Int)≤140737488355328)<|
  some (.inl ((IntKind.i64.wrap (v2+1)),(v3++ [v5])))
 else
  some (.inr (some (⟨a0.ab,v3,v1,a0.ay⟩:zai)))
noncomputable def zhP (a0:zai):Option (zai):=
 (zk0 a0.bm).bind fun v1=>
 req (((([]:List zaa).length:Int)+((a0.ay).length:Int))*40≤140737488355328∧(([]:List zaa).length:Int)+((a0.ay).length:Int)≤140737488355328)<|
 zak (fun s:Int × List zab=>zea a0 v1 s.1 s.2) (0, [])
noncomputable def zjV (a0:zaJ):Option (zaJ):=
 (zhP a0.ah).bind fun v1=>
 some (⟨v1,a0.c8,a0.bf⟩:zaJ)
noncomputable def zcI (a0:zai) (v1:List Int) (v2:Int):Option ((List Int × Int) ⊕ Option (List Int)):=
 if(decide (v2<(a0.bm.length:Int)))then
  (zaD a0.bm v2).bind fun y3=>
  (zaD a0.ak y3).bind fun y4=>
  (zbm y4 a0.ab).bind fun v5=>
  (zaD y4.af v5).bind fun y6=>
  req ((((v1).length:Int)+(([y6.al]:List Int).length:Int))*8≤140737488355328∧((v1).length:Int)+(([y6.al]:List Int).length:Int)≤140737488355328)<|
  some (.inl ((v1++ [y6.al]),(IntKind.i64.wrap (v2+1))))
 else
  some (.inr (some v1))
noncomputable def zbY (a0:zai):Option (List Int):=
 zak (fun s:List Int × Int=>zcI a0 s.1 s.2) ([],0)
noncomputable def zdG (v1:List Int) (v2 v3:Bool) (v4:Int):Option ((Bool × Bool × Int) ⊕ Option (Bool × Bool)):=
 if(decide (v4<(v1.length:Int)))then
  (zaD v1 v4).bind fun y5=>
  some (.inl ((v2&&(decide (y5≥2))),(v3||(decide (y5≥2))),(IntKind.i64.wrap (v4+1))))
 else
  some (.inr (some (v2,v3)))
noncomputable def ziS (a0:zai):Option (Bool × Bool):=
 (zbY a0).bind fun v1=>
 zak (fun s:Bool × Bool × Int=>zdG v1 s.1 s.2.1 s.2.2) (true,false,0)
noncomputable def zi5 (a0:zab) (a1:zao):Option (Bool):=
 (zcx a0).bind fun v1=>
 if v1 then
  (zgE a0 a1).bind fun v2=>
  some v2
 else
  some false
noncomputable def zdI (a0:List (yqS)) (a1 v1:yqS) (v2:Int):Option ((yqS × Int) ⊕ Option (yqS)):=
 if(decide (v2<(a0.length:Int)))then
  (zaD a0 v2).bind fun y3=>
  if(decide (v2>0))then
   req ((v1).length+(a1).length≤9223372036854775807)<|
   req (((v1++a1)).length+(y3).length≤9223372036854775807)<|
   some (.inl (((v1++a1)++y3),(IntKind.i64.wrap (v2+1))))
  else
   req ((v1).length+(y3).length≤9223372036854775807)<|
   some (.inl ((v1++y3),(IntKind.i64.wrap (v2+1))))
 else
  some (.inr (some v1))
noncomputable def zlk (a0:List (yqS)) (a1:yqS):Option (yqS):=
 zak (fun s:yqS × Int=>zdI a0 a1 s.1 s.2) (([]:yqS),0)
noncomputable def zbV (a0:zab) (a1:zch):Option (zaa):=
 req ((a0.ab).length+(([47]:yqS)).length≤9223372036854775807)<|
 (zaD a1.au 0).bind fun y1=>
 req (((a0.ab++([47]:yqS))).length+(y1).length≤9223372036854775807)<|
 req (0≤(1:Int)∧(1:Int)≤(a1.au.length:Int)∧(a1.au.length:Int)≤(a1.au.length:Int))<|
 (zlk (zg2 a1.au 1 (a1.au.length:Int)) ([44]:yqS)).bind fun v2=>
 some (⟨((a0.ab++([47]:yqS))++y1),v2,false⟩:zaa)
noncomputable def ziJ (a0:zab) (a1:zao):Option (List DOp):=
 if(a1.aj==1)then
  (zbV a0 a1.bh).bind fun v1=>
  some [(⟨6,v1.ae,([]:yqS),0⟩:DOp),(⟨2,v1.ae,v1.az,0⟩:DOp)]
 else
  (zbV a0 a1.bg).bind fun v2=>
  if(a1.aj==2)then
   some [(⟨7,v2.ae,v2.az,0⟩:DOp),(⟨3,v2.ae,([]:yqS),0⟩:DOp)]
  else
   (zbV a0 a1.bh).bind fun v3=>
   some [(⟨7,v2.ae,v2.az,0⟩:DOp),(⟨2,v2.ae,v3.az,0⟩:DOp)]
noncomputable def zc0 (a0:zab) (a1:zbh) (a2:zch):Option (yqS):=
 req ((a0.ab).length+(([46]:yqS)).length≤9223372036854775807)<|
 req (((a0.ab++([46]:yqS))).length+(a1.ab).length≤9223372036854775807)<|
 req ((((a0.ab++([46]:yqS))++a1.ab)).length+(([47]:yqS)).length≤9223372036854775807)<|
 (zaD a2.au a1.bj).bind fun y1=>
 req (((((a0.ab++([46]:yqS))++a1.ab)++([47]:yqS))).length+(y1).length≤9223372036854775807)<|
 req ((((((a0.ab++([46]:yqS))++a1.ab)++([47]:yqS))++y1)).length+(([47]:yqS)).length≤9223372036854775807)<|
 (zaD a2.au 0).bind fun y2=>
 req (((((((a0.ab++([46]:yqS))++a1.ab)++([47]:yqS))++y1)++([47]:yqS))).length+(y2).length≤9223372036854775807)<|
 some ((((((a0.ab++([46]:yqS))++a1.ab)++([47]:yqS))++y1)++([47]:yqS))++y2)
noncomputable def zgW (a1:zbh) (v2:yqS) (v3:List DOp):Option (List DOp):=
 if((v2 !=([]:yqS))&&(decide (a1.al≥2)))then
  req ((((v3).length:Int)+(([(⟨2,v2,([]:yqS),0⟩:DOp)]:List DOp).length:Int))*48≤140737488355328∧((v3).length:Int)+(([(⟨2,v2,([]:yqS),0⟩:DOp)]:List DOp).length:Int)≤140737488355328)<|
  some (v3++ [(⟨2,v2,([]:yqS),0⟩:DOp)])
 else
  some v3
noncomputable def zfh (a1:zbh) (v1 v2:yqS):Option (List DOp):=
 if(((v1 !=([]:yqS))&&(v1 !=v2))&&(decide (a1.al≥1)))then
  req (((([]:List DOp).length:Int)+(([(⟨3,v1,([]:yqS),0⟩:DOp)]:List DOp).length:Int))*48≤140737488355328∧(([]:List DOp).length:Int)+(([(⟨3,v1,([]:yqS),0⟩:DOp)]:List DOp).length:Int)≤140737488355328)<|
  zgW a1 v2 [(⟨3,v1,([]:yqS),0⟩:DOp)]
 else
  zgW a1 v2 []
noncomputable def zgT (a0:zab) (a1:zbh) (a2:zao) (v1:yqS):Option (List DOp):=
 if(a2.aj !=2)then
  (zc0 a0 a1 a2.bh).bind fun v4=>
  zfh a1 v1 v4
 else
  zfh a1 v1 ([]:yqS)
noncomputable def zhz (a0:zab) (a1:zbh) (a2:zao):Option (List DOp):=
 zBm (σ:=yqS) (
  if(a2.aj !=1)then
   (zc0 a0 a1 a2.bg).bind fun v5=>
   some (.inl v5)
  else
   some (.inl ([]:yqS))
 ) (fun s=>zgT a0 a1 a2 s)
noncomputable def zd7 (a0:zab) (a1:zao) (v2:Int) (v3:List DOp):Option ((Int × List DOp) ⊕ Option (List DOp)):=
 if(decide (v2<(a0.af.length:Int)))then
  (zaD a0.af v2).bind fun y4=>
  (zhz a0 y4 a1).bind fun v5=>
  req ((((v3).length:Int)+((v5).length:Int))*48≤140737488355328∧((v3).length:Int)+((v5).length:Int)≤140737488355328)<|
  some (.inl ((IntKind.i64.wrap (v2+1)),(v3++v5)))
 else
  some (.inr (some v3))
noncomputable def zjZ (a0:zab) (a1:zao):Option (List DOp):=
 (ziJ a0 a1).bind fun v1=>
 zak (fun s:Int × List DOp=>zd7 a0 a1 s.1 s.2) (0,v1)
noncomputable def zla (a0:DOp) (v2:Bool):Option (Bool):=
 if v2 then
  (zjb a0.az).bind fun v3=>
  some (v3&&(a0.jm==0))
 else
  if(a0.aj==4)then
   if(a0.aj==4)then
    if(a0.az==([]:yqS))then
     (zbw a0.jm (-9999) 9999).bind fun v4=>
     some v4
    else
     some false
   else
    some (((((a0.aj==1)||(a0.aj==3))||(a0.aj==6))&&(a0.az==([]:yqS)))&&(a0.jm==0))
  else
   if(a0.aj==5)then
    if(a0.az==([]:yqS))then
     (zbw a0.jm (-9999) 9999).bind fun v5=>
     some v5
    else
     some false
   else
    some (((((a0.aj==1)||(a0.aj==3))||(a0.aj==6))&&(a0.az==([]:yqS)))&&(a0.jm==0))
noncomputable def zlS (a0:DOp):Option (Bool):=
 (zhc a0.ae).bind fun v1=>
 if(!v1)then
  some false
 else
  if(a0.aj==2)then
   zla a0 (a0.aj==2)
  else
   zla a0 (a0.aj==7)
noncomputable def zjz (a0:List DOp):Option (Bool):=
 some (decide ((a0.length:Int)≤8))
noncomputable def zd8 (a0:List DOp) (v1:Int):Option ((Int) ⊕ Option (Bool)):=
 if(decide (v1<(a0.length:Int)))then
  (zaD a0 v1).bind fun y2=>
  (zlS y2).bind fun v3=>
  if(!v3)then
   some (.inr (some false))
  else
   some (.inl (IntKind.i64.wrap (v1+1)))
 else
  some (.inr (zjz a0))
noncomputable def zj3 (a0:List DOp):Option (Bool):=
 zak (fun s:Int=>zd8 a0 s) 0
noncomputable def zdb (a1:List zh6) (a2:yqS) (v1:Int):Option ((Int) ⊕ Option (yqS × Bool × Bool)):=
 if(decide (v1<(a1.length:Int)))then
  (zaD a1 v1).bind fun y2=>
  if(y2.ae==a2)then
   some (.inr (some (y2.az,y2.fc,true)))
  else
   some (.inl (IntKind.i64.wrap (v1+1)))
 else
  some (.inr (some (([]:yqS),false,false)))
noncomputable def zfP (a1:List zh6) (a2:yqS):Option (yqS × Bool × Bool):=
 zak (fun s:Int=>zdb a1 a2 s) 0
noncomputable def zc4 (a0:List zaa) (a1:List zh6) (a2:yqS) (v3:Int):Option ((Int) ⊕ Option (yqS × Bool × Bool)):=
 if(decide (v3<(a0.length:Int)))then
  (zaD a0 v3).bind fun y4=>
  if(y4.ae==a2)then
   some (.inr (some (y4.az,(!y4.bd),true)))
  else
   some (.inl (IntKind.i64.wrap (v3+1)))
 else
  some (.inr (zfP a1 a2))
noncomputable def zhC (a0:List zaa) (a1:List zh6) (a2:yqS):Option (yqS × Bool × Bool):=
 zak (fun s:Int=>zc4 a0 a1 a2 s) 0
noncomputable def zbX (a0:yqS) (v3 v4:Int):Option ((Int × Int) ⊕ Option (Int)):=
 if(decide (v4<(a0.length:Int)))then
  (zaD a0 v4).bind fun y5=>
  if((decide ((y5.toNat:Int)<48))||(decide ((y5.toNat:Int)>57)))then
   some (.inr (some (-1)))
  else
   some (.inl ((IntKind.i64.wrap ((IntKind.i64.wrap ((10:Int)*v3))+(IntKind.i64.wrap (IntKind.u8.wrap ((y5.toNat:Int)-48))))),(IntKind.i64.wrap (v4+1))))
 else
  some (.inr (some v3))
noncomputable def zhN (a0:yqS):Option (Int):=
 (zbw (a0.length:Int) 1 6).bind fun v1=>
 if v1 then
  (zaD a0 0).bind fun y2=>
  if(((y2.toNat:Int)==48)&&(decide ((a0.length:Int)>1)))then
   some (-1)
  else
   zak (fun s:Int × Int=>zbX a0 s.1 s.2) (0,0)
 else
  some (-1)
noncomputable def zhO (y1:UInt8) (v2:yqS):Option (Int × Bool):=
 (zhN v2).bind fun v3=>
 if((decide (v3<0))||(((y1.toNat:Int)==45)&&(v3==0)))then
  some (0,false)
 else
  if((y1.toNat:Int)==45)then
   some ((IntKind.i64.wrap (0-v3)),true)
  else
   some (v3,true)
noncomputable def zmN (v4:yqS):Option (Int × Bool):=
 (zhN v4).bind fun v5=>
 if((decide (v5<0))||false)then
  some (0,false)
 else
  some (v5,true)
noncomputable def zjo (a0:yqS):Option (Int × Bool):=
 if(decide ((a0.length:Int)>0))then
  (zaD a0 0).bind fun y1=>
  if((y1.toNat:Int)==45)then
   req (0≤(1:Int)∧(1:Int)≤(a0.length:Int)∧(a0.length:Int)≤(a0.length:Int))<|
   zhO y1 (zg2 a0 1 (a0.length:Int))
  else
   zhO y1 a0
 else
  zmN a0
noncomputable def ziR (a0:DOp) (a1:yqS) (a2:Bool):Option (Bool):=
 (zjo a1).bind fun v1=>
 if(a0.aj==4)then
  if(!a2)then
   some false
  else
   if v1.2 then
    (zbw (IntKind.i64.wrap (v1.1+a0.jm)) (-999999) 999999).bind fun v2=>
    some (!v2)
   else
    some true
 else
  if(a0.aj==5)then
   some (((!a2)||(!v1.2))||(decide (v1.1<a0.jm)))
  else
   if(a0.aj==6)then
    some a2
   else
    if(a0.aj==7)then
     some ((!a2)||(a1 !=a0.az))
    else
     some false
noncomputable def zgM (a0:List zaa) (a1:zaa) (v1:Int):Option (List zaa):=
 if(decide (v1>0))then
  (zaD a0 (IntKind.i64.wrap (v1-1))).bind fun y2=>
  if(y2.ae==a1.ae)then
   req (((([]:List zaa).length:Int)+((a0).length:Int))*40≤140737488355328∧(([]:List zaa).length:Int)+((a0).length:Int)≤140737488355328)<|
   (zaD a0 (IntKind.i64.wrap (v1-1))).bind fun y3=>
   some (a0.set ((IntKind.i64.wrap (v1-1))).toNat a1)
  else
   req (0≤v1∧v1≤(a0.length:Int)∧(a0.length:Int)≤(a0.length:Int))<|
   req (((([]:List zaa).length:Int)+(((zg2 a0 v1 (a0.length:Int))).length:Int))*40≤140737488355328∧(([]:List zaa).length:Int)+(((zg2 a0 v1 (a0.length:Int))).length:Int)≤140737488355328)<|
   req (0≤(0:Int)∧(0:Int)≤v1∧v1≤(a0.length:Int))<|
   req (((([]:List zaa).length:Int)+(((zg2 a0 0 v1)).length:Int))*40≤140737488355328∧(([]:List zaa).length:Int)+(((zg2 a0 0 v1)).length:Int)≤140737488355328)<|
   req (((((zg2 a0 0 v1)).length:Int)+(([a1]:List zaa).length:Int))*40≤140737488355328∧(((zg2 a0 0 v1)).length:Int)+(([a1]:List zaa).length:Int)≤140737488355328)<|
   req ((((((zg2 a0 0 v1)++ [a1])).length:Int)+(((zg2 a0 v1 (a0.length:Int))).length:Int))*40≤140737488355328∧((((zg2 a0 0 v1)++ [a1])).length:Int)+(((zg2 a0 v1 (a0.length:Int))).length:Int)≤140737488355328)<|
   some (((zg2 a0 0 v1)++ [a1])++(zg2 a0 v1 (a0.length:Int)))
 else
  req (0≤v1∧v1≤(a0.length:Int)∧(a0.length:Int)≤(a0.length:Int))<|
  req (((([]:List zaa).length:Int)+(((zg2 a0 v1 (a0.length:Int))).length:Int))*40≤140737488355328∧(([]:List zaa).length:Int)+(((zg2 a0 v1 (a0.length:Int))).length:Int)≤140737488355328)<|
  req (0≤(0:Int)∧(0:Int)≤v1∧v1≤(a0.length:Int))<|
  req (((([]:List zaa).length:Int)+(((zg2 a0 0 v1)).length:Int))*40≤140737488355328∧(([]:List zaa).length:Int)+(((zg2 a0 0 v1)).length:Int)≤140737488355328)<|
  req (((((zg2 a0 0 v1)).length:Int)+(([a1]:List zaa).length:Int))*40≤140737488355328∧(((zg2 a0 0 v1)).length:Int)+(([a1]:List zaa).length:Int)≤140737488355328)<|
  req ((((((zg2 a0 0 v1)++ [a1])).length:Int)+(((zg2 a0 v1 (a0.length:Int))).length:Int))*40≤140737488355328∧((((zg2 a0 0 v1)++ [a1])).length:Int)+(((zg2 a0 v1 (a0.length:Int))).length:Int)≤140737488355328)<|
  some (((zg2 a0 0 v1)++ [a1])++(zg2 a0 v1 (a0.length:Int)))
noncomputable def zdh (a0:List zaa) (a1:zaa) (v4:Int):Option ((Int) ⊕ Option (List zaa)):=
 if(decide (v4>0))then
  (zaD a0 (IntKind.i64.wrap (v4-1))).bind fun y5=>
  if(!(Op.bytesLess y5.ae a1.ae||y5.ae==a1.ae))then
   some (.inl (IntKind.i64.wrap (v4-1)))
  else
   some (.inr (zgM a0 a1 v4))
 else
  some (.inr (zgM a0 a1 v4))
noncomputable def zej (a0:List zaa) (a1:zaa):Option (List zaa):=
 zak (fun s:Int=>zdh a0 a1 s) (a0.length:Int)
noncomputable def zgA:Nat→Int→Option (yqS)
 |0,_=>none
 |n_+1,a0=>
  if(decide (a0<10))then
   req (([(IntKind.u8.wrap (IntKind.i64.wrap ((48:Int)+a0)))]:List Int).length≤9223372036854775807)<|
   some ([(IntKind.u8.wrap (IntKind.i64.wrap ((48:Int)+a0)))].map fun n=>UInt8.ofNat n.toNat)
  else
   ((zgA n_) (IntKind.i64.wrap (Int.tdiv a0 10))).bind fun v1=>
   req (([(IntKind.u8.wrap (IntKind.i64.wrap ((48:Int)+(Int.tmod a0 10))))]:List Int).length≤9223372036854775807)<|
   req ((v1).length+(([(IntKind.u8.wrap (IntKind.i64.wrap ((48:Int)+(Int.tmod a0 10))))].map fun n=>UInt8.ofNat n.toNat)).length≤9223372036854775807)<|
   some (v1++([(IntKind.u8.wrap (IntKind.i64.wrap ((48:Int)+(Int.tmod a0 10))))].map fun n=>UInt8.ofNat n.toNat))
noncomputable def zng:Int→Option (yqS):=zgA zIf
noncomputable def zl0 (a0:Int):Option (yqS):=
 if(decide (a0<0))then
  (zng (IntKind.i64.wrap (0-a0))).bind fun v1=>
  req ((([45]:yqS)).length+(v1).length≤9223372036854775807)<|
  some ((([45]:yqS):yqS)++v1)
 else
  (zng a0).bind fun v2=>
  some v2
noncomputable def zaV (a0:List DOp) (a1:List zh6) (v1:List zaa) (v2:Int):Option ((List zaa × Int) ⊕ Option (Int × yqS × List zaa)):=
 if(decide (v2<(a0.length:Int)))then
  (zaD a0 v2).bind fun y3=>
  (zhC v1 a1 y3.ae).bind fun v4=>
  if(((!v4.2.2)&&(y3.aj !=2))&&(y3.aj !=3))then
   some (.inr (some (1,y3.ae, [])))
  else
   (ziR y3 v4.1 v4.2.1).bind fun v5=>
   if v5 then
    some (.inr (some (2,([]:yqS), [])))
   else
    if(y3.aj==2)then
     (zej v1 (⟨y3.ae,y3.az,false⟩:zaa)).bind fun v6=>
     some (.inl (v6,(IntKind.i64.wrap (v2+1))))
    else
     if(y3.aj==3)then
      (zej v1 (⟨y3.ae,([]:yqS),true⟩:zaa)).bind fun v7=>
      some (.inl (v7,(IntKind.i64.wrap (v2+1))))
     else
      if(y3.aj==4)then
       (zjo v4.1).bind fun v8=>
       if(!v4.2.1)then
        (zl0 (IntKind.i64.wrap ((0:Int)+y3.jm))).bind fun v9=>
        (zej v1 (⟨y3.ae,v9,false⟩:zaa)).bind fun v10=>
        some (.inl (v10,(IntKind.i64.wrap (v2+1))))
       else
        (zl0 (IntKind.i64.wrap (v8.1+y3.jm))).bind fun v11=>
        (zej v1 (⟨y3.ae,v11,false⟩:zaa)).bind fun v12=>
        some (.inl (v12,(IntKind.i64.wrap (v2+1))))
      else
       some (.inl (v1,(IntKind.i64.wrap (v2+1))))
 else
  some (.inr (some (3,([]:yqS),v1)))
noncomputable def zlO (a0:List DOp) (a1:List zh6):Option (Int × yqS × List zaa):=
 zak (fun s:List zaa × Int=>zaV a0 a1 s.1 s.2) ([],0)
noncomputable def zmo (a1:yqS):Option (zh6):=
 some (⟨a1,([]:yqS),false⟩:zh6)
noncomputable def zd5 (a0:List zaa) (a1:yqS) (v1:Int):Option ((Int) ⊕ Option (zh6)):=
 if(decide (v1<(a0.length:Int)))then
  (zaD a0 v1).bind fun y2=>
  if(y2.ae==a1)then
   some (.inr (some (⟨a1,y2.az,true⟩:zh6)))
  else
   some (.inl (IntKind.i64.wrap (v1+1)))
 else
  some (.inr (zmo a1))
noncomputable def zjW (a0:List zaa) (a1:yqS):Option (zh6):=
 zak (fun s:Int=>zd5 a0 a1 s) 0
noncomputable def zcE (a0:List zaa) (a1:List DOp) (v1:List zh6):Option ((List zh6) ⊕ Option (List zh6 × List zaa × Bool)):=
 (zlO a1 v1).bind fun v2=>
 if(v2.1 !=1)then
  some (.inr (some (v1,v2.2.2,(v2.1==3))))
 else
  (zjW a0 v2.2.1).bind fun v3=>
  req ((((v1).length:Int)+(([v3]:List zh6).length:Int))*40≤140737488355328∧((v1).length:Int)+(([v3]:List zh6).length:Int)≤140737488355328)<|
  some (.inl (v1++ [v3]))
noncomputable def zld (a0:List zaa) (a1:List DOp):Option (List zh6 × List zaa × Bool):=
 zak (fun s:List zh6=>zcE a0 a1 s) []
noncomputable def zcD (v1 v2:List zaa) (v3:Int):Option ((List zaa × Int) ⊕ Option (List zaa)):=
 if(decide (v3<(v1.length:Int)))then
  (zaD v1 v3).bind fun y4=>
  if(!y4.bd)then
   req ((((v2).length:Int)+(([y4]:List zaa).length:Int))*40≤140737488355328∧((v2).length:Int)+(([y4]:List zaa).length:Int)≤140737488355328)<|
   some (.inl ((v2++ [y4]),(IntKind.i64.wrap (v3+1))))
  else
   some (.inl (v2,(IntKind.i64.wrap (v3+1))))
 else
  some (.inr (some v2))
noncomputable def zgZ (v1:List zaa):Option (List zaa):=
 zak (fun s:List zaa × Int=>zcD v1 s.1 s.2) ([],0)
noncomputable def zcM (a1:List zaa) (v5:Int) (v6:List zaa):Option ((Int × List zaa) ⊕ Option (List zaa)):=
 if(decide (v5<(a1.length:Int)))then
  (zaD a1 v5).bind fun y7=>
  (zej v6 y7).bind fun v8=>
  some (.inl ((IntKind.i64.wrap (v5+1)),v8))
 else
  some (.inr (zgZ v6))
noncomputable def zgQ (a0 a1:List zaa):Option (List zaa):=
 req (((([]:List zaa).length:Int)+((a0).length:Int))*40≤140737488355328∧(([]:List zaa).length:Int)+((a0).length:Int)≤140737488355328)<|
 zak (fun s:Int × List zaa=>zcM a1 s.1 s.2) (0,a0)
noncomputable def zb4 (a1:List (List DOp)) (v2:List Bool) (v3:Int) (v4:List zaa):Option ((List Bool × Int × List zaa) ⊕ Option (List zaa × List Bool × Bool)):=
 if(decide (v3<(a1.length:Int)))then
  (zaD a1 v3).bind fun y5=>
  (zld v4 y5).bind fun v6=>
  (zgQ v4 v6.2.1).bind fun v7=>
  if v6.2.2 then
   (zdr v7).bind fun v8=>
   if v8 then
    req ((((v2).length:Int)+(([v8]:List Bool).length:Int))*1≤140737488355328∧((v2).length:Int)+(([v8]:List Bool).length:Int)≤140737488355328)<|
    some (.inl ((v2++ [v8]),(IntKind.i64.wrap (v3+1)),v7))
   else
    req ((((v2).length:Int)+(([v8]:List Bool).length:Int))*1≤140737488355328∧((v2).length:Int)+(([v8]:List Bool).length:Int)≤140737488355328)<|
    some (.inl ((v2++ [v8]),(IntKind.i64.wrap (v3+1)),v4))
  else
   req ((((v2).length:Int)+(([false]:List Bool).length:Int))*1≤140737488355328∧((v2).length:Int)+(([false]:List Bool).length:Int)≤140737488355328)<|
   some (.inl ((v2++ [false]),(IntKind.i64.wrap (v3+1)),v4))
 else
  some (.inr (some (v4,v2,true)))
noncomputable def zg9 (a0:List zaa) (a1:List (List DOp)):Option (List zaa × List Bool × Bool):=
 req (((([]:List zaa).length:Int)+((a0).length:Int))*40≤140737488355328∧(([]:List zaa).length:Int)+((a0).length:Int)≤140737488355328)<|
 zak (fun s:List Bool × Int × List zaa=>zb4 a1 s.1 s.2.1 s.2.2) ([],0,a0)
noncomputable def zb1 (a0:List zaa) (a1:List (List DOp)) (v9:Int):Option ((Int) ⊕ Option (List zaa × List Bool × Bool)):=
 if(decide (v9<(a1.length:Int)))then
  (zaD a1 v9).bind fun y10=>
  (zj3 y10).bind fun v11=>
  if(!v11)then
   some (.inr (some ([], [],false)))
  else
   some (.inl (IntKind.i64.wrap (v9+1)))
 else
  some (.inr (zg9 a0 a1))
noncomputable def zgP (a0:List zaa) (a1:List (List DOp)):Option (List zaa × List Bool × Bool):=
 (zdr a0).bind fun v1=>
 if((!v1)||(decide ((a1.length:Int)>20)))then
  some ([], [],false)
 else
  zak (fun s:Int=>zb1 a0 a1 s) 0
noncomputable def zf4 (a0:List zaa) (a1:List DOp):Option (List zaa × Bool):=
 (zgP a0 ([a1]:List (List DOp))).bind fun v1=>
 if((v1.2.1.length:Int)==1)then
  (zaD v1.2.1 0).bind fun y2=>
  some (v1.1,y2)
 else
  some (v1.1,false)
noncomputable def zkN (a0:zab) (a1:List zaa) (a2:zao):Option (List zaa × Bool × Bool):=
 (zi5 a0 a2).bind fun v1=>
 if v1 then
  (zdr a1).bind fun v2=>
  if(!v2)then
   some ([],false,false)
  else
   (zjZ a0 a2).bind fun v3=>
   (zf4 a1 v3).bind fun v4=>
   some (v4.1,v4.2,true)
 else
  some ([],false,false)
noncomputable def zep (a0:zai) (a1:zax):Option (zai × Bool):=
 (zhP a0).bind fun v1=>
 if(a1.bb !=0)then
  (zaD v1.bm a1.ax).bind fun y2=>
  (zbw (IntKind.i64.wrap (y2+a1.bb)) 0 (IntKind.i64.wrap ((a0.ak.length:Int)-1))).bind fun v3=>
  if(!v3)then
   some (v1,false)
  else
   some ((⟨v1.ab,v1.ak,(v1.bm.set (a1.ax).toNat (IntKind.i64.wrap (y2+a1.bb))),v1.ay⟩:zai),true)
 else
  (zaD a0.bm a1.ax).bind fun y4=>
  (zaD a0.ak y4).bind fun y5=>
  (zkN y5 a0.ay a1.aw).bind fun v6=>
  some ((⟨v1.ab,v1.ak,v1.bm,v6.1⟩:zai),v6.2.1)
noncomputable def zht (v1:Int):Option ((Int) ⊕ Option (Bool)):=
 some (.inl (IntKind.i64.wrap (v1+1)))
noncomputable def zcn (a0:List Int) (v1 y2 v3:Int):Option ((Int) ⊕ Option ((Int) ⊕ Option (Bool))):=
 if(decide (v3<(a0.length:Int)))then
  (zaD a0 v3).bind fun y4=>
  if(decide ((IntKind.i64.wrap (y2-y4))>1))then
   some (.inr (some (.inr (some false))))
  else
   some (.inl (IntKind.i64.wrap (v3+1)))
 else
  some (.inr (zht v1))
noncomputable def zdd (a0:List Int) (v1:Int):Option ((Int) ⊕ Option (Bool)):=
 if(decide (v1<(a0.length:Int)))then
  (zaD a0 v1).bind fun y2=>
  zak (fun s:Int=>zcn a0 v1 y2 s) 0
 else
  some (.inr (some true))
noncomputable def zhS (a0:List Int):Option (Bool):=
 zak (fun s:Int=>zdd a0 s) 0
noncomputable def zeM (a0:List Int) (a1 v1:Int):Option ((Int) ⊕ Option (Bool)):=
 if(decide (v1<(a0.length:Int)))then
  (zaD a0 v1).bind fun y2=>
  if(y2==a1)then
   some (.inr (some true))
  else
   some (.inl (IntKind.i64.wrap (v1+1)))
 else
  some (.inr (some false))
noncomputable def zji (a0:List Int) (a1:Int):Option (Bool):=
 zak (fun s:Int=>zeM a0 a1 s) 0
noncomputable def ziZ (a0:zai):Option (Int):=
 (zbY a0).bind fun v1=>
 (zji v1 3).bind fun v2=>
 if v2 then
  some 2
 else
  (zji v1 0).bind fun v3=>
  if v3 then
   some 0
  else
   some 1
noncomputable def zig (a0:yqS) (v1:Int) (v2:List (yqS)):Option (List (yqS)):=
 req (0≤v1∧v1≤(a0.length:Int)∧(a0.length:Int)≤(a0.length:Int))<|
 req ((((v2).length:Int)+(([(zg2 a0 v1 (a0.length:Int))]:List (yqS)).length:Int))*16≤140737488355328∧((v2).length:Int)+(([(zg2 a0 v1 (a0.length:Int))]:List (yqS)).length:Int)≤140737488355328)<|
 some (v2++ [(zg2 a0 v1 (a0.length:Int))])
noncomputable def zdE (a0:yqS) (a1:Int) (v3:List (yqS)) (v4 v5:Int):Option ((List (yqS) × Int × Int) ⊕ Option (List (yqS))):=
 if(decide (v5<(a0.length:Int)))then
  (zaD a0 v5).bind fun y6=>
  if((y6.toNat:Int)==a1)then
   req (0≤v4∧v4≤v5∧v5≤(a0.length:Int))<|
   req ((((v3).length:Int)+(([(zg2 a0 v4 v5)]:List (yqS)).length:Int))*16≤140737488355328∧((v3).length:Int)+(([(zg2 a0 v4 v5)]:List (yqS)).length:Int)≤140737488355328)<|
   some (.inl ((v3++ [(zg2 a0 v4 v5)]),(IntKind.i64.wrap (v5+1)),(IntKind.i64.wrap (v5+1))))
  else
   some (.inl (v3,v4,(IntKind.i64.wrap (v5+1))))
 else
  some (.inr (zig a0 v4 v3))
noncomputable def zex (a0:yqS) (a1:Int):Option (List (yqS)):=
 zak (fun s:List (yqS) × Int × Int=>zdE a0 a1 s.1 s.2.1 s.2.2) ([],0,0)
noncomputable def zfa (a0:zab) (a1 a2:yqS):Option (yqS × yqS × Bool):=
 (zex a2 47).bind fun v1=>
 if((v1.length:Int) !=3)then
  some (([]:yqS),([]:yqS),false)
 else
  (zaD v1 0).bind fun y2=>
  req ((a0.ab).length+(([46]:yqS)).length≤9223372036854775807)<|
  req (((a0.ab++([46]:yqS))).length+(a1).length≤9223372036854775807)<|
  if(y2 !=((a0.ab++([46]:yqS))++a1))then
   some (([]:yqS),([]:yqS),false)
  else
   (zaD v1 1).bind fun y3=>
   (zeN y3).bind fun v4=>
   if v4 then
    (zaD v1 2).bind fun y5=>
    (zeN y5).bind fun v6=>
    if(!v6)then
     some (([]:yqS),([]:yqS),false)
    else
     some (y3,y5,true)
   else
    some (([]:yqS),([]:yqS),false)
noncomputable def zct (a0:zab) (a1:yqS) (a2:List zaa) (v1:List (yqS)) (v2:Int):Option ((List (yqS) × Int) ⊕ Option (List (yqS))):=
 if(decide (v2<(a2.length:Int)))then
  (zaD a2 v2).bind fun y3=>
  (zfa a0 a1 y3.ae).bind fun v4=>
  if v4.2.2 then
   req ((((v1).length:Int)+(([y3.ae]:List (yqS)).length:Int))*16≤140737488355328∧((v1).length:Int)+(([y3.ae]:List (yqS)).length:Int)≤140737488355328)<|
   some (.inl ((v1++ [y3.ae]),(IntKind.i64.wrap (v2+1))))
  else
   some (.inl (v1,(IntKind.i64.wrap (v2+1))))
 else
  some (.inr (some v1))
noncomputable def zcL (a0:zab) (a1:yqS) (a2:List zaa):Option (List (yqS)):=
 zak (fun s:List (yqS) × Int=>zct a0 a1 a2 s.1 s.2) ([],0)
noncomputable def zdP (a0:zab) (a1:yqS) (a2:List zaa):Option (Bool):=
 (zcx a0).bind fun v1=>
 if v1 then
  (zbm a0 a1).bind fun v2=>
  if(decide (v2≥0))then
   (zdr a2).bind fun v3=>
   some v3
  else
   some false
 else
  some false
noncomputable def ziD (a0:zab) (a1:zaa):Option (zch × Bool):=
 if(decide ((a1.ae.length:Int)<3))then
  some ((⟨[]⟩:zch),false)
 else
  req (0≤(2:Int)∧(2:Int)≤(a1.ae.length:Int)∧(a1.ae.length:Int)≤(a1.ae.length:Int))<|
  (zex a1.az 44).bind fun v1=>
  req (((([(zg2 a1.ae 2 (a1.ae.length:Int))]:List (yqS)).length:Int)+((v1).length:Int))*16≤140737488355328∧(([(zg2 a1.ae 2 (a1.ae.length:Int))]:List (yqS)).length:Int)+((v1).length:Int)≤140737488355328)<|
  (zdA a0 (⟨([(zg2 a1.ae 2 (a1.ae.length:Int))]++v1)⟩:zch)).bind fun v2=>
  if v2 then
   (zbV a0 (⟨([(zg2 a1.ae 2 (a1.ae.length:Int))]++v1)⟩:zch)).bind fun v3=>
   some ((⟨([(zg2 a1.ae 2 (a1.ae.length:Int))]++v1)⟩:zch),(v3.ae==a1.ae&&(v3.az==a1.az&&(v3.bd==a1.bd))))
  else
   some ((⟨([(zg2 a1.ae 2 (a1.ae.length:Int))]++v1)⟩:zch),false)
noncomputable def zdD (a0:zab) (a1:List zaa) (v1:List zch) (v2:Int):Option ((List zch × Int) ⊕ Option (List zch)):=
 if(decide (v2<(a1.length:Int)))then
  (zaD a1 v2).bind fun y3=>
  (ziD a0 y3).bind fun v4=>
  if v4.2 then
   req ((((v1).length:Int)+(([v4.1]:List zch).length:Int))*24≤140737488355328∧((v1).length:Int)+(([v4.1]:List zch).length:Int)≤140737488355328)<|
   some (.inl ((v1++ [v4.1]),(IntKind.i64.wrap (v2+1))))
  else
   some (.inl (v1,(IntKind.i64.wrap (v2+1))))
 else
  some (.inr (some v1))
noncomputable def zfu (a0:zab) (a1:List zaa):Option (List zch):=
 zak (fun s:List zch × Int=>zdD a0 a1 s.1 s.2) ([],0)
noncomputable def zcO (a0:zab) (a1:yqS) (v1:List zch) (v2:List (yqS)) (v3:Int):Option ((List (yqS) × Int) ⊕ Option (List (yqS))):=
 if(decide (v3<(v1.length:Int)))then
  (zaD v1 v3).bind fun y4=>
  (zbm a0 a1).bind fun v5=>
  (zaD a0.af v5).bind fun y6=>
  (zc0 a0 y6 y4).bind fun v7=>
  req ((((v2).length:Int)+(([v7]:List (yqS)).length:Int))*16≤140737488355328∧((v2).length:Int)+(([v7]:List (yqS)).length:Int)≤140737488355328)<|
  some (.inl ((v2++ [v7]),(IntKind.i64.wrap (v3+1))))
 else
  some (.inr (some v2))
noncomputable def zfp (a0:zab) (a1:yqS) (a2:List zaa):Option (List (yqS)):=
 (zfu a0 a2).bind fun v1=>
 zak (fun s:List (yqS) × Int=>zcO a0 a1 v1 s.1 s.2) ([],0)
noncomputable def zdH (a0:List (yqS)) (a1:List (yqS)) (v1:List (yqS)) (v2:Int):Option ((List (yqS) × Int) ⊕ Option (List (yqS))):=
 if(decide (v2<(a0.length:Int)))then
  (zaD a0 v2).bind fun y3=>
  (zi8 a1 y3).bind fun v4=>
  if(decide (v4<0))then
   req ((((v1).length:Int)+(([y3]:List (yqS)).length:Int))*16≤140737488355328∧((v1).length:Int)+(([y3]:List (yqS)).length:Int)≤140737488355328)<|
   some (.inl ((v1++ [y3]),(IntKind.i64.wrap (v2+1))))
  else
   some (.inl (v1,(IntKind.i64.wrap (v2+1))))
 else
  some (.inr (some v1))
noncomputable def ziW (a0:List (yqS)) (a1:List (yqS)):Option (List (yqS)):=
 zak (fun s:List (yqS) × Int=>zdH a0 a1 s.1 s.2) ([],0)
noncomputable def zjB (a0:zab) (a1:yqS) (a2:List zaa):Option (List (yqS) × Bool):=
 (zdP a0 a1 a2).bind fun v1=>
 if(!v1)then
  some ([],false)
 else
  (zcL a0 a1 a2).bind fun v2=>
  (zfp a0 a1 a2).bind fun v3=>
  (ziW v2 v3).bind fun v4=>
  some (v4,true)
noncomputable def zk3 (a0:zab) (a1:yqS) (a2:List zaa):Option (List (yqS) × Bool):=
 (zdP a0 a1 a2).bind fun v1=>
 if(!v1)then
  some ([],false)
 else
  (zfp a0 a1 a2).bind fun v2=>
  (zcL a0 a1 a2).bind fun v3=>
  (ziW v2 v3).bind fun v4=>
  some (v4,true)
noncomputable def zhp (a0:zab) (a1:yqS) (a2:Int) (a3:List zaa):Option (Bool):=
 if(a2==0)then
  (zcL a0 a1 a3).bind fun v1=>
  some ((v1.length:Int)==0)
 else
  (zjB a0 a1 a3).bind fun v2=>
  (zk3 a0 a1 a3).bind fun v3=>
  some (((v2.1.length:Int)==0)&&((a2==1)||((v3.1.length:Int)==0)))
noncomputable def zgB (a0:zai):Option (Bool):=
 (zaD a0.ak 0).bind fun y1=>
 (ziZ a0).bind fun v2=>
 (zhp y1 a0.ab v2 a0.ay).bind fun v3=>
 some v3
noncomputable def zhV (a0:zai) (a1:zax):Option (Bool):=
 (zep a0 a1).bind fun v1=>
 if v1.2 then
  (zhS v1.1.bm).bind fun v2=>
  if v2 then
   (zgB v1.1).bind fun v3=>
   some v3
  else
   some false
 else
  some false
noncomputable def zdy (a0:zaJ) (a1:zax):Option (zaJ × Bool):=
 if(a1.bb !=0)then
  (zhV a0.ah a1).bind fun v1=>
  if(!v1)then
   some (a0,false)
  else
   (zbY a0.ah).bind fun v2=>
   (zaD v2 a1.ax).bind fun y3=>
   (zep a0.ah a1).bind fun v4=>
   if(!v4.2)then
    some (a0,false)
   else
    if((a1.bb==0)&&(decide (y3≥2)))then
     some ((⟨v4.1,(⟨a0.c8.aq,a0.c8.br⟩:zaK),(⟨([]:yqS),false⟩:zaK)⟩:zaJ),true)
    else
     if(a1.bb==0)then
      some ((⟨v4.1,(⟨([]:yqS),false⟩:zaK),(⟨a0.bf.aq,a0.bf.br⟩:zaK)⟩:zaJ),true)
     else
      some ((⟨v4.1,(⟨a0.c8.aq,a0.c8.br⟩:zaK),(⟨a0.bf.aq,a0.bf.br⟩:zaK)⟩:zaJ),true)
 else
  (zbY a0.ah).bind fun v5=>
  (zaD v5 a1.ax).bind fun y6=>
  (zep a0.ah a1).bind fun v7=>
  if(!v7.2)then
   some (a0,false)
  else
   if((a1.bb==0)&&(decide (y6≥2)))then
    some ((⟨v7.1,(⟨a0.c8.aq,a0.c8.br⟩:zaK),(⟨([]:yqS),false⟩:zaK)⟩:zaJ),true)
   else
    if(a1.bb==0)then
     some ((⟨v7.1,(⟨([]:yqS),false⟩:zaK),(⟨a0.bf.aq,a0.bf.br⟩:zaK)⟩:zaJ),true)
    else
     some ((⟨v7.1,(⟨a0.c8.aq,a0.c8.br⟩:zaK),(⟨a0.bf.aq,a0.bf.br⟩:zaK)⟩:zaJ),true)
noncomputable def ziA (a0:zab) (a1:zbh) (a2:zch):Option (List DOp):=
 (zbV a0 a2).bind fun v1=>
 (zc0 a0 a1 a2).bind fun v2=>
 some [(⟨7,v1.ae,v1.az,0⟩:DOp),(⟨2,v2,([]:yqS),0⟩:DOp)]
noncomputable def zcs (a0:zab) (v1:List zch) (v2:List (yqS)) (v3:Int):Option ((List (yqS) × Int) ⊕ Option (List (yqS))):=
 if(decide (v3<(v1.length:Int)))then
  (zaD v1 v3).bind fun y4=>
  (zbV a0 y4).bind fun v5=>
  req ((((v2).length:Int)+(([v5.ae]:List (yqS)).length:Int))*16≤140737488355328∧((v2).length:Int)+(([v5.ae]:List (yqS)).length:Int)≤140737488355328)<|
  some (.inl ((v2++ [v5.ae]),(IntKind.i64.wrap (v3+1))))
 else
  some (.inr (some v2))
noncomputable def zgj (a0:zab) (a1:List zaa):Option (List (yqS)):=
 (zfu a0 a1).bind fun v1=>
 zak (fun s:List (yqS) × Int=>zcs a0 v1 s.1 s.2) ([],0)
noncomputable def zeP (a0:List (yqS)) (a1:yqS) (v1:Int):Option ((Int) ⊕ Option (Bool)):=
 if(decide (v1<(a0.length:Int)))then
  (zaD a0 v1).bind fun y2=>
  if(!(Op.bytesLess y2 a1||y2==a1))then
   some (.inr (some true))
  else
   some (.inl (IntKind.i64.wrap (v1+1)))
 else
  some (.inr (some false))
noncomputable def zi3 (a0:List (yqS)) (a1:yqS):Option (Bool):=
 zak (fun s:Int=>zeP a0 a1 s) 0
noncomputable def zdF (a0:zab) (a3:zaK) (v4:yqS) (v5:List zaa):Option (List zaa × zaK):=
 if a3.br then
  some (v5,(⟨v4,true⟩:zaK))
 else
  (zgj a0 v5).bind fun v6=>
  (zi3 v6 v4).bind fun v7=>
  some (v5,(⟨v4,(!v7)⟩:zaK))
noncomputable def zbD (a0:zab) (a3:zaK) (y2:zbh) (v3:List zch) (v8 v9:Int) (v10:yqS) (v11:List zaa):Option ((Int × Int × yqS × List zaa) ⊕ Option (List zaa × zaK)):=
 if(decide (v9<(v3.length:Int)))then
  (zaD v3 v9).bind fun y12=>
  (zbV a0 y12).bind fun v13=>
  if((v8==0)||(Op.bytesLess v13.ae v10||v13.ae==v10))then
   some (.inl (v8,(IntKind.i64.wrap (v9+1)),v10,v11))
  else
   (ziA a0 y2 y12).bind fun v14=>
   (zf4 v11 v14).bind fun v15=>
   if(!v15.2)then
    some (.inr (zdF a0 a3 v10 v11))
   else
    some (.inl ((IntKind.i64.wrap (v8-1)),(IntKind.i64.wrap (v9+1)),v13.ae,v15.1))
 else
  some (.inr (zdF a0 a3 v10 v11))
noncomputable def zgG (a0:zab) (a1:yqS) (a2:List zaa) (a3:zaK) (a4:Int):Option (List zaa × zaK):=
 req (((([]:List zaa).length:Int)+((a2).length:Int))*40≤140737488355328∧(([]:List zaa).length:Int)+((a2).length:Int)≤140737488355328)<|
 (zbm a0 a1).bind fun v1=>
 (zaD a0.af v1).bind fun y2=>
 (zfu a0 a2).bind fun v3=>
 zak (fun s:Int × Int × yqS × List zaa=>zbD a0 a3 y2 v3 s.1 s.2.1 s.2.2.1 s.2.2.2) (a4,0,a3.aq,a2)
noncomputable def zfJ (a0:zab) (a1:yqS) (a3:zaK) (v2:yqS) (v3:List zaa):Option (List zaa × zaK):=
 if a3.br then
  some (v3,(⟨v2,true⟩:zaK))
 else
  (zcL a0 a1 v3).bind fun v4=>
  (zi3 v4 v2).bind fun v5=>
  some (v3,(⟨v2,(!v5)⟩:zaK))
noncomputable def zbN (a0:zab) (a1:yqS) (a3:zaK) (v1:List (yqS)) (v6 v7:Int) (v8:yqS) (v9:List zaa):Option ((Int × Int × yqS × List zaa) ⊕ Option (List zaa × zaK)):=
 if(decide (v7<(v1.length:Int)))then
  (zaD v1 v7).bind fun y10=>
  if((v6==0)||(Op.bytesLess y10 v8||y10==v8))then
   some (.inl (v6,(IntKind.i64.wrap (v7+1)),v8,v9))
  else
   (zf4 v9 ([(⟨3,y10,([]:yqS),0⟩:DOp)]:List DOp)).bind fun v11=>
   some (.inl ((IntKind.i64.wrap (v6-1)),(IntKind.i64.wrap (v7+1)),y10,v11.1))
 else
  some (.inr (zfJ a0 a1 a3 v8 v9))
noncomputable def zfU (a0:zab) (a1:yqS) (a2:List zaa) (a3:zaK) (a4:Int):Option (List zaa × zaK):=
 req (((([]:List zaa).length:Int)+((a2).length:Int))*40≤140737488355328∧(([]:List zaa).length:Int)+((a2).length:Int)≤140737488355328)<|
 (zcL a0 a1 a2).bind fun v1=>
 zak (fun s:Int × Int × yqS × List zaa=>zbN a0 a1 a3 v1 s.1 s.2.1 s.2.2.1 s.2.2.2) (a4,0,a3.aq,a2)
noncomputable def zeX (a0:zaJ) (a1:zaw):Option (zaJ × Bool):=
 (ziS a0.ah).bind fun v1=>
 if(a1.aj==1)then
  (zdy a0 a1.aw).bind fun v2=>
  some (v2.1,v2.2)
 else
  if((a1.aj==2)&&v1.1)then
   (zaD a0.ah.ak 0).bind fun y3=>
   (zgG y3 a0.ah.ab a0.ah.ay a0.c8 a1.bt).bind fun v4=>
   some ((⟨(⟨a0.ah.ab,a0.ah.ak,a0.ah.bm,v4.1⟩:zai),v4.2,(⟨([]:yqS),false⟩:zaK)⟩:zaJ),true)
  else
   if((a1.aj==3)&&(!v1.2))then
    (zaD a0.ah.ak 0).bind fun y5=>
    (zfU y5 a0.ah.ab a0.ah.ay a0.bf a1.bt).bind fun v6=>
    some ((⟨(⟨a0.ah.ab,a0.ah.ak,a0.ah.bm,v6.1⟩:zai),(⟨([]:yqS),false⟩:zaK),v6.2⟩:zaJ),true)
   else
    some (a0,false)
noncomputable def zf6 (a0:zaJ) (a1:zaw):Option (zaJ × Bool × Bool):=
 (zed a0 a1).bind fun v1=>
 if(!v1)then
  some ((⟨(⟨([]:yqS), [], [], []⟩:zai),(⟨([]:yqS),false⟩:zaK),(⟨([]:yqS),false⟩:zaK)⟩:zaJ),false,false)
 else
  (zjV a0).bind fun v2=>
  (zeX v2 a1).bind fun v3=>
  some (v3.1,v3.2,true)
noncomputable def zba (a0 a1 a2:Int):Option (Bool):=
 some ((decide (a0≥a1))&&(decide (a0≤a2)))
noncomputable def zcQ (a0:List zaa) (v1:Int) (v2:List (yqS)):Option ((Int × List (yqS)) ⊕ Option (List (yqS))):=
 if(decide (v1<(a0.length:Int)))then
  (zaD a0 v1).bind fun y3=>
  req ((((v2).length:Int)+(([y3.ae]:List (yqS)).length:Int))*16≤140737488355328∧((v2).length:Int)+(([y3.ae]:List (yqS)).length:Int)≤140737488355328)<|
  some (.inl ((IntKind.i64.wrap (v1+1)),(v2++ [y3.ae])))
 else
  some (.inr (some v2))
noncomputable def zgU (a0:List zaa):Option (List (yqS)):=
 zak (fun s:Int × List (yqS)=>zcQ a0 s.1 s.2) (0, [])
noncomputable def zgb (a0:Int):Option (Bool):=
 some (((decide (a0≥97))&&(decide (a0≤122)))||((decide (a0≥48))&&(decide (a0≤57))))
noncomputable def zg7 (a0:yqS) (a1:Int):Option (Int):=
 (zbu a0 a1).bind fun v1=>
 some v1
noncomputable def zhm (a0 a1:yqS) (v1:Int):Option ((Int) ⊕ Option (Bool)):=
 if(decide (v1<(a0.length:Int)))then
  (zaD a0 v1).bind fun y2=>
  (zgb (y2.toNat:Int)).bind fun v3=>
  if v3 then
   some (.inl (IntKind.i64.wrap (v1+1)))
  else
   (zg7 a1 (y2.toNat:Int)).bind fun v4=>
   if(decide (v4<0))then
    some (.inr (some false))
   else
    some (.inl (IntKind.i64.wrap (v1+1)))
 else
  some (.inr (some true))
noncomputable def zeK (a0 a1:yqS):Option (Bool):=
 zak (fun s:Int=>zhm a0 a1 s) 0
noncomputable def zgC (a0:yqS):Option (Bool):=
 (zba (a0.length:Int) 1 12).bind fun v1=>
 if v1 then
  (zeK a0 ([46,47]:yqS)).bind fun v2=>
  some v2
 else
  some false
noncomputable def zg1 (a0:List (yqS)) (v1:Int):Option ((Int) ⊕ Option (Bool)):=
 if(decide (v1<(a0.length:Int)))then
  (zaD a0 v1).bind fun y2=>
  (zgC y2).bind fun v3=>
  if(decide (v1>0))then
   if v3 then
    (zaD a0 (IntKind.i64.wrap (v1-1))).bind fun y4=>
    if(Op.bytesLess y2 y4||y2==y4)then
     some (.inr (some false))
    else
     some (.inl (IntKind.i64.wrap (v1+1)))
   else
    some (.inr (some false))
  else
   if((!v3)||false)then
    some (.inr (some false))
   else
    some (.inl (IntKind.i64.wrap (v1+1)))
 else
  some (.inr (some true))
noncomputable def zgX (a0:List (yqS)):Option (Bool):=
 zak (fun s:Int=>zg1 a0 s) 0
noncomputable def ziI (a0:yqS):Option (Bool):=
 if(decide ((a0.length:Int)≤24))then
  (zeK a0 ([46,45,44,95]:yqS)).bind fun v1=>
  some v1
 else
  some false
noncomputable def zhx (a0:yqS) (a1:Bool):Option (Bool):=
 (ziI a0).bind fun v1=>
 some (v1&&(!(a1&&(a0 !=([]:yqS)))))
noncomputable def ze0 (a0:zaa):Option (Bool):=
 (zhx a0.az a0.bd).bind fun v1=>
 some (!v1)
noncomputable def zgg (a0:List zaa):Option (Bool):=
 if(decide ((a0.length:Int)≤24))then
  (zgU a0).bind fun v1=>
  (zgX v1).bind fun v2=>
  if v2 then
   (za3 a0 (fun y0_=>ze0 y0_)).bind fun v3=>
   some (!v3)
  else
   some false
 else
  some false
noncomputable def zhL (a0:zaa):Option (Bool):=
 some a0.bd
noncomputable def zj9 (a0:List zaa):Option (Bool):=
 (zgg a0).bind fun v1=>
 if v1 then
  (za3 a0 (fun y0_=>zhL y0_)).bind fun v2=>
  some (!v2)
 else
  some false
noncomputable def zgy (a0:yqS) (a1:Int):Option (Bool):=
 (zba (a0.length:Int) 1 a1).bind fun v1=>
 some v1
noncomputable def zgz (a0:yqS) (a1 v2:Int):Option ((Int) ⊕ Option (Bool)):=
 if(decide (v2<(a0.length:Int)))then
  (zaD a0 v2).bind fun y3=>
  if((decide ((y3.toNat:Int)<97))||(decide ((y3.toNat:Int)>122)))then
   some (.inr (some false))
  else
   some (.inl (IntKind.i64.wrap (v2+1)))
 else
  some (.inr (zgy a0 a1))
noncomputable def zdB (a0:yqS) (a1:Int):Option (Bool):=
 zak (fun s:Int=>zgz a0 a1 s) 0
noncomputable def zce (a0:List (yqS)) (a1:yqS) (v1:Int):Option ((Int) ⊕ Option (Int)):=
 if(decide (v1<(a0.length:Int)))then
  (zaD a0 v1).bind fun y2=>
  if(a1==y2)then
   some (.inr (some v1))
  else
   some (.inl (IntKind.i64.wrap (v1+1)))
 else
  some (.inr (some (-1)))
noncomputable def zbE (a0:List (yqS)) (a1:yqS):Option (Int):=
 zak (fun s:Int=>zce a0 a1 s) 0
noncomputable def zaS (a0:List (yqS)) (a1:yqS):Option (Bool):=
 (zbE a0 a1).bind fun v1=>
 some (decide (v1≥0))
noncomputable def zlb (a0:Int):Option (Bool):=
 (zba a0 0 3).bind fun v1=>
 some v1
noncomputable def ze7 (a0:zab) (v3:Int):Option ((Int) ⊕ Option (Bool)):=
 if(decide (v3<(a0.af.length:Int)))then
  (zaD a0.af v3).bind fun y4=>
  (zdB y4.ab 1).bind fun v5=>
  if v5 then
   (zba y4.bj 1 (IntKind.i64.wrap ((a0.ao.length:Int)-1))).bind fun v6=>
   if v6 then
    (zlb y4.al).bind fun v7=>
    if(decide (v3>0))then
     if v7 then
      (zaD a0.af (IntKind.i64.wrap (v3-1))).bind fun y8=>
      if(Op.bytesLess y4.ab y8.ab||y4.ab==y8.ab)then
       some (.inr (some false))
      else
       some (.inl (IntKind.i64.wrap (v3+1)))
     else
      some (.inr (some false))
    else
     if((!v7)||false)then
      some (.inr (some false))
     else
      some (.inl (IntKind.i64.wrap (v3+1)))
   else
    some (.inr (some false))
  else
   some (.inr (some false))
 else
  some (.inr (some true))
noncomputable def zg0 (a0:zab):Option (Bool):=
 zak (fun s:Int=>ze7 a0 s) 0
noncomputable def zfd (a0:zab) (v9:Int):Option ((Int) ⊕ Option (Bool)):=
 if(decide (v9<(a0.ao.length:Int)))then
  (zaD a0.ao v9).bind fun y10=>
  (zdB y10 3).bind fun v11=>
  if v11 then
   req (0≤(0:Int)∧(0:Int)≤v9∧v9≤(a0.ao.length:Int))<|
   (zaS (zg2 a0.ao 0 v9) y10).bind fun v12=>
   if v12 then
    some (.inr (some false))
   else
    some (.inl (IntKind.i64.wrap (v9+1)))
  else
   some (.inr (some false))
 else
  some (.inr (zg0 a0))
noncomputable def zgK (a0:zab):Option (Bool):=
 (zdB a0.ab 1).bind fun v1=>
 if v1 then
  (zba (a0.ao.length:Int) 2 4).bind fun v2=>
  if((!v2)||(decide ((a0.af.length:Int)>3)))then
   some false
  else
   zak (fun s:Int=>zfd a0 s) 0
 else
  some false
noncomputable def zeT (a0:zbh) (a1:yqS):Option (Bool):=
 some (a0.ab==a1)
noncomputable def zbU (a0:zab) (a1:yqS):Option (Int):=
 (za4 a0.af (fun y0_=>zeT y0_ a1)).bind fun v1=>
 some v1
noncomputable def zj8 (a0:zab) (a1:yqS):Option (Bool):=
 (zgK a0).bind fun v1=>
 if v1 then
  (zbU a0 a1).bind fun v2=>
  some (decide (v2≥0))
 else
  some false
noncomputable def zhr (a0:zab) (a1:zai):Option (Bool):=
 (zj8 a0 a1.ab).bind fun v1=>
 some (!v1)
noncomputable def zhQ (a0:Int) (a1:zai):Option (Bool):=
 (zba a0 0 (IntKind.i64.wrap ((a1.ak.length:Int)-1))).bind fun v1=>
 some (!v1)
noncomputable def zbM (a0:zab) (a1:yqS):Option (zbh):=
 (zbU a0 a1).bind fun v1=>
 (zaD a0.af v1).bind fun y2=>
 some y2
noncomputable def zaz (a0:zai) (a1:zab):Option (Int):=
 (zbM a1 a0.ab).bind fun v1=>
 some v1.al
noncomputable def zbe (xs:List (yqS)):Option (List (yqS)):=znb 16 xs
noncomputable def zb3 (xs:List zbh):Option (List zbh):=znb 32 xs
noncomputable def zd9 (a0:zab):Option (zab):=
 (zbe a0.ao).bind fun v1=>
 (zb3 a0.af).bind fun v2=>
 some (⟨a0.ab,v1,v2⟩:zab)
noncomputable def zcc (a0:zab) (a1:yqS) (a2:Int):Option (zab):=
 (zd9 a0).bind fun v1=>
 (zbU a0 a1).bind fun v2=>
 (zaD v1.af v2).bind fun y3=>
 some (⟨v1.ab,v1.ao,(v1.af.set (v2).toNat {y3 with al:=a2})⟩:zab)
noncomputable def zcj (a0:zab) (a1:yqS) (a2 v3:Int) (v4:List zab):Option ((Int × List zab) ⊕ Option (List zab)):=
 if(v3 !=a2)then
  if(decide (v3<a2))then
   (zcc a0 a1 (IntKind.i64.wrap (v3+1))).bind fun v5=>
   req ((((v4).length:Int)+(([v5]:List zab).length:Int))*64≤140737488355328∧((v4).length:Int)+(([v5]:List zab).length:Int)≤140737488355328)<|
   some (.inl ((IntKind.i64.wrap (v3+1)),(v4++ [v5])))
  else
   (zcc a0 a1 (IntKind.i64.wrap (v3-1))).bind fun v6=>
   req ((((v4).length:Int)+(([v6]:List zab).length:Int))*64≤140737488355328∧((v4).length:Int)+(([v6]:List zab).length:Int)≤140737488355328)<|
   some (.inl ((IntKind.i64.wrap (v3-1)),(v4++ [v6])))
 else
  some (.inr (some v4))
noncomputable def zeC (a0:zab) (a1:yqS) (a2:Int):Option (List zab):=
 (zbM a0 a1).bind fun v1=>
 (zd9 a0).bind fun v2=>
 zak (fun s:Int × List zab=>zcj a0 a1 a2 s.1 s.2) (v1.al, [v2])
noncomputable def zaf (a0 a1:List zab) (a2:zab→zab→Option Bool) (v1:Int):Option ((Int) ⊕ Option (Bool)):=
 if(decide (v1<(a0.length:Int)))then
  (zaD a0 v1).bind fun y2=>
  (zaD a1 v1).bind fun y3=>
  (a2 y2 y3).bind fun v4=>
  if(!v4)then
   some (.inr (some false))
  else
   some (.inl (IntKind.i64.wrap (v1+1)))
 else
  some (.inr (some true))
noncomputable def zal (a0 a1:List zab) (a2:zab→zab→Option Bool):Option (Bool):=
 if((a0.length:Int) !=(a1.length:Int))then
  some false
 else
  zak (fun s:Int=>zaf a0 a1 a2 s) 0
noncomputable def zaQ (a0:List (yqS)) (a1:List (yqS)) (v1:Int):Option ((Int) ⊕ Option (Bool)):=
 if(decide (v1<(a0.length:Int)))then
  (zaD a0 v1).bind fun y2=>
  (zaD a1 v1).bind fun y3=>
  if(y2 !=y3)then
   some (.inr (some false))
  else
   some (.inl (IntKind.i64.wrap (v1+1)))
 else
  some (.inr (some true))
noncomputable def zbC (a0:List (yqS)) (a1:List (yqS)):Option (Bool):=
 if((a0.length:Int) !=(a1.length:Int))then
  some false
 else
  zak (fun s:Int=>zaQ a0 a1 s) 0
noncomputable def zaH (a0 a1:List zbh) (v1:Int):Option ((Int) ⊕ Option (Bool)):=
 if(decide (v1<(a0.length:Int)))then
  (zaD a0 v1).bind fun y2=>
  (zaD a1 v1).bind fun y3=>
  if(!(y2.ab==y3.ab&&(y2.bj==y3.bj&&(y2.al==y3.al))))then
   some (.inr (some false))
  else
   some (.inl (IntKind.i64.wrap (v1+1)))
 else
  some (.inr (some true))
noncomputable def zbi (a0 a1:List zbh):Option (Bool):=
 if((a0.length:Int) !=(a1.length:Int))then
  some false
 else
  zak (fun s:Int=>zaH a0 a1 s) 0
noncomputable def zcv (a0 a1:zab):Option (Bool):=
 if(a0.ab==a1.ab)then
  (zbC a0.ao a1.ao).bind fun v1=>
  if v1 then
   (zbi a0.af a1.af).bind fun v2=>
   some v2
  else
   some false
 else
  some false
noncomputable def zgV (a0:zai):Option (Bool):=
 (zba (a0.ak.length:Int) 1 4).bind fun v1=>
 if v1 then
  (zba (a0.bm.length:Int) 1 3).bind fun v2=>
  if v2 then
   (zj9 a0.ay).bind fun v3=>
   if(!v3)then
    some false
   else
    (za3 a0.ak (fun y0_=>zhr y0_ a0)).bind fun v4=>
    if v4 then
     some false
    else
     (za3 a0.bm (fun y0_=>zhQ y0_ a0)).bind fun v5=>
     if v5 then
      some false
     else
      (zaD a0.ak 0).bind fun y6=>
      (zaD a0.ak (IntKind.i64.wrap ((a0.ak.length:Int)-1))).bind fun y7=>
      (zaz a0 y7).bind fun v8=>
      (zeC y6 a0.ab v8).bind fun v9=>
      (zal a0.ak v9 (fun y0_ y1_=>zcv y0_ y1_)).bind fun v10=>
      some v10
  else
   some false
 else
  some false
noncomputable def zf3 (a0:zaK):Option (Bool):=
 if(a0.aq==([]:yqS))then
  some true
 else
  (zgC a0.aq).bind fun v1=>
  some v1
noncomputable def zgc (a0:zaJ):Option (Bool):=
 (zgV a0.ah).bind fun v1=>
 if v1 then
  (zf3 a0.c8).bind fun v2=>
  if v2 then
   (zf3 a0.bf).bind fun v3=>
   some v3
  else
   some false
 else
  some false
noncomputable def zam (a0:zai) (a1:Int):Option (zab):=
 (zaD a0.bm a1).bind fun y1=>
 (zaD a0.ak y1).bind fun y2=>
 some y2
noncomputable def zfw (a0:yqS):Option (Bool):=
 (zba (a0.length:Int) 1 3).bind fun v1=>
 if v1 then
  (zeK a0 ([]:yqS)).bind fun v2=>
  some v2
 else
  some false
noncomputable def zd1 (a0:yqS):Option (Bool):=
 (zfw a0).bind fun v1=>
 some (!v1)
noncomputable def zbk (a0:zab) (a1:zch):Option (Bool):=
 if((a1.au.length:Int)==(a0.ao.length:Int))then
  (za3 a1.au (fun y0_=>zd1 y0_)).bind fun v1=>
  some (!v1)
 else
  some false
noncomputable def zdu (a0:zab) (a1:zao):Option (Bool):=
 if(a1.aj==1)then
  if((a1.bg.au.length:Int)==0)then
   (zbk a0 a1.bh).bind fun v1=>
   some v1
  else
   some false
 else
  if(a1.aj==2)then
   (zbk a0 a1.bg).bind fun v2=>
   some (v2&&((a1.bh.au.length:Int)==0))
  else
   if(a1.aj==3)then
    (zbk a0 a1.bg).bind fun v3=>
    if v3 then
     (zbk a0 a1.bh).bind fun v4=>
     if v4 then
      (zaD a1.bg.au 0).bind fun y5=>
      (zaD a1.bh.au 0).bind fun y6=>
      some (y5==y6)
     else
      some false
    else
     some false
   else
    some false
noncomputable def zhI (a0:zao):Option (Bool):=
 some (((a0.aj==0)&&((a0.bg.au.length:Int)==0))&&((a0.bh.au.length:Int)==0))
noncomputable def zcS (a0:zai) (a1:zax):Option (Bool):=
 (zba a1.ax 0 (IntKind.i64.wrap ((a0.bm.length:Int)-1))).bind fun v1=>
 if(!v1)then
  some false
 else
  if(a1.bb==0)then
   (zam a0 a1.ax).bind fun v2=>
   (zdu v2 a1.aw).bind fun v3=>
   some v3
  else
   if(a1.bb==1)then
    (zhI a1.aw).bind fun v4=>
    some v4
   else
    if(a1.bb==(-1))then
     (zhI a1.aw).bind fun v5=>
     some v5
    else
     some false
noncomputable def zcB (a1:zaw) (v2:Bool):Option (Bool):=
 if v2 then
  (zba a1.bt 1 24).bind fun v3=>
  if v3 then
   if(a1.aw.ax==0)then
    if(a1.aw.bb==0)then
     (zhI a1.aw.aw).bind fun v4=>
     some v4
    else
     some false
   else
    some false
  else
   some false
 else
  some false
noncomputable def zds (a0:zaJ) (a1:zaw):Option (Bool):=
 if(a1.aj==1)then
  if(a1.bt==0)then
   (zcS a0.ah a1.aw).bind fun v1=>
   some v1
  else
   some false
 else
  if(a1.aj==2)then
   zcB a1 (a1.aj==2)
  else
   zcB a1 (a1.aj==3)
noncomputable def zec (a0:zaJ) (a1:zaw):Option (Bool):=
 (zgc a0).bind fun v1=>
 if v1 then
  (zds a0 a1).bind fun v2=>
  some v2
 else
  some false
noncomputable def zev (xs:List Int):Option (List Int):=znb 8 xs
noncomputable def zap (xs:List zaa):Option (List zaa):=znb 40 xs
noncomputable def zcN (a0:zai) (v1:List Int) (v2:List zaa) (v3:Int) (v4:List zab):Option ((Int × List zab) ⊕ Option (zai)):=
 if(decide (v3<(a0.ak.length:Int)))then
  (zaD a0.ak v3).bind fun y5=>
  (zd9 y5).bind fun v6=>
  req ((((v4).length:Int)+(([v6]:List zab).length:Int))*64≤140737488355328∧((v4).length:Int)+(([v6]:List zab).length:Int)≤140737488355328)<|
  some (.inl ((IntKind.i64.wrap (v3+1)),(v4++ [v6])))
 else
  some (.inr (some (⟨a0.ab,v4,v1,v2⟩:zai)))
noncomputable def zfk (a0:zai):Option (zai):=
 (zev a0.bm).bind fun v1=>
 (zap a0.ay).bind fun v2=>
 zak (fun s:Int × List zab=>zcN a0 v1 v2 s.1 s.2) (0, [])
noncomputable def zf1 (a0:zaJ):Option (zaJ):=
 (zfk a0.ah).bind fun v1=>
 some (⟨v1,a0.c8,a0.bf⟩:zaJ)
noncomputable def za0 (a0:zab) (a1:zch):Option (zaa):=
 req ((a0.ab).length+(([47]:yqS)).length≤9223372036854775807)<|
 (zaD a1.au 0).bind fun y1=>
 req (((a0.ab++([47]:yqS))).length+(y1).length≤9223372036854775807)<|
 req (0≤(1:Int)∧(1:Int)≤(a1.au.length:Int)∧(a1.au.length:Int)≤(a1.au.length:Int))<|
 (zi6 (zg2 a1.au 1 (a1.au.length:Int)) ([44]:yqS)).bind fun v2=>
 some (⟨((a0.ab++([47]:yqS))++y1),v2,false⟩:zaa)
noncomputable def zaC (a0:Int) (a1:zaa) (a2:List DOp):Option (Unit × List DOp):=
 req ((((a2).length:Int)+(([(⟨a0,a1.ae,a1.az,0⟩:DOp)]:List DOp).length:Int))*48≤140737488355328∧((a2).length:Int)+(([(⟨a0,a1.ae,a1.az,0⟩:DOp)]:List DOp).length:Int)≤140737488355328)<|
 some ((),(a2++ [(⟨a0,a1.ae,a1.az,0⟩:DOp)]))
noncomputable def zcC (a0:zab) (a1:yqS):Option (yqS):=
 req ((a0.ab).length+(([46]:yqS)).length≤9223372036854775807)<|
 req (((a0.ab++([46]:yqS))).length+(a1).length≤9223372036854775807)<|
 req ((((a0.ab++([46]:yqS))++a1)).length+(([47]:yqS)).length≤9223372036854775807)<|
 some (((a0.ab++([46]:yqS))++a1)++([47]:yqS))
noncomputable def za1 (a0:zab) (a1:yqS) (a2:zch):Option (yqS):=
 (zcC a0 a1).bind fun v1=>
 (zbM a0 a1).bind fun v2=>
 (zaD a2.au v2.bj).bind fun y3=>
 req ((v1).length+(y3).length≤9223372036854775807)<|
 req (((v1++y3)).length+(([47]:yqS)).length≤9223372036854775807)<|
 (zaD a2.au 0).bind fun y4=>
 req ((((v1++y3)++([47]:yqS))).length+(y4).length≤9223372036854775807)<|
 some (((v1++y3)++([47]:yqS))++y4)
noncomputable def zlf (a0:Int):Option (Bool):=
 some (decide (a0≥1))
noncomputable def zdz (a0:Int):Option (Bool):=
 some (decide (a0≥2))
noncomputable def zbs (v9:Int) (y11:zbh) (v13:yqS) (v14:List DOp):Option ((Int × List DOp) ⊕ Option (List DOp)):=
 if(v13 !=([]:yqS))then
  (zdz y11.al).bind fun v15=>
  if v15 then
   (zaC 2 (⟨v13,([]:yqS),false⟩:zaa) v14).bind fun v16=>
   some (.inl ((IntKind.i64.wrap (v9+1)),v16.2))
  else
   some (.inl ((IntKind.i64.wrap (v9+1)),v14))
 else
  some (.inl ((IntKind.i64.wrap (v9+1)),v14))
noncomputable def zbc (v9:Int) (v10:List DOp) (y11:zbh) (v12 v13:yqS):Option ((Int × List DOp) ⊕ Option (List DOp)):=
 if(v12 !=([]:yqS))then
  if(v12 !=v13)then
   (zlf y11.al).bind fun v17=>
   if v17 then
    (zaC 3 (⟨v12,([]:yqS),false⟩:zaa) v10).bind fun v18=>
    zbs v9 y11 v13 v18.2
   else
    zbs v9 y11 v13 v10
  else
   zbs v9 y11 v13 v10
 else
  zbs v9 y11 v13 v10
noncomputable def zeQ (a0:zab) (a1:zao) (v9:Int) (v10:List DOp) (y11:zbh) (v12:yqS):Option ((Int × List DOp) ⊕ Option (List DOp)):=
 if(a1.aj !=2)then
  (za1 a0 y11.ab a1.bh).bind fun v19=>
  zbc v9 v10 y11 v12 v19
 else
  zbc v9 v10 y11 v12 ([]:yqS)
noncomputable def zbq (a0:zab) (a1:zao) (v9:Int) (v10:List DOp):Option ((Int × List DOp) ⊕ Option (List DOp)):=
 if(decide (v9<(a0.af.length:Int)))then
  (zaD a0.af v9).bind fun y11=>
  zBm (σ:=yqS) (
   if(a1.aj !=1)then
    (za1 a0 y11.ab a1.bg).bind fun v20=>
    some (.inl v20)
   else
    some (.inl ([]:yqS))
  ) (fun s=>zeQ a0 a1 v9 v10 y11 s)
 else
  some (.inr (some v10))
noncomputable def zbr (a0:zab) (a1:zao) (v8:List DOp):Option (List DOp):=
 zak (fun s:Int × List DOp=>zbq a0 a1 s.1 s.2) (0,v8)
noncomputable def zb9 (a0:zab) (a1:zao) (v1:yqS) (v4:List DOp) (v5 v6:yqS) (v7:Bool):Option (List DOp):=
 if(a1.aj==1)then
  (zaC 6 (⟨v5,([]:yqS),false⟩:zaa) v4).bind fun v21=>
  (zaC 2 (⟨v5,v6,v7⟩:zaa) v21.2).bind fun v22=>
  zbr a0 a1 v22.2
 else
  if(a1.aj==2)then
   (zaC 3 (⟨v1,([]:yqS),false⟩:zaa) v4).bind fun v23=>
   zbr a0 a1 v23.2
  else
   if(a1.aj==3)then
    (zaC 2 (⟨v5,v6,v7⟩:zaa) v4).bind fun v24=>
    zbr a0 a1 v24.2
   else
    zbr a0 a1 v4
noncomputable def zbb (a0:zab) (a1:zao) (v1 v2:yqS) (v3:Bool) (v4:List DOp):Option (List DOp):=
 if(a1.aj !=2)then
  (za0 a0 a1.bh).bind fun v25=>
  zb9 a0 a1 v1 v4 v25.ae v25.az v25.bd
 else
  zb9 a0 a1 v1 v4 ([]:yqS) ([]:yqS) false
noncomputable def zek (a0:zab) (a1:zao):Option (List DOp):=
 zBm (σ:=yqS × yqS × Bool × List DOp) (
  if(a1.aj !=1)then
   (za0 a0 a1.bg).bind fun v26=>
   (zaC 7 v26 ([]:List DOp)).bind fun v27=>
   some (.inl (v26.ae,v26.az,v26.bd,v27.2))
  else
   some (.inl (([]:yqS),([]:yqS),false, []))
 ) (fun s=>zbb a0 a1 s.1 s.2.1 s.2.2.1 s.2.2.2)
noncomputable def zaA (a0:List zaa) (a1:yqS) (a2:zaa→(yqS)→Option Int) (v1:Int):Option (Int × Bool):=
 if(decide (v1<(a0.length:Int)))then
  (zaD a0 v1).bind fun y2=>
  (a2 y2 a1).bind fun v3=>
  some (v1,(v3==0))
 else
  some (v1,false)
noncomputable def zag (a0:List zaa) (a1:yqS) (a2:zaa→(yqS)→Option Int) (v4 v5:Int):Option ((Int × Int) ⊕ Option (Int × Bool)):=
 if(decide (v4<v5))then
  (zaD a0 (IntKind.i64.wrap (Int.fdiv (IntKind.u64.wrap (IntKind.i64.wrap (v4+v5))) (2^(min ((1:Int)).toNat (IntKind.bits .u64)))))).bind fun y6=>
  (a2 y6 a1).bind fun v7=>
  if(decide (v7<0))then
   some (.inl ((IntKind.i64.wrap ((IntKind.i64.wrap (Int.fdiv (IntKind.u64.wrap (IntKind.i64.wrap (v4+v5))) (2^(min ((1:Int)).toNat (IntKind.bits .u64)))))+1)),v5))
  else
   some (.inl (v4,(IntKind.i64.wrap (Int.fdiv (IntKind.u64.wrap (IntKind.i64.wrap (v4+v5))) (2^(min ((1:Int)).toNat (IntKind.bits .u64)))))))
 else
  some (.inr (zaA a0 a1 a2 v4))
noncomputable def zaF (a0:List zaa) (a1:yqS) (a2:zaa→(yqS)→Option Int):Option (Int × Bool):=
 zak (fun s:Int × Int=>zag a0 a1 a2 s.1 s.2) (0,(a0.length:Int))
noncomputable def zdQ (a0:yqS):Option (Bool):=
 some (a0 !=a0)
noncomputable def zef (a0 a1:yqS):Option (Int):=
 (zdQ a0).bind fun v1=>
 (zdQ a1).bind fun v2=>
 if v1 then
  if v2 then
   some 0
  else
   some (-1)
 else
  if v2 then
   some 1
  else
   if(Op.bytesLess a0 a1)then
    some (-1)
   else
    if(!(Op.bytesLess a0 a1||a0==a1))then
     some 1
    else
     some 0
noncomputable def zda (a0:zaa) (a1:yqS):Option (Int):=
 (zef a0.ae a1).bind fun v1=>
 some v1
noncomputable def zcw (a0:List zaa) (a1:yqS):Option (Int × Bool):=
 (zaF a0 a1 (fun y0_ y1_=>zda y0_ y1_)).bind fun v1=>
 some (v1.1,v1.2)
noncomputable def zdU (a0:List zaa) (a1:zaa):Option (List zaa):=
 (zcw a0 a1.ae).bind fun v1=>
 if v1.2 then
  (zaD a0 v1.1).bind fun y2=>
  some (a0.set (v1.1).toNat a1)
 else
  (zrB a0 v1.1 ([a1]:List zaa)).bind fun v3=>
  some v3
noncomputable def zdJ (a0:yqS) (a2:List zh6) (v3:Int):Option ((Int) ⊕ Option (yqS × Bool × Bool)):=
 if(decide (v3<(a2.length:Int)))then
  (zaD a2 v3).bind fun y4=>
  if(y4.ae==a0)then
   some (.inr (some (y4.az,y4.fc,true)))
  else
   some (.inl (IntKind.i64.wrap (v3+1)))
 else
  some (.inr (some (([]:yqS),false,false)))
noncomputable def ziC (a0:yqS) (a1:List zaa) (a2:List zh6):Option (yqS × Bool × Bool):=
 (zcw a1 a0).bind fun v1=>
 if v1.2 then
  (zaD a1 v1.1).bind fun y2=>
  some (y2.az,(!y2.bd),true)
 else
  zak (fun s:Int=>zdJ a0 a2 s) 0
noncomputable def zf0 (a0:yqS):Option (Int × Bool):=
 (ziQ a0 (-999999) 999999).bind fun v1=>
 some (v1.1,v1.2)
noncomputable def zgl (a0:DOp) (a1:yqS) (a2:Bool):Option (Bool):=
 (zf0 a1).bind fun v1=>
 if(a0.aj==4)then
  if v1.2 then
   if a2 then
    (zba (IntKind.i64.wrap (v1.1+a0.jm)) (-999999) 999999).bind fun v2=>
    some v2
   else
    some true
  else
   some ((!a2)||false)
 else
  if(a0.aj==5)then
   some ((a2&&v1.2)&&(decide (v1.1≥a0.jm)))
  else
   if(a0.aj==6)then
    some (!a2)
   else
    if(a0.aj==7)then
     some (a2&&(a1==a0.az))
    else
     some true
noncomputable def zaL (a0:List DOp) (a1:List zh6) (v1:Int) (v2:List zaa):Option ((Int × List zaa) ⊕ Option (Int × yqS × List zaa)):=
 if(decide (v1<(a0.length:Int)))then
  (zaD a0 v1).bind fun y3=>
  if(y3.aj==2)then
   (zdU v2 (⟨y3.ae,y3.az,false⟩:zaa)).bind fun v4=>
   some (.inl ((IntKind.i64.wrap (v1+1)),v4))
  else
   if(y3.aj==3)then
    (zdU v2 (⟨y3.ae,([]:yqS),true⟩:zaa)).bind fun v5=>
    some (.inl ((IntKind.i64.wrap (v1+1)),v5))
   else
    (ziC y3.ae v2 a1).bind fun v6=>
    if(!v6.2.2)then
     some (.inr (some (1,y3.ae, [])))
    else
     (zgl y3 v6.1 v6.2.1).bind fun v7=>
     if(!v7)then
      some (.inr (some (2,([]:yqS), [])))
     else
      if(y3.aj==4)then
       (zf0 v6.1).bind fun v8=>
       (zk9 (IntKind.i64.wrap (v8.1+y3.jm))).bind fun v9=>
       (zdU v2 (⟨y3.ae,v9,false⟩:zaa)).bind fun v10=>
       some (.inl ((IntKind.i64.wrap (v1+1)),v10))
      else
       some (.inl ((IntKind.i64.wrap (v1+1)),v2))
 else
  some (.inr (some (3,([]:yqS),v2)))
noncomputable def zk8 (a0:List DOp) (a1:List zh6):Option (Int × yqS × List zaa):=
 zak (fun s:Int × List zaa=>zaL a0 a1 s.1 s.2) (0, [])
noncomputable def zkU (a0:List zaa) (a1:yqS):Option (zh6):=
 (zcw a0 a1).bind fun v1=>
 if(!v1.2)then
  some (⟨a1,([]:yqS),false⟩:zh6)
 else
  (zaD a0 v1.1).bind fun y2=>
  some (⟨a1,y2.az,true⟩:zh6)
noncomputable def zck (a0:List zaa) (a1:List DOp) (v1:List zh6):Option ((List zh6) ⊕ Option (List zh6 × List zaa × Bool)):=
 (zk8 a1 v1).bind fun v2=>
 if(v2.1 !=1)then
  some (.inr (some (v1,v2.2.2,(v2.1==3))))
 else
  (zkU a0 v2.2.1).bind fun v3=>
  req ((((v1).length:Int)+(([v3]:List zh6).length:Int))*40≤140737488355328∧((v1).length:Int)+(([v3]:List zh6).length:Int)≤140737488355328)<|
  some (.inl (v1++ [v3]))
noncomputable def zkD (a0:List zaa) (a1:List DOp):Option (List zh6 × List zaa × Bool):=
 zak (fun s:List zh6=>zck a0 a1 s) []
noncomputable def zjs (a0:zaa):Option (Bool):=
 some a0.bd
noncomputable def ziw (v2:List zaa):Option (List zaa × Bool):=
 (zcu v2 (fun y0_=>zjs y0_)).bind fun v3=>
 if(decide ((v3.length:Int)>24))then
  some ([],false)
 else
  some (v3,true)
noncomputable def zdK (a1:List zaa) (v4:Int) (v5:List zaa):Option ((Int × List zaa) ⊕ Option (List zaa × Bool)):=
 if(decide (v4<(a1.length:Int)))then
  (zaD a1 v4).bind fun y6=>
  (zdU v5 y6).bind fun v7=>
  some (.inl ((IntKind.i64.wrap (v4+1)),v7))
 else
  some (.inr (ziw v5))
noncomputable def zi1 (a0 a1:List zaa):Option (List zaa × Bool):=
 (zap a0).bind fun v1=>
 zak (fun s:Int × List zaa=>zdK a1 s.1 s.2) (0,v1)
noncomputable def zhK (a0:List zaa) (a1:List DOp):Option (List zaa × Bool):=
 (zkD a0 a1).bind fun v1=>
 (zi1 a0 v1.2.1).bind fun v2=>
 if((!v1.2.2)||(!v2.2))then
  req (((([]:List zaa).length:Int)+((a0).length:Int))*40≤140737488355328∧(([]:List zaa).length:Int)+((a0).length:Int)≤140737488355328)<|
  some (a0,false)
 else
  some (v2.1,true)
noncomputable def zcF (a0:zai) (a1:zax):Option (zai × Bool):=
 (zfk a0).bind fun v1=>
 if(a1.bb !=0)then
  (zaD a0.bm a1.ax).bind fun y2=>
  (zba (IntKind.i64.wrap (y2+a1.bb)) 0 (IntKind.i64.wrap ((a0.ak.length:Int)-1))).bind fun v3=>
  if(!v3)then
   some (v1,false)
  else
   (zaD v1.bm a1.ax).bind fun y4=>
   some ((⟨v1.ab,v1.ak,(v1.bm.set (a1.ax).toNat (IntKind.i64.wrap (y2+a1.bb))),v1.ay⟩:zai),true)
 else
  (zam a0 a1.ax).bind fun v5=>
  (zek v5 a1.aw).bind fun v6=>
  (zhK a0.ay v6).bind fun v7=>
  some ((⟨v1.ab,v1.ak,v1.bm,v7.1⟩:zai),v7.2)
noncomputable def zaU (a0:List Int) (v2 v3:Int):Option ((Int × Int) ⊕ Option (Int)):=
 if(decide (v3<(a0.length:Int)))then
  (zaD a0 v3).bind fun y4=>
  some (.inl ((bif (decide (y4>v2))then y4 else v2),(IntKind.i64.wrap (v3+1))))
 else
  some (.inr (some v2))
noncomputable def zdt (a0:List Int):Option (Int):=
 if(decide ((a0.length:Int)<1))then
  none
 else
  (zaD a0 0).bind fun y1=>
  zak (fun s:Int × Int=>zaU a0 s.1 s.2) (y1,1)
noncomputable def zaT (a0:List Int) (v2 v3:Int):Option ((Int × Int) ⊕ Option (Int)):=
 if(decide (v3<(a0.length:Int)))then
  (zaD a0 v3).bind fun y4=>
  some (.inl ((bif (decide (y4<v2))then y4 else v2),(IntKind.i64.wrap (v3+1))))
 else
  some (.inr (some v2))
noncomputable def zdw (a0:List Int):Option (Int):=
 if(decide ((a0.length:Int)<1))then
  none
 else
  (zaD a0 0).bind fun y1=>
  zak (fun s:Int × Int=>zaT a0 s.1 s.2) (y1,1)
noncomputable def zdq (a0:zai):Option (Bool):=
 (zdt a0.bm).bind fun v1=>
 (zdw a0.bm).bind fun v2=>
 some (decide ((IntKind.i64.wrap (v1-v2))≤1))
noncomputable def zbS (a0:zai) (v1 v2:Int):Option ((Int × Int) ⊕ Option (Int)):=
 if(decide (v2<(a0.bm.length:Int)))then
  (zam a0 v2).bind fun v3=>
  (zaz a0 v3).bind fun v4=>
  if(v4==3)then
   some (.inr (some 2))
  else
   if(v4==0)then
    some (.inl (0,(IntKind.i64.wrap (v2+1))))
   else
    some (.inl (v1,(IntKind.i64.wrap (v2+1))))
 else
  some (.inr (some v1))
noncomputable def ze9 (a0:zai):Option (Int):=
 zak (fun s:Int × Int=>zbS a0 s.1 s.2) (1,0)
noncomputable def zbv (a0 a1:yqS):Option (Bool):=
 if(decide ((a0.length:Int)≥(a1.length:Int)))then
  req (0≤(0:Int)∧(0:Int)≤(a1.length:Int)∧(a1.length:Int)≤(a0.length:Int))<|
  some ((zg2 a0 0 (a1.length:Int))==a1)
 else
  some false
noncomputable def zcy (a0 a1:yqS):Option (yqS × Bool):=
 (zbv a0 a1).bind fun v1=>
 if(!v1)then
  some (a0,false)
 else
  req (0≤(a1.length:Int)∧(a1.length:Int)≤(a0.length:Int)∧(a0.length:Int)≤(a0.length:Int))<|
  some ((zg2 a0 (a1.length:Int) (a0.length:Int)),true)
noncomputable def zdS (a0 a1:yqS):Option (yqS × Bool):=
 (zcy a0 a1).bind fun v1=>
 some (v1.1,v1.2)
noncomputable def zcz (a0 a1:yqS):Option (yqS × yqS × Bool):=
 (za6 a0 a1).bind fun v1=>
 if(decide (v1≥0))then
  req (0≤(0:Int)∧(0:Int)≤v1∧v1≤(a0.length:Int))<|
  req (0≤(IntKind.i64.wrap (v1+(a1.length:Int)))∧(IntKind.i64.wrap (v1+(a1.length:Int)))≤(a0.length:Int)∧(a0.length:Int)≤(a0.length:Int))<|
  some ((zg2 a0 0 v1),(zg2 a0 (IntKind.i64.wrap (v1+(a1.length:Int))) (a0.length:Int)),true)
 else
  some (a0,([]:yqS),false)
noncomputable def zgi (a0 a1:yqS):Option (yqS × yqS × Bool):=
 (zcz a0 a1).bind fun v1=>
 some (v1.1,v1.2.1,v1.2.2)
noncomputable def zcR (a0:zab) (a1 a2:yqS):Option (yqS × yqS × Bool):=
 (zcC a0 a1).bind fun v1=>
 (zdS a2 v1).bind fun v2=>
 (zgi v2.1 ([47]:yqS)).bind fun v3=>
 if v2.2 then
  if v3.2.2 then
   (zfw v3.1).bind fun v4=>
   if v4 then
    (zfw v3.2.1).bind fun v5=>
    if(!v5)then
     some (([]:yqS),([]:yqS),false)
    else
     some (v3.1,v3.2.1,true)
   else
    some (([]:yqS),([]:yqS),false)
  else
   some (([]:yqS),([]:yqS),false)
 else
  some (([]:yqS),([]:yqS),false)
noncomputable def zbf (a0:zab) (a1:yqS) (a2:List zaa) (v1:Int) (v2:List (yqS)):Option ((Int × List (yqS)) ⊕ Option (List (yqS))):=
 if(decide (v1<(a2.length:Int)))then
  (zaD a2 v1).bind fun y3=>
  (zcR a0 a1 y3.ae).bind fun v4=>
  if v4.2.2 then
   req ((((v2).length:Int)+(([y3.ae]:List (yqS)).length:Int))*16≤140737488355328∧((v2).length:Int)+(([y3.ae]:List (yqS)).length:Int)≤140737488355328)<|
   some (.inl ((IntKind.i64.wrap (v1+1)),(v2++ [y3.ae])))
  else
   some (.inl ((IntKind.i64.wrap (v1+1)),v2))
 else
  some (.inr (some v2))
noncomputable def zbg (a0:zab) (a1:yqS) (a2:List zaa):Option (List (yqS)):=
 zak (fun s:Int × List (yqS)=>zbf a0 a1 a2 s.1 s.2) (0, [])
noncomputable def zhA (a0 a1:yqS):Option (Int):=
 (za6 a0 a1).bind fun v1=>
 some v1
noncomputable def zfZ (v3:yqS) (v4:Int) (v5:List (yqS)):Option (List (yqS)):=
 (zaD v5 v4).bind fun y6=>
 req (0≤(0:Int)∧(0:Int)≤(IntKind.i64.wrap (v4+1))∧(IntKind.i64.wrap (v4+1))≤((v5.set (v4).toNat v3).length:Int))<|
 some (zg2 (v5.set (v4).toNat v3) 0 (IntKind.i64.wrap (v4+1)))
noncomputable def zb8 (a0 a1:yqS) (a2 v2:Int) (v7:yqS) (v8:Int) (v9:List (yqS)):Option ((yqS × Int × List (yqS)) ⊕ Option (List (yqS))):=
 if(decide (v8<(IntKind.i64.wrap ((bif (decide ((IntKind.i64.wrap ((a0.length:Int)+1))<v2))then(IntKind.i64.wrap ((a0.length:Int)+1))else v2)-1))))then
  (zhA v7 a1).bind fun v10=>
  if(decide (v10<0))then
   some (.inr (zfZ v7 v8 v9))
  else
   req (0≤(0:Int)∧(0:Int)≤(IntKind.i64.wrap (v10+a2))∧(IntKind.i64.wrap (v10+a2))≤(v7.length:Int))<|
   (zaD v9 v8).bind fun y11=>
   req (0≤(IntKind.i64.wrap (v10+(a1.length:Int)))∧(IntKind.i64.wrap (v10+(a1.length:Int)))≤(v7.length:Int)∧(v7.length:Int)≤(v7.length:Int))<|
   some (.inl ((zg2 v7 (IntKind.i64.wrap (v10+(a1.length:Int))) (v7.length:Int)),(IntKind.i64.wrap (v8+1)),(v9.set (v8).toNat (zg2 v7 0 (IntKind.i64.wrap (v10+a2))))))
 else
  some (.inr (zfZ v7 v8 v9))
noncomputable def zf8 (a0 a1:yqS) (a2 v2:Int):Option (List (yqS)):=
 req (0≤(bif (decide ((IntKind.i64.wrap ((a0.length:Int)+1))<v2))then(IntKind.i64.wrap ((a0.length:Int)+1))else v2)∧(bif (decide ((IntKind.i64.wrap ((a0.length:Int)+1))<v2))then(IntKind.i64.wrap ((a0.length:Int)+1))else v2)*16≤140737488355328∧(bif (decide ((IntKind.i64.wrap ((a0.length:Int)+1))<v2))then(IntKind.i64.wrap ((a0.length:Int)+1))else v2)≤140737488355328)<|
 zak (fun s:yqS × Int × List (yqS)=>zb8 a0 a1 a2 v2 s.1 s.2.1 s.2.2) (a0,0,(List.replicate ((bif (decide ((IntKind.i64.wrap ((a0.length:Int)+1))<v2))then(IntKind.i64.wrap ((a0.length:Int)+1))else v2)).toNat ([]:yqS)))
noncomputable def zhM (a0 a1:yqS) (a2 a3:Int):Option (List (yqS)):=
 if(a3==0)then
  some []
 else
  if(a1==([]:yqS))then
   (ziq a0 a3).bind fun v1=>
   some v1
  else
   if(decide (a3<0))then
    (zhk a0 a1).bind fun v12=>
    zf8 a0 a1 a2 (IntKind.i64.wrap (v12+1))
   else
    zf8 a0 a1 a2 a3
noncomputable def zgf (a0 a1:yqS):Option (List (yqS)):=
 (zhM a0 a1 0 (-1)).bind fun v1=>
 some v1
noncomputable def zdY (a0:zab) (a1:zaa):Option (zch × Bool):=
 req ((a0.ab).length+(([47]:yqS)).length≤9223372036854775807)<|
 (zdS a1.ae (a0.ab++([47]:yqS))).bind fun v1=>
 (zgf a1.az ([44]:yqS)).bind fun v2=>
 req (((([v1.1]:List (yqS)).length:Int)+((v2).length:Int))*16≤140737488355328∧(([v1.1]:List (yqS)).length:Int)+((v2).length:Int)≤140737488355328)<|
 if v1.2 then
  (zbk a0 (⟨([v1.1]++v2)⟩:zch)).bind fun v3=>
  if v3 then
   (za0 a0 (⟨([v1.1]++v2)⟩:zch)).bind fun v4=>
   if(!(a1.ae==v4.ae&&(a1.az==v4.az&&(a1.bd==v4.bd))))then
    some ((⟨[]⟩:zch),false)
   else
    some ((⟨([v1.1]++v2)⟩:zch),true)
  else
   some ((⟨[]⟩:zch),false)
 else
  some ((⟨[]⟩:zch),false)
noncomputable def zbo (a0:zab) (a1:List zaa) (v1:Int) (v2:List zch):Option ((Int × List zch) ⊕ Option (List zch)):=
 if(decide (v1<(a1.length:Int)))then
  (zaD a1 v1).bind fun y3=>
  (zdY a0 y3).bind fun v4=>
  if v4.2 then
   req ((((v2).length:Int)+(([v4.1]:List zch).length:Int))*24≤140737488355328∧((v2).length:Int)+(([v4.1]:List zch).length:Int)≤140737488355328)<|
   some (.inl ((IntKind.i64.wrap (v1+1)),(v2++ [v4.1])))
  else
   some (.inl ((IntKind.i64.wrap (v1+1)),v2))
 else
  some (.inr (some v2))
noncomputable def zcT (a0:zab) (a1:List zaa):Option (List zch):=
 zak (fun s:Int × List zch=>zbo a0 a1 s.1 s.2) (0, [])
noncomputable def zbp (a0:zab) (a1:yqS) (v1:List zch) (v2:Int) (v3:List (yqS)):Option ((Int × List (yqS)) ⊕ Option (List (yqS))):=
 if(decide (v2<(v1.length:Int)))then
  (zaD v1 v2).bind fun y4=>
  (za1 a0 a1 y4).bind fun v5=>
  req ((((v3).length:Int)+(([v5]:List (yqS)).length:Int))*16≤140737488355328∧((v3).length:Int)+(([v5]:List (yqS)).length:Int)≤140737488355328)<|
  some (.inl ((IntKind.i64.wrap (v2+1)),(v3++ [v5])))
 else
  some (.inr (some v3))
noncomputable def zcW (a0:zab) (a1:yqS) (a2:List zaa):Option (List (yqS)):=
 (zcT a0 a2).bind fun v1=>
 zak (fun s:Int × List (yqS)=>zbp a0 a1 v1 s.1 s.2) (0, [])
noncomputable def zjD (a0:yqS) (a1:List (yqS)):Option (Bool):=
 (zaS a1 a0).bind fun v1=>
 some v1
noncomputable def zgF (a0:List (yqS)) (a1:List (yqS)):Option (List (yqS)):=
 (zbe a0).bind fun v1=>
 (zcu v1 (fun y0_=>zjD y0_ a1)).bind fun v2=>
 some v2
noncomputable def zc8 (a0:zab) (a1:yqS) (a2:List zaa):Option (List (yqS)):=
 (zbg a0 a1 a2).bind fun v1=>
 (zcW a0 a1 a2).bind fun v2=>
 (zgF v1 v2).bind fun v3=>
 some v3
noncomputable def zfG (a0:zab) (a1:yqS) (a2:List zaa):Option (List (yqS)):=
 (zcW a0 a1 a2).bind fun v1=>
 (zbg a0 a1 a2).bind fun v2=>
 (zgF v1 v2).bind fun v3=>
 some v3
noncomputable def zdW (a0:zab) (a1:yqS) (a2:Int) (a3:List zaa):Option (Bool):=
 if(a2==0)then
  (zbg a0 a1 a3).bind fun v1=>
  some ((v1.length:Int)==0)
 else
  if(a2==1)then
   (zc8 a0 a1 a3).bind fun v2=>
   some ((v2.length:Int)==0)
  else
   (zc8 a0 a1 a3).bind fun v3=>
   if((v3.length:Int)==0)then
    (zfG a0 a1 a3).bind fun v4=>
    some ((v4.length:Int)==0)
   else
    some false
noncomputable def zcY (a0:zai):Option (Bool):=
 (zaD a0.ak 0).bind fun y1=>
 (ze9 a0).bind fun v2=>
 (zdW y1 a0.ab v2 a0.ay).bind fun v3=>
 some v3
noncomputable def zfM (a0:zai) (a1:zax):Option (Bool):=
 (zcF a0 a1).bind fun v1=>
 if v1.2 then
  (zdq v1.1).bind fun v2=>
  if v2 then
   (zcY v1.1).bind fun v3=>
   some v3
  else
   some false
 else
  some false
noncomputable def zaZ (a0:zaJ) (a1:zax):Option (zaJ × Bool):=
 (zf1 a0).bind fun v1=>
 if(a1.bb !=0)then
  (zfM a0.ah a1).bind fun v2=>
  if(!v2)then
   some (v1,false)
  else
   (zcF a0.ah a1).bind fun v3=>
   if(!v3.2)then
    some (v1,false)
   else
    if(a1.bb==0)then
     (zam a0.ah a1.ax).bind fun v4=>
     (zaz a0.ah v4).bind fun v5=>
     (zdz v5).bind fun v6=>
     if v6 then
      some ((⟨v3.1,(⟨v1.c8.aq,v1.c8.br⟩:zaK),(⟨([]:yqS),false⟩:zaK)⟩:zaJ),true)
     else
      some ((⟨v3.1,(⟨([]:yqS),false⟩:zaK),(⟨v1.bf.aq,v1.bf.br⟩:zaK)⟩:zaJ),true)
    else
     some ((⟨v3.1,(⟨v1.c8.aq,v1.c8.br⟩:zaK),(⟨v1.bf.aq,v1.bf.br⟩:zaK)⟩:zaJ),true)
 else
  (zcF a0.ah a1).bind fun v7=>
  if(!v7.2)then
   some (v1,false)
  else
   if(a1.bb==0)then
    (zam a0.ah a1.ax).bind fun v8=>
    (zaz a0.ah v8).bind fun v9=>
    (zdz v9).bind fun v10=>
    if v10 then
     some ((⟨v7.1,(⟨v1.c8.aq,v1.c8.br⟩:zaK),(⟨([]:yqS),false⟩:zaK)⟩:zaJ),true)
    else
     some ((⟨v7.1,(⟨([]:yqS),false⟩:zaK),(⟨v1.bf.aq,v1.bf.br⟩:zaK)⟩:zaJ),true)
   else
    some ((⟨v7.1,(⟨v1.c8.aq,v1.c8.br⟩:zaK),(⟨v1.bf.aq,v1.bf.br⟩:zaK)⟩:zaJ),true)
noncomputable def zav (a0:zaJ) (v1 v2:Int):Option ((Int × Int) ⊕ Option (Int)):=
 if(decide (v2<(a0.ah.bm.length:Int)))then
  (zam a0.ah v2).bind fun v3=>
  (zaz a0.ah v3).bind fun v4=>
  (zdz v4).bind fun v5=>
  if v5 then
   some (.inl ((IntKind.i64.wrap (v1+1)),(IntKind.i64.wrap (v2+1))))
  else
   some (.inl (v1,(IntKind.i64.wrap (v2+1))))
 else
  some (.inr (some v1))
noncomputable def zbd (a0:zaJ):Option (Int):=
 zak (fun s:Int × Int=>zav a0 s.1 s.2) (0,0)
noncomputable def zdX (a0:zab) (a1:yqS) (a2:zch):Option (List DOp):=
 (za0 a0 a2).bind fun v1=>
 (za1 a0 a1 a2).bind fun v2=>
 some [(⟨7,v1.ae,v1.az,0⟩:DOp),(⟨2,v2,([]:yqS),0⟩:DOp)]
noncomputable def zbF (a0:zab) (a1:yqS) (v1:List zch) (v2:Int) (v3:List zdk):Option ((Int × List zdk) ⊕ Option (List zdk)):=
 if(decide (v2<(v1.length:Int)))then
  (zaD v1 v2).bind fun y4=>
  (za0 a0 y4).bind fun v5=>
  (zdX a0 a1 y4).bind fun v6=>
  req ((((v3).length:Int)+(([(⟨v5.ae,v6⟩:zdk)]:List zdk).length:Int))*40≤140737488355328∧((v3).length:Int)+(([(⟨v5.ae,v6⟩:zdk)]:List zdk).length:Int)≤140737488355328)<|
  some (.inl ((IntKind.i64.wrap (v2+1)),(v3++ [(⟨v5.ae,v6⟩:zdk)])))
 else
  some (.inr (some v3))
noncomputable def zdl (a0:zab) (a1:yqS) (a2:List zaa):Option (List zdk):=
 (zcT a0 a2).bind fun v1=>
 zak (fun s:Int × List zdk=>zbF a0 a1 v1 s.1 s.2) (0, [])
noncomputable def zbK (xs:List zdk):Option (List zdk):=znb 40 xs
noncomputable def ziU (a0:zdk) (a1:zaK):Option (Bool):=
 some (Op.bytesLess a0.a8 a1.aq||a0.a8==a1.aq)
noncomputable def zhH (a2:zaK) (v2:List zdk) (v3:List zaa) (v4:Int) (v5:yqS):Option (List zaa × zaK):=
 (zap v3).bind fun v6=>
 some (v6,(⟨v5,(a2.br||(v4==(v2.length:Int)))⟩:zaK))
noncomputable def zbW (a2:zaK) (a3:Int) (v2:List zdk) (v7:List zaa) (v8:Int) (v9:yqS):Option ((List zaa × Int × yqS) ⊕ Option (List zaa × zaK)):=
 if(decide (v8<(bif (decide ((v2.length:Int)<a3))then(v2.length:Int)else a3)))then
  (zaD v2 v8).bind fun y10=>
  (zhK v7 y10.cg).bind fun v11=>
  if(!v11.2)then
   some (.inr (zhH a2 v2 v7 v8 v9))
  else
   some (.inl (v11.1,(IntKind.i64.wrap (v8+1)),y10.a8))
 else
  some (.inr (zhH a2 v2 v7 v8 v9))
noncomputable def zeY (a0:List zdk) (a1:List zaa) (a2:zaK) (a3:Int):Option (List zaa × zaK):=
 (zbK a0).bind fun v1=>
 (zcu v1 (fun y0_=>ziU y0_ a2)).bind fun v2=>
 zak (fun s:List zaa × Int × yqS=>zbW a2 a3 v2 s.1 s.2.1 s.2.2) (a1,0,a2.aq)
noncomputable def zbt (v1:List (yqS)) (v2:Int) (v3:List zdk):Option ((Int × List zdk) ⊕ Option (List zdk)):=
 if(decide (v2<(v1.length:Int)))then
  (zaD v1 v2).bind fun y4=>
  req ((((v3).length:Int)+(([(⟨y4, [(⟨3,y4,([]:yqS),0⟩:DOp)]⟩:zdk)]:List zdk).length:Int))*40≤140737488355328∧((v3).length:Int)+(([(⟨y4, [(⟨3,y4,([]:yqS),0⟩:DOp)]⟩:zdk)]:List zdk).length:Int)≤140737488355328)<|
  some (.inl ((IntKind.i64.wrap (v2+1)),(v3++ [(⟨y4, [(⟨3,y4,([]:yqS),0⟩:DOp)]⟩:zdk)])))
 else
  some (.inr (some v3))
noncomputable def zcb (a0:zab) (a1:yqS) (a2:List zaa):Option (List zdk):=
 (zbg a0 a1 a2).bind fun v1=>
 zak (fun s:Int × List zdk=>zbt v1 s.1 s.2) (0, [])
noncomputable def zbQ (a0:zaJ) (a1:zaw):Option (zaJ × Bool):=
 if(a1.aj==1)then
  (zaZ a0 a1.aw).bind fun v1=>
  some (v1.1,v1.2)
 else
  (zf1 a0).bind fun v2=>
  if(a1.aj==2)then
   (zbd a0).bind fun v3=>
   if(v3==(a0.ah.bm.length:Int))then
    (zaD a0.ah.ak 0).bind fun y4=>
    (zdl y4 a0.ah.ab a0.ah.ay).bind fun v5=>
    (zeY v5 a0.ah.ay a0.c8 a1.bt).bind fun v6=>
    some ((⟨(⟨v2.ah.ab,v2.ah.ak,v2.ah.bm,v6.1⟩:zai),(⟨v6.2.aq,v6.2.br⟩:zaK),(⟨([]:yqS),false⟩:zaK)⟩:zaJ),true)
   else
    if(a1.aj==3)then
     (zbd a0).bind fun v7=>
     if(v7==0)then
      (zaD a0.ah.ak 0).bind fun y8=>
      (zcb y8 a0.ah.ab a0.ah.ay).bind fun v9=>
      (zeY v9 a0.ah.ay a0.bf a1.bt).bind fun v10=>
      some ((⟨(⟨v2.ah.ab,v2.ah.ak,v2.ah.bm,v10.1⟩:zai),(⟨([]:yqS),false⟩:zaK),(⟨v10.2.aq,v10.2.br⟩:zaK)⟩:zaJ),true)
     else
      some (v2,false)
    else
     some (v2,false)
  else
   if(a1.aj==3)then
    (zbd a0).bind fun v11=>
    if(v11==0)then
     (zaD a0.ah.ak 0).bind fun y12=>
     (zcb y12 a0.ah.ab a0.ah.ay).bind fun v13=>
     (zeY v13 a0.ah.ay a0.bf a1.bt).bind fun v14=>
     some ((⟨(⟨v2.ah.ab,v2.ah.ak,v2.ah.bm,v14.1⟩:zai),(⟨([]:yqS),false⟩:zaK),(⟨v14.2.aq,v14.2.br⟩:zaK)⟩:zaJ),true)
    else
     some (v2,false)
   else
    some (v2,false)
noncomputable def zeL (a0:zaJ) (a1:zaw):Option (zaJ × Bool × Bool):=
 (zec a0 a1).bind fun v1=>
 if(!v1)then
  some ((⟨(⟨([]:yqS), [], [], []⟩:zai),(⟨([]:yqS),false⟩:zaK),(⟨([]:yqS),false⟩:zaK)⟩:zaJ),false,false)
 else
  (zbQ a0 a1).bind fun v2=>
  some (v2.1,v2.2,true)
noncomputable def zdM (a0:List (yqS)) (a1:List (yqS)) (v1:Int):Option ((Int) ⊕ Option (Bool)):=
 if(decide (v1<(a0.length:Int)))then
  (zaD a0 v1).bind fun y2=>
  (zaD a1 v1).bind fun y3=>
  if(y2 !=y3)then
   some (.inr (some false))
  else
   some (.inl (IntKind.i64.wrap (v1+1)))
 else
  some (.inr (some true))
noncomputable def zfm (a0:List (yqS)) (a1:List (yqS)):Option (Bool):=
 if((a0.length:Int) !=(a1.length:Int))then
  some false
 else
  zak (fun s:Int=>zdM a0 a1 s) 0
noncomputable def zkR (a0 a1:zbh):Option (Bool):=
 if(a0.ab !=a1.ab)then
  some false
 else
  if(a0.bj !=a1.bj)then
   some false
  else
   if(a0.al !=a1.al)then
    some false
   else
    some true
noncomputable def zfl (a0 a1:List zbh) (v1:Int):Option ((Int) ⊕ Option (Bool)):=
 if(decide (v1<(a0.length:Int)))then
  (zaD a0 v1).bind fun y2=>
  (zaD a1 v1).bind fun y3=>
  (zkR y2 y3).bind fun v4=>
  if(!v4)then
   some (.inr (some false))
  else
   some (.inl (IntKind.i64.wrap (v1+1)))
 else
  some (.inr (some true))
noncomputable def zj4 (a0 a1:List zbh):Option (Bool):=
 if((a0.length:Int) !=(a1.length:Int))then
  some false
 else
  zak (fun s:Int=>zfl a0 a1 s) 0
noncomputable def ziX (a0 a1:zab):Option (Bool):=
 if(a0.ab !=a1.ab)then
  some false
 else
  (zfm a0.ao a1.ao).bind fun v1=>
  if(!v1)then
   some false
  else
   (zj4 a0.af a1.af).bind fun v2=>
   if(!v2)then
    some false
   else
    some true
noncomputable def zet (a0 a1:List zab) (v1:Int):Option ((Int) ⊕ Option (Bool)):=
 if(decide (v1<(a0.length:Int)))then
  (zaD a0 v1).bind fun y2=>
  (zaD a1 v1).bind fun y3=>
  (ziX y2 y3).bind fun v4=>
  if(!v4)then
   some (.inr (some false))
  else
   some (.inl (IntKind.i64.wrap (v1+1)))
 else
  some (.inr (some true))
noncomputable def zhf (a0 a1:List zab):Option (Bool):=
 if((a0.length:Int) !=(a1.length:Int))then
  some false
 else
  zak (fun s:Int=>zet a0 a1 s) 0
noncomputable def zft (a0 a1:List Int) (v1:Int):Option ((Int) ⊕ Option (Bool)):=
 if(decide (v1<(a0.length:Int)))then
  (zaD a0 v1).bind fun y2=>
  (zaD a1 v1).bind fun y3=>
  if(y2 !=y3)then
   some (.inr (some false))
  else
   some (.inl (IntKind.i64.wrap (v1+1)))
 else
  some (.inr (some true))
noncomputable def zjR (a0 a1:List Int):Option (Bool):=
 if((a0.length:Int) !=(a1.length:Int))then
  some false
 else
  zak (fun s:Int=>zft a0 a1 s) 0
noncomputable def ziM (a0 a1:zaa):Option (Bool):=
 if(a0.ae !=a1.ae)then
  some false
 else
  if(a0.az !=a1.az)then
   some false
  else
   if(a0.bd !=a1.bd)then
    some false
   else
    some true
noncomputable def zer (a0 a1:List zaa) (v1:Int):Option ((Int) ⊕ Option (Bool)):=
 if(decide (v1<(a0.length:Int)))then
  (zaD a0 v1).bind fun y2=>
  (zaD a1 v1).bind fun y3=>
  (ziM y2 y3).bind fun v4=>
  if(!v4)then
   some (.inr (some false))
  else
   some (.inl (IntKind.i64.wrap (v1+1)))
 else
  some (.inr (some true))
noncomputable def zhX (a0 a1:List zaa):Option (Bool):=
 if((a0.length:Int) !=(a1.length:Int))then
  some false
 else
  zak (fun s:Int=>zer a0 a1 s) 0
noncomputable def zi4 (a0 a1:zai):Option (Bool):=
 if(a0.ab !=a1.ab)then
  some false
 else
  (zhf a0.ak a1.ak).bind fun v1=>
  if(!v1)then
   some false
  else
   (zjR a0.bm a1.bm).bind fun v2=>
   if(!v2)then
    some false
   else
    (zhX a0.ay a1.ay).bind fun v3=>
    if(!v3)then
     some false
    else
     some true
noncomputable def zhl (a0 a1:zaK):Option (Bool):=
 if(a0.aq !=a1.aq)then
  some false
 else
  if(a0.br !=a1.br)then
   some false
  else
   some true
noncomputable def ze8 (a0 a1:zaJ):Option (Bool):=
 (zi4 a0.ah a1.ah).bind fun v1=>
 if(!v1)then
  some false
 else
  (zhl a0.c8 a1.c8).bind fun v2=>
  if(!v2)then
   some false
  else
   (zhl a0.bf a1.bf).bind fun v3=>
   if(!v3)then
    some false
   else
    some true
noncomputable def zjn (a0 a1:zch):Option (Bool):=
 (zfm a0.au a1.au).bind fun v1=>
 if(!v1)then
  some false
 else
  some true
noncomputable def zhe (a0 a1:zao):Option (Bool):=
 if(a0.aj !=a1.aj)then
  some false
 else
  (zjn a0.bg a1.bg).bind fun v1=>
  if(!v1)then
   some false
  else
   (zjn a0.bh a1.bh).bind fun v2=>
   if(!v2)then
    some false
   else
    some true
noncomputable def zgk (a0 a1:zax):Option (Bool):=
 if(a0.ax !=a1.ax)then
  some false
 else
  if(a0.bb !=a1.bb)then
   some false
  else
   (zhe a0.aw a1.aw).bind fun v1=>
   if(!v1)then
    some false
   else
    some true
noncomputable def zgS (a0 a1:zaw):Option (Bool):=
 if(a0.aj !=a1.aj)then
  some false
 else
  if(a0.bt !=a1.bt)then
   some false
  else
   (zgk a0.aw a1.aw).bind fun v1=>
   if(!v1)then
    some false
   else
    some true
noncomputable def zkQ (v1:yqS):Option (yqS):=
 req ((([109]:yqS)).length+(v1).length≤9223372036854775807)<|
 some ((([109]:yqS):yqS)++v1)
noncomputable def zbO (v2:Int) (v3:yqS):Option ((Int × yqS) ⊕ Option (yqS)):=
 if(decide (v2>0))then
  req (([(IntKind.u8.wrap (IntKind.i64.wrap ((48:Int)+(Int.tmod v2 10))))]:List Int).length≤9223372036854775807)<|
  req ((([(IntKind.u8.wrap (IntKind.i64.wrap ((48:Int)+(Int.tmod v2 10))))].map fun n=>UInt8.ofNat n.toNat)).length+(v3).length≤9223372036854775807)<|
  some (.inl ((IntKind.i64.wrap (Int.tdiv v2 10)),(([(IntKind.u8.wrap (IntKind.i64.wrap ((48:Int)+(Int.tmod v2 10))))].map fun n=>UInt8.ofNat n.toNat)++v3)))
 else
  some (.inr (zkQ v3))
noncomputable def zaN (a0:Int):Option (yqS):=
 if(decide (a0≤0))then
  some ([109,48]:yqS)
 else
  zak (fun s:Int × yqS=>zbO s.1 s.2) (a0,([]:yqS))
noncomputable def zb5 (v1 v2:Int) (v3:List (yqS)):Option ((Int × Int × List (yqS)) ⊕ Option (Int × List (yqS))):=
 if(decide (v2<(v3.length:Int)))then
  (zaN v1).bind fun v4=>
  (zaD v3 v2).bind fun y5=>
  some (.inl ((IntKind.i64.wrap (v1+1)),(IntKind.i64.wrap (v2+1)),(v3.set (v2).toNat v4)))
 else
  some (.inr (some (v1,v3)))
noncomputable def zfI (a0:List (yqS)) (a1:Int):Option (Int × List (yqS)):=
 zak (fun s:Int × Int × List (yqS)=>zb5 s.1 s.2.1 s.2.2) (a1,0,a0)
noncomputable def zc9 (v1 v2:Int) (v3:List zbh):Option ((Int × Int × List zbh) ⊕ Option (Int × List zbh)):=
 if(decide (v2<(v3.length:Int)))then
  (zaN v1).bind fun v4=>
  (zaD v3 v2).bind fun y5=>
  some (.inl ((IntKind.i64.wrap ((IntKind.i64.wrap ((IntKind.i64.wrap (v1+1))+1))+1)),(IntKind.i64.wrap (v2+1)),(((v3.set (v2).toNat {y5 with ab:=v4}).set (v2).toNat {{y5 with ab:=v4}with bj:=(IntKind.i64.wrap (v1+1))}).set (v2).toNat {{{y5 with ab:=v4}with bj:=(IntKind.i64.wrap (v1+1))}with al:=(IntKind.i64.wrap ((IntKind.i64.wrap (v1+1))+1))})))
 else
  some (.inr (some (v1,v3)))
noncomputable def zkx (a0:List zbh) (a1:Int):Option (Int × List zbh):=
 zak (fun s:Int × Int × List zbh=>zc9 s.1 s.2.1 s.2.2) (a1,0,a0)
noncomputable def zcr (v1 v2:Int) (v3:List zab):Option ((Int × Int × List zab) ⊕ Option (Int × List zab)):=
 if(decide (v2<(v3.length:Int)))then
  (zaN v1).bind fun v4=>
  (zaD v3 v2).bind fun y5=>
  (zfI ({y5 with ab:=v4}.ao) (IntKind.i64.wrap (v1+1))).bind fun v6=>
  (zkx ({{y5 with ab:=v4}with ao:=v6.2}.af) v6.1).bind fun v7=>
  some (.inl (v7.1,(IntKind.i64.wrap (v2+1)),(((v3.set (v2).toNat {y5 with ab:=v4}).set (v2).toNat {{y5 with ab:=v4}with ao:=v6.2}).set (v2).toNat {{{y5 with ab:=v4}with ao:=v6.2}with af:=v7.2})))
 else
  some (.inr (some (v1,v3)))
noncomputable def zix (a0:List zab) (a1:Int):Option (Int × List zab):=
 zak (fun s:Int × Int × List zab=>zcr s.1 s.2.1 s.2.2) (a1,0,a0)
noncomputable def zc5 (v1 v2:Int) (v3:List Int):Option ((Int × Int × List Int) ⊕ Option (Int × List Int)):=
 if(decide (v2<(v3.length:Int)))then
  (zaD v3 v2).bind fun y4=>
  some (.inl ((IntKind.i64.wrap (v1+1)),(IntKind.i64.wrap (v2+1)),(v3.set (v2).toNat v1)))
 else
  some (.inr (some (v1,v3)))
noncomputable def zki (a0:List Int) (a1:Int):Option (Int × List Int):=
 zak (fun s:Int × Int × List Int=>zc5 s.1 s.2.1 s.2.2) (a1,0,a0)
noncomputable def zco (v1 v2:Int) (v3:List zaa):Option ((Int × Int × List zaa) ⊕ Option (Int × List zaa)):=
 if(decide (v2<(v3.length:Int)))then
  (zaN v1).bind fun v4=>
  (zaD v3 v2).bind fun y5=>
  (zaN (IntKind.i64.wrap (v1+1))).bind fun v6=>
  some (.inl ((IntKind.i64.wrap ((IntKind.i64.wrap ((IntKind.i64.wrap (v1+1))+1))+1)),(IntKind.i64.wrap (v2+1)),(((v3.set (v2).toNat {y5 with ae:=v4}).set (v2).toNat {{y5 with ae:=v4}with az:=v6}).set (v2).toNat {{{y5 with ae:=v4}with az:=v6}with bd:=((Int.tmod (IntKind.i64.wrap ((IntKind.i64.wrap (v1+1))+1)) 3)==0)})))
 else
  some (.inr (some (v1,v3)))
noncomputable def zil (a0:List zaa) (a1:Int):Option (Int × List zaa):=
 zak (fun s:Int × Int × List zaa=>zco s.1 s.2.1 s.2.2) (a1,0,a0)
noncomputable def zgO (a0:zai) (a1:Int):Option (Int × zai):=
 (zix a0.ak a1).bind fun v1=>
 (zki a0.bm v1.1).bind fun v2=>
 (zil a0.ay v2.1).bind fun v3=>
 some (v3.1,(⟨a0.ab,v1.2,v2.2,v3.2⟩:zai))
noncomputable def zf5 (a0:zaJ) (a1:Int):Option (Int × zaJ):=
 (zgO a0.ah a1).bind fun v1=>
 some (v1.1,(⟨(⟨a0.ah.ab,v1.2.ak,v1.2.bm,v1.2.ay⟩:zai),a0.c8,a0.bf⟩:zaJ))
noncomputable def zgD (a0:zch) (a1:Int):Option (Int × zch):=
 (zfI a0.au a1).bind fun v1=>
 some (v1.1,(⟨v1.2⟩:zch))
noncomputable def zgo (a0:zao) (a1:Int):Option (Int × zao):=
 (zgD a0.bg a1).bind fun v1=>
 (zgD a0.bh v1.1).bind fun v2=>
 some (v2.1,(⟨a0.aj,v1.2,v2.2⟩:zao))
noncomputable def ze6 (a0:zax) (a1:Int):Option (Int × zax):=
 (zgo a0.aw a1).bind fun v1=>
 some (v1.1,(⟨a0.ax,a0.bb,(⟨a0.aw.aj,v1.2.bg,v1.2.bh⟩:zao)⟩:zax))
noncomputable def zfO (a0:zaw) (a1:Int):Option (Int × zaw):=
 (ze6 a0.aw a1).bind fun v1=>
 some (v1.1,(⟨a0.aj,a0.bt,(⟨a0.aw.ax,a0.aw.bb,(⟨a0.aw.aw.aj,v1.2.aw.bg,v1.2.aw.bh⟩:zao)⟩:zax)⟩:zaw))
noncomputable def zca (a0:List (yqS)) (v1 v2:Int):Option ((Int × Int) ⊕ Option (Int)):=
 if(decide (v2<(a0.length:Int)))then
  (zaD a0 v2).bind fun y3=>
  (zaN v1).bind fun v4=>
  if(y3 !=v4)then
   some (.inr (some (-1)))
  else
   some (.inl ((IntKind.i64.wrap (v1+1)),(IntKind.i64.wrap (v2+1))))
 else
  some (.inr (some v1))
noncomputable def zhJ (a0:List (yqS)) (a1:Int):Option (Int):=
 zak (fun s:Int × Int=>zca a0 s.1 s.2) (a1,0)
noncomputable def zdc (a0:List zbh) (v1 v2:Int):Option ((Int × Int) ⊕ Option (Int)):=
 if(decide (v2<(a0.length:Int)))then
  (zaD a0 v2).bind fun y3=>
  (zaN v1).bind fun v4=>
  if(y3.ab !=v4)then
   some (.inr (some (-1)))
  else
   if(y3.bj !=(IntKind.i64.wrap (v1+1)))then
    some (.inr (some (-1)))
   else
    if(y3.al !=(IntKind.i64.wrap ((IntKind.i64.wrap (v1+1))+1)))then
     some (.inr (some (-1)))
    else
     some (.inl ((IntKind.i64.wrap ((IntKind.i64.wrap ((IntKind.i64.wrap (v1+1))+1))+1)),(IntKind.i64.wrap (v2+1))))
 else
  some (.inr (some v1))
noncomputable def zkG (a0:List zbh) (a1:Int):Option (Int):=
 zak (fun s:Int × Int=>zdc a0 s.1 s.2) (a1,0)
noncomputable def zcq (a0:List zab) (v1 v2:Int):Option ((Int × Int) ⊕ Option (Int)):=
 if(decide (v2<(a0.length:Int)))then
  (zaD a0 v2).bind fun y3=>
  (zaN v1).bind fun v4=>
  if(y3.ab !=v4)then
   some (.inr (some (-1)))
  else
   (zhJ y3.ao (IntKind.i64.wrap (v1+1))).bind fun v5=>
   if(decide (v5<0))then
    some (.inr (some (-1)))
   else
    (zkG y3.af v5).bind fun v6=>
    if(decide (v6<0))then
     some (.inr (some (-1)))
    else
     some (.inl (v6,(IntKind.i64.wrap (v2+1))))
 else
  some (.inr (some v1))
noncomputable def zid (a0:List zab) (a1:Int):Option (Int):=
 zak (fun s:Int × Int=>zcq a0 s.1 s.2) (a1,0)
noncomputable def zdf (a0:List Int) (v1 v2:Int):Option ((Int × Int) ⊕ Option (Int)):=
 if(decide (v2<(a0.length:Int)))then
  (zaD a0 v2).bind fun y3=>
  if(y3 !=v1)then
   some (.inr (some (-1)))
  else
   some (.inl ((IntKind.i64.wrap (v1+1)),(IntKind.i64.wrap (v2+1))))
 else
  some (.inr (some v1))
noncomputable def zkF (a0:List Int) (a1:Int):Option (Int):=
 zak (fun s:Int × Int=>zdf a0 s.1 s.2) (a1,0)
noncomputable def zcp (a0:List zaa) (v1 v2:Int):Option ((Int × Int) ⊕ Option (Int)):=
 if(decide (v2<(a0.length:Int)))then
  (zaD a0 v2).bind fun y3=>
  (zaN v1).bind fun v4=>
  if(y3.ae !=v4)then
   some (.inr (some (-1)))
  else
   (zaN (IntKind.i64.wrap (v1+1))).bind fun v5=>
   if(y3.az !=v5)then
    some (.inr (some (-1)))
   else
    if(y3.bd !=((Int.tmod (IntKind.i64.wrap ((IntKind.i64.wrap (v1+1))+1)) 3)==0))then
     some (.inr (some (-1)))
    else
     some (.inl ((IntKind.i64.wrap ((IntKind.i64.wrap ((IntKind.i64.wrap (v1+1))+1))+1)),(IntKind.i64.wrap (v2+1))))
 else
  some (.inr (some v1))
noncomputable def ziy (a0:List zaa) (a1:Int):Option (Int):=
 zak (fun s:Int × Int=>zcp a0 s.1 s.2) (a1,0)
noncomputable def zgR (a0:zai) (a1:Int):Option (Int):=
 (zid a0.ak a1).bind fun v1=>
 if(decide (v1<0))then
  some (-1)
 else
  (zkF a0.bm v1).bind fun v2=>
  if(decide (v2<0))then
   some (-1)
  else
   (ziy a0.ay v2).bind fun v3=>
   if(decide (v3<0))then
    some (-1)
   else
    some v3
noncomputable def zf7 (a0:zaJ) (a1:Int):Option (Int):=
 (zgR a0.ah a1).bind fun v1=>
 if(decide (v1<0))then
  some (-1)
 else
  some v1
noncomputable def zd0 (a0:zaJ) (a1:zaw):Option (Bool):=
 (zkc a0 1048576).bind fun v1=>
 if(decide (v1<0))then
  some true
 else
  (zgN a1 v1).bind fun v2=>
  if(decide (v2<0))then
   some true
  else
   (ze1 a0).bind fun v3=>
   (zdi a1).bind fun v4=>
   (zf6 v3 v4).bind fun v5=>
   (ze1 a0).bind fun v6=>
   (zdi a1).bind fun v7=>
   (zeL v6 v7).bind fun v8=>
   (ze8 v8.1 v5.1).bind fun v9=>
   if(((!v9)||(v8.2.1 !=v5.2.1))||(v8.2.2 !=v5.2.2))then
    some false
   else
    (ze1 a0).bind fun v10=>
    (ze8 v6 v10).bind fun v11=>
    if(!v11)then
     some false
    else
     (zdi a1).bind fun v12=>
     (zgS v7 v12).bind fun v13=>
     if(!v13)then
      some false
     else
      (zf5 v6 1).bind fun v14=>
      (zfO v7 v14.1).bind fun v15=>
      if(decide (v15.1<0))then
       some false
      else
       (ze8 v8.1 v5.1).bind fun v16=>
       if(((!v16)||(v8.2.1 !=v5.2.1))||(v8.2.2 !=v5.2.2))then
        some false
       else
        (zf5 v8.1 1).bind fun v17=>
        (zf7 (⟨(⟨v8.1.ah.ab,v17.2.ah.ak,v17.2.ah.bm,v17.2.ah.ay⟩:zai),v8.1.c8,v8.1.bf⟩:zaJ) 1).bind fun v18=>
        if(decide (v18<0))then
         some false
        else
         if(v18 !=v17.1)then
          some false
         else
          (ze1 a0).bind fun v19=>
          (zdi a1).bind fun v20=>
          (zeL v19 v20).bind fun v21=>
          (ze8 v21.1 v5.1).bind fun v22=>
          if(((!v22)||(v21.2.1 !=v5.2.1))||(v21.2.2 !=v5.2.2))then
           some false
          else
           (zf7 (⟨(⟨v8.1.ah.ab,v17.2.ah.ak,v17.2.ah.bm,v17.2.ah.ay⟩:zai),v8.1.c8,v8.1.bf⟩:zaJ) 1).bind fun v23=>
           if(decide (v23<0))then
            some false
           else
            if(v23 !=v17.1)then
             some false
            else
             some true
noncomputable def zfL:FS:=mkH 376 [.v .s, .v .s] (.v (.i .i64)) (fun x=>za6 x.1 x.2.1) fun x r _ h=>zjK x.1 x.2.1 r h
noncomputable def zh8:FS:=mkH 350 [.v .s, .v (.i .u8)] (.v (.i .i64)) (fun x=>zbu x.1 x.2.1) fun x r _ h=>zh4 x.1 x.2.1 r h
noncomputable def ztW:FS:=mkH 351 [.v .s, .v (.i .i64), .v (.i .i64)] (.tu (.cons (.v (.i .i64)) (.cons (.v .b) .nil))) (fun x=>ziQ x.1 x.2.1 x.2.2.1) fun x r _ h=>ztG x.1 x.2.1 x.2.2.1 r h
noncomputable def zur:FS:=mkH 327 [.v (.i .i64)] (.v .s) (fun x=>zk9 x.1) fun x r _ h=>zul x.1 r h
noncomputable def zs1:FS:=mkH 367 [.v .s, .v .s] (.v (.i .i64)) (fun x=>zhk x.1 x.2.1) fun x r _ h=>ztv x.1 x.2.1 r h
noncomputable def ztE:FS:=mkH 274 [.v (.l .s), .v .s] (.v .s) (fun x=>zi6 x.1 x.2.1) fun x r _ h=>zue x.1 x.2.1 r h
noncomputable def zqi:FS:=mkH 366 [.v .s, .v (.i .i64)] (.v (.l .s)) (fun x=>ziq x.1 x.2.1) fun x r _ h=>zp3 x.1 x.2.1 r h
noncomputable def zfT:FS:=mkH 329 [.v (.l (.st 0)), .v (.i .i64), .v (.l (.st 0))] (.v (.l (.st 0))) (fun x=>zrB x.1 x.2.1 x.2.2.1) fun x r hp h=>zHd (t:=34) (it:=3) (el:=152) (K:=3) (by kernel_rfl) (fun _=>by kernel_rfl) zDJ h
noncomputable def zms:FS:=mkF 300 [.v (.l .s), .v (.i .i64)] (.v (.i .i64)) (fun x=>zff x.1 x.2.1) [] [.sp [.i .i64, .i .i64]]
noncomputable def zw8:FS:=mkF 346 [.v (.st 1), .v (.i .i64)] (.v (.i .i64)) (fun x=>zkV x.1 x.2.1) [] []
noncomputable def zvv:FS:=mkF 301 [.v (.l (.st 1)), .v (.i .i64)] (.v (.i .i64)) (fun x=>zjO x.1 x.2.1) [zw8] [.sp [.i .i64, .i .i64]]
noncomputable def ztR:FS:=mkF 231 [.v (.st 2), .v (.i .i64)] (.v (.i .i64)) (fun x=>zi2 x.1 x.2.1) [zms,zvv] []
noncomputable def zs6:FS:=mkF 143 [.v (.l (.st 2)), .v (.i .i64)] (.v (.i .i64)) (fun x=>zhn x.1 x.2.1) [ztR] [.sp [.i .i64, .i .i64]]
noncomputable def zwn:FS:=mkF 144 [.v (.l (.i .i64)), .v (.i .i64)] (.v (.i .i64)) (fun x=>zjU x.1 x.2.1) [] []
noncomputable def ztZ:FS:=mkF 232 [.v (.st 0), .v (.i .i64)] (.v (.i .i64)) (fun x=>ziN x.1 x.2.1) [] []
noncomputable def zti:FS:=mkF 145 [.v (.l (.st 0)), .v (.i .i64)] (.v (.i .i64)) (fun x=>zhu x.1 x.2.1) [ztZ] [.sp [.i .i64, .i .i64]]
noncomputable def ztY:FS:=mkF 53 [.v (.st 3), .v (.i .i64)] (.v (.i .i64)) (fun x=>zi0 x.1 x.2.1) [zs6,zwn,zti] []
noncomputable def zvs:FS:=mkF 162 [.v (.st 4), .v (.i .i64)] (.v (.i .i64)) (fun x=>zhi x.1 x.2.1) [] []
noncomputable def zv8:FS:=mkF 65 [.v (.st 5), .v (.i .i64)] (.v (.i .i64)) (fun x=>zkc x.1 x.2.1) [ztY,zvs] []
noncomputable def zxR:FS:=mkF 302 [.v (.st 6), .v (.i .i64)] (.v (.i .i64)) (fun x=>zjm x.1 x.2.1) [zms] []
noncomputable def zr3:FS:=mkF 233 [.v (.st 7), .v (.i .i64)] (.v (.i .i64)) (fun x=>zhw x.1 x.2.1) [zxR] []
noncomputable def zpP:FS:=mkF 146 [.v (.st 8), .v (.i .i64)] (.v (.i .i64)) (fun x=>zgp x.1 x.2.1) [zr3] []
noncomputable def zre:FS:=mkF 66 [.v (.st 9), .v (.i .i64)] (.v (.i .i64)) (fun x=>zgN x.1 x.2.1) [zpP] []
noncomputable def zmr:FS:=mkF 303 [.v (.l .s)] (.v (.l .s)) (fun x=>zfo x.1) [] [.sp [.i .i64, .l .s]]
noncomputable def zxH:FS:=mkF 347 [.v (.st 1)] (.v (.st 1)) (fun x=>zmG x.1) [] []
noncomputable def zvT:FS:=mkF 304 [.v (.l (.st 1))] (.v (.l (.st 1))) (fun x=>zjP x.1) [zxH] [.sp [.i .i64, .l (.st 1)]]
noncomputable def ztI:FS:=mkF 234 [.v (.st 2)] (.v (.st 2)) (fun x=>ziG x.1) [zmr,zvT] []
noncomputable def zrR:FS:=mkF 147 [.v (.l (.st 2))] (.v (.l (.st 2))) (fun x=>zhF x.1) [ztI] [.sp [.i .i64, .l (.st 2)]]
noncomputable def zvE:FS:=mkF 148 [.v (.l (.i .i64))] (.v (.l (.i .i64))) (fun x=>zj1 x.1) [] [.sp [.i .i64, .l (.i .i64)]]
noncomputable def ztD:FS:=mkF 235 [.v (.st 0)] (.v (.st 0)) (fun x=>zli x.1) [] []
noncomputable def zs8:FS:=mkF 149 [.v (.l (.st 0))] (.v (.l (.st 0))) (fun x=>zhv x.1) [ztD] [.sp [.i .i64, .l (.st 0)]]
noncomputable def zuo:FS:=mkF 55 [.v (.st 3)] (.v (.st 3)) (fun x=>ziF x.1) [zrR,zvE,zs8] []
noncomputable def zvl:FS:=mkF 166 [.v (.st 4)] (.v (.st 4)) (fun x=>zjX x.1) [] []
noncomputable def zwA:FS:=mkF 68 [.v (.st 5)] (.v (.st 5)) (fun x=>ze1 x.1) [zuo,zvl] []
noncomputable def zxk:FS:=mkF 305 [.v (.st 6)] (.v (.st 6)) (fun x=>zjj x.1) [zmr] []
noncomputable def zso:FS:=mkF 236 [.v (.st 7)] (.v (.st 7)) (fun x=>zhj x.1) [zxk] []
noncomputable def zpG:FS:=mkF 150 [.v (.st 8)] (.v (.st 8)) (fun x=>zgs x.1) [zso] []
noncomputable def zrb:FS:=mkF 69 [.v (.st 9)] (.v (.st 9)) (fun x=>zdi x.1) [zpG] []
noncomputable def zcK:FS:=mkF 101 [.v (.i .i64), .v (.i .i64), .v (.i .i64)] (.v .b) (fun x=>zbw x.1 x.2.1 x.2.2.1) [] []
noncomputable def zlA:FS:=mkF 173 [.v .s, .v (.i .i64)] (.v .b) (fun x=>zdC x.1 x.2.1) [] [.sp [.i .i64]]
noncomputable def zq0:FS:=mkF 259 [.v (.l .s), .v .s] (.v (.i .i64)) (fun x=>zi8 x.1 x.2.1) [] [.sp [.i .i64]]
noncomputable def zt3:FS:=mkF 174 [.v (.l .s)] (.v .b) (fun x=>ziY x.1) [zcK,zlA,zq0] [.sp [.i .i64]]
noncomputable def zju:FS:=mkF 81 [.v (.st 2)] (.v .b) (fun x=>zcx x.1) [zlA,zt3,zcK] [.sp [.i .i64]]
noncomputable def ze4:FS:=mkF 219 [.v (.st 2), .v .s] (.v (.i .i64)) (fun x=>zbm x.1 x.2.1) [] [.sp [.i .i64]]
noncomputable def zml:FS:=mkF 230 [.v (.st 2)] (.v (.st 2)) (fun x=>zgn x.1) [] []
noncomputable def zwt:FS:=mkF 172 [.v (.st 2), .v .s, .v (.i .i64)] (.v (.st 2)) (fun x=>zhG x.1 x.2.1 x.2.2.1) [zml,ze4] []
noncomputable def zv4:FS:=mkF 142 [.v (.st 2), .v .s, .v (.i .i64)] (.v (.l (.st 2))) (fun x=>zj5 x.1 x.2.1 x.2.2.1) [zml,ze4,zwt] [.sp [.i .i64, .l (.st 2)], .inl]
noncomputable def zoK:FS:=mkF 220 [.v (.st 2), .v (.st 2)] (.v .b) (fun x=>zfN x.1 x.2.1) [] [.sp [.i .i64], .sp [.i .i64]]
noncomputable def zvj:FS:=mkF 296 [.v (.i .i64), .v (.i .i64)] (.v (.i .i64)) (fun x=>zjT x.1 x.2.1) [] []
noncomputable def zwq:FS:=mkF 221 [.v (.st 2), .v (.st 2)] (.v (.i .i64)) (fun x=>zjM x.1 x.2.1) [zvj] [.sp [.i .i64, .i .i64]]
noncomputable def zua:FS:=mkF 128 [.v (.st 3)] (.v .b) (fun x=>zfz x.1) [zcK,zju,ze4,zv4,zoK,zwq] [.sp [.i .i64]]
noncomputable def zxh:FS:=mkF 129 [.v (.l (.i .i64)), .v (.i .i64), .v (.i .i64)] (.v .b) (fun x=>zkT x.1 x.2.1 x.2.2.1) [zcK] [.sp [.i .i64]]
noncomputable def zlg:FS:=mkF 260 [.v .s, .v .s] (.v .b) (fun x=>zfy x.1 x.2.1) [] [.sp [.i .i64], .sp [.b, .i .i64]]
noncomputable def zm1:FS:=mkF 336 [.v .s] (.v .b) (fun x=>zhc x.1) [zcK,zlg] []
noncomputable def zqQ:FS:=mkF 337 [.v .s] (.v .b) (fun x=>zjb x.1) [zlg] []
noncomputable def zug:FS:=mkF 282 [.v .s, .v .s, .v .b] (.v .b) (fun x=>ziE x.1 x.2.1 x.2.2.1) [zm1,zqQ] []
noncomputable def zsv:FS:=mkF 196 [.v (.l (.st 0))] (.v .b) (fun x=>zhq x.1) [zug] [.sp [.i .i64]]
noncomputable def zj2:FS:=mkF 94 [.v (.l (.st 0))] (.v .b) (fun x=>zdr x.1) [zsv] [.sp [.i .i64]]
noncomputable def zrj:FS:=mkF 44 [.v (.st 3)] (.v .b) (fun x=>zgY x.1) [zua,zcK,zxh,zj2] []
noncomputable def zss:FS:=mkF 309 [.v (.st 4)] (.v .b) (fun x=>zf9 x.1) [zm1] []
noncomputable def zsg:FS:=mkF 244 [.v (.st 5)] (.v .b) (fun x=>zfW x.1) [zrj,zss] []
noncomputable def zmS:FS:=mkF 291 [.v (.st 7)] (.v .b) (fun x=>zhW x.1) [] []
noncomputable def zmJ:FS:=mkF 175 [.v .s] (.v .b) (fun x=>zeN x.1) [zcK,zlg] []
noncomputable def zn0:FS:=mkF 82 [.v (.st 2), .v (.st 6)] (.v .b) (fun x=>zdA x.1 x.2.1) [zmJ] [.sp [.i .i64]]
noncomputable def zn7:FS:=mkF 195 [.v (.st 2), .v (.st 7)] (.v .b) (fun x=>zgE x.1 x.2.1) [zn0] []
noncomputable def zub:FS:=mkF 205 [.v (.st 3), .v (.st 8)] (.v .b) (fun x=>ziV x.1 x.2.1) [zcK,zmS,zn7] []
noncomputable def zup:FS:=mkF 310 [.v (.i .i64)] (.v .b) (fun x=>zk5 x.1) [zcK] []
noncomputable def ztH:FS:=mkF 245 [.v (.st 5), .v (.st 9)] (.v .b) (fun x=>ziH x.1 x.2.1) [zub,zup,zmS] [.pt]
noncomputable def zpt:FS:=mkF 163 [.v (.st 5), .v (.st 9)] (.v .b) (fun x=>zed x.1 x.2.1) [zsg,ztH] []
noncomputable def zx8:FS:=mkF 229 [.v (.l (.i .i64))] (.v (.l (.i .i64))) (fun x=>zk0 x.1) [] []
noncomputable def zoV:FS:=mkF 137 [.v (.st 3)] (.v (.st 3)) (fun x=>zhP x.1) [zx8,zml] [.sp [.i .i64, .l (.st 2)]]
noncomputable def zvw:FS:=mkF 165 [.v (.st 5)] (.v (.st 5)) (fun x=>zjV x.1) [zoV] []
noncomputable def zjE:FS:=mkF 208 [.v (.st 3)] (.v (.l (.i .i64))) (fun x=>zbY x.1) [ze4] [.sp [.l (.i .i64), .i .i64]]
noncomputable def ztP:FS:=mkF 246 [.v (.st 3)] (.tu (.cons (.v .b) (.cons (.v .b) .nil))) (fun x=>ziS x.1) [zjE] [.sp [.b, .b, .i .i64]]
noncomputable def ztK:FS:=mkF 93 [.v (.st 2), .v (.st 7)] (.v .b) (fun x=>zi5 x.1 x.2.1) [zju,zn7] []
noncomputable def ztV:FS:=mkF 298 [.v (.l .s), .v .s] (.v .s) (fun x=>zlk x.1 x.2.1) [] [.sp [.s, .i .i64], .inl]
noncomputable def zfV:FS:=mkF 224 [.v (.st 2), .v (.st 6)] (.v (.st 0)) (fun x=>zbV x.1 x.2.1) [ztV] []
noncomputable def zuk:FS:=mkF 198 [.v (.st 2), .v (.st 7)] (.v (.l (.st 10))) (fun x=>ziJ x.1 x.2.1) [zfV] []
noncomputable def zkj:FS:=mkF 279 [.v (.st 2), .v (.st 1), .v (.st 6)] (.v .s) (fun x=>zc0 x.1 x.2.1 x.2.2.1) [] []
noncomputable def zwD:FS:=mkF 199 [.v (.st 2), .v (.st 1), .v (.st 7)] (.v (.l (.st 10))) (fun x=>zhz x.1 x.2.1 x.2.2.1) [zkj] [.sp [.s], .pt, .pt, .inl]
noncomputable def zvI:FS:=mkF 96 [.v (.st 2), .v (.st 7)] (.v (.l (.st 10))) (fun x=>zjZ x.1 x.2.1) [zuk,zwD] [.sp [.i .i64, .l (.st 10)]]
noncomputable def zys:FS:=mkF 338 [.v (.st 10)] (.v .b) (fun x=>zlS x.1) [zm1,zqQ,zcK] [.pt, .inl]
noncomputable def zvX:FS:=mkF 283 [.v (.l (.st 10))] (.v .b) (fun x=>zj3 x.1) [zys] [.sp [.i .i64]]
noncomputable def zsh:FS:=mkF 361 [.v (.l (.st 0)), .v (.l (.st 11)), .v .s] (.tu (.cons (.v .s) (.cons (.v .b) (.cons (.v .b) .nil)))) (fun x=>zhC x.1 x.2.1 x.2.2.1) [] [.sp [.i .i64], .sp [.i .i64]]
noncomputable def zv1:FS:=mkF 377 [.v .s] (.v (.i .i64)) (fun x=>zhN x.1) [zcK] [.sp [.i .i64, .i .i64]]
noncomputable def zqP:FS:=mkF 363 [.v .s] (.tu (.cons (.v (.i .i64)) (.cons (.v .b) .nil))) (fun x=>zjo x.1) [zv1] [.pt]
noncomputable def zuf:FS:=mkF 362 [.v (.st 10), .v .s, .v .b] (.v .b) (fun x=>ziR x.1 x.2.1 x.2.2.1) [zqP,zcK] []
noncomputable def zpA:FS:=mkF 193 [.v (.l (.st 0)), .v (.st 0)] (.v (.l (.st 0))) (fun x=>zej x.1 x.2.1) [] [.sp [.i .i64]]
theorem zqU: ∀(n:Nat) (xs:HP tab.car [.v (.i .i64)]) (y:RTI tab.car (.v .s)),zAa tab [.v (.i .i64)] xs→((fun x=>zgA n x.1):HP tab.car [.v (.i .i64)]→Option (RTI tab.car (.v .s))) xs=some y→tab.Rt 378 (zlX tab [.v (.i .i64)] xs) (zwL tab (.v .s) y)
 |0,_,_,_,h=>nomatch h
 |n+1,xs,y,hp,h=>zHF (ps:= [.v (.i .i64)]) (r:=(.v .s)) [mkH 378 [.v (.i .i64)] (.v .s) (fun x=>zgA n x.1) (zqU n)] [] (φ:=(fun x=>zgA (n+1) x.1)) (fun _ _=>by kernel_rfl) (fun _ _=>by kernel_rfl) xs y hp h
noncomputable def zw6:FS:=mkH 378 [.v (.i .i64)] (.v .s) (fun x=>zng x.1) (zqU zIf)
noncomputable def zwk:FS:=mkF 364 [.v (.i .i64)] (.v .s) (fun x=>zl0 x.1) [zw6] []
noncomputable def zvG:FS:=mkF 339 [.v (.l (.st 10)), .v (.l (.st 11))] (.tu (.cons (.v (.i .i64)) (.cons (.v .s) (.cons (.v (.l (.st 0))) .nil)))) (fun x=>zlO x.1 x.2.1) [zsh,zuf,zpA,zqP,zwk] [.sp [.l (.st 0), .i .i64], .inl, .inl]
noncomputable def zvW:FS:=mkF 340 [.v (.l (.st 0)), .v .s] (.v (.st 11)) (fun x=>zjW x.1 x.2.1) [] [.sp [.i .i64]]
noncomputable def zud:FS:=mkF 284 [.v (.l (.st 0)), .v (.l (.st 10))] (.tu (.cons (.v (.l (.st 11))) (.cons (.v (.l (.st 0))) (.cons (.v .b) .nil)))) (fun x=>zld x.1 x.2.1) [zvG,zvW] [.sp [.l (.st 11)]]
noncomputable def zq6:FS:=mkF 285 [.v (.l (.st 0)), .v (.l (.st 0))] (.v (.l (.st 0))) (fun x=>zgQ x.1 x.2.1) [zpA] [.sp [.i .i64, .l (.st 0)], .sp [.l (.st 0), .i .i64], .inl]
noncomputable def zrh:FS:=mkF 197 [.v (.l (.st 0)), .v (.l (.l (.st 10)))] (.tu (.cons (.v (.l (.st 0))) (.cons (.v (.l .b)) (.cons (.v .b) .nil)))) (fun x=>zgP x.1 x.2.1) [zj2,zud,zq6,zvX] [.sp [.i .i64], .sp [.l .b, .i .i64, .l (.st 0)], .inl]
noncomputable def zmL:FS:=mkF 95 [.v (.l (.st 0)), .v (.l (.st 10))] (.tu (.cons (.v (.l (.st 0))) (.cons (.v .b) .nil))) (fun x=>zf4 x.1 x.2.1) [zrh] []
noncomputable def zw5:FS:=mkF 19 [.v (.st 2), .v (.l (.st 0)), .v (.st 7)] (.tu (.cons (.v (.l (.st 0))) (.cons (.v .b) (.cons (.v .b) .nil)))) (fun x=>zkN x.1 x.2.1 x.2.2.1) [ztK,zj2,zvI,zmL] []
noncomputable def zqL:FS:=mkF 108 [.v (.st 3), .v (.st 8)] (.tu (.cons (.v (.st 3)) (.cons (.v .b) .nil))) (fun x=>zep x.1 x.2.1) [zoV,zcK,zw5] []
noncomputable def zta:FS:=mkF 114 [.v (.l (.i .i64))] (.v .b) (fun x=>zhS x.1) [] [.sp [.i .i64], .sp [.i .i64]]
noncomputable def zxG:FS:=mkF 209 [.v (.l (.i .i64)), .v (.i .i64)] (.v .b) (fun x=>zji x.1 x.2.1) [] [.sp [.i .i64]]
noncomputable def ztQ:FS:=mkF 116 [.v (.st 3)] (.v (.i .i64)) (fun x=>ziZ x.1) [zjE,zxG] []
noncomputable def zn6:FS:=mkF 345 [.v .s, .v (.i .u8)] (.v (.l .s)) (fun x=>zex x.1 x.2.1) [] [.sp [.l .s, .i .i64, .i .i64], .inl]
noncomputable def zoq:FS:=mkF 343 [.v (.st 2), .v .s, .v .s] (.tu (.cons (.v .s) (.cons (.v .s) (.cons (.v .b) .nil)))) (fun x=>zfa x.1 x.2.1 x.2.2.1) [zn6,zmJ] []
noncomputable def zgr:FS:=mkF 288 [.v (.st 2), .v .s, .v (.l (.st 0))] (.v (.l .s)) (fun x=>zcL x.1 x.2.1 x.2.2.1) [zoq] [.sp [.l .s, .i .i64], .inl]
noncomputable def zmV:FS:=mkF 202 [.v (.st 2), .v .s, .v (.l (.st 0))] (.v .b) (fun x=>zdP x.1 x.2.1 x.2.2.1) [zju,ze4,zj2] []
noncomputable def zuc:FS:=mkF 297 [.v (.st 2), .v (.st 0)] (.tu (.cons (.v (.st 6)) (.cons (.v .b) .nil))) (fun x=>ziD x.1 x.2.1) [zn6,zn0,zfV] []
noncomputable def zk4:FS:=mkF 223 [.v (.st 2), .v (.l (.st 0))] (.v (.l (.st 6))) (fun x=>zfu x.1 x.2.1) [zuc] [.sp [.l (.st 6), .i .i64], .inl]
noncomputable def zmp:FS:=mkF 226 [.v (.st 2), .v .s, .v (.l (.st 0))] (.v (.l .s)) (fun x=>zfp x.1 x.2.1 x.2.2.1) [zk4,ze4,zkj] [.sp [.l .s, .i .i64]]
noncomputable def znX:FS:=mkF 344 [.v (.l .s), .v (.l .s)] (.v (.l .s)) (fun x=>ziW x.1 x.2.1) [zq0] [.sp [.l .s, .i .i64], .inl]
noncomputable def zq2:FS:=mkF 289 [.v (.st 2), .v .s, .v (.l (.st 0))] (.tu (.cons (.v (.l .s)) (.cons (.v .b) .nil))) (fun x=>zjB x.1 x.2.1 x.2.2.1) [zmV,zgr,zmp,znX] []
noncomputable def ztT:FS:=mkF 290 [.v (.st 2), .v .s, .v (.l (.st 0))] (.tu (.cons (.v (.l .s)) (.cons (.v .b) .nil))) (fun x=>zk3 x.1 x.2.1 x.2.2.1) [zmV,zmp,zgr,znX] []
noncomputable def ztb:FS:=mkF 203 [.v (.st 2), .v .s, .v (.i .i64), .v (.l (.st 0))] (.v .b) (fun x=>zhp x.1 x.2.1 x.2.2.1 x.2.2.2.1) [zgr,zq2,ztT] []
noncomputable def zui:FS:=mkF 112 [.v (.st 3)] (.v .b) (fun x=>zgB x.1) [ztQ,ztb] []
noncomputable def zwJ:FS:=mkF 110 [.v (.st 3), .v (.st 8)] (.v .b) (fun x=>zhV x.1 x.2.1) [zqL,zta,zui] []
noncomputable def zvS:FS:=mkF 247 [.v (.st 5), .v (.st 8)] (.tu (.cons (.v (.st 5)) (.cons (.v .b) .nil))) (fun x=>zdy x.1 x.2.1) [zwJ,zjE,zqL] [.inl]
noncomputable def zt9:FS:=mkF 311 [.v (.st 2), .v (.st 1), .v (.st 6)] (.v (.l (.st 10))) (fun x=>ziA x.1 x.2.1 x.2.2.1) [zfV,zkj] []
noncomputable def zqs:FS:=mkF 313 [.v (.st 2), .v (.l (.st 0))] (.v (.l .s)) (fun x=>zgj x.1 x.2.1) [zk4,zfV] [.sp [.l .s, .i .i64]]
noncomputable def zn2:FS:=mkF 312 [.v (.l .s), .v .s] (.v .b) (fun x=>zi3 x.1 x.2.1) [] [.sp [.i .i64]]
noncomputable def ztL:FS:=mkF 248 [.v (.st 2), .v .s, .v (.l (.st 0)), .v (.st 4), .v (.i .i64)] (.tu (.cons (.v (.l (.st 0))) (.cons (.v (.st 4)) .nil))) (fun x=>zgG x.1 x.2.1 x.2.2.1 x.2.2.2.1 x.2.2.2.2.1) [ze4,zk4,zqs,zn2,zfV,zt9,zmL] [.sp [.i .i64, .i .i64, .s, .l (.st 0)], .inl]
noncomputable def zsC:FS:=mkF 249 [.v (.st 2), .v .s, .v (.l (.st 0)), .v (.st 4), .v (.i .i64)] (.tu (.cons (.v (.l (.st 0))) (.cons (.v (.st 4)) .nil))) (fun x=>zfU x.1 x.2.1 x.2.2.1 x.2.2.2.1 x.2.2.2.2.1) [zgr,zn2,zmL] [.sp [.i .i64, .i .i64, .s, .l (.st 0)], .inl]
noncomputable def zxN:FS:=mkF 164 [.v (.st 5), .v (.st 9)] (.tu (.cons (.v (.st 5)) (.cons (.v .b) .nil))) (fun x=>zeX x.1 x.2.1) [ztP,zvS,ztL,zsC] []
noncomputable def zsQ:FS:=mkF 67 [.v (.st 5), .v (.st 9)] (.tu (.cons (.v (.st 5)) (.cons (.v .b) (.cons (.v .b) .nil)))) (fun x=>zf6 x.1 x.2.1) [zpt,zvw,zxN] []
noncomputable def zcl:FS:=mkF 89 [.v (.i .i64), .v (.i .i64), .v (.i .i64)] (.v .b) (fun x=>zba x.1 x.2.1 x.2.2.1) [] []
noncomputable def zrq:FS:=mkF 265 [.v (.l (.st 0))] (.v (.l .s)) (fun x=>zgU x.1) [] [.sp [.i .i64, .l .s]]
noncomputable def zm5:FS:=mkF 320 [.v (.i .u8)] (.v .b) (fun x=>zgb x.1) [] []
noncomputable def zob:FS:=mkF 321 [.v .s, .v (.i .u8)] (.v (.i .i64)) (fun x=>zg7 x.1 x.2.1) [zh8] []
noncomputable def zks:FS:=mkF 263 [.v .s, .v .s] (.v .b) (fun x=>zeK x.1 x.2.1) [zm5,zob] [.sp [.i .i64]]
noncomputable def zn4:FS:=mkF 322 [.v .s] (.v .b) (fun x=>zgC x.1) [zcl,zks] []
noncomputable def zrl:FS:=mkF 264 [.v (.l .s)] (.v .b) (fun x=>zgX x.1) [zn4] [.sp [.i .i64]]
noncomputable def zci:FS:=mkH 268 [.v (.l (.st 0)), .fn [.st 0] .b] (.v (.i .i64)) (fun x=>za4 x.1 (fun y=>x.2.1.φ (y,()))) fun x r hp h=>zho (f:=268) (t:=zAl 3) (by kernel_rfl) (by kernel_rfl) (zwu (av:=(zg6 tab.av (.st 0))) (cn:=3) (fun _=>⟨_,rfl,rfl⟩) h (fun y b hb=>hp.2.1 (y,()) b hb))
noncomputable def zbZ:FS:=mkH 182 [.v (.l (.st 0)), .fn [.st 0] .b] (.v .b) (fun x=>za3 x.1 (fun y=>x.2.1.φ (y,()))) fun x r hp h=>zho (f:=182) (t:=zAe 268) (by kernel_rfl) (by kernel_rfl) (zvp h fun r hr=>zci.ok x r hp hr)
noncomputable def zt0:FS:=mkF 323 [.v .s] (.v .b) (fun x=>ziI x.1) [zks] []
noncomputable def zto:FS:=mkF 267 [.v .s, .v .b] (.v .b) (fun x=>zhx x.1 x.2.1) [zt0] []
noncomputable def zoA:FS:=mkF 266 [.v (.st 0)] (.v .b) (fun x=>ze0 x.1) [zto] []
noncomputable def znG:FS:=mkP zoA fun _=>by kernel_rfl
noncomputable def zpM:FS:=mkF 181 [.v (.l (.st 0))] (.v .b) (fun x=>zgg x.1) [zrq,zrl,zbZ,znG] []
noncomputable def zsx:FS:=mkF 183 [.v (.st 0)] (.v .b) (fun x=>zhL x.1) [] []
noncomputable def zri:FS:=mkP zsx fun _=>by kernel_rfl
noncomputable def zwz:FS:=mkF 85 [.v (.l (.st 0))] (.v .b) (fun x=>zj9 x.1) [zpM,zbZ,zri] []
noncomputable def zfc:FS:=mkH 211 [.v (.l (.st 2)), .fn [.st 2] .b] (.v (.i .i64)) (fun x=>za4 x.1 (fun y=>x.2.1.φ (y,()))) fun x r hp h=>zho (f:=211) (t:=zAl 3) (by kernel_rfl) (by kernel_rfl) (zwu (av:=(zg6 tab.av (.st 2))) (cn:=3) (fun _=>⟨_,rfl,rfl⟩) h (fun y b hb=>hp.2.1 (y,()) b hb))
noncomputable def zez:FS:=mkH 119 [.v (.l (.st 2)), .fn [.st 2] .b] (.v .b) (fun x=>za3 x.1 (fun y=>x.2.1.φ (y,()))) fun x r hp h=>zho (f:=119) (t:=zAe 211) (by kernel_rfl) (by kernel_rfl) (zvp h fun r hr=>zfc.ok x r hp hr)
noncomputable def zqc:FS:=mkF 176 [.v .s, .v (.i .i64)] (.v .b) (fun x=>zdB x.1 x.2.1) [zcl] [.sp [.i .i64]]
noncomputable def ziv:FS:=mkF 261 [.v (.l .s), .v .s] (.v (.i .i64)) (fun x=>zbE x.1 x.2.1) [] [.sp [.i .i64]]
noncomputable def zd3:FS:=mkF 177 [.v (.l .s), .v .s] (.v .b) (fun x=>zaS x.1 x.2.1) [ziv] []
noncomputable def zt5:FS:=mkF 98 [.v (.i .i64)] (.v .b) (fun x=>zlb x.1) [zcl] []
noncomputable def zq5:FS:=mkF 83 [.v (.st 2)] (.v .b) (fun x=>zgK x.1) [zqc,zcl,zt5,zd3] [.sp [.i .i64], .sp [.i .i64]]
noncomputable def zgd:FS:=mkH 292 [.v (.l (.st 1)), .fn [.st 1] .b] (.v (.i .i64)) (fun x=>za4 x.1 (fun y=>x.2.1.φ (y,()))) fun x r hp h=>zho (f:=292) (t:=zAl 3) (by kernel_rfl) (by kernel_rfl) (zwu (av:=(zg6 tab.av (.st 1))) (cn:=3) (fun _=>⟨_,rfl,rfl⟩) h (fun y b hb=>hp.2.1 (y,()) b hb))
noncomputable def zlp:FS:=mkF 293 [.v (.st 1), .rf .s] (.v .b) (fun x=>zeT x.1 x.2.1) [] []
noncomputable def zlh:FS:=mkP zlp fun _=>by kernel_rfl
noncomputable def zfH:FS:=mkF 212 [.v (.st 2), .v .s] (.v (.i .i64)) (fun x=>zbU x.1 x.2.1) [zgd,zlh] []
noncomputable def zvO:FS:=mkF 121 [.v (.st 2), .v .s] (.v .b) (fun x=>zj8 x.1 x.2.1) [zq5,zfH] []
noncomputable def zpu:FS:=mkF 120 [.v (.st 2), .rf (.st 3)] (.v .b) (fun x=>zhr x.1 x.2.1) [zvO] []
noncomputable def zon:FS:=mkP zpu fun _=>by kernel_rfl
noncomputable def zjA:FS:=mkH 213 [.v (.l (.i .i64)), .fn [.i .i64] .b] (.v (.i .i64)) (fun x=>za4 x.1 (fun y=>x.2.1.φ (y,()))) fun x r hp h=>zho (f:=213) (t:=zzs) (by kernel_rfl) (by kernel_rfl) (zzU (av:=(zg6 tab.av (.i .i64))) (fun _=>rfl) h (fun y b hb=>hp.2.1 (y,()) b hb))
noncomputable def zh7:FS:=mkH 122 [.v (.l (.i .i64)), .fn [.i .i64] .b] (.v .b) (fun x=>za3 x.1 (fun y=>x.2.1.φ (y,()))) fun x r hp h=>zho (f:=122) (t:=zAe 213) (by kernel_rfl) (by kernel_rfl) (zvp h fun r hr=>zjA.ok x r hp hr)
noncomputable def zoS:FS:=mkF 123 [.v (.i .i64), .rf (.st 3)] (.v .b) (fun x=>zhQ x.1 x.2.1) [zcl] []
noncomputable def zoH:FS:=mkP zoS fun _=>by kernel_rfl
noncomputable def zh2:FS:=mkF 214 [.v (.st 2), .v .s] (.v (.st 1)) (fun x=>zbM x.1 x.2.1) [zfH] []
noncomputable def zdV:FS:=mkF 126 [.v (.st 3), .v (.st 2)] (.v (.i .i64)) (fun x=>zaz x.1 x.2.1) [zh2] []
noncomputable def zeG:FS:=mkH 294 [.v (.l .s)] (.v (.l .s)) (fun x=>zbe x.1) fun x r hp h=>zho (f:=294) (t:=zuL 16 1) (by kernel_rfl) (by kernel_rfl) (zpm (bytes:=16) (sz:=1) (av:=(zg6 tab.av .s)) (fun x=>⟨zle _ x,zha (by kernel_rfl) x⟩) h)
noncomputable def zg8:FS:=mkH 295 [.v (.l (.st 1))] (.v (.l (.st 1))) (fun x=>zb3 x.1) fun x r hp h=>zho (f:=295) (t:=zuL 32 3) (by kernel_rfl) (by kernel_rfl) (zpm (bytes:=32) (sz:=3) (av:=(zg6 tab.av (.st 1))) (fun x=>⟨zle _ x,zha (by kernel_rfl) x⟩) h)
noncomputable def zjp:FS:=mkF 215 [.v (.st 2)] (.v (.st 2)) (fun x=>zd9 x.1) [zeG,zg8] []
noncomputable def zlG:FS:=mkF 216 [.v (.st 2), .v .s, .v (.i .i64)] (.v (.st 2)) (fun x=>zcc x.1 x.2.1 x.2.2.1) [zjp,zfH] []
noncomputable def znJ:FS:=mkF 125 [.v (.st 2), .v .s, .v (.i .i64)] (.v (.l (.st 2))) (fun x=>zeC x.1 x.2.1 x.2.2.1) [zh2,zjp,zlG] [.sp [.i .i64, .l (.st 2)], .inl]
noncomputable def zb2:FS:=mkF 124 [.v (.l (.st 2)), .v (.l (.st 2)), .fn [.st 2, .st 2] .b] (.v .b) (fun x=>zal x.1 x.2.1 (fun y0 y1=>x.2.2.1.φ (y0,y1,()))) [] [.sp [.i .i64]]
noncomputable def ziu:FS:=mkF 217 [.v (.l .s), .v (.l .s)] (.v .b) (fun x=>zbC x.1 x.2.1) [] [.sp [.i .i64]]
noncomputable def zg3:FS:=mkF 218 [.v (.l (.st 1)), .v (.l (.st 1))] (.v .b) (fun x=>zbi x.1 x.2.1) [] [.sp [.i .i64]]
noncomputable def zrk:FS:=mkF 127 [.v (.st 2), .v (.st 2)] (.v .b) (fun x=>zcv x.1 x.2.1) [ziu,zg3] []
noncomputable def zpL:FS:=mkP zrk fun _=>by kernel_rfl
noncomputable def zq8:FS:=mkF 43 [.v (.st 3)] (.v .b) (fun x=>zgV x.1) [zcl,zwz,zez,zon,zh7,zoH,zdV,znJ,zb2,zpL] []
noncomputable def zsz:FS:=mkF 314 [.v (.st 4)] (.v .b) (fun x=>zf3 x.1) [zn4] []
noncomputable def ztt:FS:=mkF 250 [.v (.st 5)] (.v .b) (fun x=>zgc x.1) [zq8,zsz] []
noncomputable def zdo:FS:=mkF 204 [.v (.st 3), .v (.i .i64)] (.v (.st 2)) (fun x=>zam x.1 x.2.1) [] []
noncomputable def zdN:FS:=mkH 262 [.v (.l .s), .fn [.s] .b] (.v (.i .i64)) (fun x=>za4 x.1 (fun y=>x.2.1.φ (y,()))) fun x r hp h=>zho (f:=262) (t:=zzs) (by kernel_rfl) (by kernel_rfl) (zzU (av:=(zg6 tab.av .s)) (fun _=>rfl) h (fun y b hb=>hp.2.1 (y,()) b hb))
noncomputable def zgh:FS:=mkH 178 [.v (.l .s), .fn [.s] .b] (.v .b) (fun x=>za3 x.1 (fun y=>x.2.1.φ (y,()))) fun x r hp h=>zho (f:=178) (t:=zAe 262) (by kernel_rfl) (by kernel_rfl) (zvp h fun r hr=>zdN.ok x r hp hr)
noncomputable def zn1:FS:=mkF 180 [.v .s] (.v .b) (fun x=>zfw x.1) [zcl,zks] []
noncomputable def zmv:FS:=mkF 179 [.v .s] (.v .b) (fun x=>zd1 x.1) [zn1] []
noncomputable def zlV:FS:=mkP zmv fun _=>by kernel_rfl
noncomputable def zjG:FS:=mkF 84 [.v (.st 2), .v (.st 6)] (.v .b) (fun x=>zbk x.1 x.2.1) [zgh,zlV] []
noncomputable def zme:FS:=mkF 102 [.v (.st 2), .v (.st 7)] (.v .b) (fun x=>zdu x.1 x.2.1) [zjG] []
noncomputable def zpd:FS:=mkF 222 [.v (.st 7)] (.v .b) (fun x=>zhI x.1) [] []
noncomputable def zk7:FS:=mkF 130 [.v (.st 3), .v (.st 8)] (.v .b) (fun x=>zcS x.1 x.2.1) [zcl,zdo,zme,zpd] []
noncomputable def zmn:FS:=mkF 251 [.v (.st 5), .v (.st 9)] (.v .b) (fun x=>zds x.1 x.2.1) [zk7,zcl,zpd] [.pt]
noncomputable def zoP:FS:=mkF 167 [.v (.st 5), .v (.st 9)] (.v .b) (fun x=>zec x.1 x.2.1) [ztt,zmn] []
noncomputable def zlj:FS:=mkH 228 [.v (.l (.i .i64))] (.v (.l (.i .i64))) (fun x=>zev x.1) fun x r hp h=>zho (f:=228) (t:=zuL 8 1) (by kernel_rfl) (by kernel_rfl) (zpm (bytes:=8) (sz:=1) (av:=(zg6 tab.av (.i .i64))) (fun x=>⟨zle _ x,zha (by kernel_rfl) x⟩) h)
noncomputable def zby:FS:=mkH 140 [.v (.l (.st 0))] (.v (.l (.st 0))) (fun x=>zap x.1) fun x r hp h=>zho (f:=140) (t:=zuL 40 3) (by kernel_rfl) (by kernel_rfl) (zpm (bytes:=40) (sz:=3) (av:=(zg6 tab.av (.st 0))) (fun x=>⟨zle _ x,zha (by kernel_rfl) x⟩) h)
noncomputable def zmt:FS:=mkF 135 [.v (.st 3)] (.v (.st 3)) (fun x=>zfk x.1) [zlj,zby,zjp] [.sp [.i .i64, .l (.st 2)]]
noncomputable def zmH:FS:=mkF 253 [.v (.st 5)] (.v (.st 5)) (fun x=>zf1 x.1) [zmt] []
noncomputable def zdv:FS:=mkF 187 [.v (.st 2), .v (.st 6)] (.v (.st 0)) (fun x=>za0 x.1 x.2.1) [ztE] []
noncomputable def zma:FS:=mkF 186 [.v (.i .i64), .v (.st 0), .rf (.l (.st 10))] (.tu (.cons (.tu .nil) (.cons (.bo (.l (.st 10))) .nil))) (fun x=>zaC x.1 x.2.1 x.2.2.1) [] []
noncomputable def zh9:FS:=mkF 275 [.v (.st 2), .v .s] (.v .s) (fun x=>zcC x.1 x.2.1) [] []
noncomputable def zfX:FS:=mkF 188 [.v (.st 2), .v .s, .v (.st 6)] (.v .s) (fun x=>za1 x.1 x.2.1 x.2.2.1) [zh9,zh2] []
noncomputable def ztC:FS:=mkF 99 [.v (.i .i64)] (.v .b) (fun x=>zlf x.1) [] []
noncomputable def zk2:FS:=mkF 100 [.v (.i .i64)] (.v .b) (fun x=>zdz x.1) [] []
end Go.Proofs.YtgobcjbjogkpjaaGreatDoor
end
