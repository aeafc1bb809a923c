/- Parts of a proof, joined: NT, NV, NU, NH, NVG, NDA, NDB, LCG, NDC, NQS, N17, N18, N19, N20, N21, N22, NM, NN, NB, NKA. -/
import Derived.Test.YtlhlgboblghkdaaGreatDoorS9
set_option linter.unusedVariables false
set_option linter.unusedSimpArgs false
section
namespace Go.Proofs.YtlhlgboblghkdaaGreatDoor
open Go.RowKit
set_option maxRecDepth 100000
structure Gc (o:Az):Prop where
 key:Du o.af=true
 val:Gs o.ay=true
 nj:o.jq=0
 kind:o.aj=2∨o.aj=3∨o.aj=6∨o.aj=7
 none:o.aj=3∨o.aj=6→o.ay= []
theorem wO {s:Ai} (h:Gs s=true):s.length≤24:=by unfold Gs at h;simp only [Ae,decide_eq_true_eq]at h;omega
theorem wR {s:Ai} (h:Du s=true):s.length≤12:=by unfold Du at h;simp only [Ae]at h;have:=BW.1 h.1;omega
theorem w6 (s:Ai) (h:s.length≤2000000): ∃r,TZ s=some r:=by
 unfold TZ;rw [Hd,Aa];cases hb:BL s.length 1 6 with
 |false=>exact⟨_,rfl⟩
 |true=>
  have h1:=BW.1 hb;obtain⟨x,e,_,_⟩:=IJ (xs:=s) (i:=0) (by omega) (by omega);rw [if_pos rfl,e,Aa];split
  ·exact⟨_,rfl⟩
  ·have key: ∀(n q:Nat) (v:Int),q+n=s.length→ ∃r,AA (fun s_:Int × Int=>K2 s s_.1 s_.2) (v,(q:Int))=some r:=by
    intro n
    induction n with
    |zero=>intro q v hq;refine⟨v,ED ?_⟩;show K2 s v q=_;unfold K2;rw [if_neg (by simp;omega)]
    |succ n ih=>
     intro q v hq;have Aq:q<s.length:=by omega
     by_cases hd:((decide (((s[q]).toNat:Int)<48))||(decide (((s[q]).toNat:Int)>57)))=true
     ·refine⟨-1,ED ?_⟩;show K2 s v q=_;unfold K2;rw [if_pos (by simpa using Aq),AO Aq,Aa,if_pos hd]
     ·have e:K2 s v q=some (.inl ((IntKind.i64.wrap ((IntKind.i64.wrap ((10:Int)*v))+(IntKind.i64.wrap (IntKind.u8.wrap (((s[q]).toNat:Int)-48))))),((q+1:Nat):Int))):=by
       unfold K2;rw [if_pos (by simpa using Aq),AO Aq,Aa,if_neg hd,Bi Aq (by omega)]
      obtain⟨r,hr⟩:=ih (q+1) _ (by omega);exact⟨r,(E9 (body:=fun s_:Int × Int=>K2 s s_.1 s_.2) e).trans hr⟩
   exact key s.length 0 0 (by omega)
theorem zBk (s:Ai) (h:s.length≤2000000): ∃r,Ub s=some r:=by
 have Gg: ∀(y:UInt8) (v:Ai),v.length≤2000000→ ∃r,Xh y v=some r:=by
  intro y v hv;obtain⟨r,e⟩:=w6 v hv;unfold Xh;rw [e,Aa];split
  ·exact⟨_,rfl⟩
  ·split<;>exact⟨_,rfl⟩
 unfold Ub;by_cases h0:(s.length:Int)>0
 ·obtain⟨x,e,_,_⟩:=IJ (xs:=s) (i:=0) (by omega) (by omega);rw [if_pos (by simpa using h0),e,Aa];split
  ·rw [AJ (by omega)];exact Gg _ _ (by rw [dK,List.length_tail];omega)
  ·exact Gg _ _ h
 ·rw [if_neg (by simpa using h0)];unfold sY;obtain⟨r,e⟩:=w6 s h;rw [e,Aa];split<;>exact⟨_,rfl⟩
def Ga (o:Az) (val:Ai) (there:Bool):Bool:=if o.aj=6 then !there else there&&val==o.ay
def Dh (got:List BC):List Az→List Ac→Int × Ai × List Ac
 | [],ws=>(3, [],ws)
 |o::l,ws=>
  if o.aj=2 then Dh got l (BA wk ⟨o.af,o.ay,false⟩ ws)else
  if o.aj=3 then Dh got l (BA wk ⟨o.af, [],true⟩ ws)else
  if(CU ws got o.af).2.2=true then(if Ga o (CU ws got o.af).1 (CU ws got o.af).2.1=true then Dh got l ws else(2, [], []))
  else(1,o.af, [])
structure DH (n:Nat) (ws:List Ac):Prop where
 cc:Dc ws
 len:ws.length≤n
 bw: ∀w∈ws,CW w=true
theorem Kf {n:Nat} {ws:List Ac} {w:Ac} (h:DH n ws) (hw:CW w=true):DH (n+1) (BA wk w ws):=by
 refine⟨Ut h.cc,Nat.le_trans (yV _) (by have:=h.len;omega),fun y hy=> ?_⟩;rcases(UC (key:=wk) h.cc y).1 hy with rfl|hy
 ·exact hw
 ·exact h.bw y hy.1
theorem kI {o:Az} (h:Gc o):CW ⟨o.af,o.ay,false⟩=true:=by unfold CW HO;simp [h.key,h.val]
theorem jE {o:Az} (h:Gc o):CW ⟨o.af, [],true⟩=true:=by unfold CW HO;rw [h.key];rfl
theorem YG {w:Ac} (h:CW w=true):w.ay.length≤24:=by unfold CW HO at h;simp only [Ae]at h;exact wO h.2.1
theorem wW {w:Ac} (h:CW w=true):w.af.length≤12:=by unfold CW at h;simp only [Ae]at h;exact wR h.1
theorem vE {ws:List Ac} {got:List BC} {k:Ai} (hw: ∀w∈ws,CW w=true) (hg: ∀g∈got,g.ay.length≤2000):(CU ws got k).1.length≤2000:=by
 unfold CU;cases e:ws.find? (fun w=>w.af==k)with
 |some w=>have:=YG (hw w (List.mem_of_find?_eq_some e));show w.ay.length≤2000;omega
 |none=>
  unfold M0;cases e2:got.find? (fun g=>g.af==k)with
  |some g=>exact hg g (List.mem_of_find?_eq_some e2)
  |none=>simp
theorem zAM {o:Az} (h:Gc o) (LL:o.aj≠2) (hk3:o.aj≠3) {val:Ai} {there:Bool} (hv:val.length≤2000):Xe o val there=some (Ga o val there):=by
 have e: ∃r,TV val=some r:=by unfold TV XC;rw [AJ (by omega)];exact⟨_,rfl⟩
 obtain⟨r,e⟩:=e;unfold Xe Ga;rw [e,Aa];rcases h.kind with h1|h1|h1|h1
 ·exact absurd h1 LL
 ·exact absurd h1 hk3
 ·rw [h1];rfl
 ·rw [h1];rfl
theorem zBK {o:Az} (h:Gc o) {val:Ai} {there:Bool} (hv:val.length≤2000):XD o val there=some (if o.aj=2∨o.aj=3 then false else !Ga o val there):=by
 obtain⟨r,e⟩:=zBk val (by omega);unfold XD Ga;rw [e,Aa];rcases h.kind with h1|h1|h1|h1
 ·rw [h1];rfl
 ·rw [h1];rfl
 ·rw [h1];cases there<;>rfl
 ·rw [h1];show some (!there||val !=o.ay)=some (!(there&&val==o.ay));cases there<;>simp [bne]
theorem zDt {ops:List Az} {got:List BC} (hl:ops.length≤1000) (ho: ∀o∈ops,Gc o) (hg:got.length≤2000) (hv: ∀g∈got,g.ay.length≤2000):fZ ops got=some (Dh got ops []):=by
 have key: ∀(n q:Nat) (ws:List Ac),q+n=ops.length→DH q ws→AA (fun s:Int × List Ac=>Ie ops got s.1 s.2) ((q:Int),ws)=some (Dh got (ops.drop q) ws):=by
  intro n
  induction n with
  |zero=>intro q ws hq hw;rw [List.drop_eq_nil_of_le (by omega),Dh];refine ED ?_;show Ie ops got q ws=_;unfold Ie;rw [if_neg (by simp;omega)]
  |succ n ih=>
   intro q ws hq hw;have Aq:q<ops.length:=by omega
   have Ax:=ho _ (List.getElem_mem Aq);have L2:=hw.len;have Gl:=Bi Aq (by omega);rw [List.drop_eq_getElem_cons Aq,Dh];by_cases h2:(ops[q]).aj=2
   ·rw [if_pos h2];have e:Ie ops got q ws=some (.inl (((q+1:Nat):Int),BA wk ⟨(ops[q]).af,(ops[q]).ay,false⟩ ws)):=by
     unfold Ie;rw [if_pos (by simpa using Aq),AO Aq,Aa,if_pos (by simpa using h2),jC (by omega) hw.cc,Aa,Gl]
    rw [E9 (body:=fun s:Int × List Ac=>Ie ops got s.1 s.2) e];exact ih (q+1) _ (by omega) (Kf hw (kI Ax))
   rw [if_neg h2];by_cases h3:(ops[q]).aj=3
   ·rw [if_pos h3];have e:Ie ops got q ws=some (.inl (((q+1:Nat):Int),BA wk ⟨(ops[q]).af, [],true⟩ ws)):=by
     unfold Ie;rw [if_pos (by simpa using Aq),AO Aq,Aa,if_neg (by simpa using h2),if_pos (by simpa using h3),jC (by omega) hw.cc,Aa,Gl]
    rw [E9 (body:=fun s:Int × List Ac=>Ie ops got s.1 s.2) e];exact ih (q+1) _ (by omega) (Kf hw (jE Ax))
   rw [if_neg h3];have CA:=vE (k:=(ops[q]).af) hw.bw hv;have hb:Ie ops got q ws=if(CU ws got (ops[q]).af).2.2=true then(if Ga ops[q] (CU ws got (ops[q]).af).1 (CU ws got (ops[q]).af).2.1=true then some (.inl (((q+1:Nat):Int),ws))else some (.inr (some (2, [], []))))else some (.inr (some (1,(ops[q]).af, []))):=by
    unfold Ie;rw [if_pos (by simpa using Aq),AO Aq,Aa,if_neg (by simpa using h2),if_neg (by simpa using h3),zxG (by omega) (by omega) hw.cc,Aa];cases hs:(CU ws got (ops[q]).af).2.2 with
    |false=>rw [if_pos (by simp),if_neg (by simp)]
    |true=>
     rw [if_neg (by simp),if_pos rfl,zAM Ax h2 h3 CA,Aa];have h4: ¬(ops[q]).aj=4:=by rcases Ax.kind with h|h|h|h<;>omega
     cases Ga ops[q] (CU ws got (ops[q]).af).1 (CU ws got (ops[q]).af).2.1 with
     |false=>rfl
     |true=>rw [if_neg (by simp),if_neg (by simpa using h4),if_pos rfl,Gl]
   by_cases hs:(CU ws got (ops[q]).af).2.2=true
   ·rw [if_pos hs]at hb ⊢;by_cases hk:Ga ops[q] (CU ws got (ops[q]).af).1 (CU ws got (ops[q]).af).2.1=true
    ·rw [if_pos hk]at hb ⊢;rw [E9 (body:=fun s:Int × List Ac=>Ie ops got s.1 s.2) hb];exact ih (q+1) _ (by omega) ⟨hw.cc,by omega,hw.bw⟩
    ·rw [if_neg hk]at hb ⊢;exact ED hb
   ·rw [if_neg hs]at hb ⊢;exact ED hb
 exact key ops.length 0 [] (by omega) ⟨List.Pairwise.nil,Nat.le_refl _,by simp⟩
theorem zDH {ops:List Az} {got:List BC} (hl:ops.length≤1000) (ho: ∀o∈ops,Gc o) (hg:got.length≤2000) (hv: ∀g∈got,g.ay.length≤2000):gM ops got=some (Dh got ops []):=by
 have key: ∀(n q:Nat) (ws:List Ac),q+n=ops.length→DH q ws→AA (fun s:List Ac × Int=>Ig ops got s.1 s.2) (ws,(q:Int))=some (Dh got (ops.drop q) ws):=by
  intro n
  induction n with
  |zero=>intro q ws hq hw;rw [List.drop_eq_nil_of_le (by omega),Dh];refine ED ?_;show Ig ops got ws q=_;unfold Ig;rw [if_neg (by simp;omega)]
  |succ n ih=>
   intro q ws hq hw;have Aq:q<ops.length:=by omega
   have Ax:=ho _ (List.getElem_mem Aq);have L2:=hw.len;have Gl:=Bi Aq (by omega);have CA:=vE (k:=(ops[q]).af) hw.bw hv;have H5:=zBK Ax (val:=(CU ws got (ops[q]).af).1) (there:=(CU ws got (ops[q]).af).2.1) CA;rw [List.drop_eq_getElem_cons Aq,Dh];by_cases h2:(ops[q]).aj=2
   ·rw [if_pos h2];rw [if_pos (.inl h2)]at H5;have e:Ig ops got ws q=some (.inl (BA wk ⟨(ops[q]).af,(ops[q]).ay,false⟩ ws,((q+1:Nat):Int))):=by
     unfold Ig;rw [if_pos (by simpa using Aq),AO Aq,Aa,jV (by omega) (by omega),Aa,if_neg (by simp [h2]),H5,Aa,if_neg (by simp),if_pos (by simpa using h2),JC (by omega) hw.cc,Aa,Gl]
    rw [E9 (body:=fun s:List Ac × Int=>Ig ops got s.1 s.2) e];exact ih (q+1) _ (by omega) (Kf hw (kI Ax))
   rw [if_neg h2];by_cases h3:(ops[q]).aj=3
   ·rw [if_pos h3];rw [if_pos (.inr h3)]at H5;have e:Ig ops got ws q=some (.inl (BA wk ⟨(ops[q]).af, [],true⟩ ws,((q+1:Nat):Int))):=by
     unfold Ig;rw [if_pos (by simpa using Aq),AO Aq,Aa,jV (by omega) (by omega),Aa,if_neg (by simp [h3]),H5,Aa,if_neg (by simp),if_neg (by simpa using h2),if_pos (by simpa using h3),JC (by omega) hw.cc,Aa,Gl]
    rw [E9 (body:=fun s:List Ac × Int=>Ig ops got s.1 s.2) e];exact ih (q+1) _ (by omega) (Kf hw (jE Ax))
   rw [if_neg h3];rw [if_neg (by simp [h2,h3])]at H5;have hb:Ig ops got ws q=if(CU ws got (ops[q]).af).2.2=true then(if Ga ops[q] (CU ws got (ops[q]).af).1 (CU ws got (ops[q]).af).2.1=true then some (.inl (ws,((q+1:Nat):Int)))else some (.inr (some (2, [], []))))else some (.inr (some (1,(ops[q]).af, []))):=by
    unfold Ig;rw [if_pos (by simpa using Aq),AO Aq,Aa,jV (by omega) (by omega),Aa];cases hs:(CU ws got (ops[q]).af).2.2 with
    |false=>rw [if_pos (by simp [h2,h3]),if_neg (by simp)]
    |true=>
     rw [if_neg (by simp),if_pos rfl,H5,Aa];have h4: ¬(ops[q]).aj=4:=by rcases Ax.kind with h|h|h|h<;>omega
     cases Ga ops[q] (CU ws got (ops[q]).af).1 (CU ws got (ops[q]).af).2.1 with
     |false=>rfl
     |true=>rw [if_neg (by simp),if_neg (by simpa using h2),if_neg (by simpa using h3),if_neg (by simpa using h4),if_pos rfl,Gl]
   by_cases hs:(CU ws got (ops[q]).af).2.2=true
   ·rw [if_pos hs]at hb ⊢;by_cases hk:Ga ops[q] (CU ws got (ops[q]).af).1 (CU ws got (ops[q]).af).2.1=true
    ·rw [if_pos hk]at hb ⊢;rw [E9 (body:=fun s:List Ac × Int=>Ig ops got s.1 s.2) hb];exact ih (q+1) _ (by omega) ⟨hw.cc,by omega,hw.bw⟩
    ·rw [if_neg hk]at hb ⊢;exact ED hb
   ·rw [if_neg hs]at hb ⊢;exact ED hb
 exact key ops.length 0 [] (by omega) ⟨List.Pairwise.nil,Nat.le_refl _,by simp⟩
theorem Yu {got:List BC}: ∀(l:List Az) {n:Nat} {ws:List Ac},(∀o∈l,Gc o)→DH n ws→DH (n+l.length) (Dh got l ws).2.2∧((Dh got l ws).1=1→ ∃o∈l,o.af=(Dh got l ws).2.1∧ ∀g∈got,g.af≠o.af)
 | [],n,ws,_,hw=>⟨hw,fun h=>by simp [Dh]at h⟩
 |o::l,n,ws,ho,hw=>by
  have Ax:=ho o (by simp);have hl: ∀o∈l,Gc o:=fun x hx=>ho x (by simp [hx]);have up: ∀{w:List Ac},DH (n+l.length) w→DH (n+(o::l).length) w:=fun h=>⟨h.cc,by have:=h.len;rw [Ar];omega,h.bw⟩
  rw [Dh];split
  ·obtain⟨a,b⟩:=Yu (got:=got) l hl (Kf hw (kI Ax));refine⟨⟨a.cc,by have:=a.len;rw [Ar];omega,a.bw⟩,fun h=> ?_⟩;obtain⟨x,hx,h1,h2⟩:=b h;exact⟨x,by simp [hx],h1,h2⟩
  ·split
   ·obtain⟨a,b⟩:=Yu (got:=got) l hl (Kf hw (jE Ax));refine⟨⟨a.cc,by have:=a.len;rw [Ar];omega,a.bw⟩,fun h=> ?_⟩;obtain⟨x,hx,h1,h2⟩:=b h;exact⟨x,by simp [hx],h1,h2⟩
   ·split
    ·split
     ·obtain⟨a,b⟩:=Yu (got:=got) l hl hw;refine⟨up a,fun h=> ?_⟩;obtain⟨x,hx,h1,h2⟩:=b h;exact⟨x,by simp [hx],h1,h2⟩
     ·exact⟨⟨List.Pairwise.nil,by simp,by simp⟩,fun h=>by simp at h⟩
    ·rename_i hs;refine⟨⟨List.Pairwise.nil,by simp,by simp⟩,fun _=>⟨o,by simp,rfl,fun g hg e=> ?_⟩⟩;apply hs;unfold CU;cases e1:ws.find? (fun w=>w.af==o.af)with
     |some w=>rfl
     |none=>
      unfold M0;cases e2:got.find? (fun g=>g.af==o.af)with
      |some g=>rfl
      |none=>rw [List.find?_eq_none]at e2;exact absurd (by simpa using e) (e2 g hg)
def mu (ops:List Az) (got:List BC):Nat:=(ops.filter fun o=>got.all fun g=>g.af !=o.af).length
theorem zEq {ops:List Az} {got:List BC} {g:BC} {o:Az} (ho:o∈ops) (hk:o.af=g.af) (hn: ∀x∈got,x.af≠o.af):mu ops (got++ [g])<mu ops got:=by
 unfold mu;have e:(fun o:Az=>(got++ [g]).all fun x=>x.af !=o.af)=fun o=>(got.all fun x=>x.af !=o.af)&&(g.af !=o.af):=by funext x;rw [List.all_append];simp
 have e2:ops.filter (fun o:Az=>(got++ [g]).all fun x=>x.af !=o.af)=(ops.filter fun o=>got.all fun x=>x.af !=o.af).filter fun o=>g.af !=o.af:=by rw [e,List.filter_filter];congr 1;funext x;rw [Bool.and_comm]
 rw [e2];have hm:o∈ops.filter fun o=>got.all fun x=>x.af !=o.af:=List.mem_filter.2 ⟨ho,AG.2 fun x hx=>by simpa using hn x hx⟩;generalize ops.filter (fun o=>got.all fun x=>x.af !=o.af)=l at hm;have Aq: ∀(l:List Az),o∈l→(l.filter fun o=>g.af !=o.af).length<l.length:=by
  intro l
  induction l with
  |nil=>intro h;simp at h
  |cons y l ih=>
   intro h;rw [List.filter_cons];rcases Af.1 h with rfl|h
   ·rw [if_neg (by simp [hk])];have:=List.length_filter_le (fun o:Az=>g.af !=o.af) l;rw [Ar];omega
   ·have:=ih h;split
    ·rw [Ar,Ar];omega
    ·rw [Ar];omega
 exact Aq l hm
theorem zFN (ops:List Az) (got:List BC):mu ops got≤ops.length:=List.length_filter_le _ _
def L9 (rows:List Ac) (ops:List Az):Nat→List BC→List Ac × Bool
 |0,_=>([],false)
 |n+1,got=>if(Dh got ops []).1=1 then L9 rows ops n (got++ [CT rows (Dh got ops []).2.1])else((Dh got ops []).2.2,(Dh got ops []).1==3)
structure OX (rows:List Ac):Prop where
 cc:Dc rows
 len:rows.length≤24
 bw: ∀w∈rows,CW w=true
theorem zA1 {rows:List Ac} {k:Ai} (h:OX rows):(CT rows k).ay.length≤2000∧(CT rows k).af=k:=by
 unfold CT;cases e:rows.find? (fun w=>w.af==k)with
 |some w=>have:=YG (h.bw w (List.mem_of_find?_eq_some e));exact⟨by show w.ay.length≤2000;omega,rfl⟩
 |none=>exact⟨by simp,rfl⟩
theorem yG {rows:List Ac} {ops:List Az} (hl:ops.length≤8) (ho: ∀o∈ops,Gc o) (hr:OX rows): ∀(n:Nat) (got:List BC),mu ops got<n→got.length+n≤1000→(∀g∈got,g.ay.length≤2000)→
  (∃g,AA (fun s:List BC=>Oj rows ops s) got=some (g,L9 rows ops n got))∧(∃g,AA (fun s:List BC=>Ol rows ops s) got=some (g,L9 rows ops n got))∧DH 8 (L9 rows ops n got).1
 |0,got,hm,_,_=>by omega
 |n+1,got,hm,hg,hv=>by
  have hi:=zDt (got:=got) (by omega) ho (by omega) hv;have hs:=zDH (got:=got) (by omega) ho (by omega) hv;obtain⟨ga,gb⟩:=Yu (got:=got) ops (n:=0) (ws:= []) ho ⟨List.Pairwise.nil,Nat.le_refl _,by simp⟩;have NH:=hr.len;rw [L9];generalize Dh got ops []=r at hi hs ga gb;by_cases h1:r.1=1
  ·rw [if_pos h1];obtain⟨o,hom,Ax,Jf⟩:=gb h1;obtain⟨t1,t2⟩:=zA1 (k:=r.2.1) hr;have hq:(((got).length:Int)+(([CT rows r.2.1]:List BC).length:Int))*40≤140737488355328∧((got).length:Int)+(([CT rows r.2.1]:List BC).length:Int)≤140737488355328:=by
    rw [AD];omega
   have ei:Oj rows ops got=some (.inl (got++ [CT rows r.2.1])):=by unfold Oj;rw [hi,Aa,if_neg (by simp [h1]),zBg (by omega) hr.cc,Aa,AJ hq]
   have es:Ol rows ops got=some (.inl (got++ [CT rows r.2.1])):=by unfold Ol;rw [hs,Aa,if_neg (by simp [h1]),zDb (by omega),Aa,AJ hq]
   rw [E9 (body:=fun s:List BC=>Oj rows ops s) ei,E9 (body:=fun s:List BC=>Ol rows ops s) es];refine yG hl ho hr n _ ?_ (by rw [Ao,AD];omega) fun g B1=> ?_
   ·have:=zEq (g:=CT rows r.2.1) hom (Ax.trans t2.symm) Jf;omega
   ·rcases Ah.1 B1 with h|h
    ·exact hv g h
    ·rw [List.mem_singleton]at h;subst h;exact t1
  ·rw [if_neg h1];refine⟨⟨got,ED ?_⟩,⟨got,ED ?_⟩,ga.cc,by have:=ga.len;show r.2.2.length≤8;omega,ga.bw⟩
   ·show Oj rows ops got=_;unfold Oj;rw [hi,Aa,if_pos (by simpa using h1)]
   ·show Ol rows ops got=_;unfold Ol;rw [hs,Aa,if_pos (by simpa using h1)]
def F7 (rows:List Ac) (ops:List Az):List Ac × Bool:=L9 rows ops 9 []
theorem mB {rows:List Ac} {ops:List Az} (hl:ops.length≤8) (ho: ∀o∈ops,Gc o) (hr:OX rows):(∃g,gI rows ops=some (g,F7 rows ops))∧(∃g,gC rows ops=some (g,F7 rows ops))∧DH 8 (F7 rows ops).1:=by have:=zFN ops [];exact yG hl ho hr 9 [] (by omega) (by simp) (by simp)
theorem kL {s:Ai} (h:field s=true):s.length≤3:=by unfold field at h;simp only [Ae]at h;have:=BW.1 h.1;omega
theorem mN {t:Ad} {r:AI} (h:Bl t r=true) (c:Int):(CM r c).length≤3:=by
 unfold Bl at h;simp only [Ae]at h;unfold CM;cases e:r.aw[c.toNat]? with
 |none=>simp
 |some s=>exact kL (AG.1 h.2 s (List.mem_of_getElem? e))
theorem kG {k:Nat}: ∀{xs:List Ai},(∀s∈xs,s.length≤k)→D6 xs≤k*xs.length
 | [],_=>by simp [D6]
 |s::xs,h=>by have h1:=h s (by simp);have h2:=kG (k:=k) (xs:=xs) fun y hy=>h y (by simp [hy]);simp only [D6,Ar,Nat.mul_add,Nat.mul_one];omega
theorem zBN {t:Ad} {r:AI} (hg:AZ t=true) (h:Bl t r=true):(A6 t r).af.length≤5∧(A6 t r).ay.length≤20:=by
 have hn:=QE (Ke hg);have hc:=Ij hg;have hv:=mN h 0;have h':=h;unfold Bl at h';simp only [Ae,beq_iff_eq]at h';have Di: ∀s∈r.aw,s.length≤3:=fun s hs=>kL (AG.1 h'.2 s hs);constructor
 ·unfold A6;have e:(r.aw.head?).getD []=CM r 0:=by unfold CM;rw [List.head?_eq_getElem?];rfl
  simp only [e,Ao,AD];omega
 ·have h1:=lW r.aw.tail [44];have h2:=kG (k:=3) (xs:=r.aw.tail) fun s hs=>Di s (List.mem_of_mem_tail hs);have h3:r.aw.tail.length≤3:=by rw [List.length_tail];omega
  rw [AD]at h1;show(Lib.join r.aw.tail [44]).length≤20;omega
theorem zAN {t:Ad} {n:Ai} {c:Int} {r:AI} (hg:AZ t=true) (hn:n.length=1) (h:Bl t r=true):(Cm t n c r).length≤11:=by have h1:=QE (Ke hg);have h2:=mN h c;have h3:=mN h 0;unfold Cm head;simp only [Ao,AD];omega
theorem yE {α β:Type} {P:β→Prop} {f:α→List β}: ∀(xs:List α) (a:List β),(∀x∈xs,∀o∈f x,P o)→(∀o∈a,P o)→ ∀o∈xs.foldl (fun a x=>a++f x) a,P o
 | [],a,_,h=>h
 |x::xs,a,hf,h=>yE xs (a++f x) (fun y hy=>hf y (by simp [hy])) fun o ho=>by
  rcases Ah.1 ho with ho|ho
  ·exact h o ho
  ·exact hf x (by simp) o ho
theorem w8 {α β:Type} {f:α→List β} (hf: ∀x,(f x).length≤2): ∀(xs:List α) (a:List β),(xs.foldl (fun a x=>a++f x) a).length≤a.length+2*xs.length
 | [],a=>by simp
 |x::xs,a=>by have h1:=w8 hf xs (a++f x);have h2:=hf x;rw [Ao]at h1;rw [List.foldl_cons,Ar];omega
def Me (s:Ai):Prop:= ∀b∈s,(EG b||([46,47]:Ai).contains b)=true
def qY (s:Ai):Prop:= ∀b∈s,(EG b||([46,45,44,95]:Ai).contains b)=true
theorem zzD {s:Ai} (h:field s=true): ∀b∈s,EG b=true:=by unfold field JB at h;simp only [Ae]at h;intro b hb;have:=AG.1 h.2 b hb;simpa using this
theorem QF {s:Ai} {k:Int} (h:Cl s k=true): ∀b∈s,EG b=true:=by unfold Cl at h;simp only [Ae]at h;intro b hb;have:=AG.1 h.1 b hb;unfold small at this;unfold EG;simp only [Bool.not_eq_true',Bool.or_eq_false_iff,decide_eq_false_iff_not]at this;simp only [Bool.or_eq_true,Ae,decide_eq_true_eq];left;omega
theorem QJ {s:Ai} (h: ∀b∈s,EG b=true):Me s:=fun b hb=>by rw [h b hb];rfl
theorem Me.app {s u:Ai} (h:Me s) (k:Me u):Me (s++u):=fun b hb=>by
 rcases Ah.1 hb with hb|hb
 ·exact h b hb
 ·exact k b hb
theorem zF5:Me [46]:=fun b hb=>by rw [List.mem_singleton]at hb;subst hb;decide
theorem cZ:Me [47]:=fun b hb=>by rw [List.mem_singleton]at hb;subst hb;decide
theorem vO {s:Ai} (h1:1≤s.length) (h2:s.length≤12) (h:Me s):Du s=true:=by unfold Du JB;rw [BW.2 ⟨by omega,by omega⟩,AG.2 h];rfl
theorem zxO {s:Ai} (h2:s.length≤24) (h:qY s):Gs s=true:=by unfold Gs JB;rw [show decide ((s.length:Int)≤24)=true by simp;omega,AG.2 h];rfl
theorem zBL {xs:List Ai} (h: ∀x∈xs,∀b∈x,EG b=true):qY (Lib.join xs [44]):=by
 cases xs with
 |nil=>intro b hb;simp [Lib.join_nil]at hb
 |cons x r=>
  intro b hb;rw [Lib.join_cons]at hb;rcases Ah.1 hb with hb|hb
  ·rw [h x (by simp) b hb];rfl
  ·unfold Lib.joinTail at hb;obtain⟨l,hl,hbl⟩:=List.mem_flatten.1 hb;obtain⟨y,hy,rfl⟩:=List.mem_map.1 hl;rcases Ah.1 hbl with hb|hb
   ·rw [List.mem_singleton]at hb;subst hb;decide
   ·rw [h y (by simp [hy]) b hb];rfl
theorem iZ {t:Ad} {r:AI} (h:Bl t r=true): ∀x∈r.aw,∀b∈x,EG b=true:=by unfold Bl at h;simp only [Ae]at h;exact fun x hx=>zzD (AG.1 h.2 x hx)
theorem Ra {t:Ad} {r:AI} (h:Bl t r=true) (c:Int): ∀b∈CM r c,EG b=true:=by
 unfold CM;cases e:r.aw[c.toNat]? with
 |none=>simp
 |some s=>exact iZ h s (List.mem_of_getElem? e)
theorem Us {t:Ad} {r:AI} (hg:AZ t=true) (h:Bl t r=true):Du (A6 t r).af=true∧Gs (A6 t r).ay=true:=by
 have hl:=zBN hg h;have e:(A6 t r).af=t.ab++ [47]++CM r 0:=by unfold A6 CM;rw [List.head?_eq_getElem?];rfl
 refine⟨vO ?_ (by omega) ?_,zxO (by omega) ?_⟩
 ·rw [e];simp;omega
 ·rw [e];exact((QJ (QF (Ke hg))).app cZ).app (QJ (Ra h 0))
 ·exact zBL fun x hx=>iZ h x (List.mem_of_mem_tail hx)
theorem Yv {t:Ad} {n:Ai} {c:Int} {r:AI} (hg:AZ t=true) (hn:Cl n 1=true) (h:Bl t r=true):Du (Cm t n c r)=true:=by
 have hl:=zAN (c:=c) hg (QE hn) h;refine vO ?_ (by omega) ?_
 ·unfold Cm;simp;omega
 ·unfold Cm head;exact((((((QJ (QF (Ke hg))).app zF5).app (QJ (QF hn))).app cZ).app (QJ (Ra h c))).app cZ).app (QJ (Ra h 0))
theorem xH {t:Ad} {a:A2} (hg:AZ t=true) (h:Hb t a=true):(Fg t a).length≤8∧ ∀o∈Fg t a,Gc o:=by
 have ho:a.aj≠1→Bl t a.bd=true:=fun h1=>by
  unfold Hb at h;rw [if_neg h1]at h;by_cases h2:a.aj=2
  ·rw [if_pos h2,Ae]at h;exact h.1
  rw [if_neg h2]at h;by_cases h3:a.aj=3
  ·rw [if_pos h3,Ae]at h;exact h.1
  rw [if_neg h3]at h;cases h
 have hn:a.aj≠2→Bl t a.bj=true:=fun h2=>by
  unfold Hb at h;by_cases h1:a.aj=1
  ·rw [if_pos h1,Ae]at h;exact h.2
  rw [if_neg h1,if_neg h2]at h;by_cases h3:a.aj=3
  ·rw [if_pos h3,Ae,Ae]at h;exact h.2.1
  rw [if_neg h3]at h;cases h
 have hc:=Ij hg;have v0:Gs ([]:Ai)=true:=by decide
 constructor
 ·have h1:=w8 (jH t a) t.ae (Kh t a);rw [iI]at h1;unfold Fg;omega
 ·refine yE _ _ (fun x hx o hm=> ?_) (fun o hm=> ?_)
  ·have ID:=(Fc hg hx).1;unfold Gt Kj IN at hm;rcases Ah.1 hm with hm|hm
   ·split at hm
    ·rename_i q;rw [List.mem_singleton]at hm;subst hm;refine⟨?_,v0,rfl,by simp,fun _=>rfl⟩;show Du (EM t a x)=true;unfold EM at q ⊢;by_cases h1:a.aj=1
     ·rw [if_pos h1]at q;exact absurd rfl q.1
     ·rw [if_neg h1];exact Yv hg ID (ho h1)
    ·simp at hm
   ·split at hm
    ·rename_i q;rw [List.mem_singleton]at hm;subst hm;refine⟨?_,v0,rfl,by simp,fun _=>rfl⟩;show Du (D9 t a x)=true;unfold D9 at q ⊢;by_cases h1:a.aj=2
     ·rw [if_pos h1]at q;exact absurd rfl q.1
     ·rw [if_neg h1];exact Yv hg ID (hn h1)
    ·simp at hm
  ·unfold Kh at hm;split at hm
   ·rename_i q;have w:=Us hg (hn (by omega));simp only [Af,List.not_mem_nil,or_false]at hm;rcases hm with rfl|rfl
    ·exact⟨w.1,v0,rfl,by simp,fun _=>rfl⟩
    ·exact⟨w.1,w.2,rfl,by simp,fun k=>by simp at k⟩
   ·rename_i q1;have w1:=Us hg (ho q1);split at hm
    ·simp only [Af,List.not_mem_nil,or_false]at hm;rcases hm with rfl|rfl
     ·exact⟨w1.1,w1.2,rfl,by simp,fun k=>by simp at k⟩
     ·exact⟨w1.1,v0,rfl,by simp,fun _=>rfl⟩
    ·rename_i q2;have w2:=Us hg (hn q2);simp only [Af,List.not_mem_nil,or_false]at hm;rcases hm with rfl|rfl
     ·exact⟨w1.1,w1.2,rfl,by simp,fun k=>by simp at k⟩
     ·exact⟨w1.1,w2.2,rfl,by simp,fun k=>by simp at k⟩
theorem OC {l:List Ac} (h:D5 l=true):OX l∧ ∀w∈l,w.bb=false:=by unfold D5 at h;rw [Ae]at h;have hr:=zql h.1;have h1:=h.1;unfold Jx at h1;simp only [Ae,decide_eq_true_eq]at h1;exact⟨⟨hr,by omega,AG.1 h1.2.1⟩,fun w hw=>by simpa using AG.1 h.2 w hw⟩
theorem Yh {l:List Ac} (hr:Dc l) (hg: ∀w∈l,CW w=true) (hn: ∀w∈l,w.bb=false):D5 l=decide ((l.length:Int)≤24):=by
 have h1:Kp (l.map (·.af))=true:=by rw [iL,Yj];exact(YJ (r:=fun a b:Ac=>bl a.af b.af) fun a b c p q=>II p q).2 hr
 unfold D5 Jx;rw [h1,AG.2 hg,show(l.all fun w=> !w.bb)=true from AG.2 fun w hw=>by rw [hn w hw];rfl];simp
theorem gK {l:List Ac} (hl:l.length≤2000000) (hg: ∀w∈l,CW w=true):JE l:=
 ⟨hl,fun w hw=>⟨by have:=wW (hg w hw);omega,by have:=YG (hg w hw);omega⟩⟩
def Ew (rows ws:List Ac):List Ac:=(ws.foldl (fun o w=>BA wk w o) rows).filter fun w=> !w.bb
theorem pB: ∀(ws:List Ac) {n:Nat} {rows:List Ac},DH n rows→(∀w∈ws,CW w=true)→DH (n+ws.length) (ws.foldl (fun o w=>BA wk w o) rows)
 | [],n,rows,h,_=>h
 |w::ws,n,rows,h,hw=>by have:=pB ws (Kf h (hw w (by simp))) fun y hy=>hw y (by simp [hy]);exact⟨this.cc,by have:=this.len;rw [Ar];rw [List.foldl_cons];omega,this.bw⟩
theorem vV {rows ws:List Ac} (hr:OX rows) (hw:DH 8 ws):Dc (Ew rows ws)∧(Ew rows ws).length≤32∧(∀w∈Ew rows ws,CW w=true)∧ ∀w∈Ew rows ws,w.bb=false:=by have h:=pB ws (n:=24) (rows:=rows) ⟨hr.cc,hr.len,hr.bw⟩ hw.bw;have hl:=hw.len;unfold Ew;refine⟨DO.filter h.cc _,Nat.le_trans (List.length_filter_le _ _) (by have:=h.len;omega),fun w hm=>h.bw w (List.mem_filter.1 hm).1,fun w hm=>by simpa using(List.mem_filter.1 hm).2⟩
theorem zxE {rows ws:List Ac} (hr:OX rows) (hw:DH 8 ws):XH rows ws=some (if(Ew rows ws).length>24 then([],false)else(Ew rows ws,true)):=by
 have NH:=hr.len;have L2:=hw.len;have hc:Oc rows=some rows:=OL (by omega) (by omega);unfold XH;rw [hc,Aa];have h1:=Ft (xs:=ws) (body:=fun s:Int × List Ac=>Qj ws s.1 s.2) (fun i (o:List Ac)=>(i,o)) (fun o w=>BA wk w o) (fun o=>fG o) (fun i o=>DH (24+i) o)
  (fun i hi o hI=>by have hI:DH (24+i) o:=hI;have hol:=hI.len;refine⟨?_,Kf hI (hw.bw _ (List.getElem_mem hi))⟩;show Qj ws i o=_;unfold Qj;rw [if_pos (by simpa using hi),AO hi,Aa,jC (by omega) hI.cc,Aa,Bi hi (by omega)])
  (fun o hI=>by show Qj ws ws.length o=_;unfold Qj;rw [if_neg (by simp)]) (s:=rows) ⟨hr.cc,hr.len,hr.bw⟩
 rw [h1.1];have hK:DH (24+ws.length) (ws.foldl (fun o w=>BA wk w o) rows):=h1.2;have Gh:=hK.len;unfold fG Ox;rw [AJ (by omega),jP (p:=fun y0_=>fR y0_) (fun w:Ac=>w.bb) (fun w _=>rfl),Aa];show(if decide (((Ew rows ws).length:Int)>24)=true then _ else _)=_;by_cases hq:(Ew rows ws).length>24
 ·rw [if_pos (decide_eq_true (by omega)),if_pos hq]
 ·rw [if_neg (by rw [decide_eq_true_eq];omega),if_neg hq];rfl
theorem zyl {rows ws:List Ac} (hr:OX rows) (hw:DH 8 ws):Xu rows ws=some (Ew rows ws):=by
 have NH:=hr.len;have L2:=hw.len;have hq:((([]:List Ac).length:Int)+((rows).length:Int))*40≤140737488355328∧(([]:List Ac).length:Int)+((rows).length:Int)≤140737488355328:=by rw [List.length_nil];omega
 unfold Xu;rw [AJ hq];have h1:=Ft (xs:=ws) (body:=fun s:Int × List Ac=>PU ws s.1 s.2) (fun i (o:List Ac)=>(i,o)) (fun o w=>BA wk w o) (fun o=>eV o) (fun i o=>DH (24+i) o)
  (fun i hi o hI=>by have hI:DH (24+i) o:=hI;have hol:=hI.len;refine⟨?_,Kf hI (hw.bw _ (List.getElem_mem hi))⟩;show PU ws i o=_;unfold PU;rw [if_pos (by simpa using hi),AO hi,Aa,JC (by omega) hI.cc,Aa,Bi hi (by omega)])
  (fun o hI=>by show PU ws ws.length o=_;unfold PU;rw [if_neg (by simp)]) (s:=rows) ⟨hr.cc,hr.len,hr.bw⟩
 rw [h1.1];have hK:DH (24+ws.length) (ws.foldl (fun o w=>BA wk w o) rows):=h1.2;have Gh:=hK.len;unfold Ew;generalize ws.foldl (fun o w=>BA wk w o) rows=l at Gh;unfold eV;have h2:=Ft (xs:=l) (body:=fun s:List Ac × Int=>P1 l s.1 s.2) (fun i (o:List Ac)=>(o,i)) (fun o w=>if(!w.bb)=true then o++ [id w]else o) (fun o=>some o) (fun i o=>o.length≤i)
  (fun i hi o hI=>by
   have hI:o.length≤i:=hI;have hr:(((o).length:Int)+(([l[i]]:List Ac).length:Int))*40≤140737488355328∧((o).length:Int)+(([l[i]]:List Ac).length:Int)≤140737488355328:=by rw [AD];omega
   refine⟨?_,by show List.length _≤_;split;rw [Ao,AD];omega;omega⟩;show P1 l o i=_;unfold P1;rw [if_pos (by simpa using hi),AO hi,Aa,Bi hi (by omega)];cases(!(l[i]).bb)with
   |false=>rfl
   |true=>rw [if_pos rfl,AJ hr];rfl)
  (fun o _=>by show P1 l o l.length=_;unfold P1;rw [if_neg (by simp)]) (s:= []) (Nat.le_refl _)
 refine h2.1.trans ?_;rw [QI (fun w:Ac=> !w.bb) id l []];simp
def Ef (st:List Ac) (ops:List Az):List Ac × Bool:=if(F7 st ops).2=true∧(Ew st (F7 st ops).1).length≤24 then(Ew st (F7 st ops).1,true)else(st,false)
theorem zAw {st:List Ac} {ops:List Az} (hl:ops.length≤8) (ho: ∀o∈ops,Gc o) (hg:D5 st=true):XW st ops=some (Ef st ops):=by
 obtain⟨hr,_⟩:=OC hg;obtain⟨⟨g,e⟩,_,hw⟩:=mB hl ho hr;have NH:=hr.len;have hq:((([]:List Ac).length:Int)+((st).length:Int))*40≤140737488355328∧(([]:List Ac).length:Int)+((st).length:Int)≤140737488355328:=by rw [List.length_nil];omega
 unfold XW Ef;rw [e,Aa,zxE hr hw,Aa];cases h1:(F7 st ops).2 with
 |false=>rw [if_pos (by simp),AJ hq,if_neg (by simp)]
 |true=>
  by_cases h2:(Ew st (F7 st ops).1).length>24
  ·rw [if_pos h2,if_pos (by simp),AJ hq,if_neg (by omega)]
  ·rw [if_neg h2,if_neg (by simp),if_pos ⟨rfl,by omega⟩]
theorem zyj {ops:List Az} (hl:ops.length≤8) (ho: ∀o∈ops,Gc o):XX ops=some true:=by
 have h1: ∀o:Az,Gc o→Ye o=some true:=by
  intro o h;have hk:=wR h.key;have hv:=wO h.val;unfold Ye gB;rw [qC (by omega),Aa,h.key,if_neg (by simp)];rcases h.kind with k|k|k|k
  ·rw [k];simp [cJ (s:=o.ay) (by omega),h.val,h.nj]
  ·have:=h.none (.inl k);rw [k];simp [this,h.nj]
  ·have:=h.none (.inr k);rw [k];simp [this,h.nj]
  ·rw [k];simp [cJ (s:=o.ay) (by omega),h.val,h.nj]
 unfold XX;rw [La (xs:=ops) (body:=fun s:Int=>P7 ops s) (fun _=>true) false (fV ops) (fun i hi=>by
  show P7 ops i=_;unfold P7;rw [if_pos (by simpa using hi),AO hi,Aa,h1 _ (ho _ (List.getElem_mem hi)),Aa,if_neg (by simp),Bi hi (by omega),if_pos rfl]) (by
  show P7 ops ops.length=_;unfold P7;rw [if_neg (by simp)]),if_pos (AG.2 fun _ _=>rfl)]
 unfold fV;simp;omega
theorem qM {st:List Ac} {ops:List Az} (hl:ops.length≤8) (ho: ∀o∈ops,Gc o) (hg:D5 st=true):Yb st ops=some (Ef st ops):=by
 obtain⟨hr,_⟩:=OC hg;obtain⟨_,⟨g,e⟩,hw⟩:=mB hl ho hr;have NH:=hr.len;have hq:((([]:List Ac).length:Int)+((st).length:Int))*40≤140737488355328∧(([]:List Ac).length:Int)+((st).length:Int)≤140737488355328:=by rw [List.length_nil];omega
 have JW: ∀b:Bool,((([]:List Bool).length:Int)+(([b]:List Bool).length:Int))*1≤140737488355328∧(([]:List Bool).length:Int)+(([b]:List Bool).length:Int)≤140737488355328:=by intro b;rw [List.length_nil,AD];omega
 obtain⟨p1,p2,p3,p4⟩:=vV hr hw;have hv7:J8 (Ew st (F7 st ops).1)=some (decide (((Ew st (F7 st ops).1).length:Int)≤24)):=by rw [MG (gK (by omega) p3),Yh p1 p3 p4]
 have F1:IntKind.i64.wrap ((0:Int)+1)=1:=by decide
 have key:Xs st [ops]=some ((Ef st ops).1, [(Ef st ops).2],true):=by
  unfold Xs;rw [MG (gK (by omega) hr.bw),Aa,hg,if_neg (by simp)];have b0:Og st [ops] 0=some (.inl 1):=by unfold Og;rw [if_pos (by simp),show getI [ops] 0=some ops from rfl,Aa,zyj hl ho,Aa,if_neg (by simp),F1]
  have b1:Og st [ops] 1=some (.inr (eZ st [ops])):=by unfold Og;rw [if_neg (by simp)]
  rw [E9 (body:=fun s:Int=>Og st [ops] s) b0,ED (body:=fun s:Int=>Og st [ops] s) b1];unfold eZ;rw [AJ hq];have c0:Oh [ops] [] 0 st=some (.inl ([(Ef st ops).2],1,(Ef st ops).1)):=by
   unfold Oh Ef;rw [if_pos (by simp),show getI [ops] 0=some ops from rfl,Aa,e,Aa,zyl hr hw,Aa];cases h1:(F7 st ops).2 with
   |false=>rw [if_neg (by simp),AJ (JW _),if_neg (by simp),F1];rfl
   |true=>
    rw [if_pos rfl,hv7,Aa];by_cases h2:(Ew st (F7 st ops).1).length≤24
    ·have h3:decide (((Ew st (F7 st ops).1).length:Int)≤24)=true:=by simp;omega
     rw [h3,if_pos rfl,AJ (JW _),if_pos ⟨rfl,h2⟩,F1];rfl
    ·have h3:decide (((Ew st (F7 st ops).1).length:Int)≤24)=false:=by simp;omega
     rw [h3,if_neg (by simp),AJ (JW _),if_neg (by omega),F1];rfl
  have c1: ∀(bs:List Bool) (l:List Ac),Oh [ops] bs 1 l=some (.inr (some (l,bs,true))):=by intro bs l;unfold Oh;rw [if_neg (by simp)]
  rw [E9 (body:=fun s:List Bool × Int × List Ac=>Oh [ops] s.1 s.2.1 s.2.2) c0,ED (body:=fun s:List Bool × Int × List Ac=>Oh [ops] s.1 s.2.1 s.2.2) (c1 _ _)]
 unfold Yb;rw [key,Aa,if_pos (by simp)];rfl
theorem zCd {st:List Ac} {ops:List Az} (hl:ops.length≤8) (ho: ∀o∈ops,Gc o) (hg:D5 st=true):D5 (Ef st ops).1=true:=by
 obtain⟨hr,_⟩:=OC hg;obtain⟨_,_,hw⟩:=mB hl ho hr;obtain⟨p1,p2,p3,p4⟩:=vV hr hw;unfold Ef;split
 ·rename_i h;show D5 (Ew st (F7 st ops).1)=true;rw [Yh p1 p3 p4];have:=h.2;simp;omega
 ·exact hg
theorem Yp {c:UInt8}: ∀{p q:Ai},(∀b∈p,b≠c)→BQ c (p++ [c]++q)=p::BQ c q:=fun{p q} h=>by rw [List.append_assoc];exact My h
theorem OV {b:UInt8} (h:EG b=true):b≠47∧b≠44∧b≠46:=by refine⟨?_, ?_, ?_⟩<;>(rintro rfl;revert h;decide)
theorem zC6 {t:Ad} {n:Ai} (hg:AZ t=true) (hn:Cl n 1=true): ∀b∈head t n,b≠47:=by
 intro b hb;unfold head at hb;simp only [Ah,List.mem_singleton]at hb;rcases hb with(hb|hb)|hb
 ·exact(OV (QF (Ke hg) b hb)).1
 ·subst hb;decide
 ·exact(OV (QF hn b hb)).1
theorem QT {t:Ad} {n:Ai} {c:Int} {r:AI} (hg:AZ t=true) (hn:Cl n 1=true) (h:Bl t r=true):BQ 47 (Cm t n c r)= [head t n,CM r c,CM r 0]:=by unfold Cm;rw [show head t n++ [47]++CM r c++ [47]++CM r 0=head t n++ [47]++(CM r c++ [47]++CM r 0) by simp,Yp (zC6 hg hn),Yp fun b hb=>(OV (Ra h c b hb)).1,K5 fun b hb=>(OV (Ra h 0 b hb)).1]
theorem Jy (t:Ad) (r:AI):(A6 t r).af=t.ab++ [47]++CM r 0:=by unfold A6 CM;rw [List.head?_eq_getElem?];rfl
theorem wG {t:Ad} {r:AI} (hg:AZ t=true) (h:Bl t r=true):BQ 47 (A6 t r).af= [t.ab,CM r 0]:=by rw [Jy,Yp fun b hb=>(OV (QF (Ke hg) b hb)).1,K5 fun b hb=>(OV (Ra h 0 b hb)).1]
theorem zyA {t:Ad} {n:Ai} {r:AI} (hg:AZ t=true) (h:Bl t r=true):Dn t n (A6 t r).af=false:=by unfold Dn;rw [wG hg h]
theorem wY {t:Ad} {r:AI} {c:Int} (h:Bl t r=true) (h0:0≤c) (h1:c≤(t.al.length:Int)-1):field (CM r c)=true:=by
 unfold Bl at h;simp only [Ae,beq_iff_eq]at h;have hl:c.toNat<r.aw.length:=by have:=h.1;omega
 unfold CM;rw [List.getElem?_eq_getElem hl];exact AG.1 h.2 _ (List.getElem_mem hl)
theorem YF {t:Ad} {n m:Ai} {c:Int} {r:AI} (hg:AZ t=true) (hm:Cl m 1=true) (h:Bl t r=true) (h0:0≤c) (h1:c≤(t.al.length:Int)-1):Dn t n (Cm t m c r)=decide (m=n):=by
 have hc:=Ij hg;unfold Dn;rw [QT hg hm h];simp only [wY h h0 h1,wY h (show(0:Int)≤0 by omega) (by omega),Bool.and_true];rw [Bool.eq_iff_iff];simp only [beq_iff_eq,decide_eq_true_eq];unfold head;constructor
 ·intro e;exact List.append_cancel_left e
 ·rintro rfl;rfl
theorem zwu {t:Ad} {n:Ai} {c:Int} {r r':AI} (hg:AZ t=true) (hn:Cl n 1=true) (h:Bl t r=true) (h':Bl t r'=true) (e:Cm t n c r=Cm t n c r'):CM r 0=CM r' 0:=by have h1:=QT (c:=c) hg hn h;rw [e,QT hg hn h']at h1;simp only [List.cons.injEq,and_true]at h1;exact h1.2.2.symm
theorem Yi {t:Ad} {n:Ai} {c:Int} {r r':AI} (hg:AZ t=true) (hn:Cl n 1=true) (h:Bl t r=true) (h':Bl t r'=true):(A6 t r).af≠Cm t n c r':=by intro e;have h1:=wG hg h;rw [e,QT hg hn h']at h1;simp at h1
theorem zxX {xs:List Ai} (hx:xs≠ []) (h: ∀x∈xs,∀b∈x,b≠44):BQ 44 (Lib.join xs [44])=xs:=by
 induction xs with
 |nil=>exact absurd rfl hx
 |cons x r ih=>
  cases r with
  |nil=>rw [Lib.join_one,K5 (h x (by simp))]
  |cons y r=>
   have e:Lib.join (x::y::r) [44]=x++ [44]++Lib.join (y::r) [44]:=by rw [Lib.join_cons,Lib.join_cons];simp [Lib.joinTail]
   rw [e,Yp (h x (by simp)),ih (by simp) fun z hz=>h z (by simp [hz])]
theorem Ux {t:Ad} {r:AI} (hg:AZ t=true) (h:Bl t r=true):Cy (A6 t r)=r:=by
 have hc:=Ij hg;have hn:=QE (Ke hg);have hl:=h;unfold Bl at hl;simp only [Ae,beq_iff_eq]at hl;have hf:=iZ h;obtain⟨vs⟩:=r;cases vs with
 |nil=>simp at hl;omega
 |cons v vs=>
  have A9:vs≠ []:=by rintro rfl;simp at hl;omega
  unfold Cy A6;simp only [List.head?_cons,Option.getD_some,List.tail_cons];rw [zxX A9 fun x hx b hb=>(OV (hf x (by simp [hx]) b hb)).2.1];congr 1;congr 1;have:(t.ab++ [47]++v).drop 2=v:=by rw [List.drop_append_of_le_length (by simp [hn])];rw [List.drop_of_length_le (by simp [hn])];rfl
  exact this
theorem cK {t:Ad} {r:AI} (hg:AZ t=true) (h:Bl t r=true):CS t (A6 t r)=true:=by unfold CS;rw [Ux hg h,h];unfold JJ;simp
theorem MD {t:Ad} {w:Ac} (h:CS t w=true):Bl t (Cy w)=true∧w=A6 t (Cy w):=by unfold CS JJ at h;simp only [Ae,beq_iff_eq]at h;obtain⟨h1,h2,h3,h4⟩:=h;refine⟨h1, ?_⟩;cases w;cases hq:A6 t (Cy _);rename_i a b c d e f;rw [hq]at h2 h3 h4;simp only at h2 h3 h4;rw [h2,h3,h4]
def HQ (t:Ad) (a:A2):List Ac:=
 if a.aj=1 then [⟨(A6 t a.bj).af,(A6 t a.bj).ay,false⟩]else
 if a.aj=2 then [⟨(A6 t a.bd).af, [],true⟩]else [⟨(A6 t a.bd).af,(A6 t a.bj).ay,false⟩]
def He (t:Ad) (a:A2) (x:Au):List Ac:=
 (if EM t a x≠ []∧EM t a x≠D9 t a x∧x.ak≥1 then [⟨EM t a x, [],true⟩]else [])++(if D9 t a x≠ []∧x.ak≥2 then [⟨D9 t a x, [],false⟩]else [])
def D8 (t:Ad) (a:A2):List Ac:=HQ t a++t.ae.flatMap (He t a)
def U5 (t:Ad) (a:A2) (st st':List Ac):Prop:=
 ∀y,y∈st'↔y.bb=false∧(y∈D8 t a∨y∈st∧ ∀w∈D8 t a,w.af≠y.af)
def Wa (t:Ad) (a:A2) (st:List Ac):Prop:=
 (a.aj=1→ ∀w∈st,w.af≠(A6 t a.bj).af)∧(a.aj≠1→A6 t a.bd∈st)
theorem Ih {t:Ad} (h:AZ t=true):CJ t:=by
 have hn:=(J9 (Ke h)).1;have h0:=h;unfold AZ at h;simp only [Ae,decide_eq_true_eq]at h;have hl:=BW.1 h.1.1.2.2;have hc:=h.1.1.2.1;refine⟨by omega,by omega,fun c hm=> ?_,by omega,fun x hx=> ?_⟩
 ·obtain⟨i,hi,rfl⟩:=List.mem_iff_getElem.1 hm;unfold Kn at hc;have:=AG.1 hc i (List.mem_range.2 hi);unfold MT at this;rw [List.getElem?_eq_getElem hi]at this;simp only [Option.getD_some,Ae]at this;have:=(J9 this.1).1;omega
 ·have:=(J9 (Fc h0 hx).1).1;omega
structure Kk (l:List Ai):Prop where
 len:l.length≤10
 each: ∀s∈l,s.length≤10
theorem Kk.small {l:List Ai} (h:Kk l):Small l:=⟨by have:=h.len;omega,by
 have h1:=kG h.each;have h2:=h.len;have h3:10*l.length≤100:=by omega
 omega⟩
theorem Mv {t:Ad} {r:AI} (hg:AZ t=true) (h:Bl t r=true):Kk r.aw∧2≤r.aw.length:=by
 have VB:=Ij hg;have h4:t.al.length≤4:=by have:=hg;unfold AZ at this;simp only [Ae,decide_eq_true_eq]at this;have:=BW.1 this.1.1.2.2;omega
 unfold Bl at h;rw [Ae,beq_iff_eq]at h;exact⟨⟨by omega,fun s hs=>by have:=kL (AG.1 h.2 s hs);omega⟩,by omega⟩
theorem UB {k v:Ai} (h1:Du k=true) (h2:Gs v=true):CW ⟨k,v,false⟩=true:=by unfold CW HO;rw [h1,h2];rfl
theorem zyq {t:Ad} {r:AI} (hg:AZ t=true) (h:Bl t r=true):Kt t r:=⟨by have h1:=h;unfold Bl at h1;rw [Ae,beq_iff_eq]at h1;omega,(Mv hg h).1.small⟩
theorem jB {t:Ad} {l:List Ac} {r:AI} (h:r∈rows t l):Bl t r=true:=by unfold rows at h;obtain⟨w,hw,rfl⟩:=List.mem_map.1 h;exact(MD (List.mem_filter.1 hw).2).1
theorem uN {t:Ad} {x:Au} {r:AI} (hg:AZ t=true) (hx:x∈t.ae) (hr:Bl t r=true):K4 t x r=some (Cm t x.ab x.bh r)∧CW ⟨Cm t x.ab x.bh r, [],false⟩=true:=by have hS:=Ih hg;exact⟨YW hS.name (hS.idx x hx) (YR hg hx) (zyq hg hr),UB (Yv hg (Fc hg hx).1 hr) (by decide)⟩
theorem QM {w:Ac} (h:CW w=true):F8 w:=⟨by have:=wW h;omega,by have:=YG h;omega⟩
theorem It [Inhabited BX] {c:An} {k:Int} (l:List Ai) (hl:l≠ []) (h:AU c k) (hk:k≤4611686018427387000):A5 (F3 c l) fun p=>p.1∈l∧AU p.2 (k+2):=by unfold F3;have FY:0<l.length:=List.length_pos_iff.2 hl;refine(CI l.length h hk).bind fun p ⟨hp,hc⟩=> ?_;exact A5.bind (P:=fun y=>y∈l) (.getI hp.1 (hp.2.1 (by omega)) fun x hx=>hx) fun y hy=> .ret ⟨hy,hc⟩
def Ic:List Ai:= [[105], [106], [109]]
structure qQ (w:Int) (x:Au):Prop where
 c1:1≤x.bh
 c2:x.bh≤w
 s0:0≤x.ak
 s3:x.ak≤3
structure TI (w:Int) (q:Nat) (l:List Au):Prop where
 x: ∀x∈l,qQ w x
 nm: ∀x∈l,x.ab∈Ic.take q
 up:l.Pairwise fun a b=>Op.bytesLess a.ab b.ab=true
 len:l.length≤q
theorem zD7: ∀{q:Nat},q<3→ ∀a∈Ic.take q,Op.bytesLess a ((Ic[q]?).getD [])=true:=by
 intro q hq;have:q=0∨q=1∨q=2:=by omega
 rcases this with rfl|rfl|rfl<;>decide
theorem zE {q:Nat} {a:Ai} (h:a∈Ic.take q):a∈Ic.take (q+1):=by rw [List.take_add_one];exact Ah.2 (.inl h)
theorem TI.add {w:Int} {q:Nat} {l:List Au} {x:Au} (h:TI w q l) (hq:q<3) (hx:qQ w x) (hn:x.ab=(Ic[q]?).getD []):TI w (q+1) (l++ [x]):=by
 refine⟨fun y hy=> ?_,fun y hy=> ?_, ?_, ?_⟩
 ·rcases Ah.1 hy with hy|hy
  ·exact h.x y hy
  ·rw [List.mem_singleton.1 hy];exact hx
 ·rcases Ah.1 hy with hy|hy
  ·exact zE (h.nm y hy)
  ·rw [List.mem_singleton.1 hy,hn,List.take_add_one];refine Ah.2 (.inr ?_);have:q<Ic.length:=hq;rw [List.getElem?_eq_getElem this];simp
 ·refine List.pairwise_append.2 ⟨h.up,List.pairwise_singleton _ _,fun a ha b hb=> ?_⟩;rw [List.mem_singleton.1 hb,hn];exact zD7 hq _ (h.nm a ha)
 ·have:=h.len;rw [Ao,AD];omega
theorem TI.more {w:Int} {q:Nat} {l:List Au} (h:TI w q l):TI w (q+1) l:=⟨h.x,fun y hy=>zE (h.nm y hy),h.up,by have:=h.len;omega⟩
theorem zxT {nm:Ai} {cs:List Ai} {l:List Au} (hn:nm∈([[116], [117]]:List Ai)) (hc:Kn cs=true) (h2:2≤cs.length) (h4:cs.length≤4) (h:TI ((cs.length:Int)-1) 3 l):AZ ⟨nm,cs,l⟩=true:=by
 unfold AZ;have e1:Cl nm 1=true:=by simp only [Af,List.not_mem_nil,or_false]at hn;rcases hn with rfl|rfl<;>decide
 have hl:=h.len;simp only [e1,hc,Bool.true_and,Ae,decide_eq_true_eq];refine⟨⟨BW.2 ⟨by omega,by omega⟩,by omega⟩,AG.2 fun i hi=> ?_⟩;have hi:=List.mem_range.1 hi;unfold Hg;have ex:(l[i]?).getD ⟨[],0,0⟩=l[i]:=by rw [List.getElem?_eq_getElem hi];rfl
 dsimp only;rw [ex];have hm:=List.getElem_mem hi;have hx:=h.x _ hm;have DK:Cl l[i].ab 1=true:=by have:=h.nm _ hm;have e:Ic.take 3=Ic:=rfl;rw [e]at this;unfold Ic at this;simp only [Af,List.not_mem_nil,or_false]at this;rcases this with e|e|e<;>rw [e]<;>decide
 rw [DK,BW.2 ⟨hx.c1,hx.c2⟩,BW.2 ⟨hx.s0,hx.s3⟩];simp only [Bool.true_and,Bool.or_eq_true,beq_iff_eq];by_cases h0:i=0
 ·exact .inl h0
 ·refine .inr ?_;have hp:i-1<l.length:=by omega
  have ep:(l[i-1]?).getD ⟨[],0,0⟩=l[i-1]:=by rw [List.getElem?_eq_getElem hp];rfl
  rw [ep];exact(List.pairwise_iff_getElem.1 h.up) (i-1) i hp hi (by omega)
def Ru:List Ai:= [[107], [97], [98], [99,99]]
theorem YK {p:Int} (h0:0≤p) (h3:p<3):Kn (A7 Ru 0 (IntKind.i64.wrap (2+p)))=true∧(((A7 Ru 0 (IntKind.i64.wrap (2+p))).length:Nat):Int)=2+p:=by
 rw [Bh (by omega) (by omega)];have:p=0∨p=1∨p=2:=by omega
 rcases this with rfl|rfl|rfl<;>exact⟨by decide,by decide⟩
theorem iH [Inhabited BX] {v2:Int × An} {q:Nat} {l:List Au} {y:Ai} {a:List Int} {b e k:Int} {t:Bool} (h0:0≤v2.1) (h3:v2.1<3) (hq:q<3) (hy:y=(Ic[q]?).getD []) (hl:TI (1+v2.1) q l) (hc:AU ⟨a,b,e⟩ k) (hk:k≤4611686018427380000):
  A5 (Mj v2 q l y a b e t) fun o=> ∃(c:An) (l':List Au),o= .inl (((q+1:Nat):Int),c.ar,c.bf,c.au,l')∧TI (1+v2.1) (q+1) l'∧AU c (k+4):=by
 unfold Mj;have hw:=(YK h0 h3).2;unfold Ru at hw;have w1:IntKind.i64.wrap ((q:Int)+1)=((q+1:Nat):Int):=by rw [Bh (by omega) (by omega)];omega
 refine .ite (fun _=> ?_) fun _=> .ret ⟨⟨a,b,e⟩,l,by rw [w1],hl.more,hc.up (by omega)⟩;rw [hw,Bh (n:=2+v2.1-1) (by omega) (by omega)];refine(CI _ hc (by omega)).bind fun p ⟨hp,BJ⟩=>(CI 4 BJ (by omega)).bind fun r ⟨hr,VB⟩=> ?_;have p2:=hp.2.1 (by omega);have r2:=hr.2.1 (by omega);have hlen:=hl.len;refine .req (by simp;omega) (.ret ⟨r.2,_,by rw [w1],hl.add hq ⟨?_, ?_,hr.1,by dsimp only;omega⟩ hy,VB.up (by omega)⟩)
 ·dsimp only;rw [Bh (by omega) (by omega)];omega
 ·dsimp only;rw [Bh (by omega) (by omega)];omega
theorem OG [Inhabited BX] {c:An} {k:Int} (h:AU c k) (hk:k≤4611686018427370000):A5 (HD c) fun p=>AZ p.1=true∧AU p.2 (k+40):=by
 unfold HD;refine(It _ (by simp) h (by omega)).bind fun n ⟨hn,hc⟩=>(CI 3 hc (by omega)).bind fun p ⟨hp,hd⟩=> ?_;have p2:=hp.2.1 (by omega);obtain⟨F1,H9⟩:=YK hp.1 p2;unfold Ru at F1 H9;have w1:IntKind.i64.wrap (2+p.1)=2+p.1:=Bh (by omega) (by omega);refine .req ⟨by omega,by rw [w1];omega,by rw [w1];simp;omega⟩ (.req (by rw [H9];simp;omega) ?_);refine Kb (fun m s=> ∃q:Nat,s.1=(q:Int)∧q+m=3∧TI (1+p.1) q s.2.2.2.2∧AU ⟨s.2.1,s.2.2.1,s.2.2.2.1⟩ (k+4+8*q)) (fun m s hI=> ?_) (n:=3) ⟨0,rfl,rfl,⟨by simp,by simp, .nil,by simp⟩,by simpa using hd.up (by omega)⟩;obtain⟨q,e1,e2,hT,ho⟩:=hI;obtain⟨s1,a,b,e,l⟩:=s;dsimp only at e1 hT ho ⊢;subst e1;unfold dS;have ec:(([([105]:Ab),([106]:Ab),([109]:Ab)]:List (Ab)).length:Int)=3:=rfl;rw [ec];refine .ite (fun Aq=> ?_) fun FK=> ?_
 ·simp only [decide_eq_true_eq]at Aq;have hq:q<3:=by omega
  have eg:getI [([105]:Ab),([106]:Ab),([109]:Ab)] (q:Int)=some ((Ic[q]?).getD []):=by
   have:q=0∨q=1∨q=2:=by omega
   rcases this with rfl|rfl|rfl<;>rfl
  rw [eg,Aa];refine(Io 3 ho (by omega)).bind fun x hx=> .ite (fun _=> ?_) fun _=> .ite (fun _=> ?_) fun _=> ?_
  ·exact(iH hp.1 p2 hq rfl hT hx (by omega)).mono fun o ho=>by obtain⟨c',l',rfl,ht,LA⟩:=ho;exact⟨m-1,by omega,q+1,rfl,by omega,ht,LA.up (by omega)⟩
  ·refine(Io 8 hx (by omega)).bind fun z hz=> ?_;exact(iH hp.1 p2 hq rfl hT hz (by omega)).mono fun o ho=>by obtain⟨c',l',rfl,ht,LA⟩:=ho;exact⟨m-1,by omega,q+1,rfl,by omega,ht,LA.up (by omega)⟩
  ·exact(iH hp.1 p2 hq rfl hT hx (by omega)).mono fun o ho=>by obtain⟨c',l',rfl,ht,LA⟩:=ho;exact⟨m-1,by omega,q+1,rfl,by omega,ht,LA.up (by omega)⟩
 ·simp only [decide_eq_false_iff_not]at FK;have:q=3:=by omega
  subst this;refine .ret (.ret ⟨zxT hn F1 (by omega) (by omega) ?_,ho.up (by omega)⟩);rw [H9,show 2+p.1-1=1+p.1 by omega];exact hT
theorem zuS [Inhabited BX] {c:An} {k:Int} (h:AU c k) (hk:k≤4611686018427360000):A5 (WC c) fun p=>CJ p.1∧AU p.2 (k+60):=by
 unfold WC;refine(OG h (by omega)).bind fun p ⟨hg,hc⟩=>(CI 14 hc (by omega)).bind fun q ⟨_,hd⟩=> ?_;have hS:=Ih hg;have AE:=Ij hg;have h4:p.1.al.length≤4∧p.1.ae.length≤3:=by have:=hg;unfold AZ at this;simp only [Ae,decide_eq_true_eq]at this;have:=BW.1 this.1.1.2.2;omega
 refine .ite (fun _=> ?_) fun _=> .ite (fun _=> ?_) fun _=> .ite (fun _=> ?_) fun _=> .ite (fun _=> ?_) fun _=> .ret ⟨⟨hS.name,hS.fh,hS.jv,hS.idxs,hS.idx⟩,hd.up (by omega)⟩
 ·refine(It _ (by simp) hd (by omega)).bind fun r ⟨hr,he⟩=> .ret ⟨⟨?_,hS.fh,hS.jv,hS.idxs,hS.idx⟩,he.up (by omega)⟩;simp only [Af,List.not_mem_nil,or_false]at hr;dsimp only;rcases hr with e|e|e<;>rw [e]<;>decide
 ·refine(It _ (by simp) hd (by omega)).bind fun r ⟨hr,he⟩=> .req (by simp;omega) (.ret ⟨⟨hS.name, ?_,fun z hz=> ?_,hS.idxs,hS.idx⟩,he.up (by omega)⟩)
  ·dsimp only;rw [Ao,AD];omega
  ·dsimp only at hz;rcases Ah.1 hz with hz|hz
   ·exact hS.jv z hz
   ·rw [List.mem_singleton.1 hz];simp only [Af,List.not_mem_nil,or_false]at hr;rcases hr with e|e|e|e<;>rw [e]<;>decide
 ·refine .req ⟨by omega,by omega,by omega⟩ (.ret ⟨⟨hS.name, ?_,fun z hz=> ?_,hS.idxs,hS.idx⟩,hd.up (by omega)⟩)
  ·dsimp only;unfold A7;rw [List.length_drop,List.length_take];omega
  ·dsimp only at hz;unfold A7 at hz;exact hS.jv z (List.mem_of_mem_take (List.mem_of_mem_drop hz))
 ·refine(It _ (by simp) hd (by omega)).bind fun r ⟨hr,he⟩=>(CI 5 he (by omega)).bind fun u ⟨_,hf⟩=>(CI 5 hf (by omega)).bind fun v ⟨_,VF⟩=> .req (by simp;omega) (.ret ⟨⟨hS.name,hS.fh,hS.jv, ?_,fun z hz=> ?_⟩,VF.up (by omega)⟩)
  ·dsimp only;rw [Ao,AD];omega
  ·dsimp only at hz;rcases Ah.1 hz with hz|hz
   ·exact hS.idx z hz
   ·rw [List.mem_singleton.1 hz];simp only [Af,List.not_mem_nil,or_false]at hr;dsimp only;rcases hr with e|e|e<;>rw [e]<;>decide
theorem UZ [Inhabited BX] {c:An} {k:Int} {t:Ad} (hg:AZ t=true) (h:AU c k) (hk:k≤4611686018427380000):A5 (Mn c t) fun p=>Bl t p.1=true∧AU p.2 (k+20):=by
 have VB:=Ij hg;have h4:t.al.length≤4:=by have:=hg;unfold AZ at this;simp only [Ae,decide_eq_true_eq]at this;have:=BW.1 this.1.1.2.2;omega
 unfold Mn;refine(It _ (by simp) h (by omega)).bind fun n ⟨hn,hc⟩=> ?_;have hf0:field n.1=true:=by simp only [Af,List.not_mem_nil,or_false]at hn;rcases hn with e|e|e|e|e|e<;>rw [e]<;>decide
 refine Kb (fun m s=>s.2.2.2.length+m=t.al.length∧(∀x∈s.2.2.2,field x=true)∧AU ⟨s.1,s.2.1,s.2.2.1⟩ (k+2+4*s.2.2.2.length)) (fun m s hI=> ?_) (n:=t.al.length-1) ⟨by simp;omega,by simpa using hf0,hc.up (by simp;omega)⟩;obtain⟨a,b,e,l⟩:=s;obtain⟨i1,i2,i3⟩:=hI;dsimp only at i1 i2 i3 ⊢;unfold sD;refine .ite (fun Aq=> ?_) fun FK=> ?_
 ·simp only [decide_eq_true_eq]at Aq;refine(It _ (by simp) i3 (by omega)).bind fun x ⟨hx,hd⟩=> .req (by simp;omega) (.ret ⟨m-1,by omega,by simp;omega,fun z hz=> ?_, ?_⟩)
  ·dsimp only at hz;rcases Ah.1 hz with hz|hz
   ·exact i2 z hz
   ·rw [List.mem_singleton.1 hz];simp only [Af,List.not_mem_nil,or_false]at hx;rcases hx with e|e|e|e|e<;>rw [e]<;>decide
  ·refine hd.up ?_;dsimp only;rw [Ao,AD];omega
 ·simp only [decide_eq_false_iff_not]at FK;refine .ret (.ret ⟨?_,i3.up (by omega)⟩);unfold Bl;rw [Ae,beq_iff_eq];exact⟨by dsimp only;omega,AG.2 i2⟩
theorem Kk.set {l:List Ai} {i:Nat} {s:Ai} (h:Kk l) (hs:s.length≤10):Kk (l.set i s):=⟨by rw [List.length_set];exact h.len,fun x hx=>by
 rcases List.mem_or_eq_of_mem_set hx with hx|rfl
 ·exact h.each x hx
 ·exact hs⟩
theorem DH.mono {n m:Nat} {l:List Ac} (h:DH n l) (hm:n≤m):DH m l:=⟨h.cc,by have:=h.len;omega,h.bw⟩
theorem zEJ [Inhabited BX] {c:An} {k:Int} (h:AU c k) (hk:k≤4611686018427387000):A5 (WV c) fun p=>Du p.1=true∧AU p.2 (k+2):=by unfold WV;refine(It _ (by simp) h (by omega)).bind fun p ⟨hp,hc⟩=> .ret ⟨?_,hc⟩;simp only [Af,List.not_mem_nil,or_false]at hp;dsimp only;rcases hp with e|e|e|e|e|e|e|e<;>rw [e]<;>decide
theorem zEU [Inhabited BX] {c:An} {k:Int} (h:AU c k) (hk:k≤4611686018427387000):A5 (WW c) fun p=>Gs p.1=true∧AU p.2 (k+2):=by unfold WW;refine(It _ (by simp) h (by omega)).bind fun p ⟨hp,hc⟩=> .ret ⟨?_,hc⟩;simp only [Af,List.not_mem_nil,or_false]at hp;dsimp only;rcases hp with e|e|e|e|e|e|e<;>rw [e]<;>decide
def HT (t:Ad) (l:List Ac):Nat:=(l.filter (CS t)).length
theorem kN {t:Ad} {w:Ac}: ∀l:List Ac,HT t (BA wk w l)≤HT t l+(if CS t w=true then 1 else 0)
 | []=>by unfold HT;rw [BA,List.filter_cons];split<;>simp
 |z::l=>by
  have ih:=kN (t:=t) (w:=w) l;unfold HT at ih ⊢;rw [BA];split
  ·rw [List.filter_cons];split<;>simp
  ·split
   ·rw [List.filter_cons,List.filter_cons];split<;>split<;>(try simp only [Ar])<;>omega
   ·rw [List.filter_cons,List.filter_cons];split<;>(try simp only [Ar])<;>omega
theorem vH {t:Ad} {x:Au} {r:AI} (hg:AZ t=true) (hx:x∈t.ae) (hr:Bl t r=true) (l:List Ac):HT t (BA wk ⟨Cm t x.ab x.bh r, [],false⟩ l)≤HT t l:=by
 have h:=kN (t:=t) (w:=⟨Cm t x.ab x.bh r, [],false⟩) l;rw [if_neg (fun Br=> ?_)]at h
 ·omega
 ·obtain⟨h1,h2⟩:=MD Br;exact Yi hg (Fc hg hx).1 h1 hr (congrArg Ac.af h2).symm
structure CP (n:Nat) (l:List Ac):Prop where
 ok:DH n l
 live: ∀w∈l,w.bb=false
theorem CP.len {n:Nat} {l:List Ac} (h:CP n l):l.length≤n:=h.ok.len
theorem CP.cc {n:Nat} {l:List Ac} (h:CP n l):Dc l:=h.ok.cc
theorem CP.bw {n:Nat} {l:List Ac} (h:CP n l): ∀w∈l,CW w=true:=h.ok.bw
theorem CP.mono {n m:Nat} {l:List Ac} (h:CP n l) (hm:n≤m):CP m l:=⟨h.ok.mono hm,h.live⟩
theorem iR {w y:Ac}: ∀{l:List Ac},y∈BA wk w l→y=w∨y∈l
 | [],h=> .inl (by simpa [BA]using h)
 |z::l,h=>by
  rw [BA]at h;split at h
  ·rcases Af.1 h with h|h
   ·exact .inl h
   ·exact .inr h
  ·split at h
   ·rcases Af.1 h with h|h
    ·exact .inl h
    ·exact .inr (by simp [h])
   ·rcases Af.1 h with h|h
    ·exact .inr (by simp [h])
    ·rcases iR h with h|h
     ·exact .inl h
     ·exact .inr (by simp [h])
theorem Q6 {n:Nat} {ws:List Ac} {w:Ac} (h:CP n ws) (hw:CW w=true) (hl:w.bb=false):CP (n+1) (BA wk w ws):=⟨Kf h.ok hw,fun y hy=>by
 rcases iR hy with rfl|hy
 ·exact hl
 ·exact h.live y hy⟩
theorem zwx [Inhabited BX] {t:Ad} {c:An} {k:Int} {n m:Nat} {l:List Ac} (hl:CP n l) (hm:HT t l≤m) (hn:n≤1000) (h:AU c k) (hk:k≤4611686018427380000):A5 (eC c.ar c.bf c.au l) fun p=>(CP (n+1) p.1∧HT t p.1≤m+1)∧AU p.2 (k+6):=by unfold eC;have hlen:=hl.len;refine(Io 6 (c:=⟨c.ar,c.bf,c.au⟩) h (by omega)).bind fun p hp=> .ite (fun _=> ?_) fun _=> .ret ⟨⟨hl.mono (by omega),by dsimp only;omega⟩,hp.up (by omega)⟩;refine(zEJ hp (by omega)).bind fun q ⟨hq,hc⟩=>(zEU hc (by omega)).bind fun r ⟨hr,hd⟩=> ?_;rw [JC (by omega) hl.cc,Aa];refine .ret ⟨⟨Q6 hl (UB hq hr) rfl, ?_⟩,hd.up (by omega)⟩;have:=kN (t:=t) (w:=⟨q.1,r.1,false⟩) l;split at this<;>(dsimp only;omega)
theorem zv8 [Inhabited BX] {t:Ad} {q:Nat} {x:Au} {c:An} {k:Int} {n m:Nat} {l:List Ac} (hg:AZ t=true) (hx:x∈t.ae) (hq:q≤3) (hl:CP n l) (hm:HT t l≤m) (hn:n≤1000) (h:AU c k) (hk:k≤4611686018427370000):
  A5 (eE t q x c.ar c.bf c.au l) fun o=> ∃(c':An) (l':List Ac),o= .inl (((q+1:Nat):Int),c'.ar,c'.bf,c'.au,l')∧CP (n+1) l'∧HT t l'≤m∧AU c' (k+30):=by
 unfold eE;have hlen:=hl.len;have w1:IntKind.i64.wrap ((q:Int)+1)=((q+1:Nat):Int):=by rw [Bh (by omega) (by omega)];omega
 refine(Io 5 (c:=⟨c.ar,c.bf,c.au⟩) h (by omega)).bind fun p hp=> .ite (fun _=> ?_) fun _=> .ret ⟨p.2,l,by rw [w1],hl.mono (by omega),hm,hp.up (by omega)⟩;refine(UZ hg hp (by omega)).bind fun r ⟨hr,hc⟩=> ?_;obtain⟨e1,e2⟩:=uN hg hx hr;rw [e1,Aa,JC (by omega) hl.cc,Aa];exact .ret ⟨r.2,_,by rw [w1],Q6 hl e2 rfl,Nat.le_trans (vH hg hx hr l) hm,hc.up (by omega)⟩
def Wm (q:Nat):Nat:=4+5*q
theorem zyr {t:Ad} (h:AZ t=true):t.ae.length≤3:=by unfold AZ at h;simp only [Ae,decide_eq_true_eq]at h;omega
theorem zv3 [Inhabited BX] {t:Ad} {c:An} {k:Int} {l:List Ac} (hg:AZ t=true) (hl:CP 4 l) (h:AU c k) (hk:k≤4611686018427360000):A5 (dU t c.ar c.bf c.au l) fun p=>(CP 20 p.1∧HT t p.1≤5)∧AU p.2 (k+700):=by
 unfold dU;have hS:=Ih hg;have h3:=zyr hg;refine Kb (fun m s=> ∃q:Nat,s.1=(q:Int)∧q+m=t.ae.length∧CP (Wm q) s.2.2.2.2∧HT t s.2.2.2.2≤4∧AU ⟨s.2.1,s.2.2.1,s.2.2.2.1⟩ (k+200*q)) (fun m s hI=> ?_) (n:=t.ae.length) (by exact⟨0,rfl,by omega,hl,Nat.le_trans (List.length_filter_le _ _) hl.len,by simpa using h⟩);obtain⟨q,e1,e2,hT,hm,ho⟩:=hI;obtain⟨s1,a,b,e,l⟩:=s;dsimp only at e1 hT hm ho ⊢;subst e1;have hb:Wm q=4+5*q:=rfl;have hlen:=hT.len;unfold rZ;refine .ite (fun Aq=> ?_) fun FK=> ?_
 ·simp only [decide_eq_true_eq]at Aq;have hq:q<t.ae.length:=by omega
  rw [AO hq,Aa,YY hS.name (by omega) (fun w hw=>QM (hT.bw w hw)),Aa];have hx:=List.getElem_mem hq;have hR:(rows t l).length≤4:=by unfold rows;rw [List.length_map];exact hm
  generalize Dm:rows t l=R at hR;have RW: ∀r∈R,Bl t r=true:=fun r hr=>jB (l:=l) (by rw [Dm];exact hr);refine Kb (fun j s=> ∃i:Nat,s.1=(i:Int)∧i+j=R.length∧CP (Wm q+i) s.2.2.2.2∧HT t s.2.2.2.2≤4∧AU ⟨s.2.1,s.2.2.1,s.2.2.2.1⟩ (k+200*q+2*i)) (fun j s hJ=> ?_) (n:=R.length) (by exact⟨0,rfl,by omega,hT,hm,by simpa using ho⟩);obtain⟨i,f1,f2,gT,gm,go⟩:=hJ;obtain⟨s1,a,b,e,l'⟩:=s;dsimp only at f1 gT gm go ⊢;subst f1;have glen:=gT.len;unfold rV;refine .ite (fun GU=> ?_) fun ZZ=> ?_
  ·simp only [decide_eq_true_eq]at GU;have hi:i<R.length:=by omega
   have w1:IntKind.i64.wrap ((i:Int)+1)=((i+1:Nat):Int):=by rw [Bh (by omega) (by omega)];omega
   obtain⟨n1,n2⟩:=uN hg hx (RW _ (List.getElem_mem hi));rw [AO hi,Aa];refine(Io 5 go (by omega)).bind fun p hp=> .ite (fun _=> ?_) fun _=> .ret ⟨j-1,by omega,i+1,w1,by omega,gT.mono (by omega),gm,hp.up (by omega)⟩;rw [n1,Aa,JC (by omega) gT.cc,Aa];exact .ret ⟨j-1,by omega,i+1,w1,by omega,(Q6 gT n2 rfl).mono (by omega),Nat.le_trans (vH hg hx (RW _ (List.getElem_mem hi)) _) gm,hp.up (by omega)⟩
  ·simp only [decide_eq_false_iff_not]at ZZ;refine .ret ((zv8 (c:=⟨a,b,e⟩) hg hx (by omega) gT gm (by omega) go (by omega)).mono fun o ho2=> ?_);obtain⟨c',l2,rfl,z1,zm,z2⟩:=ho2;exact⟨m-1,by omega,q+1,rfl,by omega,z1.mono (by have:Wm (q+1)=4+5*(q+1):=rfl;omega),zm,z2.up (by omega)⟩
 ·refine .ret ((zwx (t:=t) (c:=⟨a,b,e⟩) hT hm (by omega) ho (by omega)).mono fun p hp=>⟨⟨hp.1.1.mono (by omega),hp.1.2⟩,hp.2.up (by omega)⟩)
theorem x8 [Inhabited BX] {t:Ad} {c:An} {k:Int} (hg:AZ t=true) (h:AU c k) (hk:k≤4611686018427350000):A5 (Tt c t) fun p=>(CP 20 p.1∧HT t p.1≤5)∧AU p.2 (k+900):=by
 unfold Tt;have hS:=Ih hg;refine(CI 5 h (by omega)).bind fun p ⟨hp,hc⟩=> ?_;have p2:=hp.2.1 (by omega);obtain⟨m,hm⟩:=Int.eq_ofNat_of_zero_le hp.1;have hm4:m≤4:=by omega
 refine Kb (fun j s=>j≤4∧s.2.1=(j:Int)∧CP (4-j) s.1∧AU ⟨s.2.2.1,s.2.2.2.1,s.2.2.2.2⟩ (k+2+30*(4-j))) (fun j s hI=> ?_) (n:=m) (by exact⟨hm4,hm,⟨⟨.nil,by simp,by simp⟩,by simp⟩,hc.up (by omega)⟩);obtain⟨l,s1,a,b,e⟩:=s;obtain⟨i0,i1,i2,i3⟩:=hI;dsimp only at i1 i2 i3 ⊢;subst i1;have hlen:=i2.len;unfold rW;refine .ite (fun Aq=> ?_) fun FK=> ?_
 ·simp only [decide_eq_true_eq,gt_iff_lt]at Aq;refine(UZ hg i3 (by omega)).bind fun r ⟨hr,hd⟩=> ?_;obtain⟨hs,h2⟩:=Mv hg hr;have A9:r.1.aw≠ []:=fun e=>by rw [e]at h2;simp at h2
  have hw:=Us hg hr;rw [Q4 hS.name hs.small A9,Aa,JC (by omega) i2.cc,Aa];refine .ret ⟨j-1,by omega,by omega, ?_,(Q6 i2 (w:=A6 t r.1) (UB hw.1 hw.2) rfl).mono (by omega),hd.up (by omega)⟩;dsimp only;rw [Bh (by omega) (by omega)];omega
 ·simp only [decide_eq_false_iff_not,gt_iff_lt]at FK;exact .ret ((zv3 (c:=⟨a,b,e⟩) hg (i2.mono (by omega)) i3 (by omega)).mono fun p hp=>⟨hp.1,hp.2.up (by omega)⟩)
structure JH (l:List Ac):Prop where
 len:l.length≤100
 each: ∀w∈l,F8 w
theorem JH.small {l:List Ac} (h:JH l):JE l:=⟨by have:=h.len;omega,fun w hw=>by have:=h.each w hw;unfold F8 at this;omega⟩
theorem uJ (w:Ac): ∀(l:List Ac),(BA wk w l).length≤l.length+1
 | []=>by simp [BA]
 |z::l=>by
  rw [BA];split
  ·simp
  ·split
   ·simp
   ·have:=uJ w l;simp only [Ar];omega
theorem JH.put {l:List Ac} {w:Ac} (h:JH l) (hl:l.length≤99) (hw:F8 w):JH (BA wk w l):=⟨by have:=uJ w l;omega,fun y hy=>by
 rcases iR hy with rfl|hy
 ·exact hw
 ·exact h.each y hy⟩
theorem CP.kq {n:Nat} {l:List Ac} (h:CP n l) (hn:n≤100):JH l:=⟨by have:=h.len;omega,fun w hw=>QM (h.bw w hw)⟩
theorem DH.kq {n:Nat} {l:List Ac} (h:DH n l) (hn:n≤100):JH l:=⟨by have:=h.len;omega,fun w hw=>QM (h.bw w hw)⟩
theorem zu7 [Inhabited BX] {t:Ad} {c:An} {k:Int} (hg:AZ t=true) (h:AU c k) (hk:k≤4611686018427340000):A5 (WB c t) fun p=>JH p.1∧AU p.2 (k+1000):=by
 unfold WB;have hn:=(J9 (Ke hg)).1;refine(x8 hg h (by omega)).bind fun s ⟨⟨hs,_⟩,hc⟩=>(CI 12 hc (by omega)).bind fun q ⟨_,hd⟩=> ?_;have hT:=hs.kq (by omega);have hlen:=hs.len;refine .ite (fun _=> ?_) fun _=> .ite (fun _=> ?_) fun _=> .ite (fun _=> .ite (fun FY=> ?_) fun _=> .ret ⟨hT,hd.up (by omega)⟩) fun _=> .ite (fun _=> ?_) fun _=> .ret ⟨hT,hd.up (by omega)⟩
 ·refine .req (by simp;omega) (.ret ⟨⟨by simp;omega,fun w hw=> ?_⟩,hd.up (by omega)⟩);dsimp only at hw;rcases Ah.1 hw with hw|hw
  ·exact hT.each w hw
  ·rw [List.mem_singleton.1 hw];exact⟨by decide,by decide⟩
 ·refine .req (by simp;omega) ((It _ (by simp) hd (by omega)).bind fun u ⟨hu,he⟩=> ?_);have hul:u.1.length≤4:=by
   simp only [Af,List.not_mem_nil,or_false]at hu;rcases hu with e|e|e<;>rw [e]<;>decide
  refine .req (by simp;omega) ((It _ (by simp) he (by omega)).bind fun v ⟨hv,hf⟩=> ?_);have DL:v.1.length≤5:=by simp only [Af,List.not_mem_nil,or_false]at hv;rcases hv with e|e|e|e<;>rw [e]<;>decide
  rw [JC (by omega) hs.cc,Aa];exact .ret ⟨hT.put (by omega) ⟨by simp;omega,by dsimp only;omega⟩,hf.up (by omega)⟩
 ·simp only [decide_eq_true_eq]at FY;refine(CI _ hd (by omega)).bind fun u ⟨hu,he⟩=> ?_;obtain⟨y,ey,hy,_⟩:=IJ (xs:=s.1) hu.1 (hu.2.1 (by omega));rw [ey,Aa];refine .ret ⟨⟨by rw [List.length_set];omega,fun w hw=> ?_⟩,he.up (by omega)⟩;rcases List.mem_or_eq_of_mem_set hw with hw|rfl
  ·exact hT.each w hw
  ·exact hT.each y hy
 ·refine .req (by simp;omega) ((It _ (by simp) hd (by omega)).bind fun u ⟨hu,he⟩=> ?_);have hul:u.1.length≤6:=by
   simp only [Af,List.not_mem_nil,or_false]at hu;rcases hu with e|e|e|e<;>rw [e]<;>decide
  refine .req (by simp;omega) ?_;rw [JC (by omega) hs.cc,Aa];exact .ret ⟨hT.put (by omega) ⟨by simp;omega,by simp⟩,he.up (by omega)⟩
structure Lo (a:A2):Prop where
 old:Kk a.bd.aw
 new:Kk a.bj.aw
theorem Lo.small {a:A2} (h:Lo a):F6 a:=⟨h.old.small,h.new.small⟩
theorem Kd:Kk []:=⟨by simp,by simp⟩
theorem jY [Inhabited BX] {t:Ad} {c:An} {k:Int} {v:List Ai} (hg:AZ t=true) (hv:Kk v) (C4:2≤v.length) (h:AU c k) (hk:k≤4611686018427340000):A5 (WS t c.ar c.bf c.au v) fun p=>Lo p.1∧AU p.2 (k+30):=by
 unfold WS;refine(CI 3 (c:=⟨c.ar,c.bf,c.au⟩) h (by omega)).bind fun p ⟨_,hc⟩=> .ite (fun _=> ?_) fun _=> .ite (fun _=> .ret ⟨⟨hv,Kd⟩,hc.up (by omega)⟩) fun _=> ?_
 ·exact(UZ hg hc (by omega)).bind fun r ⟨hr,hd⟩=> .ret ⟨⟨Kd,(Mv hg hr).1⟩,hd.up (by omega)⟩
 ·refine(UZ hg hc (by omega)).bind fun r ⟨hr,hd⟩=> ?_;obtain⟨hs,h2⟩:=Mv hg hr;obtain⟨y,ey,hy,_⟩:=IJ (xs:=v) (i:=0) (by omega) (by omega);rw [ey,Aa];refine A5.bind (P:=fun _=>True) (.getI (by omega) (by omega) fun _ _=>trivial) fun _ _=> .ret ⟨⟨hv,hs.set (hv.each y hy)⟩,hd.up (by omega)⟩
theorem zEC [Inhabited BX] {t:Ad} {l:List Ac} {c:An} {k:Int} (hg:AZ t=true) (hl:JH l) (h:AU c k) (hk:k≤4611686018427330000):A5 (W4 c t l) fun p=>Lo p.1∧AU p.2 (k+100):=by
 unfold W4;have hS:=Ih hg;have hlen:=hl.len;rw [YY hS.name (by omega) hl.each,Aa];have hR:=rows_len t l;refine(UZ hg h (by omega)).bind fun r ⟨hr,hc⟩=> .ite (fun FY=> ?_) fun _=> ?_
 ·simp only [decide_eq_true_eq]at FY;refine(Io 4 hc (by omega)).bind fun u hu=> ?_;unfold WR;refine .ite (fun _=> ?_) fun _=> ?_
  ·refine(CI _ (c:=⟨u.2.ar,u.2.bf,u.2.au⟩) hu (by omega)).bind fun i ⟨hi,hd⟩=> ?_;obtain⟨y,ey,hy,_⟩:=IJ (xs:=rows t l) hi.1 (hi.2.1 (by omega));rw [ey,Aa];obtain⟨hs,h2⟩:=Mv hg (jB hy);exact(jY hg hs h2 hd (by omega)).mono fun p hp=>⟨hp.1,hp.2.up (by omega)⟩
  ·obtain⟨hs,h2⟩:=Mv hg hr;exact(jY hg hs h2 hu (by omega)).mono fun p hp=>⟨hp.1,hp.2.up (by omega)⟩
 ·unfold WR;refine .ite (fun hh=>by cases hh) fun _=> ?_;obtain⟨hs,h2⟩:=Mv hg hr;exact(jY hg hs h2 hc (by omega)).mono fun p hp=>⟨hp.1,hp.2.up (by omega)⟩
end Go.Proofs.YtlhlgboblghkdaaGreatDoor
end
section
namespace Go.Proofs.YtlhlgboblghkdaaGreatDoor
set_option maxRecDepth 100000
@[irreducible] def FA (x:Nat):Nat:=(1442695040888963407+6364136223846793005*x) % 18446744073709551616
def Fz:Nat→Nat→Nat
 |0,x=>x
 |n+1,x=>Fz n (FA x)
theorem xF (x:Nat):Fz 0 x=x:=rfl
theorem lL (n x:Nat):Fz (n+1) x=Fz n (FA x):=rfl
theorem UE (m n x:Nat):Fz (m+n) x=Fz n (Fz m x):=by
 induction m generalizing x with
 |zero=>rw [Nat.zero_add,xF]
 |succ m ih=>rw [Nat.add_right_comm,lL,lL,ih]
theorem qG (x:Nat):FA x<18446744073709551616:=by unfold FA;exact Nat.mod_lt _ (by decide)
def NZ (A C n:Nat):Prop:= ∀x,Fz n x=(x*A+C) % 18446744073709551616
theorem lK {A C A' C' m n:Nat} (h:NZ A C m) (h':NZ A' C' n):NZ (A*A' % 18446744073709551616) ((C*A'+C') % 18446744073709551616) (m+n):=fun x=>by
 rw [UE,h x,h' _];have e: ∀y:Nat,(y % 18446744073709551616*A'+C') % 18446744073709551616=(y*A'+C') % 18446744073709551616:=fun y=>by rw [Nat.add_mod,Nat.mod_mul_mod,←Nat.add_mod]
 rw [e,Nat.add_mul,Nat.mul_assoc,Nat.add_assoc];rw [Nat.add_mod (x*(A*A')) _,Nat.add_mod (x*(A*A' % 18446744073709551616)) _,Nat.mod_mod,Nat.mul_mod_mod]
def Wh:Nat→Nat × Nat→Nat × Nat
 |0,p=>p
 |k+1,p=>Wh k (p.1*p.1 % 18446744073709551616,(p.2*p.1+p.2) % 18446744073709551616)
theorem zF: ∀(k n:Nat) (p:Nat × Nat),NZ p.1 p.2 n→NZ (Wh k p).1 (Wh k p).2 (n*2^k)
 |0,n,p,h=>by rw [Nat.pow_zero,Nat.mul_one];exact h
 |k+1,n,p,h=>by have h2:=zF k (n+n) (p.1*p.1 % 18446744073709551616,(p.2*p.1+p.2) % 18446744073709551616) (lK h h);rw [Nat.pow_succ,show n*(2^k*2)=(n+n)*2^k by rw [Nat.add_mul,Nat.mul_comm (2^k) 2,←Nat.mul_assoc,Nat.mul_comm n 2,Nat.mul_assoc,Nat.two_mul]];exact h2
def S5:Nat:=211106232532992
def DR (x:Nat):Nat:=x/1099511627776 % 256
theorem zDd:NZ 9118381870541701121 9530672342678634496 S5:=by
 have h1:NZ 6364136223846793005 1442695040888963407 1:=fun x=>by rw [lL,xF];unfold FA;rw [Nat.add_comm,Nat.mul_comm]
 have h3:=lK (lK h1 h1) h1;simp only [Nat.reduceMul,Nat.reduceMod,Nat.reduceAdd]at h3;have h:=zF 46 3 (793875393913628917,11166244414315200793) h3;have e:Wh 46 (793875393913628917,11166244414315200793)=(9118381870541701121,9530672342678634496):=by decide
 rw [e]at h;exact h
theorem zEE (z:Nat):DR (z % 18446744073709551616)=DR z:=by unfold DR;omega
theorem zFm (x y:Nat):DR (x+9530672342678634496+281474976710656*y)=(DR x+192) % 256:=by unfold DR;omega
theorem pO {x:Nat}:DR (Fz S5 x)=(DR x+192) % 256:=by rw [zDd x,zEE,show x*9118381870541701121+9530672342678634496=x+9530672342678634496+281474976710656*(x*32395) by omega,zFm]
theorem zGh {x:Nat} (h0:DR x % 3=0) (h1:DR (Fz S5 x) % 3=0) (h2:DR (Fz S5 (Fz S5 x)) % 3=0):False:=by rw [pO]at h1 h2;rw [pO]at h2;have:DR x<256:=Nat.mod_lt _ (by decide);omega
end Go.Proofs.YtlhlgboblghkdaaGreatDoor
end
section
namespace Go.Proofs.YtlhlgboblghkdaaGreatDoor
open Go.RowKit
set_option maxRecDepth 100000
theorem A5.and {α:Type} {o:Option α} {P Q:α→Prop} (h:A5 o P) (k:A5 o Q):A5 o fun x=>P x∧Q x:=by obtain⟨x,rfl,hx⟩:=h;obtain⟨y,e,hy⟩:=k;cases e;exact⟨x,rfl,hx,hy⟩
def sd (c:An):Prop:=0≤c.au∧c.au<18446744073709551616
def Hj (c:An):Prop:=(c.ar.length:Int)≤c.bf∧sd c
def nx (c:An):An:=⟨c.ar,c.bf+1,(FA c.au.toNat:Nat)⟩
theorem cS (x:Int):IntKind.u64.wrap x=x % 18446744073709551616:=by simp [IntKind.wrap,IntKind.bits,IntKind.signed]
theorem zFP (c:An):sd (nx c):=by
 have:=qG c.au.toNat
 unfold sd nx;dsimp only;omega
theorem EX {c:An} (h:Hj c):Hj (nx c):=⟨by have:=h.1;unfold nx;dsimp only;omega,zFP c⟩
theorem zC7 (a:Nat) (h:a<18446744073709551616):(BitVec.ofInt (IntKind.bits .u64) (Int.fdiv (a:Int) (2^(min ((40:Int)).toNat (IntKind.bits .u64))))&&&BitVec.ofInt (IntKind.bits .u64) 255).toNat=DR a:=by
 have e1:(2^(min ((40:Int)).toNat (IntKind.bits .u64)):Int)=((1099511627776:Nat):Int):=by decide
 have e2:Int.fdiv (a:Int) ((1099511627776:Nat):Int)=((a/1099511627776:Nat):Int):=by rw [Int.fdiv_eq_ediv_of_nonneg _ (by omega)];rfl
 rw [e1,e2,BitVec.toNat_and];have e3:(BitVec.ofInt (IntKind.bits .u64) ((a/1099511627776:Nat):Int)).toNat=a/1099511627776:=by
  rw [BitVec.ofInt_natCast,BitVec.toNat_ofNat];have:a/1099511627776<2^64:=by omega
  exact Nat.mod_eq_of_lt this
 have e4:(BitVec.ofInt (IntKind.bits .u64) 255).toNat=255:=by decide
 rw [e3,e4];have:(255:Nat)=2^8-1:=by decide
 rw [this,Nat.and_two_pow_sub_one_eq_mod];rfl
theorem zA6 [Inhabited BX] {c:An} {k:Int} (h:AU c k) (hk:k≤4611686018427387904):A5 (Od c) fun p=>p.2.ar=c.ar∧p.2.bf=c.bf+1∧sd p.2∧(Hj c→p.1=(DR (FA c.au.toNat):Nat)∧p.2=nx c):=by
 obtain⟨hb,h0,h1⟩:=h;have w:IntKind.i64.wrap (c.bf+1)=c.bf+1:=Bh (by omega) (by omega);have VP: ∀x:Int,0≤IntKind.u64.wrap x∧IntKind.u64.wrap x<18446744073709551616:=fun x=>by rw [cS];exact⟨Int.emod_nonneg _ (by decide),Int.emod_lt_of_pos _ (by decide)⟩
 unfold Od;refine .ite (fun Aq=> ?_) fun Aq=> ?_
 ·simp only [decide_eq_true_eq]at Aq;refine A5.bind (P:=fun _=>True) (.getI h0 Aq fun _ _=>trivial) fun y _=> .ite (fun _=> .ret ⟨rfl,w,VP _,fun he=> ?_⟩) fun _=> .ret ⟨rfl,w,VP _,fun he=> ?_⟩
  ·have:=he.1;omega
  ·have:=he.1;omega
 ·simp only [decide_eq_false_iff_not]at Aq;have SH: ∀s:Int,0≤s→s<18446744073709551616→IntKind.u64.wrap ((IntKind.u64.wrap ((IntKind.u64.wrap (s*6364136223846793005))+(IntKind.u64.wrap 0)))+1442695040888963407)=(FA s.toNat:Nat):=fun s s0 s1=>by
   unfold FA;simp only [cS];omega
  refine .ite (fun hle=> ?_) fun hle=> ?_
  ·simp only [decide_eq_true_eq,w]at hle;refine .ret ⟨rfl,w,VP _,fun he=> ?_⟩;have:=he.1;omega
  ·refine .ret ⟨rfl,w,VP _,fun he=> ?_⟩;have hs:=SH c.au he.2.1 he.2.2;refine⟨?_, ?_⟩
   ·dsimp only;rw [hs,zC7 _ (qG _)];have:DR (FA c.au.toNat)<256:=Nat.mod_lt _ (by decide);have e:IntKind.u64.wrap (DR (FA c.au.toNat):Nat)=(DR (FA c.au.toNat):Nat):=by rw [cS];omega
    rw [e,Bh (by omega) (by omega)]
   ·unfold nx;dsimp only;rw [hs,w]
theorem QX [Inhabited BX] {c:An} {k:Int} (n:Int) (hn:2≤n) (VH:n≤200) (h:AU c k) (hk:k≤4611686018427387000):A5 (Cv c n) fun p=>p.2.ar=c.ar∧p.2.bf=c.bf+1∧sd p.2∧(Hj c→p.1=(DR (FA c.au.toNat):Nat) % n∧p.2=nx c):=by
 unfold Cv;refine .ite (fun h1=> ?_) fun _=> ?_
 ·simp only [decide_eq_true_eq]at h1;omega
 ·refine(zA6 h (by omega)).bind fun p ⟨p1,p2,p3,p4⟩=> .ite (fun h1=> ?_) fun _=> .req (by omega) (.ret ⟨p1,p2,p3,fun he=> ?_⟩)
  ·simp only [decide_eq_true_eq]at h1;omega
  ·obtain⟨q1,q2⟩:=p4 he;refine⟨?_,q2⟩;dsimp only;rw [q1,Int.tmod_eq_emod_of_nonneg (by omega)]
theorem zD4 [Inhabited BX] {c:An} {k:Int} (n:Int) (VH:n≤200) (h:AU c k) (hs:sd c) (hk:k≤4611686018427387000):A5 (Cv c n) fun p=>p.2.ar=c.ar∧c.bf≤p.2.bf∧sd p.2:=by
 by_cases hn:2≤n
 ·exact(QX n hn VH h hk).mono fun p ⟨a,b,d,_⟩=>⟨a,by omega,d⟩
 ·unfold Cv;refine .ite (fun _=> .ret ⟨rfl,Int.le_refl _,hs⟩) fun h1=> ?_;simp only [decide_eq_false_iff_not]at h1;omega
theorem mM [Inhabited BX] {c:An} {k:Int} (n:Int) (hn:2≤n) (VH:n≤200) (h:AU c k) (hk:k≤4611686018427387000):A5 (Gn c n) fun p=>p.2.ar=c.ar∧p.2.bf=c.bf+1∧sd p.2∧(Hj c→p.1=decide ((DR (FA c.au.toNat):Nat) % n=(0:Int))∧p.2=nx c):=by unfold Gn;refine(QX n hn VH h hk).bind fun p ⟨p1,p2,p3,p4⟩=> .ret ⟨p1,p2,p3,fun he=> ?_⟩;obtain⟨q1,q2⟩:=p4 he;refine⟨?_,q2⟩;dsimp only;rw [q1];rfl
structure zGn (c:An) (t:Ad) (c':An):Prop where
 code:c'.ar=c.ar
 at_:c.bf+1≤c'.bf
 n7:sd c'
 bare:Hj c→t.ae= []→c'=nx (nx (nx (nx (nx (nx c)))))∧(DR (Fz 3 c.au.toNat)) % 3=0
structure Wp [Inhabited BX] (c:An) (q:Nat) (l:List Au) (d:An):Prop where
 code:d.ar=c.ar
 at_:c.bf+1≤d.bf
 n7:sd d
 ok:AU d d.bf
 bare:Hj c→l= []→(q=0→d=nx (nx c))∧(q=1→d=nx (nx (nx (nx c))))∧(q=2→d=nx (nx (nx (nx (nx c)))))∧(q=3→d=nx (nx (nx (nx (nx (nx c))))))∧(1≤q→(DR (Fz 3 c.au.toNat)) % 3=0)
theorem mC (c:An):(nx c).au.toNat=FA c.au.toNat:=by unfold nx;dsimp only;omega
theorem AU.self [Inhabited BX] {c:An} {k:Int} (h:AU c k):AU c c.bf:=⟨h.1,h.2.1,Int.le_refl _⟩
theorem zuw [Inhabited BX] {c:An} {v2:Int × An} {q:Nat} {l:List Au} {y:Ai} {d:An} {t:Bool} (h0:0≤v2.1) (h3:v2.1<3) (hq:q<3) (hl:l.length≤q) (hd:d.ar=c.ar∧c.bf+1≤d.bf∧sd d∧AU d d.bf) (hk:d.bf≤4611686018427380000)
  (hb:t=false→Hj c→l= []→(q=0→d=nx (nx (nx (nx c))))∧(q=1→d=nx (nx (nx (nx (nx c)))))∧(q=2→d=nx (nx (nx (nx (nx (nx c))))))∧(DR (Fz 3 c.au.toNat)) % 3=0):
  A5 (Mj v2 q l y d.ar d.bf d.au t) fun o=> ∃(c':An) (l':List Au),o= .inl (((q+1:Nat):Int),c'.ar,c'.bf,c'.au,l')∧l'.length≤q+1∧c'.bf≤d.bf+10∧Wp c (q+1) l' c':=by
 unfold Mj;obtain⟨d1,d2,d3,d4⟩:=hd;have hw:=(YK h0 h3).2;unfold Ru at hw;have w1:IntKind.i64.wrap ((q:Int)+1)=((q+1:Nat):Int):=by rw [Bh (by omega) (by omega)];omega
 refine .ite (fun _=> ?_) fun ht=> .ret ⟨d,l,by rw [w1],by omega,by omega,⟨d1,d2,d3,d4,fun he Gj=> ?_⟩⟩
 ·rw [hw,Bh (n:=2+v2.1-1) (by omega) (by omega)];refine((zD4 (c:=⟨d.ar,d.bf,d.au⟩) _ (by omega) d4 d3 (by omega)).and (CI _ d4 (by omega))).bind fun p ⟨⟨p1,p2,p3⟩,hp,pc⟩=>((QX 4 (by omega) (by omega) pc (by omega)).and (CI 4 pc (by omega))).bind fun r ⟨⟨r1,r2,r3,_⟩,hr,rc⟩=> ?_;refine .req (by simp;omega) (.ret ⟨r.2,_,by rw [w1],by rw [Ao,AD];omega,by have:=rc.2.2;omega,⟨by rw [r1,p1];exact d1,by dsimp only at p2;omega,r3,rc.self,fun _ Gj=> ?_⟩⟩);simp at Gj
 ·obtain⟨b0,b1,b2,b3⟩:=hb ht he Gj;exact⟨by omega,fun h=>b0 (by omega),fun h=>b1 (by omega),fun h=>b2 (by omega),fun _=>b3⟩
theorem jX [Inhabited BX] {c:An} {k:Int} (h:AU c k) (hk:k≤4611686018427370000):A5 (HD c) fun p=>zGn c p.1 p.2:=by
 unfold HD F3;refine A5.bind (P:=fun v=>v.2.ar=c.ar∧v.2.bf=c.bf+1∧sd v.2∧(Hj c→v.2=nx c)) (((QX 2 (by omega) (by omega) h (by omega)).and (CI 2 h (by omega))).bind fun v ⟨⟨a1,a2,a3,a4⟩,hv,_⟩=> ?_) fun n ⟨n1,n2,n3,n4⟩=> ?_
 ·exact A5.bind (P:=fun _=>True) (.getI hv.1 (by have:=hv.2.1 (by omega);simpa using this) fun _ _=>trivial) fun _ _=> .ret ⟨a1,a2,a3,fun he=>(a4 he).2⟩
 have hc:AU n.2 (c.bf+1):=⟨by rw [n1];exact h.1,by have:=h.2.1;omega,by omega⟩
 have nT:=h.2.2;have R2:=h.2.1;refine((QX 3 (by omega) (by omega) hc (by omega)).and (CI 3 hc (by omega))).bind fun p ⟨⟨p1,p2,p3,p4⟩,hp,hd⟩=> ?_;have pp2:=hp.2.1 (by omega);obtain⟨F1,H9⟩:=YK hp.1 pp2;unfold Ru at F1 H9;have w1:IntKind.i64.wrap (2+p.1)=2+p.1:=Bh (by omega) (by omega);refine .req ⟨by omega,by rw [w1];omega,by rw [w1];simp;omega⟩ (.req (by rw [H9];simp;omega) ?_);have NK:Wp c 0 [] p.2:=⟨by rw [p1,n1],by omega,p3,hd.self,fun he _=>by have e1:=n4 he;have e2:=(p4 (by rw [e1];exact EX he)).2;rw [e1]at e2;exact⟨fun _=>e2,by omega,by omega,by omega,by omega⟩⟩
 refine Kb (fun m s=> ∃q:Nat,s.1=(q:Int)∧q+m=3∧s.2.2.2.2.length≤q∧s.2.2.1≤c.bf+4+20*q∧Wp c q s.2.2.2.2 ⟨s.2.1,s.2.2.1,s.2.2.2.1⟩) (fun m s hI=> ?_) (n:=3) (by exact⟨0,rfl,rfl,by simp,by dsimp only;omega,NK⟩);obtain⟨q,e1,e2,hl,hf,hT⟩:=hI;obtain⟨s1,a,b,e,l⟩:=s;dsimp only at e1 hl hf hT ⊢;subst e1;have Ax:=hT.ok;dsimp only at Ax;unfold dS;have ec:(([([105]:Ab),([106]:Ab),([109]:Ab)]:List (Ab)).length:Int)=3:=rfl;rw [ec];have fin: ∀(d:An) (t:Bool) (y:Ai),q<3→d.ar=c.ar→b+1≤d.bf→d.bf≤b+2→sd d→(t=false→Hj c→l= []→(q=0→d=nx (nx (nx (nx c))))∧(q=1→d=nx (nx (nx (nx (nx c)))))∧(q=2→d=nx (nx (nx (nx (nx (nx c))))))∧(DR (Fz 3 c.au.toNat)) % 3=0)→
   A5 (Mj p q l y d.ar d.bf d.au t) fun o=> ∃(c':An) (l':List Au),o= .inl (((q+1:Nat):Int),c'.ar,c'.bf,c'.au,l')∧l'.length≤q+1∧c'.bf≤d.bf+10∧Wp c (q+1) l' c':=by
  intro d t y hq d1 d2 d3 d4 hb;have ha:=hT.at_;dsimp only at ha;exact zuw hp.1 pp2 hq hl ⟨d1,by omega,d4,⟨by rw [d1];exact h.1,by omega,Int.le_refl _⟩⟩ (by omega) hb
 refine .ite (fun Aq=> ?_) fun FK=> ?_
 ·simp only [decide_eq_true_eq]at Aq;have hq:q<3:=by omega
  have eg:getI [([105]:Ab),([106]:Ab),([109]:Ab)] (q:Int)=some ((Ic[q]?).getD []):=by
   have:q=0∨q=1∨q=2:=by omega
   rcases this with rfl|rfl|rfl<;>rfl
  rw [eg,Aa];have Hq:=hT.code;dsimp only at Hq;refine((mM 3 (by omega) (by omega) Ax (by omega)).and (Io 3 Ax (by omega))).bind fun x ⟨⟨x1,x2,x3,x4⟩,hx⟩=> ?_;dsimp only at x1 x2;refine .ite (fun _=> ?_) fun ID=> .ite (fun hi=> ?_) fun hi=> ?_
  ·refine(fin x.2 true _ hq (by rw [x1,Hq]) (by omega) (by omega) x3 (fun h=>by cases h)).mono fun o ho=> ?_;obtain⟨c',l',rfl,g1,g2,g3⟩:=ho;exact⟨m-1,by omega,q+1,rfl,by omega,g1,by dsimp only;omega,g3⟩
  ·refine((mM 8 (by omega) (by omega) hx (by omega)).and (Io 8 hx (by omega))).bind fun z ⟨⟨z1,z2,z3,z4⟩,hz⟩=> ?_;have bD:q=0:=by
    have:q=0∨q=1∨q=2:=by omega
    rcases this with h|h|h
    ·exact h
    ·rw [h]at hi;exact absurd hi (by decide)
    ·rw [h]at hi;exact absurd hi (by decide)
   refine(fin z.2 _ _ hq (by rw [z1,x1,Hq]) (by omega) (by omega) z3 (fun SU he Gj=> ?_)).mono fun o ho=> ?_
   ·have hb:=(hT.bare he Gj).1 bD;have B6:Hj (⟨a,b,e⟩:An):=by rw [hb];exact EX (EX he)
    obtain⟨y1,y2⟩:=x4 B6;rw [hb]at y1 y2;have w2:=(z4 (by rw [y2];exact EX (EX (EX he)))).2;rw [y2]at w2;refine⟨fun _=>w2,by omega,by omega, ?_⟩;rw [y1,mC,mC]at ID;simp only [Bool.not_eq_false',decide_eq_true_eq]at ID;show DR (FA (FA (FA c.au.toNat))) % 3=0;omega
   ·obtain⟨c',l',rfl,g1,g2,g3⟩:=ho;exact⟨m-1,by omega,q+1,rfl,by omega,g1,by dsimp only;omega,g3⟩
  ·have hqn:q≠0:=fun h=>by rw [h]at hi;exact absurd hi (by decide)
   refine(fin x.2 false _ hq (by rw [x1,Hq]) (by omega) (by omega) x3 (fun _ he Gj=> ?_)).mono fun o ho=> ?_
   ·obtain⟨b0,b1,b2,b3,b4⟩:=hT.bare he Gj;refine⟨by omega,fun h=> ?_,fun h=> ?_,b4 (by omega)⟩
    ·have hb:=b1 h;rw [hb]at x4;exact(x4 (EX (EX (EX (EX he))))).2
    ·have hb:=b2 h;rw [hb]at x4;exact(x4 (EX (EX (EX (EX (EX he)))))).2
   ·obtain⟨c',l',rfl,g1,g2,g3⟩:=ho;exact⟨m-1,by omega,q+1,rfl,by omega,g1,by dsimp only;omega,g3⟩
 ·simp only [decide_eq_false_iff_not]at FK;have:q=3:=by omega
  subst this;refine .ret (.ret ⟨hT.code,hT.at_,hT.n7,fun he Gj=> ?_⟩);obtain⟨_,_,_,b3,b4⟩:=hT.bare he Gj;exact⟨b3 rfl,b4 (by omega)⟩
noncomputable def IL:Nat→An→Option (Ad × An)
 |0,c=>HD c
 |n+1,c=>(HD c).bind fun p=>if p.1.ae.length=0 then IL n p.2 else some p
theorem wL [Inhabited BX]: ∀(n:Nat) {c:An} {k:Int},AU c k→k+40*n≤4611686018427360000→A5 (IL n c) fun p=>AZ p.1=true∧AU p.2 (k+40*(n+1))
 |0,c,k,h,hk=>(OG h (by omega)).mono fun p hp=>⟨hp.1,hp.2.up (by omega)⟩
 |n+1,c,k,h,hk=>by
  unfold IL;refine(OG h (by omega)).bind fun p hp=> ?_;split
  ·exact(wL n hp.2 (by omega)).mono fun q hq=>⟨hq.1,hq.2.up (by omega)⟩
  ·exact .ret ⟨hp.1,hp.2.up (by omega)⟩
theorem vD [Inhabited BX]: ∀(n:Nat) {c:An} {k:Int},AU c k→k+40*n≤4611686018427360000→Hj c→A5 (IL n c) fun p=>p.1.ae= []→ ∀j≤n,DR (Fz (6*j+3) c.au.toNat) % 3=0
 |0,c,k,h,hk,he=>by
  refine(jX h (by omega)).mono fun p hp hl j hj=> ?_;have:j=0:=by omega
  subst this;exact(hp.bare he hl).2
 |n+1,c,k,h,hk,he=>by
  unfold IL;refine((jX h (by omega)).and (OG h (by omega))).bind fun p ⟨hp,_,ho⟩=> ?_;split
  ·rename_i h0;have hl:p.1.ae= []:=List.eq_nil_of_length_eq_zero h0;obtain⟨b1,b2⟩:=hp.bare he hl;have he2:Hj p.2:=by rw [b1];exact EX (EX (EX (EX (EX (EX he)))))
   refine(vD n ho (by omega) he2).mono fun q hq JV j hj=> ?_;cases j with
   |zero=>exact b2
   |succ j=>have:=hq JV j (by omega);rw [b1]at this;simp only [mC]at this;rw [show 6*(j+1)+3=6+(6*j+3) by omega,UE];exact this
  ·rename_i h0;exact .ret fun hl=>absurd (by rw [hl];rfl) h0
theorem tR [Inhabited BX]: ∀(m n:Nat) {c:An} {k:Int},AU c k→k+40*(m+n)≤4611686018427360000→sd c→(c.ar.length:Int)-c.bf≤m→(∀{c':An} {k':Int},AU c' k'→k'+40*n≤4611686018427360000→Hj c'→A5 (IL n c') fun p=>p.1.ae≠ [])→A5 (IL (m+n) c) fun p=>p.1.ae≠ []
 |0,n,c,k,h,hk,hs,hl,B6=>by rw [Nat.zero_add];exact B6 h (by omega) ⟨by omega,hs⟩
 |m+1,n,c,k,h,hk,hs,hl,B6=>by
  rw [Nat.add_right_comm];unfold IL;refine((jX h (by omega)).and (OG h (by omega))).bind fun p ⟨hp,_,ho⟩=> ?_;split
  ·have h1:=hp.at_;exact tR m n ho (by omega) hp.n7 (by rw [hp.code];omega) B6
  ·rename_i h0;exact .ret fun hl=>h0 (by rw [hl];rfl)
def RA:Nat:=70368744177664
theorem zxC [Inhabited BX] {c:An} {k:Int} (h:AU c k) (hk:k+40*RA≤4611686018427360000) (he:Hj c):A5 (IL RA c) fun p=>p.1.ae≠ []:=by
 refine(vD RA h hk he).mono fun p hp hl=> ?_;have h0:=hp hl 0 (by decide);have h1:=hp hl 35184372088832 (by decide);have h2:=hp hl 70368744177664 (by decide);refine zGh (x:=Fz 3 c.au.toNat) h0 ?_ ?_
 ·rw [←UE];exact h1
 ·rw [←UE,←UE];exact h2
theorem Rj {β:Type} {n:Nat} {r:Option β} {body:Int→Option (Int ⊕ Option β)} (hs: ∀i:Nat,i<n→body i=some (.inl ((i+1:Nat):Int))) (he:body n=some (.inr r)):AA body 0=r:=by
 match r with
 |none=>
  have key: ∀(m q:Nat),q+m=n→AA body (q:Int)=none:=by
   intro m
   induction m with
   |zero=>
    intro q hq;have:q=n:=by omega
    subst this;exact ED he
   |succ m ih=>intro q hq;rw [E9 (hs q (by omega))];exact ih (q+1) (by omega)
  exact key n 0 (by omega)
 |some b=>have h:=Mz (n:=n) (body:=body) (fun _=>true) b (some b) (fun i hi=>by rw [if_pos rfl];exact hs i hi) he;rw [h];split<;>rfl
theorem zBX {xs:List Ai} (h:xs.length≤2000000):XV xs xs=some true:=by
 unfold XV;rw [if_neg (by simp)];exact Rj (n:=xs.length) (fun i hi=>by
  show TC xs xs i=_;unfold TC;rw [if_pos (by simpa using hi),AO hi,Aa,Aa,if_neg (by simp),Bi hi (by omega)]) (by
  show TC xs xs _=_;unfold TC;rw [if_neg (by simp)])
theorem zCj {xs:List Int} (h:xs.length≤2000000):X3 xs xs=some true:=by
 unfold X3;rw [if_neg (by simp)];exact Rj (n:=xs.length) (fun i hi=>by
  show TG xs xs i=_;unfold TG;rw [if_pos (by simpa using hi),AO hi,Aa,Aa,if_neg (by simp),Bi hi (by omega)]) (by
  show TG xs xs _=_;unfold TG;rw [if_neg (by simp)])
theorem zB4 {xs:List Bool} (h:xs.length≤2000000):X4 xs xs=some true:=by
 unfold X4;rw [if_neg (by simp)];exact Rj (n:=xs.length) (fun i hi=>by
  show TJ xs xs i=_;unfold TJ;rw [if_pos (by simpa using hi),AO hi,Aa,Aa,if_neg (by simp),Bi hi (by omega)]) (by
  show TJ xs xs _=_;unfold TJ;rw [if_neg (by simp)])
theorem zAY {xs:List Ac} (h:xs.length≤2000000):X1 xs xs=some true:=by
 unfold X1;rw [if_neg (by simp)];exact Rj (n:=xs.length) (fun i hi=>by
  show TD xs xs i=_;unfold TD;rw [if_pos (by simpa using hi),AO hi,Aa,Aa,if_neg (by simp),Bi hi (by omega)]) (by
  show TD xs xs _=_;unfold TD;rw [if_neg (by simp)])
theorem zB5 {t:Ad} (h:CJ t):XY t t=some true:=by
 have h1:=h.idxs;unfold XY;rw [if_neg (by simp),zBX h.fh,Aa,if_neg (by simp)];exact Rj (n:=t.ae.length) (fun i hi=>by
  show TH t t i=_;unfold TH;rw [if_pos (by simpa using hi),AO hi,Aa,Aa,if_neg (by simp),Bi hi (by omega)]) (by
  show TH t t _=_;unfold TH;rw [if_neg (by simp)])
theorem zyJ {xs:List Ad} (h:xs.length≤2000000) (ht: ∀t∈xs,CJ t):XI xs xs=some true:=by
 unfold XI;rw [if_neg (by simp)];exact Rj (n:=xs.length) (fun i hi=>by
  show TN xs xs i=_;unfold TN;rw [if_pos (by simpa using hi),AO hi,Aa,Aa,zB5 (ht _ (List.getElem_mem hi)),Aa,if_neg (by simp),Bi hi (by omega)]) (by
  show TN xs xs _=_;unfold TN;rw [if_neg (by simp)])
structure zGu (t:Ad):Prop where
 name:t.ab.length≤9223372036854775807
 fh:t.al.length≤9223372036854775807
 jv: ∀c∈t.al,c.length≤9223372036854775807
 idxs:t.ae.length≤9223372036854775807
 idx: ∀x∈t.ae,x.ab.length≤9223372036854775807
def J4 (st:List Int):Int:=if st.contains 3 then 2 else if st.contains 0 then 0 else 1
theorem zQ {xs:List Int} {k:Int} (h:xs.length≤2000000):Ua xs k=some (xs.contains k):=by
 have key: ∀(n q:Nat),q+n=xs.length→AA (fun s:Int=>Qr xs k s) (q:Int)=some ((xs.drop q).contains k):=by
  intro n
  induction n with
  |zero=>
   intro q hq;have:q=xs.length:=by omega
   subst this;rw [EW];have e:Qr xs k xs.length=some (.inr (some false)):=by unfold Qr;rw [if_neg (by simp)]
   rw [e];simp
  |succ n ih=>
   intro q hq;have Aq:q<xs.length:=by omega
   have ih2:=ih (q+1) (by omega);rw [EW,List.drop_eq_getElem_cons Aq,List.contains_cons];have e:Qr xs k q=some (if(xs[q]==k)=true then .inr (some true)else .inl ((q+1:Nat):Int)):=by unfold Qr;rw [if_pos (by simpa using Aq),AO Aq,Aa,Bi Aq (by omega)];cases(xs[q]==k)<;>rfl
   rw [e];by_cases h1:(xs[q]==k)=true
   ·have h2:xs[q]=k:=by simpa using h1
    rw [if_pos h1];simp [h2]
   ·have h2:(k==xs[q])=false:=by
     rw [Bool.eq_false_iff];intro h3;exact h1 (by simp at h3 ⊢;omega)
    rw [if_neg h1,h2,Bool.false_or];exact ih2
 have:=key xs.length 0 (by omega);unfold Ua;simpa using this
theorem zDe {s:Am} {st:List Int} (hn:st.length=s.a7.length) (hl:st.length≤2000000) (hs: ∀(i:Nat) (hi:i<st.length),∃tb,J7 s i=some tb∧PD s tb=some st[i]):W6 s=some (J4 st):=by
 have key: ∀(n q:Nat) (v:Int),q+n=st.length→AA (fun x:Int × Int=>PE s x.1 x.2) (v,(q:Int))=some (if(st.drop q).contains 3 then 2 else if(st.drop q).contains 0 then 0 else v):=by
  intro n
  induction n with
  |zero=>
   intro q v hq;have:q=st.length:=by omega
   subst this;have e:PE s v st.length=some (.inr (some v)):=by unfold PE;rw [if_neg (by simp [hn])]
   rw [EW];dsimp only;rw [e];simp
  |succ n ih=>
   intro q v hq;have Aq:q<st.length:=by omega
   obtain⟨tb,e1,e2⟩:=hs q Aq;have e:PE s v q=some (if(st[q]==3)=true then .inr (some 2)else if(st[q]==0)=true then .inl (0,((q+1:Nat):Int))else .inl (v,((q+1:Nat):Int))):=by unfold PE;rw [if_pos (by simp;omega),e1,Aa,e2,Aa,Bi Aq (by omega)];cases(st[q]==3)<;>cases(st[q]==0)<;>rfl
   rw [EW,List.drop_eq_getElem_cons Aq,List.contains_cons,List.contains_cons];dsimp only;rw [e];by_cases h1:st[q]=3
   ·simp [h1]
   ·have i0:=ih (q+1) 0 (by omega);have iv:=ih (q+1) v (by omega);have h1a:(st[q]==3)=false:=by simpa using h1
    have h1b:((3:Int)==st[q])=false:=by simp;omega
    rw [h1a,h1b,Bool.false_or];by_cases h2:st[q]=0
    ·simp only [h2,beq_self_eq_true,Bool.true_or,if_true,AY,if_false];rw [i0];split<;>(try split)<;>rfl
    ·have h2a:(st[q]==0)=false:=by simpa using h2
     have h2b:((0:Int)==st[q])=false:=by simp;omega
     rw [h2a,h2b,Bool.false_or];exact iv
 have:=key st.length 0 1 (by omega);unfold W6;simpa [J4]using this
theorem zzs {s:Am} {st:List Int} (hn:st.length=s.a7.length) (hl:st.length≤2000000) (hs: ∀(i:Nat) (hi:i<st.length),∃y tb k x,getI s.a7 i=some y∧getI s.ah y=some tb∧HE tb s.ab=some k∧getI tb.ae k=some x∧x.ak=st[i]):XA s=some st:=by
 unfold XA;have h1:=Ft (xs:=st) (body:=fun x:List Int × Int=>PS s x.1 x.2) (fun i (o:List Int)=>(o,i)) (fun(o:List Int) x=>o++ [x]) (fun o=>some o) (fun i o=>o.length=i)
  (fun i hi o ho=>by
   refine⟨?_,by simp [ho]⟩;obtain⟨y,tb,k,x,e1,e2,e3,e4,e5⟩:=hs i hi;show PS s o i=_;unfold PS;have hq:((((o).length:Int)+(([x.ak]:List Int).length:Int))*8≤140737488355328∧((o).length:Int)+(([x.ak]:List Int).length:Int)≤140737488355328):=by rw [AD];omega
   rw [if_pos (by simp;omega),e1,Aa,e2,Aa,e3,Aa,e4,Aa,AJ hq,Bi hi (by omega),e5])
  (fun o ho=>by show PS s o st.length=_;unfold PS;rw [if_neg (by simp [hn])]) (s:=([]:List Int)) rfl
 have h3:=h1.1;rw [show(fun(o:List Int) x=>o++ [x])=(fun o x=>o++ [id x])from rfl,kM,List.map_id,List.nil_append]at h3;exact h3
theorem o7 {s:Am} {st:List Int} (hn:st.length=s.a7.length) (hl:st.length≤2000000) (hs: ∀(i:Nat) (hi:i<st.length),∃y tb k x,getI s.a7 i=some y∧getI s.ah y=some tb∧HE tb s.ab=some k∧getI tb.ae k=some x∧x.ak=st[i]):TQ s=some (J4 st):=by unfold TQ J4;rw [zzs hn hl hs,Aa,zQ hl,Aa,zQ hl,Aa];split<;>(try split)<;>rfl
theorem MK {α:Type} {xs:List α} {i:Int} {x:α} (h:getI xs i=some x):0≤i∧xs[i.toNat]?=some x∧i<xs.length:=by
 unfold getI at h;split at h
 ·rename_i h0;have:=(List.getElem?_eq_some_iff.1 h).1;exact⟨h0,h,by omega⟩
 ·cases h
def CL (t:Ad) (k c:Int):Ad:=⟨t.ab,t.al,t.ae.set k.toNat {((t.ae[k.toNat]?).getD ⟨[],0,0⟩)with ak:=c}⟩
def FD (a b:Int):Int:=if a<b then a+1 else a-1
def EI:Nat→Int→Int→List Int
 |0,_,_=> []
 |f+1,a,b=>if a=b then []else FD a b::EI f (FD a b) b
def way (t:Ad) (k a b:Int):List Ad:=t::(EI 3 a b).map (CL t k)
theorem lM: ∀(f:Nat) {a b:Int},0≤a→a≤3→0≤b→b≤3→ ∀c∈EI f a b,0≤c∧c≤3
 |0,_,_,_,_,_,_,c,hc=>by simp [EI]at hc
 |f+1,a,b,h1,h2,h3,h4,c,hc=>by
  unfold EI at hc;split at hc
  ·simp at hc
  ·have hn:0≤FD a b∧FD a b≤3:=by unfold FD;split<;>omega
   rcases Af.1 hc with rfl|hc
   ·exact hn
   ·exact lM f hn.1 hn.2 h3 h4 c hc
theorem YN: ∀(f:Nat) (a b:Int),(EI f a b).length≤f
 |0,_,_=>by simp [EI]
 |f+1,a,b=>by
  unfold EI;split
  ·simp
  ·have:=YN f (FD a b) b;simp;omega
theorem kV {t:Ad} {k b:Int} {body:Int × List Ad→Option ((Int × List Ad) ⊕ Option (List Ad))} (Hp:0≤b) (FH:b≤3)
  (hs: ∀a o,0≤a→a≤3→a≠b→o.length≤100→body (a,o)=some (.inl (FD a b,o++ [CL t k (FD a b)]))) (he: ∀o,body (b,o)=some (.inr (some o))):
  ∀(f:Nat) (a:Int) (o:List Ad),0≤a→a≤3→(a-b).natAbs≤f→o.length+f≤100→AA body (a,o)=some (o++(EI f a b).map (CL t k))
 |0,a,o,_,_,hf,_=>by
  have:a=b:=by omega
  subst this;rw [EW,he];simp [EI]
 |f+1,a,o,h0,h3,hf,ho=>by
  by_cases KA:a=b
  ·subst KA;rw [EW,he];simp [EI]
  ·rw [EW,hs a o h0 h3 KA (by omega)];have hn:0≤FD a b∧FD a b≤3∧(FD a b-b).natAbs≤f:=by unfold FD;split<;>omega
   have:=kV Hp FH hs he f (FD a b) (o++ [CL t k (FD a b)]) hn.1 hn.2.1 hn.2.2 (by simp;omega);simp only [this,EI,if_neg KA,List.map_cons,List.append_assoc,List.singleton_append]
theorem cM {t:Ad} (h:CJ t):Qx t=some t:=by unfold Qx;have h1:=h.fh;have h2:=h.idxs;rw [AJ (by simp;omega),AJ (by simp;omega)]
theorem mF {t:Ad} (h:CJ t):P8 t=some t:=by unfold P8 Td dO;have h1:=h.fh;have h2:=h.idxs;rw [OL (by omega) (by omega),Aa,OL (by omega) (by omega),Aa]
theorem mR {t:Ad} {n:Ai} {x:Au} {c:Int} (h:CJ t) (hx:Fe t n x):Qw t n c=some (CL t (Bp (fun y:Au=>y.ab==n) t.ae) c):=by unfold Qw CL;rw [cM h,Aa,Kl h,Aa,hx.at_,Aa,(MK hx.at_).2.1];rfl
theorem pW {t:Ad} {n:Ai} {x:Au} {c:Int} (h:CJ t) (hx:Fe t n x):Tk t n c=some (CL t (Bp (fun y:Au=>y.ab==n) t.ae) c):=by unfold Tk CL;rw [mF h,Aa,UY h,Aa,hx.at_,Aa,(MK hx.at_).2.1];rfl
theorem cI {t:Ad} {n:Ai} {x:Au} {b:Int} (h:CJ t) (hx:Fe t n x) (h0:0≤x.ak) (h3:x.ak≤3) (Hp:0≤b) (FH:b≤3):T0 t n b=some (way t (Bp (fun y:Au=>y.ab==n) t.ae) x.ak b):=by
 unfold T0;rw [cM h,Aa,Kl h,Aa,hx.at_,Aa];refine(kV (t:=t) (k:=Bp (fun y:Au=>y.ab==n) t.ae) Hp FH ?_ ?_ 3 x.ak [t] h0 h3 (by omega) (by simp)).trans (by simp [way])
 ·intro a o O9 RY KA ho;show TK t n b a o=_;unfold TK;rw [if_pos (by simpa using KA)];have w1:IntKind.i64.wrap (a+1)=a+1:=Bh (by omega) (by omega);have w2:IntKind.i64.wrap (a-1)=a-1:=Bh (by omega) (by omega);by_cases Aq:a<b
  ·rw [if_pos (by simpa using Aq),w1,mR h hx,Aa,AJ (by simp;omega)];simp [FD,Aq]
  ·rw [if_neg (by simpa using Aq),w2,mR h hx,Aa,AJ (by simp;omega)];simp [FD,Aq]
 ·intro o;show TK t n b b o=_;unfold TK;rw [if_neg (by simp)]
theorem pZ {t:Ad} {n:Ai} {x:Au} {b:Int} (h:CJ t) (hx:Fe t n x) (h0:0≤x.ak) (h3:x.ak≤3) (Hp:0≤b) (FH:b≤3):Tp t n b=some (way t (Bp (fun y:Au=>y.ab==n) t.ae) x.ak b):=by
 unfold Tp Mk;rw [UY h,Aa,hx.at_,Aa,Aa,mF h,Aa];refine(kV (t:=t) (k:=Bp (fun y:Au=>y.ab==n) t.ae) Hp FH ?_ ?_ 3 x.ak [t] h0 h3 (by omega) (by simp)).trans (by simp [way])
 ·intro a o O9 RY KA ho;show Tv t n b a o=_;unfold Tv;rw [if_pos (by simpa using KA)];have w1:IntKind.i64.wrap (a+1)=a+1:=Bh (by omega) (by omega);have w2:IntKind.i64.wrap (a-1)=a-1:=Bh (by omega) (by omega);by_cases Aq:a<b
  ·rw [if_pos (by simpa using Aq),w1,pW h hx,Aa,AJ (by simp;omega)];simp [FD,Aq]
  ·rw [if_neg (by simpa using Aq),w2,pW h hx,Aa,AJ (by simp;omega)];simp [FD,Aq]
 ·intro o;show Tv t n b b o=_;unfold Tv;rw [if_neg (by simp)]
theorem QP {α β:Type} {xs ys:List α} (hl:xs.length=ys.length) {body:Int→Option (Int ⊕ Option β)} (p:α→α→Bool) (b:β) (fin:Option β)
  (hs: ∀(i:Nat) (hi:i<xs.length) (hj:i<ys.length),body i=some (if p xs[i] ys[i]=true then .inl ((i+1:Nat):Int)else .inr (some b))) (he:body xs.length=some (.inr fin)):AA body 0=if((xs.zip ys).all fun z=>p z.1 z.2)=true then fin else some b:=by
 have hz:(xs.zip ys).length=xs.length:=by simp [hl]
 have h1:=YH (xs:=xs.zip ys) (body:=body) (fun i (_:Unit)=>i) (fun z _=>some (if p z.1 z.2=true then .inl ()else .inr (some b))) (fun _=>fin)
  (fun i hi s=>by
   have Cp:i<xs.length:=by omega
   have Pd:i<ys.length:=by omega
   rw [hs i Cp Pd,List.getElem_zip];cases p xs[i] ys[i]<;>simp [Lw]) (fun s=>by rw [hz];exact he) ()
 rw [lZ (fun z:α × α=>p z.1 z.2) b fun x _ s=>rfl]at h1;exact h1
theorem OQ {α γ:Type} {p:α→α→Bool} {f:α→γ} (h: ∀x y,p x y=true↔f x=f y): ∀{xs ys:List α},xs.length=ys.length→(((xs.zip ys).all fun z=>p z.1 z.2)=true↔xs.map f=ys.map f)
 | [], [],_=>by simp
 | [],_::_,h=>by simp at h
 |_::_, [],h=>by simp at h
 |x::xs,y::ys,hl=>by have:=OQ h (xs:=xs) (ys:=ys) (by simpa using hl);simp only [List.zip_cons_cons,List.all_cons,Ae,List.map_cons,List.cons.injEq,this,h]
def nc (x:Au):Ai × Int:=(x.ab,x.bh)
theorem oY {x y:Au} (h1:nc x=nc y) (h2:x.ak=y.ak):x=y:=by cases x;cases y;simp [nc]at h1 h2;simp [h1,h2]
theorem lE: ∀{xs ys:List Au},xs.map nc=ys.map nc→xs.map (·.ak)=ys.map (·.ak)→xs=ys
 | [], [],_,_=>rfl
 | [],_::_,h,_=>by simp at h
 |_::_, [],h,_=>by simp at h
 |x::xs,y::ys,h1,h2=>by simp only [List.map_cons,List.cons.injEq]at h1 h2;rw [oY h1.1 h2.1,lE h1.2 h2.2]
theorem kD {a b:Ad} (h1:a.ab=b.ab) (h2:a.al=b.al) (h3:a.ae=b.ae):a=b:=by cases a;cases b;simp at h1 h2 h3;simp [h1,h2,h3]
theorem zxH {a b:Ad} (ha:CJ a): ∃r,Xb a b=some r∧(r=true↔a.ab=b.ab∧a.al=b.al∧a.ae.map nc=b.ae.map nc):=by
 unfold Xb;by_cases h0:(((a.ab !=b.ab)||((a.al.length:Int) !=(b.al.length:Int)))||((a.ae.length:Int) !=(b.ae.length:Int)))=true
 ·rw [if_pos h0];refine⟨_,rfl,by simp, ?_⟩;rintro⟨h1,h2,h3⟩;have h4:=congrArg List.length h3;simp only [List.length_map]at h4;rw [h1,h2,h4]at h0;simp at h0
 ·rw [if_neg h0];simp only [Bool.or_eq_true,bne_iff_ne,ne_eq,not_or,Decidable.not_not,Int.natCast_inj]at h0;obtain⟨⟨h1,h2⟩,h3⟩:=h0;have hc:=ha.fh;have hi:=ha.idxs;rw [QP (xs:=a.al) (ys:=b.al) h2 (fun x y=>x==y) false (WK a b) ?_ ?_]
  ·have hk:WK a b=some ((a.ae.zip b.ae).all fun z=>nc z.1==nc z.2):=by
    unfold WK;rw [QP (xs:=a.ae) (ys:=b.ae) h3 (fun x y=>nc x==nc y) false (some true) ?_ ?_]
    ·cases((a.ae.zip b.ae).all fun z=>nc z.1==nc z.2)<;>rfl
    ·intro i Cp Gg;show Tq a b i=_;unfold Tq;rw [if_pos (by simpa using Cp),AO Cp,Aa,AO Gg,Aa,Bi Cp (by omega)];by_cases hq:nc a.ae[i]=nc b.ae[i]
     ·have Ed:=hq;simp only [nc,Prod.mk.injEq]at Ed;rw [if_neg (by simp [Ed.1,Ed.2]),if_pos (by simpa using hq)]
     ·have Ed:=hq;simp only [nc,Prod.mk.injEq,not_and]at Ed;rw [if_pos (by simp only [Bool.or_eq_true,bne_iff_ne,ne_eq];by_cases hz:a.ae[i].ab=b.ae[i].ab;exact .inr (Ed hz);exact .inl hz),if_neg (by simpa using hq)]
    ·show Tq a b a.ae.length=_;unfold Tq;rw [if_neg (by simp)]
   have z1:=OQ (p:=fun x y:Ai=>x==y) (f:=id) (by simp) h2;have z2:=OQ (p:=fun x y:Au=>nc x==nc y) (f:=nc) (by simp) h3;rw [List.map_id,List.map_id]at z1;rw [hk];by_cases hz:((a.al.zip b.al).all fun z=>z.1==z.2)=true
   ·rw [if_pos hz];exact⟨_,rfl,by rw [z2];exact⟨fun h=>⟨h1,z1.1 hz,h⟩,fun h=>h.2.2⟩⟩
   ·rw [if_neg hz];exact⟨_,rfl,by simp,fun h=>absurd (z1.2 h.2.1) hz⟩
  ·intro i Cp Gg;show Tu a b i=_;unfold Tu;rw [if_pos (by simpa using Cp),AO Cp,Aa,AO Gg,Aa,Bi Cp (by omega)];by_cases hq:a.al[i]=b.al[i]
   ·rw [if_neg (by simp [hq]),if_pos (by simpa using hq)]
   ·rw [if_pos (by simpa using hq),if_neg (by simpa using hq)]
  ·show Tu a b a.al.length=_;unfold Tu;rw [if_neg (by simp)]
structure Mb (t:Ad):Prop where
 len:t.ae.length≤3
 nw: ∀x∈t.ae,0≤x.ak∧x.ak≤3
theorem yK: ∀(l:List (Au × Au)) (s:Int),0≤s→(l.foldl (fun s z=>s+((z.1.ak-z.2.ak).natAbs:Int)) s=0↔s=0∧ ∀z∈l,z.1.ak=z.2.ak)
 | [],s,_=>by simp
 |z::l,s,h=>by
  rw [List.foldl_cons,yK l _ (by omega)];constructor
  ·rintro⟨h1,h2⟩;exact⟨by omega,fun y hy=>by
    rcases Af.1 hy with rfl|hy
    ·omega
    ·exact h2 y hy⟩
  ·rintro⟨h1,h2⟩;have:=h2 z (by simp);exact⟨by omega,fun y hy=>h2 y (by simp [hy])⟩
theorem wJ: ∀{xs ys:List Au},xs.length=ys.length→((∀z∈xs.zip ys,z.1.ak=z.2.ak)↔xs.map (·.ak)=ys.map (·.ak))
 | [], [],_=>by simp
 | [],_::_,h=>by simp at h
 |_::_, [],h=>by simp at h
 |x::xs,y::ys,hl=>by have:=wJ (xs:=xs) (ys:=ys) (by simpa using hl);simp only [List.zip_cons_cons,List.forall_mem_cons,this,List.map_cons,List.cons.injEq]
theorem zEV (d:Int) (h1: -3≤d) (h2:d≤3):X2 d (IntKind.i64.wrap (0-d))=some (d.natAbs:Int):=by
 rw [Bh (by omega) (by omega)];unfold X2;by_cases h:d>0-d
 ·rw [if_pos (by simpa using h)];congr 1;omega
 ·rw [if_neg (by simpa using h)];congr 1;omega
theorem zF4 {a b:Ad} (ha:Mb a) (hb:Mb b) (hl:a.ae.length=b.ae.length): ∃v,XZ a b=some v∧(v=0↔a.ae.map (·.ak)=b.ae.map (·.ak)):=by
 unfold XZ;have h3:=ha.len;have hz:(a.ae.zip b.ae).length=a.ae.length:=by simp [hl]
 have h1:=Ft (xs:=a.ae.zip b.ae) (body:=fun s:Int × Int=>Qb a b s.1 s.2) (fun i (s:Int)=>(s,i)) (fun(s:Int) z=>s+((z.1.ak-z.2.ak).natAbs:Int)) (fun s=>some s) (fun i s=>0≤s∧s≤3*(i:Int))
  (fun i hi s hs=>by
   have Cp:i<a.ae.length:=by omega
   have Pd:i<b.ae.length:=by omega
   have ga:=ha.nw a.ae[i] (List.getElem_mem Cp);have gb:=hb.nw b.ae[i] (List.getElem_mem Pd);rw [List.getElem_zip];refine⟨?_, ?_, ?_⟩
   ·show Qb a b s i=_;unfold Qb;rw [if_pos (by simpa using Cp),AO Cp,Aa,AO Pd,Aa,Bh (n:=a.ae[i].ak-b.ae[i].ak) (by omega) (by omega),zEV _ (by omega) (by omega),Aa,Bi Cp (by omega),Bh (by omega) (by omega)]
   ·dsimp only;omega
   ·dsimp only;push_cast;omega)
  (fun s hs=>by show Qb a b s ((a.ae.zip b.ae).length:Int)=_;unfold Qb;rw [hz,if_neg (by simp)]) (s:=0) ⟨by omega,by omega⟩
 refine⟨_,h1.1, ?_⟩;rw [yK _ _ (by omega),←wJ hl];simp
def HW (a b:Ad):Bool:=a.ab==b.ab&&(a.al==b.al&&(a.ae.map nc==b.ae.map nc&&a.ae.map (·.ak)==b.ae.map (·.ak)))
theorem Q2 {a b:Ad}:HW a b=true↔a=b:=by
 unfold HW;simp only [Ae,beq_iff_eq];constructor
 ·rintro⟨h1,h2,h3,h4⟩;exact kD h1 h2 (lE h3 h4)
 ·rintro rfl;simp
theorem zB3 {a b:Ad} (ha:CJ a):Mo a b=some (HW a b):=by
 have key: ∃r,Mo a b=some r∧(r=true↔a=b):=by
  unfold Mo;by_cases h1:(a.ab==b.ab)=true
  ·rw [if_pos h1];have RG:a.ab=b.ab:=by simpa using h1
   have e1: ∃r,Wv a.al b.al=some r∧(r=true↔a.al=b.al):=by
    unfold Wv;by_cases h2:((a.al.length:Int) !=(b.al.length:Int))=true
    ·rw [if_pos h2];exact⟨_,rfl,by simp,fun h=>by rw [h]at h2;simp at h2⟩
    ·rw [if_neg h2];have Vn:a.al.length=b.al.length:=by
      have:(a.al.length:Int)=b.al.length:=by simpa using h2
      omega
     rw [QP (xs:=a.al) (ys:=b.al) Vn (fun x y=>x==y) false (some true) ?_ ?_]
     ·have z1:=OQ (p:=fun x y:Ai=>x==y) (f:=id) (by simp) Vn;rw [List.map_id,List.map_id]at z1;rw [←z1];cases hz:((a.al.zip b.al).all fun z=>z.1==z.2)<;>exact⟨_,rfl,by simp⟩
     ·intro i Cp Gg;show Tf a.al b.al i=_;unfold Tf;have:=ha.fh;rw [if_pos (by simpa using Cp),AO Cp,Aa,AO Gg,Aa,Bi Cp (by omega)];by_cases hq:a.al[i]=b.al[i]
      ·rw [if_neg (by simp [hq]),if_pos (by simpa using hq)]
      ·rw [if_pos (by simpa using hq),if_neg (by simpa using hq)]
     ·show Tf a.al b.al a.al.length=_;unfold Tf;rw [if_neg (by simp)]
   obtain⟨r1,e1,f1⟩:=e1;rw [e1,Aa];by_cases h2:r1=true
   ·rw [if_pos h2];have Vn:=f1.1 h2;have e2: ∃r,Wq a.ae b.ae=some r∧(r=true↔a.ae=b.ae):=by
     unfold Wq;by_cases h3:((a.ae.length:Int) !=(b.ae.length:Int))=true
     ·rw [if_pos h3];exact⟨_,rfl,by simp,fun h=>by rw [h]at h3;simp at h3⟩
     ·rw [if_neg h3];have RM:a.ae.length=b.ae.length:=by
       have:(a.ae.length:Int)=b.ae.length:=by simpa using h3
       omega
      rw [QP (xs:=a.ae) (ys:=b.ae) RM (fun x y=>x.ab==y.ab&&(x.bh==y.bh&&(x.ak==y.ak))) false (some true) ?_ ?_]
      ·have z1:=OQ (p:=fun x y:Au=>x.ab==y.ab&&(x.bh==y.bh&&(x.ak==y.ak))) (f:=id) (fun x y=>by
        simp only [Ae,beq_iff_eq,id];constructor
        ·rintro⟨k1,k2,k3⟩;exact oY (by simp [nc,k1,k2]) k3
        ·rintro rfl;simp) RM
       rw [List.map_id,List.map_id]at z1;rw [←z1];cases((a.ae.zip b.ae).all fun z=>z.1.ab==z.2.ab&&(z.1.bh==z.2.bh&&(z.1.ak==z.2.ak)))<;>exact⟨_,rfl,by simp⟩
      ·intro i Cp Gg;show Te a.ae b.ae i=_;unfold Te;have:=ha.idxs;rw [if_pos (by simpa using Cp),AO Cp,Aa,AO Gg,Aa,Bi Cp (by omega)];cases(a.ae[i].ab==b.ae[i].ab&&(a.ae[i].bh==b.ae[i].bh&&(a.ae[i].ak==b.ae[i].ak)))<;>rfl
      ·show Te a.ae b.ae a.ae.length=_;unfold Te;rw [if_neg (by simp)]
    obtain⟨r2,e2,f2⟩:=e2;rw [e2,Aa];exact⟨_,rfl,by rw [f2];exact⟨fun h=>kD RG Vn h,fun h=>by rw [h]⟩⟩
   ·rw [if_neg h2];exact⟨_,rfl,by simp,fun h=>absurd (f1.2 (by rw [h])) h2⟩
  ·rw [if_neg h1];exact⟨_,rfl,by simp,fun h=>by rw [h]at h1;simp at h1⟩
 obtain⟨r,e,f⟩:=key;rw [e];congr 1;rw [Bool.eq_iff_iff,f,Q2]
structure Dp (s:Am):Prop where
 name:s.ab.length≤2000000
 ways:s.ah.length≤2000000
 way: ∀t∈s.ah,CJ t
 at_:s.a7.length≤2000000
 store:JE s.ao
theorem nB {t:Ad} (h:AZ t=true):Mb t:=by unfold AZ at h;simp only [Ae,decide_eq_true_eq]at h;refine⟨by omega,fun x hx=> ?_⟩;obtain⟨i,hi,rfl⟩:=List.mem_iff_getElem.1 hx;have h1:=AG.1 h.2 i (List.mem_range.2 hi);unfold Hg at h1;simp only [Ae,List.getElem?_eq_getElem hi,Option.getD_some]at h1;exact BW.1 h1.1.2
theorem x6 {α γ:Type} (f:α→γ): ∀(l:List α) (k:Nat) (d y:α),f y=f ((l[k]?).getD d)→(l.set k y).map f=l.map f
 | [],k,d,y,_=>rfl
 |x::l,0,d,y,h=>by simp only [List.getElem?_cons_zero,Option.getD_some]at h;simp [h]
 |x::l,k+1,d,y,h=>by simp only [List.getElem?_cons_succ]at h;simp [x6 f l k d y h]
theorem Ue (t:Ad) (k c:Int):(CL t k c).ae.map (·.ab)=t.ae.map (·.ab):=x6 _ _ _ ⟨[],0,0⟩ _ rfl
theorem zzW {t:Ad} {k c:Int} (h:Mb t) (h0:0≤c) (h3:c≤3):Mb (CL t k c):=by
 refine⟨by unfold CL;simpa using h.len,fun x hx=> ?_⟩;rcases List.mem_or_eq_of_mem_set hx with hx|rfl
 ·exact h.nw x hx
 ·exact⟨h0,h3⟩
theorem zwh {t:Ad} {k c:Int} (h:CJ t):CJ (CL t k c):=by refine⟨h.name,h.fh,h.jv,by unfold CL;simpa using h.idxs,fun x hx=> ?_⟩;have h1:x.ab∈(CL t k c).ae.map (·.ab):=List.mem_map.2 ⟨x,hx,rfl⟩;rw [Ue]at h1;obtain⟨y,hy,e⟩:=List.mem_map.1 h1;rw [←e];exact h.idx y hy
theorem zDv {t:Ad} {k a b:Int} (hS:CJ t) (h:Mb t) (O9:0≤a) (RY:a≤3) (Hp:0≤b) (FH:b≤3): ∀w∈way t k a b,w.ae.map (·.ab)=t.ae.map (·.ab)∧Mb w∧CJ w:=by
 intro w hw;rcases Af.1 hw with rfl|hw
 ·exact⟨rfl,h,hS⟩
 ·obtain⟨c,hc,rfl⟩:=List.mem_map.1 hw;have:=lM 3 O9 RY Hp FH c hc;exact⟨Ue t k c,zzW h this.1 this.2,zwh hS⟩
theorem xB {xs ys:List Au} {n:Ai} (h:xs.map (·.ab)=ys.map (·.ab)):decide (Bp (fun x:Au=>x.ab==n) xs≥0)=decide (Bp (fun x:Au=>x.ab==n) ys≥0):=by
 rw [OM,OM];have e: ∀l:List Au,(l.any fun x=>x.ab==n)=(l.map (·.ab)).any (· ==n):=fun l=>by rw [List.any_map];rfl
 rw [e,e,h]
def L5:Ad:=⟨[], [], []⟩
def C5 (s:Am):Ad:=(s.ah[0]?).getD L5
def HN (s:Am):Ad:=(s.ah[s.ah.length-1]?).getD L5
def BP (t:Ad) (n:Ai):Int:=Bp (fun y:Au=>y.ab==n) t.ae
def BG (t:Ad) (n:Ai):Int:=((t.ae[(BP t n).toNat]?).getD ⟨[],0,0⟩).ak
def DG (s:Am):List Ad:=way (C5 s) (BP (C5 s) s.ab) (BG (C5 s) s.ab) (BG (HN s) s.ab)
theorem zBB {t:Ad} {n:Ai} {x:Au} (h:Fe t n x):BG t n=x.ak:=by unfold BG BP;rw [(MK h.at_).2.1];rfl
theorem OD {s:Am} (h:1≤s.ah.length):getI s.ah 0=some (C5 s)∧C5 s∈s.ah:=by
 have h0:0<s.ah.length:=by omega
 have e:C5 s=s.ah[0]:=by unfold C5;rw [List.getElem?_eq_getElem h0];rfl
 rw [e];exact⟨AO h0,List.getElem_mem h0⟩
theorem kW {s:Am} (h:1≤s.ah.length) (h4:s.ah.length≤4):getI s.ah (IntKind.i64.wrap ((s.ah.length:Int)-1))=some (HN s)∧HN s∈s.ah:=by
 have h0:s.ah.length-1<s.ah.length:=by omega
 have e:HN s=s.ah[s.ah.length-1]:=by unfold HN;rw [List.getElem?_eq_getElem h0];rfl
 have w:IntKind.i64.wrap ((s.ah.length:Int)-1)=((s.ah.length-1:Nat):Int):=by rw [Bh (by omega) (by omega)];omega
 rw [e,w];exact⟨AO h0,List.getElem_mem h0⟩
theorem ML {t:Ad} {n:Ai} (h:BR t n=true): ∃x,Fe t n x∧BG t n=x.ak∧0≤x.ak∧x.ak≤3∧AZ t=true:=by
 obtain⟨x,hx,_⟩:=pK h;have hg:AZ t=true:=by unfold BR at h;simp only [Ae]at h;exact h.1
 have:=(nB hg).nw x (kY hx.at_);exact⟨x,hx,zBB hx,this.1,this.2,hg⟩
theorem zD5 {s:Am} (hS:Dp s) (h1:1≤s.ah.length) (h4:s.ah.length≤4): ∃sw,Qp s=some sw∧(sw=true↔(∀t∈s.ah,BR t s.ab=true)∧s.ah=DG s):=by
 unfold Qp;obtain⟨e0,m0⟩:=OD h1;obtain⟨e1,m1⟩:=kW h1 h4;have S0:=hS.way _ m0;have S1:=hS.way _ m1;rw [Hd,Aa,if_pos (BW.2 ⟨by omega,by omega⟩),e0,Aa,ME S0,Aa];have no: ∀{t:Ad},t∈s.ah→BR t s.ab≠true→(false=true↔(∀t∈s.ah,BR t s.ab=true)∧s.ah=DG s):=fun ht hn=>⟨by simp,fun h=>absurd (h.1 _ ht) hn⟩
 by_cases g0:AZ (C5 s)=true
 ·rw [if_pos g0,Kl S0,Aa];by_cases k0:Bp (fun x:Au=>x.ab==s.ab) (C5 s).ae<0
  ·rw [if_pos (by simpa using k0)];exact⟨_,rfl,no m0 (by unfold BR;intro hq;rw [Ae,decide_eq_true_eq]at hq;omega)⟩
  ·rw [if_neg (by simpa using k0),e1,Aa,ME S1,Aa];by_cases g1:AZ (HN s)=true
   ·rw [if_pos g1,Kl S1,Aa];by_cases k1:Bp (fun x:Au=>x.ab==s.ab) (HN s).ae<0
    ·rw [if_pos (by simpa using k1)];exact⟨_,rfl,no m1 (by unfold BR;intro hq;rw [Ae,decide_eq_true_eq]at hq;omega)⟩
    ·rw [if_neg (by simpa using k1),Aa];have H0:BR (C5 s) s.ab=true:=by unfold BR;simp only [Ae,decide_eq_true_eq];exact⟨g0,by omega⟩
     have H1:BR (HN s) s.ab=true:=by unfold BR;simp only [Ae,decide_eq_true_eq];exact⟨g1,by omega⟩
     obtain⟨x,hx,sx,x0,x3,_⟩:=ML H0;obtain⟨y,hy,sy,y0,y3,_⟩:=ML H1;rw [hy.at_,Aa,cI S0 hx x0 x3 y0 y3,Aa];have hW:way (C5 s) (Bp (fun y:Au=>y.ab==s.ab) (C5 s).ae) x.ak y.ak=DG s:=by unfold DG BP;rw [sx,sy]
     rw [hW];have hM:=zDv (t:=C5 s) (k:=BP (C5 s) s.ab) (a:=BG (C5 s) s.ab) (b:=BG (HN s) s.ab) S0 (nB g0) (by omega) (by omega) (by omega) (by omega);have hM: ∀w∈DG s,w.ae.map (·.ab)=(C5 s).ae.map (·.ab)∧Mb w∧CJ w:=hM;by_cases hl:((DG s).length:Int) !=(s.ah.length:Int)
     ·rw [if_pos hl];exact⟨_,rfl,by simp,fun h=>by rw [←h.2]at hl;simp at hl⟩
     ·rw [if_neg hl];have Bx:(DG s).length=s.ah.length:=by
       have:((DG s).length:Int)=(s.ah.length:Int):=by simpa using hl
       omega
      rw [QP (xs:=DG s) (ys:=s.ah) Bx (fun w y=>AZ y&&HW w y) false (some true) ?_ ?_]
      ·have z1:=OQ (p:=HW) (f:=id) (fun x y=>Q2) Bx;rw [List.map_id,List.map_id]at z1;have z2:((DG s).zip s.ah).all (fun z=>AZ z.2)=s.ah.all AZ:=by
        have:=List.map_snd_zip (l₁:=DG s) (l₂:=s.ah) (by omega)
        conv=>rhs;rw [←this]
        rw [List.all_map];rfl
       have z3:(((DG s).zip s.ah).all fun z=>AZ z.2&&HW z.1 z.2)=(s.ah.all AZ&&((DG s).zip s.ah).all fun z=>HW z.1 z.2):=by rw [←z2];rw [Bool.eq_iff_iff];simp only [AG,Ae];exact⟨fun h=>⟨fun z hz=>(h z hz).1,fun z hz=>(h z hz).2⟩,fun h z hz=>⟨h.1 z hz,h.2 z hz⟩⟩
       have key:(((DG s).zip s.ah).all fun z=>AZ z.2&&HW z.1 z.2)=true↔(∀t∈s.ah,BR t s.ab=true)∧s.ah=DG s:=by
        rw [z3,Ae,z1];constructor
        ·rintro⟨a1,a2⟩;refine⟨fun t ht=> ?_,a2.symm⟩;have q1:=AG.1 a1 t ht;rw [←a2]at ht;have q2:=xB (n:=s.ab) (hM t ht).1;unfold BR at H0 ⊢;simp only [Ae]at H0 ⊢;exact⟨q1,by rw [q2];exact H0.2⟩
        ·rintro⟨a1,a2⟩;exact⟨AG.2 fun t ht=>by have:=a1 t ht;unfold BR at this;simp only [Ae]at this;exact this.1,a2.symm⟩
       by_cases hz:(((DG s).zip s.ah).all fun z=>AZ z.2&&HW z.1 z.2)=true
       ·rw [if_pos hz];exact⟨_,rfl,fun _=>key.1 hz,fun _=>rfl⟩
       ·rw [if_neg hz];exact⟨_,rfl,by simp,fun h=>absurd (key.2 h) hz⟩
      ·intro i hi hj;show TM s (DG s) i=_;unfold TM;have Sj:=hS.way _ (List.getElem_mem hj);obtain⟨_,Ti,Si⟩:=hM _ (List.getElem_mem hi);rw [if_pos (by simpa using hi),AO hj,Aa,ME Sj,Aa];by_cases gj:AZ s.ah[i]=true
       ·rw [if_pos gj,AO hi,Aa];obtain⟨r,er,fr⟩:=zxH (a:=(DG s)[i]) (b:=s.ah[i]) Si;rw [er,Aa];by_cases hr:r=true
        ·rw [if_pos hr];obtain⟨c1,c2,c3⟩:=fr.1 hr;have c4:=congrArg List.length c3;simp only [List.length_map]at c4;obtain⟨v,ev,fv⟩:=zF4 Ti (nB gj) c4;rw [ev,Aa,Bi hi (by omega)];by_cases hv:v=0
         ·have:=Q2.2 (kD c1 c2 (lE c3 (fv.1 hv)));rw [if_neg (by simp [hv]),if_pos (by rw [gj,this];rfl)]
         ·rw [if_pos (by simpa using hv),if_neg (by simp only [Ae,not_and];intro _ h;rw [Q2.1 h]at fv;exact hv (fv.2 rfl))]
        ·rw [if_neg hr,if_neg (by simp only [Ae,not_and];intro _ h;rw [Q2.1 h]at fr;exact hr (fr.2 ⟨rfl,rfl,rfl⟩))]
       ·rw [if_neg gj,if_neg (by simp [gj])]
      ·show TM s (DG s) (DG s).length=_;unfold TM;rw [if_neg (by simp)]
   ·rw [if_neg g1];exact⟨_,rfl,no m1 (by unfold BR;simp [g1])⟩
 ·rw [if_neg g0];exact⟨_,rfl,no m0 (by unfold BR;simp [g0])⟩
theorem zDY {xs:List Int} {a b:Int} (h:xs.length≤2000000):X9 xs a b=some (xs.all fun y=>BL y a b):=by
 unfold X9;have h1:=YH (xs:=xs) (body:=fun s:Int=>P3 xs a b s) (fun i (_:Unit)=>i) (fun y _=>some (if BL y a b=true then .inl ()else .inr (some false))) (fun _=>some true)
  (fun i hi s=>by
   show P3 xs a b i=_;unfold P3;rw [if_pos (by simpa using hi),AO hi,Aa,Hd,Aa,Bi hi (by omega)];cases BL xs[i] a b<;>simp [Lw]) (fun s=>by
   show P3 xs a b xs.length=_;unfold P3;rw [if_neg (by simp)]) ()
 rw [lZ (fun y=>BL y a b) false fun x _ s=>rfl]at h1;refine h1.trans ?_;cases(xs.all fun y=>BL y a b)<;>rfl
def Cr (s:Am):Prop:=1≤s.ah.length∧s.ah.length≤4∧(∀t∈s.ah,BR t s.ab=true)∧s.ah=DG s∧BL s.a7.length 1 3=true∧(∀y∈s.a7,0≤y∧y≤(s.ah.length:Int)-1)∧D5 s.ao=true
theorem pH {s:Am}:(s.a7.all fun y=>BL y 0 ((s.ah.length:Int)-1))=true↔ ∀y∈s.a7,0≤y∧y≤(s.ah.length:Int)-1:=by rw [AG];exact⟨fun h y hy=>BW.1 (h y hy),fun h y hy=>BW.2 (h y hy)⟩
theorem zC4 {s:Am} (hS:Dp s): ∃g,XB s=some g∧(g=true↔Cr s):=by
 unfold XB;by_cases h:1≤s.ah.length∧s.ah.length≤4
 ·obtain⟨sw,e,f⟩:=zD5 hS h.1 h.2;rw [e,Aa];have w:IntKind.i64.wrap ((s.ah.length:Int)-1)=(s.ah.length:Int)-1:=Bh (by omega) (by omega);by_cases hw:sw=true
  ·rw [if_pos hw,Hd,Aa];by_cases h2:BL s.a7.length 1 3=true
   ·rw [if_pos h2,w,zDY hS.at_,Aa];by_cases h3:(s.a7.all fun y=>BL y 0 ((s.ah.length:Int)-1))=true
    ·rw [if_pos h3,MG hS.store,Aa];exact⟨_,rfl,fun h5=>⟨h.1,h.2,(f.1 hw).1,(f.1 hw).2,h2,pH.1 h3,h5⟩,fun h5=>h5.2.2.2.2.2.2⟩
    ·rw [if_neg h3];exact⟨_,rfl,by simp,fun h5=>absurd (pH.2 h5.2.2.2.2.2.1) h3⟩
   ·rw [if_neg h2];exact⟨_,rfl,by simp,fun h5=>absurd h5.2.2.2.2.1 h2⟩
  ·rw [if_neg hw];exact⟨_,rfl,by simp,fun h5=>absurd (f.2 ⟨h5.2.2.1,h5.2.2.2.1⟩) hw⟩
 ·have e:Qp s=some false:=by
   unfold Qp;rw [Hd,Aa,if_neg (by rw [BW];omega)]
  rw [e,Aa,if_neg (by simp)];exact⟨_,rfl,by simp,fun h5=>absurd ⟨h5.1,h5.2.1⟩ h⟩
theorem zyZ {xs ys:List Ad} (h: ∀t∈xs,CJ t) (hl:xs.length≤2000000): ∃r,Wr xs ys (fun a b=>Mo a b)=some r∧(r=true↔xs=ys):=by
 unfold Wr;by_cases h3:((xs.length:Int) !=(ys.length:Int))=true
 ·rw [if_pos h3];exact⟨_,rfl,by simp,fun h=>by rw [h]at h3;simp at h3⟩
 ·rw [if_neg h3];have RM:xs.length=ys.length:=by
   have:(xs.length:Int)=ys.length:=by simpa using h3
   omega
  rw [QP (xs:=xs) (ys:=ys) RM HW false (some true) ?_ ?_]
  ·have z1:=OQ (p:=HW) (f:=id) (fun x y=>Q2) RM;rw [List.map_id,List.map_id]at z1;rw [←z1];cases((xs.zip ys).all fun z=>HW z.1 z.2)<;>exact⟨_,rfl,by simp⟩
  ·intro i Cp Gg;show Th xs ys (fun a b=>Mo a b) i=_;unfold Th;rw [if_pos (by simpa using Cp),AO Cp,Aa,AO Gg,Aa,Bi Cp (by omega)];dsimp only;rw [zB3 (h _ (List.getElem_mem Cp)),Aa];cases HW xs[i] ys[i]<;>rfl
  ·show Th xs ys (fun a b=>Mo a b) xs.length=_;unfold Th;rw [if_neg (by simp)]
theorem yO {s:Am} {t:Ad} {x:Au} (h:CJ t) (hx:Fe t s.ab x):PD s t=some x.ak:=by unfold PD Mk;rw [UY h,Aa,hx.at_,Aa,Aa]
theorem zP {s:Am} (hS:Dp s): ∃g,Mq s=some g∧(g=true↔Cr s):=by
 unfold Mq;rw [IG,Aa];by_cases hb:BL s.ah.length 1 4=true
 ·have h:=BW.1 hb;rw [if_pos hb,IG,Aa];by_cases h2:BL s.a7.length 1 3=true
  ·rw [if_pos h2,zT hS.store,Aa];by_cases h3:D5 s.ao=true
   ·rw [if_neg (by simp [h3]),UO (fun t=> !BR t s.ab) (fun t ht=>by unfold eT;rw [oZ (hS.way t ht),Aa]) (by omega),Aa];by_cases h4:(s.ah.any fun t=> !BR t s.ab)=true
    ·rw [if_pos h4];refine⟨_,rfl,by simp,fun h5=> ?_⟩;obtain⟨t,ht,hn⟩:=List.any_eq_true.1 h4;rw [h5.2.2.1 t ht]at hn;simp at hn
    ·have hA: ∀t∈s.ah,BR t s.ab=true:=fun t ht=>by
      cases hq:BR t s.ab with
      |true=>rfl
      |false=>exact absurd (List.any_eq_true.2 ⟨t,ht,by simp [hq]⟩) h4
     have w:IntKind.i64.wrap ((s.ah.length:Int)-1)=(s.ah.length:Int)-1:=Bh (by omega) (by omega);have M9:=hS.at_;rw [if_neg h4,UO (fun y=> !BL y 0 ((s.ah.length:Int)-1)) (fun y hy=>by unfold eP;rw [w,IG,Aa]) (by omega),Aa];by_cases h5:(s.a7.any fun y=> !BL y 0 ((s.ah.length:Int)-1))=true
     ·rw [if_pos h5];refine⟨_,rfl,by simp,fun h6=> ?_⟩;obtain⟨y,hy,hn⟩:=List.any_eq_true.1 h5;rw [BW.2 (h6.2.2.2.2.2.1 y hy)]at hn;simp at hn
     ·have hB: ∀y∈s.a7,0≤y∧y≤(s.ah.length:Int)-1:=fun y hy=>by
       cases hq:BL y 0 ((s.ah.length:Int)-1)with
       |true=>exact BW.1 hq
       |false=>exact absurd (List.any_eq_true.2 ⟨y,hy,by simp [hq]⟩) h5
      obtain⟨e0,m0⟩:=OD (s:=s) (by omega);obtain⟨e1,m1⟩:=kW (s:=s) (by omega) (by omega);obtain⟨x,hx,sx,x0,x3,_⟩:=ML (hA _ m0);obtain⟨y,hy,sy,y0,y3,_⟩:=ML (hA _ m1);rw [if_neg h5,e0,Aa,e1,Aa,yO (hS.way _ m1) hy,Aa,pZ (hS.way _ m0) hx x0 x3 y0 y3,Aa];have hW:way (C5 s) (Bp (fun y:Au=>y.ab==s.ab) (C5 s).ae) x.ak y.ak=DG s:=by unfold DG BP;rw [sx,sy]
      rw [hW];obtain⟨r,er,fr⟩:=zyZ (xs:=s.ah) (ys:=DG s) hS.way hS.ways;rw [er,Aa];exact⟨_,rfl,fun hr=>⟨by omega,by omega,hA,fr.1 hr,h2,hB,h3⟩,fun h6=>fr.2 h6.2.2.2.1⟩
   ·rw [if_pos (by simp [h3])];exact⟨_,rfl,by simp,fun h5=>absurd h5.2.2.2.2.2.2 h3⟩
  ·rw [if_neg h2];exact⟨_,rfl,by simp,fun h5=>absurd h5.2.2.2.2.1 h2⟩
 ·rw [if_neg hb];exact⟨_,rfl,by simp,fun h5=>absurd (BW.2 ⟨by have:=h5.1;omega,by have:=h5.2.1;omega⟩) hb⟩
def EV (t:Ad) (n:Ai):Au:=(t.ae[(BP t n).toNat]?).getD ⟨[],0,0⟩
theorem pG {t:Ad} {n:Ai} {x:Au} (h:Fe t n x):EV t n=x:=by unfold EV BP;rw [(MK h.at_).2.1];rfl
def Q0 (s:Am):List Int:=s.a7.map fun y=>BG ((getI s.ah y).getD L5) s.ab
def Gy (s:Am):Bool:=holds (C5 s) s.ab (EV (C5 s) s.ab) (J4 (Q0 s)) s.ao
theorem kQ {s:Am} (hS:Dp s) (hg:Cr s):TS s=some (Gy s)∧PB s=some (Gy s):=by
 obtain⟨h1,h4,hA,_,h3,hB,hR⟩:=hg;have h3:=BW.1 h3;obtain⟨e0,m0⟩:=OD (s:=s) h1;obtain⟨x,hx,k1,k2,k3⟩:=pK (hA _ m0);have hT:=zDG hR;have hW:=hS.store;have Fo: ∀y∈s.a7,∃tb x,getI s.ah y=some tb∧tb∈s.ah∧Fe tb s.ab x∧BG tb s.ab=x.ak:=fun y hy=>by obtain⟨tb,q1,q2,_⟩:=IJ (hB y hy).1 (by have:=(hB y hy).2;omega:y<s.ah.length);obtain⟨x,q3,q4,_⟩:=ML (hA tb q2);exact⟨tb,x,q1,q2,q3,q4⟩
 let st:List Int:=s.a7.map fun y=>BG ((getI s.ah y).getD L5) s.ab;have hn:st.length=s.a7.length:=by simp [st]
 have hl:st.length≤2000000:=by have:=hS.at_;omega
 have n1:=o7 (s:=s) (st:=st) hn hl fun i hi=>by
  have Fx:i<s.a7.length:=by omega
  obtain⟨tb,x,q1,q2,q3,q4⟩:=Fo _ (List.getElem_mem Fx);refine⟨s.a7[i],tb,_,x,AO Fx,q1,Kl (hS.way _ q2),q3.at_, ?_⟩;simp only [st,List.getElem_map,q1,Option.getD_some,q4]
 have n2:=zDe (s:=s) (st:=st) hn hl fun i hi=>by
  have Fx:i<s.a7.length:=by omega
  obtain⟨tb,x,q1,q2,q3,q4⟩:=Fo _ (List.getElem_mem Fx);refine⟨tb, ?_, ?_⟩
  ·unfold J7;rw [AO Fx,Aa,q1,Aa]
  ·rw [yO (hS.way _ q2) q3];simp only [st,List.getElem_map,q1,Option.getD_some,q4]
 unfold TS PB;have S0:=hS.way _ m0;have oB:=hS.name;have EP:Oq (C5 s) s.ab s.ao=some true:=by rw [zBc S0 hW];unfold cO;rw [hA _ m0,hR];rfl
 rw [e0,Aa,Aa,n1,n2,Aa,Aa,zB2 S0 (by omega) oB hx hW.1 hT EP,zBt S0 k1 oB k3 hx hW.1 hT];unfold Gy;rw [pG hx];exact⟨rfl,rfl⟩
theorem zy5 {s:Am} (hS:Dp s) (hg:Cr s): ∃r,TS s=some r∧PB s=some r:=⟨_,kQ hS hg⟩
def Vl (t:Ad) (n:Ai) (st:List Ac):Prop:= ∀w∈st,Dn t n w.af=false
def RD (t:Ad) (n:Ai) (x:Au) (st:List Ac):Prop:= ∀w∈st,Dn t n w.af=true→ ∃q∈st,CS t q=true∧w.af=Cm t n x.bh (Cy q)
def Vm (t:Ad) (n:Ai) (x:Au) (st:List Ac):Prop:= ∀q∈st,CS t q=true→ ∃w∈st,w.af=Cm t n x.bh (Cy q)
structure EK (t:Ad) (a:A2):Prop where
 tab:AZ t=true
 old:a.aj≠1→Bl t a.bd=true
 new:a.aj≠2→Bl t a.bj=true
 kind:a.aj=1∨a.aj=2∨a.aj=3
 same:a.aj=3→CM a.bd 0=CM a.bj 0
structure Hh (t:Ad) (a:A2) (n:Ai) (x:Au):Prop extends EK t a where
 idx:x∈t.ae
 name:x.ab=n
theorem Hh.oe {t:Ad} {a:A2} {n:Ai} {x:Au} (A:Hh t a n x):EK t a:=⟨A.tab,A.old,A.new,A.kind,A.same⟩
theorem zDA {t:Ad} {a:A2} (hg:AZ t=true) (h:Hb t a=true):EK t a:=by
 unfold Hb at h;by_cases h1:a.aj=1
 ·rw [if_pos h1,Ae]at h;exact⟨hg,fun k=>absurd h1 k,fun _=>h.2, .inl h1,fun k=>by omega⟩
 rw [if_neg h1]at h;by_cases h2:a.aj=2
 ·rw [if_pos h2,Ae]at h;exact⟨hg,fun _=>h.1,fun k=>absurd h2 k, .inr (.inl h2),fun k=>by omega⟩
 rw [if_neg h2]at h;by_cases h3:a.aj=3
 ·rw [if_pos h3,Ae,Ae,beq_iff_eq]at h;exact⟨hg,fun _=>h.1,fun _=>h.2.1, .inr (.inr h3),fun _=>h.2.2⟩
 rw [if_neg h3]at h;cases h
theorem zEa {t:Ad} {a:A2} {n:Ai} {x:Au} (hg:AZ t=true) (hx:x∈t.ae) (hn:x.ab=n) (h:Hb t a=true):Hh t a n x:=⟨zDA hg h,hx,hn⟩
theorem mX (t:Ad) (m:Ai) (c:Int) (r:AI):Cm t m c r≠ []:=by unfold Cm;simp
section
variable {t:Ad} {a:A2} (A:EK t a)
include A
theorem EK.dv (h:a.aj≠1) {y:Au}:EM t a y=Cm t y.ab y.bh a.bd:=by have _:=A;unfold EM;rw [if_neg h]
theorem EK.dt (h:a.aj≠2) {y:Au}:D9 t a y=Cm t y.ab y.bh a.bj:=by have _:=A;unfold D9;rw [if_neg h]
theorem EK.fj {y:Au} {w:Ac} (hw:w∈He t a y):(w=⟨EM t a y, [],true⟩∧a.aj≠1∧EM t a y≠D9 t a y∧y.ak≥1)∨(w=⟨D9 t a y, [],false⟩∧a.aj≠2∧y.ak≥2):=by
 have _:=A;unfold He at hw;rcases Ah.1 hw with hw|hw
 ·split at hw
  ·rename_i h;rw [List.mem_singleton]at hw;refine .inl ⟨hw,fun k=> ?_,h.2.1,h.2.2⟩;apply h.1;unfold EM;rw [if_pos k]
  ·simp at hw
 ·split at hw
  ·rename_i h;rw [List.mem_singleton]at hw;refine .inr ⟨hw,fun k=> ?_,h.2⟩;apply h.1;unfold D9;rw [if_pos k]
  ·simp at hw
theorem EK.c7 {n:Ai} {y:Au} (hy:y∈t.ae) {w:Ac} (hw:w∈He t a y): ∃r,Bl t r=true∧w.af=Cm t y.ab y.bh r∧Dn t n w.af=decide (y.ab=n):=by
 have hc:=BW.1 (Fc A.tab hy).2;have hl:=(Fc A.tab hy).1;rcases A.fj hw with⟨rfl,h,_⟩|⟨rfl,h,_⟩
 ·refine⟨a.bd,A.old h,A.dv h, ?_⟩;show Dn t n (EM t a y)=_;rw [A.dv h];exact YF A.tab hl (A.old h) (by omega) hc.2
 ·refine⟨a.bj,A.new h,A.dt h, ?_⟩;show Dn t n (D9 t a y)=_;rw [A.dt h];exact YF A.tab hl (A.new h) (by omega) hc.2
theorem EK.gn {w:Ac} (hw:w∈HQ t a): ∃r,Bl t r=true∧w.af=(A6 t r).af:=by
 unfold HQ at hw;split at hw
 ·rename_i h;rw [List.mem_singleton]at hw;subst hw;exact⟨a.bj,A.new (by omega),rfl⟩
 ·rename_i h;split at hw
  ·rw [List.mem_singleton]at hw;subst hw;exact⟨a.bd,A.old h,rfl⟩
  ·rw [List.mem_singleton]at hw;subst hw;exact⟨a.bd,A.old h,rfl⟩
theorem EK.gr {w:Ac} (hw:w∈D8 t a):w∈HQ t a∨ ∃y∈t.ae,w∈He t a y:=by
 have _:=A;unfold D8 at hw;rcases Ah.1 hw with h|h
 ·exact .inl h
 ·exact .inr (List.mem_flatMap.1 h)
theorem EK.jd (h:a.aj≠2):A6 t a.bj∈D8 t a:=by
 refine Ah.2 (.inl ?_);unfold HQ;rcases A.kind with k|k|k
 ·rw [if_pos k];exact List.mem_singleton.2 rfl
 ·exact absurd k h
 ·rw [if_neg (by omega),if_neg (by omega),List.mem_singleton,Jy,A.same k,←Jy];rfl
theorem EK.dw {w:Ac} (hw:w∈D8 t a) (hr:CS t w=true):w=A6 t a.bj∧a.aj≠2:=by
 obtain⟨Hs,Gl⟩:=MD hr;rcases A.gr hw with h|⟨y,hy,h⟩
 ·unfold HQ at h;rcases A.kind with k|k|k
  ·rw [if_pos k,List.mem_singleton]at h;exact⟨h,by omega⟩
  ·rw [if_neg (by omega),if_pos k,List.mem_singleton]at h;have:w.bb=true:=by rw [h]
   rw [Gl]at this;cases this
  ·rw [if_neg (by omega),if_neg (by omega),List.mem_singleton,Jy,A.same k,←Jy]at h;exact⟨h,by omega⟩
 ·obtain⟨r,Nl,e,_⟩:=A.c7 (n:= []) hy h;rw [Gl]at e;exact absurd e (Yi A.tab (Fc A.tab hy).1 Hs Nl)
theorem EK.fm {w q:Ac} (hw:w∈D8 t a) (hq:CS t q=true) (e:w.af=q.af):w∈HQ t a:=by
 obtain⟨Hs,Gl⟩:=MD hq;rcases A.gr hw with h|⟨y,hy,h⟩
 ·exact h
 ·obtain⟨r,Nl,e2,_⟩:=A.c7 (n:= []) hy h;rw [e,Gl]at e2;exact absurd e2 (Yi A.tab (Fc A.tab hy).1 Hs Nl)
theorem EK.fb (h:a.aj≠1) {w:Ac} (hw:w∈HQ t a):w.af=(A6 t a.bd).af:=by have _:=A;unfold HQ at hw;rw [if_neg h]at hw;split at hw<;>(rw [List.mem_singleton]at hw;rw [hw])
theorem EK.fq (h:a.aj≠1): ∃w∈D8 t a,w.af=(A6 t a.bd).af:=by have _:=A;unfold D8 HQ;rw [if_neg h];split<;>exact⟨_,Ah.2 (.inl (List.mem_singleton.2 rfl)),rfl⟩
theorem EK.gl (h:a.aj=1) {w:Ac} (hw:w∈HQ t a):w.af=(A6 t a.bj).af:=by have _:=A;unfold HQ at hw;rw [if_pos h,List.mem_singleton]at hw;rw [hw]
end
section
variable {t:Ad} {a:A2} {n:Ai} {x:Au} (A:Hh t a n x)
include A
theorem Hh.ma:Cl n 1=true:=by rw [←A.name];exact(Fc A.tab A.idx).1
theorem Hh.jv:1≤x.bh∧x.bh≤(t.al.length:Int)-1:=BW.1 (Fc A.tab A.idx).2
theorem Hh.jh {w:Ac} (hw:w∈He t a x):w∈D8 t a:=by unfold D8;exact Ah.2 (.inr (List.mem_flatMap.2 ⟨x,A.idx,hw⟩))
theorem Hh.dr {w:Ac} (hw:w∈D8 t a) (he:Dn t n w.af=true):w∈He t a x:=by
 rcases A.gr hw with h|⟨y,hy,h⟩
 ·obtain⟨r,hr,e⟩:=A.gn h;rw [e,zyA A.tab hr]at he;cases he
 ·obtain⟨r,_,_,e⟩:=A.c7 (n:=n) hy h;rw [e,decide_eq_true_eq]at he;have:y=x:=(lU A.tab).gf hy A.idx (he.trans A.name.symm);rw [←this];exact h
variable {st st':List Ac} (hB:U5 t a st st')
include hB
theorem Hh.jt (hs:x.ak≤1) (h:Vl t n st):Vl t n st':=by
 intro y hy;cases he:Dn t n y.af with
 |false=>rfl
 |true=>
  obtain⟨E3,h1|h1⟩:=(hB y).1 hy
  ·rcases A.fj (A.dr h1 he)with⟨e,_⟩|⟨_,_,k⟩
   ·rw [e]at E3;cases E3
   ·omega
  ·rw [h y h1.1]at he;cases he
theorem Hh.ee (hr:Dc st) (hA:Wa t a st) (hs:1≤x.ak) (h:RD t n x st):RD t n x st':=by
 have AS:a.aj≠2→ ∃q∈st',CS t q=true∧Cy q=a.bj:=fun k=>
  ⟨A6 t a.bj,(hB _).2 ⟨rfl, .inl (A.jd k)⟩,cK A.tab (A.new k),Ux A.tab (A.new k)⟩
 intro y hy he;obtain⟨E3,h1|⟨h1,h2⟩⟩:=(hB y).1 hy
 ·rcases A.fj (A.dr h1 he)with⟨e,_⟩|⟨e,k,_⟩
  ·rw [e]at E3;cases E3
  ·obtain⟨q,q1,q2,q3⟩:=AS k;refine⟨q,q1,q2, ?_⟩;rw [q3,e];show D9 t a x=_;rw [A.dt k,A.name]
 ·obtain⟨q,q1,q2,q3⟩:=h y h1 he;obtain⟨Hs,Gl⟩:=MD q2;by_cases ho: ∀w∈D8 t a,w.af≠q.af
  ·exact⟨q,(hB q).2 ⟨by rw [Gl];rfl, .inr ⟨q1,ho⟩⟩,q2,q3⟩
  ·have⟨w,hw,e⟩: ∃w∈D8 t a,w.af=q.af:=by
    apply Classical.byContradiction;intro hc;exact ho fun w hw e=>hc ⟨w,hw,e⟩
   have NO:=A.fm hw q2 e;by_cases k1:a.aj=1
   ·exact absurd (e.symm.trans (A.gl k1 NO)) (hA.1 k1 q q1)
   ·have hq:q=A6 t a.bd:=DO.gf (key:=fun w:Ac=>w.af) hr q1 (hA.2 k1) (e.symm.trans (A.fb k1 NO));have G3:y.af=EM t a x:=by
     rw [q3,hq,Ux A.tab (A.old k1),A.dv k1,A.name]
    have Jf:EM t a x=D9 t a x:=by
     apply Classical.byContradiction;intro hc;have hm:(⟨EM t a x, [],true⟩:Ac)∈He t a x:=by unfold He;rw [if_pos ⟨by rw [A.dv k1];exact mX _ _ _ _,hc,hs⟩];simp
     exact h2 _ (A.jh hm) G3.symm
    have k2:a.aj≠2:=by
     intro k;have:D9 t a x= []:=by unfold D9;rw [if_pos k]
     rw [this,A.dv k1]at Jf;exact mX _ _ _ _ Jf
    obtain⟨p,p1,p2,p3⟩:=AS k2;refine⟨p,p1,p2, ?_⟩;rw [p3,G3,Jf,A.dt k2,A.name]
theorem Hh.ja (hn: ∀w∈st,w.bb=false) (hs:2≤x.ak) (h:Vm t n x st):Vm t n x st':=by
 intro q hq hr;obtain⟨Hs,Gl⟩:=MD hr;obtain⟨E3,h1|⟨h1,h2⟩⟩:=(hB q).1 hq
 ·obtain⟨e,k⟩:=A.dw h1 hr;have hm:(⟨D9 t a x, [],false⟩:Ac)∈He t a x:=by
   unfold He;refine Ah.2 (.inr ?_);rw [if_pos ⟨by rw [A.dt k];exact mX _ _ _ _,hs⟩];simp
  refine⟨_,(hB _).2 ⟨rfl, .inl (A.jh hm)⟩, ?_⟩;show D9 t a x=_;rw [e,Ux A.tab (A.new k),A.dt k,A.name]
 ·obtain⟨w,w1,w2⟩:=h q h1 hr;by_cases ho: ∀z∈D8 t a,z.af≠w.af
  ·exact⟨w,(hB w).2 ⟨hn w w1, .inr ⟨w1,ho⟩⟩,w2⟩
  ·have⟨z,hz,e⟩: ∃z∈D8 t a,z.af=w.af:=by
    apply Classical.byContradiction;intro hc;exact ho fun z hz e=>hc ⟨z,hz,e⟩
   have he:Dn t n z.af=true:=by rw [e,w2,YF A.tab A.ma Hs (by have:=A.jv;omega) A.jv.2];simp
   rcases A.fj (A.dr hz he)with⟨e1,k1,_⟩|⟨e1,k2,_⟩
   ·exfalso;have hk:Cm t n x.bh a.bd=Cm t n x.bh (Cy q):=by
     have:z.af=EM t a x:=by rw [e1]
     rw [e,w2,A.dv k1,A.name]at this;exact this.symm
    have hp:=zwu A.tab A.ma (A.old k1) Hs hk;obtain⟨u,u1,u2⟩:=A.fq k1;apply h2 u u1;rw [u2,Gl,Jy,Jy,hp]
   ·exact⟨z,(hB z).2 ⟨by rw [e1], .inl hz⟩,e.trans w2⟩
end
theorem vN {t:Ad} {n:Ai} {x:Au} {st:List Ac}:holds t n x 0 st=true↔Vl t n st:=by
 unfold holds F5 Vl;rw [if_pos (by rfl)];simp only [List.length_map,beq_iff_eq];constructor
 ·intro h w hw;have h0:(st.filter fun w=>Dn t n w.af)= []:=List.eq_nil_of_length_eq_zero (by omega);have:=List.filter_eq_nil_iff.1 h0 w hw;simpa using this
 ·intro h;rw [List.filter_eq_nil_iff.2 fun w hw=>by rw [h w hw];simp];rfl
theorem lC {a b:List Ai}:((NV a b).length:Int)=0↔ ∀k∈a,k∈b:=by
 unfold NV;constructor
 ·intro h k hk;have h0:(a.filter fun k=> !b.contains k)= []:=List.eq_nil_of_length_eq_zero (by omega);have:=List.filter_eq_nil_iff.1 h0 k hk;simpa using this
 ·intro h;rw [List.filter_eq_nil_iff.2 fun k hk=>by simpa using h k hk];rfl
theorem Ui {t:Ad} {n:Ai} {x:Au} {st:List Ac} {k:Ai}:k∈wanted t n x st↔ ∃q∈st,CS t q=true∧k=Cm t n x.bh (Cy q):=by
 unfold wanted rows;simp only [List.mem_map,List.mem_filter];constructor
 ·rintro⟨r,⟨q,⟨h1,h2⟩,rfl⟩,rfl⟩;exact⟨q,h1,h2,rfl⟩
 ·rintro⟨q,h1,h2,rfl⟩;exact⟨_,⟨q,⟨h1,h2⟩,rfl⟩,rfl⟩
theorem Yg {t:Ad} {n:Ai} {st:List Ac} {k:Ai}:k∈F5 t n st↔ ∃w∈st,Dn t n w.af=true∧k=w.af:=by
 unfold F5;simp only [List.mem_map,List.mem_filter];constructor
 ·rintro⟨w,⟨h1,h2⟩,rfl⟩;exact⟨w,h1,h2,rfl⟩
 ·rintro⟨w,h1,h2,rfl⟩;exact⟨w,⟨h1,h2⟩,rfl⟩
theorem pA {t:Ad} {n:Ai} {x:Au} {st:List Ac}:(∀k∈F5 t n st,k∈wanted t n x st)↔RD t n x st:=by
 constructor
 ·intro h w hw he;exact Ui.1 (h w.af (Yg.2 ⟨w,hw,he,rfl⟩))
 ·intro h k hk;obtain⟨w,hw,he,rfl⟩:=Yg.1 hk;exact Ui.2 (h w hw he)
theorem wX {t:Ad} {n:Ai} {x:Au} {st:List Ac}:holds t n x 1 st=true↔RD t n x st:=by rw [←pA,←lC];unfold holds;rw [if_neg (by decide)];simp
theorem zDy {t:Ad} {a:A2} {n:Ai} {x:Au} {st:List Ac} (A:Hh t a n x):(∀k∈wanted t n x st,k∈F5 t n st)↔Vm t n x st:=by
 constructor
 ·intro h q hq hr;obtain⟨w,hw,_,e⟩:=Yg.1 (h _ (Ui.2 ⟨q,hq,hr,rfl⟩));exact⟨w,hw,e.symm⟩
 ·intro h k hk;obtain⟨q,hq,hr,rfl⟩:=Ui.1 hk;obtain⟨w,hw,e⟩:=h q hq hr;refine Yg.2 ⟨w,hw, ?_,e.symm⟩;rw [e,YF A.tab A.ma (MD hr).1 (by have:=A.jv;omega) A.jv.2];simp
theorem wU {t:Ad} {a:A2} {n:Ai} {x:Au} {st:List Ac} (A:Hh t a n x):holds t n x 2 st=true↔RD t n x st∧Vm t n x st:=by rw [←pA,←zDy A,←lC,←lC];unfold holds;rw [if_neg (by decide)];simp
theorem zF6 {t:Ad} {a:A2} {n:Ai} {x:Au} {st st':List Ac} {low:Int} (A:Hh t a n x) (hg:D5 st=true) (hA:Wa t a st) (hB:U5 t a st st')
  (hl:low=0∧x.ak≤1∨low=1∧1≤x.ak∨low=2∧2≤x.ak) (h:holds t n x low st=true):holds t n x low st'=true:=by
 obtain⟨hr,hn⟩:=OC hg;rcases hl with⟨rfl,hs⟩|⟨rfl,hs⟩|⟨rfl,hs⟩
 ·exact vN.2 (A.jt hB hs (vN.1 h))
 ·exact wX.2 (A.ee hB hr.cc hA hs (wX.1 h))
 ·have h2:=(wU A).1 h;exact(wU A).2 ⟨A.ee hB hr.cc hA (by omega) h2.1,A.ja hB hn hs h2.2⟩
abbrev U4 (l:List Ac):Prop:=l.Pairwise fun a b=>a.af≠b.af
theorem lX: ∀(l:List Ac) {s:List Ac},U4 l→Dc s→ ∀y,y∈l.foldl (fun o w=>BA wk w o) s↔y∈l∨y∈s∧ ∀w∈l,w.af≠y.af
 | [],s,_,_,y=>by simp
 |x::l,s,hl,hs,y=>by
  unfold U4 at hl;rw [List.pairwise_cons]at hl;rw [List.foldl_cons,lX l hl.2 (Ut hs),UC hs];constructor
  ·rintro(h|⟨h1|h1,h2⟩)
   ·exact .inl (by simp [h])
   ·exact .inl (by simp [h1])
   ·exact .inr ⟨h1.1,fun w hw=>by
     rcases Af.1 hw with rfl|hw
     ·exact fun e=>h1.2 e.symm
     ·exact h2 w hw⟩
  ·rintro(h|⟨h1,h2⟩)
   ·rcases Af.1 h with rfl|h
    ·exact .inr ⟨.inl rfl,fun w hw e=>hl.1 w hw e.symm⟩
    ·exact .inl h
   ·exact .inr ⟨.inr ⟨h1,fun e=>h2 x (by simp) e.symm⟩,fun w hw=>h2 w (by simp [hw])⟩
theorem zyf {l:List Ac} (h:Dc l):U4 l:=List.Pairwise.imp (fun h=>F9 h) h
theorem vY: ∀(l:List Ac) {s:List Ac},Dc s→Dc (l.foldl (fun o w=>BA wk w o) s)
 | [],_,h=>h
 |_::l,_,h=>vY l (Ut h)
theorem zBv {t:Ad} {m n:Ai} {c d:Int} {r q:AI} (hg:AZ t=true) (hm:Cl m 1=true) (hn:Cl n 1=true) (h:Bl t r=true) (k:Bl t q=true) (A9:m≠n):Cm t m c r≠Cm t n d q:=by intro e;have h1:=QT (c:=c) hg hm h;rw [e,QT hg hn k]at h1;simp only [List.cons.injEq]at h1;have h2:=h1.1;unfold head at h2;exact A9 (List.append_cancel_left h2).symm
theorem EK.apart {t:Ad} {a:A2} (A:EK t a):U4 (D8 t a):=by
 unfold U4 D8;rw [List.pairwise_append];refine⟨?_, ?_,fun w hw z hz e=> ?_⟩
 ·unfold HQ;split
  ·exact List.pairwise_singleton _ _
  ·split<;>exact List.pairwise_singleton _ _
 ·rw [List.pairwise_flatMap];refine⟨fun y hy=> ?_, ?_⟩
  ·unfold He;rw [List.pairwise_append];refine⟨?_, ?_,fun w hw z hz e=> ?_⟩
   ·split
    ·exact List.pairwise_singleton _ _
    ·exact List.Pairwise.nil
   ·split
    ·exact List.pairwise_singleton _ _
    ·exact List.Pairwise.nil
   ·split at hw
    ·rename_i h;rw [List.mem_singleton]at hw;split at hz
     ·rw [List.mem_singleton]at hz;rw [hw,hz]at e;exact h.2.1 e
     ·simp at hz
    ·simp at hw
  ·refine List.Pairwise.imp_of_mem (fun{y z} hy hz hyz w hw u hu e=> ?_) (lU A.tab);obtain⟨r,h1,h2,_⟩:=A.c7 (n:= []) hy hw;obtain⟨q,k1,k2,_⟩:=A.c7 (n:= []) hz hu;rw [h2,k2]at e;exact zBv A.tab (Fc A.tab hy).1 (Fc A.tab hz).1 h1 k1 (F9 hyz) e
 ·obtain⟨r,h1,h2⟩:=A.gn hw;obtain⟨y,hy,hz⟩:=List.mem_flatMap.1 hz;obtain⟨q,k1,k2,_⟩:=A.c7 (n:= []) hy hz;rw [h2,k2]at e;exact Yi A.tab (Fc A.tab hy).1 h1 k1 e
theorem EK.behind {t:Ad} {a:A2} (A:EK t a) {st:List Ac} (hr:Dc st):U5 t a st (Ew st ((D8 t a).foldl (fun o w=>BA wk w o) [])):=by
 have hw:Dc ((D8 t a).foldl (fun o w=>BA wk w o) []):=vY _ List.Pairwise.nil;have hm: ∀y,y∈(D8 t a).foldl (fun o w=>BA wk w o) []↔y∈D8 t a:=fun y=>by rw [lX _ A.apart List.Pairwise.nil];simp
 intro y;unfold Ew;rw [List.mem_filter,lX _ (zyf hw) hr,hm];constructor
 ·rintro⟨h|⟨h1,h2⟩,h3⟩
  ·exact⟨by simpa using h3, .inl h⟩
  ·exact⟨by simpa using h3, .inr ⟨h1,fun w hw=>h2 w ((hm w).2 hw)⟩⟩
 ·rintro⟨h3,h|⟨h1,h2⟩⟩
  ·exact⟨.inl h,by simpa using h3⟩
  ·exact⟨.inr ⟨h1,fun w hw=>h2 w ((hm w).1 hw)⟩,by simpa using h3⟩
def HA (o:Az):Ac:=if o.aj=3 then⟨o.af, [],true⟩else⟨o.af,o.ay,false⟩
theorem zBH (t:Ad) (a:A2) (x:Au):(Gt t a x).map HA=He t a x:=by
 unfold Gt He Kj IN;rw [List.map_append];congr 1
 ·split<;>rfl
 ·split<;>rfl
theorem uT {α β:Type} (f:α→List β): ∀(xs:List α) (a:List β),xs.foldl (fun a x=>a++f x) a=a++xs.flatMap f
 | [],a=>by simp
 |x::xs,a=>by rw [List.foldl_cons,uT f xs,List.flatMap_cons,List.append_assoc]
theorem zwg (t:Ad) (a:A2): ∃o rest,Fg t a=o::rest∧rest.map HA=D8 t a∧(∀p∈rest,p.aj=2∨p.aj=3)∧
  (a.aj=1→o=⟨6,(A6 t a.bj).af, [],0⟩)∧(a.aj≠1→o=⟨7,(A6 t a.bd).af,(A6 t a.bd).ay,0⟩):=by
 have hi: ∀p∈t.ae.flatMap (Gt t a),p.aj=2∨p.aj=3:=by
  intro p hp;obtain⟨y,_,hp⟩:=List.mem_flatMap.1 hp;unfold Gt Kj IN at hp;rcases Ah.1 hp with hp|hp
  ·split at hp
   ·rw [List.mem_singleton]at hp;subst hp;exact .inr rfl
   ·simp at hp
  ·split at hp
   ·rw [List.mem_singleton]at hp;subst hp;exact .inl rfl
   ·simp at hp
 have hw:(t.ae.flatMap (Gt t a)).map HA=t.ae.flatMap (He t a):=by rw [List.map_flatMap];congr 1;funext y;exact zBH t a y
 unfold Fg D8 HQ;rw [uT];unfold Kh;by_cases h1:a.aj=1
 ·rw [if_pos h1,if_pos h1];refine⟨_,_,rfl, ?_,fun p hp=> ?_,fun _=>rfl,fun k=>absurd h1 k⟩
  ·show HA _::(t.ae.flatMap (Gt t a)).map HA=_;rw [hw];rfl
  ·rcases Af.1 hp with rfl|hp
   ·exact .inl rfl
   ·exact hi p hp
 ·rw [if_neg h1,if_neg h1];by_cases h2:a.aj=2
  ·rw [if_pos h2,if_pos h2];refine⟨_,_,rfl, ?_,fun p hp=> ?_,fun k=>absurd k h1,fun _=>rfl⟩
   ·show HA _::(t.ae.flatMap (Gt t a)).map HA=_;rw [hw];rfl
   ·rcases Af.1 hp with rfl|hp
    ·exact .inr rfl
    ·exact hi p hp
  ·rw [if_neg h2,if_neg h2];refine⟨_,_,rfl, ?_,fun p hp=> ?_,fun k=>absurd k h1,fun _=>rfl⟩
   ·show HA _::(t.ae.flatMap (Gt t a)).map HA=_;rw [hw];rfl
   ·rcases Af.1 hp with rfl|hp
    ·exact .inl rfl
    ·exact hi p hp
theorem jI {got:List BC}: ∀(l:List Az) (ws:List Ac),(∀p∈l,p.aj=2∨p.aj=3)→Dh got l ws=(3, [],(l.map HA).foldl (fun o w=>BA wk w o) ws)
 | [],ws,_=>rfl
 |o::l,ws,h=>by
  have hl: ∀p∈l,p.aj=2∨p.aj=3:=fun p hp=>h p (by simp [hp]);rw [Dh,List.map_cons,List.foldl_cons];rcases h o (by simp)with k|k
  ·rw [if_pos k,jI l _ hl];unfold HA;rw [if_neg (by omega)]
  ·rw [if_neg (by omega),if_pos k,jI l _ hl];unfold HA;rw [if_pos k]
theorem zzE {st:List Ac} {o:Az} {rest:List Az} (h2:o.aj≠2) (h3:o.aj≠3) (hr: ∀p∈rest,p.aj=2∨p.aj=3):
  F7 st (o::rest)=if Ga o (CT st o.af).ay (CT st o.af).c8=true then((rest.map HA).foldl (fun o w=>BA wk w o) [],true)else([],false):=by
 have hgk:(CT st o.af).af=o.af:=by unfold CT;cases st.find? (fun w=>w.af==o.af)<;>rfl
 have Bz:Dh [] (o::rest) []=(1,o.af, []):=by rw [Dh,if_neg h2,if_neg h3,if_neg (by simp [CU,M0])]
 have Fo:CU [] [CT st o.af] o.af=((CT st o.af).ay,(CT st o.af).c8,true):=by unfold CU M0;rw [List.find?_nil,List.find?_cons,show((CT st o.af).af==o.af)=true by rw [hgk];simp]
 have AW:Dh [CT st o.af] (o::rest) []=if Ga o (CT st o.af).ay (CT st o.af).c8=true then(3, [],(rest.map HA).foldl (fun o w=>BA wk w o) [])else(2, [], []):=by rw [Dh,if_neg h2,if_neg h3,Fo,if_pos rfl,jI rest [] hr]
 unfold F7;rw [L9,Bz,if_pos rfl,L9];show(if(Dh [CT st o.af] (o::rest) []).1=1 then _ else((Dh [CT st o.af] (o::rest) []).2.2,(Dh [CT st o.af] (o::rest) []).1==3))=_;rw [AW];by_cases hk:Ga o (CT st o.af).ay (CT st o.af).c8=true
 ·rw [if_pos hk,if_pos hk,if_neg (by simp)];rfl
 ·rw [if_neg hk,if_neg hk,if_neg (by simp)];rfl
theorem zx1 {t:Ad} {a:A2} (A:EK t a) {st:List Ac} (hg:D5 st=true) (h:(Ef st (Fg t a)).2=true):Wa t a st∧U5 t a st (Ef st (Fg t a)).1:=by
 obtain⟨hr,hn⟩:=OC hg;obtain⟨o,rest,e,hw,hk,h1,h7⟩:=zwg t a;have hk67:o.aj=6∨o.aj=7:=by
  by_cases k:a.aj=1
  ·rw [h1 k];exact .inl rfl
  ·rw [h7 k];exact .inr rfl
 have hR:=zzE (st:=st) (o:=o) (rest:=rest) (by omega) (by omega) hk;rw [e]at h ⊢;unfold Ef at h ⊢;rw [hR]at h ⊢;by_cases Ax:Ga o (CT st o.af).ay (CT st o.af).c8=true
 ·rw [if_pos Ax,hw]at h ⊢;by_cases hl:(Ew st ((D8 t a).foldl (fun o w=>BA wk w o) [])).length≤24
  ·rw [if_pos ⟨rfl,hl⟩];refine⟨⟨fun k w hm he=> ?_,fun k=> ?_⟩,A.behind hr.cc⟩
   ·rw [h1 k]at Ax;unfold Ga CT at Ax;rw [if_pos rfl]at Ax;cases ef:st.find? (fun w=>w.af==(A6 t a.bj).af)with
    |some z=>rw [ef]at Ax;cases Ax
    |none=>rw [List.find?_eq_none]at ef;exact absurd (by simpa using he) (ef w hm)
   ·rw [h7 k]at Ax;unfold Ga CT at Ax;rw [if_neg (by simp)]at Ax;cases ef:st.find? (fun w=>w.af==(A6 t a.bd).af)with
    |none=>rw [ef]at Ax;cases Ax
    |some z=>
     rw [ef]at Ax;simp only [Bool.true_and,beq_iff_eq]at Ax;have hz:=List.mem_of_find?_eq_some ef;have SX:z.af=(A6 t a.bd).af:=by simpa using List.find?_some ef
     have oP:=hn z hz;have:z=A6 t a.bd:=by cases z;simp only at Ax SX oP;rw [Ax,SX,oP];rfl
     rw [←this];exact hz
  ·rw [if_neg fun q=>hl q.2]at h;cases h
 ·rw [if_neg Ax]at h;rw [if_neg (by simp)]at h;cases h
theorem zyn {t:Ad} {a:A2} {n:Ai} {x:Au} {st:List Ac} {low:Int} (A:Hh t a n x) (hg:D5 st=true) (hl:low=0∧x.ak≤1∨low=1∧1≤x.ak∨low=2∧2≤x.ak)
  (h:holds t n x low st=true):holds t n x low (Ef st (Fg t a)).1=true:=by
 cases hd:(Ef st (Fg t a)).2 with
 |true=>obtain⟨hA,hB⟩:=zx1 A.oe hg hd;exact zF6 A hg hA hB hl h
 |false=>
  have:(Ef st (Fg t a)).1=st:=by
   unfold Ef at hd ⊢;split at hd
   ·cases hd
   ·rename_i q;rw [if_neg q]
  rw [this];exact h
theorem zAm {t:Ad} {n:Ai} {c:Int} (h:BR t n=true):(EV (CL t (BP t n) c) n).ak=c:=by
 obtain⟨x,hx,_⟩:=ML h;have hl:=(MK hx.at_).2.2;have h0:=(MK hx.at_).1;have e1: ∀l:List Au,Bp (fun x:Au=>x.ab==n) l=Bp (· ==n) (l.map (·.ab)):=fun l=>by
  induction l with
  |nil=>rfl
  |cons x l ih=>rw [List.map_cons,MA,MA,ih]
 have hk:BP (CL t (BP t n) c) n=BP t n:=by unfold BP;rw [e1,e1,Ue]
 have LL:(BP t n).toNat<t.ae.length:=by have:Bp (fun y:Au=>y.ab==n) t.ae=BP t n:=rfl;rw [this]at hl h0;omega
 unfold EV;rw [hk];unfold CL;dsimp only;rw [List.getElem?_set_self LL];rfl
end Go.Proofs.YtlhlgboblghkdaaGreatDoor
end
