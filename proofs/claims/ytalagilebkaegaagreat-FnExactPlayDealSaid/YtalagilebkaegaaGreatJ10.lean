/- Parts of a proof, joined: NSV, NSW, NSX, NFG, NFH, NFK, NVA, NVB, NVC, NVD, NVE, NVH, NVI, QLL, QLM. -/
import Derived.Test.YtalagilebkaegaaGreatJ9
set_option linter.unusedVariables false
set_option linter.unusedSimpArgs false
namespace Go.Proofs.YtalagilebkaegaaGreat
open Go.RowKit
section
set_option maxRecDepth 100000
set_option maxHeartbeats 1000000
set_option maxHeartbeats 2000000
theorem yV(ws:List An)(k:Ap):H9 ws k=(ws.find? λw=>w.ah==k).isSome:=by unfold H9;rw[Sv]
theorem Sg{ws os:List An}{rs:List Ap}(hw:ws.length<=2000000)(hr:rs.length<=2000000)(ho:os.length<=2000000)(hR:Jm os):Vy ws rs os=some (B6 ws rs os):=by
 unfold Vy;rw[L5 (xs:=ws) (λw=>H9 os w.ah||rs.contains w.ah) (λw _=> ?_) (by omega),Aa]
 ·rfl
 ·unfold jT;obtain⟨i,⟨e,x,_,h⟩|⟨e,h⟩⟩:=zFb (k:=w.ah) ho hR
  ·rw[e,Aa,yV,h];rfl
  ·rw[e,Aa,yV,h,zFK hr];simp
theorem zC2{h:Ay}{rs:List Ap}{ws:List An}(hh:HH h)(hr:rs.length<=8)(hw:ws.length<=8)(hR:Jm ws):XS h ⟨0,0,0,rs,ws⟩=some (CR h rs ws):=by
 obtain⟨h1,h2,h3⟩:=hh;unfold XS R6;rw[Sg (by show ws.length<=_;omega) (by omega) (by omega) h3,Aa];unfold CR;show(if B6 ws h.ak h.ab=true then some true else _).bind _=_;cases B6 ws h.ak h.ab with
 |true=>simp
 |false=>rw[if_neg (by simp)];rw[Sg (by omega) (by show rs.length<=_;omega) (by show ws.length<=_;omega) hR,Aa,Aa];simp
theorem aI{h:Ay}{rs:List Ap}{ws:List An}(hh:HH h)(hr:rs.length<=8)(hw:ws.length<=8):R0 h rs ws=some (!CR h rs ws):=by
 obtain⟨h1,h2,h3⟩:=hh;unfold R0;have k1:Ys h ws=some (!B6 ws h.ak h.ab):=by
  unfold Ys;refine(Ps (xs:=ws) (λw=>H9 h.ab w.ah||h.ak.contains w.ah) (λ_=>some false) (some true) (λi hi=>by
   unfold jK;rw[if_pos (by simpa using hi),AN hi,Aa,tH (by omega),Aa,Bx (by omega)];cases H9 h.ab ws[i].ah with
   |true=>rfl
   |false=>
    rw[if_neg (by simp),zFM (by omega),Aa,Bool.false_or];have e:h.ak.any (· ==ws[i].ah)=h.ak.contains ws[i].ah:=by rw[Bool.eq_iff_iff,List.any_eq_true,List.contains_iff_mem];exact⟨λ⟨x,hx,he⟩=>(show x=ws[i].ah by simpa using he)▸hx,λhm=>⟨_,hm,by simp⟩⟩
    rw[e];cases h.ak.contains ws[i].ah<;>rfl) (by
   unfold jK;rw[if_neg (by simp)])).trans ?_
  unfold B6;rw[<-Sv];cases ws.find? (λw=>H9 h.ab w.ah||h.ak.contains w.ah)<;>rfl
 refine(Ps (xs:=rs) (λr=>H9 h.ab r) (λ_=>some false) (Ys h ws) (λi hi=>by
  unfold iF;rw[if_pos (by simpa using hi),AN hi,Aa,tH (by omega),Aa,Bx (by omega)];cases H9 h.ab rs[i]<;>rfl) (by
  unfold iF;rw[if_neg (by simp)])).trans ?_
 have e:CR h rs ws=(rs.any (H9 h.ab)||B6 ws h.ak h.ab):=by
  unfold CR;rw[Bool.eq_iff_iff,Bool.or_eq_true,Bool.or_eq_true];constructor
  ·rintro(hc|hc)
   ·obtain⟨w,Qj,Um⟩:=List.any_eq_true.1 hc;rcases Bool.or_eq_true _ _▸Um with hq|hq
    ·obtain⟨v,FB,Df⟩:=List.any_eq_true.1 hq;have Df:v.ah=w.ah:=by simpa using Df
     exact .inr (List.any_eq_true.2 ⟨v,FB,by rw[Bool.or_eq_true];left;exact List.any_eq_true.2 ⟨w,Qj,by simp[Df]⟩⟩)
    ·exact .inl (List.any_eq_true.2 ⟨w.ah,List.contains_iff_mem.1 hq,List.any_eq_true.2 ⟨w,Qj,by simp⟩⟩)
   ·exact .inr hc
  ·rintro(hc|hc)
   ·obtain⟨r,GP,DV⟩:=List.any_eq_true.1 hc;obtain⟨w,Qj,Um⟩:=List.any_eq_true.1 DV;have Um:w.ah=r:=by simpa using Um
    exact .inl (List.any_eq_true.2 ⟨w,Qj,by rw[Bool.or_eq_true];right;exact List.contains_iff_mem.2 (Um▸GP)⟩)
   ·exact .inr hc
 rw[k1,e,<-Sv];cases rs.find? (H9 h.ab)<;>rfl
def K4(s:Ai)(rs:List Ap)(ws:List An):Bool:= !(s.ae.any λh=>CR h rs ws)&&(decide (s.ae.length<12)&&Ie s.aj (ws++Dk s.ae))
theorem zES{s:Ai}{rs:List Ap}{ws:List An}(h:Dx 24 s.aj)(hl:s.ae.length<=12)(ho:∀h∈s.ae,HH h)(hr:rs.length<=8)(hw:ws.length<=8)(hR:Jm ws):X3 s rs ws=some (K4 s rs ws):=by
 unfold X3 K4;rw[L5 (xs:=s.ae) (λh=>CR h rs ws) (λy hy=>zC2 (ho y hy) hr hw hR) (by omega),Aa];cases hq:s.ae.any (λh=>CR h rs ws)with
 |true=>rw[if_pos rfl];rfl
 |false=>
  rw[if_neg (by simp)];have Ax:gZ s.ae=some s.ae:=Jj (by omega) (by omega);rw[Ax,Aa,A7 (by simp only[Bd];omega),pZ h (by simp;omega) (λy hy=>by
   rcases Ac.1 hy with hy|hy
   ·exact ho y hy
   ·have:y=⟨0,0,0,rs,ws⟩:=by simpa using hy
    subst this;exact⟨hr,hw,hR⟩),Aa]
  have e:Dk (s.ae++ [(⟨0,0,0,rs,ws⟩:Ay)])=Dk s.ae++ws:=by unfold Dk;simp
  rw[e,zze];simp only[Bool.not_false,Bool.true_and,AP,Bd];congr 2
theorem zEO{s:Ai}{rs:List Ap}{ws:List An}(h:Dx 24 s.aj)(hl:s.ae.length<=12)(ho:∀h∈s.ae,HH h)(hr:rs.length<=8)(hw:ws.length<=8):Ze s rs ws=some (K4 s rs ws):=by
 unfold Ze;refine(Ps (xs:=s.ae) (λh=>CR h rs ws) (λ_=>some false) (Yi s ws) (λi hi=>by
  unfold jD;rw[if_pos (by simpa using hi),AN hi,Aa,aI (ho _ (AF hi)) hr hw,Aa,Bx (by omega),Bool.not_not];cases CR s.ae[i] rs ws<;>rfl) (by
  unfold jD;rw[if_neg (by simp)])).trans ?_
 unfold K4;rw[<-Sv];cases s.ae.find? (λh=>CR h rs ws)with
 |some y=>rfl
 |none=>
  show Yi s ws=_;unfold Yi;rw[pO h hl ho hw];by_cases FJ:s.ae.length<12
  ·rw[if_pos (by simp;omega)];simp[FJ]
  ·rw[if_neg (by simp;omega)];simp[FJ]
structure WS(s:Ai):Prop where
 cells:Dx 24 s.aj
 en:s.ae.length<=12
 di:Cf hk s.ae
 held:∀h∈s.ae,HH h/\Nz h.ab
 dq:Cf tk s.aq
 told:∀t∈s.aq,1<=tk t/\tk t<=60
structure Il(r:Bv):Prop where
 reads:r.ak.length<=8
 writes:r.ab.length<=8
 di:Jm r.ab
 small:Nz r.ab
 time:r.bc≠1->r.bc≠4->r.bm=true->0<r.af
 mh:r.bc≠4->1<=r.ao/\r.ao<=60
theorem WS.cx{s:Ai}(h:WS s):s.aq.length<=60:=by have:=Cf.len (lo:=1) (hi:=60) h.dq h.told;omega
def Mr(r:Bv):Ay:=⟨r.ao,r.af,r.br,r.ak,r.ab⟩
def Gz(l:List Ay)(t:Int):List Ay:=l.filter λh=>decide (hk h≠t)
def Mn(s:Ai)(r:Bv):List Bj:=Eu tk ⟨r.ao,r.bm,r.af⟩ s.aq
def DD(s:Ai)(r:Bv):Option Ai:=
 if r.bc=4 then(if s.au<r.af then some ⟨r.af,s.aj,s.ae,s.aq⟩else none)
 else if(Fq s r.ao).isSome=true then none
 else if r.bc=1 then
  (if(CZ s r.ao).isSome=true then none
  else if r.af<=s.au then none
  else if K4 s r.ak r.ab=true then some ⟨r.af,s.aj,Eu hk (Mr r) s.ae,s.aq⟩else none)
 else if r.bm=true then
  (match CZ s r.ao with
  |none=>none
  |some h=>if r.af<h.af then none else match LJ s.aj h.ab r.af with
   |none=>none
   |some o=>some ⟨if s.au<r.af then r.af else s.au,o,Gz s.ae r.ao,Mn s r⟩)
 else some ⟨s.au,s.aj,Gz s.ae r.ao,Mn s r⟩
theorem ZU{s:Ai}{t:Int}(h: ¬(Fq s t).isSome=true):∀y∈s.aq,tk y≠t:=by
 intro y hy e;have h:(Fq s t)=none:=by cases hq:Fq s t with|none=>rfl|some x=>rw[hq]at h;exact absurd rfl h
 have:=List.find?_eq_none.1 h y hy;simp[e]at this
theorem ZT{s:Ai}{t:Int}(h: ¬(CZ s t).isSome=true):∀y∈s.ae,hk y≠t:=by
 intro y hy e;have h:(CZ s t)=none:=by cases hq:CZ s t with|none=>rfl|some x=>rw[hq]at h;exact absurd rfl h
 have:=List.find?_eq_none.1 h y hy;simp[e]at this
theorem Dx.k8{n:Nat}{l:List Aj}(h:Dx n l)(hg:Eo l=true):Dx 24 l:=by unfold Eo at hg;simp only[Ab,AR,Bl]at hg;obtain⟨h1,h2,_⟩:=hg;refine⟨h.1,by omega,λc hc=> ?_⟩;obtain⟨a,b,d⟩:=h.2.2 c hc;have:=h2 c hc;unfold Gx IL at this;simp only[Ab]at this;have h3:=this.2.1;unfold BI at h3;simp only[Ab,AR]at h3;exact⟨a,by omega,d⟩
theorem zFk{l o:List Aj}{ws:List An}{t:Int}(h:Dx 24 l)(hw:Nz ws)(e:LJ l ws t=some o):Dx 24 o:=by
 unfold LJ at e;cases h1:GC t l ws with
 |none=>rw[h1]at e;cases e
 |some p=>
  rw[h1]at e;have e:(if Eo p=true then some p else none)=some o:=e;by_cases hg:Eo p=true
  ·rw[if_pos hg]at e;cases e;exact Dx.k8 (pS (by have:=hw.1;omega) hw.2 h h1) hg
  ·rw[if_neg hg]at e;cases e
theorem WS.less{s:Ai}(h:WS s)(t:Int):(Gz s.ae t).length<=12/\Cf hk (Gz s.ae t)/\ ∀h∈Gz s.ae t,HH h/\Nz h.ab:=
 ⟨by have:=List.length_filter_le (λh=>decide (hk h≠t)) s.ae;have:=h.en;unfold Gz;omega,h.di.filter _,λy hy=>h.held y (List.mem_filter.1 hy).1⟩
theorem WS.ll{s:Ai}{r:Bv}(h:WS s)(hr:Il r)(h4:r.bc≠4)(hn:∀y∈s.aq,tk y≠r.ao):Cf tk (Mn s r)/\ ∀t∈Mn s r,1<=tk t/\tk t<=60:=
 ⟨h.dq.ins hn,λt ht=>by
  rcases Km.1 ht with rfl|ht
  ·exact hr.mh h4
  ·exact h.told t ht⟩
theorem zDc{s s':Ai}{r:Bv}(h:WS s)(hr:Il r)(e:DD s r=some s'):WS s':=by
 unfold DD at e;split at e
 ·split at e
  ·cases e;exact⟨h.cells,h.en,h.di,h.held,h.dq,h.told⟩
  ·cases e
 ·rename_i h4;split at e
  ·cases e
  ·rename_i Ex;have hn:=ZU Ex;split at e
   ·split at e
    ·cases e
    ·rename_i Gc;split at e
     ·cases e
     ·split at e
      ·rename_i hf;cases e;have FJ:s.ae.length<12:=by
        unfold K4 at hf;simp only[Ab,AR]at hf;exact hf.2.1
       refine⟨h.cells,by rw[o9];omega,h.di.ins (ZT Gc),λy hy=> ?_,h.dq,h.told⟩;rcases Km.1 hy with rfl|hy
       ·exact⟨⟨hr.reads,hr.writes,hr.di⟩,hr.small⟩
       ·exact h.held y hy
      ·cases e
   ·obtain⟨l1,l2,l3⟩:=h.less r.ao;obtain⟨t1,t2⟩:=h.ll hr h4 hn;split at e
    ·split at e
     ·cases e
     ·rename_i x hx;split at e
      ·cases e
      ·split at e
       ·cases e
       ·rename_i o ho;cases e;exact⟨zFk h.cells (h.held x (List.mem_of_find?_eq_some hx)).2 ho,l1,l2,l3,t1,t2⟩
    ·cases e;exact⟨h.cells,l1,l2,l3,t1,t2⟩
theorem zw3{h:Ay}(hh:HH h):Yy h=some h:=by obtain⟨h1,h2,_⟩:=hh;unfold Yy RO R2;have e1:IG h.ak=some h.ak:=Jj (by omega) (by omega);have e2:LP h.ab=some h.ab:=Jj (by omega) (by omega);rw[Aa];show((IG h.ak).bind _).bind _=_;rw[e1,Aa];show((LP h.ab).bind _).bind _=_;rw[e2];rfl
theorem zAR{r:Bv}(hr:Il r):R2 r=some (Mr r):=by have h1:=hr.reads;have h2:=hr.writes;unfold R2;have e1:IG r.ak=some r.ak:=Jj (by omega) (by omega);have e2:LP r.ab=some r.ab:=Jj (by omega) (by omega);rw[e1,Aa,e2,Aa];rfl
theorem Zk{s:Ai}(h:WS s):O9 s=some s:=by
 have hc:=h.cells;have hT:=h.cx;have hf:=h.en;unfold O9;have hC:Rr s.aj=some s.aj:=A7 ⟨by have:=hc.2.1;omega,λc FZ=>by have:=(hc.2.2 c FZ).2.1;omega⟩;have e2:gY s.aq=some s.aq:=Jj (by omega) (by omega);rw[hC,Aa,e2,Aa];refine((E9 (xs:=s.ae) (body:=λz:Int × List Ay=>Q5 s s.aj s.aq z.1 z.2) (λi z=>(i,z)) (λo c=>o++ [c]) (λo=>some (⟨s.au,s.aj,o,s.aq⟩:Ai)) (λi o=>o.length=i)
  (λi hi o ho=>by refine⟨?_,by simp[ho]⟩;show Q5 s s.aj s.aq (i:Int) o=_;unfold Q5;rw[if_pos (by simpa using hi),AN hi,Aa,zw3 (h.held _ (AF hi)).1,Aa,A7 (by simp only[Bd];omega),Bx (by omega)])
  (λo ho=>by show Q5 s s.aj s.aq (s.ae.length:Int) o=_;unfold Q5;rw[if_neg (by simp)]) (s:=[]) rfl).1).trans ?_
 have e:=foldl_map (λc:Ay=>c) s.ae [];simp only[List.map_id',List.nil_append]at e;rw[e]
theorem uL{α:Type}{key:α->Int}{l:List α}{x:α}(hl:l.length<=1000)(hn:∀y∈l,key y≠key x):H5 l ((AD (A0 key (key x)) l:Nat):Int) [x]=some (Eu key x l):=by have:=NG (A0 key (key x)) l;unfold H5;rw[A7 ⟨by omega,by omega,by simp,by simp only[Bd];omega⟩,Bi,aE hn]
theorem zzw{s:Ai}{r:Bv}(h:WS s)(hr:Il r)(h1:r.bc≠1)(h4:r.bc≠4)(Ex: ¬(Fq s r.ao).isSome=true):XU s r=some (match DD s r with|some s'=>(s',true)|none=>((⟨0,[],[],[]⟩:Ai),false)):=by
 have hn:=ZU Ex;have hf:=h.en;have hT:=h.cx;unfold XU DD;rw[Zk h,Aa,V3 (by omega) h.di,Aa,if_neg h4,if_neg Ex,if_neg h1];have tail:∀(c:List Aj) (fl:Int),XQ r s (((AD (A0 hk r.ao) s.ae:Nat):Int),(CZ s r.ao).isSome) c fl=some ((⟨fl,c,Gz s.ae r.ao,Mn s r⟩:Ai),true):=by
  intro c fl;unfold XQ;have Fm:H5 s.aq ((AD (A0 tk r.ao) s.aq:Nat):Int) [(⟨r.ao,r.bm,r.af⟩:Bj)]=some (Mn s r):=uL (key:=tk) (x:=⟨r.ao,r.bm,r.af⟩) (by omega) hn;have DS:=R7 (t:=r.ao) h.di;cases hq:CZ s r.ao with
  |none=>have GO:s.ae.find? (λy=>hk y==r.ao)=none:=hq;simp only[Option.isSome_none,AS,if_false];rw[V7 (s:=⟨fl,c,s.ae,s.aq⟩) (by show s.aq.length<=_;omega) h.dq,Aa,Fm,Aa];unfold Gz;rw[zpY GO]
  |some x=>
   have GO:s.ae.find? (λy=>hk y==r.ao)=some x:=hq;simp only[Option.isSome_some,if_true];rw[GO]at DS;have hp:AD (A0 hk r.ao) s.ae<s.ae.length:=by
    rcases Nat.lt_or_ge (AD (A0 hk r.ao) s.ae) s.ae.length with hp|hp
    ·exact hp
    ·rw[List.getElem?_eq_none hp]at DS;cases DS
   rw[Bh hp]at DS;have hkx:hk s.ae[AD (A0 hk r.ao) s.ae]=r.ao:=by
    by_cases hh:hk s.ae[AD (A0 hk r.ao) s.ae]=r.ao
    ·exact hh
    ·have DS:some x=if hk s.ae[AD (A0 hk r.ao) s.ae]=r.ao then some s.ae[AD (A0 hk r.ao) s.ae]else none:=DS;rw[if_neg hh]at DS;cases DS
   have Jz:V4 s.ae ((AD (A0 hk r.ao) s.ae:Nat):Int) (IntKind.i64.wrap (((AD (A0 hk r.ao) s.ae:Nat):Int)+1))=some (Gz s.ae r.ao):=by unfold V4 Gz;rw[Bx (by omega),A7 ⟨by omega,by omega,by omega⟩,Bi,Bi,yZ h.di hp hkx]
   rw[Jz,Aa,V7 (s:=⟨fl,c,Gz s.ae r.ao,s.aq⟩) (by show s.aq.length<=_;omega) h.dq,Aa,Fm,Aa]
 by_cases hy:r.bm=true
 ·rw[if_pos hy,if_pos hy];cases hq:CZ s r.ao with
  |none=>rfl
  |some x=>
   have GO:s.ae.find? (λy=>hk y==r.ao)=some x:=hq;have DS:=R7 (t:=r.ao) h.di;rw[GO]at DS;have hp:AD (A0 hk r.ao) s.ae<s.ae.length:=by
    rcases Nat.lt_or_ge (AD (A0 hk r.ao) s.ae) s.ae.length with hp|hp
    ·exact hp
    ·rw[List.getElem?_eq_none hp]at DS;cases DS
   have hx:s.ae[AD (A0 hk r.ao) s.ae]=x:=by
    rw[Bh hp]at DS;have DS:some x=if hk s.ae[AD (A0 hk r.ao) s.ae]=r.ao then some s.ae[AD (A0 hk r.ao) s.ae]else none:=DS;split at DS
    ·cases DS;rfl
    ·cases DS
   simp only[Option.isSome_some,if_true];rw[AN hp,Aa,hx];by_cases FQ:r.af<x.af
   ·rw[if_pos (by simpa using FQ),if_pos FQ]
   ·rw[if_neg (by simpa using FQ),if_neg FQ,zEH h.cells (h.held x (List.mem_of_find?_eq_some GO)).2,Aa];cases ho:LJ s.aj x.ab r.af with
    |none=>rfl
    |some o=>
     simp only[Bool.not_true,AS,if_false];have t:=tail o (bif decide (r.af>s.au)then r.af else s.au);rw[hq]at t;refine t.trans ?_;by_cases B7:s.au<r.af
     ·rw[if_pos B7];simp[B7]
     ·rw[if_neg B7];simp[B7]
 ·rw[if_neg hy,if_neg hy];exact tail s.aj s.au
theorem zDM{s:Ai}{r:Bv}(h:WS s)(hr:Il r):XV s r=some (match DD s r with|some s'=>(s',true)|none=>((⟨0,[],[],[]⟩:Ai),false)):=by
 have hf:=h.en;have hT:=h.cx;unfold XV;by_cases h4:r.bc=4
 ·rw[if_pos (by simpa using h4)];unfold DD;rw[if_pos h4];by_cases B7:s.au<r.af
  ·rw[if_neg (by simpa using B7),if_pos B7,Zk h];rfl
  ·rw[if_pos (by simpa using B7),if_neg B7]
 ·rw[if_neg (by simpa using h4),V7 (by omega) h.dq,Aa];by_cases Ex:(Fq s r.ao).isSome=true
  ·unfold DD;rw[if_neg h4,if_pos Ex,if_pos Ex]
  ·rw[if_neg Ex];by_cases h1:r.bc=1
   ·rw[if_neg (by simpa using h1),V3 (by omega) h.di,Aa];unfold DD;rw[if_neg h4,if_neg Ex,if_pos h1];by_cases Gc:(CZ s r.ao).isSome=true
    ·rw[if_pos Gc,if_pos Gc]
    ·rw[if_neg Gc,if_neg Gc];by_cases FQ:r.af<=s.au
     ·rw[if_pos (by simpa using FQ),if_pos FQ]
     ·rw[if_neg (by simpa using FQ),if_neg FQ,zES h.cells hf (λy hy=>(h.held y hy).1) hr.reads hr.writes hr.di,Aa];cases CA:K4 s r.ak r.ab with
      |false=>rfl
      |true=>rw[if_neg (by simp),Zk h,Aa,zAR hr,Aa];have:=uL (key:=hk) (l:=s.ae) (x:=Mr r) (by omega) (ZT Gc);rw[show((AD (A0 hk r.ao) s.ae:Nat):Int)=((AD (A0 hk (hk (Mr r))) s.ae:Nat):Int)from rfl,this];rfl
   ·rw[if_pos (by simpa using h1),zzw h hr h1 h4 Ex];rfl
theorem zy4{h:Ay}(hh:HH h):Yp h=some h:=by obtain⟨h1,h2,_⟩:=hh;unfold Yp;rw[S3 (by omega),Aa,A7 (by simp only[List.length_nil];omega)]
theorem zx4{s:Ai}(h:WS s):Vo s=some s:=by
 have hT:=h.cx;have hf:=h.en;unfold Vo;rw[sX h.cells,Aa,A7 (by simp only[List.length_nil];omega)];refine((E9 (xs:=s.ae) (body:=λz:Int × List Ay=>Rl s s.aj z.1 z.2) (λi z=>(i,z)) (λo c=>o++ [c]) (λo=>some (⟨s.au,s.aj,o,s.aq⟩:Ai)) (λi o=>o.length=i)
  (λi hi o ho=>by refine⟨?_,by simp[ho]⟩;show Rl s s.aj (i:Int) o=_;unfold Rl;rw[if_pos (by simpa using hi),AN hi,Aa,zy4 (h.held _ (AF hi)).1,Aa,A7 (by simp only[Bd];omega),Bx (by omega)])
  (λo ho=>by show Rl s s.aj (s.ae.length:Int) o=_;unfold Rl;rw[if_neg (by simp)]) (s:=[]) rfl).1).trans ?_
 have e:=foldl_map (λc:Ay=>c) s.ae [];simp only[List.map_id',List.nil_append]at e;rw[e]
theorem zDq{s:Ai}{r:Bv}(h:WS s)(hr:Il r):∃x,YS s r=some (x,(DD s r).isSome)/\ ∀s',DD s r=some s'->x=s':=by
 have hf:=h.en;have hT:=h.cx;have hrl:=hr.reads;have r7:=hr.writes;unfold YS;rw[zx4 h,Aa,ZO (by omega),Aa,z6 (by omega),Aa];by_cases h4:r.bc=4
 ·rw[if_pos (by simpa using h4)];unfold DD;rw[if_pos h4];refine⟨⟨r.af,s.aj,s.ae,s.aq⟩,?_,?_⟩
  ·by_cases B7:s.au<r.af
   ·rw[if_pos B7];simp[B7]
   ·rw[if_neg B7];simp[B7]
  ·intro s' e;split at e
   ·cases e;rfl
   ·cases e
 ·rw[if_neg (by simpa using h4)];by_cases Ex:(Fq s r.ao).isSome=true
  ·have ea:DD s r=none:=by unfold DD;rw[if_neg h4,if_pos Ex]
   rw[ea];cases hq:Fq s r.ao with
   |none=>rw[hq]at Ex;cases Ex
   |some x=>exact⟨s,rfl,λs' e=>by cases e⟩
  ·have Qh:Fq s r.ao=none:=by cases hq:Fq s r.ao with|none=>rfl|some x=>rw[hq]at Ex;exact absurd rfl Ex
   have hn:=ZU Ex;rw[Qh];simp only[AS,if_false];by_cases h1:r.bc=1
   ·rw[if_pos (by simpa using h1),S3 (by omega),Aa,A7 (by simp only[List.length_nil];omega)];obtain⟨l,I5,Iz⟩:=zzq (l:=s.ae) (h:=Mr r) (by omega) h.di;rw[show(⟨r.ao,r.af,r.br,r.ak,r.ab⟩:Ay)=Mr r from rfl,I5,Aa];by_cases Gc:(CZ s r.ao).isSome=true
    ·have ea:DD s r=none:=by unfold DD;rw[if_neg h4,if_neg Ex,if_pos h1,if_pos Gc]
     rw[ea];cases hq:CZ s r.ao with
     |none=>rw[hq]at Gc;cases Gc
     |some x=>exact⟨_,rfl,λs' e=>by cases e⟩
    ·have rG:CZ s r.ao=none:=by cases hq:CZ s r.ao with|none=>rfl|some x=>rw[hq]at Gc;exact absurd rfl Gc
     have ea:DD s r=if r.af<=s.au then none else if K4 s r.ak r.ab=true then some ⟨r.af,s.aj,Eu hk (Mr r) s.ae,s.aq⟩else none:=by unfold DD;rw[if_neg h4,if_neg Ex,if_pos h1,if_neg Gc]
     rw[ea,rG];simp only[AS,if_false];by_cases FQ:r.af<=s.au
     ·rw[if_neg (by simpa using FQ),if_pos FQ];exact⟨_,rfl,λs' e=>by cases e⟩
     ·rw[if_pos (by simpa using FQ),if_neg FQ,zEO h.cells hf (λy hy=>(h.held y hy).1) hr.reads hr.writes,Aa];cases CA:K4 s r.ak r.ab with
      |false=>exact⟨_,rfl,λs' e=>by cases e⟩
      |true=>rw[Iz (ZT Gc)];exact⟨_,rfl,λs' e=>by cases e;rfl⟩
   ·rw[if_neg (by simpa using h1)];obtain⟨tl,JW,KD⟩:=zyI (l:=s.aq) (h:=⟨r.ao,r.bm,r.af⟩) (by omega) h.dq;have KD:=KD hn;by_cases hy:r.bm=true
    ·rw[if_pos hy];cases hq:CZ s r.ao with
     |none=>
      have ea:DD s r=none:=by unfold DD;rw[if_neg h4,if_neg Ex,if_neg h1,if_pos hy,hq]
      rw[ea];exact⟨_,rfl,λs' e=>by cases e⟩
     |some x=>
      have ea:DD s r=if r.af<x.af then none else match LJ s.aj x.ab r.af with
       |none=>none
       |some o=>some ⟨if s.au<r.af then r.af else s.au,o,Gz s.ae r.ao,Mn s r⟩:=by unfold DD;rw[if_neg h4,if_neg Ex,if_neg h1,if_pos hy,hq]<;>rfl
      rw[ea];simp only[Bool.not_true,Bool.false_or];by_cases FQ:r.af<x.af
      ·rw[if_pos (by simpa using FQ),if_pos FQ];exact⟨_,rfl,λs' e=>by cases e⟩
      ·rw[if_neg (by simpa using FQ),if_neg FQ,zED h.cells (h.held x (List.mem_of_find?_eq_some hq)).2 (hr.time h1 h4 hy),Aa];unfold LJ;cases ho:GC r.af s.aj x.ab with
       |none=>exact⟨_,rfl,λs' e=>by cases e⟩
       |some o=>
        cases hg:Eo o with
        |false=>simp only[hg,Bool.not_false,if_true];exact⟨_,rfl,λs' e=>by cases e⟩
        |true=>
         simp only[hg,Bool.not_true,AS,if_false,if_true];have T0:Kd s.au r.af=some (if s.au<r.af then r.af else s.au):=by
          unfold Kd;by_cases B7:s.au<r.af
          ·rw[if_pos B7,if_neg (by simp;omega)]
          ·rw[if_neg B7];by_cases On:s.au>r.af
           ·rw[if_pos (by simpa using On)]
           ·rw[if_neg (by simpa using On)];rw[show r.af=s.au by omega]
         rw[T0,Aa,zyE (by omega),Aa,JW,Aa,KD];exact⟨_,rfl,λs' e=>by cases e;rfl⟩
    ·have ea:DD s r=some ⟨s.au,s.aj,Gz s.ae r.ao,Mn s r⟩:=by unfold DD;rw[if_neg h4,if_neg Ex,if_neg h1,if_neg hy]
     rw[if_neg hy,ea,zyE (by omega),Aa,JW,Aa,KD];exact⟨_,rfl,λs' e=>by cases e;rfl⟩
theorem Hr{α β:Type}{xs:List α}{body:Int->Option (Int ⊕ Option β)}(p:α->Bool)(b:β)(fin:Option β)
  (hs:∀(i:Nat) (hi:i<xs.length),body i=some (if p xs[i]=true then .inl ((i+1:Nat):Int)else .inr (some b))) (he:body xs.length=some (.inr fin)):Au body 0=if xs.all p=true then fin else some b:=by
 have h1:=VZ (xs:=xs) (body:=body) (λi (_:Unit)=>i) (λx _=>some (if p x=true then .inl ()else .inr (some b))) (λ_=>fin)
  (λi hi s=>by rw[hs i hi];cases p xs[i]<;>rfl) (λ_=>he) ()
 exact h1.trans (zzO p b (λx _ s=>by cases p x<;>rfl) ())
theorem Kl{α:Type}(l:List α)(i:Nat):A4 l 0 (i:Int)=l.take i:=by simp[A4]
def Mw(s:Ai)(i:Nat):Bool:=match s.ae[i]? with
 |some h=>CC (D5 h)&&(decide (h.af<=s.au)&&(!(s.ae.take i).any (λg=>CR g h.ak h.ab)&& !h.ab.any (λw=>decide (h.af<=Ch s.aj w.ah))))
 |none=>true
def L3(s:Ai):Bool:=(List.range s.ae.length).all (Mw s)&&Ie s.aj (Dk s.ae)
def GG(s:Ai)(c:Aj):Bool:=decide (Ch s.aj c.ah<=s.au)
def IF(s:Ai)(t:Bj):Bool:=(if t.bm=true then BI t.af 1 s.au else t.af==0)&& !(CZ s t.ao).isSome
def PY(s:Ai):Bool:=BI s.au 0 100000&&(Eo s.aj&&(L3 s&&(s.aj.all (GG s)&&s.aq.all (IF s))))
theorem PK{s:Ai}{i:Nat}(hi:i<s.ae.length):Mw s i=(CC (D5 s.ae[i])&&(decide (s.ae[i].af<=s.au)&&(!(s.ae.take i).any (λg=>CR g s.ae[i].ak s.ae[i].ab)&& !s.ae[i].ab.any (λw=>decide (s.ae[i].af<=Ch s.aj w.ah))))):=by unfold Mw;rw[Bh hi]
theorem ND{α:Type}{l:List α}{i:Nat}(hi:i<l.length)(h0:0<i)(hl:l.length<=2000000):Am l (IntKind.i64.wrap ((i:Int)-1))=some l[i-1]:=by rw[CD (n:=(i:Int)-1) (by omega) (by omega),show(i:Int)-1=((i-1:Nat):Int) by omega,AN (by omega)]
theorem zBo{s:Ai}(h:WS s)(hs:∀x∈s.ae,Gy (D5 x)):QK s=some (L3 s):=by
 have Ln:=h.en;unfold QK;rw[Kj (n:=s.ae.length) (body:=λi=>Ka s i) (Mw s) false (UU s) (λi hi=> ?_) (by show Ka s (s.ae.length:Int)=_;unfold Ka;rw[if_neg (by simp)])]
 ·unfold UU L3;rw[pZ h.cells (by omega) λx hx=>(h.held x hx).1,Aa,show decide (s.ae.length<=12)=true by simpa using Ln,Bool.true_and];cases(List.range s.ae.length).all (Mw s)<;>rfl
 ·have hx:=AF hi;obtain⟨⟨o1,o2,o3⟩,o4⟩:=h.held _ hx;have e1:E0 (A4 s.ae 0 (i:Int)) (λy0_=>O5 y0_ s.ae[i])=some ((s.ae.take i).any λg=>CR g s.ae[i].ak s.ae[i].ab):=by
   rw[Kl];refine L5 _ (λg hg=> ?_) (by rw[Aw];omega);have hg:=Bt hg;obtain⟨⟨g1,g2,g3⟩,_⟩:=h.held _ hg;unfold O5 R6 CR;rw[Sg (by omega) (by omega) (by omega) g3,Aa,Sg (by omega) (by omega) (by omega) o3,Aa];cases B6 s.ae[i].ab g.ak g.ab<;>cases B6 g.ab s.ae[i].ak s.ae[i].ab<;>rfl
  have e2:E0 s.ae[i].ab (λy0_=>OZ y0_ s.ae[i] s)=some (s.ae[i].ab.any λw=>decide (s.ae[i].af<=Ch s.aj w.ah)):=by refine L5 _ (λw _=> ?_) (by omega);unfold OZ;rw[Wm (n:=24) (by omega) h.cells];rfl
  show Ka s (i:Int)=_;unfold Ka;rw[PK hi,if_pos (by simpa using hi),AN hi,Aa,show RO s.ae[i]=some (D5 s.ae[i])from rfl,Aa,pT (hs _ hx),Aa];have rq:0<=(0:Int)/\(0:Int)<=(i:Int)/\(i:Int)<=(s.ae.length:Int):=by omega
  rw[e1,e2,Bx (by omega)];generalize (s.ae.take i).any (λg=>CR g s.ae[i].ak s.ae[i].ab)=A;generalize s.ae[i].ab.any (λw=>decide (s.ae[i].af<=Ch s.aj w.ah))=B;by_cases hp:0<i
  ·rw[if_pos (by simp;omega),ND hi hp (by omega)];have hr:=h.di.mono hi (show i-1<i by omega);have hr:s.ae[i-1].ao<s.ae[i].ao:=hr;cases CC (D5 s.ae[i])with
   |false=>rfl
   |true=>
    rw[if_pos rfl];by_cases ht:s.ae[i].af<=s.au
    ·rw[if_neg (by simp;omega),Aa,if_neg (by simp;omega),A7 rq,Aa,Aa];cases A<;>cases B<;>simp[ht]
    ·rw[if_pos (by simp;omega)];simp[ht]
  ·rw[if_neg (by simp;omega)];cases CC (D5 s.ae[i])with
   |false=>rfl
   |true=>
    by_cases ht:s.ae[i].af<=s.au
    ·rw[if_neg (by simp;omega),A7 rq,Aa,Aa];cases A<;>cases B<;>simp[ht]
    ·rw[if_pos (by simp;omega)];simp[ht]
theorem zz1{s:Ai}(h:WS s)(hs:∀x∈s.ae,Gy (D5 x)):R5 s=some (L3 s):=by
 have Ln:=h.en;unfold R5;rw[Kj (n:=s.ae.length) (body:=λi=>Ke s i) (Mw s) false (U5 s) (λi hi=> ?_) (by show Ke s (s.ae.length:Int)=_;unfold Ke;rw[if_neg (by simp)])]
 ·unfold U5 L3;rw[show decide ((s.ae.length:Int)<=12)=true from decide_eq_true (by omega),pO h.cells (by omega) (λx hx=>(h.held x hx).1) (by simp),Aa,List.nil_append];cases(List.range s.ae.length).all (Mw s)<;>rfl
 ·have hx:=AF hi;obtain⟨⟨o1,o2,o3⟩,o4⟩:=h.held _ hx;have t5:KN s (i:Int) s.ae[i]=some (if(s.ae[i].ab.all λw=> !decide (s.ae[i].af<=Ch s.aj w.ah))=true then .inl ((i+1:Nat):Int)else .inr (some false)):=by
   unfold KN;rw[Hr (xs:=s.ae[i].ab) (body:=λj=>J5 s (i:Int) s.ae[i] j) (λw=> !decide (s.ae[i].af<=Ch s.aj w.ah)) (.inr (some false)) (U9 (i:Int)) (λj hj=>by
    show J5 s (i:Int) s.ae[i] (j:Int)=_;unfold J5;rw[if_pos (by simpa using hj),AN hj,Aa,SN (n:=24) (by omega) h.cells,Aa,Bx (by omega)];by_cases hq:s.ae[i].af<=Ch s.aj (s.ae[i].ab[j]).ah
    ·rw[if_pos (by simpa using hq)];simp[hq]
    ·rw[if_neg (by simpa using hq)];simp[hq]) (by
    show J5 s (i:Int) s.ae[i] (s.ae[i].ab.length:Int)=_;unfold J5;rw[if_neg (by simp)])]
   unfold U9;rw[Bx (by omega)];split<;>rfl
  have t9:Rz s (i:Int) s.ae[i]=some (if(s.ae[i].ab.all λw=> !decide (s.ae[i].af<=Ch s.aj w.ah))=true then .inl ((i+1:Nat):Int)else .inr (some false)):=by
   unfold Rz;rw[Hr (xs:=s.ae[i].ab) (body:=λj=>Ry s (i:Int) s.ae[i] j) (λw=> !decide (s.ae[i].af<=Ch s.aj w.ah)) (.inr (some false)) (jB (i:Int)) (λj hj=>by
    show Ry s (i:Int) s.ae[i] (j:Int)=_;unfold Ry;rw[if_pos (by simpa using hj),AN hj,Aa,SN (n:=24) (by omega) h.cells,Aa,Bx (by omega)];by_cases hq:s.ae[i].af<=Ch s.aj (s.ae[i].ab[j]).ah
    ·rw[if_pos (by simpa using hq)];simp[hq]
    ·rw[if_neg (by simpa using hq)];simp[hq]) (by
    show Ry s (i:Int) s.ae[i] (s.ae[i].ab.length:Int)=_;unfold Ry;rw[if_neg (by simp)])]
   unfold jB;rw[Bx (by omega)];split<;>rfl
  have t6:Au (λj:Int=>Je s (i:Int) s.ae[i] j) 0=if((s.ae.take i).all λg=> !CR g s.ae[i].ak s.ae[i].ab)=true then KN s (i:Int) s.ae[i]else some (.inr (some false)):=by
   refine Hr (xs:=s.ae.take i) (λg=> !CR g s.ae[i].ak s.ae[i].ab) (.inr (some false)) (KN s (i:Int) s.ae[i]) (λj hj=> ?_) ?_
   ·have hg:=Bt (AF hj);rw[Aw]at hj;show Je s (i:Int) s.ae[i] (j:Int)=_;unfold Je;rw[Kl,if_pos (by rw[Aw];simp;omega),AN (by rw[Aw];omega),Aa,aI (h.held _ hg).1 (by omega) (by omega),Aa,Bx (by omega)];cases CR (s.ae.take i)[j] s.ae[i].ak s.ae[i].ab<;>rfl
   ·show Je s (i:Int) s.ae[i] ((s.ae.take i).length:Int)=_;unfold Je;rw[Kl,if_neg (by simp)]
  have t10:Au (λj:Int=>O3 s (i:Int) s.ae[i] j) 0=if((s.ae.take i).all λg=> !CR g s.ae[i].ak s.ae[i].ab)=true then Rz s (i:Int) s.ae[i]else some (.inr (some false)):=by
   refine Hr (xs:=s.ae.take i) (λg=> !CR g s.ae[i].ak s.ae[i].ab) (.inr (some false)) (Rz s (i:Int) s.ae[i]) (λj hj=> ?_) ?_
   ·have hg:=Bt (AF hj);rw[Aw]at hj;show O3 s (i:Int) s.ae[i] (j:Int)=_;unfold O3;rw[Kl,if_pos (by rw[Aw];simp;omega),AN (by rw[Aw];omega),Aa,aI (h.held _ hg).1 (by omega) (by omega),Aa,Bx (by omega)];cases CR (s.ae.take i)[j] s.ae[i].ak s.ae[i].ab<;>rfl
   ·show O3 s (i:Int) s.ae[i] ((s.ae.take i).length:Int)=_;unfold O3;rw[Kl,if_neg (by simp)]
  show Ke s (i:Int)=_;unfold Ke;rw[PK hi,if_pos (by simpa using hi),AN hi,Aa,show Yl s.ae[i]=some (D5 s.ae[i])from rfl,Aa,aY (hs _ hx),Aa];have rq:0<=(0:Int)/\(0:Int)<=(i:Int)/\(i:Int)<=(s.ae.length:Int):=by omega
  rw[t6,t10,t5,t9,List.not_any_eq_all_not,List.not_any_eq_all_not];generalize ((s.ae.take i).all λg=> !CR g s.ae[i].ak s.ae[i].ab)=A;generalize (s.ae[i].ab.all λw=> !decide (s.ae[i].af<=Ch s.aj w.ah))=B;by_cases hp:0<i
  ·rw[if_pos (by simp;omega),ND hi hp (by omega)];have hr:=h.di.mono hi (show i-1<i by omega);have hr:s.ae[i-1].ao<s.ae[i].ao:=hr;cases CC (D5 s.ae[i])with
   |false=>rfl
   |true=>
    rw[if_pos rfl];by_cases ht:s.ae[i].af<=s.au
    ·rw[if_neg (by simp;omega),Aa,if_neg (by simp;omega),A7 rq];cases A<;>cases B<;>simp[ht]
    ·rw[if_pos (by simp;omega)];simp[ht]
  ·rw[if_neg (by simp;omega)];cases CC (D5 s.ae[i])with
   |false=>rfl
   |true=>
    by_cases ht:s.ae[i].af<=s.au
    ·rw[if_neg (by simp;omega),A7 rq];cases A<;>cases B<;>simp[ht]
    ·rw[if_pos (by simp;omega)];simp[ht]
theorem zGG{s:Ai}(h:WS s)(hc:PO s.aj)(hs:∀x∈s.ae,Gy (D5 x)):Rm s=some (PY s):=by
 have hl:=h.cx;have Ln:=h.en;have Ax:=h.cells.2.1;unfold Rm PY;rw[show R1 s.au=some (BI s.au 0 100000)from rfl,Aa];cases BI s.au 0 100000 with
 |false=>rfl
 |true=>
  rw[if_pos rfl,oY hc,Aa];cases Eo s.aj with
  |false=>rfl
  |true=>
   rw[if_pos rfl,zBo h hs,Aa];cases L3 s with
   |false=>rfl
   |true=>
    rw[if_neg (by simp;omega),Hr (xs:=s.aj) (body:=λi=>J8 s i) (GG s) false (Q9 s) (λi hi=> ?_) (by show J8 s (s.aj.length:Int)=_;unfold J8;rw[if_neg (by simp)])]
    ·unfold Q9;rw[Hr (xs:=s.aq) (body:=λi=>J9 s i) (IF s) false (some true) (λi hi=> ?_) (by
      show J9 s (s.aq.length:Int)=_;unfold J9;rw[if_neg (by simp)])]
     ·cases s.aj.all (GG s)<;>cases s.aq.all (IF s)<;>rfl
     ·show J9 s (i:Int)=_;unfold J9 IF;have hb:=h.told _ (AF hi);have tx:Nk s.aq[i].ao=some true:=by
       show some (BI s.aq[i].ao 1 60)=_;rw[Fp.2 hb]
      rw[if_pos (by simpa using hi),AN hi,Aa,tx,V3 (s:=s) (t:=s.aq[i].ao) (by omega) h.di,Py,Bx (by omega)];simp only[Aa];generalize (CZ s s.aq[i].ao).isSome=H;generalize BI s.aq[i].af 1 s.au=V;generalize (s.aq[i].af==0)=T;by_cases hp:0<i
      ·have hr:=h.dq.mono hi (show i-1<i by omega);have hr:s.aq[i-1].ao<s.aq[i].ao:=hr;have e0:decide (s.aq[i].ao<=s.aq[i-1].ao)=false:=by simp;omega
       have e1:decide ((i:Int)>0)=true:=by simp;omega
       rw[ND hi hp (by omega)];simp only[Aa,e0,e1,if_true,AS,if_false];cases s.aq[i].bm<;>cases V<;>cases T<;>cases H<;>rfl
      ·have e1:decide ((i:Int)>0)=false:=by simp;omega
       simp only[e1,AS,if_false];cases s.aq[i].bm<;>cases V<;>cases T<;>cases H<;>rfl
    ·show J8 s (i:Int)=_;unfold J8 GG;rw[if_pos (by simpa using hi),AN hi,Aa,Wm (n:=24) (by omega) h.cells,Aa,Bx (by omega)];by_cases hq:Ch s.aj (s.aj[i]).ah<=s.au
     ·rw[if_neg (by simp;omega)];simp[hq]
     ·rw[if_pos (by simp;omega)];simp[hq]
theorem zB7{s:Ai}(h:WS s)(hc:PO s.aj)(hs:∀x∈s.ae,Gy (D5 x)):LQ s=some (PY s):=by
 have hl:=h.cx;have Ln:=h.en;have Ax:=h.cells.2.1;unfold LQ PY;rw[show Pk s.au=some (BI s.au 0 100000)from rfl,Aa];cases BI s.au 0 100000 with
 |false=>rfl
 |true=>
  rw[if_pos rfl,oJ hc,Aa];cases Eo s.aj with
  |false=>rfl
  |true=>
   rw[if_pos rfl,zz1 h hs,Aa];cases L3 s with
   |false=>rfl
   |true=>
    rw[if_neg (by simp;omega),Hr (xs:=s.aj) (body:=λi=>J7 s i) (GG s) false (RG s) (λi hi=> ?_) (by show J7 s (s.aj.length:Int)=_;unfold J7;rw[if_neg (by simp)])]
    ·unfold RG;rw[Hr (xs:=s.aq) (body:=λi=>J6 s i) (IF s) false (some true) (λi hi=> ?_) (by
      show J6 s (s.aq.length:Int)=_;unfold J6;rw[if_neg (by simp)])]
     ·cases s.aj.all (GG s)<;>cases s.aq.all (IF s)<;>rfl
     ·show J6 s (i:Int)=_;unfold J6 IF;have hb:=h.told _ (AF hi);have tx:BI s.aq[i].ao 1 60=true:=Fp.2 hb;obtain⟨P,p1,p2⟩:∃P,Kf s s.aq[i].ao=some P/\P.2=(CZ s s.aq[i].ao).isSome:=by
       rw[ZO (by omega)];cases CZ s s.aq[i].ao with
       |none=>exact⟨_,rfl,rfl⟩
       |some x=>exact⟨_,rfl,rfl⟩
      rw[if_pos (by simpa using hi),AN hi,Aa,p1,Bx (by omega)];simp only[NJ,Aa,tx,p2,bne];generalize (CZ s s.aq[i].ao).isSome=H;generalize BI s.aq[i].af 1 s.au=V;generalize (s.aq[i].af==0)=T;by_cases hp:0<i
      ·have hr:=h.dq.mono hi (show i-1<i by omega);have hr:s.aq[i-1].ao<s.aq[i].ao:=hr;have e0:decide (s.aq[i-1].ao>=s.aq[i].ao)=false:=by simp;omega
       have e1:decide ((i:Int)>0)=true:=by simp;omega
       rw[ND hi hp (by omega)];simp only[Aa,e0,e1,if_true,AS,if_false];cases s.aq[i].bm<;>cases V<;>cases T<;>cases H<;>rfl
      ·have e1:decide ((i:Int)>0)=false:=by simp;omega
       simp only[e1,AS,if_false];cases s.aq[i].bm<;>cases V<;>cases T<;>cases H<;>rfl
    ·show J7 s (i:Int)=_;unfold J7 GG;rw[if_pos (by simpa using hi),AN hi,Aa,SN (n:=24) (by omega) h.cells,Aa,Bx (by omega)];by_cases hq:Ch s.aj (s.aj[i]).ah<=s.au
     ·rw[if_neg (by simp;omega)];simp[hq]
     ·rw[if_pos (by simp;omega)];simp[hq]
theorem zR{l:List Aj}{k k':Ap}{v:BE}(hr:G3 l):Es (Ii l k v) k'=if k'=k then some ⟨k,Kr l k++ [v]⟩else Es l k':=by
 have CB:G3 (Ii l k v):=VT hr;by_cases e:k'=k
 ·rw[if_pos e];exact V9 CB ((Nt (key:=ck) hr _).2 (.inl rfl)) e.symm
 ·rw[if_neg e];cases h:Es l k' with
  |some c=>obtain⟨h1,h2⟩:=Z2 h;exact V9 CB ((Nt (key:=ck) hr c).2 (.inr ⟨h1,by show c.ah≠k;rw[h2];exact e⟩)) h2
  |none=>
   unfold Es;rw[List.find?_eq_none];intro c hc;rcases(Nt (key:=ck) hr c).1 hc with q|⟨q,_⟩
   ·rw[q];simpa using λh=>e h.symm
   ·exact List.find?_eq_none.1 h c q
theorem ZY{l:List Aj}{k:Ap}{v:BE}(hr:G3 l):G3 (Ii l k v):=VT hr
theorem zAB{l:List Aj}{k k':Ap}{v:BE}(hr:G3 l):Ch (Ii l k v) k'=if k'=k then v.af else Ch l k':=by
 unfold Ch;rw[zR hr];by_cases e:k'=k
 ·rw[if_pos e,if_pos e];show UF ⟨k,Kr l k++ [v]⟩=_;unfold UF;simp
 ·rw[if_neg e,if_neg e]
theorem Z9{t:Int}{l o:List Aj}{w:An}{ws:List An}(h:GC t l (w::ws)=some o):GC t (Ii l w.ah ⟨t,w.bh,w.bg⟩) ws=some o:=by
 unfold GC at h;rw[List.foldlM_cons]at h;unfold HC at h;by_cases ht:t<=Ch l w.ah
 ·rw[if_pos ht]at h;cases h
 ·rw[if_neg ht]at h;exact h
theorem zz7{t:Int}{l o:List Aj}(h:GC t l []=some o):o=l:=by unfold GC at h;rw[List.foldlM_nil]at h;cases h;rfl
theorem ZN{t:Int}{k:Ap}:∀{ws:List An} {l o:List Aj},G3 l->GC t l ws=some o->(∀w∈ws,w.ah≠k)->Es o k=Es l k
 | [],l,o,_,h,_=>by rw[zz7 h]
 |w::ws,l,o,hr,h,hn=>by rw[ZN (ZY hr) (Z9 h) λx hx=>hn x (by simp[hx]),zR hr,if_neg λe=>hn w (by simp) e.symm]
theorem zyw{t:Int}{k:Ap}:∀{ws:List An} {l o:List Aj},G3 l->GC t l ws=some o->(∃w∈ws,w.ah=k)->Ch o k=t
 | [],l,o,_,_,hk=>by obtain⟨w,hw,_⟩:=hk;simp at hw
 |w::ws,l,o,hr,h,hk=>by
  by_cases hm:∃x∈ws,x.ah=k
  ·exact zyw (ZY hr) (Z9 h) hm
  ·have hn:∀x∈ws,x.ah≠k:=λx hx e=>hm ⟨x,hx,e⟩;obtain⟨x,hx,e⟩:=hk;rcases Ae.1 hx with q|q
   ·have h1:=ZN (k:=k) (ZY hr) (Z9 h) hn;have h2:=zAB (k:=w.ah) (k':=k) (v:=⟨t,w.bh,w.bg⟩) hr;unfold Ch at h2 ⊢;rw[h1,h2,if_pos (by rw[<-e,q])]
   ·exact absurd e (hn x q)
theorem zxX{t:Int}:∀{ws:List An} {l o:List Aj},G3 l->GC t l ws=some o-> ∀c∈o,(∃d∈l,d.ah=c.ah)\/ ∃w∈ws,w.ah=c.ah
 | [],l,o,_,h,c,hc=>by rw[zz7 h]at hc;exact .inl ⟨c,hc,rfl⟩
 |w::ws,l,o,hr,h,c,hc=>by
  rcases zxX (ZY hr) (Z9 h) c hc with⟨d,hd,e⟩|⟨x,hx,e⟩
  ·rcases(Nt (key:=ck) hr d).1 hd with q|⟨q,_⟩
   ·exact .inr ⟨w,by simp,by rw[<-e,q]⟩
   ·exact .inl ⟨d,q,e⟩
  ·exact .inr ⟨x,by simp[hx],e⟩
theorem zBa{l:List Aj}{k:Ap}(h:∀c∈l,c.ah≠k):Ch l k=0:=by unfold Ch Es;rw[List.find?_eq_none.2 λc hc=>by simpa using h c hc]
structure Js(s:Ai):Prop where
 floor:0<=s.au/\s.au<=100000
 cells:Eo s.aj=true
 single:∀h∈s.ae,CC (D5 h)=true/\(h.af<=s.au/\ ∀w∈h.ab,Ch s.aj w.ah<h.af)
 apart:s.ae.Pairwise λg h=>CR g h.ak h.ab=false
 room:Ie s.aj (Dk s.ae)=true
 last:∀c∈s.aj,Ch s.aj c.ah<=s.au
 told:∀t∈s.aq,(if t.bm=true then 1<=t.af/\t.af<=s.au else t.af=0)/\ ∀h∈s.ae,hk h≠t.ao
theorem tL{s:Ai}{t:Bj}:IF s t=true↔(if t.bm=true then 1<=t.af/\t.af<=s.au else t.af=0)/\ ∀h∈s.ae,hk h≠t.ao:=by
 unfold IF;rw[Ab];refine and_congr ?_ ?_
 ·cases t.bm
  ·simp
  ·simp only[if_true];exact Fp
 ·unfold CZ;rw[Bg,Option.isSome_eq_false_iff,Option.isNone_iff_eq_none,List.find?_eq_none];simp
theorem zW{s:Ai}:PY s=true↔Js s:=by
 unfold PY L3;simp only[Ab,Bl];constructor
 ·rintro⟨h1,h2,⟨h3,h4⟩,h5,h6⟩;have hs:∀i (hi:i<s.ae.length),CC (D5 s.ae[i])=true/\(s.ae[i].af<=s.au/\(∀g∈s.ae.take i,CR g s.ae[i].ak s.ae[i].ab=false)/\ ∀w∈s.ae[i].ab,Ch s.aj w.ah<s.ae[i].af):=λi hi=>by
   have:=h3 i (List.mem_range.2 hi);rw[PK hi]at this;simp only[Ab,AR,Bg,List.any_eq_false]at this;obtain⟨a,b,c,d⟩:=this;exact⟨a,b,λg hg=>by simpa using c g hg,λw hw=>by have:=d w hw;omega⟩
  refine⟨Fp.1 h1,h2,λh hh=> ?_,?_,h4,λc hc=>by have:=h5 c hc;unfold GG at this;simpa using this,λt ht=>tL.1 (h6 t ht)⟩
  ·obtain⟨i,hi,rfl⟩:=List.mem_iff_getElem.1 hh;obtain⟨a,b,_,d⟩:=hs i hi;exact⟨a,b,d⟩
  ·rw[List.pairwise_iff_getElem];intro i j hi hj Ew;exact(hs j hj).2.2.1 _ (List.mem_iff_getElem.2 ⟨i,by rw[Aw];omega,by rw[List.getElem_take]⟩)
 ·intro g;refine⟨Fp.2 g.floor,g.cells,⟨λi hi=> ?_,g.room⟩,λc hc=>by unfold GG;simpa using g.last c hc,λt ht=>tL.2 (g.told t ht)⟩;have hi:=List.mem_range.1 hi;rw[PK hi];obtain⟨a,b,d⟩:=g.single _ (AF hi);simp only[Ab,AR,Bg,List.any_eq_false];refine⟨a,b,λx hx=> ?_,λw hw=>by have:=d w hw;omega⟩;obtain⟨j,hj,e⟩:=List.mem_iff_getElem.1 hx;rw[Aw]at hj;rw[List.getElem_take]at e;have:=List.pairwise_iff_getElem.1 g.apart j i (by omega) hi (by omega);rw[e]at this;simpa using this
theorem sJ{α:Type}{key:α->Int}{R:α->α->Prop}(hs:∀a b,R a b->R b a){x:α}:∀{l:List α},l.Pairwise R->(∀y∈l,R y x)->(Eu key x l).Pairwise R
 | [],_,_=>by simp[Eu]
 |y::l,h,hx=>by
  have h':=List.pairwise_cons.1 h;unfold Eu;split
  ·exact List.pairwise_cons.2 ⟨λz hz=>hs _ _ (hx z hz),h⟩
  ·refine List.pairwise_cons.2 ⟨λz hz=> ?_,sJ hs h'.2 λz hz=>hx z (by simp[hz])⟩;rcases Km.1 hz with q|q
   ·rw[q];exact hx y (by simp)
   ·exact h'.1 z q
theorem zFQ{α:Type}{R:α->α->Prop}(hs:∀a b,R a b->R b a){l:List α}(h:l.Pairwise R){a b:α}(ha:a∈l)(hb:b∈l)(hn:a≠b):R a b:=by
 obtain⟨i,hi,rfl⟩:=List.mem_iff_getElem.1 ha;obtain⟨j,hj,rfl⟩:=List.mem_iff_getElem.1 hb;rcases Nat.lt_trichotomy i j with q|q|q
 ·exact List.pairwise_iff_getElem.1 h i j hi hj q
 ·subst q;exact absurd rfl hn
 ·exact hs _ _ (List.pairwise_iff_getElem.1 h j i hj hi q)
theorem zC(g h:Ay):CR g h.ak h.ab=CR h g.ak g.ab:=Bool.or_comm _ _
theorem zyK{g h:Ay}(hc:CR g h.ak h.ab=false){w x:An}(hw:w∈h.ab)(hx:x∈g.ab):x.ah≠w.ah:=by intro e;unfold CR at hc;rw[Bool.or_eq_false_iff]at hc;have h2:=hc.2;unfold B6 at h2;have h3:=List.any_eq_false.1 h2 w hw;rw[Bool.not_eq_true,Bool.or_eq_false_iff]at h3;have h4:=h3.1;unfold H9 at h4;have h5:=List.any_eq_false.1 h4 x hx;simp[e]at h5
theorem IJ{hs:List Ay}{w:An}:w∈Dk hs↔ ∃h∈hs,w∈h.ab:=List.mem_flatMap
theorem o8{l l':List Aj}{ws ws':List An}(h:Ie l ws=true)(hf:∀w∈ws',GA l' w=true-> ∃x∈ws,GA l x=true)(hk:∀y∈FW l' ws',y∈FW l ws):Ie l' ws'=true:=by
 unfold Ie at*;simp only[Ab,Bg,List.any_eq_false,AR]at h ⊢;obtain⟨h1,h2⟩:=h;refine⟨λw hw hq=> ?_,Nat.le_trans ?_ h2⟩
 ·obtain⟨x,hx,e⟩:=hf w hw hq;exact h1 x hx e
 ·obtain⟨g1,g2,_⟩:=Nw (FW l ws) [] List.Pairwise.nil;obtain⟨g3,g4,_⟩:=Nw (FW l' ws') [] List.Pairwise.nil;have e:(FW l' ws').foldl (λo k=>CV k o) []=((FW l ws).foldl (λo k=>CV k o) []).filter λy=>decide (y∈FW l' ws'):=by
   refine DQ.ext g3 (DQ.filter g1 _) λy=> ?_;rw[List.mem_filter,g2,g4];simp only[List.not_mem_nil,or_false,AR];exact⟨λq=>⟨hk y q,q⟩,λq=>q.2⟩
  rw[e];exact List.length_filter_le _ _
theorem zFc{s:Ai}(g:Js s)(k:Ap):Ch s.aj k<=s.au:=by
 by_cases h:∃c∈s.aj,c.ah=k
 ·obtain⟨c,hc,e⟩:=h;rw[<-e];exact g.last c hc
 ·rw[zBa λc hc e=>h ⟨c,hc,e⟩];exact g.floor.1
theorem sS{r:Bv}(hr:CC r=true)(k:r.bc=1):(1<=r.af/\r.af<=100000)/\CC (D5 (Mr r))=true:=by unfold CC at hr;rw[if_pos k]at hr;simp only[Ab]at hr;obtain⟨a1,a2,a3,a4,a5,a6,a7,a8,_⟩:=hr;refine⟨Fp.1 a2,?_⟩;unfold CC;rw[if_pos (show(D5 (Mr r)).bc=1 from rfl)];simp only[Ab];exact⟨a1,a2,a3,a4,a5,a6,a7,a8,rfl⟩
theorem zCy{r:Bv}(hr:CC r=true)(k:r.bc=4):1<=r.af/\r.af<=100000:=by unfold CC at hr;rw[if_neg (by omega)]at hr;simp only[Ab]at hr;have h:=hr.2.2.2;rw[if_neg (by omega),if_pos k]at h;simp only[Ab]at h;exact Fp.1 h.2.1
theorem zEJ{r:Bv}(hr:CC r=true)(k1:r.bc≠1)(k4:r.bc≠4):if r.bm=true then 1<=r.af/\r.af<=100000 else r.af=0:=by
 unfold CC at hr;rw[if_neg k1]at hr;simp only[Ab]at hr;have h:=hr.2.2.2;by_cases Ms:r.bc=2\/r.bc=3
 ·rw[if_pos Ms]at h;simp only[Ab]at h;have h:=h.2;cases hy:r.bm with
  |true=>rw[hy]at h;simp only[if_true]at h ⊢;exact Fp.1 h
  |false=>rw[hy]at h;simpa using h
 ·rw[if_neg Ms,if_neg k4]at h;cases h
theorem LZ{l:List Ay}{t:Int}{h:Ay}(hm:h∈Gz l t):h∈l/\hk h≠t:=by obtain⟨a,b⟩:=List.mem_filter.1 hm;exact⟨a,by simpa using b⟩
theorem zDp{s s':Ai}{r:Bv}(h:WS s)(g:Js s)(hr:CC r=true)(e:DD s r=some s'):Js s':=by
 have hle:=zFc g;unfold DD at e;split at e
 ·rename_i k4;have hb:=zCy hr k4;split at e
  ·rename_i hf;cases e;refine⟨by dsimp only;omega,g.cells,λx hx=> ?_,g.apart,g.room,λc hc=>by have:=g.last c hc;dsimp only;omega,λt ht=> ?_⟩
   ·obtain⟨a,b,c⟩:=g.single x hx;exact⟨a,by dsimp only;omega,c⟩
   ·obtain⟨a,b⟩:=g.told t ht;refine⟨?_,b⟩;split
    ·rename_i hy;rw[if_pos hy]at a;dsimp only;omega
    ·rename_i hy;rw[if_neg hy]at a;exact a
  ·cases e
 ·rename_i k4;split at e
  ·cases e
  ·rename_i Ex;have Qh:=ZU Ex;split at e
   ·rename_i k1;obtain⟨hb,hg⟩:=sS hr k1;split at e
    ·cases e
    ·rename_i Gc;have rG:=ZT Gc;split at e
     ·cases e
     ·rename_i hf;split at e
      ·rename_i EI;cases e;unfold K4 at EI;simp only[Ab,Bg,List.any_eq_false]at EI;obtain⟨f1,_,f3⟩:=EI;refine⟨by dsimp only;omega,g.cells,λx hx=> ?_,?_,?_,λc hc=>by have:=g.last c hc;dsimp only;omega,λt ht=> ?_⟩
       ·rcases Km.1 hx with q|q
        ·rw[q];exact⟨hg,Int.le_refl _,λw _=>by have:=hle w.ah;show Ch s.aj w.ah<r.af;omega⟩
        ·obtain⟨a,b,c⟩:=g.single x q;exact⟨a,by dsimp only;omega,c⟩
       ·exact sJ (λa b q=>by rw[zC];exact q) g.apart λy hy=>show CR y r.ak r.ab=false by simpa using f1 y hy
       ·refine o8 f3 (λw hw hq=>⟨w,?_,hq⟩) λy hy=> ?_
        ·obtain⟨x,hx,OQ⟩:=IJ.1 hw;rcases Km.1 hx with q|q
         ·rw[q]at OQ;exact Ac.2 (.inl OQ)
         ·exact Ac.2 (.inr (IJ.2 ⟨x,q,OQ⟩))
        ·unfold FW at*;rcases Ac.1 hy with q|q
         ·exact Ac.2 (.inl q)
         ·obtain⟨w,hw,rfl⟩:=List.mem_map.1 q;refine Ac.2 (.inr (List.mem_map.2 ⟨w,?_,rfl⟩));obtain⟨x,hx,OQ⟩:=IJ.1 hw;rcases Km.1 hx with q|q
          ·rw[q]at OQ;exact Ac.2 (.inl OQ)
          ·exact Ac.2 (.inr (IJ.2 ⟨x,q,OQ⟩))
       ·obtain⟨a,b⟩:=g.told t ht;refine⟨?_,λx hx=> ?_⟩
        ·split
         ·rename_i hy;rw[if_pos hy]at a;dsimp only;omega
         ·rename_i hy;rw[if_neg hy]at a;exact a
        ·rcases Km.1 hx with q|q
         ·rw[q];exact λe=>Qh t ht e.symm
         ·exact b x q
      ·cases e
   ·rename_i k1;have hd:=zEJ hr k1 k4;have apart':(Gz s.ae r.ao).Pairwise λg h=>CR g h.ak h.ab=false:=List.Pairwise.filter _ g.apart;have newold:∀{fl:Int} {t:Bj},s.au<=fl->(r.bm=true->r.af<=fl)->t∈Mn s r->(if t.bm=true then 1<=t.af/\t.af<=fl else t.af=0)/\ ∀h∈Gz s.ae r.ao,hk h≠t.ao:=λ{fl t} B7 Ur ht=>by
     rcases Km.1 ht with q|q
     ·rw[q];refine⟨?_,λx hx=>(LZ hx).2⟩;dsimp only;split
      ·rename_i hy;rw[if_pos hy]at hd;exact⟨hd.1,Ur hy⟩
      ·rename_i hy;rw[if_neg hy]at hd;exact hd
     ·obtain⟨a,b⟩:=g.told t q;refine⟨?_,λx hx=>b x (LZ hx).1⟩;split
      ·rename_i hy;rw[if_pos hy]at a;omega
      ·rename_i hy;rw[if_neg hy]at a;exact a
    split at e
    ·rename_i OR;rw[if_pos OR]at hd;split at e
     ·cases e
     ·rename_i x hx;have Xg:=List.mem_of_find?_eq_some hx;have hxk:hk x=r.ao:=by simpa using List.find?_some hx
      split at e
      ·cases e
      ·split at e
       ·cases e
       ·rename_i o ho;cases e;unfold LJ at ho;split at ho
        ·rename_i p hp;split at ho
         ·rename_i TP;cases ho;have Xb:=h.cells.1;have gf:=g.floor;have far:∀y∈Gz s.ae r.ao,∀w∈y.ab,Es o w.ah=Es s.aj w.ah:=λy hy w hw=>by
           obtain⟨m1,m2⟩:=LZ hy;have BF:x≠y:=λe=>m2 (by rw[<-e];exact hxk);exact ZN Xb hp λz hz=>zyK (zFQ (λa b q=>by rw[zC];exact q) g.apart Xg m1 BF) hw hz
          refine⟨by dsimp only;split<;>omega,TP,λy hy=> ?_,apart',?_,λc hc=> ?_,λt ht=>newold (by dsimp only;split<;>omega) (λ_=>by dsimp only;split<;>omega) ht⟩
          ·obtain⟨m1,m2⟩:=LZ hy;obtain⟨a,b,c⟩:=g.single y m1;refine⟨a,by dsimp only;split<;>omega,λw hw=> ?_⟩;have:=c w hw;unfold Ch at this ⊢;rw[far y hy w hw];exact this
          ·refine o8 g.room (λw hw hq=> ?_) λy hy=> ?_
           ·obtain⟨z,hz,MX⟩:=IJ.1 hw;refine⟨w,IJ.2 ⟨z,(LZ hz).1,MX⟩,?_⟩;unfold GA at hq ⊢;rw[far z hz w MX]at hq;exact hq
           ·unfold FW at*;rcases Ac.1 hy with q|q
            ·obtain⟨c,hc,rfl⟩:=List.mem_map.1 q;rcases zxX Xb hp c hc with⟨d,hd,e⟩|⟨w,hw,e⟩
             ·exact Ac.2 (.inl (List.mem_map.2 ⟨d,hd,e⟩))
             ·exact Ac.2 (.inr (List.mem_map.2 ⟨w,IJ.2 ⟨x,Xg,hw⟩,e⟩))
            ·obtain⟨w,hw,rfl⟩:=List.mem_map.1 q;obtain⟨z,hz,MX⟩:=IJ.1 hw;exact Ac.2 (.inr (List.mem_map.2 ⟨w,IJ.2 ⟨z,(LZ hz).1,MX⟩,rfl⟩))
          ·by_cases hw:∃w∈x.ab,w.ah=c.ah
           ·show Ch o c.ah<=_;rw[zyw Xb hp hw];dsimp only;split<;>omega
           ·have e2:=ZN (k:=c.ah) Xb hp λw hx e=>hw ⟨w,hx,e⟩;have e3:Ch o c.ah=Ch s.aj c.ah:=by unfold Ch;rw[e2]
            have:=hle c.ah;show Ch o c.ah<=_;rw[e3];dsimp only;split<;>omega
         ·cases ho
        ·cases ho
    ·rename_i OR;cases e;refine⟨g.floor,g.cells,λy hy=>g.single y (LZ hy).1,apart',?_,g.last,λt ht=>newold (Int.le_refl _) (λhy=>absurd hy OR) ht⟩;refine o8 g.room (λw hw hq=> ?_) λy hy=> ?_
     ·obtain⟨z,hz,MX⟩:=IJ.1 hw;exact⟨w,IJ.2 ⟨z,(LZ hz).1,MX⟩,hq⟩
     ·unfold FW at*;rcases Ac.1 hy with q|q
      ·exact Ac.2 (.inl q)
      ·obtain⟨w,hw,rfl⟩:=List.mem_map.1 q;obtain⟨z,hz,MX⟩:=IJ.1 hw;exact Ac.2 (.inr (List.mem_map.2 ⟨w,IJ.2 ⟨z,(LZ hz).1,MX⟩,rfl⟩))
theorem zyu{β:Type}{n:Nat}{body:Int->Option (Int ⊕ Option β)}(p:Nat->Bool)(b:β)(fin:Option β)
  (hs:∀i,i<n->(∀j,j<i->p j=true)->body (i:Int)=some (if p i=true then .inl ((i+1:Nat):Int)else .inr (some b)))
  (he:(∀j,j<n->p j=true)->body (n:Int)=some (.inr fin)):Au body 0=if(List.range n).all p=true then fin else some b:=by
 have key:∀(k q:Nat),q+k=n->(∀j,j<q->p j=true)->Au body (q:Int)=if(List.range' q k).all p=true then fin else some b:=by
  intro k
  induction k with
  |zero=>
   intro q hq hp;have:q=n:=by omega
   subst this;rw[DK,he hp];rfl
  |succ k ih=>
   intro q hq hp;rw[DK,hs q (by omega) hp,List.range'_succ,List.all_cons];cases hb:p q with
   |false=>simp
   |true=>
    have:=ih (q+1) (by omega) (λj hj=>by
     rcases Nat.lt_succ_iff_lt_or_eq.1 hj with h|h
     ·exact hp j h
     ·rw[h];exact hb)
    rw[if_pos rfl,Bool.true_and];exact this
 have:=key n 0 (by omega) (λj hj=>by omega);rw[List.range_eq_range'];exact this
def S8{α:Type}(key:α->Int)(l:List α):Nat->Bool
 |0=>true
 |j+1=>match l[j]?,l[j+1]? with
  |some a,some b=>decide (key a<key b)
  |_,_=>true
theorem Sy{α:Type}{key:α->Int}{l:List α}{i:Nat}(hi:i<l.length)(h0:0<i):S8 key l i=decide (key l[i-1]<key l[i]):=by
 cases i with
 |zero=>omega
 |succ j=>
  show(match l[j]?,l[j+1]? with
   |some a,some b=>decide (key a<key b)
   |_,_=>true)=_
  rw[Bh hi,Bh (show j<l.length by omega)];rfl
theorem Zz{α:Type}{key:α->Int}{l:List α}{i:Nat}(h0: ¬0<i):S8 key l i=true:=by
 have:i=0:=by omega
 subst this;rfl
theorem zwc{α:Type}{key:α->Int}{l:List α}(h:∀i,i<l.length->S8 key l i=true):Cf key l:=by
 have aux:∀(d i:Nat) (hj:i+d+1<l.length),key (l[i]'(by omega))<key l[i+d+1]:=by
  intro d
  induction d with
  |zero=>intro i hj;have:=h (i+1) hj;rw[Sy hj (by omega)]at this;simpa using this
  |succ d ih=>intro i hj;have h1:=ih i (by omega);have h2:=h (i+(d+1)+1) hj;rw[Sy hj (by omega)]at h2;simp only[AR]at h2;exact Int.lt_trans h1 h2
 refine List.pairwise_iff_getElem.2 λi j hi hj Ew=> ?_;have:=aux (j-i-1) i (by omega);have e:i+(j-i-1)+1=j:=by omega
 simpa only[e]using this
theorem n7{l:List Aj}(hs:PO l)(h:Eo l=true):Dx 24 l:=by unfold Eo at h;simp only[Ab,AR,Bl]at h;obtain⟨h1,h2,h3⟩:=h;refine⟨(Sl (r:=SP) λa b c p q=>FV p q).1 h3,by omega,λc hc=> ?_⟩;have h:=h2 c hc;unfold Gx IL at h;simp only[Ab]at h;have h4:=Fp.1 h.2.1;refine⟨λe=> ?_,by omega,hs.2 c hc⟩;rw[e]at h4;simp at h4
theorem Z8{r:Bv}(hs:Gy r)(h:CC r=true)(h1:r.bc=1):Il r:=by unfold CC at h;rw[if_pos h1]at h;simp only[Ab,AR]at h;obtain⟨a1,a2,a3,a4,a5,a6,a7,a8,a9⟩:=h;have b:=Fp.1 a1;exact⟨by omega,by omega,zq4 a6,⟨by omega,hs.writes.2⟩,λh=>absurd h1 h,λ_=>b⟩
def Jr(s:Ai)(i:Nat):Bool:=Mw s i&&S8 hk s.ae i
def LM(s:Ai)(i:Nat):Bool:=S8 tk s.aq i&&(match s.aq[i]? with|some t=>BI t.ao 1 60&&IF s t|none=>true)
def KU(s:Ai):Bool:=(List.range s.ae.length).all (Jr s)&&(decide (s.ae.length<=12)&&Ie s.aj (Dk s.ae))
def I0(s:Ai):Bool:=BI s.au 0 100000&&(Eo s.aj&&(KU s&&(decide (s.aq.length<=60)&&(s.aj.all (GG s)&&(List.range s.aq.length).all (LM s)))))
structure Me(s:Ai):Prop where
 cells:PO s.aj
 lu:s.ae.length<=2000000
 held:∀x∈s.ae,Gy (D5 x)
 mj:s.aq.length<=2000000
theorem pJ{s:Ai}(h:Me s){i:Nat}(hi:i<s.ae.length)(ha:Jr s i=true):Il (D5 s.ae[i]):=by unfold Jr at ha;rw[PK hi]at ha;simp only[Ab]at ha;exact Z8 (h.held _ (AF hi)) ha.1.1 rfl
theorem Wx{x:Ay}(h:Il (D5 x)):HH x/\Nz x.ab:=⟨⟨h.reads,h.writes,h.di⟩,h.small⟩
theorem Wc{s:Ai}(h:Me s)(ha:∀i,i<s.ae.length->Jr s i=true):Cf hk s.ae/\(s.ae.length<=60/\ ∀x∈s.ae,HH x/\Nz x.ab):=by
 have hr:Cf hk s.ae:=zwc λi hi=>by have:=ha i hi;unfold Jr at this;rw[Ab]at this;exact this.2
 have ho:∀x∈s.ae,Il (D5 x):=λx hx=>by obtain⟨i,hi,rfl⟩:=List.mem_iff_getElem.1 hx;exact pJ h hi (ha i hi)
 have:=Cf.len (lo:=1) (hi:=60) hr λx hx=>(ho x hx).mh (by show(1:Int)≠4;omega);exact⟨hr,by omega,λx hx=>Wx (ho x hx)⟩
abbrev ik(n:Int):Int:=n
theorem zwK:∀{a b:List Int},Cf ik a->Cf ik b->(∀y,y∈a↔y∈b)->a=b
 | [],[],_,_,_=>rfl
 | [],y::b,_,_,h=>by have:=(h y).2 (by simp);simp at this
 |x::a,[],_,_,h=>by have:=(h x).1 (by simp);simp at this
 |x::a,y::b,ha,hb,h=>by
  have h1:=List.pairwise_cons.1 ha;have h2:=List.pairwise_cons.1 hb;have e:x=y:=by
   rcases Ae.1 ((h x).1 (by simp))with q|q
   ·exact q
   ·rcases Ae.1 ((h y).2 (by simp))with p|p
    ·exact p.symm
    ·have i1:y<x:=h2.1 x q;have i2:x<y:=h1.1 y p;omega
  subst e;rw[zwK h1.2 h2.2 λz=> ?_];have hz:=h z;simp only[Ae]at hz;constructor
  ·intro q;rcases hz.1 (.inr q)with p|p
   ·have:x<z:=h1.1 z q;omega
   ·exact p
  ·intro q;rcases hz.2 (.inr q)with p|p
   ·have:x<z:=h2.1 z q;omega
   ·exact p
theorem zui{zs:List Int}(h:zs.Pairwise λa b=>a<=b):Cf ik (Lib.compact zs)/\ ∀y,y∈Lib.compact zs↔y∈zs:=by
 have get:∀j (hj:j<zs.length),(zs.toArray[j]!)=zs[j]:=λj hj=>by rw[getElem!_pos _ j (by simpa using hj)];simp
 have le:∀i j (hi:i<zs.length) (hj:j<zs.length),i<=j->zs[i]<=zs[j]:=λi j hi hj Ew=>by
  rcases Nat.lt_or_ge i j with k|k
  ·exact(List.pairwise_iff_getElem.1 h) i j hi hj k
  ·have:i=j:=by omega
   subst this;exact Int.le_refl _
 unfold Lib.compact Lib.compactUpTo;constructor
 ·unfold Cf;rw[List.pairwise_map];have hp:(List.range zs.length).Pairwise (· < ·):=List.pairwise_lt_range;have:=List.Pairwise.filter (Lib.keeps zs.toArray) hp;refine List.Pairwise.imp_of_mem ?_ this;intro i j hi hj Ew;have JL:=(List.mem_filter.1 hj).2;have HQ:j<zs.length:=by simpa using(List.mem_filter.1 hj).1
  have BF:zs[j]'HQ≠zs[j-1]'(by omega):=by
   unfold Lib.keeps at JL;simp only[AR]at JL;rcases JL with k|k
   ·omega
   ·rw[get j HQ,get (j-1) (by omega)]at k;exact k
  rw[get i (by omega),get j HQ];have h1:=le i (j-1) (by omega) (by omega) (by omega);have h2:=le (j-1) j (by omega) HQ (by omega);show(zs[i]'(by omega))<(zs[j]'HQ);omega
 ·intro y;constructor
  ·intro hy;obtain⟨j,hj,rfl⟩:=List.mem_map.1 hy;have AH:j<zs.length:=by simpa using(List.mem_filter.1 hj).1
   rw[get j AH];exact AF _
  ·intro hy;obtain⟨i,hi,rfl⟩:=List.getElem_of_mem hy
   induction i using Nat.strongRecOn with
   |_ i ih=>
    by_cases hk:Lib.keeps zs.toArray i=true
    ·exact List.mem_map.2 ⟨i,List.mem_filter.2 ⟨by simpa using hi,hk⟩,get i hi⟩
    ·unfold Lib.keeps at hk;simp only[AR,not_or,Classical.not_not]at hk;have e:zs[i]=zs[i-1]'(by omega):=by
      have:=hk.2;rw[get i hi,get (i-1) (by omega)]at this;exact this
     rw[e];exact ih (i-1) (by omega) (by omega) (AF _)
def HD(n:Int)(l:List Int):List Int:=if n∈l then l else Eu ik n l
theorem zCf{n y:Int}{l:List Int}:y∈HD n l↔y=n\/y∈l:=by
 unfold HD;split
 ·constructor
  ·exact .inr
  ·rintro(rfl|h)
   ·assumption
   ·exact h
 ·exact Km
theorem zwO{n:Int}{l:List Int}(h:Cf ik l):Cf ik (HD n l):=by
 unfold HD;split
 ·exact h
 ·rename_i hn;exact Cf.ins h λy hy e=>hn (by have e:y=n:=e;rw[<-e];exact hy)
theorem nJ:∀(ns o:List Int),Cf ik o->Cf ik (ns.foldl (λo n=>HD n o) o)/\ ∀y,y∈ns.foldl (λo n=>HD n o) o↔y∈ns\/y∈o
 | [],o,h=>⟨h,by simp⟩
 |n::ns,o,h=>by obtain⟨h1,h2⟩:=nJ ns (HD n o) (zwO h);refine⟨h1,λy=> ?_⟩;rw[List.foldl_cons,h2,zCf,Ae,or_assoc,or_left_comm]
def Dt(cuts:List Ap)(k:Ap):Nat:=(cuts.filter λc=> !bl k c).length
theorem zBq{a b:Ap}(h:bl a b=true):Jc a b:=Nx h
theorem zzz{cuts:List Ap}{a b:Ap}(h:Jc a b):Dt cuts a<=Dt cuts b:=by unfold Dt;rw[<-List.countP_eq_length_filter,<-List.countP_eq_length_filter];refine List.countP_mono_left λc _ hc=> ?_;simp only[Bg]at hc ⊢;exact zBw hc h
theorem zyl(cuts:List Ap)(k:Ap):Dt cuts k<=cuts.length:=List.length_filter_le _ _
theorem zK:∀{cuts:List Ap} {k:Ap},Ff cuts->Dt cuts k=AD (λc=> !bl k c) cuts
 | [],_,_=>rfl
 |c::cuts,k,h=>by
  have h1:=List.pairwise_cons.1 h;have ih:=zK (k:=k) h1.2;unfold Dt AD at ih ⊢;rw[List.filter_cons,List.takeWhile_cons];cases hb:bl k c with
  |false=>simpa using ih
  |true=>
   have:(cuts.filter λc=> !bl k c)=[]:=List.filter_eq_nil_iff.2 λd hd=>by rw[FV hb (h1.1 d hd)];simp
   simp[this]
def Ed(rs:List Ap)(ws:List An):List Ap:=(rs++ws.map Ee).foldl (λo k=>CV k o) []
def IP(cuts rs:List Ap)(ws:List An):List Int:=((Ed rs ws).map λk=>(Dt cuts k:Int)).foldl (λo n=>HD n o) []
theorem aJ(rs:List Ap)(ws:List An):Ff (Ed rs ws)/\(∀y,y∈Ed rs ws↔y∈rs\/ ∃w∈ws,w.ah=y)/\(Ed rs ws).length<=rs.length+ws.length:=by obtain⟨h1,h2,h3⟩:=Nw (rs++ws.map Ee) [] List.Pairwise.nil;refine⟨h1,λy=> ?_,by unfold Ed;simpa using h3⟩;unfold Ed;rw[h2];simp[Ee]
theorem ztM(cuts rs:List Ap)(ws:List An):Lib.compact ((Ed rs ws).map λk=>(Dt cuts k:Int))=IP cuts rs ws:=by
 obtain⟨h1,_,_⟩:=aJ rs ws;have hp:((Ed rs ws).map λk=>(Dt cuts k:Int)).Pairwise λa b=>a<=b:=by rw[List.pairwise_map];exact h1.imp λ{a b} h=>Int.ofNat_le.2 (zzz (zBq h))
 obtain⟨a1,a2⟩:=zui hp;obtain⟨b1,b2⟩:=nJ ((Ed rs ws).map λk=>(Dt cuts k:Int)) [] List.Pairwise.nil;exact zwK a1 b1 λy=>by rw[a2];have:=b2 y;simp only[List.not_mem_nil,or_false]at this;exact this.symm
theorem ZM(cuts rs:List Ap)(ws:List An):Cf ik (IP cuts rs ws)/\ ∀y,y∈IP cuts rs ws↔(∃k∈rs,(Dt cuts k:Int)=y)\/ ∃w∈ws,(Dt cuts w.ah:Int)=y:=by
 obtain⟨b1,b2⟩:=nJ ((Ed rs ws).map λk=>(Dt cuts k:Int)) [] List.Pairwise.nil;obtain⟨_,h2,_⟩:=aJ rs ws;refine⟨b1,λy=> ?_⟩;unfold IP;rw[b2];simp only[List.mem_map,List.not_mem_nil,or_false];constructor
 ·rintro⟨k,hk,e⟩;rcases(h2 k).1 hk with q|⟨w,hw,q⟩
  ·exact .inl ⟨k,q,e⟩
  ·exact .inr ⟨w,hw,by rw[q];exact e⟩
 ·rintro(⟨k,hk,e⟩|⟨w,hw,e⟩)
  ·exact⟨k,(h2 k).2 (.inl hk),e⟩
  ·exact⟨w.ah,(h2 _).2 (.inr ⟨w,hw,rfl⟩),e⟩
theorem zzo(cuts rs:List Ap)(ws:List An):(IP cuts rs ws).length<=cuts.length+1/\ ∀y∈IP cuts rs ws,0<=y/\y<=cuts.length:=by
 obtain⟨h1,h2⟩:=ZM cuts rs ws;have hb:∀y∈IP cuts rs ws,0<=y/\y<=cuts.length:=λy hy=>by
  rcases(h2 y).1 hy with⟨k,_,rfl⟩|⟨w,_,rfl⟩
  ·have:=zyl cuts k;omega
  ·have:=zyl cuts w.ah;omega
 have:=Cf.len (lo:=0) (hi:=cuts.length) h1 hb;exact⟨by omega,hb⟩
theorem PE{n:Nat}{p:Nat->Bool}(ha:(List.range n).all p=true):∀i,i<n->p i=true:=λi hi=>Bl.1 ha i (List.mem_range.2 hi)
theorem zAh{s:Ai}(hc:Dx 24 s.aj)(h:Me s):QK s=some (KU s):=by
 have hl:=h.lu;unfold QK;rw[zyu (n:=s.ae.length) (body:=λi=>Ka s i) (Jr s) false (UU s) (λi hi hp=> ?_) (λ_=>by show Ka s (s.ae.length:Int)=_;unfold Ka;rw[if_neg (by simp)])]
 ·unfold UU KU;by_cases ha:(List.range s.ae.length).all (Jr s)=true
  ·obtain⟨_,qJ,ho⟩:=Wc h (PE ha);rw[if_pos ha,ha,pZ hc qJ λx hx=>(ho x hx).1,Aa,Bool.true_and]
  ·rw[if_neg ha,Bool.eq_false_iff.2 ha,Bool.false_and]
 ·have hx:=AF hi;show Ka s (i:Int)=_;unfold Ka Jr;rw[PK hi,if_pos (by simpa using hi),AN hi,Aa,show RO s.ae[i]=some (D5 s.ae[i])from rfl,Aa,pT (h.held _ hx),Aa];cases hg:CC (D5 s.ae[i])with
  |false=>
   by_cases hp:0<i
   ·rw[if_pos (by simp;omega)];rfl
   ·rw[if_neg (by simp;omega)];rfl
  |true=>
   obtain⟨⟨o1,o2,o3⟩,o4⟩:=Wx (Z8 (h.held _ hx) hg rfl);have e1:E0 (A4 s.ae 0 (i:Int)) (λy0_=>O5 y0_ s.ae[i])=some ((s.ae.take i).any λg=>CR g s.ae[i].ak s.ae[i].ab):=by rw[Kl];refine L5 _ (λg hgm=> ?_) (by rw[Aw];omega);obtain⟨j,hj,rfl⟩:=List.mem_iff_getElem.1 hgm;rw[Aw]at hj;rw[List.getElem_take];obtain⟨⟨g1,g2,g3⟩,_⟩:=Wx (pJ h (show j<s.ae.length by omega) (hp j (by omega)));unfold O5 R6 CR;rw[Sg (by omega) (by omega) (by omega) g3,Aa,Sg (by omega) (by omega) (by omega) o3,Aa];cases B6 s.ae[i].ab s.ae[j].ak s.ae[j].ab<;>cases B6 s.ae[j].ab s.ae[i].ak s.ae[i].ab<;>rfl
   have e2:E0 s.ae[i].ab (λy0_=>OZ y0_ s.ae[i] s)=some (s.ae[i].ab.any λw=>decide (s.ae[i].af<=Ch s.aj w.ah)):=by refine L5 _ (λw _=> ?_) (by omega);unfold OZ;rw[Wm (n:=24) (by omega) hc];rfl
   have rq:0<=(0:Int)/\(0:Int)<=(i:Int)/\(i:Int)<=(s.ae.length:Int):=by omega
   rw[e1,e2,Bx (by omega)];generalize (s.ae.take i).any (λg=>CR g s.ae[i].ak s.ae[i].ab)=A;generalize s.ae[i].ab.any (λw=>decide (s.ae[i].af<=Ch s.aj w.ah))=B;by_cases hp:0<i
   ·rw[if_pos (by simp;omega),ND hi hp (by omega),if_pos rfl,Sy hi hp,Aa,A7 rq,Aa,Aa];by_cases ht:s.ae[i].af<=s.au
    ·rw[if_neg (by simp;omega)];by_cases hr:hk s.ae[i-1]<hk s.ae[i]
     ·have CB: ¬s.ae[i].ao<=s.ae[i-1].ao:=Int.not_le.2 hr;rw[if_neg (by simpa using CB)];cases A<;>cases B<;>simp[ht,hr]
     ·have CB:s.ae[i].ao<=s.ae[i-1].ao:=Int.not_lt.1 hr;rw[if_pos (by simpa using CB)];simp[hr]
    ·rw[if_pos (by simp;omega)];simp[ht]
   ·rw[if_neg (by simp;omega),Zz hp,A7 rq,Aa,Aa];by_cases ht:s.ae[i].af<=s.au
    ·rw[if_neg (by simp;omega)];cases A<;>cases B<;>simp[ht]
    ·rw[if_pos (by simp;omega)];simp[ht]
theorem zzU{s:Ai}(hc:Dx 24 s.aj)(h:Me s):R5 s=some (KU s):=by
 have hl:=h.lu;unfold R5;rw[zyu (n:=s.ae.length) (body:=λi=>Ke s i) (Jr s) false (U5 s) (λi hi hp=> ?_) (λ_=>by show Ke s (s.ae.length:Int)=_;unfold Ke;rw[if_neg (by simp)])]
 ·unfold U5 KU;by_cases ha:(List.range s.ae.length).all (Jr s)=true
  ·obtain⟨_,qJ,ho⟩:=Wc h (PE ha);rw[if_pos ha,ha,Bool.true_and];by_cases FJ:s.ae.length<=12
   ·rw[if_pos (by simp;omega),pO hc FJ (λx hx=>(ho x hx).1) (by simp),Aa,List.nil_append];simp[FJ]
   ·rw[if_neg (by simp;omega)];simp[FJ]
  ·rw[if_neg ha,Bool.eq_false_iff.2 ha,Bool.false_and]
 ·have hx:=AF hi;show Ke s (i:Int)=_;unfold Ke Jr;rw[PK hi,if_pos (by simpa using hi),AN hi,Aa,show Yl s.ae[i]=some (D5 s.ae[i])from rfl,Aa,aY (h.held _ hx),Aa];cases hg:CC (D5 s.ae[i])with
  |false=>
   by_cases hp:0<i
   ·rw[if_pos (by simp;omega)];rfl
   ·rw[if_neg (by simp;omega)];rfl
  |true=>
   obtain⟨⟨o1,o2,o3⟩,o4⟩:=Wx (Z8 (h.held _ hx) hg rfl);have t5:KN s (i:Int) s.ae[i]=some (if(s.ae[i].ab.all λw=> !decide (s.ae[i].af<=Ch s.aj w.ah))=true then .inl ((i+1:Nat):Int)else .inr (some false)):=by
    unfold KN;rw[Hr (xs:=s.ae[i].ab) (body:=λj=>J5 s (i:Int) s.ae[i] j) (λw=> !decide (s.ae[i].af<=Ch s.aj w.ah)) (.inr (some false)) (U9 (i:Int)) (λj hj=>by
     show J5 s (i:Int) s.ae[i] (j:Int)=_;unfold J5;rw[if_pos (by simpa using hj),AN hj,Aa,SN (n:=24) (by omega) hc,Aa,Bx (by omega)];by_cases hq:s.ae[i].af<=Ch s.aj (s.ae[i].ab[j]).ah
     ·rw[if_pos (by simpa using hq)];simp[hq]
     ·rw[if_neg (by simpa using hq)];simp[hq]) (by
     show J5 s (i:Int) s.ae[i] (s.ae[i].ab.length:Int)=_;unfold J5;rw[if_neg (by simp)])]
    unfold U9;rw[Bx (by omega)];split<;>rfl
   have t9:Rz s (i:Int) s.ae[i]=KN s (i:Int) s.ae[i]:=rfl;have t6:Au (λj:Int=>Je s (i:Int) s.ae[i] j) 0=if((s.ae.take i).all λg=> !CR g s.ae[i].ak s.ae[i].ab)=true then KN s (i:Int) s.ae[i]else some (.inr (some false)):=by
    refine Hr (xs:=s.ae.take i) (λg=> !CR g s.ae[i].ak s.ae[i].ab) (.inr (some false)) (KN s (i:Int) s.ae[i]) (λj hj=> ?_) ?_
    ·rw[Aw]at hj;obtain⟨og,_⟩:=Wx (pJ h (show j<s.ae.length by omega) (hp j (by omega)));show Je s (i:Int) s.ae[i] (j:Int)=_;unfold Je;rw[Kl,if_pos (by rw[Aw];simp;omega),AN (by rw[Aw];omega),Aa,List.getElem_take,aI og (by omega) (by omega),Aa,Bx (by omega)];cases CR s.ae[j] s.ae[i].ak s.ae[i].ab<;>rfl
    ·show Je s (i:Int) s.ae[i] ((s.ae.take i).length:Int)=_;unfold Je;rw[Kl,if_neg (by simp)]
   have t10:Au (λj:Int=>O3 s (i:Int) s.ae[i] j) 0=Au (λj:Int=>Je s (i:Int) s.ae[i] j) 0:=rfl;have rq:0<=(0:Int)/\(0:Int)<=(i:Int)/\(i:Int)<=(s.ae.length:Int):=by omega
   rw[t10,t6,t5,List.not_any_eq_all_not,List.not_any_eq_all_not];generalize ((s.ae.take i).all λg=> !CR g s.ae[i].ak s.ae[i].ab)=A;generalize (s.ae[i].ab.all λw=> !decide (s.ae[i].af<=Ch s.aj w.ah))=B;by_cases hp:0<i
   ·rw[if_pos (by simp;omega),ND hi hp (by omega),if_pos rfl,Sy hi hp,Aa,A7 rq];by_cases ht:s.ae[i].af<=s.au
    ·rw[if_neg (by simp;omega)];by_cases hr:hk s.ae[i-1]<hk s.ae[i]
     ·have CB: ¬s.ae[i-1].ao>=s.ae[i].ao:=Int.not_le.2 hr;rw[if_neg (by simpa using CB)];cases A<;>cases B<;>simp[ht,hr]
     ·have CB:s.ae[i-1].ao>=s.ae[i].ao:=Int.not_lt.1 hr;rw[if_pos (by simpa using CB)];simp[hr]
    ·rw[if_pos (by simp;omega)];simp[ht]
   ·rw[if_neg (by simp;omega),Zz hp,A7 rq];by_cases ht:s.ae[i].af<=s.au
    ·rw[if_neg (by simp;omega)];cases A<;>cases B<;>simp[ht]
    ·rw[if_pos (by simp;omega)];simp[ht]
theorem Wg{s:Ai}{i:Nat}(hi:i<s.aq.length):LM s i=(S8 tk s.aq i&&(BI s.aq[i].ao 1 60&&IF s s.aq[i])):=by unfold LM;rw[Bh hi]
theorem zCn{s:Ai}(hr:Cf hk s.ae)(hl:s.ae.length<=60)(ht:s.aq.length<=60):Q9 s=some ((List.range s.aq.length).all (LM s)):=by
 unfold Q9;rw[Kj (n:=s.aq.length) (body:=λi=>J9 s i) (LM s) false (some true) (λi hi=> ?_) (by show J9 s (s.aq.length:Int)=_;unfold J9;rw[if_neg (by simp)])]
 ·cases(List.range s.aq.length).all (LM s)<;>rfl
 ·show J9 s (i:Int)=_;unfold J9;rw[Wg hi];unfold IF;rw[if_pos (by simpa using hi),AN hi,Aa,aV,V3 (s:=s) (t:=s.aq[i].ao) (by omega) hr,Py,Bx (by omega)];simp only[Aa];generalize (CZ s s.aq[i].ao).isSome=H;generalize BI s.aq[i].af 1 s.au=V;generalize BI s.aq[i].ao 1 60=X;generalize (s.aq[i].af==0)=T;by_cases hp:0<i
  ·have e1:decide ((i:Int)>0)=true:=by simp;omega
   have e0:decide (s.aq[i].ao<=s.aq[i-1].ao)= !decide (tk s.aq[i-1]<tk s.aq[i]):=by rw[<-decide_not];exact decide_eq_decide.2 Int.not_lt.symm
   rw[ND hi hp (by omega),Sy hi hp];simp only[Aa,e0,e1,if_true];generalize decide (tk s.aq[i-1]<tk s.aq[i])=R;cases s.aq[i].bm<;>cases V<;>cases T<;>cases H<;>cases X<;>cases R<;>rfl
  ·have e1:decide ((i:Int)>0)=false:=by simp;omega
   rw[Zz hp];simp only[e1,AS,if_false];cases s.aq[i].bm<;>cases V<;>cases T<;>cases H<;>cases X<;>rfl
theorem zDz{s:Ai}(hl:s.ae.length<=60)(ht:s.aq.length<=60):RG s=some ((List.range s.aq.length).all (LM s)):=by
 unfold RG;rw[Kj (n:=s.aq.length) (body:=λi=>J6 s i) (LM s) false (some true) (λi hi=> ?_) (by show J6 s (s.aq.length:Int)=_;unfold J6;rw[if_neg (by simp)])]
 ·cases(List.range s.aq.length).all (LM s)<;>rfl
 ·show J6 s (i:Int)=_;unfold J6;rw[Wg hi];unfold IF;obtain⟨P,p1,p2⟩:∃P,Kf s s.aq[i].ao=some P/\P.2=(CZ s s.aq[i].ao).isSome:=by
   rw[ZO (by omega)];cases CZ s s.aq[i].ao with
   |none=>exact⟨_,rfl,rfl⟩
   |some x=>exact⟨_,rfl,rfl⟩
  rw[if_pos (by simpa using hi),AN hi,Aa,p1,Bx (by omega)];simp only[NJ,Aa,p2,bne];generalize (CZ s s.aq[i].ao).isSome=H;generalize BI s.aq[i].af 1 s.au=V;generalize BI s.aq[i].ao 1 60=X;generalize (s.aq[i].af==0)=T;by_cases hp:0<i
  ·have e1:decide ((i:Int)>0)=true:=by simp;omega
   have e0:decide (s.aq[i-1].ao>=s.aq[i].ao)= !decide (tk s.aq[i-1]<tk s.aq[i]):=by rw[<-decide_not];exact decide_eq_decide.2 Int.not_lt.symm
   rw[ND hi hp (by omega),Sy hi hp];simp only[Aa,e0,e1,if_true];generalize decide (tk s.aq[i-1]<tk s.aq[i])=R;cases s.aq[i].bm<;>cases V<;>cases T<;>cases H<;>cases X<;>cases R<;>rfl
  ·have e1:decide ((i:Int)>0)=false:=by simp;omega
   rw[Zz hp];simp only[e1,AS,if_false];cases s.aq[i].bm<;>cases V<;>cases T<;>cases H<;>cases X<;>rfl
theorem zDh{s:Ai}(h:Me s):Rm s=some (I0 s):=by
 unfold Rm I0;rw[show R1 s.au=some (BI s.au 0 100000)from rfl,Aa];cases BI s.au 0 100000 with
 |false=>rfl
 |true=>
  rw[if_pos rfl,oY h.cells,Aa];cases TP:Eo s.aj with
  |false=>rfl
  |true=>
   have hc:=n7 h.cells TP;have Ax:=hc.2.1;rw[if_pos rfl,zAh hc h,Aa];cases hh:KU s with
   |false=>rfl
   |true=>
    unfold KU at hh;simp only[Ab]at hh;obtain⟨hr,hl,_⟩:=Wc h (PE hh.1);by_cases ht:s.aq.length<=60
    ·rw[if_neg (by simp;omega),Hr (xs:=s.aj) (body:=λi=>J8 s i) (GG s) false (Q9 s) (λi hi=> ?_) (by
      show J8 s (s.aj.length:Int)=_;unfold J8;rw[if_neg (by simp)]),zCn hr hl ht,decide_eq_true ht]
     ·cases s.aj.all (GG s)<;>rfl
     ·show J8 s (i:Int)=_;unfold J8 GG;rw[if_pos (by simpa using hi),AN hi,Aa,Wm (n:=24) (by omega) hc,Aa,Bx (by omega)];by_cases hq:Ch s.aj (s.aj[i]).ah<=s.au
      ·rw[if_neg (by simp;omega)];simp[hq]
      ·rw[if_pos (by simp;omega)];simp[hq]
    ·rw[if_pos (by simp;omega),decide_eq_false ht];rfl
theorem zCA{s:Ai}(h:Me s):LQ s=some (I0 s):=by
 unfold LQ I0;rw[show Pk s.au=some (BI s.au 0 100000)from rfl,Aa];cases BI s.au 0 100000 with
 |false=>rfl
 |true=>
  rw[if_pos rfl,oJ h.cells,Aa];cases TP:Eo s.aj with
  |false=>rfl
  |true=>
   have hc:=n7 h.cells TP;have Ax:=hc.2.1;rw[if_pos rfl,zzU hc h,Aa];cases hh:KU s with
   |false=>rfl
   |true=>
    unfold KU at hh;simp only[Ab]at hh;obtain⟨hr,hl,_⟩:=Wc h (PE hh.1);by_cases ht:s.aq.length<=60
    ·rw[if_neg (by simp;omega),Hr (xs:=s.aj) (body:=λi=>J7 s i) (GG s) false (RG s) (λi hi=> ?_) (by
      show J7 s (s.aj.length:Int)=_;unfold J7;rw[if_neg (by simp)]),zDz hl ht,decide_eq_true ht]
     ·cases s.aj.all (GG s)<;>rfl
     ·show J7 s (i:Int)=_;unfold J7 GG;rw[if_pos (by simpa using hi),AN hi,Aa,SN (n:=24) (by omega) hc,Aa,Bx (by omega)];by_cases hq:Ch s.aj (s.aj[i]).ah<=s.au
      ·rw[if_neg (by simp;omega)];simp[hq]
      ·rw[if_pos (by simp;omega)];simp[hq]
    ·rw[if_pos (by simp;omega),decide_eq_false ht];rfl
theorem zEz{s:Ai}(h:Me s)(g:I0 s=true):WS s/\Js s:=by
 unfold I0 KU at g;simp only[Ab,AR]at g;obtain⟨g1,g2,⟨g3,g4,g5⟩,g6,g7,g8⟩:=g;have BX:=PE g3;have tall:=PE g8;obtain⟨hr,hl,ho⟩:=Wc h BX;refine⟨⟨n7 h.cells g2,g4,hr,ho,zwc λi hi=> ?_,λt ht=> ?_⟩,zW.1 ?_⟩
 ·have:=tall i hi;rw[Wg hi,Ab]at this;exact this.1
 ·obtain⟨i,hi,rfl⟩:=List.mem_iff_getElem.1 ht;have:=tall i hi;rw[Wg hi]at this;simp only[Ab]at this;exact Fp.1 this.2.1
 ·unfold PY L3;simp only[Ab,Bl];refine⟨g1,g2,⟨λi hi=> ?_,g5⟩,Bl.1 g7,λt ht=> ?_⟩
  ·have:=BX i (List.mem_range.1 hi);unfold Jr at this;rw[Ab]at this;exact this.1
  ·obtain⟨i,hi,rfl⟩:=List.mem_iff_getElem.1 ht;have:=tall i hi;rw[Wg hi]at this;simp only[Ab]at this;exact this.2.2
theorem tM{xs:List Int}{k:Int}(h:xs.length<=2000000):VF xs k=some (xs.any (· ==k)):=by
 unfold VF;rw[Hr (xs:=xs) (body:=λi=>RW xs k i) (λx=> !(x==k)) true (some false) (λi hi=>by
  show RW xs k (i:Int)=_;unfold RW;rw[if_pos (by simpa using hi),AN hi,Aa,Bx (by omega)];cases xs[i]==k<;>rfl) (by
  show RW xs k (xs.length:Int)=_;unfold RW;rw[if_neg (by simp)])]
 rw[<-List.not_any_eq_all_not];cases xs.any (· ==k)<;>rfl
theorem x6{xs:List Int}{k:Int}(h:xs.length<=2000000):UW xs k=some (xs.any (· ==k)):=by
 unfold UW iA;rw[aC (xs:=xs) (body:=λi=>Qz xs k i) (λx=>x==k) (λi hi=>by
  show Qz xs k (i:Int)=_;unfold Qz;rw[if_pos (by simpa using hi),AN hi,Aa,Bx (by omega),show(k==xs[i])=(xs[i]==k)from BEq.comm];cases xs[i]==k<;>rfl) (by
  show Qz xs k (xs.length:Int)=_;unfold Qz;rw[if_neg (by simp)]),Aa,oK]
theorem zzJ{rs:List Ap}{ws:List An}(hr:rs.length<=100)(hw:ws.length<=100):YX rs ws=some (Ed rs ws):=by
 unfold YX;have e1:IG rs=some rs:=Jj (by omega) (by omega);rw[e1,Aa,xX (by omega),Aa,A7 (by simp[RM];omega)];unfold QB QA;rw[A7 (by rw[AP,List.length_map];omega),Aa];obtain⟨g1,g2,_⟩:=Nw (rs++ws.map Ee) [] List.Pairwise.nil;have e:=w8 (xs:=rs++ws.map Ee) g1 λy=>by rw[g2];simp
 show some (Lib.compact (GB (rs++ws.map Ee)))=_;rw[e];rfl
theorem zAw{rs:List Ap}{ws:List An}(hr:rs.length<=100)(hw:ws.length<=100):YU rs ws=some (Ed rs ws):=by
 have k1:∀o:List Ap,Ff o->o.length<=rs.length->iD ws o=some (ws.foldl (λo w=>CV (Ee w) o) o):=λo ho hl=>by
  refine(E9 (xs:=ws) (body:=λz:List Ap × Int=>QZ ws z.1 z.2) (λi z=>(z,i)) (λo w=>CV (Ee w) o) (λo=>some o) (λi o=>Ff o/\o.length<=rs.length+i)
   (λi hi o ho=>by refine⟨?_,VV ho.1,by have:=aB (Ee ws[i]) o;omega⟩;show QZ ws o (i:Int)=_;unfold QZ;rw[if_pos (by simpa using hi),AN hi,Aa,aX (by omega) ho.1,Aa,Bx (by omega)];rfl)
   (λo ho=>by show QZ ws o (ws.length:Int)=_;unfold QZ;rw[if_neg (by simp)]) (s:=o) ⟨ho,by omega⟩).1
 obtain⟨a,b⟩:=E9 (xs:=rs) (body:=λz:List Ap × Int=>Q0 rs ws z.1 z.2) (λi z=>(z,i)) (λo k=>CV k o) (λo=>iD ws o) (λi o=>Ff o/\o.length<=i)
  (λi hi o ho=>by refine⟨?_,VV ho.1,by have:=aB rs[i] o;omega⟩;show Q0 rs ws o (i:Int)=_;unfold Q0;rw[if_pos (by simpa using hi),AN hi,Aa,aX (by omega) ho.1,Aa,Bx (by omega)])
  (λo ho=>by show Q0 rs ws o (rs.length:Int)=_;unfold Q0;rw[if_neg (by simp)]) (s:=[]) ⟨List.Pairwise.nil,by simp⟩
 refine a.trans ?_;rw[k1 _ b.1 b.2];unfold Ed;rw[List.foldl_append,List.foldl_map]
theorem uR(c k:Ap):(Op.bytesLess c k||c==k)= !bl k c:=by
 rcases WC c k with h|h|h
 ·rw[show Op.bytesLess c k=true from h,Nx h];rfl
 ·subst h;rw[Kk];simp
 ·have h1:=Nx h;have h2:(c==k)=false:=by simpa using λe=>Ic h e.symm
  rw[show Op.bytesLess c k=false from h1,h2,h];rfl
theorem zX(k:Ap):∀(cuts:List Ap) (n:Int),cuts.foldl (λn c=>if(!bl k c)=true then n+1 else n) n=n+Dt cuts k
 | [],n=>by simp[Dt]
 |c::cuts,n=>by rw[List.foldl_cons,zX k cuts];unfold Dt;rw[List.filter_cons];cases bl k c<;>simp<;>omega
theorem n6{cuts:List Ap}{k:Ap}(hl:cuts.length<=1000):Vq cuts k=some (Dt cuts k:Int):=by
 refine((E9 (xs:=cuts) (body:=λz:Int × Int=>Rq cuts k z.1 z.2) (λi z=>(z,i)) (λn c=>if(!bl k c)=true then n+1 else n) (λn=>some n) (λi n=>0<=n/\n<=i)
  (λi hi n hn=>by refine⟨?_,by split<;>omega⟩;show Rq cuts k n (i:Int)=_;unfold Rq;rw[if_pos (by simpa using hi),AN hi,Aa,uR,Bx (by omega),show IntKind.i64.wrap (n+1)=n+1 from CD (by omega) (by omega)];cases bl k cuts[i]<;>rfl)
  (λn _=>by show Rq cuts k n (cuts.length:Int)=_;unfold Rq;rw[if_neg (by simp)]) (s:=0) ⟨by omega,by omega⟩).1).trans ?_
 rw[zX,Int.zero_add]
theorem pN{cuts:List Ap}{k:Ap}(hl:cuts.length<=1000)(hr:Ff cuts):Vu cuts k=some (Dt cuts k:Int):=by
 refine(oU (xs:=cuts) (body:=λi=>RB cuts k i) (λc=> !bl k c) (λn=>some n) (λi hi=>by
   show RB cuts k (i:Int)=_;unfold RB;rw[if_pos (by simpa using hi),AN hi,Aa,uR,Bx (by omega)];cases bl k cuts[i]<;>rfl) (by
   show RB cuts k (cuts.length:Int)=_;unfold RB;rw[if_neg (by simp)])).trans ?_
 rw[zK hr]
theorem zGt{l:List Int}{n:Int}(hl:l.length<=1000)(hr:Cf ik l):lN l n=some (HD n l):=by
 refine(oU (xs:=l) (body:=λi=>RQ l n i) (A0 ik n) (λv=>Yz l n v) (λi hi=>by
   show RQ l n (i:Int)=_;unfold RQ A0;rw[if_pos (by simpa using hi),AN hi,Aa,Bx (by omega)];by_cases h:ik l[i]<n
   ·rw[if_pos (by simpa using h),if_pos (by simpa using h)]
   ·rw[if_neg (by simpa using h),if_neg (by simpa using h)]) (by
   show RQ l n (l.length:Int)=_;unfold RQ;rw[if_neg (by simp)])).trans ?_
 have hp:=NG (A0 ik n) l;have hf:=R7 (t:=n) hr;have ins:(∀y∈l,ik y≠n)->(AK (0<=(0:Int)/\(0:Int)<=((AD (A0 ik n) l:Nat):Int)/\((AD (A0 ik n) l:Nat):Int)<=(l.length:Int))<|
   AK (RM ((([]:List Int).length:Int)+(((A4 l 0 ((AD (A0 ik n) l:Nat):Int))).length:Int)) 8)<|
   AK (RM ((((A4 l 0 ((AD (A0 ik n) l:Nat):Int))).length:Int)+(([n]:List Int).length:Int)) 8)<|
   AK (0<=((AD (A0 ik n) l:Nat):Int)/\((AD (A0 ik n) l:Nat):Int)<=(l.length:Int)/\(l.length:Int)<=(l.length:Int))<|
   AK (RM (((((A4 l 0 ((AD (A0 ik n) l:Nat):Int))++ [n])).length:Int)+(((A4 l ((AD (A0 ik n) l:Nat):Int) (l.length:Int))).length:Int)) 8)<|
   some (((A4 l 0 ((AD (A0 ik n) l:Nat):Int))++ [n])++(A4 l ((AD (A0 ik n) l:Nat):Int) (l.length:Int))))=some (Eu ik n l):=λhn=>by
  rw[XF,UO];have h1:(l.take (AD (A0 ik n) l)).length<=1000:=by rw[Aw];omega
  have h2:(l.drop (AD (A0 ik n) l)).length<=1000:=by rw[BD];omega
  rw[A7 (by omega),A7 (by simp only[RM,List.length_nil];omega),A7 (by simp only[RM,Bd];omega),A7 (by omega),A7 (by simp only[RM,AP,Bd];omega)];rw[aE (key:=ik) (x:=n) hn]
 have fin:(∀y∈l,ik y≠n)->HD n l=Eu ik n l:=λhn=>by unfold HD;rw[if_neg λhm=>hn n hm rfl]
 unfold Yz;by_cases AH:AD (A0 ik n) l<l.length
 ·rw[if_pos (by simpa using AH),AN AH,Aa];rw[Bh AH]at hf;by_cases he:l[AD (A0 ik n) l]=n
  ·rw[if_pos (by simpa using he)];unfold HD;rw[if_pos (by rw[<-he];exact AF _)]
  ·rw[if_neg (by simpa using he)];simp only[if_neg he]at hf;have hn:∀y∈l,ik y≠n:=λy hy e=>by
    have:=List.find?_eq_none.1 hf y hy;simp[ik]at this;exact this e
   rw[ins hn,fin hn]
 ·rw[if_neg (by simpa using AH)];rw[List.getElem?_eq_none (by omega)]at hf;have hn:∀y∈l,ik y≠n:=λy hy e=>by
   have:=List.find?_eq_none.1 hf y hy;simp[ik]at this;exact this e
  rw[ins hn,fin hn]
theorem zCH(n:Int)(l:List Int):(HD n l).length<=l.length+1:=by
 unfold HD;split
 ·omega
 ·rw[o9];exact AJ _
theorem zzs{cuts rs:List Ap}{ws:List An}(hl:cuts.length<=1000)(hr:rs.length<=100)(hw:ws.length<=100):Y5 cuts rs ws=some (IP cuts rs ws):=by
 have hk:=(aJ rs ws).2.2;unfold Y5;rw[zzJ hr hw,Aa];refine((E9 (xs:=Ed rs ws) (body:=λz:Int × List Int=>RP cuts (Ed rs ws) z.1 z.2) (λi z=>(i,z)) (λo k=>o++ [(λk=>(Dt cuts k:Int)) k]) (λo=>jC o) (λi o=>o.length=i)
  (λi hi o ho=>by refine⟨?_,by simp[ho]⟩;show RP cuts (Ed rs ws) (i:Int) o=_;unfold RP;rw[if_pos (by simpa using hi),AN hi,Aa,n6 hl,Aa,A7 (by simp only[RM,Bd];omega),Bx (by omega)])
  (λo ho=>by show RP cuts (Ed rs ws) ((Ed rs ws).length:Int) o=_;unfold RP;rw[if_neg (by simp)]) (s:=[]) rfl).1).trans ?_
 rw[foldl_map,List.nil_append];unfold jC XM;rw[Aa,ztM]
theorem zzg{cuts rs:List Ap}{ws:List An}{t:Int}(hc:Ff cuts)(hl:cuts.length<=1000)(hr:rs.length<=100)(hw:ws.length<=100):zip cuts ⟨t,rs,ws⟩=some (IP cuts rs ws):=by
 have hk:=(aJ rs ws).2.2;unfold zip;rw[show YU (⟨t,rs,ws⟩:AG).ak (⟨t,rs,ws⟩:AG).ab=some (Ed rs ws)from zAw hr hw,Aa];have h:kF cuts (Ed rs ws)=some (IP cuts rs ws):=by
  refine((E9 (xs:=Ed rs ws) (body:=λz:List Int × Int=>QX cuts (Ed rs ws) z.1 z.2) (λi z=>(z,i)) (λo k=>HD (Dt cuts k:Int) o) (λo=>some o) (λi o=>Cf ik o/\o.length<=i)
   (λi hi o ho=>by refine⟨?_,zwO ho.1,by have:=zCH (Dt cuts (Ed rs ws)[i]:Int) o;omega⟩;show QX cuts (Ed rs ws) o (i:Int)=_;unfold QX;rw[if_pos (by simpa using hi),AN hi,Aa,pN hl hc,Aa,zGt (by omega) ho.1,Aa,Bx (by omega)])
   (λo ho=>by show QX cuts (Ed rs ws) o ((Ed rs ws).length:Int)=_;unfold QX;rw[if_neg (by simp)]) (s:=[]) ⟨List.Pairwise.nil,by simp⟩).1).trans ?_
  unfold IP;rw[List.foldl_map]
 rw[h];rfl
structure Ks(o:AG):Prop where
 reads:Mk o.ak
 writes:Ww o.ab
def UM(o:AG):Bv:=⟨1,o.ao,1,0,o.ak,o.ab,false⟩
def Er(o:AG):Bool:=CC (UM o)
theorem zCI{o:AG}(h:Ks o):YP o=some (Er o):=by unfold YP;show(LS (UM o)).bind _=_;rw[aY (show Gy (UM o)from⟨h.reads,h.writes⟩)];rfl
theorem zDm{o:AG}(h:Ks o):YL o=some (Er o):=by unfold YL kH;rw[aV,pT (show Gy ⟨1,1,1,0,o.ak,o.ab,false⟩from⟨h.reads,h.writes⟩)];unfold Er CC UM;rw[if_pos rfl,if_pos rfl,show BI 1 1 60=true from rfl,Bool.true_and];cases BI o.ao 1 60<;>rfl
def P1(l:List AG)(i:Nat):Bool:=match l[i]? with
 |some o=>Er o&& !(l.take i).any (λp=>p.ao==o.ao)
 |none=>true
theorem o6{l:List AG}{i:Nat}(hi:i<l.length):P1 l i=(Er l[i]&& !(l.take i).any (λp=>p.ao==l[i].ao)):=by unfold P1;rw[Bh hi]
def PR(l:List AG):Bool:=(List.range l.length).all (P1 l)&&decide (l.length<=8)
def NT(d:Ar):Bool:=(Ep d.bb&&decide ((d.bb.length:Int)<4))&&(decide (d.aw.length=d.bb.length+1)&&(d.aw.all I0&&PR d.ar))
structure SZ(d:Ar):Prop where
 cuts:Mk d.bb
 jr:d.aw.length<=2000000
 cg:∀s∈d.aw,Me s
 dj:d.ar.length<=2000000
 dn:∀o∈d.ar,Ks o
theorem zAT{l:List AG}(hl:l.length<=2000000)(h:∀o∈l,Ks o):YB l=some (PR l):=by
 unfold YB;rw[Kj (n:=l.length) (body:=λi=>Q6 l i) (P1 l) false (iG l) (λi hi=> ?_) (by show Q6 l (l.length:Int)=_;unfold Q6;rw[if_neg (by simp)])]
 ·unfold iG PR;rw[show decide ((l.length:Int)<=8)=decide (l.length<=8)from decide_eq_decide.2 (by omega)];cases(List.range l.length).all (P1 l)<;>rfl
 ·show Q6 l (i:Int)=_;unfold Q6;rw[if_pos (by simpa using hi),AN hi,Aa,zCI (h _ (AF hi)),Aa,A7 (by omega),o6 hi];have t:Au (λj:Int=>Rc l (i:Int) l[i] j) 0=if((l.take i).all λp=> !(p.ao==l[i].ao))=true then X5 (i:Int)else some (.inr (some false)):=by
   refine Hr (xs:=l.take i) (λp=> !(p.ao==l[i].ao)) (.inr (some false)) (X5 (i:Int)) (λj hj=> ?_) ?_
   ·rw[Aw]at hj;show Rc l (i:Int) l[i] (j:Int)=_;unfold Rc;rw[Kl,if_pos (by rw[Aw];simp;omega),AN (by rw[Aw];omega),Aa,Bx (by omega),show(l[i].ao==(l.take i)[j].ao)=((l.take i)[j].ao==l[i].ao)from BEq.comm];cases(l.take i)[j].ao==l[i].ao<;>rfl
   ·show Rc l (i:Int) l[i] ((l.take i).length:Int)=_;unfold Rc;rw[Kl,if_neg (by simp)]
  rw[t,List.not_any_eq_all_not];unfold X5;rw[Bx (by omega)];cases Er l[i]<;>cases((l.take i).all λp=> !(p.ao==l[i].ao))<;>rfl
theorem zBs{d:Ar}(hl:d.ar.length<=2000000)(h:∀o∈d.ar,Ks o):Au (λi:Int=>O4 d i) 0=some (PR d.ar):=by
 rw[Kj (n:=d.ar.length) (body:=λi=>O4 d i) (P1 d.ar) false (jH d) (λi hi=> ?_) (by show O4 d (d.ar.length:Int)=_;unfold O4;rw[if_neg (by simp)])]
 ·unfold jH PR;rw[show decide ((d.ar.length:Int)<=8)=decide (d.ar.length<=8)from decide_eq_decide.2 (by omega)];cases(List.range d.ar.length).all (P1 d.ar)<;>rfl
 ·show O4 d (i:Int)=_;unfold O4;have e:E0 (A4 d.ar 0 (i:Int)) (λy0_=>jF y0_ d.ar[i])=some ((d.ar.take i).any λp=>p.ao==d.ar[i].ao):=by
   rw[Kl];exact L5 _ (λp _=>rfl) (by rw[Aw];omega)
  rw[if_pos (by simpa using hi),AN hi,Aa,zDm (h _ (AF hi)),Aa,A7 (by omega),o6 hi,e,Aa,Bx (by omega)];cases Er d.ar[i]<;>cases((d.ar.take i).any λp=>p.ao==d.ar[i].ao)<;>rfl
theorem zyf{d:Ar}(h:SZ d):Vf d=some (NT d):=by
 have hc:=h.cuts.1;have hs:=h.jr;unfold Vf NT;rw[zCG h.cuts,Aa];have e:E0 d.aw (λy0_=>Yf y0_)=some (d.aw.any λs=> !I0 s):=L5 _ (λs hm=>by unfold Yf;rw[zDh (h.cg s hm)];rfl) (by omega);rw[e,Aa,zBs h.dj h.dn,Bx (by omega)];cases(Ep d.bb&&decide ((d.bb.length:Int)<4))with
 |false=>rfl
 |true=>
  rw[if_pos rfl];by_cases hl:d.aw.length=d.bb.length+1
  ·rw[if_neg (by simp;omega),decide_eq_true hl,List.all_eq_not_any_not];cases d.aw.any λs=> !I0 s<;>rfl
  ·rw[if_pos (by simp;omega),decide_eq_false hl];rfl
theorem zxQ{d:Ar}(h:SZ d):Vz d=some (NT d):=by
 have hc:=h.cuts.1;have hs:=h.jr;have k:Yn d=some ((Ep d.bb&&decide ((d.bb.length:Int)<4))&&(decide (d.aw.length=d.bb.length+1)&&PR d.ar)):=by
  unfold Yn;rw[zDy h.cuts,Aa,zAT h.dj h.dn,Bx (by omega)];cases(Ep d.bb&&decide ((d.bb.length:Int)<4))with
  |false=>rfl
  |true=>
   rw[if_pos rfl];by_cases hl:d.aw.length=d.bb.length+1
   ·rw[if_pos (by simp;omega),decide_eq_true hl];rfl
   ·rw[if_neg (by simp;omega),decide_eq_false hl];rfl
 unfold Vz NT;rw[Hr (xs:=d.aw) (body:=λi=>RH d i) I0 false (Yn d) (λi hi=>by
  show RH d (i:Int)=_;unfold RH;rw[if_pos (by simpa using hi),AN hi,Aa,zCA (h.cg _ (AF hi)),Aa,Bx (by omega)];cases I0 d.aw[i]<;>rfl) (by
  show RH d (d.aw.length:Int)=_;unfold RH;rw[if_neg (by simp)]),k]
 cases d.aw.all I0<;>cases(Ep d.bb&&decide ((d.bb.length:Int)<4))<;>cases decide (d.aw.length=d.bb.length+1)<;>rfl
structure GD(d:Ar):Prop where
 di:Ff d.bb
 keys:∀c∈d.bb,Dh c=true
 en:d.bb.length<=3
 len:d.aw.length=d.bb.length+1
 cg:∀s∈d.aw,WS s/\Js s
 dj:d.ar.length<=8
 dn:∀o∈d.ar,Er o=true/\Ks o
theorem uK{d:Ar}(h:SZ d)(g:NT d=true):GD d:=by
 unfold NT PR Ep at g;simp only[Ab,AR]at g;obtain⟨⟨⟨g0,g1⟩,g2⟩,g3,g4,g5,g6⟩:=g;refine⟨?_,Bl.1 g0,by omega,g3,λs hs=>zEz (h.cg s hs) (Bl.1 g4 s hs),g6,λo ho=>⟨?_,h.dn o ho⟩⟩
 ·rw[VI]at g1;exact(Sl (r:=bl) λa b c p q=>FV p q).1 g1
 ·obtain⟨i,hi,rfl⟩:=List.mem_iff_getElem.1 ho;have:=PE g5 i hi;rw[o6 hi,Ab]at this;exact this.1
theorem Jk{o:AG}(g:Er o=true):(1<=o.ao/\o.ao<=60)/\(o.ak.length<=8/\o.ab.length<=8/\0<o.ak.length+o.ab.length)/\(Ep o.ak=true/\Hq o.ab=true):=by unfold Er CC UM at g;rw[if_pos rfl]at g;simp only[Ab,AR]at g;obtain⟨a1,a2,a3,a4,a5,a6,a7,a8,a9⟩:=g;exact⟨Fp.1 a1,⟨by omega,by omega,by omega⟩,a4,a6⟩
theorem zvu{o:AG}(g:Er o=true):YF o=some o:=by obtain⟨_,⟨h1,h2,_⟩,_⟩:=Jk g;unfold YF;have e1:IG o.ak=some o.ak:=Jj (by omega) (by omega);have e2:LP o.ab=some o.ab:=Jj (by omega) (by omega);rw[e1,Aa,e2,Aa]
theorem xH{d:Ar}(g:GD d):Vh d=some d:=by
 have g1:=g.en;have g2:=g.len;have g3:=g.dj;unfold Vh;have e1:IG d.bb=some d.bb:=Jj (by omega) (by omega);rw[e1,Aa];refine((E9 (xs:=d.aw) (body:=λz:Int × List Ai=>QV d d.bb z.1 z.2) (λi z=>(i,z)) (λo c=>o++ [c]) (λo=>vG d d.bb o) (λi o=>o.length=i)
  (λi hi o ho=>by refine⟨?_,by simp[ho]⟩;show QV d d.bb (i:Int) o=_;unfold QV;rw[if_pos (by simpa using hi),AN hi,Aa,Zk (g.cg _ (AF hi)).1,Aa,A7 (by simp only[RM,Bd];omega),Bx (by omega)])
  (λo ho=>by show QV d d.bb (d.aw.length:Int) o=_;unfold QV;rw[if_neg (by simp)]) (s:=[]) rfl).1).trans ?_
 have e:=foldl_map (λc:Ai=>c) d.aw [];simp only[List.map_id',List.nil_append]at e;rw[e];refine((E9 (xs:=d.ar) (body:=λz:Int × List AG=>QO d d.bb d.aw z.1 z.2) (λi z=>(i,z)) (λo c=>o++ [c]) (λo=>some (⟨d.bb,d.aw,o⟩:Ar)) (λi o=>o.length=i)
  (λi hi o ho=>by refine⟨?_,by simp[ho]⟩;show QO d d.bb d.aw (i:Int) o=_;unfold QO;rw[if_pos (by simpa using hi),AN hi,Aa,zvu (g.dn _ (AF hi)).1,Aa,A7 (by simp only[RM,Bd];omega),Bx (by omega)])
  (λo ho=>by show QO d d.bb d.aw (d.ar.length:Int) o=_;unfold QO;rw[if_neg (by simp)]) (s:=[]) rfl).1).trans ?_
 have e:=foldl_map (λc:AG=>c) d.ar [];simp only[List.map_id',List.nil_append]at e;rw[e]
theorem zEW{l:List AG}(hl:l.length<=8)(g:∀o∈l,Er o=true):lE l=some l:=by
 refine((E9 (xs:=l) (body:=λz:List AG × Int=>RD l z.1 z.2) (λi z=>(z,i)) (λo c=>o++ [c]) (λo=>some o) (λi o=>o.length=i)
  (λi hi o ho=>by obtain⟨_,⟨h1,h2,_⟩,_⟩:=Jk (g _ (AF hi));refine⟨?_,by simp[ho]⟩;show RD l o (i:Int)=_;unfold RD;rw[if_pos (by simpa using hi),AN hi,Aa,S3 (by omega),Aa,A7 (by simp only[RM,List.length_nil];omega),A7 (by simp only[RM,Bd];omega),Bx (by omega)])
  (λo ho=>by show RD l o (l.length:Int)=_;unfold RD;rw[if_neg (by simp)]) (s:=[]) rfl).1).trans ?_
 have e:=foldl_map (λc:AG=>c) l [];simp only[List.map_id',List.nil_append]at e;rw[e]
theorem zB{d:Ar}(g:GD d):VB d=some d:=by
 have g1:=g.en;have g2:=g.len;unfold VB;rw[S3 (by omega),Aa,zEW g.dj λo ho=>(g.dn o ho).1,Aa];refine((E9 (xs:=d.aw) (body:=λz:Int × List Ai=>Rk d d.bb d.ar z.1 z.2) (λi z=>(i,z)) (λo c=>o++ [c]) (λo=>some (⟨d.bb,o,d.ar⟩:Ar)) (λi o=>o.length=i)
  (λi hi o ho=>by refine⟨?_,by simp[ho]⟩;show Rk d d.bb d.ar (i:Int) o=_;unfold Rk;rw[if_pos (by simpa using hi),AN hi,Aa,zx4 (g.cg _ (AF hi)).1,Aa,A7 (by simp only[RM,Bd];omega),Bx (by omega)])
  (λo ho=>by show Rk d d.bb d.ar (d.aw.length:Int) o=_;unfold Rk;rw[if_neg (by simp)]) (s:=[]) rfl).1).trans ?_
 have e:=foldl_map (λc:Ai=>c) d.aw [];simp only[List.map_id',List.nil_append]at e;rw[e]
theorem zwv{α:Type}{key:α->Int}{l:List α}{t:Int}{x:α}(hr:Cf key l)(h:l.find? (λy=>key y==t)=some x):Am l ((AD (A0 key t) l:Nat):Int)=some x:=by
 have hf:=R7 (t:=t) hr;rw[h]at hf;rcases Nat.lt_or_ge (AD (A0 key t) l) l.length with hp|hp
 ·rw[Bh hp]at hf;have hf:some x=if key l[AD (A0 key t) l]=t then some l[AD (A0 key t) l]else none:=hf;split at hf
  ·cases hf;exact AN hp
  ·cases hf
 ·rw[List.getElem?_eq_none hp]at hf;cases hf
def st0:Ai:=⟨0,[],[],[]⟩
def C4(d:Ar)(p:Int):Ai:=(d.aw[p.toNat]?).getD st0
def CO(d:Ar)(o:AG):List Int:=IP d.bb o.ak o.ab
def D6(d:Ar)(o:AG):Int:=(CO d o).headD 0
theorem IS{d:Ar}(g:GD d){p:Int}(h0:0<=p)(h1:p<=d.bb.length):Am d.aw p=some (C4 d p)/\(C4 d p∈d.aw/\p.toNat<d.aw.length):=by
 have hl:=g.len;obtain⟨x,e1,e2,e3⟩:=zFf (xs:=d.aw) h0 (by omega);have:C4 d p=x:=by unfold C4;rw[e3];rfl
 rw[this];exact⟨e1,e2,by omega⟩
theorem LX{d:Ar}{o:AG}(go:Er o=true):(∀p∈CO d o,0<=p/\p<=d.bb.length)/\((CO d o).length<=d.bb.length+1/\(Am (CO d o) 0=some (D6 d o)/\D6 d o∈CO d o)):=by
 obtain⟨a,b⟩:=zzo d.bb o.ak o.ab;refine⟨b,a,?_⟩;obtain⟨_,⟨_,_,BF⟩,_⟩:=Jk go;obtain⟨_,h2⟩:=ZM d.bb o.ak o.ab;unfold D6 CO;cases hp:IP d.bb o.ak o.ab with
 |nil=>
  exfalso;rw[hp]at h2;cases hr:o.ak with
  |cons k ks=>exact absurd ((h2 _).2 (.inl ⟨k,by rw[hr];simp,rfl⟩)) (by simp)
  |nil=>
   cases hw:o.ab with
   |cons w ws=>exact absurd ((h2 _).2 (.inr ⟨w,by rw[hw];simp,rfl⟩)) (by simp)
   |nil=>rw[hr,hw]at BF;simp at BF
 |cons x xs=>exact⟨rfl,by simp⟩
theorem V5{d:Ar}{o:AG}(g:GD d)(go:Er o=true):Nh d o=some (CO d o):=by have:=g.en;obtain⟨_,⟨h1,h2,_⟩,_⟩:=Jk go;unfold Nh;rw[zzs (by omega) (by omega) (by omega)];rfl
theorem zCz{d:Ar}{o:AG}(g:GD d)(go:Er o=true):zip d.bb o=some (CO d o):=by have:=g.en;obtain⟨_,⟨h1,h2,_⟩,_⟩:=Jk go;exact zzg (t:=o.ao) g.di (by omega) (by omega) (by omega)
def K3(cuts rs:List Ap)(p:Int):List Ap:=rs.filter λk=>(Dt cuts k:Int)==p
def Ko(cuts:List Ap)(ws:List An)(p:Int):List An:=ws.filter λw=>(Dt cuts w.ah:Int)==p
theorem zyP{cuts rs:List Ap}{p:Int}(hl:cuts.length<=1000)(hr:rs.length<=100):Y9 cuts rs p=some (K3 cuts rs p):=by unfold Y9 Pp;have e1:IG rs=some rs:=Jj (by omega) (by omega);rw[e1,Aa,A7 (by omega),mS (p:=λy0_=>YE y0_ cuts p) (λk=> !((Dt cuts k:Int)==p)) λk _=>by unfold YE;rw[n6 hl];rfl,Aa];unfold K3;simp only[Bool.not_not]
theorem zxF{cuts:List Ap}{ws:List An}{p:Int}(hl:cuts.length<=1000)(hr:ws.length<=100):YM cuts ws p=some (Ko cuts ws p):=by unfold YM Pp;have e1:LP ws=some ws:=Jj (by omega) (by omega);rw[e1,Aa,A7 (by omega),mS (p:=λy0_=>Ye y0_ cuts p) (λw=> !((Dt cuts w.ah:Int)==p)) λw _=>by unfold Ye;rw[n6 hl];rfl,Aa];unfold Ko;simp only[Bool.not_not]
theorem mM{α:Type}(q:α->Bool):∀(xs o:List α),xs.foldl (λo x=>if q x=true then o++ [x]else o) o=o++xs.filter q
 | [],o=>by simp
 |x::xs,o=>by rw[List.foldl_cons,mM q xs,List.filter_cons];cases q x<;>simp
theorem zDu{cuts rs:List Ap}{ws:List An}{p:Int}(hc:Ff cuts)(hl:cuts.length<=1000)(hr:rs.length<=100)(hw:ws.length<=100):kS cuts rs ws p=some (K3 cuts rs p,Ko cuts ws p):=by
 have k1:∀r:List Ap,iM cuts ws p r=some (r,Ko cuts ws p):=λr=>by
  refine((E9 (xs:=ws) (body:=λz:List An × Int=>QW cuts ws p r z.1 z.2) (λi z=>(z,i)) (λo w=>if((Dt cuts w.ah:Int)==p)=true then o++ [w]else o) (λo=>some (r,o)) (λi o=>o.length<=i)
   (λi hi o ho=>by refine⟨?_,by split<;>(try simp)<;>omega⟩;show QW cuts ws p r o (i:Int)=_;unfold QW;rw[if_pos (by simpa using hi),AN hi,Aa,pN hl hc,Aa,Bx (by omega),A7 (by simp only[RM,Bd];omega)];cases(Dt cuts (ws[i]).ah:Int)==p<;>rfl)
   (λo ho=>by show QW cuts ws p r o (ws.length:Int)=_;unfold QW;rw[if_neg (by simp)]) (s:=[]) (by simp)).1).trans ?_
  rw[mM (λw:An=>(Dt cuts w.ah:Int)==p)];rfl
 refine((E9 (xs:=rs) (body:=λz:List Ap × Int=>QQ cuts rs ws p z.1 z.2) (λi z=>(z,i)) (λo k=>if((Dt cuts k:Int)==p)=true then o++ [k]else o) (λo=>iM cuts ws p o) (λi o=>o.length<=i)
  (λi hi o ho=>by refine⟨?_,by split<;>(try simp)<;>omega⟩;show QQ cuts rs ws p o (i:Int)=_;unfold QQ;rw[if_pos (by simpa using hi),AN hi,Aa,pN hl hc,Aa,Bx (by omega),A7 (by simp only[RM,Bd];omega)];cases(Dt cuts rs[i]:Int)==p<;>rfl)
  (λo ho=>by show QQ cuts rs ws p o (rs.length:Int)=_;unfold QQ;rw[if_neg (by simp)]) (s:=[]) (by simp)).1).trans ?_
 rw[k1,mM (λk:Ap=>(Dt cuts k:Int)==p)];rfl
abbrev S5:Type:=Option (Bv × Int)
def KL(d:Ar)(o:AG)(p:Int):S5:=
 if(CO d o).any (· ==p)=true then
  (if(Fq (C4 d (D6 d o)) o.ao).isSome=true then none
  else if(C4 d p).au=100000 then none
  else some (⟨1,o.ao,(C4 d p).au+1,D6 d o,K3 d.bb o.ak p,Ko d.bb o.ab p,false⟩,p))
 else none
def Mp(d:Ar)(t:Int):List Int->Int->Option Int
 | [],n=>some n
 |p::ps,n=>match CZ (C4 d p) t with
  |none=>none
  |some h=>Mp d t ps (if h.af>n then h.af else n)
def LI(d:Ar)(o:AG)(t:Int):S5:=
 if BI t 0 100000=true then(match Mp d o.ao (CO d o) t with
  |none=>none
  |some n=>some (⟨2,o.ao,n,0,[],[],true⟩,D6 d o))else none
def gM(d:Ar)(o:AG):S5:=some (⟨2,o.ao,0,0,[],[],false⟩,D6 d o)
def LH(d:Ar)(o:AG)(p:Int):S5:=match Fq (C4 d (D6 d o)) o.ao with
 |none=>none
 |some t=>if((CO d o).drop 1).any (· ==p)=true then some (⟨3,o.ao,t.af,0,[],[],t.bm⟩,p)else none
def Nc(d:Ar)(o:AG)(a:BU):S5:=
 if a.bc=1 then(if a.af=0 then KL d o a.bp else none)
 else if a.bc=2 then(if a.bp=0 then LI d o a.af else none)
 else if a.bc=3 then(if a.bp=0/\a.af=0 then gM d o else none)
 else if a.bc=4 then(if a.af=0 then LH d o a.bp else none)
 else none
theorem zC5{s:Ai}{t:Int}{x:Bj}(h:Fq s t=some x):x∈s.aq:=List.mem_of_find?_eq_some h
theorem zCV{s:Ai}{t:Int}{x:Ay}(h:CZ s t=some x):x∈s.ae:=List.mem_of_find?_eq_some h
theorem tC{d:Ar}(g:GD d){t:Int}:∀{ps:List Int} {n m:Int},(∀p∈ps,0<=p/\p<=d.bb.length)->0<=n->n<=100000->Mp d t ps n=some m->n<=m/\(m<=100000/\(ps≠ []->1<=m))
 | [],n,m,_,h0,h1,e=>by cases e;exact⟨by omega,h1,λh=>absurd rfl h⟩
 |p::ps,n,m,hp,h0,h1,e=>by
  unfold Mp at e;split at e
  ·cases e
  ·rename_i h hh;obtain⟨_,hm,_⟩:=IS g (hp p (by simp)).1 (hp p (by simp)).2;obtain⟨_,gs⟩:=g.cg _ hm;obtain⟨h2,h3,_⟩:=gs.single h (zCV hh);have h4:=(sS h2 rfl).1;have h5:1<=h.af/\h.af<=100000:=h4;obtain⟨a,b,_⟩:=tC g (λq hq=>hp q (by simp[hq])) (by split<;>omega) (by split<;>omega) e;have hn:n<=(if h.af>n then h.af else n)/\1<=(if h.af>n then h.af else n):=by split<;>omega
   exact⟨by omega,b,λ_=>by omega⟩
theorem zvA{ks:List Ap}(q:Ap->Bool)(h:Ep ks=true):Ep (ks.filter q)=true:=by unfold Ep at h ⊢;rw[Ab,Bl,VI,Sl (r:=bl) λa b c p q=>FV p q]at h ⊢;exact⟨λx hx=>h.1 x (List.mem_filter.1 hx).1,h.2.filter _⟩
theorem zvD{ws:List An}(q:An->Bool)(h:Hq ws=true):Hq (ws.filter q)=true:=by have hl:=List.length_filter_le q ws;unfold Hq at h ⊢;rw[VI,mT]at h ⊢;simp only[Ab,AR,Bl]at h ⊢;rw[Sl (r:=λa b:An=>bl a.ah b.ah) λa b c p q=>FV p q]at h ⊢;exact⟨by omega,λx hx=>h.2.1 x (List.mem_filter.1 hx).1,h.2.2.filter _⟩
theorem zwV{o:AG}(h:Ks o)(q:Ap->Bool)(q':An->Bool){k t n l:Int}{y:Bool}:Gy ⟨k,t,n,l,o.ak.filter q,o.ab.filter q',y⟩:=by
 have h1:=h.reads;have h2:=h.writes;refine⟨⟨?_,λx hx=>h1.2 x (List.mem_filter.1 hx).1⟩,⟨?_,λx hx=>h2.2 x (List.mem_filter.1 hx).1⟩⟩
 ·have:=List.length_filter_le q o.ak;have:=h1.1;dsimp only;omega
 ·have:=List.length_filter_le q' o.ab;have:=h2.1;dsimp only;omega
theorem mW{k t n l:Int}{y:Bool}:Gy ⟨k,t,n,l,[],[],y⟩:=⟨⟨by simp,by simp⟩,⟨by simp,by simp⟩⟩
theorem oC{k t n l:Int}{y:Bool}(hy:y=true->0<n)(ht:1<=t/\t<=60):Il ⟨k,t,n,l,[],[],y⟩:=⟨by simp,by simp,List.Pairwise.nil,⟨by simp,by simp⟩,λ_ _ h=>hy h,λ_=>ht⟩
structure PU(d:Ar)(x:Bv × Int):Prop where
 k8:CC x.1=true
 ok:Il x.1
 small:Gy x.1
 lo:0<=x.2
 hi:x.2<=d.bb.length
theorem sP{d:Ar}{o:AG}{p:Int}{x:Bv × Int}(g:GD d)(go:Er o=true)(so:Ks o)(e:KL d o p=some x):PU d x:=by
 obtain⟨b1,b2,b3,b4⟩:=LX (d:=d) go;obtain⟨o1,⟨o2,o3,_⟩,o4,o5⟩:=Jk go;have hf:=g.en;unfold KL at e;split at e
 ·rename_i hm;split at e
  ·cases e
  ·split at e
   ·cases e
   ·rename_i B7;cases e;obtain⟨q,hq,e⟩:=List.any_eq_true.1 hm;have e:q=p:=by simpa using e
    subst e;obtain⟨c1,c2⟩:=b1 q hq;obtain⟨_,Em,_⟩:=IS g c1 c2;obtain⟨_,gs⟩:=g.cg _ Em;have cT:=gs.floor;have I5:=List.length_filter_le (λk=>(Dt d.bb k:Int)==q) o.ak;have Iz:=List.length_filter_le (λw:An=>(Dt d.bb w.ah:Int)==q) o.ab;have BF:0<(K3 d.bb o.ak q).length+(Ko d.bb o.ab q).length:=by
     rcases((ZM d.bb o.ak o.ab).2 q).1 hq with⟨k,hk,e⟩|⟨w,hw,e⟩
     ·have:k∈K3 d.bb o.ak q:=List.mem_filter.2 ⟨hk,by simpa using e⟩;have:=List.length_pos_of_mem this;omega
     ·have:w∈Ko d.bb o.ab q:=List.mem_filter.2 ⟨hw,by simpa using e⟩;have:=List.length_pos_of_mem this;omega
    have rI:=b1 _ b4;have gr:CC ⟨1,o.ao,(C4 d q).au+1,D6 d o,K3 d.bb o.ak q,Ko d.bb o.ab q,false⟩=true:=by unfold CC;rw[if_pos rfl];simp only[Ab,AR];unfold K3 Ko at BF ⊢;exact⟨Fp.2 o1,Fp.2 ⟨by omega,by omega⟩,Fp.2 ⟨by omega,by omega⟩,zvA _ o4,by omega,zvD _ o5,by omega,by omega,rfl⟩
    have sm:Gy ⟨1,o.ao,(C4 d q).au+1,D6 d o,K3 d.bb o.ak q,Ko d.bb o.ab q,false⟩:=zwV so _ _;exact⟨gr,Z8 sm gr rfl,sm,c1,c2⟩
 ·cases e
theorem pF{k t n:Int}{y:Bool}(hk:k=2\/k=3)(ht:1<=t/\t<=60)(hn:if y=true then 1<=n/\n<=100000 else n=0):CC ⟨k,t,n,0,[],[],y⟩=true:=by
 unfold CC;have h1: ¬k=1:=by omega
 simp only[if_neg h1,if_pos hk,Fp.2 ht];cases y with
 |true=>simp only[if_true]at hn ⊢;rw[Fp.2 hn];rfl
 |false=>simp only[AS,if_false]at hn ⊢;rw[hn];rfl
theorem zz5{d:Ar}{o:AG}{t:Int}{x:Bv × Int}(g:GD d)(go:Er o=true)(e:LI d o t=some x):PU d x:=by
 obtain⟨b1,b2,b3,b4⟩:=LX (d:=d) go;obtain⟨o1,_,_⟩:=Jk go;unfold LI at e;split at e
 ·rename_i ht;have ht:=Fp.1 ht;split at e
  ·cases e
  ·rename_i n hn;cases e;obtain⟨_,m2,m3⟩:=tC g b1 ht.1 ht.2 hn;have m4:=m3 λh=>by rw[h]at b4;simp at b4
   have:=b1 _ b4;exact⟨pF (.inl rfl) o1 (by rw[if_pos rfl];exact⟨m4,m2⟩),oC (λ_=>by omega) o1,mW,this.1,this.2⟩
 ·cases e
theorem sZ{d:Ar}{o:AG}{x:Bv × Int}(go:Er o=true)(e:gM d o=some x):PU d x:=by obtain⟨b1,b2,b3,b4⟩:=LX (d:=d) go;obtain⟨o1,_,_⟩:=Jk go;cases e;have:=b1 _ b4;exact⟨pF (.inl rfl) o1 (by simp),oC (λh=>by cases h) o1,mW,this.1,this.2⟩
theorem sY{d:Ar}{o:AG}{p:Int}{x:Bv × Int}(g:GD d)(go:Er o=true)(e:LH d o p=some x):PU d x:=by
 obtain⟨b1,b2,b3,b4⟩:=LX (d:=d) go;obtain⟨o1,_,_⟩:=Jk go;unfold LH at e;split at e
 ·cases e
 ·rename_i t ht;split at e
  ·rename_i hm;cases e;obtain⟨q,hq,e⟩:=List.any_eq_true.1 hm;have e:q=p:=by simpa using e
   subst e;have c:=b1 q (BO hq);obtain⟨l1,l2⟩:=b1 _ b4;obtain⟨_,Em,_⟩:=IS g l1 l2;obtain⟨_,gs⟩:=g.cg _ Em;have hf:=gs.floor;have h1:=(gs.told t (zC5 ht)).1;refine⟨pF (.inr rfl) o1 ?_,oC (λh=> ?_) o1,mW,c.1,c.2⟩
   ·split
    ·rename_i hy;rw[if_pos hy]at h1;omega
    ·rename_i hy;rw[if_neg hy]at h1;exact h1
   ·rw[if_pos h]at h1;omega
  ·cases e
theorem s7{d:Ar}{o:AG}{a:BU}{x:Bv × Int}(g:GD d)(go:Er o=true)(so:Ks o)(e:Nc d o a=some x):PU d x:=by
 unfold Nc at e;split at e
 ·split at e
  ·exact sP g go so e
  ·cases e
 ·split at e
  ·split at e
   ·exact zz5 g go e
   ·cases e
  ·split at e
   ·split at e
    ·exact sZ go e
    ·cases e
   ·split at e
    ·split at e
     ·exact sY g go e
     ·cases e
    ·cases e
def NK(d:Ar)(x:Bv × Int):Option Ar:=(DD (C4 d x.2) x.1).map λs=>⟨d.bb,d.aw.set x.2.toNat s,d.ar⟩
def KI(x:Option Ar):Ar × Bool:=match x with
 |some d=>(d,true)
 |none=>(⟨[],[],[]⟩,false)
theorem zF4{d d':Ar}{x:Bv × Int}(g:GD d)(hx:PU d x)(e:NK d x=some d'):GD d':=by
 obtain⟨_,Em,_⟩:=IS g hx.lo hx.hi;obtain⟨ws,gs⟩:=g.cg _ Em;unfold NK at e;cases hq:DD (C4 d x.2) x.1 with
 |none=>rw[hq]at e;cases e
 |some s=>
  rw[hq]at e;cases e;refine⟨g.di,g.keys,g.en,by rw[List.length_set];exact g.len,λy hy=> ?_,g.dj,g.dn⟩;rcases List.mem_or_eq_of_mem_set hy with h|h
  ·exact g.cg y h
  ·rw[h];exact⟨zDc ws hx.ok hq,zDp ws gs hx.k8 hq⟩
theorem ZA{d:Ar}{x:Bv × Int}(g:GD d)(hx:PU d x):O7 d x.2 x.1=some (KI (NK d x)):=by
 obtain⟨e1,Em,_⟩:=IS g hx.lo hx.hi;obtain⟨ws,gs⟩:=g.cg _ Em;unfold O7 NK;rw[e1,Aa,zDM ws hx.ok,Aa];cases hq:DD (C4 d x.2) x.1 with
 |none=>rfl
 |some s=>rw[if_neg (by simp),xH g,Aa,e1,Aa];rfl
def Xy(d:Ar)(x:S5):Ar × Bool:=KI (x.bind (NK d))
theorem oA{xs:List Int}{p:Int}:xs.any (· ==p)=true↔p∈xs:=by
 rw[List.any_eq_true];constructor
 ·rintro⟨q,hq,e⟩;have:q=p:=by simpa using e
  rw[<-this];exact hq
 ·intro h;exact⟨p,h,by simp⟩
theorem zza{d:Ar}{o:AG}{p:Int}(g:GD d)(go:Er o=true)(so:Ks o):X7 d o p=some (Xy d (KL d o p)):=by
 obtain⟨b1,b2,b3,b4⟩:=LX (d:=d) go;obtain⟨o1,⟨o2,o3,_⟩,o4,o5⟩:=Jk go;have hf:=g.en;have l1:=b1 _ b4;obtain⟨s1,s2,_⟩:=IS g l1.1 l1.2;obtain⟨w1,_⟩:=g.cg _ s2;have JW:=w1.cx;unfold X7;rw[V5 g go,Aa,x6 (by omega),Aa];by_cases hm:(CO d o).any (· ==p)=true
 ·have c:=b1 p (oA.1 hm);obtain⟨t1,t2,_⟩:=IS g c.1 c.2;obtain⟨_,gs⟩:=g.cg _ t2;have B7:=gs.floor;rw[hm,if_neg (by simp),b3,Aa,s1,Aa,V7 (by omega) w1.dq,Aa];by_cases ht:(Fq (C4 d (D6 d o)) o.ao).isSome=true
  ·rw[if_pos ht];unfold KL;rw[if_pos hm,if_pos ht];rfl
  ·rw[if_neg ht,t1,Aa,show IntKind.i64.wrap ((C4 d p).au+1)=(C4 d p).au+1 from CD (by omega) (by omega)];unfold lX;by_cases hq:(C4 d p).au=100000
   ·rw[if_pos (by simp;omega),Aa,if_pos (by simp)];unfold KL;rw[if_pos hm,if_neg ht,if_pos hq];rfl
   ·rw[if_neg (by simp;omega),Aa,if_neg (by simp),zyP (by omega) (by omega),Aa,zxF (by omega) (by omega),Aa];have e:KL d o p=some (⟨1,o.ao,(C4 d p).au+1,D6 d o,K3 d.bb o.ak p,Ko d.bb o.ab p,false⟩,p):=by
     unfold KL;rw[if_pos hm,if_neg ht,if_neg hq]
    exact(aL (ZA g (sP g go so e))).trans (by rw[e];rfl)
 ·rw[Bool.eq_false_iff.2 hm,if_pos (by rfl)];unfold KL;rw[if_neg hm];rfl
theorem zAG{d:Ar}{o:AG}(g:GD d)(go:Er o=true):Yc d o=some (Xy d (gM d o)):=by obtain⟨b1,b2,b3,b4⟩:=LX (d:=d) go;unfold Yc;rw[V5 g go,Aa,b3,Aa];exact(aL (ZA g (sZ (d:=d) go rfl))).trans rfl
theorem zy7{d:Ar}{o:AG}{p:Int}(g:GD d)(go:Er o=true):X6 d o p=some (Xy d (LH d o p)):=by
 obtain⟨b1,b2,b3,b4⟩:=LX (d:=d) go;have hf:=g.en;have l1:=b1 _ b4;have hpos:=List.length_pos_of_mem b4;obtain⟨s1,s2,_⟩:=IS g l1.1 l1.2;obtain⟨w1,_⟩:=g.cg _ s2;have JW:=w1.cx;unfold X6;rw[V5 g go,Aa,b3,Aa,s1,Aa,V7 (by omega) w1.dq,Aa];cases ht:Fq (C4 d (D6 d o)) o.ao with
 |none=>rw[if_pos (by simp)];unfold XR LH;rw[if_pos rfl,ht];rfl
 |some t=>
  rw[if_neg (by simp),A7 (by omega),show A4 (CO d o) 1 ((CO d o).length:Int)=(CO d o).drop 1 from UO _ 1,x6 (by rw[BD];omega),Aa];unfold XR;cases hm:((CO d o).drop 1).any (· ==p)with
  |false=>rw[if_pos (by simp)];unfold LH;rw[ht];simp only[hm];rfl
  |true=>
   have e:LH d o p=some (⟨3,o.ao,t.af,0,[],[],t.bm⟩,p):=by unfold LH;rw[ht];simp only[hm];rfl
   rw[if_neg (by simp)];show(Am (C4 d (D6 d o)).aq ((AD (A0 tk o.ao) (C4 d (D6 d o)).aq:Nat):Int)).bind _=_;rw[zwv w1.dq ht,Aa];exact(aL (ZA g (sY g go e))).trans (by rw[e];rfl)
def zHr(d:Ar)(o:AG)(p n:Int):Option (Int ⊕ Option (Ar × Bool)):=match CZ (C4 d p) o.ao with
 |none=>some (.inr (some (⟨[],[],[]⟩,false)))
 |some h=>some (.inl (if h.af>n then h.af else n))
theorem bM{β:Type}{d:Ar}{t:Int}{z:Option β}{fin:Int->Option β}{step:Int->Int->Option (Int ⊕ Option β)}
  (hs:∀p n,step p n=match CZ (C4 d p) t with|none=>some (.inr z)|some h=>some (.inl (if h.af>n then h.af else n))):∀(ps:List Int) (n:Int),GH step fin ps n=match Mp d t ps n with|none=>z|some m=>fin m
 | [],n=>rfl
 |p::ps,n=>by
  unfold GH Mp;rw[hs];cases CZ (C4 d p) t with
  |none=>rfl
  |some h=>exact bM hs ps _
theorem zAn{d:Ar}{o:AG}{n:Int}(g:GD d)(go:Er o=true):X9 d o n=some (Xy d (LI d o n)):=by
 obtain⟨b1,b2,b3,b4⟩:=LX (d:=d) go;have hf:=g.en;unfold X9;rw[zDA,Aa];cases hn:BI n 0 100000 with
 |false=>rw[if_pos (by rfl)];unfold LI;rw[hn,if_neg (by simp)];rfl
 |true=>
  rw[if_neg (by simp),V5 g go,Aa];refine(VZ (xs:=CO d o) (body:=λz:Int × Int=>QN d o (CO d o) z.1 z.2) (λi n=>(n,i)) (λp n=>match CZ (C4 d p) o.ao with|none=>some (.inr (some (⟨[],[],[]⟩,false)))|some h=>some (.inl (if h.af>n then h.af else n))) (λn=>XZ d o n)
   (λi hi n=>by
    have c:=b1 _ (AF hi);obtain⟨t1,t2,_⟩:=IS g c.1 c.2;obtain⟨w1,_⟩:=g.cg _ t2;have hw:=w1.en;show QN d o (CO d o) n (i:Int)=_;unfold QN;rw[if_pos (by simpa using hi),AN hi,Aa,t1,Aa,V3 (by omega) w1.di,Aa,Bx (by omega)];cases hh:CZ (C4 d (CO d o)[i]) o.ao with
    |none=>rfl
    |some h=>
     rw[if_neg (by simp)];show(Am (C4 d (CO d o)[i]).ae ((AD (A0 hk o.ao) (C4 d (CO d o)[i]).ae:Nat):Int)).bind _=_;rw[zwv w1.di hh,Aa];by_cases hq:h.af>n
     ·rw[decide_eq_true hq];simp only[if_pos hq];rfl
     ·rw[decide_eq_false hq];simp only[if_neg hq];rfl)
   (λn=>by show QN d o (CO d o) n ((CO d o).length:Int)=_;unfold QN;rw[if_neg (by simp)]) n).trans ?_
  rw[bM (d:=d) (t:=o.ao) λp n=>rfl];cases hq:Mp d o.ao (CO d o) n with
  |none=>unfold LI;rw[hn,if_pos rfl,hq];rfl
  |some m=>
   have e:LI d o n=some (⟨2,o.ao,m,0,[],[],true⟩,D6 d o):=by unfold LI;rw[hn,if_pos rfl,hq]
   show XZ d o m=_;unfold XZ;rw[V5 g go,Aa,b3,Aa];exact(aL (ZA g (zz5 g go e))).trans (by rw[e];rfl)
def IV(d:Ar)(a:BU):Option Ar:=match Am d.ar (CU (λo=>o.ao==a.ao) d.ar)with
 |none=>none
 |some o=>(Nc d o a).bind (NK d)
theorem tG{d:Ar}{a:BU}(g:GD d):QR d a=some (KI (IV d a)):=by
 have hl:=g.dj;unfold QR IV;rw[show Gv d.ar (λy0_=>iR y0_ a)=some (CU (λo:AG=>o.ao==a.ao) d.ar)from zwJ _ (λo _=>rfl) (by omega),Aa];have Qb:=PD (λo:AG=>o.ao==a.ao) d.ar;by_cases hi:CU (λo:AG=>o.ao==a.ao) d.ar<0
 ·have e:Am d.ar (CU (λo:AG=>o.ao==a.ao) d.ar)=none:=by unfold Am;rw[if_neg (by omega)]
  rw[if_pos (by simpa using hi),e];rfl
 ·obtain⟨o,e,_,ho⟩:=oF (p:=λo:AG=>o.ao==a.ao) (l:=d.ar) (by omega);obtain⟨go,so⟩:=g.dn o ho;rw[if_neg (by simpa using hi),e,Aa];simp only;unfold Nc;by_cases k1:a.bc=1
  ·rw[if_pos k1];by_cases t:a.af=0
   ·rw[if_pos (by simp[k1,t]),if_pos t,zza g go so];rfl
   ·rw[if_neg (by simp[t]),if_neg (by simp[k1]),if_neg (by simp[t]),if_neg (by simp[t]),if_neg t];rfl
  ·rw[if_neg k1,if_neg (by simp[k1])];by_cases k2:a.bc=2
   ·rw[if_pos k2];by_cases t:a.bp=0
    ·rw[if_pos (by simp[k2,t]),if_pos t,zAn g go];rfl
    ·rw[if_neg (by simp[t]),if_neg (by simp[t]),if_neg (by simp[k2]),if_neg t];rfl
   ·rw[if_neg k2,if_neg (by simp[k2])];by_cases k3:a.bc=3
    ·rw[if_pos k3];by_cases t:a.bp=0/\a.af=0
     ·rw[if_pos (by simp[k3,t.1,t.2]),if_pos t,zAG g go];rfl
     ·rw[if_neg (by simp[k3];omega),if_neg (by simp[k3]),if_neg t];rfl
    ·rw[if_neg k3,if_neg (by simp[k3])];by_cases k4:a.bc=4
     ·rw[if_pos k4];by_cases t:a.af=0
      ·rw[if_pos (by simp[k4,t]),if_pos t,zy7 g go];rfl
      ·rw[if_neg (by simp[t]),if_neg t];rfl
     ·rw[if_neg k4,if_neg (by simp[k4])];rfl
theorem tA{d d':Ar}{a:BU}(g:GD d)(e:IV d a=some d'):GD d':=by
 unfold IV at e;split at e
 ·cases e
 ·rename_i o ho;obtain⟨go,so⟩:=g.dn o (zDB ho);cases hr:Nc d o a with
  |none=>rw[hr]at e;cases e
  |some x=>rw[hr]at e;exact zF4 g (s7 g go so hr) e
theorem zyW{s:Ai}(w:WS s)(gs:Js s):∀x∈s.ae,Gy (D5 x):=λx hx=>by obtain⟨⟨h1,_,_⟩,h2⟩:=w.held x hx;obtain⟨h3,_⟩:=gs.single x hx;unfold CC at h3;rw[if_pos (show(D5 x).bc=1 from rfl)]at h3;simp only[Ab]at h3;have h4:Ep x.ak=true:=h3.2.2.2.1;unfold Ep at h4;rw[Ab,Bl]at h4;refine⟨⟨by show x.ak.length<=_;omega,λk hk=> ?_⟩,⟨by have:=h2.1;show x.ab.length<=_;omega,h2.2⟩⟩;have:=h4.1 k hk;unfold Dh at this;rw[Ab]at this;have:=Fp.1 this.1;omega
theorem zyj{s:Ai}(w:WS s)(gs:Js s):LQ s=some true:=by rw[zB7 w (w.cells.small (by omega)) (zyW w gs),zW.2 gs]
theorem zEN{s:Ai}(w:WS s)(gs:Js s):Yq s 0=some (if s.au=100000 then(0,false)else(s.au+1,true)):=by
 have hf:=gs.floor;have e:Kd s.au 0=some s.au:=by
  unfold Kd;by_cases h:s.au>0
  ·rw[if_pos (by simpa using h)]
  ·rw[if_neg (by simpa using h),show s.au=0 by omega]
 unfold Yq;rw[zyj w gs,Aa,if_pos rfl,zxY,Aa,if_pos (by rfl),e,Aa];by_cases h:s.au=100000
 ·rw[if_pos (by simpa using h),if_pos h]
 ·rw[if_neg (by simpa using h),if_neg h,Aa,show IntKind.i64.wrap (s.au+1)=s.au+1 from CD (by omega) (by omega)]
theorem zxs{s:Ai}{r:Bv}(w:WS s)(gs:Js s)(gr:CC r=true)(hr:Il r)(sr:Gy r):Yt s r=some (match DD s r with|some s'=>(s',true)|none=>(⟨0,[],[],[]⟩,false)):=by
 unfold Yt;obtain⟨x,e1,e2⟩:=zDq w hr;rw[zyj w gs,Aa,if_pos rfl,aY sr,gr,Aa,if_neg (by simp),e1,Aa];cases hq:DD s r with
 |none=>rfl
 |some s'=>rw[e2 s' hq];rfl
theorem zDO{xs:List Int}{x p:Int}(h:Cf ik xs)(h0:Am xs 0=some x):(xs.drop 1).any (· ==p)=(!(p==x)&&xs.any (· ==p)):=by
 cases xs with
 |nil=>cases h0
 |cons y ys=>
  have:y=x:=by simpa[Am]using h0
  subst this;have h1:=(List.pairwise_cons.1 h).1;rw[List.any_cons];by_cases e:p=y
  ·subst e;have:ys.any (· ==p)=false:=by
    rw[Bool.eq_false_iff];intro hm;have:p<p:=h1 p (oA.1 hm);omega
   simp[this]
  ·have e1:(p==y)=false:=by simpa using e
   have e2:(y==p)=false:=by simpa using λq=>e q.symm
   simp[e1,e2]
theorem zF7{d:Ar}{o:AG}{a:BU}(g:GD d)(go:Er o=true)(so:Ks o):∃r p b,Zv d o a=some (r,p,b)/\((Nc d o a=none/\b=false)\/(Nc d o a=some (r,p)/\b=true)):=by
 obtain⟨b1,b2,b3,b4⟩:=LX (d:=d) go;obtain⟨o1,⟨o2,o3,_⟩,o4,o5⟩:=Jk go;have hf:=g.en;have l1:=b1 _ b4;obtain⟨s1,s2,_⟩:=IS g l1.1 l1.2;obtain⟨w1,_⟩:=g.cg _ s2;have JW:=w1.cx;unfold Zv;rw[zCz g go,Aa,b3,Aa,s1,Aa,z6 (by omega),Aa];unfold Nc;by_cases k1:a.bc=1
 ·rw[if_pos (by simpa using k1),if_pos k1];unfold KL;cases ht:Fq (C4 d (D6 d o)) o.ao with
  |some t=>exact⟨_,_,_,rfl, .inl ⟨by split<;>(try split)<;>simp,rfl⟩⟩
  |none=>
   by_cases t:a.af=0
   ·simp only[AS,if_false,if_pos t,Option.isSome_none];rw[if_neg (by simp[t]),tM (by omega),Aa];cases hm:(CO d o).any (· ==a.bp)with
    |false=>exact⟨_,_,_,rfl, .inl ⟨by simp,rfl⟩⟩
    |true=>
     have c:=b1 _ (oA.1 hm);obtain⟨t1,t2,_⟩:=IS g c.1 c.2;obtain⟨w2,gs⟩:=g.cg _ t2;rw[if_neg (by simp),t1,Aa,zEN w2 gs,Aa,zDu g.di (by omega) (by omega) (by omega),Aa];by_cases hq:(C4 d a.bp).au=100000
     ·exact⟨_,_,_,rfl, .inl ⟨by simp only[if_true,AS,if_false,if_pos hq],by rw[if_pos hq]⟩⟩
     ·refine⟨_,_,_,rfl, .inr ⟨?_,by rw[if_neg hq]⟩⟩;simp only[if_true,AS,if_false,if_neg hq]
   ·simp only[AS,if_false,if_neg t];rw[if_pos (by simp[t])];exact⟨_,_,_,rfl, .inl ⟨by simp,rfl⟩⟩
 ·rw[if_neg (by simpa using k1),if_neg k1];by_cases k2:a.bc=2
  ·rw[if_pos (by simpa using k2),if_pos k2];have e:Au (λz:Int × Int=>Pb d o a (CO d o) (D6 d o) z.1 z.2) (a.af,0)=match Mp d o.ao (CO d o) a.af with|none=>some (⟨0,0,0,0,[],[],false⟩,0,false)|some m=>Vk o a (D6 d o) m:=by
    refine(VZ (xs:=CO d o) (body:=λz:Int × Int=>Pb d o a (CO d o) (D6 d o) z.1 z.2) (λi n=>(n,i)) (λp n=>match CZ (C4 d p) o.ao with|none=>some (.inr (some (⟨0,0,0,0,[],[],false⟩,0,false)))|some h=>some (.inl (if h.af>n then h.af else n))) (λn=>Vk o a (D6 d o) n)
     (λi hi n=>by
      have c:=b1 _ (AF hi);obtain⟨t1,t2,_⟩:=IS g c.1 c.2;obtain⟨w1,_⟩:=g.cg _ t2;have hw:=w1.en;show Pb d o a (CO d o) (D6 d o) n (i:Int)=_;unfold Pb;rw[if_pos (by simpa using hi),AN hi,Aa,t1,Aa,ZO (by omega),Aa,Bx (by omega)];cases hh:CZ (C4 d (CO d o)[i]) o.ao with
      |none=>rfl
      |some h=>
       simp only[Bool.not_true,AS,if_false];have em:Kd n h.af=some (if h.af>n then h.af else n):=by
        unfold Kd;by_cases q1:n>h.af
        ·rw[if_pos (by simpa using q1),if_neg (by omega)]
        ·rw[if_neg (by simpa using q1)];by_cases q2:h.af>n
         ·rw[if_pos q2]
         ·rw[if_neg q2,show h.af=n by omega]
       rw[em,Aa];rfl)
     (λn=>by show Pb d o a (CO d o) (D6 d o) n ((CO d o).length:Int)=_;unfold Pb;rw[if_neg (by simp)]) a.af).trans ?_
    rw[bM (d:=d) (t:=o.ao) λp n=>rfl]
   rw[e];unfold LI;cases hq:Mp d o.ao (CO d o) a.af with
   |none=>exact⟨_,_,_,rfl, .inl ⟨by split<;>(try split)<;>rfl,rfl⟩⟩
   |some m=>
    show∃r p b,Vk o a (D6 d o) m=some (r,p,b)/\_;unfold Vk;by_cases t:a.bp=0
    ·rw[if_pos (by simpa using t),if_pos t,zxY,Aa];cases BI a.af 0 100000 with
     |false=>exact⟨_,_,_,rfl, .inl ⟨by simp,rfl⟩⟩
     |true=>exact⟨_,_,_,rfl, .inr ⟨by simp,rfl⟩⟩
    ·rw[if_neg (by simpa using t),if_neg t];exact⟨_,_,_,rfl, .inl ⟨rfl,rfl⟩⟩
  ·rw[if_neg (by simpa using k2),if_neg k2];by_cases k3:a.bc=3
   ·rw[if_pos (by simpa using k3),if_pos k3];by_cases t:a.bp=0/\a.af=0
    ·exact⟨_,_,_,rfl, .inr ⟨by rw[if_pos t];rfl,by simp[t.1,t.2]⟩⟩
    ·exact⟨_,_,_,rfl, .inl ⟨by rw[if_neg t],by simp;omega⟩⟩
   ·rw[if_neg (by simpa using k3),if_neg k3];by_cases k4:a.bc=4
    ·rw[if_pos (by simpa using k4),if_pos k4];have MT:=zDO (p:=a.bp) (ZM d.bb o.ak o.ab).1 b3;unfold LH;cases ht:Fq (C4 d (D6 d o)) o.ao with
     |none=>exact⟨_,_,_,rfl, .inl ⟨by split<;>rfl,rfl⟩⟩
     |some t=>
      simp only[if_true];by_cases q:a.af=0
      ·rw[if_pos (by simpa using q),if_pos q];by_cases q2:a.bp=D6 d o
       ·rw[if_neg (by simp[q2])];refine⟨_,_,_,rfl, .inl ⟨?_,rfl⟩⟩;have:((CO d o).drop 1).any (· ==a.bp)=false:=by
         refine MT.trans ?_;simp[q2]
        rw[this];rfl
       ·rw[if_pos (by simp[q2]),tM (by omega),Aa];have e2:((CO d o).drop 1).any (· ==a.bp)=(CO d o).any (· ==a.bp):=by
         refine MT.trans ?_;have:(a.bp==D6 d o)=false:=by simpa using q2
         rw[this];rfl
        rw[e2];cases(CO d o).any (· ==a.bp)with
        |false=>exact⟨_,_,_,rfl, .inl ⟨rfl,rfl⟩⟩
        |true=>exact⟨_,_,_,rfl, .inr ⟨rfl,rfl⟩⟩
      ·rw[if_neg (by simpa using q),if_neg q];exact⟨_,_,_,rfl, .inl ⟨rfl,rfl⟩⟩
    ·rw[if_neg (by simpa using k4),if_neg k4];exact⟨_,_,_,rfl, .inl ⟨rfl,rfl⟩⟩
theorem zF8{d:Ar}{t:Int}(h:d.ar.length<=2000000):Zq d t=some (CU (λo=>o.ao==t) d.ar):=by
 unfold Zq;rw[aC (xs:=d.ar) (body:=λi=>RU d t i) (λo=>o.ao==t) (λi hi=>by
  show RU d t (i:Int)=_;unfold RU;rw[if_pos (by simpa using hi),AN hi,Aa,Bx (by omega)];cases(d.ar[i]).ao==t<;>rfl) (by
  show RU d t (d.ar.length:Int)=_;unfold RU;rw[if_neg (by simp)])]
theorem sL{d:Ar}{a:BU}(g:GD d):R3 d a=some (KI (IV d a)):=by
 have hl:=g.dj;unfold R3 IV;rw[zF8 (by omega),Aa];have Qb:=PD (λo:AG=>o.ao==a.ao) d.ar;by_cases hi:CU (λo:AG=>o.ao==a.ao) d.ar<0
 ·have e:Am d.ar (CU (λo:AG=>o.ao==a.ao) d.ar)=none:=by unfold Am;rw[if_neg (by omega)]
  rw[if_pos (by simpa using hi),e];rfl
 ·obtain⟨o,e,_,ho⟩:=oF (p:=λo:AG=>o.ao==a.ao) (l:=d.ar) (by omega);obtain⟨go,so⟩:=g.dn o ho;rw[if_neg (by simpa using hi),e,Aa];obtain⟨r,p,b,e1,e2|e2⟩:=zF7 (a:=a) g go so
  ·obtain⟨e2,rfl⟩:=e2;rw[e1,Aa,if_pos (by rfl)];simp only[e2];rfl
  ·obtain⟨e2,rfl⟩:=e2;have ok:=s7 g go so e2;obtain⟨t1,t2,_⟩:=IS g ok.lo ok.hi;obtain⟨w2,gs⟩:=g.cg _ t2;have t1:Am d.aw p=some (C4 d p):=t1;rw[e1,Aa,if_neg (by simp)];simp only[e2];rw[t1,Aa,zxs w2 gs ok.k8 ok.ok ok.small,Aa];show _=some (KI (NK d (r,p)));unfold NK;show _=some (KI ((DD (C4 d p) r).map _));cases hq:DD (C4 d p) r with
   |none=>rfl
   |some s=>rw[if_neg (by simp),zB g,Aa,t1,Aa];rfl
theorem M8{α:Type}{f:α->Option α}{d:α}{b:Int}{xs:List α}(hl:xs.length<=2000000)(h0:0<=b)(hb:b<=1000)(hx:∀x∈xs,f x=some x):toL f d b xs=some xs:=by
 unfold toL;have hq:(xs.length:Int)*b<=2000000*1000:=Int.mul_le_mul (by omega) hb h0 (by omega);rw[A7 (by omega)];exact uC (λi hi v hv=>by
  show UN f xs i v=_;unfold UN;rw[if_pos (by simpa using hi),AN hi,Aa,hx _ (AF hi),Aa,AN (by omega),Aa,FI hi (by omega)];rfl) (λv=>by
  show UN f xs _ v=_;unfold UN;rw[if_neg (by simp)])
theorem M9{α:Type}{f:α->α->Option Bool}{xs:List α}(hl:xs.length<=2000000)(hx:∀x∈xs,f x x=some true):KA f xs xs=some true:=by
 unfold KA;rw[if_neg (by simp)];exact fT (n:=xs.length) (λi hi=>by
  show UP f xs xs i=_;unfold UP;rw[if_pos (by simpa using hi),AN hi,Aa,Aa,hx _ (AF hi),Aa,if_neg (by simp),FI hi (by omega)]) (by
  show UP f xs xs _=_;unfold UP;rw[if_neg (by simp)])
theorem Qw{α:Type}{f:α->Int->Option Int}{tot:α->Nat}{xs:List α}{a:Int}(h0:0<=a)(h1:a<=1048576)(hl:xs.length<=9223372036854775807)(hx:∀x∈xs,∀b:Int,0<=b->b<=1048576-> ∃r,f x b=some r/\r<=b/\(0<=r->(tot x:Int)=b-r)):∃v,Nb f xs a=some v/\v<=a/\(0<=v->((xs.length+(xs.map tot).sum:Nat):Int)=a-v):=by
 unfold Nb;rw[L0 h0 h1 hl];by_cases h2:a-(xs.length:Int)<0
 ·rw[if_pos (by simpa using h2)];exact⟨-1,rfl,by omega,by omega⟩
 ·rw[if_neg (by simpa using h2)];obtain⟨v,e1,e2,e3⟩:=sH (xs:=xs) (body:=λs:Int × Int=>Qx f xs s.1 s.2) tot (a:=a-xs.length) (by omega) (by omega) (λx Xg b Ha Dy=>by
   obtain⟨r,e1,e2,e3⟩:=hx x Xg b Ha Dy;refine⟨r,e2,e3,λi hi=> ?_⟩;have BR:=(List.getElem?_eq_some_iff.1 hi).1;show Qx f xs b i=_;unfold Qx;rw[if_pos (by simpa using BR),show Am xs (i:Int)=some x by simpa[Am]using hi,Aa,e1,Aa,FI BR (by omega)];by_cases h3:r<0
   ·rw[if_pos (by simpa using h3),if_pos h3]
   ·rw[if_neg (by simpa using h3),if_neg h3]) (λb=>by
   show Qx f xs b _=_;unfold Qx;rw[if_neg (by simp)])
  exact⟨v,e1,by omega,λhv=>by have:=e3 hv;omega⟩
theorem G4{k:Int}(h:0<=k):decide (k<0)=false:=by simp;omega
theorem LV{α:Type}(tot:α->Nat){mb:Int × Int × List α->Option ((Int × Int × List α) ⊕ Option (Int × List α))}{hb:List α->Int × Int->Option ((Int × Int) ⊕ Option Int)}{B:Int}{xs:List α}{k:Int}{T:Nat}(h0:0<=k)(hT:xs.length+(xs.map tot).sum<=T)(hB:k+64*(T:Int)<=B)
  (hs:∀x∈xs,∀k:Int,0<=k->k+64*(1+(tot x:Int))<=B-> ∃(y:α) (k':Int),k<=k'/\k'<=k+64*(1+(tot x:Int))/\(∀(i:Nat) (v:List α),v[i]?=some x->i<xs.length->mb (k,(i:Int),v)=some (.inl (k',(i:Int)+1,v.set i y)))/\ ∀(i:Nat) (ys:List α),ys[i]?=some y->i<xs.length->hb ys (k,(i:Int))=some (.inl (k',(i:Int)+1)))
  (he:∀k v,v.length=xs.length->mb (k,(xs.length:Int),v)=some (.inr (some (k,v)))) (hh:∀k ys,ys.length=xs.length->hb ys (k,(xs.length:Int))=some (.inr (some k))):
  ∃(ys:List α) (k':Int),k<=k'/\k'<=k+64*(T:Int)/\ys.length=xs.length/\Au mb (k,0,xs)=some (k',ys)/\Au (hb ys) (k,0)=some k':=by
 have key:∀(suf pre:List α) (k:Int),pre.length+suf.length=xs.length->(∀x∈suf,x∈xs)->0<=k->k+64*((suf.length+(suf.map tot).sum:Nat):Int)<=B->
   ∃(suf':List α) (k':Int),k<=k'/\k'<=k+64*((suf.length+(suf.map tot).sum:Nat):Int)/\suf'.length=suf.length/\Au mb (k,(pre.length:Int),pre++suf)=some (k',pre++suf')/\Au (hb (pre++suf')) (k,(pre.length:Int))=some k':=by
  intro suf
  induction suf with
  |nil=>
   intro pre k hl _ _ _;have BH:(pre.length:Int)=(xs.length:Int):=by simp at hl;omega
   have Iz:pre.length=xs.length:=by omega
   refine⟨[],k,by omega,by omega,rfl,?_,?_⟩
   ·rw[DK,BH,he _ _ (by simpa using Iz)]
   ·rw[DK,BH,hh _ _ (by simpa using Iz)]
  |cons x t ih=>
   intro pre k hl hm h0 Cb;rw[List.map_cons,List.sum_cons,A3]at Cb ⊢;obtain⟨y,k1,a1,b1,e1,e2⟩:=hs x (hm x (by simp)) k h0 (by omega);rw[A3]at hl;obtain⟨t',k2,a2,b2,f1,f2,f3⟩:=ih (pre++ [y]) k1 (by simp;omega) (λz hz=>hm z (by simp[hz])) (by omega) (by omega);have ea:pre++y::t'=pre++ [y]++t':=by simp
   have eb:(pre++x::t).set pre.length y=pre++ [y]++t:=by simp
   have ec:(((pre++ [y]).length:Nat):Int)=(pre.length:Int)+1:=by simp
   refine⟨y::t',k2,by omega,by omega,by simp[f1],?_,?_⟩
   ·rw[DK,e1 pre.length _ (by simp) (by omega),eb];show Au mb (k1,(pre.length:Int)+1,pre++ [y]++t)=_;rw[<-ec,f2,ea]
   ·rw[DK,e2 pre.length _ (by simp) (by omega),ea];show Au (hb (pre++ [y]++t')) (k1,(pre.length:Int)+1)=_;rw[<-ec,f3]
 obtain⟨ys,k',a,b,c,d,e⟩:=key xs [] k (by simp) (λ_ h=>h) h0 (by omega);exact⟨ys,k',a,by omega,c,by simpa using d,by simpa using e⟩
theorem zB9{α:Type}(tot:α->Nat){mb:Int × Int × List α->Option ((Int × Int × List α) ⊕ Option (Int × List α))}{B:Int}{xs:List α}{k:Int}{T:Nat}(h0:0<=k)(hT:xs.length+(xs.map tot).sum<=T)(hB:k+64*(T:Int)<=B)
  (hs:∀x∈xs,∀k:Int,0<=k->k+64*(1+(tot x:Int))<=B-> ∃(y:α) (k':Int),k<=k'/\k'<=k+64*(1+(tot x:Int))/\ ∀(i:Nat) (v:List α),v[i]?=some x->i<xs.length->mb (k,(i:Int),v)=some (.inl (k',(i:Int)+1,v.set i y)))
  (he:∀k v,v.length=xs.length->mb (k,(xs.length:Int),v)=some (.inr (some (k,v)))):
  ∃(ys:List α) (k':Int),k<=k'/\k'<=k+64*(T:Int)/\ys.length=xs.length/\Au mb (k,0,xs)=some (k',ys):=by
 have key:∀(suf pre:List α) (k:Int),pre.length+suf.length=xs.length->(∀x∈suf,x∈xs)->0<=k->k+64*((suf.length+(suf.map tot).sum:Nat):Int)<=B->
   ∃(suf':List α) (k':Int),k<=k'/\k'<=k+64*((suf.length+(suf.map tot).sum:Nat):Int)/\suf'.length=suf.length/\Au mb (k,(pre.length:Int),pre++suf)=some (k',pre++suf'):=by
  intro suf
  induction suf with
  |nil=>
   intro pre k hl _ _ _;have BH:(pre.length:Int)=(xs.length:Int):=by simp at hl;omega
   have Iz:pre.length=xs.length:=by omega
   exact⟨[],k,by omega,by omega,rfl,by rw[DK,BH,he _ _ (by simpa using Iz)]⟩
  |cons x t ih=>
   intro pre k hl hm h0 Cb;rw[List.map_cons,List.sum_cons,A3]at Cb ⊢;obtain⟨y,k1,a1,b1,e1⟩:=hs x (hm x (by simp)) k h0 (by omega);rw[A3]at hl;obtain⟨t',k2,a2,b2,f1,f2⟩:=ih (pre++ [y]) k1 (by simp;omega) (λz hz=>hm z (by simp[hz])) (by omega) (by omega);have ea:pre++y::t'=pre++ [y]++t':=by simp
   have eb:(pre++x::t).set pre.length y=pre++ [y]++t:=by simp
   have ec:(((pre++ [y]).length:Nat):Int)=(pre.length:Int)+1:=by simp
   refine⟨y::t',k2,by omega,by omega,by simp[f1],?_⟩;rw[DK,e1 pre.length _ (by simp) (by omega),eb];show Au mb (k1,(pre.length:Int)+1,pre++ [y]++t)=_;rw[<-ec,f2,ea]
 obtain⟨ys,k',a,b,c,d⟩:=key xs [] k (by simp) (λ_ h=>h) h0 (by omega);exact⟨ys,k',a,by omega,c,by simpa using d⟩
end
end Go.Proofs.YtalagilebkaegaaGreat
