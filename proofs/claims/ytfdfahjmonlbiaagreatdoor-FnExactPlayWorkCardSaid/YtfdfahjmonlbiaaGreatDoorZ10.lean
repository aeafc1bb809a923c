/- Parts of a proof, joined: N15, N16, N17, N18, N19, N20, N21, N22, PK, NK, NP, NQ, NS, NT, NV, NU, NW, LK, NWK, NH, NVG. -/
import Derived.Test.YtfdfahjmonlbiaaGreatDoorZ9
set_option linter.unusedVariables false
set_option linter.unusedSimpArgs false
section
namespace Go.Proofs.YtfdfahjmonlbiaaGreatDoor
open Go.RowKit
set_option maxRecDepth 100000
def holds (t:Ad) (n:Af) (x:Au) (lv:Int) (l:List Ab):Bool:=
 if lv==0 then((Bw t n l).length:Int)==0
 else(((less (Bw t n l) (wanted t n x l)).length:Int)==0)&&((lv==1)||(((less (wanted t n x l) (Bw t n l)).length:Int)==0))
theorem VJ (t:Ad) (n:Af) (l:List Ab):(Bw t n l).length≤l.length:=by unfold Bw;rw [List.length_map];exact List.length_filter_le _ _
theorem zvy (t:Ad) (n:Af) (x:Au) (l:List Ab):(wanted t n x l).length≤l.length:=by unfold wanted;rw [List.length_map];exact So t l
theorem zGz {t:Ad} {n:Af} {x:Au} {lv:Int} {l:List Ab} (hS:Du t) (ht:t.ab.length≤2000000) (hn:n.length≤2000000) (hx:EO t n x) (hl:l.length≤2000000) (h: ∀w∈l,GY w) (ha:O6 t n l=some true):YZ t n lv l=some (holds t n x lv l):=by
 have hE:=pZ ht hn hl h;have hW:=zCR hS hn hx hl h;have e1:=VJ t n l;have e2:=zvy t n x l;have h1:=xA (a:=Bw t n l) (b:=wanted t n x l) (by omega) (by omega);have h2:=xA (a:=wanted t n x l) (b:=Bw t n l) (by omega) (by omega);unfold YZ holds;by_cases h0:(lv==0)=true
 ·rw [if_pos h0,if_pos h0,hE,Aa]
 ·rw [if_neg h0,if_neg h0];unfold nB nR;rw [ha,hE,hW];simp only [Aa,h1,h2,Bool.not_true,AM,if_false]
theorem zGm {t:Ad} {n:Af} {x:Au} {lv:Int} {l:List Ab} (hS:Du t) (ht:t.ab.length=1) (hn:n.length≤2000000) (hh: ∀b∈head t n,b≠47) (hx:EO t n x) (hl:l.length≤2000000) (h: ∀w∈l,GY w):Yq t n lv l=some (holds t n x lv l):=by
 have hE:=zv0 (t:=t) (by omega) hn hh hl h;have hW:=zEf hS ht hn hx hl h;have e1:=VJ t n l;have e2:=zvy t n x l;have h1:=wU (a:=Bw t n l) (b:=wanted t n x l) (by omega) (by omega);have h2:=wU (a:=wanted t n x l) (b:=Bw t n l) (by omega) (by omega);unfold Yq holds;by_cases h0:(lv==0)=true
 ·rw [if_pos h0,if_pos h0,hE,Aa]
 ·rw [if_neg h0,if_neg h0];unfold Yi lE;rw [hE,hW];simp only [Aa,h1,h2];by_cases h3:(lv==1)=true
  ·rw [if_pos h3,h3,Bool.true_or,Bool.and_true]
  ·rw [if_neg h3,Bool.eq_false_iff.2 h3,Bool.false_or];by_cases h4:(((less (Bw t n l) (wanted t n x l)).length:Int)==0)=true
   ·rw [if_pos h4,h4,Bool.true_and]
   ·rw [if_neg h4,Bool.eq_false_iff.2 h4,Bool.false_and]
def C4 (t:Ad) (n:Af):Bool:=Be t&&decide (BS (fun x:Au=>x.ab==n) t.ah≥0)
def kI (t:Ad) (n:Af) (l:List Ab):Bool:=C4 t n&&BZ l
theorem zH5 {t:Ad} {n:Af} (hS:Du t):aE t n=some (C4 t n):=by unfold aE C4;rw [zFq hS,Aa,WG hS,Aa];cases Be t<;>simp
theorem zGb {t:Ad} {n:Af} {l:List Ab} (hS:Du t) (hW:PD l):O6 t n l=some (kI t n l):=by unfold O6 kI C4;rw [Sl hS,Aa,L6 hS,Aa,Sr hW,Aa];cases Be t<;>cases decide (BS (fun x:Au=>x.ab==n) t.ah≥0)<;>simp
theorem zHT {l:List Ab} (h:BZ l=true): ∀w∈l,GY w:=by intro w hw;unfold BZ J5 at h;simp only [Ae]at h;have h1:=AR.1 h.1.2.1 w hw;unfold Dg Ao H6 Gs at h1;simp only [Ae,decide_eq_true_eq]at h1;have h2:=CN.1 h1.1.1;have h3:=h1.2.1.1;exact⟨by omega,by omega⟩
theorem VM {s:Af} {k:Int} (h:CX s k=true):(s.length:Int)≤k∧ ∀b∈s,b≠47:=by unfold CX at h;simp only [Ae]at h;refine⟨(CN.1 h.2).2,fun b hb e=> ?_⟩;have h1:=AR.1 h.1 b hb;subst e;exact absurd h1 (by decide)
theorem RS {s:Af} (h:CX s 1=true):s.length=1:=by unfold CX at h;simp only [Ae]at h;have:=CN.1 h.2;omega
theorem LG {t:Ad} (h:Be t=true):CX t.ab 1=true:=by unfold Be at h;simp only [Ae]at h;exact h.1.1.1
theorem FY {t:Ad} (h:Be t=true) {x:Au} (hx:x∈t.ah):CX x.ab 1=true∧BQ x.bh 1 ((t.aq.length:Int)-1)=true:=by unfold Be at h;simp only [Ae]at h;obtain⟨i,hi,rfl⟩:=List.mem_iff_getElem.1 hx;have h1:=AR.1 h.2 i (List.mem_range.2 hi);unfold IJ at h1;simp only [Ae,List.getElem?_eq_getElem hi,Option.getD_some]at h1;exact⟨h1.1.1.1,h1.1.1.2⟩
theorem jT {t:Ad} {n:Af} (h:C4 t n=true): ∃x,EO t n x∧t.ab.length=1∧n.length=1∧ ∀b∈head t n,b≠47:=by
 unfold C4 at h;simp only [Ae,decide_eq_true_eq]at h;obtain⟨x,h1,h2,h3⟩:=vT h.2;have h4:=FY h.1 h3;have h5:=CN.1 h4.2;have h6:x.ab=n:=by simpa using h2
 have h7:=LG h.1;have h8:=h6▸h4.1;refine⟨x,⟨h1,h6,h5.1,h5.2⟩,RS h7,RS h8,fun b hb=> ?_⟩;unfold head at hb;simp only [Ai,List.mem_singleton]at hb;rcases hb with(hb|hb)|hb
 ·exact(VM h7).2 b hb
 ·subst hb;decide
 ·exact(VM h8).2 b hb
structure zK0 (t:Ad):Prop where
 name:t.ab.length≤9223372036854775807
 ij:t.aq.length≤9223372036854775807
 k8: ∀c∈t.aq,c.length≤9223372036854775807
 idxs:t.ah.length≤9223372036854775807
 idx: ∀x∈t.ah,x.ab.length≤9223372036854775807
def Hz (st:List Int):Int:=if st.contains 3 then 2 else if st.contains 0 then 0 else 1
theorem xY {xs:List Int} {k:Int} (h:xs.length≤2000000):Vz xs k=some (xs.contains k):=by
 have key: ∀(n q:Nat),q+n=xs.length→At (fun s:Int=>Rq xs k s) (q:Int)=some ((xs.drop q).contains k):=by
  intro n
  induction n with
  |zero=>
   intro q hq;have:q=xs.length:=by omega
   subst this;rw [DG];have e:Rq xs k xs.length=some (.inr (some false)):=by unfold Rq;rw [if_neg (by simp)]
   rw [e];simp
  |succ n ih=>
   intro q hq;have An:q<xs.length:=by omega
   have ih2:=ih (q+1) (by omega);rw [DG,List.drop_eq_getElem_cons An,List.contains_cons];have e:Rq xs k q=some (if(xs[q]==k)=true then .inr (some true)else .inl ((q+1:Nat):Int)):=by unfold Rq;rw [if_pos (by simpa using An),AK An,Aa,AX An (by omega)];cases(xs[q]==k)<;>rfl
   rw [e];by_cases h1:(xs[q]==k)=true
   ·have h2:xs[q]=k:=by simpa using h1
    rw [if_pos h1];simp [h2]
   ·have h2:(k==xs[q])=false:=by
     rw [Bool.eq_false_iff];intro h3;exact h1 (by simp at h3 ⊢;omega)
    rw [if_neg h1,h2,Bool.false_or];exact ih2
 have:=key xs.length 0 (by omega);unfold Vz;simpa using this
theorem zIb {s:AA} {st:List Int} (hn:st.length=s.bj.length) (hl:st.length≤2000000) (hs: ∀(i:Nat) (hi:i<st.length),∃tb,Gp s i=some tb∧J2 s tb=some st[i]):YA s=some (Hz st):=by
 have key: ∀(n q:Nat) (v:Int),q+n=st.length→At (fun x:Int × Int=>Qw s x.1 x.2) (v,(q:Int))=some (if(st.drop q).contains 3 then 2 else if(st.drop q).contains 0 then 0 else v):=by
  intro n
  induction n with
  |zero=>
   intro q v hq;have:q=st.length:=by omega
   subst this;have e:Qw s v st.length=some (.inr (some v)):=by unfold Qw;rw [if_neg (by simp [hn])]
   rw [DG];dsimp only;rw [e];simp
  |succ n ih=>
   intro q v hq;have An:q<st.length:=by omega
   obtain⟨tb,e1,e2⟩:=hs q An;have e:Qw s v q=some (if(st[q]==3)=true then .inr (some 2)else if(st[q]==0)=true then .inl (0,((q+1:Nat):Int))else .inl (v,((q+1:Nat):Int))):=by unfold Qw;rw [if_pos (by simp;omega),e1,Aa,e2,Aa,AX An (by omega)];cases(st[q]==3)<;>cases(st[q]==0)<;>rfl
   rw [DG,List.drop_eq_getElem_cons An,List.contains_cons,List.contains_cons];dsimp only;rw [e];by_cases h1:st[q]=3
   ·simp [h1]
   ·have i0:=ih (q+1) 0 (by omega);have iv:=ih (q+1) v (by omega);have h1a:(st[q]==3)=false:=by simpa using h1
    have h1b:((3:Int)==st[q])=false:=by simp;omega
    rw [h1a,h1b,Bool.false_or];by_cases h2:st[q]=0
    ·simp only [h2,beq_self_eq_true,Bool.true_or,if_true,AM,if_false];rw [i0];split<;>(try split)<;>rfl
    ·have h2a:(st[q]==0)=false:=by simpa using h2
     have h2b:((0:Int)==st[q])=false:=by simp;omega
     rw [h2a,h2b,Bool.false_or];exact iv
 have:=key st.length 0 1 (by omega);unfold YA;simpa [Hz]using this
theorem zyQ {s:AA} {st:List Int} (hn:st.length=s.bj.length) (hl:st.length≤2000000) (hs: ∀(i:Nat) (hi:i<st.length),∃y tb k x,Am s.bj i=some y∧Am s.ak y=some tb∧HW tb s.ab=some k∧Am tb.ah k=some x∧x.ao=st[i]):Lx s=some st:=by
 unfold Lx;have h1:=Fw (xs:=st) (body:=fun x:List Int × Int=>QL s x.1 x.2) (fun i (o:List Int)=>(o,i)) (fun(o:List Int) x=>o++ [x]) (fun o=>some o) (fun i o=>o.length=i)
  (fun i hi o ho=>by
   refine⟨?_,by simp [ho]⟩;obtain⟨y,tb,k,x,e1,e2,e3,e4,e5⟩:=hs i hi;show QL s o i=_;unfold QL;have hq:((((o).length:Int)+(([x.ao]:List Int).length:Int))*8≤140737488355328∧((o).length:Int)+(([x.ao]:List Int).length:Int)≤140737488355328):=by rw [AF];omega
   rw [if_pos (by simp;omega),e1,Aa,e2,Aa,e3,Aa,e4,Aa,AN hq,AX hi (by omega),e5])
  (fun o ho=>by show QL s o st.length=_;unfold QL;rw [if_neg (by simp [hn])]) (s:=([]:List Int)) rfl
 have h3:=h1.1;rw [show(fun(o:List Int) x=>o++ [x])=(fun o x=>o++ [id x])from rfl,cF,List.map_id,List.nil_append]at h3;exact h3
theorem zIA {s:AA} {st:List Int} (hn:st.length=s.bj.length) (hl:st.length≤2000000) (hs: ∀(i:Nat) (hi:i<st.length),∃y tb k x,Am s.bj i=some y∧Am s.ak y=some tb∧HW tb s.ab=some k∧Am tb.ah k=some x∧x.ao=st[i]):ZQ s=some (Hz st):=by unfold ZQ Hz;rw [zyQ hn hl hs,Aa,xY hl,Aa,xY hl,Aa];split<;>(try split)<;>rfl
theorem Sw {α:Type} {xs:List α} {i:Int} {x:α} (h:Am xs i=some x):0≤i∧xs[i.toNat]?=some x∧i<xs.length:=by
 unfold Am at h;split at h
 ·rename_i h0;have:=(List.getElem?_eq_some_iff.1 h).1;exact⟨h0,h,by omega⟩
 ·cases h
def FA (t:Ad) (k c:Int):Ad:=⟨t.ab,t.aq,t.ah.set k.toNat {((t.ah[k.toNat]?).getD ⟨[],0,0⟩)with ao:=c}⟩
def Gt (a b:Int):Int:=if a<b then a+1 else a-1
def Gv:Nat→Int→Int→List Int
 |0,_,_=> []
 |f+1,a,b=>if a=b then []else Gt a b::Gv f (Gt a b) b
def way (t:Ad) (k a b:Int):List Ad:=t::(Gv 3 a b).map (FA t k)
theorem wF: ∀(f:Nat) {a b:Int},0≤a→a≤3→0≤b→b≤3→ ∀c∈Gv f a b,0≤c∧c≤3
 |0,_,_,_,_,_,_,c,hc=>by simp [Gv]at hc
 |f+1,a,b,h1,h2,h3,h4,c,hc=>by
  unfold Gv at hc;split at hc
  ·simp at hc
  ·have hn:0≤Gt a b∧Gt a b≤3:=by unfold Gt;split<;>omega
   rcases Ag.1 hc with rfl|hc
   ·exact hn
   ·exact wF f hn.1 hn.2 h3 h4 c hc
theorem rY {t:Ad} {k b:Int} {body:Int × List Ad→Option ((Int × List Ad) ⊕ Option (List Ad))} (FE:0≤b) (IN:b≤3)
  (hs: ∀a o,0≤a→a≤3→a≠b→o.length≤100→body (a,o)=some (.inl (Gt a b,o++ [FA t k (Gt a b)]))) (he: ∀o,body (b,o)=some (.inr (some o))):
  ∀(f:Nat) (a:Int) (o:List Ad),0≤a→a≤3→(a-b).natAbs≤f→o.length+f≤100→At body (a,o)=some (o++(Gv f a b).map (FA t k))
 |0,a,o,_,_,hf,_=>by
  have:a=b:=by omega
  subst this;rw [DG,he];simp [Gv]
 |f+1,a,o,h0,h3,hf,ho=>by
  by_cases KZ:a=b
  ·subst KZ;rw [DG,he];simp [Gv]
  ·rw [DG,hs a o h0 h3 KZ (by omega)];have hn:0≤Gt a b∧Gt a b≤3∧(Gt a b-b).natAbs≤f:=by unfold Gt;split<;>omega
   have:=rY FE IN hs he f (Gt a b) (o++ [FA t k (Gt a b)]) hn.1 hn.2.1 hn.2.2 (by simp;omega);simp only [this,Gv,if_neg KZ,List.map_cons,List.append_assoc,List.singleton_append]
theorem jQ {t:Ad} (h:Du t):RO t=some t:=by unfold RO;have h1:=h.ij;have h2:=h.idxs;rw [AN (by simp;omega),AN (by simp;omega)]
theorem sM {t:Ad} (h:Du t):RA t=some t:=by unfold RA Uy kZ;have h1:=h.ij;have h2:=h.idxs;rw [Np (by omega) (by omega),Aa,Np (by omega) (by omega),Aa]
theorem yF {t:Ad} {n:Af} {x:Au} {c:Int} (h:Du t) (hx:EO t n x):Vw t n c=some (FA t (BS (fun y:Au=>y.ab==n) t.ah) c):=by unfold Vw FA;rw [jQ h,Aa,L6 h,Aa,hx.at_,Aa,(Sw hx.at_).2.1];rfl
theorem zA {t:Ad} {n:Af} {x:Au} {c:Int} (h:Du t) (hx:EO t n x):UC t n c=some (FA t (BS (fun y:Au=>y.ab==n) t.ah) c):=by unfold UC FA;rw [sM h,Aa,WG h,Aa,hx.at_,Aa,(Sw hx.at_).2.1];rfl
theorem zJk {t:Ad} {n:Af} {x:Au} {b:Int} (h:Du t) (hx:EO t n x) (h0:0≤x.ao) (h3:x.ao≤3) (FE:0≤b) (IN:b≤3):aC t n b=some (way t (BS (fun y:Au=>y.ab==n) t.ah) x.ao b):=by
 unfold aC;rw [jQ h,Aa,L6 h,Aa,hx.at_,Aa];refine(rY (t:=t) (k:=BS (fun y:Au=>y.ab==n) t.ah) FE IN ?_ ?_ 3 x.ao [t] h0 h3 (by omega) (by simp)).trans (by simp [way])
 ·intro a o Td WY KZ ho;show U4 t n b a o=_;unfold U4;rw [if_pos (by simpa using KZ)];have w1:IntKind.i64.wrap (a+1)=a+1:=A9 (by omega) (by omega);have w2:IntKind.i64.wrap (a-1)=a-1:=A9 (by omega) (by omega);by_cases An:a<b
  ·rw [if_pos (by simpa using An),w1,yF h hx,Aa,AN (by simp;omega)];simp [Gt,An]
  ·rw [if_neg (by simpa using An),w2,yF h hx,Aa,AN (by simp;omega)];simp [Gt,An]
 ·intro o;show U4 t n b b o=_;unfold U4;rw [if_neg (by simp)]
theorem zJs {t:Ad} {n:Af} {x:Au} {b:Int} (h:Du t) (hx:EO t n x) (h0:0≤x.ao) (h3:x.ao≤3) (FE:0≤b) (IN:b≤3):Yl t n b=some (way t (BS (fun y:Au=>y.ab==n) t.ah) x.ao b):=by
 unfold Yl M3;rw [WG h,Aa,hx.at_,Aa,Aa,sM h,Aa];refine(rY (t:=t) (k:=BS (fun y:Au=>y.ab==n) t.ah) FE IN ?_ ?_ 3 x.ao [t] h0 h3 (by omega) (by simp)).trans (by simp [way])
 ·intro a o Td WY KZ ho;show UD t n b a o=_;unfold UD;rw [if_pos (by simpa using KZ)];have w1:IntKind.i64.wrap (a+1)=a+1:=A9 (by omega) (by omega);have w2:IntKind.i64.wrap (a-1)=a-1:=A9 (by omega) (by omega);by_cases An:a<b
  ·rw [if_pos (by simpa using An),w1,zA h hx,Aa,AN (by simp;omega)];simp [Gt,An]
  ·rw [if_neg (by simpa using An),w2,zA h hx,Aa,AN (by simp;omega)];simp [Gt,An]
 ·intro o;show UD t n b b o=_;unfold UD;rw [if_neg (by simp)]
theorem R9 {α β:Type} {xs ys:List α} (hl:xs.length=ys.length) {body:Int→Option (Int ⊕ Option β)} (p:α→α→Bool) (b:β) (fin:Option β)
  (hs: ∀(i:Nat) (hi:i<xs.length) (hj:i<ys.length),body i=some (if p xs[i] ys[i]=true then .inl ((i+1:Nat):Int)else .inr (some b))) (he:body xs.length=some (.inr fin)):At body 0=if((xs.zip ys).all fun z=>p z.1 z.2)=true then fin else some b:=by
 have hz:(xs.zip ys).length=xs.length:=by simp [hl]
 have h1:=bP (xs:=xs.zip ys) (body:=body) (fun i (_:Unit)=>i) (fun z _=>some (if p z.1 z.2=true then .inl ()else .inr (some b))) (fun _=>fin)
  (fun i hi s=>by
   have CD:i<xs.length:=by omega
   have Xb:i<ys.length:=by omega
   rw [hs i CD Xb,List.getElem_zip];cases p xs[i] ys[i]<;>simp [L9]) (fun s=>by rw [hz];exact he) ()
 rw [sX (fun z:α × α=>p z.1 z.2) b fun x _ s=>rfl]at h1;exact h1
theorem Pz {α γ:Type} {p:α→α→Bool} {f:α→γ} (h: ∀x y,p x y=true↔f x=f y): ∀{xs ys:List α},xs.length=ys.length→(((xs.zip ys).all fun z=>p z.1 z.2)=true↔xs.map f=ys.map f)
 | [], [],_=>by simp
 | [],_::_,h=>by simp at h
 |_::_, [],h=>by simp at h
 |x::xs,y::ys,hl=>by have:=Pz h (xs:=xs) (ys:=ys) (by simpa using hl);simp only [List.zip_cons_cons,List.all_cons,Ae,List.map_cons,List.cons.injEq,this,h]
def nc (x:Au):Af × Int:=(x.ab,x.bh)
theorem xD {x y:Au} (h1:nc x=nc y) (h2:x.ao=y.ao):x=y:=by cases x;cases y;simp [nc]at h1 h2;simp [h1,h2]
theorem rP: ∀{xs ys:List Au},xs.map nc=ys.map nc→xs.map (·.ao)=ys.map (·.ao)→xs=ys
 | [], [],_,_=>rfl
 | [],_::_,h,_=>by simp at h
 |_::_, [],h,_=>by simp at h
 |x::xs,y::ys,h1,h2=>by simp only [List.map_cons,List.cons.injEq]at h1 h2;rw [xD h1.1 h2.1,rP h1.2 h2.2]
theorem qN {a b:Ad} (h1:a.ab=b.ab) (h2:a.aq=b.aq) (h3:a.ah=b.ah):a=b:=by cases a;cases b;simp at h1 h2 h3;simp [h1,h2,h3]
theorem zB2 {a b:Ad} (ha:Du a): ∃r,Yw a b=some r∧(r=true↔a.ab=b.ab∧a.aq=b.aq∧a.ah.map nc=b.ah.map nc):=by
 unfold Yw;by_cases h0:(((a.ab !=b.ab)||((a.aq.length:Int) !=(b.aq.length:Int)))||((a.ah.length:Int) !=(b.ah.length:Int)))=true
 ·rw [if_pos h0];refine⟨_,rfl,by simp, ?_⟩;rintro⟨h1,h2,h3⟩;have h4:=congrArg List.length h3;simp only [List.length_map]at h4;rw [h1,h2,h4]at h0;simp at h0
 ·rw [if_neg h0];simp only [Bool.or_eq_true,bne_iff_ne,ne_eq,not_or,Decidable.not_not,Int.natCast_inj]at h0;obtain⟨⟨h1,h2⟩,h3⟩:=h0;have hc:=ha.ij;have hi:=ha.idxs;rw [R9 (xs:=a.aq) (ys:=b.aq) h2 (fun x y=>x==y) false (Yt a b) ?_ ?_]
  ·have hk:Yt a b=some ((a.ah.zip b.ah).all fun z=>nc z.1==nc z.2):=by
    unfold Yt;rw [R9 (xs:=a.ah) (ys:=b.ah) h3 (fun x y=>nc x==nc y) false (some true) ?_ ?_]
    ·cases((a.ah.zip b.ah).all fun z=>nc z.1==nc z.2)<;>rfl
    ·intro i CD GB;show UJ a b i=_;unfold UJ;rw [if_pos (by simpa using CD),AK CD,Aa,AK GB,Aa,AX CD (by omega)];by_cases hq:nc a.ah[i]=nc b.ah[i]
     ·have Fb:=hq;simp only [nc,Prod.mk.injEq]at Fb;rw [if_neg (by simp [Fb.1,Fb.2]),if_pos (by simpa using hq)]
     ·have Fb:=hq;simp only [nc,Prod.mk.injEq,not_and]at Fb;rw [if_pos (by simp only [Bool.or_eq_true,bne_iff_ne,ne_eq];by_cases hz:a.ah[i].ab=b.ah[i].ab;exact .inr (Fb hz);exact .inl hz),if_neg (by simpa using hq)]
    ·show UJ a b a.ah.length=_;unfold UJ;rw [if_neg (by simp)]
   have z1:=Pz (p:=fun x y:Af=>x==y) (f:=id) (by simp) h2;have z2:=Pz (p:=fun x y:Au=>nc x==nc y) (f:=nc) (by simp) h3;rw [List.map_id,List.map_id]at z1;rw [hk];by_cases hz:((a.aq.zip b.aq).all fun z=>z.1==z.2)=true
   ·rw [if_pos hz];exact⟨_,rfl,by rw [z2];exact⟨fun h=>⟨h1,z1.1 hz,h⟩,fun h=>h.2.2⟩⟩
   ·rw [if_neg hz];exact⟨_,rfl,by simp,fun h=>absurd (z1.2 h.2.1) hz⟩
  ·intro i CD GB;show UM a b i=_;unfold UM;rw [if_pos (by simpa using CD),AK CD,Aa,AK GB,Aa,AX CD (by omega)];by_cases hq:a.aq[i]=b.aq[i]
   ·rw [if_neg (by simp [hq]),if_pos (by simpa using hq)]
   ·rw [if_pos (by simpa using hq),if_neg (by simpa using hq)]
  ·show UM a b a.aq.length=_;unfold UM;rw [if_neg (by simp)]
structure MV (t:Ad):Prop where
 len:t.ah.length≤3
 ny: ∀x∈t.ah,0≤x.ao∧x.ao≤3
theorem wH: ∀(l:List (Au × Au)) (s:Int),0≤s→(l.foldl (fun s z=>s+((z.1.ao-z.2.ao).natAbs:Int)) s=0↔s=0∧ ∀z∈l,z.1.ao=z.2.ao)
 | [],s,_=>by simp
 |z::l,s,h=>by
  rw [List.foldl_cons,wH l _ (by omega)];constructor
  ·rintro⟨h1,h2⟩;exact⟨by omega,fun y hy=>by
    rcases Ag.1 hy with rfl|hy
    ·omega
    ·exact h2 y hy⟩
  ·rintro⟨h1,h2⟩;have:=h2 z (by simp);exact⟨by omega,fun y hy=>h2 y (by simp [hy])⟩
theorem zyb: ∀{xs ys:List Au},xs.length=ys.length→((∀z∈xs.zip ys,z.1.ao=z.2.ao)↔xs.map (·.ao)=ys.map (·.ao))
 | [], [],_=>by simp
 | [],_::_,h=>by simp at h
 |_::_, [],h=>by simp at h
 |x::xs,y::ys,hl=>by have:=zyb (xs:=xs) (ys:=ys) (by simpa using hl);simp only [List.zip_cons_cons,List.forall_mem_cons,this,List.map_cons,List.cons.injEq]
theorem zJH (d:Int) (h1: -3≤d) (h2:d≤3):Z5 d (IntKind.i64.wrap (0-d))=some (d.natAbs:Int):=by
 rw [A9 (by omega) (by omega)];unfold Z5;by_cases h:d>0-d
 ·rw [if_pos (by simpa using h)];congr 1;omega
 ·rw [if_neg (by simpa using h)];congr 1;omega
theorem zKw {a b:Ad} (ha:MV a) (hb:MV b) (hl:a.ah.length=b.ah.length): ∃v,Z3 a b=some v∧(v=0↔a.ah.map (·.ao)=b.ah.map (·.ao)):=by
 unfold Z3;have h3:=ha.len;have hz:(a.ah.zip b.ah).length=a.ah.length:=by simp [hl]
 have h1:=Fw (xs:=a.ah.zip b.ah) (body:=fun s:Int × Int=>RD a b s.1 s.2) (fun i (s:Int)=>(s,i)) (fun(s:Int) z=>s+((z.1.ao-z.2.ao).natAbs:Int)) (fun s=>some s) (fun i s=>0≤s∧s≤3*(i:Int))
  (fun i hi s hs=>by
   have CD:i<a.ah.length:=by omega
   have Xb:i<b.ah.length:=by omega
   have ga:=ha.ny a.ah[i] (List.getElem_mem CD);have gb:=hb.ny b.ah[i] (List.getElem_mem Xb);rw [List.getElem_zip];refine⟨?_, ?_, ?_⟩
   ·show RD a b s i=_;unfold RD;rw [if_pos (by simpa using CD),AK CD,Aa,AK Xb,Aa,A9 (n:=a.ah[i].ao-b.ah[i].ao) (by omega) (by omega),zJH _ (by omega) (by omega),Aa,AX CD (by omega),A9 (by omega) (by omega)]
   ·dsimp only;omega
   ·dsimp only;push_cast;omega)
  (fun s hs=>by show RD a b s ((a.ah.zip b.ah).length:Int)=_;unfold RD;rw [hz,if_neg (by simp)]) (s:=0) ⟨by omega,by omega⟩
 refine⟨_,h1.1, ?_⟩;rw [wH _ _ (by omega),←zyb hl];simp
def Ia (a b:Ad):Bool:=a.ab==b.ab&&(a.aq==b.aq&&(a.ah.map nc==b.ah.map nc&&a.ah.map (·.ao)==b.ah.map (·.ao)))
theorem SD {a b:Ad}:Ia a b=true↔a=b:=by
 unfold Ia;simp only [Ae,beq_iff_eq];constructor
 ·rintro⟨h1,h2,h3,h4⟩;exact qN h1 h2 (rP h3 h4)
 ·rintro rfl;simp
theorem zFV {a b:Ad} (ha:Du a):M6 a b=some (Ia a b):=by
 have key: ∃r,M6 a b=some r∧(r=true↔a=b):=by
  unfold M6;by_cases h1:(a.ab==b.ab)=true
  ·rw [if_pos h1];have SZ:a.ab=b.ab:=by simpa using h1
   have e1: ∃r,X5 a.aq b.aq=some r∧(r=true↔a.aq=b.aq):=by
    unfold X5;by_cases h2:((a.aq.length:Int) !=(b.aq.length:Int))=true
    ·rw [if_pos h2];exact⟨_,rfl,by simp,fun h=>by rw [h]at h2;simp at h2⟩
    ·rw [if_neg h2];have WN:a.aq.length=b.aq.length:=by
      have:(a.aq.length:Int)=b.aq.length:=by simpa using h2
      omega
     rw [R9 (xs:=a.aq) (ys:=b.aq) WN (fun x y=>x==y) false (some true) ?_ ?_]
     ·have z1:=Pz (p:=fun x y:Af=>x==y) (f:=id) (by simp) WN;rw [List.map_id,List.map_id]at z1;rw [←z1];cases hz:((a.aq.zip b.aq).all fun z=>z.1==z.2)<;>exact⟨_,rfl,by simp⟩
     ·intro i CD GB;show Uv a.aq b.aq i=_;unfold Uv;have:=ha.ij;rw [if_pos (by simpa using CD),AK CD,Aa,AK GB,Aa,AX CD (by omega)];by_cases hq:a.aq[i]=b.aq[i]
      ·rw [if_neg (by simp [hq]),if_pos (by simpa using hq)]
      ·rw [if_pos (by simpa using hq),if_neg (by simpa using hq)]
     ·show Uv a.aq b.aq a.aq.length=_;unfold Uv;rw [if_neg (by simp)]
   obtain⟨r1,e1,f1⟩:=e1;rw [e1,Aa];by_cases h2:r1=true
   ·rw [if_pos h2];have WN:=f1.1 h2;have e2: ∃r,X7 a.ah b.ah=some r∧(r=true↔a.ah=b.ah):=by
     unfold X7;by_cases h3:((a.ah.length:Int) !=(b.ah.length:Int))=true
     ·rw [if_pos h3];exact⟨_,rfl,by simp,fun h=>by rw [h]at h3;simp at h3⟩
     ·rw [if_neg h3];have S4:a.ah.length=b.ah.length:=by
       have:(a.ah.length:Int)=b.ah.length:=by simpa using h3
       omega
      rw [R9 (xs:=a.ah) (ys:=b.ah) S4 (fun x y=>x.ab==y.ab&&(x.bh==y.bh&&(x.ao==y.ao))) false (some true) ?_ ?_]
      ·have z1:=Pz (p:=fun x y:Au=>x.ab==y.ab&&(x.bh==y.bh&&(x.ao==y.ao))) (f:=id) (fun x y=>by
        simp only [Ae,beq_iff_eq,id];constructor
        ·rintro⟨k1,k2,k3⟩;exact xD (by simp [nc,k1,k2]) k3
        ·rintro rfl;simp) S4
       rw [List.map_id,List.map_id]at z1;rw [←z1];cases((a.ah.zip b.ah).all fun z=>z.1.ab==z.2.ab&&(z.1.bh==z.2.bh&&(z.1.ao==z.2.ao)))<;>exact⟨_,rfl,by simp⟩
      ·intro i CD GB;show Uu a.ah b.ah i=_;unfold Uu;have:=ha.idxs;rw [if_pos (by simpa using CD),AK CD,Aa,AK GB,Aa,AX CD (by omega)];cases(a.ah[i].ab==b.ah[i].ab&&(a.ah[i].bh==b.ah[i].bh&&(a.ah[i].ao==b.ah[i].ao)))<;>rfl
      ·show Uu a.ah b.ah a.ah.length=_;unfold Uu;rw [if_neg (by simp)]
    obtain⟨r2,e2,f2⟩:=e2;rw [e2,Aa];exact⟨_,rfl,by rw [f2];exact⟨fun h=>qN SZ WN h,fun h=>by rw [h]⟩⟩
   ·rw [if_neg h2];exact⟨_,rfl,by simp,fun h=>absurd (f1.2 (by rw [h])) h2⟩
  ·rw [if_neg h1];exact⟨_,rfl,by simp,fun h=>by rw [h]at h1;simp at h1⟩
 obtain⟨r,e,f⟩:=key;rw [e];congr 1;rw [Bool.eq_iff_iff,f,SD]
structure Fh (s:AA):Prop where
 name:s.ab.length≤2000000
 ways:s.ak.length≤2000000
 way: ∀t∈s.ak,Du t
 at_:s.bj.length≤2000000
 store:PD s.au
theorem jS {t:Ad} (h:Be t=true):MV t:=by unfold Be at h;simp only [Ae,decide_eq_true_eq]at h;refine⟨by omega,fun x hx=> ?_⟩;obtain⟨i,hi,rfl⟩:=List.mem_iff_getElem.1 hx;have h1:=AR.1 h.2 i (List.mem_range.2 hi);unfold IJ at h1;simp only [Ae,List.getElem?_eq_getElem hi,Option.getD_some]at h1;exact CN.1 h1.1.2
theorem vH {α γ:Type} (f:α→γ): ∀(l:List α) (k:Nat) (d y:α),f y=f ((l[k]?).getD d)→(l.set k y).map f=l.map f
 | [],k,d,y,_=>rfl
 |x::l,0,d,y,h=>by simp only [List.getElem?_cons_zero,Option.getD_some]at h;simp [h]
 |x::l,k+1,d,y,h=>by simp only [List.getElem?_cons_succ]at h;simp [vH f l k d y h]
theorem o0 (t:Ad) (k c:Int):(FA t k c).ah.map (·.ab)=t.ah.map (·.ab):=vH _ _ _ ⟨[],0,0⟩ _ rfl
theorem zDj {t:Ad} {k c:Int} (h:MV t) (h0:0≤c) (h3:c≤3):MV (FA t k c):=by
 refine⟨by unfold FA;simpa using h.len,fun x hx=> ?_⟩;rcases List.mem_or_eq_of_mem_set hx with hx|rfl
 ·exact h.ny x hx
 ·exact⟨h0,h3⟩
theorem zzx {t:Ad} {k c:Int} (h:Du t):Du (FA t k c):=by refine⟨h.name,h.ij,h.k8,by unfold FA;simpa using h.idxs,fun x hx=> ?_⟩;have h1:x.ab∈(FA t k c).ah.map (·.ab):=List.mem_map.2 ⟨x,hx,rfl⟩;rw [o0]at h1;obtain⟨y,hy,e⟩:=List.mem_map.1 h1;rw [←e];exact h.idx y hy
theorem zIt {t:Ad} {k a b:Int} (hS:Du t) (h:MV t) (Td:0≤a) (WY:a≤3) (FE:0≤b) (IN:b≤3): ∀w∈way t k a b,w.ah.map (·.ab)=t.ah.map (·.ab)∧MV w∧Du w:=by
 intro w hw;rcases Ag.1 hw with rfl|hw
 ·exact⟨rfl,h,hS⟩
 ·obtain⟨c,hc,rfl⟩:=List.mem_map.1 hw;have:=wF 3 Td WY FE IN c hc;exact⟨o0 t k c,zDj h this.1 this.2,zzx hS⟩
theorem zEF {xs ys:List Au} {n:Af} (h:xs.map (·.ab)=ys.map (·.ab)):decide (BS (fun x:Au=>x.ab==n) xs≥0)=decide (BS (fun x:Au=>x.ab==n) ys≥0):=by
 rw [Sg,Sg];have e: ∀l:List Au,(l.any fun x=>x.ab==n)=(l.map (·.ab)).any (· ==n):=fun l=>by rw [List.any_map];rfl
 rw [e,e,h]
def T5:Ad:=⟨[], [], []⟩
def B8 (s:AA):Ad:=(s.ak[0]?).getD T5
def Ja (s:AA):Ad:=(s.ak[s.ak.length-1]?).getD T5
def FK (t:Ad) (n:Af):Int:=BS (fun y:Au=>y.ab==n) t.ah
def Cm (t:Ad) (n:Af):Int:=((t.ah[(FK t n).toNat]?).getD ⟨[],0,0⟩).ao
def Es (s:AA):List Ad:=way (B8 s) (FK (B8 s) s.ab) (Cm (B8 s) s.ab) (Cm (Ja s) s.ab)
theorem zFy {t:Ad} {n:Af} {x:Au} (h:EO t n x):Cm t n=x.ao:=by unfold Cm FK;rw [(Sw h.at_).2.1];rfl
theorem LH {s:AA} (h:1≤s.ak.length):Am s.ak 0=some (B8 s)∧B8 s∈s.ak:=by
 have h0:0<s.ak.length:=by omega
 have e:B8 s=s.ak[0]:=by unfold B8;rw [List.getElem?_eq_getElem h0];rfl
 rw [e];exact⟨AK h0,List.getElem_mem h0⟩
theorem rZ {s:AA} (h:1≤s.ak.length) (h4:s.ak.length≤4):Am s.ak (IntKind.i64.wrap ((s.ak.length:Int)-1))=some (Ja s)∧Ja s∈s.ak:=by
 have h0:s.ak.length-1<s.ak.length:=by omega
 have e:Ja s=s.ak[s.ak.length-1]:=by unfold Ja;rw [List.getElem?_eq_getElem h0];rfl
 have w:IntKind.i64.wrap ((s.ak.length:Int)-1)=((s.ak.length-1:Nat):Int):=by rw [A9 (by omega) (by omega)];omega
 rw [e,w];exact⟨AK h0,List.getElem_mem h0⟩
theorem LU {t:Ad} {n:Af} (h:C4 t n=true): ∃x,EO t n x∧Cm t n=x.ao∧0≤x.ao∧x.ao≤3∧Be t=true:=by
 obtain⟨x,hx,_⟩:=jT h;have hg:Be t=true:=by unfold C4 at h;simp only [Ae]at h;exact h.1
 have:=(jS hg).ny x (rS hx.at_);exact⟨x,hx,zFy hx,this.1,this.2,hg⟩
theorem zH2 {s:AA} (hS:Fh s) (h1:1≤s.ak.length) (h4:s.ak.length≤4): ∃sw,RJ s=some sw∧(sw=true↔(∀t∈s.ak,C4 t s.ab=true)∧s.ak=Es s):=by
 unfold RJ;obtain⟨e0,m0⟩:=LH h1;obtain⟨e1,m1⟩:=rZ h1 h4;have S0:=hS.way _ m0;have S1:=hS.way _ m1;rw [Jb,Aa,if_pos (CN.2 ⟨by omega,by omega⟩),e0,Aa,Sl S0,Aa];have no: ∀{t:Ad},t∈s.ak→C4 t s.ab≠true→(false=true↔(∀t∈s.ak,C4 t s.ab=true)∧s.ak=Es s):=fun ht hn=>⟨by simp,fun h=>absurd (h.1 _ ht) hn⟩
 by_cases g0:Be (B8 s)=true
 ·rw [if_pos g0,L6 S0,Aa];by_cases k0:BS (fun x:Au=>x.ab==s.ab) (B8 s).ah<0
  ·rw [if_pos (by simpa using k0)];exact⟨_,rfl,no m0 (by unfold C4;intro hq;rw [Ae,decide_eq_true_eq]at hq;omega)⟩
  ·rw [if_neg (by simpa using k0),e1,Aa,Sl S1,Aa];by_cases g1:Be (Ja s)=true
   ·rw [if_pos g1,L6 S1,Aa];by_cases k1:BS (fun x:Au=>x.ab==s.ab) (Ja s).ah<0
    ·rw [if_pos (by simpa using k1)];exact⟨_,rfl,no m1 (by unfold C4;intro hq;rw [Ae,decide_eq_true_eq]at hq;omega)⟩
    ·rw [if_neg (by simpa using k1),Aa];have H0:C4 (B8 s) s.ab=true:=by unfold C4;simp only [Ae,decide_eq_true_eq];exact⟨g0,by omega⟩
     have H1:C4 (Ja s) s.ab=true:=by unfold C4;simp only [Ae,decide_eq_true_eq];exact⟨g1,by omega⟩
     obtain⟨x,hx,sx,x0,x3,_⟩:=LU H0;obtain⟨y,hy,sy,y0,y3,_⟩:=LU H1;rw [hy.at_,Aa,zJk S0 hx x0 x3 y0 y3,Aa];have hW:way (B8 s) (BS (fun y:Au=>y.ab==s.ab) (B8 s).ah) x.ao y.ao=Es s:=by unfold Es FK;rw [sx,sy]
     rw [hW];have hM:=zIt (t:=B8 s) (k:=FK (B8 s) s.ab) (a:=Cm (B8 s) s.ab) (b:=Cm (Ja s) s.ab) S0 (jS g0) (by omega) (by omega) (by omega) (by omega);have hM: ∀w∈Es s,w.ah.map (·.ab)=(B8 s).ah.map (·.ab)∧MV w∧Du w:=hM;by_cases hl:((Es s).length:Int) !=(s.ak.length:Int)
     ·rw [if_pos hl];exact⟨_,rfl,by simp,fun h=>by rw [←h.2]at hl;simp at hl⟩
     ·rw [if_neg hl];have Bu:(Es s).length=s.ak.length:=by
       have:((Es s).length:Int)=(s.ak.length:Int):=by simpa using hl
       omega
      rw [R9 (xs:=Es s) (ys:=s.ak) Bu (fun w y=>Be y&&Ia w y) false (some true) ?_ ?_]
      ·have z1:=Pz (p:=Ia) (f:=id) (fun x y=>SD) Bu;rw [List.map_id,List.map_id]at z1;have z2:((Es s).zip s.ak).all (fun z=>Be z.2)=s.ak.all Be:=by
        have:=List.map_snd_zip (l₁:=Es s) (l₂:=s.ak) (by omega)
        conv=>rhs;rw [←this]
        rw [List.all_map];rfl
       have z3:(((Es s).zip s.ak).all fun z=>Be z.2&&Ia z.1 z.2)=(s.ak.all Be&&((Es s).zip s.ak).all fun z=>Ia z.1 z.2):=by rw [←z2];rw [Bool.eq_iff_iff];simp only [AR,Ae];exact⟨fun h=>⟨fun z hz=>(h z hz).1,fun z hz=>(h z hz).2⟩,fun h z hz=>⟨h.1 z hz,h.2 z hz⟩⟩
       have key:(((Es s).zip s.ak).all fun z=>Be z.2&&Ia z.1 z.2)=true↔(∀t∈s.ak,C4 t s.ab=true)∧s.ak=Es s:=by
        rw [z3,Ae,z1];constructor
        ·rintro⟨a1,a2⟩;refine⟨fun t ht=> ?_,a2.symm⟩;have q1:=AR.1 a1 t ht;rw [←a2]at ht;have q2:=zEF (n:=s.ab) (hM t ht).1;unfold C4 at H0 ⊢;simp only [Ae]at H0 ⊢;exact⟨q1,by rw [q2];exact H0.2⟩
        ·rintro⟨a1,a2⟩;exact⟨AR.2 fun t ht=>by have:=a1 t ht;unfold C4 at this;simp only [Ae]at this;exact this.1,a2.symm⟩
       by_cases hz:(((Es s).zip s.ak).all fun z=>Be z.2&&Ia z.1 z.2)=true
       ·rw [if_pos hz];exact⟨_,rfl,fun _=>key.1 hz,fun _=>rfl⟩
       ·rw [if_neg hz];exact⟨_,rfl,by simp,fun h=>absurd (key.2 h) hz⟩
      ·intro i hi hj;show UQ s (Es s) i=_;unfold UQ;have Sj:=hS.way _ (List.getElem_mem hj);obtain⟨_,Ti,Si⟩:=hM _ (List.getElem_mem hi);rw [if_pos (by simpa using hi),AK hj,Aa,Sl Sj,Aa];by_cases gj:Be s.ak[i]=true
       ·rw [if_pos gj,AK hi,Aa];obtain⟨r,er,fr⟩:=zB2 (a:=(Es s)[i]) (b:=s.ak[i]) Si;rw [er,Aa];by_cases hr:r=true
        ·rw [if_pos hr];obtain⟨c1,c2,c3⟩:=fr.1 hr;have c4:=congrArg List.length c3;simp only [List.length_map]at c4;obtain⟨v,ev,fv⟩:=zKw Ti (jS gj) c4;rw [ev,Aa,AX hi (by omega)];by_cases hv:v=0
         ·have:=SD.2 (qN c1 c2 (rP c3 (fv.1 hv)));rw [if_neg (by simp [hv]),if_pos (by rw [gj,this];rfl)]
         ·rw [if_pos (by simpa using hv),if_neg (by simp only [Ae,not_and];intro _ h;rw [SD.1 h]at fv;exact hv (fv.2 rfl))]
        ·rw [if_neg hr,if_neg (by simp only [Ae,not_and];intro _ h;rw [SD.1 h]at fr;exact hr (fr.2 ⟨rfl,rfl,rfl⟩))]
       ·rw [if_neg gj,if_neg (by simp [gj])]
      ·show UQ s (Es s) (Es s).length=_;unfold UQ;rw [if_neg (by simp)]
   ·rw [if_neg g1];exact⟨_,rfl,no m1 (by unfold C4;simp [g1])⟩
 ·rw [if_neg g0];exact⟨_,rfl,no m0 (by unfold C4;simp [g0])⟩
theorem zIC {xs:List Int} {a b:Int} (h:xs.length≤2000000):aJ xs a b=some (xs.all fun y=>BQ y a b):=by
 unfold aJ;have h1:=bP (xs:=xs) (body:=fun s:Int=>Rv xs a b s) (fun i (_:Unit)=>i) (fun y _=>some (if BQ y a b=true then .inl ()else .inr (some false))) (fun _=>some true)
  (fun i hi s=>by
   show Rv xs a b i=_;unfold Rv;rw [if_pos (by simpa using hi),AK hi,Aa,Jb,Aa,AX hi (by omega)];cases BQ xs[i] a b<;>simp [L9]) (fun s=>by
   show Rv xs a b xs.length=_;unfold Rv;rw [if_neg (by simp)]) ()
 rw [sX (fun y=>BQ y a b) false fun x _ s=>rfl]at h1;refine h1.trans ?_;cases(xs.all fun y=>BQ y a b)<;>rfl
def CJ (s:AA):Prop:=1≤s.ak.length∧s.ak.length≤4∧(∀t∈s.ak,C4 t s.ab=true)∧s.ak=Es s∧BQ s.bj.length 1 3=true∧(∀y∈s.bj,0≤y∧y≤(s.ak.length:Int)-1)∧BZ s.au=true
theorem yM {s:AA}:(s.bj.all fun y=>BQ y 0 ((s.ak.length:Int)-1))=true↔ ∀y∈s.bj,0≤y∧y≤(s.ak.length:Int)-1:=by rw [AR];exact⟨fun h y hy=>CN.1 (h y hy),fun h y hy=>CN.2 (h y hy)⟩
theorem zHs {s:AA} (hS:Fh s): ∃g,YK s=some g∧(g=true↔CJ s):=by
 unfold YK;by_cases h:1≤s.ak.length∧s.ak.length≤4
 ·obtain⟨sw,e,f⟩:=zH2 hS h.1 h.2;rw [e,Aa];have w:IntKind.i64.wrap ((s.ak.length:Int)-1)=(s.ak.length:Int)-1:=A9 (by omega) (by omega);by_cases hw:sw=true
  ·rw [if_pos hw,Jb,Aa];by_cases h2:BQ s.bj.length 1 3=true
   ·rw [if_pos h2,w,zIC hS.at_,Aa];by_cases h3:(s.bj.all fun y=>BQ y 0 ((s.ak.length:Int)-1))=true
    ·rw [if_pos h3,Sr hS.store,Aa];exact⟨_,rfl,fun h5=>⟨h.1,h.2,(f.1 hw).1,(f.1 hw).2,h2,yM.1 h3,h5⟩,fun h5=>h5.2.2.2.2.2.2⟩
    ·rw [if_neg h3];exact⟨_,rfl,by simp,fun h5=>absurd (yM.2 h5.2.2.2.2.2.1) h3⟩
   ·rw [if_neg h2];exact⟨_,rfl,by simp,fun h5=>absurd h5.2.2.2.2.1 h2⟩
  ·rw [if_neg hw];exact⟨_,rfl,by simp,fun h5=>absurd (f.2 ⟨h5.2.2.1,h5.2.2.2.1⟩) hw⟩
 ·have e:RJ s=some false:=by
   unfold RJ;rw [Jb,Aa,if_neg (by rw [CN];omega)]
  rw [e,Aa,if_neg (by simp)];exact⟨_,rfl,by simp,fun h5=>absurd ⟨h5.1,h5.2.1⟩ h⟩
theorem zDT {xs ys:List Ad} (h: ∀t∈xs,Du t) (hl:xs.length≤2000000): ∃r,X2 xs ys (fun a b=>M6 a b)=some r∧(r=true↔xs=ys):=by
 unfold X2;by_cases h3:((xs.length:Int) !=(ys.length:Int))=true
 ·rw [if_pos h3];exact⟨_,rfl,by simp,fun h=>by rw [h]at h3;simp at h3⟩
 ·rw [if_neg h3];have S4:xs.length=ys.length:=by
   have:(xs.length:Int)=ys.length:=by simpa using h3
   omega
  rw [R9 (xs:=xs) (ys:=ys) S4 Ia false (some true) ?_ ?_]
  ·have z1:=Pz (p:=Ia) (f:=id) (fun x y=>SD) S4;rw [List.map_id,List.map_id]at z1;rw [←z1];cases((xs.zip ys).all fun z=>Ia z.1 z.2)<;>exact⟨_,rfl,by simp⟩
  ·intro i CD GB;show Ux xs ys (fun a b=>M6 a b) i=_;unfold Ux;rw [if_pos (by simpa using CD),AK CD,Aa,AK GB,Aa,AX CD (by omega)];dsimp only;rw [zFV (h _ (List.getElem_mem CD)),Aa];cases Ia xs[i] ys[i]<;>rfl
  ·show Ux xs ys (fun a b=>M6 a b) xs.length=_;unfold Ux;rw [if_neg (by simp)]
theorem cU {s:AA} {t:Ad} {x:Au} (h:Du t) (hx:EO t s.ab x):J2 s t=some x.ao:=by unfold J2 M3;rw [WG h,Aa,hx.at_,Aa,Aa]
theorem zHR {s:AA} (hS:Fh s): ∃g,Zk s=some g∧(g=true↔CJ s):=by
 unfold Zk;rw [KE,Aa];by_cases hb:BQ s.ak.length 1 4=true
 ·have h:=CN.1 hb;rw [if_pos hb,KE,Aa];by_cases h2:BQ s.bj.length 1 3=true
  ·rw [if_pos h2,zHH hS.store,Aa];by_cases h3:BZ s.au=true
   ·rw [if_neg (by simp [h3]),Ws (fun t=> !C4 t s.ab) (fun t ht=>by unfold lO;rw [zH5 (hS.way t ht),Aa]) (by omega),Aa];by_cases h4:(s.ak.any fun t=> !C4 t s.ab)=true
    ·rw [if_pos h4];refine⟨_,rfl,by simp,fun h5=> ?_⟩;obtain⟨t,ht,hn⟩:=List.any_eq_true.1 h4;rw [h5.2.2.1 t ht]at hn;simp at hn
    ·have hA: ∀t∈s.ak,C4 t s.ab=true:=fun t ht=>by
      cases hq:C4 t s.ab with
      |true=>rfl
      |false=>exact absurd (List.any_eq_true.2 ⟨t,ht,by simp [hq]⟩) h4
     have w:IntKind.i64.wrap ((s.ak.length:Int)-1)=(s.ak.length:Int)-1:=A9 (by omega) (by omega);have hat:=hS.at_;rw [if_neg h4,Ws (fun y=> !BQ y 0 ((s.ak.length:Int)-1)) (fun y hy=>by unfold mP;rw [w,KE,Aa]) (by omega),Aa];by_cases h5:(s.bj.any fun y=> !BQ y 0 ((s.ak.length:Int)-1))=true
     ·rw [if_pos h5];refine⟨_,rfl,by simp,fun h6=> ?_⟩;obtain⟨y,hy,hn⟩:=List.any_eq_true.1 h5;rw [CN.2 (h6.2.2.2.2.2.1 y hy)]at hn;simp at hn
     ·have hB: ∀y∈s.bj,0≤y∧y≤(s.ak.length:Int)-1:=fun y hy=>by
       cases hq:BQ y 0 ((s.ak.length:Int)-1)with
       |true=>exact CN.1 hq
       |false=>exact absurd (List.any_eq_true.2 ⟨y,hy,by simp [hq]⟩) h5
      obtain⟨e0,m0⟩:=LH (s:=s) (by omega);obtain⟨e1,m1⟩:=rZ (s:=s) (by omega) (by omega);obtain⟨x,hx,sx,x0,x3,_⟩:=LU (hA _ m0);obtain⟨y,hy,sy,y0,y3,_⟩:=LU (hA _ m1);rw [if_neg h5,e0,Aa,e1,Aa,cU (hS.way _ m1) hy,Aa,zJs (hS.way _ m0) hx x0 x3 y0 y3,Aa];have hW:way (B8 s) (BS (fun y:Au=>y.ab==s.ab) (B8 s).ah) x.ao y.ao=Es s:=by unfold Es FK;rw [sx,sy]
      rw [hW];obtain⟨r,er,fr⟩:=zDT (xs:=s.ak) (ys:=Es s) hS.way hS.ways;rw [er,Aa];exact⟨_,rfl,fun hr=>⟨by omega,by omega,hA,fr.1 hr,h2,hB,h3⟩,fun h6=>fr.2 h6.2.2.2.1⟩
   ·rw [if_pos (by simp [h3])];exact⟨_,rfl,by simp,fun h5=>absurd h5.2.2.2.2.2.2 h3⟩
  ·rw [if_neg h2];exact⟨_,rfl,by simp,fun h5=>absurd h5.2.2.2.2.1 h2⟩
 ·rw [if_neg hb];exact⟨_,rfl,by simp,fun h5=>absurd (CN.2 ⟨by have:=h5.1;omega,by have:=h5.2.1;omega⟩) hb⟩
def GJ (t:Ad) (n:Af):Au:=(t.ah[(FK t n).toNat]?).getD ⟨[],0,0⟩
theorem yL {t:Ad} {n:Af} {x:Au} (h:EO t n x):GJ t n=x:=by unfold GJ FK;rw [(Sw h.at_).2.1];rfl
def CM (s:AA):List Int:=s.bj.map fun y=>Cm ((Am s.ak y).getD T5) s.ab
def Jj (s:AA):Bool:=holds (B8 s) s.ab (GJ (B8 s) s.ab) (Hz (CM s)) s.au
theorem vE {s:AA} (hS:Fh s) (hg:CJ s):Vg s=some (Jj s)∧UK s=some (Jj s):=by
 obtain⟨h1,h4,hA,_,h3,hB,hR⟩:=hg;have h3:=CN.1 h3;obtain⟨e0,m0⟩:=LH (s:=s) h1;obtain⟨x,hx,k1,k2,k3⟩:=jT (hA _ m0);have hT:=zHT hR;have hW:=hS.store;have A0: ∀y∈s.bj,∃tb x,Am s.ak y=some tb∧tb∈s.ak∧EO tb s.ab x∧Cm tb s.ab=x.ao:=fun y hy=>by obtain⟨tb,q1,q2,_⟩:=LV (hB y hy).1 (by have:=(hB y hy).2;omega:y<s.ak.length);obtain⟨x,q3,q4,_⟩:=LU (hA tb q2);exact⟨tb,x,q1,q2,q3,q4⟩
 let st:List Int:=s.bj.map fun y=>Cm ((Am s.ak y).getD T5) s.ab;have hn:st.length=s.bj.length:=by simp [st]
 have hl:st.length≤2000000:=by have:=hS.at_;omega
 have n1:=zIA (s:=s) (st:=st) hn hl fun i hi=>by
  have Bt:i<s.bj.length:=by omega
  obtain⟨tb,x,q1,q2,q3,q4⟩:=A0 _ (List.getElem_mem Bt);refine⟨s.bj[i],tb,_,x,AK Bt,q1,L6 (hS.way _ q2),q3.at_, ?_⟩;simp only [st,List.getElem_map,q1,Option.getD_some,q4]
 have n2:=zIb (s:=s) (st:=st) hn hl fun i hi=>by
  have Bt:i<s.bj.length:=by omega
  obtain⟨tb,x,q1,q2,q3,q4⟩:=A0 _ (List.getElem_mem Bt);refine⟨tb, ?_, ?_⟩
  ·unfold Gp;rw [AK Bt,Aa,q1,Aa]
  ·rw [cU (hS.way _ q2) q3];simp only [st,List.getElem_map,q1,Option.getD_some,q4]
 unfold Vg UK;have S0:=hS.way _ m0;have P5:=hS.name;have Ic:O6 (B8 s) s.ab s.au=some true:=by rw [zGb S0 hW];unfold kI;rw [hA _ m0,hR];rfl
 rw [e0,Aa,Aa,n1,n2,Aa,Aa,zGz S0 (by omega) P5 hx hW.1 hT Ic,zGm S0 k1 P5 k3 hx hW.1 hT];unfold Jj;rw [yL hx];exact⟨rfl,rfl⟩
theorem zD0 {s:AA} (hS:Fh s) (hg:CJ s): ∃r,Vg s=some r∧UK s=some r:=⟨_,vE hS hg⟩
abbrev bl (a b:Ac):Bool:=Op.bytesLess a b
theorem Pn: ∀a:Ac,bl a a=false
 | []=>rfl
 |x::a=>by
  have h: ¬x<x:=fun h=>by have:=UInt8.lt_iff_toNat_lt.1 h;omega
  show Op.bytesLess (x::a) (x::a)=false;simp only [Op.bytesLess,h,decide_false,Bool.false_or,beq_self_eq_true,Bool.true_and];exact Pn a
theorem sO (x y:UInt8) (a b:Ac):bl (x::a) (y::b)=true↔x.toNat<y.toNat∨x=y∧bl a b=true:=by show Op.bytesLess (x::a) (y::b)=true↔_;simp only [Op.bytesLess,Bool.or_eq_true,decide_eq_true_eq,Ae,beq_iff_eq,UInt8.lt_iff_toNat_lt]
theorem FZ: ∀{a b c:Ac},bl a b=true→bl b c=true→bl a c=true
 | [],_, [],_,h=>by rename_i b _;cases b<;>cases h
 | [],_,_::_,_,_=>rfl
 |_::_, [],_,h,_=>by cases h
 |_::_,_::_, [],_,h=>by cases h
 |x::a,y::b,z::c,h1,h2=>by
  rw [sO]at*;rcases h1 with h1|⟨rfl,h1⟩<;>rcases h2 with h2|⟨rfl,h2⟩
  ·exact .inl (by omega)
  ·exact .inl h1
  ·exact .inl h2
  ·exact .inr ⟨rfl,FZ h1 h2⟩
theorem yP: ∀a b:Ac,bl a b=true∨a=b∨bl b a=true
 | [], []=> .inr (.inl rfl)
 | [],_::_=> .inl rfl
 |_::_, []=> .inr (.inr rfl)
 |x::a,y::b=>by
  rw [sO,sO];rcases Nat.lt_trichotomy x.toNat y.toNat with h|h|h
  ·exact .inl (.inl h)
  ·have h0:x=y:=UInt8.toNat_inj.1 h;subst h0;rcases yP a b with h1|h1|h1
   ·exact .inl (.inr ⟨rfl,h1⟩)
   ·exact .inr (.inl (by rw [h1]))
   ·exact .inr (.inr (.inr ⟨rfl,h1⟩))
  ·exact .inr (.inr (.inl h))
theorem cH {a b:Ac} (h:bl a b=true):bl b a=false:=by
 cases h2:bl b a with
 |false=>rfl
 |true=>have:=FZ h h2;rw [Pn]at this;cases this
theorem F0 {a b:Ac} (h:bl a b=true):a≠b:=by rintro rfl;rw [Pn]at h;cases h
theorem VU {a b:Ac} (h:bl a b=false) (hn:a≠b):bl b a=true:=by
 rcases yP a b with h1|h1|h1
 ·rw [h]at h1;cases h1
 ·exact absurd h1 hn
 ·exact h1
section
variable {α:Type} (key:α→Ac)
def E3 (l:List α):Prop:=l.Pairwise fun a b=>bl (key a) (key b)=true
def BM (x:α):List α→List α
 | []=> [x]
 |y::l=>if bl (key x) (key y)=true then x::y::l else if key x=key y then x::l else y::BM x l
variable {key}
theorem E3.gf {l:List α} (h:E3 key l) {a b:α} (ha:a∈l) (hb:b∈l) (e:key a=key b):a=b:=by
 induction l with
 |nil=>cases ha
 |cons y l ih=>
  have h1:=List.pairwise_cons.1 h;rcases Ag.1 ha with q1|q1<;>rcases Ag.1 hb with q2|q2
  ·rw [q1,q2]
  ·exact absurd (q1▸e) (F0 (h1.1 _ q2))
  ·exact absurd (q2▸e.symm) (F0 (h1.1 _ q1))
  ·exact ih h1.2 q1 q2
theorem Wa {x:α}: ∀{l:List α},E3 key l→ ∀y,y∈BM key x l↔y=x∨y∈l∧key y≠key x
 | [],_,y=>by simp [BM]
 |z::l,h,y=>by
  have h1:=List.pairwise_cons.1 h;unfold BM;split
  ·rename_i hb;constructor
   ·intro hy;rcases Ag.1 hy with rfl|hy
    ·exact .inl rfl
    ·refine .inr ⟨hy, ?_⟩;rcases Ag.1 hy with rfl|hy
     ·exact(F0 hb).symm
     ·exact(F0 (FZ hb (h1.1 _ hy))).symm
   ·rintro(rfl|⟨hy,_⟩)
    ·simp
    ·exact List.mem_cons_of_mem _ hy
  ·rename_i hb;split
   ·rename_i he;constructor
    ·intro hy;rcases Ag.1 hy with rfl|hy
     ·exact .inl rfl
     ·exact .inr ⟨List.mem_cons_of_mem _ hy,fun e=>F0 (h1.1 _ hy) (by rw [e,he])⟩
    ·rintro(rfl|⟨hy,hn⟩)
     ·simp
     ·rcases Ag.1 hy with rfl|hy
      ·exact absurd he.symm hn
      ·exact List.mem_cons_of_mem _ hy
   ·rename_i he;rw [Ag,Wa h1.2];constructor
    ·rintro(rfl|rfl|⟨hy,hn⟩)
     ·exact .inr ⟨by simp,fun e=>he e.symm⟩
     ·exact .inl rfl
     ·exact .inr ⟨List.mem_cons_of_mem _ hy,hn⟩
    ·rintro(rfl|⟨hy,hn⟩)
     ·exact .inr (.inl rfl)
     ·rcases Ag.1 hy with rfl|hy
      ·exact .inl rfl
      ·exact .inr (.inr ⟨hy,hn⟩)
theorem cB {x:α}: ∀{l:List α},E3 key l→E3 key (BM key x l)
 | [],_=>by simp [BM,E3]
 |z::l,h=>by
  have h1:=List.pairwise_cons.1 h;unfold BM;split
  ·rename_i hb;refine List.pairwise_cons.2 ⟨fun y hy=> ?_,h⟩;rcases Ag.1 hy with rfl|hy
   ·exact hb
   ·exact FZ hb (h1.1 _ hy)
  ·rename_i hb;split
   ·rename_i he;exact List.pairwise_cons.2 ⟨fun y hy=>by rw [he];exact h1.1 _ hy,h1.2⟩
   ·rename_i he;refine List.pairwise_cons.2 ⟨fun y hy=> ?_,cB h1.2⟩;rcases(Wa h1.2 y).1 hy with rfl|⟨hy,_⟩
    ·exact VU (by simpa using hb) he
    ·exact h1.1 _ hy
theorem E3.ext: ∀{a b:List α},E3 key a→E3 key b→(∀x,x∈a↔x∈b)→a=b
 | [], [],_,_,_=>rfl
 | [],y::b,_,_,h=>absurd ((h y).2 (by simp)) (by simp)
 |x::a, [],_,_,h=>absurd ((h x).1 (by simp)) (by simp)
 |x::a,y::b,ha,hb,h=>by
  have h1:=List.pairwise_cons.1 ha;have h2:=List.pairwise_cons.1 hb;have e:x=y:=by
   rcases Ag.1 ((h x).1 (by simp))with e|hx
   ·exact e
   ·rcases Ag.1 ((h y).2 (by simp))with e|hy
    ·exact e.symm
    ·have:=FZ (h1.1 _ hy) (h2.1 _ hx);rw [Pn]at this;cases this
  subst e;rw [E3.ext h1.2 h2.2 fun z=> ?_];constructor
  ·intro hz;rcases Ag.1 ((h z).1 (List.mem_cons_of_mem _ hz))with rfl|T3
   ·have:=h1.1 _ hz;rw [Pn]at this;cases this
   ·exact T3
  ·intro hz;rcases Ag.1 ((h z).2 (List.mem_cons_of_mem _ hz))with rfl|T3
   ·have:=h2.1 _ hz;rw [Pn]at this;cases this
   ·exact T3
theorem E3.filter {l:List α} (h:E3 key l) (p:α→Bool):E3 key (l.filter p):=List.Pairwise.filter p h
theorem E3.sub {a b:List α} (h:E3 key b) (hs:a.Sublist b):E3 key a:=List.Pairwise.sublist hs h
theorem wO {x:α}: ∀(l:List α),(BM key x l).length≤l.length+1
 | []=>by simp [BM]
 |y::l=>by
  unfold BM;have:=wO (x:=x) l;split
  ·simp
  ·split
   ·simp
   ·simp only [Ap];omega
end
def IB {α:Type} (r:α→α→Bool):List α→Bool
 | []=>true
 | [_]=>true
 |x::y::l=>r x y&&IB r (y::l)
theorem bT {α:Type} {r:α→α→Bool} (ht: ∀a b c,r a b=true→r b c=true→r a c=true): ∀{l:List α},IB r l=true↔l.Pairwise fun a b=>r a b=true
 | []=>by simp [IB]
 | [_]=>by simp [IB]
 |x::y::l=>by
  rw [IB,Ae,bT ht];constructor
  ·rintro⟨h1,h2⟩;refine List.pairwise_cons.2 ⟨fun z hz=> ?_,h2⟩;rcases Ag.1 hz with rfl|hz
   ·exact h1
   ·exact ht _ _ _ h1 ((List.pairwise_cons.1 h2).1 z hz)
  ·intro h;have h:=List.pairwise_cons.1 h;exact⟨h.1 y (by simp),h.2⟩
theorem zz8 {α:Type} {r:α→α→Bool} {l:List α} {q:Nat} (h:q+1<l.length):IB r (l.drop q)=(r l[q] l[q+1]&&IB r (l.drop (q+1))):=by rw [List.drop_eq_getElem_cons (show q<l.length by omega),List.drop_eq_getElem_cons h,IB]
def B2 {α:Type} (lt:α→Bool) (l:List α):Nat:=(l.takeWhile lt).length
theorem Su {α:Type} (lt:α→Bool): ∀l:List α,B2 lt l≤l.length
 | []=>by simp [B2]
 |x::l=>by have:=Su lt l;unfold B2 at this ⊢;rw [List.takeWhile_cons];split<;>simp<;>omega
theorem sN {α:Type} {lt:α→Bool}: ∀{l:List α} {i:Nat} (h:i<B2 lt l),lt (l[i]'(Nat.lt_of_lt_of_le h (Su lt l)))=true
 |x::l,i,h=>by
  unfold B2 at h;rw [List.takeWhile_cons]at h;split at h
  ·rename_i hx;cases i with
   |zero=>exact hx
   |succ i=>exact sN (l:=l) (i:=i) (by unfold B2;simpa using h)
  ·simp at h
theorem x4 {α:Type} {lt:α→Bool}: ∀{l:List α} (h:B2 lt l<l.length),lt l[B2 lt l]=false
 |x::l,h=>by
  by_cases hx:lt x=true
  ·have e:B2 lt (x::l)=B2 lt l+1:=by unfold B2;rw [List.takeWhile_cons,if_pos hx];rfl
   have:=x4 (l:=l) (lt:=lt) (by rw [e]at h;simpa using h);simp only [e,List.getElem_cons_succ];exact this
  ·have e:B2 lt (x::l)=0:=by unfold B2;rw [List.takeWhile_cons,if_neg hx];rfl
   simp only [e,List.getElem_cons_zero];simpa using hx
theorem zIh {α β:Type} {xs:List α} {body:Int × Int→Option ((Int × Int) ⊕ Option β)} {fin:Int→Option β} (lt:α→Bool) (hm: ∀i j (hj:j<xs.length) (hi:i≤j),lt xs[j]=true→lt xs[i]=true)
  (hs: ∀i j:Nat,i<j→j≤xs.length→(h:(i+j)/2<xs.length)→body ((i:Int),(j:Int))=some (.inl (if lt xs[(i+j)/2]=true then((((i+j)/2+1:Nat):Int),(j:Int))else((i:Int),(((i+j)/2:Nat):Int)))))
  (he: ∀i:Nat,i≤xs.length→body ((i:Int),(i:Int))=some (.inr (fin i))):At body (0,(xs.length:Int))=fin (B2 lt xs):=by
 have key: ∀n i j:Nat,j-i≤n→i≤B2 lt xs→B2 lt xs≤j→j≤xs.length→At body ((i:Int),(j:Int))=fin (B2 lt xs):=by
  intro n
  induction n with
  |zero=>
   intro i j h1 h2 h3 h4;have:i=j:=by omega
   subst this;have:i=B2 lt xs:=by omega
   rw [DG,he i h4,this]
  |succ n ih=>
   intro i j h1 h2 h3 h4;by_cases P0:i=j
   ·subst P0;have:i=B2 lt xs:=by omega
    rw [DG,he i h4,this]
   ·have An:(i+j)/2<xs.length:=by omega
    rw [DG,hs i j (by omega) h4 An];by_cases hc:lt xs[(i+j)/2]=true
    ·rw [if_pos hc];refine ih _ _ (by omega) ?_ h3 h4;by_cases hp:(i+j)/2<B2 lt xs
     ·omega
     ·have h5:B2 lt xs<xs.length:=by omega
      have:=x4 h5;rw [hm _ _ An (by omega) hc]at this;cases this
    ·rw [if_neg hc];refine ih _ _ (by omega) h2 ?_ (by omega);by_cases hp:(i+j)/2<B2 lt xs
     ·exact absurd (sN hp) hc
     ·omega
 exact key xs.length 0 xs.length (by omega) (by omega) (Su lt xs) (Nat.le_refl _)
theorem uP {α:Type} {key:α→Ac} {x:α}: ∀{l:List α},E3 key l→BM key x l=(match l[B2 (fun y=>bl (key y) (key x)) l]? with
  |some y=>if key y=key x then l.set (B2 (fun y=>bl (key y) (key x)) l) x else l.take (B2 (fun y=>bl (key y) (key x)) l)++ [x]++l.drop (B2 (fun y=>bl (key y) (key x)) l)
  |none=>l.take (B2 (fun y=>bl (key y) (key x)) l)++ [x]++l.drop (B2 (fun y=>bl (key y) (key x)) l))
 | [],_=>by simp [BM,B2]
 |y::l,h=>by
  have h1:=List.pairwise_cons.1 h;unfold BM;by_cases hb:bl (key x) (key y)=true
  ·have e:B2 (fun z=>bl (key z) (key x)) (y::l)=0:=by unfold B2;rw [List.takeWhile_cons,if_neg (by rw [cH hb];simp)];rfl
   rw [if_pos hb,e];simp [(F0 hb).symm]
  ·rw [if_neg hb];by_cases hk:key x=key y
   ·have e:B2 (fun z=>bl (key z) (key x)) (y::l)=0:=by unfold B2;rw [List.takeWhile_cons,if_neg (by rw [hk,Pn];simp)];rfl
    rw [if_pos hk,e];simp [hk]
   ·have Ho:=VU (by simpa using hb) hk;have e:B2 (fun z=>bl (key z) (key x)) (y::l)=B2 (fun z=>bl (key z) (key x)) l+1:=by unfold B2;rw [List.takeWhile_cons,if_pos Ho];rfl
    rw [if_neg hk,e,uP h1.2];simp only [List.getElem?_cons_succ];split
    ·split<;>simp
    ·simp
def OM (a b:Af):Int:=if bl a b=true then-1 else if a=b then 0 else 1
@[simp] theorem zFK (a:Af):UW a=some false:=by simp [UW]
@[simp] theorem zKJ (a b:Af):Ys a b=some (OM a b):=by
 unfold Ys OM;simp only [zFK,Aa,AM,if_false];by_cases h:bl a b=true
 ·have:Op.bytesLess a b=true:=h;simp [this]
 ·have h1:Op.bytesLess a b=false:=by simpa using h
  by_cases he:a=b
  ·subst he;simp [h1]
  ·simp [h1,he]
theorem zIg {a b:Af}:decide (OM a b<0)=bl a b:=by
 unfold OM;cases h:bl a b with
 |true=>simp
 |false=>by_cases he:a=b<;>simp [he]
theorem zH4 {a b:Af}:(OM a b==0)=decide (a=b):=by
 unfold OM;cases h:bl a b with
 |true=>simp [F0 h]
 |false=>by_cases he:a=b<;>simp [he]
theorem zI9 {i j:Nat} (h:i≤j) (hj:j≤2000000):IntKind.i64.wrap (Int.fdiv (IntKind.u64.wrap (IntKind.i64.wrap ((i:Int)+(j:Int)))) (2^(min ((1:Int)).toNat (IntKind.bits .u64))))=(((i+j)/2:Nat):Int):=by
 have e1:IntKind.i64.wrap ((i:Int)+(j:Int))=((i+j:Nat):Int):=by rw [A9 (by omega) (by omega)];simp
 have e2:IntKind.u64.wrap ((i+j:Nat):Int)=((i+j:Nat):Int):=by simp only [IntKind.wrap,IntKind.bits,IntKind.signed];simp;omega
 have e3:(2:Int)^(min ((1:Int)).toNat (IntKind.bits .u64))=((2:Nat):Int):=rfl;rw [e1,e2,e3,Int.fdiv_eq_ediv_of_nonneg _ (by omega),←Int.natCast_ediv,A9 (by omega) (by omega)]
theorem zJo {i:Nat} (h:i≤2000000):IntKind.i64.wrap ((i:Int)+1)=((i+1:Nat):Int):=by rw [A9 (by omega) (by omega)];simp
abbrev DI (l:List Ab):Prop:=E3 (fun w:Ab=>w.af) l
abbrev GP (l:List Ab) (k:Af):Nat:=B2 (fun w:Ab=>bl w.af k) l
theorem zQ {l:List Ab} {k:Af} (hl:l.length≤2000000) (hr:DI l):M7 l k=some (((GP l k:Nat):Int),(match l[GP l k]? with|some w=>decide (w.af=k)|none=>false)):=by
 unfold M7 kV;have hc: ∀w:Ab,Rh w k=some (OM w.af k):=fun w=>by simp [Rh]
 have h:=zIh (xs:=l) (body:=fun s:Int × Int=>Qv l k (fun y0_ y1_=>Rh y0_ y1_) s.1 s.2) (fin:=fun i=>kU l k (fun y0_ y1_=>Rh y0_ y1_) i) (fun w:Ab=>bl w.af k)
  (fun i j hj hi h=>by
   rcases Nat.lt_or_ge i j with P0|P0
   ·exact FZ ((List.pairwise_iff_getElem.1 hr) i j (by omega) hj P0) h
   ·have:i=j:=by omega
    subst this;exact h)
  (fun i j P0 hj gE=>by show Qv l k _ (i:Int) (j:Int)=_;unfold Qv;rw [if_pos (by simpa using P0),zI9 (by omega) (by omega),AK gE,Aa];simp only [hc,Aa,zIg,zJo (show(i+j)/2≤2000000 by omega)];cases bl l[(i+j)/2].af k<;>rfl)
  (fun i hi=>by show Qv l k _ (i:Int) (i:Int)=_;unfold Qv;rw [if_neg (by simp)])
 rw [h];unfold kU;show Option.bind (if decide (((GP l k:Nat):Int)<l.length)=true then _ else _) _=_;by_cases hp:GP l k<l.length
 ·rw [if_pos (by simpa using hp),AK hp,Aa];simp only [hc,Aa,zH4,List.getElem?_eq_getElem hp]
 ·rw [if_neg (by simpa using hp),List.getElem?_eq_none (by omega)];rfl
theorem pM {l:List Ab} {w:Ab} (hl:l.length≤2000000) (hr:DI l):Pa l w=some (BM (fun w:Ab=>w.af) w l):=by
 unfold Pa;rw [zQ hl hr,Aa,uP hr];show(if(match l[GP l w.af]? with|some w'=>decide (w'.af=w.af)|none=>false)=true then _ else _)=_;have hle:GP l w.af≤l.length:=Su _ _;have hI:cJ l ((GP l w.af:Nat):Int) [w]=some (l.take (GP l w.af)++ [w]++l.drop (GP l w.af)):=AN ⟨by omega,by omega,by simp,by simp only [AF];omega⟩;by_cases hp:GP l w.af<l.length
 ·rw [List.getElem?_eq_getElem hp];by_cases hk:(l[GP l w.af]).af=w.af
  ·simp only [hk,decide_true,if_true,AK hp,Aa];rfl
  ·simp only [hk,decide_false,AM,if_false];rw [hI];rfl
 ·rw [List.getElem?_eq_none (by omega)];simp only [AM,if_false];rw [hI];rfl
theorem pB (ks:List Af):KJ ks=IB bl ks:=by
 have key: ∀n q,q+n+1=ks.length→(List.range' (q+1) n).all (I5 ks)=IB bl (ks.drop q):=by
  intro n
  induction n with
  |zero=>intro q hq;rw [List.drop_eq_getElem_cons (show q<ks.length by omega),List.drop_eq_nil_of_le (show ks.length≤q+1 by omega)];rfl
  |succ n ih=>intro q hq;rw [List.range'_succ,List.all_cons,ih (q+1) (by omega),zz8 (show q+1<ks.length by omega)];congr 1;unfold I5;have hb:(q+1==0)=false:=rfl;rw [hb,Bool.false_or,Nat.add_sub_cancel,List.getElem?_eq_getElem (show q<ks.length by omega),List.getElem?_eq_getElem (show q+1<ks.length by omega)];rfl
 cases ks with
 |nil=>rfl
 |cons k l=>unfold KJ;rw [Ap,List.range_eq_range',List.range'_succ,List.all_cons];have:=key l.length 0 (by simp);rw [List.drop_zero]at this;rw [Nat.zero_add]at this;rw [show 0+1=1 from rfl,this];rfl
theorem aS {α β:Type} (f:α→β) (r:β→β→Bool): ∀l:List α,IB r (l.map f)=IB (fun a b=>r (f a) (f b)) l
 | []=>rfl
 | [_]=>rfl
 |x::y::l=>by have:=aS f r (y::l);simp only [List.map_cons,IB]at this ⊢;rw [this]
theorem zsI {l:List Ab} (h:J5 l=true):DI l:=by unfold J5 at h;simp only [Ae]at h;have h1:=h.2.2;rw [pB,aS]at h1;exact(bT (r:=fun a b:Ab=>bl a.af b.af) fun a b c p q=>FZ p q).1 h1
theorem rL {t:Ad} (h:Be t=true):E3 (fun x:Au=>x.ab) t.ah:=by
 unfold Be at h;simp only [Ae]at h;have h1:=h.2;have h2:KJ (t.ah.map (·.ab))=true:=by
  unfold KJ;rw [List.length_map,AR];intro i hi;have h3:=AR.1 h1 i hi;unfold IJ at h3;simp only [Ae]at h3;have Bt:i<t.ah.length:=List.mem_range.1 hi;have e: ∀j:Nat,(((t.ah.map (·.ab))[j]?).getD [])=((t.ah[j]?).getD ⟨[],0,0⟩).ab:=by intro j;rw [List.getElem?_map];cases t.ah[j]?<;>rfl
  unfold I5;rw [e,e];exact h3.2
 rw [pB,aS]at h2;exact(bT (r:=fun a b:Au=>bl a.ab b.ab) fun a b c p q=>FZ p q).1 h2
theorem sG {t:Ad} {x:Au} (h:Be t=true) (hx:x∈t.ah):EO t x.ab x:=by
 have h1:BS (fun y:Au=>y.ab==x.ab) t.ah≥0:=by have:=Sg (fun y:Au=>y.ab==x.ab) t.ah;rw [show(t.ah.any fun y=>y.ab==x.ab)=true from List.any_eq_true.2 ⟨x,hx,by simp⟩]at this;exact of_decide_eq_true this
 obtain⟨y,h2,h3,h4⟩:=vT h1;have h5:y=x:=(rL h).gf h4 hx (by simpa using h3);subst h5;have h6:=CN.1 (FY h hx).2;exact⟨h2,rfl,h6.1,h6.2⟩
theorem J6 {t:Ad} (h:Be t=true):2≤t.aq.length∧t.aq.length≤4∧t.ah.length≤3:=by unfold Be at h;simp only [Ae,decide_eq_true_eq]at h;have h1:=CN.1 h.1.1.2.2;have h2:=h.1.2;omega
theorem Nz {t:Ad} {r:AL} (hs:Small r.ar) (h:Bo t r=true):KS t r:=by unfold Bo at h;simp only [Ae,beq_iff_eq]at h;exact⟨by have:=h.1;omega,hs⟩
theorem dH {t:Ad} {r:AL} (hc:1≤t.aq.length) (h:KS t r):Am r.ar 0=some (C3 r 0):=(Wt h (by omega) (by omega)).1
theorem PE {t:Ad} {r:AL} (hc:1≤t.aq.length) (h:KS t r):r.ar≠ []:=by intro e;have:=h.len;rw [e]at this;simp at this;omega
def EN (a:Bf):Prop:=Small a.bg.ar∧Small a.bm.ar
def Hu (t:Ad) (a:Bf):Bool:=
 if a.aj=1 then(a.bg.ar.length:Int)==0&&Bo t a.bm else
 if a.aj=2 then Bo t a.bg&&(a.bm.ar.length:Int)==0 else
 if a.aj=3 then Bo t a.bg&&(Bo t a.bm&&C3 a.bg 0==C3 a.bm 0)else false
theorem pX {t:Ad} {a:Bf} (hc:1≤t.aq.length) (h:EN a):Vc t a=some (Hu t a):=by
 unfold Vc Hu;by_cases h1:a.aj=1
 ·rw [if_pos (by simpa using h1),if_pos h1,VS h.2,Aa];cases((a.bg.ar.length:Int)==0)<;>simp
 rw [if_neg (by simpa using h1),if_neg h1];by_cases h2:a.aj=2
 ·rw [if_pos (by simpa using h2),if_pos h2,VS h.1,Aa];cases((a.bm.ar.length:Int)==0)<;>simp
 rw [if_neg (by simpa using h2),if_neg h2];by_cases h3:a.aj=3
 ·rw [if_pos (by simpa using h3),if_pos h3,VS h.1,VS h.2,Aa,Aa];cases e1:Bo t a.bg with
  |false=>simp
  |true=>
   cases e2:Bo t a.bm with
   |false=>simp
   |true=>simp [dH hc (Nz h.1 e1),dH hc (Nz h.2 e2)]
 rw [if_neg (by simpa using h3),if_neg h3]
theorem zBn {t:Ad} {a:Bf} (hc:1≤t.aq.length) (h:EN a):Yd t a=some (Hu t a):=by
 unfold Yd Hu;by_cases h1:a.aj=1
 ·rw [if_pos (by simpa using h1),if_pos h1,VO h.2,Aa];cases((a.bg.ar.length:Int)==0)<;>simp
 rw [if_neg (by simpa using h1),if_neg h1];by_cases h2:a.aj=2
 ·rw [if_pos (by simpa using h2),if_pos h2,VO h.1,Aa]
 rw [if_neg (by simpa using h2),if_neg h2];by_cases h3:a.aj=3
 ·rw [if_pos (by simpa using h3),if_pos h3,VO h.1,VO h.2,Aa,Aa];cases e1:Bo t a.bg with
  |false=>simp
  |true=>
   cases e2:Bo t a.bm with
   |false=>simp
   |true=>simp [dH hc (Nz h.1 e1),dH hc (Nz h.2 e2)]
 rw [if_neg (by simpa using h3),if_neg h3]
structure Ul (t:Ad) (a:Bf):Prop where
 old:a.aj≠1→KS t a.bg
 new:a.aj≠2→KS t a.bm
 kind:a.aj=1∨a.aj=2∨a.aj=3
 same:a.aj=3→C3 a.bg 0=C3 a.bm 0
theorem yE {t:Ad} {a:Bf} (h:EN a) (hg:Hu t a=true):Ul t a:=by
 unfold Hu at hg;by_cases h1:a.aj=1
 ·rw [if_pos h1,Ae]at hg;exact⟨fun k=>absurd h1 k,fun _=>Nz h.2 hg.2, .inl h1,fun k=>by omega⟩
 rw [if_neg h1]at hg;by_cases h2:a.aj=2
 ·rw [if_pos h2,Ae]at hg;exact⟨fun _=>Nz h.1 hg.1,fun k=>absurd h2 k, .inr (.inl h2),fun k=>by omega⟩
 rw [if_neg h2]at hg;by_cases h3:a.aj=3
 ·rw [if_pos h3,Ae,Ae,beq_iff_eq]at hg;exact⟨fun _=>Nz h.1 hg.1,fun _=>Nz h.2 hg.2.1, .inr (.inr h3),fun _=>hg.2.2⟩
 rw [if_neg h3]at hg;cases hg
def ER (t:Ad) (a:Bf) (x:Au):Af:=if a.aj=1 then []else BJ t x.ab x.bh a.bg
def DX (t:Ad) (a:Bf) (x:Au):Af:=if a.aj=2 then []else BJ t x.ab x.bh a.bm
def KP (k n:Af) (x:Au):List Ax:=if k≠ []∧k≠n∧x.ao≥1 then [⟨3,k, [],0⟩]else []
def Jd (n:Af) (x:Au):List Ax:=if n≠ []∧x.ao≥2 then [⟨2,n, [],0⟩]else []
def GO (t:Ad) (a:Bf) (x:Au):List Ax:=KP (ER t a x) (DX t a x) x++Jd (DX t a x) x
def KH (t:Ad) (a:Bf):List Ax:=
 if a.aj=1 then [⟨6,(AZ t a.bm).af, [],0⟩,⟨2,(AZ t a.bm).af,(AZ t a.bm).ay,0⟩]else
 if a.aj=2 then [⟨7,(AZ t a.bg).af,(AZ t a.bg).ay,0⟩,⟨3,(AZ t a.bg).af, [],0⟩]else
 [⟨7,(AZ t a.bg).af,(AZ t a.bg).ay,0⟩,⟨2,(AZ t a.bg).af,(AZ t a.bm).ay,0⟩]
def DV (t:Ad) (a:Bf):List Ax:=t.ah.foldl (fun o x=>o++GO t a x) (KH t a)
theorem zFN (k n:Af) (x:Au):(KP k n x).length≤1:=by unfold KP;split<;>simp
theorem zIq (n:Af) (x:Au):(Jd n x).length≤1:=by unfold Jd;split<;>simp
theorem pO (t:Ad) (a:Bf) (x:Au):(GO t a x).length≤2:=by unfold GO;have:=zFN (ER t a x) (DX t a x) x;have:=zIq (DX t a x) x;rw [As];omega
theorem pA (t:Ad) (a:Bf):(KH t a).length=2:=by unfold KH;split<;>(try split)<;>rfl
theorem dC {o p:List Ax} (h:o.length≤5000000) (hn:p.length≤5000000):((o.length:Int)+(p.length:Int))*48≤140737488355328∧(o.length:Int)+(p.length:Int)≤140737488355328:=by omega
theorem zDu {t:Ad} {a:Bf} {x:Au} (ht:t.ab.length≤2000000) (hn:x.ab.length≤2000000) (hx:EO t x.ab x) (ha:Ul t a):Vs t x a=some (GO t a x):=by
 have e1:Vs t x a=YH t x a (ER t a x):=by
  unfold Vs ER;by_cases h1:a.aj=1
  ·rw [if_neg (by simp [h1]),if_pos h1];rfl
  ·rw [if_pos (by simpa using h1),if_neg h1,cP ht hn hx (ha.old h1)];rfl
 have e2: ∀k,YH t x a k=U8 x k (DX t a x):=by
  intro k;unfold YH DX;by_cases h1:a.aj=2
  ·rw [if_neg (by simp [h1]),if_pos h1]
  ·rw [if_pos (by simpa using h1),if_neg h1,cP ht hn hx (ha.new h1)];rfl
 have e3: ∀(n:Af) (o:List Ax),o.length≤5→YI x n o=some (o++Jd n x):=by
  intro n o ho;unfold YI Jd;by_cases h1:n≠ []∧x.ao≥2
  ·rw [if_pos (by simpa using h1),if_pos h1,AN (dC (by omega) (by simp))]
  ·rw [if_neg (by simpa using h1),if_neg h1,List.append_nil]
 have e4: ∀(k n:Af),U8 x k n=some (KP k n x++Jd n x):=by
  intro k n;unfold U8 KP;by_cases h1:k≠ []∧k≠n∧x.ao≥1
  ·rw [if_pos (by simpa [and_assoc]using h1),if_pos h1,AN (dC (by simp) (by simp)),e3 _ _ (by simp)]
  ·rw [if_neg (by simpa [and_assoc]using h1),if_neg h1,e3 _ _ (by simp)]
 rw [e1,e2,e4];rfl
theorem zB6 {t:Ad} {a:Bf} (hc:1≤t.aq.length) (ht:t.ab.length≤2000000) (ha:Ul t a):Zp t a=some (KH t a):=by
 unfold Zp KH;by_cases h1:a.aj=1
 ·have hr:=ha.new (by omega);rw [if_pos (by simpa using h1),if_pos h1,Pt ht hr.small (PE hc hr)];rfl
 have hr:=ha.old h1;rw [if_neg (by simpa using h1),if_neg h1,Pt ht hr.small (PE hc hr),Aa];by_cases h2:a.aj=2
 ·rw [if_pos (by simpa using h2),if_pos h2]
 have hr:=ha.new h2;rw [if_neg (by simpa using h2),if_neg h2,Pt ht hr.small (PE hc hr)];rfl
theorem yW {t:Ad} {a:Bf} (hS:Du t) (hg:Be t=true) (ha:Ul t a):aA t a=some (DV t a):=by
 have hc:=J6 hg;unfold aA;rw [zB6 (by omega) hS.name ha,Aa];have hl:=pA t a;exact(Fw (xs:=t.ah) (body:=fun s:Int × List Ax=>RB t a s.1 s.2) (fun i (o:List Ax)=>(i,o)) (fun o x=>o++GO t a x) (fun o=>some o) (fun i o=>o.length≤2+2*i)
  (fun i hi o hI=>by have hI:o.length≤2+2*i:=hI;have hw:=AX hi (by omega);have hk:=pO t a t.ah[i];have hm:=List.getElem_mem hi;refine⟨?_,by show List.length _≤_;rw [As];omega⟩;show RB t a i o=_;unfold RB;rw [if_pos (by simpa using hi),AK hi,Aa,zDu hS.name (hS.idx _ hm) (sG hg hm) ha,Aa,AN (dC (by omega) (by omega)),hw])
  (fun o _=>by show RB t a t.ah.length o=_;unfold RB;rw [if_neg (by simp)]) (s:=KH t a) (by omega)).1
theorem NL {k:Int} {w:Ab} {o:List Ax} (h:o.length≤5000000):Kv k w o=some ((),o++ [⟨k,w.af,w.ay,0⟩]):=by unfold Kv;rw [AN (dC h (by simp))]
theorem zJB {t:Ad} {a:Bf} (hS:Du t) (hg:Be t=true) (ha:Ul t a):Yk t a=some (DV t a):=by
 have hc:=J6 hg;have hl:=pA t a;have h7: ∀(i:Int) (x:Au) (n:Af) (o:List Ax),o.length≤100→QC i x n o=some (.inl (IntKind.i64.wrap (i+1),o++Jd n x)):=by
  intro i x n o ho;unfold QC Jd M9;by_cases h1:n= []
  ·rw [if_neg (by simp [h1]),if_neg (by simp [h1]),List.append_nil]
  rw [if_pos (by simpa using h1),Aa];by_cases h2:x.ao≥2
  ·rw [if_pos (by simpa using h2),if_pos ⟨h1,h2⟩,NL (by omega)];rfl
  ·rw [if_neg (by simpa using h2),if_neg (fun h=>h2 h.2),List.append_nil]
 have h6: ∀(i:Int) (x:Au) (k n:Af) (o:List Ax),o.length≤99→OW i o x k n=some (.inl (IntKind.i64.wrap (i+1),o++(KP k n x++Jd n x))):=by
  intro i x k n o ho;unfold OW KP nV;by_cases h1:k= []
  ·rw [if_neg (by simp [h1]),if_neg (by simp [h1]),h7 _ _ _ _ (by omega)];rfl
  rw [if_pos (by simpa using h1)];by_cases h2:k=n
  ·rw [if_neg (by simp [h2]),if_neg (by simp [h2]),h7 _ _ _ _ (by omega)];rfl
  rw [if_pos (by simpa using h2),Aa];by_cases h3:x.ao≥1
  ·rw [if_pos (by simpa using h3),if_pos ⟨h1,h2,h3⟩,NL (by omega),Aa,h7 _ _ _ _ (by rw [As,AF];omega),List.append_assoc]
  ·rw [if_neg (by simpa using h3),if_neg (fun h=>h3 h.2.2),h7 _ _ _ _ (by omega)];rfl
 have JC: ∀o:List Ax,o.length=2→QI t a o=some (t.ah.foldl (fun o x=>o++GO t a x) o):=by
  intro o ho;unfold QI;exact(Fw (xs:=t.ah) (body:=fun s:Int × List Ax=>QB t a s.1 s.2) (fun i (o:List Ax)=>(i,o)) (fun o x=>o++GO t a x) (fun o=>some o) (fun i o=>o.length≤2+2*i)
   (fun i hi o hI=>by
    have hI:o.length≤2+2*i:=hI;have hw:=AX hi (by omega);have hk:=pO t a t.ah[i];have hm:=List.getElem_mem hi;have hx:=sG hg hm;refine⟨?_,by show List.length _≤_;rw [As];omega⟩;show QB t a i o=_;unfold QB;rw [if_pos (by simpa using hi),AK hi,Aa];have e1:(if(a.aj !=1)=true then(Lu t t.ah[i].ab a.bg).bind fun v20=>some (Sum.inl v20)else some (Sum.inl ([]:Ac)):Option (Ac ⊕ Option ((Int × List Ax) ⊕ Option (List Ax))))=some (.inl (ER t a t.ah[i])):=by
     unfold ER;by_cases h1:a.aj=1
     ·rw [if_neg (by simp [h1]),if_pos h1]
     ·rw [if_pos (by simpa using h1),if_neg h1,cK hS (hS.idx _ hm) hx (ha.old h1)];rfl
    rw [e1];show lC t a i o t.ah[i] (ER t a t.ah[i])=_;unfold lC;have e2: ∀k,(if(a.aj !=2)=true then(Lu t t.ah[i].ab a.bm).bind fun v19=>OW i o t.ah[i] k v19 else OW i o t.ah[i] k ([]:Ac))=OW i o t.ah[i] k (DX t a t.ah[i]):=by
     intro k;unfold DX;by_cases h1:a.aj=2
     ·rw [if_neg (by simp [h1]),if_pos h1]
     ·rw [if_pos (by simpa using h1),if_neg h1,cK hS (hS.idx _ hm) hx (ha.new h1)];rfl
    rw [e2,h6 _ _ _ _ _ (by omega),hw];rfl)
   (fun o _=>by show QB t a t.ah.length o=_;unfold QB;rw [if_neg (by simp)]) (s:=o) (by omega)).1
 have hn:t.ab.length≤2000000:=hS.name;unfold Yk DV KH;rcases ha.kind with h1|h1|h1
 ·have hr:=ha.new (by omega);rw [if_neg (by simp [h1]),if_pos h1];show OV t a [] [] false []=_;unfold OV;rw [if_pos (by simp [h1]),Py hn hr.small (PE (by omega) hr),Aa];unfold UB;rw [if_pos (by simp [h1]),NL (by simp),Aa,NL (by simp),Aa,JC _ (by simp)];rfl
 ·have hr:=ha.old (by omega);rw [if_pos (by simp [h1]),if_neg (by omega),if_pos h1,Py hn hr.small (PE (by omega) hr),Aa,NL (by simp),Aa];show OV t a (AZ t a.bg).af (AZ t a.bg).ay (AZ t a.bg).bf _=_;unfold OV;rw [if_neg (by simp [h1])];unfold UB;rw [if_neg (by simp [h1]),if_pos (by simp [h1]),NL (by simp),Aa,JC _ (by simp)];rfl
 ·have hr:=ha.old (by omega);have C5:=ha.new (by omega);have hk:(AZ t a.bg).af=(AZ t a.bm).af:=by
   have:=ha.same h1;unfold C3 at this;unfold AZ;rw [List.head?_eq_getElem?,List.head?_eq_getElem?];exact congrArg (fun z=>t.ab++ [47]++z) this
  rw [if_pos (by simp [h1]),if_neg (by omega),if_neg (by omega),Py hn hr.small (PE (by omega) hr),Aa,NL (by simp),Aa];show OV t a (AZ t a.bg).af (AZ t a.bg).ay (AZ t a.bg).bf _=_;unfold OV;rw [if_pos (by simp [h1]),Py hn C5.small (PE (by omega) C5),Aa];unfold UB;rw [if_neg (by simp [h1]),if_neg (by simp [h1]),if_pos (by simp [h1]),NL (by simp),Aa,JC _ (by simp),hk];rfl
abbrev wk (w:Ab):Af:=w.af
theorem bR {α β:Type} {xs:List α} {body:Int→Option (Int ⊕ Option β)} (p:α→Bool) (hit:α→Option β) (fin:Option β)
  (hs: ∀(i:Nat) (hi:i<xs.length),body i=some (if p xs[i]=true then .inr (hit xs[i])else .inl ((i+1:Nat):Int))) (he:body xs.length=some (.inr fin)):
  At body 0=match xs.find? p with|some x=>hit x|none=>fin:=by
 have key: ∀n q,q+n=xs.length→At body (q:Nat)=match(xs.drop q).find? p with|some x=>hit x|none=>fin:=by
  intro n
  induction n with
  |zero=>
   intro q hq;have:q=xs.length:=by omega
   subst this;rw [List.drop_length];exact Db he
  |succ n ih=>
   intro q hq;have An:q<xs.length:=by omega
   rw [List.drop_eq_getElem_cons An,List.find?_cons];have h1:=hs q An;cases hp:p xs[q]with
   |true=>rw [hp,if_pos rfl]at h1;exact Db h1
   |false=>rw [hp,if_neg (by simp)]at h1;rw [Dx h1];exact ih (q+1) (by omega)
 have:=key xs.length 0 (by omega);rw [List.drop_zero]at this;exact this
def NK (got:List zip) (k:Af):Af × Bool × Bool:=match got.find? (fun g=>g.af==k)with|some g=>(g.ay,g.dh,true)|none=>([],false,false)
def De (ws:List Ab) (got:List zip) (k:Af):Af × Bool × Bool:=match ws.find? (fun w=>w.af==k)with|some w=>(w.ay, !w.bf,true)|none=>NK got k
def Dd (rows:List Ab) (k:Af):zip:=match rows.find? (fun w=>w.af==k)with|some w=>⟨k,w.ay,true⟩|none=>⟨k, [],false⟩
theorem qQ {ws:List Ab} {got:List zip} {k:Af} (hw:ws.length≤2000000) (hg:got.length≤2000000):Zw ws got k=some (De ws got k):=by
 have h2:Yu got k=some (NK got k):=by
  unfold Yu NK;rw [bR (xs:=got) (body:=fun s:Int=>Rm got k s) (fun g=>g.af==k) (fun g=>some (g.ay,g.dh,true)) (some ([],false,false)) (fun i hi=>by
   show Rm got k i=_;unfold Rm;rw [if_pos (by simpa using hi),AK hi,Aa,AX hi (by omega)];split<;>rfl) (by
   show Rm got k got.length=_;unfold Rm;rw [if_neg (by simp)])]
  cases got.find? (fun g=>g.af==k)<;>rfl
 unfold Zw De;rw [bR (xs:=ws) (body:=fun s:Int=>Rl ws got k s) (fun w=>w.af==k) (fun w=>some (w.ay, !w.bf,true)) (Yu got k) (fun i hi=>by
  show Rl ws got k i=_;unfold Rl;rw [if_pos (by simpa using hi),AK hi,Aa,AX hi (by omega)];split<;>rfl) (by
  show Rl ws got k ws.length=_;unfold Rl;rw [if_neg (by simp)]),h2]
 cases ws.find? (fun w=>w.af==k)<;>rfl
theorem zHy {rows:List Ab} {k:Af} (hw:rows.length≤2000000):Z8 rows k=some (Dd rows k):=by
 unfold Z8 Dd;rw [bR (xs:=rows) (body:=fun s:Int=>Rx rows k s) (fun w=>w.af==k) (fun w=>some ⟨k,w.ay,true⟩) (zmS k) (fun i hi=>by
  show Rx rows k i=_;unfold Rx;rw [if_pos (by simpa using hi),AK hi,Aa,AX hi (by omega)];split<;>rfl) (by
  show Rx rows k rows.length=_;unfold Rx;rw [if_neg (by simp)])]
 cases rows.find? (fun w=>w.af==k)<;>rfl
theorem cE {α:Type} (lt:α→Bool) (x:α) (l:List α):B2 lt (x::l)=if lt x=true then B2 lt l+1 else 0:=by unfold B2;rw [List.takeWhile_cons];split<;>rfl
theorem bW {x:Ab} {l:List Ab} (h:DI (x::l)):(∀y∈l,bl x.af y.af=true)∧DI l:=by unfold DI E3 at h;rw [List.pairwise_cons]at h;exact h
theorem zDh {l:List Ab} {k:Af} (h: ∀y∈l,bl k y.af=true):l.find? (fun w=>w.af==k)=none:=by rw [List.find?_eq_none];intro y hy;have:=F0 (h y hy);simpa using fun e=>this e.symm
theorem zvq {k:Af}: ∀{l:List Ab},DI l→l.find? (fun w=>w.af==k)=match l[GP l k]? with|some w=>if w.af=k then some w else none|none=>none
 | [],_=>by simp
 |x::l,h=>by
  obtain⟨h1,h2⟩:=bW h;have ih:=zvq (k:=k) h2;rw [GP,cE,List.find?_cons];by_cases hb:bl x.af k=true
  ·have Bl:(x.af==k)=false:=by simpa using F0 hb
   rw [if_pos hb,Bl,List.getElem?_cons_succ];exact ih
  ·rw [if_neg hb,List.getElem?_cons_zero];by_cases he:x.af=k
   ·rw [show(x.af==k)=true by simpa using he];simp [he]
   ·rw [show(x.af==k)=false by simpa using he];simp only [he,if_false];have hk:bl k x.af=true:=VU (by simpa using hb) he;exact zDh fun y hy=>FZ hk (h1 y hy)
theorem xC {l:List Ab} {k:Af} (hl:l.length≤2000000) (hr:DI l): ∃i:Int,(M7 l k=some (i,true)∧ ∃w,Am l i=some w∧l.find? (fun w=>w.af==k)=some w)∨(M7 l k=some (i,false)∧l.find? (fun w=>w.af==k)=none):=by
 refine⟨(GP l k:Nat), ?_⟩;rw [zQ hl hr,zvq hr];by_cases hp:GP l k<l.length
 ·rw [List.getElem?_eq_getElem hp];by_cases hk:(l[GP l k]).af=k
  ·left;simp only [hk,decide_true,if_true];exact⟨trivial,_,AK hp,rfl⟩
  ·right;simp only [hk,decide_false,if_false];exact⟨trivial,trivial⟩
 ·rw [List.getElem?_eq_none (by omega)];right;exact⟨rfl,rfl⟩
theorem zBq {ws:List Ab} {got:List zip} {k:Af} (hw:ws.length≤2000000) (hg:got.length≤2000000) (hr:DI ws):Zu k ws got=some (De ws got k):=by
 unfold Zu De;obtain⟨i,⟨e,w,e2,e3⟩|⟨e,e3⟩⟩:=xC (k:=k) hw hr
 ·rw [e,e3,Aa,if_pos rfl,e2];rfl
 ·rw [e,e3,Aa,if_neg (by simp)];unfold NK;rw [bR (xs:=got) (body:=fun s:Int=>Ra k got s) (fun g=>g.af==k) (fun g=>some (g.ay,g.dh,true)) (some ([],false,false)) (fun i hi=>by
   show Ra k got i=_;unfold Ra;rw [if_pos (by simpa using hi),AK hi,Aa,AX hi (by omega)];split<;>rfl) (by
   show Ra k got got.length=_;unfold Ra;rw [if_neg (by simp)])]
  cases got.find? (fun g=>g.af==k)<;>rfl
theorem zGg {rows:List Ab} {k:Af} (hw:rows.length≤2000000) (hr:DI rows):aK rows k=some (Dd rows k):=by
 unfold aK Dd;obtain⟨i,⟨e,w,e2,e3⟩|⟨e,e3⟩⟩:=xC (k:=k) hw hr
 ·rw [e,e3,Aa,if_neg (by simp),e2];rfl
 ·rw [e,e3,Aa,if_pos (by simp)]
def Eg (k:Af) (w:Ab):Bool:=bl w.af k||w.af==k
def MS (l:List Ab) (w:Ab) (q:Nat):List Ab:=
 match(if q=0 then none else l[q-1]?)with
 |some y=>if y.af=w.af then l.set (q-1) w else l.take q++ [w]++l.drop q
 |none=>l.take q++ [w]++l.drop q
theorem zDO {w:Af} {l:List Ab} (h: ∀y∈l,bl w y.af=true):B2 (Eg w) l=0:=by
 cases l with
 |nil=>rfl
 |cons y l=>rw [cE,if_neg];have h1:=h y (by simp);have h2:=cH h1;have h3:=F0 h1;unfold Eg;rw [h2];simpa using fun e=>h3 e.symm
theorem wD {w:Ab}: ∀{l:List Ab},DI l→MS l w (B2 (Eg w.af) l)=BM wk w l
 | [],_=>by simp [MS,BM,B2]
 |x::l,h=>by
  obtain⟨h1,h2⟩:=bW h;have ih:=wD (w:=w) h2;rw [cE,BM];by_cases ha:bl (wk w) (wk x)=true
  ·have hl:Eg w.af x=false:=by
    have h3:=cH ha;have h4:=F0 ha;unfold Eg;rw [h3];simpa using fun e=>h4 e.symm
   rw [if_pos ha,hl,if_neg (by simp)];simp [MS]
  rw [if_neg ha];by_cases he:wk w=wk x
  ·have hl:Eg w.af x=true:=by unfold Eg;rw [show(x.af==w.af)=true by simpa using he.symm];simp
   have hz:B2 (Eg w.af) l=0:=zDO fun y hy=>by rw [show w.af=x.af from he];exact h1 y hy
   rw [if_pos he,hl,if_pos rfl,hz];simp [MS,show x.af=w.af from he.symm]
  ·have hb:bl x.af w.af=true:=VU (by simpa using ha) he;have hl:Eg w.af x=true:=by unfold Eg;rw [hb];rfl
   rw [if_neg he,hl,if_pos rfl,←ih];have hle:=Su (Eg w.af) l;generalize B2 (Eg w.af) l=q at hle;unfold MS;rw [if_neg (by omega),Nat.add_sub_cancel];cases q with
   |zero=>simp only [List.getElem?_cons_zero,if_true];rw [if_neg (fun e=>he e.symm)];simp
   |succ q=>
    rw [if_neg (by omega),Nat.add_sub_cancel,List.getElem?_cons_succ,List.getElem?_eq_getElem (by omega)];simp only;split
    ·simp
    ·simp
theorem xJ {w:Af}: ∀{l:List Ab},DI l→ ∀(j:Nat) (hj:j<l.length),B2 (Eg w) l≤j→Eg w l[j]=false
 | [],_,j,hj,_=>by simp at hj
 |x::l,h,j,hj,hq=>by
  obtain⟨h1,h2⟩:=bW h;rw [cE]at hq;by_cases hx:Eg w x=true
  ·rw [if_pos hx]at hq;cases j with
   |zero=>omega
   |succ j=>exact xJ h2 j (by simpa using hj) (by omega)
  ·have C6:Eg w x=false:=by simpa using hx
   cases j with
   |zero=>exact C6
   |succ j=>have hm:l[j]'(by simpa using hj)∈l:=List.getElem_mem _;have h3:=h1 _ hm;show Eg w (l[j]'(by simpa using hj))=false;unfold Eg at C6 ⊢;simp only [Bool.or_eq_false_iff,beq_eq_false_iff_ne]at C6 ⊢;have h4:bl w x.af=true:=VU C6.1 C6.2;have h5:=FZ h4 h3;exact⟨cH h5,fun e=>F0 h5 e.symm⟩
theorem jA {i:Nat} (h0:0<i) (h:i≤2000000):IntKind.i64.wrap ((i:Int)-1)=((i-1:Nat):Int):=by rw [A9 (by omega) (by omega)];omega
theorem iW {l:List Ab} {w:Ab} (hl:l.length≤2000000) (hr:DI l):Nd l w=some (BM wk w l):=by
 have hk: ∀q:Nat,q≤l.length→YL l w (q:Int)=some (MS l w q):=by
  intro q hq;have r1:0≤(q:Int)∧(q:Int)≤(l.length:Int)∧(l.length:Int)≤(l.length:Int):=by omega
  have JS:(By l (q:Int) (l.length:Int))=l.drop q:=by rw [show(l.length:Int)=((l.length:Nat):Int)from rfl,OQ,List.take_length]
  have IU:(By l 0 (q:Int))=l.take q:=ON l q;have r2:((([]:List Ab).length:Int)+((l.drop q).length:Int))*40≤140737488355328∧(([]:List Ab).length:Int)+((l.drop q).length:Int)≤140737488355328:=by rw [List.length_nil,List.length_drop];omega
  have r3:0≤(0:Int)∧(0:Int)≤(q:Int)∧(q:Int)≤(l.length:Int):=by omega
  have r4:((([]:List Ab).length:Int)+((l.take q).length:Int))*40≤140737488355328∧(([]:List Ab).length:Int)+((l.take q).length:Int)≤140737488355328:=by rw [List.length_nil,List.length_take];omega
  have r5:(((l.take q).length:Int)+(([w]:List Ab).length:Int))*40≤140737488355328∧((l.take q).length:Int)+(([w]:List Ab).length:Int)≤140737488355328:=by rw [AF,List.length_take];omega
  have r6:(((l.take q++ [w]).length:Int)+((l.drop q).length:Int))*40≤140737488355328∧((l.take q++ [w]).length:Int)+((l.drop q).length:Int)≤140737488355328:=by rw [As,AF,List.length_take,List.length_drop];omega
  have r7:((([]:List Ab).length:Int)+((l).length:Int))*40≤140737488355328∧(([]:List Ab).length:Int)+((l).length:Int)≤140737488355328:=by rw [List.length_nil];omega
  unfold YL MS;by_cases h0:q=0
  ·subst h0;rw [if_neg (by simp),if_pos rfl];rw [AN r1,JS,AN r2,AN r3,IU,AN r4,AN r5,AN r6]
  ·have GF:q-1<l.length:=by omega
   rw [if_pos (by simp;omega),if_neg h0,jA (by omega) (by omega),AK GF,Aa,List.getElem?_eq_getElem GF];simp only;by_cases he:(l[q-1]).af=w.af
   ·rw [if_pos (by simpa using he),if_pos he,AN r7,Aa];rfl
   ·rw [if_neg (by simpa using he),if_neg he];rw [AN r1,JS,AN r2,AN r3,IU,AN r4,AN r5,AN r6]
 have hle:=Su (Eg w.af) l;have key: ∀n j:Nat,j=B2 (Eg w.af) l+n→j≤l.length→At (fun s:Int=>O7 l w s) (j:Int)=some (MS l w (B2 (Eg w.af) l)):=by
  intro n
  induction n with
  |zero=>
   intro j hj fR;have P1:j=B2 (Eg w.af) l:=by omega
   refine(Db ?_).trans (hk _ hle);show O7 l w (j:Int)=_;unfold O7;by_cases h0:j=0
   ·rw [if_neg (by simp [h0]),P1]
   ·have GF:j-1<l.length:=by omega
    have ht:=sN (lt:=Eg w.af) (l:=l) (i:=j-1) (by omega);rw [if_pos (by simp;omega),jA (by omega) (by omega),AK GF,Aa,if_neg,P1];unfold Eg at ht;have ht:(bl l[j-1].af w.af||l[j-1].af==w.af)=true:=ht;show¬(!(bl l[j-1].af w.af||l[j-1].af==w.af))=true;rw [ht];simp
  |succ n ih=>
   intro j hj fR;have GF:j-1<l.length:=by omega
   have ht:=xJ (w:=w.af) hr (j-1) GF (by omega);have e:O7 l w (j:Int)=some (.inl ((j-1:Nat):Int)):=by unfold O7;rw [if_pos (by simp;omega),jA (by omega) (by omega),AK GF,Aa,if_pos];have ht:(bl l[j-1].af w.af||l[j-1].af==w.af)=false:=ht;show(!(bl l[j-1].af w.af||l[j-1].af==w.af))=true;rw [ht];rfl
   rw [Dx (body:=fun s:Int=>O7 l w s) e];exact ih (j-1) (by omega) (by omega)
 unfold Nd;rw [key (l.length-B2 (Eg w.af) l) l.length (by omega) (Nat.le_refl _),wD hr]
structure F3 (o:Ax):Prop where
 key:Ao o.af=true
 val:Gs o.ay=true
 nk:o.jq=0
 kind:o.aj=2∨o.aj=3∨o.aj=6∨o.aj=7
 none:o.aj=3∨o.aj=6→o.ay= []
theorem zxR {s:Af} (h:Gs s=true):s.length≤24:=by unfold Gs at h;simp only [Ae,decide_eq_true_eq]at h;omega
theorem bY {s:Af} (h:Ao s=true):s.length≤12:=by unfold Ao at h;simp only [Ae]at h;have:=CN.1 h.1;omega
theorem zyn (s:Af) (h:s.length≤2000000): ∃r,Vx s=some r:=by
 unfold Vx;rw [Jb,Aa];cases hb:BQ s.length 1 6 with
 |false=>exact⟨_,rfl⟩
 |true=>
  have h1:=CN.1 hb;obtain⟨x,e,_,_⟩:=LV (xs:=s) (i:=0) (by omega) (by omega);rw [if_pos rfl,e,Aa];split
  ·exact⟨_,rfl⟩
  ·have key: ∀(n q:Nat) (v:Int),q+n=s.length→ ∃r,At (fun s_:Int × Int=>Lw s s_.1 s_.2) (v,(q:Int))=some r:=by
    intro n
    induction n with
    |zero=>intro q v hq;refine⟨v,Db ?_⟩;show Lw s v q=_;unfold Lw;rw [if_neg (by simp;omega)]
    |succ n ih=>
     intro q v hq;have An:q<s.length:=by omega
     by_cases hd:((decide (((s[q]).toNat:Int)<48))||(decide (((s[q]).toNat:Int)>57)))=true
     ·refine⟨-1,Db ?_⟩;show Lw s v q=_;unfold Lw;rw [if_pos (by simpa using An),AK An,Aa,if_pos hd]
     ·have e:Lw s v q=some (.inl ((IntKind.i64.wrap ((IntKind.i64.wrap ((10:Int)*v))+(IntKind.i64.wrap (IntKind.u8.wrap (((s[q]).toNat:Int)-48))))),((q+1:Nat):Int))):=by
       unfold Lw;rw [if_pos (by simpa using An),AK An,Aa,if_neg hd,AX An (by omega)]
      obtain⟨r,hr⟩:=ih (q+1) _ (by omega);exact⟨r,(Dx (body:=fun s_:Int × Int=>Lw s s_.1 s_.2) e).trans hr⟩
   exact key s.length 0 0 (by omega)
theorem zFm (s:Af) (h:s.length≤2000000): ∃r,VD s=some r:=by
 have GB: ∀(y:UInt8) (v:Af),v.length≤2000000→ ∃r,Zy y v=some r:=by
  intro y v hv;obtain⟨r,e⟩:=zyn v hv;unfold Zy;rw [e,Aa];split
  ·exact⟨_,rfl⟩
  ·split<;>exact⟨_,rfl⟩
 unfold VD;by_cases h0:(s.length:Int)>0
 ·obtain⟨x,e,_,_⟩:=LV (xs:=s) (i:=0) (by omega) (by omega);rw [if_pos (by simpa using h0),e,Aa];split
  ·rw [AN (by omega)];exact GB _ _ (by rw [kS,List.length_tail];omega)
  ·exact GB _ _ h
 ·rw [if_neg (by simpa using h0)];unfold znb;obtain⟨r,e⟩:=zyn s h;rw [e,Aa];split<;>exact⟨_,rfl⟩
def Gx (o:Ax) (val:Af) (there:Bool):Bool:=if o.aj=6 then !there else there&&val==o.ay
def Dn (got:List zip):List Ax→List Ab→Int × Af × List Ab
 | [],ws=>(3, [],ws)
 |o::l,ws=>
  if o.aj=2 then Dn got l (BM wk ⟨o.af,o.ay,false⟩ ws)else
  if o.aj=3 then Dn got l (BM wk ⟨o.af, [],true⟩ ws)else
  if(De ws got o.af).2.2=true then(if Gx o (De ws got o.af).1 (De ws got o.af).2.1=true then Dn got l ws else(2, [], []))
  else(1,o.af, [])
structure Fk (n:Nat) (ws:List Ab):Prop where
 cu:DI ws
 len:ws.length≤n
 ca: ∀w∈ws,Dg w=true
theorem LP {n:Nat} {ws:List Ab} {w:Ab} (h:Fk n ws) (hw:Dg w=true):Fk (n+1) (BM wk w ws):=by
 refine⟨cB h.cu,Nat.le_trans (wO _) (by have:=h.len;omega),fun y hy=> ?_⟩;rcases(Wa (key:=wk) h.cu y).1 hy with rfl|hy
 ·exact hw
 ·exact h.ca y hy.1
theorem qU {o:Ax} (h:F3 o):Dg ⟨o.af,o.ay,false⟩=true:=by unfold Dg H6;simp [h.key,h.val]
theorem qD {o:Ax} (h:F3 o):Dg ⟨o.af, [],true⟩=true:=by unfold Dg H6;rw [h.key];rfl
theorem VV {w:Ab} (h:Dg w=true):w.ay.length≤24:=by unfold Dg H6 at h;simp only [Ae]at h;exact zxR h.2.1
theorem qW {w:Ab} (h:Dg w=true):w.af.length≤12:=by unfold Dg at h;simp only [Ae]at h;exact bY h.1
theorem zvN {ws:List Ab} {got:List zip} {k:Af} (hw: ∀w∈ws,Dg w=true) (hg: ∀g∈got,g.ay.length≤2000):(De ws got k).1.length≤2000:=by
 unfold De;cases e:ws.find? (fun w=>w.af==k)with
 |some w=>have:=VV (hw w (List.mem_of_find?_eq_some e));show w.ay.length≤2000;omega
 |none=>
  unfold NK;cases e2:got.find? (fun g=>g.af==k)with
  |some g=>exact hg g (List.mem_of_find?_eq_some e2)
  |none=>simp
theorem zEZ {o:Ax} (h:F3 o) (K9:o.aj≠2) (hk3:o.aj≠3) {val:Af} {there:Bool} (hv:val.length≤2000):YU o val there=some (Gx o val there):=by
 have e: ∃r,Vm val=some r:=by unfold Vm ZK;rw [AN (by omega)];exact⟨_,rfl⟩
 obtain⟨r,e⟩:=e;unfold YU Gx;rw [e,Aa];rcases h.kind with h1|h1|h1|h1
 ·exact absurd h1 K9
 ·exact absurd h1 hk3
 ·rw [h1];rfl
 ·rw [h1];rfl
theorem zFE {o:Ax} (h:F3 o) {val:Af} {there:Bool} (hv:val.length≤2000):ZL o val there=some (if o.aj=2∨o.aj=3 then false else !Gx o val there):=by
 obtain⟨r,e⟩:=zFm val (by omega);unfold ZL Gx;rw [e,Aa];rcases h.kind with h1|h1|h1|h1
 ·rw [h1];rfl
 ·rw [h1];rfl
 ·rw [h1];cases there<;>rfl
 ·rw [h1];show some (!there||val !=o.ay)=some (!(there&&val==o.ay));cases there<;>simp [bne]
theorem zIm {ops:List Ax} {got:List zip} (hl:ops.length≤1000) (ho: ∀o∈ops,F3 o) (hg:got.length≤2000) (hv: ∀g∈got,g.ay.length≤2000):nN ops got=some (Dn got ops []):=by
 have key: ∀(n q:Nat) (ws:List Ab),q+n=ops.length→Fk q ws→At (fun s:Int × List Ab=>Is ops got s.1 s.2) ((q:Int),ws)=some (Dn got (ops.drop q) ws):=by
  intro n
  induction n with
  |zero=>intro q ws hq hw;rw [List.drop_eq_nil_of_le (by omega),Dn];refine Db ?_;show Is ops got q ws=_;unfold Is;rw [if_neg (by simp;omega)]
  |succ n ih=>
   intro q ws hq hw;have An:q<ops.length:=by omega
   have Az:=ho _ (List.getElem_mem An);have T1:=hw.len;have FU:=AX An (by omega);rw [List.drop_eq_getElem_cons An,Dn];by_cases h2:(ops[q]).aj=2
   ·rw [if_pos h2];have e:Is ops got q ws=some (.inl (((q+1:Nat):Int),BM wk ⟨(ops[q]).af,(ops[q]).ay,false⟩ ws)):=by
     unfold Is;rw [if_pos (by simpa using An),AK An,Aa,if_pos (by simpa using h2),pM (by omega) hw.cu,Aa,FU]
    rw [Dx (body:=fun s:Int × List Ab=>Is ops got s.1 s.2) e];exact ih (q+1) _ (by omega) (LP hw (qU Az))
   rw [if_neg h2];by_cases h3:(ops[q]).aj=3
   ·rw [if_pos h3];have e:Is ops got q ws=some (.inl (((q+1:Nat):Int),BM wk ⟨(ops[q]).af, [],true⟩ ws)):=by
     unfold Is;rw [if_pos (by simpa using An),AK An,Aa,if_neg (by simpa using h2),if_pos (by simpa using h3),pM (by omega) hw.cu,Aa,FU]
    rw [Dx (body:=fun s:Int × List Ab=>Is ops got s.1 s.2) e];exact ih (q+1) _ (by omega) (LP hw (qD Az))
   rw [if_neg h3];have CL:=zvN (k:=(ops[q]).af) hw.ca hv;have hb:Is ops got q ws=if(De ws got (ops[q]).af).2.2=true then(if Gx ops[q] (De ws got (ops[q]).af).1 (De ws got (ops[q]).af).2.1=true then some (.inl (((q+1:Nat):Int),ws))else some (.inr (some (2, [], []))))else some (.inr (some (1,(ops[q]).af, []))):=by
    unfold Is;rw [if_pos (by simpa using An),AK An,Aa,if_neg (by simpa using h2),if_neg (by simpa using h3),zBq (by omega) (by omega) hw.cu,Aa];cases hs:(De ws got (ops[q]).af).2.2 with
    |false=>rw [if_pos (by simp),if_neg (by simp)]
    |true=>
     rw [if_neg (by simp),if_pos rfl,zEZ Az h2 h3 CL,Aa];have h4: ¬(ops[q]).aj=4:=by rcases Az.kind with h|h|h|h<;>omega
     cases Gx ops[q] (De ws got (ops[q]).af).1 (De ws got (ops[q]).af).2.1 with
     |false=>rfl
     |true=>rw [if_neg (by simp),if_neg (by simpa using h4),if_pos rfl,FU]
   by_cases hs:(De ws got (ops[q]).af).2.2=true
   ·rw [if_pos hs]at hb ⊢;by_cases hk:Gx ops[q] (De ws got (ops[q]).af).1 (De ws got (ops[q]).af).2.1=true
    ·rw [if_pos hk]at hb ⊢;rw [Dx (body:=fun s:Int × List Ab=>Is ops got s.1 s.2) hb];exact ih (q+1) _ (by omega) ⟨hw.cu,by omega,hw.ca⟩
    ·rw [if_neg hk]at hb ⊢;exact Db hb
   ·rw [if_neg hs]at hb ⊢;exact Db hb
 exact key ops.length 0 [] (by omega) ⟨List.Pairwise.nil,Nat.le_refl _,by simp⟩
theorem zIu {ops:List Ax} {got:List zip} (hl:ops.length≤1000) (ho: ∀o∈ops,F3 o) (hg:got.length≤2000) (hv: ∀g∈got,g.ay.length≤2000):oE ops got=some (Dn got ops []):=by
 have key: ∀(n q:Nat) (ws:List Ab),q+n=ops.length→Fk q ws→At (fun s:List Ab × Int=>Ir ops got s.1 s.2) (ws,(q:Int))=some (Dn got (ops.drop q) ws):=by
  intro n
  induction n with
  |zero=>intro q ws hq hw;rw [List.drop_eq_nil_of_le (by omega),Dn];refine Db ?_;show Ir ops got ws q=_;unfold Ir;rw [if_neg (by simp;omega)]
  |succ n ih=>
   intro q ws hq hw;have An:q<ops.length:=by omega
   have Az:=ho _ (List.getElem_mem An);have T1:=hw.len;have FU:=AX An (by omega);have CL:=zvN (k:=(ops[q]).af) hw.ca hv;have Mn:=zFE Az (val:=(De ws got (ops[q]).af).1) (there:=(De ws got (ops[q]).af).2.1) CL;rw [List.drop_eq_getElem_cons An,Dn];by_cases h2:(ops[q]).aj=2
   ·rw [if_pos h2];rw [if_pos (.inl h2)]at Mn;have e:Ir ops got ws q=some (.inl (BM wk ⟨(ops[q]).af,(ops[q]).ay,false⟩ ws,((q+1:Nat):Int))):=by
     unfold Ir;rw [if_pos (by simpa using An),AK An,Aa,qQ (by omega) (by omega),Aa,if_neg (by simp [h2]),Mn,Aa,if_neg (by simp),if_pos (by simpa using h2),iW (by omega) hw.cu,Aa,FU]
    rw [Dx (body:=fun s:List Ab × Int=>Ir ops got s.1 s.2) e];exact ih (q+1) _ (by omega) (LP hw (qU Az))
   rw [if_neg h2];by_cases h3:(ops[q]).aj=3
   ·rw [if_pos h3];rw [if_pos (.inr h3)]at Mn;have e:Ir ops got ws q=some (.inl (BM wk ⟨(ops[q]).af, [],true⟩ ws,((q+1:Nat):Int))):=by
     unfold Ir;rw [if_pos (by simpa using An),AK An,Aa,qQ (by omega) (by omega),Aa,if_neg (by simp [h3]),Mn,Aa,if_neg (by simp),if_neg (by simpa using h2),if_pos (by simpa using h3),iW (by omega) hw.cu,Aa,FU]
    rw [Dx (body:=fun s:List Ab × Int=>Ir ops got s.1 s.2) e];exact ih (q+1) _ (by omega) (LP hw (qD Az))
   rw [if_neg h3];rw [if_neg (by simp [h2,h3])]at Mn;have hb:Ir ops got ws q=if(De ws got (ops[q]).af).2.2=true then(if Gx ops[q] (De ws got (ops[q]).af).1 (De ws got (ops[q]).af).2.1=true then some (.inl (ws,((q+1:Nat):Int)))else some (.inr (some (2, [], []))))else some (.inr (some (1,(ops[q]).af, []))):=by
    unfold Ir;rw [if_pos (by simpa using An),AK An,Aa,qQ (by omega) (by omega),Aa];cases hs:(De ws got (ops[q]).af).2.2 with
    |false=>rw [if_pos (by simp [h2,h3]),if_neg (by simp)]
    |true=>
     rw [if_neg (by simp),if_pos rfl,Mn,Aa];have h4: ¬(ops[q]).aj=4:=by rcases Az.kind with h|h|h|h<;>omega
     cases Gx ops[q] (De ws got (ops[q]).af).1 (De ws got (ops[q]).af).2.1 with
     |false=>rfl
     |true=>rw [if_neg (by simp),if_neg (by simpa using h2),if_neg (by simpa using h3),if_neg (by simpa using h4),if_pos rfl,FU]
   by_cases hs:(De ws got (ops[q]).af).2.2=true
   ·rw [if_pos hs]at hb ⊢;by_cases hk:Gx ops[q] (De ws got (ops[q]).af).1 (De ws got (ops[q]).af).2.1=true
    ·rw [if_pos hk]at hb ⊢;rw [Dx (body:=fun s:List Ab × Int=>Ir ops got s.1 s.2) hb];exact ih (q+1) _ (by omega) ⟨hw.cu,by omega,hw.ca⟩
    ·rw [if_neg hk]at hb ⊢;exact Db hb
   ·rw [if_neg hs]at hb ⊢;exact Db hb
 exact key ops.length 0 [] (by omega) ⟨List.Pairwise.nil,Nat.le_refl _,by simp⟩
theorem bG {got:List zip}: ∀(l:List Ax) {n:Nat} {ws:List Ab},(∀o∈l,F3 o)→Fk n ws→Fk (n+l.length) (Dn got l ws).2.2∧((Dn got l ws).1=1→ ∃o∈l,o.af=(Dn got l ws).2.1∧ ∀g∈got,g.af≠o.af)
 | [],n,ws,_,hw=>⟨hw,fun h=>by simp [Dn]at h⟩
 |o::l,n,ws,ho,hw=>by
  have Az:=ho o (by simp);have hl: ∀o∈l,F3 o:=fun x hx=>ho x (by simp [hx]);have up: ∀{w:List Ab},Fk (n+l.length) w→Fk (n+(o::l).length) w:=fun h=>⟨h.cu,by have:=h.len;rw [Ap];omega,h.ca⟩
  rw [Dn];split
  ·obtain⟨a,b⟩:=bG (got:=got) l hl (LP hw (qU Az));refine⟨⟨a.cu,by have:=a.len;rw [Ap];omega,a.ca⟩,fun h=> ?_⟩;obtain⟨x,hx,h1,h2⟩:=b h;exact⟨x,by simp [hx],h1,h2⟩
  ·split
   ·obtain⟨a,b⟩:=bG (got:=got) l hl (LP hw (qD Az));refine⟨⟨a.cu,by have:=a.len;rw [Ap];omega,a.ca⟩,fun h=> ?_⟩;obtain⟨x,hx,h1,h2⟩:=b h;exact⟨x,by simp [hx],h1,h2⟩
   ·split
    ·split
     ·obtain⟨a,b⟩:=bG (got:=got) l hl hw;refine⟨up a,fun h=> ?_⟩;obtain⟨x,hx,h1,h2⟩:=b h;exact⟨x,by simp [hx],h1,h2⟩
     ·exact⟨⟨List.Pairwise.nil,by simp,by simp⟩,fun h=>by simp at h⟩
    ·rename_i hs;refine⟨⟨List.Pairwise.nil,by simp,by simp⟩,fun _=>⟨o,by simp,rfl,fun g hg e=> ?_⟩⟩;apply hs;unfold De;cases e1:ws.find? (fun w=>w.af==o.af)with
     |some w=>rfl
     |none=>
      unfold NK;cases e2:got.find? (fun g=>g.af==o.af)with
      |some g=>rfl
      |none=>rw [List.find?_eq_none]at e2;exact absurd (by simpa using e) (e2 g hg)
def mu (ops:List Ax) (got:List zip):Nat:=(ops.filter fun o=>got.all fun g=>g.af !=o.af).length
theorem zJT {ops:List Ax} {got:List zip} {g:zip} {o:Ax} (ho:o∈ops) (hk:o.af=g.af) (hn: ∀x∈got,x.af≠o.af):mu ops (got++ [g])<mu ops got:=by
 unfold mu;have e:(fun o:Ax=>(got++ [g]).all fun x=>x.af !=o.af)=fun o=>(got.all fun x=>x.af !=o.af)&&(g.af !=o.af):=by funext x;rw [List.all_append];simp
 have e2:ops.filter (fun o:Ax=>(got++ [g]).all fun x=>x.af !=o.af)=(ops.filter fun o=>got.all fun x=>x.af !=o.af).filter fun o=>g.af !=o.af:=by rw [e,List.filter_filter];congr 1;funext x;rw [Bool.and_comm]
 rw [e2];have hm:o∈ops.filter fun o=>got.all fun x=>x.af !=o.af:=List.mem_filter.2 ⟨ho,AR.2 fun x hx=>by simpa using hn x hx⟩;generalize ops.filter (fun o=>got.all fun x=>x.af !=o.af)=l at hm;have An: ∀(l:List Ax),o∈l→(l.filter fun o=>g.af !=o.af).length<l.length:=by
  intro l
  induction l with
  |nil=>intro h;simp at h
  |cons y l ih=>
   intro h;rw [List.filter_cons];rcases Ag.1 h with rfl|h
   ·rw [if_neg (by simp [hk])];have:=List.length_filter_le (fun o:Ax=>g.af !=o.af) l;rw [Ap];omega
   ·have:=ih h;split
    ·rw [Ap,Ap];omega
    ·rw [Ap];omega
 exact An l hm
theorem zKq (ops:List Ax) (got:List zip):mu ops got≤ops.length:=List.length_filter_le _ _
def Ip (rows:List Ab) (ops:List Ax):Nat→List zip→List Ab × Bool
 |0,_=>([],false)
 |n+1,got=>if(Dn got ops []).1=1 then Ip rows ops n (got++ [Dd rows (Dn got ops []).2.1])else((Dn got ops []).2.2,(Dn got ops []).1==3)
structure PG (rows:List Ab):Prop where
 cu:DI rows
 len:rows.length≤24
 ca: ∀w∈rows,Dg w=true
theorem zF9 {rows:List Ab} {k:Af} (h:PG rows):(Dd rows k).ay.length≤2000∧(Dd rows k).af=k:=by
 unfold Dd;cases e:rows.find? (fun w=>w.af==k)with
 |some w=>have:=VV (h.ca w (List.mem_of_find?_eq_some e));exact⟨by show w.ay.length≤2000;omega,rfl⟩
 |none=>exact⟨by simp,rfl⟩
theorem uS {rows:List Ab} {ops:List Ax} (hl:ops.length≤8) (ho: ∀o∈ops,F3 o) (hr:PG rows): ∀(n:Nat) (got:List zip),mu ops got<n→got.length+n≤1000→(∀g∈got,g.ay.length≤2000)→
  (∃g,At (fun s:List zip=>O4 rows ops s) got=some (g,Ip rows ops n got))∧(∃g,At (fun s:List zip=>OY rows ops s) got=some (g,Ip rows ops n got))∧Fk 8 (Ip rows ops n got).1
 |0,got,hm,_,_=>by omega
 |n+1,got,hm,hg,hv=>by
  have hi:=zIm (got:=got) (by omega) ho (by omega) hv;have hs:=zIu (got:=got) (by omega) ho (by omega) hv;obtain⟨ga,gb⟩:=bG (got:=got) ops (n:=0) (ws:= []) ho ⟨List.Pairwise.nil,Nat.le_refl _,by simp⟩;have JJ:=hr.len;rw [Ip];generalize Dn got ops []=r at hi hs ga gb;by_cases h1:r.1=1
  ·rw [if_pos h1];obtain⟨o,hom,Az,JG⟩:=gb h1;obtain⟨t1,t2⟩:=zF9 (k:=r.2.1) hr;have hq:(((got).length:Int)+(([Dd rows r.2.1]:List zip).length:Int))*40≤140737488355328∧((got).length:Int)+(([Dd rows r.2.1]:List zip).length:Int)≤140737488355328:=by
    rw [AF];omega
   have ei:O4 rows ops got=some (.inl (got++ [Dd rows r.2.1])):=by unfold O4;rw [hi,Aa,if_neg (by simp [h1]),zGg (by omega) hr.cu,Aa,AN hq]
   have es:OY rows ops got=some (.inl (got++ [Dd rows r.2.1])):=by unfold OY;rw [hs,Aa,if_neg (by simp [h1]),zHy (by omega),Aa,AN hq]
   rw [Dx (body:=fun s:List zip=>O4 rows ops s) ei,Dx (body:=fun s:List zip=>OY rows ops s) es];refine uS hl ho hr n _ ?_ (by rw [As,AF];omega) fun g CA=> ?_
   ·have:=zJT (g:=Dd rows r.2.1) hom (Az.trans t2.symm) JG;omega
   ·rcases Ai.1 CA with h|h
    ·exact hv g h
    ·rw [List.mem_singleton]at h;subst h;exact t1
  ·rw [if_neg h1];refine⟨⟨got,Db ?_⟩,⟨got,Db ?_⟩,ga.cu,by have:=ga.len;show r.2.2.length≤8;omega,ga.ca⟩
   ·show O4 rows ops got=_;unfold O4;rw [hi,Aa,if_pos (by simpa using h1)]
   ·show OY rows ops got=_;unfold OY;rw [hs,Aa,if_pos (by simpa using h1)]
def Fj (rows:List Ab) (ops:List Ax):List Ab × Bool:=Ip rows ops 9 []
theorem sS {rows:List Ab} {ops:List Ax} (hl:ops.length≤8) (ho: ∀o∈ops,F3 o) (hr:PG rows):(∃g,nG rows ops=some (g,Fj rows ops))∧(∃g,nU rows ops=some (g,Fj rows ops))∧Fk 8 (Fj rows ops).1:=by have:=zKq ops [];exact uS hl ho hr 9 [] (by omega) (by simp) (by simp)
theorem rB {s:Af} (h:field s=true):s.length≤3:=by unfold field at h;simp only [Ae]at h;have:=CN.1 h.1;omega
theorem iX {t:Ad} {r:AL} (h:Bo t r=true) (c:Int):(C3 r c).length≤3:=by
 unfold Bo at h;simp only [Ae]at h;unfold C3;cases e:r.ar[c.toNat]? with
 |none=>simp
 |some s=>exact rB (AR.1 h.2 s (List.mem_of_getElem? e))
theorem qP {k:Nat}: ∀{xs:List Af},(∀s∈xs,s.length≤k)→DS xs≤k*xs.length
 | [],_=>by simp [DS]
 |s::xs,h=>by have h1:=h s (by simp);have h2:=qP (k:=k) (xs:=xs) fun y hy=>h y (by simp [hy]);simp only [DS,Ap,Nat.mul_add,Nat.mul_one];omega
theorem zGt {t:Ad} {r:AL} (hg:Be t=true) (h:Bo t r=true):(AZ t r).af.length≤5∧(AZ t r).ay.length≤20:=by
 have hn:=RS (LG hg);have hc:=J6 hg;have hv:=iX h 0;have h':=h;unfold Bo at h';simp only [Ae,beq_iff_eq]at h';have Cd: ∀s∈r.ar,s.length≤3:=fun s hs=>rB (AR.1 h'.2 s hs);constructor
 ·unfold AZ;have e:(r.ar.head?).getD []=C3 r 0:=by unfold C3;rw [List.head?_eq_getElem?];rfl
  simp only [e,As,AF];omega
 ·have h1:=rT r.ar.tail [44];have h2:=qP (k:=3) (xs:=r.ar.tail) fun s hs=>Cd s (List.mem_of_mem_tail hs);have h3:r.ar.tail.length≤3:=by rw [List.length_tail];omega
  rw [AF]at h1;show(Lib.join r.ar.tail [44]).length≤20;omega
theorem zE1 {t:Ad} {n:Af} {c:Int} {r:AL} (hg:Be t=true) (hn:n.length=1) (h:Bo t r=true):(BJ t n c r).length≤11:=by have h1:=RS (LG hg);have h2:=iX h c;have h3:=iX h 0;unfold BJ head;simp only [As,AF];omega
theorem uY {α β:Type} {P:β→Prop} {f:α→List β}: ∀(xs:List α) (a:List β),(∀x∈xs,∀o∈f x,P o)→(∀o∈a,P o)→ ∀o∈xs.foldl (fun a x=>a++f x) a,P o
 | [],a,_,h=>h
 |x::xs,a,hf,h=>uY xs (a++f x) (fun y hy=>hf y (by simp [hy])) fun o ho=>by
  rcases Ai.1 ho with ho|ho
  ·exact h o ho
  ·exact hf x (by simp) o ho
theorem zyq {α β:Type} {f:α→List β} (hf: ∀x,(f x).length≤2): ∀(xs:List α) (a:List β),(xs.foldl (fun a x=>a++f x) a).length≤a.length+2*xs.length
 | [],a=>by simp
 |x::xs,a=>by have h1:=zyq hf xs (a++f x);have h2:=hf x;rw [As]at h1;rw [List.foldl_cons,Ap];omega
def MX (s:Af):Prop:= ∀b∈s,(E2 b||([46,47]:Af).contains b)=true
def zKy (s:Af):Prop:= ∀b∈s,(E2 b||([46,45,44,95]:Af).contains b)=true
theorem zEj {s:Af} (h:field s=true): ∀b∈s,E2 b=true:=by unfold field J9 at h;simp only [Ae]at h;intro b hb;have:=AR.1 h.2 b hb;simpa using this
theorem RV {s:Af} {k:Int} (h:CX s k=true): ∀b∈s,E2 b=true:=by unfold CX at h;simp only [Ae]at h;intro b hb;have:=AR.1 h.1 b hb;unfold small at this;unfold E2;simp only [Bool.not_eq_true',Bool.or_eq_false_iff,decide_eq_false_iff_not]at this;simp only [Bool.or_eq_true,Ae,decide_eq_true_eq];left;omega
theorem R0 {s:Af} (h: ∀b∈s,E2 b=true):MX s:=fun b hb=>by rw [h b hb];rfl
theorem MX.app {s u:Af} (h:MX s) (k:MX u):MX (s++u):=fun b hb=>by
 rcases Ai.1 hb with hb|hb
 ·exact h b hb
 ·exact k b hb
theorem zKj:MX [46]:=fun b hb=>by rw [List.mem_singleton]at hb;subst hb;decide
theorem jY:MX [47]:=fun b hb=>by rw [List.mem_singleton]at hb;subst hb;decide
theorem zvw {s:Af} (h1:1≤s.length) (h2:s.length≤12) (h:MX s):Ao s=true:=by unfold Ao J9;rw [CN.2 ⟨by omega,by omega⟩,AR.2 h];rfl
theorem zBw {s:Af} (h2:s.length≤24) (h:zKy s):Gs s=true:=by unfold Gs J9;rw [show decide ((s.length:Int)≤24)=true by simp;omega,AR.2 h];rfl
theorem zFH {xs:List Af} (h: ∀x∈xs,∀b∈x,E2 b=true):zKy (Lib.join xs [44]):=by
 cases xs with
 |nil=>intro b hb;simp [Lib.join_nil]at hb
 |cons x r=>
  intro b hb;rw [Lib.join_cons]at hb;rcases Ai.1 hb with hb|hb
  ·rw [h x (by simp) b hb];rfl
  ·unfold Lib.joinTail at hb;obtain⟨l,hl,W6⟩:=List.mem_flatten.1 hb;obtain⟨y,hy,rfl⟩:=List.mem_map.1 hl;rcases Ai.1 W6 with hb|hb
   ·rw [List.mem_singleton]at hb;subst hb;decide
   ·rw [h y (by simp [hy]) b hb];rfl
theorem pL {t:Ad} {r:AL} (h:Bo t r=true): ∀x∈r.ar,∀b∈x,E2 b=true:=by unfold Bo at h;simp only [Ae]at h;exact fun x hx=>zEj (AR.1 h.2 x hx)
theorem SB {t:Ad} {r:AL} (h:Bo t r=true) (c:Int): ∀b∈C3 r c,E2 b=true:=by
 unfold C3;cases e:r.ar[c.toNat]? with
 |none=>simp
 |some s=>exact pL h s (List.mem_of_getElem? e)
theorem VR {t:Ad} {r:AL} (hg:Be t=true) (h:Bo t r=true):Ao (AZ t r).af=true∧Gs (AZ t r).ay=true:=by
 have hl:=zGt hg h;have e:(AZ t r).af=t.ab++ [47]++C3 r 0:=by unfold AZ C3;rw [List.head?_eq_getElem?];rfl
 refine⟨zvw ?_ (by omega) ?_,zBw (by omega) ?_⟩
 ·rw [e];simp;omega
 ·rw [e];exact((R0 (RV (LG hg))).app jY).app (R0 (SB h 0))
 ·exact zFH fun x hx=>pL h x (List.mem_of_mem_tail hx)
theorem bK {t:Ad} {n:Af} {c:Int} {r:AL} (hg:Be t=true) (hn:CX n 1=true) (h:Bo t r=true):Ao (BJ t n c r)=true:=by
 have hl:=zE1 (c:=c) hg (RS hn) h;refine zvw ?_ (by omega) ?_
 ·unfold BJ;simp;omega
 ·unfold BJ head;exact((((((R0 (RV (LG hg))).app zKj).app (R0 (RV hn))).app jY).app (R0 (SB h c))).app jY).app (R0 (SB h 0))
theorem vL {t:Ad} {a:Bf} (hg:Be t=true) (h:Hu t a=true):(DV t a).length≤8∧ ∀o∈DV t a,F3 o:=by
 have ho:a.aj≠1→Bo t a.bg=true:=fun h1=>by
  unfold Hu at h;rw [if_neg h1]at h;by_cases h2:a.aj=2
  ·rw [if_pos h2,Ae]at h;exact h.1
  rw [if_neg h2]at h;by_cases h3:a.aj=3
  ·rw [if_pos h3,Ae]at h;exact h.1
  rw [if_neg h3]at h;cases h
 have hn:a.aj≠2→Bo t a.bm=true:=fun h2=>by
  unfold Hu at h;by_cases h1:a.aj=1
  ·rw [if_pos h1,Ae]at h;exact h.2
  rw [if_neg h1,if_neg h2]at h;by_cases h3:a.aj=3
  ·rw [if_pos h3,Ae,Ae]at h;exact h.2.1
  rw [if_neg h3]at h;cases h
 have hc:=J6 hg;have v0:Gs ([]:Af)=true:=by decide
 constructor
 ·have h1:=zyq (pO t a) t.ah (KH t a);rw [pA]at h1;unfold DV;omega
 ·refine uY _ _ (fun x hx o hm=> ?_) (fun o hm=> ?_)
  ·have Ll:=(FY hg hx).1;unfold GO KP Jd at hm;rcases Ai.1 hm with hm|hm
   ·split at hm
    ·rename_i q;rw [List.mem_singleton]at hm;subst hm;refine⟨?_,v0,rfl,by simp,fun _=>rfl⟩;show Ao (ER t a x)=true;unfold ER at q ⊢;by_cases h1:a.aj=1
     ·rw [if_pos h1]at q;exact absurd rfl q.1
     ·rw [if_neg h1];exact bK hg Ll (ho h1)
    ·simp at hm
   ·split at hm
    ·rename_i q;rw [List.mem_singleton]at hm;subst hm;refine⟨?_,v0,rfl,by simp,fun _=>rfl⟩;show Ao (DX t a x)=true;unfold DX at q ⊢;by_cases h1:a.aj=2
     ·rw [if_pos h1]at q;exact absurd rfl q.1
     ·rw [if_neg h1];exact bK hg Ll (hn h1)
    ·simp at hm
  ·unfold KH at hm;split at hm
   ·rename_i q;have w:=VR hg (hn (by omega));simp only [Ag,List.not_mem_nil,or_false]at hm;rcases hm with rfl|rfl
    ·exact⟨w.1,v0,rfl,by simp,fun _=>rfl⟩
    ·exact⟨w.1,w.2,rfl,by simp,fun k=>by simp at k⟩
   ·rename_i q1;have w1:=VR hg (ho q1);split at hm
    ·simp only [Ag,List.not_mem_nil,or_false]at hm;rcases hm with rfl|rfl
     ·exact⟨w1.1,w1.2,rfl,by simp,fun k=>by simp at k⟩
     ·exact⟨w1.1,v0,rfl,by simp,fun _=>rfl⟩
    ·rename_i q2;have w2:=VR hg (hn q2);simp only [Ag,List.not_mem_nil,or_false]at hm;rcases hm with rfl|rfl
     ·exact⟨w1.1,w1.2,rfl,by simp,fun k=>by simp at k⟩
     ·exact⟨w1.1,w2.2,rfl,by simp,fun k=>by simp at k⟩
theorem Eo {l:List Ab} (h:BZ l=true):PG l∧ ∀w∈l,w.bf=false:=by unfold BZ at h;rw [Ae]at h;have hr:=zsI h.1;have h1:=h.1;unfold J5 at h1;simp only [Ae,decide_eq_true_eq]at h1;exact⟨⟨hr,by omega,AR.1 h1.2.1⟩,fun w hw=>by simpa using AR.1 h.2 w hw⟩
theorem ztV {l:List Ab} (hr:DI l) (hg: ∀w∈l,Dg w=true) (hn: ∀w∈l,w.bf=false):BZ l=decide ((l.length:Int)≤24):=by
 have h1:KJ (l.map (·.af))=true:=by rw [pB,aS];exact(bT (r:=fun a b:Ab=>bl a.af b.af) fun a b c p q=>FZ p q).2 hr
 unfold BZ J5;rw [h1,AR.2 hg,show(l.all fun w=> !w.bf)=true from AR.2 fun w hw=>by rw [hn w hw];rfl];simp
theorem aD {l:List Ab} (hl:l.length≤2000000) (hg: ∀w∈l,Dg w=true):PD l:=
 ⟨hl,fun w hw=>⟨by have:=qW (hg w hw);omega,by have:=VV (hg w hw);omega⟩⟩
def Df (rows ws:List Ab):List Ab:=(ws.foldl (fun o w=>BM wk w o) rows).filter fun w=> !w.bf
theorem xQ: ∀(ws:List Ab) {n:Nat} {rows:List Ab},Fk n rows→(∀w∈ws,Dg w=true)→Fk (n+ws.length) (ws.foldl (fun o w=>BM wk w o) rows)
 | [],n,rows,h,_=>h
 |w::ws,n,rows,h,hw=>by have:=xQ ws (LP h (hw w (by simp))) fun y hy=>hw y (by simp [hy]);exact⟨this.cu,by have:=this.len;rw [Ap];rw [List.foldl_cons];omega,this.ca⟩
theorem zyX {rows ws:List Ab} (hr:PG rows) (hw:Fk 8 ws):DI (Df rows ws)∧(Df rows ws).length≤32∧(∀w∈Df rows ws,Dg w=true)∧ ∀w∈Df rows ws,w.bf=false:=by have h:=xQ ws (n:=24) (rows:=rows) ⟨hr.cu,hr.len,hr.ca⟩ hw.ca;have hl:=hw.len;unfold Df;refine⟨E3.filter h.cu _,Nat.le_trans (List.length_filter_le _ _) (by have:=h.len;omega),fun w hm=>h.ca w (List.mem_filter.1 hm).1,fun w hm=>by simpa using(List.mem_filter.1 hm).2⟩
theorem zB0 {rows ws:List Ab} (hr:PG rows) (hw:Fk 8 ws):ZD rows ws=some (if(Df rows ws).length>24 then([],false)else(Df rows ws,true)):=by
 have JJ:=hr.len;have T1:=hw.len;have hc:OT rows=some rows:=Np (by omega) (by omega);unfold ZD;rw [hc,Aa];have h1:=Fw (xs:=ws) (body:=fun s:Int × List Ab=>Rb ws s.1 s.2) (fun i (o:List Ab)=>(i,o)) (fun o w=>BM wk w o) (fun o=>mH o) (fun i o=>Fk (24+i) o)
  (fun i hi o hI=>by have hI:Fk (24+i) o:=hI;have hol:=hI.len;refine⟨?_,LP hI (hw.ca _ (List.getElem_mem hi))⟩;show Rb ws i o=_;unfold Rb;rw [if_pos (by simpa using hi),AK hi,Aa,pM (by omega) hI.cu,Aa,AX hi (by omega)])
  (fun o hI=>by show Rb ws ws.length o=_;unfold Rb;rw [if_neg (by simp)]) (s:=rows) ⟨hr.cu,hr.len,hr.ca⟩
 rw [h1.1];have hK:Fk (24+ws.length) (ws.foldl (fun o w=>BM wk w o) rows):=h1.2;have GC:=hK.len;unfold mH IW;rw [AN (by omega),bF (p:=fun y0_=>mV y0_) (fun w:Ab=>w.bf) (fun w _=>rfl),Aa];show(if decide (((Df rows ws).length:Int)>24)=true then _ else _)=_;by_cases hq:(Df rows ws).length>24
 ·rw [if_pos (decide_eq_true (by omega)),if_pos hq]
 ·rw [if_neg (by rw [decide_eq_true_eq];omega),if_neg hq];rfl
theorem zBQ {rows ws:List Ab} (hr:PG rows) (hw:Fk 8 ws):Zg rows ws=some (Df rows ws):=by
 have JJ:=hr.len;have T1:=hw.len;have hq:((([]:List Ab).length:Int)+((rows).length:Int))*40≤140737488355328∧(([]:List Ab).length:Int)+((rows).length:Int)≤140737488355328:=by rw [List.length_nil];omega
 unfold Zg;rw [AN hq];have h1:=Fw (xs:=ws) (body:=fun s:Int × List Ab=>QU ws s.1 s.2) (fun i (o:List Ab)=>(i,o)) (fun o w=>BM wk w o) (fun o=>lZ o) (fun i o=>Fk (24+i) o)
  (fun i hi o hI=>by have hI:Fk (24+i) o:=hI;have hol:=hI.len;refine⟨?_,LP hI (hw.ca _ (List.getElem_mem hi))⟩;show QU ws i o=_;unfold QU;rw [if_pos (by simpa using hi),AK hi,Aa,iW (by omega) hI.cu,Aa,AX hi (by omega)])
  (fun o hI=>by show QU ws ws.length o=_;unfold QU;rw [if_neg (by simp)]) (s:=rows) ⟨hr.cu,hr.len,hr.ca⟩
 rw [h1.1];have hK:Fk (24+ws.length) (ws.foldl (fun o w=>BM wk w o) rows):=h1.2;have GC:=hK.len;unfold Df;generalize ws.foldl (fun o w=>BM wk w o) rows=l at GC;unfold lZ;have h2:=Fw (xs:=l) (body:=fun s:List Ab × Int=>QJ l s.1 s.2) (fun i (o:List Ab)=>(o,i)) (fun o w=>if(!w.bf)=true then o++ [id w]else o) (fun o=>some o) (fun i o=>o.length≤i)
  (fun i hi o hI=>by
   have hI:o.length≤i:=hI;have hr:(((o).length:Int)+(([l[i]]:List Ab).length:Int))*40≤140737488355328∧((o).length:Int)+(([l[i]]:List Ab).length:Int)≤140737488355328:=by rw [AF];omega
   refine⟨?_,by show List.length _≤_;split;rw [As,AF];omega;omega⟩;show QJ l o i=_;unfold QJ;rw [if_pos (by simpa using hi),AK hi,Aa,AX hi (by omega)];cases(!(l[i]).bf)with
   |false=>rfl
   |true=>rw [if_pos rfl,AN hr];rfl)
  (fun o _=>by show QJ l o l.length=_;unfold QJ;rw [if_neg (by simp)]) (s:= []) (Nat.le_refl _)
 refine h2.1.trans ?_;rw [RZ (fun w:Ab=> !w.bf) id l []];simp
def Bc (st:List Ab) (ops:List Ax):List Ab × Bool:=if(Fj st ops).2=true∧(Df st (Fj st ops).1).length≤24 then(Df st (Fj st ops).1,true)else(st,false)
theorem zzb {st:List Ab} {ops:List Ax} (hl:ops.length≤8) (ho: ∀o∈ops,F3 o) (hg:BZ st=true):Vu st ops=some (Bc st ops):=by
 obtain⟨hr,_⟩:=Eo hg;obtain⟨⟨g,e⟩,_,hw⟩:=sS hl ho hr;have JJ:=hr.len;have hq:((([]:List Ab).length:Int)+((st).length:Int))*40≤140737488355328∧(([]:List Ab).length:Int)+((st).length:Int)≤140737488355328:=by rw [List.length_nil];omega
 unfold Vu Bc;rw [e,Aa,zB0 hr hw,Aa];cases h1:(Fj st ops).2 with
 |false=>rw [if_pos (by simp),AN hq,if_neg (by simp)]
 |true=>
  by_cases h2:(Df st (Fj st ops).1).length>24
  ·rw [if_pos h2,if_pos (by simp),AN hq,if_neg (by omega)]
  ·rw [if_neg h2,if_neg (by simp),if_pos ⟨rfl,by omega⟩]
theorem zBP {ops:List Ax} (hl:ops.length≤8) (ho: ∀o∈ops,F3 o):aB ops=some true:=by
 have h1: ∀o:Ax,F3 o→aQ o=some true:=by
  intro o h;have hk:=bY h.key;have hv:=zxR h.val;unfold aQ nP;rw [jK (by omega),Aa,h.key,if_neg (by simp)];rcases h.kind with k|k|k|k
  ·rw [k];simp [jR (s:=o.ay) (by omega),h.val,h.nk]
  ·have:=h.none (.inl k);rw [k];simp [this,h.nk]
  ·have:=h.none (.inr k);rw [k];simp [this,h.nk]
  ·rw [k];simp [jR (s:=o.ay) (by omega),h.val,h.nk]
 unfold aB;rw [LM (xs:=ops) (body:=fun s:Int=>Rz ops s) (fun _=>true) false (nA ops) (fun i hi=>by
  show Rz ops i=_;unfold Rz;rw [if_pos (by simpa using hi),AK hi,Aa,h1 _ (ho _ (List.getElem_mem hi)),Aa,if_neg (by simp),AX hi (by omega),if_pos rfl]) (by
  show Rz ops ops.length=_;unfold Rz;rw [if_neg (by simp)]),if_pos (AR.2 fun _ _=>rfl)]
 unfold nA;simp;omega
theorem XN {st:List Ab} {ops:List Ax} (hl:ops.length≤8) (ho: ∀o∈ops,F3 o) (hg:BZ st=true):Pb st ops=some (Bc st ops):=by
 obtain⟨hr,_⟩:=Eo hg;obtain⟨_,⟨g,e⟩,hw⟩:=sS hl ho hr;have JJ:=hr.len;have hq:((([]:List Ab).length:Int)+((st).length:Int))*40≤140737488355328∧(([]:List Ab).length:Int)+((st).length:Int)≤140737488355328:=by rw [List.length_nil];omega
 have Km: ∀b:Bool,((([]:List Bool).length:Int)+(([b]:List Bool).length:Int))*1≤140737488355328∧(([]:List Bool).length:Int)+(([b]:List Bool).length:Int)≤140737488355328:=by intro b;rw [List.length_nil,AF];omega
 obtain⟨p1,p2,p3,p4⟩:=zyX hr hw;have hv7:Lz (Df st (Fj st ops).1)=some (decide (((Df st (Fj st ops).1).length:Int)≤24)):=by rw [Sr (aD (by omega) p3),ztV p1 p3 p4]
 have JS:IntKind.i64.wrap ((0:Int)+1)=1:=by decide
 have key:Zf st [ops]=some ((Bc st ops).1, [(Bc st ops).2],true):=by
  unfold Zf;rw [Sr (aD (by omega) hr.ca),Aa,hg,if_neg (by simp)];have b0:O0 st [ops] 0=some (.inl 1):=by unfold O0;rw [if_pos (by simp),show Am [ops] 0=some ops from rfl,Aa,zBP hl ho,Aa,if_neg (by simp),JS]
  have b1:O0 st [ops] 1=some (.inr (lX st [ops])):=by unfold O0;rw [if_neg (by simp)]
  rw [Dx (body:=fun s:Int=>O0 st [ops] s) b0,Db (body:=fun s:Int=>O0 st [ops] s) b1];unfold lX;rw [AN hq];have c0:O1 [ops] [] 0 st=some (.inl ([(Bc st ops).2],1,(Bc st ops).1)):=by
   unfold O1 Bc;rw [if_pos (by simp),show Am [ops] 0=some ops from rfl,Aa,e,Aa,zBQ hr hw,Aa];cases h1:(Fj st ops).2 with
   |false=>rw [if_neg (by simp),AN (Km _),if_neg (by simp),JS];rfl
   |true=>
    rw [if_pos rfl,hv7,Aa];by_cases h2:(Df st (Fj st ops).1).length≤24
    ·have h3:decide (((Df st (Fj st ops).1).length:Int)≤24)=true:=by simp;omega
     rw [h3,if_pos rfl,AN (Km _),if_pos ⟨rfl,h2⟩,JS];rfl
    ·have h3:decide (((Df st (Fj st ops).1).length:Int)≤24)=false:=by simp;omega
     rw [h3,if_neg (by simp),AN (Km _),if_neg (by omega),JS];rfl
  have c1: ∀(bs:List Bool) (l:List Ab),O1 [ops] bs 1 l=some (.inr (some (l,bs,true))):=by intro bs l;unfold O1;rw [if_neg (by simp)]
  rw [Dx (body:=fun s:List Bool × Int × List Ab=>O1 [ops] s.1 s.2.1 s.2.2) c0,Db (body:=fun s:List Bool × Int × List Ab=>O1 [ops] s.1 s.2.1 s.2.2) (c1 _ _)]
 unfold Pb;rw [key,Aa,if_pos (by simp)];rfl
theorem LL {st:List Ab} {ops:List Ax} (hl:ops.length≤8) (ho: ∀o∈ops,F3 o) (hg:BZ st=true):BZ (Bc st ops).1=true:=by
 obtain⟨hr,_⟩:=Eo hg;obtain⟨_,_,hw⟩:=sS hl ho hr;obtain⟨p1,p2,p3,p4⟩:=zyX hr hw;unfold Bc;split
 ·rename_i h;show BZ (Df st (Fj st ops).1)=true;rw [ztV p1 p3 p4];have:=h.2;simp;omega
 ·exact hg
theorem pS {α:Type}: ∀(xs a:List α),xs.foldl (fun o x=>o++ [x]) a=a++xs
 | [],a=>by simp
 |x::xs,a=>by rw [List.foldl_cons,pS xs (a++ [x])];simp
theorem yH {o p:List Ad} (h:o.length≤2000001) (hn:p.length≤5):((o.length:Int)+(p.length:Int))*64≤140737488355328∧(o.length:Int)+(p.length:Int)≤140737488355328:=by omega
theorem vQ {s:AA} (hS:Fh s):U9 s=some s:=by
 have h1:=hS.at_;have h2:=hS.store.1;have h3:=hS.ways;have c1:lB s.bj=some s.bj:=Np (by omega) (by omega);have c2:OT s.au=some s.au:=Np (by omega) (by omega);unfold U9;rw [c1,c2,Aa,Aa];have h:=Fw (xs:=s.ak) (body:=fun q:Int × List Ad=>QM s s.bj s.au q.1 q.2) (fun i (o:List Ad)=>(i,o)) (fun o t=>o++ [t]) (fun o=>some ⟨s.ab,o,s.bj,s.au⟩) (fun i o=>o.length=i)
  (fun i hi o hI=>by have hI:o.length=i:=hI;refine⟨?_,by show List.length _=_;rw [As,AF];omega⟩;show QM s s.bj s.au i o=_;unfold QM;rw [if_pos (by simpa using hi),AK hi,Aa,sM (hS.way _ (List.getElem_mem hi)),Aa,AN (yH (by omega) (by simp)),AX hi (by omega)])
  (fun o _=>by show QM s s.bj s.au s.ak.length o=_;unfold QM;rw [if_neg (by simp)]) (s:= []) rfl
 rw [pS]at h;exact h.1
theorem dF {s:AA} (hS:Fh s):Vy s=some s:=by
 have h1:=hS.at_;have h2:=hS.store.1;have h3:=hS.ways;have c1:aH s.bj=some s.bj:=by unfold aH;rw [AN (by rw [List.length_nil];omega)]
 have hq:((([]:List Ab).length:Int)+((s.au).length:Int))*40≤140737488355328∧(([]:List Ab).length:Int)+((s.au).length:Int)≤140737488355328:=by rw [List.length_nil];omega
 unfold Vy;rw [c1,Aa,AN hq];have h:=Fw (xs:=s.ak) (body:=fun q:Int × List Ad=>RC s s.bj q.1 q.2) (fun i (o:List Ad)=>(i,o)) (fun o t=>o++ [t]) (fun o=>some ⟨s.ab,o,s.bj,s.au⟩) (fun i o=>o.length=i)
  (fun i hi o hI=>by have hI:o.length=i:=hI;refine⟨?_,by show List.length _=_;rw [As,AF];omega⟩;show RC s s.bj i o=_;unfold RC;rw [if_pos (by simpa using hi),AK hi,Aa,jQ (hS.way _ (List.getElem_mem hi)),Aa,AN (yH (by omega) (by simp)),AX hi (by omega)])
  (fun o _=>by show RC s s.bj s.ak.length o=_;unfold RC;rw [if_neg (by simp)]) (s:= []) rfl
 rw [pS]at h;exact h.1
def Qr (a:Bf):Bool:=((a.aj==0)&&((a.bg.ar.length:Int)==0))&&((a.bm.ar.length:Int)==0)
structure Iq (s:AA) (a:CW):Prop where
 oa:0≤a.ax∧a.ax≤(s.bj.length:Int)-1
 step:a.a7=0∨a.a7=1∨a.a7= -1
 act:a.a7=0→ ∃y t,Am s.bj a.ax=some y∧Am s.ak y=some t∧t∈s.ak∧Hu t a.fAct=true
theorem bH {t:Ad} {n:Af} (h:C4 t n=true):Be t=true:=by unfold C4 at h;simp only [Ae]at h;exact h.1
theorem SS {s:AA} (hg:CJ s) {i:Int} (h:0≤i∧i≤(s.bj.length:Int)-1): ∃y t,Am s.bj i=some y∧Am s.ak y=some t∧t∈s.ak∧0≤y∧y≤(s.ak.length:Int)-1:=by obtain⟨y,e1,hy,_⟩:=LV (xs:=s.bj) h.1 (by omega);have hb:=hg.2.2.2.2.2.1 y hy;obtain⟨t,e2,ht,_⟩:=LV (xs:=s.ak) hb.1 (by omega);exact⟨y,t,e1,e2,ht,hb.1,hb.2⟩
def Po (s:AA) (t:Ad) (a:CW):Bool:=
 BQ a.ax 0 ((s.bj.length:Int)-1)&&(if a.a7=0 then Hu t a.fAct else if a.a7=1∨a.a7= -1 then Qr a.fAct else false)
def Eh (s:AA) (i:Int):Ad:=(Am s.ak ((Am s.bj i).getD 0)).getD T5
theorem zBm {s:AA} {a:CW} (hg:CJ s) (hA:EN a.fAct):ZB s a=some (Po s (Eh s a.ax) a):=by
 have h3:=CN.1 hg.2.2.2.2.1;have w:IntKind.i64.wrap ((s.bj.length:Int)-1)=(s.bj.length:Int)-1:=A9 (by omega) (by omega);unfold ZB Po;rw [w,Jb,Aa];cases hv:BQ a.ax 0 ((s.bj.length:Int)-1)with
 |false=>rfl
 |true=>
  obtain⟨y,t,e1,e2,ht,_,_⟩:=SS hg (CN.1 hv);have hc:=J6 (bH (hg.2.2.1 t ht));have et:Eh s a.ax=t:=by unfold Eh;rw [e1,Option.getD_some,e2];rfl
  rw [et,if_neg (by simp),Bool.true_and];by_cases h0:a.a7=0
  ·rw [if_neg (by simp [h0]),if_pos (by simpa using h0),if_pos h0,e1,Aa,e2,Aa,pX (by omega) hA];rfl
  ·rw [if_neg h0];by_cases h1:a.a7=1∨a.a7= -1
   ·rw [if_pos (by simpa using h1),if_pos h1];rfl
   ·rw [if_neg (by simpa using h1),if_neg h1,if_neg (by simpa using h0)]
theorem zBM {s:AA} {a:CW} (hg:CJ s) (hA:EN a.fAct):X9 s a=some (Po s (Eh s a.ax) a):=by
 have h3:=CN.1 hg.2.2.2.2.1;have w:IntKind.i64.wrap ((s.bj.length:Int)-1)=(s.bj.length:Int)-1:=A9 (by omega) (by omega);unfold X9 Po;rw [w,KE,Aa];cases hv:BQ a.ax 0 ((s.bj.length:Int)-1)with
 |false=>rfl
 |true=>
  obtain⟨y,t,e1,e2,ht,_,_⟩:=SS hg (CN.1 hv);have hc:=J6 (bH (hg.2.2.1 t ht));have et:Eh s a.ax=t:=by unfold Eh;rw [e1,Option.getD_some,e2];rfl
  have Lf:Gp s a.ax=some t:=by unfold Gp;rw [e1,Aa,e2];rfl
  rw [et,if_neg (by simp),Bool.true_and];by_cases h0:a.a7=0
  ·rw [if_pos (by simpa using h0),if_pos h0,Lf,Aa,zBn (by omega) hA];rfl
  ·rw [if_neg (by simpa using h0),if_neg h0];by_cases h1:a.a7=1
   ·rw [if_pos (by simpa using h1),if_pos (.inl h1)];rfl
   ·rw [if_neg (by simpa using h1)];by_cases h2:a.a7= -1
    ·rw [if_pos (by simpa using h2),if_pos (.inr h2)];rfl
    ·rw [if_neg (by simpa using h2),if_neg (by simp [h1,h2])]
theorem zI1 {s:AA} {a:CW} (hg:CJ s) (h:Po s (Eh s a.ax) a=true):Iq s a:=by
 unfold Po at h;rw [Ae]at h;have hv:=CN.1 h.1;obtain⟨y,t,e1,e2,ht,_,_⟩:=SS hg hv;have et:Eh s a.ax=t:=by unfold Eh;rw [e1,Option.getD_some,e2];rfl
 have h2:=h.2;rw [et]at h2;by_cases h0:a.a7=0
 ·rw [if_pos h0]at h2;exact⟨hv, .inl h0,fun _=>⟨y,t,e1,e2,ht,h2⟩⟩
 ·rw [if_neg h0]at h2;by_cases h1:a.a7=1∨a.a7= -1
  ·exact⟨hv, .inr h1,fun h=>absurd h h0⟩
  ·rw [if_neg h1]at h2;cases h2
structure Jl (s r:AA):Prop where
 ca:CJ r
 small:Fh r
 name:r.ab=s.ab
 ways:r.ak=s.ak
 at_:r.bj.length=s.bj.length
theorem Pk {s:AA} {a:CW} (hS:Fh s) (hg:CJ s) (hA:EN a.fAct) (B4:Iq s a): ∃r:AA × Bool,GL s a=some r∧QS s a=some r∧Jl s r.1:=by
 obtain⟨y,t,e1,e2,ht,HO,hy1⟩:=SS hg B4.oa;have h1:=hg.1;have h4:=hg.2.1;have w:IntKind.i64.wrap ((s.ak.length:Int)-1)=(s.ak.length:Int)-1:=A9 (by omega) (by omega);unfold GL QS;rw [dF hS,vQ hS,Aa,Aa,w];by_cases h0:a.a7=0
 ·obtain⟨y',t',q1,q2,q3,IQ⟩:=B4.act h0;rw [e1]at q1;cases q1;rw [e2]at q2;cases q2;have hI:=hg.2.2.1 t ht;have Ii:=bH hI;have hc:=J6 Ii;have PW:=hS.way t ht;have WZ:=yE hA IQ;have hR:=hg.2.2.2.2.2.2;obtain⟨ol,oo⟩:=vL Ii IQ;have Lf:Gp s a.ax=some t:=by
   unfold Gp;rw [e1,Aa,e2];rfl
  have hD:RP t s.au a.fAct=some ((Bc s.au (DV t a.fAct)).1,(Bc s.au (DV t a.fAct)).2,true):=by
   have dO:RM t a.fAct=some true:=by unfold RM;rw [Sl PW,Aa,Ii,if_pos rfl,pX (by omega) hA,IQ];rfl
   unfold RP;rw [dO,Aa,if_pos rfl,Sr hS.store,Aa,hR,if_neg (by simp),yW PW Ii WZ,Aa,XN ol oo hR];rfl
  have El:=LL ol oo hR;rw [if_neg (by simp [h0]),if_neg (by simp [h0]),e1,Aa,e2,Aa,hD,Lf,Aa,Aa,zJB PW Ii WZ,Aa,zzb ol oo hR,Aa];refine⟨_,rfl,rfl,⟨⟨hg.1,hg.2.1,hg.2.2.1,hg.2.2.2.1,hg.2.2.2.2.1,hg.2.2.2.2.2.1,El⟩,⟨hS.name,hS.ways,hS.way,hS.at_, ?_⟩,rfl,rfl,rfl⟩⟩;have hr:=(Eo El).1;have JJ:=hr.len;exact aD (by show(Bc s.au (DV t a.fAct)).1.length≤2000000;omega) hr.ca
 ·have A0:a.a7=1∨a.a7= -1:=by rcases B4.step with h|h|h;exact absurd h h0;exact .inl h;exact .inr h
  have w2:IntKind.i64.wrap (y+a.a7)=y+a.a7:=A9 (by omega) (by omega);rw [if_pos (by simpa using h0),if_pos (by simpa using h0)];simp only [e1,Aa,w2,Jb,KE];cases hv:BQ (y+a.a7) 0 ((s.ak.length:Int)-1)with
  |false=>exact⟨_,rfl,rfl,⟨hg,hS,rfl,rfl,rfl⟩⟩
  |true=>
   have Ds:=CN.1 hv;refine⟨_,rfl,rfl,⟨⟨hg.1,hg.2.1,hg.2.2.1,hg.2.2.2.1, ?_,fun z hz=> ?_,hg.2.2.2.2.2.2⟩,⟨hS.name,hS.ways,hS.way, ?_,hS.store⟩,rfl,rfl,List.length_set⟩⟩
   ·show BQ (((s.bj.set (a.ax).toNat (y+a.a7)).length:Nat):Int) 1 3=true;rw [List.length_set];exact hg.2.2.2.2.1
   ·rcases List.mem_or_eq_of_mem_set hz with hz|rfl
    ·exact hg.2.2.2.2.2.1 z hz
    ·exact Ds
   ·show(s.bj.set (a.ax).toNat (y+a.a7)).length≤2000000;rw [List.length_set];exact hS.at_
def zKx:AA:=⟨[], [], [], []⟩
theorem xI {α:Type} {f:α→Nat} {n:Nat}: ∀{l:List α},(∀x∈l,f x≤n)→(l.map f).sum≤n*l.length
 | [],_=>by simp
 |x::l,h=>by have h1:=h x (by simp);have h2:=xI (f:=f) (n:=n) (l:=l) fun y hy=>h y (by simp [hy]);rw [List.map_cons,List.sum_cons,Ap,Nat.mul_add];omega
theorem pG {xs:List Af} (h:FO xs≤2000000):Small xs:=by
 have e: ∀l:List Af,DS l=(l.map (fun x:Ac=>x.length)).sum:=by
  intro l
  induction l with
  |nil=>rfl
  |cons s l ih=>simp only [DS,List.map_cons,List.sum_cons,ih]
 unfold FO at h;exact⟨by omega,by rw [e];omega⟩
theorem zBr {t:Ad} (h:En t≤2000000):Du t:=by unfold En Ht at h;have hs:=pG (xs:=t.aq) (by omega);refine⟨by omega,by have:=hs.1;omega,hs.each,by omega,fun x hx=> ?_⟩;have h1:=FP (tot:=I8) hx;have e:I8 x=x.ab.length:=rfl;omega
theorem zCA {s:AA} (h:EZ s≤2000000):Fh s:=by
 unfold EZ at h;have h1:FW s.ak≤2000000:=by omega
 have h2:H2 s.bj≤2000000:=by omega
 have h3:FV s.au≤2000000:=by omega
 refine⟨by omega,by unfold FW at h1;omega,fun t ht=>zBr ?_,by unfold H2 at h2;omega,by unfold FV at h3;omega,fun w hw=> ?_⟩
 ·have:=FP (tot:=En) ht;unfold FW at h1;omega
 ·have:=FP (tot:=HX) hw;have e:HX w=w.af.length+w.ay.length:=rfl;unfold FV at h3;omega
theorem zDx {a:CW} (h:IX a≤2000000):EN a.fAct:=by unfold IX Iv I7 at h;exact⟨pG (by omega),pG (by omega)⟩
theorem zGA {l:List Ab} (h:BZ l=true):FV l≤2000:=by
 obtain⟨hr,_⟩:=Eo h;have hl:=hr.len;have:=xI (f:=HX) (n:=36) (l:=l) fun w hw=>by have h1:=qW (hr.ca w hw);have h2:=VV (hr.ca w hw);unfold HX;omega
 unfold FV;omega
theorem zFW {s r:AA} (h:Jl s r):EZ r≤EZ s+2000:=by have h1:=zGA h.ca.2.2.2.2.2.2;have h2:=h.at_;unfold EZ;rw [h.name,h.ways];unfold H2;omega
def A3:List B0→Nat→Nat→List Ab→Af→List Ab × Nat × Af
 | [],_,n,st,last=>(st,n,last)
 |_::_,0,n,st,last=>(st,n,last)
 |k::ks,m+1,n,st,last=>if(Bc st k.cc).2=true then A3 ks m (n+1) (Bc st k.cc).1 k.a6 else(st,n,last)
def KM (k:B0):Prop:=k.cc.length≤8∧ ∀o∈k.cc,F3 o
theorem RU: ∀(ks:List B0) (m n:Nat) {st:List Ab} {last:Af},(∀k∈ks,KM k)→BZ st=true→BZ (A3 ks m n st last).1=true
 | [],_,_,_,_,_,h=>by simpa [A3]using h
 |_::_,0,_,_,_,_,h=>by simpa [A3]using h
 |k::ks,m+1,n,st,last,hk,h=>by
  unfold A3;split
  ·exact RU ks m (n+1) (fun k h=>hk k (by simp [h])) (LL (hk k (by simp)).1 (hk k (by simp)).2 h)
  ·exact h
theorem zvQ {f:AJ} {many:Nat} {rest:List B0} (hl:rest.length≤2000000) (hm:many≤24) (ho: ∀k∈rest,KM k): ∀(m q:Nat) (st:List Ab) (last:Af),q+m=rest.length→BZ st=true→
  At (fun s:List Ab × Int × Ac=>Kx f many rest s.1 s.2.1 s.2.2) (st,(q:Int),last)=Y9 f rest (A3 (rest.drop q) (many-q) q st last).1 ((A3 (rest.drop q) (many-q) q st last).2.1:Int) (A3 (rest.drop q) (many-q) q st last).2.2
 |0,q,st,last,hq,hg=>by
  have hd:rest.drop q= []:=List.drop_eq_nil_of_le (by omega);rw [hd];refine Db ?_;show Kx f many rest st q last=_;unfold Kx;rw [if_neg (by
   rw [decide_eq_true_eq];cases h:decide ((rest.length:Int)<many)with
   |true=>simp only [cond_true];omega
   |false=>simp only [cond_false];rw [decide_eq_false_iff_not]at h;omega)]
  rfl
 |m+1,q,st,last,hq,hg=>by
  have An:q<rest.length:=by omega
  have hd:rest.drop q=rest[q]::rest.drop (q+1):=List.drop_eq_getElem_cons An;by_cases hqm:q<many
  ·have hc:(q:Int)<(bif decide ((rest.length:Int)<many)then(rest.length:Int)else(many:Int)):=by
    cases h:decide ((rest.length:Int)<many)with
    |true=>simp only [cond_true];omega
    |false=>simp only [cond_false];omega
   obtain⟨h8,tX⟩:=ho _ (List.getElem_mem An);have AU:=zzb h8 tX hg;have Oh:many-q=(many-(q+1))+1:=by omega
   rw [hd,Oh];unfold A3;by_cases Kk:(Bc st rest[q].cc).2=true
   ·rw [if_pos Kk];refine(Dx (?_:Kx f many rest st q last=some (.inl ((Bc st rest[q].cc).1,((q+1:Nat):Int),rest[q].a6)))).trans (zvQ hl hm ho m (q+1) _ _ (by omega) (LL h8 tX hg));unfold Kx;rw [if_pos (decide_eq_true hc),AK An,Aa,AU,Aa,if_neg (by simp [Kk]),AX An (by omega)]
   ·rw [if_neg Kk];refine Db ?_;show Kx f many rest st q last=_;unfold Kx;rw [if_pos (decide_eq_true hc),AK An,Aa,AU,Aa,if_pos (by simpa using Kk)]
  ·have Oh:many-q=0:=by omega
   rw [hd,Oh];refine Db ?_;show Kx f many rest st q last=_;unfold Kx;rw [if_neg (by
    rw [decide_eq_true_eq];cases h:decide ((rest.length:Int)<many)with
    |true=>rw [decide_eq_true_eq]at h;simp only [cond_true];omega
    |false=>simp only [cond_false];omega)]
   rfl
def behind (last k:Af):Bool:= !(Op.bytesLess k last||k==last)
theorem vA {ks:List B0} {st:List Ab} {f:AJ} {many:Int} (hl:ks.length≤2000000) (hk: ∀k∈ks,KM k) (hg:BZ st=true) (h1:1≤many) (h2:many≤24):
  Nf ks st f many=some ((A3 (ks.filter fun k=>behind f.al k.a6) many.toNat 0 st f.al).1,⟨(A3 (ks.filter fun k=>behind f.al k.a6) many.toNat 0 st f.al).2.2,f.bc||((A3 (ks.filter fun k=>behind f.al k.a6) many.toNat 0 st f.al).2.1==(ks.filter fun k=>behind f.al k.a6).length)⟩):=by
 have hc:kX ks=some ks:=Np (by omega) (by omega);have hp: ∀k∈ks,Zt k f=some (Op.bytesLess k.a6 f.al||k.a6==f.al):=fun k _=>rfl;have hD:IW ks (fun y0_=>Zt y0_ f)=some (ks.filter fun k=>behind f.al k.a6):=by unfold IW;rw [AN (by omega),bF _ hp];rfl
 unfold Nf;rw [hc,Aa,hD,Aa];generalize hr:(ks.filter fun k=>behind f.al k.a6)=rest;have JJ:rest.length≤ks.length:=by rw [←hr];exact List.length_filter_le _ _
 have Hi: ∀k∈rest,KM k:=fun k h=>by rw [←hr]at h;exact hk k (List.mem_filter.1 h).1
 obtain⟨m,rfl⟩:=Int.eq_ofNat_of_zero_le (show 0≤many by omega);have e:=zvQ (f:=f) (many:=m) (rest:=rest) (by omega) (by omega) Hi rest.length 0 st f.al (by omega) hg;rw [List.drop_zero,Nat.sub_zero]at e;refine e.trans ?_;rw [Int.toNat_natCast];have EC:=RU rest m 0 (last:=f.al) Hi hg;generalize A3 rest m 0 st f.al=r at EC;unfold Y9;have hR:=(Eo EC).1.len;have AH:OT r.1=some r.1:=Np (by omega) (by omega);have e2:(((r.2.1:Nat):Int)==((rest.length:Nat):Int))=(r.2.1==rest.length):=by rw [Bool.eq_iff_iff,beq_iff_eq,beq_iff_eq];omega
 rw [AH,Aa,e2]
theorem IZ (last k:Af):behind last k=bl last k:=by unfold behind;rw [cV,Bool.not_not]
def EP:List B0→Nat→List Ab→Af→List Ab × Af
 | [],_,st,last=>(st,last)
 |k::ks,m,st,last=>if m=0∨behind last k.a6=false then EP ks m st last else if(Bc st k.cc).2=true then EP ks (m-1) (Bc st k.cc).1 k.a6 else(st,last)
theorem zvX: ∀(ks:List B0) (st:List Ab) (last:Af),EP ks 0 st last=(st,last)
 | [],_,_=>rfl
 |k::ks,st,last=>by unfold EP;rw [if_pos (.inl rfl)];exact zvX ks st last
theorem vM: ∀(ks:List B0) (m n:Nat) (st:List Ab) (last:Af),ks.Pairwise (fun a b=>bl a.a6 b.a6=true)→(∀k∈ks,behind last k.a6=true)→EP ks m st last=((A3 ks m n st last).1,(A3 ks m n st last).2.2)
 | [],m,n,st,last,_,_=>by simp [EP,A3]
 |k::ks,0,n,st,last,_,_=>by rw [zvX];simp [A3]
 |k::ks,m+1,n,st,last,hr,hb=>by
  rw [List.pairwise_cons]at hr;unfold EP A3;rw [if_neg (by rw [hb k (by simp)];simp)];by_cases hd:(Bc st k.cc).2=true
  ·rw [if_pos hd,if_pos hd,Nat.add_sub_cancel];exact vM ks m (n+1) _ _ hr.2 fun q hq=>by rw [IZ];exact hr.1 q hq
  ·rw [if_neg hd,if_neg hd]
theorem zrB: ∀(ks:List B0) (m:Nat) (st:List Ab) (last:Af),ks.Pairwise (fun a b=>bl a.a6 b.a6=true)→EP ks m st last=EP (ks.filter fun k=>behind last k.a6) m st last
 | [],m,st,last,_=>rfl
 |k::ks,m,st,last,hr=>by
  rw [List.pairwise_cons]at hr;by_cases hb:behind last k.a6=true
  ·have Cd:ks.filter (fun k=>behind last k.a6)=ks:=List.filter_eq_self.2 fun q hq=>by
    rw [IZ]at hb ⊢;exact FZ hb (hr.1 q hq)
   rw [List.filter_cons_of_pos (by simpa using hb),Cd]
  ·rw [List.filter_cons_of_neg (by simpa using hb)];have:EP (k::ks) m st last=EP ks m st last:=by
    rw [EP,if_pos (.inr (by simpa using hb))]
   rw [this];exact zrB ks m st last hr.2
theorem zvo {ks:List B0} {m:Nat} {st:List Ab} {last:Af} (hr:ks.Pairwise (fun a b=>bl a.a6 b.a6=true)):EP ks m st last=((A3 (ks.filter fun k=>behind last k.a6) m 0 st last).1,(A3 (ks.filter fun k=>behind last k.a6) m 0 st last).2.2):=
 (zrB ks m st last hr).trans (vM _ m 0 st last (hr.filter _) fun k hk=>by simpa using(List.mem_filter.1 hk).2)
theorem sE: ∀(ks:List B0) (m n:Nat) (st:List Ab) (last:Af),n≤(A3 ks m n st last).2.1∧(A3 ks m n st last).2.1≤n+ks.length
 | [],m,n,st,last=>by simp [A3]
 |k::ks,0,n,st,last=>by simp [A3]
 |k::ks,m+1,n,st,last=>by
  unfold A3;split
  ·have:=sE ks m (n+1) (Bc st k.cc).1 k.a6;simp only [Ap];omega
  ·simp
theorem aL: ∀(ks:List B0) (m n:Nat) (st:List Ab) (last:Af),ks.Pairwise (fun a b=>bl a.a6 b.a6=true)→(∀k∈ks,bl last k.a6=true)→ ∀(i:Nat) (h:i<ks.length),bl (A3 ks m n st last).2.2 ks[i].a6=decide ((A3 ks m n st last).2.1≤n+i)
 | [],_,_,_,_,_,_,i,h=>by simp at h
 |k::ks,0,n,st,last,_,hb,i,h=>by simp only [A3];rw [hb _ (List.getElem_mem h)];exact(decide_eq_true (by omega)).symm
 |k::ks,m+1,n,st,last,hr,hb,i,h=>by
  rw [List.pairwise_cons]at hr;unfold A3;split
  ·cases i with
   |zero=>
    have h1:=sE ks m (n+1) (Bc st k.cc).1 k.a6;rw [decide_eq_false (by omega)];have key: ∀(ks:List B0) (m n:Nat) (st:List Ab) (last:Af),ks.Pairwise (fun a b=>bl a.a6 b.a6=true)→(∀q∈ks,bl last q.a6=true)→(A3 ks m n st last).2.2=last∨bl last (A3 ks m n st last).2.2=true:=by
     intro ks
     induction ks with
     |nil=>intro m n st last _ _;left;simp [A3]
     |cons q ks ih=>
      intro m n st last hr hb;rw [List.pairwise_cons]at hr;cases m with
      |zero=>left;simp [A3]
      |succ m=>
       unfold A3;split
       ·rcases ih m (n+1) (Bc st q.cc).1 q.a6 hr.2 hr.1 with e|e
        ·rw [e];exact .inr (hb q (by simp))
        ·exact .inr (FZ (hb q (by simp)) e)
       ·left;rfl
    show bl _ k.a6=false;rcases key ks m (n+1) (Bc st k.cc).1 k.a6 hr.2 hr.1 with e|e
    ·rw [e];cases G7:bl k.a6 k.a6 with
     |false=>rfl
     |true=>exact absurd rfl (F0 G7)
    ·cases G7:bl (A3 ks m (n+1) (Bc st k.cc).1 k.a6).2.2 k.a6 with
     |false=>rfl
     |true=>exact absurd rfl (F0 (FZ e G7))
   |succ i=>have:=aL ks m (n+1) (Bc st k.cc).1 k.a6 hr.2 hr.1 i (by simpa using h);rw [List.getElem_cons_succ,this];congr 1;rw [eq_iff_iff];omega
  ·rw [hb _ (List.getElem_mem h)];exact(decide_eq_true (show n≤n+i by omega)).symm
def KN (ks:List B0) (f:AJ) (m:Nat) (st:List Ab):List Ab × AJ:=((A3 (ks.filter fun k=>behind f.al k.a6) m 0 st f.al).1,⟨(A3 (ks.filter fun k=>behind f.al k.a6) m 0 st f.al).2.2,f.bc||((A3 (ks.filter fun k=>behind f.al k.a6) m 0 st f.al).2.1==(ks.filter fun k=>behind f.al k.a6).length)⟩)
theorem bA {c:UInt8}: ∀{p q:Af},(∀b∈p,b≠c)→B1 c (p++ [c]++q)=p::B1 c q:=fun{p q} h=>by rw [List.append_assoc];exact Nj h
theorem PI {b:UInt8} (h:E2 b=true):b≠47∧b≠44∧b≠46:=by refine⟨?_, ?_, ?_⟩<;>(rintro rfl;revert h;decide)
theorem zIa {t:Ad} {n:Af} (hg:Be t=true) (hn:CX n 1=true): ∀b∈head t n,b≠47:=by
 intro b hb;unfold head at hb;simp only [Ai,List.mem_singleton]at hb;rcases hb with(hb|hb)|hb
 ·exact(PI (RV (LG hg) b hb)).1
 ·subst hb;decide
 ·exact(PI (RV hn b hb)).1
theorem Sc {t:Ad} {n:Af} {c:Int} {r:AL} (hg:Be t=true) (hn:CX n 1=true) (h:Bo t r=true):B1 47 (BJ t n c r)= [head t n,C3 r c,C3 r 0]:=by unfold BJ;rw [show head t n++ [47]++C3 r c++ [47]++C3 r 0=head t n++ [47]++(C3 r c++ [47]++C3 r 0) by simp,bA (zIa hg hn),bA fun b hb=>(PI (SB h c b hb)).1,LB fun b hb=>(PI (SB h 0 b hb)).1]
theorem LF (t:Ad) (r:AL):(AZ t r).af=t.ab++ [47]++C3 r 0:=by unfold AZ C3;rw [List.head?_eq_getElem?];rfl
theorem zyS {t:Ad} {r:AL} (hg:Be t=true) (h:Bo t r=true):B1 47 (AZ t r).af= [t.ab,C3 r 0]:=by rw [LF,bA fun b hb=>(PI (RV (LG hg) b hb)).1,LB fun b hb=>(PI (SB h 0 b hb)).1]
theorem zyB {t:Ad} {n:Af} {r:AL} (hg:Be t=true) (h:Bo t r=true):CY t n (AZ t r).af=false:=by unfold CY;rw [zyS hg h]
theorem zy6 {t:Ad} {r:AL} {c:Int} (h:Bo t r=true) (h0:0≤c) (h1:c≤(t.aq.length:Int)-1):field (C3 r c)=true:=by
 unfold Bo at h;simp only [Ae,beq_iff_eq]at h;have hl:c.toNat<r.ar.length:=by have:=h.1;omega
 unfold C3;rw [List.getElem?_eq_getElem hl];exact AR.1 h.2 _ (List.getElem_mem hl)
theorem R6 {t:Ad} {n m:Af} {c:Int} {r:AL} (hg:Be t=true) (hm:CX m 1=true) (h:Bo t r=true) (h0:0≤c) (h1:c≤(t.aq.length:Int)-1):CY t n (BJ t m c r)=decide (m=n):=by
 have hc:=J6 hg;unfold CY;rw [Sc hg hm h];simp only [zy6 h h0 h1,zy6 h (show(0:Int)≤0 by omega) (by omega),Bool.and_true];rw [Bool.eq_iff_iff];simp only [beq_iff_eq,decide_eq_true_eq];unfold head;constructor
 ·intro e;exact List.append_cancel_left e
 ·rintro rfl;rfl
theorem zuc {t:Ad} {n:Af} {c:Int} {r r':AL} (hg:Be t=true) (hn:CX n 1=true) (h:Bo t r=true) (h':Bo t r'=true) (e:BJ t n c r=BJ t n c r'):C3 r 0=C3 r' 0:=by have h1:=Sc (c:=c) hg hn h;rw [e,Sc hg hn h']at h1;simp only [List.cons.injEq,and_true]at h1;exact h1.2.2.symm
theorem aP {t:Ad} {n:Af} {c:Int} {r r':AL} (hg:Be t=true) (hn:CX n 1=true) (h:Bo t r=true) (h':Bo t r'=true):(AZ t r).af≠BJ t n c r':=by intro e;have h1:=zyS hg h;rw [e,Sc hg hn h']at h1;simp at h1
theorem zBC {xs:List Af} (hx:xs≠ []) (h: ∀x∈xs,∀b∈x,b≠44):B1 44 (Lib.join xs [44])=xs:=by
 induction xs with
 |nil=>exact absurd rfl hx
 |cons x r ih=>
  cases r with
  |nil=>rw [Lib.join_one,LB (h x (by simp))]
  |cons y r=>
   have e:Lib.join (x::y::r) [44]=x++ [44]++Lib.join (y::r) [44]:=by rw [Lib.join_cons,Lib.join_cons];simp [Lib.joinTail]
   rw [e,bA (h x (by simp)),ih (by simp) fun z hz=>h z (by simp [hz])]
theorem Wf {t:Ad} {r:AL} (hg:Be t=true) (h:Bo t r=true):B9 (AZ t r)=r:=by
 have hc:=J6 hg;have hn:=RS (LG hg);have hl:=h;unfold Bo at hl;simp only [Ae,beq_iff_eq]at hl;have hf:=pL h;obtain⟨vs⟩:=r;cases vs with
 |nil=>simp at hl;omega
 |cons v vs=>
  have Bl:vs≠ []:=by rintro rfl;simp at hl;omega
  unfold B9 AZ;simp only [List.head?_cons,Option.getD_some,List.tail_cons];rw [zBC Bl fun x hx b hb=>(PI (hf x (by simp [hx]) b hb)).2.1];congr 1;congr 1;have:(t.ab++ [47]++v).drop 2=v:=by rw [List.drop_append_of_le_length (by simp [hn])];rw [List.drop_of_length_le (by simp [hn])];rfl
  exact this
theorem zJl {t:Ad} {r:AL} (hg:Be t=true) (h:Bo t r=true):Cy t (AZ t r)=true:=by unfold Cy;rw [Wf hg h,h];unfold Kd;simp
theorem GN {t:Ad} {w:Ab} (h:Cy t w=true):Bo t (B9 w)=true∧w=AZ t (B9 w):=by unfold Cy Kd at h;simp only [Ae,beq_iff_eq]at h;obtain⟨h1,h2,h3,h4⟩:=h;refine⟨h1, ?_⟩;cases w;cases hq:AZ t (B9 _);rename_i a b c d e f;rw [hq]at h2 h3 h4;simp only at h2 h3 h4;rw [h2,h3,h4]
def H8 (t:Ad) (a:Bf):List Ab:=
 if a.aj=1 then [⟨(AZ t a.bm).af,(AZ t a.bm).ay,false⟩]else
 if a.aj=2 then [⟨(AZ t a.bg).af, [],true⟩]else [⟨(AZ t a.bg).af,(AZ t a.bm).ay,false⟩]
def Gu (t:Ad) (a:Bf) (x:Au):List Ab:=
 (if ER t a x≠ []∧ER t a x≠DX t a x∧x.ao≥1 then [⟨ER t a x, [],true⟩]else [])++(if DX t a x≠ []∧x.ao≥2 then [⟨DX t a x, [],false⟩]else [])
def DW (t:Ad) (a:Bf):List Ab:=H8 t a++t.ah.flatMap (Gu t a)
def SN (t:Ad) (a:Bf) (st st':List Ab):Prop:=
 ∀y,y∈st'↔y.bf=false∧(y∈DW t a∨y∈st∧ ∀w∈DW t a,w.af≠y.af)
def kJ (t:Ad) (a:Bf) (st:List Ab):Prop:=
 (a.aj=1→ ∀w∈st,w.af≠(AZ t a.bm).af)∧(a.aj≠1→AZ t a.bg∈st)
theorem RW {t:Ad} (h:Be t=true):Du t:=by
 have hn:=(VM (LG h)).1;have h0:=h;unfold Be at h;simp only [Ae,decide_eq_true_eq]at h;have hl:=CN.1 h.1.1.2.2;have hc:=h.1.1.2.1;refine⟨by omega,by omega,fun c hm=> ?_,by omega,fun x hx=> ?_⟩
 ·obtain⟨i,hi,rfl⟩:=List.mem_iff_getElem.1 hm;unfold NB at hc;have:=AR.1 hc i (List.mem_range.2 hi);unfold NH at this;rw [List.getElem?_eq_getElem hi]at this;simp only [Option.getD_some,Ae]at this;have:=(VM this.1).1;omega
 ·have:=(VM (FY h0 hx).1).1;omega
structure jC (l:List Af):Prop where
 len:l.length≤10
 each: ∀s∈l,s.length≤10
theorem jC.small {l:List Af} (h:jC l):Small l:=⟨by have:=h.len;omega,by
 have h1:=qP h.each;have h2:=h.len;have h3:10*l.length≤100:=by omega
 omega⟩
theorem bD {t:Ad} {r:AL} (hg:Be t=true) (h:Bo t r=true):jC r.ar∧2≤r.ar.length:=by
 have Mh:=J6 hg;have h4:t.aq.length≤4:=by have:=hg;unfold Be at this;simp only [Ae,decide_eq_true_eq]at this;have:=CN.1 this.1.1.2.2;omega
 unfold Bo at h;rw [Ae,beq_iff_eq]at h;exact⟨⟨by omega,fun s hs=>by have:=rB (AR.1 h.2 s hs);omega⟩,by omega⟩
theorem zFM {k v:Af} (h1:Ao k=true) (h2:Gs v=true):Dg ⟨k,v,false⟩=true:=by unfold Dg H6;rw [h1,h2];rfl
theorem zvH {t:Ad} {r:AL} (hg:Be t=true) (h:Bo t r=true):KS t r:=⟨by have h1:=h;unfold Bo at h1;rw [Ae,beq_iff_eq]at h1;omega,(bD hg h).1.small⟩
theorem VQ {t:Ad} {l:List Ab} {r:AL} (h:r∈rows t l):Bo t r=true:=by unfold rows at h;obtain⟨w,hw,rfl⟩:=List.mem_map.1 h;exact(GN (List.mem_filter.1 hw).2).1
theorem zzL {t:Ad} {x:Au} {r:AL} (hg:Be t=true) (hx:x∈t.ah) (hr:Bo t r=true):Nc t x r=some (BJ t x.ab x.bh r)∧Dg ⟨BJ t x.ab x.bh r, [],false⟩=true:=by have hS:=RW hg;exact⟨cP hS.name (hS.idx x hx) (sG hg hx) (zvH hg hr),zFM (bK hg (FY hg hx).1 hr) (by decide)⟩
theorem aR {w:Ab} (h:Dg w=true):GY w:=⟨by have:=qW h;omega,by have:=VV h;omega⟩
end Go.Proofs.YtfdfahjmonlbiaaGreatDoor
end
