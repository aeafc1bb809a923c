/- Parts of a proof, joined: N6, N7, N8, N9, N10, N11, N12, N13, N14, N15, N16, PK, NK, NP, NQ, NX, NS, NT, NV, NU, NH, NVG, NDA, NDB, NKX, NKV. -/
import Derived.Test.YtagokdejdanfcaaGreatDoorE7
set_option linter.unusedVariables false
set_option linter.unusedSimpArgs false
section
namespace Go.Proofs.YtagokdejdanfcaaGreatDoor
open Go.RowKit
set_option maxRecDepth 100000
set_option maxHeartbeats 1000000
def small (b:UInt8):Bool:= !(decide ((b.toNat:Int)<97)||decide ((b.toNat:Int)>122))
def Ci (s:Ai) (n:Int):Bool:=s.all small&&Dm s.length 1 n
theorem VY {s:Ai} {n:Int} (h:s.length≤2000000):Mn s n=some (Ci s n):=by
 unfold Mn;rw [MR (xs:=s) small false (UN s n) (fun i hi=>by simp only [UM,Int.ofNat_lt,hi,decide_true,if_true,CO hi,Ab,D6 hi (by omega:s.length≤_)];rw [show(decide ((s[i].toNat:Int)<97)||decide ((s[i].toNat:Int)>122))= !small s[i] by simp [small]];cases small s[i]<;>rfl) (by simp [UM])]
 unfold UN Ci Dm;cases s.all small<;>simp
theorem VQ {s:Ai} {n:Int} (h:s.length≤2000000):Mm s n=some (Ci s n):=by
 unfold Mm;rw [MR (xs:=s) small false (UO s n) (fun i hi=>by simp only [U5,Int.ofNat_lt,hi,decide_true,if_true,CO hi,Ab,D6 hi (by omega:s.length≤_)];rw [show(decide ((s[i].toNat:Int)<97)||decide ((s[i].toNat:Int)>122))= !small s[i] by simp [small]];cases small s[i]<;>rfl) (by simp [U5])]
 simp only [UO,Sj,Ab,Ci];cases s.all small<;>simp
theorem u3 {xs:List Ai} {s:Ai} (h:xs.length≤2000000):Rp xs s=some (B2 (· ==s) xs):=by unfold Rp;refine Wx (· ==s) (fun i hi=> ?_) (by simp [Ve]);simp only [Ve,Int.ofNat_lt,hi,decide_true,if_true,CO hi,Ab,D6 hi (by omega:xs.length≤_)];cases xs[i]==s<;>rfl
theorem pL {xs:List Ai} {s:Ai} (h:xs.length≤2000000):QQ xs s=some (B2 (· ==s) xs):=by unfold QQ;refine Wx (· ==s) (fun i hi=> ?_) (by simp [UJ]);simp only [UJ,Int.ofNat_lt,hi,decide_true,if_true,CO hi,Ab,D6 hi (by omega:xs.length≤_)];rw [show(s==xs[i])=(xs[i]==s)from BEq.comm];cases xs[i]==s<;>rfl
theorem cP (xs:List Ai) (s:Ai):(xs.any fun x=>x==s)=xs.contains s:=by rw [List.contains_eq_any_beq];congr 1;funext x;exact BEq.comm
theorem uD {xs:List Ai} {s:Ai} (h:xs.length≤2000000):QO xs s=some (xs.contains s):=by simp only [QO,pL h,Ab,Wn,cP]
def Kp (cs:List Ai) (i:Nat):Bool:=Ci ((cs[i]?).getD []) 3&& !(cs.take i).contains ((cs[i]?).getD [])
def Ie (cs:List Ai):Bool:=(List.range cs.length).all (Kp cs)
def FW (t:Ah) (i:Nat):Bool:=
 let x:=(t.ae[i]?).getD ⟨[],0,0⟩
 Ci x.ab 1&&Dm x.cq 1 ((t.ax.length:Int)-1)&&Dm x.bc 0 3&&(i==0||Op.bytesLess ((t.ae[i-1]?).getD ⟨[],0,0⟩).ab x.ab)
def AT (t:Ah):Bool:=Ci t.ab 1&&(Ie t.ax&&Dm t.ax.length 2 4)&&decide ((t.ae.length:Int)≤3)&&(List.range t.ae.length).all (FW t)
structure D4 (t:Ah):Prop where
 name:t.ab.length≤2000000
 gp:t.ax.length≤2000000
 ki: ∀c∈t.ax,c.length≤2000000
 idxs:t.ae.length≤2000000
 idx: ∀x∈t.ae,x.ab.length≤2000000
theorem Qe {α:Type} (xs:List α) (i:Nat):AL xs 0 i=xs.take i:=by simp [AL]
theorem sR {cs:List Ai} (h:cs.length≤2000000) (hc: ∀c∈cs,c.length≤2000000):RG cs=some (Ie cs&&Dm cs.length 2 4):=by
 unfold RG;rw [Ph (n:=cs.length) (Kp cs) false (UZ cs) ?_ (by simp [U1])]
 ·simp only [UZ,WZ,Ab,Ie];cases(List.range cs.length).all (Kp cs)<;>simp
 ·intro i hi;unfold U1 Kp;rw [if_pos (by simpa using hi),CO hi,Ab,VY (hc _ (List.getElem_mem hi)),Ab,AY (by omega),Qe,u3 (by rw [List.length_take];omega),Ab,Wn,cP,D6 hi (by omega)];simp only [List.getElem?_eq_getElem hi,Option.getD_some];cases Ci cs[i] 3<;>cases(cs.take i).contains cs[i]<;>rfl
theorem aG {t:Ah} (h:D4 t):O1 t=some (AT t):=by
 have hw:=CD (n:=(t.ax.length:Int)-1) (by omega) (by have:=h.gp;omega);have hn:=h.idxs;have hl:BA (fun s:Int=>Q7 t s) 0=some ((List.range t.ae.length).all (FW t)):=by
  rw [Ph (n:=t.ae.length) (FW t) false (some true) ?_ (by simp [Q7])]
  ·cases(List.range t.ae.length).all (FW t)<;>rfl
  ·intro i hi;unfold FW;simp only [Q7,Int.ofNat_lt,hi,decide_true,if_true,CO hi,Ab,VY (h.idx _ (List.getElem_mem hi)),WZ,hw,D6 hi (by omega:t.ae.length≤_),List.getElem?_eq_getElem hi,Option.getD_some];by_cases h0:i=0
   ·subst h0;cases Ci t.ae[0].ab 1<;>cases Dm t.ae[0].cq 1 ((t.ax.length:Int)-1)<;>cases Dm t.ae[0].bc 0 3<;>rfl
   ·have hp:(i:Int)>0:=by omega
    have Ob:i-1<t.ae.length:=by omega
    have hb:(i==0)=false:=by simpa using h0
    simp only [hp,decide_true,if_true,bL (Nat.pos_of_ne_zero h0) (by omega:i≤2000000),CO Ob,Ab,List.getElem?_eq_getElem Ob,Option.getD_some,hb,Bool.false_or];cases Ci t.ae[i].ab 1<;>cases Dm t.ae[i].cq 1 ((t.ax.length:Int)-1)<;>cases Dm t.ae[i].bc 0 3<;>cases Op.bytesLess t.ae[i-1].ab t.ae[i].ab<;>rfl
 unfold O1 AT;rw [VY h.name,Ab,sR h.gp h.ki,hl];by_cases hk:(t.ae.length:Int)≤3
 ·have Bw: ¬(t.ae.length:Int)>3:=by omega
  simp only [hk,Bw,decide_true,decide_false,Bool.or_false,Bool.and_true];cases Ci t.ab 1<;>cases(Ie t.ax&&Dm t.ax.length 2 4)<;>simp
 ·have Bw:(t.ae.length:Int)>3:=by omega
  simp only [hk,Bw,decide_true,decide_false,Bool.or_true,Bool.and_false,Bool.false_and];cases Ci t.ab 1<;>simp
theorem aD {t:Ah} (h:D4 t):OZ t=some (AT t):=by
 have hw:=CD (n:=(t.ax.length:Int)-1) (by omega) (by have:=h.gp;omega);have hn:=h.idxs;have hm:=h.gp;have hl:BA (fun s:Int=>Ra t s) 0=some ((List.range t.ae.length).all (FW t)):=by
  rw [Ph (n:=t.ae.length) (FW t) false (some true) ?_ (by simp [Ra])]
  ·cases(List.range t.ae.length).all (FW t)<;>rfl
  ·intro i hi;unfold FW;simp only [Ra,Vm,Int.ofNat_lt,hi,decide_true,if_true,CO hi,Ab,VQ (h.idx _ (List.getElem_mem hi)),Sj,hw,D6 hi (by omega:t.ae.length≤_),List.getElem?_eq_getElem hi,Option.getD_some];by_cases h0:i=0
   ·subst h0;cases Ci t.ae[0].ab 1<;>cases Dm t.ae[0].cq 1 ((t.ax.length:Int)-1)<;>cases Dm t.ae[0].bc 0 3<;>rfl
   ·have hp:(i:Int)>0:=by omega
    have Ob:i-1<t.ae.length:=by omega
    have hb:(i==0)=false:=by simpa using h0
    simp only [hp,decide_true,if_true,bL (Nat.pos_of_ne_zero h0) (by omega:i≤2000000),CO Ob,Ab,List.getElem?_eq_getElem Ob,Option.getD_some,hb,Bool.false_or,aS];cases Ci t.ae[i].ab 1<;>cases Dm t.ae[i].cq 1 ((t.ax.length:Int)-1)<;>cases Dm t.ae[i].bc 0 3<;>cases Op.bytesLess t.ae[i-1].ab t.ae[i].ab<;>rfl
 have hc:BA (fun s:Int=>Q5 t s) 0=some (Ie t.ax&&(List.range t.ae.length).all (FW t)):=by
  rw [Ph (n:=t.ax.length) (Kp t.ax) false (U6 t) ?_ (by simp [Q5])]
  ·unfold U6 Ie;rw [hl];cases(List.range t.ax.length).all (Kp t.ax)<;>simp
  ·intro i hi;unfold Q5 Kp;rw [if_pos (by simpa using hi),CO hi,Ab,VQ (h.ki _ (List.getElem_mem hi)),Ab,AY (by omega),Qe,uD (by rw [List.length_take];omega),Ab,D6 hi (by omega)];simp only [List.getElem?_eq_getElem hi,Option.getD_some];cases Ci t.ax[i] 3<;>cases(t.ax.take i).contains t.ax[i]<;>rfl
 unfold OZ AT;rw [VQ h.name,Ab,Sj,Ab,hc];by_cases hk:(t.ae.length:Int)≤3
 ·have Bw: ¬(t.ae.length:Int)>3:=by omega
  simp only [hk,Bw,decide_true,decide_false,Bool.or_false,Bool.and_true];cases Ci t.ab 1<;>cases Ie t.ax<;>cases Dm t.ax.length 2 4<;>simp
 ·have Bw:(t.ae.length:Int)>3:=by omega
  simp only [hk,Bw,decide_true,decide_false,Bool.or_true,Bool.and_false,Bool.false_and];cases Ci t.ab 1<;>simp
theorem tR {t:Ah} {s:Ai} (h:D4 t):Rr t s=some (B2 (fun x:AU=>x.ab==s) t.ae):=by have hn:=h.idxs;unfold Rr;refine Wx (fun x:AU=>x.ab==s) (fun i hi=> ?_) (by simp [Vh]);simp only [Vh,Int.ofNat_lt,hi,decide_true,if_true,CO hi,Ab,D6 hi (by omega:t.ae.length≤_)];cases t.ae[i].ab==s<;>rfl
theorem cC {t:Ah} {s:Ai} (h:D4 t):OS t s=some (B2 (fun x:AU=>x.ab==s) t.ae):=by have hn:=h.idxs;have e:HC t.ae (fun y0_=>UU y0_ s)=some (B2 (fun x:AU=>x.ab==s) t.ae):=mG (fun x:AU=>x.ab==s) (fun x _=>rfl) (by omega);simp only [OS,e,Ab]
def AI (c:UInt8):Ai→List Ai
 | []=> [[]]
 |b::s=>if b=c then []::AI c s else(match AI c s with| []=> [[b]]|x::xs=>(b::x)::xs)
theorem Zx (c:UInt8) (s:Ai):AI c s≠ []:=by
 cases s with
 |nil=>simp [AI]
 |cons b s=>simp only [AI];split;simp;split<;>simp
theorem HA {c:UInt8}: ∀{s:Ai},(∀b∈s,b≠c)→AI c s= [s]
 | [],_=>rfl
 |b::s,h=>by have e:=HA (c:=c) (s:=s) fun x hx=>h x (List.mem_cons_of_mem _ hx);simp only [AI,if_neg (h b (by simp)),e]
theorem DK {c:UInt8}: ∀{p q:Ai},(∀b∈p,b≠c)→AI c (p++c::q)=p::AI c q
 | [],q,_=>by simp [AI]
 |b::p,q,h=>by have e:=DK (c:=c) (p:=p) (q:=q) fun x hx=>h x (List.mem_cons_of_mem _ hx);simp only [List.cons_append,AI,if_neg (h b (by simp)),e]
theorem VZ (c:UInt8) (s:Ai):(AI c s).length=s.count c+1:=by
 induction s with
 |nil=>rfl
 |cons b s ih=>
  simp only [AI];by_cases h:b=c
  ·subst h;simp [ih]
  ·rw [if_neg h,List.count_cons_of_ne h];cases hs:AI c s with
   |nil=>exact absurd hs (Zx c s)
   |cons x xs=>rw [hs]at ih;simpa using ih
theorem Qb {α:Type} (xs:List α) (i j:Nat):AL xs (i:Int) (j:Int)=(xs.take j).drop i:=by simp [AL]
def S4 (c:UInt8) (s:Ai) (t:List Ai × Nat) (i:Nat):List Ai × Nat:=if(s[i]?).getD 0=c then(t.1++ [(s.take i).drop t.2],i+1)else t
theorem WD {s:Ai} {c:UInt8} (h:s.length≤2000000):IW s c.toNat=some (AI c s):=by
 have h1:=Pn (xs:=List.range s.length) (body:=fun t:List Ai × Int × Int=>Mp s c.toNat t.1 t.2.1 t.2.2) (fun i (t:List Ai × Nat)=>(t.1,(t.2:Int),i)) (S4 c s) (fun t=>U4 s t.2 t.1)
  (fun i t=>t.2≤i∧(∀b∈(s.take i).drop t.2,b≠c)∧t.1++AI c (s.drop t.2)=AI c s∧t.1.length≤i)
  (fun i hi t hI=>by
   rw [List.length_range]at hi;obtain⟨I1,I2,I3,I4⟩:=hI;have hw:=D6 hi (by omega:s.length≤_);rw [List.getElem_range];constructor
   ·show Mp s c.toNat t.1 t.2 i=_;unfold Mp S4;rw [if_pos (by simpa using hi),CO hi,Ab,cX,hw,Qb,List.getElem?_eq_getElem hi,Option.getD_some];by_cases hc:s[i]=c
    ·have hr:((t.1.length:Int)+(([(s.take i).drop t.2]:List Ai).length:Int))*16≤140737488355328∧(t.1.length:Int)+(([(s.take i).drop t.2]:List Ai).length:Int)≤140737488355328:=by
      rw [Bd];omega
     rw [if_pos (by simpa using hc),AY (by omega),AY hr,if_pos hc]
    ·rw [if_neg (by simpa using hc),if_neg hc]
   ·unfold S4;rw [List.getElem?_eq_getElem hi,Option.getD_some];have BF:s.take (i+1)=s.take i++ [s[i]]:=by rw [List.take_succ_eq_append_getElem hi]
    have hd:(s.take (i+1)).drop t.2=(s.take i).drop t.2++ [s[i]]:=by rw [BF,List.drop_append_of_le_length (by rw [List.length_take];omega)]
    by_cases hc:s[i]=c
    ·rw [if_pos hc];refine⟨Nat.le_refl _,by simp, ?_,by simp;omega⟩;have e:s.drop t.2=(s.take i).drop t.2++c::s.drop (i+1):=by
      have e0:s.drop t.2=(s.take i).drop t.2++s.drop i:=by
       conv=>lhs;rw [←List.take_append_drop i s]
       rw [List.drop_append_of_le_length (by rw [List.length_take];omega)]
      rw [e0,List.drop_eq_getElem_cons hi,hc]
     rw [e,DK I2]at I3;simpa using I3
    ·rw [if_neg hc];refine⟨by omega, ?_,I3,by omega⟩;rw [hd];intro b hb;rcases Ag.1 hb with hb|hb
     ·exact I2 b hb
     ·simp at hb;subst hb;exact hc)
  (fun t hI=>by show Mp s c.toNat t.1 t.2 ((List.range s.length).length:Nat)=_;unfold Mp;rw [if_neg (by simp)]) (s:=([],0)) ⟨Nat.le_refl _,by simp,by simp,by simp⟩
 generalize (List.range s.length).foldl (S4 c s) ([],0)=t at h1;rw [List.length_range]at h1;obtain⟨h2,I1,I2,I3,I4⟩:=h1;unfold IW;refine Eq.trans h2 ?_;unfold U4;have hw:AL s (t.2:Int) (s.length:Int)=s.drop t.2:=by rw [Qb,List.take_length]
 have hr:((t.1.length:Int)+(([s.drop t.2]:List Ai).length:Int))*16≤140737488355328∧(t.1.length:Int)+(([s.drop t.2]:List Ai).length:Int)≤140737488355328:=by rw [Bd];omega
 rw [hw,AY (by omega),AY hr,←I3];rw [List.take_length]at I2;rw [HA I2]
theorem kK (l:Ai) (c:UInt8):(Lib.indexByte l c= -1∧ ∀b∈l,b≠c)∨ ∃p q:Ai,l=p++c::q∧(∀b∈p,b≠c)∧Lib.indexByte l c=p.length:=by
 induction l with
 |nil=>exact .inl ⟨rfl,by simp⟩
 |cons b l ih=>
  unfold Lib.indexByte;by_cases hb:b=c
  ·subst hb;exact .inr ⟨[],l,by simp,by simp,by simp⟩
  ·have h1:(b==c)=false:=by simpa using hb
   rw [h1];simp only [BW,if_false];rcases ih with⟨e,h⟩|⟨p,q,rfl,h,e⟩
   ·refine .inl ⟨by simp [e],fun x hx=> ?_⟩;rcases Ad.1 hx with rfl|hx
    ·exact hb
    ·exact h x hx
   ·refine .inr ⟨b::p,q,by simp,fun x hx=> ?_, ?_⟩
    ·rcases Ad.1 hx with rfl|hx
     ·exact hb
     ·exact h x hx
    ·rw [e];have:((p.length:Int)== -1)=false:=by rw [beq_eq_false_iff_ne];omega
     rw [this];simp
theorem Ze {c:UInt8} {s:Ai} (h: ∀b∈s,b≠c):s.count c=0:=List.count_eq_zero.2 fun hc=>h c hc rfl
theorem qS {c:UInt8} {p q:Ai} (h: ∀b∈p,b≠c):(p++c::q).count c=q.count c+1:=by rw [List.count_append,Ze h,List.count_cons_self];omega
theorem Zs {α:Type} {a:List α} {i:Nat} (x:α) (h:i<a.length):(a.set i x).take (i+1)=a.take i++ [x]:=by rw [List.take_succ_eq_append_getElem (by simpa using h),List.getElem_set_self,List.take_set,List.set_eq_of_length_le (by rw [List.length_take];omega)]
theorem tU {a b:Int} (h: ¬a<b):(bif decide (a<b)then a else b)=b:=by simp [h]
theorem Z9 {s:Ai} {c:UInt8} (h:s.length≤2000000):OX s [c]=some (AI c s):=by
 have At:s.count c≤s.length:=List.count_le_length;have Le:IntKind.i64.wrap ((s.count c:Int)+1)=(s.count c:Int)+1:=CD (by omega) (by omega);have Ht:IntKind.i64.wrap ((s.length:Int)+1)=(s.length:Int)+1:=CD (by omega) (by omega);have KK:(bif decide ((s.length:Int)+1<(s.count c:Int)+1)then(s.length:Int)+1 else(s.count c:Int)+1)=(s.count c:Int)+1:=tU (by omega);have X2:IntKind.i64.wrap ((s.count c:Int)+1-1)=(s.count c:Int):=by rw [CD (by omega) (by omega)];omega
 have key: ∀(n:Nat) (r:Ai) (a:List Ai) (i:Nat),r.count c=n→r.length≤s.length→a.length=s.count c+1→i+n=s.count c→a.take i++AI c r=AI c s→
   BA (fun t:Ai × Int × List Ai=>Mf s [c] 0 ((s.count c:Int)+1) t.1 t.2.1 t.2.2) (r,(i:Int),a)=some (AI c s):=by
  intro n
  induction n with
  |zero=>
   intro r a i hr hl ha hi hI;have GC: ∀b∈r,b≠c:=fun b hb e=>by subst e;exact List.count_eq_zero.1 hr hb
   have KV:i<a.length:=by omega
   have Uy:=D6 KV (by omega);have hb:Mf s [c] 0 ((s.count c:Int)+1) r i a=some (.inr (some (AI c s))):=by unfold Mf;rw [Ht,KK,X2,if_neg (by simp;omega)];unfold UP;rw [CO KV,Ab,Uy,Int.toNat_natCast,AY (by rw [List.length_set];omega),Qe,Zs r KV,←hI,HA GC]
   rw [HF];dsimp only;rw [hb]
  |succ n ih=>
   intro r a i hr hl ha hi hI;rcases kK r c with⟨_,h0⟩|⟨p,q,rfl,hp,hx⟩
   ·rw [Ze h0]at hr;omega
   ·rw [qS hp]at hr;have KV:i<a.length:=by omega
    have Uy:=D6 KV (by omega);simp only [Aj,An]at hl;have IL:IntKind.i64.wrap ((p.length:Int)+0)=(p.length:Int):=by rw [CD (by omega) (by omega)];omega
    have Ee:IntKind.i64.wrap ((p.length:Int)+(([c]:Ai).length:Int))=((p.length+1:Nat):Int):=by rw [Bd,CD (by omega) (by omega)];omega
    have hb:Mf s [c] 0 ((s.count c:Int)+1) (p++c::q) i a=some (.inl (q,((i+1:Nat):Int),a.set i p)):=by
     unfold Mf;have Hg:Re (p++c::q) [c]=some (p.length:Int):=by simp [Re,QN,hx]
     rw [Ht,KK,X2,if_pos (by simp;omega),Hg,Ab,if_neg (by simp),IL,AY (by rw [Aj];omega),CO KV,Ab,Ee,AY (by rw [Aj,An];omega),Uy,Int.toNat_natCast,Qb,Qe,List.take_length];have e1:(p++c::q).drop (p.length+1)=q:=by simp
     have e2:(p++c::q).take p.length=p:=by simp
     rw [e1,e2]
    rw [HF];dsimp only;rw [hb];refine ih q (a.set i p) (i+1) (by omega) (by omega) (by simpa using ha) (by omega) ?_;rw [Zs p KV,←hI,DK hp];simp
 have Bu:Rm s [c]=some ((s.count c:Nat):Int):=rfl;have hz:(((-1:Int))==0)=false:=rfl;have Bk:(([c]:Ai)==([]:Ai))=false:=rfl;unfold OX U2;rw [hz,Bk,if_neg (by simp),if_neg (by simp),if_pos (by simp),Bu,Ab,Le];unfold UQ;rw [Ht,KK,AY (by omega)];exact sX (key (s.count c) s (List.replicate ((s.count c:Int)+1).toNat []) 0 rfl (Nat.le_refl _) (by simp) (by omega) (by simp))
def field (s:Ai):Bool:=Dm s.length 1 3&&H7 s []
theorem Sr {s:Ai} (h:s.length≤2000000):Lp s=some (field s):=by simp only [Lp,WZ,Ab,oM h (more:= []) (by decide),field];cases Dm s.length 1 3<;>simp
theorem Si {s:Ai} (h:s.length≤2000000):Ln s=some (field s):=by simp only [Ln,Sj,Ab,nW h,field];cases Dm s.length 1 3<;>simp
theorem pF (sep x y:Ai) (r:List Ai):Lib.join (x::(r++ [y])) sep=Lib.join (x::r) sep++sep++y:=by rw [Lib.join_cons,Lib.join_cons];simp [Lib.joinTail]
theorem o0 {xs:List Ai} {sep:Ai} {i:Nat} (hi:i<xs.length):Lib.join (xs.take (i+1)) sep=if i=0 then xs[i]else Lib.join (xs.take i) sep++sep++xs[i]:=by
 rw [List.take_succ_eq_append_getElem hi];cases xs with
 |nil=>simp at hi
 |cons x xs=>
  cases i with
  |zero=>simp [Lib.join_cons,Lib.joinTail]
  |succ i=>rw [List.take_succ_cons,List.cons_append,pF,if_neg (by omega)]
def Da:List Ai→Nat
 | []=>0
 |x::xs=>x.length+Da xs
theorem Pr (xs:List Ai) (sep:Ai):(Lib.join xs sep).length≤Da xs+xs.length*sep.length:=by
 cases xs with
 |nil=>simp [Lib.join_nil]
 |cons x xs=>
  rw [Lib.join_cons,Aj];have: ∀r:List Ai,(Lib.joinTail sep r).length=Da r+r.length*sep.length:=by
   intro r
   induction r with
   |nil=>simp [Lib.joinTail,Da]
   |cons y r ih=>
    have e:Lib.joinTail sep (y::r)=sep++y++Lib.joinTail sep r:=by simp [Lib.joinTail]
    rw [e,Aj,Aj,ih,Da,An,Nat.succ_mul];omega
  rw [this,Da,An,Nat.succ_mul];omega
theorem nE (xs:List Ai) (i:Nat):Da (xs.take i)≤Da xs:=by
 induction xs generalizing i with
 |nil=>simp [Da]
 |cons x xs ih=>
  cases i with
  |zero=>simp [Da]
  |succ i=>simp only [List.take_succ_cons,Da];have:=ih i;omega
theorem V4 {xs:List Ai} {i:Nat} (hi:i<xs.length):xs[i].length≤Da xs:=by
 induction xs generalizing i with
 |nil=>simp at hi
 |cons x xs ih=>
  cases i with
  |zero=>simp [Da]
  |succ i=>simp only [List.getElem_cons_succ,Da];have:=ih (i:=i) (by simpa using hi);omega
def Small (xs:List Ai):Prop:=xs.length≤2000000∧Da xs≤2000000
theorem WU {xs:List Ai} {c:UInt8} (h:Small xs):RJ xs [c]=some (Lib.join xs [c]):=by
 obtain⟨h1,h2⟩:=h;have hl:=Pn (xs:=List.range xs.length) (body:=fun s:Ai × Int=>Mq xs [c] s.1 s.2) (fun i (o:Ai)=>(o,i)) (fun o i=>if i=0 then(xs[i]?).getD []else o++ [c]++(xs[i]?).getD []) (fun o=>some o) (fun i o=>o=Lib.join (xs.take i) [c])
  (fun i hi o hI=>by
   rw [List.length_range]at hi;rw [List.getElem_range];have hI:o=Lib.join (xs.take i) [c]:=hI;have hlen:o.length≤1010000000:=by have e1:=Pr (xs.take i) [c];have e2:=nE xs i;rw [List.length_take,Bd,Nat.mul_one]at e1;rw [hI];omega
   have hg:=V4 hi;have hw:=D6 hi (by omega:xs.length≤_);rw [List.getElem?_eq_getElem hi,Option.getD_some];refine⟨?_,by show _=_;rw [o0 hi,hI]⟩;show Mq xs [c] o i=_;unfold Mq;rw [if_pos (by simpa using hi),CO hi,Ab,hw];by_cases h0:i=0
   ·subst h0;have ho:o= []:=by rw [hI];rfl
    subst ho;rw [if_neg (by simp),AY (by simp;omega),if_pos rfl];rfl
   ·rw [if_pos (by simp;omega),AY (by rw [Bd];omega),AY (by rw [Aj,Bd];omega),if_neg h0])
  (fun o _=>by show Mq xs [c] o ((List.range xs.length).length:Nat)=_;unfold Mq;rw [if_neg (by simp)]) (s:= []) (by simp [Lib.join_nil])
 generalize (List.range xs.length).foldl (fun o i=>if i=0 then(xs[i]?).getD []else o++ [c]++(xs[i]?).getD []) []=o at hl;obtain⟨h3,h4⟩:=hl;have h4:o=Lib.join (xs.take (List.range xs.length).length) [c]:=h4;rw [List.length_range,List.take_length]at h4;subst h4;exact h3
theorem WN {xs:List Ai} {c:UInt8} (h:Small xs):O7 xs [c]=some (Lib.join xs [c]):=by obtain⟨h1,h2⟩:=h;have:=Pr xs [c];rw [Bd,Nat.mul_one]at this;exact AY ⟨by omega,by omega⟩
theorem Small.each {xs:List Ai} (h:Small xs): ∀x∈xs,x.length≤2000000:=by intro x hx;obtain⟨i,hi,rfl⟩:=List.getElem_of_mem hx;exact Nat.le_trans (V4 hi) h.2
def Bz (t:Ah) (r:Aw):Bool:=((r.ah.length:Int)==t.ax.length)&&r.ah.all field
theorem Pa {t:Ah} {r:Aw} (h:Small r.ah):J5 t r=some (Bz t r):=by
 have h1:=h.1;unfold J5;rw [MR (xs:=r.ah) field false (UY t r) (fun i hi=>by simp only [UX,Int.ofNat_lt,hi,decide_true,if_true,CO hi,Ab,Sr (h.each _ (List.getElem_mem hi)),D6 hi (by omega:r.ah.length≤_)];cases field r.ah[i]<;>rfl) (by simp [UX])]
 unfold UY Bz;cases r.ah.all field<;>simp
theorem RV {t:Ah} {r:Aw} (h:Small r.ah):Lm t r=some (Bz t r):=by have e:Mt r.ah (fun y0_=>QX y0_)=some (r.ah.any fun s=> !field s):=s6 _ (fun s hs=>by simp [QX,Si (h.each s hs)]) (by have:=h.1;omega);simp only [Lm,e,Ab,Bz,←List.not_all_eq_any_not];cases((r.ah.length:Int)==t.ax.length)<;>simp
def BM (t:Ah) (r:Aw):Ao:=⟨t.ab++ [47]++(r.ah.head?).getD [],Lib.join r.ah.tail [44],false⟩
theorem dL {α:Type} (xs:List α):AL xs 1 (xs.length:Int)=xs.tail:=by simp [AL]
theorem Small.tail {xs:List Ai} (h:Small xs):Small xs.tail:=by
 cases xs with
 |nil=>exact h
 |cons x xs=>exact⟨by have:=h.1;simp at this ⊢;omega,by have:=h.2;simp only [Da,List.tail_cons]at this ⊢;omega⟩
theorem PC {t:Ah} {r:Aw} (ht:t.ab.length≤2000000) (h:Small r.ah) (hn:r.ah≠ []):J6 t r=some (BM t r):=by obtain⟨x,xs,hx⟩:=List.exists_cons_of_ne_nil hn;have IM:x.length≤2000000:=h.each x (by simp [hx]);unfold J6 BM;rw [AY (by rw [Bd];omega),dL,WU h.tail,hx];rw [show getI (x::xs) 0=some x from rfl,Ab,AY (by rw [Aj,Bd];omega),AY (by simp only [An];omega),Ab];rfl
theorem Sz {t:Ah} {r:Aw} (ht:t.ab.length≤2000000) (h:Small r.ah) (hn:r.ah≠ []):OO t r=some (BM t r):=by obtain⟨x,xs,hx⟩:=List.exists_cons_of_ne_nil hn;have IM:x.length≤2000000:=h.each x (by simp [hx]);unfold OO BM;rw [AY (by rw [Bd];omega),dL,WN h.tail,hx];rw [show getI (x::xs) 0=some x from rfl,Ab,AY (by rw [Aj,Bd];omega),AY (by simp only [An];omega),Ab];rfl
theorem Vu (c:UInt8) (s:Ai):Da (AI c s)≤s.length:=by
 induction s with
 |nil=>simp [AI,Da]
 |cons b s ih=>
  simp only [AI];split
  ·simp only [Da,List.length_nil,An];omega
  ·cases hs:AI c s with
   |nil=>exact absurd hs (Zx c s)
   |cons x xs=>rw [hs]at ih;simp only [Da,An]at ih ⊢;omega
theorem H5 {c:UInt8} {s:Ai} (h:s.length≤1000000):Small (AI c s):=by have h1:=VZ c s;have h2:s.count c≤s.length:=List.count_le_length;have h3:=Vu c s;exact⟨by omega,by omega⟩
def dC (a b:Ao):Bool:=a.al==b.al&&(a.bf==b.bf&&(a.c7==b.c7))
def EX (w:Ao):Aw:=⟨w.al.drop 2::AI 44 w.bf⟩
def Gj (t:Ah) (w:Ao):Bool:=Bz t (EX w)&&dC (BM t (EX w)) w
def LS (w:Ao):Prop:=w.al.length≤1000∧w.bf.length≤1000
theorem mW {w:Ao} (h:LS w):Small (EX w).ah:=by
 have h1:=VZ 44 w.bf;have h2:w.bf.count 44≤w.bf.length:=List.count_le_length;have h3:=Vu 44 w.bf;obtain⟨k,v⟩:=h;refine⟨?_, ?_⟩
 ·show(w.al.drop 2::AI 44 w.bf).length≤_;rw [An];omega
 ·show Da (w.al.drop 2::AI 44 w.bf)≤_;rw [Da,List.length_drop];omega
theorem oP {t:Ah} {w:Ao} (h:Bz t (EX w)=true):3≤w.al.length:=by unfold Bz EX at h;simp only [Ac,List.all_cons,field,Eg,List.length_drop]at h;omega
theorem s8 {t:Ah} {w:Ao} (ht:t.ab.length≤2000000) (h:LS w): ∃r,Rw t w=some (r,Gj t w)∧(Gj t w=true→r=EX w):=by
 have hs:=mW h;have Ma:=VZ 44 w.bf;have L3:w.bf.count 44≤w.bf.length:=List.count_le_length;obtain⟨hk,hv⟩:=h;unfold Rw;by_cases h3:w.al.length<3
 ·rw [if_pos (by simp;omega)];have:Gj t w=false:=by
   unfold Gj;cases hg:Bz t (EX w)with
   |false=>rfl
   |true=>have:=oP hg;omega
  exact⟨_,by rw [this],by rw [this];intro h;cases h⟩
 ·have hw:AL w.al 2 (w.al.length:Int)=w.al.drop 2:=by
   have:=Qb w.al 2 w.al.length;rw [List.take_length]at this;exact this
  have La:IW w.bf 44=some (AI 44 w.bf):=WD (c:=44) (by omega);have hr:(([w.al.drop 2]:List Ai).length+(AI 44 w.bf).length:Int)*16≤140737488355328∧(([w.al.drop 2]:List Ai).length:Int)+(AI 44 w.bf).length≤140737488355328:=by rw [Bd];omega
  rw [if_neg (by simp;omega),AY (by omega),La,Ab,hw,AY hr];rw [show(⟨[w.al.drop 2]++AI 44 w.bf⟩:Aw)=EX w from rfl,Pa hs,Ab];unfold Gj;cases hg:Bz t (EX w)with
  |false=>exact⟨_,by rw [if_neg (by simp)];rfl,by simp⟩
  |true=>rw [if_pos rfl,PC ht hs (by simp [EX]),Ab];exact⟨EX w,by rw [Bool.true_and];rfl,fun _=>rfl⟩
theorem oD {α β:Type} (p:α→Bool) (f:α→β) (l:List α) (o:List β):l.foldl (fun o x=>if p x=true then o++ [f x]else o) o=o++(l.filter p).map f:=by
 induction l generalizing o with
 |nil=>simp
 |cons x l ih=>rw [List.foldl_cons,ih,List.filter_cons];cases p x<;>simp
def Cj (t:Ah) (l:List Ao):List Aw:=(l.filter (Gj t)).map EX
theorem aK {t:Ah} {l:List Ao} (ht:t.ab.length≤2000000) (hl:l.length≤2000000) (h: ∀w∈l,LS w):Rx t l=some (Cj t l):=by
 have h1:=Pn (xs:=l) (body:=fun s:List Aw × Int=>Mo t l s.1 s.2) (fun i (o:List Aw)=>(o,i)) (fun o w=>if Gj t w=true then o++ [EX w]else o) (fun o=>some o) (fun i o=>o.length≤i)
  (fun i hi o hI=>by
   have hI:o.length≤i:=hI;obtain⟨r,e,hr⟩:=s8 ht (h _ (List.getElem_mem hi));have hw:=D6 hi (by omega:l.length≤_);refine⟨?_,by
    show List.length (if Gj t l[i]=true then o++ [EX l[i]]else o)≤i+1;split
    ·rw [Aj,Bd];omega
    ·omega⟩
   show Mo t l o i=_;unfold Mo;rw [if_pos (by simpa using hi),CO hi,Ab,e,Ab,hw];cases hb:Gj t l[i]with
   |false=>rfl
   |true=>
    have hq:((o.length:Int)+(([r]:List Aw).length:Int))*24≤140737488355328∧(o.length:Int)+(([r]:List Aw).length:Int)≤140737488355328:=by rw [Bd];omega
    rw [if_pos rfl,AY hq,if_pos rfl,hr hb])
  (fun o _=>by show Mo t l o l.length=_;unfold Mo;rw [if_neg (by simp)]) (s:= []) (by simp)
 rw [oD]at h1;exact h1.1
def head (t:Ah) (n:Ai):Ai:=t.ab++ [46]++n
def tZ (t:Ah) (n k:Ai):Bool:=match AI 47 k with
 | [x,y,z]=>x==head t n&&field y&&field z
 |_=>false
theorem sQ {t:Ah} {n:Ai} (ht:t.ab.length≤2000000) (hn:n.length≤2000000):QT t n=some (head t n++ [47]):=by unfold QT head;rw [AY (by rw [Bd];omega),AY (by rw [Aj,Bd];omega),AY (by rw [Aj,Aj,Bd,Bd];omega)]
def WR (t:Ah) (n:Ai) (l:List Ao):List Ai:=(l.filter fun w=>tZ t n w.al).map (·.al)
def dJ (a b:List Ai):List Ai:=a.filter fun k=> !b.contains k
structure SL (t:Ah) (n:Ai) (x:AU):Prop where
 at_:getI t.ae (B2 (fun y:AU=>y.ab==n) t.ae)=some x
 name:x.ab=n
 c0:1≤x.cq
 c1:x.cq≤(t.ax.length:Int)-1
def Cz (r:Aw) (c:Int):Ai:=(r.ah[c.toNat]?).getD []
def Es (t:Ah) (n:Ai) (c:Int) (r:Aw):Ai:=head t n++ [47]++Cz r c++ [47]++Cz r 0
structure Js (t:Ah) (r:Aw):Prop where
 len:r.ah.length=t.ax.length
 small:Small r.ah
theorem Pu {t:Ah} {r:Aw} (hr:Js t r) {c:Int} (h0:0≤c) (h1:c≤(t.ax.length:Int)-1):getI r.ah c=some (Cz r c)∧(Cz r c).length≤2000000:=by
 obtain⟨y,e,hm,e2⟩:=LF (xs:=r.ah) h0 (by have:=hr.len;omega);have hv:Cz r c=y:=by simp [Cz,e2]
 rw [hv];exact⟨e,hr.small.each y hm⟩
theorem Wr {t:Ah} {n:Ai} {x:AU} {r:Aw} (ht:t.ab.length≤2000000) (hn:n.length≤2000000) (hx:SL t n x) (hr:Js t r):J7 t x r=some (Es t n x.cq r):=by
 obtain⟨g1,l1⟩:=Pu hr (c:=x.cq) (by have:=hx.c0;omega) hx.c1;obtain⟨g2,l2⟩:=Pu hr (c:=0) (by omega) (by have:=hx.c0;have:=hx.c1;omega);have e:=hx.name;subst e;unfold J7 Es;rw [AY (by simp only [head,Aj,An,List.length_nil];omega),AY (by simp only [head,Aj,An,List.length_nil];omega),AY (by simp only [head,Aj,An,List.length_nil];omega),g1,Ab,
  AY (by simp only [head,Aj,An,List.length_nil];omega),AY (by simp only [head,Aj,An,List.length_nil];omega),g2,Ab,
  AY (by simp only [head,Aj,An,List.length_nil];omega)]
 rfl
theorem aM {t:Ah} {n:Ai} {x:AU} {r:Aw} (hS:D4 t) (hn:n.length≤2000000) (hx:SL t n x) (hr:Js t r):Ll t n r=some (Es t n x.cq r):=by
 obtain⟨g1,l1⟩:=Pu hr (c:=x.cq) (by have:=hx.c0;omega) hx.c1;obtain⟨g2,l2⟩:=Pu hr (c:=0) (by omega) (by have:=hx.c0;have:=hx.c1;omega);have ht:=hS.name;have hi:Q6 t n=some x:=by unfold Q6;rw [cC hS,Ab,hx.at_];rfl
 unfold Ll Es;rw [sQ ht hn,Ab,hi,Ab,g1,Ab,AY (by simp only [head,Aj,An,List.length_nil];omega),AY (by simp only [head,Aj,An,List.length_nil];omega),g2,Ab,AY (by simp only [head,Aj,An,List.length_nil];omega)]
def wanted (t:Ah) (n:Ai) (x:AU) (l:List Ao):List Ai:=(Cj t l).map (Es t n x.cq)
theorem rP (t:Ah) (l:List Ao):(Cj t l).length≤l.length:=by unfold Cj;rw [List.length_map];exact List.length_filter_le _ _
def holds (t:Ah) (n:Ai) (x:AU) (lv:Int) (l:List Ao):Bool:=
 if lv==0 then((WR t n l).length:Int)==0
 else(((dJ (WR t n l) (wanted t n x l)).length:Int)==0)&&((lv==1)||(((dJ (wanted t n x l) (WR t n l)).length:Int)==0))
def uF (t:Ah) (n:Ai):Bool:=AT t&&decide (B2 (fun x:AU=>x.ab==n) t.ae≥0)
def wC (t:Ah) (n:Ai) (l:List Ao):Bool:=uF t n&&qY l
theorem RM {s:Ai} {k:Int} (h:Ci s k=true):(s.length:Int)≤k∧ ∀b∈s,b≠47:=by unfold Ci at h;simp only [Ac]at h;refine⟨(Eg.1 h.2).2,fun b hb e=> ?_⟩;have h1:=A1.1 h.1 b hb;subst e;exact absurd h1 (by decide)
theorem VH {s:Ai} (h:Ci s 1=true):s.length=1:=by unfold Ci at h;simp only [Ac]at h;have:=Eg.1 h.2;omega
theorem Kf {t:Ah} (h:AT t=true):Ci t.ab 1=true:=by unfold AT at h;simp only [Ac]at h;exact h.1.1.1
theorem Lz {t:Ah} (h:AT t=true) {x:AU} (hx:x∈t.ae):Ci x.ab 1=true∧Dm x.cq 1 ((t.ax.length:Int)-1)=true:=by unfold AT at h;simp only [Ac]at h;obtain⟨i,hi,rfl⟩:=List.mem_iff_getElem.1 hx;have h1:=A1.1 h.2 i (List.mem_range.2 hi);unfold FW at h1;simp only [Ac,List.getElem?_eq_getElem hi,Option.getD_some]at h1;exact⟨h1.1.1.1,h1.1.1.2⟩
abbrev bl (a b:Aa):Bool:=Op.bytesLess a b
theorem ML: ∀a:Aa,bl a a=false
 | []=>rfl
 |x::a=>by
  have h: ¬x<x:=fun h=>by have:=UInt8.lt_iff_toNat_lt.1 h;omega
  show Op.bytesLess (x::a) (x::a)=false;simp only [Op.bytesLess,h,decide_false,Bool.false_or,beq_self_eq_true,Bool.true_and];exact ML a
theorem WT (x y:UInt8) (a b:Aa):bl (x::a) (y::b)=true↔x.toNat<y.toNat∨x=y∧bl a b=true:=by show Op.bytesLess (x::a) (y::b)=true↔_;simp only [Op.bytesLess,Bool.or_eq_true,decide_eq_true_eq,Ac,beq_iff_eq,UInt8.lt_iff_toNat_lt]
theorem Kb: ∀{a b c:Aa},bl a b=true→bl b c=true→bl a c=true
 | [],_, [],_,h=>by rename_i b _;cases b<;>cases h
 | [],_,_::_,_,_=>rfl
 |_::_, [],_,h,_=>by cases h
 |_::_,_::_, [],_,h=>by cases h
 |x::a,y::b,z::c,h1,h2=>by
  rw [WT]at*;rcases h1 with h1|⟨rfl,h1⟩<;>rcases h2 with h2|⟨rfl,h2⟩
  ·exact .inl (by omega)
  ·exact .inl h1
  ·exact .inl h2
  ·exact .inr ⟨rfl,Kb h1 h2⟩
theorem cL: ∀a b:Aa,bl a b=true∨a=b∨bl b a=true
 | [], []=> .inr (.inl rfl)
 | [],_::_=> .inl rfl
 |_::_, []=> .inr (.inr rfl)
 |x::a,y::b=>by
  rw [WT,WT];rcases Nat.lt_trichotomy x.toNat y.toNat with h|h|h
  ·exact .inl (.inl h)
  ·have h0:x=y:=UInt8.toNat_inj.1 h;subst h0;rcases cL a b with h1|h1|h1
   ·exact .inl (.inr ⟨rfl,h1⟩)
   ·exact .inr (.inl (by rw [h1]))
   ·exact .inr (.inr (.inr ⟨rfl,h1⟩))
  ·exact .inr (.inr (.inl h))
theorem WB {a b:Aa} (h:bl a b=true):bl b a=false:=by
 cases h2:bl b a with
 |false=>rfl
 |true=>have:=Kb h h2;rw [ML]at this;cases this
theorem Ik {a b:Aa} (h:bl a b=true):a≠b:=by rintro rfl;rw [ML]at h;cases h
theorem Sc {a b:Aa} (h:bl a b=false) (hn:a≠b):bl b a=true:=by
 rcases cL a b with h1|h1|h1
 ·rw [h]at h1;cases h1
 ·exact absurd h1 hn
 ·exact h1
section
variable {α:Type} (key:α→Aa)
def Eu (l:List α):Prop:=l.Pairwise fun a b=>bl (key a) (key b)=true
def C3 (x:α):List α→List α
 | []=> [x]
 |y::l=>if bl (key x) (key y)=true then x::y::l else if key x=key y then x::l else y::C3 x l
variable {key}
theorem Eu.im {l:List α} (h:Eu key l) {a b:α} (ha:a∈l) (hb:b∈l) (e:key a=key b):a=b:=by
 induction l with
 |nil=>cases ha
 |cons y l ih=>
  have h1:=List.pairwise_cons.1 h;rcases Ad.1 ha with q1|q1<;>rcases Ad.1 hb with q2|q2
  ·rw [q1,q2]
  ·exact absurd (q1▸e) (Ik (h1.1 _ q2))
  ·exact absurd (q2▸e.symm) (Ik (h1.1 _ q1))
  ·exact ih h1.2 q1 q2
theorem Ww {x:α}: ∀{l:List α},Eu key l→ ∀y,y∈C3 key x l↔y=x∨y∈l∧key y≠key x
 | [],_,y=>by simp [C3]
 |z::l,h,y=>by
  have h1:=List.pairwise_cons.1 h;unfold C3;split
  ·rename_i hb;constructor
   ·intro hy;rcases Ad.1 hy with rfl|hy
    ·exact .inl rfl
    ·refine .inr ⟨hy, ?_⟩;rcases Ad.1 hy with rfl|hy
     ·exact(Ik hb).symm
     ·exact(Ik (Kb hb (h1.1 _ hy))).symm
   ·rintro(rfl|⟨hy,_⟩)
    ·simp
    ·exact List.mem_cons_of_mem _ hy
  ·rename_i hb;split
   ·rename_i he;constructor
    ·intro hy;rcases Ad.1 hy with rfl|hy
     ·exact .inl rfl
     ·exact .inr ⟨List.mem_cons_of_mem _ hy,fun e=>Ik (h1.1 _ hy) (by rw [e,he])⟩
    ·rintro(rfl|⟨hy,hn⟩)
     ·simp
     ·rcases Ad.1 hy with rfl|hy
      ·exact absurd he.symm hn
      ·exact List.mem_cons_of_mem _ hy
   ·rename_i he;rw [Ad,Ww h1.2];constructor
    ·rintro(rfl|rfl|⟨hy,hn⟩)
     ·exact .inr ⟨by simp,fun e=>he e.symm⟩
     ·exact .inl rfl
     ·exact .inr ⟨List.mem_cons_of_mem _ hy,hn⟩
    ·rintro(rfl|⟨hy,hn⟩)
     ·exact .inr (.inl rfl)
     ·rcases Ad.1 hy with rfl|hy
      ·exact .inl rfl
      ·exact .inr (.inr ⟨hy,hn⟩)
theorem Zr {x:α}: ∀{l:List α},Eu key l→Eu key (C3 key x l)
 | [],_=>by simp [C3,Eu]
 |z::l,h=>by
  have h1:=List.pairwise_cons.1 h;unfold C3;split
  ·rename_i hb;refine List.pairwise_cons.2 ⟨fun y hy=> ?_,h⟩;rcases Ad.1 hy with rfl|hy
   ·exact hb
   ·exact Kb hb (h1.1 _ hy)
  ·rename_i hb;split
   ·rename_i he;exact List.pairwise_cons.2 ⟨fun y hy=>by rw [he];exact h1.1 _ hy,h1.2⟩
   ·rename_i he;refine List.pairwise_cons.2 ⟨fun y hy=> ?_,Zr h1.2⟩;rcases(Ww h1.2 y).1 hy with rfl|⟨hy,_⟩
    ·exact Sc (by simpa using hb) he
    ·exact h1.1 _ hy
theorem Eu.ext: ∀{a b:List α},Eu key a→Eu key b→(∀x,x∈a↔x∈b)→a=b
 | [], [],_,_,_=>rfl
 | [],y::b,_,_,h=>absurd ((h y).2 (by simp)) (by simp)
 |x::a, [],_,_,h=>absurd ((h x).1 (by simp)) (by simp)
 |x::a,y::b,ha,hb,h=>by
  have h1:=List.pairwise_cons.1 ha;have h2:=List.pairwise_cons.1 hb;have e:x=y:=by
   rcases Ad.1 ((h x).1 (by simp))with e|hx
   ·exact e
   ·rcases Ad.1 ((h y).2 (by simp))with e|hy
    ·exact e.symm
    ·have:=Kb (h1.1 _ hy) (h2.1 _ hx);rw [ML]at this;cases this
  subst e;rw [Eu.ext h1.2 h2.2 fun z=> ?_];constructor
  ·intro hz;rcases Ad.1 ((h z).1 (List.mem_cons_of_mem _ hz))with rfl|UD
   ·have:=h1.1 _ hz;rw [ML]at this;cases this
   ·exact UD
  ·intro hz;rcases Ad.1 ((h z).2 (List.mem_cons_of_mem _ hz))with rfl|UD
   ·have:=h2.1 _ hz;rw [ML]at this;cases this
   ·exact UD
theorem Eu.filter {l:List α} (h:Eu key l) (p:α→Bool):Eu key (l.filter p):=List.Pairwise.filter p h
theorem Eu.sub {a b:List α} (h:Eu key b) (hs:a.Sublist b):Eu key a:=List.Pairwise.sublist hs h
theorem aV {x:α}: ∀(l:List α),(C3 key x l).length≤l.length+1
 | []=>by simp [C3]
 |y::l=>by
  unfold C3;have:=aV (x:=x) l;split
  ·simp
  ·split
   ·simp
   ·simp only [An];omega
end
def Gm {α:Type} (r:α→α→Bool):List α→Bool
 | []=>true
 | [_]=>true
 |x::y::l=>r x y&&Gm r (y::l)
theorem ZS {α:Type} {r:α→α→Bool} (ht: ∀a b c,r a b=true→r b c=true→r a c=true): ∀{l:List α},Gm r l=true↔l.Pairwise fun a b=>r a b=true
 | []=>by simp [Gm]
 | [_]=>by simp [Gm]
 |x::y::l=>by
  rw [Gm,Ac,ZS ht];constructor
  ·rintro⟨h1,h2⟩;refine List.pairwise_cons.2 ⟨fun z hz=> ?_,h2⟩;rcases Ad.1 hz with rfl|hz
   ·exact h1
   ·exact ht _ _ _ h1 ((List.pairwise_cons.1 h2).1 z hz)
  ·intro h;have h:=List.pairwise_cons.1 h;exact⟨h.1 y (by simp),h.2⟩
theorem nC {α:Type} {r:α→α→Bool} {l:List α} {q:Nat} (h:q+1<l.length):Gm r (l.drop q)=(r l[q] l[q+1]&&Gm r (l.drop (q+1))):=by rw [List.drop_eq_getElem_cons (show q<l.length by omega),List.drop_eq_getElem_cons h,Gm]
def Ej {α:Type} (lt:α→Bool) (l:List α):Nat:=(l.takeWhile lt).length
theorem Sw {α:Type} (lt:α→Bool): ∀l:List α,Ej lt l≤l.length
 | []=>by simp [Ej]
 |x::l=>by have:=Sw lt l;unfold Ej at this ⊢;rw [List.takeWhile_cons];split<;>simp<;>omega
theorem bV {α:Type} {lt:α→Bool}: ∀{l:List α} {i:Nat} (h:i<Ej lt l),lt (l[i]'(Nat.lt_of_lt_of_le h (Sw lt l)))=true
 |x::l,i,h=>by
  unfold Ej at h;rw [List.takeWhile_cons]at h;split at h
  ·rename_i hx;cases i with
   |zero=>exact hx
   |succ i=>exact bV (l:=l) (i:=i) (by unfold Ej;simpa using h)
  ·simp at h
abbrev Ii (l:List Ao):Prop:=Eu (fun w:Ao=>w.al) l
abbrev cR (l:List Ao) (k:Ai):Nat:=Ej (fun w:Ao=>bl w.al k) l
theorem nA (ks:List Ai):PU ks=Gm bl ks:=by
 have key: ∀n q,q+n+1=ks.length→(List.range' (q+1) n).all (Sk ks)=Gm bl (ks.drop q):=by
  intro n
  induction n with
  |zero=>intro q hq;rw [List.drop_eq_getElem_cons (show q<ks.length by omega),List.drop_eq_nil_of_le (show ks.length≤q+1 by omega)];rfl
  |succ n ih=>intro q hq;rw [List.range'_succ,List.all_cons,ih (q+1) (by omega),nC (show q+1<ks.length by omega)];congr 1;unfold Sk;have hb:(q+1==0)=false:=rfl;rw [hb,Bool.false_or,Nat.add_sub_cancel,List.getElem?_eq_getElem (show q<ks.length by omega),List.getElem?_eq_getElem (show q+1<ks.length by omega)];rfl
 cases ks with
 |nil=>rfl
 |cons k l=>unfold PU;rw [An,List.range_eq_range',List.range'_succ,List.all_cons];have:=key l.length 0 (by simp);rw [List.drop_zero]at this;rw [Nat.zero_add]at this;rw [show 0+1=1 from rfl,this];rfl
theorem Zl {α β:Type} (f:α→β) (r:β→β→Bool): ∀l:List α,Gm r (l.map f)=Gm (fun a b=>r (f a) (f b)) l
 | []=>rfl
 | [_]=>rfl
 |x::y::l=>by have:=Zl f r (y::l);simp only [List.map_cons,Gm]at this ⊢;rw [this]
theorem qV {t:Ah} (h:AT t=true):Eu (fun x:AU=>x.ab) t.ae:=by
 unfold AT at h;simp only [Ac]at h;have h1:=h.2;have h2:PU (t.ae.map (·.ab))=true:=by
  unfold PU;rw [List.length_map,A1];intro i hi;have h3:=A1.1 h1 i hi;unfold FW at h3;simp only [Ac]at h3;have Hf:i<t.ae.length:=List.mem_range.1 hi;have e: ∀j:Nat,(((t.ae.map (·.ab))[j]?).getD [])=((t.ae[j]?).getD ⟨[],0,0⟩).ab:=by intro j;rw [List.getElem?_map];cases t.ae[j]?<;>rfl
  unfold Sk;rw [e,e];exact h3.2
 rw [nA,Zl]at h2;exact(ZS (r:=fun a b:AU=>bl a.ab b.ab) fun a b c p q=>Kb p q).1 h2
theorem Wy {t:Ah} {x:AU} (h:AT t=true) (hx:x∈t.ae):SL t x.ab x:=by
 have h1:B2 (fun y:AU=>y.ab==x.ab) t.ae≥0:=by have:=Wn (fun y:AU=>y.ab==x.ab) t.ae;rw [show(t.ae.any fun y=>y.ab==x.ab)=true from List.any_eq_true.2 ⟨x,hx,by simp⟩]at this;exact of_decide_eq_true this
 obtain⟨y,h2,h3,h4⟩:=Z2 h1;have h5:y=x:=(qV h).im h4 hx (by simpa using h3);subst h5;have h6:=Eg.1 (Lz h hx).2;exact⟨h2,rfl,h6.1,h6.2⟩
theorem HE {t:Ah} (h:AT t=true):2≤t.ax.length∧t.ax.length≤4∧t.ae.length≤3:=by unfold AT at h;simp only [Ac,decide_eq_true_eq]at h;have h1:=Eg.1 h.1.1.2.2;have h2:=h.1.2;omega
theorem Kh {t:Ah} {r:Aw} (hs:Small r.ah) (h:Bz t r=true):Js t r:=by unfold Bz at h;simp only [Ac,beq_iff_eq]at h;exact⟨by have:=h.1;omega,hs⟩
theorem SA {t:Ah} {r:Aw} (hc:1≤t.ax.length) (h:Js t r):getI r.ah 0=some (Cz r 0):=(Pu h (by omega) (by omega)).1
theorem LN {t:Ah} {r:Aw} (hc:1≤t.ax.length) (h:Js t r):r.ah≠ []:=by intro e;have:=h.len;rw [e]at this;simp at this;omega
def Nd (a:A6):Prop:=Small a.a8.ah∧Small a.bd.ah
def FU (t:Ah) (a:A6):Bool:=
 if a.af=1 then(a.a8.ah.length:Int)==0&&Bz t a.bd else
 if a.af=2 then Bz t a.a8&&(a.bd.ah.length:Int)==0 else
 if a.af=3 then Bz t a.a8&&(Bz t a.bd&&Cz a.a8 0==Cz a.bd 0)else false
theorem oA {t:Ah} {a:A6} (hc:1≤t.ax.length) (h:Nd a):RB t a=some (FU t a):=by
 unfold RB FU;by_cases h1:a.af=1
 ·rw [if_pos (by simpa using h1),if_pos h1,Pa h.2,Ab];cases((a.a8.ah.length:Int)==0)<;>simp
 rw [if_neg (by simpa using h1),if_neg h1];by_cases h2:a.af=2
 ·rw [if_pos (by simpa using h2),if_pos h2,Pa h.1,Ab];cases((a.bd.ah.length:Int)==0)<;>simp
 rw [if_neg (by simpa using h2),if_neg h2];by_cases h3:a.af=3
 ·rw [if_pos (by simpa using h3),if_pos h3,Pa h.1,Pa h.2,Ab,Ab];cases e1:Bz t a.a8 with
  |false=>simp
  |true=>
   cases e2:Bz t a.bd with
   |false=>simp
   |true=>simp [SA hc (Kh h.1 e1),SA hc (Kh h.2 e2)]
 rw [if_neg (by simpa using h3),if_neg h3]
theorem oH {t:Ah} {a:A6} (hc:1≤t.ax.length) (h:Nd a):Q2 t a=some (FU t a):=by
 unfold Q2 FU;by_cases h1:a.af=1
 ·rw [if_pos (by simpa using h1),if_pos h1,RV h.2,Ab];cases((a.a8.ah.length:Int)==0)<;>simp
 rw [if_neg (by simpa using h1),if_neg h1];by_cases h2:a.af=2
 ·rw [if_pos (by simpa using h2),if_pos h2,RV h.1,Ab]
 rw [if_neg (by simpa using h2),if_neg h2];by_cases h3:a.af=3
 ·rw [if_pos (by simpa using h3),if_pos h3,RV h.1,RV h.2,Ab,Ab];cases e1:Bz t a.a8 with
  |false=>simp
  |true=>
   cases e2:Bz t a.bd with
   |false=>simp
   |true=>simp [SA hc (Kh h.1 e1),SA hc (Kh h.2 e2)]
 rw [if_neg (by simpa using h3),if_neg h3]
structure P8 (t:Ah) (a:A6):Prop where
 old:a.af≠1→Js t a.a8
 new:a.af≠2→Js t a.bd
 kind:a.af=1∨a.af=2∨a.af=3
 same:a.af=3→Cz a.a8 0=Cz a.bd 0
theorem cH {t:Ah} {a:A6} (h:Nd a) (hg:FU t a=true):P8 t a:=by
 unfold FU at hg;by_cases h1:a.af=1
 ·rw [if_pos h1,Ac]at hg;exact⟨fun k=>absurd h1 k,fun _=>Kh h.2 hg.2, .inl h1,fun k=>by omega⟩
 rw [if_neg h1]at hg;by_cases h2:a.af=2
 ·rw [if_pos h2,Ac]at hg;exact⟨fun _=>Kh h.1 hg.1,fun k=>absurd h2 k, .inr (.inl h2),fun k=>by omega⟩
 rw [if_neg h2]at hg;by_cases h3:a.af=3
 ·rw [if_pos h3,Ac,Ac,beq_iff_eq]at hg;exact⟨fun _=>Kh h.1 hg.1,fun _=>Kh h.2 hg.2.1, .inr (.inr h3),fun _=>hg.2.2⟩
 rw [if_neg h3]at hg;cases hg
def G0 (t:Ah) (a:A6) (x:AU):Ai:=if a.af=1 then []else Es t x.ab x.cq a.a8
def Gv (t:Ah) (a:A6) (x:AU):Ai:=if a.af=2 then []else Es t x.ab x.cq a.bd
def Kk (k n:Ai) (x:AU):List AM:=if k≠ []∧k≠n∧x.bc≥1 then [⟨3,k, [],0⟩]else []
def Ih (n:Ai) (x:AU):List AM:=if n≠ []∧x.bc≥2 then [⟨2,n, [],0⟩]else []
def Ki (t:Ah) (a:A6) (x:AU):List AM:=Kk (G0 t a x) (Gv t a x) x++Ih (Gv t a x) x
def Jb (t:Ah) (a:A6):List AM:=
 if a.af=1 then [⟨6,(BM t a.bd).al, [],0⟩,⟨2,(BM t a.bd).al,(BM t a.bd).bf,0⟩]else
 if a.af=2 then [⟨7,(BM t a.a8).al,(BM t a.a8).bf,0⟩,⟨3,(BM t a.a8).al, [],0⟩]else
 [⟨7,(BM t a.a8).al,(BM t a.a8).bf,0⟩,⟨2,(BM t a.a8).al,(BM t a.bd).bf,0⟩]
def Ij (t:Ah) (a:A6):List AM:=t.ae.foldl (fun o x=>o++Ki t a x) (Jb t a)
theorem rE (k n:Ai) (x:AU):(Kk k n x).length≤1:=by unfold Kk;split<;>simp
theorem sP (n:Ai) (x:AU):(Ih n x).length≤1:=by unfold Ih;split<;>simp
theorem VV (t:Ah) (a:A6) (x:AU):(Ki t a x).length≤2:=by unfold Ki;have:=rE (G0 t a x) (Gv t a x) x;have:=sP (Gv t a x) x;rw [Aj];omega
theorem VD (t:Ah) (a:A6):(Jb t a).length=2:=by unfold Jb;split<;>(try split)<;>rfl
theorem Su {o p:List AM} (h:o.length≤5000000) (hn:p.length≤5000000):((o.length:Int)+(p.length:Int))*48≤140737488355328∧(o.length:Int)+(p.length:Int)≤140737488355328:=by omega
theorem pP {t:Ah} {a:A6} {x:AU} (ht:t.ab.length≤2000000) (hn:x.ab.length≤2000000) (hx:SL t x.ab x) (ha:P8 t a):O5 t x a=some (Ki t a x):=by
 have e1:O5 t x a=Rk t x a (G0 t a x):=by
  unfold O5 G0;by_cases h1:a.af=1
  ·rw [if_neg (by simp [h1]),if_pos h1];rfl
  ·rw [if_pos (by simpa using h1),if_neg h1,Wr ht hn hx (ha.old h1)];rfl
 have e2: ∀k,Rk t x a k=O0 x k (Gv t a x):=by
  intro k;unfold Rk Gv;by_cases h1:a.af=2
  ·rw [if_neg (by simp [h1]),if_pos h1]
  ·rw [if_pos (by simpa using h1),if_neg h1,Wr ht hn hx (ha.new h1)];rfl
 have e3: ∀(n:Ai) (o:List AM),o.length≤5→Rl x n o=some (o++Ih n x):=by
  intro n o ho;unfold Rl Ih;by_cases h1:n≠ []∧x.bc≥2
  ·rw [if_pos (by simpa using h1),if_pos h1,AY (Su (by omega) (by simp))]
  ·rw [if_neg (by simpa using h1),if_neg h1,List.append_nil]
 have e4: ∀(k n:Ai),O0 x k n=some (Kk k n x++Ih n x):=by
  intro k n;unfold O0 Kk;by_cases h1:k≠ []∧k≠n∧x.bc≥1
  ·rw [if_pos (by simpa [and_assoc]using h1),if_pos h1,AY (Su (by simp) (by simp)),e3 _ _ (by simp)]
  ·rw [if_neg (by simpa [and_assoc]using h1),if_neg h1,e3 _ _ (by simp)]
 rw [e1,e2,e4];rfl
theorem nR {t:Ah} {a:A6} (hc:1≤t.ax.length) (ht:t.ab.length≤2000000) (ha:P8 t a):Ry t a=some (Jb t a):=by
 unfold Ry Jb;by_cases h1:a.af=1
 ·have hr:=ha.new (by omega);rw [if_pos (by simpa using h1),if_pos h1,PC ht hr.small (LN hc hr)];rfl
 have hr:=ha.old h1;rw [if_neg (by simpa using h1),if_neg h1,PC ht hr.small (LN hc hr),Ab];by_cases h2:a.af=2
 ·rw [if_pos (by simpa using h2),if_pos h2]
 have hr:=ha.new h2;rw [if_neg (by simpa using h2),if_neg h2,PC ht hr.small (LN hc hr)];rfl
theorem tE {t:Ah} {a:A6} (hS:D4 t) (hg:AT t=true) (ha:P8 t a):Rq t a=some (Ij t a):=by
 have hc:=HE hg;unfold Rq;rw [nR (by omega) hS.name ha,Ab];have hl:=VD t a;exact(Pn (xs:=t.ae) (body:=fun s:Int × List AM=>Ml t a s.1 s.2) (fun i (o:List AM)=>(i,o)) (fun o x=>o++Ki t a x) (fun o=>some o) (fun i o=>o.length≤2+2*i)
  (fun i hi o hI=>by have hI:o.length≤2+2*i:=hI;have hw:=D6 hi (by omega);have hk:=VV t a t.ae[i];have hm:=List.getElem_mem hi;refine⟨?_,by show List.length _≤_;rw [Aj];omega⟩;show Ml t a i o=_;unfold Ml;rw [if_pos (by simpa using hi),CO hi,Ab,pP hS.name (hS.idx _ hm) (Wy hg hm) ha,Ab,AY (Su (by omega) (by omega)),hw])
  (fun o _=>by show Ml t a t.ae.length o=_;unfold Ml;rw [if_neg (by simp)]) (s:=Jb t a) (by omega)).1
theorem Kr {k:Int} {w:Ao} {o:List AM} (h:o.length≤5000000):H0 k w o=some ((),o++ [⟨k,w.al,w.bf,0⟩]):=by unfold H0;rw [AY (Su h (by simp))]
theorem tL {t:Ah} {a:A6} (hS:D4 t) (hg:AT t=true) (ha:P8 t a):QR t a=some (Ij t a):=by
 have hc:=HE hg;have hl:=VD t a;have h7: ∀(i:Int) (x:AU) (n:Ai) (o:List AM),o.length≤100→Mi i x n o=some (.inl (IntKind.i64.wrap (i+1),o++Ih n x)):=by
  intro i x n o ho;unfold Mi Ih Vc;by_cases h1:n= []
  ·rw [if_neg (by simp [h1]),if_neg (by simp [h1]),List.append_nil]
  rw [if_pos (by simpa using h1),Ab];by_cases h2:x.bc≥2
  ·rw [if_pos (by simpa using h2),if_pos ⟨h1,h2⟩,Kr (by omega)];rfl
  ·rw [if_neg (by simpa using h2),if_neg (fun h=>h2 h.2),List.append_nil]
 have h6: ∀(i:Int) (x:AU) (k n:Ai) (o:List AM),o.length≤99→Lk i o x k n=some (.inl (IntKind.i64.wrap (i+1),o++(Kk k n x++Ih n x))):=by
  intro i x k n o ho;unfold Lk Kk Vo;by_cases h1:k= []
  ·rw [if_neg (by simp [h1]),if_neg (by simp [h1]),h7 _ _ _ _ (by omega)];rfl
  rw [if_pos (by simpa using h1)];by_cases h2:k=n
  ·rw [if_neg (by simp [h2]),if_neg (by simp [h2]),h7 _ _ _ _ (by omega)];rfl
  rw [if_pos (by simpa using h2),Ab];by_cases h3:x.bc≥1
  ·rw [if_pos (by simpa using h3),if_pos ⟨h1,h2,h3⟩,Kr (by omega),Ab,h7 _ _ _ _ (by rw [Aj,Bd];omega),List.append_assoc]
  ·rw [if_neg (by simpa using h3),if_neg (fun h=>h3 h.2.2),h7 _ _ _ _ (by omega)];rfl
 have Hi: ∀o:List AM,o.length=2→Mh t a o=some (t.ae.foldl (fun o x=>o++Ki t a x) o):=by
  intro o ho;unfold Mh;exact(Pn (xs:=t.ae) (body:=fun s:Int × List AM=>Mg t a s.1 s.2) (fun i (o:List AM)=>(i,o)) (fun o x=>o++Ki t a x) (fun o=>some o) (fun i o=>o.length≤2+2*i)
   (fun i hi o hI=>by
    have hI:o.length≤2+2*i:=hI;have hw:=D6 hi (by omega);have hk:=VV t a t.ae[i];have hm:=List.getElem_mem hi;have hx:=Wy hg hm;refine⟨?_,by show List.length _≤_;rw [Aj];omega⟩;show Mg t a i o=_;unfold Mg;rw [if_pos (by simpa using hi),CO hi,Ab];have e1:(if(a.af !=1)=true then(Ll t t.ae[i].ab a.a8).bind fun v20=>some (Sum.inl v20)else some (Sum.inl ([]:Aa)):Option (Aa ⊕ Option ((Int × List AM) ⊕ Option (List AM))))=some (.inl (G0 t a t.ae[i])):=by
     unfold G0;by_cases h1:a.af=1
     ·rw [if_neg (by simp [h1]),if_pos h1]
     ·rw [if_pos (by simpa using h1),if_neg h1,aM hS (hS.idx _ hm) hx (ha.old h1)];rfl
    rw [e1];show US t a i o t.ae[i] (G0 t a t.ae[i])=_;unfold US;have e2: ∀k,(if(a.af !=2)=true then(Ll t t.ae[i].ab a.bd).bind fun v19=>Lk i o t.ae[i] k v19 else Lk i o t.ae[i] k ([]:Aa))=Lk i o t.ae[i] k (Gv t a t.ae[i]):=by
     intro k;unfold Gv;by_cases h1:a.af=2
     ·rw [if_neg (by simp [h1]),if_pos h1]
     ·rw [if_pos (by simpa using h1),if_neg h1,aM hS (hS.idx _ hm) hx (ha.new h1)];rfl
    rw [e2,h6 _ _ _ _ _ (by omega),hw];rfl)
   (fun o _=>by show Mg t a t.ae.length o=_;unfold Mg;rw [if_neg (by simp)]) (s:=o) (by omega)).1
 have hn:t.ab.length≤2000000:=hS.name;unfold QR Ij Jb;rcases ha.kind with h1|h1|h1
 ·have hr:=ha.new (by omega);rw [if_neg (by simp [h1]),if_pos h1];show Lj t a [] [] false []=_;unfold Lj;rw [if_pos (by simp [h1]),Sz hn hr.small (LN (by omega) hr),Ab];unfold OM;rw [if_pos (by simp [h1]),Kr (by simp),Ab,Kr (by simp),Ab,Hi _ (by simp)];rfl
 ·have hr:=ha.old (by omega);rw [if_pos (by simp [h1]),if_neg (by omega),if_pos h1,Sz hn hr.small (LN (by omega) hr),Ab,Kr (by simp),Ab];show Lj t a (BM t a.a8).al (BM t a.a8).bf (BM t a.a8).c7 _=_;unfold Lj;rw [if_neg (by simp [h1])];unfold OM;rw [if_neg (by simp [h1]),if_pos (by simp [h1]),Kr (by simp),Ab,Hi _ (by simp)];rfl
 ·have hr:=ha.old (by omega);have CY:=ha.new (by omega);have hk:(BM t a.a8).al=(BM t a.bd).al:=by
   have:=ha.same h1;unfold Cz at this;unfold BM;rw [List.head?_eq_getElem?,List.head?_eq_getElem?];exact congrArg (fun z=>t.ab++ [47]++z) this
  rw [if_pos (by simp [h1]),if_neg (by omega),if_neg (by omega),Sz hn hr.small (LN (by omega) hr),Ab,Kr (by simp),Ab];show Lj t a (BM t a.a8).al (BM t a.a8).bf (BM t a.a8).c7 _=_;unfold Lj;rw [if_pos (by simp [h1]),Sz hn CY.small (LN (by omega) CY),Ab];unfold OM;rw [if_neg (by simp [h1]),if_neg (by simp [h1]),if_pos (by simp [h1]),Kr (by simp),Ab,Hi _ (by simp),hk];rfl
theorem pQ {σ α:Type} {body:σ→Option (σ ⊕ Option α)} {s:σ} {o:Option α} (h:body s=some (.inr o)):BA body s=o:=by rw [HF,h]
theorem oU {σ α:Type} {body:σ→Option (σ ⊕ Option α)} {s s':σ} (h:body s=some (.inl s')):BA body s=BA body s':=by rw [HF,h]
abbrev wk (w:Ao):Ai:=w.al
theorem Sb {α:Type} (lt:α→Bool) (x:α) (l:List α):Ej lt (x::l)=if lt x=true then Ej lt l+1 else 0:=by unfold Ej;rw [List.takeWhile_cons];split<;>rfl
theorem V7 {x:Ao} {l:List Ao} (h:Ii (x::l)):(∀y∈l,bl x.al y.al=true)∧Ii l:=by unfold Ii Eu at h;rw [List.pairwise_cons]at h;exact h
theorem qK {l:List Ao} {k:Ai} (h: ∀y∈l,bl k y.al=true):l.find? (fun w=>w.al==k)=none:=by rw [List.find?_eq_none];intro y hy;have:=Ik (h y hy);simpa using fun e=>this e.symm
theorem nO {k:Ai}: ∀{l:List Ao},Ii l→l.find? (fun w=>w.al==k)=match l[cR l k]? with|some w=>if w.al=k then some w else none|none=>none
 | [],_=>by simp
 |x::l,h=>by
  obtain⟨h1,h2⟩:=V7 h;have ih:=nO (k:=k) h2;rw [cR,Sb,List.find?_cons];by_cases hb:bl x.al k=true
  ·have Bk:(x.al==k)=false:=by simpa using Ik hb
   rw [if_pos hb,Bk,List.getElem?_cons_succ];exact ih
  ·rw [if_neg hb,List.getElem?_cons_zero];by_cases he:x.al=k
   ·rw [show(x.al==k)=true by simpa using he];simp [he]
   ·rw [show(x.al==k)=false by simpa using he];simp only [he,if_false];have hk:bl k x.al=true:=Sc (by simpa using hb) he;exact qK fun y hy=>Kb hk (h1 y hy)
def Dn (k:Ai) (w:Ao):Bool:=bl w.al k||w.al==k
def Kv (l:List Ao) (w:Ao) (q:Nat):List Ao:=
 match(if q=0 then none else l[q-1]?)with
 |some y=>if y.al=w.al then l.set (q-1) w else l.take q++ [w]++l.drop q
 |none=>l.take q++ [w]++l.drop q
theorem pI {w:Ai} {l:List Ao} (h: ∀y∈l,bl w y.al=true):Ej (Dn w) l=0:=by
 cases l with
 |nil=>rfl
 |cons y l=>rw [Sb,if_neg];have h1:=h y (by simp);have h2:=WB h1;have h3:=Ik h1;unfold Dn;rw [h2];simpa using fun e=>h3 e.symm
theorem ZZ {w:Ao}: ∀{l:List Ao},Ii l→Kv l w (Ej (Dn w.al) l)=C3 wk w l
 | [],_=>by simp [Kv,C3,Ej]
 |x::l,h=>by
  obtain⟨h1,h2⟩:=V7 h;have ih:=ZZ (w:=w) h2;rw [Sb,C3];by_cases ha:bl (wk w) (wk x)=true
  ·have hl:Dn w.al x=false:=by
    have h3:=WB ha;have h4:=Ik ha;unfold Dn;rw [h3];simpa using fun e=>h4 e.symm
   rw [if_pos ha,hl,if_neg (by simp)];simp [Kv]
  rw [if_neg ha];by_cases he:wk w=wk x
  ·have hl:Dn w.al x=true:=by unfold Dn;rw [show(x.al==w.al)=true by simpa using he.symm];simp
   have hz:Ej (Dn w.al) l=0:=pI fun y hy=>by rw [show w.al=x.al from he];exact h1 y hy
   rw [if_pos he,hl,if_pos rfl,hz];simp [Kv,show x.al=w.al from he.symm]
  ·have hb:bl x.al w.al=true:=Sc (by simpa using ha) he;have hl:Dn w.al x=true:=by unfold Dn;rw [hb];rfl
   rw [if_neg he,hl,if_pos rfl,←ih];have hle:=Sw (Dn w.al) l;generalize Ej (Dn w.al) l=q at hle;unfold Kv;rw [if_neg (by omega),Nat.add_sub_cancel];cases q with
   |zero=>simp only [List.getElem?_cons_zero,if_true];rw [if_neg (fun e=>he e.symm)];simp
   |succ q=>
    rw [if_neg (by omega),Nat.add_sub_cancel,List.getElem?_cons_succ,List.getElem?_eq_getElem (by omega)];simp only;split
    ·simp
    ·simp
theorem bT {w:Ai}: ∀{l:List Ao},Ii l→ ∀(j:Nat) (hj:j<l.length),Ej (Dn w) l≤j→Dn w l[j]=false
 | [],_,j,hj,_=>by simp at hj
 |x::l,h,j,hj,hq=>by
  obtain⟨h1,h2⟩:=V7 h;rw [Sb]at hq;by_cases hx:Dn w x=true
  ·rw [if_pos hx]at hq;cases j with
   |zero=>omega
   |succ j=>exact bT h2 j (by simpa using hj) (by omega)
  ·have Cg:Dn w x=false:=by simpa using hx
   cases j with
   |zero=>exact Cg
   |succ j=>have hm:l[j]'(by simpa using hj)∈l:=List.getElem_mem _;have h3:=h1 _ hm;show Dn w (l[j]'(by simpa using hj))=false;unfold Dn at Cg ⊢;simp only [Bool.or_eq_false_iff,beq_eq_false_iff_ne]at Cg ⊢;have h4:bl w x.al=true:=Sc Cg.1 Cg.2;have h5:=Kb h4 h3;exact⟨WB h5,fun e=>Ik h5 e.symm⟩
theorem W8 {i:Nat} (h0:0<i) (h:i≤2000000):IntKind.i64.wrap ((i:Int)-1)=((i-1:Nat):Int):=by rw [CD (by omega) (by omega)];omega
theorem MT {l:List Ao} {w:Ao} (hl:l.length≤2000000) (hr:Ii l):IY l w=some (C3 wk w l):=by
 have hk: ∀q:Nat,q≤l.length→Rj l w (q:Int)=some (Kv l w q):=by
  intro q hq;have r1:0≤(q:Int)∧(q:Int)≤(l.length:Int)∧(l.length:Int)≤(l.length:Int):=by omega
  have Le:(AL l (q:Int) (l.length:Int))=l.drop q:=by rw [show(l.length:Int)=((l.length:Nat):Int)from rfl,Qb,List.take_length]
  have Ht:(AL l 0 (q:Int))=l.take q:=Qe l q;have r2:((([]:List Ao).length:Int)+((l.drop q).length:Int))*40≤140737488355328∧(([]:List Ao).length:Int)+((l.drop q).length:Int)≤140737488355328:=by rw [List.length_nil,List.length_drop];omega
  have r3:0≤(0:Int)∧(0:Int)≤(q:Int)∧(q:Int)≤(l.length:Int):=by omega
  have r4:((([]:List Ao).length:Int)+((l.take q).length:Int))*40≤140737488355328∧(([]:List Ao).length:Int)+((l.take q).length:Int)≤140737488355328:=by rw [List.length_nil,List.length_take];omega
  have r5:(((l.take q).length:Int)+(([w]:List Ao).length:Int))*40≤140737488355328∧((l.take q).length:Int)+(([w]:List Ao).length:Int)≤140737488355328:=by rw [Bd,List.length_take];omega
  have r6:(((l.take q++ [w]).length:Int)+((l.drop q).length:Int))*40≤140737488355328∧((l.take q++ [w]).length:Int)+((l.drop q).length:Int)≤140737488355328:=by rw [Aj,Bd,List.length_take,List.length_drop];omega
  have r7:((([]:List Ao).length:Int)+((l).length:Int))*40≤140737488355328∧(([]:List Ao).length:Int)+((l).length:Int)≤140737488355328:=by rw [List.length_nil];omega
  unfold Rj Kv;by_cases h0:q=0
  ·subst h0;rw [if_neg (by simp),if_pos rfl];rw [AY r1,Le,AY r2,AY r3,Ht,AY r4,AY r5,AY r6]
  ·have E4:q-1<l.length:=by omega
   rw [if_pos (by simp;omega),if_neg h0,W8 (by omega) (by omega),CO E4,Ab,List.getElem?_eq_getElem E4];simp only;by_cases he:(l[q-1]).al=w.al
   ·rw [if_pos (by simpa using he),if_pos he,AY r7,Ab];rfl
   ·rw [if_neg (by simpa using he),if_neg he];rw [AY r1,Le,AY r2,AY r3,Ht,AY r4,AY r5,AY r6]
 have hle:=Sw (Dn w.al) l;have key: ∀n j:Nat,j=Ej (Dn w.al) l+n→j≤l.length→BA (fun s:Int=>Lq l w s) (j:Int)=some (Kv l w (Ej (Dn w.al) l)):=by
  intro n
  induction n with
  |zero=>
   intro j hj TR;have L6:j=Ej (Dn w.al) l:=by omega
   refine(pQ ?_).trans (hk _ hle);show Lq l w (j:Int)=_;unfold Lq;by_cases h0:j=0
   ·rw [if_neg (by simp [h0]),L6]
   ·have E4:j-1<l.length:=by omega
    have ht:=bV (lt:=Dn w.al) (l:=l) (i:=j-1) (by omega);rw [if_pos (by simp;omega),W8 (by omega) (by omega),CO E4,Ab,if_neg,L6];unfold Dn at ht;have ht:(bl l[j-1].al w.al||l[j-1].al==w.al)=true:=ht;show¬(!(bl l[j-1].al w.al||l[j-1].al==w.al))=true;rw [ht];simp
  |succ n ih=>
   intro j hj TR;have E4:j-1<l.length:=by omega
   have ht:=bT (w:=w.al) hr (j-1) E4 (by omega);have e:Lq l w (j:Int)=some (.inl ((j-1:Nat):Int)):=by unfold Lq;rw [if_pos (by simp;omega),W8 (by omega) (by omega),CO E4,Ab,if_pos];have ht:(bl l[j-1].al w.al||l[j-1].al==w.al)=false:=ht;show(!(bl l[j-1].al w.al||l[j-1].al==w.al))=true;rw [ht];rfl
   rw [oU (body:=fun s:Int=>Lq l w s) e];exact ih (j-1) (by omega) (by omega)
 unfold IY;rw [key (l.length-Ej (Dn w.al) l) l.length (by omega) (Nat.le_refl _),ZZ hr]
structure dQ (o:AM):Prop where
 key:GP o.al=true
 val:H8 o.bf=true
 lz:o.k8=0
 kind:o.af=2∨o.af=3∨o.af=6∨o.af=7
 none:o.af=3∨o.af=6→o.bf= []
theorem pK {s:Ai} (h:H8 s=true):s.length≤24:=by unfold H8 at h;simp only [Ac,decide_eq_true_eq]at h;omega
theorem oS {s:Ai} (h:GP s=true):s.length≤12:=by unfold GP at h;simp only [Ac]at h;have:=Eg.1 h.1;omega
structure Ky (n:Nat) (ws:List Ao):Prop where
 eb:Ii ws
 len:ws.length≤n
 fu: ∀w∈ws,FY w=true
theorem rJ {n:Nat} {ws:List Ao} {w:Ao} (h:Ky n ws) (hw:FY w=true):Ky (n+1) (C3 wk w ws):=by
 refine⟨Zr h.eb,Nat.le_trans (aV _) (by have:=h.len;omega),fun y hy=> ?_⟩;rcases(Ww (key:=wk) h.eb y).1 hy with rfl|hy
 ·exact hw
 ·exact h.fu y hy.1
theorem qE {w:Ao} (h:FY w=true):w.bf.length≤24:=by unfold FY W9 at h;simp only [Ac]at h;exact pK h.2.1
theorem qH {w:Ao} (h:FY w=true):w.al.length≤12:=by unfold FY at h;simp only [Ac]at h;exact oS h.1
structure wB (Cj:List Ao):Prop where
 eb:Ii Cj
 len:Cj.length≤24
 fu: ∀w∈Cj,FY w=true
theorem Wg {s:Ai} (h:field s=true):s.length≤3:=by unfold field at h;simp only [Ac]at h;have:=Eg.1 h.1;omega
theorem WX {t:Ah} {r:Aw} (h:Bz t r=true) (c:Int):(Cz r c).length≤3:=by
 unfold Bz at h;simp only [Ac]at h;unfold Cz;cases e:r.ah[c.toNat]? with
 |none=>simp
 |some s=>exact Wg (A1.1 h.2 s (List.mem_of_getElem? e))
theorem R7 {k:Nat}: ∀{xs:List Ai},(∀s∈xs,s.length≤k)→Da xs≤k*xs.length
 | [],_=>by simp [Da]
 |s::xs,h=>by have h1:=h s (by simp);have h2:=R7 (k:=k) (xs:=xs) fun y hy=>h y (by simp [hy]);simp only [Da,An,Nat.mul_add,Nat.mul_one];omega
theorem rB {t:Ah} {r:Aw} (hg:AT t=true) (h:Bz t r=true):(BM t r).al.length≤5∧(BM t r).bf.length≤20:=by
 have hn:=VH (Kf hg);have hc:=HE hg;have hv:=WX h 0;have h':=h;unfold Bz at h';simp only [Ac,beq_iff_eq]at h';have CF: ∀s∈r.ah,s.length≤3:=fun s hs=>Wg (A1.1 h'.2 s hs);constructor
 ·unfold BM;have e:(r.ah.head?).getD []=Cz r 0:=by unfold Cz;rw [List.head?_eq_getElem?];rfl
  simp only [e,Aj,Bd];omega
 ·have h1:=Pr r.ah.tail [44];have h2:=R7 (k:=3) (xs:=r.ah.tail) fun s hs=>CF s (List.mem_of_mem_tail hs);have h3:r.ah.tail.length≤3:=by rw [List.length_tail];omega
  rw [Bd]at h1;show(Lib.join r.ah.tail [44]).length≤20;omega
theorem qB {t:Ah} {n:Ai} {c:Int} {r:Aw} (hg:AT t=true) (hn:n.length=1) (h:Bz t r=true):(Es t n c r).length≤11:=by have h1:=VH (Kf hg);have h2:=WX h c;have h3:=WX h 0;unfold Es head;simp only [Aj,Bd];omega
theorem aL {α β:Type} {P:β→Prop} {f:α→List β}: ∀(xs:List α) (a:List β),(∀x∈xs,∀o∈f x,P o)→(∀o∈a,P o)→ ∀o∈xs.foldl (fun a x=>a++f x) a,P o
 | [],a,_,h=>h
 |x::xs,a,hf,h=>aL xs (a++f x) (fun y hy=>hf y (by simp [hy])) fun o ho=>by
  rcases Ag.1 ho with ho|ho
  ·exact h o ho
  ·exact hf x (by simp) o ho
theorem ZC {α β:Type} {f:α→List β} (hf: ∀x,(f x).length≤2): ∀(xs:List α) (a:List β),(xs.foldl (fun a x=>a++f x) a).length≤a.length+2*xs.length
 | [],a=>by simp
 |x::xs,a=>by have h1:=ZC hf xs (a++f x);have h2:=hf x;rw [Aj]at h1;rw [List.foldl_cons,An];omega
def KC (s:Ai):Prop:= ∀b∈s,(DN b||([46,47]:Ai).contains b)=true
def dF (s:Ai):Prop:= ∀b∈s,(DN b||([46,45,44,95]:Ai).contains b)=true
theorem Sd {s:Ai} (h:field s=true): ∀b∈s,DN b=true:=by unfold field H7 at h;simp only [Ac]at h;intro b hb;have:=A1.1 h.2 b hb;simpa using this
theorem J8 {s:Ai} {k:Int} (h:Ci s k=true): ∀b∈s,DN b=true:=by unfold Ci at h;simp only [Ac]at h;intro b hb;have:=A1.1 h.1 b hb;unfold small at this;unfold DN;simp only [Bool.not_eq_true',Bool.or_eq_false_iff,decide_eq_false_iff_not]at this;simp only [Bool.or_eq_true,Ac,decide_eq_true_eq];left;omega
theorem MD {s:Ai} (h: ∀b∈s,DN b=true):KC s:=fun b hb=>by rw [h b hb];rfl
theorem KC.app {s u:Ai} (h:KC s) (k:KC u):KC (s++u):=fun b hb=>by
 rcases Ag.1 hb with hb|hb
 ·exact h b hb
 ·exact k b hb
theorem uU:KC [46]:=fun b hb=>by rw [List.mem_singleton]at hb;subst hb;decide
theorem Xj:KC [47]:=fun b hb=>by rw [List.mem_singleton]at hb;subst hb;decide
theorem Y7 {s:Ai} (h1:1≤s.length) (h2:s.length≤12) (h:KC s):GP s=true:=by unfold GP H7;rw [Eg.2 ⟨by omega,by omega⟩,A1.2 h];rfl
theorem nT {s:Ai} (h2:s.length≤24) (h:dF s):H8 s=true:=by unfold H8 H7;rw [show decide ((s.length:Int)≤24)=true by simp;omega,A1.2 h];rfl
theorem ZX {xs:List Ai} (h: ∀x∈xs,∀b∈x,DN b=true):dF (Lib.join xs [44]):=by
 cases xs with
 |nil=>intro b hb;simp [Lib.join_nil]at hb
 |cons x r=>
  intro b hb;rw [Lib.join_cons]at hb;rcases Ag.1 hb with hb|hb
  ·rw [h x (by simp) b hb];rfl
  ·unfold Lib.joinTail at hb;obtain⟨l,hl,eP⟩:=List.mem_flatten.1 hb;obtain⟨y,hy,rfl⟩:=List.mem_map.1 hl;rcases Ag.1 eP with hb|hb
   ·rw [List.mem_singleton]at hb;subst hb;decide
   ·rw [h y (by simp [hy]) b hb];rfl
theorem RP {t:Ah} {r:Aw} (h:Bz t r=true): ∀x∈r.ah,∀b∈x,DN b=true:=by unfold Bz at h;simp only [Ac]at h;exact fun x hx=>Sd (A1.1 h.2 x hx)
theorem MY {t:Ah} {r:Aw} (h:Bz t r=true) (c:Int): ∀b∈Cz r c,DN b=true:=by
 unfold Cz;cases e:r.ah[c.toNat]? with
 |none=>simp
 |some s=>exact RP h s (List.mem_of_getElem? e)
theorem R4 {t:Ah} {r:Aw} (hg:AT t=true) (h:Bz t r=true):GP (BM t r).al=true∧H8 (BM t r).bf=true:=by
 have hl:=rB hg h;have e:(BM t r).al=t.ab++ [47]++Cz r 0:=by unfold BM Cz;rw [List.head?_eq_getElem?];rfl
 refine⟨Y7 ?_ (by omega) ?_,nT (by omega) ?_⟩
 ·rw [e];simp;omega
 ·rw [e];exact((MD (J8 (Kf hg))).app Xj).app (MD (MY h 0))
 ·exact ZX fun x hx=>RP h x (List.mem_of_mem_tail hx)
theorem VS {t:Ah} {n:Ai} {c:Int} {r:Aw} (hg:AT t=true) (hn:Ci n 1=true) (h:Bz t r=true):GP (Es t n c r)=true:=by
 have hl:=qB (c:=c) hg (VH hn) h;refine Y7 ?_ (by omega) ?_
 ·unfold Es;simp;omega
 ·unfold Es head;exact((((((MD (J8 (Kf hg))).app uU).app (MD (J8 hn))).app Xj).app (MD (MY h c))).app Xj).app (MD (MY h 0))
theorem sH {t:Ah} {a:A6} (hg:AT t=true) (h:FU t a=true):(Ij t a).length≤8∧ ∀o∈Ij t a,dQ o:=by
 have ho:a.af≠1→Bz t a.a8=true:=fun h1=>by
  unfold FU at h;rw [if_neg h1]at h;by_cases h2:a.af=2
  ·rw [if_pos h2,Ac]at h;exact h.1
  rw [if_neg h2]at h;by_cases h3:a.af=3
  ·rw [if_pos h3,Ac]at h;exact h.1
  rw [if_neg h3]at h;cases h
 have hn:a.af≠2→Bz t a.bd=true:=fun h2=>by
  unfold FU at h;by_cases h1:a.af=1
  ·rw [if_pos h1,Ac]at h;exact h.2
  rw [if_neg h1,if_neg h2]at h;by_cases h3:a.af=3
  ·rw [if_pos h3,Ac,Ac]at h;exact h.2.1
  rw [if_neg h3]at h;cases h
 have hc:=HE hg;have v0:H8 ([]:Ai)=true:=by decide
 constructor
 ·have h1:=ZC (VV t a) t.ae (Jb t a);rw [VD]at h1;unfold Ij;omega
 ·refine aL _ _ (fun x hx o hm=> ?_) (fun o hm=> ?_)
  ·have IM:=(Lz hg hx).1;unfold Ki Kk Ih at hm;rcases Ag.1 hm with hm|hm
   ·split at hm
    ·rename_i q;rw [List.mem_singleton]at hm;subst hm;refine⟨?_,v0,rfl,by simp,fun _=>rfl⟩;show GP (G0 t a x)=true;unfold G0 at q ⊢;by_cases h1:a.af=1
     ·rw [if_pos h1]at q;exact absurd rfl q.1
     ·rw [if_neg h1];exact VS hg IM (ho h1)
    ·simp at hm
   ·split at hm
    ·rename_i q;rw [List.mem_singleton]at hm;subst hm;refine⟨?_,v0,rfl,by simp,fun _=>rfl⟩;show GP (Gv t a x)=true;unfold Gv at q ⊢;by_cases h1:a.af=2
     ·rw [if_pos h1]at q;exact absurd rfl q.1
     ·rw [if_neg h1];exact VS hg IM (hn h1)
    ·simp at hm
  ·unfold Jb at hm;split at hm
   ·rename_i q;have w:=R4 hg (hn (by omega));simp only [Ad,List.not_mem_nil,or_false]at hm;rcases hm with rfl|rfl
    ·exact⟨w.1,v0,rfl,by simp,fun _=>rfl⟩
    ·exact⟨w.1,w.2,rfl,by simp,fun k=>by simp at k⟩
   ·rename_i q1;have w1:=R4 hg (ho q1);split at hm
    ·simp only [Ad,List.not_mem_nil,or_false]at hm;rcases hm with rfl|rfl
     ·exact⟨w1.1,w1.2,rfl,by simp,fun k=>by simp at k⟩
     ·exact⟨w1.1,v0,rfl,by simp,fun _=>rfl⟩
    ·rename_i q2;have w2:=R4 hg (hn q2);simp only [Ad,List.not_mem_nil,or_false]at hm;rcases hm with rfl|rfl
     ·exact⟨w1.1,w1.2,rfl,by simp,fun k=>by simp at k⟩
     ·exact⟨w1.1,w2.2,rfl,by simp,fun k=>by simp at k⟩
theorem RU {c:UInt8}: ∀{p q:Ai},(∀b∈p,b≠c)→AI c (p++ [c]++q)=p::AI c q:=fun{p q} h=>by rw [List.append_assoc];exact DK h
theorem M8 {b:UInt8} (h:DN b=true):b≠47∧b≠44∧b≠46:=by refine⟨?_, ?_, ?_⟩<;>(rintro rfl;revert h;decide)
theorem sW {t:Ah} {n:Ai} (hg:AT t=true) (hn:Ci n 1=true): ∀b∈head t n,b≠47:=by
 intro b hb;unfold head at hb;simp only [Ag,List.mem_singleton]at hb;rcases hb with(hb|hb)|hb
 ·exact(M8 (J8 (Kf hg) b hb)).1
 ·subst hb;decide
 ·exact(M8 (J8 hn b hb)).1
theorem pU {t:Ah} {n:Ai} {c:Int} {r:Aw} (hg:AT t=true) (hn:Ci n 1=true) (h:Bz t r=true):AI 47 (Es t n c r)= [head t n,Cz r c,Cz r 0]:=by unfold Es;rw [show head t n++ [47]++Cz r c++ [47]++Cz r 0=head t n++ [47]++(Cz r c++ [47]++Cz r 0) by simp,RU (sW hg hn),RU fun b hb=>(M8 (MY h c b hb)).1,HA fun b hb=>(M8 (MY h 0 b hb)).1]
theorem oW (t:Ah) (r:Aw):(BM t r).al=t.ab++ [47]++Cz r 0:=by unfold BM Cz;rw [List.head?_eq_getElem?];rfl
theorem oQ {t:Ah} {r:Aw} (hg:AT t=true) (h:Bz t r=true):AI 47 (BM t r).al= [t.ab,Cz r 0]:=by rw [oW,RU fun b hb=>(M8 (J8 (Kf hg) b hb)).1,HA fun b hb=>(M8 (MY h 0 b hb)).1]
theorem vU {t:Ah} {r:Aw} {c:Int} (h:Bz t r=true) (h0:0≤c) (h1:c≤(t.ax.length:Int)-1):field (Cz r c)=true:=by
 unfold Bz at h;simp only [Ac,beq_iff_eq]at h;have hl:c.toNat<r.ah.length:=by have:=h.1;omega
 unfold Cz;rw [List.getElem?_eq_getElem hl];exact A1.1 h.2 _ (List.getElem_mem hl)
theorem mA {t:Ah} {n:Ai} {c:Int} {r r':Aw} (hg:AT t=true) (hn:Ci n 1=true) (h:Bz t r=true) (h':Bz t r'=true):(BM t r).al≠Es t n c r':=by intro e;have h1:=oQ hg h;rw [e,pU hg hn h']at h1;simp at h1
theorem n7 {xs:List Ai} (hx:xs≠ []) (h: ∀x∈xs,∀b∈x,b≠44):AI 44 (Lib.join xs [44])=xs:=by
 induction xs with
 |nil=>exact absurd rfl hx
 |cons x r ih=>
  cases r with
  |nil=>rw [Lib.join_one,HA (h x (by simp))]
  |cons y r=>
   have e:Lib.join (x::y::r) [44]=x++ [44]++Lib.join (y::r) [44]:=by rw [Lib.join_cons,Lib.join_cons];simp [Lib.joinTail]
   rw [e,RU (h x (by simp)),ih (by simp) fun z hz=>h z (by simp [hz])]
theorem Z7 {t:Ah} {w:Ao} (h:Gj t w=true):Bz t (EX w)=true∧w=BM t (EX w):=by unfold Gj dC at h;simp only [Ac,beq_iff_eq]at h;obtain⟨h1,h2,h3,h4⟩:=h;refine⟨h1, ?_⟩;cases w;cases hq:BM t (EX _);rename_i a b c d e f;rw [hq]at h2 h3 h4;simp only at h2 h3 h4;rw [h2,h3,h4]
def uS (t:Ah) (a:A6):List Ao:=
 if a.af=1 then [⟨(BM t a.bd).al,(BM t a.bd).bf,false⟩]else
 if a.af=2 then [⟨(BM t a.a8).al, [],true⟩]else [⟨(BM t a.a8).al,(BM t a.bd).bf,false⟩]
def uZ (t:Ah) (a:A6) (x:AU):List Ao:=
 (if G0 t a x≠ []∧G0 t a x≠Gv t a x∧x.bc≥1 then [⟨G0 t a x, [],true⟩]else [])++(if Gv t a x≠ []∧x.bc≥2 then [⟨Gv t a x, [],false⟩]else [])
def dB (t:Ah) (a:A6):List Ao:=uS t a++t.ae.flatMap (uZ t a)
def wG (t:Ah) (a:A6) (st st':List Ao):Prop:=
 ∀y,y∈st'↔y.c7=false∧(y∈dB t a∨y∈st∧ ∀w∈dB t a,w.al≠y.al)
theorem HB {t:Ah} (h:AT t=true):D4 t:=by
 have hn:=(RM (Kf h)).1;have h0:=h;unfold AT at h;simp only [Ac,decide_eq_true_eq]at h;have hl:=Eg.1 h.1.1.2.2;have hc:=h.1.1.2.1;refine⟨by omega,by omega,fun c hm=> ?_,by omega,fun x hx=> ?_⟩
 ·obtain⟨i,hi,rfl⟩:=List.mem_iff_getElem.1 hm;unfold Ie at hc;have:=A1.1 hc i (List.mem_range.2 hi);unfold Kp at this;rw [List.getElem?_eq_getElem hi]at this;simp only [Option.getD_some,Ac]at this;have:=(RM this.1).1;omega
 ·have:=(RM (Lz h0 hx).1).1;omega
structure GR (l:List Ai):Prop where
 len:l.length≤10
 each: ∀s∈l,s.length≤10
theorem GR.small {l:List Ai} (h:GR l):Small l:=⟨by have:=h.len;omega,by
 have h1:=R7 h.each;have h2:=h.len;have h3:10*l.length≤100:=by omega
 omega⟩
theorem IZ {t:Ah} {r:Aw} (hg:AT t=true) (h:Bz t r=true):GR r.ah∧2≤r.ah.length:=by
 have Qq:=HE hg;have h4:t.ax.length≤4:=by have:=hg;unfold AT at this;simp only [Ac,decide_eq_true_eq]at this;have:=Eg.1 this.1.1.2.2;omega
 unfold Bz at h;rw [Ac,beq_iff_eq]at h;exact⟨⟨by omega,fun s hs=>by have:=Wg (A1.1 h.2 s hs);omega⟩,by omega⟩
theorem Wv {k v:Ai} (h1:GP k=true) (h2:H8 v=true):FY ⟨k,v,false⟩=true:=by unfold FY W9;rw [h1,h2];rfl
theorem nN {t:Ah} {r:Aw} (hg:AT t=true) (h:Bz t r=true):Js t r:=⟨by have h1:=h;unfold Bz at h1;rw [Ac,beq_iff_eq]at h1;omega,(IZ hg h).1.small⟩
theorem Y8 {t:Ah} {l:List Ao} {r:Aw} (h:r∈Cj t l):Bz t r=true:=by unfold Cj at h;obtain⟨w,hw,rfl⟩:=List.mem_map.1 h;exact(Z7 (List.mem_filter.1 hw).2).1
theorem YL {t:Ah} {x:AU} {r:Aw} (hg:AT t=true) (hx:x∈t.ae) (hr:Bz t r=true):J7 t x r=some (Es t x.ab x.cq r)∧FY ⟨Es t x.ab x.cq r, [],false⟩=true:=by have hS:=HB hg;exact⟨Wr hS.name (hS.idx x hx) (Wy hg hx) (nN hg hr),Wv (VS hg (Lz hg hx).1 hr) (by decide)⟩
theorem RQ {w:Ao} (h:FY w=true):LS w:=⟨by have:=qH h;omega,by have:=qE h;omega⟩
theorem EW [Inhabited CP] {c:Au} {k:Int} (l:List Ai) (hl:l≠ []) (h:Bn c k) (hk:k≤4611686018427387000):By (Ef c l) fun p=>p.1∈l∧Bn p.2 (k+2):=by unfold Ef;have EP:0<l.length:=List.length_pos_iff.2 hl;refine(DM l.length h hk).bind fun p ⟨hp,hc⟩=> ?_;exact By.bind (P:=fun y=>y∈l) (.getI hp.1 (hp.2.1 (by omega)) fun x hx=>hx) fun y hy=> .ret ⟨hy,hc⟩
def GJ:List Ai:= [[105], [106], [109]]
structure cW (w:Int) (x:AU):Prop where
 c1:1≤x.cq
 c2:x.cq≤w
 s0:0≤x.bc
 s3:x.bc≤3
structure TI (w:Int) (q:Nat) (l:List AU):Prop where
 x: ∀x∈l,cW w x
 nm: ∀x∈l,x.ab∈GJ.take q
 up:l.Pairwise fun a b=>Op.bytesLess a.ab b.ab=true
 len:l.length≤q
theorem uC: ∀{q:Nat},q<3→ ∀a∈GJ.take q,Op.bytesLess a ((GJ[q]?).getD [])=true:=by
 intro q hq;have:q=0∨q=1∨q=2:=by omega
 rcases this with rfl|rfl|rfl<;>decide
theorem bJ {q:Nat} {a:Ai} (h:a∈GJ.take q):a∈GJ.take (q+1):=by rw [List.take_add_one];exact Ag.2 (.inl h)
theorem TI.add {w:Int} {q:Nat} {l:List AU} {x:AU} (h:TI w q l) (hq:q<3) (hx:cW w x) (hn:x.ab=(GJ[q]?).getD []):TI w (q+1) (l++ [x]):=by
 refine⟨fun y hy=> ?_,fun y hy=> ?_, ?_, ?_⟩
 ·rcases Ag.1 hy with hy|hy
  ·exact h.x y hy
  ·rw [List.mem_singleton.1 hy];exact hx
 ·rcases Ag.1 hy with hy|hy
  ·exact bJ (h.nm y hy)
  ·rw [List.mem_singleton.1 hy,hn,List.take_add_one];refine Ag.2 (.inr ?_);have:q<GJ.length:=hq;rw [List.getElem?_eq_getElem this];simp
 ·refine List.pairwise_append.2 ⟨h.up,List.pairwise_singleton _ _,fun a ha b hb=> ?_⟩;rw [List.mem_singleton.1 hb,hn];exact uC hq _ (h.nm a ha)
 ·have:=h.len;rw [Aj,Bd];omega
theorem TI.more {w:Int} {q:Nat} {l:List AU} (h:TI w q l):TI w (q+1) l:=⟨h.x,fun y hy=>bJ (h.nm y hy),h.up,by have:=h.len;omega⟩
theorem nZ {nm:Ai} {cs:List Ai} {l:List AU} (hn:nm∈([[116], [117]]:List Ai)) (hc:Ie cs=true) (h2:2≤cs.length) (h4:cs.length≤4) (h:TI ((cs.length:Int)-1) 3 l):AT ⟨nm,cs,l⟩=true:=by
 unfold AT;have e1:Ci nm 1=true:=by simp only [Ad,List.not_mem_nil,or_false]at hn;rcases hn with rfl|rfl<;>decide
 have hl:=h.len;simp only [e1,hc,Bool.true_and,Ac,decide_eq_true_eq];refine⟨⟨Eg.2 ⟨by omega,by omega⟩,by omega⟩,A1.2 fun i hi=> ?_⟩;have hi:=List.mem_range.1 hi;unfold FW;have ex:(l[i]?).getD ⟨[],0,0⟩=l[i]:=by rw [List.getElem?_eq_getElem hi];rfl
 dsimp only;rw [ex];have hm:=List.getElem_mem hi;have hx:=h.x _ hm;have DD:Ci l[i].ab 1=true:=by have:=h.nm _ hm;have e:GJ.take 3=GJ:=rfl;rw [e]at this;unfold GJ at this;simp only [Ad,List.not_mem_nil,or_false]at this;rcases this with e|e|e<;>rw [e]<;>decide
 rw [DD,Eg.2 ⟨hx.c1,hx.c2⟩,Eg.2 ⟨hx.s0,hx.s3⟩];simp only [Bool.true_and,Bool.or_eq_true,beq_iff_eq];by_cases h0:i=0
 ·exact .inl h0
 ·refine .inr ?_;have hp:i-1<l.length:=by omega
  have ep:(l[i-1]?).getD ⟨[],0,0⟩=l[i-1]:=by rw [List.getElem?_eq_getElem hp];rfl
  rw [ep];exact(List.pairwise_iff_getElem.1 h.up) (i-1) i hp hi (by omega)
def SQ:List Ai:= [[107], [97], [98], [99,99]]
theorem ZA {p:Int} (h0:0≤p) (h3:p<3):Ie (AL SQ 0 (IntKind.i64.wrap (2+p)))=true∧(((AL SQ 0 (IntKind.i64.wrap (2+p))).length:Nat):Int)=2+p:=by
 rw [CD (by omega) (by omega)];have:p=0∨p=1∨p=2:=by omega
 rcases this with rfl|rfl|rfl<;>exact⟨by decide,by decide⟩
theorem VC [Inhabited CP] {v2:Int × Au} {q:Nat} {l:List AU} {y:Ai} {a:List Int} {b e k:Int} {t:Bool} (h0:0≤v2.1) (h3:v2.1<3) (hq:q<3) (hy:y=(GJ[q]?).getD []) (hl:TI (1+v2.1) q l) (hc:Bn ⟨a,b,e⟩ k) (hk:k≤4611686018427380000):
  By (OP v2 q l y a b e t) fun o=> ∃(c:Au) (l':List AU),o= .inl (((q+1:Nat):Int),c.aw,c.bu,c.ay,l')∧TI (1+v2.1) (q+1) l'∧Bn c (k+4):=by
 unfold OP;have hw:=(ZA h0 h3).2;unfold SQ at hw;have w1:IntKind.i64.wrap ((q:Int)+1)=((q+1:Nat):Int):=by rw [CD (by omega) (by omega)];omega
 refine .ite (fun _=> ?_) fun _=> .ret ⟨⟨a,b,e⟩,l,by rw [w1],hl.more,hc.up (by omega)⟩;rw [hw,CD (n:=2+v2.1-1) (by omega) (by omega)];refine(DM _ hc (by omega)).bind fun p ⟨hp,Bu⟩=>(DM 4 Bu (by omega)).bind fun r ⟨hr,Qq⟩=> ?_;have p2:=hp.2.1 (by omega);have r2:=hr.2.1 (by omega);have hlen:=hl.len;refine .req (by simp;omega) (.ret ⟨r.2,_,by rw [w1],hl.add hq ⟨?_, ?_,hr.1,by dsimp only;omega⟩ hy,Qq.up (by omega)⟩)
 ·dsimp only;rw [CD (by omega) (by omega)];omega
 ·dsimp only;rw [CD (by omega) (by omega)];omega
theorem Wz [Inhabited CP] {c:Au} {k:Int} (h:Bn c k) (hk:k≤4611686018427370000):By (Mk c) fun p=>AT p.1=true∧Bn p.2 (k+40):=by
 unfold Mk;refine(EW _ (by simp) h (by omega)).bind fun n ⟨hn,hc⟩=>(DM 3 hc (by omega)).bind fun p ⟨hp,hd⟩=> ?_;have p2:=hp.2.1 (by omega);obtain⟨Le,Ht⟩:=ZA hp.1 p2;unfold SQ at Le Ht;have w1:IntKind.i64.wrap (2+p.1)=2+p.1:=CD (by omega) (by omega);refine .req ⟨by omega,by rw [w1];omega,by rw [w1];simp;omega⟩ (.req (by rw [Ht];simp;omega) ?_);refine MB (fun m s=> ∃q:Nat,s.1=(q:Int)∧q+m=3∧TI (1+p.1) q s.2.2.2.2∧Bn ⟨s.2.1,s.2.2.1,s.2.2.2.1⟩ (k+4+8*q)) (fun m s hI=> ?_) (n:=3) ⟨0,rfl,rfl,⟨by simp,by simp, .nil,by simp⟩,by simpa using hd.up (by omega)⟩;obtain⟨q,e1,e2,hT,ho⟩:=hI;obtain⟨s1,a,b,e,l⟩:=s;dsimp only at e1 hT ho ⊢;subst e1;unfold Ye;have ec:(([([105]:Aa),([106]:Aa),([109]:Aa)]:List (Aa)).length:Int)=3:=rfl;rw [ec];refine .ite (fun AD=> ?_) fun Hd=> ?_
 ·simp only [decide_eq_true_eq]at AD;have hq:q<3:=by omega
  have eg:getI [([105]:Aa),([106]:Aa),([109]:Aa)] (q:Int)=some ((GJ[q]?).getD []):=by
   have:q=0∨q=1∨q=2:=by omega
   rcases this with rfl|rfl|rfl<;>rfl
  rw [eg,Ab];refine(Jk 3 ho (by omega)).bind fun x hx=> .ite (fun _=> ?_) fun _=> .ite (fun _=> ?_) fun _=> ?_
  ·exact(VC hp.1 p2 hq rfl hT hx (by omega)).mono fun o ho=>by obtain⟨c',l',rfl,ht,Jz⟩:=ho;exact⟨m-1,by omega,q+1,rfl,by omega,ht,Jz.up (by omega)⟩
  ·refine(Jk 8 hx (by omega)).bind fun z hz=> ?_;exact(VC hp.1 p2 hq rfl hT hz (by omega)).mono fun o ho=>by obtain⟨c',l',rfl,ht,Jz⟩:=ho;exact⟨m-1,by omega,q+1,rfl,by omega,ht,Jz.up (by omega)⟩
  ·exact(VC hp.1 p2 hq rfl hT hx (by omega)).mono fun o ho=>by obtain⟨c',l',rfl,ht,Jz⟩:=ho;exact⟨m-1,by omega,q+1,rfl,by omega,ht,Jz.up (by omega)⟩
 ·simp only [decide_eq_false_iff_not]at Hd;have:q=3:=by omega
  subst this;refine .ret (.ret ⟨nZ hn Le (by omega) (by omega) ?_,ho.up (by omega)⟩);rw [Ht,show 2+p.1-1=1+p.1 by omega];exact hT
theorem mN [Inhabited CP] {c:Au} {k:Int} (h:Bn c k) (hk:k≤4611686018427360000):By (QZ c) fun p=>D4 p.1∧Bn p.2 (k+60):=by
 unfold QZ;refine(Wz h (by omega)).bind fun p ⟨hg,hc⟩=>(DM 14 hc (by omega)).bind fun q ⟨_,hd⟩=> ?_;have hS:=HB hg;have At:=HE hg;have h4:p.1.ax.length≤4∧p.1.ae.length≤3:=by have:=hg;unfold AT at this;simp only [Ac,decide_eq_true_eq]at this;have:=Eg.1 this.1.1.2.2;omega
 refine .ite (fun _=> ?_) fun _=> .ite (fun _=> ?_) fun _=> .ite (fun _=> ?_) fun _=> .ite (fun _=> ?_) fun _=> .ret ⟨⟨hS.name,hS.gp,hS.ki,hS.idxs,hS.idx⟩,hd.up (by omega)⟩
 ·refine(EW _ (by simp) hd (by omega)).bind fun r ⟨hr,he⟩=> .ret ⟨⟨?_,hS.gp,hS.ki,hS.idxs,hS.idx⟩,he.up (by omega)⟩;simp only [Ad,List.not_mem_nil,or_false]at hr;dsimp only;rcases hr with e|e|e<;>rw [e]<;>decide
 ·refine(EW _ (by simp) hd (by omega)).bind fun r ⟨hr,he⟩=> .req (by simp;omega) (.ret ⟨⟨hS.name, ?_,fun z hz=> ?_,hS.idxs,hS.idx⟩,he.up (by omega)⟩)
  ·dsimp only;rw [Aj,Bd];omega
  ·dsimp only at hz;rcases Ag.1 hz with hz|hz
   ·exact hS.ki z hz
   ·rw [List.mem_singleton.1 hz];simp only [Ad,List.not_mem_nil,or_false]at hr;rcases hr with e|e|e|e<;>rw [e]<;>decide
 ·refine .req ⟨by omega,by omega,by omega⟩ (.ret ⟨⟨hS.name, ?_,fun z hz=> ?_,hS.idxs,hS.idx⟩,hd.up (by omega)⟩)
  ·dsimp only;unfold AL;rw [List.length_drop,List.length_take];omega
  ·dsimp only at hz;unfold AL at hz;exact hS.ki z (List.mem_of_mem_take (List.mem_of_mem_drop hz))
 ·refine(EW _ (by simp) hd (by omega)).bind fun r ⟨hr,he⟩=>(DM 5 he (by omega)).bind fun u ⟨_,hf⟩=>(DM 5 hf (by omega)).bind fun v ⟨_,fB⟩=> .req (by simp;omega) (.ret ⟨⟨hS.name,hS.gp,hS.ki, ?_,fun z hz=> ?_⟩,fB.up (by omega)⟩)
  ·dsimp only;rw [Aj,Bd];omega
  ·dsimp only at hz;rcases Ag.1 hz with hz|hz
   ·exact hS.idx z hz
   ·rw [List.mem_singleton.1 hz];simp only [Ad,List.not_mem_nil,or_false]at hr;dsimp only;rcases hr with e|e|e<;>rw [e]<;>decide
theorem Nb [Inhabited CP] {c:Au} {k:Int} {t:Ah} (hg:AT t=true) (h:Bn c k) (hk:k≤4611686018427380000):By (IP c t) fun p=>Bz t p.1=true∧Bn p.2 (k+20):=by
 have Qq:=HE hg;have h4:t.ax.length≤4:=by have:=hg;unfold AT at this;simp only [Ac,decide_eq_true_eq]at this;have:=Eg.1 this.1.1.2.2;omega
 unfold IP;refine(EW _ (by simp) h (by omega)).bind fun n ⟨hn,hc⟩=> ?_;have eZ:field n.1=true:=by simp only [Ad,List.not_mem_nil,or_false]at hn;rcases hn with e|e|e|e|e|e<;>rw [e]<;>decide
 refine MB (fun m s=>s.2.2.2.length+m=t.ax.length∧(∀x∈s.2.2.2,field x=true)∧Bn ⟨s.1,s.2.1,s.2.2.1⟩ (k+2+4*s.2.2.2.length)) (fun m s hI=> ?_) (n:=t.ax.length-1) ⟨by simp;omega,by simpa using eZ,hc.up (by simp;omega)⟩;obtain⟨a,b,e,l⟩:=s;obtain⟨i1,i2,i3⟩:=hI;dsimp only at i1 i2 i3 ⊢;unfold Ya;refine .ite (fun AD=> ?_) fun Hd=> ?_
 ·simp only [decide_eq_true_eq]at AD;refine(EW _ (by simp) i3 (by omega)).bind fun x ⟨hx,hd⟩=> .req (by simp;omega) (.ret ⟨m-1,by omega,by simp;omega,fun z hz=> ?_, ?_⟩)
  ·dsimp only at hz;rcases Ag.1 hz with hz|hz
   ·exact i2 z hz
   ·rw [List.mem_singleton.1 hz];simp only [Ad,List.not_mem_nil,or_false]at hx;rcases hx with e|e|e|e|e<;>rw [e]<;>decide
  ·refine hd.up ?_;dsimp only;rw [Aj,Bd];omega
 ·simp only [decide_eq_false_iff_not]at Hd;refine .ret (.ret ⟨?_,i3.up (by omega)⟩);unfold Bz;rw [Ac,beq_iff_eq];exact⟨by dsimp only;omega,A1.2 i2⟩
theorem GR.set {l:List Ai} {i:Nat} {s:Ai} (h:GR l) (hs:s.length≤10):GR (l.set i s):=⟨by rw [List.length_set];exact h.len,fun x hx=>by
 rcases List.mem_or_eq_of_mem_set hx with hx|rfl
 ·exact h.each x hx
 ·exact hs⟩
theorem oB [Inhabited CP] {c:Au} {k:Int} {t:Ah} (hg:AT t=true) (h:Bn c k) (hk:k≤4611686018427370000):By (Q1 c t) fun p=>GR p.1.ah∧Bn p.2 (k+40):=by
 unfold Q1;refine(Nb hg h (by omega)).bind fun r ⟨hr,hc⟩=>(DM 10 hc (by omega)).bind fun q ⟨_,hd⟩=> ?_;obtain⟨hs,h2⟩:=IZ hg hr;have h5:r.1.ah.length≤4:=by have:=hg;unfold AT at this;simp only [Ac,decide_eq_true_eq]at this;have h1:=Eg.1 this.1.1.2.2;have h3:=hr;unfold Bz at h3;rw [Ac,beq_iff_eq]at h3;omega
 refine .ite (fun _=> ?_) fun _=> .ite (fun _=> ?_) fun _=> .ite (fun _=> .ret ⟨⟨by simp,by simp⟩,hd.up (by omega)⟩) fun _=> .ret ⟨⟨hs.len,hs.each⟩,hd.up (by omega)⟩
 ·refine(DM _ hd (by omega)).bind fun u ⟨hu,he⟩=>(EW _ (by simp) he (by omega)).bind fun z ⟨hz,hf⟩=>By.bind (P:=fun _=>True) (.getI hu.1 (hu.2.1 (by omega)) fun _ _=>trivial) fun _ _=> .ret ⟨hs.set ?_,hf.up (by omega)⟩;simp only [Ad,List.not_mem_nil,or_false]at hz;rcases hz with e|e|e|e<;>rw [e]<;>decide
 ·refine .req (by simp;omega) (.ret ⟨⟨by simp;omega,fun x hx=> ?_⟩,hd.up (by omega)⟩);dsimp only at hx;rcases Ag.1 hx with hx|hx
  ·exact hs.each x hx
  ·rw [List.mem_singleton.1 hx];decide
theorem Ky.mono {n m:Nat} {l:List Ao} (h:Ky n l) (hm:n≤m):Ky m l:=⟨h.eb,by have:=h.len;omega,h.fu⟩
theorem tN [Inhabited CP] {c:Au} {k:Int} (h:Bn c k) (hk:k≤4611686018427387000):By (Q3 c) fun p=>GP p.1=true∧Bn p.2 (k+2):=by unfold Q3;refine(EW _ (by simp) h (by omega)).bind fun p ⟨hp,hc⟩=> .ret ⟨?_,hc⟩;simp only [Ad,List.not_mem_nil,or_false]at hp;dsimp only;rcases hp with e|e|e|e|e|e|e|e<;>rw [e]<;>decide
theorem tS [Inhabited CP] {c:Au} {k:Int} (h:Bn c k) (hk:k≤4611686018427387000):By (Q4 c) fun p=>H8 p.1=true∧Bn p.2 (k+2):=by unfold Q4;refine(EW _ (by simp) h (by omega)).bind fun p ⟨hp,hc⟩=> .ret ⟨?_,hc⟩;simp only [Ad,List.not_mem_nil,or_false]at hp;dsimp only;rcases hp with e|e|e|e|e|e|e<;>rw [e]<;>decide
def F2 (t:Ah) (l:List Ao):Nat:=(l.filter (Gj t)).length
theorem Wo {t:Ah} {w:Ao}: ∀l:List Ao,F2 t (C3 wk w l)≤F2 t l+(if Gj t w=true then 1 else 0)
 | []=>by unfold F2;rw [C3,List.filter_cons];split<;>simp
 |z::l=>by
  have ih:=Wo (t:=t) (w:=w) l;unfold F2 at ih ⊢;rw [C3];split
  ·rw [List.filter_cons];split<;>simp
  ·split
   ·rw [List.filter_cons,List.filter_cons];split<;>split<;>(try simp only [An])<;>omega
   ·rw [List.filter_cons,List.filter_cons];split<;>(try simp only [An])<;>omega
theorem Zn {t:Ah} {x:AU} {r:Aw} (hg:AT t=true) (hx:x∈t.ae) (hr:Bz t r=true) (l:List Ao):F2 t (C3 wk ⟨Es t x.ab x.cq r, [],false⟩ l)≤F2 t l:=by
 have h:=Wo (t:=t) (w:=⟨Es t x.ab x.cq r, [],false⟩) l;rw [if_neg (fun Cu=> ?_)]at h
 ·omega
 ·obtain⟨h1,h2⟩:=Z7 Cu;exact mA hg (Lz hg hx).1 h1 hr (congrArg Ao.al h2).symm
structure Dq (n:Nat) (l:List Ao):Prop where
 ok:Ky n l
 live: ∀w∈l,w.c7=false
theorem Dq.len {n:Nat} {l:List Ao} (h:Dq n l):l.length≤n:=h.ok.len
theorem Dq.eb {n:Nat} {l:List Ao} (h:Dq n l):Ii l:=h.ok.eb
theorem Dq.fu {n:Nat} {l:List Ao} (h:Dq n l): ∀w∈l,FY w=true:=h.ok.fu
theorem Dq.mono {n m:Nat} {l:List Ao} (h:Dq n l) (hm:n≤m):Dq m l:=⟨h.ok.mono hm,h.live⟩
theorem VO {w y:Ao}: ∀{l:List Ao},y∈C3 wk w l→y=w∨y∈l
 | [],h=> .inl (by simpa [C3]using h)
 |z::l,h=>by
  rw [C3]at h;split at h
  ·rcases Ad.1 h with h|h
   ·exact .inl h
   ·exact .inr h
  ·split at h
   ·rcases Ad.1 h with h|h
    ·exact .inl h
    ·exact .inr (by simp [h])
   ·rcases Ad.1 h with h|h
    ·exact .inr (by simp [h])
    ·rcases VO h with h|h
     ·exact .inl h
     ·exact .inr (by simp [h])
theorem Sx {n:Nat} {ws:List Ao} {w:Ao} (h:Dq n ws) (hw:FY w=true) (hl:w.c7=false):Dq (n+1) (C3 wk w ws):=⟨rJ h.ok hw,fun y hy=>by
 rcases VO hy with rfl|hy
 ·exact hl
 ·exact h.live y hy⟩
theorem nF [Inhabited CP] {t:Ah} {c:Au} {k:Int} {n m:Nat} {l:List Ao} (hl:Dq n l) (hm:F2 t l≤m) (hn:n≤1000) (h:Bn c k) (hk:k≤4611686018427380000):By (UT c.aw c.bu c.ay l) fun p=>(Dq (n+1) p.1∧F2 t p.1≤m+1)∧Bn p.2 (k+6):=by unfold UT;have hlen:=hl.len;refine(Jk 6 (c:=⟨c.aw,c.bu,c.ay⟩) h (by omega)).bind fun p hp=> .ite (fun _=> ?_) fun _=> .ret ⟨⟨hl.mono (by omega),by dsimp only;omega⟩,hp.up (by omega)⟩;refine(tN hp (by omega)).bind fun q ⟨hq,hc⟩=>(tS hc (by omega)).bind fun r ⟨hr,hd⟩=> ?_;rw [MT (by omega) hl.eb,Ab];refine .ret ⟨⟨Sx hl (Wv hq hr) rfl, ?_⟩,hd.up (by omega)⟩;have:=Wo (t:=t) (w:=⟨q.1,r.1,false⟩) l;split at this<;>(dsimp only;omega)
theorem mX [Inhabited CP] {t:Ah} {q:Nat} {x:AU} {c:Au} {k:Int} {n m:Nat} {l:List Ao} (hg:AT t=true) (hx:x∈t.ae) (hq:q≤3) (hl:Dq n l) (hm:F2 t l≤m) (hn:n≤1000) (h:Bn c k) (hk:k≤4611686018427370000):
  By (UW t q x c.aw c.bu c.ay l) fun o=> ∃(c':Au) (l':List Ao),o= .inl (((q+1:Nat):Int),c'.aw,c'.bu,c'.ay,l')∧Dq (n+1) l'∧F2 t l'≤m∧Bn c' (k+30):=by
 unfold UW;have hlen:=hl.len;have w1:IntKind.i64.wrap ((q:Int)+1)=((q+1:Nat):Int):=by rw [CD (by omega) (by omega)];omega
 refine(Jk 5 (c:=⟨c.aw,c.bu,c.ay⟩) h (by omega)).bind fun p hp=> .ite (fun _=> ?_) fun _=> .ret ⟨p.2,l,by rw [w1],hl.mono (by omega),hm,hp.up (by omega)⟩;refine(Nb hg hp (by omega)).bind fun r ⟨hr,hc⟩=> ?_;obtain⟨e1,e2⟩:=YL hg hx hr;rw [e1,Ab,MT (by omega) hl.eb,Ab];exact .ret ⟨r.2,_,by rw [w1],Sx hl e2 rfl,Nat.le_trans (Zn hg hx hr l) hm,hc.up (by omega)⟩
def S1 (q:Nat):Nat:=4+5*q
theorem o7 {t:Ah} (h:AT t=true):t.ae.length≤3:=by unfold AT at h;simp only [Ac,decide_eq_true_eq]at h;omega
theorem mV [Inhabited CP] {t:Ah} {c:Au} {k:Int} {l:List Ao} (hg:AT t=true) (hl:Dq 4 l) (h:Bn c k) (hk:k≤4611686018427360000):By (UR t c.aw c.bu c.ay l) fun p=>(Dq 20 p.1∧F2 t p.1≤5)∧Bn p.2 (k+700):=by
 unfold UR;have hS:=HB hg;have h3:=o7 hg;refine MB (fun m s=> ∃q:Nat,s.1=(q:Int)∧q+m=t.ae.length∧Dq (S1 q) s.2.2.2.2∧F2 t s.2.2.2.2≤4∧Bn ⟨s.2.1,s.2.2.1,s.2.2.2.1⟩ (k+200*q)) (fun m s hI=> ?_) (n:=t.ae.length) (by exact⟨0,rfl,by omega,hl,Nat.le_trans (List.length_filter_le _ _) hl.len,by simpa using h⟩);obtain⟨q,e1,e2,hT,hm,ho⟩:=hI;obtain⟨s1,a,b,e,l⟩:=s;dsimp only at e1 hT hm ho ⊢;subst e1;have hb:S1 q=4+5*q:=rfl;have hlen:=hT.len;unfold Yd;refine .ite (fun AD=> ?_) fun Hd=> ?_
 ·simp only [decide_eq_true_eq]at AD;have hq:q<t.ae.length:=by omega
  rw [CO hq,Ab,aK hS.name (by omega) (fun w hw=>RQ (hT.fu w hw)),Ab];have hx:=List.getElem_mem hq;have hR:(Cj t l).length≤4:=by unfold Cj;rw [List.length_map];exact hm
  generalize DQ:Cj t l=R at hR;have XD: ∀r∈R,Bz t r=true:=fun r hr=>Y8 (l:=l) (by rw [DQ];exact hr);refine MB (fun j s=> ∃i:Nat,s.1=(i:Int)∧i+j=R.length∧Dq (S1 q+i) s.2.2.2.2∧F2 t s.2.2.2.2≤4∧Bn ⟨s.2.1,s.2.2.1,s.2.2.2.1⟩ (k+200*q+2*i)) (fun j s hJ=> ?_) (n:=R.length) (by exact⟨0,rfl,by omega,hT,hm,by simpa using ho⟩);obtain⟨i,f1,f2,gT,gm,go⟩:=hJ;obtain⟨s1,a,b,e,l'⟩:=s;dsimp only at f1 gT gm go ⊢;subst f1;have glen:=gT.len;unfold Yf;refine .ite (fun Fp=> ?_) fun TG=> ?_
  ·simp only [decide_eq_true_eq]at Fp;have hi:i<R.length:=by omega
   have w1:IntKind.i64.wrap ((i:Int)+1)=((i+1:Nat):Int):=by rw [CD (by omega) (by omega)];omega
   obtain⟨n1,n2⟩:=YL hg hx (XD _ (List.getElem_mem hi));rw [CO hi,Ab];refine(Jk 5 go (by omega)).bind fun p hp=> .ite (fun _=> ?_) fun _=> .ret ⟨j-1,by omega,i+1,w1,by omega,gT.mono (by omega),gm,hp.up (by omega)⟩;rw [n1,Ab,MT (by omega) gT.eb,Ab];exact .ret ⟨j-1,by omega,i+1,w1,by omega,(Sx gT n2 rfl).mono (by omega),Nat.le_trans (Zn hg hx (XD _ (List.getElem_mem hi)) _) gm,hp.up (by omega)⟩
  ·simp only [decide_eq_false_iff_not]at TG;refine .ret ((mX (c:=⟨a,b,e⟩) hg hx (by omega) gT gm (by omega) go (by omega)).mono fun o gA=> ?_);obtain⟨c',l2,rfl,z1,zm,z2⟩:=gA;exact⟨m-1,by omega,q+1,rfl,by omega,z1.mono (by have:S1 (q+1)=4+5*(q+1):=rfl;omega),zm,z2.up (by omega)⟩
 ·refine .ret ((nF (t:=t) (c:=⟨a,b,e⟩) hT hm (by omega) ho (by omega)).mono fun p hp=>⟨⟨hp.1.1.mono (by omega),hp.1.2⟩,hp.2.up (by omega)⟩)
theorem aE [Inhabited CP] {t:Ah} {c:Au} {k:Int} (hg:AT t=true) (h:Bn c k) (hk:k≤4611686018427350000):By (OU c t) fun p=>(Dq 20 p.1∧F2 t p.1≤5)∧Bn p.2 (k+900):=by
 unfold OU;have hS:=HB hg;refine(DM 5 h (by omega)).bind fun p ⟨hp,hc⟩=> ?_;have p2:=hp.2.1 (by omega);obtain⟨m,hm⟩:=Int.eq_ofNat_of_zero_le hp.1;have fS:m≤4:=by omega
 refine MB (fun j s=>j≤4∧s.2.1=(j:Int)∧Dq (4-j) s.1∧Bn ⟨s.2.2.1,s.2.2.2.1,s.2.2.2.2⟩ (k+2+30*(4-j))) (fun j s hI=> ?_) (n:=m) (by exact⟨fS,hm,⟨⟨.nil,by simp,by simp⟩,by simp⟩,hc.up (by omega)⟩);obtain⟨l,s1,a,b,e⟩:=s;obtain⟨i0,i1,i2,i3⟩:=hI;dsimp only at i1 i2 i3 ⊢;subst i1;have hlen:=i2.len;unfold Yg;refine .ite (fun AD=> ?_) fun Hd=> ?_
 ·simp only [decide_eq_true_eq,gt_iff_lt]at AD;refine(Nb hg i3 (by omega)).bind fun r ⟨hr,hd⟩=> ?_;obtain⟨hs,h2⟩:=IZ hg hr;have Bk:r.1.ah≠ []:=fun e=>by rw [e]at h2;simp at h2
  have hw:=R4 hg hr;rw [PC hS.name hs.small Bk,Ab,MT (by omega) i2.eb,Ab];refine .ret ⟨j-1,by omega,by omega, ?_,(Sx i2 (w:=BM t r.1) (Wv hw.1 hw.2) rfl).mono (by omega),hd.up (by omega)⟩;dsimp only;rw [CD (by omega) (by omega)];omega
 ·simp only [decide_eq_false_iff_not,gt_iff_lt]at Hd;exact .ret ((mV (c:=⟨a,b,e⟩) hg (i2.mono (by omega)) i3 (by omega)).mono fun p hp=>⟨hp.1,hp.2.up (by omega)⟩)
structure FZ (l:List Ao):Prop where
 len:l.length≤100
 each: ∀w∈l,LS w
theorem FZ.small {l:List Ao} (h:FZ l):tI l:=⟨by have:=h.len;omega,fun w hw=>by have:=h.each w hw;unfold LS at this;omega⟩
theorem Y3 (w:Ao): ∀(l:List Ao),(C3 wk w l).length≤l.length+1
 | []=>by simp [C3]
 |z::l=>by
  rw [C3];split
  ·simp
  ·split
   ·simp
   ·have:=Y3 w l;simp only [An];omega
theorem FZ.put {l:List Ao} {w:Ao} (h:FZ l) (hl:l.length≤99) (hw:LS w):FZ (C3 wk w l):=⟨by have:=Y3 w l;omega,fun y hy=>by
 rcases VO hy with rfl|hy
 ·exact hw
 ·exact h.each y hy⟩
theorem Dq.ku {n:Nat} {l:List Ao} (h:Dq n l) (hn:n≤100):FZ l:=⟨by have:=h.len;omega,fun w hw=>RQ (h.fu w hw)⟩
theorem Ky.ku {n:Nat} {l:List Ao} (h:Ky n l) (hn:n≤100):FZ l:=⟨by have:=h.len;omega,fun w hw=>RQ (h.fu w hw)⟩
theorem mQ [Inhabited CP] {t:Ah} {c:Au} {k:Int} (hg:AT t=true) (h:Bn c k) (hk:k≤4611686018427340000):By (QY c t) fun p=>FZ p.1∧Bn p.2 (k+1000):=by
 unfold QY;have hn:=(RM (Kf hg)).1;refine(aE hg h (by omega)).bind fun s ⟨⟨hs,_⟩,hc⟩=>(DM 12 hc (by omega)).bind fun q ⟨_,hd⟩=> ?_;have hT:=hs.ku (by omega);have hlen:=hs.len;refine .ite (fun _=> ?_) fun _=> .ite (fun _=> ?_) fun _=> .ite (fun _=> .ite (fun EP=> ?_) fun _=> .ret ⟨hT,hd.up (by omega)⟩) fun _=> .ite (fun _=> ?_) fun _=> .ret ⟨hT,hd.up (by omega)⟩
 ·refine .req (by simp;omega) (.ret ⟨⟨by simp;omega,fun w hw=> ?_⟩,hd.up (by omega)⟩);dsimp only at hw;rcases Ag.1 hw with hw|hw
  ·exact hT.each w hw
  ·rw [List.mem_singleton.1 hw];exact⟨by decide,by decide⟩
 ·refine .req (by simp;omega) ((EW _ (by simp) hd (by omega)).bind fun u ⟨hu,he⟩=> ?_);have gR:u.1.length≤4:=by
   simp only [Ad,List.not_mem_nil,or_false]at hu;rcases hu with e|e|e<;>rw [e]<;>decide
  refine .req (by simp;omega) ((EW _ (by simp) he (by omega)).bind fun v ⟨hv,hf⟩=> ?_);have Ev:v.1.length≤5:=by simp only [Ad,List.not_mem_nil,or_false]at hv;rcases hv with e|e|e|e<;>rw [e]<;>decide
  rw [MT (by omega) hs.eb,Ab];exact .ret ⟨hT.put (by omega) ⟨by simp;omega,by dsimp only;omega⟩,hf.up (by omega)⟩
 ·simp only [decide_eq_true_eq]at EP;refine(DM _ hd (by omega)).bind fun u ⟨hu,he⟩=> ?_;obtain⟨y,ey,hy,_⟩:=LF (xs:=s.1) hu.1 (hu.2.1 (by omega));rw [ey,Ab];refine .ret ⟨⟨by rw [List.length_set];omega,fun w hw=> ?_⟩,he.up (by omega)⟩;rcases List.mem_or_eq_of_mem_set hw with hw|rfl
  ·exact hT.each w hw
  ·exact hT.each y hy
 ·refine .req (by simp;omega) ((EW _ (by simp) hd (by omega)).bind fun u ⟨hu,he⟩=> ?_);have gR:u.1.length≤6:=by
   simp only [Ad,List.not_mem_nil,or_false]at hu;rcases hu with e|e|e|e<;>rw [e]<;>decide
  refine .req (by simp;omega) ?_;rw [MT (by omega) hs.eb,Ab];exact .ret ⟨hT.put (by omega) ⟨by simp;omega,by simp⟩,he.up (by omega)⟩
structure M4 (a:A6):Prop where
 old:GR a.a8.ah
 new:GR a.bd.ah
theorem M4.small {a:A6} (h:M4 a):Nd a:=⟨h.old.small,h.new.small⟩
theorem R6:GR []:=⟨by simp,by simp⟩
theorem Wh [Inhabited CP] {t:Ah} {c:Au} {k:Int} {v:List Ai} (hg:AT t=true) (hv:GR v) (CL:2≤v.length) (h:Bn c k) (hk:k≤4611686018427340000):By (QW t c.aw c.bu c.ay v) fun p=>M4 p.1∧Bn p.2 (k+30):=by
 unfold QW;refine(DM 3 (c:=⟨c.aw,c.bu,c.ay⟩) h (by omega)).bind fun p ⟨_,hc⟩=> .ite (fun _=> ?_) fun _=> .ite (fun _=> .ret ⟨⟨hv,R6⟩,hc.up (by omega)⟩) fun _=> ?_
 ·exact(Nb hg hc (by omega)).bind fun r ⟨hr,hd⟩=> .ret ⟨⟨R6,(IZ hg hr).1⟩,hd.up (by omega)⟩
 ·refine(Nb hg hc (by omega)).bind fun r ⟨hr,hd⟩=> ?_;obtain⟨hs,h2⟩:=IZ hg hr;obtain⟨y,ey,hy,_⟩:=LF (xs:=v) (i:=0) (by omega) (by omega);rw [ey,Ab];refine By.bind (P:=fun _=>True) (.getI (by omega) (by omega) fun _ _=>trivial) fun _ _=> .ret ⟨⟨hv,hs.set (hv.each y hy)⟩,hd.up (by omega)⟩
theorem cD [Inhabited CP] {t:Ah} {l:List Ao} {c:Au} {k:Int} (hg:AT t=true) (hl:FZ l) (h:Bn c k) (hk:k≤4611686018427330000):By (OR c t l) fun p=>M4 p.1∧Bn p.2 (k+100):=by
 unfold OR;have hS:=HB hg;have hlen:=hl.len;rw [aK hS.name (by omega) hl.each,Ab];have hR:=rP t l;refine(Nb hg h (by omega)).bind fun r ⟨hr,hc⟩=> .ite (fun EP=> ?_) fun _=> ?_
 ·simp only [decide_eq_true_eq]at EP;refine(Jk 4 hc (by omega)).bind fun u hu=> ?_;unfold QV;refine .ite (fun _=> ?_) fun _=> ?_
  ·refine(DM _ (c:=⟨u.2.aw,u.2.bu,u.2.ay⟩) hu (by omega)).bind fun i ⟨hi,hd⟩=> ?_;obtain⟨y,ey,hy,_⟩:=LF (xs:=Cj t l) hi.1 (hi.2.1 (by omega));rw [ey,Ab];obtain⟨hs,h2⟩:=IZ hg (Y8 hy);exact(Wh hg hs h2 hd (by omega)).mono fun p hp=>⟨hp.1,hp.2.up (by omega)⟩
  ·obtain⟨hs,h2⟩:=IZ hg hr;exact(Wh hg hs h2 hu (by omega)).mono fun p hp=>⟨hp.1,hp.2.up (by omega)⟩
 ·unfold QV;refine .ite (fun hh=>by cases hh) fun _=> ?_;obtain⟨hs,h2⟩:=IZ hg hr;exact(Wh hg hs h2 hc (by omega)).mono fun p hp=>⟨hp.1,hp.2.up (by omega)⟩
abbrev Dd:A6:=⟨0,⟨[]⟩,⟨[]⟩⟩
abbrev Ew:AP:=⟨0,Dd, [], [], []⟩
structure Er (s:AP):Prop where
 act:Nd s.a6
 idx:s.cb.length≤2000000
 low:s.bt.length≤2000000
 high:s.ca.length≤2000000
def GV (a:A6):Bool:=((a.af==0)&&((a.a8.ah.length:Int)==0))&&((a.bd.ah.length:Int)==0)
def C8 (t:Ah) (s:AP):Bool:=
 if s.af=1 then((FU t s.a6&&(s.cb== []))&&(s.bt== []))&&(s.ca== [])else
 if s.af=2 then GV s.a6&&((s.cb== [])&&(field s.bt&&(s.ca== [])))else
 if s.af=3 then GV s.a6&&(decide (B2 (fun x:AU=>x.ab==s.cb) t.ae≥0)&&(field s.bt&&field s.ca))else false
theorem ZQ {t:Ah} {s:AP} (hc:1≤t.ax.length) (hT:D4 t) (h:Er s):O6 t s=some (C8 t s):=by
 unfold O6 Rg C8;by_cases k1:s.af=1
 ·rw [if_pos (by simpa using k1),oA hc h.act,Ab,if_pos k1]
 rw [if_neg (by simpa using k1),if_neg k1];by_cases k2:s.af=2
 ·rw [if_pos (by simpa using k2),if_pos k2,Ab,Sr h.low,Ab];show(if GV s.a6=true then _ else _)=_;cases GV s.a6<;>cases(s.cb==([]:Ai))<;>rfl
 rw [if_neg (by simpa using k2),if_neg k2];by_cases k3:s.af=3
 ·rw [if_pos (by simpa using k3),if_pos k3,Ab,tR hT,Ab,Sr h.low,Ab,Sr h.high,Ab];show(if GV s.a6=true then _ else _)=_;cases GV s.a6<;>cases decide (B2 (fun x:AU=>x.ab==s.cb) t.ae≥0)<;>cases field s.bt<;>rfl
 rw [if_neg (by simpa using k3),if_neg k3]
theorem ZB {t:Ah} {s:AP} (hc:1≤t.ax.length) (hT:D4 t) (h:Er s):OT t s=some (C8 t s):=by
 unfold OT Ru C8;by_cases k1:s.af=1
 ·rw [if_pos (by simpa using k1),oH hc h.act,Ab,if_pos k1]
 rw [if_neg (by simpa using k1),if_neg k1];by_cases k2:s.af=2
 ·rw [if_pos (by simpa using k2),if_pos k2,Ab,Si h.low,Ab];show(if GV s.a6=true then _ else _)=_;cases GV s.a6<;>cases(s.cb==([]:Ai))<;>rfl
 rw [if_neg (by simpa using k2),if_neg k2];by_cases k3:s.af=3
 ·rw [if_pos (by simpa using k3),if_pos k3,Ab,cC hT,Ab,Si h.low,Ab,Si h.high,Ab];show(if GV s.a6=true then _ else _)=_;cases GV s.a6<;>cases decide (B2 (fun x:AU=>x.ab==s.cb) t.ae≥0)<;>cases field s.bt<;>rfl
 rw [if_neg (by simpa using k3),if_neg k3]
theorem YH {t:Ah} {s:AP} (hT:D4 t) (h:Er s):O3 t s=some (AT t&&C8 t s):=by
 unfold O3;rw [aG hT,Ab];cases hg:AT t with
 |false=>rfl
 |true=>rw [if_pos rfl,ZQ (by have:=HE hg;omega) hT h,Ab];rfl
theorem VA {t:Ah} {s:AP} (hT:D4 t) (h:Er s):Mw t s=some (AT t&&C8 t s):=by
 unfold Mw;rw [aD hT,Ab];cases hg:AT t with
 |false=>rfl
 |true=>rw [if_pos rfl,ZB (by have:=HE hg;omega) hT h,Ab];rfl
def Cw (t:Ah) (s:AP):Ai:=
 if s.af=2 then(([103,101,116,32]++t.ab)++ [32])++s.bt else
 if s.af=3 then(((((([114,97,110,103,101,32]++t.ab)++ [32])++s.cb)++ [32])++s.bt)++ [32])++s.ca else
 if s.a6.af=1 then(([105,110,115,101,114,116,32]++t.ab)++ [32])++Lib.join s.a6.bd.ah [44]else
 if s.a6.af=2 then(([100,101,108,101,116,101,32]++t.ab)++ [32])++Lib.join s.a6.a8.ah [44]else
 (((([117,112,100,97,116,101,32]++t.ab)++ [32])++Lib.join s.a6.a8.ah [44])++ [32,116,111,32])++Lib.join s.a6.bd.ah [44]
theorem RR {xs:List Ai} (h:Small xs):(Lib.join xs [44]).length≤4000000:=by have:=Pr xs [44];have h1:=h.1;have h2:=h.2;rw [Bd]at this;omega
theorem WQ {t:Ah} {s:AP} (ht:t.ab.length≤2000000) (h:Er s):Ms t s=some (Cw t s):=by
 have j1:=RR h.act.1;have j2:=RR h.act.2;have h1:=h.idx;have h2:=h.low;have h3:=h.high;have r1:IU s.a6.a8=some (Lib.join s.a6.a8.ah [44]):=by unfold IU;rw [WU h.act.1];rfl
 have r2:IU s.a6.bd=some (Lib.join s.a6.bd.ah [44]):=by unfold IU;rw [WU h.act.2];rfl
 unfold Ms Cw;by_cases k2:s.af=2
 ·rw [if_pos (by simpa using k2),if_pos k2]
  repeat rw [AY (by simp only [Aj,An,List.length_nil];omega)]
 rw [if_neg (by simpa using k2),if_neg k2];by_cases k3:s.af=3
 ·rw [if_pos (by simpa using k3),if_pos k3]
  repeat rw [AY (by simp only [Aj,An,List.length_nil];omega)]
 rw [if_neg (by simpa using k3),if_neg k3];by_cases a1:s.a6.af=1
 ·rw [if_pos (by simpa using a1),if_pos a1,r2]
  repeat rw [AY (by simp only [Aj,An,List.length_nil];omega)]
  rw [Ab]
  repeat rw [AY (by simp only [Aj,An,List.length_nil];omega)]
 rw [if_neg (by simpa using a1),if_neg a1];by_cases a2:s.a6.af=2
 ·rw [if_pos (by simpa using a2),if_pos a2,r1]
  repeat rw [AY (by simp only [Aj,An,List.length_nil];omega)]
  rw [Ab]
  repeat rw [AY (by simp only [Aj,An,List.length_nil];omega)]
 rw [if_neg (by simpa using a2),if_neg a2,r1,r2]
 repeat rw [AY (by simp only [Aj,An,List.length_nil];omega)]
 rw [Ab]
 repeat rw [AY (by simp only [Aj,An,List.length_nil];omega)]
 rw [Ab]
 repeat rw [AY (by simp only [Aj,An,List.length_nil];omega)]
theorem bA {t:Ah} {s:AP} (ht:t.ab.length≤2000000) (h:Er s):ON t s=some (Cw t s):=by
 have j1:=RR h.act.1;have j2:=RR h.act.2;have h1:=h.idx;have h2:=h.low;have h3:=h.high;have r1:IX s.a6.a8=some (Lib.join s.a6.a8.ah [44]):=by unfold IX;rw [WN h.act.1];rfl
 have r2:IX s.a6.bd=some (Lib.join s.a6.bd.ah [44]):=by unfold IX;rw [WN h.act.2];rfl
 unfold ON Cw;by_cases k2:s.af=2
 ·rw [if_pos (by simpa using k2),if_pos k2]
  repeat rw [AY (by simp only [Aj,An,List.length_nil];omega)]
 rw [if_neg (by simpa using k2),if_neg k2];by_cases k3:s.af=3
 ·rw [if_pos (by simpa using k3),if_pos k3]
  repeat rw [AY (by simp only [Aj,An,List.length_nil];omega)]
 rw [if_neg (by simpa using k3),if_neg k3];by_cases a1:s.a6.af=1
 ·rw [if_pos (by simpa using a1),if_pos a1,r2]
  repeat rw [AY (by simp only [Aj,An,List.length_nil];omega)]
  rw [Ab]
  repeat rw [AY (by simp only [Aj,An,List.length_nil];omega)]
 rw [if_neg (by simpa using a1),if_neg a1];by_cases a2:s.a6.af=2
 ·rw [if_pos (by simpa using a2),if_pos a2,r1]
  repeat rw [AY (by simp only [Aj,An,List.length_nil];omega)]
  rw [Ab]
  repeat rw [AY (by simp only [Aj,An,List.length_nil];omega)]
 rw [if_neg (by simpa using a2),if_neg a2,r1,r2]
 repeat rw [AY (by simp only [Aj,An,List.length_nil];omega)]
 rw [Ab]
 repeat rw [AY (by simp only [Aj,An,List.length_nil];omega)]
 rw [Ab]
 repeat rw [AY (by simp only [Aj,An,List.length_nil];omega)]
def HN (t:Ah) (s:AP):Ai × Bool:=if AT t=true∧C8 t s=true then(Cw t s,true)else([],false)
theorem VI {t:Ah} {s:AP} (hT:D4 t) (h:Er s):Lo t s=some (HN t s):=by unfold Lo HN;rw [YH hT h,Ab,WQ hT.name h];cases AT t<;>cases C8 t s<;>rfl
theorem mB {t:Ah} {s:AP} (hT:D4 t) (h:Er s):Rc t s=some (HN t s):=by unfold Rc HN;rw [VA hT h,Ab,bA hT.name h];cases AT t<;>cases C8 t s<;>rfl
def DV (t:Ah) (s:AP):List AM × Bool:=if AT t=true∧C8 t s=true∧s.af≠3 then(if s.af=2 then [⟨1,(t.ab++ [47])++s.bt, [],0⟩]else Ij t s.a6,true)else([],false)
theorem V3 {t:Ah} {s:AP} (h:C8 t s=true) (h2:s.af≠2) (h3:s.af≠3):s.af=1∧FU t s.a6=true:=by
 unfold C8 at h;by_cases k1:s.af=1
 ·rw [if_pos k1]at h;simp only [Ac]at h;exact⟨k1,h.1.1.1⟩
 ·rw [if_neg k1,if_neg h2,if_neg h3]at h;cases h
theorem oK {t:Ah} {s:AP} (hT:D4 t) (h:Er s):RA t s=some (DV t s):=by
 have h1:=hT.name;have h2:=h.low;unfold RA;rw [YH hT h,Ab];cases hg:AT t with
 |false=>
  have e:DV t s=([],false):=by unfold DV;rw [if_neg (by simp [hg])]
  rw [if_pos (by simp),e]
 |true=>
  cases hs:C8 t s with
  |false=>
   have e:DV t s=([],false):=by unfold DV;rw [if_neg (by simp [hs])]
   rw [if_pos (by simp),e]
  |true=>
   by_cases k3:s.af=3
   ·have e:DV t s=([],false):=by unfold DV;rw [if_neg (by simp [k3])]
    rw [if_pos (by simp [k3]),e]
   ·have e:DV t s=(if s.af=2 then [⟨1,(t.ab++ [47])++s.bt, [],0⟩]else Ij t s.a6,true):=by unfold DV;rw [if_pos ⟨hg,hs,k3⟩]
    rw [if_neg (by simp [k3]),e];by_cases k2:s.af=2
    ·rw [if_pos (by simpa using k2),if_pos k2]
     repeat rw [AY (by simp only [Aj,An,List.length_nil];omega)]
    ·obtain⟨_,ha⟩:=V3 hs k2 k3;rw [if_neg (by simpa using k2),if_neg k2,tE hT hg (cH h.act ha),Ab]
theorem oL {t:Ah} {s:AP} (hT:D4 t) (h:Er s):RD t s=some (DV t s):=by
 have h1:=hT.name;have h2:=h.low;unfold RD;rw [VA hT h,Ab];cases hg:AT t with
 |false=>
  have e:DV t s=([],false):=by unfold DV;rw [if_neg (by simp [hg])]
  rw [if_pos (by simp),e]
 |true=>
  cases hs:C8 t s with
  |false=>
   have e:DV t s=([],false):=by unfold DV;rw [if_neg (by simp [hs])]
   rw [if_pos (by simp),e]
  |true=>
   by_cases k3:s.af=3
   ·have e:DV t s=([],false):=by unfold DV;rw [if_neg (by simp [k3])]
    rw [if_pos (by simp [k3]),e]
   ·have e:DV t s=(if s.af=2 then [⟨1,(t.ab++ [47])++s.bt, [],0⟩]else Ij t s.a6,true):=by unfold DV;rw [if_pos ⟨hg,hs,k3⟩]
    rw [if_neg (by simp [k3]),e];by_cases k2:s.af=2
    ·rw [if_pos (by simpa using k2),if_pos k2]
     repeat rw [AY (by simp only [Aj,An,List.length_nil];omega)]
    ·obtain⟨_,ha⟩:=V3 hs k2 k3;rw [if_neg (by simpa using k2),if_neg k2,tL hT hg (cH h.act ha),Ab]
abbrev Jw:Ai:= [103,101,116]
abbrev Jo:Ai:= [114,97,110,103,101]
abbrev GO:Ai:= [105,110,115,101,114,116]
abbrev GN:Ai:= [100,101,108,101,116,101]
abbrev GQ:Ai:= [117,112,100,97,116,101]
def EV:List Ai→AP
 | [a,_,c]=>if a=GO then⟨1,⟨1,⟨[]⟩,⟨AI 44 c⟩⟩, [], [], []⟩else if a=GN then⟨1,⟨2,⟨AI 44 c⟩,⟨[]⟩⟩, [], [], []⟩else⟨2,Dd, [],c, []⟩
 | [a,_,c,d,e]=>if a=GQ then⟨1,⟨3,⟨AI 44 c⟩,⟨AI 44 e⟩⟩, [], [], []⟩else⟨3,Dd,c,d,e⟩
 |_=>⟨1,Dd, [], [], []⟩
def FX:List Ai→AP
 | [a,_,c]=>if a=Jw then⟨2,Dd, [],c, []⟩else if a=GO then⟨1,⟨1,⟨[]⟩,⟨AI 44 c⟩⟩, [], [], []⟩else if a=GN then⟨1,⟨2,⟨AI 44 c⟩,⟨[]⟩⟩, [], [], []⟩else Ew
 | [a,_,c,d,e]=>if a=Jo then⟨3,Dd,c,d,e⟩else if a=GQ then⟨1,⟨3,⟨AI 44 c⟩,⟨AI 44 e⟩⟩, [], [], []⟩else Ew
 |_=>Ew
theorem Ni (a b c:Ai):EV [a,b,c]=if a=GO then⟨1,⟨1,⟨[]⟩,⟨AI 44 c⟩⟩, [], [], []⟩else if a=GN then⟨1,⟨2,⟨AI 44 c⟩,⟨[]⟩⟩, [], [], []⟩else⟨2,Dd, [],c, []⟩:=rfl
theorem PV (a b c d e:Ai):EV [a,b,c,d,e]=if a=GQ then⟨1,⟨3,⟨AI 44 c⟩,⟨AI 44 e⟩⟩, [], [], []⟩else⟨3,Dd,c,d,e⟩:=rfl
theorem cM (a b c:Ai):FX [a,b,c]=if a=Jw then⟨2,Dd, [],c, []⟩else if a=GO then⟨1,⟨1,⟨[]⟩,⟨AI 44 c⟩⟩, [], [], []⟩else if a=GN then⟨1,⟨2,⟨AI 44 c⟩,⟨[]⟩⟩, [], [], []⟩else Ew:=rfl
theorem cO (a b c d e:Ai):FX [a,b,c,d,e]=if a=Jo then⟨3,Dd,c,d,e⟩else if a=GQ then⟨1,⟨3,⟨AI 44 c⟩,⟨AI 44 e⟩⟩, [], [], []⟩else Ew:=rfl
def Dp (t:Ah) (text:Ai) (s:AP):AP × Bool:=if C8 t s=true∧Cw t s=text then(s,true)else(Ew,false)
theorem WK {c:UInt8} {s:Ai} (h:s.length≤1000000) {x:Ai} (hx:x∈AI c s):x.length≤1000000:=by have h1:=Vu c s;obtain⟨i,hi,rfl⟩:=List.getElem_of_mem hx;have:=V4 hi;omega
theorem Ke:Small ([]:List Ai):=⟨by simp,by simp [Da]⟩
theorem H2:Nd Dd:=⟨Ke,Ke⟩
theorem qX {t:Ah} {text:Ai} (hg:AT t=true) (h:text.length≤1000000):QS t text=some (Dp t text (EV (AI 32 text))):=by
 have hT:=HB hg;have hc:1≤t.ax.length:=by have:=HE hg;omega
 have hj: ∀(v2:List Ai) (v3:Int) (v4:List Ai) (v5:Int) (v6 v7 v8:Ai),Er ⟨v5,⟨v3,⟨v4⟩,⟨v2⟩⟩,v7,v6,v8⟩→IS t text v2 v3 v4 v5 v6 v7 v8=some (Dp t text ⟨v5,⟨v3,⟨v4⟩,⟨v2⟩⟩,v7,v6,v8⟩):=by
  intro v2 v3 v4 v5 v6 v7 v8 hs;unfold IS Dp;rw [ZB hc hT hs,Ab];cases hq:C8 t ⟨v5,⟨v3,⟨v4⟩,⟨v2⟩⟩,v7,v6,v8⟩with
  |false=>rw [if_neg (by simp),if_neg (by simp)]
  |true=>
   rw [if_pos rfl,bA hT.name hs,Ab];by_cases he:Cw t ⟨v5,⟨v3,⟨v4⟩,⟨v2⟩⟩,v7,v6,v8⟩=text
   ·rw [if_neg (by simp [he]),if_pos ⟨rfl,he⟩]
   ·rw [if_pos (by simpa using he),if_neg (by simp [he])]
 have hm: ∀x∈AI 32 text,x.length≤1000000:=fun x hx=>WK h hx;have ER: ∀x:Ai,x.length≤1000000→IT x=some ⟨AI 44 x⟩:=fun x hx=>by unfold IT;rw [Z9 (c:=44) (by omega)];rfl
 unfold QS;rw [Z9 (c:=32) (by omega),Ab];generalize AI 32 text=ws at hm;have other: ∀(l:List Ai),l.length≠3→l.length≠5→(EV l=⟨1,Dd, [], [], []⟩):=by
  intro l h3 h5
  match l,h3,h5 with
  | [],_,_=>rfl
  | [_],_,_=>rfl
  | [_,_],_,_=>rfl
  | [_,_,_],h,_=>exact absurd rfl h
  | [_,_,_,_],_,_=>rfl
  | [_,_,_,_,_],_,h=>exact absurd rfl h
  |_::_::_::_::_::_::_,_,_=>rfl
 by_cases h3:ws.length=3
 ·obtain⟨a,b,c,rfl⟩: ∃a b c,ws= [a,b,c]:=by
   match ws,h3 with
   | [a,b,c],_=>exact⟨a,b,c,rfl⟩
  have g0:getI [a,b,c] 0=some a:=rfl;have g2:getI [a,b,c] 2=some c:=rfl;have At:=hm c (by simp);have sp:=H5 (c:=44) At;rw [if_pos (by simp)];simp only [g0,g2,Ab,ER c At];rw [Ni];by_cases ai:a=GO
  ·rw [if_pos (by simpa using ai),hj _ _ _ _ _ _ _ ⟨⟨Ke,sp⟩,by simp,by simp,by simp⟩,if_pos ai]
  rw [if_neg (by simpa using ai),if_neg ai];by_cases ad:a=GN
  ·rw [if_pos (by simpa using ad),hj _ _ _ _ _ _ _ ⟨⟨sp,Ke⟩,by simp,by simp,by simp⟩,if_pos ad]
  rw [if_neg (by simpa using ad),if_neg ad,if_neg (by simp),hj _ _ _ _ _ _ _ ⟨H2,by simp,by show c.length≤_;omega,by simp⟩]
 rw [if_neg (by simp;omega)];by_cases h5:ws.length=5
 ·obtain⟨a,b,c,d,e,rfl⟩: ∃a b c d e,ws= [a,b,c,d,e]:=by
   match ws,h5 with
   | [a,b,c,d,e],_=>exact⟨a,b,c,d,e,rfl⟩
  have g0:getI [a,b,c,d,e] 0=some a:=rfl;have g2:getI [a,b,c,d,e] 2=some c:=rfl;have g3:getI [a,b,c,d,e] 3=some d:=rfl;have g4:getI [a,b,c,d,e] 4=some e:=rfl;have At:=hm c (by simp);have L4:=hm d (by simp);have A7:=hm e (by simp);rw [if_pos (by simp)];simp only [g0,g2,g3,g4,Ab,ER c At,ER e A7];rw [PV];by_cases au:a=GQ
  ·rw [if_pos (by simpa using au),hj _ _ _ _ _ _ _ ⟨⟨H5 At,H5 A7⟩,by simp,by simp,by simp⟩,if_pos au]
  rw [if_neg (by simpa using au),if_neg au,hj _ _ _ _ _ _ _ ⟨H2,by show c.length≤_;omega,by show d.length≤_;omega,by show e.length≤_;omega⟩]
 rw [if_neg (by simp;omega),hj _ _ _ _ _ _ _ ⟨H2,by simp,by simp,by simp⟩,other ws h3 h5]
theorem rN {t:Ah} {text:Ai} (hg:AT t=true) (h:text.length≤1000000):Ri t text=some (Dp t text (FX (AI 32 text))):=by
 have hT:=HB hg;have hc:1≤t.ax.length:=by have:=HE hg;omega
 have hm: ∀x∈AI 32 text,x.length≤1000000:=fun x hx=>WK h hx;have ER: ∀x:Ai,x.length≤1000000→IV x=some ⟨AI 44 x⟩:=fun x hx=>by have e:IW x 44=some (AI 44 x):=WD (c:=44) (by omega);unfold IV;rw [e];rfl
 have e0:IW text 32=some (AI 32 text):=WD (c:=32) (by omega);have key:RH (AI 32 text)=some (FX (AI 32 text))∧Er (FX (AI 32 text)):=by
  generalize AI 32 text=ws at hm;have z:Er Ew:=⟨H2,by simp,by simp,by simp⟩
  unfold RH;by_cases h3:ws.length=3
  ·obtain⟨a,b,c,rfl⟩: ∃a b c,ws= [a,b,c]:=by
    match ws,h3 with
    | [a,b,c],_=>exact⟨a,b,c,rfl⟩
   have g0:getI [a,b,c] 0=some a:=rfl;have g2:getI [a,b,c] 2=some c:=rfl;have At:=hm c (by simp);have sp:=H5 (c:=44) At;rw [if_pos (by simp)];simp only [g0,g2,Ab,ER c At];rw [cM];by_cases ag:a=Jw
   ·rw [if_pos (by simpa using ag),if_pos ag];exact⟨rfl,H2,by simp,by show c.length≤_;omega,by simp⟩
   rw [if_neg (by simpa using ag),if_neg ag,if_neg (by simp)];by_cases ai:a=GO
   ·rw [if_pos (by simpa using ai),if_pos ai];exact⟨rfl,⟨Ke,sp⟩,by simp,by simp,by simp⟩
   rw [if_neg (by simpa using ai),if_neg ai];by_cases ad:a=GN
   ·rw [if_pos (by simpa using ad),if_pos ad];exact⟨rfl,⟨sp,Ke⟩,by simp,by simp,by simp⟩
   rw [if_neg (by simpa using ad),if_neg ad,if_neg (by simp)];exact⟨rfl,z⟩
  rw [if_neg (by simp;omega)];by_cases h5:ws.length=5
  ·obtain⟨a,b,c,d,e,rfl⟩: ∃a b c d e,ws= [a,b,c,d,e]:=by
    match ws,h5 with
    | [a,b,c,d,e],_=>exact⟨a,b,c,d,e,rfl⟩
   have g0:getI [a,b,c,d,e] 0=some a:=rfl;have g2:getI [a,b,c,d,e] 2=some c:=rfl;have g3:getI [a,b,c,d,e] 3=some d:=rfl;have g4:getI [a,b,c,d,e] 4=some e:=rfl;have At:=hm c (by simp);have L4:=hm d (by simp);have A7:=hm e (by simp);rw [if_pos (by simp)];simp only [g0,g2,g3,g4,Ab,ER c At,ER e A7];rw [cO];by_cases ar:a=Jo
   ·rw [if_pos (by simpa using ar),if_pos ar];exact⟨rfl,H2,by show c.length≤_;omega,by show d.length≤_;omega,by show e.length≤_;omega⟩
   rw [if_neg (by simpa using ar),if_neg ar];by_cases au:a=GQ
   ·rw [if_pos (by simpa using au),if_pos au];exact⟨rfl,⟨H5 At,H5 A7⟩,by simp,by simp,by simp⟩
   rw [if_neg (by simpa using au),if_neg au];exact⟨rfl,z⟩
  rw [if_neg (by simp;omega)];have:FX ws=Ew:=by
   match ws,h3,h5 with
   | [],_,_=>rfl
   | [_],_,_=>rfl
   | [_,_],_,_=>rfl
   | [_,_,_],h,_=>exact absurd rfl h
   | [_,_,_,_],_,_=>rfl
   | [_,_,_,_,_],_,h=>exact absurd rfl h
   |_::_::_::_::_::_::_,_,_=>rfl
  rw [this];exact⟨rfl,z⟩
 unfold Ri Vn Dp;rw [e0,Ab,key.1,Ab,ZQ hc hT key.2,Ab,WQ hT.name key.2,aG hT,hg];cases hq:C8 t (FX (AI 32 text))with
 |false=>simp
 |true=>
  by_cases he:Cw t (FX (AI 32 text))=text
  ·simp [he]
  ·simp [he]
theorem oN (t:Ah) (s:AP): ∃q,AI 32 (Cw t s)=(if s.af=2 then Jw else if s.af=3 then Jo else if s.a6.af=1 then GO else if s.a6.af=2 then GN else GQ)::q:=by
 unfold Cw;split
 ·exact⟨_,DK (p:=Jw) (q:=t.ab++ [32]++s.bt) (by decide)⟩
 ·split
  ·exact⟨_,DK (p:=Jo) (q:=t.ab++ [32]++s.cb++ [32]++s.bt++ [32]++s.ca) (by decide)⟩
  ·split
   ·exact⟨_,DK (p:=GO) (q:=t.ab++ [32]++Lib.join s.a6.bd.ah [44]) (by decide)⟩
   ·split
    ·exact⟨_,DK (p:=GN) (q:=t.ab++ [32]++Lib.join s.a6.a8.ah [44]) (by decide)⟩
    ·exact⟨_,DK (p:=GQ) (q:=t.ab++ [32]++Lib.join s.a6.a8.ah [44]++ [32,116,111,32]++Lib.join s.a6.bd.ah [44]) (by decide)⟩
theorem mT (t:Ah):FU t Dd=false:=by unfold FU;rfl
theorem nG (t:Ah):C8 t Ew=false:=by unfold C8;rfl
theorem qP (t:Ah) (text:Ai):Dp t text (EV (AI 32 text))=Dp t text (FX (AI 32 text)):=by
 have z:Dp t text Ew=(Ew,false):=by unfold Dp;rw [if_neg (by rw [nG];simp)]
 have z1:Dp t text ⟨1,Dd, [], [], []⟩=(Ew,false):=by unfold Dp;rw [if_neg];rintro⟨h,_⟩;unfold C8 at h;rw [if_pos rfl]at h;rw [mT]at h;cases h
 have hh: ∀(s:AP) (a:Ai) (q:List Ai),AI 32 text=a::q→a≠(if s.af=2 then Jw else if s.af=3 then Jo else if s.a6.af=1 then GO else if s.a6.af=2 then GN else GQ)→Dp t text s=(Ew,false):=by intro s a q e Bk;unfold Dp;rw [if_neg];rintro⟨_,ht⟩;obtain⟨q',e'⟩:=oN t s;rw [ht,e]at e';exact Bk (List.cons.inj e').1
 generalize gX:AI 32 text=ws at hh
 match ws,gX with
 | [],_=>rw [show EV []=⟨1,Dd, [], [], []⟩from rfl,show FX []=Ew from rfl,z,z1]
 | [x],_=>rw [show EV [x]=⟨1,Dd, [], [], []⟩from rfl,show FX [x]=Ew from rfl,z,z1]
 | [x,y],_=>rw [show EV [x,y]=⟨1,Dd, [], [], []⟩from rfl,show FX [x,y]=Ew from rfl,z,z1]
 | [a,b,c],_=>
  rw [Ni,cM];by_cases ai:a=GO
  ·subst ai;rw [if_pos rfl,if_neg (by decide),if_pos rfl]
  ·rw [if_neg ai];by_cases ad:a=GN
   ·subst ad;rw [if_pos rfl,if_neg (by decide),if_neg (by decide),if_pos rfl]
   ·rw [if_neg ad];by_cases ag:a=Jw
    ·rw [if_pos ag]
    ·rw [if_neg ag,if_neg ai,if_neg ad,z];exact hh _ a [b,c] rfl ag
 | [x,y,u,v],_=>rw [show EV [x,y,u,v]=⟨1,Dd, [], [], []⟩from rfl,show FX [x,y,u,v]=Ew from rfl,z,z1]
 | [a,b,c,d,e],_=>
  rw [PV,cO];by_cases au:a=GQ
  ·subst au;rw [if_pos rfl,if_neg (by decide),if_pos rfl]
  ·rw [if_neg au];by_cases ar:a=Jo
   ·rw [if_pos ar]
   ·rw [if_neg ar,if_neg au,z];exact hh _ a [b,c,d,e] rfl ar
 |a::b::c::d::e::f::l,_=>rw [show EV (a::b::c::d::e::f::l)=⟨1,Dd, [], [], []⟩from rfl,show FX (a::b::c::d::e::f::l)=Ew from rfl,z,z1]
theorem PZ {b:UInt8} (h:DN b=true):b≠32:=by rintro rfl;revert h;decide
theorem u5 {b:UInt8} (h:DN b=true):b≠44:=by rintro rfl;revert h;decide
theorem SO {t:Ah} {r:Aw} (h:Bz t r=true): ∀b∈Lib.join r.ah [44],b≠32:=by intro b hb;have:=ZX (xs:=r.ah) (RP h) b hb;rintro rfl;revert this;decide
theorem R9 {t:Ah} {r:Aw} (hg:AT t=true) (h:Bz t r=true):AI 44 (Lib.join r.ah [44])=r.ah:=by obtain⟨_,h2⟩:=IZ hg h;exact n7 (by intro e;rw [e]at h2;simp at h2) fun x hx b hb=>u5 (RP h x hx b hb)
theorem Y9 {l:List Ai} (h:(((l.length:Nat):Int)==0)=true):l= []:=by simp at h;exact h
theorem bD {a:A6} (h:GV a=true):a=Dd:=by
 unfold GV at h;simp only [Ac,beq_iff_eq]at h;obtain⟨k,⟨o⟩,⟨n⟩⟩:=a;obtain⟨⟨h1,h2⟩,h3⟩:=h;dsimp only at h1 h2 h3;have h2:o= []:=by simpa using h2
 have h3:n= []:=by simpa using h3
 subst h1 h2 h3;rfl
theorem pC {t:Ah} {s:AP} (hg:AT t=true) (h:C8 t s=true):EV (AI 32 (Cw t s))=s:=by
 have hn: ∀b∈t.ab,b≠32:=fun b hb=>by
  have h1:Ci t.ab 1=true:=by have h2:=hg;unfold AT at h2;simp only [Ac]at h2;exact h2.1.1.1
  exact PZ (J8 h1 b hb)
 obtain⟨kd,act,idx,low,high⟩:=s;unfold C8 at h;dsimp only at h;by_cases k1:kd=1
 ·rw [if_pos k1]at h;subst k1;simp only [Ac,beq_iff_eq]at h;obtain⟨⟨⟨ha,rfl⟩,rfl⟩,rfl⟩:=h;obtain⟨ak,⟨o⟩,⟨n⟩⟩:=act;unfold FU at ha;dsimp only at ha;by_cases a1:ak=1
  ·rw [if_pos a1,Ac]at ha;have ho:=Y9 ha.1;subst a1 ho;have e:AI 32 (Cw t ⟨1,⟨1,⟨[]⟩,⟨n⟩⟩, [], [], []⟩)= [GO,t.ab,Lib.join n [44]]:=by
    have e1:Cw t ⟨1,⟨1,⟨[]⟩,⟨n⟩⟩, [], [], []⟩=GO++32::(t.ab++32::Lib.join n [44]):=by unfold Cw;rw [if_neg (by simp),if_neg (by simp),if_pos rfl];simp
    rw [e1,DK (by decide),DK hn,HA (SO ha.2)]
   rw [e,Ni,if_pos rfl,R9 hg ha.2]
  rw [if_neg a1]at ha;by_cases a2:ak=2
  ·rw [if_pos a2,Ac]at ha;have ho:=Y9 ha.2;subst a2 ho;have e:AI 32 (Cw t ⟨1,⟨2,⟨o⟩,⟨[]⟩⟩, [], [], []⟩)= [GN,t.ab,Lib.join o [44]]:=by
    have e1:Cw t ⟨1,⟨2,⟨o⟩,⟨[]⟩⟩, [], [], []⟩=GN++32::(t.ab++32::Lib.join o [44]):=by unfold Cw;rw [if_neg (by simp),if_neg (by simp),if_neg (by simp),if_pos rfl];simp
    rw [e1,DK (by decide),DK hn,HA (SO ha.1)]
   rw [e,Ni,if_neg (by decide),if_pos rfl,R9 hg ha.1]
  rw [if_neg a2]at ha;by_cases a3:ak=3
  ·rw [if_pos a3,Ac,Ac]at ha;subst a3;have e:AI 32 (Cw t ⟨1,⟨3,⟨o⟩,⟨n⟩⟩, [], [], []⟩)= [GQ,t.ab,Lib.join o [44], [116,111],Lib.join n [44]]:=by
    have e1:Cw t ⟨1,⟨3,⟨o⟩,⟨n⟩⟩, [], [], []⟩=GQ++32::(t.ab++32::(Lib.join o [44]++32::(([116,111]:Ai)++32::Lib.join n [44]))):=by unfold Cw;rw [if_neg (by simp),if_neg (by simp),if_neg (by simp),if_neg (by simp)];simp
    rw [e1,DK (by decide),DK hn,DK (SO ha.1),DK (by decide),HA (SO ha.2.1)]
   rw [e,PV,if_pos rfl,R9 hg ha.1,R9 hg ha.2.1]
  ·rw [if_neg a3]at ha;cases ha
 rw [if_neg k1]at h;by_cases k2:kd=2
 ·rw [if_pos k2]at h;subst k2;simp only [Ac,beq_iff_eq]at h;obtain⟨hb,rfl,hf,rfl⟩:=h;have:=bD hb;subst this;have e:AI 32 (Cw t ⟨2,Dd, [],low, []⟩)= [Jw,t.ab,low]:=by
   have e1:Cw t ⟨2,Dd, [],low, []⟩=Jw++32::(t.ab++32::low):=by unfold Cw;rw [if_pos rfl];simp
   rw [e1,DK (by decide),DK hn,HA fun b hb=>PZ (Sd hf b hb)]
  rw [e,Ni,if_neg (by decide),if_neg (by decide)]
 rw [if_neg k2]at h;by_cases k3:kd=3
 ·rw [if_pos k3]at h;subst k3;simp only [Ac,decide_eq_true_eq]at h;obtain⟨hb,hi,hf,fA⟩:=h;have:=bD hb;subst this;have hx: ∀b∈idx,b≠32:=by
   obtain⟨x,_,Lf,gZ⟩:=Z2 hi;have Lf:x.ab=idx:=by simpa using Lf
   intro b hb;rw [←Lf]at hb;exact PZ (J8 (Lz hg gZ).1 b hb)
  have e:AI 32 (Cw t ⟨3,Dd,idx,low,high⟩)= [Jo,t.ab,idx,low,high]:=by
   have e1:Cw t ⟨3,Dd,idx,low,high⟩=Jo++32::(t.ab++32::(idx++32::(low++32::high))):=by unfold Cw;rw [if_neg (by simp),if_pos rfl];simp
   rw [e1,DK (by decide),DK hn,DK hx,DK fun b hb=>PZ (Sd hf b hb),HA fun b hb=>PZ (Sd fA b hb)]
  rw [e,PV,if_neg (by decide)]
 ·rw [if_neg k3]at h;cases h
structure Jh (s:AP):Prop where
 act:M4 s.a6
 idx:s.cb.length≤10
 low:s.bt.length≤10
 high:s.ca.length≤10
theorem Jh.small {s:AP} (h:Jh s):Er s:=⟨h.act.small,by have:=h.idx;omega,by have:=h.low;omega,by have:=h.high;omega⟩
theorem bK [Inhabited CP] {t:Ah} {l:List Ao} {c:Au} {k:Int} (hg:AT t=true) (hl:FZ l) (h:Bn c k) (hk:k≤4611686018427320000):By (OV c t l) fun p=>Jh p.1∧Bn p.2 (k+200):=by
 have b0:M4 Dd:=⟨R6,R6⟩
 unfold OV;refine(DM 4 h (by omega)).bind fun p ⟨_,hc⟩=> .ite (fun _=> ?_) fun _=> .ite (fun _=> .ite (fun EP=> ?_) fun _=> ?_) fun _=> ?_
 ·refine(EW _ (by simp) hc (by omega)).bind fun q ⟨hq,hd⟩=> .ret ⟨⟨b0,by simp, ?_,by simp⟩,hd.up (by omega)⟩;simp only [Ad,List.not_mem_nil,or_false]at hq;show q.1.length≤10;rcases hq with e|e|e|e|e<;>rw [e]<;>simp
 ·simp only [decide_eq_true_eq]at EP;refine(DM _ hc (by omega)).bind fun q ⟨hq,hd⟩=> ?_;have q2:=hq.2.1 (by omega);refine By.bind (P:=fun x:AU=>x.ab.length≤10) (.getI hq.1 q2 fun x hx=> ?_) fun x hx=> ?_
  ·have:=(Lz hg hx).1;unfold Ci at this;rw [Ac]at this;have:=Eg.1 this.2;omega
  refine(EW _ (by simp) hd (by omega)).bind fun u ⟨hu,he⟩=>(EW _ (by simp) he (by omega)).bind fun v ⟨hv,hf⟩=> .ret ⟨⟨b0,hx, ?_, ?_⟩,hf.up (by omega)⟩
  ·simp only [Ad,List.not_mem_nil,or_false]at hu;show u.1.length≤10;rcases hu with e|e|e<;>rw [e]<;>simp
  ·simp only [Ad,List.not_mem_nil,or_false]at hv;show v.1.length≤10;rcases hv with e|e|e<;>rw [e]<;>simp
 ·exact(cD hg hl (c:=⟨p.2.aw,p.2.bu,p.2.ay⟩) hc (by omega)).bind fun q ⟨hq,hd⟩=> .ret ⟨⟨hq,by simp,by simp,by simp⟩,hd.up (by omega)⟩
 ·exact(cD hg hl (c:=⟨p.2.aw,p.2.bu,p.2.ay⟩) hc (by omega)).bind fun q ⟨hq,hd⟩=> .ret ⟨⟨hq,by simp,by simp,by simp⟩,hd.up (by omega)⟩
theorem mK [Inhabited CP] {t:Ah} {l:List Ao} {c:Au} {k:Int} (hg:AT t=true) (hl:FZ l) (h:Bn c k) (hk:k≤4611686018427310000):By (Q0 c t l) fun p=>Jh p.1∧Bn p.2 (k+300):=by
 unfold Q0;refine(bK hg hl h (by omega)).bind fun s ⟨hs,hc⟩=>(DM 12 hc (by omega)).bind fun p ⟨_,hd⟩=> .ite (fun _=> ?_) fun _=> .ite (fun _=> ?_) fun _=> .ite (fun _=> ?_) fun _=> .ite (fun _=> ?_) fun _=> .ret ⟨⟨hs.act,hs.idx,hs.low,hs.high⟩,hd.up (by omega)⟩
 ·exact(DM 5 hd (by omega)).bind fun q ⟨_,he⟩=> .ret ⟨⟨hs.act,hs.idx,hs.low,hs.high⟩,he.up (by omega)⟩
 ·refine(EW _ (by simp) hd (by omega)).bind fun q ⟨hq,he⟩=> .ret ⟨⟨hs.act,hs.idx, ?_,hs.high⟩,he.up (by omega)⟩;simp only [Ad,List.not_mem_nil,or_false]at hq;show q.1.length≤10;rcases hq with e|e|e<;>rw [e]<;>simp
 ·refine(EW _ (by simp) hd (by omega)).bind fun q ⟨hq,he⟩=> .ret ⟨⟨hs.act, ?_,hs.low,hs.high⟩,he.up (by omega)⟩;simp only [Ad,List.not_mem_nil,or_false]at hq;show q.1.length≤10;rcases hq with e|e<;>rw [e]<;>simp
 ·exact(oB hg hd (by omega)).bind fun q ⟨hq,he⟩=> .ret ⟨⟨⟨hs.act.old,hq⟩,hs.idx,hs.low,hs.high⟩,he.up (by omega)⟩
theorem pS {t:Ah} {y:AU} (hg:AT t=true) (hy:t.ae[0]?=some y):AT ⟨t.ab,t.ax,t.ae.set 0 {y with bc:=3}⟩=true:=by
 unfold AT at hg ⊢;simp only [Ac,decide_eq_true_eq,A1,List.mem_range]at hg ⊢;refine⟨⟨hg.1.1,by simpa using hg.1.2⟩,fun i hi=> ?_⟩;have Hf:i<t.ae.length:=by simpa using hi
 have h1:=hg.2 i Hf;have nm: ∀j:Nat,((((t.ae.set 0 {y with bc:=3})[j]?).getD ⟨[],0,0⟩).ab=((t.ae[j]?).getD ⟨[],0,0⟩).ab)∧((((t.ae.set 0 {y with bc:=3})[j]?).getD ⟨[],0,0⟩).cq=((t.ae[j]?).getD ⟨[],0,0⟩).cq)∧(0≤((t.ae[j]?).getD ⟨[],0,0⟩).bc→((t.ae[j]?).getD ⟨[],0,0⟩).bc≤3→0≤(((t.ae.set 0 {y with bc:=3})[j]?).getD ⟨[],0,0⟩).bc∧(((t.ae.set 0 {y with bc:=3})[j]?).getD ⟨[],0,0⟩).bc≤3):=by
  intro j;cases j with
  |zero=>
   have h0:0<t.ae.length:=by
    rcases Nat.eq_zero_or_pos t.ae.length with h|h
    ·rw [List.length_eq_zero_iff.1 h]at hy;simp at hy
    ·exact h
   have e:(t.ae.set 0 {y with bc:=3})[0]?=some {y with bc:=3}:=by simp [h0]
   rw [e,hy];simp
  |succ j=>
   have e:(t.ae.set 0 {y with bc:=3})[j+1]?=t.ae[j+1]?:=by simp
   rw [e];exact⟨rfl,rfl,fun a b=>⟨a,b⟩⟩
 unfold FW at h1 ⊢;simp only [Ac]at h1 ⊢;have hs:=Eg.1 h1.1.2;refine⟨⟨⟨?_, ?_⟩,Eg.2 ((nm i).2.2 hs.1 hs.2)⟩, ?_⟩
 ·rw [(nm i).1];exact h1.1.1.1
 ·rw [(nm i).2.1];exact h1.1.1.2
 ·rw [(nm i).1,(nm (i-1)).1];exact h1.2
theorem nL {code:List Int} (h: ∀b∈code,0≤b∧b≤255):By (Q8 code) fun p=>D4 p.1∧FZ p.2.1∧Jh p.2.2:=by
 have hj: ∀(t:Ah × Au) (c:Au) (idxs:List AU),AT ⟨t.1.ab,t.1.ax,idxs⟩=true→Bn c 100→By (Mj t c.aw c.bu c.ay idxs) fun p=>D4 p.1∧FZ p.2.1∧Jh p.2.2:=by intro t c idxs hg hc;unfold Mj;refine(mQ hg (c:=⟨c.aw,c.bu,c.ay⟩) hc (by omega)).bind fun s ⟨hs,hd⟩=>(mK hg hs hd (by omega)).bind fun u ⟨hu,he⟩=>(Jk 12 he (by omega)).bind fun v hv=> .ite (fun _=> ?_) fun _=> .ret ⟨HB hg,hs,hu⟩;exact(mN hv (by omega)).bind fun b ⟨hb,_⟩=> .ret ⟨hb,hs,hu⟩
 unfold Q8;refine(Wz (c:=⟨code,0,0⟩) (Bn.start h) (by omega)).bind fun t ⟨hg,hc⟩=> .ite (fun EP=> ?_) fun _=> .ite (fun hf=>by cases hf) fun _=>hj t t.2 t.1.ae hg (hc.up (by omega));simp only [decide_eq_true_eq]at EP;refine(Jk 2 hc (by omega)).bind fun v hv=> .ite (fun _=> ?_) fun _=>hj t v.2 t.1.ae hg (hv.up (by omega));obtain⟨x,ex,_,hx⟩:=LF (xs:=t.1.ae) (i:=0) (by omega) (by omega);rw [ex,Ab];exact hj t v.2 _ (pS hg hx) (hv.up (by omega))
theorem jV {code:List Int} (h: ∀b∈code,0≤b∧b≤255):By (Rb code) fun p=>D4 p.1∧Jh p.2:=by unfold Rb U9;refine By.bind (P:=fun p:Ah × AP=>D4 p.1∧Jh p.2) ?_ fun p hp=> .ret hp;exact(nL h).bind fun p ⟨h1,_,h3⟩=> .ret ⟨h1,h3⟩
theorem aC {t:Ah} {s:AP} (hg:AT t=true) (h:Jh s):(Cw t s).length≤1000:=by
 have hn:t.ab.length≤1:=by have h2:=hg;unfold AT Ci at h2;simp only [Ac]at h2;have:=Eg.1 h2.1.1.1.2;omega
 have jl: ∀{xs:List Ai},GR xs→(Lib.join xs [44]).length≤110:=fun{xs} hx=>by have h1:=Pr xs [44];have h2:=R7 hx.each;have h3:=hx.len;rw [Bd]at h1;omega
 have j1:=jl h.act.old;have j2:=jl h.act.new;have h1:=h.idx;have h2:=h.low;have h3:=h.high;unfold Cw;split
 ·simp only [Aj,An,List.length_nil];omega
 ·split
  ·simp only [Aj,An,List.length_nil];omega
  ·split
   ·simp only [Aj,An,List.length_nil];omega
   ·split
    ·simp only [Aj,An,List.length_nil];omega
    ·simp only [Aj,An,List.length_nil];omega
theorem pY [Inhabited CP] {c:Au} {k:Int} {s w:Ai} (hs:s.length≤1000) (hw:1≤w.length) (Ht:w.length≤100) (h:Bn c k) (hk:k≤4611686018427320000):By (QU c s w) fun p=>p.1.length≤1010∧Bn p.2 (k+100):=by
 unfold QU;refine(DM 2 h (by omega)).bind fun p ⟨hp,hc⟩=> ?_;have p2:=hp.2.1 (by omega);obtain⟨m,hm⟩:=Int.eq_ofNat_of_zero_le hp.1;have w0:IntKind.i64.wrap (1+p.1)=((m+1:Nat):Int):=by rw [CD (by omega) (by omega)];omega
 rw [w0];refine MB (fun j u=> ∃q:Nat,q+j=m+1∧u.2.1=(j:Int)∧u.1.length≤1000+q∧Bn ⟨u.2.2.1,u.2.2.2.1,u.2.2.2.2⟩ (k+2+20*q)) (fun j u hI=> ?_) (n:=m+1) ⟨0,by omega,rfl,by simpa using hs,by simpa using hc⟩;obtain⟨l,s1,a,b,e⟩:=u;obtain⟨q,i0,i1,i2,i3⟩:=hI;dsimp only at i1 i2 i3 ⊢;subst i1;unfold Yc;refine .ite (fun AD=> ?_) fun _=> .ret (.ret ⟨by dsimp only;omega,i3.up (by omega)⟩);simp only [Ac,decide_eq_true_eq]at AD;have w1:IntKind.i64.wrap ((j:Int)-1)=((j-1:Nat):Int):=by rw [CD (by omega) (by omega)];omega
 refine(DM _ i3 (by omega)).bind fun x ⟨hx,hd⟩=>(DM _ hd (by omega)).bind fun y ⟨hy,he⟩=> ?_;have x2:=hx.2.1 (by omega);have y2:=hy.2.1 (by omega);obtain⟨z,ez,_,_⟩:=LF hy.1 y2;rw [ez,Ab,AY (by simp)];obtain⟨i,hi⟩:=Int.eq_ofNat_of_zero_le hx.1;have Qv:i<l.length:=by omega
 have wi:IntKind.i64.wrap (x.1+1)=((i+1:Nat):Int):=by rw [hi,CD (by omega) (by omega)];omega
 rw [wi,hi];have t1:(AL l 0 (i:Int)).length=i:=by unfold AL;simp;omega
 have t2:(AL l (i:Int) (l.length:Int)).length=l.length-i:=by unfold AL;simp
 have t3:(AL l ((i+1:Nat):Int) (l.length:Int)).length=l.length-(i+1):=by unfold AL;simp
 have t4:(([(z.toNat:Int)].map fun n=>UInt8.ofNat n.toNat)).length=1:=by simp
 refine(DM 3 he (by omega)).bind fun r ⟨_,hf⟩=> .ite (fun _=> ?_) fun _=> .ite (fun _=> ?_) fun _=> ?_
 ·refine .req (by omega) (.req (by rw [t1,t4];omega) (.req (by omega) (.req (by rw [Aj,t1,t4,t2];omega) (.ret ⟨j-1,by omega,q+1,by omega,w1, ?_,hf.up (by omega)⟩))));show List.length (_++_++_)≤_;rw [Aj,Aj,t1,t4,t2];omega
 ·refine .req (by omega) (.req (by rw [t1,t4];omega) (.req (by omega) (.req (by rw [Aj,t1,t4,t3];omega) (.ret ⟨j-1,by omega,q+1,by omega,w1, ?_,hf.up (by omega)⟩))));show List.length (_++_++_)≤_;rw [Aj,Aj,t1,t4,t3];omega
 ·refine .req (by omega) (.req (by omega) (.req (by rw [t1,t3];omega) (.ret ⟨j-1,by omega,q+1,by omega,w1, ?_,hf.up (by omega)⟩)));show List.length (_++_)≤_;rw [Aj,t1,t3];omega
theorem sE {n:Nat} {l:List Ao} (hn:n≤100) (h:Dq n l):FZ l:=⟨by have:=h.len;omega,fun w hw=>RQ (h.fu w hw)⟩
theorem jW {code:List Int} (h: ∀b∈code,0≤b∧b≤255):By (Q9 code) fun p=>AT p.1=true∧p.2.length≤1010:=by unfold Q9;refine(Wz (c:=⟨code,0,0⟩) (Bn.start h) (by omega)).bind fun t ⟨hg,hc⟩=>(aE hg hc (by omega)).bind fun s ⟨hs,hd⟩=>(bK hg (sE (by omega) hs.1) hd (by omega)).bind fun u ⟨hu,he⟩=> ?_;have hl:=aC hg hu;rw [WQ (HB hg).name hu.small,Ab];refine(Jk 2 he (by omega)).bind fun v hv=> .ite (fun _=> ?_) fun _=> .ret ⟨hg,by dsimp only;omega⟩;exact(pY hl (by simp) (by simp) hv (by omega)).bind fun w ⟨hw,_⟩=> .ret ⟨hg,hw⟩
theorem nY {l:List AM} (h:l.length≤2000000):Rh l l=some true:=by
 unfold Rh;rw [if_neg (by simp),MR (xs:=l) (body:=fun s:Int=>Mr l l s) (fun _=>true) false (some true) (fun i hi=>by
  show Mr l l i=_;unfold Mr;rw [if_pos (by simpa using hi),CO hi,Ab,Ab,D6 hi (by omega)];simp) (by
  show Mr l l l.length=_;unfold Mr;rw [if_neg (by simp)]),if_pos (A1.2 fun _ _=>rfl)]
theorem qZ (t:Ah) (s:AP):(DV t s).1.length≤2000000:=by
 unfold DV;split
 ·rename_i h;show List.length _≤_;split
  ·simp
  ·rename_i h2;obtain⟨_,ha⟩:=V3 h.2.1 h2 h.2.2;have:=(sH h.1 ha).1;show(Ij t s.a6).length≤_;omega
 ·simp
theorem kW {t:Ah} {text:Ai} {s:AP} (hg:AT t=true) (h:(Dp t text s).2=true):HN t (Dp t text s).1=(text,true):=by
 unfold Dp at h ⊢;split at h
 ·rename_i hc;rw [if_pos hc];unfold HN;rw [if_pos ⟨hg,hc.1⟩,hc.2]
 ·cases h
theorem kY {t:Ah} {text:Ai} {s:AP} (h:Er s):Er (Dp t text s).1:=by
 unfold Dp;split
 ·exact h
 ·exact⟨H2,by simp,by simp,by simp⟩
theorem mD {text:Ai} (h:text.length≤1000000):Er (EV (AI 32 text)):=by
 have hm: ∀x∈AI 32 text,x.length≤1000000:=fun x hx=>WK h hx;generalize AI 32 text=ws at hm;have z:Er ⟨1,Dd, [], [], []⟩:=⟨H2,by simp,by simp,by simp⟩
 match ws,hm with
 | [],_=>exact z
 | [_],_=>exact z
 | [_,_],_=>exact z
 | [a,b,c],hm=>
  have At:=hm c (by simp);rw [Ni];split
  ·exact⟨⟨Ke,H5 At⟩,by simp,by simp,by simp⟩
  ·split
   ·exact⟨⟨H5 At,Ke⟩,by simp,by simp,by simp⟩
   ·exact⟨H2,by simp,by show c.length≤_;omega,by simp⟩
 | [_,_,_,_],_=>exact z
 | [a,b,c,d,e],hm=>
  have At:=hm c (by simp);have L4:=hm d (by simp);have A7:=hm e (by simp);rw [PV];split
  ·exact⟨⟨H5 At,H5 A7⟩,by simp,by simp,by simp⟩
  ·exact⟨H2,by show c.length≤_;omega,by show d.length≤_;omega,by show e.length≤_;omega⟩
 |_::_::_::_::_::_::_,_=>exact z
theorem YS {t:Ah} {text:Ai} (hg:AT t=true) (h:text.length≤1000000):O2 t text=some (Dp t text (EV (AI 32 text))):=by unfold O2;rw [aD (HB hg),Ab,hg,if_neg (by simp),qX hg h,Ab]
theorem rK (c b:List Int) (hc:QJ LW c) (hb:QJ LW b):Rz c b=some true:=by
 unfold Rz;refine dK (fun _=>rfl) fun _=> ?_;obtain⟨⟨t,s⟩,hd,hT,hS⟩:=jV hc.2;obtain⟨⟨u,text⟩,Tw,hU,hL⟩:=jW hb.2;dsimp only at hT hS hU hL;have hs:=hS.small;have eI:=HB hU;have gJ:Er (Dp u text (EV (AI 32 text))).1:=kY (mD (by omega));rw [hd,Ab,mB hT hs,Ab,VI hT hs,Ab,oL hT hs,Ab,oK hT hs,Ab,Tw,Ab,YS hU (by dsimp only;omega),Ab,rN hU (by dsimp only;omega),Ab,←qP];dsimp only;rw [VI eI gJ,Ab,Ab,if_neg (by simp),if_neg (by simp),if_neg (by simp),nY (qZ t s),Ab,if_pos rfl,if_neg (by simp),if_neg (by simp),if_neg (by simp),VA hT hs,Ab];have e1:(HN t s).2=(AT t&&C8 t s):=by unfold HN;cases AT t<;>cases C8 t s<;>rfl
 rw [e1,if_neg (by simp)];have e2:((Dp u text (EV (AI 32 text))).2&&((HN u (Dp u text (EV (AI 32 text))).1).1 !=text))=false:=by
  cases h:(Dp u text (EV (AI 32 text))).2 with
  |false=>rfl
  |true=>rw [kW hU h];simp
 rw [e2,if_neg (by simp)];refine dK (fun _=>rfl) fun h=> ?_;have Gz:AT t=true∧C8 t s=true:=by cases h1:AT t<;>cases h2:C8 t s<;>rw [h1,h2]at h<;>simp at h ⊢
 have eT:HN t s=(Cw t s,true):=by unfold HN;rw [if_pos Gz]
 have hl:(Cw t s).length≤1000:=aC Gz.1 hS;rw [eT];dsimp only;rw [YS Gz.1 (by omega),Ab,pC Gz.1 Gz.2];have eR:Dp t (Cw t s) s=(s,true):=by unfold Dp;rw [if_pos ⟨Gz.2,rfl⟩]
 rw [eR];dsimp only;rw [VI hT hs,Ab,eT];have e3:(DV t s).2=(s.af !=3):=by
  unfold DV;by_cases k3:s.af=3
  ·rw [if_neg (by simp [k3]),k3];rfl
  ·rw [if_pos ⟨Gz.1,Gz.2,k3⟩];have:(s.af !=3)=true:=by simpa using k3
   rw [this]
 rw [e3];simp
end Go.Proofs.YtagokdejdanfcaaGreatDoor
end
