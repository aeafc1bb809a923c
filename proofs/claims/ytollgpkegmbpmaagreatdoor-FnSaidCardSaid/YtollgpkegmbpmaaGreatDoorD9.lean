/- Parts of a proof, joined: N5, N6, N7, N8, N9, N10, N11, N12, N13, N14, N15, N16, NK, NP, NQ, NX, NS, NT, NV, NU, NH, NVG, NDA. -/
import Derived.Test.YtollgpkegmbpmaaGreatDoorD8
set_option linter.unusedVariables false
set_option linter.unusedSimpArgs false
section
namespace Go.Proofs.YtollgpkegmbpmaaGreatDoor
open Go.RowKit
set_option maxRecDepth 100000
abbrev Ag:=Aa
def Dd (a b c:Int):Bool:=decide (a≥b)&&decide (a≤c)
theorem ES {a b c:Int}:Dd a b c=true↔b≤a∧a≤c:=by simp [Dd]
@[simp] theorem SS (a b c:Int):IT a b c=some (Dd a b c):=rfl
@[simp] theorem Sn (a b c:Int):Kp a b c=some (Dd a b c):=rfl
def Ep (b:UInt8):Bool:=(decide ((b.toNat:Int)≥97)&&decide ((b.toNat:Int)≤122))||(decide ((b.toNat:Int)≥48)&&decide ((b.toNat:Int)≤57))
def IY (s more:Ag):Bool:=s.all fun b=>Ep b||more.contains b
theorem iO {a b:UInt8}:((a.toNat:Int)==(b.toNat:Int))=(a==b):=by
 rw [Bool.eq_iff_iff];simp only [beq_iff_eq];constructor
 ·intro h;exact UInt8.toNat_inj.1 (by omega)
 ·rintro rfl;rfl
theorem oR {α:Type} (xs:List α) (p:α→Bool) (q:Nat→Bool) (h: ∀(i:Nat) (hi:i<xs.length),q i=p xs[i]):(List.range xs.length).all q=xs.all p:=by
 rw [Bool.eq_iff_iff];simp only [AS,List.mem_range];constructor
 ·intro hq x hx;obtain⟨i,hi,rfl⟩:=List.getElem_of_mem hx;rw [←h i hi];exact hq i hi
 ·intro hp i hi;rw [h i hi];exact hp _ (List.getElem_mem hi)
theorem Nl {α β:Type} {xs:List α} {body:Int→Option (Int ⊕ Option β)} (p:α→Bool) (b:β) (fin:Option β)
  (hs: ∀(i:Nat) (hi:i<xs.length),body i=some (if p xs[i]=true then .inl ((i+1:Nat):Int)else .inr (some b))) (he:body xs.length=some (.inr fin)):AN body 0=if xs.all p=true then fin else some b:=by
 rw [LD (n:=xs.length) (fun i=>match xs[i]? with|some x=>p x|none=>true) b fin (fun i hi=>by rw [hs i hi];simp [hi]) he,
  oR xs p _ fun i hi=>by simp [hi]]
theorem cA {s more:Ag} (h1:s.length≤2000000) (h2:more.length≤2000000):Pd s more=some (IY s more):=by
 unfold Pd;rw [Nl (xs:=s) (fun b=>Ep b||more.contains b) false (some true) ?_ (by simp [Zu])]
 ·unfold IY;cases(s.all fun b=>Ep b||more.contains b)<;>rfl
 ·intro i hi;have B1:AN (fun t:Bool × Int=>RG more i s[i] t.1 t.2) (Ep s[i],0)=some (if(Ep s[i]||more.contains s[i])=true then .inl ((i+1:Nat):Int)else .inr (some false)):=by
   have hl:=oP (xs:=more) (body:=fun t:Bool × Int=>RG more i s[i] t.1 t.2) (fun k (ok:Bool)=>(ok,k)) (fun b ok=>some (.inl (ok||s[i]==b))) (fun ok=>Zs i ok)
    (fun k hk ok=>by simp only [RG,Int.ofNat_lt,hk,decide_true,if_true,Bb hk,Ab,BM hk (by omega:more.length≤_),iO,NJ];cases ok<;>simp) (fun ok=>by simp [RG]) (Ep s[i])
   rw [zxZ (fun ok b=>ok||s[i]==b) (fun _=>True) (fun _ _ _ _=>trivial) (fun _ _ _ _=>rfl) trivial]at hl;have hf: ∀(l:Ag) (ok:Bool),l.foldl (fun ok b=>ok||s[i]==b) ok=(ok||l.contains s[i]):=by
    intro l
    induction l with
    |nil=>intro ok;simp
    |cons c l ih=>intro ok;rw [List.foldl_cons,ih,List.contains_cons,Bool.or_assoc]
   rw [hl,hf];unfold Zs;rw [BM hi (by omega)];cases(Ep s[i]||more.contains s[i])<;>rfl
  simp only [Zu,Int.ofNat_lt,hi,decide_true,if_true,Bb hi,Ab];exact B1
theorem zqT (l:Ag) (c:UInt8):decide (Lib.indexByte l c<0)= !l.contains c:=by
 induction l with
 |nil=>rfl
 |cons b l ih=>
  unfold Lib.indexByte;have Im:=Lib.indexByte_ge l c;rw [List.contains_cons];by_cases hb:b=c
  ·subst hb;simp
  ·have h1:(b==c)=false:=by simpa using hb
   have h2:(c==b)=false:=by simpa using fun h=>hb h.symm
   rw [h1,h2];simp only [BH,if_false,Bool.false_or];rw [←ih];by_cases hm:Lib.indexByte l c= -1
   ·simp [hm]
   ·have h3:(Lib.indexByte l c== -1)=false:=by simpa using hm
    rw [h3];simp only [BH,if_false];rw [decide_eq_decide];omega
theorem bN {s more:Ag} (h1:s.length≤2000000):Pg s more=some (IY s more):=by
 unfold Pg;rw [Nl (xs:=s) (fun b=>Ep b||more.contains b) false (some true) ?_ (by simp [Zz])]
 ·unfold IY;cases(s.all fun b=>Ep b||more.contains b)<;>rfl
 ·intro i hi;have hu:((s[i].toNat:Int)).toNat.toUInt8=s[i]:=by simp
  simp only [Zz,Int.ofNat_lt,hi,decide_true,if_true,Bb hi,Ab,Zi,Zd,T7,hu,zqT,BM hi (by omega:s.length≤_)];rw [show((decide ((s[i].toNat:Int)≥97)&&decide ((s[i].toNat:Int)≤122))||(decide ((s[i].toNat:Int)≥48)&&decide ((s[i].toNat:Int)≤57)))=Ep s[i]from rfl];cases Ep s[i]<;>cases more.contains s[i]<;>rfl
def Dh (s:Ag):Bool:=Dd s.length 1 12&&IY s [46,47]
def FX (s:Ag):Bool:=decide ((s.length:Int)≤24)&&IY s [46,45,44,95]
theorem sM {s:Ag} (h:s.length≤2000000):RY s=some (Dh s):=by simp only [RY,SS,Ab,cA h (more:= [46,47]) (by decide),Dh];cases Dd s.length 1 12<;>simp
theorem zB {s:Ag} (h:s.length≤2000000):Vd s=some (Dh s):=by simp only [Vd,Sn,Ab,bN h,Dh];cases Dd s.length 1 12<;>simp
theorem fK {s:Ag} (h:s.length≤2000000):R0 s=some (FX s):=by simp only [R0,Ab,cA h (more:= [46,45,44,95]) (by decide),FX];by_cases hl:(s.length:Int)≤24<;>simp [hl]
theorem xH {s:Ag} (h:s.length≤2000000):Va s=some (FX s):=by simp only [Va,Ab,bN h,FX];by_cases hl:(s.length:Int)≤24<;>simp [hl]
def Hb (v:Ag) (GH:Bool):Bool:=FX v&&(!GH||v== [])
theorem zwu {v:Ag} {GH:Bool} (h:v.length≤2000000):UR v GH=some (Hb v GH):=by simp only [UR,xH h,Ab,Hb,bne];cases FX v<;>cases GH<;>cases(v== [])<;>rfl
theorem zy0 {k v:Ag} {GH:Bool} (hk:k.length≤2000000) (hv:v.length≤2000000):U8 k v GH=some (Dh k&&Hb v GH):=by simp only [U8,sM hk,fK hv,Ab,Hb];cases Dh k<;>simp
def H3 (ks:List Ag) (i:Nat):Bool:=i==0||Op.bytesLess ((ks[i-1]?).getD []) ((ks[i]?).getD [])
def Jw (ks:List Ag):Bool:=(List.range ks.length).all (H3 ks)
theorem dQ: ∀(a b:Ag),(Op.bytesLess a b||a==b)= !Op.bytesLess b a
 | [], []=>rfl
 | [],_::_=>rfl
 |_::_, []=>rfl
 |x::a,y::b=>by
  have ih:=dQ a b;simp only [Op.bytesLess];rcases Nat.lt_trichotomy x.toNat y.toNat with h|h|h
  ·have h1:x<y:=UInt8.lt_iff_toNat_lt.2 h;have h2: ¬y<x:=fun h'=>by have:=UInt8.lt_iff_toNat_lt.1 h';omega
   have h3: ¬y=x:=fun h'=>by subst h';omega
   simp [h1,h2,h3]
  ·have h0:x=y:=UInt8.toNat_inj.1 h;subst h0;have h1: ¬x<x:=fun h'=>by have:=UInt8.lt_iff_toNat_lt.1 h';omega
   rw [show((x::a)==(x::b))=(a==b) by simp];simp only [h1,decide_false,Bool.false_or,beq_self_eq_true,Bool.true_and];exact ih
  ·have h1: ¬x<y:=fun h'=>by have:=UInt8.lt_iff_toNat_lt.1 h';omega
   have h2:y<x:=UInt8.lt_iff_toNat_lt.2 h;have h3: ¬x=y:=fun h'=>by subst h';omega
   simp [h1,h2,h3]
theorem Wr {i:Nat} (h0:0<i) (h:i≤2000000):IntKind.i64.wrap ((i:Int)-1)=((i-1:Nat):Int):=by rw [B3 (by omega) (by omega)];omega
theorem sG {α:Type} (xs:List α) (p:α→Bool) (q r:Nat→Bool) (h: ∀(i:Nat) (hi:i<xs.length),r i=(p xs[i]&&q i)):(List.range xs.length).all r=(xs.all p&&(List.range xs.length).all q):=by
 rw [←oR xs p (fun i=>match xs[i]? with|some x=>p x|none=>true) fun i hi=>by simp [hi]];rw [Bool.eq_iff_iff];simp only [Ad,AS,List.mem_range];constructor
 ·intro hr;exact⟨fun i hi=>by have:=hr i hi;rw [h i hi,Ad]at this;simpa [hi]using this.1,fun i hi=>by have:=hr i hi;rw [h i hi,Ad]at this;exact this.2⟩
 ·rintro⟨h1,h2⟩ i hi;rw [h i hi,Ad];exact⟨by have:=h1 i hi;simpa [hi]using this,h2 i hi⟩
theorem ztb {ks:List Ag} (h:ks.length≤2000000) (hk: ∀k∈ks,k.length≤2000000):UI ks=some (ks.all Dh&&Jw ks):=by
 unfold UI Jw;rw [LD (n:=ks.length) (fun i=>Dh ((ks[i]?).getD [])&&H3 ks i) false (some true) ?_ (by simp [Zc]),sG ks Dh (H3 ks) _ fun i hi=>by simp [hi]]
 ·cases(ks.all Dh&&(List.range ks.length).all (H3 ks))<;>rfl
 ·intro i hi;simp only [Zc,Int.ofNat_lt,hi,decide_true,if_true,Bb hi,Ab,zB (hk _ (List.getElem_mem hi)),BM hi (by omega:ks.length≤_),List.getElem?_eq_getElem hi,Option.getD_some,H3];by_cases h0:i=0
  ·subst h0;cases Dh ks[0]<;>simp
  ·have hp:(i:Int)>0:=by omega
   have Ir:i-1<ks.length:=by omega
   have hb:(i==0)=false:=by simpa using h0
   simp only [hp,decide_true,if_true,Wr (Nat.pos_of_ne_zero h0) (by omega:i≤2000000),Bb Ir,Ab,dQ,List.getElem?_eq_getElem Ir,Option.getD_some,hb,Bool.false_or];cases Dh ks[i]<;>cases Op.bytesLess ks[i-1] ks[i]<;>rfl
theorem ztC {l:List Ac} (h:l.length≤2000000):UG l=some (l.map (·.ab)):=by
 have h1:=En (xs:=l) (body:=fun s:Int × List Ag=>OM l s.1 s.2) (fun i (o:List Ag)=>(i,o)) (fun o w=>o++ [w.ab]) (fun o=>some o) (fun q o=>o.length=q)
  (fun i hi o hI=>by
   refine⟨?_,by simp [hI]⟩;show OM l i o=_;unfold OM;have hr:((o.length:Int)+(([l[i].ab]:List Ag).length:Int))*16≤140737488355328∧(o.length:Int)+(([l[i].ab]:List Ag).length:Int)≤140737488355328:=by rw [Aw,hI];omega
   rw [if_pos (by simpa using hi),Bb hi,Ab,AG hr,BM hi (by omega)]) (fun o _=>by
   show OM l l.length o=_;unfold OM;rw [if_neg (by simp)]) (s:= []) rfl
 have hf: ∀(l:List Ac) (o:List Ag),l.foldl (fun o w=>o++ [w.ab]) o=o++l.map (·.ab):=by
  intro l
  induction l with
  |nil=>intro o;simp
  |cons w l ih=>intro o;rw [List.foldl_cons,ih];simp
 have h2:=h1.1;rw [hf,List.nil_append]at h2;unfold UG;exact h2
def CO (w:Ac):Bool:=Dh w.ab&&Hb w.aw w.a8
def IV (l:List Ac):Bool:=decide ((l.length:Int)≤24)&&(l.all CO&&Jw (l.map (·.ab)))
def LU (l:List Ac):Prop:=l.length≤2000000∧ ∀w∈l,w.ab.length≤2000000∧w.aw.length≤2000000
theorem zxa {l:List Ac} (h:LU l):UJ l=some (IV l):=by
 have e1:IQ l (fun y0_=>Ur y0_)=some (l.any fun w=> !Hb w.aw w.a8):=eF _ (fun w hw=>by simp [Ur,zwu (h.2 w hw).2]) (by have:=h.1;omega);have e2:=ztb (ks:=l.map (·.ab)) (by simpa using h.1) (by simp only [List.mem_map];rintro k ⟨w,hw,rfl⟩;exact(h.2 w hw).1);simp only [UJ,ztC h.1,e1,e2,Ab,IV,←List.not_all_eq_any_not];have e3:l.all CO=((l.map (·.ab)).all Dh&&l.all fun w=>Hb w.aw w.a8):=by
  rw [Bool.eq_iff_iff];simp only [AS,Ad,CO,List.mem_map];constructor
  ·intro h;exact⟨by rintro k ⟨w,hw,rfl⟩;exact(h w hw).1,fun w hw=>(h w hw).2⟩
  ·rintro⟨h1,h2⟩ w hw;exact⟨h1 _ ⟨w,hw,rfl⟩,h2 w hw⟩
 rw [e3];generalize (l.map (·.ab)).all Dh=b1;generalize Jw (l.map (·.ab))=b2;generalize (l.all fun w=>Hb w.aw w.a8)=b3;by_cases hl:(l.length:Int)≤24<;>cases b1<;>cases b2<;>cases b3<;>simp [hl]
theorem zxm {l:List Ac} (h:LU l):UQ l=some (IV l):=by
 unfold UQ;have hn:=h.1;rw [LD (n:=l.length) (fun i=>CO ((l[i]?).getD ⟨[], [],false⟩)&&H3 (l.map (·.ab)) i) false (Zy l) ?_ (by simp [Zt]),sG l CO (H3 (l.map (·.ab))) _ fun i hi=>by simp [hi]]
 ·unfold Zy IV Jw;rw [List.length_map];cases(l.all CO&&(List.range l.length).all (H3 (l.map (·.ab))))<;>simp
 ·intro i hi;have hm:=h.2 _ (List.getElem_mem hi);simp only [Zt,Int.ofNat_lt,hi,decide_true,if_true,Bb hi,Ab,zy0 hm.1 hm.2,BM hi (by omega:l.length≤_),List.getElem?_eq_getElem hi,Option.getD_some,H3,List.getElem?_map,Option.map_some];rw [show(Dh l[i].ab&&Hb l[i].aw l[i].a8)=CO l[i]from rfl];by_cases h0:i=0
  ·subst h0;cases CO l[0]<;>simp
  ·have hp:(i:Int)>0:=by omega
   have Ir:i-1<l.length:=by omega
   have hb:(i==0)=false:=by simpa using h0
   simp only [hp,decide_true,if_true,Wr (Nat.pos_of_ne_zero h0) (by omega:i≤2000000),Bb Ir,Ab,List.getElem?_eq_getElem Ir,Option.map_some,Option.getD_some,hb,Bool.false_or];cases CO l[i]<;>cases Op.bytesLess l[i-1].ab l[i].ab<;>rfl
def Cl (l:List Ac):Bool:=IV l&&l.all fun w=> !w.a8
theorem rY {l:List Ac} (h:LU l):RQ l=some (Cl l):=by have e1:IQ l (fun y0_=>UU y0_)=some (l.any fun w=> !!w.a8):=eF _ (fun w hw=>by simp [UU]) (by have:=h.1;omega);simp only [RQ,zxa h,e1,Ab,Cl,←List.not_all_eq_any_not];cases IV l<;>simp
theorem eP {l:List Ac} (h:LU l):Nb l=some (Cl l):=by
 have hn:=h.1;unfold Nb;rw [Nl (xs:=l) (fun w=> !w.a8) false (ZG l) (fun i hi=>by simp only [ZF,Int.ofNat_lt,hi,decide_true,if_true,Bb hi,Ab,BM hi (by omega:l.length≤_)];cases l[i].a8<;>rfl) (by simp [ZF])]
 simp only [ZG,zxm h,Ab,Cl];cases(l.all fun w=> !w.a8)<;>simp
def small (b:UInt8):Bool:= !(decide ((b.toNat:Int)<97)||decide ((b.toNat:Int)>122))
def CI (s:Ag) (n:Int):Bool:=s.all small&&Dd s.length 1 n
theorem bM {s:Ag} {n:Int} (h:s.length≤2000000):O7 s n=some (CI s n):=by
 unfold O7;rw [Nl (xs:=s) small false (Zk s n) (fun i hi=>by simp only [Zj,Int.ofNat_lt,hi,decide_true,if_true,Bb hi,Ab,BM hi (by omega:s.length≤_)];rw [show(decide ((s[i].toNat:Int)<97)||decide ((s[i].toNat:Int)>122))= !small s[i] by simp [small]];cases small s[i]<;>rfl) (by simp [Zj])]
 unfold Zk CI Dd;cases s.all small<;>simp
theorem bT {s:Ag} {n:Int} (h:s.length≤2000000):O6 s n=some (CI s n):=by
 unfold O6;rw [Nl (xs:=s) small false (Zl s n) (fun i hi=>by simp only [Zm,Int.ofNat_lt,hi,decide_true,if_true,Bb hi,Ab,BM hi (by omega:s.length≤_)];rw [show(decide ((s[i].toNat:Int)<97)||decide ((s[i].toNat:Int)>122))= !small s[i] by simp [small]];cases small s[i]<;>rfl) (by simp [Zm])]
 simp only [Zl,Sn,Ab,CI];cases s.all small<;>simp
theorem yK {xs:List Ag} {s:Ag} (h:xs.length≤2000000):Vq xs s=some (Cd (· ==s) xs):=by unfold Vq;refine dB (· ==s) (fun i hi=> ?_) (by simp [ZY]);simp only [ZY,Int.ofNat_lt,hi,decide_true,if_true,Bb hi,Ab,BM hi (by omega:xs.length≤_)];cases xs[i]==s<;>rfl
theorem zxW {xs:List Ag} {s:Ag} (h:xs.length≤2000000):Ud xs s=some (Cd (· ==s) xs):=by unfold Ud;refine dB (· ==s) (fun i hi=> ?_) (by simp [YZ]);simp only [YZ,Int.ofNat_lt,hi,decide_true,if_true,Bb hi,Ab,BM hi (by omega:xs.length≤_)];rw [show(s==xs[i])=(xs[i]==s)from BEq.comm];cases xs[i]==s<;>rfl
theorem s8 (xs:List Ag) (s:Ag):(xs.any fun x=>x==s)=xs.contains s:=by rw [List.contains_eq_any_beq];congr 1;funext x;exact BEq.comm
theorem xI {xs:List Ag} {s:Ag} (h:xs.length≤2000000):T9 xs s=some (xs.contains s):=by simp only [T9,zxW h,Ab,dP,s8]
def LZ (cs:List Ag) (i:Nat):Bool:=CI ((cs[i]?).getD []) 3&& !(cs.take i).contains ((cs[i]?).getD [])
def JB (cs:List Ag):Bool:=(List.range cs.length).all (LZ cs)
def He (t:Aj) (i:Nat):Bool:=
 let x:=(t.aj[i]?).getD ⟨[],0,0⟩
 CI x.ae 1&&Dd x.cy 1 ((t.ax.length:Int)-1)&&Dd x.bc 0 3&&(i==0||Op.bytesLess ((t.aj[i-1]?).getD ⟨[],0,0⟩).ae x.ae)
def A9 (t:Aj):Bool:=CI t.ae 1&&(JB t.ax&&Dd t.ax.length 2 4)&&decide ((t.aj.length:Int)≤3)&&(List.range t.aj.length).all (He t)
structure Fi (t:Aj):Prop where
 name:t.ae.length≤2000000
 iz:t.ax.length≤2000000
 ma: ∀c∈t.ax,c.length≤2000000
 idxs:t.aj.length≤2000000
 idx: ∀x∈t.aj,x.ae.length≤2000000
theorem NN {α:Type} (xs:List α) (i:Nat):AR xs 0 i=xs.take i:=by simp [AR]
theorem zz8 {cs:List Ag} (h:cs.length≤2000000) (hc: ∀c∈cs,c.length≤2000000):Vk cs=some (JB cs&&Dd cs.length 2 4):=by
 unfold Vk;rw [LD (n:=cs.length) (LZ cs) false (Zn cs) ?_ (by simp [Zp])]
 ·simp only [Zn,SS,Ab,JB];cases(List.range cs.length).all (LZ cs)<;>simp
 ·intro i hi;unfold Zp LZ;rw [if_pos (by simpa using hi),Bb hi,Ab,bM (hc _ (List.getElem_mem hi)),Ab,AG (by omega),NN,yK (by rw [List.length_take];omega),Ab,dP,s8,BM hi (by omega)];simp only [List.getElem?_eq_getElem hi,Option.getD_some];cases CI cs[i] 3<;>cases(cs.take i).contains cs[i]<;>rfl
theorem qF {t:Aj} (h:Fi t):RF t=some (A9 t):=by
 have hw:=B3 (n:=(t.ax.length:Int)-1) (by omega) (by have:=h.iz;omega);have hn:=h.idxs;have hl:AN (fun s:Int=>Us t s) 0=some ((List.range t.aj.length).all (He t)):=by
  rw [LD (n:=t.aj.length) (He t) false (some true) ?_ (by simp [Us])]
  ·cases(List.range t.aj.length).all (He t)<;>rfl
  ·intro i hi;unfold He;simp only [Us,Int.ofNat_lt,hi,decide_true,if_true,Bb hi,Ab,bM (h.idx _ (List.getElem_mem hi)),SS,hw,BM hi (by omega:t.aj.length≤_),List.getElem?_eq_getElem hi,Option.getD_some];by_cases h0:i=0
   ·subst h0;cases CI t.aj[0].ae 1<;>cases Dd t.aj[0].cy 1 ((t.ax.length:Int)-1)<;>cases Dd t.aj[0].bc 0 3<;>rfl
   ·have hp:(i:Int)>0:=by omega
    have Ir:i-1<t.aj.length:=by omega
    have hb:(i==0)=false:=by simpa using h0
    simp only [hp,decide_true,if_true,Wr (Nat.pos_of_ne_zero h0) (by omega:i≤2000000),Bb Ir,Ab,List.getElem?_eq_getElem Ir,Option.getD_some,hb,Bool.false_or];cases CI t.aj[i].ae 1<;>cases Dd t.aj[i].cy 1 ((t.ax.length:Int)-1)<;>cases Dd t.aj[i].bc 0 3<;>cases Op.bytesLess t.aj[i-1].ae t.aj[i].ae<;>rfl
 unfold RF A9;rw [bM h.name,Ab,zz8 h.iz h.ma,hl];by_cases hk:(t.aj.length:Int)≤3
 ·have Bz: ¬(t.aj.length:Int)>3:=by omega
  simp only [hk,Bz,decide_true,decide_false,Bool.or_false,Bool.and_true];cases CI t.ae 1<;>cases(JB t.ax&&Dd t.ax.length 2 4)<;>simp
 ·have Bz:(t.aj.length:Int)>3:=by omega
  simp only [hk,Bz,decide_true,decide_false,Bool.or_true,Bool.and_false,Bool.false_and];cases CI t.ae 1<;>simp
theorem dH {t:Aj} (h:Fi t):OZ t=some (A9 t):=by
 have hw:=B3 (n:=(t.ax.length:Int)-1) (by omega) (by have:=h.iz;omega);have hn:=h.idxs;have hm:=h.iz;have hl:AN (fun s:Int=>Uu t s) 0=some ((List.range t.aj.length).all (He t)):=by
  rw [LD (n:=t.aj.length) (He t) false (some true) ?_ (by simp [Uu])]
  ·cases(List.range t.aj.length).all (He t)<;>rfl
  ·intro i hi;unfold He;simp only [Uu,ZV,Int.ofNat_lt,hi,decide_true,if_true,Bb hi,Ab,bT (h.idx _ (List.getElem_mem hi)),Sn,hw,BM hi (by omega:t.aj.length≤_),List.getElem?_eq_getElem hi,Option.getD_some];by_cases h0:i=0
   ·subst h0;cases CI t.aj[0].ae 1<;>cases Dd t.aj[0].cy 1 ((t.ax.length:Int)-1)<;>cases Dd t.aj[0].bc 0 3<;>rfl
   ·have hp:(i:Int)>0:=by omega
    have Ir:i-1<t.aj.length:=by omega
    have hb:(i==0)=false:=by simpa using h0
    simp only [hp,decide_true,if_true,Wr (Nat.pos_of_ne_zero h0) (by omega:i≤2000000),Bb Ir,Ab,List.getElem?_eq_getElem Ir,Option.getD_some,hb,Bool.false_or,dQ];cases CI t.aj[i].ae 1<;>cases Dd t.aj[i].cy 1 ((t.ax.length:Int)-1)<;>cases Dd t.aj[i].bc 0 3<;>cases Op.bytesLess t.aj[i-1].ae t.aj[i].ae<;>rfl
 have hc:AN (fun s:Int=>Ux t s) 0=some (JB t.ax&&(List.range t.aj.length).all (He t)):=by
  rw [LD (n:=t.ax.length) (LZ t.ax) false (Zb t) ?_ (by simp [Ux])]
  ·unfold Zb JB;rw [hl];cases(List.range t.ax.length).all (LZ t.ax)<;>simp
  ·intro i hi;unfold Ux LZ;rw [if_pos (by simpa using hi),Bb hi,Ab,bT (h.ma _ (List.getElem_mem hi)),Ab,AG (by omega),NN,xI (by rw [List.length_take];omega),Ab,BM hi (by omega)];simp only [List.getElem?_eq_getElem hi,Option.getD_some];cases CI t.ax[i] 3<;>cases(t.ax.take i).contains t.ax[i]<;>rfl
 unfold OZ A9;rw [bT h.name,Ab,Sn,Ab,hc];by_cases hk:(t.aj.length:Int)≤3
 ·have Bz: ¬(t.aj.length:Int)>3:=by omega
  simp only [hk,Bz,decide_true,decide_false,Bool.or_false,Bool.and_true];cases CI t.ae 1<;>cases JB t.ax<;>cases Dd t.ax.length 2 4<;>simp
 ·have Bz:(t.aj.length:Int)>3:=by omega
  simp only [hk,Bz,decide_true,decide_false,Bool.or_true,Bool.and_false,Bool.false_and];cases CI t.ae 1<;>simp
theorem sX {t:Aj} {s:Ag} (h:Fi t):RU t s=some (Cd (fun x:AX=>x.ae==s) t.aj):=by have hn:=h.idxs;unfold RU;refine dB (fun x:AX=>x.ae==s) (fun i hi=> ?_) (by simp [ZC]);simp only [ZC,Int.ofNat_lt,hi,decide_true,if_true,Bb hi,Ab,BM hi (by omega:t.aj.length≤_)];cases t.aj[i].ae==s<;>rfl
theorem fG {t:Aj} {s:Ag} (h:Fi t):Rv t s=some (Cd (fun x:AX=>x.ae==s) t.aj):=by have hn:=h.idxs;have e:FH t.aj (fun y0_=>Y7 y0_ s)=some (Cd (fun x:AX=>x.ae==s) t.aj):=lO (fun x:AX=>x.ae==s) (fun x _=>rfl) (by omega);simp only [Rv,e,Ab]
def AM (c:UInt8):Ag→List Ag
 | []=> [[]]
 |b::s=>if b=c then []::AM c s else(match AM c s with| []=> [[b]]|x::xs=>(b::x)::xs)
theorem VZ (c:UInt8) (s:Ag):AM c s≠ []:=by
 cases s with
 |nil=>simp [AM]
 |cons b s=>simp only [AM];split;simp;split<;>simp
theorem Jo {c:UInt8}: ∀{s:Ag},(∀b∈s,b≠c)→AM c s= [s]
 | [],_=>rfl
 |b::s,h=>by have e:=Jo (c:=c) (s:=s) fun x hx=>h x (List.mem_cons_of_mem _ hx);simp only [AM,if_neg (h b (by simp)),e]
theorem FV {c:UInt8}: ∀{p q:Ag},(∀b∈p,b≠c)→AM c (p++c::q)=p::AM c q
 | [],q,_=>by simp [AM]
 |b::p,q,h=>by have e:=FV (c:=c) (p:=p) (q:=q) fun x hx=>h x (List.mem_cons_of_mem _ hx);simp only [List.cons_append,AM,if_neg (h b (by simp)),e]
theorem VE (c:UInt8) (s:Ag):(AM c s).length=s.count c+1:=by
 induction s with
 |nil=>rfl
 |cons b s ih=>
  simp only [AM];by_cases h:b=c
  ·subst h;simp [ih]
  ·rw [if_neg h,List.count_cons_of_ne h];cases hs:AM c s with
   |nil=>exact absurd hs (VZ c s)
   |cons x xs=>rw [hs]at ih;simpa using ih
theorem MV {α:Type} (xs:List α) (i j:Nat):AR xs (i:Int) (j:Int)=(xs.take j).drop i:=by simp [AR]
def T4 (c:UInt8) (s:Ag) (t:List Ag × Nat) (i:Nat):List Ag × Nat:=if(s[i]?).getD 0=c then(t.1++ [(s.take i).drop t.2],i+1)else t
theorem Sp {s:Ag} {c:UInt8} (h:s.length≤2000000):HW s c.toNat=some (AM c s):=by
 have h1:=En (xs:=List.range s.length) (body:=fun t:List Ag × Int × Int=>Pb s c.toNat t.1 t.2.1 t.2.2) (fun i (t:List Ag × Nat)=>(t.1,(t.2:Int),i)) (T4 c s) (fun t=>Zv s t.2 t.1)
  (fun i t=>t.2≤i∧(∀b∈(s.take i).drop t.2,b≠c)∧t.1++AM c (s.drop t.2)=AM c s∧t.1.length≤i)
  (fun i hi t hI=>by
   rw [List.length_range]at hi;obtain⟨I1,I2,I3,I4⟩:=hI;have hw:=BM hi (by omega:s.length≤_);rw [List.getElem_range];constructor
   ·show Pb s c.toNat t.1 t.2 i=_;unfold Pb T4;rw [if_pos (by simpa using hi),Bb hi,Ab,iO,hw,MV,List.getElem?_eq_getElem hi,Option.getD_some];by_cases hc:s[i]=c
    ·have hr:((t.1.length:Int)+(([(s.take i).drop t.2]:List Ag).length:Int))*16≤140737488355328∧(t.1.length:Int)+(([(s.take i).drop t.2]:List Ag).length:Int)≤140737488355328:=by
      rw [Aw];omega
     rw [if_pos (by simpa using hc),AG (by omega),AG hr,if_pos hc]
    ·rw [if_neg (by simpa using hc),if_neg hc]
   ·unfold T4;rw [List.getElem?_eq_getElem hi,Option.getD_some];have BX:s.take (i+1)=s.take i++ [s[i]]:=by rw [List.take_succ_eq_append_getElem hi]
    have hd:(s.take (i+1)).drop t.2=(s.take i).drop t.2++ [s[i]]:=by rw [BX,List.drop_append_of_le_length (by rw [List.length_take];omega)]
    by_cases hc:s[i]=c
    ·rw [if_pos hc];refine⟨Nat.le_refl _,by simp, ?_,by simp;omega⟩;have e:s.drop t.2=(s.take i).drop t.2++c::s.drop (i+1):=by
      have e0:s.drop t.2=(s.take i).drop t.2++s.drop i:=by
       conv=>lhs;rw [←List.take_append_drop i s]
       rw [List.drop_append_of_le_length (by rw [List.length_take];omega)]
      rw [e0,List.drop_eq_getElem_cons hi,hc]
     rw [e,FV I2]at I3;simpa using I3
    ·rw [if_neg hc];refine⟨by omega, ?_,I3,by omega⟩;rw [hd];intro b hb;rcases Ah.1 hb with hb|hb
     ·exact I2 b hb
     ·simp at hb;subst hb;exact hc)
  (fun t hI=>by show Pb s c.toNat t.1 t.2 ((List.range s.length).length:Nat)=_;unfold Pb;rw [if_neg (by simp)]) (s:=([],0)) ⟨Nat.le_refl _,by simp,by simp,by simp⟩
 generalize (List.range s.length).foldl (T4 c s) ([],0)=t at h1;rw [List.length_range]at h1;obtain⟨h2,I1,I2,I3,I4⟩:=h1;unfold HW;refine Eq.trans h2 ?_;unfold Zv;have hw:AR s (t.2:Int) (s.length:Int)=s.drop t.2:=by rw [MV,List.take_length]
 have hr:((t.1.length:Int)+(([s.drop t.2]:List Ag).length:Int))*16≤140737488355328∧(t.1.length:Int)+(([s.drop t.2]:List Ag).length:Int)≤140737488355328:=by rw [Aw];omega
 rw [hw,AG (by omega),AG hr,←I3];rw [List.take_length]at I2;rw [Jo I2]
theorem Ph (l:Ag) (c:UInt8):(Lib.indexByte l c= -1∧ ∀b∈l,b≠c)∨ ∃p q:Ag,l=p++c::q∧(∀b∈p,b≠c)∧Lib.indexByte l c=p.length:=by
 induction l with
 |nil=>exact .inl ⟨rfl,by simp⟩
 |cons b l ih=>
  unfold Lib.indexByte;by_cases hb:b=c
  ·subst hb;exact .inr ⟨[],l,by simp,by simp,by simp⟩
  ·have h1:(b==c)=false:=by simpa using hb
   rw [h1];simp only [BH,if_false];rcases ih with⟨e,h⟩|⟨p,q,rfl,h,e⟩
   ·refine .inl ⟨by simp [e],fun x hx=> ?_⟩;rcases Ae.1 hx with rfl|hx
    ·exact hb
    ·exact h x hx
   ·refine .inr ⟨b::p,q,by simp,fun x hx=> ?_, ?_⟩
    ·rcases Ae.1 hx with rfl|hx
     ·exact hb
     ·exact h x hx
    ·rw [e];have:((p.length:Int)== -1)=false:=by rw [beq_eq_false_iff_ne];omega
     rw [this];simp
theorem nR {c:UInt8} {s:Ag} (h: ∀b∈s,b≠c):s.count c=0:=List.count_eq_zero.2 fun hc=>h c hc rfl
theorem zyW {c:UInt8} {p q:Ag} (h: ∀b∈p,b≠c):(p++c::q).count c=q.count c+1:=by rw [List.count_append,nR h,List.count_cons_self];omega
theorem oE {α:Type} {a:List α} {i:Nat} (x:α) (h:i<a.length):(a.set i x).take (i+1)=a.take i++ [x]:=by rw [List.take_succ_eq_append_getElem (by simpa using h),List.getElem_set_self,List.take_set,List.set_eq_of_length_le (by rw [List.length_take];omega)]
theorem yQ {a b:Int} (h: ¬a<b):(bif decide (a<b)then a else b)=b:=by simp [h]
theorem dE {s:Ag} {c:UInt8} (h:s.length≤2000000):M9 s [c]=some (AM c s):=by
 have Ay:s.count c≤s.length:=List.count_le_length;have GZ:IntKind.i64.wrap ((s.count c:Int)+1)=(s.count c:Int)+1:=B3 (by omega) (by omega);have IH:IntKind.i64.wrap ((s.length:Int)+1)=(s.length:Int)+1:=B3 (by omega) (by omega);have Mj:(bif decide ((s.length:Int)+1<(s.count c:Int)+1)then(s.length:Int)+1 else(s.count c:Int)+1)=(s.count c:Int)+1:=yQ (by omega);have iC:IntKind.i64.wrap ((s.count c:Int)+1-1)=(s.count c:Int):=by rw [B3 (by omega) (by omega)];omega
 have key: ∀(n:Nat) (r:Ag) (a:List Ag) (i:Nat),r.count c=n→r.length≤s.length→a.length=s.count c+1→i+n=s.count c→a.take i++AM c r=AM c s→
   AN (fun t:Ag × Int × List Ag=>OP s [c] 0 ((s.count c:Int)+1) t.1 t.2.1 t.2.2) (r,(i:Int),a)=some (AM c s):=by
  intro n
  induction n with
  |zero=>
   intro r a i hr hl ha hi hI;have GU: ∀b∈r,b≠c:=fun b hb e=>by subst e;exact List.count_eq_zero.1 hr hb
   have Mx:i<a.length:=by omega
   have Yv:=BM Mx (by omega);have hb:OP s [c] 0 ((s.count c:Int)+1) r i a=some (.inr (some (AM c s))):=by unfold OP;rw [IH,Mj,iC,if_neg (by simp;omega)];unfold Zg;rw [Bb Mx,Ab,Yv,Int.toNat_natCast,AG (by rw [List.length_set];omega),NN,oE r Mx,←hI,Jo GU]
   rw [G4];dsimp only;rw [hb]
  |succ n ih=>
   intro r a i hr hl ha hi hI;rcases Ph r c with⟨_,h0⟩|⟨p,q,rfl,hp,hx⟩
   ·rw [nR h0]at hr;omega
   ·rw [zyW hp]at hr;have Mx:i<a.length:=by omega
    have Yv:=BM Mx (by omega);simp only [Ak,Am]at hl;have Kg:IntKind.i64.wrap ((p.length:Int)+0)=(p.length:Int):=by rw [B3 (by omega) (by omega)];omega
    have Ek:IntKind.i64.wrap ((p.length:Int)+(([c]:Ag).length:Int))=((p.length+1:Nat):Int):=by rw [Aw,B3 (by omega) (by omega)];omega
    have hb:OP s [c] 0 ((s.count c:Int)+1) (p++c::q) i a=some (.inl (q,((i+1:Nat):Int),a.set i p)):=by
     unfold OP;have Is:US (p++c::q) [c]=some (p.length:Int):=by simp [US,OA,hx]
     rw [IH,Mj,iC,if_pos (by simp;omega),Is,Ab,if_neg (by simp),Kg,AG (by rw [Ak];omega),Bb Mx,Ab,Ek,AG (by rw [Ak,Am];omega),Yv,Int.toNat_natCast,MV,NN,List.take_length];have e1:(p++c::q).drop (p.length+1)=q:=by simp
     have e2:(p++c::q).take p.length=p:=by simp
     rw [e1,e2]
    rw [G4];dsimp only;rw [hb];refine ih q (a.set i p) (i+1) (by omega) (by omega) (by simpa using ha) (by omega) ?_;rw [oE p Mx,←hI,FV hp];simp
 have BE:UP s [c]=some ((s.count c:Nat):Int):=rfl;have hz:(((-1:Int))==0)=false:=rfl;have Bt:(([c]:Ag)==([]:Ag))=false:=rfl;unfold M9 ZA;rw [hz,Bt,if_neg (by simp),if_neg (by simp),if_pos (by simp),BE,Ab,GZ];unfold Zh;rw [IH,Mj,AG (by omega)];exact zzD (key (s.count c) s (List.replicate ((s.count c:Int)+1).toNat []) 0 rfl (Nat.le_refl _) (by simp) (by omega) (by simp))
def field (s:Ag):Bool:=Dd s.length 1 3&&IY s []
theorem LJ {s:Ag} (h:s.length≤2000000):Kl s=some (field s):=by simp only [Kl,SS,Ab,cA h (more:= []) (by decide),field];cases Dd s.length 1 3<;>simp
theorem Kv {s:Ag} (h:s.length≤2000000):Kn s=some (field s):=by simp only [Kn,Sn,Ab,bN h,field];cases Dd s.length 1 3<;>simp
theorem zvP (sep x y:Ag) (r:List Ag):Lib.join (x::(r++ [y])) sep=Lib.join (x::r) sep++sep++y:=by rw [Lib.join_cons,Lib.join_cons];simp [Lib.joinTail]
theorem zws {xs:List Ag} {sep:Ag} {i:Nat} (hi:i<xs.length):Lib.join (xs.take (i+1)) sep=if i=0 then xs[i]else Lib.join (xs.take i) sep++sep++xs[i]:=by
 rw [List.take_succ_eq_append_getElem hi];cases xs with
 |nil=>simp at hi
 |cons x xs=>
  cases i with
  |zero=>simp [Lib.join_cons,Lib.joinTail]
  |succ i=>rw [List.take_succ_cons,List.cons_append,zvP,if_neg (by omega)]
def Dz:List Ag→Nat
 | []=>0
 |x::xs=>x.length+Dz xs
theorem PE (xs:List Ag) (sep:Ag):(Lib.join xs sep).length≤Dz xs+xs.length*sep.length:=by
 cases xs with
 |nil=>simp [Lib.join_nil]
 |cons x xs=>
  rw [Lib.join_cons,Ak];have: ∀r:List Ag,(Lib.joinTail sep r).length=Dz r+r.length*sep.length:=by
   intro r
   induction r with
   |nil=>simp [Lib.joinTail,Dz]
   |cons y r ih=>
    have e:Lib.joinTail sep (y::r)=sep++y++Lib.joinTail sep r:=by simp [Lib.joinTail]
    rw [e,Ak,Ak,ih,Dz,Am,Nat.succ_mul];omega
  rw [this,Dz,Am,Nat.succ_mul];omega
theorem ztE (xs:List Ag) (i:Nat):Dz (xs.take i)≤Dz xs:=by
 induction xs generalizing i with
 |nil=>simp [Dz]
 |cons x xs ih=>
  cases i with
  |zero=>simp [Dz]
  |succ i=>simp only [List.take_succ_cons,Dz];have:=ih i;omega
theorem bS {xs:List Ag} {i:Nat} (hi:i<xs.length):xs[i].length≤Dz xs:=by
 induction xs generalizing i with
 |nil=>simp at hi
 |cons x xs ih=>
  cases i with
  |zero=>simp [Dz]
  |succ i=>simp only [List.getElem_cons_succ,Dz];have:=ih (i:=i) (by simpa using hi);omega
def Small (xs:List Ag):Prop:=xs.length≤2000000∧Dz xs≤2000000
theorem SA {xs:List Ag} {c:UInt8} (h:Small xs):RM xs [c]=some (Lib.join xs [c]):=by
 obtain⟨h1,h2⟩:=h;have hl:=En (xs:=List.range xs.length) (body:=fun s:Ag × Int=>OU xs [c] s.1 s.2) (fun i (o:Ag)=>(o,i)) (fun o i=>if i=0 then(xs[i]?).getD []else o++ [c]++(xs[i]?).getD []) (fun o=>some o) (fun i o=>o=Lib.join (xs.take i) [c])
  (fun i hi o hI=>by
   rw [List.length_range]at hi;rw [List.getElem_range];have hI:o=Lib.join (xs.take i) [c]:=hI;have hlen:o.length≤1010000000:=by have e1:=PE (xs.take i) [c];have e2:=ztE xs i;rw [List.length_take,Aw,Nat.mul_one]at e1;rw [hI];omega
   have hg:=bS hi;have hw:=BM hi (by omega:xs.length≤_);rw [List.getElem?_eq_getElem hi,Option.getD_some];refine⟨?_,by show _=_;rw [zws hi,hI]⟩;show OU xs [c] o i=_;unfold OU;rw [if_pos (by simpa using hi),Bb hi,Ab,hw];by_cases h0:i=0
   ·subst h0;have ho:o= []:=by rw [hI];rfl
    subst ho;rw [if_neg (by simp),AG (by simp;omega),if_pos rfl];rfl
   ·rw [if_pos (by simp;omega),AG (by rw [Aw];omega),AG (by rw [Ak,Aw];omega),if_neg h0])
  (fun o _=>by show OU xs [c] o ((List.range xs.length).length:Nat)=_;unfold OU;rw [if_neg (by simp)]) (s:= []) (by simp [Lib.join_nil])
 generalize (List.range xs.length).foldl (fun o i=>if i=0 then(xs[i]?).getD []else o++ [c]++(xs[i]?).getD []) []=o at hl;obtain⟨h3,h4⟩:=hl;have h4:o=Lib.join (xs.take (List.range xs.length).length) [c]:=h4;rw [List.length_range,List.take_length]at h4;subst h4;exact h3
theorem Ss {xs:List Ag} {c:UInt8} (h:Small xs):Pc xs [c]=some (Lib.join xs [c]):=by obtain⟨h1,h2⟩:=h;have:=PE xs [c];rw [Aw,Nat.mul_one]at this;exact AG ⟨by omega,by omega⟩
theorem Small.each {xs:List Ag} (h:Small xs): ∀x∈xs,x.length≤2000000:=by intro x hx;obtain⟨i,hi,rfl⟩:=List.getElem_of_mem hx;exact Nat.le_trans (bS hi) h.2
def BD (t:Aj) (r:An):Bool:=((r.ah.length:Int)==t.ax.length)&&r.ah.all field
theorem R5 {t:Aj} {r:An} (h:Small r.ah):Ly t r=some (BD t r):=by
 have h1:=h.1;unfold Ly;rw [Nl (xs:=r.ah) field false (Zx t r) (fun i hi=>by simp only [Zw,Int.ofNat_lt,hi,decide_true,if_true,Bb hi,Ab,LJ (h.each _ (List.getElem_mem hi)),BM hi (by omega:r.ah.length≤_)];cases field r.ah[i]<;>rfl) (by simp [Zw])]
 unfold Zx BD;cases r.ah.all field<;>simp
theorem R4 {t:Aj} {r:An} (h:Small r.ah):Lu t r=some (BD t r):=by have e:IQ r.ah (fun y0_=>Ul y0_)=some (r.ah.any fun s=> !field s):=eF _ (fun s hs=>by simp [Ul,Kv (h.each s hs)]) (by have:=h.1;omega);simp only [Lu,e,Ab,BD,←List.not_all_eq_any_not];cases((r.ah.length:Int)==t.ax.length)<;>simp
def BO (t:Aj) (r:An):Ac:=⟨t.ae++ [47]++(r.ah.head?).getD [],Lib.join r.ah.tail [44],false⟩
theorem YU {α:Type} (xs:List α):AR xs 1 (xs.length:Int)=xs.tail:=by simp [AR]
theorem Small.tail {xs:List Ag} (h:Small xs):Small xs.tail:=by
 cases xs with
 |nil=>exact h
 |cons x xs=>exact⟨by have:=h.1;simp at this ⊢;omega,by have:=h.2;simp only [Dz,List.tail_cons]at this ⊢;omega⟩
theorem SD {t:Aj} {r:An} (ht:t.ae.length≤2000000) (h:Small r.ah) (hn:r.ah≠ []):Lv t r=some (BO t r):=by obtain⟨x,xs,hx⟩:=List.exists_cons_of_ne_nil hn;have Ki:x.length≤2000000:=h.each x (by simp [hx]);unfold Lv BO;rw [AG (by rw [Aw];omega),YU,SA h.tail,hx];rw [show getI (x::xs) 0=some x from rfl,Ab,AG (by rw [Ak,Aw];omega),AG (by simp only [Am];omega),Ab];rfl
theorem Sx {t:Aj} {r:An} (ht:t.ae.length≤2000000) (h:Small r.ah) (hn:r.ah≠ []):ON t r=some (BO t r):=by obtain⟨x,xs,hx⟩:=List.exists_cons_of_ne_nil hn;have Ki:x.length≤2000000:=h.each x (by simp [hx]);unfold ON BO;rw [AG (by rw [Aw];omega),YU,Ss h.tail,hx];rw [show getI (x::xs) 0=some x from rfl,Ab,AG (by rw [Ak,Aw];omega),AG (by simp only [Am];omega),Ab];rfl
theorem aG (c:UInt8) (s:Ag):Dz (AM c s)≤s.length:=by
 induction s with
 |nil=>simp [AM,Dz]
 |cons b s ih=>
  simp only [AM];split
  ·simp only [Dz,List.length_nil,Am];omega
  ·cases hs:AM c s with
   |nil=>exact absurd hs (VZ c s)
   |cons x xs=>rw [hs]at ih;simp only [Dz,Am]at ih ⊢;omega
theorem HY {c:UInt8} {s:Ag} (h:s.length≤1000000):Small (AM c s):=by have h1:=VE c s;have h2:s.count c≤s.length:=List.count_le_length;have h3:=aG c s;exact⟨by omega,by omega⟩
theorem fP {s p:Ag} (hs:s.length≤2000000):RA s p=some (if p.isPrefixOf s=true then(s.drop p.length,true)else(s,false)):=by
 have e:T8 s p=some (p.isPrefixOf s):=by
  unfold T8;by_cases hl:p.length≤s.length
  ·rw [if_pos (by simpa using hl),AG (by omega),NN];congr 1;rw [Bool.eq_iff_iff,beq_iff_eq,List.isPrefixOf_iff_prefix,List.prefix_iff_eq_take];exact eq_comm
  ·rw [if_neg (by simpa using hl)];congr 1;symm;rw [←Bool.not_eq_true,List.isPrefixOf_iff_prefix];intro h;exact hl h.length_le
 unfold RA YY;rw [e,Ab];cases hp:p.isPrefixOf s with
 |false=>simp
 |true=>have hl:=(List.isPrefixOf_iff_prefix.1 hp).length_le;simp only [Bool.not_true,BH,if_false,if_true];rw [AG (by omega),MV,List.take_length];rfl
def JD (a b:Ac):Bool:=a.ab==b.ab&&(a.aw==b.aw&&(a.a8==b.a8))
theorem zvg (a b:Ac):JD a b=JD b a:=by unfold JD;rw [show(a.ab==b.ab)=(b.ab==a.ab)from BEq.comm,show(a.aw==b.aw)=(b.aw==a.aw)from BEq.comm,show(a.a8==b.a8)=(b.a8==a.a8)from BEq.comm]
theorem zww {a b:Ac} (h:JD a b=true):a.ab=b.ab:=by unfold JD at h;simp only [Ad,beq_iff_eq]at h;exact h.1
def Dc (w:Ac):An:=⟨w.ab.drop 2::AM 44 w.aw⟩
def Ed (t:Aj) (w:Ac):Bool:=BD t (Dc w)&&JD (BO t (Dc w)) w
def HF (w:Ac):Prop:=w.ab.length≤1000∧w.aw.length≤1000
theorem aU {w:Ac} (h:HF w):Small (Dc w).ah:=by
 have h1:=VE 44 w.aw;have h2:w.aw.count 44≤w.aw.length:=List.count_le_length;have h3:=aG 44 w.aw;obtain⟨k,v⟩:=h;refine⟨?_, ?_⟩
 ·show(w.ab.drop 2::AM 44 w.aw).length≤_;rw [Am];omega
 ·show Dz (w.ab.drop 2::AM 44 w.aw)≤_;rw [Dz,List.length_drop];omega
theorem zwC {t:Aj} {w:Ac} (h:BD t (Dc w)=true):3≤w.ab.length:=by unfold BD Dc at h;simp only [Ad,List.all_cons,field,ES,List.length_drop]at h;omega
theorem zzS {t:Aj} {w:Ac} (ht:t.ae.length≤2000000) (h:HF w): ∃r,U7 t w=some (r,Ed t w)∧(Ed t w=true→r=Dc w):=by
 have hs:=aU h;have Ka:=VE 44 w.aw;have Mn:w.aw.count 44≤w.aw.length:=List.count_le_length;obtain⟨hk,hv⟩:=h;unfold U7;by_cases h3:w.ab.length<3
 ·rw [if_pos (by simp;omega)];have:Ed t w=false:=by
   unfold Ed;cases hg:BD t (Dc w)with
   |false=>rfl
   |true=>have:=zwC hg;omega
  exact⟨_,by rw [this],by rw [this];intro h;cases h⟩
 ·have hw:AR w.ab 2 (w.ab.length:Int)=w.ab.drop 2:=by
   have:=MV w.ab 2 w.ab.length;rw [List.take_length]at this;exact this
  have Gs:HW w.aw 44=some (AM 44 w.aw):=Sp (c:=44) (by omega);have hr:(([w.ab.drop 2]:List Ag).length+(AM 44 w.aw).length:Int)*16≤140737488355328∧(([w.ab.drop 2]:List Ag).length:Int)+(AM 44 w.aw).length≤140737488355328:=by rw [Aw];omega
  rw [if_neg (by simp;omega),AG (by omega),Gs,Ab,hw,AG hr];rw [show(⟨[w.ab.drop 2]++AM 44 w.aw⟩:An)=Dc w from rfl,R5 hs,Ab];unfold Ed;cases hg:BD t (Dc w)with
  |false=>exact⟨_,by rw [if_neg (by simp)];rfl,by simp⟩
  |true=>rw [if_pos rfl,SD ht hs (by simp [Dc]),Ab];exact⟨Dc w,by rw [Bool.true_and];rfl,fun _=>rfl⟩
theorem xX {t:Aj} {w:Ac} (ht:t.ae.length=1) (h:HF w): ∃r,Uh t w=some (r,Ed t w)∧(Ed t w=true→r=Dc w):=by
 have hs:=aU h;have Ka:=VE 44 w.aw;have Mn:w.aw.count 44≤w.aw.length:=List.count_le_length;obtain⟨hk,hv⟩:=h;unfold Uh;have Gs:M9 w.aw [44]=some (AM 44 w.aw):=dE (by omega);rw [AG (by rw [Aw];omega),fP (by omega),Ab,Gs,Ab];have hr: ∀x:Ag,(([x]:List Ag).length+(AM 44 w.aw).length:Int)*16≤140737488355328∧(([x]:List Ag).length:Int)+(AM 44 w.aw).length≤140737488355328:=by intro x;rw [Aw];omega
 rw [AG (hr _)];cases hp:(t.ae++ [47]).isPrefixOf w.ab with
 |false=>
  have Dp:Ed t w=false:=by
   unfold Ed;cases hw:JD (BO t (Dc w)) w with
   |false=>simp
   |true=>have XN:=zww hw;rw [←Bool.not_eq_true,List.isPrefixOf_iff_prefix]at hp;exact absurd ⟨_,XN⟩ hp
  rw [Dp];exact⟨_,by rw [if_neg (by simp)],by simp⟩
 |true=>
  have hl:(t.ae++ [47]).length=2:=by rw [Ak,ht];rfl
  simp only [if_true,hl];rw [show(⟨[w.ab.drop 2]++AM 44 w.aw⟩:An)=Dc w from rfl,R4 hs,Ab];unfold Ed;cases hg:BD t (Dc w)with
  |false=>exact⟨_,by rw [if_neg (by simp)];rfl,by simp⟩
  |true=>
   rw [if_pos rfl,Sx (by omega) hs (by simp [Dc]),Ab];rw [show(w.ab==(BO t (Dc w)).ab&&(w.aw==(BO t (Dc w)).aw&&w.a8==(BO t (Dc w)).a8))=JD w (BO t (Dc w))from rfl,zvg];cases JD (BO t (Dc w)) w with
   |false=>exact⟨_,by rw [if_pos (by simp)];rfl,by simp⟩
   |true=>exact⟨_,by rw [if_neg (by simp)];rfl,fun _=>rfl⟩
theorem Nh {α β:Type} (p:α→Bool) (f:α→β) (l:List α) (o:List β):l.foldl (fun o x=>if p x=true then o++ [f x]else o) o=o++(l.filter p).map f:=by
 induction l generalizing o with
 |nil=>simp
 |cons x l ih=>rw [List.foldl_cons,ih,List.filter_cons];cases p x<;>simp
def rows (t:Aj) (l:List Ac):List An:=(l.filter (Ed t)).map Dc
theorem dY {t:Aj} {l:List Ac} (ht:t.ae.length≤2000000) (hl:l.length≤2000000) (h: ∀w∈l,HF w):RH t l=some (rows t l):=by
 have h1:=En (xs:=l) (body:=fun s:List An × Int=>Pa t l s.1 s.2) (fun i (o:List An)=>(o,i)) (fun o w=>if Ed t w=true then o++ [Dc w]else o) (fun o=>some o) (fun i o=>o.length≤i)
  (fun i hi o hI=>by
   have hI:o.length≤i:=hI;obtain⟨r,e,hr⟩:=zzS ht (h _ (List.getElem_mem hi));have hw:=BM hi (by omega:l.length≤_);refine⟨?_,by
    show List.length (if Ed t l[i]=true then o++ [Dc l[i]]else o)≤i+1;split
    ·rw [Ak,Aw];omega
    ·omega⟩
   show Pa t l o i=_;unfold Pa;rw [if_pos (by simpa using hi),Bb hi,Ab,e,Ab,hw];cases hb:Ed t l[i]with
   |false=>rfl
   |true=>
    have hq:((o.length:Int)+(([r]:List An).length:Int))*24≤140737488355328∧(o.length:Int)+(([r]:List An).length:Int)≤140737488355328:=by rw [Aw];omega
    rw [if_pos rfl,AG hq,if_pos rfl,hr hb])
  (fun o _=>by show Pa t l o l.length=_;unfold Pa;rw [if_neg (by simp)]) (s:= []) (by simp)
 rw [Nh]at h1;exact h1.1
theorem zym {t:Aj} {l:List Ac} (ht:t.ae.length=1) (hl:l.length≤2000000) (h: ∀w∈l,HF w):Zf t l=some (rows t l):=by
 have h1:=En (xs:=l) (body:=fun s:Int × List An=>OE t l s.1 s.2) (fun i (o:List An)=>(i,o)) (fun o w=>if Ed t w=true then o++ [Dc w]else o) (fun o=>some o) (fun i o=>o.length≤i)
  (fun i hi o hI=>by
   have hI:o.length≤i:=hI;obtain⟨r,e,hr⟩:=xX ht (h _ (List.getElem_mem hi));have hw:=BM hi (by omega:l.length≤_);refine⟨?_,by
    show List.length (if Ed t l[i]=true then o++ [Dc l[i]]else o)≤i+1;split
    ·rw [Ak,Aw];omega
    ·omega⟩
   show OE t l i o=_;unfold OE;rw [if_pos (by simpa using hi),Bb hi,Ab,e,Ab,hw];cases hb:Ed t l[i]with
   |false=>rfl
   |true=>
    have hq:((o.length:Int)+(([r]:List An).length:Int))*24≤140737488355328∧(o.length:Int)+(([r]:List An).length:Int)≤140737488355328:=by rw [Aw];omega
    rw [if_pos rfl,AG hq,if_pos rfl,hr hb])
  (fun o _=>by show OE t l l.length o=_;unfold OE;rw [if_neg (by simp)]) (s:= []) (by simp)
 rw [Nh]at h1;exact h1.1
def head (t:Aj) (n:Ag):Ag:=t.ae++ [46]++n
def EU (t:Aj) (n k:Ag):Bool:=match AM 47 k with
 | [x,y,z]=>x==head t n&&field y&&field z
 |_=>false
theorem zyf {t:Aj} {n k:Ag} (ht:t.ae.length≤2000000) (hn:n.length≤2000000) (hk:k.length≤1000000): ∃a b,M5 t n k=some (a,b,EU t n k):=by
 have IC:=HY (c:=47) hk;have he:HW k 47=some (AM 47 k):=Sp (c:=47) (by omega);unfold M5 EU;rw [he,Ab];generalize AM 47 k=ps at IC
 match ps,IC with
 | [],_=>exact⟨_,_,by rw [if_pos (by simp)]⟩
 | [_],_=>exact⟨_,_,by rw [if_pos (by simp)]⟩
 | [_,_],_=>exact⟨_,_,by rw [if_pos (by simp)]⟩
 |_::_::_::_::l,_=>exact⟨_,_,by rw [if_pos (by simp;omega)]⟩
 | [x,y,z],IC=>
  have hy:=IC.each y (by simp);have hz:=IC.each z (by simp);dsimp only;rw [if_neg (by simp),show getI [x,y,z] 0=some x from rfl,Ab,AG (by rw [Aw];omega),AG (by rw [Ak,Aw];omega)];rw [show(t.ae++ [46]++n)=head t n from rfl];by_cases hx:x=head t n
  ·rw [if_neg (by simp [hx]),show getI [x,y,z] 1=some y from rfl,Ab,LJ hy,Ab];have Of:(x==head t n)=true:=by simpa using hx
   rw [Of];cases field y with
   |false=>exact⟨_,_,by rw [if_neg (by simp)];rfl⟩
   |true=>
    rw [if_pos rfl,show getI [x,y,z] 2=some z from rfl,Ab,LJ hz,Ab];cases field z with
    |false=>exact⟨_,_,by rw [if_pos (by simp)];rfl⟩
    |true=>exact⟨_,_,by rw [if_neg (by simp)];rfl⟩
  ·have Of:(x==head t n)=false:=by simpa using hx
   rw [Of];exact⟨_,_,by rw [if_pos (by simpa [bne]using Of)];rfl⟩
theorem zu5 {c:UInt8} {s x y:Ag} {r:List Ag} (h:AM c s=x::y::r): ∃q,s=x++c::q:=by
 rcases Ph s c with⟨_,h0⟩|⟨p,q,rfl,hp,_⟩
 ·rw [Jo h0]at h;simp at h
 ·rw [FV hp]at h;obtain⟨rfl,_⟩:=List.cons.inj h;exact⟨q,rfl⟩
theorem fL {x:Ag} {c:UInt8} (hx:x.length≤2000000):(Pj x [c]=some (x, [],false)∧ ∀b∈x,b≠c)∨ ∃p q,x=p++c::q∧(∀b∈p,b≠c)∧Pj x [c]=some (p,q,true):=by
 have hi:OA x [c]=some (Lib.indexByte x c):=rfl;rcases Ph x c with⟨e,h0⟩|⟨p,q,rfl,hp,e⟩
 ·refine .inl ⟨?_,h0⟩;unfold Pj Uc;rw [hi,Ab,e,if_neg (by simp)];rfl
 ·refine .inr ⟨p,q,rfl,hp, ?_⟩;rw [Ak,Am]at hx;have hw:IntKind.i64.wrap ((p.length:Int)+(([c]:Ag).length:Int))=((p.length+1:Nat):Int):=by rw [Aw,B3 (by omega) (by omega)];omega
  unfold Pj Uc;rw [hi,Ab,e,if_pos (by simp),AG (by rw [Ak,Am];omega),hw,AG (by rw [Ak,Am];omega),NN,MV,List.take_length];have e1:(p++c::q).drop (p.length+1)=q:=by simp
  have e2:(p++c::q).take p.length=p:=by simp
  rw [e1,e2];rfl
theorem zyS {s:Ag} (h:(47:UInt8)∈s):field s=false:=by
 unfold field IY;have:(s.all fun b=>Ep b||([]:Ag).contains b)=false:=by rw [List.all_eq_false];exact⟨47,h,by decide⟩
 rw [this,Bool.and_false]
theorem eO {t:Aj} {n:Ag} (ht:t.ae.length≤2000000) (hn:n.length≤2000000):Ru t n=some (head t n++ [47]):=by unfold Ru head;rw [AG (by rw [Aw];omega),AG (by rw [Ak,Aw];omega),AG (by rw [Ak,Ak,Aw,Aw];omega)]
theorem zyw {t:Aj} {n k:Ag} (ht:t.ae.length≤2000000) (hn:n.length≤2000000) (hk:k.length≤1000000) (hh: ∀b∈head t n,b≠47): ∃a b,MX t n k=some (a,b,EU t n k):=by
 unfold MX;rw [eO ht hn,Ab,fP (by omega),Ab];cases hp:(head t n++ [47]).isPrefixOf k with
 |false=>
  have Dp:EU t n k=false:=by
   unfold EU;split
   ·rename_i x y z hs;cases hx:x==head t n with
    |false=>simp
    |true=>obtain⟨q,hq⟩:=zu5 hs;rw [←Bool.not_eq_true,List.isPrefixOf_iff_prefix]at hp;refine absurd ⟨q, ?_⟩ hp;rw [hq,(by simpa using hx:x=head t n)];simp
   ·rfl
  rw [Dp];simp only [BH,if_false];rcases fL (x:=k) (c:=47) (by omega)with⟨e,_⟩|⟨p,q,_,_,e⟩
  ·rw [e];exact⟨_,_,rfl⟩
  ·rw [e];exact⟨_,_,rfl⟩
 |true=>
  obtain⟨rest,CN⟩:=List.isPrefixOf_iff_prefix.1 hp;have N7:k=head t n++47::rest:=by rw [←CN];simp
  have hd:k.drop (head t n++ [47]).length=rest:=by rw [←CN,List.drop_left]
  have Ka:AM 47 k=head t n::AM 47 rest:=by rw [N7,FV hh]
  have hlen:rest.length≤1000000:=by
   have:k.length=(head t n).length+(rest.length+1):=by rw [N7,Ak,Am]
   omega
  simp only [if_true,hd];unfold EU;rw [Ka];rcases fL (x:=rest) (c:=47) (by omega)with⟨e,h0⟩|⟨p,q,rfl,Ob,e⟩
  ·rw [e,Jo h0];exact⟨_,_,rfl⟩
  ·rw [e,FV Ob,Ab];rw [Ak,Am]at hlen;simp only [if_true];rw [Kv (s:=p) (by omega),Ab];rcases Ph q 47 with⟨_,h0⟩|⟨p3,q3,rfl,vV,_⟩
   ·rw [Jo h0];dsimp only;rw [beq_self_eq_true,Bool.true_and];cases field p with
    |false=>exact⟨_,_,rfl⟩
    |true=>
     rw [if_pos rfl,Kv (s:=q) (by omega),Ab];cases field q with
     |false=>exact⟨_,_,rfl⟩
     |true=>exact⟨_,_,rfl⟩
   ·have hf:field (p3++47::q3)=false:=zyS (by simp);rw [FV vV];cases hq:AM 47 q3 with
    |nil=>exact absurd hq (VZ _ _)
    |cons x xs=>
     dsimp only;cases field p with
     |false=>exact⟨_,_,rfl⟩
     |true=>rw [if_pos rfl,Kv (by rw [Ak,Am]at hlen ⊢;omega),Ab,hf];exact⟨_,_,rfl⟩
def Dg (t:Aj) (n:Ag) (l:List Ac):List Ag:=(l.filter fun w=>EU t n w.ab).map (·.ab)
theorem zvd {t:Aj} {n:Ag} {l:List Ac} (ht:t.ae.length≤2000000) (hn:n.length≤2000000) (hl:l.length≤2000000) (h: ∀w∈l,HF w):Zq t n l=some (Dg t n l):=by
 have h1:=En (xs:=l) (body:=fun s:List Ag × Int=>OH t n l s.1 s.2) (fun i (o:List Ag)=>(o,i)) (fun o w=>if EU t n w.ab=true then o++ [w.ab]else o) (fun o=>some o) (fun i o=>o.length≤i)
  (fun i hi o hI=>by
   have hI:o.length≤i:=hI;have Yp:=h _ (List.getElem_mem hi);obtain⟨a,b,e⟩:=zyf (t:=t) (n:=n) (k:=l[i].ab) ht hn (by have:=Yp.1;omega);have hw:=BM hi (by omega:l.length≤_);refine⟨?_,by
    show List.length (if EU t n l[i].ab=true then o++ [l[i].ab]else o)≤i+1;split
    ·rw [Ak,Aw];omega
    ·omega⟩
   show OH t n l o i=_;unfold OH;rw [if_pos (by simpa using hi),Bb hi,Ab,e,Ab,hw];cases hb:EU t n l[i].ab with
   |false=>rfl
   |true=>
    have hq:((o.length:Int)+(([l[i].ab]:List Ag).length:Int))*16≤140737488355328∧(o.length:Int)+(([l[i].ab]:List Ag).length:Int)≤140737488355328:=by rw [Aw];omega
    rw [if_pos rfl,AG hq,if_pos rfl])
  (fun o _=>by show OH t n l o l.length=_;unfold OH;rw [if_neg (by simp)]) (s:= []) (by simp)
 rw [Nh (fun w:Ac=>EU t n w.ab) (fun w=>w.ab)]at h1;exact h1.1
theorem zu8 {t:Aj} {n:Ag} {l:List Ac} (ht:t.ae.length≤2000000) (hn:n.length≤2000000) (hh: ∀b∈head t n,b≠47) (hl:l.length≤2000000) (h: ∀w∈l,HF w):Y2 t n l=some (Dg t n l):=by
 have h1:=En (xs:=l) (body:=fun s:Int × List Ag=>OB t n l s.1 s.2) (fun i (o:List Ag)=>(i,o)) (fun o w=>if EU t n w.ab=true then o++ [w.ab]else o) (fun o=>some o) (fun i o=>o.length≤i)
  (fun i hi o hI=>by
   have hI:o.length≤i:=hI;have Yp:=h _ (List.getElem_mem hi);obtain⟨a,b,e⟩:=zyw (t:=t) (n:=n) (k:=l[i].ab) ht hn (by have:=Yp.1;omega) hh;have hw:=BM hi (by omega:l.length≤_);refine⟨?_,by
    show List.length (if EU t n l[i].ab=true then o++ [l[i].ab]else o)≤i+1;split
    ·rw [Ak,Aw];omega
    ·omega⟩
   show OB t n l i o=_;unfold OB;rw [if_pos (by simpa using hi),Bb hi,Ab,e,Ab,hw];cases hb:EU t n l[i].ab with
   |false=>rfl
   |true=>
    have hq:((o.length:Int)+(([l[i].ab]:List Ag).length:Int))*16≤140737488355328∧(o.length:Int)+(([l[i].ab]:List Ag).length:Int)≤140737488355328:=by rw [Aw];omega
    rw [if_pos rfl,AG hq,if_pos rfl])
  (fun o _=>by show OB t n l l.length o=_;unfold OB;rw [if_neg (by simp)]) (s:= []) (by simp)
 rw [Nh (fun w:Ac=>EU t n w.ab) (fun w=>w.ab)]at h1;exact h1.1
def jH (a b:List Ag):List Ag:=a.filter fun k=> !b.contains k
structure Wt (t:Aj) (n:Ag) (x:AX):Prop where
 at_:getI t.aj (Cd (fun y:AX=>y.ae==n) t.aj)=some x
 name:x.ae=n
 c0:1≤x.cy
 c1:x.cy≤(t.ax.length:Int)-1
def BZ (r:An) (c:Int):Ag:=(r.ah[c.toNat]?).getD []
def Fe (t:Aj) (n:Ag) (c:Int) (r:An):Ag:=head t n++ [47]++BZ r c++ [47]++BZ r 0
structure JC (t:Aj) (r:An):Prop where
 len:r.ah.length=t.ax.length
 small:Small r.ah
theorem rN {t:Aj} {l:List Ac} (h: ∀w∈l,HF w): ∀r∈rows t l,JC t r:=by intro r hr;obtain⟨w,hw,rfl⟩:=List.mem_map.1 hr;obtain⟨h1,h2⟩:=List.mem_filter.1 hw;have h3:Ed t w=true:=h2;unfold Ed BD at h3;simp only [Ad,beq_iff_eq]at h3;exact⟨by have:=h3.1.1;omega,aU (h w h1)⟩
theorem Sy {t:Aj} {r:An} (hr:JC t r) {c:Int} (h0:0≤c) (h1:c≤(t.ax.length:Int)-1):getI r.ah c=some (BZ r c)∧(BZ r c).length≤2000000:=by
 obtain⟨y,e,hm,e2⟩:=LM (xs:=r.ah) h0 (by have:=hr.len;omega);have hv:BZ r c=y:=by simp [BZ,e2]
 rw [hv];exact⟨e,hr.small.each y hm⟩
theorem dS {t:Aj} {n:Ag} {x:AX} {r:An} (ht:t.ae.length≤2000000) (hn:n.length≤2000000) (hx:Wt t n x) (hr:JC t r):Lw t x r=some (Fe t n x.cy r):=by
 obtain⟨g1,l1⟩:=Sy hr (c:=x.cy) (by have:=hx.c0;omega) hx.c1;obtain⟨g2,l2⟩:=Sy hr (c:=0) (by omega) (by have:=hx.c0;have:=hx.c1;omega);have e:=hx.name;subst e;unfold Lw Fe;rw [AG (by simp only [head,Ak,Am,List.length_nil];omega),AG (by simp only [head,Ak,Am,List.length_nil];omega),AG (by simp only [head,Ak,Am,List.length_nil];omega),g1,Ab,
  AG (by simp only [head,Ak,Am,List.length_nil];omega),AG (by simp only [head,Ak,Am,List.length_nil];omega),g2,Ab,
  AG (by simp only [head,Ak,Am,List.length_nil];omega)]
 rfl
theorem qT {t:Aj} {n:Ag} {x:AX} {r:An} (hS:Fi t) (hn:n.length≤2000000) (hx:Wt t n x) (hr:JC t r):MW t n r=some (Fe t n x.cy r):=by
 obtain⟨g1,l1⟩:=Sy hr (c:=x.cy) (by have:=hx.c0;omega) hx.c1;obtain⟨g2,l2⟩:=Sy hr (c:=0) (by omega) (by have:=hx.c0;have:=hx.c1;omega);have ht:=hS.name;have hi:M7 t n=some x:=by unfold M7;rw [fG hS,Ab,hx.at_];rfl
 unfold MW Fe;rw [eO ht hn,Ab,hi,Ab,g1,Ab,AG (by simp only [head,Ak,Am,List.length_nil];omega),AG (by simp only [head,Ak,Am,List.length_nil];omega),g2,Ab,AG (by simp only [head,Ak,Am,List.length_nil];omega)]
def wanted (t:Aj) (n:Ag) (x:AX) (l:List Ac):List Ag:=(rows t l).map (Fe t n x.cy)
theorem eB (t:Aj) (l:List Ac):(rows t l).length≤l.length:=by unfold rows;rw [List.length_map];exact List.length_filter_le _ _
def holds (t:Aj) (n:Ag) (x:AX) (lv:Int) (l:List Ac):Bool:=
 if lv==0 then((Dg t n l).length:Int)==0
 else(((jH (Dg t n l) (wanted t n x l)).length:Int)==0)&&((lv==1)||(((jH (wanted t n x l) (Dg t n l)).length:Int)==0))
theorem aY (t:Aj) (n:Ag) (l:List Ac):(Dg t n l).length≤l.length:=by unfold Dg;rw [List.length_map];exact List.length_filter_le _ _
def zD (t:Aj) (n:Ag):Bool:=A9 t&&decide (Cd (fun x:AX=>x.ae==n) t.aj≥0)
def zCA (t:Aj) (n:Ag) (l:List Ac):Bool:=zD t n&&Cl l
theorem Nu {l:List Ac} (h:Cl l=true): ∀w∈l,HF w:=by intro w hw;unfold Cl IV at h;simp only [Ad]at h;have h1:=AS.1 h.1.2.1 w hw;unfold CO Dh Hb FX at h1;simp only [Ad,decide_eq_true_eq]at h1;have h2:=ES.1 h1.1.1;have h3:=h1.2.1.1;exact⟨by omega,by omega⟩
theorem Vw {s:Ag} {k:Int} (h:CI s k=true):(s.length:Int)≤k∧ ∀b∈s,b≠47:=by unfold CI at h;simp only [Ad]at h;refine⟨(ES.1 h.2).2,fun b hb e=> ?_⟩;have h1:=AS.1 h.1 b hb;subst e;exact absurd h1 (by decide)
theorem Vx {s:Ag} (h:CI s 1=true):s.length=1:=by unfold CI at h;simp only [Ad]at h;have:=ES.1 h.2;omega
theorem Kt {t:Aj} (h:A9 t=true):CI t.ae 1=true:=by unfold A9 at h;simp only [Ad]at h;exact h.1.1.1
theorem No {t:Aj} (h:A9 t=true) {x:AX} (hx:x∈t.aj):CI x.ae 1=true∧Dd x.cy 1 ((t.ax.length:Int)-1)=true:=by unfold A9 at h;simp only [Ad]at h;obtain⟨i,hi,rfl⟩:=List.mem_iff_getElem.1 hx;have h1:=AS.1 h.2 i (List.mem_range.2 hi);unfold He at h1;simp only [Ad,List.getElem?_eq_getElem hi,Option.getD_some]at h1;exact⟨h1.1.1.1,h1.1.1.2⟩
def Hy {α:Type} (r:α→α→Bool):List α→Bool
 | []=>true
 | [_]=>true
 |x::y::l=>r x y&&Hy r (y::l)
theorem VT {α:Type} {r:α→α→Bool} (ht: ∀a b c,r a b=true→r b c=true→r a c=true): ∀{l:List α},Hy r l=true↔l.Pairwise fun a b=>r a b=true
 | []=>by simp [Hy]
 | [_]=>by simp [Hy]
 |x::y::l=>by
  rw [Hy,Ad,VT ht];constructor
  ·rintro⟨h1,h2⟩;refine List.pairwise_cons.2 ⟨fun z hz=> ?_,h2⟩;rcases Ae.1 hz with rfl|hz
   ·exact h1
   ·exact ht _ _ _ h1 ((List.pairwise_cons.1 h2).1 z hz)
  ·intro h;have h:=List.pairwise_cons.1 h;exact⟨h.1 y (by simp),h.2⟩
theorem zty {α:Type} {r:α→α→Bool} {l:List α} {q:Nat} (h:q+1<l.length):Hy r (l.drop q)=(r l[q] l[q+1]&&Hy r (l.drop (q+1))):=by rw [List.drop_eq_getElem_cons (show q<l.length by omega),List.drop_eq_getElem_cons h,Hy]
def BN {α:Type} (lt:α→Bool) (l:List α):Nat:=(l.takeWhile lt).length
theorem PI {α:Type} (lt:α→Bool): ∀l:List α,BN lt l≤l.length
 | []=>by simp [BN]
 |x::l=>by have:=PI lt l;unfold BN at this ⊢;rw [List.takeWhile_cons];split<;>simp<;>omega
theorem eR {α:Type} {lt:α→Bool}: ∀{l:List α} {i:Nat} (h:i<BN lt l),lt (l[i]'(Nat.lt_of_lt_of_le h (PI lt l)))=true
 |x::l,i,h=>by
  unfold BN at h;rw [List.takeWhile_cons]at h;split at h
  ·rename_i hx;cases i with
   |zero=>exact hx
   |succ i=>exact eR (l:=l) (i:=i) (by unfold BN;simpa using h)
  ·simp at h
theorem rM {α:Type} {lt:α→Bool}: ∀{l:List α} (h:BN lt l<l.length),lt l[BN lt l]=false
 |x::l,h=>by
  by_cases hx:lt x=true
  ·have e:BN lt (x::l)=BN lt l+1:=by unfold BN;rw [List.takeWhile_cons,if_pos hx];rfl
   have:=rM (l:=l) (lt:=lt) (by rw [e]at h;simpa using h);simp only [e,List.getElem_cons_succ];exact this
  ·have e:BN lt (x::l)=0:=by unfold BN;rw [List.takeWhile_cons,if_neg hx];rfl
   simp only [e,List.getElem_cons_zero];simpa using hx
theorem zzQ {α β:Type} {xs:List α} {body:Int × Int→Option ((Int × Int) ⊕ Option β)} {fin:Int→Option β} (lt:α→Bool) (hm: ∀i j (hj:j<xs.length) (hi:i≤j),lt xs[j]=true→lt xs[i]=true)
  (hs: ∀i j:Nat,i<j→j≤xs.length→(h:(i+j)/2<xs.length)→body ((i:Int),(j:Int))=some (.inl (if lt xs[(i+j)/2]=true then((((i+j)/2+1:Nat):Int),(j:Int))else((i:Int),(((i+j)/2:Nat):Int)))))
  (he: ∀i:Nat,i≤xs.length→body ((i:Int),(i:Int))=some (.inr (fin i))):AN body (0,(xs.length:Int))=fin (BN lt xs):=by
 have key: ∀n i j:Nat,j-i≤n→i≤BN lt xs→BN lt xs≤j→j≤xs.length→AN body ((i:Int),(j:Int))=fin (BN lt xs):=by
  intro n
  induction n with
  |zero=>
   intro i j h1 h2 h3 h4;have:i=j:=by omega
   subst this;have:i=BN lt xs:=by omega
   rw [G4,he i h4,this]
  |succ n ih=>
   intro i j h1 h2 h3 h4;by_cases J4:i=j
   ·subst J4;have:i=BN lt xs:=by omega
    rw [G4,he i h4,this]
   ·have Ax:(i+j)/2<xs.length:=by omega
    rw [G4,hs i j (by omega) h4 Ax];by_cases hc:lt xs[(i+j)/2]=true
    ·rw [if_pos hc];refine ih _ _ (by omega) ?_ h3 h4;by_cases hp:(i+j)/2<BN lt xs
     ·omega
     ·have h5:BN lt xs<xs.length:=by omega
      have:=rM h5;rw [hm _ _ Ax (by omega) hc]at this;cases this
    ·rw [if_neg hc];refine ih _ _ (by omega) h2 ?_ (by omega);by_cases hp:(i+j)/2<BN lt xs
     ·exact absurd (eR hp) hc
     ·omega
 exact key xs.length 0 xs.length (by omega) (by omega) (PI lt xs) (Nat.le_refl _)
theorem qH {α:Type} {key:α→Aa} {x:α}: ∀{l:List α},Es key l→B5 key x l=(match l[BN (fun y=>bl (key y) (key x)) l]? with
  |some y=>if key y=key x then l.set (BN (fun y=>bl (key y) (key x)) l) x else l.take (BN (fun y=>bl (key y) (key x)) l)++ [x]++l.drop (BN (fun y=>bl (key y) (key x)) l)
  |none=>l.take (BN (fun y=>bl (key y) (key x)) l)++ [x]++l.drop (BN (fun y=>bl (key y) (key x)) l))
 | [],_=>by simp [B5,BN]
 |y::l,h=>by
  have h1:=List.pairwise_cons.1 h;unfold B5;by_cases hb:bl (key x) (key y)=true
  ·have e:BN (fun z=>bl (key z) (key x)) (y::l)=0:=by unfold BN;rw [List.takeWhile_cons,if_neg (by rw [V8 hb];simp)];rfl
   rw [if_pos hb,e];simp [(GC hb).symm]
  ·rw [if_neg hb];by_cases hk:key x=key y
   ·have e:BN (fun z=>bl (key z) (key x)) (y::l)=0:=by unfold BN;rw [List.takeWhile_cons,if_neg (by rw [hk,LG];simp)];rfl
    rw [if_pos hk,e];simp [hk]
   ·have Gv:=R7 (by simpa using hb) hk;have e:BN (fun z=>bl (key z) (key x)) (y::l)=BN (fun z=>bl (key z) (key x)) l+1:=by unfold BN;rw [List.takeWhile_cons,if_pos Gv];rfl
    rw [if_neg hk,e,qH h1.2];simp only [List.getElem?_cons_succ];split
    ·split<;>simp
    ·simp
def NM (a b:Ag):Int:=if bl a b=true then-1 else if a=b then 0 else 1
@[simp] theorem zyE (a:Ag):Rz a=some false:=by simp [Rz]
@[simp] theorem zCu (a b:Ag):OO a b=some (NM a b):=by
 unfold OO NM;simp only [zyE,Ab,BH,if_false];by_cases h:bl a b=true
 ·have:Op.bytesLess a b=true:=h;simp [this]
 ·have h1:Op.bytesLess a b=false:=by simpa using h
  by_cases he:a=b
  ·subst he;simp [h1]
  ·simp [h1,he]
theorem zzO {a b:Ag}:decide (NM a b<0)=bl a b:=by
 unfold NM;cases h:bl a b with
 |true=>simp
 |false=>by_cases he:a=b<;>simp [he]
theorem xY {a b:Ag}:(NM a b==0)=decide (a=b):=by
 unfold NM;cases h:bl a b with
 |true=>simp [GC h]
 |false=>by_cases he:a=b<;>simp [he]
theorem yZ {i j:Nat} (h:i≤j) (hj:j≤2000000):IntKind.i64.wrap (Int.fdiv (IntKind.u64.wrap (IntKind.i64.wrap ((i:Int)+(j:Int)))) (2^(min ((1:Int)).toNat (IntKind.bits .u64))))=(((i+j)/2:Nat):Int):=by
 have e1:IntKind.i64.wrap ((i:Int)+(j:Int))=((i+j:Nat):Int):=by rw [B3 (by omega) (by omega)];simp
 have e2:IntKind.u64.wrap ((i+j:Nat):Int)=((i+j:Nat):Int):=by simp only [IntKind.wrap,IntKind.bits,IntKind.signed];simp;omega
 have e3:(2:Int)^(min ((1:Int)).toNat (IntKind.bits .u64))=((2:Nat):Int):=rfl;rw [e1,e2,e3,Int.fdiv_eq_ediv_of_nonneg _ (by omega),←Int.natCast_ediv,B3 (by omega) (by omega)]
theorem xE {i:Nat} (h:i≤2000000):IntKind.i64.wrap ((i:Int)+1)=((i+1:Nat):Int):=by rw [B3 (by omega) (by omega)];simp
abbrev Fk (l:List Ac):Prop:=Es (fun w:Ac=>w.ab) l
abbrev F0 (l:List Ac) (k:Ag):Nat:=BN (fun w:Ac=>bl w.ab k) l
theorem jB {l:List Ac} {k:Ag} (hl:l.length≤2000000) (hr:Fk l):Lx l k=some (((F0 l k:Nat):Int),(match l[F0 l k]? with|some w=>decide (w.ab=k)|none=>false)):=by
 unfold Lx YX;have hc: ∀w:Ac,O3 w k=some (NM w.ab k):=fun w=>by simp [O3]
 have h:=zzQ (xs:=l) (body:=fun s:Int × Int=>OG l k (fun y0_ y1_=>O3 y0_ y1_) s.1 s.2) (fin:=fun i=>YW l k (fun y0_ y1_=>O3 y0_ y1_) i) (fun w:Ac=>bl w.ab k)
  (fun i j hj hi h=>by
   rcases Nat.lt_or_ge i j with J4|J4
   ·exact Hu ((List.pairwise_iff_getElem.1 hr) i j (by omega) hj J4) h
   ·have:i=j:=by omega
    subst this;exact h)
  (fun i j J4 hj XX=>by show OG l k _ (i:Int) (j:Int)=_;unfold OG;rw [if_pos (by simpa using J4),yZ (by omega) (by omega),Bb XX,Ab];simp only [hc,Ab,zzO,xE (show(i+j)/2≤2000000 by omega)];cases bl l[(i+j)/2].ab k<;>rfl)
  (fun i hi=>by show OG l k _ (i:Int) (i:Int)=_;unfold OG;rw [if_neg (by simp)])
 rw [h];unfold YW;show Option.bind (if decide (((F0 l k:Nat):Int)<l.length)=true then _ else _) _=_;by_cases hp:F0 l k<l.length
 ·rw [if_pos (by simpa using hp),Bb hp,Ab];simp only [hc,Ab,xY,List.getElem?_eq_getElem hp]
 ·rw [if_neg (by simpa using hp),List.getElem?_eq_none (by omega)];rfl
theorem bV {l:List Ac} {w:Ac} (hl:l.length≤2000000) (hr:Fk l):M8 l w=some (B5 (fun w:Ac=>w.ab) w l):=by
 unfold M8;rw [jB hl hr,Ab,qH hr];show(if(match l[F0 l w.ab]? with|some w'=>decide (w'.ab=w.ab)|none=>false)=true then _ else _)=_;have hle:F0 l w.ab≤l.length:=PI _ _;have hI:We l ((F0 l w.ab:Nat):Int) [w]=some (l.take (F0 l w.ab)++ [w]++l.drop (F0 l w.ab)):=AG ⟨by omega,by omega,by simp,by simp only [Aw];omega⟩;by_cases hp:F0 l w.ab<l.length
 ·rw [List.getElem?_eq_getElem hp];by_cases hk:(l[F0 l w.ab]).ab=w.ab
  ·simp only [hk,decide_true,if_true,Bb hp,Ab];rfl
  ·simp only [hk,decide_false,BH,if_false];rw [hI];rfl
 ·rw [List.getElem?_eq_none (by omega)];simp only [BH,if_false];rw [hI];rfl
theorem aJ (ks:List Ag):Jw ks=Hy bl ks:=by
 have key: ∀n q,q+n+1=ks.length→(List.range' (q+1) n).all (H3 ks)=Hy bl (ks.drop q):=by
  intro n
  induction n with
  |zero=>intro q hq;rw [List.drop_eq_getElem_cons (show q<ks.length by omega),List.drop_eq_nil_of_le (show ks.length≤q+1 by omega)];rfl
  |succ n ih=>intro q hq;rw [List.range'_succ,List.all_cons,ih (q+1) (by omega),zty (show q+1<ks.length by omega)];congr 1;unfold H3;have hb:(q+1==0)=false:=rfl;rw [hb,Bool.false_or,Nat.add_sub_cancel,List.getElem?_eq_getElem (show q<ks.length by omega),List.getElem?_eq_getElem (show q+1<ks.length by omega)];rfl
 cases ks with
 |nil=>rfl
 |cons k l=>unfold Jw;rw [Am,List.range_eq_range',List.range'_succ,List.all_cons];have:=key l.length 0 (by simp);rw [List.drop_zero]at this;rw [Nat.zero_add]at this;rw [show 0+1=1 from rfl,this];rfl
theorem VF {α β:Type} (f:α→β) (r:β→β→Bool): ∀l:List α,Hy r (l.map f)=Hy (fun a b=>r (f a) (f b)) l
 | []=>rfl
 | [_]=>rfl
 |x::y::l=>by have:=VF f r (y::l);simp only [List.map_cons,Hy]at this ⊢;rw [this]
theorem znR {l:List Ac} (h:IV l=true):Fk l:=by unfold IV at h;simp only [Ad]at h;have h1:=h.2.2;rw [aJ,VF]at h1;exact(VT (r:=fun a b:Ac=>bl a.ab b.ab) fun a b c p q=>Hu p q).1 h1
theorem zyv {t:Aj} (h:A9 t=true):Es (fun x:AX=>x.ae) t.aj:=by
 unfold A9 at h;simp only [Ad]at h;have h1:=h.2;have h2:Jw (t.aj.map (·.ae))=true:=by
  unfold Jw;rw [List.length_map,AS];intro i hi;have h3:=AS.1 h1 i hi;unfold He at h3;simp only [Ad]at h3;have Iq:i<t.aj.length:=List.mem_range.1 hi;have e: ∀j:Nat,(((t.aj.map (·.ae))[j]?).getD [])=((t.aj[j]?).getD ⟨[],0,0⟩).ae:=by intro j;rw [List.getElem?_map];cases t.aj[j]?<;>rfl
  unfold H3;rw [e,e];exact h3.2
 rw [aJ,VF]at h2;exact(VT (r:=fun a b:AX=>bl a.ae b.ae) fun a b c p q=>Hu p q).1 h2
theorem dD {t:Aj} {x:AX} (h:A9 t=true) (hx:x∈t.aj):Wt t x.ae x:=by
 have h1:Cd (fun y:AX=>y.ae==x.ae) t.aj≥0:=by have:=dP (fun y:AX=>y.ae==x.ae) t.aj;rw [show(t.aj.any fun y=>y.ae==x.ae)=true from List.any_eq_true.2 ⟨x,hx,by simp⟩]at this;exact of_decide_eq_true this
 obtain⟨y,h2,h3,h4⟩:=dL h1;have h5:y=x:=(zyv h).ju h4 hx (by simpa using h3);subst h5;have h6:=ES.1 (No h hx).2;exact⟨h2,rfl,h6.1,h6.2⟩
theorem H2 {t:Aj} (h:A9 t=true):2≤t.ax.length∧t.ax.length≤4∧t.aj.length≤3:=by unfold A9 at h;simp only [Ad,decide_eq_true_eq]at h;have h1:=ES.1 h.1.1.2.2;have h2:=h.1.2;omega
theorem LQ {t:Aj} {r:An} (hs:Small r.ah) (h:BD t r=true):JC t r:=by unfold BD at h;simp only [Ad,beq_iff_eq]at h;exact⟨by have:=h.1;omega,hs⟩
theorem PL {t:Aj} {r:An} (hc:1≤t.ax.length) (h:JC t r):getI r.ah 0=some (BZ r 0):=(Sy h (by omega) (by omega)).1
theorem ND {t:Aj} {r:An} (hc:1≤t.ax.length) (h:JC t r):r.ah≠ []:=by intro e;have:=h.len;rw [e]at this;simp at this;omega
def LW (a:Ba):Prop:=Small a.bg.ah∧Small a.bj.ah
def Ha (t:Aj) (a:Ba):Bool:=
 if a.af=1 then(a.bg.ah.length:Int)==0&&BD t a.bj else
 if a.af=2 then BD t a.bg&&(a.bj.ah.length:Int)==0 else
 if a.af=3 then BD t a.bg&&(BD t a.bj&&BZ a.bg 0==BZ a.bj 0)else false
theorem zva {t:Aj} {a:Ba} (hc:1≤t.ax.length) (h:LW a):Ve t a=some (Ha t a):=by
 unfold Ve Ha;by_cases h1:a.af=1
 ·rw [if_pos (by simpa using h1),if_pos h1,R5 h.2,Ab];cases((a.bg.ah.length:Int)==0)<;>simp
 rw [if_neg (by simpa using h1),if_neg h1];by_cases h2:a.af=2
 ·rw [if_pos (by simpa using h2),if_pos h2,R5 h.1,Ab];cases((a.bj.ah.length:Int)==0)<;>simp
 rw [if_neg (by simpa using h2),if_neg h2];by_cases h3:a.af=3
 ·rw [if_pos (by simpa using h3),if_pos h3,R5 h.1,R5 h.2,Ab,Ab];cases e1:BD t a.bg with
  |false=>simp
  |true=>
   cases e2:BD t a.bj with
   |false=>simp
   |true=>simp [PL hc (LQ h.1 e1),PL hc (LQ h.2 e2)]
 rw [if_neg (by simpa using h3),if_neg h3]
theorem nE {t:Aj} {a:Ba} (hc:1≤t.ax.length) (h:LW a):Rq t a=some (Ha t a):=by
 unfold Rq Ha;by_cases h1:a.af=1
 ·rw [if_pos (by simpa using h1),if_pos h1,R4 h.2,Ab];cases((a.bg.ah.length:Int)==0)<;>simp
 rw [if_neg (by simpa using h1),if_neg h1];by_cases h2:a.af=2
 ·rw [if_pos (by simpa using h2),if_pos h2,R4 h.1,Ab]
 rw [if_neg (by simpa using h2),if_neg h2];by_cases h3:a.af=3
 ·rw [if_pos (by simpa using h3),if_pos h3,R4 h.1,R4 h.2,Ab,Ab];cases e1:BD t a.bg with
  |false=>simp
  |true=>
   cases e2:BD t a.bj with
   |false=>simp
   |true=>simp [PL hc (LQ h.1 e1),PL hc (LQ h.2 e2)]
 rw [if_neg (by simpa using h3),if_neg h3]
structure Tb (t:Aj) (a:Ba):Prop where
 old:a.af≠1→JC t a.bg
 new:a.af≠2→JC t a.bj
 kind:a.af=1∨a.af=2∨a.af=3
 same:a.af=3→BZ a.bg 0=BZ a.bj 0
theorem fC {t:Aj} {a:Ba} (h:LW a) (hg:Ha t a=true):Tb t a:=by
 unfold Ha at hg;by_cases h1:a.af=1
 ·rw [if_pos h1,Ad]at hg;exact⟨fun k=>absurd h1 k,fun _=>LQ h.2 hg.2, .inl h1,fun k=>by omega⟩
 rw [if_neg h1]at hg;by_cases h2:a.af=2
 ·rw [if_pos h2,Ad]at hg;exact⟨fun _=>LQ h.1 hg.1,fun k=>absurd h2 k, .inr (.inl h2),fun k=>by omega⟩
 rw [if_neg h2]at hg;by_cases h3:a.af=3
 ·rw [if_pos h3,Ad,Ad,beq_iff_eq]at hg;exact⟨fun _=>LQ h.1 hg.1,fun _=>LQ h.2 hg.2.1, .inr (.inr h3),fun _=>hg.2.2⟩
 rw [if_neg h3]at hg;cases hg
def H9 (t:Aj) (a:Ba) (x:AX):Ag:=if a.af=1 then []else Fe t x.ae x.cy a.bg
def HG (t:Aj) (a:Ba) (x:AX):Ag:=if a.af=2 then []else Fe t x.ae x.cy a.bj
def LV (k n:Ag) (x:AX):List AB:=if k≠ []∧k≠n∧x.bc≥1 then [⟨3,k, [],0⟩]else []
def JE (n:Ag) (x:AX):List AB:=if n≠ []∧x.bc≥2 then [⟨2,n, [],0⟩]else []
def LR (t:Aj) (a:Ba) (x:AX):List AB:=LV (H9 t a x) (HG t a x) x++JE (HG t a x) x
def KK (t:Aj) (a:Ba):List AB:=
 if a.af=1 then [⟨6,(BO t a.bj).ab, [],0⟩,⟨2,(BO t a.bj).ab,(BO t a.bj).aw,0⟩]else
 if a.af=2 then [⟨7,(BO t a.bg).ab,(BO t a.bg).aw,0⟩,⟨3,(BO t a.bg).ab, [],0⟩]else
 [⟨7,(BO t a.bg).ab,(BO t a.bg).aw,0⟩,⟨2,(BO t a.bg).ab,(BO t a.bj).aw,0⟩]
def GB (t:Aj) (a:Ba):List AB:=t.aj.foldl (fun o x=>o++LR t a x) (KK t a)
theorem zyF (k n:Ag) (x:AX):(LV k n x).length≤1:=by unfold LV;split<;>simp
theorem zz2 (n:Ag) (x:AX):(JE n x).length≤1:=by unfold JE;split<;>simp
theorem bJ (t:Aj) (a:Ba) (x:AX):(LR t a x).length≤2:=by unfold LR;have:=zyF (H9 t a x) (HG t a x) x;have:=zz2 (HG t a x) x;rw [Ak];omega
theorem aX (t:Aj) (a:Ba):(KK t a).length=2:=by unfold KK;split<;>(try split)<;>rfl
theorem Wk {o p:List AB} (h:o.length≤5000000) (hn:p.length≤5000000):((o.length:Int)+(p.length:Int))*48≤140737488355328∧(o.length:Int)+(p.length:Int)≤140737488355328:=by omega
theorem zxl {t:Aj} {a:Ba} {x:AX} (ht:t.ae.length≤2000000) (hn:x.ae.length≤2000000) (hx:Wt t x.ae x) (ha:Tb t a):RS t x a=some (LR t a x):=by
 have e1:RS t x a=UF t x a (H9 t a x):=by
  unfold RS H9;by_cases h1:a.af=1
  ·rw [if_neg (by simp [h1]),if_pos h1];rfl
  ·rw [if_pos (by simpa using h1),if_neg h1,dS ht hn hx (ha.old h1)];rfl
 have e2: ∀k,UF t x a k=RE x k (HG t a x):=by
  intro k;unfold UF HG;by_cases h1:a.af=2
  ·rw [if_neg (by simp [h1]),if_pos h1]
  ·rw [if_pos (by simpa using h1),if_neg h1,dS ht hn hx (ha.new h1)];rfl
 have e3: ∀(n:Ag) (o:List AB),o.length≤5→UH x n o=some (o++JE n x):=by
  intro n o ho;unfold UH JE;by_cases h1:n≠ []∧x.bc≥2
  ·rw [if_pos (by simpa using h1),if_pos h1,AG (Wk (by omega) (by simp))]
  ·rw [if_neg (by simpa using h1),if_neg h1,List.append_nil]
 have e4: ∀(k n:Ag),RE x k n=some (LV k n x++JE n x):=by
  intro k n;unfold RE LV;by_cases h1:k≠ []∧k≠n∧x.bc≥1
  ·rw [if_pos (by simpa [and_assoc]using h1),if_pos h1,AG (Wk (by simp) (by simp)),e3 _ _ (by simp)]
  ·rw [if_neg (by simpa [and_assoc]using h1),if_neg h1,e3 _ _ (by simp)]
 rw [e1,e2,e4];rfl
theorem zuY {t:Aj} {a:Ba} (hc:1≤t.ax.length) (ht:t.ae.length≤2000000) (ha:Tb t a):Vb t a=some (KK t a):=by
 unfold Vb KK;by_cases h1:a.af=1
 ·have hr:=ha.new (by omega);rw [if_pos (by simpa using h1),if_pos h1,SD ht hr.small (ND hc hr)];rfl
 have hr:=ha.old h1;rw [if_neg (by simpa using h1),if_neg h1,SD ht hr.small (ND hc hr),Ab];by_cases h2:a.af=2
 ·rw [if_pos (by simpa using h2),if_pos h2]
 have hr:=ha.new h2;rw [if_neg (by simpa using h2),if_neg h2,SD ht hr.small (ND hc hr)];rfl
theorem yX {t:Aj} {a:Ba} (hS:Fi t) (hg:A9 t=true) (ha:Tb t a):U1 t a=some (GB t a):=by
 have hc:=H2 hg;unfold U1;rw [zuY (by omega) hS.name ha,Ab];have hl:=aX t a;exact(En (xs:=t.aj) (body:=fun s:Int × List AB=>OQ t a s.1 s.2) (fun i (o:List AB)=>(i,o)) (fun o x=>o++LR t a x) (fun o=>some o) (fun i o=>o.length≤2+2*i)
  (fun i hi o hI=>by have hI:o.length≤2+2*i:=hI;have hw:=BM hi (by omega);have hk:=bJ t a t.aj[i];have hm:=List.getElem_mem hi;refine⟨?_,by show List.length _≤_;rw [Ak];omega⟩;show OQ t a i o=_;unfold OQ;rw [if_pos (by simpa using hi),Bb hi,Ab,zxl hS.name (hS.idx _ hm) (dD hg hm) ha,Ab,AG (Wk (by omega) (by omega)),hw])
  (fun o _=>by show OQ t a t.aj.length o=_;unfold OQ;rw [if_neg (by simp)]) (s:=KK t a) (by omega)).1
theorem L2 {k:Int} {w:Ac} {o:List AB} (h:o.length≤5000000):Jk k w o=some ((),o++ [⟨k,w.ab,w.aw,0⟩]):=by unfold Jk;rw [AG (Wk h (by simp))]
theorem sR {t:Aj} {a:Ba} (hS:Fi t) (hg:A9 t=true) (ha:Tb t a):Rp t a=some (GB t a):=by
 have hc:=H2 hg;have hl:=aX t a;have h7: ∀(i:Int) (x:AX) (n:Ag) (o:List AB),o.length≤100→Oz i x n o=some (.inl (IntKind.i64.wrap (i+1),o++JE n x)):=by
  intro i x n o ho;unfold Oz JE ZP;by_cases h1:n= []
  ·rw [if_neg (by simp [h1]),if_neg (by simp [h1]),List.append_nil]
  rw [if_pos (by simpa using h1),Ab];by_cases h2:x.bc≥2
  ·rw [if_pos (by simpa using h2),if_pos ⟨h1,h2⟩,L2 (by omega)];rfl
  ·rw [if_neg (by simpa using h2),if_neg (fun h=>h2 h.2),List.append_nil]
 have h6: ∀(i:Int) (x:AX) (k n:Ag) (o:List AB),o.length≤99→MZ i o x k n=some (.inl (IntKind.i64.wrap (i+1),o++(LV k n x++JE n x))):=by
  intro i x k n o ho;unfold MZ LV ZM;by_cases h1:k= []
  ·rw [if_neg (by simp [h1]),if_neg (by simp [h1]),h7 _ _ _ _ (by omega)];rfl
  rw [if_pos (by simpa using h1)];by_cases h2:k=n
  ·rw [if_neg (by simp [h2]),if_neg (by simp [h2]),h7 _ _ _ _ (by omega)];rfl
  rw [if_pos (by simpa using h2),Ab];by_cases h3:x.bc≥1
  ·rw [if_pos (by simpa using h3),if_pos ⟨h1,h2,h3⟩,L2 (by omega),Ab,h7 _ _ _ _ (by rw [Ak,Aw];omega),List.append_assoc]
  ·rw [if_neg (by simpa using h3),if_neg (fun h=>h3 h.2.2),h7 _ _ _ _ (by omega)];rfl
 have Iv: ∀o:List AB,o.length=2→Oy t a o=some (t.aj.foldl (fun o x=>o++LR t a x) o):=by
  intro o ho;unfold Oy;exact(En (xs:=t.aj) (body:=fun s:Int × List AB=>Ox t a s.1 s.2) (fun i (o:List AB)=>(i,o)) (fun o x=>o++LR t a x) (fun o=>some o) (fun i o=>o.length≤2+2*i)
   (fun i hi o hI=>by
    have hI:o.length≤2+2*i:=hI;have hw:=BM hi (by omega);have hk:=bJ t a t.aj[i];have hm:=List.getElem_mem hi;have hx:=dD hg hm;refine⟨?_,by show List.length _≤_;rw [Ak];omega⟩;show Ox t a i o=_;unfold Ox;rw [if_pos (by simpa using hi),Bb hi,Ab];have e1:(if(a.af !=1)=true then(MW t t.aj[i].ae a.bg).bind fun v20=>some (Sum.inl v20)else some (Sum.inl ([]:Aa)):Option (Aa ⊕ Option ((Int × List AB) ⊕ Option (List AB))))=some (.inl (H9 t a t.aj[i])):=by
     unfold H9;by_cases h1:a.af=1
     ·rw [if_neg (by simp [h1]),if_pos h1]
     ·rw [if_pos (by simpa using h1),if_neg h1,qT hS (hS.idx _ hm) hx (ha.old h1)];rfl
    rw [e1];show Y5 t a i o t.aj[i] (H9 t a t.aj[i])=_;unfold Y5;have e2: ∀k,(if(a.af !=2)=true then(MW t t.aj[i].ae a.bj).bind fun v19=>MZ i o t.aj[i] k v19 else MZ i o t.aj[i] k ([]:Aa))=MZ i o t.aj[i] k (HG t a t.aj[i]):=by
     intro k;unfold HG;by_cases h1:a.af=2
     ·rw [if_neg (by simp [h1]),if_pos h1]
     ·rw [if_pos (by simpa using h1),if_neg h1,qT hS (hS.idx _ hm) hx (ha.new h1)];rfl
    rw [e2,h6 _ _ _ _ _ (by omega),hw];rfl)
   (fun o _=>by show Ox t a t.aj.length o=_;unfold Ox;rw [if_neg (by simp)]) (s:=o) (by omega)).1
 have hn:t.ae.length≤2000000:=hS.name;unfold Rp GB KK;rcases ha.kind with h1|h1|h1
 ·have hr:=ha.new (by omega);rw [if_neg (by simp [h1]),if_pos h1];show MY t a [] [] false []=_;unfold MY;rw [if_pos (by simp [h1]),Sx hn hr.small (ND (by omega) hr),Ab];unfold Rx;rw [if_pos (by simp [h1]),L2 (by simp),Ab,L2 (by simp),Ab,Iv _ (by simp)];rfl
 ·have hr:=ha.old (by omega);rw [if_pos (by simp [h1]),if_neg (by omega),if_pos h1,Sx hn hr.small (ND (by omega) hr),Ab,L2 (by simp),Ab];show MY t a (BO t a.bg).ab (BO t a.bg).aw (BO t a.bg).a8 _=_;unfold MY;rw [if_neg (by simp [h1])];unfold Rx;rw [if_neg (by simp [h1]),if_pos (by simp [h1]),L2 (by simp),Ab,Iv _ (by simp)];rfl
 ·have hr:=ha.old (by omega);have C6:=ha.new (by omega);have hk:(BO t a.bg).ab=(BO t a.bj).ab:=by
   have:=ha.same h1;unfold BZ at this;unfold BO;rw [List.head?_eq_getElem?,List.head?_eq_getElem?];exact congrArg (fun z=>t.ae++ [47]++z) this
  rw [if_pos (by simp [h1]),if_neg (by omega),if_neg (by omega),Sx hn hr.small (ND (by omega) hr),Ab,L2 (by simp),Ab];show MY t a (BO t a.bg).ab (BO t a.bg).aw (BO t a.bg).a8 _=_;unfold MY;rw [if_pos (by simp [h1]),Sx hn C6.small (ND (by omega) C6),Ab];unfold Rx;rw [if_neg (by simp [h1]),if_neg (by simp [h1]),if_pos (by simp [h1]),L2 (by simp),Ab,Iv _ (by simp),hk];rfl
theorem FJ {σ α:Type} {body:σ→Option (σ ⊕ Option α)} {s:σ} {o:Option α} (h:body s=some (.inr o)):AN body s=o:=by rw [G4,h]
theorem G2 {σ α:Type} {body:σ→Option (σ ⊕ Option α)} {s s':σ} (h:body s=some (.inl s')):AN body s=AN body s':=by rw [G4,h]
abbrev wk (w:Ac):Ag:=w.ab
theorem VW {α β:Type} {xs:List α} {body:Int→Option (Int ⊕ Option β)} (p:α→Bool) (hit:α→Option β) (fin:Option β)
  (hs: ∀(i:Nat) (hi:i<xs.length),body i=some (if p xs[i]=true then .inr (hit xs[i])else .inl ((i+1:Nat):Int))) (he:body xs.length=some (.inr fin)):
  AN body 0=match xs.find? p with|some x=>hit x|none=>fin:=by
 have key: ∀n q,q+n=xs.length→AN body (q:Nat)=match(xs.drop q).find? p with|some x=>hit x|none=>fin:=by
  intro n
  induction n with
  |zero=>
   intro q hq;have:q=xs.length:=by omega
   subst this;rw [List.drop_length];exact FJ he
  |succ n ih=>
   intro q hq;have Ax:q<xs.length:=by omega
   rw [List.drop_eq_getElem_cons Ax,List.find?_cons];have h1:=hs q Ax;cases hp:p xs[q]with
   |true=>rw [hp,if_pos rfl]at h1;exact FJ h1
   |false=>rw [hp,if_neg (by simp)]at h1;rw [G2 h1];exact ih (q+1) (by omega)
 have:=key xs.length 0 (by omega);rw [List.drop_zero]at this;exact this
def P8 (got:List By) (k:Ag):Ag × Bool × Bool:=match got.find? (fun g=>g.ab==k)with|some g=>(g.aw,g.en,true)|none=>([],false,false)
def CZ (ws:List Ac) (got:List By) (k:Ag):Ag × Bool × Bool:=match ws.find? (fun w=>w.ab==k)with|some w=>(w.aw, !w.a8,true)|none=>P8 got k
def HA (rows:List Ac) (k:Ag):By:=match rows.find? (fun w=>w.ab==k)with|some w=>⟨k,w.aw,true⟩|none=>⟨k, [],false⟩
theorem bZ {ws:List Ac} {got:List By} {k:Ag} (hw:ws.length≤2000000) (hg:got.length≤2000000):UT ws got k=some (CZ ws got k):=by
 have h2:Uq got k=some (P8 got k):=by
  unfold Uq P8;rw [VW (xs:=got) (body:=fun s:Int=>O4 got k s) (fun g=>g.ab==k) (fun g=>some (g.aw,g.en,true)) (some ([],false,false)) (fun i hi=>by
   show O4 got k i=_;unfold O4;rw [if_pos (by simpa using hi),Bb hi,Ab,BM hi (by omega)];split<;>rfl) (by
   show O4 got k got.length=_;unfold O4;rw [if_neg (by simp)])]
  cases got.find? (fun g=>g.ab==k)<;>rfl
 unfold UT CZ;rw [VW (xs:=ws) (body:=fun s:Int=>O1 ws got k s) (fun w=>w.ab==k) (fun w=>some (w.aw, !w.a8,true)) (Uq got k) (fun i hi=>by
  show O1 ws got k i=_;unfold O1;rw [if_pos (by simpa using hi),Bb hi,Ab,BM hi (by omega)];split<;>rfl) (by
  show O1 ws got k ws.length=_;unfold O1;rw [if_neg (by simp)]),h2]
 cases ws.find? (fun w=>w.ab==k)<;>rfl
theorem zzF {rows:List Ac} {k:Ag} (hw:rows.length≤2000000):UZ rows k=some (HA rows k):=by
 unfold UZ HA;rw [VW (xs:=rows) (body:=fun s:Int=>O0 rows k s) (fun w=>w.ab==k) (fun w=>some ⟨k,w.aw,true⟩) (kP k) (fun i hi=>by
  show O0 rows k i=_;unfold O0;rw [if_pos (by simpa using hi),Bb hi,Ab,BM hi (by omega)];split<;>rfl) (by
  show O0 rows k rows.length=_;unfold O0;rw [if_neg (by simp)])]
 cases rows.find? (fun w=>w.ab==k)<;>rfl
theorem V4 {α:Type} (lt:α→Bool) (x:α) (l:List α):BN lt (x::l)=if lt x=true then BN lt l+1 else 0:=by unfold BN;rw [List.takeWhile_cons];split<;>rfl
theorem cC {x:Ac} {l:List Ac} (h:Fk (x::l)):(∀y∈l,bl x.ab y.ab=true)∧Fk l:=by unfold Fk Es at h;rw [List.pairwise_cons]at h;exact h
theorem zwY {l:List Ac} {k:Ag} (h: ∀y∈l,bl k y.ab=true):l.find? (fun w=>w.ab==k)=none:=by rw [List.find?_eq_none];intro y hy;have:=GC (h y hy);simpa using fun e=>this e.symm
theorem nJ {k:Ag}: ∀{l:List Ac},Fk l→l.find? (fun w=>w.ab==k)=match l[F0 l k]? with|some w=>if w.ab=k then some w else none|none=>none
 | [],_=>by simp
 |x::l,h=>by
  obtain⟨h1,h2⟩:=cC h;have ih:=nJ (k:=k) h2;rw [F0,V4,List.find?_cons];by_cases hb:bl x.ab k=true
  ·have Bt:(x.ab==k)=false:=by simpa using GC hb
   rw [if_pos hb,Bt,List.getElem?_cons_succ];exact ih
  ·rw [if_neg hb,List.getElem?_cons_zero];by_cases he:x.ab=k
   ·rw [show(x.ab==k)=true by simpa using he];simp [he]
   ·rw [show(x.ab==k)=false by simpa using he];simp only [he,if_false];have hk:bl k x.ab=true:=R7 (by simpa using hb) he;exact zwY fun y hy=>Hu hk (h1 y hy)
theorem sC {l:List Ac} {k:Ag} (hl:l.length≤2000000) (hr:Fk l): ∃i:Int,(Lx l k=some (i,true)∧ ∃w,getI l i=some w∧l.find? (fun w=>w.ab==k)=some w)∨(Lx l k=some (i,false)∧l.find? (fun w=>w.ab==k)=none):=by
 refine⟨(F0 l k:Nat), ?_⟩;rw [jB hl hr,nJ hr];by_cases hp:F0 l k<l.length
 ·rw [List.getElem?_eq_getElem hp];by_cases hk:(l[F0 l k]).ab=k
  ·left;simp only [hk,decide_true,if_true];exact⟨trivial,_,Bb hp,rfl⟩
  ·right;simp only [hk,decide_false,if_false];exact⟨trivial,trivial⟩
 ·rw [List.getElem?_eq_none (by omega)];right;exact⟨rfl,rfl⟩
theorem zuS {ws:List Ac} {got:List By} {k:Ag} (hw:ws.length≤2000000) (hg:got.length≤2000000) (hr:Fk ws):U6 k ws got=some (CZ ws got k):=by
 unfold U6 CZ;obtain⟨i,⟨e,w,e2,e3⟩|⟨e,e3⟩⟩:=sC (k:=k) hw hr
 ·rw [e,e3,Ab,if_pos rfl,e2];rfl
 ·rw [e,e3,Ab,if_neg (by simp)];unfold P8;rw [VW (xs:=got) (body:=fun s:Int=>OV k got s) (fun g=>g.ab==k) (fun g=>some (g.aw,g.en,true)) (some ([],false,false)) (fun i hi=>by
   show OV k got i=_;unfold OV;rw [if_pos (by simpa using hi),Bb hi,Ab,BM hi (by omega)];split<;>rfl) (by
   show OV k got got.length=_;unfold OV;rw [if_neg (by simp)])]
  cases got.find? (fun g=>g.ab==k)<;>rfl
theorem zx8 {rows:List Ac} {k:Ag} (hw:rows.length≤2000000) (hr:Fk rows):Vs rows k=some (HA rows k):=by
 unfold Vs HA;obtain⟨i,⟨e,w,e2,e3⟩|⟨e,e3⟩⟩:=sC (k:=k) hw hr
 ·rw [e,e3,Ab,if_neg (by simp),e2];rfl
 ·rw [e,e3,Ab,if_pos (by simp)]
def DN (k:Ag) (w:Ac):Bool:=bl w.ab k||w.ab==k
def L5 (l:List Ac) (w:Ac) (q:Nat):List Ac:=
 match(if q=0 then none else l[q-1]?)with
 |some y=>if y.ab=w.ab then l.set (q-1) w else l.take q++ [w]++l.drop q
 |none=>l.take q++ [w]++l.drop q
theorem zvW {w:Ag} {l:List Ac} (h: ∀y∈l,bl w y.ab=true):BN (DN w) l=0:=by
 cases l with
 |nil=>rfl
 |cons y l=>rw [V4,if_neg];have h1:=h y (by simp);have h2:=V8 h1;have h3:=GC h1;unfold DN;rw [h2];simpa using fun e=>h3 e.symm
theorem qO {w:Ac}: ∀{l:List Ac},Fk l→L5 l w (BN (DN w.ab) l)=B5 wk w l
 | [],_=>by simp [L5,B5,BN]
 |x::l,h=>by
  obtain⟨h1,h2⟩:=cC h;have ih:=qO (w:=w) h2;rw [V4,B5];by_cases ha:bl (wk w) (wk x)=true
  ·have hl:DN w.ab x=false:=by
    have h3:=V8 ha;have h4:=GC ha;unfold DN;rw [h3];simpa using fun e=>h4 e.symm
   rw [if_pos ha,hl,if_neg (by simp)];simp [L5]
  rw [if_neg ha];by_cases he:wk w=wk x
  ·have hl:DN w.ab x=true:=by unfold DN;rw [show(x.ab==w.ab)=true by simpa using he.symm];simp
   have hz:BN (DN w.ab) l=0:=zvW fun y hy=>by rw [show w.ab=x.ab from he];exact h1 y hy
   rw [if_pos he,hl,if_pos rfl,hz];simp [L5,show x.ab=w.ab from he.symm]
  ·have hb:bl x.ab w.ab=true:=R7 (by simpa using ha) he;have hl:DN w.ab x=true:=by unfold DN;rw [hb];rfl
   rw [if_neg he,hl,if_pos rfl,←ih];have hle:=PI (DN w.ab) l;generalize BN (DN w.ab) l=q at hle;unfold L5;rw [if_neg (by omega),Nat.add_sub_cancel];cases q with
   |zero=>simp only [List.getElem?_cons_zero,if_true];rw [if_neg (fun e=>he e.symm)];simp
   |succ q=>
    rw [if_neg (by omega),Nat.add_sub_cancel,List.getElem?_cons_succ,List.getElem?_eq_getElem (by omega)];simp only;split
    ·simp
    ·simp
theorem rO {w:Ag}: ∀{l:List Ac},Fk l→ ∀(j:Nat) (hj:j<l.length),BN (DN w) l≤j→DN w l[j]=false
 | [],_,j,hj,_=>by simp at hj
 |x::l,h,j,hj,hq=>by
  obtain⟨h1,h2⟩:=cC h;rw [V4]at hq;by_cases hx:DN w x=true
  ·rw [if_pos hx]at hq;cases j with
   |zero=>omega
   |succ j=>exact rO h2 j (by simpa using hj) (by omega)
  ·have CE:DN w x=false:=by simpa using hx
   cases j with
   |zero=>exact CE
   |succ j=>have hm:l[j]'(by simpa using hj)∈l:=List.getElem_mem _;have h3:=h1 _ hm;show DN w (l[j]'(by simpa using hj))=false;unfold DN at CE ⊢;simp only [Bool.or_eq_false_iff,beq_eq_false_iff_ne]at CE ⊢;have h4:bl w x.ab=true:=R7 CE.1 CE.2;have h5:=Hu h4 h3;exact⟨V8 h5,fun e=>GC h5 e.symm⟩
theorem fE {i:Nat} (h0:0<i) (h:i≤2000000):IntKind.i64.wrap ((i:Int)-1)=((i-1:Nat):Int):=by rw [B3 (by omega) (by omega)];omega
theorem KA {l:List Ac} {w:Ac} (hl:l.length≤2000000) (hr:Fk l):G1 l w=some (B5 wk w l):=by
 have hk: ∀q:Nat,q≤l.length→UB l w (q:Int)=some (L5 l w q):=by
  intro q hq;have r1:0≤(q:Int)∧(q:Int)≤(l.length:Int)∧(l.length:Int)≤(l.length:Int):=by omega
  have GZ:(AR l (q:Int) (l.length:Int))=l.drop q:=by rw [show(l.length:Int)=((l.length:Nat):Int)from rfl,MV,List.take_length]
  have IH:(AR l 0 (q:Int))=l.take q:=NN l q;have r2:((([]:List Ac).length:Int)+((l.drop q).length:Int))*40≤140737488355328∧(([]:List Ac).length:Int)+((l.drop q).length:Int)≤140737488355328:=by rw [List.length_nil,List.length_drop];omega
  have r3:0≤(0:Int)∧(0:Int)≤(q:Int)∧(q:Int)≤(l.length:Int):=by omega
  have r4:((([]:List Ac).length:Int)+((l.take q).length:Int))*40≤140737488355328∧(([]:List Ac).length:Int)+((l.take q).length:Int)≤140737488355328:=by rw [List.length_nil,List.length_take];omega
  have r5:(((l.take q).length:Int)+(([w]:List Ac).length:Int))*40≤140737488355328∧((l.take q).length:Int)+(([w]:List Ac).length:Int)≤140737488355328:=by rw [Aw,List.length_take];omega
  have r6:(((l.take q++ [w]).length:Int)+((l.drop q).length:Int))*40≤140737488355328∧((l.take q++ [w]).length:Int)+((l.drop q).length:Int)≤140737488355328:=by rw [Ak,Aw,List.length_take,List.length_drop];omega
  have r7:((([]:List Ac).length:Int)+((l).length:Int))*40≤140737488355328∧(([]:List Ac).length:Int)+((l).length:Int)≤140737488355328:=by rw [List.length_nil];omega
  unfold UB L5;by_cases h0:q=0
  ·subst h0;rw [if_neg (by simp),if_pos rfl];rw [AG r1,GZ,AG r2,AG r3,IH,AG r4,AG r5,AG r6]
  ·have FQ:q-1<l.length:=by omega
   rw [if_pos (by simp;omega),if_neg h0,fE (by omega) (by omega),Bb FQ,Ab,List.getElem?_eq_getElem FQ];simp only;by_cases he:(l[q-1]).ab=w.ab
   ·rw [if_pos (by simpa using he),if_pos he,AG r7,Ab];rfl
   ·rw [if_neg (by simpa using he),if_neg he];rw [AG r1,GZ,AG r2,AG r3,IH,AG r4,AG r5,AG r6]
 have hle:=PI (DN w.ab) l;have key: ∀n j:Nat,j=BN (DN w.ab) l+n→j≤l.length→AN (fun s:Int=>Na l w s) (j:Int)=some (L5 l w (BN (DN w.ab) l)):=by
  intro n
  induction n with
  |zero=>
   intro j hj XK;have Iu:j=BN (DN w.ab) l:=by omega
   refine(FJ ?_).trans (hk _ hle);show Na l w (j:Int)=_;unfold Na;by_cases h0:j=0
   ·rw [if_neg (by simp [h0]),Iu]
   ·have FQ:j-1<l.length:=by omega
    have ht:=eR (lt:=DN w.ab) (l:=l) (i:=j-1) (by omega);rw [if_pos (by simp;omega),fE (by omega) (by omega),Bb FQ,Ab,if_neg,Iu];unfold DN at ht;have ht:(bl l[j-1].ab w.ab||l[j-1].ab==w.ab)=true:=ht;show¬(!(bl l[j-1].ab w.ab||l[j-1].ab==w.ab))=true;rw [ht];simp
  |succ n ih=>
   intro j hj XK;have FQ:j-1<l.length:=by omega
   have ht:=rO (w:=w.ab) hr (j-1) FQ (by omega);have e:Na l w (j:Int)=some (.inl ((j-1:Nat):Int)):=by unfold Na;rw [if_pos (by simp;omega),fE (by omega) (by omega),Bb FQ,Ab,if_pos];have ht:(bl l[j-1].ab w.ab||l[j-1].ab==w.ab)=false:=ht;show(!(bl l[j-1].ab w.ab||l[j-1].ab==w.ab))=true;rw [ht];rfl
   rw [G2 (body:=fun s:Int=>Na l w s) e];exact ih (j-1) (by omega) (by omega)
 unfold G1;rw [key (l.length-BN (DN w.ab) l) l.length (by omega) (Nat.le_refl _),qO hr]
structure FK (o:AB):Prop where
 key:Dh o.ab=true
 val:FX o.aw=true
 mq:o.iw=0
 kind:o.af=2∨o.af=3∨o.af=6∨o.af=7
 none:o.af=3∨o.af=6→o.aw= []
theorem oF {s:Ag} (h:FX s=true):s.length≤24:=by unfold FX at h;simp only [Ad,decide_eq_true_eq]at h;omega
theorem oI {s:Ag} (h:Dh s=true):s.length≤12:=by unfold Dh at h;simp only [Ad]at h;have:=ES.1 h.1;omega
theorem oL (s:Ag) (h:s.length≤2000000): ∃r,RW s=some r:=by
 unfold RW;rw [SS,Ab];cases hb:Dd s.length 1 6 with
 |false=>exact⟨_,rfl⟩
 |true=>
  have h1:=ES.1 hb;obtain⟨x,e,_,_⟩:=LM (xs:=s) (i:=0) (by omega) (by omega);rw [if_pos rfl,e,Ab];split
  ·exact⟨_,rfl⟩
  ·have key: ∀(n q:Nat) (v:Int),q+n=s.length→ ∃r,AN (fun s_:Int × Int=>Ko s s_.1 s_.2) (v,(q:Int))=some r:=by
    intro n
    induction n with
    |zero=>intro q v hq;refine⟨v,FJ ?_⟩;show Ko s v q=_;unfold Ko;rw [if_neg (by simp;omega)]
    |succ n ih=>
     intro q v hq;have Ax:q<s.length:=by omega
     by_cases hd:((decide (((s[q]).toNat:Int)<48))||(decide (((s[q]).toNat:Int)>57)))=true
     ·refine⟨-1,FJ ?_⟩;show Ko s v q=_;unfold Ko;rw [if_pos (by simpa using Ax),Bb Ax,Ab,if_pos hd]
     ·have e:Ko s v q=some (.inl ((IntKind.i64.wrap ((IntKind.i64.wrap ((10:Int)*v))+(IntKind.i64.wrap (IntKind.u8.wrap (((s[q]).toNat:Int)-48))))),((q+1:Nat):Int))):=by
       unfold Ko;rw [if_pos (by simpa using Ax),Bb Ax,Ab,if_neg hd,BM Ax (by omega)]
      obtain⟨r,hr⟩:=ih (q+1) _ (by omega);exact⟨r,(G2 (body:=fun s_:Int × Int=>Ko s s_.1 s_.2) e).trans hr⟩
   exact key s.length 0 0 (by omega)
theorem zyb (s:Ag) (h:s.length≤2000000): ∃r,RZ s=some r:=by
 have N5: ∀(y:UInt8) (v:Ag),v.length≤2000000→ ∃r,UW y v=some r:=by
  intro y v hv;obtain⟨r,e⟩:=oL v hv;unfold UW;rw [e,Ab];split
  ·exact⟨_,rfl⟩
  ·split<;>exact⟨_,rfl⟩
 unfold RZ;by_cases h0:(s.length:Int)>0
 ·obtain⟨x,e,_,_⟩:=LM (xs:=s) (i:=0) (by omega) (by omega);rw [if_pos (by simpa using h0),e,Ab];split
  ·rw [AG (by omega)];exact N5 _ _ (by rw [YU,List.length_tail];omega)
  ·exact N5 _ _ h
 ·rw [if_neg (by simpa using h0)];unfold kS;obtain⟨r,e⟩:=oL s h;rw [e,Ab];split<;>exact⟨_,rfl⟩
def Jc (o:AB) (val:Ag) (there:Bool):Bool:=if o.af=6 then !there else there&&val==o.aw
def EC (got:List By):List AB→List Ac→Int × Ag × List Ac
 | [],ws=>(3, [],ws)
 |o::l,ws=>
  if o.af=2 then EC got l (B5 wk ⟨o.ab,o.aw,false⟩ ws)else
  if o.af=3 then EC got l (B5 wk ⟨o.ab, [],true⟩ ws)else
  if(CZ ws got o.ab).2.2=true then(if Jc o (CZ ws got o.ab).1 (CZ ws got o.ab).2.1=true then EC got l ws else(2, [], []))
  else(1,o.ab, [])
structure Ds (n:Nat) (ws:List Ac):Prop where
 ct:Fk ws
 len:ws.length≤n
 c7: ∀w∈ws,CO w=true
theorem Jq {n:Nat} {ws:List Ac} {w:Ac} (h:Ds n ws) (hw:CO w=true):Ds (n+1) (B5 wk w ws):=by
 refine⟨oC h.ct,Nat.le_trans (qD _) (by have:=h.len;omega),fun y hy=> ?_⟩;rcases(dR (key:=wk) h.ct y).1 hy with rfl|hy
 ·exact hw
 ·exact h.c7 y hy.1
theorem cL {o:AB} (h:FK o):CO ⟨o.ab,o.aw,false⟩=true:=by unfold CO Hb;simp [h.key,h.val]
theorem bX {o:AB} (h:FK o):CO ⟨o.ab, [],true⟩=true:=by unfold CO Hb;rw [h.key];rfl
theorem V5 {w:Ac} (h:CO w=true):w.aw.length≤24:=by unfold CO Hb at h;simp only [Ad]at h;exact oF h.2.1
theorem pA {w:Ac} (h:CO w=true):w.ab.length≤12:=by unfold CO at h;simp only [Ad]at h;exact oI h.1
theorem nB {ws:List Ac} {got:List By} {k:Ag} (hw: ∀w∈ws,CO w=true) (hg: ∀g∈got,g.aw.length≤2000):(CZ ws got k).1.length≤2000:=by
 unfold CZ;cases e:ws.find? (fun w=>w.ab==k)with
 |some w=>have:=V5 (hw w (List.mem_of_find?_eq_some e));show w.aw.length≤2000;omega
 |none=>
  unfold P8;cases e2:got.find? (fun g=>g.ab==k)with
  |some g=>exact hg g (List.mem_of_find?_eq_some e2)
  |none=>simp
theorem zxJ {o:AB} (h:FK o) (N7:o.af≠2) (uY:o.af≠3) {val:Ag} {there:Bool} (hv:val.length≤2000):UK o val there=some (Jc o val there):=by
 have e: ∃r,RN val=some r:=by unfold RN Vg;rw [AG (by omega)];exact⟨_,rfl⟩
 obtain⟨r,e⟩:=e;unfold UK Jc;rw [e,Ab];rcases h.kind with h1|h1|h1|h1
 ·exact absurd h1 N7
 ·exact absurd h1 uY
 ·rw [h1];rfl
 ·rw [h1];rfl
theorem zyy {o:AB} (h:FK o) {val:Ag} {there:Bool} (hv:val.length≤2000):Vh o val there=some (if o.af=2∨o.af=3 then false else !Jc o val there):=by
 obtain⟨r,e⟩:=zyb val (by omega);unfold Vh Jc;rw [e,Ab];rcases h.kind with h1|h1|h1|h1
 ·rw [h1];rfl
 ·rw [h1];rfl
 ·rw [h1];cases there<;>rfl
 ·rw [h1];show some (!there||val !=o.aw)=some (!(there&&val==o.aw));cases there<;>simp [bne]
theorem zzX {ops:List AB} {got:List By} (hl:ops.length≤1000) (ho: ∀o∈ops,FK o) (hg:got.length≤2000) (hv: ∀g∈got,g.aw.length≤2000):ZR ops got=some (EC got ops []):=by
 have key: ∀(n q:Nat) (ws:List Ac),q+n=ops.length→Ds q ws→AN (fun s:Int × List Ac=>Hr ops got s.1 s.2) ((q:Int),ws)=some (EC got (ops.drop q) ws):=by
  intro n
  induction n with
  |zero=>intro q ws hq hw;rw [List.drop_eq_nil_of_le (by omega),EC];refine FJ ?_;show Hr ops got q ws=_;unfold Hr;rw [if_neg (by simp;omega)]
  |succ n ih=>
   intro q ws hq hw;have Ax:q<ops.length:=by omega
   have AF:=ho _ (List.getElem_mem Ax);have Rb:=hw.len;have MQ:=BM Ax (by omega);rw [List.drop_eq_getElem_cons Ax,EC];by_cases h2:(ops[q]).af=2
   ·rw [if_pos h2];have e:Hr ops got q ws=some (.inl (((q+1:Nat):Int),B5 wk ⟨(ops[q]).ab,(ops[q]).aw,false⟩ ws)):=by
     unfold Hr;rw [if_pos (by simpa using Ax),Bb Ax,Ab,if_pos (by simpa using h2),bV (by omega) hw.ct,Ab,MQ]
    rw [G2 (body:=fun s:Int × List Ac=>Hr ops got s.1 s.2) e];exact ih (q+1) _ (by omega) (Jq hw (cL AF))
   rw [if_neg h2];by_cases h3:(ops[q]).af=3
   ·rw [if_pos h3];have e:Hr ops got q ws=some (.inl (((q+1:Nat):Int),B5 wk ⟨(ops[q]).ab, [],true⟩ ws)):=by
     unfold Hr;rw [if_pos (by simpa using Ax),Bb Ax,Ab,if_neg (by simpa using h2),if_pos (by simpa using h3),bV (by omega) hw.ct,Ab,MQ]
    rw [G2 (body:=fun s:Int × List Ac=>Hr ops got s.1 s.2) e];exact ih (q+1) _ (by omega) (Jq hw (bX AF))
   rw [if_neg h3];have Cu:=nB (k:=(ops[q]).ab) hw.c7 hv;have hb:Hr ops got q ws=if(CZ ws got (ops[q]).ab).2.2=true then(if Jc ops[q] (CZ ws got (ops[q]).ab).1 (CZ ws got (ops[q]).ab).2.1=true then some (.inl (((q+1:Nat):Int),ws))else some (.inr (some (2, [], []))))else some (.inr (some (1,(ops[q]).ab, []))):=by
    unfold Hr;rw [if_pos (by simpa using Ax),Bb Ax,Ab,if_neg (by simpa using h2),if_neg (by simpa using h3),zuS (by omega) (by omega) hw.ct,Ab];cases hs:(CZ ws got (ops[q]).ab).2.2 with
    |false=>rw [if_pos (by simp),if_neg (by simp)]
    |true=>
     rw [if_neg (by simp),if_pos rfl,zxJ AF h2 h3 Cu,Ab];have h4: ¬(ops[q]).af=4:=by rcases AF.kind with h|h|h|h<;>omega
     cases Jc ops[q] (CZ ws got (ops[q]).ab).1 (CZ ws got (ops[q]).ab).2.1 with
     |false=>rfl
     |true=>rw [if_neg (by simp),if_neg (by simpa using h4),if_pos rfl,MQ]
   by_cases hs:(CZ ws got (ops[q]).ab).2.2=true
   ·rw [if_pos hs]at hb ⊢;by_cases hk:Jc ops[q] (CZ ws got (ops[q]).ab).1 (CZ ws got (ops[q]).ab).2.1=true
    ·rw [if_pos hk]at hb ⊢;rw [G2 (body:=fun s:Int × List Ac=>Hr ops got s.1 s.2) hb];exact ih (q+1) _ (by omega) ⟨hw.ct,by omega,hw.c7⟩
    ·rw [if_neg hk]at hb ⊢;exact FJ hb
   ·rw [if_neg hs]at hb ⊢;exact FJ hb
 exact key ops.length 0 [] (by omega) ⟨List.Pairwise.nil,Nat.le_refl _,by simp⟩
theorem zz7 {ops:List AB} {got:List By} (hl:ops.length≤1000) (ho: ∀o∈ops,FK o) (hg:got.length≤2000) (hv: ∀g∈got,g.aw.length≤2000):Z5 ops got=some (EC got ops []):=by
 have key: ∀(n q:Nat) (ws:List Ac),q+n=ops.length→Ds q ws→AN (fun s:List Ac × Int=>Hs ops got s.1 s.2) (ws,(q:Int))=some (EC got (ops.drop q) ws):=by
  intro n
  induction n with
  |zero=>intro q ws hq hw;rw [List.drop_eq_nil_of_le (by omega),EC];refine FJ ?_;show Hs ops got ws q=_;unfold Hs;rw [if_neg (by simp;omega)]
  |succ n ih=>
   intro q ws hq hw;have Ax:q<ops.length:=by omega
   have AF:=ho _ (List.getElem_mem Ax);have Rb:=hw.len;have MQ:=BM Ax (by omega);have Cu:=nB (k:=(ops[q]).ab) hw.c7 hv;have N4:=zyy AF (val:=(CZ ws got (ops[q]).ab).1) (there:=(CZ ws got (ops[q]).ab).2.1) Cu;rw [List.drop_eq_getElem_cons Ax,EC];by_cases h2:(ops[q]).af=2
   ·rw [if_pos h2];rw [if_pos (.inl h2)]at N4;have e:Hs ops got ws q=some (.inl (B5 wk ⟨(ops[q]).ab,(ops[q]).aw,false⟩ ws,((q+1:Nat):Int))):=by
     unfold Hs;rw [if_pos (by simpa using Ax),Bb Ax,Ab,bZ (by omega) (by omega),Ab,if_neg (by simp [h2]),N4,Ab,if_neg (by simp),if_pos (by simpa using h2),KA (by omega) hw.ct,Ab,MQ]
    rw [G2 (body:=fun s:List Ac × Int=>Hs ops got s.1 s.2) e];exact ih (q+1) _ (by omega) (Jq hw (cL AF))
   rw [if_neg h2];by_cases h3:(ops[q]).af=3
   ·rw [if_pos h3];rw [if_pos (.inr h3)]at N4;have e:Hs ops got ws q=some (.inl (B5 wk ⟨(ops[q]).ab, [],true⟩ ws,((q+1:Nat):Int))):=by
     unfold Hs;rw [if_pos (by simpa using Ax),Bb Ax,Ab,bZ (by omega) (by omega),Ab,if_neg (by simp [h3]),N4,Ab,if_neg (by simp),if_neg (by simpa using h2),if_pos (by simpa using h3),KA (by omega) hw.ct,Ab,MQ]
    rw [G2 (body:=fun s:List Ac × Int=>Hs ops got s.1 s.2) e];exact ih (q+1) _ (by omega) (Jq hw (bX AF))
   rw [if_neg h3];rw [if_neg (by simp [h2,h3])]at N4;have hb:Hs ops got ws q=if(CZ ws got (ops[q]).ab).2.2=true then(if Jc ops[q] (CZ ws got (ops[q]).ab).1 (CZ ws got (ops[q]).ab).2.1=true then some (.inl (ws,((q+1:Nat):Int)))else some (.inr (some (2, [], []))))else some (.inr (some (1,(ops[q]).ab, []))):=by
    unfold Hs;rw [if_pos (by simpa using Ax),Bb Ax,Ab,bZ (by omega) (by omega),Ab];cases hs:(CZ ws got (ops[q]).ab).2.2 with
    |false=>rw [if_pos (by simp [h2,h3]),if_neg (by simp)]
    |true=>
     rw [if_neg (by simp),if_pos rfl,N4,Ab];have h4: ¬(ops[q]).af=4:=by rcases AF.kind with h|h|h|h<;>omega
     cases Jc ops[q] (CZ ws got (ops[q]).ab).1 (CZ ws got (ops[q]).ab).2.1 with
     |false=>rfl
     |true=>rw [if_neg (by simp),if_neg (by simpa using h2),if_neg (by simpa using h3),if_neg (by simpa using h4),if_pos rfl,MQ]
   by_cases hs:(CZ ws got (ops[q]).ab).2.2=true
   ·rw [if_pos hs]at hb ⊢;by_cases hk:Jc ops[q] (CZ ws got (ops[q]).ab).1 (CZ ws got (ops[q]).ab).2.1=true
    ·rw [if_pos hk]at hb ⊢;rw [G2 (body:=fun s:List Ac × Int=>Hs ops got s.1 s.2) hb];exact ih (q+1) _ (by omega) ⟨hw.ct,by omega,hw.c7⟩
    ·rw [if_neg hk]at hb ⊢;exact FJ hb
   ·rw [if_neg hs]at hb ⊢;exact FJ hb
 exact key ops.length 0 [] (by omega) ⟨List.Pairwise.nil,Nat.le_refl _,by simp⟩
theorem VJ {got:List By}: ∀(l:List AB) {n:Nat} {ws:List Ac},(∀o∈l,FK o)→Ds n ws→Ds (n+l.length) (EC got l ws).2.2∧((EC got l ws).1=1→ ∃o∈l,o.ab=(EC got l ws).2.1∧ ∀g∈got,g.ab≠o.ab)
 | [],n,ws,_,hw=>⟨hw,fun h=>by simp [EC]at h⟩
 |o::l,n,ws,ho,hw=>by
  have AF:=ho o (by simp);have hl: ∀o∈l,FK o:=fun x hx=>ho x (by simp [hx]);have up: ∀{w:List Ac},Ds (n+l.length) w→Ds (n+(o::l).length) w:=fun h=>⟨h.ct,by have:=h.len;rw [Am];omega,h.c7⟩
  rw [EC];split
  ·obtain⟨a,b⟩:=VJ (got:=got) l hl (Jq hw (cL AF));refine⟨⟨a.ct,by have:=a.len;rw [Am];omega,a.c7⟩,fun h=> ?_⟩;obtain⟨x,hx,h1,h2⟩:=b h;exact⟨x,by simp [hx],h1,h2⟩
  ·split
   ·obtain⟨a,b⟩:=VJ (got:=got) l hl (Jq hw (bX AF));refine⟨⟨a.ct,by have:=a.len;rw [Am];omega,a.c7⟩,fun h=> ?_⟩;obtain⟨x,hx,h1,h2⟩:=b h;exact⟨x,by simp [hx],h1,h2⟩
   ·split
    ·split
     ·obtain⟨a,b⟩:=VJ (got:=got) l hl hw;refine⟨up a,fun h=> ?_⟩;obtain⟨x,hx,h1,h2⟩:=b h;exact⟨x,by simp [hx],h1,h2⟩
     ·exact⟨⟨List.Pairwise.nil,by simp,by simp⟩,fun h=>by simp at h⟩
    ·rename_i hs;refine⟨⟨List.Pairwise.nil,by simp,by simp⟩,fun _=>⟨o,by simp,rfl,fun g hg e=> ?_⟩⟩;apply hs;unfold CZ;cases e1:ws.find? (fun w=>w.ab==o.ab)with
     |some w=>rfl
     |none=>
      unfold P8;cases e2:got.find? (fun g=>g.ab==o.ab)with
      |some g=>rfl
      |none=>rw [List.find?_eq_none]at e2;exact absurd (by simpa using e) (e2 g hg)
def mu (ops:List AB) (got:List By):Nat:=(ops.filter fun o=>got.all fun g=>g.ab !=o.ab).length
theorem xG {ops:List AB} {got:List By} {g:By} {o:AB} (ho:o∈ops) (hk:o.ab=g.ab) (hn: ∀x∈got,x.ab≠o.ab):mu ops (got++ [g])<mu ops got:=by
 unfold mu;have e:(fun o:AB=>(got++ [g]).all fun x=>x.ab !=o.ab)=fun o=>(got.all fun x=>x.ab !=o.ab)&&(g.ab !=o.ab):=by funext x;rw [List.all_append];simp
 have e2:ops.filter (fun o:AB=>(got++ [g]).all fun x=>x.ab !=o.ab)=(ops.filter fun o=>got.all fun x=>x.ab !=o.ab).filter fun o=>g.ab !=o.ab:=by rw [e,List.filter_filter];congr 1;funext x;rw [Bool.and_comm]
 rw [e2];have hm:o∈ops.filter fun o=>got.all fun x=>x.ab !=o.ab:=List.mem_filter.2 ⟨ho,AS.2 fun x hx=>by simpa using hn x hx⟩;generalize ops.filter (fun o=>got.all fun x=>x.ab !=o.ab)=l at hm;have Ax: ∀(l:List AB),o∈l→(l.filter fun o=>g.ab !=o.ab).length<l.length:=by
  intro l
  induction l with
  |nil=>intro h;simp at h
  |cons y l ih=>
   intro h;rw [List.filter_cons];rcases Ae.1 h with rfl|h
   ·rw [if_neg (by simp [hk])];have:=List.length_filter_le (fun o:AB=>g.ab !=o.ab) l;rw [Am];omega
   ·have:=ih h;split
    ·rw [Am,Am];omega
    ·rw [Am];omega
 exact Ax l hm
theorem x6 (ops:List AB) (got:List By):mu ops got≤ops.length:=List.length_filter_le _ _
def Om (rows:List Ac) (ops:List AB):Nat→List By→List Ac × Bool
 |0,_=>([],false)
 |n+1,got=>if(EC got ops []).1=1 then Om rows ops n (got++ [HA rows (EC got ops []).2.1])else((EC got ops []).2.2,(EC got ops []).1==3)
structure Nw (rows:List Ac):Prop where
 ct:Fk rows
 len:rows.length≤24
 c7: ∀w∈rows,CO w=true
theorem zxY {rows:List Ac} {k:Ag} (h:Nw rows):(HA rows k).aw.length≤2000∧(HA rows k).ab=k:=by
 unfold HA;cases e:rows.find? (fun w=>w.ab==k)with
 |some w=>have:=V5 (h.c7 w (List.mem_of_find?_eq_some e));exact⟨by show w.aw.length≤2000;omega,rfl⟩
 |none=>exact⟨by simp,rfl⟩
theorem qV {rows:List Ac} {ops:List AB} (hl:ops.length≤8) (ho: ∀o∈ops,FK o) (hr:Nw rows): ∀(n:Nat) (got:List By),mu ops got<n→got.length+n≤1000→(∀g∈got,g.aw.length≤2000)→
  (∃g,AN (fun s:List By=>M1 rows ops s) got=some (g,Om rows ops n got))∧(∃g,AN (fun s:List By=>M3 rows ops s) got=some (g,Om rows ops n got))∧Ds 8 (Om rows ops n got).1
 |0,got,hm,_,_=>by omega
 |n+1,got,hm,hg,hv=>by
  have hi:=zzX (got:=got) (by omega) ho (by omega) hv;have hs:=zz7 (got:=got) (by omega) ho (by omega) hv;obtain⟨ga,gb⟩:=VJ (got:=got) ops (n:=0) (ws:= []) ho ⟨List.Pairwise.nil,Nat.le_refl _,by simp⟩;have Od:=hr.len;rw [Om];generalize EC got ops []=r at hi hs ga gb;by_cases h1:r.1=1
  ·rw [if_pos h1];obtain⟨o,vQ,AF,MI⟩:=gb h1;obtain⟨t1,t2⟩:=zxY (k:=r.2.1) hr;have hq:(((got).length:Int)+(([HA rows r.2.1]:List By).length:Int))*40≤140737488355328∧((got).length:Int)+(([HA rows r.2.1]:List By).length:Int)≤140737488355328:=by
    rw [Aw];omega
   have ei:M1 rows ops got=some (.inl (got++ [HA rows r.2.1])):=by unfold M1;rw [hi,Ab,if_neg (by simp [h1]),zx8 (by omega) hr.ct,Ab,AG hq]
   have es:M3 rows ops got=some (.inl (got++ [HA rows r.2.1])):=by unfold M3;rw [hs,Ab,if_neg (by simp [h1]),zzF (by omega),Ab,AG hq]
   rw [G2 (body:=fun s:List By=>M1 rows ops s) ei,G2 (body:=fun s:List By=>M3 rows ops s) es];refine qV hl ho hr n _ ?_ (by rw [Ak,Aw];omega) fun g Cj=> ?_
   ·have:=xG (g:=HA rows r.2.1) vQ (AF.trans t2.symm) MI;omega
   ·rcases Ah.1 Cj with h|h
    ·exact hv g h
    ·rw [List.mem_singleton]at h;subst h;exact t1
  ·rw [if_neg h1];refine⟨⟨got,FJ ?_⟩,⟨got,FJ ?_⟩,ga.ct,by have:=ga.len;show r.2.2.length≤8;omega,ga.c7⟩
   ·show M1 rows ops got=_;unfold M1;rw [hi,Ab,if_pos (by simpa using h1)]
   ·show M3 rows ops got=_;unfold M3;rw [hs,Ab,if_pos (by simpa using h1)]
def Gz (rows:List Ac) (ops:List AB):List Ac × Bool:=Om rows ops 9 []
theorem eE {rows:List Ac} {ops:List AB} (hl:ops.length≤8) (ho: ∀o∈ops,FK o) (hr:Nw rows):(∃g,Z0 rows ops=some (g,Gz rows ops))∧(∃g,ZJ rows ops=some (g,Gz rows ops))∧Ds 8 (Gz rows ops).1:=by have:=x6 ops [];exact qV hl ho hr 9 [] (by omega) (by simp) (by simp)
theorem cO {s:Ag} (h:field s=true):s.length≤3:=by unfold field at h;simp only [Ad]at h;have:=ES.1 h.1;omega
theorem eJ {t:Aj} {r:An} (h:BD t r=true) (c:Int):(BZ r c).length≤3:=by
 unfold BD at h;simp only [Ad]at h;unfold BZ;cases e:r.ah[c.toNat]? with
 |none=>simp
 |some s=>exact cO (AS.1 h.2 s (List.mem_of_getElem? e))
theorem Pu {k:Nat}: ∀{xs:List Ag},(∀s∈xs,s.length≤k)→Dz xs≤k*xs.length
 | [],_=>by simp [Dz]
 |s::xs,h=>by have h1:=h s (by simp);have h2:=Pu (k:=k) (xs:=xs) fun y hy=>h y (by simp [hy]);simp only [Dz,Am,Nat.mul_add,Nat.mul_one];omega
theorem zyB {t:Aj} {r:An} (hg:A9 t=true) (h:BD t r=true):(BO t r).ab.length≤5∧(BO t r).aw.length≤20:=by
 have hn:=Vx (Kt hg);have hc:=H2 hg;have hv:=eJ h 0;have h':=h;unfold BD at h';simp only [Ad,beq_iff_eq]at h';have C5: ∀s∈r.ah,s.length≤3:=fun s hs=>cO (AS.1 h'.2 s hs);constructor
 ·unfold BO;have e:(r.ah.head?).getD []=BZ r 0:=by unfold BZ;rw [List.head?_eq_getElem?];rfl
  simp only [e,Ak,Aw];omega
 ·have h1:=PE r.ah.tail [44];have h2:=Pu (k:=3) (xs:=r.ah.tail) fun s hs=>C5 s (List.mem_of_mem_tail hs);have h3:r.ah.tail.length≤3:=by rw [List.length_tail];omega
  rw [Aw]at h1;show(Lib.join r.ah.tail [44]).length≤20;omega
theorem zxL {t:Aj} {n:Ag} {c:Int} {r:An} (hg:A9 t=true) (hn:n.length=1) (h:BD t r=true):(Fe t n c r).length≤11:=by have h1:=Vx (Kt hg);have h2:=eJ h c;have h3:=eJ h 0;unfold Fe head;simp only [Ak,Aw];omega
theorem qS {α β:Type} {P:β→Prop} {f:α→List β}: ∀(xs:List α) (a:List β),(∀x∈xs,∀o∈f x,P o)→(∀o∈a,P o)→ ∀o∈xs.foldl (fun a x=>a++f x) a,P o
 | [],a,_,h=>h
 |x::xs,a,hf,h=>qS xs (a++f x) (fun y hy=>hf y (by simp [hy])) fun o ho=>by
  rcases Ah.1 ho with ho|ho
  ·exact h o ho
  ·exact hf x (by simp) o ho
theorem oO {α β:Type} {f:α→List β} (hf: ∀x,(f x).length≤2): ∀(xs:List α) (a:List β),(xs.foldl (fun a x=>a++f x) a).length≤a.length+2*xs.length
 | [],a=>by simp
 |x::xs,a=>by have h1:=oO hf xs (a++f x);have h2:=hf x;rw [Ak]at h1;rw [List.foldl_cons,Am];omega
def Mb (s:Ag):Prop:= ∀b∈s,(Ep b||([46,47]:Ag).contains b)=true
def jC (s:Ag):Prop:= ∀b∈s,(Ep b||([46,45,44,95]:Ag).contains b)=true
theorem zwK {s:Ag} (h:field s=true): ∀b∈s,Ep b=true:=by unfold field IY at h;simp only [Ad]at h;intro b hb;have:=AS.1 h.2 b hb;simpa using this
theorem Pm {s:Ag} {k:Int} (h:CI s k=true): ∀b∈s,Ep b=true:=by unfold CI at h;simp only [Ad]at h;intro b hb;have:=AS.1 h.1 b hb;unfold small at this;unfold Ep;simp only [Bool.not_eq_true',Bool.or_eq_false_iff,decide_eq_false_iff_not]at this;simp only [Bool.or_eq_true,Ad,decide_eq_true_eq];left;omega
theorem Pq {s:Ag} (h: ∀b∈s,Ep b=true):Mb s:=fun b hb=>by rw [h b hb];rfl
theorem Mb.app {s u:Ag} (h:Mb s) (k:Mb u):Mb (s++u):=fun b hb=>by
 rcases Ah.1 hb with hb|hb
 ·exact h b hb
 ·exact k b hb
theorem zV:Mb [46]:=fun b hb=>by rw [List.mem_singleton]at hb;subst hb;decide
theorem fS:Mb [47]:=fun b hb=>by rw [List.mem_singleton]at hb;subst hb;decide
theorem mY {s:Ag} (h1:1≤s.length) (h2:s.length≤12) (h:Mb s):Dh s=true:=by unfold Dh IY;rw [ES.2 ⟨by omega,by omega⟩,AS.2 h];rfl
theorem zu0 {s:Ag} (h2:s.length≤24) (h:jC s):FX s=true:=by unfold FX IY;rw [show decide ((s.length:Int)≤24)=true by simp;omega,AS.2 h];rfl
theorem zyz {xs:List Ag} (h: ∀x∈xs,∀b∈x,Ep b=true):jC (Lib.join xs [44]):=by
 cases xs with
 |nil=>intro b hb;simp [Lib.join_nil]at hb
 |cons x r=>
  intro b hb;rw [Lib.join_cons]at hb;rcases Ah.1 hb with hb|hb
  ·rw [h x (by simp) b hb];rfl
  ·unfold Lib.joinTail at hb;obtain⟨l,hl,uC⟩:=List.mem_flatten.1 hb;obtain⟨y,hy,rfl⟩:=List.mem_map.1 hl;rcases Ah.1 uC with hb|hb
   ·rw [List.mem_singleton]at hb;subst hb;decide
   ·rw [h y (by simp [hy]) b hb];rfl
theorem nA {t:Aj} {r:An} (h:BD t r=true): ∀x∈r.ah,∀b∈x,Ep b=true:=by unfold BD at h;simp only [Ad]at h;exact fun x hx=>zwK (AS.1 h.2 x hx)
theorem PK {t:Aj} {r:An} (h:BD t r=true) (c:Int): ∀b∈BZ r c,Ep b=true:=by
 unfold BZ;cases e:r.ah[c.toNat]? with
 |none=>simp
 |some s=>exact nA h s (List.mem_of_getElem? e)
theorem VY {t:Aj} {r:An} (hg:A9 t=true) (h:BD t r=true):Dh (BO t r).ab=true∧FX (BO t r).aw=true:=by
 have hl:=zyB hg h;have e:(BO t r).ab=t.ae++ [47]++BZ r 0:=by unfold BO BZ;rw [List.head?_eq_getElem?];rfl
 refine⟨mY ?_ (by omega) ?_,zu0 (by omega) ?_⟩
 ·rw [e];simp;omega
 ·rw [e];exact((Pq (Pm (Kt hg))).app fS).app (Pq (PK h 0))
 ·exact zyz fun x hx=>nA h x (List.mem_of_mem_tail hx)
theorem bG {t:Aj} {n:Ag} {c:Int} {r:An} (hg:A9 t=true) (hn:CI n 1=true) (h:BD t r=true):Dh (Fe t n c r)=true:=by
 have hl:=zxL (c:=c) hg (Vx hn) h;refine mY ?_ (by omega) ?_
 ·unfold Fe;simp;omega
 ·unfold Fe head;exact((((((Pq (Pm (Kt hg))).app zV).app (Pq (Pm hn))).app fS).app (Pq (PK h c))).app fS).app (Pq (PK h 0))
theorem Wa {t:Aj} {a:Ba} (hg:A9 t=true) (h:Ha t a=true):(GB t a).length≤8∧ ∀o∈GB t a,FK o:=by
 have ho:a.af≠1→BD t a.bg=true:=fun h1=>by
  unfold Ha at h;rw [if_neg h1]at h;by_cases h2:a.af=2
  ·rw [if_pos h2,Ad]at h;exact h.1
  rw [if_neg h2]at h;by_cases h3:a.af=3
  ·rw [if_pos h3,Ad]at h;exact h.1
  rw [if_neg h3]at h;cases h
 have hn:a.af≠2→BD t a.bj=true:=fun h2=>by
  unfold Ha at h;by_cases h1:a.af=1
  ·rw [if_pos h1,Ad]at h;exact h.2
  rw [if_neg h1,if_neg h2]at h;by_cases h3:a.af=3
  ·rw [if_pos h3,Ad,Ad]at h;exact h.2.1
  rw [if_neg h3]at h;cases h
 have hc:=H2 hg;have v0:FX ([]:Ag)=true:=by decide
 constructor
 ·have h1:=oO (bJ t a) t.aj (KK t a);rw [aX]at h1;unfold GB;omega
 ·refine qS _ _ (fun x hx o hm=> ?_) (fun o hm=> ?_)
  ·have Ki:=(No hg hx).1;unfold LR LV JE at hm;rcases Ah.1 hm with hm|hm
   ·split at hm
    ·rename_i q;rw [List.mem_singleton]at hm;subst hm;refine⟨?_,v0,rfl,by simp,fun _=>rfl⟩;show Dh (H9 t a x)=true;unfold H9 at q ⊢;by_cases h1:a.af=1
     ·rw [if_pos h1]at q;exact absurd rfl q.1
     ·rw [if_neg h1];exact bG hg Ki (ho h1)
    ·simp at hm
   ·split at hm
    ·rename_i q;rw [List.mem_singleton]at hm;subst hm;refine⟨?_,v0,rfl,by simp,fun _=>rfl⟩;show Dh (HG t a x)=true;unfold HG at q ⊢;by_cases h1:a.af=2
     ·rw [if_pos h1]at q;exact absurd rfl q.1
     ·rw [if_neg h1];exact bG hg Ki (hn h1)
    ·simp at hm
  ·unfold KK at hm;split at hm
   ·rename_i q;have w:=VY hg (hn (by omega));simp only [Ae,List.not_mem_nil,or_false]at hm;rcases hm with rfl|rfl
    ·exact⟨w.1,v0,rfl,by simp,fun _=>rfl⟩
    ·exact⟨w.1,w.2,rfl,by simp,fun k=>by simp at k⟩
   ·rename_i q1;have w1:=VY hg (ho q1);split at hm
    ·simp only [Ae,List.not_mem_nil,or_false]at hm;rcases hm with rfl|rfl
     ·exact⟨w1.1,w1.2,rfl,by simp,fun k=>by simp at k⟩
     ·exact⟨w1.1,v0,rfl,by simp,fun _=>rfl⟩
    ·rename_i q2;have w2:=VY hg (hn q2);simp only [Ae,List.not_mem_nil,or_false]at hm;rcases hm with rfl|rfl
     ·exact⟨w1.1,w1.2,rfl,by simp,fun k=>by simp at k⟩
     ·exact⟨w1.1,w2.2,rfl,by simp,fun k=>by simp at k⟩
theorem G3 {l:List Ac} (h:Cl l=true):Nw l∧ ∀w∈l,w.a8=false:=by unfold Cl at h;rw [Ad]at h;have hr:=znR h.1;have h1:=h.1;unfold IV at h1;simp only [Ad,decide_eq_true_eq]at h1;exact⟨⟨hr,by omega,AS.1 h1.2.1⟩,fun w hw=>by simpa using AS.1 h.2 w hw⟩
theorem mQ {l:List Ac} (hr:Fk l) (hg: ∀w∈l,CO w=true) (hn: ∀w∈l,w.a8=false):Cl l=decide ((l.length:Int)≤24):=by
 have h1:Jw (l.map (·.ab))=true:=by rw [aJ,VF];exact(VT (r:=fun a b:Ac=>bl a.ab b.ab) fun a b c p q=>Hu p q).2 hr
 unfold Cl IV;rw [h1,AS.2 hg,show(l.all fun w=> !w.a8)=true from AS.2 fun w hw=>by rw [hn w hw];rfl];simp
theorem Z4 {l:List Ac} (hl:l.length≤2000000) (hg: ∀w∈l,CO w=true):LU l:=
 ⟨hl,fun w hw=>⟨by have:=pA (hg w hw);omega,by have:=V5 (hg w hw);omega⟩⟩
def EV (rows ws:List Ac):List Ac:=(ws.foldl (fun o w=>B5 wk w o) rows).filter fun w=> !w.a8
theorem sJ: ∀(ws:List Ac) {n:Nat} {rows:List Ac},Ds n rows→(∀w∈ws,CO w=true)→Ds (n+ws.length) (ws.foldl (fun o w=>B5 wk w o) rows)
 | [],n,rows,h,_=>h
 |w::ws,n,rows,h,hw=>by have:=sJ ws (Jq h (hw w (by simp))) fun y hy=>hw y (by simp [hy]);exact⟨this.ct,by have:=this.len;rw [Am];rw [List.foldl_cons];omega,this.c7⟩
theorem o6 {rows ws:List Ac} (hr:Nw rows) (hw:Ds 8 ws):Fk (EV rows ws)∧(EV rows ws).length≤32∧(∀w∈EV rows ws,CO w=true)∧ ∀w∈EV rows ws,w.a8=false:=by have h:=sJ ws (n:=24) (rows:=rows) ⟨hr.ct,hr.len,hr.c7⟩ hw.c7;have hl:=hw.len;unfold EV;refine⟨Es.filter h.ct _,Nat.le_trans (List.length_filter_le _ _) (by have:=h.len;omega),fun w hm=>h.c7 w (List.mem_filter.1 hm).1,fun w hm=>by simpa using(List.mem_filter.1 hm).2⟩
theorem zuQ {rows ws:List Ac} (hr:Nw rows) (hw:Ds 8 ws):Vl rows ws=some (if(EV rows ws).length>24 then([],false)else(EV rows ws,true)):=by
 have Od:=hr.len;have Rb:=hw.len;have hc:Rn rows=some rows:=qR (by omega) (by omega);unfold Vl;rw [hc,Ab];have h1:=En (xs:=ws) (body:=fun s:Int × List Ac=>OW ws s.1 s.2) (fun i (o:List Ac)=>(i,o)) (fun o w=>B5 wk w o) (fun o=>Zr o) (fun i o=>Ds (24+i) o)
  (fun i hi o hI=>by have hI:Ds (24+i) o:=hI;have hol:=hI.len;refine⟨?_,Jq hI (hw.c7 _ (List.getElem_mem hi))⟩;show OW ws i o=_;unfold OW;rw [if_pos (by simpa using hi),Bb hi,Ab,bV (by omega) hI.ct,Ab,BM hi (by omega)])
  (fun o hI=>by show OW ws ws.length o=_;unfold OW;rw [if_neg (by simp)]) (s:=rows) ⟨hr.ct,hr.len,hr.c7⟩
 rw [h1.1];have hK:Ds (24+ws.length) (ws.foldl (fun o w=>B5 wk w o) rows):=h1.2;have FO:=hK.len;unfold Zr Vv;rw [AG (by omega),mW (p:=fun y0_=>ZD y0_) (fun w:Ac=>w.a8) (fun w _=>rfl),Ab];show(if decide (((EV rows ws).length:Int)>24)=true then _ else _)=_;by_cases hq:(EV rows ws).length>24
 ·rw [if_pos (decide_eq_true (by omega)),if_pos hq]
 ·rw [if_neg (by rw [decide_eq_true_eq];omega),if_neg hq];rfl
theorem zvs {rows ws:List Ac} (hr:Nw rows) (hw:Ds 8 ws):UD rows ws=some (EV rows ws):=by
 have Od:=hr.len;have Rb:=hw.len;have hq:((([]:List Ac).length:Int)+((rows).length:Int))*40≤140737488355328∧(([]:List Ac).length:Int)+((rows).length:Int)≤140737488355328:=by rw [List.length_nil];omega
 unfold UD;rw [AG hq];have h1:=En (xs:=ws) (body:=fun s:Int × List Ac=>OJ ws s.1 s.2) (fun i (o:List Ac)=>(i,o)) (fun o w=>B5 wk w o) (fun o=>Y9 o) (fun i o=>Ds (24+i) o)
  (fun i hi o hI=>by have hI:Ds (24+i) o:=hI;have hol:=hI.len;refine⟨?_,Jq hI (hw.c7 _ (List.getElem_mem hi))⟩;show OJ ws i o=_;unfold OJ;rw [if_pos (by simpa using hi),Bb hi,Ab,KA (by omega) hI.ct,Ab,BM hi (by omega)])
  (fun o hI=>by show OJ ws ws.length o=_;unfold OJ;rw [if_neg (by simp)]) (s:=rows) ⟨hr.ct,hr.len,hr.c7⟩
 rw [h1.1];have hK:Ds (24+ws.length) (ws.foldl (fun o w=>B5 wk w o) rows):=h1.2;have FO:=hK.len;unfold EV;generalize ws.foldl (fun o w=>B5 wk w o) rows=l at FO;unfold Y9;have h2:=En (xs:=l) (body:=fun s:List Ac × Int=>OI l s.1 s.2) (fun i (o:List Ac)=>(o,i)) (fun o w=>if(!w.a8)=true then o++ [id w]else o) (fun o=>some o) (fun i o=>o.length≤i)
  (fun i hi o hI=>by
   have hI:o.length≤i:=hI;have hr:(((o).length:Int)+(([l[i]]:List Ac).length:Int))*40≤140737488355328∧((o).length:Int)+(([l[i]]:List Ac).length:Int)≤140737488355328:=by rw [Aw];omega
   refine⟨?_,by show List.length _≤_;split;rw [Ak,Aw];omega;omega⟩;show OI l o i=_;unfold OI;rw [if_pos (by simpa using hi),Bb hi,Ab,BM hi (by omega)];cases(!(l[i]).a8)with
   |false=>rfl
   |true=>rw [if_pos rfl,AG hr];rfl)
  (fun o _=>by show OI l o l.length=_;unfold OI;rw [if_neg (by simp)]) (s:= []) (Nat.le_refl _)
 refine h2.1.trans ?_;rw [Nh (fun w:Ac=> !w.a8) id l []];simp
def Fc (st:List Ac) (ops:List AB):List Ac × Bool:=if(Gz st ops).2=true∧(EV st (Gz st ops).1).length≤24 then(EV st (Gz st ops).1,true)else(st,false)
theorem oT {st:List Ac} {ops:List AB} (hl:ops.length≤8) (ho: ∀o∈ops,FK o) (hg:Cl st=true):RV st ops=some (Fc st ops):=by
 obtain⟨hr,_⟩:=G3 hg;obtain⟨⟨g,e⟩,_,hw⟩:=eE hl ho hr;have Od:=hr.len;have hq:((([]:List Ac).length:Int)+((st).length:Int))*40≤140737488355328∧(([]:List Ac).length:Int)+((st).length:Int)≤140737488355328:=by rw [List.length_nil];omega
 unfold RV Fc;rw [e,Ab,zuQ hr hw,Ab];cases h1:(Gz st ops).2 with
 |false=>rw [if_pos (by simp),AG hq,if_neg (by simp)]
 |true=>
  by_cases h2:(EV st (Gz st ops).1).length>24
  ·rw [if_pos h2,if_pos (by simp),AG hq,if_neg (by omega)]
  ·rw [if_neg h2,if_neg (by simp),if_pos ⟨rfl,by omega⟩]
theorem zvq {ops:List AB} (hl:ops.length≤8) (ho: ∀o∈ops,FK o):U4 ops=some true:=by
 have h1: ∀o:AB,FK o→Vy o=some true:=by
  intro o h;have hk:=oI h.key;have hv:=oF h.val;unfold Vy ZT;rw [sM (by omega),Ab,h.key,if_neg (by simp)];rcases h.kind with k|k|k|k
  ·rw [k];simp [fK (s:=o.aw) (by omega),h.val,h.mq]
  ·have:=h.none (.inl k);rw [k];simp [this,h.mq]
  ·have:=h.none (.inr k);rw [k];simp [this,h.mq]
  ·rw [k];simp [fK (s:=o.aw) (by omega),h.val,h.mq]
 unfold U4;rw [Nl (xs:=ops) (body:=fun s:Int=>OR ops s) (fun _=>true) false (ZH ops) (fun i hi=>by
  show OR ops i=_;unfold OR;rw [if_pos (by simpa using hi),Bb hi,Ab,h1 _ (ho _ (List.getElem_mem hi)),Ab,if_neg (by simp),BM hi (by omega),if_pos rfl]) (by
  show OR ops ops.length=_;unfold OR;rw [if_neg (by simp)]),if_pos (AS.2 fun _ _=>rfl)]
 unfold ZH;simp;omega
theorem zQ {st:List Ac} {ops:List AB} (hl:ops.length≤8) (ho: ∀o∈ops,FK o) (hg:Cl st=true):Vt st ops=some (Fc st ops):=by
 obtain⟨hr,_⟩:=G3 hg;obtain⟨_,⟨g,e⟩,hw⟩:=eE hl ho hr;have Od:=hr.len;have hq:((([]:List Ac).length:Int)+((st).length:Int))*40≤140737488355328∧(([]:List Ac).length:Int)+((st).length:Int)≤140737488355328:=by rw [List.length_nil];omega
 have Jf: ∀b:Bool,((([]:List Bool).length:Int)+(([b]:List Bool).length:Int))*1≤140737488355328∧(([]:List Bool).length:Int)+(([b]:List Bool).length:Int)≤140737488355328:=by intro b;rw [List.length_nil,Aw];omega
 obtain⟨p1,p2,p3,p4⟩:=o6 hr hw;have wJ:Nb (EV st (Gz st ops).1)=some (decide (((EV st (Gz st ops).1).length:Int)≤24)):=by rw [eP (Z4 (by omega) p3),mQ p1 p3 p4]
 have GZ:IntKind.i64.wrap ((0:Int)+1)=1:=by decide
 have key:UC st [ops]=some ((Fc st ops).1, [(Fc st ops).2],true):=by
  unfold UC;rw [eP (Z4 (by omega) hr.c7),Ab,hg,if_neg (by simp)];have b0:M4 st [ops] 0=some (.inl 1):=by unfold M4;rw [if_pos (by simp),show getI [ops] 0=some ops from rfl,Ab,zvq hl ho,Ab,if_neg (by simp),GZ]
  have b1:M4 st [ops] 1=some (.inr (Ze st [ops])):=by unfold M4;rw [if_neg (by simp)]
  rw [G2 (body:=fun s:Int=>M4 st [ops] s) b0,FJ (body:=fun s:Int=>M4 st [ops] s) b1];unfold Ze;rw [AG hq];have c0:M6 [ops] [] 0 st=some (.inl ([(Fc st ops).2],1,(Fc st ops).1)):=by
   unfold M6 Fc;rw [if_pos (by simp),show getI [ops] 0=some ops from rfl,Ab,e,Ab,zvs hr hw,Ab];cases h1:(Gz st ops).2 with
   |false=>rw [if_neg (by simp),AG (Jf _),if_neg (by simp),GZ];rfl
   |true=>
    rw [if_pos rfl,wJ,Ab];by_cases h2:(EV st (Gz st ops).1).length≤24
    ·have h3:decide (((EV st (Gz st ops).1).length:Int)≤24)=true:=by simp;omega
     rw [h3,if_pos rfl,AG (Jf _),if_pos ⟨rfl,h2⟩,GZ];rfl
    ·have h3:decide (((EV st (Gz st ops).1).length:Int)≤24)=false:=by simp;omega
     rw [h3,if_neg (by simp),AG (Jf _),if_neg (by omega),GZ];rfl
  have c1: ∀(bs:List Bool) (l:List Ac),M6 [ops] bs 1 l=some (.inr (some (l,bs,true))):=by intro bs l;unfold M6;rw [if_neg (by simp)]
  rw [G2 (body:=fun s:List Bool × Int × List Ac=>M6 [ops] s.1 s.2.1 s.2.2) c0,FJ (body:=fun s:List Bool × Int × List Ac=>M6 [ops] s.1 s.2.1 s.2.2) (c1 _ _)]
 unfold Vt;rw [key,Ab,if_pos (by simp)];rfl
theorem zyU {st:List Ac} {ops:List AB} (hl:ops.length≤8) (ho: ∀o∈ops,FK o) (hg:Cl st=true):Cl (Fc st ops).1=true:=by
 obtain⟨hr,_⟩:=G3 hg;obtain⟨_,_,hw⟩:=eE hl ho hr;obtain⟨p1,p2,p3,p4⟩:=o6 hr hw;unfold Fc;split
 ·rename_i h;show Cl (EV st (Gz st ops).1)=true;rw [mQ p1 p3 p4];have:=h.2;simp;omega
 ·exact hg
theorem aZ {c:UInt8}: ∀{p q:Ag},(∀b∈p,b≠c)→AM c (p++ [c]++q)=p::AM c q:=fun{p q} h=>by rw [List.append_assoc];exact FV h
theorem P0 {b:UInt8} (h:Ep b=true):b≠47∧b≠44∧b≠46:=by refine⟨?_, ?_, ?_⟩<;>(rintro rfl;revert h;decide)
theorem rG {t:Aj} {n:Ag} (hg:A9 t=true) (hn:CI n 1=true): ∀b∈head t n,b≠47:=by
 intro b hb;unfold head at hb;simp only [Ah,List.mem_singleton]at hb;rcases hb with(hb|hb)|hb
 ·exact(P0 (Pm (Kt hg) b hb)).1
 ·subst hb;decide
 ·exact(P0 (Pm hn b hb)).1
theorem zxr {t:Aj} {n:Ag} {c:Int} {r:An} (hg:A9 t=true) (hn:CI n 1=true) (h:BD t r=true):AM 47 (Fe t n c r)= [head t n,BZ r c,BZ r 0]:=by unfold Fe;rw [show head t n++ [47]++BZ r c++ [47]++BZ r 0=head t n++ [47]++(BZ r c++ [47]++BZ r 0) by simp,aZ (rG hg hn),aZ fun b hb=>(P0 (PK h c b hb)).1,Jo fun b hb=>(P0 (PK h 0 b hb)).1]
theorem cI (t:Aj) (r:An):(BO t r).ab=t.ae++ [47]++BZ r 0:=by unfold BO BZ;rw [List.head?_eq_getElem?];rfl
theorem zwF {t:Aj} {r:An} (hg:A9 t=true) (h:BD t r=true):AM 47 (BO t r).ab= [t.ae,BZ r 0]:=by rw [cI,aZ fun b hb=>(P0 (Pm (Kt hg) b hb)).1,Jo fun b hb=>(P0 (PK h 0 b hb)).1]
theorem zBk {t:Aj} {r:An} {c:Int} (h:BD t r=true) (h0:0≤c) (h1:c≤(t.ax.length:Int)-1):field (BZ r c)=true:=by
 unfold BD at h;simp only [Ad,beq_iff_eq]at h;have hl:c.toNat<r.ah.length:=by have:=h.1;omega
 unfold BZ;rw [List.getElem?_eq_getElem hl];exact AS.1 h.2 _ (List.getElem_mem hl)
theorem zs6 {t:Aj} {n:Ag} {c:Int} {r r':An} (hg:A9 t=true) (hn:CI n 1=true) (h:BD t r=true) (h':BD t r'=true):(BO t r).ab≠Fe t n c r':=by intro e;have h1:=zwF hg h;rw [e,zxr hg hn h']at h1;simp at h1
theorem V7 {t:Aj} {w:Ac} (h:Ed t w=true):BD t (Dc w)=true∧w=BO t (Dc w):=by unfold Ed JD at h;simp only [Ad,beq_iff_eq]at h;obtain⟨h1,h2,h3,h4⟩:=h;refine⟨h1, ?_⟩;cases w;cases hq:BO t (Dc _);rename_i a b c d e f;rw [hq]at h2 h3 h4;simp only at h2 h3 h4;rw [h2,h3,h4]
def zS (t:Aj) (a:Ba):List Ac:=
 if a.af=1 then [⟨(BO t a.bj).ab,(BO t a.bj).aw,false⟩]else
 if a.af=2 then [⟨(BO t a.bg).ab, [],true⟩]else [⟨(BO t a.bg).ab,(BO t a.bj).aw,false⟩]
def yI (t:Aj) (a:Ba) (x:AX):List Ac:=
 (if H9 t a x≠ []∧H9 t a x≠HG t a x∧x.bc≥1 then [⟨H9 t a x, [],true⟩]else [])++(if HG t a x≠ []∧x.bc≥2 then [⟨HG t a x, [],false⟩]else [])
def iP (t:Aj) (a:Ba):List Ac:=zS t a++t.aj.flatMap (yI t a)
def zCp (t:Aj) (a:Ba) (st st':List Ac):Prop:=
 ∀y,y∈st'↔y.a8=false∧(y∈iP t a∨y∈st∧ ∀w∈iP t a,w.ab≠y.ab)
theorem FU {t:Aj} (h:A9 t=true):Fi t:=by
 have hn:=(Vw (Kt h)).1;have h0:=h;unfold A9 at h;simp only [Ad,decide_eq_true_eq]at h;have hl:=ES.1 h.1.1.2.2;have hc:=h.1.1.2.1;refine⟨by omega,by omega,fun c hm=> ?_,by omega,fun x hx=> ?_⟩
 ·obtain⟨i,hi,rfl⟩:=List.mem_iff_getElem.1 hm;unfold JB at hc;have:=AS.1 hc i (List.mem_range.2 hi);unfold LZ at this;rw [List.getElem?_eq_getElem hi]at this;simp only [Option.getD_some,Ad]at this;have:=(Vw this.1).1;omega
 ·have:=(Vw (No h0 hx).1).1;omega
structure I5 (l:List Ag):Prop where
 len:l.length≤10
 each: ∀s∈l,s.length≤10
theorem I5.small {l:List Ag} (h:I5 l):Small l:=⟨by have:=h.len;omega,by
 have h1:=Pu h.each;have h2:=h.len;have h3:10*l.length≤100:=by omega
 omega⟩
theorem Lz {t:Aj} {r:An} (hg:A9 t=true) (h:BD t r=true):I5 r.ah∧2≤r.ah.length:=by
 have Tw:=H2 hg;have h4:t.ax.length≤4:=by have:=hg;unfold A9 at this;simp only [Ad,decide_eq_true_eq]at this;have:=ES.1 this.1.1.2.2;omega
 unfold BD at h;rw [Ad,beq_iff_eq]at h;exact⟨⟨by omega,fun s hs=>by have:=cO (AS.1 h.2 s hs);omega⟩,by omega⟩
theorem eA {k v:Ag} (h1:Dh k=true) (h2:FX v=true):CO ⟨k,v,false⟩=true:=by unfold CO Hb;rw [h1,h2];rfl
theorem zvw {t:Aj} {r:An} (hg:A9 t=true) (h:BD t r=true):JC t r:=⟨by have h1:=h;unfold BD at h1;rw [Ad,beq_iff_eq]at h1;omega,(Lz hg h).1.small⟩
theorem bU {t:Aj} {l:List Ac} {r:An} (h:r∈rows t l):BD t r=true:=by unfold rows at h;obtain⟨w,hw,rfl⟩:=List.mem_map.1 h;exact(V7 (List.mem_filter.1 hw).2).1
theorem mC {t:Aj} {x:AX} {r:An} (hg:A9 t=true) (hx:x∈t.aj) (hr:BD t r=true):Lw t x r=some (Fe t x.ae x.cy r)∧CO ⟨Fe t x.ae x.cy r, [],false⟩=true:=by have hS:=FU hg;exact⟨dS hS.name (hS.idx x hx) (dD hg hx) (zvw hg hr),eA (bG hg (No hg hx).1 hr) (by decide)⟩
theorem bF {w:Ac} (h:CO w=true):HF w:=⟨by have:=pA h;omega,by have:=V5 h;omega⟩
theorem Hc [Inhabited DB] {c:AH} {k:Int} (l:List Ag) (hl:l≠ []) (h:BG c k) (hk:k≤4611686018427387000):BU (FI c l) fun p=>p.1∈l∧BG p.2 (k+2):=by unfold FI;have E3:0<l.length:=List.length_pos_iff.2 hl;refine(EB l.length h hk).bind fun p ⟨hp,hc⟩=> ?_;exact BU.bind (P:=fun y=>y∈l) (.getI hp.1 (hp.2.1 (by omega)) fun x hx=>hx) fun y hy=> .ret ⟨hy,hc⟩
def HV:List Ag:= [[105], [106], [109]]
structure iN (w:Int) (x:AX):Prop where
 c1:1≤x.cy
 c2:x.cy≤w
 s0:0≤x.bc
 s3:x.bc≤3
structure TI (w:Int) (q:Nat) (l:List AX):Prop where
 x: ∀x∈l,iN w x
 nm: ∀x∈l,x.ae∈HV.take q
 up:l.Pairwise fun a b=>Op.bytesLess a.ae b.ae=true
 len:l.length≤q
theorem xW: ∀{q:Nat},q<3→ ∀a∈HV.take q,Op.bytesLess a ((HV[q]?).getD [])=true:=by
 intro q hq;have:q=0∨q=1∨q=2:=by omega
 rcases this with rfl|rfl|rfl<;>decide
theorem rC {q:Nat} {a:Ag} (h:a∈HV.take q):a∈HV.take (q+1):=by rw [List.take_add_one];exact Ah.2 (.inl h)
theorem TI.add {w:Int} {q:Nat} {l:List AX} {x:AX} (h:TI w q l) (hq:q<3) (hx:iN w x) (hn:x.ae=(HV[q]?).getD []):TI w (q+1) (l++ [x]):=by
 refine⟨fun y hy=> ?_,fun y hy=> ?_, ?_, ?_⟩
 ·rcases Ah.1 hy with hy|hy
  ·exact h.x y hy
  ·rw [List.mem_singleton.1 hy];exact hx
 ·rcases Ah.1 hy with hy|hy
  ·exact rC (h.nm y hy)
  ·rw [List.mem_singleton.1 hy,hn,List.take_add_one];refine Ah.2 (.inr ?_);have:q<HV.length:=hq;rw [List.getElem?_eq_getElem this];simp
 ·refine List.pairwise_append.2 ⟨h.up,List.pairwise_singleton _ _,fun a ha b hb=> ?_⟩;rw [List.mem_singleton.1 hb,hn];exact xW hq _ (h.nm a ha)
 ·have:=h.len;rw [Ak,Aw];omega
theorem TI.more {w:Int} {q:Nat} {l:List AX} (h:TI w q l):TI w (q+1) l:=⟨h.x,fun y hy=>rC (h.nm y hy),h.up,by have:=h.len;omega⟩
theorem zu4 {nm:Ag} {cs:List Ag} {l:List AX} (hn:nm∈([[116], [117]]:List Ag)) (hc:JB cs=true) (h2:2≤cs.length) (h4:cs.length≤4) (h:TI ((cs.length:Int)-1) 3 l):A9 ⟨nm,cs,l⟩=true:=by
 unfold A9;have e1:CI nm 1=true:=by simp only [Ae,List.not_mem_nil,or_false]at hn;rcases hn with rfl|rfl<;>decide
 have hl:=h.len;simp only [e1,hc,Bool.true_and,Ad,decide_eq_true_eq];refine⟨⟨ES.2 ⟨by omega,by omega⟩,by omega⟩,AS.2 fun i hi=> ?_⟩;have hi:=List.mem_range.1 hi;unfold He;have ex:(l[i]?).getD ⟨[],0,0⟩=l[i]:=by rw [List.getElem?_eq_getElem hi];rfl
 dsimp only;rw [ex];have hm:=List.getElem_mem hi;have hx:=h.x _ hm;have D5:CI l[i].ae 1=true:=by have:=h.nm _ hm;have e:HV.take 3=HV:=rfl;rw [e]at this;unfold HV at this;simp only [Ae,List.not_mem_nil,or_false]at this;rcases this with e|e|e<;>rw [e]<;>decide
 rw [D5,ES.2 ⟨hx.c1,hx.c2⟩,ES.2 ⟨hx.s0,hx.s3⟩];simp only [Bool.true_and,Bool.or_eq_true,beq_iff_eq];by_cases h0:i=0
 ·exact .inl h0
 ·refine .inr ?_;have hp:i-1<l.length:=by omega
  have ep:(l[i-1]?).getD ⟨[],0,0⟩=l[i-1]:=by rw [List.getElem?_eq_getElem hp];rfl
  rw [ep];exact(List.pairwise_iff_getElem.1 h.up) (i-1) i hp hi (by omega)
def WE:List Ag:= [[107], [97], [98], [99,99]]
theorem oN {p:Int} (h0:0≤p) (h3:p<3):JB (AR WE 0 (IntKind.i64.wrap (2+p)))=true∧(((AR WE 0 (IntKind.i64.wrap (2+p))).length:Nat):Int)=2+p:=by
 rw [B3 (by omega) (by omega)];have:p=0∨p=1∨p=2:=by omega
 rcases this with rfl|rfl|rfl<;>exact⟨by decide,by decide⟩
theorem aV [Inhabited DB] {v2:Int × AH} {q:Nat} {l:List AX} {y:Ag} {a:List Int} {b e k:Int} {t:Bool} (h0:0≤v2.1) (h3:v2.1<3) (hq:q<3) (hy:y=(HV[q]?).getD []) (hl:TI (1+v2.1) q l) (hc:BG ⟨a,b,e⟩ k) (hk:k≤4611686018427380000):
  BU (Rw v2 q l y a b e t) fun o=> ∃(c:AH) (l':List AX),o= .inl (((q+1:Nat):Int),c.ay,c.ch,c.az,l')∧TI (1+v2.1) (q+1) l'∧BG c (k+4):=by
 unfold Rw;have hw:=(oN h0 h3).2;unfold WE at hw;have w1:IntKind.i64.wrap ((q:Int)+1)=((q+1:Nat):Int):=by rw [B3 (by omega) (by omega)];omega
 refine .ite (fun _=> ?_) fun _=> .ret ⟨⟨a,b,e⟩,l,by rw [w1],hl.more,hc.up (by omega)⟩;rw [hw,B3 (n:=2+v2.1-1) (by omega) (by omega)];refine(EB _ hc (by omega)).bind fun p ⟨hp,BE⟩=>(EB 4 BE (by omega)).bind fun r ⟨hr,Tw⟩=> ?_;have p2:=hp.2.1 (by omega);have r2:=hr.2.1 (by omega);have hlen:=hl.len;refine .req (by simp;omega) (.ret ⟨r.2,_,by rw [w1],hl.add hq ⟨?_, ?_,hr.1,by dsimp only;omega⟩ hy,Tw.up (by omega)⟩)
 ·dsimp only;rw [B3 (by omega) (by omega)];omega
 ·dsimp only;rw [B3 (by omega) (by omega)];omega
theorem pT [Inhabited DB] {c:AH} {k:Int} (h:BG c k) (hk:k≤4611686018427370000):BU (Ro c) fun p=>A9 p.1=true∧BG p.2 (k+40):=by
 unfold Ro;refine(Hc _ (by simp) h (by omega)).bind fun n ⟨hn,hc⟩=>(EB 3 hc (by omega)).bind fun p ⟨hp,hd⟩=> ?_;have p2:=hp.2.1 (by omega);obtain⟨GZ,IH⟩:=oN hp.1 p2;unfold WE at GZ IH;have w1:IntKind.i64.wrap (2+p.1)=2+p.1:=B3 (by omega) (by omega);refine .req ⟨by omega,by rw [w1];omega,by rw [w1];simp;omega⟩ (.req (by rw [IH];simp;omega) ?_);refine Ni (fun m s=> ∃q:Nat,s.1=(q:Int)∧q+m=3∧TI (1+p.1) q s.2.2.2.2∧BG ⟨s.2.1,s.2.2.1,s.2.2.2.1⟩ (k+4+8*q)) (fun m s hI=> ?_) (n:=3) ⟨0,rfl,rfl,⟨by simp,by simp, .nil,by simp⟩,by simpa using hd.up (by omega)⟩;obtain⟨q,e1,e2,hT,ho⟩:=hI;obtain⟨s1,a,b,e,l⟩:=s;dsimp only at e1 hT ho ⊢;subst e1;unfold jS;have ec:(([([105]:Aa),([106]:Aa),([109]:Aa)]:List (Aa)).length:Int)=3:=rfl;rw [ec];refine .ite (fun Ax=> ?_) fun Im=> ?_
 ·simp only [decide_eq_true_eq]at Ax;have hq:q<3:=by omega
  have eg:getI [([105]:Aa),([106]:Aa),([109]:Aa)] (q:Int)=some ((HV[q]?).getD []):=by
   have:q=0∨q=1∨q=2:=by omega
   rcases this with rfl|rfl|rfl<;>rfl
  rw [eg,Ab];refine(KQ 3 ho (by omega)).bind fun x hx=> .ite (fun _=> ?_) fun _=> .ite (fun _=> ?_) fun _=> ?_
  ·exact(aV hp.1 p2 hq rfl hT hx (by omega)).mono fun o ho=>by obtain⟨c',l',rfl,ht,K1⟩:=ho;exact⟨m-1,by omega,q+1,rfl,by omega,ht,K1.up (by omega)⟩
  ·refine(KQ 8 hx (by omega)).bind fun z hz=> ?_;exact(aV hp.1 p2 hq rfl hT hz (by omega)).mono fun o ho=>by obtain⟨c',l',rfl,ht,K1⟩:=ho;exact⟨m-1,by omega,q+1,rfl,by omega,ht,K1.up (by omega)⟩
  ·exact(aV hp.1 p2 hq rfl hT hx (by omega)).mono fun o ho=>by obtain⟨c',l',rfl,ht,K1⟩:=ho;exact⟨m-1,by omega,q+1,rfl,by omega,ht,K1.up (by omega)⟩
 ·simp only [decide_eq_false_iff_not]at Im;have:q=3:=by omega
  subst this;refine .ret (.ret ⟨zu4 hn GZ (by omega) (by omega) ?_,ho.up (by omega)⟩);rw [IH,show 2+p.1-1=1+p.1 by omega];exact hT
theorem zsg [Inhabited DB] {c:AH} {k:Int} (h:BG c k) (hk:k≤4611686018427360000):BU (Ub c) fun p=>Fi p.1∧BG p.2 (k+60):=by
 unfold Ub;refine(pT h (by omega)).bind fun p ⟨hg,hc⟩=>(EB 14 hc (by omega)).bind fun q ⟨_,hd⟩=> ?_;have hS:=FU hg;have Ay:=H2 hg;have h4:p.1.ax.length≤4∧p.1.aj.length≤3:=by have:=hg;unfold A9 at this;simp only [Ad,decide_eq_true_eq]at this;have:=ES.1 this.1.1.2.2;omega
 refine .ite (fun _=> ?_) fun _=> .ite (fun _=> ?_) fun _=> .ite (fun _=> ?_) fun _=> .ite (fun _=> ?_) fun _=> .ret ⟨⟨hS.name,hS.iz,hS.ma,hS.idxs,hS.idx⟩,hd.up (by omega)⟩
 ·refine(Hc _ (by simp) hd (by omega)).bind fun r ⟨hr,he⟩=> .ret ⟨⟨?_,hS.iz,hS.ma,hS.idxs,hS.idx⟩,he.up (by omega)⟩;simp only [Ae,List.not_mem_nil,or_false]at hr;dsimp only;rcases hr with e|e|e<;>rw [e]<;>decide
 ·refine(Hc _ (by simp) hd (by omega)).bind fun r ⟨hr,he⟩=> .req (by simp;omega) (.ret ⟨⟨hS.name, ?_,fun z hz=> ?_,hS.idxs,hS.idx⟩,he.up (by omega)⟩)
  ·dsimp only;rw [Ak,Aw];omega
  ·dsimp only at hz;rcases Ah.1 hz with hz|hz
   ·exact hS.ma z hz
   ·rw [List.mem_singleton.1 hz];simp only [Ae,List.not_mem_nil,or_false]at hr;rcases hr with e|e|e|e<;>rw [e]<;>decide
 ·refine .req ⟨by omega,by omega,by omega⟩ (.ret ⟨⟨hS.name, ?_,fun z hz=> ?_,hS.idxs,hS.idx⟩,hd.up (by omega)⟩)
  ·dsimp only;unfold AR;rw [List.length_drop,List.length_take];omega
  ·dsimp only at hz;unfold AR at hz;exact hS.ma z (List.mem_of_mem_take (List.mem_of_mem_drop hz))
 ·refine(Hc _ (by simp) hd (by omega)).bind fun r ⟨hr,he⟩=>(EB 5 he (by omega)).bind fun u ⟨_,hf⟩=>(EB 5 hf (by omega)).bind fun v ⟨_,uO⟩=> .req (by simp;omega) (.ret ⟨⟨hS.name,hS.iz,hS.ma, ?_,fun z hz=> ?_⟩,uO.up (by omega)⟩)
  ·dsimp only;rw [Ak,Aw];omega
  ·dsimp only at hz;rcases Ah.1 hz with hz|hz
   ·exact hS.idx z hz
   ·rw [List.mem_singleton.1 hz];simp only [Ae,List.not_mem_nil,or_false]at hr;dsimp only;rcases hr with e|e|e<;>rw [e]<;>decide
theorem SJ [Inhabited DB] {c:AH} {k:Int} {t:Aj} (hg:A9 t=true) (h:BG c k) (hk:k≤4611686018427380000):BU (Lt c t) fun p=>BD t p.1=true∧BG p.2 (k+20):=by
 have Tw:=H2 hg;have h4:t.ax.length≤4:=by have:=hg;unfold A9 at this;simp only [Ad,decide_eq_true_eq]at this;have:=ES.1 this.1.1.2.2;omega
 unfold Lt;refine(Hc _ (by simp) h (by omega)).bind fun n ⟨hn,hc⟩=> ?_;have uN:field n.1=true:=by simp only [Ae,List.not_mem_nil,or_false]at hn;rcases hn with e|e|e|e|e|e<;>rw [e]<;>decide
 refine Ni (fun m s=>s.2.2.2.length+m=t.ax.length∧(∀x∈s.2.2.2,field x=true)∧BG ⟨s.1,s.2.1,s.2.2.1⟩ (k+2+4*s.2.2.2.length)) (fun m s hI=> ?_) (n:=t.ax.length-1) ⟨by simp;omega,by simpa using uN,hc.up (by simp;omega)⟩;obtain⟨a,b,e,l⟩:=s;obtain⟨i1,i2,i3⟩:=hI;dsimp only at i1 i2 i3 ⊢;unfold jZ;refine .ite (fun Ax=> ?_) fun Im=> ?_
 ·simp only [decide_eq_true_eq]at Ax;refine(Hc _ (by simp) i3 (by omega)).bind fun x ⟨hx,hd⟩=> .req (by simp;omega) (.ret ⟨m-1,by omega,by simp;omega,fun z hz=> ?_, ?_⟩)
  ·dsimp only at hz;rcases Ah.1 hz with hz|hz
   ·exact i2 z hz
   ·rw [List.mem_singleton.1 hz];simp only [Ae,List.not_mem_nil,or_false]at hx;rcases hx with e|e|e|e|e<;>rw [e]<;>decide
  ·refine hd.up ?_;dsimp only;rw [Ak,Aw];omega
 ·simp only [decide_eq_false_iff_not]at Im;refine .ret (.ret ⟨?_,i3.up (by omega)⟩);unfold BD;rw [Ad,beq_iff_eq];exact⟨by dsimp only;omega,AS.2 i2⟩
theorem I5.set {l:List Ag} {i:Nat} {s:Ag} (h:I5 l) (hs:s.length≤10):I5 (l.set i s):=⟨by rw [List.length_set];exact h.len,fun x hx=>by
 rcases List.mem_or_eq_of_mem_set hx with hx|rfl
 ·exact h.each x hx
 ·exact hs⟩
end Go.Proofs.YtollgpkegmbpmaaGreatDoor
end
