/- Parts of a proof, joined: NVP, NSY, ND, NDR, NVJ, NVN, NVK. -/
import Derived.Test.YtalagilebkaegaaGreatR10
set_option linter.unusedVariables false
set_option linter.unusedSimpArgs false
namespace Go.Proofs.YtalagilebkaegaaGreat
open Go.RowKit
section
set_option maxRecDepth 100000
set_option maxHeartbeats 2000000
set_option maxHeartbeats 1000000
theorem nS{s:Aj}(h:CC s=true):s.length<=12:=by unfold CC at h;rw[Ab]at h;have:=E5.1 h.1;omega
theorem zH{ks:List Aj}(h:Ds ks=true):∀k∈ks,k.length<=12:=λk hk=>by unfold Ds at h;rw[Ab,A3]at h;exact nS (h.1 k hk)
theorem zxD{v:Aj}{g:Bool}(h:FZ v g=true):v.length<=24:=by unfold FZ Mk at h;simp only[Ab,AI]at h;omega
def FI(z:An × List Bool)(a:CB):An × List Bool:=match G4 z.1 a with
 |some d=>(d,z.2++ [true])
 |none=>(z.1,z.2++ [false])
theorem aE{z:An × List Bool}{a:CB}(g:GD z.1):GD (FI z a).1/\(FI z a).2.length=z.2.length+1:=by
 unfold FI;cases hs:G4 z.1 a with
 |none=>exact⟨g,by simp⟩
 |some d=>exact⟨nZ g hs,by simp⟩
theorem zD2{d:An}{al:List CB}(g:GD d)(hl:al.length<=80):Az (λs:Int × List (Ag) × List Ai × List AE × List Bool=>Pe al s.1 s.2.1 s.2.2.1 s.2.2.2.1 s.2.2.2.2) (0,d.bc,d.ar,d.ak,[])=some ((al.foldl FI (d,[])).1,(al.foldl FI (d,[])).2,true):=by
 refine(E7 (xs:=al) (body:=λs:Int × List (Ag) × List Ai × List AE × List Bool=>Pe al s.1 s.2.1 s.2.2.1 s.2.2.2.1 s.2.2.2.2) (λi (z:An × List Bool)=>(i,z.1.bc,z.1.ar,z.1.ak,z.2)) FI (λz=>some (z.1,z.2,true)) (λi z=>GD z.1/\z.2.length=i)
  (λi hi z hz=>by
   obtain⟨g1,g2⟩:=aE (a:=al[i]) hz.1;refine⟨?_,g1,by rw[g2,hz.2]⟩;show Pe al (i:Int) z.1.bc z.1.ar z.1.ak z.2=_;unfold Pe;have e:QX ⟨z.1.bc,z.1.ar,z.1.ak⟩ al[i]=some (KW (G4 z.1 al[i])):=zzQ hz.1;have Nc:=hz.2;rw[if_pos (by simpa using hi),AJ hi,Aa,e,Aa,Be (by omega)];unfold FI;cases G4 z.1 al[i]with
   |none=>rw[if_neg (by simp[KW]),A7 (by simp only[RM,AS];omega)];rfl
   |some x=>rw[if_pos (by rfl),A7 (by simp only[RM,AS];omega)];rfl)
  (λz _=>by show Pe al (al.length:Int) z.1.bc z.1.ar z.1.ak z.2=_;unfold Pe;rw[if_neg (by simp)]) (s:=(d,[])) ⟨g,rfl⟩).1
theorem zyK{d:An}{al:List CB}(g:GD d)(hl:al.length<=80):Vw d al=some (al.foldl FI (d,[])):=by
 unfold Vw;rw[wU g,Aa];refine(E7 (xs:=al) (body:=λs:List Bool × Int × List (Ag) × List Ai × List AE=>RG al s.1 s.2.1 s.2.2.1 s.2.2.2.1 s.2.2.2.2) (λi (z:An × List Bool)=>(z.2,i,z.1.bc,z.1.ar,z.1.ak)) FI (λz=>some z) (λi z=>GD z.1/\z.2.length=i)
  (λi hi z hz=>by
   obtain⟨g1,g2⟩:=aE (a:=al[i]) hz.1;refine⟨?_,g1,by rw[g2,hz.2]⟩;show RG al z.2 (i:Int) z.1.bc z.1.ar z.1.ak=_;unfold RG;have e:R3 ⟨z.1.bc,z.1.ar,z.1.ak⟩ al[i]=some (KW (G4 z.1 al[i])):=rC hz.1;have Nc:=hz.2;rw[if_pos (by simpa using hi),AJ hi,Aa,e,Aa,Be (by omega)];unfold FI;cases G4 z.1 al[i]with
   |none=>rw[if_neg (by simp[KW]),A7 (by simp only[RM,AS];omega)];rfl
   |some x=>rw[if_pos (by rfl),A7 (by simp only[RM,AS];omega)];rfl)
  (λz _=>by show RG al z.2 (al.length:Int) z.1.bc z.1.ar z.1.ak=_;unfold RG;rw[if_neg (by simp)]) (s:=(d,[])) ⟨g,rfl⟩).1
theorem nQ:∀(al:List CB) (z:An × List Bool),GD z.1->GD (al.foldl FI z).1/\(al.foldl FI z).2.length=z.2.length+al.length
 | [],z,g=>⟨g,by simp⟩
 |a::al,z,g=>by obtain⟨g1,g2⟩:=aE (a:=a) g;obtain⟨h1,h2⟩:=nQ al _ g1;refine⟨h1,?_⟩;rw[List.foldl_cons,h2,g2,Bd];omega
def Lf:Ai:=⟨0,[],[],[]⟩
def Ir(s:Ai)(r:AP):Ai:=(Cm s r).getD s
def sE(rs:List AP):Ai:=rs.foldl Ir Lf
theorem eW:WS Lf where
 cells:=⟨List.Pairwise.nil,by simp[Lf],λc hc=>by simp[Lf]at hc⟩
 ee:=by simp[Lf]
 di:=List.Pairwise.nil
 held:=λh hh=>by simp[Lf]at hh
 dh:=List.Pairwise.nil
 told:=λh hh=>by simp[Lf]at hh
theorem WS.step{s:Ai}{r:AP}(h:WS s)(hr:F5 r):WS (Ir s r):=by
 unfold Ir;cases e:Cm s r with
 |none=>exact h
 |some s'=>exact zxa h hr e
theorem zwV:∀(rs:List AP) (s:Ai),WS s->(∀r∈rs,F5 r)->WS (rs.foldl Ir s)
 | [],s,h,_=>h
 |r::rs,s,h,hr=>zwV rs (Ir s r) (h.step (hr r (by simp))) λx hx=>hr x (by simp[hx])
theorem zzK{rs:List AP}(hr:∀r∈rs,F5 r):WS (sE rs):=zwV rs _ eW hr
theorem zxm:∀(rs:List AP) (s:Ai) (b:List Bool),(rs.foldl (λ(z:Ai × List Bool) r=>(Ir z.1 r,z.2++ [(Cm z.1 r).isSome])) (s,b)).1=rs.foldl Ir s
 | [],_,_=>rfl
 |r::rs,s,b=>zxm rs (Ir s r) _
theorem zFo{rs:List AP}(hl:rs.length<=1000000)(hr:∀r∈rs,F5 r):∃b,Zn rs=some (sE rs,b):=by
 refine⟨(rs.foldl (λ(z:Ai × List Bool) r=>(Ir z.1 r,z.2++ [(Cm z.1 r).isSome])) (Lf,[])).2,?_⟩;unfold Zn;have:=(E7 (xs:=rs) (body:=λs:List Bool × Int × Int × List Ak × List AG × List Bz=>RQ rs s.1 s.2.1 s.2.2.1 s.2.2.2.1 s.2.2.2.2.1 s.2.2.2.2.2) (λi (z:Ai × List Bool)=>(z.2,i,z.1.aw,z.1.ao,z.1.ab,z.1.au)) (λz r=>(Ir z.1 r,z.2++ [(Cm z.1 r).isSome])) (λz=>some (z.1,z.2)) (λi z=>WS z.1/\z.2.length=i)
  (λi hi z hz=>by
   have OW:=hr _ (Ay hi);refine⟨?_,hz.1.step OW,by simp[hz.2]⟩;have Nc:=hz.2;show RQ rs z.2 (i:Int) z.1.aw z.1.ao z.1.ab z.1.au=_;unfold RQ;obtain⟨x,e1,e2⟩:=zxk hz.1 OW;rw[if_pos (by simpa using hi),AJ hi,Aa,show(⟨z.1.aw,z.1.ao,z.1.ab,z.1.au⟩:Ai)=z.1 from rfl,e1,Aa,Be (by omega)];unfold Ir;cases e:Cm z.1 rs[i]with
   |none=>simp only[Option.isSome_none,Ba,if_false];rw[A7 (by simp only[AS];omega)];rfl
   |some s'=>simp only[Option.isSome_some,if_true];rw[A7 (by simp only[AS];omega),e2 s' e];rfl)
  (λz _=>by show RQ rs z.2 (rs.length:Int) z.1.aw z.1.ao z.1.ab z.1.au=_;unfold RQ;rw[if_neg (by simp)]) (s:=(Lf,[])) ⟨eW,rfl⟩).1
 refine this.trans ?_;rw[zxm];rfl
def BO{α:Type}(o:Option α)(Q:α->Prop):Prop:= ∃x,o=some x/\Q x
section
variable {α β σ:Type} {Q:β->Prop}
theorem BO.bind{o:Option α}{P:α->Prop}{f:α->Option β}(h:BO o P)(hf:∀x,P x->BO (f x) Q):BO (o.bind f) Q:=by obtain⟨x,rfl,hx⟩:=h;exact hf x hx
theorem BO.ret{x:β}(h:Q x):BO (some x) Q:=⟨x,rfl,h⟩
theorem BO.ite{b:Bool}{A B:Option β}(ha:b=true->BO A Q)(hb:b=false->BO B Q):BO (if b=true then A else B) Q:=by
 cases b with
 |true=>simpa using ha rfl
 |false=>simpa using hb rfl
theorem BO.req{p:Prop}[Decidable p]{k:Option β}(hp:p)(hk:BO k Q):BO (req p k) Q:=by rw[A7 hp];exact hk
theorem BO.mono{o:Option β}{P:β->Prop}(h:BO o P)(hPQ:∀x,P x->Q x):BO o Q:=by obtain⟨x,hx,h⟩:=h;exact⟨x,hx,hPQ x h⟩
theorem BO.getI{xs:List β}{i:Int}(h0:0<=i)(h:i<xs.length)(hq:∀x,x∈xs->Q x):BO (getI xs i) Q:=by obtain⟨x,h1,h2,_⟩:=oE h0 h;exact⟨x,h1,hq x h2⟩
theorem PC{body:σ->Option (σ ⊕ Option β)}(I:Nat->σ->Prop)(h:∀n s,I n s->BO (body s) λo=>match o with| .inl s'=> ∃m,m<n/\I m s'| .inr q=>BO q Q):∀{n:Nat} {s:σ},I n s->BO (Az body s) Q:=by
 intro n
 induction n using Nat.strongRecOn with
 |_ n ih=>
  intro s hI;obtain⟨o,ho,h2⟩:=h n s hI;rw[EE,ho]
  match o,h2 with
  | .inl s',⟨m,hm,hI'⟩=>exact ih m hm hI'
  | .inr q,hq=>exact hq
end
structure EI where
 lr:List Int->Prop
 ml:∀l,lr l-> ∀b∈l,0<=b/\b<=255
instance codeBytes:Inhabited EI:=⟨⟨λl=> ∀b∈l,0<=b/\b<=255,λ_ h=>h⟩⟩
def B8[Inhabited EI](c:AQ)(k:Int):Prop:=(default:EI).lr c.bk/\0<=c.df/\c.df<=k
theorem B8.up[Inhabited EI]{c:AQ}{i j:Int}(h:B8 c i)(Ei:i<=j):B8 c j:=⟨h.1,h.2.1,by have:=h.2.2;omega⟩
theorem B8.start[Inhabited EI]{code:List Int}(h:(default:EI).lr code):B8 ⟨code,0,0⟩ 0:=⟨h,by simp,by simp⟩
theorem rW(a:Int):0<=IntKind.i64.wrap (IntKind.u64.wrap ((BitVec.ofInt (IntKind.bits .u64) a&&&BitVec.ofInt (IntKind.bits .u64) 255).toNat:Int))/\IntKind.i64.wrap (IntKind.u64.wrap ((BitVec.ofInt (IntKind.bits .u64) a&&&BitVec.ofInt (IntKind.bits .u64) 255).toNat:Int))<=255:=by
 have h:(BitVec.ofInt (IntKind.bits .u64) a&&&BitVec.ofInt (IntKind.bits .u64) 255).toNat<=255:=by rw[BitVec.toNat_and];exact Nat.le_trans Nat.and_le_right (by decide)
 generalize (BitVec.ofInt (IntKind.bits .u64) a&&&BitVec.ofInt (IntKind.bits .u64) 255).toNat=m at h ⊢;have e:IntKind.u64.wrap (m:Int)=m:=by simp[IntKind.wrap,IntKind.bits,IntKind.signed];omega
 rw[e,CQ (by omega) (by omega)];omega
theorem qW[Inhabited EI]{c:AQ}{k:Int}(h:B8 c k)(hk:k<=4611686018427387904):BO (UR c) λp=>(0<=p.1/\p.1<=255)/\B8 p.2 (k+1):=by
 obtain⟨hb,h0,h1⟩:=h;have w:IntKind.i64.wrap (c.df+1)=c.df+1:=CQ (by omega) (by omega);unfold UR;refine .ite (λAx=> ?_) λAx=> ?_
 ·simp only[AI]at Ax;refine BO.bind (P:=λy=>0<=y/\y<=255) (.getI h0 Ax ((default:EI).ml _ hb)) λy hy=> ?_;have wy:IntKind.i64.wrap y=y:=CQ (by omega) (by omega);refine .ite (λ_=> .ret ⟨by dsimp only;rw[wy];exact hy,hb,by dsimp only;omega,by dsimp only;omega⟩) λ_=> .ret ⟨rW _,hb,by dsimp only;omega,by dsimp only;omega⟩
 ·refine .ite (λ_=> .ret ⟨by simp,hb,by dsimp only;omega,by dsimp only;omega⟩) λ_=> .ret ⟨rW _,hb,by dsimp only;omega,by dsimp only;omega⟩
theorem FF[Inhabited EI]{c:AQ}{k:Int}(n:Int)(h:B8 c k)(hk:k<=4611686018427387000):BO (Ff c n) λp=>(0<=p.1/\(1<=n->p.1<n)/\p.1<=65535)/\B8 p.2 (k+2):=by
 have tm:∀x:Int,0<=x->1<n->0<=x.tmod n/\x.tmod n<n/\x.tmod n<=x:=λx hx hn=>by
  rw[Int.tmod_eq_emod_of_nonneg hx];exact⟨Int.emod_nonneg _ (by omega),Int.emod_lt_of_pos _ (by omega),by have:=Int.emod_add_mul_ediv x n;have h2:0<=n*(x/n):=Int.mul_nonneg (by omega) (Int.ediv_nonneg hx (by omega));omega⟩
 unfold Ff;refine .ite (λhn=> .ret ⟨⟨by simp,λh1=>by dsimp only;omega,by simp⟩,h.up (by omega)⟩) λhn=> ?_;simp only[decide_eq_false_iff_not]at hn;refine(qW h (by omega)).bind λp ⟨hp,hc⟩=> ?_;refine .ite (λ_=> ?_) λ_=> ?_
 ·refine(qW hc (by omega)).bind λq ⟨hq,hd⟩=> .req (by omega) (.ret ?_);have w1:IntKind.i64.wrap (p.1*256)=p.1*256:=CQ (by omega) (by omega);have w2:IntKind.i64.wrap (p.1*256+q.1)=p.1*256+q.1:=CQ (by omega) (by omega);have:=tm (p.1*256+q.1) (by omega) (by omega);dsimp only;rw[w1,w2];exact⟨⟨this.1,λ_=>this.2.1,by omega⟩,hd.up (by omega)⟩
 ·have:=tm p.1 hp.1 (by omega);exact .req (by omega) (.ret ⟨⟨this.1,λ_=>this.2.1,by dsimp only;omega⟩,hc.up (by omega)⟩)
theorem mK[Inhabited EI]{c:AQ}{k:Int}(l:List Int)(hl:l≠ [])(h:B8 c k)(hk:k<=4611686018427387000):BO (QT c l) λp=>p.1∈l/\B8 p.2 (k+2):=by unfold QT;have LM:0<l.length:=List.length_pos_iff.2 hl;refine(FF l.length h hk).bind λp ⟨hp,hc⟩=> ?_;exact BO.bind (P:=λy=>y∈l) (.getI hp.1 (hp.2.1 (by omega)) λx hx=>hx) λy hy=> .ret ⟨hy,hc⟩
theorem oP[Inhabited EI]{c:AQ}{k:Int}(n:Int)(h:B8 c k)(hk:k<=4611686018427387000):BO (Ns c n) λp=>B8 p.2 (k+2):=by unfold Ns;exact(FF n h hk).bind λp ⟨_,hc⟩=> .ret hc
theorem rS[Inhabited EI]{c:AQ}{k:Int}{l:List Aj}{Q:Aj->Prop}(hl:l≠ [])(hq:∀s∈l,Q s)(h:B8 c k)(hk:k<=4611686018427387000):BO (UW c l) λp=>Q p.1/\B8 p.2 (k+2):=by unfold UW;have LM:0<l.length:=List.length_pos_iff.2 hl;refine(FF l.length h hk).bind λp ⟨hp,hc⟩=> ?_;exact BO.bind (P:=λy=>Q y) (.getI hp.1 (hp.2.1 (by omega)) hq) λy hy=> .ret ⟨hy,hc⟩
theorem zyX{ks:List Aj}(h:Em ks)(hk:∀k∈ks,CC k=true):Ds ks=true:=by unfold Ds;rw[Ab,A3,Mc,Ks (r:=bl) λa b c p q=>EF p q];exact⟨hk,h⟩
theorem zCt{ws:List Ap}(h:Il ws)(hw:∀w∈ws,GC w=true)(hl:ws.length<=24):FD ws=true:=by unfold FD;rw[Mc,ZA];simp only[Ab,AI,A3];exact⟨by omega,hw,(Ks (r:=λa b:Ap=>bl a.aj b.aj) λa b c p q=>EF p q).2 h⟩
theorem yN{w:Ap}(h:GC w=true):w.aj.length<=12/\w.bw.length<=24:=by unfold GC at h;rw[Ab]at h;exact⟨nS h.1,zxD h.2⟩
theorem zyV[Inhabited EI]{c:AQ}{k:Int}(h:B8 c k)(hk:k<=4611686018427380000):BO (U1 c) λp=>CC p.1=true/\B8 p.2 (k+2):=by unfold U1;exact(rS (Q:=λs=>CC s=true) (by simp) (A3.1 (by kernel_rfl)) h (by omega)).bind λp ⟨a,b⟩=> .ret ⟨a,b⟩
theorem zDB[Inhabited EI]{c:AQ}{k:Int}(h:B8 c k)(hk:k<=4611686018427380000):BO (X7 c) λp=>Mk p.1=true/\B8 p.2 (k+2):=by unfold X7;exact(rS (Q:=λs=>Mk s=true) (by simp) (A3.1 (by kernel_rfl)) h (by omega)).bind λp ⟨a,b⟩=> .ret ⟨a,b⟩
theorem zz2[Inhabited EI]{c:AQ}{k:Int}{s:Aj}(hs:CC s=true)(h:B8 c k)(hk:k<=4611686018427370000):BO (X3 c s) λp=>(p.1.aj=s/\GC p.1=true)/\B8 p.2 (k+4):=by
 unfold X3;refine(oP 4 h (by omega)).bind λp hc=> ?_;refine .ite (λ_=> .ret ⟨⟨rfl,?_⟩,hc.up (by omega)⟩) λ_=> ?_
 ·unfold GC;rw[hs];rfl
 ·refine(zDB hc (by omega)).bind λq ⟨hq,hd⟩=> .ret ⟨⟨rfl,?_⟩,hd.up (by omega)⟩;unfold GC FZ;rw[hs,hq];rfl
def N7:List Aj:=[[97],[98],[99],[105,47,120,47,49],[109],[110],[114,47,49],[122]]
theorem zye{i j:Nat}{a b:Aj}(ha:N7[i]?=some a)(hb:N7[j]?=some b)(h:i<j):bl a b=true:=by have hr:Em N7:=(Ks (r:=bl) λa b c p q=>EF p q).1 (by kernel_rfl);obtain⟨h1,rfl⟩:=List.getElem?_eq_some_iff.1 ha;obtain⟨h2,rfl⟩:=List.getElem?_eq_some_iff.1 hb;exact List.pairwise_iff_getElem.1 hr i j h1 h2 h
theorem xJ[Inhabited EI]{c:AQ}{k:Int}(h:B8 c k)(h0:0<=k)(hk:k<=4611686018427360000):BO (UU c) λp=>(FD p.1=true/\p.1.length<=8)/\B8 p.2 (k+100):=by
 unfold UU;refine PC (λ(n:Nat) (s:List Ap × Int × List Int × Int × Int)=>(s.2.1+(n:Int)=8/\0<=s.2.1)/\((s.1.length:Int)<=s.2.1/\(∀w∈s.1,GC w=true/\ ∃j:Nat,(j:Int)<s.2.1/\N7[j]?=some w.aj)/\Il s.1)/\B8 ⟨s.2.2.1,s.2.2.2.1,s.2.2.2.2⟩ (k+8*s.2.1)) (λn s hI=> ?_) (n:=8) ⟨⟨by simp,by simp⟩,⟨by simp,by simp,List.Pairwise.nil⟩,by simpa using h⟩;obtain⟨⟨i1,i2⟩,⟨i3,i4,i6⟩,i5⟩:=hI;show BO (gK s.1 s.2.1 s.2.2.1 s.2.2.2.1 s.2.2.2.2) _;unfold gK;refine .ite (λAx=> ?_) λ_=> .ret (.ret ⟨⟨zCt i6 (λw hw=>(i4 w hw).1) (by(try dsimp only);omega),by(try dsimp only);omega⟩,i5.up (by omega)⟩);have Ax:s.2.1<8:=by simpa using Ax
 have w1:IntKind.i64.wrap (s.2.1+1)=s.2.1+1:=CQ (by omega) (by omega);obtain⟨y,e1,e2,e3⟩:=oE (xs:=N7) (i:=s.2.1) i2 (by simpa[N7]using Ax);have gy:CC y=true:=A3.1 (show N7.all CC=true by kernel_rfl) y e2;have e1':getI [([97]:Ag),([98]:Ag),([99]:Ag),([105,47,120,47,49]:Ag),([109]:Ag),([110]:Ag),([114,47,49]:Ag),([122]:Ag)] s.2.1=some y:=e1;rw[e1',Aa];refine(oP 4 i5 (by omega)).bind λp hc=> ?_;have low:∀w∈s.1,GC w=true/\ ∃j:Nat,(j:Int)<s.2.1+1/\N7[j]?=some w.aj:=λw hw=>by obtain⟨a,j,b,d⟩:=i4 w hw;exact⟨a,j,by omega,d⟩
 refine .ite (λ_=> ?_) λ_=> .ret ⟨n-1,by omega,⟨by(try dsimp only);rw[w1];omega,by(try dsimp only);rw[w1];omega⟩,⟨by(try dsimp only);rw[w1];omega,by(try dsimp only);rw[w1];exact low,i6⟩,hc.up (by(try dsimp only);rw[w1];omega)⟩;refine(zz2 gy hc (by omega)).bind λq ⟨⟨GQ,Fu⟩,hd⟩=> ?_;refine .req (by simp only[RM,AS];omega) (.ret ⟨n-1,by omega,⟨by(try dsimp only);rw[w1];omega,by(try dsimp only);rw[w1];omega⟩,⟨by(try dsimp only);rw[w1,AH,AS];omega,λw hw=> ?_,?_⟩,hd.up (by(try dsimp only);rw[w1];omega)⟩)
 ·(try dsimp only)
  rw[w1];rcases Ac.1 hw with hw|hw
  ·exact low w hw
  ·simp only[List.mem_singleton]at hw;rw[hw,GQ];exact⟨Fu,s.2.1.toNat,by omega,e3⟩
 ·refine List.pairwise_append.2 ⟨i6,List.pairwise_singleton _ _,λa ha b hb=> ?_⟩;simp only[List.mem_singleton]at hb;obtain⟨_,j,hj,ej⟩:=i4 a ha;rw[hb];show bl a.aj q.1.aj=true;rw[GQ];exact zye ej e3 (by omega)
theorem zJ{n:Int}{rs:List Aj}{ws:List Ap}(h1:1<=n)(h2:n<=60)(hr:Ds rs=true)(hl:rs.length<=8)(hw:FD ws=true)(Us:ws.length<=8)(hp:0<rs.length+ws.length):DA ⟨n,rs,ws⟩=true/\Ih ⟨n,rs,ws⟩:=by
 refine⟨?_,⟨by show rs.length<=_;omega,λk hk=>by have:=zH hr k hk;omega⟩,⟨by show ws.length<=_;omega,λw hwm=> ?_⟩⟩
 ·unfold DA CK QG;rw[if_pos rfl];simp only[Ab,AI];exact⟨E5.2 ⟨h1,h2⟩,rfl,rfl,hr,by omega,hw,by omega,by omega,rfl⟩
 ·unfold FD at hw;simp only[Ab,A3]at hw;have:=yN (hw.2.1 w hwm);omega
def Ni(l:List AE)(n:Int):Prop:=(l.length:Int)<n/\((∀o∈l,(DA o=true/\Ih o)/\o.ah<n)/\l.Pairwise λa b=>a.ah<b.ah)
theorem Ni.add{l:List AE}{n:Int}{o:AE}(h:Ni l n)(ho:DA o=true/\Ih o)(e:o.ah=n):Ni (l++ [o]) (n+1):=by
 obtain⟨h1,h2,h3⟩:=h;refine⟨by rw[AH,AS];omega,λx hx=> ?_,List.pairwise_append.2 ⟨h3,List.pairwise_singleton _ _,λa ha b hb=> ?_⟩⟩
 ·rcases Ac.1 hx with hx|hx
  ·exact⟨(h2 x hx).1,by have:=(h2 x hx).2;omega⟩
  ·simp only[List.mem_singleton]at hx;rw[hx];exact⟨ho,by omega⟩
 ·simp only[List.mem_singleton]at hb;rw[hb,e];exact(h2 a ha).2
theorem Ni.jf{l:List AE}{n:Int}(h:Ni l n)(hn:n<=9):Jt l=true:=by obtain⟨h1,h2,h3⟩:=h;unfold Jt;rw[Ab,A3];refine⟨λi hi=> ?_,decide_eq_true (by omega)⟩;have hi:=List.mem_range.1 hi;rw[V2 hi,(h2 _ (Ay hi)).1.1,Bool.true_and,Bc,List.any_eq_false];intro p hp;obtain⟨j,hj,rfl⟩:=List.mem_iff_getElem.1 hp;rw[Ar]at hj;rw[List.getElem_take];have:=List.pairwise_iff_getElem.1 h3 j i (by omega) hi (by omega);simpa using Int.ne_of_lt this
theorem zzE[Inhabited EI]{c:AQ}{k:Int}(h:B8 c k)(h0:0<=k)(hk:k<=4611686018427350000):BO (XZ c) λp=>(∃n,n<=5/\Ni p.1 n)/\B8 p.2 (k+1000):=by
 unfold XZ;refine PC (λ(m:Nat) (s:List AE × Int × List Int × Int × Int)=>(s.2.1+(m:Int)=5/\1<=s.2.1)/\Ni s.1 s.2.1/\B8 ⟨s.2.2.1,s.2.2.2.1,s.2.2.2.2⟩ (k+200*s.2.1)) (λm s hI=> ?_) (n:=4) ⟨⟨by simp,by simp⟩,⟨by simp,by simp,List.Pairwise.nil⟩,h.up (by simp;omega)⟩;obtain⟨⟨i1,i2⟩,i3,i4⟩:=hI;show BO (gL s.1 s.2.1 s.2.2.1 s.2.2.2.1 s.2.2.2.2) _;unfold gL;refine .ite (λAx=> ?_) λ_=> ?_
 ·have Ax:s.2.1<=4:=by simpa using Ax
  refine(oP 5 i4 (by omega)).bind λp hc=> ?_;unfold XR;refine .ite (λ_=> ?_) λ_=> .ret (.ret ⟨⟨s.2.1,by omega,i3⟩,hc.up (by omega)⟩);refine(xJ hc (by omega) (by omega)).bind λq ⟨⟨GQ,Fu⟩,hd⟩=> ?_;refine(FF 3 hd (by omega)).bind λr ⟨hr,he⟩=> ?_;have FR:=hr.2.1 (by omega);have w1:IntKind.i64.wrap (s.2.1+1)=s.2.1+1:=CQ (by omega) (by omega);refine PC (λ(n:Nat) (z:Int × List Int × Int × Int × List Aj)=>(z.1=(n:Int)/\(n:Int)<=2)/\((z.2.2.2.2.length:Int)+n<=2/\Em z.2.2.2.2/\ ∀x∈z.2.2.2.2,CC x=true)/\B8 ⟨z.2.1,z.2.2.1,z.2.2.2.1⟩ (k+200*s.2.1+104+2*(2-(n:Int)))) (λn z hz=> ?_) (n:=r.1.toNat) ⟨⟨by(try dsimp only);omega,by omega⟩,⟨by(try dsimp only);simp;omega,List.Pairwise.nil,by simp⟩,he.up (by(try dsimp only);omega)⟩;obtain⟨⟨z1,z2⟩,⟨z3,z4,z5⟩,z6⟩:=hz;show BO (gN s.1 s.2.1 q z.1 z.2.1 z.2.2.1 z.2.2.2.1 z.2.2.2.2) _;unfold gN;refine .ite (λGX=> ?_) λ_=> .ret ?_
  ·have GX:z.1>0:=by simpa using GX
   refine(zyV z6 (by omega)).bind λt ⟨ht,hf⟩=> ?_;have w2:IntKind.i64.wrap (z.1-1)=z.1-1:=CQ (by omega) (by omega);rw[SI (by omega) z4,Aa,w2];have hn:=Sw t.1 z.2.2.2.2;refine .ret ⟨n-1,by omega,⟨by(try dsimp only);omega,by omega⟩,⟨by(try dsimp only);omega,PD z4,λx hx=> ?_⟩,hf.up (by(try dsimp only);omega)⟩;rcases(mP z4 x).1 hx with hx|hx
   ·rw[hx];exact ht
   ·exact z5 x hx
  ·unfold tD;have w3:IntKind.i64.wrap ((z.2.2.2.2.length:Int)+(q.1.length:Int))=(z.2.2.2.2.length:Int)+(q.1.length:Int):=CQ (by omega) (by omega);have hl:=i3.1;refine .ite (λGX=> ?_) λGX=> ?_
   ·rw[w3]at GX;refine .req (by simp only[RM,AS];omega) (.ret ⟨m-1,by omega,⟨by(try dsimp only);rw[w1];omega,by(try dsimp only);rw[w1];omega⟩,by(try dsimp only);rw[w1];exact i3.add (zJ (by omega) (by omega) (by kernel_rfl) (by simp) GQ Fu (by simp only[AS];omega)) rfl,z6.up (by(try dsimp only);rw[w1];omega)⟩)
   ·rw[w3]at GX;have GX:(z.2.2.2.2.length:Int)+(q.1.length:Int)≠0:=by simpa using GX
    refine .req (by simp only[RM,AS];omega) (.ret ⟨m-1,by omega,⟨by(try dsimp only);rw[w1];omega,by(try dsimp only);rw[w1];omega⟩,by(try dsimp only);rw[w1];exact i3.add (zJ (by omega) (by omega) (zyX z4 z5) (by omega) GQ Fu (by omega)) rfl,z6.up (by(try dsimp only);rw[w1];omega)⟩)
 ·unfold XR;exact .ite (λh=>by cases h) λ_=> .ret (.ret ⟨⟨s.2.1,by omega,i3⟩,i4.up (by omega)⟩)
theorem zDu[Inhabited EI]{c:AQ}{k:Int}(h:B8 c k)(hk:k<=4611686018427380000):BO (Yi c) λp=>(Ds p.1=true/\p.1.length<=3)/\B8 p.2 (k+2):=by unfold Yi;refine(FF 5 h (by omega)).bind λp ⟨hp,hc⟩=> ?_;refine BO.bind (P:=λy=>(Ds y&&decide (y.length<=3))=true) (.getI hp.1 (by have:=hp.2.1 (by omega);simpa using this) (A3.1 (by kernel_rfl))) λy hy=> .ret ⟨?_,hc⟩;simp only[Ab,AI]at hy;exact hy
theorem gd0:Iu KS:=ZO.1 (by kernel_rfl)
theorem zF6:WS KS:=eW
theorem zxR{cuts:List Aj}{os:List AE}{n:Int}(h1:Ds cuts=true)(h2:cuts.length<=3)(ho:Ni os n)(hn:n<=5):Zj cuts os=some (⟨cuts,List.replicate (cuts.length+1) KS,os⟩,true)/\(GD ⟨cuts,List.replicate (cuts.length+1) KS,os⟩/\Xl ⟨cuts,List.replicate (cuts.length+1) KS,os⟩):=by
 have hl:=ho.1;have Eh:=ho.jf (by omega);have hk:Js cuts:=⟨by omega,λx hx=>by have:=zH h1 x hx;omega⟩
 have w1:IntKind.i64.wrap ((cuts.length:Int)+1)=((cuts.length+1:Nat):Int):=Be (by omega);refine⟨?_,⟨?_,λx hx=> ?_,h2,by simp,λs hs=> ?_,by show os.length<=8;omega,λo hm=>(ho.2.1 o hm).1,Eh⟩,λs hs=>(List.mem_replicate.1 hs).2⟩
 ·unfold Zj;rw[zxo hk,h1,show decide ((cuts.length:Int)<4)=true by simp;omega,Aa,if_pos (by rfl),xX (by omega) (λo hm=>(ho.2.1 o hm).1.2),Eh,Aa,if_neg (by simp),PZ (by omega),Aa,w1,A7 (by omega),zzW (by omega) (λo hm=>(ho.2.1 o hm).1.1),Aa];rfl
 ·unfold Ds at h1;rw[Ab,Mc]at h1;exact(Ks (r:=bl) λa b c p q=>EF p q).1 h1.2
 ·unfold Ds at h1;rw[Ab,A3]at h1;exact h1.1 x hx
 ·have:=(List.mem_replicate.1 hs).2;rw[this];exact⟨zF6,gd0⟩
theorem zyp(cuts:List Aj)(x:Aj)(hl:cuts.length<=1000):∃n:Nat,R2 cuts x=some (n:Int):=
 ⟨_,Z0 (xs:=cuts) (body:=λi=>Kj cuts x i) (λc=> !bl x c) (λn=>some n) (λi hi=>by
   show Kj cuts x (i:Int)=_;unfold Kj;rw[if_pos (by simpa using hi),AJ hi,Aa,fE,Be (by omega)];cases bl x cuts[i]<;>rfl) (by
   show Kj cuts x (cuts.length:Int)=_;unfold Kj;rw[if_neg (by simp)])⟩
theorem zBq{cuts:List Aj}{o:AE}(hl:cuts.length<=1000)(go:DA o=true):∃ps:List Int,Nw cuts o=some ps/\(0<ps.length/\ps.length<=100):=by
 obtain⟨_,⟨h1,h2,h3⟩,_⟩:=Jr go;obtain⟨k1,k2,k3⟩:=VZ o.aq o.ae;have LM:0<(DK o.aq o.ae).length:=by
  obtain⟨r,hr⟩:∃r,r=o.aq:=⟨_,rfl⟩
  obtain⟨u,hu⟩:∃u,u=o.ae:=⟨_,rfl⟩
  cases r with
  |cons x xs=>exact List.length_pos_of_mem ((k2 x).2 (.inl (by rw[<-hr];simp)))
  |nil=>
   cases u with
   |cons w ws=>exact List.length_pos_of_mem ((k2 w.aj).2 (.inr ⟨w,by rw[<-hu];simp,rfl⟩))
   |nil=>rw[<-hr,<-hu]at h3;simp at h3
 unfold Nw;rw[x6 (by omega) (by omega),Aa];have:BO (Vb cuts (DK o.aq o.ae)) λps=>0<ps.length/\ps.length<=100:=by
  unfold Vb;refine PC (λ(n:Nat) (z:List Int × Int)=>(z.2+(n:Int)=(DK o.aq o.ae).length/\0<=z.2)/\(Cd ik z.1/\(z.1.length:Int)<=z.2/\(0<z.2->0<z.1.length))) (λn z hz=> ?_) (n:=(DK o.aq o.ae).length) ⟨⟨by simp,by simp⟩,List.Pairwise.nil,by simp,by simp⟩;obtain⟨⟨z1,z2⟩,z3,z4,z5⟩:=hz;show BO (Nr cuts (DK o.aq o.ae) z.1 z.2) _;unfold Nr;refine .ite (λAx=> ?_) λMM=> .ret (.ret ⟨z5 (by simp at MM;omega),by omega⟩);have Ax:z.2<(DK o.aq o.ae).length:=by simpa using Ax
  have w1:IntKind.i64.wrap (z.2+1)=z.2+1:=CQ (by omega) (by omega);refine BO.bind (P:=λ_=>True) (.getI z2 Ax λ_ _=>trivial) λy _=> ?_;obtain⟨p,hp⟩:=zyp cuts y hl;rw[hp,Aa,rM (by omega) z3,Aa,w1];have hi:=zwZ (p:Int) z.1;refine .ret ⟨n-1,by omega,⟨by(try dsimp only);omega,by(try dsimp only);omega⟩,mA z3,by(try dsimp only);omega,λ_=>List.length_pos_of_mem (zQ.2 (.inl rfl))⟩
 obtain⟨ps,e,KO⟩:=this;exact⟨ps,by rw[e];rfl,KO⟩
theorem xS[Inhabited EI]{c:AQ}{k:Int}{d:An}(hc:d.bc.length<=1000)(hl:d.ak.length<=1000)(ho:∀o∈d.ak,DA o=true)(h:B8 c k)(hk:k<=4611686018427370000):BO (UP c d) λp=>B8 p.2 (k+10):=by
 unfold UP;refine(mK _ (by simp) h (by omega)).bind λp ⟨_,h1⟩=> ?_;refine(FF 4 h1 (by omega)).bind λq ⟨_,h2⟩=> ?_;rw[sG (by omega),Aa];have tail:∀(a b:Int × AQ) (cd:List Int) (at' sd y:Int),B8 ⟨cd,at',sd⟩ (k+8)->BO (XV a b cd at' sd y) λp=>B8 p.2 (k+10):=λa b cd at' sd y hh=>by unfold XV;refine .ite (λ_=> ?_) λ_=> .ret (hh.up (by omega));exact(FF 30 hh (by omega)).bind λr ⟨_,h3⟩=> .ret (h3.up (by omega))
 refine .ite (λhq=> ?_) λ_=>tail _ _ _ _ _ _ (h2.up (by omega));have hq:CY (λo:AE=>o.ah==IntKind.i64.wrap ((1:Int)+q.1)) d.ak>=0:=by rw[Ab]at hq;simpa using hq.1
 obtain⟨o,e,_,hm⟩:=Z6 hq;obtain⟨ps,e2,Qm,OS⟩:=zBq hc (ho o hm);rw[e,Aa,e2,Aa];refine(FF _ h2 (by omega)).bind λr ⟨hr,h3⟩=> ?_;refine BO.bind (P:=λ_=>True) (.getI hr.1 (hr.2.1 (by omega)) λ_ _=>trivial) λy _=>tail _ _ _ _ _ _ (h3.up (by omega))
theorem zZ[Inhabited EI]{c:AQ}{k:Int}(h:B8 c k)(h0:0<=k)(hk:k<=4611686018427340000):BO (UT c) λp=>((GD p.1.1/\Xl p.1.1)/\p.1.2.length<=24)/\B8 p.2 (k+2000):=by
 unfold UT;refine(zDu h (by omega)).bind λa ⟨⟨a1,a2⟩,h1⟩=> ?_;refine(zzE h1 (by omega) (by omega)).bind λb ⟨⟨n,b1,b2⟩,h2⟩=> ?_;obtain⟨e,g,f⟩:=zxR a1 a2 b2 b1;rw[e,Aa];refine(FF 24 h2 (by omega)).bind λr ⟨hr,h3⟩=> ?_;have FR:=hr.2.1 (by omega);generalize (⟨a.1,List.replicate (a.1.length+1) KS,b.1⟩:An)=d at g f;have g1:=g.ee;have g2:=g.cg;refine PC (λ(m:Nat) (z:List CB × Int × List Int × Int × Int)=>(z.2.1=(m:Int)/\(m:Int)<=24)/\(z.1.length:Int)+m<=24/\B8 ⟨z.2.2.1,z.2.2.2.1,z.2.2.2.2⟩ (k+1010+20*(24-(m:Int)))) (λm z hz=> ?_) (n:=r.1.toNat) ⟨⟨by(try dsimp only);omega,by omega⟩,by simp;omega,h3.up (by(try dsimp only);omega)⟩;obtain⟨⟨z1,z2⟩,z3,z4⟩:=hz;show BO (gO (d,true) z.1 z.2.1 z.2.2.1 z.2.2.2.1 z.2.2.2.2) _;unfold gO;refine .ite (λAx=> ?_) λ_=> .ret (.ret ⟨⟨⟨g,f⟩,by(try dsimp only);omega⟩,z4.up (by omega)⟩);have Ax:z.2.1>0:=by simpa using Ax
 have w1:IntKind.i64.wrap (z.2.1-1)=z.2.1-1:=CQ (by omega) (by omega);refine(xS (d:=d) (by omega) (by omega) (λo ho=>(g.cq o ho).1) z4 (by omega)).bind λt h4=> ?_;exact .req (by simp only[RM,AS];omega) (.ret ⟨m-1,by omega,⟨by(try dsimp only);rw[w1];omega,by omega⟩,by(try dsimp only);rw[AH,AS];omega,h4.up (by(try dsimp only);omega)⟩)
def I4(r:AP):Prop:=F5 r/\Js r.aq
theorem lS{k t n l:Int}{y:Bool}(hy:y=true->0<n)(ht:k≠4->1<=t/\t<=60):I4 ⟨k,t,n,l,[],[],y⟩:=⟨⟨by simp,by simp,List.Pairwise.nil,⟨by simp,by simp⟩,λ_ _ h=>hy h,ht⟩,by simp,by simp⟩
theorem yS{k t n l:Int}{rs:List Aj}{ws:List Ap}(ht:1<=t/\t<=60)(hr:∀x∈rs,CC x=true)(hl:rs.length<=8)(hw:FD ws=true)(Us:ws.length<=8):I4 ⟨k,t,n,l,rs,ws,false⟩:=by refine⟨⟨hl,Us,uE hw,⟨by show ws.length<=_;omega,λw hm=> ?_⟩,(λ_ _ h=>by cases h),λ_=>ht⟩,by show rs.length<=_;omega,λx hx=>by have:=nS (hr x hx);omega⟩;unfold FD at hw;simp only[Ab,A3]at hw;have:=yN (hw.2.1 w hm);omega
theorem zEv[Inhabited EI]{c:AQ}{k:Int}(h:B8 c k)(h0:0<=k)(hk:k<=4611686018427350000):BO (X8 c) λp=>(I4 p.1/\(1<=p.1.az/\p.1.az<=4))/\B8 p.2 (k+200):=by
 unfold X8;refine(FF 4 h (by omega)).bind λa ⟨ha,h1⟩=> ?_;refine(FF 4 h1 (by omega)).bind λb ⟨hb,h2⟩=> ?_;refine(FF 30 h2 (by omega)).bind λt ⟨ht,h3⟩=> ?_;have C3:=ha.2.1 (by omega);have Gh:=hb.2.1 (by omega);have Jf:=ht.2.1 (by omega);have wa:IntKind.i64.wrap ((1:Int)+a.1)=1+a.1:=CQ (by omega) (by omega);have wb:IntKind.i64.wrap ((1:Int)+b.1)=1+b.1:=CQ (by omega) (by omega);have wt:IntKind.i64.wrap ((1:Int)+t.1)=1+t.1:=CQ (by omega) (by omega);refine .ite (λ_=> ?_) λ_=> .ite (λ_=> ?_) λhk4=> ?_
 ·refine(FF 2 h3 (by omega)).bind λl ⟨_,h4⟩=> ?_;refine(FF 3 h4 (by omega)).bind λr ⟨hr,h5⟩=> ?_;have FR:=hr.2.1 (by omega);refine PC (λ(n:Nat) (z:Int × List Int × Int × Int × List Aj)=>(z.1=(n:Int)/\(n:Int)<=2)/\((z.2.2.2.2.length:Int)+n<=2/\Em z.2.2.2.2/\ ∀x∈z.2.2.2.2,CC x=true)/\B8 ⟨z.2.1,z.2.2.1,z.2.2.2.1⟩ (k+10+2*(2-(n:Int)))) (λn z hz=> ?_) (n:=r.1.toNat) ⟨⟨by(try dsimp only);omega,by omega⟩,⟨by(try dsimp only);simp;omega,List.Pairwise.nil,by simp⟩,h5.up (by(try dsimp only);omega)⟩;obtain⟨⟨z1,z2⟩,⟨z3,z4,z5⟩,z6⟩:=hz;show BO (gR a b t l z.1 z.2.1 z.2.2.1 z.2.2.2.1 z.2.2.2.2) _;unfold gR;refine .ite (λGX=> ?_) λ_=> .ret ?_
  ·have GX:z.1>0:=by simpa using GX
   refine(zyV z6 (by omega)).bind λu ⟨hu,hf⟩=> ?_;have w2:IntKind.i64.wrap (z.1-1)=z.1-1:=CQ (by omega) (by omega);rw[SI (by omega) z4,Aa,w2];have hn:=Sw u.1 z.2.2.2.2;refine .ret ⟨n-1,by omega,⟨by(try dsimp only);omega,by omega⟩,⟨by(try dsimp only);omega,PD z4,λx hx=> ?_⟩,hf.up (by(try dsimp only);omega)⟩;rcases(mP z4 x).1 hx with hx|hx
   ·rw[hx];exact hu
   ·exact z5 x hx
  ·unfold tE;refine(xJ z6 (by omega) (by omega)).bind λq ⟨⟨GQ,Fu⟩,hd⟩=> ?_;rw[wa,wb,wt];refine .ite (λ_=> .ret ⟨⟨yS (by omega) (A3.1 (by kernel_rfl)) (by simp) GQ Fu,by(try dsimp only);omega⟩,hd.up (by omega)⟩) λ_=> .ret ⟨⟨yS (by omega) z5 (by omega) GQ Fu,by(try dsimp only);omega⟩,hd.up (by omega)⟩
 ·rename_i q4;rw[wa]at q4;rw[wa,wt];have q4:1+a.1=4:=by simpa using q4
  exact .ret ⟨⟨lS (λh=>by cases h) (λh=>absurd q4 h),by(try dsimp only);omega⟩,h3.up (by omega)⟩
 ·unfold Ns;refine((FF 2 h3 (by omega)).bind λy ⟨_,hy⟩=> .ret (Q:=λp:Bool × AQ=>B8 p.2 (k+8)) (hy.up (by omega)):BO _ λp:Bool × AQ=>B8 p.2 (k+8)).bind λy hy=> ?_;rw[wa,wb,wt];refine .ite (λhn=> .ret ⟨⟨lS (λh=>by have hn:(!y.1)=true:=hn;rw[show y.1=true from h]at hn;cases hn) (λ_=>by omega),by(try dsimp only);omega⟩,hy.up (by omega)⟩) λ_=> .ret ⟨⟨lS (λ_=>by omega) (λ_=>by omega),by(try dsimp only);omega⟩,hy.up (by omega)⟩
theorem I4.lk{r:AP}{t n:Int}(h:I4 r)(ht:r.az≠4->1<=t/\t<=60)(hn:r.bg=true->r.az≠1->r.az≠4->0<n):I4 ⟨r.az,t,n,r.bh,r.aq,r.ae,r.bg⟩:=⟨⟨h.1.reads,h.1.writes,h.1.di,h.1.small,λa b c=>hn c a b,ht⟩,h.2⟩
theorem zDa[Inhabited EI]{c:AQ}{k:Int}(h:B8 c k)(h0:0<=k)(hk:k<=4611686018427340000):BO (Yh c) λp=>(p.1.length<=12/\ ∀r∈p.1,I4 r)/\B8 p.2 (k+5000):=by
 unfold Yh;refine(FF 12 h (by omega)).bind λp ⟨hp,hc⟩=> ?_;have Qm:=hp.2.1 (by omega);refine PC (λ(n:Nat) (z:List AP × Int × Int × List Int × Int × Int)=>(z.2.2.1=(n:Int)/\(n:Int)<=12)/\(((z.1.length:Int)+n<=12/\ ∀r∈z.1,I4 r)/\(0<=z.2.1/\z.2.1+4*(n:Int)<=48))/\B8 ⟨z.2.2.2.1,z.2.2.2.2.1,z.2.2.2.2.2⟩ (k+2+300*(12-(n:Int)))) (λn z hz=> ?_) (n:=p.1.toNat) ⟨⟨by(try dsimp only);omega,by omega⟩,⟨⟨by simp;omega,by simp⟩,by simp,by(try dsimp only);omega⟩,hc.up (by(try dsimp only);omega)⟩;obtain⟨⟨z1,z2⟩,⟨⟨z3,z4⟩,z5,z6⟩,z7⟩:=hz;show BO (gM z.1 z.2.1 z.2.2.1 z.2.2.2.1 z.2.2.2.2.1 z.2.2.2.2.2) _;unfold gM;refine .ite (λAx=> ?_) λ_=> .ret (.ret ⟨⟨by(try dsimp only);omega,z4⟩,z7.up (by omega)⟩);have Ax:z.2.2.1>0:=by simpa using Ax
 refine(zEv z7 (by omega) (by omega)).bind λr ⟨⟨hr,DR⟩,h1⟩=> ?_;refine(FF 3 h1 (by omega)).bind λq ⟨hq,h2⟩=> ?_;have GQ:=hq.2.1 (by omega);have w1:IntKind.i64.wrap ((1:Int)+q.1)=1+q.1:=CQ (by omega) (by omega);have w2:IntKind.i64.wrap (z.2.1+(1+q.1))=z.2.1+(1+q.1):=CQ (by omega) (by omega);have w3:IntKind.i64.wrap (z.2.2.1-1)=z.2.2.1-1:=CQ (by omega) (by omega);have step:∀(x:AP) (cd:List Int) (at' sd:Int),I4 x->B8 ⟨cd,at',sd⟩ (k+2+300*(12-(n:Int))+250)-> ∃m,m<n/\((z.2.2.1-1=(m:Int)/\(m:Int)<=12)/\((((z.1++ [x]).length:Int)+m<=12/\ ∀r∈z.1++ [x],I4 r)/\(0<=z.2.1+(1+q.1)/\z.2.1+(1+q.1)+4*(m:Int)<=48))/\B8 ⟨cd,at',sd⟩ (k+2+300*(12-(m:Int)))):=λx cd at' sd hx AZ=>by
  refine⟨n-1,by omega,⟨by omega,by omega⟩,⟨⟨by rw[AH,AS];omega,λy hy=> ?_⟩,by omega,by omega⟩,AZ.up (by omega)⟩;rcases Ac.1 hy with hy|hy
  ·exact z4 y hy
  ·simp only[List.mem_singleton]at hy;rw[hy];exact hx
 have tail:∀tm:Int,(r.1.bg=true->r.1.az≠1->r.1.az≠4->0<tm)->BO (XQ z.1 z.2.1 z.2.2.1 r q tm) λo=>match o with
   | .inl s'=> ∃m,m<n/\((s'.2.2.1=(m:Int)/\(m:Int)<=12)/\(((s'.1.length:Int)+m<=12/\ ∀r∈s'.1,I4 r)/\(0<=s'.2.1/\s'.2.1+4*(m:Int)<=48))/\B8 ⟨s'.2.2.2.1,s'.2.2.2.2.1,s'.2.2.2.2.2⟩ (k+2+300*(12-(m:Int))))
   | .inr q=>BO q λp=>(p.1.length<=12/\ ∀r∈p.1,I4 r)/\B8 p.2 (k+5000):=λtm eG=>by
  unfold XQ;rw[w1,w2,w3];refine .ite (λhg=> ?_) λ_=> ?_
  ·rw[Ab]at hg;have LM:(z.1.length:Int)>0:=by simpa using hg.2
   refine(FF _ h2 (by omega)).bind λu ⟨hu,h3⟩=> ?_;refine BO.bind (P:=λy=>y∈z.1) (.getI hu.1 (hu.2.1 (by omega)) λx hx=>hx) λy hy=> ?_;refine .ite (λqL=> ?_) λ_=> ?_
   ·have qL:y.az=1:=by simpa using qL
    exact .req (by simp only[RM,AS];omega) (.ret (step _ _ _ _ (hr.lk (λ_=>(z4 y hy).1.mh (by omega)) eG) (h3.up (by omega))))
   ·exact .req (by simp only[RM,AS];omega) (.ret (step _ _ _ _ (hr.lk hr.1.mh eG) (h3.up (by omega))))
  ·exact .req (by simp only[RM,AS];omega) (.ret (step _ _ _ _ (hr.lk hr.1.mh eG) (h2.up (by omega))))
 refine .ite (λ_=> ?_) λ_=>(tail _ λa b d=>hr.1.time b d a).mono λo ho=>by cases o<;>exact ho
 rw[w1,w2];exact(tail _ λ_ _ _=>by omega).mono λo ho=>by cases o<;>exact ho
def WG(s:Ai):Prop:= ∀x∈s.ab,Js x.aq
theorem zwe{s s':Ai}{r:AP}(h:WG s)(hr:Js r.aq)(e:Cm s r=some s'):WG s':=by
 unfold Cm at e;split at e
 ·split at e
  ·cases e;exact h
  ·cases e
 ·split at e
  ·cases e
  ·split at e
   ·split at e
    ·cases e
    ·split at e
     ·cases e
     ·split at e
      ·cases e;intro x hx;rcases Jm.1 hx with q|q
       ·rw[q];exact hr
       ·exact h x q
      ·cases e
   ·split at e
    ·split at e
     ·cases e
     ·split at e
      ·cases e
      ·split at e
       ·cases e
       ·cases e;exact λx hx=>h x (Kv hx).1
    ·cases e;exact λx hx=>h x (Kv hx).1
theorem wN:∀(rs:List AP) (s:Ai),WG s->(∀r∈rs,I4 r)->WG (rs.foldl Ir s)
 | [],_,h,_=>h
 |r::rs,s,h,hr=>by
  refine wN rs (Ir s r) ?_ λx hx=>hr x (by simp[hx]);unfold Ir;cases e:Cm s r with
  |none=>exact h
  |some s'=>exact zwe h (hr r (by simp)).2 e
theorem zBk{s:Ai}(w:WS s)(h:WG s):IY s:=by have h1:=w.ee;have h2:=w.ct;refine⟨w.cells.small (by omega),by omega,λx hx=>⟨h x hx,?_⟩,by omega⟩;have:=(w.held x hx).2;exact⟨by have:=this.1;show x.ae.length<=_;omega,this.2⟩
theorem zvO[Inhabited EI]{c:AQ}{k:Int}(h:B8 c k)(h0:0<=k)(hk:k<=4611686018427330000):BO (XU c) λp=>IY p.1/\B8 p.2 (k+6000):=by
 unfold XU gP;refine BO.bind (P:=λp:Ai × AQ=>(IY p.1/\p.1.au.length<=100)/\B8 p.2 (k+5000)) ((zDa h h0 (by omega)).bind λp ⟨⟨Qm,OS⟩,hc⟩=> ?_) λp ⟨⟨hs,ht⟩,hc⟩=> ?_
 ·obtain⟨b,e⟩:=zFo (rs:=p.1) (by omega) λr hr=>(OS r hr).1;rw[e,Aa];have w:=zzK (rs:=p.1) λr hr=>(OS r hr).1;have w2:=w.ct;exact .ret ⟨⟨zBk w (wN p.1 Lf (by intro x hx;cases hx) OS),by(try dsimp only);omega⟩,hc⟩
 ·refine(FF 25 hc (by omega)).bind λq ⟨_,hd⟩=> ?_;refine .ite (λ_=> ?_) λ_=> .ite (λ_=> .ite (λhl=> ?_) λ_=> .ret ⟨hs,hd.up (by omega)⟩) λ_=> .ite (λ_=> .ite (λhl=> ?_) λ_=> .ret ⟨hs,hd.up (by omega)⟩) λ_=> .ret ⟨hs,hd.up (by omega)⟩
  ·exact(mK _ (by simp) hd (by omega)).bind λr ⟨_,he⟩=> .ret ⟨⟨hs.cells,hs.gl,hs.held,hs.kt⟩,he.up (by omega)⟩
  ·have hl:(p.1.ab.length:Int)>0:=by simpa using hl
   refine(mK _ (by simp) hd (by omega)).bind λr ⟨_,he⟩=> ?_;refine BO.bind (P:=λy=>y∈p.1.ab) (.getI (by omega) (by omega) λx hx=>hx) λy hy=> .ret ⟨⟨hs.cells,by(try dsimp only);rw[List.length_set];exact hs.gl,λx hx=> ?_,hs.kt⟩,he.up (by omega)⟩;rcases List.mem_or_eq_of_mem_set hx with hx|hx
   ·exact hs.held x hx
   ·have:=hs.held y hy;rw[hx];exact⟨this.reads,this.writes⟩
  ·have hl:(p.1.au.length:Int)>0:=by simpa using hl
   refine BO.bind (P:=λ_=>True) (.getI (by omega) (by omega) λ_ _=>trivial) λy _=> ?_;exact .req (by simp only[RM,AS];omega) (.ret ⟨⟨hs.cells,hs.gl,hs.held,by(try dsimp only);rw[AH,AS];omega⟩,hd.up (by omega)⟩)
structure aV(d:An):Prop where
 small:Mv d
 cuts:d.bc.length<=1000
 cg:d.ak.length<=1000
 cq:∀o∈d.ak,DA o=true
theorem zEA{d:An}(g:GD d):aV d:=⟨Su g,by have:=g.ee;omega,by have:=g.cg;omega,λo ho=>(g.cq o ho).1⟩
theorem zDC[Inhabited EI]{c:AQ}{k:Int}(h:B8 c k)(h0:0<=k)(hk:k<=4611686018427320000):BO (Yj c) λp=>aV p.1/\B8 p.2 (k+9000):=by
 unfold Yj;refine(zZ h h0 (by omega)).bind λp ⟨⟨⟨g,_⟩,hl⟩,hc⟩=> ?_;rw[zyK g (by omega),Aa];have g:=(nQ p.1.2 (p.1.1,[]) g).1;generalize p.1.2.foldl FI (p.1.1,[])=z at g;have D:=zEA g;have hlen:=g.len;refine(FF 25 hc (by omega)).bind λq ⟨_,hd⟩=> ?_;refine .ite (λ_=> ?_) λ_=> .ite (λ_=> .ret ⟨⟨⟨⟨by simp,by simp⟩,D.small.ek,D.small.bu,D.small.cg,D.small.cq⟩,by simp,D.cg,D.cq⟩,hd.up (by omega)⟩) λ_=> .ite (λ_=> ?_) λ_=> .ret ⟨D,hd.up (by omega)⟩
 ·refine(zvO hd (by omega) (by omega)).bind λs ⟨hs,he⟩=> ?_;refine BO.bind (P:=λ_=>True) (.getI (by omega) (by omega) λ_ _=>trivial) λy _=> .ret ⟨⟨⟨D.small.cuts,by(try dsimp only);rw[List.length_set];exact D.small.ek,λx hx=> ?_,D.small.cg,D.small.cq⟩,D.cuts,D.cg,D.cq⟩,he.up (by omega)⟩;rcases List.mem_or_eq_of_mem_set hx with hx|hx
  ·exact D.small.bu x hx
  ·rw[hx];exact hs
 ·have e:A6 z.1.ar 1 (z.1.ar.length:Int)=z.1.ar.drop 1:=QA z.1.ar 1;rw[e];exact .req (by omega) (.ret ⟨⟨⟨D.small.cuts,by(try dsimp only);rw[BC];have:=D.small.ek;omega,λx hx=>D.small.bu x (BH hx),D.small.cg,D.small.cq⟩,D.cuts,D.cg,D.cq⟩,hd.up (by omega)⟩)
theorem zqU{code:List Int}(h:∀b∈code,0<=b/\b<=255):BO (Yd code) λp=>aV p.1:=by unfold Yd;refine(zDC (c:=⟨code,0,0⟩) (B8.start h) (by omega) (by omega)).bind λp ⟨D,hc⟩=> ?_;exact(xS D.cuts D.cg D.cq hc (by omega)).bind λq _=> .ret D
theorem zrC{code:List Int}(h:∀b∈code,0<=b/\b<=255):BO (X9 code) λp=>(GD p.1/\Xl p.1)/\p.2.length<=24:=by unfold X9;exact(zZ (c:=⟨code,0,0⟩) (B8.start h) (by omega) (by omega)).bind λp ⟨a,_⟩=> .ret a
theorem zx7{d:An}{a:CB}(h:Mv d):∃r,YT d a=some r/\(YY d a=some r/\(Mv r.1/\(r.2=true->GD r.1))):=by
 unfold YT YY;rw[mI h,SD h,Aa,Aa];cases hg:Lk d with
 |false=>exact⟨_,rfl,rfl,wW,λh=>by cases h⟩
 |true=>
  have g:=zFp h hg;simp only[Bool.not_true,Ba,if_false];rw[rC g,zzQ g];refine⟨_,rfl,rfl,?_⟩;cases hs:G4 d a with
  |none=>exact⟨wW,λh=>by cases h⟩
  |some d'=>exact⟨Su (nZ g hs),λ_=>nZ g hs⟩
theorem rA:∀(al:List CB) (z:An × List Bool),GD z.1->Qb z.1->Qb (al.foldl FI z).1
 | [],_,_,h=>h
 |a::al,z,g,h=>by
  rw[List.foldl_cons];refine rA al _ (aE g).1 ?_;unfold FI;cases hs:G4 z.1 a with
  |none=>exact h
  |some d=>exact zDm g h hs
theorem zy9{d:An}{al:List CB}(g:GD d)(hl:al.length<=24):YW d al=some ((al.foldl FI (d,[])).1,(al.foldl FI (d,[])).2,true)/\Y0 d al=some ((al.foldl FI (d,[])).1,(al.foldl FI (d,[])).2,true):=by
 have h:=Su g;unfold YW Y0;rw[mI h,SD h,Aa,Aa,Z7 g];have e:((!true)||decide ((al.length:Int)>80))=false:=by simp;omega
 rw[e,if_neg (by simp),if_neg (by simp),zyK g (by omega),Aa,wH g,Aa];exact⟨rfl,zD2 g (by omega)⟩
theorem zDi{b:List Int}(hb:∀x∈b,0<=x/\x<=255):YH b=some true:=by
 unfold YH;obtain⟨p,e,D⟩:=zqU hb;obtain⟨r,h1,h2,h3,h4⟩:=zx7 (a:=p.2) D.small;have e1:Y1 p.1=some (Lk p.1):=by unfold Y1;rw[mI D.small];rfl
 rw[e,Aa,h2,Aa,h1,Aa,if_neg (by simp),vX h3,Aa,if_pos rfl,SD D.small,Aa,e1,Aa,if_neg (by simp)];cases hr:r.2 with
 |false=>rfl
 |true=>have g:=h4 hr;rw[if_pos rfl,SD h3,Z7 g];rfl
theorem zDJ(a0 a1:List Int)(h0:(Xh L1) a0)(h1:(Xh L1) a1):Y4 a0 a1=some true:=by
 have b0:∀x∈a0,0<=x/\x<=255:=λx hx=>by have:=h0.2 x hx;simpa[L1]using this
 have b1:∀x∈a1,0<=x/\x<=255:=λx hx=>by have:=h1.2 x hx;simpa[L1]using this
 unfold Y4 kX;rw[Aa];refine zF2 (λ_=>rfl) λ_=> ?_;obtain⟨p,e,⟨g,f⟩,hl⟩:=zrC b0;obtain⟨e1,e2⟩:=zy9 (al:=p.2) g (by omega);obtain⟨g2,l2⟩:=nQ p.2 (p.1,[]) g;have ag:=rA p.2 (p.1,[]) g (zB7 f);rw[e,Aa,e2,Aa,e1,Aa];generalize p.2.foldl FI (p.1,[])=z at g2 l2 ag;have hz:z.2.length<=2000000:=by rw[l2];simp;omega
 rw[if_neg (by simp),zuS hz,Aa,if_pos rfl,vX (Su g2),Aa,if_neg (by simp),if_pos rfl,zyZ g2,zEu ag,Aa,SD (Su g2),Z7 g2,Aa,if_neg (by simp)];exact zDi b1
end
end Go.Proofs.YtalagilebkaegaaGreat
