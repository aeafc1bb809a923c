/- Parts of a proof, joined: NVF. -/
import Derived.Test.YtalagilebkaegaaGreatK10
set_option linter.unusedVariables false
set_option linter.unusedSimpArgs false
namespace Go.Proofs.YtalagilebkaegaaGreat
open Go.RowKit
section
set_option maxRecDepth 100000
set_option maxHeartbeats 2000000
theorem ND{α:Type}{f:α->Nat}{n:Nat}:∀{l:List α},(∀x∈l,f x<=n)->(l.map f).sum<=n*l.length
 | [],_=>by simp
 |x::l,h=>by have h1:=h x (by simp);have h2:=ND (l:=l) λy hy=>h y (by simp[hy]);rw[List.map_cons,List.sum_cons,A6,Nat.mul_add];omega
theorem Z4{s:Ap}(h:Dg s=true):s.length<=12:=by unfold Dg at h;rw[Ab]at h;have:=Fm.1 h.1;omega
theorem z7{ks:List Ap}(h:Ep ks=true):∀k∈ks,k.length<=12:=λk hk=>by unfold Ep at h;rw[Ab,Bj]at h;exact Z4 (h.1 k hk)
theorem xD{v:Ap}{g:Bool}(h:F2 v g=true):v.length<=24:=by unfold F2 Px at h;simp only[Ab,AR]at h;omega
theorem nH{ks:List Ap}(h:∀k∈ks,k.length<=12):D9 ks<=13*ks.length:=by have:=ND (f:=λx:Ag=>x.length) h;unfold D9;omega
theorem wX{ws:List Am}(h:Hp ws=true):E8 ws<=37*ws.length:=by
 have:=ND (f:=GX) (n:=36) (l:=ws) λw hw=>by unfold Hp at h;simp only[Ab,Bj]at h;have:=h.2.1 w hw;unfold KY at this;rw[Ab]at this;have h1:=Z4 this.1;have h2:=xD this.2;unfold GX;omega
 unfold E8;omega
theorem zAd{l:List Ai}(h:Eo l=true):Gv l<=24*500:=by
 unfold Eo at h;simp only[Ab,AR,Bj]at h;obtain⟨h1,h2,_⟩:=h;have:=ND (f:=FZ) (n:=450) (l:=l) λc hc=>by
  have h3:=h2 c hc;unfold Gx IJ at h3;simp only[Ab,Bj]at h3;obtain⟨h4,h5,h6,_⟩:=h3;have h7:=Fm.1 h5;have h8:=Z4 h4;have h9:=ND (f:=GZ) (n:=24) (l:=c.aw) λv hv=>by have:=h6 v hv;unfold Nr at this;rw[Ab]at this;exact xD this.2
  unfold FZ Hu;omega
 unfold Gv;omega
theorem zAX{s:Aj}(w:WS s)(g:Jn s):EB s<=20000:=by
 have h1:=zAd g.cells;have h2:=w.cw;have h3:=w.ek;have h4:=ND (f:=FF) (n:=400) (l:=s.ae) λx hx=>by obtain⟨⟨a,b,_⟩,_⟩:=w.held x hx;have hg:=(g.single x hx).1;unfold CB at hg;rw[if_pos (show(D4 x).bb=1 from rfl)]at hg;simp only[Ab]at hg;obtain⟨_,_,_,c,_,e,_⟩:=hg;have f1:=nH (ks:=x.ak) (z7 c);have f2:=wX (ws:=x.ab) e;unfold FF;omega
 unfold EB GV Hs;omega
theorem zCM{d:Az}(g:GD d):Fo d<=2000000:=by
 have h1:=nH (ks:=d.az) λk hk=>Z4 (g.keys k hk);have h2:=g.ek;have h3:=g.len;have h4:=g.di;have h5:=ND (f:=EB) (n:=20000) (l:=d.ax) λs hs=>zAX (g.cf s hs).1 (g.cf s hs).2;have h6:=ND (f:=FD) (n:=400) (l:=d.ar) λo ho=>by obtain⟨_,⟨a,b,_⟩,c,e⟩:=Jg (g.dk o ho).1;have f1:=nH (z7 c);have f2:=wX e;unfold FD;omega
 unfold Fo Gs Gt;omega
theorem mL{ks:List Ap}(h:D9 ks<=2000000):L4 ks:=by unfold D9 at h;exact⟨by omega,λk hk=>by have:=Fb (tot:=λx:Ag=>x.length) hk;omega⟩
theorem yR{ws:List Am}(h:E8 ws<=2000000):V6 ws:=by unfold E8 at h;exact⟨by omega,λw hw=>by have:=Fb (tot:=GX) hw;unfold GX at this h;omega⟩
theorem zwx{s:Aj}(h:EB s<=2000000):L7 s:=by
 unfold EB Gv GV Hs at h;refine⟨⟨by omega,λc hc=> ?_⟩,by omega,λx hx=> ?_,by omega⟩
 ·have h1:=Fb (tot:=FZ) hc;have h2:FZ c=c.ah.length+(c.aw.length+(c.aw.map GZ).sum):=rfl;exact⟨by omega,by omega,λv hv=>by have h3:=Fb (tot:=GZ) hv;have h4:GZ v=v.bg.length:=rfl;omega⟩
 ·have h1:=Fb (tot:=FF) hx;have h2:FF x=D9 x.ak+E8 x.ab:=rfl;exact⟨mL (ks:=x.ak) (by omega),yR (ws:=x.ab) (by omega)⟩
theorem zyU{d:Az}(h:Fo d<=2000000):Wg d:=by
 unfold Fo Gs Gt at h;refine⟨mL (by omega),by omega,λs hs=> ?_,by omega,λo ho=> ?_⟩
 ·have h1:=Fb (tot:=EB) hs;exact zwx (by omega)
 ·have h1:=Fb (tot:=FD) ho;have h2:FD o=D9 o.ak+E8 o.ab:=rfl;exact⟨mL (by omega),yR (by omega)⟩
theorem zC:Fo ⟨[],[],[]⟩<=2000000:=by simp[Fo,D9,Gs,Gt]
theorem zAD{d:Az}{a:Ea}(h:Wg d):∃r,Yk d a=some r/\(U3 d a=some r/\Fo r.1<=2000000):=by
 unfold Yk U3;rw[zBC h,zCg h,Aa,Aa];cases hg:PQ d with
 |false=>exact⟨_,rfl,rfl,zC⟩
 |true=>
  have g:=zF3 h hg;simp only[Bool.not_true,AW,if_false];rw[zEh g,zED g];refine⟨_,rfl,rfl,?_⟩;cases hs:PN d a with
  |none=>exact zC
  |some d'=>exact zCM (zDV g hs)
theorem zpP(a0:Az)(a1:Ea)(h0:pC a0)(_:xX a1):XE a0 a1=some true:=by
 unfold XE;obtain⟨b0,e0,g0,r0⟩:=zDU (x:=a0) (a:=1048576) (by omega) (by omega) h0;rw[e0,Aa];by_cases q0:b0<0
 ·rw[if_pos (by simpa using q0)]
 rw[if_neg (by simpa using q0)];have s0:=r0 (by omega);have t0:Fo a0<=2000000:=by omega
 obtain⟨r,vs,vi,tr⟩:=zAD (a:=a1) (zyU t0);obtain⟨x0,k0,u0,w0,m0,_⟩:=yA (x:=a0) (k:=1) (by omega) (by omega);obtain⟨y0,k1,u1,w1,m1,n1⟩:=yA (x:=r.1) (k:=1) (by omega) (by omega);simp only[zEt t0,zyo,vs,vi,rK t0,rK tr,m0,m1,n1,Kt (show 0<=k0 by omega),Kt (show 0<=k1 by omega),bne_self_eq_false,Aa,Bool.not_true,Bool.or_false,AW,if_false,if_true]
end
end Go.Proofs.YtalagilebkaegaaGreat
