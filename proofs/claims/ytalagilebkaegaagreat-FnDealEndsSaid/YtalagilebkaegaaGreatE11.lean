/- Parts of a proof, joined: NVS, NVT, NVU, NSY, ND, NDR, NVJ, NVN, NVK, NVQ. -/
import Derived.Test.YtalagilebkaegaaGreatE10
set_option linter.unusedVariables false
set_option linter.unusedSimpArgs false
namespace Go.Proofs.YtalagilebkaegaaGreat
open Go.RowKit
section
set_option maxRecDepth 100000
set_option maxHeartbeats 1000000
set_option maxHeartbeats 2000000
theorem zAb{α:Type}{r:α->α->Bool}{l:List α}{x:α}(ht:∀a b c,r a b=true->r b c=true->r a c=true)(h:DX r l=true)(hx:∀y∈l,r y x=true):DX r (l++ [x])=true:=by
 rw[Ix ht]at h ⊢;exact List.pairwise_append.2 ⟨h,List.pairwise_singleton _ _,λa ha b hb=>by simp only[List.mem_singleton]at hb;rw[hb];exact hx a ha⟩
theorem zDs{l:List Dc}(h:DX II l=true)(A9:l≠ []):∀v∈l,v.ak<=(l.getLast A9).ak:=by
 rw[Ix (r:=II) λa b c p q=>by unfold II at*;simp at*;omega]at h;intro v hv;obtain⟨i,hi,rfl⟩:=List.mem_iff_getElem.1 hv;rw[List.getLast_eq_getElem];by_cases e:i=l.length-1
 ·subst e;exact Int.le_refl _
 ·have:=List.pairwise_iff_getElem.1 h i (l.length-1) hi (by omega) (by omega);unfold II at this;simp only[AJ]at this;omega
theorem zBE{l:List An}{k:Am}{v:Dc}(hr:Gg l)(hg:∀c∈l,Ft c=true)(hk:CC k=true)(hv:KW v=true)(ht:Ch l k<v.ak)(hf:(Gv l k).length<16):∀c∈Hk l k v,Ft c=true:=by
 intro c hc;rcases(MC (key:=ck) hr c).1 hc with q|⟨q,_⟩
 ·rw[q];unfold Ft IB;simp only[Ab,AZ];have base:(∀x∈Gv l k,KW x=true/\x.ak<v.ak)/\DX II (Gv l k)=true:=by
   unfold Gv Ch at*;cases hq:Et l k with
   |none=>exact⟨by simp,rfl⟩
   |some c0=>
    rw[hq]at ht hf;have h0:=hg c0 (WL hq).1;unfold Ft IB at h0;simp only[Ab,AZ]at h0;obtain⟨_,h1,h2,h3⟩:=h0;have h4:=Ey.1 h1;have A9:c0.bc≠ []:=λe=>by rw[e]at h4;simp at h4
    refine⟨λx hx=>⟨h2 x hx,?_⟩,h3⟩;have h5:=zDs h3 A9 x hx;have h6:OG c0=(c0.bc.getLast A9).ak:=by unfold OG;rw[List.getLast?_eq_some_getLast A9]
    have ht:OG c0<v.ak:=ht;omega
  refine⟨hk,Ey.2 ⟨by rw[AF,AP];omega,by rw[AF,AP];omega⟩,λx hx=> ?_,?_⟩
  ·rcases Ac.1 hx with hx|hx
   ·exact(base.1 x hx).1
   ·simp only[List.mem_singleton]at hx;rw[hx];exact hv
  ·exact zAb (λa b c p q=>by unfold II at*;simp at*;omega) base.2 λy hy=>by unfold II;simpa using(base.1 y hy).2
 ·exact hg c q
theorem zyR{t:Int}(h1:1<=t)(h2:t<=100000):∀{ws:List Ar} {l:List An},Gg l->(∀c∈l,Ft c=true)->H6 ws->(∀w∈ws,Gk w=true/\Ch l w.ao<t/\(Gv l w.ao).length<16)-> ∃o,Gl t l ws=some o/\Gg o/\ ∀c∈o,Ft c=true
 | [],l,hr,hg,_,_=>⟨l,rfl,hr,hg⟩
 |w::ws,l,hr,hg,hw,ha=>by
  obtain⟨a1,a2,a3⟩:=ha w (by simp);have Vb:=List.pairwise_cons.1 hw;have a1':=a1;unfold Gk at a1';rw[Ab]at a1';have hv:KW ⟨t,w.bw,w.bk⟩=true:=by unfold KW;rw[Ey.2 ⟨h1,h2⟩,a1'.2];rfl
  obtain⟨o,e,r⟩:=zyR h1 h2 (ws:=ws) (l:=Hk l w.ao ⟨t,w.bw,w.bk⟩) (WX hr) (zBE hr hg a1'.1 hv a2 a3) Vb.2 λx hx=>by
   obtain⟨b1,b2,b3⟩:=ha x (by simp[hx]);have A9: ¬x.ao=w.ao:=λq=>by have:=H4 (Vb.1 x hx);exact this q.symm
   refine⟨b1,by rw[zvP hr,if_neg A9];exact b2,?_⟩;unfold Gv at b3 ⊢;rw[oN hr,if_neg A9];exact b3
  refine⟨o,?_,r⟩;unfold Gl at e ⊢;rw[List.foldlM_cons];unfold Hg;rw[if_neg (by omega)];exact e
theorem zDp{s:Ai}{h:AL}{t:Int}(w:WS s)(g:Hl s)(hm:h∈s.ae)(h1:h.ak<=t)(h2:t<=100000):∃o,KE s.aq h.af t=some o:=by
 obtain⟨a1,a2,a3⟩:=g.single h hm;obtain⟨⟨b1,b2⟩,_⟩:=rG a1 rfl;have b1:1<=h.ak:=b1;obtain⟨⟨c1,c2,c3⟩,_⟩:=w.held h hm;have L6:=g.cells;unfold EO at L6;simp only[Ab,AJ,AZ]at L6;have gw:Fs h.af=true:=by unfold CL at a1;rw[if_pos (show(Eh h).az=1 from rfl)]at a1;simp only[Ab]at a1;exact a1.2.2.2.2.2.1
 have gw2:=gw;unfold Fs at gw2;simp only[Ab,AZ]at gw2;have room:=g.room;have nf:∀x∈h.af,Gi s.aq x=false:=λx hx=>by unfold GX at room;simp only[Ab,Be,List.any_eq_false]at room;simpa using room.1 x (HQ.2 ⟨h,hm,hx⟩)
 obtain⟨o,e,o1,o2⟩:=zyR (t:=t) (by omega) h2 (ws:=h.af) (l:=s.aq) w.cells.1 L6.2.1 c3 λx hx=>by
  refine⟨gw2.2.1 x hx,by have:=a3 x hx;omega,?_⟩;have:=nf x hx;unfold Gi at this;unfold Gv;cases hq:Et s.aq x.ao with
  |none=>simp
  |some c=>rw[hq]at this;simp only[decide_eq_false_iff_not]at this;show c.bc.length<16;omega
 have I8:GX o []=true:=bY room (λw hw=>by simp at hw) λy hy=>by
  unfold FF at hy ⊢;rw[List.map_nil,AE]at hy;obtain⟨c,hc,rfl⟩:=List.mem_map.1 hy;rcases qC w.cells.1 e c hc with⟨d,hd,q⟩|⟨x,hx,q⟩
  ·exact Ac.2 (.inl (List.mem_map.2 ⟨d,hd,q⟩))
  ·exact Ac.2 (.inr (List.mem_map.2 ⟨x,HQ.2 ⟨h,hm,hx⟩,q⟩))
 have hlen:o.length<=24:=by
  unfold GX FF at I8;simp only[Ab,AJ]at I8;have h3:=I8.2;rw[List.map_nil,AE]at h3;obtain⟨k1,k2,_⟩:=MA (o.map ck) [] List.Pairwise.nil;have k3:Ei (o.map ck):=by unfold Ei DU;rw[List.pairwise_map];exact o1
  have:(o.map ck).foldl (λo k=>C5 k o) []=o.map ck:=DU.ext k1 k3 λy=>by rw[k2];simp
  rw[this,List.length_map]at h3;exact h3
 refine⟨o,?_⟩;unfold KE;rw[e];dsimp only;rw[if_pos];unfold EO;simp only[Ab,AJ,AZ];exact⟨by omega,o2,(Ix (r:=QB) λa b c p q=>EN p q).2 o1⟩
theorem zy4{s s':Ai}{r:AS}(e:BS s r=some s'):∀h∈s'.ae,h∈s.ae\/(r.az=1/\h=K8 r):=by
 unfold BS at e;split at e
 ·split at e
  ·cases e;exact λh hh=> .inl hh
  ·cases e
 ·split at e
  ·cases e
  ·split at e
   ·rename_i k1;split at e
    ·cases e
    ·split at e
     ·cases e
     ·split at e
      ·cases e;intro h hh;rcases Jh.1 hh with q|q
       ·exact .inr ⟨k1,q⟩
       ·exact .inl q
      ·cases e
   ·split at e
    ·split at e
     ·cases e
     ·split at e
      ·cases e
      ·split at e
       ·cases e
       ·cases e;exact λh hh=> .inl (Ji hh).1
    ·cases e;exact λh hh=> .inl (Ji hh).1
theorem zzD{s s':Ai}{r:AS}{t:Int}{x:A8}(e:BS s r=some s')(h:AU s t=some x):AU s' t=some x:=by
 by_cases h4:r.az=4
 ·unfold BS at e;rw[if_pos h4]at e;split at e
  ·cases e;exact h
  ·cases e
 ·by_cases ht:t=r.ah
  ·rw[ht,aP e h4]at h;cases h
  ·rw[(WC e h4 ht).1];exact h
theorem bR{s:Ai}(g:Hl s){t:Int}{x:A8}(h:AU s t=some x):Bw s t=none:=by
 have hx:x.ah=t:=by simpa using List.find?_some h
 have:=(g.told x (pP h)).2;unfold Bw;rw[List.find?_eq_none];intro y hy;have:=this y hy;simpa[hx]using this
theorem uZ{d:Ag}{t:Int}:∀{ps:List Int} {n m:Int},Jp d t ps n=some m->n<=m/\ ∀p∈ps,∀h,Bw (Ao d p) t=some h->h.ak<=m
 | [],n,m,e=>by cases e;exact⟨Int.le_refl _,by simp⟩
 |q::ps,n,m,e=>by
  unfold Jp at e;split at e
  ·cases e
  ·rename_i x hx;obtain⟨a,b⟩:=uZ e;have hn:n<=(if x.ak>n then x.ak else n)/\x.ak<=(if x.ak>n then x.ak else n):=by split<;>omega
   refine⟨by omega,λp hp h hh=> ?_⟩;rcases Ae.1 hp with rfl|hp
   ·rw[hx]at hh;cases hh;omega
   ·exact b p hp h hh
theorem zzq{d:Ag}{o:Ak}{a:BG}{x:AS × Int}(e:Fk d o a=some x):(x.1.az=1->x.2∈Ay d o)/\(x.1.az=2->x.1.bf=true-> ∀p∈Ay d o,∀h,Bw (Ao d p) o.ah=some h->h.ak<=x.1.ak):=by
 unfold Fk at e;split at e
 ·split at e
  ·unfold J1 at e;split at e
   ·rename_i hm;split at e
    ·cases e
    ·split at e
     ·cases e
     ·cases e;exact⟨λ_=>Od.1 hm,λh=>absurd (show(1:Int)=2 from h) (by omega)⟩
   ·cases e
  ·cases e
 ·split at e
  ·split at e
   ·unfold KD at e;split at e
    ·split at e
     ·cases e
     ·rename_i n hn;cases e;exact⟨λh=>absurd (show(2:Int)=1 from h) (by omega),λ_ _=>(uZ hn).2⟩
    ·cases e
   ·cases e
  ·split at e
   ·split at e
    ·cases e;exact⟨λh=>absurd (show(2:Int)=1 from h) (by omega),λ_ h=>absurd (show false=true from h) (by simp)⟩
    ·cases e
   ·split at e
    ·split at e
     ·unfold H9 at e;split at e
      ·cases e
      ·split at e
       ·cases e;exact⟨λh=>absurd (show(3:Int)=1 from h) (by omega),λh=>absurd (show(3:Int)=2 from h) (by omega)⟩
       ·cases e
     ·cases e
    ·cases e
structure XM(d:Ag):Prop where
 own:∀p:Int,0<=p->p<=d.aw.length-> ∀h∈(Ao d p).ae,∃o∈d.ab,o.ah=h.ah/\p∈Ay d o
 time:∀o∈d.ab,∀x,AU (Ao d (Bf d o)) o.ah=some x->x.bf=true-> ∀p∈Ay d o,∀h,Bw (Ao d p) o.ah=some h->h.ak<=x.ak
theorem oF{d d':Ag}{a:BG}(g:GD d)(e:Du d a=some d'):∃o x s',o∈d.ab/\Fk d o a=some x/\MY d x/\BS (Ao d x.2) x.1=some s'/\d'=⟨d.aw,d.aj.set x.2.toNat s',d.ab⟩/\
  (∀q,0<=q->Ao d' q=if q=x.2 then s' else Ao d q)/\x.1.az≠4/\x.1.ah=o.ah:=by
 unfold Du at e;split at e
 ·cases e
 ·rename_i o ho;have ho:=pL ho;obtain⟨go,so⟩:=g.bm o ho;cases hr:Fk d o a with
  |none=>rw[hr]at e;cases e
  |some x=>
   rw[hr]at e;have ok:=Xi g go so hr;obtain⟨_,_,st3⟩:=D0 g ok.lo ok.hi;obtain⟨r1,r2⟩:=bM go hr;have e:Gc d x=some d':=e;unfold Gc at e;cases ha:BS (Ao d x.2) x.1 with
   |none=>rw[ha]at e;cases e
   |some s'=>rw[ha]at e;have e:some (⟨d.aw,d.aj.set x.2.toNat s',d.ab⟩:Ag)=some d':=e;have e:=Option.some.inj e;exact⟨o,x,s',ho,hr,ok,ha,e.symm,λq hq=>by rw[<-e];exact W6 st3 ok.lo hq,by rcases r2 with⟨k,_⟩|⟨k,_⟩|⟨k,_⟩<;>omega,r1⟩
theorem zE2{d d':Ag}{a:BG}(g:GD d)(S:XM d)(e:Du d a=some d'):XM d':=by
 have g':=cT g e;obtain⟨o,x,s',ho,hr,ok,ha,rfl,DD,h4,Ny⟩:=oF g e;obtain⟨go,_⟩:=g.bm o ho;obtain⟨_,r2⟩:=bM go hr;obtain⟨q1,q2⟩:=zzq hr;refine⟨λp p0 p1 h hh=> ?_,λo2 QW y hy Er p hp h hh=> ?_⟩
 ·rw[DD p p0]at hh;split at hh
  ·rename_i ep;rcases zy4 ha h hh with k|⟨k1,k2⟩
   ·rw[<-ep]at k;exact S.own p p0 p1 h k
   ·exact⟨o,ho,by rw[k2];exact Ny.symm,by rw[ep];exact q1 k1⟩
  ·exact S.own p p0 p1 h hh
 ·have QW:o2∈d.ab:=QW;obtain⟨go2,_⟩:=g.bm o2 QW;obtain⟨b1,_,_,b4⟩:=Fu (d:=d) go2;have p0:=(b1 p hp).1;have l0:=(b1 _ b4).1;have hy:AU (Ao ⟨d.aw,d.aj.set x.2.toNat s',d.ab⟩ (Bf d o2)) o2.ah=some y:=hy;rw[DD _ l0]at hy;rw[DD p p0]at hh;by_cases A9:o2.ah=x.1.ah
  ·have gC:o2=o:=bU g.os QW ho (A9.trans Ny);subst gC;rcases r2 with⟨k1,n1⟩|⟨k2,n2,n3⟩|⟨k3,n4,t,n5,n6,n7⟩
   ·split at hy
    ·rename_i el;rw[zvm ha k1,<-el,n1]at hy;cases hy
    ·rw[n1]at hy;cases hy
   ·rw[if_pos n2.symm]at hy;have CH:=Tk ha (by omega) h4;rw[<-A9]at CH;rw[CH]at hy;cases hy;split at hh
    ·have:=bR (g'.bh s' (by
      rw[List.mem_iff_getElem];obtain⟨_,_,st3⟩:=D0 g ok.lo ok.hi;exact⟨x.2.toNat,by simpa using st3,by simp⟩)).2 CH
     rw[this]at hh;cases hh
    ·exact q2 k2 Er p hp h hh
   ·rw[if_neg (λq=>n4 q.symm)]at hy;rw[n5]at hy;cases hy;split at hh
    ·have CH:=Tk ha (by omega) h4;rw[<-A9]at CH;have:=bR (g'.bh s' (by
      rw[List.mem_iff_getElem];obtain⟨_,_,st3⟩:=D0 g ok.lo ok.hi;exact⟨x.2.toNat,by simpa using st3,by simp⟩)).2 CH
     rw[this]at hh;cases hh
    ·exact S.time o2 QW _ n5 Er p hp h hh
  ·have BO:AU (Ao d (Bf d o2)) o2.ah=some y:=by
    split at hy
    ·rename_i el;rw[(WC ha h4 A9).1,<-el]at hy;exact hy
    ·exact hy
   have Ik:Bw (Ao d p) o2.ah=some h:=by
    split at hh
    ·rename_i el;rw[(WC ha h4 A9).2,<-el]at hh;exact hh
    ·exact hh
   exact S.time o2 QW y BO Er p hp h Ik
theorem zCU{d:Ag}(h:Vv d):XM d:=by
 have S:∀p,Ao d p=KB:=λp=>by
  unfold Ao;cases hq:d.aj[p.toNat]? with
  |none=>rfl
  |some s=>exact h s (List.mem_of_getElem? hq)
 refine⟨λp _ _ x hx=> ?_,λo _ x hx=> ?_⟩
 ·rw[S]at hx;cases hx
 ·rw[S]at hx;cases hx
structure EA(d:Ag):Prop where
 gd:GD d
 ag:T6 d
 st:XM d
theorem EA.step{d d':Ag}{a:BG}(h:EA d)(e:Du d a=some d'):EA d':=⟨cT h.gd e,zEL h.gd h.ag e,zE2 h.gd h.st e⟩
theorem zyh:∀(al:List BG) (z:Ag × List Bool),EA z.1->EA (al.foldl Fw z).1
 | [],_,h=>h
 |a::al,z,h=>by
  rw[List.foldl_cons];refine zyh al _ ?_;unfold Fw;cases hs:Du z.1 a with
  |none=>exact h
  |some d=>exact h.step hs
theorem Tp{d:Ag}{o:Ak}{a:BG}(g:GD d)(ho:o∈d.ab)(e:a.ah=o.ah):Du d a=(Fk d o a).bind (Gc d):=by
 have h:CV (λx:Ak=>x.ah==a.ah) d.ab>=0:=by have:=bT (λx:Ak=>x.ah==a.ah) d.ab;rw[List.any_eq_true.2 ⟨o,ho,by simpa using e.symm⟩]at this;simpa using this
 obtain⟨o',e1,e2,e3⟩:=Xb h;have:o'=o:=bU g.os e3 ho (by have hh:o'.ah=a.ah:=(by simpa using e2);rw[hh,e]);subst this;unfold Du;rw[e1]
abbrev Jv(o:Ak):BG:=⟨3,o.ah,0,0⟩
abbrev Db(o:Ak)(p:Int):BG:=⟨4,o.ah,p,0⟩
theorem zw8{d:Ag}{o:Ak}(g:GD d)(ho:o∈d.ab):PJ d o=some (Hj (Du d (Jv o))):=by rw[zvU g (g.bm o ho).1,Tp g ho rfl];rfl
theorem bG(d:Ag)(o:Ak)(p:Int):Fk d o (Db o p)=H9 d o p:=by unfold Fk;simp
theorem zzF(d:Ag)(o:Ak):Fk d o (Jv o)=Yr d o:=by unfold Fk;simp
theorem zvX{d:Ag}{o:Ak}{p:Int}(g:GD d)(ho:o∈d.ab):PH d o p=some (Hj (Du d (Db o p))):=by rw[ztB g (g.bm o ho).1,Tp g ho rfl,bG];rfl
def CD(d:Ag)(a:BG):Ag:=(Du d a).getD d
theorem iR{d:Ag}{a:BG}(g:GD d):GD (CD d a)/\((CD d a).aw=d.aw/\(CD d a).ab=d.ab):=by
 unfold CD;cases e:Du d a with
 |none=>exact⟨g,rfl,rfl⟩
 |some d'=>obtain⟨_,_,_,_,_,_,_,h,_⟩:=oF g e;exact⟨cT g e,by show d'.aw=_;rw[h],by show d'.ab=_;rw[h]⟩
def DW(d z:Ag):Prop:=GD z/\(z.aw=d.aw/\z.ab=d.ab)
theorem DW.try{d z:Ag}{a:BG}(h:DW d z):DW d (CD z a):=by obtain⟨a1,a2,a3⟩:=iR (a:=a) h.1;exact⟨a1,a2.trans h.2.1,a3.trans h.2.2⟩
theorem DW.parts{d z:Ag}(h:DW d z)(o:Ak):Ay z o=Ay d o:=by unfold Ay;rw[h.2.1]
theorem DW.fold{d:Ag}{o:Ak}:∀(ps:List Int) (z:Ag),DW d z->DW d (ps.foldl (λz p=>CD z (Db o p)) z)
 | [],_,h=>h
 |p::ps,z,h=>DW.fold ps _ h.try
def NT(d:Ag)(o:Ak):Bool:= !(AU (Ao d (Bf d o)) o.ah).isSome&&(Ay d o).any λp=>(Bw (Ao d p) o.ah).isSome
def DS(d:Ag)(o:Ak):Ag:=((Ay d o).drop 1).foldl (λz p=>CD z (Db o p)) (if NT d o=true then CD d (Jv o)else d)
def K1(d:Ag):Ag:=d.ab.foldl DS d
theorem DW.settle{d z:Ag}{o:Ak}(h:DW d z):DW d (DS z o):=by
 unfold DS;refine DW.fold _ _ ?_;split
 ·exact h.try
 ·exact h
theorem uE(x:Option Ag)(d:Ag):Ze (Hj x).1 (Hj x).2 d=some ((),x.getD d):=by cases x<;>rfl
theorem zy3{d z:Ag}{o:Ak}{i:Nat}(h:DW d z)(ho:o∈d.ab):VU (i:Int) o (Ay z o) z.aw z.aj z.ab=YZ (i:Int) (((Ay z o).drop 1).foldl (λz p=>CD z (Db o p)) z).aw (((Ay z o).drop 1).foldl (λz p=>CD z (Db o p)) z).aj (((Ay z o).drop 1).foldl (λz p=>CD z (Db o p)) z).ab:=by
 obtain⟨go,_⟩:=h.1.bm o (by rw[h.2.2];exact ho);obtain⟨b1,b2,_,b4⟩:=Fu (d:=z) go;have I7:=List.length_pos_of_mem b4;have hf:=h.1.dv;have e:A6 (Ay z o) 1 ((Ay z o).length:Int)=(Ay z o).drop 1:=NM (Ay z o) 1;unfold VU;rw[Ba (by omega)];have hl:((Ay z o).drop 1).length<=100:=by rw[Bx];omega
 exact(D5 (xs:=(Ay z o).drop 1) (body:=λs:Int × List Am × List Ai × List Ak=>R4 (i:Int) o (Ay z o) s.1 s.2.1 s.2.2.1 s.2.2.2) (λj (y:Ag)=>(j,y.aw,y.aj,y.ab)) (λz p=>CD z (Db o p)) (λy=>YZ (i:Int) y.aw y.aj y.ab) (λ_ y=>DW d y)
  (λj hj y hy=>by refine⟨?_,hy.try⟩;show R4 (i:Int) o (Ay z o) (j:Int) y.aw y.aj y.ab=_;unfold R4;have e2:PH ⟨y.aw,y.aj,y.ab⟩ o ((Ay z o).drop 1)[j]=some (Hj (Du y (Db o ((Ay z o).drop 1)[j]))):=zvX hy.1 (by rw[hy.2.2];exact ho);rw[e,if_pos (by simpa using hj),AH hj,Aa,e2,Aa,uE,Aa,Bb (by omega)];rfl)
  (λy _=>by show R4 (i:Int) o (Ay z o) (((Ay z o).drop 1).length:Int) y.aw y.aj y.ab=_;unfold R4;rw[e,if_neg (by simp)]) (s:=z) h).1
theorem oQ{d:Ag}(g:GD d):NU d=some (K1 d,true):=by
 have hl:=g.b8;unfold NU K1;rw[W3 (Ob g),Xc g,Aa,if_neg (by simp),nF g,Aa];exact(D5 (xs:=d.ab) (body:=λs:Int × List Am × List Ai × List Ak=>RZ d s.1 s.2.1 s.2.2.1 s.2.2.2) (λi (z:Ag)=>(i,z.aw,z.aj,z.ab)) DS (λz=>some (z,true)) (λ_ z=>DW d z)
  (λi hi z hz=>by
   refine⟨?_,hz.settle⟩;have ho:=Aw hi;have QX:d.ab[i]∈z.ab:=by rw[hz.2.2];exact ho
   obtain⟨go,_⟩:=g.bm _ ho;obtain⟨b1,b2,b3,b4⟩:=Fu (d:=z) go;have hf:=hz.1.dv;have l1:=b1 _ b4;obtain⟨s1,s2,_⟩:=D0 hz.1 l1.1 l1.2;obtain⟨w1,_⟩:=hz.1.bh _ s2;have It:=w1.cc;show RZ d (i:Int) z.aw z.aj z.ab=_;unfold RZ;have ep:KJ ⟨z.aw,z.aj,z.ab⟩ d.ab[i]=some (Ay z d.ab[i]):=Qo hz.1 go;have eh:DR (Ay z d.ab[i]) (λy0_=>Zh y0_ ⟨z.aw,z.aj,z.ab⟩ d.ab[i])=some ((Ay z d.ab[i]).any λp=>(Bw (Ao z p) (d.ab[i]).ah).isSome):=by refine JS _ (λp hp=> ?_) (by omega);obtain⟨t1,t2,_⟩:=D0 hz.1 (b1 p hp).1 (b1 p hp).2;obtain⟨w2,_⟩:=hz.1.bh _ t2;have eP:=w2.dv;unfold Zh;rw[show getI (⟨z.aw,z.aj,z.ab⟩:Ag).aj p=some (Ao z p)from t1,Aa,Qk (by omega) w2.dg];rfl
   rw[if_pos (by simpa using hi),AH hi,Aa,ep,Aa,b3,Aa,s1,Aa,Oh (by omega) w1.c9,Aa,eh,Aa];have fin:∀y:Ag,DW d y->Ay y d.ab[i]=Ay z d.ab[i]->VU (i:Int) d.ab[i] (Ay z d.ab[i]) y.aw y.aj y.ab=some (.inl (((i+1:Nat):Int),(((Ay z d.ab[i]).drop 1).foldl (λz p=>CD z (Db d.ab[i] p)) y).aw,(((Ay z d.ab[i]).drop 1).foldl (λz p=>CD z (Db d.ab[i] p)) y).aj,(((Ay z d.ab[i]).drop 1).foldl (λz p=>CD z (Db d.ab[i] p)) y).ab)):=λy hy e=>by have:=zy3 (i:=i) hy ho;rw[e]at this;rw[this];unfold YZ;rw[Bb (by omega)]
   unfold DS;by_cases hr:NT z d.ab[i]=true
   ·rw[if_pos (show((!(AU (Ao z (Bf z d.ab[i])) (d.ab[i]).ah).isSome&&(Ay z d.ab[i]).any λp=>(Bw (Ao z p) (d.ab[i]).ah).isSome))=true from hr),if_pos hr];have er:PJ ⟨z.aw,z.aj,z.ab⟩ d.ab[i]=some (Hj (Du z (Jv d.ab[i]))):=zw8 hz.1 QX;rw[er,Aa,uE,Aa];have h2:DW d (CD z (Jv d.ab[i])):=hz.try;exact fin _ h2 ((h2.parts _).trans (hz.parts _).symm)
   ·rw[if_neg (show¬((!(AU (Ao z (Bf z d.ab[i])) (d.ab[i]).ah).isSome&&(Ay z d.ab[i]).any λp=>(Bw (Ao z p) (d.ab[i]).ah).isSome))=true from hr),if_neg hr];exact fin z hz rfl)
  (λz _=>by show RZ d (d.ab.length:Int) z.aw z.aj z.ab=_;unfold RZ;rw[if_neg (by simp)]) (s:=d) ⟨g,rfl,rfl⟩).1
theorem zwP:∀(al:List BG) (z:Ag × List Bool),(al.foldl Fw z).1=al.foldl CD z.1
 | [],_=>rfl
 |a::al,z=>by rw[List.foldl_cons,List.foldl_cons,zwP al];congr 1;unfold Fw CD;cases Du z.1 a<;>rfl
def wL(d:Ag)(o:Ak):List BG:=(if NT d o=true then [Jv o]else [])++((Ay d o).drop 1).map (Db o)
theorem zCl(d:Ag)(o:Ak):(wL d o).foldl CD d=DS d o:=by unfold wL DS;rw[List.foldl_append,List.foldl_map];split<;>rfl
theorem tL{α:Type}(q:α->Bool):∀(xs:List α) (b:Bool),xs.foldl (λb x=>b||q x) b=(b||xs.any q)
 | [],b=>by simp
 |x::xs,b=>by rw[List.foldl_cons,tL q xs,List.any_cons,Bool.or_assoc]
theorem zAM{d:Ag}(g:GD d):Sm d=some (K1 d,true):=by
 have hl:=g.b8;unfold Sm K1;rw[Xd (Ob g),Xc g,Aa,if_neg (by simp),nS g,Aa];exact(D5 (xs:=d.ab) (body:=λs:Int × List Am × List Ai × List Ak=>R3 d s.1 s.2.1 s.2.2.1 s.2.2.2) (λi (z:Ag)=>(i,z.aw,z.aj,z.ab)) DS (λz=>some (z,true)) (λ_ z=>DW d z)
  (λi hi z hz=>by
   refine⟨?_,hz.settle⟩;have ho:=Aw hi;obtain⟨go,_⟩:=g.bm _ ho;have D2:=AH hi;generalize d.ab[i]=o at ho go D2 ⊢;obtain⟨b1,b2,b3,b4⟩:=Fu (d:=z) go;have I7:=List.length_pos_of_mem b4;have hf:=hz.1.dv;have l1:=b1 _ b4;obtain⟨s1,s2,_⟩:=D0 hz.1 l1.1 l1.2;obtain⟨w1,_⟩:=hz.1.bh _ s2;have It:=w1.cc;have e:A6 (Ay z o) 1 ((Ay z o).length:Int)=(Ay z o).drop 1:=NM (Ay z o) 1;have M6:((Ay z o).drop 1).length<=100:=by rw[Bx];omega
   have j3:∀pre:List BG,pre.length<=1->Y1 (i:Int) z.aw z.aj z.ab o (Ay z o) pre=some (.inl (((i+1:Nat):Int),((pre++((Ay z o).drop 1).map (Db o)).foldl CD z).aw,((pre++((Ay z o).drop 1).map (Db o)).foldl CD z).aj,((pre++((Ay z o).drop 1).map (Db o)).foldl CD z).ab)):=λpre hp=>by
    unfold Y1;rw[Ba (by omega)];refine((D5 (xs:=(Ay z o).drop 1) (body:=λs:Int × List BG=>R1 (i:Int) z.aw z.aj z.ab o (Ay z o) s.1 s.2) (λj (y:List BG)=>(j,y)) (λy p=>y++ [Db o p]) (λy=>kK (i:Int) z.aw z.aj z.ab y) (λj y=>y.length<=1+j)
     (λj hj y hy=>by refine⟨?_,by rw[AF,AP];omega⟩;show R1 (i:Int) z.aw z.aj z.ab o (Ay z o) (j:Int) y=_;unfold R1;rw[e,if_pos (by simpa using hj),AH hj,Aa,Ba (by simp only[RM,AP];omega),Bb (by omega)])
     (λy _=>by show R1 (i:Int) z.aw z.aj z.ab o (Ay z o) (((Ay z o).drop 1).length:Int) y=_;unfold R1;rw[e,if_neg (by simp)]) (s:=pre) (by omega)).1).trans ?_
    rw[foldl_map (Db o)];unfold kK;rw[show P5 ⟨z.aw,z.aj,z.ab⟩ (pre++((Ay z o).drop 1).map (Db o))=_ from qP hz.1 (by rw[AF,List.length_map,Bx];omega),Aa,zwP,Bb (by omega)]
   have k2:∀b:Bool,Y2 (i:Int) z.aw z.aj z.ab o (Ay z o) b=some (.inl (((i+1:Nat):Int),(((if(!(AU (Ao z (Bf z o)) o.ah).isSome&&b)=true then [Jv o]else [])++((Ay z o).drop 1).map (Db o)).foldl CD z).aw,(((if(!(AU (Ao z (Bf z o)) o.ah).isSome&&b)=true then [Jv o]else [])++((Ay z o).drop 1).map (Db o)).foldl CD z).aj,(((if(!(AU (Ao z (Bf z o)) o.ah).isSome&&b)=true then [Jv o]else [])++((Ay z o).drop 1).map (Db o)).foldl CD z).ab)):=λb=>by
    unfold Y2;rw[b3,Aa,s1,Aa,bP (by omega),Aa];cases AU (Ao z (Bf z o)) o.ah with
    |some x=>rw[if_neg (by cases b<;>simp),j3 [] (by simp)];simp
    |none=>
     cases b with
     |false=>rw[if_neg (by simp),j3 [] (by simp)];simp
     |true=>rw[if_pos (by rfl),Ba (by simp[RM]),j3 [Jv o] (by simp)];simp
   show R3 d (i:Int) z.aw z.aj z.ab=some (.inl (((i+1:Nat):Int),(DS z o).aw,(DS z o).aj,(DS z o).ab));unfold R3;rw[if_pos (by simpa using hi),D2,Aa,qB g go,Aa,<-hz.parts o];refine((D5 (xs:=Ay z o) (body:=λs:Bool × Int=>R2 (i:Int) z.aw z.aj z.ab o (Ay z o) s.1 s.2) (λj (b:Bool)=>(b,j)) (λb p=>b||(Bw (Ao z p) o.ah).isSome) (λb=>Y2 (i:Int) z.aw z.aj z.ab o (Ay z o) b) (λ_ _=>True)
    (λj hj b _=>by have c:=b1 _ (Aw hj);obtain⟨t1,t2,_⟩:=D0 hz.1 c.1 c.2;obtain⟨w2,_⟩:=hz.1.bh _ t2;have eP:=w2.dv;refine⟨?_,trivial⟩;show R2 (i:Int) z.aw z.aj z.ab o (Ay z o) b (j:Int)=_;unfold R2;rw[if_pos (by simpa using hj),AH hj,Aa,t1,Aa,Tf (by omega),Aa,Bb (by omega)];cases Bw (Ao z (Ay z o)[j]) o.ah<;>rfl)
    (λb _=>by show R2 (i:Int) z.aw z.aj z.ab o (Ay z o) b ((Ay z o).length:Int)=_;unfold R2;rw[if_neg (by simp)]) (s:=false) trivial).1).trans ?_
   rw[tL,Bool.false_or,k2,<-zCl];rfl)
  (λz _=>by show R3 d (d.ab.length:Int) z.aw z.aj z.ab=_;unfold R3;rw[if_neg (by simp)]) (s:=d) ⟨g,rfl,rfl⟩).1
theorem EA.try{d:Ag}{a:BG}(h:EA d):EA (CD d a):=by
 unfold CD;cases e:Du d a with
 |none=>exact h
 |some d'=>exact h.step e
theorem uF{d d':Ag}{o:Ak}{a:BG}(g:GD d)(ho:o∈d.ab)(ea:a.ah=o.ah)(e:Du d a=some d'):∃x s',Fk d o a=some x/\MY d x/\BS (Ao d x.2) x.1=some s'/\
  (∀q,0<=q->Ao d' q=if q=x.2 then s' else Ao d q)/\x.1.az≠4/\x.1.ah=o.ah:=by
 rw[Tp g ho ea]at e;obtain⟨go,so⟩:=g.bm o ho;cases hr:Fk d o a with
 |none=>rw[hr]at e;cases e
 |some x=>
  rw[hr]at e;have ok:=Xi g go so hr;obtain⟨_,_,st3⟩:=D0 g ok.lo ok.hi;obtain⟨r1,r2⟩:=bM go hr;have e:Gc d x=some d':=e;unfold Gc at e;cases ha:BS (Ao d x.2) x.1 with
  |none=>rw[ha]at e;cases e
  |some s'=>rw[ha]at e;have e:some (⟨d.aw,d.aj.set x.2.toNat s',d.ab⟩:Ag)=some d':=e;have e:=Option.some.inj e;exact⟨x,s',rfl,ok,ha,λq hq=>by rw[<-e];exact W6 st3 ok.lo hq,by rcases r2 with⟨k,_⟩|⟨k,_⟩|⟨k,_⟩<;>omega,r1⟩
theorem zwQ{d:Ag}{o:Ak}{t:Int}{a:BG}(g:GD d)(ho:o∈d.ab)(ea:a.ah=o.ah)(A9:t≠o.ah){q:Int}(hq:0<=q):AU (Ao (CD d a) q) t=AU (Ao d q) t/\Bw (Ao (CD d a) q) t=Bw (Ao d q) t:=by
 unfold CD;cases e:Du d a with
 |none=>exact⟨rfl,rfl⟩
 |some d'=>
  obtain⟨x,s',hr,ok,ha,DD,h4,Ny⟩:=uF g ho ea e;show AU (Ao d' q) t=_/\Bw (Ao d' q) t=_;rw[DD q hq];split
  ·rename_i e2;rw[e2];exact WC ha h4 (by rw[Ny];exact A9)
  ·exact⟨rfl,rfl⟩
theorem cC{d:Ag}{a:BG}{t:Int}{x:A8}(g:GD d){q:Int}(hq:0<=q)(h:AU (Ao d q) t=some x):AU (Ao (CD d a) q) t=some x:=by
 unfold CD;cases e:Du d a with
 |none=>exact h
 |some d'=>
  obtain⟨_,y,s',_,_,_,ha,_,DD,_,_⟩:=oF g e;show AU (Ao d' q) t=_;rw[DD q hq];split
  ·rename_i e2;rw[e2]at h;exact zzD ha h
  ·exact h
theorem cF{d:Ag}{o:Ak}(go:Di o=true){p:Int}:p∈(Ay d o).drop 1↔p≠Bf d o/\p∈Ay d o:=by obtain⟨_,_,b3,_⟩:=Fu (d:=d) go;have h:((Ay d o).drop 1).any (· ==p)=(!(p==Bf d o)&&(Ay d o).any (· ==p)):=qM (Td d.aw o.ar o.af).1 b3;rw[<-Od,h,Ab,Od];simp
theorem zzH{d:Ag}{o:Ak}{x:A8}{p:Int}(I:EA d)(ho:o∈d.ab)(hl:AU (Ao d (Bf d o)) o.ah=some x)(hp:p∈(Ay d o).drop 1):AU (Ao (CD d (Db o p)) p) o.ah=some x:=by
 obtain⟨go,so⟩:=I.gd.bm o ho;obtain⟨b1,_,_,b4⟩:=Fu (d:=d) go;obtain⟨p1,p2⟩:=(cF go).1 hp;have c:=b1 p p2;have A:=I.ag o ho;cases ht:AU (Ao d p) o.ah with
 |some y=>have:=A.lead p p2 y ht;rw[hl]at this;cases this;exact cC I.gd c.1 ht
 |none=>
  have lc:=b1 _ b4;obtain⟨_,ls,_⟩:=D0 I.gd lc.1 lc.2;obtain⟨_,lg⟩:=I.gd.bh _ ls;obtain⟨_,ps,st3⟩:=D0 I.gd c.1 c.2;obtain⟨pw,pg⟩:=I.gd.bh _ ps;have hx:=(lg.told x (pP hl)).1;have Ca:=lg.floor;have Vh:x.ah=o.ah:=by simpa using List.find?_some hl
  have er:Fk d o (Db o p)=some (⟨3,o.ah,x.ak,0,[],[],x.bf⟩,p):=by rw[bG];unfold H9;rw[hl];dsimp only;rw[if_pos (Od.2 hp)]
  have ha:∃s',BS (Ao d p) ⟨3,o.ah,x.ak,0,[],[],x.bf⟩=some s':=by
   unfold BS;rw[if_neg (show¬(3:Int)=4 by omega),if_neg (show¬(AU (Ao d p) o.ah).isSome=true by rw[ht];simp),if_neg (show¬(3:Int)=1 by omega)];by_cases hy:x.bf=true
   ·rw[if_pos (show x.bf=true from hy)];rw[if_pos hy]at hx;rcases A.yes x hl hy p p2 with k|k
    ·rw[ht]at k;cases k
    ·cases hh:Bw (Ao d p) o.ah with
     |none=>rw[hh]at k;cases k
     |some h=>
      have hle:=I.st.time o ho x hl hy p p2 h hh;obtain⟨o2,e2⟩:=zDp pw pg (zyj hh) hle (by omega);have AD: ¬x.ak<h.ak:=by omega
      dsimp only;rw[if_neg AD,e2];exact⟨_,rfl⟩
   ·rw[if_neg (show¬x.bf=true from hy)];exact⟨_,rfl⟩
  obtain⟨s',ha⟩:=ha;have es:Du d (Db o p)=some ⟨d.aw,d.aj.set p.toNat s',d.ab⟩:=by rw[Tp I.gd ho rfl,er];show Gc d _=_;unfold Gc;show(BS (Ao d p) _).map _=_;rw[ha];rfl
  unfold CD;rw[es];show AU (Ao ⟨d.aw,d.aj.set p.toNat s',d.ab⟩ p) o.ah=_;rw[W6 st3 c.1 c.1,if_pos rfl];have:=Tk ha (show(3:Int)≠1 by omega) (show(3:Int)≠4 by omega);have this:AU s' o.ah=some ⟨o.ah,x.bf,x.ak⟩:=this;rw[this,<-Vh]
theorem EA.fold{o:Ak}:∀(ps:List Int) (z:Ag),EA z->EA (ps.foldl (λz p=>CD z (Db o p)) z)
 | [],_,h=>h
 |p::ps,z,h=>EA.fold ps _ h.try
theorem WM{o:Ak}{t:Int}{x:A8}{q:Int}(hq:0<=q):∀(ps:List Int) (z:Ag),GD z->AU (Ao z q) t=some x->AU (Ao (ps.foldl (λz p=>CD z (Db o p)) z) q) t=some x
 | [],_,_,h=>h
 |p::ps,z,g,h=>WM hq ps _ (iR g).1 (cC g hq h)
theorem zK{d:Ag}{o:Ak}{x:A8}(ho:o∈d.ab)(go:Di o=true):∀(ps:List Int) (z:Ag),EA z->DW d z->AU (Ao z (Bf d o)) o.ah=some x->(∀p∈ps,p∈(Ay d o).drop 1)-> ∀p∈ps,AU (Ao (ps.foldl (λz p=>CD z (Db o p)) z) p) o.ah=some x
 | [],_,_,_,_,_=>by simp
 |p::ps,z,I,L,hl,hp=>by
  obtain⟨b1,_,_,b4⟩:=Fu (d:=d) go;have ep:=L.parts o;have el:Bf z o=Bf d o:=by unfold Bf;rw[ep]
  have h1:=zzH (p:=p) I (by rw[L.2.2];exact ho) (by rw[el];exact hl) (by rw[ep];exact hp p (by simp));have Ld:=cC (a:=Db o p) I.gd (b1 _ b4).1 hl;intro q hq;rw[List.foldl_cons];rcases Ae.1 hq with rfl|hq
  ·exact WM (b1 _ ((cF go).1 (hp q (by simp))).2).1 ps _ I.try.gd h1
  ·exact zK ho go ps _ I.try L.try Ld (λr hr=>hp r (by simp[hr])) q hq
def Sd(d:Ag)(o:Ak):Prop:= ∀p∈Ay d o,Bw (Ao d p) o.ah=none/\AU (Ao d p) o.ah=AU (Ao d (Bf d o)) o.ah
theorem zyt{d:Ag}{o:Ak}{p:Int}(g:GD d)(ho:o∈d.ab)(h:AU (Ao d (Bf d o)) o.ah=none):CD d (Db o p)=d:=by unfold CD;rw[Tp g ho rfl,bG];unfold H9;rw[h];rfl
theorem oY{d:Ag}{f:Ag->Int->Ag}:∀(ps:List Int),(∀p∈ps,f d p=d)->ps.foldl f d=d
 | [],_=>rfl
 |p::ps,h=>by rw[List.foldl_cons,h p (by simp)];exact oY ps λq hq=>h q (by simp[hq])
theorem zBp{d:Ag}{o:Ak}(I:EA d)(ho:o∈d.ab):Sd (DS d o) o/\EA (DS d o):=by
 obtain⟨go,so⟩:=I.gd.bm o ho;obtain⟨b1,_,_,b4⟩:=Fu (d:=d) go;have lc:=b1 _ b4;have L:DW d d:=⟨I.gd,rfl,rfl⟩
 have base:∃z,EA z/\DW d z/\DS d o=((Ay d o).drop 1).foldl (λz p=>CD z (Db o p)) z/\((∃x,AU (Ao z (Bf d o)) o.ah=some x)\/(AU (Ao z (Bf d o)) o.ah=none/\ ∀p∈Ay d o,Bw (Ao z p) o.ah=none)):=by
  unfold DS;by_cases hr:NT d o=true
  ·rw[if_pos hr];refine⟨_,I.try,L.try,rfl, .inl ?_⟩;unfold NT at hr;rw[Ab,Be]at hr;have hn:AU (Ao d (Bf d o)) o.ah=none:=by
    cases hq:AU (Ao d (Bf d o)) o.ah with
    |none=>rfl
    |some x=>rw[hq]at hr;exact absurd hr.1 (by simp)
   obtain⟨_,_,st3⟩:=D0 I.gd lc.1 lc.2;have ha:∃s',BS (Ao d (Bf d o)) ⟨2,o.ah,0,0,[],[],false⟩=some s':=by unfold BS;rw[if_neg (show¬(2:Int)=4 by omega),if_neg (show¬(AU (Ao d (Bf d o)) o.ah).isSome=true by rw[hn];simp),if_neg (show¬(2:Int)=1 by omega),if_neg (show¬false=true by simp)];exact⟨_,rfl⟩
   obtain⟨s',ha⟩:=ha;have es:Du d (Jv o)=some ⟨d.aw,d.aj.set (Bf d o).toNat s',d.ab⟩:=by rw[Tp I.gd ho rfl,zzF];show Gc d (⟨2,o.ah,0,0,[],[],false⟩,Bf d o)=_;unfold Gc;show(BS (Ao d (Bf d o)) _).map _=_;rw[ha];rfl
   unfold CD;rw[es];refine⟨⟨o.ah,false,0⟩,?_⟩;show AU (Ao ⟨d.aw,d.aj.set (Bf d o).toNat s',d.ab⟩ (Bf d o)) o.ah=_;rw[W6 st3 lc.1 lc.1,if_pos rfl];exact Tk ha (show(2:Int)≠1 by omega) (show(2:Int)≠4 by omega)
  ·rw[if_neg hr];refine⟨d,I,L,rfl,?_⟩;cases hq:AU (Ao d (Bf d o)) o.ah with
   |some x=>exact .inl ⟨x,rfl⟩
   |none=>
    refine .inr ⟨rfl,λp hp=> ?_⟩;unfold NT at hr;rw[hq]at hr;simp only[Option.isSome_none,Bool.not_false,Bool.true_and,Bool.not_eq_true,List.any_eq_false]at hr;have:=hr p hp;cases hh:Bw (Ao d p) o.ah with
    |none=>rfl
    |some y=>rw[hh]at this;cases this
 obtain⟨z,Iz,Lz,e,h⟩:=base;have ep:=Lz.parts o;have el:Bf z o=Bf d o:=by unfold Bf;rw[ep]
 have QX:o∈z.ab:=by rw[Lz.2.2];exact ho
 rw[e];refine⟨?_,EA.fold _ _ Iz⟩;rcases h with⟨x,hx⟩|⟨h1,h2⟩
 ·have LF:=DW.fold (d:=d) (o:=o) ((Ay d o).drop 1) z Lz;have IF:=EA.fold (o:=o) ((Ay d o).drop 1) z Iz;have hL:=WM (o:=o) lc.1 ((Ay d o).drop 1) z Iz.gd hx;have hD:=zK ho go ((Ay d o).drop 1) z Iz Lz hx λp hp=>hp;generalize ((Ay d o).drop 1).foldl (λz p=>CD z (Db o p)) z=y at LF IF hL hD;intro p hp;rw[LF.parts o]at hp;have ely:Bf y o=Bf d o:=by unfold Bf;rw[LF.parts o]
  have ht:AU (Ao y p) o.ah=some x:=by
   by_cases q:p=Bf d o
   ·rw[q];exact hL
   ·exact hD p ((cF go).2 ⟨q,hp⟩)
  have c:=b1 p hp;obtain⟨_,ps,_⟩:=D0 LF.1 c.1 (by rw[LF.2.1];exact c.2);exact⟨bR (LF.1.bh _ ps).2 ht,by rw[ely,ht,hL]⟩
 ·have hi:((Ay d o).drop 1).foldl (λz p=>CD z (Db o p)) z=z:=oY _ λp _=>zyt Iz.gd QX (by rw[el];exact h1);rw[hi];intro p hp;rw[ep]at hp;refine⟨h2 p hp,?_⟩;rw[el,h1];cases ht:AU (Ao z p) o.ah with
  |none=>rfl
  |some y=>have:=(Iz.ag o QX).lead p (by rw[ep];exact hp) y ht;rw[el,h1]at this;cases this
theorem nY{o:Ak}{t:Int}{d:Ag}(ho:o∈d.ab)(A9:t≠o.ah){q:Int}(hq:0<=q):∀(ps:List Int) (z:Ag),DW d z->AU (Ao (ps.foldl (λz p=>CD z (Db o p)) z) q) t=AU (Ao z q) t/\Bw (Ao (ps.foldl (λz p=>CD z (Db o p)) z) q) t=Bw (Ao z q) t
 | [],_,_=>⟨rfl,rfl⟩
 |p::ps,z,L=>by obtain⟨a1,a2⟩:=nY ho A9 hq ps _ (L.try (a:=Db o p));obtain⟨c1,c2⟩:=zwQ (a:=Db o p) L.1 (by rw[L.2.2];exact ho) rfl A9 hq;rw[List.foldl_cons];exact⟨a1.trans c1,a2.trans c2⟩
theorem zF{d:Ag}{o:Ak}{t:Int}(g:GD d)(ho:o∈d.ab)(A9:t≠o.ah){q:Int}(hq:0<=q):AU (Ao (DS d o) q) t=AU (Ao d q) t/\Bw (Ao (DS d o) q) t=Bw (Ao d q) t:=by
 have L:DW d d:=⟨g,rfl,rfl⟩
 unfold DS;split
 ·obtain⟨a1,a2⟩:=nY ho A9 hq ((Ay d o).drop 1) _ (L.try (a:=Jv o));obtain⟨c1,c2⟩:=zwQ (a:=Jv o) g ho rfl A9 hq;exact⟨a1.trans c1,a2.trans c2⟩
 ·exact nY ho A9 hq ((Ay d o).drop 1) _ L
theorem zw4{d:Ag}{o:Ak}{t:Int}{x:A8}(g:GD d){q:Int}(hq:0<=q)(h:AU (Ao d q) t=some x):AU (Ao (DS d o) q) t=some x:=by
 unfold DS;split
 ·exact WM hq _ _ (iR g).1 (cC g hq h)
 ·exact WM hq _ _ g h
theorem ztP:∀(l:List Ak) (z:Ag),EA z->(∀o∈l,o∈z.ab)->(EA (l.foldl DS z)/\DW z (l.foldl DS z))/\((∀o∈z.ab,Sd z o\/o∈l->Sd (l.foldl DS z) o)/\ ∀q,0<=q-> ∀t x,AU (Ao z q) t=some x->AU (Ao (l.foldl DS z) q) t=some x)
 | [],z,I,_=>⟨⟨I,I.gd,rfl,rfl⟩,λo _ h=>by
   rcases h with h|h
   ·exact h
   ·simp at h,λ_ _ _ _ h=>h⟩
 |o1::l,z,I,hl=>by
  have Md:=hl o1 (by simp);obtain⟨s1,s2⟩:=zBp I Md;have L:DW z (DS z o1):=DW.settle ⟨I.gd,rfl,rfl⟩;obtain⟨⟨a1,a2⟩,a3,a4⟩:=ztP l (DS z o1) s2 λo ho=>by rw[L.2.2];exact hl o (by simp[ho])
  rw[List.foldl_cons];refine⟨⟨a1,a2.1,a2.2.1.trans L.2.1,a2.2.2.trans L.2.2⟩,λo ho h=> ?_,λq hq t x hx=>a4 q hq t x (zw4 I.gd hq hx)⟩;refine a3 o (by rw[L.2.2];exact ho) ?_;by_cases e:o.ah=o1.ah
  ·have:=bU I.gd.os ho Md e;rw[this];exact .inl s1
  ·rcases h with h|h
   ·left;intro p hp;rw[L.parts o]at hp;obtain⟨go,_⟩:=I.gd.bm o ho;obtain⟨b1,_,_,b4⟩:=Fu (d:=z) go;have el:Bf (DS z o1) o=Bf z o:=by unfold Bf;rw[L.parts o]
    obtain⟨c1,c2⟩:=zF I.gd Md e (b1 p hp).1;obtain⟨c3,_⟩:=zF I.gd Md e (b1 _ b4).1;rw[c1,c2,el,c3];exact h p hp
   ·rcases Ae.1 h with h|h
    ·exact absurd (by rw[h]) e
    ·exact .inr h
structure zHv(d s:Ag):Prop where
 inv:EA s
 ni:DW d s
 sd:∀o∈s.ab,Sd s o
 keep:∀q,0<=q-> ∀t x,AU (Ao d q) t=some x->AU (Ao s q) t=some x
theorem zFt{d:Ag}(I:EA d):zHv d (K1 d):=by obtain⟨⟨a1,a2⟩,a3,a4⟩:=ztP d.ab d I λ_ h=>h;exact⟨a1,a2,λo ho=>a3 o (by have:=a2.2.2;unfold K1 at ho;rw[this]at ho;exact ho) (.inr (by have:=a2.2.2;unfold K1 at ho;rw[this]at ho;exact ho)),a4⟩
theorem zDW{d:Ag}{s:Ai}(h:s∈d.aj):∃p:Nat,p<d.aj.length/\Ao d (p:Int)=s:=by obtain⟨i,hi,rfl⟩:=List.mem_iff_getElem.1 h;refine⟨i,hi,?_⟩;unfold Ao;rw[CE,Bt hi];rfl
theorem zFc{s:Ag}(I:EA s)(h:∀o∈s.ab,Sd s o):∀x∈s.aj,x.ae=[]:=by intro x hx;obtain⟨p,hp,e⟩:=zDW hx;have hlen:=I.gd.len;refine List.eq_nil_iff_forall_not_mem.2 λy hy=> ?_;obtain⟨o,ho,e1,e2⟩:=I.st.own p (by omega) (by omega) y (by rw[e];exact hy);have:=(h o ho p e2).1;unfold Bw at this;rw[e,List.find?_eq_none]at this;have:=this y hy;simp[hk,e1]at this
theorem zxm{s:Ag}(I:EA s)(h:∀o∈s.ab,Sd s o):K1 s=s:=by
 have one:∀o∈s.ab,DS s o=s:=λo ho=>by
  obtain⟨go,_⟩:=I.gd.bm o ho;have S:=h o ho;have hr: ¬NT s o=true:=by
   unfold NT;cases hq:AU (Ao s (Bf s o)) o.ah with
   |some x=>simp
   |none=>simp only[Option.isSome_none,Bool.not_false,Bool.true_and,Bool.not_eq_true,List.any_eq_false];intro p hp;rw[(S p hp).1];simp
  unfold DS;rw[if_neg hr];refine oY _ λp hp=> ?_;obtain⟨p1,p2⟩:=(cF go).1 hp;cases hq:AU (Ao s (Bf s o)) o.ah with
  |none=>exact zyt I.gd ho hq
  |some x=>
   unfold CD;cases e:Du s (Db o p)with
   |none=>rfl
   |some s2=>exfalso;obtain⟨y,s',hr,_,ha,_,h4,Ny⟩:=uF I.gd ho rfl e;rw[bG]at hr;unfold H9 at hr;rw[hq]at hr;dsimp only at hr;rw[if_pos (Od.2 hp)]at hr;cases hr;have:=aP ha h4;have this:AU (Ao s p) o.ah=none:=this;rw[(S p p2).2,hq]at this;cases this
 unfold K1;have:∀l:List Ak,(∀o∈l,o∈s.ab)->l.foldl DS s=s:=by
  intro l
  induction l with
  |nil=>intro _;rfl
  |cons o l ih=>intro hl;rw[List.foldl_cons,one o (hl o (by simp))];exact ih λx hx=>hl x (by simp[hx])
 exact this _ λ_ h=>h
def Ly:Ai:=⟨0,[],[],[]⟩
def IN(s:Ai)(r:AS):Ai:=(BS s r).getD s
def vM(rs:List AS):Ai:=rs.foldl IN Ly
theorem iG:WS Ly where
 cells:=⟨List.Pairwise.nil,by simp[Ly],λc hc=>by simp[Ly]at hc⟩
 dv:=by simp[Ly]
 dg:=List.Pairwise.nil
 held:=λh hh=>by simp[Ly]at hh
 c9:=List.Pairwise.nil
 told:=λh hh=>by simp[Ly]at hh
theorem WS.step{s:Ai}{r:AS}(h:WS s)(hr:Gp r):WS (IN s r):=by
 unfold IN;cases e:BS s r with
 |none=>exact h
 |some s'=>exact zys h hr e
theorem zya:∀(rs:List AS) (s:Ai),WS s->(∀r∈rs,Gp r)->WS (rs.foldl IN s)
 | [],s,h,_=>h
 |r::rs,s,h,hr=>zya rs (IN s r) (h.step (hr r (by simp))) λx hx=>hr x (by simp[hx])
theorem zBa{rs:List AS}(hr:∀r∈rs,Gp r):WS (vM rs):=zya rs _ iG hr
theorem zyH:∀(rs:List AS) (s:Ai) (b:List Bool),(rs.foldl (λ(z:Ai × List Bool) r=>(IN z.1 r,z.2++ [(BS z.1 r).isSome])) (s,b)).1=rs.foldl IN s
 | [],_,_=>rfl
 |r::rs,s,b=>zyH rs (IN s r) _
theorem zGT{rs:List AS}(hl:rs.length<=1000000)(hr:∀r∈rs,Gp r):∃b,aJ rs=some (vM rs,b):=by
 refine⟨(rs.foldl (λ(z:Ai × List Bool) r=>(IN z.1 r,z.2++ [(BS z.1 r).isSome])) (Ly,[])).2,?_⟩;unfold aJ;have:=(D5 (xs:=rs) (body:=λs:List Bool × Int × Int × List An × List AL × List A8=>SS rs s.1 s.2.1 s.2.2.1 s.2.2.2.1 s.2.2.2.2.1 s.2.2.2.2.2) (λi (z:Ai × List Bool)=>(z.2,i,z.1.ax,z.1.aq,z.1.ae,z.1.au)) (λz r=>(IN z.1 r,z.2++ [(BS z.1 r).isSome])) (λz=>some (z.1,z.2)) (λi z=>WS z.1/\z.2.length=i)
  (λi hi z hz=>by
   have Pr:=hr _ (Aw hi);refine⟨?_,hz.1.step Pr,by simp[hz.2]⟩;have NG:=hz.2;show SS rs z.2 (i:Int) z.1.ax z.1.aq z.1.ae z.1.au=_;unfold SS;obtain⟨x,e1,e2⟩:=zyE hz.1 Pr;rw[if_pos (by simpa using hi),AH hi,Aa,show(⟨z.1.ax,z.1.aq,z.1.ae,z.1.au⟩:Ai)=z.1 from rfl,e1,Aa,Bb (by omega)];unfold IN;cases e:BS z.1 rs[i]with
   |none=>simp only[Option.isSome_none,Bj,if_false];rw[Ba (by simp only[AP];omega)];rfl
   |some s'=>simp only[Option.isSome_some,if_true];rw[Ba (by simp only[AP];omega),e2 s' e];rfl)
  (λz _=>by show SS rs z.2 (rs.length:Int) z.1.ax z.1.aq z.1.ae z.1.au=_;unfold SS;rw[if_neg (by simp)]) (s:=(Ly,[])) ⟨iG,rfl⟩).1
 refine this.trans ?_;rw[zyH];rfl
def BU{α:Type}(o:Option α)(Q:α->Prop):Prop:= ∃x,o=some x/\Q x
section
variable {α β σ:Type} {Q:β->Prop}
theorem BU.bind{o:Option α}{P:α->Prop}{f:α->Option β}(h:BU o P)(hf:∀x,P x->BU (f x) Q):BU (o.bind f) Q:=by obtain⟨x,rfl,hx⟩:=h;exact hf x hx
theorem BU.ret{x:β}(h:Q x):BU (some x) Q:=⟨x,rfl,h⟩
theorem BU.ite{b:Bool}{A B:Option β}(ha:b=true->BU A Q)(hb:b=false->BU B Q):BU (if b=true then A else B) Q:=by
 cases b with
 |true=>simpa using ha rfl
 |false=>simpa using hb rfl
theorem BU.req{p:Prop}[Decidable p]{k:Option β}(hp:p)(hk:BU k Q):BU (req p k) Q:=by rw[Ba hp];exact hk
theorem BU.mono{o:Option β}{P:β->Prop}(h:BU o P)(hPQ:∀x,P x->Q x):BU o Q:=by obtain⟨x,hx,h⟩:=h;exact⟨x,hx,hPQ x h⟩
theorem BU.getI{xs:List β}{i:Int}(h0:0<=i)(h:i<xs.length)(hq:∀x,x∈xs->Q x):BU (getI xs i) Q:=by obtain⟨x,h1,h2,_⟩:=qU h0 h;exact⟨x,h1,hq x h2⟩
theorem Qg{body:σ->Option (σ ⊕ Option β)}(I:Nat->σ->Prop)(h:∀n s,I n s->BU (body s) λo=>match o with| .inl s'=> ∃m,m<n/\I m s'| .inr q=>BU q Q):∀{n:Nat} {s:σ},I n s->BU (Az body s) Q:=by
 intro n
 induction n using Nat.strongRecOn with
 |_ n ih=>
  intro s hI;obtain⟨o,ho,h2⟩:=h n s hI;rw[EM,ho]
  match o,h2 with
  | .inl s',⟨m,hm,hI'⟩=>exact ih m hm hI'
  | .inr q,hq=>exact hq
end
structure EW where
 l6:List Int->Prop
 mr:∀l,l6 l-> ∀b∈l,0<=b/\b<=255
instance codeBytes:Inhabited EW:=⟨⟨λl=> ∀b∈l,0<=b/\b<=255,λ_ h=>h⟩⟩
def Cc[Inhabited EW](c:AT)(k:Int):Prop:=(default:EW).l6 c.bp/\0<=c.dh/\c.dh<=k
theorem Cc.up[Inhabited EW]{c:AT}{i j:Int}(h:Cc c i)(Ew:i<=j):Cc c j:=⟨h.1,h.2.1,by have:=h.2.2;omega⟩
theorem Cc.start[Inhabited EW]{code:List Int}(h:(default:EW).l6 code):Cc ⟨code,0,0⟩ 0:=⟨h,by simp,by simp⟩
theorem u9(a:Int):0<=IntKind.i64.wrap (IntKind.u64.wrap ((BitVec.ofInt (IntKind.bits .u64) a&&&BitVec.ofInt (IntKind.bits .u64) 255).toNat:Int))/\IntKind.i64.wrap (IntKind.u64.wrap ((BitVec.ofInt (IntKind.bits .u64) a&&&BitVec.ofInt (IntKind.bits .u64) 255).toNat:Int))<=255:=by
 have h:(BitVec.ofInt (IntKind.bits .u64) a&&&BitVec.ofInt (IntKind.bits .u64) 255).toNat<=255:=by rw[BitVec.toNat_and];exact Nat.le_trans Nat.and_le_right (by decide)
 generalize (BitVec.ofInt (IntKind.bits .u64) a&&&BitVec.ofInt (IntKind.bits .u64) 255).toNat=m at h ⊢;have e:IntKind.u64.wrap (m:Int)=m:=by simp[IntKind.wrap,IntKind.bits,IntKind.signed];omega
 rw[e,CO (by omega) (by omega)];omega
theorem uX[Inhabited EW]{c:AT}{k:Int}(h:Cc c k)(hk:k<=4611686018427387904):BU (VW c) λp=>(0<=p.1/\p.1<=255)/\Cc p.2 (k+1):=by
 obtain⟨hb,h0,h1⟩:=h;have w:IntKind.i64.wrap (c.dh+1)=c.dh+1:=CO (by omega) (by omega);unfold VW;refine .ite (λAD=> ?_) λAD=> ?_
 ·simp only[AJ]at AD;refine BU.bind (P:=λy=>0<=y/\y<=255) (.getI h0 AD ((default:EW).mr _ hb)) λy hy=> ?_;have wy:IntKind.i64.wrap y=y:=CO (by omega) (by omega);refine .ite (λ_=> .ret ⟨by dsimp only;rw[wy];exact hy,hb,by dsimp only;omega,by dsimp only;omega⟩) λ_=> .ret ⟨u9 _,hb,by dsimp only;omega,by dsimp only;omega⟩
 ·refine .ite (λ_=> .ret ⟨by simp,hb,by dsimp only;omega,by dsimp only;omega⟩) λ_=> .ret ⟨u9 _,hb,by dsimp only;omega,by dsimp only;omega⟩
theorem FV[Inhabited EW]{c:AT}{k:Int}(n:Int)(h:Cc c k)(hk:k<=4611686018427387000):BU (Fq c n) λp=>(0<=p.1/\(1<=n->p.1<n)/\p.1<=65535)/\Cc p.2 (k+2):=by
 have tm:∀x:Int,0<=x->1<n->0<=x.tmod n/\x.tmod n<n/\x.tmod n<=x:=λx hx hn=>by
  rw[Int.tmod_eq_emod_of_nonneg hx];exact⟨Int.emod_nonneg _ (by omega),Int.emod_lt_of_pos _ (by omega),by have:=Int.emod_add_mul_ediv x n;have h2:0<=n*(x/n):=Int.mul_nonneg (by omega) (Int.ediv_nonneg hx (by omega));omega⟩
 unfold Fq;refine .ite (λhn=> .ret ⟨⟨by simp,λh1=>by dsimp only;omega,by simp⟩,h.up (by omega)⟩) λhn=> ?_;simp only[decide_eq_false_iff_not]at hn;refine(uX h (by omega)).bind λp ⟨hp,hc⟩=> ?_;refine .ite (λ_=> ?_) λ_=> ?_
 ·refine(uX hc (by omega)).bind λq ⟨hq,hd⟩=> .req (by omega) (.ret ?_);have w1:IntKind.i64.wrap (p.1*256)=p.1*256:=CO (by omega) (by omega);have w2:IntKind.i64.wrap (p.1*256+q.1)=p.1*256+q.1:=CO (by omega) (by omega);have:=tm (p.1*256+q.1) (by omega) (by omega);dsimp only;rw[w1,w2];exact⟨⟨this.1,λ_=>this.2.1,by omega⟩,hd.up (by omega)⟩
 ·have:=tm p.1 hp.1 (by omega);exact .req (by omega) (.ret ⟨⟨this.1,λ_=>this.2.1,by dsimp only;omega⟩,hc.up (by omega)⟩)
theorem o9[Inhabited EW]{c:AT}{k:Int}(l:List Int)(hl:l≠ [])(h:Cc c k)(hk:k<=4611686018427387000):BU (Rq c l) λp=>p.1∈l/\Cc p.2 (k+2):=by unfold Rq;have I7:0<l.length:=List.length_pos_iff.2 hl;refine(FV l.length h hk).bind λp ⟨hp,hc⟩=> ?_;exact BU.bind (P:=λy=>y∈l) (.getI hp.1 (hp.2.1 (by omega)) λx hx=>hx) λy hy=> .ret ⟨hy,hc⟩
theorem iI[Inhabited EW]{c:AT}{k:Int}(n:Int)(h:Cc c k)(hk:k<=4611686018427387000):BU (NY c n) λp=>Cc p.2 (k+2):=by unfold NY;exact(FV n h hk).bind λp ⟨_,hc⟩=> .ret hc
theorem u4[Inhabited EW]{c:AT}{k:Int}{l:List Am}{Q:Am->Prop}(hl:l≠ [])(hq:∀s∈l,Q s)(h:Cc c k)(hk:k<=4611686018427387000):BU (V3 c l) λp=>Q p.1/\Cc p.2 (k+2):=by unfold V3;have I7:0<l.length:=List.length_pos_iff.2 hl;refine(FV l.length h hk).bind λp ⟨hp,hc⟩=> ?_;exact BU.bind (P:=λy=>Q y) (.getI hp.1 (hp.2.1 (by omega)) hq) λy hy=> .ret ⟨hy,hc⟩
theorem zAm{ks:List Am}(h:Ei ks)(hk:∀k∈ks,CC k=true):Dx ks=true:=by unfold Dx;rw[Ab,AZ,My,Ix (r:=bl) λa b c p q=>EN p q];exact⟨hk,h⟩
theorem zDQ{ws:List Ar}(h:H6 ws)(hw:∀w∈ws,Gk w=true)(hl:ws.length<=24):Fs ws=true:=by unfold Fs;rw[My,aR];simp only[Ab,AJ,AZ];exact⟨by omega,hw,(Ix (r:=λa b:Ar=>bl a.ao b.ao) λa b c p q=>EN p q).2 h⟩
theorem zvy{w:Ar}(h:Gk w=true):w.ao.length<=12/\w.bw.length<=24:=by unfold Gk at h;rw[Ab]at h;exact⟨rD h.1,zyW h.2⟩
theorem uA[Inhabited EW]{c:AT}{k:Int}(h:Cc c k)(hk:k<=4611686018427380000):BU (VS c) λp=>CC p.1=true/\Cc p.2 (k+2):=by unfold VS;exact(u4 (Q:=λs=>CC s=true) (by simp) (AZ.1 (by kernel_rfl)) h (by omega)).bind λp ⟨a,b⟩=> .ret ⟨a,b⟩
theorem zE1[Inhabited EW]{c:AT}{k:Int}(h:Cc c k)(hk:k<=4611686018427380000):BU (Zk c) λp=>MG p.1=true/\Cc p.2 (k+2):=by unfold Zk;exact(u4 (Q:=λs=>MG s=true) (by simp) (AZ.1 (by kernel_rfl)) h (by omega)).bind λp ⟨a,b⟩=> .ret ⟨a,b⟩
theorem zBt[Inhabited EW]{c:AT}{k:Int}{s:Am}(hs:CC s=true)(h:Cc c k)(hk:k<=4611686018427370000):BU (Y5 c s) λp=>(p.1.ao=s/\Gk p.1=true)/\Cc p.2 (k+4):=by
 unfold Y5;refine(iI 4 h (by omega)).bind λp hc=> ?_;refine .ite (λ_=> .ret ⟨⟨rfl,?_⟩,hc.up (by omega)⟩) λ_=> ?_
 ·unfold Gk;rw[hs];rfl
 ·refine(zE1 hc (by omega)).bind λq ⟨hq,hd⟩=> .ret ⟨⟨rfl,?_⟩,hd.up (by omega)⟩;unfold Gk Ge;rw[hs,hq];rfl
def OB:List Am:=[[97],[98],[99],[105,47,120,47,49],[109],[110],[114,47,49],[122]]
theorem zzA{i j:Nat}{a b:Am}(ha:OB[i]?=some a)(hb:OB[j]?=some b)(h:i<j):bl a b=true:=by have hr:Ei OB:=(Ix (r:=bl) λa b c p q=>EN p q).1 (by kernel_rfl);obtain⟨h1,rfl⟩:=List.getElem?_eq_some_iff.1 ha;obtain⟨h2,rfl⟩:=List.getElem?_eq_some_iff.1 hb;exact List.pairwise_iff_getElem.1 hr i j h1 h2 h
theorem ztr[Inhabited EW]{c:AT}{k:Int}(h:Cc c k)(h0:0<=k)(hk:k<=4611686018427360000):BU (VO c) λp=>(Fs p.1=true/\p.1.length<=8)/\Cc p.2 (k+100):=by
 unfold VO;refine Qg (λ(n:Nat) (s:List Ar × Int × List Int × Int × Int)=>(s.2.1+(n:Int)=8/\0<=s.2.1)/\((s.1.length:Int)<=s.2.1/\(∀w∈s.1,Gk w=true/\ ∃j:Nat,(j:Int)<s.2.1/\OB[j]?=some w.ao)/\H6 s.1)/\Cc ⟨s.2.2.1,s.2.2.2.1,s.2.2.2.2⟩ (k+8*s.2.1)) (λn s hI=> ?_) (n:=8) ⟨⟨by simp,by simp⟩,⟨by simp,by simp,List.Pairwise.nil⟩,by simpa using h⟩;obtain⟨⟨i1,i2⟩,⟨i3,i4,i6⟩,i5⟩:=hI;show BU (kD s.1 s.2.1 s.2.2.1 s.2.2.2.1 s.2.2.2.2) _;unfold kD;refine .ite (λAD=> ?_) λ_=> .ret (.ret ⟨⟨zDQ i6 (λw hw=>(i4 w hw).1) (by(try dsimp only);omega),by(try dsimp only);omega⟩,i5.up (by omega)⟩);have AD:s.2.1<8:=by simpa using AD
 have w1:IntKind.i64.wrap (s.2.1+1)=s.2.1+1:=CO (by omega) (by omega);obtain⟨y,e1,e2,e3⟩:=qU (xs:=OB) (i:=s.2.1) i2 (by simpa[OB]using AD);have gy:CC y=true:=AZ.1 (show OB.all CC=true by kernel_rfl) y e2;have e1':getI [([97]:Af),([98]:Af),([99]:Af),([105,47,120,47,49]:Af),([109]:Af),([110]:Af),([114,47,49]:Af),([122]:Af)] s.2.1=some y:=e1;rw[e1',Aa];refine(iI 4 i5 (by omega)).bind λp hc=> ?_;have low:∀w∈s.1,Gk w=true/\ ∃j:Nat,(j:Int)<s.2.1+1/\OB[j]?=some w.ao:=λw hw=>by obtain⟨a,j,b,d⟩:=i4 w hw;exact⟨a,j,by omega,d⟩
 refine .ite (λ_=> ?_) λ_=> .ret ⟨n-1,by omega,⟨by(try dsimp only);rw[w1];omega,by(try dsimp only);rw[w1];omega⟩,⟨by(try dsimp only);rw[w1];omega,by(try dsimp only);rw[w1];exact low,i6⟩,hc.up (by(try dsimp only);rw[w1];omega)⟩;refine(zBt gy hc (by omega)).bind λq ⟨⟨G8,FJ⟩,hd⟩=> ?_;refine .req (by simp only[RM,AP];omega) (.ret ⟨n-1,by omega,⟨by(try dsimp only);rw[w1];omega,by(try dsimp only);rw[w1];omega⟩,⟨by(try dsimp only);rw[w1,AF,AP];omega,λw hw=> ?_,?_⟩,hd.up (by(try dsimp only);rw[w1];omega)⟩)
 ·(try dsimp only)
  rw[w1];rcases Ac.1 hw with hw|hw
  ·exact low w hw
  ·simp only[List.mem_singleton]at hw;rw[hw,G8];exact⟨FJ,s.2.1.toNat,by omega,e3⟩
 ·refine List.pairwise_append.2 ⟨i6,List.pairwise_singleton _ _,λa ha b hb=> ?_⟩;simp only[List.mem_singleton]at hb;obtain⟨_,j,hj,ej⟩:=i4 a ha;rw[hb];show bl a.ao q.1.ao=true;rw[G8];exact zzA ej e3 (by omega)
theorem zyk{n:Int}{rs:List Am}{ws:List Ar}(h1:1<=n)(h2:n<=60)(hr:Dx rs=true)(hl:rs.length<=8)(hw:Fs ws=true)(Ve:ws.length<=8)(hp:0<rs.length+ws.length):Di ⟨n,rs,ws⟩=true/\IG ⟨n,rs,ws⟩:=by
 refine⟨?_,⟨by show rs.length<=_;omega,λk hk=>by have:=zye hr k hk;omega⟩,⟨by show ws.length<=_;omega,λw hwm=> ?_⟩⟩
 ·unfold Di CL Rf;rw[if_pos rfl];simp only[Ab,AJ];exact⟨Ey.2 ⟨h1,h2⟩,rfl,rfl,hr,by omega,hw,by omega,by omega,rfl⟩
 ·unfold Fs at hw;simp only[Ab,AZ]at hw;have:=zvy (hw.2.1 w hwm);omega
def NO(l:List Ak)(n:Int):Prop:=(l.length:Int)<n/\((∀o∈l,(Di o=true/\IG o)/\o.ah<n)/\l.Pairwise λa b=>a.ah<b.ah)
theorem NO.add{l:List Ak}{n:Int}{o:Ak}(h:NO l n)(ho:Di o=true/\IG o)(e:o.ah=n):NO (l++ [o]) (n+1):=by
 obtain⟨h1,h2,h3⟩:=h;refine⟨by rw[AF,AP];omega,λx hx=> ?_,List.pairwise_append.2 ⟨h3,List.pairwise_singleton _ _,λa ha b hb=> ?_⟩⟩
 ·rcases Ac.1 hx with hx|hx
  ·exact⟨(h2 x hx).1,by have:=(h2 x hx).2;omega⟩
  ·simp only[List.mem_singleton]at hx;rw[hx];exact⟨ho,by omega⟩
 ·simp only[List.mem_singleton]at hb;rw[hb,e];exact(h2 a ha).2
theorem NO.jj{l:List Ak}{n:Int}(h:NO l n)(hn:n<=9):JU l=true:=by obtain⟨h1,h2,h3⟩:=h;unfold JU;rw[Ab,AZ];refine⟨λi hi=> ?_,decide_eq_true (by omega)⟩;have hi:=List.mem_range.1 hi;rw[W0 hi,(h2 _ (Aw hi)).1.1,Bool.true_and,Be,List.any_eq_false];intro p hp;obtain⟨j,hj,rfl⟩:=List.mem_iff_getElem.1 hp;rw[Au]at hj;rw[List.getElem_take];have:=List.pairwise_iff_getElem.1 h3 j i (by omega) hi (by omega);simpa using Int.ne_of_lt this
theorem zA4[Inhabited EW]{c:AT}{k:Int}(h:Cc c k)(h0:0<=k)(hk:k<=4611686018427350000):BU (YP c) λp=>(∃n,n<=5/\NO p.1 n)/\Cc p.2 (k+1000):=by
 unfold YP;refine Qg (λ(m:Nat) (s:List Ak × Int × List Int × Int × Int)=>(s.2.1+(m:Int)=5/\1<=s.2.1)/\NO s.1 s.2.1/\Cc ⟨s.2.2.1,s.2.2.2.1,s.2.2.2.2⟩ (k+200*s.2.1)) (λm s hI=> ?_) (n:=4) ⟨⟨by simp,by simp⟩,⟨by simp,by simp,List.Pairwise.nil⟩,h.up (by simp;omega)⟩;obtain⟨⟨i1,i2⟩,i3,i4⟩:=hI;show BU (kF s.1 s.2.1 s.2.2.1 s.2.2.2.1 s.2.2.2.2) _;unfold kF;refine .ite (λAD=> ?_) λ_=> ?_
 ·have AD:s.2.1<=4:=by simpa using AD
  refine(iI 5 i4 (by omega)).bind λp hc=> ?_;unfold YK;refine .ite (λ_=> ?_) λ_=> .ret (.ret ⟨⟨s.2.1,by omega,i3⟩,hc.up (by omega)⟩);refine(ztr hc (by omega) (by omega)).bind λq ⟨⟨G8,FJ⟩,hd⟩=> ?_;refine(FV 3 hd (by omega)).bind λr ⟨hr,he⟩=> ?_;have F6:=hr.2.1 (by omega);have w1:IntKind.i64.wrap (s.2.1+1)=s.2.1+1:=CO (by omega) (by omega);refine Qg (λ(n:Nat) (z:Int × List Int × Int × Int × List Am)=>(z.1=(n:Int)/\(n:Int)<=2)/\((z.2.2.2.2.length:Int)+n<=2/\Ei z.2.2.2.2/\ ∀x∈z.2.2.2.2,CC x=true)/\Cc ⟨z.2.1,z.2.2.1,z.2.2.2.1⟩ (k+200*s.2.1+104+2*(2-(n:Int)))) (λn z hz=> ?_) (n:=r.1.toNat) ⟨⟨by(try dsimp only);omega,by omega⟩,⟨by(try dsimp only);simp;omega,List.Pairwise.nil,by simp⟩,he.up (by(try dsimp only);omega)⟩;obtain⟨⟨z1,z2⟩,⟨z3,z4,z5⟩,z6⟩:=hz;show BU (jZ s.1 s.2.1 q z.1 z.2.1 z.2.2.1 z.2.2.2.1 z.2.2.2.2) _;unfold jZ;refine .ite (λHc=> ?_) λ_=> .ret ?_
  ·have Hc:z.1>0:=by simpa using Hc
   refine(uA z6 (by omega)).bind λt ⟨ht,hf⟩=> ?_;have w2:IntKind.i64.wrap (z.1-1)=z.1-1:=CO (by omega) (by omega);rw[TA (by omega) z4,Aa,w2];have hn:=Tw t.1 z.2.2.2.2;refine .ret ⟨n-1,by omega,⟨by(try dsimp only);omega,by omega⟩,⟨by(try dsimp only);omega,Qi z4,λx hx=> ?_⟩,hf.up (by(try dsimp only);omega)⟩;rcases(qJ z4 x).1 hx with hx|hx
   ·rw[hx];exact ht
   ·exact z5 x hx
  ·unfold w8;have w3:IntKind.i64.wrap ((z.2.2.2.2.length:Int)+(q.1.length:Int))=(z.2.2.2.2.length:Int)+(q.1.length:Int):=CO (by omega) (by omega);have hl:=i3.1;refine .ite (λHc=> ?_) λHc=> ?_
   ·rw[w3]at Hc;refine .req (by simp only[RM,AP];omega) (.ret ⟨m-1,by omega,⟨by(try dsimp only);rw[w1];omega,by(try dsimp only);rw[w1];omega⟩,by(try dsimp only);rw[w1];exact i3.add (zyk (by omega) (by omega) (by kernel_rfl) (by simp) G8 FJ (by simp only[AP];omega)) rfl,z6.up (by(try dsimp only);rw[w1];omega)⟩)
   ·rw[w3]at Hc;have Hc:(z.2.2.2.2.length:Int)+(q.1.length:Int)≠0:=by simpa using Hc
    refine .req (by simp only[RM,AP];omega) (.ret ⟨m-1,by omega,⟨by(try dsimp only);rw[w1];omega,by(try dsimp only);rw[w1];omega⟩,by(try dsimp only);rw[w1];exact i3.add (zyk (by omega) (by omega) (zAm z4 z5) (by omega) G8 FJ (by omega)) rfl,z6.up (by(try dsimp only);rw[w1];omega)⟩)
 ·unfold YK;exact .ite (λh=>by cases h) λ_=> .ret (.ret ⟨⟨s.2.1,by omega,i3⟩,i4.up (by omega)⟩)
theorem zEU[Inhabited EW]{c:AT}{k:Int}(h:Cc c k)(hk:k<=4611686018427380000):BU (YY c) λp=>(Dx p.1=true/\p.1.length<=3)/\Cc p.2 (k+2):=by unfold YY;refine(FV 5 h (by omega)).bind λp ⟨hp,hc⟩=> ?_;refine BU.bind (P:=λy=>(Dx y&&decide (y.length<=3))=true) (.getI hp.1 (by have:=hp.2.1 (by omega);simpa using this) (AZ.1 (by kernel_rfl))) λy hy=> .ret ⟨?_,hc⟩;simp only[Ab,AJ]at hy;exact hy
theorem gd0:Hl KB:=bI.1 (by kernel_rfl)
theorem zHA:WS KB:=iG
theorem zzd{cuts:List Am}{os:List Ak}{n:Int}(h1:Dx cuts=true)(h2:cuts.length<=3)(ho:NO os n)(hn:n<=5):Z1 cuts os=some (⟨cuts,List.replicate (cuts.length+1) KB,os⟩,true)/\(GD ⟨cuts,List.replicate (cuts.length+1) KB,os⟩/\Vv ⟨cuts,List.replicate (cuts.length+1) KB,os⟩):=by
 have hl:=ho.1;have D2:=ho.jj (by omega);have hk:JV cuts:=⟨by omega,λx hx=>by have:=zye h1 x hx;omega⟩
 have w1:IntKind.i64.wrap ((cuts.length:Int)+1)=((cuts.length+1:Nat):Int):=Bb (by omega);refine⟨?_,⟨?_,λx hx=> ?_,h2,by simp,λs hs=> ?_,by show os.length<=8;omega,λo hm=>(ho.2.1 o hm).1,D2⟩,λs hs=>(List.mem_replicate.1 hs).2⟩
 ·unfold Z1;rw[zyJ hk,h1,show decide ((cuts.length:Int)<4)=true by simp;omega,Aa,if_pos (by rfl),zwg (by omega) (λo hm=>(ho.2.1 o hm).1.2),D2,Aa,if_neg (by simp),QE (by omega),Aa,w1,Ba (by omega),uT (by omega) (λo hm=>(ho.2.1 o hm).1.1),Aa];rfl
 ·unfold Dx at h1;rw[Ab,My]at h1;exact(Ix (r:=bl) λa b c p q=>EN p q).1 h1.2
 ·unfold Dx at h1;rw[Ab,AZ]at h1;exact h1.1 x hx
 ·have:=(List.mem_replicate.1 hs).2;rw[this];exact⟨zHA,gd0⟩
theorem zzP(cuts:List Am)(x:Am)(hl:cuts.length<=1000):∃n:Nat,SM cuts x=some (n:Int):=
 ⟨_,cD (xs:=cuts) (body:=λi=>KM cuts x i) (λc=> !bl x c) (λn=>some n) (λi hi=>by
   show KM cuts x (i:Int)=_;unfold KM;rw[if_pos (by simpa using hi),AH hi,Aa,jB,Bb (by omega)];cases bl x cuts[i]<;>rfl) (by
   show KM cuts x (cuts.length:Int)=_;unfold KM;rw[if_neg (by simp)])⟩
theorem zCR{cuts:List Am}{o:Ak}(hl:cuts.length<=1000)(go:Di o=true):∃ps:List Int,Ln cuts o=some ps/\(0<ps.length/\ps.length<=100):=by
 obtain⟨_,⟨h1,h2,h3⟩,_⟩:=JR go;obtain⟨k1,k2,k3⟩:=W8 o.ar o.af;have I7:0<(DO o.ar o.af).length:=by
  obtain⟨r,hr⟩:∃r,r=o.ar:=⟨_,rfl⟩
  obtain⟨u,hu⟩:∃u,u=o.af:=⟨_,rfl⟩
  cases r with
  |cons x xs=>exact List.length_pos_of_mem ((k2 x).2 (.inl (by rw[<-hr];simp)))
  |nil=>
   cases u with
   |cons w ws=>exact List.length_pos_of_mem ((k2 w.ao).2 (.inr ⟨w,by rw[<-hu];simp,rfl⟩))
   |nil=>rw[<-hr,<-hu]at h3;simp at h3
 unfold Ln;rw[zvM (by omega) (by omega),Aa];have:BU (Wp cuts (DO o.ar o.af)) λps=>0<ps.length/\ps.length<=100:=by
  unfold Wp;refine Qg (λ(n:Nat) (z:List Int × Int)=>(z.2+(n:Int)=(DO o.ar o.af).length/\0<=z.2)/\(Ci ik z.1/\(z.1.length:Int)<=z.2/\(0<z.2->0<z.1.length))) (λn z hz=> ?_) (n:=(DO o.ar o.af).length) ⟨⟨by simp,by simp⟩,List.Pairwise.nil,by simp,by simp⟩;obtain⟨⟨z1,z2⟩,z3,z4,z5⟩:=hz;show BU (NW cuts (DO o.ar o.af) z.1 z.2) _;unfold NW;refine .ite (λAD=> ?_) λNb=> .ret (.ret ⟨z5 (by simp at Nb;omega),by omega⟩);have AD:z.2<(DO o.ar o.af).length:=by simpa using AD
  have w1:IntKind.i64.wrap (z.2+1)=z.2+1:=CO (by omega) (by omega);refine BU.bind (P:=λ_=>True) (.getI z2 AD λ_ _=>trivial) λy _=> ?_;obtain⟨p,hp⟩:=zzP cuts y hl;rw[hp,Aa,vX (by omega) z3,Aa,w1];have hi:=zyg (p:Int) z.1;refine .ret ⟨n-1,by omega,⟨by(try dsimp only);omega,by(try dsimp only);omega⟩,oU z3,by(try dsimp only);omega,λ_=>List.length_pos_of_mem (zxS.2 (.inl rfl))⟩
 obtain⟨ps,e,Le⟩:=this;exact⟨ps,by rw[e];rfl,Le⟩
theorem ztE[Inhabited EW]{c:AT}{k:Int}{d:Ag}(hc:d.aw.length<=1000)(hl:d.ab.length<=1000)(ho:∀o∈d.ab,Di o=true)(h:Cc c k)(hk:k<=4611686018427370000):BU (VH c d) λp=>Cc p.2 (k+10):=by
 unfold VH;refine(o9 _ (by simp) h (by omega)).bind λp ⟨_,h1⟩=> ?_;refine(FV 4 h1 (by omega)).bind λq ⟨_,h2⟩=> ?_;rw[vO (by omega),Aa];have tail:∀(a b:Int × AT) (cd:List Int) (at' sd y:Int),Cc ⟨cd,at',sd⟩ (k+8)->BU (YN a b cd at' sd y) λp=>Cc p.2 (k+10):=λa b cd at' sd y hh=>by unfold YN;refine .ite (λ_=> ?_) λ_=> .ret (hh.up (by omega));exact(FV 30 hh (by omega)).bind λr ⟨_,h3⟩=> .ret (h3.up (by omega))
 refine .ite (λhq=> ?_) λ_=>tail _ _ _ _ _ _ (h2.up (by omega));have hq:CV (λo:Ak=>o.ah==IntKind.i64.wrap ((1:Int)+q.1)) d.ab>=0:=by rw[Ab]at hq;simpa using hq.1
 obtain⟨o,e,_,hm⟩:=Xb hq;obtain⟨ps,e2,QY,Pn⟩:=zCR hc (ho o hm);rw[e,Aa,e2,Aa];refine(FV _ h2 (by omega)).bind λr ⟨hr,h3⟩=> ?_;refine BU.bind (P:=λ_=>True) (.getI hr.1 (hr.2.1 (by omega)) λ_ _=>trivial) λy _=>tail _ _ _ _ _ _ (h3.up (by omega))
theorem zx3[Inhabited EW]{c:AT}{k:Int}(h:Cc c k)(h0:0<=k)(hk:k<=4611686018427340000):BU (VN c) λp=>((GD p.1.1/\Vv p.1.1)/\p.1.2.length<=24)/\Cc p.2 (k+2000):=by
 unfold VN;refine(zEU h (by omega)).bind λa ⟨⟨a1,a2⟩,h1⟩=> ?_;refine(zA4 h1 (by omega) (by omega)).bind λb ⟨⟨n,b1,b2⟩,h2⟩=> ?_;obtain⟨e,g,f⟩:=zzd a1 a2 b2 b1;rw[e,Aa];refine(FV 24 h2 (by omega)).bind λr ⟨hr,h3⟩=> ?_;have F6:=hr.2.1 (by omega);generalize (⟨a.1,List.replicate (a.1.length+1) KB,b.1⟩:Ag)=d at g f;have g1:=g.dv;have g2:=g.b8;refine Qg (λ(m:Nat) (z:List BG × Int × List Int × Int × Int)=>(z.2.1=(m:Int)/\(m:Int)<=24)/\(z.1.length:Int)+m<=24/\Cc ⟨z.2.2.1,z.2.2.2.1,z.2.2.2.2⟩ (k+1010+20*(24-(m:Int)))) (λm z hz=> ?_) (n:=r.1.toNat) ⟨⟨by(try dsimp only);omega,by omega⟩,by simp;omega,h3.up (by(try dsimp only);omega)⟩;obtain⟨⟨z1,z2⟩,z3,z4⟩:=hz;show BU (kA (d,true) z.1 z.2.1 z.2.2.1 z.2.2.2.1 z.2.2.2.2) _;unfold kA;refine .ite (λAD=> ?_) λ_=> .ret (.ret ⟨⟨⟨g,f⟩,by(try dsimp only);omega⟩,z4.up (by omega)⟩);have AD:z.2.1>0:=by simpa using AD
 have w1:IntKind.i64.wrap (z.2.1-1)=z.2.1-1:=CO (by omega) (by omega);refine(ztE (d:=d) (by omega) (by omega) (λo ho=>(g.bm o ho).1) z4 (by omega)).bind λt h4=> ?_;exact .req (by simp only[RM,AP];omega) (.ret ⟨m-1,by omega,⟨by(try dsimp only);rw[w1];omega,by omega⟩,by(try dsimp only);rw[AF,AP];omega,h4.up (by(try dsimp only);omega)⟩)
def Jt(r:AS):Prop:=Gp r/\JV r.ar
theorem oW{k t n l:Int}{y:Bool}(hy:y=true->0<n)(ht:k≠4->1<=t/\t<=60):Jt ⟨k,t,n,l,[],[],y⟩:=⟨⟨by simp,by simp,List.Pairwise.nil,⟨by simp,by simp⟩,λ_ _ h=>hy h,ht⟩,by simp,by simp⟩
theorem zwK{k t n l:Int}{rs:List Am}{ws:List Ar}(ht:1<=t/\t<=60)(hr:∀x∈rs,CC x=true)(hl:rs.length<=8)(hw:Fs ws=true)(Ve:ws.length<=8):Jt ⟨k,t,n,l,rs,ws,false⟩:=by refine⟨⟨hl,Ve,xY hw,⟨by show ws.length<=_;omega,λw hm=> ?_⟩,(λ_ _ h=>by cases h),λ_=>ht⟩,by show rs.length<=_;omega,λx hx=>by have:=rD (hr x hx);omega⟩;unfold Fs at hw;simp only[Ab,AZ]at hw;have:=zvy (hw.2.1 w hm);omega
theorem zFZ[Inhabited EW]{c:AT}{k:Int}(h:Cc c k)(h0:0<=k)(hk:k<=4611686018427350000):BU (Zl c) λp=>(Jt p.1/\(1<=p.1.az/\p.1.az<=4))/\Cc p.2 (k+200):=by
 unfold Zl;refine(FV 4 h (by omega)).bind λa ⟨ha,h1⟩=> ?_;refine(FV 4 h1 (by omega)).bind λb ⟨hb,h2⟩=> ?_;refine(FV 30 h2 (by omega)).bind λt ⟨ht,h3⟩=> ?_;have C6:=ha.2.1 (by omega);have GA:=hb.2.1 (by omega);have It:=ht.2.1 (by omega);have wa:IntKind.i64.wrap ((1:Int)+a.1)=1+a.1:=CO (by omega) (by omega);have wb:IntKind.i64.wrap ((1:Int)+b.1)=1+b.1:=CO (by omega) (by omega);have wt:IntKind.i64.wrap ((1:Int)+t.1)=1+t.1:=CO (by omega) (by omega);refine .ite (λ_=> ?_) λ_=> .ite (λ_=> ?_) λhk4=> ?_
 ·refine(FV 2 h3 (by omega)).bind λl ⟨_,h4⟩=> ?_;refine(FV 3 h4 (by omega)).bind λr ⟨hr,h5⟩=> ?_;have F6:=hr.2.1 (by omega);refine Qg (λ(n:Nat) (z:Int × List Int × Int × Int × List Am)=>(z.1=(n:Int)/\(n:Int)<=2)/\((z.2.2.2.2.length:Int)+n<=2/\Ei z.2.2.2.2/\ ∀x∈z.2.2.2.2,CC x=true)/\Cc ⟨z.2.1,z.2.2.1,z.2.2.2.1⟩ (k+10+2*(2-(n:Int)))) (λn z hz=> ?_) (n:=r.1.toNat) ⟨⟨by(try dsimp only);omega,by omega⟩,⟨by(try dsimp only);simp;omega,List.Pairwise.nil,by simp⟩,h5.up (by(try dsimp only);omega)⟩;obtain⟨⟨z1,z2⟩,⟨z3,z4,z5⟩,z6⟩:=hz;show BU (kG a b t l z.1 z.2.1 z.2.2.1 z.2.2.2.1 z.2.2.2.2) _;unfold kG;refine .ite (λHc=> ?_) λ_=> .ret ?_
  ·have Hc:z.1>0:=by simpa using Hc
   refine(uA z6 (by omega)).bind λu ⟨hu,hf⟩=> ?_;have w2:IntKind.i64.wrap (z.1-1)=z.1-1:=CO (by omega) (by omega);rw[TA (by omega) z4,Aa,w2];have hn:=Tw u.1 z.2.2.2.2;refine .ret ⟨n-1,by omega,⟨by(try dsimp only);omega,by omega⟩,⟨by(try dsimp only);omega,Qi z4,λx hx=> ?_⟩,hf.up (by(try dsimp only);omega)⟩;rcases(qJ z4 x).1 hx with hx|hx
   ·rw[hx];exact hu
   ·exact z5 x hx
  ·unfold xA;refine(ztr z6 (by omega) (by omega)).bind λq ⟨⟨G8,FJ⟩,hd⟩=> ?_;rw[wa,wb,wt];refine .ite (λ_=> .ret ⟨⟨zwK (by omega) (AZ.1 (by kernel_rfl)) (by simp) G8 FJ,by(try dsimp only);omega⟩,hd.up (by omega)⟩) λ_=> .ret ⟨⟨zwK (by omega) z5 (by omega) G8 FJ,by(try dsimp only);omega⟩,hd.up (by omega)⟩
 ·rename_i q4;rw[wa]at q4;rw[wa,wt];have q4:1+a.1=4:=by simpa using q4
  exact .ret ⟨⟨oW (λh=>by cases h) (λh=>absurd q4 h),by(try dsimp only);omega⟩,h3.up (by omega)⟩
 ·unfold NY;refine((FV 2 h3 (by omega)).bind λy ⟨_,hy⟩=> .ret (Q:=λp:Bool × AT=>Cc p.2 (k+8)) (hy.up (by omega)):BU _ λp:Bool × AT=>Cc p.2 (k+8)).bind λy hy=> ?_;rw[wa,wb,wt];refine .ite (λhn=> .ret ⟨⟨oW (λh=>by have hn:(!y.1)=true:=hn;rw[show y.1=true from h]at hn;cases hn) (λ_=>by omega),by(try dsimp only);omega⟩,hy.up (by omega)⟩) λ_=> .ret ⟨⟨oW (λ_=>by omega) (λ_=>by omega),by(try dsimp only);omega⟩,hy.up (by omega)⟩
theorem Jt.lq{r:AS}{t n:Int}(h:Jt r)(ht:r.az≠4->1<=t/\t<=60)(hn:r.bf=true->r.az≠1->r.az≠4->0<n):Jt ⟨r.az,t,n,r.bj,r.ar,r.af,r.bf⟩:=⟨⟨h.1.reads,h.1.writes,h.1.dg,h.1.small,λa b c=>hn c a b,ht⟩,h.2⟩
theorem zEA[Inhabited EW]{c:AT}{k:Int}(h:Cc c k)(h0:0<=k)(hk:k<=4611686018427340000):BU (YX c) λp=>(p.1.length<=12/\ ∀r∈p.1,Jt r)/\Cc p.2 (k+5000):=by
 unfold YX;refine(FV 12 h (by omega)).bind λp ⟨hp,hc⟩=> ?_;have QY:=hp.2.1 (by omega);refine Qg (λ(n:Nat) (z:List AS × Int × Int × List Int × Int × Int)=>(z.2.2.1=(n:Int)/\(n:Int)<=12)/\(((z.1.length:Int)+n<=12/\ ∀r∈z.1,Jt r)/\(0<=z.2.1/\z.2.1+4*(n:Int)<=48))/\Cc ⟨z.2.2.2.1,z.2.2.2.2.1,z.2.2.2.2.2⟩ (k+2+300*(12-(n:Int)))) (λn z hz=> ?_) (n:=p.1.toNat) ⟨⟨by(try dsimp only);omega,by omega⟩,⟨⟨by simp;omega,by simp⟩,by simp,by(try dsimp only);omega⟩,hc.up (by(try dsimp only);omega)⟩;obtain⟨⟨z1,z2⟩,⟨⟨z3,z4⟩,z5,z6⟩,z7⟩:=hz;show BU (kJ z.1 z.2.1 z.2.2.1 z.2.2.2.1 z.2.2.2.2.1 z.2.2.2.2.2) _;unfold kJ;refine .ite (λAD=> ?_) λ_=> .ret (.ret ⟨⟨by(try dsimp only);omega,z4⟩,z7.up (by omega)⟩);have AD:z.2.2.1>0:=by simpa using AD
 refine(zFZ z7 (by omega) (by omega)).bind λr ⟨⟨hr,D3⟩,h1⟩=> ?_;refine(FV 3 h1 (by omega)).bind λq ⟨hq,h2⟩=> ?_;have G8:=hq.2.1 (by omega);have w1:IntKind.i64.wrap ((1:Int)+q.1)=1+q.1:=CO (by omega) (by omega);have w2:IntKind.i64.wrap (z.2.1+(1+q.1))=z.2.1+(1+q.1):=CO (by omega) (by omega);have w3:IntKind.i64.wrap (z.2.2.1-1)=z.2.2.1-1:=CO (by omega) (by omega);have step:∀(x:AS) (cd:List Int) (at' sd:Int),Jt x->Cc ⟨cd,at',sd⟩ (k+2+300*(12-(n:Int))+250)-> ∃m,m<n/\((z.2.2.1-1=(m:Int)/\(m:Int)<=12)/\((((z.1++ [x]).length:Int)+m<=12/\ ∀r∈z.1++ [x],Jt r)/\(0<=z.2.1+(1+q.1)/\z.2.1+(1+q.1)+4*(m:Int)<=48))/\Cc ⟨cd,at',sd⟩ (k+2+300*(12-(m:Int)))):=λx cd at' sd hx A5=>by
  refine⟨n-1,by omega,⟨by omega,by omega⟩,⟨⟨by rw[AF,AP];omega,λy hy=> ?_⟩,by omega,by omega⟩,A5.up (by omega)⟩;rcases Ac.1 hy with hy|hy
  ·exact z4 y hy
  ·simp only[List.mem_singleton]at hy;rw[hy];exact hx
 have tail:∀tm:Int,(r.1.bf=true->r.1.az≠1->r.1.az≠4->0<tm)->BU (YU z.1 z.2.1 z.2.2.1 r q tm) λo=>match o with
   | .inl s'=> ∃m,m<n/\((s'.2.2.1=(m:Int)/\(m:Int)<=12)/\(((s'.1.length:Int)+m<=12/\ ∀r∈s'.1,Jt r)/\(0<=s'.2.1/\s'.2.1+4*(m:Int)<=48))/\Cc ⟨s'.2.2.2.1,s'.2.2.2.2.1,s'.2.2.2.2.2⟩ (k+2+300*(12-(m:Int))))
   | .inr q=>BU q λp=>(p.1.length<=12/\ ∀r∈p.1,Jt r)/\Cc p.2 (k+5000):=λtm gV=>by
  unfold YU;rw[w1,w2,w3];refine .ite (λhg=> ?_) λ_=> ?_
  ·rw[Ab]at hg;have I7:(z.1.length:Int)>0:=by simpa using hg.2
   refine(FV _ h2 (by omega)).bind λu ⟨hu,h3⟩=> ?_;refine BU.bind (P:=λy=>y∈z.1) (.getI hu.1 (hu.2.1 (by omega)) λx hx=>hx) λy hy=> ?_;refine .ite (λtC=> ?_) λ_=> ?_
   ·have tC:y.az=1:=by simpa using tC
    exact .req (by simp only[RM,AP];omega) (.ret (step _ _ _ _ (hr.lq (λ_=>(z4 y hy).1.mn (by omega)) gV) (h3.up (by omega))))
   ·exact .req (by simp only[RM,AP];omega) (.ret (step _ _ _ _ (hr.lq hr.1.mn gV) (h3.up (by omega))))
  ·exact .req (by simp only[RM,AP];omega) (.ret (step _ _ _ _ (hr.lq hr.1.mn gV) (h2.up (by omega))))
 refine .ite (λ_=> ?_) λ_=>(tail _ λa b d=>hr.1.time b d a).mono λo ho=>by cases o<;>exact ho
 rw[w1,w2];exact(tail _ λ_ _ _=>by omega).mono λo ho=>by cases o<;>exact ho
def Vt(s:Ai):Prop:= ∀x∈s.ae,JV x.ar
theorem zxu{s s':Ai}{r:AS}(h:Vt s)(hr:JV r.ar)(e:BS s r=some s'):Vt s':=by
 unfold BS at e;split at e
 ·split at e
  ·cases e;exact h
  ·cases e
 ·split at e
  ·cases e
  ·split at e
   ·split at e
    ·cases e
    ·split at e
     ·cases e
     ·split at e
      ·cases e;intro x hx;rcases Jh.1 hx with q|q
       ·rw[q];exact hr
       ·exact h x q
      ·cases e
   ·split at e
    ·split at e
     ·cases e
     ·split at e
      ·cases e
      ·split at e
       ·cases e
       ·cases e;exact λx hx=>h x (Ji hx).1
    ·cases e;exact λx hx=>h x (Ji hx).1
theorem zsh:∀(rs:List AS) (s:Ai),Vt s->(∀r∈rs,Jt r)->Vt (rs.foldl IN s)
 | [],_,h,_=>h
 |r::rs,s,h,hr=>by
  refine zsh rs (IN s r) ?_ λx hx=>hr x (by simp[hx]);unfold IN;cases e:BS s r with
  |none=>exact h
  |some s'=>exact zxu h (hr r (by simp)).2 e
theorem zCL{s:Ai}(w:WS s)(h:Vt s):Jl s:=by have h1:=w.dv;have h2:=w.cc;refine⟨w.cells.small (by omega),by omega,λx hx=>⟨h x hx,?_⟩,by omega⟩;have:=(w.held x hx).2;exact⟨by have:=this.1;show x.af.length<=_;omega,this.2⟩
theorem zw5[Inhabited EW]{c:AT}{k:Int}(h:Cc c k)(h0:0<=k)(hk:k<=4611686018427330000):BU (YJ c) λp=>Jl p.1/\Cc p.2 (k+6000):=by
 unfold YJ kQ;refine BU.bind (P:=λp:Ai × AT=>(Jl p.1/\p.1.au.length<=100)/\Cc p.2 (k+5000)) ((zEA h h0 (by omega)).bind λp ⟨⟨QY,Pn⟩,hc⟩=> ?_) λp ⟨⟨hs,ht⟩,hc⟩=> ?_
 ·obtain⟨b,e⟩:=zGT (rs:=p.1) (by omega) λr hr=>(Pn r hr).1;rw[e,Aa];have w:=zBa (rs:=p.1) λr hr=>(Pn r hr).1;have w2:=w.cc;exact .ret ⟨⟨zCL w (zsh p.1 Ly (by intro x hx;cases hx) Pn),by(try dsimp only);omega⟩,hc⟩
 ·refine(FV 25 hc (by omega)).bind λq ⟨_,hd⟩=> ?_;refine .ite (λ_=> ?_) λ_=> .ite (λ_=> .ite (λhl=> ?_) λ_=> .ret ⟨hs,hd.up (by omega)⟩) λ_=> .ite (λ_=> .ite (λhl=> ?_) λ_=> .ret ⟨hs,hd.up (by omega)⟩) λ_=> .ret ⟨hs,hd.up (by omega)⟩
  ·exact(o9 _ (by simp) hd (by omega)).bind λr ⟨_,he⟩=> .ret ⟨⟨hs.cells,hs.gq,hs.held,hs.k8⟩,he.up (by omega)⟩
  ·have hl:(p.1.ae.length:Int)>0:=by simpa using hl
   refine(o9 _ (by simp) hd (by omega)).bind λr ⟨_,he⟩=> ?_;refine BU.bind (P:=λy=>y∈p.1.ae) (.getI (by omega) (by omega) λx hx=>hx) λy hy=> .ret ⟨⟨hs.cells,by(try dsimp only);rw[List.length_set];exact hs.gq,λx hx=> ?_,hs.k8⟩,he.up (by omega)⟩;rcases List.mem_or_eq_of_mem_set hx with hx|hx
   ·exact hs.held x hx
   ·have:=hs.held y hy;rw[hx];exact⟨this.reads,this.writes⟩
  ·have hl:(p.1.au.length:Int)>0:=by simpa using hl
   refine BU.bind (P:=λ_=>True) (.getI (by omega) (by omega) λ_ _=>trivial) λy _=> ?_;exact .req (by simp only[RM,AP];omega) (.ret ⟨⟨hs.cells,hs.gq,hs.held,by(try dsimp only);rw[AF,AP];omega⟩,hd.up (by omega)⟩)
structure XK(d:Ag):Prop where
 small:LI d
 cuts:d.aw.length<=1000
 b8:d.ab.length<=1000
 bm:∀o∈d.ab,Di o=true
theorem zF4{d:Ag}(g:GD d):XK d:=⟨Ob g,by have:=g.dv;omega,by have:=g.b8;omega,λo ho=>(g.bm o ho).1⟩
theorem uU[Inhabited EW]{c:AT}{k:Int}(h:Cc c k)(h0:0<=k)(hk:k<=4611686018427320000):BU (VV c) λp=>XK p.1/\Cc p.2 (k+9000):=by
 unfold VV;refine(zx3 h h0 (by omega)).bind λp ⟨⟨⟨g,_⟩,hl⟩,hc⟩=> ?_;rw[qP g (by omega),Aa];have g:=(uP p.1.2 (p.1.1,[]) g).1;generalize p.1.2.foldl Fw (p.1.1,[])=z at g;have D:=zF4 g;have hlen:=g.len;refine(FV 25 hc (by omega)).bind λq ⟨_,hd⟩=> ?_;refine .ite (λ_=> ?_) λ_=> .ite (λ_=> .ret ⟨⟨⟨⟨by simp,by simp⟩,D.small.en,D.small.bh,D.small.b8,D.small.bm⟩,by simp,D.b8,D.bm⟩,hd.up (by omega)⟩) λ_=> .ite (λ_=> ?_) λ_=> .ret ⟨D,hd.up (by omega)⟩
 ·refine(zw5 hd (by omega) (by omega)).bind λs ⟨hs,he⟩=> ?_;refine BU.bind (P:=λ_=>True) (.getI (by omega) (by omega) λ_ _=>trivial) λy _=> .ret ⟨⟨⟨D.small.cuts,by(try dsimp only);rw[List.length_set];exact D.small.en,λx hx=> ?_,D.small.b8,D.small.bm⟩,D.cuts,D.b8,D.bm⟩,he.up (by omega)⟩;rcases List.mem_or_eq_of_mem_set hx with hx|hx
  ·exact D.small.bh x hx
  ·rw[hx];exact hs
 ·have e:A6 z.1.aj 1 (z.1.aj.length:Int)=z.1.aj.drop 1:=NM z.1.aj 1;rw[e];exact .req (by omega) (.ret ⟨⟨⟨D.small.cuts,by(try dsimp only);rw[Bx];have:=D.small.en;omega,λx hx=>D.small.bh x (BM hx),D.small.b8,D.small.bm⟩,D.cuts,D.b8,D.bm⟩,hd.up (by omega)⟩)
theorem zBq{code:List Int}(h:∀b∈code,0<=b/\b<=255):BU (xK code) λp=>XK p.1:=by unfold xK;refine(uU (c:=⟨code,0,0⟩) (Cc.start h) (by omega) (by omega)).bind λp ⟨D,hc⟩=> ?_;exact(ztE D.cuts D.b8 D.bm hc (by omega)).bind λq _=> .ret D
theorem zsI{code:List Int}(h:∀b∈code,0<=b/\b<=255):BU (Zm code) λp=>(GD p.1/\Vv p.1)/\p.2.length<=24:=by unfold Zm;exact(zx3 (c:=⟨code,0,0⟩) (Cc.start h) (by omega) (by omega)).bind λp ⟨a,_⟩=> .ret a
theorem zsM{code:List Int}(h:∀b∈code,0<=b/\b<=255):BU (VR code) XK:=by unfold VR;exact(uU (c:=⟨code,0,0⟩) (Cc.start h) (by omega) (by omega)).bind λp ⟨D,_⟩=> .ret D
theorem zAy{d:Ag}{al:List BG}(g:GD d)(hl:al.length<=24):yC d al=some ((al.foldl Fw (d,[])).1,(al.foldl Fw (d,[])).2,true)/\ZM d al=some ((al.foldl Fw (d,[])).1,(al.foldl Fw (d,[])).2,true):=by
 have h:=Ob g;unfold yC ZM;rw[Xd h,W3 h,Aa,Aa,Xc g];have e:((!true)||decide ((al.length:Int)>80))=false:=by simp;omega
 rw[e,if_neg (by simp),if_neg (by simp),qP g (by omega),Aa,nF g,Aa];exact⟨rfl,zFw g (by omega)⟩
def Jo(d:Ag)(t:Int)(z:List A8 × Int)(p:Int):List A8 × Int:=(match AU (Ao d p) t with|some x=>z.1++ [x]|none=>z.1,if(Bw (Ao d p) t).isSome=true then z.2+1 else z.2)
theorem bK{d:Ag}{t:Int}:∀(ps:List Int) (n m:Int) (l:List A8),(∀p∈ps,∀x,AU (Ao d p) t=some x->Bw (Ao d p) t=none)->
  ((ps.map (Ao d)).foldl (Eu t) (n,l)).2=(ps.foldl (Jo d t) (l,m)).1/\((ps.map (Ao d)).foldl (Eu t) (n,l)).1+(ps.foldl (Jo d t) (l,m)).1.length+(ps.foldl (Jo d t) (l,m)).2=n+l.length+m+ps.length
 | [],n,m,l,_=>⟨rfl,by simp⟩
 |p::ps,n,m,l,h=>by
  rw[List.map_cons,List.foldl_cons,List.foldl_cons];cases ht:AU (Ao d p) t with
  |some x=>
   have hh:=h p (by simp) x ht;have e1:Eu t (n,l) (Ao d p)=(n,l++ [x]):=by unfold Eu;rw[ht]
   have e2:Jo d t (l,m) p=(l++ [x],m):=by unfold Jo;rw[ht,hh];rfl
   rw[e1,e2];obtain⟨a,b⟩:=bK (d:=d) (t:=t) ps n m (l++ [x]) λq hq=>h q (by simp[hq]);refine⟨a,b.trans ?_⟩;simp;omega
  |none=>
   cases hh:Bw (Ao d p) t with
   |some y=>
    have e1:Eu t (n,l) (Ao d p)=(n,l):=by unfold Eu;rw[ht,hh];rfl
    have e2:Jo d t (l,m) p=(l,m+1):=by unfold Jo;rw[ht,hh];rfl
    rw[e1,e2];obtain⟨a,b⟩:=bK (d:=d) (t:=t) ps n (m+1) l λq hq=>h q (by simp[hq]);refine⟨a,b.trans ?_⟩;simp;omega
   |none=>
    have e1:Eu t (n,l) (Ao d p)=(n+1,l):=by unfold Eu;rw[ht,hh];rfl
    have e2:Jo d t (l,m) p=(l,m):=by unfold Jo;rw[ht,hh];rfl
    rw[e1,e2];obtain⟨a,b⟩:=bK (d:=d) (t:=t) ps (n+1) m l λq hq=>h q (by simp[hq]);refine⟨a,b.trans ?_⟩;simp;omega
theorem zAQ{d:Ag}{o:Ak}(g:GD d)(go:Di o=true):ZH d o=some (JW d o):=by
 obtain⟨b1,b2,_,_⟩:=Fu (d:=d) go;have hf:=g.dv;unfold ZH;rw[qB g go,Aa];obtain⟨a,b⟩:=D5 (xs:=Ay d o) (body:=λs:List A8 × Int × Int=>Rz d o (Ay d o) s.1 s.2.1 s.2.2) (λj (z:List A8 × Int)=>(z.1,z.2,j)) (Jo d o.ah) (λz=>Y8 (Ay d o) z.2 z.1) (λj z=>z.1.length<=j/\(0<=z.2/\z.2<=j))
  (λj hj z hz=>by
   have c:=b1 _ (Aw hj);obtain⟨t1,t2,_⟩:=D0 g c.1 c.2;obtain⟨w,_⟩:=g.bh _ t2;have w1:=w.dv;have w2:=w.cc;refine⟨?_,?_⟩
   ·show Rz d o (Ay d o) z.1 z.2 (j:Int)=_;unfold Rz lA Jo;rw[if_pos (by simpa using hj),AH hj,Aa,t1,Aa,bP (by omega),Aa];simp only[Aa];rw[Tf (by omega),Bb (by omega),show IntKind.i64.wrap (z.2+1)=z.2+1 from CO (by omega) (by omega)];cases AU (Ao d (Ay d o)[j]) o.ah with
    |some x=>simp only[if_true];rw[Ba (by simp only[RM,AP];omega)];cases Bw (Ao d (Ay d o)[j]) o.ah<;>rfl
    |none=>cases Bw (Ao d (Ay d o)[j]) o.ah<;>rfl
   ·unfold Jo;refine⟨?_,?_⟩
    ·dsimp only;split
     ·rw[AF,AP];omega
     ·omega
    ·dsimp only;split<;>omega)
  (λz _=>by show Rz d o (Ay d o) z.1 z.2 ((Ay d o).length:Int)=_;unfold Rz;rw[if_neg (by simp)]) (s:=([],0)) ⟨by simp,by simp,by simp⟩
 refine a.trans ?_;obtain⟨t1,t2⟩:=bK (d:=d) (t:=o.ah) (Ay d o) 0 0 [] λp hp x hx=>by obtain⟨_,t2,_⟩:=D0 g (b1 p hp).1 (b1 p hp).2;exact bR (g.bh _ t2).2 hx
 unfold JW;rw[t1];generalize (Ay d o).foldl (Jo d o.ah) ([],0)=z at b t2;generalize (((Ay d o).map (Ao d)).foldl (Eu o.ah) (0,[])).1=n at t2;obtain⟨l,m⟩:=z;have t2:n+l.length+m=(Ay d o).length:=by simpa using t2
 obtain⟨b3,b4,b5⟩:=b;have b3:l.length<=(Ay d o).length:=b3;have b4:0<=m:=b4;have b5:m<=(Ay d o).length:=b5;show Y8 (Ay d o) m l=some (XF l n);unfold Y8;cases l with
 |nil=>
  rw[EM];have e:NV (Ay d o) m [] 0=some (.inr (some true)):=by unfold NV;rw[if_neg (by simp)]
  rw[e];rfl
 |cons y l=>
  have hlen:(y::l).length=l.length+1:=rfl;rw[Gs (xs:=y::l) (body:=λi=>NV (Ay d o) m (y::l) i) (λx=> !(!(LQ x y)||(x.bf&&decide (n>0)))) false (some true) (λi hi=>by
   show NV (Ay d o) m (y::l) (i:Int)=_;unfold NV;have e0:getI (y::l) 0=some y:=AH (i:=0) (by simp);have ew:IntKind.i64.wrap (((y::l).length:Int)+m)=((y::l).length:Int)+m:=CO (by omega) (by omega);have ed:decide (((y::l).length:Int)+m<((Ay d o).length:Int))=decide (n>0):=decide_eq_decide.2 (by omega);rw[if_pos (decide_eq_true (by omega)),AH hi,Aa,e0,Aa,ew,ed,Bb (by omega)];show(if(!(LQ (y::l)[i] y)||((y::l)[i].bf&&decide (n>0)))=true then _ else _)=_;cases(!(LQ (y::l)[i] y)||((y::l)[i].bf&&decide (n>0)))<;>rfl) (by
   show NV (Ay d o) m (y::l) ((y::l).length:Int)=_;unfold NV;rw[if_neg (by simp)])]
  show _=some (!((y::l).any λx=> !(LQ x y)||(x.bf&&decide (n>0))));rw[List.not_any_eq_all_not];cases(y::l).all λx=> !(!(LQ x y)||(x.bf&&decide (n>0)))<;>rfl
theorem zB9{d:Ag}(g:GD d):Sa d=some (d.ab.all (JW d),true):=by
 have hl:=g.b8;unfold Sa;rw[Xd (Ob g),Xc g,Aa,if_neg (by simp)];rw[Gs (xs:=d.ab) (body:=λi=>RR d i) (JW d) (false,true) (some (true,true)) (λi hi=>by
  obtain⟨go,_⟩:=g.bm _ (Aw hi);show RR d (i:Int)=_;unfold RR;rw[if_pos (by simpa using hi),AH hi,Aa,zAQ g go,Aa,Bb (by omega)];cases JW d d.ab[i]<;>rfl) (by
  show RR d (d.ab.length:Int)=_;unfold RR;rw[if_neg (by simp)])]
 cases d.ab.all (JW d)<;>rfl
theorem zxQ{d:Ag}(h:LI d):∃r,Sm d=some r/\(NU d=some r/\LI r.1):=by
 cases hg:LN d with
 |false=>unfold Sm NU;rw[Xd h,W3 h,Aa,Aa,hg];exact⟨_,rfl,rfl,zzI⟩
 |true=>
  have g:=wI h hg;refine⟨_,zAM g,oQ g,Ob (d:=K1 d) ?_⟩;have:∀(l:List Ak) (z:Ag),DW d z->DW d (l.foldl DS z):=by
   intro l
   induction l with
   |nil=>intro z h;exact h
   |cons o l ih=>intro z h;exact ih _ h.settle
  exact(this d.ab d ⟨g,rfl,rfl⟩).1
theorem zy5{d:Ag}(h:LI d):∃r,Sa d=some r/\PX d=some r:=by
 cases hg:LN d with
 |false=>unfold Sa PX;rw[Xd h,W3 h,Aa,Aa,hg];exact⟨_,rfl,rfl⟩
 |true=>have g:=wI h hg;exact⟨_,zB9 g,zvu g⟩
theorem zFg{b:List Int}(hb:∀x∈b,0<=x/\x<=255):Y0 b=some true:=by unfold Y0 kR kM;obtain⟨d,e,D⟩:=zsM hb;obtain⟨r,h1,h2,h3⟩:=zxQ D.small;obtain⟨q,h4,h5⟩:=zy5 D.small;rw[e];simp only[Aa];rw[h2,Aa,h1,Aa,h5,Aa,h4,Aa,if_pos (by simp),zP h3,Aa];simp
theorem zAG{l:List A8}(hr:Ci tk l){t:A8}(ht:t∈l):l.find? (λy=>tk y==t.ah)=some t:=by
 cases hq:l.find? (λy=>tk y==t.ah)with
 |none=>have:=List.find?_eq_none.1 hq t ht;simp at this
 |some y=>
  have h1:=List.mem_of_find?_eq_some hq;have h2:tk y=tk t:=by simpa using List.find?_some hq
  obtain⟨i,hi,rfl⟩:=List.mem_iff_getElem.1 h1;obtain⟨j,hj,rfl⟩:=List.mem_iff_getElem.1 ht;rcases Nat.lt_trichotomy i j with k|k|k
  ·have:=hr.mono hj k;omega
  ·subst k;rfl
  ·have:=hr.mono hi k;omega
theorem zw2(a0 a1:List Int)(h0:(Yc Mn) a0)(h1:(Yc Mn) a1):Zs a0 a1=some true:=by
 have b0:∀x∈a0,0<=x/\x<=255:=λx hx=>by have:=h0.2 x hx;simpa[Mn]using this
 have b1:∀x∈a1,0<=x/\x<=255:=λx hx=>by have:=h1.2 x hx;simpa[Mn]using this
 unfold Zs nV;rw[Aa];refine zHw (λ_=>rfl) λ_=> ?_;obtain⟨p,e,⟨g,f⟩,hl⟩:=zsI b0;obtain⟨_,e2⟩:=zAy (al:=p.2) g (by omega);have I:=zyh p.2 (p.1,[]) ⟨g,zDv f,zCU f⟩;rw[e,Aa,e2,Aa,if_pos rfl];generalize p.2.foldl Fw (p.1,[])=z at I;obtain⟨x,done⟩:=z;have I:EA x:=I;have S:=zFt I;have Nd:=zxm S.inv S.sd;have Dl:=zFc S.inv S.sd;have hx:=oQ I.gd;dsimp only;generalize K1 x=s at S Nd Dl hx;have hs:=oQ S.inv.gd;rw[Nd]at hs;have hlen:s.aj.length=x.aj.length:=by rw[S.inv.gd.len,I.gd.len,S.ni.2.1]
 have hf:=S.inv.gd.len;have eP:=S.inv.gd.dv;rw[hx,Aa,hs,Aa,zvu S.inv.gd,zFY S.inv.ag,Aa,if_pos rfl,if_pos rfl,zP (Ob S.inv.gd),Aa,if_neg (by simp[hlen])];refine JN (n:=s.aj.length) (body:=λi=>R0 a1 (x,done,true) (s,true) i) (λi hi=> ?_) ?_
 ·have fC:i<x.aj.length:=by omega
  have hm:=Aw hi;have CS:=Aw fC;obtain⟨w,gd⟩:=S.inv.gd.bh _ hm;obtain⟨w2,_⟩:=I.gd.bh _ CS;have htl:=w.cc;have htl2:=w2.cc;have hnh:=Dl _ hm;have es:Ao s (i:Int)=s.aj[i]:=by unfold Ao;rw[CE,Bt hi];rfl
  have ex:Ao x (i:Int)=x.aj[i]:=by unfold Ao;rw[CE,Bt fC];rfl
  show R0 a1 (x,done,true) (s,true) (i:Int)=_;unfold R0;rw[if_pos (by simpa using hi),AH hi,Aa,if_neg (by rw[hnh];simp),AH fC,Aa];refine JN (n:=(x.aj[i]).au.length) (body:=λj=>RY (i:Int) s.aj[i] x.aj[i] j) (λj hj=> ?_) ?_
  ·have Is:=zAG w2.c9 (Aw hj);have hk:AU s.aj[i] ((x.aj[i]).au[j]).ah=some (x.aj[i]).au[j]:=by
    rw[<-es];exact S.keep i (by omega) _ _ (by rw[ex];exact Is)
   show RY (i:Int) s.aj[i] x.aj[i] (j:Int)=_;unfold RY;have eo:Zn s.aj[i] ((x.aj[i]).au[j]).ah=some ((x.aj[i]).au[j],true):=by unfold Zn;rw[zyB (zvq w gd),vQ w gd,Aa,if_neg (by simp),Oh (by omega) w.c9,Aa,hk,if_neg (by simp)];show(getI (s.aj[i]).au ((AK (A7 tk ((x.aj[i]).au[j]).ah) (s.aj[i]).au:Nat):Int)).bind _=_;rw[aZ w.c9 hk,Aa]
   rw[if_pos (by simpa using hj),AH hj,Aa,eo,Aa,if_neg (by simp),Bb (by omega)]
  ·show RY (i:Int) s.aj[i] x.aj[i] ((x.aj[i]).au.length:Int)=_;unfold RY xO;rw[if_neg (by simp),Bb (by omega)]
 ·show R0 a1 (x,done,true) (s,true) (s.aj.length:Int)=_;unfold R0 xN;rw[if_neg (by simp),zFg b1]
end
end Go.Proofs.YtalagilebkaegaaGreat
