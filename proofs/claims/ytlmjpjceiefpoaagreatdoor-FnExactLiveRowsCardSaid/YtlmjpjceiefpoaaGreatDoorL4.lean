/- Parts of a proof, joined: VX, WB, WC, WD, WE, WF, WG, WH, WI, WJ, WK, WL, WM, WN, WO. -/
import Derived.Test.YtlmjpjceiefpoaaGreatDoorL3
import Derived.Orders
import Derived.Lib.SliceRun
import Derived.Laws.Slices
import Derived.Laws.MakeOwn
import Derived.Laws.StructEq
set_option linter.unusedVariables false
set_option linter.unusedSimpArgs false
namespace Go.Proofs.YtlmjpjceiefpoaaGreatDoor
open Go.RowKit
section
theorem Bl(n:Nat):((n:Int)).toNat=n:=Int.toNat_natCast n
section
variable {P:Program} {c:Cx} {n nx:Nat} {sl sl0:Nat->SV} {hp hp0:Nat->Option Ai} {a:Act} {o:Oper} {gs:Gd} {e:Bf} {sg:BY} {nv:Nat}
def Cx.ja(c:Cx)(w':World)(t:Nat)(O:List Nat):Cx:={c with w:=w',G:=λu=>if u=t then⟨(c.G t).top,O⟩else c.G u,E:=λu=>if u=t then c.E u+1 else c.E u}
theorem Rel.oa(h:Rel c n sl hp a){t:Nat}{e0:Ai}{b:Nat}{w':World}{O:List Nat}(A1:C3 c.ρ (hp t) e0)(Ct:b∈(c.G t).top)(hO:O=[]\/O=(c.G t).O)(hm:Mod [b] c.w w')(BJ:w'.heap.size=c.w.heap.size)(e1:Ai)(BU:∀hs f,e1≠ .gd hs f)
  (he:Ev c (c.ja w' t O)->DH (c.ja w' t O) t e1):
  Rel (c.ja w' t O) n sl (Bq hp [(t,e1)]) a:=by
 have Bj:b∈(c.G t).own:=by simp[GI.own,Ct]
 have hG:∀u,(c.ja w' t O).G u=if u=t then⟨(c.G t).top,O⟩else c.G u:=λu=>rfl;have Fe:∀u,((c.ja w' t O).G u).top=(c.G u).top:=by
  intro u;rw[hG];split
  ·rename_i hu;rw[hu]
  ·rfl
 have Co:∀u,∀q∈((c.ja w' t O).G u).own,q∈(c.G u).own:=by
  intro u q hq;rw[hG]at hq;split at hq
  ·rename_i hu;subst hu;simp only[GI.own,Ae]at hq ⊢;rcases hq with hq|hq
   ·exact .inl hq
   ·rcases hO with rfl|rfl
    ·simp at hq
    ·exact .inr hq
  ·exact hq
 have Cm:Ev c (c.ja w' t O):=by
  refine⟨rfl,rfl,λq _ hq=>⟨λ⟨u,hu⟩=>hq.1 ⟨u,by rw[Fe]at hu;exact hu⟩,hq.2⟩,λq hq A3=>hm.block q hq ?_,λu g hu=>⟨hu,rfl⟩,λu g hu=> ?_⟩
  ·simp only[List.mem_singleton];rintro rfl;exact A3.1 ⟨t,Ct⟩
  ·by_cases Hq:u=t
   ·have e1:(c.ja w' t O).E u=c.E u+1:=by simp only[Cx.ja,if_pos Hq]
    exact⟨by omega,λh=>by omega⟩
   ·have e1:(c.ja w' t O).E u=c.E u:=by simp only[Cx.ja,if_neg Hq]
    have e2:(c.ja w' t O).G u=c.G u:=by simp only[Cx.ja,if_neg Hq]
    rw[e1];refine⟨AB _,λ_=>⟨e2,λq hq IX=>hm.block q IX ?_⟩⟩;simp only[List.mem_singleton];rintro rfl;exact h.gw.dt t u (Ne.symm Hq) q Bj (by simp[GI.own,hq])
 have Ff:∀u,Bq hp [(t,e1)] u=if u=t then some e1 else hp u:=λu=>rfl;refine h.change (λu=>u=t) Cm ⟨hm.os.trans h.base.os,hm.tape.trans h.base.tape,hm.output.trans h.base.output,Nat.le_trans h.base.size hm.size,h.base.pins,λq hq GK=> ?_,h.base.pk,h.base.lo⟩
  (λu hu=>⟨by rw[Ff,if_neg hu],by rw[hG,if_neg hu],by simp[Cx.ja,hu],λg hg=>hg⟩) (λu hu q hq=>hm.block q (h.gw.inb u q (by simp[GI.own,hq])) ?_) (λu hu=> ?_) ⟨λu=> ?_,λu v oR q hq Hm=>h.gw.dt u v oR q (Co u q hq) (Co v q Hm),λu q hq=>h.gw.allow u q (Co u q hq),λu q hq=> ?_⟩ h.de (λu f hf=> ?_)
 ·refine(hm.block q (Nat.lt_of_lt_of_le hq h.base.size) ?_).trans (h.base.block q hq GK);simp only[List.mem_singleton];rintro rfl;rcases h.gw.allow t q Bj with hh|hh
  ·exact absurd hh (Nat.not_le.2 hq)
  ·exact GK hh
 ·simp only[List.mem_singleton];rintro rfl;exact h.gw.dt t u (Ne.symm hu) q Bj (by simp[GI.own,hq])
 ·subst hu;rw[Ff,if_pos rfl];refine⟨λe' hr=> ?_,λhn=> ?_⟩
  ·cases e1<;>first
    |(simp only[C3]at hr;subst hr;exact he Cm)
    |exact absurd rfl (BU _ _)
  ·cases e1<;>first
    |exact absurd rfl (BU _ _)
    |exact absurd rfl (hn _)
 ·rw[hG];split
  ·rename_i hu;subst hu;have h0:=h.gw.nodup u;simp only[GI.own]at h0 ⊢;rcases hO with rfl|rfl
   ·rw[AG];exact(List.nodup_append.1 h0).1
   ·exact h0
  ·exact h.gw.nodup u
 ·show q<w'.heap.size;rw[BJ];exact h.gw.inb u q (Co u q hq)
 ·rw[Ff]at hf;split at hf
  ·rename_i hu;subst hu;cases hh:hp u with
   |none=>rw[hh]at A1;exact A1.elim
   |some e9=>exact h.dv u e9 hh
  ·exact h.dv u f hf
theorem jP{α:Type}(L vs:List α)(p m:Nat)(h:p+vs.length<=m)(hm:m<=L.length):(setVs L p vs).take m=setVs (L.take m) p vs:=by
 apply List.ext_getElem?;intro j;have hl:(L.take m).length=m:=by rw[AE];omega
 rw[List.getElem?_take,T7 (L.take m) vs p (by omega) j,T7 L vs p (by omega) j,List.getElem?_take];by_cases h1:p<=j/\j<p+vs.length
 ·rw[if_pos (by omega),if_pos h1,if_pos h1]
 ·rw[if_neg h1,if_neg h1]
theorem Rd.setVs{w:World}{L V:List Value}{X Y:List AV}{N f:List Nat}{p:Nat}(h:Rd w L X N)(k:Rd w V Y f)(hp:p+V.length<=L.length):
  ∃n1 n2 n3,N=n1++n2++n3/\Rd w (Go.Proofs.YtlmjpjceiefpoaaGreatDoor.setVs L p V) (Go.Proofs.YtlmjpjceiefpoaaGreatDoor.setVs X p Y) (n1++f++n3)/\Rd w ((L.drop p).take V.length) ((X.drop p).take V.length) n2:=by
 have hl:=h.len;have hk:=k.len;have e1:L=L.take p++((L.drop p).take V.length++L.drop (p+V.length)):=by rw[<-List.drop_drop,B6,B6]
 have e2:X=X.take p++((X.drop p).take V.length++X.drop (p+V.length)):=by rw[<-List.drop_drop,B6,B6]
 have h':=h;rw[e1,e2]at h';obtain⟨n1,m,rfl,g1,g2⟩:=Rd.gh (by simp;omega) h';obtain⟨n2,n3,rfl,g3,g4⟩:=Rd.gh (by simp;omega) g2;refine⟨n1,n2,n3,by simp,?_,g3⟩;unfold Go.Proofs.YtlmjpjceiefpoaaGreatDoor.setVs;rw[<-hk];exact(g1.app k).app g4
theorem kR{sz:Nat}:∀(ys:List AV) (k:Nat) (z y:AV) (o:Nat) (vc:List AV),(∀y∈ys,y.cells.length=sz)->ys[k]?=some y->o+vc.length<=sz->z.cells=setVs y.cells o vc->Az (ys.set k z)=setVs (Az ys) (k*sz+o) vc
 | [],k,z,y,o,vc,_,h,_,_=>by simp at h
 |q::ys,0,z,y,o,vc,hs,h,ho,hz=>by simp at h;subst h;have hq:=hs q (by simp);simp only[Az,List.set_cons_zero,List.flatMap_cons,Nat.zero_mul,Nat.zero_add,hz];unfold setVs;rw[List.take_append_of_le_length (by omega),List.drop_append_of_le_length (by omega)];simp
 |q::ys,k+1,z,y,o,vc,hs,h,ho,hz=>by
  have hq:=hs q (by simp);have ih:=kR ys k z y o vc (λu hu=>hs u (by simp[hu])) (by simpa using h) ho hz;simp only[Az,List.set_cons_succ,List.flatMap_cons]at ih ⊢;rw[ih];unfold setVs;have e0:(k+1)*sz+o=q.cells.length+(k*sz+o):=by rw[hq,Nat.add_mul];omega
  rw[e0,List.take_length_add_append,Nat.add_assoc (q.cells.length),List.drop_length_add_append];simp
theorem ztD{y x:AV}{k:Nat}{g:Bool}(hx:(∀cs,x≠ .agg cs)\/g=true)(hy:g=false->y.cells.length=1/\k=0/\x.cells=[x]):(y.fm k x g).cells=setVs y.cells k x.cells:=by
 cases g with
 |true=>simp[AV.fm,AV.cells,setVs]
 |false=>obtain⟨h1,h2,h3⟩:=hy rfl;subst h2;simp only[AV.fm,h3,setVs];rw[if_neg (by simp)];rw[h3];simp only[List.take_zero,List.nil_append,AH,List.length_nil,Nat.zero_add];rw[List.drop_eq_nil_of_le (by omega)];simp
theorem zBj(h:BB P c n nx sl hp a sl0 hp0 o gs){t:TypeId}{x y:Operand}(ho:o.op= .store t x y){b g:Nat}{ix:E}{sz k:Nat}{s:SV}(A2:∃e z g c d,look hp0 gs b=some (.row e z g c d))(hx:BW sl0 gs x=some (.du b g ix sz k))(hy:BW sl0 gs y=some s)
  (he:O8 P hp0 gs t (.du b g ix sz k) s=some e) (hc:∀q∈e.dn,Cn.den c.ρ q):AJ P o c n nx sl hp gs a e:=by
 have r1:=h.dy hx (by simp[ho,Op.operands]);have r2:=h.dy hy (by simp[ho,Op.operands]);simp only[O8]at he;split at he
 ·rename_i el sz' g' c0 d hl;split at he
  ·rename_i hh;obtain⟨rfl,rfl,rfl,BC,hle,F6,EF⟩:=hh;split at he
   ·rename_i xe fz dx ck CG;split at he
    ·cases he
    rename_i D4;simp only[Af]at he;subst he;have D4:∀f,(b,f)∉fz:=λf hf=>D4 (by simp only[List.contains_eq_mem,AR];exact List.mem_map.2 ⟨_,hf,rfl⟩);obtain⟨f,q1,q2,⟨ts,q3⟩,q5⟩:=zvZ h.rel h.hp h.gs r2 CG (λq hq=>hc q (by simp[hq]));obtain⟨q3,q4⟩:=q3;have A1:=Pa h.hp (Df hl h.gs);have DM:=h.rel.freeze h.hp h.gs q3;have N7:C3 (c.da (fz.map (·.1))).ρ (Bq hp fz b) (.row el sz g c0 d):=by rw[Nj D4];exact A1
    obtain⟨e1,e2,N,e3,e4,e5,e6⟩:=DM.ents b _ N7;obtain⟨o1,o2,o3,o4⟩:=zvY (P:=P) q1 EF q5;generalize hv:a.eval x=v at r1;cases r1 with
    |du k1 k2 k3 k4 k5 _=>
     rename_i m len cap kk kv k6;obtain⟨xs,p1,p2,p3,pcase⟩:=e3;have p1':c0.den c.ρ= .sl xs:=p1;rcases pcase with⟨_,⟨_,pv⟩,_⟩|⟨g9,cap9,C,pv,p4,p5,p6,p7,p8,p9,p10⟩
     ·exfalso;have:c.H b g=_:=pv;rw[k2]at this;cases this;omega
     ·have pv':c.H b g= .slice (some ⟨g9,0,none⟩) xs.length cap9:=pv;rw[k2]at pv';simp only[Value.slice.injEq,Af,Addr.mk.injEq,and_true]at pv';obtain⟨rfl,rfl,rfl⟩:=pv';have JB:kv.toNat<xs.length:=by omega
      have GP:=Pf JB;generalize Kf:(AV.sl xs).nth kv.toNat=yk at GP;have Gb:=p2 yk (List.mem_of_getElem? GP);have EM:(a.eval y).cells.toList.length=P.cellsOf t:=by simpa using o4
      have hmul:(kv.toNat+1)*sz<=xs.length*sz:=Bz _ (by omega);have Ew:C.toList.length=cap*sz:=by simpa using p7
      have E6:xs.length*sz<=cap*sz:=Bz _ p4;rw[Nat.add_mul]at hmul;have p6':c.w.heap[m]?=some (.cells C el (0,0)):=p6;obtain⟨m1,m2,m3⟩:=yI (vs:=(a.eval y).cells.toList) p6' (show(kv.toNat*sz+k)+_<=C.size by rw[EM,p7];omega);have Vt:(C.toList.take (xs.length*sz)).length=xs.length*sz:=by rw[AE,Ew];omega
      obtain⟨n1,n2,n3,hN,s1,s2⟩:=Rd.setVs (p:=kv.toNat*sz+k) p10 o1 (by rw[Vt,EM];omega);have KQ:∀z,z<c.w.heap.size->(c.da (fz.map (·.1))).ok z->(putCells c.w m (kv.toNat*sz+k) (a.eval y).cells.toList).heap[z]?=c.w.heap[z]?:=by intro z hz A3;refine m1.block z hz ?_;simp only[List.mem_singleton];rintro rfl;exact A3.1 ⟨b,by rw[p8];simp⟩
      have Cz:(d&&dx)=true->n2=[]/\f=[]:=by
       intro Fo;have hcf:Cn.den c.ρ (.flat (.fld (.idx c0 ix) k (P.cellsOf t) (Aq P t)) (P.cellsOf t) (Aq P t)):=hc _ (by simp[Fo]);obtain⟨f1,f2,f3,f4⟩:=hcf;simp only[Ac]at Fo;refine⟨?_,q2 Fo.2⟩;have PZ:((Az xs).drop (kv.toNat*sz+k)).take (a.eval y).cells.toList.length=(yk.cells.drop k).take (P.cellsOf t):=by rw[EM];exact Yg xs p2 _ _ GP k (P.cellsOf t) hle
       rw[PZ]at s2;have CN:(E.fld (.idx c0 ix) k (P.cellsOf t) (Aq P t)).den c.ρ=yk.fld k (P.cellsOf t) (Aq P t):=by simp only[E.den,p1',k3,AV.idx,Kf]
       rw[CN]at f2;refine IG s2 ?_;cases hg:Aq P t with
       |true=>rw[hg]at f2;simpa[AV.fld,AV.cells]using f2
       |false=>
        have h1:P.cellsOf t=1:=by rcases EF with h'|h';rw[hg]at h';cases h';exact h'
        rw[CN]at f4;have f4:=f4 hg;rw[hg]at f4;have AP:k<yk.cells.length:=by omega
        rw[h1,By AP,List.take_succ_cons,List.take_zero];simp only[List.mem_singleton,forall_eq];simpa[AV.fld,AP]using f4
      have hz:(yk.fm k (xe.den c.ρ) (Aq P el)).cells=setVs yk.cells k (xe.den c.ρ).cells:=by
       refine ztD ?_ (λhg=> ?_)
       ·cases hg:Aq P el with
        |true=>exact .inr rfl
        |false=>
         left;rcases F6 with h'|⟨_,h'⟩
         ·rw[hg]at h';cases h'
         ·have h':Aq P t=false:=by simpa using h'
          rw[h']at q5;exact λcs=>(q5.1 cs)
       ·rcases F6 with h'|⟨h1,h'⟩
        ·rw[hg]at h';cases h'
        ·have h':Aq P t=false:=by simpa using h'
         rw[h']at q5;have Pw:P.cellsOf t=1:=by rcases EF with h2|h2;rw[h']at h2;cases h2;exact h2
         refine⟨by omega,by omega,?_⟩;cases oW:xe.den c.ρ<;>first|rfl|exact absurd oW (q5.1 _)
      have E0:Az (xs.set kv.toNat (yk.fm k (xe.den c.ρ) (Aq P el)))=setVs (Az xs) (kv.toNat*sz+k) (xe.den c.ρ).cells:=
       kR xs _ _ yk k _ p2 GP (by rw[o3];exact hle) hz
      have H8:=DM.oa (t:=b) (b:=m) (w':=putCells c.w m (kv.toNat*sz+k) (a.eval y).cells.toList) (O:=if(d&&dx)=true then((c.da (fz.map (·.1))).G b).O else []) N7 (by rw[p8];simp) (by split;exact .inr rfl;exact .inl rfl) m1 m3
       (.row el sz g (.set c0 ix (.put (.idx c0 ix) k xe (Aq P el))) (d&&dx)) (by intros;simp) (λJ9=>by
        have GB:∀z∈n1++f++n3,(c.da (fz.map (·.1))).ok z:=by
         intro z hz;simp only[Ae]at hz;rcases hz with(hz|hz)|hz
         ·exact e4 z (by rw[hN];simp[hz])
         ·exact q4 z hz
         ·exact e4 z (by rw[hN];simp[hz])
        have UY:∀z∈n1++f++n3,z<c.w.heap.size:=s1.inb;refine⟨e1,e2,n1++f++n3,⟨xs.set kv.toNat (yk.fm k (xe.den c.ρ) (Aq P el)),?_,λz pA=> ?_,p3, .inr ⟨m,cap,_,?_,by simpa using p4,p5,m2,?_,?_,?_,?_⟩⟩,λz hz=>J9.ok z (UY z hz) (GB z hz),λFo=> ?_,λFo=> ?_⟩
        ·show AV.fq (c0.den c.ρ) (ix.den c.ρ) (((c0.den c.ρ).idx (ix.den c.ρ)).fm k (xe.den c.ρ) (Aq P el))=_;rw[p1',k3];simp only[AV.idx,Kf,AV.fq]
        ·rcases List.mem_or_eq_of_mem_set pA with pA|rfl
         ·exact p2 z pA
         ·rw[hz,Yk _ _ _ (by rw[o3,Gb];exact hle)];exact Gb
        ·rw[List.length_set];exact k2
        ·rw[List.size_toArray,Yk _ _ _ (by rw[EM,Ew];omega),BF];exact p7
        ·simpa[Cx.ja]using p8
        ·simp only[List.length_set,List.toList_toArray];rw[jP _ _ _ _ (by rw[EM];omega) (by rw[Ew];omega)];intro u hu;unfold setVs at hu;simp only[Ae]at hu;rcases hu with(hu|hu)|hu
         ·exact p9 u (BD hu)
         ·exact o2 u hu
         ·exact p9 u (BR hu)
        ·simp only[List.length_set,List.toList_toArray];rw[jP _ _ _ _ (by rw[EM];omega) (by rw[Ew];omega),E0];exact s1.frame λz hz=>KQ z (UY z hz) (GB z hz)
        ·obtain⟨z1,z2⟩:=Cz Fo;have hd:d=true:=by simp only[Ac]at Fo;exact Fo.1
         obtain⟨u1,u2⟩:=e5 hd;have hNN:n1++f++n3=N:=by rw[hN,z1,z2]
         rw[hNN];refine⟨u1.frame λz hz=>KQ z (p10.inb z hz) (e4 z hz),?_⟩;simp only[Cx.ja,if_true,Fo];exact u2
        ·simp[Cx.ja,Fo])
      intro next Q hk
      unfold Oper.wp;have hr:(execOp a.eval o).run P c.w= .ok .skip (putCells c.w m (kv.toNat*sz+k) (a.eval y).cells.toList):=by have:=zrV (P:=P) (t:=t) (v:=a.eval y) (off:=kv.toNat*sz+k) p6' BC o4 (by rw[o4,p7];omega) o2;simp[execOp,ho,hv,this]
      rw[hr,Oper.upon_skip];refine hk _ ((c.da (fz.map (·.1))).ja (putCells c.w m (kv.toNat*sz+k) (a.eval y).cells.toList) b (if(d&&dx)=true then((c.da (fz.map (·.1))).G b).O else [])) ⟨rfl,rfl,rfl,rfl,λt ht=> .inl ht⟩ ?_;have:=H8.put (v:=Go.undef) ((SR.undef .nil).mkGd []) o.dst;rw[QV];exact this
   ·cases he
  ·cases he
 all_goals (rename_i hl;obtain⟨_,_,_,_,_,BP⟩:=A2;first|(rw[BP]at hl;cases hl;done)|exact absurd BP (hl _ _ _ _ _)|cases he)
end
def L7(a:Act)(o:Oper):Bool:=match o.op with| .binOp _ _ x _ _=>(match a.eval x with| .slice none _ _=>true|_=>false)|_=>false
section
variable (P:Program) (sg:BY) (Rt:Nat->List AV->AV->Prop)
def Qn:Prop:= ∀(c:Cx) (n nx:Nat) (sl:Nat->SV) (hp:Nat->Option Ai) (a:Act) (sl0:Nat->SV) (hp0:Nat->Option Ai) (o:Oper) (gs:Gd) (e:Bf) (nv:Nat),BB P c n nx sl hp a sl0 hp0 o gs-> ¬c.U (nx+999)->NC P sg sl0 hp0 nv nx gs o=some e->
 (∀q∈e.dn,q.den c.ρ)->(∀cl,e.call=some cl-> ∃r,c.ρ[nv]?=some r/\JQ Rt cl.fn ((EL.of cl.args).den c.ρ) c.ρ r)->(∀x,e.df=some x->c.ρ[nv]?=some (.bool (L7 a o)))->AJ P o c n nx sl hp gs a e
def WC:Prop:= ∀(c:Cx) (n nx:Nat) (sl:Nat->SV) (hp:Nat->Option Ai) (a:Act) (sl0:Nat->SV) (hp0:Nat->Option Ai) (o:Oper) (gs:Gd) (e:Bf) (nv:Nat) (x:E),BB P c n nx sl hp a sl0 hp0 o gs->NC P sg sl0 hp0 nv nx gs o=some e->e.df=some x->L7 a o=true->x.den c.ρ= .sl []
end
theorem zzC{hp:Nat->Option Ai}(l:List (Nat × Ai))(t:Nat):(Bq hp l t=hp t/\ ∀e,(t,e)∉l)\/ ∃e,(t,e)∈l/\Bq hp l t=some e:=by
 induction l generalizing hp with
 |nil=>exact .inl ⟨rfl,by simp⟩
 |cons p l ih=>
  obtain⟨u,f⟩:=p;rcases ih (hp:=λv=>if v=u then some f else hp v)with⟨h1,h2⟩|⟨e,h1,h2⟩
  ·by_cases ht:t=u
   ·subst ht;refine .inr ⟨f,by simp,?_⟩;have:Bq hp ((t,f)::l) t=Bq (λv=>if v=t then some f else hp v) l t:=rfl;rw[this,h1];simp
   ·refine .inl ⟨?_,λe he=> ?_⟩
    ·have:Bq hp ((u,f)::l) t=Bq (λv=>if v=u then some f else hp v) l t:=rfl;rw[this,h1,if_neg ht]
    ·rcases Ag.1 he with he|he
     ·cases he;exact ht rfl
     ·exact h2 e he
  ·exact .inr ⟨e,by simp[h1],h2⟩
section
variable {P:Program} {sg:BY} {Rt:Nat->List AV->AV->Prop} {c:Cx} {n nx:Nat} {sl:Nat->SV} {hp:Nat->Option Ai} {a:Act} {ops:Array Oper} {o:Oper} {gs:Gd} {e:Bf}
theorem Rel.skip(h:Rel c n sl hp a)(hg: ¬Bu c.ρ gs){l:List (Nat × Ai)}(hl:∀t x,(t,x)∈l->nx<=t/\t<nx+B1/\ ∃hs y,x= .gd hs y/\MS gs hs=true)(Bo:∀t,nx<=t->t<nx+B1-> ¬c.U t)(s:SV)(d:Option Nat):
  Rel {c with U:=λt=>c.U t\/(nx<=t/\t<nx+B1)} n (De n sl d (mkGd gs s)) (Bq hp l) (a.put d undef):=by
 have hs:SR {c with U:=λt=>c.U t\/(nx<=t/\t<nx+B1)} [mkGd gs s] [undef]:=by
  cases gs with
  |nil=>exact absurd (Fw _) hg
  |cons g gs=>exact .gd (λhh=>absurd hh hg) (λ_=>rfl) .nil
 refine Rel.put ?_ hs d;refine h.change (λt=> ∃x,(t,x)∈l) ⟨rfl,rfl,λ_ _ hb=>hb,λ_ _ _=>rfl,λ_ _ hk=>⟨hk,rfl⟩,λ_ _ _=>⟨AB _,λ_=>⟨rfl,λ_ _ _=>rfl⟩⟩⟩ ⟨h.base.os,h.base.tape,h.base.output,h.base.size,λt v hp=>⟨.inl (h.base.pins t v hp).1,(h.base.pins t v hp).2⟩,h.base.block,h.base.pk,h.base.lo⟩ (λt ht=> ?_) (λ_ _ _ _=>rfl) (λt ht=> ?_) ⟨h.gw.nodup,h.gw.dt,h.gw.allow,h.gw.inb⟩ (λt g hk=> .inl (h.de t g hk)) (λt x hx=> ?_)
 ·exact⟨Nj λx hx=>ht ⟨x,hx⟩,rfl,rfl,λg hk=>hk⟩
 ·obtain⟨x,hx⟩:=ht;rcases zzC (hp:=hp) l t with⟨_,h2⟩|⟨x',h1,h2⟩
  ·exact absurd hx (h2 x)
  ·obtain⟨q1,q2,hs,y,rfl,Co⟩:=hl t x' h1;have DW:∀e',¬C3 c.ρ (Bq hp l t) e':=by
    rw[h2];exact λe' hr=>hg (kX Co hr.1)
   refine⟨λe' hr=>absurd hr (DW e'),λ_=>h.off t λe' hr=> ?_⟩;cases hh:hp t with
   |none=>rw[hh]at hr;exact hr.elim
   |some e9=>exact Bo t q1 q2 (h.dv t e9 hh)
 ·rcases zzC (hp:=hp) l t with⟨h1,_⟩|⟨x',h1,_⟩
  ·rw[h1]at hx;exact .inl (h.dv t x hx)
  ·obtain⟨q1,q2,_⟩:=hl t x' h1;exact .inr ⟨q1,q2⟩
def YW(ρ:List AV)(ops:Array Oper)(o:Oper)(a:Act):Option Gd->Prop
 |none=>Region.wanted o (yielded ops a.tmps)=false
 |some gs=>(Bu ρ gs->Region.wanted o (yielded ops a.tmps)=true)/\(¬Bu ρ gs->Region.wanted o (yielded ops a.tmps)=false)
theorem zwN{σ:St}{r:Option Gd}(hg:QU σ ops o=some r)(hs:∀j want d,o.guard=some (j,want)->(ops[j]?).bind (·.dst)=some d->SR c [BX σ d] [a.tmps.getD d undef]):YW c.ρ ops o a r:=by
 unfold QU at hg;cases Ib:o.guard with
 |none=>rw[Ib]at hg;simp only[Af]at hg;subst hg;exact⟨λ_=>by simp[Region.wanted,Ib],λhn=>absurd (Fw _) hn⟩
 |some jw=>
  obtain⟨j,want⟩:=jw;rw[Ib]at hg;simp only at hg;cases hd:(ops[j]?).bind (·.dst)with
  |none=>rw[hd]at hg;simp only[Af]at hg;subst hg;simp[YW,Region.wanted,Ib,yielded,hd]
  |some d=>
   rw[hd]at hg;simp only at hg;have hr:=hs j want d Ib hd;have hw:∀v,a.tmps.getD d undef=v->Region.wanted o (yielded ops a.tmps)=(match v with| .bool b=>b==want|_=>false):=by
    intro v hv;simp only[Region.wanted,Ib,yielded,hd,Aa];rw[Array.getD_eq_getD_getElem?]at hv;cases hq:a.tmps[d]? with
    |none=>rw[hq]at hv;simp at hv;subst hv;simp[undef]
    |some u=>rw[hq]at hv;simp at hv;subst hv;cases u<;>simp
   generalize a.tmps.getD d undef=v at hr hw;have hw:=hw v rfl;have MI:v=undef->Region.wanted o (yielded ops a.tmps)=false:=by rintro rfl;rw[hw];simp[undef]
   have IZ:∀x f,Rd c.w [v] [x] f->(x= .bool want->Region.wanted o (yielded ops a.tmps)=true)/\(x≠ .bool want->Region.wanted o (yielded ops a.tmps)=false):=by
    intro x f hx;refine⟨λh=> ?_,λh=> ?_⟩
    ·rw[hw,JO hx h];simp
    ·rw[hw];cases v<;>simp only;rename_i b;cases hx with
     |bool _=>simpa using λhh=>h (by rw[hh])
   split at hg
   ·rename_i b Dw;rw[Dw]at hr;cases hr with
    |e h1 _ _=>
     simp only[Af]at hg;subst hg;obtain⟨q1,q2⟩:=IZ _ _ h1;simp only[E.den,AV.bool.injEq]at q1 q2;split
     ·rename_i hb;simp only[Ay]at hb;exact⟨λ_=>q1 hb,λhn=>absurd (Fw _) hn⟩
     ·rename_i hb;simp only[Ay]at hb;exact q2 (by simpa using hb)
   ·rename_i x _ Dw;rw[Dw]at hr;cases hr with
    |e h1 _ _=>simp only[Af]at hg;subst hg;obtain⟨q1,q2⟩:=IZ _ _ h1;exact⟨λhh=>q1 (hh (x,want) (by simp)),λhn=>q2 λhh=>hn (by intro g hg;simp at hg;subst hg;exact hh)⟩
   ·rename_i A9 s Dw;rw[Dw]at hr;cases hr with
    |gd h1 h2 _=>
     split at hg
     ·rename_i hf;simp only[Af]at hg;subst hg;refine MI (h2 λhk=> ?_);simp only[zJa,List.any_eq_true]at hf;obtain⟨g,hg,mV⟩:=hf;have:=hk g hg;split at mV
      ·rename_i b hb;rw[hb]at this;simp only[E.den,AV.bool.injEq]at this;simp[this]at mV
      ·cases mV
     ·split at hg
      ·rename_i b;simp only[Af]at hg;subst hg;by_cases hk:Bu c.ρ A9
       ·have h1:=h1 hk;cases h1 with
        |e h1 _ _=>
         obtain⟨q1,q2⟩:=IZ _ _ h1;simp only[E.den,AV.bool.injEq]at q1 q2;split
         ·rename_i hb;simp only[Ay]at hb;exact⟨λ_=>q1 hb,λhn=>absurd hk hn⟩
         ·rename_i hb;simp only[Ay]at hb;exact q2 (by simpa using hb)
       ·split
        ·exact⟨λhh=>absurd hh hk,λ_=>MI (h2 hk)⟩
        ·exact MI (h2 hk)
      ·rename_i x _;simp only[Af]at hg;subst hg;by_cases hk:Bu c.ρ A9
       ·have h1:=h1 hk;cases h1 with
        |e h1 _ _=>obtain⟨q1,q2⟩:=IZ _ _ h1;exact⟨λhh=>q1 (hh (x,want) (by simp)),λhn=>q2 λhh=>hn (by intro g hg;rcases Ag.1 hg with rfl|hg;exact hh;exact hk g hg)⟩
       ·exact⟨λhh=>absurd (λg hg=>hh g (by simp[hg])) hk,λ_=>MI (h2 hk)⟩
      ·cases hg
   ·cases hg
theorem zJQ(AY:Qn P sg Rt){Q:Exit->Act->World->Prop}{K:Act->World->Prop}{i nv:Nat}(hi:ops[i]?=some o)(hrel:Rel c n sl hp a){sl0:Nat->SV}{hp0:Nat->Option Ai}(Ey:YW c.ρ ops o a (some gs))
  (Dw:∀t,Operand.tmp t∈o.op.operands->sl0 t=sl t) (hhp:∀t e,hp0 t=some e->hp t=some e) (Bo:∀t,nx<=t->t<nx+B1-> ¬c.U t)
  (he:NC P sg sl0 hp0 nv nx gs o=some e) (BL:gs≠ []-> ∀t x,(t,x)∈e.cx->nx<=t/\t<nx+B1/\ ∃hs y,x= .gd hs y/\MS gs hs=true)
  (hc:Bu c.ρ gs-> ∀q∈e.dn,q.den c.ρ) (Br:∀cl,e.call=some cl-> ∃r,c.ρ[nv]?=some r/\(Bu c.ρ gs->JQ Rt cl.fn ((EL.of cl.args).den c.ρ) c.ρ r)) (Dm:∀x,e.df=some x->Bu c.ρ gs->c.ρ[nv]?=some (.bool (L7 a o)))
  (hK:∀a' c',Ql c c' nx->Rel c' n (De n sl o.dst (mkGd gs e.val)) (Bq hp e.cx) a'->K a' c'.w):wpOp P ops Q i K a c.w:=by
 unfold wpOp;simp only[hi];by_cases hg:Bu c.ρ gs
 ·rw[if_pos (Ey.1 hg)];exact .inl (AY c n nx sl hp a sl0 hp0 o gs e nv ⟨hrel,hg,Dw,hhp,λt h1 h2=>Bo t h1 (by simp only[B1];omega)⟩ (Bo _ (by omega) (by simp[B1])) he (hc hg) (λcl AD=>by obtain⟨r,h1,h2⟩:=Br cl AD;exact⟨r,h1,h2 hg⟩) (λx hx=>Dm x hx hg) _ _ hK)
 ·rw[if_neg (by rw[Ey.2 hg];simp)];have BU:gs≠ []:=by rintro rfl;exact hg (Fw _)
  exact hK _ {c with U:=λt=>c.U t\/(nx<=t/\t<nx+B1)} ⟨rfl,rfl,rfl,rfl,λt ht=>ht⟩ (hrel.skip hg (BL BU) Bo e.val o.dst)
end
def Cx.ext(c:Cx)(τ:List AV):Cx:={c with ρ:=c.ρ++τ}
theorem den_app{ρ τ:List AV}{x:E}(h:x.sc ρ.length=true):x.den (ρ++τ)=x.den ρ:=by have:=E.bp ρ τ [] x h;rw[AG]at this;exact this
theorem zJ5{ρ τ:List AV}{x:EL}(h:x.sc ρ.length=true):x.den (ρ++τ)=x.den ρ:=by have:=EL.bp ρ τ [] x h;rw[AG]at this;exact this
theorem Nk{ρ τ:List AV}{gs:Gd}(h:WJ ρ.length gs=true):Bu (ρ++τ) gs↔Bu ρ gs:=by simp only[WJ,Ba]at h;exact⟨λk g hg=>by rw[<-den_app (τ:=τ) (h g hg)];exact k g hg,λk g hg=>by rw[den_app (h g hg)];exact k g hg⟩
theorem BS.iw{n:Nat}:∀{cs:BS},cs.sc n=true-> ∀s∈cs.toList,s.sc n=true
 | .nil,_,s,h=>by simp[BS.toList]at h
 | .cons s cs,h,u,hu=>by
  simp only[BS.sc,Ac]at h;simp only[BS.toList,Ag]at hu;rcases hu with rfl|hu
  ·exact h.1
  ·exact BS.iw h.2 u hu
section
variable {c:Cx} {n:Nat} {sl:Nat->SV} {hp:Nat->Option Ai} {a:Act} {τ:List AV}
theorem J1.ext{t g:Nat}{p:Pk}{v:Value}(hs:(match p with|some q=>q.1.sc c.ρ.length|none=>true)=true)(h:J1 c t g p v):J1 (c.ext τ) t g p v:=by
 cases p with
 |none=>exact trivial
 |some p=>obtain⟨i,z,o⟩:=p;obtain⟨b,n,cap,C,ty,fz,kk,k,h1,h2,h3,h4,h5⟩:=h;exact⟨b,n,cap,C,ty,fz,kk,k,h1,h2,h3,by show i.den (c.ρ++τ)=_;rw[den_app hs];exact h4,h5⟩
theorem SR.ext{ss:List SV}{vs:List Value}(h:SR c ss vs):(∀s∈ss,s.sc c.ρ.length=true)->SR (c.ext τ) ss vs:=by
 have tl:∀{s:SV} {ss:List SV},(∀x∈s::ss,x.sc c.ρ.length=true)-> ∀x∈ss,x.sc c.ρ.length=true:=λh x hx=>h x (by simp[hx]);have hd:∀{s:SV} {ss:List SV},(∀x∈s::ss,x.sc c.ρ.length=true)->s.sc c.ρ.length=true:=λh=>h _ (by simp);have hρ:(c.ext τ).ρ=c.ρ++τ:=rfl
 induction h with
 |nil=>exact λ_=> .nil
 |undef _ ih=>exact λhs=> .undef (ih (tl hs))
 |e h1 h2 _ ih=>exact λhs=> .e (by rw[hρ,den_app (hd hs)];exact h1) h2 (ih (tl hs))
 |dg _ ih=>exact λhs=> .dg (ih (tl hs))
 |emp _ ih=>exact λhs=> .emp (ih (tl hs))
 |own h1 h2 _ ih=>exact λhs=> .own h1 h2 (ih (tl hs))
 |dq h1 h2 _ ih=>exact λhs=> .dq h1 h2 (ih (tl hs))
 |du h1 h2 h3 h4 h5 _ ih=>exact λhs=> .du h1 h2 (by rw[hρ,den_app (hd hs)];exact h3) h4 h5 (ih (tl hs))
 |fb h1 h2 h3 h4 h5 h6 _ ih=>intro hs;have:=hd hs;simp only[SV.sc,Ac]at this;exact .fb (by rw[hρ,den_app this.1];exact h1) h2 (by rw[hρ,den_app this.2];exact h3) h4 h5 (by rw[hρ,den_app this.1];exact h6) (ih (tl hs))
 |ey h1 h2 _ ih=>exact λhs=> .ey (by rw[hρ,den_app (hd hs)];exact h1) h2 (ih (tl hs))
 |agg h9 _ _ ih1 ih2=>exact λhs=> .agg h9 (ih1 (BS.iw (hd hs))) (ih2 (tl hs))
 |tup _ _ ih1 ih2=>exact λhs=> .tup (ih1 (BS.iw (hd hs))) (ih2 (tl hs))
 |fn _ _ ih1 ih2=>exact λhs=> .fn (ih1 (BS.iw (hd hs))) (ih2 (tl hs))
 |gd _ h2 _ ih1 ih2=>intro hs;have:=hd hs;simp only[SV.sc,Ac]at this;exact .gd (λhg=>ih1 ((Nk this.1).1 hg) (by simpa using this.2)) (λhg=>h2 λk=>hg ((Nk this.1).2 k)) (ih2 (tl hs))
 | @via t g n p x v ss vs h1 h2 h3 _ ih=>intro hs;have:=hd hs;simp only[SV.sc,Ac]at this;refine .via h1 h2 (λhe=> ?_) (ih (tl hs));obtain⟨q1,q2⟩:=h3 he;exact⟨by rw[hρ,den_app this.2];exact q1,J1.ext (τ:=τ) this.1 q2⟩
 | @vptr t g n p x i sz o v ss vs h1 h2 h3 _ ih=>intro hs;have:=hd hs;simp only[SV.sc,Ac]at this;refine .vptr h1 h2 (λhe=> ?_) (ih (tl hs));obtain⟨b,off,len,cap,kk,k,q1,q2,q3,q4,q5,q6,q7⟩:=h3 he;exact⟨b,off,len,cap,kk,k,by rw[hρ,den_app this.1.2];exact q1,J1.ext (τ:=τ) this.1.1 q2,by rw[hρ,den_app this.2];exact q3,q4,q5,by rw[hρ,den_app this.1.2];exact q6,q7⟩
 |wown h1 h2 h3 h4 h5 h6 _ ih=>exact λhs=> .wown h1 h2 (by rw[hρ,den_app (hd hs)];exact h3) h4 h5 h6 (ih (tl hs))
 | @lent i _ _ _ h1 _ ih=>exact λhs=> .lent (by rw[hρ,den_app (x:= .var i) (by simpa[SV.sc,E.sc]using hd hs)];exact h1) (ih (tl hs))
theorem DH.ext{t:Nat}{e:Ai}(h:DH c t e)(hs:e.sc c.ρ.length=true):DH (c.ext τ) t e:=by
 have hρ:(c.ext τ).ρ=c.ρ++τ:=rfl;cases e with
 |box ty g cs=>obtain⟨b,C,h1,h2,h3,h4,h5,h6,h7⟩:=h;exact⟨b,C,h1,h2,h3,h4,h5,h6,h7.ext (by simpa[Ai.sc]using hs)⟩
 |row ety sz g x d=>obtain⟨h1,h2,N,h3,h4,h5⟩:=h;exact⟨h1,h2,N,by rw[hρ,den_app hs];exact h3,h4,h5⟩
 |da g x=>obtain⟨h1,⟨f,h2,h3⟩,h4⟩:=h;exact⟨h1,⟨f,by rw[hρ,den_app hs];exact h2,h3⟩,h4⟩
 |gd gs e=>exact h
 |dead=>exact h
 |deep e z l g ep x=>obtain⟨h1,h2,h3,h4,h5⟩:=h;exact⟨h1,h2,h3,by rw[hρ,den_app hs];exact h4,h5⟩
 |hol e z l g ep x i o u=>simp only[Ai.sc,Ac]at hs;obtain⟨h1,h2,h3,h4,h5⟩:=h;exact⟨h1,h2,h3,by rw[hρ,den_app hs.1,den_app hs.2];exact h4,h5⟩
 |pre e z l g ep x k=>simp only[Ai.sc,Ac]at hs;obtain⟨h1,h2,h3,h4,h5⟩:=h;exact⟨h1,h2,h3,by rw[hρ,den_app hs.1,den_app hs.2];exact h4,h5⟩
theorem zNk{ρ:List AV}{e0 e:Ai}(hs:e0.sc ρ.length=true):C3 (ρ++τ) (some e0) e↔C3 ρ (some e0) e:=by
 cases e0 with
 |gd gs x=>simp only[Ai.sc,Ac]at hs;simp only[C3];rw[Nk hs.1]
 |_=>simp[C3]
theorem Rel.ext(h:Rel c n sl hp a)(h1:∀i,(sl i).sc c.ρ.length=true)(h2:∀t e,hp t=some e->e.sc c.ρ.length=true)(τ:List AV):Rel (c.ext τ) n sl hp a:=by
 have key:∀t e,C3 (c.ρ++τ) (hp t) e↔C3 c.ρ (hp t) e:=by
  intro t e;cases hh:hp t with
  |none=>exact Iff.rfl
  |some e0=>exact zNk (h2 t e0 hh)
 refine⟨h.defers,h.size,⟨h.base.os,h.base.tape,h.base.output,h.base.size,h.base.pins,h.base.block,h.base.pk,h.base.lo⟩,λi=>(h.ee i).ext (by simpa using h1 i),λt e hr=> ?_,λt hn=>h.off t λe hr=>hn e ((key t e).2 hr),⟨h.gw.nodup,h.gw.dt,h.gw.allow,h.gw.inb⟩,h.de,h.dv⟩;have Er:=(key t e).1 hr;have he:=h.ents t e Er;cases hh:hp t with
 |none=>rw[hh]at Er;exact Er.elim
 |some e0=>
  have Fs:=h2 t e0 hh;rw[hh]at Er;cases e0 with
  |gd gs x=>
   obtain⟨_,rfl⟩:=Er;simp only[Ai.sc,Ac]at Fs;cases x with
   |gd=>exact he
   |dead=>exact he
   |box=>exact he.ext (by simpa[Ai.sc]using Fs.2)
   |row=>exact he.ext (by simpa[Ai.sc]using Fs.2)
   |da=>exact he.ext (by simpa[Ai.sc]using Fs.2)
   |deep=>exact he.ext (by simpa[Ai.sc]using Fs.2)
   |hol=>exact he.ext (by simpa[Ai.sc]using Fs.2)
   |pre=>exact he.ext (by simpa[Ai.sc]using Fs.2)
  |_=>simp only[C3]at Er;subst Er;exact he.ext Fs
theorem St.nh{σ:St}(h:σ.sc=true)(i:Nat):(BX σ i).sc σ.nv=true:=by
 simp only[St.sc,Ac,Ba]at h;unfold BX;cases hi:σ.sl[i]? with
 |none=>simp[SV.sc]
 |some s=>exact h.1 s (List.mem_of_getElem? hi)
theorem St.mv{σ:St}(h:σ.sc=true)(t:Nat)(e:Ai)(he:AQ σ.hp t=some e):e.sc σ.nv=true:=by simp only[St.sc,Ac,Ba]at h;exact h.2 _ (Kj he)
theorem Cn.lq{ρ τ:List AV}{q:Cn}(h:q.sc ρ.length=true):q.den (ρ++τ)↔q.den ρ:=by
 cases q<;>simp only[Cn.sc,Ac]at h<;>simp only[Cn.den]
 case dfd=>rw[den_app h]
 case agg=>rw[den_app h]
 case cells=>rw[den_app h]
 case inb=>rw[den_app h.1,den_app h.2]
 case inbS=>rw[den_app h.1,den_app h.2]
 case win=>rw[den_app h.1.1,den_app h.1.2,den_app h.2]
 case winS=>rw[den_app h.1.1,den_app h.1.2,den_app h.2]
 case room=>rw[den_app h.1,den_app h.2]
 case roomS=>rw[den_app h.1,den_app h.2]
 case mkroom=>rw[den_app h]
 case nz=>rw[den_app h]
 case nn=>rw[den_app h]
 case isref=>rw[den_app h]
 case issl=>rw[den_app h]
 case flat=>rw[den_app h]
 case flatS=>rw[den_app h]
 case kinds=>rw[den_app h]
theorem rM:SR c [Is] [Go.undef]:= .gd (λhg=>by have:=hg (.bool false,true) (by simp);simp[E.den]at this) (λ_=>rfl) .nil
theorem zDb{ρ:List AV}{x:E}{b:Bool}{hs:Gd}(hx:x.den ρ= .bool b)(h:Qh (x, !b) hs=true): ¬Bu ρ hs:=by intro k;have:=zFn h k;simp only at this;rw[hx]at this;simp at this
theorem zsg{ρ:List AV}{x:E}{b:Bool}{hs:Gd}(hx:x.den ρ= .bool b):Bu ρ (hs.filter λh=> !(h.1.beq x&&h.2==b))↔Bu ρ hs:=by
 refine⟨λk g hg=> ?_,λk g hg=>k g (List.mem_filter.1 hg).1⟩;by_cases hh:(g.1.beq x&&g.2==b)=true
 ·simp only[Ac,Ay]at hh;rw[E.bb ρ _ _ hh.1,hx,hh.2]
 ·exact k g (List.mem_filter.2 ⟨hg,by rw[Bool.not_eq_true]at hh;rw[hh];rfl⟩)
theorem SR.l0{s:SV}{v:Value}{gs:Gd}(h1:Bu c.ρ gs->SR c [s] [v])(h2: ¬Bu c.ρ gs->v=Go.undef):SR c [Go.Proofs.YtlmjpjceiefpoaaGreatDoor.mkGd gs s] [v]:=by
 cases gs with
 |nil=>exact h1 (Fw _)
 |cons g gs=>exact .gd h1 h2 .nil
theorem SR.iu{x:E}{b:Bool}(hx:x.den c.ρ= .bool b){s:SV}{v:Value}(h:SR c [s] [v]):SR c [assumeS x b s] [v]:=by
 cases s with
 |gd hs s=>
  simp only[Go.Proofs.YtlmjpjceiefpoaaGreatDoor.assumeS];cases h with
  |gd h1 h2 _=>
   split
   ·rename_i hm;rw[h2 (zDb hx hm)];exact rM
   ·exact SR.l0 (λk=>h1 ((zsg hx).1 k)) (λk=>h2 λk'=>k ((zsg hx).2 k'))
 |_=>exact h
theorem zIC(f:Ai->Ai)(l:List (Nat × Ai))(t:Nat):AQ (l.map λ(t,e)=>(t,f e)) t=(AQ l t).map f:=by
 induction l with
 |nil=>rfl
 |cons p l ih=>
  obtain⟨u,e⟩:=p;simp only[List.map_cons,AQ];split
  ·rfl
  ·exact ih
theorem Rel.iu{x:E}{b:Bool}(hx:x.den c.ρ= .bool b)(h:Rel c n sl hp a):Rel c n (λi=>assumeS x b (sl i)) (λt=>(hp t).map (assumeE x b)) a:=by
 have NY:∀t,(∀e,C3 c.ρ (hp t) e-> ∃gs y,e= .gd gs y\/e= .dead)->(c.G t).top=[]/\(c.G t).O=[]:=by
  intro t ht;by_cases hh:∃e,C3 c.ρ (hp t) e
  ·obtain⟨e,he⟩:=hh;obtain⟨gs,y,rfl|rfl⟩:=ht e he
   ·exact h.ents t _ he
   ·exact h.ents t _ he
  ·exact h.off t λe he=>hh ⟨e,he⟩
 have cases':∀t,((∀e,C3 c.ρ ((hp t).map (assumeE x b)) e↔C3 c.ρ (hp t) e))\/((hp t).map (assumeE x b)=some .dead/\(c.G t).top=[]/\(c.G t).O=[]):=by
  intro t;cases hh:hp t with
  |none=>exact .inl λe=>Iff.rfl
  |some e0=>
   cases e0 with
   |gd hs y=>
    by_cases hm:Qh (x, !b) hs=true
    ·refine .inr ⟨by simp[Go.Proofs.YtlmjpjceiefpoaaGreatDoor.assumeE,hm],NY t λe he=> ?_⟩;rw[hh]at he;exact absurd he.1 (zDb hx hm)
    ·by_cases hy:∃gs z,y= .gd gs z
     ·obtain⟨gs,z,rfl⟩:=hy;refine .inr ⟨by simp[Go.Proofs.YtlmjpjceiefpoaaGreatDoor.assumeE,hm],NY t λe he=> ?_⟩;rw[hh]at he;exact⟨gs,z, .inl he.2.symm⟩
     ·refine .inl λe=> ?_;have he:assumeE x b (.gd hs y)=Dg (hs.filter λh=> !(h.1.beq x&&h.2==b)) y:=by
       simp only[Go.Proofs.YtlmjpjceiefpoaaGreatDoor.assumeE,hm,A7,if_false];cases y<;>first|rfl|exact absurd ⟨_,_,rfl⟩ hy
      simp only[Option.map_some,he];show _↔Bu c.ρ hs/\y=e;rw[<-zsg hx];generalize (hs.filter λh=> !(h.1.beq x&&h.2==b))=fs;cases fs with
      |nil=>simp only[Dg,Fw,true_and];cases y<;>first|exact absurd ⟨_,_,rfl⟩ hy|exact Iff.rfl
      |cons g fs=>exact Iff.rfl
   |_=>exact .inl λe=>Iff.rfl
 refine⟨h.defers,h.size,h.base,λi=>(h.ee i).iu hx,λt e hr=> ?_,λt hn=> ?_,h.gw,h.de,λt e he=> ?_⟩
 ·rcases cases' t with hc|⟨hc,h1,h2⟩
  ·exact h.ents t e ((hc e).1 hr)
  ·rw[hc]at hr;have:Ai.dead=e:=hr;subst this;exact⟨h1,h2⟩
 ·rcases cases' t with hc|⟨hc,h1,h2⟩
  ·exact h.off t λe he=>hn e ((hc e).2 he)
  ·exact⟨h1,h2⟩
 ·cases hh:hp t with
  |none=>rw[hh]at he;cases he
  |some e0=>exact h.dv t e0 hh
end
theorem ztE{σ:St}{d:Option Nat}{s:SV}:BX (Jd σ d s)=De σ.sl.length (BX σ) d s:=by
 funext i;cases d with
 |none=>simp[Jd,De]
 |some d=>
  simp only[Jd,BX,De,Af,List.getElem?_set];by_cases h:d=i
  ·subst h;by_cases h2:d<σ.sl.length
   ·simp[h2]
   ·simp[h2,List.getElem?_eq_none (Nat.le_of_not_lt h2)]
  ·simp[h]
theorem zry{σ:St}{d:Option Nat}{s:SV}:(Jd σ d s).sl.length=σ.sl.length:=by cases d<;>simp[Jd]
theorem zt8{σ:St}{d:Option Nat}{s:SV}:(Jd σ d s).hp=σ.hp:=by cases d<;>rfl
theorem zuq{σ:St}{d:Option Nat}{s:SV}:(Jd σ d s).nv=σ.nv:=by cases d<;>rfl
theorem zJs(l:List (Nat × Ai))(t:Nat)(e:Ai)(u:Nat):AQ (MU l t e) u=if u=t then some e else AQ l u:=by
 induction l with
 |nil=>
  simp only[MU,AQ];by_cases h:t=u
  ·simp[h]
  ·rw[if_neg h,if_neg (Ne.symm h)]
 |cons p l ih=>
  obtain⟨v,f⟩:=p;simp only[MU];split
  ·rename_i hv;subst hv;simp only[AQ];by_cases h:v=u
   ·simp[h]
   ·rw[if_neg h,if_neg (Ne.symm h),if_neg h]
  ·rename_i hv;simp only[AQ];by_cases h:v=u
   ·subst h;rw[if_pos rfl,if_neg hv,if_pos rfl]
   ·rw[if_neg h,ih,if_neg h]
theorem zzz:∀(ents:List (Nat × Ai)) (l:List (Nat × Ai)),AQ (ents.foldl (λl (p:Nat × Ai)=>MU l p.1 p.2) l)=Bq (AQ l) ents
 | [],l=>rfl
 |(t,e)::ents,l=>by
  simp only[List.foldl_cons];rw[zzz ents];have:AQ (MU l t e)=λu=>if u=t then some e else AQ l u:=by funext u;exact zJs l t e u
  rw[this];rfl
section
variable {P:Program} {sg:BY} {Rt:Nat->List AV->AV->Prop} {ops:Array Oper}
theorem zFq{σ:St}{gs:Gd}{o:Oper}{e:Bf}:BX (Ni σ gs o e)=De σ.sl.length (BX σ) o.dst (mkGd gs e.val):=by rw[<-ztE];rfl
theorem zFt{σ:St}{gs:Gd}{o:Oper}{e:Bf}:AQ (Ni σ gs o e).hp=Bq (AQ σ.hp) e.cx:=by
 have:(Ni σ gs o e).hp=e.cx.foldl (λl (p:Nat × Ai)=>MU l p.1 p.2) σ.hp:=by show e.cx.foldl (λl (p:Nat × Ai)=>MU l p.1 p.2) (Jd σ o.dst (mkGd gs e.val)).hp=_;rw[zt8]
 rw[this,zzz]
theorem zDi{σ:St}{gs:Gd}{o:Oper}{e:Bf}:(Ni σ gs o e).sl.length=σ.sl.length:=by show(Jd σ o.dst (mkGd gs e.val)).sl.length=_;rw[zry]
theorem qO{σ:St}{gs:Gd}{o:Oper}{e:Bf}:(Ni σ gs o e).nv=if e.call.isSome||e.df.isSome then σ.nv+1 else σ.nv:=by show(if e.call.isSome||e.df.isSome then(Jd σ o.dst (mkGd gs e.val)).nv+1 else(Jd σ o.dst (mkGd gs e.val)).nv)=_;rw[zuq]
theorem qD{R:AV->Prop}{gs:Gd}{k:Tr}{L:LK}{js:List JK}{ρ:List AV}:∀{cs:List Cn},(cs.foldr (λc k=> .dn gs c k) k:Tr).den Rt R L js ρ->(Bu ρ gs-> ∀q∈cs,q.den ρ)/\k.den Rt R L js ρ
 | [],h=>⟨by simp,h⟩
 |c::cs,h=>by
  obtain⟨h1,h2⟩:=h;obtain⟨h3,h4⟩:=qD h2;refine⟨λhg q hq=> ?_,h4⟩;rcases Ag.1 hq with rfl|hq
  ·exact h1 hg
  ·exact h3 hg q hq
theorem zFU{l:List (Nat × Ai)}{R:List Nat}{t:Nat}{e:Ai}(h:RP l R t=some e):AQ l t=some e:=by
 unfold RP at h;split at h
 ·exact h
 ·cases h
theorem zzX{f:Nat ⊕ E}{as_:EL}{ρ τ:List AV}{r:AV}(h1:(match f with| .inl _=>true| .inr x=>x.sc ρ.length)=true)(h2:as_.sc ρ.length=true):JQ Rt f (as_.den (ρ++τ)) (ρ++τ) r↔JQ Rt f (as_.den ρ) ρ r:=by
 rw[zJ5 h2];cases f with
 |inl f=>exact Iff.rfl
 |inr x=>simp only[JQ];rw[den_app h1]
theorem EL.l6{n:Nat}:∀{l:List E},l.all (E.sc n)=true->(EL.of l).sc n=true
 | [],_=>rfl
 |x::l,h=>by simp only[List.all_cons,Ac]at h;simp only[EL.of,EL.sc,Ac];exact⟨h.1,EL.l6 h.2⟩
structure Kz(F:Fix)(c:Cx)(σ:St)(a:Act)(n m:Nat):Prop where
 w0:c.w0=F.w0
 A:c.A=F.A
 Mu:c.Mu=F.Mu
 nv:c.ρ.length=σ.nv
 len:σ.sl.length=n
 U:∀t,c.U t->t<m
 rel:Rel c n (BX σ) (AQ σ.hp) a
theorem Kz.ext{F:Fix}{c:Cx}{σ:St}{a:Act}{n m:Nat}(h:Kz F c σ a n m)(hs:σ.sc=true)(τ:List AV):Rel (c.ext τ) n (BX σ) (AQ σ.hp) a:=
 h.rel.ext (λi=>by rw[h.nv];exact St.nh hs i) (λt e he=>by rw[h.nv];exact St.mv hs t e he) τ
theorem zQa(AY:Qn P sg Rt)(EJ:WC P sg){F:Fix}{c:Cx}{σ:St}{a:Act}{n i base:Nat}{o:Oper}{gs:Gd}{e:Bf}{k:Tr}{R:AV->Prop}{L:LK}{js:List JK}{Q:Exit->Act->World->Prop}{K:Act->World->Prop}
  (hi:ops[i]?=some o) (hm:Kz F c σ a n (base+B1*i)) (Ey:YW c.ρ ops o a (some gs)) {Rs:List Nat} (he:NC P sg (BX σ) (RP σ.hp Rs) σ.nv (base+B1*i) gs o=some e) (Fs:RF σ.nv (base+B1*i) σ.hp gs e=true)
  (VQ:(e.call.isSome||e.df.isSome)=true->σ.sc=true) (hd:(ZE gs e k).den Rt R L js c.ρ)
  (hK:∀(c':Cx) (a':Act),c.ρ<+:c'.ρ->Kz F c' (Ni σ gs o e) a' n (base+B1*(i+1))->k.den Rt R L js c'.ρ->K a' c'.w):wpOp P ops Q i K a c.w:=by
 simp only[RF,Ac,Ba]at Fs;obtain⟨⟨⟨⟨BO,Bd⟩,Hp⟩,hs4⟩,oK⟩:=Fs;have BL:gs≠ []-> ∀t x,(t,x)∈e.cx->base+B1*i<=t/\t<base+B1*i+B1/\ ∃hs y,x= .gd hs y/\MS gs hs=true:=by
  intro BU t x hx;have:=oK _ hx;have Vh:gs.isEmpty=false:=by cases gs;exact absurd rfl BU;rfl
  simp only[Vh,Bool.false_or,Bool.false_and,Bool.or_false,Ac,AR]at this;refine⟨this.1.1,this.1.2,?_⟩;have h3:=this.2;split at h3
  ·exact⟨_,_,rfl,h3⟩
  ·cases h3
 have Bo:∀t,base+B1*i<=t->t<base+B1*i+B1-> ¬c.U t:=λt h1 _ h3=>by have:=hm.U t h3;omega
 have GX:∀(τ:List AV),Rel (c.ext τ) n (BX σ) (AQ σ.hp) a->τ.length=(if e.call.isSome||e.df.isSome then 1 else 0)->k.den Rt R L js (c.ρ++τ)->(Bu c.ρ gs-> ∀q∈e.dn,q.den c.ρ)->
   (∀cl,e.call=some cl-> ∃r,τ=[r]/\(Bu c.ρ gs->JQ Rt cl.fn ((EL.of cl.args).den c.ρ) c.ρ r))->(∀x,e.df=some x->τ=[.bool (L7 a o)])->wpOp P ops Q i K a c.w:=by
  intro τ hrel hτ hk hc Br Dm;have GQ:σ.nv=c.ρ.length:=hm.nv.symm;rw[GQ]at BO Bd Hp;have Vp:∀r,τ=[r]->(c.ρ++τ)[σ.nv]?=some r:=by rintro r rfl;rw[GQ];simp
  refine zJQ (c:=c.ext τ) AY hi hrel ⟨λhg=>Ey.1 ((Nk BO).1 hg),λhg=>Ey.2 λk=>hg ((Nk BO).2 k)⟩ (λ_ _=>rfl) (λt e h=>zFU h) Bo he BL (λhg q hq=> ?_) (λcl AD=> ?_) (λx hx _=>Vp _ (Dm x hx)) (λa' c' Bm hr=> ?_)
  ·exact(Cn.lq (Bd q hq)).2 (hc ((Nk BO).1 hg) q hq)
  ·obtain⟨r,rfl,h2⟩:=Br cl AD;rw[AD]at Hp;simp only[Ac]at Hp;exact⟨r,Vp r rfl,λhg=>(zzX Hp.1 (EL.l6 Hp.2)).2 (h2 ((Nk BO).1 hg))⟩
  ·have hρ:c'.ρ=c.ρ++τ:=Bm.ρ;refine hK c' a' ⟨τ,hρ.symm⟩ ⟨Bm.w0.trans hm.w0,Bm.A.trans hm.A,Bm.Mu.trans hm.Mu,?_,by rw[zDi];exact hm.len,λt ht=> ?_,?_⟩ (by rw[hρ];exact hk)
   ·rw[hρ,qO,Av,hτ,GQ];split<;>rfl
   ·have hmul:base+B1*(i+1)=base+B1*i+B1:=by rw[Nat.mul_add];omega
    rw[hmul];rcases Bm.U t ht with h|h
    ·have:=hm.U t h;omega
    ·exact h.2
   ·rw[zFq,zFt,hm.len];exact hr
 unfold ZE at hd;obtain⟨hc,hd⟩:=qD hd;cases AD:e.call with
 |none=>
  simp only[AD]at hd;cases Dm:e.df with
  |none=>simp only[Dm]at hd;refine GX [] (by have:=hm.rel;simpa[Cx.ext]using this) (by simp[AD,Dm]) (by simpa using hd) hc (λcl h=>by rw[AD]at h;cases h) (λx h=>by rw[Dm]at h;cases h)
  |some x=>simp only[Dm]at hd;have GV:=VQ (by simp[Dm]);refine GX [.bool (L7 a o)] (hm.ext GV _) (by simp[Dm]) (hd _ λhg hb=> ?_) hc (λcl h=>by rw[AD]at h;cases h) (λx h=>rfl);exact EJ c n _ _ _ a _ _ o gs e _ x ⟨hm.rel,hg,λ_ _=>rfl,λt e h=>zFU h,λt h1 h2=>Bo t h1 (Nat.lt_of_lt_of_le h2 (Nat.add_le_add_left (by decide) _))⟩ he Dm hb
 |some cl=>
  simp only[AD]at hd;cases Dm:e.df with
  |some x=>rw[Dm]at hs4;simp[AD]at hs4
  |none=>simp only[Dm]at hd;obtain⟨r,h1,h2⟩:=hd;have GV:=VQ (by simp[AD]);refine GX [r] (hm.ext GV _) (by simp[AD]) h2 hc (λcl' h=>by rw[AD]at h;cases h;exact⟨r,rfl,h1⟩) (λx h=>by rw[Dm]at h;cases h)
theorem zJt{σ:St}{x:E}{b:Bool}{d:Nat}:BX (assume x b d σ)=De σ.sl.length (λi=>assumeS x b (BX σ i)) (some d) (.e (.bool b)):=by
 funext i;simp only[assume,BX,De,Af,List.getElem?_set,List.length_map,List.getElem?_map];by_cases h:d=i
 ·subst h;by_cases h2:d<σ.sl.length
  ·simp[h2]
  ·simp[h2,List.getElem?_eq_none (Nat.le_of_not_lt h2),assumeS]
 ·simp only[h,false_and,if_false];cases hh:σ.sl[i]?<;>simp[assumeS]
theorem zJn{σ:St}{x:E}{b:Bool}{d:Nat}:AQ (assume x b d σ).hp=λt=>(AQ σ.hp t).map (assumeE x b):=by funext t;exact zIC _ _ _
theorem Kz.assume{F:Fix}{c:Cx}{σ:St}{a:Act}{n m:Nat}(h:Kz F c σ a n m){x:E}{b:Bool}(hx:x.den c.ρ= .bool b){d:Nat}(hd:BX σ d= .e x):Kz F c (Go.Proofs.YtlmjpjceiefpoaaGreatDoor.assume x b d σ) a n m:=by
 refine⟨h.w0,h.A,h.Mu,h.nv,?_,h.U,?_⟩
 ·simp only[Go.Proofs.YtlmjpjceiefpoaaGreatDoor.assume,List.length_set,List.length_map];exact h.len
 ·rw[zJt,zJn];have hr:=h.rel.iu hx;refine{hr with ee:=λi=> ?_};unfold De;split
  ·rename_i hi;obtain⟨hi,_⟩:=hi;cases hi;have:=h.rel.ee d;rw[hd]at this;generalize a.tmps.getD d Go.undef=v at this;cases this with
   |e h1 h2 _=>exact .e (f:=[]) (by rw[hx]at h1;rw[JO h1 rfl];exact .bool .nil) (by simp) .nil
  ·exact hr.ee i
theorem zJq(AY:Qn P sg Rt)(EJ:WC P sg){F:Fix}{base:Nat}{R:AV->Prop}{L:LK}{js:List JK}{Q:Exit->Act->World->Prop}{n:Nat}{next:List Log->St->Option Tr}{i:Nat}{o:Oper}{lg:List Log}{rest:List Nat}(hi:ops[i]?=some o)
  (CZ:∀(lg:List Log) (σ:St) (t:Tr),next lg σ=some t-> ∀(c:Cx) (a:Act),Kz F c σ a n (base+B1*(i+1))->t.den Rt R L js c.ρ->(∀(c':Cx) (a':Act) (σ':St),c.ρ<+:c'.ρ->L js .normal σ' c'.ρ->Hs F c'.ρ σ' a' c'.w->Q .normal a' c'.w)->wpOps P ops Q rest a c.w):
  ∀(m:Nat) (σ:St) (t:Tr),WB P sg ops false base next i o lg m σ=some t->
  ∀(c:Cx) (a:Act),Kz F c σ a n (base+B1*i)->t.den Rt R L js c.ρ->(∀(c':Cx) (a':Act) (σ':St),c.ρ<+:c'.ρ->L js .normal σ' c'.ρ->Hs F c'.ρ σ' a' c'.w->Q .normal a' c'.w)->wpOps P ops Q (i::rest) a c.w:=by
 have PV:base+B1*i<=base+B1*(i+1):=by rw[Nat.mul_add];omega
 have try_:∀(fail:Unit->Option Tr) (σ:St) (t:Tr),WG P sg ops false base next i o lg fail σ=some t-> ∀(c:Cx) (a:Act),Kz F c σ a n (base+B1*i)->t.den Rt R L js c.ρ->(∀(c':Cx) (a':Act) (σ':St),c.ρ<+:c'.ρ->L js .normal σ' c'.ρ->Hs F c'.ρ σ' a' c'.w->Q .normal a' c'.w)->
   (fail ()=some t->wpOps P ops Q (i::rest) a c.w)->wpOps P ops Q (i::rest) a c.w:=by
  intro fail σ t ht c a hm hd hq Vl;unfold WG at ht;cases Ib:QU σ ops o with
  |none=>rw[Ib]at ht;cases ht
  |some r=>
   have Ey:=zwN (c:=c) (a:=a) Ib (λj want d _ _=>hm.rel.ee d);rw[Ib]at ht;cases r with
   |none=>simp only at ht;rw[wpOps_cons];unfold wpOp;simp only[hi];rw[if_neg (by simp[show Region.wanted o (yielded ops a.tmps)=false from Ey])];refine CZ lg _ t ht c _ ⟨hm.w0,hm.A,hm.Mu,by rw[zuq];exact hm.nv,by rw[zry];exact hm.len,λt ht=>Nat.lt_of_lt_of_le (hm.U t ht) PV,?_⟩ hd hq;rw[ztE,zt8,hm.len];exact hm.rel.put rM o.dst
   |some gs=>
    simp only at ht;split at ht
    ·rename_i e he;split at ht
     ·cases ht
     ·rename_i AT;split at ht
      ·cases ht
      ·rename_i k hk;simp only[Af]at ht;subst ht;simp only[Bool.false_and,Bool.false_or,Bool.not_false,Bool.true_and,Bool.or_eq_true,Bk,Ac,not_or,Bool.not_eq_false]at AT;rw[wpOps_cons];refine zQa AY EJ hi hm Ey he AT.1 (λhh=> ?_) hd λc' a' hp Dl Ce=>CZ _ _ k hk c' a' Dl Ce λc'' a'' σ' hp'=>hq c'' a'' σ' (hp.trans hp');have:=AT.2;simp only[Bool.or_eq_true]at hh;simpa[hh]using this
    ·exact Vl ht
 intro m
 induction m with
 |zero=>exact λσ t ht c a hm hd hq=>try_ _ σ t ht c a hm hd hq λh=>by cases h
 |succ m ih=>
  intro σ t ht c a hm hd hq;refine try_ _ σ t ht c a hm hd hq λh=> ?_;split at h
  ·rename_i d _ _;split at h
   ·rename_i x Rn;split at h
    ·rename_i k1 k0 Hl nI;simp only[Af]at h;subst h;obtain⟨tt,h1,h2,h3⟩:=hd;cases tt with
     |true=>exact ih _ k1 Hl c a (hm.assume h1 Rn) (h2 rfl) hq
     |false=>exact ih _ k0 nI c a (hm.assume h1 Rn) (h3 rfl) hq
    ·cases h
   ·cases h
  ·cases h
theorem zIQ(AY:Qn P sg Rt)(EJ:WC P sg){F:Fix}{base:Nat}{R:AV->Prop}{L:LK}{js:List JK}{Q:Exit->Act->World->Prop}{n:Nat}:∀(len i:Nat) (lg:List Log) (σ:St) (t:Tr),i+len=ops.size->NK P sg ops false base (List.range' i len) lg σ=some t->
  ∀(c:Cx) (a:Act),Kz F c σ a n (base+B1*i)->t.den Rt R L js c.ρ->(∀(c':Cx) (a':Act) (σ':St),c.ρ<+:c'.ρ->L js .normal σ' c'.ρ->Hs F c'.ρ σ' a' c'.w->Q .normal a' c'.w)->wpOps P ops Q (List.range' i len) a c.w
 |0,i,lg,σ,t,hl,ht,c,a,hm,hd,hq=>by
  simp only[List.range'_zero,NK,Bool.false_and,A7,if_false,Af]at ht ⊢;subst ht;refine hq c a _ (List.prefix_refl _) hd ⟨c,rfl,rfl,hm.w0,hm.A,hm.Mu,hm.nv,λt ht=> ?_,?_⟩
  ·have:=hm.U t ht;have h9:i=ops.size:=by omega
   subst h9;exact this
  ·have:=hm.rel;rw[<-hm.len]at this;exact this
 |len+1,i,lg,σ,t,hl,ht,c,a,hm,hd,hq=>by
  rw[List.range'_succ]at ht ⊢;unfold NK at ht;obtain⟨o,hi⟩:∃o,ops[i]?=some o:=⟨ops[i]'(by omega),by simp[show i<ops.size by omega]⟩
  rw[hi]at ht;simp only at ht;exact zJq AY EJ hi (λlg σ t ht c a=>zIQ AY EJ (n:=n) len (i+1) lg σ t (by omega) ht c a) 4 σ t ht c a hm hd hq
end
def sW(l:List Oper)(bs:List Nat):Prop:=bs.length=l.length/\ ∀(j:Nat) (o:Oper),l[j]?=some o-> ∀i,((bs[j]?).getD 0).testBit i=true-> ∃e∈o.after.toList,Region.binds .any e=true/\(i=e.on\/(e.on<j/\((bs[e.on]?).getD 0).testBit i=true))
theorem zuL(acc:List Nat)(i:Nat):∀(es:List Edge) (s:Nat),(es.foldl (λs e=>if Region.binds .any e then s|||2^e.on|||(acc[e.on]?).getD 0 else s) s).testBit i=true->
  s.testBit i=true\/ ∃e∈es,Region.binds .any e=true/\(i=e.on\/((acc[e.on]?).getD 0).testBit i=true)
 | [],s,h=> .inl h
 |e::es,s,h=>by
  simp only[List.foldl_cons]at h;rcases zuL acc i es _ h with h|⟨e',h1,h2⟩
  ·split at h
   ·rename_i hb;simp only[Nat.testBit_or,Nat.testBit_two_pow,Bool.or_eq_true,AR]at h;rcases h with(h|h)|h
    ·exact .inl h
    ·exact .inr ⟨e,by simp,hb, .inl h.symm⟩
    ·exact .inr ⟨e,by simp,hb, .inr h⟩
   ·exact .inl h
  ·exact .inr ⟨e',by simp[h1],h2⟩
theorem zDq:∀(os pre:List Oper) (acc:List Nat),sW pre acc->sW (pre++os) (LP os acc)
 | [],pre,acc,h=>by simpa[LP]using h
 |o::os,pre,acc,h=>by
  obtain⟨hl,hb⟩:=h;have:=zDq os (pre++ [o]) (acc++ [rC acc o]) ⟨by simp[hl],λj o' ho i hi=> ?_⟩
  ·simpa[LP]using this
  ·have AP:∀k,k<acc.length->((acc++ [rC acc o])[k]?).getD 0=(acc[k]?).getD 0:=λk hk=>by rw[List.getElem?_append_left hk]
   by_cases hj:j<pre.length
   ·rw[List.getElem?_append_left hj]at ho;rw[AP j (by omega)]at hi;obtain⟨e,h1,h2,h3⟩:=hb j o' ho i hi;exact⟨e,h1,h2,h3.imp id λh=>⟨h.1,by rw[AP _ (by omega)];exact h.2⟩⟩
   ·rw[List.getElem?_append_right (by omega)]at ho;have hj0:j-pre.length=0:=by
     cases hh:j-pre.length with
     |zero=>rfl
     |succ k=>rw[hh]at ho;simp at ho
    rw[hj0]at ho;simp at ho;subst ho;have J8:j=acc.length:=by omega
    rw[J8,List.getElem?_append_right (AB _)]at hi;simp only[Nat.sub_self,List.getElem?_cons_zero,Be]at hi;rcases zuL acc i _ 0 hi with h|⟨e,h1,h2,h3⟩
    ·simp at h
    ·refine⟨e,h1,h2,h3.imp id λh=> ?_⟩;have he:e.on<acc.length:=by
      rcases Nat.lt_or_ge e.on acc.length with hh|hh
      ·exact hh
      ·rw[List.getElem?_eq_none hh]at h;simp at h
     exact⟨by omega,by rw[AP _ he];exact h⟩
def Wj(ops:Array Oper)(S:Nat->Bool):Prop:= ∀k o,S k=true->ops[k]?=some o-> ∀e∈o.after.toList,Region.binds .any e=true->S e.on=true
theorem zPF(ops:Array Oper):sW ops.toList (LP ops.toList []):=by have:=zDq ops.toList [] [] ⟨rfl,by simp⟩;simpa using this
theorem zzu{ops:Array Oper}{S:Nat->Bool}(hS:Wj ops S):∀(k i:Nat),S k=true->k<ops.size->(((LP ops.toList [])[k]?).getD 0).testBit i=true->S i=true:=by
 intro k
 induction k using Nat.strongRecOn with
 |_ k ih=>
  intro i hk AP hb;have ho:ops.toList[k]?=some ops[k]:=by simp[AP]
  obtain⟨e,h1,h2,h3⟩:=(zPF ops).2 k _ ho i hb;have VJ:=hS k ops[k] hk (by simp[AP]) e h1 h2;rcases h3 with rfl|⟨h3,h4⟩
  ·exact VJ
  ·exact ih e.on h3 i VJ (by omega) h4
theorem zIN{ops:Array Oper}{S:Nat->Bool}(hS:Wj ops S){j i:Nat}{o:Oper}(ho:ops[j]?=some o)(hr:∀e∈o.after.toList,Region.binds .any e=true->S e.on=true)(hb:(((LP ops.toList [])[j]?).getD 0).testBit i=true):S i=true:=by
 have AP:j<ops.size:=(Array.getElem?_eq_some_iff.1 ho).1;obtain⟨e,h1,h2,h3⟩:=(zPF ops).2 j o (by simpa using ho) i hb;have VJ:=hr e h1 h2;rcases h3 with rfl|⟨h3,h4⟩
 ·exact VJ
 ·exact zzu hS e.on i VJ (by omega) h4
theorem zJw{ops:Array Oper}{S:Nat->Bool}(hS:Wj ops S){j i:Nat}{o:Oper}(ho:ops[j]?=some o)(hi:i<ops.size)(hj:S j=false)(hr:∀e∈o.after.toList,Region.binds .any e=true->S e.on=true)(BU:i≠j)(MF:K8 (LP ops.toList []) i j=true):S i=decide (i<j):=by
 unfold K8 at MF;split at MF
 ·rename_i h;rw[zIN hS ho hr MF];simp[h]
 ·rename_i h;cases hs:S i with
  |false=>simp[h]
  |true=>have:=zzu hS i j hs hi MF;rw[hj]at this;cases this
structure Rec where
 i:Nat
 o:Oper
 σ:St
 r:Option (Gd × Bf)
def Rec.next(x:Rec):St:=match x.r with|none=>Jd x.σ x.o.dst Is|some (gs,e)=>Ni x.σ gs x.o e
def Rec.val(x:Rec):SV:=match x.r with|none=>Is|some (gs,e)=>mkGd gs e.val
def Rec.cx(x:Rec):List (Nat × Ai):=match x.r with|none=> []|some (_,e)=>e.cx
def zQc(P:Program)(sg:BY)(Rt:Nat->List AV->AV->Prop)(ops:Array Oper)(base:Nat)(ρ:List AV)(x:Rec):Prop:=
 ops[x.i]?=some x.o/\match x.r with
  |none=>QU x.σ ops x.o=some none
  |some (gs,e)=>QU x.σ ops x.o=some (some gs)/\NC P sg (BX x.σ) (RP x.σ.hp (YN x.σ gs x.o)) x.σ.nv (base+B1*x.i) gs x.o=some e/\e.df=none/\RF x.σ.nv (base+B1*x.i) x.σ.hp gs e=true/\
   (Bu ρ gs-> ∀q∈e.dn,q.den ρ)/\ ∀cl,e.call=some cl-> ∃r,ρ[x.σ.nv]?=some r/\(Bu ρ gs->JQ Rt cl.fn ((EL.of cl.args).den ρ) ρ r)
def EC:Nat->St->List Rec->St->Prop
 |_,σ,[],σ'=>σ=σ'
 |i,σ,x::xs,σ'=>x.i=i/\x.σ=σ/\EC (i+1) x.next xs σ'
def Rec.log(x:Rec):Option Log:=x.r.map λ(gs,e)=>⟨x.i,YN x.σ gs x.o,e.cx.map (·.1)⟩
theorem zxC{P:Program}{sg:BY}{Rt:Nat->List AV->AV->Prop}{ops:Array Oper}{base:Nat}{R:AV->Prop}{L:LK}{js:List JK}:∀(len i:Nat) (lg:List Log) (σ:St) (t:Tr) (ρ:List AV),i+len=ops.size->
  NK P sg ops true base (List.range' i len) lg σ=some t->t.den Rt R L js ρ->ρ.length=σ.nv->
  ∃(τ:List AV) (xs:List Rec) (σ':St) (lg':List Log),EC i σ xs σ'/\xs.length=len/\(∀x∈xs,zQc P sg Rt ops base (ρ++τ) x)/\(ρ++τ).length=σ'.nv/\L js .normal {σ' with nx:=base+B1*ops.size} (ρ++τ)/\ZU ops lg'=true/\(∀y∈lg,y∈lg')/\ ∀x∈xs,∀y,x.log=some y->y∈lg'
 |0,i,lg,σ,t,ρ,hl,ht,hd,hn=>by
  simp only[List.range'_zero,NK,Bool.true_and]at ht;split at ht
  ·cases ht
  ·rename_i Y8;simp only[Af]at ht;subst ht;exact⟨[],[],σ,lg,rfl,rfl,by simp,by simpa using hn,by simpa[Tr.den]using hd,by simpa using Y8,λy hy=>hy,by simp⟩
 |len+1,i,lg,σ,t,ρ,hl,ht,hd,hn=>by
  rw[List.range'_succ]at ht;unfold NK at ht;obtain⟨o,hi⟩:∃o,ops[i]?=some o:=⟨ops[i]'(by omega),by simp[show i<ops.size by omega]⟩
  rw[hi]at ht;simp only at ht;unfold WB WG at ht;cases Ib:QU σ ops o with
  |none=>rw[Ib]at ht;cases ht
  |some r=>
   rw[Ib]at ht;cases r with
   |none=>
    simp only at ht;obtain⟨τ,xs,σ',lg',h1,h2,h3,h4,h5,h6,h7,h8⟩:=zxC len (i+1) lg _ t ρ (by omega) ht hd (by rw[zuq];exact hn);refine⟨τ,⟨i,o,σ,none⟩::xs,σ',lg',⟨rfl,rfl,h1⟩,by simp[h2],λx hx=> ?_,h4,h5,h6,h7,λx hx y hy=> ?_⟩
    ·rcases Ag.1 hx with rfl|hx
     ·exact⟨hi,Ib⟩
     ·exact h3 x hx
    ·rcases Ag.1 hx with rfl|hx
     ·simp[Rec.log]at hy
     ·exact h8 x hx y hy
   |some gs=>
    simp only at ht;split at ht
    ·rename_i e he;split at ht
     ·cases ht
     ·rename_i AT;simp only[Bool.true_and,Bool.not_true,Bool.false_and,Bool.or_false,Bool.or_eq_true,Bk,not_or,Bool.not_eq_false]at AT;have Dm:e.df=none:=by cases hh:e.df with|none=>rfl|some x=>rw[hh]at AT;simp at AT
      split at ht
      ·cases ht
      ·rename_i k hk;simp only[Af]at ht;subst ht;have Fs:=AT.2;simp only[RF,Ac,Ba]at Fs;obtain⟨⟨⟨⟨BO,Bd⟩,Hp⟩,_⟩,_⟩:=Fs;rw[<-hn]at BO Bd Hp;unfold ZE at hd;obtain⟨hc,hd⟩:=qD hd;simp only[Dm]at hd;obtain⟨τ0,hτ0,Br,Ce⟩:∃τ0:List AV,(ρ++τ0).length=(Ni σ gs o e).nv/\(∀cl,e.call=some cl-> ∃r,τ0=[r]/\(Bu ρ gs->JQ Rt cl.fn ((EL.of cl.args).den ρ) ρ r))/\k.den Rt R L js (ρ++τ0):=by
        cases AD:e.call with
        |none=>rw[AD]at hd;exact⟨[],by rw[qO];simp[AD,Dm,hn],by simp,by simpa using hd⟩
        |some cl=>rw[AD]at hd;obtain⟨r,h1,h2⟩:=hd;exact⟨[r],by rw[qO];simp[AD,hn],λcl' h=>by cases h;exact⟨r,rfl,h1⟩,h2⟩
       obtain⟨τ,xs,σ',lg',h1,h2,h3,h4,h5,h6,h7,h8⟩:=zxC len (i+1) _ _ k (ρ++τ0) (by omega) hk Ce hτ0;have mC:ρ++τ0++τ=ρ++(τ0++τ):=List.append_assoc ..;rw[mC]at h3 h4 h5;refine⟨τ0++τ,⟨i,o,σ,some (gs,e)⟩::xs,σ',lg',⟨rfl,rfl,h1⟩,by simp[h2],λx hx=> ?_,h4,h5,h6,λy hy=>h7 y (by simp[hy]),λx hx y hy=> ?_⟩
       ·rcases Ag.1 hx with rfl|hx
        ·refine⟨hi,Ib,he,Dm,AT.2,λhg q hq=>(Cn.lq (Bd q hq)).2 (hc ((Nk BO).1 hg) q hq),λcl AD=> ?_⟩;obtain⟨r,hr,h2⟩:=Br cl AD;rw[AD]at Hp;simp only[Ac]at Hp;subst hr;exact⟨r,by simp only;rw[<-hn];simp,λhg=>(zzX Hp.1 (EL.l6 (by simpa using Hp.2))).2 (h2 ((Nk BO).1 hg))⟩
        ·exact h3 x hx
       ·rcases Ag.1 hx with rfl|hx
        ·simp only[Rec.log,Option.map_some,Af]at hy;subst hy;exact h7 _ (by simp)
        ·exact h8 x hx y hy
    ·cases ht
def GZ(n:Nat)(sl0:Nat->SV)(xs:List Rec)(S:Nat->Bool):Nat->SV:=xs.foldl (λsl x=>if S x.i then De n sl x.o.dst x.val else sl) sl0
def Ij(hp0:Nat->Option Ai)(xs:List Rec)(S:Nat->Bool):Nat->Option Ai:=xs.foldl (λhp x=>if S x.i then Bq hp x.cx else hp) hp0
section
variable {n:Nat} {S S':Nat->Bool} {d t:Nat}
theorem Yf:∀(xs:List Rec) {sl sl':Nat->SV},sl d=sl' d->(∀x∈xs,x.o.dst=some d->S x.i=S' x.i)->GZ n sl xs S d=GZ n sl' xs S' d
 | [],_,_,h,_=>h
 |x::xs,sl,sl',h,hs=>by
  refine Yf xs (sl:=if S x.i then De n sl x.o.dst x.val else sl) (sl':=if S' x.i then De n sl' x.o.dst x.val else sl') ?_ λy hy=>hs y (by simp[hy]);by_cases hd:x.o.dst=some d
  ·rw[<-hs x (by simp) hd];split
   ·simp only[De,hd,true_and];rw[h]
   ·exact h
  ·have hu:∀sl:Nat->SV,De n sl x.o.dst x.val d=sl d:=λsl=>by simp[De,hd]
   have h1:(if S x.i then De n sl x.o.dst x.val else sl) d=sl d:=by split;exact hu sl;rfl
   have h2:(if S' x.i then De n sl' x.o.dst x.val else sl') d=sl' d:=by split;exact hu sl';rfl
   rw[h1,h2,h]
theorem zz9(xs:List Rec){sl:Nat->SV}(hs:∀x∈xs,x.o.dst=some d->S x.i=false):GZ n sl xs S d=sl d:=by
 have h1:=Yf (n:=n) (S:=S) (S':=λ_=>false) xs (sl:=sl) (sl':=sl) (d:=d) rfl hs;rw[h1];clear h1 hs
 induction xs generalizing sl with
 |nil=>rfl
 |cons x xs ih=>exact ih
theorem sC(hd:n<=d):∀(xs:List Rec) {sl:Nat->SV},GZ n sl xs S d=sl d
 | [],_=>rfl
 |x::xs,sl=>by
  have:=sC hd xs (sl:=if S x.i then De n sl x.o.dst x.val else sl);refine Eq.trans this ?_;split
  ·simp only[De];rw[if_neg (by omega)]
  ·rfl
theorem zMY{y:Rec}(hd:d<n)(hy:y.o.dst=some d)(hS:S y.i=true):∀(xs:List Rec) {sl:Nat->SV},y∈xs->(∀x∈xs,x≠y->x.o.dst≠some d)->GZ n sl xs S d=y.val
 | [],_,h,_=>by simp at h
 |x::xs,sl,h,hu=>by
  by_cases hm:y∈xs
  ·exact zMY hd hy hS xs (sl:=if S x.i then De n sl x.o.dst x.val else sl) hm λz hz=>hu z (by simp[hz])
  ·have hx:y=x:=by rcases Ag.1 h with h|h;exact h;exact absurd h hm
   subst hx;have:=zz9 (n:=n) (S:=S) (d:=d) xs (sl:=De n sl y.o.dst y.val) (λz hz Kg=>absurd Kg (hu z (by simp[hz]) (λhh=>hm (hh▸hz))));show GZ n (if S y.i then De n sl y.o.dst y.val else sl) xs S d=_;rw[if_pos hS,this];simp[De,hy,hd]
theorem zz2{hp hp':Nat->Option Ai}{l:List (Nat × Ai)}(h:hp t=hp' t):Bq hp l t=Bq hp' l t:=by
 induction l generalizing hp hp' with
 |nil=>exact h
 |cons p l ih=>
  refine ih ?_;show(if t=p.1 then some p.2 else hp t)=(if t=p.1 then some p.2 else hp' t)
  rw[h]
theorem zGZ{hp hp':Nat->Option Ai}{l:List (Nat × Ai)}(h:t∈l.map (·.1)):Bq hp l t=Bq hp' l t:=by
 induction l generalizing hp hp' with
 |nil=>simp at h
 |cons p l ih=>
  by_cases hm:t∈l.map (·.1)
  ·exact ih hm
  ·have ht:t=p.1:=by simp only[List.map_cons,Ag]at h;exact h.resolve_right hm
   refine zz2 (l:=l) ?_;show(if t=p.1 then some p.2 else hp t)=(if t=p.1 then some p.2 else hp' t)
   rw[if_pos ht,if_pos ht]
theorem qM{hp:Nat->Option Ai}{l:List (Nat × Ai)}(h:t∉l.map (·.1)):Bq hp l t=hp t:=
 Nj λe he=>h (List.mem_map.2 ⟨_,he,rfl⟩)
theorem Yi:∀(xs:List Rec) {hp hp':Nat->Option Ai},hp t=hp' t->(∀x∈xs,t∈x.cx.map (·.1)->S x.i=S' x.i)->Ij hp xs S t=Ij hp' xs S' t
 | [],_,_,h,_=>h
 |x::xs,hp,hp',h,hs=>by
  refine Yi xs (hp:=if S x.i then Bq hp x.cx else hp) (hp':=if S' x.i then Bq hp' x.cx else hp') ?_ λy hy=>hs y (by simp[hy]);by_cases hd:t∈x.cx.map (·.1)
  ·rw[<-hs x (by simp) hd];split
   ·exact zz2 h
   ·exact h
  ·have h1:(if S x.i then Bq hp x.cx else hp) t=hp t:=by split;exact qM hd;rfl
   have h2:(if S' x.i then Bq hp' x.cx else hp') t=hp' t:=by split;exact qM hd;rfl
   rw[h1,h2,h]
theorem pP(xs:List Rec){hp:Nat->Option Ai}(hs:∀x∈xs,t∈x.cx.map (·.1)->S x.i=false):Ij hp xs S t=hp t:=by
 have h1:=Yi (S:=S) (S':=λ_=>false) xs (hp:=hp) (hp':=hp) (t:=t) rfl hs;rw[h1];clear h1 hs
 induction xs generalizing hp with
 |nil=>rfl
 |cons x xs ih=>exact ih
end
section
variable {n:Nat} {S:Nat->Bool} {d t:Nat}
theorem Rec.mn(x:Rec):BX x.next=De x.σ.sl.length (BX x.σ) x.o.dst x.val:=by
 obtain⟨i,o,σ,r⟩:=x;cases r with
 |none=>exact ztE
 |some ge=>exact zFq
theorem Rec.mf(x:Rec):AQ x.next.hp=Bq (AQ x.σ.hp) x.cx:=by
 obtain⟨i,o,σ,r⟩:=x;cases r with
 |none=>simp only[Rec.next,Rec.cx,zt8];rfl
 |some ge=>exact zFt
theorem Rec.lz(x:Rec):x.next.sl.length=x.σ.sl.length:=by
 obtain⟨i,o,σ,r⟩:=x;cases r with
 |none=>exact zry
 |some ge=>exact zDi
theorem EC.range:∀{xs:List Rec} {i:Nat} {σ σ':St},EC i σ xs σ'-> ∀x∈xs,i<=x.i/\x.i<i+xs.length
 | [],_,_,_,_,x,hx=>by simp at hx
 |y::xs,i,σ,σ',h,x,hx=>by
  rcases Ag.1 hx with rfl|hx
  ·have:=h.1;simp only[AH];omega
  ·have:=EC.range h.2.2 x hx;simp only[AH];omega
theorem EC.ex:∀{xs:List Rec} {i:Nat} {σ σ':St},EC i σ xs σ'-> ∀j,i<=j->j<i+xs.length-> ∃x∈xs,x.i=j
 | [],i,_,_,_,j,h1,h2=>by simp at h2;omega
 |y::xs,i,σ,σ',h,j,h1,h2=>by
  by_cases hj:j=i
  ·exact⟨y,by simp,by rw[hj];exact h.1⟩
  ·simp only[AH]at h2;obtain⟨x,hx,he⟩:=EC.ex h.2.2 j (by omega) (by omega);exact⟨x,by simp[hx],he⟩
theorem EC.inj:∀{xs:List Rec} {i:Nat} {σ σ':St},EC i σ xs σ'-> ∀x∈xs,∀y∈xs,x.i=y.i->x=y
 | [],_,_,_,_,x,hx,_,_,_=>by simp at hx
 |z::xs,i,σ,σ',h,x,hx,y,hy,he=>by
  have hz:=h.1;rcases Ag.1 hx with h1|h1<;>rcases Ag.1 hy with h2|h2
  ·rw[h1,h2]
  ·subst h1;have:=(EC.range h.2.2 y h2).1;omega
  ·subst h2;have:=(EC.range h.2.2 x h1).1;omega
  ·exact EC.inj h.2.2 x h1 y h2 he
theorem EC.sl:∀{xs:List Rec} {i:Nat} {σ σ':St},EC i σ xs σ'->σ.sl.length=n->(∀x∈xs,x.σ.sl.length=n/\ ∀d,BX x.σ d=GZ n (BX σ) xs (λk=>decide (k<x.i)) d)/\σ'.sl.length=n/\BX σ'=GZ n (BX σ) xs λ_=>true
 | [],i,σ,σ',h,hn=>by have h:σ=σ':=h;subst h;exact⟨by simp,hn,rfl⟩
 |y::xs,i,σ,σ',h,hn=>by
  obtain⟨h1,h2,h3⟩:=h;subst h2;obtain⟨q1,q2,q3⟩:=EC.sl h3 (by rw[y.lz];exact hn);rw[y.mn,hn]at q1 q3;refine⟨λx hx=> ?_,q2,q3⟩;rcases Ag.1 hx with rfl|hx
  ·refine⟨hn,λd=>(zz9 _ λz hz _=> ?_).symm⟩;rcases Ag.1 hz with rfl|hz
   ·simp
   ·have:=(EC.range h3 z hz).1;simp only[decide_eq_false_iff_not];omega
  ·refine⟨(q1 x hx).1,λd=> ?_⟩;rw[(q1 x hx).2 d];have:=(EC.range h3 x hx).1;show _=GZ n (if decide (y.i<x.i)then De n (BX y.σ) y.o.dst y.val else BX y.σ) xs (λk=>decide (k<x.i)) d;rw[if_pos (by simp only[AR];omega)]
theorem EC.hp:∀{xs:List Rec} {i:Nat} {σ σ':St},EC i σ xs σ'->(∀x∈xs,∀t,AQ x.σ.hp t=Ij (AQ σ.hp) xs (λk=>decide (k<x.i)) t)/\AQ σ'.hp=Ij (AQ σ.hp) xs λ_=>true
 | [],i,σ,σ',h=>by have h:σ=σ':=h;subst h;exact⟨by simp,rfl⟩
 |y::xs,i,σ,σ',h=>by
  obtain⟨h1,h2,h3⟩:=h;subst h2;obtain⟨q1,q3⟩:=EC.hp h3;rw[y.mf]at q1 q3;refine⟨λx hx=> ?_,q3⟩;rcases Ag.1 hx with rfl|hx
  ·refine λd=>(pP _ λz hz _=> ?_).symm;rcases Ag.1 hz with rfl|hz
   ·simp
   ·have:=(EC.range h3 z hz).1;simp only[decide_eq_false_iff_not];omega
  ·intro t;rw[q1 x hx t];have:=(EC.range h3 x hx).1;show _=Ij (if decide (y.i<x.i)then Bq (AQ y.σ.hp) y.cx else AQ y.σ.hp) xs (λk=>decide (k<x.i)) t;rw[if_pos (by simp only[AR];omega)]
theorem zNd{y:Rec}{oB:Nat->Option Ai}(hS:S y.i=true)(ht:t∈y.cx.map (·.1)):∀{xs:List Rec} {i:Nat} {σ σ':St} {hp0:Nat->Option Ai},EC i σ xs σ'->y∈xs->(∀x∈xs,x.i≠y.i->t∈x.cx.map (·.1)->S x.i=decide (x.i<y.i))->Ij hp0 xs S t=Bq oB y.cx t
 | [],_,_,_,_,_,h,_=>by simp at h
 |x::xs,i,σ,σ',hp0,hc,hm,hs=>by
  by_cases hx:y=x
  ·subst hx;have:=pP (S:=S) (t:=t) xs (hp:=Bq hp0 y.cx) (λz hz Kg=>by
    have AP:=(EC.range hc.2.2 z hz).1;have h1:=hc.1;rw[hs z (by simp[hz]) (by omega) Kg];simp only[decide_eq_false_iff_not];omega)
   show Ij (if S y.i then Bq hp0 y.cx else hp0) xs S t=_;rw[if_pos hS,this];exact zGZ ht
  ·have Dl:y∈xs:=by rcases Ag.1 hm with h|h;exact absurd h hx;exact h
   exact zNd hS ht (hp0:=if S x.i then Bq hp0 x.cx else hp0) hc.2.2 Dl λz hz=>hs z (by simp[hz])
end
theorem zCA{α:Type}{p p':α->Bool}:∀(l:List α),(∀k∈l,p' k=true->p k=true)->(∃j∈l,p j=true/\p' j=false)->(l.filter p').length<(l.filter p).length
 | [],_,h=>by obtain⟨j,hj,_⟩:=h;simp at hj
 |x::l,hs,h=>by
  have hle:(l.filter p').length<=(l.filter p).length:=by
   have:∀(l:List α),(∀k∈l,p' k=true->p k=true)->(l.filter p').length<=(l.filter p).length:=by
    intro l
    induction l with
    |nil=>intro _;simp
    |cons y l ih=>
     intro h;have:=ih λk hk=>h k (by simp[hk]);have hy:=h y (by simp);cases h1:p' y with
     |false=>
      cases h2:p y with
      |false=>simpa[h1,h2]using this
      |true=>simp only[List.filter_cons,h1,h2,A7,if_false,if_true,AH];omega
     |true=>simpa[h1,hy h1]using this
   exact this l λk hk=>hs k (by simp[hk])
  obtain⟨j,hj,h1,h2⟩:=h;rcases Ag.1 hj with rfl|hj
  ·simp only[List.filter_cons,h1,h2,A7,if_false,if_true,AH];omega
  ·have:=zCA l (λk hk=>hs k (by simp[hk])) ⟨j,hj,h1,h2⟩;have hx:=hs x (by simp);cases h3:p' x with
   |false=>
    cases h4:p x with
    |false=>simpa[h3,h4]using this
    |true=>simp only[List.filter_cons,h3,h4,A7,if_false,if_true,AH];omega
   |true=>simpa[h3,hx h3]using this
section
variable {ops:Array Oper} {listed:Array Bool}
theorem zIq(hb:∀j o,ops[j]?=some o-> ∀e∈o.after.toList,Region.binds .any e=true->e.on<j)(BJ:listed.size=ops.size)(hr:Region.ready .any ops listed=[]):∀k,k<ops.size->listed.getD k true=true:=by
 intro k
 induction k using Nat.strongRecOn with
 |_ k ih=>
  intro hk;cases hs:listed.getD k true with
  |true=>rfl
  |false=>
   have:k∈Region.ready .any ops listed:=mem_ready.2 ⟨hs,ops[k],by simp[hk],λe he Ms=>by
    have AP:=hb k ops[k] (by simp[hk]) e (by simpa using he) Ms;have:=ih e.on AP (by omega);have h2:e.on<listed.size:=by omega
    simp only[Array.getD_eq_getD_getElem?,Array.getElem?_eq_getElem h2,Be]at this ⊢;exact this⟩
   rw[hr]at this;cases this
theorem zLx(BJ:listed.size=ops.size){j:Nat}(hj:j<ops.size)(k:Nat):(listed.setIfInBounds j true).getD k true=(decide (k=j)||listed.getD k true):=by
 by_cases h:j=k
 ·subst h;simp[Array.getD_eq_getD_getElem?,show j<listed.size by omega]
 ·rw[getD_set_ne true h];simp[Ne.symm h]
variable {P:Program} {sg:BY} {Rt:Nat->List AV->AV->Prop}
theorem zIY(AY:Qn P sg Rt){F:Fix}{σ σ':St}{xs:List Rec}{ρ:List AV}{lg:List Log}{n:Nat}{Q:Exit->Act->World->Prop}(hc:EC 0 σ xs σ')(hlen:xs.length=ops.size)(A3:∀x∈xs,zQc P sg Rt ops σ.nx ρ x)(Y8:ZU ops lg=true)(Vv:∀x∈xs,∀y,x.log=some y->y∈lg)(hn:σ.sl.length=n)
  (hQ:∀(c:Cx) (a:Act),c.ρ=ρ->c.w0=F.w0->c.A=F.A->c.Mu=F.Mu->(∀t,c.U t->t<σ.nx+B1*ops.size)->Rel c n (BX σ') (AQ σ'.hp) a->Q .normal a c.w):
  ∀(fuel:Nat) (listed:Array Bool) (a:Act) (c:Cx),listed.size=ops.size->Wj ops (λk=>listed.getD k true)->c.ρ=ρ->c.w0=F.w0->c.A=F.A->c.Mu=F.Mu->
   (∀t,c.U t->t<σ.nx\/ ∃k,k<ops.size/\listed.getD k true=true/\σ.nx+B1*k<=t/\t<σ.nx+B1*k+B1)->Rel c n (GZ n (BX σ) xs λk=>listed.getD k true) (Ij (AQ σ.hp) xs λk=>listed.getD k true) a->
   ((List.range ops.size).filter λk=> !listed.getD k true).length<=fuel->wpAny P .any ops Q fuel listed a c.w:=by
 simp only[ZU,Ac,Ba,Bool.or_eq_true,Ay,Bk,AR]at Y8;obtain⟨⟨d1,d2⟩,d3⟩:=Y8;have VB:∀j o,ops[j]?=some o->(o,j)∈ops.toList.zipIdx:=λj o h=>List.mk_mem_zipIdx_iff_getElem?.2 (by simpa using h);have hb:∀j o,ops[j]?=some o-> ∀e∈o.after.toList,Region.binds .any e=true->e.on<j:=λj o h e he Ms=>by
  rcases d2 (o,j) (VB j o h) e he with h|h
  ·rw[Ms]at h;cases h
  ·exact h
 obtain⟨c1,c2,c3⟩:=hc.sl hn;obtain⟨c4,c5⟩:=hc.hp;have EG:∀(listed:Array Bool) (a:Act) (c:Cx),listed.size=ops.size->c.ρ=ρ->c.w0=F.w0->c.A=F.A->c.Mu=F.Mu->
   (∀t,c.U t->t<σ.nx\/ ∃k,k<ops.size/\listed.getD k true=true/\σ.nx+B1*k<=t/\t<σ.nx+B1*k+B1)->Rel c n (GZ n (BX σ) xs λk=>listed.getD k true) (Ij (AQ σ.hp) xs λk=>listed.getD k true) a->
   (∀k,k<ops.size->listed.getD k true=true)->Q .normal a c.w:=by
  intro listed a c BJ h1 h2 h3 h4 h5 h6 Ck;refine hQ c a h1 h2 h3 h4 (λt ht=> ?_) ?_
  ·rcases h5 t ht with h|⟨k,hk,_,_,h⟩
   ·simp only[B1]at*;omega
   ·simp only[B1]at*;omega
  ·have e1:(GZ n (BX σ) xs λk=>listed.getD k true)=BX σ':=by
    rw[c3];funext d;exact Yf xs rfl λx hx _=>by have:=(hc.range x hx).2;exact Ck x.i (by omega)
   have e2:(Ij (AQ σ.hp) xs λk=>listed.getD k true)=AQ σ'.hp:=by rw[c5];funext d;exact Yi xs rfl λx hx _=>by have:=(hc.range x hx).2;exact Ck x.i (by omega)
   rw[e1,e2]at h6;exact h6
 intro fuel
 induction fuel with
 |zero=>
  intro listed a c BJ AD h1 h2 h3 h4 h5 h6 Ve;have Ck:∀k,k<ops.size->listed.getD k true=true:=by intro k hk;have:=List.length_eq_zero_iff.1 (Nat.le_zero.1 Ve);have:=List.filter_eq_nil_iff.1 this k (by simpa using hk);simpa using this
  refine⟨?_,EG listed a c BJ h1 h2 h3 h4 h5 h6 Ck⟩;refine List.eq_nil_iff_forall_not_mem.2 λj hj=> ?_;obtain⟨q1,o,q2,_⟩:=mem_ready.1 hj;rw[Ck j (Array.getElem?_eq_some_iff.1 q2).1]at q1;cases q1
 |succ fuel ih=>
  intro listed a c BJ AD h1 h2 h3 h4 h5 h6 Ve;refine⟨λhr=>EG listed a c BJ h1 h2 h3 h4 h5 h6 (zIq hb BJ hr),λj hj=> ?_⟩;obtain⟨q1,o,q2,q3⟩:=mem_ready.1 hj;have nH:j<ops.size:=(Array.getElem?_eq_some_iff.1 q2).1;have NP:∀e∈o.after.toList,Region.binds .any e=true->listed.getD e.on true=true:=λe he Ms=>by
   have h9:=q3 e (by simpa using he) Ms;have AP:=hb j o q2 e he Ms;have h8:e.on<listed.size:=by omega
   simp only[Array.getD_eq_getD_getElem?,Array.getElem?_eq_getElem h8,Be]at h9 ⊢;exact h9
  obtain⟨y,hy,Ke⟩:=hc.ex j (by omega) (by omega);have P8:y.o=o:=by have:=(A3 y hy).1;rw[Ke,q2]at this;exact(Option.some.inj this).symm
  have Zn:∀x∈xs,x.i<ops.size:=λx hx=>by have:=(hc.range x hx).2;omega
  have hxo:∀x∈xs,ops[x.i]?=some x.o:=λx hx=>(A3 x hx).1;have agree:∀x∈xs,x.i≠j->K8 (LP ops.toList []) x.i j=true->listed.getD x.i true=decide (x.i<j):=λx hx BU ho=>zJw (S:=λk=>listed.getD k true) AD q2 (Zn x hx) q1 NP BU ho;have CL:∀x∈xs,x.i=j->listed.getD x.i true=decide (x.i<j):=λx hx he=>by rw[he,q1];simp
  have IU:∀d,d∈ZV ops o->BX y.σ d=GZ n (BX σ) xs (λk=>listed.getD k true) d:=by
   intro d hd;rw[(c1 y hy).2 d,Ke];refine Yf xs rfl λx hx V2=> ?_;by_cases he:x.i=j
   ·exact(CL x hx he).symm
   ·rcases d3 (o,j) (VB j o q2) (x.o,x.i) (VB _ _ (hxo x hx))with h|h
    ·exact absurd h he
    ·simp only[V2,Ac,Bool.or_eq_true,Bk]at h;rcases h.2 with h|h
     ·rw[List.contains_iff_mem.2 hd]at h;cases h
     ·exact(agree x hx he h).symm
  have hW:∀x∈xs,∀t,t∈x.cx.map (·.1)-> ∀ly,y.log=some ly->(t∈ly.R\/t∈ly.W)->listed.getD x.i true=decide (x.i<j):=by
   intro x hx t ht ly Vx hm;by_cases he:x.i=j
   ·exact CL x hx he
   ·cases oX:x.r with
    |none=>simp[Rec.cx,oX]at ht
    |some ge=>
     obtain⟨gs,e⟩:=ge;have hlx:x.log=some ⟨x.i,YN x.σ gs x.o,e.cx.map (·.1)⟩:=by simp[Rec.log,oX]
     have nP:ly.i=j:=by unfold Rec.log at Vx;obtain⟨ge',_,rfl⟩:=Aw.1 Vx;exact Ke
     have h9:=d1 _ (Vv x hx _ hlx) _ (Vv y hy _ Vx);simp only[nP]at h9;rcases h9 with(h|h)|h
     ·exact absurd h he
     ·exfalso;have:sN (e.cx.map (·.1)) (ly.R++ly.W)=true:=by
       simp only[sN,List.any_eq_true];exact⟨t,by simpa[Rec.cx,oX]using ht,List.contains_iff_mem.2 (by simpa using hm)⟩
      rw[this]at h;cases h
     ·exact agree x hx he h
  have CZ:∀k,(listed.setIfInBounds j true).getD k true=(decide (k=j)||listed.getD k true):=zLx BJ nH;have oM:GZ n (BX σ) xs (λk=>(listed.setIfInBounds j true).getD k true)=De n (GZ n (BX σ) xs λk=>listed.getD k true) o.dst y.val:=by
   funext d;unfold De;split
   ·rename_i hd;refine zMY hd.2 (by rw[P8];exact hd.1) (by rw[CZ,Ke];simp) xs hy λx hx BU V2=> ?_;have he:x.i≠j:=λh=>BU (hc.inj x hx y hy (by rw[h,Ke]));rcases d3 (o,j) (VB j o q2) (x.o,x.i) (VB _ _ (hxo x hx))with h|h
    ·exact he h
    ·simp only[V2,Ac,bne_iff_ne,ne_eq]at h;exact h.1 hd.1
   ·rename_i hd;by_cases Py:d<n
    ·refine Yf xs rfl λx hx V2=> ?_;have he:x.i≠j:=λh=>by
      have:x=y:=hc.inj x hx y hy (by rw[h,Ke]);subst this;exact hd ⟨by rw[<-P8];exact V2,Py⟩
     rw[CZ];simp[he]
    ·rw[sC (by omega),sC (by omega)]
  have nA:Ij (AQ σ.hp) xs (λk=>(listed.setIfInBounds j true).getD k true)=Bq (Ij (AQ σ.hp) xs λk=>listed.getD k true) y.cx:=by
   funext t;by_cases ht:t∈y.cx.map (·.1)
   ·refine zNd (by rw[CZ,Ke];simp) ht hc hy λx hx BU oY=> ?_;rw[Ke]at BU ⊢;rw[CZ];simp only[BU,decide_false,Bool.false_or];cases K5:y.r with
    |none=>simp[Rec.cx,K5]at ht
    |some ge=>exact hW x hx t oY _ (by simp only[Rec.log,K5,Option.map_some];rfl) (.inr (by simpa[Rec.cx,K5]using ht))
   ·rw[qM ht];refine Yi xs rfl λx hx oY=> ?_;have he:x.i≠j:=λh=>by
     have:x=y:=hc.inj x hx y hy (by rw[h,Ke]);subst this;exact ht oY
    rw[CZ];simp[he]
  have Vf:((List.range ops.size).filter λk=> !(listed.setIfInBounds j true).getD k true).length<=fuel:=by have:=zCA (p:=λk=> !listed.getD k true) (p':=λk=> !(listed.setIfInBounds j true).getD k true) (List.range ops.size) (λk _ hk=>by rw[CZ]at hk;simp at hk ⊢;exact hk.2) ⟨j,by simpa using nH,by simp[q1],by rw[CZ];simp⟩;omega
  have mJ:Wj ops (λk=>(listed.setIfInBounds j true).getD k true):=by
   intro k ok hk nK e he Ms;simp only[CZ,Bool.or_eq_true,AR]at hk ⊢;rcases hk with rfl|hk
   ·rw[q2]at nK;cases nK;exact .inr (NP e he Ms)
   ·exact .inr (AD k ok hk nK e he Ms)
  have NS:∀(a':Act) (c':Cx),c'.ρ=ρ->c'.w0=F.w0->c'.A=F.A->c'.Mu=F.Mu->(∀t,c'.U t->c.U t\/(σ.nx+B1*j<=t/\t<σ.nx+B1*j+B1))->Rel c' n (De n (GZ n (BX σ) xs λk=>listed.getD k true) o.dst y.val) (Bq (Ij (AQ σ.hp) xs λk=>listed.getD k true) y.cx) a'->
    wpAny P .any ops Q fuel (listed.setIfInBounds j true) a' c'.w:=by
   intro a' c' g1 g2 g3 g4 g5 g6;refine ih _ a' c' (by simpa using BJ) mJ g1 g2 g3 g4 (λt ht=> ?_) (by rw[oM,nA];exact g6) Vf;rcases g5 t ht with h|h
   ·rcases h5 t h with h|⟨k,k1,k2,k3,k4⟩
    ·exact .inl h
    ·exact .inr ⟨k,k1,by rw[CZ,k2];simp,k3,k4⟩
   ·exact .inr ⟨j,nH,by rw[CZ];simp,h.1,h.2⟩
  have PE:∀j' want d,o.guard=some (j',want)->(ops[j']?).bind (·.dst)=some d->SR c [BX y.σ d] [a.tmps.getD d Go.undef]:=by intro j' want d hg hd;rw[IU d (by simp only[ZV,hg,Ae];exact .inr (by simp[hd]))];exact h6.ee d
  obtain⟨_,DE⟩:=A3 y hy;cases K5:y.r with
  |none=>
   rw[K5]at DE;have Ey:=zwN (c:=c) (a:=a) DE (λj' want d hg hd=>PE j' want d (by rw[<-P8];exact hg) hd);unfold wpOp;simp only[q2];rw[P8]at Ey;rw[if_neg (by simp[show Region.wanted o (yielded ops a.tmps)=false from Ey])];have hv:y.val=Is:=by simp[Rec.val,K5]
   have he:y.cx=[]:=by simp[Rec.cx,K5]
   refine NS _ c h1 h2 h3 h4 (λt ht=> .inl ht) ?_;rw[hv,he];exact h6.put rM o.dst
  |some ge=>
   obtain⟨gs,e⟩:=ge;rw[K5]at DE;simp only at DE;obtain⟨r1,r2,r3,r4,r5,r6⟩:=DE;rw[P8,Ke]at r2;rw[Ke]at r4;rw[P8]at r1;have Ey:=zwN (c:=c) (a:=a) r1 PE;have hv:y.val=mkGd gs e.val:=by simp[Rec.val,K5]
   have he:y.cx=e.cx:=by simp[Rec.cx,K5]
   simp only[RF,Ac,Ba]at r4;obtain⟨_,oK⟩:=r4;have Vx:y.log=some ⟨y.i,YN y.σ gs y.o,e.cx.map (·.1)⟩:=by simp[Rec.log,K5]
   refine zJQ (c:=c) AY q2 h6 Ey (λt ht=>IU t (by simp only[ZV,Ae,List.mem_filterMap];exact .inl ⟨.tmp t,by simpa using ht,rfl⟩)) (λt x hx=> ?_) (λt t1 t2 hU=> ?_) r2 (λBU t x hx=> ?_) (by rw[h1];exact r5) (by rw[h1];exact r6) (λx hx=>by rw[r3]at hx;cases hx) (λa' c' hs hr=> ?_)
   ·unfold RP at hx;split at hx
    ·rename_i hR;rw[(c4 y hy) t]at hx;rw[<-hx];refine Yi xs rfl λz hz hzt=> ?_;rw[Ke];exact hW z hz t hzt _ Vx (.inl (by rw[P8];simpa using hR))
    ·cases hx
   ·rcases h5 t hU with h|⟨k,k1,k2,k3,k4⟩
    ·simp only[B1]at*;omega
    ·have:k≠j:=by rintro rfl;rw[q1]at k2;cases k2
     simp only[B1]at*;omega
   ·have:=oK _ hx;have Vh:gs.isEmpty=false:=by cases gs;exact absurd rfl BU;rfl
    simp only[Vh,Bool.false_or,Bool.false_and,Bool.or_false,Ac,AR]at this;refine⟨this.1.1,this.1.2,?_⟩;have h3:=this.2;split at h3
    ·exact⟨_,_,rfl,h3⟩
    ·cases h3
   ·exact NS a' c' (hs.ρ.trans h1) (hs.w0.trans h2) (hs.A.trans h3) (hs.Mu.trans h4) hs.U (by rw[hv,he];exact hr)
end
theorem Rel.world{c:Cx}{n:Nat}{sl:Nat->SV}{hp:Nat->Option Ai}{a:Act}(h:Rel c n sl hp a)(w:World)(h1:w.heap=c.w.heap)(h2:w.os=c.w.os)(h3:w.tape=c.w.tape)(h4:w.output=c.w.output):Rel {c with w:=w} n sl hp a:=by
 refine h.change (λ_=>False) ⟨rfl,rfl,λ_ _ hb=>hb,λb _ _=>by show w.heap[b]?=_;rw[h1],λ_ _ hk=>⟨hk,rfl⟩,λ_ _ _=>⟨AB _,λ_=>⟨rfl,λb _ _=>by show w.heap[b]?=_;rw[h1]⟩⟩⟩ ⟨h2.trans h.base.os,h3.trans h.base.tape,h4.trans h.base.output,by show _<=w.heap.size;rw[h1];exact h.base.size,h.base.pins,λb hb hm=>by show w.heap[b]?=_;rw[h1];exact h.base.block b hb hm,h.base.pk,h.base.lo⟩ (λt _=>⟨rfl,rfl,rfl,λg hk=>hk⟩) (λt _ b _=>by show w.heap[b]?=_;rw[h1]) (λt ht=>ht.elim)
  ⟨h.gw.nodup,h.gw.dt,h.gw.allow,λt b hb=>by show b<w.heap.size;rw[h1];exact h.gw.inb t b hb⟩ h.de h.dv
theorem zKg{P:Program}{sg:BY}{Rt:Nat->List AV->AV->Prop}(Zc:P.follows .mixedOrders=true)(AY:Qn P sg Rt)(EJ:WC P sg):zGg P sg Rt:=by
 intro id ops draw σ t _ Fs PW ht F R L js ρ a w hL hd hr Q hq;obtain⟨c,rfl,rfl,h1,h2,h3,h4,h5,h6⟩:=hr;rw[List.range_eq_range']at ht;cases draw with
 |false=>refine wp_region ?_;rw[List.range_eq_range'];exact zIQ AY EJ (n:=σ.sl.length) ops.size 0 [] σ t (by omega) ht c a ⟨h1,h2,h3,h4,rfl,by simpa using h5,h6⟩ hd (λc' a' σ' hp hl hrel=>hq [] .normal σ' c'.ρ a' c'.w hp hl hrel)
 |true=>
  refine wp_region_any Zc ?_;obtain⟨τ,xs,σ',lg',g1,g2,g3,g4,g5,g6,_,g8⟩:=zxC ops.size 0 [] σ t c.ρ (by omega) ht hd h4;have mR:=h6.ext (λi=>by rw[h4];exact St.nh Fs i) (λt e he=>by rw[h4];exact St.mv Fs t e he) τ;have hw:=mR.world {c.w with drawn:=c.w.drawn+1} rfl rfl rfl rfl;have H6:∀k,k<ops.size->(Array.replicate ops.size false).getD k true=false:=λk hk=>by simp[Array.getD_eq_getD_getElem?,hk]
  have Zn:∀x∈xs,x.i<ops.size:=λx hx=>by have:=(g1.range x hx).2;omega
  have e1:(GZ σ.sl.length (BX σ) xs λk=>(Array.replicate ops.size false).getD k true)=BX σ:=by funext d;exact zz9 _ λx hx _=>H6 x.i (Zn x hx)
  have e2:(Ij (AQ σ.hp) xs λk=>(Array.replicate ops.size false).getD k true)=AQ σ.hp:=by funext d;exact pP _ λx hx _=>H6 x.i (Zn x hx)
  refine zIY (F:=F) (n:=σ.sl.length) (c:={c.ext τ with w:={c.w with drawn:=c.w.drawn+1}}) AY g1 g2 g3 g6 g8 rfl (λc' a' k1 k2 k3 k4 k5 k6=> ?_) ops.size (Array.replicate ops.size false) a (by simp) (λk o hk ho=> ?_) rfl h1 h2 h3 (λt ht=> .inl (h5 t ht)) (by rw[e1,e2];exact hw) (Nat.le_trans (List.length_filter_le _ _) (by simp))
  ·have hlen:=(g1.sl rfl).2.1;refine hq [] .normal _ c'.ρ a' c'.w (by rw[k1];exact List.prefix_append _ _) (by rw[k1];exact g5) ⟨c',rfl,rfl,k2,k3,k4,by rw[k1];exact g4,k5,?_⟩;show Rel c' σ'.sl.length _ _ a';rw[hlen];exact k6
  ·have:=H6 k (Array.getElem?_eq_some_iff.1 ho).1;have Ce:(Array.replicate ops.size false).getD k true=true:=hk;rw[this]at Ce;cases Ce
section
variable {P:Program} {c:Cx} {n nx:Nat} {sl sl0:Nat->SV} {hp hp0:Nat->Option Ai} {a:Act} {o:Oper} {gs:Gd} {e:Bf} {sg:BY} {nv:Nat}
theorem zCQ(h:BB P c n nx sl hp a sl0 hp0 o gs){op:BinOp}{t el:TypeId}{x y:Operand}{ty:TypeId}(ho:o.op= .binOp op t x y ty)(hu:P.underlying t=some (.slice el)){p:Option Addr}{q r:Nat}(hv:a.eval x= .slice p q r)(r2:SR c [.dg] [a.eval y])
  (AY:op= .eql\/op= .neq) (GQ:c.ρ[nv]?=some (.bool (L7 a o))) (x':Option E) {ck:List Cn}:AJ P o c n nx sl hp gs a {dn:=ck,df:=x',val:= .e (if op= .eql then .var nv else .not (.var nv))}:=by
 have hb:L7 a o=p.isNone:=by simp only[L7,ho,hv];cases p<;>rfl
 rw[hb]at GQ;have ex:=λ(v u:Value) (hv:a.eval x=v) (hu:a.eval y=u)=>Q7 (P:=P) (o:=o) ho c.w hv hu;generalize Dh:a.eval y=v2 at r2;cases r2 with
 |dg _=>
  refine AJ.pure h (v:= .bool (if op= .eql then p.isNone else !p.isNone)) ?_ ?_ rfl
  ·rw[ex _ _ hv Dh,eqGuard_at_slice];rcases AY with rfl|rfl
   ·simp[Go.Lib.run_eql_slice_nil c.w t el p q r 0 0 hu]
   ·simp[binOp,Op.equal,Op.maxDepth,Go.Lib.run_equalIn_slice_nil c.w 9999 t el p q r 0 0 hu]
  ·rcases AY with rfl|rfl
   ·refine .e (f:=[]) ?_ (by simp) .nil;simp only[if_true,E.den,GQ,Be];exact .bool .nil
   ·refine .e (f:=[]) ?_ (by simp) .nil;simp only[reduceCtorEq,if_false,E.den,GQ,Be,AV.ie];exact .bool .nil
end
section
variable {P:Program} {c:Cx} {n nx:Nat} {sl sl0:Nat->SV} {hp hp0:Nat->Option Ai} {a:Act} {o:Oper} {gs:Gd} {e:Bf} {sg:BY} {nv:Nat}
theorem Yt{hp:Nat->Option Ai}{gs:Gd}{m:Nat}{cs:BS}{x:E}(h:BI hp gs m (.agg cs)=some x):∃k l,m=k+1/\CY hp gs k cs.toList=some l/\x= .mk l:=by
 cases m with
 |zero=>simp[BI]at h
 |succ m=>simp only[BI,Aw]at h;obtain⟨l,h1,h2⟩:=h;exact⟨m,l,rfl,h1,h2.symm⟩
theorem L8{hp:Nat->Option Ai}{gs:Gd}{m:Nat}{y x:E}(h:BI hp gs m (.e y)=some x):x=y:=by
 cases m with
 |zero=>simp[BI]at h
 |succ m=>simp[BI]at h;exact h.symm
theorem Ng{hp:Nat->Option Ai}{gs:Gd}{m:Nat}{x:E}(h:BI hp gs m .dg=some x):x= .lst .nil:=by
 cases m with
 |zero=>simp[BI]at h
 |succ m=>simp[BI]at h;exact h.symm
theorem LZ{hp:Nat->Option Ai}{gs:Gd}{m:Nat}{s:SV}{ss:List SV}{x:EL}(h:CY hp gs m (s::ss)=some x):∃k y l,m=k+1/\BI hp gs k s=some y/\CY hp gs k ss=some l/\x= .cons y l:=by
 cases m with
 |zero=>simp[CY]at h
 |succ m=>
  simp only[CY]at h;split at h
  ·rename_i y l h1 h2;simp at h;exact⟨m,y,l,rfl,h1,h2,h.symm⟩
  ·cases h
theorem TU{hp:Nat->Option Ai}{gs:Gd}{ρ:List AV}{w:World}:∀(vs:List Value) (ss:List SV) (m:Nat) (x:EL),F1.go vs=some ss->CY hp gs m ss=some x->Rd w vs (x.den ρ) []
 | [],ss,m,x,h,hx=>by
  simp[F1.go]at h;subst h;cases m with
  |zero=>simp[CY]at hx
  |succ m=>simp[CY]at hx;subst hx;exact .nil
 |v::vs,ss,m,x,h,hx=>by
  unfold F1.go at h;split at h
  ·rename_i hh;cases hh
  ·rename_i k q l hh;cases hh;split at h
   ·rename_i hk;obtain⟨l',h1,rfl⟩:=Aw.1 h;obtain⟨j,y,l2,rfl,h2,h3,rfl⟩:=LZ hx;rw[L8 h2];exact .int hk (TU _ _ _ _ h1 h3)
   ·cases h
  ·rename_i q l hh;cases hh;obtain⟨l',h1,rfl⟩:=Aw.1 h;obtain⟨j,y,l2,rfl,h2,h3,rfl⟩:=LZ hx;rw[L8 h2];exact .bool (TU _ _ _ _ h1 h3)
  ·rename_i q l hh;cases hh;split at h
   ·rename_i hk;obtain⟨l',h1,rfl⟩:=Aw.1 h;obtain⟨j,y,l2,rfl,h2,h3,rfl⟩:=LZ hx;rw[L8 h2];exact .str hk (TU _ _ _ _ h1 h3)
   ·cases h
  ·rename_i l hh;cases hh;obtain⟨l',h1,rfl⟩:=Aw.1 h;obtain⟨j,y,l2,rfl,h2,h3,rfl⟩:=LZ hx;rw[Ng h2];exact .gk (TU _ _ _ _ h1 h3)
  ·rename_i l hh;cases hh;obtain⟨l',h1,rfl⟩:=Aw.1 h;obtain⟨j,y,l2,rfl,h2,h3,rfl⟩:=LZ hx;rw[L8 h2];exact .fu (TU _ _ _ _ h1 h3)
  ·cases h
theorem zwA{hp:Nat->Option Ai}{gs:Gd}{ρ:List AV}{w:World}{v:Value}{s:SV}{m:Nat}{x:E}(h:F1 v=some s)(hx:BI hp gs m s=some x):
  Rd w v.cells.toList (x.den ρ).cells []/\(∀u∈v.cells.toList,u.oneCell'=true):=by
 have one:∀{v:Value} {y:AV},Rd w [v] [y] []->(∀cs,y≠ .agg cs)->(∀cs,y≠ .tup cs)->Rd w v.cells.toList y.cells []/\(∀u∈v.cells.toList,u.oneCell'=true):=by
  intro v y hr h1 h2;have h3:=zrW hr h1 h2;have h4:y.cells=[y]:=by cases y<;>first|rfl|exact absurd rfl (h1 _)
  rw[one_cells h3,h4];exact⟨by simpa using hr,by simpa using h3⟩
 unfold F1 at h;split at h
 ·split at h
  ·rename_i hk;simp at h;subst h;rw[L8 hx];exact one (.int hk .nil) (by simp[E.den]) (by simp[E.den])
  ·cases h
 ·simp at h;subst h;rw[L8 hx];exact one (.bool .nil) (by simp[E.den]) (by simp[E.den])
 ·split at h
  ·rename_i hk;simp at h;subst h;rw[L8 hx];exact one (.str hk .nil) (by simp[E.den]) (by simp[E.den])
  ·cases h
 ·simp at h;subst h;rw[Ng hx];exact one (.gk .nil) (by simp[E.den]) (by simp[E.den])
 ·simp at h;subst h;rw[L8 hx];exact one (.fu .nil) (by simp[E.den]) (by simp[E.den])
 ·rename_i cs;simp only[Option.bind_eq_bind,AA,Af]at h;obtain⟨l,hl,rfl⟩:=h;obtain⟨k,l',rfl,h1,rfl⟩:=Yt hx;rw[BS.ax]at h1;exact⟨TU _ _ _ _ hl h1,zr1 _ _ hl⟩
 ·cases h
theorem zMX{w:World}{vs:List Value}{x:AV}(h:Rd w vs x.cells []):∀k,Rd w (List.replicate k vs).flatten (Az (List.replicate k x)) []
 |0=> .nil
 |k+1=>by simp only[List.replicate_succ,List.flatten_cons,Az,List.flatMap_cons];have:=h.app (zMX h k);simpa[Az]using this
theorem zO(z:Array Value)(hz:0<z.size):∀k,(madeCells z (k*z.size)).toList=(List.replicate k z.toList).flatten
 |0=>by simp[madeCells]
 |k+1=>by
  have ih:=zO z hz k;simp only[madeCells,Array.toList_map,Array.toList_range]at ih ⊢;rw[Nat.add_mul,Nat.one_mul,List.range_add,List.map_append,ih,List.replicate_succ',List.flatten_append];congr 1;simp only[List.map_map,List.flatten_cons,List.flatten_nil,AG];apply List.ext_getElem?;intro i;simp only[List.getElem?_map,List.getElem?_range'];by_cases hi:i<z.size
  ·simp only[List.getElem?_range hi,Option.map_some,Function.comp_apply];have:(k*z.size+i) % z.size=i:=by rw[Nat.add_comm,Nat.add_mul_mod_self_right,Nat.mod_eq_of_lt hi]
   simp[this,hi]
  ·rw[List.getElem?_eq_none (by simpa using hi),List.getElem?_eq_none (by simpa using hi)];rfl
theorem zHm(h:BB P c n nx sl hp a sl0 hp0 o gs){t:TypeId}{l m:Operand}(ho:o.op= .makeSlice t l m){s1 s2:SV}(BO:BW sl0 gs l=some s1)(Bd:BW sl0 gs m=some s2)(he:rL P hp0 gs nx t s1 s2=some e)(hc:∀q∈e.dn,Cn.den c.ρ q):AJ P o c n nx sl hp gs a e:=by
 have DL:l∈o.op.operands:=by simp[ho,Op.operands]
 have C7:m∈o.op.operands:=by simp[ho,Op.operands]
 unfold rL at he;split at he
 ·rename_i el x y BK;have BK:=LY BK;split at he
  ·cases he
  rename_i hz;have hz:Jh P el=true:=by simpa using hz
  obtain⟨i,z,hi,Hk,DA,BJ,CI,FD⟩:=Nd hz;have r1:=h.dy BO DL;have r2:=h.dy Bd C7;have ival:∀{x:E} {kk:IntKind} {k:Int} {v:Value},SR c [.e x] [v]->x.den c.ρ= .int kk k->v= .int kk k:=by
   intro x kk k v hr hx;cases hr with
   |e h1 _ _=>exact(Hd h1 hx).1
  split at he
  ·rename_i GY;split at he
   ·rename_i s hs;have hs:F1 z=some s:=by simpa[hi,Hk]using hs
    obtain⟨w,hw,rfl⟩:=Aw.1 he;obtain⟨kk,k,hk,h0,hb,hle⟩:Cn.den c.ρ (.mkroom x (P.bytesOf el)):=Cl hc;have Fu:=ival r1 hk;have Dh:=ival r2 (by rw[<-E.bb c.ρ _ _ GY];exact hk);obtain⟨c1,c2⟩:=zwA (w:=c.w) (ρ:=c.ρ) hs hw;obtain⟨kn,rfl⟩:=Int.eq_ofNat_of_zero_le h0;have Ep:(i.bytes:Int)*(kn:Int)<=281474976710656:=by rw[FD]at hb;rw[Int.mul_comm];omega
    have hlen:=c1.len;have PN:=zO z.cells (by omega) kn;have A6:=run_make (P:=P) c.w t el i z BK hi Hk kk kk kn kn (by omega) (Int.le_refl _) Ep (by omega);have FW:(madeCells z.cells (kn*z.cells.size)).size=kn*P.cellsOf el:=by rw[size_madeCells,DA,CI]
    have B4:(madeCells z.cells (kn*z.cells.size)).toList.take ((List.replicate kn (w.den c.ρ)).length*P.cellsOf el)=(List.replicate kn z.cells.toList).flatten:=by rw[List.length_replicate,List.take_of_length_le (by rw[BF,FW];exact AB _),PN]
    refine AJ.newRow (xs:=List.replicate kn (w.den c.ρ)) (N:=[]) (C:=madeCells z.cells (kn*z.cells.size)) (cap:=kn) (wd:=c.w) (fz:=[]) (ts:=[]) h rfl ⟨rfl,rfl,rfl,rfl⟩ ?_ ?_ (by omega) (λu hu=> ?_) (by simp) (by simp only[maxLen];omega) FW ?_ ?_ (by simp) (λ_=>rfl)
    ·simp only[execOp,ho,Fu,Dh,Sem.run_bind,Int.ofNat_eq_natCast,List.length_replicate];rw[A6,DA];rfl
    ·simp[E.den,hk,AV.rep]
    ·rw[List.eq_of_mem_replicate hu,<-hlen,BF,DA,CI]
    ·rw[B4];intro u hu;obtain⟨q,hq,hu⟩:=List.mem_flatten.1 hu;rw[List.eq_of_mem_replicate hq]at hu;exact c2 u hu
    ·rw[B4];exact zMX c1 kn
   ·cases he
  ·split at he
   ·rename_i k0 _;simp only[Af]at he;subst he;obtain⟨kk,k,hk,h0,hb,hle⟩:Cn.den c.ρ (.mkroom y (P.bytesOf el)):=Cl hc;have Fu:=ival r1 (show(E.int k0 0).den c.ρ= .int k0 0 from rfl);have Dh:=ival r2 hk;obtain⟨kn,rfl⟩:=Int.eq_ofNat_of_zero_le h0;have Ep:(i.bytes:Int)*(kn:Int)<=281474976710656:=by
     rw[FD]at hb;rw[Int.mul_comm];omega
    have A6:=run_make (P:=P) c.w t el i z BK hi Hk k0 kk 0 kn (by omega) (by omega) Ep (by omega);refine AJ.newRow (xs:=[]) (N:=[]) (C:=madeCells z.cells (kn*i.size)) (cap:=kn) (wd:=c.w) (fz:=[]) (ts:=[]) h rfl ⟨rfl,rfl,rfl,rfl⟩ ?_ rfl (by omega) (by simp) (by simp) (by simp only[maxLen];omega) (by rw[size_madeCells,CI]) (by simp) (by simpa[Az]using Rd.nil) (by simp) (λ_=>rfl);simp only[execOp,ho,Fu,Dh,Sem.run_bind,Int.ofNat_eq_natCast];rw[A6];rfl
   ·cases he
 ·cases he
end
section
variable {P:Program} {c:Cx} {n nx:Nat} {sl sl0:Nat->SV} {hp hp0:Nat->Option Ai} {a:Act} {o:Oper} {gs:Gd} {e:Bf} {sg:BY} {nv:Nat}
def Ul(v:Option Value)(k d:Nat):Prop:=(v=none/\k=d)\/ ∃kk,v=some (.int kk (k:Int))
theorem xV{w:World}{t el:TypeId}(hu:P.underlying t=some (.slice el))(BC:DV P el=true)(p:Option Addr)(m r l h:Nat){lo hi:Option Value}(B7:Ul lo l 0)(PG:Ul hi h m)(h1:l<=h)(h2:h<=m)(h3:m<=r):
  (Instr.sliceAt t (.slice p m r) lo hi none).run P w= .ok (sliced p l h r (P.cellsOf el)) w:=by
 have Ga:P.underlying t=some (.slice (P.elem t)):=by simp[Program.elem,hu]
 have he:P.elem t=el:=by simp[Program.elem,hu]
 have hs:(sizeOf (P.elem t)).run P w= .ok (P.cellsOf el) w:=by rw[he];exact QP BC w
 rw[run_sliceAt_slice w t _ _ _ _ Ga];rcases B7 with⟨rfl,rfl⟩|⟨kl,rfl⟩<;>rcases PG with⟨rfl,rfl⟩|⟨kh,rfl⟩
 ·rw[run_slice_all w t p h r Ga,hs];rfl
 ·rw[run_slice_h w t p m r Ga kh _ (by omega) (by omega),hs];rfl
 ·rw[run_slice_l w t p h r Ga kl _ (by omega) (by omega),hs];rfl
 ·rw[run_slice_lh w t p m r Ga kl kh _ _ (by omega) (by omega) (by omega),hs];rfl
theorem zD0(s:ByteArray)(a b:Nat):(s.extract a b).data.toList=(s.data.toList.drop a).take (b-a):=by rw[ByteArray.data_extract,Array.toList_extract,List.extract_eq_take_drop]
theorem zw1{w:World}{t:TypeId}(hu:P.underlying t=some .string)(s:ByteArray)(l h:Nat){lo hi:Option Value}(B7:Ul lo l 0)(PG:Ul hi h s.size)(h1:l<=h)(h2:h<=s.size):
  (Instr.sliceAt t (.string s) lo hi none).run P w= .ok (.string (s.extract l h)) w:=by
 rw[run_sliceAt_string w t _ _ _ _ hu];rcases B7 with⟨rfl,rfl⟩|⟨kl,rfl⟩<;>rcases PG with⟨rfl,rfl⟩|⟨kh,rfl⟩
 ·rw[run_slice_string_all w t s hu]
 ·rw[run_slice_string_h w t s hu kh _ (by omega) (by omega)];rfl
 ·rw[run_slice_string_l w t s hu kl _ (by omega) (by omega)];rfl
 ·rw[run_slice_string w t s kl kh _ _ hu (by omega) (by omega) (by omega)];rfl
theorem zHB{sz:Nat}(ys:List AV)(hs:∀y∈ys,y.cells.length=sz)(l h:Nat)(hl:l<=h)(hh:h<=ys.length):((Az ys).drop (l*sz)).take ((h-l)*sz)=Az ((ys.take h).drop l):=by
 have e:ys=ys.take l++((ys.take h).drop l++ys.drop h):=by
  rw[<-List.append_assoc];have:ys.take l++(ys.take h).drop l=ys.take h:=by
   have h2:ys.take l=(ys.take h).take l:=by rw[List.take_take,Nat.min_eq_left hl]
   rw[h2,B6]
  rw[this,B6]
 have f1:Az ys=Az (ys.take l)++(Az ((ys.take h).drop l)++Az (ys.drop h)):=by
  conv=>lhs;rw[e]
  simp[Az]
 have l1:(Az (ys.take l)).length=l*sz:=by rw[Lf _ (λy hy=>hs y (BD hy)),AE,Nat.min_eq_left (by omega)]
 have l2:(Az ((ys.take h).drop l)).length=(h-l)*sz:=by rw[Lf _ (λy hy=>hs y (BD (BR hy))),Bn,AE,Nat.min_eq_left (by omega)]
 rw[f1,<-l1,List.drop_left,<-l2,List.take_left]
theorem zPQ{w:World}{v:Value}{ys:List AV}{f:List Nat}{sz:Nat}(hr:Rd w [v] [.sl ys] f)(hs:∀y∈ys,y.cells.length=sz)(l h:Nat)(hl:l<=h)(hh:h<=ys.length):
  ∃p r g,v= .slice p ys.length r/\ys.length<=r/\Rd w [sliced p l h r sz] [.sl ((ys.take h).drop l)] g/\ ∀b∈g,b∈f:=by
 cases hr with
 |gk _=>
  rename_i p r;have hh:h=0:=by simpa using hh
  subst hh;have hl:l=0:=by omega
  subst hl;exact⟨_,_,[],rfl,Nat.zero_le _,by simpa[sliced]using Rd.gk .nil,by simp⟩
 |scons hb h1 h2 h3 h4 h5 h6 HZ h7 h8=>
  rename_i b o m r cs C t fz sz' f1 f2;have hy:∃y,y∈ys:=by cases ys with|nil=>simp at h3;omega|cons y _=>exact⟨y,by simp⟩
  obtain⟨y0,I0⟩:=hy;have GV:sz'=sz:=(h4 y0 I0).symm.trans (hs y0 I0);subst GV;subst h3;refine⟨some ⟨b,o,none⟩,r,?_⟩;rcases Nat.eq_or_lt_of_le hl with he|AP
  ·subst he;refine⟨[],rfl,h2.2,?_,by simp⟩;have:(ys.take l).drop l=[]:=List.drop_eq_nil_of_le (by simp;omega);rw[this];simp only[sliced,Nat.sub_self];exact .gk .nil
  ·have Ci:=h7.len;obtain⟨g,hg,DX⟩:=h7.piece (l*sz') ((h-l)*sz');rw[zHB ys h4 l h hl hh]at DX;refine⟨b::(g++ []),rfl,h2.2,?_,λx hx=> ?_⟩
   ·have Dw:sliced (some (⟨b,o,none⟩:Addr)) l h r sz'= .slice (some ⟨b,o+l*sz',none⟩) (h-l) (r-l):=by
     unfold sliced;split
     ·exfalso;omega
     ·simp[Addr.add_lit]
    rw[Dw];refine Rd.scons (cs:=(cs.drop (l*sz')).take ((h-l)*sz')) hb (by omega) ⟨by omega,by omega⟩ (by simp;omega) (λy hy=>h4 y (BD (BR hy))) h5 (λj u hu=> ?_) (λu hu=>HZ u (BR (BD hu))) DX .nil;rw[List.getElem?_take]at hu;split at hu
    ·rw[List.getElem?_drop]at hu;have:=h6 _ _ hu;rw[<-this];congr 1;omega
    ·cases hu
   ·simp only[AG,Ag]at hx;rcases hx with rfl|hx
    ·simp
    ·have:=hg x hx;simp[this]
theorem Lg{f:Operand->Option SV}{x:Option Operand}{r:Option SV}(h:Jk f x=some r):(x=none/\r=none)\/ ∃y z,x=some y/\f y=some z/\r=some z:=by
 cases x with
 |none=>simp[Jk]at h;exact .inl ⟨rfl,h.symm⟩
 |some y=>obtain⟨z,hz,rfl⟩:=Aw.1 h;exact .inr ⟨y,z,rfl,hz,rfl⟩
theorem jV{s:Option SV}{d l:E}(h:Oy s d=some l):(s=none/\l=d)\/s=some (.e l):=by
 unfold Oy at h;split at h
 ·simp at h;exact .inl ⟨rfl,h.symm⟩
 ·simp at h;subst h;exact .inr rfl
 ·cases h
theorem zEr(h:BB P c n nx sl hp a sl0 hp0 o gs){t:TypeId}{x:Operand}{lo hi mx:Option Operand}(ho:o.op= .slice t x lo hi mx){s:SV}(hs:BW sl0 gs x=some s){l' h' m':Option SV}(BP:Jk (BW sl0 gs) lo=some l')(LF:Jk (BW sl0 gs) hi=some h')(Dl:Jk (BW sl0 gs) mx=some m')(he:pQ P hp0 gs t s l' h' m'=some e)(hc:∀q∈e.dn,Cn.den c.ρ q):AJ P o c n nx sl hp gs a e:=by
 have hm:x∈o.op.operands:=by simp[ho,Op.operands]
 have PO:∀y,lo=some y->y∈o.op.operands:=λy hy=>by simp[ho,Op.operands,hy]
 have MB:∀y,hi=some y->y∈o.op.operands:=λy hy=>by simp[ho,Op.operands,hy]
 have nS:∀y,mx=some y->y∈o.op.operands:=λy hy=>by simp[ho,Op.operands,hy]
 have hx:=h.dy hs hm;have ival:∀{x:E} {kk:IntKind} {k:Int} {v:Value},SR c [.e x] [v]->x.den c.ρ= .int kk k->v= .int kk k:=by
  intro x kk k v hr hx;cases hr with
  |e h1 _ _=>exact(Hd h1 hx).1
 unfold pQ at he;split at he
 ·cases he
 rename_i y hy;obtain⟨f,q1,q2⟩:=h.l7 hs hm hy;have ex:(execOp a.eval o).run P c.w=((Instr.sliceAt t (a.eval x) (lo.map a.eval) (hi.map a.eval) (mx.map a.eval)).run P c.w).andThen λv w=> .ok (.value v) w:=by simp[execOp,ho]
 split at he
 ·split at he
  ·rename_i el _ _ hu;split at he
   ·rename_i BC;simp only[Af]at he;subst he;have hd:(y.den c.ρ).len≠ .undef:=Cl hc;cases BQ:y.den c.ρ<;>simp only[BQ,AV.len,ne_eq,not_true_eq_false]at hd;rename_i xs;have hl:(y.den c.ρ).len= .int .i64 (xs.length:Int):=by rw[BQ];rfl
    obtain⟨p,q,r,hv⟩:∃p q r,a.eval x= .slice p q r:=by
     rcases Ue q1 hl with⟨p,q,hv,CF⟩|⟨b,o',k,q,hv,CF⟩
     ·exact⟨_,_,_,hv⟩
     ·exact⟨_,_,_,hv⟩
    rcases Lg BP with⟨rfl,_⟩|⟨_,_,_,_,hh⟩
    ·rcases Lg LF with⟨_,hh⟩|⟨oh,sh,rfl,hsh,hh⟩
     ·cases hh
     ·cases hh;rcases Lg Dl with⟨_,hh⟩|⟨om,sm,rfl,oN,hh⟩
      ·cases hh
      ·cases hh;have v1:=(λ{kk:IntKind} (hr:SR c [.e (.int kk 0)] [a.eval oh])=>ival hr (show(E.int kk 0).den c.ρ= .int kk 0 from by simp only[E.den])) (h.dy hsh (MB _ rfl))
       have v2:=(λ{kk:IntKind} (hr:SR c [.e (.int kk 0)] [a.eval om])=>ival hr (show(E.int kk 0).den c.ρ= .int kk 0 from by simp only[E.den])) (h.dy oN (nS _ rfl))
       have Ga:P.underlying t=some (.slice (P.elem t)):=by simp[Program.elem,hu]
       have BK:P.elem t=el:=by simp[Program.elem,hu]
       refine AJ.pure h (v:= .slice p 0 0) ?_ (.emp .nil) rfl;rw[ex,hv];simp only[Option.map_none,Option.map_some,v1,v2];rw[run_sliceAt_slice c.w t _ _ _ _ Ga,run_slice_hm c.w t p q r Ga _ _ 0 0 (by omega) (by omega) (by omega),BK,QP BC];simp[sliced]
    ·cases hh
   ·cases he
  ·cases he
 ·have PQ:mx=none:=by
   rcases Lg Dl with⟨hh,_⟩|⟨_,_,_,_,hh⟩
   ·exact hh
   ·cases hh
  subst PQ;have blo:∀(l:E) (kk:IntKind) (k:Nat),Oy l' (.int .i64 0)=some l->l.den c.ρ= .int kk k->Ul (lo.map a.eval) k 0:=by
   intro l kk k hl hk;rcases Lg BP with⟨rfl,rfl⟩|⟨ol,sl',rfl,Dw,rfl⟩
   ·rcases jV hl with⟨_,rfl⟩|hh
    ·simp only[E.den,AV.int.injEq]at hk;exact .inl ⟨rfl,by omega⟩
    ·cases hh
   ·rcases jV hl with⟨hh,_⟩|hh
    ·cases hh
    ·cases hh;exact .inr ⟨kk,by rw[Option.map_some,ival (h.dy Dw (PO _ rfl)) hk]⟩
  have bhi:∀(d l:E) (kk:IntKind) (k m:Nat),Oy h' d=some l->l.den c.ρ= .int kk k->d.den c.ρ= .int .i64 (m:Int)->Ul (hi.map a.eval) k m:=by
   intro d l kk k m hl hk hd;rcases Lg LF with⟨rfl,rfl⟩|⟨ol,sl',rfl,Dw,rfl⟩
   ·rcases jV hl with⟨_,rfl⟩|hh
    ·rw[hd]at hk;simp only[AV.int.injEq]at hk;exact .inl ⟨rfl,by omega⟩
    ·cases hh
   ·rcases jV hl with⟨hh,_⟩|hh
    ·cases hh
    ·cases hh;exact .inr ⟨kk,by rw[Option.map_some,ival (h.dy Dw (MB _ rfl)) hk]⟩
  split at he
  ·rename_i hu;split at he
   ·rename_i l hb q KR PF;simp only[Af]at he;subst he;obtain⟨ka,ai,kb,bi,bs,d1,d2,d3,d4,d5,d6⟩:Cn.den c.ρ (.winS y l hb):=Cl hc;obtain⟨an,rfl⟩:=Int.eq_ofNat_of_zero_le d4;obtain⟨bn,rfl⟩:=Int.eq_ofNat_of_zero_le (Int.le_trans d4 d5);obtain⟨ss,hv,rfl,hle⟩:=UL q1 d3;have BJ:ss.data.toList.length=ss.size:=by simp
    have A6:=zw1 (P:=P) (w:=c.w) hu ss an bn (blo l ka an KR d1) (bhi (.slen y) hb kb bn ss.size PF d2 (by simp only[E.den,d3,AV.slen];simp)) (by omega) (by omega);refine AJ.pure h (v:= .string (ss.extract an bn)) ?_ (.ed ?_) rfl
    ·rw[ex,hv,Option.map_none,A6];rfl
    ·simp only[E.den,d1,d2,d3,AV.swin];have:(List.take (bn:Int).toNat ss.data.toList).drop (an:Int).toNat=(ss.extract an bn).data.toList:=by
      simp[zD0,List.drop_take]
     rw[this];exact .str (by simp only[ByteArray.size_extract];omega) .nil
   ·cases he
  ·rename_i el hu;split at he
   ·cases he
   rename_i BC;have BC:DV P el=true:=by simpa using BC
   split at he
   ·rename_i l hb fz KR PF IT;simp only[Af]at he;subst he;have BE:Cn.den c.ρ (.issl y (P.cellsOf el)):=Cl hc;obtain⟨ys,DF,Kd⟩:=BE;obtain⟨ka,ai,kb,bi,m,d1,d2,d3,d4,d5,d6⟩:Cn.den c.ρ (.win y l hb):=hc _ (by simp);obtain⟨an,rfl⟩:=Int.eq_ofNat_of_zero_le d4;obtain⟨bn,rfl⟩:=Int.eq_ofNat_of_zero_le (Int.le_trans d4 d5);rw[DF]at q1;have hm9:(m:Int)=ys.length:=by rw[DF]at d3;simpa[AV.len]using d3.symm
    split at IT
    ·rename_i JC;obtain⟨p,r,g,hv,hr,DX,hg⟩:=zPQ q1 Kd an bn (by omega) (by omega);have A6:=xV (P:=P) (w:=c.w) hu BC p ys.length r an bn (blo l ka an KR d1) (bhi (.len y) hb kb bn ys.length PF d2 (by simp only[E.den,DF,AV.len])) (by omega) (by omega) hr;intro next Q hk
     unfold Oper.wp;rw[ex,hv,Option.map_none,A6];show Oper.upon P o a next Q (.ok (.value _) c.w)
     rw[Oper.upon_value];have hrel:=h.rel.freeze h.hp h.gs IT;have A3:∀b∈g,(c.da (fz.map (·.1))).ok b:=λb hb=>X5 h.rel h.eh h.gs IT JC (q2 b (hg b hb));refine hk _ (c.da (fz.map (·.1))) ⟨rfl,rfl,rfl,rfl,λt ht=> .inl ht⟩ (hrel.put (SR.mkGd (.e (f:=g) ?_ A3 .nil) gs h.gs) o.dst);show Rd c.w _ [(E.win y l hb).den c.ρ] g;simp only[E.den,d1,d2,DF,AV.win,Int.ofNat_eq_natCast,Bl];exact DX
    ·cases IT
   ·cases he
  ·cases he
end
section
variable {P:Program} {c:Cx} {n nx:Nat} {sl sl0:Nat->SV} {hp hp0:Nat->Option Ai} {a:Act} {o:Oper} {gs:Gd} {e:Bf} {sg:BY} {nv:Nat}
theorem RC{w:World}{v:Value}{x:AV}{f:List Nat}{k:SK}(h:Rd w [v] [x] f)(hk:x.sk=some k):(∃kk n,k= .int kk/\v= .int kk n/\x= .int kk n)\/(∃b,k= .bool/\v= .bool b/\x= .bool b)\/ ∃s:ByteArray,k= .str/\v= .string s/\x= .str s.data.toList:=by
 cases h<;>simp[AV.sk]at hk
 ·exact .inl ⟨_,_,hk.symm,rfl,rfl⟩
 ·exact .inr (.inl ⟨_,hk.symm,rfl,rfl⟩)
 ·exact .inr (.inr ⟨_,hk.symm,rfl,rfl⟩)
theorem zsh{t:TypeId}(h:(∃k,P.underlying t=some (.int k))\/P.underlying t=some .bool\/P.underlying t=some .string):Aq P t=false:=by rcases h with⟨k,h⟩|h|h<;>simp[Aq,h]
theorem zuN{w:World}(d:Nat):∀(fs:List Field) (j:Nat) (ks:List SK) {as_ bs:List Value} {cs ds:List AV} {f g:List Nat},UI P j fs=some ks->Rd w as_ cs f->Rd w bs ds g->(cs.drop j).map AV.sk=ks.map some->(ds.drop j).map AV.sk=ks.map some->
  (Op.eqFields (d+1) as_.toArray bs.toArray fs).run P w= .ok (AV.leq (cs.drop j) (ds.drop j)) w
 | [],j,ks,as_,bs,cs,ds,f,g,hk,h1,h2,k1,k2=>by
  simp[UI]at hk;subst hk;have e1:cs.drop j=[]:=by simpa using k1
  have e2:ds.drop j=[]:=by simpa using k2
  rw[e1,e2];simp[Op.eqFields,AV.leq]
 |fd::fs,j,ks,as_,bs,cs,ds,f,g,hk,h1,h2,k1,k2=>by
  unfold UI at hk;split at hk
  ·cases hk
  rename_i AT;simp only[not_or,Bk,Decidable.not_not,ne_eq,Bool.not_eq_false]at AT;obtain⟨hn,ho,BC,Cl⟩:=AT;have main:∀(k:SK) (l:List SK),ks=k::l->UI P (j+1) fs=some l->(∀a b (x y:AV) f g,Rd w [a] [x] f->Rd w [b] [y] g->x.sk=some k->y.sk=some k->(Op.equalIn (d+1) fd.type a b).run P w= .ok (x.seq y) w)->Aq P fd.type=false->
    (Op.eqFields (d+1) as_.toArray bs.toArray (fd::fs)).run P w= .ok (AV.leq (cs.drop j) (ds.drop j)) w:=by
   rintro k l rfl hl heq Jt;have JA:j<cs.length:=by
    rcases Nat.lt_or_ge j cs.length with hh|hh
    ·exact hh
    ·rw[List.drop_eq_nil_of_le hh]at k1;simp at k1
   have nF:j<ds.length:=by
    rcases Nat.lt_or_ge j ds.length with hh|hh
    ·exact hh
    ·rw[List.drop_eq_nil_of_le hh]at k2;simp at k2
   rw[By JA]at k1;rw[By nF]at k2;simp only[List.map_cons,List.cons.injEq]at k1 k2;have l1:=h1.len;have l2:=h2.len;obtain⟨v,f1,hv,_,r1⟩:=h1.at (show cs[j]?=some cs[j] by simp[JA])
   obtain⟨u,g1,hu,_,r2⟩:=h2.at (show ds[j]?=some ds[j] by simp[nF])
   have p1:=Yo BC as_ fd.offset (by omega) (.inr Cl) w;have p2:=Yo BC bs fd.offset (by omega) (.inr Cl) w;have e1:((as_.drop fd.offset).take (P.cellsOf fd.type)).headD Go.undef=v:=by rw[Cl,ho,By (by omega),List.take_succ_cons];simpa[show j<as_.length by omega]using hv
   have e2:((bs.drop fd.offset).take (P.cellsOf fd.type)).headD Go.undef=u:=by rw[Cl,ho,By (by omega),List.take_succ_cons];simpa[show j<bs.length by omega]using hu
   rw[Jt,e1]at p1;rw[Jt,e2]at p2;have ih:=zuN (w:=w) d fs (j+1) l hl h1 h2 k1.2 k2.2;rw[By JA,By nF];simp only[Op.eqFields,ne_eq,hn,not_false_eq_true,if_true,Sem.run_bind,p1,p2,A7,if_false,Result.andThen_ok,heq v u _ _ _ _ r1 r2 k1.1 k2.1];cases hb:(cs[j]).seq ds[j]with
   |true=>simpa[AV.leq,hb]using ih
   |false=>simp[AV.leq,hb]
  split at hk
  ·rename_i k l hu hl;simp at hk;refine main _ _ hk.symm hl (λa b x y f g ra rb hx hy=> ?_) (zsh (.inl ⟨_,hu⟩));rcases RC ra hx with⟨kk,m,h5,rfl,rfl⟩|⟨_,h5,_⟩|⟨_,h5,_⟩<;>cases h5
   rcases RC rb hy with⟨kk,m2,h5,rfl,rfl⟩|⟨_,h5,_⟩|⟨_,h5,_⟩<;>cases h5
   exact run_equalIn_int w d fd.type _ _ _ _ hu
  ·rename_i l hu hl;simp at hk;refine main _ _ hk.symm hl (λa b x y f g ra rb hx hy=> ?_) (zsh (.inr (.inl hu)));rcases RC ra hx with⟨kk,m,h5,_⟩|⟨_,_,rfl,rfl⟩|⟨_,h5,_⟩<;>try cases h5
   rcases RC rb hy with⟨kk,m,h5,_⟩|⟨_,_,rfl,rfl⟩|⟨_,h5,_⟩<;>try cases h5
   exact zut d _ _ hu w
  ·rename_i l hu hl;simp at hk;refine main _ _ hk.symm hl (λa b x y f g ra rb hx hy=> ?_) (zsh (.inr (.inr hu)));rcases RC ra hx with⟨kk,m,h5,_⟩|⟨_,h5,_⟩|⟨_,_,rfl,rfl⟩<;>try cases h5
   rcases RC rb hy with⟨kk,m,h5,_⟩|⟨_,h5,_⟩|⟨_,_,rfl,rfl⟩<;>try cases h5
   rw[run_equalIn_string w d _ _ _ hu,zAg];rfl
  ·cases hk
theorem zLj(h:BB P c n nx sl hp a sl0 hp0 o gs){op:BinOp}{t:TypeId}{x y:Operand}{ty:TypeId}(ho:o.op= .binOp op t x y ty){fs:Array Field}(hu:P.underlying t=some (.struct fs))(he:B2 P sg sl0 hp0 nv nx gs o=some e)(hc:∀q∈e.dn,Cn.den c.ρ q):AJ P o c n nx sl hp gs a e:=by
 have DL:x∈o.op.operands:=by simp[ho,Op.operands]
 have C7:y∈o.op.operands:=by simp[ho,Op.operands]
 simp only[B2,ho,AA]at he;obtain⟨s1,BO,s2,Bd,he⟩:=he;unfold UH at he;simp only[hu]at he;split at he
 ·cases he
 rename_i hg;simp only[Bool.or_eq_true,not_or,Bool.not_eq_true]at hg;split at he
 ·rename_i ks x' y' hks Dz BQ;obtain⟨f1,q1,_⟩:=h.l7 BO DL Dz;obtain⟨f2,q2,_⟩:=h.l7 Bd C7 BQ;have Cr:P.underlying t=some (.struct (P.fieldsOf t)):=by simp[Program.fieldsOf,hu]
  have NQ:P.fieldsOf t=fs:=by simp[Program.fieldsOf,hu]
  have key:∀(k1:Cn.den c.ρ (.kinds x' ks)) (k2:Cn.den c.ρ (.kinds y' ks)),∃as_ bs:List Value,∃b,a.eval x= .agg as_.toArray/\a.eval y= .agg bs.toArray/\(E.aeq x' y').den c.ρ= .bool b/\(Op.equalIn 10000 t (.agg as_.toArray) (.agg bs.toArray)).run P c.w= .ok b c.w:=by rintro⟨cs,BE,k1⟩ ⟨ds,H5,k2⟩;obtain⟨as_,Fu,_,r1⟩:=Kq q1 BE;obtain⟨bs,Dh,_,r2⟩:=Kq q2 H5;refine⟨as_,bs,AV.leq cs ds,Fu,Dh,by simp only[E.den,BE,H5,AV.aeq],?_⟩;rw[run_equalIn_struct c.w 9999 t _ _ Cr hg.1,NQ];exact zuN (w:=c.w) 9998 fs.toList 0 ks hks r1 r2 (by simpa using k1) (by simpa using k2)
  split at he
  ·simp only[Af]at he;subst he;obtain⟨as_,bs,b,Fu,Dh,hd,hr⟩:=key (hc _ (by simp)) (hc _ (by simp));refine AJ.pure h (v:= .bool b) ?_ (.ed (by rw[hd];exact .bool .nil)) rfl;rw[Q7 ho c.w Fu Dh];simp[run_eqGuard_agg c.w _ t x y _ _ hg.2,run_eql_struct,hr]
  ·simp only[Af]at he;subst he;obtain⟨as_,bs,b,Fu,Dh,hd,hr⟩:=key (hc _ (by simp)) (hc _ (by simp));refine AJ.pure h (v:= .bool (!b)) ?_ (.ed (by simp only[E.den]at hd ⊢;rw[hd];exact .bool .nil)) rfl;rw[Q7 ho c.w Fu Dh];simp[run_eqGuard_agg c.w _ t x y _ _ hg.2,run_neq_struct,hr]
  ·cases he
 ·cases he
theorem zxb(h:BB P c n nx sl hp a sl0 hp0 o gs){x y:Operand}{cl:Call}(ho:o.op= .call cl){op:BinOp}(AY:(op= .gtr/\cl.callee= .builtin .max)\/(op= .lss/\cl.callee= .builtin .min))(Dk:cl.args.toList=[x,y]){s1 s2:SV}(BO:BW sl0 gs x=some s1)(Bd:BW sl0 gs y=some s2)
  (he:kJ op s1 s2=some e) (hc:∀q∈e.dn,Cn.den c.ρ q):AJ P o c n nx sl hp gs a e:=by
 have Aj:cl.args= #[x,y]:=by apply Array.ext';simp[Dk]
 have DL:x∈o.op.operands:=by rcases AY with⟨_,hh⟩|⟨_,hh⟩<;>simp[ho,Op.operands,Call.operands,hh,Aj]
 have C7:y∈o.op.operands:=by rcases AY with⟨_,hh⟩|⟨_,hh⟩<;>simp[ho,Op.operands,Call.operands,hh,Aj]
 unfold kJ at he;split at he
 ·rename_i x' y';simp only[Af]at he;subst he;obtain⟨f1,q1,_⟩:=I9 (h.dy BO DL) rfl;obtain⟨f2,q2,_⟩:=I9 (h.dy Bd C7) rfl;have hd:AV.bin op (y'.den c.ρ) (x'.den c.ρ)≠ .undef:=Cl hc;cases hx:x'.den c.ρ<;>cases hy:y'.den c.ρ<;>simp only[hx,hy,AV.bin,ne_eq,not_true_eq_false]at hd;rename_i k m k' m';split at hd
  ·rename_i hk;have hk:k'=k:=by rcases hk with hk|hk|hk;exact hk;all_goals (rcases AY with⟨h1,_⟩|⟨h1,_⟩<;>rw[h1]at hk<;>cases hk)
   subst hk;obtain⟨v1,i1⟩:=Hd q1 hx;obtain⟨v2,i2⟩:=Hd q2 hy;rcases AY with⟨rfl,AD⟩|⟨rfl,AD⟩
   ·refine AJ.pure h (v:= .int k' (if m'>m then m' else m)) ?_ (.ed ?_) rfl
    ·simp[execOp,ho,resolve,AD,Aj,invoke,builtin,Builtin.max_,Builtin.max2,v1,v2]
    ·simp only[E.den,hx,hy,AV.bin,true_or,if_true,Ei];by_cases hh:m'>m
     ·simp only[hh,decide_true,AV.cond,if_true];exact .int i2 .nil
     ·simp only[hh,decide_false,AV.cond,if_false];exact .int i1 .nil
   ·refine AJ.pure h (v:= .int k' (if m'<m then m' else m)) ?_ (.ed ?_) rfl
    ·simp[execOp,ho,resolve,AD,Aj,invoke,builtin,Builtin.min_,Builtin.min2,v1,v2]
    ·simp only[E.den,hx,hy,AV.bin,true_or,if_true,Ei];by_cases hh:m'<m
     ·simp only[hh,decide_true,AV.cond,if_true];exact .int i2 .nil
     ·simp only[hh,decide_false,AV.cond,if_false];exact .int i1 .nil
  ·exact absurd rfl hd
 ·cases he
end
inductive CA(P:Program)(w:World):List TypeId->List Bool->List Value->List AV->List Nat->List Nat->Prop where
 |nil {fl}:CA P w [] fl [] [] [] []
 |own {t ts fl el u us y ys top N rf hs}:fl.headD false=true->CH P t=some el->(Ch P el=true/\N=[]\/Ch P el=false/\DJ P t=none)->Dd w el (P.cellsOf el) u y top N->CA P w ts fl.tail us ys rf hs->CA P w (t::ts) fl (u::us) (y::ys) (N++rf) (top++hs)
 |deep {t ts fl el e z l u us y ys top rf hs}:fl.headD false=true->CH P t=some el->Ch P el=false->DJ P t=some (.row e z l)->DC w [.row e z l] [u] [y] top->CA P w ts fl.tail us ys rf hs->CA P w (t::ts) fl (u::us) (y::ys) rf (top++hs)
 |rd {t ts fl u us y ys f rf hs}:(fl.headD false=true->CH P t=none)->Rd w [u] [y] f->CA P w ts fl.tail us ys rf hs->CA P w (t::ts) fl (u::us) (y::ys) (f++rf) hs
def MY(P:Program)(w:World)(t:TypeId)(fl:List Bool)(v:Value)(x:AV)(rf hs:List Nat):Prop:=
 ∃us ys,(if Aq P t then v= .agg us.toArray/\x= .agg ys/\ ∀u∈us,u.oneCell'=true else us=[v]/\ys=[x])/\CA P w (Bc P t) fl us ys rf hs
def DI(P:Program)(w:World)(t:TypeId)(fl:List Bool)(v:Value)(x:AV)(rf hs:List Nat):Prop:=
 if FL P t fl then MY P w t fl v x rf hs else Rd w [v] [x] rf/\hs=[]
inductive Lt(P:Program)(w:World):List TypeId->List Bool->List Value->List AV->List Nat->List Nat->Prop where
 |nil {fl}:Lt P w [] fl [] [] [] []
 |cons {t ts fl v vs x xs f h rf hs}:DI P w t fl v x f h->Lt P w ts (fl.drop (Bc P t).length) vs xs rf hs->Lt P w (t::ts) fl (v::vs) (x::xs) (f++rf) (h++hs)
theorem CA.len{P:Program}{w:World}{ts:List TypeId}{fl:List Bool}{us:List Value}{ys:List AV}{rf hs:List Nat}(h:CA P w ts fl us ys rf hs):us.length=ts.length/\ys.length=ts.length:=by induction h<;>simp_all
theorem CA.inb{P:Program}{w:World}{ts:List TypeId}{fl:List Bool}{us:List Value}{ys:List AV}{rf hs:List Nat}(h:CA P w ts fl us ys rf hs):(∀b∈rf,b<w.heap.size)/\ ∀b∈hs,b<w.heap.size:=by
 induction h with
 |nil=>simp
 |deep _ _ _ _ h _ ih=>
  refine⟨ih.1,λb hb=> ?_⟩;rcases Ae.1 hb with hb|hb
  ·exact h.inb b hb
  ·exact ih.2 b hb
 |own _ _ _ h _ ih=>
  refine⟨λb hb=> ?_,λb hb=> ?_⟩
  ·rcases Ae.1 hb with hb|hb
   ·obtain⟨xs,_,_,_,⟨_,_,_,rfl⟩|⟨g,cap,C,_,_,_,_,_,_,_,hr⟩⟩:=h
    ·simp at hb
    ·exact hr.inb b hb
   ·exact ih.1 b hb
  ·rcases Ae.1 hb with hb|hb
   ·obtain⟨xs,_,_,_,⟨_,_,rfl,_⟩|⟨g,cap,C,_,_,_,hh,_,rfl,_⟩⟩:=h
    ·simp at hb
    ·simp at hb;subst hb;exact Di hh
   ·exact ih.2 b hb
 |rd _ h _ ih=>
  refine⟨λb hb=> ?_,ih.2⟩;rcases Ae.1 hb with hb|hb
  ·exact h.inb b hb
  ·exact ih.1 b hb
structure AZ where
 tag:Nat
 new:Option Value
 top:List Nat
 cx:Ai
def AZ.pair(r:AZ):Nat × Ai:=(r.tag,r.cx)
structure FA(c c':Cx)(w':World)(recs:List AZ):Prop where
 ρ:c'.ρ=c.ρ
 w:c'.w=w'
 G:∀r∈recs,c'.G r.tag=⟨r.top,[]⟩
 new:∀r∈recs,∀hv,r.new=some hv->c'.K r.tag 0/\(∀g,c'.K r.tag g->g<=0)/\c'.H r.tag 0=hv
 K:∀t g,c.K t g->c'.K t g/\c'.H t g=c.H t g
 old:∀t,c.U t-> ∀g,c'.K t g->c.K t g
 kt:∀r∈recs,r.new.isSome=true->c'.E r.tag=0
 jg:∀r∈recs,r.new=none->c'.E r.tag=c.E r.tag+1
theorem FA.mono{c c':Cx}{w':World}{recs recs':List AZ}(h:FA c c' w' recs)(hs:∀r∈recs',r∈recs):FA c c' w' recs':=
 ⟨h.ρ,h.w,λr hr=>h.G r (hs r hr),λr hr=>h.new r (hs r hr),h.K,h.old,λr hr=>h.kt r (hs r hr),λr hr=>h.jg r (hs r hr)⟩
section
variable {P:Program} {c:Cx} {w':World}
theorem zNq{c':Cx}{t:Nat}{u:Value}{el sz:Nat}{y:AV}{top N:List Nat}(h:Dd w' el sz u y top N)(hk:c'.K t 0)(hh:c'.H t 0=u):SR c' [.own t 0] [u]:=by
 obtain⟨xs,_,_,_,⟨_,⟨a,rfl⟩,_⟩|⟨g,cap,C,rfl,_⟩⟩:=h
 ·exact .own hk hh .nil
 ·exact .own hk hh .nil
theorem Tu{nx:Nat}{mk:Nat->E}{ts:List TypeId}{fl:List Bool}{us:List Value}{ys:List AV}{rf hs:List Nat}(h:CA P w' ts fl us ys rf hs):∀(j:Nat),(∀i y,ys[i]?=some y->(mk (j+i)).den c.ρ=y)->
  ∃recs:List AZ,(Dn P nx mk j ts fl).2=recs.map AZ.pair/\recs.flatMap AZ.top=hs/\(∀r∈recs,nx+j<=r.tag/\r.tag<nx+j+ts.length/\r.new.isSome)/\(recs.map AZ.tag).Nodup/\(∀r∈recs,r.new=us[r.tag-(nx+j)]?)/\
   ∀c',FA c c' w' recs->(∀b∈rf,c'.ok b)->SR c' (Dn P nx mk j ts fl).1 us/\ ∀r∈recs,DH c' r.tag r.cx:=by
 induction h with
 |nil=>exact λj _=>⟨[],rfl,rfl,by simp,by simp,by simp,λc' _ _=>⟨.nil,by simp⟩⟩
 | @own t ts fl el u us y ys top N rf hs h1 h2 KB h3 _ ih=>
  intro j GJ;obtain⟨recs,e1,e2,e3,e4,e4',e5⟩:=ih (j+1) (λi y hy=>by rw[show j+1+i=j+(i+1)from by omega];exact GJ (i+1) y (by simpa using hy));have hy:=GJ 0 y rfl;have nY:Uy P t el 0 0 (mk j)= .row el (P.cellsOf el) 0 (mk j) (Ch P el):=by
   unfold Uy;rcases KB with⟨h,_⟩|⟨h,h'⟩
   ·rw[if_pos h,h]
   ·rw[if_neg (by rw[h];simp),h',h]
  simp only[Dn,h1,h2,nY];refine⟨⟨nx+j,some u,top, .row el (P.cellsOf el) 0 (mk j) (Ch P el)⟩::recs,by simp[e1,AZ.pair],by simp[e2],λr hr=> ?_,?_,λr hr=> ?_,λc' ha A3=> ?_⟩
  ·rcases Ag.1 hr with rfl|hr
   ·simp
   ·have:=e3 r hr;simp only[AH];exact⟨by omega,by omega,this.2.2⟩
  ·simp only[List.map_cons,List.nodup_cons];refine⟨λhm=> ?_,e4⟩;obtain⟨r,hr,KZ⟩:=List.mem_map.1 hm;have:=e3 r hr;omega
  ·rcases Ag.1 hr with rfl|hr
   ·simp
   ·rw[e4' r hr];have:=e3 r hr;rw[show r.tag-(nx+j)=(r.tag-(nx+(j+1)))+1 from by omega,List.getElem?_cons_succ]
  ·obtain⟨q1,q2⟩:=e5 c' (ha.mono λr hr=>by simp[hr]) λb hb=>A3 b (by simp[hb]);obtain⟨k1,k2,k3⟩:=ha.new _ (List.mem_cons_self ..) u rfl;have kg:=ha.G _ (List.mem_cons_self ..);simp only at k1 k2 k3 kg;refine⟨(zNq h3 k1 k3).cons q1,λr hr=> ?_⟩;rcases Ag.1 hr with rfl|hr
   ·refine⟨k1,k2,N,?_,λb hb=>A3 b (by simp[hb]),λhd=> ?_,λ_=>by rw[kg]⟩
    rotate_left
    ·rcases KB with⟨_,h⟩|⟨h,_⟩
     ·subst h;exact⟨rfl,by rw[kg]⟩
     ·rw[h]at hd;cases hd
    rw[k3,kg,ha.w,ha.ρ];have BQ:(mk j).den c.ρ=y:=by simpa using hy
    rw[BQ];exact h3
   ·exact q2 r hr
 | @deep t ts fl el e z l u us y ys top rf hs h1 h2 UP Rh h3 _ ih=>
  intro j GJ;obtain⟨recs,e1,e2,e3,e4,e4',e5⟩:=ih (j+1) (λi y hy=>by rw[show j+1+i=j+(i+1)from by omega];exact GJ (i+1) y (by simpa using hy));have hy:=GJ 0 y rfl;have nY:Uy P t el 0 0 (mk j)= .deep e z l.toList 0 0 (mk j):=by unfold Uy;rw[if_neg (by rw[UP];simp),Rh]
  simp only[Dn,h1,h2,nY];refine⟨⟨nx+j,some u,top, .deep e z l.toList 0 0 (mk j)⟩::recs,by simp[e1,AZ.pair],by simp[e2],λr hr=> ?_,?_,λr hr=> ?_,λc' ha A3=> ?_⟩
  ·rcases Ag.1 hr with rfl|hr
   ·simp
   ·have:=e3 r hr;simp only[AH];exact⟨by omega,by omega,this.2.2⟩
  ·simp only[List.map_cons,List.nodup_cons];refine⟨λhm=> ?_,e4⟩;obtain⟨r,hr,KZ⟩:=List.mem_map.1 hm;have:=e3 r hr;omega
  ·rcases Ag.1 hr with rfl|hr
   ·simp
   ·rw[e4' r hr];have:=e3 r hr;rw[show r.tag-(nx+j)=(r.tag-(nx+(j+1)))+1 from by omega,List.getElem?_cons_succ]
  ·obtain⟨q1,q2⟩:=e5 c' (ha.mono λr hr=>by simp[hr]) A3;obtain⟨k1,k2,k3⟩:=ha.new _ (List.mem_cons_self ..) u rfl;have kg:=ha.G _ (List.mem_cons_self ..);have ke:=ha.kt _ (List.mem_cons_self ..) rfl;simp only at k1 k2 k3 kg ke;obtain⟨p1,p2,p3,rfl⟩:=h3.head;refine⟨(SR.own k1 k3 .nil).cons q1,λr hr=> ?_⟩;rcases Ag.1 hr with rfl|hr
   ·refine⟨k1,k2,ke,?_,by rw[kg]⟩;have BQ:(mk j).den c.ρ=y:=by simpa using hy
    rw[k3,kg,ha.w,ha.ρ,BQ,AM.dw];exact h3
   ·exact q2 r hr
 | @rd t ts fl u us y ys f rf hs h1 h3 _ ih=>
  intro j GJ;obtain⟨recs,e1,e2,e3,e4,e4',e5⟩:=ih (j+1) (λi y hy=>by rw[show j+1+i=j+(i+1)from by omega];exact GJ (i+1) y (by simpa using hy));have hy:=GJ 0 y rfl;have Vm:Dn P nx mk j (t::ts) fl=(.e (mk j)::(Dn P nx mk (j+1) ts fl.tail).1,(Dn P nx mk (j+1) ts fl.tail).2):=by
   simp only[Dn];split
   ·rename_i h8 h9;rw[h1 h8]at h9;cases h9
   ·rfl
  rw[Vm];refine⟨recs,e1,e2,λr hr=> ?_,e4,λr hr=> ?_,λc' ha A3=> ?_⟩
  ·have:=e3 r hr;simp only[AH];exact⟨by omega,by omega,this.2.2⟩
  ·rw[e4' r hr];have:=e3 r hr;rw[show r.tag-(nx+j)=(r.tag-(nx+(j+1)))+1 from by omega,List.getElem?_cons_succ]
  ·obtain⟨q1,q2⟩:=e5 c' ha λb hb=>A3 b (by simp[hb]);have BQ:(mk j).den c.ρ=y:=by simpa using hy
   exact⟨(SR.e (f:=f) (by rw[ha.w,ha.ρ,BQ];exact h3) (λb hb=>A3 b (by simp[hb])) .nil).cons q1,q2⟩
theorem QL{nx:Nat}{mk:Nat->E}:∀(j:Nat) (ts:List TypeId) (fl:List Bool) (t:Nat) (e:Ai) {gs:Gd} {f:Ai},(t,e)∈(Dn P nx mk j ts fl).2->e≠ .gd gs f
 |_,[],_,_,_,_,_,h=>by simp[Dn]at h
 |j,u::ts,fl,t,e,gs,f,h=>by
  unfold Dn at h;split at h
  ·rcases Ag.1 h with h|h
   ·cases h;unfold Uy;split
    ·simp
    ·split<;>simp
   ·exact QL _ _ _ _ _ h
  ·exact QL _ _ _ _ _ h
theorem Yd{ρ:List AV}{x:E}{ys:List AV}(hx:x.den ρ= .agg ys):∀i y,ys[i]?=some y->(Ec x true (0+i)).den ρ=y:=by intro i y hy;simp[Ec,E.den,hx,AV.fld,AV.cells,hy]
theorem ztq{nx:Nat}{t:TypeId}{fl:List Bool}{x:E}{v:Value}{y:AV}{rf hs:List Nat}(h:DI P w' t fl v y rf hs)(hx:x.den c.ρ=y):
  ∃recs:List AZ,(QX P nx t fl x).2=recs.map AZ.pair/\recs.flatMap AZ.top=hs/\(∀r∈recs,nx<=r.tag/\r.tag<nx+(Bc P t).length/\r.new.isSome)/\(recs.map AZ.tag).Nodup/\
   ∀c',FA c c' w' recs->(∀b∈rf,c'.ok b)->SR c' [(QX P nx t fl x).1] [v]/\ ∀r∈recs,DH c' r.tag r.cx:=by
 unfold DI at h;unfold QX;split at h
 ·rename_i hf;simp only[hf,if_true];obtain⟨us,ys,hg,hc⟩:=h;split at hg
  ·rename_i AN;obtain⟨rfl,rfl,C8⟩:=hg;obtain⟨recs,e1,e2,e3,e4,_,e5⟩:=Tu (c:=c) (nx:=nx) (mk:=Ec x (Aq P t)) hc 0 (by rw[AN];exact Yd hx);refine⟨recs,e1,e2,λr hr=>by have:=e3 r hr;exact⟨by omega,by omega,this.2.2⟩,e4,λc' ha A3=> ?_⟩;obtain⟨q1,q2⟩:=e5 c' ha A3;rw[if_pos AN];exact⟨.agg C8 (by rw[BS.ax];exact q1) .nil,q2⟩
  ·rename_i AN;obtain⟨rfl,rfl⟩:=hg;have H0:Aq P t=false:=by simpa using AN
   obtain⟨recs,e1,e2,e3,e4,_,e5⟩:=Tu (c:=c) (nx:=nx) (mk:=Ec x (Aq P t)) hc 0 (by
    intro i z hz;cases i with
    |zero=>simp at hz;subst hz;simp[Ec,H0,hx]
    |succ i=>simp at hz)
   refine⟨recs,e1,e2,λr hr=>by have:=e3 r hr;exact⟨by omega,by omega,this.2.2⟩,e4,λc' ha A3=> ?_⟩;obtain⟨q1,q2⟩:=e5 c' ha A3;refine⟨?_,q2⟩;rw[if_neg AN];have hl:=q1.len;generalize (Dn P nx (Ec x (Aq P t)) 0 (Bc P t) fl).1=l at q1 hl
   match l,hl with
   | [s],_=>exact q1
 ·rename_i hf;simp only[hf,if_false,A7];obtain⟨h1,rfl⟩:=h;exact⟨[],rfl,rfl,by simp,by simp,λc' ha A3=>⟨.e (f:=rf) (by rw[ha.w,ha.ρ,hx];exact h1) A3 .nil,by simp⟩⟩
theorem zzd{ts:List TypeId}{fl:List Bool}{x:E}{vs:List Value}{ys:List AV}{rf hs:List Nat}(h:Lt P w' ts fl vs ys rf hs):∀(nx i:Nat),(∀k y,ys[k]?=some y->(E.proj x (i+k)).den c.ρ=y)->
  ∃recs:List AZ,(O1 P nx ts fl x i).2=recs.map AZ.pair/\recs.flatMap AZ.top=hs/\(∀r∈recs,nx<=r.tag/\r.tag<nx+(ts.flatMap (Bc P)).length/\r.new.isSome)/\(recs.map AZ.tag).Nodup/\
   ∀c',FA c c' w' recs->(∀b∈rf,c'.ok b)->SR c' (O1 P nx ts fl x i).1 vs/\ ∀r∈recs,DH c' r.tag r.cx:=by
 induction h with
 |nil=>exact λnx i _=>⟨[],rfl,rfl,by simp,by simp,λc' _ _=>⟨.nil,by simp⟩⟩
 | @cons t ts fl v vs y ys f h rf hs h1 _ ih=>
  intro nx i hx;obtain⟨r1,a1,a2,a3,a4,a5⟩:=ztq (c:=c) (nx:=nx) (x:= .proj x i) h1 (hx 0 y rfl);obtain⟨r2,b1,b2,b3,b4,b5⟩:=ih (nx+(Bc P t).length) (i+1) (λk z hz=>by rw[show i+1+k=i+(k+1)from by omega];exact hx (k+1) z (by simpa using hz));simp only[O1];refine⟨r1++r2,by simp[a1,b1],by simp[a2,b2],λr hr=> ?_,?_,λc' ha A3=> ?_⟩
  ·simp only[List.flatMap_cons,Av];rcases Ae.1 hr with hr|hr
   ·have:=a3 r hr;exact⟨this.1,by omega,this.2.2⟩
   ·have:=b3 r hr;exact⟨by omega,by omega,this.2.2⟩
  ·rw[List.map_append,List.nodup_append];refine⟨a4,b4,λt1 Oc t2 LH he=> ?_⟩;obtain⟨q1,Hn,rfl⟩:=List.mem_map.1 Oc;obtain⟨q2,IX,rfl⟩:=List.mem_map.1 LH;have:=a3 q1 Hn;have:=b3 q2 IX;omega
  ·obtain⟨p1,p2⟩:=a5 c' (ha.mono λr hr=>by simp[hr]) λb hb=>A3 b (by simp[hb]);obtain⟨q1,q2⟩:=b5 c' (ha.mono λr hr=>by simp[hr]) λb hb=>A3 b (by simp[hb]);refine⟨p1.cons q1,λr hr=> ?_⟩;rcases Ae.1 hr with hr|hr
   ·exact p2 r hr
   ·exact q2 r hr
end
theorem Ya{α:Type}{f:α->List Nat}:∀{l:List α},(l.flatMap f).Nodup->(∀a∈l,(f a).Nodup)/\ ∀(i j:Nat) (a b:α) (x:Nat),l[i]?=some a->l[j]?=some b->x∈f a->x∈f b->i=j
 | [],_=>⟨by simp,by simp⟩
 |a::l,h=>by
  rw[List.flatMap_cons,List.nodup_append]at h;obtain⟨h1,h2,h3⟩:=h;obtain⟨k1,k2⟩:=Ya h2;refine⟨λb hb=> ?_,λi j p q x hi hj hp hq=> ?_⟩
  ·rcases Ag.1 hb with rfl|hb
   ·exact h1
   ·exact k1 b hb
  ·cases i with
   |zero=>
    cases j with
    |zero=>rfl
    |succ j=>simp at hi hj;subst hi;exact absurd rfl (h3 x hp x (List.mem_flatMap.2 ⟨q,List.mem_of_getElem? hj,hq⟩))
   |succ i=>
    cases j with
    |zero=>simp at hi hj;subst hj;exact absurd rfl (h3 x hq x (List.mem_flatMap.2 ⟨p,List.mem_of_getElem? hi,hp⟩))
    |succ j=>rw[k2 i j p q x (by simpa using hi) (by simpa using hj) hp hq]
theorem T3{recs:List AZ}(hn:(recs.map AZ.tag).Nodup){r:AZ}(hr:r∈recs)(p:AZ->Bool)(hp:p r=true)(EK:∀q,p q=true->q.tag=r.tag):recs.find? p=some r:=by
 induction recs with
 |nil=>simp at hr
 |cons q recs ih=>
  simp only[List.map_cons,List.nodup_cons]at hn;rw[List.find?_cons];rcases Ag.1 hr with rfl|hr
  ·simp[hp]
  ·have:p q=false:=by
    cases hq:p q with
    |false=>rfl
    |true=>exact absurd (List.mem_map.2 ⟨r,hr,(EK q hq).symm⟩) hn.1
   rw[this];exact ih hn.2 hr
def Cx.fj(c:Cx)(w':World)(recs:List AZ):Cx:=
 {c with w:=w',G:=λt=>(match recs.find? (λr=>r.tag==t)with|some r=>⟨r.top,[]⟩|none=>c.G t),K:=λt g=>c.K t g\/ ∃r∈recs,r.tag=t/\r.new.isSome=true/\g=0,H:=λt g=>(match recs.find? (λr=>r.tag==t&&r.new.isSome)with|some r=>r.new.getD undef|none=>c.H t g),U:=λt=>c.U t\/ ∃r∈recs,r.tag=t,E:=λt=>match recs.find? (λr=>r.tag==t)with|some r=>if r.new.isSome then 0 else c.E t+1|none=>c.E t}
section
variable {P:Program} {c:Cx} {n:Nat} {sl:Nat->SV} {hp:Nat->Option Ai} {a:Act} {w':World} {recs:List AZ}
theorem Cx.fy(hn:(recs.map AZ.tag).Nodup){r:AZ}(hr:r∈recs):(c.fj w' recs).G r.tag=⟨r.top,[]⟩:=by simp only[Cx.fj];rw[T3 hn hr (λq=>q.tag==r.tag) (by simp) (λq hq=>by simpa using hq)]
theorem Cx.ej{t:Nat}(ht:∀r∈recs,r.tag≠t):(c.fj w' recs).G t=c.G t:=by
 simp only[Cx.fj];have:recs.find? (λr=>r.tag==t)=none:=by rw[List.find?_eq_none];intro r hr;simpa using ht r hr
 rw[this]
theorem Cx.fc(hU:∀t g,c.K t g->c.U t)(hn:(recs.map AZ.tag).Nodup)(Bo:∀r∈recs,r.new.isSome=true-> ¬c.U r.tag):FA c (c.fj w' recs) w' recs:=by
 refine⟨rfl,rfl,λr hr=>Cx.fy hn hr,λr hr hv Kb=>⟨.inr ⟨r,hr,rfl,by simp[Kb],rfl⟩,λg hg=> ?_,?_⟩,λt g hk=>⟨.inl hk,?_⟩,λt ht g hk=> ?_,λr hr hs=> ?_,λr hr hs=> ?_⟩
 ·rcases hg with hg|⟨_,_,_,_,rfl⟩
  ·exact absurd (hU _ _ hg) (Bo r hr (by simp[Kb]))
  ·exact AB _
 ·simp only[Cx.fj];rw[T3 hn hr (λq=>q.tag==r.tag&&q.new.isSome) (by simp[Kb]) (λq hq=>by simp only[Ac,Ay]at hq;exact hq.1)];simp[Kb]
 ·simp only[Cx.fj];have:recs.find? (λr=>r.tag==t&&r.new.isSome)=none:=by
   rw[List.find?_eq_none];rintro r hr hh;simp only[Ac,Ay]at hh;exact Bo r hr hh.2 (hh.1▸hU t g hk)
  rw[this]
 ·rcases hk with hk|⟨r,hr,rfl,hh,_⟩
  ·exact hk
  ·exact absurd ht (Bo r hr hh)
 ·simp only[Cx.fj];rw[T3 hn hr (λq=>q.tag==r.tag) (by simp) (λq hq=>by simpa using hq)];simp[hs]
 ·simp only[Cx.fj];rw[T3 hn hr (λq=>q.tag==r.tag) (by simp) (λq hq=>by simpa using hq)];simp[hs]
theorem Cx.ld{t:Nat}(ht:∀r∈recs,r.tag≠t):(c.fj w' recs).E t=c.E t:=by
 simp only[Cx.fj];have:recs.find? (λr=>r.tag==t)=none:=by rw[List.find?_eq_none];intro r hr;simpa using ht r hr
 rw[this]
theorem Rel.changes(h:Rel c n sl hp a){hs:List Nat}{gs:Gd}(k:Bu c.ρ gs)(Bg:Mod hs c.w w')(hn:(recs.map AZ.tag).Nodup)(Bo:∀r∈recs,r.new.isSome=true-> ¬c.U r.tag)
  (Ie:∀b∈hs,∃r∈recs,b∈(c.G r.tag).top) (Fe:(recs.flatMap AZ.top).Nodup) (Cs:∀r∈recs,∀b∈r.top,(b∈hs\/c.w.heap.size<=b)/\b<w'.heap.size)
  (BU:∀r∈recs,∀hs f,r.cx≠ .gd hs f) (BL:Ev c (c.fj w' recs)-> ∀r∈recs,DH (c.fj w' recs) r.tag r.cx):
  Rel (c.fj w' recs) n sl (Bq hp (recs.map λr=>(r.tag,Dg gs r.cx))) a/\Ev c (c.fj w' recs):=by
 have aft:=Cx.fc (w':=w') h.de hn Bo;have hsM:∀b∈hs,c.M b:=λb hb=>by obtain⟨r,_,hr⟩:=Ie b hb;exact⟨_,hr⟩
 have Bj:∀b∈hs,c.B<=b\/c.Mu b:=λb hb=>by obtain⟨r,_,hr⟩:=Ie b hb;exact h.gw.allow r.tag b (by simp[GI.own,hr])
 have Cm:Ev c (c.fj w' recs):=by
  refine⟨rfl,rfl,λb hb A3=>⟨λ⟨t,ht⟩=> ?_,A3.2⟩,λb hb A3=>Bg.block b hb λhh=>A3.1 (hsM b hh),aft.K,λt g hk=> ?_⟩;by_cases hT:∃r∈recs,r.tag=t
  ·obtain⟨r,hr,rfl⟩:=hT;rw[Cx.fy hn hr]at ht;rcases(Cs r hr b ht).1 with hh|hh
   ·exact A3.1 (hsM b hh)
   ·omega
  ·rw[Cx.ej λr hr hh=>hT ⟨r,hr,hh⟩]at ht;exact A3.1 ⟨t,ht⟩
  ·by_cases hT:∃r∈recs,r.tag=t
   ·obtain⟨r,hr,rfl⟩:=hT;have DW:r.new=none:=by
     cases hh:r.new with
     |none=>rfl
     |some v=>exact absurd (h.de _ _ hk) (Bo r hr (by simp[hh]))
    rw[aft.jg r hr DW];exact⟨by omega,λh=>by omega⟩
   ·have hT':∀r∈recs,r.tag≠t:=λr hr hh=>hT ⟨r,hr,hh⟩;rw[Cx.ld hT',Cx.ej hT'];refine⟨AB _,λ_=>⟨rfl,λb hb FC=>Bg.block b FC λhh=> ?_⟩⟩;obtain⟨r,hr,GC⟩:=Ie b hh;exact h.gw.dt t r.tag (λhh=>hT ⟨r,hr,hh.symm⟩) b (by simp[GI.own,hb]) (by simp[GI.own,GC])
 have BL:=BL Cm;have K1:∀r∈recs,∀e',(r.tag,e')∈(recs.map λr=>(r.tag,Dg gs r.cx))->e'=Dg gs r.cx:=by
  intro r hr e' Fp;obtain⟨q,hq,Ka⟩:=List.mem_map.1 Fp;simp only[A0]at Ka;obtain⟨h1,rfl⟩:=Ka;have e1:=Cx.fy (c:=c) (w':=w') hn hr;have:q=r:=by have f1:=T3 hn hr (λq=>q.tag==r.tag) (by simp) (λq hq=>by simpa using hq);have f2:=T3 hn hq (λp=>p.tag==r.tag) (by simp[h1]) (λp hp=>by rw[h1];simpa using hp);rw[f1]at f2;cases f2;rfl
  rw[this]
 refine⟨h.change (λt=> ∃r∈recs,r.tag=t) Cm ⟨Bg.os.trans h.base.os,Bg.tape.trans h.base.tape,Bg.output.trans h.base.output,Nat.le_trans h.base.size Bg.size,λt v Rp=>⟨.inl (h.base.pins t v Rp).1,λhk=> ?_⟩,λb hb GK=> ?_,h.base.pk,h.base.lo⟩
  (λt ht=>⟨Nj λe he=> ?_,Cx.ej λr hr hh=>ht ⟨r,hr,hh⟩,Cx.ld λr hr hh=>ht ⟨r,hr,hh⟩,λg hg=> ?_⟩) (λt ht b hb=>Bg.block b (h.gw.inb t b (by simp[GI.own,hb])) λhh=> ?_) (λt ht=> ?_) ⟨λt=> ?_,λt u Od b hb Cc=> ?_,λt b hb=> ?_,λt b hb=> ?_⟩ (λt g hk=> ?_) (λt e he=> ?_),Cm⟩
 ·have Ce:=aft.old t (h.base.pins t v Rp).1 0 hk;rw[(aft.K t 0 Ce).2];exact(h.base.pins t v Rp).2 Ce
 ·refine(Bg.block b (Nat.lt_of_lt_of_le hb h.base.size) λhh=> ?_).trans (h.base.block b hb GK);rcases Bj b hh with h1|h1
  ·exact absurd h1 (Nat.not_le.2 hb)
  ·exact GK h1
 ·obtain⟨q,hq,Ka⟩:=List.mem_map.1 he;simp only[A0]at Ka;exact ht ⟨q,hq,Ka.1⟩
 ·rcases hg with hg|⟨r,hr,KZ,_⟩
  ·exact hg
  ·exact absurd ⟨r,hr,KZ⟩ ht
 ·obtain⟨r,hr,FC⟩:=Ie b hh;exact h.gw.dt t r.tag (λhh=>ht ⟨r,hr,hh.symm⟩) b (by simp[GI.own,hb]) (by simp[GI.own,FC])
 ·obtain⟨r,hr,rfl⟩:=ht;have Ff:=qI (hp:=hp) (l:=recs.map λr=>(r.tag,Dg gs r.cx)) (List.mem_map.2 ⟨r,hr,rfl⟩) (K1 r hr);rw[Ff];refine⟨λe' VN=> ?_,λDW=> ?_⟩
  ·rw[(T4 k (BU r hr)).1 VN];exact BL r hr
  ·exact absurd ((T4 k (BU r hr)).2 rfl) (DW r.cx)
 ·by_cases hT:∃r∈recs,r.tag=t
  ·obtain⟨r,hr,rfl⟩:=hT;rw[Cx.fy hn hr];simpa[GI.own]using(Ya Fe).1 r hr
  ·rw[Cx.ej λr hr hh=>hT ⟨r,hr,hh⟩];exact h.gw.nodup t
 ·by_cases hT:∃r∈recs,r.tag=t
  ·obtain⟨r,hr,rfl⟩:=hT;rw[Cx.fy hn hr]at hb;simp only[GI.own,AG]at hb;by_cases hV:∃r∈recs,r.tag=u
   ·obtain⟨q,hq,rfl⟩:=hV;rw[Cx.fy hn hq]at Cc;simp only[GI.own,AG]at Cc;obtain⟨i,hi⟩:=List.getElem?_of_mem hr;obtain⟨j,hj⟩:=List.getElem?_of_mem hq;have:=(Ya Fe).2 i j r q b hi hj hb Cc;subst this;rw[hi]at hj;cases hj;exact Od rfl
   ·rw[Cx.ej λr hr hh=>hV ⟨r,hr,hh⟩]at Cc;rcases(Cs r hr b hb).1 with hh|hh
    ·obtain⟨q,hq,hbq⟩:=Ie b hh;exact h.gw.dt q.tag u (λhh=>hV ⟨q,hq,hh⟩) b (by simp[GI.own,hbq]) Cc
    ·have:=h.gw.inb u b Cc;omega
  ·rw[Cx.ej λr hr hh=>hT ⟨r,hr,hh⟩]at hb;by_cases hV:∃r∈recs,r.tag=u
   ·obtain⟨q,hq,rfl⟩:=hV;rw[Cx.fy hn hq]at Cc;simp only[GI.own,AG]at Cc;rcases(Cs q hq b Cc).1 with hh|hh
    ·obtain⟨r,hr,Y6⟩:=Ie b hh;exact h.gw.dt r.tag t (λhh=>hT ⟨r,hr,hh⟩) b (by simp[GI.own,Y6]) hb
    ·have:=h.gw.inb t b hb;omega
   ·rw[Cx.ej λr hr hh=>hV ⟨r,hr,hh⟩]at Cc;exact h.gw.dt t u Od b hb Cc
 ·by_cases hT:∃r∈recs,r.tag=t
  ·obtain⟨r,hr,rfl⟩:=hT;rw[Cx.fy hn hr]at hb;simp only[GI.own,AG]at hb;rcases(Cs r hr b hb).1 with hh|hh
   ·exact Bj b hh
   ·exact .inl (Nat.le_trans h.base.size hh)
  ·rw[Cx.ej λr hr hh=>hT ⟨r,hr,hh⟩]at hb;exact h.gw.allow t b hb
 ·by_cases hT:∃r∈recs,r.tag=t
  ·obtain⟨r,hr,rfl⟩:=hT;rw[Cx.fy hn hr]at hb;simp only[GI.own,AG]at hb;exact(Cs r hr b hb).2
  ·rw[Cx.ej λr hr hh=>hT ⟨r,hr,hh⟩]at hb;exact Nat.lt_of_lt_of_le (h.gw.inb t b hb) Bg.size
 ·rcases hk with hk|⟨r,hr,KZ,_⟩
  ·exact .inl (h.de t g hk)
  ·exact .inr ⟨r,hr,KZ⟩
 ·by_cases hT:∃r∈recs,r.tag=t
  ·exact .inr hT
  ·rw[Nj]at he
   ·exact .inl (h.dv t e he)
   ·intro e' Fp;obtain⟨q,hq,Ka⟩:=List.mem_map.1 Fp;simp only[A0]at Ka;exact hT ⟨q,hq,Ka.1⟩
end
def tG(P:Program)(w:World)(t:TypeId):PM->Value->AV->List Nat->List Nat->Prop
 | .ro,v,x,rf,hs=>Rd w [v] [x] rf/\hs=[]
 | .va own,v,x,rf,hs=>MY P w t own v x rf hs
 | .mu own,v,x,rf,hs=>MY P w t own v x rf hs
 | .bx own _,v,x,rf,hs=> ∃(ty:TypeId) (b:Nat) (C:Array Value) (ys:List AV) (h:List Nat),LM P t=some ty/\v= .pointer (some ⟨b,0,none⟩)/\w.heap[b]?=some (.cells C ty (0,0))/\(∀u∈C.toList,u.oneCell'=true)/\x= .ref (.agg ys)/\
   CA P w (Bc P ty) own C.toList ys rf h/\hs=b::h
inductive Eb(P:Program)(w:World):List TypeId->List PM->List Bool->List Value->List AV->List Nat->List Nat->List Nat->Prop where
 |nil {ms lo}:Eb P w [] ms lo [] [] [] [] []
 |cons {t ts ms lo v vs x xs f h rf lf hs}:tG P w t (ms.headD .ro) v x f h->Eb P w ts ms.tail lo.tail vs xs rf lf hs->Eb P w (t::ts) ms lo (v::vs) (x::xs) (f++rf) lf (h++hs)
 |lent {t ts ms lo v vs x xs f rf lf hs}:lo.headD false=true->ms.headD .ro= .ro->Rd w [v] [x] f->Eb P w ts ms.tail lo.tail vs xs rf lf hs->Eb P w (t::ts) ms lo (v::vs) (x::xs) rf (f++lf) hs
 |free {ms lo v vs x xs f rf lf hs}:Rd w [v] [x] f->Eb P w [] ms.tail lo.tail vs xs rf lf hs->Eb P w [] ms lo (v::vs) (x::xs) (f++rf) lf hs
inductive HO(P:Program)(c:Cx):List TypeId->List Bool->List Value->List (Option RI)->Prop where
 |nil {fl}:HO P c [] fl [] []
 |row {t ts fl v vs u g el rs}:fl.headD false=true->CH P t=some el->(Ch P el=true\/DJ P t=none)->c.K u g->c.H u g=v->(∀g',c.K u g'->g'<=g)->HO P c ts fl.tail vs rs->HO P c (t::ts) fl (v::vs) (some (.fl u g el (P.cellsOf el) (Ch P el))::rs)
 |deep {t ts fl v vs u g el e z l ep rs}:fl.headD false=true->CH P t=some el->Ch P el=false->DJ P t=some (.row e z (AM.of l))->c.K u g->c.H u g=v->(∀g',c.K u g'->g'<=g)->c.E u=ep->HO P c ts fl.tail vs rs->HO P c (t::ts) fl (v::vs) (some (.dp u g e z l ep)::rs)
 |none {t ts fl v vs rs}:(fl.headD false=true->CH P t=none\/ ∃a,v= .slice a 0 0)->HO P c ts fl.tail vs rs->HO P c (t::ts) fl (v::vs) (none::rs)
inductive Kl(P:Program)(c:Cx):List TypeId->List PM->List Value->List PA->Prop where
 |nil {ts ms}:Kl P c ts ms [] []
 |ro {ts ms v vs bs}:ms.headD .ro= .ro->Kl P c ts.tail ms.tail vs bs->Kl P c ts ms (v::vs) bs
 |va {ts ms own v vs bs us}:ms.headD .ro= .va own->(∀u∈us,c.U u)->Kl P c ts.tail ms.tail vs bs->Kl P c ts ms (v::vs) (.va us::bs)
 |mu {t ts ms own v vs bs us rs}:ms.headD .ro= .mu own->(if Aq P t then v= .agg us.toArray else us=[v])->HO P c (Bc P t) own us rs->Kl P c ts ms.tail vs bs->Kl P c (t::ts) ms (v::vs) (.mu rs (Aq P t)::bs)
 |bx {t ts ms own own' ty v vs bs T b g olds}:ms.headD .ro= .bx own own'->LM P t=some ty->v= .pointer (some ⟨b,0,none⟩)->c.K T 0->c.H T 0=v->(∀u∈olds,c.U u)->Kl P c ts ms.tail vs bs->Kl P c (t::ts) ms (v::vs) (.box T g own' ty olds::bs)
section
variable {P:Program} {c:Cx} {hp:Nat->Option Ai} {gs:Gd}
theorem Yu{t el:TypeId}{d:DT}(BK:CH P t=some el)(h:DJ P t=some d):P.cellsOf el≠0/\(Bc P el).length=P.cellsOf el/\ ∃l:List DT,d= .row el (P.cellsOf el) (AM.of l)/\l.length=P.cellsOf el:=by
 have hu:=LY BK;unfold DJ at h;split at h
 ·cases h
 simp only[lL,hu]at h;split at h
 ·cases h
 ·rename_i hh;simp only[not_or,Decidable.not_not,ne_eq]at hh;obtain⟨l,hl,rfl⟩:=Aw.1 h;exact⟨hh.1,hh.2,l,rfl,by rw[mapM_len _ _ hl];exact hh.2⟩
where
 mapM_len {α β:Type} {f:α->Option β}:∀(l:List α) (l':List β),l.mapM f=some l'->l'.length=l.length
  | [],l',h=>by simp at h;subst h;rfl
  |a::l,l',h=>by simp only[List.mapM_cons,Option.bind_eq_bind,AA,Option.pure_def,Af]at h;obtain⟨b,_,bs,Rl,rfl⟩:=h;simp[mapM_len l bs Rl]
theorem CA.void{w:World}{t el:TypeId}{ts:List TypeId}{fl:List Bool}{a:Option Addr}{us:List Value}{ys:List AV}{rf hs:List Nat}(h1:fl.headD false=true)(h2:CH P t=some el)(hz:P.cellsOf el≠0)(h:CA P w ts fl.tail us ys rf hs):CA P w (t::ts) fl (.slice a 0 0::us) (.sl []::ys) rf ([]++hs):=by
 have Bj:Dd w el (P.cellsOf el) (.slice a 0 0) (.sl []) [] []:=⟨[],rfl,by simp,by omega, .inl ⟨rfl,⟨a,rfl⟩,rfl,rfl⟩⟩
 cases hf:Ch P el with
 |true=>exact .own h1 h2 (.inl ⟨hf,rfl⟩) Bj h
 |false=>
  cases hd:DJ P t with
  |none=>exact .own h1 h2 (.inr ⟨hf,hd⟩) Bj h
  |some d=>obtain⟨_,_,l,rfl,hl⟩:=Yu h2 hd;exact .deep h1 h2 hf hd (.void (by omega) (by rw[AM.ax];exact hl) .nil) h
theorem zwh{as_ bs:List Value}(h:Value.agg as_.toArray= .agg bs.toArray):as_=bs:=by
 have h1:as_.toArray=bs.toArray:=by injection h
 have:=congrArg Array.toList h1;simpa using this
theorem zqa(eh:EH c hp)(k:Bu c.ρ gs)(hU:∀t g,c.K t g->c.U t):∀(ts:List TypeId) {cs:List SV} {fl:List Bool} {rs:List (Option RI)} {us:List Nat} {vs:List Value} {xs:EL} {m:Nat},Iz P hp gs ts cs fl=some (rs,us)->SR c cs vs->CY hp gs m cs=some xs->m<=Bb->
  ∃rf hs,CA P c.w ts fl vs (xs.den c.ρ) rf hs/\(∀b∈rf,c.gp us b)/\hs=(Dc rs).flatMap (λt=>(c.G t).top)/\HO P c ts fl vs rs/\ ∀u∈Dc rs,c.U u
 | [],[],fl,rs,us,vs,xs,m,h,hs,hx,hm=>by
  simp[Iz]at h;obtain⟨rfl,rfl⟩:=h;cases hs;cases m with
  |zero=>simp[CY]at hx
  |succ m=>simp[CY]at hx;subst hx;exact⟨[],[], .nil,by simp,by simp[Dc], .nil,by simp[Dc]⟩
 | [],s::cs,fl,rs,us,vs,xs,m,h,hs,hx,hm=>by simp[Iz]at h
 |t::ts,[],fl,rs,us,vs,xs,m,h,hs,hx,hm=>by simp[Iz]at h
 |t::ts,s::cs,fl,rs,us,[],xs,m,h,hs,hx,hm=>by have:=hs.len;simp at this
 |t::ts,s::cs,fl,rs,us,v::vs,xs,m,h,hs,hx,hm=>by
  obtain⟨j,y,ys,rfl,hy,DF,rfl⟩:=LZ hx;obtain⟨r1,r2⟩:=hs.dh;unfold Iz at h;split at h
  ·cases h
  rename_i rs' us' DE;obtain⟨rf,A9,q1,q2,q3,q4,q5⟩:=zqa eh k hU ts DE r2 DF (by omega);split at h
  ·rename_i hf;split at h
   ·rename_i r hr;simp only[Af,A0]at h;obtain⟨rfl,rfl⟩:=h;unfold pR at hr;split at hr
    ·cases hr
    rename_i el BK;split at hr
    ·cases hr
    rename_i hz;have empt:∀a,v= .slice a 0 0->y.den c.ρ= .sl []->r=none-> ∃rf hs,CA P c.w (t::ts) fl (v::vs) ((EL.cons y ys).den c.ρ) rf hs/\(∀b∈rf,c.gp us' b)/\hs=(Dc (r::rs')).flatMap (λt=>(c.G t).top)/\HO P c (t::ts) fl (v::vs) (r::rs')/\ ∀u∈Dc (r::rs'),c.U u:=by rintro a rfl I0 rfl;refine⟨rf,[]++A9,?_,q2,by simpa[Dc]using q3, .none (λ_=> .inr ⟨a,rfl⟩) q4,by simpa[Dc]using q5⟩;rw[EL.den,I0];exact CA.void hf BK (by omega) q1
    split at hr
    ·simp only[Af]at hr;subst hr;cases r1 with
     |dg _=>exact empt _ rfl (by rw[Ng hy];rfl) rfl
    ·simp only[Af]at hr;subst hr;cases r1 with
     |emp _=>
      refine empt _ rfl ?_ rfl;cases j with
      |zero=>simp[BI]at hy
      |succ j=>simp[BI]at hy;subst hy;rfl
    ·rename_i u g;split at hr
     ·rename_i e z g' x d hl;split at hr
      ·rename_i hh;obtain⟨rfl,rfl,rfl,H7⟩:=hh;simp only[Af]at hr;subst hr;obtain⟨p1,p2,N,p3,p4,p5,_⟩:=eh u _ (Df hl k);have PB:Ch P e=true\/DJ P t=none:=H7.imp (·.1) (by rintro⟨_,h⟩;simpa using h);have H7:Ch P e=true/\N=[]\/Ch P e=false/\DJ P t=none:=by
        rcases H7 with⟨h1,h2⟩|⟨h1,h2⟩
        ·exact .inl ⟨h1,(p5 h2).1⟩
        ·exact .inr ⟨h1,by simpa using h2⟩
       have Ip:y=x:=by
        cases j with
        |zero=>simp[BI]at hy
        |succ j=>simp[BI,JJ,hl]at hy;exact hy.symm
       subst Ip;have hv:c.H u g=v:=by
        cases r1 with
        |own _ k2 _=>exact k2
       rw[hv]at p3;refine⟨N++rf,(c.G u).top++A9,CA.own hf BK H7 p3 q1,λb hb=> ?_,by simp[Dc,RI.tag,q3], .row hf BK PB p1 hv p2 q4,λw hw=> ?_⟩
       ·rcases Ae.1 hb with hb|hb
        ·exact .inl (p4 b hb)
        ·exact q2 b hb
       simp only[Dc,List.filterMap_cons,Option.map_some,RI.tag,Ag]at hw;rcases hw with rfl|hw
       ·exact hU _ _ p1
       ·exact q5 w hw
      ·cases hr
     ·rename_i e z l g' ep x hl;split at hr
      ·rename_i hh;obtain⟨rfl,GO,D2⟩:=hh;have D2:=T0 D2;simp only[Af]at hr;subst hr;obtain⟨p1,p2,pE,p3,_⟩:=eh u _ (Df hl k);have Ip:y=x:=by
        cases j with
        |zero=>simp[BI]at hy
        |succ j=>simp[BI,JJ,hl]at hy;exact hy.symm
       subst Ip;have hv:c.H u g=v:=by
        cases r1 with
        |own _ k2 _=>exact k2
       rw[hv]at p3;refine⟨rf,(c.G u).top++A9,CA.deep hf BK GO D2 p3 q1,q2,by simp[Dc,RI.tag,q3], .deep hf BK GO D2 p1 hv p2 pE q4,λw hw=> ?_⟩;simp only[Dc,List.filterMap_cons,Option.map_some,RI.tag,Ag]at hw;rcases hw with rfl|hw
       ·exact hU _ _ p1
       ·exact q5 w hw
      ·cases hr
     ·cases hr
    ·cases hr
   ·cases h
  ·rename_i hf;simp only[Af,A0]at h;obtain⟨rfl,rfl⟩:=h;obtain⟨f,p1,p2⟩:=Je eh k j hy r1 Bb (by omega);refine⟨f++rf,A9,CA.rd (λhh=>absurd hh hf) p1 q1,λb hb=> ?_,by simpa[Dc]using q3, .none (λhh=>absurd hh hf) q4,by simpa[Dc]using q5⟩;rcases Ae.1 hb with hb|hb
   ·exact(p2 b hb).mono λt ht=>by simp[ht]
   ·exact(q2 b hb).mono λt ht=>by simp[ht]
theorem zv9(eh:EH c hp)(k:Bu c.ρ gs)(hU:∀t g,c.K t g->c.U t){t:TypeId}{s:SV}{v:Value}{fl:List Bool}{rs:List (Option RI)}{us:List Nat}{x:E}(hs:SR c [s] [v])(hx:BI hp gs Bb s=some x)(hg:(Jb s).2=Aq P t)
  (h:Iz P hp gs (Bc P t) (Jb s).1 fl=some (rs,us)):
  ∃rf hs,MY P c.w t fl v (x.den c.ρ) rf hs/\(∀b∈rf,c.gp us b)/\hs=(Dc rs).flatMap (λt=>(c.G t).top)/\(∃vs',(if Aq P t then v= .agg vs'.toArray else vs'=[v])/\HO P c (Bc P t) fl vs' rs)/\ ∀u∈Dc rs,c.U u:=by
 have single:∀(s:SV),SR c [s] [v]->BI hp gs Bb s=some x->Aq P t=false->Iz P hp gs (Bc P t) [s] fl=some (rs,us)-> ∃rf hs,MY P c.w t fl v (x.den c.ρ) rf hs/\(∀b∈rf,c.gp us b)/\hs=(Dc rs).flatMap (λt=>(c.G t).top)/\(∃vs',(if Aq P t then v= .agg vs'.toArray else vs'=[v])/\HO P c (Bc P t) fl vs' rs)/\ ∀u∈Dc rs,c.U u:=by
  intro s hs hx AN h;obtain⟨t0,Ob⟩:∃t0,Bc P t=[t0]:=by
   cases hh:Bc P t with
   |nil=>rw[hh]at h;simp[Iz]at h
   |cons t0 l=>
    cases l with
    |nil=>exact⟨t0,rfl⟩
    |cons t1 l=>rw[hh]at h;simp[Iz]at h
  rw[Ob]at h;have key:∃rf hs,CA P c.w [t0] fl [v] [x.den c.ρ] rf hs/\(∀b∈rf,c.gp us b)/\hs=(Dc rs).flatMap (λt=>(c.G t).top)/\HO P c [t0] fl [v] rs/\ ∀u∈Dc rs,c.U u:=by
   unfold Iz at h;simp only[Iz]at h;split at h
   ·rename_i hf;split at h
    ·rename_i r hr;simp only[Af,A0]at h;obtain⟨rfl,rfl⟩:=h;unfold pR at hr;split at hr
     ·cases hr
     rename_i el BK;split at hr
     ·cases hr
     rename_i hz;have empt:∀a,v= .slice a 0 0->x.den c.ρ= .sl []->r=none-> ∃rf hs,CA P c.w [t0] fl [v] [x.den c.ρ] rf hs/\(∀b∈rf,c.gp ([]:List Nat) b)/\hs=(Dc [r]).flatMap (λt=>(c.G t).top)/\HO P c [t0] fl [v] [r]/\ ∀u∈Dc [r],c.U u:=by rintro a rfl I0 rfl;refine⟨[],[]++ [],?_,by simp,by simp[Dc], .none (λ_=> .inr ⟨a,rfl⟩) .nil,by simp[Dc]⟩;rw[I0];exact CA.void hf BK (by omega) .nil
     split at hr
     ·simp only[Af]at hr;subst hr;cases hs with
      |dg _=>exact empt _ rfl (by rw[Ng hx];rfl) rfl
     ·simp only[Af]at hr;subst hr;cases hs with
      |emp _=>refine empt _ rfl ?_ rfl;simp[Bb,BI]at hx;subst hx;rfl
     ·rename_i u g;split at hr
      ·rename_i e z g' x0 d hl;split at hr
       ·rename_i hh;obtain⟨rfl,rfl,rfl,H7⟩:=hh;simp only[Af]at hr;subst hr;obtain⟨p1,p2,N,p3,p4,p5,_⟩:=eh u _ (Df hl k);have PB:Ch P e=true\/DJ P t0=none:=H7.imp (·.1) (by rintro⟨_,h⟩;simpa using h);have H7:Ch P e=true/\N=[]\/Ch P e=false/\DJ P t0=none:=by
         rcases H7 with⟨h1,h2⟩|⟨h1,h2⟩
         ·exact .inl ⟨h1,(p5 h2).1⟩
         ·exact .inr ⟨h1,by simpa using h2⟩
        have Ip:x=x0:=by simp[Bb,BI,JJ,hl]at hx;exact hx.symm
        subst Ip;have hv:c.H u g=v:=by
         cases hs with
         |own _ k2 _=>exact k2
        rw[hv]at p3;refine⟨N++ [],(c.G u).top++ [],CA.own hf BK H7 p3 .nil,λb hb=> .inl (p4 b (by simpa using hb)),by simp[Dc,RI.tag], .row hf BK PB p1 hv p2 .nil,λw hw=> ?_⟩;simp only[Dc,List.filterMap_cons,Option.map_some,RI.tag,List.filterMap_nil,Ag,List.not_mem_nil,or_false]at hw;subst hw;exact hU _ _ p1
       ·cases hr
      ·rename_i e z l g' ep x0 hl;split at hr
       ·rename_i hh;obtain⟨rfl,GO,D2⟩:=hh;have D2:=T0 D2;simp only[Af]at hr;subst hr;obtain⟨p1,p2,pE,p3,_⟩:=eh u _ (Df hl k);have Ip:x=x0:=by
         simp[Bb,BI,JJ,hl]at hx;exact hx.symm
        subst Ip;have hv:c.H u g=v:=by
         cases hs with
         |own _ k2 _=>exact k2
        rw[hv]at p3;refine⟨[],(c.G u).top++ [],CA.deep hf BK GO D2 p3 .nil,by simp,by simp[Dc,RI.tag], .deep hf BK GO D2 p1 hv p2 pE .nil,λw hw=> ?_⟩;simp only[Dc,List.filterMap_cons,Option.map_some,RI.tag,List.filterMap_nil,Ag,List.not_mem_nil,or_false]at hw;subst hw;exact hU _ _ p1
       ·cases hr
      ·cases hr
     ·cases hr
    ·cases h
   ·rename_i hf;simp only[Af,A0]at h;obtain⟨rfl,rfl⟩:=h;obtain⟨f,p1,p2⟩:=Je eh k Bb hx hs Bb (AB _);refine⟨f++ [],[],CA.rd (λhh=>absurd hh hf) p1 .nil,λb hb=> ?_,by simp[Dc], .none (λhh=>absurd hh hf) .nil,by simp[Dc]⟩;rw[AG]at hb;exact(p2 b hb).mono λt ht=>by simp[ht]
  obtain⟨rf,A9,q1,q2,q3,q4,q5⟩:=key;refine⟨rf,A9,⟨[v],[x.den c.ρ],?_,by rw[Ob];exact q1⟩,q2,q3,⟨[v],?_,by rw[Ob];exact q4⟩,q5⟩
  ·rw[if_neg (by rw[AN];simp)];exact⟨rfl,rfl⟩
  ·rw[if_neg (by rw[AN];simp)]
 cases s with
 |agg cs=>
  simp only[Jb]at hg h;obtain⟨m,l,hm,hl,rfl⟩:=Yt hx;cases hs with
  |agg h9 h1 h8=>
   rename_i as_;have Dl:m<=Bb:=by simp only[Bb]at hm ⊢;omega
   obtain⟨rf,A9,q1,q2,q3,q4,q5⟩:=zqa (P:=P) eh k hU (Bc P t) h h1 hl Dl;refine⟨rf,A9,⟨as_,l.den c.ρ,?_,q1⟩,q2,q3,⟨as_,?_,q4⟩,q5⟩
   ·rw[if_pos hg.symm];exact⟨rfl,rfl,h9⟩
   ·rw[if_pos hg.symm]
 |_=>exact single _ hs hx hg.symm h
end
end
end Go.Proofs.YtlmjpjceiefpoaaGreatDoor
