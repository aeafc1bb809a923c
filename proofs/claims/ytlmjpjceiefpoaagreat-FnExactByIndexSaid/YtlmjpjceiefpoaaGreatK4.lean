/- Parts of a proof, joined: VX, WB, WC, WD, WE, WF, WG, WH, WI, WJ, WK, WL, WM, WN, WO. -/
import Derived.Test.YtlmjpjceiefpoaaGreatK3
import Derived.Orders
import Derived.Lib.SliceRun
import Derived.Laws.Slices
import Derived.Laws.MakeOwn
import Derived.Laws.StructEq
set_option linter.unusedVariables false
set_option linter.unusedSimpArgs false
namespace Go.Proofs.YtlmjpjceiefpoaaGreat
open Go.RowKit
section
theorem Bz(n:Nat):((n:Int)).toNat=n:=Int.toNat_natCast n
section
variable {P:Program} {c:Cx} {n nx:Nat} {sl sl0:Nat->SV} {hp hp0:Nat->Option Aj} {a:Act} {o:Oper} {gs:Gd} {e:Bf} {sg:BW} {nv:Nat}
def Cx.jb(c:Cx)(w':World)(t:Nat)(O:List Nat):Cx:={c with w:=w',G:=λu=>if u=t then⟨(c.G t).top,O⟩else c.G u,E:=λu=>if u=t then c.E u+1 else c.E u}
theorem Rel.od(h:Rel c n sl hp a){t:Nat}{e0:Aj}{b:Nat}{w':World}{O:List Nat}(A2:C4 c.ρ (hp t) e0)(Cs:b∈(c.G t).top)(hO:O=[]\/O=(c.G t).O)(hm:Mod [b] c.w w')(BI:w'.heap.size=c.w.heap.size)(e1:Aj)(BY:∀hs f,e1≠ .gd hs f)
  (he:Ev c (c.jb w' t O)->DL (c.jb w' t O) t e1):
  Rel (c.jb w' t O) n sl (Bo hp [(t,e1)]) a:=by
 have Bj:b∈(c.G t).own:=by simp[GI.own,Cs]
 have hG:∀u,(c.jb w' t O).G u=if u=t then⟨(c.G t).top,O⟩else c.G u:=λu=>rfl;have Fi:∀u,((c.jb w' t O).G u).top=(c.G u).top:=by
  intro u;rw[hG];split
  ·rename_i hu;rw[hu]
  ·rfl
 have Cl:∀u,∀q∈((c.jb w' t O).G u).own,q∈(c.G u).own:=by
  intro u q hq;rw[hG]at hq;split at hq
  ·rename_i hu;subst hu;simp only[GI.own,Ae]at hq ⊢;rcases hq with hq|hq
   ·exact .inl hq
   ·rcases hO with rfl|rfl
    ·simp at hq
    ·exact .inr hq
  ·exact hq
 have Ck:Ev c (c.jb w' t O):=by
  refine⟨rfl,rfl,λq _ hq=>⟨λ⟨u,hu⟩=>hq.1 ⟨u,by rw[Fi]at hu;exact hu⟩,hq.2⟩,λq hq A4=>hm.block q hq ?_,λu g hu=>⟨hu,rfl⟩,λu g hu=> ?_⟩
  ·simp only[List.mem_singleton];rintro rfl;exact A4.1 ⟨t,Cs⟩
  ·by_cases Ht:u=t
   ·have e1:(c.jb w' t O).E u=c.E u+1:=by simp only[Cx.jb,if_pos Ht]
    exact⟨by omega,λh=>by omega⟩
   ·have e1:(c.jb w' t O).E u=c.E u:=by simp only[Cx.jb,if_neg Ht]
    have e2:(c.jb w' t O).G u=c.G u:=by simp only[Cx.jb,if_neg Ht]
    rw[e1];refine⟨AF _,λ_=>⟨e2,λq hq FT=>hm.block q FT ?_⟩⟩;simp only[List.mem_singleton];rintro rfl;exact h.gw.dt t u (Ne.symm Ht) q Bj (by simp[GI.own,hq])
 have Fj:∀u,Bo hp [(t,e1)] u=if u=t then some e1 else hp u:=λu=>rfl;refine h.change (λu=>u=t) Ck ⟨hm.os.trans h.base.os,hm.tape.trans h.base.tape,hm.output.trans h.base.output,Nat.le_trans h.base.size hm.size,h.base.pins,λq hq GP=> ?_,h.base.pk,h.base.lo⟩
  (λu hu=>⟨by rw[Fj,if_neg hu],by rw[hG,if_neg hu],by simp[Cx.jb,hu],λg hg=>hg⟩) (λu hu q hq=>hm.block q (h.gw.inb u q (by simp[GI.own,hq])) ?_) (λu hu=> ?_) ⟨λu=> ?_,λu v pM q hq Hq=>h.gw.dt u v pM q (Cl u q hq) (Cl v q Hq),λu q hq=>h.gw.allow u q (Cl u q hq),λu q hq=> ?_⟩ h.de (λu f hf=> ?_)
 ·refine(hm.block q (Nat.lt_of_lt_of_le hq h.base.size) ?_).trans (h.base.block q hq GP);simp only[List.mem_singleton];rintro rfl;rcases h.gw.allow t q Bj with hh|hh
  ·exact absurd hh (Nat.not_le.2 hq)
  ·exact GP hh
 ·simp only[List.mem_singleton];rintro rfl;exact h.gw.dt t u (Ne.symm hu) q Bj (by simp[GI.own,hq])
 ·subst hu;rw[Fj,if_pos rfl];refine⟨λe' hr=> ?_,λhn=> ?_⟩
  ·cases e1<;>first
    |(simp only[C4]at hr;subst hr;exact he Ck)
    |exact absurd rfl (BY _ _)
  ·cases e1<;>first
    |exact absurd rfl (BY _ _)
    |exact absurd rfl (hn _)
 ·rw[hG];split
  ·rename_i hu;subst hu;have h0:=h.gw.nodup u;simp only[GI.own]at h0 ⊢;rcases hO with rfl|rfl
   ·rw[AH];exact(List.nodup_append.1 h0).1
   ·exact h0
  ·exact h.gw.nodup u
 ·show q<w'.heap.size;rw[BI];exact h.gw.inb u q (Cl u q hq)
 ·rw[Fj]at hf;split at hf
  ·rename_i hu;subst hu;cases hh:hp u with
   |none=>rw[hh]at A2;exact A2.elim
   |some e9=>exact h.dv u e9 hh
  ·exact h.dv u f hf
theorem kV{α:Type}(L vs:List α)(p m:Nat)(h:p+vs.length<=m)(hm:m<=L.length):(setVs L p vs).take m=setVs (L.take m) p vs:=by
 apply List.ext_getElem?;intro j;have hl:(L.take m).length=m:=by rw[AI];omega
 rw[List.getElem?_take,Ui (L.take m) vs p (by omega) j,Ui L vs p (by omega) j,List.getElem?_take];by_cases h1:p<=j/\j<p+vs.length
 ·rw[if_pos (by omega),if_pos h1,if_pos h1]
 ·rw[if_neg h1,if_neg h1]
theorem Rd.setVs{w:World}{L V:List Value}{X Y:List AV}{N f:List Nat}{p:Nat}(h:Rd w L X N)(k:Rd w V Y f)(hp:p+V.length<=L.length):
  ∃n1 n2 n3,N=n1++n2++n3/\Rd w (Go.Proofs.YtlmjpjceiefpoaaGreat.setVs L p V) (Go.Proofs.YtlmjpjceiefpoaaGreat.setVs X p Y) (n1++f++n3)/\Rd w ((L.drop p).take V.length) ((X.drop p).take V.length) n2:=by
 have hl:=h.len;have hk:=k.len;have e1:L=L.take p++((L.drop p).take V.length++L.drop (p+V.length)):=by rw[<-List.drop_drop,B6,B6]
 have e2:X=X.take p++((X.drop p).take V.length++X.drop (p+V.length)):=by rw[<-List.drop_drop,B6,B6]
 have h':=h;rw[e1,e2]at h';obtain⟨n1,m,rfl,g1,g2⟩:=Rd.gj (by simp;omega) h';obtain⟨n2,n3,rfl,g3,g4⟩:=Rd.gj (by simp;omega) g2;refine⟨n1,n2,n3,by simp,?_,g3⟩;unfold Go.Proofs.YtlmjpjceiefpoaaGreat.setVs;rw[<-hk];exact(g1.app k).app g4
theorem lH{sz:Nat}:∀(ys:List AV) (k:Nat) (z y:AV) (o:Nat) (vc:List AV),(∀y∈ys,y.cells.length=sz)->ys[k]?=some y->o+vc.length<=sz->z.cells=setVs y.cells o vc->AA (ys.set k z)=setVs (AA ys) (k*sz+o) vc
 | [],k,z,y,o,vc,_,h,_,_=>by simp at h
 |q::ys,0,z,y,o,vc,hs,h,ho,hz=>by simp at h;subst h;have hq:=hs q (by simp);simp only[AA,List.set_cons_zero,List.flatMap_cons,Nat.zero_mul,Nat.zero_add,hz];unfold setVs;rw[List.take_append_of_le_length (by omega),List.drop_append_of_le_length (by omega)];simp
 |q::ys,k+1,z,y,o,vc,hs,h,ho,hz=>by
  have hq:=hs q (by simp);have ih:=lH ys k z y o vc (λu hu=>hs u (by simp[hu])) (by simpa using h) ho hz;simp only[AA,List.set_cons_succ,List.flatMap_cons]at ih ⊢;rw[ih];unfold setVs;have e0:(k+1)*sz+o=q.cells.length+(k*sz+o):=by rw[hq,Nat.add_mul];omega
  rw[e0,List.take_length_add_append,Nat.add_assoc (q.cells.length),List.drop_length_add_append];simp
theorem zt1{y x:AV}{k:Nat}{g:Bool}(hx:(∀cs,x≠ .agg cs)\/g=true)(hy:g=false->y.cells.length=1/\k=0/\x.cells=[x]):(y.fq k x g).cells=setVs y.cells k x.cells:=by
 cases g with
 |true=>simp[AV.fq,AV.cells,setVs]
 |false=>obtain⟨h1,h2,h3⟩:=hy rfl;subst h2;simp only[AV.fq,h3,setVs];rw[if_neg (by simp)];rw[h3];simp only[List.take_zero,List.nil_append,AE,List.length_nil,Nat.zero_add];rw[List.drop_eq_nil_of_le (by omega)];simp
theorem zBy(h:BB P c n nx sl hp a sl0 hp0 o gs){t:TypeId}{x y:Operand}(ho:o.op= .store t x y){b g:Nat}{ix:E}{sz k:Nat}{s:SV}(A3:∃e z g c d,look hp0 gs b=some (.row e z g c d))(hx:BU sl0 gs x=some (.du b g ix sz k))(hy:BU sl0 gs y=some s)
  (he:Pb P hp0 gs t (.du b g ix sz k) s=some e) (hc:∀q∈e.dn,Cn.den c.ρ q):AK P o c n nx sl hp gs a e:=by
 have r1:=h.dy hx (by simp[ho,Op.operands]);have r2:=h.dy hy (by simp[ho,Op.operands]);simp only[Pb]at he;split at he
 ·rename_i el sz' g' c0 d hl;split at he
  ·rename_i hh;obtain⟨rfl,rfl,rfl,BC,hle,Ga,EF⟩:=hh;split at he
   ·rename_i xe fz dx ck CJ;split at he
    ·cases he
    rename_i D9;simp only[Af]at he;subst he;have D9:∀f,(b,f)∉fz:=λf hf=>D9 (by simp only[List.contains_eq_mem,AS];exact List.mem_map.2 ⟨_,hf,rfl⟩);obtain⟨f,q1,q2,⟨ts,q3⟩,q5⟩:=zwn h.rel h.hp h.gs r2 CJ (λq hq=>hc q (by simp[hq]));obtain⟨q3,q4⟩:=q3;have A2:=Pg h.hp (Di hl h.gs);have DR:=h.rel.freeze h.hp h.gs q3;have N8:C4 (c.da (fz.map (·.1))).ρ (Bo hp fz b) (.row el sz g c0 d):=by rw[Nn D9];exact A2
    obtain⟨e1,e2,N,e3,e4,e5,e6⟩:=DR.ents b _ N8;obtain⟨o1,o2,o3,o4⟩:=zwm (P:=P) q1 EF q5;generalize hv:a.eval x=v at r1;cases r1 with
    |du k1 k2 k3 k4 k5 _=>
     rename_i m len cap kk kv k6;obtain⟨xs,p1,p2,p3,pcase⟩:=e3;have p1':c0.den c.ρ= .sl xs:=p1;rcases pcase with⟨_,⟨_,pv⟩,_⟩|⟨g9,cap9,C,pv,p4,p5,p6,p7,p8,p9,p10⟩
     ·exfalso;have:c.H b g=_:=pv;rw[k2]at this;cases this;omega
     ·have pv':c.H b g= .slice (some ⟨g9,0,none⟩) xs.length cap9:=pv;rw[k2]at pv';simp only[Value.slice.injEq,Af,Addr.mk.injEq,and_true]at pv';obtain⟨rfl,rfl,rfl⟩:=pv';have JH:kv.toNat<xs.length:=by omega
      have GX:=Pl JH;generalize Kj:(AV.sl xs).nth kv.toNat=yk at GX;have Gh:=p2 yk (List.mem_of_getElem? GX);have EM:(a.eval y).cells.toList.length=P.cellsOf t:=by simpa using o4
      have hmul:(kv.toNat+1)*sz<=xs.length*sz:=By _ (by omega);have Ew:C.toList.length=cap*sz:=by simpa using p7
      have Fb:xs.length*sz<=cap*sz:=By _ p4;rw[Nat.add_mul]at hmul;have p6':c.w.heap[m]?=some (.cells C el (0,0)):=p6;obtain⟨m1,m2,m3⟩:=zoj (vs:=(a.eval y).cells.toList) p6' (show(kv.toNat*sz+k)+_<=C.size by rw[EM,p7];omega);have VK:(C.toList.take (xs.length*sz)).length=xs.length*sz:=by rw[AI,Ew];omega
      obtain⟨n1,n2,n3,hN,s1,s2⟩:=Rd.setVs (p:=kv.toNat*sz+k) p10 o1 (by rw[VK,EM];omega);have KV:∀z,z<c.w.heap.size->(c.da (fz.map (·.1))).ok z->(putCells c.w m (kv.toNat*sz+k) (a.eval y).cells.toList).heap[z]?=c.w.heap[z]?:=by intro z hz A4;refine m1.block z hz ?_;simp only[List.mem_singleton];rintro rfl;exact A4.1 ⟨b,by rw[p8];simp⟩
      have Cz:(d&&dx)=true->n2=[]/\f=[]:=by
       intro Fs;have hcf:Cn.den c.ρ (.flat (.fld (.idx c0 ix) k (P.cellsOf t) (Ar P t)) (P.cellsOf t) (Ar P t)):=hc _ (by simp[Fs]);obtain⟨f1,f2,f3,f4⟩:=hcf;simp only[Ac]at Fs;refine⟨?_,q2 Fs.2⟩;have P0:((AA xs).drop (kv.toNat*sz+k)).take (a.eval y).cells.toList.length=(yk.cells.drop k).take (P.cellsOf t):=by rw[EM];exact YG xs p2 _ _ GX k (P.cellsOf t) hle
       rw[P0]at s2;have CQ:(E.fld (.idx c0 ix) k (P.cellsOf t) (Ar P t)).den c.ρ=yk.fld k (P.cellsOf t) (Ar P t):=by simp only[E.den,p1',k3,AV.idx,Kj]
       rw[CQ]at f2;refine IG s2 ?_;cases hg:Ar P t with
       |true=>rw[hg]at f2;simpa[AV.fld,AV.cells]using f2
       |false=>
        have h1:P.cellsOf t=1:=by rcases EF with h'|h';rw[hg]at h';cases h';exact h'
        rw[CQ]at f4;have f4:=f4 hg;rw[hg]at f4;have AQ:k<yk.cells.length:=by omega
        rw[h1,Bw AQ,List.take_succ_cons,List.take_zero];simp only[List.mem_singleton,forall_eq];simpa[AV.fld,AQ]using f4
      have hz:(yk.fq k (xe.den c.ρ) (Ar P el)).cells=setVs yk.cells k (xe.den c.ρ).cells:=by
       refine zt1 ?_ (λhg=> ?_)
       ·cases hg:Ar P el with
        |true=>exact .inr rfl
        |false=>
         left;rcases Ga with h'|⟨_,h'⟩
         ·rw[hg]at h';cases h'
         ·have h':Ar P t=false:=by simpa using h'
          rw[h']at q5;exact λcs=>(q5.1 cs)
       ·rcases Ga with h'|⟨h1,h'⟩
        ·rw[hg]at h';cases h'
        ·have h':Ar P t=false:=by simpa using h'
         rw[h']at q5;have Vw:P.cellsOf t=1:=by rcases EF with h2|h2;rw[h']at h2;cases h2;exact h2
         refine⟨by omega,by omega,?_⟩;cases pR:xe.den c.ρ<;>first|rfl|exact absurd pR (q5.1 _)
      have E4:AA (xs.set kv.toNat (yk.fq k (xe.den c.ρ) (Ar P el)))=setVs (AA xs) (kv.toNat*sz+k) (xe.den c.ρ).cells:=
       lH xs _ _ yk k _ p2 GX (by rw[o3];exact hle) hz
      have Ib:=DR.od (t:=b) (b:=m) (w':=putCells c.w m (kv.toNat*sz+k) (a.eval y).cells.toList) (O:=if(d&&dx)=true then((c.da (fz.map (·.1))).G b).O else []) N8 (by rw[p8];simp) (by split;exact .inr rfl;exact .inl rfl) m1 m3
       (.row el sz g (.set c0 ix (.put (.idx c0 ix) k xe (Ar P el))) (d&&dx)) (by intros;simp) (λKd=>by
        have GJ:∀z∈n1++f++n3,(c.da (fz.map (·.1))).ok z:=by
         intro z hz;simp only[Ae]at hz;rcases hz with(hz|hz)|hz
         ·exact e4 z (by rw[hN];simp[hz])
         ·exact q4 z hz
         ·exact e4 z (by rw[hN];simp[hz])
        have Vd:∀z∈n1++f++n3,z<c.w.heap.size:=s1.inb;refine⟨e1,e2,n1++f++n3,⟨xs.set kv.toNat (yk.fq k (xe.den c.ρ) (Ar P el)),?_,λz pV=> ?_,p3, .inr ⟨m,cap,_,?_,by simpa using p4,p5,m2,?_,?_,?_,?_⟩⟩,λz hz=>Kd.ok z (Vd z hz) (GJ z hz),λFs=> ?_,λFs=> ?_⟩
        ·show AV.fu (c0.den c.ρ) (ix.den c.ρ) (((c0.den c.ρ).idx (ix.den c.ρ)).fq k (xe.den c.ρ) (Ar P el))=_;rw[p1',k3];simp only[AV.idx,Kj,AV.fu]
        ·rcases List.mem_or_eq_of_mem_set pV with pV|rfl
         ·exact p2 z pV
         ·rw[hz,YA _ _ _ (by rw[o3,Gh];exact hle)];exact Gh
        ·rw[List.length_set];exact k2
        ·rw[List.size_toArray,YA _ _ _ (by rw[EM,Ew];omega),BL];exact p7
        ·simpa[Cx.jb]using p8
        ·simp only[List.length_set,List.toList_toArray];rw[kV _ _ _ _ (by rw[EM];omega) (by rw[Ew];omega)];intro u hu;unfold setVs at hu;simp only[Ae]at hu;rcases hu with(hu|hu)|hu
         ·exact p9 u (BD hu)
         ·exact o2 u hu
         ·exact p9 u (BR hu)
        ·simp only[List.length_set,List.toList_toArray];rw[kV _ _ _ _ (by rw[EM];omega) (by rw[Ew];omega),E4];exact s1.frame λz hz=>KV z (Vd z hz) (GJ z hz)
        ·obtain⟨z1,z2⟩:=Cz Fs;have hd:d=true:=by simp only[Ac]at Fs;exact Fs.1
         obtain⟨u1,u2⟩:=e5 hd;have hNN:n1++f++n3=N:=by rw[hN,z1,z2]
         rw[hNN];refine⟨u1.frame λz hz=>KV z (p10.inb z hz) (e4 z hz),?_⟩;simp only[Cx.jb,if_true,Fs];exact u2
        ·simp[Cx.jb,Fs])
      intro next Q hk
      unfold Oper.wp;have hr:(execOp a.eval o).run P c.w= .ok .skip (putCells c.w m (kv.toNat*sz+k) (a.eval y).cells.toList):=by have:=zse (P:=P) (t:=t) (v:=a.eval y) (off:=kv.toNat*sz+k) p6' BC o4 (by rw[o4,p7];omega) o2;simp[execOp,ho,hv,this]
      rw[hr,Oper.upon_skip];refine hk _ ((c.da (fz.map (·.1))).jb (putCells c.w m (kv.toNat*sz+k) (a.eval y).cells.toList) b (if(d&&dx)=true then((c.da (fz.map (·.1))).G b).O else [])) ⟨rfl,rfl,rfl,rfl,λt ht=> .inl ht⟩ ?_;have:=Ib.put (v:=Go.undef) ((SR.undef .nil).mkGd []) o.dst;rw[Q4];exact this
   ·cases he
  ·cases he
 all_goals (rename_i hl;obtain⟨_,_,_,_,_,BO⟩:=A3;first|(rw[BO]at hl;cases hl;done)|exact absurd BO (hl _ _ _ _ _)|cases he)
end
def Mg(a:Act)(o:Oper):Bool:=match o.op with| .binOp _ _ x _ _=>(match a.eval x with| .slice none _ _=>true|_=>false)|_=>false
section
variable (P:Program) (sg:BW) (Rt:Nat->List AV->AV->Prop)
def Qn:Prop:= ∀(c:Cx) (n nx:Nat) (sl:Nat->SV) (hp:Nat->Option Aj) (a:Act) (sl0:Nat->SV) (hp0:Nat->Option Aj) (o:Oper) (gs:Gd) (e:Bf) (nv:Nat),BB P c n nx sl hp a sl0 hp0 o gs-> ¬c.U (nx+999)->NH P sg sl0 hp0 nv nx gs o=some e->
 (∀q∈e.dn,q.den c.ρ)->(∀cl,e.call=some cl-> ∃r,c.ρ[nv]?=some r/\JZ Rt cl.fn ((EL.of cl.args).den c.ρ) c.ρ r)->(∀x,e.df=some x->c.ρ[nv]?=some (.bool (Mg a o)))->AK P o c n nx sl hp gs a e
def WT:Prop:= ∀(c:Cx) (n nx:Nat) (sl:Nat->SV) (hp:Nat->Option Aj) (a:Act) (sl0:Nat->SV) (hp0:Nat->Option Aj) (o:Oper) (gs:Gd) (e:Bf) (nv:Nat) (x:E),BB P c n nx sl hp a sl0 hp0 o gs->NH P sg sl0 hp0 nv nx gs o=some e->e.df=some x->Mg a o=true->x.den c.ρ= .sl []
end
theorem zzR{hp:Nat->Option Aj}(l:List (Nat × Aj))(t:Nat):(Bo hp l t=hp t/\ ∀e,(t,e)∉l)\/ ∃e,(t,e)∈l/\Bo hp l t=some e:=by
 induction l generalizing hp with
 |nil=>exact .inl ⟨rfl,by simp⟩
 |cons p l ih=>
  obtain⟨u,f⟩:=p;rcases ih (hp:=λv=>if v=u then some f else hp v)with⟨h1,h2⟩|⟨e,h1,h2⟩
  ·by_cases ht:t=u
   ·subst ht;refine .inr ⟨f,by simp,?_⟩;have:Bo hp ((t,f)::l) t=Bo (λv=>if v=t then some f else hp v) l t:=rfl;rw[this,h1];simp
   ·refine .inl ⟨?_,λe he=> ?_⟩
    ·have:Bo hp ((u,f)::l) t=Bo (λv=>if v=u then some f else hp v) l t:=rfl;rw[this,h1,if_neg ht]
    ·rcases Ag.1 he with he|he
     ·cases he;exact ht rfl
     ·exact h2 e he
  ·exact .inr ⟨e,by simp[h1],h2⟩
section
variable {P:Program} {sg:BW} {Rt:Nat->List AV->AV->Prop} {c:Cx} {n nx:Nat} {sl:Nat->SV} {hp:Nat->Option Aj} {a:Act} {ops:Array Oper} {o:Oper} {gs:Gd} {e:Bf}
theorem Rel.skip(h:Rel c n sl hp a)(hg: ¬Bt c.ρ gs){l:List (Nat × Aj)}(hl:∀t x,(t,x)∈l->nx<=t/\t<nx+B1/\ ∃hs y,x= .gd hs y/\MU gs hs=true)(Bm:∀t,nx<=t->t<nx+B1-> ¬c.U t)(s:SV)(d:Option Nat):
  Rel {c with U:=λt=>c.U t\/(nx<=t/\t<nx+B1)} n (Dg n sl d (mkGd gs s)) (Bo hp l) (a.put d undef):=by
 have hs:SR {c with U:=λt=>c.U t\/(nx<=t/\t<nx+B1)} [mkGd gs s] [undef]:=by
  cases gs with
  |nil=>exact absurd (Fy _) hg
  |cons g gs=>exact .gd (λhh=>absurd hh hg) (λ_=>rfl) .nil
 refine Rel.put ?_ hs d;refine h.change (λt=> ∃x,(t,x)∈l) ⟨rfl,rfl,λ_ _ hb=>hb,λ_ _ _=>rfl,λ_ _ hk=>⟨hk,rfl⟩,λ_ _ _=>⟨AF _,λ_=>⟨rfl,λ_ _ _=>rfl⟩⟩⟩ ⟨h.base.os,h.base.tape,h.base.output,h.base.size,λt v hp=>⟨.inl (h.base.pins t v hp).1,(h.base.pins t v hp).2⟩,h.base.block,h.base.pk,h.base.lo⟩ (λt ht=> ?_) (λ_ _ _ _=>rfl) (λt ht=> ?_) ⟨h.gw.nodup,h.gw.dt,h.gw.allow,h.gw.inb⟩ (λt g hk=> .inl (h.de t g hk)) (λt x hx=> ?_)
 ·exact⟨Nn λx hx=>ht ⟨x,hx⟩,rfl,rfl,λg hk=>hk⟩
 ·obtain⟨x,hx⟩:=ht;rcases zzR (hp:=hp) l t with⟨_,h2⟩|⟨x',h1,h2⟩
  ·exact absurd hx (h2 x)
  ·obtain⟨q1,q2,hs,y,rfl,Cl⟩:=hl t x' h1;have DQ:∀e',¬C4 c.ρ (Bo hp l t) e':=by
    rw[h2];exact λe' hr=>hg (lU Cl hr.1)
   refine⟨λe' hr=>absurd hr (DQ e'),λ_=>h.off t λe' hr=> ?_⟩;cases hh:hp t with
   |none=>rw[hh]at hr;exact hr.elim
   |some e9=>exact Bm t q1 q2 (h.dv t e9 hh)
 ·rcases zzR (hp:=hp) l t with⟨h1,_⟩|⟨x',h1,_⟩
  ·rw[h1]at hx;exact .inl (h.dv t x hx)
  ·obtain⟨q1,q2,_⟩:=hl t x' h1;exact .inr ⟨q1,q2⟩
def Zj(ρ:List AV)(ops:Array Oper)(o:Oper)(a:Act):Option Gd->Prop
 |none=>Region.wanted o (yielded ops a.tmps)=false
 |some gs=>(Bt ρ gs->Region.wanted o (yielded ops a.tmps)=true)/\(¬Bt ρ gs->Region.wanted o (yielded ops a.tmps)=false)
theorem zw7{σ:St}{r:Option Gd}(hg:Q3 σ ops o=some r)(hs:∀j want d,o.guard=some (j,want)->(ops[j]?).bind (·.dst)=some d->SR c [BV σ d] [a.tmps.getD d undef]):Zj c.ρ ops o a r:=by
 unfold Q3 at hg;cases Ig:o.guard with
 |none=>rw[Ig]at hg;simp only[Af]at hg;subst hg;exact⟨λ_=>by simp[Region.wanted,Ig],λhn=>absurd (Fy _) hn⟩
 |some jw=>
  obtain⟨j,want⟩:=jw;rw[Ig]at hg;simp only at hg;cases hd:(ops[j]?).bind (·.dst)with
  |none=>rw[hd]at hg;simp only[Af]at hg;subst hg;simp[Zj,Region.wanted,Ig,yielded,hd]
  |some d=>
   rw[hd]at hg;simp only at hg;have hr:=hs j want d Ig hd;have hw:∀v,a.tmps.getD d undef=v->Region.wanted o (yielded ops a.tmps)=(match v with| .bool b=>b==want|_=>false):=by
    intro v hv;simp only[Region.wanted,Ig,yielded,hd,Aa];rw[Array.getD_eq_getD_getElem?]at hv;cases hq:a.tmps[d]? with
    |none=>rw[hq]at hv;simp at hv;subst hv;simp[undef]
    |some u=>rw[hq]at hv;simp at hv;subst hv;cases u<;>simp
   generalize a.tmps.getD d undef=v at hr hw;have hw:=hw v rfl;have ML:v=undef->Region.wanted o (yielded ops a.tmps)=false:=by rintro rfl;rw[hw];simp[undef]
   have IY:∀x f,Rd c.w [v] [x] f->(x= .bool want->Region.wanted o (yielded ops a.tmps)=true)/\(x≠ .bool want->Region.wanted o (yielded ops a.tmps)=false):=by
    intro x f hx;refine⟨λh=> ?_,λh=> ?_⟩
    ·rw[hw,JW hx h];simp
    ·rw[hw];cases v<;>simp only;rename_i b;cases hx with
     |bool _=>simpa using λhh=>h (by rw[hh])
   split at hg
   ·rename_i b Dh;rw[Dh]at hr;cases hr with
    |e h1 _ _=>
     simp only[Af]at hg;subst hg;obtain⟨q1,q2⟩:=IY _ _ h1;simp only[E.den,AV.bool.injEq]at q1 q2;split
     ·rename_i hb;simp only[Az]at hb;exact⟨λ_=>q1 hb,λhn=>absurd (Fy _) hn⟩
     ·rename_i hb;simp only[Az]at hb;exact q2 (by simpa using hb)
   ·rename_i x _ Dh;rw[Dh]at hr;cases hr with
    |e h1 _ _=>simp only[Af]at hg;subst hg;obtain⟨q1,q2⟩:=IY _ _ h1;exact⟨λhh=>q1 (hh (x,want) (by simp)),λhn=>q2 λhh=>hn (by intro g hg;simp at hg;subst hg;exact hh)⟩
   ·rename_i A9 s Dh;rw[Dh]at hr;cases hr with
    |gd h1 h2 _=>
     split at hg
     ·rename_i hf;simp only[Af]at hg;subst hg;refine ML (h2 λhk=> ?_);simp only[zJv,List.any_eq_true]at hf;obtain⟨g,hg,nR⟩:=hf;have:=hk g hg;split at nR
      ·rename_i b hb;rw[hb]at this;simp only[E.den,AV.bool.injEq]at this;simp[this]at nR
      ·cases nR
     ·split at hg
      ·rename_i b;simp only[Af]at hg;subst hg;by_cases hk:Bt c.ρ A9
       ·have h1:=h1 hk;cases h1 with
        |e h1 _ _=>
         obtain⟨q1,q2⟩:=IY _ _ h1;simp only[E.den,AV.bool.injEq]at q1 q2;split
         ·rename_i hb;simp only[Az]at hb;exact⟨λ_=>q1 hb,λhn=>absurd hk hn⟩
         ·rename_i hb;simp only[Az]at hb;exact q2 (by simpa using hb)
       ·split
        ·exact⟨λhh=>absurd hh hk,λ_=>ML (h2 hk)⟩
        ·exact ML (h2 hk)
      ·rename_i x _;simp only[Af]at hg;subst hg;by_cases hk:Bt c.ρ A9
       ·have h1:=h1 hk;cases h1 with
        |e h1 _ _=>obtain⟨q1,q2⟩:=IY _ _ h1;exact⟨λhh=>q1 (hh (x,want) (by simp)),λhn=>q2 λhh=>hn (by intro g hg;rcases Ag.1 hg with rfl|hg;exact hh;exact hk g hg)⟩
       ·exact⟨λhh=>absurd (λg hg=>hh g (by simp[hg])) hk,λ_=>ML (h2 hk)⟩
      ·cases hg
   ·cases hg
theorem zKa(AY:Qn P sg Rt){Q:Exit->Act->World->Prop}{K:Act->World->Prop}{i nv:Nat}(hi:ops[i]?=some o)(As:Rel c n sl hp a){sl0:Nat->SV}{hp0:Nat->Option Aj}(Ey:Zj c.ρ ops o a (some gs))
  (Dh:∀t,Operand.tmp t∈o.op.operands->sl0 t=sl t) (hhp:∀t e,hp0 t=some e->hp t=some e) (Bm:∀t,nx<=t->t<nx+B1-> ¬c.U t)
  (he:NH P sg sl0 hp0 nv nx gs o=some e) (BK:gs≠ []-> ∀t x,(t,x)∈e.cy->nx<=t/\t<nx+B1/\ ∃hs y,x= .gd hs y/\MU gs hs=true)
  (hc:Bt c.ρ gs-> ∀q∈e.dn,q.den c.ρ) (Bp:∀cl,e.call=some cl-> ∃r,c.ρ[nv]?=some r/\(Bt c.ρ gs->JZ Rt cl.fn ((EL.of cl.args).den c.ρ) c.ρ r)) (Dr:∀x,e.df=some x->Bt c.ρ gs->c.ρ[nv]?=some (.bool (Mg a o)))
  (hK:∀a' c',Qr c c' nx->Rel c' n (Dg n sl o.dst (mkGd gs e.val)) (Bo hp e.cy) a'->K a' c'.w):wpOp P ops Q i K a c.w:=by
 unfold wpOp;simp only[hi];by_cases hg:Bt c.ρ gs
 ·rw[if_pos (Ey.1 hg)];exact .inl (AY c n nx sl hp a sl0 hp0 o gs e nv ⟨As,hg,Dh,hhp,λt h1 h2=>Bm t h1 (by simp only[B1];omega)⟩ (Bm _ (by omega) (by simp[B1])) he (hc hg) (λcl AG=>by obtain⟨r,h1,h2⟩:=Bp cl AG;exact⟨r,h1,h2 hg⟩) (λx hx=>Dr x hx hg) _ _ hK)
 ·rw[if_neg (by rw[Ey.2 hg];simp)];have BY:gs≠ []:=by rintro rfl;exact hg (Fy _)
  exact hK _ {c with U:=λt=>c.U t\/(nx<=t/\t<nx+B1)} ⟨rfl,rfl,rfl,rfl,λt ht=>ht⟩ (As.skip hg (BK BY) Bm e.val o.dst)
end
def Cx.ext(c:Cx)(τ:List AV):Cx:={c with ρ:=c.ρ++τ}
theorem den_app{ρ τ:List AV}{x:E}(h:x.sc ρ.length=true):x.den (ρ++τ)=x.den ρ:=by have:=E.bp ρ τ [] x h;rw[AH]at this;exact this
theorem zKq{ρ τ:List AV}{x:EL}(h:x.sc ρ.length=true):x.den (ρ++τ)=x.den ρ:=by have:=EL.bp ρ τ [] x h;rw[AH]at this;exact this
theorem Nk{ρ τ:List AV}{gs:Gd}(h:Xj ρ.length gs=true):Bt (ρ++τ) gs↔Bt ρ gs:=by simp only[Xj,Bd]at h;exact⟨λk g hg=>by rw[<-den_app (τ:=τ) (h g hg)];exact k g hg,λk g hg=>by rw[den_app (h g hg)];exact k g hg⟩
theorem BS.iy{n:Nat}:∀{cs:BS},cs.sc n=true-> ∀s∈cs.toList,s.sc n=true
 | .nil,_,s,h=>by simp[BS.toList]at h
 | .cons s cs,h,u,hu=>by
  simp only[BS.sc,Ac]at h;simp only[BS.toList,Ag]at hu;rcases hu with rfl|hu
  ·exact h.1
  ·exact BS.iy h.2 u hu
section
variable {c:Cx} {n:Nat} {sl:Nat->SV} {hp:Nat->Option Aj} {a:Act} {τ:List AV}
theorem J3.ext{t g:Nat}{p:Pp}{v:Value}(hs:(match p with|some q=>q.1.sc c.ρ.length|none=>true)=true)(h:J3 c t g p v):J3 (c.ext τ) t g p v:=by
 cases p with
 |none=>exact trivial
 |some p=>obtain⟨i,z,o⟩:=p;obtain⟨b,n,cap,C,ty,fz,kk,k,h1,h2,h3,h4,h5⟩:=h;exact⟨b,n,cap,C,ty,fz,kk,k,h1,h2,h3,by show i.den (c.ρ++τ)=_;rw[den_app hs];exact h4,h5⟩
theorem SR.ext{ss:List SV}{vs:List Value}(h:SR c ss vs):(∀s∈ss,s.sc c.ρ.length=true)->SR (c.ext τ) ss vs:=by
 have tl:∀{s:SV} {ss:List SV},(∀x∈s::ss,x.sc c.ρ.length=true)-> ∀x∈ss,x.sc c.ρ.length=true:=λh x hx=>h x (by simp[hx]);have hd:∀{s:SV} {ss:List SV},(∀x∈s::ss,x.sc c.ρ.length=true)->s.sc c.ρ.length=true:=λh=>h _ (by simp);have hρ:(c.ext τ).ρ=c.ρ++τ:=rfl
 induction h with
 |nil=>exact λ_=> .nil
 |undef _ ih=>exact λhs=> .undef (ih (tl hs))
 |e h1 h2 _ ih=>exact λhs=> .e (by rw[hρ,den_app (hd hs)];exact h1) h2 (ih (tl hs))
 |dg _ ih=>exact λhs=> .dg (ih (tl hs))
 |emp _ ih=>exact λhs=> .emp (ih (tl hs))
 |own h1 h2 _ ih=>exact λhs=> .own h1 h2 (ih (tl hs))
 |dq h1 h2 _ ih=>exact λhs=> .dq h1 h2 (ih (tl hs))
 |du h1 h2 h3 h4 h5 _ ih=>exact λhs=> .du h1 h2 (by rw[hρ,den_app (hd hs)];exact h3) h4 h5 (ih (tl hs))
 |fc h1 h2 h3 h4 h5 h6 _ ih=>intro hs;have:=hd hs;simp only[SV.sc,Ac]at this;exact .fc (by rw[hρ,den_app this.1];exact h1) h2 (by rw[hρ,den_app this.2];exact h3) h4 h5 (by rw[hρ,den_app this.1];exact h6) (ih (tl hs))
 |ez h1 h2 _ ih=>exact λhs=> .ez (by rw[hρ,den_app (hd hs)];exact h1) h2 (ih (tl hs))
 |agg h9 _ _ ih1 ih2=>exact λhs=> .agg h9 (ih1 (BS.iy (hd hs))) (ih2 (tl hs))
 |tup _ _ ih1 ih2=>exact λhs=> .tup (ih1 (BS.iy (hd hs))) (ih2 (tl hs))
 |fn _ _ ih1 ih2=>exact λhs=> .fn (ih1 (BS.iy (hd hs))) (ih2 (tl hs))
 |gd _ h2 _ ih1 ih2=>intro hs;have:=hd hs;simp only[SV.sc,Ac]at this;exact .gd (λhg=>ih1 ((Nk this.1).1 hg) (by simpa using this.2)) (λhg=>h2 λk=>hg ((Nk this.1).2 k)) (ih2 (tl hs))
 | @via t g n p x v ss vs h1 h2 h3 _ ih=>intro hs;have:=hd hs;simp only[SV.sc,Ac]at this;refine .via h1 h2 (λhe=> ?_) (ih (tl hs));obtain⟨q1,q2⟩:=h3 he;exact⟨by rw[hρ,den_app this.2];exact q1,J3.ext (τ:=τ) this.1 q2⟩
 | @vptr t g n p x i sz o v ss vs h1 h2 h3 _ ih=>intro hs;have:=hd hs;simp only[SV.sc,Ac]at this;refine .vptr h1 h2 (λhe=> ?_) (ih (tl hs));obtain⟨b,off,len,cap,kk,k,q1,q2,q3,q4,q5,q6,q7⟩:=h3 he;exact⟨b,off,len,cap,kk,k,by rw[hρ,den_app this.1.2];exact q1,J3.ext (τ:=τ) this.1.1 q2,by rw[hρ,den_app this.2];exact q3,q4,q5,by rw[hρ,den_app this.1.2];exact q6,q7⟩
 |wown h1 h2 h3 h4 h5 h6 _ ih=>exact λhs=> .wown h1 h2 (by rw[hρ,den_app (hd hs)];exact h3) h4 h5 h6 (ih (tl hs))
 | @lent i _ _ _ h1 _ ih=>exact λhs=> .lent (by rw[hρ,den_app (x:= .var i) (by simpa[SV.sc,E.sc]using hd hs)];exact h1) (ih (tl hs))
theorem DL.ext{t:Nat}{e:Aj}(h:DL c t e)(hs:e.sc c.ρ.length=true):DL (c.ext τ) t e:=by
 have hρ:(c.ext τ).ρ=c.ρ++τ:=rfl;cases e with
 |box ty g cs=>obtain⟨b,C,h1,h2,h3,h4,h5,h6,h7⟩:=h;exact⟨b,C,h1,h2,h3,h4,h5,h6,h7.ext (by simpa[Aj.sc]using hs)⟩
 |row ety sz g x d=>obtain⟨h1,h2,N,h3,h4,h5⟩:=h;exact⟨h1,h2,N,by rw[hρ,den_app hs];exact h3,h4,h5⟩
 |da g x=>obtain⟨h1,⟨f,h2,h3⟩,h4⟩:=h;exact⟨h1,⟨f,by rw[hρ,den_app hs];exact h2,h3⟩,h4⟩
 |gd gs e=>exact h
 |dead=>exact h
 |deep e z l g ep x=>obtain⟨h1,h2,h3,h4,h5⟩:=h;exact⟨h1,h2,h3,by rw[hρ,den_app hs];exact h4,h5⟩
 |hol e z l g ep x i o u=>simp only[Aj.sc,Ac]at hs;obtain⟨h1,h2,h3,h4,h5⟩:=h;exact⟨h1,h2,h3,by rw[hρ,den_app hs.1,den_app hs.2];exact h4,h5⟩
 |pre e z l g ep x k=>simp only[Aj.sc,Ac]at hs;obtain⟨h1,h2,h3,h4,h5⟩:=h;exact⟨h1,h2,h3,by rw[hρ,den_app hs.1,den_app hs.2];exact h4,h5⟩
theorem zNC{ρ:List AV}{e0 e:Aj}(hs:e0.sc ρ.length=true):C4 (ρ++τ) (some e0) e↔C4 ρ (some e0) e:=by
 cases e0 with
 |gd gs x=>simp only[Aj.sc,Ac]at hs;simp only[C4];rw[Nk hs.1]
 |_=>simp[C4]
theorem Rel.ext(h:Rel c n sl hp a)(h1:∀i,(sl i).sc c.ρ.length=true)(h2:∀t e,hp t=some e->e.sc c.ρ.length=true)(τ:List AV):Rel (c.ext τ) n sl hp a:=by
 have key:∀t e,C4 (c.ρ++τ) (hp t) e↔C4 c.ρ (hp t) e:=by
  intro t e;cases hh:hp t with
  |none=>exact Iff.rfl
  |some e0=>exact zNC (h2 t e0 hh)
 refine⟨h.defers,h.size,⟨h.base.os,h.base.tape,h.base.output,h.base.size,h.base.pins,h.base.block,h.base.pk,h.base.lo⟩,λi=>(h.ee i).ext (by simpa using h1 i),λt e hr=> ?_,λt hn=>h.off t λe hr=>hn e ((key t e).2 hr),⟨h.gw.nodup,h.gw.dt,h.gw.allow,h.gw.inb⟩,h.de,h.dv⟩;have Et:=(key t e).1 hr;have he:=h.ents t e Et;cases hh:hp t with
 |none=>rw[hh]at Et;exact Et.elim
 |some e0=>
  have Fv:=h2 t e0 hh;rw[hh]at Et;cases e0 with
  |gd gs x=>
   obtain⟨_,rfl⟩:=Et;simp only[Aj.sc,Ac]at Fv;cases x with
   |gd=>exact he
   |dead=>exact he
   |box=>exact he.ext (by simpa[Aj.sc]using Fv.2)
   |row=>exact he.ext (by simpa[Aj.sc]using Fv.2)
   |da=>exact he.ext (by simpa[Aj.sc]using Fv.2)
   |deep=>exact he.ext (by simpa[Aj.sc]using Fv.2)
   |hol=>exact he.ext (by simpa[Aj.sc]using Fv.2)
   |pre=>exact he.ext (by simpa[Aj.sc]using Fv.2)
  |_=>simp only[C4]at Et;subst Et;exact he.ext Fv
theorem St.nj{σ:St}(h:σ.sc=true)(i:Nat):(BV σ i).sc σ.nv=true:=by
 simp only[St.sc,Ac,Bd]at h;unfold BV;cases hi:σ.sl[i]? with
 |none=>simp[SV.sc]
 |some s=>exact h.1 s (List.mem_of_getElem? hi)
theorem St.mw{σ:St}(h:σ.sc=true)(t:Nat)(e:Aj)(he:AR σ.hp t=some e):e.sc σ.nv=true:=by simp only[St.sc,Ac,Bd]at h;exact h.2 _ (Kp he)
theorem Cn.lr{ρ τ:List AV}{q:Cn}(h:q.sc ρ.length=true):q.den (ρ++τ)↔q.den ρ:=by
 cases q<;>simp only[Cn.sc,Ac]at h<;>simp only[Cn.den]
 case dfd=>rw[den_app h]
 case agg=>rw[den_app h]
 case cells=>rw[den_app h]
 case inb=>rw[den_app h.1,den_app h.2]
 case inbS=>rw[den_app h.1,den_app h.2]
 case win=>rw[den_app h.1.1,den_app h.1.2,den_app h.2]
 case winS=>rw[den_app h.1.1,den_app h.1.2,den_app h.2]
 case room=>rw[den_app h.1,den_app h.2]
 case roomS=>rw[den_app h.1,den_app h.2]
 case mkroom=>rw[den_app h]
 case nz=>rw[den_app h]
 case nn=>rw[den_app h]
 case isref=>rw[den_app h]
 case issl=>rw[den_app h]
 case flat=>rw[den_app h]
 case flatS=>rw[den_app h]
 case kinds=>rw[den_app h]
theorem sP:SR c [Iv] [Go.undef]:= .gd (λhg=>by have:=hg (.bool false,true) (by simp);simp[E.den]at this) (λ_=>rfl) .nil
theorem zDo{ρ:List AV}{x:E}{b:Bool}{hs:Gd}(hx:x.den ρ= .bool b)(h:Qj (x, !b) hs=true): ¬Bt ρ hs:=by intro k;have:=zFB h k;simp only at this;rw[hx]at this;simp at this
theorem zsB{ρ:List AV}{x:E}{b:Bool}{hs:Gd}(hx:x.den ρ= .bool b):Bt ρ (hs.filter λh=> !(h.1.beq x&&h.2==b))↔Bt ρ hs:=by
 refine⟨λk g hg=> ?_,λk g hg=>k g (List.mem_filter.1 hg).1⟩;by_cases hh:(g.1.beq x&&g.2==b)=true
 ·simp only[Ac,Az]at hh;rw[E.ay ρ _ _ hh.1,hx,hh.2]
 ·exact k g (List.mem_filter.2 ⟨hg,by rw[Bool.not_eq_true]at hh;rw[hh];rfl⟩)
theorem SR.l5{s:SV}{v:Value}{gs:Gd}(h1:Bt c.ρ gs->SR c [s] [v])(h2: ¬Bt c.ρ gs->v=Go.undef):SR c [Go.Proofs.YtlmjpjceiefpoaaGreat.mkGd gs s] [v]:=by
 cases gs with
 |nil=>exact h1 (Fy _)
 |cons g gs=>exact .gd h1 h2 .nil
theorem SR.iv{x:E}{b:Bool}(hx:x.den c.ρ= .bool b){s:SV}{v:Value}(h:SR c [s] [v]):SR c [assumeS x b s] [v]:=by
 cases s with
 |gd hs s=>
  simp only[Go.Proofs.YtlmjpjceiefpoaaGreat.assumeS];cases h with
  |gd h1 h2 _=>
   split
   ·rename_i hm;rw[h2 (zDo hx hm)];exact sP
   ·exact SR.l5 (λk=>h1 ((zsB hx).1 k)) (λk=>h2 λk'=>k ((zsB hx).2 k'))
 |_=>exact h
theorem zIX(f:Aj->Aj)(l:List (Nat × Aj))(t:Nat):AR (l.map λ(t,e)=>(t,f e)) t=(AR l t).map f:=by
 induction l with
 |nil=>rfl
 |cons p l ih=>
  obtain⟨u,e⟩:=p;simp only[List.map_cons,AR];split
  ·rfl
  ·exact ih
theorem Rel.iv{x:E}{b:Bool}(hx:x.den c.ρ= .bool b)(h:Rel c n sl hp a):Rel c n (λi=>assumeS x b (sl i)) (λt=>(hp t).map (assumeE x b)) a:=by
 have NZ:∀t,(∀e,C4 c.ρ (hp t) e-> ∃gs y,e= .gd gs y\/e= .dead)->(c.G t).top=[]/\(c.G t).O=[]:=by
  intro t ht;by_cases hh:∃e,C4 c.ρ (hp t) e
  ·obtain⟨e,he⟩:=hh;obtain⟨gs,y,rfl|rfl⟩:=ht e he
   ·exact h.ents t _ he
   ·exact h.ents t _ he
  ·exact h.off t λe he=>hh ⟨e,he⟩
 have cases':∀t,((∀e,C4 c.ρ ((hp t).map (assumeE x b)) e↔C4 c.ρ (hp t) e))\/((hp t).map (assumeE x b)=some .dead/\(c.G t).top=[]/\(c.G t).O=[]):=by
  intro t;cases hh:hp t with
  |none=>exact .inl λe=>Iff.rfl
  |some e0=>
   cases e0 with
   |gd hs y=>
    by_cases hm:Qj (x, !b) hs=true
    ·refine .inr ⟨by simp[Go.Proofs.YtlmjpjceiefpoaaGreat.assumeE,hm],NZ t λe he=> ?_⟩;rw[hh]at he;exact absurd he.1 (zDo hx hm)
    ·by_cases hy:∃gs z,y= .gd gs z
     ·obtain⟨gs,z,rfl⟩:=hy;refine .inr ⟨by simp[Go.Proofs.YtlmjpjceiefpoaaGreat.assumeE,hm],NZ t λe he=> ?_⟩;rw[hh]at he;exact⟨gs,z, .inl he.2.symm⟩
     ·refine .inl λe=> ?_;have he:assumeE x b (.gd hs y)=Dk (hs.filter λh=> !(h.1.beq x&&h.2==b)) y:=by
       simp only[Go.Proofs.YtlmjpjceiefpoaaGreat.assumeE,hm,A6,if_false];cases y<;>first|rfl|exact absurd ⟨_,_,rfl⟩ hy
      simp only[Option.map_some,he];show _↔Bt c.ρ hs/\y=e;rw[<-zsB hx];generalize (hs.filter λh=> !(h.1.beq x&&h.2==b))=fs;cases fs with
      |nil=>simp only[Dk,Fy,true_and];cases y<;>first|exact absurd ⟨_,_,rfl⟩ hy|exact Iff.rfl
      |cons g fs=>exact Iff.rfl
   |_=>exact .inl λe=>Iff.rfl
 refine⟨h.defers,h.size,h.base,λi=>(h.ee i).iv hx,λt e hr=> ?_,λt hn=> ?_,h.gw,h.de,λt e he=> ?_⟩
 ·rcases cases' t with hc|⟨hc,h1,h2⟩
  ·exact h.ents t e ((hc e).1 hr)
  ·rw[hc]at hr;have:Aj.dead=e:=hr;subst this;exact⟨h1,h2⟩
 ·rcases cases' t with hc|⟨hc,h1,h2⟩
  ·exact h.off t λe he=>hn e ((hc e).2 he)
  ·exact⟨h1,h2⟩
 ·cases hh:hp t with
  |none=>rw[hh]at he;cases he
  |some e0=>exact h.dv t e0 hh
end
theorem zt2{σ:St}{d:Option Nat}{s:SV}:BV (Jf σ d s)=Dg σ.sl.length (BV σ) d s:=by
 funext i;cases d with
 |none=>simp[Jf,Dg]
 |some d=>
  simp only[Jf,BV,Dg,Af,List.getElem?_set];by_cases h:d=i
  ·subst h;by_cases h2:d<σ.sl.length
   ·simp[h2]
   ·simp[h2,List.getElem?_eq_none (Nat.le_of_not_lt h2)]
  ·simp[h]
theorem zrT{σ:St}{d:Option Nat}{s:SV}:(Jf σ d s).sl.length=σ.sl.length:=by cases d<;>simp[Jf]
theorem zuv{σ:St}{d:Option Nat}{s:SV}:(Jf σ d s).hp=σ.hp:=by cases d<;>rfl
theorem zuM{σ:St}{d:Option Nat}{s:SV}:(Jf σ d s).nv=σ.nv:=by cases d<;>rfl
theorem zJM(l:List (Nat × Aj))(t:Nat)(e:Aj)(u:Nat):AR (MW l t e) u=if u=t then some e else AR l u:=by
 induction l with
 |nil=>
  simp only[MW,AR];by_cases h:t=u
  ·simp[h]
  ·rw[if_neg h,if_neg (Ne.symm h)]
 |cons p l ih=>
  obtain⟨v,f⟩:=p;simp only[MW];split
  ·rename_i hv;subst hv;simp only[AR];by_cases h:v=u
   ·simp[h]
   ·rw[if_neg h,if_neg (Ne.symm h),if_neg h]
  ·rename_i hv;simp only[AR];by_cases h:v=u
   ·subst h;rw[if_pos rfl,if_neg hv,if_pos rfl]
   ·rw[if_neg h,ih,if_neg h]
theorem zzO:∀(ents:List (Nat × Aj)) (l:List (Nat × Aj)),AR (ents.foldl (λl (p:Nat × Aj)=>MW l p.1 p.2) l)=Bo (AR l) ents
 | [],l=>rfl
 |(t,e)::ents,l=>by
  simp only[List.foldl_cons];rw[zzO ents];have:AR (MW l t e)=λu=>if u=t then some e else AR l u:=by funext u;exact zJM l t e u
  rw[this];rfl
section
variable {P:Program} {sg:BW} {Rt:Nat->List AV->AV->Prop} {ops:Array Oper}
theorem zFD{σ:St}{gs:Gd}{o:Oper}{e:Bf}:BV (Nl σ gs o e)=Dg σ.sl.length (BV σ) o.dst (mkGd gs e.val):=by rw[<-zt2];rfl
theorem zFI{σ:St}{gs:Gd}{o:Oper}{e:Bf}:AR (Nl σ gs o e).hp=Bo (AR σ.hp) e.cy:=by
 have:(Nl σ gs o e).hp=e.cy.foldl (λl (p:Nat × Aj)=>MW l p.1 p.2) σ.hp:=by show e.cy.foldl (λl (p:Nat × Aj)=>MW l p.1 p.2) (Jf σ o.dst (mkGd gs e.val)).hp=_;rw[zuv]
 rw[this,zzO]
theorem zDu{σ:St}{gs:Gd}{o:Oper}{e:Bf}:(Nl σ gs o e).sl.length=σ.sl.length:=by show(Jf σ o.dst (mkGd gs e.val)).sl.length=_;rw[zrT]
theorem rC{σ:St}{gs:Gd}{o:Oper}{e:Bf}:(Nl σ gs o e).nv=if e.call.isSome||e.df.isSome then σ.nv+1 else σ.nv:=by show(if e.call.isSome||e.df.isSome then(Jf σ o.dst (mkGd gs e.val)).nv+1 else(Jf σ o.dst (mkGd gs e.val)).nv)=_;rw[zuM]
theorem qI{R:AV->Prop}{gs:Gd}{k:Tr}{L:LK}{js:List JK}{ρ:List AV}:∀{cs:List Cn},(cs.foldr (λc k=> .dn gs c k) k:Tr).den Rt R L js ρ->(Bt ρ gs-> ∀q∈cs,q.den ρ)/\k.den Rt R L js ρ
 | [],h=>⟨by simp,h⟩
 |c::cs,h=>by
  obtain⟨h1,h2⟩:=h;obtain⟨h3,h4⟩:=qI h2;refine⟨λhg q hq=> ?_,h4⟩;rcases Ag.1 hq with rfl|hq
  ·exact h1 hg
  ·exact h3 hg q hq
theorem zF8{l:List (Nat × Aj)}{R:List Nat}{t:Nat}{e:Aj}(h:RZ l R t=some e):AR l t=some e:=by
 unfold RZ at h;split at h
 ·exact h
 ·cases h
theorem zAc{f:Nat ⊕ E}{as_:EL}{ρ τ:List AV}{r:AV}(h1:(match f with| .inl _=>true| .inr x=>x.sc ρ.length)=true)(h2:as_.sc ρ.length=true):JZ Rt f (as_.den (ρ++τ)) (ρ++τ) r↔JZ Rt f (as_.den ρ) ρ r:=by
 rw[zKq h2];cases f with
 |inl f=>exact Iff.rfl
 |inr x=>simp only[JZ];rw[den_app h1]
theorem EL.l8{n:Nat}:∀{l:List E},l.all (E.sc n)=true->(EL.of l).sc n=true
 | [],_=>rfl
 |x::l,h=>by simp only[List.all_cons,Ac]at h;simp only[EL.of,EL.sc,Ac];exact⟨h.1,EL.l8 h.2⟩
structure KE(F:Fix)(c:Cx)(σ:St)(a:Act)(n m:Nat):Prop where
 w0:c.w0=F.w0
 A:c.A=F.A
 Mu:c.Mu=F.Mu
 nv:c.ρ.length=σ.nv
 len:σ.sl.length=n
 U:∀t,c.U t->t<m
 rel:Rel c n (BV σ) (AR σ.hp) a
theorem KE.ext{F:Fix}{c:Cx}{σ:St}{a:Act}{n m:Nat}(h:KE F c σ a n m)(hs:σ.sc=true)(τ:List AV):Rel (c.ext τ) n (BV σ) (AR σ.hp) a:=
 h.rel.ext (λi=>by rw[h.nv];exact St.nj hs i) (λt e he=>by rw[h.nv];exact St.mw hs t e he) τ
theorem zQq(AY:Qn P sg Rt)(EJ:WT P sg){F:Fix}{c:Cx}{σ:St}{a:Act}{n i base:Nat}{o:Oper}{gs:Gd}{e:Bf}{k:Tr}{R:AV->Prop}{L:LK}{js:List JK}{Q:Exit->Act->World->Prop}{K:Act->World->Prop}
  (hi:ops[i]?=some o) (hm:KE F c σ a n (base+B1*i)) (Ey:Zj c.ρ ops o a (some gs)) {Rs:List Nat} (he:NH P sg (BV σ) (RZ σ.hp Rs) σ.nv (base+B1*i) gs o=some e) (Fv:RP σ.nv (base+B1*i) σ.hp gs e=true)
  (V7:(e.call.isSome||e.df.isSome)=true->σ.sc=true) (hd:(ZX gs e k).den Rt R L js c.ρ)
  (hK:∀(c':Cx) (a':Act),c.ρ<+:c'.ρ->KE F c' (Nl σ gs o e) a' n (base+B1*(i+1))->k.den Rt R L js c'.ρ->K a' c'.w):wpOp P ops Q i K a c.w:=by
 simp only[RP,Ac,Bd]at Fv;obtain⟨⟨⟨⟨BN,Ba⟩,FY⟩,hs4⟩,pF⟩:=Fv;have BK:gs≠ []-> ∀t x,(t,x)∈e.cy->base+B1*i<=t/\t<base+B1*i+B1/\ ∃hs y,x= .gd hs y/\MU gs hs=true:=by
  intro BY t x hx;have:=pF _ hx;have Vx:gs.isEmpty=false:=by cases gs;exact absurd rfl BY;rfl
  simp only[Vx,Bool.false_or,Bool.false_and,Bool.or_false,Ac,AS]at this;refine⟨this.1.1,this.1.2,?_⟩;have h3:=this.2;split at h3
  ·exact⟨_,_,rfl,h3⟩
  ·cases h3
 have Bm:∀t,base+B1*i<=t->t<base+B1*i+B1-> ¬c.U t:=λt h1 _ h3=>by have:=hm.U t h3;omega
 have G2:∀(τ:List AV),Rel (c.ext τ) n (BV σ) (AR σ.hp) a->τ.length=(if e.call.isSome||e.df.isSome then 1 else 0)->k.den Rt R L js (c.ρ++τ)->(Bt c.ρ gs-> ∀q∈e.dn,q.den c.ρ)->
   (∀cl,e.call=some cl-> ∃r,τ=[r]/\(Bt c.ρ gs->JZ Rt cl.fn ((EL.of cl.args).den c.ρ) c.ρ r))->(∀x,e.df=some x->τ=[.bool (Mg a o)])->wpOp P ops Q i K a c.w:=by
  intro τ As hτ hk hc Bp Dr;have GY:σ.nv=c.ρ.length:=hm.nv.symm;rw[GY]at BN Ba FY;have JD:∀r,τ=[r]->(c.ρ++τ)[σ.nv]?=some r:=by rintro r rfl;rw[GY];simp
  refine zKa (c:=c.ext τ) AY hi As ⟨λhg=>Ey.1 ((Nk BN).1 hg),λhg=>Ey.2 λk=>hg ((Nk BN).2 k)⟩ (λ_ _=>rfl) (λt e h=>zF8 h) Bm he BK (λhg q hq=> ?_) (λcl AG=> ?_) (λx hx _=>JD _ (Dr x hx)) (λa' c' Bl hr=> ?_)
  ·exact(Cn.lr (Ba q hq)).2 (hc ((Nk BN).1 hg) q hq)
  ·obtain⟨r,rfl,h2⟩:=Bp cl AG;rw[AG]at FY;simp only[Ac]at FY;exact⟨r,JD r rfl,λhg=>(zAc FY.1 (EL.l8 FY.2)).2 (h2 ((Nk BN).1 hg))⟩
  ·have hρ:c'.ρ=c.ρ++τ:=Bl.ρ;refine hK c' a' ⟨τ,hρ.symm⟩ ⟨Bl.w0.trans hm.w0,Bl.A.trans hm.A,Bl.Mu.trans hm.Mu,?_,by rw[zDu];exact hm.len,λt ht=> ?_,?_⟩ (by rw[hρ];exact hk)
   ·rw[hρ,rC,Aq,hτ,GY];split<;>rfl
   ·have hmul:base+B1*(i+1)=base+B1*i+B1:=by rw[Nat.mul_add];omega
    rw[hmul];rcases Bl.U t ht with h|h
    ·have:=hm.U t h;omega
    ·exact h.2
   ·rw[zFD,zFI,hm.len];exact hr
 unfold ZX at hd;obtain⟨hc,hd⟩:=qI hd;cases AG:e.call with
 |none=>
  simp only[AG]at hd;cases Dr:e.df with
  |none=>simp only[Dr]at hd;refine G2 [] (by have:=hm.rel;simpa[Cx.ext]using this) (by simp[AG,Dr]) (by simpa using hd) hc (λcl h=>by rw[AG]at h;cases h) (λx h=>by rw[Dr]at h;cases h)
  |some x=>simp only[Dr]at hd;have G1:=V7 (by simp[Dr]);refine G2 [.bool (Mg a o)] (hm.ext G1 _) (by simp[Dr]) (hd _ λhg hb=> ?_) hc (λcl h=>by rw[AG]at h;cases h) (λx h=>rfl);exact EJ c n _ _ _ a _ _ o gs e _ x ⟨hm.rel,hg,λ_ _=>rfl,λt e h=>zF8 h,λt h1 h2=>Bm t h1 (Nat.lt_of_lt_of_le h2 (Nat.add_le_add_left (by decide) _))⟩ he Dr hb
 |some cl=>
  simp only[AG]at hd;cases Dr:e.df with
  |some x=>rw[Dr]at hs4;simp[AG]at hs4
  |none=>simp only[Dr]at hd;obtain⟨r,h1,h2⟩:=hd;have G1:=V7 (by simp[AG]);refine G2 [r] (hm.ext G1 _) (by simp[AG]) h2 hc (λcl' h=>by rw[AG]at h;cases h;exact⟨r,rfl,h1⟩) (λx h=>by rw[Dr]at h;cases h)
theorem zJN{σ:St}{x:E}{b:Bool}{d:Nat}:BV (assume x b d σ)=Dg σ.sl.length (λi=>assumeS x b (BV σ i)) (some d) (.e (.bool b)):=by
 funext i;simp only[assume,BV,Dg,Af,List.getElem?_set,List.length_map,List.getElem?_map];by_cases h:d=i
 ·subst h;by_cases h2:d<σ.sl.length
  ·simp[h2]
  ·simp[h2,List.getElem?_eq_none (Nat.le_of_not_lt h2),assumeS]
 ·simp only[h,false_and,if_false];cases hh:σ.sl[i]?<;>simp[assumeS]
theorem zJH{σ:St}{x:E}{b:Bool}{d:Nat}:AR (assume x b d σ).hp=λt=>(AR σ.hp t).map (assumeE x b):=by funext t;exact zIX _ _ _
theorem KE.assume{F:Fix}{c:Cx}{σ:St}{a:Act}{n m:Nat}(h:KE F c σ a n m){x:E}{b:Bool}(hx:x.den c.ρ= .bool b){d:Nat}(hd:BV σ d= .e x):KE F c (Go.Proofs.YtlmjpjceiefpoaaGreat.assume x b d σ) a n m:=by
 refine⟨h.w0,h.A,h.Mu,h.nv,?_,h.U,?_⟩
 ·simp only[Go.Proofs.YtlmjpjceiefpoaaGreat.assume,List.length_set,List.length_map];exact h.len
 ·rw[zJN,zJH];have hr:=h.rel.iv hx;refine{hr with ee:=λi=> ?_};unfold Dg;split
  ·rename_i hi;obtain⟨hi,_⟩:=hi;cases hi;have:=h.rel.ee d;rw[hd]at this;generalize a.tmps.getD d Go.undef=v at this;cases this with
   |e h1 h2 _=>exact .e (f:=[]) (by rw[hx]at h1;rw[JW h1 rfl];exact .bool .nil) (by simp) .nil
  ·exact hr.ee i
theorem zJK(AY:Qn P sg Rt)(EJ:WT P sg){F:Fix}{base:Nat}{R:AV->Prop}{L:LK}{js:List JK}{Q:Exit->Act->World->Prop}{n:Nat}{next:List Log->St->Option Tr}{i:Nat}{o:Oper}{lg:List Log}{rest:List Nat}(hi:ops[i]?=some o)
  (C3:∀(lg:List Log) (σ:St) (t:Tr),next lg σ=some t-> ∀(c:Cx) (a:Act),KE F c σ a n (base+B1*(i+1))->t.den Rt R L js c.ρ->(∀(c':Cx) (a':Act) (σ':St),c.ρ<+:c'.ρ->L js .normal σ' c'.ρ->Hv F c'.ρ σ' a' c'.w->Q .normal a' c'.w)->wpOps P ops Q rest a c.w):
  ∀(m:Nat) (σ:St) (t:Tr),W2 P sg ops false base next i o lg m σ=some t->
  ∀(c:Cx) (a:Act),KE F c σ a n (base+B1*i)->t.den Rt R L js c.ρ->(∀(c':Cx) (a':Act) (σ':St),c.ρ<+:c'.ρ->L js .normal σ' c'.ρ->Hv F c'.ρ σ' a' c'.w->Q .normal a' c'.w)->wpOps P ops Q (i::rest) a c.w:=by
 have PW:base+B1*i<=base+B1*(i+1):=by rw[Nat.mul_add];omega
 have try_:∀(fail:Unit->Option Tr) (σ:St) (t:Tr),WY P sg ops false base next i o lg fail σ=some t-> ∀(c:Cx) (a:Act),KE F c σ a n (base+B1*i)->t.den Rt R L js c.ρ->(∀(c':Cx) (a':Act) (σ':St),c.ρ<+:c'.ρ->L js .normal σ' c'.ρ->Hv F c'.ρ σ' a' c'.w->Q .normal a' c'.w)->
   (fail ()=some t->wpOps P ops Q (i::rest) a c.w)->wpOps P ops Q (i::rest) a c.w:=by
  intro fail σ t ht c a hm hd hq VB;unfold WY at ht;cases Ig:Q3 σ ops o with
  |none=>rw[Ig]at ht;cases ht
  |some r=>
   have Ey:=zw7 (c:=c) (a:=a) Ig (λj want d _ _=>hm.rel.ee d);rw[Ig]at ht;cases r with
   |none=>simp only at ht;rw[wpOps_cons];unfold wpOp;simp only[hi];rw[if_neg (by simp[show Region.wanted o (yielded ops a.tmps)=false from Ey])];refine C3 lg _ t ht c _ ⟨hm.w0,hm.A,hm.Mu,by rw[zuM];exact hm.nv,by rw[zrT];exact hm.len,λt ht=>Nat.lt_of_lt_of_le (hm.U t ht) PW,?_⟩ hd hq;rw[zt2,zuv,hm.len];exact hm.rel.put sP o.dst
   |some gs=>
    simp only at ht;split at ht
    ·rename_i e he;split at ht
     ·cases ht
     ·rename_i AU;split at ht
      ·cases ht
      ·rename_i k hk;simp only[Af]at ht;subst ht;simp only[Bool.false_and,Bool.false_or,Bool.not_false,Bool.true_and,Bool.or_eq_true,Bk,Ac,not_or,Bool.not_eq_false]at AU;rw[wpOps_cons];refine zQq AY EJ hi hm Ey he AU.1 (λhh=> ?_) hd λc' a' hp Dq Cf=>C3 _ _ k hk c' a' Dq Cf λc'' a'' σ' hp'=>hq c'' a'' σ' (hp.trans hp');have:=AU.2;simp only[Bool.or_eq_true]at hh;simpa[hh]using this
    ·exact VB ht
 intro m
 induction m with
 |zero=>exact λσ t ht c a hm hd hq=>try_ _ σ t ht c a hm hd hq λh=>by cases h
 |succ m ih=>
  intro σ t ht c a hm hd hq;refine try_ _ σ t ht c a hm hd hq λh=> ?_;split at h
  ·rename_i d _ _;split at h
   ·rename_i x Rw;split at h
    ·rename_i k1 k0 Hp oD;simp only[Af]at h;subst h;obtain⟨tt,h1,h2,h3⟩:=hd;cases tt with
     |true=>exact ih _ k1 Hp c a (hm.assume h1 Rw) (h2 rfl) hq
     |false=>exact ih _ k0 oD c a (hm.assume h1 Rw) (h3 rfl) hq
    ·cases h
   ·cases h
  ·cases h
theorem zJa(AY:Qn P sg Rt)(EJ:WT P sg){F:Fix}{base:Nat}{R:AV->Prop}{L:LK}{js:List JK}{Q:Exit->Act->World->Prop}{n:Nat}:∀(len i:Nat) (lg:List Log) (σ:St) (t:Tr),i+len=ops.size->MV P sg ops false base (List.range' i len) lg σ=some t->
  ∀(c:Cx) (a:Act),KE F c σ a n (base+B1*i)->t.den Rt R L js c.ρ->(∀(c':Cx) (a':Act) (σ':St),c.ρ<+:c'.ρ->L js .normal σ' c'.ρ->Hv F c'.ρ σ' a' c'.w->Q .normal a' c'.w)->wpOps P ops Q (List.range' i len) a c.w
 |0,i,lg,σ,t,hl,ht,c,a,hm,hd,hq=>by
  simp only[List.range'_zero,MV,Bool.false_and,A6,if_false,Af]at ht ⊢;subst ht;refine hq c a _ (List.prefix_refl _) hd ⟨c,rfl,rfl,hm.w0,hm.A,hm.Mu,hm.nv,λt ht=> ?_,?_⟩
  ·have:=hm.U t ht;have h9:i=ops.size:=by omega
   subst h9;exact this
  ·have:=hm.rel;rw[<-hm.len]at this;exact this
 |len+1,i,lg,σ,t,hl,ht,c,a,hm,hd,hq=>by
  rw[List.range'_succ]at ht ⊢;unfold MV at ht;obtain⟨o,hi⟩:∃o,ops[i]?=some o:=⟨ops[i]'(by omega),by simp[show i<ops.size by omega]⟩
  rw[hi]at ht;simp only at ht;exact zJK AY EJ hi (λlg σ t ht c a=>zJa AY EJ (n:=n) len (i+1) lg σ t (by omega) ht c a) 4 σ t ht c a hm hd hq
end
def tY(l:List Oper)(bs:List Nat):Prop:=bs.length=l.length/\ ∀(j:Nat) (o:Oper),l[j]?=some o-> ∀i,((bs[j]?).getD 0).testBit i=true-> ∃e∈o.after.toList,Region.binds .any e=true/\(i=e.on\/(e.on<j/\((bs[e.on]?).getD 0).testBit i=true))
theorem zu8(acc:List Nat)(i:Nat):∀(es:List Edge) (s:Nat),(es.foldl (λs e=>if Region.binds .any e then s|||2^e.on|||(acc[e.on]?).getD 0 else s) s).testBit i=true->
  s.testBit i=true\/ ∃e∈es,Region.binds .any e=true/\(i=e.on\/((acc[e.on]?).getD 0).testBit i=true)
 | [],s,h=> .inl h
 |e::es,s,h=>by
  simp only[List.foldl_cons]at h;rcases zu8 acc i es _ h with h|⟨e',h1,h2⟩
  ·split at h
   ·rename_i hb;simp only[Nat.testBit_or,Nat.testBit_two_pow,Bool.or_eq_true,AS]at h;rcases h with(h|h)|h
    ·exact .inl h
    ·exact .inr ⟨e,by simp,hb, .inl h.symm⟩
    ·exact .inr ⟨e,by simp,hb, .inr h⟩
   ·exact .inl h
  ·exact .inr ⟨e',by simp[h1],h2⟩
theorem zDB:∀(os pre:List Oper) (acc:List Nat),tY pre acc->tY (pre++os) (LS os acc)
 | [],pre,acc,h=>by simpa[LS]using h
 |o::os,pre,acc,h=>by
  obtain⟨hl,hb⟩:=h;have:=zDB os (pre++ [o]) (acc++ [sD acc o]) ⟨by simp[hl],λj o' ho i hi=> ?_⟩
  ·simpa[LS]using this
  ·have AQ:∀k,k<acc.length->((acc++ [sD acc o])[k]?).getD 0=(acc[k]?).getD 0:=λk hk=>by rw[List.getElem?_append_left hk]
   by_cases hj:j<pre.length
   ·rw[List.getElem?_append_left hj]at ho;rw[AQ j (by omega)]at hi;obtain⟨e,h1,h2,h3⟩:=hb j o' ho i hi;exact⟨e,h1,h2,h3.imp id λh=>⟨h.1,by rw[AQ _ (by omega)];exact h.2⟩⟩
   ·rw[List.getElem?_append_right (by omega)]at ho;have hj0:j-pre.length=0:=by
     cases hh:j-pre.length with
     |zero=>rfl
     |succ k=>rw[hh]at ho;simp at ho
    rw[hj0]at ho;simp at ho;subst ho;have Kc:j=acc.length:=by omega
    rw[Kc,List.getElem?_append_right (AF _)]at hi;simp only[Nat.sub_self,List.getElem?_cons_zero,Be]at hi;rcases zu8 acc i _ 0 hi with h|⟨e,h1,h2,h3⟩
    ·simp at h
    ·refine⟨e,h1,h2,h3.imp id λh=> ?_⟩;have he:e.on<acc.length:=by
      rcases Nat.lt_or_ge e.on acc.length with hh|hh
      ·exact hh
      ·rw[List.getElem?_eq_none hh]at h;simp at h
     exact⟨by omega,by rw[AQ _ he];exact h⟩
def Wy(ops:Array Oper)(S:Nat->Bool):Prop:= ∀k o,S k=true->ops[k]?=some o-> ∀e∈o.after.toList,Region.binds .any e=true->S e.on=true
theorem zPR(ops:Array Oper):tY ops.toList (LS ops.toList []):=by have:=zDB ops.toList [] [] ⟨rfl,by simp⟩;simpa using this
theorem zzJ{ops:Array Oper}{S:Nat->Bool}(hS:Wy ops S):∀(k i:Nat),S k=true->k<ops.size->(((LS ops.toList [])[k]?).getD 0).testBit i=true->S i=true:=by
 intro k
 induction k using Nat.strongRecOn with
 |_ k ih=>
  intro i hk AQ hb;have ho:ops.toList[k]?=some ops[k]:=by simp[AQ]
  obtain⟨e,h1,h2,h3⟩:=(zPR ops).2 k _ ho i hb;have V1:=hS k ops[k] hk (by simp[AQ]) e h1 h2;rcases h3 with rfl|⟨h3,h4⟩
  ·exact V1
  ·exact ih e.on h3 i V1 (by omega) h4
theorem zI7{ops:Array Oper}{S:Nat->Bool}(hS:Wy ops S){j i:Nat}{o:Oper}(ho:ops[j]?=some o)(hr:∀e∈o.after.toList,Region.binds .any e=true->S e.on=true)(hb:(((LS ops.toList [])[j]?).getD 0).testBit i=true):S i=true:=by
 have AQ:j<ops.size:=(Array.getElem?_eq_some_iff.1 ho).1;obtain⟨e,h1,h2,h3⟩:=(zPR ops).2 j o (by simpa using ho) i hb;have V1:=hr e h1 h2;rcases h3 with rfl|⟨h3,h4⟩
 ·exact V1
 ·exact zzJ hS e.on i V1 (by omega) h4
theorem zJP{ops:Array Oper}{S:Nat->Bool}(hS:Wy ops S){j i:Nat}{o:Oper}(ho:ops[j]?=some o)(hi:i<ops.size)(hj:S j=false)(hr:∀e∈o.after.toList,Region.binds .any e=true->S e.on=true)(BY:i≠j)(MI:La (LS ops.toList []) i j=true):S i=decide (i<j):=by
 unfold La at MI;split at MI
 ·rename_i h;rw[zI7 hS ho hr MI];simp[h]
 ·rename_i h;cases hs:S i with
  |false=>simp[h]
  |true=>have:=zzJ hS i j hs hi MI;rw[hj]at this;cases this
structure Rec where
 i:Nat
 o:Oper
 σ:St
 r:Option (Gd × Bf)
def Rec.next(x:Rec):St:=match x.r with|none=>Jf x.σ x.o.dst Iv|some (gs,e)=>Nl x.σ gs x.o e
def Rec.val(x:Rec):SV:=match x.r with|none=>Iv|some (gs,e)=>mkGd gs e.val
def Rec.cy(x:Rec):List (Nat × Aj):=match x.r with|none=> []|some (_,e)=>e.cy
def zQs(P:Program)(sg:BW)(Rt:Nat->List AV->AV->Prop)(ops:Array Oper)(base:Nat)(ρ:List AV)(x:Rec):Prop:=
 ops[x.i]?=some x.o/\match x.r with
  |none=>Q3 x.σ ops x.o=some none
  |some (gs,e)=>Q3 x.σ ops x.o=some (some gs)/\NH P sg (BV x.σ) (RZ x.σ.hp (Y8 x.σ gs x.o)) x.σ.nv (base+B1*x.i) gs x.o=some e/\e.df=none/\RP x.σ.nv (base+B1*x.i) x.σ.hp gs e=true/\
   (Bt ρ gs-> ∀q∈e.dn,q.den ρ)/\ ∀cl,e.call=some cl-> ∃r,ρ[x.σ.nv]?=some r/\(Bt ρ gs->JZ Rt cl.fn ((EL.of cl.args).den ρ) ρ r)
def EC:Nat->St->List Rec->St->Prop
 |_,σ,[],σ'=>σ=σ'
 |i,σ,x::xs,σ'=>x.i=i/\x.σ=σ/\EC (i+1) x.next xs σ'
def Rec.log(x:Rec):Option Log:=x.r.map λ(gs,e)=>⟨x.i,Y8 x.σ gs x.o,e.cy.map (·.1)⟩
theorem zxU{P:Program}{sg:BW}{Rt:Nat->List AV->AV->Prop}{ops:Array Oper}{base:Nat}{R:AV->Prop}{L:LK}{js:List JK}:∀(len i:Nat) (lg:List Log) (σ:St) (t:Tr) (ρ:List AV),i+len=ops.size->
  MV P sg ops true base (List.range' i len) lg σ=some t->t.den Rt R L js ρ->ρ.length=σ.nv->
  ∃(τ:List AV) (xs:List Rec) (σ':St) (lg':List Log),EC i σ xs σ'/\xs.length=len/\(∀x∈xs,zQs P sg Rt ops base (ρ++τ) x)/\(ρ++τ).length=σ'.nv/\L js .normal {σ' with nx:=base+B1*ops.size} (ρ++τ)/\aC ops lg'=true/\(∀y∈lg,y∈lg')/\ ∀x∈xs,∀y,x.log=some y->y∈lg'
 |0,i,lg,σ,t,ρ,hl,ht,hd,hn=>by
  simp only[List.range'_zero,MV,Bool.true_and]at ht;split at ht
  ·cases ht
  ·rename_i Zx;simp only[Af]at ht;subst ht;exact⟨[],[],σ,lg,rfl,rfl,by simp,by simpa using hn,by simpa[Tr.den]using hd,by simpa using Zx,λy hy=>hy,by simp⟩
 |len+1,i,lg,σ,t,ρ,hl,ht,hd,hn=>by
  rw[List.range'_succ]at ht;unfold MV at ht;obtain⟨o,hi⟩:∃o,ops[i]?=some o:=⟨ops[i]'(by omega),by simp[show i<ops.size by omega]⟩
  rw[hi]at ht;simp only at ht;unfold W2 WY at ht;cases Ig:Q3 σ ops o with
  |none=>rw[Ig]at ht;cases ht
  |some r=>
   rw[Ig]at ht;cases r with
   |none=>
    simp only at ht;obtain⟨τ,xs,σ',lg',h1,h2,h3,h4,h5,h6,h7,h8⟩:=zxU len (i+1) lg _ t ρ (by omega) ht hd (by rw[zuM];exact hn);refine⟨τ,⟨i,o,σ,none⟩::xs,σ',lg',⟨rfl,rfl,h1⟩,by simp[h2],λx hx=> ?_,h4,h5,h6,h7,λx hx y hy=> ?_⟩
    ·rcases Ag.1 hx with rfl|hx
     ·exact⟨hi,Ig⟩
     ·exact h3 x hx
    ·rcases Ag.1 hx with rfl|hx
     ·simp[Rec.log]at hy
     ·exact h8 x hx y hy
   |some gs=>
    simp only at ht;split at ht
    ·rename_i e he;split at ht
     ·cases ht
     ·rename_i AU;simp only[Bool.true_and,Bool.not_true,Bool.false_and,Bool.or_false,Bool.or_eq_true,Bk,not_or,Bool.not_eq_false]at AU;have Dr:e.df=none:=by cases hh:e.df with|none=>rfl|some x=>rw[hh]at AU;simp at AU
      split at ht
      ·cases ht
      ·rename_i k hk;simp only[Af]at ht;subst ht;have Fv:=AU.2;simp only[RP,Ac,Bd]at Fv;obtain⟨⟨⟨⟨BN,Ba⟩,FY⟩,_⟩,_⟩:=Fv;rw[<-hn]at BN Ba FY;unfold ZX at hd;obtain⟨hc,hd⟩:=qI hd;simp only[Dr]at hd;obtain⟨τ0,hτ0,Bp,Cf⟩:∃τ0:List AV,(ρ++τ0).length=(Nl σ gs o e).nv/\(∀cl,e.call=some cl-> ∃r,τ0=[r]/\(Bt ρ gs->JZ Rt cl.fn ((EL.of cl.args).den ρ) ρ r))/\k.den Rt R L js (ρ++τ0):=by
        cases AG:e.call with
        |none=>rw[AG]at hd;exact⟨[],by rw[rC];simp[AG,Dr,hn],by simp,by simpa using hd⟩
        |some cl=>rw[AG]at hd;obtain⟨r,h1,h2⟩:=hd;exact⟨[r],by rw[rC];simp[AG,hn],λcl' h=>by cases h;exact⟨r,rfl,h1⟩,h2⟩
       obtain⟨τ,xs,σ',lg',h1,h2,h3,h4,h5,h6,h7,h8⟩:=zxU len (i+1) _ _ k (ρ++τ0) (by omega) hk Cf hτ0;have mY:ρ++τ0++τ=ρ++(τ0++τ):=List.append_assoc ..;rw[mY]at h3 h4 h5;refine⟨τ0++τ,⟨i,o,σ,some (gs,e)⟩::xs,σ',lg',⟨rfl,rfl,h1⟩,by simp[h2],λx hx=> ?_,h4,h5,h6,λy hy=>h7 y (by simp[hy]),λx hx y hy=> ?_⟩
       ·rcases Ag.1 hx with rfl|hx
        ·refine⟨hi,Ig,he,Dr,AU.2,λhg q hq=>(Cn.lr (Ba q hq)).2 (hc ((Nk BN).1 hg) q hq),λcl AG=> ?_⟩;obtain⟨r,hr,h2⟩:=Bp cl AG;rw[AG]at FY;simp only[Ac]at FY;subst hr;exact⟨r,by simp only;rw[<-hn];simp,λhg=>(zAc FY.1 (EL.l8 (by simpa using FY.2))).2 (h2 ((Nk BN).1 hg))⟩
        ·exact h3 x hx
       ·rcases Ag.1 hx with rfl|hx
        ·simp only[Rec.log,Option.map_some,Af]at hy;subst hy;exact h7 _ (by simp)
        ·exact h8 x hx y hy
    ·cases ht
def G3(n:Nat)(sl0:Nat->SV)(xs:List Rec)(S:Nat->Bool):Nat->SV:=xs.foldl (λsl x=>if S x.i then Dg n sl x.o.dst x.val else sl) sl0
def Im(hp0:Nat->Option Aj)(xs:List Rec)(S:Nat->Bool):Nat->Option Aj:=xs.foldl (λhp x=>if S x.i then Bo hp x.cy else hp) hp0
section
variable {n:Nat} {S S':Nat->Bool} {d t:Nat}
theorem Yy:∀(xs:List Rec) {sl sl':Nat->SV},sl d=sl' d->(∀x∈xs,x.o.dst=some d->S x.i=S' x.i)->G3 n sl xs S d=G3 n sl' xs S' d
 | [],_,_,h,_=>h
 |x::xs,sl,sl',h,hs=>by
  refine Yy xs (sl:=if S x.i then Dg n sl x.o.dst x.val else sl) (sl':=if S' x.i then Dg n sl' x.o.dst x.val else sl') ?_ λy hy=>hs y (by simp[hy]);by_cases hd:x.o.dst=some d
  ·rw[<-hs x (by simp) hd];split
   ·simp only[Dg,hd,true_and];rw[h]
   ·exact h
  ·have hu:∀sl:Nat->SV,Dg n sl x.o.dst x.val d=sl d:=λsl=>by simp[Dg,hd]
   have h1:(if S x.i then Dg n sl x.o.dst x.val else sl) d=sl d:=by split;exact hu sl;rfl
   have h2:(if S' x.i then Dg n sl' x.o.dst x.val else sl') d=sl' d:=by split;exact hu sl';rfl
   rw[h1,h2,h]
theorem qU(xs:List Rec){sl:Nat->SV}(hs:∀x∈xs,x.o.dst=some d->S x.i=false):G3 n sl xs S d=sl d:=by
 have h1:=Yy (n:=n) (S:=S) (S':=λ_=>false) xs (sl:=sl) (sl':=sl) (d:=d) rfl hs;rw[h1];clear h1 hs
 induction xs generalizing sl with
 |nil=>rfl
 |cons x xs ih=>exact ih
theorem tB(hd:n<=d):∀(xs:List Rec) {sl:Nat->SV},G3 n sl xs S d=sl d
 | [],_=>rfl
 |x::xs,sl=>by
  have:=tB hd xs (sl:=if S x.i then Dg n sl x.o.dst x.val else sl);refine Eq.trans this ?_;split
  ·simp only[Dg];rw[if_neg (by omega)]
  ·rfl
theorem zNh{y:Rec}(hd:d<n)(hy:y.o.dst=some d)(hS:S y.i=true):∀(xs:List Rec) {sl:Nat->SV},y∈xs->(∀x∈xs,x≠y->x.o.dst≠some d)->G3 n sl xs S d=y.val
 | [],_,h,_=>by simp at h
 |x::xs,sl,h,hu=>by
  by_cases hm:y∈xs
  ·exact zNh hd hy hS xs (sl:=if S x.i then Dg n sl x.o.dst x.val else sl) hm λz hz=>hu z (by simp[hz])
  ·have hx:y=x:=by rcases Ag.1 h with h|h;exact h;exact absurd h hm
   subst hx;have:=qU (n:=n) (S:=S) (d:=d) xs (sl:=Dg n sl y.o.dst y.val) (λz hz Kk=>absurd Kk (hu z (by simp[hz]) (λhh=>hm (hh▸hz))));show G3 n (if S y.i then Dg n sl y.o.dst y.val else sl) xs S d=_;rw[if_pos hS,this];simp[Dg,hy,hd]
theorem zAf{hp hp':Nat->Option Aj}{l:List (Nat × Aj)}(h:hp t=hp' t):Bo hp l t=Bo hp' l t:=by
 induction l generalizing hp hp' with
 |nil=>exact h
 |cons p l ih=>
  refine ih ?_;show(if t=p.1 then some p.2 else hp t)=(if t=p.1 then some p.2 else hp' t)
  rw[h]
theorem zHf{hp hp':Nat->Option Aj}{l:List (Nat × Aj)}(h:t∈l.map (·.1)):Bo hp l t=Bo hp' l t:=by
 induction l generalizing hp hp' with
 |nil=>simp at h
 |cons p l ih=>
  by_cases hm:t∈l.map (·.1)
  ·exact ih hm
  ·have ht:t=p.1:=by simp only[List.map_cons,Ag]at h;exact h.resolve_right hm
   refine zAf (l:=l) ?_;show(if t=p.1 then some p.2 else hp t)=(if t=p.1 then some p.2 else hp' t)
   rw[if_pos ht,if_pos ht]
theorem rN{hp:Nat->Option Aj}{l:List (Nat × Aj)}(h:t∉l.map (·.1)):Bo hp l t=hp t:=
 Nn λe he=>h (List.mem_map.2 ⟨_,he,rfl⟩)
theorem YI:∀(xs:List Rec) {hp hp':Nat->Option Aj},hp t=hp' t->(∀x∈xs,t∈x.cy.map (·.1)->S x.i=S' x.i)->Im hp xs S t=Im hp' xs S' t
 | [],_,_,h,_=>h
 |x::xs,hp,hp',h,hs=>by
  refine YI xs (hp:=if S x.i then Bo hp x.cy else hp) (hp':=if S' x.i then Bo hp' x.cy else hp') ?_ λy hy=>hs y (by simp[hy]);by_cases hd:t∈x.cy.map (·.1)
  ·rw[<-hs x (by simp) hd];split
   ·exact zAf h
   ·exact h
  ·have h1:(if S x.i then Bo hp x.cy else hp) t=hp t:=by split;exact rN hd;rfl
   have h2:(if S' x.i then Bo hp' x.cy else hp') t=hp' t:=by split;exact rN hd;rfl
   rw[h1,h2,h]
theorem qN(xs:List Rec){hp:Nat->Option Aj}(hs:∀x∈xs,t∈x.cy.map (·.1)->S x.i=false):Im hp xs S t=hp t:=by
 have h1:=YI (S:=S) (S':=λ_=>false) xs (hp:=hp) (hp':=hp) (t:=t) rfl hs;rw[h1];clear h1 hs
 induction xs generalizing hp with
 |nil=>rfl
 |cons x xs ih=>exact ih
end
section
variable {n:Nat} {S:Nat->Bool} {d t:Nat}
theorem Rec.mo(x:Rec):BV x.next=Dg x.σ.sl.length (BV x.σ) x.o.dst x.val:=by
 obtain⟨i,o,σ,r⟩:=x;cases r with
 |none=>exact zt2
 |some ge=>exact zFD
theorem Rec.mh(x:Rec):AR x.next.hp=Bo (AR x.σ.hp) x.cy:=by
 obtain⟨i,o,σ,r⟩:=x;cases r with
 |none=>simp only[Rec.next,Rec.cy,zuv];rfl
 |some ge=>exact zFI
theorem Rec.l4(x:Rec):x.next.sl.length=x.σ.sl.length:=by
 obtain⟨i,o,σ,r⟩:=x;cases r with
 |none=>exact zrT
 |some ge=>exact zDu
theorem EC.range:∀{xs:List Rec} {i:Nat} {σ σ':St},EC i σ xs σ'-> ∀x∈xs,i<=x.i/\x.i<i+xs.length
 | [],_,_,_,_,x,hx=>by simp at hx
 |y::xs,i,σ,σ',h,x,hx=>by
  rcases Ag.1 hx with rfl|hx
  ·have:=h.1;simp only[AE];omega
  ·have:=EC.range h.2.2 x hx;simp only[AE];omega
theorem EC.ex:∀{xs:List Rec} {i:Nat} {σ σ':St},EC i σ xs σ'-> ∀j,i<=j->j<i+xs.length-> ∃x∈xs,x.i=j
 | [],i,_,_,_,j,h1,h2=>by simp at h2;omega
 |y::xs,i,σ,σ',h,j,h1,h2=>by
  by_cases hj:j=i
  ·exact⟨y,by simp,by rw[hj];exact h.1⟩
  ·simp only[AE]at h2;obtain⟨x,hx,he⟩:=EC.ex h.2.2 j (by omega) (by omega);exact⟨x,by simp[hx],he⟩
theorem EC.inj:∀{xs:List Rec} {i:Nat} {σ σ':St},EC i σ xs σ'-> ∀x∈xs,∀y∈xs,x.i=y.i->x=y
 | [],_,_,_,_,x,hx,_,_,_=>by simp at hx
 |z::xs,i,σ,σ',h,x,hx,y,hy,he=>by
  have hz:=h.1;rcases Ag.1 hx with h1|h1<;>rcases Ag.1 hy with h2|h2
  ·rw[h1,h2]
  ·subst h1;have:=(EC.range h.2.2 y h2).1;omega
  ·subst h2;have:=(EC.range h.2.2 x h1).1;omega
  ·exact EC.inj h.2.2 x h1 y h2 he
theorem EC.sl:∀{xs:List Rec} {i:Nat} {σ σ':St},EC i σ xs σ'->σ.sl.length=n->(∀x∈xs,x.σ.sl.length=n/\ ∀d,BV x.σ d=G3 n (BV σ) xs (λk=>decide (k<x.i)) d)/\σ'.sl.length=n/\BV σ'=G3 n (BV σ) xs λ_=>true
 | [],i,σ,σ',h,hn=>by have h:σ=σ':=h;subst h;exact⟨by simp,hn,rfl⟩
 |y::xs,i,σ,σ',h,hn=>by
  obtain⟨h1,h2,h3⟩:=h;subst h2;obtain⟨q1,q2,q3⟩:=EC.sl h3 (by rw[y.l4];exact hn);rw[y.mo,hn]at q1 q3;refine⟨λx hx=> ?_,q2,q3⟩;rcases Ag.1 hx with rfl|hx
  ·refine⟨hn,λd=>(qU _ λz hz _=> ?_).symm⟩;rcases Ag.1 hz with rfl|hz
   ·simp
   ·have:=(EC.range h3 z hz).1;simp only[decide_eq_false_iff_not];omega
  ·refine⟨(q1 x hx).1,λd=> ?_⟩;rw[(q1 x hx).2 d];have:=(EC.range h3 x hx).1;show _=G3 n (if decide (y.i<x.i)then Dg n (BV y.σ) y.o.dst y.val else BV y.σ) xs (λk=>decide (k<x.i)) d;rw[if_pos (by simp only[AS];omega)]
theorem EC.hp:∀{xs:List Rec} {i:Nat} {σ σ':St},EC i σ xs σ'->(∀x∈xs,∀t,AR x.σ.hp t=Im (AR σ.hp) xs (λk=>decide (k<x.i)) t)/\AR σ'.hp=Im (AR σ.hp) xs λ_=>true
 | [],i,σ,σ',h=>by have h:σ=σ':=h;subst h;exact⟨by simp,rfl⟩
 |y::xs,i,σ,σ',h=>by
  obtain⟨h1,h2,h3⟩:=h;subst h2;obtain⟨q1,q3⟩:=EC.hp h3;rw[y.mh]at q1 q3;refine⟨λx hx=> ?_,q3⟩;rcases Ag.1 hx with rfl|hx
  ·refine λd=>(qN _ λz hz _=> ?_).symm;rcases Ag.1 hz with rfl|hz
   ·simp
   ·have:=(EC.range h3 z hz).1;simp only[decide_eq_false_iff_not];omega
  ·intro t;rw[q1 x hx t];have:=(EC.range h3 x hx).1;show _=Im (if decide (y.i<x.i)then Bo (AR y.σ.hp) y.cy else AR y.σ.hp) xs (λk=>decide (k<x.i)) t;rw[if_pos (by simp only[AS];omega)]
theorem zNv{y:Rec}{oV:Nat->Option Aj}(hS:S y.i=true)(ht:t∈y.cy.map (·.1)):∀{xs:List Rec} {i:Nat} {σ σ':St} {hp0:Nat->Option Aj},EC i σ xs σ'->y∈xs->(∀x∈xs,x.i≠y.i->t∈x.cy.map (·.1)->S x.i=decide (x.i<y.i))->Im hp0 xs S t=Bo oV y.cy t
 | [],_,_,_,_,_,h,_=>by simp at h
 |x::xs,i,σ,σ',hp0,hc,hm,hs=>by
  by_cases hx:y=x
  ·subst hx;have:=qN (S:=S) (t:=t) xs (hp:=Bo hp0 y.cy) (λz hz Kk=>by
    have AQ:=(EC.range hc.2.2 z hz).1;have h1:=hc.1;rw[hs z (by simp[hz]) (by omega) Kk];simp only[decide_eq_false_iff_not];omega)
   show Im (if S y.i then Bo hp0 y.cy else hp0) xs S t=_;rw[if_pos hS,this];exact zHf ht
  ·have Dq:y∈xs:=by rcases Ag.1 hm with h|h;exact absurd h hx;exact h
   exact zNv hS ht (hp0:=if S x.i then Bo hp0 x.cy else hp0) hc.2.2 Dq λz hz=>hs z (by simp[hz])
end
theorem zCM{α:Type}{p p':α->Bool}:∀(l:List α),(∀k∈l,p' k=true->p k=true)->(∃j∈l,p j=true/\p' j=false)->(l.filter p').length<(l.filter p).length
 | [],_,h=>by obtain⟨j,hj,_⟩:=h;simp at hj
 |x::l,hs,h=>by
  have hle:(l.filter p').length<=(l.filter p).length:=by
   have:∀(l:List α),(∀k∈l,p' k=true->p k=true)->(l.filter p').length<=(l.filter p).length:=by
    intro l
    induction l with
    |nil=>intro _;simp
    |cons y l ih=>
     intro h;have:=ih λk hk=>h k (by simp[hk]);have hy:=h y (by simp);cases h1:p' y with
     |false=>
      cases h2:p y with
      |false=>simpa[h1,h2]using this
      |true=>simp only[List.filter_cons,h1,h2,A6,if_false,if_true,AE];omega
     |true=>simpa[h1,hy h1]using this
   exact this l λk hk=>hs k (by simp[hk])
  obtain⟨j,hj,h1,h2⟩:=h;rcases Ag.1 hj with rfl|hj
  ·simp only[List.filter_cons,h1,h2,A6,if_false,if_true,AE];omega
  ·have:=zCM l (λk hk=>hs k (by simp[hk])) ⟨j,hj,h1,h2⟩;have hx:=hs x (by simp);cases h3:p' x with
   |false=>
    cases h4:p x with
    |false=>simpa[h3,h4]using this
    |true=>simp only[List.filter_cons,h3,h4,A6,if_false,if_true,AE];omega
   |true=>simpa[h3,hx h3]using this
section
variable {ops:Array Oper} {listed:Array Bool}
theorem zIM(hb:∀j o,ops[j]?=some o-> ∀e∈o.after.toList,Region.binds .any e=true->e.on<j)(BI:listed.size=ops.size)(hr:Region.ready .any ops listed=[]):∀k,k<ops.size->listed.getD k true=true:=by
 intro k
 induction k using Nat.strongRecOn with
 |_ k ih=>
  intro hk;cases hs:listed.getD k true with
  |true=>rfl
  |false=>
   have:k∈Region.ready .any ops listed:=mem_ready.2 ⟨hs,ops[k],by simp[hk],λe he Mv=>by
    have AQ:=hb k ops[k] (by simp[hk]) e (by simpa using he) Mv;have:=ih e.on AQ (by omega);have h2:e.on<listed.size:=by omega
    simp only[Array.getD_eq_getD_getElem?,Array.getElem?_eq_getElem h2,Be]at this ⊢;exact this⟩
   rw[hr]at this;cases this
theorem zLP(BI:listed.size=ops.size){j:Nat}(hj:j<ops.size)(k:Nat):(listed.setIfInBounds j true).getD k true=(decide (k=j)||listed.getD k true):=by
 by_cases h:j=k
 ·subst h;simp[Array.getD_eq_getD_getElem?,show j<listed.size by omega]
 ·rw[getD_set_ne true h];simp[Ne.symm h]
variable {P:Program} {sg:BW} {Rt:Nat->List AV->AV->Prop}
theorem zJi(AY:Qn P sg Rt){F:Fix}{σ σ':St}{xs:List Rec}{ρ:List AV}{lg:List Log}{n:Nat}{Q:Exit->Act->World->Prop}(hc:EC 0 σ xs σ')(hlen:xs.length=ops.size)(A4:∀x∈xs,zQs P sg Rt ops σ.nx ρ x)(Zx:aC ops lg=true)(VN:∀x∈xs,∀y,x.log=some y->y∈lg)(hn:σ.sl.length=n)
  (hQ:∀(c:Cx) (a:Act),c.ρ=ρ->c.w0=F.w0->c.A=F.A->c.Mu=F.Mu->(∀t,c.U t->t<σ.nx+B1*ops.size)->Rel c n (BV σ') (AR σ'.hp) a->Q .normal a c.w):
  ∀(fuel:Nat) (listed:Array Bool) (a:Act) (c:Cx),listed.size=ops.size->Wy ops (λk=>listed.getD k true)->c.ρ=ρ->c.w0=F.w0->c.A=F.A->c.Mu=F.Mu->
   (∀t,c.U t->t<σ.nx\/ ∃k,k<ops.size/\listed.getD k true=true/\σ.nx+B1*k<=t/\t<σ.nx+B1*k+B1)->Rel c n (G3 n (BV σ) xs λk=>listed.getD k true) (Im (AR σ.hp) xs λk=>listed.getD k true) a->
   ((List.range ops.size).filter λk=> !listed.getD k true).length<=fuel->wpAny P .any ops Q fuel listed a c.w:=by
 simp only[aC,Ac,Bd,Bool.or_eq_true,Az,Bk,AS]at Zx;obtain⟨⟨d1,d2⟩,d3⟩:=Zx;have VU:∀j o,ops[j]?=some o->(o,j)∈ops.toList.zipIdx:=λj o h=>List.mk_mem_zipIdx_iff_getElem?.2 (by simpa using h);have hb:∀j o,ops[j]?=some o-> ∀e∈o.after.toList,Region.binds .any e=true->e.on<j:=λj o h e he Mv=>by
  rcases d2 (o,j) (VU j o h) e he with h|h
  ·rw[Mv]at h;cases h
  ·exact h
 obtain⟨c1,c2,c3⟩:=hc.sl hn;obtain⟨c4,c5⟩:=hc.hp;have EG:∀(listed:Array Bool) (a:Act) (c:Cx),listed.size=ops.size->c.ρ=ρ->c.w0=F.w0->c.A=F.A->c.Mu=F.Mu->
   (∀t,c.U t->t<σ.nx\/ ∃k,k<ops.size/\listed.getD k true=true/\σ.nx+B1*k<=t/\t<σ.nx+B1*k+B1)->Rel c n (G3 n (BV σ) xs λk=>listed.getD k true) (Im (AR σ.hp) xs λk=>listed.getD k true) a->
   (∀k,k<ops.size->listed.getD k true=true)->Q .normal a c.w:=by
  intro listed a c BI h1 h2 h3 h4 h5 h6 Cj;refine hQ c a h1 h2 h3 h4 (λt ht=> ?_) ?_
  ·rcases h5 t ht with h|⟨k,hk,_,_,h⟩
   ·simp only[B1]at*;omega
   ·simp only[B1]at*;omega
  ·have e1:(G3 n (BV σ) xs λk=>listed.getD k true)=BV σ':=by
    rw[c3];funext d;exact Yy xs rfl λx hx _=>by have:=(hc.range x hx).2;exact Cj x.i (by omega)
   have e2:(Im (AR σ.hp) xs λk=>listed.getD k true)=AR σ'.hp:=by rw[c5];funext d;exact YI xs rfl λx hx _=>by have:=(hc.range x hx).2;exact Cj x.i (by omega)
   rw[e1,e2]at h6;exact h6
 intro fuel
 induction fuel with
 |zero=>
  intro listed a c BI AG h1 h2 h3 h4 h5 h6 Vt;have Cj:∀k,k<ops.size->listed.getD k true=true:=by intro k hk;have:=List.length_eq_zero_iff.1 (Nat.le_zero.1 Vt);have:=List.filter_eq_nil_iff.1 this k (by simpa using hk);simpa using this
  refine⟨?_,EG listed a c BI h1 h2 h3 h4 h5 h6 Cj⟩;refine List.eq_nil_iff_forall_not_mem.2 λj hj=> ?_;obtain⟨q1,o,q2,_⟩:=mem_ready.1 hj;rw[Cj j (Array.getElem?_eq_some_iff.1 q2).1]at q1;cases q1
 |succ fuel ih=>
  intro listed a c BI AG h1 h2 h3 h4 h5 h6 Vt;refine⟨λhr=>EG listed a c BI h1 h2 h3 h4 h5 h6 (zIM hb BI hr),λj hj=> ?_⟩;obtain⟨q1,o,q2,q3⟩:=mem_ready.1 hj;have oC:j<ops.size:=(Array.getElem?_eq_some_iff.1 q2).1;have NQ:∀e∈o.after.toList,Region.binds .any e=true->listed.getD e.on true=true:=λe he Mv=>by
   have h9:=q3 e (by simpa using he) Mv;have AQ:=hb j o q2 e he Mv;have h8:e.on<listed.size:=by omega
   simp only[Array.getD_eq_getD_getElem?,Array.getElem?_eq_getElem h8,Be]at h9 ⊢;exact h9
  obtain⟨y,hy,Ki⟩:=hc.ex j (by omega) (by omega);have Qa:y.o=o:=by have:=(A4 y hy).1;rw[Ki,q2]at this;exact(Option.some.inj this).symm
  have ZN:∀x∈xs,x.i<ops.size:=λx hx=>by have:=(hc.range x hx).2;omega
  have hxo:∀x∈xs,ops[x.i]?=some x.o:=λx hx=>(A4 x hx).1;have agree:∀x∈xs,x.i≠j->La (LS ops.toList []) x.i j=true->listed.getD x.i true=decide (x.i<j):=λx hx BY ho=>zJP (S:=λk=>listed.getD k true) AG q2 (ZN x hx) q1 NQ BY ho;have CO:∀x∈xs,x.i=j->listed.getD x.i true=decide (x.i<j):=λx hx he=>by rw[he,q1];simp
  have IV:∀d,d∈aD ops o->BV y.σ d=G3 n (BV σ) xs (λk=>listed.getD k true) d:=by
   intro d hd;rw[(c1 y hy).2 d,Ki];refine Yy xs rfl λx hx Wl=> ?_;by_cases he:x.i=j
   ·exact(CO x hx he).symm
   ·rcases d3 (o,j) (VU j o q2) (x.o,x.i) (VU _ _ (hxo x hx))with h|h
    ·exact absurd h he
    ·simp only[Wl,Ac,Bool.or_eq_true,Bk]at h;rcases h.2 with h|h
     ·rw[List.contains_iff_mem.2 hd]at h;cases h
     ·exact(agree x hx he h).symm
  have hW:∀x∈xs,∀t,t∈x.cy.map (·.1)-> ∀ly,y.log=some ly->(t∈ly.R\/t∈ly.W)->listed.getD x.i true=decide (x.i<j):=by
   intro x hx t ht ly VP hm;by_cases he:x.i=j
   ·exact CO x hx he
   ·cases pS:x.r with
    |none=>simp[Rec.cy,pS]at ht
    |some ge=>
     obtain⟨gs,e⟩:=ge;have hlx:x.log=some ⟨x.i,Y8 x.σ gs x.o,e.cy.map (·.1)⟩:=by simp[Rec.log,pS]
     have oJ:ly.i=j:=by unfold Rec.log at VP;obtain⟨ge',_,rfl⟩:=Ay.1 VP;exact Ki
     have h9:=d1 _ (VN x hx _ hlx) _ (VN y hy _ VP);simp only[oJ]at h9;rcases h9 with(h|h)|h
     ·exact absurd h he
     ·exfalso;have:tS (e.cy.map (·.1)) (ly.R++ly.W)=true:=by
       simp only[tS,List.any_eq_true];exact⟨t,by simpa[Rec.cy,pS]using ht,List.contains_iff_mem.2 (by simpa using hm)⟩
      rw[this]at h;cases h
     ·exact agree x hx he h
  have C3:∀k,(listed.setIfInBounds j true).getD k true=(decide (k=j)||listed.getD k true):=zLP BI oC;have pH:G3 n (BV σ) xs (λk=>(listed.setIfInBounds j true).getD k true)=Dg n (G3 n (BV σ) xs λk=>listed.getD k true) o.dst y.val:=by
   funext d;unfold Dg;split
   ·rename_i hd;refine zNh hd.2 (by rw[Qa];exact hd.1) (by rw[C3,Ki];simp) xs hy λx hx BY Wl=> ?_;have he:x.i≠j:=λh=>BY (hc.inj x hx y hy (by rw[h,Ki]));rcases d3 (o,j) (VU j o q2) (x.o,x.i) (VU _ _ (hxo x hx))with h|h
    ·exact he h
    ·simp only[Wl,Ac,bne_iff_ne,ne_eq]at h;exact h.1 hd.1
   ·rename_i hd;by_cases PC:d<n
    ·refine Yy xs rfl λx hx Wl=> ?_;have he:x.i≠j:=λh=>by
      have:x=y:=hc.inj x hx y hy (by rw[h,Ki]);subst this;exact hd ⟨by rw[<-Qa];exact Wl,PC⟩
     rw[C3];simp[he]
    ·rw[tB (by omega),tB (by omega)]
  have nW:Im (AR σ.hp) xs (λk=>(listed.setIfInBounds j true).getD k true)=Bo (Im (AR σ.hp) xs λk=>listed.getD k true) y.cy:=by
   funext t;by_cases ht:t∈y.cy.map (·.1)
   ·refine zNv (by rw[C3,Ki];simp) ht hc hy λx hx BY pT=> ?_;rw[Ki]at BY ⊢;rw[C3];simp only[BY,decide_false,Bool.false_or];cases K8:y.r with
    |none=>simp[Rec.cy,K8]at ht
    |some ge=>exact hW x hx t pT _ (by simp only[Rec.log,K8,Option.map_some];rfl) (.inr (by simpa[Rec.cy,K8]using ht))
   ·rw[rN ht];refine YI xs rfl λx hx pT=> ?_;have he:x.i≠j:=λh=>by
     have:x=y:=hc.inj x hx y hy (by rw[h,Ki]);subst this;exact ht pT
    rw[C3];simp[he]
  have Vu:((List.range ops.size).filter λk=> !(listed.setIfInBounds j true).getD k true).length<=fuel:=by have:=zCM (p:=λk=> !listed.getD k true) (p':=λk=> !(listed.setIfInBounds j true).getD k true) (List.range ops.size) (λk _ hk=>by rw[C3]at hk;simp at hk ⊢;exact hk.2) ⟨j,by simpa using oC,by simp[q1],by rw[C3];simp⟩;omega
  have nF:Wy ops (λk=>(listed.setIfInBounds j true).getD k true):=by
   intro k ok hk oE e he Mv;simp only[C3,Bool.or_eq_true,AS]at hk ⊢;rcases hk with rfl|hk
   ·rw[q2]at oE;cases oE;exact .inr (NQ e he Mv)
   ·exact .inr (AG k ok hk oE e he Mv)
  have NT:∀(a':Act) (c':Cx),c'.ρ=ρ->c'.w0=F.w0->c'.A=F.A->c'.Mu=F.Mu->(∀t,c'.U t->c.U t\/(σ.nx+B1*j<=t/\t<σ.nx+B1*j+B1))->Rel c' n (Dg n (G3 n (BV σ) xs λk=>listed.getD k true) o.dst y.val) (Bo (Im (AR σ.hp) xs λk=>listed.getD k true) y.cy) a'->
    wpAny P .any ops Q fuel (listed.setIfInBounds j true) a' c'.w:=by
   intro a' c' g1 g2 g3 g4 g5 g6;refine ih _ a' c' (by simpa using BI) nF g1 g2 g3 g4 (λt ht=> ?_) (by rw[pH,nW];exact g6) Vu;rcases g5 t ht with h|h
   ·rcases h5 t h with h|⟨k,k1,k2,k3,k4⟩
    ·exact .inl h
    ·exact .inr ⟨k,k1,by rw[C3,k2];simp,k3,k4⟩
   ·exact .inr ⟨j,oC,by rw[C3];simp,h.1,h.2⟩
  have MC:∀j' want d,o.guard=some (j',want)->(ops[j']?).bind (·.dst)=some d->SR c [BV y.σ d] [a.tmps.getD d Go.undef]:=by intro j' want d hg hd;rw[IV d (by simp only[aD,hg,Ae];exact .inr (by simp[hd]))];exact h6.ee d
  obtain⟨_,DI⟩:=A4 y hy;cases K8:y.r with
  |none=>
   rw[K8]at DI;have Ey:=zw7 (c:=c) (a:=a) DI (λj' want d hg hd=>MC j' want d (by rw[<-Qa];exact hg) hd);unfold wpOp;simp only[q2];rw[Qa]at Ey;rw[if_neg (by simp[show Region.wanted o (yielded ops a.tmps)=false from Ey])];have hv:y.val=Iv:=by simp[Rec.val,K8]
   have he:y.cy=[]:=by simp[Rec.cy,K8]
   refine NT _ c h1 h2 h3 h4 (λt ht=> .inl ht) ?_;rw[hv,he];exact h6.put sP o.dst
  |some ge=>
   obtain⟨gs,e⟩:=ge;rw[K8]at DI;simp only at DI;obtain⟨r1,r2,r3,r4,r5,r6⟩:=DI;rw[Qa,Ki]at r2;rw[Ki]at r4;rw[Qa]at r1;have Ey:=zw7 (c:=c) (a:=a) r1 MC;have hv:y.val=mkGd gs e.val:=by simp[Rec.val,K8]
   have he:y.cy=e.cy:=by simp[Rec.cy,K8]
   simp only[RP,Ac,Bd]at r4;obtain⟨_,pF⟩:=r4;have VP:y.log=some ⟨y.i,Y8 y.σ gs y.o,e.cy.map (·.1)⟩:=by simp[Rec.log,K8]
   refine zKa (c:=c) AY q2 h6 Ey (λt ht=>IV t (by simp only[aD,Ae,List.mem_filterMap];exact .inl ⟨.tmp t,by simpa using ht,rfl⟩)) (λt x hx=> ?_) (λt t1 t2 hU=> ?_) r2 (λBY t x hx=> ?_) (by rw[h1];exact r5) (by rw[h1];exact r6) (λx hx=>by rw[r3]at hx;cases hx) (λa' c' hs hr=> ?_)
   ·unfold RZ at hx;split at hx
    ·rename_i hR;rw[(c4 y hy) t]at hx;rw[<-hx];refine YI xs rfl λz hz hzt=> ?_;rw[Ki];exact hW z hz t hzt _ VP (.inl (by rw[Qa];simpa using hR))
    ·cases hx
   ·rcases h5 t hU with h|⟨k,k1,k2,k3,k4⟩
    ·simp only[B1]at*;omega
    ·have:k≠j:=by rintro rfl;rw[q1]at k2;cases k2
     simp only[B1]at*;omega
   ·have:=pF _ hx;have Vx:gs.isEmpty=false:=by cases gs;exact absurd rfl BY;rfl
    simp only[Vx,Bool.false_or,Bool.false_and,Bool.or_false,Ac,AS]at this;refine⟨this.1.1,this.1.2,?_⟩;have h3:=this.2;split at h3
    ·exact⟨_,_,rfl,h3⟩
    ·cases h3
   ·exact NT a' c' (hs.ρ.trans h1) (hs.w0.trans h2) (hs.A.trans h3) (hs.Mu.trans h4) hs.U (by rw[hv,he];exact hr)
end
theorem Rel.world{c:Cx}{n:Nat}{sl:Nat->SV}{hp:Nat->Option Aj}{a:Act}(h:Rel c n sl hp a)(w:World)(h1:w.heap=c.w.heap)(h2:w.os=c.w.os)(h3:w.tape=c.w.tape)(h4:w.output=c.w.output):Rel {c with w:=w} n sl hp a:=by
 refine h.change (λ_=>False) ⟨rfl,rfl,λ_ _ hb=>hb,λb _ _=>by show w.heap[b]?=_;rw[h1],λ_ _ hk=>⟨hk,rfl⟩,λ_ _ _=>⟨AF _,λ_=>⟨rfl,λb _ _=>by show w.heap[b]?=_;rw[h1]⟩⟩⟩ ⟨h2.trans h.base.os,h3.trans h.base.tape,h4.trans h.base.output,by show _<=w.heap.size;rw[h1];exact h.base.size,h.base.pins,λb hb hm=>by show w.heap[b]?=_;rw[h1];exact h.base.block b hb hm,h.base.pk,h.base.lo⟩ (λt _=>⟨rfl,rfl,rfl,λg hk=>hk⟩) (λt _ b _=>by show w.heap[b]?=_;rw[h1]) (λt ht=>ht.elim)
  ⟨h.gw.nodup,h.gw.dt,h.gw.allow,λt b hb=>by show b<w.heap.size;rw[h1];exact h.gw.inb t b hb⟩ h.de h.dv
theorem zKA{P:Program}{sg:BW}{Rt:Nat->List AV->AV->Prop}(ZC:P.follows .mixedOrders=true)(AY:Qn P sg Rt)(EJ:WT P sg):zGu P sg Rt:=by
 intro id ops draw σ t _ Fv PX ht F R L js ρ a w hL hd hr Q hq;obtain⟨c,rfl,rfl,h1,h2,h3,h4,h5,h6⟩:=hr;rw[List.range_eq_range']at ht;cases draw with
 |false=>refine wp_region ?_;rw[List.range_eq_range'];exact zJa AY EJ (n:=σ.sl.length) ops.size 0 [] σ t (by omega) ht c a ⟨h1,h2,h3,h4,rfl,by simpa using h5,h6⟩ hd (λc' a' σ' hp hl As=>hq [] .normal σ' c'.ρ a' c'.w hp hl As)
 |true=>
  refine wp_region_any ZC ?_;obtain⟨τ,xs,σ',lg',g1,g2,g3,g4,g5,g6,_,g8⟩:=zxU ops.size 0 [] σ t c.ρ (by omega) ht hd h4;have nN:=h6.ext (λi=>by rw[h4];exact St.nj Fv i) (λt e he=>by rw[h4];exact St.mw Fv t e he) τ;have hw:=nN.world {c.w with drawn:=c.w.drawn+1} rfl rfl rfl rfl;have H9:∀k,k<ops.size->(Array.replicate ops.size false).getD k true=false:=λk hk=>by simp[Array.getD_eq_getD_getElem?,hk]
  have ZN:∀x∈xs,x.i<ops.size:=λx hx=>by have:=(g1.range x hx).2;omega
  have e1:(G3 σ.sl.length (BV σ) xs λk=>(Array.replicate ops.size false).getD k true)=BV σ:=by funext d;exact qU _ λx hx _=>H9 x.i (ZN x hx)
  have e2:(Im (AR σ.hp) xs λk=>(Array.replicate ops.size false).getD k true)=AR σ.hp:=by funext d;exact qN _ λx hx _=>H9 x.i (ZN x hx)
  refine zJi (F:=F) (n:=σ.sl.length) (c:={c.ext τ with w:={c.w with drawn:=c.w.drawn+1}}) AY g1 g2 g3 g6 g8 rfl (λc' a' k1 k2 k3 k4 k5 k6=> ?_) ops.size (Array.replicate ops.size false) a (by simp) (λk o hk ho=> ?_) rfl h1 h2 h3 (λt ht=> .inl (h5 t ht)) (by rw[e1,e2];exact hw) (Nat.le_trans (List.length_filter_le _ _) (by simp))
  ·have hlen:=(g1.sl rfl).2.1;refine hq [] .normal _ c'.ρ a' c'.w (by rw[k1];exact List.prefix_append _ _) (by rw[k1];exact g5) ⟨c',rfl,rfl,k2,k3,k4,by rw[k1];exact g4,k5,?_⟩;show Rel c' σ'.sl.length _ _ a';rw[hlen];exact k6
  ·have:=H9 k (Array.getElem?_eq_some_iff.1 ho).1;have Cf:(Array.replicate ops.size false).getD k true=true:=hk;rw[this]at Cf;cases Cf
section
variable {P:Program} {c:Cx} {n nx:Nat} {sl sl0:Nat->SV} {hp hp0:Nat->Option Aj} {a:Act} {o:Oper} {gs:Gd} {e:Bf} {sg:BW} {nv:Nat}
theorem zC2(h:BB P c n nx sl hp a sl0 hp0 o gs){op:BinOp}{t el:TypeId}{x y:Operand}{ty:TypeId}(ho:o.op= .binOp op t x y ty)(hu:P.underlying t=some (.slice el)){p:Option Addr}{q r:Nat}(hv:a.eval x= .slice p q r)(r2:SR c [.dg] [a.eval y])
  (AY:op= .eql\/op= .neq) (GY:c.ρ[nv]?=some (.bool (Mg a o))) (x':Option E) {ck:List Cn}:AK P o c n nx sl hp gs a {dn:=ck,df:=x',val:= .e (if op= .eql then .var nv else .not (.var nv))}:=by
 have hb:Mg a o=p.isNone:=by simp only[Mg,ho,hv];cases p<;>rfl
 rw[hb]at GY;have ex:=λ(v u:Value) (hv:a.eval x=v) (hu:a.eval y=u)=>Rc (P:=P) (o:=o) ho c.w hv hu;generalize Dl:a.eval y=v2 at r2;cases r2 with
 |dg _=>
  refine AK.pure h (v:= .bool (if op= .eql then p.isNone else !p.isNone)) ?_ ?_ rfl
  ·rw[ex _ _ hv Dl,eqGuard_at_slice];rcases AY with rfl|rfl
   ·simp[Go.Lib.run_eql_slice_nil c.w t el p q r 0 0 hu]
   ·simp[binOp,Op.equal,Op.maxDepth,Go.Lib.run_equalIn_slice_nil c.w 9999 t el p q r 0 0 hu]
  ·rcases AY with rfl|rfl
   ·refine .e (f:=[]) ?_ (by simp) .nil;simp only[if_true,E.den,GY,Be];exact .bool .nil
   ·refine .e (f:=[]) ?_ (by simp) .nil;simp only[reduceCtorEq,if_false,E.den,GY,Be,AV.ig];exact .bool .nil
end
section
variable {P:Program} {c:Cx} {n nx:Nat} {sl sl0:Nat->SV} {hp hp0:Nat->Option Aj} {a:Act} {o:Oper} {gs:Gd} {e:Bf} {sg:BW} {nv:Nat}
theorem YU{hp:Nat->Option Aj}{gs:Gd}{m:Nat}{cs:BS}{x:E}(h:BH hp gs m (.agg cs)=some x):∃k l,m=k+1/\CZ hp gs k cs.toList=some l/\x= .mk l:=by
 cases m with
 |zero=>simp[BH]at h
 |succ m=>simp only[BH,Ay]at h;obtain⟨l,h1,h2⟩:=h;exact⟨m,l,rfl,h1,h2.symm⟩
theorem Ma{hp:Nat->Option Aj}{gs:Gd}{m:Nat}{y x:E}(h:BH hp gs m (.e y)=some x):x=y:=by
 cases m with
 |zero=>simp[BH]at h
 |succ m=>simp[BH]at h;exact h.symm
theorem Ng{hp:Nat->Option Aj}{gs:Gd}{m:Nat}{x:E}(h:BH hp gs m .dg=some x):x= .lst .nil:=by
 cases m with
 |zero=>simp[BH]at h
 |succ m=>simp[BH]at h;exact h.symm
theorem L2{hp:Nat->Option Aj}{gs:Gd}{m:Nat}{s:SV}{ss:List SV}{x:EL}(h:CZ hp gs m (s::ss)=some x):∃k y l,m=k+1/\BH hp gs k s=some y/\CZ hp gs k ss=some l/\x= .cons y l:=by
 cases m with
 |zero=>simp[CZ]at h
 |succ m=>
  simp only[CZ]at h;split at h
  ·rename_i y l h1 h2;simp at h;exact⟨m,y,l,rfl,h1,h2,h.symm⟩
  ·cases h
theorem T8{hp:Nat->Option Aj}{gs:Gd}{ρ:List AV}{w:World}:∀(vs:List Value) (ss:List SV) (m:Nat) (x:EL),F4.go vs=some ss->CZ hp gs m ss=some x->Rd w vs (x.den ρ) []
 | [],ss,m,x,h,hx=>by
  simp[F4.go]at h;subst h;cases m with
  |zero=>simp[CZ]at hx
  |succ m=>simp[CZ]at hx;subst hx;exact .nil
 |v::vs,ss,m,x,h,hx=>by
  unfold F4.go at h;split at h
  ·rename_i hh;cases hh
  ·rename_i k q l hh;cases hh;split at h
   ·rename_i hk;obtain⟨l',h1,rfl⟩:=Ay.1 h;obtain⟨j,y,l2,rfl,h2,h3,rfl⟩:=L2 hx;rw[Ma h2];exact .int hk (T8 _ _ _ _ h1 h3)
   ·cases h
  ·rename_i q l hh;cases hh;obtain⟨l',h1,rfl⟩:=Ay.1 h;obtain⟨j,y,l2,rfl,h2,h3,rfl⟩:=L2 hx;rw[Ma h2];exact .bool (T8 _ _ _ _ h1 h3)
  ·rename_i q l hh;cases hh;split at h
   ·rename_i hk;obtain⟨l',h1,rfl⟩:=Ay.1 h;obtain⟨j,y,l2,rfl,h2,h3,rfl⟩:=L2 hx;rw[Ma h2];exact .str hk (T8 _ _ _ _ h1 h3)
   ·cases h
  ·rename_i l hh;cases hh;obtain⟨l',h1,rfl⟩:=Ay.1 h;obtain⟨j,y,l2,rfl,h2,h3,rfl⟩:=L2 hx;rw[Ng h2];exact .gl (T8 _ _ _ _ h1 h3)
  ·rename_i l hh;cases hh;obtain⟨l',h1,rfl⟩:=Ay.1 h;obtain⟨j,y,l2,rfl,h2,h3,rfl⟩:=L2 hx;rw[Ma h2];exact .fy (T8 _ _ _ _ h1 h3)
  ·cases h
theorem zwV{hp:Nat->Option Aj}{gs:Gd}{ρ:List AV}{w:World}{v:Value}{s:SV}{m:Nat}{x:E}(h:F4 v=some s)(hx:BH hp gs m s=some x):
  Rd w v.cells.toList (x.den ρ).cells []/\(∀u∈v.cells.toList,u.oneCell'=true):=by
 have one:∀{v:Value} {y:AV},Rd w [v] [y] []->(∀cs,y≠ .agg cs)->(∀cs,y≠ .tup cs)->Rd w v.cells.toList y.cells []/\(∀u∈v.cells.toList,u.oneCell'=true):=by
  intro v y hr h1 h2;have h3:=zsf hr h1 h2;have h4:y.cells=[y]:=by cases y<;>first|rfl|exact absurd rfl (h1 _)
  rw[one_cells h3,h4];exact⟨by simpa using hr,by simpa using h3⟩
 unfold F4 at h;split at h
 ·split at h
  ·rename_i hk;simp at h;subst h;rw[Ma hx];exact one (.int hk .nil) (by simp[E.den]) (by simp[E.den])
  ·cases h
 ·simp at h;subst h;rw[Ma hx];exact one (.bool .nil) (by simp[E.den]) (by simp[E.den])
 ·split at h
  ·rename_i hk;simp at h;subst h;rw[Ma hx];exact one (.str hk .nil) (by simp[E.den]) (by simp[E.den])
  ·cases h
 ·simp at h;subst h;rw[Ng hx];exact one (.gl .nil) (by simp[E.den]) (by simp[E.den])
 ·simp at h;subst h;rw[Ma hx];exact one (.fy .nil) (by simp[E.den]) (by simp[E.den])
 ·rename_i cs;simp only[Option.bind_eq_bind,AB,Af]at h;obtain⟨l,hl,rfl⟩:=h;obtain⟨k,l',rfl,h1,rfl⟩:=YU hx;rw[BS.ax]at h1;exact⟨T8 _ _ _ _ hl h1,zsk _ _ hl⟩
 ·cases h
theorem zNg{w:World}{vs:List Value}{x:AV}(h:Rd w vs x.cells []):∀k,Rd w (List.replicate k vs).flatten (AA (List.replicate k x)) []
 |0=> .nil
 |k+1=>by simp only[List.replicate_succ,List.flatten_cons,AA,List.flatMap_cons];have:=h.app (zNg h k);simpa[AA]using this
theorem zow(z:Array Value)(hz:0<z.size):∀k,(madeCells z (k*z.size)).toList=(List.replicate k z.toList).flatten
 |0=>by simp[madeCells]
 |k+1=>by
  have ih:=zow z hz k;simp only[madeCells,Array.toList_map,Array.toList_range]at ih ⊢;rw[Nat.add_mul,Nat.one_mul,List.range_add,List.map_append,ih,List.replicate_succ',List.flatten_append];congr 1;simp only[List.map_map,List.flatten_cons,List.flatten_nil,AH];apply List.ext_getElem?;intro i;simp only[List.getElem?_map,List.getElem?_range'];by_cases hi:i<z.size
  ·simp only[List.getElem?_range hi,Option.map_some,Function.comp_apply];have:(k*z.size+i) % z.size=i:=by rw[Nat.add_comm,Nat.add_mul_mod_self_right,Nat.mod_eq_of_lt hi]
   simp[this,hi]
  ·rw[List.getElem?_eq_none (by simpa using hi),List.getElem?_eq_none (by simpa using hi)];rfl
theorem zHF(h:BB P c n nx sl hp a sl0 hp0 o gs){t:TypeId}{l m:Operand}(ho:o.op= .makeSlice t l m){s1 s2:SV}(BN:BU sl0 gs l=some s1)(Ba:BU sl0 gs m=some s2)(he:sO P hp0 gs nx t s1 s2=some e)(hc:∀q∈e.dn,Cn.den c.ρ q):AK P o c n nx sl hp gs a e:=by
 have DP:l∈o.op.operands:=by simp[ho,Op.operands]
 have C8:m∈o.op.operands:=by simp[ho,Op.operands]
 unfold sO at he;split at he
 ·rename_i el x y BJ;have BJ:=L1 BJ;split at he
  ·cases he
  rename_i hz;have hz:Jj P el=true:=by simpa using hz
  obtain⟨i,z,hi,Ho,DE,BI,CL,FF⟩:=Nd hz;have r1:=h.dy BN DP;have r2:=h.dy Ba C8;have ival:∀{x:E} {kk:IntKind} {k:Int} {v:Value},SR c [.e x] [v]->x.den c.ρ= .int kk k->v= .int kk k:=by
   intro x kk k v hr hx;cases hr with
   |e h1 _ _=>exact(Hg h1 hx).1
  split at he
  ·rename_i Gg;split at he
   ·rename_i s hs;have hs:F4 z=some s:=by simpa[hi,Ho]using hs
    obtain⟨w,hw,rfl⟩:=Ay.1 he;obtain⟨kk,k,hk,h0,hb,hle⟩:Cn.den c.ρ (.mkroom x (P.bytesOf el)):=Cq hc;have F1:=ival r1 hk;have Dl:=ival r2 (by rw[<-E.ay c.ρ _ _ Gg];exact hk);obtain⟨c1,c2⟩:=zwV (w:=c.w) (ρ:=c.ρ) hs hw;obtain⟨kn,rfl⟩:=Int.eq_ofNat_of_zero_le h0;have Es:(i.bytes:Int)*(kn:Int)<=281474976710656:=by rw[FF]at hb;rw[Int.mul_comm];omega
    have hlen:=c1.len;have PO:=zow z.cells (by omega) kn;have A7:=run_make (P:=P) c.w t el i z BJ hi Ho kk kk kn kn (by omega) (Int.le_refl _) Es (by omega);have FZ:(madeCells z.cells (kn*z.cells.size)).size=kn*P.cellsOf el:=by rw[size_madeCells,DE,CL]
    have B4:(madeCells z.cells (kn*z.cells.size)).toList.take ((List.replicate kn (w.den c.ρ)).length*P.cellsOf el)=(List.replicate kn z.cells.toList).flatten:=by rw[List.length_replicate,List.take_of_length_le (by rw[BL,FZ];exact AF _),PO]
    refine AK.newRow (xs:=List.replicate kn (w.den c.ρ)) (N:=[]) (C:=madeCells z.cells (kn*z.cells.size)) (cap:=kn) (wd:=c.w) (fz:=[]) (ts:=[]) h rfl ⟨rfl,rfl,rfl,rfl⟩ ?_ ?_ (by omega) (λu hu=> ?_) (by simp) (by simp only[maxLen];omega) FZ ?_ ?_ (by simp) (λ_=>rfl)
    ·simp only[execOp,ho,F1,Dl,Sem.run_bind,Int.ofNat_eq_natCast,List.length_replicate];rw[A7,DE];rfl
    ·simp[E.den,hk,AV.rep]
    ·rw[List.eq_of_mem_replicate hu,<-hlen,BL,DE,CL]
    ·rw[B4];intro u hu;obtain⟨q,hq,hu⟩:=List.mem_flatten.1 hu;rw[List.eq_of_mem_replicate hq]at hu;exact c2 u hu
    ·rw[B4];exact zNg c1 kn
   ·cases he
  ·split at he
   ·rename_i k0 _;simp only[Af]at he;subst he;obtain⟨kk,k,hk,h0,hb,hle⟩:Cn.den c.ρ (.mkroom y (P.bytesOf el)):=Cq hc;have F1:=ival r1 (show(E.int k0 0).den c.ρ= .int k0 0 from rfl);have Dl:=ival r2 hk;obtain⟨kn,rfl⟩:=Int.eq_ofNat_of_zero_le h0;have Es:(i.bytes:Int)*(kn:Int)<=281474976710656:=by
     rw[FF]at hb;rw[Int.mul_comm];omega
    have A7:=run_make (P:=P) c.w t el i z BJ hi Ho k0 kk 0 kn (by omega) (by omega) Es (by omega);refine AK.newRow (xs:=[]) (N:=[]) (C:=madeCells z.cells (kn*i.size)) (cap:=kn) (wd:=c.w) (fz:=[]) (ts:=[]) h rfl ⟨rfl,rfl,rfl,rfl⟩ ?_ rfl (by omega) (by simp) (by simp) (by simp only[maxLen];omega) (by rw[size_madeCells,CL]) (by simp) (by simpa[AA]using Rd.nil) (by simp) (λ_=>rfl);simp only[execOp,ho,F1,Dl,Sem.run_bind,Int.ofNat_eq_natCast];rw[A7];rfl
   ·cases he
 ·cases he
end
section
variable {P:Program} {c:Cx} {n nx:Nat} {sl sl0:Nat->SV} {hp hp0:Nat->Option Aj} {a:Act} {o:Oper} {gs:Gd} {e:Bf} {sg:BW} {nv:Nat}
def UB(v:Option Value)(k d:Nat):Prop:=(v=none/\k=d)\/ ∃kk,v=some (.int kk (k:Int))
theorem zK{w:World}{t el:TypeId}(hu:P.underlying t=some (.slice el))(BC:D0 P el=true)(p:Option Addr)(m r l h:Nat){lo hi:Option Value}(Ca:UB lo l 0)(PH:UB hi h m)(h1:l<=h)(h2:h<=m)(h3:m<=r):
  (Instr.sliceAt t (.slice p m r) lo hi none).run P w= .ok (sliced p l h r (P.cellsOf el)) w:=by
 have Gf:P.underlying t=some (.slice (P.elem t)):=by simp[Program.elem,hu]
 have he:P.elem t=el:=by simp[Program.elem,hu]
 have hs:(sizeOf (P.elem t)).run P w= .ok (P.cellsOf el) w:=by rw[he];exact QW BC w
 rw[run_sliceAt_slice w t _ _ _ _ Gf];rcases Ca with⟨rfl,rfl⟩|⟨kl,rfl⟩<;>rcases PH with⟨rfl,rfl⟩|⟨kh,rfl⟩
 ·rw[run_slice_all w t p h r Gf,hs];rfl
 ·rw[run_slice_h w t p m r Gf kh _ (by omega) (by omega),hs];rfl
 ·rw[run_slice_l w t p h r Gf kl _ (by omega) (by omega),hs];rfl
 ·rw[run_slice_lh w t p m r Gf kl kh _ _ (by omega) (by omega) (by omega),hs];rfl
theorem zEc(s:ByteArray)(a b:Nat):(s.extract a b).data.toList=(s.data.toList.drop a).take (b-a):=by rw[ByteArray.data_extract,Array.toList_extract,List.extract_eq_take_drop]
theorem zxj{w:World}{t:TypeId}(hu:P.underlying t=some .string)(s:ByteArray)(l h:Nat){lo hi:Option Value}(Ca:UB lo l 0)(PH:UB hi h s.size)(h1:l<=h)(h2:h<=s.size):
  (Instr.sliceAt t (.string s) lo hi none).run P w= .ok (.string (s.extract l h)) w:=by
 rw[run_sliceAt_string w t _ _ _ _ hu];rcases Ca with⟨rfl,rfl⟩|⟨kl,rfl⟩<;>rcases PH with⟨rfl,rfl⟩|⟨kh,rfl⟩
 ·rw[run_slice_string_all w t s hu]
 ·rw[run_slice_string_h w t s hu kh _ (by omega) (by omega)];rfl
 ·rw[run_slice_string_l w t s hu kl _ (by omega) (by omega)];rfl
 ·rw[run_slice_string w t s kl kh _ _ hu (by omega) (by omega) (by omega)];rfl
theorem zHV{sz:Nat}(ys:List AV)(hs:∀y∈ys,y.cells.length=sz)(l h:Nat)(hl:l<=h)(hh:h<=ys.length):((AA ys).drop (l*sz)).take ((h-l)*sz)=AA ((ys.take h).drop l):=by
 have e:ys=ys.take l++((ys.take h).drop l++ys.drop h):=by
  rw[<-List.append_assoc];have:ys.take l++(ys.take h).drop l=ys.take h:=by
   have h2:ys.take l=(ys.take h).take l:=by rw[List.take_take,Nat.min_eq_left hl]
   rw[h2,B6]
  rw[this,B6]
 have f1:AA ys=AA (ys.take l)++(AA ((ys.take h).drop l)++AA (ys.drop h)):=by
  conv=>lhs;rw[e]
  simp[AA]
 have l1:(AA (ys.take l)).length=l*sz:=by rw[Li _ (λy hy=>hs y (BD hy)),AI,Nat.min_eq_left (by omega)]
 have l2:(AA ((ys.take h).drop l)).length=(h-l)*sz:=by rw[Li _ (λy hy=>hs y (BD (BR hy))),Br,AI,Nat.min_eq_left (by omega)]
 rw[f1,<-l1,List.drop_left,<-l2,List.take_left]
theorem zP4{w:World}{v:Value}{ys:List AV}{f:List Nat}{sz:Nat}(hr:Rd w [v] [.sl ys] f)(hs:∀y∈ys,y.cells.length=sz)(l h:Nat)(hl:l<=h)(hh:h<=ys.length):
  ∃p r g,v= .slice p ys.length r/\ys.length<=r/\Rd w [sliced p l h r sz] [.sl ((ys.take h).drop l)] g/\ ∀b∈g,b∈f:=by
 cases hr with
 |gl _=>
  rename_i p r;have hh:h=0:=by simpa using hh
  subst hh;have hl:l=0:=by omega
  subst hl;exact⟨_,_,[],rfl,Nat.zero_le _,by simpa[sliced]using Rd.gl .nil,by simp⟩
 |scons hb h1 h2 h3 h4 h5 h6 H5 h7 h8=>
  rename_i b o m r cs C t fz sz' f1 f2;have hy:∃y,y∈ys:=by cases ys with|nil=>simp at h3;omega|cons y _=>exact⟨y,by simp⟩
  obtain⟨y0,IZ⟩:=hy;have G1:sz'=sz:=(h4 y0 IZ).symm.trans (hs y0 IZ);subst G1;subst h3;refine⟨some ⟨b,o,none⟩,r,?_⟩;rcases Nat.eq_or_lt_of_le hl with he|AQ
  ·subst he;refine⟨[],rfl,h2.2,?_,by simp⟩;have:(ys.take l).drop l=[]:=List.drop_eq_nil_of_le (by simp;omega);rw[this];simp only[sliced,Nat.sub_self];exact .gl .nil
  ·have Ci:=h7.len;obtain⟨g,hg,D1⟩:=h7.piece (l*sz') ((h-l)*sz');rw[zHV ys h4 l h hl hh]at D1;refine⟨b::(g++ []),rfl,h2.2,?_,λx hx=> ?_⟩
   ·have Dh:sliced (some (⟨b,o,none⟩:Addr)) l h r sz'= .slice (some ⟨b,o+l*sz',none⟩) (h-l) (r-l):=by
     unfold sliced;split
     ·exfalso;omega
     ·simp[Addr.add_lit]
    rw[Dh];refine Rd.scons (cs:=(cs.drop (l*sz')).take ((h-l)*sz')) hb (by omega) ⟨by omega,by omega⟩ (by simp;omega) (λy hy=>h4 y (BD (BR hy))) h5 (λj u hu=> ?_) (λu hu=>H5 u (BR (BD hu))) D1 .nil;rw[List.getElem?_take]at hu;split at hu
    ·rw[List.getElem?_drop]at hu;have:=h6 _ _ hu;rw[<-this];congr 1;omega
    ·cases hu
   ·simp only[AH,Ag]at hx;rcases hx with rfl|hx
    ·simp
    ·have:=hg x hx;simp[this]
theorem Ll{f:Operand->Option SV}{x:Option Operand}{r:Option SV}(h:Jp f x=some r):(x=none/\r=none)\/ ∃y z,x=some y/\f y=some z/\r=some z:=by
 cases x with
 |none=>simp[Jp]at h;exact .inl ⟨rfl,h.symm⟩
 |some y=>obtain⟨z,hz,rfl⟩:=Ay.1 h;exact .inr ⟨y,z,rfl,hz,rfl⟩
theorem kS{s:Option SV}{d l:E}(h:OH s d=some l):(s=none/\l=d)\/s=some (.e l):=by
 unfold OH at h;split at h
 ·simp at h;exact .inl ⟨rfl,h.symm⟩
 ·simp at h;subst h;exact .inr rfl
 ·cases h
theorem zED(h:BB P c n nx sl hp a sl0 hp0 o gs){t:TypeId}{x:Operand}{lo hi mx:Option Operand}(ho:o.op= .slice t x lo hi mx){s:SV}(hs:BU sl0 gs x=some s){l' h' m':Option SV}(BO:Jp (BU sl0 gs) lo=some l')(LH:Jp (BU sl0 gs) hi=some h')(Dq:Jp (BU sl0 gs) mx=some m')(he:qO P hp0 gs t s l' h' m'=some e)(hc:∀q∈e.dn,Cn.den c.ρ q):AK P o c n nx sl hp gs a e:=by
 have hm:x∈o.op.operands:=by simp[ho,Op.operands]
 have PQ:∀y,lo=some y->y∈o.op.operands:=λy hy=>by simp[ho,Op.operands,hy]
 have ME:∀y,hi=some y->y∈o.op.operands:=λy hy=>by simp[ho,Op.operands,hy]
 have oM:∀y,mx=some y->y∈o.op.operands:=λy hy=>by simp[ho,Op.operands,hy]
 have hx:=h.dy hs hm;have ival:∀{x:E} {kk:IntKind} {k:Int} {v:Value},SR c [.e x] [v]->x.den c.ρ= .int kk k->v= .int kk k:=by
  intro x kk k v hr hx;cases hr with
  |e h1 _ _=>exact(Hg h1 hx).1
 unfold qO at he;split at he
 ·cases he
 rename_i y hy;obtain⟨f,q1,q2⟩:=h.mc hs hm hy;have ex:(execOp a.eval o).run P c.w=((Instr.sliceAt t (a.eval x) (lo.map a.eval) (hi.map a.eval) (mx.map a.eval)).run P c.w).andThen λv w=> .ok (.value v) w:=by simp[execOp,ho]
 split at he
 ·split at he
  ·rename_i el _ _ hu;split at he
   ·rename_i BC;simp only[Af]at he;subst he;have hd:(y.den c.ρ).len≠ .undef:=Cq hc;cases BP:y.den c.ρ<;>simp only[BP,AV.len,ne_eq,not_true_eq_false]at hd;rename_i xs;have hl:(y.den c.ρ).len= .int .i64 (xs.length:Int):=by rw[BP];rfl
    obtain⟨p,q,r,hv⟩:∃p q r,a.eval x= .slice p q r:=by
     rcases Ur q1 hl with⟨p,q,hv,CG⟩|⟨b,o',k,q,hv,CG⟩
     ·exact⟨_,_,_,hv⟩
     ·exact⟨_,_,_,hv⟩
    rcases Ll BO with⟨rfl,_⟩|⟨_,_,_,_,hh⟩
    ·rcases Ll LH with⟨_,hh⟩|⟨oh,sh,rfl,hsh,hh⟩
     ·cases hh
     ·cases hh;rcases Ll Dq with⟨_,hh⟩|⟨om,sm,rfl,JN,hh⟩
      ·cases hh
      ·cases hh;have v1:=(λ{kk:IntKind} (hr:SR c [.e (.int kk 0)] [a.eval oh])=>ival hr (show(E.int kk 0).den c.ρ= .int kk 0 from by simp only[E.den])) (h.dy hsh (ME _ rfl))
       have v2:=(λ{kk:IntKind} (hr:SR c [.e (.int kk 0)] [a.eval om])=>ival hr (show(E.int kk 0).den c.ρ= .int kk 0 from by simp only[E.den])) (h.dy JN (oM _ rfl))
       have Gf:P.underlying t=some (.slice (P.elem t)):=by simp[Program.elem,hu]
       have BJ:P.elem t=el:=by simp[Program.elem,hu]
       refine AK.pure h (v:= .slice p 0 0) ?_ (.emp .nil) rfl;rw[ex,hv];simp only[Option.map_none,Option.map_some,v1,v2];rw[run_sliceAt_slice c.w t _ _ _ _ Gf,run_slice_hm c.w t p q r Gf _ _ 0 0 (by omega) (by omega) (by omega),BJ,QW BC];simp[sliced]
    ·cases hh
   ·cases he
  ·cases he
 ·have PR:mx=none:=by
   rcases Ll Dq with⟨hh,_⟩|⟨_,_,_,_,hh⟩
   ·exact hh
   ·cases hh
  subst PR;have blo:∀(l:E) (kk:IntKind) (k:Nat),OH l' (.int .i64 0)=some l->l.den c.ρ= .int kk k->UB (lo.map a.eval) k 0:=by
   intro l kk k hl hk;rcases Ll BO with⟨rfl,rfl⟩|⟨ol,sl',rfl,Dh,rfl⟩
   ·rcases kS hl with⟨_,rfl⟩|hh
    ·simp only[E.den,AV.int.injEq]at hk;exact .inl ⟨rfl,by omega⟩
    ·cases hh
   ·rcases kS hl with⟨hh,_⟩|hh
    ·cases hh
    ·cases hh;exact .inr ⟨kk,by rw[Option.map_some,ival (h.dy Dh (PQ _ rfl)) hk]⟩
  have bhi:∀(d l:E) (kk:IntKind) (k m:Nat),OH h' d=some l->l.den c.ρ= .int kk k->d.den c.ρ= .int .i64 (m:Int)->UB (hi.map a.eval) k m:=by
   intro d l kk k m hl hk hd;rcases Ll LH with⟨rfl,rfl⟩|⟨ol,sl',rfl,Dh,rfl⟩
   ·rcases kS hl with⟨_,rfl⟩|hh
    ·rw[hd]at hk;simp only[AV.int.injEq]at hk;exact .inl ⟨rfl,by omega⟩
    ·cases hh
   ·rcases kS hl with⟨hh,_⟩|hh
    ·cases hh
    ·cases hh;exact .inr ⟨kk,by rw[Option.map_some,ival (h.dy Dh (ME _ rfl)) hk]⟩
  split at he
  ·rename_i hu;split at he
   ·rename_i l hb q KW PG;simp only[Af]at he;subst he;obtain⟨ka,ai,kb,bi,bs,d1,d2,d3,d4,d5,d6⟩:Cn.den c.ρ (.winS y l hb):=Cq hc;obtain⟨an,rfl⟩:=Int.eq_ofNat_of_zero_le d4;obtain⟨bn,rfl⟩:=Int.eq_ofNat_of_zero_le (Int.le_trans d4 d5);obtain⟨ss,hv,rfl,hle⟩:=UX q1 d3;have BI:ss.data.toList.length=ss.size:=by simp
    have A7:=zxj (P:=P) (w:=c.w) hu ss an bn (blo l ka an KW d1) (bhi (.slen y) hb kb bn ss.size PG d2 (by simp only[E.den,d3,AV.slen];simp)) (by omega) (by omega);refine AK.pure h (v:= .string (ss.extract an bn)) ?_ (.ed ?_) rfl
    ·rw[ex,hv,Option.map_none,A7];rfl
    ·simp only[E.den,d1,d2,d3,AV.swin];have:(List.take (bn:Int).toNat ss.data.toList).drop (an:Int).toNat=(ss.extract an bn).data.toList:=by
      simp[zEc,List.drop_take]
     rw[this];exact .str (by simp only[ByteArray.size_extract];omega) .nil
   ·cases he
  ·rename_i el hu;split at he
   ·cases he
   rename_i BC;have BC:D0 P el=true:=by simpa using BC
   split at he
   ·rename_i l hb fz KW PG IU;simp only[Af]at he;subst he;have BF:Cn.den c.ρ (.issl y (P.cellsOf el)):=Cq hc;obtain⟨ys,DJ,Kh⟩:=BF;obtain⟨ka,ai,kb,bi,m,d1,d2,d3,d4,d5,d6⟩:Cn.den c.ρ (.win y l hb):=hc _ (by simp);obtain⟨an,rfl⟩:=Int.eq_ofNat_of_zero_le d4;obtain⟨bn,rfl⟩:=Int.eq_ofNat_of_zero_le (Int.le_trans d4 d5);rw[DJ]at q1;have hm9:(m:Int)=ys.length:=by rw[DJ]at d3;simpa[AV.len]using d3.symm
    split at IU
    ·rename_i JI;obtain⟨p,r,g,hv,hr,D1,hg⟩:=zP4 q1 Kh an bn (by omega) (by omega);have A7:=zK (P:=P) (w:=c.w) hu BC p ys.length r an bn (blo l ka an KW d1) (bhi (.len y) hb kb bn ys.length PG d2 (by simp only[E.den,DJ,AV.len])) (by omega) (by omega) hr;intro next Q hk
     unfold Oper.wp;rw[ex,hv,Option.map_none,A7];show Oper.upon P o a next Q (.ok (.value _) c.w)
     rw[Oper.upon_value];have As:=h.rel.freeze h.hp h.gs IU;have A4:∀b∈g,(c.da (fz.map (·.1))).ok b:=λb hb=>Yu h.rel h.eh h.gs IU JI (q2 b (hg b hb));refine hk _ (c.da (fz.map (·.1))) ⟨rfl,rfl,rfl,rfl,λt ht=> .inl ht⟩ (As.put (SR.mkGd (.e (f:=g) ?_ A4 .nil) gs h.gs) o.dst);show Rd c.w _ [(E.win y l hb).den c.ρ] g;simp only[E.den,d1,d2,DJ,AV.win,Int.ofNat_eq_natCast,Bz];exact D1
    ·cases IU
   ·cases he
  ·cases he
end
section
variable {P:Program} {c:Cx} {n nx:Nat} {sl sl0:Nat->SV} {hp hp0:Nat->Option Aj} {a:Act} {o:Oper} {gs:Gd} {e:Bf} {sg:BW} {nv:Nat}
theorem RN{w:World}{v:Value}{x:AV}{f:List Nat}{k:SK}(h:Rd w [v] [x] f)(hk:x.sk=some k):(∃kk n,k= .int kk/\v= .int kk n/\x= .int kk n)\/(∃b,k= .bool/\v= .bool b/\x= .bool b)\/ ∃s:ByteArray,k= .str/\v= .string s/\x= .str s.data.toList:=by
 cases h<;>simp[AV.sk]at hk
 ·exact .inl ⟨_,_,hk.symm,rfl,rfl⟩
 ·exact .inr (.inl ⟨_,hk.symm,rfl,rfl⟩)
 ·exact .inr (.inr ⟨_,hk.symm,rfl,rfl⟩)
theorem zsC{t:TypeId}(h:(∃k,P.underlying t=some (.int k))\/P.underlying t=some .bool\/P.underlying t=some .string):Ar P t=false:=by rcases h with⟨k,h⟩|h|h<;>simp[Ar,h]
theorem zva{w:World}(d:Nat):∀(fs:List Field) (j:Nat) (ks:List SK) {as_ bs:List Value} {cs ds:List AV} {f g:List Nat},UT P j fs=some ks->Rd w as_ cs f->Rd w bs ds g->(cs.drop j).map AV.sk=ks.map some->(ds.drop j).map AV.sk=ks.map some->
  (Op.eqFields (d+1) as_.toArray bs.toArray fs).run P w= .ok (AV.leq (cs.drop j) (ds.drop j)) w
 | [],j,ks,as_,bs,cs,ds,f,g,hk,h1,h2,k1,k2=>by
  simp[UT]at hk;subst hk;have e1:cs.drop j=[]:=by simpa using k1
  have e2:ds.drop j=[]:=by simpa using k2
  rw[e1,e2];simp[Op.eqFields,AV.leq]
 |fd::fs,j,ks,as_,bs,cs,ds,f,g,hk,h1,h2,k1,k2=>by
  unfold UT at hk;split at hk
  ·cases hk
  rename_i AU;simp only[not_or,Bk,Decidable.not_not,ne_eq,Bool.not_eq_false]at AU;obtain⟨hn,ho,BC,Cq⟩:=AU;have main:∀(k:SK) (l:List SK),ks=k::l->UT P (j+1) fs=some l->(∀a b (x y:AV) f g,Rd w [a] [x] f->Rd w [b] [y] g->x.sk=some k->y.sk=some k->(Op.equalIn (d+1) fd.type a b).run P w= .ok (x.seq y) w)->Ar P fd.type=false->
    (Op.eqFields (d+1) as_.toArray bs.toArray (fd::fs)).run P w= .ok (AV.leq (cs.drop j) (ds.drop j)) w:=by
   rintro k l rfl hl heq Jw;have JG:j<cs.length:=by
    rcases Nat.lt_or_ge j cs.length with hh|hh
    ·exact hh
    ·rw[List.drop_eq_nil_of_le hh]at k1;simp at k1
   have oA:j<ds.length:=by
    rcases Nat.lt_or_ge j ds.length with hh|hh
    ·exact hh
    ·rw[List.drop_eq_nil_of_le hh]at k2;simp at k2
   rw[Bw JG]at k1;rw[Bw oA]at k2;simp only[List.map_cons,List.cons.injEq]at k1 k2;have l1:=h1.len;have l2:=h2.len;obtain⟨v,f1,hv,_,r1⟩:=h1.at (show cs[j]?=some cs[j] by simp[JG])
   obtain⟨u,g1,hu,_,r2⟩:=h2.at (show ds[j]?=some ds[j] by simp[oA])
   have p1:=YT BC as_ fd.offset (by omega) (.inr Cq) w;have p2:=YT BC bs fd.offset (by omega) (.inr Cq) w;have e1:((as_.drop fd.offset).take (P.cellsOf fd.type)).headD Go.undef=v:=by rw[Cq,ho,Bw (by omega),List.take_succ_cons];simpa[show j<as_.length by omega]using hv
   have e2:((bs.drop fd.offset).take (P.cellsOf fd.type)).headD Go.undef=u:=by rw[Cq,ho,Bw (by omega),List.take_succ_cons];simpa[show j<bs.length by omega]using hu
   rw[Jw,e1]at p1;rw[Jw,e2]at p2;have ih:=zva (w:=w) d fs (j+1) l hl h1 h2 k1.2 k2.2;rw[Bw JG,Bw oA];simp only[Op.eqFields,ne_eq,hn,not_false_eq_true,if_true,Sem.run_bind,p1,p2,A6,if_false,Result.andThen_ok,heq v u _ _ _ _ r1 r2 k1.1 k2.1];cases hb:(cs[j]).seq ds[j]with
   |true=>simpa[AV.leq,hb]using ih
   |false=>simp[AV.leq,hb]
  split at hk
  ·rename_i k l hu hl;simp at hk;refine main _ _ hk.symm hl (λa b x y f g ra rb hx hy=> ?_) (zsC (.inl ⟨_,hu⟩));rcases RN ra hx with⟨kk,m,h5,rfl,rfl⟩|⟨_,h5,_⟩|⟨_,h5,_⟩<;>cases h5
   rcases RN rb hy with⟨kk,m2,h5,rfl,rfl⟩|⟨_,h5,_⟩|⟨_,h5,_⟩<;>cases h5
   exact run_equalIn_int w d fd.type _ _ _ _ hu
  ·rename_i l hu hl;simp at hk;refine main _ _ hk.symm hl (λa b x y f g ra rb hx hy=> ?_) (zsC (.inr (.inl hu)));rcases RN ra hx with⟨kk,m,h5,_⟩|⟨_,_,rfl,rfl⟩|⟨_,h5,_⟩<;>try cases h5
   rcases RN rb hy with⟨kk,m,h5,_⟩|⟨_,_,rfl,rfl⟩|⟨_,h5,_⟩<;>try cases h5
   exact zuP d _ _ hu w
  ·rename_i l hu hl;simp at hk;refine main _ _ hk.symm hl (λa b x y f g ra rb hx hy=> ?_) (zsC (.inr (.inr hu)));rcases RN ra hx with⟨kk,m,h5,_⟩|⟨_,h5,_⟩|⟨_,_,rfl,rfl⟩<;>try cases h5
   rcases RN rb hy with⟨kk,m,h5,_⟩|⟨_,h5,_⟩|⟨_,_,rfl,rfl⟩<;>try cases h5
   rw[run_equalIn_string w d _ _ _ hu,zAt];rfl
  ·cases hk
theorem zLB(h:BB P c n nx sl hp a sl0 hp0 o gs){op:BinOp}{t:TypeId}{x y:Operand}{ty:TypeId}(ho:o.op= .binOp op t x y ty){fs:Array Field}(hu:P.underlying t=some (.struct fs))(he:B2 P sg sl0 hp0 nv nx gs o=some e)(hc:∀q∈e.dn,Cn.den c.ρ q):AK P o c n nx sl hp gs a e:=by
 have DP:x∈o.op.operands:=by simp[ho,Op.operands]
 have C8:y∈o.op.operands:=by simp[ho,Op.operands]
 simp only[B2,ho,AB]at he;obtain⟨s1,BN,s2,Ba,he⟩:=he;unfold US at he;simp only[hu]at he;split at he
 ·cases he
 rename_i hg;simp only[Bool.or_eq_true,not_or,Bool.not_eq_true]at hg;split at he
 ·rename_i ks x' y' hks DD BP;obtain⟨f1,q1,_⟩:=h.mc BN DP DD;obtain⟨f2,q2,_⟩:=h.mc Ba C8 BP;have Cr:P.underlying t=some (.struct (P.fieldsOf t)):=by simp[Program.fieldsOf,hu]
  have NR:P.fieldsOf t=fs:=by simp[Program.fieldsOf,hu]
  have key:∀(k1:Cn.den c.ρ (.kinds x' ks)) (k2:Cn.den c.ρ (.kinds y' ks)),∃as_ bs:List Value,∃b,a.eval x= .agg as_.toArray/\a.eval y= .agg bs.toArray/\(E.aeq x' y').den c.ρ= .bool b/\(Op.equalIn 10000 t (.agg as_.toArray) (.agg bs.toArray)).run P c.w= .ok b c.w:=by rintro⟨cs,BF,k1⟩ ⟨ds,H8,k2⟩;obtain⟨as_,F1,_,r1⟩:=Ky q1 BF;obtain⟨bs,Dl,_,r2⟩:=Ky q2 H8;refine⟨as_,bs,AV.leq cs ds,F1,Dl,by simp only[E.den,BF,H8,AV.aeq],?_⟩;rw[run_equalIn_struct c.w 9999 t _ _ Cr hg.1,NR];exact zva (w:=c.w) 9998 fs.toList 0 ks hks r1 r2 (by simpa using k1) (by simpa using k2)
  split at he
  ·simp only[Af]at he;subst he;obtain⟨as_,bs,b,F1,Dl,hd,hr⟩:=key (hc _ (by simp)) (hc _ (by simp));refine AK.pure h (v:= .bool b) ?_ (.ed (by rw[hd];exact .bool .nil)) rfl;rw[Rc ho c.w F1 Dl];simp[run_eqGuard_agg c.w _ t x y _ _ hg.2,run_eql_struct,hr]
  ·simp only[Af]at he;subst he;obtain⟨as_,bs,b,F1,Dl,hd,hr⟩:=key (hc _ (by simp)) (hc _ (by simp));refine AK.pure h (v:= .bool (!b)) ?_ (.ed (by simp only[E.den]at hd ⊢;rw[hd];exact .bool .nil)) rfl;rw[Rc ho c.w F1 Dl];simp[run_eqGuard_agg c.w _ t x y _ _ hg.2,run_neq_struct,hr]
  ·cases he
 ·cases he
theorem zxp(h:BB P c n nx sl hp a sl0 hp0 o gs){x y:Operand}{cl:Call}(ho:o.op= .call cl){op:BinOp}(AY:(op= .gtr/\cl.callee= .builtin .max)\/(op= .lss/\cl.callee= .builtin .min))(Dp:cl.args.toList=[x,y]){s1 s2:SV}(BN:BU sl0 gs x=some s1)(Ba:BU sl0 gs y=some s2)
  (he:lK op s1 s2=some e) (hc:∀q∈e.dn,Cn.den c.ρ q):AK P o c n nx sl hp gs a e:=by
 have Am:cl.args= #[x,y]:=by apply Array.ext';simp[Dp]
 have DP:x∈o.op.operands:=by rcases AY with⟨_,hh⟩|⟨_,hh⟩<;>simp[ho,Op.operands,Call.operands,hh,Am]
 have C8:y∈o.op.operands:=by rcases AY with⟨_,hh⟩|⟨_,hh⟩<;>simp[ho,Op.operands,Call.operands,hh,Am]
 unfold lK at he;split at he
 ·rename_i x' y';simp only[Af]at he;subst he;obtain⟨f1,q1,_⟩:=Ja (h.dy BN DP) rfl;obtain⟨f2,q2,_⟩:=Ja (h.dy Ba C8) rfl;have hd:AV.bin op (y'.den c.ρ) (x'.den c.ρ)≠ .undef:=Cq hc;cases hx:x'.den c.ρ<;>cases hy:y'.den c.ρ<;>simp only[hx,hy,AV.bin,ne_eq,not_true_eq_false]at hd;rename_i k m k' m';split at hd
  ·rename_i hk;have hk:k'=k:=by rcases hk with hk|hk|hk;exact hk;all_goals (rcases AY with⟨h1,_⟩|⟨h1,_⟩<;>rw[h1]at hk<;>cases hk)
   subst hk;obtain⟨v1,i1⟩:=Hg q1 hx;obtain⟨v2,i2⟩:=Hg q2 hy;rcases AY with⟨rfl,AG⟩|⟨rfl,AG⟩
   ·refine AK.pure h (v:= .int k' (if m'>m then m' else m)) ?_ (.ed ?_) rfl
    ·simp[execOp,ho,resolve,AG,Am,invoke,builtin,Builtin.max_,Builtin.max2,v1,v2]
    ·simp only[E.den,hx,hy,AV.bin,true_or,if_true,En];by_cases hh:m'>m
     ·simp only[hh,decide_true,AV.cond,if_true];exact .int i2 .nil
     ·simp only[hh,decide_false,AV.cond,if_false];exact .int i1 .nil
   ·refine AK.pure h (v:= .int k' (if m'<m then m' else m)) ?_ (.ed ?_) rfl
    ·simp[execOp,ho,resolve,AG,Am,invoke,builtin,Builtin.min_,Builtin.min2,v1,v2]
    ·simp only[E.den,hx,hy,AV.bin,true_or,if_true,En];by_cases hh:m'<m
     ·simp only[hh,decide_true,AV.cond,if_true];exact .int i2 .nil
     ·simp only[hh,decide_false,AV.cond,if_false];exact .int i1 .nil
  ·exact absurd rfl hd
 ·cases he
end
inductive CA(P:Program)(w:World):List TypeId->List Bool->List Value->List AV->List Nat->List Nat->Prop where
 |nil {fl}:CA P w [] fl [] [] [] []
 |own {t ts fl el u us y ys top N rf hs}:fl.headD false=true->CK P t=some el->(Ch P el=true/\N=[]\/Ch P el=false/\DN P t=none)->Df w el (P.cellsOf el) u y top N->CA P w ts fl.tail us ys rf hs->CA P w (t::ts) fl (u::us) (y::ys) (N++rf) (top++hs)
 |deep {t ts fl el e z l u us y ys top rf hs}:fl.headD false=true->CK P t=some el->Ch P el=false->DN P t=some (.row e z l)->DC w [.row e z l] [u] [y] top->CA P w ts fl.tail us ys rf hs->CA P w (t::ts) fl (u::us) (y::ys) rf (top++hs)
 |rd {t ts fl u us y ys f rf hs}:(fl.headD false=true->CK P t=none)->Rd w [u] [y] f->CA P w ts fl.tail us ys rf hs->CA P w (t::ts) fl (u::us) (y::ys) (f++rf) hs
def MY(P:Program)(w:World)(t:TypeId)(fl:List Bool)(v:Value)(x:AV)(rf hs:List Nat):Prop:=
 ∃us ys,(if Ar P t then v= .agg us.toArray/\x= .agg ys/\ ∀u∈us,u.oneCell'=true else us=[v]/\ys=[x])/\CA P w (Bc P t) fl us ys rf hs
def DM(P:Program)(w:World)(t:TypeId)(fl:List Bool)(v:Value)(x:AV)(rf hs:List Nat):Prop:=
 if FL P t fl then MY P w t fl v x rf hs else Rd w [v] [x] rf/\hs=[]
inductive Lv(P:Program)(w:World):List TypeId->List Bool->List Value->List AV->List Nat->List Nat->Prop where
 |nil {fl}:Lv P w [] fl [] [] [] []
 |cons {t ts fl v vs x xs f h rf hs}:DM P w t fl v x f h->Lv P w ts (fl.drop (Bc P t).length) vs xs rf hs->Lv P w (t::ts) fl (v::vs) (x::xs) (f++rf) (h++hs)
theorem CA.len{P:Program}{w:World}{ts:List TypeId}{fl:List Bool}{us:List Value}{ys:List AV}{rf hs:List Nat}(h:CA P w ts fl us ys rf hs):us.length=ts.length/\ys.length=ts.length:=by induction h<;>simp_all
theorem CA.inb{P:Program}{w:World}{ts:List TypeId}{fl:List Bool}{us:List Value}{ys:List AV}{rf hs:List Nat}(h:CA P w ts fl us ys rf hs):(∀b∈rf,b<w.heap.size)/\ ∀b∈hs,b<w.heap.size:=by
 induction h with
 |nil=>simp
 |deep _ _ _ _ h _ ih=>
  refine⟨ih.1,λb hb=> ?_⟩;rcases Ae.1 hb with hb|hb
  ·exact h.inb b hb
  ·exact ih.2 b hb
 |own _ _ _ h _ ih=>
  refine⟨λb hb=> ?_,λb hb=> ?_⟩
  ·rcases Ae.1 hb with hb|hb
   ·obtain⟨xs,_,_,_,⟨_,_,_,rfl⟩|⟨g,cap,C,_,_,_,_,_,_,_,hr⟩⟩:=h
    ·simp at hb
    ·exact hr.inb b hb
   ·exact ih.1 b hb
  ·rcases Ae.1 hb with hb|hb
   ·obtain⟨xs,_,_,_,⟨_,_,rfl,_⟩|⟨g,cap,C,_,_,_,hh,_,rfl,_⟩⟩:=h
    ·simp at hb
    ·simp at hb;subst hb;exact Dm hh
   ·exact ih.2 b hb
 |rd _ h _ ih=>
  refine⟨λb hb=> ?_,ih.2⟩;rcases Ae.1 hb with hb|hb
  ·exact h.inb b hb
  ·exact ih.1 b hb
structure AZ where
 tag:Nat
 new:Option Value
 top:List Nat
 cy:Aj
def AZ.pair(r:AZ):Nat × Aj:=(r.tag,r.cy)
structure FC(c c':Cx)(w':World)(recs:List AZ):Prop where
 ρ:c'.ρ=c.ρ
 w:c'.w=w'
 G:∀r∈recs,c'.G r.tag=⟨r.top,[]⟩
 new:∀r∈recs,∀hv,r.new=some hv->c'.K r.tag 0/\(∀g,c'.K r.tag g->g<=0)/\c'.H r.tag 0=hv
 K:∀t g,c.K t g->c'.K t g/\c'.H t g=c.H t g
 old:∀t,c.U t-> ∀g,c'.K t g->c.K t g
 kt:∀r∈recs,r.new.isSome=true->c'.E r.tag=0
 jh:∀r∈recs,r.new=none->c'.E r.tag=c.E r.tag+1
theorem FC.mono{c c':Cx}{w':World}{recs recs':List AZ}(h:FC c c' w' recs)(hs:∀r∈recs',r∈recs):FC c c' w' recs':=
 ⟨h.ρ,h.w,λr hr=>h.G r (hs r hr),λr hr=>h.new r (hs r hr),h.K,h.old,λr hr=>h.kt r (hs r hr),λr hr=>h.jh r (hs r hr)⟩
section
variable {P:Program} {c:Cx} {w':World}
theorem zNK{c':Cx}{t:Nat}{u:Value}{el sz:Nat}{y:AV}{top N:List Nat}(h:Df w' el sz u y top N)(hk:c'.K t 0)(hh:c'.H t 0=u):SR c' [.own t 0] [u]:=by
 obtain⟨xs,_,_,_,⟨_,⟨a,rfl⟩,_⟩|⟨g,cap,C,rfl,_⟩⟩:=h
 ·exact .own hk hh .nil
 ·exact .own hk hh .nil
theorem TL{nx:Nat}{mk:Nat->E}{ts:List TypeId}{fl:List Bool}{us:List Value}{ys:List AV}{rf hs:List Nat}(h:CA P w' ts fl us ys rf hs):∀(j:Nat),(∀i y,ys[i]?=some y->(mk (j+i)).den c.ρ=y)->
  ∃recs:List AZ,(Ds P nx mk j ts fl).2=recs.map AZ.pair/\recs.flatMap AZ.top=hs/\(∀r∈recs,nx+j<=r.tag/\r.tag<nx+j+ts.length/\r.new.isSome)/\(recs.map AZ.tag).Nodup/\(∀r∈recs,r.new=us[r.tag-(nx+j)]?)/\
   ∀c',FC c c' w' recs->(∀b∈rf,c'.ok b)->SR c' (Ds P nx mk j ts fl).1 us/\ ∀r∈recs,DL c' r.tag r.cy:=by
 induction h with
 |nil=>exact λj _=>⟨[],rfl,rfl,by simp,by simp,by simp,λc' _ _=>⟨.nil,by simp⟩⟩
 | @own t ts fl el u us y ys top N rf hs h1 h2 KG h3 _ ih=>
  intro j GO;obtain⟨recs,e1,e2,e3,e4,e4',e5⟩:=ih (j+1) (λi y hy=>by rw[show j+1+i=j+(i+1)from by omega];exact GO (i+1) y (by simpa using hy));have hy:=GO 0 y rfl;have oS:UY P t el 0 0 (mk j)= .row el (P.cellsOf el) 0 (mk j) (Ch P el):=by
   unfold UY;rcases KG with⟨h,_⟩|⟨h,h'⟩
   ·rw[if_pos h,h]
   ·rw[if_neg (by rw[h];simp),h',h]
  simp only[Ds,h1,h2,oS];refine⟨⟨nx+j,some u,top, .row el (P.cellsOf el) 0 (mk j) (Ch P el)⟩::recs,by simp[e1,AZ.pair],by simp[e2],λr hr=> ?_,?_,λr hr=> ?_,λc' ha A4=> ?_⟩
  ·rcases Ag.1 hr with rfl|hr
   ·simp
   ·have:=e3 r hr;simp only[AE];exact⟨by omega,by omega,this.2.2⟩
  ·simp only[List.map_cons,List.nodup_cons];refine⟨λhm=> ?_,e4⟩;obtain⟨r,hr,K4⟩:=List.mem_map.1 hm;have:=e3 r hr;omega
  ·rcases Ag.1 hr with rfl|hr
   ·simp
   ·rw[e4' r hr];have:=e3 r hr;rw[show r.tag-(nx+j)=(r.tag-(nx+(j+1)))+1 from by omega,List.getElem?_cons_succ]
  ·obtain⟨q1,q2⟩:=e5 c' (ha.mono λr hr=>by simp[hr]) λb hb=>A4 b (by simp[hb]);obtain⟨k1,k2,k3⟩:=ha.new _ (List.mem_cons_self ..) u rfl;have kg:=ha.G _ (List.mem_cons_self ..);simp only at k1 k2 k3 kg;refine⟨(zNK h3 k1 k3).cons q1,λr hr=> ?_⟩;rcases Ag.1 hr with rfl|hr
   ·refine⟨k1,k2,N,?_,λb hb=>A4 b (by simp[hb]),λhd=> ?_,λ_=>by rw[kg]⟩
    rotate_left
    ·rcases KG with⟨_,h⟩|⟨h,_⟩
     ·subst h;exact⟨rfl,by rw[kg]⟩
     ·rw[h]at hd;cases hd
    rw[k3,kg,ha.w,ha.ρ];have BP:(mk j).den c.ρ=y:=by simpa using hy
    rw[BP];exact h3
   ·exact q2 r hr
 | @deep t ts fl el e z l u us y ys top rf hs h1 h2 U5 Ro h3 _ ih=>
  intro j GO;obtain⟨recs,e1,e2,e3,e4,e4',e5⟩:=ih (j+1) (λi y hy=>by rw[show j+1+i=j+(i+1)from by omega];exact GO (i+1) y (by simpa using hy));have hy:=GO 0 y rfl;have oS:UY P t el 0 0 (mk j)= .deep e z l.toList 0 0 (mk j):=by unfold UY;rw[if_neg (by rw[U5];simp),Ro]
  simp only[Ds,h1,h2,oS];refine⟨⟨nx+j,some u,top, .deep e z l.toList 0 0 (mk j)⟩::recs,by simp[e1,AZ.pair],by simp[e2],λr hr=> ?_,?_,λr hr=> ?_,λc' ha A4=> ?_⟩
  ·rcases Ag.1 hr with rfl|hr
   ·simp
   ·have:=e3 r hr;simp only[AE];exact⟨by omega,by omega,this.2.2⟩
  ·simp only[List.map_cons,List.nodup_cons];refine⟨λhm=> ?_,e4⟩;obtain⟨r,hr,K4⟩:=List.mem_map.1 hm;have:=e3 r hr;omega
  ·rcases Ag.1 hr with rfl|hr
   ·simp
   ·rw[e4' r hr];have:=e3 r hr;rw[show r.tag-(nx+j)=(r.tag-(nx+(j+1)))+1 from by omega,List.getElem?_cons_succ]
  ·obtain⟨q1,q2⟩:=e5 c' (ha.mono λr hr=>by simp[hr]) A4;obtain⟨k1,k2,k3⟩:=ha.new _ (List.mem_cons_self ..) u rfl;have kg:=ha.G _ (List.mem_cons_self ..);have ke:=ha.kt _ (List.mem_cons_self ..) rfl;simp only at k1 k2 k3 kg ke;obtain⟨p1,p2,p3,rfl⟩:=h3.head;refine⟨(SR.own k1 k3 .nil).cons q1,λr hr=> ?_⟩;rcases Ag.1 hr with rfl|hr
   ·refine⟨k1,k2,ke,?_,by rw[kg]⟩;have BP:(mk j).den c.ρ=y:=by simpa using hy
    rw[k3,kg,ha.w,ha.ρ,BP,AN.dw];exact h3
   ·exact q2 r hr
 | @rd t ts fl u us y ys f rf hs h1 h3 _ ih=>
  intro j GO;obtain⟨recs,e1,e2,e3,e4,e4',e5⟩:=ih (j+1) (λi y hy=>by rw[show j+1+i=j+(i+1)from by omega];exact GO (i+1) y (by simpa using hy));have hy:=GO 0 y rfl;have VD:Ds P nx mk j (t::ts) fl=(.e (mk j)::(Ds P nx mk (j+1) ts fl.tail).1,(Ds P nx mk (j+1) ts fl.tail).2):=by
   simp only[Ds];split
   ·rename_i h8 h9;rw[h1 h8]at h9;cases h9
   ·rfl
  rw[VD];refine⟨recs,e1,e2,λr hr=> ?_,e4,λr hr=> ?_,λc' ha A4=> ?_⟩
  ·have:=e3 r hr;simp only[AE];exact⟨by omega,by omega,this.2.2⟩
  ·rw[e4' r hr];have:=e3 r hr;rw[show r.tag-(nx+j)=(r.tag-(nx+(j+1)))+1 from by omega,List.getElem?_cons_succ]
  ·obtain⟨q1,q2⟩:=e5 c' ha λb hb=>A4 b (by simp[hb]);have BP:(mk j).den c.ρ=y:=by simpa using hy
   exact⟨(SR.e (f:=f) (by rw[ha.w,ha.ρ,BP];exact h3) (λb hb=>A4 b (by simp[hb])) .nil).cons q1,q2⟩
theorem QU{nx:Nat}{mk:Nat->E}:∀(j:Nat) (ts:List TypeId) (fl:List Bool) (t:Nat) (e:Aj) {gs:Gd} {f:Aj},(t,e)∈(Ds P nx mk j ts fl).2->e≠ .gd gs f
 |_,[],_,_,_,_,_,h=>by simp[Ds]at h
 |j,u::ts,fl,t,e,gs,f,h=>by
  unfold Ds at h;split at h
  ·rcases Ag.1 h with h|h
   ·cases h;unfold UY;split
    ·simp
    ·split<;>simp
   ·exact QU _ _ _ _ _ h
  ·exact QU _ _ _ _ _ h
theorem YD{ρ:List AV}{x:E}{ys:List AV}(hx:x.den ρ= .agg ys):∀i y,ys[i]?=some y->(Eh x true (0+i)).den ρ=y:=by intro i y hy;simp[Eh,E.den,hx,AV.fld,AV.cells,hy]
theorem ztQ{nx:Nat}{t:TypeId}{fl:List Bool}{x:E}{v:Value}{y:AV}{rf hs:List Nat}(h:DM P w' t fl v y rf hs)(hx:x.den c.ρ=y):
  ∃recs:List AZ,(Q2 P nx t fl x).2=recs.map AZ.pair/\recs.flatMap AZ.top=hs/\(∀r∈recs,nx<=r.tag/\r.tag<nx+(Bc P t).length/\r.new.isSome)/\(recs.map AZ.tag).Nodup/\
   ∀c',FC c c' w' recs->(∀b∈rf,c'.ok b)->SR c' [(Q2 P nx t fl x).1] [v]/\ ∀r∈recs,DL c' r.tag r.cy:=by
 unfold DM at h;unfold Q2;split at h
 ·rename_i hf;simp only[hf,if_true];obtain⟨us,ys,hg,hc⟩:=h;split at hg
  ·rename_i AP;obtain⟨rfl,rfl,Da⟩:=hg;obtain⟨recs,e1,e2,e3,e4,_,e5⟩:=TL (c:=c) (nx:=nx) (mk:=Eh x (Ar P t)) hc 0 (by rw[AP];exact YD hx);refine⟨recs,e1,e2,λr hr=>by have:=e3 r hr;exact⟨by omega,by omega,this.2.2⟩,e4,λc' ha A4=> ?_⟩;obtain⟨q1,q2⟩:=e5 c' ha A4;rw[if_pos AP];exact⟨.agg Da (by rw[BS.ax];exact q1) .nil,q2⟩
  ·rename_i AP;obtain⟨rfl,rfl⟩:=hg;have H6:Ar P t=false:=by simpa using AP
   obtain⟨recs,e1,e2,e3,e4,_,e5⟩:=TL (c:=c) (nx:=nx) (mk:=Eh x (Ar P t)) hc 0 (by
    intro i z hz;cases i with
    |zero=>simp at hz;subst hz;simp[Eh,H6,hx]
    |succ i=>simp at hz)
   refine⟨recs,e1,e2,λr hr=>by have:=e3 r hr;exact⟨by omega,by omega,this.2.2⟩,e4,λc' ha A4=> ?_⟩;obtain⟨q1,q2⟩:=e5 c' ha A4;refine⟨?_,q2⟩;rw[if_neg AP];have hl:=q1.len;generalize (Ds P nx (Eh x (Ar P t)) 0 (Bc P t) fl).1=l at q1 hl
   match l,hl with
   | [s],_=>exact q1
 ·rename_i hf;simp only[hf,if_false,A6];obtain⟨h1,rfl⟩:=h;exact⟨[],rfl,rfl,by simp,by simp,λc' ha A4=>⟨.e (f:=rf) (by rw[ha.w,ha.ρ,hx];exact h1) A4 .nil,by simp⟩⟩
theorem zzt{ts:List TypeId}{fl:List Bool}{x:E}{vs:List Value}{ys:List AV}{rf hs:List Nat}(h:Lv P w' ts fl vs ys rf hs):∀(nx i:Nat),(∀k y,ys[k]?=some y->(E.proj x (i+k)).den c.ρ=y)->
  ∃recs:List AZ,(O3 P nx ts fl x i).2=recs.map AZ.pair/\recs.flatMap AZ.top=hs/\(∀r∈recs,nx<=r.tag/\r.tag<nx+(ts.flatMap (Bc P)).length/\r.new.isSome)/\(recs.map AZ.tag).Nodup/\
   ∀c',FC c c' w' recs->(∀b∈rf,c'.ok b)->SR c' (O3 P nx ts fl x i).1 vs/\ ∀r∈recs,DL c' r.tag r.cy:=by
 induction h with
 |nil=>exact λnx i _=>⟨[],rfl,rfl,by simp,by simp,λc' _ _=>⟨.nil,by simp⟩⟩
 | @cons t ts fl v vs y ys f h rf hs h1 _ ih=>
  intro nx i hx;obtain⟨r1,a1,a2,a3,a4,a5⟩:=ztQ (c:=c) (nx:=nx) (x:= .proj x i) h1 (hx 0 y rfl);obtain⟨r2,b1,b2,b3,b4,b5⟩:=ih (nx+(Bc P t).length) (i+1) (λk z hz=>by rw[show i+1+k=i+(k+1)from by omega];exact hx (k+1) z (by simpa using hz));simp only[O3];refine⟨r1++r2,by simp[a1,b1],by simp[a2,b2],λr hr=> ?_,?_,λc' ha A4=> ?_⟩
  ·simp only[List.flatMap_cons,Aq];rcases Ae.1 hr with hr|hr
   ·have:=a3 r hr;exact⟨this.1,by omega,this.2.2⟩
   ·have:=b3 r hr;exact⟨by omega,by omega,this.2.2⟩
  ·rw[List.map_append,List.nodup_append];refine⟨a4,b4,λt1 Od t2 LL he=> ?_⟩;obtain⟨q1,Hr,rfl⟩:=List.mem_map.1 Od;obtain⟨q2,FT,rfl⟩:=List.mem_map.1 LL;have:=a3 q1 Hr;have:=b3 q2 FT;omega
  ·obtain⟨p1,p2⟩:=a5 c' (ha.mono λr hr=>by simp[hr]) λb hb=>A4 b (by simp[hb]);obtain⟨q1,q2⟩:=b5 c' (ha.mono λr hr=>by simp[hr]) λb hb=>A4 b (by simp[hb]);refine⟨p1.cons q1,λr hr=> ?_⟩;rcases Ae.1 hr with hr|hr
   ·exact p2 r hr
   ·exact q2 r hr
end
theorem Yx{α:Type}{f:α->List Nat}:∀{l:List α},(l.flatMap f).Nodup->(∀a∈l,(f a).Nodup)/\ ∀(i j:Nat) (a b:α) (x:Nat),l[i]?=some a->l[j]?=some b->x∈f a->x∈f b->i=j
 | [],_=>⟨by simp,by simp⟩
 |a::l,h=>by
  rw[List.flatMap_cons,List.nodup_append]at h;obtain⟨h1,h2,h3⟩:=h;obtain⟨k1,k2⟩:=Yx h2;refine⟨λb hb=> ?_,λi j p q x hi hj hp hq=> ?_⟩
  ·rcases Ag.1 hb with rfl|hb
   ·exact h1
   ·exact k1 b hb
  ·cases i with
   |zero=>
    cases j with
    |zero=>rfl
    |succ j=>simp at hi hj;subst hi;exact absurd rfl (h3 x hp x (List.mem_flatMap.2 ⟨q,List.mem_of_getElem? hj,hq⟩))
   |succ i=>
    cases j with
    |zero=>simp at hi hj;subst hj;exact absurd rfl (h3 x hq x (List.mem_flatMap.2 ⟨p,List.mem_of_getElem? hi,hp⟩))
    |succ j=>rw[k2 i j p q x (by simpa using hi) (by simpa using hj) hp hq]
theorem Un{recs:List AZ}(hn:(recs.map AZ.tag).Nodup){r:AZ}(hr:r∈recs)(p:AZ->Bool)(hp:p r=true)(EK:∀q,p q=true->q.tag=r.tag):recs.find? p=some r:=by
 induction recs with
 |nil=>simp at hr
 |cons q recs ih=>
  simp only[List.map_cons,List.nodup_cons]at hn;rw[List.find?_cons];rcases Ag.1 hr with rfl|hr
  ·simp[hp]
  ·have:p q=false:=by
    cases hq:p q with
    |false=>rfl
    |true=>exact absurd (List.mem_map.2 ⟨r,hr,(EK q hq).symm⟩) hn.1
   rw[this];exact ih hn.2 hr
def Cx.fm(c:Cx)(w':World)(recs:List AZ):Cx:=
 {c with w:=w',G:=λt=>(match recs.find? (λr=>r.tag==t)with|some r=>⟨r.top,[]⟩|none=>c.G t),K:=λt g=>c.K t g\/ ∃r∈recs,r.tag=t/\r.new.isSome=true/\g=0,H:=λt g=>(match recs.find? (λr=>r.tag==t&&r.new.isSome)with|some r=>r.new.getD undef|none=>c.H t g),U:=λt=>c.U t\/ ∃r∈recs,r.tag=t,E:=λt=>match recs.find? (λr=>r.tag==t)with|some r=>if r.new.isSome then 0 else c.E t+1|none=>c.E t}
section
variable {P:Program} {c:Cx} {n:Nat} {sl:Nat->SV} {hp:Nat->Option Aj} {a:Act} {w':World} {recs:List AZ}
theorem Cx.gb(hn:(recs.map AZ.tag).Nodup){r:AZ}(hr:r∈recs):(c.fm w' recs).G r.tag=⟨r.top,[]⟩:=by simp only[Cx.fm];rw[Un hn hr (λq=>q.tag==r.tag) (by simp) (λq hq=>by simpa using hq)]
theorem Cx.ej{t:Nat}(ht:∀r∈recs,r.tag≠t):(c.fm w' recs).G t=c.G t:=by
 simp only[Cx.fm];have:recs.find? (λr=>r.tag==t)=none:=by rw[List.find?_eq_none];intro r hr;simpa using ht r hr
 rw[this]
theorem Cx.ff(hU:∀t g,c.K t g->c.U t)(hn:(recs.map AZ.tag).Nodup)(Bm:∀r∈recs,r.new.isSome=true-> ¬c.U r.tag):FC c (c.fm w' recs) w' recs:=by
 refine⟨rfl,rfl,λr hr=>Cx.gb hn hr,λr hr hv Kg=>⟨.inr ⟨r,hr,rfl,by simp[Kg],rfl⟩,λg hg=> ?_,?_⟩,λt g hk=>⟨.inl hk,?_⟩,λt ht g hk=> ?_,λr hr hs=> ?_,λr hr hs=> ?_⟩
 ·rcases hg with hg|⟨_,_,_,_,rfl⟩
  ·exact absurd (hU _ _ hg) (Bm r hr (by simp[Kg]))
  ·exact AF _
 ·simp only[Cx.fm];rw[Un hn hr (λq=>q.tag==r.tag&&q.new.isSome) (by simp[Kg]) (λq hq=>by simp only[Ac,Az]at hq;exact hq.1)];simp[Kg]
 ·simp only[Cx.fm];have:recs.find? (λr=>r.tag==t&&r.new.isSome)=none:=by
   rw[List.find?_eq_none];rintro r hr hh;simp only[Ac,Az]at hh;exact Bm r hr hh.2 (hh.1▸hU t g hk)
  rw[this]
 ·rcases hk with hk|⟨r,hr,rfl,hh,_⟩
  ·exact hk
  ·exact absurd ht (Bm r hr hh)
 ·simp only[Cx.fm];rw[Un hn hr (λq=>q.tag==r.tag) (by simp) (λq hq=>by simpa using hq)];simp[hs]
 ·simp only[Cx.fm];rw[Un hn hr (λq=>q.tag==r.tag) (by simp) (λq hq=>by simpa using hq)];simp[hs]
theorem Cx.ld{t:Nat}(ht:∀r∈recs,r.tag≠t):(c.fm w' recs).E t=c.E t:=by
 simp only[Cx.fm];have:recs.find? (λr=>r.tag==t)=none:=by rw[List.find?_eq_none];intro r hr;simpa using ht r hr
 rw[this]
theorem Rel.changes(h:Rel c n sl hp a){hs:List Nat}{gs:Gd}(k:Bt c.ρ gs)(Bg:Mod hs c.w w')(hn:(recs.map AZ.tag).Nodup)(Bm:∀r∈recs,r.new.isSome=true-> ¬c.U r.tag)
  (Ii:∀b∈hs,∃r∈recs,b∈(c.G r.tag).top) (Fi:(recs.flatMap AZ.top).Nodup) (B9:∀r∈recs,∀b∈r.top,(b∈hs\/c.w.heap.size<=b)/\b<w'.heap.size)
  (BY:∀r∈recs,∀hs f,r.cy≠ .gd hs f) (BK:Ev c (c.fm w' recs)-> ∀r∈recs,DL (c.fm w' recs) r.tag r.cy):
  Rel (c.fm w' recs) n sl (Bo hp (recs.map λr=>(r.tag,Dk gs r.cy))) a/\Ev c (c.fm w' recs):=by
 have aft:=Cx.ff (w':=w') h.de hn Bm;have hsM:∀b∈hs,c.M b:=λb hb=>by obtain⟨r,_,hr⟩:=Ii b hb;exact⟨_,hr⟩
 have Bj:∀b∈hs,c.B<=b\/c.Mu b:=λb hb=>by obtain⟨r,_,hr⟩:=Ii b hb;exact h.gw.allow r.tag b (by simp[GI.own,hr])
 have Ck:Ev c (c.fm w' recs):=by
  refine⟨rfl,rfl,λb hb A4=>⟨λ⟨t,ht⟩=> ?_,A4.2⟩,λb hb A4=>Bg.block b hb λhh=>A4.1 (hsM b hh),aft.K,λt g hk=> ?_⟩;by_cases hT:∃r∈recs,r.tag=t
  ·obtain⟨r,hr,rfl⟩:=hT;rw[Cx.gb hn hr]at ht;rcases(B9 r hr b ht).1 with hh|hh
   ·exact A4.1 (hsM b hh)
   ·omega
  ·rw[Cx.ej λr hr hh=>hT ⟨r,hr,hh⟩]at ht;exact A4.1 ⟨t,ht⟩
  ·by_cases hT:∃r∈recs,r.tag=t
   ·obtain⟨r,hr,rfl⟩:=hT;have DQ:r.new=none:=by
     cases hh:r.new with
     |none=>rfl
     |some v=>exact absurd (h.de _ _ hk) (Bm r hr (by simp[hh]))
    rw[aft.jh r hr DQ];exact⟨by omega,λh=>by omega⟩
   ·have hT':∀r∈recs,r.tag≠t:=λr hr hh=>hT ⟨r,hr,hh⟩;rw[Cx.ld hT',Cx.ej hT'];refine⟨AF _,λ_=>⟨rfl,λb hb FE=>Bg.block b FE λhh=> ?_⟩⟩;obtain⟨r,hr,GK⟩:=Ii b hh;exact h.gw.dt t r.tag (λhh=>hT ⟨r,hr,hh.symm⟩) b (by simp[GI.own,hb]) (by simp[GI.own,GK])
 have BK:=BK Ck;have K6:∀r∈recs,∀e',(r.tag,e')∈(recs.map λr=>(r.tag,Dk gs r.cy))->e'=Dk gs r.cy:=by
  intro r hr e' Ft;obtain⟨q,hq,Ke⟩:=List.mem_map.1 Ft;simp only[A0]at Ke;obtain⟨h1,rfl⟩:=Ke;have e1:=Cx.gb (c:=c) (w':=w') hn hr;have:q=r:=by have f1:=Un hn hr (λq=>q.tag==r.tag) (by simp) (λq hq=>by simpa using hq);have f2:=Un hn hq (λp=>p.tag==r.tag) (by simp[h1]) (λp hp=>by rw[h1];simpa using hp);rw[f1]at f2;cases f2;rfl
  rw[this]
 refine⟨h.change (λt=> ∃r∈recs,r.tag=t) Ck ⟨Bg.os.trans h.base.os,Bg.tape.trans h.base.tape,Bg.output.trans h.base.output,Nat.le_trans h.base.size Bg.size,λt v Ry=>⟨.inl (h.base.pins t v Ry).1,λhk=> ?_⟩,λb hb GP=> ?_,h.base.pk,h.base.lo⟩
  (λt ht=>⟨Nn λe he=> ?_,Cx.ej λr hr hh=>ht ⟨r,hr,hh⟩,Cx.ld λr hr hh=>ht ⟨r,hr,hh⟩,λg hg=> ?_⟩) (λt ht b hb=>Bg.block b (h.gw.inb t b (by simp[GI.own,hb])) λhh=> ?_) (λt ht=> ?_) ⟨λt=> ?_,λt u Oe b hb Cd=> ?_,λt b hb=> ?_,λt b hb=> ?_⟩ (λt g hk=> ?_) (λt e he=> ?_),Ck⟩
 ·have Cf:=aft.old t (h.base.pins t v Ry).1 0 hk;rw[(aft.K t 0 Cf).2];exact(h.base.pins t v Ry).2 Cf
 ·refine(Bg.block b (Nat.lt_of_lt_of_le hb h.base.size) λhh=> ?_).trans (h.base.block b hb GP);rcases Bj b hh with h1|h1
  ·exact absurd h1 (Nat.not_le.2 hb)
  ·exact GP h1
 ·obtain⟨q,hq,Ke⟩:=List.mem_map.1 he;simp only[A0]at Ke;exact ht ⟨q,hq,Ke.1⟩
 ·rcases hg with hg|⟨r,hr,K4,_⟩
  ·exact hg
  ·exact absurd ⟨r,hr,K4⟩ ht
 ·obtain⟨r,hr,FE⟩:=Ii b hh;exact h.gw.dt t r.tag (λhh=>ht ⟨r,hr,hh.symm⟩) b (by simp[GI.own,hb]) (by simp[GI.own,FE])
 ·obtain⟨r,hr,rfl⟩:=ht;have Fj:=rI (hp:=hp) (l:=recs.map λr=>(r.tag,Dk gs r.cy)) (List.mem_map.2 ⟨r,hr,rfl⟩) (K6 r hr);rw[Fj];refine⟨λe' V4=> ?_,λDQ=> ?_⟩
  ·rw[(Uo k (BY r hr)).1 V4];exact BK r hr
  ·exact absurd ((Uo k (BY r hr)).2 rfl) (DQ r.cy)
 ·by_cases hT:∃r∈recs,r.tag=t
  ·obtain⟨r,hr,rfl⟩:=hT;rw[Cx.gb hn hr];simpa[GI.own]using(Yx Fi).1 r hr
  ·rw[Cx.ej λr hr hh=>hT ⟨r,hr,hh⟩];exact h.gw.nodup t
 ·by_cases hT:∃r∈recs,r.tag=t
  ·obtain⟨r,hr,rfl⟩:=hT;rw[Cx.gb hn hr]at hb;simp only[GI.own,AH]at hb;by_cases hV:∃r∈recs,r.tag=u
   ·obtain⟨q,hq,rfl⟩:=hV;rw[Cx.gb hn hq]at Cd;simp only[GI.own,AH]at Cd;obtain⟨i,hi⟩:=List.getElem?_of_mem hr;obtain⟨j,hj⟩:=List.getElem?_of_mem hq;have:=(Yx Fi).2 i j r q b hi hj hb Cd;subst this;rw[hi]at hj;cases hj;exact Oe rfl
   ·rw[Cx.ej λr hr hh=>hV ⟨r,hr,hh⟩]at Cd;rcases(B9 r hr b hb).1 with hh|hh
    ·obtain⟨q,hq,hbq⟩:=Ii b hh;exact h.gw.dt q.tag u (λhh=>hV ⟨q,hq,hh⟩) b (by simp[GI.own,hbq]) Cd
    ·have:=h.gw.inb u b Cd;omega
  ·rw[Cx.ej λr hr hh=>hT ⟨r,hr,hh⟩]at hb;by_cases hV:∃r∈recs,r.tag=u
   ·obtain⟨q,hq,rfl⟩:=hV;rw[Cx.gb hn hq]at Cd;simp only[GI.own,AH]at Cd;rcases(B9 q hq b Cd).1 with hh|hh
    ·obtain⟨r,hr,Zv⟩:=Ii b hh;exact h.gw.dt r.tag t (λhh=>hT ⟨r,hr,hh⟩) b (by simp[GI.own,Zv]) hb
    ·have:=h.gw.inb t b hb;omega
   ·rw[Cx.ej λr hr hh=>hV ⟨r,hr,hh⟩]at Cd;exact h.gw.dt t u Oe b hb Cd
 ·by_cases hT:∃r∈recs,r.tag=t
  ·obtain⟨r,hr,rfl⟩:=hT;rw[Cx.gb hn hr]at hb;simp only[GI.own,AH]at hb;rcases(B9 r hr b hb).1 with hh|hh
   ·exact Bj b hh
   ·exact .inl (Nat.le_trans h.base.size hh)
  ·rw[Cx.ej λr hr hh=>hT ⟨r,hr,hh⟩]at hb;exact h.gw.allow t b hb
 ·by_cases hT:∃r∈recs,r.tag=t
  ·obtain⟨r,hr,rfl⟩:=hT;rw[Cx.gb hn hr]at hb;simp only[GI.own,AH]at hb;exact(B9 r hr b hb).2
  ·rw[Cx.ej λr hr hh=>hT ⟨r,hr,hh⟩]at hb;exact Nat.lt_of_lt_of_le (h.gw.inb t b hb) Bg.size
 ·rcases hk with hk|⟨r,hr,K4,_⟩
  ·exact .inl (h.de t g hk)
  ·exact .inr ⟨r,hr,K4⟩
 ·by_cases hT:∃r∈recs,r.tag=t
  ·exact .inr hT
  ·rw[Nn]at he
   ·exact .inl (h.dv t e he)
   ·intro e' Ft;obtain⟨q,hq,Ke⟩:=List.mem_map.1 Ft;simp only[A0]at Ke;exact hT ⟨q,hq,Ke.1⟩
end
def uU(P:Program)(w:World)(t:TypeId):PM->Value->AV->List Nat->List Nat->Prop
 | .ro,v,x,rf,hs=>Rd w [v] [x] rf/\hs=[]
 | .va own,v,x,rf,hs=>MY P w t own v x rf hs
 | .mu own,v,x,rf,hs=>MY P w t own v x rf hs
 | .bx own _,v,x,rf,hs=> ∃(ty:TypeId) (b:Nat) (C:Array Value) (ys:List AV) (h:List Nat),LQ P t=some ty/\v= .pointer (some ⟨b,0,none⟩)/\w.heap[b]?=some (.cells C ty (0,0))/\(∀u∈C.toList,u.oneCell'=true)/\x= .ref (.agg ys)/\
   CA P w (Bc P ty) own C.toList ys rf h/\hs=b::h
inductive Eg(P:Program)(w:World):List TypeId->List PM->List Bool->List Value->List AV->List Nat->List Nat->List Nat->Prop where
 |nil {ms lo}:Eg P w [] ms lo [] [] [] [] []
 |cons {t ts ms lo v vs x xs f h rf lf hs}:uU P w t (ms.headD .ro) v x f h->Eg P w ts ms.tail lo.tail vs xs rf lf hs->Eg P w (t::ts) ms lo (v::vs) (x::xs) (f++rf) lf (h++hs)
 |lent {t ts ms lo v vs x xs f rf lf hs}:lo.headD false=true->ms.headD .ro= .ro->Rd w [v] [x] f->Eg P w ts ms.tail lo.tail vs xs rf lf hs->Eg P w (t::ts) ms lo (v::vs) (x::xs) rf (f++lf) hs
 |free {ms lo v vs x xs f rf lf hs}:Rd w [v] [x] f->Eg P w [] ms.tail lo.tail vs xs rf lf hs->Eg P w [] ms lo (v::vs) (x::xs) (f++rf) lf hs
inductive HV(P:Program)(c:Cx):List TypeId->List Bool->List Value->List (Option RI)->Prop where
 |nil {fl}:HV P c [] fl [] []
 |row {t ts fl v vs u g el rs}:fl.headD false=true->CK P t=some el->(Ch P el=true\/DN P t=none)->c.K u g->c.H u g=v->(∀g',c.K u g'->g'<=g)->HV P c ts fl.tail vs rs->HV P c (t::ts) fl (v::vs) (some (.fl u g el (P.cellsOf el) (Ch P el))::rs)
 |deep {t ts fl v vs u g el e z l ep rs}:fl.headD false=true->CK P t=some el->Ch P el=false->DN P t=some (.row e z (AN.of l))->c.K u g->c.H u g=v->(∀g',c.K u g'->g'<=g)->c.E u=ep->HV P c ts fl.tail vs rs->HV P c (t::ts) fl (v::vs) (some (.dp u g e z l ep)::rs)
 |none {t ts fl v vs rs}:(fl.headD false=true->CK P t=none\/ ∃a,v= .slice a 0 0)->HV P c ts fl.tail vs rs->HV P c (t::ts) fl (v::vs) (none::rs)
inductive Kq(P:Program)(c:Cx):List TypeId->List PM->List Value->List PA->Prop where
 |nil {ts ms}:Kq P c ts ms [] []
 |ro {ts ms v vs bs}:ms.headD .ro= .ro->Kq P c ts.tail ms.tail vs bs->Kq P c ts ms (v::vs) bs
 |va {ts ms own v vs bs us}:ms.headD .ro= .va own->(∀u∈us,c.U u)->Kq P c ts.tail ms.tail vs bs->Kq P c ts ms (v::vs) (.va us::bs)
 |mu {t ts ms own v vs bs us rs}:ms.headD .ro= .mu own->(if Ar P t then v= .agg us.toArray else us=[v])->HV P c (Bc P t) own us rs->Kq P c ts ms.tail vs bs->Kq P c (t::ts) ms (v::vs) (.mu rs (Ar P t)::bs)
 |bx {t ts ms own own' ty v vs bs T b g olds}:ms.headD .ro= .bx own own'->LQ P t=some ty->v= .pointer (some ⟨b,0,none⟩)->c.K T 0->c.H T 0=v->(∀u∈olds,c.U u)->Kq P c ts ms.tail vs bs->Kq P c (t::ts) ms (v::vs) (.box T g own' ty olds::bs)
section
variable {P:Program} {c:Cx} {hp:Nat->Option Aj} {gs:Gd}
theorem YO{t el:TypeId}{d:DT}(BJ:CK P t=some el)(h:DN P t=some d):P.cellsOf el≠0/\(Bc P el).length=P.cellsOf el/\ ∃l:List DT,d= .row el (P.cellsOf el) (AN.of l)/\l.length=P.cellsOf el:=by
 have hu:=L1 BJ;unfold DN at h;split at h
 ·cases h
 simp only[mG,hu]at h;split at h
 ·cases h
 ·rename_i hh;simp only[not_or,Decidable.not_not,ne_eq]at hh;obtain⟨l,hl,rfl⟩:=Ay.1 h;exact⟨hh.1,hh.2,l,rfl,by rw[mapM_len _ _ hl];exact hh.2⟩
where
 mapM_len {α β:Type} {f:α->Option β}:∀(l:List α) (l':List β),l.mapM f=some l'->l'.length=l.length
  | [],l',h=>by simp at h;subst h;rfl
  |a::l,l',h=>by simp only[List.mapM_cons,Option.bind_eq_bind,AB,Option.pure_def,Af]at h;obtain⟨b,_,bs,Ru,rfl⟩:=h;simp[mapM_len l bs Ru]
theorem CA.void{w:World}{t el:TypeId}{ts:List TypeId}{fl:List Bool}{a:Option Addr}{us:List Value}{ys:List AV}{rf hs:List Nat}(h1:fl.headD false=true)(h2:CK P t=some el)(hz:P.cellsOf el≠0)(h:CA P w ts fl.tail us ys rf hs):CA P w (t::ts) fl (.slice a 0 0::us) (.sl []::ys) rf ([]++hs):=by
 have Bj:Df w el (P.cellsOf el) (.slice a 0 0) (.sl []) [] []:=⟨[],rfl,by simp,by omega, .inl ⟨rfl,⟨a,rfl⟩,rfl,rfl⟩⟩
 cases hf:Ch P el with
 |true=>exact .own h1 h2 (.inl ⟨hf,rfl⟩) Bj h
 |false=>
  cases hd:DN P t with
  |none=>exact .own h1 h2 (.inr ⟨hf,hd⟩) Bj h
  |some d=>obtain⟨_,_,l,rfl,hl⟩:=YO h2 hd;exact .deep h1 h2 hf hd (.void (by omega) (by rw[AN.ax];exact hl) .nil) h
theorem zwE{as_ bs:List Value}(h:Value.agg as_.toArray= .agg bs.toArray):as_=bs:=by
 have h1:as_.toArray=bs.toArray:=by injection h
 have:=congrArg Array.toList h1;simpa using this
theorem zqo(eh:EH c hp)(k:Bt c.ρ gs)(hU:∀t g,c.K t g->c.U t):∀(ts:List TypeId) {cs:List SV} {fl:List Bool} {rs:List (Option RI)} {us:List Nat} {vs:List Value} {xs:EL} {m:Nat},IA P hp gs ts cs fl=some (rs,us)->SR c cs vs->CZ hp gs m cs=some xs->m<=Bb->
  ∃rf hs,CA P c.w ts fl vs (xs.den c.ρ) rf hs/\(∀b∈rf,c.gq us b)/\hs=(De rs).flatMap (λt=>(c.G t).top)/\HV P c ts fl vs rs/\ ∀u∈De rs,c.U u
 | [],[],fl,rs,us,vs,xs,m,h,hs,hx,hm=>by
  simp[IA]at h;obtain⟨rfl,rfl⟩:=h;cases hs;cases m with
  |zero=>simp[CZ]at hx
  |succ m=>simp[CZ]at hx;subst hx;exact⟨[],[], .nil,by simp,by simp[De], .nil,by simp[De]⟩
 | [],s::cs,fl,rs,us,vs,xs,m,h,hs,hx,hm=>by simp[IA]at h
 |t::ts,[],fl,rs,us,vs,xs,m,h,hs,hx,hm=>by simp[IA]at h
 |t::ts,s::cs,fl,rs,us,[],xs,m,h,hs,hx,hm=>by have:=hs.len;simp at this
 |t::ts,s::cs,fl,rs,us,v::vs,xs,m,h,hs,hx,hm=>by
  obtain⟨j,y,ys,rfl,hy,DJ,rfl⟩:=L2 hx;obtain⟨r1,r2⟩:=hs.dh;unfold IA at h;split at h
  ·cases h
  rename_i rs' us' DI;obtain⟨rf,A9,q1,q2,q3,q4,q5⟩:=zqo eh k hU ts DI r2 DJ (by omega);split at h
  ·rename_i hf;split at h
   ·rename_i r hr;simp only[Af,A0]at h;obtain⟨rfl,rfl⟩:=h;unfold qP at hr;split at hr
    ·cases hr
    rename_i el BJ;split at hr
    ·cases hr
    rename_i hz;have empt:∀a,v= .slice a 0 0->y.den c.ρ= .sl []->r=none-> ∃rf hs,CA P c.w (t::ts) fl (v::vs) ((EL.cons y ys).den c.ρ) rf hs/\(∀b∈rf,c.gq us' b)/\hs=(De (r::rs')).flatMap (λt=>(c.G t).top)/\HV P c (t::ts) fl (v::vs) (r::rs')/\ ∀u∈De (r::rs'),c.U u:=by rintro a rfl IZ rfl;refine⟨rf,[]++A9,?_,q2,by simpa[De]using q3, .none (λ_=> .inr ⟨a,rfl⟩) q4,by simpa[De]using q5⟩;rw[EL.den,IZ];exact CA.void hf BJ (by omega) q1
    split at hr
    ·simp only[Af]at hr;subst hr;cases r1 with
     |dg _=>exact empt _ rfl (by rw[Ng hy];rfl) rfl
    ·simp only[Af]at hr;subst hr;cases r1 with
     |emp _=>
      refine empt _ rfl ?_ rfl;cases j with
      |zero=>simp[BH]at hy
      |succ j=>simp[BH]at hy;subst hy;rfl
    ·rename_i u g;split at hr
     ·rename_i e z g' x d hl;split at hr
      ·rename_i hh;obtain⟨rfl,rfl,rfl,Ia⟩:=hh;simp only[Af]at hr;subst hr;obtain⟨p1,p2,N,p3,p4,p5,_⟩:=eh u _ (Di hl k);have PE:Ch P e=true\/DN P t=none:=Ia.imp (·.1) (by rintro⟨_,h⟩;simpa using h);have Ia:Ch P e=true/\N=[]\/Ch P e=false/\DN P t=none:=by
        rcases Ia with⟨h1,h2⟩|⟨h1,h2⟩
        ·exact .inl ⟨h1,(p5 h2).1⟩
        ·exact .inr ⟨h1,by simpa using h2⟩
       have Ir:y=x:=by
        cases j with
        |zero=>simp[BH]at hy
        |succ j=>simp[BH,JU,hl]at hy;exact hy.symm
       subst Ir;have hv:c.H u g=v:=by
        cases r1 with
        |own _ k2 _=>exact k2
       rw[hv]at p3;refine⟨N++rf,(c.G u).top++A9,CA.own hf BJ Ia p3 q1,λb hb=> ?_,by simp[De,RI.tag,q3], .row hf BJ PE p1 hv p2 q4,λw hw=> ?_⟩
       ·rcases Ae.1 hb with hb|hb
        ·exact .inl (p4 b hb)
        ·exact q2 b hb
       simp only[De,List.filterMap_cons,Option.map_some,RI.tag,Ag]at hw;rcases hw with rfl|hw
       ·exact hU _ _ p1
       ·exact q5 w hw
      ·cases hr
     ·rename_i e z l g' ep x hl;split at hr
      ·rename_i hh;obtain⟨rfl,GV,D7⟩:=hh;have D7:=Uf D7;simp only[Af]at hr;subst hr;obtain⟨p1,p2,pE,p3,_⟩:=eh u _ (Di hl k);have Ir:y=x:=by
        cases j with
        |zero=>simp[BH]at hy
        |succ j=>simp[BH,JU,hl]at hy;exact hy.symm
       subst Ir;have hv:c.H u g=v:=by
        cases r1 with
        |own _ k2 _=>exact k2
       rw[hv]at p3;refine⟨rf,(c.G u).top++A9,CA.deep hf BJ GV D7 p3 q1,q2,by simp[De,RI.tag,q3], .deep hf BJ GV D7 p1 hv p2 pE q4,λw hw=> ?_⟩;simp only[De,List.filterMap_cons,Option.map_some,RI.tag,Ag]at hw;rcases hw with rfl|hw
       ·exact hU _ _ p1
       ·exact q5 w hw
      ·cases hr
     ·cases hr
    ·cases hr
   ·cases h
  ·rename_i hf;simp only[Af,A0]at h;obtain⟨rfl,rfl⟩:=h;obtain⟨f,p1,p2⟩:=Je eh k j hy r1 Bb (by omega);refine⟨f++rf,A9,CA.rd (λhh=>absurd hh hf) p1 q1,λb hb=> ?_,by simpa[De]using q3, .none (λhh=>absurd hh hf) q4,by simpa[De]using q5⟩;rcases Ae.1 hb with hb|hb
   ·exact(p2 b hb).mono λt ht=>by simp[ht]
   ·exact(q2 b hb).mono λt ht=>by simp[ht]
theorem zww(eh:EH c hp)(k:Bt c.ρ gs)(hU:∀t g,c.K t g->c.U t){t:TypeId}{s:SV}{v:Value}{fl:List Bool}{rs:List (Option RI)}{us:List Nat}{x:E}(hs:SR c [s] [v])(hx:BH hp gs Bb s=some x)(hg:(Jc s).2=Ar P t)
  (h:IA P hp gs (Bc P t) (Jc s).1 fl=some (rs,us)):
  ∃rf hs,MY P c.w t fl v (x.den c.ρ) rf hs/\(∀b∈rf,c.gq us b)/\hs=(De rs).flatMap (λt=>(c.G t).top)/\(∃vs',(if Ar P t then v= .agg vs'.toArray else vs'=[v])/\HV P c (Bc P t) fl vs' rs)/\ ∀u∈De rs,c.U u:=by
 have single:∀(s:SV),SR c [s] [v]->BH hp gs Bb s=some x->Ar P t=false->IA P hp gs (Bc P t) [s] fl=some (rs,us)-> ∃rf hs,MY P c.w t fl v (x.den c.ρ) rf hs/\(∀b∈rf,c.gq us b)/\hs=(De rs).flatMap (λt=>(c.G t).top)/\(∃vs',(if Ar P t then v= .agg vs'.toArray else vs'=[v])/\HV P c (Bc P t) fl vs' rs)/\ ∀u∈De rs,c.U u:=by
  intro s hs hx AP h;obtain⟨t0,Oc⟩:∃t0,Bc P t=[t0]:=by
   cases hh:Bc P t with
   |nil=>rw[hh]at h;simp[IA]at h
   |cons t0 l=>
    cases l with
    |nil=>exact⟨t0,rfl⟩
    |cons t1 l=>rw[hh]at h;simp[IA]at h
  rw[Oc]at h;have key:∃rf hs,CA P c.w [t0] fl [v] [x.den c.ρ] rf hs/\(∀b∈rf,c.gq us b)/\hs=(De rs).flatMap (λt=>(c.G t).top)/\HV P c [t0] fl [v] rs/\ ∀u∈De rs,c.U u:=by
   unfold IA at h;simp only[IA]at h;split at h
   ·rename_i hf;split at h
    ·rename_i r hr;simp only[Af,A0]at h;obtain⟨rfl,rfl⟩:=h;unfold qP at hr;split at hr
     ·cases hr
     rename_i el BJ;split at hr
     ·cases hr
     rename_i hz;have empt:∀a,v= .slice a 0 0->x.den c.ρ= .sl []->r=none-> ∃rf hs,CA P c.w [t0] fl [v] [x.den c.ρ] rf hs/\(∀b∈rf,c.gq ([]:List Nat) b)/\hs=(De [r]).flatMap (λt=>(c.G t).top)/\HV P c [t0] fl [v] [r]/\ ∀u∈De [r],c.U u:=by rintro a rfl IZ rfl;refine⟨[],[]++ [],?_,by simp,by simp[De], .none (λ_=> .inr ⟨a,rfl⟩) .nil,by simp[De]⟩;rw[IZ];exact CA.void hf BJ (by omega) .nil
     split at hr
     ·simp only[Af]at hr;subst hr;cases hs with
      |dg _=>exact empt _ rfl (by rw[Ng hx];rfl) rfl
     ·simp only[Af]at hr;subst hr;cases hs with
      |emp _=>refine empt _ rfl ?_ rfl;simp[Bb,BH]at hx;subst hx;rfl
     ·rename_i u g;split at hr
      ·rename_i e z g' x0 d hl;split at hr
       ·rename_i hh;obtain⟨rfl,rfl,rfl,Ia⟩:=hh;simp only[Af]at hr;subst hr;obtain⟨p1,p2,N,p3,p4,p5,_⟩:=eh u _ (Di hl k);have PE:Ch P e=true\/DN P t0=none:=Ia.imp (·.1) (by rintro⟨_,h⟩;simpa using h);have Ia:Ch P e=true/\N=[]\/Ch P e=false/\DN P t0=none:=by
         rcases Ia with⟨h1,h2⟩|⟨h1,h2⟩
         ·exact .inl ⟨h1,(p5 h2).1⟩
         ·exact .inr ⟨h1,by simpa using h2⟩
        have Ir:x=x0:=by simp[Bb,BH,JU,hl]at hx;exact hx.symm
        subst Ir;have hv:c.H u g=v:=by
         cases hs with
         |own _ k2 _=>exact k2
        rw[hv]at p3;refine⟨N++ [],(c.G u).top++ [],CA.own hf BJ Ia p3 .nil,λb hb=> .inl (p4 b (by simpa using hb)),by simp[De,RI.tag], .row hf BJ PE p1 hv p2 .nil,λw hw=> ?_⟩;simp only[De,List.filterMap_cons,Option.map_some,RI.tag,List.filterMap_nil,Ag,List.not_mem_nil,or_false]at hw;subst hw;exact hU _ _ p1
       ·cases hr
      ·rename_i e z l g' ep x0 hl;split at hr
       ·rename_i hh;obtain⟨rfl,GV,D7⟩:=hh;have D7:=Uf D7;simp only[Af]at hr;subst hr;obtain⟨p1,p2,pE,p3,_⟩:=eh u _ (Di hl k);have Ir:x=x0:=by
         simp[Bb,BH,JU,hl]at hx;exact hx.symm
        subst Ir;have hv:c.H u g=v:=by
         cases hs with
         |own _ k2 _=>exact k2
        rw[hv]at p3;refine⟨[],(c.G u).top++ [],CA.deep hf BJ GV D7 p3 .nil,by simp,by simp[De,RI.tag], .deep hf BJ GV D7 p1 hv p2 pE .nil,λw hw=> ?_⟩;simp only[De,List.filterMap_cons,Option.map_some,RI.tag,List.filterMap_nil,Ag,List.not_mem_nil,or_false]at hw;subst hw;exact hU _ _ p1
       ·cases hr
      ·cases hr
     ·cases hr
    ·cases h
   ·rename_i hf;simp only[Af,A0]at h;obtain⟨rfl,rfl⟩:=h;obtain⟨f,p1,p2⟩:=Je eh k Bb hx hs Bb (AF _);refine⟨f++ [],[],CA.rd (λhh=>absurd hh hf) p1 .nil,λb hb=> ?_,by simp[De], .none (λhh=>absurd hh hf) .nil,by simp[De]⟩;rw[AH]at hb;exact(p2 b hb).mono λt ht=>by simp[ht]
  obtain⟨rf,A9,q1,q2,q3,q4,q5⟩:=key;refine⟨rf,A9,⟨[v],[x.den c.ρ],?_,by rw[Oc];exact q1⟩,q2,q3,⟨[v],?_,by rw[Oc];exact q4⟩,q5⟩
  ·rw[if_neg (by rw[AP];simp)];exact⟨rfl,rfl⟩
  ·rw[if_neg (by rw[AP];simp)]
 cases s with
 |agg cs=>
  simp only[Jc]at hg h;obtain⟨m,l,hm,hl,rfl⟩:=YU hx;cases hs with
  |agg h9 h1 h8=>
   rename_i as_;have Dq:m<=Bb:=by simp only[Bb]at hm ⊢;omega
   obtain⟨rf,A9,q1,q2,q3,q4,q5⟩:=zqo (P:=P) eh k hU (Bc P t) h h1 hl Dq;refine⟨rf,A9,⟨as_,l.den c.ρ,?_,q1⟩,q2,q3,⟨as_,?_,q4⟩,q5⟩
   ·rw[if_pos hg.symm];exact⟨rfl,rfl,h9⟩
   ·rw[if_pos hg.symm]
 |_=>exact single _ hs hx hg.symm h
end
end
end Go.Proofs.YtlmjpjceiefpoaaGreat
