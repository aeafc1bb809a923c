/- Parts of a proof, joined: VX, WB, WC, WD, WE, WF, WG, WH, WI, WJ, WK, WL, WM, WN, WO. -/
import Derived.Test.YteeafhlnofapaaaGreatC3
import Derived.Orders
import Derived.Lib.SliceRun
import Derived.Laws.Slices
import Derived.Laws.MakeOwn
import Derived.Laws.StructEq
set_option linter.unusedVariables false
set_option linter.unusedSimpArgs false
namespace Go.Proofs.YteeafhlnofapaaaGreat
open Go.RowKit
section
theorem G2(n:Nat):((n:Int)).toNat=n:=Int.toNat_natCast n
section
variable {P:Program} {c:Cx} {n nx:Nat} {sl sl0:Nat->SV} {hp hp0:Nat->Option Ab} {a:Act} {o:Oper} {gs:Gd} {e:AS} {sg:BE} {nv:Nat}
def Cx.dw(c:Cx)(w':World)(t:Nat)(O:List Nat):Cx:={c with w:=w',G:=λu=>if u=t then⟨(c.G t).top,O⟩else c.G u,E:=λu=>if u=t then c.E u+1 else c.E u}
theorem Rel.ia(h:Rel c n sl hp a){t:Nat}{e0:Ab}{b:Nat}{w':World}{O:List Nat}(AJ:Cg c.ρ (hp t) e0)(B5:b∈(c.G t).top)(hO:O=[]\/O=(c.G t).O)(hm:Mod [b] c.w w')(BB:w'.heap.size=c.w.heap.size)(e1:Ab)(BM:∀hs f,e1≠ .gd hs f)
  (he:Dj c (c.dw w' t O)->CM (c.dw w' t O) t e1):
  Rel (c.dw w' t O) n sl (AZ hp [(t,e1)]) a:=by
 have Bf:b∈(c.G t).own:=by simp[GI.own,B5]
 have hG:∀u,(c.dw w' t O).G u=if u=t then⟨(c.G t).top,O⟩else c.G u:=λu=>rfl;have Ea:∀u,((c.dw w' t O).G u).top=(c.G u).top:=by
  intro u;rw[hG];split
  ·rename_i hu;rw[hu]
  ·rfl
 have BG:∀u,∀q∈((c.dw w' t O).G u).own,q∈(c.G u).own:=by
  intro u q hq;rw[hG]at hq;split at hq
  ·rename_i hu;subst hu;simp only[GI.own,Ae]at hq ⊢;rcases hq with hq|hq
   ·exact .inl hq
   ·rcases hO with rfl|rfl
    ·simp at hq
    ·exact .inr hq
  ·exact hq
 have BL:Dj c (c.dw w' t O):=by
  refine⟨rfl,rfl,λq _ hq=>⟨λ⟨u,hu⟩=>hq.1 ⟨u,by rw[Ea]at hu;exact hu⟩,hq.2⟩,λq hq AI=>hm.block q hq ?_,λu g hu=>⟨hu,rfl⟩,λu g hu=> ?_⟩
  ·simp only[List.mem_singleton];rintro rfl;exact AI.1 ⟨t,B5⟩
  ·by_cases FF:u=t
   ·have e1:(c.dw w' t O).E u=c.E u+1:=by simp only[Cx.dw,if_pos FF]
    exact⟨by omega,λh=>by omega⟩
   ·have e1:(c.dw w' t O).E u=c.E u:=by simp only[Cx.dw,if_neg FF]
    have e2:(c.dw w' t O).G u=c.G u:=by simp only[Cx.dw,if_neg FF]
    rw[e1];refine⟨Ar _,λ_=>⟨e2,λq hq Hj=>hm.block q Hj ?_⟩⟩;simp only[List.mem_singleton];rintro rfl;exact h.gw.br t u (Ne.symm FF) q Bf (by simp[GI.own,hq])
 have Dr:∀u,AZ hp [(t,e1)] u=if u=t then some e1 else hp u:=λu=>rfl;refine h.change (λu=>u=t) BL ⟨hm.os.trans h.base.os,hm.tape.trans h.base.tape,hm.output.trans h.base.output,Nat.le_trans h.base.size hm.size,h.base.pins,λq hq Fk=> ?_,h.base.pk,h.base.lo⟩
  (λu hu=>⟨by rw[Dr,if_neg hu],by rw[hG,if_neg hu],by simp[Cx.dw,hu],λg hg=>hg⟩) (λu hu q hq=>hm.block q (h.gw.inb u q (by simp[GI.own,hq])) ?_) (λu hu=> ?_) ⟨λu=> ?_,λu v VY q hq Js=>h.gw.br u v VY q (BG u q hq) (BG v q Js),λu q hq=>h.gw.allow u q (BG u q hq),λu q hq=> ?_⟩ h.az (λu f hf=> ?_)
 ·refine(hm.block q (Nat.lt_of_lt_of_le hq h.base.size) ?_).trans (h.base.block q hq Fk);simp only[List.mem_singleton];rintro rfl;rcases h.gw.allow t q Bf with hh|hh
  ·exact absurd hh (Nat.not_le.2 hq)
  ·exact Fk hh
 ·simp only[List.mem_singleton];rintro rfl;exact h.gw.br t u (Ne.symm hu) q Bf (by simp[GI.own,hq])
 ·subst hu;rw[Dr,if_pos rfl];refine⟨λe' hr=> ?_,λhn=> ?_⟩
  ·cases e1<;>first
    |(simp only[Cg]at hr;subst hr;exact he BL)
    |exact absurd rfl (BM _ _)
  ·cases e1<;>first
    |exact absurd rfl (BM _ _)
    |exact absurd rfl (hn _)
 ·rw[hG];split
  ·rename_i hu;subst hu;have h0:=h.gw.nodup u;simp only[GI.own]at h0 ⊢;rcases hO with rfl|rfl
   ·rw[AE];exact(List.nodup_append.1 h0).1
   ·exact h0
  ·exact h.gw.nodup u
 ·show q<w'.heap.size;rw[BB];exact h.gw.inb u q (BG u q hq)
 ·rw[Dr]at hf;split at hf
  ·rename_i hu;subst hu;cases hh:hp u with
   |none=>rw[hh]at AJ;exact AJ.elim
   |some e9=>exact h.b8 u e9 hh
  ·exact h.b8 u f hf
theorem NC{α:Type}(L vs:List α)(p m:Nat)(h:p+vs.length<=m)(hm:m<=L.length):(setVs L p vs).take m=setVs (L.take m) p vs:=by
 apply List.ext_getElem?;intro j;have hl:(L.take m).length=m:=by rw[AF];omega
 rw[List.getElem?_take,Nv (L.take m) vs p (by omega) j,Nv L vs p (by omega) j,List.getElem?_take];by_cases h1:p<=j/\j<p+vs.length
 ·rw[if_pos (by omega),if_pos h1,if_pos h1]
 ·rw[if_neg h1,if_neg h1]
theorem Rd.setVs{w:World}{L V:List Value}{X Y:List AV}{N f:List Nat}{p:Nat}(h:Rd w L X N)(k:Rd w V Y f)(hp:p+V.length<=L.length):
  ∃n1 n2 n3,N=n1++n2++n3/\Rd w (Go.Proofs.YteeafhlnofapaaaGreat.setVs L p V) (Go.Proofs.YteeafhlnofapaaaGreat.setVs X p Y) (n1++f++n3)/\Rd w ((L.drop p).take V.length) ((X.drop p).take V.length) n2:=by
 have hl:=h.len;have hk:=k.len;have e1:L=L.take p++((L.drop p).take V.length++L.drop (p+V.length)):=by rw[<-List.drop_drop,Bq,Bq]
 have e2:X=X.take p++((X.drop p).take V.length++X.drop (p+V.length)):=by rw[<-List.drop_drop,Bq,Bq]
 have h':=h;rw[e1,e2]at h';obtain⟨n1,m,rfl,g1,g2⟩:=Rd.c8 (by simp;omega) h';obtain⟨n2,n3,rfl,g3,g4⟩:=Rd.c8 (by simp;omega) g2;refine⟨n1,n2,n3,by simp,?_,g3⟩;unfold Go.Proofs.YteeafhlnofapaaaGreat.setVs;rw[<-hk];exact(g1.app k).app g4
theorem Tm{sz:Nat}:∀(ys:List AV) (k:Nat) (z y:AV) (o:Nat) (vc:List AV),(∀y∈ys,y.cells.length=sz)->ys[k]?=some y->o+vc.length<=sz->z.cells=setVs y.cells o vc->Am (ys.set k z)=setVs (Am ys) (k*sz+o) vc
 | [],k,z,y,o,vc,_,h,_,_=>by simp at h
 |q::ys,0,z,y,o,vc,hs,h,ho,hz=>by simp at h;subst h;have hq:=hs q (by simp);simp only[Am,List.set_cons_zero,List.flatMap_cons,Nat.zero_mul,Nat.zero_add,hz];unfold setVs;rw[List.take_append_of_le_length (by omega),List.drop_append_of_le_length (by omega)];simp
 |q::ys,k+1,z,y,o,vc,hs,h,ho,hz=>by
  have hq:=hs q (by simp);have ih:=Tm ys k z y o vc (λu hu=>hs u (by simp[hu])) (by simpa using h) ho hz;simp only[Am,List.set_cons_succ,List.flatMap_cons]at ih ⊢;rw[ih];unfold setVs;have e0:(k+1)*sz+o=q.cells.length+(k*sz+o):=by rw[hq,Nat.add_mul];omega
  rw[e0,List.take_length_add_append,Nat.add_assoc (q.cells.length),List.drop_length_add_append];simp
theorem Xe{y x:AV}{k:Nat}{g:Bool}(hx:(∀cs,x≠ .agg cs)\/g=true)(hy:g=false->y.cells.length=1/\k=0/\x.cells=[x]):(y.cm k x g).cells=setVs y.cells k x.cells:=by
 cases g with
 |true=>simp[AV.cm,AV.cells,setVs]
 |false=>obtain⟨h1,h2,h3⟩:=hy rfl;subst h2;simp only[AV.cm,h3,setVs];rw[if_neg (by simp)];rw[h3];simp only[List.take_zero,List.nil_append,AM,List.length_nil,Nat.zero_add];rw[List.drop_eq_nil_of_le (by omega)];simp
theorem pG(h:A5 P c n nx sl hp a sl0 hp0 o gs){t:TypeId}{x y:Operand}(ho:o.op= .store t x y){b g:Nat}{ix:E}{sz k:Nat}{s:SV}(AY:∃e z g c d,CE hp0 gs b=some (.row e z g c d))(hx:Bl sl0 gs x=some (.bz b g ix sz k))(hy:Bl sl0 gs y=some s)
  (he:KO P hp0 gs t (.bz b g ix sz k) s=some e) (hc:∀q∈e.bf,Cn.den c.ρ q):Ap P o c n nx sl hp gs a e:=by
 have r1:=h.ca hx (by simp[ho,Op.operands]);have r2:=h.ca hy (by simp[ho,Op.operands]);simp only[KO]at he;split at he
 ·rename_i el sz' g' c0 d hl;split at he
  ·rename_i hh;obtain⟨rfl,rfl,rfl,A2,hle,EU,DE⟩:=hh;split at he
   ·rename_i xe fz dx ck B9;split at he
    ·cases he
    rename_i D4;simp only[Aa]at he;subst he;have D4:∀f,(b,f)∉fz:=λf hf=>D4 (by simp only[List.contains_eq_mem,Au];exact List.mem_map.2 ⟨_,hf,rfl⟩);obtain⟨f,q1,q2,⟨ts,q3⟩,q5⟩:=aX h.rel h.hp h.gs r2 B9 (λq hq=>hc q (by simp[hq]));obtain⟨q3,q4⟩:=q3;have AJ:=JQ h.hp (Ci hl h.gs);have CN:=h.rel.freeze h.hp h.gs q3;have Kv:Cg (c.a6 (fz.map (·.1))).ρ (AZ hp fz b) (.row el sz g c0 d):=by rw[JG D4];exact AJ
    obtain⟨e1,e2,N,e3,e4,e5,e6⟩:=CN.ents b _ Kv;obtain⟨o1,o2,o3,o4⟩:=XD (P:=P) q1 DE q5;generalize hv:a.eval x=v at r1;cases r1 with
    |bz k1 k2 k3 k4 k5 _=>
     rename_i m len cap kk kv k6;obtain⟨xs,p1,p2,p3,pcase⟩:=e3;have p1':c0.den c.ρ= .sl xs:=p1;rcases pcase with⟨_,⟨_,pv⟩,_⟩|⟨g9,cap9,C,pv,p4,p5,p6,p7,p8,p9,p10⟩
     ·exfalso;have:c.H b g=_:=pv;rw[k2]at this;cases this;omega
     ·have pv':c.H b g= .slice (some ⟨g9,0,none⟩) xs.length cap9:=pv;rw[k2]at pv';simp only[Value.slice.injEq,Aa,Addr.mk.injEq,and_true]at pv';obtain⟨rfl,rfl,rfl⟩:=pv';have GV:kv.toNat<xs.length:=by omega
      have Fp:=KR GV;generalize Hn:(AV.sl xs).nth kv.toNat=yk at Fp;have E0:=p2 yk (List.mem_of_getElem? Fp);have DH:(a.eval y).cells.toList.length=P.cellsOf t:=by simpa using o4
      have hmul:(kv.toNat+1)*sz<=xs.length*sz:=A3 _ (by omega);have De:C.toList.length=cap*sz:=by simpa using p7
      have D3:xs.length*sz<=cap*sz:=A3 _ p4;rw[Nat.add_mul]at hmul;have p6':c.w.heap[m]?=some (.cells C el (0,0)):=p6;obtain⟨m1,m2,m3⟩:=SC (vs:=(a.eval y).cells.toList) p6' (show(kv.toNat*sz+k)+_<=C.size by rw[DH,p7];omega);have LD:(C.toList.take (xs.length*sz)).length=xs.length*sz:=by rw[AF,De];omega
      obtain⟨n1,n2,n3,hN,s1,s2⟩:=Rd.setVs (p:=kv.toNat*sz+k) p10 o1 (by rw[LD,DH];omega);have EX:∀z,z<c.w.heap.size->(c.a6 (fz.map (·.1))).ok z->(putCells c.w m (kv.toNat*sz+k) (a.eval y).cells.toList).heap[z]?=c.w.heap[z]?:=by intro z hz AI;refine m1.block z hz ?_;simp only[List.mem_singleton];rintro rfl;exact AI.1 ⟨b,by rw[p8];simp⟩
      have BC:(d&&dx)=true->n2=[]/\f=[]:=by
       intro Eg;have jU:Cn.den c.ρ (.flat (.fld (.idx c0 ix) k (P.cellsOf t) (Ah P t)) (P.cellsOf t) (Ah P t)):=hc _ (by simp[Eg]);obtain⟨f1,f2,f3,f4⟩:=jU;simp only[Ad]at Eg;refine⟨?_,q2 Eg.2⟩;have LS:((Am xs).drop (kv.toNat*sz+k)).take (a.eval y).cells.toList.length=(yk.cells.drop k).take (P.cellsOf t):=by rw[DH];exact Qv xs p2 _ _ Fp k (P.cellsOf t) hle
       rw[LS]at s2;have BY:(E.fld (.idx c0 ix) k (P.cellsOf t) (Ah P t)).den c.ρ=yk.fld k (P.cellsOf t) (Ah P t):=by simp only[E.den,p1',k3,AV.idx,Hn]
       rw[BY]at f2;refine Gt s2 ?_;cases hg:Ah P t with
       |true=>rw[hg]at f2;simpa[AV.fld,AV.cells]using f2
       |false=>
        have h1:P.cellsOf t=1:=by rcases DE with h'|h';rw[hg]at h';cases h';exact h'
        rw[BY]at f4;have f4:=f4 hg;rw[hg]at f4;have AA:k<yk.cells.length:=by omega
        rw[h1,A7 AA,List.take_succ_cons,List.take_zero];simp only[List.mem_singleton,forall_eq];simpa[AV.fld,AA]using f4
      have hz:(yk.cm k (xe.den c.ρ) (Ah P el)).cells=setVs yk.cells k (xe.den c.ρ).cells:=by
       refine Xe ?_ (λhg=> ?_)
       ·cases hg:Ah P el with
        |true=>exact .inr rfl
        |false=>
         left;rcases EU with h'|⟨_,h'⟩
         ·rw[hg]at h';cases h'
         ·have h':Ah P t=false:=by simpa using h'
          rw[h']at q5;exact λcs=>(q5.1 cs)
       ·rcases EU with h'|⟨h1,h'⟩
        ·rw[hg]at h';cases h'
        ·have h':Ah P t=false:=by simpa using h'
         rw[h']at q5;have OW:P.cellsOf t=1:=by rcases DE with h2|h2;rw[h']at h2;cases h2;exact h2
         refine⟨by omega,by omega,?_⟩;cases V1:xe.den c.ρ<;>first|rfl|exact absurd V1 (q5.1 _)
      have DZ:Am (xs.set kv.toNat (yk.cm k (xe.den c.ρ) (Ah P el)))=setVs (Am xs) (kv.toNat*sz+k) (xe.den c.ρ).cells:=
       Tm xs _ _ yk k _ p2 Fp (by rw[o3];exact hle) hz
      have Dm:=CN.ia (t:=b) (b:=m) (w':=putCells c.w m (kv.toNat*sz+k) (a.eval y).cells.toList) (O:=if(d&&dx)=true then((c.a6 (fz.map (·.1))).G b).O else []) Kv (by rw[p8];simp) (by split;exact .inr rfl;exact .inl rfl) m1 m3
       (.row el sz g (.set c0 ix (.put (.idx c0 ix) k xe (Ah P el))) (d&&dx)) (by intros;simp) (λFE=>by
        have Ff:∀z∈n1++f++n3,(c.a6 (fz.map (·.1))).ok z:=by
         intro z hz;simp only[Ae]at hz;rcases hz with(hz|hz)|hz
         ·exact e4 z (by rw[hN];simp[hz])
         ·exact q4 z hz
         ·exact e4 z (by rw[hN];simp[hz])
        have OH:∀z∈n1++f++n3,z<c.w.heap.size:=s1.inb;refine⟨e1,e2,n1++f++n3,⟨xs.set kv.toNat (yk.cm k (xe.den c.ρ) (Ah P el)),?_,λz V7=> ?_,p3, .inr ⟨m,cap,_,?_,by simpa using p4,p5,m2,?_,?_,?_,?_⟩⟩,λz hz=>FE.ok z (OH z hz) (Ff z hz),λEg=> ?_,λEg=> ?_⟩
        ·show AV.ch (c0.den c.ρ) (ix.den c.ρ) (((c0.den c.ρ).idx (ix.den c.ρ)).cm k (xe.den c.ρ) (Ah P el))=_;rw[p1',k3];simp only[AV.idx,Hn,AV.ch]
        ·rcases List.mem_or_eq_of_mem_set V7 with V7|rfl
         ·exact p2 z V7
         ·rw[hz,Nx _ _ _ (by rw[o3,E0];exact hle)];exact E0
        ·rw[List.length_set];exact k2
        ·rw[List.size_toArray,Nx _ _ _ (by rw[DH,De];omega),Bp];exact p7
        ·simpa[Cx.dw]using p8
        ·simp only[List.length_set,List.toList_toArray];rw[NC _ _ _ _ (by rw[DH];omega) (by rw[De];omega)];intro u hu;unfold setVs at hu;simp only[Ae]at hu;rcases hu with(hu|hu)|hu
         ·exact p9 u (BA hu)
         ·exact o2 u hu
         ·exact p9 u (BP hu)
        ·simp only[List.length_set,List.toList_toArray];rw[NC _ _ _ _ (by rw[DH];omega) (by rw[De];omega),DZ];exact s1.frame λz hz=>EX z (OH z hz) (Ff z hz)
        ·obtain⟨z1,z2⟩:=BC Eg;have hd:d=true:=by simp only[Ad]at Eg;exact Eg.1
         obtain⟨u1,u2⟩:=e5 hd;have Rv:n1++f++n3=N:=by rw[hN,z1,z2]
         rw[Rv];refine⟨u1.frame λz hz=>EX z (p10.inb z hz) (e4 z hz),?_⟩;simp only[Cx.dw,if_true,Eg];exact u2
        ·simp[Cx.dw,Eg])
      intro next Q hk
      unfold Oper.wp;have hr:(execOp a.eval o).run P c.w= .ok .skip (putCells c.w m (kv.toNat*sz+k) (a.eval y).cells.toList):=by have:=WY (P:=P) (t:=t) (v:=a.eval y) (off:=kv.toNat*sz+k) p6' A2 o4 (by rw[o4,p7];omega) o2;simp[execOp,ho,hv,this]
      rw[hr,Oper.upon_skip];refine hk _ ((c.a6 (fz.map (·.1))).dw (putCells c.w m (kv.toNat*sz+k) (a.eval y).cells.toList) b (if(d&&dx)=true then((c.a6 (fz.map (·.1))).G b).O else [])) ⟨rfl,rfl,rfl,rfl,λt ht=> .inl ht⟩ ?_;have:=Dm.put (v:=Go.undef) ((SR.undef .nil).mkGd []) o.dst;rw[Ml];exact this
   ·cases he
  ·cases he
 all_goals (rename_i hl;obtain⟨_,_,_,_,_,Bm⟩:=AY;first|(rw[Bm]at hl;cases hl;done)|exact absurd Bm (hl _ _ _ _ _)|cases he)
end
def I0(a:Act)(o:Oper):Bool:=match o.op with| .binOp _ _ x _ _=>(match a.eval x with| .slice none _ _=>true|_=>false)|_=>false
section
variable (P:Program) (sg:BE) (Rt:Nat->List AV->AV->Prop)
def MJ:Prop:= ∀(c:Cx) (n nx:Nat) (sl:Nat->SV) (hp:Nat->Option Ab) (a:Act) (sl0:Nat->SV) (hp0:Nat->Option Ab) (o:Oper) (gs:Gd) (e:AS) (nv:Nat),A5 P c n nx sl hp a sl0 hp0 o gs-> ¬c.U (nx+999)->JY P sg sl0 hp0 nv nx gs o=some e->
 (∀q∈e.bf,q.den c.ρ)->(∀cl,e.call=some cl-> ∃r,c.ρ[nv]?=some r/\G8 Rt cl.fn ((EL.of cl.args).den c.ρ) c.ρ r)->(∀x,e.bb=some x->c.ρ[nv]?=some (.bool (I0 a o)))->Ap P o c n nx sl hp gs a e
def Q8:Prop:= ∀(c:Cx) (n nx:Nat) (sl:Nat->SV) (hp:Nat->Option Ab) (a:Act) (sl0:Nat->SV) (hp0:Nat->Option Ab) (o:Oper) (gs:Gd) (e:AS) (nv:Nat) (x:E),A5 P c n nx sl hp a sl0 hp0 o gs->JY P sg sl0 hp0 nv nx gs o=some e->e.bb=some x->I0 a o=true->x.den c.ρ= .sl []
end
theorem cK{hp:Nat->Option Ab}(l:List (Nat × Ab))(t:Nat):(AZ hp l t=hp t/\ ∀e,(t,e)∉l)\/ ∃e,(t,e)∈l/\AZ hp l t=some e:=by
 induction l generalizing hp with
 |nil=>exact .inl ⟨rfl,by simp⟩
 |cons p l ih=>
  obtain⟨u,f⟩:=p;rcases ih (hp:=λv=>if v=u then some f else hp v)with⟨h1,h2⟩|⟨e,h1,h2⟩
  ·by_cases ht:t=u
   ·subst ht;refine .inr ⟨f,by simp,?_⟩;have:AZ hp ((t,f)::l) t=AZ (λv=>if v=t then some f else hp v) l t:=rfl;rw[this,h1];simp
   ·refine .inl ⟨?_,λe he=> ?_⟩
    ·have:AZ hp ((u,f)::l) t=AZ (λv=>if v=u then some f else hp v) l t:=rfl;rw[this,h1,if_neg ht]
    ·rcases Ac.1 he with he|he
     ·cases he;exact ht rfl
     ·exact h2 e he
  ·exact .inr ⟨e,by simp[h1],h2⟩
section
variable {P:Program} {sg:BE} {Rt:Nat->List AV->AV->Prop} {c:Cx} {n nx:Nat} {sl:Nat->SV} {hp:Nat->Option Ab} {a:Act} {ops:Array Oper} {o:Oper} {gs:Gd} {e:AS}
theorem Rel.skip(h:Rel c n sl hp a)(hg: ¬A4 c.ρ gs){l:List (Nat × Ab)}(hl:∀t x,(t,x)∈l->nx<=t/\t<nx+Bw/\ ∃hs y,x= .gd hs y/\J1 gs hs=true)(AP:∀t,nx<=t->t<nx+Bw-> ¬c.U t)(s:SV)(d:Option Nat):
  Rel {c with U:=λt=>c.U t\/(nx<=t/\t<nx+Bw)} n (Co n sl d (mkGd gs s)) (AZ hp l) (a.put d undef):=by
 have hs:SR {c with U:=λt=>c.U t\/(nx<=t/\t<nx+Bw)} [mkGd gs s] [undef]:=by
  cases gs with
  |nil=>exact absurd (Ed _) hg
  |cons g gs=>exact .gd (λhh=>absurd hh hg) (λ_=>rfl) .nil
 refine Rel.put ?_ hs d;refine h.change (λt=> ∃x,(t,x)∈l) ⟨rfl,rfl,λ_ _ hb=>hb,λ_ _ _=>rfl,λ_ _ hk=>⟨hk,rfl⟩,λ_ _ _=>⟨Ar _,λ_=>⟨rfl,λ_ _ _=>rfl⟩⟩⟩ ⟨h.base.os,h.base.tape,h.base.output,h.base.size,λt v hp=>⟨.inl (h.base.pins t v hp).1,(h.base.pins t v hp).2⟩,h.base.block,h.base.pk,h.base.lo⟩ (λt ht=> ?_) (λ_ _ _ _=>rfl) (λt ht=> ?_) ⟨h.gw.nodup,h.gw.br,h.gw.allow,h.gw.inb⟩ (λt g hk=> .inl (h.az t g hk)) (λt x hx=> ?_)
 ·exact⟨JG λx hx=>ht ⟨x,hx⟩,rfl,rfl,λg hk=>hk⟩
 ·obtain⟨x,hx⟩:=ht;rcases cK (hp:=hp) l t with⟨_,h2⟩|⟨x',h1,h2⟩
  ·exact absurd hx (h2 x)
  ·obtain⟨q1,q2,hs,y,rfl,BG⟩:=hl t x' h1;have Du:∀e',¬Cg c.ρ (AZ hp l t) e':=by
    rw[h2];exact λe' hr=>hg (Tz BG hr.1)
   refine⟨λe' hr=>absurd hr (Du e'),λ_=>h.off t λe' hr=> ?_⟩;cases hh:hp t with
   |none=>rw[hh]at hr;exact hr.elim
   |some e9=>exact AP t q1 q2 (h.b8 t e9 hh)
 ·rcases cK (hp:=hp) l t with⟨h1,_⟩|⟨x',h1,_⟩
  ·rw[h1]at hx;exact .inl (h.b8 t x hx)
  ·obtain⟨q1,q2,_⟩:=hl t x' h1;exact .inr ⟨q1,q2⟩
def Rm(ρ:List AV)(ops:Array Oper)(o:Oper)(a:Act):Option Gd->Prop
 |none=>Region.wanted o (yielded ops a.tmps)=false
 |some gs=>(A4 ρ gs->Region.wanted o (yielded ops a.tmps)=true)/\(¬A4 ρ gs->Region.wanted o (yielded ops a.tmps)=false)
theorem Xr{σ:St}{r:Option Gd}(hg:Mk σ ops o=some r)(hs:∀j want d,o.guard=some (j,want)->(ops[j]?).bind (·.dst)=some d->SR c [Br σ d] [a.tmps.getD d undef]):Rm c.ρ ops o a r:=by
 unfold Mk at hg;cases FV:o.guard with
 |none=>rw[FV]at hg;simp only[Aa]at hg;subst hg;exact⟨λ_=>by simp[Region.wanted,FV],λhn=>absurd (Ed _) hn⟩
 |some jw=>
  obtain⟨j,want⟩:=jw;rw[FV]at hg;simp only at hg;cases hd:(ops[j]?).bind (·.dst)with
  |none=>rw[hd]at hg;simp only[Aa]at hg;subst hg;simp[Rm,Region.wanted,FV,yielded,hd]
  |some d=>
   rw[hd]at hg;simp only at hg;have hr:=hs j want d FV hd;have hw:∀v,a.tmps.getD d undef=v->Region.wanted o (yielded ops a.tmps)=(match v with| .bool b=>b==want|_=>false):=by
    intro v hv;simp only[Region.wanted,FV,yielded,hd,Af];rw[Array.getD_eq_getD_getElem?]at hv;cases hq:a.tmps[d]? with
    |none=>rw[hq]at hv;simp at hv;subst hv;simp[undef]
    |some u=>rw[hq]at hv;simp at hv;subst hv;cases u<;>simp
   generalize a.tmps.getD d undef=v at hr hw;have hw:=hw v rfl;have Jv:v=undef->Region.wanted o (yielded ops a.tmps)=false:=by rintro rfl;rw[hw];simp[undef]
   have Gm:∀x f,Rd c.w [v] [x] f->(x= .bool want->Region.wanted o (yielded ops a.tmps)=true)/\(x≠ .bool want->Region.wanted o (yielded ops a.tmps)=false):=by
    intro x f hx;refine⟨λh=> ?_,λh=> ?_⟩
    ·rw[hw,G7 hx h];simp
    ·rw[hw];cases v<;>simp only;rename_i b;cases hx with
     |bool _=>simpa using λhh=>h (by rw[hh])
   split at hg
   ·rename_i b CF;rw[CF]at hr;cases hr with
    |e h1 _ _=>
     simp only[Aa]at hg;subst hg;obtain⟨q1,q2⟩:=Gm _ _ h1;simp only[E.den,AV.bool.injEq]at q1 q2;split
     ·rename_i hb;simp only[AB]at hb;exact⟨λ_=>q1 hb,λhn=>absurd (Ed _) hn⟩
     ·rename_i hb;simp only[AB]at hb;exact q2 (by simpa using hb)
   ·rename_i x _ CF;rw[CF]at hr;cases hr with
    |e h1 _ _=>simp only[Aa]at hg;subst hg;obtain⟨q1,q2⟩:=Gm _ _ h1;exact⟨λhh=>q1 (hh (x,want) (by simp)),λhn=>q2 λhh=>hn (by intro g hg;simp at hg;subst hg;exact hh)⟩
   ·rename_i A1 s CF;rw[CF]at hr;cases hr with
    |gd h1 h2 _=>
     split at hg
     ·rename_i hf;simp only[Aa]at hg;subst hg;refine Jv (h2 λhk=> ?_);simp only[fK,List.any_eq_true]at hf;obtain⟨g,hg,Vd⟩:=hf;have:=hk g hg;split at Vd
      ·rename_i b hb;rw[hb]at this;simp only[E.den,AV.bool.injEq]at this;simp[this]at Vd
      ·cases Vd
     ·split at hg
      ·rename_i b;simp only[Aa]at hg;subst hg;by_cases hk:A4 c.ρ A1
       ·have h1:=h1 hk;cases h1 with
        |e h1 _ _=>
         obtain⟨q1,q2⟩:=Gm _ _ h1;simp only[E.den,AV.bool.injEq]at q1 q2;split
         ·rename_i hb;simp only[AB]at hb;exact⟨λ_=>q1 hb,λhn=>absurd hk hn⟩
         ·rename_i hb;simp only[AB]at hb;exact q2 (by simpa using hb)
       ·split
        ·exact⟨λhh=>absurd hh hk,λ_=>Jv (h2 hk)⟩
        ·exact Jv (h2 hk)
      ·rename_i x _;simp only[Aa]at hg;subst hg;by_cases hk:A4 c.ρ A1
       ·have h1:=h1 hk;cases h1 with
        |e h1 _ _=>obtain⟨q1,q2⟩:=Gm _ _ h1;exact⟨λhh=>q1 (hh (x,want) (by simp)),λhn=>q2 λhh=>hn (by intro g hg;rcases Ac.1 hg with rfl|hg;exact hh;exact hk g hg)⟩
       ·exact⟨λhh=>absurd (λg hg=>hh g (by simp[hg])) hk,λ_=>Jv (h2 hk)⟩
      ·cases hg
   ·cases hg
theorem fP(AH:MJ P sg Rt){Q:Exit->Act->World->Prop}{K:Act->World->Prop}{i nv:Nat}(hi:ops[i]?=some o)(hrel:Rel c n sl hp a){sl0:Nat->SV}{hp0:Nat->Option Ab}(EB:Rm c.ρ ops o a (some gs))
  (CF:∀t,Operand.tmp t∈o.op.operands->sl0 t=sl t) (kC:∀t e,hp0 t=some e->hp t=some e) (AP:∀t,nx<=t->t<nx+Bw-> ¬c.U t)
  (he:JY P sg sl0 hp0 nv nx gs o=some e) (Be:gs≠ []-> ∀t x,(t,x)∈e.ay->nx<=t/\t<nx+Bw/\ ∃hs y,x= .gd hs y/\J1 gs hs=true)
  (hc:A4 c.ρ gs-> ∀q∈e.bf,q.den c.ρ) (A0:∀cl,e.call=some cl-> ∃r,c.ρ[nv]?=some r/\(A4 c.ρ gs->G8 Rt cl.fn ((EL.of cl.args).den c.ρ) c.ρ r)) (Cw:∀x,e.bb=some x->A4 c.ρ gs->c.ρ[nv]?=some (.bool (I0 a o)))
  (hK:∀a' c',K9 c c' nx->Rel c' n (Co n sl o.dst (mkGd gs e.val)) (AZ hp e.ay) a'->K a' c'.w):wpOp P ops Q i K a c.w:=by
 unfold wpOp;simp only[hi];by_cases hg:A4 c.ρ gs
 ·rw[if_pos (EB.1 hg)];exact .inl (AH c n nx sl hp a sl0 hp0 o gs e nv ⟨hrel,hg,CF,kC,λt h1 h2=>AP t h1 (by simp only[Bw];omega)⟩ (AP _ (by omega) (by simp[Bw])) he (hc hg) (λcl Aq=>by obtain⟨r,h1,h2⟩:=A0 cl Aq;exact⟨r,h1,h2 hg⟩) (λx hx=>Cw x hx hg) _ _ hK)
 ·rw[if_neg (by rw[EB.2 hg];simp)];have BM:gs≠ []:=by rintro rfl;exact hg (Ed _)
  exact hK _ {c with U:=λt=>c.U t\/(nx<=t/\t<nx+Bw)} ⟨rfl,rfl,rfl,rfl,λt ht=>ht⟩ (hrel.skip hg (Be BM) AP e.val o.dst)
end
def Cx.ext(c:Cx)(τ:List AV):Cx:={c with ρ:=c.ρ++τ}
theorem den_app{ρ τ:List AV}{x:E}(h:x.sc ρ.length=true):x.den (ρ++τ)=x.den ρ:=by have:=E.ao ρ τ [] x h;rw[AE]at this;exact this
theorem vU{ρ τ:List AV}{x:EL}(h:x.sc ρ.length=true):x.den (ρ++τ)=x.den ρ:=by have:=EL.ao ρ τ [] x h;rw[AE]at this;exact this
theorem JE{ρ τ:List AV}{gs:Gd}(h:Rk ρ.length gs=true):A4 (ρ++τ) gs↔A4 ρ gs:=by simp only[Rk,Bg]at h;exact⟨λk g hg=>by rw[<-den_app (τ:=τ) (h g hg)];exact k g hg,λk g hg=>by rw[den_app (h g hg)];exact k g hg⟩
theorem Bo.ed{n:Nat}:∀{cs:Bo},cs.sc n=true-> ∀s∈cs.toList,s.sc n=true
 | .nil,_,s,h=>by simp[Bo.toList]at h
 | .cons s cs,h,u,hu=>by
  simp only[Bo.sc,Ad]at h;simp only[Bo.toList,Ac]at hu;rcases hu with rfl|hu
  ·exact h.1
  ·exact Bo.ed h.2 u hu
section
variable {c:Cx} {n:Nat} {sl:Nat->SV} {hp:Nat->Option Ab} {a:Act} {τ:List AV}
theorem Hc.ext{t g:Nat}{p:Lb}{v:Value}(hs:(match p with|some q=>q.1.sc c.ρ.length|none=>true)=true)(h:Hc c t g p v):Hc (c.ext τ) t g p v:=by
 cases p with
 |none=>exact trivial
 |some p=>obtain⟨i,z,o⟩:=p;obtain⟨b,n,cap,C,ty,fz,kk,k,h1,h2,h3,h4,h5⟩:=h;exact⟨b,n,cap,C,ty,fz,kk,k,h1,h2,h3,by show i.den (c.ρ++τ)=_;rw[den_app hs];exact h4,h5⟩
theorem SR.ext{ss:List SV}{vs:List Value}(h:SR c ss vs):(∀s∈ss,s.sc c.ρ.length=true)->SR (c.ext τ) ss vs:=by
 have tl:∀{s:SV} {ss:List SV},(∀x∈s::ss,x.sc c.ρ.length=true)-> ∀x∈ss,x.sc c.ρ.length=true:=λh x hx=>h x (by simp[hx]);have hd:∀{s:SV} {ss:List SV},(∀x∈s::ss,x.sc c.ρ.length=true)->s.sc c.ρ.length=true:=λh=>h _ (by simp);have hρ:(c.ext τ).ρ=c.ρ++τ:=rfl
 induction h with
 |nil=>exact λ_=> .nil
 |undef _ ih=>exact λhs=> .undef (ih (tl hs))
 |e h1 h2 _ ih=>exact λhs=> .e (by rw[hρ,den_app (hd hs)];exact h1) h2 (ih (tl hs))
 |bc _ ih=>exact λhs=> .bc (ih (tl hs))
 |emp _ ih=>exact λhs=> .emp (ih (tl hs))
 |own h1 h2 _ ih=>exact λhs=> .own h1 h2 (ih (tl hs))
 |bp h1 h2 _ ih=>exact λhs=> .bp h1 h2 (ih (tl hs))
 |bz h1 h2 h3 h4 h5 _ ih=>exact λhs=> .bz h1 h2 (by rw[hρ,den_app (hd hs)];exact h3) h4 h5 (ih (tl hs))
 |cu h1 h2 h3 h4 h5 h6 _ ih=>intro hs;have:=hd hs;simp only[SV.sc,Ad]at this;exact .cu (by rw[hρ,den_app this.1];exact h1) h2 (by rw[hρ,den_app this.2];exact h3) h4 h5 (by rw[hρ,den_app this.1];exact h6) (ih (tl hs))
 |cr h1 h2 _ ih=>exact λhs=> .cr (by rw[hρ,den_app (hd hs)];exact h1) h2 (ih (tl hs))
 |agg h9 _ _ ih1 ih2=>exact λhs=> .agg h9 (ih1 (Bo.ed (hd hs))) (ih2 (tl hs))
 |tup _ _ ih1 ih2=>exact λhs=> .tup (ih1 (Bo.ed (hd hs))) (ih2 (tl hs))
 |fn _ _ ih1 ih2=>exact λhs=> .fn (ih1 (Bo.ed (hd hs))) (ih2 (tl hs))
 |gd _ h2 _ ih1 ih2=>intro hs;have:=hd hs;simp only[SV.sc,Ad]at this;exact .gd (λhg=>ih1 ((JE this.1).1 hg) (by simpa using this.2)) (λhg=>h2 λk=>hg ((JE this.1).2 k)) (ih2 (tl hs))
 | @via t g n p x v ss vs h1 h2 h3 _ ih=>intro hs;have:=hd hs;simp only[SV.sc,Ad]at this;refine .via h1 h2 (λhe=> ?_) (ih (tl hs));obtain⟨q1,q2⟩:=h3 he;exact⟨by rw[hρ,den_app this.2];exact q1,Hc.ext (τ:=τ) this.1 q2⟩
 | @vptr t g n p x i sz o v ss vs h1 h2 h3 _ ih=>intro hs;have:=hd hs;simp only[SV.sc,Ad]at this;refine .vptr h1 h2 (λhe=> ?_) (ih (tl hs));obtain⟨b,off,len,cap,kk,k,q1,q2,q3,q4,q5,q6,q7⟩:=h3 he;exact⟨b,off,len,cap,kk,k,by rw[hρ,den_app this.1.2];exact q1,Hc.ext (τ:=τ) this.1.1 q2,by rw[hρ,den_app this.2];exact q3,q4,q5,by rw[hρ,den_app this.1.2];exact q6,q7⟩
 |wown h1 h2 h3 h4 h5 h6 _ ih=>exact λhs=> .wown h1 h2 (by rw[hρ,den_app (hd hs)];exact h3) h4 h5 h6 (ih (tl hs))
 | @lent i _ _ _ h1 _ ih=>exact λhs=> .lent (by rw[hρ,den_app (x:= .var i) (by simpa[SV.sc,E.sc]using hd hs)];exact h1) (ih (tl hs))
theorem CM.ext{t:Nat}{e:Ab}(h:CM c t e)(hs:e.sc c.ρ.length=true):CM (c.ext τ) t e:=by
 have hρ:(c.ext τ).ρ=c.ρ++τ:=rfl;cases e with
 |box ty g cs=>obtain⟨b,C,h1,h2,h3,h4,h5,h6,h7⟩:=h;exact⟨b,C,h1,h2,h3,h4,h5,h6,h7.ext (by simpa[Ab.sc]using hs)⟩
 |row ety sz g x d=>obtain⟨h1,h2,N,h3,h4,h5⟩:=h;exact⟨h1,h2,N,by rw[hρ,den_app hs];exact h3,h4,h5⟩
 |a6 g x=>obtain⟨h1,⟨f,h2,h3⟩,h4⟩:=h;exact⟨h1,⟨f,by rw[hρ,den_app hs];exact h2,h3⟩,h4⟩
 |gd gs e=>exact h
 |dead=>exact h
 |deep e z l g ep x=>obtain⟨h1,h2,h3,h4,h5⟩:=h;exact⟨h1,h2,h3,by rw[hρ,den_app hs];exact h4,h5⟩
 |hol e z l g ep x i o u=>simp only[Ab.sc,Ad]at hs;obtain⟨h1,h2,h3,h4,h5⟩:=h;exact⟨h1,h2,h3,by rw[hρ,den_app hs.1,den_app hs.2];exact h4,h5⟩
 |pre e z l g ep x k=>simp only[Ab.sc,Ad]at hs;obtain⟨h1,h2,h3,h4,h5⟩:=h;exact⟨h1,h2,h3,by rw[hρ,den_app hs.1,den_app hs.2];exact h4,h5⟩
theorem yD{ρ:List AV}{e0 e:Ab}(hs:e0.sc ρ.length=true):Cg (ρ++τ) (some e0) e↔Cg ρ (some e0) e:=by
 cases e0 with
 |gd gs x=>simp only[Ab.sc,Ad]at hs;simp only[Cg];rw[JE hs.1]
 |_=>simp[Cg]
theorem Rel.ext(h:Rel c n sl hp a)(h1:∀i,(sl i).sc c.ρ.length=true)(h2:∀t e,hp t=some e->e.sc c.ρ.length=true)(τ:List AV):Rel (c.ext τ) n sl hp a:=by
 have key:∀t e,Cg (c.ρ++τ) (hp t) e↔Cg c.ρ (hp t) e:=by
  intro t e;cases hh:hp t with
  |none=>exact Iff.rfl
  |some e0=>exact yD (h2 t e0 hh)
 refine⟨h.defers,h.size,⟨h.base.os,h.base.tape,h.base.output,h.base.size,h.base.pins,h.base.block,h.base.pk,h.base.lo⟩,λi=>(h.cf i).ext (by simpa using h1 i),λt e hr=> ?_,λt hn=>h.off t λe hr=>hn e ((key t e).2 hr),⟨h.gw.nodup,h.gw.br,h.gw.allow,h.gw.inb⟩,h.az,h.b8⟩;have CP:=(key t e).1 hr;have he:=h.ents t e CP;cases hh:hp t with
 |none=>rw[hh]at CP;exact CP.elim
 |some e0=>
  have Dq:=h2 t e0 hh;rw[hh]at CP;cases e0 with
  |gd gs x=>
   obtain⟨_,rfl⟩:=CP;simp only[Ab.sc,Ad]at Dq;cases x with
   |gd=>exact he
   |dead=>exact he
   |box=>exact he.ext (by simpa[Ab.sc]using Dq.2)
   |row=>exact he.ext (by simpa[Ab.sc]using Dq.2)
   |a6=>exact he.ext (by simpa[Ab.sc]using Dq.2)
   |deep=>exact he.ext (by simpa[Ab.sc]using Dq.2)
   |hol=>exact he.ext (by simpa[Ab.sc]using Dq.2)
   |pre=>exact he.ext (by simpa[Ab.sc]using Dq.2)
  |_=>simp only[Cg]at CP;subst CP;exact he.ext Dq
theorem St.jo{σ:St}(h:σ.sc=true)(i:Nat):(Br σ i).sc σ.nv=true:=by
 simp only[St.sc,Ad,Bg]at h;unfold Br;cases hi:σ.sl[i]? with
 |none=>simp[SV.sc]
 |some s=>exact h.1 s (List.mem_of_getElem? hi)
theorem St.je{σ:St}(h:σ.sc=true)(t:Nat)(e:Ab)(he:Av σ.hp t=some e):e.sc σ.nv=true:=by simp only[St.sc,Ad,Bg]at h;exact h.2 _ (Ht he)
theorem Cn.gy{ρ τ:List AV}{q:Cn}(h:q.sc ρ.length=true):q.den (ρ++τ)↔q.den ρ:=by
 cases q<;>simp only[Cn.sc,Ad]at h<;>simp only[Cn.den]
 case dfd=>rw[den_app h]
 case agg=>rw[den_app h]
 case cells=>rw[den_app h]
 case inb=>rw[den_app h.1,den_app h.2]
 case inbS=>rw[den_app h.1,den_app h.2]
 case win=>rw[den_app h.1.1,den_app h.1.2,den_app h.2]
 case winS=>rw[den_app h.1.1,den_app h.1.2,den_app h.2]
 case room=>rw[den_app h.1,den_app h.2]
 case roomS=>rw[den_app h.1,den_app h.2]
 case mkroom=>rw[den_app h]
 case nz=>rw[den_app h]
 case nn=>rw[den_app h]
 case isref=>rw[den_app h]
 case issl=>rw[den_app h]
 case flat=>rw[den_app h]
 case flatS=>rw[den_app h]
 case kinds=>rw[den_app h]
theorem Yl:SR c [F9] [Go.undef]:= .gd (λhg=>by have:=hg (.bool false,true) (by simp);simp[E.den]at this) (λ_=>rfl) .nil
theorem dB{ρ:List AV}{x:E}{b:Bool}{hs:Gd}(hx:x.den ρ= .bool b)(h:ME (x, !b) hs=true): ¬A4 ρ hs:=by intro k;have:=eH h k;simp only at this;rw[hx]at this;simp at this
theorem WU{ρ:List AV}{x:E}{b:Bool}{hs:Gd}(hx:x.den ρ= .bool b):A4 ρ (hs.filter λh=> !(h.1.beq x&&h.2==b))↔A4 ρ hs:=by
 refine⟨λk g hg=> ?_,λk g hg=>k g (List.mem_filter.1 hg).1⟩;by_cases hh:(g.1.beq x&&g.2==b)=true
 ·simp only[Ad,AB]at hh;rw[E.ah ρ _ _ hh.1,hx,hh.2]
 ·exact k g (List.mem_filter.2 ⟨hg,by rw[Bool.not_eq_true]at hh;rw[hh];rfl⟩)
theorem SR.ie{s:SV}{v:Value}{gs:Gd}(h1:A4 c.ρ gs->SR c [s] [v])(h2: ¬A4 c.ρ gs->v=Go.undef):SR c [Go.Proofs.YteeafhlnofapaaaGreat.mkGd gs s] [v]:=by
 cases gs with
 |nil=>exact h1 (Ed _)
 |cons g gs=>exact .gd h1 h2 .nil
theorem SR.eb{x:E}{b:Bool}(hx:x.den c.ρ= .bool b){s:SV}{v:Value}(h:SR c [s] [v]):SR c [assumeS x b s] [v]:=by
 cases s with
 |gd hs s=>
  simp only[Go.Proofs.YteeafhlnofapaaaGreat.assumeS];cases h with
  |gd h1 h2 _=>
   split
   ·rename_i hm;rw[h2 (dB hx hm)];exact Yl
   ·exact SR.ie (λk=>h1 ((WU hx).1 k)) (λk=>h2 λk'=>k ((WU hx).2 k'))
 |_=>exact h
theorem tL(f:Ab->Ab)(l:List (Nat × Ab))(t:Nat):Av (l.map λ(t,e)=>(t,f e)) t=(Av l t).map f:=by
 induction l with
 |nil=>rfl
 |cons p l ih=>
  obtain⟨u,e⟩:=p;simp only[List.map_cons,Av];split
  ·rfl
  ·exact ih
theorem Rel.eb{x:E}{b:Bool}(hx:x.den c.ρ= .bool b)(h:Rel c n sl hp a):Rel c n (λi=>assumeS x b (sl i)) (λt=>(hp t).map (assumeE x b)) a:=by
 have Kq:∀t,(∀e,Cg c.ρ (hp t) e-> ∃gs y,e= .gd gs y\/e= .dead)->(c.G t).top=[]/\(c.G t).O=[]:=by
  intro t ht;by_cases hh:∃e,Cg c.ρ (hp t) e
  ·obtain⟨e,he⟩:=hh;obtain⟨gs,y,rfl|rfl⟩:=ht e he
   ·exact h.ents t _ he
   ·exact h.ents t _ he
  ·exact h.off t λe he=>hh ⟨e,he⟩
 have cases':∀t,((∀e,Cg c.ρ ((hp t).map (assumeE x b)) e↔Cg c.ρ (hp t) e))\/((hp t).map (assumeE x b)=some .dead/\(c.G t).top=[]/\(c.G t).O=[]):=by
  intro t;cases hh:hp t with
  |none=>exact .inl λe=>Iff.rfl
  |some e0=>
   cases e0 with
   |gd hs y=>
    by_cases hm:ME (x, !b) hs=true
    ·refine .inr ⟨by simp[Go.Proofs.YteeafhlnofapaaaGreat.assumeE,hm],Kq t λe he=> ?_⟩;rw[hh]at he;exact absurd he.1 (dB hx hm)
    ·by_cases hy:∃gs z,y= .gd gs z
     ·obtain⟨gs,z,rfl⟩:=hy;refine .inr ⟨by simp[Go.Proofs.YteeafhlnofapaaaGreat.assumeE,hm],Kq t λe he=> ?_⟩;rw[hh]at he;exact⟨gs,z, .inl he.2.symm⟩
     ·refine .inl λe=> ?_;have he:assumeE x b (.gd hs y)=Cq (hs.filter λh=> !(h.1.beq x&&h.2==b)) y:=by
       simp only[Go.Proofs.YteeafhlnofapaaaGreat.assumeE,hm,B0,if_false];cases y<;>first|rfl|exact absurd ⟨_,_,rfl⟩ hy
      simp only[Option.map_some,he];show _↔A4 c.ρ hs/\y=e;rw[<-WU hx];generalize (hs.filter λh=> !(h.1.beq x&&h.2==b))=fs;cases fs with
      |nil=>simp only[Cq,Ed,true_and];cases y<;>first|exact absurd ⟨_,_,rfl⟩ hy|exact Iff.rfl
      |cons g fs=>exact Iff.rfl
   |_=>exact .inl λe=>Iff.rfl
 refine⟨h.defers,h.size,h.base,λi=>(h.cf i).eb hx,λt e hr=> ?_,λt hn=> ?_,h.gw,h.az,λt e he=> ?_⟩
 ·rcases cases' t with hc|⟨hc,h1,h2⟩
  ·exact h.ents t e ((hc e).1 hr)
  ·rw[hc]at hr;have:Ab.dead=e:=hr;subst this;exact⟨h1,h2⟩
 ·rcases cases' t with hc|⟨hc,h1,h2⟩
  ·exact h.off t λe he=>hn e ((hc e).2 he)
  ·exact⟨h1,h2⟩
 ·cases hh:hp t with
  |none=>rw[hh]at he;cases he
  |some e0=>exact h.b8 t e0 hh
end
theorem Xf{σ:St}{d:Option Nat}{s:SV}:Br (Gu σ d s)=Co σ.sl.length (Br σ) d s:=by
 funext i;cases d with
 |none=>simp[Gu,Co]
 |some d=>
  simp only[Gu,Br,Co,Aa,List.getElem?_set];by_cases h:d=i
  ·subst h;by_cases h2:d<σ.sl.length
   ·simp[h2]
   ·simp[h2,List.getElem?_eq_none (Nat.le_of_not_lt h2)]
  ·simp[h]
theorem W1{σ:St}{d:Option Nat}{s:SV}:(Gu σ d s).sl.length=σ.sl.length:=by cases d<;>simp[Gu]
theorem Xm{σ:St}{d:Option Nat}{s:SV}:(Gu σ d s).hp=σ.hp:=by cases d<;>rfl
theorem Xb{σ:St}{d:Option Nat}{s:SV}:(Gu σ d s).nv=σ.nv:=by cases d<;>rfl
theorem uO(l:List (Nat × Ab))(t:Nat)(e:Ab)(u:Nat):Av (J3 l t e) u=if u=t then some e else Av l u:=by
 induction l with
 |nil=>
  simp only[J3,Av];by_cases h:t=u
  ·simp[h]
  ·rw[if_neg h,if_neg (Ne.symm h)]
 |cons p l ih=>
  obtain⟨v,f⟩:=p;simp only[J3];split
  ·rename_i hv;subst hv;simp only[Av];by_cases h:v=u
   ·simp[h]
   ·rw[if_neg h,if_neg (Ne.symm h),if_neg h]
  ·rename_i hv;simp only[Av];by_cases h:v=u
   ·subst h;rw[if_pos rfl,if_neg hv,if_pos rfl]
   ·rw[if_neg h,ih,if_neg h]
theorem cH:∀(ents:List (Nat × Ab)) (l:List (Nat × Ab)),Av (ents.foldl (λl (p:Nat × Ab)=>J3 l p.1 p.2) l)=AZ (Av l) ents
 | [],l=>rfl
 |(t,e)::ents,l=>by
  simp only[List.foldl_cons];rw[cH ents];have:Av (J3 l t e)=λu=>if u=t then some e else Av l u:=by funext u;exact uO l t e u
  rw[this];rfl
section
variable {P:Program} {sg:BE} {Rt:Nat->List AV->AV->Prop} {ops:Array Oper}
theorem eJ{σ:St}{gs:Gd}{o:Oper}{e:AS}:Br (JF σ gs o e)=Co σ.sl.length (Br σ) o.dst (mkGd gs e.val):=by rw[<-Xf];rfl
theorem eP{σ:St}{gs:Gd}{o:Oper}{e:AS}:Av (JF σ gs o e).hp=AZ (Av σ.hp) e.ay:=by
 have:(JF σ gs o e).hp=e.ay.foldl (λl (p:Nat × Ab)=>J3 l p.1 p.2) σ.hp:=by show e.ay.foldl (λl (p:Nat × Ab)=>J3 l p.1 p.2) (Gu σ o.dst (mkGd gs e.val)).hp=_;rw[Xm]
 rw[this,cH]
theorem dH{σ:St}{gs:Gd}{o:Oper}{e:AS}:(JF σ gs o e).sl.length=σ.sl.length:=by show(Gu σ o.dst (mkGd gs e.val)).sl.length=_;rw[W1]
theorem XQ{σ:St}{gs:Gd}{o:Oper}{e:AS}:(JF σ gs o e).nv=if e.call.isSome||e.bb.isSome then σ.nv+1 else σ.nv:=by show(if e.call.isSome||e.bb.isSome then(Gu σ o.dst (mkGd gs e.val)).nv+1 else(Gu σ o.dst (mkGd gs e.val)).nv)=_;rw[Xb]
theorem XT{R:AV->Prop}{gs:Gd}{k:Tr}{L:LK}{js:List JK}{ρ:List AV}:∀{cs:List Cn},(cs.foldr (λc k=> .bf gs c k) k:Tr).den Rt R L js ρ->(A4 ρ gs-> ∀q∈cs,q.den ρ)/\k.den Rt R L js ρ
 | [],h=>⟨by simp,h⟩
 |c::cs,h=>by
  obtain⟨h1,h2⟩:=h;obtain⟨h3,h4⟩:=XT h2;refine⟨λhg q hq=> ?_,h4⟩;rcases Ac.1 hq with rfl|hq
  ·exact h1 hg
  ·exact h3 hg q hq
theorem eG{l:List (Nat × Ab)}{R:List Nat}{t:Nat}{e:Ab}(h:Ou l R t=some e):Av l t=some e:=by
 unfold Ou at h;split at h
 ·exact h
 ·cases h
theorem bI{f:Nat ⊕ E}{as_:EL}{ρ τ:List AV}{r:AV}(h1:(match f with| .inl _=>true| .inr x=>x.sc ρ.length)=true)(h2:as_.sc ρ.length=true):G8 Rt f (as_.den (ρ++τ)) (ρ++τ) r↔G8 Rt f (as_.den ρ) ρ r:=by
 rw[vU h2];cases f with
 |inl f=>exact Iff.rfl
 |inr x=>simp only[G8];rw[den_app h1]
theorem EL.ik{n:Nat}:∀{l:List E},l.all (E.sc n)=true->(EL.of l).sc n=true
 | [],_=>rfl
 |x::l,h=>by simp only[List.all_cons,Ad]at h;simp only[EL.of,EL.sc,Ad];exact⟨h.1,EL.ik h.2⟩
structure HA(F:Fix)(c:Cx)(σ:St)(a:Act)(n m:Nat):Prop where
 w0:c.w0=F.w0
 A:c.A=F.A
 Mu:c.Mu=F.Mu
 nv:c.ρ.length=σ.nv
 len:σ.sl.length=n
 U:∀t,c.U t->t<m
 rel:Rel c n (Br σ) (Av σ.hp) a
theorem HA.ext{F:Fix}{c:Cx}{σ:St}{a:Act}{n m:Nat}(h:HA F c σ a n m)(hs:σ.sc=true)(τ:List AV):Rel (c.ext τ) n (Br σ) (Av σ.hp) a:=
 h.rel.ext (λi=>by rw[h.nv];exact St.jo hs i) (λt e he=>by rw[h.nv];exact St.je hs t e he) τ
theorem zvg(AH:MJ P sg Rt)(Eu:Q8 P sg){F:Fix}{c:Cx}{σ:St}{a:Act}{n i base:Nat}{o:Oper}{gs:Gd}{e:AS}{k:Tr}{R:AV->Prop}{L:LK}{js:List JK}{Q:Exit->Act->World->Prop}{K:Act->World->Prop}
  (hi:ops[i]?=some o) (hm:HA F c σ a n (base+Bw*i)) (EB:Rm c.ρ ops o a (some gs)) {Rs:List Nat} (he:JY P sg (Br σ) (Ou σ.hp Rs) σ.nv (base+Bw*i) gs o=some e) (Dq:Of σ.nv (base+Bw*i) σ.hp gs e=true)
  (Ps:(e.call.isSome||e.bb.isSome)=true->σ.sc=true) (hd:(TQ gs e k).den Rt R L js c.ρ)
  (hK:∀(c':Cx) (a':Act),c.ρ<+:c'.ρ->HA F c' (JF σ gs o e) a' n (base+Bw*(i+1))->k.den Rt R L js c'.ρ->K a' c'.w):wpOp P ops Q i K a c.w:=by
 simp only[Of,Ad,Bg]at Dq;obtain⟨⟨⟨⟨Bu,AQ⟩,GZ⟩,ZE⟩,VQ⟩:=Dq;have Be:gs≠ []-> ∀t x,(t,x)∈e.ay->base+Bw*i<=t/\t<base+Bw*i+Bw/\ ∃hs y,x= .gd hs y/\J1 gs hs=true:=by
  intro BM t x hx;have:=VQ _ hx;have OY:gs.isEmpty=false:=by cases gs;exact absurd rfl BM;rfl
  simp only[OY,Bool.false_or,Bool.false_and,Bool.or_false,Ad,Au]at this;refine⟨this.1.1,this.1.2,?_⟩;have h3:=this.2;split at h3
  ·exact⟨_,_,rfl,h3⟩
  ·cases h3
 have AP:∀t,base+Bw*i<=t->t<base+Bw*i+Bw-> ¬c.U t:=λt h1 _ h3=>by have:=hm.U t h3;omega
 have Fu:∀(τ:List AV),Rel (c.ext τ) n (Br σ) (Av σ.hp) a->τ.length=(if e.call.isSome||e.bb.isSome then 1 else 0)->k.den Rt R L js (c.ρ++τ)->(A4 c.ρ gs-> ∀q∈e.bf,q.den c.ρ)->
   (∀cl,e.call=some cl-> ∃r,τ=[r]/\(A4 c.ρ gs->G8 Rt cl.fn ((EL.of cl.args).den c.ρ) c.ρ r))->(∀x,e.bb=some x->τ=[.bool (I0 a o)])->wpOp P ops Q i K a c.w:=by
  intro τ hrel hτ hk hc A0 Cw;have Fq:σ.nv=c.ρ.length:=hm.nv.symm;rw[Fq]at Bu AQ GZ;have O5:∀r,τ=[r]->(c.ρ++τ)[σ.nv]?=some r:=by rintro r rfl;rw[Fq];simp
  refine fP (c:=c.ext τ) AH hi hrel ⟨λhg=>EB.1 ((JE Bu).1 hg),λhg=>EB.2 λk=>hg ((JE Bu).2 k)⟩ (λ_ _=>rfl) (λt e h=>eG h) AP he Be (λhg q hq=> ?_) (λcl Aq=> ?_) (λx hx _=>O5 _ (Cw x hx)) (λa' c' AU hr=> ?_)
  ·exact(Cn.gy (AQ q hq)).2 (hc ((JE Bu).1 hg) q hq)
  ·obtain⟨r,rfl,h2⟩:=A0 cl Aq;rw[Aq]at GZ;simp only[Ad]at GZ;exact⟨r,O5 r rfl,λhg=>(bI GZ.1 (EL.ik GZ.2)).2 (h2 ((JE Bu).1 hg))⟩
  ·have hρ:c'.ρ=c.ρ++τ:=AU.ρ;refine hK c' a' ⟨τ,hρ.symm⟩ ⟨AU.w0.trans hm.w0,AU.A.trans hm.A,AU.Mu.trans hm.Mu,?_,by rw[dH];exact hm.len,λt ht=> ?_,?_⟩ (by rw[hρ];exact hk)
   ·rw[hρ,XQ,AO,hτ,Fq];split<;>rfl
   ·have hmul:base+Bw*(i+1)=base+Bw*i+Bw:=by rw[Nat.mul_add];omega
    rw[hmul];rcases AU.U t ht with h|h
    ·have:=hm.U t h;omega
    ·exact h.2
   ·rw[eJ,eP,hm.len];exact hr
 unfold TQ at hd;obtain⟨hc,hd⟩:=XT hd;cases Aq:e.call with
 |none=>
  simp only[Aq]at hd;cases Cw:e.bb with
  |none=>simp only[Cw]at hd;refine Fu [] (by have:=hm.rel;simpa[Cx.ext]using this) (by simp[Aq,Cw]) (by simpa using hd) hc (λcl h=>by rw[Aq]at h;cases h) (λx h=>by rw[Cw]at h;cases h)
  |some x=>simp only[Cw]at hd;have Ft:=Ps (by simp[Cw]);refine Fu [.bool (I0 a o)] (hm.ext Ft _) (by simp[Cw]) (hd _ λhg hb=> ?_) hc (λcl h=>by rw[Aq]at h;cases h) (λx h=>rfl);exact Eu c n _ _ _ a _ _ o gs e _ x ⟨hm.rel,hg,λ_ _=>rfl,λt e h=>eG h,λt h1 h2=>AP t h1 (Nat.lt_of_lt_of_le h2 (Nat.add_le_add_left (by decide) _))⟩ he Cw hb
 |some cl=>
  simp only[Aq]at hd;cases Cw:e.bb with
  |some x=>rw[Cw]at ZE;simp[Aq]at ZE
  |none=>simp only[Cw]at hd;obtain⟨r,h1,h2⟩:=hd;have Ft:=Ps (by simp[Aq]);refine Fu [r] (hm.ext Ft _) (by simp[Aq]) h2 hc (λcl' h=>by rw[Aq]at h;cases h;exact⟨r,rfl,h1⟩) (λx h=>by rw[Cw]at h;cases h)
theorem uP{σ:St}{x:E}{b:Bool}{d:Nat}:Br (assume x b d σ)=Co σ.sl.length (λi=>assumeS x b (Br σ i)) (some d) (.e (.bool b)):=by
 funext i;simp only[assume,Br,Co,Aa,List.getElem?_set,List.length_map,List.getElem?_map];by_cases h:d=i
 ·subst h;by_cases h2:d<σ.sl.length
  ·simp[h2]
  ·simp[h2,List.getElem?_eq_none (Nat.le_of_not_lt h2),assumeS]
 ·simp only[h,false_and,if_false];cases hh:σ.sl[i]?<;>simp[assumeS]
theorem uJ{σ:St}{x:E}{b:Bool}{d:Nat}:Av (assume x b d σ).hp=λt=>(Av σ.hp t).map (assumeE x b):=by funext t;exact tL _ _ _
theorem HA.assume{F:Fix}{c:Cx}{σ:St}{a:Act}{n m:Nat}(h:HA F c σ a n m){x:E}{b:Bool}(hx:x.den c.ρ= .bool b){d:Nat}(hd:Br σ d= .e x):HA F c (Go.Proofs.YteeafhlnofapaaaGreat.assume x b d σ) a n m:=by
 refine⟨h.w0,h.A,h.Mu,h.nv,?_,h.U,?_⟩
 ·simp only[Go.Proofs.YteeafhlnofapaaaGreat.assume,List.length_set,List.length_map];exact h.len
 ·rw[uP,uJ];have hr:=h.rel.eb hx;refine{hr with cf:=λi=> ?_};unfold Co;split
  ·rename_i hi;obtain⟨hi,_⟩:=hi;cases hi;have:=h.rel.cf d;rw[hd]at this;generalize a.tmps.getD d Go.undef=v at this;cases this with
   |e h1 h2 _=>exact .e (f:=[]) (by rw[hx]at h1;rw[G7 h1 rfl];exact .bool .nil) (by simp) .nil
  ·exact hr.cf i
theorem uN(AH:MJ P sg Rt)(Eu:Q8 P sg){F:Fix}{base:Nat}{R:AV->Prop}{L:LK}{js:List JK}{Q:Exit->Act->World->Prop}{n:Nat}{next:List Log->St->Option Tr}{i:Nat}{o:Oper}{lg:List Log}{rest:List Nat}(hi:ops[i]?=some o)
  (Ch:∀(lg:List Log) (σ:St) (t:Tr),next lg σ=some t-> ∀(c:Cx) (a:Act),HA F c σ a n (base+Bw*(i+1))->t.den Rt R L js c.ρ->(∀(c':Cx) (a':Act) (σ':St),c.ρ<+:c'.ρ->L js .normal σ' c'.ρ->FL F c'.ρ σ' a' c'.w->Q .normal a' c'.w)->wpOps P ops Q rest a c.w):
  ∀(m:Nat) (σ:St) (t:Tr),Rb P sg ops false base next i o lg m σ=some t->
  ∀(c:Cx) (a:Act),HA F c σ a n (base+Bw*i)->t.den Rt R L js c.ρ->(∀(c':Cx) (a':Act) (σ':St),c.ρ<+:c'.ρ->L js .normal σ' c'.ρ->FL F c'.ρ σ' a' c'.w->Q .normal a' c'.w)->wpOps P ops Q (i::rest) a c.w:=by
 have LP:base+Bw*i<=base+Bw*(i+1):=by rw[Nat.mul_add];omega
 have try_:∀(fail:Unit->Option Tr) (σ:St) (t:Tr),Rg P sg ops false base next i o lg fail σ=some t-> ∀(c:Cx) (a:Act),HA F c σ a n (base+Bw*i)->t.den Rt R L js c.ρ->(∀(c':Cx) (a':Act) (σ':St),c.ρ<+:c'.ρ->L js .normal σ' c'.ρ->FL F c'.ρ σ' a' c'.w->Q .normal a' c'.w)->
   (fail ()=some t->wpOps P ops Q (i::rest) a c.w)->wpOps P ops Q (i::rest) a c.w:=by
  intro fail σ t ht c a hm hd hq O2;unfold Rg at ht;cases FV:Mk σ ops o with
  |none=>rw[FV]at ht;cases ht
  |some r=>
   have EB:=Xr (c:=c) (a:=a) FV (λj want d _ _=>hm.rel.cf d);rw[FV]at ht;cases r with
   |none=>simp only at ht;rw[wpOps_cons];unfold wpOp;simp only[hi];rw[if_neg (by simp[show Region.wanted o (yielded ops a.tmps)=false from EB])];refine Ch lg _ t ht c _ ⟨hm.w0,hm.A,hm.Mu,by rw[Xb];exact hm.nv,by rw[W1];exact hm.len,λt ht=>Nat.lt_of_lt_of_le (hm.U t ht) LP,?_⟩ hd hq;rw[Xf,Xm,hm.len];exact hm.rel.put Yl o.dst
   |some gs=>
    simp only at ht;split at ht
    ·rename_i e he;split at ht
     ·cases ht
     ·rename_i Ao;split at ht
      ·cases ht
      ·rename_i k hk;simp only[Aa]at ht;subst ht;simp only[Bool.false_and,Bool.false_or,Bool.not_false,Bool.true_and,Bool.or_eq_true,Bh,Ad,not_or,Bool.not_eq_false]at Ao;rw[wpOps_cons];refine zvg AH Eu hi hm EB he Ao.1 (λhh=> ?_) hd λc' a' hp EC BV=>Ch _ _ k hk c' a' EC BV λc'' a'' σ' hp'=>hq c'' a'' σ' (hp.trans hp');have:=Ao.2;simp only[Bool.or_eq_true]at hh;simpa[hh]using this
    ·exact O2 ht
 intro m
 induction m with
 |zero=>exact λσ t ht c a hm hd hq=>try_ _ σ t ht c a hm hd hq λh=>by cases h
 |succ m ih=>
  intro σ t ht c a hm hd hq;refine try_ _ σ t ht c a hm hd hq λh=> ?_;split at h
  ·rename_i d _ _;split at h
   ·rename_i x MU;split at h
    ·rename_i k1 k0 GU IG;simp only[Aa]at h;subst h;obtain⟨tt,h1,h2,h3⟩:=hd;cases tt with
     |true=>exact ih _ k1 GU c a (hm.assume h1 MU) (h2 rfl) hq
     |false=>exact ih _ k0 IG c a (hm.assume h1 MU) (h3 rfl) hq
    ·cases h
   ·cases h
  ·cases h
theorem gD(AH:MJ P sg Rt)(Eu:Q8 P sg){F:Fix}{base:Nat}{R:AV->Prop}{L:LK}{js:List JK}{Q:Exit->Act->World->Prop}{n:Nat}:∀(len i:Nat) (lg:List Log) (σ:St) (t:Tr),i+len=ops.size->J2 P sg ops false base (List.range' i len) lg σ=some t->
  ∀(c:Cx) (a:Act),HA F c σ a n (base+Bw*i)->t.den Rt R L js c.ρ->(∀(c':Cx) (a':Act) (σ':St),c.ρ<+:c'.ρ->L js .normal σ' c'.ρ->FL F c'.ρ σ' a' c'.w->Q .normal a' c'.w)->wpOps P ops Q (List.range' i len) a c.w
 |0,i,lg,σ,t,hl,ht,c,a,hm,hd,hq=>by
  simp only[List.range'_zero,J2,Bool.false_and,B0,if_false,Aa]at ht ⊢;subst ht;refine hq c a _ (List.prefix_refl _) hd ⟨c,rfl,rfl,hm.w0,hm.A,hm.Mu,hm.nv,λt ht=> ?_,?_⟩
  ·have:=hm.U t ht;have h9:i=ops.size:=by omega
   subst h9;exact this
  ·have:=hm.rel;rw[<-hm.len]at this;exact this
 |len+1,i,lg,σ,t,hl,ht,c,a,hm,hd,hq=>by
  rw[List.range'_succ]at ht ⊢;unfold J2 at ht;obtain⟨o,hi⟩:∃o,ops[i]?=some o:=⟨ops[i]'(by omega),by simp[show i<ops.size by omega]⟩
  rw[hi]at ht;simp only at ht;exact uN AH Eu hi (λlg σ t ht c a=>gD AH Eu (n:=n) len (i+1) lg σ t (by omega) ht c a) 4 σ t ht c a hm hd hq
end
def YG(l:List Oper)(bs:List Nat):Prop:=bs.length=l.length/\ ∀(j:Nat) (o:Oper),l[j]?=some o-> ∀i,((bs[j]?).getD 0).testBit i=true-> ∃e∈o.after.toList,Region.binds .any e=true/\(i=e.on\/(e.on<j/\((bs[e.on]?).getD 0).testBit i=true))
theorem aM(acc:List Nat)(i:Nat):∀(es:List Edge) (s:Nat),(es.foldl (λs e=>if Region.binds .any e then s|||2^e.on|||(acc[e.on]?).getD 0 else s) s).testBit i=true->
  s.testBit i=true\/ ∃e∈es,Region.binds .any e=true/\(i=e.on\/((acc[e.on]?).getD 0).testBit i=true)
 | [],s,h=> .inl h
 |e::es,s,h=>by
  simp only[List.foldl_cons]at h;rcases aM acc i es _ h with h|⟨e',h1,h2⟩
  ·split at h
   ·rename_i hb;simp only[Nat.testBit_or,Nat.testBit_two_pow,Bool.or_eq_true,Au]at h;rcases h with(h|h)|h
    ·exact .inl h
    ·exact .inr ⟨e,by simp,hb, .inl h.symm⟩
    ·exact .inr ⟨e,by simp,hb, .inr h⟩
   ·exact .inl h
  ·exact .inr ⟨e',by simp[h1],h2⟩
theorem cQ:∀(os pre:List Oper) (acc:List Nat),YG pre acc->YG (pre++os) (I6 os acc)
 | [],pre,acc,h=>by simpa[I6]using h
 |o::os,pre,acc,h=>by
  obtain⟨hl,hb⟩:=h;have:=cQ os (pre++ [o]) (acc++ [Ye acc o]) ⟨by simp[hl],λj o' ho i hi=> ?_⟩
  ·simpa[I6]using this
  ·have AA:∀k,k<acc.length->((acc++ [Ye acc o])[k]?).getD 0=(acc[k]?).getD 0:=λk hk=>by rw[List.getElem?_append_left hk]
   by_cases hj:j<pre.length
   ·rw[List.getElem?_append_left hj]at ho;rw[AA j (by omega)]at hi;obtain⟨e,h1,h2,h3⟩:=hb j o' ho i hi;exact⟨e,h1,h2,h3.imp id λh=>⟨h.1,by rw[AA _ (by omega)];exact h.2⟩⟩
   ·rw[List.getElem?_append_right (by omega)]at ho;have kF:j-pre.length=0:=by
     cases hh:j-pre.length with
     |zero=>rfl
     |succ k=>rw[hh]at ho;simp at ho
    rw[kF]at ho;simp at ho;subst ho;have Km:j=acc.length:=by omega
    rw[Km,List.getElem?_append_right (Ar _)]at hi;simp only[Nat.sub_self,List.getElem?_cons_zero,C7]at hi;rcases aM acc i _ 0 hi with h|⟨e,h1,h2,h3⟩
    ·simp at h
    ·refine⟨e,h1,h2,h3.imp id λh=> ?_⟩;have he:e.on<acc.length:=by
      rcases Nat.lt_or_ge e.on acc.length with hh|hh
      ·exact hh
      ·rw[List.getElem?_eq_none hh]at h;simp at h
     exact⟨by omega,by rw[AA _ he];exact h⟩
def Q0(ops:Array Oper)(S:Nat->Bool):Prop:= ∀k o,S k=true->ops[k]?=some o-> ∀e∈o.after.toList,Region.binds .any e=true->S e.on=true
theorem iC(ops:Array Oper):YG ops.toList (I6 ops.toList []):=by have:=cQ ops.toList [] [] ⟨rfl,by simp⟩;simpa using this
theorem bH{ops:Array Oper}{S:Nat->Bool}(hS:Q0 ops S):∀(k i:Nat),S k=true->k<ops.size->(((I6 ops.toList [])[k]?).getD 0).testBit i=true->S i=true:=by
 intro k
 induction k using Nat.strongRecOn with
 |_ k ih=>
  intro i hk AA hb;have ho:ops.toList[k]?=some ops[k]:=by simp[AA]
  obtain⟨e,h1,h2,h3⟩:=(iC ops).2 k _ ho i hb;have Pn:=hS k ops[k] hk (by simp[AA]) e h1 h2;rcases h3 with rfl|⟨h3,h4⟩
  ·exact Pn
  ·exact ih e.on h3 i Pn (by omega) h4
theorem vW{ops:Array Oper}{S:Nat->Bool}(hS:Q0 ops S){j i:Nat}{o:Oper}(ho:ops[j]?=some o)(hr:∀e∈o.after.toList,Region.binds .any e=true->S e.on=true)(hb:(((I6 ops.toList [])[j]?).getD 0).testBit i=true):S i=true:=by
 have AA:j<ops.size:=(Array.getElem?_eq_some_iff.1 ho).1;obtain⟨e,h1,h2,h3⟩:=(iC ops).2 j o (by simpa using ho) i hb;have Pn:=hr e h1 h2;rcases h3 with rfl|⟨h3,h4⟩
 ·exact Pn
 ·exact bH hS e.on i Pn (by omega) h4
theorem uQ{ops:Array Oper}{S:Nat->Bool}(hS:Q0 ops S){j i:Nat}{o:Oper}(ho:ops[j]?=some o)(hi:i<ops.size)(hj:S j=false)(hr:∀e∈o.after.toList,Region.binds .any e=true->S e.on=true)(BM:i≠j)(Jr:Ij (I6 ops.toList []) i j=true):S i=decide (i<j):=by
 unfold Ij at Jr;split at Jr
 ·rename_i h;rw[vW hS ho hr Jr];simp[h]
 ·rename_i h;cases hs:S i with
  |false=>simp[h]
  |true=>have:=bH hS i j hs hi Jr;rw[hj]at this;cases this
structure Rec where
 i:Nat
 o:Oper
 σ:St
 r:Option (Gd × AS)
def Rec.next(x:Rec):St:=match x.r with|none=>Gu x.σ x.o.dst F9|some (gs,e)=>JF x.σ gs x.o e
def Rec.val(x:Rec):SV:=match x.r with|none=>F9|some (gs,e)=>mkGd gs e.val
def Rec.ay(x:Rec):List (Nat × Ab):=match x.r with|none=> []|some (_,e)=>e.ay
def iS(P:Program)(sg:BE)(Rt:Nat->List AV->AV->Prop)(ops:Array Oper)(base:Nat)(ρ:List AV)(x:Rec):Prop:=
 ops[x.i]?=some x.o/\match x.r with
  |none=>Mk x.σ ops x.o=some none
  |some (gs,e)=>Mk x.σ ops x.o=some (some gs)/\JY P sg (Br x.σ) (Ou x.σ.hp (QO x.σ gs x.o)) x.σ.nv (base+Bw*x.i) gs x.o=some e/\e.bb=none/\Of x.σ.nv (base+Bw*x.i) x.σ.hp gs e=true/\
   (A4 ρ gs-> ∀q∈e.bf,q.den ρ)/\ ∀cl,e.call=some cl-> ∃r,ρ[x.σ.nv]?=some r/\(A4 ρ gs->G8 Rt cl.fn ((EL.of cl.args).den ρ) ρ r)
def Dz:Nat->St->List Rec->St->Prop
 |_,σ,[],σ'=>σ=σ'
 |i,σ,x::xs,σ'=>x.i=i/\x.σ=σ/\Dz (i+1) x.next xs σ'
def Rec.log(x:Rec):Option Log:=x.r.map λ(gs,e)=>⟨x.i,QO x.σ gs x.o,e.ay.map (·.1)⟩
theorem Xw{P:Program}{sg:BE}{Rt:Nat->List AV->AV->Prop}{ops:Array Oper}{base:Nat}{R:AV->Prop}{L:LK}{js:List JK}:∀(len i:Nat) (lg:List Log) (σ:St) (t:Tr) (ρ:List AV),i+len=ops.size->
  J2 P sg ops true base (List.range' i len) lg σ=some t->t.den Rt R L js ρ->ρ.length=σ.nv->
  ∃(τ:List AV) (xs:List Rec) (σ':St) (lg':List Log),Dz i σ xs σ'/\xs.length=len/\(∀x∈xs,iS P sg Rt ops base (ρ++τ) x)/\(ρ++τ).length=σ'.nv/\L js .normal {σ' with nx:=base+Bw*ops.size} (ρ++τ)/\T0 ops lg'=true/\(∀y∈lg,y∈lg')/\ ∀x∈xs,∀y,x.log=some y->y∈lg'
 |0,i,lg,σ,t,ρ,hl,ht,hd,hn=>by
  simp only[List.range'_zero,J2,Bool.true_and]at ht;split at ht
  ·cases ht
  ·rename_i Hg;simp only[Aa]at ht;subst ht;exact⟨[],[],σ,lg,rfl,rfl,by simp,by simpa using hn,by simpa[Tr.den]using hd,by simpa using Hg,λy hy=>hy,by simp⟩
 |len+1,i,lg,σ,t,ρ,hl,ht,hd,hn=>by
  rw[List.range'_succ]at ht;unfold J2 at ht;obtain⟨o,hi⟩:∃o,ops[i]?=some o:=⟨ops[i]'(by omega),by simp[show i<ops.size by omega]⟩
  rw[hi]at ht;simp only at ht;unfold Rb Rg at ht;cases FV:Mk σ ops o with
  |none=>rw[FV]at ht;cases ht
  |some r=>
   rw[FV]at ht;cases r with
   |none=>
    simp only at ht;obtain⟨τ,xs,σ',lg',h1,h2,h3,h4,h5,h6,h7,h8⟩:=Xw len (i+1) lg _ t ρ (by omega) ht hd (by rw[Xb];exact hn);refine⟨τ,⟨i,o,σ,none⟩::xs,σ',lg',⟨rfl,rfl,h1⟩,by simp[h2],λx hx=> ?_,h4,h5,h6,h7,λx hx y hy=> ?_⟩
    ·rcases Ac.1 hx with rfl|hx
     ·exact⟨hi,FV⟩
     ·exact h3 x hx
    ·rcases Ac.1 hx with rfl|hx
     ·simp[Rec.log]at hy
     ·exact h8 x hx y hy
   |some gs=>
    simp only at ht;split at ht
    ·rename_i e he;split at ht
     ·cases ht
     ·rename_i Ao;simp only[Bool.true_and,Bool.not_true,Bool.false_and,Bool.or_false,Bool.or_eq_true,Bh,not_or,Bool.not_eq_false]at Ao;have Cw:e.bb=none:=by cases hh:e.bb with|none=>rfl|some x=>rw[hh]at Ao;simp at Ao
      split at ht
      ·cases ht
      ·rename_i k hk;simp only[Aa]at ht;subst ht;have Dq:=Ao.2;simp only[Of,Ad,Bg]at Dq;obtain⟨⟨⟨⟨Bu,AQ⟩,GZ⟩,_⟩,_⟩:=Dq;rw[<-hn]at Bu AQ GZ;unfold TQ at hd;obtain⟨hc,hd⟩:=XT hd;simp only[Cw]at hd;obtain⟨τ0,mN,A0,BV⟩:∃τ0:List AV,(ρ++τ0).length=(JF σ gs o e).nv/\(∀cl,e.call=some cl-> ∃r,τ0=[r]/\(A4 ρ gs->G8 Rt cl.fn ((EL.of cl.args).den ρ) ρ r))/\k.den Rt R L js (ρ++τ0):=by
        cases Aq:e.call with
        |none=>rw[Aq]at hd;exact⟨[],by rw[XQ];simp[Aq,Cw,hn],by simp,by simpa using hd⟩
        |some cl=>rw[Aq]at hd;obtain⟨r,h1,h2⟩:=hd;exact⟨[r],by rw[XQ];simp[Aq,hn],λcl' h=>by cases h;exact⟨r,rfl,h1⟩,h2⟩
       obtain⟨τ,xs,σ',lg',h1,h2,h3,h4,h5,h6,h7,h8⟩:=Xw len (i+1) _ _ k (ρ++τ0) (by omega) hk BV mN;have UN:ρ++τ0++τ=ρ++(τ0++τ):=List.append_assoc ..;rw[UN]at h3 h4 h5;refine⟨τ0++τ,⟨i,o,σ,some (gs,e)⟩::xs,σ',lg',⟨rfl,rfl,h1⟩,by simp[h2],λx hx=> ?_,h4,h5,h6,λy hy=>h7 y (by simp[hy]),λx hx y hy=> ?_⟩
       ·rcases Ac.1 hx with rfl|hx
        ·refine⟨hi,FV,he,Cw,Ao.2,λhg q hq=>(Cn.gy (AQ q hq)).2 (hc ((JE Bu).1 hg) q hq),λcl Aq=> ?_⟩;obtain⟨r,hr,h2⟩:=A0 cl Aq;rw[Aq]at GZ;simp only[Ad]at GZ;subst hr;exact⟨r,by simp only;rw[<-hn];simp,λhg=>(bI GZ.1 (EL.ik (by simpa using GZ.2))).2 (h2 ((JE Bu).1 hg))⟩
        ·exact h3 x hx
       ·rcases Ac.1 hx with rfl|hx
        ·simp only[Rec.log,Option.map_some,Aa]at hy;subst hy;exact h7 _ (by simp)
        ·exact h8 x hx y hy
    ·cases ht
def Fv(n:Nat)(sl0:Nat->SV)(xs:List Rec)(S:Nat->Bool):Nat->SV:=xs.foldl (λsl x=>if S x.i then Co n sl x.o.dst x.val else sl) sl0
def FY(hp0:Nat->Option Ab)(xs:List Rec)(S:Nat->Bool):Nat->Option Ab:=xs.foldl (λhp x=>if S x.i then AZ hp x.ay else hp) hp0
section
variable {n:Nat} {S S':Nat->Bool} {d t:Nat}
theorem Qp:∀(xs:List Rec) {sl sl':Nat->SV},sl d=sl' d->(∀x∈xs,x.o.dst=some d->S x.i=S' x.i)->Fv n sl xs S d=Fv n sl' xs S' d
 | [],_,_,h,_=>h
 |x::xs,sl,sl',h,hs=>by
  refine Qp xs (sl:=if S x.i then Co n sl x.o.dst x.val else sl) (sl':=if S' x.i then Co n sl' x.o.dst x.val else sl') ?_ λy hy=>hs y (by simp[hy]);by_cases hd:x.o.dst=some d
  ·rw[<-hs x (by simp) hd];split
   ·simp only[Co,hd,true_and];rw[h]
   ·exact h
  ·have hu:∀sl:Nat->SV,Co n sl x.o.dst x.val d=sl d:=λsl=>by simp[Co,hd]
   have h1:(if S x.i then Co n sl x.o.dst x.val else sl) d=sl d:=by split;exact hu sl;rfl
   have h2:(if S' x.i then Co n sl' x.o.dst x.val else sl') d=sl' d:=by split;exact hu sl';rfl
   rw[h1,h2,h]
theorem XZ(xs:List Rec){sl:Nat->SV}(hs:∀x∈xs,x.o.dst=some d->S x.i=false):Fv n sl xs S d=sl d:=by
 have h1:=Qp (n:=n) (S:=S) (S':=λ_=>false) xs (sl:=sl) (sl':=sl) (d:=d) rfl hs;rw[h1];clear h1 hs
 induction xs generalizing sl with
 |nil=>rfl
 |cons x xs ih=>exact ih
theorem Yt(hd:n<=d):∀(xs:List Rec) {sl:Nat->SV},Fv n sl xs S d=sl d
 | [],_=>rfl
 |x::xs,sl=>by
  have:=Yt hd xs (sl:=if S x.i then Co n sl x.o.dst x.val else sl);refine Eq.trans this ?_;split
  ·simp only[Co];rw[if_neg (by omega)]
  ·rfl
theorem gM{y:Rec}(hd:d<n)(hy:y.o.dst=some d)(hS:S y.i=true):∀(xs:List Rec) {sl:Nat->SV},y∈xs->(∀x∈xs,x≠y->x.o.dst≠some d)->Fv n sl xs S d=y.val
 | [],_,h,_=>by simp at h
 |x::xs,sl,h,hu=>by
  by_cases hm:y∈xs
  ·exact gM hd hy hS xs (sl:=if S x.i then Co n sl x.o.dst x.val else sl) hm λz hz=>hu z (by simp[hz])
  ·have hx:y=x:=by rcases Ac.1 h with h|h;exact h;exact absurd h hm
   subst hx;have:=XZ (n:=n) (S:=S) (d:=d) xs (sl:=Co n sl y.o.dst y.val) (λz hz Ho=>absurd Ho (hu z (by simp[hz]) (λhh=>hm (hh▸hz))));show Fv n (if S y.i then Co n sl y.o.dst y.val else sl) xs S d=_;rw[if_pos hS,this];simp[Co,hy,hd]
theorem cM{hp hp':Nat->Option Ab}{l:List (Nat × Ab)}(h:hp t=hp' t):AZ hp l t=AZ hp' l t:=by
 induction l generalizing hp hp' with
 |nil=>exact h
 |cons p l ih=>
  refine ih ?_;show(if t=p.1 then some p.2 else hp t)=(if t=p.1 then some p.2 else hp' t)
  rw[h]
theorem sZ{hp hp':Nat->Option Ab}{l:List (Nat × Ab)}(h:t∈l.map (·.1)):AZ hp l t=AZ hp' l t:=by
 induction l generalizing hp hp' with
 |nil=>simp at h
 |cons p l ih=>
  by_cases hm:t∈l.map (·.1)
  ·exact ih hm
  ·have ht:t=p.1:=by simp only[List.map_cons,Ac]at h;exact h.resolve_right hm
   refine cM (l:=l) ?_;show(if t=p.1 then some p.2 else hp t)=(if t=p.1 then some p.2 else hp' t)
   rw[if_pos ht,if_pos ht]
theorem X1{hp:Nat->Option Ab}{l:List (Nat × Ab)}(h:t∉l.map (·.1)):AZ hp l t=hp t:=
 JG λe he=>h (List.mem_map.2 ⟨_,he,rfl⟩)
theorem Qo:∀(xs:List Rec) {hp hp':Nat->Option Ab},hp t=hp' t->(∀x∈xs,t∈x.ay.map (·.1)->S x.i=S' x.i)->FY hp xs S t=FY hp' xs S' t
 | [],_,_,h,_=>h
 |x::xs,hp,hp',h,hs=>by
  refine Qo xs (hp:=if S x.i then AZ hp x.ay else hp) (hp':=if S' x.i then AZ hp' x.ay else hp') ?_ λy hy=>hs y (by simp[hy]);by_cases hd:t∈x.ay.map (·.1)
  ·rw[<-hs x (by simp) hd];split
   ·exact cM h
   ·exact h
  ·have h1:(if S x.i then AZ hp x.ay else hp) t=hp t:=by split;exact X1 hd;rfl
   have h2:(if S' x.i then AZ hp' x.ay else hp') t=hp' t:=by split;exact X1 hd;rfl
   rw[h1,h2,h]
theorem XL(xs:List Rec){hp:Nat->Option Ab}(hs:∀x∈xs,t∈x.ay.map (·.1)->S x.i=false):FY hp xs S t=hp t:=by
 have h1:=Qo (S:=S) (S':=λ_=>false) xs (hp:=hp) (hp':=hp) (t:=t) rfl hs;rw[h1];clear h1 hs
 induction xs generalizing hp with
 |nil=>rfl
 |cons x xs ih=>exact ih
end
section
variable {n:Nat} {S:Nat->Bool} {d t:Nat}
theorem Rec.iz(x:Rec):Br x.next=Co x.σ.sl.length (Br x.σ) x.o.dst x.val:=by
 obtain⟨i,o,σ,r⟩:=x;cases r with
 |none=>exact Xf
 |some ge=>exact eJ
theorem Rec.iu(x:Rec):Av x.next.hp=AZ (Av x.σ.hp) x.ay:=by
 obtain⟨i,o,σ,r⟩:=x;cases r with
 |none=>simp only[Rec.next,Rec.ay,Xm];rfl
 |some ge=>exact eP
theorem Rec.ic(x:Rec):x.next.sl.length=x.σ.sl.length:=by
 obtain⟨i,o,σ,r⟩:=x;cases r with
 |none=>exact W1
 |some ge=>exact dH
theorem Dz.range:∀{xs:List Rec} {i:Nat} {σ σ':St},Dz i σ xs σ'-> ∀x∈xs,i<=x.i/\x.i<i+xs.length
 | [],_,_,_,_,x,hx=>by simp at hx
 |y::xs,i,σ,σ',h,x,hx=>by
  rcases Ac.1 hx with rfl|hx
  ·have:=h.1;simp only[AM];omega
  ·have:=Dz.range h.2.2 x hx;simp only[AM];omega
theorem Dz.ex:∀{xs:List Rec} {i:Nat} {σ σ':St},Dz i σ xs σ'-> ∀j,i<=j->j<i+xs.length-> ∃x∈xs,x.i=j
 | [],i,_,_,_,j,h1,h2=>by simp at h2;omega
 |y::xs,i,σ,σ',h,j,h1,h2=>by
  by_cases hj:j=i
  ·exact⟨y,by simp,by rw[hj];exact h.1⟩
  ·simp only[AM]at h2;obtain⟨x,hx,he⟩:=Dz.ex h.2.2 j (by omega) (by omega);exact⟨x,by simp[hx],he⟩
theorem Dz.inj:∀{xs:List Rec} {i:Nat} {σ σ':St},Dz i σ xs σ'-> ∀x∈xs,∀y∈xs,x.i=y.i->x=y
 | [],_,_,_,_,x,hx,_,_,_=>by simp at hx
 |z::xs,i,σ,σ',h,x,hx,y,hy,he=>by
  have hz:=h.1;rcases Ac.1 hx with h1|h1<;>rcases Ac.1 hy with h2|h2
  ·rw[h1,h2]
  ·subst h1;have:=(Dz.range h.2.2 y h2).1;omega
  ·subst h2;have:=(Dz.range h.2.2 x h1).1;omega
  ·exact Dz.inj h.2.2 x h1 y h2 he
theorem Dz.sl:∀{xs:List Rec} {i:Nat} {σ σ':St},Dz i σ xs σ'->σ.sl.length=n->(∀x∈xs,x.σ.sl.length=n/\ ∀d,Br x.σ d=Fv n (Br σ) xs (λk=>decide (k<x.i)) d)/\σ'.sl.length=n/\Br σ'=Fv n (Br σ) xs λ_=>true
 | [],i,σ,σ',h,hn=>by have h:σ=σ':=h;subst h;exact⟨by simp,hn,rfl⟩
 |y::xs,i,σ,σ',h,hn=>by
  obtain⟨h1,h2,h3⟩:=h;subst h2;obtain⟨q1,q2,q3⟩:=Dz.sl h3 (by rw[y.ic];exact hn);rw[y.iz,hn]at q1 q3;refine⟨λx hx=> ?_,q2,q3⟩;rcases Ac.1 hx with rfl|hx
  ·refine⟨hn,λd=>(XZ _ λz hz _=> ?_).symm⟩;rcases Ac.1 hz with rfl|hz
   ·simp
   ·have:=(Dz.range h3 z hz).1;simp only[decide_eq_false_iff_not];omega
  ·refine⟨(q1 x hx).1,λd=> ?_⟩;rw[(q1 x hx).2 d];have:=(Dz.range h3 x hx).1;show _=Fv n (if decide (y.i<x.i)then Co n (Br y.σ) y.o.dst y.val else Br y.σ) xs (λk=>decide (k<x.i)) d;rw[if_pos (by simp only[Au];omega)]
theorem Dz.hp:∀{xs:List Rec} {i:Nat} {σ σ':St},Dz i σ xs σ'->(∀x∈xs,∀t,Av x.σ.hp t=FY (Av σ.hp) xs (λk=>decide (k<x.i)) t)/\Av σ'.hp=FY (Av σ.hp) xs λ_=>true
 | [],i,σ,σ',h=>by have h:σ=σ':=h;subst h;exact⟨by simp,rfl⟩
 |y::xs,i,σ,σ',h=>by
  obtain⟨h1,h2,h3⟩:=h;subst h2;obtain⟨q1,q3⟩:=Dz.hp h3;rw[y.iu]at q1 q3;refine⟨λx hx=> ?_,q3⟩;rcases Ac.1 hx with rfl|hx
  ·refine λd=>(XL _ λz hz _=> ?_).symm;rcases Ac.1 hz with rfl|hz
   ·simp
   ·have:=(Dz.range h3 z hz).1;simp only[decide_eq_false_iff_not];omega
  ·intro t;rw[q1 x hx t];have:=(Dz.range h3 x hx).1;show _=FY (if decide (y.i<x.i)then AZ (Av y.σ.hp) y.ay else Av y.σ.hp) xs (λk=>decide (k<x.i)) t;rw[if_pos (by simp only[Au];omega)]
theorem gW{y:Rec}{RJ:Nat->Option Ab}(hS:S y.i=true)(ht:t∈y.ay.map (·.1)):∀{xs:List Rec} {i:Nat} {σ σ':St} {hp0:Nat->Option Ab},Dz i σ xs σ'->y∈xs->(∀x∈xs,x.i≠y.i->t∈x.ay.map (·.1)->S x.i=decide (x.i<y.i))->FY hp0 xs S t=AZ RJ y.ay t
 | [],_,_,_,_,_,h,_=>by simp at h
 |x::xs,i,σ,σ',hp0,hc,hm,hs=>by
  by_cases hx:y=x
  ·subst hx;have:=XL (S:=S) (t:=t) xs (hp:=AZ hp0 y.ay) (λz hz Ho=>by
    have AA:=(Dz.range hc.2.2 z hz).1;have h1:=hc.1;rw[hs z (by simp[hz]) (by omega) Ho];simp only[decide_eq_false_iff_not];omega)
   show FY (if S y.i then AZ hp0 y.ay else hp0) xs S t=_;rw[if_pos hS,this];exact sZ ht
  ·have EC:y∈xs:=by rcases Ac.1 hm with h|h;exact absurd h hx;exact h
   exact gW hS ht (hp0:=if S x.i then AZ hp0 x.ay else hp0) hc.2.2 EC λz hz=>hs z (by simp[hz])
end
theorem cR{α:Type}{p p':α->Bool}:∀(l:List α),(∀k∈l,p' k=true->p k=true)->(∃j∈l,p j=true/\p' j=false)->(l.filter p').length<(l.filter p).length
 | [],_,h=>by obtain⟨j,hj,_⟩:=h;simp at hj
 |x::l,hs,h=>by
  have hle:(l.filter p').length<=(l.filter p).length:=by
   have:∀(l:List α),(∀k∈l,p' k=true->p k=true)->(l.filter p').length<=(l.filter p).length:=by
    intro l
    induction l with
    |nil=>intro _;simp
    |cons y l ih=>
     intro h;have:=ih λk hk=>h k (by simp[hk]);have hy:=h y (by simp);cases h1:p' y with
     |false=>
      cases h2:p y with
      |false=>simpa[h1,h2]using this
      |true=>simp only[List.filter_cons,h1,h2,B0,if_false,if_true,AM];omega
     |true=>simpa[h1,hy h1]using this
   exact this l λk hk=>hs k (by simp[hk])
  obtain⟨j,hj,h1,h2⟩:=h;rcases Ac.1 hj with rfl|hj
  ·simp only[List.filter_cons,h1,h2,B0,if_false,if_true,AM];omega
  ·have:=cR l (λk hk=>hs k (by simp[hk])) ⟨j,hj,h1,h2⟩;have hx:=hs x (by simp);cases h3:p' x with
   |false=>
    cases h4:p x with
    |false=>simpa[h3,h4]using this
    |true=>simp only[List.filter_cons,h3,h4,B0,if_false,if_true,AM];omega
   |true=>simpa[h3,hx h3]using this
section
variable {ops:Array Oper} {listed:Array Bool}
theorem tX(hb:∀j o,ops[j]?=some o-> ∀e∈o.after.toList,Region.binds .any e=true->e.on<j)(BB:listed.size=ops.size)(hr:Region.ready .any ops listed=[]):∀k,k<ops.size->listed.getD k true=true:=by
 intro k
 induction k using Nat.strongRecOn with
 |_ k ih=>
  intro hk;cases hs:listed.getD k true with
  |true=>rfl
  |false=>
   have:k∈Region.ready .any ops listed:=mem_ready.2 ⟨hs,ops[k],by simp[hk],λe he Jg=>by
    have AA:=hb k ops[k] (by simp[hk]) e (by simpa using he) Jg;have:=ih e.on AA (by omega);have h2:e.on<listed.size:=by omega
    simp only[Array.getD_eq_getD_getElem?,Array.getElem?_eq_getElem h2,C7]at this ⊢;exact this⟩
   rw[hr]at this;cases this
theorem wH(BB:listed.size=ops.size){j:Nat}(hj:j<ops.size)(k:Nat):(listed.setIfInBounds j true).getD k true=(decide (k=j)||listed.getD k true):=by
 by_cases h:j=k
 ·subst h;simp[Array.getD_eq_getD_getElem?,show j<listed.size by omega]
 ·rw[getD_set_ne true h];simp[Ne.symm h]
variable {P:Program} {sg:BE} {Rt:Nat->List AV->AV->Prop}
theorem sM(AH:MJ P sg Rt){F:Fix}{σ σ':St}{xs:List Rec}{ρ:List AV}{lg:List Log}{n:Nat}{Q:Exit->Act->World->Prop}(hc:Dz 0 σ xs σ')(hlen:xs.length=ops.size)(AI:∀x∈xs,iS P sg Rt ops σ.nx ρ x)(Hg:T0 ops lg=true)(Pa:∀x∈xs,∀y,x.log=some y->y∈lg)(hn:σ.sl.length=n)
  (hQ:∀(c:Cx) (a:Act),c.ρ=ρ->c.w0=F.w0->c.A=F.A->c.Mu=F.Mu->(∀t,c.U t->t<σ.nx+Bw*ops.size)->Rel c n (Br σ') (Av σ'.hp) a->Q .normal a c.w):
  ∀(fuel:Nat) (listed:Array Bool) (a:Act) (c:Cx),listed.size=ops.size->Q0 ops (λk=>listed.getD k true)->c.ρ=ρ->c.w0=F.w0->c.A=F.A->c.Mu=F.Mu->
   (∀t,c.U t->t<σ.nx\/ ∃k,k<ops.size/\listed.getD k true=true/\σ.nx+Bw*k<=t/\t<σ.nx+Bw*k+Bw)->Rel c n (Fv n (Br σ) xs λk=>listed.getD k true) (FY (Av σ.hp) xs λk=>listed.getD k true) a->
   ((List.range ops.size).filter λk=> !listed.getD k true).length<=fuel->wpAny P .any ops Q fuel listed a c.w:=by
 simp only[T0,Ad,Bg,Bool.or_eq_true,AB,Bh,Au]at Hg;obtain⟨⟨d1,d2⟩,d3⟩:=Hg;have Pe:∀j o,ops[j]?=some o->(o,j)∈ops.toList.zipIdx:=λj o h=>List.mk_mem_zipIdx_iff_getElem?.2 (by simpa using h);have hb:∀j o,ops[j]?=some o-> ∀e∈o.after.toList,Region.binds .any e=true->e.on<j:=λj o h e he Jg=>by
  rcases d2 (o,j) (Pe j o h) e he with h|h
  ·rw[Jg]at h;cases h
  ·exact h
 obtain⟨c1,c2,c3⟩:=hc.sl hn;obtain⟨c4,c5⟩:=hc.hp;have DF:∀(listed:Array Bool) (a:Act) (c:Cx),listed.size=ops.size->c.ρ=ρ->c.w0=F.w0->c.A=F.A->c.Mu=F.Mu->
   (∀t,c.U t->t<σ.nx\/ ∃k,k<ops.size/\listed.getD k true=true/\σ.nx+Bw*k<=t/\t<σ.nx+Bw*k+Bw)->Rel c n (Fv n (Br σ) xs λk=>listed.getD k true) (FY (Av σ.hp) xs λk=>listed.getD k true) a->
   (∀k,k<ops.size->listed.getD k true=true)->Q .normal a c.w:=by
  intro listed a c BB h1 h2 h3 h4 h5 h6 Ct;refine hQ c a h1 h2 h3 h4 (λt ht=> ?_) ?_
  ·rcases h5 t ht with h|⟨k,hk,_,_,h⟩
   ·simp only[Bw]at*;omega
   ·simp only[Bw]at*;omega
  ·have e1:(Fv n (Br σ) xs λk=>listed.getD k true)=Br σ':=by
    rw[c3];funext d;exact Qp xs rfl λx hx _=>by have:=(hc.range x hx).2;exact Ct x.i (by omega)
   have e2:(FY (Av σ.hp) xs λk=>listed.getD k true)=Av σ'.hp:=by rw[c5];funext d;exact Qo xs rfl λx hx _=>by have:=(hc.range x hx).2;exact Ct x.i (by omega)
   rw[e1,e2]at h6;exact h6
 intro fuel
 induction fuel with
 |zero=>
  intro listed a c BB Aq h1 h2 h3 h4 h5 h6 OT;have Ct:∀k,k<ops.size->listed.getD k true=true:=by intro k hk;have:=List.length_eq_zero_iff.1 (Nat.le_zero.1 OT);have:=List.filter_eq_nil_iff.1 this k (by simpa using hk);simpa using this
  refine⟨?_,DF listed a c BB h1 h2 h3 h4 h5 h6 Ct⟩;refine List.eq_nil_iff_forall_not_mem.2 λj hj=> ?_;obtain⟨q1,o,q2,_⟩:=mem_ready.1 hj;rw[Ct j (Array.getElem?_eq_some_iff.1 q2).1]at q1;cases q1
 |succ fuel ih=>
  intro listed a c BB Aq h1 h2 h3 h4 h5 h6 OT;refine⟨λhr=>DF listed a c BB h1 h2 h3 h4 h5 h6 (tX hb BB hr),λj hj=> ?_⟩;obtain⟨q1,o,q2,q3⟩:=mem_ready.1 hj;have Vq:j<ops.size:=(Array.getElem?_eq_some_iff.1 q2).1;have Kg:∀e∈o.after.toList,Region.binds .any e=true->listed.getD e.on true=true:=λe he Jg=>by
   have h9:=q3 e (by simpa using he) Jg;have AA:=hb j o q2 e he Jg;have h8:e.on<listed.size:=by omega
   simp only[Array.getD_eq_getD_getElem?,Array.getElem?_eq_getElem h8,C7]at h9 ⊢;exact h9
  obtain⟨y,hy,FH⟩:=hc.ex j (by omega) (by omega);have L1:y.o=o:=by have:=(AI y hy).1;rw[FH,q2]at this;exact(Option.some.inj this).symm
  have RW:∀x∈xs,x.i<ops.size:=λx hx=>by have:=(hc.range x hx).2;omega
  have ZJ:∀x∈xs,ops[x.i]?=some x.o:=λx hx=>(AI x hx).1;have agree:∀x∈xs,x.i≠j->Ij (I6 ops.toList []) x.i j=true->listed.getD x.i true=decide (x.i<j):=λx hx BM ho=>uQ (S:=λk=>listed.getD k true) Aq q2 (RW x hx) q1 Kg BM ho;have Kx:∀x∈xs,x.i=j->listed.getD x.i true=decide (x.i<j):=λx hx he=>by rw[he,q1];simp
  have Gi:∀d,d∈T3 ops o->Br y.σ d=Fv n (Br σ) xs (λk=>listed.getD k true) d:=by
   intro d hd;rw[(c1 y hy).2 d,FH];refine Qp xs rfl λx hx PH=> ?_;by_cases he:x.i=j
   ·exact(Kx x hx he).symm
   ·rcases d3 (o,j) (Pe j o q2) (x.o,x.i) (Pe _ _ (ZJ x hx))with h|h
    ·exact absurd h he
    ·simp only[PH,Ad,Bool.or_eq_true,Bh]at h;rcases h.2 with h|h
     ·rw[List.contains_iff_mem.2 hd]at h;cases h
     ·exact(agree x hx he h).symm
  have hW:∀x∈xs,∀t,t∈x.ay.map (·.1)-> ∀ly,y.log=some ly->(t∈ly.R\/t∈ly.W)->listed.getD x.i true=decide (x.i<j):=by
   intro x hx t ht ly Pb hm;by_cases he:x.i=j
   ·exact Kx x hx he
   ·cases V2:x.r with
    |none=>simp[Rec.ay,V2]at ht
    |some ge=>
     obtain⟨gs,e⟩:=ge;have kV:x.log=some ⟨x.i,QO x.σ gs x.o,e.ay.map (·.1)⟩:=by simp[Rec.log,V2]
     have Vw:ly.i=j:=by unfold Rec.log at Pb;obtain⟨ge',_,rfl⟩:=Aj.1 Pb;exact FH
     have h9:=d1 _ (Pa x hx _ kV) _ (Pa y hy _ Pb);simp only[Vw]at h9;rcases h9 with(h|h)|h
     ·exact absurd h he
     ·exfalso;have:YM (e.ay.map (·.1)) (ly.R++ly.W)=true:=by
       simp only[YM,List.any_eq_true];exact⟨t,by simpa[Rec.ay,V2]using ht,List.contains_iff_mem.2 (by simpa using hm)⟩
      rw[this]at h;cases h
     ·exact agree x hx he h
  have Ch:∀k,(listed.setIfInBounds j true).getD k true=(decide (k=j)||listed.getD k true):=wH BB Vq;have VR:Fv n (Br σ) xs (λk=>(listed.setIfInBounds j true).getD k true)=Co n (Fv n (Br σ) xs λk=>listed.getD k true) o.dst y.val:=by
   funext d;unfold Co;split
   ·rename_i hd;refine gM hd.2 (by rw[L1];exact hd.1) (by rw[Ch,FH];simp) xs hy λx hx BM PH=> ?_;have he:x.i≠j:=λh=>BM (hc.inj x hx y hy (by rw[h,FH]));rcases d3 (o,j) (Pe j o q2) (x.o,x.i) (Pe _ _ (ZJ x hx))with h|h
    ·exact he h
    ·simp only[PH,Ad,bne_iff_ne,ne_eq]at h;exact h.1 hd.1
   ·rename_i hd;by_cases Lr:d<n
    ·refine Qp xs rfl λx hx PH=> ?_;have he:x.i≠j:=λh=>by
      have:x=y:=hc.inj x hx y hy (by rw[h,FH]);subst this;exact hd ⟨by rw[<-L1];exact PH,Lr⟩
     rw[Ch];simp[he]
    ·rw[Yt (by omega),Yt (by omega)]
  have Vi:FY (Av σ.hp) xs (λk=>(listed.setIfInBounds j true).getD k true)=AZ (FY (Av σ.hp) xs λk=>listed.getD k true) y.ay:=by
   funext t;by_cases ht:t∈y.ay.map (·.1)
   ·refine gW (by rw[Ch,FH];simp) ht hc hy λx hx BM V3=> ?_;rw[FH]at BM ⊢;rw[Ch];simp only[BM,decide_false,Bool.false_or];cases Ih:y.r with
    |none=>simp[Rec.ay,Ih]at ht
    |some ge=>exact hW x hx t V3 _ (by simp only[Rec.log,Ih,Option.map_some];rfl) (.inr (by simpa[Rec.ay,Ih]using ht))
   ·rw[X1 ht];refine Qo xs rfl λx hx V3=> ?_;have he:x.i≠j:=λh=>by
     have:x=y:=hc.inj x hx y hy (by rw[h,FH]);subst this;exact ht V3
    rw[Ch];simp[he]
  have OU:((List.range ops.size).filter λk=> !(listed.setIfInBounds j true).getD k true).length<=fuel:=by have:=cR (p:=λk=> !listed.getD k true) (p':=λk=> !(listed.setIfInBounds j true).getD k true) (List.range ops.size) (λk _ hk=>by rw[Ch]at hk;simp at hk ⊢;exact hk.2) ⟨j,by simpa using Vq,by simp[q1],by rw[Ch];simp⟩;omega
  have UU:Q0 ops (λk=>(listed.setIfInBounds j true).getD k true):=by
   intro k ok hk Vr e he Jg;simp only[Ch,Bool.or_eq_true,Au]at hk ⊢;rcases hk with rfl|hk
   ·rw[q2]at Vr;cases Vr;exact .inr (Kg e he Jg)
   ·exact .inr (Aq k ok hk Vr e he Jg)
  have Kj:∀(a':Act) (c':Cx),c'.ρ=ρ->c'.w0=F.w0->c'.A=F.A->c'.Mu=F.Mu->(∀t,c'.U t->c.U t\/(σ.nx+Bw*j<=t/\t<σ.nx+Bw*j+Bw))->Rel c' n (Co n (Fv n (Br σ) xs λk=>listed.getD k true) o.dst y.val) (AZ (FY (Av σ.hp) xs λk=>listed.getD k true) y.ay) a'->
    wpAny P .any ops Q fuel (listed.setIfInBounds j true) a' c'.w:=by
   intro a' c' g1 g2 g3 g4 g5 g6;refine ih _ a' c' (by simpa using BB) UU g1 g2 g3 g4 (λt ht=> ?_) (by rw[VR,Vi];exact g6) OU;rcases g5 t ht with h|h
   ·rcases h5 t h with h|⟨k,k1,k2,k3,k4⟩
    ·exact .inl h
    ·exact .inr ⟨k,k1,by rw[Ch,k2];simp,k3,k4⟩
   ·exact .inr ⟨j,Vq,by rw[Ch];simp,h.1,h.2⟩
  have Zo:∀j' want d,o.guard=some (j',want)->(ops[j']?).bind (·.dst)=some d->SR c [Br y.σ d] [a.tmps.getD d Go.undef]:=by intro j' want d hg hd;rw[Gi d (by simp only[T3,hg,Ae];exact .inr (by simp[hd]))];exact h6.cf d
  obtain⟨_,CH⟩:=AI y hy;cases Ih:y.r with
  |none=>
   rw[Ih]at CH;have EB:=Xr (c:=c) (a:=a) CH (λj' want d hg hd=>Zo j' want d (by rw[<-L1];exact hg) hd);unfold wpOp;simp only[q2];rw[L1]at EB;rw[if_neg (by simp[show Region.wanted o (yielded ops a.tmps)=false from EB])];have hv:y.val=F9:=by simp[Rec.val,Ih]
   have he:y.ay=[]:=by simp[Rec.ay,Ih]
   refine Kj _ c h1 h2 h3 h4 (λt ht=> .inl ht) ?_;rw[hv,he];exact h6.put Yl o.dst
  |some ge=>
   obtain⟨gs,e⟩:=ge;rw[Ih]at CH;simp only at CH;obtain⟨r1,r2,r3,r4,r5,r6⟩:=CH;rw[L1,FH]at r2;rw[FH]at r4;rw[L1]at r1;have EB:=Xr (c:=c) (a:=a) r1 Zo;have hv:y.val=mkGd gs e.val:=by simp[Rec.val,Ih]
   have he:y.ay=e.ay:=by simp[Rec.ay,Ih]
   simp only[Of,Ad,Bg]at r4;obtain⟨_,VQ⟩:=r4;have Pb:y.log=some ⟨y.i,QO y.σ gs y.o,e.ay.map (·.1)⟩:=by simp[Rec.log,Ih]
   refine fP (c:=c) AH q2 h6 EB (λt ht=>Gi t (by simp only[T3,Ae,List.mem_filterMap];exact .inl ⟨.tmp t,by simpa using ht,rfl⟩)) (λt x hx=> ?_) (λt t1 t2 hU=> ?_) r2 (λBM t x hx=> ?_) (by rw[h1];exact r5) (by rw[h1];exact r6) (λx hx=>by rw[r3]at hx;cases hx) (λa' c' hs hr=> ?_)
   ·unfold Ou at hx;split at hx
    ·rename_i hR;rw[(c4 y hy) t]at hx;rw[<-hx];refine Qo xs rfl λz hz mK=> ?_;rw[FH];exact hW z hz t mK _ Pb (.inl (by rw[L1];simpa using hR))
    ·cases hx
   ·rcases h5 t hU with h|⟨k,k1,k2,k3,k4⟩
    ·simp only[Bw]at*;omega
    ·have:k≠j:=by rintro rfl;rw[q1]at k2;cases k2
     simp only[Bw]at*;omega
   ·have:=VQ _ hx;have OY:gs.isEmpty=false:=by cases gs;exact absurd rfl BM;rfl
    simp only[OY,Bool.false_or,Bool.false_and,Bool.or_false,Ad,Au]at this;refine⟨this.1.1,this.1.2,?_⟩;have h3:=this.2;split at h3
    ·exact⟨_,_,rfl,h3⟩
    ·cases h3
   ·exact Kj a' c' (hs.ρ.trans h1) (hs.w0.trans h2) (hs.A.trans h3) (hs.Mu.trans h4) hs.U (by rw[hv,he];exact hr)
end
theorem Rel.world{c:Cx}{n:Nat}{sl:Nat->SV}{hp:Nat->Option Ab}{a:Act}(h:Rel c n sl hp a)(w:World)(h1:w.heap=c.w.heap)(h2:w.os=c.w.os)(h3:w.tape=c.w.tape)(h4:w.output=c.w.output):Rel {c with w:=w} n sl hp a:=by
 refine h.change (λ_=>False) ⟨rfl,rfl,λ_ _ hb=>hb,λb _ _=>by show w.heap[b]?=_;rw[h1],λ_ _ hk=>⟨hk,rfl⟩,λ_ _ _=>⟨Ar _,λ_=>⟨rfl,λb _ _=>by show w.heap[b]?=_;rw[h1]⟩⟩⟩ ⟨h2.trans h.base.os,h3.trans h.base.tape,h4.trans h.base.output,by show _<=w.heap.size;rw[h1];exact h.base.size,h.base.pins,λb hb hm=>by show w.heap[b]?=_;rw[h1];exact h.base.block b hb hm,h.base.pk,h.base.lo⟩ (λt _=>⟨rfl,rfl,rfl,λg hk=>hk⟩) (λt _ b _=>by show w.heap[b]?=_;rw[h1]) (λt ht=>ht.elim)
  ⟨h.gw.nodup,h.gw.br,h.gw.allow,λt b hb=>by show b<w.heap.size;rw[h1];exact h.gw.inb t b hb⟩ h.az h.b8
theorem wA{P:Program}{sg:BE}{Rt:Nat->List AV->AV->Prop}(RF:P.follows .mixedOrders=true)(AH:MJ P sg Rt)(Eu:Q8 P sg):eD P sg Rt:=by
 intro id ops draw σ t _ Dq LQ ht F R L js ρ a w hL hd hr Q hq;obtain⟨c,rfl,rfl,h1,h2,h3,h4,h5,h6⟩:=hr;rw[List.range_eq_range']at ht;cases draw with
 |false=>refine wp_region ?_;rw[List.range_eq_range'];exact gD AH Eu (n:=σ.sl.length) ops.size 0 [] σ t (by omega) ht c a ⟨h1,h2,h3,h4,rfl,by simpa using h5,h6⟩ hd (λc' a' σ' hp hl hrel=>hq [] .normal σ' c'.ρ a' c'.w hp hl hrel)
 |true=>
  refine wp_region_any RF ?_;obtain⟨τ,xs,σ',lg',g1,g2,g3,g4,g5,g6,_,g8⟩:=Xw ops.size 0 [] σ t c.ρ (by omega) ht hd h4;have U6:=h6.ext (λi=>by rw[h4];exact St.jo Dq i) (λt e he=>by rw[h4];exact St.je Dq t e he) τ;have hw:=U6.world {c.w with drawn:=c.w.drawn+1} rfl rfl rfl rfl;have FR:∀k,k<ops.size->(Array.replicate ops.size false).getD k true=false:=λk hk=>by simp[Array.getD_eq_getD_getElem?,hk]
  have RW:∀x∈xs,x.i<ops.size:=λx hx=>by have:=(g1.range x hx).2;omega
  have e1:(Fv σ.sl.length (Br σ) xs λk=>(Array.replicate ops.size false).getD k true)=Br σ:=by funext d;exact XZ _ λx hx _=>FR x.i (RW x hx)
  have e2:(FY (Av σ.hp) xs λk=>(Array.replicate ops.size false).getD k true)=Av σ.hp:=by funext d;exact XL _ λx hx _=>FR x.i (RW x hx)
  refine sM (F:=F) (n:=σ.sl.length) (c:={c.ext τ with w:={c.w with drawn:=c.w.drawn+1}}) AH g1 g2 g3 g6 g8 rfl (λc' a' k1 k2 k3 k4 k5 k6=> ?_) ops.size (Array.replicate ops.size false) a (by simp) (λk o hk ho=> ?_) rfl h1 h2 h3 (λt ht=> .inl (h5 t ht)) (by rw[e1,e2];exact hw) (Nat.le_trans (List.length_filter_le _ _) (by simp))
  ·have hlen:=(g1.sl rfl).2.1;refine hq [] .normal _ c'.ρ a' c'.w (by rw[k1];exact List.prefix_append _ _) (by rw[k1];exact g5) ⟨c',rfl,rfl,k2,k3,k4,by rw[k1];exact g4,k5,?_⟩;show Rel c' σ'.sl.length _ _ a';rw[hlen];exact k6
  ·have:=FR k (Array.getElem?_eq_some_iff.1 ho).1;have BV:(Array.replicate ops.size false).getD k true=true:=hk;rw[this]at BV;cases BV
section
variable {P:Program} {c:Cx} {n nx:Nat} {sl sl0:Nat->SV} {hp hp0:Nat->Option Ab} {a:Act} {o:Oper} {gs:Gd} {e:AS} {sg:BE} {nv:Nat}
theorem dW(h:A5 P c n nx sl hp a sl0 hp0 o gs){op:BinOp}{t el:TypeId}{x y:Operand}{ty:TypeId}(ho:o.op= .binOp op t x y ty)(hu:P.underlying t=some (.slice el)){p:Option Addr}{q r:Nat}(hv:a.eval x= .slice p q r)(r2:SR c [.bc] [a.eval y])
  (AH:op= .eql\/op= .neq) (Fq:c.ρ[nv]?=some (.bool (I0 a o))) (x':Option E) {ck:List Cn}:Ap P o c n nx sl hp gs a {bf:=ck,bb:=x',val:= .e (if op= .eql then .var nv else .not (.var nv))}:=by
 have hb:I0 a o=p.isNone:=by simp only[I0,ho,hv];cases p<;>rfl
 rw[hb]at Fq;have ex:=λ(v u:Value) (hv:a.eval x=v) (hu:a.eval y=u)=>Mv (P:=P) (o:=o) ho c.w hv hu;generalize CR:a.eval y=v2 at r2;cases r2 with
 |bc _=>
  refine Ap.pure h (v:= .bool (if op= .eql then p.isNone else !p.isNone)) ?_ ?_ rfl
  ·rw[ex _ _ hv CR,eqGuard_at_slice];rcases AH with rfl|rfl
   ·simp[Go.Lib.run_eql_slice_nil c.w t el p q r 0 0 hu]
   ·simp[binOp,Op.equal,Op.maxDepth,Go.Lib.run_equalIn_slice_nil c.w 9999 t el p q r 0 0 hu]
  ·rcases AH with rfl|rfl
   ·refine .e (f:=[]) ?_ (by simp) .nil;simp only[if_true,E.den,Fq,C7];exact .bool .nil
   ·refine .e (f:=[]) ?_ (by simp) .nil;simp only[reduceCtorEq,if_false,E.den,Fq,C7,AV.dq];exact .bool .nil
end
section
variable {P:Program} {c:Cx} {n nx:Nat} {sl sl0:Nat->SV} {hp hp0:Nat->Option Ab} {a:Act} {o:Oper} {gs:Gd} {e:AS} {sg:BE} {nv:Nat}
theorem QC{hp:Nat->Option Ab}{gs:Gd}{m:Nat}{cs:Bo}{x:E}(h:Ba hp gs m (.agg cs)=some x):∃k l,m=k+1/\Cf hp gs k cs.toList=some l/\x= .mk l:=by
 cases m with
 |zero=>simp[Ba]at h
 |succ m=>simp only[Ba,Aj]at h;obtain⟨l,h1,h2⟩:=h;exact⟨m,l,rfl,h1,h2.symm⟩
theorem IY{hp:Nat->Option Ab}{gs:Gd}{m:Nat}{y x:E}(h:Ba hp gs m (.e y)=some x):x=y:=by
 cases m with
 |zero=>simp[Ba]at h
 |succ m=>simp[Ba]at h;exact h.symm
theorem JD{hp:Nat->Option Ab}{gs:Gd}{m:Nat}{x:E}(h:Ba hp gs m .bc=some x):x= .lst .nil:=by
 cases m with
 |zero=>simp[Ba]at h
 |succ m=>simp[Ba]at h;exact h.symm
theorem IT{hp:Nat->Option Ab}{gs:Gd}{m:Nat}{s:SV}{ss:List SV}{x:EL}(h:Cf hp gs m (s::ss)=some x):∃k y l,m=k+1/\Ba hp gs k s=some y/\Cf hp gs k ss=some l/\x= .cons y l:=by
 cases m with
 |zero=>simp[Cf]at h
 |succ m=>
  simp only[Cf]at h;split at h
  ·rename_i y l h1 h2;simp at h;exact⟨m,y,l,rfl,h1,h2,h.symm⟩
  ·cases h
theorem Nq{hp:Nat->Option Ab}{gs:Gd}{ρ:List AV}{w:World}:∀(vs:List Value) (ss:List SV) (m:Nat) (x:EL),Ej.go vs=some ss->Cf hp gs m ss=some x->Rd w vs (x.den ρ) []
 | [],ss,m,x,h,hx=>by
  simp[Ej.go]at h;subst h;cases m with
  |zero=>simp[Cf]at hx
  |succ m=>simp[Cf]at hx;subst hx;exact .nil
 |v::vs,ss,m,x,h,hx=>by
  unfold Ej.go at h;split at h
  ·rename_i hh;cases hh
  ·rename_i k q l hh;cases hh;split at h
   ·rename_i hk;obtain⟨l',h1,rfl⟩:=Aj.1 h;obtain⟨j,y,l2,rfl,h2,h3,rfl⟩:=IT hx;rw[IY h2];exact .int hk (Nq _ _ _ _ h1 h3)
   ·cases h
  ·rename_i q l hh;cases hh;obtain⟨l',h1,rfl⟩:=Aj.1 h;obtain⟨j,y,l2,rfl,h2,h3,rfl⟩:=IT hx;rw[IY h2];exact .bool (Nq _ _ _ _ h1 h3)
  ·rename_i q l hh;cases hh;split at h
   ·rename_i hk;obtain⟨l',h1,rfl⟩:=Aj.1 h;obtain⟨j,y,l2,rfl,h2,h3,rfl⟩:=IT hx;rw[IY h2];exact .str hk (Nq _ _ _ _ h1 h3)
   ·cases h
  ·rename_i l hh;cases hh;obtain⟨l',h1,rfl⟩:=Aj.1 h;obtain⟨j,y,l2,rfl,h2,h3,rfl⟩:=IT hx;rw[JD h2];exact .db (Nq _ _ _ _ h1 h3)
  ·rename_i l hh;cases hh;obtain⟨l',h1,rfl⟩:=Aj.1 h;obtain⟨j,y,l2,rfl,h2,h3,rfl⟩:=IT hx;rw[IY h2];exact .c6 (Nq _ _ _ _ h1 h3)
  ·cases h
theorem W7{hp:Nat->Option Ab}{gs:Gd}{ρ:List AV}{w:World}{v:Value}{s:SV}{m:Nat}{x:E}(h:Ej v=some s)(hx:Ba hp gs m s=some x):
  Rd w v.cells.toList (x.den ρ).cells []/\(∀u∈v.cells.toList,u.oneCell'=true):=by
 have one:∀{v:Value} {y:AV},Rd w [v] [y] []->(∀cs,y≠ .agg cs)->(∀cs,y≠ .tup cs)->Rd w v.cells.toList y.cells []/\(∀u∈v.cells.toList,u.oneCell'=true):=by
  intro v y hr h1 h2;have h3:=WZ hr h1 h2;have h4:y.cells=[y]:=by cases y<;>first|rfl|exact absurd rfl (h1 _)
  rw[one_cells h3,h4];exact⟨by simpa using hr,by simpa using h3⟩
 unfold Ej at h;split at h
 ·split at h
  ·rename_i hk;simp at h;subst h;rw[IY hx];exact one (.int hk .nil) (by simp[E.den]) (by simp[E.den])
  ·cases h
 ·simp at h;subst h;rw[IY hx];exact one (.bool .nil) (by simp[E.den]) (by simp[E.den])
 ·split at h
  ·rename_i hk;simp at h;subst h;rw[IY hx];exact one (.str hk .nil) (by simp[E.den]) (by simp[E.den])
  ·cases h
 ·simp at h;subst h;rw[JD hx];exact one (.db .nil) (by simp[E.den]) (by simp[E.den])
 ·simp at h;subst h;rw[IY hx];exact one (.c6 .nil) (by simp[E.den]) (by simp[E.den])
 ·rename_i cs;simp only[Option.bind_eq_bind,Ak,Aa]at h;obtain⟨l,hl,rfl⟩:=h;obtain⟨k,l',rfl,h1,rfl⟩:=QC hx;rw[Bo.ak]at h1;exact⟨Nq _ _ _ _ hl h1,W5 _ _ hl⟩
 ·cases h
theorem Yq{w:World}{vs:List Value}{x:AV}(h:Rd w vs x.cells []):∀k,Rd w (List.replicate k vs).flatten (Am (List.replicate k x)) []
 |0=> .nil
 |k+1=>by simp only[List.replicate_succ,List.flatten_cons,Am,List.flatMap_cons];have:=h.app (Yq h k);simpa[Am]using this
theorem SD(z:Array Value)(hz:0<z.size):∀k,(madeCells z (k*z.size)).toList=(List.replicate k z.toList).flatten
 |0=>by simp[madeCells]
 |k+1=>by
  have ih:=SD z hz k;simp only[madeCells,Array.toList_map,Array.toList_range]at ih ⊢;rw[Nat.add_mul,Nat.one_mul,List.range_add,List.map_append,ih,List.replicate_succ',List.flatten_append];congr 1;simp only[List.map_map,List.flatten_cons,List.flatten_nil,AE];apply List.ext_getElem?;intro i;simp only[List.getElem?_map,List.getElem?_range'];by_cases hi:i<z.size
  ·simp only[List.getElem?_range hi,Option.map_some,Function.comp_apply];have:(k*z.size+i) % z.size=i:=by rw[Nat.add_comm,Nat.add_mul_mod_self_right,Nat.mod_eq_of_lt hi]
   simp[this,hi]
  ·rw[List.getElem?_eq_none (by simpa using hi),List.getElem?_eq_none (by simpa using hi)];rfl
theorem sF(h:A5 P c n nx sl hp a sl0 hp0 o gs){t:TypeId}{l m:Operand}(ho:o.op= .makeSlice t l m){s1 s2:SV}(Bu:Bl sl0 gs l=some s1)(AQ:Bl sl0 gs m=some s2)(he:Yj P hp0 gs nx t s1 s2=some e)(hc:∀q∈e.bf,Cn.den c.ρ q):Ap P o c n nx sl hp gs a e:=by
 have Dp:l∈o.op.operands:=by simp[ho,Op.operands]
 have C3:m∈o.op.operands:=by simp[ho,Op.operands]
 unfold Yj at he;split at he
 ·rename_i el x y A6;have A6:=Hq A6;split at he
  ·cases he
  rename_i hz;have hz:F7 P el=true:=by simpa using hz
  obtain⟨i,z,hi,EW,C5,BB,BX,E6⟩:=IP hz;have r1:=h.ca Bu Dp;have r2:=h.ca AQ C3;have ival:∀{x:E} {kk:IntKind} {k:Int} {v:Value},SR c [.e x] [v]->x.den c.ρ= .int kk k->v= .int kk k:=by
   intro x kk k v hr hx;cases hr with
   |e h1 _ _=>exact(Fb h1 hx).1
  split at he
  ·rename_i E8;split at he
   ·rename_i s hs;have hs:Ej z=some s:=by simpa[hi,EW]using hs
    obtain⟨w,hw,rfl⟩:=Aj.1 he;obtain⟨kk,k,hk,h0,hb,hle⟩:Cn.den c.ρ (.mkroom x (P.bytesOf el)):=BK hc;have E7:=ival r1 hk;have CR:=ival r2 (by rw[<-E.ah c.ρ _ _ E8];exact hk);obtain⟨c1,c2⟩:=W7 (w:=c.w) (ρ:=c.ρ) hs hw;obtain⟨kn,rfl⟩:=Int.eq_ofNat_of_zero_le h0;have Dl:(i.bytes:Int)*(kn:Int)<=281474976710656:=by rw[E6]at hb;rw[Int.mul_comm];omega
    have hlen:=c1.len;have LH:=SD z.cells (by omega) kn;have Ay:=run_make (P:=P) c.w t el i z A6 hi EW kk kk kn kn (by omega) (Int.le_refl _) Dl (by omega);have EI:(madeCells z.cells (kn*z.cells.size)).size=kn*P.cellsOf el:=by rw[size_madeCells,C5,BX]
    have BZ:(madeCells z.cells (kn*z.cells.size)).toList.take ((List.replicate kn (w.den c.ρ)).length*P.cellsOf el)=(List.replicate kn z.cells.toList).flatten:=by rw[List.length_replicate,List.take_of_length_le (by rw[Bp,EI];exact Ar _),LH]
    refine Ap.newRow (xs:=List.replicate kn (w.den c.ρ)) (N:=[]) (C:=madeCells z.cells (kn*z.cells.size)) (cap:=kn) (wd:=c.w) (fz:=[]) (ts:=[]) h rfl ⟨rfl,rfl,rfl,rfl⟩ ?_ ?_ (by omega) (λu hu=> ?_) (by simp) (by simp only[maxLen];omega) EI ?_ ?_ (by simp) (λ_=>rfl)
    ·simp only[execOp,ho,E7,CR,Sem.run_bind,Int.ofNat_eq_natCast,List.length_replicate];rw[Ay,C5];rfl
    ·simp[E.den,hk,AV.rep]
    ·rw[List.eq_of_mem_replicate hu,<-hlen,Bp,C5,BX]
    ·rw[BZ];intro u hu;obtain⟨q,hq,hu⟩:=List.mem_flatten.1 hu;rw[List.eq_of_mem_replicate hq]at hu;exact c2 u hu
    ·rw[BZ];exact Yq c1 kn
   ·cases he
  ·split at he
   ·rename_i k0 _;simp only[Aa]at he;subst he;obtain⟨kk,k,hk,h0,hb,hle⟩:Cn.den c.ρ (.mkroom y (P.bytesOf el)):=BK hc;have E7:=ival r1 (show(E.int k0 0).den c.ρ= .int k0 0 from rfl);have CR:=ival r2 hk;obtain⟨kn,rfl⟩:=Int.eq_ofNat_of_zero_le h0;have Dl:(i.bytes:Int)*(kn:Int)<=281474976710656:=by
     rw[E6]at hb;rw[Int.mul_comm];omega
    have Ay:=run_make (P:=P) c.w t el i z A6 hi EW k0 kk 0 kn (by omega) (by omega) Dl (by omega);refine Ap.newRow (xs:=[]) (N:=[]) (C:=madeCells z.cells (kn*i.size)) (cap:=kn) (wd:=c.w) (fz:=[]) (ts:=[]) h rfl ⟨rfl,rfl,rfl,rfl⟩ ?_ rfl (by omega) (by simp) (by simp) (by simp only[maxLen];omega) (by rw[size_madeCells,BX]) (by simp) (by simpa[Am]using Rd.nil) (by simp) (λ_=>rfl);simp only[execOp,ho,E7,CR,Sem.run_bind,Int.ofNat_eq_natCast];rw[Ay];rfl
   ·cases he
 ·cases he
end
section
variable {P:Program} {c:Cx} {n nx:Nat} {sl sl0:Nat->SV} {hp hp0:Nat->Option Ab} {a:Act} {o:Oper} {gs:Gd} {e:AS} {sg:BE} {nv:Nat}
def NQ(v:Option Value)(k d:Nat):Prop:=(v=none/\k=d)\/ ∃kk,v=some (.int kk (k:Int))
theorem Qf{w:World}{t el:TypeId}(hu:P.underlying t=some (.slice el))(A2:CL P el=true)(p:Option Addr)(m r l h:Nat){lo hi:Option Value}(BN:NQ lo l 0)(HU:NQ hi h m)(h1:l<=h)(h2:h<=m)(h3:m<=r):
  (Instr.sliceAt t (.slice p m r) lo hi none).run P w= .ok (sliced p l h r (P.cellsOf el)) w:=by
 have EZ:P.underlying t=some (.slice (P.elem t)):=by simp[Program.elem,hu]
 have he:P.elem t=el:=by simp[Program.elem,hu]
 have hs:(sizeOf (P.elem t)).run P w= .ok (P.cellsOf el) w:=by rw[he];exact Mc A2 w
 rw[run_sliceAt_slice w t _ _ _ _ EZ];rcases BN with⟨rfl,rfl⟩|⟨kl,rfl⟩<;>rcases HU with⟨rfl,rfl⟩|⟨kh,rfl⟩
 ·rw[run_slice_all w t p h r EZ,hs];rfl
 ·rw[run_slice_h w t p m r EZ kh _ (by omega) (by omega),hs];rfl
 ·rw[run_slice_l w t p h r EZ kl _ (by omega) (by omega),hs];rfl
 ·rw[run_slice_lh w t p m r EZ kl kh _ _ (by omega) (by omega) (by omega),hs];rfl
theorem rH(s:ByteArray)(a b:Nat):(s.extract a b).data.toList=(s.data.toList.drop a).take (b-a):=by rw[ByteArray.data_extract,Array.toList_extract,List.extract_eq_take_drop]
theorem nW{w:World}{t:TypeId}(hu:P.underlying t=some .string)(s:ByteArray)(l h:Nat){lo hi:Option Value}(BN:NQ lo l 0)(HU:NQ hi h s.size)(h1:l<=h)(h2:h<=s.size):
  (Instr.sliceAt t (.string s) lo hi none).run P w= .ok (.string (s.extract l h)) w:=by
 rw[run_sliceAt_string w t _ _ _ _ hu];rcases BN with⟨rfl,rfl⟩|⟨kl,rfl⟩<;>rcases HU with⟨rfl,rfl⟩|⟨kh,rfl⟩
 ·rw[run_slice_string_all w t s hu]
 ·rw[run_slice_string_h w t s hu kh _ (by omega) (by omega)];rfl
 ·rw[run_slice_string_l w t s hu kl _ (by omega) (by omega)];rfl
 ·rw[run_slice_string w t s kl kh _ _ hu (by omega) (by omega) (by omega)];rfl
theorem Xh{sz:Nat}(ys:List AV)(hs:∀y∈ys,y.cells.length=sz)(l h:Nat)(hl:l<=h)(hh:h<=ys.length):((Am ys).drop (l*sz)).take ((h-l)*sz)=Am ((ys.take h).drop l):=by
 have e:ys=ys.take l++((ys.take h).drop l++ys.drop h):=by
  rw[<-List.append_assoc];have:ys.take l++(ys.take h).drop l=ys.take h:=by
   have h2:ys.take l=(ys.take h).take l:=by rw[List.take_take,Nat.min_eq_left hl]
   rw[h2,Bq]
  rw[this,Bq]
 have f1:Am ys=Am (ys.take l)++(Am ((ys.take h).drop l)++Am (ys.drop h)):=by
  conv=>lhs;rw[e]
  simp[Am]
 have l1:(Am (ys.take l)).length=l*sz:=by rw[IQ _ (λy hy=>hs y (BA hy)),AF,Nat.min_eq_left (by omega)]
 have l2:(Am ((ys.take h).drop l)).length=(h-l)*sz:=by rw[IQ _ (λy hy=>hs y (BA (BP hy))),B1,AF,Nat.min_eq_left (by omega)]
 rw[f1,<-l1,List.drop_left,<-l2,List.take_left]
theorem zM{w:World}{v:Value}{ys:List AV}{f:List Nat}{sz:Nat}(hr:Rd w [v] [.sl ys] f)(hs:∀y∈ys,y.cells.length=sz)(l h:Nat)(hl:l<=h)(hh:h<=ys.length):
  ∃p r g,v= .slice p ys.length r/\ys.length<=r/\Rd w [sliced p l h r sz] [.sl ((ys.take h).drop l)] g/\ ∀b∈g,b∈f:=by
 cases hr with
 |db _=>
  rename_i p r;have hh:h=0:=by simpa using hh
  subst hh;have hl:l=0:=by omega
  subst hl;exact⟨_,_,[],rfl,Nat.zero_le _,by simpa[sliced]using Rd.db .nil,by simp⟩
 |scons hb h1 h2 h3 h4 h5 h6 Gf h7 h8=>
  rename_i b o m r cs C t fz sz' f1 f2;have hy:∃y,y∈ys:=by cases ys with|nil=>simp at h3;omega|cons y _=>exact⟨y,by simp⟩
  obtain⟨y0,Gp⟩:=hy;have Ft:sz'=sz:=(h4 y0 Gp).symm.trans (hs y0 Gp);subst Ft;subst h3;refine⟨some ⟨b,o,none⟩,r,?_⟩;rcases Nat.eq_or_lt_of_le hl with he|AA
  ·subst he;refine⟨[],rfl,h2.2,?_,by simp⟩;have:(ys.take l).drop l=[]:=List.drop_eq_nil_of_le (by simp;omega);rw[this];simp only[sliced,Nat.sub_self];exact .db .nil
  ·have Ei:=h7.len;obtain⟨g,hg,CQ⟩:=h7.piece (l*sz') ((h-l)*sz');rw[Xh ys h4 l h hl hh]at CQ;refine⟨b::(g++ []),rfl,h2.2,?_,λx hx=> ?_⟩
   ·have CF:sliced (some (⟨b,o,none⟩:Addr)) l h r sz'= .slice (some ⟨b,o+l*sz',none⟩) (h-l) (r-l):=by
     unfold sliced;split
     ·exfalso;omega
     ·simp[Addr.add_lit]
    rw[CF];refine Rd.scons (cs:=(cs.drop (l*sz')).take ((h-l)*sz')) hb (by omega) ⟨by omega,by omega⟩ (by simp;omega) (λy hy=>h4 y (BA (BP hy))) h5 (λj u hu=> ?_) (λu hu=>Gf u (BP (BA hu))) CQ .nil;rw[List.getElem?_take]at hu;split at hu
    ·rw[List.getElem?_drop]at hu;have:=h6 _ _ hu;rw[<-this];congr 1;omega
    ·cases hu
   ·simp only[AE,Ac]at hx;rcases hx with rfl|hx
    ·simp
    ·have:=hg x hx;simp[this]
theorem FI{f:Operand->Option SV}{x:Option Operand}{r:Option SV}(h:Gz f x=some r):(x=none/\r=none)\/ ∃y z,x=some y/\f y=some z/\r=some z:=by
 cases x with
 |none=>simp[Gz]at h;exact .inl ⟨rfl,h.symm⟩
 |some y=>obtain⟨z,hz,rfl⟩:=Aj.1 h;exact .inr ⟨y,z,rfl,hz,rfl⟩
theorem Tf{s:Option SV}{d l:E}(h:K7 s d=some l):(s=none/\l=d)\/s=some (.e l):=by
 unfold K7 at h;split at h
 ·simp at h;exact .inl ⟨rfl,h.symm⟩
 ·simp at h;subst h;exact .inr rfl
 ·cases h
theorem rW(h:A5 P c n nx sl hp a sl0 hp0 o gs){t:TypeId}{x:Operand}{lo hi mx:Option Operand}(ho:o.op= .slice t x lo hi mx){s:SV}(hs:Bl sl0 gs x=some s){l' h' m':Option SV}(Bm:Gz (Bl sl0 gs) lo=some l')(Hi:Gz (Bl sl0 gs) hi=some h')(EC:Gz (Bl sl0 gs) mx=some m')(he:XM P hp0 gs t s l' h' m'=some e)(hc:∀q∈e.bf,Cn.den c.ρ q):Ap P o c n nx sl hp gs a e:=by
 have hm:x∈o.op.operands:=by simp[ho,Op.operands]
 have H0:∀y,lo=some y->y∈o.op.operands:=λy hy=>by simp[ho,Op.operands,hy]
 have GX:∀y,hi=some y->y∈o.op.operands:=λy hy=>by simp[ho,Op.operands,hy]
 have VA:∀y,mx=some y->y∈o.op.operands:=λy hy=>by simp[ho,Op.operands,hy]
 have hx:=h.ca hs hm;have ival:∀{x:E} {kk:IntKind} {k:Int} {v:Value},SR c [.e x] [v]->x.den c.ρ= .int kk k->v= .int kk k:=by
  intro x kk k v hr hx;cases hr with
  |e h1 _ _=>exact(Fb h1 hx).1
 unfold XM at he;split at he
 ·cases he
 rename_i y hy;obtain⟨f,q1,q2⟩:=h.il hs hm hy;have ex:(execOp a.eval o).run P c.w=((Instr.sliceAt t (a.eval x) (lo.map a.eval) (hi.map a.eval) (mx.map a.eval)).run P c.w).andThen λv w=> .ok (.value v) w:=by simp[execOp,ho]
 split at he
 ·split at he
  ·rename_i el _ _ hu;split at he
   ·rename_i A2;simp only[Aa]at he;subst he;have hd:(y.den c.ρ).len≠ .undef:=BK hc;cases Bn:y.den c.ρ<;>simp only[Bn,AV.len,ne_eq,not_true_eq_false]at hd;rename_i xs;have hl:(y.den c.ρ).len= .int .i64 (xs.length:Int):=by rw[Bn];rfl
    obtain⟨p,q,r,hv⟩:∃p q r,a.eval x= .slice p q r:=by
     rcases NF q1 hl with⟨p,q,hv,Dg⟩|⟨b,o',k,q,hv,Dg⟩
     ·exact⟨_,_,_,hv⟩
     ·exact⟨_,_,_,hv⟩
    rcases FI Bm with⟨rfl,_⟩|⟨_,_,_,_,hh⟩
    ·rcases FI Hi with⟨_,hh⟩|⟨oh,sh,rfl,lP,hh⟩
     ·cases hh
     ·cases hh;rcases FI EC with⟨_,hh⟩|⟨om,sm,rfl,VS,hh⟩
      ·cases hh
      ·cases hh;have v1:=(λ{kk:IntKind} (hr:SR c [.e (.int kk 0)] [a.eval oh])=>ival hr (show(E.int kk 0).den c.ρ= .int kk 0 from by simp only[E.den])) (h.ca lP (GX _ rfl))
       have v2:=(λ{kk:IntKind} (hr:SR c [.e (.int kk 0)] [a.eval om])=>ival hr (show(E.int kk 0).den c.ρ= .int kk 0 from by simp only[E.den])) (h.ca VS (VA _ rfl))
       have EZ:P.underlying t=some (.slice (P.elem t)):=by simp[Program.elem,hu]
       have A6:P.elem t=el:=by simp[Program.elem,hu]
       refine Ap.pure h (v:= .slice p 0 0) ?_ (.emp .nil) rfl;rw[ex,hv];simp only[Option.map_none,Option.map_some,v1,v2];rw[run_sliceAt_slice c.w t _ _ _ _ EZ,run_slice_hm c.w t p q r EZ _ _ 0 0 (by omega) (by omega) (by omega),A6,Mc A2];simp[sliced]
    ·cases hh
   ·cases he
  ·cases he
 ·have H2:mx=none:=by
   rcases FI EC with⟨hh,_⟩|⟨_,_,_,_,hh⟩
   ·exact hh
   ·cases hh
  subst H2;have blo:∀(l:E) (kk:IntKind) (k:Nat),K7 l' (.int .i64 0)=some l->l.den c.ρ= .int kk k->NQ (lo.map a.eval) k 0:=by
   intro l kk k hl hk;rcases FI Bm with⟨rfl,rfl⟩|⟨ol,sl',rfl,CF,rfl⟩
   ·rcases Tf hl with⟨_,rfl⟩|hh
    ·simp only[E.den,AV.int.injEq]at hk;exact .inl ⟨rfl,by omega⟩
    ·cases hh
   ·rcases Tf hl with⟨hh,_⟩|hh
    ·cases hh
    ·cases hh;exact .inr ⟨kk,by rw[Option.map_some,ival (h.ca CF (H0 _ rfl)) hk]⟩
  have bhi:∀(d l:E) (kk:IntKind) (k m:Nat),K7 h' d=some l->l.den c.ρ= .int kk k->d.den c.ρ= .int .i64 (m:Int)->NQ (hi.map a.eval) k m:=by
   intro d l kk k m hl hk hd;rcases FI Hi with⟨rfl,rfl⟩|⟨ol,sl',rfl,CF,rfl⟩
   ·rcases Tf hl with⟨_,rfl⟩|hh
    ·rw[hd]at hk;simp only[AV.int.injEq]at hk;exact .inl ⟨rfl,by omega⟩
    ·cases hh
   ·rcases Tf hl with⟨hh,_⟩|hh
    ·cases hh
    ·cases hh;exact .inr ⟨kk,by rw[Option.map_some,ival (h.ca CF (GX _ rfl)) hk]⟩
  split at he
  ·rename_i hu;split at he
   ·rename_i l hb q Jo HR;simp only[Aa]at he;subst he;obtain⟨ka,ai,kb,bi,bs,d1,d2,d3,d4,d5,d6⟩:Cn.den c.ρ (.winS y l hb):=BK hc;obtain⟨an,rfl⟩:=Int.eq_ofNat_of_zero_le d4;obtain⟨bn,rfl⟩:=Int.eq_ofNat_of_zero_le (Int.le_trans d4 d5);obtain⟨ss,hv,rfl,hle⟩:=NX q1 d3;have BB:ss.data.toList.length=ss.size:=by simp
    have Ay:=nW (P:=P) (w:=c.w) hu ss an bn (blo l ka an Jo d1) (bhi (.slen y) hb kb bn ss.size HR d2 (by simp only[E.den,d3,AV.slen];simp)) (by omega) (by omega);refine Ap.pure h (v:= .string (ss.extract an bn)) ?_ (.cd ?_) rfl
    ·rw[ex,hv,Option.map_none,Ay];rfl
    ·simp only[E.den,d1,d2,d3,AV.swin];have:(List.take (bn:Int).toNat ss.data.toList).drop (an:Int).toNat=(ss.extract an bn).data.toList:=by
      simp[rH,List.drop_take]
     rw[this];exact .str (by simp only[ByteArray.size_extract];omega) .nil
   ·cases he
  ·rename_i el hu;split at he
   ·cases he
   rename_i A2;have A2:CL P el=true:=by simpa using A2
   split at he
   ·rename_i l hb fz Jo HR Gh;simp only[Aa]at he;subst he;have Bb:Cn.den c.ρ (.issl y (P.cellsOf el)):=BK hc;obtain⟨ys,CI,Hm⟩:=Bb;obtain⟨ka,ai,kb,bi,m,d1,d2,d3,d4,d5,d6⟩:Cn.den c.ρ (.win y l hb):=hc _ (by simp);obtain⟨an,rfl⟩:=Int.eq_ofNat_of_zero_le d4;obtain⟨bn,rfl⟩:=Int.eq_ofNat_of_zero_le (Int.le_trans d4 d5);rw[CI]at q1;have hm9:(m:Int)=ys.length:=by rw[CI]at d3;simpa[AV.len]using d3.symm
    split at Gh
    ·rename_i GY;obtain⟨p,r,g,hv,hr,CQ,hg⟩:=zM q1 Hm an bn (by omega) (by omega);have Ay:=Qf (P:=P) (w:=c.w) hu A2 p ys.length r an bn (blo l ka an Jo d1) (bhi (.len y) hb kb bn ys.length HR d2 (by simp only[E.den,CI,AV.len])) (by omega) (by omega) hr;intro next Q hk
     unfold Oper.wp;rw[ex,hv,Option.map_none,Ay];show Oper.upon P o a next Q (.ok (.value _) c.w)
     rw[Oper.upon_value];have hrel:=h.rel.freeze h.hp h.gs Gh;have AI:∀b∈g,(c.a6 (fz.map (·.1))).ok b:=λb hb=>Qm h.rel h.eh h.gs Gh GY (q2 b (hg b hb));refine hk _ (c.a6 (fz.map (·.1))) ⟨rfl,rfl,rfl,rfl,λt ht=> .inl ht⟩ (hrel.put (SR.mkGd (.e (f:=g) ?_ AI .nil) gs h.gs) o.dst);show Rd c.w _ [(E.win y l hb).den c.ρ] g;simp only[E.den,d1,d2,CI,AV.win,Int.ofNat_eq_natCast,G2];exact CQ
    ·cases Gh
   ·cases he
  ·cases he
end
section
variable {P:Program} {c:Cx} {n nx:Nat} {sl sl0:Nat->SV} {hp hp0:Nat->Option Ab} {a:Act} {o:Oper} {gs:Gd} {e:AS} {sg:BE} {nv:Nat}
theorem Oc{w:World}{v:Value}{x:AV}{f:List Nat}{k:SK}(h:Rd w [v] [x] f)(hk:x.sk=some k):(∃kk n,k= .int kk/\v= .int kk n/\x= .int kk n)\/(∃b,k= .bool/\v= .bool b/\x= .bool b)\/ ∃s:ByteArray,k= .str/\v= .string s/\x= .str s.data.toList:=by
 cases h<;>simp[AV.sk]at hk
 ·exact .inl ⟨_,_,hk.symm,rfl,rfl⟩
 ·exact .inr (.inl ⟨_,hk.symm,rfl,rfl⟩)
 ·exact .inr (.inr ⟨_,hk.symm,rfl,rfl⟩)
theorem WV{t:TypeId}(h:(∃k,P.underlying t=some (.int k))\/P.underlying t=some .bool\/P.underlying t=some .string):Ah P t=false:=by rcases h with⟨k,h⟩|h|h<;>simp[Ah,h]
theorem aO{w:World}(d:Nat):∀(fs:List Field) (j:Nat) (ks:List SK) {as_ bs:List Value} {cs ds:List AV} {f g:List Nat},N6 P j fs=some ks->Rd w as_ cs f->Rd w bs ds g->(cs.drop j).map AV.sk=ks.map some->(ds.drop j).map AV.sk=ks.map some->
  (Op.eqFields (d+1) as_.toArray bs.toArray fs).run P w= .ok (AV.leq (cs.drop j) (ds.drop j)) w
 | [],j,ks,as_,bs,cs,ds,f,g,hk,h1,h2,k1,k2=>by
  simp[N6]at hk;subst hk;have e1:cs.drop j=[]:=by simpa using k1
  have e2:ds.drop j=[]:=by simpa using k2
  rw[e1,e2];simp[Op.eqFields,AV.leq]
 |fd::fs,j,ks,as_,bs,cs,ds,f,g,hk,h1,h2,k1,k2=>by
  unfold N6 at hk;split at hk
  ·cases hk
  rename_i Ao;simp only[not_or,Bh,Decidable.not_not,ne_eq,Bool.not_eq_false]at Ao;obtain⟨hn,ho,A2,BK⟩:=Ao;have main:∀(k:SK) (l:List SK),ks=k::l->N6 P (j+1) fs=some l->(∀a b (x y:AV) f g,Rd w [a] [x] f->Rd w [b] [y] g->x.sk=some k->y.sk=some k->(Op.equalIn (d+1) fd.type a b).run P w= .ok (x.seq y) w)->Ah P fd.type=false->
    (Op.eqFields (d+1) as_.toArray bs.toArray (fd::fs)).run P w= .ok (AV.leq (cs.drop j) (ds.drop j)) w:=by
   rintro k l rfl hl heq GK;have Vn:j<cs.length:=by
    rcases Nat.lt_or_ge j cs.length with hh|hh
    ·exact hh
    ·rw[List.drop_eq_nil_of_le hh]at k1;simp at k1
   have Vo:j<ds.length:=by
    rcases Nat.lt_or_ge j ds.length with hh|hh
    ·exact hh
    ·rw[List.drop_eq_nil_of_le hh]at k2;simp at k2
   rw[A7 Vn]at k1;rw[A7 Vo]at k2;simp only[List.map_cons,List.cons.injEq]at k1 k2;have l1:=h1.len;have l2:=h2.len;obtain⟨v,f1,hv,_,r1⟩:=h1.at (show cs[j]?=some cs[j] by simp[Vn])
   obtain⟨u,g1,hu,_,r2⟩:=h2.at (show ds[j]?=some ds[j] by simp[Vo])
   have p1:=QA A2 as_ fd.offset (by omega) (.inr BK) w;have p2:=QA A2 bs fd.offset (by omega) (.inr BK) w;have e1:((as_.drop fd.offset).take (P.cellsOf fd.type)).headD Go.undef=v:=by rw[BK,ho,A7 (by omega),List.take_succ_cons];simpa[show j<as_.length by omega]using hv
   have e2:((bs.drop fd.offset).take (P.cellsOf fd.type)).headD Go.undef=u:=by rw[BK,ho,A7 (by omega),List.take_succ_cons];simpa[show j<bs.length by omega]using hu
   rw[GK,e1]at p1;rw[GK,e2]at p2;have ih:=aO (w:=w) d fs (j+1) l hl h1 h2 k1.2 k2.2;rw[A7 Vn,A7 Vo];simp only[Op.eqFields,ne_eq,hn,not_false_eq_true,if_true,Sem.run_bind,p1,p2,B0,if_false,Result.andThen_ok,heq v u _ _ _ _ r1 r2 k1.1 k2.1];cases hb:(cs[j]).seq ds[j]with
   |true=>simpa[AV.leq,hb]using ih
   |false=>simp[AV.leq,hb]
  split at hk
  ·rename_i k l hu hl;simp at hk;refine main _ _ hk.symm hl (λa b x y f g ra rb hx hy=> ?_) (WV (.inl ⟨_,hu⟩));rcases Oc ra hx with⟨kk,m,h5,rfl,rfl⟩|⟨_,h5,_⟩|⟨_,h5,_⟩<;>cases h5
   rcases Oc rb hy with⟨kk,m2,h5,rfl,rfl⟩|⟨_,h5,_⟩|⟨_,h5,_⟩<;>cases h5
   exact run_equalIn_int w d fd.type _ _ _ _ hu
  ·rename_i l hu hl;simp at hk;refine main _ _ hk.symm hl (λa b x y f g ra rb hx hy=> ?_) (WV (.inr (.inl hu)));rcases Oc ra hx with⟨kk,m,h5,_⟩|⟨_,_,rfl,rfl⟩|⟨_,h5,_⟩<;>try cases h5
   rcases Oc rb hy with⟨kk,m,h5,_⟩|⟨_,_,rfl,rfl⟩|⟨_,h5,_⟩<;>try cases h5
   exact Xc d _ _ hu w
  ·rename_i l hu hl;simp at hk;refine main _ _ hk.symm hl (λa b x y f g ra rb hx hy=> ?_) (WV (.inr (.inr hu)));rcases Oc ra hx with⟨kk,m,h5,_⟩|⟨_,h5,_⟩|⟨_,_,rfl,rfl⟩<;>try cases h5
   rcases Oc rb hy with⟨kk,m,h5,_⟩|⟨_,h5,_⟩|⟨_,_,rfl,rfl⟩<;>try cases h5
   rw[run_equalIn_string w d _ _ _ hu,pQ];rfl
  ·cases hk
theorem xI(h:A5 P c n nx sl hp a sl0 hp0 o gs){op:BinOp}{t:TypeId}{x y:Operand}{ty:TypeId}(ho:o.op= .binOp op t x y ty){fs:Array Field}(hu:P.underlying t=some (.struct fs))(he:Bv P sg sl0 hp0 nv nx gs o=some e)(hc:∀q∈e.bf,Cn.den c.ρ q):Ap P o c n nx sl hp gs a e:=by
 have Dp:x∈o.op.operands:=by simp[ho,Op.operands]
 have C3:y∈o.op.operands:=by simp[ho,Op.operands]
 simp only[Bv,ho,Ak]at he;obtain⟨s1,Bu,s2,AQ,he⟩:=he;unfold N5 at he;simp only[hu]at he;split at he
 ·cases he
 rename_i hg;simp only[Bool.or_eq_true,not_or,Bool.not_eq_true]at hg;split at he
 ·rename_i ks x' y' kN Dh Bn;obtain⟨f1,q1,_⟩:=h.il Bu Dp Dh;obtain⟨f2,q2,_⟩:=h.il AQ C3 Bn;have CV:P.underlying t=some (.struct (P.fieldsOf t)):=by simp[Program.fieldsOf,hu]
  have Kh:P.fieldsOf t=fs:=by simp[Program.fieldsOf,hu]
  have key:∀(k1:Cn.den c.ρ (.kinds x' ks)) (k2:Cn.den c.ρ (.kinds y' ks)),∃as_ bs:List Value,∃b,a.eval x= .agg as_.toArray/\a.eval y= .agg bs.toArray/\(E.aeq x' y').den c.ρ= .bool b/\(Op.equalIn 10000 t (.agg as_.toArray) (.agg bs.toArray)).run P c.w= .ok b c.w:=by rintro⟨cs,Bb,k1⟩ ⟨ds,FQ,k2⟩;obtain⟨as_,E7,_,r1⟩:=Hv q1 Bb;obtain⟨bs,CR,_,r2⟩:=Hv q2 FQ;refine⟨as_,bs,AV.leq cs ds,E7,CR,by simp only[E.den,Bb,FQ,AV.aeq],?_⟩;rw[run_equalIn_struct c.w 9999 t _ _ CV hg.1,Kh];exact aO (w:=c.w) 9998 fs.toList 0 ks kN r1 r2 (by simpa using k1) (by simpa using k2)
  split at he
  ·simp only[Aa]at he;subst he;obtain⟨as_,bs,b,E7,CR,hd,hr⟩:=key (hc _ (by simp)) (hc _ (by simp));refine Ap.pure h (v:= .bool b) ?_ (.cd (by rw[hd];exact .bool .nil)) rfl;rw[Mv ho c.w E7 CR];simp[run_eqGuard_agg c.w _ t x y _ _ hg.2,run_eql_struct,hr]
  ·simp only[Aa]at he;subst he;obtain⟨as_,bs,b,E7,CR,hd,hr⟩:=key (hc _ (by simp)) (hc _ (by simp));refine Ap.pure h (v:= .bool (!b)) ?_ (.cd (by simp only[E.den]at hd ⊢;rw[hd];exact .bool .nil)) rfl;rw[Mv ho c.w E7 CR];simp[run_eqGuard_agg c.w _ t x y _ _ hg.2,run_neq_struct,hr]
  ·cases he
 ·cases he
theorem aY(h:A5 P c n nx sl hp a sl0 hp0 o gs){x y:Operand}{cl:Call}(ho:o.op= .call cl){op:BinOp}(AH:(op= .gtr/\cl.callee= .builtin .max)\/(op= .lss/\cl.callee= .builtin .min))(Cs:cl.args.toList=[x,y]){s1 s2:SV}(Bu:Bl sl0 gs x=some s1)(AQ:Bl sl0 gs y=some s2)
  (he:Tq op s1 s2=some e) (hc:∀q∈e.bf,Cn.den c.ρ q):Ap P o c n nx sl hp gs a e:=by
 have Ai:cl.args= #[x,y]:=by apply Array.ext';simp[Cs]
 have Dp:x∈o.op.operands:=by rcases AH with⟨_,hh⟩|⟨_,hh⟩<;>simp[ho,Op.operands,Call.operands,hh,Ai]
 have C3:y∈o.op.operands:=by rcases AH with⟨_,hh⟩|⟨_,hh⟩<;>simp[ho,Op.operands,Call.operands,hh,Ai]
 unfold Tq at he;split at he
 ·rename_i x' y';simp only[Aa]at he;subst he;obtain⟨f1,q1,_⟩:=Gs (h.ca Bu Dp) rfl;obtain⟨f2,q2,_⟩:=Gs (h.ca AQ C3) rfl;have hd:AV.bin op (y'.den c.ρ) (x'.den c.ρ)≠ .undef:=BK hc;cases hx:x'.den c.ρ<;>cases hy:y'.den c.ρ<;>simp only[hx,hy,AV.bin,ne_eq,not_true_eq_false]at hd;rename_i k m k' m';split at hd
  ·rename_i hk;have hk:k'=k:=by rcases hk with hk|hk|hk;exact hk;all_goals (rcases AH with⟨h1,_⟩|⟨h1,_⟩<;>rw[h1]at hk<;>cases hk)
   subst hk;obtain⟨v1,i1⟩:=Fb q1 hx;obtain⟨v2,i2⟩:=Fb q2 hy;rcases AH with⟨rfl,Aq⟩|⟨rfl,Aq⟩
   ·refine Ap.pure h (v:= .int k' (if m'>m then m' else m)) ?_ (.cd ?_) rfl
    ·simp[execOp,ho,resolve,Aq,Ai,invoke,builtin,Builtin.max_,Builtin.max2,v1,v2]
    ·simp only[E.den,hx,hy,AV.bin,true_or,if_true,Cv];by_cases hh:m'>m
     ·simp only[hh,decide_true,AV.cond,if_true];exact .int i2 .nil
     ·simp only[hh,decide_false,AV.cond,if_false];exact .int i1 .nil
   ·refine Ap.pure h (v:= .int k' (if m'<m then m' else m)) ?_ (.cd ?_) rfl
    ·simp[execOp,ho,resolve,Aq,Ai,invoke,builtin,Builtin.min_,Builtin.min2,v1,v2]
    ·simp only[E.den,hx,hy,AV.bin,true_or,if_true,Cv];by_cases hh:m'<m
     ·simp only[hh,decide_true,AV.cond,if_true];exact .int i2 .nil
     ·simp only[hh,decide_false,AV.cond,if_false];exact .int i1 .nil
  ·exact absurd rfl hd
 ·cases he
end
inductive Cd(P:Program)(w:World):List TypeId->List Bool->List Value->List AV->List Nat->List Nat->Prop where
 |nil {fl}:Cd P w [] fl [] [] [] []
 |own {t ts fl el u us y ys top N rf hs}:fl.headD false=true->Cj P t=some el->(BW P el=true/\N=[]\/BW P el=false/\Ds P t=none)->Cy w el (P.cellsOf el) u y top N->Cd P w ts fl.tail us ys rf hs->Cd P w (t::ts) fl (u::us) (y::ys) (N++rf) (top++hs)
 |deep {t ts fl el e z l u us y ys top rf hs}:fl.headD false=true->Cj P t=some el->BW P el=false->Ds P t=some (.row e z l)->DC w [.row e z l] [u] [y] top->Cd P w ts fl.tail us ys rf hs->Cd P w (t::ts) fl (u::us) (y::ys) rf (top++hs)
 |rd {t ts fl u us y ys f rf hs}:(fl.headD false=true->Cj P t=none)->Rd w [u] [y] f->Cd P w ts fl.tail us ys rf hs->Cd P w (t::ts) fl (u::us) (y::ys) (f++rf) hs
def MG(P:Program)(w:World)(t:TypeId)(fl:List Bool)(v:Value)(x:AV)(rf hs:List Nat):Prop:=
 ∃us ys,(if Ah P t then v= .agg us.toArray/\x= .agg ys/\ ∀u∈us,u.oneCell'=true else us=[v]/\ys=[x])/\Cd P w (AW P t) fl us ys rf hs
def Ee(P:Program)(w:World)(t:TypeId)(fl:List Bool)(v:Value)(x:AV)(rf hs:List Nat):Prop:=
 if FJ P t fl then MG P w t fl v x rf hs else Rd w [v] [x] rf/\hs=[]
inductive Is(P:Program)(w:World):List TypeId->List Bool->List Value->List AV->List Nat->List Nat->Prop where
 |nil {fl}:Is P w [] fl [] [] [] []
 |cons {t ts fl v vs x xs f h rf hs}:Ee P w t fl v x f h->Is P w ts (fl.drop (AW P t).length) vs xs rf hs->Is P w (t::ts) fl (v::vs) (x::xs) (f++rf) (h++hs)
theorem Cd.len{P:Program}{w:World}{ts:List TypeId}{fl:List Bool}{us:List Value}{ys:List AV}{rf hs:List Nat}(h:Cd P w ts fl us ys rf hs):us.length=ts.length/\ys.length=ts.length:=by induction h<;>simp_all
theorem Cd.inb{P:Program}{w:World}{ts:List TypeId}{fl:List Bool}{us:List Value}{ys:List AV}{rf hs:List Nat}(h:Cd P w ts fl us ys rf hs):(∀b∈rf,b<w.heap.size)/\ ∀b∈hs,b<w.heap.size:=by
 induction h with
 |nil=>simp
 |deep _ _ _ _ h _ ih=>
  refine⟨ih.1,λb hb=> ?_⟩;rcases Ae.1 hb with hb|hb
  ·exact h.inb b hb
  ·exact ih.2 b hb
 |own _ _ _ h _ ih=>
  refine⟨λb hb=> ?_,λb hb=> ?_⟩
  ·rcases Ae.1 hb with hb|hb
   ·obtain⟨xs,_,_,_,⟨_,_,_,rfl⟩|⟨g,cap,C,_,_,_,_,_,_,_,hr⟩⟩:=h
    ·simp at hb
    ·exact hr.inb b hb
   ·exact ih.1 b hb
  ·rcases Ae.1 hb with hb|hb
   ·obtain⟨xs,_,_,_,⟨_,_,rfl,_⟩|⟨g,cap,C,_,_,_,hh,_,rfl,_⟩⟩:=h
    ·simp at hb
    ·simp at hb;subst hb;exact Dy hh
   ·exact ih.2 b hb
 |rd _ h _ ih=>
  refine⟨λb hb=> ?_,ih.2⟩;rcases Ae.1 hb with hb|hb
  ·exact h.inb b hb
  ·exact ih.1 b hb
structure AD where
 tag:Nat
 new:Option Value
 top:List Nat
 ay:Ab
def AD.pair(r:AD):Nat × Ab:=(r.tag,r.ay)
structure Eo(c c':Cx)(w':World)(recs:List AD):Prop where
 ρ:c'.ρ=c.ρ
 w:c'.w=w'
 G:∀r∈recs,c'.G r.tag=⟨r.top,[]⟩
 new:∀r∈recs,∀hv,r.new=some hv->c'.K r.tag 0/\(∀g,c'.K r.tag g->g<=0)/\c'.H r.tag 0=hv
 K:∀t g,c.K t g->c'.K t g/\c'.H t g=c.H t g
 old:∀t,c.U t-> ∀g,c'.K t g->c.K t g
 gh:∀r∈recs,r.new.isSome=true->c'.E r.tag=0
 eo:∀r∈recs,r.new=none->c'.E r.tag=c.E r.tag+1
theorem Eo.mono{c c':Cx}{w':World}{recs recs':List AD}(h:Eo c c' w' recs)(hs:∀r∈recs',r∈recs):Eo c c' w' recs':=
 ⟨h.ρ,h.w,λr hr=>h.G r (hs r hr),λr hr=>h.new r (hs r hr),h.K,h.old,λr hr=>h.gh r (hs r hr),λr hr=>h.eo r (hs r hr)⟩
section
variable {P:Program} {c:Cx} {w':World}
theorem yJ{c':Cx}{t:Nat}{u:Value}{el sz:Nat}{y:AV}{top N:List Nat}(h:Cy w' el sz u y top N)(hk:c'.K t 0)(hh:c'.H t 0=u):SR c' [.own t 0] [u]:=by
 obtain⟨xs,_,_,_,⟨_,⟨a,rfl⟩,_⟩|⟨g,cap,C,rfl,_⟩⟩:=h
 ·exact .own hk hh .nil
 ·exact .own hk hh .nil
theorem Nf{nx:Nat}{mk:Nat->E}{ts:List TypeId}{fl:List Bool}{us:List Value}{ys:List AV}{rf hs:List Nat}(h:Cd P w' ts fl us ys rf hs):∀(j:Nat),(∀i y,ys[i]?=some y->(mk (j+i)).den c.ρ=y)->
  ∃recs:List AD,(Cz P nx mk j ts fl).2=recs.map AD.pair/\recs.flatMap AD.top=hs/\(∀r∈recs,nx+j<=r.tag/\r.tag<nx+j+ts.length/\r.new.isSome)/\(recs.map AD.tag).Nodup/\(∀r∈recs,r.new=us[r.tag-(nx+j)]?)/\
   ∀c',Eo c c' w' recs->(∀b∈rf,c'.ok b)->SR c' (Cz P nx mk j ts fl).1 us/\ ∀r∈recs,CM c' r.tag r.ay:=by
 induction h with
 |nil=>exact λj _=>⟨[],rfl,rfl,by simp,by simp,by simp,λc' _ _=>⟨.nil,by simp⟩⟩
 | @own t ts fl el u us y ys top N rf hs h1 h2 Oz h3 _ ih=>
  intro j Fj;obtain⟨recs,e1,e2,e3,e4,e4',e5⟩:=ih (j+1) (λi y hy=>by rw[show j+1+i=j+(i+1)from by omega];exact Fj (i+1) y (by simpa using hy));have hy:=Fj 0 y rfl;have VF:Oa P t el 0 0 (mk j)= .row el (P.cellsOf el) 0 (mk j) (BW P el):=by
   unfold Oa;rcases Oz with⟨h,_⟩|⟨h,h'⟩
   ·rw[if_pos h,h]
   ·rw[if_neg (by rw[h];simp),h',h]
  simp only[Cz,h1,h2,VF];refine⟨⟨nx+j,some u,top, .row el (P.cellsOf el) 0 (mk j) (BW P el)⟩::recs,by simp[e1,AD.pair],by simp[e2],λr hr=> ?_,?_,λr hr=> ?_,λc' ha AI=> ?_⟩
  ·rcases Ac.1 hr with rfl|hr
   ·simp
   ·have:=e3 r hr;simp only[AM];exact⟨by omega,by omega,this.2.2⟩
  ·simp only[List.map_cons,List.nodup_cons];refine⟨λhm=> ?_,e4⟩;obtain⟨r,hr,H8⟩:=List.mem_map.1 hm;have:=e3 r hr;omega
  ·rcases Ac.1 hr with rfl|hr
   ·simp
   ·rw[e4' r hr];have:=e3 r hr;rw[show r.tag-(nx+j)=(r.tag-(nx+(j+1)))+1 from by omega,List.getElem?_cons_succ]
  ·obtain⟨q1,q2⟩:=e5 c' (ha.mono λr hr=>by simp[hr]) λb hb=>AI b (by simp[hb]);obtain⟨k1,k2,k3⟩:=ha.new _ (List.mem_cons_self ..) u rfl;have kg:=ha.G _ (List.mem_cons_self ..);simp only at k1 k2 k3 kg;refine⟨(yJ h3 k1 k3).cons q1,λr hr=> ?_⟩;rcases Ac.1 hr with rfl|hr
   ·refine⟨k1,k2,N,?_,λb hb=>AI b (by simp[hb]),λhd=> ?_,λ_=>by rw[kg]⟩
    rotate_left
    ·rcases Oz with⟨_,h⟩|⟨h,_⟩
     ·subst h;exact⟨rfl,by rw[kg]⟩
     ·rw[h]at hd;cases hd
    rw[k3,kg,ha.w,ha.ρ];have Bn:(mk j).den c.ρ=y:=by simpa using hy
    rw[Bn];exact h3
   ·exact q2 r hr
 | @deep t ts fl el e z l u us y ys top rf hs h1 h2 Oy MP h3 _ ih=>
  intro j Fj;obtain⟨recs,e1,e2,e3,e4,e4',e5⟩:=ih (j+1) (λi y hy=>by rw[show j+1+i=j+(i+1)from by omega];exact Fj (i+1) y (by simpa using hy));have hy:=Fj 0 y rfl;have VF:Oa P t el 0 0 (mk j)= .deep e z l.toList 0 0 (mk j):=by unfold Oa;rw[if_neg (by rw[Oy];simp),MP]
  simp only[Cz,h1,h2,VF];refine⟨⟨nx+j,some u,top, .deep e z l.toList 0 0 (mk j)⟩::recs,by simp[e1,AD.pair],by simp[e2],λr hr=> ?_,?_,λr hr=> ?_,λc' ha AI=> ?_⟩
  ·rcases Ac.1 hr with rfl|hr
   ·simp
   ·have:=e3 r hr;simp only[AM];exact⟨by omega,by omega,this.2.2⟩
  ·simp only[List.map_cons,List.nodup_cons];refine⟨λhm=> ?_,e4⟩;obtain⟨r,hr,H8⟩:=List.mem_map.1 hm;have:=e3 r hr;omega
  ·rcases Ac.1 hr with rfl|hr
   ·simp
   ·rw[e4' r hr];have:=e3 r hr;rw[show r.tag-(nx+j)=(r.tag-(nx+(j+1)))+1 from by omega,List.getElem?_cons_succ]
  ·obtain⟨q1,q2⟩:=e5 c' (ha.mono λr hr=>by simp[hr]) AI;obtain⟨k1,k2,k3⟩:=ha.new _ (List.mem_cons_self ..) u rfl;have kg:=ha.G _ (List.mem_cons_self ..);have ke:=ha.gh _ (List.mem_cons_self ..) rfl;simp only at k1 k2 k3 kg ke;obtain⟨p1,p2,p3,rfl⟩:=h3.head;refine⟨(SR.own k1 k3 .nil).cons q1,λr hr=> ?_⟩;rcases Ac.1 hr with rfl|hr
   ·refine⟨k1,k2,ke,?_,by rw[kg]⟩;have Bn:(mk j).den c.ρ=y:=by simpa using hy
    rw[k3,kg,ha.w,ha.ρ,Bn,Ax.cc];exact h3
   ·exact q2 r hr
 | @rd t ts fl u us y ys f rf hs h1 h3 _ ih=>
  intro j Fj;obtain⟨recs,e1,e2,e3,e4,e4',e5⟩:=ih (j+1) (λi y hy=>by rw[show j+1+i=j+(i+1)from by omega];exact Fj (i+1) y (by simpa using hy));have hy:=Fj 0 y rfl;have U8:Cz P nx mk j (t::ts) fl=(.e (mk j)::(Cz P nx mk (j+1) ts fl.tail).1,(Cz P nx mk (j+1) ts fl.tail).2):=by
   simp only[Cz];split
   ·rename_i h8 h9;rw[h1 h8]at h9;cases h9
   ·rfl
  rw[U8];refine⟨recs,e1,e2,λr hr=> ?_,e4,λr hr=> ?_,λc' ha AI=> ?_⟩
  ·have:=e3 r hr;simp only[AM];exact⟨by omega,by omega,this.2.2⟩
  ·rw[e4' r hr];have:=e3 r hr;rw[show r.tag-(nx+j)=(r.tag-(nx+(j+1)))+1 from by omega,List.getElem?_cons_succ]
  ·obtain⟨q1,q2⟩:=e5 c' ha λb hb=>AI b (by simp[hb]);have Bn:(mk j).den c.ρ=y:=by simpa using hy
   exact⟨(SR.e (f:=f) (by rw[ha.w,ha.ρ,Bn];exact h3) (λb hb=>AI b (by simp[hb])) .nil).cons q1,q2⟩
theorem L7{nx:Nat}{mk:Nat->E}:∀(j:Nat) (ts:List TypeId) (fl:List Bool) (t:Nat) (e:Ab) {gs:Gd} {f:Ab},(t,e)∈(Cz P nx mk j ts fl).2->e≠ .gd gs f
 |_,[],_,_,_,_,_,h=>by simp[Cz]at h
 |j,u::ts,fl,t,e,gs,f,h=>by
  unfold Cz at h;split at h
  ·rcases Ac.1 h with h|h
   ·cases h;unfold Oa;split
    ·simp
    ·split<;>simp
   ·exact L7 _ _ _ _ _ h
  ·exact L7 _ _ _ _ _ h
theorem Qu{ρ:List AV}{x:E}{ys:List AV}(hx:x.den ρ= .agg ys):∀i y,ys[i]?=some y->(Dd x true (0+i)).den ρ=y:=by intro i y hy;simp[Dd,E.den,hx,AV.fld,AV.cells,hy]
theorem aA{nx:Nat}{t:TypeId}{fl:List Bool}{x:E}{v:Value}{y:AV}{rf hs:List Nat}(h:Ee P w' t fl v y rf hs)(hx:x.den c.ρ=y):
  ∃recs:List AD,(Mh P nx t fl x).2=recs.map AD.pair/\recs.flatMap AD.top=hs/\(∀r∈recs,nx<=r.tag/\r.tag<nx+(AW P t).length/\r.new.isSome)/\(recs.map AD.tag).Nodup/\
   ∀c',Eo c c' w' recs->(∀b∈rf,c'.ok b)->SR c' [(Mh P nx t fl x).1] [v]/\ ∀r∈recs,CM c' r.tag r.ay:=by
 unfold Ee at h;unfold Mh;split at h
 ·rename_i hf;simp only[hf,if_true];obtain⟨us,ys,hg,hc⟩:=h;split at hg
  ·rename_i As;obtain⟨rfl,rfl,Cl⟩:=hg;obtain⟨recs,e1,e2,e3,e4,_,e5⟩:=Nf (c:=c) (nx:=nx) (mk:=Dd x (Ah P t)) hc 0 (by rw[As];exact Qu hx);refine⟨recs,e1,e2,λr hr=>by have:=e3 r hr;exact⟨by omega,by omega,this.2.2⟩,e4,λc' ha AI=> ?_⟩;obtain⟨q1,q2⟩:=e5 c' ha AI;rw[if_pos As];exact⟨.agg Cl (by rw[Bo.ak];exact q1) .nil,q2⟩
  ·rename_i As;obtain⟨rfl,rfl⟩:=hg;have FO:Ah P t=false:=by simpa using As
   obtain⟨recs,e1,e2,e3,e4,_,e5⟩:=Nf (c:=c) (nx:=nx) (mk:=Dd x (Ah P t)) hc 0 (by
    intro i z hz;cases i with
    |zero=>simp at hz;subst hz;simp[Dd,FO,hx]
    |succ i=>simp at hz)
   refine⟨recs,e1,e2,λr hr=>by have:=e3 r hr;exact⟨by omega,by omega,this.2.2⟩,e4,λc' ha AI=> ?_⟩;obtain⟨q1,q2⟩:=e5 c' ha AI;refine⟨?_,q2⟩;rw[if_neg As];have hl:=q1.len;generalize (Cz P nx (Dd x (Ah P t)) 0 (AW P t) fl).1=l at q1 hl
   match l,hl with
   | [s],_=>exact q1
 ·rename_i hf;simp only[hf,if_false,B0];obtain⟨h1,rfl⟩:=h;exact⟨[],rfl,rfl,by simp,by simp,λc' ha AI=>⟨.e (f:=rf) (by rw[ha.w,ha.ρ,hx];exact h1) AI .nil,by simp⟩⟩
theorem oP{ts:List TypeId}{fl:List Bool}{x:E}{vs:List Value}{ys:List AV}{rf hs:List Nat}(h:Is P w' ts fl vs ys rf hs):∀(nx i:Nat),(∀k y,ys[k]?=some y->(E.proj x (i+k)).den c.ρ=y)->
  ∃recs:List AD,(KL P nx ts fl x i).2=recs.map AD.pair/\recs.flatMap AD.top=hs/\(∀r∈recs,nx<=r.tag/\r.tag<nx+(ts.flatMap (AW P)).length/\r.new.isSome)/\(recs.map AD.tag).Nodup/\
   ∀c',Eo c c' w' recs->(∀b∈rf,c'.ok b)->SR c' (KL P nx ts fl x i).1 vs/\ ∀r∈recs,CM c' r.tag r.ay:=by
 induction h with
 |nil=>exact λnx i _=>⟨[],rfl,rfl,by simp,by simp,λc' _ _=>⟨.nil,by simp⟩⟩
 | @cons t ts fl v vs y ys f h rf hs h1 _ ih=>
  intro nx i hx;obtain⟨r1,a1,a2,a3,a4,a5⟩:=aA (c:=c) (nx:=nx) (x:= .proj x i) h1 (hx 0 y rfl);obtain⟨r2,b1,b2,b3,b4,b5⟩:=ih (nx+(AW P t).length) (i+1) (λk z hz=>by rw[show i+1+k=i+(k+1)from by omega];exact hx (k+1) z (by simpa using hz));simp only[KL];refine⟨r1++r2,by simp[a1,b1],by simp[a2,b2],λr hr=> ?_,?_,λc' ha AI=> ?_⟩
  ·simp only[List.flatMap_cons,AO];rcases Ae.1 hr with hr|hr
   ·have:=a3 r hr;exact⟨this.1,by omega,this.2.2⟩
   ·have:=b3 r hr;exact⟨by omega,by omega,this.2.2⟩
  ·rw[List.map_append,List.nodup_append];refine⟨a4,b4,λt1 Pw t2 Px he=> ?_⟩;obtain⟨q1,H7,rfl⟩:=List.mem_map.1 Pw;obtain⟨q2,Hj,rfl⟩:=List.mem_map.1 Px;have:=a3 q1 H7;have:=b3 q2 Hj;omega
  ·obtain⟨p1,p2⟩:=a5 c' (ha.mono λr hr=>by simp[hr]) λb hb=>AI b (by simp[hb]);obtain⟨q1,q2⟩:=b5 c' (ha.mono λr hr=>by simp[hr]) λb hb=>AI b (by simp[hb]);refine⟨p1.cons q1,λr hr=> ?_⟩;rcases Ae.1 hr with hr|hr
   ·exact p2 r hr
   ·exact q2 r hr
end
theorem Qy{α:Type}{f:α->List Nat}:∀{l:List α},(l.flatMap f).Nodup->(∀a∈l,(f a).Nodup)/\ ∀(i j:Nat) (a b:α) (x:Nat),l[i]?=some a->l[j]?=some b->x∈f a->x∈f b->i=j
 | [],_=>⟨by simp,by simp⟩
 |a::l,h=>by
  rw[List.flatMap_cons,List.nodup_append]at h;obtain⟨h1,h2,h3⟩:=h;obtain⟨k1,k2⟩:=Qy h2;refine⟨λb hb=> ?_,λi j p q x hi hj hp hq=> ?_⟩
  ·rcases Ac.1 hb with rfl|hb
   ·exact h1
   ·exact k1 b hb
  ·cases i with
   |zero=>
    cases j with
    |zero=>rfl
    |succ j=>simp at hi hj;subst hi;exact absurd rfl (h3 x hp x (List.mem_flatMap.2 ⟨q,List.mem_of_getElem? hj,hq⟩))
   |succ i=>
    cases j with
    |zero=>simp at hi hj;subst hj;exact absurd rfl (h3 x hq x (List.mem_flatMap.2 ⟨p,List.mem_of_getElem? hi,hp⟩))
    |succ j=>rw[k2 i j p q x (by simpa using hi) (by simpa using hj) hp hq]
theorem Nw{recs:List AD}(hn:(recs.map AD.tag).Nodup){r:AD}(hr:r∈recs)(p:AD->Bool)(hp:p r=true)(DG:∀q,p q=true->q.tag=r.tag):recs.find? p=some r:=by
 induction recs with
 |nil=>simp at hr
 |cons q recs ih=>
  simp only[List.map_cons,List.nodup_cons]at hn;rw[List.find?_cons];rcases Ac.1 hr with rfl|hr
  ·simp[hp]
  ·have:p q=false:=by
    cases hq:p q with
    |false=>rfl
    |true=>exact absurd (List.mem_map.2 ⟨r,hr,(DG q hq).symm⟩) hn.1
   rw[this];exact ih hn.2 hr
def Cx.cy(c:Cx)(w':World)(recs:List AD):Cx:=
 {c with w:=w',G:=λt=>(match recs.find? (λr=>r.tag==t)with|some r=>⟨r.top,[]⟩|none=>c.G t),K:=λt g=>c.K t g\/ ∃r∈recs,r.tag=t/\r.new.isSome=true/\g=0,H:=λt g=>(match recs.find? (λr=>r.tag==t&&r.new.isSome)with|some r=>r.new.getD undef|none=>c.H t g),U:=λt=>c.U t\/ ∃r∈recs,r.tag=t,E:=λt=>match recs.find? (λr=>r.tag==t)with|some r=>if r.new.isSome then 0 else c.E t+1|none=>c.E t}
section
variable {P:Program} {c:Cx} {n:Nat} {sl:Nat->SV} {hp:Nat->Option Ab} {a:Act} {w':World} {recs:List AD}
theorem Cx.c7(hn:(recs.map AD.tag).Nodup){r:AD}(hr:r∈recs):(c.cy w' recs).G r.tag=⟨r.top,[]⟩:=by simp only[Cx.cy];rw[Nw hn hr (λq=>q.tag==r.tag) (by simp) (λq hq=>by simpa using hq)]
theorem Cx.cj{t:Nat}(ht:∀r∈recs,r.tag≠t):(c.cy w' recs).G t=c.G t:=by
 simp only[Cx.cy];have:recs.find? (λr=>r.tag==t)=none:=by rw[List.find?_eq_none];intro r hr;simpa using ht r hr
 rw[this]
theorem Cx.cw(hU:∀t g,c.K t g->c.U t)(hn:(recs.map AD.tag).Nodup)(AP:∀r∈recs,r.new.isSome=true-> ¬c.U r.tag):Eo c (c.cy w' recs) w' recs:=by
 refine⟨rfl,rfl,λr hr=>Cx.c7 hn hr,λr hr hv RR=>⟨.inr ⟨r,hr,rfl,by simp[RR],rfl⟩,λg hg=> ?_,?_⟩,λt g hk=>⟨.inl hk,?_⟩,λt ht g hk=> ?_,λr hr hs=> ?_,λr hr hs=> ?_⟩
 ·rcases hg with hg|⟨_,_,_,_,rfl⟩
  ·exact absurd (hU _ _ hg) (AP r hr (by simp[RR]))
  ·exact Ar _
 ·simp only[Cx.cy];rw[Nw hn hr (λq=>q.tag==r.tag&&q.new.isSome) (by simp[RR]) (λq hq=>by simp only[Ad,AB]at hq;exact hq.1)];simp[RR]
 ·simp only[Cx.cy];have:recs.find? (λr=>r.tag==t&&r.new.isSome)=none:=by
   rw[List.find?_eq_none];rintro r hr hh;simp only[Ad,AB]at hh;exact AP r hr hh.2 (hh.1▸hU t g hk)
  rw[this]
 ·rcases hk with hk|⟨r,hr,rfl,hh,_⟩
  ·exact hk
  ·exact absurd ht (AP r hr hh)
 ·simp only[Cx.cy];rw[Nw hn hr (λq=>q.tag==r.tag) (by simp) (λq hq=>by simpa using hq)];simp[hs]
 ·simp only[Cx.cy];rw[Nw hn hr (λq=>q.tag==r.tag) (by simp) (λq hq=>by simpa using hq)];simp[hs]
theorem Cx.gp{t:Nat}(ht:∀r∈recs,r.tag≠t):(c.cy w' recs).E t=c.E t:=by
 simp only[Cx.cy];have:recs.find? (λr=>r.tag==t)=none:=by rw[List.find?_eq_none];intro r hr;simpa using ht r hr
 rw[this]
theorem Rel.changes(h:Rel c n sl hp a){hs:List Nat}{gs:Gd}(k:A4 c.ρ gs)(B4:Mod hs c.w w')(hn:(recs.map AD.tag).Nodup)(AP:∀r∈recs,r.new.isSome=true-> ¬c.U r.tag)
  (FW:∀b∈hs,∃r∈recs,b∈(c.G r.tag).top) (Ea:(recs.flatMap AD.top).Nodup) (B8:∀r∈recs,∀b∈r.top,(b∈hs\/c.w.heap.size<=b)/\b<w'.heap.size)
  (BM:∀r∈recs,∀hs f,r.ay≠ .gd hs f) (Be:Dj c (c.cy w' recs)-> ∀r∈recs,CM (c.cy w' recs) r.tag r.ay):
  Rel (c.cy w' recs) n sl (AZ hp (recs.map λr=>(r.tag,Cq gs r.ay))) a/\Dj c (c.cy w' recs):=by
 have aft:=Cx.cw (w':=w') h.az hn AP;have ZF:∀b∈hs,c.M b:=λb hb=>by obtain⟨r,_,hr⟩:=FW b hb;exact⟨_,hr⟩
 have Bf:∀b∈hs,c.B<=b\/c.Mu b:=λb hb=>by obtain⟨r,_,hr⟩:=FW b hb;exact h.gw.allow r.tag b (by simp[GI.own,hr])
 have BL:Dj c (c.cy w' recs):=by
  refine⟨rfl,rfl,λb hb AI=>⟨λ⟨t,ht⟩=> ?_,AI.2⟩,λb hb AI=>B4.block b hb λhh=>AI.1 (ZF b hh),aft.K,λt g hk=> ?_⟩;by_cases hT:∃r∈recs,r.tag=t
  ·obtain⟨r,hr,rfl⟩:=hT;rw[Cx.c7 hn hr]at ht;rcases(B8 r hr b ht).1 with hh|hh
   ·exact AI.1 (ZF b hh)
   ·omega
  ·rw[Cx.cj λr hr hh=>hT ⟨r,hr,hh⟩]at ht;exact AI.1 ⟨t,ht⟩
  ·by_cases hT:∃r∈recs,r.tag=t
   ·obtain⟨r,hr,rfl⟩:=hT;have Du:r.new=none:=by
     cases hh:r.new with
     |none=>rfl
     |some v=>exact absurd (h.az _ _ hk) (AP r hr (by simp[hh]))
    rw[aft.eo r hr Du];exact⟨by omega,λh=>by omega⟩
   ·have Zc:∀r∈recs,r.tag≠t:=λr hr hh=>hT ⟨r,hr,hh⟩;rw[Cx.gp Zc,Cx.cj Zc];refine⟨Ar _,λ_=>⟨rfl,λb hb Gg=>B4.block b Gg λhh=> ?_⟩⟩;obtain⟨r,hr,Ll⟩:=FW b hh;exact h.gw.br t r.tag (λhh=>hT ⟨r,hr,hh.symm⟩) b (by simp[GI.own,hb]) (by simp[GI.own,Ll])
 have Be:=Be BL;have Ie:∀r∈recs,∀e',(r.tag,e')∈(recs.map λr=>(r.tag,Cq gs r.ay))->e'=Cq gs r.ay:=by
  intro r hr e' Eh;obtain⟨q,hq,IH⟩:=List.mem_map.1 Eh;simp only[AG]at IH;obtain⟨h1,rfl⟩:=IH;have e1:=Cx.c7 (c:=c) (w':=w') hn hr;have:q=r:=by have f1:=Nw hn hr (λq=>q.tag==r.tag) (by simp) (λq hq=>by simpa using hq);have f2:=Nw hn hq (λp=>p.tag==r.tag) (by simp[h1]) (λp hp=>by rw[h1];simpa using hp);rw[f1]at f2;cases f2;rfl
  rw[this]
 refine⟨h.change (λt=> ∃r∈recs,r.tag=t) BL ⟨B4.os.trans h.base.os,B4.tape.trans h.base.tape,B4.output.trans h.base.output,Nat.le_trans h.base.size B4.size,λt v MW=>⟨.inl (h.base.pins t v MW).1,λhk=> ?_⟩,λb hb Fk=> ?_,h.base.pk,h.base.lo⟩
  (λt ht=>⟨JG λe he=> ?_,Cx.cj λr hr hh=>ht ⟨r,hr,hh⟩,Cx.gp λr hr hh=>ht ⟨r,hr,hh⟩,λg hg=> ?_⟩) (λt ht b hb=>B4.block b (h.gw.inb t b (by simp[GI.own,hb])) λhh=> ?_) (λt ht=> ?_) ⟨λt=> ?_,λt u KA b hb BF=> ?_,λt b hb=> ?_,λt b hb=> ?_⟩ (λt g hk=> ?_) (λt e he=> ?_),BL⟩
 ·have BV:=aft.old t (h.base.pins t v MW).1 0 hk;rw[(aft.K t 0 BV).2];exact(h.base.pins t v MW).2 BV
 ·refine(B4.block b (Nat.lt_of_lt_of_le hb h.base.size) λhh=> ?_).trans (h.base.block b hb Fk);rcases Bf b hh with h1|h1
  ·exact absurd h1 (Nat.not_le.2 hb)
  ·exact Fk h1
 ·obtain⟨q,hq,IH⟩:=List.mem_map.1 he;simp only[AG]at IH;exact ht ⟨q,hq,IH.1⟩
 ·rcases hg with hg|⟨r,hr,H8,_⟩
  ·exact hg
  ·exact absurd ⟨r,hr,H8⟩ ht
 ·obtain⟨r,hr,Gg⟩:=FW b hh;exact h.gw.br t r.tag (λhh=>ht ⟨r,hr,hh.symm⟩) b (by simp[GI.own,hb]) (by simp[GI.own,Gg])
 ·obtain⟨r,hr,rfl⟩:=ht;have Dr:=X6 (hp:=hp) (l:=recs.map λr=>(r.tag,Cq gs r.ay)) (List.mem_map.2 ⟨r,hr,rfl⟩) (Ie r hr);rw[Dr];refine⟨λe' Pr=> ?_,λDu=> ?_⟩
  ·rw[(NG k (BM r hr)).1 Pr];exact Be r hr
  ·exact absurd ((NG k (BM r hr)).2 rfl) (Du r.ay)
 ·by_cases hT:∃r∈recs,r.tag=t
  ·obtain⟨r,hr,rfl⟩:=hT;rw[Cx.c7 hn hr];simpa[GI.own]using(Qy Ea).1 r hr
  ·rw[Cx.cj λr hr hh=>hT ⟨r,hr,hh⟩];exact h.gw.nodup t
 ·by_cases hT:∃r∈recs,r.tag=t
  ·obtain⟨r,hr,rfl⟩:=hT;rw[Cx.c7 hn hr]at hb;simp only[GI.own,AE]at hb;by_cases hV:∃r∈recs,r.tag=u
   ·obtain⟨q,hq,rfl⟩:=hV;rw[Cx.c7 hn hq]at BF;simp only[GI.own,AE]at BF;obtain⟨i,hi⟩:=List.getElem?_of_mem hr;obtain⟨j,hj⟩:=List.getElem?_of_mem hq;have:=(Qy Ea).2 i j r q b hi hj hb BF;subst this;rw[hi]at hj;cases hj;exact KA rfl
   ·rw[Cx.cj λr hr hh=>hV ⟨r,hr,hh⟩]at BF;rcases(B8 r hr b hb).1 with hh|hh
    ·obtain⟨q,hq,jR⟩:=FW b hh;exact h.gw.br q.tag u (λhh=>hV ⟨q,hq,hh⟩) b (by simp[GI.own,jR]) BF
    ·have:=h.gw.inb u b BF;omega
  ·rw[Cx.cj λr hr hh=>hT ⟨r,hr,hh⟩]at hb;by_cases hV:∃r∈recs,r.tag=u
   ·obtain⟨q,hq,rfl⟩:=hV;rw[Cx.c7 hn hq]at BF;simp only[GI.own,AE]at BF;rcases(B8 q hq b BF).1 with hh|hh
    ·obtain⟨r,hr,RA⟩:=FW b hh;exact h.gw.br r.tag t (λhh=>hT ⟨r,hr,hh⟩) b (by simp[GI.own,RA]) hb
    ·have:=h.gw.inb t b hb;omega
   ·rw[Cx.cj λr hr hh=>hV ⟨r,hr,hh⟩]at BF;exact h.gw.br t u KA b hb BF
 ·by_cases hT:∃r∈recs,r.tag=t
  ·obtain⟨r,hr,rfl⟩:=hT;rw[Cx.c7 hn hr]at hb;simp only[GI.own,AE]at hb;rcases(B8 r hr b hb).1 with hh|hh
   ·exact Bf b hh
   ·exact .inl (Nat.le_trans h.base.size hh)
  ·rw[Cx.cj λr hr hh=>hT ⟨r,hr,hh⟩]at hb;exact h.gw.allow t b hb
 ·by_cases hT:∃r∈recs,r.tag=t
  ·obtain⟨r,hr,rfl⟩:=hT;rw[Cx.c7 hn hr]at hb;simp only[GI.own,AE]at hb;exact(B8 r hr b hb).2
  ·rw[Cx.cj λr hr hh=>hT ⟨r,hr,hh⟩]at hb;exact Nat.lt_of_lt_of_le (h.gw.inb t b hb) B4.size
 ·rcases hk with hk|⟨r,hr,H8,_⟩
  ·exact .inl (h.az t g hk)
  ·exact .inr ⟨r,hr,H8⟩
 ·by_cases hT:∃r∈recs,r.tag=t
  ·exact .inr hT
  ·rw[JG]at he
   ·exact .inl (h.b8 t e he)
   ·intro e' Eh;obtain⟨q,hq,IH⟩:=List.mem_map.1 Eh;simp only[AG]at IH;exact hT ⟨q,hq,IH.1⟩
end
def YX(P:Program)(w:World)(t:TypeId):PM->Value->AV->List Nat->List Nat->Prop
 | .ro,v,x,rf,hs=>Rd w [v] [x] rf/\hs=[]
 | .va own,v,x,rf,hs=>MG P w t own v x rf hs
 | .mu own,v,x,rf,hs=>MG P w t own v x rf hs
 | .bx own _,v,x,rf,hs=> ∃(ty:TypeId) (b:Nat) (C:Array Value) (ys:List AV) (h:List Nat),I5 P t=some ty/\v= .pointer (some ⟨b,0,none⟩)/\w.heap[b]?=some (.cells C ty (0,0))/\(∀u∈C.toList,u.oneCell'=true)/\x= .ref (.agg ys)/\
   Cd P w (AW P ty) own C.toList ys rf h/\hs=b::h
inductive Db(P:Program)(w:World):List TypeId->List PM->List Bool->List Value->List AV->List Nat->List Nat->List Nat->Prop where
 |nil {ms lo}:Db P w [] ms lo [] [] [] [] []
 |cons {t ts ms lo v vs x xs f h rf lf hs}:YX P w t (ms.headD .ro) v x f h->Db P w ts ms.tail lo.tail vs xs rf lf hs->Db P w (t::ts) ms lo (v::vs) (x::xs) (f++rf) lf (h++hs)
 |lent {t ts ms lo v vs x xs f rf lf hs}:lo.headD false=true->ms.headD .ro= .ro->Rd w [v] [x] f->Db P w ts ms.tail lo.tail vs xs rf lf hs->Db P w (t::ts) ms lo (v::vs) (x::xs) rf (f++lf) hs
 |free {ms lo v vs x xs f rf lf hs}:Rd w [v] [x] f->Db P w [] ms.tail lo.tail vs xs rf lf hs->Db P w [] ms lo (v::vs) (x::xs) (f++rf) lf hs
inductive FK(P:Program)(c:Cx):List TypeId->List Bool->List Value->List (Option RI)->Prop where
 |nil {fl}:FK P c [] fl [] []
 |row {t ts fl v vs u g el rs}:fl.headD false=true->Cj P t=some el->(BW P el=true\/Ds P t=none)->c.K u g->c.H u g=v->(∀g',c.K u g'->g'<=g)->FK P c ts fl.tail vs rs->FK P c (t::ts) fl (v::vs) (some (.fl u g el (P.cellsOf el) (BW P el))::rs)
 |deep {t ts fl v vs u g el e z l ep rs}:fl.headD false=true->Cj P t=some el->BW P el=false->Ds P t=some (.row e z (Ax.of l))->c.K u g->c.H u g=v->(∀g',c.K u g'->g'<=g)->c.E u=ep->FK P c ts fl.tail vs rs->FK P c (t::ts) fl (v::vs) (some (.dp u g e z l ep)::rs)
 |none {t ts fl v vs rs}:(fl.headD false=true->Cj P t=none\/ ∃a,v= .slice a 0 0)->FK P c ts fl.tail vs rs->FK P c (t::ts) fl (v::vs) (none::rs)
inductive Hr(P:Program)(c:Cx):List TypeId->List PM->List Value->List PA->Prop where
 |nil {ts ms}:Hr P c ts ms [] []
 |ro {ts ms v vs bs}:ms.headD .ro= .ro->Hr P c ts.tail ms.tail vs bs->Hr P c ts ms (v::vs) bs
 |va {ts ms own v vs bs us}:ms.headD .ro= .va own->(∀u∈us,c.U u)->Hr P c ts.tail ms.tail vs bs->Hr P c ts ms (v::vs) (.va us::bs)
 |mu {t ts ms own v vs bs us rs}:ms.headD .ro= .mu own->(if Ah P t then v= .agg us.toArray else us=[v])->FK P c (AW P t) own us rs->Hr P c ts ms.tail vs bs->Hr P c (t::ts) ms (v::vs) (.mu rs (Ah P t)::bs)
 |bx {t ts ms own own' ty v vs bs T b g olds}:ms.headD .ro= .bx own own'->I5 P t=some ty->v= .pointer (some ⟨b,0,none⟩)->c.K T 0->c.H T 0=v->(∀u∈olds,c.U u)->Hr P c ts ms.tail vs bs->Hr P c (t::ts) ms (v::vs) (.box T g own' ty olds::bs)
section
variable {P:Program} {c:Cx} {hp:Nat->Option Ab} {gs:Gd}
theorem QF{t el:TypeId}{d:DT}(A6:Cj P t=some el)(h:Ds P t=some d):P.cellsOf el≠0/\(AW P el).length=P.cellsOf el/\ ∃l:List DT,d= .row el (P.cellsOf el) (Ax.of l)/\l.length=P.cellsOf el:=by
 have hu:=Hq A6;unfold Ds at h;split at h
 ·cases h
 simp only[Uq,hu]at h;split at h
 ·cases h
 ·rename_i hh;simp only[not_or,Decidable.not_not,ne_eq]at hh;obtain⟨l,hl,rfl⟩:=Aj.1 h;exact⟨hh.1,hh.2,l,rfl,by rw[mapM_len _ _ hl];exact hh.2⟩
where
 mapM_len {α β:Type} {f:α->Option β}:∀(l:List α) (l':List β),l.mapM f=some l'->l'.length=l.length
  | [],l',h=>by simp at h;subst h;rfl
  |a::l,l',h=>by simp only[List.mapM_cons,Option.bind_eq_bind,Ak,Option.pure_def,Aa]at h;obtain⟨b,_,bs,Lm,rfl⟩:=h;simp[mapM_len l bs Lm]
theorem Cd.void{w:World}{t el:TypeId}{ts:List TypeId}{fl:List Bool}{a:Option Addr}{us:List Value}{ys:List AV}{rf hs:List Nat}(h1:fl.headD false=true)(h2:Cj P t=some el)(hz:P.cellsOf el≠0)(h:Cd P w ts fl.tail us ys rf hs):Cd P w (t::ts) fl (.slice a 0 0::us) (.sl []::ys) rf ([]++hs):=by
 have Bf:Cy w el (P.cellsOf el) (.slice a 0 0) (.sl []) [] []:=⟨[],rfl,by simp,by omega, .inl ⟨rfl,⟨a,rfl⟩,rfl,rfl⟩⟩
 cases hf:BW P el with
 |true=>exact .own h1 h2 (.inl ⟨hf,rfl⟩) Bf h
 |false=>
  cases hd:Ds P t with
  |none=>exact .own h1 h2 (.inr ⟨hf,hd⟩) Bf h
  |some d=>obtain⟨_,_,l,rfl,hl⟩:=QF h2 hd;exact .deep h1 h2 hf hd (.void (by omega) (by rw[Ax.ak];exact hl) .nil) h
theorem bD{as_ bs:List Value}(h:Value.agg as_.toArray= .agg bs.toArray):as_=bs:=by
 have h1:as_.toArray=bs.toArray:=by injection h
 have:=congrArg Array.toList h1;simpa using this
theorem WJ(eh:EH c hp)(k:A4 c.ρ gs)(hU:∀t g,c.K t g->c.U t):∀(ts:List TypeId) {cs:List SV} {fl:List Bool} {rs:List (Option RI)} {us:List Nat} {vs:List Value} {xs:EL} {m:Nat},F4 P hp gs ts cs fl=some (rs,us)->SR c cs vs->Cf hp gs m cs=some xs->m<=AN->
  ∃rf hs,Cd P c.w ts fl vs (xs.den c.ρ) rf hs/\(∀b∈rf,c.de us b)/\hs=(Cm rs).flatMap (λt=>(c.G t).top)/\FK P c ts fl vs rs/\ ∀u∈Cm rs,c.U u
 | [],[],fl,rs,us,vs,xs,m,h,hs,hx,hm=>by
  simp[F4]at h;obtain⟨rfl,rfl⟩:=h;cases hs;cases m with
  |zero=>simp[Cf]at hx
  |succ m=>simp[Cf]at hx;subst hx;exact⟨[],[], .nil,by simp,by simp[Cm], .nil,by simp[Cm]⟩
 | [],s::cs,fl,rs,us,vs,xs,m,h,hs,hx,hm=>by simp[F4]at h
 |t::ts,[],fl,rs,us,vs,xs,m,h,hs,hx,hm=>by simp[F4]at h
 |t::ts,s::cs,fl,rs,us,[],xs,m,h,hs,hx,hm=>by have:=hs.len;simp at this
 |t::ts,s::cs,fl,rs,us,v::vs,xs,m,h,hs,hx,hm=>by
  obtain⟨j,y,ys,rfl,hy,CI,rfl⟩:=IT hx;obtain⟨r1,r2⟩:=hs.bd;unfold F4 at h;split at h
  ·cases h
  rename_i rs' us' CH;obtain⟨rf,A1,q1,q2,q3,q4,q5⟩:=WJ eh k hU ts CH r2 CI (by omega);split at h
  ·rename_i hf;split at h
   ·rename_i r hr;simp only[Aa,AG]at h;obtain⟨rfl,rfl⟩:=h;unfold XN at hr;split at hr
    ·cases hr
    rename_i el A6;split at hr
    ·cases hr
    rename_i hz;have empt:∀a,v= .slice a 0 0->y.den c.ρ= .sl []->r=none-> ∃rf hs,Cd P c.w (t::ts) fl (v::vs) ((EL.cons y ys).den c.ρ) rf hs/\(∀b∈rf,c.de us' b)/\hs=(Cm (r::rs')).flatMap (λt=>(c.G t).top)/\FK P c (t::ts) fl (v::vs) (r::rs')/\ ∀u∈Cm (r::rs'),c.U u:=by rintro a rfl Gp rfl;refine⟨rf,[]++A1,?_,q2,by simpa[Cm]using q3, .none (λ_=> .inr ⟨a,rfl⟩) q4,by simpa[Cm]using q5⟩;rw[EL.den,Gp];exact Cd.void hf A6 (by omega) q1
    split at hr
    ·simp only[Aa]at hr;subst hr;cases r1 with
     |bc _=>exact empt _ rfl (by rw[JD hy];rfl) rfl
    ·simp only[Aa]at hr;subst hr;cases r1 with
     |emp _=>
      refine empt _ rfl ?_ rfl;cases j with
      |zero=>simp[Ba]at hy
      |succ j=>simp[Ba]at hy;subst hy;rfl
    ·rename_i u g;split at hr
     ·rename_i e z g' x d hl;split at hr
      ·rename_i hh;obtain⟨rfl,rfl,rfl,FT⟩:=hh;simp only[Aa]at hr;subst hr;obtain⟨p1,p2,N,p3,p4,p5,_⟩:=eh u _ (Ci hl k);have Lu:BW P e=true\/Ds P t=none:=FT.imp (·.1) (by rintro⟨_,h⟩;simpa using h);have FT:BW P e=true/\N=[]\/BW P e=false/\Ds P t=none:=by
        rcases FT with⟨h1,h2⟩|⟨h1,h2⟩
        ·exact .inl ⟨h1,(p5 h2).1⟩
        ·exact .inr ⟨h1,by simpa using h2⟩
       have F1:y=x:=by
        cases j with
        |zero=>simp[Ba]at hy
        |succ j=>simp[Ba,G4,hl]at hy;exact hy.symm
       subst F1;have hv:c.H u g=v:=by
        cases r1 with
        |own _ k2 _=>exact k2
       rw[hv]at p3;refine⟨N++rf,(c.G u).top++A1,Cd.own hf A6 FT p3 q1,λb hb=> ?_,by simp[Cm,RI.tag,q3], .row hf A6 Lu p1 hv p2 q4,λw hw=> ?_⟩
       ·rcases Ae.1 hb with hb|hb
        ·exact .inl (p4 b hb)
        ·exact q2 b hb
       simp only[Cm,List.filterMap_cons,Option.map_some,RI.tag,Ac]at hw;rcases hw with rfl|hw
       ·exact hU _ _ p1
       ·exact q5 w hw
      ·cases hr
     ·rename_i e z l g' ep x hl;split at hr
      ·rename_i hh;obtain⟨rfl,Fo,CZ⟩:=hh;have CZ:=Tl CZ;simp only[Aa]at hr;subst hr;obtain⟨p1,p2,pE,p3,_⟩:=eh u _ (Ci hl k);have F1:y=x:=by
        cases j with
        |zero=>simp[Ba]at hy
        |succ j=>simp[Ba,G4,hl]at hy;exact hy.symm
       subst F1;have hv:c.H u g=v:=by
        cases r1 with
        |own _ k2 _=>exact k2
       rw[hv]at p3;refine⟨rf,(c.G u).top++A1,Cd.deep hf A6 Fo CZ p3 q1,q2,by simp[Cm,RI.tag,q3], .deep hf A6 Fo CZ p1 hv p2 pE q4,λw hw=> ?_⟩;simp only[Cm,List.filterMap_cons,Option.map_some,RI.tag,Ac]at hw;rcases hw with rfl|hw
       ·exact hU _ _ p1
       ·exact q5 w hw
      ·cases hr
     ·cases hr
    ·cases hr
   ·cases h
  ·rename_i hf;simp only[Aa,AG]at h;obtain⟨rfl,rfl⟩:=h;obtain⟨f,p1,p2⟩:=Gx eh k j hy r1 AN (by omega);refine⟨f++rf,A1,Cd.rd (λhh=>absurd hh hf) p1 q1,λb hb=> ?_,by simpa[Cm]using q3, .none (λhh=>absurd hh hf) q4,by simpa[Cm]using q5⟩;rcases Ae.1 hb with hb|hb
   ·exact(p2 b hb).mono λt ht=>by simp[ht]
   ·exact(q2 b hb).mono λt ht=>by simp[ht]
theorem bB(eh:EH c hp)(k:A4 c.ρ gs)(hU:∀t g,c.K t g->c.U t){t:TypeId}{s:SV}{v:Value}{fl:List Bool}{rs:List (Option RI)}{us:List Nat}{x:E}(hs:SR c [s] [v])(hx:Ba hp gs AN s=some x)(hg:(Gw s).2=Ah P t)
  (h:F4 P hp gs (AW P t) (Gw s).1 fl=some (rs,us)):
  ∃rf hs,MG P c.w t fl v (x.den c.ρ) rf hs/\(∀b∈rf,c.de us b)/\hs=(Cm rs).flatMap (λt=>(c.G t).top)/\(∃vs',(if Ah P t then v= .agg vs'.toArray else vs'=[v])/\FK P c (AW P t) fl vs' rs)/\ ∀u∈Cm rs,c.U u:=by
 have single:∀(s:SV),SR c [s] [v]->Ba hp gs AN s=some x->Ah P t=false->F4 P hp gs (AW P t) [s] fl=some (rs,us)-> ∃rf hs,MG P c.w t fl v (x.den c.ρ) rf hs/\(∀b∈rf,c.de us b)/\hs=(Cm rs).flatMap (λt=>(c.G t).top)/\(∃vs',(if Ah P t then v= .agg vs'.toArray else vs'=[v])/\FK P c (AW P t) fl vs' rs)/\ ∀u∈Cm rs,c.U u:=by
  intro s hs hx As h;obtain⟨t0,Kz⟩:∃t0,AW P t=[t0]:=by
   cases hh:AW P t with
   |nil=>rw[hh]at h;simp[F4]at h
   |cons t0 l=>
    cases l with
    |nil=>exact⟨t0,rfl⟩
    |cons t1 l=>rw[hh]at h;simp[F4]at h
  rw[Kz]at h;have key:∃rf hs,Cd P c.w [t0] fl [v] [x.den c.ρ] rf hs/\(∀b∈rf,c.de us b)/\hs=(Cm rs).flatMap (λt=>(c.G t).top)/\FK P c [t0] fl [v] rs/\ ∀u∈Cm rs,c.U u:=by
   unfold F4 at h;simp only[F4]at h;split at h
   ·rename_i hf;split at h
    ·rename_i r hr;simp only[Aa,AG]at h;obtain⟨rfl,rfl⟩:=h;unfold XN at hr;split at hr
     ·cases hr
     rename_i el A6;split at hr
     ·cases hr
     rename_i hz;have empt:∀a,v= .slice a 0 0->x.den c.ρ= .sl []->r=none-> ∃rf hs,Cd P c.w [t0] fl [v] [x.den c.ρ] rf hs/\(∀b∈rf,c.de ([]:List Nat) b)/\hs=(Cm [r]).flatMap (λt=>(c.G t).top)/\FK P c [t0] fl [v] [r]/\ ∀u∈Cm [r],c.U u:=by rintro a rfl Gp rfl;refine⟨[],[]++ [],?_,by simp,by simp[Cm], .none (λ_=> .inr ⟨a,rfl⟩) .nil,by simp[Cm]⟩;rw[Gp];exact Cd.void hf A6 (by omega) .nil
     split at hr
     ·simp only[Aa]at hr;subst hr;cases hs with
      |bc _=>exact empt _ rfl (by rw[JD hx];rfl) rfl
     ·simp only[Aa]at hr;subst hr;cases hs with
      |emp _=>refine empt _ rfl ?_ rfl;simp[AN,Ba]at hx;subst hx;rfl
     ·rename_i u g;split at hr
      ·rename_i e z g' x0 d hl;split at hr
       ·rename_i hh;obtain⟨rfl,rfl,rfl,FT⟩:=hh;simp only[Aa]at hr;subst hr;obtain⟨p1,p2,N,p3,p4,p5,_⟩:=eh u _ (Ci hl k);have Lu:BW P e=true\/Ds P t0=none:=FT.imp (·.1) (by rintro⟨_,h⟩;simpa using h);have FT:BW P e=true/\N=[]\/BW P e=false/\Ds P t0=none:=by
         rcases FT with⟨h1,h2⟩|⟨h1,h2⟩
         ·exact .inl ⟨h1,(p5 h2).1⟩
         ·exact .inr ⟨h1,by simpa using h2⟩
        have F1:x=x0:=by simp[AN,Ba,G4,hl]at hx;exact hx.symm
        subst F1;have hv:c.H u g=v:=by
         cases hs with
         |own _ k2 _=>exact k2
        rw[hv]at p3;refine⟨N++ [],(c.G u).top++ [],Cd.own hf A6 FT p3 .nil,λb hb=> .inl (p4 b (by simpa using hb)),by simp[Cm,RI.tag], .row hf A6 Lu p1 hv p2 .nil,λw hw=> ?_⟩;simp only[Cm,List.filterMap_cons,Option.map_some,RI.tag,List.filterMap_nil,Ac,List.not_mem_nil,or_false]at hw;subst hw;exact hU _ _ p1
       ·cases hr
      ·rename_i e z l g' ep x0 hl;split at hr
       ·rename_i hh;obtain⟨rfl,Fo,CZ⟩:=hh;have CZ:=Tl CZ;simp only[Aa]at hr;subst hr;obtain⟨p1,p2,pE,p3,_⟩:=eh u _ (Ci hl k);have F1:x=x0:=by
         simp[AN,Ba,G4,hl]at hx;exact hx.symm
        subst F1;have hv:c.H u g=v:=by
         cases hs with
         |own _ k2 _=>exact k2
        rw[hv]at p3;refine⟨[],(c.G u).top++ [],Cd.deep hf A6 Fo CZ p3 .nil,by simp,by simp[Cm,RI.tag], .deep hf A6 Fo CZ p1 hv p2 pE .nil,λw hw=> ?_⟩;simp only[Cm,List.filterMap_cons,Option.map_some,RI.tag,List.filterMap_nil,Ac,List.not_mem_nil,or_false]at hw;subst hw;exact hU _ _ p1
       ·cases hr
      ·cases hr
     ·cases hr
    ·cases h
   ·rename_i hf;simp only[Aa,AG]at h;obtain⟨rfl,rfl⟩:=h;obtain⟨f,p1,p2⟩:=Gx eh k AN hx hs AN (Ar _);refine⟨f++ [],[],Cd.rd (λhh=>absurd hh hf) p1 .nil,λb hb=> ?_,by simp[Cm], .none (λhh=>absurd hh hf) .nil,by simp[Cm]⟩;rw[AE]at hb;exact(p2 b hb).mono λt ht=>by simp[ht]
  obtain⟨rf,A1,q1,q2,q3,q4,q5⟩:=key;refine⟨rf,A1,⟨[v],[x.den c.ρ],?_,by rw[Kz];exact q1⟩,q2,q3,⟨[v],?_,by rw[Kz];exact q4⟩,q5⟩
  ·rw[if_neg (by rw[As];simp)];exact⟨rfl,rfl⟩
  ·rw[if_neg (by rw[As];simp)]
 cases s with
 |agg cs=>
  simp only[Gw]at hg h;obtain⟨m,l,hm,hl,rfl⟩:=QC hx;cases hs with
  |agg h9 h1 h8=>
   rename_i as_;have EC:m<=AN:=by simp only[AN]at hm ⊢;omega
   obtain⟨rf,A1,q1,q2,q3,q4,q5⟩:=WJ (P:=P) eh k hU (AW P t) h h1 hl EC;refine⟨rf,A1,⟨as_,l.den c.ρ,?_,q1⟩,q2,q3,⟨as_,?_,q4⟩,q5⟩
   ·rw[if_pos hg.symm];exact⟨rfl,rfl,h9⟩
   ·rw[if_pos hg.symm]
 |_=>exact single _ hs hx hg.symm h
end
end
end Go.Proofs.YteeafhlnofapaaaGreat
