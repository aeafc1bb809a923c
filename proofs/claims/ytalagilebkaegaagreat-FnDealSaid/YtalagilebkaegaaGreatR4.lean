/- Parts of a proof, joined: VX, WB, WC, WD, WE, WF, WG, WH, WI, WJ, WK, WL, WM, WN, WO. -/
import Derived.Test.YtalagilebkaegaaGreatR3
import Derived.Orders
import Derived.Lib.SliceRun
import Derived.Laws.Slices
import Derived.Laws.MakeOwn
import Derived.Laws.StructEq
set_option linter.unusedVariables false
set_option linter.unusedSimpArgs false
namespace Go.Proofs.YtalagilebkaegaaGreat
open Go.RowKit
section
theorem CV(n:Nat):((n:Int)).toNat=n:=Int.toNat_natCast n
section
variable {P:Program} {c:Cx} {n nx:Nat} {sl sl0:Nat->SV} {hp hp0:Nat->Option Af} {a:Act} {o:Oper} {gs:Gd} {e:Bh} {sg:BY} {nv:Nat}
def Cx.fg(c:Cx)(w':World)(t:Nat)(O:List Nat):Cx:={c with w:=w',G:=λu=>if u=t then⟨(c.G t).top,O⟩else c.G u,E:=λu=>if u=t then c.E u+1 else c.E u}
theorem Rel.jj(h:Rel c n sl hp a){t:Nat}{e0:Af}{b:Nat}{w':World}{O:List Nat}(AL:CN c.ρ (hp t) e0)(Ck:b∈(c.G t).top)(hO:O=[]\/O=(c.G t).O)(hm:Mod [b] c.w w')(Bo:w'.heap.size=c.w.heap.size)(e1:Af)(BB:∀hs f,e1≠ .gd hs f)
  (he:D6 c (c.fg w' t O)->DE (c.fg w' t O) t e1):
  Rel (c.fg w' t O) n sl (Bp hp [(t,e1)]) a:=by
 have Bk:b∈(c.G t).own:=by simp[GI.own,Ck]
 have hG:∀u,(c.fg w' t O).G u=if u=t then⟨(c.G t).top,O⟩else c.G u:=λu=>rfl;have E2:∀u,((c.fg w' t O).G u).top=(c.G u).top:=by
  intro u;rw[hG];split
  ·rename_i hu;rw[hu]
  ·rfl
 have B1:∀u,∀q∈((c.fg w' t O).G u).own,q∈(c.G u).own:=by
  intro u q hq;rw[hG]at hq;split at hq
  ·rename_i hu;subst hu;simp only[GI.own,Ac]at hq ⊢;rcases hq with hq|hq
   ·exact .inl hq
   ·rcases hO with rfl|rfl
    ·simp at hq
    ·exact .inr hq
  ·exact hq
 have Ce:D6 c (c.fg w' t O):=by
  refine⟨rfl,rfl,λq _ hq=>⟨λ⟨u,hu⟩=>hq.1 ⟨u,by rw[E2]at hu;exact hu⟩,hq.2⟩,λq hq AZ=>hm.block q hq ?_,λu g hu=>⟨hu,rfl⟩,λu g hu=> ?_⟩
  ·simp only[List.mem_singleton];rintro rfl;exact AZ.1 ⟨t,Ck⟩
  ·by_cases GR:u=t
   ·have e1:(c.fg w' t O).E u=c.E u+1:=by simp only[Cx.fg,if_pos GR]
    exact⟨by omega,λh=>by omega⟩
   ·have e1:(c.fg w' t O).E u=c.E u:=by simp only[Cx.fg,if_neg GR]
    have e2:(c.fg w' t O).G u=c.G u:=by simp only[Cx.fg,if_neg GR]
    rw[e1];refine⟨AN _,λ_=>⟨e2,λq hq Fu=>hm.block q Fu ?_⟩⟩;simp only[List.mem_singleton];rintro rfl;exact h.gw.cy t u (Ne.symm GR) q Bk (by simp[GI.own,hq])
 have Ec:∀u,Bp hp [(t,e1)] u=if u=t then some e1 else hp u:=λu=>rfl;refine h.change (λu=>u=t) Ce ⟨hm.os.trans h.base.os,hm.tape.trans h.base.tape,hm.output.trans h.base.output,Nat.le_trans h.base.size hm.size,h.base.pins,λq hq Gn=> ?_,h.base.pk,h.base.lo⟩
  (λu hu=>⟨by rw[Ec,if_neg hu],by rw[hG,if_neg hu],by simp[Cx.fg,hu],λg hg=>hg⟩) (λu hu q hq=>hm.block q (h.gw.inb u q (by simp[GI.own,hq])) ?_) (λu hu=> ?_) ⟨λu=> ?_,λu v eI q hq GP=>h.gw.cy u v eI q (B1 u q hq) (B1 v q GP),λu q hq=>h.gw.allow u q (B1 u q hq),λu q hq=> ?_⟩ h.bz (λu f hf=> ?_)
 ·refine(hm.block q (Nat.lt_of_lt_of_le hq h.base.size) ?_).trans (h.base.block q hq Gn);simp only[List.mem_singleton];rintro rfl;rcases h.gw.allow t q Bk with hh|hh
  ·exact absurd hh (Nat.not_le.2 hq)
  ·exact Gn hh
 ·simp only[List.mem_singleton];rintro rfl;exact h.gw.cy t u (Ne.symm hu) q Bk (by simp[GI.own,hq])
 ·subst hu;rw[Ec,if_pos rfl];refine⟨λe' hr=> ?_,λhn=> ?_⟩
  ·cases e1<;>first
    |(simp only[CN]at hr;subst hr;exact he Ce)
    |exact absurd rfl (BB _ _)
  ·cases e1<;>first
    |exact absurd rfl (BB _ _)
    |exact absurd rfl (hn _)
 ·rw[hG];split
  ·rename_i hu;subst hu;have h0:=h.gw.nodup u;simp only[GI.own]at h0 ⊢;rcases hO with rfl|rfl
   ·rw[AB];exact(List.nodup_append.1 h0).1
   ·exact h0
  ·exact h.gw.nodup u
 ·show q<w'.heap.size;rw[Bo];exact h.gw.inb u q (B1 u q hq)
 ·rw[Ec]at hf;split at hf
  ·rename_i hu;subst hu;cases hh:hp u with
   |none=>rw[hh]at AL;exact AL.elim
   |some e9=>exact h.c6 u e9 hh
  ·exact h.c6 u f hf
theorem Sg{α:Type}(L vs:List α)(p m:Nat)(h:p+vs.length<=m)(hm:m<=L.length):(setVs L p vs).take m=setVs (L.take m) p vs:=by
 apply List.ext_getElem?;intro j;have hl:(L.take m).length=m:=by rw[Ar];omega
 rw[List.getElem?_take,Sn (L.take m) vs p (by omega) j,Sn L vs p (by omega) j,List.getElem?_take];by_cases h1:p<=j/\j<p+vs.length
 ·rw[if_pos (by omega),if_pos h1,if_pos h1]
 ·rw[if_neg h1,if_neg h1]
theorem Rd.setVs{w:World}{L V:List Value}{X Y:List AV}{N f:List Nat}{p:Nat}(h:Rd w L X N)(k:Rd w V Y f)(hp:p+V.length<=L.length):
  ∃n1 n2 n3,N=n1++n2++n3/\Rd w (Go.Proofs.YtalagilebkaegaaGreat.setVs L p V) (Go.Proofs.YtalagilebkaegaaGreat.setVs X p Y) (n1++f++n3)/\Rd w ((L.drop p).take V.length) ((X.drop p).take V.length) n2:=by
 have hl:=h.len;have hk:=k.len;have e1:L=L.take p++((L.drop p).take V.length++L.drop (p+V.length)):=by rw[<-List.drop_drop,Cf,Cf]
 have e2:X=X.take p++((X.drop p).take V.length++X.drop (p+V.length)):=by rw[<-List.drop_drop,Cf,Cf]
 have h':=h;rw[e1,e2]at h';obtain⟨n1,m,rfl,g1,g2⟩:=Rd.dy (by simp;omega) h';obtain⟨n2,n3,rfl,g3,g4⟩:=Rd.dy (by simp;omega) g2;refine⟨n1,n2,n3,by simp,?_,g3⟩;unfold Go.Proofs.YtalagilebkaegaaGreat.setVs;rw[<-hk];exact(g1.app k).app g4
theorem ZR{sz:Nat}:∀(ys:List AV) (k:Nat) (z y:AV) (o:Nat) (vc:List AV),(∀y∈ys,y.cells.length=sz)->ys[k]?=some y->o+vc.length<=sz->z.cells=setVs y.cells o vc->Ao (ys.set k z)=setVs (Ao ys) (k*sz+o) vc
 | [],k,z,y,o,vc,_,h,_,_=>by simp at h
 |q::ys,0,z,y,o,vc,hs,h,ho,hz=>by simp at h;subst h;have hq:=hs q (by simp);simp only[Ao,List.set_cons_zero,List.flatMap_cons,Nat.zero_mul,Nat.zero_add,hz];unfold setVs;rw[List.take_append_of_le_length (by omega),List.drop_append_of_le_length (by omega)];simp
 |q::ys,k+1,z,y,o,vc,hs,h,ho,hz=>by
  have hq:=hs q (by simp);have ih:=ZR ys k z y o vc (λu hu=>hs u (by simp[hu])) (by simpa using h) ho hz;simp only[Ao,List.set_cons_succ,List.flatMap_cons]at ih ⊢;rw[ih];unfold setVs;have e0:(k+1)*sz+o=q.cells.length+(k*sz+o):=by rw[hq,Nat.add_mul];omega
  rw[e0,List.take_length_add_append,Nat.add_assoc (q.cells.length),List.drop_length_add_append];simp
theorem lF{y x:AV}{k:Nat}{g:Bool}(hx:(∀cs,x≠ .agg cs)\/g=true)(hy:g=false->y.cells.length=1/\k=0/\x.cells=[x]):(y.dg k x g).cells=setVs y.cells k x.cells:=by
 cases g with
 |true=>simp[AV.dg,AV.cells,setVs]
 |false=>obtain⟨h1,h2,h3⟩:=hy rfl;subst h2;simp only[AV.dg,h3,setVs];rw[if_neg (by simp)];rw[h3];simp only[List.take_zero,List.nil_append,Bd,List.length_nil,Nat.zero_add];rw[List.drop_eq_nil_of_le (by omega)];simp
theorem ztf(h:BE P c n nx sl hp a sl0 hp0 o gs){t:TypeId}{x y:Operand}(ho:o.op= .store t x y){b g:Nat}{ix:E}{sz k:Nat}{s:SV}(AT:∃e z g c d,Dq hp0 gs b=some (.row e z g c d))(hx:BM sl0 gs x=some (.cz b g ix sz k))(hy:BM sl0 gs y=some s)
  (he:NF P hp0 gs t (.cz b g ix sz k) s=some e) (hc:∀q∈e.cj,Cn.den c.ρ q):AD P o c n nx sl hp gs a e:=by
 have r1:=h.c7 hx (by simp[ho,Op.operands]);have r2:=h.c7 hy (by simp[ho,Op.operands]);simp only[NF]at he;split at he
 ·rename_i el sz' g' c0 d hl;split at he
  ·rename_i hh;obtain⟨rfl,rfl,rfl,Bv,hle,FL,Ep⟩:=hh;split at he
   ·rename_i xe fz dx ck CF;split at he
    ·cases he
    rename_i Eu;simp only[Ad]at he;subst he;have Eu:∀f,(b,f)∉fz:=λf hf=>Eu (by simp only[List.contains_eq_mem,AI];exact List.mem_map.2 ⟨_,hf,rfl⟩);obtain⟨f,q1,q2,⟨ts,q3⟩,q5⟩:=wF h.rel h.hp h.gs r2 CF (λq hq=>hc q (by simp[hq]));obtain⟨q3,q4⟩:=q3;have AL:=Mi h.hp (CP hl h.gs);have DJ:=h.rel.freeze h.hp h.gs q3;have MZ:CN (c.ca (fz.map (·.1))).ρ (Bp hp fz b) (.row el sz g c0 d):=by rw[Mg Eu];exact AL
    obtain⟨e1,e2,N,e3,e4,e5,e6⟩:=DJ.ents b _ MZ;obtain⟨o1,o2,o3,o4⟩:=lN (P:=P) q1 Ep q5;generalize hv:a.eval x=v at r1;cases r1 with
    |cz k1 k2 k3 k4 k5 _=>
     rename_i m len cap kk kv k6;obtain⟨xs,p1,p2,p3,pcase⟩:=e3;have p1':c0.den c.ρ= .sl xs:=p1;rcases pcase with⟨_,⟨_,pv⟩,_⟩|⟨g9,cap9,C,pv,p4,p5,p6,p7,p8,p9,p10⟩
     ·exfalso;have:c.H b g=_:=pv;rw[k2]at this;cases this;omega
     ·have pv':c.H b g= .slice (some ⟨g9,0,none⟩) xs.length cap9:=pv;rw[k2]at pv';simp only[Value.slice.injEq,Ad,Addr.mk.injEq,and_true]at pv';obtain⟨rfl,rfl,rfl⟩:=pv';have IH:kv.toNat<xs.length:=by omega
      have Gt:=NX IH;generalize Jh:(AV.sl xs).nth kv.toNat=yk at Gt;have FX:=p2 yk (List.mem_of_getElem? Gt);have Ex:(a.eval y).cells.toList.length=P.cellsOf t:=by simpa using o4
      have hmul:(kv.toNat+1)*sz<=xs.length*sz:=By _ (by omega);have DL:C.toList.length=cap*sz:=by simpa using p7
      have EX:xs.length*sz<=cap*sz:=By _ p4;rw[Nat.add_mul]at hmul;have p6':c.w.heap[m]?=some (.cells C el (0,0)):=p6;obtain⟨m1,m2,m3⟩:=Zg (vs:=(a.eval y).cells.toList) p6' (show(kv.toNat*sz+k)+_<=C.size by rw[Ex,p7];omega);have OJ:(C.toList.take (xs.length*sz)).length=xs.length*sz:=by rw[Ar,DL];omega
      obtain⟨n1,n2,n3,hN,s1,s2⟩:=Rd.setVs (p:=kv.toNat*sz+k) p10 o1 (by rw[OJ,Ex];omega);have FQ:∀z,z<c.w.heap.size->(c.ca (fz.map (·.1))).ok z->(putCells c.w m (kv.toNat*sz+k) (a.eval y).cells.toList).heap[z]?=c.w.heap[z]?:=by intro z hz AZ;refine m1.block z hz ?_;simp only[List.mem_singleton];rintro rfl;exact AZ.1 ⟨b,by rw[p8];simp⟩
      have B7:(d&&dx)=true->n2=[]/\f=[]:=by
       intro Fb;have hcf:Cn.den c.ρ (.flat (.fld (.idx c0 ix) k (P.cellsOf t) (Am P t)) (P.cellsOf t) (Am P t)):=hc _ (by simp[Fb]);obtain⟨f1,f2,f3,f4⟩:=hcf;simp only[Ab]at Fb;refine⟨?_,q2 Fb.2⟩;have OT:((Ao xs).drop (kv.toNat*sz+k)).take (a.eval y).cells.toList.length=(yk.cells.drop k).take (P.cellsOf t):=by rw[Ex];exact VY xs p2 _ _ Gt k (P.cellsOf t) hle
       rw[OT]at s2;have Cv:(E.fld (.idx c0 ix) k (P.cellsOf t) (Am P t)).den c.ρ=yk.fld k (P.cellsOf t) (Am P t):=by simp only[E.den,p1',k3,AV.idx,Jh]
       rw[Cv]at f2;refine Hs s2 ?_;cases hg:Am P t with
       |true=>rw[hg]at f2;simpa[AV.fld,AV.cells]using f2
       |false=>
        have h1:P.cellsOf t=1:=by rcases Ep with h'|h';rw[hg]at h';cases h';exact h'
        rw[Cv]at f4;have f4:=f4 hg;rw[hg]at f4;have Ax:k<yk.cells.length:=by omega
        rw[h1,Bl Ax,List.take_succ_cons,List.take_zero];simp only[List.mem_singleton,forall_eq];simpa[AV.fld,Ax]using f4
      have hz:(yk.dg k (xe.den c.ρ) (Am P el)).cells=setVs yk.cells k (xe.den c.ρ).cells:=by
       refine lF ?_ (λhg=> ?_)
       ·cases hg:Am P el with
        |true=>exact .inr rfl
        |false=>
         left;rcases FL with h'|⟨_,h'⟩
         ·rw[hg]at h';cases h'
         ·have h':Am P t=false:=by simpa using h'
          rw[h']at q5;exact λcs=>(q5.1 cs)
       ·rcases FL with h'|⟨h1,h'⟩
        ·rw[hg]at h';cases h'
        ·have h':Am P t=false:=by simpa using h'
         rw[h']at q5;have TK:P.cellsOf t=1:=by rcases Ep with h2|h2;rw[h']at h2;cases h2;exact h2
         refine⟨by omega,by omega,?_⟩;cases eL:xe.den c.ρ<;>first|rfl|exact absurd eL (q5.1 _)
      have ER:Ao (xs.set kv.toNat (yk.dg k (xe.den c.ρ) (Am P el)))=setVs (Ao xs) (kv.toNat*sz+k) (xe.den c.ρ).cells:=
       ZR xs _ _ yk k _ p2 Gt (by rw[o3];exact hle) hz
      have D9:=DJ.jj (t:=b) (b:=m) (w':=putCells c.w m (kv.toNat*sz+k) (a.eval y).cells.toList) (O:=if(d&&dx)=true then((c.ca (fz.map (·.1))).G b).O else []) MZ (by rw[p8];simp) (by split;exact .inr rfl;exact .inl rfl) m1 m3
       (.row el sz g (.set c0 ix (.put (.idx c0 ix) k xe (Am P el))) (d&&dx)) (by intros;simp) (λGO=>by
        have Gg:∀z∈n1++f++n3,(c.ca (fz.map (·.1))).ok z:=by
         intro z hz;simp only[Ac]at hz;rcases hz with(hz|hz)|hz
         ·exact e4 z (by rw[hN];simp[hz])
         ·exact q4 z hz
         ·exact e4 z (by rw[hN];simp[hz])
        have Tt:∀z∈n1++f++n3,z<c.w.heap.size:=s1.inb;refine⟨e1,e2,n1++f++n3,⟨xs.set kv.toNat (yk.dg k (xe.den c.ρ) (Am P el)),?_,λz eT=> ?_,p3, .inr ⟨m,cap,_,?_,by simpa using p4,p5,m2,?_,?_,?_,?_⟩⟩,λz hz=>GO.ok z (Tt z hz) (Gg z hz),λFb=> ?_,λFb=> ?_⟩
        ·show AV.dd (c0.den c.ρ) (ix.den c.ρ) (((c0.den c.ρ).idx (ix.den c.ρ)).dg k (xe.den c.ρ) (Am P el))=_;rw[p1',k3];simp only[AV.idx,Jh,AV.dd]
        ·rcases List.mem_or_eq_of_mem_set eT with eT|rfl
         ·exact p2 z eT
         ·rw[hz,Sm _ _ _ (by rw[o3,FX];exact hle)];exact FX
        ·rw[List.length_set];exact k2
        ·rw[List.size_toArray,Sm _ _ _ (by rw[Ex,DL];omega),BG];exact p7
        ·simpa[Cx.fg]using p8
        ·simp only[List.length_set,List.toList_toArray];rw[Sg _ _ _ _ (by rw[Ex];omega) (by rw[DL];omega)];intro u hu;unfold setVs at hu;simp only[Ac]at hu;rcases hu with(hu|hu)|hu
         ·exact p9 u (Bt hu)
         ·exact o2 u hu
         ·exact p9 u (BH hu)
        ·simp only[List.length_set,List.toList_toArray];rw[Sg _ _ _ _ (by rw[Ex];omega) (by rw[DL];omega),ER];exact s1.frame λz hz=>FQ z (Tt z hz) (Gg z hz)
        ·obtain⟨z1,z2⟩:=B7 Fb;have hd:d=true:=by simp only[Ab]at Fb;exact Fb.1
         obtain⟨u1,u2⟩:=e5 hd;have WU:n1++f++n3=N:=by rw[hN,z1,z2]
         rw[WU];refine⟨u1.frame λz hz=>FQ z (p10.inb z hz) (e4 z hz),?_⟩;simp only[Cx.fg,if_true,Fb];exact u2
        ·simp[Cx.fg,Fb])
      intro next Q hk
      unfold Oper.wp;have hr:(execOp a.eval o).run P c.w= .ok .skip (putCells c.w m (kv.toNat*sz+k) (a.eval y).cells.toList):=by have:=kF (P:=P) (t:=t) (v:=a.eval y) (off:=kv.toNat*sz+k) p6' Bv o4 (by rw[o4,p7];omega) o2;simp[execOp,ho,hv,this]
      rw[hr,Oper.upon_skip];refine hk _ ((c.ca (fz.map (·.1))).fg (putCells c.w m (kv.toNat*sz+k) (a.eval y).cells.toList) b (if(d&&dx)=true then((c.ca (fz.map (·.1))).G b).O else [])) ⟨rfl,rfl,rfl,rfl,λt ht=> .inl ht⟩ ?_;have:=D9.put (v:=Go.undef) ((SR.undef .nil).mkGd []) o.dst;rw[PI];exact this
   ·cases he
  ·cases he
 all_goals (rename_i hl;obtain⟨_,_,_,_,_,BS⟩:=AT;first|(rw[BS]at hl;cases hl;done)|exact absurd BS (hl _ _ _ _ _)|cases he)
end
def Li(a:Act)(o:Oper):Bool:=match o.op with| .binOp _ _ x _ _=>(match a.eval x with| .slice none _ _=>true|_=>false)|_=>false
section
variable (P:Program) (sg:BY) (Rt:Nat->List AV->AV->Prop)
def O8:Prop:= ∀(c:Cx) (n nx:Nat) (sl:Nat->SV) (hp:Nat->Option Af) (a:Act) (sl0:Nat->SV) (hp0:Nat->Option Af) (o:Oper) (gs:Gd) (e:Bh) (nv:Nat),BE P c n nx sl hp a sl0 hp0 o gs-> ¬c.U (nx+999)->Mt P sg sl0 hp0 nv nx gs o=some e->
 (∀q∈e.cj,q.den c.ρ)->(∀cl,e.call=some cl-> ∃r,c.ρ[nv]?=some r/\IZ Rt cl.fn ((EL.of cl.args).den c.ρ) c.ρ r)->(∀x,e.ch=some x->c.ρ[nv]?=some (.bool (Li a o)))->AD P o c n nx sl hp gs a e
def WK:Prop:= ∀(c:Cx) (n nx:Nat) (sl:Nat->SV) (hp:Nat->Option Af) (a:Act) (sl0:Nat->SV) (hp0:Nat->Option Af) (o:Oper) (gs:Gd) (e:Bh) (nv:Nat) (x:E),BE P c n nx sl hp a sl0 hp0 o gs->Mt P sg sl0 hp0 nv nx gs o=some e->e.ch=some x->Li a o=true->x.den c.ρ= .sl []
end
theorem xA{hp:Nat->Option Af}(l:List (Nat × Af))(t:Nat):(Bp hp l t=hp t/\ ∀e,(t,e)∉l)\/ ∃e,(t,e)∈l/\Bp hp l t=some e:=by
 induction l generalizing hp with
 |nil=>exact .inl ⟨rfl,by simp⟩
 |cons p l ih=>
  obtain⟨u,f⟩:=p;rcases ih (hp:=λv=>if v=u then some f else hp v)with⟨h1,h2⟩|⟨e,h1,h2⟩
  ·by_cases ht:t=u
   ·subst ht;refine .inr ⟨f,by simp,?_⟩;have:Bp hp ((t,f)::l) t=Bp (λv=>if v=t then some f else hp v) l t:=rfl;rw[this,h1];simp
   ·refine .inl ⟨?_,λe he=> ?_⟩
    ·have:Bp hp ((u,f)::l) t=Bp (λv=>if v=u then some f else hp v) l t:=rfl;rw[this,h1,if_neg ht]
    ·rcases Ae.1 he with he|he
     ·cases he;exact ht rfl
     ·exact h2 e he
  ·exact .inr ⟨e,by simp[h1],h2⟩
section
variable {P:Program} {sg:BY} {Rt:Nat->List AV->AV->Prop} {c:Cx} {n nx:Nat} {sl:Nat->SV} {hp:Nat->Option Af} {a:Act} {ops:Array Oper} {o:Oper} {gs:Gd} {e:Bh}
theorem Rel.skip(h:Rel c n sl hp a)(hg: ¬BA c.ρ gs){l:List (Nat × Af)}(hl:∀t x,(t,x)∈l->nx<=t/\t<nx+BW/\ ∃hs y,x= .gd hs y/\MD gs hs=true)(Bg:∀t,nx<=t->t<nx+BW-> ¬c.U t)(s:SV)(d:Option Nat):
  Rel {c with U:=λt=>c.U t\/(nx<=t/\t<nx+BW)} n (CZ n sl d (mkGd gs s)) (Bp hp l) (a.put d undef):=by
 have hs:SR {c with U:=λt=>c.U t\/(nx<=t/\t<nx+BW)} [mkGd gs s] [undef]:=by
  cases gs with
  |nil=>exact absurd (E4 _) hg
  |cons g gs=>exact .gd (λhh=>absurd hh hg) (λ_=>rfl) .nil
 refine Rel.put ?_ hs d;refine h.change (λt=> ∃x,(t,x)∈l) ⟨rfl,rfl,λ_ _ hb=>hb,λ_ _ _=>rfl,λ_ _ hk=>⟨hk,rfl⟩,λ_ _ _=>⟨AN _,λ_=>⟨rfl,λ_ _ _=>rfl⟩⟩⟩ ⟨h.base.os,h.base.tape,h.base.output,h.base.size,λt v hp=>⟨.inl (h.base.pins t v hp).1,(h.base.pins t v hp).2⟩,h.base.block,h.base.pk,h.base.lo⟩ (λt ht=> ?_) (λ_ _ _ _=>rfl) (λt ht=> ?_) ⟨h.gw.nodup,h.gw.cy,h.gw.allow,h.gw.inb⟩ (λt g hk=> .inl (h.bz t g hk)) (λt x hx=> ?_)
 ·exact⟨Mg λx hx=>ht ⟨x,hx⟩,rfl,rfl,λg hk=>hk⟩
 ·obtain⟨x,hx⟩:=ht;rcases xA (hp:=hp) l t with⟨_,h2⟩|⟨x',h1,h2⟩
  ·exact absurd hx (h2 x)
  ·obtain⟨q1,q2,hs,y,rfl,B1⟩:=hl t x' h1;have DI:∀e',¬CN c.ρ (Bp hp l t) e':=by
    rw[h2];exact λe' hr=>hg (Z4 B1 hr.1)
   refine⟨λe' hr=>absurd hr (DI e'),λ_=>h.off t λe' hr=> ?_⟩;cases hh:hp t with
   |none=>rw[hh]at hr;exact hr.elim
   |some e9=>exact Bg t q1 q2 (h.c6 t e9 hh)
 ·rcases xA (hp:=hp) l t with⟨h1,_⟩|⟨x',h1,_⟩
  ·rw[h1]at hx;exact .inl (h.c6 t x hx)
  ·obtain⟨q1,q2,_⟩:=hl t x' h1;exact .inr ⟨q1,q2⟩
def WM(ρ:List AV)(ops:Array Oper)(o:Oper)(a:Act):Option Gd->Prop
 |none=>Region.wanted o (yielded ops a.tmps)=false
 |some gs=>(BA ρ gs->Region.wanted o (yielded ops a.tmps)=true)/\(¬BA ρ gs->Region.wanted o (yielded ops a.tmps)=false)
theorem lY{σ:St}{r:Option Gd}(hg:PH σ ops o=some r)(hs:∀j want d,o.guard=some (j,want)->(ops[j]?).bind (·.dst)=some d->SR c [BR σ d] [a.tmps.getD d undef]):WM c.ρ ops o a r:=by
 unfold PH at hg;cases Hf:o.guard with
 |none=>rw[Hf]at hg;simp only[Ad]at hg;subst hg;exact⟨λ_=>by simp[Region.wanted,Hf],λhn=>absurd (E4 _) hn⟩
 |some jw=>
  obtain⟨j,want⟩:=jw;rw[Hf]at hg;simp only at hg;cases hd:(ops[j]?).bind (·.dst)with
  |none=>rw[hd]at hg;simp only[Ad]at hg;subst hg;simp[WM,Region.wanted,Hf,yielded,hd]
  |some d=>
   rw[hd]at hg;simp only at hg;have hr:=hs j want d Hf hd;have hw:∀v,a.tmps.getD d undef=v->Region.wanted o (yielded ops a.tmps)=(match v with| .bool b=>b==want|_=>false):=by
    intro v hv;simp only[Region.wanted,Hf,yielded,hd,Aa];rw[Array.getD_eq_getD_getElem?]at hv;cases hq:a.tmps[d]? with
    |none=>rw[hq]at hv;simp at hv;subst hv;simp[undef]
    |some u=>rw[hq]at hv;simp at hv;subst hv;cases u<;>simp
   generalize a.tmps.getD d undef=v at hr hw;have hw:=hw v rfl;have LS:v=undef->Region.wanted o (yielded ops a.tmps)=false:=by rintro rfl;rw[hw];simp[undef]
   have H4:∀x f,Rd c.w [v] [x] f->(x= .bool want->Region.wanted o (yielded ops a.tmps)=true)/\(x≠ .bool want->Region.wanted o (yielded ops a.tmps)=false):=by
    intro x f hx;refine⟨λh=> ?_,λh=> ?_⟩
    ·rw[hw,IV hx h];simp
    ·rw[hw];cases v<;>simp only;rename_i b;cases hx with
     |bool _=>simpa using λhh=>h (by rw[hh])
   split at hg
   ·rename_i b Dr;rw[Dr]at hr;cases hr with
    |e h1 _ _=>
     simp only[Ad]at hg;subst hg;obtain⟨q1,q2⟩:=H4 _ _ h1;simp only[E.den,AV.bool.injEq]at q1 q2;split
     ·rename_i hb;simp only[AM]at hb;exact⟨λ_=>q1 hb,λhn=>absurd (E4 _) hn⟩
     ·rename_i hb;simp only[AM]at hb;exact q2 (by simpa using hb)
   ·rename_i x _ Dr;rw[Dr]at hr;cases hr with
    |e h1 _ _=>simp only[Ad]at hg;subst hg;obtain⟨q1,q2⟩:=H4 _ _ h1;exact⟨λhh=>q1 (hh (x,want) (by simp)),λhn=>q2 λhh=>hn (by intro g hg;simp at hg;subst hg;exact hh)⟩
   ·rename_i A9 s Dr;rw[Dr]at hr;cases hr with
    |gd h1 h2 _=>
     split at hg
     ·rename_i hf;simp only[Ad]at hg;subst hg;refine LS (h2 λhk=> ?_);simp only[zy4,List.any_eq_true]at hf;obtain⟨g,hg,cI⟩:=hf;have:=hk g hg;split at cI
      ·rename_i b hb;rw[hb]at this;simp only[E.den,AV.bool.injEq]at this;simp[this]at cI
      ·cases cI
     ·split at hg
      ·rename_i b;simp only[Ad]at hg;subst hg;by_cases hk:BA c.ρ A9
       ·have h1:=h1 hk;cases h1 with
        |e h1 _ _=>
         obtain⟨q1,q2⟩:=H4 _ _ h1;simp only[E.den,AV.bool.injEq]at q1 q2;split
         ·rename_i hb;simp only[AM]at hb;exact⟨λ_=>q1 hb,λhn=>absurd hk hn⟩
         ·rename_i hb;simp only[AM]at hb;exact q2 (by simpa using hb)
       ·split
        ·exact⟨λhh=>absurd hh hk,λ_=>LS (h2 hk)⟩
        ·exact LS (h2 hk)
      ·rename_i x _;simp only[Ad]at hg;subst hg;by_cases hk:BA c.ρ A9
       ·have h1:=h1 hk;cases h1 with
        |e h1 _ _=>obtain⟨q1,q2⟩:=H4 _ _ h1;exact⟨λhh=>q1 (hh (x,want) (by simp)),λhn=>q2 λhh=>hn (by intro g hg;rcases Ae.1 hg with rfl|hg;exact hh;exact hk g hg)⟩
       ·exact⟨λhh=>absurd (λg hg=>hh g (by simp[hg])) hk,λ_=>LS (h2 hk)⟩
      ·cases hg
   ·cases hg
theorem rH(AW:O8 P sg Rt){Q:Exit->Act->World->Prop}{K:Act->World->Prop}{i nv:Nat}(hi:ops[i]?=some o)(hrel:Rel c n sl hp a){sl0:Nat->SV}{hp0:Nat->Option Af}(Eh:WM c.ρ ops o a (some gs))
  (Dr:∀t,Operand.tmp t∈o.op.operands->sl0 t=sl t) (hhp:∀t e,hp0 t=some e->hp t=some e) (Bg:∀t,nx<=t->t<nx+BW-> ¬c.U t)
  (he:Mt P sg sl0 hp0 nv nx gs o=some e) (BI:gs≠ []-> ∀t x,(t,x)∈e.bq->nx<=t/\t<nx+BW/\ ∃hs y,x= .gd hs y/\MD gs hs=true)
  (hc:BA c.ρ gs-> ∀q∈e.cj,q.den c.ρ) (Bu:∀cl,e.call=some cl-> ∃r,c.ρ[nv]?=some r/\(BA c.ρ gs->IZ Rt cl.fn ((EL.of cl.args).den c.ρ) c.ρ r)) (Dc:∀x,e.ch=some x->BA c.ρ gs->c.ρ[nv]?=some (.bool (Li a o)))
  (hK:∀a' c',Nk c c' nx->Rel c' n (CZ n sl o.dst (mkGd gs e.val)) (Bp hp e.bq) a'->K a' c'.w):wpOp P ops Q i K a c.w:=by
 unfold wpOp;simp only[hi];by_cases hg:BA c.ρ gs
 ·rw[if_pos (Eh.1 hg)];exact .inl (AW c n nx sl hp a sl0 hp0 o gs e nv ⟨hrel,hg,Dr,hhp,λt h1 h2=>Bg t h1 (by simp only[BW];omega)⟩ (Bg _ (by omega) (by simp[BW])) he (hc hg) (λcl Aw=>by obtain⟨r,h1,h2⟩:=Bu cl Aw;exact⟨r,h1,h2 hg⟩) (λx hx=>Dc x hx hg) _ _ hK)
 ·rw[if_neg (by rw[Eh.2 hg];simp)];have BB:gs≠ []:=by rintro rfl;exact hg (E4 _)
  exact hK _ {c with U:=λt=>c.U t\/(nx<=t/\t<nx+BW)} ⟨rfl,rfl,rfl,rfl,λt ht=>ht⟩ (hrel.skip hg (BI BB) Bg e.val o.dst)
end
def Cx.ext(c:Cx)(τ:List AV):Cx:={c with ρ:=c.ρ++τ}
theorem den_app{ρ τ:List AV}{x:E}(h:x.sc ρ.length=true):x.den (ρ++τ)=x.den ρ:=by have:=E.bd ρ τ [] x h;rw[AB]at this;exact this
theorem zAI{ρ τ:List AV}{x:EL}(h:x.sc ρ.length=true):x.den (ρ++τ)=x.den ρ:=by have:=EL.bd ρ τ [] x h;rw[AB]at this;exact this
theorem Me{ρ τ:List AV}{gs:Gd}(h:UK ρ.length gs=true):BA (ρ++τ) gs↔BA ρ gs:=by simp only[UK,A3]at h;exact⟨λk g hg=>by rw[<-den_app (τ:=τ) (h g hg)];exact k g hg,λk g hg=>by rw[den_app (h g hg)];exact k g hg⟩
theorem BP.fw{n:Nat}:∀{cs:BP},cs.sc n=true-> ∀s∈cs.toList,s.sc n=true
 | .nil,_,s,h=>by simp[BP.toList]at h
 | .cons s cs,h,u,hu=>by
  simp only[BP.sc,Ab]at h;simp only[BP.toList,Ae]at hu;rcases hu with rfl|hu
  ·exact h.1
  ·exact BP.fw h.2 u hu
section
variable {c:Cx} {n:Nat} {sl:Nat->SV} {hp:Nat->Option Af} {a:Act} {τ:List AV}
theorem I2.ext{t g:Nat}{p:Oe}{v:Value}(hs:(match p with|some q=>q.1.sc c.ρ.length|none=>true)=true)(h:I2 c t g p v):I2 (c.ext τ) t g p v:=by
 cases p with
 |none=>exact trivial
 |some p=>obtain⟨i,z,o⟩:=p;obtain⟨b,n,cap,C,ty,fz,kk,k,h1,h2,h3,h4,h5⟩:=h;exact⟨b,n,cap,C,ty,fz,kk,k,h1,h2,h3,by show i.den (c.ρ++τ)=_;rw[den_app hs];exact h4,h5⟩
theorem SR.ext{ss:List SV}{vs:List Value}(h:SR c ss vs):(∀s∈ss,s.sc c.ρ.length=true)->SR (c.ext τ) ss vs:=by
 have tl:∀{s:SV} {ss:List SV},(∀x∈s::ss,x.sc c.ρ.length=true)-> ∀x∈ss,x.sc c.ρ.length=true:=λh x hx=>h x (by simp[hx]);have hd:∀{s:SV} {ss:List SV},(∀x∈s::ss,x.sc c.ρ.length=true)->s.sc c.ρ.length=true:=λh=>h _ (by simp);have hρ:(c.ext τ).ρ=c.ρ++τ:=rfl
 induction h with
 |nil=>exact λ_=> .nil
 |undef _ ih=>exact λhs=> .undef (ih (tl hs))
 |e h1 h2 _ ih=>exact λhs=> .e (by rw[hρ,den_app (hd hs)];exact h1) h2 (ih (tl hs))
 |cm _ ih=>exact λhs=> .cm (ih (tl hs))
 |emp _ ih=>exact λhs=> .emp (ih (tl hs))
 |own h1 h2 _ ih=>exact λhs=> .own h1 h2 (ih (tl hs))
 |cw h1 h2 _ ih=>exact λhs=> .cw h1 h2 (ih (tl hs))
 |cz h1 h2 h3 h4 h5 _ ih=>exact λhs=> .cz h1 h2 (by rw[hρ,den_app (hd hs)];exact h3) h4 h5 (ih (tl hs))
 |dj h1 h2 h3 h4 h5 h6 _ ih=>intro hs;have:=hd hs;simp only[SV.sc,Ab]at this;exact .dj (by rw[hρ,den_app this.1];exact h1) h2 (by rw[hρ,den_app this.2];exact h3) h4 h5 (by rw[hρ,den_app this.1];exact h6) (ih (tl hs))
 |dn h1 h2 _ ih=>exact λhs=> .dn (by rw[hρ,den_app (hd hs)];exact h1) h2 (ih (tl hs))
 |agg h9 _ _ ih1 ih2=>exact λhs=> .agg h9 (ih1 (BP.fw (hd hs))) (ih2 (tl hs))
 |tup _ _ ih1 ih2=>exact λhs=> .tup (ih1 (BP.fw (hd hs))) (ih2 (tl hs))
 |fn _ _ ih1 ih2=>exact λhs=> .fn (ih1 (BP.fw (hd hs))) (ih2 (tl hs))
 |gd _ h2 _ ih1 ih2=>intro hs;have:=hd hs;simp only[SV.sc,Ab]at this;exact .gd (λhg=>ih1 ((Me this.1).1 hg) (by simpa using this.2)) (λhg=>h2 λk=>hg ((Me this.1).2 k)) (ih2 (tl hs))
 | @via t g n p x v ss vs h1 h2 h3 _ ih=>intro hs;have:=hd hs;simp only[SV.sc,Ab]at this;refine .via h1 h2 (λhe=> ?_) (ih (tl hs));obtain⟨q1,q2⟩:=h3 he;exact⟨by rw[hρ,den_app this.2];exact q1,I2.ext (τ:=τ) this.1 q2⟩
 | @vptr t g n p x i sz o v ss vs h1 h2 h3 _ ih=>intro hs;have:=hd hs;simp only[SV.sc,Ab]at this;refine .vptr h1 h2 (λhe=> ?_) (ih (tl hs));obtain⟨b,off,len,cap,kk,k,q1,q2,q3,q4,q5,q6,q7⟩:=h3 he;exact⟨b,off,len,cap,kk,k,by rw[hρ,den_app this.1.2];exact q1,I2.ext (τ:=τ) this.1.1 q2,by rw[hρ,den_app this.2];exact q3,q4,q5,by rw[hρ,den_app this.1.2];exact q6,q7⟩
 |wown h1 h2 h3 h4 h5 h6 _ ih=>exact λhs=> .wown h1 h2 (by rw[hρ,den_app (hd hs)];exact h3) h4 h5 h6 (ih (tl hs))
 | @lent i _ _ _ h1 _ ih=>exact λhs=> .lent (by rw[hρ,den_app (x:= .var i) (by simpa[SV.sc,E.sc]using hd hs)];exact h1) (ih (tl hs))
theorem DE.ext{t:Nat}{e:Af}(h:DE c t e)(hs:e.sc c.ρ.length=true):DE (c.ext τ) t e:=by
 have hρ:(c.ext τ).ρ=c.ρ++τ:=rfl;cases e with
 |box ty g cs=>obtain⟨b,C,h1,h2,h3,h4,h5,h6,h7⟩:=h;exact⟨b,C,h1,h2,h3,h4,h5,h6,h7.ext (by simpa[Af.sc]using hs)⟩
 |row ety sz g x d=>obtain⟨h1,h2,N,h3,h4,h5⟩:=h;exact⟨h1,h2,N,by rw[hρ,den_app hs];exact h3,h4,h5⟩
 |ca g x=>obtain⟨h1,⟨f,h2,h3⟩,h4⟩:=h;exact⟨h1,⟨f,by rw[hρ,den_app hs];exact h2,h3⟩,h4⟩
 |gd gs e=>exact h
 |dead=>exact h
 |deep e z l g ep x=>obtain⟨h1,h2,h3,h4,h5⟩:=h;exact⟨h1,h2,h3,by rw[hρ,den_app hs];exact h4,h5⟩
 |hol e z l g ep x i o u=>simp only[Af.sc,Ab]at hs;obtain⟨h1,h2,h3,h4,h5⟩:=h;exact⟨h1,h2,h3,by rw[hρ,den_app hs.1,den_app hs.2];exact h4,h5⟩
 |pre e z l g ep x k=>simp only[Af.sc,Ab]at hs;obtain⟨h1,h2,h3,h4,h5⟩:=h;exact⟨h1,h2,h3,by rw[hρ,den_app hs.1,den_app hs.2];exact h4,h5⟩
theorem zC9{ρ:List AV}{e0 e:Af}(hs:e0.sc ρ.length=true):CN (ρ++τ) (some e0) e↔CN ρ (some e0) e:=by
 cases e0 with
 |gd gs x=>simp only[Af.sc,Ab]at hs;simp only[CN];rw[Me hs.1]
 |_=>simp[CN]
theorem Rel.ext(h:Rel c n sl hp a)(h1:∀i,(sl i).sc c.ρ.length=true)(h2:∀t e,hp t=some e->e.sc c.ρ.length=true)(τ:List AV):Rel (c.ext τ) n sl hp a:=by
 have key:∀t e,CN (c.ρ++τ) (hp t) e↔CN c.ρ (hp t) e:=by
  intro t e;cases hh:hp t with
  |none=>exact Iff.rfl
  |some e0=>exact zC9 (h2 t e0 hh)
 refine⟨h.defers,h.size,⟨h.base.os,h.base.tape,h.base.output,h.base.size,h.base.pins,h.base.block,h.base.pk,h.base.lo⟩,λi=>(h.da i).ext (by simpa using h1 i),λt e hr=> ?_,λt hn=>h.off t λe hr=>hn e ((key t e).2 hr),⟨h.gw.nodup,h.gw.cy,h.gw.allow,h.gw.inb⟩,h.bz,h.c6⟩;have CJ:=(key t e).1 hr;have he:=h.ents t e CJ;cases hh:hp t with
 |none=>rw[hh]at CJ;exact CJ.elim
 |some e0=>
  have Fe:=h2 t e0 hh;rw[hh]at CJ;cases e0 with
  |gd gs x=>
   obtain⟨_,rfl⟩:=CJ;simp only[Af.sc,Ab]at Fe;cases x with
   |gd=>exact he
   |dead=>exact he
   |box=>exact he.ext (by simpa[Af.sc]using Fe.2)
   |row=>exact he.ext (by simpa[Af.sc]using Fe.2)
   |ca=>exact he.ext (by simpa[Af.sc]using Fe.2)
   |deep=>exact he.ext (by simpa[Af.sc]using Fe.2)
   |hol=>exact he.ext (by simpa[Af.sc]using Fe.2)
   |pre=>exact he.ext (by simpa[Af.sc]using Fe.2)
  |_=>simp only[CN]at CJ;subst CJ;exact he.ext Fe
theorem St.kz{σ:St}(h:σ.sc=true)(i:Nat):(BR σ i).sc σ.nv=true:=by
 simp only[St.sc,Ab,A3]at h;unfold BR;cases hi:σ.sl[i]? with
 |none=>simp[SV.sc]
 |some s=>exact h.1 s (List.mem_of_getElem? hi)
theorem St.km{σ:St}(h:σ.sc=true)(t:Nat)(e:Af)(he:AO σ.hp t=some e):e.sc σ.nv=true:=by simp only[St.sc,Ab,A3]at h;exact h.2 _ (Jl he)
theorem Cn.jh{ρ τ:List AV}{q:Cn}(h:q.sc ρ.length=true):q.den (ρ++τ)↔q.den ρ:=by
 cases q<;>simp only[Cn.sc,Ab]at h<;>simp only[Cn.den]
 case dfd=>rw[den_app h]
 case agg=>rw[den_app h]
 case cells=>rw[den_app h]
 case inb=>rw[den_app h.1,den_app h.2]
 case inbS=>rw[den_app h.1,den_app h.2]
 case win=>rw[den_app h.1.1,den_app h.1.2,den_app h.2]
 case winS=>rw[den_app h.1.1,den_app h.1.2,den_app h.2]
 case room=>rw[den_app h.1,den_app h.2]
 case roomS=>rw[den_app h.1,den_app h.2]
 case mkroom=>rw[den_app h]
 case nz=>rw[den_app h]
 case nn=>rw[den_app h]
 case isref=>rw[den_app h]
 case issl=>rw[den_app h]
 case flat=>rw[den_app h]
 case flatS=>rw[den_app h]
 case kinds=>rw[den_app h]
theorem oF:SR c [HB] [Go.undef]:= .gd (λhg=>by have:=hg (.bool false,true) (by simp);simp[E.den]at this) (λ_=>rfl) .nil
theorem yQ{ρ:List AV}{x:E}{b:Bool}{hs:Gd}(hx:x.den ρ= .bool b)(h:P7 (x, !b) hs=true): ¬BA ρ hs:=by intro k;have:=zwY h k;simp only at this;rw[hx]at this;simp at this
theorem kP{ρ:List AV}{x:E}{b:Bool}{hs:Gd}(hx:x.den ρ= .bool b):BA ρ (hs.filter λh=> !(h.1.beq x&&h.2==b))↔BA ρ hs:=by
 refine⟨λk g hg=> ?_,λk g hg=>k g (List.mem_filter.1 hg).1⟩;by_cases hh:(g.1.beq x&&g.2==b)=true
 ·simp only[Ab,AM]at hh;rw[E.ay ρ _ _ hh.1,hx,hh.2]
 ·exact k g (List.mem_filter.2 ⟨hg,by rw[Bool.not_eq_true]at hh;rw[hh];rfl⟩)
theorem SR.jq{s:SV}{v:Value}{gs:Gd}(h1:BA c.ρ gs->SR c [s] [v])(h2: ¬BA c.ρ gs->v=Go.undef):SR c [Go.Proofs.YtalagilebkaegaaGreat.mkGd gs s] [v]:=by
 cases gs with
 |nil=>exact h1 (E4 _)
 |cons g gs=>exact .gd h1 h2 .nil
theorem SR.fq{x:E}{b:Bool}(hx:x.den c.ρ= .bool b){s:SV}{v:Value}(h:SR c [s] [v]):SR c [assumeS x b s] [v]:=by
 cases s with
 |gd hs s=>
  simp only[Go.Proofs.YtalagilebkaegaaGreat.assumeS];cases h with
  |gd h1 h2 _=>
   split
   ·rename_i hm;rw[h2 (yQ hx hm)];exact oF
   ·exact SR.jq (λk=>h1 ((kP hx).1 k)) (λk=>h2 λk'=>k ((kP hx).2 k'))
 |_=>exact h
theorem zAw(f:Af->Af)(l:List (Nat × Af))(t:Nat):AO (l.map λ(t,e)=>(t,f e)) t=(AO l t).map f:=by
 induction l with
 |nil=>rfl
 |cons p l ih=>
  obtain⟨u,e⟩:=p;simp only[List.map_cons,AO];split
  ·rfl
  ·exact ih
theorem Rel.fq{x:E}{b:Bool}(hx:x.den c.ρ= .bool b)(h:Rel c n sl hp a):Rel c n (λi=>assumeS x b (sl i)) (λt=>(hp t).map (assumeE x b)) a:=by
 have MV:∀t,(∀e,CN c.ρ (hp t) e-> ∃gs y,e= .gd gs y\/e= .dead)->(c.G t).top=[]/\(c.G t).O=[]:=by
  intro t ht;by_cases hh:∃e,CN c.ρ (hp t) e
  ·obtain⟨e,he⟩:=hh;obtain⟨gs,y,rfl|rfl⟩:=ht e he
   ·exact h.ents t _ he
   ·exact h.ents t _ he
  ·exact h.off t λe he=>hh ⟨e,he⟩
 have cases':∀t,((∀e,CN c.ρ ((hp t).map (assumeE x b)) e↔CN c.ρ (hp t) e))\/((hp t).map (assumeE x b)=some .dead/\(c.G t).top=[]/\(c.G t).O=[]):=by
  intro t;cases hh:hp t with
  |none=>exact .inl λe=>Iff.rfl
  |some e0=>
   cases e0 with
   |gd hs y=>
    by_cases hm:P7 (x, !b) hs=true
    ·refine .inr ⟨by simp[Go.Proofs.YtalagilebkaegaaGreat.assumeE,hm],MV t λe he=> ?_⟩;rw[hh]at he;exact absurd he.1 (yQ hx hm)
    ·by_cases hy:∃gs z,y= .gd gs z
     ·obtain⟨gs,z,rfl⟩:=hy;refine .inr ⟨by simp[Go.Proofs.YtalagilebkaegaaGreat.assumeE,hm],MV t λe he=> ?_⟩;rw[hh]at he;exact⟨gs,z, .inl he.2.symm⟩
     ·refine .inl λe=> ?_;have he:assumeE x b (.gd hs y)=C5 (hs.filter λh=> !(h.1.beq x&&h.2==b)) y:=by
       simp only[Go.Proofs.YtalagilebkaegaaGreat.assumeE,hm,Ba,if_false];cases y<;>first|rfl|exact absurd ⟨_,_,rfl⟩ hy
      simp only[Option.map_some,he];show _↔BA c.ρ hs/\y=e;rw[<-kP hx];generalize (hs.filter λh=> !(h.1.beq x&&h.2==b))=fs;cases fs with
      |nil=>simp only[C5,E4,true_and];cases y<;>first|exact absurd ⟨_,_,rfl⟩ hy|exact Iff.rfl
      |cons g fs=>exact Iff.rfl
   |_=>exact .inl λe=>Iff.rfl
 refine⟨h.defers,h.size,h.base,λi=>(h.da i).fq hx,λt e hr=> ?_,λt hn=> ?_,h.gw,h.bz,λt e he=> ?_⟩
 ·rcases cases' t with hc|⟨hc,h1,h2⟩
  ·exact h.ents t e ((hc e).1 hr)
  ·rw[hc]at hr;have:Af.dead=e:=hr;subst this;exact⟨h1,h2⟩
 ·rcases cases' t with hc|⟨hc,h1,h2⟩
  ·exact h.off t λe he=>hn e ((hc e).2 he)
  ·exact⟨h1,h2⟩
 ·cases hh:hp t with
  |none=>rw[hh]at he;cases he
  |some e0=>exact h.c6 t e0 hh
end
theorem kW{σ:St}{d:Option Nat}{s:SV}:BR (Ie σ d s)=CZ σ.sl.length (BR σ) d s:=by
 funext i;cases d with
 |none=>simp[Ie,CZ]
 |some d=>
  simp only[Ie,BR,CZ,Ad,List.getElem?_set];by_cases h:d=i
  ·subst h;by_cases h2:d<σ.sl.length
   ·simp[h2]
   ·simp[h2,List.getElem?_eq_none (Nat.le_of_not_lt h2)]
  ·simp[h]
theorem jY{σ:St}{d:Option Nat}{s:SV}:(Ie σ d s).sl.length=σ.sl.length:=by cases d<;>simp[Ie]
theorem kT{σ:St}{d:Option Nat}{s:SV}:(Ie σ d s).hp=σ.hp:=by cases d<;>rfl
theorem lC{σ:St}{d:Option Nat}{s:SV}:(Ie σ d s).nv=σ.nv:=by cases d<;>rfl
theorem zzB(l:List (Nat × Af))(t:Nat)(e:Af)(u:Nat):AO (MC l t e) u=if u=t then some e else AO l u:=by
 induction l with
 |nil=>
  simp only[MC,AO];by_cases h:t=u
  ·simp[h]
  ·rw[if_neg h,if_neg (Ne.symm h)]
 |cons p l ih=>
  obtain⟨v,f⟩:=p;simp only[MC];split
  ·rename_i hv;subst hv;simp only[AO];by_cases h:v=u
   ·simp[h]
   ·rw[if_neg h,if_neg (Ne.symm h),if_neg h]
  ·rename_i hv;simp only[AO];by_cases h:v=u
   ·subst h;rw[if_pos rfl,if_neg hv,if_pos rfl]
   ·rw[if_neg h,ih,if_neg h]
theorem w6:∀(ents:List (Nat × Af)) (l:List (Nat × Af)),AO (ents.foldl (λl (p:Nat × Af)=>MC l p.1 p.2) l)=Bp (AO l) ents
 | [],l=>rfl
 |(t,e)::ents,l=>by
  simp only[List.foldl_cons];rw[w6 ents];have:AO (MC l t e)=λu=>if u=t then some e else AO l u:=by funext u;exact zzB l t e u
  rw[this];rfl
section
variable {P:Program} {sg:BY} {Rt:Nat->List AV->AV->Prop} {ops:Array Oper}
theorem zI{σ:St}{gs:Gd}{o:Oper}{e:Bh}:BR (Mf σ gs o e)=CZ σ.sl.length (BR σ) o.dst (mkGd gs e.val):=by rw[<-kW];rfl
theorem zxb{σ:St}{gs:Gd}{o:Oper}{e:Bh}:AO (Mf σ gs o e).hp=Bp (AO σ.hp) e.bq:=by
 have:(Mf σ gs o e).hp=e.bq.foldl (λl (p:Nat × Af)=>MC l p.1 p.2) σ.hp:=by show e.bq.foldl (λl (p:Nat × Af)=>MC l p.1 p.2) (Ie σ o.dst (mkGd gs e.val)).hp=_;rw[kT]
 rw[this,w6]
theorem yF{σ:St}{gs:Gd}{o:Oper}{e:Bh}:(Mf σ gs o e).sl.length=σ.sl.length:=by show(Ie σ o.dst (mkGd gs e.val)).sl.length=_;rw[jY]
theorem nE{σ:St}{gs:Gd}{o:Oper}{e:Bh}:(Mf σ gs o e).nv=if e.call.isSome||e.ch.isSome then σ.nv+1 else σ.nv:=by show(if e.call.isSome||e.ch.isSome then(Ie σ o.dst (mkGd gs e.val)).nv+1 else(Ie σ o.dst (mkGd gs e.val)).nv)=_;rw[lC]
theorem nK{R:AV->Prop}{gs:Gd}{k:Tr}{L:LK}{js:List JK}{ρ:List AV}:∀{cs:List Cn},(cs.foldr (λc k=> .cj gs c k) k:Tr).den Rt R L js ρ->(BA ρ gs-> ∀q∈cs,q.den ρ)/\k.den Rt R L js ρ
 | [],h=>⟨by simp,h⟩
 |c::cs,h=>by
  obtain⟨h1,h2⟩:=h;obtain⟨h3,h4⟩:=nK h2;refine⟨λhg q hq=> ?_,h4⟩;rcases Ae.1 hq with rfl|hq
  ·exact h1 hg
  ·exact h3 hg q hq
theorem zwX{l:List (Nat × Af)}{R:List Nat}{t:Nat}{e:Af}(h:QH l R t=some e):AO l t=some e:=by
 unfold QH at h;split at h
 ·exact h
 ·cases h
theorem wY{f:Nat ⊕ E}{as_:EL}{ρ τ:List AV}{r:AV}(h1:(match f with| .inl _=>true| .inr x=>x.sc ρ.length)=true)(h2:as_.sc ρ.length=true):IZ Rt f (as_.den (ρ++τ)) (ρ++τ) r↔IZ Rt f (as_.den ρ) ρ r:=by
 rw[zAI h2];cases f with
 |inl f=>exact Iff.rfl
 |inr x=>simp only[IZ];rw[den_app h1]
theorem EL.ju{n:Nat}:∀{l:List E},l.all (E.sc n)=true->(EL.of l).sc n=true
 | [],_=>rfl
 |x::l,h=>by simp only[List.all_cons,Ab]at h;simp only[EL.of,EL.sc,Ab];exact⟨h.1,EL.ju h.2⟩
structure Jy(F:Fix)(c:Cx)(σ:St)(a:Act)(n m:Nat):Prop where
 w0:c.w0=F.w0
 A:c.A=F.A
 Mu:c.Mu=F.Mu
 nv:c.ρ.length=σ.nv
 len:σ.sl.length=n
 U:∀t,c.U t->t<m
 rel:Rel c n (BR σ) (AO σ.hp) a
theorem Jy.ext{F:Fix}{c:Cx}{σ:St}{a:Act}{n m:Nat}(h:Jy F c σ a n m)(hs:σ.sc=true)(τ:List AV):Rel (c.ext τ) n (BR σ) (AO σ.hp) a:=
 h.rel.ext (λi=>by rw[h.nv];exact St.kz hs i) (λt e he=>by rw[h.nv];exact St.km hs t e he) τ
theorem zEZ(AW:O8 P sg Rt)(Et:WK P sg){F:Fix}{c:Cx}{σ:St}{a:Act}{n i base:Nat}{o:Oper}{gs:Gd}{e:Bh}{k:Tr}{R:AV->Prop}{L:LK}{js:List JK}{Q:Exit->Act->World->Prop}{K:Act->World->Prop}
  (hi:ops[i]?=some o) (hm:Jy F c σ a n (base+BW*i)) (Eh:WM c.ρ ops o a (some gs)) {Rs:List Nat} (he:Mt P sg (BR σ) (QH σ.hp Rs) σ.nv (base+BW*i) gs o=some e) (Fe:Td σ.nv (base+BW*i) σ.hp gs e=true)
  (Uh:(e.call.isSome||e.ch.isSome)=true->σ.sc=true) (hd:(aK gs e k).den Rt R L js c.ρ)
  (hK:∀(c':Cx) (a':Act),c.ρ<+:c'.ρ->Jy F c' (Mf σ gs o e) a' n (base+BW*(i+1))->k.den Rt R L js c'.ρ->K a' c'.w):wpOp P ops Q i K a c.w:=by
 simp only[Td,Ab,A3]at Fe;obtain⟨⟨⟨⟨BL,Bb⟩,Hl⟩,qF⟩,dX⟩:=Fe;have BI:gs≠ []-> ∀t x,(t,x)∈e.bq->base+BW*i<=t/\t<base+BW*i+BW/\ ∃hs y,x= .gd hs y/\MD gs hs=true:=by
  intro BB t x hx;have:=dX _ hx;have TM:gs.isEmpty=false:=by cases gs;exact absurd rfl BB;rfl
  simp only[TM,Bool.false_or,Bool.false_and,Bool.or_false,Ab,AI]at this;refine⟨this.1.1,this.1.2,?_⟩;have h3:=this.2;split at h3
  ·exact⟨_,_,rfl,h3⟩
  ·cases h3
 have Bg:∀t,base+BW*i<=t->t<base+BW*i+BW-> ¬c.U t:=λt h1 _ h3=>by have:=hm.U t h3;omega
 have Gy:∀(τ:List AV),Rel (c.ext τ) n (BR σ) (AO σ.hp) a->τ.length=(if e.call.isSome||e.ch.isSome then 1 else 0)->k.den Rt R L js (c.ρ++τ)->(BA c.ρ gs-> ∀q∈e.cj,q.den c.ρ)->
   (∀cl,e.call=some cl-> ∃r,τ=[r]/\(BA c.ρ gs->IZ Rt cl.fn ((EL.of cl.args).den c.ρ) c.ρ r))->(∀x,e.ch=some x->τ=[.bool (Li a o)])->wpOp P ops Q i K a c.w:=by
  intro τ hrel hτ hk hc Bu Dc;have Gu:σ.nv=c.ρ.length:=hm.nv.symm;rw[Gu]at BL Bb Hl;have TW:∀r,τ=[r]->(c.ρ++τ)[σ.nv]?=some r:=by rintro r rfl;rw[Gu];simp
  refine rH (c:=c.ext τ) AW hi hrel ⟨λhg=>Eh.1 ((Me BL).1 hg),λhg=>Eh.2 λk=>hg ((Me BL).2 k)⟩ (λ_ _=>rfl) (λt e h=>zwX h) Bg he BI (λhg q hq=> ?_) (λcl Aw=> ?_) (λx hx _=>TW _ (Dc x hx)) (λa' c' Bi hr=> ?_)
  ·exact(Cn.jh (Bb q hq)).2 (hc ((Me BL).1 hg) q hq)
  ·obtain⟨r,rfl,h2⟩:=Bu cl Aw;rw[Aw]at Hl;simp only[Ab]at Hl;exact⟨r,TW r rfl,λhg=>(wY Hl.1 (EL.ju Hl.2)).2 (h2 ((Me BL).1 hg))⟩
  ·have hρ:c'.ρ=c.ρ++τ:=Bi.ρ;refine hK c' a' ⟨τ,hρ.symm⟩ ⟨Bi.w0.trans hm.w0,Bi.A.trans hm.A,Bi.Mu.trans hm.Mu,?_,by rw[yF];exact hm.len,λt ht=> ?_,?_⟩ (by rw[hρ];exact hk)
   ·rw[hρ,nE,AH,hτ,Gu];split<;>rfl
   ·have hmul:base+BW*(i+1)=base+BW*i+BW:=by rw[Nat.mul_add];omega
    rw[hmul];rcases Bi.U t ht with h|h
    ·have:=hm.U t h;omega
    ·exact h.2
   ·rw[zI,zxb,hm.len];exact hr
 unfold aK at hd;obtain⟨hc,hd⟩:=nK hd;cases Aw:e.call with
 |none=>
  simp only[Aw]at hd;cases Dc:e.ch with
  |none=>simp only[Dc]at hd;refine Gy [] (by have:=hm.rel;simpa[Cx.ext]using this) (by simp[Aw,Dc]) (by simpa using hd) hc (λcl h=>by rw[Aw]at h;cases h) (λx h=>by rw[Dc]at h;cases h)
  |some x=>simp only[Dc]at hd;have Gx:=Uh (by simp[Dc]);refine Gy [.bool (Li a o)] (hm.ext Gx _) (by simp[Dc]) (hd _ λhg hb=> ?_) hc (λcl h=>by rw[Aw]at h;cases h) (λx h=>rfl);exact Et c n _ _ _ a _ _ o gs e _ x ⟨hm.rel,hg,λ_ _=>rfl,λt e h=>zwX h,λt h1 h2=>Bg t h1 (Nat.lt_of_lt_of_le h2 (Nat.add_le_add_left (by decide) _))⟩ he Dc hb
 |some cl=>
  simp only[Aw]at hd;cases Dc:e.ch with
  |some x=>rw[Dc]at qF;simp[Aw]at qF
  |none=>simp only[Dc]at hd;obtain⟨r,h1,h2⟩:=hd;have Gx:=Uh (by simp[Aw]);refine Gy [r] (hm.ext Gx _) (by simp[Aw]) h2 hc (λcl' h=>by rw[Aw]at h;cases h;exact⟨r,rfl,h1⟩) (λx h=>by rw[Dc]at h;cases h)
theorem zzC{σ:St}{x:E}{b:Bool}{d:Nat}:BR (assume x b d σ)=CZ σ.sl.length (λi=>assumeS x b (BR σ i)) (some d) (.e (.bool b)):=by
 funext i;simp only[assume,BR,CZ,Ad,List.getElem?_set,List.length_map,List.getElem?_map];by_cases h:d=i
 ·subst h;by_cases h2:d<σ.sl.length
  ·simp[h2]
  ·simp[h2,List.getElem?_eq_none (Nat.le_of_not_lt h2),assumeS]
 ·simp only[h,false_and,if_false];cases hh:σ.sl[i]?<;>simp[assumeS]
theorem zzq{σ:St}{x:E}{b:Bool}{d:Nat}:AO (assume x b d σ).hp=λt=>(AO σ.hp t).map (assumeE x b):=by funext t;exact zAw _ _ _
theorem Jy.assume{F:Fix}{c:Cx}{σ:St}{a:Act}{n m:Nat}(h:Jy F c σ a n m){x:E}{b:Bool}(hx:x.den c.ρ= .bool b){d:Nat}(hd:BR σ d= .e x):Jy F c (Go.Proofs.YtalagilebkaegaaGreat.assume x b d σ) a n m:=by
 refine⟨h.w0,h.A,h.Mu,h.nv,?_,h.U,?_⟩
 ·simp only[Go.Proofs.YtalagilebkaegaaGreat.assume,List.length_set,List.length_map];exact h.len
 ·rw[zzC,zzq];have hr:=h.rel.fq hx;refine{hr with da:=λi=> ?_};unfold CZ;split
  ·rename_i hi;obtain⟨hi,_⟩:=hi;cases hi;have:=h.rel.da d;rw[hd]at this;generalize a.tmps.getD d Go.undef=v at this;cases this with
   |e h1 h2 _=>exact .e (f:=[]) (by rw[hx]at h1;rw[IV h1 rfl];exact .bool .nil) (by simp) .nil
  ·exact hr.da i
theorem zzA(AW:O8 P sg Rt)(Et:WK P sg){F:Fix}{base:Nat}{R:AV->Prop}{L:LK}{js:List JK}{Q:Exit->Act->World->Prop}{n:Nat}{next:List Log->St->Option Tr}{i:Nat}{o:Oper}{lg:List Log}{rest:List Nat}(hi:ops[i]?=some o)
  (CO:∀(lg:List Log) (σ:St) (t:Tr),next lg σ=some t-> ∀(c:Cx) (a:Act),Jy F c σ a n (base+BW*(i+1))->t.den Rt R L js c.ρ->(∀(c':Cx) (a':Act) (σ':St),c.ρ<+:c'.ρ->L js .normal σ' c'.ρ->G6 F c'.ρ σ' a' c'.w->Q .normal a' c'.w)->wpOps P ops Q rest a c.w):
  ∀(m:Nat) (σ:St) (t:Tr),UC P sg ops false base next i o lg m σ=some t->
  ∀(c:Cx) (a:Act),Jy F c σ a n (base+BW*i)->t.den Rt R L js c.ρ->(∀(c':Cx) (a':Act) (σ':St),c.ρ<+:c'.ρ->L js .normal σ' c'.ρ->G6 F c'.ρ σ' a' c'.w->Q .normal a' c'.w)->wpOps P ops Q (i::rest) a c.w:=by
 have OQ:base+BW*i<=base+BW*(i+1):=by rw[Nat.mul_add];omega
 have try_:∀(fail:Unit->Option Tr) (σ:St) (t:Tr),UB P sg ops false base next i o lg fail σ=some t-> ∀(c:Cx) (a:Act),Jy F c σ a n (base+BW*i)->t.den Rt R L js c.ρ->(∀(c':Cx) (a':Act) (σ':St),c.ρ<+:c'.ρ->L js .normal σ' c'.ρ->G6 F c'.ρ σ' a' c'.w->Q .normal a' c'.w)->
   (fail ()=some t->wpOps P ops Q (i::rest) a c.w)->wpOps P ops Q (i::rest) a c.w:=by
  intro fail σ t ht c a hm hd hq TQ;unfold UB at ht;cases Hf:PH σ ops o with
  |none=>rw[Hf]at ht;cases ht
  |some r=>
   have Eh:=lY (c:=c) (a:=a) Hf (λj want d _ _=>hm.rel.da d);rw[Hf]at ht;cases r with
   |none=>simp only at ht;rw[wpOps_cons];unfold wpOp;simp only[hi];rw[if_neg (by simp[show Region.wanted o (yielded ops a.tmps)=false from Eh])];refine CO lg _ t ht c _ ⟨hm.w0,hm.A,hm.Mu,by rw[lC];exact hm.nv,by rw[jY];exact hm.len,λt ht=>Nat.lt_of_lt_of_le (hm.U t ht) OQ,?_⟩ hd hq;rw[kW,kT,hm.len];exact hm.rel.put oF o.dst
   |some gs=>
    simp only at ht;split at ht
    ·rename_i e he;split at ht
     ·cases ht
     ·rename_i AA;split at ht
      ·cases ht
      ·rename_i k hk;simp only[Ad]at ht;subst ht;simp only[Bool.false_and,Bool.false_or,Bool.not_false,Bool.true_and,Bool.or_eq_true,Bc,Ab,not_or,Bool.not_eq_false]at AA;rw[wpOps_cons];refine zEZ AW Et hi hm Eh he AA.1 (λhh=> ?_) hd λc' a' hp C7 Cw=>CO _ _ k hk c' a' C7 Cw λc'' a'' σ' hp'=>hq c'' a'' σ' (hp.trans hp');have:=AA.2;simp only[Bool.or_eq_true]at hh;simpa[hh]using this
    ·exact TQ ht
 intro m
 induction m with
 |zero=>exact λσ t ht c a hm hd hq=>try_ _ σ t ht c a hm hd hq λh=>by cases h
 |succ m ih=>
  intro σ t ht c a hm hd hq;refine try_ _ σ t ht c a hm hd hq λh=> ?_;split at h
  ·rename_i d _ _;split at h
   ·rename_i x Qk;split at h
    ·rename_i k1 k0 GN Ql;simp only[Ad]at h;subst h;obtain⟨tt,h1,h2,h3⟩:=hd;cases tt with
     |true=>exact ih _ k1 GN c a (hm.assume h1 Qk) (h2 rfl) hq
     |false=>exact ih _ k0 Ql c a (hm.assume h1 Qk) (h3 rfl) hq
    ·cases h
   ·cases h
  ·cases h
theorem qX(AW:O8 P sg Rt)(Et:WK P sg){F:Fix}{base:Nat}{R:AV->Prop}{L:LK}{js:List JK}{Q:Exit->Act->World->Prop}{n:Nat}:∀(len i:Nat) (lg:List Log) (σ:St) (t:Tr),i+len=ops.size->My P sg ops false base (List.range' i len) lg σ=some t->
  ∀(c:Cx) (a:Act),Jy F c σ a n (base+BW*i)->t.den Rt R L js c.ρ->(∀(c':Cx) (a':Act) (σ':St),c.ρ<+:c'.ρ->L js .normal σ' c'.ρ->G6 F c'.ρ σ' a' c'.w->Q .normal a' c'.w)->wpOps P ops Q (List.range' i len) a c.w
 |0,i,lg,σ,t,hl,ht,c,a,hm,hd,hq=>by
  simp only[List.range'_zero,My,Bool.false_and,Ba,if_false,Ad]at ht ⊢;subst ht;refine hq c a _ (List.prefix_refl _) hd ⟨c,rfl,rfl,hm.w0,hm.A,hm.Mu,hm.nv,λt ht=> ?_,?_⟩
  ·have:=hm.U t ht;have h9:i=ops.size:=by omega
   subst h9;exact this
  ·have:=hm.rel;rw[<-hm.len]at this;exact this
 |len+1,i,lg,σ,t,hl,ht,c,a,hm,hd,hq=>by
  rw[List.range'_succ]at ht ⊢;unfold My at ht;obtain⟨o,hi⟩:∃o,ops[i]?=some o:=⟨ops[i]'(by omega),by simp[show i<ops.size by omega]⟩
  rw[hi]at ht;simp only at ht;exact zzA AW Et hi (λlg σ t ht c a=>qX AW Et (n:=n) len (i+1) lg σ t (by omega) ht c a) 4 σ t ht c a hm hd hq
end
def fL(l:List Oper)(bs:List Nat):Prop:=bs.length=l.length/\ ∀(j:Nat) (o:Oper),l[j]?=some o-> ∀i,((bs[j]?).getD 0).testBit i=true-> ∃e∈o.after.toList,Region.binds .any e=true/\(i=e.on\/(e.on<j/\((bs[e.on]?).getD 0).testBit i=true))
theorem vF(acc:List Nat)(i:Nat):∀(es:List Edge) (s:Nat),(es.foldl (λs e=>if Region.binds .any e then s|||2^e.on|||(acc[e.on]?).getD 0 else s) s).testBit i=true->
  s.testBit i=true\/ ∃e∈es,Region.binds .any e=true/\(i=e.on\/((acc[e.on]?).getD 0).testBit i=true)
 | [],s,h=> .inl h
 |e::es,s,h=>by
  simp only[List.foldl_cons]at h;rcases vF acc i es _ h with h|⟨e',h1,h2⟩
  ·split at h
   ·rename_i hb;simp only[Nat.testBit_or,Nat.testBit_two_pow,Bool.or_eq_true,AI]at h;rcases h with(h|h)|h
    ·exact .inl h
    ·exact .inr ⟨e,by simp,hb, .inl h.symm⟩
    ·exact .inr ⟨e,by simp,hb, .inr h⟩
   ·exact .inl h
  ·exact .inr ⟨e',by simp[h1],h2⟩
theorem xY:∀(os pre:List Oper) (acc:List Nat),fL pre acc->fL (pre++os) (KY os acc)
 | [],pre,acc,h=>by simpa[KY]using h
 |o::os,pre,acc,h=>by
  obtain⟨hl,hb⟩:=h;have:=xY os (pre++ [o]) (acc++ [nY acc o]) ⟨by simp[hl],λj o' ho i hi=> ?_⟩
  ·simpa[KY]using this
  ·have Ax:∀k,k<acc.length->((acc++ [nY acc o])[k]?).getD 0=(acc[k]?).getD 0:=λk hk=>by rw[List.getElem?_append_left hk]
   by_cases hj:j<pre.length
   ·rw[List.getElem?_append_left hj]at ho;rw[Ax j (by omega)]at hi;obtain⟨e,h1,h2,h3⟩:=hb j o' ho i hi;exact⟨e,h1,h2,h3.imp id λh=>⟨h.1,by rw[Ax _ (by omega)];exact h.2⟩⟩
   ·rw[List.getElem?_append_right (by omega)]at ho;have hj0:j-pre.length=0:=by
     cases hh:j-pre.length with
     |zero=>rfl
     |succ k=>rw[hh]at ho;simp at ho
    rw[hj0]at ho;simp at ho;subst ho;have OH:j=acc.length:=by omega
    rw[OH,List.getElem?_append_right (AN _)]at hi;simp only[Nat.sub_self,List.getElem?_cons_zero,Dp]at hi;rcases vF acc i _ 0 hi with h|⟨e,h1,h2,h3⟩
    ·simp at h
    ·refine⟨e,h1,h2,h3.imp id λh=> ?_⟩;have he:e.on<acc.length:=by
      rcases Nat.lt_or_ge e.on acc.length with hh|hh
      ·exact hh
      ·rw[List.getElem?_eq_none hh]at h;simp at h
     exact⟨by omega,by rw[Ax _ he];exact h⟩
def Wy(ops:Array Oper)(S:Nat->Bool):Prop:= ∀k o,S k=true->ops[k]?=some o-> ∀e∈o.after.toList,Region.binds .any e=true->S e.on=true
theorem sS(ops:Array Oper):fL ops.toList (KY ops.toList []):=by have:=xY ops.toList [] [] ⟨rfl,by simp⟩;simpa using this
theorem xU{ops:Array Oper}{S:Nat->Bool}(hS:Wy ops S):∀(k i:Nat),S k=true->k<ops.size->(((KY ops.toList [])[k]?).getD 0).testBit i=true->S i=true:=by
 intro k
 induction k using Nat.strongRecOn with
 |_ k ih=>
  intro i hk Ax hb;have ho:ops.toList[k]?=some ops[k]:=by simp[Ax]
  obtain⟨e,h1,h2,h3⟩:=(sS ops).2 k _ ho i hb;have Ub:=hS k ops[k] hk (by simp[Ax]) e h1 h2;rcases h3 with rfl|⟨h3,h4⟩
  ·exact Ub
  ·exact ih e.on h3 i Ub (by omega) h4
theorem zAM{ops:Array Oper}{S:Nat->Bool}(hS:Wy ops S){j i:Nat}{o:Oper}(ho:ops[j]?=some o)(hr:∀e∈o.after.toList,Region.binds .any e=true->S e.on=true)(hb:(((KY ops.toList [])[j]?).getD 0).testBit i=true):S i=true:=by
 have Ax:j<ops.size:=(Array.getElem?_eq_some_iff.1 ho).1;obtain⟨e,h1,h2,h3⟩:=(sS ops).2 j o (by simpa using ho) i hb;have Ub:=hr e h1 h2;rcases h3 with rfl|⟨h3,h4⟩
 ·exact Ub
 ·exact xU hS e.on i Ub (by omega) h4
theorem zzM{ops:Array Oper}{S:Nat->Bool}(hS:Wy ops S){j i:Nat}{o:Oper}(ho:ops[j]?=some o)(hi:i<ops.size)(hj:S j=false)(hr:∀e∈o.after.toList,Region.binds .any e=true->S e.on=true)(BB:i≠j)(LL:J9 (KY ops.toList []) i j=true):S i=decide (i<j):=by
 unfold J9 at LL;split at LL
 ·rename_i h;rw[zAM hS ho hr LL];simp[h]
 ·rename_i h;cases hs:S i with
  |false=>simp[h]
  |true=>have:=xU hS i j hs hi LL;rw[hj]at this;cases this
structure Rec where
 i:Nat
 o:Oper
 σ:St
 r:Option (Gd × Bh)
def Rec.next(x:Rec):St:=match x.r with|none=>Ie x.σ x.o.dst HB|some (gs,e)=>Mf x.σ gs x.o e
def Rec.val(x:Rec):SV:=match x.r with|none=>HB|some (gs,e)=>mkGd gs e.val
def Rec.bq(x:Rec):List (Nat × Af):=match x.r with|none=> []|some (_,e)=>e.bq
def sJ(P:Program)(sg:BY)(Rt:Nat->List AV->AV->Prop)(ops:Array Oper)(base:Nat)(ρ:List AV)(x:Rec):Prop:=
 ops[x.i]?=some x.o/\match x.r with
  |none=>PH x.σ ops x.o=some none
  |some (gs,e)=>PH x.σ ops x.o=some (some gs)/\Mt P sg (BR x.σ) (QH x.σ.hp (Wc x.σ gs x.o)) x.σ.nv (base+BW*x.i) gs x.o=some e/\e.ch=none/\Td x.σ.nv (base+BW*x.i) x.σ.hp gs e=true/\
   (BA ρ gs-> ∀q∈e.cj,q.den ρ)/\ ∀cl,e.call=some cl-> ∃r,ρ[x.σ.nv]?=some r/\(BA ρ gs->IZ Rt cl.fn ((EL.of cl.args).den ρ) ρ r)
def El:Nat->St->List Rec->St->Prop
 |_,σ,[],σ'=>σ=σ'
 |i,σ,x::xs,σ'=>x.i=i/\x.σ=σ/\El (i+1) x.next xs σ'
def Rec.log(x:Rec):Option Log:=x.r.map λ(gs,e)=>⟨x.i,Wc x.σ gs x.o,e.bq.map (·.1)⟩
theorem lL{P:Program}{sg:BY}{Rt:Nat->List AV->AV->Prop}{ops:Array Oper}{base:Nat}{R:AV->Prop}{L:LK}{js:List JK}:∀(len i:Nat) (lg:List Log) (σ:St) (t:Tr) (ρ:List AV),i+len=ops.size->
  My P sg ops true base (List.range' i len) lg σ=some t->t.den Rt R L js ρ->ρ.length=σ.nv->
  ∃(τ:List AV) (xs:List Rec) (σ':St) (lg':List Log),El i σ xs σ'/\xs.length=len/\(∀x∈xs,sJ P sg Rt ops base (ρ++τ) x)/\(ρ++τ).length=σ'.nv/\L js .normal {σ' with nx:=base+BW*ops.size} (ρ++τ)/\aR ops lg'=true/\(∀y∈lg,y∈lg')/\ ∀x∈xs,∀y,x.log=some y->y∈lg'
 |0,i,lg,σ,t,ρ,hl,ht,hd,hn=>by
  simp only[List.range'_zero,My,Bool.true_and]at ht;split at ht
  ·cases ht
  ·rename_i W2;simp only[Ad]at ht;subst ht;exact⟨[],[],σ,lg,rfl,rfl,by simp,by simpa using hn,by simpa[Tr.den]using hd,by simpa using W2,λy hy=>hy,by simp⟩
 |len+1,i,lg,σ,t,ρ,hl,ht,hd,hn=>by
  rw[List.range'_succ]at ht;unfold My at ht;obtain⟨o,hi⟩:∃o,ops[i]?=some o:=⟨ops[i]'(by omega),by simp[show i<ops.size by omega]⟩
  rw[hi]at ht;simp only at ht;unfold UC UB at ht;cases Hf:PH σ ops o with
  |none=>rw[Hf]at ht;cases ht
  |some r=>
   rw[Hf]at ht;cases r with
   |none=>
    simp only at ht;obtain⟨τ,xs,σ',lg',h1,h2,h3,h4,h5,h6,h7,h8⟩:=lL len (i+1) lg _ t ρ (by omega) ht hd (by rw[lC];exact hn);refine⟨τ,⟨i,o,σ,none⟩::xs,σ',lg',⟨rfl,rfl,h1⟩,by simp[h2],λx hx=> ?_,h4,h5,h6,h7,λx hx y hy=> ?_⟩
    ·rcases Ae.1 hx with rfl|hx
     ·exact⟨hi,Hf⟩
     ·exact h3 x hx
    ·rcases Ae.1 hx with rfl|hx
     ·simp[Rec.log]at hy
     ·exact h8 x hx y hy
   |some gs=>
    simp only at ht;split at ht
    ·rename_i e he;split at ht
     ·cases ht
     ·rename_i AA;simp only[Bool.true_and,Bool.not_true,Bool.false_and,Bool.or_false,Bool.or_eq_true,Bc,not_or,Bool.not_eq_false]at AA;have Dc:e.ch=none:=by cases hh:e.ch with|none=>rfl|some x=>rw[hh]at AA;simp at AA
      split at ht
      ·cases ht
      ·rename_i k hk;simp only[Ad]at ht;subst ht;have Fe:=AA.2;simp only[Td,Ab,A3]at Fe;obtain⟨⟨⟨⟨BL,Bb⟩,Hl⟩,_⟩,_⟩:=Fe;rw[<-hn]at BL Bb Hl;unfold aK at hd;obtain⟨hc,hd⟩:=nK hd;simp only[Dc]at hd;obtain⟨τ0,hτ0,Bu,Cw⟩:∃τ0:List AV,(ρ++τ0).length=(Mf σ gs o e).nv/\(∀cl,e.call=some cl-> ∃r,τ0=[r]/\(BA ρ gs->IZ Rt cl.fn ((EL.of cl.args).den ρ) ρ r))/\k.den Rt R L js (ρ++τ0):=by
        cases Aw:e.call with
        |none=>rw[Aw]at hd;exact⟨[],by rw[nE];simp[Aw,Dc,hn],by simp,by simpa using hd⟩
        |some cl=>rw[Aw]at hd;obtain⟨r,h1,h2⟩:=hd;exact⟨[r],by rw[nE];simp[Aw,hn],λcl' h=>by cases h;exact⟨r,rfl,h1⟩,h2⟩
       obtain⟨τ,xs,σ',lg',h1,h2,h3,h4,h5,h6,h7,h8⟩:=lL len (i+1) _ _ k (ρ++τ0) (by omega) hk Cw hτ0;have bM:ρ++τ0++τ=ρ++(τ0++τ):=List.append_assoc ..;rw[bM]at h3 h4 h5;refine⟨τ0++τ,⟨i,o,σ,some (gs,e)⟩::xs,σ',lg',⟨rfl,rfl,h1⟩,by simp[h2],λx hx=> ?_,h4,h5,h6,λy hy=>h7 y (by simp[hy]),λx hx y hy=> ?_⟩
       ·rcases Ae.1 hx with rfl|hx
        ·refine⟨hi,Hf,he,Dc,AA.2,λhg q hq=>(Cn.jh (Bb q hq)).2 (hc ((Me BL).1 hg) q hq),λcl Aw=> ?_⟩;obtain⟨r,hr,h2⟩:=Bu cl Aw;rw[Aw]at Hl;simp only[Ab]at Hl;subst hr;exact⟨r,by simp only;rw[<-hn];simp,λhg=>(wY Hl.1 (EL.ju (by simpa using Hl.2))).2 (h2 ((Me BL).1 hg))⟩
        ·exact h3 x hx
       ·rcases Ae.1 hx with rfl|hx
        ·simp only[Rec.log,Option.map_some,Ad]at hy;subst hy;exact h7 _ (by simp)
        ·exact h8 x hx y hy
    ·cases ht
def Gz(n:Nat)(sl0:Nat->SV)(xs:List Rec)(S:Nat->Bool):Nat->SV:=xs.foldl (λsl x=>if S x.i then CZ n sl x.o.dst x.val else sl) sl0
def Hj(hp0:Nat->Option Af)(xs:List Rec)(S:Nat->Bool):Nat->Option Af:=xs.foldl (λhp x=>if S x.i then Bp hp x.bq else hp) hp0
section
variable {n:Nat} {S S':Nat->Bool} {d t:Nat}
theorem VR:∀(xs:List Rec) {sl sl':Nat->SV},sl d=sl' d->(∀x∈xs,x.o.dst=some d->S x.i=S' x.i)->Gz n sl xs S d=Gz n sl' xs S' d
 | [],_,_,h,_=>h
 |x::xs,sl,sl',h,hs=>by
  refine VR xs (sl:=if S x.i then CZ n sl x.o.dst x.val else sl) (sl':=if S' x.i then CZ n sl' x.o.dst x.val else sl') ?_ λy hy=>hs y (by simp[hy]);by_cases hd:x.o.dst=some d
  ·rw[<-hs x (by simp) hd];split
   ·simp only[CZ,hd,true_and];rw[h]
   ·exact h
  ·have hu:∀sl:Nat->SV,CZ n sl x.o.dst x.val d=sl d:=λsl=>by simp[CZ,hd]
   have h1:(if S x.i then CZ n sl x.o.dst x.val else sl) d=sl d:=by split;exact hu sl;rfl
   have h2:(if S' x.i then CZ n sl' x.o.dst x.val else sl') d=sl' d:=by split;exact hu sl';rfl
   rw[h1,h2,h]
theorem mM(xs:List Rec){sl:Nat->SV}(hs:∀x∈xs,x.o.dst=some d->S x.i=false):Gz n sl xs S d=sl d:=by
 have h1:=VR (n:=n) (S:=S) (S':=λ_=>false) xs (sl:=sl) (sl':=sl) (d:=d) rfl hs;rw[h1];clear h1 hs
 induction xs generalizing sl with
 |nil=>rfl
 |cons x xs ih=>exact ih
theorem eZ(hd:n<=d):∀(xs:List Rec) {sl:Nat->SV},Gz n sl xs S d=sl d
 | [],_=>rfl
 |x::xs,sl=>by
  have:=eZ hd xs (sl:=if S x.i then CZ n sl x.o.dst x.val else sl);refine Eq.trans this ?_;split
  ·simp only[CZ];rw[if_neg (by omega)]
  ·rfl
theorem rT{y:Rec}(hd:d<n)(hy:y.o.dst=some d)(hS:S y.i=true):∀(xs:List Rec) {sl:Nat->SV},y∈xs->(∀x∈xs,x≠y->x.o.dst≠some d)->Gz n sl xs S d=y.val
 | [],_,h,_=>by simp at h
 |x::xs,sl,h,hu=>by
  by_cases hm:y∈xs
  ·exact rT hd hy hS xs (sl:=if S x.i then CZ n sl x.o.dst x.val else sl) hm λz hz=>hu z (by simp[hz])
  ·have hx:y=x:=by rcases Ae.1 h with h|h;exact h;exact absurd h hm
   subst hx;have:=mM (n:=n) (S:=S) (d:=d) xs (sl:=CZ n sl y.o.dst y.val) (λz hz Qu=>absurd Qu (hu z (by simp[hz]) (λhh=>hm (hh▸hz))));show Gz n (if S y.i then CZ n sl y.o.dst y.val else sl) xs S d=_;rw[if_pos hS,this];simp[CZ,hy,hd]
theorem xB{hp hp':Nat->Option Af}{l:List (Nat × Af)}(h:hp t=hp' t):Bp hp l t=Bp hp' l t:=by
 induction l generalizing hp hp' with
 |nil=>exact h
 |cons p l ih=>
  refine ih ?_;show(if t=p.1 then some p.2 else hp t)=(if t=p.1 then some p.2 else hp' t)
  rw[h]
theorem zxN{hp hp':Nat->Option Af}{l:List (Nat × Af)}(h:t∈l.map (·.1)):Bp hp l t=Bp hp' l t:=by
 induction l generalizing hp hp' with
 |nil=>simp at h
 |cons p l ih=>
  by_cases hm:t∈l.map (·.1)
  ·exact ih hm
  ·have ht:t=p.1:=by simp only[List.map_cons,Ae]at h;exact h.resolve_right hm
   refine xB (l:=l) ?_;show(if t=p.1 then some p.2 else hp t)=(if t=p.1 then some p.2 else hp' t)
   rw[if_pos ht,if_pos ht]
theorem mB{hp:Nat->Option Af}{l:List (Nat × Af)}(h:t∉l.map (·.1)):Bp hp l t=hp t:=
 Mg λe he=>h (List.mem_map.2 ⟨_,he,rfl⟩)
theorem VP:∀(xs:List Rec) {hp hp':Nat->Option Af},hp t=hp' t->(∀x∈xs,t∈x.bq.map (·.1)->S x.i=S' x.i)->Hj hp xs S t=Hj hp' xs S' t
 | [],_,_,h,_=>h
 |x::xs,hp,hp',h,hs=>by
  refine VP xs (hp:=if S x.i then Bp hp x.bq else hp) (hp':=if S' x.i then Bp hp' x.bq else hp') ?_ λy hy=>hs y (by simp[hy]);by_cases hd:t∈x.bq.map (·.1)
  ·rw[<-hs x (by simp) hd];split
   ·exact xB h
   ·exact h
  ·have h1:(if S x.i then Bp hp x.bq else hp) t=hp t:=by split;exact mB hd;rfl
   have h2:(if S' x.i then Bp hp' x.bq else hp') t=hp' t:=by split;exact mB hd;rfl
   rw[h1,h2,h]
theorem mT(xs:List Rec){hp:Nat->Option Af}(hs:∀x∈xs,t∈x.bq.map (·.1)->S x.i=false):Hj hp xs S t=hp t:=by
 have h1:=VP (S:=S) (S':=λ_=>false) xs (hp:=hp) (hp':=hp) (t:=t) rfl hs;rw[h1];clear h1 hs
 induction xs generalizing hp with
 |nil=>rfl
 |cons x xs ih=>exact ih
end
section
variable {n:Nat} {S:Nat->Bool} {d t:Nat}
theorem Rec.kd(x:Rec):BR x.next=CZ x.σ.sl.length (BR x.σ) x.o.dst x.val:=by
 obtain⟨i,o,σ,r⟩:=x;cases r with
 |none=>exact kW
 |some ge=>exact zI
theorem Rec.jz(x:Rec):AO x.next.hp=Bp (AO x.σ.hp) x.bq:=by
 obtain⟨i,o,σ,r⟩:=x;cases r with
 |none=>simp only[Rec.next,Rec.bq,kT];rfl
 |some ge=>exact zxb
theorem Rec.jn(x:Rec):x.next.sl.length=x.σ.sl.length:=by
 obtain⟨i,o,σ,r⟩:=x;cases r with
 |none=>exact jY
 |some ge=>exact yF
theorem El.range:∀{xs:List Rec} {i:Nat} {σ σ':St},El i σ xs σ'-> ∀x∈xs,i<=x.i/\x.i<i+xs.length
 | [],_,_,_,_,x,hx=>by simp at hx
 |y::xs,i,σ,σ',h,x,hx=>by
  rcases Ae.1 hx with rfl|hx
  ·have:=h.1;simp only[Bd];omega
  ·have:=El.range h.2.2 x hx;simp only[Bd];omega
theorem El.ex:∀{xs:List Rec} {i:Nat} {σ σ':St},El i σ xs σ'-> ∀j,i<=j->j<i+xs.length-> ∃x∈xs,x.i=j
 | [],i,_,_,_,j,h1,h2=>by simp at h2;omega
 |y::xs,i,σ,σ',h,j,h1,h2=>by
  by_cases hj:j=i
  ·exact⟨y,by simp,by rw[hj];exact h.1⟩
  ·simp only[Bd]at h2;obtain⟨x,hx,he⟩:=El.ex h.2.2 j (by omega) (by omega);exact⟨x,by simp[hx],he⟩
theorem El.inj:∀{xs:List Rec} {i:Nat} {σ σ':St},El i σ xs σ'-> ∀x∈xs,∀y∈xs,x.i=y.i->x=y
 | [],_,_,_,_,x,hx,_,_,_=>by simp at hx
 |z::xs,i,σ,σ',h,x,hx,y,hy,he=>by
  have hz:=h.1;rcases Ae.1 hx with h1|h1<;>rcases Ae.1 hy with h2|h2
  ·rw[h1,h2]
  ·subst h1;have:=(El.range h.2.2 y h2).1;omega
  ·subst h2;have:=(El.range h.2.2 x h1).1;omega
  ·exact El.inj h.2.2 x h1 y h2 he
theorem El.sl:∀{xs:List Rec} {i:Nat} {σ σ':St},El i σ xs σ'->σ.sl.length=n->(∀x∈xs,x.σ.sl.length=n/\ ∀d,BR x.σ d=Gz n (BR σ) xs (λk=>decide (k<x.i)) d)/\σ'.sl.length=n/\BR σ'=Gz n (BR σ) xs λ_=>true
 | [],i,σ,σ',h,hn=>by have h:σ=σ':=h;subst h;exact⟨by simp,hn,rfl⟩
 |y::xs,i,σ,σ',h,hn=>by
  obtain⟨h1,h2,h3⟩:=h;subst h2;obtain⟨q1,q2,q3⟩:=El.sl h3 (by rw[y.jn];exact hn);rw[y.kd,hn]at q1 q3;refine⟨λx hx=> ?_,q2,q3⟩;rcases Ae.1 hx with rfl|hx
  ·refine⟨hn,λd=>(mM _ λz hz _=> ?_).symm⟩;rcases Ae.1 hz with rfl|hz
   ·simp
   ·have:=(El.range h3 z hz).1;simp only[decide_eq_false_iff_not];omega
  ·refine⟨(q1 x hx).1,λd=> ?_⟩;rw[(q1 x hx).2 d];have:=(El.range h3 x hx).1;show _=Gz n (if decide (y.i<x.i)then CZ n (BR y.σ) y.o.dst y.val else BR y.σ) xs (λk=>decide (k<x.i)) d;rw[if_pos (by simp only[AI];omega)]
theorem El.hp:∀{xs:List Rec} {i:Nat} {σ σ':St},El i σ xs σ'->(∀x∈xs,∀t,AO x.σ.hp t=Hj (AO σ.hp) xs (λk=>decide (k<x.i)) t)/\AO σ'.hp=Hj (AO σ.hp) xs λ_=>true
 | [],i,σ,σ',h=>by have h:σ=σ':=h;subst h;exact⟨by simp,rfl⟩
 |y::xs,i,σ,σ',h=>by
  obtain⟨h1,h2,h3⟩:=h;subst h2;obtain⟨q1,q3⟩:=El.hp h3;rw[y.jz]at q1 q3;refine⟨λx hx=> ?_,q3⟩;rcases Ae.1 hx with rfl|hx
  ·refine λd=>(mT _ λz hz _=> ?_).symm;rcases Ae.1 hz with rfl|hz
   ·simp
   ·have:=(El.range h3 z hz).1;simp only[decide_eq_false_iff_not];omega
  ·intro t;rw[q1 x hx t];have:=(El.range h3 x hx).1;show _=Hj (if decide (y.i<x.i)then Bp (AO y.σ.hp) y.bq else AO y.σ.hp) xs (λk=>decide (k<x.i)) t;rw[if_pos (by simp only[AI];omega)]
theorem rL{y:Rec}{Qm:Nat->Option Af}(hS:S y.i=true)(ht:t∈y.bq.map (·.1)):∀{xs:List Rec} {i:Nat} {σ σ':St} {hp0:Nat->Option Af},El i σ xs σ'->y∈xs->(∀x∈xs,x.i≠y.i->t∈x.bq.map (·.1)->S x.i=decide (x.i<y.i))->Hj hp0 xs S t=Bp Qm y.bq t
 | [],_,_,_,_,_,h,_=>by simp at h
 |x::xs,i,σ,σ',hp0,hc,hm,hs=>by
  by_cases hx:y=x
  ·subst hx;have:=mT (S:=S) (t:=t) xs (hp:=Bp hp0 y.bq) (λz hz Qu=>by
    have Ax:=(El.range hc.2.2 z hz).1;have h1:=hc.1;rw[hs z (by simp[hz]) (by omega) Qu];simp only[decide_eq_false_iff_not];omega)
   show Hj (if S y.i then Bp hp0 y.bq else hp0) xs S t=_;rw[if_pos hS,this];exact zxN ht
  ·have C7:y∈xs:=by rcases Ae.1 hm with h|h;exact absurd h hx;exact h
   exact rL hS ht (hp0:=if S x.i then Bp hp0 x.bq else hp0) hc.2.2 C7 λz hz=>hs z (by simp[hz])
end
theorem yV{α:Type}{p p':α->Bool}:∀(l:List α),(∀k∈l,p' k=true->p k=true)->(∃j∈l,p j=true/\p' j=false)->(l.filter p').length<(l.filter p).length
 | [],_,h=>by obtain⟨j,hj,_⟩:=h;simp at hj
 |x::l,hs,h=>by
  have hle:(l.filter p').length<=(l.filter p).length:=by
   have:∀(l:List α),(∀k∈l,p' k=true->p k=true)->(l.filter p').length<=(l.filter p).length:=by
    intro l
    induction l with
    |nil=>intro _;simp
    |cons y l ih=>
     intro h;have:=ih λk hk=>h k (by simp[hk]);have hy:=h y (by simp);cases h1:p' y with
     |false=>
      cases h2:p y with
      |false=>simpa[h1,h2]using this
      |true=>simp only[List.filter_cons,h1,h2,Ba,if_false,if_true,Bd];omega
     |true=>simpa[h1,hy h1]using this
   exact this l λk hk=>hs k (by simp[hk])
  obtain⟨j,hj,h1,h2⟩:=h;rcases Ae.1 hj with rfl|hj
  ·simp only[List.filter_cons,h1,h2,Ba,if_false,if_true,Bd];omega
  ·have:=yV l (λk hk=>hs k (by simp[hk])) ⟨j,hj,h1,h2⟩;have hx:=hs x (by simp);cases h3:p' x with
   |false=>
    cases h4:p x with
    |false=>simpa[h3,h4]using this
    |true=>simp only[List.filter_cons,h3,h4,Ba,if_false,if_true,Bd];omega
   |true=>simpa[h3,hx h3]using this
section
variable {ops:Array Oper} {listed:Array Bool}
theorem zAa(hb:∀j o,ops[j]?=some o-> ∀e∈o.after.toList,Region.binds .any e=true->e.on<j)(Bo:listed.size=ops.size)(hr:Region.ready .any ops listed=[]):∀k,k<ops.size->listed.getD k true=true:=by
 intro k
 induction k using Nat.strongRecOn with
 |_ k ih=>
  intro hk;cases hs:listed.getD k true with
  |true=>rfl
  |false=>
   have:k∈Region.ready .any ops listed:=mem_ready.2 ⟨hs,ops[k],by simp[hk],λe he Ly=>by
    have Ax:=hb k ops[k] (by simp[hk]) e (by simpa using he) Ly;have:=ih e.on Ax (by omega);have h2:e.on<listed.size:=by omega
    simp only[Array.getD_eq_getD_getElem?,Array.getElem?_eq_getElem h2,Dp]at this ⊢;exact this⟩
   rw[hr]at this;cases this
theorem zCn(Bo:listed.size=ops.size){j:Nat}(hj:j<ops.size)(k:Nat):(listed.setIfInBounds j true).getD k true=(decide (k=j)||listed.getD k true):=by
 by_cases h:j=k
 ·subst h;simp[Array.getD_eq_getD_getElem?,show j<listed.size by omega]
 ·rw[getD_set_ne true h];simp[Ne.symm h]
variable {P:Program} {sg:BY} {Rt:Nat->List AV->AV->Prop}
theorem zyE(AW:O8 P sg Rt){F:Fix}{σ σ':St}{xs:List Rec}{ρ:List AV}{lg:List Log}{n:Nat}{Q:Exit->Act->World->Prop}(hc:El 0 σ xs σ')(hlen:xs.length=ops.size)(AZ:∀x∈xs,sJ P sg Rt ops σ.nx ρ x)(W2:aR ops lg=true)(T1:∀x∈xs,∀y,x.log=some y->y∈lg)(hn:σ.sl.length=n)
  (hQ:∀(c:Cx) (a:Act),c.ρ=ρ->c.w0=F.w0->c.A=F.A->c.Mu=F.Mu->(∀t,c.U t->t<σ.nx+BW*ops.size)->Rel c n (BR σ') (AO σ'.hp) a->Q .normal a c.w):
  ∀(fuel:Nat) (listed:Array Bool) (a:Act) (c:Cx),listed.size=ops.size->Wy ops (λk=>listed.getD k true)->c.ρ=ρ->c.w0=F.w0->c.A=F.A->c.Mu=F.Mu->
   (∀t,c.U t->t<σ.nx\/ ∃k,k<ops.size/\listed.getD k true=true/\σ.nx+BW*k<=t/\t<σ.nx+BW*k+BW)->Rel c n (Gz n (BR σ) xs λk=>listed.getD k true) (Hj (AO σ.hp) xs λk=>listed.getD k true) a->
   ((List.range ops.size).filter λk=> !listed.getD k true).length<=fuel->wpAny P .any ops Q fuel listed a c.w:=by
 simp only[aR,Ab,A3,Bool.or_eq_true,AM,Bc,AI]at W2;obtain⟨⟨d1,d2⟩,d3⟩:=W2;have T6:∀j o,ops[j]?=some o->(o,j)∈ops.toList.zipIdx:=λj o h=>List.mk_mem_zipIdx_iff_getElem?.2 (by simpa using h);have hb:∀j o,ops[j]?=some o-> ∀e∈o.after.toList,Region.binds .any e=true->e.on<j:=λj o h e he Ly=>by
  rcases d2 (o,j) (T6 j o h) e he with h|h
  ·rw[Ly]at h;cases h
  ·exact h
 obtain⟨c1,c2,c3⟩:=hc.sl hn;obtain⟨c4,c5⟩:=hc.hp;have Er:∀(listed:Array Bool) (a:Act) (c:Cx),listed.size=ops.size->c.ρ=ρ->c.w0=F.w0->c.A=F.A->c.Mu=F.Mu->
   (∀t,c.U t->t<σ.nx\/ ∃k,k<ops.size/\listed.getD k true=true/\σ.nx+BW*k<=t/\t<σ.nx+BW*k+BW)->Rel c n (Gz n (BR σ) xs λk=>listed.getD k true) (Hj (AO σ.hp) xs λk=>listed.getD k true) a->
   (∀k,k<ops.size->listed.getD k true=true)->Q .normal a c.w:=by
  intro listed a c Bo h1 h2 h3 h4 h5 h6 BZ;refine hQ c a h1 h2 h3 h4 (λt ht=> ?_) ?_
  ·rcases h5 t ht with h|⟨k,hk,_,_,h⟩
   ·simp only[BW]at*;omega
   ·simp only[BW]at*;omega
  ·have e1:(Gz n (BR σ) xs λk=>listed.getD k true)=BR σ':=by
    rw[c3];funext d;exact VR xs rfl λx hx _=>by have:=(hc.range x hx).2;exact BZ x.i (by omega)
   have e2:(Hj (AO σ.hp) xs λk=>listed.getD k true)=AO σ'.hp:=by rw[c5];funext d;exact VP xs rfl λx hx _=>by have:=(hc.range x hx).2;exact BZ x.i (by omega)
   rw[e1,e2]at h6;exact h6
 intro fuel
 induction fuel with
 |zero=>
  intro listed a c Bo Aw h1 h2 h3 h4 h5 h6 TH;have BZ:∀k,k<ops.size->listed.getD k true=true:=by intro k hk;have:=List.length_eq_zero_iff.1 (Nat.le_zero.1 TH);have:=List.filter_eq_nil_iff.1 this k (by simpa using hk);simpa using this
  refine⟨?_,Er listed a c Bo h1 h2 h3 h4 h5 h6 BZ⟩;refine List.eq_nil_iff_forall_not_mem.2 λj hj=> ?_;obtain⟨q1,o,q2,_⟩:=mem_ready.1 hj;rw[BZ j (Array.getElem?_eq_some_iff.1 q2).1]at q1;cases q1
 |succ fuel ih=>
  intro listed a c Bo Aw h1 h2 h3 h4 h5 h6 TH;refine⟨λhr=>Er listed a c Bo h1 h2 h3 h4 h5 h6 (zAa hb Bo hr),λj hj=> ?_⟩;obtain⟨q1,o,q2,q3⟩:=mem_ready.1 hj;have cT:j<ops.size:=(Array.getElem?_eq_some_iff.1 q2).1;have MJ:∀e∈o.after.toList,Region.binds .any e=true->listed.getD e.on true=true:=λe he Ly=>by
   have h9:=q3 e (by simpa using he) Ly;have Ax:=hb j o q2 e he Ly;have h8:e.on<listed.size:=by omega
   simp only[Array.getD_eq_getD_getElem?,Array.getElem?_eq_getElem h8,Dp]at h9 ⊢;exact h9
  obtain⟨y,hy,GV⟩:=hc.ex j (by omega) (by omega);have O4:y.o=o:=by have:=(AZ y hy).1;rw[GV,q2]at this;exact(Option.some.inj this).symm
  have Xe:∀x∈xs,x.i<ops.size:=λx hx=>by have:=(hc.range x hx).2;omega
  have qK:∀x∈xs,ops[x.i]?=some x.o:=λx hx=>(AZ x hx).1;have agree:∀x∈xs,x.i≠j->J9 (KY ops.toList []) x.i j=true->listed.getD x.i true=decide (x.i<j):=λx hx BB ho=>zzM (S:=λk=>listed.getD k true) Aw q2 (Xe x hx) q1 MJ BB ho;have M3:∀x∈xs,x.i=j->listed.getD x.i true=decide (x.i<j):=λx hx he=>by rw[he,q1];simp
  have HY:∀d,d∈aN ops o->BR y.σ d=Gz n (BR σ) xs (λk=>listed.getD k true) d:=by
   intro d hd;rw[(c1 y hy).2 d,GV];refine VR xs rfl λx hx Uu=> ?_;by_cases he:x.i=j
   ·exact(M3 x hx he).symm
   ·rcases d3 (o,j) (T6 j o q2) (x.o,x.i) (T6 _ _ (qK x hx))with h|h
    ·exact absurd h he
    ·simp only[Uu,Ab,Bool.or_eq_true,Bc]at h;rcases h.2 with h|h
     ·rw[List.contains_iff_mem.2 hd]at h;cases h
     ·exact(agree x hx he h).symm
  have hW:∀x∈xs,∀t,t∈x.bq.map (·.1)-> ∀ly,y.log=some ly->(t∈ly.R\/t∈ly.W)->listed.getD x.i true=decide (x.i<j):=by
   intro x hx t ht ly T2 hm;by_cases he:x.i=j
   ·exact M3 x hx he
   ·cases eM:x.r with
    |none=>simp[Rec.bq,eM]at ht
    |some ge=>
     obtain⟨gs,e⟩:=ge;have hlx:x.log=some ⟨x.i,Wc x.σ gs x.o,e.bq.map (·.1)⟩:=by simp[Rec.log,eM]
     have cZ:ly.i=j:=by unfold Rec.log at T2;obtain⟨ge',_,rfl⟩:=As.1 T2;exact GV
     have h9:=d1 _ (T1 x hx _ hlx) _ (T1 y hy _ T2);simp only[cZ]at h9;rcases h9 with(h|h)|h
     ·exact absurd h he
     ·exfalso;have:fF (e.bq.map (·.1)) (ly.R++ly.W)=true:=by
       simp only[fF,List.any_eq_true];exact⟨t,by simpa[Rec.bq,eM]using ht,List.contains_iff_mem.2 (by simpa using hm)⟩
      rw[this]at h;cases h
     ·exact agree x hx he h
  have CO:∀k,(listed.setIfInBounds j true).getD k true=(decide (k=j)||listed.getD k true):=zCn Bo cT;have eB:Gz n (BR σ) xs (λk=>(listed.setIfInBounds j true).getD k true)=CZ n (Gz n (BR σ) xs λk=>listed.getD k true) o.dst y.val:=by
   funext d;unfold CZ;split
   ·rename_i hd;refine rT hd.2 (by rw[O4];exact hd.1) (by rw[CO,GV];simp) xs hy λx hx BB Uu=> ?_;have he:x.i≠j:=λh=>BB (hc.inj x hx y hy (by rw[h,GV]));rcases d3 (o,j) (T6 j o q2) (x.o,x.i) (T6 _ _ (qK x hx))with h|h
    ·exact he h
    ·simp only[Uu,Ab,bne_iff_ne,ne_eq]at h;exact h.1 hd.1
   ·rename_i hd;by_cases Ox:d<n
    ·refine VR xs rfl λx hx Uu=> ?_;have he:x.i≠j:=λh=>by
      have:x=y:=hc.inj x hx y hy (by rw[h,GV]);subst this;exact hd ⟨by rw[<-O4];exact Uu,Ox⟩
     rw[CO];simp[he]
    ·rw[eZ (by omega),eZ (by omega)]
  have cM:Hj (AO σ.hp) xs (λk=>(listed.setIfInBounds j true).getD k true)=Bp (Hj (AO σ.hp) xs λk=>listed.getD k true) y.bq:=by
   funext t;by_cases ht:t∈y.bq.map (·.1)
   ·refine rL (by rw[CO,GV];simp) ht hc hy λx hx BB eO=> ?_;rw[GV]at BB ⊢;rw[CO];simp only[BB,decide_false,Bool.false_or];cases J7:y.r with
    |none=>simp[Rec.bq,J7]at ht
    |some ge=>exact hW x hx t eO _ (by simp only[Rec.log,J7,Option.map_some];rfl) (.inr (by simpa[Rec.bq,J7]using ht))
   ·rw[mB ht];refine VP xs rfl λx hx eO=> ?_;have he:x.i≠j:=λh=>by
     have:x=y:=hc.inj x hx y hy (by rw[h,GV]);subst this;exact ht eO
    rw[CO];simp[he]
  have TI:((List.range ops.size).filter λk=> !(listed.setIfInBounds j true).getD k true).length<=fuel:=by have:=yV (p:=λk=> !listed.getD k true) (p':=λk=> !(listed.setIfInBounds j true).getD k true) (List.range ops.size) (λk _ hk=>by rw[CO]at hk;simp at hk ⊢;exact hk.2) ⟨j,by simpa using cT,by simp[q1],by rw[CO];simp⟩;omega
  have bS:Wy ops (λk=>(listed.setIfInBounds j true).getD k true):=by
   intro k ok hk cU e he Ly;simp only[CO,Bool.or_eq_true,AI]at hk ⊢;rcases hk with rfl|hk
   ·rw[q2]at cU;cases cU;exact .inr (MJ e he Ly)
   ·exact .inr (Aw k ok hk cU e he Ly)
  have MN:∀(a':Act) (c':Cx),c'.ρ=ρ->c'.w0=F.w0->c'.A=F.A->c'.Mu=F.Mu->(∀t,c'.U t->c.U t\/(σ.nx+BW*j<=t/\t<σ.nx+BW*j+BW))->Rel c' n (CZ n (Gz n (BR σ) xs λk=>listed.getD k true) o.dst y.val) (Bp (Hj (AO σ.hp) xs λk=>listed.getD k true) y.bq) a'->
    wpAny P .any ops Q fuel (listed.setIfInBounds j true) a' c'.w:=by
   intro a' c' g1 g2 g3 g4 g5 g6;refine ih _ a' c' (by simpa using Bo) bS g1 g2 g3 g4 (λt ht=> ?_) (by rw[eB,cM];exact g6) TI;rcases g5 t ht with h|h
   ·rcases h5 t h with h|⟨k,k1,k2,k3,k4⟩
    ·exact .inl h
    ·exact .inr ⟨k,k1,by rw[CO,k2];simp,k3,k4⟩
   ·exact .inr ⟨j,cT,by rw[CO];simp,h.1,h.2⟩
  have pO:∀j' want d,o.guard=some (j',want)->(ops[j']?).bind (·.dst)=some d->SR c [BR y.σ d] [a.tmps.getD d Go.undef]:=by intro j' want d hg hd;rw[HY d (by simp only[aN,hg,Ac];exact .inr (by simp[hd]))];exact h6.da d
  obtain⟨_,Dw⟩:=AZ y hy;cases J7:y.r with
  |none=>
   rw[J7]at Dw;have Eh:=lY (c:=c) (a:=a) Dw (λj' want d hg hd=>pO j' want d (by rw[<-O4];exact hg) hd);unfold wpOp;simp only[q2];rw[O4]at Eh;rw[if_neg (by simp[show Region.wanted o (yielded ops a.tmps)=false from Eh])];have hv:y.val=HB:=by simp[Rec.val,J7]
   have he:y.bq=[]:=by simp[Rec.bq,J7]
   refine MN _ c h1 h2 h3 h4 (λt ht=> .inl ht) ?_;rw[hv,he];exact h6.put oF o.dst
  |some ge=>
   obtain⟨gs,e⟩:=ge;rw[J7]at Dw;simp only at Dw;obtain⟨r1,r2,r3,r4,r5,r6⟩:=Dw;rw[O4,GV]at r2;rw[GV]at r4;rw[O4]at r1;have Eh:=lY (c:=c) (a:=a) r1 pO;have hv:y.val=mkGd gs e.val:=by simp[Rec.val,J7]
   have he:y.bq=e.bq:=by simp[Rec.bq,J7]
   simp only[Td,Ab,A3]at r4;obtain⟨_,dX⟩:=r4;have T2:y.log=some ⟨y.i,Wc y.σ gs y.o,e.bq.map (·.1)⟩:=by simp[Rec.log,J7]
   refine rH (c:=c) AW q2 h6 Eh (λt ht=>HY t (by simp only[aN,Ac,List.mem_filterMap];exact .inl ⟨.tmp t,by simpa using ht,rfl⟩)) (λt x hx=> ?_) (λt t1 t2 hU=> ?_) r2 (λBB t x hx=> ?_) (by rw[h1];exact r5) (by rw[h1];exact r6) (λx hx=>by rw[r3]at hx;cases hx) (λa' c' hs hr=> ?_)
   ·unfold QH at hx;split at hx
    ·rename_i hR;rw[(c4 y hy) t]at hx;rw[<-hx];refine VP xs rfl λz hz hzt=> ?_;rw[GV];exact hW z hz t hzt _ T2 (.inl (by rw[O4];simpa using hR))
    ·cases hx
   ·rcases h5 t hU with h|⟨k,k1,k2,k3,k4⟩
    ·simp only[BW]at*;omega
    ·have:k≠j:=by rintro rfl;rw[q1]at k2;cases k2
     simp only[BW]at*;omega
   ·have:=dX _ hx;have TM:gs.isEmpty=false:=by cases gs;exact absurd rfl BB;rfl
    simp only[TM,Bool.false_or,Bool.false_and,Bool.or_false,Ab,AI]at this;refine⟨this.1.1,this.1.2,?_⟩;have h3:=this.2;split at h3
    ·exact⟨_,_,rfl,h3⟩
    ·cases h3
   ·exact MN a' c' (hs.ρ.trans h1) (hs.w0.trans h2) (hs.A.trans h3) (hs.Mu.trans h4) hs.U (by rw[hv,he];exact hr)
end
theorem Rel.world{c:Cx}{n:Nat}{sl:Nat->SV}{hp:Nat->Option Af}{a:Act}(h:Rel c n sl hp a)(w:World)(h1:w.heap=c.w.heap)(h2:w.os=c.w.os)(h3:w.tape=c.w.tape)(h4:w.output=c.w.output):Rel {c with w:=w} n sl hp a:=by
 refine h.change (λ_=>False) ⟨rfl,rfl,λ_ _ hb=>hb,λb _ _=>by show w.heap[b]?=_;rw[h1],λ_ _ hk=>⟨hk,rfl⟩,λ_ _ _=>⟨AN _,λ_=>⟨rfl,λb _ _=>by show w.heap[b]?=_;rw[h1]⟩⟩⟩ ⟨h2.trans h.base.os,h3.trans h.base.tape,h4.trans h.base.output,by show _<=w.heap.size;rw[h1];exact h.base.size,h.base.pins,λb hb hm=>by show w.heap[b]?=_;rw[h1];exact h.base.block b hb hm,h.base.pk,h.base.lo⟩ (λt _=>⟨rfl,rfl,rfl,λg hk=>hk⟩) (λt _ b _=>by show w.heap[b]?=_;rw[h1]) (λt ht=>ht.elim)
  ⟨h.gw.nodup,h.gw.cy,h.gw.allow,λt b hb=>by show b<w.heap.size;rw[h1];exact h.gw.inb t b hb⟩ h.bz h.c6
theorem zAX{P:Program}{sg:BY}{Rt:Nat->List AV->AV->Prop}(dD:P.follows .mixedOrders=true)(AW:O8 P sg Rt)(Et:WK P sg):zxv P sg Rt:=by
 intro id ops draw σ t _ Fe hnx ht F R L js ρ a w hL hd hr Q hq;obtain⟨c,rfl,rfl,h1,h2,h3,h4,h5,h6⟩:=hr;rw[List.range_eq_range']at ht;cases draw with
 |false=>refine wp_region ?_;rw[List.range_eq_range'];exact qX AW Et (n:=σ.sl.length) ops.size 0 [] σ t (by omega) ht c a ⟨h1,h2,h3,h4,rfl,by simpa using h5,h6⟩ hd (λc' a' σ' hp hl hrel=>hq [] .normal σ' c'.ρ a' c'.w hp hl hrel)
 |true=>
  refine wp_region_any dD ?_;obtain⟨τ,xs,σ',lg',g1,g2,g3,g4,g5,g6,_,g8⟩:=lL ops.size 0 [] σ t c.ρ (by omega) ht hd h4;have cA:=h6.ext (λi=>by rw[h4];exact St.kz Fe i) (λt e he=>by rw[h4];exact St.km Fe t e he) τ;have hw:=cA.world {c.w with drawn:=c.w.drawn+1} rfl rfl rfl rfl;have Hc:∀k,k<ops.size->(Array.replicate ops.size false).getD k true=false:=λk hk=>by simp[Array.getD_eq_getD_getElem?,hk]
  have Xe:∀x∈xs,x.i<ops.size:=λx hx=>by have:=(g1.range x hx).2;omega
  have e1:(Gz σ.sl.length (BR σ) xs λk=>(Array.replicate ops.size false).getD k true)=BR σ:=by funext d;exact mM _ λx hx _=>Hc x.i (Xe x hx)
  have e2:(Hj (AO σ.hp) xs λk=>(Array.replicate ops.size false).getD k true)=AO σ.hp:=by funext d;exact mT _ λx hx _=>Hc x.i (Xe x hx)
  refine zyE (F:=F) (n:=σ.sl.length) (c:={c.ext τ with w:={c.w with drawn:=c.w.drawn+1}}) AW g1 g2 g3 g6 g8 rfl (λc' a' k1 k2 k3 k4 k5 k6=> ?_) ops.size (Array.replicate ops.size false) a (by simp) (λk o hk ho=> ?_) rfl h1 h2 h3 (λt ht=> .inl (h5 t ht)) (by rw[e1,e2];exact hw) (Nat.le_trans (List.length_filter_le _ _) (by simp))
  ·have hlen:=(g1.sl rfl).2.1;refine hq [] .normal _ c'.ρ a' c'.w (by rw[k1];exact List.prefix_append _ _) (by rw[k1];exact g5) ⟨c',rfl,rfl,k2,k3,k4,by rw[k1];exact g4,k5,?_⟩;show Rel c' σ'.sl.length _ _ a';rw[hlen];exact k6
  ·have:=Hc k (Array.getElem?_eq_some_iff.1 ho).1;have Cw:(Array.replicate ops.size false).getD k true=true:=hk;rw[this]at Cw;cases Cw
section
variable {P:Program} {c:Cx} {n nx:Nat} {sl sl0:Nat->SV} {hp hp0:Nat->Option Af} {a:Act} {o:Oper} {gs:Gd} {e:Bh} {sg:BY} {nv:Nat}
theorem zG(h:BE P c n nx sl hp a sl0 hp0 o gs){op:BinOp}{t el:TypeId}{x y:Operand}{ty:TypeId}(ho:o.op= .binOp op t x y ty)(hu:P.underlying t=some (.slice el)){p:Option Addr}{q r:Nat}(hv:a.eval x= .slice p q r)(r2:SR c [.cm] [a.eval y])
  (AW:op= .eql\/op= .neq) (Gu:c.ρ[nv]?=some (.bool (Li a o))) (x':Option E) {ck:List Cn}:AD P o c n nx sl hp gs a {cj:=ck,ch:=x',val:= .e (if op= .eql then .var nv else .not (.var nv))}:=by
 have hb:Li a o=p.isNone:=by simp only[Li,ho,hv];cases p<;>rfl
 rw[hb]at Gu;have ex:=λ(v u:Value) (hv:a.eval x=v) (hu:a.eval y=u)=>PY (P:=P) (o:=o) ho c.w hv hu;generalize Dn:a.eval y=v2 at r2;cases r2 with
 |cm _=>
  refine AD.pure h (v:= .bool (if op= .eql then p.isNone else !p.isNone)) ?_ ?_ rfl
  ·rw[ex _ _ hv Dn,eqGuard_at_slice];rcases AW with rfl|rfl
   ·simp[Go.Lib.run_eql_slice_nil c.w t el p q r 0 0 hu]
   ·simp[binOp,Op.equal,Op.maxDepth,Go.Lib.run_equalIn_slice_nil c.w 9999 t el p q r 0 0 hu]
  ·rcases AW with rfl|rfl
   ·refine .e (f:=[]) ?_ (by simp) .nil;simp only[if_true,E.den,Gu,Dp];exact .bool .nil
   ·refine .e (f:=[]) ?_ (by simp) .nil;simp only[reduceCtorEq,if_false,E.den,Gu,Dp,AV.ey];exact .bool .nil
end
section
variable {P:Program} {c:Cx} {n nx:Nat} {sl sl0:Nat->SV} {hp hp0:Nat->Option Af} {a:Act} {o:Oper} {gs:Gd} {e:Bh} {sg:BY} {nv:Nat}
theorem V5{hp:Nat->Option Af}{gs:Gd}{m:Nat}{cs:BP}{x:E}(h:BF hp gs m (.agg cs)=some x):∃k l,m=k+1/\CM hp gs k cs.toList=some l/\x= .mk l:=by
 cases m with
 |zero=>simp[BF]at h
 |succ m=>simp only[BF,As]at h;obtain⟨l,h1,h2⟩:=h;exact⟨m,l,rfl,h1,h2.symm⟩
theorem Lg{hp:Nat->Option Af}{gs:Gd}{m:Nat}{y x:E}(h:BF hp gs m (.e y)=some x):x=y:=by
 cases m with
 |zero=>simp[BF]at h
 |succ m=>simp[BF]at h;exact h.symm
theorem Md{hp:Nat->Option Af}{gs:Gd}{m:Nat}{x:E}(h:BF hp gs m .cm=some x):x= .lst .nil:=by
 cases m with
 |zero=>simp[BF]at h
 |succ m=>simp[BF]at h;exact h.symm
theorem K2{hp:Nat->Option Af}{gs:Gd}{m:Nat}{s:SV}{ss:List SV}{x:EL}(h:CM hp gs m (s::ss)=some x):∃k y l,m=k+1/\BF hp gs k s=some y/\CM hp gs k ss=some l/\x= .cons y l:=by
 cases m with
 |zero=>simp[CM]at h
 |succ m=>
  simp only[CM]at h;split at h
  ·rename_i y l h1 h2;simp at h;exact⟨m,y,l,rfl,h1,h2,h.symm⟩
  ·cases h
theorem Sb{hp:Nat->Option Af}{gs:Gd}{ρ:List AV}{w:World}:∀(vs:List Value) (ss:List SV) (m:Nat) (x:EL),Fg.go vs=some ss->CM hp gs m ss=some x->Rd w vs (x.den ρ) []
 | [],ss,m,x,h,hx=>by
  simp[Fg.go]at h;subst h;cases m with
  |zero=>simp[CM]at hx
  |succ m=>simp[CM]at hx;subst hx;exact .nil
 |v::vs,ss,m,x,h,hx=>by
  unfold Fg.go at h;split at h
  ·rename_i hh;cases hh
  ·rename_i k q l hh;cases hh;split at h
   ·rename_i hk;obtain⟨l',h1,rfl⟩:=As.1 h;obtain⟨j,y,l2,rfl,h2,h3,rfl⟩:=K2 hx;rw[Lg h2];exact .int hk (Sb _ _ _ _ h1 h3)
   ·cases h
  ·rename_i q l hh;cases hh;obtain⟨l',h1,rfl⟩:=As.1 h;obtain⟨j,y,l2,rfl,h2,h3,rfl⟩:=K2 hx;rw[Lg h2];exact .bool (Sb _ _ _ _ h1 h3)
  ·rename_i q l hh;cases hh;split at h
   ·rename_i hk;obtain⟨l',h1,rfl⟩:=As.1 h;obtain⟨j,y,l2,rfl,h2,h3,rfl⟩:=K2 hx;rw[Lg h2];exact .str hk (Sb _ _ _ _ h1 h3)
   ·cases h
  ·rename_i l hh;cases hh;obtain⟨l',h1,rfl⟩:=As.1 h;obtain⟨j,y,l2,rfl,h2,h3,rfl⟩:=K2 hx;rw[Md h2];exact .ed (Sb _ _ _ _ h1 h3)
  ·rename_i l hh;cases hh;obtain⟨l',h1,rfl⟩:=As.1 h;obtain⟨j,y,l2,rfl,h2,h3,rfl⟩:=K2 hx;rw[Lg h2];exact .dv (Sb _ _ _ _ h1 h3)
  ·cases h
theorem kH{hp:Nat->Option Af}{gs:Gd}{ρ:List AV}{w:World}{v:Value}{s:SV}{m:Nat}{x:E}(h:Fg v=some s)(hx:BF hp gs m s=some x):
  Rd w v.cells.toList (x.den ρ).cells []/\(∀u∈v.cells.toList,u.oneCell'=true):=by
 have one:∀{v:Value} {y:AV},Rd w [v] [y] []->(∀cs,y≠ .agg cs)->(∀cs,y≠ .tup cs)->Rd w v.cells.toList y.cells []/\(∀u∈v.cells.toList,u.oneCell'=true):=by
  intro v y hr h1 h2;have h3:=kG hr h1 h2;have h4:y.cells=[y]:=by cases y<;>first|rfl|exact absurd rfl (h1 _)
  rw[one_cells h3,h4];exact⟨by simpa using hr,by simpa using h3⟩
 unfold Fg at h;split at h
 ·split at h
  ·rename_i hk;simp at h;subst h;rw[Lg hx];exact one (.int hk .nil) (by simp[E.den]) (by simp[E.den])
  ·cases h
 ·simp at h;subst h;rw[Lg hx];exact one (.bool .nil) (by simp[E.den]) (by simp[E.den])
 ·split at h
  ·rename_i hk;simp at h;subst h;rw[Lg hx];exact one (.str hk .nil) (by simp[E.den]) (by simp[E.den])
  ·cases h
 ·simp at h;subst h;rw[Md hx];exact one (.ed .nil) (by simp[E.den]) (by simp[E.den])
 ·simp at h;subst h;rw[Lg hx];exact one (.dv .nil) (by simp[E.den]) (by simp[E.den])
 ·rename_i cs;simp only[Option.bind_eq_bind,Au,Ad]at h;obtain⟨l,hl,rfl⟩:=h;obtain⟨k,l',rfl,h1,rfl⟩:=V5 hx;rw[BP.ax]at h1;exact⟨Sb _ _ _ _ hl h1,kC _ _ hl⟩
 ·cases h
theorem oK{w:World}{vs:List Value}{x:AV}(h:Rd w vs x.cells []):∀k,Rd w (List.replicate k vs).flatten (Ao (List.replicate k x)) []
 |0=> .nil
 |k+1=>by simp only[List.replicate_succ,List.flatten_cons,Ao,List.flatMap_cons];have:=h.app (oK h k);simpa[Ao]using this
theorem Zk(z:Array Value)(hz:0<z.size):∀k,(madeCells z (k*z.size)).toList=(List.replicate k z.toList).flatten
 |0=>by simp[madeCells]
 |k+1=>by
  have ih:=Zk z hz k;simp only[madeCells,Array.toList_map,Array.toList_range]at ih ⊢;rw[Nat.add_mul,Nat.one_mul,List.range_add,List.map_append,ih,List.replicate_succ',List.flatten_append];congr 1;simp only[List.map_map,List.flatten_cons,List.flatten_nil,AB];apply List.ext_getElem?;intro i;simp only[List.getElem?_map,List.getElem?_range'];by_cases hi:i<z.size
  ·simp only[List.getElem?_range hi,Option.map_some,Function.comp_apply];have:(k*z.size+i) % z.size=i:=by rw[Nat.add_comm,Nat.add_mul_mod_self_right,Nat.mod_eq_of_lt hi]
   simp[this,hi]
  ·rw[List.getElem?_eq_none (by simpa using hi),List.getElem?_eq_none (by simpa using hi)];rfl
theorem zyl(h:BE P c n nx sl hp a sl0 hp0 o gs){t:TypeId}{l m:Operand}(ho:o.op= .makeSlice t l m){s1 s2:SV}(BL:BM sl0 gs l=some s1)(Bb:BM sl0 gs m=some s2)(he:oC P hp0 gs nx t s1 s2=some e)(hc:∀q∈e.cj,Cn.den c.ρ q):AD P o c n nx sl hp gs a e:=by
 have DH:l∈o.op.operands:=by simp[ho,Op.operands]
 have CT:m∈o.op.operands:=by simp[ho,Op.operands]
 unfold oC at he;split at he
 ·rename_i el x y Bx;have Bx:=Jk Bx;split at he
  ·cases he
  rename_i hz;have hz:Hv P el=true:=by simpa using hz
  obtain⟨i,z,hi,FP,CU,Bo,Cu,EB⟩:=K1 hz;have r1:=h.c7 BL DH;have r2:=h.c7 Bb CT;have ival:∀{x:E} {kk:IntKind} {k:Int} {v:Value},SR c [.e x] [v]->x.den c.ρ= .int kk k->v= .int kk k:=by
   intro x kk k v hr hx;cases hr with
   |e h1 _ _=>exact(Gb h1 hx).1
  split at he
  ·rename_i Hm;split at he
   ·rename_i s hs;have hs:Fg z=some s:=by simpa[hi,FP]using hs
    obtain⟨w,hw,rfl⟩:=As.1 he;obtain⟨kk,k,hk,h0,hb,hle⟩:Cn.den c.ρ (.mkroom x (P.bytesOf el)):=Cg hc;have FB:=ival r1 hk;have Dn:=ival r2 (by rw[<-E.ay c.ρ _ _ Hm];exact hk);obtain⟨c1,c2⟩:=kH (w:=c.w) (ρ:=c.ρ) hs hw;obtain⟨kn,rfl⟩:=Int.eq_ofNat_of_zero_le h0;have D8:(i.bytes:Int)*(kn:Int)<=281474976710656:=by rw[EB]at hb;rw[Int.mul_comm];omega
    have hlen:=c1.len;have W3:=Zk z.cells (by omega) kn;have AR:=run_make (P:=P) c.w t el i z Bx hi FP kk kk kn kn (by omega) (Int.le_refl _) D8 (by omega);have Fz:(madeCells z.cells (kn*z.cells.size)).size=kn*P.cellsOf el:=by rw[size_madeCells,CU,Cu]
    have B2:(madeCells z.cells (kn*z.cells.size)).toList.take ((List.replicate kn (w.den c.ρ)).length*P.cellsOf el)=(List.replicate kn z.cells.toList).flatten:=by rw[List.length_replicate,List.take_of_length_le (by rw[BG,Fz];exact AN _),W3]
    refine AD.newRow (xs:=List.replicate kn (w.den c.ρ)) (N:=[]) (C:=madeCells z.cells (kn*z.cells.size)) (cap:=kn) (wd:=c.w) (fz:=[]) (ts:=[]) h rfl ⟨rfl,rfl,rfl,rfl⟩ ?_ ?_ (by omega) (λu hu=> ?_) (by simp) (by simp only[maxLen];omega) Fz ?_ ?_ (by simp) (λ_=>rfl)
    ·simp only[execOp,ho,FB,Dn,Sem.run_bind,Int.ofNat_eq_natCast,List.length_replicate];rw[AR,CU];rfl
    ·simp[E.den,hk,AV.rep]
    ·rw[List.eq_of_mem_replicate hu,<-hlen,BG,CU,Cu]
    ·rw[B2];intro u hu;obtain⟨q,hq,hu⟩:=List.mem_flatten.1 hu;rw[List.eq_of_mem_replicate hq]at hu;exact c2 u hu
    ·rw[B2];exact oK c1 kn
   ·cases he
  ·split at he
   ·rename_i k0 _;simp only[Ad]at he;subst he;obtain⟨kk,k,hk,h0,hb,hle⟩:Cn.den c.ρ (.mkroom y (P.bytesOf el)):=Cg hc;have FB:=ival r1 (show(E.int k0 0).den c.ρ= .int k0 0 from rfl);have Dn:=ival r2 hk;obtain⟨kn,rfl⟩:=Int.eq_ofNat_of_zero_le h0;have D8:(i.bytes:Int)*(kn:Int)<=281474976710656:=by
     rw[EB]at hb;rw[Int.mul_comm];omega
    have AR:=run_make (P:=P) c.w t el i z Bx hi FP k0 kk 0 kn (by omega) (by omega) D8 (by omega);refine AD.newRow (xs:=[]) (N:=[]) (C:=madeCells z.cells (kn*i.size)) (cap:=kn) (wd:=c.w) (fz:=[]) (ts:=[]) h rfl ⟨rfl,rfl,rfl,rfl⟩ ?_ rfl (by omega) (by simp) (by simp) (by simp only[maxLen];omega) (by rw[size_madeCells,Cu]) (by simp) (by simpa[Ao]using Rd.nil) (by simp) (λ_=>rfl);simp only[execOp,ho,FB,Dn,Sem.run_bind,Int.ofNat_eq_natCast];rw[AR];rfl
   ·cases he
 ·cases he
end
section
variable {P:Program} {c:Cx} {n nx:Nat} {sl sl0:Nat->SV} {hp hp0:Nat->Option Af} {a:Act} {o:Oper} {gs:Gd} {e:Bh} {sg:BY} {nv:Nat}
def SM(v:Option Value)(k d:Nat):Prop:=(v=none/\k=d)\/ ∃kk,v=some (.int kk (k:Int))
theorem Vc{w:World}{t el:TypeId}(hu:P.underlying t=some (.slice el))(Bv:DD P el=true)(p:Option Addr)(m r l h:Nat){lo hi:Option Value}(BT:SM lo l 0)(JQ:SM hi h m)(h1:l<=h)(h2:h<=m)(h3:m<=r):
  (Instr.sliceAt t (.slice p m r) lo hi none).run P w= .ok (sliced p l h r (P.cellsOf el)) w:=by
 have FV:P.underlying t=some (.slice (P.elem t)):=by simp[Program.elem,hu]
 have he:P.elem t=el:=by simp[Program.elem,hu]
 have hs:(sizeOf (P.elem t)).run P w= .ok (P.cellsOf el) w:=by rw[he];exact Py Bv w
 rw[run_sliceAt_slice w t _ _ _ _ FV];rcases BT with⟨rfl,rfl⟩|⟨kl,rfl⟩<;>rcases JQ with⟨rfl,rfl⟩|⟨kh,rfl⟩
 ·rw[run_slice_all w t p h r FV,hs];rfl
 ·rw[run_slice_h w t p m r FV kh _ (by omega) (by omega),hs];rfl
 ·rw[run_slice_l w t p h r FV kl _ (by omega) (by omega),hs];rfl
 ·rw[run_slice_lh w t p m r FV kl kh _ _ (by omega) (by omega) (by omega),hs];rfl
theorem zvU(s:ByteArray)(a b:Nat):(s.extract a b).data.toList=(s.data.toList.drop a).take (b-a):=by rw[ByteArray.data_extract,Array.toList_extract,List.extract_eq_take_drop]
theorem zqk{w:World}{t:TypeId}(hu:P.underlying t=some .string)(s:ByteArray)(l h:Nat){lo hi:Option Value}(BT:SM lo l 0)(JQ:SM hi h s.size)(h1:l<=h)(h2:h<=s.size):
  (Instr.sliceAt t (.string s) lo hi none).run P w= .ok (.string (s.extract l h)) w:=by
 rw[run_sliceAt_string w t _ _ _ _ hu];rcases BT with⟨rfl,rfl⟩|⟨kl,rfl⟩<;>rcases JQ with⟨rfl,rfl⟩|⟨kh,rfl⟩
 ·rw[run_slice_string_all w t s hu]
 ·rw[run_slice_string_h w t s hu kh _ (by omega) (by omega)];rfl
 ·rw[run_slice_string_l w t s hu kl _ (by omega) (by omega)];rfl
 ·rw[run_slice_string w t s kl kh _ _ hu (by omega) (by omega) (by omega)];rfl
theorem lM{sz:Nat}(ys:List AV)(hs:∀y∈ys,y.cells.length=sz)(l h:Nat)(hl:l<=h)(hh:h<=ys.length):((Ao ys).drop (l*sz)).take ((h-l)*sz)=Ao ((ys.take h).drop l):=by
 have e:ys=ys.take l++((ys.take h).drop l++ys.drop h):=by
  rw[<-List.append_assoc];have:ys.take l++(ys.take h).drop l=ys.take h:=by
   have h2:ys.take l=(ys.take h).take l:=by rw[List.take_take,Nat.min_eq_left hl]
   rw[h2,Cf]
  rw[this,Cf]
 have f1:Ao ys=Ao (ys.take l)++(Ao ((ys.take h).drop l)++Ao (ys.drop h)):=by
  conv=>lhs;rw[e]
  simp[Ao]
 have l1:(Ao (ys.take l)).length=l*sz:=by rw[K4 _ (λy hy=>hs y (Bt hy)),Ar,Nat.min_eq_left (by omega)]
 have l2:(Ao ((ys.take h).drop l)).length=(h-l)*sz:=by rw[K4 _ (λy hy=>hs y (Bt (BH hy))),BC,Ar,Nat.min_eq_left (by omega)]
 rw[f1,<-l1,List.drop_left,<-l2,List.take_left]
theorem zEB{w:World}{v:Value}{ys:List AV}{f:List Nat}{sz:Nat}(hr:Rd w [v] [.sl ys] f)(hs:∀y∈ys,y.cells.length=sz)(l h:Nat)(hl:l<=h)(hh:h<=ys.length):
  ∃p r g,v= .slice p ys.length r/\ys.length<=r/\Rd w [sliced p l h r sz] [.sl ((ys.take h).drop l)] g/\ ∀b∈g,b∈f:=by
 cases hr with
 |ed _=>
  rename_i p r;have hh:h=0:=by simpa using hh
  subst hh;have hl:l=0:=by omega
  subst hl;exact⟨_,_,[],rfl,Nat.zero_le _,by simpa[sliced]using Rd.ed .nil,by simp⟩
 |scons hb h1 h2 h3 h4 h5 h6 HQ h7 h8=>
  rename_i b o m r cs C t fz sz' f1 f2;have hy:∃y,y∈ys:=by cases ys with|nil=>simp at h3;omega|cons y _=>exact⟨y,by simp⟩
  obtain⟨y0,H7⟩:=hy;have Gx:sz'=sz:=(h4 y0 H7).symm.trans (hs y0 H7);subst Gx;subst h3;refine⟨some ⟨b,o,none⟩,r,?_⟩;rcases Nat.eq_or_lt_of_le hl with he|Ax
  ·subst he;refine⟨[],rfl,h2.2,?_,by simp⟩;have:(ys.take l).drop l=[]:=List.drop_eq_nil_of_le (by simp;omega);rw[this];simp only[sliced,Nat.sub_self];exact .ed .nil
  ·have B5:=h7.len;obtain⟨g,hg,Dj⟩:=h7.piece (l*sz') ((h-l)*sz');rw[lM ys h4 l h hl hh]at Dj;refine⟨b::(g++ []),rfl,h2.2,?_,λx hx=> ?_⟩
   ·have Dr:sliced (some (⟨b,o,none⟩:Addr)) l h r sz'= .slice (some ⟨b,o+l*sz',none⟩) (h-l) (r-l):=by
     unfold sliced;split
     ·exfalso;omega
     ·simp[Addr.add_lit]
    rw[Dr];refine Rd.scons (cs:=(cs.drop (l*sz')).take ((h-l)*sz')) hb (by omega) ⟨by omega,by omega⟩ (by simp;omega) (λy hy=>h4 y (Bt (BH hy))) h5 (λj u hu=> ?_) (λu hu=>HQ u (BH (Bt hu))) Dj .nil;rw[List.getElem?_take]at hu;split at hu
    ·rw[List.getElem?_drop]at hu;have:=h6 _ _ hu;rw[<-this];congr 1;omega
    ·cases hu
   ·simp only[AB,Ae]at hx;rcases hx with rfl|hx
    ·simp
    ·have:=hg x hx;simp[this]
theorem G0{f:Operand->Option SV}{x:Option Operand}{r:Option SV}(h:Iq f x=some r):(x=none/\r=none)\/ ∃y z,x=some y/\f y=some z/\r=some z:=by
 cases x with
 |none=>simp[Iq]at h;exact .inl ⟨rfl,h.symm⟩
 |some y=>obtain⟨z,hz,rfl⟩:=As.1 h;exact .inr ⟨y,z,rfl,hz,rfl⟩
theorem Zz{s:Option SV}{d l:E}(h:Np s d=some l):(s=none/\l=d)\/s=some (.e l):=by
 unfold Np at h;split at h
 ·simp at h;exact .inl ⟨rfl,h.symm⟩
 ·simp at h;subst h;exact .inr rfl
 ·cases h
theorem zwz(h:BE P c n nx sl hp a sl0 hp0 o gs){t:TypeId}{x:Operand}{lo hi mx:Option Operand}(ho:o.op= .slice t x lo hi mx){s:SV}(hs:BM sl0 gs x=some s){l' h' m':Option SV}(BS:Iq (BM sl0 gs) lo=some l')(I9:Iq (BM sl0 gs) hi=some h')(C7:Iq (BM sl0 gs) mx=some m')(he:mU P hp0 gs t s l' h' m'=some e)(hc:∀q∈e.cj,Cn.den c.ρ q):AD P o c n nx sl hp gs a e:=by
 have hm:x∈o.op.operands:=by simp[ho,Op.operands]
 have JX:∀y,lo=some y->y∈o.op.operands:=λy hy=>by simp[ho,Op.operands,hy]
 have IJ:∀y,hi=some y->y∈o.op.operands:=λy hy=>by simp[ho,Op.operands,hy]
 have dC:∀y,mx=some y->y∈o.op.operands:=λy hy=>by simp[ho,Op.operands,hy]
 have hx:=h.c7 hs hm;have ival:∀{x:E} {kk:IntKind} {k:Int} {v:Value},SR c [.e x] [v]->x.den c.ρ= .int kk k->v= .int kk k:=by
  intro x kk k v hr hx;cases hr with
  |e h1 _ _=>exact(Gb h1 hx).1
 unfold mU at he;split at he
 ·cases he
 rename_i y hy;obtain⟨f,q1,q2⟩:=h.jv hs hm hy;have ex:(execOp a.eval o).run P c.w=((Instr.sliceAt t (a.eval x) (lo.map a.eval) (hi.map a.eval) (mx.map a.eval)).run P c.w).andThen λv w=> .ok (.value v) w:=by simp[execOp,ho]
 split at he
 ·split at he
  ·rename_i el _ _ hu;split at he
   ·rename_i Bv;simp only[Ad]at he;subst he;have hd:(y.den c.ρ).len≠ .undef:=Cg hc;cases BN:y.den c.ρ<;>simp only[BN,AV.len,ne_eq,not_true_eq_false]at hd;rename_i xs;have hl:(y.den c.ρ).len= .int .i64 (xs.length:Int):=by rw[BN];rfl
    obtain⟨p,q,r,hv⟩:∃p q r,a.eval x= .slice p q r:=by
     rcases SC q1 hl with⟨p,q,hv,Cr⟩|⟨b,o',k,q,hv,Cr⟩
     ·exact⟨_,_,_,hv⟩
     ·exact⟨_,_,_,hv⟩
    rcases G0 BS with⟨rfl,_⟩|⟨_,_,_,_,hh⟩
    ·rcases G0 I9 with⟨_,hh⟩|⟨oh,sh,rfl,dZ,hh⟩
     ·cases hh
     ·cases hh;rcases G0 C7 with⟨_,hh⟩|⟨om,sm,rfl,hsm,hh⟩
      ·cases hh
      ·cases hh;have v1:=(λ{kk:IntKind} (hr:SR c [.e (.int kk 0)] [a.eval oh])=>ival hr (show(E.int kk 0).den c.ρ= .int kk 0 from by simp only[E.den])) (h.c7 dZ (IJ _ rfl))
       have v2:=(λ{kk:IntKind} (hr:SR c [.e (.int kk 0)] [a.eval om])=>ival hr (show(E.int kk 0).den c.ρ= .int kk 0 from by simp only[E.den])) (h.c7 hsm (dC _ rfl))
       have FV:P.underlying t=some (.slice (P.elem t)):=by simp[Program.elem,hu]
       have Bx:P.elem t=el:=by simp[Program.elem,hu]
       refine AD.pure h (v:= .slice p 0 0) ?_ (.emp .nil) rfl;rw[ex,hv];simp only[Option.map_none,Option.map_some,v1,v2];rw[run_sliceAt_slice c.w t _ _ _ _ FV,run_slice_hm c.w t p q r FV _ _ 0 0 (by omega) (by omega) (by omega),Bx,Py Bv];simp[sliced]
    ·cases hh
   ·cases he
  ·cases he
 ·have JY:mx=none:=by
   rcases G0 C7 with⟨hh,_⟩|⟨_,_,_,_,hh⟩
   ·exact hh
   ·cases hh
  subst JY;have blo:∀(l:E) (kk:IntKind) (k:Nat),Np l' (.int .i64 0)=some l->l.den c.ρ= .int kk k->SM (lo.map a.eval) k 0:=by
   intro l kk k hl hk;rcases G0 BS with⟨rfl,rfl⟩|⟨ol,sl',rfl,Dr,rfl⟩
   ·rcases Zz hl with⟨_,rfl⟩|hh
    ·simp only[E.den,AV.int.injEq]at hk;exact .inl ⟨rfl,by omega⟩
    ·cases hh
   ·rcases Zz hl with⟨hh,_⟩|hh
    ·cases hh
    ·cases hh;exact .inr ⟨kk,by rw[Option.map_some,ival (h.c7 Dr (JX _ rfl)) hk]⟩
  have bhi:∀(d l:E) (kk:IntKind) (k m:Nat),Np h' d=some l->l.den c.ρ= .int kk k->d.den c.ρ= .int .i64 (m:Int)->SM (hi.map a.eval) k m:=by
   intro d l kk k m hl hk hd;rcases G0 I9 with⟨rfl,rfl⟩|⟨ol,sl',rfl,Dr,rfl⟩
   ·rcases Zz hl with⟨_,rfl⟩|hh
    ·rw[hd]at hk;simp only[AV.int.injEq]at hk;exact .inl ⟨rfl,by omega⟩
    ·cases hh
   ·rcases Zz hl with⟨hh,_⟩|hh
    ·cases hh
    ·cases hh;exact .inr ⟨kk,by rw[Option.map_some,ival (h.c7 Dr (IJ _ rfl)) hk]⟩
  split at he
  ·rename_i hu;split at he
   ·rename_i l hb q Ja JP;simp only[Ad]at he;subst he;obtain⟨ka,ai,kb,bi,bs,d1,d2,d3,d4,d5,d6⟩:Cn.den c.ρ (.winS y l hb):=Cg hc;obtain⟨an,rfl⟩:=Int.eq_ofNat_of_zero_le d4;obtain⟨bn,rfl⟩:=Int.eq_ofNat_of_zero_le (Int.le_trans d4 d5);obtain⟨ss,hv,rfl,hle⟩:=S2 q1 d3;have Bo:ss.data.toList.length=ss.size:=by simp
    have AR:=zqk (P:=P) (w:=c.w) hu ss an bn (blo l ka an Ja d1) (bhi (.slen y) hb kb bn ss.size JP d2 (by simp only[E.den,d3,AV.slen];simp)) (by omega) (by omega);refine AD.pure h (v:= .string (ss.extract an bn)) ?_ (.c9 ?_) rfl
    ·rw[ex,hv,Option.map_none,AR];rfl
    ·simp only[E.den,d1,d2,d3,AV.swin];have:(List.take (bn:Int).toNat ss.data.toList).drop (an:Int).toNat=(ss.extract an bn).data.toList:=by
      simp[zvU,List.drop_take]
     rw[this];exact .str (by simp only[ByteArray.size_extract];omega) .nil
   ·cases he
  ·rename_i el hu;split at he
   ·cases he
   rename_i Bv;have Bv:DD P el=true:=by simpa using Bv
   split at he
   ·rename_i l hb fz Ja JP HV;simp only[Ad]at he;subst he;have BD:Cn.den c.ρ (.issl y (P.cellsOf el)):=Cg hc;obtain⟨ys,Dx,Jg⟩:=BD;obtain⟨ka,ai,kb,bi,m,d1,d2,d3,d4,d5,d6⟩:Cn.den c.ρ (.win y l hb):=hc _ (by simp);obtain⟨an,rfl⟩:=Int.eq_ofNat_of_zero_le d4;obtain⟨bn,rfl⟩:=Int.eq_ofNat_of_zero_le (Int.le_trans d4 d5);rw[Dx]at q1;have hm9:(m:Int)=ys.length:=by rw[Dx]at d3;simpa[AV.len]using d3.symm
    split at HV
    ·rename_i IK;obtain⟨p,r,g,hv,hr,Dj,hg⟩:=zEB q1 Jg an bn (by omega) (by omega);have AR:=Vc (P:=P) (w:=c.w) hu Bv p ys.length r an bn (blo l ka an Ja d1) (bhi (.len y) hb kb bn ys.length JP d2 (by simp only[E.den,Dx,AV.len])) (by omega) (by omega) hr;intro next Q hk
     unfold Oper.wp;rw[ex,hv,Option.map_none,AR];show Oper.upon P o a next Q (.ok (.value _) c.w)
     rw[Oper.upon_value];have hrel:=h.rel.freeze h.hp h.gs HV;have AZ:∀b∈g,(c.ca (fz.map (·.1))).ok b:=λb hb=>VG h.rel h.eh h.gs HV IK (q2 b (hg b hb));refine hk _ (c.ca (fz.map (·.1))) ⟨rfl,rfl,rfl,rfl,λt ht=> .inl ht⟩ (hrel.put (SR.mkGd (.e (f:=g) ?_ AZ .nil) gs h.gs) o.dst);show Rd c.w _ [(E.win y l hb).den c.ρ] g;simp only[E.den,d1,d2,Dx,AV.win,Int.ofNat_eq_natCast,CV];exact Dj
    ·cases HV
   ·cases he
  ·cases he
end
section
variable {P:Program} {c:Cx} {n nx:Nat} {sl sl0:Nat->SV} {hp hp0:Nat->Option Af} {a:Act} {o:Oper} {gs:Gd} {e:Bh} {sg:BY} {nv:Nat}
theorem Tg{w:World}{v:Value}{x:AV}{f:List Nat}{k:SK}(h:Rd w [v] [x] f)(hk:x.sk=some k):(∃kk n,k= .int kk/\v= .int kk n/\x= .int kk n)\/(∃b,k= .bool/\v= .bool b/\x= .bool b)\/ ∃s:ByteArray,k= .str/\v= .string s/\x= .str s.data.toList:=by
 cases h<;>simp[AV.sk]at hk
 ·exact .inl ⟨_,_,hk.symm,rfl,rfl⟩
 ·exact .inr (.inl ⟨_,hk.symm,rfl,rfl⟩)
 ·exact .inr (.inr ⟨_,hk.symm,rfl,rfl⟩)
theorem kQ{t:TypeId}(h:(∃k,P.underlying t=some (.int k))\/P.underlying t=some .bool\/P.underlying t=some .string):Am P t=false:=by rcases h with⟨k,h⟩|h|h<;>simp[Am,h]
theorem vJ{w:World}(d:Nat):∀(fs:List Field) (j:Nat) (ks:List SK) {as_ bs:List Value} {cs ds:List AV} {f g:List Nat},S9 P j fs=some ks->Rd w as_ cs f->Rd w bs ds g->(cs.drop j).map AV.sk=ks.map some->(ds.drop j).map AV.sk=ks.map some->
  (Op.eqFields (d+1) as_.toArray bs.toArray fs).run P w= .ok (AV.leq (cs.drop j) (ds.drop j)) w
 | [],j,ks,as_,bs,cs,ds,f,g,hk,h1,h2,k1,k2=>by
  simp[S9]at hk;subst hk;have e1:cs.drop j=[]:=by simpa using k1
  have e2:ds.drop j=[]:=by simpa using k2
  rw[e1,e2];simp[Op.eqFields,AV.leq]
 |fd::fs,j,ks,as_,bs,cs,ds,f,g,hk,h1,h2,k1,k2=>by
  unfold S9 at hk;split at hk
  ·cases hk
  rename_i AA;simp only[not_or,Bc,Decidable.not_not,ne_eq,Bool.not_eq_false]at AA;obtain⟨hn,ho,Bv,Cg⟩:=AA;have main:∀(k:SK) (l:List SK),ks=k::l->S9 P (j+1) fs=some l->(∀a b (x y:AV) f g,Rd w [a] [x] f->Rd w [b] [y] g->x.sk=some k->y.sk=some k->(Op.equalIn (d+1) fd.type a b).run P w= .ok (x.seq y) w)->Am P fd.type=false->
    (Op.eqFields (d+1) as_.toArray bs.toArray (fd::fs)).run P w= .ok (AV.leq (cs.drop j) (ds.drop j)) w:=by
   rintro k l rfl hl heq Iy;have JU:j<cs.length:=by
    rcases Nat.lt_or_ge j cs.length with hh|hh
    ·exact hh
    ·rw[List.drop_eq_nil_of_le hh]at k1;simp at k1
   have cR:j<ds.length:=by
    rcases Nat.lt_or_ge j ds.length with hh|hh
    ·exact hh
    ·rw[List.drop_eq_nil_of_le hh]at k2;simp at k2
   rw[Bl JU]at k1;rw[Bl cR]at k2;simp only[List.map_cons,List.cons.injEq]at k1 k2;have l1:=h1.len;have l2:=h2.len;obtain⟨v,f1,hv,_,r1⟩:=h1.at (show cs[j]?=some cs[j] by simp[JU])
   obtain⟨u,g1,hu,_,r2⟩:=h2.at (show ds[j]?=some ds[j] by simp[cR])
   have p1:=V9 Bv as_ fd.offset (by omega) (.inr Cg) w;have p2:=V9 Bv bs fd.offset (by omega) (.inr Cg) w;have e1:((as_.drop fd.offset).take (P.cellsOf fd.type)).headD Go.undef=v:=by rw[Cg,ho,Bl (by omega),List.take_succ_cons];simpa[show j<as_.length by omega]using hv
   have e2:((bs.drop fd.offset).take (P.cellsOf fd.type)).headD Go.undef=u:=by rw[Cg,ho,Bl (by omega),List.take_succ_cons];simpa[show j<bs.length by omega]using hu
   rw[Iy,e1]at p1;rw[Iy,e2]at p2;have ih:=vJ (w:=w) d fs (j+1) l hl h1 h2 k1.2 k2.2;rw[Bl JU,Bl cR];simp only[Op.eqFields,ne_eq,hn,not_false_eq_true,if_true,Sem.run_bind,p1,p2,Ba,if_false,Result.andThen_ok,heq v u _ _ _ _ r1 r2 k1.1 k2.1];cases hb:(cs[j]).seq ds[j]with
   |true=>simpa[AV.leq,hb]using ih
   |false=>simp[AV.leq,hb]
  split at hk
  ·rename_i k l hu hl;simp at hk;refine main _ _ hk.symm hl (λa b x y f g ra rb hx hy=> ?_) (kQ (.inl ⟨_,hu⟩));rcases Tg ra hx with⟨kk,m,h5,rfl,rfl⟩|⟨_,h5,_⟩|⟨_,h5,_⟩<;>cases h5
   rcases Tg rb hy with⟨kk,m2,h5,rfl,rfl⟩|⟨_,h5,_⟩|⟨_,h5,_⟩<;>cases h5
   exact run_equalIn_int w d fd.type _ _ _ _ hu
  ·rename_i l hu hl;simp at hk;refine main _ _ hk.symm hl (λa b x y f g ra rb hx hy=> ?_) (kQ (.inr (.inl hu)));rcases Tg ra hx with⟨kk,m,h5,_⟩|⟨_,_,rfl,rfl⟩|⟨_,h5,_⟩<;>try cases h5
   rcases Tg rb hy with⟨kk,m,h5,_⟩|⟨_,_,rfl,rfl⟩|⟨_,h5,_⟩<;>try cases h5
   exact lD d _ _ hu w
  ·rename_i l hu hl;simp at hk;refine main _ _ hk.symm hl (λa b x y f g ra rb hx hy=> ?_) (kQ (.inr (.inr hu)));rcases Tg ra hx with⟨kk,m,h5,_⟩|⟨_,h5,_⟩|⟨_,_,rfl,rfl⟩<;>try cases h5
   rcases Tg rb hy with⟨kk,m,h5,_⟩|⟨_,h5,_⟩|⟨_,_,rfl,rfl⟩<;>try cases h5
   rw[run_equalIn_string w d _ _ _ hu,zs9];rfl
  ·cases hk
theorem zCa(h:BE P c n nx sl hp a sl0 hp0 o gs){op:BinOp}{t:TypeId}{x y:Operand}{ty:TypeId}(ho:o.op= .binOp op t x y ty){fs:Array Field}(hu:P.underlying t=some (.struct fs))(he:BX P sg sl0 hp0 nv nx gs o=some e)(hc:∀q∈e.cj,Cn.den c.ρ q):AD P o c n nx sl hp gs a e:=by
 have DH:x∈o.op.operands:=by simp[ho,Op.operands]
 have CT:y∈o.op.operands:=by simp[ho,Op.operands]
 simp only[BX,ho,Au]at he;obtain⟨s1,BL,s2,Bb,he⟩:=he;unfold S8 at he;simp only[hu]at he;split at he
 ·cases he
 rename_i hg;simp only[Bool.or_eq_true,not_or,Bool.not_eq_true]at hg;split at he
 ·rename_i ks x' y' hks D2 BN;obtain⟨f1,q1,_⟩:=h.jv BL DH D2;obtain⟨f2,q2,_⟩:=h.jv Bb CT BN;have CA:P.underlying t=some (.struct (P.fieldsOf t)):=by simp[Program.fieldsOf,hu]
  have MK:P.fieldsOf t=fs:=by simp[Program.fieldsOf,hu]
  have key:∀(k1:Cn.den c.ρ (.kinds x' ks)) (k2:Cn.den c.ρ (.kinds y' ks)),∃as_ bs:List Value,∃b,a.eval x= .agg as_.toArray/\a.eval y= .agg bs.toArray/\(E.aeq x' y').den c.ρ= .bool b/\(Op.equalIn 10000 t (.agg as_.toArray) (.agg bs.toArray)).run P c.w= .ok b c.w:=by rintro⟨cs,BD,k1⟩ ⟨ds,Hb,k2⟩;obtain⟨as_,FB,_,r1⟩:=KE q1 BD;obtain⟨bs,Dn,_,r2⟩:=KE q2 Hb;refine⟨as_,bs,AV.leq cs ds,FB,Dn,by simp only[E.den,BD,Hb,AV.aeq],?_⟩;rw[run_equalIn_struct c.w 9999 t _ _ CA hg.1,MK];exact vJ (w:=c.w) 9998 fs.toList 0 ks hks r1 r2 (by simpa using k1) (by simpa using k2)
  split at he
  ·simp only[Ad]at he;subst he;obtain⟨as_,bs,b,FB,Dn,hd,hr⟩:=key (hc _ (by simp)) (hc _ (by simp));refine AD.pure h (v:= .bool b) ?_ (.c9 (by rw[hd];exact .bool .nil)) rfl;rw[PY ho c.w FB Dn];simp[run_eqGuard_agg c.w _ t x y _ _ hg.2,run_eql_struct,hr]
  ·simp only[Ad]at he;subst he;obtain⟨as_,bs,b,FB,Dn,hd,hr⟩:=key (hc _ (by simp)) (hc _ (by simp));refine AD.pure h (v:= .bool (!b)) ?_ (.c9 (by simp only[E.den]at hd ⊢;rw[hd];exact .bool .nil)) rfl;rw[PY ho c.w FB Dn];simp[run_eqGuard_agg c.w _ t x y _ _ hg.2,run_neq_struct,hr]
  ·cases he
 ·cases he
theorem wG(h:BE P c n nx sl hp a sl0 hp0 o gs){x y:Operand}{cl:Call}(ho:o.op= .call cl){op:BinOp}(AW:(op= .gtr/\cl.callee= .builtin .max)\/(op= .lss/\cl.callee= .builtin .min))(C3:cl.args.toList=[x,y]){s1 s2:SV}(BL:BM sl0 gs x=some s1)(Bb:BM sl0 gs y=some s2)
  (he:ZP op s1 s2=some e) (hc:∀q∈e.cj,Cn.den c.ρ q):AD P o c n nx sl hp gs a e:=by
 have Ah:cl.args= #[x,y]:=by apply Array.ext';simp[C3]
 have DH:x∈o.op.operands:=by rcases AW with⟨_,hh⟩|⟨_,hh⟩<;>simp[ho,Op.operands,Call.operands,hh,Ah]
 have CT:y∈o.op.operands:=by rcases AW with⟨_,hh⟩|⟨_,hh⟩<;>simp[ho,Op.operands,Call.operands,hh,Ah]
 unfold ZP at he;split at he
 ·rename_i x' y';simp only[Ad]at he;subst he;obtain⟨f1,q1,_⟩:=Ia (h.c7 BL DH) rfl;obtain⟨f2,q2,_⟩:=Ia (h.c7 Bb CT) rfl;have hd:AV.bin op (y'.den c.ρ) (x'.den c.ρ)≠ .undef:=Cg hc;cases hx:x'.den c.ρ<;>cases hy:y'.den c.ρ<;>simp only[hx,hy,AV.bin,ne_eq,not_true_eq_false]at hd;rename_i k m k' m';split at hd
  ·rename_i hk;have hk:k'=k:=by rcases hk with hk|hk|hk;exact hk;all_goals (rcases AW with⟨h1,_⟩|⟨h1,_⟩<;>rw[h1]at hk<;>cases hk)
   subst hk;obtain⟨v1,i1⟩:=Gb q1 hx;obtain⟨v2,i2⟩:=Gb q2 hy;rcases AW with⟨rfl,Aw⟩|⟨rfl,Aw⟩
   ·refine AD.pure h (v:= .int k' (if m'>m then m' else m)) ?_ (.c9 ?_) rfl
    ·simp[execOp,ho,resolve,Aw,Ah,invoke,builtin,Builtin.max_,Builtin.max2,v1,v2]
    ·simp only[E.den,hx,hy,AV.bin,true_or,if_true,CH];by_cases hh:m'>m
     ·simp only[hh,decide_true,AV.cond,if_true];exact .int i2 .nil
     ·simp only[hh,decide_false,AV.cond,if_false];exact .int i1 .nil
   ·refine AD.pure h (v:= .int k' (if m'<m then m' else m)) ?_ (.c9 ?_) rfl
    ·simp[execOp,ho,resolve,Aw,Ah,invoke,builtin,Builtin.min_,Builtin.min2,v1,v2]
    ·simp only[E.den,hx,hy,AV.bin,true_or,if_true,CH];by_cases hh:m'<m
     ·simp only[hh,decide_true,AV.cond,if_true];exact .int i2 .nil
     ·simp only[hh,decide_false,AV.cond,if_false];exact .int i1 .nil
  ·exact absurd rfl hd
 ·cases he
end
inductive Cz(P:Program)(w:World):List TypeId->List Bool->List Value->List AV->List Nat->List Nat->Prop where
 |nil {fl}:Cz P w [] fl [] [] [] []
 |own {t ts fl el u us y ys top N rf hs}:fl.headD false=true->CX P t=some el->(Cc P el=true/\N=[]\/Cc P el=false/\DF P t=none)->Db w el (P.cellsOf el) u y top N->Cz P w ts fl.tail us ys rf hs->Cz P w (t::ts) fl (u::us) (y::ys) (N++rf) (top++hs)
 |deep {t ts fl el e z l u us y ys top rf hs}:fl.headD false=true->CX P t=some el->Cc P el=false->DF P t=some (.row e z l)->DC w [.row e z l] [u] [y] top->Cz P w ts fl.tail us ys rf hs->Cz P w (t::ts) fl (u::us) (y::ys) rf (top++hs)
 |rd {t ts fl u us y ys f rf hs}:(fl.headD false=true->CX P t=none)->Rd w [u] [y] f->Cz P w ts fl.tail us ys rf hs->Cz P w (t::ts) fl (u::us) (y::ys) (f++rf) hs
def N6(P:Program)(w:World)(t:TypeId)(fl:List Bool)(v:Value)(x:AV)(rf hs:List Nat):Prop:=
 ∃us ys,(if Am P t then v= .agg us.toArray/\x= .agg ys/\ ∀u∈us,u.oneCell'=true else us=[v]/\ys=[x])/\Cz P w (Bf P t) fl us ys rf hs
def DY(P:Program)(w:World)(t:TypeId)(fl:List Bool)(v:Value)(x:AV)(rf hs:List Nat):Prop:=
 if F0 P t fl then N6 P w t fl v x rf hs else Rd w [v] [x] rf/\hs=[]
inductive Mz(P:Program)(w:World):List TypeId->List Bool->List Value->List AV->List Nat->List Nat->Prop where
 |nil {fl}:Mz P w [] fl [] [] [] []
 |cons {t ts fl v vs x xs f h rf hs}:DY P w t fl v x f h->Mz P w ts (fl.drop (Bf P t).length) vs xs rf hs->Mz P w (t::ts) fl (v::vs) (x::xs) (f++rf) (h++hs)
theorem Cz.len{P:Program}{w:World}{ts:List TypeId}{fl:List Bool}{us:List Value}{ys:List AV}{rf hs:List Nat}(h:Cz P w ts fl us ys rf hs):us.length=ts.length/\ys.length=ts.length:=by induction h<;>simp_all
theorem Cz.inb{P:Program}{w:World}{ts:List TypeId}{fl:List Bool}{us:List Value}{ys:List AV}{rf hs:List Nat}(h:Cz P w ts fl us ys rf hs):(∀b∈rf,b<w.heap.size)/\ ∀b∈hs,b<w.heap.size:=by
 induction h with
 |nil=>simp
 |deep _ _ _ _ h _ ih=>
  refine⟨ih.1,λb hb=> ?_⟩;rcases Ac.1 hb with hb|hb
  ·exact h.inb b hb
  ·exact ih.2 b hb
 |own _ _ _ h _ ih=>
  refine⟨λb hb=> ?_,λb hb=> ?_⟩
  ·rcases Ac.1 hb with hb|hb
   ·obtain⟨xs,_,_,_,⟨_,_,_,rfl⟩|⟨g,cap,C,_,_,_,_,_,_,_,hr⟩⟩:=h
    ·simp at hb
    ·exact hr.inb b hb
   ·exact ih.1 b hb
  ·rcases Ac.1 hb with hb|hb
   ·obtain⟨xs,_,_,_,⟨_,_,rfl,_⟩|⟨g,cap,C,_,_,_,hh,_,rfl,_⟩⟩:=h
    ·simp at hb
    ·simp at hb;subst hb;exact De hh
   ·exact ih.2 b hb
 |rd _ h _ ih=>
  refine⟨λb hb=> ?_,ih.2⟩;rcases Ac.1 hb with hb|hb
  ·exact h.inb b hb
  ·exact ih.1 b hb
structure AX where
 tag:Nat
 new:Option Value
 top:List Nat
 bq:Af
def AX.pair(r:AX):Nat × Af:=(r.tag,r.bq)
structure Fi(c c':Cx)(w':World)(recs:List AX):Prop where
 ρ:c'.ρ=c.ρ
 w:c'.w=w'
 G:∀r∈recs,c'.G r.tag=⟨r.top,[]⟩
 new:∀r∈recs,∀hv,r.new=some hv->c'.K r.tag 0/\(∀g,c'.K r.tag g->g<=0)/\c'.H r.tag 0=hv
 K:∀t g,c.K t g->c'.K t g/\c'.H t g=c.H t g
 old:∀t,c.U t-> ∀g,c'.K t g->c.K t g
 iu:∀r∈recs,r.new.isSome=true->c'.E r.tag=0
 gj:∀r∈recs,r.new=none->c'.E r.tag=c.E r.tag+1
theorem Fi.mono{c c':Cx}{w':World}{recs recs':List AX}(h:Fi c c' w' recs)(hs:∀r∈recs',r∈recs):Fi c c' w' recs':=
 ⟨h.ρ,h.w,λr hr=>h.G r (hs r hr),λr hr=>h.new r (hs r hr),h.K,h.old,λr hr=>h.iu r (hs r hr),λr hr=>h.gj r (hs r hr)⟩
section
variable {P:Program} {c:Cx} {w':World}
theorem zDe{c':Cx}{t:Nat}{u:Value}{el sz:Nat}{y:AV}{top N:List Nat}(h:Db w' el sz u y top N)(hk:c'.K t 0)(hh:c'.H t 0=u):SR c' [.own t 0] [u]:=by
 obtain⟨xs,_,_,_,⟨_,⟨a,rfl⟩,_⟩|⟨g,cap,C,rfl,_⟩⟩:=h
 ·exact .own hk hh .nil
 ·exact .own hk hh .nil
theorem RW{nx:Nat}{mk:Nat->E}{ts:List TypeId}{fl:List Bool}{us:List Value}{ys:List AV}{rf hs:List Nat}(h:Cz P w' ts fl us ys rf hs):∀(j:Nat),(∀i y,ys[i]?=some y->(mk (j+i)).den c.ρ=y)->
  ∃recs:List AX,(Dd P nx mk j ts fl).2=recs.map AX.pair/\recs.flatMap AX.top=hs/\(∀r∈recs,nx+j<=r.tag/\r.tag<nx+j+ts.length/\r.new.isSome)/\(recs.map AX.tag).Nodup/\(∀r∈recs,r.new=us[r.tag-(nx+j)]?)/\
   ∀c',Fi c c' w' recs->(∀b∈rf,c'.ok b)->SR c' (Dd P nx mk j ts fl).1 us/\ ∀r∈recs,DE c' r.tag r.bq:=by
 induction h with
 |nil=>exact λj _=>⟨[],rfl,rfl,by simp,by simp,by simp,λc' _ _=>⟨.nil,by simp⟩⟩
 | @own t ts fl el u us y ys top N rf hs h1 h2 ME h3 _ ih=>
  intro j Gm;obtain⟨recs,e1,e2,e3,e4,e4',e5⟩:=ih (j+1) (λi y hy=>by rw[show j+1+i=j+(i+1)from by omega];exact Gm (i+1) y (by simpa using hy));have hy:=Gm 0 y rfl;have dJ:S4 P t el 0 0 (mk j)= .row el (P.cellsOf el) 0 (mk j) (Cc P el):=by
   unfold S4;rcases ME with⟨h,_⟩|⟨h,h'⟩
   ·rw[if_pos h,h]
   ·rw[if_neg (by rw[h];simp),h',h]
  simp only[Dd,h1,h2,dJ];refine⟨⟨nx+j,some u,top, .row el (P.cellsOf el) 0 (mk j) (Cc P el)⟩::recs,by simp[e1,AX.pair],by simp[e2],λr hr=> ?_,?_,λr hr=> ?_,λc' ha AZ=> ?_⟩
  ·rcases Ae.1 hr with rfl|hr
   ·simp
   ·have:=e3 r hr;simp only[Bd];exact⟨by omega,by omega,this.2.2⟩
  ·simp only[List.map_cons,List.nodup_cons];refine⟨λhm=> ?_,e4⟩;obtain⟨r,hr,H6⟩:=List.mem_map.1 hm;have:=e3 r hr;omega
  ·rcases Ae.1 hr with rfl|hr
   ·simp
   ·rw[e4' r hr];have:=e3 r hr;rw[show r.tag-(nx+j)=(r.tag-(nx+(j+1)))+1 from by omega,List.getElem?_cons_succ]
  ·obtain⟨q1,q2⟩:=e5 c' (ha.mono λr hr=>by simp[hr]) λb hb=>AZ b (by simp[hb]);obtain⟨k1,k2,k3⟩:=ha.new _ (List.mem_cons_self ..) u rfl;have kg:=ha.G _ (List.mem_cons_self ..);simp only at k1 k2 k3 kg;refine⟨(zDe h3 k1 k3).cons q1,λr hr=> ?_⟩;rcases Ae.1 hr with rfl|hr
   ·refine⟨k1,k2,N,?_,λb hb=>AZ b (by simp[hb]),λhd=> ?_,λ_=>by rw[kg]⟩
    rotate_left
    ·rcases ME with⟨_,h⟩|⟨h,_⟩
     ·subst h;exact⟨rfl,by rw[kg]⟩
     ·rw[h]at hd;cases hd
    rw[k3,kg,ha.w,ha.ρ];have BN:(mk j).den c.ρ=y:=by simpa using hy
    rw[BN];exact h3
   ·exact q2 r hr
 | @deep t ts fl el e z l u us y ys top rf hs h1 h2 Tl Qe h3 _ ih=>
  intro j Gm;obtain⟨recs,e1,e2,e3,e4,e4',e5⟩:=ih (j+1) (λi y hy=>by rw[show j+1+i=j+(i+1)from by omega];exact Gm (i+1) y (by simpa using hy));have hy:=Gm 0 y rfl;have dJ:S4 P t el 0 0 (mk j)= .deep e z l.toList 0 0 (mk j):=by unfold S4;rw[if_neg (by rw[Tl];simp),Qe]
  simp only[Dd,h1,h2,dJ];refine⟨⟨nx+j,some u,top, .deep e z l.toList 0 0 (mk j)⟩::recs,by simp[e1,AX.pair],by simp[e2],λr hr=> ?_,?_,λr hr=> ?_,λc' ha AZ=> ?_⟩
  ·rcases Ae.1 hr with rfl|hr
   ·simp
   ·have:=e3 r hr;simp only[Bd];exact⟨by omega,by omega,this.2.2⟩
  ·simp only[List.map_cons,List.nodup_cons];refine⟨λhm=> ?_,e4⟩;obtain⟨r,hr,H6⟩:=List.mem_map.1 hm;have:=e3 r hr;omega
  ·rcases Ae.1 hr with rfl|hr
   ·simp
   ·rw[e4' r hr];have:=e3 r hr;rw[show r.tag-(nx+j)=(r.tag-(nx+(j+1)))+1 from by omega,List.getElem?_cons_succ]
  ·obtain⟨q1,q2⟩:=e5 c' (ha.mono λr hr=>by simp[hr]) AZ;obtain⟨k1,k2,k3⟩:=ha.new _ (List.mem_cons_self ..) u rfl;have kg:=ha.G _ (List.mem_cons_self ..);have ke:=ha.iu _ (List.mem_cons_self ..) rfl;simp only at k1 k2 k3 kg ke;obtain⟨p1,p2,p3,rfl⟩:=h3.head;refine⟨(SR.own k1 k3 .nil).cons q1,λr hr=> ?_⟩;rcases Ae.1 hr with rfl|hr
   ·refine⟨k1,k2,ke,?_,by rw[kg]⟩;have BN:(mk j).den c.ρ=y:=by simpa using hy
    rw[k3,kg,ha.w,ha.ρ,BN,Av.c8];exact h3
   ·exact q2 r hr
 | @rd t ts fl u us y ys f rf hs h1 h3 _ ih=>
  intro j Gm;obtain⟨recs,e1,e2,e3,e4,e4',e5⟩:=ih (j+1) (λi y hy=>by rw[show j+1+i=j+(i+1)from by omega];exact Gm (i+1) y (by simpa using hy));have hy:=Gm 0 y rfl;have TR:Dd P nx mk j (t::ts) fl=(.e (mk j)::(Dd P nx mk (j+1) ts fl.tail).1,(Dd P nx mk (j+1) ts fl.tail).2):=by
   simp only[Dd];split
   ·rename_i h8 h9;rw[h1 h8]at h9;cases h9
   ·rfl
  rw[TR];refine⟨recs,e1,e2,λr hr=> ?_,e4,λr hr=> ?_,λc' ha AZ=> ?_⟩
  ·have:=e3 r hr;simp only[Bd];exact⟨by omega,by omega,this.2.2⟩
  ·rw[e4' r hr];have:=e3 r hr;rw[show r.tag-(nx+j)=(r.tag-(nx+(j+1)))+1 from by omega,List.getElem?_cons_succ]
  ·obtain⟨q1,q2⟩:=e5 c' ha λb hb=>AZ b (by simp[hb]);have BN:(mk j).den c.ρ=y:=by simpa using hy
   exact⟨(SR.e (f:=f) (by rw[ha.w,ha.ρ,BN];exact h3) (λb hb=>AZ b (by simp[hb])) .nil).cons q1,q2⟩
theorem Ps{nx:Nat}{mk:Nat->E}:∀(j:Nat) (ts:List TypeId) (fl:List Bool) (t:Nat) (e:Af) {gs:Gd} {f:Af},(t,e)∈(Dd P nx mk j ts fl).2->e≠ .gd gs f
 |_,[],_,_,_,_,_,h=>by simp[Dd]at h
 |j,u::ts,fl,t,e,gs,f,h=>by
  unfold Dd at h;split at h
  ·rcases Ae.1 h with h|h
   ·cases h;unfold S4;split
    ·simp
    ·split<;>simp
   ·exact Ps _ _ _ _ _ h
  ·exact Ps _ _ _ _ _ h
theorem VW{ρ:List AV}{x:E}{ys:List AV}(hx:x.den ρ= .agg ys):∀i y,ys[i]?=some y->(DW x true (0+i)).den ρ=y:=by intro i y hy;simp[DW,E.den,hx,AV.fld,AV.cells,hy]
theorem u0{nx:Nat}{t:TypeId}{fl:List Bool}{x:E}{v:Value}{y:AV}{rf hs:List Nat}(h:DY P w' t fl v y rf hs)(hx:x.den c.ρ=y):
  ∃recs:List AX,(PJ P nx t fl x).2=recs.map AX.pair/\recs.flatMap AX.top=hs/\(∀r∈recs,nx<=r.tag/\r.tag<nx+(Bf P t).length/\r.new.isSome)/\(recs.map AX.tag).Nodup/\
   ∀c',Fi c c' w' recs->(∀b∈rf,c'.ok b)->SR c' [(PJ P nx t fl x).1] [v]/\ ∀r∈recs,DE c' r.tag r.bq:=by
 unfold DY at h;unfold PJ;split at h
 ·rename_i hf;simp only[hf,if_true];obtain⟨us,ys,hg,hc⟩:=h;split at hg
  ·rename_i AK;obtain⟨rfl,rfl,Cp⟩:=hg;obtain⟨recs,e1,e2,e3,e4,_,e5⟩:=RW (c:=c) (nx:=nx) (mk:=DW x (Am P t)) hc 0 (by rw[AK];exact VW hx);refine⟨recs,e1,e2,λr hr=>by have:=e3 r hr;exact⟨by omega,by omega,this.2.2⟩,e4,λc' ha AZ=> ?_⟩;obtain⟨q1,q2⟩:=e5 c' ha AZ;rw[if_pos AK];exact⟨.agg Cp (by rw[BP.ax];exact q1) .nil,q2⟩
  ·rename_i AK;obtain⟨rfl,rfl⟩:=hg;have G9:Am P t=false:=by simpa using AK
   obtain⟨recs,e1,e2,e3,e4,_,e5⟩:=RW (c:=c) (nx:=nx) (mk:=DW x (Am P t)) hc 0 (by
    intro i z hz;cases i with
    |zero=>simp at hz;subst hz;simp[DW,G9,hx]
    |succ i=>simp at hz)
   refine⟨recs,e1,e2,λr hr=>by have:=e3 r hr;exact⟨by omega,by omega,this.2.2⟩,e4,λc' ha AZ=> ?_⟩;obtain⟨q1,q2⟩:=e5 c' ha AZ;refine⟨?_,q2⟩;rw[if_neg AK];have hl:=q1.len;generalize (Dd P nx (DW x (Am P t)) 0 (Bf P t) fl).1=l at q1 hl
   match l,hl with
   | [s],_=>exact q1
 ·rename_i hf;simp only[hf,if_false,Ba];obtain⟨h1,rfl⟩:=h;exact⟨[],rfl,rfl,by simp,by simp,λc' ha AZ=>⟨.e (f:=rf) (by rw[ha.w,ha.ρ,hx];exact h1) AZ .nil,by simp⟩⟩
theorem zr4{ts:List TypeId}{fl:List Bool}{x:E}{vs:List Value}{ys:List AV}{rf hs:List Nat}(h:Mz P w' ts fl vs ys rf hs):∀(nx i:Nat),(∀k y,ys[k]?=some y->(E.proj x (i+k)).den c.ρ=y)->
  ∃recs:List AX,(zip P nx ts fl x i).2=recs.map AX.pair/\recs.flatMap AX.top=hs/\(∀r∈recs,nx<=r.tag/\r.tag<nx+(ts.flatMap (Bf P)).length/\r.new.isSome)/\(recs.map AX.tag).Nodup/\
   ∀c',Fi c c' w' recs->(∀b∈rf,c'.ok b)->SR c' (zip P nx ts fl x i).1 vs/\ ∀r∈recs,DE c' r.tag r.bq:=by
 induction h with
 |nil=>exact λnx i _=>⟨[],rfl,rfl,by simp,by simp,λc' _ _=>⟨.nil,by simp⟩⟩
 | @cons t ts fl v vs y ys f h rf hs h1 _ ih=>
  intro nx i hx;obtain⟨r1,a1,a2,a3,a4,a5⟩:=u0 (c:=c) (nx:=nx) (x:= .proj x i) h1 (hx 0 y rfl);obtain⟨r2,b1,b2,b3,b4,b5⟩:=ih (nx+(Bf P t).length) (i+1) (λk z hz=>by rw[show i+1+k=i+(k+1)from by omega];exact hx (k+1) z (by simpa using hz));simp only[zip];refine⟨r1++r2,by simp[a1,b1],by simp[a2,b2],λr hr=> ?_,?_,λc' ha AZ=> ?_⟩
  ·simp only[List.flatMap_cons,AH];rcases Ac.1 hr with hr|hr
   ·have:=a3 r hr;exact⟨this.1,by omega,this.2.2⟩
   ·have:=b3 r hr;exact⟨by omega,by omega,this.2.2⟩
  ·rw[List.map_append,List.nodup_append];refine⟨a4,b4,λt1 Jf t2 KP he=> ?_⟩;obtain⟨q1,GQ,rfl⟩:=List.mem_map.1 Jf;obtain⟨q2,Fu,rfl⟩:=List.mem_map.1 KP;have:=a3 q1 GQ;have:=b3 q2 Fu;omega
  ·obtain⟨p1,p2⟩:=a5 c' (ha.mono λr hr=>by simp[hr]) λb hb=>AZ b (by simp[hb]);obtain⟨q1,q2⟩:=b5 c' (ha.mono λr hr=>by simp[hr]) λb hb=>AZ b (by simp[hb]);refine⟨p1.cons q1,λr hr=> ?_⟩;rcases Ac.1 hr with hr|hr
   ·exact p2 r hr
   ·exact q2 r hr
end
theorem VM{α:Type}{f:α->List Nat}:∀{l:List α},(l.flatMap f).Nodup->(∀a∈l,(f a).Nodup)/\ ∀(i j:Nat) (a b:α) (x:Nat),l[i]?=some a->l[j]?=some b->x∈f a->x∈f b->i=j
 | [],_=>⟨by simp,by simp⟩
 |a::l,h=>by
  rw[List.flatMap_cons,List.nodup_append]at h;obtain⟨h1,h2,h3⟩:=h;obtain⟨k1,k2⟩:=VM h2;refine⟨λb hb=> ?_,λi j p q x hi hj hp hq=> ?_⟩
  ·rcases Ae.1 hb with rfl|hb
   ·exact h1
   ·exact k1 b hb
  ·cases i with
   |zero=>
    cases j with
    |zero=>rfl
    |succ j=>simp at hi hj;subst hi;exact absurd rfl (h3 x hp x (List.mem_flatMap.2 ⟨q,List.mem_of_getElem? hj,hq⟩))
   |succ i=>
    cases j with
    |zero=>simp at hi hj;subst hj;exact absurd rfl (h3 x hq x (List.mem_flatMap.2 ⟨p,List.mem_of_getElem? hi,hp⟩))
    |succ j=>rw[k2 i j p q x (by simpa using hi) (by simpa using hj) hp hq]
theorem Sq{recs:List AX}(hn:(recs.map AX.tag).Nodup){r:AX}(hr:r∈recs)(p:AX->Bool)(hp:p r=true)(Ev:∀q,p q=true->q.tag=r.tag):recs.find? p=some r:=by
 induction recs with
 |nil=>simp at hr
 |cons q recs ih=>
  simp only[List.map_cons,List.nodup_cons]at hn;rw[List.find?_cons];rcases Ae.1 hr with rfl|hr
  ·simp[hp]
  ·have:p q=false:=by
    cases hq:p q with
    |false=>rfl
    |true=>exact absurd (List.mem_map.2 ⟨r,hr,(Ev q hq).symm⟩) hn.1
   rw[this];exact ih hn.2 hr
def Cx.du(c:Cx)(w':World)(recs:List AX):Cx:=
 {c with w:=w',G:=λt=>(match recs.find? (λr=>r.tag==t)with|some r=>⟨r.top,[]⟩|none=>c.G t),K:=λt g=>c.K t g\/ ∃r∈recs,r.tag=t/\r.new.isSome=true/\g=0,H:=λt g=>(match recs.find? (λr=>r.tag==t&&r.new.isSome)with|some r=>r.new.getD undef|none=>c.H t g),U:=λt=>c.U t\/ ∃r∈recs,r.tag=t,E:=λt=>match recs.find? (λr=>r.tag==t)with|some r=>if r.new.isSome then 0 else c.E t+1|none=>c.E t}
section
variable {P:Program} {c:Cx} {n:Nat} {sl:Nat->SV} {hp:Nat->Option Af} {a:Act} {w':World} {recs:List AX}
theorem Cx.dw(hn:(recs.map AX.tag).Nodup){r:AX}(hr:r∈recs):(c.du w' recs).G r.tag=⟨r.top,[]⟩:=by simp only[Cx.du];rw[Sq hn hr (λq=>q.tag==r.tag) (by simp) (λq hq=>by simpa using hq)]
theorem Cx.de{t:Nat}(ht:∀r∈recs,r.tag≠t):(c.du w' recs).G t=c.G t:=by
 simp only[Cx.du];have:recs.find? (λr=>r.tag==t)=none:=by rw[List.find?_eq_none];intro r hr;simpa using ht r hr
 rw[this]
theorem Cx.dr(hU:∀t g,c.K t g->c.U t)(hn:(recs.map AX.tag).Nodup)(Bg:∀r∈recs,r.new.isSome=true-> ¬c.U r.tag):Fi c (c.du w' recs) w' recs:=by
 refine⟨rfl,rfl,λr hr=>Cx.dw hn hr,λr hr hv Je=>⟨.inr ⟨r,hr,rfl,by simp[Je],rfl⟩,λg hg=> ?_,?_⟩,λt g hk=>⟨.inl hk,?_⟩,λt ht g hk=> ?_,λr hr hs=> ?_,λr hr hs=> ?_⟩
 ·rcases hg with hg|⟨_,_,_,_,rfl⟩
  ·exact absurd (hU _ _ hg) (Bg r hr (by simp[Je]))
  ·exact AN _
 ·simp only[Cx.du];rw[Sq hn hr (λq=>q.tag==r.tag&&q.new.isSome) (by simp[Je]) (λq hq=>by simp only[Ab,AM]at hq;exact hq.1)];simp[Je]
 ·simp only[Cx.du];have:recs.find? (λr=>r.tag==t&&r.new.isSome)=none:=by
   rw[List.find?_eq_none];rintro r hr hh;simp only[Ab,AM]at hh;exact Bg r hr hh.2 (hh.1▸hU t g hk)
  rw[this]
 ·rcases hk with hk|⟨r,hr,rfl,hh,_⟩
  ·exact hk
  ·exact absurd ht (Bg r hr hh)
 ·simp only[Cx.du];rw[Sq hn hr (λq=>q.tag==r.tag) (by simp) (λq hq=>by simpa using hq)];simp[hs]
 ·simp only[Cx.du];rw[Sq hn hr (λq=>q.tag==r.tag) (by simp) (λq hq=>by simpa using hq)];simp[hs]
theorem Cx.ja{t:Nat}(ht:∀r∈recs,r.tag≠t):(c.du w' recs).E t=c.E t:=by
 simp only[Cx.du];have:recs.find? (λr=>r.tag==t)=none:=by rw[List.find?_eq_none];intro r hr;simpa using ht r hr
 rw[this]
theorem Rel.changes(h:Rel c n sl hp a){hs:List Nat}{gs:Gd}(k:BA c.ρ gs)(Bj:Mod hs c.w w')(hn:(recs.map AX.tag).Nodup)(Bg:∀r∈recs,r.new.isSome=true-> ¬c.U r.tag)
  (Hg:∀b∈hs,∃r∈recs,b∈(c.G r.tag).top) (E2:(recs.flatMap AX.top).Nodup) (Ch:∀r∈recs,∀b∈r.top,(b∈hs\/c.w.heap.size<=b)/\b<w'.heap.size)
  (BB:∀r∈recs,∀hs f,r.bq≠ .gd hs f) (BI:D6 c (c.du w' recs)-> ∀r∈recs,DE (c.du w' recs) r.tag r.bq):
  Rel (c.du w' recs) n sl (Bp hp (recs.map λr=>(r.tag,C5 gs r.bq))) a/\D6 c (c.du w' recs):=by
 have aft:=Cx.dr (w':=w') h.bz hn Bg;have qG:∀b∈hs,c.M b:=λb hb=>by obtain⟨r,_,hr⟩:=Hg b hb;exact⟨_,hr⟩
 have Bk:∀b∈hs,c.B<=b\/c.Mu b:=λb hb=>by obtain⟨r,_,hr⟩:=Hg b hb;exact h.gw.allow r.tag b (by simp[GI.own,hr])
 have Ce:D6 c (c.du w' recs):=by
  refine⟨rfl,rfl,λb hb AZ=>⟨λ⟨t,ht⟩=> ?_,AZ.2⟩,λb hb AZ=>Bj.block b hb λhh=>AZ.1 (qG b hh),aft.K,λt g hk=> ?_⟩;by_cases hT:∃r∈recs,r.tag=t
  ·obtain⟨r,hr,rfl⟩:=hT;rw[Cx.dw hn hr]at ht;rcases(Ch r hr b ht).1 with hh|hh
   ·exact AZ.1 (qG b hh)
   ·omega
  ·rw[Cx.de λr hr hh=>hT ⟨r,hr,hh⟩]at ht;exact AZ.1 ⟨t,ht⟩
  ·by_cases hT:∃r∈recs,r.tag=t
   ·obtain⟨r,hr,rfl⟩:=hT;have DI:r.new=none:=by
     cases hh:r.new with
     |none=>rfl
     |some v=>exact absurd (h.bz _ _ hk) (Bg r hr (by simp[hh]))
    rw[aft.gj r hr DI];exact⟨by omega,λh=>by omega⟩
   ·have pB:∀r∈recs,r.tag≠t:=λr hr hh=>hT ⟨r,hr,hh⟩;rw[Cx.ja pB,Cx.de pB];refine⟨AN _,λ_=>⟨rfl,λb hb Gi=>Bj.block b Gi λhh=> ?_⟩⟩;obtain⟨r,hr,Ot⟩:=Hg b hh;exact h.gw.cy t r.tag (λhh=>hT ⟨r,hr,hh.symm⟩) b (by simp[GI.own,hb]) (by simp[GI.own,Ot])
 have BI:=BI Ce;have J4:∀r∈recs,∀e',(r.tag,e')∈(recs.map λr=>(r.tag,C5 gs r.bq))->e'=C5 gs r.bq:=by
  intro r hr e' Fc;obtain⟨q,hq,Jc⟩:=List.mem_map.1 Fc;simp only[AY]at Jc;obtain⟨h1,rfl⟩:=Jc;have e1:=Cx.dw (c:=c) (w':=w') hn hr;have:q=r:=by have f1:=Sq hn hr (λq=>q.tag==r.tag) (by simp) (λq hq=>by simpa using hq);have f2:=Sq hn hq (λp=>p.tag==r.tag) (by simp[h1]) (λp hp=>by rw[h1];simpa using hp);rw[f1]at f2;cases f2;rfl
  rw[this]
 refine⟨h.change (λt=> ∃r∈recs,r.tag=t) Ce ⟨Bj.os.trans h.base.os,Bj.tape.trans h.base.tape,Bj.output.trans h.base.output,Nat.le_trans h.base.size Bj.size,λt v Qn=>⟨.inl (h.base.pins t v Qn).1,λhk=> ?_⟩,λb hb Gn=> ?_,h.base.pk,h.base.lo⟩
  (λt ht=>⟨Mg λe he=> ?_,Cx.de λr hr hh=>ht ⟨r,hr,hh⟩,Cx.ja λr hr hh=>ht ⟨r,hr,hh⟩,λg hg=> ?_⟩) (λt ht b hb=>Bj.block b (h.gw.inb t b (by simp[GI.own,hb])) λhh=> ?_) (λt ht=> ?_) ⟨λt=> ?_,λt u M8 b hb Cl=> ?_,λt b hb=> ?_,λt b hb=> ?_⟩ (λt g hk=> ?_) (λt e he=> ?_),Ce⟩
 ·have Cw:=aft.old t (h.base.pins t v Qn).1 0 hk;rw[(aft.K t 0 Cw).2];exact(h.base.pins t v Qn).2 Cw
 ·refine(Bj.block b (Nat.lt_of_lt_of_le hb h.base.size) λhh=> ?_).trans (h.base.block b hb Gn);rcases Bk b hh with h1|h1
  ·exact absurd h1 (Nat.not_le.2 hb)
  ·exact Gn h1
 ·obtain⟨q,hq,Jc⟩:=List.mem_map.1 he;simp only[AY]at Jc;exact ht ⟨q,hq,Jc.1⟩
 ·rcases hg with hg|⟨r,hr,H6,_⟩
  ·exact hg
  ·exact absurd ⟨r,hr,H6⟩ ht
 ·obtain⟨r,hr,Gi⟩:=Hg b hh;exact h.gw.cy t r.tag (λhh=>ht ⟨r,hr,hh.symm⟩) b (by simp[GI.own,hb]) (by simp[GI.own,Gi])
 ·obtain⟨r,hr,rfl⟩:=ht;have Ec:=mZ (hp:=hp) (l:=recs.map λr=>(r.tag,C5 gs r.bq)) (List.mem_map.2 ⟨r,hr,rfl⟩) (J4 r hr);rw[Ec];refine⟨λe' Uf=> ?_,λDI=> ?_⟩
  ·rw[(Ss k (BB r hr)).1 Uf];exact BI r hr
  ·exact absurd ((Ss k (BB r hr)).2 rfl) (DI r.bq)
 ·by_cases hT:∃r∈recs,r.tag=t
  ·obtain⟨r,hr,rfl⟩:=hT;rw[Cx.dw hn hr];simpa[GI.own]using(VM E2).1 r hr
  ·rw[Cx.de λr hr hh=>hT ⟨r,hr,hh⟩];exact h.gw.nodup t
 ·by_cases hT:∃r∈recs,r.tag=t
  ·obtain⟨r,hr,rfl⟩:=hT;rw[Cx.dw hn hr]at hb;simp only[GI.own,AB]at hb;by_cases hV:∃r∈recs,r.tag=u
   ·obtain⟨q,hq,rfl⟩:=hV;rw[Cx.dw hn hq]at Cl;simp only[GI.own,AB]at Cl;obtain⟨i,hi⟩:=List.getElem?_of_mem hr;obtain⟨j,hj⟩:=List.getElem?_of_mem hq;have:=(VM E2).2 i j r q b hi hj hb Cl;subst this;rw[hi]at hj;cases hj;exact M8 rfl
   ·rw[Cx.de λr hr hh=>hV ⟨r,hr,hh⟩]at Cl;rcases(Ch r hr b hb).1 with hh|hh
    ·obtain⟨q,hq,hbq⟩:=Hg b hh;exact h.gw.cy q.tag u (λhh=>hV ⟨q,hq,hh⟩) b (by simp[GI.own,hbq]) Cl
    ·have:=h.gw.inb u b Cl;omega
  ·rw[Cx.de λr hr hh=>hT ⟨r,hr,hh⟩]at hb;by_cases hV:∃r∈recs,r.tag=u
   ·obtain⟨q,hq,rfl⟩:=hV;rw[Cx.dw hn hq]at Cl;simp only[GI.own,AB]at Cl;rcases(Ch q hq b Cl).1 with hh|hh
    ·obtain⟨r,hr,WZ⟩:=Hg b hh;exact h.gw.cy r.tag t (λhh=>hT ⟨r,hr,hh⟩) b (by simp[GI.own,WZ]) hb
    ·have:=h.gw.inb t b hb;omega
   ·rw[Cx.de λr hr hh=>hV ⟨r,hr,hh⟩]at Cl;exact h.gw.cy t u M8 b hb Cl
 ·by_cases hT:∃r∈recs,r.tag=t
  ·obtain⟨r,hr,rfl⟩:=hT;rw[Cx.dw hn hr]at hb;simp only[GI.own,AB]at hb;rcases(Ch r hr b hb).1 with hh|hh
   ·exact Bk b hh
   ·exact .inl (Nat.le_trans h.base.size hh)
  ·rw[Cx.de λr hr hh=>hT ⟨r,hr,hh⟩]at hb;exact h.gw.allow t b hb
 ·by_cases hT:∃r∈recs,r.tag=t
  ·obtain⟨r,hr,rfl⟩:=hT;rw[Cx.dw hn hr]at hb;simp only[GI.own,AB]at hb;exact(Ch r hr b hb).2
  ·rw[Cx.de λr hr hh=>hT ⟨r,hr,hh⟩]at hb;exact Nat.lt_of_lt_of_le (h.gw.inb t b hb) Bj.size
 ·rcases hk with hk|⟨r,hr,H6,_⟩
  ·exact .inl (h.bz t g hk)
  ·exact .inr ⟨r,hr,H6⟩
 ·by_cases hT:∃r∈recs,r.tag=t
  ·exact .inr hT
  ·rw[Mg]at he
   ·exact .inl (h.c6 t e he)
   ·intro e' Fc;obtain⟨q,hq,Jc⟩:=List.mem_map.1 Fc;simp only[AY]at Jc;exact hT ⟨q,hq,Jc.1⟩
end
def fS(P:Program)(w:World)(t:TypeId):PM->Value->AV->List Nat->List Nat->Prop
 | .ro,v,x,rf,hs=>Rd w [v] [x] rf/\hs=[]
 | .va own,v,x,rf,hs=>N6 P w t own v x rf hs
 | .mu own,v,x,rf,hs=>N6 P w t own v x rf hs
 | .bx own _,v,x,rf,hs=> ∃(ty:TypeId) (b:Nat) (C:Array Value) (ys:List AV) (h:List Nat),KU P t=some ty/\v= .pointer (some ⟨b,0,none⟩)/\w.heap[b]?=some (.cells C ty (0,0))/\(∀u∈C.toList,u.oneCell'=true)/\x= .ref (.agg ys)/\
   Cz P w (Bf P ty) own C.toList ys rf h/\hs=b::h
inductive DV(P:Program)(w:World):List TypeId->List PM->List Bool->List Value->List AV->List Nat->List Nat->List Nat->Prop where
 |nil {ms lo}:DV P w [] ms lo [] [] [] [] []
 |cons {t ts ms lo v vs x xs f h rf lf hs}:fS P w t (ms.headD .ro) v x f h->DV P w ts ms.tail lo.tail vs xs rf lf hs->DV P w (t::ts) ms lo (v::vs) (x::xs) (f++rf) lf (h++hs)
 |lent {t ts ms lo v vs x xs f rf lf hs}:lo.headD false=true->ms.headD .ro= .ro->Rd w [v] [x] f->DV P w ts ms.tail lo.tail vs xs rf lf hs->DV P w (t::ts) ms lo (v::vs) (x::xs) rf (f++lf) hs
 |free {ms lo v vs x xs f rf lf hs}:Rd w [v] [x] f->DV P w [] ms.tail lo.tail vs xs rf lf hs->DV P w [] ms lo (v::vs) (x::xs) (f++rf) lf hs
inductive G2(P:Program)(c:Cx):List TypeId->List Bool->List Value->List (Option RI)->Prop where
 |nil {fl}:G2 P c [] fl [] []
 |row {t ts fl v vs u g el rs}:fl.headD false=true->CX P t=some el->(Cc P el=true\/DF P t=none)->c.K u g->c.H u g=v->(∀g',c.K u g'->g'<=g)->G2 P c ts fl.tail vs rs->G2 P c (t::ts) fl (v::vs) (some (.fl u g el (P.cellsOf el) (Cc P el))::rs)
 |deep {t ts fl v vs u g el e z l ep rs}:fl.headD false=true->CX P t=some el->Cc P el=false->DF P t=some (.row e z (Av.of l))->c.K u g->c.H u g=v->(∀g',c.K u g'->g'<=g)->c.E u=ep->G2 P c ts fl.tail vs rs->G2 P c (t::ts) fl (v::vs) (some (.dp u g e z l ep)::rs)
 |none {t ts fl v vs rs}:(fl.headD false=true->CX P t=none\/ ∃a,v= .slice a 0 0)->G2 P c ts fl.tail vs rs->G2 P c (t::ts) fl (v::vs) (none::rs)
inductive Jp(P:Program)(c:Cx):List TypeId->List PM->List Value->List PA->Prop where
 |nil {ts ms}:Jp P c ts ms [] []
 |ro {ts ms v vs bs}:ms.headD .ro= .ro->Jp P c ts.tail ms.tail vs bs->Jp P c ts ms (v::vs) bs
 |va {ts ms own v vs bs us}:ms.headD .ro= .va own->(∀u∈us,c.U u)->Jp P c ts.tail ms.tail vs bs->Jp P c ts ms (v::vs) (.va us::bs)
 |mu {t ts ms own v vs bs us rs}:ms.headD .ro= .mu own->(if Am P t then v= .agg us.toArray else us=[v])->G2 P c (Bf P t) own us rs->Jp P c ts ms.tail vs bs->Jp P c (t::ts) ms (v::vs) (.mu rs (Am P t)::bs)
 |bx {t ts ms own own' ty v vs bs T b g olds}:ms.headD .ro= .bx own own'->KU P t=some ty->v= .pointer (some ⟨b,0,none⟩)->c.K T 0->c.H T 0=v->(∀u∈olds,c.U u)->Jp P c ts ms.tail vs bs->Jp P c (t::ts) ms (v::vs) (.box T g own' ty olds::bs)
section
variable {P:Program} {c:Cx} {hp:Nat->Option Af} {gs:Gd}
theorem V0{t el:TypeId}{d:DT}(Bx:CX P t=some el)(h:DF P t=some d):P.cellsOf el≠0/\(Bf P el).length=P.cellsOf el/\ ∃l:List DT,d= .row el (P.cellsOf el) (Av.of l)/\l.length=P.cellsOf el:=by
 have hu:P.underlying t=some (.slice el):=by
  unfold CX at Bx;split at Bx
  ·simp at Bx;subst Bx;assumption
  ·cases Bx
  ·rename_i hu;unfold DF at h;split at h
   ·cases h
   ·simp[WN,hu]at h
 unfold DF at h;split at h
 ·cases h
 simp only[WN,hu]at h;split at h
 ·cases h
 ·rename_i hh;simp only[not_or,Decidable.not_not,ne_eq]at hh;obtain⟨l,hl,rfl⟩:=As.1 h;exact⟨hh.1,hh.2,l,rfl,by rw[mapM_len _ _ hl];exact hh.2⟩
where
 mapM_len {α β:Type} {f:α->Option β}:∀(l:List α) (l':List β),l.mapM f=some l'->l'.length=l.length
  | [],l',h=>by simp at h;subst h;rfl
  |a::l,l',h=>by simp only[List.mapM_cons,Option.bind_eq_bind,Au,Option.pure_def,Ad]at h;obtain⟨b,_,bs,Qi,rfl⟩:=h;simp[mapM_len l bs Qi]
theorem Cz.void{w:World}{t el:TypeId}{ts:List TypeId}{fl:List Bool}{a:Option Addr}{us:List Value}{ys:List AV}{rf hs:List Nat}(h1:fl.headD false=true)(h2:CX P t=some el)(hz:P.cellsOf el≠0)(h:Cz P w ts fl.tail us ys rf hs):Cz P w (t::ts) fl (.slice a 0 0::us) (.sl []::ys) rf ([]++hs):=by
 have Bk:Db w el (P.cellsOf el) (.slice a 0 0) (.sl []) [] []:=⟨[],rfl,by simp,by omega, .inl ⟨rfl,⟨a,rfl⟩,rfl,rfl⟩⟩
 cases hf:Cc P el with
 |true=>exact .own h1 h2 (.inl ⟨hf,rfl⟩) Bk h
 |false=>
  cases hd:DF P t with
  |none=>exact .own h1 h2 (.inr ⟨hf,hd⟩) Bk h
  |some d=>obtain⟨_,_,l,rfl,hl⟩:=V0 h2 hd;exact .deep h1 h2 hf hd (.void (by omega) (by rw[Av.ax];exact hl) .nil) h
theorem vU{as_ bs:List Value}(h:Value.agg as_.toArray= .agg bs.toArray):as_=bs:=by
 have h1:as_.toArray=bs.toArray:=by injection h
 have:=congrArg Array.toList h1;simpa using this
theorem jV(eh:EH c hp)(k:BA c.ρ gs)(hU:∀t g,c.K t g->c.U t):∀(ts:List TypeId) {cs:List SV} {fl:List Bool} {rs:List (Option RI)} {us:List Nat} {vs:List Value} {xs:EL} {m:Nat},Hq P hp gs ts cs fl=some (rs,us)->SR c cs vs->CM hp gs m cs=some xs->m<=A8->
  ∃rf hs,Cz P c.w ts fl vs (xs.den c.ρ) rf hs/\(∀b∈rf,c.ei us b)/\hs=(CW rs).flatMap (λt=>(c.G t).top)/\G2 P c ts fl vs rs/\ ∀u∈CW rs,c.U u
 | [],[],fl,rs,us,vs,xs,m,h,hs,hx,hm=>by
  simp[Hq]at h;obtain⟨rfl,rfl⟩:=h;cases hs;cases m with
  |zero=>simp[CM]at hx
  |succ m=>simp[CM]at hx;subst hx;exact⟨[],[], .nil,by simp,by simp[CW], .nil,by simp[CW]⟩
 | [],s::cs,fl,rs,us,vs,xs,m,h,hs,hx,hm=>by simp[Hq]at h
 |t::ts,[],fl,rs,us,vs,xs,m,h,hs,hx,hm=>by simp[Hq]at h
 |t::ts,s::cs,fl,rs,us,[],xs,m,h,hs,hx,hm=>by have:=hs.len;simp at this
 |t::ts,s::cs,fl,rs,us,v::vs,xs,m,h,hs,hx,hm=>by
  obtain⟨j,y,ys,rfl,hy,Dx,rfl⟩:=K2 hx;obtain⟨r1,r2⟩:=hs.cr;unfold Hq at h;split at h
  ·cases h
  rename_i rs' us' Dw;obtain⟨rf,A9,q1,q2,q3,q4,q5⟩:=jV eh k hU ts Dw r2 Dx (by omega);split at h
  ·rename_i hf;split at h
   ·rename_i r hr;simp only[Ad,AY]at h;obtain⟨rfl,rfl⟩:=h;unfold mV at hr;split at hr
    ·cases hr
    rename_i el Bx;split at hr
    ·cases hr
    rename_i hz;have empt:∀a,v= .slice a 0 0->y.den c.ρ= .sl []->r=none-> ∃rf hs,Cz P c.w (t::ts) fl (v::vs) ((EL.cons y ys).den c.ρ) rf hs/\(∀b∈rf,c.ei us' b)/\hs=(CW (r::rs')).flatMap (λt=>(c.G t).top)/\G2 P c (t::ts) fl (v::vs) (r::rs')/\ ∀u∈CW (r::rs'),c.U u:=by rintro a rfl H7 rfl;refine⟨rf,[]++A9,?_,q2,by simpa[CW]using q3, .none (λ_=> .inr ⟨a,rfl⟩) q4,by simpa[CW]using q5⟩;rw[EL.den,H7];exact Cz.void hf Bx (by omega) q1
    split at hr
    ·simp only[Ad]at hr;subst hr;cases r1 with
     |cm _=>exact empt _ rfl (by rw[Md hy];rfl) rfl
    ·simp only[Ad]at hr;subst hr;cases r1 with
     |emp _=>
      refine empt _ rfl ?_ rfl;cases j with
      |zero=>simp[BF]at hy
      |succ j=>simp[BF]at hy;subst hy;rfl
    ·rename_i u g;split at hr
     ·rename_i e z g' x d hl;split at hr
      ·rename_i hh;obtain⟨rfl,rfl,rfl,Hd⟩:=hh;simp only[Ad]at hr;subst hr;obtain⟨p1,p2,N,p3,p4,p5,_⟩:=eh u _ (CP hl k);have Oz:Cc P e=true\/DF P t=none:=Hd.imp (·.1) (by rintro⟨_,h⟩;simpa using h);have Hd:Cc P e=true/\N=[]\/Cc P e=false/\DF P t=none:=by
        rcases Hd with⟨h1,h2⟩|⟨h1,h2⟩
        ·exact .inl ⟨h1,(p5 h2).1⟩
        ·exact .inr ⟨h1,by simpa using h2⟩
       have Hn:y=x:=by
        cases j with
        |zero=>simp[BF]at hy
        |succ j=>simp[BF,IU,hl]at hy;exact hy.symm
       subst Hn;have hv:c.H u g=v:=by
        cases r1 with
        |own _ k2 _=>exact k2
       rw[hv]at p3;refine⟨N++rf,(c.G u).top++A9,Cz.own hf Bx Hd p3 q1,λb hb=> ?_,by simp[CW,RI.tag,q3], .row hf Bx Oz p1 hv p2 q4,λw hw=> ?_⟩
       ·rcases Ac.1 hb with hb|hb
        ·exact .inl (p4 b hb)
        ·exact q2 b hb
       simp only[CW,List.filterMap_cons,Option.map_some,RI.tag,Ae]at hw;rcases hw with rfl|hw
       ·exact hU _ _ p1
       ·exact q5 w hw
      ·cases hr
     ·rename_i e z l g' ep x hl;split at hr
      ·rename_i hh;obtain⟨rfl,Gs,DQ⟩:=hh;have DQ:=Nz DQ;simp only[Ad]at hr;subst hr;obtain⟨p1,p2,pE,p3,_⟩:=eh u _ (CP hl k);have Hn:y=x:=by
        cases j with
        |zero=>simp[BF]at hy
        |succ j=>simp[BF,IU,hl]at hy;exact hy.symm
       subst Hn;have hv:c.H u g=v:=by
        cases r1 with
        |own _ k2 _=>exact k2
       rw[hv]at p3;refine⟨rf,(c.G u).top++A9,Cz.deep hf Bx Gs DQ p3 q1,q2,by simp[CW,RI.tag,q3], .deep hf Bx Gs DQ p1 hv p2 pE q4,λw hw=> ?_⟩;simp only[CW,List.filterMap_cons,Option.map_some,RI.tag,Ae]at hw;rcases hw with rfl|hw
       ·exact hU _ _ p1
       ·exact q5 w hw
      ·cases hr
     ·cases hr
    ·cases hr
   ·cases h
  ·rename_i hf;simp only[Ad,AY]at h;obtain⟨rfl,rfl⟩:=h;obtain⟨f,p1,p2⟩:=Ig eh k j hy r1 A8 (by omega);refine⟨f++rf,A9,Cz.rd (λhh=>absurd hh hf) p1 q1,λb hb=> ?_,by simpa[CW]using q3, .none (λhh=>absurd hh hf) q4,by simpa[CW]using q5⟩;rcases Ac.1 hb with hb|hb
   ·exact(p2 b hb).mono λt ht=>by simp[ht]
   ·exact(q2 b hb).mono λt ht=>by simp[ht]
theorem vT(eh:EH c hp)(k:BA c.ρ gs)(hU:∀t g,c.K t g->c.U t){t:TypeId}{s:SV}{v:Value}{fl:List Bool}{rs:List (Option RI)}{us:List Nat}{x:E}(hs:SR c [s] [v])(hx:BF hp gs A8 s=some x)(hg:(Ic s).2=Am P t)
  (h:Hq P hp gs (Bf P t) (Ic s).1 fl=some (rs,us)):
  ∃rf hs,N6 P c.w t fl v (x.den c.ρ) rf hs/\(∀b∈rf,c.ei us b)/\hs=(CW rs).flatMap (λt=>(c.G t).top)/\(∃vs',(if Am P t then v= .agg vs'.toArray else vs'=[v])/\G2 P c (Bf P t) fl vs' rs)/\ ∀u∈CW rs,c.U u:=by
 have single:∀(s:SV),SR c [s] [v]->BF hp gs A8 s=some x->Am P t=false->Hq P hp gs (Bf P t) [s] fl=some (rs,us)-> ∃rf hs,N6 P c.w t fl v (x.den c.ρ) rf hs/\(∀b∈rf,c.ei us b)/\hs=(CW rs).flatMap (λt=>(c.G t).top)/\(∃vs',(if Am P t then v= .agg vs'.toArray else vs'=[v])/\G2 P c (Bf P t) fl vs' rs)/\ ∀u∈CW rs,c.U u:=by
  intro s hs hx AK h;obtain⟨t0,M6⟩:∃t0,Bf P t=[t0]:=by
   cases hh:Bf P t with
   |nil=>rw[hh]at h;simp[Hq]at h
   |cons t0 l=>
    cases l with
    |nil=>exact⟨t0,rfl⟩
    |cons t1 l=>rw[hh]at h;simp[Hq]at h
  rw[M6]at h;have key:∃rf hs,Cz P c.w [t0] fl [v] [x.den c.ρ] rf hs/\(∀b∈rf,c.ei us b)/\hs=(CW rs).flatMap (λt=>(c.G t).top)/\G2 P c [t0] fl [v] rs/\ ∀u∈CW rs,c.U u:=by
   unfold Hq at h;simp only[Hq]at h;split at h
   ·rename_i hf;split at h
    ·rename_i r hr;simp only[Ad,AY]at h;obtain⟨rfl,rfl⟩:=h;unfold mV at hr;split at hr
     ·cases hr
     rename_i el Bx;split at hr
     ·cases hr
     rename_i hz;have empt:∀a,v= .slice a 0 0->x.den c.ρ= .sl []->r=none-> ∃rf hs,Cz P c.w [t0] fl [v] [x.den c.ρ] rf hs/\(∀b∈rf,c.ei ([]:List Nat) b)/\hs=(CW [r]).flatMap (λt=>(c.G t).top)/\G2 P c [t0] fl [v] [r]/\ ∀u∈CW [r],c.U u:=by rintro a rfl H7 rfl;refine⟨[],[]++ [],?_,by simp,by simp[CW], .none (λ_=> .inr ⟨a,rfl⟩) .nil,by simp[CW]⟩;rw[H7];exact Cz.void hf Bx (by omega) .nil
     split at hr
     ·simp only[Ad]at hr;subst hr;cases hs with
      |cm _=>exact empt _ rfl (by rw[Md hx];rfl) rfl
     ·simp only[Ad]at hr;subst hr;cases hs with
      |emp _=>refine empt _ rfl ?_ rfl;simp[A8,BF]at hx;subst hx;rfl
     ·rename_i u g;split at hr
      ·rename_i e z g' x0 d hl;split at hr
       ·rename_i hh;obtain⟨rfl,rfl,rfl,Hd⟩:=hh;simp only[Ad]at hr;subst hr;obtain⟨p1,p2,N,p3,p4,p5,_⟩:=eh u _ (CP hl k);have Oz:Cc P e=true\/DF P t0=none:=Hd.imp (·.1) (by rintro⟨_,h⟩;simpa using h);have Hd:Cc P e=true/\N=[]\/Cc P e=false/\DF P t0=none:=by
         rcases Hd with⟨h1,h2⟩|⟨h1,h2⟩
         ·exact .inl ⟨h1,(p5 h2).1⟩
         ·exact .inr ⟨h1,by simpa using h2⟩
        have Hn:x=x0:=by simp[A8,BF,IU,hl]at hx;exact hx.symm
        subst Hn;have hv:c.H u g=v:=by
         cases hs with
         |own _ k2 _=>exact k2
        rw[hv]at p3;refine⟨N++ [],(c.G u).top++ [],Cz.own hf Bx Hd p3 .nil,λb hb=> .inl (p4 b (by simpa using hb)),by simp[CW,RI.tag], .row hf Bx Oz p1 hv p2 .nil,λw hw=> ?_⟩;simp only[CW,List.filterMap_cons,Option.map_some,RI.tag,List.filterMap_nil,Ae,List.not_mem_nil,or_false]at hw;subst hw;exact hU _ _ p1
       ·cases hr
      ·rename_i e z l g' ep x0 hl;split at hr
       ·rename_i hh;obtain⟨rfl,Gs,DQ⟩:=hh;have DQ:=Nz DQ;simp only[Ad]at hr;subst hr;obtain⟨p1,p2,pE,p3,_⟩:=eh u _ (CP hl k);have Hn:x=x0:=by
         simp[A8,BF,IU,hl]at hx;exact hx.symm
        subst Hn;have hv:c.H u g=v:=by
         cases hs with
         |own _ k2 _=>exact k2
        rw[hv]at p3;refine⟨[],(c.G u).top++ [],Cz.deep hf Bx Gs DQ p3 .nil,by simp,by simp[CW,RI.tag], .deep hf Bx Gs DQ p1 hv p2 pE .nil,λw hw=> ?_⟩;simp only[CW,List.filterMap_cons,Option.map_some,RI.tag,List.filterMap_nil,Ae,List.not_mem_nil,or_false]at hw;subst hw;exact hU _ _ p1
       ·cases hr
      ·cases hr
     ·cases hr
    ·cases h
   ·rename_i hf;simp only[Ad,AY]at h;obtain⟨rfl,rfl⟩:=h;obtain⟨f,p1,p2⟩:=Ig eh k A8 hx hs A8 (AN _);refine⟨f++ [],[],Cz.rd (λhh=>absurd hh hf) p1 .nil,λb hb=> ?_,by simp[CW], .none (λhh=>absurd hh hf) .nil,by simp[CW]⟩;rw[AB]at hb;exact(p2 b hb).mono λt ht=>by simp[ht]
  obtain⟨rf,A9,q1,q2,q3,q4,q5⟩:=key;refine⟨rf,A9,⟨[v],[x.den c.ρ],?_,by rw[M6];exact q1⟩,q2,q3,⟨[v],?_,by rw[M6];exact q4⟩,q5⟩
  ·rw[if_neg (by rw[AK];simp)];exact⟨rfl,rfl⟩
  ·rw[if_neg (by rw[AK];simp)]
 cases s with
 |agg cs=>
  simp only[Ic]at hg h;obtain⟨m,l,hm,hl,rfl⟩:=V5 hx;cases hs with
  |agg h9 h1 h8=>
   rename_i as_;have C7:m<=A8:=by simp only[A8]at hm ⊢;omega
   obtain⟨rf,A9,q1,q2,q3,q4,q5⟩:=jV (P:=P) eh k hU (Bf P t) h h1 hl C7;refine⟨rf,A9,⟨as_,l.den c.ρ,?_,q1⟩,q2,q3,⟨as_,?_,q4⟩,q5⟩
   ·rw[if_pos hg.symm];exact⟨rfl,rfl,h9⟩
   ·rw[if_pos hg.symm]
 |_=>exact single _ hs hx hg.symm h
end
end
end Go.Proofs.YtalagilebkaegaaGreat
