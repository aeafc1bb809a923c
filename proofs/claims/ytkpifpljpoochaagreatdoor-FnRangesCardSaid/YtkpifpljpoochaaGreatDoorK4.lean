/- Parts of a proof, joined: VX, WB, WC, WD, WE, WF, WG, WH, WI, WJ, WK, WL, WM, WN, WO. -/
import Derived.Test.YtkpifpljpoochaaGreatDoorK3
import Derived.Orders
import Derived.Lib.SliceRun
import Derived.Laws.Slices
import Derived.Laws.MakeOwn
import Derived.Laws.StructEq
set_option linter.unusedVariables false
set_option linter.unusedSimpArgs false
namespace Go.Proofs.YtkpifpljpoochaaGreatDoor
open Go.RowKit
section
theorem FY(n:Nat):((n:Int)).toNat=n:=Int.toNat_natCast n
section
variable {P:Program} {c:Cx} {n nx:Nat} {sl sl0:Nat->SV} {hp hp0:Nat->Option Ah} {a:Act} {o:Oper} {gs:Gd} {e:A2} {sg:BR} {nv:Nat}
def Cx.eu(c:Cx)(w':World)(t:Nat)(O:List Nat):Cx:={c with w:=w',G:=λu=>if u=t then⟨(c.G t).top,O⟩else c.G u,E:=λu=>if u=t then c.E u+1 else c.E u}
theorem Rel.iy(h:Rel c n sl hp a){t:Nat}{e0:Ah}{b:Nat}{w':World}{O:List Nat}(AQ:Cp c.ρ (hp t) e0)(Cb:b∈(c.G t).top)(hO:O=[]\/O=(c.G t).O)(hm:Mod [b] c.w w')(BY:w'.heap.size=c.w.heap.size)(e1:Ah)(BI:∀hs f,e1≠ .gd hs f)
  (he:DD c (c.eu w' t O)->C3 (c.eu w' t O) t e1):
  Rel (c.eu w' t O) n sl (A8 hp [(t,e1)]) a:=by
 have Br:b∈(c.G t).own:=by simp[GI.own,Cb]
 have hG:∀u,(c.eu w' t O).G u=if u=t then⟨(c.G t).top,O⟩else c.G u:=λu=>rfl;have En:∀u,((c.eu w' t O).G u).top=(c.G u).top:=by
  intro u;rw[hG];split
  ·rename_i hu;rw[hu]
  ·rfl
 have BJ:∀u,∀q∈((c.eu w' t O).G u).own,q∈(c.G u).own:=by
  intro u q hq;rw[hG]at hq;split at hq
  ·rename_i hu;subst hu;simp only[GI.own,Ag]at hq ⊢;rcases hq with hq|hq
   ·exact .inl hq
   ·rcases hO with rfl|rfl
    ·simp at hq
    ·exact .inr hq
  ·exact hq
 have BQ:DD c (c.eu w' t O):=by
  refine⟨rfl,rfl,λq _ hq=>⟨λ⟨u,hu⟩=>hq.1 ⟨u,by rw[En]at hu;exact hu⟩,hq.2⟩,λq hq AR=>hm.block q hq ?_,λu g hu=>⟨hu,rfl⟩,λu g hu=> ?_⟩
  ·simp only[List.mem_singleton];rintro rfl;exact AR.1 ⟨t,Cb⟩
  ·by_cases F8:u=t
   ·have e1:(c.eu w' t O).E u=c.E u+1:=by simp only[Cx.eu,if_pos F8]
    exact⟨by omega,λh=>by omega⟩
   ·have e1:(c.eu w' t O).E u=c.E u:=by simp only[Cx.eu,if_neg F8]
    have e2:(c.eu w' t O).G u=c.G u:=by simp only[Cx.eu,if_neg F8]
    rw[e1];refine⟨Ay _,λ_=>⟨e2,λq hq FA=>hm.block q FA ?_⟩⟩;simp only[List.mem_singleton];rintro rfl;exact h.gw.cc t u (Ne.symm F8) q Br (by simp[GI.own,hq])
 have DN:∀u,A8 hp [(t,e1)] u=if u=t then some e1 else hp u:=λu=>rfl;refine h.change (λu=>u=t) BQ ⟨hm.os.trans h.base.os,hm.tape.trans h.base.tape,hm.output.trans h.base.output,Nat.le_trans h.base.size hm.size,h.base.pins,λq hq FM=> ?_,h.base.pk,h.base.lo⟩
  (λu hu=>⟨by rw[DN,if_neg hu],by rw[hG,if_neg hu],by simp[Cx.eu,hu],λg hg=>hg⟩) (λu hu q hq=>hm.block q (h.gw.inb u q (by simp[GI.own,hq])) ?_) (λu hu=> ?_) ⟨λu=> ?_,λu v Xy q hq Ka=>h.gw.cc u v Xy q (BJ u q hq) (BJ v q Ka),λu q hq=>h.gw.allow u q (BJ u q hq),λu q hq=> ?_⟩ h.bc (λu f hf=> ?_)
 ·refine(hm.block q (Nat.lt_of_lt_of_le hq h.base.size) ?_).trans (h.base.block q hq FM);simp only[List.mem_singleton];rintro rfl;rcases h.gw.allow t q Br with hh|hh
  ·exact absurd hh (Nat.not_le.2 hq)
  ·exact FM hh
 ·simp only[List.mem_singleton];rintro rfl;exact h.gw.cc t u (Ne.symm hu) q Br (by simp[GI.own,hq])
 ·subst hu;rw[DN,if_pos rfl];refine⟨λe' hr=> ?_,λhn=> ?_⟩
  ·cases e1<;>first
    |(simp only[Cp]at hr;subst hr;exact he BQ)
    |exact absurd rfl (BI _ _)
  ·cases e1<;>first
    |exact absurd rfl (BI _ _)
    |exact absurd rfl (hn _)
 ·rw[hG];split
  ·rename_i hu;subst hu;have h0:=h.gw.nodup u;simp only[GI.own]at h0 ⊢;rcases hO with rfl|rfl
   ·rw[AJ];exact(List.nodup_append.1 h0).1
   ·exact h0
  ·exact h.gw.nodup u
 ·show q<w'.heap.size;rw[BY];exact h.gw.inb u q (BJ u q hq)
 ·rw[DN]at hf;split at hf
  ·rename_i hu;subst hu;cases hh:hp u with
   |none=>rw[hh]at AQ;exact AQ.elim
   |some e9=>exact h.cg u e9 hh
  ·exact h.cg u f hf
theorem OU{α:Type}(L vs:List α)(p m:Nat)(h:p+vs.length<=m)(hm:m<=L.length):(setVs L p vs).take m=setVs (L.take m) p vs:=by
 apply List.ext_getElem?;intro j;have hl:(L.take m).length=m:=by rw[A1];omega
 rw[List.getElem?_take,O3 (L.take m) vs p (by omega) j,O3 L vs p (by omega) j,List.getElem?_take];by_cases h1:p<=j/\j<p+vs.length
 ·rw[if_pos (by omega),if_pos h1,if_pos h1]
 ·rw[if_neg h1,if_neg h1]
theorem Rd.setVs{w:World}{L V:List Value}{X Y:List AV}{N f:List Nat}{p:Nat}(h:Rd w L X N)(k:Rd w V Y f)(hp:p+V.length<=L.length):
  ∃n1 n2 n3,N=n1++n2++n3/\Rd w (Go.Proofs.YtkpifpljpoochaaGreatDoor.setVs L p V) (Go.Proofs.YtkpifpljpoochaaGreatDoor.setVs X p Y) (n1++f++n3)/\Rd w ((L.drop p).take V.length) ((X.drop p).take V.length) n2:=by
 have hl:=h.len;have hk:=k.len;have e1:L=L.take p++((L.drop p).take V.length++L.drop (p+V.length)):=by rw[<-List.drop_drop,BV,BV]
 have e2:X=X.take p++((X.drop p).take V.length++X.drop (p+V.length)):=by rw[<-List.drop_drop,BV,BV]
 have h':=h;rw[e1,e2]at h';obtain⟨n1,m,rfl,g1,g2⟩:=Rd.df (by simp;omega) h';obtain⟨n2,n3,rfl,g3,g4⟩:=Rd.df (by simp;omega) g2;refine⟨n1,n2,n3,by simp,?_,g3⟩;unfold Go.Proofs.YtkpifpljpoochaaGreatDoor.setVs;rw[<-hk];exact(g1.app k).app g4
theorem Vc{sz:Nat}:∀(ys:List AV) (k:Nat) (z y:AV) (o:Nat) (vc:List AV),(∀y∈ys,y.cells.length=sz)->ys[k]?=some y->o+vc.length<=sz->z.cells=setVs y.cells o vc->AA (ys.set k z)=setVs (AA ys) (k*sz+o) vc
 | [],k,z,y,o,vc,_,h,_,_=>by simp at h
 |q::ys,0,z,y,o,vc,hs,h,ho,hz=>by simp at h;subst h;have hq:=hs q (by simp);simp only[AA,List.set_cons_zero,List.flatMap_cons,Nat.zero_mul,Nat.zero_add,hz];unfold setVs;rw[List.take_append_of_le_length (by omega),List.drop_append_of_le_length (by omega)];simp
 |q::ys,k+1,z,y,o,vc,hs,h,ho,hz=>by
  have hq:=hs q (by simp);have ih:=Vc ys k z y o vc (λu hu=>hs u (by simp[hu])) (by simpa using h) ho hz;simp only[AA,List.set_cons_succ,List.flatMap_cons]at ih ⊢;rw[ih];unfold setVs;have e0:(k+1)*sz+o=q.cells.length+(k*sz+o):=by rw[hq,Nat.add_mul];omega
  rw[e0,List.take_length_add_append,Nat.add_assoc (q.cells.length),List.drop_length_add_append];simp
theorem Zf{y x:AV}{k:Nat}{g:Bool}(hx:(∀cs,x≠ .agg cs)\/g=true)(hy:g=false->y.cells.length=1/\k=0/\x.cells=[x]):(y.cx k x g).cells=setVs y.cells k x.cells:=by
 cases g with
 |true=>simp[AV.cx,AV.cells,setVs]
 |false=>obtain⟨h1,h2,h3⟩:=hy rfl;subst h2;simp only[AV.cx,h3,setVs];rw[if_neg (by simp)];rw[h3];simp only[List.take_zero,List.nil_append,Ao,List.length_nil,Nat.zero_add];rw[List.drop_eq_nil_of_le (by omega)];simp
theorem xS(h:Bh P c n nx sl hp a sl0 hp0 o gs){t:TypeId}{x y:Operand}(ho:o.op= .store t x y){b g:Nat}{ix:E}{sz k:Nat}{s:SV}(CE:∃e z g c d,CR hp0 gs b=some (.row e z g c d))(hx:Bn sl0 gs x=some (.cd b g ix sz k))(hy:Bn sl0 gs y=some s)
  (he:LG P hp0 gs t (.cd b g ix sz k) s=some e) (hc:∀q∈e.bg,Cn.den c.ρ q):Aw P o c n nx sl hp gs a e:=by
 have r1:=h.ch hx (by simp[ho,Op.operands]);have r2:=h.ch hy (by simp[ho,Op.operands]);simp only[LG]at he;split at he
 ·rename_i el sz' g' c0 d hl;split at he
  ·rename_i hh;obtain⟨rfl,rfl,rfl,Bb,hle,Fk,DW⟩:=hh;split at he
   ·rename_i xe fz dx ck Ca;split at he
    ·cases he
    rename_i Ej;simp only[Af]at he;subst he;have Ej:∀f,(b,f)∉fz:=λf hf=>Ej (by simp only[List.contains_eq_mem,AN];exact List.mem_map.2 ⟨_,hf,rfl⟩);obtain⟨f,q1,q2,⟨ts,q3⟩,q5⟩:=gD h.rel h.hp h.gs r2 Ca (λq hq=>hc q (by simp[hq]));obtain⟨q3,q4⟩:=q3;have AQ:=KH h.hp (Cv hl h.gs);have C4:=h.rel.freeze h.hp h.gs q3;have Lf:Cp (c.bh (fz.map (·.1))).ρ (A8 hp fz b) (.row el sz g c0 d):=by rw[Kz Ej];exact AQ
    obtain⟨e1,e2,N,e3,e4,e5,e6⟩:=C4.ents b _ Lf;obtain⟨o1,o2,o3,o4⟩:=Zp (P:=P) q1 DW q5;generalize hv:a.eval x=v at r1;cases r1 with
    |cd k1 k2 k3 k4 k5 _=>
     rename_i m len cap kk kv k6;obtain⟨xs,p1,p2,p3,pcase⟩:=e3;have p1':c0.den c.ρ= .sl xs:=p1;rcases pcase with⟨_,⟨_,pv⟩,_⟩|⟨g9,cap9,C,pv,p4,p5,p6,p7,p8,p9,p10⟩
     ·exfalso;have:c.H b g=_:=pv;rw[k2]at this;cases this;omega
     ·have pv':c.H b g= .slice (some ⟨g9,0,none⟩) xs.length cap9:=pv;rw[k2]at pv';simp only[Value.slice.injEq,Af,Addr.mk.injEq,and_true]at pv';obtain⟨rfl,rfl,rfl⟩:=pv';have Hx:kv.toNat<xs.length:=by omega
      have FQ:=LL Hx;generalize HZ:(AV.sl xs).nth kv.toNat=yk at FQ;have Fu:=p2 yk (List.mem_of_getElem? FQ);have FB:(a.eval y).cells.toList.length=P.cellsOf t:=by simpa using o4
      have hmul:(kv.toNat+1)*sz<=xs.length*sz:=BB _ (by omega);have Du:C.toList.length=cap*sz:=by simpa using p7
      have Eh:xs.length*sz<=cap*sz:=BB _ p4;rw[Nat.add_mul]at hmul;have p6':c.w.heap[m]?=some (.cells C el (0,0)):=p6;obtain⟨m1,m2,m3⟩:=UF (vs:=(a.eval y).cells.toList) p6' (show(kv.toNat*sz+k)+_<=C.size by rw[FB,p7];omega);have Mz:(C.toList.take (xs.length*sz)).length=xs.length*sz:=by rw[A1,Du];omega
      obtain⟨n1,n2,n3,hN,s1,s2⟩:=Rd.setVs (p:=kv.toNat*sz+k) p10 o1 (by rw[Mz,FB];omega);have Fp:∀z,z<c.w.heap.size->(c.bh (fz.map (·.1))).ok z->(putCells c.w m (kv.toNat*sz+k) (a.eval y).cells.toList).heap[z]?=c.w.heap[z]?:=by intro z hz AR;refine m1.block z hz ?_;simp only[List.mem_singleton];rintro rfl;exact AR.1 ⟨b,by rw[p8];simp⟩
      have Bq:(d&&dx)=true->n2=[]/\f=[]:=by
       intro Ex;have pQ:Cn.den c.ρ (.flat (.fld (.idx c0 ix) k (P.cellsOf t) (An P t)) (P.cellsOf t) (An P t)):=hc _ (by simp[Ex]);obtain⟨f1,f2,f3,f4⟩:=pQ;simp only[Ae]at Ex;refine⟨?_,q2 Ex.2⟩;have MI:((AA xs).drop (kv.toNat*sz+k)).take (a.eval y).cells.toList.length=(yk.cells.drop k).take (P.cellsOf t):=by rw[FB];exact RO xs p2 _ _ FQ k (P.cellsOf t) hle
       rw[MI]at s2;have B4:(E.fld (.idx c0 ix) k (P.cellsOf t) (An P t)).den c.ρ=yk.fld k (P.cellsOf t) (An P t):=by simp only[E.den,p1',k3,AV.idx,HZ]
       rw[B4]at f2;refine Ha s2 ?_;cases hg:An P t with
       |true=>rw[hg]at f2;simpa[AV.fld,AV.cells]using f2
       |false=>
        have h1:P.cellsOf t=1:=by rcases DW with h'|h';rw[hg]at h';cases h';exact h'
        rw[B4]at f4;have f4:=f4 hg;rw[hg]at f4;have AI:k<yk.cells.length:=by omega
        rw[h1,BL AI,List.take_succ_cons,List.take_zero];simp only[List.mem_singleton,forall_eq];simpa[AV.fld,AI]using f4
      have hz:(yk.cx k (xe.den c.ρ) (An P el)).cells=setVs yk.cells k (xe.den c.ρ).cells:=by
       refine Zf ?_ (λhg=> ?_)
       ·cases hg:An P el with
        |true=>exact .inr rfl
        |false=>
         left;rcases Fk with h'|⟨_,h'⟩
         ·rw[hg]at h';cases h'
         ·have h':An P t=false:=by simpa using h'
          rw[h']at q5;exact λcs=>(q5.1 cs)
       ·rcases Fk with h'|⟨h1,h'⟩
        ·rw[hg]at h';cases h'
        ·have h':An P t=false:=by simpa using h'
         rw[h']at q5;have Mm:P.cellsOf t=1:=by rcases DW with h2|h2;rw[h']at h2;cases h2;exact h2
         refine⟨by omega,by omega,?_⟩;cases XG:xe.den c.ρ<;>first|rfl|exact absurd XG (q5.1 _)
      have Ed:AA (xs.set kv.toNat (yk.cx k (xe.den c.ρ) (An P el)))=setVs (AA xs) (kv.toNat*sz+k) (xe.den c.ρ).cells:=
       Vc xs _ _ yk k _ p2 FQ (by rw[o3];exact hle) hz
      have DI:=C4.iy (t:=b) (b:=m) (w':=putCells c.w m (kv.toNat*sz+k) (a.eval y).cells.toList) (O:=if(d&&dx)=true then((c.bh (fz.map (·.1))).G b).O else []) Lf (by rw[p8];simp) (by split;exact .inr rfl;exact .inl rfl) m1 m3
       (.row el sz g (.set c0 ix (.put (.idx c0 ix) k xe (An P el))) (d&&dx)) (by intros;simp) (λF5=>by
        have FG:∀z∈n1++f++n3,(c.bh (fz.map (·.1))).ok z:=by
         intro z hz;simp only[Ag]at hz;rcases hz with(hz|hz)|hz
         ·exact e4 z (by rw[hN];simp[hz])
         ·exact q4 z hz
         ·exact e4 z (by rw[hN];simp[hz])
        have P8:∀z∈n1++f++n3,z<c.w.heap.size:=s1.inb;refine⟨e1,e2,n1++f++n3,⟨xs.set kv.toNat (yk.cx k (xe.den c.ρ) (An P el)),?_,λz XM=> ?_,p3, .inr ⟨m,cap,_,?_,by simpa using p4,p5,m2,?_,?_,?_,?_⟩⟩,λz hz=>F5.ok z (P8 z hz) (FG z hz),λEx=> ?_,λEx=> ?_⟩
        ·show AV.cr (c0.den c.ρ) (ix.den c.ρ) (((c0.den c.ρ).idx (ix.den c.ρ)).cx k (xe.den c.ρ) (An P el))=_;rw[p1',k3];simp only[AV.idx,HZ,AV.cr]
        ·rcases List.mem_or_eq_of_mem_set XM with XM|rfl
         ·exact p2 z XM
         ·rw[hz,O8 _ _ _ (by rw[o3,Fu];exact hle)];exact Fu
        ·rw[List.length_set];exact k2
        ·rw[List.size_toArray,O8 _ _ _ (by rw[FB,Du];omega),Cc];exact p7
        ·simpa[Cx.eu]using p8
        ·simp only[List.length_set,List.toList_toArray];rw[OU _ _ _ _ (by rw[FB];omega) (by rw[Du];omega)];intro u hu;unfold setVs at hu;simp only[Ag]at hu;rcases hu with(hu|hu)|hu
         ·exact p9 u (BM hu)
         ·exact o2 u hu
         ·exact p9 u (Cd hu)
        ·simp only[List.length_set,List.toList_toArray];rw[OU _ _ _ _ (by rw[FB];omega) (by rw[Du];omega),Ed];exact s1.frame λz hz=>Fp z (P8 z hz) (FG z hz)
        ·obtain⟨z1,z2⟩:=Bq Ex;have hd:d=true:=by simp only[Ae]at Ex;exact Ex.1
         obtain⟨u1,u2⟩:=e5 hd;have SX:n1++f++n3=N:=by rw[hN,z1,z2]
         rw[SX];refine⟨u1.frame λz hz=>Fp z (p10.inb z hz) (e4 z hz),?_⟩;simp only[Cx.eu,if_true,Ex];exact u2
        ·simp[Cx.eu,Ex])
      intro next Q hk
      unfold Oper.wp;have hr:(execOp a.eval o).run P c.w= .ok .skip (putCells c.w m (kv.toNat*sz+k) (a.eval y).cells.toList):=by have:=YU (P:=P) (t:=t) (v:=a.eval y) (off:=kv.toNat*sz+k) p6' Bb o4 (by rw[o4,p7];omega) o2;simp[execOp,ho,hv,this]
      rw[hr,Oper.upon_skip];refine hk _ ((c.bh (fz.map (·.1))).eu (putCells c.w m (kv.toNat*sz+k) (a.eval y).cells.toList) b (if(d&&dx)=true then((c.bh (fz.map (·.1))).G b).O else [])) ⟨rfl,rfl,rfl,rfl,λt ht=> .inl ht⟩ ?_;have:=DI.put (v:=Go.undef) ((SR.undef .nil).mkGd []) o.dst;rw[Ng];exact this
   ·cases he
  ·cases he
 all_goals (rename_i hl;obtain⟨_,_,_,_,_,Bw⟩:=CE;first|(rw[Bw]at hl;cases hl;done)|exact absurd Bw (hl _ _ _ _ _)|cases he)
end
def JD(a:Act)(o:Oper):Bool:=match o.op with| .binOp _ _ x _ _=>(match a.eval x with| .slice none _ _=>true|_=>false)|_=>false
section
variable (P:Program) (sg:BR) (Rt:Nat->List AV->AV->Prop)
def NF:Prop:= ∀(c:Cx) (n nx:Nat) (sl:Nat->SV) (hp:Nat->Option Ah) (a:Act) (sl0:Nat->SV) (hp0:Nat->Option Ah) (o:Oper) (gs:Gd) (e:A2) (nv:Nat),Bh P c n nx sl hp a sl0 hp0 o gs-> ¬c.U (nx+999)->KK P sg sl0 hp0 nv nx gs o=some e->
 (∀q∈e.bg,q.den c.ρ)->(∀cl,e.call=some cl-> ∃r,c.ρ[nv]?=some r/\HG Rt cl.fn ((EL.of cl.args).den c.ρ) c.ρ r)->(∀x,e.br=some x->c.ρ[nv]?=some (.bool (JD a o)))->Aw P o c n nx sl hp gs a e
def Sv:Prop:= ∀(c:Cx) (n nx:Nat) (sl:Nat->SV) (hp:Nat->Option Ah) (a:Act) (sl0:Nat->SV) (hp0:Nat->Option Ah) (o:Oper) (gs:Gd) (e:A2) (nv:Nat) (x:E),Bh P c n nx sl hp a sl0 hp0 o gs->KK P sg sl0 hp0 nv nx gs o=some e->e.br=some x->JD a o=true->x.den c.ρ= .sl []
end
theorem gW{hp:Nat->Option Ah}(l:List (Nat × Ah))(t:Nat):(A8 hp l t=hp t/\ ∀e,(t,e)∉l)\/ ∃e,(t,e)∈l/\A8 hp l t=some e:=by
 induction l generalizing hp with
 |nil=>exact .inl ⟨rfl,by simp⟩
 |cons p l ih=>
  obtain⟨u,f⟩:=p;rcases ih (hp:=λv=>if v=u then some f else hp v)with⟨h1,h2⟩|⟨e,h1,h2⟩
  ·by_cases ht:t=u
   ·subst ht;refine .inr ⟨f,by simp,?_⟩;have:A8 hp ((t,f)::l) t=A8 (λv=>if v=t then some f else hp v) l t:=rfl;rw[this,h1];simp
   ·refine .inl ⟨?_,λe he=> ?_⟩
    ·have:A8 hp ((u,f)::l) t=A8 (λv=>if v=u then some f else hp v) l t:=rfl;rw[this,h1,if_neg ht]
    ·rcases Ad.1 he with he|he
     ·cases he;exact ht rfl
     ·exact h2 e he
  ·exact .inr ⟨e,by simp[h1],h2⟩
section
variable {P:Program} {sg:BR} {Rt:Nat->List AV->AV->Prop} {c:Cx} {n nx:Nat} {sl:Nat->SV} {hp:Nat->Option Ah} {a:Act} {ops:Array Oper} {o:Oper} {gs:Gd} {e:A2}
theorem Rel.skip(h:Rel c n sl hp a)(hg: ¬Bc c.ρ gs){l:List (Nat × Ah)}(hl:∀t x,(t,x)∈l->nx<=t/\t<nx+Bx/\ ∃hs y,x= .gd hs y/\KT gs hs=true)(AZ:∀t,nx<=t->t<nx+Bx-> ¬c.U t)(s:SV)(d:Option Nat):
  Rel {c with U:=λt=>c.U t\/(nx<=t/\t<nx+Bx)} n (zip n sl d (mkGd gs s)) (A8 hp l) (a.put d undef):=by
 have hs:SR {c with U:=λt=>c.U t\/(nx<=t/\t<nx+Bx)} [mkGd gs s] [undef]:=by
  cases gs with
  |nil=>exact absurd (Et _) hg
  |cons g gs=>exact .gd (λhh=>absurd hh hg) (λ_=>rfl) .nil
 refine Rel.put ?_ hs d;refine h.change (λt=> ∃x,(t,x)∈l) ⟨rfl,rfl,λ_ _ hb=>hb,λ_ _ _=>rfl,λ_ _ hk=>⟨hk,rfl⟩,λ_ _ _=>⟨Ay _,λ_=>⟨rfl,λ_ _ _=>rfl⟩⟩⟩ ⟨h.base.os,h.base.tape,h.base.output,h.base.size,λt v hp=>⟨.inl (h.base.pins t v hp).1,(h.base.pins t v hp).2⟩,h.base.block,h.base.pk,h.base.lo⟩ (λt ht=> ?_) (λ_ _ _ _=>rfl) (λt ht=> ?_) ⟨h.gw.nodup,h.gw.cc,h.gw.allow,h.gw.inb⟩ (λt g hk=> .inl (h.bc t g hk)) (λt x hx=> ?_)
 ·exact⟨Kz λx hx=>ht ⟨x,hx⟩,rfl,rfl,λg hk=>hk⟩
 ·obtain⟨x,hx⟩:=ht;rcases gW (hp:=hp) l t with⟨_,h2⟩|⟨x',h1,h2⟩
  ·exact absurd hx (h2 x)
  ·obtain⟨q1,q2,hs,y,rfl,BJ⟩:=hl t x' h1;have DL:∀e',¬Cp c.ρ (A8 hp l t) e':=by
    rw[h2];exact λe' hr=>hg (Vt BJ hr.1)
   refine⟨λe' hr=>absurd hr (DL e'),λ_=>h.off t λe' hr=> ?_⟩;cases hh:hp t with
   |none=>rw[hh]at hr;exact hr.elim
   |some e9=>exact AZ t q1 q2 (h.cg t e9 hh)
 ·rcases gW (hp:=hp) l t with⟨h1,_⟩|⟨x',h1,_⟩
  ·rw[h1]at hx;exact .inl (h.cg t x hx)
  ·obtain⟨q1,q2,_⟩:=hl t x' h1;exact .inr ⟨q1,q2⟩
def SN(ρ:List AV)(ops:Array Oper)(o:Oper)(a:Act):Option Gd->Prop
 |none=>Region.wanted o (yielded ops a.tmps)=false
 |some gs=>(Bc ρ gs->Region.wanted o (yielded ops a.tmps)=true)/\(¬Bc ρ gs->Region.wanted o (yielded ops a.tmps)=false)
theorem Zx{σ:St}{r:Option Gd}(hg:Nf σ ops o=some r)(hs:∀j want d,o.guard=some (j,want)->(ops[j]?).bind (·.dst)=some d->SR c [Bv σ d] [a.tmps.getD d undef]):SN c.ρ ops o a r:=by
 unfold Nf at hg;cases Gq:o.guard with
 |none=>rw[Gq]at hg;simp only[Af]at hg;subst hg;exact⟨λ_=>by simp[Region.wanted,Gq],λhn=>absurd (Et _) hn⟩
 |some jw=>
  obtain⟨j,want⟩:=jw;rw[Gq]at hg;simp only at hg;cases hd:(ops[j]?).bind (·.dst)with
  |none=>rw[hd]at hg;simp only[Af]at hg;subst hg;simp[SN,Region.wanted,Gq,yielded,hd]
  |some d=>
   rw[hd]at hg;simp only at hg;have hr:=hs j want d Gq hd;have hw:∀v,a.tmps.getD d undef=v->Region.wanted o (yielded ops a.tmps)=(match v with| .bool b=>b==want|_=>false):=by
    intro v hv;simp only[Region.wanted,Gq,yielded,hd,Aa];rw[Array.getD_eq_getD_getElem?]at hv;cases hq:a.tmps[d]? with
    |none=>rw[hq]at hv;simp at hv;subst hv;simp[undef]
    |some u=>rw[hq]at hv;simp at hv;subst hv;cases u<;>simp
   generalize a.tmps.getD d undef=v at hr hw;have hw:=hw v rfl;have Kf:v=undef->Region.wanted o (yielded ops a.tmps)=false:=by rintro rfl;rw[hw];simp[undef]
   have GY:∀x f,Rd c.w [v] [x] f->(x= .bool want->Region.wanted o (yielded ops a.tmps)=true)/\(x≠ .bool want->Region.wanted o (yielded ops a.tmps)=false):=by
    intro x f hx;refine⟨λh=> ?_,λh=> ?_⟩
    ·rw[hw,HF hx h];simp
    ·rw[hw];cases v<;>simp only;rename_i b;cases hx with
     |bool _=>simpa using λhh=>h (by rw[hh])
   split at hg
   ·rename_i b CS;rw[CS]at hr;cases hr with
    |e h1 _ _=>
     simp only[Af]at hg;subst hg;obtain⟨q1,q2⟩:=GY _ _ h1;simp only[E.den,AV.bool.injEq]at q1 q2;split
     ·rename_i hb;simp only[Ax]at hb;exact⟨λ_=>q1 hb,λhn=>absurd (Et _) hn⟩
     ·rename_i hb;simp only[Ax]at hb;exact q2 (by simpa using hb)
   ·rename_i x _ CS;rw[CS]at hr;cases hr with
    |e h1 _ _=>simp only[Af]at hg;subst hg;obtain⟨q1,q2⟩:=GY _ _ h1;exact⟨λhh=>q1 (hh (x,want) (by simp)),λhn=>q2 λhh=>hn (by intro g hg;simp at hg;subst hg;exact hh)⟩
   ·rename_i Bd s CS;rw[CS]at hr;cases hr with
    |gd h1 h2 _=>
     split at hg
     ·rename_i hf;simp only[Af]at hg;subst hg;refine Kf (h2 λhk=> ?_);simp only[lU,List.any_eq_true]at hf;obtain⟨g,hg,WH⟩:=hf;have:=hk g hg;split at WH
      ·rename_i b hb;rw[hb]at this;simp only[E.den,AV.bool.injEq]at this;simp[this]at WH
      ·cases WH
     ·split at hg
      ·rename_i b;simp only[Af]at hg;subst hg;by_cases hk:Bc c.ρ Bd
       ·have h1:=h1 hk;cases h1 with
        |e h1 _ _=>
         obtain⟨q1,q2⟩:=GY _ _ h1;simp only[E.den,AV.bool.injEq]at q1 q2;split
         ·rename_i hb;simp only[Ax]at hb;exact⟨λ_=>q1 hb,λhn=>absurd hk hn⟩
         ·rename_i hb;simp only[Ax]at hb;exact q2 (by simpa using hb)
       ·split
        ·exact⟨λhh=>absurd hh hk,λ_=>Kf (h2 hk)⟩
        ·exact Kf (h2 hk)
      ·rename_i x _;simp only[Af]at hg;subst hg;by_cases hk:Bc c.ρ Bd
       ·have h1:=h1 hk;cases h1 with
        |e h1 _ _=>obtain⟨q1,q2⟩:=GY _ _ h1;exact⟨λhh=>q1 (hh (x,want) (by simp)),λhn=>q2 λhh=>hn (by intro g hg;rcases Ad.1 hg with rfl|hg;exact hh;exact hk g hg)⟩
       ·exact⟨λhh=>absurd (λg hg=>hh g (by simp[hg])) hk,λ_=>Kf (h2 hk)⟩
      ·cases hg
   ·cases hg
theorem mA(AP:NF P sg Rt){Q:Exit->Act->World->Prop}{K:Act->World->Prop}{i nv:Nat}(hi:ops[i]?=some o)(hrel:Rel c n sl hp a){sl0:Nat->SV}{hp0:Nat->Option Ah}(Hu:SN c.ρ ops o a (some gs))
  (CS:∀t,Operand.tmp t∈o.op.operands->sl0 t=sl t) (qA:∀t e,hp0 t=some e->hp t=some e) (AZ:∀t,nx<=t->t<nx+Bx-> ¬c.U t)
  (he:KK P sg sl0 hp0 nv nx gs o=some e) (Bk:gs≠ []-> ∀t x,(t,x)∈e.a6->nx<=t/\t<nx+Bx/\ ∃hs y,x= .gd hs y/\KT gs hs=true)
  (hc:Bc c.ρ gs-> ∀q∈e.bg,q.den c.ρ) (A9:∀cl,e.call=some cl-> ∃r,c.ρ[nv]?=some r/\(Bc c.ρ gs->HG Rt cl.fn ((EL.of cl.args).den c.ρ) c.ρ r)) (CH:∀x,e.br=some x->Bc c.ρ gs->c.ρ[nv]?=some (.bool (JD a o)))
  (hK:∀a' c',L3 c c' nx->Rel c' n (zip n sl o.dst (mkGd gs e.val)) (A8 hp e.a6) a'->K a' c'.w):wpOp P ops Q i K a c.w:=by
 unfold wpOp;simp only[hi];by_cases hg:Bc c.ρ gs
 ·rw[if_pos (Hu.1 hg)];exact .inl (AP c n nx sl hp a sl0 hp0 o gs e nv ⟨hrel,hg,CS,qA,λt h1 h2=>AZ t h1 (by simp only[Bx];omega)⟩ (AZ _ (by omega) (by simp[Bx])) he (hc hg) (λcl AF=>by obtain⟨r,h1,h2⟩:=A9 cl AF;exact⟨r,h1,h2 hg⟩) (λx hx=>CH x hx hg) _ _ hK)
 ·rw[if_neg (by rw[Hu.2 hg];simp)];have BI:gs≠ []:=by rintro rfl;exact hg (Et _)
  exact hK _ {c with U:=λt=>c.U t\/(nx<=t/\t<nx+Bx)} ⟨rfl,rfl,rfl,rfl,λt ht=>ht⟩ (hrel.skip hg (Bk BI) AZ e.val o.dst)
end
def Cx.ext(c:Cx)(τ:List AV):Cx:={c with ρ:=c.ρ++τ}
theorem den_app{ρ τ:List AV}{x:E}(h:x.sc ρ.length=true):x.den (ρ++τ)=x.den ρ:=by have:=E.ao ρ τ [] x h;rw[AJ]at this;exact this
theorem zvk{ρ τ:List AV}{x:EL}(h:x.sc ρ.length=true):x.den (ρ++τ)=x.den ρ:=by have:=EL.ao ρ τ [] x h;rw[AJ]at this;exact this
theorem Kx{ρ τ:List AV}{gs:Gd}(h:SJ ρ.length gs=true):Bc (ρ++τ) gs↔Bc ρ gs:=by simp only[SJ,A0]at h;exact⟨λk g hg=>by rw[<-den_app (τ:=τ) (h g hg)];exact k g hg,λk g hg=>by rw[den_app (h g hg)];exact k g hg⟩
theorem Bp.ff{n:Nat}:∀{cs:Bp},cs.sc n=true-> ∀s∈cs.toList,s.sc n=true
 | .nil,_,s,h=>by simp[Bp.toList]at h
 | .cons s cs,h,u,hu=>by
  simp only[Bp.sc,Ae]at h;simp only[Bp.toList,Ad]at hu;rcases hu with rfl|hu
  ·exact h.1
  ·exact Bp.ff h.2 u hu
section
variable {c:Cx} {n:Nat} {sl:Nat->SV} {hp:Nat->Option Ah} {a:Act} {τ:List AV}
theorem HO.ext{t g:Nat}{p:L8}{v:Value}(hs:(match p with|some q=>q.1.sc c.ρ.length|none=>true)=true)(h:HO c t g p v):HO (c.ext τ) t g p v:=by
 cases p with
 |none=>exact trivial
 |some p=>obtain⟨i,z,o⟩:=p;obtain⟨b,n,cap,C,ty,fz,kk,k,h1,h2,h3,h4,h5⟩:=h;exact⟨b,n,cap,C,ty,fz,kk,k,h1,h2,h3,by show i.den (c.ρ++τ)=_;rw[den_app hs];exact h4,h5⟩
theorem SR.ext{ss:List SV}{vs:List Value}(h:SR c ss vs):(∀s∈ss,s.sc c.ρ.length=true)->SR (c.ext τ) ss vs:=by
 have tl:∀{s:SV} {ss:List SV},(∀x∈s::ss,x.sc c.ρ.length=true)-> ∀x∈ss,x.sc c.ρ.length=true:=λh x hx=>h x (by simp[hx]);have hd:∀{s:SV} {ss:List SV},(∀x∈s::ss,x.sc c.ρ.length=true)->s.sc c.ρ.length=true:=λh=>h _ (by simp);have hρ:(c.ext τ).ρ=c.ρ++τ:=rfl
 induction h with
 |nil=>exact λ_=> .nil
 |undef _ ih=>exact λhs=> .undef (ih (tl hs))
 |e h1 h2 _ ih=>exact λhs=> .e (by rw[hρ,den_app (hd hs)];exact h1) h2 (ih (tl hs))
 |bq _ ih=>exact λhs=> .bq (ih (tl hs))
 |emp _ ih=>exact λhs=> .emp (ih (tl hs))
 |own h1 h2 _ ih=>exact λhs=> .own h1 h2 (ih (tl hs))
 |ca h1 h2 _ ih=>exact λhs=> .ca h1 h2 (ih (tl hs))
 |cd h1 h2 h3 h4 h5 _ ih=>exact λhs=> .cd h1 h2 (by rw[hρ,den_app (hd hs)];exact h3) h4 h5 (ih (tl hs))
 |cz h1 h2 h3 h4 h5 h6 _ ih=>intro hs;have:=hd hs;simp only[SV.sc,Ae]at this;exact .cz (by rw[hρ,den_app this.1];exact h1) h2 (by rw[hρ,den_app this.2];exact h3) h4 h5 (by rw[hρ,den_app this.1];exact h6) (ih (tl hs))
 |c7 h1 h2 _ ih=>exact λhs=> .c7 (by rw[hρ,den_app (hd hs)];exact h1) h2 (ih (tl hs))
 |agg h9 _ _ ih1 ih2=>exact λhs=> .agg h9 (ih1 (Bp.ff (hd hs))) (ih2 (tl hs))
 |tup _ _ ih1 ih2=>exact λhs=> .tup (ih1 (Bp.ff (hd hs))) (ih2 (tl hs))
 |fn _ _ ih1 ih2=>exact λhs=> .fn (ih1 (Bp.ff (hd hs))) (ih2 (tl hs))
 |gd _ h2 _ ih1 ih2=>intro hs;have:=hd hs;simp only[SV.sc,Ae]at this;exact .gd (λhg=>ih1 ((Kx this.1).1 hg) (by simpa using this.2)) (λhg=>h2 λk=>hg ((Kx this.1).2 k)) (ih2 (tl hs))
 | @via t g n p x v ss vs h1 h2 h3 _ ih=>intro hs;have:=hd hs;simp only[SV.sc,Ae]at this;refine .via h1 h2 (λhe=> ?_) (ih (tl hs));obtain⟨q1,q2⟩:=h3 he;exact⟨by rw[hρ,den_app this.2];exact q1,HO.ext (τ:=τ) this.1 q2⟩
 | @vptr t g n p x i sz o v ss vs h1 h2 h3 _ ih=>intro hs;have:=hd hs;simp only[SV.sc,Ae]at this;refine .vptr h1 h2 (λhe=> ?_) (ih (tl hs));obtain⟨b,off,len,cap,kk,k,q1,q2,q3,q4,q5,q6,q7⟩:=h3 he;exact⟨b,off,len,cap,kk,k,by rw[hρ,den_app this.1.2];exact q1,HO.ext (τ:=τ) this.1.1 q2,by rw[hρ,den_app this.2];exact q3,q4,q5,by rw[hρ,den_app this.1.2];exact q6,q7⟩
 |wown h1 h2 h3 h4 h5 h6 _ ih=>exact λhs=> .wown h1 h2 (by rw[hρ,den_app (hd hs)];exact h3) h4 h5 h6 (ih (tl hs))
 | @lent i _ _ _ h1 _ ih=>exact λhs=> .lent (by rw[hρ,den_app (x:= .var i) (by simpa[SV.sc,E.sc]using hd hs)];exact h1) (ih (tl hs))
theorem C3.ext{t:Nat}{e:Ah}(h:C3 c t e)(hs:e.sc c.ρ.length=true):C3 (c.ext τ) t e:=by
 have hρ:(c.ext τ).ρ=c.ρ++τ:=rfl;cases e with
 |box ty g cs=>obtain⟨b,C,h1,h2,h3,h4,h5,h6,h7⟩:=h;exact⟨b,C,h1,h2,h3,h4,h5,h6,h7.ext (by simpa[Ah.sc]using hs)⟩
 |row ety sz g x d=>obtain⟨h1,h2,N,h3,h4,h5⟩:=h;exact⟨h1,h2,N,by rw[hρ,den_app hs];exact h3,h4,h5⟩
 |bh g x=>obtain⟨h1,⟨f,h2,h3⟩,h4⟩:=h;exact⟨h1,⟨f,by rw[hρ,den_app hs];exact h2,h3⟩,h4⟩
 |gd gs e=>exact h
 |dead=>exact h
 |deep e z l g ep x=>obtain⟨h1,h2,h3,h4,h5⟩:=h;exact⟨h1,h2,h3,by rw[hρ,den_app hs];exact h4,h5⟩
 |hol e z l g ep x i o u=>simp only[Ah.sc,Ae]at hs;obtain⟨h1,h2,h3,h4,h5⟩:=h;exact⟨h1,h2,h3,by rw[hρ,den_app hs.1,den_app hs.2];exact h4,h5⟩
 |pre e z l g ep x k=>simp only[Ah.sc,Ae]at hs;obtain⟨h1,h2,h3,h4,h5⟩:=h;exact⟨h1,h2,h3,by rw[hρ,den_app hs.1,den_app hs.2];exact h4,h5⟩
theorem zxk{ρ:List AV}{e0 e:Ah}(hs:e0.sc ρ.length=true):Cp (ρ++τ) (some e0) e↔Cp ρ (some e0) e:=by
 cases e0 with
 |gd gs x=>simp only[Ah.sc,Ae]at hs;simp only[Cp];rw[Kx hs.1]
 |_=>simp[Cp]
theorem Rel.ext(h:Rel c n sl hp a)(h1:∀i,(sl i).sc c.ρ.length=true)(h2:∀t e,hp t=some e->e.sc c.ρ.length=true)(τ:List AV):Rel (c.ext τ) n sl hp a:=by
 have key:∀t e,Cp (c.ρ++τ) (hp t) e↔Cp c.ρ (hp t) e:=by
  intro t e;cases hh:hp t with
  |none=>exact Iff.rfl
  |some e0=>exact zxk (h2 t e0 hh)
 refine⟨h.defers,h.size,⟨h.base.os,h.base.tape,h.base.output,h.base.size,h.base.pins,h.base.block,h.base.pk,h.base.lo⟩,λi=>(h.cv i).ext (by simpa using h1 i),λt e hr=> ?_,λt hn=>h.off t λe hr=>hn e ((key t e).2 hr),⟨h.gw.nodup,h.gw.cc,h.gw.allow,h.gw.inb⟩,h.bc,h.cg⟩;have CL:=(key t e).1 hr;have he:=h.ents t e CL;cases hh:hp t with
 |none=>rw[hh]at CL;exact CL.elim
 |some e0=>
  have DM:=h2 t e0 hh;rw[hh]at CL;cases e0 with
  |gd gs x=>
   obtain⟨_,rfl⟩:=CL;simp only[Ah.sc,Ae]at DM;cases x with
   |gd=>exact he
   |dead=>exact he
   |box=>exact he.ext (by simpa[Ah.sc]using DM.2)
   |row=>exact he.ext (by simpa[Ah.sc]using DM.2)
   |bh=>exact he.ext (by simpa[Ah.sc]using DM.2)
   |deep=>exact he.ext (by simpa[Ah.sc]using DM.2)
   |hol=>exact he.ext (by simpa[Ah.sc]using DM.2)
   |pre=>exact he.ext (by simpa[Ah.sc]using DM.2)
  |_=>simp only[Cp]at CL;subst CL;exact he.ext DM
theorem St.kf{σ:St}(h:σ.sc=true)(i:Nat):(Bv σ i).sc σ.nv=true:=by
 simp only[St.sc,Ae,A0]at h;unfold Bv;cases hi:σ.sl[i]? with
 |none=>simp[SV.sc]
 |some s=>exact h.1 s (List.mem_of_getElem? hi)
theorem St.jx{σ:St}(h:σ.sc=true)(t:Nat)(e:Ah)(he:AD σ.hp t=some e):e.sc σ.nv=true:=by simp only[St.sc,Ae,A0]at h;exact h.2 _ (H3 he)
theorem Cn.iv{ρ τ:List AV}{q:Cn}(h:q.sc ρ.length=true):q.den (ρ++τ)↔q.den ρ:=by
 cases q<;>simp only[Cn.sc,Ae]at h<;>simp only[Cn.den]
 case dfd=>rw[den_app h]
 case agg=>rw[den_app h]
 case cells=>rw[den_app h]
 case inb=>rw[den_app h.1,den_app h.2]
 case inbS=>rw[den_app h.1,den_app h.2]
 case win=>rw[den_app h.1.1,den_app h.1.2,den_app h.2]
 case winS=>rw[den_app h.1.1,den_app h.1.2,den_app h.2]
 case room=>rw[den_app h.1,den_app h.2]
 case roomS=>rw[den_app h.1,den_app h.2]
 case mkroom=>rw[den_app h]
 case nz=>rw[den_app h]
 case nn=>rw[den_app h]
 case isref=>rw[den_app h]
 case issl=>rw[den_app h]
 case flat=>rw[den_app h]
 case flatS=>rw[den_app h]
 case kinds=>rw[den_app h]
theorem aG:SR c [GK] [Go.undef]:= .gd (λhg=>by have:=hg (.bool false,true) (by simp);simp[E.den]at this) (λ_=>rfl) .nil
theorem jP{ρ:List AV}{x:E}{b:Bool}{hs:Gd}(hx:x.den ρ= .bool b)(h:NC (x, !b) hs=true): ¬Bc ρ hs:=by intro k;have:=kT h k;simp only at this;rw[hx]at this;simp at this
theorem Y3{ρ:List AV}{x:E}{b:Bool}{hs:Gd}(hx:x.den ρ= .bool b):Bc ρ (hs.filter λh=> !(h.1.beq x&&h.2==b))↔Bc ρ hs:=by
 refine⟨λk g hg=> ?_,λk g hg=>k g (List.mem_filter.1 hg).1⟩;by_cases hh:(g.1.beq x&&g.2==b)=true
 ·simp only[Ae,Ax]at hh;rw[E.aj ρ _ _ hh.1,hx,hh.2]
 ·exact k g (List.mem_filter.2 ⟨hg,by rw[Bool.not_eq_true]at hh;rw[hh];rfl⟩)
theorem SR.jc{s:SV}{v:Value}{gs:Gd}(h1:Bc c.ρ gs->SR c [s] [v])(h2: ¬Bc c.ρ gs->v=Go.undef):SR c [Go.Proofs.YtkpifpljpoochaaGreatDoor.mkGd gs s] [v]:=by
 cases gs with
 |nil=>exact h1 (Et _)
 |cons g gs=>exact .gd h1 h2 .nil
theorem SR.fb{x:E}{b:Bool}(hx:x.den c.ρ= .bool b){s:SV}{v:Value}(h:SR c [s] [v]):SR c [assumeS x b s] [v]:=by
 cases s with
 |gd hs s=>
  simp only[Go.Proofs.YtkpifpljpoochaaGreatDoor.assumeS];cases h with
  |gd h1 h2 _=>
   split
   ·rename_i hm;rw[h2 (jP hx hm)];exact aG
   ·exact SR.jc (λk=>h1 ((Y3 hx).1 k)) (λk=>h2 λk'=>k ((Y3 hx).2 k'))
 |_=>exact h
theorem zvb(f:Ah->Ah)(l:List (Nat × Ah))(t:Nat):AD (l.map λ(t,e)=>(t,f e)) t=(AD l t).map f:=by
 induction l with
 |nil=>rfl
 |cons p l ih=>
  obtain⟨u,e⟩:=p;simp only[List.map_cons,AD];split
  ·rfl
  ·exact ih
theorem Rel.fb{x:E}{b:Bool}(hx:x.den c.ρ= .bool b)(h:Rel c n sl hp a):Rel c n (λi=>assumeS x b (sl i)) (λt=>(hp t).map (assumeE x b)) a:=by
 have La:∀t,(∀e,Cp c.ρ (hp t) e-> ∃gs y,e= .gd gs y\/e= .dead)->(c.G t).top=[]/\(c.G t).O=[]:=by
  intro t ht;by_cases hh:∃e,Cp c.ρ (hp t) e
  ·obtain⟨e,he⟩:=hh;obtain⟨gs,y,rfl|rfl⟩:=ht e he
   ·exact h.ents t _ he
   ·exact h.ents t _ he
  ·exact h.off t λe he=>hh ⟨e,he⟩
 have cases':∀t,((∀e,Cp c.ρ ((hp t).map (assumeE x b)) e↔Cp c.ρ (hp t) e))\/((hp t).map (assumeE x b)=some .dead/\(c.G t).top=[]/\(c.G t).O=[]):=by
  intro t;cases hh:hp t with
  |none=>exact .inl λe=>Iff.rfl
  |some e0=>
   cases e0 with
   |gd hs y=>
    by_cases hm:NC (x, !b) hs=true
    ·refine .inr ⟨by simp[Go.Proofs.YtkpifpljpoochaaGreatDoor.assumeE,hm],La t λe he=> ?_⟩;rw[hh]at he;exact absurd he.1 (jP hx hm)
    ·by_cases hy:∃gs z,y= .gd gs z
     ·obtain⟨gs,z,rfl⟩:=hy;refine .inr ⟨by simp[Go.Proofs.YtkpifpljpoochaaGreatDoor.assumeE,hm],La t λe he=> ?_⟩;rw[hh]at he;exact⟨gs,z, .inl he.2.symm⟩
     ·refine .inl λe=> ?_;have he:assumeE x b (.gd hs y)=CC (hs.filter λh=> !(h.1.beq x&&h.2==b)) y:=by
       simp only[Go.Proofs.YtkpifpljpoochaaGreatDoor.assumeE,hm,BX,if_false];cases y<;>first|rfl|exact absurd ⟨_,_,rfl⟩ hy
      simp only[Option.map_some,he];show _↔Bc c.ρ hs/\y=e;rw[<-Y3 hx];generalize (hs.filter λh=> !(h.1.beq x&&h.2==b))=fs;cases fs with
      |nil=>simp only[CC,Et,true_and];cases y<;>first|exact absurd ⟨_,_,rfl⟩ hy|exact Iff.rfl
      |cons g fs=>exact Iff.rfl
   |_=>exact .inl λe=>Iff.rfl
 refine⟨h.defers,h.size,h.base,λi=>(h.cv i).fb hx,λt e hr=> ?_,λt hn=> ?_,h.gw,h.bc,λt e he=> ?_⟩
 ·rcases cases' t with hc|⟨hc,h1,h2⟩
  ·exact h.ents t e ((hc e).1 hr)
  ·rw[hc]at hr;have:Ah.dead=e:=hr;subst this;exact⟨h1,h2⟩
 ·rcases cases' t with hc|⟨hc,h1,h2⟩
  ·exact h.off t λe he=>hn e ((hc e).2 he)
  ·exact⟨h1,h2⟩
 ·cases hh:hp t with
  |none=>rw[hh]at he;cases he
  |some e0=>exact h.cg t e0 hh
end
theorem Zg{σ:St}{d:Option Nat}{s:SV}:Bv (Hb σ d s)=zip σ.sl.length (Bv σ) d s:=by
 funext i;cases d with
 |none=>simp[Hb,zip]
 |some d=>
  simp only[Hb,Bv,zip,Af,List.getElem?_set];by_cases h:d=i
  ·subst h;by_cases h2:d<σ.sl.length
   ·simp[h2]
   ·simp[h2,List.getElem?_eq_none (Nat.le_of_not_lt h2)]
  ·simp[h]
theorem YW{σ:St}{d:Option Nat}{s:SV}:(Hb σ d s).sl.length=σ.sl.length:=by cases d<;>simp[Hb]
theorem Za{σ:St}{d:Option Nat}{s:SV}:(Hb σ d s).hp=σ.hp:=by cases d<;>rfl
theorem Zl{σ:St}{d:Option Nat}{s:SV}:(Hb σ d s).nv=σ.nv:=by cases d<;>rfl
theorem zuh(l:List (Nat × Ah))(t:Nat)(e:Ah)(u:Nat):AD (KS l t e) u=if u=t then some e else AD l u:=by
 induction l with
 |nil=>
  simp only[KS,AD];by_cases h:t=u
  ·simp[h]
  ·rw[if_neg h,if_neg (Ne.symm h)]
 |cons p l ih=>
  obtain⟨v,f⟩:=p;simp only[KS];split
  ·rename_i hv;subst hv;simp only[AD];by_cases h:v=u
   ·simp[h]
   ·rw[if_neg h,if_neg (Ne.symm h),if_neg h]
  ·rename_i hv;simp only[AD];by_cases h:v=u
   ·subst h;rw[if_pos rfl,if_neg hv,if_pos rfl]
   ·rw[if_neg h,ih,if_neg h]
theorem iM:∀(ents:List (Nat × Ah)) (l:List (Nat × Ah)),AD (ents.foldl (λl (p:Nat × Ah)=>KS l p.1 p.2) l)=A8 (AD l) ents
 | [],l=>rfl
 |(t,e)::ents,l=>by
  simp only[List.foldl_cons];rw[iM ents];have:AD (KS l t e)=λu=>if u=t then some e else AD l u:=by funext u;exact zuh l t e u
  rw[this];rfl
section
variable {P:Program} {sg:BR} {Rt:Nat->List AV->AV->Prop} {ops:Array Oper}
theorem kW{σ:St}{gs:Gd}{o:Oper}{e:A2}:Bv (Ky σ gs o e)=zip σ.sl.length (Bv σ) o.dst (mkGd gs e.val):=by rw[<-Zg];rfl
theorem lD{σ:St}{gs:Gd}{o:Oper}{e:A2}:AD (Ky σ gs o e).hp=A8 (AD σ.hp) e.a6:=by
 have:(Ky σ gs o e).hp=e.a6.foldl (λl (p:Nat × Ah)=>KS l p.1 p.2) σ.hp:=by show e.a6.foldl (λl (p:Nat × Ah)=>KS l p.1 p.2) (Hb σ o.dst (mkGd gs e.val)).hp=_;rw[Za]
 rw[this,iM]
theorem jU{σ:St}{gs:Gd}{o:Oper}{e:A2}:(Ky σ gs o e).sl.length=σ.sl.length:=by show(Hb σ o.dst (mkGd gs e.val)).sl.length=_;rw[YW]
theorem Z4{σ:St}{gs:Gd}{o:Oper}{e:A2}:(Ky σ gs o e).nv=if e.call.isSome||e.br.isSome then σ.nv+1 else σ.nv:=by show(if e.call.isSome||e.br.isSome then(Hb σ o.dst (mkGd gs e.val)).nv+1 else(Hb σ o.dst (mkGd gs e.val)).nv)=_;rw[Zl]
theorem ZO{R:AV->Prop}{gs:Gd}{k:Tr}{L:LK}{js:List JK}{ρ:List AV}:∀{cs:List Cn},(cs.foldr (λc k=> .bg gs c k) k:Tr).den Rt R L js ρ->(Bc ρ gs-> ∀q∈cs,q.den ρ)/\k.den Rt R L js ρ
 | [],h=>⟨by simp,h⟩
 |c::cs,h=>by
  obtain⟨h1,h2⟩:=h;obtain⟨h3,h4⟩:=ZO h2;refine⟨λhg q hq=> ?_,h4⟩;rcases Ad.1 hq with rfl|hq
  ·exact h1 hg
  ·exact h3 hg q hq
theorem kC{l:List (Nat × Ah)}{R:List Nat}{t:Nat}{e:Ah}(h:PW l R t=some e):AD l t=some e:=by
 unfold PW at h;split at h
 ·exact h
 ·cases h
theorem iH{f:Nat ⊕ E}{as_:EL}{ρ τ:List AV}{r:AV}(h1:(match f with| .inl _=>true| .inr x=>x.sc ρ.length)=true)(h2:as_.sc ρ.length=true):HG Rt f (as_.den (ρ++τ)) (ρ++τ) r↔HG Rt f (as_.den ρ) ρ r:=by
 rw[zvk h2];cases f with
 |inl f=>exact Iff.rfl
 |inr x=>simp only[HG];rw[den_app h1]
theorem EL.jf{n:Nat}:∀{l:List E},l.all (E.sc n)=true->(EL.of l).sc n=true
 | [],_=>rfl
 |x::l,h=>by simp only[List.all_cons,Ae]at h;simp only[EL.of,EL.sc,Ae];exact⟨h.1,EL.jf h.2⟩
structure Ih(F:Fix)(c:Cx)(σ:St)(a:Act)(n m:Nat):Prop where
 w0:c.w0=F.w0
 A:c.A=F.A
 Mu:c.Mu=F.Mu
 nv:c.ρ.length=σ.nv
 len:σ.sl.length=n
 U:∀t,c.U t->t<m
 rel:Rel c n (Bv σ) (AD σ.hp) a
theorem Ih.ext{F:Fix}{c:Cx}{σ:St}{a:Act}{n m:Nat}(h:Ih F c σ a n m)(hs:σ.sc=true)(τ:List AV):Rel (c.ext τ) n (Bv σ) (AD σ.hp) a:=
 h.rel.ext (λi=>by rw[h.nv];exact St.kf hs i) (λt e he=>by rw[h.nv];exact St.jx hs t e he) τ
theorem zzb(AP:NF P sg Rt)(ER:Sv P sg){F:Fix}{c:Cx}{σ:St}{a:Act}{n i base:Nat}{o:Oper}{gs:Gd}{e:A2}{k:Tr}{R:AV->Prop}{L:LK}{js:List JK}{Q:Exit->Act->World->Prop}{K:Act->World->Prop}
  (hi:ops[i]?=some o) (hm:Ih F c σ a n (base+Bx*i)) (Hu:SN c.ρ ops o a (some gs)) {Rs:List Nat} (he:KK P sg (Bv σ) (PW σ.hp Rs) σ.nv (base+Bx*i) gs o=some e) (DM:PI σ.nv (base+Bx*i) σ.hp gs e=true)
  (QQ:(e.call.isSome||e.br.isSome)=true->σ.sc=true) (hd:(Vx gs e k).den Rt R L js c.ρ)
  (hK:∀(c':Cx) (a':Act),c.ρ<+:c'.ρ->Ih F c' (Ky σ gs o e) a' n (base+Bx*(i+1))->k.den Rt R L js c'.ρ->K a' c'.w):wpOp P ops Q i K a c.w:=by
 simp only[PI,Ae,A0]at DM;obtain⟨⟨⟨⟨BA,AY⟩,G0⟩,dK⟩,Xo⟩:=DM;have Bk:gs≠ []-> ∀t x,(t,x)∈e.a6->base+Bx*i<=t/\t<base+Bx*i+Bx/\ ∃hs y,x= .gd hs y/\KT gs hs=true:=by
  intro BI t x hx;have:=Xo _ hx;have Ql:gs.isEmpty=false:=by cases gs;exact absurd rfl BI;rfl
  simp only[Ql,Bool.false_or,Bool.false_and,Bool.or_false,Ae,AN]at this;refine⟨this.1.1,this.1.2,?_⟩;have h3:=this.2;split at h3
  ·exact⟨_,_,rfl,h3⟩
  ·cases h3
 have AZ:∀t,base+Bx*i<=t->t<base+Bx*i+Bx-> ¬c.U t:=λt h1 _ h3=>by have:=hm.U t h3;omega
 have FV:∀(τ:List AV),Rel (c.ext τ) n (Bv σ) (AD σ.hp) a->τ.length=(if e.call.isSome||e.br.isSome then 1 else 0)->k.den Rt R L js (c.ρ++τ)->(Bc c.ρ gs-> ∀q∈e.bg,q.den c.ρ)->
   (∀cl,e.call=some cl-> ∃r,τ=[r]/\(Bc c.ρ gs->HG Rt cl.fn ((EL.of cl.args).den c.ρ) c.ρ r))->(∀x,e.br=some x->τ=[.bool (JD a o)])->wpOp P ops Q i K a c.w:=by
  intro τ hrel hτ hk hc A9 CH;have FR:σ.nv=c.ρ.length:=hm.nv.symm;rw[FR]at BA AY G0;have Qt:∀r,τ=[r]->(c.ρ++τ)[σ.nv]?=some r:=by rintro r rfl;rw[FR];simp
  refine mA (c:=c.ext τ) AP hi hrel ⟨λhg=>Hu.1 ((Kx BA).1 hg),λhg=>Hu.2 λk=>hg ((Kx BA).2 k)⟩ (λ_ _=>rfl) (λt e h=>kC h) AZ he Bk (λhg q hq=> ?_) (λcl AF=> ?_) (λx hx _=>Qt _ (CH x hx)) (λa' c' A3 hr=> ?_)
  ·exact(Cn.iv (AY q hq)).2 (hc ((Kx BA).1 hg) q hq)
  ·obtain⟨r,rfl,h2⟩:=A9 cl AF;rw[AF]at G0;simp only[Ae]at G0;exact⟨r,Qt r rfl,λhg=>(iH G0.1 (EL.jf G0.2)).2 (h2 ((Kx BA).1 hg))⟩
  ·have hρ:c'.ρ=c.ρ++τ:=A3.ρ;refine hK c' a' ⟨τ,hρ.symm⟩ ⟨A3.w0.trans hm.w0,A3.A.trans hm.A,A3.Mu.trans hm.Mu,?_,by rw[jU];exact hm.len,λt ht=> ?_,?_⟩ (by rw[hρ];exact hk)
   ·rw[hρ,Z4,Ap,hτ,FR];split<;>rfl
   ·have hmul:base+Bx*(i+1)=base+Bx*i+Bx:=by rw[Nat.mul_add];omega
    rw[hmul];rcases A3.U t ht with h|h
    ·have:=hm.U t h;omega
    ·exact h.2
   ·rw[kW,lD,hm.len];exact hr
 unfold Vx at hd;obtain⟨hc,hd⟩:=ZO hd;cases AF:e.call with
 |none=>
  simp only[AF]at hd;cases CH:e.br with
  |none=>simp only[CH]at hd;refine FV [] (by have:=hm.rel;simpa[Cx.ext]using this) (by simp[AF,CH]) (by simpa using hd) hc (λcl h=>by rw[AF]at h;cases h) (λx h=>by rw[CH]at h;cases h)
  |some x=>simp only[CH]at hd;have FU:=QQ (by simp[CH]);refine FV [.bool (JD a o)] (hm.ext FU _) (by simp[CH]) (hd _ λhg hb=> ?_) hc (λcl h=>by rw[AF]at h;cases h) (λx h=>rfl);exact ER c n _ _ _ a _ _ o gs e _ x ⟨hm.rel,hg,λ_ _=>rfl,λt e h=>kC h,λt h1 h2=>AZ t h1 (Nat.lt_of_lt_of_le h2 (Nat.add_le_add_left (by decide) _))⟩ he CH hb
 |some cl=>
  simp only[AF]at hd;cases CH:e.br with
  |some x=>rw[CH]at dK;simp[AF]at dK
  |none=>simp only[CH]at hd;obtain⟨r,h1,h2⟩:=hd;have FU:=QQ (by simp[AF]);refine FV [r] (hm.ext FU _) (by simp[AF]) h2 hc (λcl' h=>by rw[AF]at h;cases h;exact⟨r,rfl,h1⟩) (λx h=>by rw[CH]at h;cases h)
theorem zuj{σ:St}{x:E}{b:Bool}{d:Nat}:Bv (assume x b d σ)=zip σ.sl.length (λi=>assumeS x b (Bv σ i)) (some d) (.e (.bool b)):=by
 funext i;simp only[assume,Bv,zip,Af,List.getElem?_set,List.length_map,List.getElem?_map];by_cases h:d=i
 ·subst h;by_cases h2:d<σ.sl.length
  ·simp[h2]
  ·simp[h2,List.getElem?_eq_none (Nat.le_of_not_lt h2),assumeS]
 ·simp only[h,false_and,if_false];cases hh:σ.sl[i]?<;>simp[assumeS]
theorem zt8{σ:St}{x:E}{b:Bool}{d:Nat}:AD (assume x b d σ).hp=λt=>(AD σ.hp t).map (assumeE x b):=by funext t;exact zvb _ _ _
theorem Ih.assume{F:Fix}{c:Cx}{σ:St}{a:Act}{n m:Nat}(h:Ih F c σ a n m){x:E}{b:Bool}(hx:x.den c.ρ= .bool b){d:Nat}(hd:Bv σ d= .e x):Ih F c (Go.Proofs.YtkpifpljpoochaaGreatDoor.assume x b d σ) a n m:=by
 refine⟨h.w0,h.A,h.Mu,h.nv,?_,h.U,?_⟩
 ·simp only[Go.Proofs.YtkpifpljpoochaaGreatDoor.assume,List.length_set,List.length_map];exact h.len
 ·rw[zuj,zt8];have hr:=h.rel.fb hx;refine{hr with cv:=λi=> ?_};unfold zip;split
  ·rename_i hi;obtain⟨hi,_⟩:=hi;cases hi;have:=h.rel.cv d;rw[hd]at this;generalize a.tmps.getD d Go.undef=v at this;cases this with
   |e h1 h2 _=>exact .e (f:=[]) (by rw[hx]at h1;rw[HF h1 rfl];exact .bool .nil) (by simp) .nil
  ·exact hr.cv i
theorem zuf(AP:NF P sg Rt)(ER:Sv P sg){F:Fix}{base:Nat}{R:AV->Prop}{L:LK}{js:List JK}{Q:Exit->Act->World->Prop}{n:Nat}{next:List Log->St->Option Tr}{i:Nat}{o:Oper}{lg:List Log}{rest:List Nat}(hi:ops[i]?=some o)
  (Cr:∀(lg:List Log) (σ:St) (t:Tr),next lg σ=some t-> ∀(c:Cx) (a:Act),Ih F c σ a n (base+Bx*(i+1))->t.den Rt R L js c.ρ->(∀(c':Cx) (a':Act) (σ':St),c.ρ<+:c'.ρ->L js .normal σ' c'.ρ->Gf F c'.ρ σ' a' c'.w->Q .normal a' c'.w)->wpOps P ops Q rest a c.w):
  ∀(m:Nat) (σ:St) (t:Tr),SE P sg ops false base next i o lg m σ=some t->
  ∀(c:Cx) (a:Act),Ih F c σ a n (base+Bx*i)->t.den Rt R L js c.ρ->(∀(c':Cx) (a':Act) (σ':St),c.ρ<+:c'.ρ->L js .normal σ' c'.ρ->Gf F c'.ρ σ' a' c'.w->Q .normal a' c'.w)->wpOps P ops Q (i::rest) a c.w:=by
 have MG:base+Bx*i<=base+Bx*(i+1):=by rw[Nat.mul_add];omega
 have try_:∀(fail:Unit->Option Tr) (σ:St) (t:Tr),SH P sg ops false base next i o lg fail σ=some t-> ∀(c:Cx) (a:Act),Ih F c σ a n (base+Bx*i)->t.den Rt R L js c.ρ->(∀(c':Cx) (a':Act) (σ':St),c.ρ<+:c'.ρ->L js .normal σ' c'.ρ->Gf F c'.ρ σ' a' c'.w->Q .normal a' c'.w)->
   (fail ()=some t->wpOps P ops Q (i::rest) a c.w)->wpOps P ops Q (i::rest) a c.w:=by
  intro fail σ t ht c a hm hd hq Qp;unfold SH at ht;cases Gq:Nf σ ops o with
  |none=>rw[Gq]at ht;cases ht
  |some r=>
   have Hu:=Zx (c:=c) (a:=a) Gq (λj want d _ _=>hm.rel.cv d);rw[Gq]at ht;cases r with
   |none=>simp only at ht;rw[wpOps_cons];unfold wpOp;simp only[hi];rw[if_neg (by simp[show Region.wanted o (yielded ops a.tmps)=false from Hu])];refine Cr lg _ t ht c _ ⟨hm.w0,hm.A,hm.Mu,by rw[Zl];exact hm.nv,by rw[YW];exact hm.len,λt ht=>Nat.lt_of_lt_of_le (hm.U t ht) MG,?_⟩ hd hq;rw[Zg,Za,hm.len];exact hm.rel.put aG o.dst
   |some gs=>
    simp only at ht;split at ht
    ·rename_i e he;split at ht
     ·cases ht
     ·rename_i Av;split at ht
      ·cases ht
      ·rename_i k hk;simp only[Af]at ht;subst ht;simp only[Bool.false_and,Bool.false_or,Bool.not_false,Bool.true_and,Bool.or_eq_true,Bt,Ae,not_or,Bool.not_eq_false]at Av;rw[wpOps_cons];refine zzb AP ER hi hm Hu he Av.1 (λhh=> ?_) hd λc' a' hp EZ BH=>Cr _ _ k hk c' a' EZ BH λc'' a'' σ' hp'=>hq c'' a'' σ' (hp.trans hp');have:=Av.2;simp only[Bool.or_eq_true]at hh;simpa[hh]using this
    ·exact Qp ht
 intro m
 induction m with
 |zero=>exact λσ t ht c a hm hd hq=>try_ _ σ t ht c a hm hd hq λh=>by cases h
 |succ m ih=>
  intro σ t ht c a hm hd hq;refine try_ _ σ t ht c a hm hd hq λh=> ?_;split at h
  ·rename_i d _ _;split at h
   ·rename_i x S4;split at h
    ·rename_i k1 k0 Hw J6;simp only[Af]at h;subst h;obtain⟨tt,h1,h2,h3⟩:=hd;cases tt with
     |true=>exact ih _ k1 Hw c a (hm.assume h1 S4) (h2 rfl) hq
     |false=>exact ih _ k0 J6 c a (hm.assume h1 S4) (h3 rfl) hq
    ·cases h
   ·cases h
  ·cases h
theorem mR(AP:NF P sg Rt)(ER:Sv P sg){F:Fix}{base:Nat}{R:AV->Prop}{L:LK}{js:List JK}{Q:Exit->Act->World->Prop}{n:Nat}:∀(len i:Nat) (lg:List Log) (σ:St) (t:Tr),i+len=ops.size->KQ P sg ops false base (List.range' i len) lg σ=some t->
  ∀(c:Cx) (a:Act),Ih F c σ a n (base+Bx*i)->t.den Rt R L js c.ρ->(∀(c':Cx) (a':Act) (σ':St),c.ρ<+:c'.ρ->L js .normal σ' c'.ρ->Gf F c'.ρ σ' a' c'.w->Q .normal a' c'.w)->wpOps P ops Q (List.range' i len) a c.w
 |0,i,lg,σ,t,hl,ht,c,a,hm,hd,hq=>by
  simp only[List.range'_zero,KQ,Bool.false_and,BX,if_false,Af]at ht ⊢;subst ht;refine hq c a _ (List.prefix_refl _) hd ⟨c,rfl,rfl,hm.w0,hm.A,hm.Mu,hm.nv,λt ht=> ?_,?_⟩
  ·have:=hm.U t ht;have h9:i=ops.size:=by omega
   subst h9;exact this
  ·have:=hm.rel;rw[<-hm.len]at this;exact this
 |len+1,i,lg,σ,t,hl,ht,c,a,hm,hd,hq=>by
  rw[List.range'_succ]at ht ⊢;unfold KQ at ht;obtain⟨o,hi⟩:∃o,ops[i]?=some o:=⟨ops[i]'(by omega),by simp[show i<ops.size by omega]⟩
  rw[hi]at ht;simp only at ht;exact zuf AP ER hi (λlg σ t ht c a=>mR AP ER (n:=n) len (i+1) lg σ t (by omega) ht c a) 4 σ t ht c a hm hd hq
end
def bT(l:List Oper)(bs:List Nat):Prop:=bs.length=l.length/\ ∀(j:Nat) (o:Oper),l[j]?=some o-> ∀i,((bs[j]?).getD 0).testBit i=true-> ∃e∈o.after.toList,Region.binds .any e=true/\(i=e.on\/(e.on<j/\((bs[e.on]?).getD 0).testBit i=true))
theorem fW(acc:List Nat)(i:Nat):∀(es:List Edge) (s:Nat),(es.foldl (λs e=>if Region.binds .any e then s|||2^e.on|||(acc[e.on]?).getD 0 else s) s).testBit i=true->
  s.testBit i=true\/ ∃e∈es,Region.binds .any e=true/\(i=e.on\/((acc[e.on]?).getD 0).testBit i=true)
 | [],s,h=> .inl h
 |e::es,s,h=>by
  simp only[List.foldl_cons]at h;rcases fW acc i es _ h with h|⟨e',h1,h2⟩
  ·split at h
   ·rename_i hb;simp only[Nat.testBit_or,Nat.testBit_two_pow,Bool.or_eq_true,AN]at h;rcases h with(h|h)|h
    ·exact .inl h
    ·exact .inr ⟨e,by simp,hb, .inl h.symm⟩
    ·exact .inr ⟨e,by simp,hb, .inr h⟩
   ·exact .inl h
  ·exact .inr ⟨e',by simp[h1],h2⟩
theorem iY:∀(os pre:List Oper) (acc:List Nat),bT pre acc->bT (pre++os) (JQ os acc)
 | [],pre,acc,h=>by simpa[JQ]using h
 |o::os,pre,acc,h=>by
  obtain⟨hl,hb⟩:=h;have:=iY os (pre++ [o]) (acc++ [aO acc o]) ⟨by simp[hl],λj o' ho i hi=> ?_⟩
  ·simpa[JQ]using this
  ·have AI:∀k,k<acc.length->((acc++ [aO acc o])[k]?).getD 0=(acc[k]?).getD 0:=λk hk=>by rw[List.getElem?_append_left hk]
   by_cases hj:j<pre.length
   ·rw[List.getElem?_append_left hj]at ho;rw[AI j (by omega)]at hi;obtain⟨e,h1,h2,h3⟩:=hb j o' ho i hi;exact⟨e,h1,h2,h3.imp id λh=>⟨h.1,by rw[AI _ (by omega)];exact h.2⟩⟩
   ·rw[List.getElem?_append_right (by omega)]at ho;have qE:j-pre.length=0:=by
     cases hh:j-pre.length with
     |zero=>rfl
     |succ k=>rw[hh]at ho;simp at ho
    rw[qE]at ho;simp at ho;subst ho;have IB:j=acc.length:=by omega
    rw[IB,List.getElem?_append_right (Ay _)]at hi;simp only[Nat.sub_self,List.getElem?_cons_zero,BC]at hi;rcases fW acc i _ 0 hi with h|⟨e,h1,h2,h3⟩
    ·simp at h
    ·refine⟨e,h1,h2,h3.imp id λh=> ?_⟩;have he:e.on<acc.length:=by
      rcases Nat.lt_or_ge e.on acc.length with hh|hh
      ·exact hh
      ·rw[List.getElem?_eq_none hh]at h;simp at h
     exact⟨by omega,by rw[AI _ he];exact h⟩
def Sl(ops:Array Oper)(S:Nat->Bool):Prop:= ∀k o,S k=true->ops[k]?=some o-> ∀e∈o.after.toList,Region.binds .any e=true->S e.on=true
theorem oD(ops:Array Oper):bT ops.toList (JQ ops.toList []):=by have:=iY ops.toList [] [] ⟨rfl,by simp⟩;simpa using this
theorem iF{ops:Array Oper}{S:Nat->Bool}(hS:Sl ops S):∀(k i:Nat),S k=true->k<ops.size->(((JQ ops.toList [])[k]?).getD 0).testBit i=true->S i=true:=by
 intro k
 induction k using Nat.strongRecOn with
 |_ k ih=>
  intro i hk AI hb;have ho:ops.toList[k]?=some ops[k]:=by simp[AI]
  obtain⟨e,h1,h2,h3⟩:=(oD ops).2 k _ ho i hb;have QL:=hS k ops[k] hk (by simp[AI]) e h1 h2;rcases h3 with rfl|⟨h3,h4⟩
  ·exact QL
  ·exact ih e.on h3 i QL (by omega) h4
theorem zvo{ops:Array Oper}{S:Nat->Bool}(hS:Sl ops S){j i:Nat}{o:Oper}(ho:ops[j]?=some o)(hr:∀e∈o.after.toList,Region.binds .any e=true->S e.on=true)(hb:(((JQ ops.toList [])[j]?).getD 0).testBit i=true):S i=true:=by
 have AI:j<ops.size:=(Array.getElem?_eq_some_iff.1 ho).1;obtain⟨e,h1,h2,h3⟩:=(oD ops).2 j o (by simpa using ho) i hb;have QL:=hr e h1 h2;rcases h3 with rfl|⟨h3,h4⟩
 ·exact QL
 ·exact iF hS e.on i QL (by omega) h4
theorem zun{ops:Array Oper}{S:Nat->Bool}(hS:Sl ops S){j i:Nat}{o:Oper}(ho:ops[j]?=some o)(hi:i<ops.size)(hj:S j=false)(hr:∀e∈o.after.toList,Region.binds .any e=true->S e.on=true)(BI:i≠j)(J9:IT (JQ ops.toList []) i j=true):S i=decide (i<j):=by
 unfold IT at J9;split at J9
 ·rename_i h;rw[zvo hS ho hr J9];simp[h]
 ·rename_i h;cases hs:S i with
  |false=>simp[h]
  |true=>have:=iF hS i j hs hi J9;rw[hj]at this;cases this
structure Rec where
 i:Nat
 o:Oper
 σ:St
 r:Option (Gd × A2)
def Rec.next(x:Rec):St:=match x.r with|none=>Hb x.σ x.o.dst GK|some (gs,e)=>Ky x.σ gs x.o e
def Rec.val(x:Rec):SV:=match x.r with|none=>GK|some (gs,e)=>mkGd gs e.val
def Rec.a6(x:Rec):List (Nat × Ah):=match x.r with|none=> []|some (_,e)=>e.a6
def oP(P:Program)(sg:BR)(Rt:Nat->List AV->AV->Prop)(ops:Array Oper)(base:Nat)(ρ:List AV)(x:Rec):Prop:=
 ops[x.i]?=some x.o/\match x.r with
  |none=>Nf x.σ ops x.o=some none
  |some (gs,e)=>Nf x.σ ops x.o=some (some gs)/\KK P sg (Bv x.σ) (PW x.σ.hp (Sg x.σ gs x.o)) x.σ.nv (base+Bx*x.i) gs x.o=some e/\e.br=none/\PI x.σ.nv (base+Bx*x.i) x.σ.hp gs e=true/\
   (Bc ρ gs-> ∀q∈e.bg,q.den ρ)/\ ∀cl,e.call=some cl-> ∃r,ρ[x.σ.nv]?=some r/\(Bc ρ gs->HG Rt cl.fn ((EL.of cl.args).den ρ) ρ r)
def DQ:Nat->St->List Rec->St->Prop
 |_,σ,[],σ'=>σ=σ'
 |i,σ,x::xs,σ'=>x.i=i/\x.σ=σ/\DQ (i+1) x.next xs σ'
def Rec.log(x:Rec):Option Log:=x.r.map λ(gs,e)=>⟨x.i,Sg x.σ gs x.o,e.a6.map (·.1)⟩
theorem ZD{P:Program}{sg:BR}{Rt:Nat->List AV->AV->Prop}{ops:Array Oper}{base:Nat}{R:AV->Prop}{L:LK}{js:List JK}:∀(len i:Nat) (lg:List Log) (σ:St) (t:Tr) (ρ:List AV),i+len=ops.size->
  KQ P sg ops true base (List.range' i len) lg σ=some t->t.den Rt R L js ρ->ρ.length=σ.nv->
  ∃(τ:List AV) (xs:List Rec) (σ':St) (lg':List Log),DQ i σ xs σ'/\xs.length=len/\(∀x∈xs,oP P sg Rt ops base (ρ++τ) x)/\(ρ++τ).length=σ'.nv/\L js .normal {σ' with nx:=base+Bx*ops.size} (ρ++τ)/\VF ops lg'=true/\(∀y∈lg,y∈lg')/\ ∀x∈xs,∀y,x.log=some y->y∈lg'
 |0,i,lg,σ,t,ρ,hl,ht,hd,hn=>by
  simp only[List.range'_zero,KQ,Bool.true_and]at ht;split at ht
  ·cases ht
  ·rename_i S2;simp only[Af]at ht;subst ht;exact⟨[],[],σ,lg,rfl,rfl,by simp,by simpa using hn,by simpa[Tr.den]using hd,by simpa using S2,λy hy=>hy,by simp⟩
 |len+1,i,lg,σ,t,ρ,hl,ht,hd,hn=>by
  rw[List.range'_succ]at ht;unfold KQ at ht;obtain⟨o,hi⟩:∃o,ops[i]?=some o:=⟨ops[i]'(by omega),by simp[show i<ops.size by omega]⟩
  rw[hi]at ht;simp only at ht;unfold SE SH at ht;cases Gq:Nf σ ops o with
  |none=>rw[Gq]at ht;cases ht
  |some r=>
   rw[Gq]at ht;cases r with
   |none=>
    simp only at ht;obtain⟨τ,xs,σ',lg',h1,h2,h3,h4,h5,h6,h7,h8⟩:=ZD len (i+1) lg _ t ρ (by omega) ht hd (by rw[Zl];exact hn);refine⟨τ,⟨i,o,σ,none⟩::xs,σ',lg',⟨rfl,rfl,h1⟩,by simp[h2],λx hx=> ?_,h4,h5,h6,h7,λx hx y hy=> ?_⟩
    ·rcases Ad.1 hx with rfl|hx
     ·exact⟨hi,Gq⟩
     ·exact h3 x hx
    ·rcases Ad.1 hx with rfl|hx
     ·simp[Rec.log]at hy
     ·exact h8 x hx y hy
   |some gs=>
    simp only at ht;split at ht
    ·rename_i e he;split at ht
     ·cases ht
     ·rename_i Av;simp only[Bool.true_and,Bool.not_true,Bool.false_and,Bool.or_false,Bool.or_eq_true,Bt,not_or,Bool.not_eq_false]at Av;have CH:e.br=none:=by cases hh:e.br with|none=>rfl|some x=>rw[hh]at Av;simp at Av
      split at ht
      ·cases ht
      ·rename_i k hk;simp only[Af]at ht;subst ht;have DM:=Av.2;simp only[PI,Ae,A0]at DM;obtain⟨⟨⟨⟨BA,AY⟩,G0⟩,_⟩,_⟩:=DM;rw[<-hn]at BA AY G0;unfold Vx at hd;obtain⟨hc,hd⟩:=ZO hd;simp only[CH]at hd;obtain⟨τ0,sB,A9,BH⟩:∃τ0:List AV,(ρ++τ0).length=(Ky σ gs o e).nv/\(∀cl,e.call=some cl-> ∃r,τ0=[r]/\(Bc ρ gs->HG Rt cl.fn ((EL.of cl.args).den ρ) ρ r))/\k.den Rt R L js (ρ++τ0):=by
        cases AF:e.call with
        |none=>rw[AF]at hd;exact⟨[],by rw[Z4];simp[AF,CH,hn],by simp,by simpa using hd⟩
        |some cl=>rw[AF]at hd;obtain⟨r,h1,h2⟩:=hd;exact⟨[r],by rw[Z4];simp[AF,hn],λcl' h=>by cases h;exact⟨r,rfl,h1⟩,h2⟩
       obtain⟨τ,xs,σ',lg',h1,h2,h3,h4,h5,h6,h7,h8⟩:=ZD len (i+1) _ _ k (ρ++τ0) (by omega) hk BH sB;have Wh:ρ++τ0++τ=ρ++(τ0++τ):=List.append_assoc ..;rw[Wh]at h3 h4 h5;refine⟨τ0++τ,⟨i,o,σ,some (gs,e)⟩::xs,σ',lg',⟨rfl,rfl,h1⟩,by simp[h2],λx hx=> ?_,h4,h5,h6,λy hy=>h7 y (by simp[hy]),λx hx y hy=> ?_⟩
       ·rcases Ad.1 hx with rfl|hx
        ·refine⟨hi,Gq,he,CH,Av.2,λhg q hq=>(Cn.iv (AY q hq)).2 (hc ((Kx BA).1 hg) q hq),λcl AF=> ?_⟩;obtain⟨r,hr,h2⟩:=A9 cl AF;rw[AF]at G0;simp only[Ae]at G0;subst hr;exact⟨r,by simp only;rw[<-hn];simp,λhg=>(iH G0.1 (EL.jf (by simpa using G0.2))).2 (h2 ((Kx BA).1 hg))⟩
        ·exact h3 x hx
       ·rcases Ad.1 hx with rfl|hx
        ·simp only[Rec.log,Option.map_some,Af]at hy;subst hy;exact h7 _ (by simp)
        ·exact h8 x hx y hy
    ·cases ht
def FX(n:Nat)(sl0:Nat->SV)(xs:List Rec)(S:Nat->Bool):Nat->SV:=xs.foldl (λsl x=>if S x.i then zip n sl x.o.dst x.val else sl) sl0
def Gv(hp0:Nat->Option Ah)(xs:List Rec)(S:Nat->Bool):Nat->Option Ah:=xs.foldl (λhp x=>if S x.i then A8 hp x.a6 else hp) hp0
section
variable {n:Nat} {S S':Nat->Bool} {d t:Nat}
theorem RU:∀(xs:List Rec) {sl sl':Nat->SV},sl d=sl' d->(∀x∈xs,x.o.dst=some d->S x.i=S' x.i)->FX n sl xs S d=FX n sl' xs S' d
 | [],_,_,h,_=>h
 |x::xs,sl,sl',h,hs=>by
  refine RU xs (sl:=if S x.i then zip n sl x.o.dst x.val else sl) (sl':=if S' x.i then zip n sl' x.o.dst x.val else sl') ?_ λy hy=>hs y (by simp[hy]);by_cases hd:x.o.dst=some d
  ·rw[<-hs x (by simp) hd];split
   ·simp only[zip,hd,true_and];rw[h]
   ·exact h
  ·have hu:∀sl:Nat->SV,zip n sl x.o.dst x.val d=sl d:=λsl=>by simp[zip,hd]
   have h1:(if S x.i then zip n sl x.o.dst x.val else sl) d=sl d:=by split;exact hu sl;rfl
   have h2:(if S' x.i then zip n sl' x.o.dst x.val else sl') d=sl' d:=by split;exact hu sl';rfl
   rw[h1,h2,h]
theorem ZI(xs:List Rec){sl:Nat->SV}(hs:∀x∈xs,x.o.dst=some d->S x.i=false):FX n sl xs S d=sl d:=by
 have h1:=RU (n:=n) (S:=S) (S':=λ_=>false) xs (sl:=sl) (sl':=sl) (d:=d) rfl hs;rw[h1];clear h1 hs
 induction xs generalizing sl with
 |nil=>rfl
 |cons x xs ih=>exact ih
theorem aV(hd:n<=d):∀(xs:List Rec) {sl:Nat->SV},FX n sl xs S d=sl d
 | [],_=>rfl
 |x::xs,sl=>by
  have:=aV hd xs (sl:=if S x.i then zip n sl x.o.dst x.val else sl);refine Eq.trans this ?_;split
  ·simp only[zip];rw[if_neg (by omega)]
  ·rfl
theorem nA{y:Rec}(hd:d<n)(hy:y.o.dst=some d)(hS:S y.i=true):∀(xs:List Rec) {sl:Nat->SV},y∈xs->(∀x∈xs,x≠y->x.o.dst≠some d)->FX n sl xs S d=y.val
 | [],_,h,_=>by simp at h
 |x::xs,sl,h,hu=>by
  by_cases hm:y∈xs
  ·exact nA hd hy hS xs (sl:=if S x.i then zip n sl x.o.dst x.val else sl) hm λz hz=>hu z (by simp[hz])
  ·have hx:y=x:=by rcases Ad.1 h with h|h;exact h;exact absurd h hm
   subst hx;have:=ZI (n:=n) (S:=S) (d:=d) xs (sl:=zip n sl y.o.dst y.val) (λz hz NW=>absurd NW (hu z (by simp[hz]) (λhh=>hm (hh▸hz))));show FX n (if S y.i then zip n sl y.o.dst y.val else sl) xs S d=_;rw[if_pos hS,this];simp[zip,hy,hd]
theorem gX{hp hp':Nat->Option Ah}{l:List (Nat × Ah)}(h:hp t=hp' t):A8 hp l t=A8 hp' l t:=by
 induction l generalizing hp hp' with
 |nil=>exact h
 |cons p l ih=>
  refine ih ?_;show(if t=p.1 then some p.2 else hp t)=(if t=p.1 then some p.2 else hp' t)
  rw[h]
theorem zZ{hp hp':Nat->Option Ah}{l:List (Nat × Ah)}(h:t∈l.map (·.1)):A8 hp l t=A8 hp' l t:=by
 induction l generalizing hp hp' with
 |nil=>simp at h
 |cons p l ih=>
  by_cases hm:t∈l.map (·.1)
  ·exact ih hm
  ·have ht:t=p.1:=by simp only[List.map_cons,Ad]at h;exact h.resolve_right hm
   refine gX (l:=l) ?_;show(if t=p.1 then some p.2 else hp t)=(if t=p.1 then some p.2 else hp' t)
   rw[if_pos ht,if_pos ht]
theorem ZW{hp:Nat->Option Ah}{l:List (Nat × Ah)}(h:t∉l.map (·.1)):A8 hp l t=hp t:=
 Kz λe he=>h (List.mem_map.2 ⟨_,he,rfl⟩)
theorem RR:∀(xs:List Rec) {hp hp':Nat->Option Ah},hp t=hp' t->(∀x∈xs,t∈x.a6.map (·.1)->S x.i=S' x.i)->Gv hp xs S t=Gv hp' xs S' t
 | [],_,_,h,_=>h
 |x::xs,hp,hp',h,hs=>by
  refine RR xs (hp:=if S x.i then A8 hp x.a6 else hp) (hp':=if S' x.i then A8 hp' x.a6 else hp') ?_ λy hy=>hs y (by simp[hy]);by_cases hd:t∈x.a6.map (·.1)
  ·rw[<-hs x (by simp) hd];split
   ·exact gX h
   ·exact h
  ·have h1:(if S x.i then A8 hp x.a6 else hp) t=hp t:=by split;exact ZW hd;rfl
   have h2:(if S' x.i then A8 hp' x.a6 else hp') t=hp' t:=by split;exact ZW hd;rfl
   rw[h1,h2,h]
theorem ZQ(xs:List Rec){hp:Nat->Option Ah}(hs:∀x∈xs,t∈x.a6.map (·.1)->S x.i=false):Gv hp xs S t=hp t:=by
 have h1:=RR (S:=S) (S':=λ_=>false) xs (hp:=hp) (hp':=hp) (t:=t) rfl hs;rw[h1];clear h1 hs
 induction xs generalizing hp with
 |nil=>rfl
 |cons x xs ih=>exact ih
end
section
variable {n:Nat} {S:Nat->Bool} {d t:Nat}
theorem Rec.jr(x:Rec):Bv x.next=zip x.σ.sl.length (Bv x.σ) x.o.dst x.val:=by
 obtain⟨i,o,σ,r⟩:=x;cases r with
 |none=>exact Zg
 |some ge=>exact kW
theorem Rec.jj(x:Rec):AD x.next.hp=A8 (AD x.σ.hp) x.a6:=by
 obtain⟨i,o,σ,r⟩:=x;cases r with
 |none=>simp only[Rec.next,Rec.a6,Za];rfl
 |some ge=>exact lD
theorem Rec.ja(x:Rec):x.next.sl.length=x.σ.sl.length:=by
 obtain⟨i,o,σ,r⟩:=x;cases r with
 |none=>exact YW
 |some ge=>exact jU
theorem DQ.range:∀{xs:List Rec} {i:Nat} {σ σ':St},DQ i σ xs σ'-> ∀x∈xs,i<=x.i/\x.i<i+xs.length
 | [],_,_,_,_,x,hx=>by simp at hx
 |y::xs,i,σ,σ',h,x,hx=>by
  rcases Ad.1 hx with rfl|hx
  ·have:=h.1;simp only[Ao];omega
  ·have:=DQ.range h.2.2 x hx;simp only[Ao];omega
theorem DQ.ex:∀{xs:List Rec} {i:Nat} {σ σ':St},DQ i σ xs σ'-> ∀j,i<=j->j<i+xs.length-> ∃x∈xs,x.i=j
 | [],i,_,_,_,j,h1,h2=>by simp at h2;omega
 |y::xs,i,σ,σ',h,j,h1,h2=>by
  by_cases hj:j=i
  ·exact⟨y,by simp,by rw[hj];exact h.1⟩
  ·simp only[Ao]at h2;obtain⟨x,hx,he⟩:=DQ.ex h.2.2 j (by omega) (by omega);exact⟨x,by simp[hx],he⟩
theorem DQ.inj:∀{xs:List Rec} {i:Nat} {σ σ':St},DQ i σ xs σ'-> ∀x∈xs,∀y∈xs,x.i=y.i->x=y
 | [],_,_,_,_,x,hx,_,_,_=>by simp at hx
 |z::xs,i,σ,σ',h,x,hx,y,hy,he=>by
  have hz:=h.1;rcases Ad.1 hx with h1|h1<;>rcases Ad.1 hy with h2|h2
  ·rw[h1,h2]
  ·subst h1;have:=(DQ.range h.2.2 y h2).1;omega
  ·subst h2;have:=(DQ.range h.2.2 x h1).1;omega
  ·exact DQ.inj h.2.2 x h1 y h2 he
theorem DQ.sl:∀{xs:List Rec} {i:Nat} {σ σ':St},DQ i σ xs σ'->σ.sl.length=n->(∀x∈xs,x.σ.sl.length=n/\ ∀d,Bv x.σ d=FX n (Bv σ) xs (λk=>decide (k<x.i)) d)/\σ'.sl.length=n/\Bv σ'=FX n (Bv σ) xs λ_=>true
 | [],i,σ,σ',h,hn=>by have h:σ=σ':=h;subst h;exact⟨by simp,hn,rfl⟩
 |y::xs,i,σ,σ',h,hn=>by
  obtain⟨h1,h2,h3⟩:=h;subst h2;obtain⟨q1,q2,q3⟩:=DQ.sl h3 (by rw[y.ja];exact hn);rw[y.jr,hn]at q1 q3;refine⟨λx hx=> ?_,q2,q3⟩;rcases Ad.1 hx with rfl|hx
  ·refine⟨hn,λd=>(ZI _ λz hz _=> ?_).symm⟩;rcases Ad.1 hz with rfl|hz
   ·simp
   ·have:=(DQ.range h3 z hz).1;simp only[decide_eq_false_iff_not];omega
  ·refine⟨(q1 x hx).1,λd=> ?_⟩;rw[(q1 x hx).2 d];have:=(DQ.range h3 x hx).1;show _=FX n (if decide (y.i<x.i)then zip n (Bv y.σ) y.o.dst y.val else Bv y.σ) xs (λk=>decide (k<x.i)) d;rw[if_pos (by simp only[AN];omega)]
theorem DQ.hp:∀{xs:List Rec} {i:Nat} {σ σ':St},DQ i σ xs σ'->(∀x∈xs,∀t,AD x.σ.hp t=Gv (AD σ.hp) xs (λk=>decide (k<x.i)) t)/\AD σ'.hp=Gv (AD σ.hp) xs λ_=>true
 | [],i,σ,σ',h=>by have h:σ=σ':=h;subst h;exact⟨by simp,rfl⟩
 |y::xs,i,σ,σ',h=>by
  obtain⟨h1,h2,h3⟩:=h;subst h2;obtain⟨q1,q3⟩:=DQ.hp h3;rw[y.jj]at q1 q3;refine⟨λx hx=> ?_,q3⟩;rcases Ad.1 hx with rfl|hx
  ·refine λd=>(ZQ _ λz hz _=> ?_).symm;rcases Ad.1 hz with rfl|hz
   ·simp
   ·have:=(DQ.range h3 z hz).1;simp only[decide_eq_false_iff_not];omega
  ·intro t;rw[q1 x hx t];have:=(DQ.range h3 x hx).1;show _=Gv (if decide (y.i<x.i)then A8 (AD y.σ.hp) y.a6 else AD y.σ.hp) xs (λk=>decide (k<x.i)) t;rw[if_pos (by simp only[AN];omega)]
theorem nK{y:Rec}{Xf:Nat->Option Ah}(hS:S y.i=true)(ht:t∈y.a6.map (·.1)):∀{xs:List Rec} {i:Nat} {σ σ':St} {hp0:Nat->Option Ah},DQ i σ xs σ'->y∈xs->(∀x∈xs,x.i≠y.i->t∈x.a6.map (·.1)->S x.i=decide (x.i<y.i))->Gv hp0 xs S t=A8 Xf y.a6 t
 | [],_,_,_,_,_,h,_=>by simp at h
 |x::xs,i,σ,σ',hp0,hc,hm,hs=>by
  by_cases hx:y=x
  ·subst hx;have:=ZQ (S:=S) (t:=t) xs (hp:=A8 hp0 y.a6) (λz hz NW=>by
    have AI:=(DQ.range hc.2.2 z hz).1;have h1:=hc.1;rw[hs z (by simp[hz]) (by omega) NW];simp only[decide_eq_false_iff_not];omega)
   show Gv (if S y.i then A8 hp0 y.a6 else hp0) xs S t=_;rw[if_pos hS,this];exact zZ ht
  ·have EZ:y∈xs:=by rcases Ad.1 hm with h|h;exact absurd h hx;exact h
   exact nK hS ht (hp0:=if S x.i then A8 hp0 x.a6 else hp0) hc.2.2 EZ λz hz=>hs z (by simp[hz])
end
theorem iZ{α:Type}{p p':α->Bool}:∀(l:List α),(∀k∈l,p' k=true->p k=true)->(∃j∈l,p j=true/\p' j=false)->(l.filter p').length<(l.filter p).length
 | [],_,h=>by obtain⟨j,hj,_⟩:=h;simp at hj
 |x::l,hs,h=>by
  have hle:(l.filter p').length<=(l.filter p).length:=by
   have:∀(l:List α),(∀k∈l,p' k=true->p k=true)->(l.filter p').length<=(l.filter p).length:=by
    intro l
    induction l with
    |nil=>intro _;simp
    |cons y l ih=>
     intro h;have:=ih λk hk=>h k (by simp[hk]);have hy:=h y (by simp);cases h1:p' y with
     |false=>
      cases h2:p y with
      |false=>simpa[h1,h2]using this
      |true=>simp only[List.filter_cons,h1,h2,BX,if_false,if_true,Ao];omega
     |true=>simpa[h1,hy h1]using this
   exact this l λk hk=>hs k (by simp[hk])
  obtain⟨j,hj,h1,h2⟩:=h;rcases Ad.1 hj with rfl|hj
  ·simp only[List.filter_cons,h1,h2,BX,if_false,if_true,Ao];omega
  ·have:=iZ l (λk hk=>hs k (by simp[hk])) ⟨j,hj,h1,h2⟩;have hx:=hs x (by simp);cases h3:p' x with
   |false=>
    cases h4:p x with
    |false=>simpa[h3,h4]using this
    |true=>simp only[List.filter_cons,h3,h4,BX,if_false,if_true,Ao];omega
   |true=>simpa[h3,hx h3]using this
section
variable {ops:Array Oper} {listed:Array Bool}
theorem zuQ(hb:∀j o,ops[j]?=some o-> ∀e∈o.after.toList,Region.binds .any e=true->e.on<j)(BY:listed.size=ops.size)(hr:Region.ready .any ops listed=[]):∀k,k<ops.size->listed.getD k true=true:=by
 intro k
 induction k using Nat.strongRecOn with
 |_ k ih=>
  intro hk;cases hs:listed.getD k true with
  |true=>rfl
  |false=>
   have:k∈Region.ready .any ops listed:=mem_ready.2 ⟨hs,ops[k],by simp[hk],λe he JZ=>by
    have AI:=hb k ops[k] (by simp[hk]) e (by simpa using he) JZ;have:=ih e.on AI (by omega);have h2:e.on<listed.size:=by omega
    simp only[Array.getD_eq_getD_getElem?,Array.getElem?_eq_getElem h2,BC]at this ⊢;exact this⟩
   rw[hr]at this;cases this
theorem zwC(BY:listed.size=ops.size){j:Nat}(hj:j<ops.size)(k:Nat):(listed.setIfInBounds j true).getD k true=(decide (k=j)||listed.getD k true):=by
 by_cases h:j=k
 ·subst h;simp[Array.getD_eq_getD_getElem?,show j<listed.size by omega]
 ·rw[getD_set_ne true h];simp[Ne.symm h]
variable {P:Program} {sg:BR} {Rt:Nat->List AV->AV->Prop}
theorem zty(AP:NF P sg Rt){F:Fix}{σ σ':St}{xs:List Rec}{ρ:List AV}{lg:List Log}{n:Nat}{Q:Exit->Act->World->Prop}(hc:DQ 0 σ xs σ')(hlen:xs.length=ops.size)(AR:∀x∈xs,oP P sg Rt ops σ.nx ρ x)(S2:VF ops lg=true)(Qz:∀x∈xs,∀y,x.log=some y->y∈lg)(hn:σ.sl.length=n)
  (hQ:∀(c:Cx) (a:Act),c.ρ=ρ->c.w0=F.w0->c.A=F.A->c.Mu=F.Mu->(∀t,c.U t->t<σ.nx+Bx*ops.size)->Rel c n (Bv σ') (AD σ'.hp) a->Q .normal a c.w):
  ∀(fuel:Nat) (listed:Array Bool) (a:Act) (c:Cx),listed.size=ops.size->Sl ops (λk=>listed.getD k true)->c.ρ=ρ->c.w0=F.w0->c.A=F.A->c.Mu=F.Mu->
   (∀t,c.U t->t<σ.nx\/ ∃k,k<ops.size/\listed.getD k true=true/\σ.nx+Bx*k<=t/\t<σ.nx+Bx*k+Bx)->Rel c n (FX n (Bv σ) xs λk=>listed.getD k true) (Gv (AD σ.hp) xs λk=>listed.getD k true) a->
   ((List.range ops.size).filter λk=> !listed.getD k true).length<=fuel->wpAny P .any ops Q fuel listed a c.w:=by
 simp only[VF,Ae,A0,Bool.or_eq_true,Ax,Bt,AN]at S2;obtain⟨⟨d1,d2⟩,d3⟩:=S2;have QD:∀j o,ops[j]?=some o->(o,j)∈ops.toList.zipIdx:=λj o h=>List.mk_mem_zipIdx_iff_getElem?.2 (by simpa using h);have hb:∀j o,ops[j]?=some o-> ∀e∈o.after.toList,Region.binds .any e=true->e.on<j:=λj o h e he JZ=>by
  rcases d2 (o,j) (QD j o h) e he with h|h
  ·rw[JZ]at h;cases h
  ·exact h
 obtain⟨c1,c2,c3⟩:=hc.sl hn;obtain⟨c4,c5⟩:=hc.hp;have DX:∀(listed:Array Bool) (a:Act) (c:Cx),listed.size=ops.size->c.ρ=ρ->c.w0=F.w0->c.A=F.A->c.Mu=F.Mu->
   (∀t,c.U t->t<σ.nx\/ ∃k,k<ops.size/\listed.getD k true=true/\σ.nx+Bx*k<=t/\t<σ.nx+Bx*k+Bx)->Rel c n (FX n (Bv σ) xs λk=>listed.getD k true) (Gv (AD σ.hp) xs λk=>listed.getD k true) a->
   (∀k,k<ops.size->listed.getD k true=true)->Q .normal a c.w:=by
  intro listed a c BY h1 h2 h3 h4 h5 h6 Dj;refine hQ c a h1 h2 h3 h4 (λt ht=> ?_) ?_
  ·rcases h5 t ht with h|⟨k,hk,_,_,h⟩
   ·simp only[Bx]at*;omega
   ·simp only[Bx]at*;omega
  ·have e1:(FX n (Bv σ) xs λk=>listed.getD k true)=Bv σ':=by
    rw[c3];funext d;exact RU xs rfl λx hx _=>by have:=(hc.range x hx).2;exact Dj x.i (by omega)
   have e2:(Gv (AD σ.hp) xs λk=>listed.getD k true)=AD σ'.hp:=by rw[c5];funext d;exact RR xs rfl λx hx _=>by have:=(hc.range x hx).2;exact Dj x.i (by omega)
   rw[e1,e2]at h6;exact h6
 intro fuel
 induction fuel with
 |zero=>
  intro listed a c BY AF h1 h2 h3 h4 h5 h6 Qi;have Dj:∀k,k<ops.size->listed.getD k true=true:=by intro k hk;have:=List.length_eq_zero_iff.1 (Nat.le_zero.1 Qi);have:=List.filter_eq_nil_iff.1 this k (by simpa using hk);simpa using this
  refine⟨?_,DX listed a c BY h1 h2 h3 h4 h5 h6 Dj⟩;refine List.eq_nil_iff_forall_not_mem.2 λj hj=> ?_;obtain⟨q1,o,q2,_⟩:=mem_ready.1 hj;rw[Dj j (Array.getElem?_eq_some_iff.1 q2).1]at q1;cases q1
 |succ fuel ih=>
  intro listed a c BY AF h1 h2 h3 h4 h5 h6 Qi;refine⟨λhr=>DX listed a c BY h1 h2 h3 h4 h5 h6 (zuQ hb BY hr),λj hj=> ?_⟩;obtain⟨q1,o,q2,q3⟩:=mem_ready.1 hj;have WU:j<ops.size:=(Array.getElem?_eq_some_iff.1 q2).1;have K1:∀e∈o.after.toList,Region.binds .any e=true->listed.getD e.on true=true:=λe he JZ=>by
   have h9:=q3 e (by simpa using he) JZ;have AI:=hb j o q2 e he JZ;have h8:e.on<listed.size:=by omega
   simp only[Array.getD_eq_getD_getElem?,Array.getElem?_eq_getElem h8,BC]at h9 ⊢;exact h9
  obtain⟨y,hy,E7⟩:=hc.ex j (by omega) (by omega);have MS:y.o=o:=by have:=(AR y hy).1;rw[E7,q2]at this;exact(Option.some.inj this).symm
  have Tk:∀x∈xs,x.i<ops.size:=λx hx=>by have:=(hc.range x hx).2;omega
  have dO:∀x∈xs,ops[x.i]?=some x.o:=λx hx=>(AR x hx).1;have agree:∀x∈xs,x.i≠j->IT (JQ ops.toList []) x.i j=true->listed.getD x.i true=decide (x.i<j):=λx hx BI ho=>zun (S:=λk=>listed.getD k true) AF q2 (Tk x hx) q1 K1 BI ho;have Li:∀x∈xs,x.i=j->listed.getD x.i true=decide (x.i<j):=λx hx he=>by rw[he,q1];simp
  have GQ:∀d,d∈VM ops o->Bv y.σ d=FX n (Bv σ) xs (λk=>listed.getD k true) d:=by
   intro d hd;rw[(c1 y hy).2 d,E7];refine RU xs rfl λx hx Q0=> ?_;by_cases he:x.i=j
   ·exact(Li x hx he).symm
   ·rcases d3 (o,j) (QD j o q2) (x.o,x.i) (QD _ _ (dO x hx))with h|h
    ·exact absurd h he
    ·simp only[Q0,Ae,Bool.or_eq_true,Bt]at h;rcases h.2 with h|h
     ·rw[List.contains_iff_mem.2 hd]at h;cases h
     ·exact(agree x hx he h).symm
  have hW:∀x∈xs,∀t,t∈x.a6.map (·.1)-> ∀ly,y.log=some ly->(t∈ly.R\/t∈ly.W)->listed.getD x.i true=decide (x.i<j):=by
   intro x hx t ht ly QA hm;by_cases he:x.i=j
   ·exact Li x hx he
   ·cases XH:x.r with
    |none=>simp[Rec.a6,XH]at ht
    |some ge=>
     obtain⟨gs,e⟩:=ge;have qP:x.log=some ⟨x.i,Sg x.σ gs x.o,e.a6.map (·.1)⟩:=by simp[Rec.log,XH]
     have W1:ly.i=j:=by unfold Rec.log at QA;obtain⟨ge',_,rfl⟩:=Aq.1 QA;exact E7
     have h9:=d1 _ (Qz x hx _ qP) _ (Qz y hy _ QA);simp only[W1]at h9;rcases h9 with(h|h)|h
     ·exact absurd h he
     ·exfalso;have:bM (e.a6.map (·.1)) (ly.R++ly.W)=true:=by
       simp only[bM,List.any_eq_true];exact⟨t,by simpa[Rec.a6,XH]using ht,List.contains_iff_mem.2 (by simpa using hm)⟩
      rw[this]at h;cases h
     ·exact agree x hx he h
  have Cr:∀k,(listed.setIfInBounds j true).getD k true=(decide (k=j)||listed.getD k true):=zwC BY WU;have Xr:FX n (Bv σ) xs (λk=>(listed.setIfInBounds j true).getD k true)=zip n (FX n (Bv σ) xs λk=>listed.getD k true) o.dst y.val:=by
   funext d;unfold zip;split
   ·rename_i hd;refine nA hd.2 (by rw[MS];exact hd.1) (by rw[Cr,E7];simp) xs hy λx hx BI Q0=> ?_;have he:x.i≠j:=λh=>BI (hc.inj x hx y hy (by rw[h,E7]));rcases d3 (o,j) (QD j o q2) (x.o,x.i) (QD _ _ (dO x hx))with h|h
    ·exact he h
    ·simp only[Q0,Ae,bne_iff_ne,ne_eq]at h;exact h.1 hd.1
   ·rename_i hd;by_cases Mp:d<n
    ·refine RU xs rfl λx hx Q0=> ?_;have he:x.i≠j:=λh=>by
      have:x=y:=hc.inj x hx y hy (by rw[h,E7]);subst this;exact hd ⟨by rw[<-MS];exact Q0,Mp⟩
     rw[Cr];simp[he]
    ·rw[aV (by omega),aV (by omega)]
  have WL:Gv (AD σ.hp) xs (λk=>(listed.setIfInBounds j true).getD k true)=A8 (Gv (AD σ.hp) xs λk=>listed.getD k true) y.a6:=by
   funext t;by_cases ht:t∈y.a6.map (·.1)
   ·refine nK (by rw[Cr,E7];simp) ht hc hy λx hx BI XI=> ?_;rw[E7]at BI ⊢;rw[Cr];simp only[BI,decide_false,Bool.false_or];cases IQ:y.r with
    |none=>simp[Rec.a6,IQ]at ht
    |some ge=>exact hW x hx t XI _ (by simp only[Rec.log,IQ,Option.map_some];rfl) (.inr (by simpa[Rec.a6,IQ]using ht))
   ·rw[ZW ht];refine RR xs rfl λx hx XI=> ?_;have he:x.i≠j:=λh=>by
     have:x=y:=hc.inj x hx y hy (by rw[h,E7]);subst this;exact ht XI
    rw[Cr];simp[he]
  have Qj:((List.range ops.size).filter λk=> !(listed.setIfInBounds j true).getD k true).length<=fuel:=by have:=iZ (p:=λk=> !listed.getD k true) (p':=λk=> !(listed.setIfInBounds j true).getD k true) (List.range ops.size) (λk _ hk=>by rw[Cr]at hk;simp at hk ⊢;exact hk.2) ⟨j,by simpa using WU,by simp[q1],by rw[Cr];simp⟩;omega
  have Wp:Sl ops (λk=>(listed.setIfInBounds j true).getD k true):=by
   intro k ok hk WW e he JZ;simp only[Cr,Bool.or_eq_true,AN]at hk ⊢;rcases hk with rfl|hk
   ·rw[q2]at WW;cases WW;exact .inr (K1 e he JZ)
   ·exact .inr (AF k ok hk WW e he JZ)
  have K5:∀(a':Act) (c':Cx),c'.ρ=ρ->c'.w0=F.w0->c'.A=F.A->c'.Mu=F.Mu->(∀t,c'.U t->c.U t\/(σ.nx+Bx*j<=t/\t<σ.nx+Bx*j+Bx))->Rel c' n (zip n (FX n (Bv σ) xs λk=>listed.getD k true) o.dst y.val) (A8 (Gv (AD σ.hp) xs λk=>listed.getD k true) y.a6) a'->
    wpAny P .any ops Q fuel (listed.setIfInBounds j true) a' c'.w:=by
   intro a' c' g1 g2 g3 g4 g5 g6;refine ih _ a' c' (by simpa using BY) Wp g1 g2 g3 g4 (λt ht=> ?_) (by rw[Xr,WL];exact g6) Qj;rcases g5 t ht with h|h
   ·rcases h5 t h with h|⟨k,k1,k2,k3,k4⟩
    ·exact .inl h
    ·exact .inr ⟨k,k1,by rw[Cr,k2];simp,k3,k4⟩
   ·exact .inr ⟨j,WU,by rw[Cr];simp,h.1,h.2⟩
  have cW:∀j' want d,o.guard=some (j',want)->(ops[j']?).bind (·.dst)=some d->SR c [Bv y.σ d] [a.tmps.getD d Go.undef]:=by intro j' want d hg hd;rw[GQ d (by simp only[VM,hg,Ag];exact .inr (by simp[hd]))];exact h6.cv d
  obtain⟨_,CW⟩:=AR y hy;cases IQ:y.r with
  |none=>
   rw[IQ]at CW;have Hu:=Zx (c:=c) (a:=a) CW (λj' want d hg hd=>cW j' want d (by rw[<-MS];exact hg) hd);unfold wpOp;simp only[q2];rw[MS]at Hu;rw[if_neg (by simp[show Region.wanted o (yielded ops a.tmps)=false from Hu])];have hv:y.val=GK:=by simp[Rec.val,IQ]
   have he:y.a6=[]:=by simp[Rec.a6,IQ]
   refine K5 _ c h1 h2 h3 h4 (λt ht=> .inl ht) ?_;rw[hv,he];exact h6.put aG o.dst
  |some ge=>
   obtain⟨gs,e⟩:=ge;rw[IQ]at CW;simp only at CW;obtain⟨r1,r2,r3,r4,r5,r6⟩:=CW;rw[MS,E7]at r2;rw[E7]at r4;rw[MS]at r1;have Hu:=Zx (c:=c) (a:=a) r1 cW;have hv:y.val=mkGd gs e.val:=by simp[Rec.val,IQ]
   have he:y.a6=e.a6:=by simp[Rec.a6,IQ]
   simp only[PI,Ae,A0]at r4;obtain⟨_,Xo⟩:=r4;have QA:y.log=some ⟨y.i,Sg y.σ gs y.o,e.a6.map (·.1)⟩:=by simp[Rec.log,IQ]
   refine mA (c:=c) AP q2 h6 Hu (λt ht=>GQ t (by simp only[VM,Ag,List.mem_filterMap];exact .inl ⟨.tmp t,by simpa using ht,rfl⟩)) (λt x hx=> ?_) (λt t1 t2 hU=> ?_) r2 (λBI t x hx=> ?_) (by rw[h1];exact r5) (by rw[h1];exact r6) (λx hx=>by rw[r3]at hx;cases hx) (λa' c' hs hr=> ?_)
   ·unfold PW at hx;split at hx
    ·rename_i hR;rw[(c4 y hy) t]at hx;rw[<-hx];refine RR xs rfl λz hz rY=> ?_;rw[E7];exact hW z hz t rY _ QA (.inl (by rw[MS];simpa using hR))
    ·cases hx
   ·rcases h5 t hU with h|⟨k,k1,k2,k3,k4⟩
    ·simp only[Bx]at*;omega
    ·have:k≠j:=by rintro rfl;rw[q1]at k2;cases k2
     simp only[Bx]at*;omega
   ·have:=Xo _ hx;have Ql:gs.isEmpty=false:=by cases gs;exact absurd rfl BI;rfl
    simp only[Ql,Bool.false_or,Bool.false_and,Bool.or_false,Ae,AN]at this;refine⟨this.1.1,this.1.2,?_⟩;have h3:=this.2;split at h3
    ·exact⟨_,_,rfl,h3⟩
    ·cases h3
   ·exact K5 a' c' (hs.ρ.trans h1) (hs.w0.trans h2) (hs.A.trans h3) (hs.Mu.trans h4) hs.U (by rw[hv,he];exact hr)
end
theorem Rel.world{c:Cx}{n:Nat}{sl:Nat->SV}{hp:Nat->Option Ah}{a:Act}(h:Rel c n sl hp a)(w:World)(h1:w.heap=c.w.heap)(h2:w.os=c.w.os)(h3:w.tape=c.w.tape)(h4:w.output=c.w.output):Rel {c with w:=w} n sl hp a:=by
 refine h.change (λ_=>False) ⟨rfl,rfl,λ_ _ hb=>hb,λb _ _=>by show w.heap[b]?=_;rw[h1],λ_ _ hk=>⟨hk,rfl⟩,λ_ _ _=>⟨Ay _,λ_=>⟨rfl,λb _ _=>by show w.heap[b]?=_;rw[h1]⟩⟩⟩ ⟨h2.trans h.base.os,h3.trans h.base.tape,h4.trans h.base.output,by show _<=w.heap.size;rw[h1];exact h.base.size,h.base.pins,λb hb hm=>by show w.heap[b]?=_;rw[h1];exact h.base.block b hb hm,h.base.pk,h.base.lo⟩ (λt _=>⟨rfl,rfl,rfl,λg hk=>hk⟩) (λt _ b _=>by show w.heap[b]?=_;rw[h1]) (λt ht=>ht.elim)
  ⟨h.gw.nodup,h.gw.cc,h.gw.allow,λt b hb=>by show b<w.heap.size;rw[h1];exact h.gw.inb t b hb⟩ h.bc h.cg
theorem zvx{P:Program}{sg:BR}{Rt:Nat->List AV->AV->Prop}(W7:P.follows .mixedOrders=true)(AP:NF P sg Rt)(ER:Sv P sg):kQ P sg Rt:=by
 intro id ops draw σ t _ DM qW ht F R L js ρ a w hL hd hr Q hq;obtain⟨c,rfl,rfl,h1,h2,h3,h4,h5,h6⟩:=hr;rw[List.range_eq_range']at ht;cases draw with
 |false=>refine wp_region ?_;rw[List.range_eq_range'];exact mR AP ER (n:=σ.sl.length) ops.size 0 [] σ t (by omega) ht c a ⟨h1,h2,h3,h4,rfl,by simpa using h5,h6⟩ hd (λc' a' σ' hp hl hrel=>hq [] .normal σ' c'.ρ a' c'.w hp hl hrel)
 |true=>
  refine wp_region_any W7 ?_;obtain⟨τ,xs,σ',lg',g1,g2,g3,g4,g5,g6,_,g8⟩:=ZD ops.size 0 [] σ t c.ρ (by omega) ht hd h4;have Wy:=h6.ext (λi=>by rw[h4];exact St.kf DM i) (λt e he=>by rw[h4];exact St.jx DM t e he) τ;have hw:=Wy.world {c.w with drawn:=c.w.drawn+1} rfl rfl rfl rfl;have Gm:∀k,k<ops.size->(Array.replicate ops.size false).getD k true=false:=λk hk=>by simp[Array.getD_eq_getD_getElem?,hk]
  have Tk:∀x∈xs,x.i<ops.size:=λx hx=>by have:=(g1.range x hx).2;omega
  have e1:(FX σ.sl.length (Bv σ) xs λk=>(Array.replicate ops.size false).getD k true)=Bv σ:=by funext d;exact ZI _ λx hx _=>Gm x.i (Tk x hx)
  have e2:(Gv (AD σ.hp) xs λk=>(Array.replicate ops.size false).getD k true)=AD σ.hp:=by funext d;exact ZQ _ λx hx _=>Gm x.i (Tk x hx)
  refine zty (F:=F) (n:=σ.sl.length) (c:={c.ext τ with w:={c.w with drawn:=c.w.drawn+1}}) AP g1 g2 g3 g6 g8 rfl (λc' a' k1 k2 k3 k4 k5 k6=> ?_) ops.size (Array.replicate ops.size false) a (by simp) (λk o hk ho=> ?_) rfl h1 h2 h3 (λt ht=> .inl (h5 t ht)) (by rw[e1,e2];exact hw) (Nat.le_trans (List.length_filter_le _ _) (by simp))
  ·have hlen:=(g1.sl rfl).2.1;refine hq [] .normal _ c'.ρ a' c'.w (by rw[k1];exact List.prefix_append _ _) (by rw[k1];exact g5) ⟨c',rfl,rfl,k2,k3,k4,by rw[k1];exact g4,k5,?_⟩;show Rel c' σ'.sl.length _ _ a';rw[hlen];exact k6
  ·have:=Gm k (Array.getElem?_eq_some_iff.1 ho).1;have BH:(Array.replicate ops.size false).getD k true=true:=hk;rw[this]at BH;cases BH
section
variable {P:Program} {c:Cx} {n nx:Nat} {sl sl0:Nat->SV} {hp hp0:Nat->Option Ah} {a:Act} {o:Oper} {gs:Gd} {e:A2} {sg:BR} {nv:Nat}
theorem jG(h:Bh P c n nx sl hp a sl0 hp0 o gs){op:BinOp}{t el:TypeId}{x y:Operand}{ty:TypeId}(ho:o.op= .binOp op t x y ty)(hu:P.underlying t=some (.slice el)){p:Option Addr}{q r:Nat}(hv:a.eval x= .slice p q r)(r2:SR c [.bq] [a.eval y])
  (AP:op= .eql\/op= .neq) (FR:c.ρ[nv]?=some (.bool (JD a o))) (x':Option E) {ck:List Cn}:Aw P o c n nx sl hp gs a {bg:=ck,br:=x',val:= .e (if op= .eql then .var nv else .not (.var nv))}:=by
 have hb:JD a o=p.isNone:=by simp only[JD,ho,hv];cases p<;>rfl
 rw[hb]at FR;have ex:=λ(v u:Value) (hv:a.eval x=v) (hu:a.eval y=u)=>Nt (P:=P) (o:=o) ho c.w hv hu;generalize C6:a.eval y=v2 at r2;cases r2 with
 |bq _=>
  refine Aw.pure h (v:= .bool (if op= .eql then p.isNone else !p.isNone)) ?_ ?_ rfl
  ·rw[ex _ _ hv C6,eqGuard_at_slice];rcases AP with rfl|rfl
   ·simp[Go.Lib.run_eql_slice_nil c.w t el p q r 0 0 hu]
   ·simp[binOp,Op.equal,Op.maxDepth,Go.Lib.run_equalIn_slice_nil c.w 9999 t el p q r 0 0 hu]
  ·rcases AP with rfl|rfl
   ·refine .e (f:=[]) ?_ (by simp) .nil;simp only[if_true,E.den,FR,BC];exact .bool .nil
   ·refine .e (f:=[]) ?_ (by simp) .nil;simp only[reduceCtorEq,if_false,E.den,FR,BC,AV.dz];exact .bool .nil
end
section
variable {P:Program} {c:Cx} {n nx:Nat} {sl sl0:Nat->SV} {hp hp0:Nat->Option Ah} {a:Act} {o:Oper} {gs:Gd} {e:A2} {sg:BR} {nv:Nat}
theorem RW{hp:Nat->Option Ah}{gs:Gd}{m:Nat}{cs:Bp}{x:E}(h:Bj hp gs m (.agg cs)=some x):∃k l,m=k+1/\Cm hp gs k cs.toList=some l/\x= .mk l:=by
 cases m with
 |zero=>simp[Bj]at h
 |succ m=>simp only[Bj,Aq]at h;obtain⟨l,h1,h2⟩:=h;exact⟨m,l,rfl,h1,h2.symm⟩
theorem JA{hp:Nat->Option Ah}{gs:Gd}{m:Nat}{y x:E}(h:Bj hp gs m (.e y)=some x):x=y:=by
 cases m with
 |zero=>simp[Bj]at h
 |succ m=>simp[Bj]at h;exact h.symm
theorem Kw{hp:Nat->Option Ah}{gs:Gd}{m:Nat}{x:E}(h:Bj hp gs m .bq=some x):x= .lst .nil:=by
 cases m with
 |zero=>simp[Bj]at h
 |succ m=>simp[Bj]at h;exact h.symm
theorem Jw{hp:Nat->Option Ah}{gs:Gd}{m:Nat}{s:SV}{ss:List SV}{x:EL}(h:Cm hp gs m (s::ss)=some x):∃k y l,m=k+1/\Bj hp gs k s=some y/\Cm hp gs k ss=some l/\x= .cons y l:=by
 cases m with
 |zero=>simp[Cm]at h
 |succ m=>
  simp only[Cm]at h;split at h
  ·rename_i y l h1 h2;simp at h;exact⟨m,y,l,rfl,h1,h2,h.symm⟩
  ·cases h
theorem OQ{hp:Nat->Option Ah}{gs:Gd}{ρ:List AV}{w:World}:∀(vs:List Value) (ss:List SV) (m:Nat) (x:EL),ED.go vs=some ss->Cm hp gs m ss=some x->Rd w vs (x.den ρ) []
 | [],ss,m,x,h,hx=>by
  simp[ED.go]at h;subst h;cases m with
  |zero=>simp[Cm]at hx
  |succ m=>simp[Cm]at hx;subst hx;exact .nil
 |v::vs,ss,m,x,h,hx=>by
  unfold ED.go at h;split at h
  ·rename_i hh;cases hh
  ·rename_i k q l hh;cases hh;split at h
   ·rename_i hk;obtain⟨l',h1,rfl⟩:=Aq.1 h;obtain⟨j,y,l2,rfl,h2,h3,rfl⟩:=Jw hx;rw[JA h2];exact .int hk (OQ _ _ _ _ h1 h3)
   ·cases h
  ·rename_i q l hh;cases hh;obtain⟨l',h1,rfl⟩:=Aq.1 h;obtain⟨j,y,l2,rfl,h2,h3,rfl⟩:=Jw hx;rw[JA h2];exact .bool (OQ _ _ _ _ h1 h3)
  ·rename_i q l hh;cases hh;split at h
   ·rename_i hk;obtain⟨l',h1,rfl⟩:=Aq.1 h;obtain⟨j,y,l2,rfl,h2,h3,rfl⟩:=Jw hx;rw[JA h2];exact .str hk (OQ _ _ _ _ h1 h3)
   ·cases h
  ·rename_i l hh;cases hh;obtain⟨l',h1,rfl⟩:=Aq.1 h;obtain⟨j,y,l2,rfl,h2,h3,rfl⟩:=Jw hx;rw[Kw h2];exact .di (OQ _ _ _ _ h1 h3)
  ·rename_i l hh;cases hh;obtain⟨l',h1,rfl⟩:=Aq.1 h;obtain⟨j,y,l2,rfl,h2,h3,rfl⟩:=Jw hx;rw[JA h2];exact .dd (OQ _ _ _ _ h1 h3)
  ·cases h
theorem YQ{hp:Nat->Option Ah}{gs:Gd}{ρ:List AV}{w:World}{v:Value}{s:SV}{m:Nat}{x:E}(h:ED v=some s)(hx:Bj hp gs m s=some x):
  Rd w v.cells.toList (x.den ρ).cells []/\(∀u∈v.cells.toList,u.oneCell'=true):=by
 have one:∀{v:Value} {y:AV},Rd w [v] [y] []->(∀cs,y≠ .agg cs)->(∀cs,y≠ .tup cs)->Rd w v.cells.toList y.cells []/\(∀u∈v.cells.toList,u.oneCell'=true):=by
  intro v y hr h1 h2;have h3:=YV hr h1 h2;have h4:y.cells=[y]:=by cases y<;>first|rfl|exact absurd rfl (h1 _)
  rw[one_cells h3,h4];exact⟨by simpa using hr,by simpa using h3⟩
 unfold ED at h;split at h
 ·split at h
  ·rename_i hk;simp at h;subst h;rw[JA hx];exact one (.int hk .nil) (by simp[E.den]) (by simp[E.den])
  ·cases h
 ·simp at h;subst h;rw[JA hx];exact one (.bool .nil) (by simp[E.den]) (by simp[E.den])
 ·split at h
  ·rename_i hk;simp at h;subst h;rw[JA hx];exact one (.str hk .nil) (by simp[E.den]) (by simp[E.den])
  ·cases h
 ·simp at h;subst h;rw[Kw hx];exact one (.di .nil) (by simp[E.den]) (by simp[E.den])
 ·simp at h;subst h;rw[JA hx];exact one (.dd .nil) (by simp[E.den]) (by simp[E.den])
 ·rename_i cs;simp only[Option.bind_eq_bind,As,Af]at h;obtain⟨l,hl,rfl⟩:=h;obtain⟨k,l',rfl,h1,rfl⟩:=RW hx;rw[Bp.ak]at h1;exact⟨OQ _ _ _ _ hl h1,YY _ _ hl⟩
 ·cases h
theorem aT{w:World}{vs:List Value}{x:AV}(h:Rd w vs x.cells []):∀k,Rd w (List.replicate k vs).flatten (AA (List.replicate k x)) []
 |0=> .nil
 |k+1=>by simp only[List.replicate_succ,List.flatten_cons,AA,List.flatMap_cons];have:=h.app (aT h k);simpa[AA]using this
theorem UG(z:Array Value)(hz:0<z.size):∀k,(madeCells z (k*z.size)).toList=(List.replicate k z.toList).flatten
 |0=>by simp[madeCells]
 |k+1=>by
  have ih:=UG z hz k;simp only[madeCells,Array.toList_map,Array.toList_range]at ih ⊢;rw[Nat.add_mul,Nat.one_mul,List.range_add,List.map_append,ih,List.replicate_succ',List.flatten_append];congr 1;simp only[List.map_map,List.flatten_cons,List.flatten_nil,AJ];apply List.ext_getElem?;intro i;simp only[List.getElem?_map,List.getElem?_range'];by_cases hi:i<z.size
  ·simp only[List.getElem?_range hi,Option.map_some,Function.comp_apply];have:(k*z.size+i) % z.size=i:=by rw[Nat.add_comm,Nat.add_mul_mod_self_right,Nat.mod_eq_of_lt hi]
   simp[this,hi]
  ·rw[List.getElem?_eq_none (by simpa using hi),List.getElem?_eq_none (by simpa using hi)];rfl
theorem ztk(h:Bh P c n nx sl hp a sl0 hp0 o gs){t:TypeId}{l m:Operand}(ho:o.op= .makeSlice t l m){s1 s2:SV}(BA:Bn sl0 gs l=some s1)(AY:Bn sl0 gs m=some s2)(he:aF P hp0 gs nx t s1 s2=some e)(hc:∀q∈e.bg,Cn.den c.ρ q):Aw P o c n nx sl hp gs a e:=by
 have DK:l∈o.op.operands:=by simp[ho,Op.operands]
 have Dl:m∈o.op.operands:=by simp[ho,Op.operands]
 unfold aF at he;split at he
 ·rename_i el x y Ba;have Ba:=H2 Ba;split at he
  ·cases he
  rename_i hz;have hz:GB P el=true:=by simpa using hz
  obtain⟨i,z,hi,Fo,Eo,BY,B3,Hr⟩:=Ju hz;have r1:=h.ch BA DK;have r2:=h.ch AY Dl;have ival:∀{x:E} {kk:IntKind} {k:Int} {v:Value},SR c [.e x] [v]->x.den c.ρ= .int kk k->v= .int kk k:=by
   intro x kk k v hr hx;cases hr with
   |e h1 _ _=>exact(FC h1 hx).1
  split at he
  ·rename_i Gy;split at he
   ·rename_i s hs;have hs:ED z=some s:=by simpa[hi,Fo]using hs
    obtain⟨w,hw,rfl⟩:=Aq.1 he;obtain⟨kk,k,hk,h0,hb,hle⟩:Cn.den c.ρ (.mkroom x (P.bytesOf el)):=BG hc;have E5:=ival r1 hk;have C6:=ival r2 (by rw[<-E.aj c.ρ _ _ Gy];exact hk);obtain⟨c1,c2⟩:=YQ (w:=c.w) (ρ:=c.ρ) hs hw;obtain⟨kn,rfl⟩:=Int.eq_ofNat_of_zero_le h0;have DH:(i.bytes:Int)*(kn:Int)<=281474976710656:=by rw[Hr]at hb;rw[Int.mul_comm];omega
    have hlen:=c1.len;have S8:=UG z.cells (by omega) kn;have AH:=run_make (P:=P) c.w t el i z Ba hi Fo kk kk kn kn (by omega) (Int.le_refl _) DH (by omega);have E3:(madeCells z.cells (kn*z.cells.size)).size=kn*P.cellsOf el:=by rw[size_madeCells,Eo,B3]
    have B5:(madeCells z.cells (kn*z.cells.size)).toList.take ((List.replicate kn (w.den c.ρ)).length*P.cellsOf el)=(List.replicate kn z.cells.toList).flatten:=by rw[List.length_replicate,List.take_of_length_le (by rw[Cc,E3];exact Ay _),S8]
    refine Aw.newRow (xs:=List.replicate kn (w.den c.ρ)) (N:=[]) (C:=madeCells z.cells (kn*z.cells.size)) (cap:=kn) (wd:=c.w) (fz:=[]) (ts:=[]) h rfl ⟨rfl,rfl,rfl,rfl⟩ ?_ ?_ (by omega) (λu hu=> ?_) (by simp) (by simp only[maxLen];omega) E3 ?_ ?_ (by simp) (λ_=>rfl)
    ·simp only[execOp,ho,E5,C6,Sem.run_bind,Int.ofNat_eq_natCast,List.length_replicate];rw[AH,Eo];rfl
    ·simp[E.den,hk,AV.rep]
    ·rw[List.eq_of_mem_replicate hu,<-hlen,Cc,Eo,B3]
    ·rw[B5];intro u hu;obtain⟨q,hq,hu⟩:=List.mem_flatten.1 hu;rw[List.eq_of_mem_replicate hq]at hu;exact c2 u hu
    ·rw[B5];exact aT c1 kn
   ·cases he
  ·split at he
   ·rename_i k0 _;simp only[Af]at he;subst he;obtain⟨kk,k,hk,h0,hb,hle⟩:Cn.den c.ρ (.mkroom y (P.bytesOf el)):=BG hc;have E5:=ival r1 (show(E.int k0 0).den c.ρ= .int k0 0 from rfl);have C6:=ival r2 hk;obtain⟨kn,rfl⟩:=Int.eq_ofNat_of_zero_le h0;have DH:(i.bytes:Int)*(kn:Int)<=281474976710656:=by
     rw[Hr]at hb;rw[Int.mul_comm];omega
    have AH:=run_make (P:=P) c.w t el i z Ba hi Fo k0 kk 0 kn (by omega) (by omega) DH (by omega);refine Aw.newRow (xs:=[]) (N:=[]) (C:=madeCells z.cells (kn*i.size)) (cap:=kn) (wd:=c.w) (fz:=[]) (ts:=[]) h rfl ⟨rfl,rfl,rfl,rfl⟩ ?_ rfl (by omega) (by simp) (by simp) (by simp only[maxLen];omega) (by rw[size_madeCells,B3]) (by simp) (by simpa[AA]using Rd.nil) (by simp) (λ_=>rfl);simp only[execOp,ho,E5,C6,Sem.run_bind,Int.ofNat_eq_natCast];rw[AH];rfl
   ·cases he
 ·cases he
end
section
variable {P:Program} {c:Cx} {n nx:Nat} {sl sl0:Nat->SV} {hp hp0:Nat->Option Ah} {a:Act} {o:Oper} {gs:Gd} {e:A2} {sg:BR} {nv:Nat}
def Pn(v:Option Value)(k d:Nat):Prop:=(v=none/\k=d)\/ ∃kk,v=some (.int kk (k:Int))
theorem Ro{w:World}{t el:TypeId}(hu:P.underlying t=some (.slice el))(Bb:C2 P el=true)(p:Option Addr)(m r l h:Nat){lo hi:Option Value}(BO:Pn lo l 0)(F4:Pn hi h m)(h1:l<=h)(h2:h<=m)(h3:m<=r):
  (Instr.sliceAt t (.slice p m r) lo hi none).run P w= .ok (sliced p l h r (P.cellsOf el)) w:=by
 have Fs:P.underlying t=some (.slice (P.elem t)):=by simp[Program.elem,hu]
 have he:P.elem t=el:=by simp[Program.elem,hu]
 have hs:(sizeOf (P.elem t)).run P w= .ok (P.cellsOf el) w:=by rw[he];exact M5 Bb w
 rw[run_sliceAt_slice w t _ _ _ _ Fs];rcases BO with⟨rfl,rfl⟩|⟨kl,rfl⟩<;>rcases F4 with⟨rfl,rfl⟩|⟨kh,rfl⟩
 ·rw[run_slice_all w t p h r Fs,hs];rfl
 ·rw[run_slice_h w t p m r Fs kh _ (by omega) (by omega),hs];rfl
 ·rw[run_slice_l w t p h r Fs kl _ (by omega) (by omega),hs];rfl
 ·rw[run_slice_lh w t p m r Fs kl kh _ _ (by omega) (by omega) (by omega),hs];rfl
theorem zA(s:ByteArray)(a b:Nat):(s.extract a b).data.toList=(s.data.toList.drop a).take (b-a):=by rw[ByteArray.data_extract,Array.toList_extract,List.extract_eq_take_drop]
theorem vK{w:World}{t:TypeId}(hu:P.underlying t=some .string)(s:ByteArray)(l h:Nat){lo hi:Option Value}(BO:Pn lo l 0)(F4:Pn hi h s.size)(h1:l<=h)(h2:h<=s.size):
  (Instr.sliceAt t (.string s) lo hi none).run P w= .ok (.string (s.extract l h)) w:=by
 rw[run_sliceAt_string w t _ _ _ _ hu];rcases BO with⟨rfl,rfl⟩|⟨kl,rfl⟩<;>rcases F4 with⟨rfl,rfl⟩|⟨kh,rfl⟩
 ·rw[run_slice_string_all w t s hu]
 ·rw[run_slice_string_h w t s hu kh _ (by omega) (by omega)];rfl
 ·rw[run_slice_string_l w t s hu kl _ (by omega) (by omega)];rfl
 ·rw[run_slice_string w t s kl kh _ _ hu (by omega) (by omega) (by omega)];rfl
theorem Zv{sz:Nat}(ys:List AV)(hs:∀y∈ys,y.cells.length=sz)(l h:Nat)(hl:l<=h)(hh:h<=ys.length):((AA ys).drop (l*sz)).take ((h-l)*sz)=AA ((ys.take h).drop l):=by
 have e:ys=ys.take l++((ys.take h).drop l++ys.drop h):=by
  rw[<-List.append_assoc];have:ys.take l++(ys.take h).drop l=ys.take h:=by
   have h2:ys.take l=(ys.take h).take l:=by rw[List.take_take,Nat.min_eq_left hl]
   rw[h2,BV]
  rw[this,BV]
 have f1:AA ys=AA (ys.take l)++(AA ((ys.take h).drop l)++AA (ys.drop h)):=by
  conv=>lhs;rw[e]
  simp[AA]
 have l1:(AA (ys.take l)).length=l*sz:=by rw[M8 _ (λy hy=>hs y (BM hy)),A1,Nat.min_eq_left (by omega)]
 have l2:(AA ((ys.take h).drop l)).length=(h-l)*sz:=by rw[M8 _ (λy hy=>hs y (BM (Cd hy))),Dp,A1,Nat.min_eq_left (by omega)]
 rw[f1,<-l1,List.drop_left,<-l2,List.take_left]
theorem zyN{w:World}{v:Value}{ys:List AV}{f:List Nat}{sz:Nat}(hr:Rd w [v] [.sl ys] f)(hs:∀y∈ys,y.cells.length=sz)(l h:Nat)(hl:l<=h)(hh:h<=ys.length):
  ∃p r g,v= .slice p ys.length r/\ys.length<=r/\Rd w [sliced p l h r sz] [.sl ((ys.take h).drop l)] g/\ ∀b∈g,b∈f:=by
 cases hr with
 |di _=>
  rename_i p r;have hh:h=0:=by simpa using hh
  subst hh;have hl:l=0:=by omega
  subst hl;exact⟨_,_,[],rfl,Nat.zero_le _,by simpa[sliced]using Rd.di .nil,by simp⟩
 |en hb h1 h2 h3 h4 h5 h6 Gi h7 h8=>
  rename_i b o m r cs C t fz sz' f1 f2;have hy:∃y,y∈ys:=by cases ys with|nil=>simp at h3;omega|cons y _=>exact⟨y,by simp⟩
  obtain⟨y0,G3⟩:=hy;have FU:sz'=sz:=(h4 y0 G3).symm.trans (hs y0 G3);subst FU;subst h3;refine⟨some ⟨b,o,none⟩,r,?_⟩;rcases Nat.eq_or_lt_of_le hl with he|AI
  ·subst he;refine⟨[],rfl,h2.2,?_,by simp⟩;have:(ys.take l).drop l=[]:=List.drop_eq_nil_of_le (by simp;omega);rw[this];simp only[sliced,Nat.sub_self];exact .di .nil
  ·have F3:=h7.len;obtain⟨g,hg,Dm⟩:=h7.piece (l*sz') ((h-l)*sz');rw[Zv ys h4 l h hl hh]at Dm;refine⟨b::(g++ []),rfl,h2.2,?_,λx hx=> ?_⟩
   ·have CS:sliced (some (⟨b,o,none⟩:Addr)) l h r sz'= .slice (some ⟨b,o+l*sz',none⟩) (h-l) (r-l):=by
     unfold sliced;split
     ·exfalso;omega
     ·simp[Addr.add_lit]
    rw[CS];refine Rd.en (cs:=(cs.drop (l*sz')).take ((h-l)*sz')) hb (by omega) ⟨by omega,by omega⟩ (by simp;omega) (λy hy=>h4 y (BM (Cd hy))) h5 (λj u hu=> ?_) (λu hu=>Gi u (Cd (BM hu))) Dm .nil;rw[List.getElem?_take]at hu;split at hu
    ·rw[List.getElem?_drop]at hu;have:=h6 _ _ hu;rw[<-this];congr 1;omega
    ·cases hu
   ·simp only[AJ,Ad]at hx;rcases hx with rfl|hx
    ·simp
    ·have:=hg x hx;simp[this]
theorem Ga{f:Operand->Option SV}{x:Option Operand}{r:Option SV}(h:Hf f x=some r):(x=none/\r=none)\/ ∃y z,x=some y/\f y=some z/\r=some z:=by
 cases x with
 |none=>simp[Hf]at h;exact .inl ⟨rfl,h.symm⟩
 |some y=>obtain⟨z,hz,rfl⟩:=Aq.1 h;exact .inr ⟨y,z,rfl,hz,rfl⟩
theorem UU{s:Option SV}{d l:E}(h:L0 s d=some l):(s=none/\l=d)\/s=some (.e l):=by
 unfold L0 at h;split at h
 ·simp at h;exact .inl ⟨rfl,h.symm⟩
 ·simp at h;subst h;exact .inr rfl
 ·cases h
theorem yV(h:Bh P c n nx sl hp a sl0 hp0 o gs){t:TypeId}{x:Operand}{lo hi mx:Option Operand}(ho:o.op= .slice t x lo hi mx){s:SV}(hs:Bn sl0 gs x=some s){l' h' m':Option SV}(Bw:Hf (Bn sl0 gs) lo=some l')(HV:Hf (Bn sl0 gs) hi=some h')(EZ:Hf (Bn sl0 gs) mx=some m')(he:ZR P hp0 gs t s l' h' m'=some e)(hc:∀q∈e.bg,Cn.den c.ρ q):Aw P o c n nx sl hp gs a e:=by
 have hm:x∈o.op.operands:=by simp[ho,Op.operands]
 have IE:∀y,lo=some y->y∈o.op.operands:=λy hy=>by simp[ho,Op.operands,hy]
 have Hy:∀y,hi=some y->y∈o.op.operands:=λy hy=>by simp[ho,Op.operands,hy]
 have W6:∀y,mx=some y->y∈o.op.operands:=λy hy=>by simp[ho,Op.operands,hy]
 have hx:=h.ch hs hm;have ival:∀{x:E} {kk:IntKind} {k:Int} {v:Value},SR c [.e x] [v]->x.den c.ρ= .int kk k->v= .int kk k:=by
  intro x kk k v hr hx;cases hr with
  |e h1 _ _=>exact(FC h1 hx).1
 unfold ZR at he;split at he
 ·cases he
 rename_i y hy;obtain⟨f,q1,q2⟩:=h.jg hs hm hy;have ex:(execOp a.eval o).run P c.w=((Instr.sliceAt t (a.eval x) (lo.map a.eval) (hi.map a.eval) (mx.map a.eval)).run P c.w).andThen λv w=> .ok (.value v) w:=by simp[execOp,ho]
 split at he
 ·split at he
  ·rename_i el _ _ hu;split at he
   ·rename_i Bb;simp only[Af]at he;subst he;have hd:(y.den c.ρ).len≠ .undef:=BG hc;cases Bo:y.den c.ρ<;>simp only[Bo,AV.len,ne_eq,not_true_eq_false]at hd;rename_i xs;have hl:(y.den c.ρ).len= .int .i64 (xs.length:Int):=by rw[Bo];rfl
    obtain⟨p,q,r,hv⟩:∃p q r,a.eval x= .slice p q r:=by
     rcases O9 q1 hl with⟨p,q,hv,Dw⟩|⟨b,o',k,q,hv,Dw⟩
     ·exact⟨_,_,_,hv⟩
     ·exact⟨_,_,_,hv⟩
    rcases Ga Bw with⟨rfl,_⟩|⟨_,_,_,_,hh⟩
    ·rcases Ga HV with⟨_,hh⟩|⟨oh,sh,rfl,Xq,hh⟩
     ·cases hh
     ·cases hh;rcases Ga EZ with⟨_,hh⟩|⟨om,sm,rfl,IK,hh⟩
      ·cases hh
      ·cases hh;have v1:=(λ{kk:IntKind} (hr:SR c [.e (.int kk 0)] [a.eval oh])=>ival hr (show(E.int kk 0).den c.ρ= .int kk 0 from by simp only[E.den])) (h.ch Xq (Hy _ rfl))
       have v2:=(λ{kk:IntKind} (hr:SR c [.e (.int kk 0)] [a.eval om])=>ival hr (show(E.int kk 0).den c.ρ= .int kk 0 from by simp only[E.den])) (h.ch IK (W6 _ rfl))
       have Fs:P.underlying t=some (.slice (P.elem t)):=by simp[Program.elem,hu]
       have Ba:P.elem t=el:=by simp[Program.elem,hu]
       refine Aw.pure h (v:= .slice p 0 0) ?_ (.emp .nil) rfl;rw[ex,hv];simp only[Option.map_none,Option.map_some,v1,v2];rw[run_sliceAt_slice c.w t _ _ _ _ Fs,run_slice_hm c.w t p q r Fs _ _ 0 0 (by omega) (by omega) (by omega),Ba,M5 Bb];simp[sliced]
    ·cases hh
   ·cases he
  ·cases he
 ·have IF:mx=none:=by
   rcases Ga EZ with⟨hh,_⟩|⟨_,_,_,_,hh⟩
   ·exact hh
   ·cases hh
  subst IF;have blo:∀(l:E) (kk:IntKind) (k:Nat),L0 l' (.int .i64 0)=some l->l.den c.ρ= .int kk k->Pn (lo.map a.eval) k 0:=by
   intro l kk k hl hk;rcases Ga Bw with⟨rfl,rfl⟩|⟨ol,sl',rfl,CS,rfl⟩
   ·rcases UU hl with⟨_,rfl⟩|hh
    ·simp only[E.den,AV.int.injEq]at hk;exact .inl ⟨rfl,by omega⟩
    ·cases hh
   ·rcases UU hl with⟨hh,_⟩|hh
    ·cases hh
    ·cases hh;exact .inr ⟨kk,by rw[Option.map_some,ival (h.ch CS (IE _ rfl)) hk]⟩
  have bhi:∀(d l:E) (kk:IntKind) (k m:Nat),L0 h' d=some l->l.den c.ρ= .int kk k->d.den c.ρ= .int .i64 (m:Int)->Pn (hi.map a.eval) k m:=by
   intro d l kk k m hl hk hd;rcases Ga HV with⟨rfl,rfl⟩|⟨ol,sl',rfl,CS,rfl⟩
   ·rcases UU hl with⟨_,rfl⟩|hh
    ·rw[hd]at hk;simp only[AV.int.injEq]at hk;exact .inl ⟨rfl,by omega⟩
    ·cases hh
   ·rcases UU hl with⟨hh,_⟩|hh
    ·cases hh
    ·cases hh;exact .inr ⟨kk,by rw[Option.map_some,ival (h.ch CS (Hy _ rfl)) hk]⟩
  split at he
  ·rename_i hu;split at he
   ·rename_i l hb q J7 Iw;simp only[Af]at he;subst he;obtain⟨ka,ai,kb,bi,bs,d1,d2,d3,d4,d5,d6⟩:Cn.den c.ρ (.winS y l hb):=BG hc;obtain⟨an,rfl⟩:=Int.eq_ofNat_of_zero_le d4;obtain⟨bn,rfl⟩:=Int.eq_ofNat_of_zero_le (Int.le_trans d4 d5);obtain⟨ss,hv,rfl,hle⟩:=Py q1 d3;have BY:ss.data.toList.length=ss.size:=by simp
    have AH:=vK (P:=P) (w:=c.w) hu ss an bn (blo l ka an J7 d1) (bhi (.slen y) hb kb bn ss.size Iw d2 (by simp only[E.den,d3,AV.slen];simp)) (by omega) (by omega);refine Aw.pure h (v:= .string (ss.extract an bn)) ?_ (.cu ?_) rfl
    ·rw[ex,hv,Option.map_none,AH];rfl
    ·simp only[E.den,d1,d2,d3,AV.swin];have:(List.take (bn:Int).toNat ss.data.toList).drop (an:Int).toNat=(ss.extract an bn).data.toList:=by
      simp[zA,List.drop_take]
     rw[this];exact .str (by simp only[ByteArray.size_extract];omega) .nil
   ·cases he
  ·rename_i el hu;split at he
   ·cases he
   rename_i Bb;have Bb:C2 P el=true:=by simpa using Bb
   split at he
   ·rename_i l hb fz J7 Iw GP;simp only[Af]at he;subst he;have Bi:Cn.den c.ρ (.issl y (P.cellsOf el)):=BG hc;obtain⟨ys,CX,HY⟩:=Bi;obtain⟨ka,ai,kb,bi,m,d1,d2,d3,d4,d5,d6⟩:Cn.den c.ρ (.win y l hb):=hc _ (by simp);obtain⟨an,rfl⟩:=Int.eq_ofNat_of_zero_le d4;obtain⟨bn,rfl⟩:=Int.eq_ofNat_of_zero_le (Int.le_trans d4 d5);rw[CX]at q1;have hm9:(m:Int)=ys.length:=by rw[CX]at d3;simpa[AV.len]using d3.symm
    split at GP
    ·rename_i Hz;obtain⟨p,r,g,hv,hr,Dm,hg⟩:=zyN q1 HY an bn (by omega) (by omega);have AH:=Ro (P:=P) (w:=c.w) hu Bb p ys.length r an bn (blo l ka an J7 d1) (bhi (.len y) hb kb bn ys.length Iw d2 (by simp only[E.den,CX,AV.len])) (by omega) (by omega) hr;intro next Q hk
     unfold Oper.wp;rw[ex,hv,Option.map_none,AH];show Oper.upon P o a next Q (.ok (.value _) c.w)
     rw[Oper.upon_value];have hrel:=h.rel.freeze h.hp h.gs GP;have AR:∀b∈g,(c.bh (fz.map (·.1))).ok b:=λb hb=>RH h.rel h.eh h.gs GP Hz (q2 b (hg b hb));refine hk _ (c.bh (fz.map (·.1))) ⟨rfl,rfl,rfl,rfl,λt ht=> .inl ht⟩ (hrel.put (SR.mkGd (.e (f:=g) ?_ AR .nil) gs h.gs) o.dst);show Rd c.w _ [(E.win y l hb).den c.ρ] g;simp only[E.den,d1,d2,CX,AV.win,Int.ofNat_eq_natCast,FY];exact Dm
    ·cases GP
   ·cases he
  ·cases he
end
section
variable {P:Program} {c:Cx} {n nx:Nat} {sl sl0:Nat->SV} {hp hp0:Nat->Option Ah} {a:Act} {o:Oper} {gs:Gd} {e:A2} {sg:BR} {nv:Nat}
theorem PK{w:World}{v:Value}{x:AV}{f:List Nat}{k:SK}(h:Rd w [v] [x] f)(hk:x.sk=some k):(∃kk n,k= .int kk/\v= .int kk n/\x= .int kk n)\/(∃b,k= .bool/\v= .bool b/\x= .bool b)\/ ∃s:ByteArray,k= .str/\v= .string s/\x= .str s.data.toList:=by
 cases h<;>simp[AV.sk]at hk
 ·exact .inl ⟨_,_,hk.symm,rfl,rfl⟩
 ·exact .inr (.inl ⟨_,hk.symm,rfl,rfl⟩)
 ·exact .inr (.inr ⟨_,hk.symm,rfl,rfl⟩)
theorem Y4{t:TypeId}(h:(∃k,P.underlying t=some (.int k))\/P.underlying t=some .bool\/P.underlying t=some .string):An P t=false:=by rcases h with⟨k,h⟩|h|h<;>simp[An,h]
theorem fX{w:World}(d:Nat):∀(fs:List Field) (j:Nat) (ks:List SK) {as_ bs:List Value} {cs ds:List AV} {f g:List Nat},Pt P j fs=some ks->Rd w as_ cs f->Rd w bs ds g->(cs.drop j).map AV.sk=ks.map some->(ds.drop j).map AV.sk=ks.map some->
  (Op.eqFields (d+1) as_.toArray bs.toArray fs).run P w= .ok (AV.leq (cs.drop j) (ds.drop j)) w
 | [],j,ks,as_,bs,cs,ds,f,g,hk,h1,h2,k1,k2=>by
  simp[Pt]at hk;subst hk;have e1:cs.drop j=[]:=by simpa using k1
  have e2:ds.drop j=[]:=by simpa using k2
  rw[e1,e2];simp[Op.eqFields,AV.leq]
 |fd::fs,j,ks,as_,bs,cs,ds,f,g,hk,h1,h2,k1,k2=>by
  unfold Pt at hk;split at hk
  ·cases hk
  rename_i Av;simp only[not_or,Bt,Decidable.not_not,ne_eq,Bool.not_eq_false]at Av;obtain⟨hn,ho,Bb,BG⟩:=Av;have main:∀(k:SK) (l:List SK),ks=k::l->Pt P (j+1) fs=some l->(∀a b (x y:AV) f g,Rd w [a] [x] f->Rd w [b] [y] g->x.sk=some k->y.sk=some k->(Op.equalIn (d+1) fd.type a b).run P w= .ok (x.seq y) w)->An P fd.type=false->
    (Op.eqFields (d+1) as_.toArray bs.toArray (fd::fs)).run P w= .ok (AV.leq (cs.drop j) (ds.drop j)) w:=by
   rintro k l rfl hl heq Hn;have WO:j<cs.length:=by
    rcases Nat.lt_or_ge j cs.length with hh|hh
    ·exact hh
    ·rw[List.drop_eq_nil_of_le hh]at k1;simp at k1
   have WQ:j<ds.length:=by
    rcases Nat.lt_or_ge j ds.length with hh|hh
    ·exact hh
    ·rw[List.drop_eq_nil_of_le hh]at k2;simp at k2
   rw[BL WO]at k1;rw[BL WQ]at k2;simp only[List.map_cons,List.cons.injEq]at k1 k2;have l1:=h1.len;have l2:=h2.len;obtain⟨v,f1,hv,_,r1⟩:=h1.at (show cs[j]?=some cs[j] by simp[WO])
   obtain⟨u,g1,hu,_,r2⟩:=h2.at (show ds[j]?=some ds[j] by simp[WQ])
   have p1:=RV Bb as_ fd.offset (by omega) (.inr BG) w;have p2:=RV Bb bs fd.offset (by omega) (.inr BG) w;have e1:((as_.drop fd.offset).take (P.cellsOf fd.type)).headD Go.undef=v:=by rw[BG,ho,BL (by omega),List.take_succ_cons];simpa[show j<as_.length by omega]using hv
   have e2:((bs.drop fd.offset).take (P.cellsOf fd.type)).headD Go.undef=u:=by rw[BG,ho,BL (by omega),List.take_succ_cons];simpa[show j<bs.length by omega]using hu
   rw[Hn,e1]at p1;rw[Hn,e2]at p2;have ih:=fX (w:=w) d fs (j+1) l hl h1 h2 k1.2 k2.2;rw[BL WO,BL WQ];simp only[Op.eqFields,ne_eq,hn,not_false_eq_true,if_true,Sem.run_bind,p1,p2,BX,if_false,Result.andThen_ok,heq v u _ _ _ _ r1 r2 k1.1 k2.1];cases hb:(cs[j]).seq ds[j]with
   |true=>simpa[AV.leq,hb]using ih
   |false=>simp[AV.leq,hb]
  split at hk
  ·rename_i k l hu hl;simp at hk;refine main _ _ hk.symm hl (λa b x y f g ra rb hx hy=> ?_) (Y4 (.inl ⟨_,hu⟩));rcases PK ra hx with⟨kk,m,h5,rfl,rfl⟩|⟨_,h5,_⟩|⟨_,h5,_⟩<;>cases h5
   rcases PK rb hy with⟨kk,m2,h5,rfl,rfl⟩|⟨_,h5,_⟩|⟨_,h5,_⟩<;>cases h5
   exact run_equalIn_int w d fd.type _ _ _ _ hu
  ·rename_i l hu hl;simp at hk;refine main _ _ hk.symm hl (λa b x y f g ra rb hx hy=> ?_) (Y4 (.inr (.inl hu)));rcases PK ra hx with⟨kk,m,h5,_⟩|⟨_,_,rfl,rfl⟩|⟨_,h5,_⟩<;>try cases h5
   rcases PK rb hy with⟨kk,m,h5,_⟩|⟨_,_,rfl,rfl⟩|⟨_,h5,_⟩<;>try cases h5
   exact Zm d _ _ hu w
  ·rename_i l hu hl;simp at hk;refine main _ _ hk.symm hl (λa b x y f g ra rb hx hy=> ?_) (Y4 (.inr (.inr hu)));rcases PK ra hx with⟨kk,m,h5,_⟩|⟨_,h5,_⟩|⟨_,_,rfl,rfl⟩<;>try cases h5
   rcases PK rb hy with⟨kk,m,h5,_⟩|⟨_,h5,_⟩|⟨_,_,rfl,rfl⟩<;>try cases h5
   rw[run_equalIn_string w d _ _ _ hu,xP];rfl
  ·cases hk
theorem zws(h:Bh P c n nx sl hp a sl0 hp0 o gs){op:BinOp}{t:TypeId}{x y:Operand}{ty:TypeId}(ho:o.op= .binOp op t x y ty){fs:Array Field}(hu:P.underlying t=some (.struct fs))(he:Bz P sg sl0 hp0 nv nx gs o=some e)(hc:∀q∈e.bg,Cn.den c.ρ q):Aw P o c n nx sl hp gs a e:=by
 have DK:x∈o.op.operands:=by simp[ho,Op.operands]
 have Dl:y∈o.op.operands:=by simp[ho,Op.operands]
 simp only[Bz,ho,As]at he;obtain⟨s1,BA,s2,AY,he⟩:=he;unfold PG at he;simp only[hu]at he;split at he
 ·cases he
 rename_i hg;simp only[Bool.or_eq_true,not_or,Bool.not_eq_true]at hg;split at he
 ·rename_i ks x' y' qH CT Bo;obtain⟨f1,q1,_⟩:=h.jg BA DK CT;obtain⟨f2,q2,_⟩:=h.jg AY Dl Bo;have EN:P.underlying t=some (.struct (P.fieldsOf t)):=by simp[Program.fieldsOf,hu]
  have K3:P.fieldsOf t=fs:=by simp[Program.fieldsOf,hu]
  have key:∀(k1:Cn.den c.ρ (.kinds x' ks)) (k2:Cn.den c.ρ (.kinds y' ks)),∃as_ bs:List Value,∃b,a.eval x= .agg as_.toArray/\a.eval y= .agg bs.toArray/\(E.aeq x' y').den c.ρ= .bool b/\(Op.equalIn 10000 t (.agg as_.toArray) (.agg bs.toArray)).run P c.w= .ok b c.w:=by rintro⟨cs,Bi,k1⟩ ⟨ds,Gl,k2⟩;obtain⟨as_,E5,_,r1⟩:=Jc q1 Bi;obtain⟨bs,C6,_,r2⟩:=Jc q2 Gl;refine⟨as_,bs,AV.leq cs ds,E5,C6,by simp only[E.den,Bi,Gl,AV.aeq],?_⟩;rw[run_equalIn_struct c.w 9999 t _ _ EN hg.1,K3];exact fX (w:=c.w) 9998 fs.toList 0 ks qH r1 r2 (by simpa using k1) (by simpa using k2)
  split at he
  ·simp only[Af]at he;subst he;obtain⟨as_,bs,b,E5,C6,hd,hr⟩:=key (hc _ (by simp)) (hc _ (by simp));refine Aw.pure h (v:= .bool b) ?_ (.cu (by rw[hd];exact .bool .nil)) rfl;rw[Nt ho c.w E5 C6];simp[run_eqGuard_agg c.w _ t x y _ _ hg.2,run_eql_struct,hr]
  ·simp only[Af]at he;subst he;obtain⟨as_,bs,b,E5,C6,hd,hr⟩:=key (hc _ (by simp)) (hc _ (by simp));refine Aw.pure h (v:= .bool (!b)) ?_ (.cu (by simp only[E.den]at hd ⊢;rw[hd];exact .bool .nil)) rfl;rw[Nt ho c.w E5 C6];simp[run_eqGuard_agg c.w _ t x y _ _ hg.2,run_neq_struct,hr]
  ·cases he
 ·cases he
theorem gE(h:Bh P c n nx sl hp a sl0 hp0 o gs){x y:Operand}{cl:Call}(ho:o.op= .call cl){op:BinOp}(AP:(op= .gtr/\cl.callee= .builtin .max)\/(op= .lss/\cl.callee= .builtin .min))(CD:cl.args.toList=[x,y]){s1 s2:SV}(BA:Bn sl0 gs x=some s1)(AY:Bn sl0 gs y=some s2)
  (he:Vg op s1 s2=some e) (hc:∀q∈e.bg,Cn.den c.ρ q):Aw P o c n nx sl hp gs a e:=by
 have Au:cl.args= #[x,y]:=by apply Array.ext';simp[CD]
 have DK:x∈o.op.operands:=by rcases AP with⟨_,hh⟩|⟨_,hh⟩<;>simp[ho,Op.operands,Call.operands,hh,Au]
 have Dl:y∈o.op.operands:=by rcases AP with⟨_,hh⟩|⟨_,hh⟩<;>simp[ho,Op.operands,Call.operands,hh,Au]
 unfold Vg at he;split at he
 ·rename_i x' y';simp only[Af]at he;subst he;obtain⟨f1,q1,_⟩:=G7 (h.ch BA DK) rfl;obtain⟨f2,q2,_⟩:=G7 (h.ch AY Dl) rfl;have hd:AV.bin op (y'.den c.ρ) (x'.den c.ρ)≠ .undef:=BG hc;cases hx:x'.den c.ρ<;>cases hy:y'.den c.ρ<;>simp only[hx,hy,AV.bin,ne_eq,not_true_eq_false]at hd;rename_i k m k' m';split at hd
  ·rename_i hk;have hk:k'=k:=by rcases hk with hk|hk|hk;exact hk;all_goals (rcases AP with⟨h1,_⟩|⟨h1,_⟩<;>rw[h1]at hk<;>cases hk)
   subst hk;obtain⟨v1,i1⟩:=FC q1 hx;obtain⟨v2,i2⟩:=FC q2 hy;rcases AP with⟨rfl,AF⟩|⟨rfl,AF⟩
   ·refine Aw.pure h (v:= .int k' (if m'>m then m' else m)) ?_ (.cu ?_) rfl
    ·simp[execOp,ho,resolve,AF,Au,invoke,builtin,Builtin.max_,Builtin.max2,v1,v2]
    ·simp only[E.den,hx,hy,AV.bin,true_or,if_true,BD];by_cases hh:m'>m
     ·simp only[hh,decide_true,AV.cond,if_true];exact .int i2 .nil
     ·simp only[hh,decide_false,AV.cond,if_false];exact .int i1 .nil
   ·refine Aw.pure h (v:= .int k' (if m'<m then m' else m)) ?_ (.cu ?_) rfl
    ·simp[execOp,ho,resolve,AF,Au,invoke,builtin,Builtin.min_,Builtin.min2,v1,v2]
    ·simp only[E.den,hx,hy,AV.bin,true_or,if_true,BD];by_cases hh:m'<m
     ·simp only[hh,decide_true,AV.cond,if_true];exact .int i2 .nil
     ·simp only[hh,decide_false,AV.cond,if_false];exact .int i1 .nil
  ·exact absurd rfl hd
 ·cases he
end
inductive Cs(P:Program)(w:World):List TypeId->List Bool->List Value->List AV->List Nat->List Nat->Prop where
 |nil {fl}:Cs P w [] fl [] [] [] []
 |own {t ts fl el u us y ys top N rf hs}:fl.headD false=true->Da P t=some el->(B1 P el=true/\N=[]\/B1 P el=false/\DF P t=none)->CQ w el (P.cellsOf el) u y top N->Cs P w ts fl.tail us ys rf hs->Cs P w (t::ts) fl (u::us) (y::ys) (N++rf) (top++hs)
 |deep {t ts fl el e z l u us y ys top rf hs}:fl.headD false=true->Da P t=some el->B1 P el=false->DF P t=some (.row e z l)->DC w [.row e z l] [u] [y] top->Cs P w ts fl.tail us ys rf hs->Cs P w (t::ts) fl (u::us) (y::ys) rf (top++hs)
 |rd {t ts fl u us y ys f rf hs}:(fl.headD false=true->Da P t=none)->Rd w [u] [y] f->Cs P w ts fl.tail us ys rf hs->Cs P w (t::ts) fl (u::us) (y::ys) (f++rf) hs
def Ny(P:Program)(w:World)(t:TypeId)(fl:List Bool)(v:Value)(x:AV)(rf hs:List Nat):Prop:=
 ∃us ys,(if An P t then v= .agg us.toArray/\x= .agg ys/\ ∀u∈us,u.oneCell'=true else us=[v]/\ys=[x])/\Cs P w (A5 P t) fl us ys rf hs
def F0(P:Program)(w:World)(t:TypeId)(fl:List Bool)(v:Value)(x:AV)(rf hs:List Nat):Prop:=
 if HM P t fl then Ny P w t fl v x rf hs else Rd w [v] [x] rf/\hs=[]
inductive KR(P:Program)(w:World):List TypeId->List Bool->List Value->List AV->List Nat->List Nat->Prop where
 |nil {fl}:KR P w [] fl [] [] [] []
 |cons {t ts fl v vs x xs f h rf hs}:F0 P w t fl v x f h->KR P w ts (fl.drop (A5 P t).length) vs xs rf hs->KR P w (t::ts) fl (v::vs) (x::xs) (f++rf) (h++hs)
theorem Cs.len{P:Program}{w:World}{ts:List TypeId}{fl:List Bool}{us:List Value}{ys:List AV}{rf hs:List Nat}(h:Cs P w ts fl us ys rf hs):us.length=ts.length/\ys.length=ts.length:=by induction h<;>simp_all
theorem Cs.inb{P:Program}{w:World}{ts:List TypeId}{fl:List Bool}{us:List Value}{ys:List AV}{rf hs:List Nat}(h:Cs P w ts fl us ys rf hs):(∀b∈rf,b<w.heap.size)/\ ∀b∈hs,b<w.heap.size:=by
 induction h with
 |nil=>simp
 |deep _ _ _ _ h _ ih=>
  refine⟨ih.1,λb hb=> ?_⟩;rcases Ag.1 hb with hb|hb
  ·exact h.inb b hb
  ·exact ih.2 b hb
 |own _ _ _ h _ ih=>
  refine⟨λb hb=> ?_,λb hb=> ?_⟩
  ·rcases Ag.1 hb with hb|hb
   ·obtain⟨xs,_,_,_,⟨_,_,_,rfl⟩|⟨g,cap,C,_,_,_,_,_,_,_,hr⟩⟩:=h
    ·simp at hb
    ·exact hr.inb b hb
   ·exact ih.1 b hb
  ·rcases Ag.1 hb with hb|hb
   ·obtain⟨xs,_,_,_,⟨_,_,rfl,_⟩|⟨g,cap,C,_,_,_,hh,_,rfl,_⟩⟩:=h
    ·simp at hb
    ·simp at hb;subst hb;exact Fv hh
   ·exact ih.2 b hb
 |rd _ h _ ih=>
  refine⟨λb hb=> ?_,ih.2⟩;rcases Ag.1 hb with hb|hb
  ·exact h.inb b hb
  ·exact ih.1 b hb
structure AM where
 tag:Nat
 new:Option Value
 top:List Nat
 a6:Ah
def AM.pair(r:AM):Nat × Ah:=(r.tag,r.a6)
structure EJ(c c':Cx)(w':World)(recs:List AM):Prop where
 ρ:c'.ρ=c.ρ
 w:c'.w=w'
 G:∀r∈recs,c'.G r.tag=⟨r.top,[]⟩
 new:∀r∈recs,∀hv,r.new=some hv->c'.K r.tag 0/\(∀g,c'.K r.tag g->g<=0)/\c'.H r.tag 0=hv
 K:∀t g,c.K t g->c'.K t g/\c'.H t g=c.H t g
 old:∀t,c.U t-> ∀g,c'.K t g->c.K t g
 ia:∀r∈recs,r.new.isSome=true->c'.E r.tag=0
 fu:∀r∈recs,r.new=none->c'.E r.tag=c.E r.tag+1
theorem EJ.mono{c c':Cx}{w':World}{recs recs':List AM}(h:EJ c c' w' recs)(hs:∀r∈recs',r∈recs):EJ c c' w' recs':=
 ⟨h.ρ,h.w,λr hr=>h.G r (hs r hr),λr hr=>h.new r (hs r hr),h.K,h.old,λr hr=>h.ia r (hs r hr),λr hr=>h.fu r (hs r hr)⟩
section
variable {P:Program} {c:Cx} {w':World}
theorem zxr{c':Cx}{t:Nat}{u:Value}{el sz:Nat}{y:AV}{top N:List Nat}(h:CQ w' el sz u y top N)(hk:c'.K t 0)(hh:c'.H t 0=u):SR c' [.own t 0] [u]:=by
 obtain⟨xs,_,_,_,⟨_,⟨a,rfl⟩,_⟩|⟨g,cap,C,rfl,_⟩⟩:=h
 ·exact .own hk hh .nil
 ·exact .own hk hh .nil
theorem Oq{nx:Nat}{mk:Nat->E}{ts:List TypeId}{fl:List Bool}{us:List Value}{ys:List AV}{rf hs:List Nat}(h:Cs P w' ts fl us ys rf hs):∀(j:Nat),(∀i y,ys[i]?=some y->(mk (j+i)).den c.ρ=y)->
  ∃recs:List AM,(CI P nx mk j ts fl).2=recs.map AM.pair/\recs.flatMap AM.top=hs/\(∀r∈recs,nx+j<=r.tag/\r.tag<nx+j+ts.length/\r.new.isSome)/\(recs.map AM.tag).Nodup/\(∀r∈recs,r.new=us[r.tag-(nx+j)]?)/\
   ∀c',EJ c c' w' recs->(∀b∈rf,c'.ok b)->SR c' (CI P nx mk j ts fl).1 us/\ ∀r∈recs,C3 c' r.tag r.a6:=by
 induction h with
 |nil=>exact λj _=>⟨[],rfl,rfl,by simp,by simp,by simp,λc' _ _=>⟨.nil,by simp⟩⟩
 | @own t ts fl el u us y ys top N rf hs h1 h2 P3 h3 _ ih=>
  intro j FL;obtain⟨recs,e1,e2,e3,e4,e4',e5⟩:=ih (j+1) (λi y hy=>by rw[show j+1+i=j+(i+1)from by omega];exact FL (i+1) y (by simpa using hy));have hy:=FL 0 y rfl;have Xc:Ps P t el 0 0 (mk j)= .row el (P.cellsOf el) 0 (mk j) (B1 P el):=by
   unfold Ps;rcases P3 with⟨h,_⟩|⟨h,h'⟩
   ·rw[if_pos h,h]
   ·rw[if_neg (by rw[h];simp),h',h]
  simp only[CI,h1,h2,Xc];refine⟨⟨nx+j,some u,top, .row el (P.cellsOf el) 0 (mk j) (B1 P el)⟩::recs,by simp[e1,AM.pair],by simp[e2],λr hr=> ?_,?_,λr hr=> ?_,λc' ha AR=> ?_⟩
  ·rcases Ad.1 hr with rfl|hr
   ·simp
   ·have:=e3 r hr;simp only[Ao];exact⟨by omega,by omega,this.2.2⟩
  ·simp only[List.map_cons,List.nodup_cons];refine⟨λhm=> ?_,e4⟩;obtain⟨r,hr,GZ⟩:=List.mem_map.1 hm;have:=e3 r hr;omega
  ·rcases Ad.1 hr with rfl|hr
   ·simp
   ·rw[e4' r hr];have:=e3 r hr;rw[show r.tag-(nx+j)=(r.tag-(nx+(j+1)))+1 from by omega,List.getElem?_cons_succ]
  ·obtain⟨q1,q2⟩:=e5 c' (ha.mono λr hr=>by simp[hr]) λb hb=>AR b (by simp[hb]);obtain⟨k1,k2,k3⟩:=ha.new _ (List.mem_cons_self ..) u rfl;have kg:=ha.G _ (List.mem_cons_self ..);simp only at k1 k2 k3 kg;refine⟨(zxr h3 k1 k3).cons q1,λr hr=> ?_⟩;rcases Ad.1 hr with rfl|hr
   ·refine⟨k1,k2,N,?_,λb hb=>AR b (by simp[hb]),λhd=> ?_,λ_=>by rw[kg]⟩
    rotate_left
    ·rcases P3 with⟨_,h⟩|⟨h,_⟩
     ·subst h;exact⟨rfl,by rw[kg]⟩
     ·rw[h]at hd;cases hd
    rw[k3,kg,ha.w,ha.ρ];have Bo:(mk j).den c.ρ=y:=by simpa using hy
    rw[Bo];exact h3
   ·exact q2 r hr
 | @deep t ts fl el e z l u us y ys top rf hs h1 h2 P2 NM h3 _ ih=>
  intro j FL;obtain⟨recs,e1,e2,e3,e4,e4',e5⟩:=ih (j+1) (λi y hy=>by rw[show j+1+i=j+(i+1)from by omega];exact FL (i+1) y (by simpa using hy));have hy:=FL 0 y rfl;have Xc:Ps P t el 0 0 (mk j)= .deep e z l.toList 0 0 (mk j):=by unfold Ps;rw[if_neg (by rw[P2];simp),NM]
  simp only[CI,h1,h2,Xc];refine⟨⟨nx+j,some u,top, .deep e z l.toList 0 0 (mk j)⟩::recs,by simp[e1,AM.pair],by simp[e2],λr hr=> ?_,?_,λr hr=> ?_,λc' ha AR=> ?_⟩
  ·rcases Ad.1 hr with rfl|hr
   ·simp
   ·have:=e3 r hr;simp only[Ao];exact⟨by omega,by omega,this.2.2⟩
  ·simp only[List.map_cons,List.nodup_cons];refine⟨λhm=> ?_,e4⟩;obtain⟨r,hr,GZ⟩:=List.mem_map.1 hm;have:=e3 r hr;omega
  ·rcases Ad.1 hr with rfl|hr
   ·simp
   ·rw[e4' r hr];have:=e3 r hr;rw[show r.tag-(nx+j)=(r.tag-(nx+(j+1)))+1 from by omega,List.getElem?_cons_succ]
  ·obtain⟨q1,q2⟩:=e5 c' (ha.mono λr hr=>by simp[hr]) AR;obtain⟨k1,k2,k3⟩:=ha.new _ (List.mem_cons_self ..) u rfl;have kg:=ha.G _ (List.mem_cons_self ..);have ke:=ha.ia _ (List.mem_cons_self ..) rfl;simp only at k1 k2 k3 kg ke;obtain⟨p1,p2,p3,rfl⟩:=h3.head;refine⟨(SR.own k1 k3 .nil).cons q1,λr hr=> ?_⟩;rcases Ad.1 hr with rfl|hr
   ·refine⟨k1,k2,ke,?_,by rw[kg]⟩;have Bo:(mk j).den c.ρ=y:=by simpa using hy
    rw[k3,kg,ha.w,ha.ρ,Bo,AG.cj];exact h3
   ·exact q2 r hr
 | @rd t ts fl u us y ys f rf hs h1 h3 _ ih=>
  intro j FL;obtain⟨recs,e1,e2,e3,e4,e4',e5⟩:=ih (j+1) (λi y hy=>by rw[show j+1+i=j+(i+1)from by omega];exact FL (i+1) y (by simpa using hy));have hy:=FL 0 y rfl;have Wz:CI P nx mk j (t::ts) fl=(.e (mk j)::(CI P nx mk (j+1) ts fl.tail).1,(CI P nx mk (j+1) ts fl.tail).2):=by
   simp only[CI];split
   ·rename_i h8 h9;rw[h1 h8]at h9;cases h9
   ·rfl
  rw[Wz];refine⟨recs,e1,e2,λr hr=> ?_,e4,λr hr=> ?_,λc' ha AR=> ?_⟩
  ·have:=e3 r hr;simp only[Ao];exact⟨by omega,by omega,this.2.2⟩
  ·rw[e4' r hr];have:=e3 r hr;rw[show r.tag-(nx+j)=(r.tag-(nx+(j+1)))+1 from by omega,List.getElem?_cons_succ]
  ·obtain⟨q1,q2⟩:=e5 c' ha λb hb=>AR b (by simp[hb]);have Bo:(mk j).den c.ρ=y:=by simpa using hy
   exact⟨(SR.e (f:=f) (by rw[ha.w,ha.ρ,Bo];exact h3) (λb hb=>AR b (by simp[hb])) .nil).cons q1,q2⟩
theorem M1{nx:Nat}{mk:Nat->E}:∀(j:Nat) (ts:List TypeId) (fl:List Bool) (t:Nat) (e:Ah) {gs:Gd} {f:Ah},(t,e)∈(CI P nx mk j ts fl).2->e≠ .gd gs f
 |_,[],_,_,_,_,_,h=>by simp[CI]at h
 |j,u::ts,fl,t,e,gs,f,h=>by
  unfold CI at h;split at h
  ·rcases Ad.1 h with h|h
   ·cases h;unfold Ps;split
    ·simp
    ·split<;>simp
   ·exact M1 _ _ _ _ _ h
  ·exact M1 _ _ _ _ _ h
theorem RN{ρ:List AV}{x:E}{ys:List AV}(hx:x.den ρ= .agg ys):∀i y,ys[i]?=some y->(Dt x true (0+i)).den ρ=y:=by intro i y hy;simp[Dt,E.den,hx,AV.fld,AV.cells,hy]
theorem fK{nx:Nat}{t:TypeId}{fl:List Bool}{x:E}{v:Value}{y:AV}{rf hs:List Nat}(h:F0 P w' t fl v y rf hs)(hx:x.den c.ρ=y):
  ∃recs:List AM,(Nb P nx t fl x).2=recs.map AM.pair/\recs.flatMap AM.top=hs/\(∀r∈recs,nx<=r.tag/\r.tag<nx+(A5 P t).length/\r.new.isSome)/\(recs.map AM.tag).Nodup/\
   ∀c',EJ c c' w' recs->(∀b∈rf,c'.ok b)->SR c' [(Nb P nx t fl x).1] [v]/\ ∀r∈recs,C3 c' r.tag r.a6:=by
 unfold F0 at h;unfold Nb;split at h
 ·rename_i hf;simp only[hf,if_true];obtain⟨us,ys,hg,hc⟩:=h;split at hg
  ·rename_i Az;obtain⟨rfl,rfl,CA⟩:=hg;obtain⟨recs,e1,e2,e3,e4,_,e5⟩:=Oq (c:=c) (nx:=nx) (mk:=Dt x (An P t)) hc 0 (by rw[Az];exact RN hx);refine⟨recs,e1,e2,λr hr=>by have:=e3 r hr;exact⟨by omega,by omega,this.2.2⟩,e4,λc' ha AR=> ?_⟩;obtain⟨q1,q2⟩:=e5 c' ha AR;rw[if_pos Az];exact⟨.agg CA (by rw[Bp.ak];exact q1) .nil,q2⟩
  ·rename_i Az;obtain⟨rfl,rfl⟩:=hg;have Gj:An P t=false:=by simpa using Az
   obtain⟨recs,e1,e2,e3,e4,_,e5⟩:=Oq (c:=c) (nx:=nx) (mk:=Dt x (An P t)) hc 0 (by
    intro i z hz;cases i with
    |zero=>simp at hz;subst hz;simp[Dt,Gj,hx]
    |succ i=>simp at hz)
   refine⟨recs,e1,e2,λr hr=>by have:=e3 r hr;exact⟨by omega,by omega,this.2.2⟩,e4,λc' ha AR=> ?_⟩;obtain⟨q1,q2⟩:=e5 c' ha AR;refine⟨?_,q2⟩;rw[if_neg Az];have hl:=q1.len;generalize (CI P nx (Dt x (An P t)) 0 (A5 P t) fl).1=l at q1 hl
   match l,hl with
   | [s],_=>exact q1
 ·rename_i hf;simp only[hf,if_false,BX];obtain⟨h1,rfl⟩:=h;exact⟨[],rfl,rfl,by simp,by simp,λc' ha AR=>⟨.e (f:=rf) (by rw[ha.w,ha.ρ,hx];exact h1) AR .nil,by simp⟩⟩
theorem w5{ts:List TypeId}{fl:List Bool}{x:E}{vs:List Value}{ys:List AV}{rf hs:List Nat}(h:KR P w' ts fl vs ys rf hs):∀(nx i:Nat),(∀k y,ys[k]?=some y->(E.proj x (i+k)).den c.ρ=y)->
  ∃recs:List AM,(LA P nx ts fl x i).2=recs.map AM.pair/\recs.flatMap AM.top=hs/\(∀r∈recs,nx<=r.tag/\r.tag<nx+(ts.flatMap (A5 P)).length/\r.new.isSome)/\(recs.map AM.tag).Nodup/\
   ∀c',EJ c c' w' recs->(∀b∈rf,c'.ok b)->SR c' (LA P nx ts fl x i).1 vs/\ ∀r∈recs,C3 c' r.tag r.a6:=by
 induction h with
 |nil=>exact λnx i _=>⟨[],rfl,rfl,by simp,by simp,λc' _ _=>⟨.nil,by simp⟩⟩
 | @cons t ts fl v vs y ys f h rf hs h1 _ ih=>
  intro nx i hx;obtain⟨r1,a1,a2,a3,a4,a5⟩:=fK (c:=c) (nx:=nx) (x:= .proj x i) h1 (hx 0 y rfl);obtain⟨r2,b1,b2,b3,b4,b5⟩:=ih (nx+(A5 P t).length) (i+1) (λk z hz=>by rw[show i+1+k=i+(k+1)from by omega];exact hx (k+1) z (by simpa using hz));simp only[LA];refine⟨r1++r2,by simp[a1,b1],by simp[a2,b2],λr hr=> ?_,?_,λc' ha AR=> ?_⟩
  ·simp only[List.flatMap_cons,Ap];rcases Ag.1 hr with hr|hr
   ·have:=a3 r hr;exact⟨this.1,by omega,this.2.2⟩
   ·have:=b3 r hr;exact⟨by omega,by omega,this.2.2⟩
  ·rw[List.map_append,List.nodup_append];refine⟨a4,b4,λt1 QT t2 QU he=> ?_⟩;obtain⟨q1,F6,rfl⟩:=List.mem_map.1 QT;obtain⟨q2,FA,rfl⟩:=List.mem_map.1 QU;have:=a3 q1 F6;have:=b3 q2 FA;omega
  ·obtain⟨p1,p2⟩:=a5 c' (ha.mono λr hr=>by simp[hr]) λb hb=>AR b (by simp[hb]);obtain⟨q1,q2⟩:=b5 c' (ha.mono λr hr=>by simp[hr]) λb hb=>AR b (by simp[hb]);refine⟨p1.cons q1,λr hr=> ?_⟩;rcases Ag.1 hr with hr|hr
   ·exact p2 r hr
   ·exact q2 r hr
end
theorem RG{α:Type}{f:α->List Nat}:∀{l:List α},(l.flatMap f).Nodup->(∀a∈l,(f a).Nodup)/\ ∀(i j:Nat) (a b:α) (x:Nat),l[i]?=some a->l[j]?=some b->x∈f a->x∈f b->i=j
 | [],_=>⟨by simp,by simp⟩
 |a::l,h=>by
  rw[List.flatMap_cons,List.nodup_append]at h;obtain⟨h1,h2,h3⟩:=h;obtain⟨k1,k2⟩:=RG h2;refine⟨λb hb=> ?_,λi j p q x hi hj hp hq=> ?_⟩
  ·rcases Ad.1 hb with rfl|hb
   ·exact h1
   ·exact k1 b hb
  ·cases i with
   |zero=>
    cases j with
    |zero=>rfl
    |succ j=>simp at hi hj;subst hi;exact absurd rfl (h3 x hp x (List.mem_flatMap.2 ⟨q,List.mem_of_getElem? hj,hq⟩))
   |succ i=>
    cases j with
    |zero=>simp at hi hj;subst hj;exact absurd rfl (h3 x hq x (List.mem_flatMap.2 ⟨p,List.mem_of_getElem? hi,hp⟩))
    |succ j=>rw[k2 i j p q x (by simpa using hi) (by simpa using hj) hp hq]
theorem O4{recs:List AM}(hn:(recs.map AM.tag).Nodup){r:AM}(hr:r∈recs)(p:AM->Bool)(hp:p r=true)(Dx:∀q,p q=true->q.tag=r.tag):recs.find? p=some r:=by
 induction recs with
 |nil=>simp at hr
 |cons q recs ih=>
  simp only[List.map_cons,List.nodup_cons]at hn;rw[List.find?_cons];rcases Ad.1 hr with rfl|hr
  ·simp[hp]
  ·have:p q=false:=by
    cases hq:p q with
    |false=>rfl
    |true=>exact absurd (List.mem_map.2 ⟨r,hr,(Dx q hq).symm⟩) hn.1
   rw[this];exact ih hn.2 hr
def Cx.dc(c:Cx)(w':World)(recs:List AM):Cx:=
 {c with w:=w',G:=λt=>(match recs.find? (λr=>r.tag==t)with|some r=>⟨r.top,[]⟩|none=>c.G t),K:=λt g=>c.K t g\/ ∃r∈recs,r.tag=t/\r.new.isSome=true/\g=0,H:=λt g=>(match recs.find? (λr=>r.tag==t&&r.new.isSome)with|some r=>r.new.getD undef|none=>c.H t g),U:=λt=>c.U t\/ ∃r∈recs,r.tag=t,E:=λt=>match recs.find? (λr=>r.tag==t)with|some r=>if r.new.isSome then 0 else c.E t+1|none=>c.E t}
section
variable {P:Program} {c:Cx} {n:Nat} {sl:Nat->SV} {hp:Nat->Option Ah} {a:Act} {w':World} {recs:List AM}
theorem Cx.de(hn:(recs.map AM.tag).Nodup){r:AM}(hr:r∈recs):(c.dc w' recs).G r.tag=⟨r.top,[]⟩:=by simp only[Cx.dc];rw[O4 hn hr (λq=>q.tag==r.tag) (by simp) (λq hq=>by simpa using hq)]
theorem Cx.cy{t:Nat}(ht:∀r∈recs,r.tag≠t):(c.dc w' recs).G t=c.G t:=by
 simp only[Cx.dc];have:recs.find? (λr=>r.tag==t)=none:=by rw[List.find?_eq_none];intro r hr;simpa using ht r hr
 rw[this]
theorem Cx.c9(hU:∀t g,c.K t g->c.U t)(hn:(recs.map AM.tag).Nodup)(AZ:∀r∈recs,r.new.isSome=true-> ¬c.U r.tag):EJ c (c.dc w' recs) w' recs:=by
 refine⟨rfl,rfl,λr hr=>Cx.de hn hr,λr hr hv Th=>⟨.inr ⟨r,hr,rfl,by simp[Th],rfl⟩,λg hg=> ?_,?_⟩,λt g hk=>⟨.inl hk,?_⟩,λt ht g hk=> ?_,λr hr hs=> ?_,λr hr hs=> ?_⟩
 ·rcases hg with hg|⟨_,_,_,_,rfl⟩
  ·exact absurd (hU _ _ hg) (AZ r hr (by simp[Th]))
  ·exact Ay _
 ·simp only[Cx.dc];rw[O4 hn hr (λq=>q.tag==r.tag&&q.new.isSome) (by simp[Th]) (λq hq=>by simp only[Ae,Ax]at hq;exact hq.1)];simp[Th]
 ·simp only[Cx.dc];have:recs.find? (λr=>r.tag==t&&r.new.isSome)=none:=by
   rw[List.find?_eq_none];rintro r hr hh;simp only[Ae,Ax]at hh;exact AZ r hr hh.2 (hh.1▸hU t g hk)
  rw[this]
 ·rcases hk with hk|⟨r,hr,rfl,hh,_⟩
  ·exact hk
  ·exact absurd ht (AZ r hr hh)
 ·simp only[Cx.dc];rw[O4 hn hr (λq=>q.tag==r.tag) (by simp) (λq hq=>by simpa using hq)];simp[hs]
 ·simp only[Cx.dc];rw[O4 hn hr (λq=>q.tag==r.tag) (by simp) (λq hq=>by simpa using hq)];simp[hs]
theorem Cx.ij{t:Nat}(ht:∀r∈recs,r.tag≠t):(c.dc w' recs).E t=c.E t:=by
 simp only[Cx.dc];have:recs.find? (λr=>r.tag==t)=none:=by rw[List.find?_eq_none];intro r hr;simpa using ht r hr
 rw[this]
theorem Rel.changes(h:Rel c n sl hp a){hs:List Nat}{gs:Gd}(k:Bc c.ρ gs)(Cq:Mod hs c.w w')(hn:(recs.map AM.tag).Nodup)(AZ:∀r∈recs,r.new.isSome=true-> ¬c.U r.tag)
  (Gs:∀b∈hs,∃r∈recs,b∈(c.G r.tag).top) (En:(recs.flatMap AM.top).Nodup) (BS:∀r∈recs,∀b∈r.top,(b∈hs\/c.w.heap.size<=b)/\b<w'.heap.size)
  (BI:∀r∈recs,∀hs f,r.a6≠ .gd hs f) (Bk:DD c (c.dc w' recs)-> ∀r∈recs,C3 (c.dc w' recs) r.tag r.a6):
  Rel (c.dc w' recs) n sl (A8 hp (recs.map λr=>(r.tag,CC gs r.a6))) a/\DD c (c.dc w' recs):=by
 have aft:=Cx.c9 (w':=w') h.bc hn AZ;have dL:∀b∈hs,c.M b:=λb hb=>by obtain⟨r,_,hr⟩:=Gs b hb;exact⟨_,hr⟩
 have Br:∀b∈hs,c.B<=b\/c.Mu b:=λb hb=>by obtain⟨r,_,hr⟩:=Gs b hb;exact h.gw.allow r.tag b (by simp[GI.own,hr])
 have BQ:DD c (c.dc w' recs):=by
  refine⟨rfl,rfl,λb hb AR=>⟨λ⟨t,ht⟩=> ?_,AR.2⟩,λb hb AR=>Cq.block b hb λhh=>AR.1 (dL b hh),aft.K,λt g hk=> ?_⟩;by_cases hT:∃r∈recs,r.tag=t
  ·obtain⟨r,hr,rfl⟩:=hT;rw[Cx.de hn hr]at ht;rcases(BS r hr b ht).1 with hh|hh
   ·exact AR.1 (dL b hh)
   ·omega
  ·rw[Cx.cy λr hr hh=>hT ⟨r,hr,hh⟩]at ht;exact AR.1 ⟨t,ht⟩
  ·by_cases hT:∃r∈recs,r.tag=t
   ·obtain⟨r,hr,rfl⟩:=hT;have DL:r.new=none:=by
     cases hh:r.new with
     |none=>rfl
     |some v=>exact absurd (h.bc _ _ hk) (AZ r hr (by simp[hh]))
    rw[aft.fu r hr DL];exact⟨by omega,λh=>by omega⟩
   ·have cN:∀r∈recs,r.tag≠t:=λr hr hh=>hT ⟨r,hr,hh⟩;rw[Cx.ij cN,Cx.cy cN];refine⟨Ay _,λ_=>⟨rfl,λb hb F2=>Cq.block b F2 λhh=> ?_⟩⟩;obtain⟨r,hr,Qb⟩:=Gs b hh;exact h.gw.cc t r.tag (λhh=>hT ⟨r,hr,hh.symm⟩) b (by simp[GI.own,hb]) (by simp[GI.own,Qb])
 have Bk:=Bk BQ;have IM:∀r∈recs,∀e',(r.tag,e')∈(recs.map λr=>(r.tag,CC gs r.a6))->e'=CC gs r.a6:=by
  intro r hr e' Ey;obtain⟨q,hq,HX⟩:=List.mem_map.1 Ey;simp only[AO]at HX;obtain⟨h1,rfl⟩:=HX;have e1:=Cx.de (c:=c) (w':=w') hn hr;have:q=r:=by have f1:=O4 hn hr (λq=>q.tag==r.tag) (by simp) (λq hq=>by simpa using hq);have f2:=O4 hn hq (λp=>p.tag==r.tag) (by simp[h1]) (λp hp=>by rw[h1];simpa using hp);rw[f1]at f2;cases f2;rfl
  rw[this]
 refine⟨h.change (λt=> ∃r∈recs,r.tag=t) BQ ⟨Cq.os.trans h.base.os,Cq.tape.trans h.base.tape,Cq.output.trans h.base.output,Nat.le_trans h.base.size Cq.size,λt v Jm=>⟨.inl (h.base.pins t v Jm).1,λhk=> ?_⟩,λb hb FM=> ?_,h.base.pk,h.base.lo⟩
  (λt ht=>⟨Kz λe he=> ?_,Cx.cy λr hr hh=>ht ⟨r,hr,hh⟩,Cx.ij λr hr hh=>ht ⟨r,hr,hh⟩,λg hg=> ?_⟩) (λt ht b hb=>Cq.block b (h.gw.inb t b (by simp[GI.own,hb])) λhh=> ?_) (λt ht=> ?_) ⟨λt=> ?_,λt u Ll b hb BF=> ?_,λt b hb=> ?_,λt b hb=> ?_⟩ (λt g hk=> ?_) (λt e he=> ?_),BQ⟩
 ·have BH:=aft.old t (h.base.pins t v Jm).1 0 hk;rw[(aft.K t 0 BH).2];exact(h.base.pins t v Jm).2 BH
 ·refine(Cq.block b (Nat.lt_of_lt_of_le hb h.base.size) λhh=> ?_).trans (h.base.block b hb FM);rcases Br b hh with h1|h1
  ·exact absurd h1 (Nat.not_le.2 hb)
  ·exact FM h1
 ·obtain⟨q,hq,HX⟩:=List.mem_map.1 he;simp only[AO]at HX;exact ht ⟨q,hq,HX.1⟩
 ·rcases hg with hg|⟨r,hr,GZ,_⟩
  ·exact hg
  ·exact absurd ⟨r,hr,GZ⟩ ht
 ·obtain⟨r,hr,F2⟩:=Gs b hh;exact h.gw.cc t r.tag (λhh=>ht ⟨r,hr,hh.symm⟩) b (by simp[GI.own,hb]) (by simp[GI.own,F2])
 ·obtain⟨r,hr,rfl⟩:=ht;have DN:=ZT (hp:=hp) (l:=recs.map λr=>(r.tag,CC gs r.a6)) (List.mem_map.2 ⟨r,hr,rfl⟩) (IM r hr);rw[DN];refine⟨λe' QO=> ?_,λDL=> ?_⟩
  ·rw[(O5 k (BI r hr)).1 QO];exact Bk r hr
  ·exact absurd ((O5 k (BI r hr)).2 rfl) (DL r.a6)
 ·by_cases hT:∃r∈recs,r.tag=t
  ·obtain⟨r,hr,rfl⟩:=hT;rw[Cx.de hn hr];simpa[GI.own]using(RG En).1 r hr
  ·rw[Cx.cy λr hr hh=>hT ⟨r,hr,hh⟩];exact h.gw.nodup t
 ·by_cases hT:∃r∈recs,r.tag=t
  ·obtain⟨r,hr,rfl⟩:=hT;rw[Cx.de hn hr]at hb;simp only[GI.own,AJ]at hb;by_cases hV:∃r∈recs,r.tag=u
   ·obtain⟨q,hq,rfl⟩:=hV;rw[Cx.de hn hq]at BF;simp only[GI.own,AJ]at BF;obtain⟨i,hi⟩:=List.getElem?_of_mem hr;obtain⟨j,hj⟩:=List.getElem?_of_mem hq;have:=(RG En).2 i j r q b hi hj hb BF;subst this;rw[hi]at hj;cases hj;exact Ll rfl
   ·rw[Cx.cy λr hr hh=>hV ⟨r,hr,hh⟩]at BF;rcases(BS r hr b hb).1 with hh|hh
    ·obtain⟨q,hq,pM⟩:=Gs b hh;exact h.gw.cc q.tag u (λhh=>hV ⟨q,hq,hh⟩) b (by simp[GI.own,pM]) BF
    ·have:=h.gw.inb u b BF;omega
  ·rw[Cx.cy λr hr hh=>hT ⟨r,hr,hh⟩]at hb;by_cases hV:∃r∈recs,r.tag=u
   ·obtain⟨q,hq,rfl⟩:=hV;rw[Cx.de hn hq]at BF;simp only[GI.own,AJ]at BF;rcases(BS q hq b BF).1 with hh|hh
    ·obtain⟨r,hr,S0⟩:=Gs b hh;exact h.gw.cc r.tag t (λhh=>hT ⟨r,hr,hh⟩) b (by simp[GI.own,S0]) hb
    ·have:=h.gw.inb t b hb;omega
   ·rw[Cx.cy λr hr hh=>hV ⟨r,hr,hh⟩]at BF;exact h.gw.cc t u Ll b hb BF
 ·by_cases hT:∃r∈recs,r.tag=t
  ·obtain⟨r,hr,rfl⟩:=hT;rw[Cx.de hn hr]at hb;simp only[GI.own,AJ]at hb;rcases(BS r hr b hb).1 with hh|hh
   ·exact Br b hh
   ·exact .inl (Nat.le_trans h.base.size hh)
  ·rw[Cx.cy λr hr hh=>hT ⟨r,hr,hh⟩]at hb;exact h.gw.allow t b hb
 ·by_cases hT:∃r∈recs,r.tag=t
  ·obtain⟨r,hr,rfl⟩:=hT;rw[Cx.de hn hr]at hb;simp only[GI.own,AJ]at hb;exact(BS r hr b hb).2
  ·rw[Cx.cy λr hr hh=>hT ⟨r,hr,hh⟩]at hb;exact Nat.lt_of_lt_of_le (h.gw.inb t b hb) Cq.size
 ·rcases hk with hk|⟨r,hr,GZ,_⟩
  ·exact .inl (h.bc t g hk)
  ·exact .inr ⟨r,hr,GZ⟩
 ·by_cases hT:∃r∈recs,r.tag=t
  ·exact .inr hT
  ·rw[Kz]at he
   ·exact .inl (h.cg t e he)
   ·intro e' Ey;obtain⟨q,hq,HX⟩:=List.mem_map.1 Ey;simp only[AO]at HX;exact hT ⟨q,hq,HX.1⟩
end
def bZ(P:Program)(w:World)(t:TypeId):PM->Value->AV->List Nat->List Nat->Prop
 | .ro,v,x,rf,hs=>Rd w [v] [x] rf/\hs=[]
 | .va own,v,x,rf,hs=>Ny P w t own v x rf hs
 | .mu own,v,x,rf,hs=>Ny P w t own v x rf hs
 | .bx own _,v,x,rf,hs=> ∃(ty:TypeId) (b:Nat) (C:Array Value) (ys:List AV) (h:List Nat),JO P t=some ty/\v= .pointer (some ⟨b,0,none⟩)/\w.heap[b]?=some (.cells C ty (0,0))/\(∀u∈C.toList,u.oneCell'=true)/\x= .ref (.agg ys)/\
   Cs P w (A5 P ty) own C.toList ys rf h/\hs=b::h
inductive Dr(P:Program)(w:World):List TypeId->List PM->List Bool->List Value->List AV->List Nat->List Nat->List Nat->Prop where
 |nil {ms lo}:Dr P w [] ms lo [] [] [] [] []
 |cons {t ts ms lo v vs x xs f h rf lf hs}:bZ P w t (ms.headD .ro) v x f h->Dr P w ts ms.tail lo.tail vs xs rf lf hs->Dr P w (t::ts) ms lo (v::vs) (x::xs) (f++rf) lf (h++hs)
 |lent {t ts ms lo v vs x xs f rf lf hs}:lo.headD false=true->ms.headD .ro= .ro->Rd w [v] [x] f->Dr P w ts ms.tail lo.tail vs xs rf lf hs->Dr P w (t::ts) ms lo (v::vs) (x::xs) rf (f++lf) hs
 |free {ms lo v vs x xs f rf lf hs}:Rd w [v] [x] f->Dr P w [] ms.tail lo.tail vs xs rf lf hs->Dr P w [] ms lo (v::vs) (x::xs) (f++rf) lf hs
inductive Gc(P:Program)(c:Cx):List TypeId->List Bool->List Value->List (Option RI)->Prop where
 |nil {fl}:Gc P c [] fl [] []
 |row {t ts fl v vs u g el rs}:fl.headD false=true->Da P t=some el->(B1 P el=true\/DF P t=none)->c.K u g->c.H u g=v->(∀g',c.K u g'->g'<=g)->Gc P c ts fl.tail vs rs->Gc P c (t::ts) fl (v::vs) (some (.fl u g el (P.cellsOf el) (B1 P el))::rs)
 |deep {t ts fl v vs u g el e z l ep rs}:fl.headD false=true->Da P t=some el->B1 P el=false->DF P t=some (.row e z (AG.of l))->c.K u g->c.H u g=v->(∀g',c.K u g'->g'<=g)->c.E u=ep->Gc P c ts fl.tail vs rs->Gc P c (t::ts) fl (v::vs) (some (.dp u g e z l ep)::rs)
 |none {t ts fl v vs rs}:(fl.headD false=true->Da P t=none\/ ∃a,v= .slice a 0 0)->Gc P c ts fl.tail vs rs->Gc P c (t::ts) fl (v::vs) (none::rs)
inductive H6(P:Program)(c:Cx):List TypeId->List PM->List Value->List PA->Prop where
 |nil {ts ms}:H6 P c ts ms [] []
 |ro {ts ms v vs bs}:ms.headD .ro= .ro->H6 P c ts.tail ms.tail vs bs->H6 P c ts ms (v::vs) bs
 |va {ts ms own v vs bs us}:ms.headD .ro= .va own->(∀u∈us,c.U u)->H6 P c ts.tail ms.tail vs bs->H6 P c ts ms (v::vs) (.va us::bs)
 |mu {t ts ms own v vs bs us rs}:ms.headD .ro= .mu own->(if An P t then v= .agg us.toArray else us=[v])->Gc P c (A5 P t) own us rs->H6 P c ts ms.tail vs bs->H6 P c (t::ts) ms (v::vs) (.mu rs (An P t)::bs)
 |bx {t ts ms own own' ty v vs bs T b g olds}:ms.headD .ro= .bx own own'->JO P t=some ty->v= .pointer (some ⟨b,0,none⟩)->c.K T 0->c.H T 0=v->(∀u∈olds,c.U u)->H6 P c ts ms.tail vs bs->H6 P c (t::ts) ms (v::vs) (.box T g own' ty olds::bs)
section
variable {P:Program} {c:Cx} {hp:Nat->Option Ah} {gs:Gd}
theorem RY{t el:TypeId}{d:DT}(Ba:Da P t=some el)(h:DF P t=some d):P.cellsOf el≠0/\(A5 P el).length=P.cellsOf el/\ ∃l:List DT,d= .row el (P.cellsOf el) (AG.of l)/\l.length=P.cellsOf el:=by
 have hu:P.underlying t=some (.slice el):=by
  unfold Da at Ba;split at Ba
  ·simp at Ba;subst Ba;assumption
  ·cases Ba
  ·rename_i hu;unfold DF at h;split at h
   ·cases h
   ·simp[SO,hu]at h
 unfold DF at h;split at h
 ·cases h
 simp only[SO,hu]at h;split at h
 ·cases h
 ·rename_i hh;simp only[not_or,Decidable.not_not,ne_eq]at hh;obtain⟨l,hl,rfl⟩:=Aq.1 h;exact⟨hh.1,hh.2,l,rfl,by rw[mapM_len _ _ hl];exact hh.2⟩
where
 mapM_len {α β:Type} {f:α->Option β}:∀(l:List α) (l':List β),l.mapM f=some l'->l'.length=l.length
  | [],l',h=>by simp at h;subst h;rfl
  |a::l,l',h=>by simp only[List.mapM_cons,Option.bind_eq_bind,As,Option.pure_def,Af]at h;obtain⟨b,_,bs,Mj,rfl⟩:=h;simp[mapM_len l bs Mj]
theorem Cs.void{w:World}{t el:TypeId}{ts:List TypeId}{fl:List Bool}{a:Option Addr}{us:List Value}{ys:List AV}{rf hs:List Nat}(h1:fl.headD false=true)(h2:Da P t=some el)(hz:P.cellsOf el≠0)(h:Cs P w ts fl.tail us ys rf hs):Cs P w (t::ts) fl (.slice a 0 0::us) (.sl []::ys) rf ([]++hs):=by
 have Br:CQ w el (P.cellsOf el) (.slice a 0 0) (.sl []) [] []:=⟨[],rfl,by simp,by omega, .inl ⟨rfl,⟨a,rfl⟩,rfl,rfl⟩⟩
 cases hf:B1 P el with
 |true=>exact .own h1 h2 (.inl ⟨hf,rfl⟩) Br h
 |false=>
  cases hd:DF P t with
  |none=>exact .own h1 h2 (.inr ⟨hf,hd⟩) Br h
  |some d=>obtain⟨_,_,l,rfl,hl⟩:=RY h2 hd;exact .deep h1 h2 hf hd (.void (by omega) (by rw[AG.ak];exact hl) .nil) h
theorem gJ{as_ bs:List Value}(h:Value.agg as_.toArray= .agg bs.toArray):as_=bs:=by
 have h1:as_.toArray=bs.toArray:=by injection h
 have:=congrArg Array.toList h1;simpa using this
theorem YH(eh:EH c hp)(k:Bc c.ρ gs)(hU:∀t g,c.K t g->c.U t):∀(ts:List TypeId) {cs:List SV} {fl:List Bool} {rs:List (Option RI)} {us:List Nat} {vs:List Value} {xs:EL} {m:Nat},GA P hp gs ts cs fl=some (rs,us)->SR c cs vs->Cm hp gs m cs=some xs->m<=AW->
  ∃rf hs,Cs P c.w ts fl vs (xs.den c.ρ) rf hs/\(∀b∈rf,c.dq us b)/\hs=(CB rs).flatMap (λt=>(c.G t).top)/\Gc P c ts fl vs rs/\ ∀u∈CB rs,c.U u
 | [],[],fl,rs,us,vs,xs,m,h,hs,hx,hm=>by
  simp[GA]at h;obtain⟨rfl,rfl⟩:=h;cases hs;cases m with
  |zero=>simp[Cm]at hx
  |succ m=>simp[Cm]at hx;subst hx;exact⟨[],[], .nil,by simp,by simp[CB], .nil,by simp[CB]⟩
 | [],s::cs,fl,rs,us,vs,xs,m,h,hs,hx,hm=>by simp[GA]at h
 |t::ts,[],fl,rs,us,vs,xs,m,h,hs,hx,hm=>by simp[GA]at h
 |t::ts,s::cs,fl,rs,us,[],xs,m,h,hs,hx,hm=>by have:=hs.len;simp at this
 |t::ts,s::cs,fl,rs,us,v::vs,xs,m,h,hs,hx,hm=>by
  obtain⟨j,y,ys,rfl,hy,CX,rfl⟩:=Jw hx;obtain⟨r1,r2⟩:=hs.bu;unfold GA at h;split at h
  ·cases h
  rename_i rs' us' CW;obtain⟨rf,Bd,q1,q2,q3,q4,q5⟩:=YH eh k hU ts CW r2 CX (by omega);split at h
  ·rename_i hf;split at h
   ·rename_i r hr;simp only[Af,AO]at h;obtain⟨rfl,rfl⟩:=h;unfold ZS at hr;split at hr
    ·cases hr
    rename_i el Ba;split at hr
    ·cases hr
    rename_i hz;have empt:∀a,v= .slice a 0 0->y.den c.ρ= .sl []->r=none-> ∃rf hs,Cs P c.w (t::ts) fl (v::vs) ((EL.cons y ys).den c.ρ) rf hs/\(∀b∈rf,c.dq us' b)/\hs=(CB (r::rs')).flatMap (λt=>(c.G t).top)/\Gc P c (t::ts) fl (v::vs) (r::rs')/\ ∀u∈CB (r::rs'),c.U u:=by rintro a rfl G3 rfl;refine⟨rf,[]++Bd,?_,q2,by simpa[CB]using q3, .none (λ_=> .inr ⟨a,rfl⟩) q4,by simpa[CB]using q5⟩;rw[EL.den,G3];exact Cs.void hf Ba (by omega) q1
    split at hr
    ·simp only[Af]at hr;subst hr;cases r1 with
     |bq _=>exact empt _ rfl (by rw[Kw hy];rfl) rfl
    ·simp only[Af]at hr;subst hr;cases r1 with
     |emp _=>
      refine empt _ rfl ?_ rfl;cases j with
      |zero=>simp[Bj]at hy
      |succ j=>simp[Bj]at hy;subst hy;rfl
    ·rename_i u g;split at hr
     ·rename_i e z g' x d hl;split at hr
      ·rename_i hh;obtain⟨rfl,rfl,rfl,Gn⟩:=hh;simp only[Af]at hr;subst hr;obtain⟨p1,p2,N,p3,p4,p5,_⟩:=eh u _ (Cv hl k);have Mr:B1 P e=true\/DF P t=none:=Gn.imp (·.1) (by rintro⟨_,h⟩;simpa using h);have Gn:B1 P e=true/\N=[]\/B1 P e=false/\DF P t=none:=by
        rcases Gn with⟨h1,h2⟩|⟨h1,h2⟩
        ·exact .inl ⟨h1,(p5 h2).1⟩
        ·exact .inr ⟨h1,by simpa using h2⟩
       have HC:y=x:=by
        cases j with
        |zero=>simp[Bj]at hy
        |succ j=>simp[Bj,HE,hl]at hy;exact hy.symm
       subst HC;have hv:c.H u g=v:=by
        cases r1 with
        |own _ k2 _=>exact k2
       rw[hv]at p3;refine⟨N++rf,(c.G u).top++Bd,Cs.own hf Ba Gn p3 q1,λb hb=> ?_,by simp[CB,RI.tag,q3], .row hf Ba Mr p1 hv p2 q4,λw hw=> ?_⟩
       ·rcases Ag.1 hb with hb|hb
        ·exact .inl (p4 b hb)
        ·exact q2 b hb
       simp only[CB,List.filterMap_cons,Option.map_some,RI.tag,Ad]at hw;rcases hw with rfl|hw
       ·exact hU _ _ p1
       ·exact q5 w hw
      ·cases hr
     ·rename_i e z l g' ep x hl;split at hr
      ·rename_i hh;obtain⟨rfl,FP,Dk⟩:=hh;have Dk:=U5 Dk;simp only[Af]at hr;subst hr;obtain⟨p1,p2,pE,p3,_⟩:=eh u _ (Cv hl k);have HC:y=x:=by
        cases j with
        |zero=>simp[Bj]at hy
        |succ j=>simp[Bj,HE,hl]at hy;exact hy.symm
       subst HC;have hv:c.H u g=v:=by
        cases r1 with
        |own _ k2 _=>exact k2
       rw[hv]at p3;refine⟨rf,(c.G u).top++Bd,Cs.deep hf Ba FP Dk p3 q1,q2,by simp[CB,RI.tag,q3], .deep hf Ba FP Dk p1 hv p2 pE q4,λw hw=> ?_⟩;simp only[CB,List.filterMap_cons,Option.map_some,RI.tag,Ad]at hw;rcases hw with rfl|hw
       ·exact hU _ _ p1
       ·exact q5 w hw
      ·cases hr
     ·cases hr
    ·cases hr
   ·cases h
  ·rename_i hf;simp only[Af,AO]at h;obtain⟨rfl,rfl⟩:=h;obtain⟨f,p1,p2⟩:=Hd eh k j hy r1 AW (by omega);refine⟨f++rf,Bd,Cs.rd (λhh=>absurd hh hf) p1 q1,λb hb=> ?_,by simpa[CB]using q3, .none (λhh=>absurd hh hf) q4,by simpa[CB]using q5⟩;rcases Ag.1 hb with hb|hb
   ·exact(p2 b hb).mono λt ht=>by simp[ht]
   ·exact(q2 b hb).mono λt ht=>by simp[ht]
theorem gH(eh:EH c hp)(k:Bc c.ρ gs)(hU:∀t g,c.K t g->c.U t){t:TypeId}{s:SV}{v:Value}{fl:List Bool}{rs:List (Option RI)}{us:List Nat}{x:E}(hs:SR c [s] [v])(hx:Bj hp gs AW s=some x)(hg:(G9 s).2=An P t)
  (h:GA P hp gs (A5 P t) (G9 s).1 fl=some (rs,us)):
  ∃rf hs,Ny P c.w t fl v (x.den c.ρ) rf hs/\(∀b∈rf,c.dq us b)/\hs=(CB rs).flatMap (λt=>(c.G t).top)/\(∃vs',(if An P t then v= .agg vs'.toArray else vs'=[v])/\Gc P c (A5 P t) fl vs' rs)/\ ∀u∈CB rs,c.U u:=by
 have single:∀(s:SV),SR c [s] [v]->Bj hp gs AW s=some x->An P t=false->GA P hp gs (A5 P t) [s] fl=some (rs,us)-> ∃rf hs,Ny P c.w t fl v (x.den c.ρ) rf hs/\(∀b∈rf,c.dq us b)/\hs=(CB rs).flatMap (λt=>(c.G t).top)/\(∃vs',(if An P t then v= .agg vs'.toArray else vs'=[v])/\Gc P c (A5 P t) fl vs' rs)/\ ∀u∈CB rs,c.U u:=by
  intro s hs hx Az h;obtain⟨t0,Lk⟩:∃t0,A5 P t=[t0]:=by
   cases hh:A5 P t with
   |nil=>rw[hh]at h;simp[GA]at h
   |cons t0 l=>
    cases l with
    |nil=>exact⟨t0,rfl⟩
    |cons t1 l=>rw[hh]at h;simp[GA]at h
  rw[Lk]at h;have key:∃rf hs,Cs P c.w [t0] fl [v] [x.den c.ρ] rf hs/\(∀b∈rf,c.dq us b)/\hs=(CB rs).flatMap (λt=>(c.G t).top)/\Gc P c [t0] fl [v] rs/\ ∀u∈CB rs,c.U u:=by
   unfold GA at h;simp only[GA]at h;split at h
   ·rename_i hf;split at h
    ·rename_i r hr;simp only[Af,AO]at h;obtain⟨rfl,rfl⟩:=h;unfold ZS at hr;split at hr
     ·cases hr
     rename_i el Ba;split at hr
     ·cases hr
     rename_i hz;have empt:∀a,v= .slice a 0 0->x.den c.ρ= .sl []->r=none-> ∃rf hs,Cs P c.w [t0] fl [v] [x.den c.ρ] rf hs/\(∀b∈rf,c.dq ([]:List Nat) b)/\hs=(CB [r]).flatMap (λt=>(c.G t).top)/\Gc P c [t0] fl [v] [r]/\ ∀u∈CB [r],c.U u:=by rintro a rfl G3 rfl;refine⟨[],[]++ [],?_,by simp,by simp[CB], .none (λ_=> .inr ⟨a,rfl⟩) .nil,by simp[CB]⟩;rw[G3];exact Cs.void hf Ba (by omega) .nil
     split at hr
     ·simp only[Af]at hr;subst hr;cases hs with
      |bq _=>exact empt _ rfl (by rw[Kw hx];rfl) rfl
     ·simp only[Af]at hr;subst hr;cases hs with
      |emp _=>refine empt _ rfl ?_ rfl;simp[AW,Bj]at hx;subst hx;rfl
     ·rename_i u g;split at hr
      ·rename_i e z g' x0 d hl;split at hr
       ·rename_i hh;obtain⟨rfl,rfl,rfl,Gn⟩:=hh;simp only[Af]at hr;subst hr;obtain⟨p1,p2,N,p3,p4,p5,_⟩:=eh u _ (Cv hl k);have Mr:B1 P e=true\/DF P t0=none:=Gn.imp (·.1) (by rintro⟨_,h⟩;simpa using h);have Gn:B1 P e=true/\N=[]\/B1 P e=false/\DF P t0=none:=by
         rcases Gn with⟨h1,h2⟩|⟨h1,h2⟩
         ·exact .inl ⟨h1,(p5 h2).1⟩
         ·exact .inr ⟨h1,by simpa using h2⟩
        have HC:x=x0:=by simp[AW,Bj,HE,hl]at hx;exact hx.symm
        subst HC;have hv:c.H u g=v:=by
         cases hs with
         |own _ k2 _=>exact k2
        rw[hv]at p3;refine⟨N++ [],(c.G u).top++ [],Cs.own hf Ba Gn p3 .nil,λb hb=> .inl (p4 b (by simpa using hb)),by simp[CB,RI.tag], .row hf Ba Mr p1 hv p2 .nil,λw hw=> ?_⟩;simp only[CB,List.filterMap_cons,Option.map_some,RI.tag,List.filterMap_nil,Ad,List.not_mem_nil,or_false]at hw;subst hw;exact hU _ _ p1
       ·cases hr
      ·rename_i e z l g' ep x0 hl;split at hr
       ·rename_i hh;obtain⟨rfl,FP,Dk⟩:=hh;have Dk:=U5 Dk;simp only[Af]at hr;subst hr;obtain⟨p1,p2,pE,p3,_⟩:=eh u _ (Cv hl k);have HC:x=x0:=by
         simp[AW,Bj,HE,hl]at hx;exact hx.symm
        subst HC;have hv:c.H u g=v:=by
         cases hs with
         |own _ k2 _=>exact k2
        rw[hv]at p3;refine⟨[],(c.G u).top++ [],Cs.deep hf Ba FP Dk p3 .nil,by simp,by simp[CB,RI.tag], .deep hf Ba FP Dk p1 hv p2 pE .nil,λw hw=> ?_⟩;simp only[CB,List.filterMap_cons,Option.map_some,RI.tag,List.filterMap_nil,Ad,List.not_mem_nil,or_false]at hw;subst hw;exact hU _ _ p1
       ·cases hr
      ·cases hr
     ·cases hr
    ·cases h
   ·rename_i hf;simp only[Af,AO]at h;obtain⟨rfl,rfl⟩:=h;obtain⟨f,p1,p2⟩:=Hd eh k AW hx hs AW (Ay _);refine⟨f++ [],[],Cs.rd (λhh=>absurd hh hf) p1 .nil,λb hb=> ?_,by simp[CB], .none (λhh=>absurd hh hf) .nil,by simp[CB]⟩;rw[AJ]at hb;exact(p2 b hb).mono λt ht=>by simp[ht]
  obtain⟨rf,Bd,q1,q2,q3,q4,q5⟩:=key;refine⟨rf,Bd,⟨[v],[x.den c.ρ],?_,by rw[Lk];exact q1⟩,q2,q3,⟨[v],?_,by rw[Lk];exact q4⟩,q5⟩
  ·rw[if_neg (by rw[Az];simp)];exact⟨rfl,rfl⟩
  ·rw[if_neg (by rw[Az];simp)]
 cases s with
 |agg cs=>
  simp only[G9]at hg h;obtain⟨m,l,hm,hl,rfl⟩:=RW hx;cases hs with
  |agg h9 h1 h8=>
   rename_i as_;have EZ:m<=AW:=by simp only[AW]at hm ⊢;omega
   obtain⟨rf,Bd,q1,q2,q3,q4,q5⟩:=YH (P:=P) eh k hU (A5 P t) h h1 hl EZ;refine⟨rf,Bd,⟨as_,l.den c.ρ,?_,q1⟩,q2,q3,⟨as_,?_,q4⟩,q5⟩
   ·rw[if_pos hg.symm];exact⟨rfl,rfl,h9⟩
   ·rw[if_pos hg.symm]
 |_=>exact single _ hs hx hg.symm h
end
end
end Go.Proofs.YtkpifpljpoochaaGreatDoor
