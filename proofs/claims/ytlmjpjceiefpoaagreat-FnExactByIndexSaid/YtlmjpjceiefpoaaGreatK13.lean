/- Parts of a proof, joined: NTB, NTC, NBX. -/
import Derived.Test.YtlmjpjceiefpoaaGreatK12
set_option linter.unusedVariables false
set_option linter.unusedSimpArgs false
namespace Go.Proofs.YtlmjpjceiefpoaaGreat
open Go.RowKit
section
set_option maxRecDepth 100000
set_option maxHeartbeats 1000000
set_option maxHeartbeats 2000000
theorem kJ{c:UInt8}{s x y:Ah}{r:List Ah}(h:Dj c s=x::y::r):∃q,s=x++c::q/\(∀b∈x,b≠c)/\Dj c q=y::r:=by
 rcases X1 s c with⟨_,h0⟩|⟨p,q,rfl,hp,_⟩
 ·rw[QV h0]at h;simp at h
 ·rw[Nj hp]at h;obtain⟨e1,h2⟩:=List.cons.inj h;rw[e1]at hp ⊢;exact⟨q,rfl,hp,h2⟩
theorem zsz{c:UInt8}{s z:Ah}(h:Dj c s=[z]):s=z:=by
 rcases X1 s c with⟨_,h0⟩|⟨p,q,rfl,hp,_⟩
 ·rw[QV h0]at h;exact(List.cons.inj h).1
 ·rw[Nj hp]at h;exact absurd (List.cons.inj h).2 (kZ c q)
def CY(k:Ah):Ah × Ah:=match Dj 47 k with
 | [_,y,z]=>(y,z)
 |_=>([],[])
theorem zrR{t:An}{n k:Ah}(he:Em t n k=true):∃y z,Dj 47 k=[head t n,y,z]/\field y=true/\field z=true:=by
 unfold Em at he;split at he
 ·rename_i x y z hs;simp only[Ac,Az]at he;exact⟨y,z,by rw[hs,he.1.1],he.1.2,he.2⟩
 ·cases he
theorem zNY{t:An}{n k:Ah}(ht:t.ae.length<=2000000)(hn:n.length<=2000000)(hk:k.length<=1000000)(he:Em t n k=true):QE t n k=some ((CY k).1,(CY k).2,true):=by
 obtain⟨y,z,hs,hy,hz⟩:=zrR he;have JN:=zx0 (c:=47) hk;rw[hs]at JN;have ly:=JN.each y (by simp);have lz:=JN.each z (by simp);have e:TU k 47=some (Dj 47 k):=zFE (c:=47) (by omega);have ep:CY k=(y,z):=by unfold CY;rw[hs]
 unfold QE;rw[e,Aa,hs,ep,if_neg (by simp),show Ak [head t n,y,z] 0=some (head t n)from rfl,Aa,AJ (by rw[AO];omega),AJ (by rw[Aq,AO];omega),show(t.ae++ [46]++n)=head t n from rfl,if_neg (by simp),show Ak [head t n,y,z] 1=some y from rfl,Aa,YJ ly,Aa,hy,if_pos rfl,show Ak [head t n,y,z] 2=some z from rfl,Aa,YJ lz,Aa,hz,if_neg (by simp)]
theorem zOW{t:An}{n k:Ah}(ht:t.ae.length<=2000000)(hn:n.length<=2000000)(hk:k.length<=1000000)(he:Em t n k=true):Qw t n k=some ((CY k).1,(CY k).2,true):=by
 obtain⟨y,z,hs,hy,hz⟩:=zrR he;obtain⟨q,hq,_,Ba⟩:=kJ hs;obtain⟨q2,FT,hy2,FY⟩:=kJ Ba;rw[zsz FY]at FT;have ep:CY k=(y,z):=by unfold CY;rw[hs]
 have LJ:(head t n++ [47])++q=k:=by rw[hq];simp
 have hp:(head t n++ [47]).isPrefixOf k=true:=List.isPrefixOf_iff_prefix.2 ⟨q,LJ⟩;have hd:k.drop (head t n++ [47]).length=q:=by rw[<-LJ,List.drop_left]
 have lq:q.length<=1000000:=by have:=congrArg List.length LJ;rw[Aq]at this;omega
 have ly:y.length<=1000000/\z.length<=1000000:=by have:=congrArg List.length FT;rw[Aq,AE]at this;omega
 rw[ep];unfold Qw;rw[sG ht hn,Aa,zQb (by omega),Aa,if_pos hp];dsimp only;rw[hd];rcases tP (x:=q) (c:=47) (by omega)with⟨_,h0⟩|⟨p,q',e1,Rx,e2⟩
 ·rw[FT]at h0;exact absurd rfl (h0 47 (by simp))
 ·have e3:Dj 47 q=p::Dj 47 q':=by rw[e1,Nj Rx]
  rw[Ba]at e3;obtain⟨e6,e4⟩:=List.cons.inj e3;have e5:q'=z:=zsz e4.symm;rw[e2,Aa];dsimp only;rw[e5,<-e6,if_pos rfl,if_pos rfl,Uq (s:=y) (by omega),Aa,hy,if_pos rfl,Uq (s:=z) (by omega),Aa,hz,if_neg (by simp)]
theorem qG{t:An}{n k:Ah}(he:Em t n k=true):k=head t n++47::((CY k).1++47::(CY k).2):=by
 obtain⟨y,z,hs,_,_⟩:=zrR he;obtain⟨q,hq,_,Ba⟩:=kJ hs;obtain⟨q2,FT,_,FY⟩:=kJ Ba;have e3:=zsz FY;have ep:CY k=(y,z):=by unfold CY;rw[hs]
 rw[ep,<-e3,<-FT];exact hq
def U3(t:An)(n v:Ah)(l:List Ai):List Ah:=((Jg t n l).filter λk=>(CY k).1==v).map λk=>(CY k).2
theorem zAO{t:An}{n:Ah}{l:List Ai}(h:Gp l):(Jg t n l).Nodup:=by unfold Jg;have h1:(l.filter λw=>Em t n w.ab).Pairwise λa b=>bl a.ab b.ab=true:=List.Pairwise.filter _ h;refine List.Pairwise.map _ (λa b KK=> ?_) h1;exact Hh KK
theorem zJG{t:An}{n v:Ah}{l:List Ai}(h:Gp l)(hE:∀k∈Jg t n l,Em t n k=true):(U3 t n v l).Nodup:=by
 unfold U3;have h1:((Jg t n l).filter λk=>(CY k).1==v).Nodup:=(zAO h).filter _;have aux:∀L:List Ah,L.Nodup->(∀k∈L,Em t n k=true/\(CY k).1=v)->(L.map λk=>(CY k).2).Nodup:=by
  intro L
  induction L with
  |nil=>intro _ _;simp
  |cons x L ih=>
   intro hn hL;obtain⟨g1,g2⟩:=List.nodup_cons.1 hn;rw[List.map_cons,List.nodup_cons];refine⟨λhm=> ?_,ih g2 λk hk=>hL k (by simp[hk])⟩;obtain⟨y,hy,e⟩:=List.mem_map.1 hm;have ey:=hL y (by simp[hy]);have ex:=hL x (by simp);have Gg:x=y:=by rw[qG ex.1,qG ey.1,ex.2,ey.2,e]
   exact g1 (Gg▸hy)
 exact aux _ h1 λk hk=>by obtain⟨m1,m2⟩:=List.mem_filter.1 hk;exact⟨hE k m1,by simpa using m2⟩
theorem zIL{xs:List Ah}(h:xs.Nodup):HU (Gq xs):=by
 have h1:=zu2 xs;have h2:(Gq xs).Nodup:=(kR xs).nodup_iff.2 h;have:∀L:List Ah,L.Pairwise Qc->L.Nodup->HU L:=by
  intro L
  induction L with
  |nil=>intro _ _;exact List.Pairwise.nil
  |cons x L ih=>intro p q;obtain⟨p1,p2⟩:=List.pairwise_cons.1 p;obtain⟨q1,q2⟩:=List.nodup_cons.1 q;refine List.pairwise_cons.2 ⟨λy hy=> ?_,ih p2 q2⟩;exact Ni (p1 y hy) λe=>q1 (by rw[<-show y=x from e];exact hy)
 exact this _ h1 h2
theorem zKP{xs:List Ah}(h:xs.Nodup):Gq xs=xs.foldl (λo k=>Dn k o) []:=by obtain⟨g1,g2,_⟩:=Ut xs [] List.Pairwise.nil;refine Ei.ext (zIL h) g1 λy=> ?_;rw[g2,(kR xs).mem_iff];simp
theorem zu3{w y:Ai}:∀{l:List Ai},y∈DY wk w l->y=w\/y∈l
 | [],h=> .inl (by simpa[DY]using h)
 |x::l,h=>by
  unfold DY at h;split at h
  ·rcases Ag.1 h with h|h
   ·exact .inl h
   ·exact .inr h
  ·split at h
   ·rcases Ag.1 h with h|h
    ·exact .inl h
    ·exact .inr (by simp[h])
   ·rcases Ag.1 h with h|h
    ·exact .inr (by simp[h])
    ·rcases zu3 h with h|h
     ·exact .inl h
     ·exact .inr (by simp[h])
theorem zPW{r:BG}(hs:YK r)(h:Hc r=true):HZ r:=by
 unfold Hc at h;by_cases h1:r.ah=1
 ·rw[if_pos h1]at h;simp only[Ac,AS]at h;obtain⟨a1,a2,a3,a4,a5,a6,a7,a8,a9⟩:=h;have b:=DV.1 a1;exact⟨by omega,by omega,zqm a6,⟨by omega,hs.writes.2⟩,λh=>absurd h1 h,λ_=>b⟩
 ·rw[if_neg h1]at h;simp only[Ac,Az]at h;obtain⟨a1,a2,a3,a4⟩:=h;have er:r.az=[]:=List.eq_nil_of_length_eq_zero (by omega);have ew:r.af=[]:=List.eq_nil_of_length_eq_zero (by omega);refine⟨by rw[er];simp,by rw[ew];simp,by rw[ew];exact List.Pairwise.nil,⟨by rw[ew];simp,λw hw=>by rw[ew]at hw;simp at hw⟩,λ_ h4 hy=> ?_,λh4=> ?_⟩
  ·by_cases KG:r.ah=2\/r.ah=3
   ·rw[if_pos KG,hy]at a4;simp only[Ac,if_true]at a4;have:=DV.1 a4.2;omega
   ·rw[if_neg KG,if_neg h4]at a4;cases a4
  ·by_cases KG:r.ah=2\/r.ah=3
   ·rw[if_pos KG]at a4;simp only[Ac]at a4;exact DV.1 a4.1
   ·rw[if_neg KG,if_neg h4]at a4;cases a4
theorem zP2{w:BA}(hs:Zf w)(h:Ko w=true):Zk w:=by
 unfold Ko at h;simp only[Ac,AS,Az]at h;obtain⟨_,c1,c2,_,c4,_,_,c7,_⟩:=h;refine⟨by omega,λg hg=> ?_⟩;obtain⟨i,hi,rfl⟩:=List.mem_iff_getElem.1 hg;have Hn:i<w.cj.length:=by omega
 have Vi:=Bd.1 c7 i (List.mem_range.2 hi);rw[qE hi Hn]at Vi;simp only[Ac,Az]at Vi;obtain⟨d1,d2,_⟩:=Vi;unfold Nh at d1;simp only[Ac]at d1;obtain⟨_,_,_,d3,_⟩:=d1;have JL:=hs.group _ (Au hi);cases e:(w.aw[i]).ar with
 |nil=>rw[e]at d2;simp at d2
 |cons r rs=>refine⟨r,rs,e,by omega,λx hx=> ?_⟩;have LN:=Bd.1 d3 x hx;unfold Hd at LN;simp only[Ac]at LN;obtain⟨f1,f2⟩:=LN;have f3:=DV.1 f2;unfold UG at f1;simp only[Ac,AS]at f1;refine⟨f3.1,f3.2,by omega,λen Zy=> ?_⟩;have f4:=Bd.1 f1.2.1 en Zy;unfold Lz at f4;simp only[Ac]at f4;exact zPW (((JL.n8 x hx).recs en Zy)) f4.2
theorem zPU(ss:List AD):toB ss<=100000:=by
 have:∀(ss:List AD) (v:Int),ss.foldl (λv s=>I5 v (Pa s)) v<=v:=by
  intro ss
  induction ss with
  |nil=>intro v;exact Int.le_refl v
  |cons s ss ih=>
   intro v;have h1:=ih (I5 v (Pa s));have h2:I5 v (Pa s)<=v:=by unfold I5;split<;>omega
   rw[List.foldl_cons];omega
 exact this ss 100000
theorem zHE{ss:List AD}{t:Int}:∀w∈GB ss t,w.bu=false:=by
 have hC:∀l:List Ap,∀w∈GG l t,w.bu=false:=by
  intro l w hw;obtain⟨c,_,e⟩:=List.mem_filterMap.1 hw;unfold Lx at e;split at e
  ·cases e;rfl
  ·cases e
 have hI:∀(ws o:List Ai),(∀w∈ws,w.bu=false)->(∀w∈o,w.bu=false)-> ∀w∈Pd o ws,w.bu=false:=by
  intro ws
  induction ws with
  |nil=>intro o _ h;exact h
  |cons x ws ih=>
   intro o hw h;refine ih (DY wk x o) (λy hy=>hw y (by simp[hy])) λy hy=> ?_;rcases zu3 hy with rfl|hy
   ·exact hw _ (by simp)
   ·exact h y hy
 have hS:∀(ss:List AD) (o:List Ai),(∀w∈o,w.bu=false)-> ∀w∈ss.foldl (λo s=>Pd o (GG s.aq t)) o,w.bu=false:=by
  intro ss
  induction ss with
  |nil=>intro o h;exact h
  |cons s ss ih=>intro o h;exact ih _ (hI _ _ (hC _) h)
 exact hS ss [] λw hw=>by simp at hw
theorem mB{α β:Type}(p:α->Bool)(f:α->β)(g:List β->β->List β):∀(l:List α) (o:List β),l.foldl (λo k=>if p k=true then g o (f k)else o) o=((l.filter p).map f).foldl g o
 | [],_=>rfl
 |x::l,o=>by
  rw[List.foldl_cons,List.filter_cons];by_cases h:p x=true
  ·rw[if_pos h,if_pos h,mB p f g l];rfl
  ·rw[if_neg h,if_neg h,mB p f g l]
theorem zz2{β:Type}:∀(l o:List β),l.foldl (λo k=>o++ [k]) o=o++l
 | [],o=>by simp
 |x::l,o=>by rw[List.foldl_cons,zz2 l];simp
theorem zNH{a:CI}{v:Ah}{t:An}{E:List Ah}(hT:D3 t)(hh:EY t a.ae=true)(hn:a.ae.length<=2000000)(hl:E.length<=900)(hE:∀k∈E,Em t a.ae k=true/\k.length<=1000):Ao (λs:List Ah × Int=>QL a v t (E,true) s.1 s.2) ([],0)=some (((E.filter λk=>(CY k).1==v).map λk=>(CY k).2).foldl (λo k=>Dn k o) [],true):=by
 refine((DF (xs:=E) (body:=λs:List Ah × Int=>QL a v t (E,true) s.1 s.2) (λi o=>(o,i)) (λo k=>if((CY k).1==v)=true then Dn (CY k).2 o else o) (λo=>some (o,true)) (λi o=>HU o/\o.length<=i)
  (λi hi o ho=>by
   obtain⟨e1,e2⟩:=hE _ (Au hi);have hlen:=rO (CY E[i]).2 o;obtain⟨r,r1,r2,_⟩:=rB (n:=a.ae) hT;have hr:dN t a.ae E[i]=some ((CY E[i]).1,(CY E[i]).2,true):=by unfold dN;rw[zNY hT.name hn (by omega) e1,Aa,r1,Aa,r2,hh];rfl
   constructor
   ·show QL a v t (E,true) o (i:Int)=_;unfold QL;rw[if_pos (by simpa using hi)];show((Ak E (i:Int)).bind _)=_;rw[Av hi,Aa,hr,Aa,CH (by omega)];by_cases hq:((CY E[i]).1==v)=true
    ·rw[if_pos (by simp[hq]),if_pos hq,rW (by omega) ho.1];rfl
    ·rw[if_neg (by simp[hq]),if_neg hq]
   ·by_cases hq:((CY E[i]).1==v)=true
    ·rw[if_pos hq];exact⟨lN ho.1,by omega⟩
    ·rw[if_neg hq];exact⟨ho.1,by omega⟩)
  (λo _=>by show QL a v t (E,true) o (E.length:Int)=_;unfold QL;rw[if_neg (by simp)]) (s:=[]) ⟨List.Pairwise.nil,by simp⟩).1).trans ?_
 rw[mB (λk=>(CY k).1==v) (λk=>(CY k).2) (λo k=>Dn k o)]
theorem zLM{a:CI}{v:Ah}{t:An}{E:List Ah}(hT:D3 t)(hn:a.ae.length<=2000000)(hl:E.length<=900)(hE:∀k∈E,Em t a.ae k=true/\k.length<=1000):Ao (λs:Int × List Ah=>QM a v t E s.1 s.2) (0,[])=eB ((E.filter λk=>(CY k).1==v).map λk=>(CY k).2):=by
 refine((DF (xs:=E) (body:=λs:Int × List Ah=>QM a v t E s.1 s.2) (λi o=>(i,o)) (λo k=>if((CY k).1==v)=true then o++ [(CY k).2]else o) (λo=>eB o) (λi o=>o.length<=i)
  (λi hi o ho=>by
   obtain⟨e1,e2⟩:=hE _ (Au hi);constructor
   ·show QM a v t E (i:Int) o=_;unfold QM;rw[if_pos (by simpa using hi),Av hi,Aa,zOW hT.name hn (by omega) e1,Aa,CH (by omega)];by_cases hq:((CY E[i]).1==v)=true
    ·rw[if_pos hq,if_pos hq,AJ (by simp only[AO];omega)]
    ·rw[if_neg hq,if_neg hq]
   ·by_cases hq:((CY E[i]).1==v)=true
    ·rw[if_pos hq];simp;omega
    ·rw[if_neg hq];omega)
  (λo _=>by show QM a v t E (E.length:Int) o=_;unfold QM;rw[if_neg (by simp)]) (s:=[]) (by simp)).1).trans ?_
 rw[mB (λk=>(CY k).1==v) (λk=>(CY k).2) (λo k=>o++ [k]),zz2,List.nil_append]
theorem zHQ{t:An}{n:Ah}{l:List Ai}(hl:O6 l=true):∀k∈Jg t n l,Em t n k=true/\k.length<=1000:=by intro k h;obtain⟨w,hw,rfl⟩:=List.mem_map.1 h;obtain⟨h1,h2⟩:=List.mem_filter.1 hw;exact⟨h2,(sM hl w h1).1⟩
def aO(r:List Ah × Bool):Prop:=r.1.length<=900/\ ∀s∈r.1,s.length<=1000
theorem Wp{b:Bool}:aO ([],b):=⟨by simp,λs hs=>by simp at hs⟩
theorem zMb{t:An}{n v:Ah}{E:List Ah}(hl:E.length<=900)(hE:∀k∈E,Em t n k=true/\k.length<=1000):aO (((E.filter λk=>(CY k).1==v).map λk=>(CY k).2).foldl (λo k=>Dn k o) [],true):=by
 obtain⟨_,g2,g3⟩:=Ut ((E.filter λk=>(CY k).1==v).map λk=>(CY k).2) [] List.Pairwise.nil;constructor
 ·have h1:=List.length_filter_le (λk=>(CY k).1==v) E;rw[List.length_map,List.length_nil]at g3;exact Nat.le_trans g3 (by omega)
 ·intro s hs;rcases(g2 s).1 hs with hm|hm
  ·obtain⟨k,hk,rfl⟩:=List.mem_map.1 hm;obtain⟨e1,e2⟩:=hE k (List.mem_filter.1 hk).1;have:=congrArg List.length (qG e1);rw[Aq,AE,Aq,AE]at this;omega
  ·simp at hm
theorem zNS{a:CI}{v:Ah}{t:Int}(h:O4 a):∃r,gY a v t=some r/\(X5 a v t=some r/\aO r):=by
 obtain⟨r,e1,e2,f⟩:=zE5 h;unfold gY X5;rw[e1,e2,Aa,Aa];cases r with
 |false=>exact⟨_,rfl,rfl,Wp⟩
 |true=>
  have F:=f rfl;have hW:=zP2 h.world F.world;have Wk:∀s∈Fo a.ao,WS s:=λs hs=>by obtain⟨g,hg,rfl⟩:=List.mem_map.1 hs;exact(hW.2 g hg).ws
  have Dh:(Fo a.ao).length<=1000:=by unfold Fo;rw[List.length_map];exact hW.1
  have JE:QQ a.ao=some true:=by rw[zxz h.world,F.world]
  obtain⟨g0,m0⟩:=WB F.ways.1;have hT:=h.ways _ m0;have hh:=zFV F.ways _ m0;obtain⟨x,_,_,_,DQ⟩:=tI hh;have Fg:=zPU (Fo a.ao);simp only[if_true];rw[ER,Aa,show Nc t=some (Aw t 0 100000)from rfl,Aa,Fm,Aa];by_cases hv:Aw (v.length:Int) 1 3=true
  ·rw[if_pos hv];by_cases h2:a.fw=2
   ·have hn2:2<a.bg.length:=by have:=F.len;omega
    have hy:=DV.1 (F.since _ (Au hn2));have JD:Ak a.bg 2=some a.bg[2]:=Av (i:=2) hn2;rw[if_neg (by simp[h2]),JD,Aa,zxe hW JE,Aa,ER,Aa];by_cases B9:Aw t a.bg[2] (toB (Fo a.ao))=true
    ·have VI:=DV.1 B9;have ht:Aw t 0 100000=true:=DV.2 (by omega);rw[if_neg (by simp[B9]),if_pos ht,if_neg (by simp[hv,h2]),zDv hW,Aa,zDS Dh Wk,Aa,g0,Aa,zOR hW,Aa];have hS:=zzK (t:=t) Dh Wk;unfold yZ tV;rw[zL8 hT hS];have ha:WG (w0 a.cq) a.ae (GB (Fo a.ao) t)=Hz (GB (Fo a.ao) t):=by
      unfold WG O6;rw[hh,Bool.true_and];have:(GB (Fo a.ao) t).all (λw=> !w.bu)=true:=Bd.2 λw hw=>by rw[zHE w hw];rfl
      rw[this,Bool.and_true]
     rw[ha];cases hg:Hz (GB (Fo a.ao) t)with
     |false=>exact⟨_,rfl,rfl,Wp⟩
     |true=>
      have KT:O6 (GB (Fo a.ao) t)=true:=by have:=ha;unfold WG at this;rw[hh,Bool.true_and,hg]at this;exact this
      have Zn:=zHQ (t:=w0 a.cq) (n:=a.ae) KT;have mJ:(Jg (w0 a.cq) a.ae (GB (Fo a.ao) t)).length<=900:=by unfold Hz at hg;simp only[Ac,AS]at hg;have:=List.length_filter_le (λw=>Em (w0 a.cq) a.ae w.ab) (GB (Fo a.ao) t);unfold Jg;rw[List.length_map];omega
      have BX:=zJG (t:=w0 a.cq) (n:=a.ae) (v:=v) (zqm hg) λk hk=>(Zn k hk).1;simp only[Aa,Bool.not_true,A6,if_false,if_true];rw[h2,JD,Aa,if_neg (by simp;omega),zC1 Dh Wk,Aa,if_neg (by simp;omega),zGV hT.name h.name hS.1 (sM KT),Aa,Aa,zHw hT.name h.name DQ hS.1 (sM KT),Aa];simp only[Bool.not_true,A6,if_false];refine⟨_,zNH hT hh h.name mJ Zn,?_,?_⟩
      rotate_left
      ·exact zMb mJ Zn
      rw[zLM hT h.name mJ Zn];unfold eB R6;have hbl:(U3 (w0 a.cq) a.ae v (GB (Fo a.ao) t)).length<=900:=by have:=List.length_filter_le (λk=>(CY k).1==v) (Jg (w0 a.cq) a.ae (GB (Fo a.ao) t));unfold U3;rw[List.length_map];omega
      unfold U3 at hbl BX;rw[AJ (by omega),Aa,zKP BX]
    ·have B9:Aw t a.bg[2] (toB (Fo a.ao))=false:=by simpa using B9
     refine⟨_,if_pos (by simp[B9]),?_,Wp⟩;by_cases ht:Aw t 0 100000=true
     ·rw[if_pos ht,if_neg (by simp[hv,h2]),zDv hW,Aa,zDS Dh Wk,Aa];split
      ·rw[h2,JD,Aa];by_cases AQ:t<a.bg[2]
       ·rw[if_pos (by simpa using AQ)]
       ·rw[if_neg (by simpa using AQ),zC1 Dh Wk,Aa,if_pos];by_cases MC:t>toB (Fo a.ao)
        ·simpa using MC
        ·exact absurd (show Aw t a.bg[2] (toB (Fo a.ao))=true from DV.2 ⟨by omega,by omega⟩) (by rw[B9];simp)
      ·rfl
     ·rw[if_neg ht]
   ·refine⟨_,if_pos (by simp[h2]),?_,Wp⟩;split
    ·rw[if_pos (by simp[h2])]
    ·rfl
  ·rw[if_neg hv];refine⟨_,rfl,?_,Wp⟩;split
   ·rw[if_pos (by simp[hv])]
   ·rfl
theorem zPG{r:List Ah × Bool}(h:aO r):DU r.1<=2000000:=by
 have aux:∀l:List Ah,(∀s∈l,s.length<=1000)->(l.map (λx:Ab=>x.length)).sum<=1000*l.length:=by
  intro l
  induction l with
  |nil=>intro _;simp
  |cons x l ih=>intro h;have h1:=ih λs hs=>h s (by simp[hs]);have h2:=h x (by simp);rw[List.map_cons,List.sum_cons,AE];omega
 have h1:=aux r.1 h.2;have h2:=h.1;unfold DU;omega
theorem zx3(a0:CI)(a1:Ab)(a2:Int)(h0:sX a0)(_:F7 a1)(_:Dt a2):cH a0 a1 a2=some true:=by
 unfold cH;by_cases qa:decide ((a1.length:Int)>1048576)=true
 ·rw[if_pos qa]
 rw[if_neg qa];obtain⟨b0,e0,g0,r0⟩:=zOq (x:=a0) (a:=1048576) (by omega) (by omega) h0;rw[e0,Aa];by_cases q0:b0<0
 ·rw[if_pos (by simpa using q0)]
 rw[if_neg (by simpa using q0)];have s0:=r0 (by omega);have t0:Gy a0<=2000000:=by omega
 obtain⟨r,vs,vi,sr⟩:=zNS (v:=a1) (t:=a2) (zD2 t0);have tr:=zPG sr;obtain⟨x0,k0,u0,w0,m0⟩:=zIn (x:=a0) (k:=1) (by omega) (by omega);obtain⟨ys,k1,u1,w1,_,m1,n1⟩:=OX (xs:=r.1) (k:=1) (by omega) (by omega);simp only[zNX t0,vs,vi,zNQ t0,Ue tr,m0,m1,n1,uP (show 0<=k0 by omega),uP (show 0<=k1 by omega),bne_self_eq_false,Aa,Bool.not_true,Bool.or_false,A6,if_false]
end
end Go.Proofs.YtlmjpjceiefpoaaGreat
