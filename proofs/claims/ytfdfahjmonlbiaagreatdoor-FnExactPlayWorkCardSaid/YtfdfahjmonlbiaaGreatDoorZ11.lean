/- Parts of a proof, joined: NWL, NWM, NWN, NWO, NY, NM, NN, NB, NSA, NWR, NWP, LW, NWT, NZ, NWQ, LP, PL. -/
import Derived.Test.YtfdfahjmonlbiaaGreatDoorZ10
import Derived.Lib.LaidTab
import Derived.LaidSub
set_option linter.unusedVariables false
set_option linter.unusedSimpArgs false
section
namespace Go.Proofs.YtfdfahjmonlbiaaGreatDoor
open Go.RowKit
set_option maxRecDepth 100000
set_option maxHeartbeats 1000000
def Bp (t:Ad) (x:Au) (r:AL):B0:=⟨(AZ t r).af, [⟨7,(AZ t r).af,(AZ t r).ay,0⟩,⟨2,BJ t x.ab x.bh r, [],0⟩]⟩
def BO (k:Af):B0:=⟨k, [⟨3,k, [],0⟩]⟩
theorem We {t:Ad} {x:Au} {r:AL} (hg:Be t=true) (hx:x∈t.ah) (hr:Bo t r=true):KM (Bp t x r):=by
 have h1:=VR hg hr;have h2:=bK (n:=x.ab) (c:=x.bh) hg (FY hg hx).1 hr;refine⟨by simp [Bp],fun o ho=> ?_⟩;simp only [Bp,Ag,List.not_mem_nil,or_false]at ho;rcases ho with rfl|rfl
 ·exact⟨h1.1,h1.2,rfl,by simp,by simp⟩
 ·exact⟨h2,show Gs ([]:Af)=true by decide,rfl,by simp,by simp⟩
theorem VX {k:Af} (h:Ao k=true):KM (BO k):=by refine⟨by simp [BO],fun o ho=> ?_⟩;simp only [BO,Ag,List.not_mem_nil,or_false]at ho;subst ho;exact⟨h,show Gs ([]:Af)=true by decide,rfl,by simp,by simp⟩
theorem rC {t:Ad} {x:Au} {f:AJ} {R:List AL} (hg:Be t=true) (hx:x∈t.ah) (hl:R.length≤2000000) (hR: ∀r∈R,Bo t r=true): ∀(m q many:Nat) (st:List Ab) (last:Af),q+m=R.length→many≤24→BZ st=true→
  At (fun s:Int × Int × Ac × List Ab=>Ly t f x R s.1 s.2.1 s.2.2.1 s.2.2.2) ((many:Int),(q:Int),last,st)=Q4 t f (EP ((R.drop q).map (Bp t x)) many st last).2 (EP ((R.drop q).map (Bp t x)) many st last).1
 |0,q,many,st,last,hq,hm,A0=>by rw [List.drop_eq_nil_of_le (show R.length≤q by omega)];refine Db ?_;show Ly t f x R many q last st=_;unfold Ly;rw [if_neg (by rw [decide_eq_true_eq];omega)];rfl
 |m+1,q,many,st,last,hq,hm,A0=>by
  have An:q<R.length:=by omega
  have hr:=hR _ (List.getElem_mem An);have hS:=RW hg;obtain⟨hs,h2⟩:=bD hg hr;have Bl:R[q].ar≠ []:=fun e=>by rw [e]at h2;simp at h2
  obtain⟨e1,_⟩:=zzL hg hx hr;have ho:=We hg hx hr;have Kk:=XN ho.1 ho.2 A0;have e2:ZF t x R[q]=some (Bp t x R[q]).cc:=by unfold ZF;rw [Pt hS.name hs.small Bl,Aa,e1,Aa];rfl
  have hw:=AX An (by omega);have DA:Ly t f x R many q last st=(if(((many:Int)==0)||(Op.bytesLess (Bp t x R[q]).a6 last||(Bp t x R[q]).a6==last))=true then some (.inl ((many:Int),((q+1:Nat):Int),last,st))else if(Bc st (Bp t x R[q]).cc).2=true then some (.inl (IntKind.i64.wrap ((many:Int)-1),((q+1:Nat):Int),(Bp t x R[q]).a6,(Bc st (Bp t x R[q]).cc).1))else some (.inr (Q4 t f last st))):=by
   unfold Ly;rw [if_pos (decide_eq_true (show(q:Int)<(R.length:Int) by omega)),AK An,Aa,Pt hS.name hs.small Bl,Aa,e2,Aa,Kk,Aa,hw];rw [show(Bp t x R[q]).a6=(AZ t R[q]).af from rfl];by_cases hz:((many:Int)==0||(Op.bytesLess (AZ t R[q]).af last||(AZ t R[q]).af==last))=true
   ·rw [if_pos hz,if_pos hz]
   ·rw [if_neg hz,if_neg hz];by_cases hd:(Bc st (Bp t x R[q]).cc).2=true
    ·rw [if_pos hd,if_neg (by simp [hd])]
    ·rw [if_neg hd,if_pos (by simpa using hd)]
  rw [List.drop_eq_getElem_cons An,List.map_cons];unfold EP;by_cases hc:many=0∨behind last (Bp t x R[q]).a6=false
  ·rw [if_pos hc];refine(Dx ?_).trans (rC hg hx hl hR m (q+1) many st last (by omega) hm A0);show Ly t f x R many q last st=_;rw [DA,if_pos];unfold behind at hc;rcases hc with hc|hc
   ·subst hc;rfl
   ·have hc:(Op.bytesLess (Bp t x R[q]).a6 last||(Bp t x R[q]).a6==last)=true:=by
     cases h:(Op.bytesLess (Bp t x R[q]).a6 last||(Bp t x R[q]).a6==last)with
     |true=>rfl
     |false=>rw [h]at hc;simp at hc
    rw [hc,Bool.or_true]
  ·rw [if_neg hc];have Mh: ¬(((many:Int)==0)||(Op.bytesLess (Bp t x R[q]).a6 last||(Bp t x R[q]).a6==last))=true:=by
    rw [not_or]at hc;obtain⟨c1,c2⟩:=hc;unfold behind at c2;have c2:(Op.bytesLess (Bp t x R[q]).a6 last||(Bp t x R[q]).a6==last)=false:=by
     cases h:(Op.bytesLess (Bp t x R[q]).a6 last||(Bp t x R[q]).a6==last)with
     |false=>rfl
     |true=>rw [h]at c2;simp at c2
    rw [c2,Bool.or_false,beq_iff_eq];omega
   have Oj:0<many:=by
    rcases Nat.eq_zero_or_pos many with h|h
    ·exact absurd (.inl h) hc
    ·exact h
   by_cases hd:(Bc st (Bp t x R[q]).cc).2=true
   ·rw [if_pos hd];have IU:IntKind.i64.wrap ((many:Int)-1)=((many-1:Nat):Int):=by rw [A9 (by omega) (by omega)];omega
    refine(Dx ?_).trans (rC hg hx hl hR m (q+1) (many-1) _ _ (by omega) (by omega) (LL ho.1 ho.2 A0));show Ly t f x R many q last st=_;rw [DA,if_neg Mh,if_pos hd,IU]
   ·rw [if_neg hd];refine Db ?_;show Ly t f x R many q last st=_;rw [DA,if_neg Mh,if_neg hd]
theorem xU {ks:List Af} {last:Af} (hl:ks.length≤2000000):ZE ks last=some (ks.any fun k=>behind last k):=by
 have go: ∀(m q:Nat),q+m=ks.length→At (fun s:Int=>UR ks last s) (q:Int)=some ((ks.drop q).any fun k=>behind last k):=by
  intro m
  induction m with
  |zero=>intro q hq;rw [List.drop_eq_nil_of_le (show ks.length≤q by omega)];refine Db ?_;unfold UR;rw [if_neg (by rw [decide_eq_true_eq];omega)];rfl
  |succ m ih=>
   intro q hq;have An:q<ks.length:=by omega
   rw [List.drop_eq_getElem_cons An,List.any_cons];by_cases hb:behind last ks[q]=true
   ·rw [hb,Bool.true_or];refine Db ?_;unfold UR;rw [if_pos (decide_eq_true (show(q:Int)<(ks.length:Int) by omega)),AK An,Aa,if_pos (show(!(Op.bytesLess ks[q] last||ks[q]==last))=true from hb)]
   ·rw [Bool.not_eq_true]at hb;rw [hb,Bool.false_or];refine(Dx ?_).trans (ih (q+1) (by omega));unfold UR;rw [if_pos (decide_eq_true (show(q:Int)<(ks.length:Int) by omega)),AK An,Aa,if_neg (show¬(!(Op.bytesLess ks[q] last||ks[q]==last))=true by rw [←Bool.not_eq_true]at hb;exact hb),AX An (by omega)]
 have:=go ks.length 0 (by omega);rw [List.drop_zero]at this;exact this
theorem zCq {t:Ad} {st:List Ab} (hg:Be t=true) (hl:st.length≤2000000) (hr:RG t st=some (rows t st)):YP t st=some ((rows t st).map fun r=>(AZ t r).af):=by
 have hR:=So t st;have EC: ∀r∈rows t st,Bo t r=true:=fun r h=>VQ h;have hS:=RW hg;unfold YP;rw [hr,Aa];generalize rows t st=R at hR EC;have go: ∀(m q:Nat) (o:List Af),q+m=R.length→o.length=q→At (fun s:List (Ac) × Int=>QQ t R s.1 s.2) (o,(q:Int))=some (o++(R.drop q).map fun r=>(AZ t r).af):=by
  intro m
  induction m with
  |zero=>intro q o hq ho;rw [List.drop_eq_nil_of_le (show R.length≤q by omega)];refine Db ?_;show QQ t R o q=_;unfold QQ;rw [if_neg (by rw [decide_eq_true_eq];omega)];simp
  |succ m ih=>
   intro q o hq ho;have An:q<R.length:=by omega
   have hr:=EC _ (List.getElem_mem An);obtain⟨hs,h2⟩:=bD hg hr;have Bl:R[q].ar≠ []:=fun e=>by rw [e]at h2;simp at h2
   rw [List.drop_eq_getElem_cons An,List.map_cons];refine(Dx (?_:QQ t R o q=some (.inl (o++ [(AZ t R[q]).af],((q+1:Nat):Int))))).trans ((ih (q+1) _ (by omega) (by simp [ho])).trans (by simp));unfold QQ;rw [if_pos (decide_eq_true (show(q:Int)<(R.length:Int) by omega)),AK An,Aa,Pt hS.name hs.small Bl,Aa,AN (by rw [AF];omega),AX An (by omega)]
 have:=go R.length 0 [] (by omega) rfl;rw [List.drop_zero,List.nil_append]at this;exact this
theorem zGB {t:Ad} {n:Af} {x:Au} {st:List Ab} (hg:Be t=true) (hx:EO t n x) (OC:x.ab=n) (hn:n.length≤2000000) (hl:st.length≤2000000) (hr:Uz t st=some (rows t st)):UI t n st=some ((rows t st).map (Bp t x)):=by
 have hR:=So t st;have EC: ∀r∈rows t st,Bo t r=true:=fun r h=>VQ h;have hS:=RW hg;unfold UI;rw [hr,Aa];generalize rows t st=R at hR EC;have go: ∀(m q:Nat) (o:List B0),q+m=R.length→o.length=q→At (fun s:Int × List B0=>QD t n R s.1 s.2) ((q:Int),o)=some (o++(R.drop q).map (Bp t x)):=by
  intro m
  induction m with
  |zero=>intro q o hq ho;rw [List.drop_eq_nil_of_le (show R.length≤q by omega)];refine Db ?_;show QD t n R q o=_;unfold QD;rw [if_neg (by rw [decide_eq_true_eq];omega)];simp
  |succ m ih=>
   intro q o hq ho;have An:q<R.length:=by omega
   have hr:=EC _ (List.getElem_mem An);obtain⟨hs,h2⟩:=bD hg hr;have Bl:R[q].ar≠ []:=fun e=>by rw [e]at h2;simp at h2
   have gO:Ym t n R[q]=some (Bp t x R[q]).cc:=by unfold Ym;rw [Py hS.name hs.small Bl,Aa,cK hS hn hx (zvH hg hr),Aa];subst OC;rfl
   rw [List.drop_eq_getElem_cons An,List.map_cons];refine(Dx (?_:QD t n R q o=some (.inl (((q+1:Nat):Int),o++ [Bp t x R[q]])))).trans ((ih (q+1) _ (by omega) (by simp [ho])).trans (by simp));unfold QD;rw [if_pos (decide_eq_true (show(q:Int)<(R.length:Int) by omega)),AK An,Aa,Py hS.name hs.small Bl,Aa,gO,Aa,AN (by rw [AF];omega),AX An (by omega)];rfl
 have:=go R.length 0 [] (by omega) rfl;rw [List.drop_zero,List.nil_append]at this;exact this
theorem zE0 {t:Ad} {n:Af} {st:List Ab} (hl:st.length≤2000000) (hr:OU t n st=some (Bw t n st)):QY t n st=some ((Bw t n st).map BO):=by
 have hR:=VJ t n st;unfold QY;rw [hr,Aa];generalize Bw t n st=R at hR;have go: ∀(m q:Nat) (o:List B0),q+m=R.length→o.length=q→At (fun s:Int × List B0=>Qz R s.1 s.2) ((q:Int),o)=some (o++(R.drop q).map BO):=by
  intro m
  induction m with
  |zero=>intro q o hq ho;rw [List.drop_eq_nil_of_le (show R.length≤q by omega)];refine Db ?_;show Qz R q o=_;unfold Qz;rw [if_neg (by rw [decide_eq_true_eq];omega)];simp
  |succ m ih=>
   intro q o hq ho;have An:q<R.length:=by omega
   rw [List.drop_eq_getElem_cons An,List.map_cons];refine(Dx (?_:Qz R q o=some (.inl (((q+1:Nat):Int),o++ [BO R[q]])))).trans ((ih (q+1) _ (by omega) (by simp [ho])).trans (by simp));unfold Qz;rw [if_pos (decide_eq_true (show(q:Int)<(R.length:Int) by omega)),AK An,Aa,AN (by rw [AF];omega),AX An (by omega)];rfl
 have:=go R.length 0 [] (by omega) rfl;rw [List.drop_zero,List.nil_append]at this;exact this
theorem zvm {t:Ad} {x:Au} {st:List Ab} (hr:DI st):((rows t st).map (Bp t x)).Pairwise (fun a b=>bl a.a6 b.a6=true):=by unfold rows;rw [List.map_map,List.pairwise_map];refine List.Pairwise.imp_of_mem (fun{a b} ha hb h=> ?_) (List.Pairwise.filter (Cy t) hr);show bl (AZ t (B9 a)).af (AZ t (B9 b)).af=true;rw [←(GN (List.mem_filter.1 ha).2).2,←(GN (List.mem_filter.1 hb).2).2];exact h
theorem zsJ {t:Ad} {n:Af} {st:List Ab} (hr:DI st):((Bw t n st).map BO).Pairwise (fun a b=>bl a.a6 b.a6=true):=by unfold Bw;rw [List.map_map,List.pairwise_map];exact(List.Pairwise.filter _ hr).imp fun h=>h
theorem zHJ {s:AA} {st:List Int} (hs:Lx s=some st) (hl:st.length≤2000000):Zs s=some (st.all fun y=>decide (y≥2),st.any fun y=>decide (y≥2)):=by
 unfold Zs;rw [hs,Aa];have go: ∀(m q:Nat) (a b:Bool),q+m=st.length→At (fun s:Bool × Bool × Int=>Q8 st s.1 s.2.1 s.2.2) (a,b,(q:Int))=some (a&&(st.drop q).all (fun y=>decide (y≥2)),b||(st.drop q).any fun y=>decide (y≥2)):=by
  intro m
  induction m with
  |zero=>intro q a b hq;rw [List.drop_eq_nil_of_le (show st.length≤q by omega)];refine Db ?_;show Q8 st a b q=_;unfold Q8;rw [if_neg (by rw [decide_eq_true_eq];omega)];simp
  |succ m ih=>
   intro q a b hq;have An:q<st.length:=by omega
   rw [List.drop_eq_getElem_cons An,List.all_cons,List.any_cons,←Bool.and_assoc,←Bool.or_assoc];refine(Dx ?_).trans (ih (q+1) _ _ (by omega));show Q8 st a b q=_;unfold Q8;rw [if_pos (decide_eq_true (show(q:Int)<(st.length:Int) by omega)),AK An,Aa,AX An (by omega)]
 have:=go st.length 0 true false (by omega);rw [List.drop_zero,Bool.true_and,Bool.false_or]at this;exact this
theorem zJa {w:AI} {st:List Int} (hn:st.length=w.ae.bj.length) (hl:st.length≤2000000) (hs: ∀(i:Nat) (hi:i<st.length),∃tb,Gp w.ae i=some tb∧J2 w.ae tb=some st[i]):QF w=some ((st.filter fun y=>decide (y≥2)).length:Int):=by
 have go: ∀(m q c:Nat),q+m=st.length→c≤q→At (fun s:Int × Int=>MZ w s.1 s.2) ((c:Int),(q:Int))=some ((c+((st.drop q).filter fun y=>decide (y≥2)).length:Nat):Int):=by
  intro m
  induction m with
  |zero=>intro q c hq _;rw [List.drop_eq_nil_of_le (show st.length≤q by omega)];refine Db ?_;show MZ w c q=_;unfold MZ;rw [if_neg (by rw [decide_eq_true_eq];omega)];simp
  |succ m ih=>
   intro q c hq hc;have An:q<st.length:=by omega
   obtain⟨tb,e1,e2⟩:=hs q An;have EE:M9 st[q]=some (decide (st[q]≥2)):=rfl;have hw:IntKind.i64.wrap ((q:Int)+1)=((q+1:Nat):Int):=by rw [A9 (by omega) (by omega)];omega
   have IU:IntKind.i64.wrap ((c:Int)+1)=((c+1:Nat):Int):=by rw [A9 (by omega) (by omega)];omega
   rw [List.drop_eq_getElem_cons An,List.filter_cons];by_cases hg:st[q]≥2
   ·rw [if_pos (decide_eq_true hg),Ap];refine(Dx ?_).trans ((ih (q+1) (c+1) (by omega) (by omega)).trans (by rw [show c+1+((st.drop (q+1)).filter fun y=>decide (y≥2)).length=c+(((st.drop (q+1)).filter fun y=>decide (y≥2)).length+1)from by omega]));show MZ w c q=_;unfold MZ;rw [if_pos (decide_eq_true (show(q:Int)<(w.ae.bj.length:Int) by omega)),e1,Aa,e2,Aa,EE,Aa,if_pos (decide_eq_true hg),hw,IU]
   ·rw [if_neg (by simpa using hg)];refine(Dx ?_).trans (ih (q+1) c (by omega) (by omega));show MZ w c q=_;unfold MZ;rw [if_pos (decide_eq_true (show(q:Int)<(w.ae.bj.length:Int) by omega)),e1,Aa,e2,Aa,EE,Aa,if_neg (by simpa using hg),hw]
 have:=go st.length 0 0 (by omega) (by omega);rw [List.drop_zero,Nat.zero_add]at this;exact this
theorem zsZ {w:Ab} (hw:w.bf=true): ∀(l:List Ab),((BM wk w l).filter fun y=> !y.bf).length≤l.length
 | []=>by simp [BM,hw]
 |z::l=>by
  rw [BM];split
  ·rw [List.filter_cons_of_neg (by simp [hw])];exact List.length_filter_le _ _
  ·split
   ·rw [List.filter_cons_of_neg (by simp [hw]),Ap];exact Nat.le_succ_of_le (List.length_filter_le _ _)
   ·have ih:=zsZ hw l;rw [List.filter_cons];split<;>(simp only [Ap];omega)
theorem rD (st:List Ab) (k:Af):Fj st (BO k).cc=([⟨k, [],true⟩],true):=by unfold Fj Ip;simp [BO,Dn,BM]
theorem bB {st:List Ab} {k:Af} (hg:BZ st=true):(Bc st (BO k).cc).2=true:=by have hl:=(Eo hg).1.len;have h:=zsZ (w:=⟨k, [],true⟩) rfl st;unfold Bc;rw [rD,if_pos ⟨rfl,by unfold Df;simp only [List.foldl_cons,List.foldl_nil];omega⟩]
theorem wJ (st:List Ab) (t:Ad) (x:Au) (r:AL): ∀(n:Nat) (got:List zip),(Ip st (Bp t x r).cc n got).1= []∨(Ip st (Bp t x r).cc n got).1= [⟨BJ t x.ab x.bh r, [],false⟩]
 |0,got=> .inl rfl
 |n+1,got=>by
  unfold Ip;split
  ·exact wJ st t x r n _
  ·simp only [Bp,Dn];simp only [show¬((7:Int)=2)from by decide,show¬((7:Int)=3)from by decide,if_false,if_true];split
   ·split
    ·right;simp [BM]
    ·left;rfl
   ·left;rfl
theorem zGk {t:Ad} {w:Ab} (hk: ∀r,Bo t r=true→(AZ t r).af≠w.af): ∀(l:List Ab),(BM wk w l).filter (Cy t)=l.filter (Cy t):=by
 have Dk: ∀y:Ab,y.af=w.af→Cy t y=false:=fun y hy=>by
  cases h:Cy t y with
  |false=>rfl
  |true=>obtain⟨h1,h2⟩:=GN h;exact absurd (by rw [←h2,hy]) (hk _ h1)
 intro l
 induction l with
 |nil=>simp [BM,Dk w rfl]
 |cons z l ih=>
  rw [BM];split
  ·rw [List.filter_cons_of_neg (by simp [Dk w rfl])]
  ·split
   ·rename_i h;have hz:Cy t z=false:=Dk z h.symm;rw [List.filter_cons_of_neg (by simp [Dk w rfl]),List.filter_cons_of_neg (by simp [hz])]
   ·rw [List.filter_cons,List.filter_cons,ih]
theorem zDc {t:Ad} {x:Au} {r:AL} {st:List Ab} (hg:Be t=true) (hx:x∈t.ah) (hr:Bo t r=true) (A0:BZ st=true):rows t (Bc st (Bp t x r).cc).1=rows t st:=by
 have Mv:=(Eo A0).2;have hid:st.filter (fun y=> !y.bf)=st:=List.filter_eq_self.2 fun y hy=>by rw [Mv y hy];rfl
 have hl:=(FY hg hx).1;unfold Bc;split
 ·show rows t (Df st (Ip st (Bp t x r).cc 9 []).1)=_;rcases wJ st t x r 9 []with e|e
  ·rw [e];unfold Df;rw [List.foldl_nil,hid]
  ·rw [e];unfold Df rows;rw [List.foldl_cons,List.foldl_nil];have Cd:(BM wk ⟨BJ t x.ab x.bh r, [],false⟩ st).filter (fun y=> !y.bf)=BM wk ⟨BJ t x.ab x.bh r, [],false⟩ st:=List.filter_eq_self.2 fun y hy=>by
    rcases mem_insK_any hy with rfl|hy
    ·rfl
    ·rw [Mv y hy];rfl
   rw [Cd,zGk fun q hq=>aP hg hl hq hr]
 ·rfl
where
 mem_insK_any {w y:Ab}: ∀{l:List Ab},y∈BM wk w l→y=w∨y∈l
  | [],h=> .inl (by simpa [BM]using h)
  |z::l,h=>by
   rw [BM]at h;split at h
   ·rcases Ag.1 h with h|h
    ·exact .inl h
    ·exact .inr h
   ·split at h
    ·rcases Ag.1 h with h|h
     ·exact .inl h
     ·exact .inr (by simp [h])
    ·rcases Ag.1 h with h|h
     ·exact .inr (by simp [h])
     ·rcases mem_insK_any h with h|h
      ·exact .inl h
      ·exact .inr (by simp [h])
theorem pQ {t:Ad} {x:Au} (hg:Be t=true) (hx:x∈t.ah): ∀(R:List AL) (m n:Nat) (st:List Ab) (last:Af),(∀r∈R,Bo t r=true)→BZ st=true→rows t (A3 (R.map (Bp t x)) m n st last).1=rows t st
 | [],m,n,st,last,_,_=>by simp [A3]
 |r::R,0,n,st,last,_,_=>by simp [A3]
 |r::R,m+1,n,st,last,hr,A0=>by
  rw [List.map_cons];unfold A3;split
  ·have ho:=We hg hx (hr r (by simp));rw [pQ hg hx R m (n+1) _ _ (fun q hq=>hr q (by simp [hq])) (LL ho.1 ho.2 A0)];exact zDc hg hx (hr r (by simp)) A0
  ·rfl
theorem pF {ks:List B0} {m:Nat} {st:List Ab} {last:Af} (hr:ks.Pairwise (fun a b=>bl a.a6 b.a6=true)):
  (ks.any fun k=>behind (A3 (ks.filter fun k=>behind last k.a6) m 0 st last).2.2 k.a6)= !((A3 (ks.filter fun k=>behind last k.a6) m 0 st last).2.1==(ks.filter fun k=>behind last k.a6).length):=by
 have ME:=hr.filter fun k=>behind last k.a6;have hb: ∀k∈ks.filter (fun k=>behind last k.a6),bl last k.a6=true:=fun k hk=>by rw [←IZ];simpa using(List.mem_filter.1 hk).2
 have hn:=sE (ks.filter fun k=>behind last k.a6) m 0 st last;have Ci:=aL (ks.filter fun k=>behind last k.a6) m 0 st last ME hb;have Jy:=pieceL_ge (ks.filter fun k=>behind last k.a6) m 0 st last ME hb;generalize hP:A3 (ks.filter fun k=>behind last k.a6) m 0 st last=p at hn Ci Jy;rw [Bool.eq_iff_iff,List.any_eq_true];constructor
 ·rintro⟨k,hk,P2⟩;rw [IZ]at P2;have hkr:k∈ks.filter fun k=>behind last k.a6:=by
   refine List.mem_filter.2 ⟨hk, ?_⟩;show behind last k.a6=true;rw [IZ];rcases Jy with e|e
   ·rw [←e];exact P2
   ·exact FZ e P2
  obtain⟨i,hi,rfl⟩:=List.getElem_of_mem hkr;have:=Ci i hi;rw [P2]at this;have h2:=of_decide_eq_true this.symm;rw [Bool.not_eq_true',beq_eq_false_iff_ne];omega
 ·intro h;rw [Bool.not_eq_true',beq_eq_false_iff_ne]at h;have An:p.2.1<(ks.filter fun k=>behind last k.a6).length:=by omega
  refine⟨_,(List.mem_filter.1 (List.getElem_mem An)).1, ?_⟩;rw [IZ,Ci _ An];exact decide_eq_true (by omega)
where
 pieceL_ge: ∀(ks:List B0) (m n:Nat) (st:List Ab) (last:Af),ks.Pairwise (fun a b=>bl a.a6 b.a6=true)→(∀q∈ks,bl last q.a6=true)→(A3 ks m n st last).2.2=last∨bl last (A3 ks m n st last).2.2=true
  | [],m,n,st,last,_,_=> .inl (by simp [A3])
  |q::ks,0,n,st,last,_,_=> .inl (by simp [A3])
  |q::ks,m+1,n,st,last,hr,hb=>by
   rw [List.pairwise_cons]at hr;unfold A3;split
   ·rcases pieceL_ge ks m (n+1) (Bc st q.cc).1 q.a6 hr.2 hr.1 with e|e
    ·rw [e];exact .inr (hb q (by simp))
    ·exact .inr (FZ (hb q (by simp)) e)
   ·exact .inl rfl
theorem pR: ∀(ks:List B0) (m n:Nat) (st:List Ab) (last:Af),(A3 ks m n st last).2.2=last∨ ∃k∈ks,(A3 ks m n st last).2.2=k.a6
 | [],m,n,st,last=> .inl (by simp [A3])
 |k::ks,0,n,st,last=> .inl (by simp [A3])
 |k::ks,m+1,n,st,last=>by
  unfold A3;split
  ·rcases pR ks m (n+1) (Bc st k.cc).1 k.a6 with e|⟨q,hq,e⟩
   ·exact .inr ⟨k,by simp,e⟩
   ·exact .inr ⟨q,by simp [hq],e⟩
  ·exact .inl rfl
theorem zER {t:Ad} {n:Af} {x:Au} {st:List Ab} {f:AJ} {many:Int} (hg:Be t=true) (hx:EO t n x) (iN:x∈t.ah) (OC:x.ab=n) (hn:n.length≤2000000) (Oy:t.ab.length=1) (A0:BZ st=true) (h1:1≤many) (h2:many≤24):
  ∃r,Ve t n st f many=some r∧((UI t n st).bind fun k=>Nf k st f many)=some r∧BZ r.1=true∧(r.2.al=f.al∨Ao r.2.al=true)∧
   r=KN ((rows t st).map (Bp t x)) f many.toNat st:=by
 have hR:=(Eo A0).1;have hl:st.length≤2000000:=by have:=hR.len;omega
 have hT: ∀w∈st,GY w:=fun w hw=>aR (hR.ca w hw);have JJ:=So t st;have NR: ∀r∈rows t st,Bo t r=true:=fun r h=>VQ h;have Im:=sK (t:=t) (by omega) hl hT;have fO:=vZ (t:=t) Oy hl hT;have Az: ∀k∈(rows t st).map (Bp t x),KM k:=fun k hk=>by obtain⟨r,hr,rfl⟩:=List.mem_map.1 hk;exact We hg iN (NR r hr)
 have B6:=zvm (t:=t) (x:=x) hR.cu;have Ej:((rows t st).map (Bp t x)).length≤2000000:=by rw [List.length_map];omega
 obtain⟨m,rfl⟩:=Int.eq_ofNat_of_zero_le (show 0≤many by omega);have Oo:=vA (f:=f) Ej Az A0 h1 h2;rw [Int.toNat_natCast]at Oo ⊢;have Jw: ∀k∈((rows t st).map (Bp t x)).filter (fun k=>behind f.al k.a6),KM k:=fun k hk=>Az k (List.mem_filter.1 hk).1;have EB:=RU (((rows t st).map (Bp t x)).filter fun k=>behind f.al k.a6) m 0 (last:=f.al) Jw A0;have MD:rows t (A3 (((rows t st).map (Bp t x)).filter fun k=>behind f.al k.a6) m 0 st f.al).1=rows t st:=by
  have e:((rows t st).map (Bp t x)).filter (fun k=>behind f.al k.a6)=((rows t st).filter fun r=>behind f.al (AZ t r).af).map (Bp t x):=by rw [List.filter_map];rfl
  rw [e];exact pQ hg iN _ m 0 st f.al (fun r hr=>NR r (List.mem_filter.1 hr).1) A0
 have FD:=pF (m:=m) (st:=st) (last:=f.al) B6;have E8:=pR (((rows t st).map (Bp t x)).filter fun k=>behind f.al k.a6) m 0 st f.al;refine⟨_, ?_,by rw [zGB hg hx OC hn hl fO,Aa];exact Oo,EB,by
  rcases E8 with e|⟨k,hk,e⟩
  ·exact .inl e
  ·obtain⟨q,hq,rfl⟩:=List.mem_map.1 (List.mem_filter.1 hk).1;refine .inr ?_;show Ao (A3 _ m 0 st f.al).2.2=true;rw [e];exact(VR hg (NR q hq)).1,rfl⟩
 have JO:Ve t n st f m=Q4 t f (EP ((rows t st).map (Bp t x)) m st f.al).2 (EP ((rows t st).map (Bp t x)) m st f.al).1:=by unfold Ve;rw [AN (by simp;omega),L6 (RW hg),Aa,hx.at_,Aa,Im,Aa];have:=rC (f:=f) hg iN (R:=rows t st) (by omega) NR (rows t st).length 0 m st f.al (by omega) (by omega) A0;rw [List.drop_zero]at this;exact this
 rw [JO,zvo B6];unfold KN;generalize hP:A3 (((rows t st).map (Bp t x)).filter fun k=>behind f.al k.a6) m 0 st f.al=p at EB MD FD;dsimp only;unfold Q4;cases TP:f.bc with
 |true=>simp
 |false=>
  have HE:=(Eo EB).1;rw [if_neg (by simp),zCq hg (by have:=HE.len;omega) (sK (by omega) (by have:=HE.len;omega) fun w hw=>aR (HE.ca w hw)),Aa,MD,xU (by rw [List.length_map];omega),Aa];have e:((rows t st).map fun r=>(AZ t r).af).any (fun k=>behind p.2.2 k)=((rows t st).map (Bp t x)).any fun k=>behind p.2.2 k.a6:=by rw [List.any_map,List.any_map];rfl
  rw [e,FD];simp
theorem pI {t:Ad} {n:Af} {f:AJ} {K:List Af} (hl:K.length≤2000000) (hK: ∀k∈K,Ao k=true): ∀(m q many:Nat) (st:List Ab) (last:Af),q+m=K.length→many≤24→BZ st=true→
  At (fun s:Int × Int × Ac × List Ab=>M0 t n f K s.1 s.2.1 s.2.2.1 s.2.2.2) ((many:Int),(q:Int),last,st)=Yv t n f (EP ((K.drop q).map BO) many st last).2 (EP ((K.drop q).map BO) many st last).1
 |0,q,many,st,last,hq,hm,A0=>by rw [List.drop_eq_nil_of_le (show K.length≤q by omega)];refine Db ?_;show M0 t n f K many q last st=_;unfold M0;rw [if_neg (by rw [decide_eq_true_eq];omega)];rfl
 |m+1,q,many,st,last,hq,hm,A0=>by
  have An:q<K.length:=by omega
  have hk:=hK _ (List.getElem_mem An);have ho:=VX hk;have Kk:=XN ho.1 ho.2 A0;have eV:Pb st [(⟨3,K[q], [],0⟩:Ax)]=some (Bc st (BO K[q]).cc):=Kk;have hw:=AX An (by omega);rw [List.drop_eq_getElem_cons An,List.map_cons];unfold EP;by_cases hc:many=0∨behind last (BO K[q]).a6=false
  ·rw [if_pos hc];refine(Dx ?_).trans (pI hl hK m (q+1) many st last (by omega) hm A0);show M0 t n f K many q last st=_;unfold M0;have Mh:((many:Int)==0||(Op.bytesLess K[q] last||K[q]==last))=true:=by
    rcases hc with hc|hc
    ·subst hc;rfl
    ·unfold behind at hc;cases h:(Op.bytesLess K[q] last||K[q]==last)with
     |true=>simp
     |false=>rw [show(BO K[q]).a6=K[q]from rfl,h]at hc;simp at hc
   rw [if_pos (decide_eq_true (show(q:Int)<(K.length:Int) by omega)),AK An,Aa,if_pos Mh,hw]
  ·rw [if_neg hc,if_pos (bB A0)];have Oj:0<many:=by
    rcases Nat.eq_zero_or_pos many with h|h
    ·exact absurd (.inl h) hc
    ·exact h
   have Mh: ¬((many:Int)==0||(Op.bytesLess K[q] last||K[q]==last))=true:=by
    rw [not_or]at hc;obtain⟨c1,c2⟩:=hc;unfold behind at c2;rw [show(BO K[q]).a6=K[q]from rfl]at c2;cases h:(Op.bytesLess K[q] last||K[q]==last)with
    |true=>rw [h]at c2;simp at c2
    |false=>rw [Bool.or_false,beq_iff_eq];omega
   have IU:IntKind.i64.wrap ((many:Int)-1)=((many-1:Nat):Int):=by rw [A9 (by omega) (by omega)];omega
   refine(Dx ?_).trans (pI hl hK m (q+1) (many-1) _ _ (by omega) (by omega) (LL ho.1 ho.2 A0));show M0 t n f K many q last st=_;unfold M0;rw [if_pos (decide_eq_true (show(q:Int)<(K.length:Int) by omega)),AK An,Aa,if_neg Mh,eV,Aa,hw,IU];rfl
theorem rJ {k:Af}: ∀{l:List Ab},DI l→(∀w∈l,w.bf=false)→(BM wk ⟨k, [],true⟩ l).filter (fun y=> !y.bf)=l.filter fun y=>y.af !=k
 | [],_,_=>by simp [BM]
 |z::l,hr,hg=>by
  obtain⟨h1,h2⟩:=bW hr;have hz:z.bf=false:=hg z (by simp);have hid: ∀l':List Ab,(∀w∈l',w.bf=false)→l'.filter (fun y=> !y.bf)=l':=fun l' h=>List.filter_eq_self.2 fun y hy=>by rw [h y hy];rfl
  have Bl: ∀l':List Ab,(∀y∈l',bl k y.af=true)→l'.filter (fun y=>y.af !=k)=l':=fun l' h=>List.filter_eq_self.2 fun y hy=>by have:=F0 (h y hy);simpa using fun e=>this e.symm
  rw [BM];split
  ·rename_i h;rw [List.filter_cons_of_neg (by simp),hid _ hg];exact(Bl _ fun y hy=>by
    rcases Ag.1 hy with rfl|hy
    ·exact h
    ·exact FZ h (h1 y hy)).symm
  ·split
   ·rename_i h;have h:k=z.af:=h;rw [List.filter_cons_of_neg (by simp),hid _ fun w hw=>hg w (by simp [hw]),List.filter_cons_of_neg (by simp [h])];exact(Bl _ fun y hy=>by rw [h];exact h1 y hy).symm
   ·rename_i h3 h4;rw [List.filter_cons_of_pos (by simp [hz]),List.filter_cons_of_pos (by simpa using fun e=>h4 e.symm),rJ h2 fun w hw=>hg w (by simp [hw])]
theorem zwO {t:Ad} {n k:Af} {st:List Ab} (A0:BZ st=true):Bw t n (Bc st (BO k).cc).1=(Bw t n st).filter fun e=>e !=k:=by
 have hd:=bB (k:=k) A0;have hR:=Eo A0;unfold Bc at hd ⊢;split at hd
 ·rename_i h;rw [if_pos h,rD];unfold Df Bw;rw [List.foldl_cons,List.foldl_nil,rJ hR.1.cu hR.2,List.filter_map,List.filter_filter,List.filter_filter];congr 1;apply List.filter_congr;intro y _;simp [Bool.and_comm]
 ·cases hd
theorem nM {t:Ad} {nm:Af}: ∀(K:List Af) (m n:Nat) (st:List Ab) (last:Af),(K.map BO).Pairwise (fun a b=>bl a.a6 b.a6=true)→(∀q∈K,bl last q=true)→(∀k∈K,Ao k=true)→BZ st=true→
  ∃p:Af→Bool,Bw t nm (A3 (K.map BO) m n st last).1=(Bw t nm st).filter p∧(∀k,bl (A3 (K.map BO) m n st last).2.2 k=true→p k=true)∧(∀k,p k=false→k∈K)∧ ∀k∈K,p k=true→bl (A3 (K.map BO) m n st last).2.2 k=true
 | [],m,n,st,last,_,_,_,_=>⟨fun _=>true,by simp only [List.map_nil,A3];exact(List.filter_eq_self.2 fun _ _=>rfl).symm,by simp,by simp,by simp⟩
 |k::K,0,n,st,last,_,hb,_,_=>⟨fun _=>true,by simp only [List.map_cons,A3];exact(List.filter_eq_self.2 fun _ _=>rfl).symm,by simp,by simp,fun q hq _=>by simpa [A3]using hb q hq⟩
 |k::K,m+1,n,st,last,hr,hb,hk,A0=>by
  have Jy:=pF.pieceL_ge (K.map BO) m (n+1) (Bc st (BO k).cc).1 k;rw [List.map_cons,List.pairwise_cons]at hr;rw [List.map_cons];unfold A3;rw [if_pos (bB A0)];have ho:=VX (hk k (by simp));have uC: ∀q∈K,bl k q=true:=fun q hq=>hr.1 (BO q) (List.mem_map.2 ⟨q,hq,rfl⟩);obtain⟨p,e1,e2,e3,e4⟩:=nM (t:=t) (nm:=nm) K m (n+1) (Bc st (BO k).cc).1 k hr.2 uC (fun q hq=>hk q (by simp [hq])) (LL ho.1 ho.2 A0);have Jy:=Jy hr.2 fun q hq=>by obtain⟨z,hz,rfl⟩:=List.mem_map.1 hq;exact uC z hz
  refine⟨fun e=>p e&&e !=k, ?_,fun e he=> ?_,fun e he=> ?_,fun e hm he=> ?_⟩
  ·show Bw t nm (A3 (K.map BO) m (n+1) (Bc st (BO k).cc).1 k).1=_;rw [e1,zwO A0,List.filter_filter]
  ·have he:bl (A3 (K.map BO) m (n+1) (Bc st (BO k).cc).1 k).2.2 e=true:=he;have Bl:bl k e=true:=by
    rcases Jy with g|g
    ·rw [g]at he;exact he
    ·exact FZ g he
   have:=F0 Bl;show(p e&&e !=k)=true;rw [e2 e he,Bool.true_and,bne_iff_ne];exact fun h=>this h.symm
  ·have he:(p e&&e !=k)=false:=he;rw [Bool.and_eq_false_iff]at he;rcases he with he|he
   ·exact List.mem_cons_of_mem _ (e3 e he)
   ·simp only [bne_eq_false_iff_eq]at he;rw [he];simp
  ·show bl (A3 (K.map BO) m (n+1) (Bc st (BO k).cc).1 k).2.2 e=true;simp only [Ae,bne_iff_ne]at he;rcases Ag.1 hm with rfl|hm
   ·exact absurd rfl he.2
   ·exact e4 e hm he.1
theorem oK {t:Ad} {n:Af} {st:List Ab} (A0:BZ st=true): ∀k∈Bw t n st,Ao k=true:=fun k hk=>by unfold Bw at hk;obtain⟨w,hw,rfl⟩:=List.mem_map.1 hk;have:=(Eo A0).1.ca w (List.mem_filter.1 hw).1;unfold Dg at this;rw [Ae]at this;exact this.1
theorem zBY {t:Ad} {n:Af} {st:List Ab} {f:AJ} {many:Int} (hg:Be t=true) (hn:n.length≤2000000) (hh: ∀b∈head t n,b≠47) (A0:BZ st=true) (h1:1≤many) (h2:many≤24):
  ∃r,Vk t n st f many=some r∧((QY t n st).bind fun k=>Nf k st f many)=some r∧BZ r.1=true∧(r.2.al=f.al∨Ao r.2.al=true)∧
   r=KN ((Bw t n st).map BO) f many.toNat st:=by
 have hR:=(Eo A0).1;have hl:st.length≤2000000:=by have:=hR.len;omega
 have hT: ∀w∈st,GY w:=fun w hw=>aR (hR.ca w hw);have JJ:=VJ t n st;have hS:=RW hg;have P5:t.ab.length≤2000000:=by have:=hS.name;omega
 have PU:=oK (t:=t) (n:=n) A0;have Im:=pZ (t:=t) (n:=n) P5 hn hl hT;have fO:=zv0 (t:=t) (n:=n) P5 hn hh hl hT;have Az: ∀k∈(Bw t n st).map BO,KM k:=fun k hk=>by obtain⟨r,hr,rfl⟩:=List.mem_map.1 hk;exact VX (PU r hr)
 have B6:=zsJ (t:=t) (n:=n) hR.cu;have Ej:((Bw t n st).map BO).length≤2000000:=by rw [List.length_map];omega
 obtain⟨m,rfl⟩:=Int.eq_ofNat_of_zero_le (show 0≤many by omega);have Oo:=vA (f:=f) Ej Az A0 h1 h2;rw [Int.toNat_natCast]at Oo ⊢;have Jw: ∀k∈((Bw t n st).map BO).filter (fun k=>behind f.al k.a6),KM k:=fun k hk=>Az k (List.mem_filter.1 hk).1;have EB:=RU (((Bw t n st).map BO).filter fun k=>behind f.al k.a6) m 0 (last:=f.al) Jw A0;have E8:=pR (((Bw t n st).map BO).filter fun k=>behind f.al k.a6) m 0 st f.al;have FD:=pF (m:=m) (st:=st) (last:=f.al) B6;have e:((Bw t n st).map BO).filter (fun k=>behind f.al k.a6)=((Bw t n st).filter fun k=>behind f.al k).map BO:=by rw [List.filter_map];rfl
 have Bj: ∃p:Af→Bool,Bw t n (A3 (((Bw t n st).map BO).filter fun k=>behind f.al k.a6) m 0 st f.al).1=(Bw t n st).filter p∧(∀k,bl (A3 (((Bw t n st).map BO).filter fun k=>behind f.al k.a6) m 0 st f.al).2.2 k=true→p k=true):=by have C5:=B6.filter fun k=>behind f.al k.a6;rw [e]at C5 ⊢;obtain⟨p,e1,e2,_,_⟩:=nM (t:=t) (nm:=n) _ m 0 st f.al C5 (fun q hq=>by rw [←IZ];simpa using(List.mem_filter.1 hq).2) (fun q hq=>PU q (List.mem_filter.1 hq).1) A0;exact⟨p,e1,e2⟩
 refine⟨_, ?_,by rw [zE0 hl fO,Aa];exact Oo,EB, ?_,rfl⟩
 ·have JO:Vk t n st f m=Yv t n f (EP ((Bw t n st).map BO) m st f.al).2 (EP ((Bw t n st).map BO) m st f.al).1:=by
   unfold Vk;rw [AN (by simp;omega),Im,Aa];have:=pI (t:=t) (n:=n) (f:=f) (K:=Bw t n st) (by omega) PU (Bw t n st).length 0 m st f.al (by omega) (by omega) A0;rw [List.drop_zero]at this;exact this
  rw [JO,zvo B6];unfold KN;generalize hP:A3 (((Bw t n st).map BO).filter fun k=>behind f.al k.a6) m 0 st f.al=p at EB Bj FD;dsimp only;unfold Yv;cases TP:f.bc with
  |true=>simp
  |false=>
   have HE:=(Eo EB).1;obtain⟨pr,e1,e2⟩:=Bj;have Kl:=VJ t n p.1;rw [if_neg (by simp),pZ P5 hn (by have:=HE.len;omega) (fun w hw=>aR (HE.ca w hw)),Aa,xU (by have:=HE.len;omega),Aa];have e3:(Bw t n p.1).any (fun k=>behind p.2.2 k)=((Bw t n st).map BO).any fun k=>behind p.2.2 k.a6:=by
    rw [e1,List.any_filter,List.any_map];congr 1;funext k;show(pr k&&behind p.2.2 k)=behind p.2.2 k;cases hb:behind p.2.2 k with
    |false=>rw [Bool.and_false]
    |true=>rw [e2 k (by rw [←IZ];exact hb)];rfl
   rw [e3,FD];simp
 ·rcases E8 with e|⟨k,hk,e⟩
  ·exact .inl e
  ·obtain⟨q,hq,rfl⟩:=List.mem_map.1 (List.mem_filter.1 hk).1;refine .inr ?_;show Ao (A3 _ m 0 st f.al).2.2=true;rw [e];exact PU q hq
def GQ (l:List Int):Bool:=l.all fun x=>l.all fun y=> !decide (x-y>1)
theorem wB {l:List Int} (hl:l.length≤2000000) (hb: ∀y∈l,0≤y∧y≤3):Zb l=some (GQ l):=by
 unfold Zb;have Cb: ∀(i:Nat) (hi:i<l.length),At (fun s:Int=>O5 l i l[i] s) 0=some (if(l.all fun y=> !decide (l[i]-y>1))=true then .inl ((i+1:Nat):Int)else .inr (some false)):=by
  intro i hi;have hx:=hb _ (List.getElem_mem hi);rw [LM (xs:=l) (body:=fun s:Int=>O5 l i l[i] s) (fun y=> !decide (l[i]-y>1)) (.inr (some false)) (lP i) (fun j hj=>by
   have hy:=hb _ (List.getElem_mem hj);have w:IntKind.i64.wrap (l[i]-l[j])=l[i]-l[j]:=A9 (by omega) (by omega);show O5 l i l[i] j=_;unfold O5;rw [if_pos (by simpa using hj),AK hj,Aa,w,AX hj (by omega)];cases decide (l[i]-l[j]>1)<;>rfl) (by
   show O5 l i l[i] l.length=_;unfold O5;rw [if_neg (by simp)])]
  unfold lP;rw [AX hi (by omega)];split<;>rfl
 rw [LM (xs:=l) (body:=fun s:Int=>Rn l s) (fun x=>l.all fun y=> !decide (x-y>1)) false (some true) (fun i hi=>by
  show Rn l i=_;unfold Rn;rw [if_pos (by simpa using hi),AK hi,Aa];exact Cb i hi) (by
  show Rn l l.length=_;unfold Rn;rw [if_neg (by simp)])]
 unfold GQ;cases(l.all fun x=>l.all fun y=> !decide (x-y>1))<;>rfl
def Lr (a:Int) (l:List Int):Int:=l.foldl (fun m y=>bif decide (y>m)then y else m) a
def Lq (a:Int) (l:List Int):Int:=l.foldl (fun m y=>bif decide (y<m)then y else m) a
theorem xV: ∀(l:List Int) (a:Int),Lr a l∈a::l∧ ∀x∈a::l,x≤Lr a l
 | [],a=>by simp [Lr]
 |y::l,a=>by
  obtain⟨h1,h2⟩:=xV l (bif decide (y>a)then y else a);have e:Lr a (y::l)=Lr (bif decide (y>a)then y else a) l:=rfl;rw [e];have ha:a≤(bif decide (y>a)then y else a)∧y≤(bif decide (y>a)then y else a):=by
   by_cases h:y>a
   ·rw [decide_eq_true h];exact⟨by simp;omega,by simp⟩
   ·rw [decide_eq_false h];exact⟨by simp,by simp;omega⟩
  have hm:=h2 _ (List.mem_cons_self);refine⟨?_,fun x hx=> ?_⟩
  ·rcases Ag.1 h1 with h|h
   ·rw [h];by_cases hc:y>a
    ·rw [decide_eq_true hc];simp
    ·rw [decide_eq_false hc];simp
   ·simp [h]
  ·rcases Ag.1 hx with rfl|hx
   ·omega
   ·rcases Ag.1 hx with rfl|hx
    ·omega
    ·exact h2 x (by simp [hx])
theorem xG: ∀(l:List Int) (a:Int),Lq a l∈a::l∧ ∀x∈a::l,Lq a l≤x
 | [],a=>by simp [Lq]
 |y::l,a=>by
  obtain⟨h1,h2⟩:=xG l (bif decide (y<a)then y else a);have e:Lq a (y::l)=Lq (bif decide (y<a)then y else a) l:=rfl;rw [e];have ha:(bif decide (y<a)then y else a)≤a∧(bif decide (y<a)then y else a)≤y:=by
   by_cases h:y<a
   ·rw [decide_eq_true h];exact⟨by simp;omega,by simp⟩
   ·rw [decide_eq_false h];exact⟨by simp,by simp;omega⟩
  have hm:=h2 _ (List.mem_cons_self);refine⟨?_,fun x hx=> ?_⟩
  ·rcases Ag.1 h1 with h|h
   ·rw [h];by_cases hc:y<a
    ·rw [decide_eq_true hc];simp
    ·rw [decide_eq_false hc];simp
   ·simp [h]
  ·rcases Ag.1 hx with rfl|hx
   ·omega
   ·rcases Ag.1 hx with rfl|hx
    ·omega
    ·exact h2 x (by simp [hx])
theorem zJP {l:List Int} {a:Int} (hl:l.length≤2000000):Yc (a::l)=some (Lr a l):=by
 have key: ∀(n q:Nat) (m:Int),q+n=(a::l).length→At (fun s:Int × Int=>OR (a::l) s.1 s.2) (m,(q:Int))=some (Lr m ((a::l).drop q)):=by
  intro n
  induction n with
  |zero=>intro q m hq;rw [List.drop_eq_nil_of_le (by omega)];refine Db ?_;show OR (a::l) m q=_;unfold OR;rw [if_neg (by rw [decide_eq_true_eq];omega)];rfl
  |succ n ih=>
   intro q m hq;have An:q<(a::l).length:=by omega
   have DO:(a::l).length=l.length+1:=Ap;have e:OR (a::l) m q=some (.inl ((bif decide ((a::l)[q]>m)then(a::l)[q]else m),((q+1:Nat):Int))):=by unfold OR;rw [if_pos (decide_eq_true (by omega)),AK An,Aa,AX An (by omega)]
   rw [Dx (body:=fun s:Int × Int=>OR (a::l) s.1 s.2) e,ih (q+1) _ (by omega),List.drop_eq_getElem_cons An];rfl
 unfold Yc;rw [if_neg (by rw [decide_eq_true_eq,Ap];omega),show Am (a::l) 0=some a from rfl,Aa];exact key l.length 1 a (by rw [Ap];omega)
theorem zJV {l:List Int} {a:Int} (hl:l.length≤2000000):Yh (a::l)=some (Lq a l):=by
 have key: ∀(n q:Nat) (m:Int),q+n=(a::l).length→At (fun s:Int × Int=>OS (a::l) s.1 s.2) (m,(q:Int))=some (Lq m ((a::l).drop q)):=by
  intro n
  induction n with
  |zero=>intro q m hq;rw [List.drop_eq_nil_of_le (by omega)];refine Db ?_;show OS (a::l) m q=_;unfold OS;rw [if_neg (by rw [decide_eq_true_eq];omega)];rfl
  |succ n ih=>
   intro q m hq;have An:q<(a::l).length:=by omega
   have DO:(a::l).length=l.length+1:=Ap;have e:OS (a::l) m q=some (.inl ((bif decide ((a::l)[q]<m)then(a::l)[q]else m),((q+1:Nat):Int))):=by unfold OS;rw [if_pos (decide_eq_true (by omega)),AK An,Aa,AX An (by omega)]
   rw [Dx (body:=fun s:Int × Int=>OS (a::l) s.1 s.2) e,ih (q+1) _ (by omega),List.drop_eq_getElem_cons An];rfl
 unfold Yh;rw [if_neg (by rw [decide_eq_true_eq,Ap];omega),show Am (a::l) 0=some a from rfl,Aa];exact key l.length 1 a (by rw [Ap];omega)
theorem zGc {s:AA} (hl:s.bj.length≤2000000) (h1:1≤s.bj.length) (hb: ∀y∈s.bj,0≤y∧y≤3):Yf s=some (GQ s.bj):=by
 unfold Yf;generalize s.bj=l at hl h1 hb;cases l with
 |nil=>simp at h1
 |cons a l=>
  rw [Ap]at hl;rw [zJP (by omega),zJV (by omega),Aa,Aa];obtain⟨x1,x2⟩:=xV l a;obtain⟨n1,n2⟩:=xG l a;have b1:=hb _ x1;have b2:=hb _ n1;have w:IntKind.i64.wrap (Lr a l-Lq a l)=Lr a l-Lq a l:=A9 (by omega) (by omega);rw [w];congr 1;unfold GQ;rw [Bool.eq_iff_iff];simp only [decide_eq_true_eq,AR,Bool.not_eq_true',decide_eq_false_iff_not];constructor
  ·intro h x hx y hy;have:=x2 x hx;have:=n2 y hy;omega
  ·intro h;have:=h _ x1 _ n1;omega
theorem zFs {s:AA} {a:CW} (hS:Fh s) (hg:CJ s) (hA:EN a.fAct) (B4:Iq s a): ∃r,Pg s a=some r∧Yx s a=some r:=by
 obtain⟨r,k1,k2,hn⟩:=Pk hS hg hA B4;unfold Pg Yx;rw [k1,k2,Aa,Aa];by_cases h:r.2=true
 ·rw [if_pos h,if_pos h];have h3:=CN.1 hn.ca.2.2.2.2.1;have hw:=hn.ca.2.1;have hb: ∀y∈r.1.bj,0≤y∧y≤3:=fun y hy=>by
   have:=hn.ca.2.2.2.2.2.1 y hy;omega
  have hl:=hn.small.at_;rw [wB hl hb,zGc hl (by omega) hb,Aa,Aa];obtain⟨q,q1,q2⟩:=zD0 hn.small hn.ca;by_cases hc:GQ r.1.bj=true
  ·rw [if_pos hc,if_pos hc,q1,q2];exact⟨q,rfl,rfl⟩
  ·rw [if_neg hc,if_neg hc];exact⟨_,rfl,rfl⟩
 ·rw [if_neg h,if_neg h];exact⟨_,rfl,rfl⟩
def WM (t:Ad) (n:Af) (st:List Ab):Prop:= ∀w∈st,CY t n w.af=false
def Mg (t:Ad) (n:Af) (x:Au) (st:List Ab):Prop:= ∀w∈st,CY t n w.af=true→ ∃q∈st,Cy t q=true∧w.af=BJ t n x.bh (B9 q)
def Mf (t:Ad) (n:Af) (x:Au) (st:List Ab):Prop:= ∀q∈st,Cy t q=true→ ∃w∈st,w.af=BJ t n x.bh (B9 q)
structure Fl (t:Ad) (a:Bf):Prop where
 tab:Be t=true
 old:a.aj≠1→Bo t a.bg=true
 new:a.aj≠2→Bo t a.bm=true
 kind:a.aj=1∨a.aj=2∨a.aj=3
 same:a.aj=3→C3 a.bg 0=C3 a.bm 0
structure E4 (t:Ad) (a:Bf) (n:Af) (x:Au):Prop extends Fl t a where
 idx:x∈t.ah
 name:x.ab=n
theorem E4.nt {t:Ad} {a:Bf} {n:Af} {x:Au} (A:E4 t a n x):Fl t a:=⟨A.tab,A.old,A.new,A.kind,A.same⟩
theorem zIo {t:Ad} {a:Bf} (hg:Be t=true) (h:Hu t a=true):Fl t a:=by
 unfold Hu at h;by_cases h1:a.aj=1
 ·rw [if_pos h1,Ae]at h;exact⟨hg,fun k=>absurd h1 k,fun _=>h.2, .inl h1,fun k=>by omega⟩
 rw [if_neg h1]at h;by_cases h2:a.aj=2
 ·rw [if_pos h2,Ae]at h;exact⟨hg,fun _=>h.1,fun k=>absurd h2 k, .inr (.inl h2),fun k=>by omega⟩
 rw [if_neg h2]at h;by_cases h3:a.aj=3
 ·rw [if_pos h3,Ae,Ae,beq_iff_eq]at h;exact⟨hg,fun _=>h.1,fun _=>h.2.1, .inr (.inr h3),fun _=>h.2.2⟩
 rw [if_neg h3]at h;cases h
theorem xL {t:Ad} {a:Bf} {n:Af} {x:Au} (hg:Be t=true) (hx:x∈t.ah) (hn:x.ab=n) (h:Hu t a=true):E4 t a n x:=⟨zIo hg h,hx,hn⟩
theorem XH (t:Ad) (m:Af) (c:Int) (r:AL):BJ t m c r≠ []:=by unfold BJ;simp
section
variable {t:Ad} {a:Bf} (A:Fl t a)
include A
theorem Fl.dw (h:a.aj≠1) {y:Au}:ER t a y=BJ t y.ab y.bh a.bg:=by have _:=A;unfold ER;rw [if_neg h]
theorem Fl.dq (h:a.aj≠2) {y:Au}:DX t a y=BJ t y.ab y.bh a.bm:=by have _:=A;unfold DX;rw [if_neg h]
theorem Fl.ed {y:Au} {w:Ab} (hw:w∈Gu t a y):(w=⟨ER t a y, [],true⟩∧a.aj≠1∧ER t a y≠DX t a y∧y.ao≥1)∨(w=⟨DX t a y, [],false⟩∧a.aj≠2∧y.ao≥2):=by
 have _:=A;unfold Gu at hw;rcases Ai.1 hw with hw|hw
 ·split at hw
  ·rename_i h;rw [List.mem_singleton]at hw;refine .inl ⟨hw,fun k=> ?_,h.2.1,h.2.2⟩;apply h.1;unfold ER;rw [if_pos k]
  ·simp at hw
 ·split at hw
  ·rename_i h;rw [List.mem_singleton]at hw;refine .inr ⟨hw,fun k=> ?_,h.2⟩;apply h.1;unfold DX;rw [if_pos k]
  ·simp at hw
theorem Fl.df {n:Af} {y:Au} (hy:y∈t.ah) {w:Ab} (hw:w∈Gu t a y): ∃r,Bo t r=true∧w.af=BJ t y.ab y.bh r∧CY t n w.af=decide (y.ab=n):=by
 have hc:=CN.1 (FY A.tab hy).2;have hl:=(FY A.tab hy).1;rcases A.ed hw with⟨rfl,h,_⟩|⟨rfl,h,_⟩
 ·refine⟨a.bg,A.old h,A.dw h, ?_⟩;show CY t n (ER t a y)=_;rw [A.dw h];exact R6 A.tab hl (A.old h) (by omega) hc.2
 ·refine⟨a.bm,A.new h,A.dq h, ?_⟩;show CY t n (DX t a y)=_;rw [A.dq h];exact R6 A.tab hl (A.new h) (by omega) hc.2
theorem Fl.gl {w:Ab} (hw:w∈H8 t a): ∃r,Bo t r=true∧w.af=(AZ t r).af:=by
 unfold H8 at hw;split at hw
 ·rename_i h;rw [List.mem_singleton]at hw;subst hw;exact⟨a.bm,A.new (by omega),rfl⟩
 ·rename_i h;split at hw
  ·rw [List.mem_singleton]at hw;subst hw;exact⟨a.bg,A.old h,rfl⟩
  ·rw [List.mem_singleton]at hw;subst hw;exact⟨a.bg,A.old h,rfl⟩
theorem Fl.gp {w:Ab} (hw:w∈DW t a):w∈H8 t a∨ ∃y∈t.ah,w∈Gu t a y:=by
 have _:=A;unfold DW at hw;rcases Ai.1 hw with h|h
 ·exact .inl h
 ·exact .inr (List.mem_flatMap.1 h)
theorem Fl.kx (h:a.aj≠2):AZ t a.bm∈DW t a:=by
 refine Ai.2 (.inl ?_);unfold H8;rcases A.kind with k|k|k
 ·rw [if_pos k];exact List.mem_singleton.2 rfl
 ·exact absurd k h
 ·rw [if_neg (by omega),if_neg (by omega),List.mem_singleton,LF,A.same k,←LF];rfl
theorem Fl.gk {w:Ab} (hw:w∈DW t a) (hr:Cy t w=true):w=AZ t a.bm∧a.aj≠2:=by
 obtain⟨EC,FU⟩:=GN hr;rcases A.gp hw with h|⟨y,hy,h⟩
 ·unfold H8 at h;rcases A.kind with k|k|k
  ·rw [if_pos k,List.mem_singleton]at h;exact⟨h,by omega⟩
  ·rw [if_neg (by omega),if_pos k,List.mem_singleton]at h;have:w.bf=true:=by rw [h]
   rw [FU]at this;cases this
  ·rw [if_neg (by omega),if_neg (by omega),List.mem_singleton,LF,A.same k,←LF]at h;exact⟨h,by omega⟩
 ·obtain⟨r,N8,e,_⟩:=A.df (n:= []) hy h;rw [FU]at e;exact absurd e (aP A.tab (FY A.tab hy).1 EC N8)
theorem Fl.j6 {w q:Ab} (hw:w∈DW t a) (hq:Cy t q=true) (e:w.af=q.af):w∈H8 t a:=by
 obtain⟨EC,FU⟩:=GN hq;rcases A.gp hw with h|⟨y,hy,h⟩
 ·exact h
 ·obtain⟨r,N8,e2,_⟩:=A.df (n:= []) hy h;rw [e,FU]at e2;exact absurd e2 (aP A.tab (FY A.tab hy).1 EC N8)
theorem Fl.jv (h:a.aj≠1) {w:Ab} (hw:w∈H8 t a):w.af=(AZ t a.bg).af:=by have _:=A;unfold H8 at hw;rw [if_neg h]at hw;split at hw<;>(rw [List.mem_singleton]at hw;rw [hw])
theorem Fl.fq (h:a.aj≠1): ∃w∈DW t a,w.af=(AZ t a.bg).af:=by have _:=A;unfold DW H8;rw [if_neg h];split<;>exact⟨_,Ai.2 (.inl (List.mem_singleton.2 rfl)),rfl⟩
theorem Fl.jr (h:a.aj=1) {w:Ab} (hw:w∈H8 t a):w.af=(AZ t a.bm).af:=by have _:=A;unfold H8 at hw;rw [if_pos h,List.mem_singleton]at hw;rw [hw]
end
section
variable {t:Ad} {a:Bf} {n:Af} {x:Au} (A:E4 t a n x)
include A
theorem E4.jy:CX n 1=true:=by rw [←A.name];exact(FY A.tab A.idx).1
theorem E4.k8:1≤x.bh∧x.bh≤(t.aq.length:Int)-1:=CN.1 (FY A.tab A.idx).2
theorem E4.gq {w:Ab} (hw:w∈Gu t a x):w∈DW t a:=by unfold DW;exact Ai.2 (.inr (List.mem_flatMap.2 ⟨x,A.idx,hw⟩))
theorem E4.db {w:Ab} (hw:w∈DW t a) (he:CY t n w.af=true):w∈Gu t a x:=by
 rcases A.gp hw with h|⟨y,hy,h⟩
 ·obtain⟨r,hr,e⟩:=A.gl h;rw [e,zyB A.tab hr]at he;cases he
 ·obtain⟨r,_,_,e⟩:=A.df (n:=n) hy h;rw [e,decide_eq_true_eq]at he;have:y=x:=(rL A.tab).gf hy A.idx (he.trans A.name.symm);rw [←this];exact h
variable {st st':List Ab} (hB:SN t a st st')
include hB
theorem E4.ju (hs:x.ao≤1) (h:WM t n st):WM t n st':=by
 intro y hy;cases he:CY t n y.af with
 |false=>rfl
 |true=>
  obtain⟨Dj,h1|h1⟩:=(hB y).1 hy
  ·rcases A.ed (A.db h1 he)with⟨e,_⟩|⟨_,_,k⟩
   ·rw [e]at Dj;cases Dj
   ·omega
  ·rw [h y h1.1]at he;cases he
theorem E4.ew (hr:DI st) (hA:kJ t a st) (hs:1≤x.ao) (h:Mg t n x st):Mg t n x st':=by
 have A2:a.aj≠2→ ∃q∈st',Cy t q=true∧B9 q=a.bm:=fun k=>
  ⟨AZ t a.bm,(hB _).2 ⟨rfl, .inl (A.kx k)⟩,zJl A.tab (A.new k),Wf A.tab (A.new k)⟩
 intro y hy he;obtain⟨Dj,h1|⟨h1,h2⟩⟩:=(hB y).1 hy
 ·rcases A.ed (A.db h1 he)with⟨e,_⟩|⟨e,k,_⟩
  ·rw [e]at Dj;cases Dj
  ·obtain⟨q,q1,q2,q3⟩:=A2 k;refine⟨q,q1,q2, ?_⟩;rw [q3,e];show DX t a x=_;rw [A.dq k,A.name]
 ·obtain⟨q,q1,q2,q3⟩:=h y h1 he;obtain⟨EC,FU⟩:=GN q2;by_cases ho: ∀w∈DW t a,w.af≠q.af
  ·exact⟨q,(hB q).2 ⟨by rw [FU];rfl, .inr ⟨q1,ho⟩⟩,q2,q3⟩
  ·have⟨w,hw,e⟩: ∃w∈DW t a,w.af=q.af:=by
    apply Classical.byContradiction;intro hc;exact ho fun w hw e=>hc ⟨w,hw,e⟩
   have uH:=A.j6 hw q2 e;by_cases k1:a.aj=1
   ·exact absurd (e.symm.trans (A.jr k1 uH)) (hA.1 k1 q q1)
   ·have hq:q=AZ t a.bg:=E3.gf (key:=fun w:Ab=>w.af) hr q1 (hA.2 k1) (e.symm.trans (A.jv k1 uH));have Hn:y.af=ER t a x:=by
     rw [q3,hq,Wf A.tab (A.old k1),A.dw k1,A.name]
    have JG:ER t a x=DX t a x:=by
     apply Classical.byContradiction;intro hc;have hm:(⟨ER t a x, [],true⟩:Ab)∈Gu t a x:=by unfold Gu;rw [if_pos ⟨by rw [A.dw k1];exact XH _ _ _ _,hc,hs⟩];simp
     exact h2 _ (A.gq hm) Hn.symm
    have k2:a.aj≠2:=by
     intro k;have:DX t a x= []:=by unfold DX;rw [if_pos k]
     rw [this,A.dw k1]at JG;exact XH _ _ _ _ JG
    obtain⟨p,p1,p2,p3⟩:=A2 k2;refine⟨p,p1,p2, ?_⟩;rw [p3,Hn,JG,A.dq k2,A.name]
theorem E4.jb (hn: ∀w∈st,w.bf=false) (hs:2≤x.ao) (h:Mf t n x st):Mf t n x st':=by
 intro q hq hr;obtain⟨EC,FU⟩:=GN hr;obtain⟨Dj,h1|⟨h1,h2⟩⟩:=(hB q).1 hq
 ·obtain⟨e,k⟩:=A.gk h1 hr;have hm:(⟨DX t a x, [],false⟩:Ab)∈Gu t a x:=by
   unfold Gu;refine Ai.2 (.inr ?_);rw [if_pos ⟨by rw [A.dq k];exact XH _ _ _ _,hs⟩];simp
  refine⟨_,(hB _).2 ⟨rfl, .inl (A.gq hm)⟩, ?_⟩;show DX t a x=_;rw [e,Wf A.tab (A.new k),A.dq k,A.name]
 ·obtain⟨w,w1,w2⟩:=h q h1 hr;by_cases ho: ∀z∈DW t a,z.af≠w.af
  ·exact⟨w,(hB w).2 ⟨hn w w1, .inr ⟨w1,ho⟩⟩,w2⟩
  ·have⟨z,hz,e⟩: ∃z∈DW t a,z.af=w.af:=by
    apply Classical.byContradiction;intro hc;exact ho fun z hz e=>hc ⟨z,hz,e⟩
   have he:CY t n z.af=true:=by rw [e,w2,R6 A.tab A.jy EC (by have:=A.k8;omega) A.k8.2];simp
   rcases A.ed (A.db hz he)with⟨e1,k1,_⟩|⟨e1,k2,_⟩
   ·exfalso;have hk:BJ t n x.bh a.bg=BJ t n x.bh (B9 q):=by
     have:z.af=ER t a x:=by rw [e1]
     rw [e,w2,A.dw k1,A.name]at this;exact this.symm
    have hp:=zuc A.tab A.jy (A.old k1) EC hk;obtain⟨u,u1,u2⟩:=A.fq k1;apply h2 u u1;rw [u2,FU,LF,LF,hp]
   ·exact⟨z,(hB z).2 ⟨by rw [e1], .inl hz⟩,e.trans w2⟩
end
theorem aZ {t:Ad} {n:Af} {x:Au} {st:List Ab}:holds t n x 0 st=true↔WM t n st:=by
 unfold holds Bw WM;rw [if_pos (by rfl)];simp only [List.length_map,beq_iff_eq];constructor
 ·intro h w hw;have h0:(st.filter fun w=>CY t n w.af)= []:=List.eq_nil_of_length_eq_zero (by omega);have:=List.filter_eq_nil_iff.1 h0 w hw;simpa using this
 ·intro h;rw [List.filter_eq_nil_iff.2 fun w hw=>by rw [h w hw];simp];rfl
theorem V9 {a b:List Af}:((less a b).length:Int)=0↔ ∀k∈a,k∈b:=by
 unfold less;constructor
 ·intro h k hk;have h0:(a.filter fun k=> !b.contains k)= []:=List.eq_nil_of_length_eq_zero (by omega);have:=List.filter_eq_nil_iff.1 h0 k hk;simpa using this
 ·intro h;rw [List.filter_eq_nil_iff.2 fun k hk=>by simpa using h k hk];rfl
theorem RY {t:Ad} {n:Af} {x:Au} {st:List Ab} {k:Af}:k∈wanted t n x st↔ ∃q∈st,Cy t q=true∧k=BJ t n x.bh (B9 q):=by
 unfold wanted rows;simp only [List.mem_map,List.mem_filter];constructor
 ·rintro⟨r,⟨q,⟨h1,h2⟩,rfl⟩,rfl⟩;exact⟨q,h1,h2,rfl⟩
 ·rintro⟨q,h1,h2,rfl⟩;exact⟨_,⟨q,⟨h1,h2⟩,rfl⟩,rfl⟩
theorem Iu {t:Ad} {n:Af} {st:List Ab} {k:Af}:k∈Bw t n st↔ ∃w∈st,CY t n w.af=true∧k=w.af:=by
 unfold Bw;simp only [List.mem_map,List.mem_filter];constructor
 ·rintro⟨w,⟨h1,h2⟩,rfl⟩;exact⟨w,h1,h2,rfl⟩
 ·rintro⟨w,h1,h2,rfl⟩;exact⟨w,⟨h1,h2⟩,rfl⟩
theorem sR {t:Ad} {n:Af} {x:Au} {st:List Ab}:(∀k∈Bw t n st,k∈wanted t n x st)↔Mg t n x st:=by
 constructor
 ·intro h w hw he;exact RY.1 (h w.af (Iu.2 ⟨w,hw,he,rfl⟩))
 ·intro h k hk;obtain⟨w,hw,he,rfl⟩:=Iu.1 hk;exact RY.2 (h w hw he)
theorem Se {t:Ad} {n:Af} {x:Au} {st:List Ab}:holds t n x 1 st=true↔Mg t n x st:=by rw [←sR,←V9];unfold holds;rw [if_neg (by decide)];simp
theorem zHO {t:Ad} {a:Bf} {n:Af} {x:Au} {st:List Ab} (A:E4 t a n x):(∀k∈wanted t n x st,k∈Bw t n st)↔Mf t n x st:=by
 constructor
 ·intro h q hq hr;obtain⟨w,hw,_,e⟩:=Iu.1 (h _ (RY.2 ⟨q,hq,hr,rfl⟩));exact⟨w,hw,e.symm⟩
 ·intro h k hk;obtain⟨q,hq,hr,rfl⟩:=RY.1 hk;obtain⟨w,hw,e⟩:=h q hq hr;refine Iu.2 ⟨w,hw, ?_,e.symm⟩;rw [e,R6 A.tab A.jy (GN hr).1 (by have:=A.k8;omega) A.k8.2];simp
theorem zyA {t:Ad} {a:Bf} {n:Af} {x:Au} {st:List Ab} (A:E4 t a n x):holds t n x 2 st=true↔Mg t n x st∧Mf t n x st:=by rw [←sR,←zHO A,←V9,←V9];unfold holds;rw [if_neg (by decide)];simp
theorem zKk {t:Ad} {a:Bf} {n:Af} {x:Au} {st st':List Ab} {low:Int} (A:E4 t a n x) (hg:BZ st=true) (hA:kJ t a st) (hB:SN t a st st')
  (hl:low=0∧x.ao≤1∨low=1∧1≤x.ao∨low=2∧2≤x.ao) (h:holds t n x low st=true):holds t n x low st'=true:=by
 obtain⟨hr,hn⟩:=Eo hg;rcases hl with⟨rfl,hs⟩|⟨rfl,hs⟩|⟨rfl,hs⟩
 ·exact aZ.2 (A.ju hB hs (aZ.1 h))
 ·exact Se.2 (A.ew hB hr.cu hA hs (Se.1 h))
 ·have h2:=(zyA A).1 h;exact(zyA A).2 ⟨A.ew hB hr.cu hA (by omega) h2.1,A.jb hB hn hs h2.2⟩
abbrev WE (l:List Ab):Prop:=l.Pairwise fun a b=>a.af≠b.af
theorem sF: ∀(l:List Ab) {s:List Ab},WE l→DI s→ ∀y,y∈l.foldl (fun o w=>BM wk w o) s↔y∈l∨y∈s∧ ∀w∈l,w.af≠y.af
 | [],s,_,_,y=>by simp
 |x::l,s,hl,hs,y=>by
  unfold WE at hl;rw [List.pairwise_cons]at hl;rw [List.foldl_cons,sF l hl.2 (cB hs),Wa hs];constructor
  ·rintro(h|⟨h1|h1,h2⟩)
   ·exact .inl (by simp [h])
   ·exact .inl (by simp [h1])
   ·exact .inr ⟨h1.1,fun w hw=>by
     rcases Ag.1 hw with rfl|hw
     ·exact fun e=>h1.2 e.symm
     ·exact h2 w hw⟩
  ·rintro(h|⟨h1,h2⟩)
   ·rcases Ag.1 h with rfl|h
    ·exact .inr ⟨.inl rfl,fun w hw e=>hl.1 w hw e.symm⟩
    ·exact .inl h
   ·exact .inr ⟨.inr ⟨h1,fun e=>h2 x (by simp) e.symm⟩,fun w hw=>h2 w (by simp [hw])⟩
theorem zBN {l:List Ab} (h:DI l):WE l:=List.Pairwise.imp (fun h=>F0 h) h
theorem zyZ: ∀(l:List Ab) {s:List Ab},DI s→DI (l.foldl (fun o w=>BM wk w o) s)
 | [],_,h=>h
 |_::l,_,h=>zyZ l (cB h)
theorem zGo {t:Ad} {m n:Af} {c d:Int} {r q:AL} (hg:Be t=true) (hm:CX m 1=true) (hn:CX n 1=true) (h:Bo t r=true) (k:Bo t q=true) (Bl:m≠n):BJ t m c r≠BJ t n d q:=by intro e;have h1:=Sc (c:=c) hg hm h;rw [e,Sc hg hn k]at h1;simp only [List.cons.injEq]at h1;have h2:=h1.1;unfold head at h2;exact Bl (List.append_cancel_left h2).symm
theorem Fl.apart {t:Ad} {a:Bf} (A:Fl t a):WE (DW t a):=by
 unfold WE DW;rw [List.pairwise_append];refine⟨?_, ?_,fun w hw z hz e=> ?_⟩
 ·unfold H8;split
  ·exact List.pairwise_singleton _ _
  ·split<;>exact List.pairwise_singleton _ _
 ·rw [List.pairwise_flatMap];refine⟨fun y hy=> ?_, ?_⟩
  ·unfold Gu;rw [List.pairwise_append];refine⟨?_, ?_,fun w hw z hz e=> ?_⟩
   ·split
    ·exact List.pairwise_singleton _ _
    ·exact List.Pairwise.nil
   ·split
    ·exact List.pairwise_singleton _ _
    ·exact List.Pairwise.nil
   ·split at hw
    ·rename_i h;rw [List.mem_singleton]at hw;split at hz
     ·rw [List.mem_singleton]at hz;rw [hw,hz]at e;exact h.2.1 e
     ·simp at hz
    ·simp at hw
  ·refine List.Pairwise.imp_of_mem (fun{y z} hy hz hyz w hw u hu e=> ?_) (rL A.tab);obtain⟨r,h1,h2,_⟩:=A.df (n:= []) hy hw;obtain⟨q,k1,k2,_⟩:=A.df (n:= []) hz hu;rw [h2,k2]at e;exact zGo A.tab (FY A.tab hy).1 (FY A.tab hz).1 h1 k1 (F0 hyz) e
 ·obtain⟨r,h1,h2⟩:=A.gl hw;obtain⟨y,hy,hz⟩:=List.mem_flatMap.1 hz;obtain⟨q,k1,k2,_⟩:=A.df (n:= []) hy hz;rw [h2,k2]at e;exact aP A.tab (FY A.tab hy).1 h1 k1 e
theorem Fl.behind {t:Ad} {a:Bf} (A:Fl t a) {st:List Ab} (hr:DI st):SN t a st (Df st ((DW t a).foldl (fun o w=>BM wk w o) [])):=by
 have hw:DI ((DW t a).foldl (fun o w=>BM wk w o) []):=zyZ _ List.Pairwise.nil;have hm: ∀y,y∈(DW t a).foldl (fun o w=>BM wk w o) []↔y∈DW t a:=fun y=>by rw [sF _ A.apart List.Pairwise.nil];simp
 intro y;unfold Df;rw [List.mem_filter,sF _ (zBN hw) hr,hm];constructor
 ·rintro⟨h|⟨h1,h2⟩,h3⟩
  ·exact⟨by simpa using h3, .inl h⟩
  ·exact⟨by simpa using h3, .inr ⟨h1,fun w hw=>h2 w ((hm w).2 hw)⟩⟩
 ·rintro⟨h3,h|⟨h1,h2⟩⟩
  ·exact⟨.inl h,by simpa using h3⟩
  ·exact⟨.inr ⟨h1,fun w hw=>h2 w ((hm w).1 hw)⟩,by simpa using h3⟩
def HQ (o:Ax):Ab:=if o.aj=3 then⟨o.af, [],true⟩else⟨o.af,o.ay,false⟩
theorem zFC (t:Ad) (a:Bf) (x:Au):(GO t a x).map HQ=Gu t a x:=by
 unfold GO Gu KP Jd;rw [List.map_append];congr 1
 ·split<;>rfl
 ·split<;>rfl
theorem ztf {α β:Type} (f:α→List β): ∀(xs:List α) (a:List β),xs.foldl (fun a x=>a++f x) a=a++xs.flatMap f
 | [],a=>by simp
 |x::xs,a=>by rw [List.foldl_cons,ztf f xs,List.flatMap_cons,List.append_assoc]
theorem zz4 (t:Ad) (a:Bf): ∃o rest,DV t a=o::rest∧rest.map HQ=DW t a∧(∀p∈rest,p.aj=2∨p.aj=3)∧
  (a.aj=1→o=⟨6,(AZ t a.bm).af, [],0⟩)∧(a.aj≠1→o=⟨7,(AZ t a.bg).af,(AZ t a.bg).ay,0⟩):=by
 have hi: ∀p∈t.ah.flatMap (GO t a),p.aj=2∨p.aj=3:=by
  intro p hp;obtain⟨y,_,hp⟩:=List.mem_flatMap.1 hp;unfold GO KP Jd at hp;rcases Ai.1 hp with hp|hp
  ·split at hp
   ·rw [List.mem_singleton]at hp;subst hp;exact .inr rfl
   ·simp at hp
  ·split at hp
   ·rw [List.mem_singleton]at hp;subst hp;exact .inl rfl
   ·simp at hp
 have hw:(t.ah.flatMap (GO t a)).map HQ=t.ah.flatMap (Gu t a):=by rw [List.map_flatMap];congr 1;funext y;exact zFC t a y
 unfold DV DW H8;rw [ztf];unfold KH;by_cases h1:a.aj=1
 ·rw [if_pos h1,if_pos h1];refine⟨_,_,rfl, ?_,fun p hp=> ?_,fun _=>rfl,fun k=>absurd h1 k⟩
  ·show HQ _::(t.ah.flatMap (GO t a)).map HQ=_;rw [hw];rfl
  ·rcases Ag.1 hp with rfl|hp
   ·exact .inl rfl
   ·exact hi p hp
 ·rw [if_neg h1,if_neg h1];by_cases h2:a.aj=2
  ·rw [if_pos h2,if_pos h2];refine⟨_,_,rfl, ?_,fun p hp=> ?_,fun k=>absurd k h1,fun _=>rfl⟩
   ·show HQ _::(t.ah.flatMap (GO t a)).map HQ=_;rw [hw];rfl
   ·rcases Ag.1 hp with rfl|hp
    ·exact .inr rfl
    ·exact hi p hp
  ·rw [if_neg h2,if_neg h2];refine⟨_,_,rfl, ?_,fun p hp=> ?_,fun k=>absurd k h1,fun _=>rfl⟩
   ·show HQ _::(t.ah.flatMap (GO t a)).map HQ=_;rw [hw];rfl
   ·rcases Ag.1 hp with rfl|hp
    ·exact .inl rfl
    ·exact hi p hp
theorem qF {got:List zip}: ∀(l:List Ax) (ws:List Ab),(∀p∈l,p.aj=2∨p.aj=3)→Dn got l ws=(3, [],(l.map HQ).foldl (fun o w=>BM wk w o) ws)
 | [],ws,_=>rfl
 |o::l,ws,h=>by
  have hl: ∀p∈l,p.aj=2∨p.aj=3:=fun p hp=>h p (by simp [hp]);rw [Dn,List.map_cons,List.foldl_cons];rcases h o (by simp)with k|k
  ·rw [if_pos k,qF l _ hl];unfold HQ;rw [if_neg (by omega)]
  ·rw [if_neg (by omega),if_pos k,qF l _ hl];unfold HQ;rw [if_pos k]
theorem zyV {st:List Ab} {o:Ax} {rest:List Ax} (h2:o.aj≠2) (h3:o.aj≠3) (hr: ∀p∈rest,p.aj=2∨p.aj=3):
  Fj st (o::rest)=if Gx o (Dd st o.af).ay (Dd st o.af).dh=true then((rest.map HQ).foldl (fun o w=>BM wk w o) [],true)else([],false):=by
 have hgk:(Dd st o.af).af=o.af:=by unfold Dd;cases st.find? (fun w=>w.af==o.af)<;>rfl
 have BI:Dn [] (o::rest) []=(1,o.af, []):=by rw [Dn,if_neg h2,if_neg h3,if_neg (by simp [De,NK])]
 have A0:De [] [Dd st o.af] o.af=((Dd st o.af).ay,(Dd st o.af).dh,true):=by unfold De NK;rw [List.find?_nil,List.find?_cons,show((Dd st o.af).af==o.af)=true by rw [hgk];simp]
 have A4:Dn [Dd st o.af] (o::rest) []=if Gx o (Dd st o.af).ay (Dd st o.af).dh=true then(3, [],(rest.map HQ).foldl (fun o w=>BM wk w o) [])else(2, [], []):=by rw [Dn,if_neg h2,if_neg h3,A0,if_pos rfl,qF rest [] hr]
 unfold Fj;rw [Ip,BI,if_pos rfl,Ip];show(if(Dn [Dd st o.af] (o::rest) []).1=1 then _ else((Dn [Dd st o.af] (o::rest) []).2.2,(Dn [Dd st o.af] (o::rest) []).1==3))=_;rw [A4];by_cases hk:Gx o (Dd st o.af).ay (Dd st o.af).dh=true
 ·rw [if_pos hk,if_pos hk,if_neg (by simp)];rfl
 ·rw [if_neg hk,if_neg hk,if_neg (by simp)];rfl
theorem pJ {t:Ad} {a:Bf} (A:Fl t a) {st:List Ab} (hg:BZ st=true) (h:(Bc st (DV t a)).2=true):kJ t a st∧SN t a st (Bc st (DV t a)).1:=by
 obtain⟨hr,hn⟩:=Eo hg;obtain⟨o,rest,e,hw,hk,h1,h7⟩:=zz4 t a;have hk67:o.aj=6∨o.aj=7:=by
  by_cases k:a.aj=1
  ·rw [h1 k];exact .inl rfl
  ·rw [h7 k];exact .inr rfl
 have hR:=zyV (st:=st) (o:=o) (rest:=rest) (by omega) (by omega) hk;rw [e]at h ⊢;unfold Bc at h ⊢;rw [hR]at h ⊢;by_cases Az:Gx o (Dd st o.af).ay (Dd st o.af).dh=true
 ·rw [if_pos Az,hw]at h ⊢;by_cases hl:(Df st ((DW t a).foldl (fun o w=>BM wk w o) [])).length≤24
  ·rw [if_pos ⟨rfl,hl⟩];refine⟨⟨fun k w hm he=> ?_,fun k=> ?_⟩,A.behind hr.cu⟩
   ·rw [h1 k]at Az;unfold Gx Dd at Az;rw [if_pos rfl]at Az;cases ef:st.find? (fun w=>w.af==(AZ t a.bm).af)with
    |some z=>rw [ef]at Az;cases Az
    |none=>rw [List.find?_eq_none]at ef;exact absurd (by simpa using he) (ef w hm)
   ·rw [h7 k]at Az;unfold Gx Dd at Az;rw [if_neg (by simp)]at Az;cases ef:st.find? (fun w=>w.af==(AZ t a.bg).af)with
    |none=>rw [ef]at Az;cases Az
    |some z=>
     rw [ef]at Az;simp only [Bool.true_and,beq_iff_eq]at Az;have hz:=List.mem_of_find?_eq_some ef;have MK:z.af=(AZ t a.bg).af:=by simpa using List.find?_some ef
     have uL:=hn z hz;have:z=AZ t a.bg:=by cases z;simp only at Az MK uL;rw [Az,MK,uL];rfl
     rw [←this];exact hz
  ·rw [if_neg fun q=>hl q.2]at h;cases h
 ·rw [if_neg Az]at h;rw [if_neg (by simp)]at h;cases h
theorem zBR {t:Ad} {a:Bf} {n:Af} {x:Au} {st:List Ab} {low:Int} (A:E4 t a n x) (hg:BZ st=true) (hl:low=0∧x.ao≤1∨low=1∧1≤x.ao∨low=2∧2≤x.ao)
  (h:holds t n x low st=true):holds t n x low (Bc st (DV t a)).1=true:=by
 cases hd:(Bc st (DV t a)).2 with
 |true=>obtain⟨hA,hB⟩:=pJ A.nt hg hd;exact zKk A hg hA hB hl h
 |false=>
  have:(Bc st (DV t a)).1=st:=by
   unfold Bc at hd ⊢;split at hd
   ·cases hd
   ·rename_i q;rw [if_neg q]
  rw [this];exact h
theorem Ka {t:Ad} {n:Af} (h:C4 t n=true):EO t n (GJ t n)∧Cm t n=(GJ t n).ao∧GJ t n∈t.ah∧0≤Cm t n∧Cm t n≤3∧Be t=true:=by obtain⟨x,hx,e,h0,h3,hg⟩:=LU h;rw [yL hx];exact⟨hx,e,rS hx.at_,by omega,by omega,hg⟩
theorem rI {n:Af}: ∀l:List Au,BS (fun x:Au=>x.ab==n) l=BS (· ==n) (l.map (·.ab))
 | []=>rfl
 |x::l=>by rw [List.map_cons,Sf,Sf,rI l]
theorem zHx (t:Ad) (n:Af) (k c:Int):FK (FA t k c) n=FK t n:=by unfold FK;rw [rI,rI,o0]
theorem xR {t:Ad} {n:Af} {c:Int} (h:C4 t n=true):GJ (FA t (FK t n) c) n={GJ t n with ao:=c}:=by
 have hx:=(Ka h).1;have hl:=(Sw hx.at_).2.2;have h0:=(Sw hx.at_).1;have hk:(FK t n).toNat<t.ah.length:=by have:BS (fun y:Au=>y.ab==n) t.ah=FK t n:=rfl;rw [this]at hl h0;omega
 unfold GJ;rw [zHx];unfold FA;dsimp only;rw [List.getElem?_set_self hk];rfl
theorem zIs {t:Ad} {n:Af} {c:Int} (h:C4 t n=true):Cm (FA t (FK t n) c) n=c:=by have:Cm (FA t (FK t n) c) n=(GJ (FA t (FK t n) c) n).ao:=rfl;rw [this,xR h]
theorem zIB {t:Ad} {n:Af} {b:Int} (h:C4 t n=true):(way t (FK t n) (Cm t n) b).map (fun w=>Cm w n)=Cm t n::Gv 3 (Cm t n) b:=by
 unfold way;rw [List.map_cons,List.map_map];congr 1
 conv=>rhs;rw [←List.map_id (Gv 3 (Cm t n) b)]
 exact List.map_congr_left fun c _=>zIs h
def x6 (a b i j:Nat):Bool:=match((a:Int)::Gv 3 a b)[i]?,((a:Int)::Gv 3 a b)[j]? with
 |some x,some y=>decide (x≤y+1)
 |_,_=>true
theorem zFL: ∀a b i j:Fin 4,i.val≤j.val+1→j.val≤i.val+1→x6 a.val b.val i.val j.val=true:=by decide
theorem zCi {a b:Int} (Td:0≤a) (WY:a≤3) (FE:0≤b) (IN:b≤3) {i j:Nat} (hi:i<4) (hj:j<4) (h1:i≤j+1) (h2:j≤i+1) {x y:Int}
  (hx:(a::Gv 3 a b)[i]?=some x) (hy:(a::Gv 3 a b)[j]?=some y):x≤y+1:=by
 have h:=zFL ⟨a.toNat,by omega⟩ ⟨b.toNat,by omega⟩ ⟨i,hi⟩ ⟨j,hj⟩ h1 h2;unfold x6 at h;dsimp only at h;rw [Int.toNat_of_nonneg Td,Int.toNat_of_nonneg FE,hx,hy]at h;simpa using h
theorem zJj {s:AA} (hg:CJ s) {y:Int} (h0:0≤y) (h1:y≤(s.ak.length:Int)-1): ∃t,Am s.ak y=some t∧t∈s.ak∧y.toNat<4∧
  (Cm (B8 s) s.ab::Gv 3 (Cm (B8 s) s.ab) (Cm (Ja s) s.ab))[y.toNat]?=some (Cm t s.ab):=by
 obtain⟨t,e,ht,e2⟩:=LV (xs:=s.ak) h0 (by omega);have hI:=hg.2.2.1 _ (LH (s:=s) hg.1).2;have h4:=hg.2.1;refine⟨t,e,ht,by omega, ?_⟩;rw [←zIB hI,List.getElem?_map];have hw:way (B8 s) (FK (B8 s) s.ab) (Cm (B8 s) s.ab) (Cm (Ja s) s.ab)=s.ak:=hg.2.2.2.1.symm;rw [hw,e2];rfl
theorem pP {s:AA} (hg:CJ s) {u:Int} (h:u∈CM s): ∃y t,y∈s.bj∧Am s.ak y=some t∧t∈s.ak∧u=Cm t s.ab∧y.toNat<4∧0≤y∧
  (Cm (B8 s) s.ab::Gv 3 (Cm (B8 s) s.ab) (Cm (Ja s) s.ab))[y.toNat]?=some u:=by
 obtain⟨y,hy,rfl⟩:=List.mem_map.1 h;have hb:=hg.2.2.2.2.2.1 y hy;obtain⟨t,e,ht,h4,e2⟩:=zJj hg hb.1 hb.2;refine⟨y,t,hy,e,ht, ?_,h4,hb.1, ?_⟩<;>rw [e]
 ·rfl
 ·exact e2
theorem zzc {s:AA} (hg:CJ s) (hc:GQ s.bj=true): ∀p∈CM s,∀q∈CM s,p≤q+1:=by intro p hp q hq;obtain⟨y,_,hy,_,_,_,y4,y0,e1⟩:=pP hg hp;obtain⟨z,_,hz,_,_,_,z4,z0,e2⟩:=pP hg hq;unfold GQ at hc;have c1:=AR.1 (AR.1 hc y hy) z hz;have c2:=AR.1 (AR.1 hc z hz) y hy;simp only [Bool.not_eq_true',decide_eq_false_iff_not]at c1 c2;have f:=Ka (hg.2.2.1 _ (LH (s:=s) hg.1).2);have l:=Ka (hg.2.2.1 _ (rZ (s:=s) hg.1 hg.2.1).2);exact zCi f.2.2.2.1 f.2.2.2.2.1 l.2.2.2.1 l.2.2.2.2.1 y4 z4 (by omega) (by omega) e1 e2
theorem zEy {s:AA} (hg:CJ s): ∀p∈CM s,0≤p∧p≤3:=by intro p hp;obtain⟨_,t,_,_,ht,rfl,_⟩:=pP hg hp;have f:=Ka (hg.2.2.1 t ht);exact⟨f.2.2.2.1,f.2.2.2.2.1⟩
theorem zHX {st:List Int} (h: ∀p∈st,0≤p∧p≤3) (hn: ∀p∈st,∀q∈st,p≤q+1) {u:Int} (hu:u∈st):Hz st=0∧u≤1∨Hz st=1∧1≤u∨Hz st=2∧2≤u:=by
 have h1:=h u hu;unfold Hz;by_cases k3:st.contains 3=true
 ·rw [if_pos k3];have:=hn 3 (by simpa using k3) u hu;omega
 ·rw [if_neg k3];by_cases k0:st.contains 0=true
  ·rw [if_pos k0];have:=hn u hu 0 (by simpa using k0);omega
  ·rw [if_neg k0];have:u≠0:=fun e=>k0 (by rw [←e];simpa using hu);omega
theorem zvM {t t':Ad} {n:Af} {x x':Au} {lv:Int} {st:List Ab} (h1:t.ab=t'.ab) (h2:t.aq=t'.aq) (h3:x.bh=x'.bh):holds t n x lv st=holds t' n x' lv st:=by cases t;cases t';cases x;cases x';dsimp only at h1 h2 h3;subst h1;subst h2;subst h3;rfl
theorem qI {s:AA} (hg:CJ s) {t:Ad} (ht:t∈s.ak):t.ab=(B8 s).ab∧t.aq=(B8 s).aq∧(GJ t s.ab).bh=(GJ (B8 s) s.ab).bh:=by
 have hI:=hg.2.2.1 _ (LH (s:=s) hg.1).2;rw [hg.2.2.2.1]at ht;rcases Ag.1 ht with rfl|ht
 ·exact⟨rfl,rfl,rfl⟩
 ·obtain⟨c,_,rfl⟩:=List.mem_map.1 ht;refine⟨rfl,rfl, ?_⟩;rw [xR hI]
theorem u0 {s:AA} {a:CW} (hS:Fh s) (hg:CJ s) (hA:EN a.fAct) (B4:Iq s a) (h0:a.a7=0): ∃y t,Am s.bj a.ax=some y∧Am s.ak y=some t∧t∈s.ak∧Hu t a.fAct=true∧
  GL s a=some (⟨s.ab,s.ak,s.bj,(Bc s.au (DV t a.fAct)).1⟩,(Bc s.au (DV t a.fAct)).2):=by
 obtain⟨y,t,e1,e2,ht,IQ⟩:=B4.act h0;have hI:=hg.2.2.1 t ht;have Ii:=bH hI;have hc:=J6 Ii;have PW:=hS.way t ht;have WZ:=yE hA IQ;have hR:=hg.2.2.2.2.2.2;obtain⟨ol,oo⟩:=vL Ii IQ;refine⟨y,t,e1,e2,ht,IQ, ?_⟩;have hD:RP t s.au a.fAct=some ((Bc s.au (DV t a.fAct)).1,(Bc s.au (DV t a.fAct)).2,true):=by
  have dO:RM t a.fAct=some true:=by unfold RM;rw [Sl PW,Aa,Ii,if_pos rfl,pX (by omega) hA,IQ];rfl
  unfold RP;rw [dO,Aa,if_pos rfl,Sr hS.store,Aa,hR,if_neg (by simp),yW PW Ii WZ,Aa,XN ol oo hR];rfl
 unfold GL;rw [dF hS,Aa,if_neg (by simp [h0]),e1,Aa,e2,Aa,hD];rfl
theorem zJn {s:AA} {a:CW} (hS:Fh s) (hg:CJ s) (hA:EN a.fAct) (B4:Iq s a) {r:AA × Bool} (hr:GL s a=some r):Pg s a=some (r.2&&(GQ r.1.bj&&Jj r.1)):=by
 obtain⟨r',k1,k2,hn⟩:=Pk hS hg hA B4;rw [hr]at k1;cases k1;unfold Pg;rw [hr,Aa];by_cases h:r.2=true
 ·rw [if_pos h];have hw:=hn.ca.2.1;have hb: ∀y∈r.1.bj,0≤y∧y≤3:=fun y hy=>by
   have:=hn.ca.2.2.2.2.2.1 y hy;omega
  rw [wB hn.small.at_ hb,Aa,(vE hn.small hn.ca).1,h];cases GQ r.1.bj<;>rfl
 ·rw [if_neg h];rw [Bool.not_eq_true]at h;rw [h];rfl
theorem zvB {s:AA} {a:CW} (hS:Fh s) (hg:CJ s) (hA:EN a.fAct) (B4:Iq s a) {r:AA × Bool} (hr:GL s a=some r) (hh:Jj s=true) (hc:GQ s.bj=true)
  (hm:a.a7≠0→GQ r.1.bj=true∧Jj r.1=true):GQ r.1.bj=true∧Jj r.1=true:=by
 by_cases h0:a.a7=0
 ·obtain⟨y,t,e1,e2,ht,IQ,e⟩:=u0 hS hg hA B4 h0;rw [hr]at e;cases e;refine⟨hc, ?_⟩;have hI:=hg.2.2.1 t ht;have f:=Ka hI;have hu:Cm t s.ab∈CM s:=by
   refine List.mem_map.2 ⟨y,rS e1, ?_⟩;rw [e2];rfl
  have hk:=zHX (zEy hg) (zzc hg hc) hu;rw [f.2.1]at hk;have A:=xL f.2.2.2.2.2 f.2.2.1 f.1.name IQ;obtain⟨w1,w2,w3⟩:=qI hg ht;unfold Jj at hh;rw [←zvM w1 w2 w3]at hh;have hd:=zBR A hg.2.2.2.2.2.2 hk hh;rw [zvM w1 w2 w3]at hd;exact hd
 ·exact hm h0
theorem zvV {k:Af} (h:k≠ []):behind [] k=true:=by
 cases k with
 |nil=>exact absurd rfl h
 |cons b k=>rfl
theorem zvW {k:Af} (h:Ao k=true):k≠ []:=by rintro rfl;revert h;decide
def KQ (t:Ad) (n:Af) (c:Int) (st:List Ab) (f:AJ):Prop:= ∀q∈st,Cy t q=true→(f.bc=true∨behind f.al q.af=false)→ ∃w∈st,w.af=BJ t n c (B9 q)
def KF (t:Ad) (n:Af) (st:List Ab) (f:AJ):Prop:= ∀w∈st,CY t n w.af=true→f.bc=false∧behind f.al w.af=true
theorem ztz {t:Ad} {n:Af} {c:Int} {st:List Ab} (A0:BZ st=true):KQ t n c st ⟨[],false⟩:=by
 intro q hq hr h;rcases h with h|h
 ·cases h
 ·have hg:=(Eo A0).1.ca q hq;unfold Dg at hg;rw [Ae]at hg;rw [zvV (zvW hg.1)]at h;cases h
theorem zrr {t:Ad} {n:Af} {st:List Ab} (A0:BZ st=true):KF t n st ⟨[],false⟩:=by intro q hq _;have hg:=(Eo A0).1.ca q hq;unfold Dg at hg;rw [Ae]at hg;exact⟨rfl,zvV (zvW hg.1)⟩
theorem zth {t t':Ad} {n:Af} {c:Int} {st:List Ab} {f:AJ} (h1:t.ab=t'.ab) (h2:t.aq=t'.aq):KQ t n c st f↔KQ t' n c st f:=by cases t;cases t';dsimp only at h1 h2;subst h1;subst h2;exact Iff.rfl
theorem zrq {t t':Ad} {n:Af} {st:List Ab} {f:AJ} (h1:t.ab=t'.ab) (h2:t.aq=t'.aq):KF t n st f↔KF t' n st f:=by cases t;cases t';dsimp only at h1 h2;subst h1;subst h2;exact Iff.rfl
section
variable {t:Ad} {a:Bf} {n:Af} {x:Au} {st st':List Ab} {f:AJ}
theorem E4.il (A:E4 t a n x) (hB:SN t a st st') (hn: ∀w∈st,w.bf=false) (hs:2≤x.ao) (h:KQ t n x.bh st f):KQ t n x.bh st' f:=by
 intro q hq hr hf;obtain⟨EC,FU⟩:=GN hr;obtain⟨Dj,h1|⟨h1,h2⟩⟩:=(hB q).1 hq
 ·obtain⟨e,k⟩:=A.gk h1 hr;have hm:(⟨DX t a x, [],false⟩:Ab)∈Gu t a x:=by
   unfold Gu;refine Ai.2 (.inr ?_);rw [if_pos ⟨by rw [A.dq k];exact XH _ _ _ _,hs⟩];simp
  refine⟨_,(hB _).2 ⟨rfl, .inl (A.gq hm)⟩, ?_⟩;show DX t a x=_;rw [e,Wf A.tab (A.new k),A.dq k,A.name]
 ·obtain⟨w,w1,w2⟩:=h q h1 hr hf;by_cases ho: ∀z∈DW t a,z.af≠w.af
  ·exact⟨w,(hB w).2 ⟨hn w w1, .inr ⟨w1,ho⟩⟩,w2⟩
  ·have⟨z,hz,e⟩: ∃z∈DW t a,z.af=w.af:=by
    apply Classical.byContradiction;intro hc;exact ho fun z hz e=>hc ⟨z,hz,e⟩
   have he:CY t n z.af=true:=by rw [e,w2,R6 A.tab A.jy EC (by have:=A.k8;omega) A.k8.2];simp
   rcases A.ed (A.db hz he)with⟨e1,k1,_⟩|⟨e1,k2,_⟩
   ·exfalso;have hk:BJ t n x.bh a.bg=BJ t n x.bh (B9 q):=by
     have:z.af=ER t a x:=by rw [e1]
     rw [e,w2,A.dw k1,A.name]at this;exact this.symm
    have hp:=zuc A.tab A.jy (A.old k1) EC hk;obtain⟨u,u1,u2⟩:=A.fq k1;apply h2 u u1;rw [u2,FU,LF,LF,hp]
   ·exact⟨z,(hB z).2 ⟨by rw [e1], .inl hz⟩,e.trans w2⟩
theorem E4.gz (A:E4 t a n x) (hB:SN t a st st') (hs:x.ao≤1) (h:KF t n st f):KF t n st' f:=by
 intro y hy he;obtain⟨Dj,h1|h1⟩:=(hB y).1 hy
 ·rcases A.ed (A.db h1 he)with⟨e,_⟩|⟨_,_,k⟩
  ·rw [e]at Dj;cases Dj
  ·omega
 ·exact h y h1.1 he
theorem rX {ops:List Ax} (h:(Bc st ops).2=false):(Bc st ops).1=st:=by
 unfold Bc at h ⊢;split at h
 ·cases h
 ·rename_i q;rw [if_neg q]
theorem zCl (A:E4 t a n x) (hg:BZ st=true) (hs:2≤x.ao) (h:KQ t n x.bh st f):KQ t n x.bh (Bc st (DV t a)).1 f:=by
 cases hd:(Bc st (DV t a)).2 with
 |true=>exact A.il (pJ A.nt hg hd).2 (Eo hg).2 hs h
 |false=>rw [rX hd];exact h
theorem zzO (A:E4 t a n x) (hg:BZ st=true) (hs:x.ao≤1) (h:KF t n st f):KF t n (Bc st (DV t a)).1 f:=by
 cases hd:(Bc st (DV t a)).2 with
 |true=>exact A.gz (pJ A.nt hg hd).2 hs h
 |false=>rw [rX hd];exact h
end
theorem cQ {st:List Ab} {w:Ab} (hr:DI st) (y:Ab):y∈Df st [w]↔(y=w∨y∈st∧y.af≠w.af)∧y.bf=false:=by unfold Df;rw [List.mem_filter,List.foldl_cons,List.foldl_nil,Wa hr];simp
theorem zEl {t:Ad} {x:Au} {r:AL} {st:List Ab} (A0:BZ st=true):
  (∀w∈st,∃w'∈(Bc st (Bp t x r).cc).1,w'.af=w.af)∧(∀w∈(Bc st (Bp t x r).cc).1,w∈st∨w.af=BJ t x.ab x.bh r)∧
   ((Bc st (Bp t x r).cc).2=true→ ∃w∈(Bc st (Bp t x r).cc).1,w.af=BJ t x.ab x.bh r):=by
 obtain⟨hr,hn⟩:=Eo A0;have hR:=zyV (st:=st) (o:=⟨7,(AZ t r).af,(AZ t r).ay,0⟩) (rest:= [⟨2,BJ t x.ab x.bh r, [],0⟩]) (by simp) (by simp) (by simp);cases hd:(Bc st (Bp t x r).cc).2 with
 |false=>rw [rX hd];exact⟨fun w hw=>⟨w,hw,rfl⟩,fun w hw=> .inl hw,fun h=>by cases h⟩
 |true=>
  have e:(Bc st (Bp t x r).cc).1=Df st [⟨BJ t x.ab x.bh r, [],false⟩]:=by
   unfold Bc at hd ⊢;split at hd
   ·rename_i q;rw [if_pos q];show Df st (Fj st [⟨7,(AZ t r).af,(AZ t r).ay,0⟩,⟨2,BJ t x.ab x.bh r, [],0⟩]).1=_;have q1:(Fj st [⟨7,(AZ t r).af,(AZ t r).ay,0⟩,⟨2,BJ t x.ab x.bh r, [],0⟩]).2=true:=q.1;rw [hR]at q1 ⊢;split at q1
    ·rename_i q2;rw [if_pos q2];rfl
    ·cases q1
   ·cases hd
  rw [e];refine⟨fun w hw=> ?_,fun w hw=> ?_,fun _=>⟨⟨BJ t x.ab x.bh r, [],false⟩,(cQ hr.cu _).2 ⟨.inl rfl,rfl⟩,rfl⟩⟩
  ·by_cases hk:w.af=BJ t x.ab x.bh r
   ·exact⟨⟨BJ t x.ab x.bh r, [],false⟩,(cQ hr.cu _).2 ⟨.inl rfl,rfl⟩,hk.symm⟩
   ·exact⟨w,(cQ hr.cu _).2 ⟨.inr ⟨hw,hk⟩,hn w hw⟩,rfl⟩
  ·rcases(cQ hr.cu _).1 hw with⟨rfl|⟨h1,_⟩,_⟩
   ·exact .inr rfl
   ·exact .inl h1
theorem zvp {t:Ad} {x:Au} (hg:Be t=true) (hx:x∈t.ah): ∀(R:List AL) (m n:Nat) (st:List Ab) (last:Af),(∀r∈R,Bo t r=true)→BZ st=true→
  (∀w∈st,∃w'∈(A3 (R.map (Bp t x)) m n st last).1,w'.af=w.af)∧(∀w∈(A3 (R.map (Bp t x)) m n st last).1,w∈st∨ ∃r∈R,w.af=BJ t x.ab x.bh r)∧
   (∀(i:Nat) (h:i<R.length),n+i<(A3 (R.map (Bp t x)) m n st last).2.1→ ∃w∈(A3 (R.map (Bp t x)) m n st last).1,w.af=BJ t x.ab x.bh R[i])
 | [],m,n,st,last,_,_=>by simp only [List.map_nil,A3];exact⟨fun w hw=>⟨w,hw,rfl⟩,fun w hw=> .inl hw,fun i h=>by simp at h⟩
 |r::R,0,n,st,last,_,_=>by simp only [List.map_cons,A3];exact⟨fun w hw=>⟨w,hw,rfl⟩,fun w hw=> .inl hw,fun i h k=>by omega⟩
 |r::R,m+1,n,st,last,hR,A0=>by
  obtain⟨s1,s2,s3⟩:=zEl (t:=t) (x:=x) (r:=r) A0;have ho:=We hg hx (hR r (by simp));rw [List.map_cons];unfold A3;split
  ·rename_i hd;obtain⟨k1,k2,k3⟩:=zvp hg hx R m (n+1) (Bc st (Bp t x r).cc).1 (Bp t x r).a6 (fun q hq=>hR q (by simp [hq])) (LL ho.1 ho.2 A0);refine⟨fun w hw=> ?_,fun w hw=> ?_,fun i h k=> ?_⟩
   ·obtain⟨w',h1,h2⟩:=s1 w hw;obtain⟨w2,h3,h4⟩:=k1 w' h1;exact⟨w2,h3,h4.trans h2⟩
   ·rcases k2 w hw with h|⟨q,hq,e⟩
    ·rcases s2 w h with h|h
     ·exact .inl h
     ·exact .inr ⟨r,by simp,h⟩
    ·exact .inr ⟨q,by simp [hq],e⟩
   ·cases i with
    |zero=>obtain⟨w',h1,h2⟩:=s3 hd;obtain⟨w2,h3,h4⟩:=k1 w' h1;exact⟨w2,h3,h4.trans h2⟩
    |succ i=>exact k3 i (by simpa using h) (by omega)
  ·refine⟨fun w hw=>⟨w,hw,rfl⟩,fun w hw=> .inl hw,fun i h k=> ?_⟩;simp only at k;omega
theorem cM {t:Ad} {st:List Ab} {r:AL}:r∈rows t st↔ ∃q∈st,Cy t q=true∧B9 q=r:=by
 unfold rows;simp only [List.mem_map,List.mem_filter];constructor
 ·rintro⟨q,⟨h1,h2⟩,e⟩;exact⟨q,h1,h2,e⟩
 ·rintro⟨q,h1,h2,e⟩;exact⟨q,⟨h1,h2⟩,e⟩
theorem cW {t:Ad} {st st':List Ab} (h:rows t st=rows t st') {q:Ab} (hq:q∈st) (hr:Cy t q=true):q∈st':=by
 have h1:B9 q∈rows t st:=cM.2 ⟨q,hq,hr,rfl⟩;rw [h]at h1;obtain⟨p,hp,h2,e⟩:=cM.1 h1;have:p=q:=by rw [(GN h2).2,(GN hr).2,e]
 rw [←this];exact hp
structure zG (t:Ad) (n:Af) (x:Au) (st:List Ab) (f:AJ) (r:List Ab × AJ):Prop where
 rows:rows t r.1=rows t st
 grow: ∀w∈st,∃w'∈r.1,w'.af=w.af
 back: ∀w∈r.1,w∈st∨ ∃q∈st,Cy t q=true∧w.af=BJ t n x.bh (B9 q)
 filled:KQ t n x.bh st f→KQ t n x.bh r.1 r.2
theorem zvP {t:Ad} {n:Af} {x:Au} {st:List Ab} {f:AJ} {m:Nat} (hg:Be t=true) (hx:x∈t.ah) (OC:x.ab=n) (A0:BZ st=true):
  zG t n x st f (KN ((rows t st).map (Bp t x)) f m st):=by
 unfold KN;have hR:=(Eo A0).1;have NR: ∀r∈rows t st,Bo t r=true:=fun r h=>VQ h;have B6:=(zvm (t:=t) (x:=x) hR.cu).filter fun k=>behind f.al k.a6;have hb: ∀k∈((rows t st).map (Bp t x)).filter (fun k=>behind f.al k.a6),bl f.al k.a6=true:=fun k hk=>by rw [←IZ];simpa using(List.mem_filter.1 hk).2
 have e:((rows t st).map (Bp t x)).filter (fun k=>behind f.al k.a6)=((rows t st).filter fun r=>behind f.al (AZ t r).af).map (Bp t x):=by rw [List.filter_map];rfl
 rw [e]at B6 hb ⊢;have WW: ∀r∈(rows t st).filter (fun r=>behind f.al (AZ t r).af),r∈rows t st:=fun r hr=>(List.mem_filter.1 hr).1;have tI: ∀r∈rows t st,behind f.al (AZ t r).af=true→r∈(rows t st).filter (fun r=>behind f.al (AZ t r).af):=fun r hr h=>List.mem_filter.2 ⟨hr,h⟩;generalize (rows t st).filter (fun r=>behind f.al (AZ t r).af)=R at B6 hb WW tI;have hk:=zvp hg hx R m 0 st f.al (fun r hr=>NR r (WW r hr)) A0;have P7:=pQ hg hx R m 0 st f.al (fun r hr=>NR r (WW r hr)) A0;have hl:=aL (R.map (Bp t x)) m 0 st f.al B6 hb;generalize A3 (R.map (Bp t x)) m 0 st f.al=p at hk P7 hl;obtain⟨k1,k2,k3⟩:=hk;refine⟨P7,k1,fun w hw=> ?_,fun hF q hq hr hf=> ?_⟩
 ·rcases k2 w hw with h|⟨r,hr,e⟩
  ·exact .inl h
  ·obtain⟨q,h1,h2,rfl⟩:=cM.1 (WW r hr);exact .inr ⟨q,h1,h2,by rw [e,OC]⟩
 ·have Xj:=cW P7 hq hr;have hold:(f.bc=true∨behind f.al q.af=false)→ ∃w∈p.1,w.af=BJ t n x.bh (B9 q):=fun h=>by
   obtain⟨w,h1,h2⟩:=hF q Xj hr h;obtain⟨w',h3,h4⟩:=k1 w h1;exact⟨w',h3,h4.trans h2⟩
  cases W7:behind f.al q.af with
  |false=>exact hold (.inr W7)
  |true=>
   have hqr:B9 q∈R:=tI _ (cM.2 ⟨q,Xj,hr,rfl⟩) (by rw [←(GN hr).2];exact W7);obtain⟨i,hi,ei⟩:=List.getElem_of_mem hqr;have Ci:=hl i (by rw [List.length_map];exact hi);rw [List.getElem_map,ei,Nat.zero_add]at Ci;have ekey:(Bp t x (B9 q)).a6=q.af:=by show(AZ t (B9 q)).af=q.af;rw [←(GN hr).2]
   rw [ekey,←IZ]at Ci;rcases hf with h|h
   ·dsimp only at h;rw [Bool.or_eq_true]at h;rcases h with h|h
    ·exact hold (.inl h)
    ·rw [beq_iff_eq,List.length_map]at h;obtain⟨w,h1,h2⟩:=k3 i hi (by omega);exact⟨w,h1,by rw [h2,ei,OC]⟩
   ·dsimp only at h;rw [Ci,decide_eq_false_iff_not]at h;obtain⟨w,h1,h2⟩:=k3 i hi (by omega);exact⟨w,h1,by rw [h2,ei,OC]⟩
theorem zBE {t:Ad} {n k:Af} {st:List Ab} (A0:BZ st=true) (hg:Be t=true) (hk:CY t n k=true):rows t (Bc st (BO k).cc).1=rows t st:=by
 have hd:=bB (k:=k) A0;have hR:=Eo A0;unfold Bc at hd ⊢;split at hd
 ·rename_i h;rw [if_pos h,rD];unfold Df rows;rw [List.foldl_cons,List.foldl_nil,rJ hR.1.cu hR.2,List.filter_filter];congr 1;apply List.filter_congr;intro y _;cases hy:Cy t y with
  |false=>rfl
  |true=>rw [Bool.true_and,bne_iff_ne];intro e;obtain⟨h1,h2⟩:=GN hy;rw [←e,h2,zyB hg h1]at hk;cases hk
 ·cases hd
theorem ztO {t:Ad} {nm:Af} (hg:Be t=true): ∀(K:List Af) (m n:Nat) (st:List Ab) (last:Af),(∀k∈K,Ao k=true∧CY t nm k=true)→BZ st=true→rows t (A3 (K.map BO) m n st last).1=rows t st
 | [],m,n,st,last,_,_=>by simp [A3]
 |k::K,0,n,st,last,_,_=>by simp [A3]
 |k::K,m+1,n,st,last,hk,A0=>by
  rw [List.map_cons];unfold A3;split
  ·have ho:=VX (hk k (by simp)).1;rw [ztO hg K m (n+1) _ _ (fun q hq=>hk q (by simp [hq])) (LL ho.1 ho.2 A0)];exact zBE A0 hg (hk k (by simp)).2
  ·rfl
structure yN (t:Ad) (n:Af) (st:List Ab) (f:AJ) (r:List Ab × AJ):Prop where
 rows:rows t r.1=rows t st
 less: ∀k∈Bw t n r.1,k∈Bw t n st
 je:KF t n st f→KF t n r.1 r.2
theorem ztb {t:Ad} {n:Af} {st:List Ab} {f:AJ} {m:Nat} (hg:Be t=true) (A0:BZ st=true):
  yN t n st f (KN ((Bw t n st).map BO) f m st):=by
 unfold KN;have hR:=(Eo A0).1;have PU:=oK (t:=t) (n:=n) A0;have B6:=(zsJ (t:=t) (n:=n) hR.cu).filter fun k=>behind f.al k.a6;have hb: ∀k∈((Bw t n st).map BO).filter (fun k=>behind f.al k.a6),bl f.al k.a6=true:=fun k hk=>by rw [←IZ];simpa using(List.mem_filter.1 hk).2
 have e:((Bw t n st).map BO).filter (fun k=>behind f.al k.a6)=((Bw t n st).filter fun k=>behind f.al k).map BO:=by rw [List.filter_map];rfl
 rw [e]at B6 hb ⊢;have dQ: ∀k∈(Bw t n st).filter (fun k=>behind f.al k),k∈Bw t n st:=fun r hr=>(List.mem_filter.1 hr).1;have tE: ∀k∈Bw t n st,behind f.al k=true→k∈(Bw t n st).filter (fun k=>behind f.al k):=fun r hr h=>List.mem_filter.2 ⟨hr,h⟩;generalize (Bw t n st).filter (fun k=>behind f.al k)=K at B6 hb dQ tE;have tF: ∀k∈K,Ao k=true∧CY t n k=true:=fun k hk=>by refine⟨PU k (dQ k hk), ?_⟩;obtain⟨w,_,h2,e⟩:=Iu.1 (dQ k hk);rw [e];exact h2
 obtain⟨p,e1,e2,e3,e4⟩:=nM (t:=t) (nm:=n) K m 0 st f.al B6 (fun q hq=>hb (BO q) (List.mem_map.2 ⟨q,hq,rfl⟩)) (fun q hq=>(tF q hq).1) A0;have P7:=ztO (nm:=n) hg K m 0 st f.al tF A0;have hl:=aL (K.map BO) m 0 st f.al B6 hb;generalize A3 (K.map BO) m 0 st f.al=pc at e1 e2 e4 P7 hl;refine⟨P7,fun k hk=> ?_,fun hC w hw he=> ?_⟩
 ·dsimp only at hk;rw [e1]at hk;exact(List.mem_filter.1 hk).1
 ·have Xo:w.af∈Bw t n pc.1:=Iu.2 ⟨w,hw,he,rfl⟩;rw [e1,List.mem_filter]at Xo;obtain⟨w0,Ko,h2,ek⟩:=Iu.1 Xo.1;obtain⟨c1,c2⟩:=hC w0 Ko h2;rw [←ek]at c2;have P8:=tE _ Xo.1 c2;have W6:=e4 _ P8 Xo.2;obtain⟨i,hi,ei⟩:=List.getElem_of_mem P8;have Ci:=hl i (by rw [List.length_map];exact hi);rw [List.getElem_map,Nat.zero_add]at Ci;rw [show(BO K[i]).a6=K[i]from rfl,ei,W6]at Ci;have Ci:=of_decide_eq_true Ci.symm;dsimp only;refine⟨?_,by rw [IZ];exact W6⟩;rw [c1,Bool.false_or,beq_eq_false_iff_ne,List.length_map];omega
theorem zFZ {t:Ad} {n:Af} {x:Au} {st:List Ab} (hg:Be t=true) (hx:x∈t.ah) (hn:x.ab=n):(∀k∈wanted t n x st,k∈Bw t n st)↔Mf t n x st:=by
 have hl:CX n 1=true:=by rw [←hn];exact(FY hg hx).1
 have hc:=CN.1 (FY hg hx).2;constructor
 ·intro h q hq hr;obtain⟨w,hw,_,e⟩:=Iu.1 (h _ (RY.2 ⟨q,hq,hr,rfl⟩));exact⟨w,hw,e.symm⟩
 ·intro h k hk;obtain⟨q,hq,hr,rfl⟩:=RY.1 hk;obtain⟨w,hw,e⟩:=h q hq hr;refine Iu.2 ⟨w,hw, ?_,e.symm⟩;rw [e,R6 hg hl (GN hr).1 (by omega) hc.2];simp
theorem zvF {t:Ad} {n:Af} {x:Au} {st:List Ab} (hg:Be t=true) (hx:x∈t.ah) (hn:x.ab=n):holds t n x 2 st=true↔Mg t n x st∧Mf t n x st:=by rw [←sR,←zFZ hg hx hn,←V9,←V9];unfold holds;rw [if_neg (by decide)];simp
theorem zBz {t:Ad} {n:Af} {x:Au} {st:List Ab} {f:AJ} {r:List Ab × AJ} {low:Int} (hg:Be t=true) (hx:x∈t.ah) (hn:x.ab=n) (h:zG t n x st f r) (hl:low=1∨low=2) (hh:holds t n x low st=true):holds t n x low r.1=true:=by
 have hO:Mg t n x st→Mg t n x r.1:=fun h0 w hw he=>by
  have mv: ∀q∈st,Cy t q=true→q∈r.1:=fun q hq hr=>cW h.rows.symm hq hr;rcases h.back w hw with h1|⟨q,h1,h2,e⟩
  ·obtain⟨q,q1,q2,q3⟩:=h0 w h1 he;exact⟨q,mv q q1 q2,q2,q3⟩
  ·exact⟨q,mv q h1 h2,h2,e⟩
 have hL:Mf t n x st→Mf t n x r.1:=fun h0 q hq hr=>by obtain⟨w,w1,w2⟩:=h0 q (cW h.rows hq hr) hr;obtain⟨w',h3,h4⟩:=h.grow w w1;exact⟨w',h3,h4.trans w2⟩
 rcases hl with rfl|rfl
 ·exact Se.2 (hO (Se.1 hh))
 ·have h2:=(zvF hg hx hn).1 hh;exact(zvF hg hx hn).2 ⟨hO h2.1,hL h2.2⟩
theorem zzI {t:Ad} {n:Af} {x:Au} {st:List Ab} {f:AJ} {r:List Ab × AJ} {low:Int} (h:yN t n st f r) (hl:low=0∨low=1) (hh:holds t n x low st=true):holds t n x low r.1=true:=by
 rcases hl with rfl|rfl
 ·refine aZ.2 fun w hw=> ?_;have h0:=aZ.1 hh;cases he:CY t n w.af with
  |false=>rfl
  |true=>obtain⟨w0,Ko,h2,_⟩:=Iu.1 (h.less _ (Iu.2 ⟨w,hw,he,rfl⟩));rw [h0 w0 Ko]at h2;cases h2
 ·refine Se.2 fun w hw he=> ?_;obtain⟨w0,Ko,h2,e⟩:=Iu.1 (h.less _ (Iu.2 ⟨w,hw,he,rfl⟩));obtain⟨q,q1,q2,q3⟩:=Se.1 hh w0 Ko h2;exact⟨q,cW h.rows.symm q1 q2,q2,e.trans q3⟩
def Fz (f:AJ):Bool:=f.al== []||Ao f.al
theorem u3 {f:AJ} (h:f.al.length≤2000000):Vi f=some (Fz f):=by
 unfold Vi Fz;by_cases h0:(f.al==([]:Af))=true
 ·rw [if_pos h0,h0];rfl
 ·rw [if_neg h0,jK h,Aa];rw [Bool.not_eq_true]at h0;rw [h0];rfl
theorem wN {f:AJ} (h:f.al.length≤2000000):Vo f=some (Fz f):=by
 unfold Vo Fz;by_cases h0:(f.al==([]:Af))=true
 ·rw [if_pos h0,h0];rfl
 ·rw [if_neg h0,yR h,Aa];rw [Bool.not_eq_true]at h0;rw [h0];rfl
theorem bU {f:AJ} (h:Fz f=true):f.al.length≤12:=by
 unfold Fz at h;rw [Bool.or_eq_true]at h;rcases h with h|h
 ·rw [beq_iff_eq]at h;rw [h];simp
 ·exact bY h
structure Hv (w:AI):Prop where
 shift:Fh w.ae
 up:w.ch.al.length≤2000000
 down:w.a8.al.length≤2000000
structure Ke (w:AI):Prop where
 shift:CJ w.ae
 up:Fz w.ch=true
 down:Fz w.a8=true
theorem zBy {w:AI} (hS:Hv w): ∃g,Y6 w=some g∧Zz w=some g∧(g=true↔Ke w):=by
 obtain⟨g1,e1,f1⟩:=zHs hS.shift;obtain⟨g2,e2,f2⟩:=zHR hS.shift;have hg:g1=g2:=by rw [Bool.eq_iff_iff,f1,f2]
 subst hg;refine⟨g1&&(Fz w.ch&&Fz w.a8), ?_, ?_, ?_⟩
 ·unfold Y6;rw [e1,Aa,u3 hS.up,u3 hS.down];cases g1<;>cases Fz w.ch<;>rfl
 ·unfold Zz;rw [e2,Aa,wN hS.up,wN hS.down];cases g1<;>cases Fz w.ch<;>rfl
 ·simp only [Ae];exact⟨fun h=>⟨f1.1 h.1,h.2.1,h.2.2⟩,fun h=>⟨f1.2 h.shift,h.up,h.down⟩⟩
structure zKM (w:AI) (a:Bm):Prop where
 ok:a.aj=1∧Iq w.ae a.fAct∨(a.aj=2∨a.aj=3)∧1≤a.br∧a.br≤24
def Pw (w:AI) (a:Bm):Bool:=
 if a.aj=1 then a.br==0&&Po w.ae (Eh w.ae a.fAct.ax) a.fAct else
 if a.aj=2∨a.aj=3 then BQ a.br 1 24&&((a.fAct.ax==0)&&((a.fAct.a7==0)&&Qr a.fAct.fAct))else false
theorem yG {a:Bm} {v:Bool}:YV a v=some (v&&(BQ a.br 1 24&&((a.fAct.ax==0)&&((a.fAct.a7==0)&&Qr a.fAct.fAct)))):=by have em:nS a.br=some (BQ a.br 1 24):=rfl;have eb:Zc a.fAct.fAct=some (Qr a.fAct.fAct):=rfl;unfold YV;rw [em,eb,Aa,Aa];cases v<;>cases BQ a.br 1 24<;>cases(a.fAct.ax==0)<;>cases(a.fAct.a7==0)<;>rfl
theorem zCY {w:AI} {a:Bm} (hg:CJ w.ae) (hA:EN a.fAct.fAct):Zo w a=some (Pw w a):=by
 have e:=zBm (a:=a.fAct) hg hA;unfold Zo Pw;by_cases h1:a.aj=1
 ·rw [if_pos (by simpa using h1),if_pos h1,e,Aa];cases hm:(a.br==0)<;>rfl
 ·rw [if_neg (by simpa using h1),if_neg h1];by_cases h2:a.aj=2
  ·rw [if_pos (by simpa using h2),if_pos (.inl h2),yG,h2];rfl
  ·rw [if_neg (by simpa using h2),yG];by_cases h3:a.aj=3
   ·rw [if_pos (.inr h3),h3];rfl
   ·rw [if_neg (by simp [h2,h3]),show(a.aj==3)=false by simpa using h3];rfl
theorem yC {a:Bm} {v:Bool}:Yb a v=some (v&&(BQ a.br 1 24&&((a.fAct.ax==0)&&((a.fAct.a7==0)&&Qr a.fAct.fAct)))):=by have em:GK a.br 1 24=some (BQ a.br 1 24):=rfl;have eb:Vt a.fAct.fAct=some (Qr a.fAct.fAct):=rfl;unfold Yb;rw [em,eb,Aa,Aa];cases v<;>cases BQ a.br 1 24<;>cases(a.fAct.ax==0)<;>cases(a.fAct.a7==0)<;>rfl
theorem zCZ {w:AI} {a:Bm} (hg:CJ w.ae) (hA:EN a.fAct.fAct):Yg w a=some (Pw w a):=by
 have e:=zBM (a:=a.fAct) hg hA;unfold Yg Pw;by_cases h1:a.aj=1
 ·rw [if_pos (by simpa using h1),if_pos h1,e,Aa];cases hm:(a.br==0)<;>rfl
 ·rw [if_neg (by simpa using h1),if_neg h1];by_cases h2:a.aj=2
  ·rw [if_pos (by simpa using h2),if_pos (.inl h2),yC,h2];rfl
  ·rw [if_neg (by simpa using h2),yC];by_cases h3:a.aj=3
   ·rw [if_pos (.inr h3),h3];rfl
   ·rw [if_neg (by simp [h2,h3]),show(a.aj==3)=false by simpa using h3];rfl
theorem zIn {w:AI} {a:Bm} (hg:CJ w.ae) (h:Pw w a=true):zKM w a:=by
 unfold Pw at h;by_cases h1:a.aj=1
 ·rw [if_pos h1,Ae]at h;exact⟨.inl ⟨h1,zI1 hg h.2⟩⟩
 ·rw [if_neg h1]at h;by_cases h2:a.aj=2∨a.aj=3
  ·rw [if_pos h2,Ae]at h;have:=CN.1 h.1;exact⟨.inr ⟨h2,this⟩⟩
  ·rw [if_neg h2]at h;cases h
theorem zvk {s:AA} (hS:Fh s) (hg:CJ s):Lx s=some (CM s):=by
 obtain⟨h1,h4,hA,_,h3,hB,hR⟩:=hg;have h3:=CN.1 h3;have A0: ∀y∈s.bj,∃tb x,Am s.ak y=some tb∧tb∈s.ak∧EO tb s.ab x∧Cm tb s.ab=x.ao:=fun y hy=>by obtain⟨tb,q1,q2,_⟩:=LV (hB y hy).1 (by have:=(hB y hy).2;omega:y<s.ak.length);obtain⟨x,q3,q4,_⟩:=LU (hA tb q2);exact⟨tb,x,q1,q2,q3,q4⟩
 have hn:(CM s).length=s.bj.length:=by simp [CM]
 have hl:(CM s).length≤2000000:=by have:=hS.at_;omega
 refine zyQ (s:=s) (st:=CM s) hn hl fun i hi=> ?_;have Bt:i<s.bj.length:=by omega
 obtain⟨tb,x,q1,q2,q3,q4⟩:=A0 _ (List.getElem_mem Bt);refine⟨s.bj[i],tb,_,x,AK Bt,q1,L6 (hS.way _ q2),q3.at_, ?_⟩;simp only [CM,List.getElem_map,q1,Option.getD_some,q4]
theorem zIH {w:AI} (hS:Fh w.ae) (hg:CJ w.ae):QF w=some (((CM w.ae).filter fun y=>decide (y≥2)).length:Int):=by
 obtain⟨h1,h4,hA,_,h3,hB,hR⟩:=hg;have h3:=CN.1 h3;have A0: ∀y∈w.ae.bj,∃tb x,Am w.ae.ak y=some tb∧tb∈w.ae.ak∧EO tb w.ae.ab x∧Cm tb w.ae.ab=x.ao:=fun y hy=>by obtain⟨tb,q1,q2,_⟩:=LV (hB y hy).1 (by have:=(hB y hy).2;omega:y<w.ae.ak.length);obtain⟨x,q3,q4,_⟩:=LU (hA tb q2);exact⟨tb,x,q1,q2,q3,q4⟩
 have hn:(CM w.ae).length=w.ae.bj.length:=by simp [CM]
 have hl:(CM w.ae).length≤2000000:=by have:=hS.at_;omega
 refine zJa (w:=w) (st:=CM w.ae) hn hl fun i hi=> ?_;have Bt:i<w.ae.bj.length:=by omega
 obtain⟨tb,x,q1,q2,q3,q4⟩:=A0 _ (List.getElem_mem Bt);refine⟨tb, ?_, ?_⟩
 ·unfold Gp;rw [AK Bt,Aa,q1,Aa]
 ·rw [cU (hS.way _ q2) q3];simp only [CM,List.getElem_map,q1,Option.getD_some,q4]
theorem zJm {s:AA} (hS:Fh s) (hg:CJ s) {i:Int} (h:0≤i∧i≤(s.bj.length:Int)-1):Gp s i=some (Eh s i)∧J2 s (Eh s i)=some (Cm (Eh s i) s.ab)∧Am (CM s) i=some (Cm (Eh s i) s.ab)∧Eh s i∈s.ak∧Cm (Eh s i) s.ab∈CM s:=by
 obtain⟨y,t,e1,e2,ht,_,_⟩:=SS hg h;have et:Eh s i=t:=by unfold Eh;rw [e1,Option.getD_some,e2];rfl
 rw [et];obtain⟨x,q3,q4,_⟩:=LU (hg.2.2.1 t ht);obtain⟨k,rfl⟩:=Int.eq_ofNat_of_zero_le h.1;have hk:k<s.bj.length:=by omega
 have ey:s.bj[k]=y:=by rw [AK hk]at e1;exact Option.some.inj e1
 have K9:k<(CM s).length:=by simp only [CM,List.length_map];exact hk
 have e5:(CM s)[k]=Cm t s.ab:=by simp only [CM,List.getElem_map,ey,e2,Option.getD_some]
 refine⟨?_, ?_, ?_,ht, ?_⟩
 ·unfold Gp;rw [e1,Aa,e2];rfl
 ·rw [cU (hS.way _ ht) q3,q4]
 ·rw [AK K9,e5]
 ·rw [←e5];exact List.getElem_mem K9
theorem xP (p:Int→Bool): ∀l:List Int,(((l.filter p).length:Int)==(l.length:Int))=l.all p
 | []=>rfl
 |y::l=>by
  have ih:=xP p l;have hle:=List.length_filter_le p l;rw [List.all_cons,←ih,Bool.eq_iff_iff,List.filter_cons];cases hp:p y with
  |true=>simp only [if_true,Ap,beq_iff_eq,Bool.true_and];omega
  |false=>simp only [AM,if_false,Ap,beq_iff_eq,Bool.false_and,iff_false];omega
theorem wP (p:Int→Bool): ∀l:List Int,(((l.filter p).length:Int)==0)= !l.any p
 | []=>rfl
 |y::l=>by
  have ih:=wP p l;rw [List.any_cons,Bool.not_or,←ih,Bool.eq_iff_iff,List.filter_cons];cases hp:p y with
  |true=>simp only [if_true,Ap,beq_iff_eq,Bool.not_true,Bool.false_and,AM,iff_false];omega
  |false=>simp only [AM,if_false,Bool.not_false,Bool.true_and]
def Hy:AJ:=⟨[],false⟩
def kC (w:AI) (m:Nat):List Ab × AJ:=KN ((rows (B8 w.ae) w.ae.au).map (Bp (B8 w.ae) (GJ (B8 w.ae) w.ae.ab))) w.ch m w.ae.au
def jM (w:AI) (m:Nat):List Ab × AJ:=KN ((Bw (B8 w.ae) w.ae.ab w.ae.au).map BO) w.a8 m w.ae.au
def MT (s:AA) (l:List Ab):AA:=⟨s.ab,s.ak,s.bj,l⟩
inductive Jh (w:AI) (a:Bm):AI × Bool→Prop
 |stay:Jh w a (w,false)
 |move (q:AA) (h1:a.aj=1) (h0:a.fAct.a7≠0) (ha:Iq w.ae a.fAct) (hd:GL w.ae a.fAct=some (q,true)) (hm:Pg w.ae a.fAct=some true):Jh w a (⟨q,w.ch,w.a8⟩,true)
 |od (q:AA) (h1:a.aj=1) (h0:a.fAct.a7=0) (ha:Iq w.ae a.fAct) (hd:GL w.ae a.fAct=some (q,true)) (hs:Cm (Eh w.ae a.fAct.ax) w.ae.ab≥2):Jh w a (⟨q,w.ch,Hy⟩,true)
 |none (q:AA) (h1:a.aj=1) (h0:a.fAct.a7=0) (ha:Iq w.ae a.fAct) (hd:GL w.ae a.fAct=some (q,true)) (hs: ¬Cm (Eh w.ae a.fAct.ax) w.ae.ab≥2):Jh w a (⟨q,Hy,w.a8⟩,true)
 |fill (h2:a.aj=2) (hs:((CM w.ae).all fun y=>decide (y≥2))=true):Jh w a (⟨MT w.ae (kC w a.br.toNat).1,(kC w a.br.toNat).2,Hy⟩,true)
 |clear (h3:a.aj=3) (hs:((CM w.ae).any fun y=>decide (y≥2))=false):Jh w a (⟨MT w.ae (jM w a.br.toNat).1,Hy,(jM w a.br.toNat).2⟩,true)
structure Md (w r:AI):Prop where
 shift:Jl w.ae r.ae
 up:Fz w.ch=true→Fz r.ch=true
 down:Fz w.a8=true→Fz r.a8=true
 oi:r.ch.al.length≤w.ch.al.length+12
 og:r.a8.al.length≤w.a8.al.length+12
theorem Md.refl {w:AI} (hS:Hv w) (hg:CJ w.ae):Md w w:=⟨⟨hg,hS.shift,rfl,rfl,rfl⟩,fun h=>h,fun h=>h,by omega,by omega⟩
theorem bC:Fz Hy=true:=rfl
theorem zx8 {s:AA} {l:List Ab} (hS:Fh s) (hg:CJ s) (hl:BZ l=true):Jl s (MT s l):=by have hr:=(Eo hl).1;have JJ:=hr.len;exact⟨⟨hg.1,hg.2.1,hg.2.2.1,hg.2.2.2.1,hg.2.2.2.2.1,hg.2.2.2.2.2.1,hl⟩,⟨hS.name,hS.ways,hS.way,hS.at_,aD (by show l.length≤2000000;omega) hr.ca⟩,rfl,rfl,rfl⟩
theorem zyE {f:AJ} {k:Af} {b:Bool} (h:k=f.al∨Ao k=true):(Fz f=true→Fz ⟨k,b⟩=true)∧k.length≤f.al.length+12:=by
 rcases h with rfl|h
 ·exact⟨fun g=>g,by omega⟩
 ·refine⟨fun _=> ?_,by have:=bY h;omega⟩;unfold Fz;dsimp only;rw [h,Bool.or_true]
theorem zIc {w:AI} (hS:Hv w):Z7 w=some w:=by unfold Z7;rw [dF hS.shift];rfl
theorem sB {w:AI} (hS:Hv w):Rw w=some w:=by unfold Rw;rw [vQ hS.shift];rfl
theorem zE6 {w:AI} {a:Bm} (hS:Hv w) (hg:CJ w.ae) (hA:EN a.fAct.fAct) (k1:a.aj=1) (B4:Iq w.ae a.fAct): ∃r:AI × Bool,LA w a.fAct=some r∧Lv w a.fAct=some r∧Jh w a r∧Md w r.1:=by
 obtain⟨⟨q,b⟩,d1,d2,hn⟩:=Pk hS.shift hg hA B4;obtain⟨t1,t2,t3,t4,t5⟩:=zJm hS.shift hg B4.oa;have A0:=zvk hS.shift hg;have EE:M9 (Cm (Eh w.ae a.fAct.ax) w.ae.ab)=some (decide (Cm (Eh w.ae a.fAct.ax) w.ae.ab≥2)):=rfl;have hc:=sB hS;by_cases h0:a.fAct.a7=0
 ·have hb:(a.fAct.a7==0)=true:=by simpa using h0
  cases b with
  |false=>
   refine⟨(w,false), ?_, ?_, .stay, .refl hS hg⟩
   ·unfold LA;simp only [bne,hb,Bool.not_true,Bool.not_false,AM,if_false,if_true,A0,t3,d1,Aa]
   ·unfold Lv;simp only [bne,hb,hc,Bool.not_true,Bool.not_false,AM,if_false,if_true,d2,Aa]
  |true=>
   cases hd:decide (Cm (Eh w.ae a.fAct.ax) w.ae.ab≥2)with
   |true=>
    rw [hd]at EE;refine⟨(⟨q,w.ch,Hy⟩,true), ?_, ?_, .od q k1 h0 B4 d1 (of_decide_eq_true hd),⟨hn,fun h=>h,fun _=>bC,by dsimp only;omega,by simp [Hy]⟩⟩
    ·unfold LA;simp only [bne,hb,hd,Bool.not_true,AM,if_false,if_true,A0,t3,d1,Aa,Bool.and_self];rfl
    ·unfold Lv;simp only [bne,hb,hc,EE,t1,t2,Bool.not_true,AM,if_false,if_true,d2,Aa];rfl
   |false=>
    rw [hd]at EE;refine⟨(⟨q,Hy,w.a8⟩,true), ?_, ?_, .none q k1 h0 B4 d1 (of_decide_eq_false hd),⟨hn,fun _=>bC,fun h=>h,by simp [Hy],by dsimp only;omega⟩⟩
    ·unfold LA;simp only [bne,hb,hd,Bool.not_true,AM,if_false,if_true,A0,t3,d1,Aa,Bool.and_false];rfl
    ·unfold Lv;simp only [bne,hb,hc,EE,t1,t2,Bool.not_true,AM,if_false,if_true,d2,Aa];rfl
 ·have hb:(a.fAct.a7==0)=false:=by simpa using h0
  obtain⟨m,m1,m2⟩:=zFs hS.shift hg hA B4;cases m with
  |false=>
   refine⟨(w,false), ?_, ?_, .stay, .refl hS hg⟩
   ·unfold LA;simp only [bne,hb,m1,Bool.not_false,if_true,Aa]
   ·unfold Lv;simp only [bne,hb,hc,m2,Bool.not_false,if_true,Aa]
  |true=>
   cases b with
   |false=>
    refine⟨(w,false), ?_, ?_, .stay, .refl hS hg⟩
    ·unfold LA;simp only [bne,hb,m1,Bool.not_false,Bool.not_true,AM,if_false,if_true,A0,t3,d1,Aa]
    ·unfold Lv;simp only [bne,hb,hc,m2,Bool.not_false,Bool.not_true,AM,if_false,if_true,d2,Aa]
   |true=>
    refine⟨(⟨q,w.ch,w.a8⟩,true), ?_, ?_, .move q k1 h0 B4 d1 m1,⟨hn,fun h=>h,fun h=>h,by dsimp only;omega,by dsimp only;omega⟩⟩
    ·unfold LA;simp only [bne,hb,m1,Bool.not_false,Bool.not_true,AM,if_false,if_true,A0,t3,d1,Aa,Bool.false_and]
    ·unfold Lv;simp only [bne,hb,hc,m2,Bool.not_false,Bool.not_true,AM,if_false,if_true,d2,Aa]
theorem zCh {w:AI} {a:Bm} (hS:Hv w) (hg:CJ w.ae) (hA:EN a.fAct.fAct) (ha:zKM w a): ∃r:AI × Bool,Ng w a=some r∧M4 w a=some r∧Jh w a r∧Md w r.1:=by
 have hln:(CM w.ae).length=w.ae.bj.length:=by simp [CM]
 have hp:=zHJ (zvk hS.shift hg) (by have:=hS.shift.at_;omega);have hh:=zIH (w:=w) hS.shift hg;have h0:=(LH (s:=w.ae) hg.1).1;have fI:=Ka (first_has' hg);obtain⟨_,_,n1,n2,n3⟩:=jT (first_has' hg);have hR:=hg.2.2.2.2.2.2;have hc:=sB hS;rcases ha.ok with⟨k1,B4⟩|⟨hk,m1,m2⟩
 ·obtain⟨r,e1,e2,e3,e4⟩:=zE6 hS hg hA k1 B4;have kb:(a.aj==1)=true:=by simpa using k1
  refine⟨r, ?_, ?_,e3,e4⟩
  ·unfold Ng;simp only [hp,kb,if_true,e1,Aa]
  ·unfold M4;simp only [kb,if_true,e2,Aa]
 ·have k1:(a.aj==1)=false:=by
   rw [beq_eq_false_iff_ne];rcases hk with h|h<;>omega
  rcases hk with hk|hk
  ·have k2:(a.aj==2)=true:=by simpa using hk
   have k3:(a.aj==3)=false:=by rw [beq_eq_false_iff_ne];omega
   have hq:=xP (fun y=>decide (y≥2)) (CM w.ae);rw [hln]at hq;cases Cd:(CM w.ae).all fun y=>decide (y≥2)with
   |true=>
    rw [Cd]at hp hq;obtain⟨v,f1,f2,f3,f4,f5⟩:=zER (f:=w.ch) (many:=a.br) fI.2.2.2.2.2 fI.1 fI.2.2.1 fI.1.name (by omega) n1 hR m1 m2;obtain⟨z,z1,z2⟩:=Ji f2;have hl:=zyE (b:=v.2.bc) f4;refine⟨(⟨MT w.ae v.1,v.2,Hy⟩,true), ?_, ?_, ?_,⟨zx8 hS.shift hg f3,hl.1,fun _=>bC,hl.2,by simp [Hy]⟩⟩
    ·unfold Ng;simp only [hp,k1,k2,Bool.and_self,AM,if_false,if_true,h0,f1,Aa];rfl
    ·unfold M4;simp only [hc,k1,k2,hh,hq,AM,if_false,if_true,h0,z1,z2,Aa];rfl
    ·rw [f5];exact .fill hk Cd
   |false=>
    rw [Cd]at hp hq;refine⟨(w,false), ?_, ?_, .stay, .refl hS hg⟩
    ·unfold Ng;simp only [hp,k1,k2,k3,Bool.and_false,Bool.false_and,AM,if_false,Aa]
    ·unfold M4;simp only [hc,k1,k2,k3,hh,hq,AM,if_false,if_true,Aa]
  ·have k2:(a.aj==2)=false:=by rw [beq_eq_false_iff_ne];omega
   have k3:(a.aj==3)=true:=by simpa using hk
   have hq:=wP (fun y=>decide (y≥2)) (CM w.ae);cases FD:(CM w.ae).any fun y=>decide (y≥2)with
   |false=>
    rw [FD]at hp hq;obtain⟨v,f1,f2,f3,f4,f5⟩:=zBY (f:=w.a8) (many:=a.br) fI.2.2.2.2.2 (by omega) n3 hR m1 m2;obtain⟨z,z1,z2⟩:=Ji f2;have hl:=zyE (b:=v.2.bc) f4;refine⟨(⟨MT w.ae v.1,Hy,v.2⟩,true), ?_, ?_, ?_,⟨zx8 hS.shift hg f3,fun _=>bC,hl.1,by simp [Hy],hl.2⟩⟩
    ·unfold Ng;simp only [hp,k1,k2,k3,Bool.false_and,Bool.not_false,Bool.and_self,AM,if_false,if_true,h0,f1,Aa];rfl
    ·unfold M4;simp only [hc,k1,k2,k3,hh,hq,Bool.not_false,AM,if_false,if_true,h0,z1,z2,Aa];rfl
    ·rw [f5];exact .clear hk FD
   |true=>
    rw [FD]at hp hq;refine⟨(w,false), ?_, ?_, .stay, .refl hS hg⟩
    ·unfold Ng;simp only [hp,k1,k2,k3,Bool.false_and,Bool.not_true,Bool.and_false,AM,if_false,Aa]
    ·unfold M4;simp only [hc,k1,k2,k3,hh,hq,Bool.not_true,AM,if_false,if_true,Aa]
where
 first_has' {s:AA} (hg:CJ s):C4 (B8 s) s.ab=true:=hg.2.2.1 _ (LH (s:=s) hg.1).2
def jX:AI:=⟨zKx,Hy,Hy⟩
theorem zEH {w:AI} (h:Ep w≤2000000):Hv w:=by unfold Ep Nt at h;exact⟨zCA (by omega),by omega,by omega⟩
theorem zCb {a:Bm} (h:Fg a≤2000000):EN a.fAct.fAct:=zDx (a:=a.fAct) h
def Ss (w:AI):Prop:=KQ (B8 w.ae) w.ae.ab (GJ (B8 w.ae) w.ae.ab).bh w.ae.au w.ch
def Sm (w:AI):Prop:=KF (B8 w.ae) w.ae.ab w.ae.au w.a8
theorem xS {s:AA} {a:CW} (hS:Fh s) (hg:CJ s) (hA:EN a.fAct) (B4:Iq s a) (h0:a.a7≠0) {r:AA × Bool} (hr:GL s a=some r):r.1.au=s.au:=by
 obtain⟨y,t,e1,e2,ht,HO,hy1⟩:=SS hg B4.oa;have h1:=hg.1;have h4:=hg.2.1;have w:IntKind.i64.wrap ((s.ak.length:Int)-1)=(s.ak.length:Int)-1:=A9 (by omega) (by omega);have A0:a.a7=1∨a.a7= -1:=by rcases B4.step with h|h|h;exact absurd h h0;exact .inl h;exact .inr h
 have w2:IntKind.i64.wrap (y+a.a7)=y+a.a7:=A9 (by omega) (by omega);unfold GL at hr;rw [dF hS,Aa,w,if_pos (by simpa using h0)]at hr;simp only [e1,Aa,w2,Jb]at hr;cases hv:BQ (y+a.a7) 0 ((s.ak.length:Int)-1)with
 |false=>rw [hv]at hr;cases hr;rfl
 |true=>rw [hv]at hr;cases hr;rfl
theorem bO {s:AA} (hg:CJ s):C4 (B8 s) s.ab=true:=hg.2.2.1 _ (LH (s:=s) hg.1).2
theorem zvC {s r:AA} (h:r.ak=s.ak):B8 r=B8 s:=by unfold B8;rw [h]
theorem zzW {w:AI} {m:Nat} (hg:CJ w.ae):BZ (jM w m).1=true:=by have hR:=hg.2.2.2.2.2.2;refine RU _ m 0 (fun k hk=> ?_) hR;obtain⟨q,hq,rfl⟩:=List.mem_map.1 (List.mem_filter.1 hk).1;exact VX (oK hR q hq)
theorem zBW {w:AI} {m:Nat} (hg:CJ w.ae):BZ (kC w m).1=true:=by have hR:=hg.2.2.2.2.2.2;have fI:=Ka (bO hg);refine RU _ m 0 (fun k hk=> ?_) hR;obtain⟨q,hq,rfl⟩:=List.mem_map.1 (List.mem_filter.1 hk).1;exact We fI.2.2.2.2.2 fI.2.2.1 (VQ hq)
section
variable {w:AI} {a:Bm} {r:AI × Bool} (hS:Hv w) (hg:CJ w.ae) (hA:EN a.fAct.fAct)
include hS hg hA
theorem zx6 {q:AA} (h0:a.fAct.a7=0) (ha:Iq w.ae a.fAct) (hd:GL w.ae a.fAct=some (q,true)): ∃t,t=Eh w.ae a.fAct.ax∧t∈w.ae.ak∧E4 t a.fAct.fAct w.ae.ab (GJ t w.ae.ab)∧q=MT w.ae (Bc w.ae.au (DV t a.fAct.fAct)).1∧(GJ t w.ae.ab).ao=Cm t w.ae.ab:=by obtain⟨y,t,e1,e2,ht,IQ,e⟩:=u0 hS.shift hg hA ha h0;rw [hd]at e;have e:=Option.some.inj e;have eq:=congrArg Prod.fst e;have f:=Ka (hg.2.2.1 t ht);refine⟨t, ?_,ht,xL f.2.2.2.2.2 f.2.2.1 f.1.name IQ,eq,f.2.1.symm⟩;unfold Eh;rw [e1,Option.getD_some,e2];rfl
theorem zzF (h:Jh w a r) (hF:Ss w):Ss r.1:=by
 have hR:=hg.2.2.2.2.2.2;have fI:=Ka (bO hg);cases h with
 |stay=>exact hF
 |move q h1 h0 ha hd hm=>obtain⟨r',k1,_,hn⟩:=Pk hS.shift hg hA ha;rw [hd]at k1;cases k1;have es:=xS hS.shift hg hA ha h0 hd;unfold Ss at hF ⊢;dsimp only at hF ⊢ hn es;rw [zvC hn.ways,hn.name,es];exact hF
 |od q h1 h0 ha hd hs=>obtain⟨t,et,ht,A,rfl,e2⟩:=zx6 hS hg hA h0 ha hd;rw [←et]at hs;obtain⟨w1,w2,w3⟩:=qI hg ht;unfold Ss at hF ⊢;dsimp only [MT];rw [show B8 (⟨w.ae.ab,w.ae.ak,w.ae.bj,(Bc w.ae.au (DV t a.fAct.fAct)).1⟩:AA)=B8 w.ae from rfl,←w3];rw [←w3]at hF;exact(zth w1 w2).1 (zCl A hR (by rw [e2];exact hs) ((zth w1 w2).2 hF))
 |none q h1 h0 ha hd hs=>obtain⟨r',k1,_,hn⟩:=Pk hS.shift hg hA ha;rw [hd]at k1;cases k1;exact ztz hn.ca.2.2.2.2.2.2
 |fill h2 hs=>exact(zvP (m:=a.br.toNat) fI.2.2.2.2.2 fI.2.2.1 fI.1.name hR).filled hF
 |clear h3 hs=>exact ztz (zzW hg)
theorem zyy (h:Jh w a r) (hC:Sm w):Sm r.1:=by
 have hR:=hg.2.2.2.2.2.2;have fI:=Ka (bO hg);cases h with
 |stay=>exact hC
 |move q h1 h0 ha hd hm=>obtain⟨r',k1,_,hn⟩:=Pk hS.shift hg hA ha;rw [hd]at k1;cases k1;have es:=xS hS.shift hg hA ha h0 hd;unfold Sm at hC ⊢;dsimp only at hC ⊢ hn es;rw [zvC hn.ways,hn.name,es];exact hC
 |od q h1 h0 ha hd hs=>obtain⟨r',k1,_,hn⟩:=Pk hS.shift hg hA ha;rw [hd]at k1;cases k1;exact zrr hn.ca.2.2.2.2.2.2
 |none q h1 h0 ha hd hs=>obtain⟨t,et,ht,A,rfl,e2⟩:=zx6 hS hg hA h0 ha hd;rw [←et]at hs;obtain⟨w1,w2,w3⟩:=qI hg ht;unfold Sm at hC ⊢;dsimp only [MT];rw [show B8 (⟨w.ae.ab,w.ae.ak,w.ae.bj,(Bc w.ae.au (DV t a.fAct.fAct)).1⟩:AA)=B8 w.ae from rfl];exact(zrq w1 w2).1 (zzO A hR (by rw [e2];omega) ((zrq w1 w2).2 hC))
 |fill h2 hs=>exact zrr (zBW hg)
 |clear h3 hs=>exact(ztb (m:=a.br.toNat) fI.2.2.2.2.2 hR).je hC
theorem zDZ (h:Jh w a r) (hh:Jj w.ae=true) (hc:GQ w.ae.bj=true):GQ r.1.ae.bj=true∧Jj r.1.ae=true:=by
 have hR:=hg.2.2.2.2.2.2;have fI:=Ka (bO hg);cases h with
 |stay=>exact⟨hc,hh⟩
 |move q h1 h0 ha hd hm=>have e:=zJn hS.shift hg hA ha hd;rw [hm]at e;have e:=Option.some.inj e;simp only [Bool.true_and]at e;have e:=e.symm;rw [Ae]at e;exact e
 |od q h1 h0 ha hd hs=>exact zvB hS.shift hg hA ha hd hh hc fun h=>absurd h0 h
 |none q h1 h0 ha hd hs=>exact zvB hS.shift hg hA ha hd hh hc fun h=>absurd h0 h
 |fill h2 hs=>
  refine⟨hc, ?_⟩;have hn:Hz (CM w.ae)=1∨Hz (CM w.ae)=2:=by
   unfold Hz;split
   ·exact .inr rfl
   ·rw [if_neg (by
     intro h;rw [List.contains_iff_mem]at h;have:=AR.1 hs _ h;simp at this)]
    exact .inl rfl
  exact zBz fI.2.2.2.2.2 fI.2.2.1 fI.1.name (zvP (m:=a.br.toNat) fI.2.2.2.2.2 fI.2.2.1 fI.1.name hR) hn hh
 |clear h3 hs=>
  refine⟨hc, ?_⟩;have hn:Hz (CM w.ae)=0∨Hz (CM w.ae)=1:=by
   unfold Hz;rw [if_neg (by intro h;rw [List.contains_iff_mem]at h;have:=List.any_eq_false.1 hs _ h;simp at this)]
   split
   ·exact .inl rfl
   ·exact .inr rfl
  exact zzI (ztb (m:=a.br.toNat) fI.2.2.2.2.2 hR) hn hh
end
theorem Jl.refl {s:AA} (hS:Fh s) (hg:CJ s):Jl s s:=⟨hg,hS,rfl,rfl,rfl⟩
theorem Jl.trans {s r q:AA} (h:Jl s r) (k:Jl r q):Jl s q:=⟨k.ca,k.small,k.name.trans h.name,k.ways.trans h.ways,k.at_.trans h.at_⟩
theorem XB {bs:List Bool} {b:Bool} (h:bs.length≤1000):((bs.length:Int)+(([b]:List Bool).length:Int))*1≤140737488355328∧(bs.length:Int)+(([b]:List Bool).length:Int)≤140737488355328:=by rw [AF];omega
theorem Md.small {w r:AI} (h:Md w r) (hg:Ke w):Hv r:=⟨h.shift.small,by have:=bU (h.up hg.up);omega,by have:=bU (h.down hg.down);omega⟩
theorem Md.ca {w r:AI} (h:Md w r) (hg:Ke w):Ke r:=⟨h.shift.ca,h.up hg.up,h.down hg.down⟩
structure HU (w r:AI):Prop where
 shift:Jl w.ae r.ae
 ca:Ke r
 small:Hv r
 filled:Ss w→Ss r
 je:Sm w→Sm r
 held:Jj w.ae=true→GQ w.ae.bj=true→GQ r.ae.bj=true∧Jj r.ae=true
theorem HU.refl {w:AI} (hS:Hv w) (hg:Ke w):HU w w:=⟨.refl hS.shift hg.shift,hg,hS,fun h=>h,fun h=>h,fun h k=>⟨k,h⟩⟩
theorem HU.step {w r:AI} {a:Bm} {b:Bool} (hS:Hv w) (hg:Ke w) (hA:EN a.fAct.fAct) (h:Jh w a (r,b)) (k:Md w r):HU w r:=
 ⟨k.shift,k.ca hg,k.small hg,zzF hS hg.shift hA h,zyy hS hg.shift hA h,fun h1 h2=>zDZ hS hg.shift hA h h1 h2⟩
theorem HU.trans {w r q:AI} (h:HU w r) (k:HU r q):HU w q:=
 ⟨h.shift.trans k.shift,k.ca,k.small,fun f=>k.filled (h.filled f),fun f=>k.je (h.je f),fun h1 h2=>k.held (h.held h1 h2).2 (h.held h1 h2).1⟩
theorem zB1 {w:AI} {acts:List Bm} {bs:List Bool} {q:Nat} (hq:q<acts.length) (hl:acts.length≤1000) (Kj:bs.length≤1000) (hS:Hv w) (hg:Ke w) (hA: ∀a∈acts,EN a.fAct.fAct):
  ∃(w':AI) (b:Bool),O2 acts bs q w.ae.ab w.ae.ak w.ae.bj w.ae.au w.ch.al w.ch.bc w.a8.al w.a8.bc=some (.inl (bs++ [b],((q+1:Nat):Int),w'.ae.ab,w'.ae.ak,w'.ae.bj,w'.ae.au,w'.ch.al,w'.ch.bc,w'.a8.al,w'.a8.bc))∧
   O3 acts q w.ae.ab w.ch.al w.ch.bc w.a8.al w.a8.bc w.ae.ak w.ae.bj w.ae.au bs=some (.inl (((q+1:Nat):Int),w'.ae.ab,w'.ch.al,w'.ch.bc,w'.a8.al,w'.a8.bc,w'.ae.ak,w'.ae.bj,w'.ae.au,bs++ [b]))∧HU w w':=by
 have WQ:=hA _ (List.getElem_mem hq);have e1:=zCY (a:=acts[q]) hg.shift WQ;have e2:=zCZ (a:=acts[q]) hg.shift WQ;have hw:=AX hq (by omega);have hd:decide ((q:Int)<(acts.length:Int))=true:=decide_eq_true (by omega);have eW:(⟨⟨w.ae.ab,w.ae.ak,w.ae.bj,w.ae.au⟩,⟨w.ch.al,w.ch.bc⟩,⟨w.a8.al,w.a8.bc⟩⟩:AI)=w:=rfl;unfold O2 O3;rw [eW,if_pos hd,if_pos hd,AK hq,Aa,Aa,e1,e2,Aa,Aa];cases Mn:Pw w acts[q]with
 |false=>
  refine⟨w,false, ?_, ?_,HU.refl hS hg⟩
  ·simp only [AM,if_false,AN (XB Kj),hw]
  ·simp only [AM,if_false,AN (XB Kj),hw]
 |true=>
  obtain⟨r,k1,k2,k3,k4⟩:=zCh hS hg.shift WQ (zIn hg.shift Mn);refine⟨r.1,r.2, ?_, ?_,HU.step hS hg WQ k3 k4⟩
  ·simp only [if_true,k1,Aa,AN (XB Kj),hw]
  ·simp only [if_true,k2,Aa,AN (XB Kj),hw]
theorem zvE {acts:List Bm} (hl:acts.length≤1000) (hA: ∀a∈acts,EN a.fAct.fAct): ∀(n q:Nat) (w:AI) (bs:List Bool),q+n=acts.length→bs.length=q→Hv w→Ke w→
  ∃r:AI × List Bool,At (fun s:List Bool × Int × Ac × List Ad × List Int × List Ab × Ac × Bool × Ac × Bool=>O2 acts s.1 s.2.1 s.2.2.1 s.2.2.2.1 s.2.2.2.2.1 s.2.2.2.2.2.1 s.2.2.2.2.2.2.1 s.2.2.2.2.2.2.2.1 s.2.2.2.2.2.2.2.2.1 s.2.2.2.2.2.2.2.2.2) (bs,(q:Int),w.ae.ab,w.ae.ak,w.ae.bj,w.ae.au,w.ch.al,w.ch.bc,w.a8.al,w.a8.bc)=some (r.1,r.2,true)∧
   At (fun s:Int × Ac × Ac × Bool × Ac × Bool × List Ad × List Int × List Ab × List Bool=>O3 acts s.1 s.2.1 s.2.2.1 s.2.2.2.1 s.2.2.2.2.1 s.2.2.2.2.2.1 s.2.2.2.2.2.2.1 s.2.2.2.2.2.2.2.1 s.2.2.2.2.2.2.2.2.1 s.2.2.2.2.2.2.2.2.2) ((q:Int),w.ae.ab,w.ch.al,w.ch.bc,w.a8.al,w.a8.bc,w.ae.ak,w.ae.bj,w.ae.au,bs)=some (r.1,r.2,true)∧HU w r.1∧r.2.length=acts.length
 |0,q,w,bs,hq,hb,hS,hg=>by
  have hd: ¬decide ((q:Int)<(acts.length:Int))=true:=by rw [decide_eq_true_eq];omega
  refine⟨(w,bs),Db ?_,Db ?_,HU.refl hS hg,by show bs.length=_;omega⟩
  ·show O2 acts bs q w.ae.ab w.ae.ak w.ae.bj w.ae.au w.ch.al w.ch.bc w.a8.al w.a8.bc=_;unfold O2;rw [if_neg hd]
  ·show O3 acts q w.ae.ab w.ch.al w.ch.bc w.a8.al w.a8.bc w.ae.ak w.ae.bj w.ae.au bs=_;unfold O3;rw [if_neg hd]
 |n+1,q,w,bs,hq,hb,hS,hg=>by obtain⟨w',b,e1,e2,hn⟩:=zB1 (bs:=bs) (q:=q) (by omega) hl (by omega) hS hg hA;obtain⟨r,r1,r2,r3,r4⟩:=zvE hl hA n (q+1) w' (bs++ [b]) (by omega) (by rw [As,AF];omega) hn.small hn.ca;exact⟨r,(Dx (body:=fun s:List Bool × Int × Ac × List Ad × List Int × List Ab × Ac × Bool × Ac × Bool=>O2 acts s.1 s.2.1 s.2.2.1 s.2.2.2.1 s.2.2.2.2.1 s.2.2.2.2.2.1 s.2.2.2.2.2.2.1 s.2.2.2.2.2.2.2.1 s.2.2.2.2.2.2.2.2.1 s.2.2.2.2.2.2.2.2.2) e1).trans r1,(Dx (body:=fun s:Int × Ac × Ac × Bool × Ac × Bool × List Ad × List Int × List Ab × List Bool=>O3 acts s.1 s.2.1 s.2.2.1 s.2.2.2.1 s.2.2.2.2.1 s.2.2.2.2.2.1 s.2.2.2.2.2.2.1 s.2.2.2.2.2.2.2.1 s.2.2.2.2.2.2.2.2.1 s.2.2.2.2.2.2.2.2.2) e2).trans r2,hn.trans r3,r4⟩
theorem zwi {w:AI} {acts:List Bm} (hS:Hv w) (hA: ∀a∈acts,EN a.fAct.fAct): ∃r:AI × List Bool × Bool,Ze w acts=some r∧Vn w acts=some r∧r.2.1.length≤30∧(r=(jX, [],false)∨Ke w∧HU w r.1∧r.2.2=true):=by
 obtain⟨g,e1,e2,e3⟩:=zBy hS;unfold Ze Vn;rw [e1,e2,Aa,Aa];by_cases h:((!g)||(decide ((acts.length:Int)>30)))=true
 ·rw [if_pos h,if_pos h];exact⟨(jX, [],false),rfl,rfl,by simp, .inl rfl⟩
 ·rw [if_neg h,if_neg h];simp only [Bool.or_eq_true,Bool.not_eq_true',decide_eq_true_eq,not_or,Bool.not_eq_false]at h;have hK:=e3.1 h.1;obtain⟨r,r1,r2,r3,r4⟩:=zvE (by omega) hA acts.length 0 w [] (by omega) rfl hS hK;rw [zIc hS,sB hS,Aa,Aa];exact⟨(r.1,r.2,true),r1,r2,by show r.2.length≤30;omega, .inr ⟨hK,r3,rfl⟩⟩
theorem zGx {w r:AI} (hg:Ke r) (h:Jl w.ae r.ae):Ep r≤Ep w+2024:=by have h1:=zFW h;have h2:=bU hg.up;have h3:=bU hg.down;unfold Ep Nt;omega
theorem zsa (a0:AI) (a1:List Bm) (h0:jU a0) (h1:(Fe V3) a1):Yn a0 a1=some true:=by
 unfold Yn;obtain⟨b0,e0,g0,r0⟩:=zIp (x:=a0) (a:=1048576) (by omega) (by omega) h0;rw [e0,Aa];by_cases q0:b0<0
 ·rw [if_pos (by simpa using q0)]
 rw [if_neg (by simpa using q0)];have s0:=r0 (by omega);obtain⟨b1,e1,g1,r1⟩:=zzt (xs:=a1) (a:=b0) (by omega) (by omega) h1;rw [e1,Aa];by_cases q1:b1<0
 ·rw [if_pos (by simpa using q1)]
 rw [if_neg (by simpa using q1)];have s1:=r1 (by omega);have t0:Ep a0≤2000000:=by omega
 have t1:GM a1≤2000000:=by omega
 have hA: ∀a∈a1,EN a.fAct.fAct:=fun a ha=>zCb (by have h3:=FP (tot:=Fg) ha;unfold GM at t1;omega)
 obtain⟨w,vs,vi,hl,hw⟩:=zwi (w:=a0) (acts:=a1) (zEH t0) hA;have tw:Ep w.1≤Ep a0+2024:=by
  rcases hw with rfl|⟨_,hr,_⟩
  ·have:Ep jX=0:=rfl;dsimp only;omega
  ·exact zGx hr.ca hr.shift
 have tw2:Ep w.1≤2000000:=by omega
 have tb:No w.2.1≤2000000:=by unfold No;omega
 have c0:=zwa a0;have c1:=zuQ a1;have c2:=zwa w.1;have c3:=zzH w.2.1;obtain⟨x0,x1,x2,m0,n0⟩:=zyC (x:=a0) (k:=1) (by omega) (by omega) t0;obtain⟨y0, -,m1⟩:=zxq (xs:=a1) (k:=1+(Iy a0:Nat)) (by omega) (by omega) t1;obtain⟨z0,z1,z2,m2,n2⟩:=zyC (x:=w.1) (k:=1) (by omega) (by omega) tw2;obtain⟨v0, -,m3,n3⟩:=zB3 (xs:=w.2.1) (k:=1+(Iy w.1:Nat)) (by omega) (by omega) tb;have p1:decide ((1:Int)+(Iy a0:Nat)+(VI a1:Nat)<0)=false:=by simp;omega
 have p2:decide ((1:Int)+(Iy w.1:Nat)<0)=false:=by simp;omega
 have p3:decide ((1:Int)+(Iy w.1:Nat)+(Sd w.2.1:Nat)<0)=false:=by simp;omega
 simp only [zHM t0,zzK t1,vs,vi,wW t0,zzn t1,wW tw2,zFf tb,m0,m1,m2,m3,n2,n3,p1,p2,p3,bne_self_eq_false,Aa,Bool.not_true,Bool.or_false,AM,if_false,if_true]
theorem zz2 {H:Type} {enc:TypeId × Value→H} {P:Program} {w:World} {base:Nat} {sp:Nat→Bool} {held:Bool} {fuel:Nat} {t:TypeId} {cs:List Value} {n:String} {d:DataW H} {p:List MemPlace} {u:TypeDesc}
  (ht:P.underlying t=some u) (hu:(match u with| .interface _=>true|_=>false)=true) (h:DataW.trod enc P w base sp held fuel t cs=some (.iface n d,p)): ∃a v,cs= [.iface a v]:=by
 cases fuel with
 |zero=>simp [DataW.trod]at h
 |succ fuel=>
  cases u<;>first|(cases hu;done)|skip
  simp only [DataW.trod,ht]at h;split at h<;>first|(exact⟨_,_,rfl⟩)|(simp at h;done)|(simp_all;done)
noncomputable def zJ (s:String):Bool:=match(Tryz.prog.globalNamed s).bind (fun g=>(Tryz.prog.globals[g]?).map (·.type))with
 |some t=>(match Tryz.prog.underlying t with|some (.interface _)=>true|_=>false)
 |none=>false
noncomputable def yX (s:String):Bool:=match(Tryz.prog.globalNamed s).bind (fun g=>(Tryz.prog.globals[g]?).map (·.type))with
 |some t=>(match Tryz.prog.underlying t with
  |some (.array n e)=>(match Tryz.prog.underlying e with|some (.int .u64)=>true|_=>false)&&Tryz.prog.cellsOf e==1&&Tryz.prog.cellsOf t==n
  |_=>false)
 |none=>false
theorem u6 {s:String} {D:DataW Unit} {W:World} (h:laidMet Tryz.prog [(s,D)] W) (hc:zJ s=true) (hd: ∃n d,D= .iface n d): ∃t p,W.var? Tryz.prog s=some #[.iface t p]:=by
 obtain⟨ps,⟨g,t,cs,fuel,p,q,hg,ht,T0,Xl,_,_⟩,_⟩:=h;obtain⟨n,d,rfl⟩:=hd;unfold zJ at hc;rw [hg,Aa,ht]at hc;simp only at hc;cases hu:Tryz.prog.underlying t with
 |none=>rw [hu]at hc;cases hc
 |some u=>obtain⟨a,v,e⟩:=zz2 hu (by rw [hu]at hc;cases u<;>first|rfl|cases hc) Xl;refine⟨a,v, ?_⟩;rw [T0];congr 1;apply Array.ext';rw [e]
theorem zIW {s:String} {W:World} (h:laidMet Tryz.prog [(s,Lib.tabData .u64 Lib.pow10Tab)] W) (hc:yX s=true):Lib.TabIs Tryz.prog W s .u64 Lib.pow10Tab:=by
 have h0:=h;obtain⟨ps,⟨g,t,cs,fuel,p,q,hg,ht,T0,Xl,_,_⟩,_⟩:=h;unfold yX at hc;rw [hg,Aa,ht]at hc;simp only at hc;split at hc
 ·rename_i n e hu;simp only [Ae,beq_iff_eq]at hc;obtain⟨⟨h1,h2⟩,h3⟩:=hc;split at h1
  ·rename_i he;exact Lib.tabIs_of_head hg ht hu he h2 h3 h0
  ·cases h1
 ·cases hc
theorem zHC {laid:List (String × DataW Unit)} {D1 D2 D3:DataW Unit} {W:World} (h:laidMet Tryz.prog laid W)
  (e1:(laid.filter fun x=>x.1== "strconv.ErrSyntax")= [("strconv.ErrSyntax",D1)]) (i1: ∃n d,D1= .iface n d)
  (e2:(laid.filter fun x=>x.1== "strconv.ErrRange")= [("strconv.ErrRange",D2)]) (i2: ∃n d,D2= .iface n d)
  (e3:(laid.filter fun x=>x.1== "internal/strconv.uint64pow10")= [("internal/strconv.uint64pow10",D3)]) (i3:D3=Lib.tabData .u64 Lib.pow10Tab):FL.n≤W.heap.size∧FL.K W:=by
 have h1:=h.filter fun x=>x.1== "strconv.ErrSyntax"
 have h2:=h.filter fun x=>x.1== "strconv.ErrRange"
 have h3:=h.filter fun x=>x.1== "internal/strconv.uint64pow10"
 rw [e1]at h1;rw [e2]at h2;rw [e3,i3]at h3;have k:iT W:=⟨u6 h1 (by kernel_rfl) i1,u6 h2 (by kernel_rfl) i2,(zIW h3 (by kernel_rfl)).trans (by kernel_rfl)⟩
 exact⟨zIU k,k⟩
end Go.Proofs.YtfdfahjmonlbiaaGreatDoor
end
