/- Parts of a proof, joined: NTC, NLV. -/
import Derived.Test.YtlmjpjceiefpoaaGreatDoorL12
set_option linter.unusedVariables false
set_option linter.unusedSimpArgs false
namespace Go.Proofs.YtlmjpjceiefpoaaGreatDoor
open Go.RowKit
section
set_option maxRecDepth 100000
set_option maxHeartbeats 1000000
set_option maxHeartbeats 2000000
theorem zuF{w y:Ah}:∀{l:List Ah},y∈DQ wk w l->y=w\/y∈l
 | [],h=> .inl (by simpa[DQ]using h)
 |x::l,h=>by
  unfold DQ at h;split at h
  ·rcases Ag.1 h with h|h
   ·exact .inl h
   ·exact .inr h
  ·split at h
   ·rcases Ag.1 h with h|h
    ·exact .inl h
    ·exact .inr (by simp[h])
   ·rcases Ag.1 h with h|h
    ·exact .inr (by simp[h])
    ·rcases zuF h with h|h
     ·exact .inl h
     ·exact .inr (by simp[h])
theorem zPJ{r:BH}(hs:Yp r)(h:G9 r=true):HV r:=by
 unfold G9 at h;by_cases h1:r.ah=1
 ·rw[if_pos h1]at h;simp only[Ac,AR]at h;obtain⟨a1,a2,a3,a4,a5,a6,a7,a8,a9⟩:=h;have b:=D8.1 a1;exact⟨by omega,by omega,zv3 a6,⟨by omega,hs.writes.2⟩,λh=>absurd h1 h,λ_=>b⟩
 ·rw[if_neg h1]at h;simp only[Ac,Ay]at h;obtain⟨a1,a2,a3,a4⟩:=h;have er:r.bc=[]:=List.eq_nil_of_length_eq_zero (by omega);have ew:r.af=[]:=List.eq_nil_of_length_eq_zero (by omega);refine⟨by rw[er];simp,by rw[ew];simp,by rw[ew];exact List.Pairwise.nil,⟨by rw[ew];simp,λw hw=>by rw[ew]at hw;simp at hw⟩,λ_ h4 hy=> ?_,λh4=> ?_⟩
  ·by_cases KB:r.ah=2\/r.ah=3
   ·rw[if_pos KB,hy]at a4;simp only[Ac,if_true]at a4;have:=D8.1 a4.2;omega
   ·rw[if_neg KB,if_neg h4]at a4;cases a4
  ·by_cases KB:r.ah=2\/r.ah=3
   ·rw[if_pos KB]at a4;simp only[Ac]at a4;exact D8.1 a4.1
   ·rw[if_neg KB,if_neg h4]at a4;cases a4
theorem zPO{w:BG}(hs:YP w)(h:Kk w=true):lK w:=by
 unfold Kk at h;simp only[Ac,AR,Ay]at h;obtain⟨_,c1,c2,_,c4,_,_,c7,_⟩:=h;refine⟨by omega,λg hg=> ?_⟩;obtain⟨i,hi,rfl⟩:=List.mem_iff_getElem.1 hg;have Hj:i<w.cj.length:=by omega
 have U3:=Ba.1 c7 i (List.mem_range.2 hi);rw[qA hi Hj]at U3;simp only[Ac,Ay]at U3;obtain⟨d1,d2,_⟩:=U3;unfold Nh at d1;simp only[Ac]at d1;obtain⟨_,_,_,d3,_⟩:=d1;have JE:=hs.group _ (Au hi);cases e:(w.az[i]).ar with
 |nil=>rw[e]at d2;simp at d2
 |cons r rs=>refine⟨r,rs,e,by omega,λx hx=> ?_⟩;have LJ:=Ba.1 d3 x hx;unfold G8 at LJ;simp only[Ac]at LJ;obtain⟨f1,f2⟩:=LJ;have f3:=D8.1 f2;unfold Uu at f1;simp only[Ac,AR]at f1;refine⟨f3.1,f3.2,by omega,λen Y9=> ?_⟩;have f4:=Ba.1 f1.2.1 en Y9;unfold LB at f4;simp only[Ac]at f4;exact zPJ (((JE.n6 x hx).recs en Y9)) f4.2
theorem zHl{ss:List AF}{t:Int}:∀w∈JR ss t,w.bm=false:=by
 have hC:∀l:List Ap,∀w∈Gw l t,w.bm=false:=by
  intro l w hw;obtain⟨c,_,e⟩:=List.mem_filterMap.1 hw;unfold Lz at e;split at e
  ·cases e;rfl
  ·cases e
 have hI:∀(ws o:List Ah),(∀w∈ws,w.bm=false)->(∀w∈o,w.bm=false)-> ∀w∈Pb o ws,w.bm=false:=by
  intro ws
  induction ws with
  |nil=>intro o _ h;exact h
  |cons x ws ih=>
   intro o hw h;refine ih (DQ wk x o) (λy hy=>hw y (by simp[hy])) λy hy=> ?_;rcases zuF hy with rfl|hy
   ·exact hw _ (by simp)
   ·exact h y hy
 have hS:∀(ss:List AF) (o:List Ah),(∀w∈o,w.bm=false)-> ∀w∈ss.foldl (λo s=>Pb o (Gw s.ao t)) o,w.bm=false:=by
  intro ss
  induction ss with
  |nil=>intro o h;exact h
  |cons s ss ih=>intro o h;exact ih _ (hI _ _ (hC _) h)
 exact hS ss [] λw hw=>by simp at hw
theorem zFo:∀l:List Am,(l.map (λx:Ab=>x.length)).sum=Et l
 | []=>rfl
 |x::l=>by rw[List.map_cons,List.sum_cons,zFo l];rfl
theorem zIl{w:Ah}(h:Qg w):Gu (Ek w)<=4000:=by
 have e:Gu (Ek w)=(w.ab.drop 2::CV 44 w.aw).length+((w.ab.drop 2::CV 44 w.aw).map (λx:Ab=>x.length)).sum:=rfl;have h1:=jX 44 w.aw;have h2:w.aw.count 44<=w.aw.length:=List.count_le_length;have h3:=zuJ 44 w.aw;have h4:(w.ab.drop 2).length<=w.ab.length:=by simp
 have h5:=h.1;have h6:=h.2;rw[e,zFo,AH,show Et (w.ab.drop 2::CV 44 w.aw)=(w.ab.drop 2).length+Et (CV 44 w.aw)from rfl];omega
theorem zz1{α:Type}{f:α->Nat}{n:Nat}:∀{l:List α},(∀x∈l,f x<=n)->(l.map f).sum<=n*l.length
 | [],_=>by simp
 |x::l,h=>by have h1:=h x (by simp);have h2:=zz1 (l:=l) λy hy=>h y (by simp[hy]);rw[List.map_cons,List.sum_cons,AH,Nat.mul_add];omega
theorem zJ1{t:An}{l:List Ah}(h:Nl l=true):JL (Em t l)<=2000000:=by
 have hl:l.length<=24:=by have h1:=h;unfold Nl Hw at h1;simp only[Ac,AR]at h1;omega
 have h1:=zz1 (f:=Gu) (n:=4000) (l:=Em t l) λr hr=>by unfold Em at hr;obtain⟨w,hw,rfl⟩:=List.mem_map.1 hr;exact zIl (rJ h w (List.mem_filter.1 hw).1)
 have h2:(Em t l).length<=l.length:=by unfold Em;rw[List.length_map];exact List.length_filter_le _ _
 unfold JL;omega
theorem zHh{a:CW}{t:Int}(h:O2 a):∃r,eD a t=some r/\(XK a t=some r/\JL r.1<=2000000):=by
 have z:JL ([]:List A4)<=2000000:=by simp[JL]
 obtain⟨r,e1,e2,f⟩:=zER h;unfold eD XK;rw[e1,e2,Aa,Aa];cases r with
 |false=>exact⟨_,rfl,rfl,z⟩
 |true=>
  have F:=f rfl;have hW:=zPO h.world F.world;have hws:∀s∈L4 a.aq,WS s:=λs hs=>by obtain⟨g,hg,rfl⟩:=List.mem_map.1 hs;exact(hW.2 g hg).ws
  have Dw:(L4 a.aq).length<=1000:=by unfold L4;rw[List.length_map];exact hW.1
  obtain⟨g0,m0⟩:=V9 F.ways.1;have hT:=h.ways _ m0;have hh:=zFG F.ways _ m0;have hg:Es (w0 a.cz)=true:=by unfold Fm at hh;rw[Ac]at hh;exact hh.1
  simp only[if_true];rw[lA,show Nb t=some (Ax t 0 100000)from rfl,Aa,Aa];by_cases ht:Ax t 0 100000=true
  ·rw[if_neg (by simp[ht]),if_neg (by simp[ht]),zJy hW,Aa,zJ8 Dw hws,Aa,g0,Aa,zOA hW,Aa];have hS:=zzv (t:=t) Dw hws;unfold zpv sS;rw[Ug hT,Aa,if_pos hg,zNJ hS,Aa];have ha:Nl (JR (L4 a.aq) t)=Hw (JR (L4 a.aq) t):=by
    unfold Nl;have:(JR (L4 a.aq) t).all (λw=> !w.bm)=true:=Ba.2 λw hw=>by rw[zHl w hw];rfl
    rw[this,Bool.and_true]
   rw[ha];cases hq:Hw (JR (L4 a.aq) t)with
   |false=>exact⟨_,rfl,rfl,z⟩
   |true=>rw[hq]at ha;simp only[Bool.not_true,A7,if_false,if_true];rw[zMl hT.name hS.1 (rJ ha),Aa,Aa,Aa,zKU (zrN (zCB hg)) hS.1 (rJ ha),Aa];exact⟨_,rfl,rfl,zJ1 ha⟩
  ·rw[if_pos (by simpa using ht),if_pos (by simpa using ht)];exact⟨_,rfl,rfl,z⟩
theorem zu0(a0:CW)(a1:Int)(h0:rU a0)(_:Dp a1):bJ a0 a1=some true:=by
 unfold bJ;obtain⟨b0,e0,g0,r0⟩:=zN5 (x:=a0) (a:=1048576) (by omega) (by omega) h0;rw[e0,Aa];by_cases q0:b0<0
 ·rw[if_pos (by simpa using q0)]
 rw[if_neg (by simpa using q0)];have s0:=r0 (by omega);have t0:Gs a0<=2000000:=by omega
 obtain⟨r,vs,vi,tr⟩:=zHh (t:=a1) (zDQ t0);obtain⟨x0,k0,u0,w0,m0⟩:=zH3 (x:=a0) (k:=1) (by omega) (by omega);obtain⟨ys,k1,u1,w1,_,m1,n1⟩:=zIw (xs:=r.1) (k:=1) (by omega) (by omega);simp only[zND t0,vs,vi,zNw t0,zOo tr,m0,m1,n1,Z9 (show 0<=k0 by omega),Z9 (show 0<=k1 by omega),bne_self_eq_false,Aa,Bool.not_true,Bool.or_false,A7,if_false]
end
end Go.Proofs.YtlmjpjceiefpoaaGreatDoor
