/- Parts of a proof, joined: NWS, NKW, PL. -/
import Derived.Test.YtbmbkgalkfmjdaaGreatDoorY11
import Derived.Lib.LaidTab
import Derived.LaidSub
set_option linter.unusedVariables false
set_option linter.unusedSimpArgs false
section
namespace Go.Proofs.YtbmbkgalkfmjdaaGreatDoor
open Go.RowKit
set_option maxRecDepth 100000
set_option maxHeartbeats 1000000
structure KD (n:Nat) (w:Ax):Prop where
 shift:Hl n w.ab
 up:w.ca.al.length≤2000
 down:w.az.al.length≤2000
theorem KD.small {n:Nat} {w:Ax} (h:KD n w) (hn:n≤10):FC w:=⟨h.shift.small hn,by have:=h.up;omega,by have:=h.down;omega⟩
theorem KD.next {n:Nat} {w r:Ax} (h:KD n w) (hr:r=QN∨JB w r):FC r:=by
 rcases hr with rfl|hr
 ·exact⟨zzA,by simp [QN,Gf],by simp [QN,Gf]⟩
 ·exact⟨hr.shift.small,by have:=hr.pj;have:=h.up;omega,by have:=hr.n6;have:=h.down;omega⟩
theorem Hl.o9 {s:Aq} (hs:Hl 0 s):Hl 1 s:=⟨hs.name,by have:=hs.ways;omega,by simp,hs.way,by have:=hs.at_;omega,by have:=hs.pe;omega,hs.store⟩
theorem xY [Inhabited B7] {t:Ad} {ks:List Af} {c:Ap} {k:Int} (ht:t.ae.length≤10) (hk: ∀x∈ks,x.length≤12) (h:A1 c k) (Jj:k≤4611686018427380000):Bf (VH c t ks) fun p=>p.1.al.length≤100∧A1 p.2 (k+10):=by
 have j: ∀(v:Bool) {d:Ap} {m:Int},(v=true→ks≠ [])→A1 d m→m≤k+2→Bf (YU t ks v d.ax d.bw d.a7) fun p=>p.1.al.length≤100∧A1 p.2 (k+10):=fun v d m hv hd hm=>by
  unfold YU;refine .ite (fun hvt=> ?_) fun _=> .req (by simp;omega) ?_
  ·exact(LA ks (hv hvt) hd (by omega)).bind fun x ⟨hx,he⟩=>(Hc 3 he (by omega)).bind fun y hy=> .ret ⟨by have:=hk _ hx;dsimp only;omega,hy.up (by omega)⟩
  ·refine(LA _ (by simp) hd (by omega)).bind fun x ⟨hx,he⟩=>(Hc 4 he (by omega)).bind fun y hy=> .ret ⟨?_,hy.up (by omega)⟩;dsimp only;simp only [Ag,List.not_mem_nil,or_false]at hx;rcases hx with e|e|e|e|e<;>rw [e]<;>simp;omega
 unfold VH;refine .ite (fun hl=> ?_) fun _=>j false (fun h=>by cases h) h (by omega);simp only [decide_eq_true_eq]at hl;exact(Hc 2 h (by omega)).bind fun u hu=>j u.1 (fun _ e=>by rw [e]at hl;simp at hl) hu (by omega)
theorem yW [Inhabited B7] {c:Ap} {k:Int} (h:A1 c k) (hs:sd c) (hl:(c.ax.length:Int)≤1048576) (hk:k≤1000000000000000000):Bf (VG c) fun p=>(KD 0 p.1∧BN p.1.ab)∧A1 p.2 (k+NC+100):=by
 have hf:NC=3000000000000000:=rfl;unfold VG;refine(zyd h hs hl hk).bind fun s ⟨⟨hD,hg⟩,hc⟩=>(Hc 3 hc (by omega)).bind fun u hu=> .ite (fun _=> ?_) fun _=> .ret ⟨⟨⟨hD,by simp,by simp⟩,hg⟩,hu.up (by omega)⟩;have F:=TV (w:=⟨s.1,Gf,Gf⟩) hg;have fI:=Fj (Lb hg);have hn:=(Mn (La fI.2.2.2.2.2)).1;have hR:=(Ei hg.2.2.2.2.2.2).1;have hEg:=bE (t:=AN s.1) (n:=s.1.ae) hg.2.2.2.2.2.2;have at0:getI s.1.aj 0=some (AN s.1):=F.at0;have sR:Jp (AN s.1) s.1.ao=some (rows (AN s.1) s.1.ao):=F.sR;have sE:Jq (AN s.1) s.1.ae s.1.ao=some (Bg (AN s.1) s.1.ae s.1.ao):=F.sE;rw [at0,Aa,zvF fI.2.2.2.2.2 (by have:=hR.len;omega) sR,Aa];refine(xY (by omega) (fun x hx=> ?_) hu (by omega)).bind fun f ⟨hf1,hd⟩=> ?_
 ·obtain⟨r,hr,rfl⟩:=List.mem_map.1 hx;exact Td (N8 fI.2.2.2.2.2 (Kr hr)).1
 rw [sE,Aa];refine(xY (by omega) (fun x hx=>Td (hEg x hx)) hd (by omega)).bind fun z ⟨hz,he⟩=> .ret ⟨⟨⟨hD,by dsimp only;omega,by dsimp only;omega⟩,hg⟩,he.up (by omega)⟩
theorem zs1 [Inhabited B7] (hlen: ∀{c:Ap} {k:Int},A1 c k→(c.ax.length:Int)≤1048576) {c:Ap} {k:Int} (h:A1 c k) (hs:sd c) (hk:k≤900000000000000000):Bf (Vx c) fun p=>KD 1 p.1∧A1 p.2 (k+7000000000000000):=by
 have hf:NC=3000000000000000:=rfl;unfold Vx;refine(yW h hs (hlen h) (by omega)).bind fun w ⟨⟨hK,_⟩,hc⟩=>((Qo 10 (by omega) (by omega) hc (by omega)).and (Dy 10 hc (by omega))).bind fun q ⟨⟨_,_,q3,_⟩,_,he⟩=> ?_;have h0:=hK.shift.o9;have vJ: ∀z:Af,z∈([([65]:Ab),([97,98,99,100,101,102,103,104,105,106,107,108,109]:Ab),([33]:Ab)]:List (Ab))→z.length≤2000:=fun z hz=>by simp only [Ag,List.not_mem_nil,or_false]at hz;rcases hz with e|e|e<;>rw [e]<;>simp
 refine .ite (fun _=> ?_) fun _=> .ite (fun _=> ?_) fun _=> .ite (fun _=> ?_) fun _=> .ret ⟨⟨h0,hK.up,hK.down⟩,he.up (by omega)⟩
 ·exact(zvX he q3 (hlen he) (by omega)).bind fun s ⟨hS,hd⟩=> .ret ⟨⟨hS,hK.up,hK.down⟩,hd.up (by omega)⟩
 ·exact(LA _ (by simp) he (by omega)).bind fun z ⟨hz,hd⟩=> .ret ⟨⟨h0,vJ _ hz,hK.down⟩,hd.up (by omega)⟩
 ·exact(LA _ (by simp) he (by omega)).bind fun z ⟨hz,hd⟩=> .ret ⟨⟨h0,hK.up,vJ _ hz⟩,hd.up (by omega)⟩
theorem zuT [Inhabited B7] {w:Ax} {c:Ap} {k:Int} (hS:Hl 1 w.ab) (h1:1≤w.ab.aj.length) (h:A1 c k) (hk:k≤4611686018426000000):Bf (VB c w) fun p=>KF p.1.au.au∧A1 p.2 (k+300):=by
 unfold VB;refine(Dy 4 h (by omega)).bind fun p ⟨_,hc⟩=> .ite (fun _=> ?_) fun _=> .ite (fun _=> ?_) fun _=> ?_
 ·exact(Dy 3 hc (by omega)).bind fun q ⟨_,hd⟩=> .ret ⟨⟨Ju,Ju⟩,hd.up (by omega)⟩
 ·exact(tK _ (by simp) hc (by omega)).bind fun q ⟨_,hd⟩=>(Dy 3 hd (by omega)).bind fun u ⟨_,he⟩=> .ret ⟨⟨Ju,Ju⟩,he.up (by omega)⟩
 ·exact(zyK hS h1 hc (by omega)).bind fun a ⟨ha,hd⟩=> .ret ⟨ha,hd.up (by omega)⟩
theorem zzG [Inhabited B7] {w:Ax} {c:Ap} {k:Int} (hS:DK w.ab) (hg:BN w.ab) (h1:w.ca.al.length≤2000) (h2:w.az.al.length≤2000) (h:A1 c k) (hk:k≤4611686018420000000):Bf (YR c w 30) fun p=>(p.1.length≤30∧ ∀a∈p.1,KF a.au.au)∧A1 p.2 (k+20000):=by
 unfold YR;rw [uH ⟨hS,by omega,by omega⟩,Aa,show IntKind.i64.wrap (30+1)=31 from by decide];refine(Dy 31 h (by omega)).bind fun p ⟨hp,hc⟩=> ?_;have p2:=hp.2.1 (by omega);obtain⟨m,hm⟩:=Int.eq_ofNat_of_zero_le hp.1;refine K7 (fun j s=>j≤30∧s.2.1=(j:Int)∧(s.1.length+j≤30∧ ∀a∈s.1,KF a.au.au)∧A1 ⟨s.2.2.1,s.2.2.2.1,s.2.2.2.2.1⟩ (k+2+500*(30-j))∧DK ⟨s.2.2.2.2.2.1,s.2.2.2.2.2.2.1,s.2.2.2.2.2.2.2.1,s.2.2.2.2.2.2.2.2.1⟩∧BN ⟨s.2.2.2.2.2.1,s.2.2.2.2.2.2.1,s.2.2.2.2.2.2.2.1,s.2.2.2.2.2.2.2.2.1⟩∧s.2.2.2.2.2.2.2.2.2.1.length+12*j≤3000∧s.2.2.2.2.2.2.2.2.2.2.2.1.length+12*j≤3000) (fun j s hI=> ?_) (n:=m) (by exact⟨by omega,hm,⟨by simp;omega,by simp⟩,hc.up (by omega),hS,hg,by dsimp only;omega,by dsimp only;omega⟩);obtain⟨l,v,a,b,e,w1,w2,w3,w4,u1,u2,d1,d2⟩:=s;obtain⟨i0,i1,⟨i2,i3⟩,i4,i5,i6,i7,i8⟩:=hI;dsimp only at i1 i2 i3 i4 i5 i6 i7 i8 ⊢;subst i1;unfold zgN;refine .ite (fun Ak=> ?_) fun EG=> ?_
 ·simp only [decide_eq_true_eq,gt_iff_lt]at Ak;have hSK:FC ⟨⟨w1,w2,w3,w4⟩,⟨u1,u2⟩,⟨d1,d2⟩⟩:=⟨i5,by dsimp only;omega,by dsimp only;omega⟩
  refine(zuT (zxg i6) (by have:=i6.1;exact this) i4 (by omega)).bind fun x ⟨hx,hd⟩=> .req (by simp;omega) ?_;have M7:(l++ [x.1]).length+(j-1)≤30∧ ∀a∈l++ [x.1],KF a.au.au:=⟨by simp;omega,fun y hy=>by
   rcases Ai.1 hy with hy|hy
   ·exact i3 y hy
   ·rw [List.mem_singleton.1 hy];exact hx⟩
  have hw:IntKind.i64.wrap ((j:Int)-1)=((j-1:Nat):Int):=by rw [Ba (by omega) (by omega)];omega
  rw [rG (w:=⟨⟨w1,w2,w3,w4⟩,⟨u1,u2⟩,⟨d1,d2⟩⟩) i6 hx.small,Aa];refine .ite (fun DM=> ?_) fun _=> .ret ⟨j-1,by omega,by omega,hw,M7,hd.up (by omega),i5,i6,by dsimp only;omega,by dsimp only;omega⟩;obtain⟨r,r1,_,_,r4⟩:=qF hSK i6 hx.small (uL i6 DM);rw [r1,Aa];have q1:=r4.pj;have q2:=r4.n6;dsimp only at q1 q2;exact .ret ⟨j-1,by omega,by omega,hw,M7,hd.up (by omega),r4.shift.small,r4.shift.br,by dsimp only;omega,by dsimp only;omega⟩
 ·exact .ret (.ret ⟨⟨by dsimp only;omega,i3⟩,i4.up (by omega)⟩)
theorem zs7 {code:List Int} (h: ∀b∈code,0≤b∧b≤255) (hl:(code.length:Int)≤1048576):Bf (mN code) fun p=>KD 1 p.1∧KF p.2.au.au:=by
 letI:Inhabited B7:=⟨⟨fun l=>(∀b∈l,0≤b∧b≤255)∧l=code,fun _ h=>h.1⟩⟩
 have hlen: ∀{c:Ap} {k:Int},A1 c k→(c.ax.length:Int)≤1048576:=fun{c k} hc=>by have e:c.ax=code:=hc.1.2;rw [e];exact hl
 have h0:A1 ⟨code,0,0⟩ 0:= .start ⟨h,rfl⟩;unfold mN;refine(zs1 hlen h0 ⟨by simp,by simp⟩ (by omega)).bind fun w ⟨hK,hc⟩=> ?_;obtain⟨g,e1,_,e3⟩:=bY (hK.small (by omega));rw [e1,Aa];refine .ite (fun _=> .ret ⟨hK,Ju,Ju⟩) fun Uw=> ?_;have hg:=(e3.1 (by simpa using Uw)).shift;refine(zuT (zxg hg) hg.1 hc (by omega)).bind fun a ⟨ha,hd⟩=>(Dy 14 hd (by omega)).bind fun q ⟨_,he⟩=> ?_;refine .ite (fun _=> ?_) fun _=> .ite (fun _=> ?_) fun _=> .ite (fun _=> ?_) fun _=> .ret ⟨hK,ha⟩
 ·exact(Dy 5 he (by omega)).bind fun u _=> .ret ⟨hK,ha⟩
 ·exact(tK _ (by simp) he (by omega)).bind fun u _=> .ret ⟨hK,ha⟩
 ·exact(Dy 4 he (by omega)).bind fun u _=> .ret ⟨hK,ha⟩
theorem zsy {code:List Int} (h: ∀b∈code,0≤b∧b≤255) (hl:(code.length:Int)≤1048576):Bf (Zi code) fun p=>KD 1 p.1∧ ∀a∈p.2,KF a.au.au:=by
 letI:Inhabited B7:=⟨⟨fun l=>(∀b∈l,0≤b∧b≤255)∧l=code,fun _ h=>h.1⟩⟩
 have hf:NC=3000000000000000:=rfl;have hlen: ∀{c:Ap} {k:Int},A1 c k→(c.ax.length:Int)≤1048576:=fun{c k} hc=>by have e:c.ax=code:=hc.1.2;rw [e];exact hl
 have h0:A1 ⟨code,0,0⟩ 0:= .start ⟨h,rfl⟩;unfold Zi;refine(yW h0 ⟨by simp,by simp⟩ (hlen h0) (by omega)).bind fun w ⟨⟨hK,hg⟩,hc⟩=> ?_;refine(zzG (hK.shift.small (by omega)) hg hK.up hK.down hc (by omega)).bind fun l ⟨⟨KQ,J1⟩,hd⟩=> ?_;refine((Qo 12 (by omega) (by omega) hd (by omega)).and (Dy 12 hd (by omega))).bind fun q ⟨⟨_,_,q3,_⟩,_,he⟩=> ?_;have QU:KD 1 w.1:=⟨hK.shift.o9,hK.up,hK.down⟩
 refine .ite (fun _=> ?_) fun _=> .ite (fun _=> ?_) fun _=> .ret ⟨QU,J1⟩
 ·refine(Dy 4 he (by omega)).bind fun u _=> .req (by simp;omega) (.ret ⟨QU,fun y hy=> ?_⟩);dsimp only at hy;rcases Ai.1 hy with hy|hy
  ·exact J1 y hy
  ·rw [List.mem_singleton.1 hy];exact⟨Ju,Ju⟩
 ·exact(zs1 hlen he q3 (by omega)).bind fun x ⟨hx,_⟩=> .ret ⟨hx,J1⟩
theorem zID {s:Aq} (hS:DK s) (hg:BN s):oU s=some (GR s,true):=by obtain⟨g,e,f⟩:=tR hS;unfold oU;rw [e,Aa,if_neg (by simp [f.2 hg]),(dC hS hg).1];rfl
theorem jW {s:Aq} (hS:DK s) (hg:BN s):Qa s=some (GR s,true):=by obtain⟨g,e,f⟩:=tO hS;unfold Qa;rw [e,Aa,if_neg (by simp [f.2 hg]),(dC hS hg).2];rfl
theorem zu2 {s:Aq} (hS:DK s) (hg:BN s):Sm s.bp=some (E5 s.bp)∧RD s=some (E5 s.bp):=by
 have hb: ∀y∈s.bp,0≤y∧y≤3:=fun y hy=>by have:=hg.2.2.2.2.2.1 y hy;have:=hg.2.1;omega
 have h3:=Ca.1 hg.2.2.2.2.1;exact⟨tC hS.at_ hb,xO hS.at_ (by omega) hb⟩
theorem zHG {s:Aq} (hS:DK s) (hg:BN s):oA s=some (E5 s.bp,true):=by obtain⟨g,e,f⟩:=tR hS;unfold oA;rw [e,Aa,if_neg (by simp [f.2 hg]),(zu2 hS hg).1];rfl
theorem tP {s:Aq} (hS:DK s) (hg:BN s):P6 s=some (E5 s.bp,true):=by obtain⟨g,e,f⟩:=tO hS;unfold P6;rw [e,Aa,if_neg (by simp [f.2 hg]),(zu2 hS hg).2];rfl
theorem xH {w:Ax} (hS:FC w):Wf w w=some true:=by unfold Wf;rw [zEH hS.shift,Aa];simp
theorem Yk {a b:Bool} (h:a=true→b=true):(!a||b)=true:=by
 cases a with
 |false=>rfl
 |true=>rw [h rfl];rfl
theorem yM {a b c d:Bool} (h:a=true→b=true→c=true∧d=true):((!a|| !b)||(c&&d))=true:=by
 cases a with
 |false=>rfl
 |true=>
  cases b with
  |false=>rfl
  |true=>rw [(h rfl rfl).1,(h rfl rfl).2];rfl
theorem zJY (c b:List Int) (hc:Rf Ma c) (_:Rf Ma b) (z0:c.length≤140737488351232) (z1:b.length≤140737488351232):zp8 c b=some true:=by
 unfold zp8;refine YE (fun _=>rfl) fun hlen=> ?_;have hl:(c.length:Int)≤1048576:=by simp only [decide_eq_false_iff_not]at hlen;rw [Ba (by omega) (by omega)]at hlen;omega
 obtain⟨⟨w,a⟩,hd,hD,hA⟩:=zs7 hc.2 hl;dsimp only at hD hA;have hS:=hD.small (by omega);obtain⟨g,Q⟩:=Yx hS;obtain⟨_,ga,r,A⟩:=zD8 (a:=a) hS hA.small;have LI:=hD.next A.res;refine(DG hd).trans ((DG A.si).trans ((DG A.ss).trans ((DG Q.fi).trans ((DG Q.fs).trans ((DG Q.ci).trans ((DG Q.cs).trans ?_))))));refine KY (by simp) (KY (by simp) ((DG (xH LI)).trans (zJ8 rfl (KY (by simp) (KY (by simp) (KY (by simp) (KY (by simp) ?_)))))));refine(DG Q.gi).trans ((DG Q.gs).trans (KY (by simp) ((DG A.ai).trans (KY (by rw [A.ok];simp) (YE (fun _=>rfl) fun Cl=> ?_)))));have FI:ga=true:=by rw [←A.ok];simpa using Cl
 obtain⟨hK,_,AZ,hN⟩:=A.on FI;have LG:=hN.br hK;have F0:=Q.br.2 hK;obtain⟨g',Q'⟩:=Yx LI;have JX:=Q'.br.2 LG;refine(DG Q'.fi).trans ((DG Q'.ci).trans ((DG (zID hS.shift hK.shift)).trans ((DG (zHG hS.shift hK.shift)).trans ((DG (jW LI.shift LG.shift)).trans ((DG (tP LI.shift LG.shift)).trans ?_)))));have f1:=Yk fun h:Lh w=true=>(bF LG.shift).2 (zs6 hS hK.shift hA.small AZ ((bF hK.shift).1 h));have f2:=Yk fun h:Lf w=true=>aJ.2 (zrx hS hK.shift hA.small AZ (aJ.1 h));have f3:=yM fun(h1:GR w.ab=true) (h2:E5 w.ab.bp=true)=>(zyc hS hK.shift hA.small AZ h1 h2).symm;dsimp only at f1 f2 f3;rw [if_pos JX,if_pos JX,if_pos F0,if_pos F0];dsimp only;rw [f1,f2,f3];rfl
theorem zFY (c b:List Int) (hc:Rf Ma c) (_:Rf Ma b) (z0:c.length≤140737488351232) (z1:b.length≤140737488351232):ZX c b=some true:=by
 unfold ZX;refine YE (fun _=>rfl) fun hlen=> ?_;have hl:(c.length:Int)≤1048576:=by simp only [decide_eq_false_iff_not]at hlen;rw [Ba (by omega) (by omega)]at hlen;omega
 obtain⟨⟨w,l⟩,hd,hD,hA⟩:=zsy hc.2 hl;dsimp only at hD hA;have hS:=hD.small (by omega);obtain⟨r,p1,p2,p3,p4⟩:=zvM (acts:=l) hS fun a ha=>(hA a ha).small;have LI:FC r.1:=by
  rcases p4 with rfl|⟨_,h,_⟩
  ·exact hD.next (.inl rfl)
  ·exact h.small
 refine(DG hd).trans ((DG p2).trans ((DG p1).trans ?_));refine KY (by simp) ((DG (zFR (by omega))).trans (zJ8 rfl ((DG (xH LI)).trans (KY (by simp) (YE (fun _=>rfl) fun Cl=> ?_)))));rcases p4 with rfl|⟨hK,R,_⟩
 ·simp at Cl
 have LG:=R.br;obtain⟨g,Q⟩:=Yx hS;have F0:=Q.br.2 hK;obtain⟨g',Q'⟩:=Yx LI;have JX:=Q'.br.2 LG;refine(DG Q.fi).trans ((DG Q.ci).trans ((DG (jW hS.shift hK.shift)).trans ((DG (tP hS.shift hK.shift)).trans ((DG Q'.fi).trans ((DG Q'.ci).trans ((DG (jW LI.shift LG.shift)).trans ((DG (tP LI.shift LG.shift)).trans ?_)))))));have f1:=Yk fun h:Lh w=true=>(bF LG.shift).2 (R.filled ((bF hK.shift).1 h));have f2:=Yk fun h:Lf w=true=>aJ.2 (R.ib (aJ.1 h));have f3:=yM fun(h1:GR w.ab=true) (h2:E5 w.ab.bp=true)=>(R.held h1 h2).symm;rw [if_pos JX,if_pos JX,if_pos F0,if_pos F0];dsimp only;rw [f1,f2,f3];rfl
theorem zzJ {H:Type} {enc:TypeId × Value→H} {P:Program} {w:World} {base:Nat} {sp:Nat→Bool} {held:Bool} {fuel:Nat} {t:TypeId} {cs:List Value} {n:String} {d:DataW H} {p:List MemPlace} {u:TypeDesc}
  (ht:P.underlying t=some u) (hu:(match u with| .interface _=>true|_=>false)=true) (h:DataW.trod enc P w base sp held fuel t cs=some (.iface n d,p)): ∃a v,cs= [.iface a v]:=by
 cases fuel with
 |zero=>simp [DataW.trod]at h
 |succ fuel=>
  cases u<;>first|(cases hu;done)|skip
  simp only [DataW.trod,ht]at h;split at h<;>first|(exact⟨_,_,rfl⟩)|(simp at h;done)|(simp_all;done)
noncomputable def zIV (s:String):Bool:=match(Tryz.prog.globalNamed s).bind (fun g=>(Tryz.prog.globals[g]?).map (·.type))with
 |some t=>(match Tryz.prog.underlying t with|some (.interface _)=>true|_=>false)
 |none=>false
noncomputable def zP (s:String):Bool:=match(Tryz.prog.globalNamed s).bind (fun g=>(Tryz.prog.globals[g]?).map (·.type))with
 |some t=>(match Tryz.prog.underlying t with
  |some (.array n e)=>(match Tryz.prog.underlying e with|some (.int .u64)=>true|_=>false)&&Tryz.prog.cellsOf e==1&&Tryz.prog.cellsOf t==n
  |_=>false)
 |none=>false
theorem xK {s:String} {D:DataW Unit} {W:World} (h:laidMet Tryz.prog [(s,D)] W) (hc:zIV s=true) (hd: ∃n d,D= .iface n d): ∃t p,W.var? Tryz.prog s=some #[.iface t p]:=by
 obtain⟨ps,⟨g,t,cs,fuel,p,q,hg,ht,U1,X0,_,_⟩,_⟩:=h;obtain⟨n,d,rfl⟩:=hd;unfold zIV at hc;rw [hg,Aa,ht]at hc;simp only at hc;cases hu:Tryz.prog.underlying t with
 |none=>rw [hu]at hc;cases hc
 |some u=>obtain⟨a,v,e⟩:=zzJ hu (by rw [hu]at hc;cases u<;>first|rfl|cases hc) X0;refine⟨a,v, ?_⟩;rw [U1];congr 1;apply Array.ext';rw [e]
theorem zIc {s:String} {W:World} (h:laidMet Tryz.prog [(s,Lib.tabData .u64 Lib.pow10Tab)] W) (hc:zP s=true):Lib.TabIs Tryz.prog W s .u64 Lib.pow10Tab:=by
 have h0:=h;obtain⟨ps,⟨g,t,cs,fuel,p,q,hg,ht,U1,X0,_,_⟩,_⟩:=h;unfold zP at hc;rw [hg,Aa,ht]at hc;simp only at hc;split at hc
 ·rename_i n e hu;simp only [Ae,beq_iff_eq]at hc;obtain⟨⟨h1,h2⟩,h3⟩:=hc;split at h1
  ·rename_i he;exact Lib.tabIs_of_head hg ht hu he h2 h3 h0
  ·cases h1
 ·cases hc
theorem zGX {laid:List (String × DataW Unit)} {D1 D2 D3:DataW Unit} {W:World} (h:laidMet Tryz.prog laid W)
  (e1:(laid.filter fun x=>x.1== "strconv.ErrSyntax")= [("strconv.ErrSyntax",D1)]) (i1: ∃n d,D1= .iface n d)
  (e2:(laid.filter fun x=>x.1== "strconv.ErrRange")= [("strconv.ErrRange",D2)]) (i2: ∃n d,D2= .iface n d)
  (e3:(laid.filter fun x=>x.1== "internal/strconv.uint64pow10")= [("internal/strconv.uint64pow10",D3)]) (i3:D3=Lib.tabData .u64 Lib.pow10Tab):F7.n≤W.heap.size∧F7.K W:=by
 have h1:=h.filter fun x=>x.1== "strconv.ErrSyntax"
 have h2:=h.filter fun x=>x.1== "strconv.ErrRange"
 have h3:=h.filter fun x=>x.1== "internal/strconv.uint64pow10"
 rw [e1]at h1;rw [e2]at h2;rw [e3,i3]at h3;have k:jJ W:=⟨xK h1 (by kernel_rfl) i1,xK h2 (by kernel_rfl) i2,(zIc h3 (by kernel_rfl)).trans (by kernel_rfl)⟩
 exact⟨zH8 k,k⟩
end Go.Proofs.YtbmbkgalkfmjdaaGreatDoor
end
