/- Parts of a proof, joined: NDB, NKX, NKV, NPE, NKP, PL. -/
import Derived.Test.YtollgpkegmbpmaaGreatDoorD9
import Derived.Lib.LaidTab
import Derived.LaidSub
set_option linter.unusedVariables false
set_option linter.unusedSimpArgs false
section
namespace Go.Proofs.YtollgpkegmbpmaaGreatDoor
open Go.RowKit
set_option maxRecDepth 100000
set_option maxHeartbeats 1000000
theorem Ds.mono {n m:Nat} {l:List Ac} (h:Ds n l) (hm:n≤m):Ds m l:=⟨h.ct,by have:=h.len;omega,h.c7⟩
theorem xA [Inhabited DB] {c:AH} {k:Int} (h:BG c k) (hk:k≤4611686018427387000):BU (Uv c) fun p=>Dh p.1=true∧BG p.2 (k+2):=by unfold Uv;refine(Hc _ (by simp) h (by omega)).bind fun p ⟨hp,hc⟩=> .ret ⟨?_,hc⟩;simp only [Ae,List.not_mem_nil,or_false]at hp;dsimp only;rcases hp with e|e|e|e|e|e|e|e<;>rw [e]<;>decide
theorem yO [Inhabited DB] {c:AH} {k:Int} (h:BG c k) (hk:k≤4611686018427387000):BU (Uw c) fun p=>FX p.1=true∧BG p.2 (k+2):=by unfold Uw;refine(Hc _ (by simp) h (by omega)).bind fun p ⟨hp,hc⟩=> .ret ⟨?_,hc⟩;simp only [Ae,List.not_mem_nil,or_false]at hp;dsimp only;rcases hp with e|e|e|e|e|e|e<;>rw [e]<;>decide
def Hh (t:Aj) (l:List Ac):Nat:=(l.filter (Ed t)).length
theorem cZ {t:Aj} {w:Ac}: ∀l:List Ac,Hh t (B5 wk w l)≤Hh t l+(if Ed t w=true then 1 else 0)
 | []=>by unfold Hh;rw [B5,List.filter_cons];split<;>simp
 |z::l=>by
  have ih:=cZ (t:=t) (w:=w) l;unfold Hh at ih ⊢;rw [B5];split
  ·rw [List.filter_cons];split<;>simp
  ·split
   ·rw [List.filter_cons,List.filter_cons];split<;>split<;>(try simp only [Am])<;>omega
   ·rw [List.filter_cons,List.filter_cons];split<;>(try simp only [Am])<;>omega
theorem nF {t:Aj} {x:AX} {r:An} (hg:A9 t=true) (hx:x∈t.aj) (hr:BD t r=true) (l:List Ac):Hh t (B5 wk ⟨Fe t x.ae x.cy r, [],false⟩ l)≤Hh t l:=by
 have h:=cZ (t:=t) (w:=⟨Fe t x.ae x.cy r, [],false⟩) l;rw [if_neg (fun Bm=> ?_)]at h
 ·omega
 ·obtain⟨h1,h2⟩:=V7 Bm;exact zs6 hg (No hg hx).1 h1 hr (congrArg Ac.ab h2).symm
structure DS (n:Nat) (l:List Ac):Prop where
 ok:Ds n l
 live: ∀w∈l,w.a8=false
theorem DS.len {n:Nat} {l:List Ac} (h:DS n l):l.length≤n:=h.ok.len
theorem DS.ct {n:Nat} {l:List Ac} (h:DS n l):Fk l:=h.ok.ct
theorem DS.c7 {n:Nat} {l:List Ac} (h:DS n l): ∀w∈l,CO w=true:=h.ok.c7
theorem DS.mono {n m:Nat} {l:List Ac} (h:DS n l) (hm:n≤m):DS m l:=⟨h.ok.mono hm,h.live⟩
theorem bE {w y:Ac}: ∀{l:List Ac},y∈B5 wk w l→y=w∨y∈l
 | [],h=> .inl (by simpa [B5]using h)
 |z::l,h=>by
  rw [B5]at h;split at h
  ·rcases Ae.1 h with h|h
   ·exact .inl h
   ·exact .inr h
  ·split at h
   ·rcases Ae.1 h with h|h
    ·exact .inl h
    ·exact .inr (by simp [h])
   ·rcases Ae.1 h with h|h
    ·exact .inr (by simp [h])
    ·rcases bE h with h|h
     ·exact .inl h
     ·exact .inr (by simp [h])
theorem Wp {n:Nat} {ws:List Ac} {w:Ac} (h:DS n ws) (hw:CO w=true) (hl:w.a8=false):DS (n+1) (B5 wk w ws):=⟨Jq h.ok hw,fun y hy=>by
 rcases bE hy with rfl|hy
 ·exact hl
 ·exact h.live y hy⟩
theorem ztH [Inhabited DB] {t:Aj} {c:AH} {k:Int} {n m:Nat} {l:List Ac} (hl:DS n l) (hm:Hh t l≤m) (hn:n≤1000) (h:BG c k) (hk:k≤4611686018427380000):BU (Y6 c.ay c.ch c.az l) fun p=>(DS (n+1) p.1∧Hh t p.1≤m+1)∧BG p.2 (k+6):=by unfold Y6;have hlen:=hl.len;refine(KQ 6 (c:=⟨c.ay,c.ch,c.az⟩) h (by omega)).bind fun p hp=> .ite (fun _=> ?_) fun _=> .ret ⟨⟨hl.mono (by omega),by dsimp only;omega⟩,hp.up (by omega)⟩;refine(xA hp (by omega)).bind fun q ⟨hq,hc⟩=>(yO hc (by omega)).bind fun r ⟨hr,hd⟩=> ?_;rw [KA (by omega) hl.ct,Ab];refine .ret ⟨⟨Wp hl (eA hq hr) rfl, ?_⟩,hd.up (by omega)⟩;have:=cZ (t:=t) (w:=⟨q.1,r.1,false⟩) l;split at this<;>(dsimp only;omega)
theorem ztl [Inhabited DB] {t:Aj} {q:Nat} {x:AX} {c:AH} {k:Int} {n m:Nat} {l:List Ac} (hg:A9 t=true) (hx:x∈t.aj) (hq:q≤3) (hl:DS n l) (hm:Hh t l≤m) (hn:n≤1000) (h:BG c k) (hk:k≤4611686018427370000):
  BU (Y8 t q x c.ay c.ch c.az l) fun o=> ∃(c':AH) (l':List Ac),o= .inl (((q+1:Nat):Int),c'.ay,c'.ch,c'.az,l')∧DS (n+1) l'∧Hh t l'≤m∧BG c' (k+30):=by
 unfold Y8;have hlen:=hl.len;have w1:IntKind.i64.wrap ((q:Int)+1)=((q+1:Nat):Int):=by rw [B3 (by omega) (by omega)];omega
 refine(KQ 5 (c:=⟨c.ay,c.ch,c.az⟩) h (by omega)).bind fun p hp=> .ite (fun _=> ?_) fun _=> .ret ⟨p.2,l,by rw [w1],hl.mono (by omega),hm,hp.up (by omega)⟩;refine(SJ hg hp (by omega)).bind fun r ⟨hr,hc⟩=> ?_;obtain⟨e1,e2⟩:=mC hg hx hr;rw [e1,Ab,KA (by omega) hl.ct,Ab];exact .ret ⟨r.2,_,by rw [w1],Wp hl e2 rfl,Nat.le_trans (nF hg hx hr l) hm,hc.up (by omega)⟩
def T1 (q:Nat):Nat:=4+5*q
theorem zvx {t:Aj} (h:A9 t=true):t.aj.length≤3:=by unfold A9 at h;simp only [Ad,decide_eq_true_eq]at h;omega
theorem ztf [Inhabited DB] {t:Aj} {c:AH} {k:Int} {l:List Ac} (hg:A9 t=true) (hl:DS 4 l) (h:BG c k) (hk:k≤4611686018427360000):BU (Y4 t c.ay c.ch c.az l) fun p=>(DS 20 p.1∧Hh t p.1≤5)∧BG p.2 (k+700):=by
 unfold Y4;have hS:=FU hg;have h3:=zvx hg;refine Ni (fun m s=> ∃q:Nat,s.1=(q:Int)∧q+m=t.aj.length∧DS (T1 q) s.2.2.2.2∧Hh t s.2.2.2.2≤4∧BG ⟨s.2.1,s.2.2.1,s.2.2.2.1⟩ (k+200*q)) (fun m s hI=> ?_) (n:=t.aj.length) (by exact⟨0,rfl,by omega,hl,Nat.le_trans (List.length_filter_le _ _) hl.len,by simpa using h⟩);obtain⟨q,e1,e2,hT,hm,ho⟩:=hI;obtain⟨s1,a,b,e,l⟩:=s;dsimp only at e1 hT hm ho ⊢;subst e1;have hb:T1 q=4+5*q:=rfl;have hlen:=hT.len;unfold jR;refine .ite (fun Ax=> ?_) fun Im=> ?_
 ·simp only [decide_eq_true_eq]at Ax;have hq:q<t.aj.length:=by omega
  rw [Bb hq,Ab,dY hS.name (by omega) (fun w hw=>bF (hT.c7 w hw)),Ab];have hx:=List.getElem_mem hq;have hR:(rows t l).length≤4:=by unfold rows;rw [List.length_map];exact hm
  generalize Ej:rows t l=R at hR;have gG: ∀r∈R,BD t r=true:=fun r hr=>bU (l:=l) (by rw [Ej];exact hr);refine Ni (fun j s=> ∃i:Nat,s.1=(i:Int)∧i+j=R.length∧DS (T1 q+i) s.2.2.2.2∧Hh t s.2.2.2.2≤4∧BG ⟨s.2.1,s.2.2.1,s.2.2.2.1⟩ (k+200*q+2*i)) (fun j s hJ=> ?_) (n:=R.length) (by exact⟨0,rfl,by omega,hT,hm,by simpa using ho⟩);obtain⟨i,f1,f2,gT,gm,go⟩:=hJ;obtain⟨s1,a,b,e,l'⟩:=s;dsimp only at f1 gT gm go ⊢;subst f1;have glen:=gT.len;unfold jT;refine .ite (fun Gm=> ?_) fun Xy=> ?_
  ·simp only [decide_eq_true_eq]at Gm;have hi:i<R.length:=by omega
   have w1:IntKind.i64.wrap ((i:Int)+1)=((i+1:Nat):Int):=by rw [B3 (by omega) (by omega)];omega
   obtain⟨n1,n2⟩:=mC hg hx (gG _ (List.getElem_mem hi));rw [Bb hi,Ab];refine(KQ 5 go (by omega)).bind fun p hp=> .ite (fun _=> ?_) fun _=> .ret ⟨j-1,by omega,i+1,w1,by omega,gT.mono (by omega),gm,hp.up (by omega)⟩;rw [n1,Ab,KA (by omega) gT.ct,Ab];exact .ret ⟨j-1,by omega,i+1,w1,by omega,(Wp gT n2 rfl).mono (by omega),Nat.le_trans (nF hg hx (gG _ (List.getElem_mem hi)) _) gm,hp.up (by omega)⟩
  ·simp only [decide_eq_false_iff_not]at Xy;refine .ret ((ztl (c:=⟨a,b,e⟩) hg hx (by omega) gT gm (by omega) go (by omega)).mono fun o vN=> ?_);obtain⟨c',l2,rfl,z1,zm,z2⟩:=vN;exact⟨m-1,by omega,q+1,rfl,by omega,z1.mono (by have:T1 (q+1)=4+5*(q+1):=rfl;omega),zm,z2.up (by omega)⟩
 ·refine .ret ((ztH (t:=t) (c:=⟨a,b,e⟩) hT hm (by omega) ho (by omega)).mono fun p hp=>⟨⟨hp.1.1.mono (by omega),hp.1.2⟩,hp.2.up (by omega)⟩)
theorem zyi [Inhabited DB] {t:Aj} {c:AH} {k:Int} (hg:A9 t=true) (h:BG c k) (hk:k≤4611686018427350000):BU (Ug c t) fun p=>(DS 20 p.1∧Hh t p.1≤5)∧BG p.2 (k+900):=by
 unfold Ug;have hS:=FU hg;refine(EB 5 h (by omega)).bind fun p ⟨hp,hc⟩=> ?_;have p2:=hp.2.1 (by omega);obtain⟨m,hm⟩:=Int.eq_ofNat_of_zero_le hp.1;have vC:m≤4:=by omega
 refine Ni (fun j s=>j≤4∧s.2.1=(j:Int)∧DS (4-j) s.1∧BG ⟨s.2.2.1,s.2.2.2.1,s.2.2.2.2⟩ (k+2+30*(4-j))) (fun j s hI=> ?_) (n:=m) (by exact⟨vC,hm,⟨⟨.nil,by simp,by simp⟩,by simp⟩,hc.up (by omega)⟩);obtain⟨l,s1,a,b,e⟩:=s;obtain⟨i0,i1,i2,i3⟩:=hI;dsimp only at i1 i2 i3 ⊢;subst i1;have hlen:=i2.len;unfold jU;refine .ite (fun Ax=> ?_) fun Im=> ?_
 ·simp only [decide_eq_true_eq,gt_iff_lt]at Ax;refine(SJ hg i3 (by omega)).bind fun r ⟨hr,hd⟩=> ?_;obtain⟨hs,h2⟩:=Lz hg hr;have Bt:r.1.ah≠ []:=fun e=>by rw [e]at h2;simp at h2
  have hw:=VY hg hr;rw [SD hS.name hs.small Bt,Ab,KA (by omega) i2.ct,Ab];refine .ret ⟨j-1,by omega,by omega, ?_,(Wp i2 (w:=BO t r.1) (eA hw.1 hw.2) rfl).mono (by omega),hd.up (by omega)⟩;dsimp only;rw [B3 (by omega) (by omega)];omega
 ·simp only [decide_eq_false_iff_not,gt_iff_lt]at Im;exact .ret ((ztf (c:=⟨a,b,e⟩) hg (i2.mono (by omega)) i3 (by omega)).mono fun p hp=>⟨hp.1,hp.2.up (by omega)⟩)
structure GD (l:List Ac):Prop where
 len:l.length≤100
 each: ∀w∈l,HF w
theorem GD.small {l:List Ac} (h:GD l):LU l:=⟨by have:=h.len;omega,fun w hw=>by have:=h.each w hw;unfold HF at this;omega⟩
theorem mS (w:Ac): ∀(l:List Ac),(B5 wk w l).length≤l.length+1
 | []=>by simp [B5]
 |z::l=>by
  rw [B5];split
  ·simp
  ·split
   ·simp
   ·have:=mS w l;simp only [Am];omega
theorem GD.put {l:List Ac} {w:Ac} (h:GD l) (hl:l.length≤99) (hw:HF w):GD (B5 wk w l):=⟨by have:=mS w l;omega,fun y hy=>by
 rcases bE hy with rfl|hy
 ·exact hw
 ·exact h.each y hy⟩
theorem DS.mj {n:Nat} {l:List Ac} (h:DS n l) (hn:n≤100):GD l:=⟨by have:=h.len;omega,fun w hw=>bF (h.c7 w hw)⟩
theorem Ds.mj {n:Nat} {l:List Ac} (h:Ds n l) (hn:n≤100):GD l:=⟨by have:=h.len;omega,fun w hw=>bF (h.c7 w hw)⟩
theorem zss [Inhabited DB] {t:Aj} {c:AH} {k:Int} (hg:A9 t=true) (h:BG c k) (hk:k≤4611686018427340000):BU (Ua c t) fun p=>GD p.1∧BG p.2 (k+1000):=by
 unfold Ua;have hn:=(Vw (Kt hg)).1;refine(zyi hg h (by omega)).bind fun s ⟨⟨hs,_⟩,hc⟩=>(EB 12 hc (by omega)).bind fun q ⟨_,hd⟩=> ?_;have hT:=hs.mj (by omega);have hlen:=hs.len;refine .ite (fun _=> ?_) fun _=> .ite (fun _=> ?_) fun _=> .ite (fun _=> .ite (fun E3=> ?_) fun _=> .ret ⟨hT,hd.up (by omega)⟩) fun _=> .ite (fun _=> ?_) fun _=> .ret ⟨hT,hd.up (by omega)⟩
 ·refine .req (by simp;omega) (.ret ⟨⟨by simp;omega,fun w hw=> ?_⟩,hd.up (by omega)⟩);dsimp only at hw;rcases Ah.1 hw with hw|hw
  ·exact hT.each w hw
  ·rw [List.mem_singleton.1 hw];exact⟨by decide,by decide⟩
 ·refine .req (by simp;omega) ((Hc _ (by simp) hd (by omega)).bind fun u ⟨hu,he⟩=> ?_);have wI:u.1.length≤4:=by
   simp only [Ae,List.not_mem_nil,or_false]at hu;rcases hu with e|e|e<;>rw [e]<;>decide
  refine .req (by simp;omega) ((Hc _ (by simp) he (by omega)).bind fun v ⟨hv,hf⟩=> ?_);have Dx:v.1.length≤5:=by simp only [Ae,List.not_mem_nil,or_false]at hv;rcases hv with e|e|e|e<;>rw [e]<;>decide
  rw [KA (by omega) hs.ct,Ab];exact .ret ⟨hT.put (by omega) ⟨by simp;omega,by dsimp only;omega⟩,hf.up (by omega)⟩
 ·simp only [decide_eq_true_eq]at E3;refine(EB _ hd (by omega)).bind fun u ⟨hu,he⟩=> ?_;obtain⟨y,ey,hy,_⟩:=LM (xs:=s.1) hu.1 (hu.2.1 (by omega));rw [ey,Ab];refine .ret ⟨⟨by rw [List.length_set];omega,fun w hw=> ?_⟩,he.up (by omega)⟩;rcases List.mem_or_eq_of_mem_set hw with hw|rfl
  ·exact hT.each w hw
  ·exact hT.each y hy
 ·refine .req (by simp;omega) ((Hc _ (by simp) hd (by omega)).bind fun u ⟨hu,he⟩=> ?_);have wI:u.1.length≤6:=by
   simp only [Ae,List.not_mem_nil,or_false]at hu;rcases hu with e|e|e|e<;>rw [e]<;>decide
  refine .req (by simp;omega) ?_;rw [KA (by omega) hs.ct,Ab];exact .ret ⟨hT.put (by omega) ⟨by simp;omega,by simp⟩,he.up (by omega)⟩
structure PU (a:Ba):Prop where
 old:I5 a.bg.ah
 new:I5 a.bj.ah
theorem PU.small {a:Ba} (h:PU a):LW a:=⟨h.old.small,h.new.small⟩
theorem V1:I5 []:=⟨by simp,by simp⟩
theorem cQ [Inhabited DB] {t:Aj} {c:AH} {k:Int} {v:List Ag} (hg:A9 t=true) (hv:I5 v) (CW:2≤v.length) (h:BG c k) (hk:k≤4611686018427340000):BU (Uk t c.ay c.ch c.az v) fun p=>PU p.1∧BG p.2 (k+30):=by
 unfold Uk;refine(EB 3 (c:=⟨c.ay,c.ch,c.az⟩) h (by omega)).bind fun p ⟨_,hc⟩=> .ite (fun _=> ?_) fun _=> .ite (fun _=> .ret ⟨⟨hv,V1⟩,hc.up (by omega)⟩) fun _=> ?_
 ·exact(SJ hg hc (by omega)).bind fun r ⟨hr,hd⟩=> .ret ⟨⟨V1,(Lz hg hr).1⟩,hd.up (by omega)⟩
 ·refine(SJ hg hc (by omega)).bind fun r ⟨hr,hd⟩=> ?_;obtain⟨hs,h2⟩:=Lz hg hr;obtain⟨y,ey,hy,_⟩:=LM (xs:=v) (i:=0) (by omega) (by omega);rw [ey,Ab];refine BU.bind (P:=fun _=>True) (.getI (by omega) (by omega) fun _ _=>trivial) fun _ _=> .ret ⟨⟨hv,hs.set (hv.each y hy)⟩,hd.up (by omega)⟩
theorem sQ [Inhabited DB] {t:Aj} {l:List Ac} {c:AH} {k:Int} (hg:A9 t=true) (hl:GD l) (h:BG c k) (hk:k≤4611686018427330000):BU (Ry c t l) fun p=>PU p.1∧BG p.2 (k+100):=by
 unfold Ry;have hS:=FU hg;have hlen:=hl.len;rw [dY hS.name (by omega) hl.each,Ab];have hR:=eB t l;refine(SJ hg h (by omega)).bind fun r ⟨hr,hc⟩=> .ite (fun E3=> ?_) fun _=> ?_
 ·simp only [decide_eq_true_eq]at E3;refine(KQ 4 hc (by omega)).bind fun u hu=> ?_;unfold Uj;refine .ite (fun _=> ?_) fun _=> ?_
  ·refine(EB _ (c:=⟨u.2.ay,u.2.ch,u.2.az⟩) hu (by omega)).bind fun i ⟨hi,hd⟩=> ?_;obtain⟨y,ey,hy,_⟩:=LM (xs:=rows t l) hi.1 (hi.2.1 (by omega));rw [ey,Ab];obtain⟨hs,h2⟩:=Lz hg (bU hy);exact(cQ hg hs h2 hd (by omega)).mono fun p hp=>⟨hp.1,hp.2.up (by omega)⟩
  ·obtain⟨hs,h2⟩:=Lz hg hr;exact(cQ hg hs h2 hu (by omega)).mono fun p hp=>⟨hp.1,hp.2.up (by omega)⟩
 ·unfold Uj;refine .ite (fun hh=>by cases hh) fun _=> ?_;obtain⟨hs,h2⟩:=Lz hg hr;exact(cQ hg hs h2 hc (by omega)).mono fun p hp=>⟨hp.1,hp.2.up (by omega)⟩
abbrev ED:Ba:=⟨0,⟨[]⟩,⟨[]⟩⟩
abbrev Fj:Bo:=⟨0,ED, [], [], []⟩
structure Hv (s:Bo):Prop where
 act:LW s.bb
 idx:s.a7.length≤2000000
 low:s.ca.length≤2000000
 high:s.cg.length≤2000000
def JF (a:Ba):Bool:=((a.af==0)&&((a.bg.ah.length:Int)==0))&&((a.bj.ah.length:Int)==0)
def FZ (t:Aj) (s:Bo):Bool:=
 if s.af=1 then((Ha t s.bb&&(s.a7== []))&&(s.ca== []))&&(s.cg== [])else
 if s.af=2 then JF s.bb&&((s.a7== [])&&(field s.ca&&(s.cg== [])))else
 if s.af=3 then JF s.bb&&(decide (Cd (fun x:AX=>x.ae==s.a7) t.aj≥0)&&(field s.ca&&field s.cg))else false
theorem zwS {t:Aj} {s:Bo} (hc:1≤t.ax.length) (hT:Fi t) (h:Hv s):U9 t s=some (FZ t s):=by
 unfold U9 UM FZ;by_cases k1:s.af=1
 ·rw [if_pos (by simpa using k1),zva hc h.act,Ab,if_pos k1]
 rw [if_neg (by simpa using k1),if_neg k1];by_cases k2:s.af=2
 ·rw [if_pos (by simpa using k2),if_pos k2,Ab,LJ h.low,Ab];show(if JF s.bb=true then _ else _)=_;cases JF s.bb<;>cases(s.a7==([]:Ag))<;>rfl
 rw [if_neg (by simpa using k2),if_neg k2];by_cases k3:s.af=3
 ·rw [if_pos (by simpa using k3),if_pos k3,Ab,sX hT,Ab,LJ h.low,Ab,LJ h.high,Ab];show(if JF s.bb=true then _ else _)=_;cases JF s.bb<;>cases decide (Cd (fun x:AX=>x.ae==s.a7) t.aj≥0)<;>cases field s.ca<;>rfl
 rw [if_neg (by simpa using k3),if_neg k3]
theorem zxe {t:Aj} {s:Bo} (hc:1≤t.ax.length) (hT:Fi t) (h:Hv s):Uf t s=some (FZ t s):=by
 unfold Uf U3 FZ;by_cases k1:s.af=1
 ·rw [if_pos (by simpa using k1),nE hc h.act,Ab,if_pos k1]
 rw [if_neg (by simpa using k1),if_neg k1];by_cases k2:s.af=2
 ·rw [if_pos (by simpa using k2),if_pos k2,Ab,Kv h.low,Ab];show(if JF s.bb=true then _ else _)=_;cases JF s.bb<;>cases(s.a7==([]:Ag))<;>rfl
 rw [if_neg (by simpa using k2),if_neg k2];by_cases k3:s.af=3
 ·rw [if_pos (by simpa using k3),if_pos k3,Ab,fG hT,Ab,Kv h.low,Ab,Kv h.high,Ab];show(if JF s.bb=true then _ else _)=_;cases JF s.bb<;>cases decide (Cd (fun x:AX=>x.ae==s.a7) t.aj≥0)<;>cases field s.ca<;>rfl
 rw [if_neg (by simpa using k3),if_neg k3]
def I0 (t:Aj) (s:Bo):Ag:=
 if s.af=2 then(([103,101,116,32]++t.ae)++ [32])++s.ca else
 if s.af=3 then(((((([114,97,110,103,101,32]++t.ae)++ [32])++s.a7)++ [32])++s.ca)++ [32])++s.cg else
 if s.bb.af=1 then(([105,110,115,101,114,116,32]++t.ae)++ [32])++Lib.join s.bb.bj.ah [44]else
 if s.bb.af=2 then(([100,101,108,101,116,101,32]++t.ae)++ [32])++Lib.join s.bb.bg.ah [44]else
 (((([117,112,100,97,116,101,32]++t.ae)++ [32])++Lib.join s.bb.bg.ah [44])++ [32,116,111,32])++Lib.join s.bb.bj.ah [44]
theorem VP {xs:List Ag} (h:Small xs):(Lib.join xs [44]).length≤4000000:=by have:=PE xs [44];have h1:=h.1;have h2:=h.2;rw [Aw]at this;omega
theorem rS {t:Aj} {s:Bo} (ht:t.ae.length≤2000000) (h:Hv s):RJ t s=some (I0 t s):=by
 have j1:=VP h.act.1;have j2:=VP h.act.2;have h1:=h.idx;have h2:=h.low;have h3:=h.high;have r1:IP s.bb.bg=some (Lib.join s.bb.bg.ah [44]):=by unfold IP;rw [SA h.act.1];rfl
 have r2:IP s.bb.bj=some (Lib.join s.bb.bj.ah [44]):=by unfold IP;rw [SA h.act.2];rfl
 unfold RJ I0;by_cases k2:s.af=2
 ·rw [if_pos (by simpa using k2),if_pos k2]
  repeat rw [AG (by simp only [Ak,Am,List.length_nil];omega)]
 rw [if_neg (by simpa using k2),if_neg k2];by_cases k3:s.af=3
 ·rw [if_pos (by simpa using k3),if_pos k3]
  repeat rw [AG (by simp only [Ak,Am,List.length_nil];omega)]
 rw [if_neg (by simpa using k3),if_neg k3];by_cases a1:s.bb.af=1
 ·rw [if_pos (by simpa using a1),if_pos a1,r2]
  repeat rw [AG (by simp only [Ak,Am,List.length_nil];omega)]
  rw [Ab]
  repeat rw [AG (by simp only [Ak,Am,List.length_nil];omega)]
 rw [if_neg (by simpa using a1),if_neg a1];by_cases a2:s.bb.af=2
 ·rw [if_pos (by simpa using a2),if_pos a2,r1]
  repeat rw [AG (by simp only [Ak,Am,List.length_nil];omega)]
  rw [Ab]
  repeat rw [AG (by simp only [Ak,Am,List.length_nil];omega)]
 rw [if_neg (by simpa using a2),if_neg a2,r1,r2]
 repeat rw [AG (by simp only [Ak,Am,List.length_nil];omega)]
 rw [Ab]
 repeat rw [AG (by simp only [Ak,Am,List.length_nil];omega)]
 rw [Ab]
 repeat rw [AG (by simp only [Ak,Am,List.length_nil];omega)]
theorem zzL {t:Aj} {s:Bo} (ht:t.ae.length≤2000000) (h:Hv s):Um t s=some (I0 t s):=by
 have j1:=VP h.act.1;have j2:=VP h.act.2;have h1:=h.idx;have h2:=h.low;have h3:=h.high;have r1:IS s.bb.bg=some (Lib.join s.bb.bg.ah [44]):=by unfold IS;rw [Ss h.act.1];rfl
 have r2:IS s.bb.bj=some (Lib.join s.bb.bj.ah [44]):=by unfold IS;rw [Ss h.act.2];rfl
 unfold Um I0;by_cases k2:s.af=2
 ·rw [if_pos (by simpa using k2),if_pos k2]
  repeat rw [AG (by simp only [Ak,Am,List.length_nil];omega)]
 rw [if_neg (by simpa using k2),if_neg k2];by_cases k3:s.af=3
 ·rw [if_pos (by simpa using k3),if_pos k3]
  repeat rw [AG (by simp only [Ak,Am,List.length_nil];omega)]
 rw [if_neg (by simpa using k3),if_neg k3];by_cases a1:s.bb.af=1
 ·rw [if_pos (by simpa using a1),if_pos a1,r2]
  repeat rw [AG (by simp only [Ak,Am,List.length_nil];omega)]
  rw [Ab]
  repeat rw [AG (by simp only [Ak,Am,List.length_nil];omega)]
 rw [if_neg (by simpa using a1),if_neg a1];by_cases a2:s.bb.af=2
 ·rw [if_pos (by simpa using a2),if_pos a2,r1]
  repeat rw [AG (by simp only [Ak,Am,List.length_nil];omega)]
  rw [Ab]
  repeat rw [AG (by simp only [Ak,Am,List.length_nil];omega)]
 rw [if_neg (by simpa using a2),if_neg a2,r1,r2]
 repeat rw [AG (by simp only [Ak,Am,List.length_nil];omega)]
 rw [Ab]
 repeat rw [AG (by simp only [Ak,Am,List.length_nil];omega)]
 rw [Ab]
 repeat rw [AG (by simp only [Ak,Am,List.length_nil];omega)]
abbrev NL:Ag:= [103,101,116]
abbrev NA:Ag:= [114,97,110,103,101]
abbrev Jr:Ag:= [105,110,115,101,114,116]
abbrev Ju:Ag:= [100,101,108,101,116,101]
abbrev Js:Ag:= [117,112,100,97,116,101]
def F3:List Ag→Bo
 | [a,_,c]=>if a=Jr then⟨1,⟨1,⟨[]⟩,⟨AM 44 c⟩⟩, [], [], []⟩else if a=Ju then⟨1,⟨2,⟨AM 44 c⟩,⟨[]⟩⟩, [], [], []⟩else⟨2,ED, [],c, []⟩
 | [a,_,c,d,e]=>if a=Js then⟨1,⟨3,⟨AM 44 c⟩,⟨AM 44 e⟩⟩, [], [], []⟩else⟨3,ED,c,d,e⟩
 |_=>⟨1,ED, [], [], []⟩
def Hf:List Ag→Bo
 | [a,_,c]=>if a=NL then⟨2,ED, [],c, []⟩else if a=Jr then⟨1,⟨1,⟨[]⟩,⟨AM 44 c⟩⟩, [], [], []⟩else if a=Ju then⟨1,⟨2,⟨AM 44 c⟩,⟨[]⟩⟩, [], [], []⟩else Fj
 | [a,_,c,d,e]=>if a=NA then⟨3,ED,c,d,e⟩else if a=Js then⟨1,⟨3,⟨AM 44 c⟩,⟨AM 44 e⟩⟩, [], [], []⟩else Fj
 |_=>Fj
theorem fD (a b c:Ag):F3 [a,b,c]=if a=Jr then⟨1,⟨1,⟨[]⟩,⟨AM 44 c⟩⟩, [], [], []⟩else if a=Ju then⟨1,⟨2,⟨AM 44 c⟩,⟨[]⟩⟩, [], [], []⟩else⟨2,ED, [],c, []⟩:=rfl
theorem eV (a b c d e:Ag):F3 [a,b,c,d,e]=if a=Js then⟨1,⟨3,⟨AM 44 c⟩,⟨AM 44 e⟩⟩, [], [], []⟩else⟨3,ED,c,d,e⟩:=rfl
theorem s4 (a b c:Ag):Hf [a,b,c]=if a=NL then⟨2,ED, [],c, []⟩else if a=Jr then⟨1,⟨1,⟨[]⟩,⟨AM 44 c⟩⟩, [], [], []⟩else if a=Ju then⟨1,⟨2,⟨AM 44 c⟩,⟨[]⟩⟩, [], [], []⟩else Fj:=rfl
theorem s7 (a b c d e:Ag):Hf [a,b,c,d,e]=if a=NA then⟨3,ED,c,d,e⟩else if a=Js then⟨1,⟨3,⟨AM 44 c⟩,⟨AM 44 e⟩⟩, [], [], []⟩else Fj:=rfl
def EA (t:Aj) (text:Ag) (s:Bo):Bo × Bool:=if FZ t s=true∧I0 t s=text then(s,true)else(Fj,false)
theorem eD {c:UInt8} {s:Ag} (h:s.length≤1000000) {x:Ag} (hx:x∈AM c s):x.length≤1000000:=by have h1:=aG c s;obtain⟨i,hi,rfl⟩:=List.getElem_of_mem hx;have:=bS hi;omega
theorem LC:Small ([]:List Ag):=⟨by simp,by simp [Dz]⟩
theorem Jl:LW ED:=⟨LC,LC⟩
theorem qL {t:Aj} {text:Ag} (hg:A9 t=true) (h:text.length≤1000000):Rr t text=some (EA t text (F3 (AM 32 text))):=by
 have hT:=FU hg;have hc:1≤t.ax.length:=by have:=H2 hg;omega
 have hj: ∀(v2:List Ag) (v3:Int) (v4:List Ag) (v5:Int) (v6 v7 v8:Ag),Hv ⟨v5,⟨v3,⟨v4⟩,⟨v2⟩⟩,v7,v6,v8⟩→Kk t text v2 v3 v4 v5 v6 v7 v8=some (EA t text ⟨v5,⟨v3,⟨v4⟩,⟨v2⟩⟩,v7,v6,v8⟩):=by
  intro v2 v3 v4 v5 v6 v7 v8 hs;unfold Kk EA;rw [zxe hc hT hs,Ab];cases hq:FZ t ⟨v5,⟨v3,⟨v4⟩,⟨v2⟩⟩,v7,v6,v8⟩with
  |false=>rw [if_neg (by simp),if_neg (by simp)]
  |true=>
   rw [if_pos rfl,zzL hT.name hs,Ab];by_cases he:I0 t ⟨v5,⟨v3,⟨v4⟩,⟨v2⟩⟩,v7,v6,v8⟩=text
   ·rw [if_neg (by simp [he]),if_pos ⟨rfl,he⟩]
   ·rw [if_pos (by simpa using he),if_neg (by simp [he])]
 have hm: ∀x∈AM 32 text,x.length≤1000000:=fun x hx=>eD h hx;have EN: ∀x:Ag,x.length≤1000000→Kr x=some ⟨AM 44 x⟩:=fun x hx=>by unfold Kr;rw [dE (c:=44) (by omega)];rfl
 unfold Rr;rw [dE (c:=32) (by omega),Ab];generalize AM 32 text=ws at hm;have other: ∀(l:List Ag),l.length≠3→l.length≠5→(F3 l=⟨1,ED, [], [], []⟩):=by
  intro l h3 h5
  match l,h3,h5 with
  | [],_,_=>rfl
  | [_],_,_=>rfl
  | [_,_],_,_=>rfl
  | [_,_,_],h,_=>exact absurd rfl h
  | [_,_,_,_],_,_=>rfl
  | [_,_,_,_,_],_,h=>exact absurd rfl h
  |_::_::_::_::_::_::_,_,_=>rfl
 by_cases h3:ws.length=3
 ·obtain⟨a,b,c,rfl⟩: ∃a b c,ws= [a,b,c]:=by
   match ws,h3 with
   | [a,b,c],_=>exact⟨a,b,c,rfl⟩
  have g0:getI [a,b,c] 0=some a:=rfl;have g2:getI [a,b,c] 2=some c:=rfl;have Ay:=hm c (by simp);have sp:=HY (c:=44) Ay;rw [if_pos (by simp)];simp only [g0,g2,Ab,EN c Ay];rw [fD];by_cases ai:a=Jr
  ·rw [if_pos (by simpa using ai),hj _ _ _ _ _ _ _ ⟨⟨LC,sp⟩,by simp,by simp,by simp⟩,if_pos ai]
  rw [if_neg (by simpa using ai),if_neg ai];by_cases ad:a=Ju
  ·rw [if_pos (by simpa using ad),hj _ _ _ _ _ _ _ ⟨⟨sp,LC⟩,by simp,by simp,by simp⟩,if_pos ad]
  rw [if_neg (by simpa using ad),if_neg ad,if_neg (by simp),hj _ _ _ _ _ _ _ ⟨Jl,by simp,by show c.length≤_;omega,by simp⟩]
 rw [if_neg (by simp;omega)];by_cases h5:ws.length=5
 ·obtain⟨a,b,c,d,e,rfl⟩: ∃a b c d e,ws= [a,b,c,d,e]:=by
   match ws,h5 with
   | [a,b,c,d,e],_=>exact⟨a,b,c,d,e,rfl⟩
  have g0:getI [a,b,c,d,e] 0=some a:=rfl;have g2:getI [a,b,c,d,e] 2=some c:=rfl;have g3:getI [a,b,c,d,e] 3=some d:=rfl;have g4:getI [a,b,c,d,e] 4=some e:=rfl;have Ay:=hm c (by simp);have NX:=hm d (by simp);have A7:=hm e (by simp);rw [if_pos (by simp)];simp only [g0,g2,g3,g4,Ab,EN c Ay,EN e A7];rw [eV];by_cases au:a=Js
  ·rw [if_pos (by simpa using au),hj _ _ _ _ _ _ _ ⟨⟨HY Ay,HY A7⟩,by simp,by simp,by simp⟩,if_pos au]
  rw [if_neg (by simpa using au),if_neg au,hj _ _ _ _ _ _ _ ⟨Jl,by show c.length≤_;omega,by show d.length≤_;omega,by show e.length≤_;omega⟩]
 rw [if_neg (by simp;omega),hj _ _ _ _ _ _ _ ⟨Jl,by simp,by simp,by simp⟩,other ws h3 h5]
theorem zwz (t:Aj) (s:Bo): ∃q,AM 32 (I0 t s)=(if s.af=2 then NL else if s.af=3 then NA else if s.bb.af=1 then Jr else if s.bb.af=2 then Ju else Js)::q:=by
 unfold I0;split
 ·exact⟨_,FV (p:=NL) (q:=t.ae++ [32]++s.ca) (by decide)⟩
 ·split
  ·exact⟨_,FV (p:=NA) (q:=t.ae++ [32]++s.a7++ [32]++s.ca++ [32]++s.cg) (by decide)⟩
  ·split
   ·exact⟨_,FV (p:=Jr) (q:=t.ae++ [32]++Lib.join s.bb.bj.ah [44]) (by decide)⟩
   ·split
    ·exact⟨_,FV (p:=Ju) (q:=t.ae++ [32]++Lib.join s.bb.bg.ah [44]) (by decide)⟩
    ·exact⟨_,FV (p:=Js) (q:=t.ae++ [32]++Lib.join s.bb.bg.ah [44]++ [32,116,111,32]++Lib.join s.bb.bj.ah [44]) (by decide)⟩
theorem zsz (t:Aj):Ha t ED=false:=by unfold Ha;rfl
theorem zvj (t:Aj):FZ t Fj=false:=by unfold FZ;rfl
theorem oM (t:Aj) (text:Ag):EA t text (F3 (AM 32 text))=EA t text (Hf (AM 32 text)):=by
 have z:EA t text Fj=(Fj,false):=by unfold EA;rw [if_neg (by rw [zvj];simp)]
 have z1:EA t text ⟨1,ED, [], [], []⟩=(Fj,false):=by unfold EA;rw [if_neg];rintro⟨h,_⟩;unfold FZ at h;rw [if_pos rfl]at h;rw [zsz]at h;cases h
 have hh: ∀(s:Bo) (a:Ag) (q:List Ag),AM 32 text=a::q→a≠(if s.af=2 then NL else if s.af=3 then NA else if s.bb.af=1 then Jr else if s.bb.af=2 then Ju else Js)→EA t text s=(Fj,false):=by intro s a q e Bt;unfold EA;rw [if_neg];rintro⟨_,ht⟩;obtain⟨q',e'⟩:=zwz t s;rw [ht,e]at e';exact Bt (List.cons.inj e').1
 generalize wP:AM 32 text=ws at hh
 match ws,wP with
 | [],_=>rw [show F3 []=⟨1,ED, [], [], []⟩from rfl,show Hf []=Fj from rfl,z,z1]
 | [x],_=>rw [show F3 [x]=⟨1,ED, [], [], []⟩from rfl,show Hf [x]=Fj from rfl,z,z1]
 | [x,y],_=>rw [show F3 [x,y]=⟨1,ED, [], [], []⟩from rfl,show Hf [x,y]=Fj from rfl,z,z1]
 | [a,b,c],_=>
  rw [fD,s4];by_cases ai:a=Jr
  ·subst ai;rw [if_pos rfl,if_neg (by decide),if_pos rfl]
  ·rw [if_neg ai];by_cases ad:a=Ju
   ·subst ad;rw [if_pos rfl,if_neg (by decide),if_neg (by decide),if_pos rfl]
   ·rw [if_neg ad];by_cases ag:a=NL
    ·rw [if_pos ag]
    ·rw [if_neg ag,if_neg ai,if_neg ad,z];exact hh _ a [b,c] rfl ag
 | [x,y,u,v],_=>rw [show F3 [x,y,u,v]=⟨1,ED, [], [], []⟩from rfl,show Hf [x,y,u,v]=Fj from rfl,z,z1]
 | [a,b,c,d,e],_=>
  rw [eV,s7];by_cases au:a=Js
  ·subst au;rw [if_pos rfl,if_neg (by decide),if_pos rfl]
  ·rw [if_neg au];by_cases ar:a=NA
   ·rw [if_pos ar]
   ·rw [if_neg ar,if_neg au,z];exact hh _ a [b,c,d,e] rfl ar
 |a::b::c::d::e::f::l,_=>rw [show F3 (a::b::c::d::e::f::l)=⟨1,ED, [], [], []⟩from rfl,show Hf (a::b::c::d::e::f::l)=Fj from rfl,z,z1]
structure Wq (s:Bo):Prop where
 act:PU s.bb
 idx:s.a7.length≤10
 low:s.ca.length≤10
 high:s.cg.length≤10
theorem Wq.small {s:Bo} (h:Wq s):Hv s:=⟨h.act.small,by have:=h.idx;omega,by have:=h.low;omega,by have:=h.high;omega⟩
theorem xZ [Inhabited DB] {t:Aj} {l:List Ac} {c:AH} {k:Int} (hg:A9 t=true) (hl:GD l) (h:BG c k) (hk:k≤4611686018427320000):BU (UA c t l) fun p=>Wq p.1∧BG p.2 (k+200):=by
 have b0:PU ED:=⟨V1,V1⟩
 unfold UA;refine(EB 4 h (by omega)).bind fun p ⟨_,hc⟩=> .ite (fun _=> ?_) fun _=> .ite (fun _=> .ite (fun E3=> ?_) fun _=> ?_) fun _=> ?_
 ·refine(Hc _ (by simp) hc (by omega)).bind fun q ⟨hq,hd⟩=> .ret ⟨⟨b0,by simp, ?_,by simp⟩,hd.up (by omega)⟩;simp only [Ae,List.not_mem_nil,or_false]at hq;show q.1.length≤10;rcases hq with e|e|e|e|e<;>rw [e]<;>simp
 ·simp only [decide_eq_true_eq]at E3;refine(EB _ hc (by omega)).bind fun q ⟨hq,hd⟩=> ?_;have q2:=hq.2.1 (by omega);refine BU.bind (P:=fun x:AX=>x.ae.length≤10) (.getI hq.1 q2 fun x hx=> ?_) fun x hx=> ?_
  ·have:=(No hg hx).1;unfold CI at this;rw [Ad]at this;have:=ES.1 this.2;omega
  refine(Hc _ (by simp) hd (by omega)).bind fun u ⟨hu,he⟩=>(Hc _ (by simp) he (by omega)).bind fun v ⟨hv,hf⟩=> .ret ⟨⟨b0,hx, ?_, ?_⟩,hf.up (by omega)⟩
  ·simp only [Ae,List.not_mem_nil,or_false]at hu;show u.1.length≤10;rcases hu with e|e|e<;>rw [e]<;>simp
  ·simp only [Ae,List.not_mem_nil,or_false]at hv;show v.1.length≤10;rcases hv with e|e|e<;>rw [e]<;>simp
 ·exact(sQ hg hl (c:=⟨p.2.ay,p.2.ch,p.2.az⟩) hc (by omega)).bind fun q ⟨hq,hd⟩=> .ret ⟨⟨hq,by simp,by simp,by simp⟩,hd.up (by omega)⟩
 ·exact(sQ hg hl (c:=⟨p.2.ay,p.2.ch,p.2.az⟩) hc (by omega)).bind fun q ⟨hq,hd⟩=> .ret ⟨⟨hq,by simp,by simp,by simp⟩,hd.up (by omega)⟩
theorem zyg {t:Aj} {s:Bo} (hg:A9 t=true) (h:Wq s):(I0 t s).length≤1000:=by
 have hn:t.ae.length≤1:=by have h2:=hg;unfold A9 CI at h2;simp only [Ad]at h2;have:=ES.1 h2.1.1.1.2;omega
 have jl: ∀{xs:List Ag},I5 xs→(Lib.join xs [44]).length≤110:=fun{xs} hx=>by have h1:=PE xs [44];have h2:=Pu hx.each;have h3:=hx.len;rw [Aw]at h1;omega
 have j1:=jl h.act.old;have j2:=jl h.act.new;have h1:=h.idx;have h2:=h.low;have h3:=h.high;unfold I0;split
 ·simp only [Ak,Am,List.length_nil];omega
 ·split
  ·simp only [Ak,Am,List.length_nil];omega
  ·split
   ·simp only [Ak,Am,List.length_nil];omega
   ·split
    ·simp only [Ak,Am,List.length_nil];omega
    ·simp only [Ak,Am,List.length_nil];omega
theorem zxz [Inhabited DB] {c:AH} {k:Int} {s w:Ag} (hs:s.length≤1000) (hw:1≤w.length) (IH:w.length≤100) (h:BG c k) (hk:k≤4611686018427320000):BU (Ui c s w) fun p=>p.1.length≤1010∧BG p.2 (k+100):=by
 unfold Ui;refine(EB 2 h (by omega)).bind fun p ⟨hp,hc⟩=> ?_;have p2:=hp.2.1 (by omega);obtain⟨m,hm⟩:=Int.eq_ofNat_of_zero_le hp.1;have w0:IntKind.i64.wrap (1+p.1)=((m+1:Nat):Int):=by rw [B3 (by omega) (by omega)];omega
 rw [w0];refine Ni (fun j u=> ∃q:Nat,q+j=m+1∧u.2.1=(j:Int)∧u.1.length≤1000+q∧BG ⟨u.2.2.1,u.2.2.2.1,u.2.2.2.2⟩ (k+2+20*q)) (fun j u hI=> ?_) (n:=m+1) ⟨0,by omega,rfl,by simpa using hs,by simpa using hc⟩;obtain⟨l,s1,a,b,e⟩:=u;obtain⟨q,i0,i1,i2,i3⟩:=hI;dsimp only at i1 i2 i3 ⊢;subst i1;unfold jW;refine .ite (fun Ax=> ?_) fun _=> .ret (.ret ⟨by dsimp only;omega,i3.up (by omega)⟩);simp only [Ad,decide_eq_true_eq]at Ax;have w1:IntKind.i64.wrap ((j:Int)-1)=((j-1:Nat):Int):=by rw [B3 (by omega) (by omega)];omega
 refine(EB _ i3 (by omega)).bind fun x ⟨hx,hd⟩=>(EB _ hd (by omega)).bind fun y ⟨hy,he⟩=> ?_;have x2:=hx.2.1 (by omega);have y2:=hy.2.1 (by omega);obtain⟨z,ez,_,_⟩:=LM hy.1 y2;rw [ez,Ab,AG (by simp)];obtain⟨i,hi⟩:=Int.eq_ofNat_of_zero_le hx.1;have TA:i<l.length:=by omega
 have wi:IntKind.i64.wrap (x.1+1)=((i+1:Nat):Int):=by rw [hi,B3 (by omega) (by omega)];omega
 rw [wi,hi];have t1:(AR l 0 (i:Int)).length=i:=by unfold AR;simp;omega
 have t2:(AR l (i:Int) (l.length:Int)).length=l.length-i:=by unfold AR;simp
 have t3:(AR l ((i+1:Nat):Int) (l.length:Int)).length=l.length-(i+1):=by unfold AR;simp
 have t4:(([(z.toNat:Int)].map fun n=>UInt8.ofNat n.toNat)).length=1:=by simp
 refine(EB 3 he (by omega)).bind fun r ⟨_,hf⟩=> .ite (fun _=> ?_) fun _=> .ite (fun _=> ?_) fun _=> ?_
 ·refine .req (by omega) (.req (by rw [t1,t4];omega) (.req (by omega) (.req (by rw [Ak,t1,t4,t2];omega) (.ret ⟨j-1,by omega,q+1,by omega,w1, ?_,hf.up (by omega)⟩))));show List.length (_++_++_)≤_;rw [Ak,Ak,t1,t4,t2];omega
 ·refine .req (by omega) (.req (by rw [t1,t4];omega) (.req (by omega) (.req (by rw [Ak,t1,t4,t3];omega) (.ret ⟨j-1,by omega,q+1,by omega,w1, ?_,hf.up (by omega)⟩))));show List.length (_++_++_)≤_;rw [Ak,Ak,t1,t4,t3];omega
 ·refine .req (by omega) (.req (by omega) (.req (by rw [t1,t3];omega) (.ret ⟨j-1,by omega,q+1,by omega,w1, ?_,hf.up (by omega)⟩)));show List.length (_++_)≤_;rw [Ak,t1,t3];omega
theorem zpv {t:Aj} {text:Ag} {s:Bo} (h:Hv s):Hv (EA t text s).1:=by
 unfold EA;split
 ·exact h
 ·exact⟨Jl,by simp,by simp,by simp⟩
theorem zta {text:Ag} (h:text.length≤1000000):Hv (F3 (AM 32 text)):=by
 have hm: ∀x∈AM 32 text,x.length≤1000000:=fun x hx=>eD h hx;generalize AM 32 text=ws at hm;have z:Hv ⟨1,ED, [], [], []⟩:=⟨Jl,by simp,by simp,by simp⟩
 match ws,hm with
 | [],_=>exact z
 | [_],_=>exact z
 | [_,_],_=>exact z
 | [a,b,c],hm=>
  have Ay:=hm c (by simp);rw [fD];split
  ·exact⟨⟨LC,HY Ay⟩,by simp,by simp,by simp⟩
  ·split
   ·exact⟨⟨HY Ay,LC⟩,by simp,by simp,by simp⟩
   ·exact⟨Jl,by simp,by show c.length≤_;omega,by simp⟩
 | [_,_,_,_],_=>exact z
 | [a,b,c,d,e],hm=>
  have Ay:=hm c (by simp);have NX:=hm d (by simp);have A7:=hm e (by simp);rw [eV];split
  ·exact⟨⟨HY Ay,HY A7⟩,by simp,by simp,by simp⟩
  ·exact⟨Jl,by show c.length≤_;omega,by show d.length≤_;omega,by show e.length≤_;omega⟩
 |_::_::_::_::_::_::_,_=>exact z
theorem zsH {t:Aj} {text:Ag} (hg:A9 t=true) (h:text.length≤1000000):UO t text=some (EA t text (F3 (AM 32 text))):=by unfold UO;rw [dH (FU hg),Ab,hg,if_neg (by simp),qL hg h,Ab]
end Go.Proofs.YtollgpkegmbpmaaGreatDoor
end
section
namespace Go.Proofs.YtollgpkegmbpmaaGreatDoor
open Go.RowKit Go.Sort
set_option maxRecDepth 100000
set_option maxHeartbeats 1000000
theorem lZ {c:UInt8} {s x y:Ag} {r:List Ag} (h:AM c s=x::y::r): ∃q,s=x++c::q∧(∀b∈x,b≠c)∧AM c q=y::r:=by
 rcases Ph s c with⟨_,h0⟩|⟨p,q,rfl,hp,_⟩
 ·rw [Jo h0]at h;simp at h
 ·rw [FV hp]at h;obtain⟨e1,h2⟩:=List.cons.inj h;rw [e1]at hp ⊢;exact⟨q,rfl,hp,h2⟩
theorem mK {c:UInt8} {s z:Ag} (h:AM c s= [z]):s=z:=by
 rcases Ph s c with⟨_,h0⟩|⟨p,q,rfl,hp,_⟩
 ·rw [Jo h0]at h;exact(List.cons.inj h).1
 ·rw [FV hp]at h;exact absurd (List.cons.inj h).2 (VZ c q)
def Er (k:Ag):Bk:=match AM 47 k with
 | [_,y,z]=>⟨y,z⟩
 |_=>⟨[], []⟩
theorem mE {t:Aj} {n k:Ag} (he:EU t n k=true): ∃y z,AM 47 k= [head t n,y,z]∧field y=true∧field z=true:=by
 unfold EU at he;split at he
 ·rename_i x y z hs;simp only [Ad,beq_iff_eq]at he;exact⟨y,z,by rw [hs,he.1.1],he.1.2,he.2⟩
 ·cases he
theorem zz3 {t:Aj} {n k:Ag} (ht:t.ae.length≤2000000) (hn:n.length≤2000000) (hk:k.length≤1000000) (he:EU t n k=true):M5 t n k=some ((Er k).bh,(Er k).al,true):=by
 obtain⟨y,z,hs,hy,hz⟩:=mE he;have IC:=HY (c:=47) hk;rw [hs]at IC;have ly:=IC.each y (by simp);have lz:=IC.each z (by simp);have e:HW k 47=some (AM 47 k):=Sp (c:=47) (by omega);have ep:Er k=⟨y,z⟩:=by unfold Er;rw [hs]
 unfold M5;rw [e,Ab,hs,ep,if_neg (by simp),show getI [head t n,y,z] 0=some (head t n)from rfl,Ab,AG (by rw [Aw];omega),AG (by rw [Ak,Aw];omega),show(t.ae++ [46]++n)=head t n from rfl,if_neg (by simp),show getI [head t n,y,z] 1=some y from rfl,Ab,LJ ly,Ab,hy,if_pos rfl,show getI [head t n,y,z] 2=some z from rfl,Ab,LJ lz,Ab,hz,if_neg (by simp)]
theorem xR {t:Aj} {n k:Ag} (ht:t.ae.length≤2000000) (hn:n.length≤2000000) (hk:k.length≤1000000) (he:EU t n k=true):MX t n k=some ((Er k).bh,(Er k).al,true):=by
 obtain⟨y,z,hs,hy,hz⟩:=mE he;obtain⟨q,hq,_,AU⟩:=lZ hs;obtain⟨q2,Fh,hy2,E4⟩:=lZ AU;rw [mK E4]at Fh;have ep:Er k=⟨y,z⟩:=by unfold Er;rw [hs]
 have HO:(head t n++ [47])++q=k:=by rw [hq];simp
 have hp:(head t n++ [47]).isPrefixOf k=true:=List.isPrefixOf_iff_prefix.2 ⟨q,HO⟩;have hd:k.drop (head t n++ [47]).length=q:=by rw [←HO,List.drop_left]
 have lq:q.length≤1000000:=by have:=congrArg List.length HO;rw [Ak]at this;omega
 have ly:y.length≤1000000∧z.length≤1000000:=by have:=congrArg List.length Fh;rw [Ak,Am]at this;omega
 rw [ep];unfold MX;rw [eO ht hn,Ab,fP (by omega),Ab,if_pos hp];dsimp only;rw [hd];rcases fL (x:=q) (c:=47) (by omega)with⟨_,h0⟩|⟨p,q',e1,Ob,e2⟩
 ·rw [Fh]at h0;exact absurd rfl (h0 47 (by simp))
 ·have e3:AM 47 q=p::AM 47 q':=by rw [e1,FV Ob]
  rw [AU]at e3;obtain⟨e6,e4⟩:=List.cons.inj e3;have e5:q'=z:=mK e4.symm;rw [e2,Ab];dsimp only;rw [e5,←e6,if_pos rfl,if_pos rfl,Kv (s:=y) (by omega),Ab,hy,if_pos rfl,Kv (s:=z) (by omega),Ab,hz,if_neg (by simp)]
def F1 (t:Aj) (l:List Ac) (k:Ag):List An:=(rows t l).filter fun r=>BZ r 0==k
theorem pM {t:Aj} {l:List Ac} (hg:A9 t=true) (hl:Cl l=true) (k:Ag):RO t l k=some (F1 t l k):=by
 have hlen:=(G3 hl).1.len;have B1:=rN (t:=t) (Nu hl);have Od:=eB t l;have hc:=H2 hg;unfold RO;rw [dY (FU hg).name (by omega) (Nu hl),Ab];have h1:=En (xs:=rows t l) (body:=fun s:List An × Int=>O2 k (rows t l) s.1 s.2) (fun i (o:List An)=>(o,i)) (fun o r=>if(BZ r 0==k)=true then o++ [id r]else o) (fun o=>some o) (fun i o=>o.length≤i)
  (fun i hi o hI=>by
   have hI:o.length≤i:=hI;have hw:=BM hi (by omega:(rows t l).length≤_);refine⟨?_,by
    show List.length (if(BZ (rows t l)[i] 0==k)=true then o++ [id (rows t l)[i]]else o)≤i+1;split
    ·rw [Ak,Aw];omega
    ·omega⟩
   show O2 k (rows t l) o i=_;unfold O2;rw [if_pos (by simpa using hi),Bb hi,Ab,PL (by omega) (B1 _ (List.getElem_mem hi)),Ab,hw];cases hb:(BZ (rows t l)[i] 0==k)with
   |false=>rfl
   |true=>rw [if_pos rfl,AG (by rw [Aw];omega),if_pos rfl];rfl)
  (fun o _=>by show O2 k (rows t l) o (rows t l).length=_;unfold O2;rw [if_neg (by simp)]) (s:= []) (by simp)
 rw [Nh (fun r:An=>BZ r 0==k) id]at h1;refine h1.1.trans ?_;simp [F1]
theorem Sf {t:Aj} {l:List Ac} (hl:Cl l=true) (k:Ag):(F1 t l k).length≤1:=by
 have hr:=(G3 hl).1.ct;have h1:(rows t l).Pairwise fun a b=>BZ a 0≠BZ b 0:=by unfold rows;rw [List.pairwise_map];refine List.Pairwise.imp_of_mem (R:=fun a b:Ac=>bl a.ab b.ab=true) (fun{a b} ha hb W7 e=> ?_) (Es.filter hr _);have ea:=(V7 (List.mem_filter.1 ha).2).2;have eb:=(V7 (List.mem_filter.1 hb).2).2;refine GC W7 ?_;rw [ea,eb,cI,cI,e]
 unfold F1;have h2:=h1.filter (fun r=>BZ r 0==k);have h3: ∀r∈(rows t l).filter (fun r=>BZ r 0==k),BZ r 0=k:=fun r hr=>by simpa using(List.mem_filter.1 hr).2
 generalize (rows t l).filter (fun r=>BZ r 0==k)=zs at h2 h3
 match zs,h2,h3 with
 | [],_,_=>simp
 | [_],_,_=>simp
 |a::b::r,h2,h3=>exact absurd ((h3 a (by simp)).trans (h3 b (by simp)).symm) ((List.pairwise_cons.1 h2).1 b (by simp))
theorem nL {t:Aj} {l:List Ac} {k:Ag} {r:An} (h:r∈F1 t l k):BD t r=true:=bU (List.mem_filter.1 h).1
theorem nI {α:Type} (p:α→Bool): ∀xs:List α,(Cd p xs= -1∧xs.filter p= [])∨ ∃(n:Nat) (h:n<xs.length),Cd p xs=n∧ ∃r,xs.filter p=xs[n]::r
 | []=> .inl ⟨rfl,rfl⟩
 |x::xs=>by
  rw [Sc,List.filter_cons];by_cases hp:p x=true
  ·rw [if_pos hp,if_pos hp];exact .inr ⟨0,by simp,rfl,_,rfl⟩
  ·rw [if_neg hp,if_neg hp];rcases nI p xs with⟨h1,h2⟩|⟨n,hn,h1,r,h2⟩
   ·exact .inl ⟨by rw [if_pos h1],h2⟩
   ·exact .inr ⟨n+1,by simp;omega,by rw [if_neg (by omega),h1];omega,r,by rw [h2];simp⟩
theorem qZ {t:Aj} {l:List Ac} (hg:A9 t=true) (hl:Cl l=true) (k:Ag): ∃p,RB t l k=some p∧(p.2=true→F1 t l k= [p.1])∧(p.2=false→F1 t l k= []):=by
 have hlen:=(G3 hl).1.len;have B1:=rN (t:=t) (Nu hl);have Od:=eB t l;have hc:=H2 hg;have h1:=Sf (t:=t) hl k;unfold RB;rw [zym (Vx (Kt hg)) (by omega) (Nu hl),Ab,lO (fun r=>BZ r 0==k) (fun r hr=>by unfold Y1;rw [PL (by omega) (B1 r hr)];rfl) (by omega),Ab]
 rcases nI (fun r:An=>BZ r 0==k) (rows t l)with⟨e1,e2⟩|⟨n,hn,e1,r,e2⟩
 ·rw [e1,if_pos (by decide)];exact⟨_,rfl,(fun h=>by cases h),fun _=>e2⟩
 ·rw [e1,if_neg (by simp),Bb hn,Ab];refine⟨_,rfl,fun _=> ?_,(fun h=>by cases h)⟩;show(rows t l).filter _=_;have h1:((rows t l).filter fun r=>BZ r 0==k).length≤1:=h1;rw [e2]at h1 ⊢
  match r,h1 with
  | [],_=>rfl
  |_::_,h1=>simp at h1
theorem oV {a b:Bk} (h:De a b=true):De b a=false:=by
 cases hb:De b a
 ·rfl
 ·have:=Sd h hb;rw [bR]at this;cases this
def IK (a b:Bk):Prop:=De b a=false
theorem zxE {a b c:Bk} (h1:IK a b) (h2:IK b c):IK a c:=by
 unfold IK at*;cases h:De c a
 ·rfl
 ·rcases Wm a b with k|k|k
  ·have:=Sd h k;rw [h2]at this;cases this
  ·rw [h1]at k;cases k
  ·subst k;rw [h2]at h;cases h
def Fg:List Bk→Bk→List Bk→List Bk
 | [],x,B=>x::B
 |a::Ar,x,B=>if De x a=true then Fg Ar x (a::B)else(a::Ar).reverse++x::B
theorem oD: ∀(Ar:List Bk) (x:Bk) (B:List Bk),(Ar.reverse++B).Pairwise IK→(∀b∈B,De x b=true)→(Fg Ar x B).Pairwise IK∧(Fg Ar x B).Perm (x::(Ar.reverse++B))
 | [],x,B,h,hx=>⟨List.pairwise_cons.2 ⟨fun b hb=>oV (hx b hb),by simpa using h⟩,by simp [Fg]⟩
 |a::Ar,x,B,h,hx=>by
  rw [Fg];by_cases hb:De x a=true
  ·rw [if_pos hb];obtain⟨p,q⟩:=oD Ar x (a::B) (by simpa using h) fun b hm=>by
    rcases Ae.1 hm with rfl|hm
    ·exact hb
    ·exact hx b hm
   exact⟨p,by simpa using q⟩
  ·rw [if_neg hb];refine⟨?_,List.perm_middle⟩;rw [Bool.not_eq_true]at hb;rw [List.pairwise_append]at h ⊢;obtain⟨h1,h2,h3⟩:=h;refine⟨h1,List.pairwise_cons.2 ⟨fun b hm=>oV (hx b hm),h2⟩,fun y hy z hz=> ?_⟩;rcases Ae.1 hz with rfl|hz
   ·rw [List.reverse_cons,List.pairwise_append]at h1;rw [List.reverse_cons,Ah,List.mem_singleton]at hy;rcases hy with hy|rfl
    ·exact zxE (h1.2.2 y hy a (by simp)) hb
    ·exact hb
   ·exact h3 y hy z hz
def Ee (xs:List Bk):List Bk:=xs.foldl (fun S x=>Fg S.reverse x []) []
theorem aW: ∀(xs S:List Bk),S.Pairwise IK→(xs.foldl (fun S x=>Fg S.reverse x []) S).Pairwise IK∧(xs.foldl (fun S x=>Fg S.reverse x []) S).Perm (xs++S)
 | [],S,h=>⟨h,List.Perm.refl _⟩
 |x::xs,S,h=>by
  obtain⟨p,q⟩:=oD S.reverse x [] (by simpa using h) (by simp);obtain⟨r,s⟩:=aW xs _ p;refine⟨r,s.trans ?_⟩;have q':(Fg S.reverse x []).Perm (x::S):=by simpa using q
  exact(List.Perm.append_left xs q').trans List.perm_middle
theorem mO: ∀{a b:List Bk},a.Pairwise IK→b.Pairwise IK→a.Perm b→a=b
 | [],b,_,_,h=>by rw [h.nil_eq]
 |x::a, [],_,_,h=>by have:=h.length_eq;simp at this
 |x::a,y::b,ha,hb,h=>by
  have gL:=List.pairwise_cons.1 ha;have BL:=List.pairwise_cons.1 hb;have e:x=y:=by
   rcases Ae.1 (h.mem_iff.1 (List.mem_cons_self ..))with h1|h1
   ·exact h1
   ·rcases Ae.1 (h.mem_iff.2 (List.mem_cons_self ..))with h2|h2
    ·exact h2.symm
    ·have k1:De y x=false:=gL.1 y h2;have k2:De x y=false:=BL.1 x h1;rcases Wm x y with k|k|k
     ·rw [k2]at k;cases k
     ·rw [k1]at k;cases k
     ·exact k
  subst e;rw [mO gL.2 BL.2 (List.Perm.cons_inv h)]
theorem mD (l:List Bk):(EX l.toArray).toList.Pairwise IK∧(EX l.toArray).toList.Perm l:=by
 obtain⟨h1,h2,h3⟩:=nY l.toArray;have hp:(EX l.toArray).toList.Perm l:=by simpa using h1
 refine⟨?_,hp⟩;rw [List.pairwise_iff_getElem];intro i j hi hj J4;have hs:(EX l.toArray).size=l.length:=by simpa using h2
 have Iq:i<(EX l.toArray).size:=by simpa using hi
 have Iu:j<(EX l.toArray).size:=by simpa using hj
 have:=h3 i j (Nat.zero_le _) J4 (by simpa [hs]using Iu);rw [V6,getElem!_pos _ j Iu,getElem!_pos _ i Iq]at this;show De _ _=false;simpa only [Array.getElem_toList]using this
theorem zru (p:Bk→Bool) (l:List Bk):(Ee l).filter p=(EX (l.filter p).toArray).toList:=by
 obtain⟨h1,h2⟩:=aW l [] List.Pairwise.nil;obtain⟨h3,h4⟩:=mD (l.filter p);have h2:(Ee l).Perm l:=by simpa [Ee]using h2
 exact mO (List.Pairwise.filter p h1) h3 ((h2.filter p).trans h4.symm)
def BV (e:Bk):An:=⟨[e.al,e.bh]⟩
theorem qY (a b:Bk):Pe (BV a) (BV b) 1=some (De a b):=by
 unfold Pe De;rw [show getI (BV a).ah 1=some a.bh from rfl,show getI (BV b).ah 1=some b.bh from rfl,show getI (BV a).ah 0=some a.al from rfl,show getI (BV b).ah 0=some b.al from rfl];simp only [Ab];by_cases h:a.bh=b.bh
 ·rw [if_neg (by simp [h]),if_neg (by simpa using h)]
 ·rw [if_pos (by simpa using h),if_pos h]
theorem qM {α:Type} {A B:List α} {x:α} {n:Nat} (h:A.length=n):getI (A++x::B) (n:Int)=some x:=by subst h;rw [Bb (by simp)];simp
theorem rF {α:Type}: ∀(A:List α) (x y:α) (B:List α),(A++x::B).set A.length y=A++y::B
 | [],_,_,_=>rfl
 |a::A,x,y,B=>by show a::(A++x::B).set A.length y=_;rw [rF A];rfl
theorem pU {α:Type} {A B:List α} {x y:α} {n:Nat} (h:A.length=n):(A++x::B).set ((n:Int)).toNat y=A++y::B:=by subst h;rw [Int.toNat_natCast];exact rF A x y B
theorem sP (v3:Int): ∀(Ar:List Bk) (x:Bk) (B:List Bk) (j:An),Ar.length≤1000→AN (fun s:Int × List An=>Kj v3 (x.bh,x.al,true) s.1 s.2) ((Ar.length:Int),Ar.reverse.map BV++j::B.map BV)=some (.inl ((Fg Ar x B).map BV,IntKind.i64.wrap (v3+1)))
 | [],x,B,j,_=>by refine FJ (o:=some (Sum.inl ((Fg [] x B).map BV,IntKind.i64.wrap (v3+1)):(List An × Int) ⊕ Option (List An))) ?_;show Kj v3 (x.bh,x.al,true) 0 (j::B.map BV)=_;unfold Kj Uo;rw [if_neg (by simp)];rfl
 |a::Ar,x,B,j,h=>by
  rw [Am]at h;have hL:(a::Ar).reverse.map BV++j::B.map BV=Ar.reverse.map BV++BV a::(j::B.map BV):=by simp
  have w:IntKind.i64.wrap ((((a::Ar).length:Nat):Int)-1)=(Ar.length:Int):=by rw [Am,B3 (by omega) (by omega)];omega
  have g1:getI ((a::Ar).reverse.map BV++j::B.map BV) (Ar.length:Int)=some (BV a):=by rw [hL];exact qM (by simp)
  have g2:getI ((a::Ar).reverse.map BV++j::B.map BV) (((a::Ar).length:Nat):Int)=some j:=qM (by simp);have E3:decide ((((a::Ar).length:Nat):Int)>0)=true:=by rw [Am];simp
  by_cases hb:De x a=true
  ·have e:Kj v3 (x.bh,x.al,true) (((a::Ar).length:Nat):Int) ((a::Ar).reverse.map BV++j::B.map BV)=some (.inl ((Ar.length:Int),Ar.reverse.map BV++BV a::(a::B).map BV)):=by
    unfold Kj;rw [if_pos E3,w,g1,Ab,show Pe (⟨[(x.bh,x.al,true).2.1,(x.bh,x.al,true).1]⟩:An) (BV a) 1=some (De x a)from qY x a,Ab,hb,if_pos rfl,g2,Ab,pU (by simp)];simp
   rw [G2 (body:=fun s:Int × List An=>Kj v3 (x.bh,x.al,true) s.1 s.2) e,sP v3 Ar x (a::B) (BV a) (by omega),Fg,if_pos hb]
  ·refine FJ (o:=some (Sum.inl ((Fg (a::Ar) x B).map BV,IntKind.i64.wrap (v3+1)):(List An × Int) ⊕ Option (List An))) ?_;show Kj v3 (x.bh,x.al,true) (((a::Ar).length:Nat):Int) ((a::Ar).reverse.map BV++j::B.map BV)=_;unfold Kj Uo;rw [if_pos E3,w,g1,Ab,show Pe (⟨[(x.bh,x.al,true).2.1,(x.bh,x.al,true).1]⟩:An) (BV a) 1=some (De x a)from qY x a,Ab,if_neg hb,g2,Ab,pU (by simp),Fg,if_neg hb];simp [BV]
def C4 (t:Aj) (n:Ag) (l:List Ac):List Bk:=(Dg t n l).map Er
theorem qJ: ∀(Ar:List Bk) (x:Bk) (B:List Bk),(Fg Ar x B).length=Ar.length+1+B.length
 | [],x,B=>by simp [Fg];omega
 |a::Ar,x,B=>by
  rw [Fg];split
  ·rw [qJ Ar x (a::B),Am,Am];omega
  ·simp;omega
theorem mP {t:Aj} {n k:Ag} {l:List Ac} (hl:Cl l=true) (h:k∈Dg t n l):EU t n k=true∧k.length≤1000:=by obtain⟨w,hw,rfl⟩:=List.mem_map.1 h;obtain⟨h1,h2⟩:=List.mem_filter.1 hw;exact⟨h2,(Nu hl w h1).1⟩
theorem zxV {t:Aj} {n:Ag} {l:List Ac} (hg:A9 t=true) (hn:n.length≤2000000) (hl:Cl l=true):UN t n l=some ((Ee (C4 t n l)).map BV):=by
 have hlen:=(G3 hl).1.len;have A7:=aY t n l;have ht:=(FU hg).name;unfold UN;rw [zvd ht hn (by omega) (Nu hl),Ab];have h1:=En (xs:=Dg t n l) (body:=fun s:List An × Int=>O5 t n (Dg t n l) s.1 s.2) (fun i (S:List Bk)=>(S.map BV,i)) (fun S k=>Fg S.reverse (Er k) []) (fun S=>some (S.map BV)) (fun i S=>S.length=i)
  (fun i hi S hI=>by
   have hI:S.length=i:=hI;have hw:=BM hi (by omega:(Dg t n l).length≤_);obtain⟨he,hk⟩:=mP hl (List.getElem_mem hi);refine⟨?_,by show(Fg S.reverse _ []).length=i+1;rw [qJ,List.length_reverse,List.length_nil];omega⟩
   show O5 t n (Dg t n l) (S.map BV) i=_;unfold O5;rw [if_pos (by simpa using hi),Bb hi,Ab,zz3 ht hn (by omega) he,Ab,AG (by rw [Aw,List.length_map];omega)];have:=sP (i:Int) S.reverse (Er (Dg t n l)[i]) [] (BV (Er (Dg t n l)[i])) (by rw [List.length_reverse];omega);rw [List.length_reverse,List.reverse_reverse,hw]at this;rw [List.length_map];exact this)
  (fun S _=>by show O5 t n (Dg t n l) (S.map BV) (Dg t n l).length=_;unfold O5;rw [if_neg (by simp)]) (s:= []) (by simp)
 refine h1.1.trans ?_;unfold Ee C4;rw [List.foldl_map]
def ER (s:Bo) (e:Bk):Bool:=(!bl e.bh s.ca)&&(bl e.bh s.cg||e.bh==s.cg)
def Tc (t:Aj) (l:List Ac) (s:Bo):List An:=((Ee (C4 t s.a7 l)).filter (ER s)).flatMap fun e=>F1 t l e.al
def SP (t:Aj) (n:Ag):Bool:=match getI t.aj (Cd (fun x:AX=>x.ae==n) t.aj)with|some x=>x.bc==3|none=>false
def GJ (t:Aj) (l:List Ac) (s:Bo):List An × Bool:=
 if s.af=2 then(F1 t l s.ca,true)else
 if s.af≠3 then([],false)else
 if SP t s.a7=true then(Tc t l s,true)else([],false)
theorem cP {α β:Type} (p:α→Bool) (f:α→List β): ∀(xs:List α) (o:List β),xs.foldl (fun o x=>if p x=true then o++f x else o) o=o++(xs.filter p).flatMap f
 | [],o=>by simp
 |x::xs,o=>by rw [List.foldl_cons,cP p f xs,List.filter_cons];cases p x<;>simp
theorem zve {t:Aj} (h:A9 t=true) {x:AX} (hx:x∈t.aj):0≤x.bc∧x.bc≤3:=by unfold A9 at h;simp only [Ad]at h;obtain⟨i,hi,rfl⟩:=List.mem_iff_getElem.1 hx;have h1:=AS.1 h.2 i (List.mem_range.2 hi);unfold He at h1;simp only [Ad,List.getElem?_eq_getElem hi,Option.getD_some]at h1;exact ES.1 h1.1.2
theorem cJ (t:Aj) (n:Ag) (l:List Ac):(C4 t n l).length≤l.length:=by unfold C4;rw [List.length_map];exact aY t n l
theorem nX (l:List Bk):(Ee l).length=l.length:=by have:=(aW l [] List.Pairwise.nil).2.length_eq;simpa [Ee]using this
theorem yW {t:Aj} {l:List Ac} {s:Bo} (hg:A9 t=true) (hl:Cl l=true) (hs:FZ t s=true) (h1:s.af≠1):UY t l s=some (GJ t l s):=by
 have hT:=FU hg;have hlen:=(G3 hl).1.len;unfold UY GJ;by_cases k2:s.af=2
 ·rw [if_pos (by simpa using k2),pM hg hl,Ab,if_pos k2]
 rw [if_neg (by simpa using k2),if_neg k2];by_cases k3:s.af=3
 ·rw [if_neg (by simp [k3]),if_neg (by simp [k3]),sX hT,Ab];unfold FZ at hs;rw [if_neg h1,if_neg k2,if_pos k3]at hs;simp only [Ad,decide_eq_true_eq]at hs;obtain⟨x,gx,nx,mx⟩:=dL hs.2.1;have ln:s.a7.length≤2000000:=by
   have:x.ae=s.a7:=by simpa using nx
   rw [←this];exact hT.idx x mx
  have st:=zve hg mx;have es:SP t s.a7=(x.bc==3):=by unfold SP;rw [gx]
  rw [gx,Ab,es];by_cases k:x.bc=3
  ·rw [if_neg (by simp [k]),if_pos (by simp [k]),zxV hg ln hl,Ab];have il:=nX (C4 t s.a7 l);have pl:=cJ t s.a7 l;have hf:=En (xs:=Ee (C4 t s.a7 l)) (body:=fun u:List An × Int=>OS t l s ((Ee (C4 t s.a7 l)).map BV) u.1 u.2) (fun i (o:List An)=>(o,i)) (fun o e=>if ER s e=true then o++F1 t l e.al else o) (fun o=>some (o,true)) (fun i o=>o.length≤i)
    (fun i hi o hI=>by
     have hI:o.length≤i:=hI;have hw:=BM hi (by omega:(Ee (C4 t s.a7 l)).length≤_);have ho:=Sf (t:=t) hl (Ee (C4 t s.a7 l))[i].al;refine⟨?_,by
      show List.length (if ER s (Ee (C4 t s.a7 l))[i]=true then o++F1 t l (Ee (C4 t s.a7 l))[i].al else o)≤i+1;split
      ·rw [Ak];omega
      ·omega⟩
     show OS t l s ((Ee (C4 t s.a7 l)).map BV) o i=_;have uT:i<((Ee (C4 t s.a7 l)).map BV).length:=by rw [List.length_map];exact hi
     have g:getI ((Ee (C4 t s.a7 l)).map BV) (i:Int)=some (BV (Ee (C4 t s.a7 l))[i]):=by rw [Bb uT,List.getElem_map]
     generalize (Ee (C4 t s.a7 l))[i]=e at g ho;unfold OS;rw [if_pos (by simpa using hi),g,Ab,show getI (BV e).ah 1=some e.bh from rfl,Ab,show getI (BV e).ah 0=some e.al from rfl,hw];show(if ER s e=true then _ else _)=_;cases hb:ER s e with
     |false=>rfl
     |true=>rw [if_pos rfl,Ab,pM hg hl,Ab,AG (by omega),if_pos rfl])
    (fun o _=>by show OS t l s ((Ee (C4 t s.a7 l)).map BV) o (Ee (C4 t s.a7 l)).length=_;unfold OS;rw [if_neg (by simp)]) (s:= []) (by simp)
   refine hf.1.trans ?_;rw [cP];rfl
  ·rw [if_pos (by simp;omega),if_neg (by simpa using k)]
 ·rw [if_pos (by simpa using k3),if_pos k3]
theorem xL {t:Aj} {l:List Ac} {s:Bo} (hg:A9 t=true) (hl:Cl l=true) (hs:FZ t s=true) (h1:s.af≠1):Un t l s=some (GJ t l s):=by
 have hT:=FU hg;have hlen:=(G3 hl).1.len;unfold Un GJ;by_cases k2:s.af=2
 ·obtain⟨p,ep,p1,p2⟩:=qZ hg hl s.ca;rw [if_pos (by simpa using k2),ep,Ab,if_pos k2];cases hb:p.2 with
  |true=>rw [if_pos rfl,AG (by simp),p1 hb]
  |false=>rw [if_neg (by simp),p2 hb]
 rw [if_neg (by simpa using k2),if_neg k2];by_cases k3:s.af=3
 ·rw [if_neg (by simp [k3]),if_neg (by simp [k3])];unfold FZ at hs;rw [if_neg h1,if_neg k2,if_pos k3]at hs;simp only [Ad,decide_eq_true_eq]at hs;obtain⟨x,gx,nx,mx⟩:=dL hs.2.1;have nx:x.ae=s.a7:=by simpa using nx
  have ln:s.a7.length≤2000000:=by rw [←nx];exact hT.idx x mx
  have hh: ∀b∈head t s.a7,b≠47:=rG hg (by rw [←nx];exact(No hg mx).1);have es:SP t s.a7=(x.bc==3):=by unfold SP;rw [gx]
  have ei:M7 t s.a7=some x:=by unfold M7;rw [fG hT,Ab,gx];rfl
  rw [ei,Ab,es];by_cases k:x.bc=3
  ·rw [if_neg (by simp [k]),if_pos (by simp [k]),zu8 hT.name ln hh (by omega) (Nu hl),Ab];have el:=aY t s.a7 l;have hf:=En (xs:=Dg t s.a7 l) (body:=fun u:Int × List Bk=>OD t l s (Dg t s.a7 l) u.1 u.2) (fun i (o:List Bk)=>(i,o)) (fun o k=>if ER s (Er k)=true then o++ [Er k]else o) (fun o=>Y0 t l o) (fun i o=>o.length≤i)
    (fun i hi o hI=>by
     have hI:o.length≤i:=hI;have hw:=BM hi (by omega:(Dg t s.a7 l).length≤_);obtain⟨he,hk⟩:=mP hl (List.getElem_mem hi);refine⟨?_,by
      show List.length (if ER s (Er (Dg t s.a7 l)[i])=true then o++ [Er (Dg t s.a7 l)[i]]else o)≤i+1;split
      ·rw [Ak,Aw];omega
      ·omega⟩
     show OD t l s (Dg t s.a7 l) i o=_;unfold OD;rw [if_pos (by simpa using hi),Bb hi,Ab,xR hT.name ln (by omega) he,Ab,hw];show(if ER s (Er (Dg t s.a7 l)[i])=true then _ else _)=_;cases hb:ER s (Er (Dg t s.a7 l)[i])with
     |false=>rfl
     |true=>rw [if_pos rfl,AG (by rw [Aw];omega),if_pos rfl])
    (fun o _=>by show OD t l s (Dg t s.a7 l) (Dg t s.a7 l).length o=_;unfold OD;rw [if_neg (by simp)]) (s:= []) (by simp)
   refine hf.1.trans ?_;rw [Nh (fun k:Ag=>ER s (Er k)) Er,List.nil_append];have e1:((Dg t s.a7 l).filter fun k=>ER s (Er k)).map Er=(C4 t s.a7 l).filter (ER s):=by unfold C4;rw [List.filter_map];rfl
   rw [e1];unfold Y0;have pl:=cJ t s.a7 l;have fl:=List.length_filter_le (ER s) (C4 t s.a7 l);have e2:=zru (ER s) (C4 t s.a7 l);have e3:Tc t l s=((EX ((C4 t s.a7 l).filter (ER s)).toArray).toList).flatMap fun e=>F1 t l e.al:=by unfold Tc;rw [e2]
   have e4:((EX ((C4 t s.a7 l).filter (ER s)).toArray).toList).length≤24:=by have:=(mD ((C4 t s.a7 l).filter (ER s))).2.length_eq;omega
   unfold UX;rw [AG ⟨rfl,rfl,by omega⟩,Ab,e3];generalize (EX ((C4 t s.a7 l).filter (ER s)).toArray).toList=zs at e4;have hz:=En (xs:=zs) (body:=fun u:Int × List An=>OC t l ((),zs) u.1 u.2) (fun i (o:List An)=>(i,o)) (fun o e=>if(fun _:Bk=>true) e=true then o++F1 t l e.al else o) (fun o=>some (o,true)) (fun i o=>o.length≤i)
    (fun i hi o hI=>by
     have hI:o.length≤i:=hI;have hw:=BM hi (by omega:zs.length≤_);have ho:=Sf (t:=t) hl zs[i].al;refine⟨?_,by show(o++F1 t l zs[i].al).length≤i+1;rw [Ak];omega⟩
     obtain⟨p,ep,p1,p2⟩:=qZ hg hl zs[i].al;show OC t l ((),zs) i o=some (.inl (((i+1:Nat):Int),o++F1 t l zs[i].al));unfold OC;rw [if_pos (by simpa using hi),Bb hi,Ab,ep,Ab,hw];cases hb:p.2 with
     |true=>rw [if_pos rfl,AG (by rw [Aw];omega),p1 hb]
     |false=>rw [if_neg (by simp),p2 hb,List.append_nil])
    (fun o _=>by show OC t l ((),zs) zs.length o=_;unfold OC;rw [if_neg (by simp)]) (s:= []) (by simp)
   refine hz.1.trans ?_;rw [cP (fun _:Bk=>true),List.filter_eq_self.2 (fun _ _=>rfl),List.nil_append]
  ·rw [if_pos (by simpa using k),if_neg (by simpa using k)]
 ·rw [if_pos (by simpa using k3),if_pos k3]
theorem pC {α β:Type} {f:α→List β} (hf: ∀x,(f x).length≤1): ∀xs:List α,(xs.flatMap f).length≤xs.length
 | []=>by simp
 |x::xs=>by rw [List.flatMap_cons,Ak,Am];have:=hf x;have:=pC hf xs;omega
theorem sD {t:Aj} {l:List Ac} {s:Bo} (hl:Cl l=true):(GJ t l s).1.length≤24∧ ∀r∈(GJ t l s).1,BD t r=true:=by
 have hlen:=(G3 hl).1.len;unfold GJ;split
 ·have:=Sf (t:=t) hl s.ca;exact⟨by dsimp only;omega,fun r hr=>nL hr⟩
 ·split
  ·exact⟨by simp,fun r hr=>by simp at hr⟩
  ·split
   ·refine⟨?_,fun r hr=> ?_⟩
    ·have h1:=pC (f:=fun e:Bk=>F1 t l e.al) (fun e=>Sf hl e.al) ((Ee (C4 t s.a7 l)).filter (ER s));have h2:=List.length_filter_le (ER s) (Ee (C4 t s.a7 l));have h3:=nX (C4 t s.a7 l);have h4:=cJ t s.a7 l;show(Tc t l s).length≤24;unfold Tc;omega
    ·obtain⟨e,_,he⟩:=List.mem_flatMap.1 hr;exact nL he
   ·exact⟨by simp,fun r hr=>by simp at hr⟩
end Go.Proofs.YtollgpkegmbpmaaGreatDoor
end
section
namespace Go.Proofs.YtollgpkegmbpmaaGreatDoor
open Go.RowKit
set_option maxRecDepth 100000
set_option maxHeartbeats 1000000
theorem xP {t:Aj} {text:Ag} (hg:A9 t=true) (h:text.length≤1000000): ∃s,Vj t text=some (s,(EA t text (F3 (AM 32 text))).2)∧((EA t text (F3 (AM 32 text))).2=true→s=(EA t text (F3 (AM 32 text))).1):=by
 have hT:=FU hg;have hc:1≤t.ax.length:=by have:=H2 hg;omega
 have hm: ∀x∈AM 32 text,x.length≤1000000:=fun x hx=>eD h hx;have EN: ∀x:Ag,x.length≤1000000→Km x=some ⟨AM 44 x⟩:=fun x hx=>by have e:HW x 44=some (AM 44 x):=Sp (c:=44) (by omega);unfold Km;rw [e];rfl
 have e0:HW text 32=some (AM 32 text):=Sp (c:=32) (by omega);have key:Vn (AM 32 text)=some (Hf (AM 32 text))∧Hv (Hf (AM 32 text)):=by
  generalize AM 32 text=ws at hm;have z:Hv Fj:=⟨Jl,by simp,by simp,by simp⟩
  unfold Vn;by_cases h3:ws.length=3
  ·obtain⟨a,b,c,rfl⟩: ∃a b c,ws= [a,b,c]:=by
    match ws,h3 with
    | [a,b,c],_=>exact⟨a,b,c,rfl⟩
   have g0:getI [a,b,c] 0=some a:=rfl;have g2:getI [a,b,c] 2=some c:=rfl;have Ay:=hm c (by simp);have sp:=HY (c:=44) Ay;rw [if_pos (by simp)];simp only [g0,g2,Ab,EN c Ay];rw [s4];by_cases ag:a=NL
   ·rw [if_pos (by simpa using ag),if_pos ag];exact⟨rfl,Jl,by simp,by show c.length≤_;omega,by simp⟩
   rw [if_neg (by simpa using ag),if_neg ag,if_neg (by simp)];by_cases ai:a=Jr
   ·rw [if_pos (by simpa using ai),if_pos ai];exact⟨rfl,⟨LC,sp⟩,by simp,by simp,by simp⟩
   rw [if_neg (by simpa using ai),if_neg ai];by_cases ad:a=Ju
   ·rw [if_pos (by simpa using ad),if_pos ad];exact⟨rfl,⟨sp,LC⟩,by simp,by simp,by simp⟩
   rw [if_neg (by simpa using ad),if_neg ad,if_neg (by simp)];exact⟨rfl,z⟩
  rw [if_neg (by simp;omega)];by_cases h5:ws.length=5
  ·obtain⟨a,b,c,d,e,rfl⟩: ∃a b c d e,ws= [a,b,c,d,e]:=by
    match ws,h5 with
    | [a,b,c,d,e],_=>exact⟨a,b,c,d,e,rfl⟩
   have g0:getI [a,b,c,d,e] 0=some a:=rfl;have g2:getI [a,b,c,d,e] 2=some c:=rfl;have g3:getI [a,b,c,d,e] 3=some d:=rfl;have g4:getI [a,b,c,d,e] 4=some e:=rfl;have Ay:=hm c (by simp);have NX:=hm d (by simp);have A7:=hm e (by simp);rw [if_pos (by simp)];simp only [g0,g2,g3,g4,Ab,EN c Ay,EN e A7];rw [s7];by_cases ar:a=NA
   ·rw [if_pos (by simpa using ar),if_pos ar];exact⟨rfl,Jl,by show c.length≤_;omega,by show d.length≤_;omega,by show e.length≤_;omega⟩
   rw [if_neg (by simpa using ar),if_neg ar];by_cases au:a=Js
   ·rw [if_pos (by simpa using au),if_pos au];exact⟨rfl,⟨HY Ay,HY A7⟩,by simp,by simp,by simp⟩
   rw [if_neg (by simpa using au),if_neg au];exact⟨rfl,z⟩
  rw [if_neg (by simp;omega)];have:Hf ws=Fj:=by
   match ws,h3,h5 with
   | [],_,_=>rfl
   | [_],_,_=>rfl
   | [_,_],_,_=>rfl
   | [_,_,_],h,_=>exact absurd rfl h
   | [_,_,_,_],_,_=>rfl
   | [_,_,_,_,_],_,h=>exact absurd rfl h
   |_::_::_::_::_::_::_,_,_=>rfl
  rw [this];exact⟨rfl,z⟩
 refine⟨Hf (AM 32 text), ?_, ?_⟩
 ·rw [oM];unfold Vj EA;rw [e0,Ab,key.1,Ab,zwS hc hT key.2,Ab,rS hT.name key.2];cases hq:FZ t (Hf (AM 32 text))with
  |false=>simp
  |true=>
   by_cases he:I0 t (Hf (AM 32 text))=text
   ·simp [he]
   ·simp [he]
 ·rw [oM];unfold EA;split
  ·exact fun _=>rfl
  ·intro h;cases h
def L7 (r:An):Ag:=Lib.join r.ah [44]
abbrev B4 (t:Aj) (text:Ag):Bo × Bool:=EA t text (F3 (AM 32 text))
def CF (t:Aj) (l:List Ac) (text:Ag):List Ac × Ag:=
 if(B4 t text).2=false then(l, [119,104,97,116])else
 if(B4 t text).1.af=1 then((Fc l (GB t (B4 t text).1.bb)).1,if(Fc l (GB t (B4 t text).1.bb)).2=true then [100,111,110,101]else [110,111,116])else
 if(GJ t l (B4 t text).1).2=false then(l, [99,108,111,115,101,100])else
 if(GJ t l (B4 t text).1).1= []then(l, [110,111,110,101])else(l,Lib.join ((GJ t l (B4 t text).1).1.map L7) [32])
theorem pL {t:Aj} {l:List Ac} {text:Ag} (h:(B4 t text).2=false):CF t l text=(l, [119,104,97,116]):=by unfold CF;rw [if_pos h]
theorem rW {t:Aj} {l:List Ac} {text:Ag} (h:(B4 t text).2=true) (k:(B4 t text).1.af=1):CF t l text=((Fc l (GB t (B4 t text).1.bb)).1,if(Fc l (GB t (B4 t text).1.bb)).2=true then [100,111,110,101]else [110,111,116]):=by unfold CF;rw [if_neg (by simp [h]),if_pos k]
theorem rB {t:Aj} {l:List Ac} {text:Ag} (h:(B4 t text).2=true) (k:(B4 t text).1.af≠1):CF t l text=if(GJ t l (B4 t text).1).2=false then(l, [99,108,111,115,101,100])else if(GJ t l (B4 t text).1).1= []then(l, [110,111,110,101])else(l,Lib.join ((GJ t l (B4 t text).1).1.map L7) [32]):=by unfold CF;rw [if_neg (by simp [h]),if_neg k]
theorem cH {t:Aj} {text:Ag} (h:(B4 t text).2=true):FZ t (B4 t text).1=true:=by
 unfold B4 EA at h ⊢;split at h
 ·rename_i hc;rw [if_pos hc];exact hc.1
 ·cases h
theorem dG {t:Aj} {r:An} (hg:A9 t=true) (h:BD t r=true):(L7 r).length≤110∧Small r.ah:=by have hx:=(Lz hg h).1;refine⟨?_,hx.small⟩;have h1:=PE r.ah [44];have h2:=Pu hx.each;have h3:=hx.len;rw [Aw]at h1;unfold L7;omega
theorem nM {t:Aj} {rs:List An} (hg:A9 t=true) (hl:rs.length≤24) (h: ∀r∈rs,BD t r=true):Small (rs.map L7):=by
 refine⟨by rw [List.length_map];omega, ?_⟩;have:=Pu (k:=110) (xs:=rs.map L7) fun s hs=>by obtain⟨r,hr,rfl⟩:=List.mem_map.1 hs;exact(dG hg (h r hr)).1
 rw [List.length_map]at this;have:110*rs.length≤110*24:=Nat.mul_le_mul_left _ hl;omega
theorem VS {t:Aj} {text:Ag} (hg:A9 t=true) (h:text.length≤1000000) (h2:(B4 t text).2=true) (h1:(B4 t text).1.af=1):LW (B4 t text).1.bb∧Ha t (B4 t text).1.bb=true:=by have hs:Hv (B4 t text).1:=zpv (zta h);have hq:=cH h2;unfold FZ at hq;rw [if_pos h1]at hq;simp only [Ad]at hq;exact⟨hs.act,hq.1.1.1⟩
theorem w7 {t:Aj} {l:List Ac} {text:Ag} (hg:A9 t=true) (hl:Cl l=true) (h:text.length≤1000000):Uz t l text=some (CF t l text):=by
 have hT:=FU hg;unfold Uz;rw [qL hg h,Ab];show(if(!(B4 t text).2)=true then _ else _)=_;cases h2:(B4 t text).2 with
 |false=>rw [pL h2];rfl
 |true=>
  rw [if_neg (by simp)];by_cases k1:(B4 t text).1.af=1
  ·obtain⟨ha,hb⟩:=VS hg h h2 k1;obtain⟨o1,o2⟩:=Wa hg hb;rw [if_pos (by simpa using k1),rW h2 k1,sR hT hg (fC ha hb),Ab,oT o1 o2 hl,Ab];cases(Fc l (GB t (B4 t text).1.bb)).2<;>rfl
  ·rw [if_neg (by simpa using k1),rB h2 k1,xL hg hl (cH h2) k1,Ab];obtain⟨a1,a2⟩:=sD (t:=t) (s:=(B4 t text).1) hl;generalize hz:GJ t l (B4 t text).1=z at a1 a2;obtain⟨rs,ok⟩:=z;dsimp only at a1 a2 ⊢;cases ok with
   |false=>rfl
   |true=>
    rw [if_neg (by simp)];by_cases hn:rs= []
    ·subst hn;rfl
    ·have vF:rs.length≠0:=fun e=>hn (List.length_eq_zero_iff.1 e);rw [if_neg (by simp;omega),if_neg (by simp),if_neg hn];have hf:=En (xs:=rs) (body:=fun u:Int × List Ag=>OF l (rs,true) u.1 u.2) (fun i (o:List Ag)=>(i,o)) (fun o r=>o++ [L7 r]) (fun o=>Y3 l o) (fun i o=>o.length=i)
      (fun i hi o hI=>by have hI:o.length=i:=hI;have hw:=BM hi (by omega:rs.length≤_);refine⟨?_,by rw [Ak,Aw,hI]⟩;show OF l (rs,true) i o=_;unfold OF IS;rw [if_pos (by simpa using hi),Bb hi,Ab,Ss (dG hg (a2 _ (List.getElem_mem hi))).2,Ab,Ab,AG (by rw [Aw];omega),hw];rfl)
      (fun o _=>by show OF l (rs,true) rs.length o=_;unfold OF;rw [if_neg (by simp)]) (s:= []) (by simp)
     refine hf.1.trans ?_;rw [foldl_map,List.nil_append];unfold Y3;rw [Ss (nM hg a1 a2),Ab]
theorem xC {t:Aj} {l:List Ac} {text:Ag} (hg:A9 t=true) (hl:Cl l=true) (h:text.length≤1000000):UE t l text=some (CF t l text):=by
 have hT:=FU hg;obtain⟨s,e,hs⟩:=xP hg h;unfold UE;rw [e,Ab];show(if(!(B4 t text).2)=true then _ else _)=_;cases h2:(B4 t text).2 with
 |false=>rw [pL h2];rfl
 |true=>
  have hs:s=(B4 t text).1:=hs h2;subst hs;rw [if_neg (by simp)];by_cases k1:(B4 t text).1.af=1
  ·obtain⟨ha,hb⟩:=VS hg h h2 k1;obtain⟨o1,o2⟩:=Wa hg hb;rw [if_pos (by simpa using k1),rW h2 k1,yX hT hg (fC ha hb),Ab,zQ o1 o2 hl,Ab];cases(Fc l (GB t (B4 t text).1.bb)).2<;>rfl
  ·rw [if_neg (by simpa using k1),rB h2 k1,yW hg hl (cH h2) k1,Ab];obtain⟨a1,a2⟩:=sD (t:=t) (s:=(B4 t text).1) hl;generalize hz:GJ t l (B4 t text).1=z at a1 a2;obtain⟨rs,ok⟩:=z;dsimp only at a1 a2 ⊢;cases ok with
   |false=>rfl
   |true=>
    rw [if_neg (by simp)];by_cases hn:rs= []
    ·subst hn;rfl
    ·have vF:rs.length≠0:=fun e=>hn (List.length_eq_zero_iff.1 e);rw [if_neg (by simp;omega),if_neg (by simp),if_neg hn];have hf:=En (xs:=rs) (body:=fun u:List Ag × Int=>OL l (rs,true) u.1 u.2) (fun i (o:List Ag)=>(o,i)) (fun o r=>o++ [L7 r]) (fun o=>Za l o) (fun i o=>o.length=i)
      (fun i hi o hI=>by have hI:o.length=i:=hI;have hw:=BM hi (by omega:rs.length≤_);refine⟨?_,by rw [Ak,Aw,hI]⟩;show OL l (rs,true) o i=_;unfold OL IP;rw [if_pos (by simpa using hi),Bb hi,Ab,SA (dG hg (a2 _ (List.getElem_mem hi))).2,Ab,Ab,AG (by rw [Aw];omega),hw];rfl)
      (fun o _=>by show OL l (rs,true) o rs.length=_;unfold OL;rw [if_neg (by simp)]) (s:= []) (by simp)
     refine hf.1.trans ?_;rw [foldl_map,List.nil_append];unfold Za;rw [SA (nM hg a1 a2),Ab]
theorem Wy {t:Aj} {l:List Ac} {text:Ag} (hg:A9 t=true) (hl:Cl l=true) (h:text.length≤1000000):Cl (CF t l text).1=true:=by
 unfold CF;split
 ·exact hl
 ·rename_i h2;have h2:(B4 t text).2=true:=by simpa using h2
  split
  ·rename_i k1;obtain⟨ha,hb⟩:=VS hg h h2 k1;obtain⟨o1,o2⟩:=Wa hg hb;exact zyU o1 o2 hl
  ·split
   ·exact hl
   ·split
    ·exact hl
    ·exact hl
def GF (t:Aj) (l:List Ac) (xs:List Ag):List Ac × List Ag:=xs.foldl (fun s x=>((CF t s.1 x).1,s.2++ [(CF t s.1 x).2])) (l, [])
def LL (t:Aj) (l:List Ac) (xs:List Ag):List Ac × List Ag × Bool:=if A9 t=true∧Cl l=true∧xs.length≤12 then((GF t l xs).1,(GF t l xs).2,true)else([], [],false)
theorem zwc {t:Aj} {l:List Ac} {xs:List Ag} (hT:Fi t) (hl:LU l) (hx: ∀x∈xs,x.length≤1000000):Vc t l xs=some (LL t l xs):=by
 unfold Vc LL;rw [dH hT,Ab];cases hg:A9 t with
 |false=>rw [if_neg (by simp),if_neg (by simp)]
 |true=>
  rw [if_pos rfl,rY hl,Ab];cases hr:Cl l with
  |false=>rw [if_pos (by simp),if_neg (by simp)]
  |true=>
   by_cases hn:xs.length≤12
   ·have hlen:=(G3 hr).1.len;rw [if_neg (by simp;omega),if_pos ⟨rfl,rfl,hn⟩,show Rn l=some l from qR (by omega) (by omega),Ab];exact(En (xs:=xs) (body:=fun s:List Ac × Int × List Ag=>O8 t xs s.1 s.2.1 s.2.2) (fun i (s:List Ac × List Ag)=>(s.1,i,s.2)) (fun s x=>((CF t s.1 x).1,s.2++ [(CF t s.1 x).2])) (fun s=>some (s.1,s.2,true)) (fun i s=>Cl s.1=true∧s.2.length=i)
     (fun i hi s hI=>by obtain⟨i1,i2⟩:=hI;have hw:=BM hi (by omega:xs.length≤_);have D9:=hx _ (List.getElem_mem hi);refine⟨?_,Wy hg i1 D9,by rw [Ak,Aw,i2]⟩;show O8 t xs s.1 i s.2=_;unfold O8;rw [if_pos (by simpa using hi),Bb hi,Ab,w7 hg i1 D9,Ab,AG (by rw [Aw];omega),hw])
     (fun s _=>by show O8 t xs s.1 xs.length s.2=_;unfold O8;rw [if_neg (by simp)]) (s:=(l, [])) ⟨hr,rfl⟩).1
   ·rw [if_pos (by simp;omega),if_neg (by simp;omega)]
theorem zv4 {t:Aj} {l:List Ac} {xs:List Ag} (hT:Fi t) (hl:LU l) (hx: ∀x∈xs,x.length≤1000000):UL t l xs=some (LL t l xs):=by
 unfold UL LL;rw [qF hT,Ab];cases hg:A9 t with
 |false=>rw [if_neg (by simp),if_neg (by simp)]
 |true=>
  rw [if_pos rfl,eP hl,Ab];cases hr:Cl l with
  |false=>rw [if_pos (by simp),if_neg (by simp)]
  |true=>
   by_cases hn:xs.length≤12
   ·have hlen:=(G3 hr).1.len;rw [if_neg (by simp;omega),if_pos ⟨rfl,rfl,hn⟩,AG (by rw [List.length_nil];omega)];exact(En (xs:=xs) (body:=fun s:List Ac × List Ag × Int=>O9 t xs s.1 s.2.1 s.2.2) (fun i (s:List Ac × List Ag)=>(s.1,s.2,i)) (fun s x=>((CF t s.1 x).1,s.2++ [(CF t s.1 x).2])) (fun s=>some (s.1,s.2,true)) (fun i s=>Cl s.1=true∧s.2.length=i)
     (fun i hi s hI=>by obtain⟨i1,i2⟩:=hI;have hw:=BM hi (by omega:xs.length≤_);have D9:=hx _ (List.getElem_mem hi);refine⟨?_,Wy hg i1 D9,by rw [Ak,Aw,i2]⟩;show O9 t xs s.1 s.2 i=_;unfold O9;rw [if_pos (by simpa using hi),Bb hi,Ab,xC hg i1 D9,Ab,AG (by rw [Aw];omega),hw])
     (fun s _=>by show O9 t xs s.1 s.2 xs.length=_;unfold O9;rw [if_neg (by simp)]) (s:=(l, [])) ⟨hr,rfl⟩).1
   ·rw [if_pos (by simp;omega),if_neg (by simp;omega)]
theorem sH {t:Aj} (hg:A9 t=true): ∀(xs:List Ag) (l:List Ac) (o:List Ag),Cl l=true→(∀x∈xs,x.length≤1000000)→Cl (xs.foldl (fun s x=>((CF t s.1 x).1,s.2++ [(CF t s.1 x).2])) (l,o)).1=true∧((xs.foldl (fun s x=>((CF t s.1 x).1,s.2++ [(CF t s.1 x).2])) (l,o)).2.length=o.length+xs.length∧(xs.foldl (fun s x=>((CF t s.1 x).1,s.2++ [(CF t s.1 x).2])) (l,o)).1=xs.foldl (fun s x=>(CF t s x).1) l)
 | [],l,o,h,_=>⟨h,rfl,rfl⟩
 |x::xs,l,o,h,hx=>by obtain⟨a,b,c⟩:=sH hg xs (CF t l x).1 (o++ [(CF t l x).2]) (Wy hg h (hx x (by simp))) fun y hy=>hx y (by simp [hy]);refine⟨a,b.trans ?_,c⟩;rw [Ak,Aw,Am];omega
theorem zpi {code:List Int} (h: ∀b∈code,0≤b∧b≤255):BU (Up code) fun p=>Fi p.1∧GD p.2.1∧ ∀x∈p.2.2,x.length≤1010:=by
 have hk: ∀(v2:List Ac × AH) (v6:Ag) (v7:List Ag) (v8:List AX) (c:AH) (o:List Ag) (k:Int),Fi ⟨v6,v7,v8⟩→GD v2.1→(∀x∈o,x.length≤1010)→BG c k→k≤1000000→BU (Uy v2 v6 v7 v8 c.ay c.ch c.az o) fun p=>Fi p.1∧GD p.2.1∧ ∀x∈p.2.2,x.length≤1010:=by
  intro v2 v6 v7 v8 c o k hT hS ho hc hk;unfold Uy;refine(KQ 20 (c:=⟨c.ay,c.ch,c.az⟩) hc (by omega)).bind fun v hv=> .ite (fun _=> ?_) fun _=> .ret ⟨hT,hS,ho⟩;refine(EB 2 hv (by omega)).bind fun p ⟨hp,_⟩=> ?_;have p2:=hp.2.1 (by omega);have w:IntKind.i64.wrap (12+p.1)=12+p.1:=B3 (by omega) (by omega);rw [w];exact .req (by omega) (.ret ⟨hT,hS,fun x hx=>by rw [(List.mem_replicate.1 hx).2];simp⟩)
 have hj: ∀(v2:List Ac × AH) (v6:Ag) (v7:List Ag) (v8:List AX) (c:AH),Fi ⟨v6,v7,v8⟩→GD v2.1→BG c 10000→BU (Ue v2 c.ay c.ch c.az v6 v7 v8) fun p=>Fi p.1∧GD p.2.1∧ ∀x∈p.2.2,x.length≤1010:=by
  intro v2 v6 v7 v8 c hT hS hc;unfold Ue;refine(EB 9 (c:=⟨c.ay,c.ch,c.az⟩) hc (by omega)).bind fun p ⟨hp,hd⟩=> ?_;have p2:=hp.2.1 (by omega);obtain⟨m,hm⟩:=Int.eq_ofNat_of_zero_le hp.1;rw [hm];refine Ni (fun j u=> ∃q:Nat,q+j=m∧u.2.1=(j:Int)∧u.1.length=q∧(∀x∈u.1,x.length≤1010)∧BG ⟨u.2.2.1,u.2.2.2.1,u.2.2.2.2⟩ (10002+1000*q)) (fun j u hI=> ?_) (n:=m) ⟨0,by omega,rfl,rfl,fun x hx=>by simp at hx,by simpa using hd⟩;obtain⟨o,s1,a,b,e⟩:=u;obtain⟨q,i0,i1,i2,i3,i4⟩:=hI;dsimp only at i1 i2 i3 i4 ⊢;subst i1;unfold kD;refine .ite (fun Ax=> ?_) fun _=> .ret (hk v2 v6 v7 v8 ⟨a,b,e⟩ o _ hT hS i3 i4 (by omega));simp only [decide_eq_true_eq]at Ax;rw [qF hT,Ab];refine .ite (fun hg=> ?_) fun _=> .ret (hk v2 v6 v7 v8 ⟨a,b,e⟩ o _ hT hS i3 i4 (by omega));have w1:IntKind.i64.wrap ((j:Int)-1)=((j-1:Nat):Int):=by rw [B3 (by omega) (by omega)];omega
  refine(xZ hg hS i4 (by omega)).bind fun u ⟨hu,hf⟩=> ?_;have hl:=zyg hg hu;rw [rS hT.name hu.small,Ab];refine(KQ 6 hf (by omega)).bind fun v hv=> .ite (fun _=> ?_) fun _=> ?_
  ·refine(zxz hl (by simp) (by simp) hv (by omega)).bind fun w ⟨hw,hz⟩=> .req (by rw [Aw];omega) (.ret ⟨j-1,by omega,q+1,by omega,w1,by rw [Ak,Aw,i2],fun x hx=> ?_,hz.up (by omega)⟩);rcases Ah.1 hx with hx|hx
   ·exact i3 x hx
   ·rw [List.mem_singleton.1 hx];exact hw
  ·refine .req (by rw [Aw];omega) (.ret ⟨j-1,by omega,q+1,by omega,w1,by rw [Ak,Aw,i2],fun x hx=> ?_,hv.up (by omega)⟩);rcases Ah.1 hx with hx|hx
   ·exact i3 x hx
   ·rw [List.mem_singleton.1 hx];omega
 unfold Up;refine(pT (c:=⟨code,0,0⟩) (BG.start h) (by omega)).bind fun t ⟨hg,hc⟩=>(zss hg hc (by omega)).bind fun s ⟨hs,hd⟩=>(KQ 12 hd (by omega)).bind fun v hv=> .ite (fun _=> ?_) fun _=> ?_
 ·exact(zsg hv (by omega)).bind fun b ⟨hb,he⟩=>hj s b.1.ae b.1.ax b.1.aj b.2 hb hs (he.up (by omega))
 ·exact hj s t.1.ae t.1.ax t.1.aj v.2 (FU hg) hs (hv.up (by omega))
theorem bC (l:List Ac) (h:l.length≤2000000):RR l l=some true:=by
 unfold RR;rw [if_neg (by simp)];exact tD (n:=l.length) (body:=fun s:Int=>OY l l s) (fun i hi=>by
  show OY l l i=_;unfold OY;rw [if_pos (by simpa using hi),Bb hi,Ab,Ab,BM hi (by omega),if_neg (by simp)]) (by
  show OY l l l.length=_;unfold OY;rw [if_neg (by simp)])
theorem nH (l:List Ag) (h:l.length≤2000000):U2 l l=some true:=by
 unfold U2;rw [if_neg (by simp)];exact tD (n:=l.length) (body:=fun s:Int=>OX l l s) (fun i hi=>by
  show OX l l i=_;unfold OX;rw [if_pos (by simpa using hi),Bb hi,Ab,Ab,BM hi (by omega),if_neg (by simp)]) (by
  show OX l l l.length=_;unfold OX;rw [if_neg (by simp)])
theorem zw0 {t:Aj} {l:List Ac} {a:Ba} (hg:A9 t=true) (hl:Cl l=true) (ha:LW a) (hb:Ha t a=true):Vr t l a=some ((Fc l (GB t a)).1,(Fc l (GB t a)).2,true):=by
 have hT:=FU hg;have hc:1≤t.ax.length:=by have:=H2 hg;omega
 obtain⟨o1,o2⟩:=Wa hg hb;obtain⟨hr,_⟩:=G3 hl;unfold Vr ZK;rw [dH hT,Ab,hg,if_pos rfl,nE hc ha,Ab,hb,Ab,if_pos rfl,rY (Z4 (by have:=hr.len;omega) hr.c7),Ab,hl,if_neg (by simp),sR hT hg (fC ha hb),Ab,oT o1 o2 hl,Ab]
theorem zzM (c b:List Int) (hc:TU NO c) (hb:TU NO b):U0 c b=some true:=by
 unfold U0;refine zI (fun _=>rfl) fun _=> ?_;obtain⟨⟨t,l,xs⟩,hd,hT,hL,hX⟩:=zpi hc.2;dsimp only at hT hL hX;have Tq: ∀x∈xs,x.length≤1000000:=fun x hx=>by have:=hX x hx;omega
 rw [hd,Ab];dsimp only;rw [zwc hT hL.small Tq,Ab,zv4 hT hL.small Tq,Ab,if_neg (by simp)];by_cases hq:A9 t=true∧Cl l=true∧xs.length≤12
 ·obtain⟨hg,hr,hn⟩:=hq;have es:LL t l xs=((GF t l xs).1,(GF t l xs).2,true):=by unfold LL;rw [if_pos ⟨hg,hr,hn⟩]
  obtain⟨r1,r2,r3⟩:=sH hg xs l [] hr Tq;have r1:Cl (GF t l xs).1=true:=r1;have r2:(GF t l xs).2.length=([]:List Ag).length+xs.length:=r2;have r3:(GF t l xs).1=xs.foldl (fun s x=>(CF t s x).1) l:=r3;rw [List.length_nil]at r2;have rl:=(G3 r1).1.len;rw [es];dsimp only;rw [bC _ (by omega),Ab,if_pos rfl,nH _ (by omega),Ab,if_neg (by simp),if_neg (by simp)];have hf:=En (xs:=xs) (body:=fun s:List Ac × Int=>OT (t,l,xs) ((GF t l xs).1,(GF t l xs).2,true) s.1 s.2) (fun i (s:List Ac)=>(s,i)) (fun s x=>(CF t s x).1) (fun s=>ZE (t,l,xs) ((GF t l xs).1,(GF t l xs).2,true) s) (fun _ s=>Cl s=true)
   (fun i hi s hI=>by
    have hI:Cl s=true:=hI;have hw:=BM hi (by omega:xs.length≤_);have D9:=Tq _ (List.getElem_mem hi);refine⟨?_,Wy hg hI D9⟩;show OT (t,l,xs) ((GF t l xs).1,(GF t l xs).2,true) s i=_;unfold OT;rw [if_pos (by simpa using hi),Bb hi,Ab,zsH hg D9,Ab,hw];show(if((!(B4 t xs[i]).2)||((B4 t xs[i]).1.af !=1))=true then _ else _)=_;cases h2:(B4 t xs[i]).2 with
    |false=>
     have e:(CF t s xs[i]).1=s:=by unfold CF;rw [if_pos h2]
     rw [if_pos (by simp),e]
    |true=>
     by_cases k1:(B4 t xs[i]).1.af=1
     ·obtain⟨ha,hb⟩:=VS hg D9 h2 k1;have e:(CF t s xs[i]).1=(Fc s (GB t (B4 t xs[i]).1.bb)).1:=by unfold CF;rw [if_neg (by simp [h2]),if_pos k1]
      rw [if_neg (by simp [k1]),zw0 hg hI ha hb,Ab,if_neg (by simp),e]
     ·have e:(CF t s xs[i]).1=s:=by
       unfold CF;rw [if_neg (by simp [h2]),if_neg k1];split
       ·rfl
       ·split<;>rfl
      rw [if_pos (by simp [k1]),e])
   (fun s _=>by show OT (t,l,xs) ((GF t l xs).1,(GF t l xs).2,true) s xs.length=_;unfold OT;rw [if_neg (by simp)]) (s:=l) hr
  refine hf.1.trans ?_;rw [←r3];unfold ZE;rw [if_pos (by simp [r2]),bC _ (by omega),Ab]
 ·have es:LL t l xs=([], [],false):=by unfold LL;rw [if_neg hq]
  rw [es];dsimp only;rw [bC _ (by simp),Ab,if_pos rfl,nH _ (by simp),Ab,if_neg (by simp),if_pos (by simp)]
theorem ztp {H:Type} {enc:TypeId × Value→H} {P:Program} {w:World} {base:Nat} {sp:Nat→Bool} {held:Bool} {fuel:Nat} {t:TypeId} {cs:List Value} {n:String} {d:DataW H} {p:List MemPlace} {u:TypeDesc}
  (ht:P.underlying t=some u) (hu:(match u with| .interface _=>true|_=>false)=true) (h:DataW.trod enc P w base sp held fuel t cs=some (.iface n d,p)): ∃a v,cs= [.iface a v]:=by
 cases fuel with
 |zero=>simp [DataW.trod]at h
 |succ fuel=>
  cases u<;>first|(cases hu;done)|skip
  simp only [DataW.trod,ht]at h;split at h<;>first|(exact⟨_,_,rfl⟩)|(simp at h;done)|(simp_all;done)
noncomputable def iT (s:String):Bool:=match(Tryz.prog.globalNamed s).bind (fun g=>(Tryz.prog.globals[g]?).map (·.type))with
 |some t=>(match Tryz.prog.underlying t with|some (.interface _)=>true|_=>false)
 |none=>false
noncomputable def s6 (s:String):Bool:=match(Tryz.prog.globalNamed s).bind (fun g=>(Tryz.prog.globals[g]?).map (·.type))with
 |some t=>(match Tryz.prog.underlying t with
  |some (.array n e)=>(match Tryz.prog.underlying e with|some (.int .u64)=>true|_=>false)&&Tryz.prog.cellsOf e==1&&Tryz.prog.cellsOf t==n
  |_=>false)
 |none=>false
theorem qC {s:String} {D:DataW Unit} {W:World} (h:laidMet Tryz.prog [(s,D)] W) (hc:iT s=true) (hd: ∃n d,D= .iface n d): ∃t p,W.var? Tryz.prog s=some #[.iface t p]:=by
 obtain⟨ps,⟨g,t,cs,fuel,p,q,hg,ht,Ra,TK,_,_⟩,_⟩:=h;obtain⟨n,d,rfl⟩:=hd;unfold iT at hc;rw [hg,Ab,ht]at hc;simp only at hc;cases hu:Tryz.prog.underlying t with
 |none=>rw [hu]at hc;cases hc
 |some u=>obtain⟨a,v,e⟩:=ztp hu (by rw [hu]at hc;cases u<;>first|rfl|cases hc) TK;refine⟨a,v, ?_⟩;rw [Ra];congr 1;apply Array.ext';rw [e]
theorem w8 {s:String} {W:World} (h:laidMet Tryz.prog [(s,Lib.tabData .u64 Lib.pow10Tab)] W) (hc:s6 s=true):Lib.TabIs Tryz.prog W s .u64 Lib.pow10Tab:=by
 have h0:=h;obtain⟨ps,⟨g,t,cs,fuel,p,q,hg,ht,Ra,TK,_,_⟩,_⟩:=h;unfold s6 at hc;rw [hg,Ab,ht]at hc;simp only at hc;split at hc
 ·rename_i n e hu;simp only [Ad,beq_iff_eq]at hc;obtain⟨⟨h1,h2⟩,h3⟩:=hc;split at h1
  ·rename_i he;exact Lib.tabIs_of_head hg ht hu he h2 h3 h0
  ·cases h1
 ·cases hc
theorem zzK {laid:List (String × DataW Unit)} {D1 D2 D3:DataW Unit} {W:World} (h:laidMet Tryz.prog laid W)
  (e1:(laid.filter fun x=>x.1== "strconv.ErrSyntax")= [("strconv.ErrSyntax",D1)]) (i1: ∃n d,D1= .iface n d)
  (e2:(laid.filter fun x=>x.1== "strconv.ErrRange")= [("strconv.ErrRange",D2)]) (i2: ∃n d,D2= .iface n d)
  (e3:(laid.filter fun x=>x.1== "internal/strconv.uint64pow10")= [("internal/strconv.uint64pow10",D3)]) (i3:D3=Lib.tabData .u64 Lib.pow10Tab):E9.n≤W.heap.size∧E9.K W:=by
 have h1:=h.filter fun x=>x.1== "strconv.ErrSyntax"
 have h2:=h.filter fun x=>x.1== "strconv.ErrRange"
 have h3:=h.filter fun x=>x.1== "internal/strconv.uint64pow10"
 rw [e1]at h1;rw [e2]at h2;rw [e3,i3]at h3;have k:YE W:=⟨qC h1 (by kernel_rfl) i1,qC h2 (by kernel_rfl) i2,(w8 h3 (by kernel_rfl)).trans (by kernel_rfl)⟩
 exact⟨xF k,k⟩
end Go.Proofs.YtollgpkegmbpmaaGreatDoor
end
