/- Parts of a proof, joined: NY, NSA, NO, NKC, NDD, NKD, NZ, NKE, NWK, NWL, NWM, NWN, NWO, NWR, NWP, NWT, NWQ, NWX, NWS, NKW, NWU, NKF, PL. -/
import Derived.Test.YtbmbkgalkfmjdaaGreatDoorJ10
import Derived.Lib.LaidTab
import Derived.LaidSub
set_option linter.unusedVariables false
set_option linter.unusedSimpArgs false
section
namespace Go.Proofs.YtbmbkgalkfmjdaaGreatDoor
open Go.RowKit
set_option maxRecDepth 100000
set_option maxHeartbeats 1000000
def Fi (l:List Int):Bool:=l.all fun x=>l.all fun y=> !decide (x-y>1)
theorem zyQ {l:List Int} (hl:l.length≤2000000) (hb: ∀y∈l,0≤y∧y≤3):lF l=some (Fi l):=by
 unfold lF;have Ch: ∀(i:Nat) (hi:i<l.length),AA (fun s:Int=>PH l i l[i] s) 0=some (if(l.all fun y=> !decide (l[i]-y>1))=true then .inl ((i+1:Nat):Int)else .inr (some false)):=by
  intro i hi;have hx:=hb _ (List.getElem_mem hi);rw [Mg (xs:=l) (body:=fun s:Int=>PH l i l[i] s) (fun y=> !decide (l[i]-y>1)) (.inr (some false)) (kN i) (fun j hj=>by
   have hy:=hb _ (List.getElem_mem hj);have w:IntKind.i64.wrap (l[i]-l[j])=l[i]-l[j]:=A8 (by omega) (by omega);show PH l i l[i] j=_;unfold PH;rw [if_pos (by simpa using hj),AR hj,Aa,w,Bx hj (by omega)];cases decide (l[i]-l[j]>1)<;>rfl) (by
   show PH l i l[i] l.length=_;unfold PH;rw [if_neg (by simp)])]
  unfold kN;rw [Bx hi (by omega)];split<;>rfl
 rw [Mg (xs:=l) (body:=fun s:Int=>RQ l s) (fun x=>l.all fun y=> !decide (x-y>1)) false (some true) (fun i hi=>by
  show RQ l i=_;unfold RQ;rw [if_pos (by simpa using hi),AR hi,Aa];exact Ch i hi) (by
  show RQ l l.length=_;unfold RQ;rw [if_neg (by simp)])]
 unfold Fi;cases(l.all fun x=>l.all fun y=> !decide (x-y>1))<;>rfl
def LX (a:Int) (l:List Int):Int:=l.foldl (fun m y=>bif decide (y>m)then y else m) a
def LV (a:Int) (l:List Int):Int:=l.foldl (fun m y=>bif decide (y<m)then y else m) a
theorem vE: ∀(l:List Int) (a:Int),LX a l∈a::l∧ ∀x∈a::l,x≤LX a l
 | [],a=>by simp [LX]
 |y::l,a=>by
  obtain⟨h1,h2⟩:=vE l (bif decide (y>a)then y else a);have e:LX a (y::l)=LX (bif decide (y>a)then y else a) l:=rfl;rw [e];have ha:a≤(bif decide (y>a)then y else a)∧y≤(bif decide (y>a)then y else a):=by
   by_cases h:y>a
   ·rw [decide_eq_true h];exact⟨by simp;omega,by simp⟩
   ·rw [decide_eq_false h];exact⟨by simp,by simp;omega⟩
  have hm:=h2 _ (List.mem_cons_self);refine⟨?_,fun x hx=> ?_⟩
  ·rcases Ag.1 h1 with h|h
   ·rw [h];by_cases hc:y>a
    ·rw [decide_eq_true hc];simp
    ·rw [decide_eq_false hc];simp
   ·simp [h]
  ·rcases Ag.1 hx with rfl|hx
   ·omega
   ·rcases Ag.1 hx with rfl|hx
    ·omega
    ·exact h2 x (by simp [hx])
theorem uM: ∀(l:List Int) (a:Int),LV a l∈a::l∧ ∀x∈a::l,LV a l≤x
 | [],a=>by simp [LV]
 |y::l,a=>by
  obtain⟨h1,h2⟩:=uM l (bif decide (y<a)then y else a);have e:LV a (y::l)=LV (bif decide (y<a)then y else a) l:=rfl;rw [e];have ha:(bif decide (y<a)then y else a)≤a∧(bif decide (y<a)then y else a)≤y:=by
   by_cases h:y<a
   ·rw [decide_eq_true h];exact⟨by simp;omega,by simp⟩
   ·rw [decide_eq_false h];exact⟨by simp,by simp;omega⟩
  have hm:=h2 _ (List.mem_cons_self);refine⟨?_,fun x hx=> ?_⟩
  ·rcases Ag.1 h1 with h|h
   ·rw [h];by_cases hc:y<a
    ·rw [decide_eq_true hc];simp
    ·rw [decide_eq_false hc];simp
   ·simp [h]
  ·rcases Ag.1 hx with rfl|hx
   ·omega
   ·rcases Ag.1 hx with rfl|hx
    ·omega
    ·exact h2 x (by simp [hx])
theorem zHh {l:List Int} {a:Int} (hl:l.length≤2000000):Yi (a::l)=some (LX a l):=by
 have key: ∀(n q:Nat) (m:Int),q+n=(a::l).length→AA (fun s:Int × Int=>Px (a::l) s.1 s.2) (m,(q:Int))=some (LX m ((a::l).drop q)):=by
  intro n
  induction n with
  |zero=>intro q m hq;rw [List.drop_eq_nil_of_le (by omega)];refine Dw ?_;show Px (a::l) m q=_;unfold Px;rw [if_neg (by rw [decide_eq_true_eq];omega)];rfl
  |succ n ih=>
   intro q m hq;have Ak:q<(a::l).length:=by omega
   have DI:(a::l).length=l.length+1:=An;have e:Px (a::l) m q=some (.inl ((bif decide ((a::l)[q]>m)then(a::l)[q]else m),((q+1:Nat):Int))):=by unfold Px;rw [if_pos (decide_eq_true (by omega)),AR Ak,Aa,Bx Ak (by omega)]
   rw [DM (body:=fun s:Int × Int=>Px (a::l) s.1 s.2) e,ih (q+1) _ (by omega),List.drop_eq_getElem_cons Ak];rfl
 unfold Yi;rw [if_neg (by rw [decide_eq_true_eq,An];omega),show getI (a::l) 0=some a from rfl,Aa];exact key l.length 1 a (by rw [An];omega)
theorem zHu {l:List Int} {a:Int} (hl:l.length≤2000000):Yl (a::l)=some (LV a l):=by
 have key: ∀(n q:Nat) (m:Int),q+n=(a::l).length→AA (fun s:Int × Int=>Pw (a::l) s.1 s.2) (m,(q:Int))=some (LV m ((a::l).drop q)):=by
  intro n
  induction n with
  |zero=>intro q m hq;rw [List.drop_eq_nil_of_le (by omega)];refine Dw ?_;show Pw (a::l) m q=_;unfold Pw;rw [if_neg (by rw [decide_eq_true_eq];omega)];rfl
  |succ n ih=>
   intro q m hq;have Ak:q<(a::l).length:=by omega
   have DI:(a::l).length=l.length+1:=An;have e:Pw (a::l) m q=some (.inl ((bif decide ((a::l)[q]<m)then(a::l)[q]else m),((q+1:Nat):Int))):=by unfold Pw;rw [if_pos (decide_eq_true (by omega)),AR Ak,Aa,Bx Ak (by omega)]
   rw [DM (body:=fun s:Int × Int=>Pw (a::l) s.1 s.2) e,ih (q+1) _ (by omega),List.drop_eq_getElem_cons Ak];rfl
 unfold Yl;rw [if_neg (by rw [decide_eq_true_eq,An];omega),show getI (a::l) 0=some a from rfl,Aa];exact key l.length 1 a (by rw [An];omega)
theorem zDa {s:Ar} (hl:s.bp.length≤2000000) (h1:1≤s.bp.length) (hb: ∀y∈s.bp,0≤y∧y≤3):Vd s=some (Fi s.bp):=by
 unfold Vd;generalize s.bp=l at hl h1 hb;cases l with
 |nil=>simp at h1
 |cons a l=>
  rw [An]at hl;rw [zHh (by omega),zHu (by omega),Aa,Aa];obtain⟨x1,x2⟩:=vE l a;obtain⟨n1,n2⟩:=uM l a;have b1:=hb _ x1;have b2:=hb _ n1;have w:IntKind.i64.wrap (LX a l-LV a l)=LX a l-LV a l:=A8 (by omega) (by omega);rw [w];congr 1;unfold Fi;rw [Bool.eq_iff_iff];simp only [decide_eq_true_eq,AG,Bool.not_eq_true',decide_eq_false_iff_not];constructor
  ·intro h x hx y hy;have:=x2 x hx;have:=n2 y hy;omega
  ·intro h;have:=h _ x1 _ n1;omega
theorem zyB {s:Ar} {a:D4} (hS:D6 s) (hg:Cc s) (hA:FC a.ax) (B1:I7 s a): ∃r,Sg s a=some r∧Vs s a=some r:=by
 obtain⟨r,k1,k2,hn⟩:=P5 hS hg hA B1;unfold Sg Vs;rw [k1,k2,Aa,Aa];by_cases h:r.2=true
 ·rw [if_pos h,if_pos h];have h3:=B7.1 hn.bq.2.2.2.2.1;have hw:=hn.bq.2.1;have hb: ∀y∈r.1.bp,0≤y∧y≤3:=fun y hy=>by
   have:=hn.bq.2.2.2.2.2.1 y hy;omega
  have hl:=hn.small.at_;rw [zyQ hl hb,zDa hl (by omega) hb,Aa,Aa];obtain⟨q,q1,q2⟩:=zAZ hn.small hn.bq;by_cases hc:Fi r.1.bp=true
  ·rw [if_pos hc,if_pos hc,q1,q2];exact⟨q,rfl,rfl⟩
  ·rw [if_neg hc,if_neg hc];exact⟨_,rfl,rfl⟩
 ·rw [if_neg h,if_neg h];exact⟨_,rfl,rfl⟩
theorem E3 {t:Ad} {n:Af} (h:BX t n=true):EJ t n (CS t n)∧Bi t n=(CS t n).aq∧CS t n∈t.ah∧0≤Bi t n∧Bi t n≤3∧A0 t=true:=by obtain⟨x,hx,e,h0,h3,hg⟩:=Ku h;rw [wF hx];exact⟨hx,e,rM hx.at_,by omega,by omega,hg⟩
theorem qQ {n:Af}: ∀l:List Aq,BC (fun x:Aq=>x.ab==n) l=BC (· ==n) (l.map (·.ab))
 | []=>rfl
 |x::l=>by rw [List.map_cons,NT,NT,qQ l]
theorem zFe (t:Ad) (n:Af) (k c:Int):BP (CH t k c) n=BP t n:=by unfold BP;rw [qQ,qQ,VW]
theorem vW {t:Ad} {n:Af} {c:Int} (h:BX t n=true):CS (CH t (BP t n) c) n={CS t n with aq:=c}:=by
 have hx:=(E3 h).1;have hl:=(N6 hx.at_).2.2;have h0:=(N6 hx.at_).1;have hk:(BP t n).toNat<t.ah.length:=by have:BC (fun y:Aq=>y.ab==n) t.ah=BP t n:=rfl;rw [this]at hl h0;omega
 unfold CS;rw [zFe];unfold CH;dsimp only;rw [List.getElem?_set_self hk];rfl
theorem rY {t:Ad} {n:Af} {c:Int} (h:BX t n=true):Bi (CH t (BP t n) c) n=c:=by have:Bi (CH t (BP t n) c) n=(CS (CH t (BP t n) c) n).aq:=rfl;rw [this,vW h]
theorem zFZ {t:Ad} {n:Af} {b:Int} (h:BX t n=true):(way t (BP t n) (Bi t n) b).map (fun w=>Bi w n)=Bi t n::Fj 3 (Bi t n) b:=by
 unfold way;rw [List.map_cons,List.map_map];congr 1
 conv=>rhs;rw [←List.map_id (Fj 3 (Bi t n) b)]
 exact List.map_congr_left fun c _=>rY h
def wZ (a b i j:Nat):Bool:=match((a:Int)::Fj 3 a b)[i]?,((a:Int)::Fj 3 a b)[j]? with
 |some x,some y=>decide (x≤y+1)
 |_,_=>true
theorem zDS: ∀a b i j:Fin 4,i.val≤j.val+1→j.val≤i.val+1→wZ a.val b.val i.val j.val=true:=by decide
theorem zz1 {a b:Int} (QC:0≤a) (TM:a≤3) (HY:0≤b) (Gu:b≤3) {i j:Nat} (hi:i<4) (hj:j<4) (h1:i≤j+1) (h2:j≤i+1) {x y:Int}
  (hx:(a::Fj 3 a b)[i]?=some x) (hy:(a::Fj 3 a b)[j]?=some y):x≤y+1:=by
 have h:=zDS ⟨a.toNat,by omega⟩ ⟨b.toNat,by omega⟩ ⟨i,hi⟩ ⟨j,hj⟩ h1 h2;unfold wZ at h;dsimp only at h;rw [Int.toNat_of_nonneg QC,Int.toNat_of_nonneg HY,hx,hy]at h;simpa using h
theorem zHo {s:Ar} (hg:Cc s) {y:Int} (h0:0≤y) (h1:y≤(s.aj.length:Int)-1): ∃t,getI s.aj y=some t∧t∈s.aj∧y.toNat<4∧
  (Bi (AT s) s.ab::Fj 3 (Bi (AT s) s.ab) (Bi (Il s) s.ab))[y.toNat]?=some (Bi t s.ab):=by
 obtain⟨t,e,ht,e2⟩:=Kt (xs:=s.aj) h0 (by omega);have hI:=hg.2.2.1 _ (Jm (s:=s) hg.1).2;have h4:=hg.2.1;refine⟨t,e,ht,by omega, ?_⟩;rw [←zFZ hI,List.getElem?_map];have hw:way (AT s) (BP (AT s) s.ab) (Bi (AT s) s.ab) (Bi (Il s) s.ab)=s.aj:=hg.2.2.2.1.symm;rw [hw,e2];rfl
theorem oQ {s:Ar} (hg:Cc s) {u:Int} (h:u∈Cj s): ∃y t,y∈s.bp∧getI s.aj y=some t∧t∈s.aj∧u=Bi t s.ab∧y.toNat<4∧0≤y∧
  (Bi (AT s) s.ab::Fj 3 (Bi (AT s) s.ab) (Bi (Il s) s.ab))[y.toNat]?=some u:=by
 obtain⟨y,hy,rfl⟩:=List.mem_map.1 h;have hb:=hg.2.2.2.2.2.1 y hy;obtain⟨t,e,ht,h4,e2⟩:=zHo hg hb.1 hb.2;refine⟨y,t,hy,e,ht, ?_,h4,hb.1, ?_⟩<;>rw [e]
 ·rfl
 ·exact e2
theorem zw4 {s:Ar} (hg:Cc s) (hc:Fi s.bp=true): ∀p∈Cj s,∀q∈Cj s,p≤q+1:=by intro p hp q hq;obtain⟨y,_,hy,_,_,_,y4,y0,e1⟩:=oQ hg hp;obtain⟨z,_,hz,_,_,_,z4,z0,e2⟩:=oQ hg hq;unfold Fi at hc;have c1:=AG.1 (AG.1 hc y hy) z hz;have c2:=AG.1 (AG.1 hc z hz) y hy;simp only [Bool.not_eq_true',decide_eq_false_iff_not]at c1 c2;have f:=E3 (hg.2.2.1 _ (Jm (s:=s) hg.1).2);have l:=E3 (hg.2.2.1 _ (rB (s:=s) hg.1 hg.2.1).2);exact zz1 f.2.2.2.1 f.2.2.2.2.1 l.2.2.2.1 l.2.2.2.2.1 y4 z4 (by omega) (by omega) e1 e2
theorem zB3 {s:Ar} (hg:Cc s): ∀p∈Cj s,0≤p∧p≤3:=by intro p hp;obtain⟨_,t,_,_,ht,rfl,_⟩:=oQ hg hp;have f:=E3 (hg.2.2.1 t ht);exact⟨f.2.2.2.1,f.2.2.2.2.1⟩
theorem zFT {st:List Int} (h: ∀p∈st,0≤p∧p≤3) (hn: ∀p∈st,∀q∈st,p≤q+1) {u:Int} (hu:u∈st):FV st=0∧u≤1∨FV st=1∧1≤u∨FV st=2∧2≤u:=by
 have h1:=h u hu;unfold FV;by_cases k3:st.contains 3=true
 ·rw [if_pos k3];have:=hn 3 (by simpa using k3) u hu;omega
 ·rw [if_neg k3];by_cases k0:st.contains 0=true
  ·rw [if_pos k0];have:=hn u hu 0 (by simpa using k0);omega
  ·rw [if_neg k0];have:u≠0:=fun e=>k0 (by rw [←e];simpa using hu);omega
theorem zuk {t t':Ad} {n:Af} {x x':Aq} {lv:Int} {st:List Ab} (h1:t.ab=t'.ab) (h2:t.ar=t'.ar) (h3:x.bm=x'.bm):holds t n x lv st=holds t' n x' lv st:=by cases t;cases t';cases x;cases x';dsimp only at h1 h2 h3;subst h1;subst h2;subst h3;rfl
theorem pZ {s:Ar} (hg:Cc s) {t:Ad} (ht:t∈s.aj):t.ab=(AT s).ab∧t.ar=(AT s).ar∧(CS t s.ab).bm=(CS (AT s) s.ab).bm:=by
 have hI:=hg.2.2.1 _ (Jm (s:=s) hg.1).2;rw [hg.2.2.2.1]at ht;rcases Ag.1 ht with rfl|ht
 ·exact⟨rfl,rfl,rfl⟩
 ·obtain⟨c,_,rfl⟩:=List.mem_map.1 ht;refine⟨rfl,rfl, ?_⟩;rw [vW hI]
theorem zy1 {s:Ar} {a:D4} (hS:D6 s) (hg:Cc s) (hA:FC a.ax) (B1:I7 s a) (h0:a.bd=0): ∃y t,getI s.bp a.a6=some y∧getI s.aj y=some t∧t∈s.aj∧HH t a.ax=true∧
  GQ s a=some (⟨s.ab,s.aj,s.bp,(Bb s.ao (D9 t a.ax)).1⟩,(Bb s.ao (D9 t a.ax)).2):=by
 obtain⟨y,t,e1,e2,ht,Fb⟩:=B1.act h0;have hI:=hg.2.2.1 t ht;have G1:=Ie hI;have hc:=Jp G1;have QB:=hS.way t ht;have Xa:=wJ hA Fb;have hR:=hg.2.2.2.2.2.2;obtain⟨ol,oo⟩:=zyE G1 Fb;refine⟨y,t,e1,e2,ht,Fb, ?_⟩;have hD:VR t s.ao a.ax=some ((Bb s.ao (D9 t a.ax)).1,(Bb s.ao (D9 t a.ax)).2,true):=by
  have bS:VH t a.ax=some true:=by unfold VH;rw [KZ QB,Aa,G1,if_pos rfl,oN (by omega) hA,Fb];rfl
  unfold VR;rw [bS,Aa,if_pos rfl,Mn hS.store,Aa,hR,if_neg (by simp),wU QB G1 Xa,Aa,XK ol oo hR];rfl
 unfold GQ;rw [Qe hS,Aa,if_neg (by simp [h0]),e1,Aa,e2,Aa,hD];rfl
theorem vZ {s:Ar} {a:D4} (hS:D6 s) (hg:Cc s) (hA:FC a.ax) (B1:I7 s a) {r:Ar × Bool} (hr:GQ s a=some r):Sg s a=some (r.2&&(Fi r.1.bp&&GU r.1)):=by
 obtain⟨r',k1,k2,hn⟩:=P5 hS hg hA B1;rw [hr]at k1;cases k1;unfold Sg;rw [hr,Aa];by_cases h:r.2=true
 ·rw [if_pos h];have hw:=hn.bq.2.1;have hb: ∀y∈r.1.bp,0≤y∧y≤3:=fun y hy=>by
   have:=hn.bq.2.2.2.2.2.1 y hy;omega
  rw [zyQ hn.small.at_ hb,Aa,(qL hn.small hn.bq).1,h];cases Fi r.1.bp<;>rfl
 ·rw [if_neg h];rw [Bool.not_eq_true]at h;rw [h];rfl
theorem zt4 {s:Ar} {a:D4} (hS:D6 s) (hg:Cc s) (hA:FC a.ax) (B1:I7 s a) {r:Ar × Bool} (hr:GQ s a=some r) (hh:GU s=true) (hc:Fi s.bp=true)
  (hm:a.bd≠0→Fi r.1.bp=true∧GU r.1=true):Fi r.1.bp=true∧GU r.1=true:=by
 by_cases h0:a.bd=0
 ·obtain⟨y,t,e1,e2,ht,Fb,e⟩:=zy1 hS hg hA B1 h0;rw [hr]at e;cases e;refine⟨hc, ?_⟩;have hI:=hg.2.2.1 t ht;have f:=E3 hI;have hu:Bi t s.ab∈Cj s:=by
   refine List.mem_map.2 ⟨y,rM e1, ?_⟩;rw [e2];rfl
  have hk:=zFT (zB3 hg) (zw4 hg hc) hu;rw [f.2.1]at hk;have A:=vK f.2.2.2.2.2 f.2.2.1 f.1.name Fb;obtain⟨w1,w2,w3⟩:=pZ hg ht;unfold GU at hh;rw [←zuk w1 w2 w3]at hh;have hd:=zAe A hg.2.2.2.2.2.2 hk hh;rw [zuk w1 w2 w3]at hd;exact hd
 ·exact hm h0
def Ok (t:Ad) (st:List Ab):List Ab:=st.filter (Cq t)
theorem NQ {t:Ad} {st:List Ab} {w:Ab}:w∈Ok t st↔w∈st∧Cq t w=true:=List.mem_filter
theorem N4 (t:Ad) (st:List Ab):rows t st=(Ok t st).map BQ:=rfl
theorem PY {t:Ad} {st:List Ab} (h:CZ st):CZ (Ok t st):=Ec.filter h _
theorem zvG {l:List Ab} {w:Ab} (h: ∀y∈l,y.af≠w.af):(Bg wk w l).length=l.length+1:=by
 induction l with
 |nil=>rfl
 |cons y l ih=>
  rw [Bg];split
  ·rfl
  ·split
   ·rename_i e;exact absurd e.symm (h y (by simp))
   ·rw [An,ih fun z hz=>h z (by simp [hz]),An]
theorem zwm {l:List Ab} {w:Ab} (hl:CZ l) (h: ∃y∈l,y.af=w.af):(Bg wk w l).length=l.length:=by
 induction l with
 |nil=>obtain⟨y,hy,_⟩:=h;simp at hy
 |cons y l ih=>
  obtain⟨r1,r2⟩:=SB hl;obtain⟨z,hz,e⟩:=h;rw [Bg];split
  ·rename_i hb;exfalso;rcases Ag.1 hz with rfl|hz
   ·exact FE hb e.symm
   ·exact FE (FQ hb (r1 z hz)) e.symm
  ·split
   ·rfl
   ·rename_i A5;rw [An,An,ih r2];rcases Ag.1 hz with rfl|hz
    ·exact absurd e.symm A5
    ·exact⟨z,hz,e⟩
theorem zxa {l:List Ab} {k:Af} (hl:CZ l) (h: ∃y∈l,y.af=k):(l.filter fun w=>w.af !=k).length+1=l.length:=by
 induction l with
 |nil=>obtain⟨y,hy,_⟩:=h;simp at hy
 |cons y l ih=>
  obtain⟨r1,r2⟩:=SB hl;rw [List.filter_cons];by_cases hy:y.af=k
  ·rw [if_neg (by simp [hy]),List.filter_eq_self.2 fun z hz=>by
    have:=FE (r1 z hz);rw [hy]at this;simpa using fun e=>this e.symm]
   rfl
  ·rw [if_pos (by simpa using hy),An,An];obtain⟨z,hz,e⟩:=h;rcases Ag.1 hz with rfl|hz
   ·exact absurd e hy
   ·have:=ih r2 ⟨z,hz,e⟩;omega
structure UU (t:Ad) (a:Bv) (st st':List Ab):Prop where
 act:Fo t a
 pd:Qi t a st st'
 b8:CZ st
 oe:CZ st'
 gone: ∀w∈st,w.bh=false
 ahead:XO t a st
section
variable {t:Ad} {a:Bv} {st st':List Ab} (H:UU t a st st')
include H
theorem UU.jc (k:a.ak≠2):Ok t st'=Bg wk (AO t a.bw) (Ok t st):=by
 refine Ec.ext (key:=wk) (PY H.oe) (V8 (PY H.b8)) fun y=> ?_;rw [SQ (PY H.b8),NQ,NQ,H.pd y];have A1:=H.act.jy k;constructor
 ·rintro⟨⟨hg,h|⟨h1,h2⟩⟩,h3⟩
  ·exact .inl (H.act.ea h h3).1
  ·exact .inr ⟨⟨h1,h3⟩,fun e=>h2 _ A1 e.symm⟩
 ·rintro(rfl|⟨⟨h1,h2⟩,h3⟩)
  ·exact⟨⟨rfl, .inl A1⟩,gR H.act.tab (H.act.new k)⟩
  ·refine⟨⟨H.gone y h1, .inr ⟨h1,fun w hw e=> ?_⟩⟩,h2⟩;have Pf:=H.act.gr hw h2 e;apply h3;rw [←e];by_cases k1:a.ak=1
   ·exact H.act.ia k1 Pf
   ·have k3:a.ak=3:=by rcases H.act.kind with h|h|h;exact absurd h k1;exact absurd h k;exact h
    show w.af=(AO t a.bw).af;rw [H.act.gl k1 Pf,IM,IM,H.act.same k3]
theorem UU.j9 (k:a.ak=2):Ok t st'=(Ok t st).filter fun w=>w.af !=(AO t a.br).af:=by
 refine Ec.ext (key:=wk) (PY H.oe) (Ec.filter (PY H.b8) _) fun y=> ?_;rw [List.mem_filter,NQ,NQ,H.pd y];constructor
 ·rintro⟨⟨hg,h|⟨h1,h2⟩⟩,h3⟩
  ·exact absurd k (H.act.ea h h3).2
  ·obtain⟨u,u1,u2⟩:=H.act.ff (show a.ak≠1 by omega);refine⟨⟨h1,h3⟩, ?_⟩;have:=h2 u u1;rw [u2]at this;simpa using fun e=>this e.symm
 ·rintro⟨⟨h1,h2⟩,h3⟩;refine⟨⟨H.gone y h1, .inr ⟨h1,fun w hw e=> ?_⟩⟩,h2⟩;have Pf:=H.act.gr hw h2 e;have:=H.act.gl (show a.ak≠1 by omega) Pf;rw [e]at this;simp [this]at h3
theorem UU.fresh {r:AI} (h1:r∈rows t st') (h2:r∉rows t st):r=a.bw∧a.ak≠2:=by
 rw [N4,List.mem_map]at h1;obtain⟨q,hq,rfl⟩:=h1;obtain⟨Gg,EF⟩:=NQ.1 hq;obtain⟨_,h|⟨h3,_⟩⟩:=(H.pd q).1 Gg
 ·obtain⟨e,k⟩:=H.act.ea h EF;exact⟨by rw [e,SN H.act.tab (H.act.new k)],k⟩
 ·exact absurd (by rw [N4,List.mem_map];exact⟨q,NQ.2 ⟨h3,EF⟩,rfl⟩) h2
theorem UU.rows_len:(a.ak=1→(rows t st').length=(rows t st).length+1)∧(a.ak=2→(rows t st').length+1=(rows t st).length)∧(a.ak=3→(rows t st').length=(rows t st).length):=by
 have hold:a.ak≠1→AO t a.br∈Ok t st:=fun k=>NQ.2 ⟨H.ahead.2 k,gR H.act.tab (H.act.old k)⟩;refine⟨fun k=> ?_,fun k=> ?_,fun k=> ?_⟩
 ·rw [N4,N4,List.length_map,List.length_map,H.jc (by omega),zvG fun y hy=>H.ahead.1 k y (NQ.1 hy).1]
 ·rw [N4,N4,List.length_map,List.length_map,H.j9 k];exact zxa (PY H.b8) ⟨_,hold (by omega),rfl⟩
 ·rw [N4,N4,List.length_map,List.length_map,H.jc (by omega)];refine zwm (PY H.b8) ⟨_,hold (by omega), ?_⟩;rw [IM,IM,H.act.same k]
end
theorem uZ (t:Ad) (k c:Int) (j:Nat): ∃s,((CH t k c).ah[j]?).getD ⟨[],0,0⟩={((t.ah[j]?).getD ⟨[],0,0⟩)with aq:=s}∧(s=((t.ah[j]?).getD ⟨[],0,0⟩).aq∨s=c):=by
 unfold CH;dsimp only;rw [List.getElem?_set];split
 ·rename_i h;subst h;split
  ·exact⟨c,rfl, .inr rfl⟩
  ·rename_i h2;rw [List.getElem?_eq_none (by omega)];exact⟨0,rfl, .inl rfl⟩
 ·exact⟨_,rfl, .inl rfl⟩
theorem zC5 {t:Ad} {k c:Int} (h:A0 t=true) (hc:Bw c 0 3=true):A0 (CH t k c)=true:=by
 have hl:(CH t k c).ah.length=t.ah.length:=by unfold CH;simp
 unfold A0 at h ⊢;simp only [Ae]at h ⊢;obtain⟨⟨⟨h1,h2⟩,h3⟩,h4⟩:=h;refine⟨⟨⟨h1,h2⟩,by rw [hl];exact h3⟩, ?_⟩;rw [hl];rw [AG]at h4 ⊢;intro i hi;have hq:=h4 i hi;unfold HO at hq ⊢;obtain⟨s,e,hs⟩:=uZ t k c i;obtain⟨s',e',_⟩:=uZ t k c (i-1);dsimp only at hq ⊢;rw [e,e'];simp only [Ae]at hq ⊢;refine⟨⟨⟨hq.1.1.1,hq.1.1.2⟩, ?_⟩,hq.2⟩;rcases hs with rfl|rfl
 ·exact hq.1.2
 ·exact hc
theorem sI {t:Ad} {n:Af} {c:Int} (h:BX t n=true) (hc:Bw c 0 3=true):BX (CH t (BP t n) c) n=true:=by unfold BX at h ⊢;rw [Ae]at h ⊢;exact⟨zC5 h.1 hc,by rw [zwU (n:=n) (VW t (BP t n) c)];exact h.2⟩
theorem zBQ: ∀(n:Nat) {c:Az} {p:Ad × Az},Jt n c=some p→p.1.ah≠ []→PB c=U5 p.2.az p.2.cc p.2.a8 p.1.ab p.1.ar p.1.ah:=by
 have stop: ∀{p:Ad × Az},p.1.ah≠ []→AA (fun s:List Int × Int × Int × Ac × List (Ac) × List Aq=>Q9 s.1 s.2.1 s.2.2.1 s.2.2.2.1 s.2.2.2.2.1 s.2.2.2.2.2) (p.2.az,p.2.cc,p.2.a8,p.1.ab,p.1.ar,p.1.ah)=U5 p.2.az p.2.cc p.2.a8 p.1.ab p.1.ar p.1.ah:=by intro p hp;refine Dw ?_;show Q9 p.2.az p.2.cc p.2.a8 p.1.ab p.1.ar p.1.ah=_;unfold Q9;have:0<p.1.ah.length:=List.length_pos_iff.2 hp;rw [if_neg (by simp;omega)]
 intro n
 induction n with
 |zero=>intro c p h A5;unfold PB;rw [show Jh c=some p from h,Aa];exact stop A5
 |succ n ih=>
  intro c p h A5;unfold Jt at h;obtain⟨q,hq,h⟩:=Hc h;split at h
  ·rename_i h0;have he:q.1.ah= []:=List.eq_nil_of_length_eq_zero h0;obtain⟨r,hr⟩: ∃r,Jh q.2=some r:=by
    cases n with
    |zero=>exact⟨p,h⟩
    |succ n=>unfold Jt at h;obtain⟨r,hr,_⟩:=Hc h;exact⟨r,hr⟩
   rw [←ih h A5];unfold PB;rw [hq,Aa,hr,Aa];refine DM ?_;show Q9 q.2.az q.2.cc q.2.a8 q.1.ab q.1.ar q.1.ah=_;unfold Q9;rw [if_pos (by rw [he];rfl),show(⟨q.2.az,q.2.cc,q.2.a8⟩:Az)=q.2 from rfl,hr,Aa]
  ·cases h;unfold PB;rw [hq,Aa];exact stop A5
structure JF (n:Nat) (s:Ar):Prop where
 name:s.ab.length≤10
 ways:s.aj.length≤4+n
 least:n=0→1≤s.aj.length
 way: ∀t∈s.aj,A0 t=true
 at_:s.bp.length≤3+n
 pw:s.ao.length≤80+n
 store:On s.ao
theorem JF.small {n:Nat} {s:Ar} (h:JF n s) (hn:n≤10):D6 s:=⟨by have:=h.name;omega,by have:=h.ways;omega,fun t ht=>F8 (h.way t ht),by have:=h.at_;omega,h.store.small⟩
theorem zAM {a b:Int} (QC:0≤a) (TM:a≤3) (HY:0≤b) (Gu:b≤3):(a=b∧Fj 3 a b= [])∨ ∃l,Fj 3 a b=l++ [b]:=by
 have h1:a=0∨a=1∨a=2∨a=3:=by omega
 have h2:b=0∨b=1∨b=2∨b=3:=by omega
 rcases h1 with rfl|rfl|rfl|rfl<;>rcases h2 with rfl|rfl|rfl|rfl<;>first|exact .inl ⟨rfl,rfl⟩|exact .inr ⟨[],rfl⟩|exact .inr ⟨[_],rfl⟩|exact .inr ⟨[_,_],rfl⟩
theorem zyh {t:Ad} {n:Af} {b:Int} {ats:List Int} {l:List Ab} (h:BX t n=true) (HY:0≤b) (Gu:b≤3):way t (BP t n) (Bi t n) b=Ea ⟨n,way t (BP t n) (Bi t n) b,ats,l⟩:=by
 have f:=E3 h;have key:Bi (Il ⟨n,way t (BP t n) (Bi t n) b,ats,l⟩) n=b:=by
  unfold Il way;rcases zAM f.2.2.2.1 f.2.2.2.2.1 HY Gu with⟨e1,e2⟩|⟨k,e2⟩
  ·rw [e2];exact e1
  ·rw [e2];have:((t::(k++ [b]).map (CH t (BP t n)))[(t::(k++ [b]).map (CH t (BP t n))).length-1]?).getD LQ=CH t (BP t n) b:=by
    simp
   rw [this];exact zCh h
 unfold Ea;rw [key];rfl
theorem qO {t:Ad} {n:Af} {b:Int} (h:BX t n=true) (HY:0≤b) (Gu:b≤3): ∀w∈way t (BP t n) (Bi t n) b,BX w n=true:=by
 intro w hw;have f:=E3 h;rcases Ag.1 hw with rfl|hw
 ·exact h
 ·obtain⟨c,hc,rfl⟩:=List.mem_map.1 hw;have:=rK 3 f.2.2.2.1 f.2.2.2.2.1 HY Gu c hc;exact sI h (B7.2 this)
theorem zsb {t:Ad} {n:Af} {stage srv:Int} {l:List Ab} (h:BX t n=true) (hn:n.length≤10) (QQ:0≤stage) (Fw:stage≤3) (h1:1≤srv) (h2:srv≤3) (hl:Js l):
  RR t n stage srv l=some (if BS l=true then(⟨n,way t (BP t n) (Bi t n) stage,List.replicate srv.toNat 0,l⟩,true)else(⟨[], [], [], []⟩,false)):=by
 have hg:=Ie h;have hS:=F8 hg;have f:=E3 h;have hk:BC (fun x:Aq=>x.ab==n) t.ah≥0:=by unfold BX at h;rw [Ae,decide_eq_true_eq]at h;exact h.2
 have Fs:NH t n stage=some true:=by unfold NH;rw [KZ hS,Aa,if_pos hg,IS hS,Aa,if_pos (decide_eq_true hk),Gm,Aa,B7.2 ⟨QQ,Fw⟩]
 unfold RR;rw [Fs,Aa,if_pos rfl,Gm,Aa,if_pos (B7.2 ⟨h1,h2⟩),Mn hl,Aa];by_cases hr:BS l=true
 ·have hw:=qO h QQ Fw;have hlen:(way t (BP t n) (Bi t n) stage).length≤4:=by
   unfold way;have:=ZW 3 (Bi t n) stage;rw [An,List.length_map];omega
  rw [if_neg (by simp [hr]),if_pos hr,gP hS f.1 (by rw [←f.2.1];exact f.2.2.2.1) (by rw [←f.2.1];exact f.2.2.2.2.1) QQ Fw,Aa,AP (by omega)];have e:way t (BC (fun y:Aq=>y.ab==n) t.ah) (CS t n).aq stage=way t (BP t n) (Bi t n) stage:=by rw [f.2.1];rfl
  rw [e,Qe (s:=⟨n,way t (BP t n) (Bi t n) stage,List.replicate srv.toNat 0,l⟩) ⟨by dsimp only;omega,by dsimp only;omega,fun t ht=>F8 (Ie (hw t ht)),by dsimp only;rw [List.length_replicate];omega,hl⟩];rfl
 ·rw [if_pos (by simpa using hr),if_neg hr]
structure Tv (t:Ad) (n:Af) (rs:List Ab) (v:Ar):Prop where
 name:v.ab.length≤10
 ways:v.aj.length≤4
 way: ∀w∈v.aj,BX w v.ab=true
 at_:v.bp.length≤3
 some_:1≤v.aj.length
 pq:v.aj=Ea v
 pz:1≤v.bp.length
 store:Dh 5 v.ao
theorem Tv.bq {t:Ad} {n:Af} {rs:List Ab} {v:Ar} (hI:Tv t n rs v) {ats:List Int} (KG:ats.length=v.bp.length) (hb: ∀z∈ats,0≤z∧z≤(v.aj.length:Int)-1) {l:List Ab} (hl:Dh 24 l):Cc ⟨v.ab,v.aj,ats,l⟩:=by
 have h1:=hI.at_;have h2:=hI.pz;have h3:=hl.len;refine⟨hI.some_,hI.ways,hI.way,hI.pq,B7.2 ⟨?_, ?_⟩,hb, ?_⟩
 ·dsimp only;omega
 ·dsimp only;omega
 ·dsimp only;rw [Zy hl.b8 hl.bq hl.live];exact decide_eq_true (by omega)
theorem zvQ [Inhabited CQ] {t:Ad} {n:Af} {rs:List Ab} {v11:List Ab × Az} {v:Ar × Bool} {ats:List Int} {c:Az} {k:Int} {l:List Ab} (hI:Tv t n rs v.1) (Ep:Dh 20 v11.1) (KG:ats.length=v.1.bp.length) (hb: ∀z∈ats,0≤z∧z≤(v.1.aj.length:Int)-1) (hl:Dh 24 l) (h:Bu c k) (hk:k≤4611686018427300000):
  BA (jK v11 v ats c.az c.cc c.a8 l) fun p=>(JF 0 p.1∧Cc p.1)∧Bu p.2 (k+10):=by
 unfold jK;have hw:=hI.ways;have ha:=hI.at_;refine(Lg 7 (c:=⟨c.az,c.cc,c.a8⟩) h (by omega)).bind fun u hu=> .ite (fun _=> .ret ⟨⟨⟨hI.name,by dsimp only;omega,fun _=>hI.some_,fun t ht=>Ie (hI.way t ht),by dsimp only;omega,by have:=Ep.len;dsimp only;omega,Ep.mg (by omega)⟩,hI.bq KG hb (Ep.mono (by omega))⟩,hu.up (by omega)⟩) fun _=> .ret ⟨⟨⟨hI.name,by dsimp only;omega,fun _=>hI.some_,fun t ht=>Ie (hI.way t ht),by dsimp only;omega,by have:=hl.len;dsimp only;omega,hl.mg (by omega)⟩,hI.bq KG hb hl⟩,hu.up (by omega)⟩
theorem zwD [Inhabited CQ] {t:Ad} {y:Aq} {v11:List Ab × Az} {rs:List Ab} {v:Ar × Bool} {ats:List Int} {c:Az} {k:Int} (ht:BX t y.ab=true) (DK:Dh 5 rs) (hI:Tv t y.ab rs v.1) (Ep:Dh 20 v11.1) (KG:ats.length=v.1.bp.length) (hb: ∀z∈ats,0≤z∧z≤(v.1.aj.length:Int)-1) (h:Bu c k) (hk:k≤4611686018427200000):
  BA (jI y t v11 rs v c.az c.cc c.a8 ats) fun p=>(JF 0 p.1∧Cc p.1)∧Bu p.2 (k+200):=by
 have hg:=Ie ht;have hS:=F8 hg;have f:=E3 ht;have hn:y.ab.length≤10:=by have:=(NM (show CJ y.ab 1=true by rw [←f.1.name];exact(E2 hg f.2.2.1).1)).1;omega
 have hlen:=DK.len;have hatl:=hI.at_;have Ds:=hI.name;unfold jI;have AW: ∀z∈ats,∃tb x,getI v.1.aj z=some tb∧tb∈v.1.aj∧EJ tb v.1.ab x∧Bi tb v.1.ab=x.aq:=fun z hz=>by obtain⟨tb,q1,q2,_⟩:=Kt (hb z hz).1 (by have:=(hb z hz).2;omega:z<v.1.aj.length);obtain⟨x,q3,q4,_⟩:=Ku (hI.way tb q2);exact⟨tb,x,q1,q2,q3,q4⟩
 have OZ:(ats.map fun z=>Bi ((getI v.1.aj z).getD LQ) v.1.ab).length=ats.length:=by simp
 have n1:=vL (s:=⟨v.1.ab,v.1.aj,ats,v.1.ao⟩) (st:=ats.map fun z=>Bi ((getI v.1.aj z).getD LQ) v.1.ab) OZ (by rw [OZ];omega) fun i hi=>by
  have EE:i<ats.length:=by omega
  obtain⟨tb,x,q1,q2,q3,q4⟩:=AW _ (List.getElem_mem EE);refine⟨ats[i],tb,_,x,AR EE,q1,IS (F8 (Ie (hI.way _ q2))),q3.at_, ?_⟩;simp only [List.getElem_map,q1,Option.getD_some,q4]
 rw [n1,Aa,zv5 hS (by omega) f.1 (by omega) (fun w hw=>Ko (DK.bq w hw)),Aa];have Nd:=ZO t y.ab (CS t y.ab) rs;have tX: ∀z∈wanted t y.ab (CS t y.ab) rs,C3 ⟨z, [],false⟩=true:=fun z hz=>by obtain⟨q,hq,hr,rfl⟩:=PZ.1 hz;refine Wh (V3 hg ?_ (Gb hr).1) (by decide);rw [←f.1.name];exact(E2 hg f.2.2.1).1
 generalize wanted t y.ab (CS t y.ab) rs=W at Nd tX;generalize FV _=nd;refine Ma (fun m s=> ∃i:Nat,s.1=(i:Int)∧i+m=W.length∧Dh (5+i) s.2.2.2.2∧Bu ⟨s.2.1,s.2.2.1,s.2.2.2.1⟩ (k+2*i)) (fun m s hJ=> ?_) (n:=W.length) (by exact⟨0,rfl,by omega,hI.store,by simpa using h⟩);obtain⟨i,e1,e2,hT,ho⟩:=hJ;obtain⟨s1,a,b,e,l⟩:=s;dsimp only at e1 hT ho ⊢;subst e1;have DI:=hT.len;unfold yO;refine .ite (fun Ak=> ?_) fun ES=> ?_
 ·simp only [decide_eq_true_eq]at Ak;have hi:i<W.length:=by omega
  have w1:IntKind.i64.wrap ((i:Int)+1)=((i+1:Nat):Int):=by rw [A8 (by omega) (by omega)];omega
  have F1:=S5 hT (tX _ (List.getElem_mem hi)) rfl;have FL:=Mq (l:=l) (w:=⟨W[i], [],false⟩) (by omega) hT.b8;rw [AR hi,Aa];refine .ite (fun _=> .ite (fun _=> ?_) fun hf=>by cases hf) fun _=> .ite (fun _=> ?_) fun _=> .ite (fun hf=>by cases hf) fun _=> .ret ⟨m-1,by omega,i+1,w1,by omega,hT.mono (by omega),ho.up (by omega)⟩
  ·rw [FL,Aa];exact .ret ⟨m-1,by omega,i+1,w1,by omega,F1.mono (by omega),ho.up (by omega)⟩
  ·refine(Lg 2 ho (by omega)).bind fun u hu=> .ite (fun _=> ?_) fun _=> .ret ⟨m-1,by omega,i+1,w1,by omega,hT.mono (by omega),hu.up (by omega)⟩;rw [FL,Aa];exact .ret ⟨m-1,by omega,i+1,w1,by omega,F1.mono (by omega),hu.up (by omega)⟩
 ·exact .ret ((zvQ (c:=⟨a,b,e⟩) hI Ep KG hb (hT.mono (by omega)) ho (by omega)).mono fun p hp=>⟨hp.1,hp.2.up (by omega)⟩)
theorem zvO [Inhabited CQ] {t:Ad} {y:Aq} {v11:List Ab × Az} {rs:List Ab} {k:Int} (ht:BX t y.ab=true) (DK:Dh 5 rs) (hrg:BS rs=true) (Ep:Dh 20 v11.1) (h:Bu v11.2 k) (hk:k≤4611686018427100000):
  BA (jJ y t v11 rs) fun p=>(JF 0 p.1∧Cc p.1)∧Bu p.2 (k+400):=by
 unfold jJ;have hg:=Ie ht;have f:=E3 ht;have hn:y.ab.length≤10:=by have:=(NM (show CJ y.ab 1=true by rw [←f.1.name];exact(E2 hg f.2.2.1).1)).1;omega
 refine(Gk 4 h (by omega)).bind fun p ⟨hp,hc⟩=>(Gk 3 hc (by omega)).bind fun r ⟨hr,hd⟩=> ?_;have p2:=hp.2.1 (by omega);have r2:=hr.2.1 (by omega);have hW:Js rs:=(DK.mg (by omega)).small;rw [A8 (n:=1+r.1) (by omega) (by omega),zsb ht hn hp.1 (by omega) (by omega) (by omega) hW,Aa,if_pos hrg];have hI:Tv t y.ab rs ((⟨y.ab,way t (BP t y.ab) (Bi t y.ab) p.1,List.replicate (1+r.1).toNat 0,rs⟩:Ar),true).1:=by
  have hw:=qO ht hp.1 (by omega);have hlen:(way t (BP t y.ab) (Bi t y.ab) p.1).length≤4∧1≤(way t (BP t y.ab) (Bi t y.ab) p.1).length:=by unfold way;have:=ZW 3 (Bi t y.ab) p.1;rw [An,List.length_map];omega
  exact⟨hn,hlen.1,hw,by dsimp only;rw [List.length_replicate];omega,hlen.2,zyh ht hp.1 (by omega),by dsimp only;rw [List.length_replicate];omega,DK⟩
 have hz: ∀z∈((⟨y.ab,way t (BP t y.ab) (Bi t y.ab) p.1,List.replicate (1+r.1).toNat 0,rs⟩:Ar),true).1.bp,z=0:=fun z hz=>(List.mem_replicate.1 hz).2;generalize ((⟨y.ab,way t (BP t y.ab) (Bi t y.ab) p.1,List.replicate (1+r.1).toNat 0,rs⟩:Ar),true)=v at hI hz;have GK:=hI.some_;have hws:=hI.ways;have KG:=hI.at_;refine(Gk _ hd (by omega)).bind fun g ⟨tL,he⟩=> ?_;refine Ma (fun m s=> ∃i:Nat,s.1=(i:Int)∧i+m=v.1.bp.length∧s.2.2.2.2.length=v.1.bp.length∧(∀z∈s.2.2.2.2,0≤z∧z≤(v.1.aj.length:Int)-1)∧Bu ⟨s.2.1,s.2.2.1,s.2.2.2.1⟩ (k+6+10*i)) (fun m s hJ=> ?_) (n:=v.1.bp.length) (by refine⟨0,rfl,by omega,rfl,fun z Ng=> ?_,he.up (by omega)⟩;rw [hz z Ng];omega)
 obtain⟨i,e1,e2,hl,hb,ho⟩:=hJ;obtain⟨s1,a,b,e,ats⟩:=s;dsimp only at e1 hl hb ho ⊢;subst e1;unfold yP;refine .ite (fun Ak=> ?_) fun ES=> ?_
 ·simp only [decide_eq_true_eq]at Ak;have hi:i<v.1.bp.length:=by omega
  have QI:i<ats.length:=by omega
  have hg3:=tL.2.2;have hg4:=tL.2.1 (by omega);have w1:IntKind.i64.wrap ((i:Int)+1)=((i+1:Nat):Int):=by rw [A8 (by omega) (by omega)];omega
  refine(Gk 2 ho (by omega)).bind fun u ⟨hu,hf⟩=> ?_;have u2:=hu.2.1 (by omega);obtain⟨z,ez,z0,z1⟩: ∃z,Y1 (IntKind.i64.wrap (g.1+u.1)) (IntKind.i64.wrap ((v.1.aj.length:Int)-1))=some z∧0≤z∧z≤(v.1.aj.length:Int)-1:=by
   rw [A8 (by omega) (by omega),A8 (by omega) (by omega)];unfold Y1;split
   ·rename_i hh;rw [decide_eq_true_eq]at hh;exact⟨_,rfl,by omega,by omega⟩
   ·exact⟨_,rfl,by omega,by omega⟩
  rw [ez,Aa,AR QI,Aa];have J5: ∀{x:Int} {l:List Int} {j:Nat},(∀z∈l,0≤z∧z≤(v.1.aj.length:Int)-1)→0≤x→x≤(v.1.aj.length:Int)-1→ ∀z∈l.set j x,0≤z∧z≤(v.1.aj.length:Int)-1:=by
   intro x l j h0 h1 h2 z hz;rcases List.mem_or_eq_of_mem_set hz with hz|rfl
   ·exact h0 z hz
   ·exact⟨h1,h2⟩
  refine(Lg 9 hf (by omega)).bind fun o Uo=> .ite (fun _=> ?_) fun _=> .ret ⟨m-1,by omega,i+1,w1,by omega,by rw [List.length_set];exact hl,J5 hb z0 z1,Uo.up (by omega)⟩;refine(Gk _ Uo (by omega)).bind fun q ⟨hq,hh⟩=> .ret ⟨m-1,by omega,i+1,w1,by omega,by rw [List.length_set,List.length_set];exact hl,J5 (J5 hb z0 z1) hq.1 (by have:=hq.2.1 (by omega);omega),hh.up (by omega)⟩
 ·exact .ret ((zwD (c:=⟨a,b,e⟩) ht DK hI Ep hl hb ho (by omega)).mono fun p hp=>⟨hp.1,hp.2.up (by omega)⟩)
theorem zwX [Inhabited CQ] {t:Ad} {c:Az} {k:Int} (hg:A0 t=true) (A5:t.ah≠ []) (h:Bu c k) (hk:k≤4611686018427000000):
  BA (U5 c.az c.cc c.a8 t.ab t.ar t.ah) fun p=>(JF 0 p.1∧Cc p.1)∧Bu p.2 (k+2000):=by
 unfold U5;have hS:=F8 hg;have O5:0<t.ah.length:=List.length_pos_iff.2 A5;have hm:=List.getElem_mem O5;rw [show getI t.ah 0=some t.ah[0]from AR O5,Aa];refine(Gk 4 (c:=⟨c.az,c.cc,c.a8⟩) h (by omega)).bind fun p ⟨hp,hc⟩=> ?_;have p2:=hp.2.1 (by omega);have hI:BX t t.ah[0].ab=true:=by unfold BX;have:=P7 (fun y:Aq=>y.ab==t.ah[0].ab) t.ah;rw [show(t.ah.any fun y=>y.ab==t.ah[0].ab)=true from List.any_eq_true.2 ⟨_,hm,by simp⟩]at this;rw [hg,this];rfl
 rw [show(⟨t.ab,t.ar,t.ah⟩:Ad)=t from rfl,bF hS (aA hg hm),Aa];have ek:CH t (BC (fun y:Aq=>y.ab==t.ah[0].ab) t.ah) p.1=CH t (BP t t.ah[0].ab) p.1:=rfl;rw [ek];have Qy:=sI (c:=p.1) hI (B7.2 ⟨hp.1,by omega⟩);generalize t.ah[0]=y at Qy;generalize CH t (BP t y.ab) p.1=t' at Qy;have Cm:=Ie Qy;have s9:=F8 Cm;refine(zDr Cm hc (by omega)).bind fun l ⟨⟨hl,Lu⟩,hd⟩=> ?_;have DI:=hl.len;rw [SI s9.name (by omega) (fun w hw=>Ko (hl.bq w hw)),Aa];have hR:(rows t' l.1).length≤5:=by unfold rows;rw [List.length_map];exact Lu
 have Iu: ∀r∈rows t' l.1,Bf t' r=true:=fun r hr=>P0 hr;generalize rows t' l.1=R at hR Iu;refine Ma (fun m s=> ∃i:Nat,s.2=(i:Int)∧i+m=R.length∧Dh i s.1) (fun m s hJ=> ?_) (n:=R.length) (by exact⟨0,rfl,by omega,⟨⟨.nil,by simp,by simp⟩,by simp⟩⟩);obtain⟨i,e1,e2,hT⟩:=hJ;obtain⟨ws,s1⟩:=s;dsimp only at e1 hT ⊢;subst e1;have Nd:=hT.len;unfold yN;refine .ite (fun Ak=> ?_) fun ES=> ?_
 ·simp only [decide_eq_true_eq]at Ak;have hi:i<R.length:=by omega
  have w1:IntKind.i64.wrap ((i:Int)+1)=((i+1:Nat):Int):=by rw [A8 (by omega) (by omega)];omega
  have Eg:=Iu _ (List.getElem_mem hi);obtain⟨hs,h2⟩:=Sv Cm Eg;have A5:R[i].aw≠ []:=fun e=>by rw [e]at h2;simp at h2
  have hw:=P2 Cm Eg;rw [AR hi,Aa,Mr s9.name hs.small A5,Aa,Mq (by omega) hT.b8,Aa];exact .ret ⟨m-1,by omega,i+1,w1,by omega,S5 hT (w:=AO t' R[i]) (Wh hw.1 hw.2) rfl⟩
 ·exact .ret ((zvO Qy (hT.mono (by omega)) (by rw [Zy hT.b8 hT.bq hT.live];exact decide_eq_true (by omega)) hl hd (by omega)).mono fun p hp=>⟨hp.1,hp.2.up (by omega)⟩)
def UW:Int:=3000000000000000
theorem zA2 [Inhabited CQ] {c:Az} {k:Int} (h:Bu c k) (hs:sd c) (hl:(c.az.length:Int)≤1048576) (hk:k≤1000000000000000000):BA (PB c) fun p=>(JF 0 p.1∧Cc p.1)∧Bu p.2 (k+UW):=by
 have TR:=h.2.1;have hm:QW=70368744177664:=rfl;obtain⟨p,hp,hg,A5⟩:=(zwl (1048576+QW) h (by omega)).and (zrm 1048576 QW h (by omega) hs (by omega) fun h1 h2 h3=>zzq h1 (by omega) h3);rw [zBQ _ hp A5];refine(zwX hg.1 A5 hg.2 (by omega)).mono fun q hq=>⟨hq.1,hq.2.up ?_⟩
 unfold UW;omega
theorem zuK [Inhabited CQ] {c:Az} {k:Int} (h:Bu c k) (hs:sd c) (hl:(c.az.length:Int)≤1048576) (hk:k≤1000000000000000000):BA (Yb c) fun p=>JF 1 p.1∧Bu p.2 (k+UW+100):=by
 unfold Yb;have hf:UW=3000000000000000:=rfl;refine(zA2 h hs hl hk).bind fun s ⟨⟨hS,_⟩,hc⟩=>(Gk 14 hc (by omega)).bind fun q ⟨_,hd⟩=> ?_;have h1:=hS.ways;have h2:=hS.at_;have h3:=hS.store.len;have h4:=hS.pw;refine .ite (fun _=> ?_) fun _=> .ite (fun _=> ?_) fun _=> .ite (fun _=> ?_) fun _=> .ite (fun _=> ?_) fun _=> .ite (fun _=> .ret ⟨⟨hS.name,by simp,by simp,by simp,by dsimp only;omega,by dsimp only;omega,hS.store⟩,hd.up (by omega)⟩) fun _=> .ite (fun _=> ?_) fun _=> .ret ⟨⟨hS.name,by dsimp only;omega,by simp,hS.way,by dsimp only;omega,by dsimp only;omega,hS.store⟩,hd.up (by omega)⟩
 ·refine(Gk 6 hd (by omega)).bind fun u ⟨_,he⟩=> .req (by simp;omega) (.ret ⟨⟨hS.name,by dsimp only;omega,by simp,hS.way,by simp;omega,by dsimp only;omega,hS.store⟩,he.up (by omega)⟩)
 ·refine(Wj hd (by omega)).bind fun u ⟨hu,he⟩=> .req (by simp;omega) (.ret ⟨⟨hS.name,by simp;omega,by simp,fun t ht=> ?_,by dsimp only;omega,by dsimp only;omega,hS.store⟩,he.up (by omega)⟩);dsimp only at ht;rcases Ai.1 ht with ht|ht
  ·exact hS.way t ht
  ·rw [List.mem_singleton.1 ht];exact hu
 ·refine(Tp _ (by simp) hd (by omega)).bind fun u ⟨hu,he⟩=> .ret ⟨⟨?_,by dsimp only;omega,by simp,hS.way,by dsimp only;omega,by dsimp only;omega,hS.store⟩,he.up (by omega)⟩;simp only [Ag,List.not_mem_nil,or_false]at hu;dsimp only;rcases hu with e|e<;>rw [e]<;>decide
 ·refine .req (by simp;omega) (.ret ⟨⟨hS.name,by dsimp only;omega,by simp,hS.way,by dsimp only;omega,by simp;omega,⟨by simp;omega,fun w hw=> ?_⟩⟩,hd.up (by omega)⟩);dsimp only at hw;rcases Ai.1 hw with hw|hw
  ·exact hS.store.each w hw
  ·rw [List.mem_singleton.1 hw];exact⟨by decide,by decide⟩
 ·have h5:=hS.least rfl;refine .req (by omega) (.ret ⟨⟨hS.name, ?_,by simp,fun t ht=> ?_,by dsimp only;omega,by dsimp only;omega,hS.store⟩,hd.up (by omega)⟩)
  ·dsimp only;unfold Bk;rw [List.length_drop,List.length_take];omega
  ·dsimp only at ht;unfold Bk at ht;exact hS.way t (List.mem_of_mem_take (List.mem_of_mem_drop ht))
theorem VY:D6 MK:=⟨by simp [MK],by simp [MK],by simp [MK],by simp [MK],⟨by simp [MK],by simp [MK]⟩⟩
theorem Li.refl {s:Ar} (hS:D6 s) (hg:Cc s):Li s s:=⟨hg,hS,rfl,rfl,rfl⟩
theorem Li.trans {s r q:Ar} (h:Li s r) (k:Li r q):Li s q:=⟨k.bq,k.small,k.name.trans h.name,k.ways.trans h.ways,k.at_.trans h.at_⟩
theorem zzN (m:Nat):Fi (List.replicate m (0:Int))=true:=by unfold Fi;rw [AG];intro x hx;rw [AG];intro y hy;rw [(List.mem_replicate.1 hx).2,(List.mem_replicate.1 hy).2];rfl
theorem zvk {t:Ad} {n:Af} {stage srv:Int} {l:List Ab} (hS:Dk t) (hl:Js l): ∃r,RR t n stage srv l=some r∧YP t n stage srv l=some r∧D6 r.1∧(r.2=true→Cc r.1∧Fi r.1.bp=true):=by
 have zero:(MK:Ar)=⟨[], [], [], []⟩:=rfl;have Fs:NH t n stage=some (BX t n&&Bw stage 0 3):=by
  unfold NH BX;rw [KZ hS,Aa];cases G1:A0 t with
  |false=>rfl
  |true=>
   rw [if_pos rfl,IS hS,Aa,Gm];by_cases h:BC (fun x:Aq=>x.ab==n) t.ah≥0
   ·rw [if_pos (decide_eq_true h),decide_eq_true h];rfl
   ·rw [if_neg (by simpa using h),decide_eq_false h];rfl
 have J8:R9 stage=some (Bw stage 0 3):=by unfold R9;rw [Jo];rfl
 unfold RR YP nA;rw [Fs,sQ hS,Aa,Aa,J8,Aa,Gm,Jo,Mn hl,sM hl];by_cases hh:BX t n=true
 ·rw [hh,if_pos rfl];by_cases hb:Bw stage 0 3=true
  ·have EA:=B7.1 hb;have hg:=Ie hh;have f:=E3 hh;have hw:=qO hh EA.1 EA.2;have hn:=(NM (show CJ n 1=true by rw [←f.1.name];exact(E2 hg f.2.2.1).1)).1;have hlen:(way t (BP t n) (Bi t n) stage).length≤4∧1≤(way t (BP t n) (Bi t n) stage).length:=by
    unfold way;have:=ZW 3 (Bi t n) stage;rw [An,List.length_map];omega
   have e:way t (BC (fun y:Aq=>y.ab==n) t.ah) (CS t n).aq stage=way t (BP t n) (Bi t n) stage:=by rw [f.2.1];rfl
   have g1:0≤(CS t n).aq:=by rw [←f.2.1];exact f.2.2.2.1
   have g2:(CS t n).aq≤3:=by rw [←f.2.1];exact f.2.2.2.2.1
   rw [hb];simp only [Bool.and_self,Bool.not_true,AX,if_true,if_false,w6 hS f.1 g1 g2 EA.1 EA.2,Aa,e];by_cases hs:Bw srv 1 3=true
   ·have A6:=B7.1 hs;rw [if_pos hs,if_pos hs];by_cases hr:BS l=true
    ·rw [if_neg (by simp [hr]),if_neg (by simp [hr]),gP hS f.1 g1 g2 EA.1 EA.2,Aa,AP (by omega),AP (by omega),e];have tA:D6 ⟨n,way t (BP t n) (Bi t n) stage,List.replicate srv.toNat 0,l⟩:=⟨by dsimp only;omega,by dsimp only;omega,fun t ht=>F8 (Ie (hw t ht)),by dsimp only;rw [List.length_replicate];omega,hl⟩
     have hc:L1 l=some l:=Mi (by have:=hl.1;omega) (by have:=hl.1;omega);rw [Qe tA,hc,Aa,Aa];refine⟨_,rfl,rfl,tA,fun _=>⟨⟨hlen.2,hlen.1,hw,zyh hh EA.1 EA.2,B7.2 ⟨?_, ?_⟩,fun y hy=> ?_,hr⟩,zzN _⟩⟩
     ·dsimp only;rw [List.length_replicate];omega
     ·dsimp only;rw [List.length_replicate];omega
     ·dsimp only at hy ⊢;rw [(List.mem_replicate.1 hy).2];have:=hlen.2;omega
    ·rw [if_pos (by simpa using hr),if_pos (by simpa using hr)];exact⟨_,rfl,rfl,VY,fun h=>by cases h⟩
   ·rw [if_neg hs,if_neg hs];exact⟨_,rfl,rfl,VY,fun h=>by cases h⟩
  ·rw [Bool.not_eq_true]at hb;rw [hb];exact⟨_,rfl,rfl,VY,fun h=>by cases h⟩
 ·rw [Bool.not_eq_true]at hh;rw [hh];exact⟨_,rfl,rfl,VY,fun h=>by cases h⟩
structure zIC (s:Ar) (g:Bool):Prop where
 gi:L5 s=some g
 hi:VO s=some (if g=true then(GU s,true)else(false,false))
 ci:zr3 s=some (if g=true then(Fi s.bp,true)else(false,false))
 bq:g=true↔Cc s
def A2:List BU→Nat→Nat→List Ab→Af→List Ab × Nat × Af
 | [],_,n,st,last=>(st,n,last)
 |_::_,0,n,st,last=>(st,n,last)
 |k::ks,m+1,n,st,last=>if(Bb st k.cd).2=true then A2 ks m (n+1) (Bb st k.cd).1 k.ay else(st,n,last)
def Lf (k:BU):Prop:=k.cd.length≤8∧ ∀o∈k.cd,Gs o
theorem zip: ∀(ks:List BU) (m n:Nat) {st:List Ab} {last:Af},(∀k∈ks,Lf k)→BS st=true→BS (A2 ks m n st last).1=true
 | [],_,_,_,_,_,h=>by simpa [A2]using h
 |_::_,0,_,_,_,_,h=>by simpa [A2]using h
 |k::ks,m+1,n,st,last,hk,h=>by
  unfold A2;split
  ·exact zip ks m (n+1) (fun k h=>hk k (by simp [h])) (Mj (hk k (by simp)).1 (hk k (by simp)).2 h)
  ·exact h
theorem ztJ {f:AY} {many:Nat} {rest:List BU} (hl:rest.length≤2000000) (hm:many≤24) (ho: ∀k∈rest,Lf k): ∀(m q:Nat) (st:List Ab) (last:Af),q+m=rest.length→BS st=true→
  AA (fun s:List Ab × Int × Ac=>KW f many rest s.1 s.2.1 s.2.2) (st,(q:Int),last)=YY f rest (A2 (rest.drop q) (many-q) q st last).1 ((A2 (rest.drop q) (many-q) q st last).2.1:Int) (A2 (rest.drop q) (many-q) q st last).2.2
 |0,q,st,last,hq,hg=>by
  have hd:rest.drop q= []:=List.drop_eq_nil_of_le (by omega);rw [hd];refine Dw ?_;show KW f many rest st q last=_;unfold KW;rw [if_neg (by
   rw [decide_eq_true_eq];cases h:decide ((rest.length:Int)<many)with
   |true=>simp only [cond_true];omega
   |false=>simp only [cond_false];rw [decide_eq_false_iff_not]at h;omega)]
  rfl
 |m+1,q,st,last,hq,hg=>by
  have Ak:q<rest.length:=by omega
  have hd:rest.drop q=rest[q]::rest.drop (q+1):=List.drop_eq_getElem_cons Ak;by_cases hqm:q<many
  ·have hc:(q:Int)<(bif decide ((rest.length:Int)<many)then(rest.length:Int)else(many:Int)):=by
    cases h:decide ((rest.length:Int)<many)with
    |true=>simp only [cond_true];omega
    |false=>simp only [cond_false];omega
   obtain⟨h8,Uo⟩:=ho _ (List.getElem_mem Ak);have AN:=zw3 h8 Uo hg;have OT:many-q=(many-(q+1))+1:=by omega
   rw [hd,OT];unfold A2;by_cases KH:(Bb st rest[q].cd).2=true
   ·rw [if_pos KH];refine(DM (?_:KW f many rest st q last=some (.inl ((Bb st rest[q].cd).1,((q+1:Nat):Int),rest[q].ay)))).trans (ztJ hl hm ho m (q+1) _ _ (by omega) (Mj h8 Uo hg));unfold KW;rw [if_pos (decide_eq_true hc),AR Ak,Aa,AN,Aa,if_neg (by simp [KH]),Bx Ak (by omega)]
   ·rw [if_neg KH];refine Dw ?_;show KW f many rest st q last=_;unfold KW;rw [if_pos (decide_eq_true hc),AR Ak,Aa,AN,Aa,if_pos (by simpa using KH)]
  ·have OT:many-q=0:=by omega
   rw [hd,OT];refine Dw ?_;show KW f many rest st q last=_;unfold KW;rw [if_neg (by
    rw [decide_eq_true_eq];cases h:decide ((rest.length:Int)<many)with
    |true=>rw [decide_eq_true_eq]at h;simp only [cond_true];omega
    |false=>simp only [cond_false];omega)]
   rfl
def behind (last k:Af):Bool:= !(Op.bytesLess k last||k==last)
theorem zyP {ks:List BU} {st:List Ab} {f:AY} {many:Int} (hl:ks.length≤2000000) (hk: ∀k∈ks,Lf k) (hg:BS st=true) (h1:1≤many) (h2:many≤24):
  NK ks st f many=some ((A2 (ks.filter fun k=>behind f.al k.ay) many.toNat 0 st f.al).1,⟨(A2 (ks.filter fun k=>behind f.al k.ay) many.toNat 0 st f.al).2.2,f.bf||((A2 (ks.filter fun k=>behind f.al k.ay) many.toNat 0 st f.al).2.1==(ks.filter fun k=>behind f.al k.ay).length)⟩):=by
 have hc:iX ks=some ks:=Mi (by omega) (by omega);have hp: ∀k∈ks,Y5 k f=some (Op.bytesLess k.ay f.al||k.ay==f.al):=fun k _=>rfl;have hD:Jj ks (fun y0_=>Y5 y0_ f)=some (ks.filter fun k=>behind f.al k.ay):=by unfold Jj;rw [AP (by omega),Zz _ hp];rfl
 unfold NK;rw [hc,Aa,hD,Aa];generalize hr:(ks.filter fun k=>behind f.al k.ay)=rest;have Je:rest.length≤ks.length:=by rw [←hr];exact List.length_filter_le _ _
 have Hx: ∀k∈rest,Lf k:=fun k h=>by rw [←hr]at h;exact hk k (List.mem_filter.1 h).1
 obtain⟨m,rfl⟩:=Int.eq_ofNat_of_zero_le (show 0≤many by omega);have e:=ztJ (f:=f) (many:=m) (rest:=rest) (by omega) (by omega) Hx rest.length 0 st f.al (by omega) hg;rw [List.drop_zero,Nat.sub_zero]at e;refine e.trans ?_;rw [Int.toNat_natCast];have Eg:=zip rest m 0 (last:=f.al) Hx hg;generalize A2 rest m 0 st f.al=r at Eg;unfold YY;have hR:=(DR Eg).1.len;have AF:L1 r.1=some r.1:=Mi (by omega) (by omega);have e2:(((r.2.1:Nat):Int)==((rest.length:Nat):Int))=(r.2.1==rest.length):=by rw [Bool.eq_iff_iff,beq_iff_eq,beq_iff_eq];omega
 rw [AF,Aa,e2]
theorem HG (last k:Af):behind last k=bl last k:=by unfold behind;rw [aO,Bool.not_not]
def E4:List BU→Nat→List Ab→Af→List Ab × Af
 | [],_,st,last=>(st,last)
 |k::ks,m,st,last=>if m=0∨behind last k.ay=false then E4 ks m st last else if(Bb st k.cd).2=true then E4 ks (m-1) (Bb st k.cd).1 k.ay else(st,last)
theorem ztU: ∀(ks:List BU) (st:List Ab) (last:Af),E4 ks 0 st last=(st,last)
 | [],_,_=>rfl
 |k::ks,st,last=>by unfold E4;rw [if_pos (.inl rfl)];exact ztU ks st last
theorem zyI: ∀(ks:List BU) (m n:Nat) (st:List Ab) (last:Af),ks.Pairwise (fun a b=>bl a.ay b.ay=true)→(∀k∈ks,behind last k.ay=true)→E4 ks m st last=((A2 ks m n st last).1,(A2 ks m n st last).2.2)
 | [],m,n,st,last,_,_=>by simp [E4,A2]
 |k::ks,0,n,st,last,_,_=>by rw [ztU];simp [A2]
 |k::ks,m+1,n,st,last,hr,hb=>by
  rw [List.pairwise_cons]at hr;unfold E4 A2;rw [if_neg (by rw [hb k (by simp)];simp)];by_cases hd:(Bb st k.cd).2=true
  ·rw [if_pos hd,if_pos hd,Nat.add_sub_cancel];exact zyI ks m (n+1) _ _ hr.2 fun q hq=>by rw [HG];exact hr.1 q hq
  ·rw [if_neg hd,if_neg hd]
theorem zqo: ∀(ks:List BU) (m:Nat) (st:List Ab) (last:Af),ks.Pairwise (fun a b=>bl a.ay b.ay=true)→E4 ks m st last=E4 (ks.filter fun k=>behind last k.ay) m st last
 | [],m,st,last,_=>rfl
 |k::ks,m,st,last,hr=>by
  rw [List.pairwise_cons]at hr;by_cases hb:behind last k.ay=true
  ·have Ck:ks.filter (fun k=>behind last k.ay)=ks:=List.filter_eq_self.2 fun q hq=>by
    rw [HG]at hb ⊢;exact FQ hb (hr.1 q hq)
   rw [List.filter_cons_of_pos (by simpa using hb),Ck]
  ·rw [List.filter_cons_of_neg (by simpa using hb)];have:E4 (k::ks) m st last=E4 ks m st last:=by
    rw [E4,if_pos (.inr (by simpa using hb))]
   rw [this];exact zqo ks m st last hr.2
theorem ztH {ks:List BU} {m:Nat} {st:List Ab} {last:Af} (hr:ks.Pairwise (fun a b=>bl a.ay b.ay=true)):E4 ks m st last=((A2 (ks.filter fun k=>behind last k.ay) m 0 st last).1,(A2 (ks.filter fun k=>behind last k.ay) m 0 st last).2.2):=
 (zqo ks m st last hr).trans (zyI _ m 0 st last (hr.filter _) fun k hk=>by simpa using(List.mem_filter.1 hk).2)
theorem rI: ∀(ks:List BU) (m n:Nat) (st:List Ab) (last:Af),n≤(A2 ks m n st last).2.1∧(A2 ks m n st last).2.1≤n+ks.length
 | [],m,n,st,last=>by simp [A2]
 |k::ks,0,n,st,last=>by simp [A2]
 |k::ks,m+1,n,st,last=>by
  unfold A2;split
  ·have:=rI ks m (n+1) (Bb st k.cd).1 k.ay;simp only [An];omega
  ·simp
theorem Zv: ∀(ks:List BU) (m n:Nat) (st:List Ab) (last:Af),ks.Pairwise (fun a b=>bl a.ay b.ay=true)→(∀k∈ks,bl last k.ay=true)→ ∀(i:Nat) (h:i<ks.length),bl (A2 ks m n st last).2.2 ks[i].ay=decide ((A2 ks m n st last).2.1≤n+i)
 | [],_,_,_,_,_,_,i,h=>by simp at h
 |k::ks,0,n,st,last,_,hb,i,h=>by simp only [A2];rw [hb _ (List.getElem_mem h)];exact(decide_eq_true (by omega)).symm
 |k::ks,m+1,n,st,last,hr,hb,i,h=>by
  rw [List.pairwise_cons]at hr;unfold A2;split
  ·cases i with
   |zero=>
    have h1:=rI ks m (n+1) (Bb st k.cd).1 k.ay;rw [decide_eq_false (by omega)];have key: ∀(ks:List BU) (m n:Nat) (st:List Ab) (last:Af),ks.Pairwise (fun a b=>bl a.ay b.ay=true)→(∀q∈ks,bl last q.ay=true)→(A2 ks m n st last).2.2=last∨bl last (A2 ks m n st last).2.2=true:=by
     intro ks
     induction ks with
     |nil=>intro m n st last _ _;left;simp [A2]
     |cons q ks ih=>
      intro m n st last hr hb;rw [List.pairwise_cons]at hr;cases m with
      |zero=>left;simp [A2]
      |succ m=>
       unfold A2;split
       ·rcases ih m (n+1) (Bb st q.cd).1 q.ay hr.2 hr.1 with e|e
        ·rw [e];exact .inr (hb q (by simp))
        ·exact .inr (FQ (hb q (by simp)) e)
       ·left;rfl
    show bl _ k.ay=false;rcases key ks m (n+1) (Bb st k.cd).1 k.ay hr.2 hr.1 with e|e
    ·rw [e];cases EA:bl k.ay k.ay with
     |false=>rfl
     |true=>exact absurd rfl (FE EA)
    ·cases EA:bl (A2 ks m (n+1) (Bb st k.cd).1 k.ay).2.2 k.ay with
     |false=>rfl
     |true=>exact absurd rfl (FE (FQ e EA))
   |succ i=>have:=Zv ks m (n+1) (Bb st k.cd).1 k.ay hr.2 hr.1 i (by simpa using h);rw [List.getElem_cons_succ,this];congr 1;rw [eq_iff_iff];omega
  ·rw [hb _ (List.getElem_mem h)];exact(decide_eq_true (show n≤n+i by omega)).symm
def HM (ks:List BU) (f:AY) (m:Nat) (st:List Ab):List Ab × AY:=((A2 (ks.filter fun k=>behind f.al k.ay) m 0 st f.al).1,⟨(A2 (ks.filter fun k=>behind f.al k.ay) m 0 st f.al).2.2,f.bf||((A2 (ks.filter fun k=>behind f.al k.ay) m 0 st f.al).2.1==(ks.filter fun k=>behind f.al k.ay).length)⟩)
def A4 (t:Ad) (x:Aq) (r:AI):BU:=⟨(AO t r).af, [⟨7,(AO t r).af,(AO t r).a7,0⟩,⟨2,By t x.ab x.bm r, [],0⟩]⟩
def BW (k:Af):BU:=⟨k, [⟨3,k, [],0⟩]⟩
theorem Wo {t:Ad} {x:Aq} {r:AI} (hg:A0 t=true) (hx:x∈t.ah) (hr:Bf t r=true):Lf (A4 t x r):=by
 have h1:=P2 hg hr;have h2:=V3 (n:=x.ab) (c:=x.bm) hg (E2 hg hx).1 hr;refine⟨by simp [A4],fun o ho=> ?_⟩;simp only [A4,Ag,List.not_mem_nil,or_false]at ho;rcases ho with rfl|rfl
 ·exact⟨h1.1,h1.2,rfl,by simp,by simp⟩
 ·exact⟨h2,show Gl ([]:Af)=true by decide,rfl,by simp,by simp⟩
theorem V6 {k:Af} (h:Am k=true):Lf (BW k):=by refine⟨by simp [BW],fun o ho=> ?_⟩;simp only [BW,Ag,List.not_mem_nil,or_false]at ho;subst ho;exact⟨h,show Gl ([]:Af)=true by decide,rfl,by simp,by simp⟩
theorem pY {t:Ad} {x:Aq} {f:AY} {R:List AI} (hg:A0 t=true) (hx:x∈t.ah) (hl:R.length≤2000000) (hR: ∀r∈R,Bf t r=true): ∀(m q many:Nat) (st:List Ab) (last:Af),q+m=R.length→many≤24→BS st=true→
  AA (fun s:Int × Int × Ac × List Ab=>L2 t f x R s.1 s.2.1 s.2.2.1 s.2.2.2) ((many:Int),(q:Int),last,st)=RE t f (E4 ((R.drop q).map (A4 t x)) many st last).2 (E4 ((R.drop q).map (A4 t x)) many st last).1
 |0,q,many,st,last,hq,hm,AW=>by rw [List.drop_eq_nil_of_le (show R.length≤q by omega)];refine Dw ?_;show L2 t f x R many q last st=_;unfold L2;rw [if_neg (by rw [decide_eq_true_eq];omega)];rfl
 |m+1,q,many,st,last,hq,hm,AW=>by
  have Ak:q<R.length:=by omega
  have hr:=hR _ (List.getElem_mem Ak);have hS:=F8 hg;obtain⟨hs,h2⟩:=Sv hg hr;have A5:R[q].aw≠ []:=fun e=>by rw [e]at h2;simp at h2
  obtain⟨e1,_⟩:=nK hg hx hr;have ho:=Wo hg hx hr;have KH:=XK ho.1 ho.2 AW;have e2:lY t x R[q]=some (A4 t x R[q]).cd:=by unfold lY;rw [Mr hS.name hs.small A5,Aa,e1,Aa];rfl
  have hw:=Bx Ak (by omega);have DL:L2 t f x R many q last st=(if(((many:Int)==0)||(Op.bytesLess (A4 t x R[q]).ay last||(A4 t x R[q]).ay==last))=true then some (.inl ((many:Int),((q+1:Nat):Int),last,st))else if(Bb st (A4 t x R[q]).cd).2=true then some (.inl (IntKind.i64.wrap ((many:Int)-1),((q+1:Nat):Int),(A4 t x R[q]).ay,(Bb st (A4 t x R[q]).cd).1))else some (.inr (RE t f last st))):=by
   unfold L2;rw [if_pos (decide_eq_true (show(q:Int)<(R.length:Int) by omega)),AR Ak,Aa,Mr hS.name hs.small A5,Aa,e2,Aa,KH,Aa,hw];rw [show(A4 t x R[q]).ay=(AO t R[q]).af from rfl];by_cases hz:((many:Int)==0||(Op.bytesLess (AO t R[q]).af last||(AO t R[q]).af==last))=true
   ·rw [if_pos hz,if_pos hz]
   ·rw [if_neg hz,if_neg hz];by_cases hd:(Bb st (A4 t x R[q]).cd).2=true
    ·rw [if_pos hd,if_neg (by simp [hd])]
    ·rw [if_neg hd,if_pos (by simpa using hd)]
  rw [List.drop_eq_getElem_cons Ak,List.map_cons];unfold E4;by_cases hc:many=0∨behind last (A4 t x R[q]).ay=false
  ·rw [if_pos hc];refine(DM ?_).trans (pY hg hx hl hR m (q+1) many st last (by omega) hm AW);show L2 t f x R many q last st=_;rw [DL,if_pos];unfold behind at hc;rcases hc with hc|hc
   ·subst hc;rfl
   ·have hc:(Op.bytesLess (A4 t x R[q]).ay last||(A4 t x R[q]).ay==last)=true:=by
     cases h:(Op.bytesLess (A4 t x R[q]).ay last||(A4 t x R[q]).ay==last)with
     |true=>rfl
     |false=>rw [h]at hc;simp at hc
    rw [hc,Bool.or_true]
  ·rw [if_neg hc];have JL: ¬(((many:Int)==0)||(Op.bytesLess (A4 t x R[q]).ay last||(A4 t x R[q]).ay==last))=true:=by
    rw [not_or]at hc;obtain⟨c1,c2⟩:=hc;unfold behind at c2;have c2:(Op.bytesLess (A4 t x R[q]).ay last||(A4 t x R[q]).ay==last)=false:=by
     cases h:(Op.bytesLess (A4 t x R[q]).ay last||(A4 t x R[q]).ay==last)with
     |false=>rfl
     |true=>rw [h]at c2;simp at c2
    rw [c2,Bool.or_false,beq_iff_eq];omega
   have OV:0<many:=by
    rcases Nat.eq_zero_or_pos many with h|h
    ·exact absurd (.inl h) hc
    ·exact h
   by_cases hd:(Bb st (A4 t x R[q]).cd).2=true
   ·rw [if_pos hd];have FM:IntKind.i64.wrap ((many:Int)-1)=((many-1:Nat):Int):=by rw [A8 (by omega) (by omega)];omega
    refine(DM ?_).trans (pY hg hx hl hR m (q+1) (many-1) _ _ (by omega) (by omega) (Mj ho.1 ho.2 AW));show L2 t f x R many q last st=_;rw [DL,if_neg JL,if_pos hd,FM]
   ·rw [if_neg hd];refine Dw ?_;show L2 t f x R many q last st=_;rw [DL,if_neg JL,if_neg hd]
theorem u7 {ks:List Af} {last:Af} (hl:ks.length≤2000000):lW ks last=some (ks.any fun k=>behind last k):=by
 have go: ∀(m q:Nat),q+m=ks.length→AA (fun s:Int=>Vp ks last s) (q:Int)=some ((ks.drop q).any fun k=>behind last k):=by
  intro m
  induction m with
  |zero=>intro q hq;rw [List.drop_eq_nil_of_le (show ks.length≤q by omega)];refine Dw ?_;unfold Vp;rw [if_neg (by rw [decide_eq_true_eq];omega)];rfl
  |succ m ih=>
   intro q hq;have Ak:q<ks.length:=by omega
   rw [List.drop_eq_getElem_cons Ak,List.any_cons];by_cases hb:behind last ks[q]=true
   ·rw [hb,Bool.true_or];refine Dw ?_;unfold Vp;rw [if_pos (decide_eq_true (show(q:Int)<(ks.length:Int) by omega)),AR Ak,Aa,if_pos (show(!(Op.bytesLess ks[q] last||ks[q]==last))=true from hb)]
   ·rw [Bool.not_eq_true]at hb;rw [hb,Bool.false_or];refine(DM ?_).trans (ih (q+1) (by omega));unfold Vp;rw [if_pos (decide_eq_true (show(q:Int)<(ks.length:Int) by omega)),AR Ak,Aa,if_neg (show¬(!(Op.bytesLess ks[q] last||ks[q]==last))=true by rw [←Bool.not_eq_true]at hb;exact hb),Bx Ak (by omega)]
 have:=go ks.length 0 (by omega);rw [List.drop_zero]at this;exact this
theorem zAj {t:Ad} {st:List Ab} (hg:A0 t=true) (hl:st.length≤2000000) (hr:Km t st=some (rows t st)):kD t st=some ((rows t st).map fun r=>(AO t r).af):=by
 have hR:=rows_len t st;have Eg: ∀r∈rows t st,Bf t r=true:=fun r h=>P0 h;have hS:=F8 hg;unfold kD;rw [hr,Aa];generalize rows t st=R at hR Eg;have go: ∀(m q:Nat) (o:List Af),q+m=R.length→o.length=q→AA (fun s:List (Ac) × Int=>Rq t R s.1 s.2) (o,(q:Int))=some (o++(R.drop q).map fun r=>(AO t r).af):=by
  intro m
  induction m with
  |zero=>intro q o hq ho;rw [List.drop_eq_nil_of_le (show R.length≤q by omega)];refine Dw ?_;show Rq t R o q=_;unfold Rq;rw [if_neg (by rw [decide_eq_true_eq];omega)];simp
  |succ m ih=>
   intro q o hq ho;have Ak:q<R.length:=by omega
   have hr:=Eg _ (List.getElem_mem Ak);obtain⟨hs,h2⟩:=Sv hg hr;have A5:R[q].aw≠ []:=fun e=>by rw [e]at h2;simp at h2
   rw [List.drop_eq_getElem_cons Ak,List.map_cons];refine(DM (?_:Rq t R o q=some (.inl (o++ [(AO t R[q]).af],((q+1:Nat):Int))))).trans ((ih (q+1) _ (by omega) (by simp [ho])).trans (by simp));unfold Rq;rw [if_pos (decide_eq_true (show(q:Int)<(R.length:Int) by omega)),AR Ak,Aa,Mr hS.name hs.small A5,Aa,AP (by rw [AH];omega),Bx Ak (by omega)]
 have:=go R.length 0 [] (by omega) rfl;rw [List.drop_zero,List.nil_append]at this;exact this
theorem zD3 {t:Ad} {n:Af} {x:Aq} {st:List Ab} (hg:A0 t=true) (hx:EJ t n x) (Pg:x.ab=n) (hn:n.length≤2000000) (hl:st.length≤2000000) (hr:PC t st=some (rows t st)):Vk t n st=some ((rows t st).map (A4 t x)):=by
 have hR:=rows_len t st;have Eg: ∀r∈rows t st,Bf t r=true:=fun r h=>P0 h;have hS:=F8 hg;unfold Vk;rw [hr,Aa];generalize rows t st=R at hR Eg;have go: ∀(m q:Nat) (o:List BU),q+m=R.length→o.length=q→AA (fun s:Int × List BU=>Rh t n R s.1 s.2) ((q:Int),o)=some (o++(R.drop q).map (A4 t x)):=by
  intro m
  induction m with
  |zero=>intro q o hq ho;rw [List.drop_eq_nil_of_le (show R.length≤q by omega)];refine Dw ?_;show Rh t n R q o=_;unfold Rh;rw [if_neg (by rw [decide_eq_true_eq];omega)];simp
  |succ m ih=>
   intro q o hq ho;have Ak:q<R.length:=by omega
   have hr:=Eg _ (List.getElem_mem Ak);obtain⟨hs,h2⟩:=Sv hg hr;have A5:R[q].aw≠ []:=fun e=>by rw [e]at h2;simp at h2
   have eS:Ye t n R[q]=some (A4 t x R[q]).cd:=by unfold Ye;rw [Qc hS.name hs.small A5,Aa,aJ hS hn hx (zue hg hr),Aa];subst Pg;rfl
   rw [List.drop_eq_getElem_cons Ak,List.map_cons];refine(DM (?_:Rh t n R q o=some (.inl (((q+1:Nat):Int),o++ [A4 t x R[q]])))).trans ((ih (q+1) _ (by omega) (by simp [ho])).trans (by simp));unfold Rh;rw [if_pos (decide_eq_true (show(q:Int)<(R.length:Int) by omega)),AR Ak,Aa,Qc hS.name hs.small A5,Aa,eS,Aa,AP (by rw [AH];omega),Bx Ak (by omega)];rfl
 have:=go R.length 0 [] (by omega) rfl;rw [List.drop_zero,List.nil_append]at this;exact this
theorem zBV {t:Ad} {n:Af} {st:List Ab} (hl:st.length≤2000000) (hr:KS t n st=some (Bq t n st)):Rz t n st=some ((Bq t n st).map BW):=by
 have hR:=Sm t n st;unfold Rz;rw [hr,Aa];generalize Bq t n st=R at hR;have go: ∀(m q:Nat) (o:List BU),q+m=R.length→o.length=q→AA (fun s:Int × List BU=>Rg R s.1 s.2) ((q:Int),o)=some (o++(R.drop q).map BW):=by
  intro m
  induction m with
  |zero=>intro q o hq ho;rw [List.drop_eq_nil_of_le (show R.length≤q by omega)];refine Dw ?_;show Rg R q o=_;unfold Rg;rw [if_neg (by rw [decide_eq_true_eq];omega)];simp
  |succ m ih=>
   intro q o hq ho;have Ak:q<R.length:=by omega
   rw [List.drop_eq_getElem_cons Ak,List.map_cons];refine(DM (?_:Rg R q o=some (.inl (((q+1:Nat):Int),o++ [BW R[q]])))).trans ((ih (q+1) _ (by omega) (by simp [ho])).trans (by simp));unfold Rg;rw [if_pos (decide_eq_true (show(q:Int)<(R.length:Int) by omega)),AR Ak,Aa,AP (by rw [AH];omega),Bx Ak (by omega)];rfl
 have:=go R.length 0 [] (by omega) rfl;rw [List.drop_zero,List.nil_append]at this;exact this
theorem oF {t:Ad} {x:Aq} {st:List Ab} (hr:CZ st):((rows t st).map (A4 t x)).Pairwise (fun a b=>bl a.ay b.ay=true):=by unfold rows;rw [List.map_map,List.pairwise_map];refine List.Pairwise.imp_of_mem (fun{a b} ha hb h=> ?_) (List.Pairwise.filter (Cq t) hr);show bl (AO t (BQ a)).af (AO t (BQ b)).af=true;rw [←(Gb (List.mem_filter.1 ha).2).2,←(Gb (List.mem_filter.1 hb).2).2];exact h
theorem zrG {t:Ad} {n:Af} {st:List Ab} (hr:CZ st):((Bq t n st).map BW).Pairwise (fun a b=>bl a.ay b.ay=true):=by unfold Bq;rw [List.map_map,List.pairwise_map];exact(List.Pairwise.filter _ hr).imp fun h=>h
theorem u5 {s:Ar} {st:List Int} (hs:L6 s=some st) (hl:st.length≤2000000):mH s=some (st.all fun y=>decide (y≥2),st.any fun y=>decide (y≥2)):=by
 unfold mH;rw [hs,Aa];have go: ∀(m q:Nat) (a b:Bool),q+m=st.length→AA (fun s:Bool × Bool × Int=>RF st s.1 s.2.1 s.2.2) (a,b,(q:Int))=some (a&&(st.drop q).all (fun y=>decide (y≥2)),b||(st.drop q).any fun y=>decide (y≥2)):=by
  intro m
  induction m with
  |zero=>intro q a b hq;rw [List.drop_eq_nil_of_le (show st.length≤q by omega)];refine Dw ?_;show RF st a b q=_;unfold RF;rw [if_neg (by rw [decide_eq_true_eq];omega)];simp
  |succ m ih=>
   intro q a b hq;have Ak:q<st.length:=by omega
   rw [List.drop_eq_getElem_cons Ak,List.all_cons,List.any_cons,←Bool.and_assoc,←Bool.or_assoc];refine(DM ?_).trans (ih (q+1) _ _ (by omega));show RF st a b q=_;unfold RF;rw [if_pos (decide_eq_true (show(q:Int)<(st.length:Int) by omega)),AR Ak,Aa,Bx Ak (by omega)]
 have:=go st.length 0 true false (by omega);rw [List.drop_zero,Bool.true_and,Bool.false_or]at this;exact this
theorem zG9 {w:AK} {st:List Int} (hn:st.length=w.ae.bp.length) (hl:st.length≤2000000) (hs: ∀(i:Nat) (hi:i<st.length),∃tb,GO w.ae i=some tb∧Kk w.ae tb=some st[i]):Rj w=some ((st.filter fun y=>decide (y≥2)).length:Int):=by
 have go: ∀(m q c:Nat),q+m=st.length→c≤q→AA (fun s:Int × Int=>Nw w s.1 s.2) ((c:Int),(q:Int))=some ((c+((st.drop q).filter fun y=>decide (y≥2)).length:Nat):Int):=by
  intro m
  induction m with
  |zero=>intro q c hq _;rw [List.drop_eq_nil_of_le (show st.length≤q by omega)];refine Dw ?_;show Nw w c q=_;unfold Nw;rw [if_neg (by rw [decide_eq_true_eq];omega)];simp
  |succ m ih=>
   intro q c hq hc;have Ak:q<st.length:=by omega
   obtain⟨tb,e1,e2⟩:=hs q Ak;have EV:NF st[q]=some (decide (st[q]≥2)):=rfl;have hw:IntKind.i64.wrap ((q:Int)+1)=((q+1:Nat):Int):=by rw [A8 (by omega) (by omega)];omega
   have FM:IntKind.i64.wrap ((c:Int)+1)=((c+1:Nat):Int):=by rw [A8 (by omega) (by omega)];omega
   rw [List.drop_eq_getElem_cons Ak,List.filter_cons];by_cases hg:st[q]≥2
   ·rw [if_pos (decide_eq_true hg),An];refine(DM ?_).trans ((ih (q+1) (c+1) (by omega) (by omega)).trans (by rw [show c+1+((st.drop (q+1)).filter fun y=>decide (y≥2)).length=c+(((st.drop (q+1)).filter fun y=>decide (y≥2)).length+1)from by omega]));show Nw w c q=_;unfold Nw;rw [if_pos (decide_eq_true (show(q:Int)<(w.ae.bp.length:Int) by omega)),e1,Aa,e2,Aa,EV,Aa,if_pos (decide_eq_true hg),hw,FM]
   ·rw [if_neg (by simpa using hg)];refine(DM ?_).trans (ih (q+1) c (by omega) (by omega));show Nw w c q=_;unfold Nw;rw [if_pos (decide_eq_true (show(q:Int)<(w.ae.bp.length:Int) by omega)),e1,Aa,e2,Aa,EV,Aa,if_neg (by simpa using hg),hw]
 have:=go st.length 0 0 (by omega) (by omega);rw [List.drop_zero,Nat.zero_add]at this;exact this
theorem zrZ {w:Ab} (hw:w.bh=true): ∀(l:List Ab),((Bg wk w l).filter fun y=> !y.bh).length≤l.length
 | []=>by simp [Bg,hw]
 |z::l=>by
  rw [Bg];split
  ·rw [List.filter_cons_of_neg (by simp [hw])];exact List.length_filter_le _ _
  ·split
   ·rw [List.filter_cons_of_neg (by simp [hw]),An];exact Nat.le_succ_of_le (List.length_filter_le _ _)
   ·have ih:=zrZ hw l;rw [List.filter_cons];split<;>(simp only [An];omega)
theorem pS (st:List Ab) (k:Af):Fl st (BW k).cd=([⟨k, [],true⟩],true):=by unfold Fl I8;simp [BW,Dx,Bg]
theorem ZI {st:List Ab} {k:Af} (hg:BS st=true):(Bb st (BW k).cd).2=true:=by have hl:=(DR hg).1.len;have h:=zrZ (w:=⟨k, [],true⟩) rfl st;unfold Bb;rw [pS,if_pos ⟨rfl,by unfold Dc;simp only [List.foldl_cons,List.foldl_nil];omega⟩]
theorem zy8 (st:List Ab) (t:Ad) (x:Aq) (r:AI): ∀(n:Nat) (got:List BR),(I8 st (A4 t x r).cd n got).1= []∨(I8 st (A4 t x r).cd n got).1= [⟨By t x.ab x.bm r, [],false⟩]
 |0,got=> .inl rfl
 |n+1,got=>by
  unfold I8;split
  ·exact zy8 st t x r n _
  ·simp only [A4,Dx];simp only [show¬((7:Int)=2)from by decide,show¬((7:Int)=3)from by decide,if_false,if_true];split
   ·split
    ·right;simp [Bg]
    ·left;rfl
   ·left;rfl
theorem zDk {t:Ad} {w:Ab} (hk: ∀r,Bf t r=true→(AO t r).af≠w.af): ∀(l:List Ab),(Bg wk w l).filter (Cq t)=l.filter (Cq t):=by
 have Dt: ∀y:Ab,y.af=w.af→Cq t y=false:=fun y hy=>by
  cases h:Cq t y with
  |false=>rfl
  |true=>obtain⟨h1,h2⟩:=Gb h;exact absurd (by rw [←h2,hy]) (hk _ h1)
 intro l
 induction l with
 |nil=>simp [Bg,Dt w rfl]
 |cons z l ih=>
  rw [Bg];split
  ·rw [List.filter_cons_of_neg (by simp [Dt w rfl])]
  ·split
   ·rename_i h;have hz:Cq t z=false:=Dt z h.symm;rw [List.filter_cons_of_neg (by simp [Dt w rfl]),List.filter_cons_of_neg (by simp [hz])]
   ·rw [List.filter_cons,List.filter_cons,ih]
theorem zBF {t:Ad} {x:Aq} {r:AI} {st:List Ab} (hg:A0 t=true) (hx:x∈t.ah) (hr:Bf t r=true) (AW:BS st=true):rows t (Bb st (A4 t x r).cd).1=rows t st:=by
 have MZ:=(DR AW).2;have hid:st.filter (fun y=> !y.bh)=st:=List.filter_eq_self.2 fun y hy=>by rw [MZ y hy];rfl
 have hl:=(E2 hg hx).1;unfold Bb;split
 ·show rows t (Dc st (I8 st (A4 t x r).cd 9 []).1)=_;rcases zy8 st t x r 9 []with e|e
  ·rw [e];unfold Dc;rw [List.foldl_nil,hid]
  ·rw [e];unfold Dc rows;rw [List.foldl_cons,List.foldl_nil];have Ck:(Bg wk ⟨By t x.ab x.bm r, [],false⟩ st).filter (fun y=> !y.bh)=Bg wk ⟨By t x.ab x.bm r, [],false⟩ st:=List.filter_eq_self.2 fun y hy=>by
    rcases mem_insK_any hy with rfl|hy
    ·rfl
    ·rw [MZ y hy];rfl
   rw [Ck,zDk fun q hq=>VV hg hl hq hr]
 ·rfl
where
 mem_insK_any {w y:Ab}: ∀{l:List Ab},y∈Bg wk w l→y=w∨y∈l
  | [],h=> .inl (by simpa [Bg]using h)
  |z::l,h=>by
   rw [Bg]at h;split at h
   ·rcases Ag.1 h with h|h
    ·exact .inl h
    ·exact .inr h
   ·split at h
    ·rcases Ag.1 h with h|h
     ·exact .inl h
     ·exact .inr (by simp [h])
    ·rcases Ag.1 h with h|h
     ·exact .inr (by simp [h])
     ·rcases mem_insK_any h with h|h
      ·exact .inl h
      ·exact .inr (by simp [h])
theorem oS {t:Ad} {x:Aq} (hg:A0 t=true) (hx:x∈t.ah): ∀(R:List AI) (m n:Nat) (st:List Ab) (last:Af),(∀r∈R,Bf t r=true)→BS st=true→rows t (A2 (R.map (A4 t x)) m n st last).1=rows t st
 | [],m,n,st,last,_,_=>by simp [A2]
 |r::R,0,n,st,last,_,_=>by simp [A2]
 |r::R,m+1,n,st,last,hr,AW=>by
  rw [List.map_cons];unfold A2;split
  ·have ho:=Wo hg hx (hr r (by simp));rw [oS hg hx R m (n+1) _ _ (fun q hq=>hr q (by simp [hq])) (Mj ho.1 ho.2 AW)];exact zBF hg hx (hr r (by simp)) AW
  ·rfl
theorem oJ {ks:List BU} {m:Nat} {st:List Ab} {last:Af} (hr:ks.Pairwise (fun a b=>bl a.ay b.ay=true)):
  (ks.any fun k=>behind (A2 (ks.filter fun k=>behind last k.ay) m 0 st last).2.2 k.ay)= !((A2 (ks.filter fun k=>behind last k.ay) m 0 st last).2.1==(ks.filter fun k=>behind last k.ay).length):=by
 have M8:=hr.filter fun k=>behind last k.ay;have hb: ∀k∈ks.filter (fun k=>behind last k.ay),bl last k.ay=true:=fun k hk=>by rw [←HG];simpa using(List.mem_filter.1 hk).2
 have hn:=rI (ks.filter fun k=>behind last k.ay) m 0 st last;have Ct:=Zv (ks.filter fun k=>behind last k.ay) m 0 st last M8 hb;have ES:=pieceL_ge (ks.filter fun k=>behind last k.ay) m 0 st last M8 hb;generalize hP:A2 (ks.filter fun k=>behind last k.ay) m 0 st last=p at hn Ct ES;rw [Bool.eq_iff_iff,List.any_eq_true];constructor
 ·rintro⟨k,hk,QK⟩;rw [HG]at QK;have hkr:k∈ks.filter fun k=>behind last k.ay:=by
   refine List.mem_filter.2 ⟨hk, ?_⟩;show behind last k.ay=true;rw [HG];rcases ES with e|e
   ·rw [←e];exact QK
   ·exact FQ e QK
  obtain⟨i,hi,rfl⟩:=List.getElem_of_mem hkr;have:=Ct i hi;rw [QK]at this;have h2:=of_decide_eq_true this.symm;rw [Bool.not_eq_true',beq_eq_false_iff_ne];omega
 ·intro h;rw [Bool.not_eq_true',beq_eq_false_iff_ne]at h;have Ak:p.2.1<(ks.filter fun k=>behind last k.ay).length:=by omega
  refine⟨_,(List.mem_filter.1 (List.getElem_mem Ak)).1, ?_⟩;rw [HG,Ct _ Ak];exact decide_eq_true (by omega)
where
 pieceL_ge: ∀(ks:List BU) (m n:Nat) (st:List Ab) (last:Af),ks.Pairwise (fun a b=>bl a.ay b.ay=true)→(∀q∈ks,bl last q.ay=true)→(A2 ks m n st last).2.2=last∨bl last (A2 ks m n st last).2.2=true
  | [],m,n,st,last,_,_=> .inl (by simp [A2])
  |q::ks,0,n,st,last,_,_=> .inl (by simp [A2])
  |q::ks,m+1,n,st,last,hr,hb=>by
   rw [List.pairwise_cons]at hr;unfold A2;split
   ·rcases pieceL_ge ks m (n+1) (Bb st q.cd).1 q.ay hr.2 hr.1 with e|e
    ·rw [e];exact .inr (hb q (by simp))
    ·exact .inr (FQ (hb q (by simp)) e)
   ·exact .inl rfl
theorem oG: ∀(ks:List BU) (m n:Nat) (st:List Ab) (last:Af),(A2 ks m n st last).2.2=last∨ ∃k∈ks,(A2 ks m n st last).2.2=k.ay
 | [],m,n,st,last=> .inl (by simp [A2])
 |k::ks,0,n,st,last=> .inl (by simp [A2])
 |k::ks,m+1,n,st,last=>by
  unfold A2;split
  ·rcases oG ks m (n+1) (Bb st k.cd).1 k.ay with e|⟨q,hq,e⟩
   ·exact .inr ⟨k,by simp,e⟩
   ·exact .inr ⟨q,by simp [hq],e⟩
  ·exact .inl rfl
theorem zw7 {t:Ad} {n:Af} {x:Aq} {st:List Ab} {f:AY} {many:Int} (hg:A0 t=true) (hx:EJ t n x) (fT:x∈t.ah) (Pg:x.ab=n) (hn:n.length≤2000000) (Pb:t.ab.length=1) (AW:BS st=true) (h1:1≤many) (h2:many≤24):
  ∃r,Y6 t n st f many=some r∧((Vk t n st).bind fun k=>NK k st f many)=some r∧BS r.1=true∧(r.2.al=f.al∨Am r.2.al=true)∧
   r=HM ((rows t st).map (A4 t x)) f many.toNat st:=by
 have hR:=(DR AW).1;have hl:st.length≤2000000:=by have:=hR.len;omega
 have hT: ∀w∈st,FU w:=fun w hw=>Ko (hR.bq w hw);have Je:=rows_len t st;have Iu: ∀r∈rows t st,Bf t r=true:=fun r h=>P0 h;have ID:=SI (t:=t) (by omega) hl hT;have dQ:=zyF (t:=t) Pb hl hT;have Aw: ∀k∈(rows t st).map (A4 t x),Lf k:=fun k hk=>by obtain⟨r,hr,rfl⟩:=List.mem_map.1 hk;exact Wo hg fT (Iu r hr)
 have B4:=oF (t:=t) (x:=x) hR.b8;have EB:((rows t st).map (A4 t x)).length≤2000000:=by rw [List.length_map];omega
 obtain⟨m,rfl⟩:=Int.eq_ofNat_of_zero_le (show 0≤many by omega);have O2:=zyP (f:=f) EB Aw AW h1 h2;rw [Int.toNat_natCast]at O2 ⊢;have JS: ∀k∈((rows t st).map (A4 t x)).filter (fun k=>behind f.al k.ay),Lf k:=fun k hk=>Aw k (List.mem_filter.1 hk).1;have Dr:=zip (((rows t st).map (A4 t x)).filter fun k=>behind f.al k.ay) m 0 (last:=f.al) JS AW;have H9:rows t (A2 (((rows t st).map (A4 t x)).filter fun k=>behind f.al k.ay) m 0 st f.al).1=rows t st:=by
  have e:((rows t st).map (A4 t x)).filter (fun k=>behind f.al k.ay)=((rows t st).filter fun r=>behind f.al (AO t r).af).map (A4 t x):=by rw [List.filter_map];rfl
  rw [e];exact oS hg fT _ m 0 st f.al (fun r hr=>Iu r (List.mem_filter.1 hr).1) AW
 have FY:=oJ (m:=m) (st:=st) (last:=f.al) B4;have Fu:=oG (((rows t st).map (A4 t x)).filter fun k=>behind f.al k.ay) m 0 st f.al;refine⟨_, ?_,by rw [zD3 hg hx Pg hn hl dQ,Aa];exact O2,Dr,by
  rcases Fu with e|⟨k,hk,e⟩
  ·exact .inl e
  ·obtain⟨q,hq,rfl⟩:=List.mem_map.1 (List.mem_filter.1 hk).1;refine .inr ?_;show Am (A2 _ m 0 st f.al).2.2=true;rw [e];exact(P2 hg (Iu q hq)).1,rfl⟩
 have J7:Y6 t n st f m=RE t f (E4 ((rows t st).map (A4 t x)) m st f.al).2 (E4 ((rows t st).map (A4 t x)) m st f.al).1:=by unfold Y6;rw [AP (by simp;omega),IS (F8 hg),Aa,hx.at_,Aa,ID,Aa];have:=pY (f:=f) hg fT (R:=rows t st) (by omega) Iu (rows t st).length 0 m st f.al (by omega) (by omega) AW;rw [List.drop_zero]at this;exact this
 rw [J7,ztH B4];unfold HM;generalize hP:A2 (((rows t st).map (A4 t x)).filter fun k=>behind f.al k.ay) m 0 st f.al=p at Dr H9 FY;dsimp only;unfold RE;cases O1:f.bf with
 |true=>simp
 |false=>
  have HX:=(DR Dr).1;rw [if_neg (by simp),zAj hg (by have:=HX.len;omega) (SI (by omega) (by have:=HX.len;omega) fun w hw=>Ko (HX.bq w hw)),Aa,H9,u7 (by rw [List.length_map];omega),Aa];have e:((rows t st).map fun r=>(AO t r).af).any (fun k=>behind p.2.2 k)=((rows t st).map (A4 t x)).any fun k=>behind p.2.2 k.ay:=by rw [List.any_map,List.any_map];rfl
  rw [e,FY];simp
theorem oL {t:Ad} {n:Af} {f:AY} {K:List Af} (hl:K.length≤2000000) (hK: ∀k∈K,Am k=true): ∀(m q many:Nat) (st:List Ab) (last:Af),q+m=K.length→many≤24→BS st=true→
  AA (fun s:Int × Int × Ac × List Ab=>Nz t n f K s.1 s.2.1 s.2.2.1 s.2.2.2) ((many:Int),(q:Int),last,st)=Yw t n f (E4 ((K.drop q).map BW) many st last).2 (E4 ((K.drop q).map BW) many st last).1
 |0,q,many,st,last,hq,hm,AW=>by rw [List.drop_eq_nil_of_le (show K.length≤q by omega)];refine Dw ?_;show Nz t n f K many q last st=_;unfold Nz;rw [if_neg (by rw [decide_eq_true_eq];omega)];rfl
 |m+1,q,many,st,last,hq,hm,AW=>by
  have Ak:q<K.length:=by omega
  have hk:=hK _ (List.getElem_mem Ak);have ho:=V6 hk;have KH:=XK ho.1 ho.2 AW;have cZ:Sc st [(⟨3,K[q], [],0⟩:Ax)]=some (Bb st (BW K[q]).cd):=KH;have hw:=Bx Ak (by omega);rw [List.drop_eq_getElem_cons Ak,List.map_cons];unfold E4;by_cases hc:many=0∨behind last (BW K[q]).ay=false
  ·rw [if_pos hc];refine(DM ?_).trans (oL hl hK m (q+1) many st last (by omega) hm AW);show Nz t n f K many q last st=_;unfold Nz;have JL:((many:Int)==0||(Op.bytesLess K[q] last||K[q]==last))=true:=by
    rcases hc with hc|hc
    ·subst hc;rfl
    ·unfold behind at hc;cases h:(Op.bytesLess K[q] last||K[q]==last)with
     |true=>simp
     |false=>rw [show(BW K[q]).ay=K[q]from rfl,h]at hc;simp at hc
   rw [if_pos (decide_eq_true (show(q:Int)<(K.length:Int) by omega)),AR Ak,Aa,if_pos JL,hw]
  ·rw [if_neg hc,if_pos (ZI AW)];have OV:0<many:=by
    rcases Nat.eq_zero_or_pos many with h|h
    ·exact absurd (.inl h) hc
    ·exact h
   have JL: ¬((many:Int)==0||(Op.bytesLess K[q] last||K[q]==last))=true:=by
    rw [not_or]at hc;obtain⟨c1,c2⟩:=hc;unfold behind at c2;rw [show(BW K[q]).ay=K[q]from rfl]at c2;cases h:(Op.bytesLess K[q] last||K[q]==last)with
    |true=>rw [h]at c2;simp at c2
    |false=>rw [Bool.or_false,beq_iff_eq];omega
   have FM:IntKind.i64.wrap ((many:Int)-1)=((many-1:Nat):Int):=by rw [A8 (by omega) (by omega)];omega
   refine(DM ?_).trans (oL hl hK m (q+1) (many-1) _ _ (by omega) (by omega) (Mj ho.1 ho.2 AW));show Nz t n f K many q last st=_;unfold Nz;rw [if_pos (decide_eq_true (show(q:Int)<(K.length:Int) by omega)),AR Ak,Aa,if_neg JL,cZ,Aa,hw,FM];rfl
theorem qS {k:Af}: ∀{l:List Ab},CZ l→(∀w∈l,w.bh=false)→(Bg wk ⟨k, [],true⟩ l).filter (fun y=> !y.bh)=l.filter fun y=>y.af !=k
 | [],_,_=>by simp [Bg]
 |z::l,hr,hg=>by
  obtain⟨h1,h2⟩:=SB hr;have hz:z.bh=false:=hg z (by simp);have hid: ∀l':List Ab,(∀w∈l',w.bh=false)→l'.filter (fun y=> !y.bh)=l':=fun l' h=>List.filter_eq_self.2 fun y hy=>by rw [h y hy];rfl
  have A5: ∀l':List Ab,(∀y∈l',bl k y.af=true)→l'.filter (fun y=>y.af !=k)=l':=fun l' h=>List.filter_eq_self.2 fun y hy=>by have:=FE (h y hy);simpa using fun e=>this e.symm
  rw [Bg];split
  ·rename_i h;rw [List.filter_cons_of_neg (by simp),hid _ hg];exact(A5 _ fun y hy=>by
    rcases Ag.1 hy with rfl|hy
    ·exact h
    ·exact FQ h (h1 y hy)).symm
  ·split
   ·rename_i h;have h:k=z.af:=h;rw [List.filter_cons_of_neg (by simp),hid _ fun w hw=>hg w (by simp [hw]),List.filter_cons_of_neg (by simp [h])];exact(A5 _ fun y hy=>by rw [h];exact h1 y hy).symm
   ·rename_i h3 h4;rw [List.filter_cons_of_pos (by simp [hz]),List.filter_cons_of_pos (by simpa using fun e=>h4 e.symm),qS h2 fun w hw=>hg w (by simp [hw])]
theorem zvc {t:Ad} {n k:Af} {st:List Ab} (AW:BS st=true):Bq t n (Bb st (BW k).cd).1=(Bq t n st).filter fun e=>e !=k:=by
 have hd:=ZI (k:=k) AW;have hR:=DR AW;unfold Bb at hd ⊢;split at hd
 ·rename_i h;rw [if_pos h,pS];unfold Dc Bq;rw [List.foldl_cons,List.foldl_nil,qS hR.1.b8 hR.2,List.filter_map,List.filter_filter,List.filter_filter];congr 1;apply List.filter_congr;intro y _;simp [Bool.and_comm]
 ·cases hd
theorem mB {t:Ad} {nm:Af}: ∀(K:List Af) (m n:Nat) (st:List Ab) (last:Af),(K.map BW).Pairwise (fun a b=>bl a.ay b.ay=true)→(∀q∈K,bl last q=true)→(∀k∈K,Am k=true)→BS st=true→
  ∃p:Af→Bool,Bq t nm (A2 (K.map BW) m n st last).1=(Bq t nm st).filter p∧(∀k,bl (A2 (K.map BW) m n st last).2.2 k=true→p k=true)∧(∀k,p k=false→k∈K)∧ ∀k∈K,p k=true→bl (A2 (K.map BW) m n st last).2.2 k=true
 | [],m,n,st,last,_,_,_,_=>⟨fun _=>true,by simp only [List.map_nil,A2];exact(List.filter_eq_self.2 fun _ _=>rfl).symm,by simp,by simp,by simp⟩
 |k::K,0,n,st,last,_,hb,_,_=>⟨fun _=>true,by simp only [List.map_cons,A2];exact(List.filter_eq_self.2 fun _ _=>rfl).symm,by simp,by simp,fun q hq _=>by simpa [A2]using hb q hq⟩
 |k::K,m+1,n,st,last,hr,hb,hk,AW=>by
  have ES:=oJ.pieceL_ge (K.map BW) m (n+1) (Bb st (BW k).cd).1 k;rw [List.map_cons,List.pairwise_cons]at hr;rw [List.map_cons];unfold A2;rw [if_pos (ZI AW)];have ho:=V6 (hk k (by simp));have tT: ∀q∈K,bl k q=true:=fun q hq=>hr.1 (BW q) (List.mem_map.2 ⟨q,hq,rfl⟩);obtain⟨p,e1,e2,e3,e4⟩:=mB (t:=t) (nm:=nm) K m (n+1) (Bb st (BW k).cd).1 k hr.2 tT (fun q hq=>hk q (by simp [hq])) (Mj ho.1 ho.2 AW);have ES:=ES hr.2 fun q hq=>by obtain⟨z,hz,rfl⟩:=List.mem_map.1 hq;exact tT z hz
  refine⟨fun e=>p e&&e !=k, ?_,fun e he=> ?_,fun e he=> ?_,fun e hm he=> ?_⟩
  ·show Bq t nm (A2 (K.map BW) m (n+1) (Bb st (BW k).cd).1 k).1=_;rw [e1,zvc AW,List.filter_filter]
  ·have he:bl (A2 (K.map BW) m (n+1) (Bb st (BW k).cd).1 k).2.2 e=true:=he;have A5:bl k e=true:=by
    rcases ES with g|g
    ·rw [g]at he;exact he
    ·exact FQ g he
   have:=FE A5;show(p e&&e !=k)=true;rw [e2 e he,Bool.true_and,bne_iff_ne];exact fun h=>this h.symm
  ·have he:(p e&&e !=k)=false:=he;rw [Bool.and_eq_false_iff]at he;rcases he with he|he
   ·exact List.mem_cons_of_mem _ (e3 e he)
   ·simp only [bne_eq_false_iff_eq]at he;rw [he];simp
  ·show bl (A2 (K.map BW) m (n+1) (Bb st (BW k).cd).1 k).2.2 e=true;simp only [Ae,bne_iff_ne]at he;rcases Ag.1 hm with rfl|hm
   ·exact absurd rfl he.2
   ·exact e4 e hm he.1
theorem mV {t:Ad} {n:Af} {st:List Ab} (AW:BS st=true): ∀k∈Bq t n st,Am k=true:=fun k hk=>by unfold Bq at hk;obtain⟨w,hw,rfl⟩:=List.mem_map.1 hk;have:=(DR AW).1.bq w (List.mem_filter.1 hw).1;unfold C3 at this;rw [Ae]at this;exact this.1
theorem zzm {t:Ad} {n:Af} {st:List Ab} {f:AY} {many:Int} (hg:A0 t=true) (hn:n.length≤2000000) (hh: ∀b∈head t n,b≠47) (AW:BS st=true) (h1:1≤many) (h2:many≤24):
  ∃r,YT t n st f many=some r∧((Rz t n st).bind fun k=>NK k st f many)=some r∧BS r.1=true∧(r.2.al=f.al∨Am r.2.al=true)∧
   r=HM ((Bq t n st).map BW) f many.toNat st:=by
 have hR:=(DR AW).1;have hl:st.length≤2000000:=by have:=hR.len;omega
 have hT: ∀w∈st,FU w:=fun w hw=>Ko (hR.bq w hw);have Je:=Sm t n st;have hS:=F8 hg;have QM:t.ab.length≤2000000:=by have:=hS.name;omega
 have Qz:=mV (t:=t) (n:=n) AW;have ID:=oA (t:=t) (n:=n) QM hn hl hT;have dQ:=oM (t:=t) (n:=n) QM hn hh hl hT;have Aw: ∀k∈(Bq t n st).map BW,Lf k:=fun k hk=>by obtain⟨r,hr,rfl⟩:=List.mem_map.1 hk;exact V6 (Qz r hr)
 have B4:=zrG (t:=t) (n:=n) hR.b8;have EB:((Bq t n st).map BW).length≤2000000:=by rw [List.length_map];omega
 obtain⟨m,rfl⟩:=Int.eq_ofNat_of_zero_le (show 0≤many by omega);have O2:=zyP (f:=f) EB Aw AW h1 h2;rw [Int.toNat_natCast]at O2 ⊢;have JS: ∀k∈((Bq t n st).map BW).filter (fun k=>behind f.al k.ay),Lf k:=fun k hk=>Aw k (List.mem_filter.1 hk).1;have Dr:=zip (((Bq t n st).map BW).filter fun k=>behind f.al k.ay) m 0 (last:=f.al) JS AW;have Fu:=oG (((Bq t n st).map BW).filter fun k=>behind f.al k.ay) m 0 st f.al;have FY:=oJ (m:=m) (st:=st) (last:=f.al) B4;have e:((Bq t n st).map BW).filter (fun k=>behind f.al k.ay)=((Bq t n st).filter fun k=>behind f.al k).map BW:=by rw [List.filter_map];rfl
 have Bn: ∃p:Af→Bool,Bq t n (A2 (((Bq t n st).map BW).filter fun k=>behind f.al k.ay) m 0 st f.al).1=(Bq t n st).filter p∧(∀k,bl (A2 (((Bq t n st).map BW).filter fun k=>behind f.al k.ay) m 0 st f.al).2.2 k=true→p k=true):=by have CR:=B4.filter fun k=>behind f.al k.ay;rw [e]at CR ⊢;obtain⟨p,e1,e2,_,_⟩:=mB (t:=t) (nm:=n) _ m 0 st f.al CR (fun q hq=>by rw [←HG];simpa using(List.mem_filter.1 hq).2) (fun q hq=>Qz q (List.mem_filter.1 hq).1) AW;exact⟨p,e1,e2⟩
 refine⟨_, ?_,by rw [zBV hl dQ,Aa];exact O2,Dr, ?_,rfl⟩
 ·have J7:YT t n st f m=Yw t n f (E4 ((Bq t n st).map BW) m st f.al).2 (E4 ((Bq t n st).map BW) m st f.al).1:=by
   unfold YT;rw [AP (by simp;omega),ID,Aa];have:=oL (t:=t) (n:=n) (f:=f) (K:=Bq t n st) (by omega) Qz (Bq t n st).length 0 m st f.al (by omega) (by omega) AW;rw [List.drop_zero]at this;exact this
  rw [J7,ztH B4];unfold HM;generalize hP:A2 (((Bq t n st).map BW).filter fun k=>behind f.al k.ay) m 0 st f.al=p at Dr Bn FY;dsimp only;unfold Yw;cases O1:f.bf with
  |true=>simp
  |false=>
   have HX:=(DR Dr).1;obtain⟨pr,e1,e2⟩:=Bn;have LC:=Sm t n p.1;rw [if_neg (by simp),oA QM hn (by have:=HX.len;omega) (fun w hw=>Ko (HX.bq w hw)),Aa,u7 (by have:=HX.len;omega),Aa];have e3:(Bq t n p.1).any (fun k=>behind p.2.2 k)=((Bq t n st).map BW).any fun k=>behind p.2.2 k.ay:=by
    rw [e1,List.any_filter,List.any_map];congr 1;funext k;show(pr k&&behind p.2.2 k)=behind p.2.2 k;cases hb:behind p.2.2 k with
    |false=>rw [Bool.and_false]
    |true=>rw [e2 k (by rw [←HG];exact hb)];rfl
   rw [e3,FY];simp
 ·rcases Fu with e|⟨k,hk,e⟩
  ·exact .inl e
  ·obtain⟨q,hq,rfl⟩:=List.mem_map.1 (List.mem_filter.1 hk).1;refine .inr ?_;show Am (A2 _ m 0 st f.al).2.2=true;rw [e];exact Qz q hq
theorem ztP {k:Af} (h:k≠ []):behind [] k=true:=by
 cases k with
 |nil=>exact absurd rfl h
 |cons b k=>rfl
theorem ztQ {k:Af} (h:Am k=true):k≠ []:=by rintro rfl;revert h;decide
def K7 (t:Ad) (n:Af) (c:Int) (st:List Ab) (f:AY):Prop:= ∀q∈st,Cq t q=true→(f.bf=true∨behind f.al q.af=false)→ ∃w∈st,w.af=By t n c (BQ q)
def K2 (t:Ad) (n:Af) (st:List Ab) (f:AY):Prop:= ∀w∈st,Da t n w.af=true→f.bf=false∧behind f.al w.af=true
theorem nL {t:Ad} {n:Af} {c:Int} {st:List Ab} (AW:BS st=true):K7 t n c st ⟨[],false⟩:=by
 intro q hq hr h;rcases h with h|h
 ·cases h
 ·have hg:=(DR AW).1.bq q hq;unfold C3 at hg;rw [Ae]at hg;rw [ztP (ztQ hg.1)]at h;cases h
theorem zqy {t:Ad} {n:Af} {st:List Ab} (AW:BS st=true):K2 t n st ⟨[],false⟩:=by intro q hq _;have hg:=(DR AW).1.bq q hq;unfold C3 at hg;rw [Ae]at hg;exact⟨rfl,ztP (ztQ hg.1)⟩
theorem zsz {t t':Ad} {n:Af} {c:Int} {st:List Ab} {f:AY} (h1:t.ab=t'.ab) (h2:t.ar=t'.ar):K7 t n c st f↔K7 t' n c st f:=by cases t;cases t';dsimp only at h1 h2;subst h1;subst h2;exact Iff.rfl
theorem zqw {t t':Ad} {n:Af} {st:List Ab} {f:AY} (h1:t.ab=t'.ab) (h2:t.ar=t'.ar):K2 t n st f↔K2 t' n st f:=by cases t;cases t';dsimp only at h1 h2;subst h1;subst h2;exact Iff.rfl
section
variable {t:Ad} {a:Bv} {n:Af} {x:Aq} {st st':List Ab} {f:AY}
theorem Fm.jf (A:Fm t a n x) (hB:Qi t a st st') (hn: ∀w∈st,w.bh=false) (hs:2≤x.aq) (h:K7 t n x.bm st f):K7 t n x.bm st' f:=by
 intro q hq hr hf;obtain⟨Eg,Gh⟩:=Gb hr;obtain⟨Dq,h1|⟨h1,h2⟩⟩:=(hB q).1 hq
 ·obtain⟨e,k⟩:=A.ea h1 hr;have hm:(⟨Ed t a x, [],false⟩:Ab)∈GR t a x:=by
   unfold GR;refine Ai.2 (.inr ?_);rw [if_pos ⟨by rw [A.dv k];exact bB _ _ _ _,hs⟩];simp
  refine⟨_,(hB _).2 ⟨rfl, .inl (A.ij hm)⟩, ?_⟩;show Ed t a x=_;rw [e,SN A.tab (A.new k),A.dv k,A.name]
 ·obtain⟨w,w1,w2⟩:=h q h1 hr hf;by_cases ho: ∀z∈D8 t a,z.af≠w.af
  ·exact⟨w,(hB w).2 ⟨hn w w1, .inr ⟨w1,ho⟩⟩,w2⟩
  ·have⟨z,hz,e⟩: ∃z∈D8 t a,z.af=w.af:=by
    apply Classical.byContradiction;intro hc;exact ho fun z hz e=>hc ⟨z,hz,e⟩
   have he:Da t n z.af=true:=by rw [e,w2,SF A.tab A.kf Eg (by have:=A.l0;omega) A.l0.2];simp
   rcases A.eu (A.dh hz he)with⟨e1,k1,_⟩|⟨e1,k2,_⟩
   ·exfalso;have hk:By t n x.bm a.br=By t n x.bm (BQ q):=by
     have:z.af=E5 t a x:=by rw [e1]
     rw [e,w2,A.ee k1,A.name]at this;exact this.symm
    have hp:=zsG A.tab A.kf (A.old k1) Eg hk;obtain⟨u,u1,u2⟩:=A.ff k1;apply h2 u u1;rw [u2,Gh,IM,IM,hp]
   ·exact⟨z,(hB z).2 ⟨by rw [e1], .inl hz⟩,e.trans w2⟩
theorem Fm.iu (A:Fm t a n x) (hB:Qi t a st st') (hs:x.aq≤1) (h:K2 t n st f):K2 t n st' f:=by
 intro y hy he;obtain⟨Dq,h1|h1⟩:=(hB y).1 hy
 ·rcases A.eu (A.dh h1 he)with⟨e,_⟩|⟨_,_,k⟩
  ·rw [e]at Dq;cases Dq
  ·omega
 ·exact h y h1.1 he
theorem qZ {ops:List Ax} (h:(Bb st ops).2=false):(Bb st ops).1=st:=by
 unfold Bb at h ⊢;split at h
 ·cases h
 ·rename_i q;rw [if_neg q]
theorem zz4 (A:Fm t a n x) (hg:BS st=true) (hs:2≤x.aq) (h:K7 t n x.bm st f):K7 t n x.bm (Bb st (D9 t a)).1 f:=by
 cases hd:(Bb st (D9 t a)).2 with
 |true=>exact A.jf (oO A.oz hg hd).2 (DR hg).2 hs h
 |false=>rw [qZ hd];exact h
theorem zxp (A:Fm t a n x) (hg:BS st=true) (hs:x.aq≤1) (h:K2 t n st f):K2 t n (Bb st (D9 t a)).1 f:=by
 cases hd:(Bb st (D9 t a)).2 with
 |true=>exact A.iu (oO A.oz hg hd).2 hs h
 |false=>rw [qZ hd];exact h
end
theorem aH {st:List Ab} {w:Ab} (hr:CZ st) (y:Ab):y∈Dc st [w]↔(y=w∨y∈st∧y.af≠w.af)∧y.bh=false:=by unfold Dc;rw [List.mem_filter,List.foldl_cons,List.foldl_nil,SQ hr];simp
theorem zBD {t:Ad} {x:Aq} {r:AI} {st:List Ab} (AW:BS st=true):
  (∀w∈st,∃w'∈(Bb st (A4 t x r).cd).1,w'.af=w.af)∧(∀w∈(Bb st (A4 t x r).cd).1,w∈st∨w.af=By t x.ab x.bm r)∧
   ((Bb st (A4 t x r).cd).2=true→ ∃w∈(Bb st (A4 t x r).cd).1,w.af=By t x.ab x.bm r):=by
 obtain⟨hr,hn⟩:=DR AW;have hR:=pH (st:=st) (o:=⟨7,(AO t r).af,(AO t r).a7,0⟩) (rest:= [⟨2,By t x.ab x.bm r, [],0⟩]) (by simp) (by simp) (by simp);cases hd:(Bb st (A4 t x r).cd).2 with
 |false=>rw [qZ hd];exact⟨fun w hw=>⟨w,hw,rfl⟩,fun w hw=> .inl hw,fun h=>by cases h⟩
 |true=>
  have e:(Bb st (A4 t x r).cd).1=Dc st [⟨By t x.ab x.bm r, [],false⟩]:=by
   unfold Bb at hd ⊢;split at hd
   ·rename_i q;rw [if_pos q];show Dc st (Fl st [⟨7,(AO t r).af,(AO t r).a7,0⟩,⟨2,By t x.ab x.bm r, [],0⟩]).1=_;have q1:(Fl st [⟨7,(AO t r).af,(AO t r).a7,0⟩,⟨2,By t x.ab x.bm r, [],0⟩]).2=true:=q.1;rw [hR]at q1 ⊢;split at q1
    ·rename_i q2;rw [if_pos q2];rfl
    ·cases q1
   ·cases hd
  rw [e];refine⟨fun w hw=> ?_,fun w hw=> ?_,fun _=>⟨⟨By t x.ab x.bm r, [],false⟩,(aH hr.b8 _).2 ⟨.inl rfl,rfl⟩,rfl⟩⟩
  ·by_cases hk:w.af=By t x.ab x.bm r
   ·exact⟨⟨By t x.ab x.bm r, [],false⟩,(aH hr.b8 _).2 ⟨.inl rfl,rfl⟩,hk.symm⟩
   ·exact⟨w,(aH hr.b8 _).2 ⟨.inr ⟨hw,hk⟩,hn w hw⟩,rfl⟩
  ·rcases(aH hr.b8 _).1 hw with⟨rfl|⟨h1,_⟩,_⟩
   ·exact .inr rfl
   ·exact .inl h1
theorem ztL {t:Ad} {x:Aq} (hg:A0 t=true) (hx:x∈t.ah): ∀(R:List AI) (m n:Nat) (st:List Ab) (last:Af),(∀r∈R,Bf t r=true)→BS st=true→
  (∀w∈st,∃w'∈(A2 (R.map (A4 t x)) m n st last).1,w'.af=w.af)∧(∀w∈(A2 (R.map (A4 t x)) m n st last).1,w∈st∨ ∃r∈R,w.af=By t x.ab x.bm r)∧
   (∀(i:Nat) (h:i<R.length),n+i<(A2 (R.map (A4 t x)) m n st last).2.1→ ∃w∈(A2 (R.map (A4 t x)) m n st last).1,w.af=By t x.ab x.bm R[i])
 | [],m,n,st,last,_,_=>by simp only [List.map_nil,A2];exact⟨fun w hw=>⟨w,hw,rfl⟩,fun w hw=> .inl hw,fun i h=>by simp at h⟩
 |r::R,0,n,st,last,_,_=>by simp only [List.map_cons,A2];exact⟨fun w hw=>⟨w,hw,rfl⟩,fun w hw=> .inl hw,fun i h k=>by omega⟩
 |r::R,m+1,n,st,last,hR,AW=>by
  obtain⟨s1,s2,s3⟩:=zBD (t:=t) (x:=x) (r:=r) AW;have ho:=Wo hg hx (hR r (by simp));rw [List.map_cons];unfold A2;split
  ·rename_i hd;obtain⟨k1,k2,k3⟩:=ztL hg hx R m (n+1) (Bb st (A4 t x r).cd).1 (A4 t x r).ay (fun q hq=>hR q (by simp [hq])) (Mj ho.1 ho.2 AW);refine⟨fun w hw=> ?_,fun w hw=> ?_,fun i h k=> ?_⟩
   ·obtain⟨w',h1,h2⟩:=s1 w hw;obtain⟨w2,h3,h4⟩:=k1 w' h1;exact⟨w2,h3,h4.trans h2⟩
   ·rcases k2 w hw with h|⟨q,hq,e⟩
    ·rcases s2 w h with h|h
     ·exact .inl h
     ·exact .inr ⟨r,by simp,h⟩
    ·exact .inr ⟨q,by simp [hq],e⟩
   ·cases i with
    |zero=>obtain⟨w',h1,h2⟩:=s3 hd;obtain⟨w2,h3,h4⟩:=k1 w' h1;exact⟨w2,h3,h4.trans h2⟩
    |succ i=>exact k3 i (by simpa using h) (by omega)
  ·refine⟨fun w hw=>⟨w,hw,rfl⟩,fun w hw=> .inl hw,fun i h k=> ?_⟩;simp only at k;omega
theorem Wi {t:Ad} {st:List Ab} {r:AI}:r∈rows t st↔ ∃q∈st,Cq t q=true∧BQ q=r:=by
 unfold rows;simp only [List.mem_map,List.mem_filter];constructor
 ·rintro⟨q,⟨h1,h2⟩,e⟩;exact⟨q,h1,h2,e⟩
 ·rintro⟨q,h1,h2,e⟩;exact⟨q,⟨h1,h2⟩,e⟩
theorem aY {t:Ad} {st st':List Ab} (h:rows t st=rows t st') {q:Ab} (hq:q∈st) (hr:Cq t q=true):q∈st':=by
 have h1:BQ q∈rows t st:=Wi.2 ⟨q,hq,hr,rfl⟩;rw [h]at h1;obtain⟨p,hp,h2,e⟩:=Wi.1 h1;have:p=q:=by rw [(Gb h2).2,(Gb hr).2,e]
 rw [←this];exact hp
structure xR (t:Ad) (n:Af) (x:Aq) (st:List Ab) (f:AY) (r:List Ab × AY):Prop where
 rows:rows t r.1=rows t st
 grow: ∀w∈st,∃w'∈r.1,w'.af=w.af
 back: ∀w∈r.1,w∈st∨ ∃q∈st,Cq t q=true∧w.af=By t n x.bm (BQ q)
 filled:K7 t n x.bm st f→K7 t n x.bm r.1 r.2
theorem oU {t:Ad} {n:Af} {x:Aq} {st:List Ab} {f:AY} {m:Nat} (hg:A0 t=true) (hx:x∈t.ah) (Pg:x.ab=n) (AW:BS st=true):
  xR t n x st f (HM ((rows t st).map (A4 t x)) f m st):=by
 unfold HM;have hR:=(DR AW).1;have Iu: ∀r∈rows t st,Bf t r=true:=fun r h=>P0 h;have B4:=(oF (t:=t) (x:=x) hR.b8).filter fun k=>behind f.al k.ay;have hb: ∀k∈((rows t st).map (A4 t x)).filter (fun k=>behind f.al k.ay),bl f.al k.ay=true:=fun k hk=>by rw [←HG];simpa using(List.mem_filter.1 hk).2
 have e:((rows t st).map (A4 t x)).filter (fun k=>behind f.al k.ay)=((rows t st).filter fun r=>behind f.al (AO t r).af).map (A4 t x):=by rw [List.filter_map];rfl
 rw [e]at B4 hb ⊢;have W6: ∀r∈(rows t st).filter (fun r=>behind f.al (AO t r).af),r∈rows t st:=fun r hr=>(List.mem_filter.1 hr).1;have s8: ∀r∈rows t st,behind f.al (AO t r).af=true→r∈(rows t st).filter (fun r=>behind f.al (AO t r).af):=fun r hr h=>List.mem_filter.2 ⟨hr,h⟩;generalize (rows t st).filter (fun r=>behind f.al (AO t r).af)=R at B4 hb W6 s8;have hk:=ztL hg hx R m 0 st f.al (fun r hr=>Iu r (W6 r hr)) AW;have QP:=oS hg hx R m 0 st f.al (fun r hr=>Iu r (W6 r hr)) AW;have hl:=Zv (R.map (A4 t x)) m 0 st f.al B4 hb;generalize A2 (R.map (A4 t x)) m 0 st f.al=p at hk QP hl;obtain⟨k1,k2,k3⟩:=hk;refine⟨QP,k1,fun w hw=> ?_,fun hF q hq hr hf=> ?_⟩
 ·rcases k2 w hw with h|⟨r,hr,e⟩
  ·exact .inl h
  ·obtain⟨q,h1,h2,rfl⟩:=Wi.1 (W6 r hr);exact .inr ⟨q,h1,h2,by rw [e,Pg]⟩
 ·have QO:=aY QP hq hr;have hold:(f.bf=true∨behind f.al q.af=false)→ ∃w∈p.1,w.af=By t n x.bm (BQ q):=fun h=>by
   obtain⟨w,h1,h2⟩:=hF q QO hr h;obtain⟨w',h3,h4⟩:=k1 w h1;exact⟨w',h3,h4.trans h2⟩
  cases Xf:behind f.al q.af with
  |false=>exact hold (.inr Xf)
  |true=>
   have hqr:BQ q∈R:=s8 _ (Wi.2 ⟨q,QO,hr,rfl⟩) (by rw [←(Gb hr).2];exact Xf);obtain⟨i,hi,ei⟩:=List.getElem_of_mem hqr;have Ct:=hl i (by rw [List.length_map];exact hi);rw [List.getElem_map,ei,Nat.zero_add]at Ct;have ekey:(A4 t x (BQ q)).ay=q.af:=by show(AO t (BQ q)).af=q.af;rw [←(Gb hr).2]
   rw [ekey,←HG]at Ct;rcases hf with h|h
   ·dsimp only at h;rw [Bool.or_eq_true]at h;rcases h with h|h
    ·exact hold (.inl h)
    ·rw [beq_iff_eq,List.length_map]at h;obtain⟨w,h1,h2⟩:=k3 i hi (by omega);exact⟨w,h1,by rw [h2,ei,Pg]⟩
   ·dsimp only at h;rw [Ct,decide_eq_false_iff_not]at h;obtain⟨w,h1,h2⟩:=k3 i hi (by omega);exact⟨w,h1,by rw [h2,ei,Pg]⟩
theorem zzV {t:Ad} {n k:Af} {st:List Ab} (AW:BS st=true) (hg:A0 t=true) (hk:Da t n k=true):rows t (Bb st (BW k).cd).1=rows t st:=by
 have hd:=ZI (k:=k) AW;have hR:=DR AW;unfold Bb at hd ⊢;split at hd
 ·rename_i h;rw [if_pos h,pS];unfold Dc rows;rw [List.foldl_cons,List.foldl_nil,qS hR.1.b8 hR.2,List.filter_filter];congr 1;apply List.filter_congr;intro y _;cases hy:Cq t y with
  |false=>rfl
  |true=>rw [Bool.true_and,bne_iff_ne];intro e;obtain⟨h1,h2⟩:=Gb hy;rw [←e,h2,zvC hg h1]at hk;cases hk
 ·cases hd
theorem zr7 {t:Ad} {nm:Af} (hg:A0 t=true): ∀(K:List Af) (m n:Nat) (st:List Ab) (last:Af),(∀k∈K,Am k=true∧Da t nm k=true)→BS st=true→rows t (A2 (K.map BW) m n st last).1=rows t st
 | [],m,n,st,last,_,_=>by simp [A2]
 |k::K,0,n,st,last,_,_=>by simp [A2]
 |k::K,m+1,n,st,last,hk,AW=>by
  rw [List.map_cons];unfold A2;split
  ·have ho:=V6 (hk k (by simp)).1;rw [zr7 hg K m (n+1) _ _ (fun q hq=>hk q (by simp [hq])) (Mj ho.1 ho.2 AW)];exact zzV AW hg (hk k (by simp)).2
  ·rfl
structure wL (t:Ad) (n:Af) (st:List Ab) (f:AY) (r:List Ab × AY):Prop where
 rows:rows t r.1=rows t st
 less: ∀k∈Bq t n r.1,k∈Bq t n st
 jx:K2 t n st f→K2 t n r.1 r.2
theorem zss {t:Ad} {n:Af} {st:List Ab} {f:AY} {m:Nat} (hg:A0 t=true) (AW:BS st=true):
  wL t n st f (HM ((Bq t n st).map BW) f m st):=by
 unfold HM;have hR:=(DR AW).1;have Qz:=mV (t:=t) (n:=n) AW;have B4:=(zrG (t:=t) (n:=n) hR.b8).filter fun k=>behind f.al k.ay;have hb: ∀k∈((Bq t n st).map BW).filter (fun k=>behind f.al k.ay),bl f.al k.ay=true:=fun k hk=>by rw [←HG];simpa using(List.mem_filter.1 hk).2
 have e:((Bq t n st).map BW).filter (fun k=>behind f.al k.ay)=((Bq t n st).filter fun k=>behind f.al k).map BW:=by rw [List.filter_map];rfl
 rw [e]at B4 hb ⊢;have bU: ∀k∈(Bq t n st).filter (fun k=>behind f.al k),k∈Bq t n st:=fun r hr=>(List.mem_filter.1 hr).1;have s4: ∀k∈Bq t n st,behind f.al k=true→k∈(Bq t n st).filter (fun k=>behind f.al k):=fun r hr h=>List.mem_filter.2 ⟨hr,h⟩;generalize (Bq t n st).filter (fun k=>behind f.al k)=K at B4 hb bU s4;have s5: ∀k∈K,Am k=true∧Da t n k=true:=fun k hk=>by refine⟨Qz k (bU k hk), ?_⟩;obtain⟨w,_,h2,e⟩:=IL.1 (bU k hk);rw [e];exact h2
 obtain⟨p,e1,e2,e3,e4⟩:=mB (t:=t) (nm:=n) K m 0 st f.al B4 (fun q hq=>hb (BW q) (List.mem_map.2 ⟨q,hq,rfl⟩)) (fun q hq=>(s5 q hq).1) AW;have QP:=zr7 (nm:=n) hg K m 0 st f.al s5 AW;have hl:=Zv (K.map BW) m 0 st f.al B4 hb;generalize A2 (K.map BW) m 0 st f.al=pc at e1 e2 e4 QP hl;refine⟨QP,fun k hk=> ?_,fun hC w hw he=> ?_⟩
 ·dsimp only at hk;rw [e1]at hk;exact(List.mem_filter.1 hk).1
 ·have Xx:w.af∈Bq t n pc.1:=IL.2 ⟨w,hw,he,rfl⟩;rw [e1,List.mem_filter]at Xx;obtain⟨w0,KL,h2,ek⟩:=IL.1 Xx.1;obtain⟨c1,c2⟩:=hC w0 KL h2;rw [←ek]at c2;have QR:=s4 _ Xx.1 c2;have Xe:=e4 _ QR Xx.2;obtain⟨i,hi,ei⟩:=List.getElem_of_mem QR;have Ct:=hl i (by rw [List.length_map];exact hi);rw [List.getElem_map,Nat.zero_add]at Ct;rw [show(BW K[i]).ay=K[i]from rfl,ei,Xe]at Ct;have Ct:=of_decide_eq_true Ct.symm;dsimp only;refine⟨?_,by rw [HG];exact Xe⟩;rw [c1,Bool.false_or,beq_eq_false_iff_ne,List.length_map];omega
theorem zzb {t:Ad} {n:Af} {x:Aq} {st:List Ab} (hg:A0 t=true) (hx:x∈t.ah) (hn:x.ab=n):(∀k∈wanted t n x st,k∈Bq t n st)↔JD t n x st:=by
 have hl:CJ n 1=true:=by rw [←hn];exact(E2 hg hx).1
 have hc:=B7.1 (E2 hg hx).2;constructor
 ·intro h q hq hr;obtain⟨w,hw,_,e⟩:=IL.1 (h _ (PZ.2 ⟨q,hq,hr,rfl⟩));exact⟨w,hw,e.symm⟩
 ·intro h k hk;obtain⟨q,hq,hr,rfl⟩:=PZ.1 hk;obtain⟨w,hw,e⟩:=h q hq hr;refine IL.2 ⟨w,hw, ?_,e.symm⟩;rw [e,SF hg hl (Gb hr).1 (by omega) hc.2];simp
theorem oY {t:Ad} {n:Af} {x:Aq} {st:List Ab} (hg:A0 t=true) (hx:x∈t.ah) (hn:x.ab=n):holds t n x 2 st=true↔JE t n x st∧JD t n x st:=by rw [←rT,←zzb hg hx hn,←SH,←SH];unfold holds;rw [if_neg (by decide)];simp
theorem ztV {t:Ad} {n:Af} {x:Aq} {st:List Ab} {f:AY} {r:List Ab × AY} {low:Int} (hg:A0 t=true) (hx:x∈t.ah) (hn:x.ab=n) (h:xR t n x st f r) (hl:low=1∨low=2) (hh:holds t n x low st=true):holds t n x low r.1=true:=by
 have hO:JE t n x st→JE t n x r.1:=fun h0 w hw he=>by
  have mv: ∀q∈st,Cq t q=true→q∈r.1:=fun q hq hr=>aY h.rows.symm hq hr;rcases h.back w hw with h1|⟨q,h1,h2,e⟩
  ·obtain⟨q,q1,q2,q3⟩:=h0 w h1 he;exact⟨q,mv q q1 q2,q2,q3⟩
  ·exact⟨q,mv q h1 h2,h2,e⟩
 have hL:JD t n x st→JD t n x r.1:=fun h0 q hq hr=>by obtain⟨w,w1,w2⟩:=h0 q (aY h.rows hq hr) hr;obtain⟨w',h3,h4⟩:=h.grow w w1;exact⟨w',h3,h4.trans w2⟩
 rcases hl with rfl|rfl
 ·exact Me.2 (hO (Me.1 hh))
 ·have h2:=(oY hg hx hn).1 hh;exact(oY hg hx hn).2 ⟨hO h2.1,hL h2.2⟩
theorem zx7 {t:Ad} {n:Af} {x:Aq} {st:List Ab} {f:AY} {r:List Ab × AY} {low:Int} (h:wL t n st f r) (hl:low=0∨low=1) (hh:holds t n x low st=true):holds t n x low r.1=true:=by
 rcases hl with rfl|rfl
 ·refine ZD.2 fun w hw=> ?_;have h0:=ZD.1 hh;cases he:Da t n w.af with
  |false=>rfl
  |true=>obtain⟨w0,KL,h2,_⟩:=IL.1 (h.less _ (IL.2 ⟨w,hw,he,rfl⟩));rw [h0 w0 KL]at h2;cases h2
 ·refine Me.2 fun w hw he=> ?_;obtain⟨w0,KL,h2,e⟩:=IL.1 (h.less _ (IL.2 ⟨w,hw,he,rfl⟩));obtain⟨q,q1,q2,q3⟩:=Me.1 hh w0 KL h2;exact⟨q,aY h.rows.symm q1 q2,q2,e.trans q3⟩
def FT (f:AY):Bool:=f.al== []||Am f.al
theorem zy3 {f:AY} (h:f.al.length≤2000000):YO f=some (FT f):=by
 unfold YO FT;by_cases h0:(f.al==([]:Af))=true
 ·rw [if_pos h0,h0];rfl
 ·rw [if_neg h0,gF h,Aa];rw [Bool.not_eq_true]at h0;rw [h0];rfl
theorem zzi {f:AY} (h:f.al.length≤2000000):Vx f=some (FT f):=by
 unfold Vx FT;by_cases h0:(f.al==([]:Af))=true
 ·rw [if_pos h0,h0];rfl
 ·rw [if_neg h0,wW h,Aa];rw [Bool.not_eq_true]at h0;rw [h0];rfl
theorem ZR {f:AY} (h:FT f=true):f.al.length≤12:=by
 unfold FT at h;rw [Bool.or_eq_true]at h;rcases h with h|h
 ·rw [beq_iff_eq]at h;rw [h];simp
 ·exact ZX h
structure HI (w:AK):Prop where
 shift:D6 w.ae
 up:w.cy.al.length≤2000000
 down:w.bj.al.length≤2000000
structure Kz (w:AK):Prop where
 shift:Cc w.ae
 up:FT w.cy=true
 down:FT w.bj=true
theorem zzI {w:AK} (hS:HI w): ∃g,PO w=some g∧NI w=some g∧(g=true↔Kz w):=by
 obtain⟨g1,e1,f1⟩:=uP hS.shift;obtain⟨g2,e2,f2⟩:=aQ hS.shift;have hg:g1=g2:=by rw [Bool.eq_iff_iff,f1,f2]
 subst hg;refine⟨g1&&(FT w.cy&&FT w.bj), ?_, ?_, ?_⟩
 ·unfold PO;rw [e1,Aa,zy3 hS.up,zy3 hS.down];cases g1<;>cases FT w.cy<;>rfl
 ·unfold NI;rw [e2,Aa,zzi hS.up,zzi hS.down];cases g1<;>cases FT w.cy<;>rfl
 ·simp only [Ae];exact⟨fun h=>⟨f1.1 h.1,h.2.1,h.2.2⟩,fun h=>⟨f1.2 h.shift,h.up,h.down⟩⟩
structure iU (w:AK) (a:DQ):Prop where
 ok:a.ak=1∧I7 w.ae a.ax∨(a.ak=2∨a.ak=3)∧1≤a.bz∧a.bz≤24
def My (w:AK) (a:DQ):Bool:=
 if a.ak=1 then a.bz==0&&Mf w.ae (Ej w.ae a.ax.a6) a.ax else
 if a.ak=2∨a.ak=3 then Bw a.bz 1 24&&((a.ax.a6==0)&&((a.ax.bd==0)&&bare a.ax.ax))else false
theorem w5 {a:DQ} {v:Bool}:YN a v=some (v&&(Bw a.bz 1 24&&((a.ax.a6==0)&&((a.ax.bd==0)&&bare a.ax.ax)))):=by have em:zY a.bz=some (Bw a.bz 1 24):=rfl;have eb:lH a.ax.ax=some (bare a.ax.ax):=rfl;unfold YN;rw [em,eb,Aa,Aa];cases v<;>cases Bw a.bz 1 24<;>cases(a.ax.a6==0)<;>cases(a.ax.bd==0)<;>rfl
theorem zv4 {w:AK} {a:DQ} (hg:Cc w.ae) (hA:FC a.ax.ax):mA w a=some (My w a):=by
 have e:=zzo (a:=a.ax) hg hA;unfold mA My;by_cases h1:a.ak=1
 ·rw [if_pos (by simpa using h1),if_pos h1,e,Aa];cases hm:(a.bz==0)<;>rfl
 ·rw [if_neg (by simpa using h1),if_neg h1];by_cases h2:a.ak=2
  ·rw [if_pos (by simpa using h2),if_pos (.inl h2),w5,h2];rfl
  ·rw [if_neg (by simpa using h2),w5];by_cases h3:a.ak=3
   ·rw [if_pos (.inr h3),h3];rfl
   ·rw [if_neg (by simp [h2,h3]),show(a.ak==3)=false by simpa using h3];rfl
theorem wG {a:DQ} {v:Bool}:Ya a v=some (v&&(Bw a.bz 1 24&&((a.ax.a6==0)&&((a.ax.bd==0)&&bare a.ax.ax)))):=by have em:GM a.bz 1 24=some (Bw a.bz 1 24):=rfl;have eb:VP a.ax.ax=some (bare a.ax.ax):=rfl;unfold Ya;rw [em,eb,Aa,Aa];cases v<;>cases Bw a.bz 1 24<;>cases(a.ax.a6==0)<;>cases(a.ax.bd==0)<;>rfl
theorem zBr {w:AK} {a:DQ} (hg:Cc w.ae) (hA:FC a.ax.ax):Yh w a=some (My w a):=by
 have e:=zt7 (a:=a.ax) hg hA;unfold Yh My;by_cases h1:a.ak=1
 ·rw [if_pos (by simpa using h1),if_pos h1,e,Aa];cases hm:(a.bz==0)<;>rfl
 ·rw [if_neg (by simpa using h1),if_neg h1];by_cases h2:a.ak=2
  ·rw [if_pos (by simpa using h2),if_pos (.inl h2),wG,h2];rfl
  ·rw [if_neg (by simpa using h2),wG];by_cases h3:a.ak=3
   ·rw [if_pos (.inr h3),h3];rfl
   ·rw [if_neg (by simp [h2,h3]),show(a.ak==3)=false by simpa using h3];rfl
theorem zFE {w:AK} {a:DQ} (hg:Cc w.ae) (h:My w a=true):iU w a:=by
 unfold My at h;by_cases h1:a.ak=1
 ·rw [if_pos h1,Ae]at h;exact⟨.inl ⟨h1,wM hg h.2⟩⟩
 ·rw [if_neg h1]at h;by_cases h2:a.ak=2∨a.ak=3
  ·rw [if_pos h2,Ae]at h;have:=B7.1 h.1;exact⟨.inr ⟨h2,this⟩⟩
  ·rw [if_neg h2]at h;cases h
theorem oR {s:Ar} (hS:D6 s) (hg:Cc s):L6 s=some (Cj s):=by
 obtain⟨h1,h4,hA,_,h3,hB,hR⟩:=hg;have h3:=B7.1 h3;have AW: ∀y∈s.bp,∃tb x,getI s.aj y=some tb∧tb∈s.aj∧EJ tb s.ab x∧Bi tb s.ab=x.aq:=fun y hy=>by obtain⟨tb,q1,q2,_⟩:=Kt (hB y hy).1 (by have:=(hB y hy).2;omega:y<s.aj.length);obtain⟨x,q3,q4,_⟩:=Ku (hA tb q2);exact⟨tb,x,q1,q2,q3,q4⟩
 have hn:(Cj s).length=s.bp.length:=by simp [Cj]
 have hl:(Cj s).length≤2000000:=by have:=hS.at_;omega
 refine zwb (s:=s) (st:=Cj s) hn hl fun i hi=> ?_;have EE:i<s.bp.length:=by omega
 obtain⟨tb,x,q1,q2,q3,q4⟩:=AW _ (List.getElem_mem EE);refine⟨s.bp[i],tb,_,x,AR EE,q1,IS (hS.way _ q2),q3.at_, ?_⟩;simp only [Cj,List.getElem_map,q1,Option.getD_some,q4]
theorem zGc {w:AK} (hS:D6 w.ae) (hg:Cc w.ae):Rj w=some (((Cj w.ae).filter fun y=>decide (y≥2)).length:Int):=by
 obtain⟨h1,h4,hA,_,h3,hB,hR⟩:=hg;have h3:=B7.1 h3;have AW: ∀y∈w.ae.bp,∃tb x,getI w.ae.aj y=some tb∧tb∈w.ae.aj∧EJ tb w.ae.ab x∧Bi tb w.ae.ab=x.aq:=fun y hy=>by obtain⟨tb,q1,q2,_⟩:=Kt (hB y hy).1 (by have:=(hB y hy).2;omega:y<w.ae.aj.length);obtain⟨x,q3,q4,_⟩:=Ku (hA tb q2);exact⟨tb,x,q1,q2,q3,q4⟩
 have hn:(Cj w.ae).length=w.ae.bp.length:=by simp [Cj]
 have hl:(Cj w.ae).length≤2000000:=by have:=hS.at_;omega
 refine zG9 (w:=w) (st:=Cj w.ae) hn hl fun i hi=> ?_;have EE:i<w.ae.bp.length:=by omega
 obtain⟨tb,x,q1,q2,q3,q4⟩:=AW _ (List.getElem_mem EE);refine⟨tb, ?_, ?_⟩
 ·unfold GO;rw [AR EE,Aa,q1,Aa]
 ·rw [aN (hS.way _ q2) q3];simp only [Cj,List.getElem_map,q1,Option.getD_some,q4]
theorem zHs {s:Ar} (hS:D6 s) (hg:Cc s) {i:Int} (h:0≤i∧i≤(s.bp.length:Int)-1):GO s i=some (Ej s i)∧Kk s (Ej s i)=some (Bi (Ej s i) s.ab)∧getI (Cj s) i=some (Bi (Ej s i) s.ab)∧Ej s i∈s.aj∧Bi (Ej s i) s.ab∈Cj s:=by
 obtain⟨y,t,e1,e2,ht,_,_⟩:=Tc hg h;have et:Ej s i=t:=by unfold Ej;rw [e1,Option.getD_some,e2];rfl
 rw [et];obtain⟨x,q3,q4,_⟩:=Ku (hg.2.2.1 t ht);obtain⟨k,rfl⟩:=Int.eq_ofNat_of_zero_le h.1;have hk:k<s.bp.length:=by omega
 have ey:s.bp[k]=y:=by rw [AR hk]at e1;exact Option.some.inj e1
 have JY:k<(Cj s).length:=by simp only [Cj,List.length_map];exact hk
 have e5:(Cj s)[k]=Bi t s.ab:=by simp only [Cj,List.getElem_map,ey,e2,Option.getD_some]
 refine⟨?_, ?_, ?_,ht, ?_⟩
 ·unfold GO;rw [e1,Aa,e2];rfl
 ·rw [aN (hS.way _ ht) q3,q4]
 ·rw [AR JY,e5]
 ·rw [←e5];exact List.getElem_mem JY
theorem vQ (p:Int→Bool): ∀l:List Int,(((l.filter p).length:Int)==(l.length:Int))=l.all p
 | []=>rfl
 |y::l=>by
  have ih:=vQ p l;have hle:=List.length_filter_le p l;rw [List.all_cons,←ih,Bool.eq_iff_iff,List.filter_cons];cases hp:p y with
  |true=>simp only [if_true,An,beq_iff_eq,Bool.true_and];omega
  |false=>simp only [AX,if_false,An,beq_iff_eq,Bool.false_and,iff_false];omega
theorem vC (p:Int→Bool): ∀l:List Int,(((l.filter p).length:Int)==0)= !l.any p
 | []=>rfl
 |y::l=>by
  have ih:=vC p l;rw [List.any_cons,Bool.not_or,←ih,Bool.eq_iff_iff,List.filter_cons];cases hp:p y with
  |true=>simp only [if_true,An,beq_iff_eq,Bool.not_true,Bool.false_and,AX,iff_false];omega
  |false=>simp only [AX,if_false,Bool.not_false,Bool.true_and]
def DU:AY:=⟨[],false⟩
def Jy (w:AK) (m:Nat):List Ab × AY:=HM ((rows (AT w.ae) w.ae.ao).map (A4 (AT w.ae) (CS (AT w.ae) w.ae.ab))) w.cy m w.ae.ao
def gM (w:AK) (m:Nat):List Ab × AY:=HM ((Bq (AT w.ae) w.ae.ab w.ae.ao).map BW) w.bj m w.ae.ao
def HT (s:Ar) (l:List Ab):Ar:=⟨s.ab,s.aj,s.bp,l⟩
inductive I5 (w:AK) (a:DQ):AK × Bool→Prop
 |stay:I5 w a (w,false)
 |move (q:Ar) (h1:a.ak=1) (h0:a.ax.bd≠0) (ha:I7 w.ae a.ax) (hd:GQ w.ae a.ax=some (q,true)) (hm:Sg w.ae a.ax=some true):I5 w a (⟨q,w.cy,w.bj⟩,true)
 |pn (q:Ar) (h1:a.ak=1) (h0:a.ax.bd=0) (ha:I7 w.ae a.ax) (hd:GQ w.ae a.ax=some (q,true)) (hs:Bi (Ej w.ae a.ax.a6) w.ae.ab≥2):I5 w a (⟨q,w.cy,DU⟩,true)
 |none (q:Ar) (h1:a.ak=1) (h0:a.ax.bd=0) (ha:I7 w.ae a.ax) (hd:GQ w.ae a.ax=some (q,true)) (hs: ¬Bi (Ej w.ae a.ax.a6) w.ae.ab≥2):I5 w a (⟨q,DU,w.bj⟩,true)
 |fill (h2:a.ak=2) (hs:((Cj w.ae).all fun y=>decide (y≥2))=true):I5 w a (⟨HT w.ae (Jy w a.bz.toNat).1,(Jy w a.bz.toNat).2,DU⟩,true)
 |clear (h3:a.ak=3) (hs:((Cj w.ae).any fun y=>decide (y≥2))=false):I5 w a (⟨HT w.ae (gM w a.bz.toNat).1,DU,(gM w a.bz.toNat).2⟩,true)
structure JB (w r:AK):Prop where
 shift:Li w.ae r.ae
 up:FT w.cy=true→FT r.cy=true
 down:FT w.bj=true→FT r.bj=true
 py:r.cy.al.length≤w.cy.al.length+12
 pb:r.bj.al.length≤w.bj.al.length+12
theorem JB.refl {w:AK} (hS:HI w) (hg:Cc w.ae):JB w w:=⟨⟨hg,hS.shift,rfl,rfl,rfl⟩,fun h=>h,fun h=>h,by omega,by omega⟩
theorem ZJ:FT DU=true:=rfl
theorem zv9 {s:Ar} {l:List Ab} (hS:D6 s) (hg:Cc s) (hl:BS l=true):Li s (HT s l):=by have hr:=(DR hl).1;have Je:=hr.len;exact⟨⟨hg.1,hg.2.1,hg.2.2.1,hg.2.2.2.1,hg.2.2.2.2.1,hg.2.2.2.2.2.1,hl⟩,⟨hS.name,hS.ways,hS.way,hS.at_,VN (by show l.length≤2000000;omega) hr.bq⟩,rfl,rfl,rfl⟩
theorem zvI {f:AY} {k:Af} {b:Bool} (h:k=f.al∨Am k=true):(FT f=true→FT ⟨k,b⟩=true)∧k.length≤f.al.length+12:=by
 rcases h with rfl|h
 ·exact⟨fun g=>g,by omega⟩
 ·refine⟨fun _=> ?_,by have:=ZX h;omega⟩;unfold FT;dsimp only;rw [h,Bool.or_true]
theorem uK {w:AK} (hS:HI w):mR w=some w:=by unfold mR;rw [Qe hS.shift];rfl
theorem zyo {w:AK} (hS:HI w):Vw w=some w:=by unfold Vw;rw [zyf hS.shift];rfl
theorem zCQ {w:AK} {a:DQ} (hS:HI w) (hg:Cc w.ae) (hA:FC a.ax.ax) (k1:a.ak=1) (B1:I7 w.ae a.ax): ∃r:AK × Bool,NL w a.ax=some r∧LZ w a.ax=some r∧I5 w a r∧JB w r.1:=by
 obtain⟨⟨q,b⟩,d1,d2,hn⟩:=P5 hS.shift hg hA B1;obtain⟨t1,t2,t3,t4,t5⟩:=zHs hS.shift hg B1.srv;have AW:=oR hS.shift hg;have EV:NF (Bi (Ej w.ae a.ax.a6) w.ae.ab)=some (decide (Bi (Ej w.ae a.ax.a6) w.ae.ab≥2)):=rfl;have hc:=zyo hS;by_cases h0:a.ax.bd=0
 ·have hb:(a.ax.bd==0)=true:=by simpa using h0
  cases b with
  |false=>
   refine⟨(w,false), ?_, ?_, .stay, .refl hS hg⟩
   ·unfold NL;simp only [bne,hb,Bool.not_true,Bool.not_false,AX,if_false,if_true,AW,t3,d1,Aa]
   ·unfold LZ;simp only [bne,hb,hc,Bool.not_true,Bool.not_false,AX,if_false,if_true,d2,Aa]
  |true=>
   cases hd:decide (Bi (Ej w.ae a.ax.a6) w.ae.ab≥2)with
   |true=>
    rw [hd]at EV;refine⟨(⟨q,w.cy,DU⟩,true), ?_, ?_, .pn q k1 h0 B1 d1 (of_decide_eq_true hd),⟨hn,fun h=>h,fun _=>ZJ,by dsimp only;omega,by simp [DU]⟩⟩
    ·unfold NL;simp only [bne,hb,hd,Bool.not_true,AX,if_false,if_true,AW,t3,d1,Aa,Bool.and_self];rfl
    ·unfold LZ;simp only [bne,hb,hc,EV,t1,t2,Bool.not_true,AX,if_false,if_true,d2,Aa];rfl
   |false=>
    rw [hd]at EV;refine⟨(⟨q,DU,w.bj⟩,true), ?_, ?_, .none q k1 h0 B1 d1 (of_decide_eq_false hd),⟨hn,fun _=>ZJ,fun h=>h,by simp [DU],by dsimp only;omega⟩⟩
    ·unfold NL;simp only [bne,hb,hd,Bool.not_true,AX,if_false,if_true,AW,t3,d1,Aa,Bool.and_false];rfl
    ·unfold LZ;simp only [bne,hb,hc,EV,t1,t2,Bool.not_true,AX,if_false,if_true,d2,Aa];rfl
 ·have hb:(a.ax.bd==0)=false:=by simpa using h0
  obtain⟨m,m1,m2⟩:=zyB hS.shift hg hA B1;cases m with
  |false=>
   refine⟨(w,false), ?_, ?_, .stay, .refl hS hg⟩
   ·unfold NL;simp only [bne,hb,m1,Bool.not_false,if_true,Aa]
   ·unfold LZ;simp only [bne,hb,hc,m2,Bool.not_false,if_true,Aa]
  |true=>
   cases b with
   |false=>
    refine⟨(w,false), ?_, ?_, .stay, .refl hS hg⟩
    ·unfold NL;simp only [bne,hb,m1,Bool.not_false,Bool.not_true,AX,if_false,if_true,AW,t3,d1,Aa]
    ·unfold LZ;simp only [bne,hb,hc,m2,Bool.not_false,Bool.not_true,AX,if_false,if_true,d2,Aa]
   |true=>
    refine⟨(⟨q,w.cy,w.bj⟩,true), ?_, ?_, .move q k1 h0 B1 d1 m1,⟨hn,fun h=>h,fun h=>h,by dsimp only;omega,by dsimp only;omega⟩⟩
    ·unfold NL;simp only [bne,hb,m1,Bool.not_false,Bool.not_true,AX,if_false,if_true,AW,t3,d1,Aa,Bool.false_and]
    ·unfold LZ;simp only [bne,hb,hc,m2,Bool.not_false,Bool.not_true,AX,if_false,if_true,d2,Aa]
theorem zzU {w:AK} {a:DQ} (hS:HI w) (hg:Cc w.ae) (hA:FC a.ax.ax) (ha:iU w a): ∃r:AK × Bool,NJ w a=some r∧NA w a=some r∧I5 w a r∧JB w r.1:=by
 have hln:(Cj w.ae).length=w.ae.bp.length:=by simp [Cj]
 have hp:=u5 (oR hS.shift hg) (by have:=hS.shift.at_;omega);have hh:=zGc (w:=w) hS.shift hg;have h0:=(Jm (s:=w.ae) hg.1).1;have fI:=E3 (first_has' hg);obtain⟨_,_,n1,n2,n3⟩:=WS (first_has' hg);have hR:=hg.2.2.2.2.2.2;have hc:=zyo hS;rcases ha.ok with⟨k1,B1⟩|⟨hk,m1,m2⟩
 ·obtain⟨r,e1,e2,e3,e4⟩:=zCQ hS hg hA k1 B1;have kb:(a.ak==1)=true:=by simpa using k1
  refine⟨r, ?_, ?_,e3,e4⟩
  ·unfold NJ;simp only [hp,kb,if_true,e1,Aa]
  ·unfold NA;simp only [kb,if_true,e2,Aa]
 ·have k1:(a.ak==1)=false:=by
   rw [beq_eq_false_iff_ne];rcases hk with h|h<;>omega
  rcases hk with hk|hk
  ·have k2:(a.ak==2)=true:=by simpa using hk
   have k3:(a.ak==3)=false:=by rw [beq_eq_false_iff_ne];omega
   have hq:=vQ (fun y=>decide (y≥2)) (Cj w.ae);rw [hln]at hq;cases Ck:(Cj w.ae).all fun y=>decide (y≥2)with
   |true=>
    rw [Ck]at hp hq;obtain⟨v,f1,f2,f3,f4,f5⟩:=zw7 (f:=w.cy) (many:=a.bz) fI.2.2.2.2.2 fI.1 fI.2.2.1 fI.1.name (by omega) n1 hR m1 m2;obtain⟨z,z1,z2⟩:=Hc f2;have hl:=zvI (b:=v.2.bf) f4;refine⟨(⟨HT w.ae v.1,v.2,DU⟩,true), ?_, ?_, ?_,⟨zv9 hS.shift hg f3,hl.1,fun _=>ZJ,hl.2,by simp [DU]⟩⟩
    ·unfold NJ;simp only [hp,k1,k2,Bool.and_self,AX,if_false,if_true,h0,f1,Aa];rfl
    ·unfold NA;simp only [hc,k1,k2,hh,hq,AX,if_false,if_true,h0,z1,z2,Aa];rfl
    ·rw [f5];exact .fill hk Ck
   |false=>
    rw [Ck]at hp hq;refine⟨(w,false), ?_, ?_, .stay, .refl hS hg⟩
    ·unfold NJ;simp only [hp,k1,k2,k3,Bool.and_false,Bool.false_and,AX,if_false,Aa]
    ·unfold NA;simp only [hc,k1,k2,k3,hh,hq,AX,if_false,if_true,Aa]
  ·have k2:(a.ak==2)=false:=by rw [beq_eq_false_iff_ne];omega
   have k3:(a.ak==3)=true:=by simpa using hk
   have hq:=vC (fun y=>decide (y≥2)) (Cj w.ae);cases FY:(Cj w.ae).any fun y=>decide (y≥2)with
   |false=>
    rw [FY]at hp hq;obtain⟨v,f1,f2,f3,f4,f5⟩:=zzm (f:=w.bj) (many:=a.bz) fI.2.2.2.2.2 (by omega) n3 hR m1 m2;obtain⟨z,z1,z2⟩:=Hc f2;have hl:=zvI (b:=v.2.bf) f4;refine⟨(⟨HT w.ae v.1,DU,v.2⟩,true), ?_, ?_, ?_,⟨zv9 hS.shift hg f3,fun _=>ZJ,hl.1,by simp [DU],hl.2⟩⟩
    ·unfold NJ;simp only [hp,k1,k2,k3,Bool.false_and,Bool.not_false,Bool.and_self,AX,if_false,if_true,h0,f1,Aa];rfl
    ·unfold NA;simp only [hc,k1,k2,k3,hh,hq,Bool.not_false,AX,if_false,if_true,h0,z1,z2,Aa];rfl
    ·rw [f5];exact .clear hk FY
   |true=>
    rw [FY]at hp hq;refine⟨(w,false), ?_, ?_, .stay, .refl hS hg⟩
    ·unfold NJ;simp only [hp,k1,k2,k3,Bool.false_and,Bool.not_true,Bool.and_false,AX,if_false,Aa]
    ·unfold NA;simp only [hc,k1,k2,k3,hh,hq,Bool.not_true,AX,if_false,if_true,Aa]
where
 first_has' {s:Ar} (hg:Cc s):BX (AT s) s.ab=true:=hg.2.2.1 _ (Jm (s:=s) hg.1).2
def UK:AK:=⟨MK,DU,DU⟩
structure zIc (w:AK) (a:DQ) (g ga:Bool) (r:AK × Bool × Bool):Prop where
 gs:PO w=some g
 gi:NI w=some g
 as_:Vr w a=some ga
 ai:Vq w a=some ga
 ss:YZ w a=some r
 si:PL w a=some r
 ok:r.2.2=ga
 res:r.1=UK∨JB w r.1
 bq:g=true↔Kz w
 on:ga=true→Kz w∧iU w a∧I5 w a (r.1,r.2.1)∧JB w r.1
theorem zCq {w:AK} {a:DQ} (hS:HI w) (hA:FC a.ax.ax): ∃g ga r,zIc w a g ga r:=by
 obtain⟨g,e1,e2,e3⟩:=zzI hS;have KI:Vr w a=some (g&&My w a):=by
  unfold Vr;rw [e1,Aa];cases hg:g with
  |false=>rfl
  |true=>rw [if_pos rfl,zv4 (e3.1 hg).shift hA];rfl
 have QG:Vq w a=some (g&&My w a):=by
  unfold Vq;rw [e2,Aa];cases hg:g with
  |false=>rfl
  |true=>rw [if_pos rfl,zBr (e3.1 hg).shift hA];rfl
 cases Fb:(g&&My w a)with
 |false=>
  rw [Fb]at KI QG;refine⟨g,false,(UK,false,false),e1,e2,KI,QG, ?_, ?_,rfl, .inl rfl,e3,fun h=>by cases h⟩
  ·unfold YZ;rw [KI];rfl
  ·unfold PL;rw [QG];rfl
 |true=>
  rw [Fb]at KI QG;rw [Ae]at Fb;have hK:=e3.1 Fb.1;have ha:=zFE hK.shift Fb.2;obtain⟨r,d1,d2,d3,d4⟩:=zzU hS hK.shift hA ha;refine⟨g,true,(r.1,r.2,true),e1,e2,KI,QG, ?_, ?_,rfl, .inr d4,e3,fun _=>⟨hK,ha,d3,d4⟩⟩
  ·unfold YZ;rw [KI,Aa,if_neg (by simp),uK hS,Aa,d1];rfl
  ·unfold PL;rw [QG,Aa,if_neg (by simp),d2];rfl
def NZ (w:AK):Prop:=K7 (AT w.ae) w.ae.ab (CS (AT w.ae) w.ae.ab).bm w.ae.ao w.cy
def SO (w:AK):Prop:=K2 (AT w.ae) w.ae.ab w.ae.ao w.bj
theorem vG {s:Ar} {a:D4} (hS:D6 s) (hg:Cc s) (hA:FC a.ax) (B1:I7 s a) (h0:a.bd≠0) {r:Ar × Bool} (hr:GQ s a=some r):r.1.ao=s.ao:=by
 obtain⟨y,t,e1,e2,ht,Ia,hy1⟩:=Tc hg B1.srv;have h1:=hg.1;have h4:=hg.2.1;have w:IntKind.i64.wrap ((s.aj.length:Int)-1)=(s.aj.length:Int)-1:=A8 (by omega) (by omega);have AW:a.bd=1∨a.bd= -1:=by rcases B1.step with h|h|h;exact absurd h h0;exact .inl h;exact .inr h
 have w2:IntKind.i64.wrap (y+a.bd)=y+a.bd:=A8 (by omega) (by omega);unfold GQ at hr;rw [Qe hS,Aa,w,if_pos (by simpa using h0)]at hr;simp only [e1,Aa,w2,Gm]at hr;cases hv:Bw (y+a.bd) 0 ((s.aj.length:Int)-1)with
 |false=>rw [hv]at hr;cases hr;rfl
 |true=>rw [hv]at hr;cases hr;rfl
theorem Mc {s:Ar} (hg:Cc s):BX (AT s) s.ab=true:=hg.2.2.1 _ (Jm (s:=s) hg.1).2
theorem oX {s r:Ar} (h:r.aj=s.aj):AT r=AT s:=by unfold AT;rw [h]
theorem zxG {w:AK} {m:Nat} (hg:Cc w.ae):BS (gM w m).1=true:=by have hR:=hg.2.2.2.2.2.2;refine zip _ m 0 (fun k hk=> ?_) hR;obtain⟨q,hq,rfl⟩:=List.mem_map.1 (List.mem_filter.1 hk).1;exact V6 (mV hR q hq)
theorem zAn {w:AK} {m:Nat} (hg:Cc w.ae):BS (Jy w m).1=true:=by have hR:=hg.2.2.2.2.2.2;have fI:=E3 (Mc hg);refine zip _ m 0 (fun k hk=> ?_) hR;obtain⟨q,hq,rfl⟩:=List.mem_map.1 (List.mem_filter.1 hk).1;exact Wo fI.2.2.2.2.2 fI.2.2.1 (P0 hq)
section
variable {w:AK} {a:DQ} {r:AK × Bool} (hS:HI w) (hg:Cc w.ae) (hA:FC a.ax.ax)
include hS hg hA
theorem zv7 {q:Ar} (h0:a.ax.bd=0) (ha:I7 w.ae a.ax) (hd:GQ w.ae a.ax=some (q,true)): ∃t,t=Ej w.ae a.ax.a6∧t∈w.ae.aj∧Fm t a.ax.ax w.ae.ab (CS t w.ae.ab)∧q=HT w.ae (Bb w.ae.ao (D9 t a.ax.ax)).1∧(CS t w.ae.ab).aq=Bi t w.ae.ab:=by obtain⟨y,t,e1,e2,ht,Fb,e⟩:=zy1 hS.shift hg hA ha h0;rw [hd]at e;have e:=Option.some.inj e;have eq:=congrArg Prod.fst e;have f:=E3 (hg.2.2.1 t ht);refine⟨t, ?_,ht,vK f.2.2.2.2.2 f.2.2.1 f.1.name Fb,eq,f.2.1.symm⟩;unfold Ej;rw [e1,Option.getD_some,e2];rfl
theorem zsF (h:I5 w a r) (hF:NZ w):NZ r.1:=by
 have hR:=hg.2.2.2.2.2.2;have fI:=E3 (Mc hg);cases h with
 |stay=>exact hF
 |move q h1 h0 ha hd hm=>obtain⟨r',k1,_,hn⟩:=P5 hS.shift hg hA ha;rw [hd]at k1;cases k1;have es:=vG hS.shift hg hA ha h0 hd;unfold NZ at hF ⊢;dsimp only at hF ⊢ hn es;rw [oX hn.ways,hn.name,es];exact hF
 |pn q h1 h0 ha hd hs=>obtain⟨t,et,ht,A,rfl,e2⟩:=zv7 hS hg hA h0 ha hd;rw [←et]at hs;obtain⟨w1,w2,w3⟩:=pZ hg ht;unfold NZ at hF ⊢;dsimp only [HT];rw [show AT (⟨w.ae.ab,w.ae.aj,w.ae.bp,(Bb w.ae.ao (D9 t a.ax.ax)).1⟩:Ar)=AT w.ae from rfl,←w3];rw [←w3]at hF;exact(zsz w1 w2).1 (zz4 A hR (by rw [e2];exact hs) ((zsz w1 w2).2 hF))
 |none q h1 h0 ha hd hs=>obtain⟨r',k1,_,hn⟩:=P5 hS.shift hg hA ha;rw [hd]at k1;cases k1;exact nL hn.bq.2.2.2.2.2.2
 |fill h2 hs=>exact(oU (m:=a.bz.toNat) fI.2.2.2.2.2 fI.2.2.1 fI.1.name hR).filled hF
 |clear h3 hs=>exact nL (zxG hg)
theorem zxd (h:I5 w a r) (hC:SO w):SO r.1:=by
 have hR:=hg.2.2.2.2.2.2;have fI:=E3 (Mc hg);cases h with
 |stay=>exact hC
 |move q h1 h0 ha hd hm=>obtain⟨r',k1,_,hn⟩:=P5 hS.shift hg hA ha;rw [hd]at k1;cases k1;have es:=vG hS.shift hg hA ha h0 hd;unfold SO at hC ⊢;dsimp only at hC ⊢ hn es;rw [oX hn.ways,hn.name,es];exact hC
 |pn q h1 h0 ha hd hs=>obtain⟨r',k1,_,hn⟩:=P5 hS.shift hg hA ha;rw [hd]at k1;cases k1;exact zqy hn.bq.2.2.2.2.2.2
 |none q h1 h0 ha hd hs=>obtain⟨t,et,ht,A,rfl,e2⟩:=zv7 hS hg hA h0 ha hd;rw [←et]at hs;obtain⟨w1,w2,w3⟩:=pZ hg ht;unfold SO at hC ⊢;dsimp only [HT];rw [show AT (⟨w.ae.ab,w.ae.aj,w.ae.bp,(Bb w.ae.ao (D9 t a.ax.ax)).1⟩:Ar)=AT w.ae from rfl];exact(zqw w1 w2).1 (zxp A hR (by rw [e2];omega) ((zqw w1 w2).2 hC))
 |fill h2 hs=>exact zqy (zAn hg)
 |clear h3 hs=>exact(zss (m:=a.bz.toNat) fI.2.2.2.2.2 hR).jx hC
theorem zAY (h:I5 w a r) (hh:GU w.ae=true) (hc:Fi w.ae.bp=true):Fi r.1.ae.bp=true∧GU r.1.ae=true:=by
 have hR:=hg.2.2.2.2.2.2;have fI:=E3 (Mc hg);cases h with
 |stay=>exact⟨hc,hh⟩
 |move q h1 h0 ha hd hm=>have e:=vZ hS.shift hg hA ha hd;rw [hm]at e;have e:=Option.some.inj e;simp only [Bool.true_and]at e;have e:=e.symm;rw [Ae]at e;exact e
 |pn q h1 h0 ha hd hs=>exact zt4 hS.shift hg hA ha hd hh hc fun h=>absurd h0 h
 |none q h1 h0 ha hd hs=>exact zt4 hS.shift hg hA ha hd hh hc fun h=>absurd h0 h
 |fill h2 hs=>
  refine⟨hc, ?_⟩;have hn:FV (Cj w.ae)=1∨FV (Cj w.ae)=2:=by
   unfold FV;split
   ·exact .inr rfl
   ·rw [if_neg (by
     intro h;rw [List.contains_iff_mem]at h;have:=AG.1 hs _ h;simp at this)]
    exact .inl rfl
  exact ztV fI.2.2.2.2.2 fI.2.2.1 fI.1.name (oU (m:=a.bz.toNat) fI.2.2.2.2.2 fI.2.2.1 fI.1.name hR) hn hh
 |clear h3 hs=>
  refine⟨hc, ?_⟩;have hn:FV (Cj w.ae)=0∨FV (Cj w.ae)=1:=by
   unfold FV;rw [if_neg (by intro h;rw [List.contains_iff_mem]at h;have:=List.any_eq_false.1 hs _ h;simp at this)]
   split
   ·exact .inl rfl
   ·exact .inr rfl
  exact zx7 (zss (m:=a.bz.toNat) fI.2.2.2.2.2 hR) hn hh
end
theorem JB.small {w r:AK} (h:JB w r) (hg:Kz w):HI r:=⟨h.shift.small,by have:=ZR (h.up hg.up);omega,by have:=ZR (h.down hg.down);omega⟩
theorem JB.bq {w r:AK} (h:JB w r) (hg:Kz w):Kz r:=⟨h.shift.bq,h.up hg.up,h.down hg.down⟩
structure Nu (w r:AK):Prop where
 shift:Li w.ae r.ae
 bq:Kz r
 small:HI r
 filled:NZ w→NZ r
 jx:SO w→SO r
 held:GU w.ae=true→Fi w.ae.bp=true→Fi r.ae.bp=true∧GU r.ae=true
theorem Nu.refl {w:AK} (hS:HI w) (hg:Kz w):Nu w w:=⟨.refl hS.shift hg.shift,hg,hS,fun h=>h,fun h=>h,fun h k=>⟨k,h⟩⟩
theorem Nu.step {w r:AK} {a:DQ} {b:Bool} (hS:HI w) (hg:Kz w) (hA:FC a.ax.ax) (h:I5 w a (r,b)) (k:JB w r):Nu w r:=
 ⟨k.shift,k.bq hg,k.small hg,zsF hS hg.shift hA h,zxd hS hg.shift hA h,fun h1 h2=>zAY hS hg.shift hA h h1 h2⟩
theorem Nu.trans {w r q:AK} (h:Nu w r) (k:Nu r q):Nu w q:=
 ⟨h.shift.trans k.shift,k.bq,k.small,fun f=>k.filled (h.filled f),fun f=>k.jx (h.jx f),fun h1 h2=>k.held (h.held h1 h2).2 (h.held h1 h2).1⟩
def vO (w:AK):Bool:=(rows (AT w.ae) w.ae.ao).all fun r=> !(w.cy.bf|| !behind w.cy.al (AO (AT w.ae) r).af)||(Bq (AT w.ae) w.ae.ab w.ae.ao).contains (By (AT w.ae) w.ae.ab (CS (AT w.ae) w.ae.ab).bm r)
def zza (w:AK):Bool:=(Bq (AT w.ae) w.ae.ab w.ae.ao).all fun k=> !(w.bj.bf|| !behind w.bj.al k)
structure zIf (w:AK):Prop where
 ph:getI w.ae.aj 0=some (AT w.ae)
 sE:L3 (AT w.ae) w.ae.ab w.ae.ao=some (Bq (AT w.ae) w.ae.ab w.ae.ao)
 iE:KS (AT w.ae) w.ae.ab w.ae.ao=some (Bq (AT w.ae) w.ae.ab w.ae.ao)
 sR:Km (AT w.ae) w.ae.ao=some (rows (AT w.ae) w.ae.ao)
 iR:PC (AT w.ae) w.ae.ao=some (rows (AT w.ae) w.ae.ao)
 lE:(Bq (AT w.ae) w.ae.ab w.ae.ao).length≤24
 lR:(rows (AT w.ae) w.ae.ao).length≤24
 nm:w.ae.ab.length≤2000000
 small:Dk (AT w.ae)
structure zID (w:AK) (g:Bool):Prop where
 gs:PO w=some g
 gi:NI w=some g
 fs:zsP w=some (if g=true then(vO w,true)else(false,false))
 fi:zsQ w=some (if g=true then(vO w,true)else(false,false))
 cs:zqL w=some (if g=true then(zza w,true)else(false,false))
 ci:zqO w=some (if g=true then(zza w,true)else(false,false))
 bq:g=true↔Kz w
structure KD (n:Nat) (w:AK):Prop where
 shift:JF n w.ae
 up:w.cy.al.length≤2000
 down:w.bj.al.length≤2000
theorem KD.small {n:Nat} {w:AK} (h:KD n w) (hn:n≤10):HI w:=⟨h.shift.small hn,by have:=h.up;omega,by have:=h.down;omega⟩
theorem KD.next {n:Nat} {w r:AK} (h:KD n w) (hr:r=UK∨JB w r):HI r:=by
 rcases hr with rfl|hr
 ·exact⟨VY,by simp [UK,DU],by simp [UK,DU]⟩
 ·exact⟨hr.shift.small,by have:=hr.py;have:=h.up;omega,by have:=hr.pb;have:=h.down;omega⟩
theorem zHn {s:Ar} (hS:D6 s) (hg:Cc s):VO s=some (GU s,true):=by obtain⟨g,e,f⟩:=aQ hS;unfold VO;rw [e,Aa,if_neg (by simp [f.2 hg]),(qL hS hg).2];rfl
theorem zDm {l:List Ab} {w:Ab} (hr:CZ l) (hw:w∈l):l.find? (fun y=>y.af==w.af)=some w:=by
 cases h:l.find? (fun y=>y.af==w.af)with
 |none=>rw [List.find?_eq_none]at h;exact absurd (by simp) (h w hw)
 |some z=>
  have hz:=List.mem_of_find?_eq_some h;have hk:z.af=w.af:=by simpa using List.find?_some h
  rw [Ec.fy (key:=fun w:Ab=>w.af) hr hz hw hk]
theorem zCJ {t:Ad} {x:Aq} {r:AI} {st:List Ab} (AW:BS st=true) (hr:r∈rows t st) (hl:st.length≤23):(Bb st (A4 t x r).cd).2=true∧(Bb st (A4 t x r).cd).1.length≤st.length+1:=by
 obtain⟨hR,hn⟩:=DR AW;obtain⟨q,hq,h2,rfl⟩:=Wi.1 hr;have hqw:=(Gb h2).2;have AN:=pH (st:=st) (o:=⟨7,(AO t (BQ q)).af,(AO t (BQ q)).a7,0⟩) (rest:= [⟨2,By t x.ab x.bm (BQ q), [],0⟩]) (by simp) (by simp) (by simp);have Aw:Gf ⟨7,(AO t (BQ q)).af,(AO t (BQ q)).a7,0⟩ (CX st (AO t (BQ q)).af).a7 (CX st (AO t (BQ q)).af).di=true:=by rw [←hqw];unfold Gf CX;rw [zDm hR.b8 hq,if_neg (by simp)];simp
 rw [if_pos Aw]at AN;have hlen:(Dc st [⟨By t x.ab x.bm (BQ q), [],false⟩]).length≤st.length+1:=by unfold Dc;rw [List.foldl_cons,List.foldl_nil];exact Nat.le_trans (List.length_filter_le _ _) (rD _)
 have e:Fl st (A4 t x (BQ q)).cd=([⟨By t x.ab x.bm (BQ q), [],false⟩],true):=AN;unfold Bb;rw [e,if_pos ⟨rfl,by dsimp only;omega⟩];exact⟨rfl,hlen⟩
def Fk (ks:List BU) (last:Af):List BU:=ks.filter fun k=>behind last k.ay
theorem zBy {ks:List BU} {last:Af} {k:BU} {l:List BU} (hr:ks.Pairwise (fun a b=>bl a.ay b.ay=true)) (h:Fk ks last=k::l):Fk ks k.ay=l:=by
 have hb:behind last k.ay=true:=by
  have:k∈Fk ks last:=by rw [h];simp
  simpa using(List.mem_filter.1 this).2
 have e:Fk ks k.ay=(Fk ks last).filter fun q=>behind k.ay q.ay:=by
  unfold Fk;rw [List.filter_filter];apply List.filter_congr;intro q _;cases hq:behind k.ay q.ay with
  |false=>rfl
  |true=>rw [HG]at hq hb ⊢;rw [FQ hb hq];rfl
 have CR:(Fk ks last).Pairwise (fun a b=>bl a.ay b.ay=true):=hr.filter _;rw [e,h];rw [h,List.pairwise_cons]at CR;rw [List.filter_cons_of_neg (by rw [HG,NP];simp)];exact List.filter_eq_self.2 fun q hq=>by rw [HG];exact CR.1 q hq
theorem zC3 {t:Ad} {x:Aq} {st:List Ab} {f:AY} (AW:BS st=true) (hl:st.length+(Fk ((rows t st).map (A4 t x)) f.al).length≤24):
  (HM ((rows t st).map (A4 t x)) f 1 st).1.length+(Fk ((rows t st).map (A4 t x)) (HM ((rows t st).map (A4 t x)) f 1 st).2.al).length≤24∧
   (Fk ((rows t st).map (A4 t x)) (HM ((rows t st).map (A4 t x)) f 1 st).2.al).length=(Fk ((rows t st).map (A4 t x)) f.al).length-1∧
   ((f.bf=true∨Fk ((rows t st).map (A4 t x)) f.al= [])→(HM ((rows t st).map (A4 t x)) f 1 st).2.bf=true):=by
 have B4:=oF (t:=t) (x:=x) (DR AW).1.b8;have hm: ∀k∈Fk ((rows t st).map (A4 t x)) f.al,∃r∈rows t st,k=A4 t x r:=fun k hk=>by obtain⟨r,hr,e⟩:=List.mem_map.1 (List.mem_filter.1 hk).1;exact⟨r,hr,e.symm⟩
 have B8:=fun k l=>zBy (last:=f.al) (k:=k) (l:=l) B4;generalize hT:(rows t st).map (A4 t x)=T at hl hm B8;have eV:HM T f 1 st=((A2 (Fk T f.al) 1 0 st f.al).1,⟨(A2 (Fk T f.al) 1 0 st f.al).2.2,f.bf||((A2 (Fk T f.al) 1 0 st f.al).2.1==(Fk T f.al).length)⟩):=rfl;rw [eV];cases hc:Fk T f.al with
 |nil=>simp only [A2,List.length_nil];rw [hc]at hl ⊢;simp only [List.length_nil]at hl ⊢;exact⟨hl,by first|trivial|rfl|simp,fun _=>by simp⟩
 |cons k l=>
  have BG:=hl;rw [hc,An]at BG;obtain⟨r,hr,rfl⟩:=hm k (by rw [hc];simp);obtain⟨d1,d2⟩:=zCJ (x:=x) AW hr (by omega);have e:A2 (A4 t x r::l) 1 0 st f.al=((Bb st (A4 t x r).cd).1,1,(A4 t x r).ay):=by unfold A2;rw [if_pos d1];cases l<;>rfl
  rw [e];dsimp only;rw [B8 _ _ hc,An];refine⟨by omega,by omega,fun h=> ?_⟩;rcases h with h|h
  ·rw [h];rfl
  ·cases h
theorem zAA {w:AK} (hF:NZ w) (ho:w.cy.bf=true):JD (AT w.ae) w.ae.ab (CS (AT w.ae) w.ae.ab) w.ae.ao:=fun q hq hr=>hF q hq hr (.inl ho)
structure Pn (s0:Ar) (w:AK):Prop where
 bq:Kz w
 small:HI w
 name:w.ae.ab=s0.ab
 ways:w.ae.aj=s0.aj
 at_:w.ae.bp=s0.bp
 rows:rows (AT w.ae) w.ae.ao=Go.Proofs.YtbmbkgalkfmjdaaGreatDoor.rows (AT s0) s0.ao
 filled:NZ w
 pj:JE (AT w.ae) w.ae.ab (CS (AT w.ae) w.ae.ab) w.ae.ao
def Ju (w:AK):List BU:=Fk ((rows (AT w.ae) w.ae.ao).map (A4 (AT w.ae) (CS (AT w.ae) w.ae.ab))) w.cy.al
def LU:DQ:=⟨2,1,⟨0,0,⟨0,⟨[]⟩,⟨[]⟩⟩⟩⟩
theorem Zt:FC LU.ax.ax:=by unfold LU;exact⟨⟨by simp,by simp [D7]⟩,⟨by simp,by simp [D7]⟩⟩
theorem zEc {s0:Ar} {w:AK} (hI:Pn s0 w) (hs:((Cj w.ae).all fun y=>decide (y≥2))=true) (hl:w.ae.ao.length+(Ju w).length≤24):
  ∃r:AK,PL w LU=some (r,true,true)∧Pn s0 r∧((Cj r.ae).all fun y=>decide (y≥2))=true∧r.ae.ao.length+(Ju r).length≤24∧(Ju r).length=(Ju w).length-1∧((w.cy.bf=true∨Ju w= [])→r.cy.bf=true):=by
 have hg:=hI.bq.shift;have hR:=hg.2.2.2.2.2.2;have fI:=E3 (Mc hg);obtain⟨g,ga,r,A⟩:=zCq (a:=LU) hI.small Zt;have Fb:ga=true:=by have h1:=A.as_;unfold Vr at h1;rw [A.gs,Aa,if_pos (A.bq.2 hI.bq),zv4 hg Zt]at h1;have h1:=Option.some.inj h1;rw [←h1];rfl
 obtain⟨_,_,AW,hN⟩:=A.on Fb;have MP:(r.1,r.2.1)=(⟨HT w.ae (Jy w 1).1,(Jy w 1).2,DU⟩,true):=by have FL:=A.ss;unfold YZ at FL;obtain⟨v,hv,FL⟩:=Hc FL;rw [A.as_,Fb]at hv;cases hv;rw [if_neg (by simp),uK hI.small,Aa]at FL;obtain⟨z,hz,FL⟩:=Hc FL;cases FL;dsimp only;unfold NJ at hz;rw [u5 (oR hI.small.shift hg) (by have:=hI.small.shift.at_;simp only [Cj,List.length_map];omega),Aa,hs,if_neg (by simp [LU]),if_pos (by simp [LU]),(Jm (s:=w.ae) hg.1).1,Aa]at hz;obtain⟨_,_,n1,n2,n3⟩:=WS (Mc hg);obtain⟨v,f1,_,_,_,f5⟩:=zw7 (f:=w.cy) (many:=LU.bz) fI.2.2.2.2.2 fI.1 fI.2.2.1 fI.1.name (by omega) n1 hR (by simp [LU]) (by simp [LU]);rw [f1,Aa]at hz;cases hz;rw [f5];rfl
 have h1:r.1=⟨HT w.ae (Jy w 1).1,(Jy w 1).2,DU⟩:=congrArg Prod.fst MP;have h2:r.2.1=true:=congrArg Prod.snd MP;have P:=oU (f:=w.cy) (m:=1) fI.2.2.2.2.2 fI.2.2.1 fI.1.name hR;obtain⟨q1,q2,q3⟩:=zC3 (t:=AT w.ae) (x:=CS (AT w.ae) w.ae.ab) (f:=w.cy) hR hl;have Cu:Ju (⟨HT w.ae (Jy w 1).1,(Jy w 1).2,DU⟩:AK)=Fk ((rows (AT w.ae) w.ae.ao).map (A4 (AT w.ae) (CS (AT w.ae) w.ae.ab))) (Jy w 1).2.al:=by show Fk ((rows (AT w.ae) (Jy w 1).1).map _) _=_;rw [show rows (AT w.ae) (Jy w 1).1=rows (AT w.ae) w.ae.ao from P.rows];rfl
 refine⟨r.1, ?_, ?_, ?_, ?_, ?_, ?_⟩
 ·rw [A.si];have e:r=(r.1,r.2.1,r.2.2):=rfl;rw [e,h2,A.ok,Fb]
 ·have hF:=zsF hI.small hg Zt AW hI.filled;refine⟨⟨hN.shift.bq,hN.up hI.bq.up,hN.down hI.bq.down⟩,⟨hN.shift.small,by have:=ZR (hN.up hI.bq.up);omega,by have:=ZR (hN.down hI.bq.down);omega⟩,hN.shift.name.trans hI.name,hN.shift.ways.trans hI.ways, ?_, ?_,hF, ?_⟩
  ·rw [h1];exact hI.at_
  ·rw [h1];exact P.rows.trans hI.rows
  ·rw [h1];exact Me.1 (ztV fI.2.2.2.2.2 fI.2.2.1 fI.1.name P (.inl rfl) (Me.2 hI.pj))
 ·rw [h1];exact hs
 ·rw [h1,Cu];exact q1
 ·rw [h1,Cu];exact q2
 ·intro h;rw [h1];exact q3 h
theorem zxu {t:Ad} {n:Af} {c:Int} (h:BX t n=true) (hc:Bw c 0 3=true):Vy t n c=some (CH t (BP t n) c,true):=by
 have f:=E3 h;have hS:=F8 f.2.2.2.2.2;have hk:BC (fun x:Aq=>x.ab==n) t.ah≥0:=by unfold BX at h;rw [Ae,decide_eq_true_eq]at h;exact h.2
 unfold Vy NH;rw [KZ hS,Aa,if_pos f.2.2.2.2.2,IS hS,Aa,if_pos (decide_eq_true hk),Gm,Aa,Aa,if_neg (by simp [hc]),bF hS f.1,Aa];rfl
def Nn:D4:=⟨0,1,⟨0,⟨[]⟩,⟨[]⟩⟩⟩
theorem qD:FC Nn.ax:=Zt
structure Oi (s:Ar):Prop where
 bq:Cc s
 small:D6 s
 ph: ∃m,s.bp=List.replicate (m+1) 0
 ways:s.aj= [AT s,CH (AT s) (BP (AT s) s.ab) 3]
 oq:Bi (AT s) s.ab=2
theorem Oi.ln {s:Ar} (h:Oi s):((Cj s).all fun y=>decide (y≥2))=true∧FV (Cj s)=1:=by
 obtain⟨m,hm⟩:=h.ph;have e0:=(Jm (s:=s) h.bq.1).1;have e:Cj s=List.replicate (m+1) 2:=by unfold Cj;rw [hm,List.map_replicate,e0,Option.getD_some,h.oq]
 rw [e];constructor
 ·rw [AG];intro y hy;rw [(List.mem_replicate.1 hy).2];rfl
 ·unfold FV;rw [if_neg,if_neg]
  ·intro hc;rw [List.contains_iff_mem]at hc;have:=(List.mem_replicate.1 hc).2;omega
  ·intro hc;rw [List.contains_iff_mem]at hc;have:=(List.mem_replicate.1 hc).2;omega
theorem Oi.may {s:Ar} (h:Oi s) (hO:JE (AT s) s.ab (CS (AT s) s.ab) s.ao) (hL:JD (AT s) s.ab (CS (AT s) s.ab) s.ao):VI s Nn=some (true,true):=by
 have hg:=h.bq;have hS:=h.small;have fI:=E3 (Mc hg);obtain⟨m,hm⟩:=h.ph;have FM:s.aj.length=2:=by rw [h.ways];rfl
 have hal:=hS.at_;have e1:getI s.bp 0=some 0:=by rw [hm];rfl
 have Dr:Mf s (Ej s Nn.a6) Nn=true:=by have:Bw 0 0 ((s.bp.length:Int)-1)=true:=B7.2 ⟨by omega,by rw [hm,List.length_replicate];omega⟩;unfold Mf;show(Bw 0 0 ((s.bp.length:Int)-1)&&_)=true;rw [this];rfl
 have B1:=wM hg Dr;have hd:GQ s Nn=some (⟨s.ab,s.aj,s.bp.set 0 1,s.ao⟩,true):=by unfold GQ;rw [Qe hS,Aa,A8 (n:=(s.aj.length:Int)-1) (by omega) (by omega),if_pos (by rfl)];simp only [show Nn.a6=0 from rfl,show Nn.bd=1 from rfl,e1,Aa,A8 (n:=(0:Int)+1) (by omega) (by omega),Gm];rw [show Bw (0+1) 0 ((s.aj.length:Int)-1)=true from B7.2 ⟨by omega,by omega⟩];rfl
 obtain⟨r,k1,k2⟩:=zyB hS hg qD B1;have DF:=vZ hS hg qD B1 hd;rw [k1]at DF;have hr:=Option.some.inj DF;have KG:s.bp.set 0 1=1::List.replicate m 0:=by rw [hm];rfl
 have hc:Fi (s.bp.set 0 1)=true:=by
  rw [KG];unfold Fi;rw [AG];intro a ha;rw [AG];intro b hb;have v: ∀c∈(1:Int)::List.replicate m 0,0≤c∧c≤1:=fun c hc=>by
   rcases Ag.1 hc with rfl|hc
   ·omega
   ·rw [(List.mem_replicate.1 hc).2];omega
  have:=v a ha;have:=v b hb;rw [Bool.not_eq_true',decide_eq_false_iff_not];omega
 have hh:GU ⟨s.ab,s.aj,s.bp.set 0 1,s.ao⟩=true:=by
  have hn:FV (Cj ⟨s.ab,s.aj,s.bp.set 0 1,s.ao⟩)=2:=by
   have e:(Cj ⟨s.ab,s.aj,s.bp.set 0 1,s.ao⟩).contains 3=true:=by
    unfold Cj;dsimp only;rw [KG,List.map_cons,List.contains_iff_mem];have:Bi ((getI s.aj 1).getD LQ) s.ab=3:=by rw [h.ways];exact rY (Mc hg)
    rw [this];exact List.mem_cons_self
   unfold FV;rw [if_pos e]
  unfold GU;rw [hn];exact(oY fI.2.2.2.2.2 fI.2.2.1 fI.1.name).2 ⟨hO,hL⟩
 have IB:r=true:=by rw [hr];dsimp only;rw [hc,hh];rfl
 obtain⟨g,g1,g2⟩:=aQ hS;unfold VI jS;rw [g1,Aa,if_pos (g2.2 hg),zt7 hg qD,Dr,Aa,Aa,if_neg (by simp [Nn]),k2,IB];rfl
theorem zEa {t:Ad} {n:Af} {st:List Ab} (h:BX t n=true) (AW:BS st=true) (hL:JD t n (CS t n) st):VK t n st=some ([],true):=by
 have f:=E3 h;obtain⟨_,_,n1,n2,n3⟩:=WS h;have hS:=F8 f.2.2.2.2.2;have hR:=(DR AW).1;have hl:=hR.len;have hT: ∀v∈st,FU v:=fun v hv=>Ko (hR.bq v hv);have e1:=Sm t n st;have e2:=ZO t n (CS t n) st;have hz:less (wanted t n (CS t n) st) (Bq t n st)= []:=by have:=SH.2 ((zzb f.2.2.2.2.2 f.2.2.1 f.1.name).2 hL);exact List.eq_nil_of_length_eq_zero (by omega)
 unfold VK U8;rw [zDb hS (VN (by omega) hR.bq)];unfold Tt;rw [h,AW,Aa,if_neg (by simp),zwd hS n1 (by omega) f.1 (by omega) hT,Aa,oM (by omega) (by omega) n3 (by omega) hT,Aa,rW (by omega) (by omega),hz];rfl
theorem zzd {v1:Ar} {v5:Ad × Bool} {v7:List AI × Bool} {s0:Ar} (hv:v7.1.length≤1000) (hW: ∀w,Pn s0 w→Oi w.ae) (hk: ∀w,Pn s0 w→w.cy.bf=true→kO v1 v5 w.ae.ab w.ae.aj w.cy.al w.cy.bf w.bj.al w.bj.bf w.ae.bp w.ae.ao=some true): ∀(m i:Nat) (w:AK),i+m=v7.1.length+1→Pn s0 w→w.ae.ao.length+(Ju w).length≤24→(w.cy.bf=true∨(Ju w).length+1≤m)→
  AA (fun s:Int × Ac × List Ad × Ac × Bool × Ac × Bool × List Int × List Ab=>PG v1 v5 v7 s.1 s.2.1 s.2.2.1 s.2.2.2.1 s.2.2.2.2.1 s.2.2.2.2.2.1 s.2.2.2.2.2.2.1 s.2.2.2.2.2.2.2.1 s.2.2.2.2.2.2.2.2) ((i:Int),w.ae.ab,w.ae.aj,w.cy.al,w.cy.bf,w.bj.al,w.bj.bf,w.ae.bp,w.ae.ao)=some true
 |0,i,w,hi,hI,hl,ho=>by
  have O1:w.cy.bf=true:=by
   rcases ho with h|h
   ·exact h
   ·omega
  refine Dw ?_;show PG v1 v5 v7 i w.ae.ab w.ae.aj w.cy.al w.cy.bf w.bj.al w.bj.bf w.ae.bp w.ae.ao=_;unfold PG;rw [if_neg (by rw [decide_eq_true_eq];omega),hk w hI O1]
 |m+1,i,w,hi,hI,hl,ho=>by
  obtain⟨r,e1,Qy,_,LC,q1,q2⟩:=zEc hI (hW w hI).ln.1 hl;have e1:PL ⟨⟨w.ae.ab,w.ae.aj,w.ae.bp,w.ae.ao⟩,⟨w.cy.al,w.cy.bf⟩,⟨w.bj.al,w.bj.bf⟩⟩ ⟨2,1,⟨0,0,⟨0,⟨[]⟩,⟨[]⟩⟩⟩⟩=some (r,true,true):=e1;have eb:PG v1 v5 v7 i w.ae.ab w.ae.aj w.cy.al w.cy.bf w.bj.al w.bj.bf w.ae.bp w.ae.ao=some (.inl (((i+1:Nat):Int),r.ae.ab,r.ae.aj,r.cy.al,r.cy.bf,r.bj.al,r.bj.bf,r.ae.bp,r.ae.ao)):=by unfold PG;rw [if_pos (decide_eq_true (by omega)),e1,Aa,if_neg (by simp),A8 (n:=(i:Int)+1) (by omega) (by omega)];rfl
  exact(DM (body:=fun s:Int × Ac × List Ad × Ac × Bool × Ac × Bool × List Int × List Ab=>PG v1 v5 v7 s.1 s.2.1 s.2.2.1 s.2.2.2.1 s.2.2.2.2.1 s.2.2.2.2.2.1 s.2.2.2.2.2.2.1 s.2.2.2.2.2.2.2.1 s.2.2.2.2.2.2.2.2) eb).trans (zzd hv hW hk m (i+1) r (by omega) Qy LC (by
   rcases ho with h|h
   ·exact .inl (q2 (.inl h))
   ·by_cases hz:Ju w= []
    ·exact .inl (q2 (.inr hz))
    ·have:0<(Ju w).length:=List.length_pos_iff.2 hz;exact .inr (by omega)))
theorem zCd (c b:List Int) (hc:XD Pu c) (_:XD Pu b) (z0:c.length≤140737488351232) (z1:b.length≤140737488351232):YR c b=some true:=by
 unfold YR;refine iT (fun _=>rfl) fun hlen=> ?_;have hl:(c.length:Int)≤1048576:=by simp only [decide_eq_false_iff_not]at hlen;rw [A8 (by omega) (by omega)]at hlen;omega
 obtain⟨s,hd,hD⟩:BA (Yp c) fun s=>JF 1 s:=by unfold Yp kA;have hf:UW=3000000000000000:=rfl;refine BA.bind (P:=fun s:Ar=>JF 1 s) ((zuK (.start hc.2) ⟨by simp,by simp⟩ (by dsimp only;omega) (by omega)).bind fun s ⟨hS,_⟩=> .ret hS) fun s hs=> .ret hs
 have hS:=hD.small (by omega);obtain⟨g1,e1,f1⟩:=uP hS;obtain⟨g2,e2,f2⟩:=aQ hS;have Xj:g1=g2:=by rw [Bool.eq_iff_iff,f1,f2]
 subst Xj;refine(K5 hd).trans ((K5 e1).trans (iT (fun hng=> ?_) fun G1=> ?_))
 ·refine(K5 e2).trans ?_;rw [hng]
 have hg:=f1.1 (by simpa using G1);have hI:=Mc hg;have f:=E3 hI;have Dv:=sI hI (show Bw 2 0 3=true from rfl);have J8:Bi (CH (AT s) (BP (AT s) s.ab) 2) s.ab=2:=rY hI;have Ds:=hD.name;have h3:=B7.1 hg.2.2.2.2.1;have hR:=hg.2.2.2.2.2.2;have hRl:=(DR hR).1.len;generalize hU:CH (AT s) (BP (AT s) s.ab) 2=up at Dv J8;have fu:=E3 Dv;have cE:=F8 fu.2.2.2.2.2;obtain⟨x,x1,x2,x3,x4⟩:=zvk (t:=up) (n:=s.ab) (stage:=3) (srv:=(s.bp.length:Int)) cE hS.store;rw [zsb Dv Ds (by omega) (by omega) h3.1 h3.2 hS.store,if_pos hR]at x1;have hx:=Option.some.inj x1;subst hx;obtain⟨T7,_⟩:=x4 rfl;generalize hX:(⟨s.ab,way up (BP up s.ab) (Bi up s.ab) 3,List.replicate (s.bp.length:Int).toNat 0,s.ao⟩:Ar)=X at x2 x3 T7;have cI:X.ab=s.ab:=by rw [←hX]
 have W8:AT X=up:=by rw [←hX];rfl
 have W9:X.ao=s.ao:=by rw [←hX]
 have hXw:X.aj= [up,CH up (BP up s.ab) 3]:=by rw [←hX];show way up (BP up s.ab) (Bi up s.ab) 3=_;rw [J8];rfl
 have hXa:X.bp=List.replicate (s.bp.length-1+1) 0:=by rw [←hX];show List.replicate (s.bp.length:Int).toNat 0=_;congr 1;omega
 have ML: ∀{l:List Ab},Cc (HT X l)→D6 (HT X l)→Oi (HT X l):=fun{l} a b=>⟨a,b,⟨_,hXa⟩,by
  show X.aj= [AT X,CH (AT X) (BP (AT X) X.ab) 3]
  rw [hXw,W8,cI],by
  show Bi (AT X) X.ab=2;rw [W8,cI];exact J8⟩
 have hLX:Oi X:=ML (l:=X.ao) T7 x3;have H9:Zj up s.ao=some (rows up s.ao,true):=by unfold Zj;rw [KZ cE,Aa,if_pos fu.2.2.2.2.2,Mn hS.store,Aa,hR,if_neg (by simp),SI (by have:=cE.name;omega) (by omega) (fun w hw=>Ko ((DR hR).1.bq w hw))];rfl
 have F3:Vy (AT s) s.ab 2=some (up,true):=by rw [←hU];exact zxu hI rfl
 refine(K5 (Jm (s:=s) hg.1).1).trans ((K5 F3).trans ((K5 x2).trans ((K5 H9).trans ((K5 (zHn x3 T7)).trans (zIu (by simp) (iT (fun _=>rfl) fun Cl=> ?_))))));simp only [Bool.or_eq_false_iff,Bool.not_eq_false',decide_eq_false_iff_not]at Cl;have Je:=rows_len up s.ao;rw [A8 (n:=(s.ao.length:Int)+((rows up s.ao).length:Int)) (by omega) (by omega)]at Cl;have hO:JE (AT X) X.ab (CS (AT X) X.ab) X.ao:=by have h:=Cl.1;unfold GU at h;rw [hLX.ln.2]at h;exact Me.1 h
 have hI0:Pn X (⟨X,DU,DU⟩:AK):=⟨⟨T7,rfl,rfl⟩,⟨x3,by simp [DU],by simp [DU]⟩,rfl,rfl,rfl,rfl,nL T7.2.2.2.2.2.2,hO⟩
 have Cu:(Ju (⟨X,DU,DU⟩:AK)).length≤(rows up s.ao).length:=by unfold Ju Fk;refine Nat.le_trans (List.length_filter_le _ _) ?_;rw [List.length_map,W8,W9];exact Nat.le_refl _
 have hW: ∀w,Pn X w→Oi w.ae:=fun w hw=>by
  have e:w.ae=HT X w.ae.ao:=by have a1:=hw.name;have a2:=hw.ways;have a3:=hw.at_;cases h:w.ae;rw [h]at a1 a2 a3;dsimp only at a1 a2 a3;subst a1;subst a2;subst a3;rfl
  have a:=hw.bq.shift;have b:=hw.small.shift;rw [e]at a b ⊢;exact ML a b
 refine zzd (s0:=X) (by dsimp only;omega) hW (fun w hw ho=> ?_) ((rows up s.ao).length+1) 0 (⟨X,DU,DU⟩:AK) (by dsimp only;omega) hI0 (by rw [W9];omega) (.inr (by omega));have hL:=zAA hw.filled ho;have hLw:=hW w hw;have e0:AT w.ae=up:=(oX hw.ways).trans W8;have en:w.ae.ab=s.ab:=hw.name.trans cI;have eG:=hLw.may hw.pj hL;have Ua:VK up s.ab w.ae.ao=some ([],true):=zEa Dv hw.bq.shift.2.2.2.2.2.2 (by rw [←e0,←en];exact hL);unfold kO;dsimp only;rw [Ua,Aa];refine(K5 (show VI ⟨w.ae.ab,w.ae.aj,w.ae.bp,w.ae.ao⟩ ⟨0,1,⟨0,⟨[]⟩,⟨[]⟩⟩⟩=some (true,true)from eG)).trans ?_;rw [ho];rfl
theorem zxP {H:Type} {enc:TypeId × Value→H} {P:Program} {w:World} {base:Nat} {sp:Nat→Bool} {held:Bool} {fuel:Nat} {t:TypeId} {cs:List Value} {n:String} {d:DataW H} {p:List MemPlace} {u:TypeDesc}
  (ht:P.underlying t=some u) (hu:(match u with| .interface _=>true|_=>false)=true) (h:DataW.trod enc P w base sp held fuel t cs=some (.iface n d,p)): ∃a v,cs= [.iface a v]:=by
 cases fuel with
 |zero=>simp [DataW.trod]at h
 |succ fuel=>
  cases u<;>first|(cases hu;done)|skip
  simp only [DataW.trod,ht]at h;split at h<;>first|(exact⟨_,_,rfl⟩)|(simp at h;done)|(simp_all;done)
noncomputable def xL (s:String):Bool:=match(Tryz.prog.globalNamed s).bind (fun g=>(Tryz.prog.globals[g]?).map (·.type))with
 |some t=>(match Tryz.prog.underlying t with|some (.interface _)=>true|_=>false)
 |none=>false
noncomputable def wX (s:String):Bool:=match(Tryz.prog.globalNamed s).bind (fun g=>(Tryz.prog.globals[g]?).map (·.type))with
 |some t=>(match Tryz.prog.underlying t with
  |some (.array n e)=>(match Tryz.prog.underlying e with|some (.int .u64)=>true|_=>false)&&Tryz.prog.cellsOf e==1&&Tryz.prog.cellsOf t==n
  |_=>false)
 |none=>false
theorem zzh {s:String} {D:DataW Unit} {W:World} (h:laidMet Tryz.prog [(s,D)] W) (hc:xL s=true) (hd: ∃n d,D= .iface n d): ∃t p,W.var? Tryz.prog s=some #[.iface t p]:=by
 obtain⟨ps,⟨g,t,cs,fuel,p,q,hg,ht,UA,Xu,_,_⟩,_⟩:=h;obtain⟨n,d,rfl⟩:=hd;unfold xL at hc;rw [hg,Aa,ht]at hc;simp only at hc;cases hu:Tryz.prog.underlying t with
 |none=>rw [hu]at hc;cases hc
 |some u=>obtain⟨a,v,e⟩:=zxP hu (by rw [hu]at hc;cases u<;>first|rfl|cases hc) Xu;refine⟨a,v, ?_⟩;rw [UA];congr 1;apply Array.ext';rw [e]
theorem zGL {s:String} {W:World} (h:laidMet Tryz.prog [(s,Lib.tabData .u64 Lib.pow10Tab)] W) (hc:wX s=true):Lib.TabIs Tryz.prog W s .u64 Lib.pow10Tab:=by
 have h0:=h;obtain⟨ps,⟨g,t,cs,fuel,p,q,hg,ht,UA,Xu,_,_⟩,_⟩:=h;unfold wX at hc;rw [hg,Aa,ht]at hc;simp only at hc;split at hc
 ·rename_i n e hu;simp only [Ae,beq_iff_eq]at hc;obtain⟨⟨h1,h2⟩,h3⟩:=hc;split at h1
  ·rename_i he;exact Lib.tabIs_of_head hg ht hu he h2 h3 h0
  ·cases h1
 ·cases hc
theorem zFm {laid:List (String × DataW Unit)} {D1 D2 D3:DataW Unit} {W:World} (h:laidMet Tryz.prog laid W)
  (e1:(laid.filter fun x=>x.1== "strconv.ErrSyntax")= [("strconv.ErrSyntax",D1)]) (i1: ∃n d,D1= .iface n d)
  (e2:(laid.filter fun x=>x.1== "strconv.ErrRange")= [("strconv.ErrRange",D2)]) (i2: ∃n d,D2= .iface n d)
  (e3:(laid.filter fun x=>x.1== "internal/strconv.uint64pow10")= [("internal/strconv.uint64pow10",D3)]) (i3:D3=Lib.tabData .u64 Lib.pow10Tab):F6.n≤W.heap.size∧F6.K W:=by
 have h1:=h.filter fun x=>x.1== "strconv.ErrSyntax"
 have h2:=h.filter fun x=>x.1== "strconv.ErrRange"
 have h3:=h.filter fun x=>x.1== "internal/strconv.uint64pow10"
 rw [e1]at h1;rw [e2]at h2;rw [e3,i3]at h3;have k:fZ W:=⟨zzh h1 (by kernel_rfl) i1,zzh h2 (by kernel_rfl) i2,(zGL h3 (by kernel_rfl)).trans (by kernel_rfl)⟩
 exact⟨zGs k,k⟩
end Go.Proofs.YtbmbkgalkfmjdaaGreatDoor
end
