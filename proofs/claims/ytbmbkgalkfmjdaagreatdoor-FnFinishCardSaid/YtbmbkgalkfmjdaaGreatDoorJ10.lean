/- Parts of a proof, joined: NT, NV, NU, NH, NVG, NDA, NDB, LCG, NDC, NQS, N17, N18, N19, N20, N21, N22, NM, NN, NB, NKA, NW. -/
import Derived.Test.YtbmbkgalkfmjdaaGreatDoorJ9
set_option linter.unusedVariables false
set_option linter.unusedSimpArgs false
section
namespace Go.Proofs.YtbmbkgalkfmjdaaGreatDoor
open Go.RowKit
set_option maxRecDepth 100000
structure Gs (o:Ax):Prop where
 key:Am o.af=true
 val:Gl o.a7=true
 ov:o.jm=0
 kind:o.ak=2∨o.ak=3∨o.ak=6∨o.ak=7
 none:o.ak=3∨o.ak=6→o.a7= []
theorem zvR {s:Af} (h:Gl s=true):s.length≤24:=by unfold Gl at h;simp only [Ae,decide_eq_true_eq]at h;omega
theorem ZX {s:Af} (h:Am s=true):s.length≤12:=by unfold Am at h;simp only [Ae]at h;have:=B7.1 h.1;omega
theorem zwM (s:Af) (h:s.length≤2000000): ∃r,Zm s=some r:=by
 unfold Zm;rw [Gm,Aa];cases hb:Bw s.length 1 6 with
 |false=>exact⟨_,rfl⟩
 |true=>
  have h1:=B7.1 hb;obtain⟨x,e,_,_⟩:=Kt (xs:=s) (i:=0) (by omega) (by omega);rw [if_pos rfl,e,Aa];split
  ·exact⟨_,rfl⟩
  ·have key: ∀(n q:Nat) (v:Int),q+n=s.length→ ∃r,AA (fun s_:Int × Int=>L4 s s_.1 s_.2) (v,(q:Int))=some r:=by
    intro n
    induction n with
    |zero=>intro q v hq;refine⟨v,Dw ?_⟩;show L4 s v q=_;unfold L4;rw [if_neg (by simp;omega)]
    |succ n ih=>
     intro q v hq;have Ak:q<s.length:=by omega
     by_cases hd:((decide (((s[q]).toNat:Int)<48))||(decide (((s[q]).toNat:Int)>57)))=true
     ·refine⟨-1,Dw ?_⟩;show L4 s v q=_;unfold L4;rw [if_pos (by simpa using Ak),AR Ak,Aa,if_pos hd]
     ·have e:L4 s v q=some (.inl ((IntKind.i64.wrap ((IntKind.i64.wrap ((10:Int)*v))+(IntKind.i64.wrap (IntKind.u8.wrap (((s[q]).toNat:Int)-48))))),((q+1:Nat):Int))):=by
       unfold L4;rw [if_pos (by simpa using Ak),AR Ak,Aa,if_neg hd,Bx Ak (by omega)]
      obtain⟨r,hr⟩:=ih (q+1) _ (by omega);exact⟨r,(DM (body:=fun s_:Int × Int=>L4 s s_.1 s_.2) e).trans hr⟩
   exact key s.length 0 0 (by omega)
theorem zDj (s:Af) (h:s.length≤2000000): ∃r,Zs s=some r:=by
 have G2: ∀(y:UInt8) (v:Af),v.length≤2000000→ ∃r,YQ y v=some r:=by
  intro y v hv;obtain⟨r,e⟩:=zwM v hv;unfold YQ;rw [e,Aa];split
  ·exact⟨_,rfl⟩
  ·split<;>exact⟨_,rfl⟩
 unfold Zs;by_cases h0:(s.length:Int)>0
 ·obtain⟨x,e,_,_⟩:=Kt (xs:=s) (i:=0) (by omega) (by omega);rw [if_pos (by simpa using h0),e,Aa];split
  ·rw [AP (by omega)];exact G2 _ _ (by rw [iN,List.length_tail];omega)
  ·exact G2 _ _ h
 ·rw [if_neg (by simpa using h0)];unfold zO;obtain⟨r,e⟩:=zwM s h;rw [e,Aa];split<;>exact⟨_,rfl⟩
def Gf (o:Ax) (val:Af) (there:Bool):Bool:=if o.ak=6 then !there else there&&val==o.a7
def Dx (got:List BR):List Ax→List Ab→Int × Af × List Ab
 | [],ws=>(3, [],ws)
 |o::l,ws=>
  if o.ak=2 then Dx got l (Bg wk ⟨o.af,o.a7,false⟩ ws)else
  if o.ak=3 then Dx got l (Bg wk ⟨o.af, [],true⟩ ws)else
  if(Dl ws got o.af).2.2=true then(if Gf o (Dl ws got o.af).1 (Dl ws got o.af).2.1=true then Dx got l ws else(2, [], []))
  else(1,o.af, [])
structure Eb (n:Nat) (ws:List Ab):Prop where
 b8:CZ ws
 len:ws.length≤n
 bq: ∀w∈ws,C3 w=true
theorem K0 {n:Nat} {ws:List Ab} {w:Ab} (h:Eb n ws) (hw:C3 w=true):Eb (n+1) (Bg wk w ws):=by
 refine⟨V8 h.b8,Nat.le_trans (rD _) (by have:=h.len;omega),fun y hy=> ?_⟩;rcases(SQ (key:=wk) h.b8 y).1 hy with rfl|hy
 ·exact hw
 ·exact h.bq y hy.1
theorem pU {o:Ax} (h:Gs o):C3 ⟨o.af,o.a7,false⟩=true:=by unfold C3 Im;simp [h.key,h.val]
theorem oW {o:Ax} (h:Gs o):C3 ⟨o.af, [],true⟩=true:=by unfold C3 Im;rw [h.key];rfl
theorem Z2 {w:Ab} (h:C3 w=true):w.a7.length≤24:=by unfold C3 Im at h;simp only [Ae]at h;exact zvR h.2.1
theorem zwA {w:Ab} (h:C3 w=true):w.af.length≤12:=by unfold C3 at h;simp only [Ae]at h;exact ZX h.1
theorem ztD {ws:List Ab} {got:List BR} {k:Af} (hw: ∀w∈ws,C3 w=true) (hg: ∀g∈got,g.a7.length≤2000):(Dl ws got k).1.length≤2000:=by
 unfold Dl;cases e:ws.find? (fun w=>w.af==k)with
 |some w=>have:=Z2 (hw w (List.mem_of_find?_eq_some e));show w.a7.length≤2000;omega
 |none=>
  unfold Ol;cases e2:got.find? (fun g=>g.af==k)with
  |some g=>exact hg g (List.mem_of_find?_eq_some e2)
  |none=>simp
theorem zCK {o:Ax} (h:Gs o) (JY:o.ak≠2) (hk3:o.ak≠3) {val:Af} {there:Bool} (hv:val.length≤2000):Yv o val there=some (Gf o val there):=by
 have e: ∃r,Vv val=some r:=by unfold Vv Y3;rw [AP (by omega)];exact⟨_,rfl⟩
 obtain⟨r,e⟩:=e;unfold Yv Gf;rw [e,Aa];rcases h.kind with h1|h1|h1|h1
 ·exact absurd h1 JY
 ·exact absurd h1 hk3
 ·rw [h1];rfl
 ·rw [h1];rfl
theorem zDJ {o:Ax} (h:Gs o) {val:Af} {there:Bool} (hv:val.length≤2000):mG o val there=some (if o.ak=2∨o.ak=3 then false else !Gf o val there):=by
 obtain⟨r,e⟩:=zDj val (by omega);unfold mG Gf;rw [e,Aa];rcases h.kind with h1|h1|h1|h1
 ·rw [h1];rfl
 ·rw [h1];rfl
 ·rw [h1];cases there<;>rfl
 ·rw [h1];show some (!there||val !=o.a7)=some (!(there&&val==o.a7));cases there<;>simp [bne]
theorem zFy {ops:List Ax} {got:List BR} (hl:ops.length≤1000) (ho: ∀o∈ops,Gs o) (hg:got.length≤2000) (hv: ∀g∈got,g.a7.length≤2000):mD ops got=some (Dx got ops []):=by
 have key: ∀(n q:Nat) (ws:List Ab),q+n=ops.length→Eb q ws→AA (fun s:Int × List Ab=>IJ ops got s.1 s.2) ((q:Int),ws)=some (Dx got (ops.drop q) ws):=by
  intro n
  induction n with
  |zero=>intro q ws hq hw;rw [List.drop_eq_nil_of_le (by omega),Dx];refine Dw ?_;show IJ ops got q ws=_;unfold IJ;rw [if_neg (by simp;omega)]
  |succ n ih=>
   intro q ws hq hw;have Ak:q<ops.length:=by omega
   have Aw:=ho _ (List.getElem_mem Ak);have Nd:=hw.len;have Gh:=Bx Ak (by omega);rw [List.drop_eq_getElem_cons Ak,Dx];by_cases h2:(ops[q]).ak=2
   ·rw [if_pos h2];have e:IJ ops got q ws=some (.inl (((q+1:Nat):Int),Bg wk ⟨(ops[q]).af,(ops[q]).a7,false⟩ ws)):=by
     unfold IJ;rw [if_pos (by simpa using Ak),AR Ak,Aa,if_pos (by simpa using h2),oC (by omega) hw.b8,Aa,Gh]
    rw [DM (body:=fun s:Int × List Ab=>IJ ops got s.1 s.2) e];exact ih (q+1) _ (by omega) (K0 hw (pU Aw))
   rw [if_neg h2];by_cases h3:(ops[q]).ak=3
   ·rw [if_pos h3];have e:IJ ops got q ws=some (.inl (((q+1:Nat):Int),Bg wk ⟨(ops[q]).af, [],true⟩ ws)):=by
     unfold IJ;rw [if_pos (by simpa using Ak),AR Ak,Aa,if_neg (by simpa using h2),if_pos (by simpa using h3),oC (by omega) hw.b8,Aa,Gh]
    rw [DM (body:=fun s:Int × List Ab=>IJ ops got s.1 s.2) e];exact ih (q+1) _ (by omega) (K0 hw (oW Aw))
   rw [if_neg h3];have CV:=ztD (k:=(ops[q]).af) hw.bq hv;have hb:IJ ops got q ws=if(Dl ws got (ops[q]).af).2.2=true then(if Gf ops[q] (Dl ws got (ops[q]).af).1 (Dl ws got (ops[q]).af).2.1=true then some (.inl (((q+1:Nat):Int),ws))else some (.inr (some (2, [], []))))else some (.inr (some (1,(ops[q]).af, []))):=by
    unfold IJ;rw [if_pos (by simpa using Ak),AR Ak,Aa,if_neg (by simpa using h2),if_neg (by simpa using h3),zzv (by omega) (by omega) hw.b8,Aa];cases hs:(Dl ws got (ops[q]).af).2.2 with
    |false=>rw [if_pos (by simp),if_neg (by simp)]
    |true=>
     rw [if_neg (by simp),if_pos rfl,zCK Aw h2 h3 CV,Aa];have h4: ¬(ops[q]).ak=4:=by rcases Aw.kind with h|h|h|h<;>omega
     cases Gf ops[q] (Dl ws got (ops[q]).af).1 (Dl ws got (ops[q]).af).2.1 with
     |false=>rfl
     |true=>rw [if_neg (by simp),if_neg (by simpa using h4),if_pos rfl,Gh]
   by_cases hs:(Dl ws got (ops[q]).af).2.2=true
   ·rw [if_pos hs]at hb ⊢;by_cases hk:Gf ops[q] (Dl ws got (ops[q]).af).1 (Dl ws got (ops[q]).af).2.1=true
    ·rw [if_pos hk]at hb ⊢;rw [DM (body:=fun s:Int × List Ab=>IJ ops got s.1 s.2) hb];exact ih (q+1) _ (by omega) ⟨hw.b8,by omega,hw.bq⟩
    ·rw [if_neg hk]at hb ⊢;exact Dw hb
   ·rw [if_neg hs]at hb ⊢;exact Dw hb
 exact key ops.length 0 [] (by omega) ⟨List.Pairwise.nil,Nat.le_refl _,by simp⟩
theorem zFL {ops:List Ax} {got:List BR} (hl:ops.length≤1000) (ho: ∀o∈ops,Gs o) (hg:got.length≤2000) (hv: ∀g∈got,g.a7.length≤2000):z7 ops got=some (Dx got ops []):=by
 have key: ∀(n q:Nat) (ws:List Ab),q+n=ops.length→Eb q ws→AA (fun s:List Ab × Int=>IH ops got s.1 s.2) (ws,(q:Int))=some (Dx got (ops.drop q) ws):=by
  intro n
  induction n with
  |zero=>intro q ws hq hw;rw [List.drop_eq_nil_of_le (by omega),Dx];refine Dw ?_;show IH ops got ws q=_;unfold IH;rw [if_neg (by simp;omega)]
  |succ n ih=>
   intro q ws hq hw;have Ak:q<ops.length:=by omega
   have Aw:=ho _ (List.getElem_mem Ak);have Nd:=hw.len;have Gh:=Bx Ak (by omega);have CV:=ztD (k:=(ops[q]).af) hw.bq hv;have QH:=zDJ Aw (val:=(Dl ws got (ops[q]).af).1) (there:=(Dl ws got (ops[q]).af).2.1) CV;rw [List.drop_eq_getElem_cons Ak,Dx];by_cases h2:(ops[q]).ak=2
   ·rw [if_pos h2];rw [if_pos (.inl h2)]at QH;have e:IH ops got ws q=some (.inl (Bg wk ⟨(ops[q]).af,(ops[q]).a7,false⟩ ws,((q+1:Nat):Int))):=by
     unfold IH;rw [if_pos (by simpa using Ak),AR Ak,Aa,pM (by omega) (by omega),Aa,if_neg (by simp [h2]),QH,Aa,if_neg (by simp),if_pos (by simpa using h2),Mq (by omega) hw.b8,Aa,Gh]
    rw [DM (body:=fun s:List Ab × Int=>IH ops got s.1 s.2) e];exact ih (q+1) _ (by omega) (K0 hw (pU Aw))
   rw [if_neg h2];by_cases h3:(ops[q]).ak=3
   ·rw [if_pos h3];rw [if_pos (.inr h3)]at QH;have e:IH ops got ws q=some (.inl (Bg wk ⟨(ops[q]).af, [],true⟩ ws,((q+1:Nat):Int))):=by
     unfold IH;rw [if_pos (by simpa using Ak),AR Ak,Aa,pM (by omega) (by omega),Aa,if_neg (by simp [h3]),QH,Aa,if_neg (by simp),if_neg (by simpa using h2),if_pos (by simpa using h3),Mq (by omega) hw.b8,Aa,Gh]
    rw [DM (body:=fun s:List Ab × Int=>IH ops got s.1 s.2) e];exact ih (q+1) _ (by omega) (K0 hw (oW Aw))
   rw [if_neg h3];rw [if_neg (by simp [h2,h3])]at QH;have hb:IH ops got ws q=if(Dl ws got (ops[q]).af).2.2=true then(if Gf ops[q] (Dl ws got (ops[q]).af).1 (Dl ws got (ops[q]).af).2.1=true then some (.inl (ws,((q+1:Nat):Int)))else some (.inr (some (2, [], []))))else some (.inr (some (1,(ops[q]).af, []))):=by
    unfold IH;rw [if_pos (by simpa using Ak),AR Ak,Aa,pM (by omega) (by omega),Aa];cases hs:(Dl ws got (ops[q]).af).2.2 with
    |false=>rw [if_pos (by simp [h2,h3]),if_neg (by simp)]
    |true=>
     rw [if_neg (by simp),if_pos rfl,QH,Aa];have h4: ¬(ops[q]).ak=4:=by rcases Aw.kind with h|h|h|h<;>omega
     cases Gf ops[q] (Dl ws got (ops[q]).af).1 (Dl ws got (ops[q]).af).2.1 with
     |false=>rfl
     |true=>rw [if_neg (by simp),if_neg (by simpa using h2),if_neg (by simpa using h3),if_neg (by simpa using h4),if_pos rfl,Gh]
   by_cases hs:(Dl ws got (ops[q]).af).2.2=true
   ·rw [if_pos hs]at hb ⊢;by_cases hk:Gf ops[q] (Dl ws got (ops[q]).af).1 (Dl ws got (ops[q]).af).2.1=true
    ·rw [if_pos hk]at hb ⊢;rw [DM (body:=fun s:List Ab × Int=>IH ops got s.1 s.2) hb];exact ih (q+1) _ (by omega) ⟨hw.b8,by omega,hw.bq⟩
    ·rw [if_neg hk]at hb ⊢;exact Dw hb
   ·rw [if_neg hs]at hb ⊢;exact Dw hb
 exact key ops.length 0 [] (by omega) ⟨List.Pairwise.nil,Nat.le_refl _,by simp⟩
theorem ZP {got:List BR}: ∀(l:List Ax) {n:Nat} {ws:List Ab},(∀o∈l,Gs o)→Eb n ws→Eb (n+l.length) (Dx got l ws).2.2∧((Dx got l ws).1=1→ ∃o∈l,o.af=(Dx got l ws).2.1∧ ∀g∈got,g.af≠o.af)
 | [],n,ws,_,hw=>⟨hw,fun h=>by simp [Dx]at h⟩
 |o::l,n,ws,ho,hw=>by
  have Aw:=ho o (by simp);have hl: ∀o∈l,Gs o:=fun x hx=>ho x (by simp [hx]);have up: ∀{w:List Ab},Eb (n+l.length) w→Eb (n+(o::l).length) w:=fun h=>⟨h.b8,by have:=h.len;rw [An];omega,h.bq⟩
  rw [Dx];split
  ·obtain⟨a,b⟩:=ZP (got:=got) l hl (K0 hw (pU Aw));refine⟨⟨a.b8,by have:=a.len;rw [An];omega,a.bq⟩,fun h=> ?_⟩;obtain⟨x,hx,h1,h2⟩:=b h;exact⟨x,by simp [hx],h1,h2⟩
  ·split
   ·obtain⟨a,b⟩:=ZP (got:=got) l hl (K0 hw (oW Aw));refine⟨⟨a.b8,by have:=a.len;rw [An];omega,a.bq⟩,fun h=> ?_⟩;obtain⟨x,hx,h1,h2⟩:=b h;exact⟨x,by simp [hx],h1,h2⟩
   ·split
    ·split
     ·obtain⟨a,b⟩:=ZP (got:=got) l hl hw;refine⟨up a,fun h=> ?_⟩;obtain⟨x,hx,h1,h2⟩:=b h;exact⟨x,by simp [hx],h1,h2⟩
     ·exact⟨⟨List.Pairwise.nil,by simp,by simp⟩,fun h=>by simp at h⟩
    ·rename_i hs;refine⟨⟨List.Pairwise.nil,by simp,by simp⟩,fun _=>⟨o,by simp,rfl,fun g hg e=> ?_⟩⟩;apply hs;unfold Dl;cases e1:ws.find? (fun w=>w.af==o.af)with
     |some w=>rfl
     |none=>
      unfold Ol;cases e2:got.find? (fun g=>g.af==o.af)with
      |some g=>rfl
      |none=>rw [List.find?_eq_none]at e2;exact absurd (by simpa using e) (e2 g hg)
def mu (ops:List Ax) (got:List BR):Nat:=(ops.filter fun o=>got.all fun g=>g.af !=o.af).length
theorem zGu {ops:List Ax} {got:List BR} {g:BR} {o:Ax} (ho:o∈ops) (hk:o.af=g.af) (hn: ∀x∈got,x.af≠o.af):mu ops (got++ [g])<mu ops got:=by
 unfold mu;have e:(fun o:Ax=>(got++ [g]).all fun x=>x.af !=o.af)=fun o=>(got.all fun x=>x.af !=o.af)&&(g.af !=o.af):=by funext x;rw [List.all_append];simp
 have e2:ops.filter (fun o:Ax=>(got++ [g]).all fun x=>x.af !=o.af)=(ops.filter fun o=>got.all fun x=>x.af !=o.af).filter fun o=>g.af !=o.af:=by rw [e,List.filter_filter];congr 1;funext x;rw [Bool.and_comm]
 rw [e2];have hm:o∈ops.filter fun o=>got.all fun x=>x.af !=o.af:=List.mem_filter.2 ⟨ho,AG.2 fun x hx=>by simpa using hn x hx⟩;generalize ops.filter (fun o=>got.all fun x=>x.af !=o.af)=l at hm;have Ak: ∀(l:List Ax),o∈l→(l.filter fun o=>g.af !=o.af).length<l.length:=by
  intro l
  induction l with
  |nil=>intro h;simp at h
  |cons y l ih=>
   intro h;rw [List.filter_cons];rcases Ag.1 h with rfl|h
   ·rw [if_neg (by simp [hk])];have:=List.length_filter_le (fun o:Ax=>g.af !=o.af) l;rw [An];omega
   ·have:=ih h;split
    ·rw [An,An];omega
    ·rw [An];omega
 exact Ak l hm
theorem zHR (ops:List Ax) (got:List BR):mu ops got≤ops.length:=List.length_filter_le _ _
def I8 (rows:List Ab) (ops:List Ax):Nat→List BR→List Ab × Bool
 |0,_=>([],false)
 |n+1,got=>if(Dx got ops []).1=1 then I8 rows ops n (got++ [CX rows (Dx got ops []).2.1])else((Dx got ops []).2.2,(Dx got ops []).1==3)
structure Qm (rows:List Ab):Prop where
 b8:CZ rows
 len:rows.length≤24
 bq: ∀w∈rows,C3 w=true
theorem zCX {rows:List Ab} {k:Af} (h:Qm rows):(CX rows k).a7.length≤2000∧(CX rows k).af=k:=by
 unfold CX;cases e:rows.find? (fun w=>w.af==k)with
 |some w=>have:=Z2 (h.bq w (List.mem_of_find?_eq_some e));exact⟨by show w.a7.length≤2000;omega,rfl⟩
 |none=>exact⟨by simp,rfl⟩
theorem zyZ {rows:List Ab} {ops:List Ax} (hl:ops.length≤8) (ho: ∀o∈ops,Gs o) (hr:Qm rows): ∀(n:Nat) (got:List BR),mu ops got<n→got.length+n≤1000→(∀g∈got,g.a7.length≤2000)→
  (∃g,AA (fun s:List BR=>PF rows ops s) got=some (g,I8 rows ops n got))∧(∃g,AA (fun s:List BR=>PI rows ops s) got=some (g,I8 rows ops n got))∧Eb 8 (I8 rows ops n got).1
 |0,got,hm,_,_=>by omega
 |n+1,got,hm,hg,hv=>by
  have hi:=zFy (got:=got) (by omega) ho (by omega) hv;have hs:=zFL (got:=got) (by omega) ho (by omega) hv;obtain⟨ga,gb⟩:=ZP (got:=got) ops (n:=0) (ws:= []) ho ⟨List.Pairwise.nil,Nat.le_refl _,by simp⟩;have Je:=hr.len;rw [I8];generalize Dx got ops []=r at hi hs ga gb;by_cases h1:r.1=1
  ·rw [if_pos h1];obtain⟨o,hom,Aw,J2⟩:=gb h1;obtain⟨t1,t2⟩:=zCX (k:=r.2.1) hr;have hq:(((got).length:Int)+(([CX rows r.2.1]:List BR).length:Int))*40≤140737488355328∧((got).length:Int)+(([CX rows r.2.1]:List BR).length:Int)≤140737488355328:=by
    rw [AH];omega
   have ei:PF rows ops got=some (.inl (got++ [CX rows r.2.1])):=by unfold PF;rw [hi,Aa,if_neg (by simp [h1]),zDe (by omega) hr.b8,Aa,AP hq]
   have es:PI rows ops got=some (.inl (got++ [CX rows r.2.1])):=by unfold PI;rw [hs,Aa,if_neg (by simp [h1]),zFf (by omega),Aa,AP hq]
   rw [DM (body:=fun s:List BR=>PF rows ops s) ei,DM (body:=fun s:List BR=>PI rows ops s) es];refine zyZ hl ho hr n _ ?_ (by rw [Ap,AH];omega) fun g Cm=> ?_
   ·have:=zGu (g:=CX rows r.2.1) hom (Aw.trans t2.symm) J2;omega
   ·rcases Ai.1 Cm with h|h
    ·exact hv g h
    ·rw [List.mem_singleton]at h;subst h;exact t1
  ·rw [if_neg h1];refine⟨⟨got,Dw ?_⟩,⟨got,Dw ?_⟩,ga.b8,by have:=ga.len;show r.2.2.length≤8;omega,ga.bq⟩
   ·show PF rows ops got=_;unfold PF;rw [hi,Aa,if_pos (by simpa using h1)]
   ·show PI rows ops got=_;unfold PI;rw [hs,Aa,if_pos (by simpa using h1)]
def Fl (rows:List Ab) (ops:List Ax):List Ab × Bool:=I8 rows ops 9 []
theorem sJ {rows:List Ab} {ops:List Ax} (hl:ops.length≤8) (ho: ∀o∈ops,Gs o) (hr:Qm rows):(∃g,lN rows ops=some (g,Fl rows ops))∧(∃g,zS rows ops=some (g,Fl rows ops))∧Eb 8 (Fl rows ops).1:=by have:=zHR ops [];exact zyZ hl ho hr 9 [] (by omega) (by simp) (by simp)
theorem pX {s:Af} (h:field s=true):s.length≤3:=by unfold field at h;simp only [Ae]at h;have:=B7.1 h.1;omega
theorem rR {t:Ad} {r:AI} (h:Bf t r=true) (c:Int):(De r c).length≤3:=by
 unfold Bf at h;simp only [Ae]at h;unfold De;cases e:r.aw[c.toNat]? with
 |none=>simp
 |some s=>exact pX (AG.1 h.2 s (List.mem_of_getElem? e))
theorem pL {k:Nat}: ∀{xs:List Af},(∀s∈xs,s.length≤k)→D7 xs≤k*xs.length
 | [],_=>by simp [D7]
 |s::xs,h=>by have h1:=h s (by simp);have h2:=pL (k:=k) (xs:=xs) fun y hy=>h y (by simp [hy]);simp only [D7,An,Nat.mul_add,Nat.mul_one];omega
theorem zDM {t:Ad} {r:AI} (hg:A0 t=true) (h:Bf t r=true):(AO t r).af.length≤5∧(AO t r).a7.length≤20:=by
 have hn:=Sp (Md hg);have hc:=Jp hg;have hv:=rR h 0;have h':=h;unfold Bf at h';simp only [Ae,beq_iff_eq]at h';have Ck: ∀s∈r.aw,s.length≤3:=fun s hs=>pX (AG.1 h'.2 s hs);constructor
 ·unfold AO;have e:(r.aw.head?).getD []=De r 0:=by unfold De;rw [List.head?_eq_getElem?];rfl
  simp only [e,Ap,AH];omega
 ·have h1:=rN r.aw.tail [44];have h2:=pL (k:=3) (xs:=r.aw.tail) fun s hs=>Ck s (List.mem_of_mem_tail hs);have h3:r.aw.tail.length≤3:=by rw [List.length_tail];omega
  rw [AH]at h1;show(Lib.join r.aw.tail [44]).length≤20;omega
theorem zCL {t:Ad} {n:Af} {c:Int} {r:AI} (hg:A0 t=true) (hn:n.length=1) (h:Bf t r=true):(By t n c r).length≤11:=by have h1:=Sp (Md hg);have h2:=rR h c;have h3:=rR h 0;unfold By head;simp only [Ap,AH];omega
theorem zyX {α β:Type} {P:β→Prop} {f:α→List β}: ∀(xs:List α) (a:List β),(∀x∈xs,∀o∈f x,P o)→(∀o∈a,P o)→ ∀o∈xs.foldl (fun a x=>a++f x) a,P o
 | [],a,_,h=>h
 |x::xs,a,hf,h=>zyX xs (a++f x) (fun y hy=>hf y (by simp [hy])) fun o ho=>by
  rcases Ai.1 ho with ho|ho
  ·exact h o ho
  ·exact hf x (by simp) o ho
theorem zwR {α β:Type} {f:α→List β} (hf: ∀x,(f x).length≤2): ∀(xs:List α) (a:List β),(xs.foldl (fun a x=>a++f x) a).length≤a.length+2*xs.length
 | [],a=>by simp
 |x::xs,a=>by have h1:=zwR hf xs (a++f x);have h2:=hf x;rw [Ap]at h1;rw [List.foldl_cons,An];omega
def Ns (s:Af):Prop:= ∀b∈s,(Fh b||([46,47]:Af).contains b)=true
def xZ (s:Af):Prop:= ∀b∈s,(Fh b||([46,45,44,95]:Af).contains b)=true
theorem zBx {s:Af} (h:field s=true): ∀b∈s,Fh b=true:=by unfold field Kv at h;simp only [Ae]at h;intro b hb;have:=AG.1 h.2 b hb;simpa using this
theorem Sk {s:Af} {k:Int} (h:CJ s k=true): ∀b∈s,Fh b=true:=by unfold CJ at h;simp only [Ae]at h;intro b hb;have:=AG.1 h.1 b hb;unfold small at this;unfold Fh;simp only [Bool.not_eq_true',Bool.or_eq_false_iff,decide_eq_false_iff_not]at this;simp only [Bool.or_eq_true,Ae,decide_eq_true_eq];left;omega
theorem Ss {s:Af} (h: ∀b∈s,Fh b=true):Ns s:=fun b hb=>by rw [h b hb];rfl
theorem Ns.app {s u:Af} (h:Ns s) (k:Ns u):Ns (s++u):=fun b hb=>by
 rcases Ai.1 hb with hb|hb
 ·exact h b hb
 ·exact k b hb
theorem zIa:Ns [46]:=fun b hb=>by rw [List.mem_singleton]at hb;subst hb;decide
theorem iG:Ns [47]:=fun b hb=>by rw [List.mem_singleton]at hb;subst hb;decide
theorem ztY {s:Af} (h1:1≤s.length) (h2:s.length≤12) (h:Ns s):Am s=true:=by unfold Am Kv;rw [B7.2 ⟨by omega,by omega⟩,AG.2 h];rfl
theorem zzE {s:Af} (h2:s.length≤24) (h:xZ s):Gl s=true:=by unfold Gl Kv;rw [show decide ((s.length:Int)≤24)=true by simp;omega,AG.2 h];rfl
theorem zDK {xs:List Af} (h: ∀x∈xs,∀b∈x,Fh b=true):xZ (Lib.join xs [44]):=by
 cases xs with
 |nil=>intro b hb;simp [Lib.join_nil]at hb
 |cons x r=>
  intro b hb;rw [Lib.join_cons]at hb;rcases Ai.1 hb with hb|hb
  ·rw [h x (by simp) b hb];rfl
  ·unfold Lib.joinTail at hb;obtain⟨l,hl,Xe⟩:=List.mem_flatten.1 hb;obtain⟨y,hy,rfl⟩:=List.mem_map.1 hl;rcases Ai.1 Xe with hb|hb
   ·rw [List.mem_singleton]at hb;subst hb;decide
   ·rw [h y (by simp [hy]) b hb];rfl
theorem oB {t:Ad} {r:AI} (h:Bf t r=true): ∀x∈r.aw,∀b∈x,Fh b=true:=by unfold Bf at h;simp only [Ae]at h;exact fun x hx=>zBx (AG.1 h.2 x hx)
theorem SU {t:Ad} {r:AI} (h:Bf t r=true) (c:Int): ∀b∈De r c,Fh b=true:=by
 unfold De;cases e:r.aw[c.toNat]? with
 |none=>simp
 |some s=>exact oB h s (List.mem_of_getElem? e)
theorem P2 {t:Ad} {r:AI} (hg:A0 t=true) (h:Bf t r=true):Am (AO t r).af=true∧Gl (AO t r).a7=true:=by
 have hl:=zDM hg h;have e:(AO t r).af=t.ab++ [47]++De r 0:=by unfold AO De;rw [List.head?_eq_getElem?];rfl
 refine⟨ztY ?_ (by omega) ?_,zzE (by omega) ?_⟩
 ·rw [e];simp;omega
 ·rw [e];exact((Ss (Sk (Md hg))).app iG).app (Ss (SU h 0))
 ·exact zDK fun x hx=>oB h x (List.mem_of_mem_tail hx)
theorem V3 {t:Ad} {n:Af} {c:Int} {r:AI} (hg:A0 t=true) (hn:CJ n 1=true) (h:Bf t r=true):Am (By t n c r)=true:=by
 have hl:=zCL (c:=c) hg (Sp hn) h;refine ztY ?_ (by omega) ?_
 ·unfold By;simp;omega
 ·unfold By head;exact((((((Ss (Sk (Md hg))).app zIa).app (Ss (Sk hn))).app iG).app (Ss (SU h c))).app iG).app (Ss (SU h 0))
theorem zyE {t:Ad} {a:Bv} (hg:A0 t=true) (h:HH t a=true):(D9 t a).length≤8∧ ∀o∈D9 t a,Gs o:=by
 have ho:a.ak≠1→Bf t a.br=true:=fun h1=>by
  unfold HH at h;rw [if_neg h1]at h;by_cases h2:a.ak=2
  ·rw [if_pos h2,Ae]at h;exact h.1
  rw [if_neg h2]at h;by_cases h3:a.ak=3
  ·rw [if_pos h3,Ae]at h;exact h.1
  rw [if_neg h3]at h;cases h
 have hn:a.ak≠2→Bf t a.bw=true:=fun h2=>by
  unfold HH at h;by_cases h1:a.ak=1
  ·rw [if_pos h1,Ae]at h;exact h.2
  rw [if_neg h1,if_neg h2]at h;by_cases h3:a.ak=3
  ·rw [if_pos h3,Ae,Ae]at h;exact h.2.1
  rw [if_neg h3]at h;cases h
 have hc:=Jp hg;have v0:Gl ([]:Af)=true:=by decide
 constructor
 ·have h1:=zwR (pB t a) t.ah (K4 t a);rw [nP]at h1;unfold D9;omega
 ·refine zyX _ _ (fun x hx o hm=> ?_) (fun o hm=> ?_)
  ·have Jf:=(E2 hg hx).1;unfold G9 K6 Jx at hm;rcases Ai.1 hm with hm|hm
   ·split at hm
    ·rename_i q;rw [List.mem_singleton]at hm;subst hm;refine⟨?_,v0,rfl,by simp,fun _=>rfl⟩;show Am (E5 t a x)=true;unfold E5 at q ⊢;by_cases h1:a.ak=1
     ·rw [if_pos h1]at q;exact absurd rfl q.1
     ·rw [if_neg h1];exact V3 hg Jf (ho h1)
    ·simp at hm
   ·split at hm
    ·rename_i q;rw [List.mem_singleton]at hm;subst hm;refine⟨?_,v0,rfl,by simp,fun _=>rfl⟩;show Am (Ed t a x)=true;unfold Ed at q ⊢;by_cases h1:a.ak=2
     ·rw [if_pos h1]at q;exact absurd rfl q.1
     ·rw [if_neg h1];exact V3 hg Jf (hn h1)
    ·simp at hm
  ·unfold K4 at hm;split at hm
   ·rename_i q;have w:=P2 hg (hn (by omega));simp only [Ag,List.not_mem_nil,or_false]at hm;rcases hm with rfl|rfl
    ·exact⟨w.1,v0,rfl,by simp,fun _=>rfl⟩
    ·exact⟨w.1,w.2,rfl,by simp,fun k=>by simp at k⟩
   ·rename_i q1;have w1:=P2 hg (ho q1);split at hm
    ·simp only [Ag,List.not_mem_nil,or_false]at hm;rcases hm with rfl|rfl
     ·exact⟨w1.1,w1.2,rfl,by simp,fun k=>by simp at k⟩
     ·exact⟨w1.1,v0,rfl,by simp,fun _=>rfl⟩
    ·rename_i q2;have w2:=P2 hg (hn q2);simp only [Ag,List.not_mem_nil,or_false]at hm;rcases hm with rfl|rfl
     ·exact⟨w1.1,w1.2,rfl,by simp,fun k=>by simp at k⟩
     ·exact⟨w1.1,w2.2,rfl,by simp,fun k=>by simp at k⟩
theorem DR {l:List Ab} (h:BS l=true):Qm l∧ ∀w∈l,w.bh=false:=by unfold BS at h;rw [Ae]at h;have hr:=zrF h.1;have h1:=h.1;unfold Kq at h1;simp only [Ae,decide_eq_true_eq]at h1;exact⟨⟨hr,by omega,AG.1 h1.2.1⟩,fun w hw=>by simpa using AG.1 h.2 w hw⟩
theorem Zy {l:List Ab} (hr:CZ l) (hg: ∀w∈l,C3 w=true) (hn: ∀w∈l,w.bh=false):BS l=decide ((l.length:Int)≤24):=by
 have h1:Lb (l.map (·.af))=true:=by rw [nS,ZH];exact(Z4 (r:=fun a b:Ab=>bl a.af b.af) fun a b c p q=>FQ p q).2 hr
 unfold BS Kq;rw [h1,AG.2 hg,show(l.all fun w=> !w.bh)=true from AG.2 fun w hw=>by rw [hn w hw];rfl];simp
theorem VN {l:List Ab} (hl:l.length≤2000000) (hg: ∀w∈l,C3 w=true):Js l:=
 ⟨hl,fun w hw=>⟨by have:=zwA (hg w hw);omega,by have:=Z2 (hg w hw);omega⟩⟩
def Dc (rows ws:List Ab):List Ab:=(ws.foldl (fun o w=>Bg wk w o) rows).filter fun w=> !w.bh
theorem vT: ∀(ws:List Ab) {n:Nat} {rows:List Ab},Eb n rows→(∀w∈ws,C3 w=true)→Eb (n+ws.length) (ws.foldl (fun o w=>Bg wk w o) rows)
 | [],n,rows,h,_=>h
 |w::ws,n,rows,h,hw=>by have:=vT ws (K0 h (hw w (by simp))) fun y hy=>hw y (by simp [hy]);exact⟨this.b8,by have:=this.len;rw [An];rw [List.foldl_cons];omega,this.bq⟩
theorem zwr {rows ws:List Ab} (hr:Qm rows) (hw:Eb 8 ws):CZ (Dc rows ws)∧(Dc rows ws).length≤32∧(∀w∈Dc rows ws,C3 w=true)∧ ∀w∈Dc rows ws,w.bh=false:=by have h:=vT ws (n:=24) (rows:=rows) ⟨hr.b8,hr.len,hr.bq⟩ hw.bq;have hl:=hw.len;unfold Dc;refine⟨Ec.filter h.b8 _,Nat.le_trans (List.length_filter_le _ _) (by have:=h.len;omega),fun w hm=>h.bq w (List.mem_filter.1 hm).1,fun w hm=>by simpa using(List.mem_filter.1 hm).2⟩
theorem zzt {rows ws:List Ab} (hr:Qm rows) (hw:Eb 8 ws):Y8 rows ws=some (if(Dc rows ws).length>24 then([],false)else(Dc rows ws,true)):=by
 have Je:=hr.len;have Nd:=hw.len;have hc:L1 rows=some rows:=Mi (by omega) (by omega);unfold Y8;rw [hc,Aa];have h1:=Ga (xs:=ws) (body:=fun s:Int × List Ab=>RM ws s.1 s.2) (fun i (o:List Ab)=>(i,o)) (fun o w=>Bg wk w o) (fun o=>lC o) (fun i o=>Eb (24+i) o)
  (fun i hi o hI=>by have hI:Eb (24+i) o:=hI;have hol:=hI.len;refine⟨?_,K0 hI (hw.bq _ (List.getElem_mem hi))⟩;show RM ws i o=_;unfold RM;rw [if_pos (by simpa using hi),AR hi,Aa,oC (by omega) hI.b8,Aa,Bx hi (by omega)])
  (fun o hI=>by show RM ws ws.length o=_;unfold RM;rw [if_neg (by simp)]) (s:=rows) ⟨hr.b8,hr.len,hr.bq⟩
 rw [h1.1];have hK:Eb (24+ws.length) (ws.foldl (fun o w=>Bg wk w o) rows):=h1.2;have G3:=hK.len;unfold lC Jj;rw [AP (by omega),Zz (p:=fun y0_=>kR y0_) (fun w:Ab=>w.bh) (fun w _=>rfl),Aa];show(if decide (((Dc rows ws).length:Int)>24)=true then _ else _)=_;by_cases hq:(Dc rows ws).length>24
 ·rw [if_pos (decide_eq_true (by omega)),if_pos hq]
 ·rw [if_neg (by rw [decide_eq_true_eq];omega),if_neg hq];rfl
theorem zAc {rows ws:List Ab} (hr:Qm rows) (hw:Eb 8 ws):lO rows ws=some (Dc rows ws):=by
 have Je:=hr.len;have Nd:=hw.len;have hq:((([]:List Ab).length:Int)+((rows).length:Int))*40≤140737488355328∧(([]:List Ab).length:Int)+((rows).length:Int)≤140737488355328:=by rw [List.length_nil];omega
 unfold lO;rw [AP hq];have h1:=Ga (xs:=ws) (body:=fun s:Int × List Ab=>Rm ws s.1 s.2) (fun i (o:List Ab)=>(i,o)) (fun o w=>Bg wk w o) (fun o=>jT o) (fun i o=>Eb (24+i) o)
  (fun i hi o hI=>by have hI:Eb (24+i) o:=hI;have hol:=hI.len;refine⟨?_,K0 hI (hw.bq _ (List.getElem_mem hi))⟩;show Rm ws i o=_;unfold Rm;rw [if_pos (by simpa using hi),AR hi,Aa,Mq (by omega) hI.b8,Aa,Bx hi (by omega)])
  (fun o hI=>by show Rm ws ws.length o=_;unfold Rm;rw [if_neg (by simp)]) (s:=rows) ⟨hr.b8,hr.len,hr.bq⟩
 rw [h1.1];have hK:Eb (24+ws.length) (ws.foldl (fun o w=>Bg wk w o) rows):=h1.2;have G3:=hK.len;unfold Dc;generalize ws.foldl (fun o w=>Bg wk w o) rows=l at G3;unfold jT;have h2:=Ga (xs:=l) (body:=fun s:List Ab × Int=>Rv l s.1 s.2) (fun i (o:List Ab)=>(o,i)) (fun o w=>if(!w.bh)=true then o++ [id w]else o) (fun o=>some o) (fun i o=>o.length≤i)
  (fun i hi o hI=>by
   have hI:o.length≤i:=hI;have hr:(((o).length:Int)+(([l[i]]:List Ab).length:Int))*40≤140737488355328∧((o).length:Int)+(([l[i]]:List Ab).length:Int)≤140737488355328:=by rw [AH];omega
   refine⟨?_,by show List.length _≤_;split;rw [Ap,AH];omega;omega⟩;show Rv l o i=_;unfold Rv;rw [if_pos (by simpa using hi),AR hi,Aa,Bx hi (by omega)];cases(!(l[i]).bh)with
   |false=>rfl
   |true=>rw [if_pos rfl,AP hr];rfl)
  (fun o _=>by show Rv l o l.length=_;unfold Rv;rw [if_neg (by simp)]) (s:= []) (Nat.le_refl _)
 refine h2.1.trans ?_;rw [Sr (fun w:Ab=> !w.bh) id l []];simp
def Bb (st:List Ab) (ops:List Ax):List Ab × Bool:=if(Fl st ops).2=true∧(Dc st (Fl st ops).1).length≤24 then(Dc st (Fl st ops).1,true)else(st,false)
theorem zw3 {st:List Ab} {ops:List Ax} (hl:ops.length≤8) (ho: ∀o∈ops,Gs o) (hg:BS st=true):VQ st ops=some (Bb st ops):=by
 obtain⟨hr,_⟩:=DR hg;obtain⟨⟨g,e⟩,_,hw⟩:=sJ hl ho hr;have Je:=hr.len;have hq:((([]:List Ab).length:Int)+((st).length:Int))*40≤140737488355328∧(([]:List Ab).length:Int)+((st).length:Int)≤140737488355328:=by rw [List.length_nil];omega
 unfold VQ Bb;rw [e,Aa,zzt hr hw,Aa];cases h1:(Fl st ops).2 with
 |false=>rw [if_pos (by simp),AP hq,if_neg (by simp)]
 |true=>
  by_cases h2:(Dc st (Fl st ops).1).length>24
  ·rw [if_pos h2,if_pos (by simp),AP hq,if_neg (by omega)]
  ·rw [if_neg h2,if_neg (by simp),if_pos ⟨rfl,by omega⟩]
theorem zAa {ops:List Ax} (hl:ops.length≤8) (ho: ∀o∈ops,Gs o):mK ops=some true:=by
 have h1: ∀o:Ax,Gs o→nE o=some true:=by
  intro o h;have hk:=ZX h.key;have hv:=zvR h.val;unfold nE mF;rw [gF (by omega),Aa,h.key,if_neg (by simp)];rcases h.kind with k|k|k|k
  ·rw [k];simp [gQ (s:=o.a7) (by omega),h.val,h.ov]
  ·have:=h.none (.inl k);rw [k];simp [this,h.ov]
  ·have:=h.none (.inr k);rw [k];simp [this,h.ov]
  ·rw [k];simp [gQ (s:=o.a7) (by omega),h.val,h.ov]
 unfold mK;rw [Mg (xs:=ops) (body:=fun s:Int=>R1 ops s) (fun _=>true) false (kW ops) (fun i hi=>by
  show R1 ops i=_;unfold R1;rw [if_pos (by simpa using hi),AR hi,Aa,h1 _ (ho _ (List.getElem_mem hi)),Aa,if_neg (by simp),Bx hi (by omega),if_pos rfl]) (by
  show R1 ops ops.length=_;unfold R1;rw [if_neg (by simp)]),if_pos (AG.2 fun _ _=>rfl)]
 unfold kW;simp;omega
theorem XK {st:List Ab} {ops:List Ax} (hl:ops.length≤8) (ho: ∀o∈ops,Gs o) (hg:BS st=true):Sc st ops=some (Bb st ops):=by
 obtain⟨hr,_⟩:=DR hg;obtain⟨_,⟨g,e⟩,hw⟩:=sJ hl ho hr;have Je:=hr.len;have hq:((([]:List Ab).length:Int)+((st).length:Int))*40≤140737488355328∧(([]:List Ab).length:Int)+((st).length:Int)≤140737488355328:=by rw [List.length_nil];omega
 have KJ: ∀b:Bool,((([]:List Bool).length:Int)+(([b]:List Bool).length:Int))*1≤140737488355328∧(([]:List Bool).length:Int)+(([b]:List Bool).length:Int)≤140737488355328:=by intro b;rw [List.length_nil,AH];omega
 obtain⟨p1,p2,p3,p4⟩:=zwr hr hw;have hv7:Kn (Dc st (Fl st ops).1)=some (decide (((Dc st (Fl st ops).1).length:Int)≤24)):=by rw [Mn (VN (by omega) p3),Zy p1 p3 p4]
 have GK:IntKind.i64.wrap ((0:Int)+1)=1:=by decide
 have key:kV st [ops]=some ((Bb st ops).1, [(Bb st ops).2],true):=by
  unfold kV;rw [Mn (VN (by omega) hr.bq),Aa,hg,if_neg (by simp)];have b0:PJ st [ops] 0=some (.inl 1):=by unfold PJ;rw [if_pos (by simp),show getI [ops] 0=some ops from rfl,Aa,zAa hl ho,Aa,if_neg (by simp),GK]
  have b1:PJ st [ops] 1=some (.inr (jR st [ops])):=by unfold PJ;rw [if_neg (by simp)]
  rw [DM (body:=fun s:Int=>PJ st [ops] s) b0,Dw (body:=fun s:Int=>PJ st [ops] s) b1];unfold jR;rw [AP hq];have c0:PK [ops] [] 0 st=some (.inl ([(Bb st ops).2],1,(Bb st ops).1)):=by
   unfold PK Bb;rw [if_pos (by simp),show getI [ops] 0=some ops from rfl,Aa,e,Aa,zAc hr hw,Aa];cases h1:(Fl st ops).2 with
   |false=>rw [if_neg (by simp),AP (KJ _),if_neg (by simp),GK];rfl
   |true=>
    rw [if_pos rfl,hv7,Aa];by_cases h2:(Dc st (Fl st ops).1).length≤24
    ·have h3:decide (((Dc st (Fl st ops).1).length:Int)≤24)=true:=by simp;omega
     rw [h3,if_pos rfl,AP (KJ _),if_pos ⟨rfl,h2⟩,GK];rfl
    ·have h3:decide (((Dc st (Fl st ops).1).length:Int)≤24)=false:=by simp;omega
     rw [h3,if_neg (by simp),AP (KJ _),if_neg (by omega),GK];rfl
  have c1: ∀(bs:List Bool) (l:List Ab),PK [ops] bs 1 l=some (.inr (some (l,bs,true))):=by intro bs l;unfold PK;rw [if_neg (by simp)]
  rw [DM (body:=fun s:List Bool × Int × List Ab=>PK [ops] s.1 s.2.1 s.2.2) c0,Dw (body:=fun s:List Bool × Int × List Ab=>PK [ops] s.1 s.2.1 s.2.2) (c1 _ _)]
 unfold Sc;rw [key,Aa,if_pos (by simp)];rfl
theorem Mj {st:List Ab} {ops:List Ax} (hl:ops.length≤8) (ho: ∀o∈ops,Gs o) (hg:BS st=true):BS (Bb st ops).1=true:=by
 obtain⟨hr,_⟩:=DR hg;obtain⟨_,_,hw⟩:=sJ hl ho hr;obtain⟨p1,p2,p3,p4⟩:=zwr hr hw;unfold Bb;split
 ·rename_i h;show BS (Dc st (Fl st ops).1)=true;rw [Zy p1 p3 p4];have:=h.2;simp;omega
 ·exact hg
theorem ZG {c:UInt8}: ∀{p q:Af},(∀b∈p,b≠c)→B9 c (p++ [c]++q)=p::B9 c q:=fun{p q} h=>by rw [List.append_assoc];exact NS h
theorem Qk {b:UInt8} (h:Fh b=true):b≠47∧b≠44∧b≠46:=by refine⟨?_, ?_, ?_⟩<;>(rintro rfl;revert h;decide)
theorem zFb {t:Ad} {n:Af} (hg:A0 t=true) (hn:CJ n 1=true): ∀b∈head t n,b≠47:=by
 intro b hb;unfold head at hb;simp only [Ai,List.mem_singleton]at hb;rcases hb with(hb|hb)|hb
 ·exact(Qk (Sk (Md hg) b hb)).1
 ·subst hb;decide
 ·exact(Qk (Sk hn b hb)).1
theorem SG {t:Ad} {n:Af} {c:Int} {r:AI} (hg:A0 t=true) (hn:CJ n 1=true) (h:Bf t r=true):B9 47 (By t n c r)= [head t n,De r c,De r 0]:=by unfold By;rw [show head t n++ [47]++De r c++ [47]++De r 0=head t n++ [47]++(De r c++ [47]++De r 0) by simp,ZG (zFb hg hn),ZG fun b hb=>(Qk (SU h c b hb)).1,L7 fun b hb=>(Qk (SU h 0 b hb)).1]
theorem IM (t:Ad) (r:AI):(AO t r).af=t.ab++ [47]++De r 0:=by unfold AO De;rw [List.head?_eq_getElem?];rfl
theorem zwf {t:Ad} {r:AI} (hg:A0 t=true) (h:Bf t r=true):B9 47 (AO t r).af= [t.ab,De r 0]:=by rw [IM,ZG fun b hb=>(Qk (Sk (Md hg) b hb)).1,L7 fun b hb=>(Qk (SU h 0 b hb)).1]
theorem zvC {t:Ad} {n:Af} {r:AI} (hg:A0 t=true) (h:Bf t r=true):Da t n (AO t r).af=false:=by unfold Da;rw [zwf hg h]
theorem zwG {t:Ad} {r:AI} {c:Int} (h:Bf t r=true) (h0:0≤c) (h1:c≤(t.ar.length:Int)-1):field (De r c)=true:=by
 unfold Bf at h;simp only [Ae,beq_iff_eq]at h;have hl:c.toNat<r.aw.length:=by have:=h.1;omega
 unfold De;rw [List.getElem?_eq_getElem hl];exact AG.1 h.2 _ (List.getElem_mem hl)
theorem SF {t:Ad} {n m:Af} {c:Int} {r:AI} (hg:A0 t=true) (hm:CJ m 1=true) (h:Bf t r=true) (h0:0≤c) (h1:c≤(t.ar.length:Int)-1):Da t n (By t m c r)=decide (m=n):=by
 have hc:=Jp hg;unfold Da;rw [SG hg hm h];simp only [zwG h h0 h1,zwG h (show(0:Int)≤0 by omega) (by omega),Bool.and_true];rw [Bool.eq_iff_iff];simp only [beq_iff_eq,decide_eq_true_eq];unfold head;constructor
 ·intro e;exact List.append_cancel_left e
 ·rintro rfl;rfl
theorem zsG {t:Ad} {n:Af} {c:Int} {r r':AI} (hg:A0 t=true) (hn:CJ n 1=true) (h:Bf t r=true) (h':Bf t r'=true) (e:By t n c r=By t n c r'):De r 0=De r' 0:=by have h1:=SG (c:=c) hg hn h;rw [e,SG hg hn h']at h1;simp only [List.cons.injEq,and_true]at h1;exact h1.2.2.symm
theorem VV {t:Ad} {n:Af} {c:Int} {r r':AI} (hg:A0 t=true) (hn:CJ n 1=true) (h:Bf t r=true) (h':Bf t r'=true):(AO t r).af≠By t n c r':=by intro e;have h1:=zwf hg h;rw [e,SG hg hn h']at h1;simp at h1
theorem zzO {xs:List Af} (hx:xs≠ []) (h: ∀x∈xs,∀b∈x,b≠44):B9 44 (Lib.join xs [44])=xs:=by
 induction xs with
 |nil=>exact absurd rfl hx
 |cons x r ih=>
  cases r with
  |nil=>rw [Lib.join_one,L7 (h x (by simp))]
  |cons y r=>
   have e:Lib.join (x::y::r) [44]=x++ [44]++Lib.join (y::r) [44]:=by rw [Lib.join_cons,Lib.join_cons];simp [Lib.joinTail]
   rw [e,ZG (h x (by simp)),ih (by simp) fun z hz=>h z (by simp [hz])]
theorem SN {t:Ad} {r:AI} (hg:A0 t=true) (h:Bf t r=true):BQ (AO t r)=r:=by
 have hc:=Jp hg;have hn:=Sp (Md hg);have hl:=h;unfold Bf at hl;simp only [Ae,beq_iff_eq]at hl;have hf:=oB h;obtain⟨vs⟩:=r;cases vs with
 |nil=>simp at hl;omega
 |cons v vs=>
  have A5:vs≠ []:=by rintro rfl;simp at hl;omega
  unfold BQ AO;simp only [List.head?_cons,Option.getD_some,List.tail_cons];rw [zzO A5 fun x hx b hb=>(Qk (hf x (by simp [hx]) b hb)).2.1];congr 1;congr 1;have:(t.ab++ [47]++v).drop 2=v:=by rw [List.drop_append_of_le_length (by simp [hn])];rw [List.drop_of_length_le (by simp [hn])];rfl
  exact this
theorem gR {t:Ad} {r:AI} (hg:A0 t=true) (h:Bf t r=true):Cq t (AO t r)=true:=by unfold Cq;rw [SN hg h,h];unfold KA;simp
theorem Gb {t:Ad} {w:Ab} (h:Cq t w=true):Bf t (BQ w)=true∧w=AO t (BQ w):=by unfold Cq KA at h;simp only [Ae,beq_iff_eq]at h;obtain⟨h1,h2,h3,h4⟩:=h;refine⟨h1, ?_⟩;cases w;cases hq:AO t (BQ _);rename_i a b c d e f;rw [hq]at h2 h3 h4;simp only at h2 h3 h4;rw [h2,h3,h4]
def Ip (t:Ad) (a:Bv):List Ab:=
 if a.ak=1 then [⟨(AO t a.bw).af,(AO t a.bw).a7,false⟩]else
 if a.ak=2 then [⟨(AO t a.br).af, [],true⟩]else [⟨(AO t a.br).af,(AO t a.bw).a7,false⟩]
def GR (t:Ad) (a:Bv) (x:Aq):List Ab:=
 (if E5 t a x≠ []∧E5 t a x≠Ed t a x∧x.aq≥1 then [⟨E5 t a x, [],true⟩]else [])++(if Ed t a x≠ []∧x.aq≥2 then [⟨Ed t a x, [],false⟩]else [])
def D8 (t:Ad) (a:Bv):List Ab:=Ip t a++t.ah.flatMap (GR t a)
def Qi (t:Ad) (a:Bv) (st st':List Ab):Prop:=
 ∀y,y∈st'↔y.bh=false∧(y∈D8 t a∨y∈st∧ ∀w∈D8 t a,w.af≠y.af)
def XO (t:Ad) (a:Bv) (st:List Ab):Prop:=
 (a.ak=1→ ∀w∈st,w.af≠(AO t a.bw).af)∧(a.ak≠1→AO t a.br∈st)
theorem F8 {t:Ad} (h:A0 t=true):Dk t:=by
 have hn:=(NM (Md h)).1;have h0:=h;unfold A0 at h;simp only [Ae,decide_eq_true_eq]at h;have hl:=B7.1 h.1.1.2.2;have hc:=h.1.1.2.1;refine⟨by omega,by omega,fun c hm=> ?_,by omega,fun x hx=> ?_⟩
 ·obtain⟨i,hi,rfl⟩:=List.mem_iff_getElem.1 hm;unfold K9 at hc;have:=AG.1 hc i (List.mem_range.2 hi);unfold Of at this;rw [List.getElem?_eq_getElem hi]at this;simp only [Option.getD_some,Ae]at this;have:=(NM this.1).1;omega
 ·have:=(NM (E2 h0 hx).1).1;omega
structure Od (l:List Af):Prop where
 len:l.length≤10
 each: ∀s∈l,s.length≤10
theorem Od.small {l:List Af} (h:Od l):Small l:=⟨by have:=h.len;omega,by
 have h1:=pL h.each;have h2:=h.len;have h3:10*l.length≤100:=by omega
 omega⟩
theorem Sv {t:Ad} {r:AI} (hg:A0 t=true) (h:Bf t r=true):Od r.aw∧2≤r.aw.length:=by
 have JL:=Jp hg;have h4:t.ar.length≤4:=by have:=hg;unfold A0 at this;simp only [Ae,decide_eq_true_eq]at this;have:=B7.1 this.1.1.2.2;omega
 unfold Bf at h;rw [Ae,beq_iff_eq]at h;exact⟨⟨by omega,fun s hs=>by have:=pX (AG.1 h.2 s hs);omega⟩,by omega⟩
theorem Wh {k v:Af} (h1:Am k=true) (h2:Gl v=true):C3 ⟨k,v,false⟩=true:=by unfold C3 Im;rw [h1,h2];rfl
theorem zue {t:Ad} {r:AI} (hg:A0 t=true) (h:Bf t r=true):Lh t r:=⟨by have h1:=h;unfold Bf at h1;rw [Ae,beq_iff_eq]at h1;omega,(Sv hg h).1.small⟩
theorem P0 {t:Ad} {l:List Ab} {r:AI} (h:r∈rows t l):Bf t r=true:=by unfold rows at h;obtain⟨w,hw,rfl⟩:=List.mem_map.1 h;exact(Gb (List.mem_filter.1 hw).2).1
theorem nK {t:Ad} {x:Aq} {r:AI} (hg:A0 t=true) (hx:x∈t.ah) (hr:Bf t r=true):Ji t x r=some (By t x.ab x.bm r)∧C3 ⟨By t x.ab x.bm r, [],false⟩=true:=by have hS:=F8 hg;exact⟨aF hS.name (hS.idx x hx) (aA hg hx) (zue hg hr),Wh (V3 hg (E2 hg hx).1 hr) (by decide)⟩
theorem Ko {w:Ab} (h:C3 w=true):FU w:=⟨by have:=zwA h;omega,by have:=Z2 h;omega⟩
theorem Tp [Inhabited CQ] {c:Az} {k:Int} (l:List Af) (hl:l≠ []) (h:Bu c k) (hk:k≤4611686018427387000):BA (KV c l) fun p=>p.1∈l∧Bu p.2 (k+2):=by unfold KV;have O5:0<l.length:=List.length_pos_iff.2 hl;refine(Gk l.length h hk).bind fun p ⟨hp,hc⟩=> ?_;exact BA.bind (P:=fun y=>y∈l) (.getI hp.1 (hp.2.1 (by omega)) fun x hx=>hx) fun y hy=> .ret ⟨hy,hc⟩
def IF:List Af:= [[105], [106], [109]]
structure xN (w:Int) (x:Aq):Prop where
 c1:1≤x.bm
 c2:x.bm≤w
 s0:0≤x.aq
 s3:x.aq≤3
structure TI (w:Int) (q:Nat) (l:List Aq):Prop where
 x: ∀x∈l,xN w x
 nm: ∀x∈l,x.ab∈IF.take q
 up:l.Pairwise fun a b=>Op.bytesLess a.ab b.ab=true
 len:l.length≤q
theorem zGa: ∀{q:Nat},q<3→ ∀a∈IF.take q,Op.bytesLess a ((IF[q]?).getD [])=true:=by
 intro q hq;have:q=0∨q=1∨q=2:=by omega
 rcases this with rfl|rfl|rfl<;>decide
theorem uJ {q:Nat} {a:Af} (h:a∈IF.take q):a∈IF.take (q+1):=by rw [List.take_add_one];exact Ai.2 (.inl h)
theorem TI.add {w:Int} {q:Nat} {l:List Aq} {x:Aq} (h:TI w q l) (hq:q<3) (hx:xN w x) (hn:x.ab=(IF[q]?).getD []):TI w (q+1) (l++ [x]):=by
 refine⟨fun y hy=> ?_,fun y hy=> ?_, ?_, ?_⟩
 ·rcases Ai.1 hy with hy|hy
  ·exact h.x y hy
  ·rw [List.mem_singleton.1 hy];exact hx
 ·rcases Ai.1 hy with hy|hy
  ·exact uJ (h.nm y hy)
  ·rw [List.mem_singleton.1 hy,hn,List.take_add_one];refine Ai.2 (.inr ?_);have:q<IF.length:=hq;rw [List.getElem?_eq_getElem this];simp
 ·refine List.pairwise_append.2 ⟨h.up,List.pairwise_singleton _ _,fun a ha b hb=> ?_⟩;rw [List.mem_singleton.1 hb,hn];exact zGa hq _ (h.nm a ha)
 ·have:=h.len;rw [Ap,AH];omega
theorem TI.more {w:Int} {q:Nat} {l:List Aq} (h:TI w q l):TI w (q+1) l:=⟨h.x,fun y hy=>uJ (h.nm y hy),h.up,by have:=h.len;omega⟩
theorem zzK {nm:Af} {cs:List Af} {l:List Aq} (hn:nm∈([[116], [117]]:List Af)) (hc:K9 cs=true) (h2:2≤cs.length) (h4:cs.length≤4) (h:TI ((cs.length:Int)-1) 3 l):A0 ⟨nm,cs,l⟩=true:=by
 unfold A0;have e1:CJ nm 1=true:=by simp only [Ag,List.not_mem_nil,or_false]at hn;rcases hn with rfl|rfl<;>decide
 have hl:=h.len;simp only [e1,hc,Bool.true_and,Ae,decide_eq_true_eq];refine⟨⟨B7.2 ⟨by omega,by omega⟩,by omega⟩,AG.2 fun i hi=> ?_⟩;have hi:=List.mem_range.1 hi;unfold HO;have ex:(l[i]?).getD ⟨[],0,0⟩=l[i]:=by rw [List.getElem?_eq_getElem hi];rfl
 dsimp only;rw [ex];have hm:=List.getElem_mem hi;have hx:=h.x _ hm;have Ds:CJ l[i].ab 1=true:=by have:=h.nm _ hm;have e:IF.take 3=IF:=rfl;rw [e]at this;unfold IF at this;simp only [Ag,List.not_mem_nil,or_false]at this;rcases this with e|e|e<;>rw [e]<;>decide
 rw [Ds,B7.2 ⟨hx.c1,hx.c2⟩,B7.2 ⟨hx.s0,hx.s3⟩];simp only [Bool.true_and,Bool.or_eq_true,beq_iff_eq];by_cases h0:i=0
 ·exact .inl h0
 ·refine .inr ?_;have hp:i-1<l.length:=by omega
  have ep:(l[i-1]?).getD ⟨[],0,0⟩=l[i-1]:=by rw [List.getElem?_eq_getElem hp];rfl
  rw [ep];exact(List.pairwise_iff_getElem.1 h.up) (i-1) i hp hi (by omega)
def Tq:List Af:= [[107], [97], [98], [99,99]]
theorem ZS {p:Int} (h0:0≤p) (h3:p<3):K9 (Bk Tq 0 (IntKind.i64.wrap (2+p)))=true∧(((Bk Tq 0 (IntKind.i64.wrap (2+p))).length:Nat):Int)=2+p:=by
 rw [A8 (by omega) (by omega)];have:p=0∨p=1∨p=2:=by omega
 rcases this with rfl|rfl|rfl<;>exact⟨by decide,by decide⟩
theorem nO [Inhabited CQ] {v2:Int × Az} {q:Nat} {l:List Aq} {y:Af} {a:List Int} {b e k:Int} {t:Bool} (h0:0≤v2.1) (h3:v2.1<3) (hq:q<3) (hy:y=(IF[q]?).getD []) (hl:TI (1+v2.1) q l) (hc:Bu ⟨a,b,e⟩ k) (hk:k≤4611686018427380000):
  BA (Nx v2 q l y a b e t) fun o=> ∃(c:Az) (l':List Aq),o= .inl (((q+1:Nat):Int),c.az,c.cc,c.a8,l')∧TI (1+v2.1) (q+1) l'∧Bu c (k+4):=by
 unfold Nx;have hw:=(ZS h0 h3).2;unfold Tq at hw;have w1:IntKind.i64.wrap ((q:Int)+1)=((q+1:Nat):Int):=by rw [A8 (by omega) (by omega)];omega
 refine .ite (fun _=> ?_) fun _=> .ret ⟨⟨a,b,e⟩,l,by rw [w1],hl.more,hc.up (by omega)⟩;rw [hw,A8 (n:=2+v2.1-1) (by omega) (by omega)];refine(Gk _ hc (by omega)).bind fun p ⟨hp,B2⟩=>(Gk 4 B2 (by omega)).bind fun r ⟨hr,JL⟩=> ?_;have p2:=hp.2.1 (by omega);have r2:=hr.2.1 (by omega);have hlen:=hl.len;refine .req (by simp;omega) (.ret ⟨r.2,_,by rw [w1],hl.add hq ⟨?_, ?_,hr.1,by dsimp only;omega⟩ hy,JL.up (by omega)⟩)
 ·dsimp only;rw [A8 (by omega) (by omega)];omega
 ·dsimp only;rw [A8 (by omega) (by omega)];omega
theorem Wj [Inhabited CQ] {c:Az} {k:Int} (h:Bu c k) (hk:k≤4611686018427370000):BA (Jh c) fun p=>A0 p.1=true∧Bu p.2 (k+40):=by
 unfold Jh;refine(Tp _ (by simp) h (by omega)).bind fun n ⟨hn,hc⟩=>(Gk 3 hc (by omega)).bind fun p ⟨hp,hd⟩=> ?_;have p2:=hp.2.1 (by omega);obtain⟨GK,FM⟩:=ZS hp.1 p2;unfold Tq at GK FM;have w1:IntKind.i64.wrap (2+p.1)=2+p.1:=A8 (by omega) (by omega);refine .req ⟨by omega,by rw [w1];omega,by rw [w1];simp;omega⟩ (.req (by rw [FM];simp;omega) ?_);refine Ma (fun m s=> ∃q:Nat,s.1=(q:Int)∧q+m=3∧TI (1+p.1) q s.2.2.2.2∧Bu ⟨s.2.1,s.2.2.1,s.2.2.2.1⟩ (k+4+8*q)) (fun m s hI=> ?_) (n:=3) ⟨0,rfl,rfl,⟨by simp,by simp, .nil,by simp⟩,by simpa using hd.up (by omega)⟩;obtain⟨q,e1,e2,hT,ho⟩:=hI;obtain⟨s1,a,b,e,l⟩:=s;dsimp only at e1 hT ho ⊢;subst e1;unfold jC;have ec:(([([105]:Ac),([106]:Ac),([109]:Ac)]:List (Ac)).length:Int)=3:=rfl;rw [ec];refine .ite (fun Ak=> ?_) fun ES=> ?_
 ·simp only [decide_eq_true_eq]at Ak;have hq:q<3:=by omega
  have eg:getI [([105]:Ac),([106]:Ac),([109]:Ac)] (q:Int)=some ((IF[q]?).getD []):=by
   have:q=0∨q=1∨q=2:=by omega
   rcases this with rfl|rfl|rfl<;>rfl
  rw [eg,Aa];refine(Lg 3 ho (by omega)).bind fun x hx=> .ite (fun _=> ?_) fun _=> .ite (fun _=> ?_) fun _=> ?_
  ·exact(nO hp.1 p2 hq rfl hT hx (by omega)).mono fun o ho=>by obtain⟨c',l',rfl,ht,MM⟩:=ho;exact⟨m-1,by omega,q+1,rfl,by omega,ht,MM.up (by omega)⟩
  ·refine(Lg 8 hx (by omega)).bind fun z hz=> ?_;exact(nO hp.1 p2 hq rfl hT hz (by omega)).mono fun o ho=>by obtain⟨c',l',rfl,ht,MM⟩:=ho;exact⟨m-1,by omega,q+1,rfl,by omega,ht,MM.up (by omega)⟩
  ·exact(nO hp.1 p2 hq rfl hT hx (by omega)).mono fun o ho=>by obtain⟨c',l',rfl,ht,MM⟩:=ho;exact⟨m-1,by omega,q+1,rfl,by omega,ht,MM.up (by omega)⟩
 ·simp only [decide_eq_false_iff_not]at ES;have:q=3:=by omega
  subst this;refine .ret (.ret ⟨zzK hn GK (by omega) (by omega) ?_,ho.up (by omega)⟩);rw [FM,show 2+p.1-1=1+p.1 by omega];exact hT
theorem xE [Inhabited CQ] {c:Az} {k:Int} {t:Ad} (hg:A0 t=true) (h:Bu c k) (hk:k≤4611686018427380000):BA (Vf c t) fun p=>Bf t p.1=true∧Bu p.2 (k+20):=by
 have JL:=Jp hg;have h4:t.ar.length≤4:=by have:=hg;unfold A0 at this;simp only [Ae,decide_eq_true_eq]at this;have:=B7.1 this.1.1.2.2;omega
 unfold Vf;refine(Tp _ (by simp) h (by omega)).bind fun n ⟨hn,hc⟩=> ?_;have hf0:field n.1=true:=by simp only [Ag,List.not_mem_nil,or_false]at hn;rcases hn with e|e|e|e|e|e<;>rw [e]<;>decide
 refine Ma (fun m s=>s.2.2.2.length+m=t.ar.length∧(∀x∈s.2.2.2,field x=true)∧Bu ⟨s.1,s.2.1,s.2.2.1⟩ (k+2+4*s.2.2.2.length)) (fun m s hI=> ?_) (n:=t.ar.length-1) ⟨by simp;omega,by simpa using hf0,hc.up (by simp;omega)⟩;obtain⟨a,b,e,l⟩:=s;obtain⟨i1,i2,i3⟩:=hI;dsimp only at i1 i2 i3 ⊢;unfold yR;refine .ite (fun Ak=> ?_) fun ES=> ?_
 ·simp only [decide_eq_true_eq]at Ak;refine(Tp _ (by simp) i3 (by omega)).bind fun x ⟨hx,hd⟩=> .req (by simp;omega) (.ret ⟨m-1,by omega,by simp;omega,fun z hz=> ?_, ?_⟩)
  ·dsimp only at hz;rcases Ai.1 hz with hz|hz
   ·exact i2 z hz
   ·rw [List.mem_singleton.1 hz];simp only [Ag,List.not_mem_nil,or_false]at hx;rcases hx with e|e|e|e|e<;>rw [e]<;>decide
  ·refine hd.up ?_;dsimp only;rw [Ap,AH];omega
 ·simp only [decide_eq_false_iff_not]at ES;refine .ret (.ret ⟨?_,i3.up (by omega)⟩);unfold Bf;rw [Ae,beq_iff_eq];exact⟨by dsimp only;omega,AG.2 i2⟩
theorem Od.set {l:List Af} {i:Nat} {s:Af} (h:Od l) (hs:s.length≤10):Od (l.set i s):=⟨by rw [List.length_set];exact h.len,fun x hx=>by
 rcases List.mem_or_eq_of_mem_set hx with hx|rfl
 ·exact h.each x hx
 ·exact hs⟩
theorem Eb.mono {n m:Nat} {l:List Ab} (h:Eb n l) (hm:n≤m):Eb m l:=⟨h.b8,by have:=h.len;omega,h.bq⟩
theorem zGM [Inhabited CQ] {c:Az} {k:Int} (h:Bu c k) (hk:k≤4611686018427387000):BA (YC c) fun p=>Am p.1=true∧Bu p.2 (k+2):=by unfold YC;refine(Tp _ (by simp) h (by omega)).bind fun p ⟨hp,hc⟩=> .ret ⟨?_,hc⟩;simp only [Ag,List.not_mem_nil,or_false]at hp;dsimp only;rcases hp with e|e|e|e|e|e|e|e<;>rw [e]<;>decide
theorem zGY [Inhabited CQ] {c:Az} {k:Int} (h:Bu c k) (hk:k≤4611686018427387000):BA (YD c) fun p=>Gl p.1=true∧Bu p.2 (k+2):=by unfold YD;refine(Tp _ (by simp) h (by omega)).bind fun p ⟨hp,hc⟩=> .ret ⟨?_,hc⟩;simp only [Ag,List.not_mem_nil,or_false]at hp;dsimp only;rcases hp with e|e|e|e|e|e|e<;>rw [e]<;>decide
def Iq (t:Ad) (l:List Ab):Nat:=(l.filter (Cq t)).length
theorem rC {t:Ad} {w:Ab}: ∀l:List Ab,Iq t (Bg wk w l)≤Iq t l+(if Cq t w=true then 1 else 0)
 | []=>by unfold Iq;rw [Bg,List.filter_cons];split<;>simp
 |z::l=>by
  have ih:=rC (t:=t) (w:=w) l;unfold Iq at ih ⊢;rw [Bg];split
  ·rw [List.filter_cons];split<;>simp
  ·split
   ·rw [List.filter_cons,List.filter_cons];split<;>split<;>(try simp only [An])<;>omega
   ·rw [List.filter_cons,List.filter_cons];split<;>(try simp only [An])<;>omega
theorem ztI {t:Ad} {x:Aq} {r:AI} (hg:A0 t=true) (hx:x∈t.ah) (hr:Bf t r=true) (l:List Ab):Iq t (Bg wk ⟨By t x.ab x.bm r, [],false⟩ l)≤Iq t l:=by
 have h:=rC (t:=t) (w:=⟨By t x.ab x.bm r, [],false⟩) l;rw [if_neg (fun BI=> ?_)]at h
 ·omega
 ·obtain⟨h1,h2⟩:=Gb BI;exact VV hg (E2 hg hx).1 h1 hr (congrArg Ab.af h2).symm
structure Dh (n:Nat) (l:List Ab):Prop where
 ok:Eb n l
 live: ∀w∈l,w.bh=false
theorem Dh.len {n:Nat} {l:List Ab} (h:Dh n l):l.length≤n:=h.ok.len
theorem Dh.b8 {n:Nat} {l:List Ab} (h:Dh n l):CZ l:=h.ok.b8
theorem Dh.bq {n:Nat} {l:List Ab} (h:Dh n l): ∀w∈l,C3 w=true:=h.ok.bq
theorem Dh.mono {n m:Nat} {l:List Ab} (h:Dh n l) (hm:n≤m):Dh m l:=⟨h.ok.mono hm,h.live⟩
theorem nX {w y:Ab}: ∀{l:List Ab},y∈Bg wk w l→y=w∨y∈l
 | [],h=> .inl (by simpa [Bg]using h)
 |z::l,h=>by
  rw [Bg]at h;split at h
  ·rcases Ag.1 h with h|h
   ·exact .inl h
   ·exact .inr h
  ·split at h
   ·rcases Ag.1 h with h|h
    ·exact .inl h
    ·exact .inr (by simp [h])
   ·rcases Ag.1 h with h|h
    ·exact .inr (by simp [h])
    ·rcases nX h with h|h
     ·exact .inl h
     ·exact .inr (by simp [h])
theorem S5 {n:Nat} {ws:List Ab} {w:Ab} (h:Dh n ws) (hw:C3 w=true) (hl:w.bh=false):Dh (n+1) (Bg wk w ws):=⟨K0 h.ok hw,fun y hy=>by
 rcases nX hy with rfl|hy
 ·exact hl
 ·exact h.live y hy⟩
theorem zx8 [Inhabited CQ] {t:Ad} {c:Az} {k:Int} {n m:Nat} {l:List Ab} (hl:Dh n l) (hm:Iq t l≤m) (hn:n≤1000) (h:Bu c k) (hk:k≤4611686018427380000):BA (jF c.az c.cc c.a8 l) fun p=>(Dh (n+1) p.1∧Iq t p.1≤m+1)∧Bu p.2 (k+6):=by unfold jF;have hlen:=hl.len;refine(Lg 6 (c:=⟨c.az,c.cc,c.a8⟩) h (by omega)).bind fun p hp=> .ite (fun _=> ?_) fun _=> .ret ⟨⟨hl.mono (by omega),by dsimp only;omega⟩,hp.up (by omega)⟩;refine(zGM hp (by omega)).bind fun q ⟨hq,hc⟩=>(zGY hc (by omega)).bind fun r ⟨hr,hd⟩=> ?_;rw [Mq (by omega) hl.b8,Aa];refine .ret ⟨⟨S5 hl (Wh hq hr) rfl, ?_⟩,hd.up (by omega)⟩;have:=rC (t:=t) (w:=⟨q.1,r.1,false⟩) l;split at this<;>(dsimp only;omega)
theorem zxH [Inhabited CQ] {t:Ad} {q:Nat} {x:Aq} {c:Az} {k:Int} {n m:Nat} {l:List Ab} (hg:A0 t=true) (hx:x∈t.ah) (hq:q≤3) (hl:Dh n l) (hm:Iq t l≤m) (hn:n≤1000) (h:Bu c k) (hk:k≤4611686018427370000):
  BA (jB t q x c.az c.cc c.a8 l) fun o=> ∃(c':Az) (l':List Ab),o= .inl (((q+1:Nat):Int),c'.az,c'.cc,c'.a8,l')∧Dh (n+1) l'∧Iq t l'≤m∧Bu c' (k+30):=by
 unfold jB;have hlen:=hl.len;have w1:IntKind.i64.wrap ((q:Int)+1)=((q+1:Nat):Int):=by rw [A8 (by omega) (by omega)];omega
 refine(Lg 5 (c:=⟨c.az,c.cc,c.a8⟩) h (by omega)).bind fun p hp=> .ite (fun _=> ?_) fun _=> .ret ⟨p.2,l,by rw [w1],hl.mono (by omega),hm,hp.up (by omega)⟩;refine(xE hg hp (by omega)).bind fun r ⟨hr,hc⟩=> ?_;obtain⟨e1,e2⟩:=nK hg hx hr;rw [e1,Aa,Mq (by omega) hl.b8,Aa];exact .ret ⟨r.2,_,by rw [w1],S5 hl e2 rfl,Nat.le_trans (ztI hg hx hr l) hm,hc.up (by omega)⟩
def XQ (q:Nat):Nat:=4+5*q
theorem zAh {t:Ad} (h:A0 t=true):t.ah.length≤3:=by unfold A0 at h;simp only [Ae,decide_eq_true_eq]at h;omega
theorem zxA [Inhabited CQ] {t:Ad} {c:Az} {k:Int} {l:List Ab} (hg:A0 t=true) (hl:Dh 4 l) (h:Bu c k) (hk:k≤4611686018427360000):BA (jD t c.az c.cc c.a8 l) fun p=>(Dh 20 p.1∧Iq t p.1≤5)∧Bu p.2 (k+700):=by
 unfold jD;have hS:=F8 hg;have h3:=zAh hg;refine Ma (fun m s=> ∃q:Nat,s.1=(q:Int)∧q+m=t.ah.length∧Dh (XQ q) s.2.2.2.2∧Iq t s.2.2.2.2≤4∧Bu ⟨s.2.1,s.2.2.1,s.2.2.2.1⟩ (k+200*q)) (fun m s hI=> ?_) (n:=t.ah.length) (by exact⟨0,rfl,by omega,hl,Nat.le_trans (List.length_filter_le _ _) hl.len,by simpa using h⟩);obtain⟨q,e1,e2,hT,hm,ho⟩:=hI;obtain⟨s1,a,b,e,l⟩:=s;dsimp only at e1 hT hm ho ⊢;subst e1;have hb:XQ q=4+5*q:=rfl;have hlen:=hT.len;unfold yK;refine .ite (fun Ak=> ?_) fun ES=> ?_
 ·simp only [decide_eq_true_eq]at Ak;have hq:q<t.ah.length:=by omega
  rw [AR hq,Aa,SI hS.name (by omega) (fun w hw=>Ko (hT.bq w hw)),Aa];have hx:=List.getElem_mem hq;have hR:(rows t l).length≤4:=by unfold rows;rw [List.length_map];exact hm
  generalize DK:rows t l=R at hR;have Iu: ∀r∈R,Bf t r=true:=fun r hr=>P0 (l:=l) (by rw [DK];exact hr);refine Ma (fun j s=> ∃i:Nat,s.1=(i:Int)∧i+j=R.length∧Dh (XQ q+i) s.2.2.2.2∧Iq t s.2.2.2.2≤4∧Bu ⟨s.2.1,s.2.2.1,s.2.2.2.1⟩ (k+200*q+2*i)) (fun j s hJ=> ?_) (n:=R.length) (by exact⟨0,rfl,by omega,hT,hm,by simpa using ho⟩);obtain⟨i,f1,f2,gT,gm,go⟩:=hJ;obtain⟨s1,a,b,e,l'⟩:=s;dsimp only at f1 gT gm go ⊢;subst f1;have glen:=gT.len;unfold yL;refine .ite (fun Ht=> ?_) fun dG=> ?_
  ·simp only [decide_eq_true_eq]at Ht;have hi:i<R.length:=by omega
   have w1:IntKind.i64.wrap ((i:Int)+1)=((i+1:Nat):Int):=by rw [A8 (by omega) (by omega)];omega
   obtain⟨n1,n2⟩:=nK hg hx (Iu _ (List.getElem_mem hi));rw [AR hi,Aa];refine(Lg 5 go (by omega)).bind fun p hp=> .ite (fun _=> ?_) fun _=> .ret ⟨j-1,by omega,i+1,w1,by omega,gT.mono (by omega),gm,hp.up (by omega)⟩;rw [n1,Aa,Mq (by omega) gT.b8,Aa];exact .ret ⟨j-1,by omega,i+1,w1,by omega,(S5 gT n2 rfl).mono (by omega),Nat.le_trans (ztI hg hx (Iu _ (List.getElem_mem hi)) _) gm,hp.up (by omega)⟩
  ·simp only [decide_eq_false_iff_not]at dG;refine .ret ((zxH (c:=⟨a,b,e⟩) hg hx (by omega) gT gm (by omega) go (by omega)).mono fun o ho2=> ?_);obtain⟨c',l2,rfl,z1,zm,z2⟩:=ho2;exact⟨m-1,by omega,q+1,rfl,by omega,z1.mono (by have:XQ (q+1)=4+5*(q+1):=rfl;omega),zm,z2.up (by omega)⟩
 ·refine .ret ((zx8 (t:=t) (c:=⟨a,b,e⟩) hT hm (by omega) ho (by omega)).mono fun p hp=>⟨⟨hp.1.1.mono (by omega),hp.1.2⟩,hp.2.up (by omega)⟩)
theorem zDr [Inhabited CQ] {t:Ad} {c:Az} {k:Int} (hg:A0 t=true) (h:Bu c k) (hk:k≤4611686018427350000):BA (Yt c t) fun p=>(Dh 20 p.1∧Iq t p.1≤5)∧Bu p.2 (k+900):=by
 unfold Yt;have hS:=F8 hg;refine(Gk 5 h (by omega)).bind fun p ⟨hp,hc⟩=> ?_;have p2:=hp.2.1 (by omega);obtain⟨m,hm⟩:=Int.eq_ofNat_of_zero_le hp.1;have hm4:m≤4:=by omega
 refine Ma (fun j s=>j≤4∧s.2.1=(j:Int)∧Dh (4-j) s.1∧Bu ⟨s.2.2.1,s.2.2.2.1,s.2.2.2.2⟩ (k+2+30*(4-j))) (fun j s hI=> ?_) (n:=m) (by exact⟨hm4,hm,⟨⟨.nil,by simp,by simp⟩,by simp⟩,hc.up (by omega)⟩);obtain⟨l,s1,a,b,e⟩:=s;obtain⟨i0,i1,i2,i3⟩:=hI;dsimp only at i1 i2 i3 ⊢;subst i1;have hlen:=i2.len;unfold yM;refine .ite (fun Ak=> ?_) fun ES=> ?_
 ·simp only [decide_eq_true_eq,gt_iff_lt]at Ak;refine(xE hg i3 (by omega)).bind fun r ⟨hr,hd⟩=> ?_;obtain⟨hs,h2⟩:=Sv hg hr;have A5:r.1.aw≠ []:=fun e=>by rw [e]at h2;simp at h2
  have hw:=P2 hg hr;rw [Mr hS.name hs.small A5,Aa,Mq (by omega) i2.b8,Aa];refine .ret ⟨j-1,by omega,by omega, ?_,(S5 i2 (w:=AO t r.1) (Wh hw.1 hw.2) rfl).mono (by omega),hd.up (by omega)⟩;dsimp only;rw [A8 (by omega) (by omega)];omega
 ·simp only [decide_eq_false_iff_not,gt_iff_lt]at ES;exact .ret ((zxA (c:=⟨a,b,e⟩) hg (i2.mono (by omega)) i3 (by omega)).mono fun p hp=>⟨hp.1,hp.2.up (by omega)⟩)
structure On (l:List Ab):Prop where
 len:l.length≤100
 each: ∀w∈l,FU w
theorem On.small {l:List Ab} (h:On l):Js l:=⟨by have:=h.len;omega,fun w hw=>by have:=h.each w hw;unfold FU at this;omega⟩
theorem zsk (w:Ab): ∀(l:List Ab),(Bg wk w l).length≤l.length+1
 | []=>by simp [Bg]
 |z::l=>by
  rw [Bg];split
  ·simp
  ·split
   ·simp
   ·have:=zsk w l;simp only [An];omega
theorem On.put {l:List Ab} {w:Ab} (h:On l) (hl:l.length≤99) (hw:FU w):On (Bg wk w l):=⟨by have:=zsk w l;omega,fun y hy=>by
 rcases nX hy with rfl|hy
 ·exact hw
 ·exact h.each y hy⟩
theorem Dh.mg {n:Nat} {l:List Ab} (h:Dh n l) (hn:n≤100):On l:=⟨by have:=h.len;omega,fun w hw=>Ko (h.bq w hw)⟩
theorem Eb.mg {n:Nat} {l:List Ab} (h:Eb n l) (hn:n≤100):On l:=⟨by have:=h.len;omega,fun w hw=>Ko (h.bq w hw)⟩
structure wN (a:Bv):Prop where
 old:Od a.br.aw
 new:Od a.bw.aw
theorem wN.small {a:Bv} (h:wN a):FC a:=⟨h.old.small,h.new.small⟩
end Go.Proofs.YtbmbkgalkfmjdaaGreatDoor
end
section
namespace Go.Proofs.YtbmbkgalkfmjdaaGreatDoor
set_option maxRecDepth 100000
@[irreducible] def Gj (x:Nat):Nat:=(1442695040888963407+6364136223846793005*x) % 18446744073709551616
def Gi:Nat→Nat→Nat
 |0,x=>x
 |n+1,x=>Gi n (Gj x)
theorem zyC (x:Nat):Gi 0 x=x:=rfl
theorem rJ (n x:Nat):Gi (n+1) x=Gi n (Gj x):=rfl
theorem Wx (m n x:Nat):Gi (m+n) x=Gi n (Gi m x):=by
 induction m generalizing x with
 |zero=>rw [Nat.zero_add,zyC]
 |succ m ih=>rw [Nat.add_right_comm,rJ,rJ,ih]
theorem xD (x:Nat):Gj x<18446744073709551616:=by unfold Gj;exact Nat.mod_lt _ (by decide)
def Ps (A C n:Nat):Prop:= ∀x,Gi n x=(x*A+C) % 18446744073709551616
theorem rH {A C A' C' m n:Nat} (h:Ps A C m) (h':Ps A' C' n):Ps (A*A' % 18446744073709551616) ((C*A'+C') % 18446744073709551616) (m+n):=fun x=>by
 rw [Wx,h x,h' _];have e: ∀y:Nat,(y % 18446744073709551616*A'+C') % 18446744073709551616=(y*A'+C') % 18446744073709551616:=fun y=>by rw [Nat.add_mod,Nat.mod_mul_mod,←Nat.add_mod]
 rw [e,Nat.add_mul,Nat.mul_assoc,Nat.add_assoc];rw [Nat.add_mod (x*(A*A')) _,Nat.add_mod (x*(A*A' % 18446744073709551616)) _,Nat.mod_mod,Nat.mul_mod_mod]
def XX:Nat→Nat × Nat→Nat × Nat
 |0,p=>p
 |k+1,p=>XX k (p.1*p.1 % 18446744073709551616,(p.2*p.1+p.2) % 18446744073709551616)
theorem uL: ∀(k n:Nat) (p:Nat × Nat),Ps p.1 p.2 n→Ps (XX k p).1 (XX k p).2 (n*2^k)
 |0,n,p,h=>by rw [Nat.pow_zero,Nat.mul_one];exact h
 |k+1,n,p,h=>by have h2:=uL k (n+n) (p.1*p.1 % 18446744073709551616,(p.2*p.1+p.2) % 18446744073709551616) (rH h h);rw [Nat.pow_succ,show n*(2^k*2)=(n+n)*2^k by rw [Nat.add_mul,Nat.mul_comm (2^k) 2,←Nat.mul_assoc,Nat.mul_comm n 2,Nat.mul_assoc,Nat.two_mul]];exact h2
def UX:Nat:=211106232532992
def Eo (x:Nat):Nat:=x/1099511627776 % 256
theorem zFh:Ps 9118381870541701121 9530672342678634496 UX:=by
 have h1:Ps 6364136223846793005 1442695040888963407 1:=fun x=>by rw [rJ,zyC];unfold Gj;rw [Nat.add_comm,Nat.mul_comm]
 have h3:=rH (rH h1 h1) h1;simp only [Nat.reduceMul,Nat.reduceMod,Nat.reduceAdd]at h3;have h:=uL 46 3 (793875393913628917,11166244414315200793) h3;have e:XX 46 (793875393913628917,11166244414315200793)=(9118381870541701121,9530672342678634496):=by decide
 rw [e]at h;exact h
theorem zGI (z:Nat):Eo (z % 18446744073709551616)=Eo z:=by unfold Eo;omega
theorem zHq (x y:Nat):Eo (x+9530672342678634496+281474976710656*y)=(Eo x+192) % 256:=by unfold Eo;omega
theorem wR {x:Nat}:Eo (Gi UX x)=(Eo x+192) % 256:=by rw [zFh x,zGI,show x*9118381870541701121+9530672342678634496=x+9530672342678634496+281474976710656*(x*32395) by omega,zHq]
theorem zIq {x:Nat} (h0:Eo x % 3=0) (h1:Eo (Gi UX x) % 3=0) (h2:Eo (Gi UX (Gi UX x)) % 3=0):False:=by rw [wR]at h1 h2;rw [wR]at h2;have:Eo x<256:=Nat.mod_lt _ (by decide);omega
end Go.Proofs.YtbmbkgalkfmjdaaGreatDoor
end
section
namespace Go.Proofs.YtbmbkgalkfmjdaaGreatDoor
open Go.RowKit
set_option maxRecDepth 100000
theorem BA.and {α:Type} {o:Option α} {P Q:α→Prop} (h:BA o P) (k:BA o Q):BA o fun x=>P x∧Q x:=by obtain⟨x,rfl,hx⟩:=h;obtain⟨y,e,hy⟩:=k;cases e;exact⟨x,rfl,hx,hy⟩
def sd (c:Az):Prop:=0≤c.a8∧c.a8<18446744073709551616
def HR (c:Az):Prop:=(c.az.length:Int)≤c.cc∧sd c
def nx (c:Az):Az:=⟨c.az,c.cc+1,(Gj c.a8.toNat:Nat)⟩
theorem gZ (x:Int):IntKind.u64.wrap x=x % 18446744073709551616:=by simp [IntKind.wrap,IntKind.bits,IntKind.signed]
theorem zHT (c:Az):sd (nx c):=by
 have:=xD c.a8.toNat
 unfold sd nx;dsimp only;omega
theorem FB {c:Az} (h:HR c):HR (nx c):=⟨by have:=h.1;unfold nx;dsimp only;omega,zHT c⟩
theorem zFc (a:Nat) (h:a<18446744073709551616):(BitVec.ofInt (IntKind.bits .u64) (Int.fdiv (a:Int) (2^(min ((40:Int)).toNat (IntKind.bits .u64))))&&&BitVec.ofInt (IntKind.bits .u64) 255).toNat=Eo a:=by
 have e1:(2^(min ((40:Int)).toNat (IntKind.bits .u64)):Int)=((1099511627776:Nat):Int):=by decide
 have e2:Int.fdiv (a:Int) ((1099511627776:Nat):Int)=((a/1099511627776:Nat):Int):=by rw [Int.fdiv_eq_ediv_of_nonneg _ (by omega)];rfl
 rw [e1,e2,BitVec.toNat_and];have e3:(BitVec.ofInt (IntKind.bits .u64) ((a/1099511627776:Nat):Int)).toNat=a/1099511627776:=by
  rw [BitVec.ofInt_natCast,BitVec.toNat_ofNat];have:a/1099511627776<2^64:=by omega
  exact Nat.mod_eq_of_lt this
 have e4:(BitVec.ofInt (IntKind.bits .u64) 255).toNat=255:=by decide
 rw [e3,e4];have:(255:Nat)=2^8-1:=by decide
 rw [this,Nat.and_two_pow_sub_one_eq_mod];rfl
theorem zC1 [Inhabited CQ] {c:Az} {k:Int} (h:Bu c k) (hk:k≤4611686018427387904):BA (Pz c) fun p=>p.2.az=c.az∧p.2.cc=c.cc+1∧sd p.2∧(HR c→p.1=(Eo (Gj c.a8.toNat):Nat)∧p.2=nx c):=by
 obtain⟨hb,h0,h1⟩:=h;have w:IntKind.i64.wrap (c.cc+1)=c.cc+1:=A8 (by omega) (by omega);have Xs: ∀x:Int,0≤IntKind.u64.wrap x∧IntKind.u64.wrap x<18446744073709551616:=fun x=>by rw [gZ];exact⟨Int.emod_nonneg _ (by decide),Int.emod_lt_of_pos _ (by decide)⟩
 unfold Pz;refine .ite (fun Ak=> ?_) fun Ak=> ?_
 ·simp only [decide_eq_true_eq]at Ak;refine BA.bind (P:=fun _=>True) (.getI h0 Ak fun _ _=>trivial) fun y _=> .ite (fun _=> .ret ⟨rfl,w,Xs _,fun he=> ?_⟩) fun _=> .ret ⟨rfl,w,Xs _,fun he=> ?_⟩
  ·have:=he.1;omega
  ·have:=he.1;omega
 ·simp only [decide_eq_false_iff_not]at Ak;have Ut: ∀s:Int,0≤s→s<18446744073709551616→IntKind.u64.wrap ((IntKind.u64.wrap ((IntKind.u64.wrap (s*6364136223846793005))+(IntKind.u64.wrap 0)))+1442695040888963407)=(Gj s.toNat:Nat):=fun s s0 s1=>by
   unfold Gj;simp only [gZ];omega
  refine .ite (fun hle=> ?_) fun hle=> ?_
  ·simp only [decide_eq_true_eq,w]at hle;refine .ret ⟨rfl,w,Xs _,fun he=> ?_⟩;have:=he.1;omega
  ·refine .ret ⟨rfl,w,Xs _,fun he=> ?_⟩;have hs:=Ut c.a8 he.2.1 he.2.2;refine⟨?_, ?_⟩
   ·dsimp only;rw [hs,zFc _ (xD _)];have:Eo (Gj c.a8.toNat)<256:=Nat.mod_lt _ (by decide);have e:IntKind.u64.wrap (Eo (Gj c.a8.toNat):Nat)=(Eo (Gj c.a8.toNat):Nat):=by rw [gZ];omega
    rw [e,A8 (by omega) (by omega)]
   ·unfold nx;dsimp only;rw [hs,w]
theorem Wk [Inhabited CQ] {c:Az} {k:Int} (n:Int) (hn:2≤n) (Xl:n≤200) (h:Bu c k) (hk:k≤4611686018427387000):BA (Fy c n) fun p=>p.2.az=c.az∧p.2.cc=c.cc+1∧sd p.2∧(HR c→p.1=(Eo (Gj c.a8.toNat):Nat) % n∧p.2=nx c):=by
 unfold Fy;refine .ite (fun h1=> ?_) fun _=> ?_
 ·simp only [decide_eq_true_eq]at h1;omega
 ·refine(zC1 h (by omega)).bind fun p ⟨p1,p2,p3,p4⟩=> .ite (fun h1=> ?_) fun _=> .req (by omega) (.ret ⟨p1,p2,p3,fun he=> ?_⟩)
  ·simp only [decide_eq_true_eq]at h1;omega
  ·obtain⟨q1,q2⟩:=p4 he;refine⟨?_,q2⟩;dsimp only;rw [q1,Int.tmod_eq_emod_of_nonneg (by omega)]
theorem zF7 [Inhabited CQ] {c:Az} {k:Int} (n:Int) (Xl:n≤200) (h:Bu c k) (hs:sd c) (hk:k≤4611686018427387000):BA (Fy c n) fun p=>p.2.az=c.az∧c.cc≤p.2.cc∧sd p.2:=by
 by_cases hn:2≤n
 ·exact(Wk n hn Xl h hk).mono fun p ⟨a,b,d,_⟩=>⟨a,by omega,d⟩
 ·unfold Fy;refine .ite (fun _=> .ret ⟨rfl,Int.le_refl _,hs⟩) fun h1=> ?_;simp only [decide_eq_false_iff_not]at h1;omega
theorem vM [Inhabited CQ] {c:Az} {k:Int} (n:Int) (hn:2≤n) (Xl:n≤200) (h:Bu c k) (hk:k≤4611686018427387000):BA (II c n) fun p=>p.2.az=c.az∧p.2.cc=c.cc+1∧sd p.2∧(HR c→p.1=decide ((Eo (Gj c.a8.toNat):Nat) % n=(0:Int))∧p.2=nx c):=by unfold II;refine(Wk n hn Xl h hk).bind fun p ⟨p1,p2,p3,p4⟩=> .ret ⟨p1,p2,p3,fun he=> ?_⟩;obtain⟨q1,q2⟩:=p4 he;refine⟨?_,q2⟩;dsimp only;rw [q1];rfl
structure zIw (c:Az) (t:Ad) (c':Az):Prop where
 code:c'.az=c.az
 at_:c.cc+1≤c'.cc
 pa:sd c'
 bare:HR c→t.ah= []→c'=nx (nx (nx (nx (nx (nx c)))))∧(Eo (Gi 3 c.a8.toNat)) % 3=0
structure XS [Inhabited CQ] (c:Az) (q:Nat) (l:List Aq) (d:Az):Prop where
 code:d.az=c.az
 at_:c.cc+1≤d.cc
 pa:sd d
 ok:Bu d d.cc
 bare:HR c→l= []→(q=0→d=nx (nx c))∧(q=1→d=nx (nx (nx (nx c))))∧(q=2→d=nx (nx (nx (nx (nx c)))))∧(q=3→d=nx (nx (nx (nx (nx (nx c))))))∧(1≤q→(Eo (Gi 3 c.a8.toNat)) % 3=0)
theorem sK (c:Az):(nx c).a8.toNat=Gj c.a8.toNat:=by unfold nx;dsimp only;omega
theorem Bu.self [Inhabited CQ] {c:Az} {k:Int} (h:Bu c k):Bu c c.cc:=⟨h.1,h.2.1,Int.le_refl _⟩
theorem zvV [Inhabited CQ] {c:Az} {v2:Int × Az} {q:Nat} {l:List Aq} {y:Af} {d:Az} {t:Bool} (h0:0≤v2.1) (h3:v2.1<3) (hq:q<3) (hl:l.length≤q) (hd:d.az=c.az∧c.cc+1≤d.cc∧sd d∧Bu d d.cc) (hk:d.cc≤4611686018427380000)
  (hb:t=false→HR c→l= []→(q=0→d=nx (nx (nx (nx c))))∧(q=1→d=nx (nx (nx (nx (nx c)))))∧(q=2→d=nx (nx (nx (nx (nx (nx c))))))∧(Eo (Gi 3 c.a8.toNat)) % 3=0):
  BA (Nx v2 q l y d.az d.cc d.a8 t) fun o=> ∃(c':Az) (l':List Aq),o= .inl (((q+1:Nat):Int),c'.az,c'.cc,c'.a8,l')∧l'.length≤q+1∧c'.cc≤d.cc+10∧XS c (q+1) l' c':=by
 unfold Nx;obtain⟨d1,d2,d3,d4⟩:=hd;have hw:=(ZS h0 h3).2;unfold Tq at hw;have w1:IntKind.i64.wrap ((q:Int)+1)=((q+1:Nat):Int):=by rw [A8 (by omega) (by omega)];omega
 refine .ite (fun _=> ?_) fun ht=> .ret ⟨d,l,by rw [w1],by omega,by omega,⟨d1,d2,d3,d4,fun he G5=> ?_⟩⟩
 ·rw [hw,A8 (n:=2+v2.1-1) (by omega) (by omega)];refine((zF7 (c:=⟨d.az,d.cc,d.a8⟩) _ (by omega) d4 d3 (by omega)).and (Gk _ d4 (by omega))).bind fun p ⟨⟨p1,p2,p3⟩,hp,pc⟩=>((Wk 4 (by omega) (by omega) pc (by omega)).and (Gk 4 pc (by omega))).bind fun r ⟨⟨r1,r2,r3,_⟩,hr,rc⟩=> ?_;refine .req (by simp;omega) (.ret ⟨r.2,_,by rw [w1],by rw [Ap,AH];omega,by have:=rc.2.2;omega,⟨by rw [r1,p1];exact d1,by dsimp only at p2;omega,r3,rc.self,fun _ G5=> ?_⟩⟩);simp at G5
 ·obtain⟨b0,b1,b2,b3⟩:=hb ht he G5;exact⟨by omega,fun h=>b0 (by omega),fun h=>b1 (by omega),fun h=>b2 (by omega),fun _=>b3⟩
theorem pG [Inhabited CQ] {c:Az} {k:Int} (h:Bu c k) (hk:k≤4611686018427370000):BA (Jh c) fun p=>zIw c p.1 p.2:=by
 unfold Jh KV;refine BA.bind (P:=fun v=>v.2.az=c.az∧v.2.cc=c.cc+1∧sd v.2∧(HR c→v.2=nx c)) (((Wk 2 (by omega) (by omega) h (by omega)).and (Gk 2 h (by omega))).bind fun v ⟨⟨a1,a2,a3,a4⟩,hv,_⟩=> ?_) fun n ⟨n1,n2,n3,n4⟩=> ?_
 ·exact BA.bind (P:=fun _=>True) (.getI hv.1 (by have:=hv.2.1 (by omega);simpa using this) fun _ _=>trivial) fun _ _=> .ret ⟨a1,a2,a3,fun he=>(a4 he).2⟩
 have hc:Bu n.2 (c.cc+1):=⟨by rw [n1];exact h.1,by have:=h.2.1;omega,by omega⟩
 have tH:=h.2.2;have TR:=h.2.1;refine((Wk 3 (by omega) (by omega) hc (by omega)).and (Gk 3 hc (by omega))).bind fun p ⟨⟨p1,p2,p3,p4⟩,hp,hd⟩=> ?_;have pp2:=hp.2.1 (by omega);obtain⟨GK,FM⟩:=ZS hp.1 pp2;unfold Tq at GK FM;have w1:IntKind.i64.wrap (2+p.1)=2+p.1:=A8 (by omega) (by omega);refine .req ⟨by omega,by rw [w1];omega,by rw [w1];simp;omega⟩ (.req (by rw [FM];simp;omega) ?_);have Pa:XS c 0 [] p.2:=⟨by rw [p1,n1],by omega,p3,hd.self,fun he _=>by have e1:=n4 he;have e2:=(p4 (by rw [e1];exact FB he)).2;rw [e1]at e2;exact⟨fun _=>e2,by omega,by omega,by omega,by omega⟩⟩
 refine Ma (fun m s=> ∃q:Nat,s.1=(q:Int)∧q+m=3∧s.2.2.2.2.length≤q∧s.2.2.1≤c.cc+4+20*q∧XS c q s.2.2.2.2 ⟨s.2.1,s.2.2.1,s.2.2.2.1⟩) (fun m s hI=> ?_) (n:=3) (by exact⟨0,rfl,rfl,by simp,by dsimp only;omega,Pa⟩);obtain⟨q,e1,e2,hl,hf,hT⟩:=hI;obtain⟨s1,a,b,e,l⟩:=s;dsimp only at e1 hl hf hT ⊢;subst e1;have Aw:=hT.ok;dsimp only at Aw;unfold jC;have ec:(([([105]:Ac),([106]:Ac),([109]:Ac)]:List (Ac)).length:Int)=3:=rfl;rw [ec];have fin: ∀(d:Az) (t:Bool) (y:Af),q<3→d.az=c.az→b+1≤d.cc→d.cc≤b+2→sd d→(t=false→HR c→l= []→(q=0→d=nx (nx (nx (nx c))))∧(q=1→d=nx (nx (nx (nx (nx c)))))∧(q=2→d=nx (nx (nx (nx (nx (nx c))))))∧(Eo (Gi 3 c.a8.toNat)) % 3=0)→
   BA (Nx p q l y d.az d.cc d.a8 t) fun o=> ∃(c':Az) (l':List Aq),o= .inl (((q+1:Nat):Int),c'.az,c'.cc,c'.a8,l')∧l'.length≤q+1∧c'.cc≤d.cc+10∧XS c (q+1) l' c':=by
  intro d t y hq d1 d2 d3 d4 hb;have ha:=hT.at_;dsimp only at ha;exact zvV hp.1 pp2 hq hl ⟨d1,by omega,d4,⟨by rw [d1];exact h.1,by omega,Int.le_refl _⟩⟩ (by omega) hb
 refine .ite (fun Ak=> ?_) fun ES=> ?_
 ·simp only [decide_eq_true_eq]at Ak;have hq:q<3:=by omega
  have eg:getI [([105]:Ac),([106]:Ac),([109]:Ac)] (q:Int)=some ((IF[q]?).getD []):=by
   have:q=0∨q=1∨q=2:=by omega
   rcases this with rfl|rfl|rfl<;>rfl
  rw [eg,Aa];have HZ:=hT.code;dsimp only at HZ;refine((vM 3 (by omega) (by omega) Aw (by omega)).and (Lg 3 Aw (by omega))).bind fun x ⟨⟨x1,x2,x3,x4⟩,hx⟩=> ?_;dsimp only at x1 x2;refine .ite (fun _=> ?_) fun Jf=> .ite (fun hi=> ?_) fun hi=> ?_
  ·refine(fin x.2 true _ hq (by rw [x1,HZ]) (by omega) (by omega) x3 (fun h=>by cases h)).mono fun o ho=> ?_;obtain⟨c',l',rfl,g1,g2,g3⟩:=ho;exact⟨m-1,by omega,q+1,rfl,by omega,g1,by dsimp only;omega,g3⟩
  ·refine((vM 8 (by omega) (by omega) hx (by omega)).and (Lg 8 hx (by omega))).bind fun z ⟨⟨z1,z2,z3,z4⟩,hz⟩=> ?_;have QO:q=0:=by
    have:q=0∨q=1∨q=2:=by omega
    rcases this with h|h|h
    ·exact h
    ·rw [h]at hi;exact absurd hi (by decide)
    ·rw [h]at hi;exact absurd hi (by decide)
   refine(fin z.2 _ _ hq (by rw [z1,x1,HZ]) (by omega) (by omega) z3 (fun UC he G5=> ?_)).mono fun o ho=> ?_
   ·have hb:=(hT.bare he G5).1 QO;have Cl:HR (⟨a,b,e⟩:Az):=by rw [hb];exact FB (FB he)
    obtain⟨y1,y2⟩:=x4 Cl;rw [hb]at y1 y2;have w2:=(z4 (by rw [y2];exact FB (FB (FB he)))).2;rw [y2]at w2;refine⟨fun _=>w2,by omega,by omega, ?_⟩;rw [y1,sK,sK]at Jf;simp only [Bool.not_eq_false',decide_eq_true_eq]at Jf;show Eo (Gj (Gj (Gj c.a8.toNat))) % 3=0;omega
   ·obtain⟨c',l',rfl,g1,g2,g3⟩:=ho;exact⟨m-1,by omega,q+1,rfl,by omega,g1,by dsimp only;omega,g3⟩
  ·have hqn:q≠0:=fun h=>by rw [h]at hi;exact absurd hi (by decide)
   refine(fin x.2 false _ hq (by rw [x1,HZ]) (by omega) (by omega) x3 (fun _ he G5=> ?_)).mono fun o ho=> ?_
   ·obtain⟨b0,b1,b2,b3,b4⟩:=hT.bare he G5;refine⟨by omega,fun h=> ?_,fun h=> ?_,b4 (by omega)⟩
    ·have hb:=b1 h;rw [hb]at x4;exact(x4 (FB (FB (FB (FB he))))).2
    ·have hb:=b2 h;rw [hb]at x4;exact(x4 (FB (FB (FB (FB (FB he)))))).2
   ·obtain⟨c',l',rfl,g1,g2,g3⟩:=ho;exact⟨m-1,by omega,q+1,rfl,by omega,g1,by dsimp only;omega,g3⟩
 ·simp only [decide_eq_false_iff_not]at ES;have:q=3:=by omega
  subst this;refine .ret (.ret ⟨hT.code,hT.at_,hT.pa,fun he G5=> ?_⟩);obtain⟨_,_,_,b3,b4⟩:=hT.bare he G5;exact⟨b3 rfl,b4 (by omega)⟩
noncomputable def Jt:Nat→Az→Option (Ad × Az)
 |0,c=>Jh c
 |n+1,c=>(Jh c).bind fun p=>if p.1.ah.length=0 then Jt n p.2 else some p
theorem zwl [Inhabited CQ]: ∀(n:Nat) {c:Az} {k:Int},Bu c k→k+40*n≤4611686018427360000→BA (Jt n c) fun p=>A0 p.1=true∧Bu p.2 (k+40*(n+1))
 |0,c,k,h,hk=>(Wj h (by omega)).mono fun p hp=>⟨hp.1,hp.2.up (by omega)⟩
 |n+1,c,k,h,hk=>by
  unfold Jt;refine(Wj h (by omega)).bind fun p hp=> ?_;split
  ·exact(zwl n hp.2 (by omega)).mono fun q hq=>⟨hq.1,hq.2.up (by omega)⟩
  ·exact .ret ⟨hp.1,hp.2.up (by omega)⟩
theorem ztC [Inhabited CQ]: ∀(n:Nat) {c:Az} {k:Int},Bu c k→k+40*n≤4611686018427360000→HR c→BA (Jt n c) fun p=>p.1.ah= []→ ∀j≤n,Eo (Gi (6*j+3) c.a8.toNat) % 3=0
 |0,c,k,h,hk,he=>by
  refine(pG h (by omega)).mono fun p hp hl j hj=> ?_;have:j=0:=by omega
  subst this;exact(hp.bare he hl).2
 |n+1,c,k,h,hk,he=>by
  unfold Jt;refine((pG h (by omega)).and (Wj h (by omega))).bind fun p ⟨hp,_,ho⟩=> ?_;split
  ·rename_i h0;have hl:p.1.ah= []:=List.eq_nil_of_length_eq_zero h0;obtain⟨b1,b2⟩:=hp.bare he hl;have he2:HR p.2:=by rw [b1];exact FB (FB (FB (FB (FB (FB he)))))
   refine(ztC n ho (by omega) he2).mono fun q hq LC j hj=> ?_;cases j with
   |zero=>exact b2
   |succ j=>have:=hq LC j (by omega);rw [b1]at this;simp only [sK]at this;rw [show 6*(j+1)+3=6+(6*j+3) by omega,Wx];exact this
  ·rename_i h0;exact .ret fun hl=>absurd (by rw [hl];rfl) h0
theorem zrm [Inhabited CQ]: ∀(m n:Nat) {c:Az} {k:Int},Bu c k→k+40*(m+n)≤4611686018427360000→sd c→(c.az.length:Int)-c.cc≤m→(∀{c':Az} {k':Int},Bu c' k'→k'+40*n≤4611686018427360000→HR c'→BA (Jt n c') fun p=>p.1.ah≠ [])→BA (Jt (m+n) c) fun p=>p.1.ah≠ []
 |0,n,c,k,h,hk,hs,hl,Cl=>by rw [Nat.zero_add];exact Cl h (by omega) ⟨by omega,hs⟩
 |m+1,n,c,k,h,hk,hs,hl,Cl=>by
  rw [Nat.add_right_comm];unfold Jt;refine((pG h (by omega)).and (Wj h (by omega))).bind fun p ⟨hp,_,ho⟩=> ?_;split
  ·have h1:=hp.at_;exact zrm m n ho (by omega) hp.pa (by rw [hp.code];omega) Cl
  ·rename_i h0;exact .ret fun hl=>h0 (by rw [hl];rfl)
def QW:Nat:=70368744177664
theorem zzq [Inhabited CQ] {c:Az} {k:Int} (h:Bu c k) (hk:k+40*QW≤4611686018427360000) (he:HR c):BA (Jt QW c) fun p=>p.1.ah≠ []:=by
 refine(ztC QW h hk he).mono fun p hp hl=> ?_;have h0:=hp hl 0 (by decide);have h1:=hp hl 35184372088832 (by decide);have h2:=hp hl 70368744177664 (by decide);refine zIq (x:=Gi 3 c.a8.toNat) h0 ?_ ?_
 ·rw [←Wx];exact h1
 ·rw [←Wx,←Wx];exact h2
structure zIE (t:Ad):Prop where
 name:t.ab.length≤9223372036854775807
 jd:t.ar.length≤9223372036854775807
 l0: ∀c∈t.ar,c.length≤9223372036854775807
 idxs:t.ah.length≤9223372036854775807
 idx: ∀x∈t.ah,x.ab.length≤9223372036854775807
def FV (st:List Int):Int:=if st.contains 3 then 2 else if st.contains 0 then 0 else 1
theorem uY {xs:List Int} {k:Int} (h:xs.length≤2000000):VU xs k=some (xs.contains k):=by
 have key: ∀(n q:Nat),q+n=xs.length→AA (fun s:Int=>RX xs k s) (q:Int)=some ((xs.drop q).contains k):=by
  intro n
  induction n with
  |zero=>
   intro q hq;have:q=xs.length:=by omega
   subst this;rw [FA];have e:RX xs k xs.length=some (.inr (some false)):=by unfold RX;rw [if_neg (by simp)]
   rw [e];simp
  |succ n ih=>
   intro q hq;have Ak:q<xs.length:=by omega
   have ih2:=ih (q+1) (by omega);rw [FA,List.drop_eq_getElem_cons Ak,List.contains_cons];have e:RX xs k q=some (if(xs[q]==k)=true then .inr (some true)else .inl ((q+1:Nat):Int)):=by unfold RX;rw [if_pos (by simpa using Ak),AR Ak,Aa,Bx Ak (by omega)];cases(xs[q]==k)<;>rfl
   rw [e];by_cases h1:(xs[q]==k)=true
   ·have h2:xs[q]=k:=by simpa using h1
    rw [if_pos h1];simp [h2]
   ·have h2:(k==xs[q])=false:=by
     rw [Bool.eq_false_iff];intro h3;exact h1 (by simp at h3 ⊢;omega)
    rw [if_neg h1,h2,Bool.false_or];exact ih2
 have:=key xs.length 0 (by omega);unfold VU;simpa using this
theorem zFi {s:Ar} {st:List Int} (hn:st.length=s.bp.length) (hl:st.length≤2000000) (hs: ∀(i:Nat) (hi:i<st.length),∃tb,GO s i=some tb∧Kk s tb=some st[i]):YB s=some (FV st):=by
 have key: ∀(n q:Nat) (v:Int),q+n=st.length→AA (fun x:Int × Int=>Q7 s x.1 x.2) (v,(q:Int))=some (if(st.drop q).contains 3 then 2 else if(st.drop q).contains 0 then 0 else v):=by
  intro n
  induction n with
  |zero=>
   intro q v hq;have:q=st.length:=by omega
   subst this;have e:Q7 s v st.length=some (.inr (some v)):=by unfold Q7;rw [if_neg (by simp [hn])]
   rw [FA];dsimp only;rw [e];simp
  |succ n ih=>
   intro q v hq;have Ak:q<st.length:=by omega
   obtain⟨tb,e1,e2⟩:=hs q Ak;have e:Q7 s v q=some (if(st[q]==3)=true then .inr (some 2)else if(st[q]==0)=true then .inl (0,((q+1:Nat):Int))else .inl (v,((q+1:Nat):Int))):=by unfold Q7;rw [if_pos (by simp;omega),e1,Aa,e2,Aa,Bx Ak (by omega)];cases(st[q]==3)<;>cases(st[q]==0)<;>rfl
   rw [FA,List.drop_eq_getElem_cons Ak,List.contains_cons,List.contains_cons];dsimp only;rw [e];by_cases h1:st[q]=3
   ·simp [h1]
   ·have i0:=ih (q+1) 0 (by omega);have iv:=ih (q+1) v (by omega);have h1a:(st[q]==3)=false:=by simpa using h1
    have h1b:((3:Int)==st[q])=false:=by simp;omega
    rw [h1a,h1b,Bool.false_or];by_cases h2:st[q]=0
    ·simp only [h2,beq_self_eq_true,Bool.true_or,if_true,AX,if_false];rw [i0];split<;>(try split)<;>rfl
    ·have h2a:(st[q]==0)=false:=by simpa using h2
     have h2b:((0:Int)==st[q])=false:=by simp;omega
     rw [h2a,h2b,Bool.false_or];exact iv
 have:=key st.length 0 1 (by omega);unfold YB;simpa [FV]using this
theorem zwb {s:Ar} {st:List Int} (hn:st.length=s.bp.length) (hl:st.length≤2000000) (hs: ∀(i:Nat) (hi:i<st.length),∃y tb k x,getI s.bp i=some y∧getI s.aj y=some tb∧GP tb s.ab=some k∧getI tb.ah k=some x∧x.aq=st[i]):L6 s=some st:=by
 unfold L6;have h1:=Ga (xs:=st) (body:=fun x:List Int × Int=>Rl s x.1 x.2) (fun i (o:List Int)=>(o,i)) (fun(o:List Int) x=>o++ [x]) (fun o=>some o) (fun i o=>o.length=i)
  (fun i hi o ho=>by
   refine⟨?_,by simp [ho]⟩;obtain⟨y,tb,k,x,e1,e2,e3,e4,e5⟩:=hs i hi;show Rl s o i=_;unfold Rl;have hq:((((o).length:Int)+(([x.aq]:List Int).length:Int))*8≤140737488355328∧((o).length:Int)+(([x.aq]:List Int).length:Int)≤140737488355328):=by rw [AH];omega
   rw [if_pos (by simp;omega),e1,Aa,e2,Aa,e3,Aa,e4,Aa,AP hq,Bx hi (by omega),e5])
  (fun o ho=>by show Rl s o st.length=_;unfold Rl;rw [if_neg (by simp [hn])]) (s:=([]:List Int)) rfl
 have h3:=h1.1;rw [show(fun(o:List Int) x=>o++ [x])=(fun o x=>o++ [id x])from rfl,pT,List.map_id,List.nil_append]at h3;exact h3
theorem vL {s:Ar} {st:List Int} (hn:st.length=s.bp.length) (hl:st.length≤2000000) (hs: ∀(i:Nat) (hi:i<st.length),∃y tb k x,getI s.bp i=some y∧getI s.aj y=some tb∧GP tb s.ab=some k∧getI tb.ah k=some x∧x.aq=st[i]):VG s=some (FV st):=by unfold VG FV;rw [zwb hn hl hs,Aa,uY hl,Aa,uY hl,Aa];split<;>(try split)<;>rfl
theorem N6 {α:Type} {xs:List α} {i:Int} {x:α} (h:getI xs i=some x):0≤i∧xs[i.toNat]?=some x∧i<xs.length:=by
 unfold getI at h;split at h
 ·rename_i h0;have:=(List.getElem?_eq_some_iff.1 h).1;exact⟨h0,h,by omega⟩
 ·cases h
def CH (t:Ad) (k c:Int):Ad:=⟨t.ab,t.ar,t.ah.set k.toNat {((t.ah[k.toNat]?).getD ⟨[],0,0⟩)with aq:=c}⟩
def Gn (a b:Int):Int:=if a<b then a+1 else a-1
def Fj:Nat→Int→Int→List Int
 |0,_,_=> []
 |f+1,a,b=>if a=b then []else Gn a b::Fj f (Gn a b) b
def way (t:Ad) (k a b:Int):List Ad:=t::(Fj 3 a b).map (CH t k)
theorem rK: ∀(f:Nat) {a b:Int},0≤a→a≤3→0≤b→b≤3→ ∀c∈Fj f a b,0≤c∧c≤3
 |0,_,_,_,_,_,_,c,hc=>by simp [Fj]at hc
 |f+1,a,b,h1,h2,h3,h4,c,hc=>by
  unfold Fj at hc;split at hc
  ·simp at hc
  ·have hn:0≤Gn a b∧Gn a b≤3:=by unfold Gn;split<;>omega
   rcases Ag.1 hc with rfl|hc
   ·exact hn
   ·exact rK f hn.1 hn.2 h3 h4 c hc
theorem ZW: ∀(f:Nat) (a b:Int),(Fj f a b).length≤f
 |0,_,_=>by simp [Fj]
 |f+1,a,b=>by
  unfold Fj;split
  ·simp
  ·have:=ZW f (Gn a b) b;simp;omega
theorem rA {t:Ad} {k b:Int} {body:Int × List Ad→Option ((Int × List Ad) ⊕ Option (List Ad))} (HY:0≤b) (Gu:b≤3)
  (hs: ∀a o,0≤a→a≤3→a≠b→o.length≤100→body (a,o)=some (.inl (Gn a b,o++ [CH t k (Gn a b)]))) (he: ∀o,body (b,o)=some (.inr (some o))):
  ∀(f:Nat) (a:Int) (o:List Ad),0≤a→a≤3→(a-b).natAbs≤f→o.length+f≤100→AA body (a,o)=some (o++(Fj f a b).map (CH t k))
 |0,a,o,_,_,hf,_=>by
  have:a=b:=by omega
  subst this;rw [FA,he];simp [Fj]
 |f+1,a,o,h0,h3,hf,ho=>by
  by_cases Lp:a=b
  ·subst Lp;rw [FA,he];simp [Fj]
  ·rw [FA,hs a o h0 h3 Lp (by omega)];have hn:0≤Gn a b∧Gn a b≤3∧(Gn a b-b).natAbs≤f:=by unfold Gn;split<;>omega
   have:=rA HY Gu hs he f (Gn a b) (o++ [CH t k (Gn a b)]) hn.1 hn.2.1 hn.2.2 (by simp;omega);simp only [this,Fj,if_neg Lp,List.map_cons,List.append_assoc,List.singleton_append]
theorem gU {t:Ad} (h:Dk t):Sd t=some t:=by unfold Sd;have h1:=h.jd;have h2:=h.idxs;rw [AP (by simp;omega),AP (by simp;omega)]
theorem sA {t:Ad} (h:Dk t):R2 t=some t:=by unfold R2 U6 iZ;have h1:=h.jd;have h2:=h.idxs;rw [Mi (by omega) (by omega),Aa,Mi (by omega) (by omega),Aa]
theorem bF {t:Ad} {n:Af} {x:Aq} {c:Int} (h:Dk t) (hx:EJ t n x):PV t n c=some (CH t (BC (fun y:Aq=>y.ab==n) t.ah) c):=by unfold PV CH;rw [gU h,Aa,IS h,Aa,hx.at_,Aa,(N6 hx.at_).2.1];rfl
theorem vY {t:Ad} {n:Af} {x:Aq} {c:Int} (h:Dk t) (hx:EJ t n x):Vc t n c=some (CH t (BC (fun y:Aq=>y.ab==n) t.ah) c):=by unfold Vc CH;rw [sA h,Aa,WL h,Aa,hx.at_,Aa,(N6 hx.at_).2.1];rfl
theorem gP {t:Ad} {n:Af} {x:Aq} {b:Int} (h:Dk t) (hx:EJ t n x) (h0:0≤x.aq) (h3:x.aq≤3) (HY:0≤b) (Gu:b≤3):VM t n b=some (way t (BC (fun y:Aq=>y.ab==n) t.ah) x.aq b):=by
 unfold VM;rw [gU h,Aa,IS h,Aa,hx.at_,Aa];refine(rA (t:=t) (k:=BC (fun y:Aq=>y.ab==n) t.ah) HY Gu ?_ ?_ 3 x.aq [t] h0 h3 (by omega) (by simp)).trans (by simp [way])
 ·intro a o QC TM Lp ho;show VD t n b a o=_;unfold VD;rw [if_pos (by simpa using Lp)];have w1:IntKind.i64.wrap (a+1)=a+1:=A8 (by omega) (by omega);have w2:IntKind.i64.wrap (a-1)=a-1:=A8 (by omega) (by omega);by_cases Ak:a<b
  ·rw [if_pos (by simpa using Ak),w1,bF h hx,Aa,AP (by simp;omega)];simp [Gn,Ak]
  ·rw [if_neg (by simpa using Ak),w2,bF h hx,Aa,AP (by simp;omega)];simp [Gn,Ak]
 ·intro o;show VD t n b b o=_;unfold VD;rw [if_neg (by simp)]
theorem w6 {t:Ad} {n:Af} {x:Aq} {b:Int} (h:Dk t) (hx:EJ t n x) (h0:0≤x.aq) (h3:x.aq≤3) (HY:0≤b) (Gu:b≤3):Vl t n b=some (way t (BC (fun y:Aq=>y.ab==n) t.ah) x.aq b):=by
 unfold Vl Ny;rw [WL h,Aa,hx.at_,Aa,Aa,sA h,Aa];refine(rA (t:=t) (k:=BC (fun y:Aq=>y.ab==n) t.ah) HY Gu ?_ ?_ 3 x.aq [t] h0 h3 (by omega) (by simp)).trans (by simp [way])
 ·intro a o QC TM Lp ho;show U7 t n b a o=_;unfold U7;rw [if_pos (by simpa using Lp)];have w1:IntKind.i64.wrap (a+1)=a+1:=A8 (by omega) (by omega);have w2:IntKind.i64.wrap (a-1)=a-1:=A8 (by omega) (by omega);by_cases Ak:a<b
  ·rw [if_pos (by simpa using Ak),w1,vY h hx,Aa,AP (by simp;omega)];simp [Gn,Ak]
  ·rw [if_neg (by simpa using Ak),w2,vY h hx,Aa,AP (by simp;omega)];simp [Gn,Ak]
 ·intro o;show U7 t n b b o=_;unfold U7;rw [if_neg (by simp)]
theorem Sx {α β:Type} {xs ys:List α} (hl:xs.length=ys.length) {body:Int→Option (Int ⊕ Option β)} (p:α→α→Bool) (b:β) (fin:Option β)
  (hs: ∀(i:Nat) (hi:i<xs.length) (hj:i<ys.length),body i=some (if p xs[i] ys[i]=true then .inl ((i+1:Nat):Int)else .inr (some b))) (he:body xs.length=some (.inr fin)):AA body 0=if((xs.zip ys).all fun z=>p z.1 z.2)=true then fin else some b:=by
 have hz:(xs.zip ys).length=xs.length:=by simp [hl]
 have h1:=ZV (xs:=xs.zip ys) (body:=body) (fun i (_:Unit)=>i) (fun z _=>some (if p z.1 z.2=true then .inl ()else .inr (some b))) (fun _=>fin)
  (fun i hi s=>by
   have CL:i<xs.length:=by omega
   have QI:i<ys.length:=by omega
   rw [hs i CL QI,List.getElem_zip];cases p xs[i] ys[i]<;>simp [MJ]) (fun s=>by rw [hz];exact he) ()
 rw [sG (fun z:α × α=>p z.1 z.2) b fun x _ s=>rfl]at h1;exact h1
theorem Qg {α γ:Type} {p:α→α→Bool} {f:α→γ} (h: ∀x y,p x y=true↔f x=f y): ∀{xs ys:List α},xs.length=ys.length→(((xs.zip ys).all fun z=>p z.1 z.2)=true↔xs.map f=ys.map f)
 | [], [],_=>by simp
 | [],_::_,h=>by simp at h
 |_::_, [],h=>by simp at h
 |x::xs,y::ys,hl=>by have:=Qg h (xs:=xs) (ys:=ys) (by simpa using hl);simp only [List.zip_cons_cons,List.all_cons,Ae,List.map_cons,List.cons.injEq,this,h]
def nc (x:Aq):Af × Int:=(x.ab,x.bm)
theorem vJ {x y:Aq} (h1:nc x=nc y) (h2:x.aq=y.aq):x=y:=by cases x;cases y;simp [nc]at h1 h2;simp [h1,h2]
theorem rE: ∀{xs ys:List Aq},xs.map nc=ys.map nc→xs.map (·.aq)=ys.map (·.aq)→xs=ys
 | [], [],_,_=>rfl
 | [],_::_,h,_=>by simp at h
 |_::_, [],h,_=>by simp at h
 |x::xs,y::ys,h1,h2=>by simp only [List.map_cons,List.cons.injEq]at h1 h2;rw [vJ h1.1 h2.1,rE h1.2 h2.2]
theorem pI {a b:Ad} (h1:a.ab=b.ab) (h2:a.ar=b.ar) (h3:a.ah=b.ah):a=b:=by cases a;cases b;simp at h1 h2 h3;simp [h1,h2,h3]
theorem zzw {a b:Ad} (ha:Dk a): ∃r,Yx a b=some r∧(r=true↔a.ab=b.ab∧a.ar=b.ar∧a.ah.map nc=b.ah.map nc):=by
 unfold Yx;by_cases h0:(((a.ab !=b.ab)||((a.ar.length:Int) !=(b.ar.length:Int)))||((a.ah.length:Int) !=(b.ah.length:Int)))=true
 ·rw [if_pos h0];refine⟨_,rfl,by simp, ?_⟩;rintro⟨h1,h2,h3⟩;have h4:=congrArg List.length h3;simp only [List.length_map]at h4;rw [h1,h2,h4]at h0;simp at h0
 ·rw [if_neg h0];simp only [Bool.or_eq_true,bne_iff_ne,ne_eq,not_or,Decidable.not_not,Int.natCast_inj]at h0;obtain⟨⟨h1,h2⟩,h3⟩:=h0;have hc:=ha.jd;have hi:=ha.idxs;rw [Sx (xs:=a.ar) (ys:=b.ar) h2 (fun x y=>x==y) false (Yr a b) ?_ ?_]
  ·have hk:Yr a b=some ((a.ah.zip b.ah).all fun z=>nc z.1==nc z.2):=by
    unfold Yr;rw [Sx (xs:=a.ah) (ys:=b.ah) h3 (fun x y=>nc x==nc y) false (some true) ?_ ?_]
    ·cases((a.ah.zip b.ah).all fun z=>nc z.1==nc z.2)<;>rfl
    ·intro i CL G2;show Vh a b i=_;unfold Vh;rw [if_pos (by simpa using CL),AR CL,Aa,AR G2,Aa,Bx CL (by omega)];by_cases hq:nc a.ah[i]=nc b.ah[i]
     ·have EF:=hq;simp only [nc,Prod.mk.injEq]at EF;rw [if_neg (by simp [EF.1,EF.2]),if_pos (by simpa using hq)]
     ·have EF:=hq;simp only [nc,Prod.mk.injEq,not_and]at EF;rw [if_pos (by simp only [Bool.or_eq_true,bne_iff_ne,ne_eq];by_cases hz:a.ah[i].ab=b.ah[i].ab;exact .inr (EF hz);exact .inl hz),if_neg (by simpa using hq)]
    ·show Vh a b a.ah.length=_;unfold Vh;rw [if_neg (by simp)]
   have z1:=Qg (p:=fun x y:Af=>x==y) (f:=id) (by simp) h2;have z2:=Qg (p:=fun x y:Aq=>nc x==nc y) (f:=nc) (by simp) h3;rw [List.map_id,List.map_id]at z1;rw [hk];by_cases hz:((a.ar.zip b.ar).all fun z=>z.1==z.2)=true
   ·rw [if_pos hz];exact⟨_,rfl,by rw [z2];exact⟨fun h=>⟨h1,z1.1 hz,h⟩,fun h=>h.2.2⟩⟩
   ·rw [if_neg hz];exact⟨_,rfl,by simp,fun h=>absurd (z1.2 h.2.1) hz⟩
  ·intro i CL G2;show Vj a b i=_;unfold Vj;rw [if_pos (by simpa using CL),AR CL,Aa,AR G2,Aa,Bx CL (by omega)];by_cases hq:a.ar[i]=b.ar[i]
   ·rw [if_neg (by simp [hq]),if_pos (by simpa using hq)]
   ·rw [if_pos (by simpa using hq),if_neg (by simpa using hq)]
  ·show Vj a b a.ar.length=_;unfold Vj;rw [if_neg (by simp)]
structure Np (t:Ad):Prop where
 len:t.ah.length≤3
 oq: ∀x∈t.ah,0≤x.aq∧x.aq≤3
theorem zy5: ∀(l:List (Aq × Aq)) (s:Int),0≤s→(l.foldl (fun s z=>s+((z.1.aq-z.2.aq).natAbs:Int)) s=0↔s=0∧ ∀z∈l,z.1.aq=z.2.aq)
 | [],s,_=>by simp
 |z::l,s,h=>by
  rw [List.foldl_cons,zy5 l _ (by omega)];constructor
  ·rintro⟨h1,h2⟩;exact⟨by omega,fun y hy=>by
    rcases Ag.1 hy with rfl|hy
    ·omega
    ·exact h2 y hy⟩
  ·rintro⟨h1,h2⟩;have:=h2 z (by simp);exact⟨by omega,fun y hy=>h2 y (by simp [hy])⟩
theorem zwj: ∀{xs ys:List Aq},xs.length=ys.length→((∀z∈xs.zip ys,z.1.aq=z.2.aq)↔xs.map (·.aq)=ys.map (·.aq))
 | [], [],_=>by simp
 | [],_::_,h=>by simp at h
 |_::_, [],h=>by simp at h
 |x::xs,y::ys,hl=>by have:=zwj (xs:=xs) (ys:=ys) (by simpa using hl);simp only [List.zip_cons_cons,List.forall_mem_cons,this,List.map_cons,List.cons.injEq]
theorem zGZ (d:Int) (h1: -3≤d) (h2:d≤3):Zk d (IntKind.i64.wrap (0-d))=some (d.natAbs:Int):=by
 rw [A8 (by omega) (by omega)];unfold Zk;by_cases h:d>0-d
 ·rw [if_pos (by simpa using h)];congr 1;omega
 ·rw [if_neg (by simpa using h)];congr 1;omega
theorem zH9 {a b:Ad} (ha:Np a) (hb:Np b) (hl:a.ah.length=b.ah.length): ∃v,Zh a b=some v∧(v=0↔a.ah.map (·.aq)=b.ah.map (·.aq)):=by
 unfold Zh;have h3:=ha.len;have hz:(a.ah.zip b.ah).length=a.ah.length:=by simp [hl]
 have h1:=Ga (xs:=a.ah.zip b.ah) (body:=fun s:Int × Int=>R5 a b s.1 s.2) (fun i (s:Int)=>(s,i)) (fun(s:Int) z=>s+((z.1.aq-z.2.aq).natAbs:Int)) (fun s=>some s) (fun i s=>0≤s∧s≤3*(i:Int))
  (fun i hi s hs=>by
   have CL:i<a.ah.length:=by omega
   have QI:i<b.ah.length:=by omega
   have ga:=ha.oq a.ah[i] (List.getElem_mem CL);have gb:=hb.oq b.ah[i] (List.getElem_mem QI);rw [List.getElem_zip];refine⟨?_, ?_, ?_⟩
   ·show R5 a b s i=_;unfold R5;rw [if_pos (by simpa using CL),AR CL,Aa,AR QI,Aa,A8 (n:=a.ah[i].aq-b.ah[i].aq) (by omega) (by omega),zGZ _ (by omega) (by omega),Aa,Bx CL (by omega),A8 (by omega) (by omega)]
   ·dsimp only;omega
   ·dsimp only;push_cast;omega)
  (fun s hs=>by show R5 a b s ((a.ah.zip b.ah).length:Int)=_;unfold R5;rw [hz,if_neg (by simp)]) (s:=0) ⟨by omega,by omega⟩
 refine⟨_,h1.1, ?_⟩;rw [zy5 _ _ (by omega),←zwj hl];simp
def It (a b:Ad):Bool:=a.ab==b.ab&&(a.ar==b.ar&&(a.ah.map nc==b.ah.map nc&&a.ah.map (·.aq)==b.ah.map (·.aq)))
theorem SS {a b:Ad}:It a b=true↔a=b:=by
 unfold It;simp only [Ae,beq_iff_eq];constructor
 ·rintro⟨h1,h2,h3,h4⟩;exact pI h1 h2 (rE h3 h4)
 ·rintro rfl;simp
theorem zD2 {a b:Ad} (ha:Dk a):NC a b=some (It a b):=by
 have key: ∃r,NC a b=some r∧(r=true↔a=b):=by
  unfold NC;by_cases h1:(a.ab==b.ab)=true
  ·rw [if_pos h1];have Tz:a.ab=b.ab:=by simpa using h1
   have e1: ∃r,X4 a.ar b.ar=some r∧(r=true↔a.ar=b.ar):=by
    unfold X4;by_cases h2:((a.ar.length:Int) !=(b.ar.length:Int))=true
    ·rw [if_pos h2];exact⟨_,rfl,by simp,fun h=>by rw [h]at h2;simp at h2⟩
    ·rw [if_neg h2];have WW:a.ar.length=b.ar.length:=by
      have:(a.ar.length:Int)=b.ar.length:=by simpa using h2
      omega
     rw [Sx (xs:=a.ar) (ys:=b.ar) WW (fun x y=>x==y) false (some true) ?_ ?_]
     ·have z1:=Qg (p:=fun x y:Af=>x==y) (f:=id) (by simp) WW;rw [List.map_id,List.map_id]at z1;rw [←z1];cases hz:((a.ar.zip b.ar).all fun z=>z.1==z.2)<;>exact⟨_,rfl,by simp⟩
     ·intro i CL G2;show U3 a.ar b.ar i=_;unfold U3;have:=ha.jd;rw [if_pos (by simpa using CL),AR CL,Aa,AR G2,Aa,Bx CL (by omega)];by_cases hq:a.ar[i]=b.ar[i]
      ·rw [if_neg (by simp [hq]),if_pos (by simpa using hq)]
      ·rw [if_pos (by simpa using hq),if_neg (by simpa using hq)]
     ·show U3 a.ar b.ar a.ar.length=_;unfold U3;rw [if_neg (by simp)]
   obtain⟨r1,e1,f1⟩:=e1;rw [e1,Aa];by_cases h2:r1=true
   ·rw [if_pos h2];have WW:=f1.1 h2;have e2: ∃r,X7 a.ah b.ah=some r∧(r=true↔a.ah=b.ah):=by
     unfold X7;by_cases h3:((a.ah.length:Int) !=(b.ah.length:Int))=true
     ·rw [if_pos h3];exact⟨_,rfl,by simp,fun h=>by rw [h]at h3;simp at h3⟩
     ·rw [if_neg h3];have TC:a.ah.length=b.ah.length:=by
       have:(a.ah.length:Int)=b.ah.length:=by simpa using h3
       omega
      rw [Sx (xs:=a.ah) (ys:=b.ah) TC (fun x y=>x.ab==y.ab&&(x.bm==y.bm&&(x.aq==y.aq))) false (some true) ?_ ?_]
      ·have z1:=Qg (p:=fun x y:Aq=>x.ab==y.ab&&(x.bm==y.bm&&(x.aq==y.aq))) (f:=id) (fun x y=>by
        simp only [Ae,beq_iff_eq,id];constructor
        ·rintro⟨k1,k2,k3⟩;exact vJ (by simp [nc,k1,k2]) k3
        ·rintro rfl;simp) TC
       rw [List.map_id,List.map_id]at z1;rw [←z1];cases((a.ah.zip b.ah).all fun z=>z.1.ab==z.2.ab&&(z.1.bm==z.2.bm&&(z.1.aq==z.2.aq)))<;>exact⟨_,rfl,by simp⟩
      ·intro i CL G2;show U2 a.ah b.ah i=_;unfold U2;have:=ha.idxs;rw [if_pos (by simpa using CL),AR CL,Aa,AR G2,Aa,Bx CL (by omega)];cases(a.ah[i].ab==b.ah[i].ab&&(a.ah[i].bm==b.ah[i].bm&&(a.ah[i].aq==b.ah[i].aq)))<;>rfl
      ·show U2 a.ah b.ah a.ah.length=_;unfold U2;rw [if_neg (by simp)]
    obtain⟨r2,e2,f2⟩:=e2;rw [e2,Aa];exact⟨_,rfl,by rw [f2];exact⟨fun h=>pI Tz WW h,fun h=>by rw [h]⟩⟩
   ·rw [if_neg h2];exact⟨_,rfl,by simp,fun h=>absurd (f1.2 (by rw [h])) h2⟩
  ·rw [if_neg h1];exact⟨_,rfl,by simp,fun h=>by rw [h]at h1;simp at h1⟩
 obtain⟨r,e,f⟩:=key;rw [e];congr 1;rw [Bool.eq_iff_iff,f,SS]
structure D6 (s:Ar):Prop where
 name:s.ab.length≤2000000
 ways:s.aj.length≤2000000
 way: ∀t∈s.aj,Dk t
 at_:s.bp.length≤2000000
 store:Js s.ao
theorem gO {t:Ad} (h:A0 t=true):Np t:=by unfold A0 at h;simp only [Ae,decide_eq_true_eq]at h;refine⟨by omega,fun x hx=> ?_⟩;obtain⟨i,hi,rfl⟩:=List.mem_iff_getElem.1 hx;have h1:=AG.1 h.2 i (List.mem_range.2 hi);unfold HO at h1;simp only [Ae,List.getElem?_eq_getElem hi,Option.getD_some]at h1;exact B7.1 h1.1.2
theorem zyu {α γ:Type} (f:α→γ): ∀(l:List α) (k:Nat) (d y:α),f y=f ((l[k]?).getD d)→(l.set k y).map f=l.map f
 | [],k,d,y,_=>rfl
 |x::l,0,d,y,h=>by simp only [List.getElem?_cons_zero,Option.getD_some]at h;simp [h]
 |x::l,k+1,d,y,h=>by simp only [List.getElem?_cons_succ]at h;simp [zyu f l k d y h]
theorem VW (t:Ad) (k c:Int):(CH t k c).ah.map (·.ab)=t.ah.map (·.ab):=zyu _ _ _ ⟨[],0,0⟩ _ rfl
theorem zBR {t:Ad} {k c:Int} (h:Np t) (h0:0≤c) (h3:c≤3):Np (CH t k c):=by
 refine⟨by unfold CH;simpa using h.len,fun x hx=> ?_⟩;rcases List.mem_or_eq_of_mem_set hx with hx|rfl
 ·exact h.oq x hx
 ·exact⟨h0,h3⟩
theorem zxS {t:Ad} {k c:Int} (h:Dk t):Dk (CH t k c):=by refine⟨h.name,h.jd,h.l0,by unfold CH;simpa using h.idxs,fun x hx=> ?_⟩;have h1:x.ab∈(CH t k c).ah.map (·.ab):=List.mem_map.2 ⟨x,hx,rfl⟩;rw [VW]at h1;obtain⟨y,hy,e⟩:=List.mem_map.1 h1;rw [←e];exact h.idx y hy
theorem zFK {t:Ad} {k a b:Int} (hS:Dk t) (h:Np t) (QC:0≤a) (TM:a≤3) (HY:0≤b) (Gu:b≤3): ∀w∈way t k a b,w.ah.map (·.ab)=t.ah.map (·.ab)∧Np w∧Dk w:=by
 intro w hw;rcases Ag.1 hw with rfl|hw
 ·exact⟨rfl,h,hS⟩
 ·obtain⟨c,hc,rfl⟩:=List.mem_map.1 hw;have:=rK 3 QC TM HY Gu c hc;exact⟨VW t k c,zBR h this.1 this.2,zxS hS⟩
theorem zwU {xs ys:List Aq} {n:Af} (h:xs.map (·.ab)=ys.map (·.ab)):decide (BC (fun x:Aq=>x.ab==n) xs≥0)=decide (BC (fun x:Aq=>x.ab==n) ys≥0):=by
 rw [P7,P7];have e: ∀l:List Aq,(l.any fun x=>x.ab==n)=(l.map (·.ab)).any (· ==n):=fun l=>by rw [List.any_map];rfl
 rw [e,e,h]
def LQ:Ad:=⟨[], [], []⟩
def AT (s:Ar):Ad:=(s.aj[0]?).getD LQ
def Il (s:Ar):Ad:=(s.aj[s.aj.length-1]?).getD LQ
def BP (t:Ad) (n:Af):Int:=BC (fun y:Aq=>y.ab==n) t.ah
def Bi (t:Ad) (n:Af):Int:=((t.ah[(BP t n).toNat]?).getD ⟨[],0,0⟩).aq
def Ea (s:Ar):List Ad:=way (AT s) (BP (AT s) s.ab) (Bi (AT s) s.ab) (Bi (Il s) s.ab)
theorem zDA {t:Ad} {n:Af} {x:Aq} (h:EJ t n x):Bi t n=x.aq:=by unfold Bi BP;rw [(N6 h.at_).2.1];rfl
theorem Jm {s:Ar} (h:1≤s.aj.length):getI s.aj 0=some (AT s)∧AT s∈s.aj:=by
 have h0:0<s.aj.length:=by omega
 have e:AT s=s.aj[0]:=by unfold AT;rw [List.getElem?_eq_getElem h0];rfl
 rw [e];exact⟨AR h0,List.getElem_mem h0⟩
theorem rB {s:Ar} (h:1≤s.aj.length) (h4:s.aj.length≤4):getI s.aj (IntKind.i64.wrap ((s.aj.length:Int)-1))=some (Il s)∧Il s∈s.aj:=by
 have h0:s.aj.length-1<s.aj.length:=by omega
 have e:Il s=s.aj[s.aj.length-1]:=by unfold Il;rw [List.getElem?_eq_getElem h0];rfl
 have w:IntKind.i64.wrap ((s.aj.length:Int)-1)=((s.aj.length-1:Nat):Int):=by rw [A8 (by omega) (by omega)];omega
 rw [e,w];exact⟨AR h0,List.getElem_mem h0⟩
theorem Ku {t:Ad} {n:Af} (h:BX t n=true): ∃x,EJ t n x∧Bi t n=x.aq∧0≤x.aq∧x.aq≤3∧A0 t=true:=by
 obtain⟨x,hx,_⟩:=WS h;have hg:A0 t=true:=by unfold BX at h;simp only [Ae]at h;exact h.1
 have:=(gO hg).oq x (rM hx.at_);exact⟨x,hx,zDA hx,this.1,this.2,hg⟩
theorem zF8 {s:Ar} (hS:D6 s) (h1:1≤s.aj.length) (h4:s.aj.length≤4): ∃sw,Sb s=some sw∧(sw=true↔(∀t∈s.aj,BX t s.ab=true)∧s.aj=Ea s):=by
 unfold Sb;obtain⟨e0,m0⟩:=Jm h1;obtain⟨e1,m1⟩:=rB h1 h4;have S0:=hS.way _ m0;have S1:=hS.way _ m1;rw [Gm,Aa,if_pos (B7.2 ⟨by omega,by omega⟩),e0,Aa,KZ S0,Aa];have no: ∀{t:Ad},t∈s.aj→BX t s.ab≠true→(false=true↔(∀t∈s.aj,BX t s.ab=true)∧s.aj=Ea s):=fun ht hn=>⟨by simp,fun h=>absurd (h.1 _ ht) hn⟩
 by_cases g0:A0 (AT s)=true
 ·rw [if_pos g0,IS S0,Aa];by_cases k0:BC (fun x:Aq=>x.ab==s.ab) (AT s).ah<0
  ·rw [if_pos (by simpa using k0)];exact⟨_,rfl,no m0 (by unfold BX;intro hq;rw [Ae,decide_eq_true_eq]at hq;omega)⟩
  ·rw [if_neg (by simpa using k0),e1,Aa,KZ S1,Aa];by_cases g1:A0 (Il s)=true
   ·rw [if_pos g1,IS S1,Aa];by_cases k1:BC (fun x:Aq=>x.ab==s.ab) (Il s).ah<0
    ·rw [if_pos (by simpa using k1)];exact⟨_,rfl,no m1 (by unfold BX;intro hq;rw [Ae,decide_eq_true_eq]at hq;omega)⟩
    ·rw [if_neg (by simpa using k1),Aa];have H0:BX (AT s) s.ab=true:=by unfold BX;simp only [Ae,decide_eq_true_eq];exact⟨g0,by omega⟩
     have H1:BX (Il s) s.ab=true:=by unfold BX;simp only [Ae,decide_eq_true_eq];exact⟨g1,by omega⟩
     obtain⟨x,hx,sx,x0,x3,_⟩:=Ku H0;obtain⟨y,hy,sy,y0,y3,_⟩:=Ku H1;rw [hy.at_,Aa,gP S0 hx x0 x3 y0 y3,Aa];have hW:way (AT s) (BC (fun y:Aq=>y.ab==s.ab) (AT s).ah) x.aq y.aq=Ea s:=by unfold Ea BP;rw [sx,sy]
     rw [hW];have hM:=zFK (t:=AT s) (k:=BP (AT s) s.ab) (a:=Bi (AT s) s.ab) (b:=Bi (Il s) s.ab) S0 (gO g0) (by omega) (by omega) (by omega) (by omega);have hM: ∀w∈Ea s,w.ah.map (·.ab)=(AT s).ah.map (·.ab)∧Np w∧Dk w:=hM;by_cases hl:((Ea s).length:Int) !=(s.aj.length:Int)
     ·rw [if_pos hl];exact⟨_,rfl,by simp,fun h=>by rw [←h.2]at hl;simp at hl⟩
     ·rw [if_neg hl];have BG:(Ea s).length=s.aj.length:=by
       have:((Ea s).length:Int)=(s.aj.length:Int):=by simpa using hl
       omega
      rw [Sx (xs:=Ea s) (ys:=s.aj) BG (fun w y=>A0 y&&It w y) false (some true) ?_ ?_]
      ·have z1:=Qg (p:=It) (f:=id) (fun x y=>SS) BG;rw [List.map_id,List.map_id]at z1;have z2:((Ea s).zip s.aj).all (fun z=>A0 z.2)=s.aj.all A0:=by
        have:=List.map_snd_zip (l₁:=Ea s) (l₂:=s.aj) (by omega)
        conv=>rhs;rw [←this]
        rw [List.all_map];rfl
       have z3:(((Ea s).zip s.aj).all fun z=>A0 z.2&&It z.1 z.2)=(s.aj.all A0&&((Ea s).zip s.aj).all fun z=>It z.1 z.2):=by rw [←z2];rw [Bool.eq_iff_iff];simp only [AG,Ae];exact⟨fun h=>⟨fun z hz=>(h z hz).1,fun z hz=>(h z hz).2⟩,fun h z hz=>⟨h.1 z hz,h.2 z hz⟩⟩
       have key:(((Ea s).zip s.aj).all fun z=>A0 z.2&&It z.1 z.2)=true↔(∀t∈s.aj,BX t s.ab=true)∧s.aj=Ea s:=by
        rw [z3,Ae,z1];constructor
        ·rintro⟨a1,a2⟩;refine⟨fun t ht=> ?_,a2.symm⟩;have q1:=AG.1 a1 t ht;rw [←a2]at ht;have q2:=zwU (n:=s.ab) (hM t ht).1;unfold BX at H0 ⊢;simp only [Ae]at H0 ⊢;exact⟨q1,by rw [q2];exact H0.2⟩
        ·rintro⟨a1,a2⟩;exact⟨AG.2 fun t ht=>by have:=a1 t ht;unfold BX at this;simp only [Ae]at this;exact this.1,a2.symm⟩
       by_cases hz:(((Ea s).zip s.aj).all fun z=>A0 z.2&&It z.1 z.2)=true
       ·rw [if_pos hz];exact⟨_,rfl,fun _=>key.1 hz,fun _=>rfl⟩
       ·rw [if_neg hz];exact⟨_,rfl,by simp,fun h=>absurd (key.2 h) hz⟩
      ·intro i hi hj;show Vo s (Ea s) i=_;unfold Vo;have Sj:=hS.way _ (List.getElem_mem hj);obtain⟨_,Ti,Si⟩:=hM _ (List.getElem_mem hi);rw [if_pos (by simpa using hi),AR hj,Aa,KZ Sj,Aa];by_cases gj:A0 s.aj[i]=true
       ·rw [if_pos gj,AR hi,Aa];obtain⟨r,er,fr⟩:=zzw (a:=(Ea s)[i]) (b:=s.aj[i]) Si;rw [er,Aa];by_cases hr:r=true
        ·rw [if_pos hr];obtain⟨c1,c2,c3⟩:=fr.1 hr;have c4:=congrArg List.length c3;simp only [List.length_map]at c4;obtain⟨v,ev,fv⟩:=zH9 Ti (gO gj) c4;rw [ev,Aa,Bx hi (by omega)];by_cases hv:v=0
         ·have:=SS.2 (pI c1 c2 (rE c3 (fv.1 hv)));rw [if_neg (by simp [hv]),if_pos (by rw [gj,this];rfl)]
         ·rw [if_pos (by simpa using hv),if_neg (by simp only [Ae,not_and];intro _ h;rw [SS.1 h]at fv;exact hv (fv.2 rfl))]
        ·rw [if_neg hr,if_neg (by simp only [Ae,not_and];intro _ h;rw [SS.1 h]at fr;exact hr (fr.2 ⟨rfl,rfl,rfl⟩))]
       ·rw [if_neg gj,if_neg (by simp [gj])]
      ·show Vo s (Ea s) (Ea s).length=_;unfold Vo;rw [if_neg (by simp)]
   ·rw [if_neg g1];exact⟨_,rfl,no m1 (by unfold BX;simp [g1])⟩
 ·rw [if_neg g0];exact⟨_,rfl,no m0 (by unfold BX;simp [g0])⟩
theorem zF1 {xs:List Int} {a b:Int} (h:xs.length≤2000000):Zp xs a b=some (xs.all fun y=>Bw y a b):=by
 unfold Zp;have h1:=ZV (xs:=xs) (body:=fun s:Int=>RS xs a b s) (fun i (_:Unit)=>i) (fun y _=>some (if Bw y a b=true then .inl ()else .inr (some false))) (fun _=>some true)
  (fun i hi s=>by
   show RS xs a b i=_;unfold RS;rw [if_pos (by simpa using hi),AR hi,Aa,Gm,Aa,Bx hi (by omega)];cases Bw xs[i] a b<;>simp [MJ]) (fun s=>by
   show RS xs a b xs.length=_;unfold RS;rw [if_neg (by simp)]) ()
 rw [sG (fun y=>Bw y a b) false fun x _ s=>rfl]at h1;refine h1.trans ?_;cases(xs.all fun y=>Bw y a b)<;>rfl
def Cc (s:Ar):Prop:=1≤s.aj.length∧s.aj.length≤4∧(∀t∈s.aj,BX t s.ab=true)∧s.aj=Ea s∧Bw s.bp.length 1 3=true∧(∀y∈s.bp,0≤y∧y≤(s.aj.length:Int)-1)∧BS s.ao=true
theorem wH {s:Ar}:(s.bp.all fun y=>Bw y 0 ((s.aj.length:Int)-1))=true↔ ∀y∈s.bp,0≤y∧y≤(s.aj.length:Int)-1:=by rw [AG];exact⟨fun h y hy=>B7.1 (h y hy),fun h y hy=>B7.2 (h y hy)⟩
theorem uP {s:Ar} (hS:D6 s): ∃g,VE s=some g∧(g=true↔Cc s):=by
 unfold VE;by_cases h:1≤s.aj.length∧s.aj.length≤4
 ·obtain⟨sw,e,f⟩:=zF8 hS h.1 h.2;rw [e,Aa];have w:IntKind.i64.wrap ((s.aj.length:Int)-1)=(s.aj.length:Int)-1:=A8 (by omega) (by omega);by_cases hw:sw=true
  ·rw [if_pos hw,Gm,Aa];by_cases h2:Bw s.bp.length 1 3=true
   ·rw [if_pos h2,w,zF1 hS.at_,Aa];by_cases h3:(s.bp.all fun y=>Bw y 0 ((s.aj.length:Int)-1))=true
    ·rw [if_pos h3,Mn hS.store,Aa];exact⟨_,rfl,fun h5=>⟨h.1,h.2,(f.1 hw).1,(f.1 hw).2,h2,wH.1 h3,h5⟩,fun h5=>h5.2.2.2.2.2.2⟩
    ·rw [if_neg h3];exact⟨_,rfl,by simp,fun h5=>absurd (wH.2 h5.2.2.2.2.2.1) h3⟩
   ·rw [if_neg h2];exact⟨_,rfl,by simp,fun h5=>absurd h5.2.2.2.2.1 h2⟩
  ·rw [if_neg hw];exact⟨_,rfl,by simp,fun h5=>absurd (f.2 ⟨h5.2.2.1,h5.2.2.2.1⟩) hw⟩
 ·have e:Sb s=some false:=by
   unfold Sb;rw [Gm,Aa,if_neg (by rw [B7];omega)]
  rw [e,Aa,if_neg (by simp)];exact⟨_,rfl,by simp,fun h5=>absurd ⟨h5.1,h5.2.1⟩ h⟩
theorem zAS {xs ys:List Ad} (h: ∀t∈xs,Dk t) (hl:xs.length≤2000000): ∃r,X1 xs ys (fun a b=>NC a b)=some r∧(r=true↔xs=ys):=by
 unfold X1;by_cases h3:((xs.length:Int) !=(ys.length:Int))=true
 ·rw [if_pos h3];exact⟨_,rfl,by simp,fun h=>by rw [h]at h3;simp at h3⟩
 ·rw [if_neg h3];have TC:xs.length=ys.length:=by
   have:(xs.length:Int)=ys.length:=by simpa using h3
   omega
  rw [Sx (xs:=xs) (ys:=ys) TC It false (some true) ?_ ?_]
  ·have z1:=Qg (p:=It) (f:=id) (fun x y=>SS) TC;rw [List.map_id,List.map_id]at z1;rw [←z1];cases((xs.zip ys).all fun z=>It z.1 z.2)<;>exact⟨_,rfl,by simp⟩
  ·intro i CL G2;show U4 xs ys (fun a b=>NC a b) i=_;unfold U4;rw [if_pos (by simpa using CL),AR CL,Aa,AR G2,Aa,Bx CL (by omega)];dsimp only;rw [zD2 (h _ (List.getElem_mem CL)),Aa];cases It xs[i] ys[i]<;>rfl
  ·show U4 xs ys (fun a b=>NC a b) xs.length=_;unfold U4;rw [if_neg (by simp)]
theorem aN {s:Ar} {t:Ad} {x:Aq} (h:Dk t) (hx:EJ t s.ab x):Kk s t=some x.aq:=by unfold Kk Ny;rw [WL h,Aa,hx.at_,Aa,Aa]
theorem aQ {s:Ar} (hS:D6 s): ∃g,L5 s=some g∧(g=true↔Cc s):=by
 unfold L5;rw [Jo,Aa];by_cases hb:Bw s.aj.length 1 4=true
 ·have h:=B7.1 hb;rw [if_pos hb,Jo,Aa];by_cases h2:Bw s.bp.length 1 3=true
  ·rw [if_pos h2,sM hS.store,Aa];by_cases h3:BS s.ao=true
   ·rw [if_neg (by simp [h3]),Ws (fun t=> !BX t s.ab) (fun t ht=>by unfold kM;rw [sQ (hS.way t ht),Aa]) (by omega),Aa];by_cases h4:(s.aj.any fun t=> !BX t s.ab)=true
    ·rw [if_pos h4];refine⟨_,rfl,by simp,fun h5=> ?_⟩;obtain⟨t,ht,hn⟩:=List.any_eq_true.1 h4;rw [h5.2.2.1 t ht]at hn;simp at hn
    ·have hA: ∀t∈s.aj,BX t s.ab=true:=fun t ht=>by
      cases hq:BX t s.ab with
      |true=>rfl
      |false=>exact absurd (List.any_eq_true.2 ⟨t,ht,by simp [hq]⟩) h4
     have w:IntKind.i64.wrap ((s.aj.length:Int)-1)=(s.aj.length:Int)-1:=A8 (by omega) (by omega);have KG:=hS.at_;rw [if_neg h4,Ws (fun y=> !Bw y 0 ((s.aj.length:Int)-1)) (fun y hy=>by unfold kH;rw [w,Jo,Aa]) (by omega),Aa];by_cases h5:(s.bp.any fun y=> !Bw y 0 ((s.aj.length:Int)-1))=true
     ·rw [if_pos h5];refine⟨_,rfl,by simp,fun h6=> ?_⟩;obtain⟨y,hy,hn⟩:=List.any_eq_true.1 h5;rw [B7.2 (h6.2.2.2.2.2.1 y hy)]at hn;simp at hn
     ·have hB: ∀y∈s.bp,0≤y∧y≤(s.aj.length:Int)-1:=fun y hy=>by
       cases hq:Bw y 0 ((s.aj.length:Int)-1)with
       |true=>exact B7.1 hq
       |false=>exact absurd (List.any_eq_true.2 ⟨y,hy,by simp [hq]⟩) h5
      obtain⟨e0,m0⟩:=Jm (s:=s) (by omega);obtain⟨e1,m1⟩:=rB (s:=s) (by omega) (by omega);obtain⟨x,hx,sx,x0,x3,_⟩:=Ku (hA _ m0);obtain⟨y,hy,sy,y0,y3,_⟩:=Ku (hA _ m1);rw [if_neg h5,e0,Aa,e1,Aa,aN (hS.way _ m1) hy,Aa,w6 (hS.way _ m0) hx x0 x3 y0 y3,Aa];have hW:way (AT s) (BC (fun y:Aq=>y.ab==s.ab) (AT s).ah) x.aq y.aq=Ea s:=by unfold Ea BP;rw [sx,sy]
      rw [hW];obtain⟨r,er,fr⟩:=zAS (xs:=s.aj) (ys:=Ea s) hS.way hS.ways;rw [er,Aa];exact⟨_,rfl,fun hr=>⟨by omega,by omega,hA,fr.1 hr,h2,hB,h3⟩,fun h6=>fr.2 h6.2.2.2.1⟩
   ·rw [if_pos (by simp [h3])];exact⟨_,rfl,by simp,fun h5=>absurd h5.2.2.2.2.2.2 h3⟩
  ·rw [if_neg h2];exact⟨_,rfl,by simp,fun h5=>absurd h5.2.2.2.2.1 h2⟩
 ·rw [if_neg hb];exact⟨_,rfl,by simp,fun h5=>absurd (B7.2 ⟨by have:=h5.1;omega,by have:=h5.2.1;omega⟩) hb⟩
def CS (t:Ad) (n:Af):Aq:=(t.ah[(BP t n).toNat]?).getD ⟨[],0,0⟩
theorem wF {t:Ad} {n:Af} {x:Aq} (h:EJ t n x):CS t n=x:=by unfold CS BP;rw [(N6 h.at_).2.1];rfl
def Cj (s:Ar):List Int:=s.bp.map fun y=>Bi ((getI s.aj y).getD LQ) s.ab
def GU (s:Ar):Bool:=holds (AT s) s.ab (CS (AT s) s.ab) (FV (Cj s)) s.ao
theorem qL {s:Ar} (hS:D6 s) (hg:Cc s):Za s=some (GU s)∧Rx s=some (GU s):=by
 obtain⟨h1,h4,hA,_,h3,hB,hR⟩:=hg;have h3:=B7.1 h3;obtain⟨e0,m0⟩:=Jm (s:=s) h1;obtain⟨x,hx,k1,k2,k3⟩:=WS (hA _ m0);have hT:=zFJ hR;have hW:=hS.store;have AW: ∀y∈s.bp,∃tb x,getI s.aj y=some tb∧tb∈s.aj∧EJ tb s.ab x∧Bi tb s.ab=x.aq:=fun y hy=>by obtain⟨tb,q1,q2,_⟩:=Kt (hB y hy).1 (by have:=(hB y hy).2;omega:y<s.aj.length);obtain⟨x,q3,q4,_⟩:=Ku (hA tb q2);exact⟨tb,x,q1,q2,q3,q4⟩
 let st:List Int:=s.bp.map fun y=>Bi ((getI s.aj y).getD LQ) s.ab;have hn:st.length=s.bp.length:=by simp [st]
 have hl:st.length≤2000000:=by have:=hS.at_;omega
 have n1:=vL (s:=s) (st:=st) hn hl fun i hi=>by
  have EE:i<s.bp.length:=by omega
  obtain⟨tb,x,q1,q2,q3,q4⟩:=AW _ (List.getElem_mem EE);refine⟨s.bp[i],tb,_,x,AR EE,q1,IS (hS.way _ q2),q3.at_, ?_⟩;simp only [st,List.getElem_map,q1,Option.getD_some,q4]
 have n2:=zFi (s:=s) (st:=st) hn hl fun i hi=>by
  have EE:i<s.bp.length:=by omega
  obtain⟨tb,x,q1,q2,q3,q4⟩:=AW _ (List.getElem_mem EE);refine⟨tb, ?_, ?_⟩
  ·unfold GO;rw [AR EE,Aa,q1,Aa]
  ·rw [aN (hS.way _ q2) q3];simp only [st,List.getElem_map,q1,Option.getD_some,q4]
 unfold Za Rx;have S0:=hS.way _ m0;have QM:=hS.name;have Fs:RU (AT s) s.ab s.ao=some true:=by rw [zC8 S0 hW];unfold Tt;rw [hA _ m0,hR];rfl
 rw [e0,Aa,Aa,n1,n2,Aa,Aa,zD1 S0 (by omega) QM hx hW.1 hT Fs,zDt S0 k1 QM k3 hx hW.1 hT];unfold GU;rw [wF hx];exact⟨rfl,rfl⟩
theorem zAZ {s:Ar} (hS:D6 s) (hg:Cc s): ∃r,Za s=some r∧Rx s=some r:=⟨_,qL hS hg⟩
def WV (t:Ad) (n:Af) (st:List Ab):Prop:= ∀w∈st,Da t n w.af=false
def JE (t:Ad) (n:Af) (x:Aq) (st:List Ab):Prop:= ∀w∈st,Da t n w.af=true→ ∃q∈st,Cq t q=true∧w.af=By t n x.bm (BQ q)
def JD (t:Ad) (n:Af) (x:Aq) (st:List Ab):Prop:= ∀q∈st,Cq t q=true→ ∃w∈st,w.af=By t n x.bm (BQ q)
structure Fo (t:Ad) (a:Bv):Prop where
 tab:A0 t=true
 old:a.ak≠1→Bf t a.br=true
 new:a.ak≠2→Bf t a.bw=true
 kind:a.ak=1∨a.ak=2∨a.ak=3
 same:a.ak=3→De a.br 0=De a.bw 0
structure Fm (t:Ad) (a:Bv) (n:Af) (x:Aq):Prop extends Fo t a where
 idx:x∈t.ah
 name:x.ab=n
theorem Fm.oz {t:Ad} {a:Bv} {n:Af} {x:Aq} (A:Fm t a n x):Fo t a:=⟨A.tab,A.old,A.new,A.kind,A.same⟩
theorem zFF {t:Ad} {a:Bv} (hg:A0 t=true) (h:HH t a=true):Fo t a:=by
 unfold HH at h;by_cases h1:a.ak=1
 ·rw [if_pos h1,Ae]at h;exact⟨hg,fun k=>absurd h1 k,fun _=>h.2, .inl h1,fun k=>by omega⟩
 rw [if_neg h1]at h;by_cases h2:a.ak=2
 ·rw [if_pos h2,Ae]at h;exact⟨hg,fun _=>h.1,fun k=>absurd h2 k, .inr (.inl h2),fun k=>by omega⟩
 rw [if_neg h2]at h;by_cases h3:a.ak=3
 ·rw [if_pos h3,Ae,Ae,beq_iff_eq]at h;exact⟨hg,fun _=>h.1,fun _=>h.2.1, .inr (.inr h3),fun _=>h.2.2⟩
 rw [if_neg h3]at h;cases h
theorem vK {t:Ad} {a:Bv} {n:Af} {x:Aq} (hg:A0 t=true) (hx:x∈t.ah) (hn:x.ab=n) (h:HH t a=true):Fm t a n x:=⟨zFF hg h,hx,hn⟩
theorem bB (t:Ad) (m:Af) (c:Int) (r:AI):By t m c r≠ []:=by unfold By;simp
section
variable {t:Ad} {a:Bv} (A:Fo t a)
include A
theorem Fo.ee (h:a.ak≠1) {y:Aq}:E5 t a y=By t y.ab y.bm a.br:=by have _:=A;unfold E5;rw [if_neg h]
theorem Fo.dv (h:a.ak≠2) {y:Aq}:Ed t a y=By t y.ab y.bm a.bw:=by have _:=A;unfold Ed;rw [if_neg h]
theorem Fo.eu {y:Aq} {w:Ab} (hw:w∈GR t a y):(w=⟨E5 t a y, [],true⟩∧a.ak≠1∧E5 t a y≠Ed t a y∧y.aq≥1)∨(w=⟨Ed t a y, [],false⟩∧a.ak≠2∧y.aq≥2):=by
 have _:=A;unfold GR at hw;rcases Ai.1 hw with hw|hw
 ·split at hw
  ·rename_i h;rw [List.mem_singleton]at hw;refine .inl ⟨hw,fun k=> ?_,h.2.1,h.2.2⟩;apply h.1;unfold E5;rw [if_pos k]
  ·simp at hw
 ·split at hw
  ·rename_i h;rw [List.mem_singleton]at hw;refine .inr ⟨hw,fun k=> ?_,h.2⟩;apply h.1;unfold Ed;rw [if_pos k]
  ·simp at hw
theorem Fo.dn {n:Af} {y:Aq} (hy:y∈t.ah) {w:Ab} (hw:w∈GR t a y): ∃r,Bf t r=true∧w.af=By t y.ab y.bm r∧Da t n w.af=decide (y.ab=n):=by
 have hc:=B7.1 (E2 A.tab hy).2;have hl:=(E2 A.tab hy).1;rcases A.eu hw with⟨rfl,h,_⟩|⟨rfl,h,_⟩
 ·refine⟨a.br,A.old h,A.ee h, ?_⟩;show Da t n (E5 t a y)=_;rw [A.ee h];exact SF A.tab hl (A.old h) (by omega) hc.2
 ·refine⟨a.bw,A.new h,A.dv h, ?_⟩;show Da t n (Ed t a y)=_;rw [A.dv h];exact SF A.tab hl (A.new h) (by omega) hc.2
theorem Fo.ib {w:Ab} (hw:w∈Ip t a): ∃r,Bf t r=true∧w.af=(AO t r).af:=by
 unfold Ip at hw;split at hw
 ·rename_i h;rw [List.mem_singleton]at hw;subst hw;exact⟨a.bw,A.new (by omega),rfl⟩
 ·rename_i h;split at hw
  ·rw [List.mem_singleton]at hw;subst hw;exact⟨a.br,A.old h,rfl⟩
  ·rw [List.mem_singleton]at hw;subst hw;exact⟨a.br,A.old h,rfl⟩
theorem Fo.ig {w:Ab} (hw:w∈D8 t a):w∈Ip t a∨ ∃y∈t.ah,w∈GR t a y:=by
 have _:=A;unfold D8 at hw;rcases Ai.1 hw with h|h
 ·exact .inl h
 ·exact .inr (List.mem_flatMap.1 h)
theorem Fo.jy (h:a.ak≠2):AO t a.bw∈D8 t a:=by
 refine Ai.2 (.inl ?_);unfold Ip;rcases A.kind with k|k|k
 ·rw [if_pos k];exact List.mem_singleton.2 rfl
 ·exact absurd k h
 ·rw [if_neg (by omega),if_neg (by omega),List.mem_singleton,IM,A.same k,←IM];rfl
theorem Fo.ea {w:Ab} (hw:w∈D8 t a) (hr:Cq t w=true):w=AO t a.bw∧a.ak≠2:=by
 obtain⟨Eg,Gh⟩:=Gb hr;rcases A.ig hw with h|⟨y,hy,h⟩
 ·unfold Ip at h;rcases A.kind with k|k|k
  ·rw [if_pos k,List.mem_singleton]at h;exact⟨h,by omega⟩
  ·rw [if_neg (by omega),if_pos k,List.mem_singleton]at h;have:w.bh=true:=by rw [h]
   rw [Gh]at this;cases this
  ·rw [if_neg (by omega),if_neg (by omega),List.mem_singleton,IM,A.same k,←IM]at h;exact⟨h,by omega⟩
 ·obtain⟨r,OJ,e,_⟩:=A.dn (n:= []) hy h;rw [Gh]at e;exact absurd e (VV A.tab (E2 A.tab hy).1 Eg OJ)
theorem Fo.gr {w q:Ab} (hw:w∈D8 t a) (hq:Cq t q=true) (e:w.af=q.af):w∈Ip t a:=by
 obtain⟨Eg,Gh⟩:=Gb hq;rcases A.ig hw with h|⟨y,hy,h⟩
 ·exact h
 ·obtain⟨r,OJ,e2,_⟩:=A.dn (n:= []) hy h;rw [e,Gh]at e2;exact absurd e2 (VV A.tab (E2 A.tab hy).1 Eg OJ)
theorem Fo.gl (h:a.ak≠1) {w:Ab} (hw:w∈Ip t a):w.af=(AO t a.br).af:=by have _:=A;unfold Ip at hw;rw [if_neg h]at hw;split at hw<;>(rw [List.mem_singleton]at hw;rw [hw])
theorem Fo.ff (h:a.ak≠1): ∃w∈D8 t a,w.af=(AO t a.br).af:=by have _:=A;unfold D8 Ip;rw [if_neg h];split<;>exact⟨_,Ai.2 (.inl (List.mem_singleton.2 rfl)),rfl⟩
theorem Fo.ia (h:a.ak=1) {w:Ab} (hw:w∈Ip t a):w.af=(AO t a.bw).af:=by have _:=A;unfold Ip at hw;rw [if_pos h,List.mem_singleton]at hw;rw [hw]
end
section
variable {t:Ad} {a:Bv} {n:Af} {x:Aq} (A:Fm t a n x)
include A
theorem Fm.kf:CJ n 1=true:=by rw [←A.name];exact(E2 A.tab A.idx).1
theorem Fm.l0:1≤x.bm∧x.bm≤(t.ar.length:Int)-1:=B7.1 (E2 A.tab A.idx).2
theorem Fm.ij {w:Ab} (hw:w∈GR t a x):w∈D8 t a:=by unfold D8;exact Ai.2 (.inr (List.mem_flatMap.2 ⟨x,A.idx,hw⟩))
theorem Fm.dh {w:Ab} (hw:w∈D8 t a) (he:Da t n w.af=true):w∈GR t a x:=by
 rcases A.ig hw with h|⟨y,hy,h⟩
 ·obtain⟨r,hr,e⟩:=A.ib h;rw [e,zvC A.tab hr]at he;cases he
 ·obtain⟨r,_,_,e⟩:=A.dn (n:=n) hy h;rw [e,decide_eq_true_eq]at he;have:y=x:=(qF A.tab).fy hy A.idx (he.trans A.name.symm);rw [←this];exact h
variable {st st':List Ab} (hB:Qi t a st st')
include hB
theorem Fm.j8 (hs:x.aq≤1) (h:WV t n st):WV t n st':=by
 intro y hy;cases he:Da t n y.af with
 |false=>rfl
 |true=>
  obtain⟨Dq,h1|h1⟩:=(hB y).1 hy
  ·rcases A.eu (A.dh h1 he)with⟨e,_⟩|⟨_,_,k⟩
   ·rw [e]at Dq;cases Dq
   ·omega
  ·rw [h y h1.1]at he;cases he
theorem Fm.fm (hr:CZ st) (hA:XO t a st) (hs:1≤x.aq) (h:JE t n x st):JE t n x st':=by
 have A1:a.ak≠2→ ∃q∈st',Cq t q=true∧BQ q=a.bw:=fun k=>
  ⟨AO t a.bw,(hB _).2 ⟨rfl, .inl (A.jy k)⟩,gR A.tab (A.new k),SN A.tab (A.new k)⟩
 intro y hy he;obtain⟨Dq,h1|⟨h1,h2⟩⟩:=(hB y).1 hy
 ·rcases A.eu (A.dh h1 he)with⟨e,_⟩|⟨e,k,_⟩
  ·rw [e]at Dq;cases Dq
  ·obtain⟨q,q1,q2,q3⟩:=A1 k;refine⟨q,q1,q2, ?_⟩;rw [q3,e];show Ed t a x=_;rw [A.dv k,A.name]
 ·obtain⟨q,q1,q2,q3⟩:=h y h1 he;obtain⟨Eg,Gh⟩:=Gb q2;by_cases ho: ∀w∈D8 t a,w.af≠q.af
  ·exact⟨q,(hB q).2 ⟨by rw [Gh];rfl, .inr ⟨q1,ho⟩⟩,q2,q3⟩
  ·have⟨w,hw,e⟩: ∃w∈D8 t a,w.af=q.af:=by
    apply Classical.byContradiction;intro hc;exact ho fun w hw e=>hc ⟨w,hw,e⟩
   have Pf:=A.gr hw q2 e;by_cases k1:a.ak=1
   ·exact absurd (e.symm.trans (A.ia k1 Pf)) (hA.1 k1 q q1)
   ·have hq:q=AO t a.br:=Ec.fy (key:=fun w:Ab=>w.af) hr q1 (hA.2 k1) (e.symm.trans (A.gl k1 Pf));have HC:y.af=E5 t a x:=by
     rw [q3,hq,SN A.tab (A.old k1),A.ee k1,A.name]
    have J2:E5 t a x=Ed t a x:=by
     apply Classical.byContradiction;intro hc;have hm:(⟨E5 t a x, [],true⟩:Ab)∈GR t a x:=by unfold GR;rw [if_pos ⟨by rw [A.ee k1];exact bB _ _ _ _,hc,hs⟩];simp
     exact h2 _ (A.ij hm) HC.symm
    have k2:a.ak≠2:=by
     intro k;have:Ed t a x= []:=by unfold Ed;rw [if_pos k]
     rw [this,A.ee k1]at J2;exact bB _ _ _ _ J2
    obtain⟨p,p1,p2,p3⟩:=A1 k2;refine⟨p,p1,p2, ?_⟩;rw [p3,HC,J2,A.dv k2,A.name]
theorem Fm.jt (hn: ∀w∈st,w.bh=false) (hs:2≤x.aq) (h:JD t n x st):JD t n x st':=by
 intro q hq hr;obtain⟨Eg,Gh⟩:=Gb hr;obtain⟨Dq,h1|⟨h1,h2⟩⟩:=(hB q).1 hq
 ·obtain⟨e,k⟩:=A.ea h1 hr;have hm:(⟨Ed t a x, [],false⟩:Ab)∈GR t a x:=by
   unfold GR;refine Ai.2 (.inr ?_);rw [if_pos ⟨by rw [A.dv k];exact bB _ _ _ _,hs⟩];simp
  refine⟨_,(hB _).2 ⟨rfl, .inl (A.ij hm)⟩, ?_⟩;show Ed t a x=_;rw [e,SN A.tab (A.new k),A.dv k,A.name]
 ·obtain⟨w,w1,w2⟩:=h q h1 hr;by_cases ho: ∀z∈D8 t a,z.af≠w.af
  ·exact⟨w,(hB w).2 ⟨hn w w1, .inr ⟨w1,ho⟩⟩,w2⟩
  ·have⟨z,hz,e⟩: ∃z∈D8 t a,z.af=w.af:=by
    apply Classical.byContradiction;intro hc;exact ho fun z hz e=>hc ⟨z,hz,e⟩
   have he:Da t n z.af=true:=by rw [e,w2,SF A.tab A.kf Eg (by have:=A.l0;omega) A.l0.2];simp
   rcases A.eu (A.dh hz he)with⟨e1,k1,_⟩|⟨e1,k2,_⟩
   ·exfalso;have hk:By t n x.bm a.br=By t n x.bm (BQ q):=by
     have:z.af=E5 t a x:=by rw [e1]
     rw [e,w2,A.ee k1,A.name]at this;exact this.symm
    have hp:=zsG A.tab A.kf (A.old k1) Eg hk;obtain⟨u,u1,u2⟩:=A.ff k1;apply h2 u u1;rw [u2,Gh,IM,IM,hp]
   ·exact⟨z,(hB z).2 ⟨by rw [e1], .inl hz⟩,e.trans w2⟩
end
theorem ZD {t:Ad} {n:Af} {x:Aq} {st:List Ab}:holds t n x 0 st=true↔WV t n st:=by
 unfold holds Bq WV;rw [if_pos (by rfl)];simp only [List.length_map,beq_iff_eq];constructor
 ·intro h w hw;have h0:(st.filter fun w=>Da t n w.af)= []:=List.eq_nil_of_length_eq_zero (by omega);have:=List.filter_eq_nil_iff.1 h0 w hw;simpa using this
 ·intro h;rw [List.filter_eq_nil_iff.2 fun w hw=>by rw [h w hw];simp];rfl
theorem SH {a b:List Af}:((less a b).length:Int)=0↔ ∀k∈a,k∈b:=by
 unfold less;constructor
 ·intro h k hk;have h0:(a.filter fun k=> !b.contains k)= []:=List.eq_nil_of_length_eq_zero (by omega);have:=List.filter_eq_nil_iff.1 h0 k hk;simpa using this
 ·intro h;rw [List.filter_eq_nil_iff.2 fun k hk=>by simpa using h k hk];rfl
theorem PZ {t:Ad} {n:Af} {x:Aq} {st:List Ab} {k:Af}:k∈wanted t n x st↔ ∃q∈st,Cq t q=true∧k=By t n x.bm (BQ q):=by
 unfold wanted rows;simp only [List.mem_map,List.mem_filter];constructor
 ·rintro⟨r,⟨q,⟨h1,h2⟩,rfl⟩,rfl⟩;exact⟨q,h1,h2,rfl⟩
 ·rintro⟨q,h1,h2,rfl⟩;exact⟨_,⟨q,⟨h1,h2⟩,rfl⟩,rfl⟩
theorem IL {t:Ad} {n:Af} {st:List Ab} {k:Af}:k∈Bq t n st↔ ∃w∈st,Da t n w.af=true∧k=w.af:=by
 unfold Bq;simp only [List.mem_map,List.mem_filter];constructor
 ·rintro⟨w,⟨h1,h2⟩,rfl⟩;exact⟨w,h1,h2,rfl⟩
 ·rintro⟨w,h1,h2,rfl⟩;exact⟨w,⟨h1,h2⟩,rfl⟩
theorem rT {t:Ad} {n:Af} {x:Aq} {st:List Ab}:(∀k∈Bq t n st,k∈wanted t n x st)↔JE t n x st:=by
 constructor
 ·intro h w hw he;exact PZ.1 (h w.af (IL.2 ⟨w,hw,he,rfl⟩))
 ·intro h k hk;obtain⟨w,hw,he,rfl⟩:=IL.1 hk;exact PZ.2 (h w hw he)
theorem Me {t:Ad} {n:Af} {x:Aq} {st:List Ab}:holds t n x 1 st=true↔JE t n x st:=by rw [←rT,←SH];unfold holds;rw [if_neg (by decide)];simp
theorem zFC {t:Ad} {a:Bv} {n:Af} {x:Aq} {st:List Ab} (A:Fm t a n x):(∀k∈wanted t n x st,k∈Bq t n st)↔JD t n x st:=by
 constructor
 ·intro h q hq hr;obtain⟨w,hw,_,e⟩:=IL.1 (h _ (PZ.2 ⟨q,hq,hr,rfl⟩));exact⟨w,hw,e.symm⟩
 ·intro h k hk;obtain⟨q,hq,hr,rfl⟩:=PZ.1 hk;obtain⟨w,hw,e⟩:=h q hq hr;refine IL.2 ⟨w,hw, ?_,e.symm⟩;rw [e,SF A.tab A.kf (Gb hr).1 (by have:=A.l0;omega) A.l0.2];simp
theorem zxg {t:Ad} {a:Bv} {n:Af} {x:Aq} {st:List Ab} (A:Fm t a n x):holds t n x 2 st=true↔JE t n x st∧JD t n x st:=by rw [←rT,←zFC A,←SH,←SH];unfold holds;rw [if_neg (by decide)];simp
theorem zIb {t:Ad} {a:Bv} {n:Af} {x:Aq} {st st':List Ab} {low:Int} (A:Fm t a n x) (hg:BS st=true) (hA:XO t a st) (hB:Qi t a st st')
  (hl:low=0∧x.aq≤1∨low=1∧1≤x.aq∨low=2∧2≤x.aq) (h:holds t n x low st=true):holds t n x low st'=true:=by
 obtain⟨hr,hn⟩:=DR hg;rcases hl with⟨rfl,hs⟩|⟨rfl,hs⟩|⟨rfl,hs⟩
 ·exact ZD.2 (A.j8 hB hs (ZD.1 h))
 ·exact Me.2 (A.fm hB hr.b8 hA hs (Me.1 h))
 ·have h2:=(zxg A).1 h;exact(zxg A).2 ⟨A.fm hB hr.b8 hA (by omega) h2.1,A.jt hB hn hs h2.2⟩
abbrev WK (l:List Ab):Prop:=l.Pairwise fun a b=>a.af≠b.af
theorem rP: ∀(l:List Ab) {s:List Ab},WK l→CZ s→ ∀y,y∈l.foldl (fun o w=>Bg wk w o) s↔y∈l∨y∈s∧ ∀w∈l,w.af≠y.af
 | [],s,_,_,y=>by simp
 |x::l,s,hl,hs,y=>by
  unfold WK at hl;rw [List.pairwise_cons]at hl;rw [List.foldl_cons,rP l hl.2 (V8 hs),SQ hs];constructor
  ·rintro(h|⟨h1|h1,h2⟩)
   ·exact .inl (by simp [h])
   ·exact .inl (by simp [h1])
   ·exact .inr ⟨h1.1,fun w hw=>by
     rcases Ag.1 hw with rfl|hw
     ·exact fun e=>h1.2 e.symm
     ·exact h2 w hw⟩
  ·rintro(h|⟨h1,h2⟩)
   ·rcases Ag.1 h with rfl|h
    ·exact .inr ⟨.inl rfl,fun w hw e=>hl.1 w hw e.symm⟩
    ·exact .inl h
   ·exact .inr ⟨.inr ⟨h1,fun e=>h2 x (by simp) e.symm⟩,fun w hw=>h2 w (by simp [hw])⟩
theorem zz7 {l:List Ab} (h:CZ l):WK l:=List.Pairwise.imp (fun h=>FE h) h
theorem zww: ∀(l:List Ab) {s:List Ab},CZ s→CZ (l.foldl (fun o w=>Bg wk w o) s)
 | [],_,h=>h
 |_::l,_,h=>zww l (V8 h)
theorem zDv {t:Ad} {m n:Af} {c d:Int} {r q:AI} (hg:A0 t=true) (hm:CJ m 1=true) (hn:CJ n 1=true) (h:Bf t r=true) (k:Bf t q=true) (A5:m≠n):By t m c r≠By t n d q:=by intro e;have h1:=SG (c:=c) hg hm h;rw [e,SG hg hn k]at h1;simp only [List.cons.injEq]at h1;have h2:=h1.1;unfold head at h2;exact A5 (List.append_cancel_left h2).symm
theorem Fo.apart {t:Ad} {a:Bv} (A:Fo t a):WK (D8 t a):=by
 unfold WK D8;rw [List.pairwise_append];refine⟨?_, ?_,fun w hw z hz e=> ?_⟩
 ·unfold Ip;split
  ·exact List.pairwise_singleton _ _
  ·split<;>exact List.pairwise_singleton _ _
 ·rw [List.pairwise_flatMap];refine⟨fun y hy=> ?_, ?_⟩
  ·unfold GR;rw [List.pairwise_append];refine⟨?_, ?_,fun w hw z hz e=> ?_⟩
   ·split
    ·exact List.pairwise_singleton _ _
    ·exact List.Pairwise.nil
   ·split
    ·exact List.pairwise_singleton _ _
    ·exact List.Pairwise.nil
   ·split at hw
    ·rename_i h;rw [List.mem_singleton]at hw;split at hz
     ·rw [List.mem_singleton]at hz;rw [hw,hz]at e;exact h.2.1 e
     ·simp at hz
    ·simp at hw
  ·refine List.Pairwise.imp_of_mem (fun{y z} hy hz hyz w hw u hu e=> ?_) (qF A.tab);obtain⟨r,h1,h2,_⟩:=A.dn (n:= []) hy hw;obtain⟨q,k1,k2,_⟩:=A.dn (n:= []) hz hu;rw [h2,k2]at e;exact zDv A.tab (E2 A.tab hy).1 (E2 A.tab hz).1 h1 k1 (FE hyz) e
 ·obtain⟨r,h1,h2⟩:=A.ib hw;obtain⟨y,hy,hz⟩:=List.mem_flatMap.1 hz;obtain⟨q,k1,k2,_⟩:=A.dn (n:= []) hy hz;rw [h2,k2]at e;exact VV A.tab (E2 A.tab hy).1 h1 k1 e
theorem Fo.behind {t:Ad} {a:Bv} (A:Fo t a) {st:List Ab} (hr:CZ st):Qi t a st (Dc st ((D8 t a).foldl (fun o w=>Bg wk w o) [])):=by
 have hw:CZ ((D8 t a).foldl (fun o w=>Bg wk w o) []):=zww _ List.Pairwise.nil;have hm: ∀y,y∈(D8 t a).foldl (fun o w=>Bg wk w o) []↔y∈D8 t a:=fun y=>by rw [rP _ A.apart List.Pairwise.nil];simp
 intro y;unfold Dc;rw [List.mem_filter,rP _ (zz7 hw) hr,hm];constructor
 ·rintro⟨h|⟨h1,h2⟩,h3⟩
  ·exact⟨by simpa using h3, .inl h⟩
  ·exact⟨by simpa using h3, .inr ⟨h1,fun w hw=>h2 w ((hm w).2 hw)⟩⟩
 ·rintro⟨h3,h|⟨h1,h2⟩⟩
  ·exact⟨.inl h,by simpa using h3⟩
  ·exact⟨.inr ⟨h1,fun w hw=>h2 w ((hm w).1 hw)⟩,by simpa using h3⟩
def Ib (o:Ax):Ab:=if o.ak=3 then⟨o.af, [],true⟩else⟨o.af,o.a7,false⟩
theorem zDG (t:Ad) (a:Bv) (x:Aq):(G9 t a x).map Ib=GR t a x:=by
 unfold G9 GR K6 Jx;rw [List.map_append];congr 1
 ·split<;>rfl
 ·split<;>rfl
theorem zsx {α β:Type} (f:α→List β): ∀(xs:List α) (a:List β),xs.foldl (fun a x=>a++f x) a=a++xs.flatMap f
 | [],a=>by simp
 |x::xs,a=>by rw [List.foldl_cons,zsx f xs,List.flatMap_cons,List.append_assoc]
theorem zxR (t:Ad) (a:Bv): ∃o rest,D9 t a=o::rest∧rest.map Ib=D8 t a∧(∀p∈rest,p.ak=2∨p.ak=3)∧
  (a.ak=1→o=⟨6,(AO t a.bw).af, [],0⟩)∧(a.ak≠1→o=⟨7,(AO t a.br).af,(AO t a.br).a7,0⟩):=by
 have hi: ∀p∈t.ah.flatMap (G9 t a),p.ak=2∨p.ak=3:=by
  intro p hp;obtain⟨y,_,hp⟩:=List.mem_flatMap.1 hp;unfold G9 K6 Jx at hp;rcases Ai.1 hp with hp|hp
  ·split at hp
   ·rw [List.mem_singleton]at hp;subst hp;exact .inr rfl
   ·simp at hp
  ·split at hp
   ·rw [List.mem_singleton]at hp;subst hp;exact .inl rfl
   ·simp at hp
 have hw:(t.ah.flatMap (G9 t a)).map Ib=t.ah.flatMap (GR t a):=by rw [List.map_flatMap];congr 1;funext y;exact zDG t a y
 unfold D9 D8 Ip;rw [zsx];unfold K4;by_cases h1:a.ak=1
 ·rw [if_pos h1,if_pos h1];refine⟨_,_,rfl, ?_,fun p hp=> ?_,fun _=>rfl,fun k=>absurd h1 k⟩
  ·show Ib _::(t.ah.flatMap (G9 t a)).map Ib=_;rw [hw];rfl
  ·rcases Ag.1 hp with rfl|hp
   ·exact .inl rfl
   ·exact hi p hp
 ·rw [if_neg h1,if_neg h1];by_cases h2:a.ak=2
  ·rw [if_pos h2,if_pos h2];refine⟨_,_,rfl, ?_,fun p hp=> ?_,fun k=>absurd k h1,fun _=>rfl⟩
   ·show Ib _::(t.ah.flatMap (G9 t a)).map Ib=_;rw [hw];rfl
   ·rcases Ag.1 hp with rfl|hp
    ·exact .inr rfl
    ·exact hi p hp
  ·rw [if_neg h2,if_neg h2];refine⟨_,_,rfl, ?_,fun p hp=> ?_,fun k=>absurd k h1,fun _=>rfl⟩
   ·show Ib _::(t.ah.flatMap (G9 t a)).map Ib=_;rw [hw];rfl
   ·rcases Ag.1 hp with rfl|hp
    ·exact .inl rfl
    ·exact hi p hp
theorem pC {got:List BR}: ∀(l:List Ax) (ws:List Ab),(∀p∈l,p.ak=2∨p.ak=3)→Dx got l ws=(3, [],(l.map Ib).foldl (fun o w=>Bg wk w o) ws)
 | [],ws,_=>rfl
 |o::l,ws,h=>by
  have hl: ∀p∈l,p.ak=2∨p.ak=3:=fun p hp=>h p (by simp [hp]);rw [Dx,List.map_cons,List.foldl_cons];rcases h o (by simp)with k|k
  ·rw [if_pos k,pC l _ hl];unfold Ib;rw [if_neg (by omega)]
  ·rw [if_neg (by omega),if_pos k,pC l _ hl];unfold Ib;rw [if_pos k]
theorem pH {st:List Ab} {o:Ax} {rest:List Ax} (h2:o.ak≠2) (h3:o.ak≠3) (hr: ∀p∈rest,p.ak=2∨p.ak=3):
  Fl st (o::rest)=if Gf o (CX st o.af).a7 (CX st o.af).di=true then((rest.map Ib).foldl (fun o w=>Bg wk w o) [],true)else([],false):=by
 have hgk:(CX st o.af).af=o.af:=by unfold CX;cases st.find? (fun w=>w.af==o.af)<;>rfl
 have BO:Dx [] (o::rest) []=(1,o.af, []):=by rw [Dx,if_neg h2,if_neg h3,if_neg (by simp [Dl,Ol])]
 have AW:Dl [] [CX st o.af] o.af=((CX st o.af).a7,(CX st o.af).di,true):=by unfold Dl Ol;rw [List.find?_nil,List.find?_cons,show((CX st o.af).af==o.af)=true by rw [hgk];simp]
 have A6:Dx [CX st o.af] (o::rest) []=if Gf o (CX st o.af).a7 (CX st o.af).di=true then(3, [],(rest.map Ib).foldl (fun o w=>Bg wk w o) [])else(2, [], []):=by rw [Dx,if_neg h2,if_neg h3,AW,if_pos rfl,pC rest [] hr]
 unfold Fl;rw [I8,BO,if_pos rfl,I8];show(if(Dx [CX st o.af] (o::rest) []).1=1 then _ else((Dx [CX st o.af] (o::rest) []).2.2,(Dx [CX st o.af] (o::rest) []).1==3))=_;rw [A6];by_cases hk:Gf o (CX st o.af).a7 (CX st o.af).di=true
 ·rw [if_pos hk,if_pos hk,if_neg (by simp)];rfl
 ·rw [if_neg hk,if_neg hk,if_neg (by simp)];rfl
theorem oO {t:Ad} {a:Bv} (A:Fo t a) {st:List Ab} (hg:BS st=true) (h:(Bb st (D9 t a)).2=true):XO t a st∧Qi t a st (Bb st (D9 t a)).1:=by
 obtain⟨hr,hn⟩:=DR hg;obtain⟨o,rest,e,hw,hk,h1,h7⟩:=zxR t a;have hk67:o.ak=6∨o.ak=7:=by
  by_cases k:a.ak=1
  ·rw [h1 k];exact .inl rfl
  ·rw [h7 k];exact .inr rfl
 have hR:=pH (st:=st) (o:=o) (rest:=rest) (by omega) (by omega) hk;rw [e]at h ⊢;unfold Bb at h ⊢;rw [hR]at h ⊢;by_cases Aw:Gf o (CX st o.af).a7 (CX st o.af).di=true
 ·rw [if_pos Aw,hw]at h ⊢;by_cases hl:(Dc st ((D8 t a).foldl (fun o w=>Bg wk w o) [])).length≤24
  ·rw [if_pos ⟨rfl,hl⟩];refine⟨⟨fun k w hm he=> ?_,fun k=> ?_⟩,A.behind hr.b8⟩
   ·rw [h1 k]at Aw;unfold Gf CX at Aw;rw [if_pos rfl]at Aw;cases ef:st.find? (fun w=>w.af==(AO t a.bw).af)with
    |some z=>rw [ef]at Aw;cases Aw
    |none=>rw [List.find?_eq_none]at ef;exact absurd (by simpa using he) (ef w hm)
   ·rw [h7 k]at Aw;unfold Gf CX at Aw;rw [if_neg (by simp)]at Aw;cases ef:st.find? (fun w=>w.af==(AO t a.br).af)with
    |none=>rw [ef]at Aw;cases Aw
    |some z=>
     rw [ef]at Aw;simp only [Bool.true_and,beq_iff_eq]at Aw;have hz:=List.mem_of_find?_eq_some ef;have Nh:z.af=(AO t a.br).af:=by simpa using List.find?_some ef
     have uB:=hn z hz;have:z=AO t a.br:=by cases z;simp only at Aw Nh uB;rw [Aw,Nh,uB];rfl
     rw [←this];exact hz
  ·rw [if_neg fun q=>hl q.2]at h;cases h
 ·rw [if_neg Aw]at h;rw [if_neg (by simp)]at h;cases h
theorem zAe {t:Ad} {a:Bv} {n:Af} {x:Aq} {st:List Ab} {low:Int} (A:Fm t a n x) (hg:BS st=true) (hl:low=0∧x.aq≤1∨low=1∧1≤x.aq∨low=2∧2≤x.aq)
  (h:holds t n x low st=true):holds t n x low (Bb st (D9 t a)).1=true:=by
 cases hd:(Bb st (D9 t a)).2 with
 |true=>obtain⟨hA,hB⟩:=oO A.oz hg hd;exact zIb A hg hA hB hl h
 |false=>
  have:(Bb st (D9 t a)).1=st:=by
   unfold Bb at hd ⊢;split at hd
   ·cases hd
   ·rename_i q;rw [if_neg q]
  rw [this];exact h
theorem zCh {t:Ad} {n:Af} {c:Int} (h:BX t n=true):(CS (CH t (BP t n) c) n).aq=c:=by
 obtain⟨x,hx,_⟩:=Ku h;have hl:=(N6 hx.at_).2.2;have h0:=(N6 hx.at_).1;have e1: ∀l:List Aq,BC (fun x:Aq=>x.ab==n) l=BC (· ==n) (l.map (·.ab)):=fun l=>by
  induction l with
  |nil=>rfl
  |cons x l ih=>rw [List.map_cons,NT,NT,ih]
 have hk:BP (CH t (BP t n) c) n=BP t n:=by unfold BP;rw [e1,e1,VW]
 have JY:(BP t n).toNat<t.ah.length:=by have:BC (fun y:Aq=>y.ab==n) t.ah=BP t n:=rfl;rw [this]at hl h0;omega
 unfold CS;rw [hk];unfold CH;dsimp only;rw [List.getElem?_set_self JY];rfl
theorem oI {α:Type}: ∀(xs a:List α),xs.foldl (fun o x=>o++ [x]) a=a++xs
 | [],a=>by simp
 |x::xs,a=>by rw [List.foldl_cons,oI xs (a++ [x])];simp
theorem w7 {o p:List Ad} (h:o.length≤2000001) (hn:p.length≤5):((o.length:Int)+(p.length:Int))*64≤140737488355328∧(o.length:Int)+(p.length:Int)≤140737488355328:=by omega
theorem zyf {s:Ar} (hS:D6 s):VB s=some s:=by
 have h1:=hS.at_;have h2:=hS.store.1;have h3:=hS.ways;have c1:jH s.bp=some s.bp:=Mi (by omega) (by omega);have c2:L1 s.ao=some s.ao:=Mi (by omega) (by omega);unfold VB;rw [c1,c2,Aa,Aa];have h:=Ga (xs:=s.aj) (body:=fun q:Int × List Ad=>Rn s s.bp s.ao q.1 q.2) (fun i (o:List Ad)=>(i,o)) (fun o t=>o++ [t]) (fun o=>some ⟨s.ab,o,s.bp,s.ao⟩) (fun i o=>o.length=i)
  (fun i hi o hI=>by have hI:o.length=i:=hI;refine⟨?_,by show List.length _=_;rw [Ap,AH];omega⟩;show Rn s s.bp s.ao i o=_;unfold Rn;rw [if_pos (by simpa using hi),AR hi,Aa,sA (hS.way _ (List.getElem_mem hi)),Aa,AP (w7 (by omega) (by simp)),Bx hi (by omega)])
  (fun o _=>by show Rn s s.bp s.ao s.aj.length o=_;unfold Rn;rw [if_neg (by simp)]) (s:= []) rfl
 rw [oI]at h;exact h.1
theorem Qe {s:Ar} (hS:D6 s):Se s=some s:=by
 have h1:=hS.at_;have h2:=hS.store.1;have h3:=hS.ways;have c1:Zr s.bp=some s.bp:=by unfold Zr;rw [AP (by rw [List.length_nil];omega)]
 have hq:((([]:List Ab).length:Int)+((s.ao).length:Int))*40≤140737488355328∧(([]:List Ab).length:Int)+((s.ao).length:Int)≤140737488355328:=by rw [List.length_nil];omega
 unfold Se;rw [c1,Aa,AP hq];have h:=Ga (xs:=s.aj) (body:=fun q:Int × List Ad=>R3 s s.bp q.1 q.2) (fun i (o:List Ad)=>(i,o)) (fun o t=>o++ [t]) (fun o=>some ⟨s.ab,o,s.bp,s.ao⟩) (fun i o=>o.length=i)
  (fun i hi o hI=>by have hI:o.length=i:=hI;refine⟨?_,by show List.length _=_;rw [Ap,AH];omega⟩;show R3 s s.bp i o=_;unfold R3;rw [if_pos (by simpa using hi),AR hi,Aa,gU (hS.way _ (List.getElem_mem hi)),Aa,AP (w7 (by omega) (by simp)),Bx hi (by omega)])
  (fun o _=>by show R3 s s.bp s.aj.length o=_;unfold R3;rw [if_neg (by simp)]) (s:= []) rfl
 rw [oI]at h;exact h.1
def bare (a:Bv):Bool:=((a.ak==0)&&((a.br.aw.length:Int)==0))&&((a.bw.aw.length:Int)==0)
structure I7 (s:Ar) (a:D4):Prop where
 srv:0≤a.a6∧a.a6≤(s.bp.length:Int)-1
 step:a.bd=0∨a.bd=1∨a.bd= -1
 act:a.bd=0→ ∃y t,getI s.bp a.a6=some y∧getI s.aj y=some t∧t∈s.aj∧HH t a.ax=true
theorem Ie {t:Ad} {n:Af} (h:BX t n=true):A0 t=true:=by unfold BX at h;simp only [Ae]at h;exact h.1
theorem Tc {s:Ar} (hg:Cc s) {i:Int} (h:0≤i∧i≤(s.bp.length:Int)-1): ∃y t,getI s.bp i=some y∧getI s.aj y=some t∧t∈s.aj∧0≤y∧y≤(s.aj.length:Int)-1:=by obtain⟨y,e1,hy,_⟩:=Kt (xs:=s.bp) h.1 (by omega);have hb:=hg.2.2.2.2.2.1 y hy;obtain⟨t,e2,ht,_⟩:=Kt (xs:=s.aj) hb.1 (by omega);exact⟨y,t,e1,e2,ht,hb.1,hb.2⟩
def Mf (s:Ar) (t:Ad) (a:D4):Bool:=
 Bw a.a6 0 ((s.bp.length:Int)-1)&&(if a.bd=0 then HH t a.ax else if a.bd=1∨a.bd= -1 then bare a.ax else false)
def Ej (s:Ar) (i:Int):Ad:=(getI s.aj ((getI s.bp i).getD 0)).getD LQ
theorem zzo {s:Ar} {a:D4} (hg:Cc s) (hA:FC a.ax):lS s a=some (Mf s (Ej s a.a6) a):=by
 have h3:=B7.1 hg.2.2.2.2.1;have w:IntKind.i64.wrap ((s.bp.length:Int)-1)=(s.bp.length:Int)-1:=A8 (by omega) (by omega);unfold lS Mf;rw [w,Gm,Aa];cases hv:Bw a.a6 0 ((s.bp.length:Int)-1)with
 |false=>rfl
 |true=>
  obtain⟨y,t,e1,e2,ht,_,_⟩:=Tc hg (B7.1 hv);have hc:=Jp (Ie (hg.2.2.1 t ht));have et:Ej s a.a6=t:=by unfold Ej;rw [e1,Option.getD_some,e2];rfl
  rw [et,if_neg (by simp),Bool.true_and];by_cases h0:a.bd=0
  ·rw [if_neg (by simp [h0]),if_pos (by simpa using h0),if_pos h0,e1,Aa,e2,Aa,oN (by omega) hA];rfl
  ·rw [if_neg h0];by_cases h1:a.bd=1∨a.bd= -1
   ·rw [if_pos (by simpa using h1),if_pos h1];rfl
   ·rw [if_neg (by simpa using h1),if_neg h1,if_neg (by simpa using h0)]
theorem zt7 {s:Ar} {a:D4} (hg:Cc s) (hA:FC a.ax):Va s a=some (Mf s (Ej s a.a6) a):=by
 have h3:=B7.1 hg.2.2.2.2.1;have w:IntKind.i64.wrap ((s.bp.length:Int)-1)=(s.bp.length:Int)-1:=A8 (by omega) (by omega);unfold Va Mf;rw [w,Jo,Aa];cases hv:Bw a.a6 0 ((s.bp.length:Int)-1)with
 |false=>rfl
 |true=>
  obtain⟨y,t,e1,e2,ht,_,_⟩:=Tc hg (B7.1 hv);have hc:=Jp (Ie (hg.2.2.1 t ht));have et:Ej s a.a6=t:=by unfold Ej;rw [e1,Option.getD_some,e2];rfl
  have LH:GO s a.a6=some t:=by unfold GO;rw [e1,Aa,e2];rfl
  rw [et,if_neg (by simp),Bool.true_and];by_cases h0:a.bd=0
  ·rw [if_pos (by simpa using h0),if_pos h0,LH,Aa,zzp (by omega) hA];rfl
  ·rw [if_neg (by simpa using h0),if_neg h0];by_cases h1:a.bd=1
   ·rw [if_pos (by simpa using h1),if_pos (.inl h1)];rfl
   ·rw [if_neg (by simpa using h1)];by_cases h2:a.bd= -1
    ·rw [if_pos (by simpa using h2),if_pos (.inr h2)];rfl
    ·rw [if_neg (by simpa using h2),if_neg (by simp [h1,h2])]
theorem wM {s:Ar} {a:D4} (hg:Cc s) (h:Mf s (Ej s a.a6) a=true):I7 s a:=by
 unfold Mf at h;rw [Ae]at h;have hv:=B7.1 h.1;obtain⟨y,t,e1,e2,ht,_,_⟩:=Tc hg hv;have et:Ej s a.a6=t:=by unfold Ej;rw [e1,Option.getD_some,e2];rfl
 have h2:=h.2;rw [et]at h2;by_cases h0:a.bd=0
 ·rw [if_pos h0]at h2;exact⟨hv, .inl h0,fun _=>⟨y,t,e1,e2,ht,h2⟩⟩
 ·rw [if_neg h0]at h2;by_cases h1:a.bd=1∨a.bd= -1
  ·exact⟨hv, .inr h1,fun h=>absurd h h0⟩
  ·rw [if_neg h1]at h2;cases h2
structure Li (s r:Ar):Prop where
 bq:Cc r
 small:D6 r
 name:r.ab=s.ab
 ways:r.aj=s.aj
 at_:r.bp.length=s.bp.length
theorem P5 {s:Ar} {a:D4} (hS:D6 s) (hg:Cc s) (hA:FC a.ax) (B1:I7 s a): ∃r:Ar × Bool,GQ s a=some r∧Rw s a=some r∧Li s r.1:=by
 obtain⟨y,t,e1,e2,ht,Ia,hy1⟩:=Tc hg B1.srv;have h1:=hg.1;have h4:=hg.2.1;have w:IntKind.i64.wrap ((s.aj.length:Int)-1)=(s.aj.length:Int)-1:=A8 (by omega) (by omega);unfold GQ Rw;rw [Qe hS,zyf hS,Aa,Aa,w];by_cases h0:a.bd=0
 ·obtain⟨y',t',q1,q2,q3,Fb⟩:=B1.act h0;rw [e1]at q1;cases q1;rw [e2]at q2;cases q2;have hI:=hg.2.2.1 t ht;have G1:=Ie hI;have hc:=Jp G1;have QB:=hS.way t ht;have Xa:=wJ hA Fb;have hR:=hg.2.2.2.2.2.2;obtain⟨ol,oo⟩:=zyE G1 Fb;have LH:GO s a.a6=some t:=by
   unfold GO;rw [e1,Aa,e2];rfl
  have hD:VR t s.ao a.ax=some ((Bb s.ao (D9 t a.ax)).1,(Bb s.ao (D9 t a.ax)).2,true):=by
   have bS:VH t a.ax=some true:=by unfold VH;rw [KZ QB,Aa,G1,if_pos rfl,oN (by omega) hA,Fb];rfl
   unfold VR;rw [bS,Aa,if_pos rfl,Mn hS.store,Aa,hR,if_neg (by simp),wU QB G1 Xa,Aa,XK ol oo hR];rfl
  have ED:=Mj ol oo hR;rw [if_neg (by simp [h0]),if_neg (by simp [h0]),e1,Aa,e2,Aa,hD,LH,Aa,Aa,zGH QB G1 Xa,Aa,zw3 ol oo hR,Aa];refine⟨_,rfl,rfl,⟨⟨hg.1,hg.2.1,hg.2.2.1,hg.2.2.2.1,hg.2.2.2.2.1,hg.2.2.2.2.2.1,ED⟩,⟨hS.name,hS.ways,hS.way,hS.at_, ?_⟩,rfl,rfl,rfl⟩⟩;have hr:=(DR ED).1;have Je:=hr.len;exact VN (by show(Bb s.ao (D9 t a.ax)).1.length≤2000000;omega) hr.bq
 ·have AW:a.bd=1∨a.bd= -1:=by rcases B1.step with h|h|h;exact absurd h h0;exact .inl h;exact .inr h
  have w2:IntKind.i64.wrap (y+a.bd)=y+a.bd:=A8 (by omega) (by omega);rw [if_pos (by simpa using h0),if_pos (by simpa using h0)];simp only [e1,Aa,w2,Gm,Jo];cases hv:Bw (y+a.bd) 0 ((s.aj.length:Int)-1)with
  |false=>exact⟨_,rfl,rfl,⟨hg,hS,rfl,rfl,rfl⟩⟩
  |true=>
   have DB:=B7.1 hv;refine⟨_,rfl,rfl,⟨⟨hg.1,hg.2.1,hg.2.2.1,hg.2.2.2.1, ?_,fun z hz=> ?_,hg.2.2.2.2.2.2⟩,⟨hS.name,hS.ways,hS.way, ?_,hS.store⟩,rfl,rfl,List.length_set⟩⟩
   ·show Bw (((s.bp.set (a.a6).toNat (y+a.bd)).length:Nat):Int) 1 3=true;rw [List.length_set];exact hg.2.2.2.2.1
   ·rcases List.mem_or_eq_of_mem_set hz with hz|rfl
    ·exact hg.2.2.2.2.2.1 z hz
    ·exact DB
   ·show(s.bp.set (a.a6).toNat (y+a.bd)).length≤2000000;rw [List.length_set];exact hS.at_
def MK:Ar:=⟨[], [], [], []⟩
end Go.Proofs.YtbmbkgalkfmjdaaGreatDoor
end
