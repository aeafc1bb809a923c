/- Parts of a proof, joined: N9, N10, N11, N12, N13, N14, N15, N16, NK, NP, NQ, NX, NS, NT, NV, NU, NH, NVG, NDA, NDB, NKX, NKV, NPE, NPF, NPG, NPR, NPY. -/
import Derived.Test.YtkpifpljpoochaaGreatDoorK8
set_option linter.unusedVariables false
set_option linter.unusedSimpArgs false
namespace Go.Proofs.YtkpifpljpoochaaGreatDoor
section
open Go.RowKit
set_option maxRecDepth 100000
set_option maxHeartbeats 1000000
theorem Small.each{xs:List Am}(h:Small xs):∀x∈xs,x.length<=2000000:=by intro x hx;obtain⟨i,hi,rfl⟩:=List.getElem_of_mem hx;exact Nat.le_trans (iC hi) h.2
def BT(t:Ak)(r:Ac):Bool:=((r.ae.length:Int)==t.aq.length)&&r.ae.all field
theorem RF{t:Ak}{r:Ac}(h:Small r.ae):Lu t r=some (BT t r):=by
 have h1:=h.1;unfold Lu;rw[Pb (xs:=r.ae) field false (Yl t r) (λi hi=>by simp only[Yk,Int.ofNat_lt,hi,decide_true,if_true,BZ hi,Aa,Jz (h.each _ (Bu hi)),CG hi (by omega:r.ae.length<=_)];cases field r.ae[i]<;>rfl) (by simp[Yk])]
 unfold Yl BT;cases r.ae.all field<;>simp
theorem RD{t:Ak}{r:Ac}(h:Small r.ae):Lt t r=some (BT t r):=by have e:IY r.ae (λy0_=>TU y0_)=some (r.ae.any λs=> !field s):=aL _ (λs hs=>by simp[TU,I5 (h.each s hs)]) (by have:=h.1;omega);simp only[Lt,e,Aa,BT,<-List.not_all_eq_any_not];cases((r.ae.length:Int)==t.aq.length)<;>simp
def Di(t:Ak)(r:Ac):Ai:=⟨t.ab++ [47]++(r.ae.head?).getD [],Lib.join r.ae.tail [44],false⟩
theorem oK{α:Type}(xs:List α):Bg xs 1 (xs.length:Int)=xs.tail:=by simp[Bg]
theorem Small.tail{xs:List Am}(h:Small xs):Small xs.tail:=by
 cases xs with
 |nil=>exact h
 |cons x xs=>exact⟨by have:=h.1;simp at this ⊢;omega,by have:=h.2;simp only[D1,List.tail_cons]at this ⊢;omega⟩
theorem mP{t:Ak}{r:Ac}(ht:t.ab.length<=2000000)(h:Small r.ae)(hn:r.ae≠ []):Rq t r=some (Di t r):=by obtain⟨x,xs,hx⟩:=List.exists_cons_of_ne_nil hn;have NU:x.length<=2000000:=h.each x (by simp[hx]);unfold Rq Di;rw[A7 (by rw[AL];omega),oK,zxZ h.tail,hx];rw[show getI (x::xs) 0=some x from rfl,Aa,A7 (by rw[Ap,AL];omega),A7 (by simp only[Ao];omega),Aa];rfl
theorem zxv{t:Ak}{r:Ac}(ht:t.ab.length<=2000000)(h:Small r.ae)(hn:r.ae≠ []):TB t r=some (Di t r):=by obtain⟨x,xs,hx⟩:=List.exists_cons_of_ne_nil hn;have NU:x.length<=2000000:=h.each x (by simp[hx]);unfold TB Di;rw[A7 (by rw[AL];omega),oK,zxm h.tail,hx];rw[show getI (x::xs) 0=some x from rfl,Aa,A7 (by rw[Ap,AL];omega),A7 (by simp only[Ao];omega),Aa];rfl
theorem fT(c:UInt8)(s:Am):D1 (BE c s)<=s.length:=by
 induction s with
 |nil=>simp[BE,D1]
 |cons b s ih=>
  simp only[BE];split
  ·simp only[D1,List.length_nil,Ao];omega
  ·cases hs:BE c s with
   |nil=>exact absurd hs (Vf c s)
   |cons x xs=>rw[hs]at ih;simp only[D1,Ao]at ih ⊢;omega
theorem gR{c:UInt8}{s:Am}(h:s.length<=1000000):Small (BE c s):=by have h1:=UX c s;have h2:s.count c<=s.length:=List.count_le_length;have h3:=fT c s;exact⟨by omega,by omega⟩
theorem bL{s p:Am}(hs:s.length<=2000000):Rm s p=some (if p.isPrefixOf s=true then(s.drop p.length,true)else(s,false)):=by
 have e:Tv s p=some (p.isPrefixOf s):=by
  unfold Tv;by_cases hl:p.length<=s.length
  ·rw[if_pos (by simpa using hl),A7 (by omega),NJ];congr 1;rw[Bool.eq_iff_iff,Ax,List.isPrefixOf_iff_prefix,List.prefix_iff_eq_take];exact eq_comm
  ·rw[if_neg (by simpa using hl)];congr 1;symm;rw[<-Bool.not_eq_true,List.isPrefixOf_iff_prefix];intro h;exact hl h.length_le
 unfold Rm XP;rw[e,Aa];cases hp:p.isPrefixOf s with
 |false=>simp
 |true=>have hl:=(List.isPrefixOf_iff_prefix.1 hp).length_le;simp only[Bool.not_true,BX,if_false,if_true];rw[A7 (by omega),NI,List.take_length];rfl
def JL(a b:Ai):Bool:=a.ah==b.ah&&(a.bd==b.bd&&(a.bp==b.bp))
theorem ztd(a b:Ai):JL a b=JL b a:=by unfold JL;rw[show(a.ah==b.ah)=(b.ah==a.ah)from BEq.comm,show(a.bd==b.bd)=(b.bd==a.bd)from BEq.comm,show(a.bp==b.bp)=(b.bp==a.bp)from BEq.comm]
theorem zuk{a b:Ai}(h:JL a b=true):a.ah=b.ah:=by unfold JL at h;simp only[Ae,Ax]at h;exact h.1
def Ds(w:Ai):Ac:=⟨w.ah.drop 2::BE 44 w.bd⟩
def D6(t:Ak)(w:Ai):Bool:=BT t (Ds w)&&JL (Di t (Ds w)) w
def Ge(w:Ai):Prop:=w.ah.length<=1000/\w.bd.length<=1000
theorem YN{w:Ai}(h:Ge w):Small (Ds w).ae:=by
 have h1:=UX 44 w.bd;have h2:w.bd.count 44<=w.bd.length:=List.count_le_length;have h3:=fT 44 w.bd;obtain⟨k,v⟩:=h;refine⟨?_,?_⟩
 ·show(w.ah.drop 2::BE 44 w.bd).length<=_;rw[Ao];omega
 ·show D1 (w.ah.drop 2::BE 44 w.bd)<=_;rw[D1,Dp];omega
theorem zup{t:Ak}{w:Ai}(h:BT t (Ds w)=true):3<=w.ah.length:=by unfold BT Ds at h;simp only[Ae,List.all_cons,field,D0,Dp]at h;omega
theorem zxA{t:Ak}{w:Ai}(ht:t.ab.length<=2000000)(h:Ge w):∃r,Ui t w=some (r,D6 t w)/\(D6 t w=true->r=Ds w):=by
 have hs:=YN h;have Kd:=UX 44 w.bd;have Mm:w.bd.count 44<=w.bd.length:=List.count_le_length;obtain⟨hk,hv⟩:=h;unfold Ui;by_cases h3:w.ah.length<3
 ·rw[if_pos (by simp;omega)];have:D6 t w=false:=by
   unfold D6;cases hg:BT t (Ds w)with
   |false=>rfl
   |true=>have:=zup hg;omega
  exact⟨_,by rw[this],by rw[this];intro h;cases h⟩
 ·have hw:Bg w.ah 2 (w.ah.length:Int)=w.ah.drop 2:=by
   have:=NI w.ah 2 w.ah.length;rw[List.take_length]at this;exact this
  have Gx:Lv w.bd 44=some (BE 44 w.bd):=Z9 (c:=44) (by omega);have hr:(([w.ah.drop 2]:List Am).length+(BE 44 w.bd).length:Int)*16<=140737488355328/\(([w.ah.drop 2]:List Am).length:Int)+(BE 44 w.bd).length<=140737488355328:=by rw[AL];omega
  rw[if_neg (by simp;omega),A7 (by omega),Gx,Aa,hw,A7 hr];rw[show(⟨[w.ah.drop 2]++BE 44 w.bd⟩:Ac)=Ds w from rfl,RF hs,Aa];unfold D6;cases hg:BT t (Ds w)with
  |false=>exact⟨_,by rw[if_neg (by simp)];rfl,by simp⟩
  |true=>rw[if_pos rfl,mP ht hs (by simp[Ds]),Aa];exact⟨Ds w,by rw[Bool.true_and];rfl,λ_=>rfl⟩
theorem zx8{t:Ak}{w:Ai}(ht:t.ab.length=1)(h:Ge w):∃r,TQ t w=some (r,D6 t w)/\(D6 t w=true->r=Ds w):=by
 have hs:=YN h;have Kd:=UX 44 w.bd;have Mm:w.bd.count 44<=w.bd.length:=List.count_le_length;obtain⟨hk,hv⟩:=h;unfold TQ;have Gx:Rp w.bd [44]=some (BE 44 w.bd):=zvW (by omega);rw[A7 (by rw[AL];omega),bL (by omega),Aa,Gx,Aa];have hr:∀x:Am,(([x]:List Am).length+(BE 44 w.bd).length:Int)*16<=140737488355328/\(([x]:List Am).length:Int)+(BE 44 w.bd).length<=140737488355328:=by intro x;rw[AL];omega
 rw[A7 (hr _)];cases hp:(t.ab++ [47]).isPrefixOf w.ah with
 |false=>
  have DL:D6 t w=false:=by
   unfold D6;cases hw:JL (Di t (Ds w)) w with
   |false=>simp
   |true=>have WV:=zuk hw;rw[<-Bool.not_eq_true,List.isPrefixOf_iff_prefix]at hp;exact absurd ⟨_,WV⟩ hp
  rw[DL];exact⟨_,by rw[if_neg (by simp)],by simp⟩
 |true=>
  have hl:(t.ab++ [47]).length=2:=by rw[Ap,ht];rfl
  simp only[if_true,hl];rw[show(⟨[w.ah.drop 2]++BE 44 w.bd⟩:Ac)=Ds w from rfl,RD hs,Aa];unfold D6;cases hg:BT t (Ds w)with
  |false=>exact⟨_,by rw[if_neg (by simp)];rfl,by simp⟩
  |true=>
   rw[if_pos rfl,zxv (by omega) hs (by simp[Ds]),Aa];rw[show(w.ah==(Di t (Ds w)).ah&&(w.bd==(Di t (Ds w)).bd&&w.bp==(Di t (Ds w)).bp))=JL w (Di t (Ds w))from rfl,ztd];cases JL (Di t (Ds w)) w with
   |false=>exact⟨_,by rw[if_pos (by simp)];rfl,by simp⟩
   |true=>exact⟨_,by rw[if_neg (by simp)];rfl,λ_=>rfl⟩
theorem OW{α β:Type}(p:α->Bool)(f:α->β)(l:List α)(o:List β):l.foldl (λo x=>if p x=true then o++ [f x]else o) o=o++(l.filter p).map f:=by
 induction l generalizing o with
 |nil=>simp
 |cons x l ih=>rw[List.foldl_cons,ih,List.filter_cons];cases p x<;>simp
def AS(t:Ak)(l:List Ai):List Ac:=(l.filter (D6 t)).map Ds
theorem Vq{t:Ak}{l:List Ai}(ht:t.ab.length<=2000000)(hl:l.length<=2000000)(h:∀w∈l,Ge w):OH t l=some (AS t l):=by
 have h1:=G6 (xs:=l) (body:=λs:List Ac × Int=>OE t l s.1 s.2) (λi (o:List Ac)=>(o,i)) (λo w=>if D6 t w=true then o++ [Ds w]else o) (λo=>some o) (λi o=>o.length<=i)
  (λi hi o hI=>by
   have hI:o.length<=i:=hI;obtain⟨r,e,hr⟩:=zxA ht (h _ (Bu hi));have hw:=CG hi (by omega:l.length<=_);refine⟨?_,by
    show List.length (if D6 t l[i]=true then o++ [Ds l[i]]else o)<=i+1;split
    ·rw[Ap,AL];omega
    ·omega⟩
   show OE t l o i=_;unfold OE;rw[if_pos (by simpa using hi),BZ hi,Aa,e,Aa,hw];cases hb:D6 t l[i]with
   |false=>rfl
   |true=>
    have hq:((o.length:Int)+(([r]:List Ac).length:Int))*24<=140737488355328/\(o.length:Int)+(([r]:List Ac).length:Int)<=140737488355328:=by rw[AL];omega
    rw[if_pos rfl,A7 hq,if_pos rfl,hr hb])
  (λo _=>by show OE t l o l.length=_;unfold OE;rw[if_neg (by simp)]) (s:=[]) (by simp)
 rw[OW]at h1;exact h1.1
theorem Z8{t:Ak}{l:List Ai}(ht:t.ab.length=1)(hl:l.length<=2000000)(h:∀w∈l,Ge w):Re t l=some (AS t l):=by
 have h1:=G6 (xs:=l) (body:=λs:Int × List Ac=>Ob t l s.1 s.2) (λi (o:List Ac)=>(i,o)) (λo w=>if D6 t w=true then o++ [Ds w]else o) (λo=>some o) (λi o=>o.length<=i)
  (λi hi o hI=>by
   have hI:o.length<=i:=hI;obtain⟨r,e,hr⟩:=zx8 ht (h _ (Bu hi));have hw:=CG hi (by omega:l.length<=_);refine⟨?_,by
    show List.length (if D6 t l[i]=true then o++ [Ds l[i]]else o)<=i+1;split
    ·rw[Ap,AL];omega
    ·omega⟩
   show Ob t l i o=_;unfold Ob;rw[if_pos (by simpa using hi),BZ hi,Aa,e,Aa,hw];cases hb:D6 t l[i]with
   |false=>rfl
   |true=>
    have hq:((o.length:Int)+(([r]:List Ac).length:Int))*24<=140737488355328/\(o.length:Int)+(([r]:List Ac).length:Int)<=140737488355328:=by rw[AL];omega
    rw[if_pos rfl,A7 hq,if_pos rfl,hr hb])
  (λo _=>by show Ob t l l.length o=_;unfold Ob;rw[if_neg (by simp)]) (s:=[]) (by simp)
 rw[OW]at h1;exact h1.1
def head(t:Ak)(n:Am):Am:=t.ab++ [46]++n
def Fc(t:Ak)(n k:Am):Bool:=match BE 47 k with
 | [x,y,z]=>x==head t n&&field y&&field z
 |_=>false
theorem zv1{t:Ak}{n k:Am}(ht:t.ab.length<=2000000)(hn:n.length<=2000000)(hk:k.length<=1000000):∃a b,MY t n k=some (a,b,Fc t n k):=by
 have IK:=gR (c:=47) hk;have he:Lv k 47=some (BE 47 k):=Z9 (c:=47) (by omega);unfold MY Fc;rw[he,Aa];generalize BE 47 k=ps at IK
 match ps,IK with
 | [],_=>exact⟨_,_,by rw[if_pos (by simp)]⟩
 | [_],_=>exact⟨_,_,by rw[if_pos (by simp)]⟩
 | [_,_],_=>exact⟨_,_,by rw[if_pos (by simp)]⟩
 |_::_::_::_::l,_=>exact⟨_,_,by rw[if_pos (by simp;omega)]⟩
 | [x,y,z],IK=>
  have hy:=IK.each y (by simp);have hz:=IK.each z (by simp);dsimp only;rw[if_neg (by simp),show getI [x,y,z] 0=some x from rfl,Aa,A7 (by rw[AL];omega),A7 (by rw[Ap,AL];omega)];rw[show(t.ab++ [46]++n)=head t n from rfl];by_cases hx:x=head t n
  ·rw[if_neg (by simp[hx]),show getI [x,y,z] 1=some y from rfl,Aa,Jz hy,Aa];have NV:(x==head t n)=true:=by simpa using hx
   rw[NV];cases field y with
   |false=>exact⟨_,_,by rw[if_neg (by simp)];rfl⟩
   |true=>
    rw[if_pos rfl,show getI [x,y,z] 2=some z from rfl,Aa,Jz hz,Aa];cases field z with
    |false=>exact⟨_,_,by rw[if_pos (by simp)];rfl⟩
    |true=>exact⟨_,_,by rw[if_neg (by simp)];rfl⟩
  ·have NV:(x==head t n)=false:=by simpa using hx
   rw[NV];exact⟨_,_,by rw[if_pos (by simpa[bne]using NV)];rfl⟩
theorem zL{c:UInt8}{s x y:Am}{r:List Am}(h:BE c s=x::y::r):∃q,s=x++c::q:=by
 rcases OJ s c with⟨_,h0⟩|⟨p,q,rfl,hp,_⟩
 ·rw[Jt h0]at h;simp at h
 ·rw[I0 hp]at h;obtain⟨rfl,_⟩:=List.cons.inj h;exact⟨q,rfl⟩
theorem bD{x:Am}{c:UInt8}(hx:x.length<=2000000):(OL x [c]=some (x,[],false)/\ ∀b∈x,b≠c)\/ ∃p q,x=p++c::q/\(∀b∈p,b≠c)/\OL x [c]=some (p,q,true):=by
 have hi:N6 x [c]=some (Lib.indexByte x c):=rfl;rcases OJ x c with⟨e,h0⟩|⟨p,q,rfl,hp,e⟩
 ·refine .inl ⟨?_,h0⟩;unfold OL TD;rw[hi,Aa,e,if_neg (by simp)];rfl
 ·refine .inr ⟨p,q,rfl,hp,?_⟩;rw[Ap,Ao]at hx;have hw:IntKind.i64.wrap ((p.length:Int)+(([c]:Am).length:Int))=((p.length+1:Nat):Int):=by rw[AL,Ch (by omega) (by omega)];omega
  unfold OL TD;rw[hi,Aa,e,if_pos (by simp),A7 (by rw[Ap,Ao];omega),hw,A7 (by rw[Ap,Ao];omega),NJ,NI,List.take_length];have e1:(p++c::q).drop (p.length+1)=q:=by simp
  have e2:(p++c::q).take p.length=p:=by simp
  rw[e1,e2];rfl
theorem zwE{s:Am}(h:(47:UInt8)∈s):field s=false:=by
 unfold field I9;have:(s.all λb=>EF b||([]:Am).contains b)=false:=by rw[List.all_eq_false];exact⟨47,h,by decide⟩
 rw[this,Bool.and_false]
theorem aQ{t:Ak}{n:Am}(ht:t.ab.length<=2000000)(hn:n.length<=2000000):Rc t n=some (head t n++ [47]):=by unfold Rc head;rw[A7 (by rw[AL];omega),A7 (by rw[Ap,AL];omega),A7 (by rw[Ap,Ap,AL,AL];omega)]
theorem zwf{t:Ak}{n k:Am}(ht:t.ab.length<=2000000)(hn:n.length<=2000000)(hk:k.length<=1000000)(hh:∀b∈head t n,b≠47):∃a b,MW t n k=some (a,b,Fc t n k):=by
 unfold MW;rw[aQ ht hn,Aa,bL (by omega),Aa];cases hp:(head t n++ [47]).isPrefixOf k with
 |false=>
  have DL:Fc t n k=false:=by
   unfold Fc;split
   ·rename_i x y z hs;cases hx:x==head t n with
    |false=>simp
    |true=>obtain⟨q,hq⟩:=zL hs;rw[<-Bool.not_eq_true,List.isPrefixOf_iff_prefix]at hp;refine absurd ⟨q,?_⟩ hp;rw[hq,(by simpa using hx:x=head t n)];simp
   ·rfl
  rw[DL];simp only[BX,if_false];rcases bD (x:=k) (c:=47) (by omega)with⟨e,_⟩|⟨p,q,_,_,e⟩
  ·rw[e];exact⟨_,_,rfl⟩
  ·rw[e];exact⟨_,_,rfl⟩
 |true=>
  obtain⟨rest,C5⟩:=List.isPrefixOf_iff_prefix.1 hp;have S5:k=head t n++47::rest:=by rw[<-C5];simp
  have hd:k.drop (head t n++ [47]).length=rest:=by rw[<-C5,List.drop_left]
  have Kd:BE 47 k=head t n::BE 47 rest:=by rw[S5,I0 hh]
  have hlen:rest.length<=1000000:=by
   have:k.length=(head t n).length+(rest.length+1):=by rw[S5,Ap,Ao]
   omega
  simp only[if_true,hd];unfold Fc;rw[Kd];rcases bD (x:=rest) (c:=47) (by omega)with⟨e,h0⟩|⟨p,q,rfl,NS,e⟩
  ·rw[e,Jt h0];exact⟨_,_,rfl⟩
  ·rw[e,I0 NS,Aa];rw[Ap,Ao]at hlen;simp only[if_true];rw[I5 (s:=p) (by omega),Aa];rcases OJ q 47 with⟨_,h0⟩|⟨p3,q3,rfl,rC,_⟩
   ·rw[Jt h0];dsimp only;rw[beq_self_eq_true,Bool.true_and];cases field p with
    |false=>exact⟨_,_,rfl⟩
    |true=>
     rw[if_pos rfl,I5 (s:=q) (by omega),Aa];cases field q with
     |false=>exact⟨_,_,rfl⟩
     |true=>exact⟨_,_,rfl⟩
   ·have hf:field (p3++47::q3)=false:=zwE (by simp);rw[I0 rC];cases hq:BE 47 q3 with
    |nil=>exact absurd hq (Vf _ _)
    |cons x xs=>
     dsimp only;cases field p with
     |false=>exact⟨_,_,rfl⟩
     |true=>rw[if_pos rfl,I5 (by rw[Ap,Ao]at hlen ⊢;omega),Aa,hf];exact⟨_,_,rfl⟩
def CP(t:Ak)(n:Am)(l:List Ai):List Am:=(l.filter λw=>Fc t n w.ah).map (·.ah)
theorem zR{t:Ak}{n:Am}{l:List Ai}(ht:t.ab.length<=2000000)(hn:n.length<=2000000)(hl:l.length<=2000000)(h:∀w∈l,Ge w):Yp t n l=some (CP t n l):=by
 have h1:=G6 (xs:=l) (body:=λs:List Am × Int=>Oe t n l s.1 s.2) (λi (o:List Am)=>(o,i)) (λo w=>if Fc t n w.ah=true then o++ [w.ah]else o) (λo=>some o) (λi o=>o.length<=i)
  (λi hi o hI=>by
   have hI:o.length<=i:=hI;have Xw:=h _ (Bu hi);obtain⟨a,b,e⟩:=zv1 (t:=t) (n:=n) (k:=l[i].ah) ht hn (by have:=Xw.1;omega);have hw:=CG hi (by omega:l.length<=_);refine⟨?_,by
    show List.length (if Fc t n l[i].ah=true then o++ [l[i].ah]else o)<=i+1;split
    ·rw[Ap,AL];omega
    ·omega⟩
   show Oe t n l o i=_;unfold Oe;rw[if_pos (by simpa using hi),BZ hi,Aa,e,Aa,hw];cases hb:Fc t n l[i].ah with
   |false=>rfl
   |true=>
    have hq:((o.length:Int)+(([l[i].ah]:List Am).length:Int))*16<=140737488355328/\(o.length:Int)+(([l[i].ah]:List Am).length:Int)<=140737488355328:=by rw[AL];omega
    rw[if_pos rfl,A7 hq,if_pos rfl])
  (λo _=>by show Oe t n l o l.length=_;unfold Oe;rw[if_neg (by simp)]) (s:=[]) (by simp)
 rw[OW (λw:Ai=>Fc t n w.ah) (λw=>w.ah)]at h1;exact h1.1
theorem iA{t:Ak}{n:Am}{l:List Ai}(ht:t.ab.length<=2000000)(hn:n.length<=2000000)(hh:∀b∈head t n,b≠47)(hl:l.length<=2000000)(h:∀w∈l,Ge w):Od t n l=some (CP t n l):=by
 have h1:=G6 (xs:=l) (body:=λs:Int × List Am=>N7 t n l s.1 s.2) (λi (o:List Am)=>(i,o)) (λo w=>if Fc t n w.ah=true then o++ [w.ah]else o) (λo=>some o) (λi o=>o.length<=i)
  (λi hi o hI=>by
   have hI:o.length<=i:=hI;have Xw:=h _ (Bu hi);obtain⟨a,b,e⟩:=zwf (t:=t) (n:=n) (k:=l[i].ah) ht hn (by have:=Xw.1;omega) hh;have hw:=CG hi (by omega:l.length<=_);refine⟨?_,by
    show List.length (if Fc t n l[i].ah=true then o++ [l[i].ah]else o)<=i+1;split
    ·rw[Ap,AL];omega
    ·omega⟩
   show N7 t n l i o=_;unfold N7;rw[if_pos (by simpa using hi),BZ hi,Aa,e,Aa,hw];cases hb:Fc t n l[i].ah with
   |false=>rfl
   |true=>
    have hq:((o.length:Int)+(([l[i].ah]:List Am).length:Int))*16<=140737488355328/\(o.length:Int)+(([l[i].ah]:List Am).length:Int)<=140737488355328:=by rw[AL];omega
    rw[if_pos rfl,A7 hq,if_pos rfl])
  (λo _=>by show N7 t n l l.length o=_;unfold N7;rw[if_neg (by simp)]) (s:=[]) (by simp)
 rw[OW (λw:Ai=>Fc t n w.ah) (λw=>w.ah)]at h1;exact h1.1
def NG(a b:List Am):List Am:=a.filter λk=> !b.contains k
theorem mC{a b:List Am}(ha:a.length<=2000000)(hb:b.length<=2000000):Rv a b=some (NG a b):=by unfold Rv XQ Ks;rw[zwn (by omega) (by omega),Aa,A7 (by omega),Zk (λk=>b.contains k) (λk _=>by simp only[Yz,nB hb,Aa])];rfl
structure PF(t:Ak)(n:Am)(x:Be):Prop where
 at_:getI t.af (Co (λy:Be=>y.ab==n) t.af)=some x
 name:x.ab=n
 c0:1<=x.a7
 c1:x.a7<=(t.aq.length:Int)-1
def Aj(r:Ac)(c:Int):Am:=(r.ae[c.toNat]?).getD []
def De(t:Ak)(n:Am)(c:Int)(r:Ac):Am:=head t n++ [47]++Aj r c++ [47]++Aj r 0
structure Fz(t:Ak)(r:Ac):Prop where
 len:r.ae.length=t.aq.length
 small:Small r.ae
theorem Nk{t:Ak}{l:List Ai}(h:∀w∈l,Ge w):∀r∈AS t l,Fz t r:=by intro r hr;obtain⟨w,hw,rfl⟩:=List.mem_map.1 hr;obtain⟨h1,h2⟩:=List.mem_filter.1 hw;have h3:D6 t w=true:=h2;unfold D6 BT at h3;simp only[Ae,Ax]at h3;exact⟨by have:=h3.1.1;omega,YN (h w h1)⟩
theorem FZ{t:Ak}{r:Ac}(hr:Fz t r){c:Int}(h0:0<=c)(h1:c<=(t.aq.length:Int)-1):getI r.ae c=some (Aj r c)/\(Aj r c).length<=2000000:=by
 obtain⟨y,e,hm,e2⟩:=Pg (xs:=r.ae) h0 (by have:=hr.len;omega);have hv:Aj r c=y:=by simp[Aj,e2]
 rw[hv];exact⟨e,hr.small.each y hm⟩
theorem zwk{t:Ak}{n:Am}{x:Be}{r:Ac}(ht:t.ab.length<=2000000)(hn:n.length<=2000000)(hx:PF t n x)(hr:Fz t r):Ou t x r=some (De t n x.a7 r):=by
 obtain⟨g1,l1⟩:=FZ hr (c:=x.a7) (by have:=hx.c0;omega) hx.c1;obtain⟨g2,l2⟩:=FZ hr (c:=0) (by omega) (by have:=hx.c0;have:=hx.c1;omega);have e:=hx.name;subst e;unfold Ou De;rw[A7 (by simp only[head,Ap,Ao,List.length_nil];omega),A7 (by simp only[head,Ap,Ao,List.length_nil];omega),A7 (by simp only[head,Ap,Ao,List.length_nil];omega),g1,Aa,
  A7 (by simp only[head,Ap,Ao,List.length_nil];omega),A7 (by simp only[head,Ap,Ao,List.length_nil];omega),g2,Aa,
  A7 (by simp only[head,Ap,Ao,List.length_nil];omega)]
 rfl
theorem zwo{t:Ak}{n:Am}{x:Be}{r:Ac}(hS:Eu t)(hn:n.length<=2000000)(hx:PF t n x)(hr:Fz t r):TM t n r=some (De t n x.a7 r):=by
 obtain⟨g1,l1⟩:=FZ hr (c:=x.a7) (by have:=hx.c0;omega) hx.c1;obtain⟨g2,l2⟩:=FZ hr (c:=0) (by omega) (by have:=hx.c0;have:=hx.c1;omega);have ht:=hS.name;have hi:MZ t n=some x:=by unfold MZ;rw[VE hS,Aa,hx.at_];rfl
 unfold TM De;rw[aQ ht hn,Aa,hi,Aa,g1,Aa,A7 (by simp only[head,Ap,Ao,List.length_nil];omega),A7 (by simp only[head,Ap,Ao,List.length_nil];omega),g2,Aa,A7 (by simp only[head,Ap,Ao,List.length_nil];omega)]
def wanted(t:Ak)(n:Am)(x:Be)(l:List Ai):List Am:=(AS t l).map (De t n x.a7)
theorem Ni(t:Ak)(l:List Ai):(AS t l).length<=l.length:=by unfold AS;rw[List.length_map];exact List.length_filter_le _ _
theorem zus{t:Ak}{n:Am}{x:Be}{l:List Ai}(hS:Eu t)(ht:t.ab.length=1)(hn:n.length<=2000000)(hx:PF t n x)(hl:l.length<=2000000)(h:∀w∈l,Ge w):Rf t n l=some (wanted t n x l):=by
 have BS:=Nk (t:=t) h;have Tg:=Ni t l;unfold Rf;rw[Z8 ht hl h,Aa];have h1:=G6 (xs:=AS t l) (body:=λs:Int × List Am=>Oc t n (AS t l) s.1 s.2) (λi (o:List Am)=>(i,o)) (λo r=>o++ [De t n x.a7 r]) (λo=>some o) (λi o=>o.length=i)
  (λi hi o hI=>by
   have hI:o.length=i:=hI;have hw:=CG hi (by omega);refine⟨?_,by show List.length _=_;rw[Ap,AL];omega⟩;show Oc t n (AS t l) i o=_;unfold Oc;have hq:((o.length:Int)+(([De t n x.a7 (AS t l)[i]]:List Am).length:Int))*16<=140737488355328/\(o.length:Int)+(([De t n x.a7 (AS t l)[i]]:List Am).length:Int)<=140737488355328:=by rw[AL];omega
   rw[if_pos (by simpa using hi),BZ hi,Aa,zwo hS hn hx (BS _ (Bu hi)),Aa,A7 hq,hw])
  (λo _=>by show Oc t n (AS t l) (AS t l).length o=_;unfold Oc;rw[if_neg (by simp)]) (s:=[]) rfl
 rw[foldl_map]at h1;exact h1.1
def holds(t:Ak)(n:Am)(x:Be)(lv:Int)(l:List Ai):Bool:=
 if lv==0 then((CP t n l).length:Int)==0
 else(((NG (CP t n l) (wanted t n x l)).length:Int)==0)&&((lv==1)||(((NG (wanted t n x l) (CP t n l)).length:Int)==0))
theorem UY(t:Ak)(n:Am)(l:List Ai):(CP t n l).length<=l.length:=by unfold CP;rw[List.length_map];exact List.length_filter_le _ _
theorem zte(t:Ak)(n:Am)(x:Be)(l:List Ai):(wanted t n x l).length<=l.length:=by unfold wanted;rw[List.length_map];exact Ni t l
theorem zv5{t:Ak}{n:Am}{x:Be}{lv:Int}{l:List Ai}(hS:Eu t)(ht:t.ab.length=1)(hn:n.length<=2000000)(hh:∀b∈head t n,b≠47)(hx:PF t n x)(hl:l.length<=2000000)(h:∀w∈l,Ge w):TP t n lv l=some (holds t n x lv l):=by
 have hE:=iA (t:=t) (by omega) hn hh hl h;have hW:=zus hS ht hn hx hl h;have e1:=UY t n l;have e2:=zte t n x l;have h1:=mC (a:=CP t n l) (b:=wanted t n x l) (by omega) (by omega);have h2:=mC (a:=wanted t n x l) (b:=CP t n l) (by omega) (by omega);unfold TP holds;by_cases h0:(lv==0)=true
 ·rw[if_pos h0,if_pos h0,hE,Aa]
 ·rw[if_neg h0,if_neg h0];unfold TG X0;rw[hE,hW];simp only[Aa,h1,h2];by_cases h3:(lv==1)=true
  ·rw[if_pos h3,h3,Bool.true_or,Bool.and_true]
  ·rw[if_neg h3,Bool.eq_false_iff.2 h3,Bool.false_or];by_cases h4:(((NG (CP t n l) (wanted t n x l)).length:Int)==0)=true
   ·rw[if_pos h4,h4,Bool.true_and]
   ·rw[if_neg h4,Bool.eq_false_iff.2 h4,Bool.false_and]
def L2(t:Ak)(n:Am):Bool:=A4 t&&decide (Co (λx:Be=>x.ab==n) t.af>=0)
def VR(t:Ak)(n:Am)(l:List Ai):Bool:=L2 t n&&Dg l
theorem zyc{t:Ak}{n:Am}(hS:Eu t):UE t n=some (L2 t n):=by unfold UE L2;rw[Z6 hS,Aa,VE hS,Aa];cases A4 t<;>simp
theorem zvR{t:Ak}{n:Am}{l:List Ai}(hS:Eu t)(hW:Ja l):Ug t n l=some (VR t n l):=by unfold Ug VR;rw[zyc hS,Aa,aN hW,Aa];cases L2 t n<;>simp
theorem Hc{l:List Ai}(h:Dg l=true):∀w∈l,Ge w:=by intro w hw;unfold Dg Jv at h;simp only[Ae]at h;have h1:=A0.1 h.1.2.1 w hw;unfold Ev DZ H9 He at h1;simp only[Ae,AN]at h1;have h2:=D0.1 h1.1.1;have h3:=h1.2.1.1;exact⟨by omega,by omega⟩
theorem OR{s:Am}{k:Int}(h:CO s k=true):(s.length:Int)<=k/\ ∀b∈s,b≠47:=by unfold CO at h;simp only[Ae]at h;refine⟨(D0.1 h.2).2,λb hb e=> ?_⟩;have h1:=A0.1 h.1 b hb;subst e;exact absurd h1 (by decide)
theorem M6{s:Am}(h:CO s 1=true):s.length=1:=by unfold CO at h;simp only[Ae]at h;have:=D0.1 h.2;omega
theorem H4{t:Ak}(h:A4 t=true):CO t.ab 1=true:=by unfold A4 at h;simp only[Ae]at h;exact h.1.1.1
theorem LC{t:Ak}(h:A4 t=true){x:Be}(hx:x∈t.af):CO x.ab 1=true/\C7 x.a7 1 ((t.aq.length:Int)-1)=true:=by unfold A4 at h;simp only[Ae]at h;obtain⟨i,hi,rfl⟩:=List.mem_iff_getElem.1 hx;have h1:=A0.1 h.2 i (List.mem_range.2 hi);unfold GG at h1;simp only[Ae,Bl hi,BC]at h1;exact⟨h1.1.1.1,h1.1.1.2⟩
theorem zyM{t:Ak}{n:Am}(h:L2 t n=true):∃x,PF t n x/\t.ab.length=1/\n.length=1/\ ∀b∈head t n,b≠47:=by
 unfold L2 at h;simp only[Ae,AN]at h;obtain⟨x,h1,h2,h3⟩:=R1 h.2;have h4:=LC h.1 h3;have h5:=D0.1 h4.2;have h6:x.ab=n:=by simpa using h2
 have h7:=H4 h.1;have h8:=h6▸h4.1;refine⟨x,⟨h1,h6,h5.1,h5.2⟩,M6 h7,M6 h8,λb hb=> ?_⟩;unfold head at hb;simp only[Ag,List.mem_singleton]at hb;rcases hb with(hb|hb)|hb
 ·exact(OR h7).2 b hb
 ·subst hb;decide
 ·exact(OR h8).2 b hb
def HK{α:Type}(r:α->α->Bool):List α->Bool
 | []=>true
 | [_]=>true
 |x::y::l=>r x y&&HK r (y::l)
theorem ZE{α:Type}{r:α->α->Bool}(ht:∀a b c,r a b=true->r b c=true->r a c=true):∀{l:List α},HK r l=true↔l.Pairwise λa b=>r a b=true
 | []=>by simp[HK]
 | [_]=>by simp[HK]
 |x::y::l=>by
  rw[HK,Ae,ZE ht];constructor
  ·rintro⟨h1,h2⟩;refine List.pairwise_cons.2 ⟨λz hz=> ?_,h2⟩;rcases Ad.1 hz with rfl|hz
   ·exact h1
   ·exact ht _ _ _ h1 ((List.pairwise_cons.1 h2).1 z hz)
  ·intro h;have h:=List.pairwise_cons.1 h;exact⟨h.1 y (by simp),h.2⟩
theorem yP{α:Type}{r:α->α->Bool}{l:List α}{q:Nat}(h:q+1<l.length):HK r (l.drop q)=(r l[q] l[q+1]&&HK r (l.drop (q+1))):=by rw[BL (show q<l.length by omega),BL h,HK]
def Fi{α:Type}(lt:α->Bool)(l:List α):Nat:=(l.takeWhile lt).length
theorem VA{α:Type}(lt:α->Bool):∀l:List α,Fi lt l<=l.length
 | []=>by simp[Fi]
 |x::l=>by have:=VA lt l;unfold Fi at this ⊢;rw[List.takeWhile_cons];split<;>simp<;>omega
theorem lZ{α:Type}{lt:α->Bool}:∀{l:List α} {i:Nat} (h:i<Fi lt l),lt (l[i]'(Nat.lt_of_lt_of_le h (VA lt l)))=true
 |x::l,i,h=>by
  unfold Fi at h;rw[List.takeWhile_cons]at h;split at h
  ·rename_i hx;cases i with
   |zero=>exact hx
   |succ i=>exact lZ (l:=l) (i:=i) (by unfold Fi;simpa using h)
  ·simp at h
def cD(a b:Am):Int:=if bl a b=true then-1 else if a=b then 0 else 1
@[simp] theorem zwq(a:Am):Rl a=some false:=by simp[Rl]
@[simp] theorem zyZ(a b:Am):MV a b=some (cD a b):=by
 unfold MV cD;simp only[zwq,Aa,BX,if_false];by_cases h:bl a b=true
 ·have:Op.bytesLess a b=true:=h;simp[this]
 ·have h1:Op.bytesLess a b=false:=by simpa using h
  by_cases he:a=b
  ·subst he;simp[h1]
  ·simp[h1,he]
abbrev Jd(l:List Ai):Prop:=EG (λw:Ai=>w.ah) l
abbrev nM(l:List Ai)(k:Am):Nat:=Fi (λw:Ai=>bl w.ah k) l
theorem gU(ks:List Am):KJ ks=HK bl ks:=by
 have key:∀n q,q+n+1=ks.length->(List.range' (q+1) n).all (H7 ks)=HK bl (ks.drop q):=by
  intro n
  induction n with
  |zero=>intro q hq;rw[BL (show q<ks.length by omega),List.drop_eq_nil_of_le (show ks.length<=q+1 by omega)];rfl
  |succ n ih=>intro q hq;rw[List.range'_succ,List.all_cons,ih (q+1) (by omega),yP (show q+1<ks.length by omega)];congr 1;unfold H7;have hb:(q+1==0)=false:=rfl;rw[hb,Bool.false_or,Nat.add_sub_cancel,Bl (show q<ks.length by omega),Bl (show q+1<ks.length by omega)];rfl
 cases ks with
 |nil=>rfl
 |cons k l=>unfold KJ;rw[Ao,List.range_eq_range',List.range'_succ,List.all_cons];have:=key l.length 0 (by simp);rw[List.drop_zero]at this;rw[Nat.zero_add]at this;rw[show 0+1=1 from rfl,this];rfl
theorem Ze{α β:Type}(f:α->β)(r:β->β->Bool):∀l:List α,HK r (l.map f)=HK (λa b=>r (f a) (f b)) l
 | []=>rfl
 | [_]=>rfl
 |x::y::l=>by have:=Ze f r (y::l);simp only[List.map_cons,HK]at this ⊢;rw[this]
theorem vM{l:List Ai}(h:Jv l=true):Jd l:=by unfold Jv at h;simp only[Ae]at h;have h1:=h.2.2;rw[gU,Ze]at h1;exact(ZE (r:=λa b:Ai=>bl a.ah b.ah) λa b c p q=>I6 p q).1 h1
theorem zwe{t:Ak}(h:A4 t=true):EG (λx:Be=>x.ab) t.af:=by
 unfold A4 at h;simp only[Ae]at h;have h1:=h.2;have h2:KJ (t.af.map (·.ab))=true:=by
  unfold KJ;rw[List.length_map,A0];intro i hi;have h3:=A0.1 h1 i hi;unfold GG at h3;simp only[Ae]at h3;have Fm:i<t.af.length:=List.mem_range.1 hi;have e:∀j:Nat,(((t.af.map (·.ab))[j]?).getD [])=((t.af[j]?).getD ⟨[],0,0⟩).ab:=by intro j;rw[List.getElem?_map];cases t.af[j]?<;>rfl
  unfold H7;rw[e,e];exact h3.2
 rw[gU,Ze]at h2;exact(ZE (r:=λa b:Be=>bl a.ab b.ab) λa b c p q=>I6 p q).1 h2
theorem zvT{t:Ak}{x:Be}(h:A4 t=true)(hx:x∈t.af):PF t x.ab x:=by
 have h1:Co (λy:Be=>y.ab==x.ab) t.af>=0:=by have:=ZY (λy:Be=>y.ab==x.ab) t.af;rw[show(t.af.any λy=>y.ab==x.ab)=true from List.any_eq_true.2 ⟨x,hx,by simp⟩]at this;exact of_decide_eq_true this
 obtain⟨y,h2,h3,h4⟩:=R1 h1;have h5:y=x:=(zwe h).jb h4 hx (by simpa using h3);subst h5;have h6:=D0.1 (LC h hx).2;exact⟨h2,rfl,h6.1,h6.2⟩
theorem Lz{t:Ak}(h:A4 t=true):2<=t.aq.length/\t.aq.length<=4/\t.af.length<=3:=by unfold A4 at h;simp only[Ae,AN]at h;have h1:=D0.1 h.1.1.2.2;have h2:=h.1.2;omega
theorem VG{t:Ak}{r:Ac}(hs:Small r.ae)(h:BT t r=true):Fz t r:=by unfold BT at h;simp only[Ae,Ax]at h;exact⟨by have:=h.1;omega,hs⟩
theorem Po{t:Ak}{r:Ac}(hc:1<=t.aq.length)(h:Fz t r):getI r.ae 0=some (Aj r 0):=(FZ h (by omega) (by omega)).1
def VJ(a:Dd):Prop:=Small a.cq.ae/\Small a.ct.ae
def Sh(t:Ak)(a:Dd):Bool:=
 if a.aw=1 then(a.cq.ae.length:Int)==0&&BT t a.ct else
 if a.aw=2 then BT t a.cq&&(a.ct.ae.length:Int)==0 else
 if a.aw=3 then BT t a.cq&&(BT t a.ct&&Aj a.cq 0==Aj a.ct 0)else false
theorem zO{t:Ak}{a:Dd}(hc:1<=t.aq.length)(h:VJ a):Uo t a=some (Sh t a):=by
 unfold Uo Sh;by_cases h1:a.aw=1
 ·rw[if_pos (by simpa using h1),if_pos h1,RF h.2,Aa];cases((a.cq.ae.length:Int)==0)<;>simp
 rw[if_neg (by simpa using h1),if_neg h1];by_cases h2:a.aw=2
 ·rw[if_pos (by simpa using h2),if_pos h2,RF h.1,Aa];cases((a.ct.ae.length:Int)==0)<;>simp
 rw[if_neg (by simpa using h2),if_neg h2];by_cases h3:a.aw=3
 ·rw[if_pos (by simpa using h3),if_pos h3,RF h.1,RF h.2,Aa,Aa];cases e1:BT t a.cq with
  |false=>simp
  |true=>
   cases e2:BT t a.ct with
   |false=>simp
   |true=>simp[Po hc (VG h.1 e1),Po hc (VG h.2 e2)]
 rw[if_neg (by simpa using h3),if_neg h3]
theorem zS{t:Ak}{a:Dd}(hc:1<=t.aq.length)(h:VJ a):TC t a=some (Sh t a):=by
 unfold TC Sh;by_cases h1:a.aw=1
 ·rw[if_pos (by simpa using h1),if_pos h1,RD h.2,Aa];cases((a.cq.ae.length:Int)==0)<;>simp
 rw[if_neg (by simpa using h1),if_neg h1];by_cases h2:a.aw=2
 ·rw[if_pos (by simpa using h2),if_pos h2,RD h.1,Aa]
 rw[if_neg (by simpa using h2),if_neg h2];by_cases h3:a.aw=3
 ·rw[if_pos (by simpa using h3),if_pos h3,RD h.1,RD h.2,Aa,Aa];cases e1:BT t a.cq with
  |false=>simp
  |true=>
   cases e2:BT t a.ct with
   |false=>simp
   |true=>simp[Po hc (VG h.1 e1),Po hc (VG h.2 e2)]
 rw[if_neg (by simpa using h3),if_neg h3]
structure zAi(t:Ak)(a:Dd):Prop where
 old:a.aw≠1->Fz t a.cq
 new:a.aw≠2->Fz t a.ct
 kind:a.aw=1\/a.aw=2\/a.aw=3
 same:a.aw=3->Aj a.cq 0=Aj a.ct 0
def cB(t:Ak)(a:Dd)(x:Be):Am:=if a.aw=1 then []else De t x.ab x.a7 a.cq
def bW(t:Ak)(a:Dd)(x:Be):Am:=if a.aw=2 then []else De t x.ab x.a7 a.ct
theorem H5{σ α:Type}{body:σ->Option (σ ⊕ Option α)}{s:σ}{o:Option α}(h:body s=some (.inr o)):AX body s=o:=by rw[G8,h]
theorem O0{σ α:Type}{body:σ->Option (σ ⊕ Option α)}{s s':σ}(h:body s=some (.inl s')):AX body s=AX body s':=by rw[G8,h]
abbrev wk(w:Ai):Am:=w.ah
theorem U7{α:Type}(lt:α->Bool)(x:α)(l:List α):Fi lt (x::l)=if lt x=true then Fi lt l+1 else 0:=by unfold Fi;rw[List.takeWhile_cons];split<;>rfl
theorem Zw{x:Ai}{l:List Ai}(h:Jd (x::l)):(∀y∈l,bl x.ah y.ah=true)/\Jd l:=by unfold Jd EG at h;rw[List.pairwise_cons]at h;exact h
theorem zuP{l:List Ai}{k:Am}(h:∀y∈l,bl k y.ah=true):l.find? (λw=>w.ah==k)=none:=by rw[List.find?_eq_none];intro y hy;have:=GH (h y hy);simpa using λe=>this e.symm
theorem zX{k:Am}:∀{l:List Ai},Jd l->l.find? (λw=>w.ah==k)=match l[nM l k]? with|some w=>if w.ah=k then some w else none|none=>none
 | [],_=>by simp
 |x::l,h=>by
  obtain⟨h1,h2⟩:=Zw h;have ih:=zX (k:=k) h2;rw[nM,U7,List.find?_cons];by_cases hb:bl x.ah k=true
  ·have BI:(x.ah==k)=false:=by simpa using GH hb
   rw[if_pos hb,BI,List.getElem?_cons_succ];exact ih
  ·rw[if_neg hb,List.getElem?_cons_zero];by_cases he:x.ah=k
   ·rw[show(x.ah==k)=true by simpa using he];simp[he]
   ·rw[show(x.ah==k)=false by simpa using he];simp only[he,if_false];have hk:bl k x.ah=true:=U8 (by simpa using hb) he;exact zuP λy hy=>I6 hk (h1 y hy)
def DY(k:Am)(w:Ai):Bool:=bl w.ah k||w.ah==k
def L1(l:List Ai)(w:Ai)(q:Nat):List Ai:=
 match(if q=0 then none else l[q-1]?)with
 |some y=>if y.ah=w.ah then l.set (q-1) w else l.take q++ [w]++l.drop q
 |none=>l.take q++ [w]++l.drop q
theorem ztO{w:Am}{l:List Ai}(h:∀y∈l,bl w y.ah=true):Fi (DY w) l=0:=by
 cases l with
 |nil=>rfl
 |cons y l=>rw[U7,if_neg];have h1:=h y (by simp);have h2:=Z5 h1;have h3:=GH h1;unfold DY;rw[h2];simpa using λe=>h3 e.symm
theorem lE{w:Ai}:∀{l:List Ai},Jd l->L1 l w (Fi (DY w.ah) l)=Df wk w l
 | [],_=>by simp[L1,Df,Fi]
 |x::l,h=>by
  obtain⟨h1,h2⟩:=Zw h;have ih:=lE (w:=w) h2;rw[U7,Df];by_cases ha:bl (wk w) (wk x)=true
  ·have hl:DY w.ah x=false:=by
    have h3:=Z5 ha;have h4:=GH ha;unfold DY;rw[h3];simpa using λe=>h4 e.symm
   rw[if_pos ha,hl,if_neg (by simp)];simp[L1]
  rw[if_neg ha];by_cases he:wk w=wk x
  ·have hl:DY w.ah x=true:=by unfold DY;rw[show(x.ah==w.ah)=true by simpa using he.symm];simp
   have hz:Fi (DY w.ah) l=0:=ztO λy hy=>by rw[show w.ah=x.ah from he];exact h1 y hy
   rw[if_pos he,hl,if_pos rfl,hz];simp[L1,show x.ah=w.ah from he.symm]
  ·have hb:bl x.ah w.ah=true:=U8 (by simpa using ha) he;have hl:DY w.ah x=true:=by unfold DY;rw[hb];rfl
   rw[if_neg he,hl,if_pos rfl,<-ih];have hle:=VA (DY w.ah) l;generalize Fi (DY w.ah) l=q at hle;unfold L1;rw[if_neg (by omega),Nat.add_sub_cancel];cases q with
   |zero=>simp only[List.getElem?_cons_zero,if_true];rw[if_neg (λe=>he e.symm)];simp
   |succ q=>
    rw[if_neg (by omega),Nat.add_sub_cancel,List.getElem?_cons_succ,Bl (by omega)];simp only;split
    ·simp
    ·simp
theorem mG{w:Am}:∀{l:List Ai},Jd l-> ∀(j:Nat) (hj:j<l.length),Fi (DY w) l<=j->DY w l[j]=false
 | [],_,j,hj,_=>by simp at hj
 |x::l,h,j,hj,hq=>by
  obtain⟨h1,h2⟩:=Zw h;rw[U7]at hq;by_cases hx:DY w x=true
  ·rw[if_pos hx]at hq;cases j with
   |zero=>omega
   |succ j=>exact mG h2 j (by simpa using hj) (by omega)
  ·have CT:DY w x=false:=by simpa using hx
   cases j with
   |zero=>exact CT
   |succ j=>have hm:l[j]'(by simpa using hj)∈l:=Bu _;have h3:=h1 _ hm;show DY w (l[j]'(by simpa using hj))=false;unfold DY at CT ⊢;simp only[Bool.or_eq_false_iff,beq_eq_false_iff_ne]at CT ⊢;have h4:bl w x.ah=true:=U8 CT.1 CT.2;have h5:=I6 h4 h3;exact⟨Z5 h5,λe=>GH h5 e.symm⟩
theorem aX{i:Nat}(h0:0<i)(h:i<=2000000):IntKind.i64.wrap ((i:Int)-1)=((i-1:Nat):Int):=by rw[Ch (by omega) (by omega)];omega
theorem Np{l:List Ai}{w:Ai}(hl:l.length<=2000000)(hr:Jd l):Kt l w=some (Df wk w l):=by
 have hk:∀q:Nat,q<=l.length->Uc l w (q:Int)=some (L1 l w q):=by
  intro q hq;have r1:0<=(q:Int)/\(q:Int)<=(l.length:Int)/\(l.length:Int)<=(l.length:Int):=by omega
  have MP:(Bg l (q:Int) (l.length:Int))=l.drop q:=by rw[show(l.length:Int)=((l.length:Nat):Int)from rfl,NI,List.take_length]
  have Jo:(Bg l 0 (q:Int))=l.take q:=NJ l q;have r2:((([]:List Ai).length:Int)+((l.drop q).length:Int))*40<=140737488355328/\(([]:List Ai).length:Int)+((l.drop q).length:Int)<=140737488355328:=by rw[List.length_nil,Dp];omega
  have r3:0<=(0:Int)/\(0:Int)<=(q:Int)/\(q:Int)<=(l.length:Int):=by omega
  have r4:((([]:List Ai).length:Int)+((l.take q).length:Int))*40<=140737488355328/\(([]:List Ai).length:Int)+((l.take q).length:Int)<=140737488355328:=by rw[List.length_nil,A1];omega
  have r5:(((l.take q).length:Int)+(([w]:List Ai).length:Int))*40<=140737488355328/\((l.take q).length:Int)+(([w]:List Ai).length:Int)<=140737488355328:=by rw[AL,A1];omega
  have r6:(((l.take q++ [w]).length:Int)+((l.drop q).length:Int))*40<=140737488355328/\((l.take q++ [w]).length:Int)+((l.drop q).length:Int)<=140737488355328:=by rw[Ap,AL,A1,Dp];omega
  have r7:((([]:List Ai).length:Int)+((l).length:Int))*40<=140737488355328/\(([]:List Ai).length:Int)+((l).length:Int)<=140737488355328:=by rw[List.length_nil];omega
  unfold Uc L1;by_cases h0:q=0
  ·subst h0;rw[if_neg (by simp),if_pos rfl];rw[A7 r1,MP,A7 r2,A7 r3,Jo,A7 r4,A7 r5,A7 r6]
  ·have F6:q-1<l.length:=by omega
   rw[if_pos (by simp;omega),if_neg h0,aX (by omega) (by omega),BZ F6,Aa,Bl F6];simp only;by_cases he:(l[q-1]).ah=w.ah
   ·rw[if_pos (by simpa using he),if_pos he,A7 r7,Aa];rfl
   ·rw[if_neg (by simpa using he),if_neg he];rw[A7 r1,MP,A7 r2,A7 r3,Jo,A7 r4,A7 r5,A7 r6]
 have hle:=VA (DY w.ah) l;have key:∀n j:Nat,j=Fi (DY w.ah) l+n->j<=l.length->AX (λs:Int=>MX l w s) (j:Int)=some (L1 l w (Fi (DY w.ah) l)):=by
  intro n
  induction n with
  |zero=>
   intro j hj WS;have IB:j=Fi (DY w.ah) l:=by omega
   refine(H5 ?_).trans (hk _ hle);show MX l w (j:Int)=_;unfold MX;by_cases h0:j=0
   ·rw[if_neg (by simp[h0]),IB]
   ·have F6:j-1<l.length:=by omega
    have ht:=lZ (lt:=DY w.ah) (l:=l) (i:=j-1) (by omega);rw[if_pos (by simp;omega),aX (by omega) (by omega),BZ F6,Aa,if_neg,IB];unfold DY at ht;have ht:(bl l[j-1].ah w.ah||l[j-1].ah==w.ah)=true:=ht;show¬(!(bl l[j-1].ah w.ah||l[j-1].ah==w.ah))=true;rw[ht];simp
  |succ n ih=>
   intro j hj WS;have F6:j-1<l.length:=by omega
   have ht:=mG (w:=w.ah) hr (j-1) F6 (by omega);have e:MX l w (j:Int)=some (.inl ((j-1:Nat):Int)):=by unfold MX;rw[if_pos (by simp;omega),aX (by omega) (by omega),BZ F6,Aa,if_pos];have ht:(bl l[j-1].ah w.ah||l[j-1].ah==w.ah)=false:=ht;show(!(bl l[j-1].ah w.ah||l[j-1].ah==w.ah))=true;rw[ht];rfl
   rw[O0 (body:=λs:Int=>MX l w s) e];exact ih (j-1) (by omega) (by omega)
 unfold Kt;rw[key (l.length-Fi (DY w.ah) l) l.length (by omega) (Ay _),lE hr]
theorem ztW{s:Am}(h:He s=true):s.length<=24:=by unfold He at h;simp only[Ae,AN]at h;omega
theorem zt3{s:Am}(h:DZ s=true):s.length<=12:=by unfold DZ at h;simp only[Ae]at h;have:=D0.1 h.1;omega
structure LY(n:Nat)(ws:List Ai):Prop where
 dn:Jd ws
 len:ws.length<=n
 gy:∀w∈ws,Ev w=true
theorem zwy{n:Nat}{ws:List Ai}{w:Ai}(h:LY n ws)(hw:Ev w=true):LY (n+1) (Df wk w ws):=by
 refine⟨jJ h.dn,Nat.le_trans (kR _) (by have:=h.len;omega),λy hy=> ?_⟩;rcases(ZV (key:=wk) h.dn y).1 hy with rfl|hy
 ·exact hw
 ·exact h.gy y hy.1
theorem zux{w:Ai}(h:Ev w=true):w.bd.length<=24:=by unfold Ev H9 at h;simp only[Ae]at h;exact ztW h.2.1
theorem zuK{w:Ai}(h:Ev w=true):w.ah.length<=12:=by unfold Ev at h;simp only[Ae]at h;exact zt3 h.1
structure zzi(AS:List Ai):Prop where
 dn:Jd AS
 len:AS.length<=24
 gy:∀w∈AS,Ev w=true
theorem ZA{s:Am}(h:field s=true):s.length<=3:=by unfold field at h;simp only[Ae]at h;have:=D0.1 h.1;omega
theorem aH{t:Ak}{r:Ac}(h:BT t r=true)(c:Int):(Aj r c).length<=3:=by
 unfold BT at h;simp only[Ae]at h;unfold Aj;cases e:r.ae[c.toNat]? with
 |none=>simp
 |some s=>exact ZA (A0.1 h.2 s (List.mem_of_getElem? e))
theorem Zs{k:Nat}:∀{xs:List Am},(∀s∈xs,s.length<=k)->D1 xs<=k*xs.length
 | [],_=>by simp[D1]
 |s::xs,h=>by have h1:=h s (by simp);have h2:=Zs (k:=k) (xs:=xs) λy hy=>h y (by simp[hy]);simp only[D1,Ao,Nat.mul_add,Nat.mul_one];omega
theorem zwj{t:Ak}{r:Ac}(hg:A4 t=true)(h:BT t r=true):(Di t r).ah.length<=5/\(Di t r).bd.length<=20:=by
 have hn:=M6 (H4 hg);have hc:=Lz hg;have hv:=aH h 0;have h':=h;unfold BT at h';simp only[Ae,Ax]at h';have Dj:∀s∈r.ae,s.length<=3:=λs hs=>ZA (A0.1 h'.2 s hs);constructor
 ·unfold Di;have e:(r.ae.head?).getD []=Aj r 0:=by unfold Aj;rw[List.head?_eq_getElem?];rfl
  simp only[e,Ap,AL];omega
 ·have h1:=ZL r.ae.tail [44];have h2:=Zs (k:=3) (xs:=r.ae.tail) λs hs=>Dj s (List.mem_of_mem_tail hs);have h3:r.ae.tail.length<=3:=by rw[List.length_tail];omega
  rw[AL]at h1;show(Lib.join r.ae.tail [44]).length<=20;omega
theorem zvw{t:Ak}{n:Am}{c:Int}{r:Ac}(hg:A4 t=true)(hn:n.length=1)(h:BT t r=true):(De t n c r).length<=11:=by have h1:=M6 (H4 hg);have h2:=aH h c;have h3:=aH h 0;unfold De head;simp only[Ap,AL];omega
def L6(s:Am):Prop:= ∀b∈s,(EF b||([46,47]:Am).contains b)=true
def oM(s:Am):Prop:= ∀b∈s,(EF b||([46,45,44,95]:Am).contains b)=true
theorem zuz{s:Am}(h:field s=true):∀b∈s,EF b=true:=by unfold field I9 at h;simp only[Ae]at h;intro b hb;have:=A0.1 h.2 b hb;simpa using this
theorem M4{s:Am}{k:Int}(h:CO s k=true):∀b∈s,EF b=true:=by unfold CO at h;simp only[Ae]at h;intro b hb;have:=A0.1 h.1 b hb;unfold small at this;unfold EF;simp only[Bt,Bool.or_eq_false_iff,decide_eq_false_iff_not]at this;simp only[Bool.or_eq_true,Ae,AN];left;omega
theorem OX{s:Am}(h:∀b∈s,EF b=true):L6 s:=λb hb=>by rw[h b hb];rfl
theorem L6.app{s u:Am}(h:L6 s)(k:L6 u):L6 (s++u):=λb hb=>by
 rcases Ag.1 hb with hb|hb
 ·exact h b hb
 ·exact k b hb
theorem zzY:L6 [46]:=λb hb=>by rw[List.mem_singleton]at hb;subst hb;decide
theorem bS:L6 [47]:=λb hb=>by rw[List.mem_singleton]at hb;subst hb;decide
theorem iB{s:Am}(h1:1<=s.length)(h2:s.length<=12)(h:L6 s):DZ s=true:=by unfold DZ I9;rw[D0.2 ⟨by omega,by omega⟩,A0.2 h];rfl
theorem z8{s:Am}(h2:s.length<=24)(h:oM s):He s=true:=by unfold He I9;rw[show decide ((s.length:Int)<=24)=true by simp;omega,A0.2 h];rfl
theorem zwh{xs:List Am}(h:∀x∈xs,∀b∈x,EF b=true):oM (Lib.join xs [44]):=by
 cases xs with
 |nil=>intro b hb;simp[Lib.join_nil]at hb
 |cons x r=>
  intro b hb;rw[Lib.join_cons]at hb;rcases Ag.1 hb with hb|hb
  ·rw[h x (by simp) b hb];rfl
  ·unfold Lib.joinTail at hb;obtain⟨l,hl,pL⟩:=List.mem_flatten.1 hb;obtain⟨y,hy,rfl⟩:=List.mem_map.1 hl;rcases Ag.1 pL with hb|hb
   ·rw[List.mem_singleton]at hb;subst hb;decide
   ·rw[h y (by simp[hy]) b hb];rfl
theorem iE{t:Ak}{r:Ac}(h:BT t r=true):∀x∈r.ae,∀b∈x,EF b=true:=by unfold BT at h;simp only[Ae]at h;exact λx hx=>zuz (A0.1 h.2 x hx)
theorem No{t:Ak}{r:Ac}(h:BT t r=true)(c:Int):∀b∈Aj r c,EF b=true:=by
 unfold Aj;cases e:r.ae[c.toNat]? with
 |none=>simp
 |some s=>exact iE h s (List.mem_of_getElem? e)
theorem ztF{t:Ak}{r:Ac}(hg:A4 t=true)(h:BT t r=true):DZ (Di t r).ah=true/\He (Di t r).bd=true:=by
 have hl:=zwj hg h;have e:(Di t r).ah=t.ab++ [47]++Aj r 0:=by unfold Di Aj;rw[List.head?_eq_getElem?];rfl
 refine⟨iB ?_ (by omega) ?_,z8 (by omega) ?_⟩
 ·rw[e];simp;omega
 ·rw[e];exact((OX (M4 (H4 hg))).app bS).app (OX (No h 0))
 ·exact zwh λx hx=>iE h x (List.mem_of_mem_tail hx)
theorem ztn{t:Ak}{n:Am}{c:Int}{r:Ac}(hg:A4 t=true)(hn:CO n 1=true)(h:BT t r=true):DZ (De t n c r)=true:=by
 have hl:=zvw (c:=c) hg (M6 hn) h;refine iB ?_ (by omega) ?_
 ·unfold De;simp;omega
 ·unfold De head;exact((((((OX (M4 (H4 hg))).app zzY).app (OX (M4 hn))).app bS).app (OX (No h c))).app bS).app (OX (No h 0))
theorem Jx{l:List Ai}(h:Dg l=true):zzi l/\ ∀w∈l,w.bp=false:=by unfold Dg at h;rw[Ae]at h;have hr:=vM h.1;have h1:=h.1;unfold Jv at h1;simp only[Ae,AN]at h1;exact⟨⟨hr,by omega,A0.1 h1.2.1⟩,λw hw=>by simpa using A0.1 h.2 w hw⟩
theorem Y0{c:UInt8}:∀{p q:Am},(∀b∈p,b≠c)->BE c (p++ [c]++q)=p::BE c q:=λ{p q} h=>by rw[List.append_assoc];exact I0 h
theorem LQ{b:UInt8}(h:EF b=true):b≠47/\b≠44/\b≠46:=by refine⟨?_,?_,?_⟩<;>(rintro rfl;revert h;decide)
theorem lQ{t:Ak}{n:Am}(hg:A4 t=true)(hn:CO n 1=true):∀b∈head t n,b≠47:=by
 intro b hb;unfold head at hb;simp only[Ag,List.mem_singleton]at hb;rcases hb with(hb|hb)|hb
 ·exact(LQ (M4 (H4 hg) b hb)).1
 ·subst hb;decide
 ·exact(LQ (M4 hn b hb)).1
theorem jH{t:Ak}{n:Am}{c:Int}{r:Ac}(hg:A4 t=true)(hn:CO n 1=true)(h:BT t r=true):BE 47 (De t n c r)=[head t n,Aj r c,Aj r 0]:=by unfold De;rw[show head t n++ [47]++Aj r c++ [47]++Aj r 0=head t n++ [47]++(Aj r c++ [47]++Aj r 0) by simp,Y0 (lQ hg hn),Y0 λb hb=>(LQ (No h c b hb)).1,Jt λb hb=>(LQ (No h 0 b hb)).1]
theorem O1(t:Ak)(r:Ac):(Di t r).ah=t.ab++ [47]++Aj r 0:=by unfold Di Aj;rw[List.head?_eq_getElem?];rfl
theorem zuu{t:Ak}{r:Ac}(hg:A4 t=true)(h:BT t r=true):BE 47 (Di t r).ah=[t.ab,Aj r 0]:=by rw[O1,Y0 λb hb=>(LQ (M4 (H4 hg) b hb)).1,Jt λb hb=>(LQ (No h 0 b hb)).1]
theorem zyW{t:Ak}{r:Ac}{c:Int}(h:BT t r=true)(h0:0<=c)(h1:c<=(t.aq.length:Int)-1):field (Aj r c)=true:=by
 unfold BT at h;simp only[Ae,Ax]at h;have hl:c.toNat<r.ae.length:=by have:=h.1;omega
 unfold Aj;rw[Bl hl];exact A0.1 h.2 _ (Bu hl)
theorem yY{t:Ak}{n:Am}{c:Int}{r r':Ac}(hg:A4 t=true)(hn:CO n 1=true)(h:BT t r=true)(h':BT t r'=true):(Di t r).ah≠De t n c r':=by intro e;have h1:=zuu hg h;rw[e,jH hg hn h']at h1;simp at h1
theorem Nd{t:Ak}{w:Ai}(h:D6 t w=true):BT t (Ds w)=true/\w=Di t (Ds w):=by unfold D6 JL at h;simp only[Ae,Ax]at h;obtain⟨h1,h2,h3,h4⟩:=h;refine⟨h1,?_⟩;cases w;cases hq:Di t (Ds _);rename_i a b c d e f;rw[hq]at h2 h3 h4;simp only at h2 h3 h4;rw[h2,h3,h4]
def zzS(t:Ak)(a:Dd):List Ai:=
 if a.aw=1 then [⟨(Di t a.ct).ah,(Di t a.ct).bd,false⟩]else
 if a.aw=2 then [⟨(Di t a.cq).ah,[],true⟩]else [⟨(Di t a.cq).ah,(Di t a.ct).bd,false⟩]
def zzw(t:Ak)(a:Dd)(x:Be):List Ai:=
 (if cB t a x≠ []/\cB t a x≠bW t a x/\x.bf>=1 then [⟨cB t a x,[],true⟩]else [])++(if bW t a x≠ []/\x.bf>=2 then [⟨bW t a x,[],false⟩]else [])
def oA(t:Ak)(a:Dd):List Ai:=zzS t a++t.af.flatMap (zzw t a)
def zz2(t:Ak)(a:Dd)(st st':List Ai):Prop:=
 ∀y,y∈st'↔y.bp=false/\(y∈oA t a\/y∈st/\ ∀w∈oA t a,w.ah≠y.ah)
theorem G5{t:Ak}(h:A4 t=true):Eu t:=by
 have hn:=(OR (H4 h)).1;have h0:=h;unfold A4 at h;simp only[Ae,AN]at h;have hl:=D0.1 h.1.1.2.2;have hc:=h.1.1.2.1;refine⟨by omega,by omega,λc hm=> ?_,by omega,λx hx=> ?_⟩
 ·obtain⟨i,hi,rfl⟩:=List.mem_iff_getElem.1 hm;unfold JB at hc;have:=A0.1 hc i (List.mem_range.2 hi);unfold LR at this;rw[Bl hi]at this;simp only[BC,Ae]at this;have:=(OR this.1).1;omega
 ·have:=(OR (LC h0 hx).1).1;omega
structure Jb(l:List Am):Prop where
 len:l.length<=10
 each:∀s∈l,s.length<=10
theorem Jb.small{l:List Am}(h:Jb l):Small l:=⟨by have:=h.len;omega,by
 have h1:=Zs h.each;have h2:=h.len;have h3:10*l.length<=100:=by omega
 omega⟩
theorem Lw{t:Ak}{r:Ac}(hg:A4 t=true)(h:BT t r=true):Jb r.ae/\2<=r.ae.length:=by
 have S1:=Lz hg;have h4:t.aq.length<=4:=by have:=hg;unfold A4 at this;simp only[Ae,AN]at this;have:=D0.1 this.1.1.2.2;omega
 unfold BT at h;rw[Ae,Ax]at h;exact⟨⟨by omega,λs hs=>by have:=ZA (A0.1 h.2 s hs);omega⟩,by omega⟩
theorem ZU{k v:Am}(h1:DZ k=true)(h2:He v=true):Ev ⟨k,v,false⟩=true:=by unfold Ev H9;rw[h1,h2];rfl
theorem iN{t:Ak}{r:Ac}(hg:A4 t=true)(h:BT t r=true):Fz t r:=⟨by have h1:=h;unfold BT at h1;rw[Ae,Ax]at h1;omega,(Lw hg h).1.small⟩
theorem M7{t:Ak}{l:List Ai}{r:Ac}(h:r∈AS t l):BT t r=true:=by unfold AS at h;obtain⟨w,hw,rfl⟩:=List.mem_map.1 h;exact(Nd (List.mem_filter.1 hw).2).1
theorem YT{t:Ak}{x:Be}{r:Ac}(hg:A4 t=true)(hx:x∈t.af)(hr:BT t r=true):Ou t x r=some (De t x.ab x.a7 r)/\Ev ⟨De t x.ab x.a7 r,[],false⟩=true:=by have hS:=G5 hg;exact⟨zwk hS.name (hS.idx x hx) (zvT hg hx) (iN hg hr),ZU (ztn hg (LC hg hx).1 hr) (by decide)⟩
theorem Y9{w:Ai}(h:Ev w=true):Ge w:=⟨by have:=zuK h;omega,by have:=zux h;omega⟩
theorem Fx[Inhabited DB]{c:AE}{k:Int}(l:List Am)(hl:l≠ [])(h:BK c k)(hk:k<=4611686018427387000):BW (EC c l) λp=>p.1∈l/\BK p.2 (k+2):=by unfold EC;have CK:0<l.length:=List.length_pos_iff.2 hl;refine(Fb l.length h hk).bind λp ⟨hp,hc⟩=> ?_;exact BW.bind (P:=λy=>y∈l) (.getI hp.1 (hp.2.1 (by omega)) λx hx=>hx) λy hy=> .ret ⟨hy,hc⟩
def H0:List Am:=[[105],[106],[109]]
structure nV(w:Int)(x:Be):Prop where
 c1:1<=x.a7
 c2:x.a7<=w
 s0:0<=x.bf
 s3:x.bf<=3
structure TI(w:Int)(q:Nat)(l:List Be):Prop where
 x:∀x∈l,nV w x
 nm:∀x∈l,x.ab∈H0.take q
 up:l.Pairwise λa b=>Op.bytesLess a.ab b.ab=true
 len:l.length<=q
theorem zx7:∀{q:Nat},q<3-> ∀a∈H0.take q,Op.bytesLess a ((H0[q]?).getD [])=true:=by
 intro q hq;have:q=0\/q=1\/q=2:=by omega
 rcases this with rfl|rfl|rfl<;>decide
theorem lV{q:Nat}{a:Am}(h:a∈H0.take q):a∈H0.take (q+1):=by rw[List.take_add_one];exact Ag.2 (.inl h)
theorem TI.add{w:Int}{q:Nat}{l:List Be}{x:Be}(h:TI w q l)(hq:q<3)(hx:nV w x)(hn:x.ab=(H0[q]?).getD []):TI w (q+1) (l++ [x]):=by
 refine⟨λy hy=> ?_,λy hy=> ?_,?_,?_⟩
 ·rcases Ag.1 hy with hy|hy
  ·exact h.x y hy
  ·rw[List.mem_singleton.1 hy];exact hx
 ·rcases Ag.1 hy with hy|hy
  ·exact lV (h.nm y hy)
  ·rw[List.mem_singleton.1 hy,hn,List.take_add_one];refine Ag.2 (.inr ?_);have:q<H0.length:=hq;rw[Bl this];simp
 ·refine List.pairwise_append.2 ⟨h.up,List.pairwise_singleton _ _,λa ha b hb=> ?_⟩;rw[List.mem_singleton.1 hb,hn];exact zx7 hq _ (h.nm a ha)
 ·have:=h.len;rw[Ap,AL];omega
theorem TI.more{w:Int}{q:Nat}{l:List Be}(h:TI w q l):TI w (q+1) l:=⟨h.x,λy hy=>lV (h.nm y hy),h.up,by have:=h.len;omega⟩
theorem zK{nm:Am}{cs:List Am}{l:List Be}(hn:nm∈([[116],[117]]:List Am))(hc:JB cs=true)(h2:2<=cs.length)(h4:cs.length<=4)(h:TI ((cs.length:Int)-1) 3 l):A4 ⟨nm,cs,l⟩=true:=by
 unfold A4;have e1:CO nm 1=true:=by simp only[Ad,List.not_mem_nil,or_false]at hn;rcases hn with rfl|rfl<;>decide
 have hl:=h.len;simp only[e1,hc,Bool.true_and,Ae,AN];refine⟨⟨D0.2 ⟨by omega,by omega⟩,by omega⟩,A0.2 λi hi=> ?_⟩;have hi:=List.mem_range.1 hi;unfold GG;have ex:(l[i]?).getD ⟨[],0,0⟩=l[i]:=by rw[Bl hi];rfl
 dsimp only;rw[ex];have hm:=Bu hi;have hx:=h.x _ hm;have Ei:CO l[i].ab 1=true:=by have:=h.nm _ hm;have e:H0.take 3=H0:=rfl;rw[e]at this;unfold H0 at this;simp only[Ad,List.not_mem_nil,or_false]at this;rcases this with e|e|e<;>rw[e]<;>decide
 rw[Ei,D0.2 ⟨hx.c1,hx.c2⟩,D0.2 ⟨hx.s0,hx.s3⟩];simp only[Bool.true_and,Bool.or_eq_true,Ax];by_cases h0:i=0
 ·exact .inl h0
 ·refine .inr ?_;have hp:i-1<l.length:=by omega
  have ep:(l[i-1]?).getD ⟨[],0,0⟩=l[i-1]:=by rw[Bl hp];rfl
  rw[ep];exact(List.pairwise_iff_getElem.1 h.up) (i-1) i hp hi (by omega)
def VT:List Am:=[[107],[97],[98],[99,99]]
theorem jC{p:Int}(h0:0<=p)(h3:p<3):JB (Bg VT 0 (IntKind.i64.wrap (2+p)))=true/\(((Bg VT 0 (IntKind.i64.wrap (2+p))).length:Nat):Int)=2+p:=by
 rw[Ch (by omega) (by omega)];have:p=0\/p=1\/p=2:=by omega
 rcases this with rfl|rfl|rfl<;>exact⟨by decide,by decide⟩
theorem YO[Inhabited DB]{v2:Int × AE}{q:Nat}{l:List Be}{y:Am}{a:List Int}{b e k:Int}{t:Bool}(h0:0<=v2.1)(h3:v2.1<3)(hq:q<3)(hy:y=(H0[q]?).getD [])(hl:TI (1+v2.1) q l)(hc:BK ⟨a,b,e⟩ k)(hk:k<=4611686018427380000):
  BW (Rh v2 q l y a b e t) λo=> ∃(c:AE) (l':List Be),o= .inl (((q+1:Nat):Int),c.ar,c.bz,c.au,l')/\TI (1+v2.1) (q+1) l'/\BK c (k+4):=by
 unfold Rh;have hw:=(jC h0 h3).2;unfold VT at hw;have w1:IntKind.i64.wrap ((q:Int)+1)=((q+1:Nat):Int):=by rw[Ch (by omega) (by omega)];omega
 refine .ite (λ_=> ?_) λ_=> .ret ⟨⟨a,b,e⟩,l,by rw[w1],hl.more,hc.up (by omega)⟩;rw[hw,Ch (n:=2+v2.1-1) (by omega) (by omega)];refine(Fb _ hc (by omega)).bind λp ⟨hp,BG⟩=>(Fb 4 BG (by omega)).bind λr ⟨hr,S1⟩=> ?_;have p2:=hp.2.1 (by omega);have r2:=hr.2.1 (by omega);have hlen:=hl.len;refine .req (by simp;omega) (.ret ⟨r.2,_,by rw[w1],hl.add hq ⟨?_,?_,hr.1,by dsimp only;omega⟩ hy,S1.up (by omega)⟩)
 ·dsimp only;rw[Ch (by omega) (by omega)];omega
 ·dsimp only;rw[Ch (by omega) (by omega)];omega
theorem Z3[Inhabited DB]{c:AE}{k:Int}(h:BK c k)(hk:k<=4611686018427370000):BW (On c) λp=>A4 p.1=true/\BK p.2 (k+40):=by
 unfold On;refine(Fx _ (by simp) h (by omega)).bind λn ⟨hn,hc⟩=>(Fb 3 hc (by omega)).bind λp ⟨hp,hd⟩=> ?_;have p2:=hp.2.1 (by omega);obtain⟨MP,Jo⟩:=jC hp.1 p2;unfold VT at MP Jo;have w1:IntKind.i64.wrap (2+p.1)=2+p.1:=Ch (by omega) (by omega);refine .req ⟨by omega,by rw[w1];omega,by rw[w1];simp;omega⟩ (.req (by rw[Jo];simp;omega) ?_);refine RE (λm s=> ∃q:Nat,s.1=(q:Int)/\q+m=3/\TI (1+p.1) q s.2.2.2.2/\BK ⟨s.2.1,s.2.2.1,s.2.2.2.1⟩ (k+4+8*q)) (λm s hI=> ?_) (n:=3) ⟨0,rfl,rfl,⟨by simp,by simp, .nil,by simp⟩,by simpa using hd.up (by omega)⟩;obtain⟨q,e1,e2,hT,ho⟩:=hI;obtain⟨s1,a,b,e,l⟩:=s;dsimp only at e1 hT ho ⊢;subst e1;unfold eI;have ec:(([([105]:Ab),([106]:Ab),([109]:Ab)]:List (Ab)).length:Int)=3:=rfl;rw[ec];refine .ite (λAI=> ?_) λIv=> ?_
 ·simp only[AN]at AI;have hq:q<3:=by omega
  have eg:getI [([105]:Ab),([106]:Ab),([109]:Ab)] (q:Int)=some ((H0[q]?).getD []):=by
   have:q=0\/q=1\/q=2:=by omega
   rcases this with rfl|rfl|rfl<;>rfl
  rw[eg,Aa];refine(KO 3 ho (by omega)).bind λx hx=> .ite (λ_=> ?_) λ_=> .ite (λ_=> ?_) λ_=> ?_
  ·exact(YO hp.1 p2 hq rfl hT hx (by omega)).mono λo ho=>by obtain⟨c',l',rfl,ht,KZ⟩:=ho;exact⟨m-1,by omega,q+1,rfl,by omega,ht,KZ.up (by omega)⟩
  ·refine(KO 8 hx (by omega)).bind λz hz=> ?_;exact(YO hp.1 p2 hq rfl hT hz (by omega)).mono λo ho=>by obtain⟨c',l',rfl,ht,KZ⟩:=ho;exact⟨m-1,by omega,q+1,rfl,by omega,ht,KZ.up (by omega)⟩
  ·exact(YO hp.1 p2 hq rfl hT hx (by omega)).mono λo ho=>by obtain⟨c',l',rfl,ht,KZ⟩:=ho;exact⟨m-1,by omega,q+1,rfl,by omega,ht,KZ.up (by omega)⟩
 ·simp only[decide_eq_false_iff_not]at Iv;have:q=3:=by omega
  subst this;refine .ret (.ret ⟨zK hn MP (by omega) (by omega) ?_,ho.up (by omega)⟩);rw[Jo,show 2+p.1-1=1+p.1 by omega];exact hT
theorem yN[Inhabited DB]{c:AE}{k:Int}(h:BK c k)(hk:k<=4611686018427360000):BW (TE c) λp=>Eu p.1/\BK p.2 (k+60):=by
 unfold TE;refine(Z3 h (by omega)).bind λp ⟨hg,hc⟩=>(Fb 14 hc (by omega)).bind λq ⟨_,hd⟩=> ?_;have hS:=G5 hg;have AF:=Lz hg;have h4:p.1.aq.length<=4/\p.1.af.length<=3:=by have:=hg;unfold A4 at this;simp only[Ae,AN]at this;have:=D0.1 this.1.1.2.2;omega
 refine .ite (λ_=> ?_) λ_=> .ite (λ_=> ?_) λ_=> .ite (λ_=> ?_) λ_=> .ite (λ_=> ?_) λ_=> .ret ⟨⟨hS.name,hS.ew,hS.la,hS.idxs,hS.idx⟩,hd.up (by omega)⟩
 ·refine(Fx _ (by simp) hd (by omega)).bind λr ⟨hr,he⟩=> .ret ⟨⟨?_,hS.ew,hS.la,hS.idxs,hS.idx⟩,he.up (by omega)⟩;simp only[Ad,List.not_mem_nil,or_false]at hr;dsimp only;rcases hr with e|e|e<;>rw[e]<;>decide
 ·refine(Fx _ (by simp) hd (by omega)).bind λr ⟨hr,he⟩=> .req (by simp;omega) (.ret ⟨⟨hS.name,?_,λz hz=> ?_,hS.idxs,hS.idx⟩,he.up (by omega)⟩)
  ·dsimp only;rw[Ap,AL];omega
  ·dsimp only at hz;rcases Ag.1 hz with hz|hz
   ·exact hS.la z hz
   ·rw[List.mem_singleton.1 hz];simp only[Ad,List.not_mem_nil,or_false]at hr;rcases hr with e|e|e|e<;>rw[e]<;>decide
 ·refine .req ⟨by omega,by omega,by omega⟩ (.ret ⟨⟨hS.name,?_,λz hz=> ?_,hS.idxs,hS.idx⟩,hd.up (by omega)⟩)
  ·dsimp only;unfold Bg;rw[Dp,A1];omega
  ·dsimp only at hz;unfold Bg at hz;exact hS.la z (BM (Cd hz))
 ·refine(Fx _ (by simp) hd (by omega)).bind λr ⟨hr,he⟩=>(Fb 5 he (by omega)).bind λu ⟨_,hf⟩=>(Fb 5 hf (by omega)).bind λv ⟨_,pY⟩=> .req (by simp;omega) (.ret ⟨⟨hS.name,hS.ew,hS.la,?_,λz hz=> ?_⟩,pY.up (by omega)⟩)
  ·dsimp only;rw[Ap,AL];omega
  ·dsimp only at hz;rcases Ag.1 hz with hz|hz
   ·exact hS.idx z hz
   ·rw[List.mem_singleton.1 hz];simp only[Ad,List.not_mem_nil,or_false]at hr;dsimp only;rcases hr with e|e|e<;>rw[e]<;>decide
theorem Ns[Inhabited DB]{c:AE}{k:Int}{t:Ak}(hg:A4 t=true)(h:BK c k)(hk:k<=4611686018427380000):BW (Kn c t) λp=>BT t p.1=true/\BK p.2 (k+20):=by
 have S1:=Lz hg;have h4:t.aq.length<=4:=by have:=hg;unfold A4 at this;simp only[Ae,AN]at this;have:=D0.1 this.1.1.2.2;omega
 unfold Kn;refine(Fx _ (by simp) h (by omega)).bind λn ⟨hn,hc⟩=> ?_;have pV:field n.1=true:=by simp only[Ad,List.not_mem_nil,or_false]at hn;rcases hn with e|e|e|e|e|e<;>rw[e]<;>decide
 refine RE (λm s=>s.2.2.2.length+m=t.aq.length/\(∀x∈s.2.2.2,field x=true)/\BK ⟨s.1,s.2.1,s.2.2.1⟩ (k+2+4*s.2.2.2.length)) (λm s hI=> ?_) (n:=t.aq.length-1) ⟨by simp;omega,by simpa using pV,hc.up (by simp;omega)⟩;obtain⟨a,b,e,l⟩:=s;obtain⟨i1,i2,i3⟩:=hI;dsimp only at i1 i2 i3 ⊢;unfold eM;refine .ite (λAI=> ?_) λIv=> ?_
 ·simp only[AN]at AI;refine(Fx _ (by simp) i3 (by omega)).bind λx ⟨hx,hd⟩=> .req (by simp;omega) (.ret ⟨m-1,by omega,by simp;omega,λz hz=> ?_,?_⟩)
  ·dsimp only at hz;rcases Ag.1 hz with hz|hz
   ·exact i2 z hz
   ·rw[List.mem_singleton.1 hz];simp only[Ad,List.not_mem_nil,or_false]at hx;rcases hx with e|e|e|e|e<;>rw[e]<;>decide
  ·refine hd.up ?_;dsimp only;rw[Ap,AL];omega
 ·simp only[decide_eq_false_iff_not]at Iv;refine .ret (.ret ⟨?_,i3.up (by omega)⟩);unfold BT;rw[Ae,Ax];exact⟨by dsimp only;omega,A0.2 i2⟩
theorem Jb.set{l:List Am}{i:Nat}{s:Am}(h:Jb l)(hs:s.length<=10):Jb (l.set i s):=⟨by rw[List.length_set];exact h.len,λx hx=>by
 rcases List.mem_or_eq_of_mem_set hx with hx|rfl
 ·exact h.each x hx
 ·exact hs⟩
theorem zP[Inhabited DB]{c:AE}{k:Int}{t:Ak}(hg:A4 t=true)(h:BK c k)(hk:k<=4611686018427370000):BW (TA c t) λp=>Jb p.1.ae/\BK p.2 (k+40):=by
 unfold TA;refine(Ns hg h (by omega)).bind λr ⟨hr,hc⟩=>(Fb 10 hc (by omega)).bind λq ⟨_,hd⟩=> ?_;obtain⟨hs,h2⟩:=Lw hg hr;have h5:r.1.ae.length<=4:=by have:=hg;unfold A4 at this;simp only[Ae,AN]at this;have h1:=D0.1 this.1.1.2.2;have h3:=hr;unfold BT at h3;rw[Ae,Ax]at h3;omega
 refine .ite (λ_=> ?_) λ_=> .ite (λ_=> ?_) λ_=> .ite (λ_=> .ret ⟨⟨by simp,by simp⟩,hd.up (by omega)⟩) λ_=> .ret ⟨⟨hs.len,hs.each⟩,hd.up (by omega)⟩
 ·refine(Fb _ hd (by omega)).bind λu ⟨hu,he⟩=>(Fx _ (by simp) he (by omega)).bind λz ⟨hz,hf⟩=>BW.bind (P:=λ_=>True) (.getI hu.1 (hu.2.1 (by omega)) λ_ _=>trivial) λ_ _=> .ret ⟨hs.set ?_,hf.up (by omega)⟩;simp only[Ad,List.not_mem_nil,or_false]at hz;rcases hz with e|e|e|e<;>rw[e]<;>decide
 ·refine .req (by simp;omega) (.ret ⟨⟨by simp;omega,λx hx=> ?_⟩,hd.up (by omega)⟩);dsimp only at hx;rcases Ag.1 hx with hx|hx
  ·exact hs.each x hx
  ·rw[List.mem_singleton.1 hx];decide
theorem LY.mono{n m:Nat}{l:List Ai}(h:LY n l)(hm:n<=m):LY m l:=⟨h.dn,by have:=h.len;omega,h.gy⟩
theorem zyF[Inhabited DB]{c:AE}{k:Int}(h:BK c k)(hk:k<=4611686018427387000):BW (T5 c) λp=>DZ p.1=true/\BK p.2 (k+2):=by unfold T5;refine(Fx _ (by simp) h (by omega)).bind λp ⟨hp,hc⟩=> .ret ⟨?_,hc⟩;simp only[Ad,List.not_mem_nil,or_false]at hp;dsimp only;rcases hp with e|e|e|e|e|e|e|e<;>rw[e]<;>decide
theorem zyQ[Inhabited DB]{c:AE}{k:Int}(h:BK c k)(hk:k<=4611686018427387000):BW (T6 c) λp=>He p.1=true/\BK p.2 (k+2):=by unfold T6;refine(Fx _ (by simp) h (by omega)).bind λp ⟨hp,hc⟩=> .ret ⟨?_,hc⟩;simp only[Ad,List.not_mem_nil,or_false]at hp;dsimp only;rcases hp with e|e|e|e|e|e|e<;>rw[e]<;>decide
def L4(t:Ak)(l:List Ai):Nat:=(l.filter (D6 t)).length
theorem kH{t:Ak}{w:Ai}:∀l:List Ai,L4 t (Df wk w l)<=L4 t l+(if D6 t w=true then 1 else 0)
 | []=>by unfold L4;rw[Df,List.filter_cons];split<;>simp
 |z::l=>by
  have ih:=kH (t:=t) (w:=w) l;unfold L4 at ih ⊢;rw[Df];split
  ·rw[List.filter_cons];split<;>simp
  ·split
   ·rw[List.filter_cons,List.filter_cons];split<;>split<;>(try simp only[Ao])<;>omega
   ·rw[List.filter_cons,List.filter_cons];split<;>(try simp only[Ao])<;>omega
theorem zT{t:Ak}{x:Be}{r:Ac}(hg:A4 t=true)(hx:x∈t.af)(hr:BT t r=true)(l:List Ai):L4 t (Df wk ⟨De t x.ab x.a7 r,[],false⟩ l)<=L4 t l:=by
 have h:=kH (t:=t) (w:=⟨De t x.ab x.a7 r,[],false⟩) l;rw[if_neg (λCE=> ?_)]at h
 ·omega
 ·obtain⟨h1,h2⟩:=Nd CE;exact yY hg (LC hg hx).1 h1 hr (congrArg Ai.ah h2).symm
structure DV(n:Nat)(l:List Ai):Prop where
 ok:LY n l
 live:∀w∈l,w.bp=false
theorem DV.len{n:Nat}{l:List Ai}(h:DV n l):l.length<=n:=h.ok.len
theorem DV.dn{n:Nat}{l:List Ai}(h:DV n l):Jd l:=h.ok.dn
theorem DV.gy{n:Nat}{l:List Ai}(h:DV n l):∀w∈l,Ev w=true:=h.ok.gy
theorem DV.mono{n m:Nat}{l:List Ai}(h:DV n l)(hm:n<=m):DV m l:=⟨h.ok.mono hm,h.live⟩
theorem Y6{w y:Ai}:∀{l:List Ai},y∈Df wk w l->y=w\/y∈l
 | [],h=> .inl (by simpa[Df]using h)
 |z::l,h=>by
  rw[Df]at h;split at h
  ·rcases Ad.1 h with h|h
   ·exact .inl h
   ·exact .inr h
  ·split at h
   ·rcases Ad.1 h with h|h
    ·exact .inl h
    ·exact .inr (by simp[h])
   ·rcases Ad.1 h with h|h
    ·exact .inr (by simp[h])
    ·rcases Y6 h with h|h
     ·exact .inl h
     ·exact .inr (by simp[h])
theorem Sc{n:Nat}{ws:List Ai}{w:Ai}(h:DV n ws)(hw:Ev w=true)(hl:w.bp=false):DV (n+1) (Df wk w ws):=⟨zwy h.ok hw,λy hy=>by
 rcases Y6 hy with rfl|hy
 ·exact hl
 ·exact h.live y hy⟩
theorem zxM[Inhabited DB]{t:Ak}{q:Nat}{x:Be}{c:AE}{k:Int}{n m:Nat}{l:List Ai}(hg:A4 t=true)(hx:x∈t.af)(hq:q<=3)(hl:DV n l)(hm:L4 t l<=m)(hn:n<=1000)(h:BK c k)(hk:k<=4611686018427370000):
  BW (Ri t q x c.ar c.bz c.au l) λo=> ∃(c':AE) (l':List Ai),o= .inl (((q+1:Nat):Int),c'.ar,c'.bz,c'.au,l')/\DV (n+1) l'/\L4 t l'<=m/\BK c' (k+30):=by
 unfold Ri;have hlen:=hl.len;have w1:IntKind.i64.wrap ((q:Int)+1)=((q+1:Nat):Int):=by rw[Ch (by omega) (by omega)];omega
 refine(KO 5 (c:=⟨c.ar,c.bz,c.au⟩) h (by omega)).bind λp hp=> .ite (λ_=> ?_) λ_=> .ret ⟨p.2,l,by rw[w1],hl.mono (by omega),hm,hp.up (by omega)⟩;refine(Ns hg hp (by omega)).bind λr ⟨hr,hc⟩=> ?_;obtain⟨e1,e2⟩:=YT hg hx hr;rw[e1,Aa,Np (by omega) hl.dn,Aa];exact .ret ⟨r.2,_,by rw[w1],Sc hl e2 rfl,Nat.le_trans (zT hg hx hr l) hm,hc.up (by omega)⟩
def VY(q:Nat):Nat:=4+5*q
theorem zts{t:Ak}(h:A4 t=true):t.af.length<=3:=by unfold A4 at h;simp only[Ae,AN]at h;omega
structure Hg(l:List Ai):Prop where
 len:l.length<=100
 each:∀w∈l,Ge w
theorem Hg.small{l:List Ai}(h:Hg l):Ja l:=⟨by have:=h.len;omega,λw hw=>by have:=h.each w hw;unfold Ge at this;omega⟩
theorem gQ(w:Ai):∀(l:List Ai),(Df wk w l).length<=l.length+1
 | []=>by simp[Df]
 |z::l=>by
  rw[Df];split
  ·simp
  ·split
   ·simp
   ·have:=gQ w l;simp only[Ao];omega
theorem Hg.put{l:List Ai}{w:Ai}(h:Hg l)(hl:l.length<=99)(hw:Ge w):Hg (Df wk w l):=⟨by have:=gQ w l;omega,λy hy=>by
 rcases Y6 hy with rfl|hy
 ·exact hw
 ·exact h.each y hy⟩
theorem DV.l4{n:Nat}{l:List Ai}(h:DV n l)(hn:n<=100):Hg l:=⟨by have:=h.len;omega,λw hw=>Y9 (h.gy w hw)⟩
theorem LY.l4{n:Nat}{l:List Ai}(h:LY n l)(hn:n<=100):Hg l:=⟨by have:=h.len;omega,λw hw=>Y9 (h.gy w hw)⟩
structure Pu(a:Dd):Prop where
 old:Jb a.cq.ae
 new:Jb a.ct.ae
theorem Pu.small{a:Dd}(h:Pu a):VJ a:=⟨h.old.small,h.new.small⟩
theorem Vh:Jb []:=⟨by simp,by simp⟩
theorem ZC[Inhabited DB]{t:Ak}{c:AE}{k:Int}{v:List Am}(hg:A4 t=true)(hv:Jb v)(C6:2<=v.length)(h:BK c k)(hk:k<=4611686018427340000):BW (TS t c.ar c.bz c.au v) λp=>Pu p.1/\BK p.2 (k+30):=by
 unfold TS;refine(Fb 3 (c:=⟨c.ar,c.bz,c.au⟩) h (by omega)).bind λp ⟨_,hc⟩=> .ite (λ_=> ?_) λ_=> .ite (λ_=> .ret ⟨⟨hv,Vh⟩,hc.up (by omega)⟩) λ_=> ?_
 ·exact(Ns hg hc (by omega)).bind λr ⟨hr,hd⟩=> .ret ⟨⟨Vh,(Lw hg hr).1⟩,hd.up (by omega)⟩
 ·refine(Ns hg hc (by omega)).bind λr ⟨hr,hd⟩=> ?_;obtain⟨hs,h2⟩:=Lw hg hr;obtain⟨y,ey,hy,_⟩:=Pg (xs:=v) (i:=0) (by omega) (by omega);rw[ey,Aa];refine BW.bind (P:=λ_=>True) (.getI (by omega) (by omega) λ_ _=>trivial) λ_ _=> .ret ⟨⟨hv,hs.set (hv.each y hy)⟩,hd.up (by omega)⟩
theorem nG[Inhabited DB]{t:Ak}{l:List Ai}{c:AE}{k:Int}(hg:A4 t=true)(hl:Hg l)(h:BK c k)(hk:k<=4611686018427330000):BW (Rk c t l) λp=>Pu p.1/\BK p.2 (k+100):=by
 unfold Rk;have hS:=G5 hg;have hlen:=hl.len;rw[Vq hS.name (by omega) hl.each,Aa];have hR:=Ni t l;refine(Ns hg h (by omega)).bind λr ⟨hr,hc⟩=> .ite (λCK=> ?_) λ_=> ?_
 ·simp only[AN]at CK;refine(KO 4 hc (by omega)).bind λu hu=> ?_;unfold TR;refine .ite (λ_=> ?_) λ_=> ?_
  ·refine(Fb _ (c:=⟨u.2.ar,u.2.bz,u.2.au⟩) hu (by omega)).bind λi ⟨hi,hd⟩=> ?_;obtain⟨y,ey,hy,_⟩:=Pg (xs:=AS t l) hi.1 (hi.2.1 (by omega));rw[ey,Aa];obtain⟨hs,h2⟩:=Lw hg (M7 hy);exact(ZC hg hs h2 hd (by omega)).mono λp hp=>⟨hp.1,hp.2.up (by omega)⟩
  ·obtain⟨hs,h2⟩:=Lw hg hr;exact(ZC hg hs h2 hu (by omega)).mono λp hp=>⟨hp.1,hp.2.up (by omega)⟩
 ·unfold TR;refine .ite (λhh=>by cases hh) λ_=> ?_;obtain⟨hs,h2⟩:=Lw hg hr;exact(ZC hg hs h2 hc (by omega)).mono λp hp=>⟨hp.1,hp.2.up (by omega)⟩
abbrev zzU:Dd:=⟨0,⟨[]⟩,⟨[]⟩⟩
structure LI(s:B0):Prop where
 act:VJ s.cm
 idx:s.ay.length<=2000000
 low:s.bw.length<=2000000
 high:s.a8.length<=2000000
def JH(a:Dd):Bool:=((a.aw==0)&&((a.cq.ae.length:Int)==0))&&((a.ct.ae.length:Int)==0)
def Gb(t:Ak)(s:B0):Bool:=
 if s.aw=1 then((Sh t s.cm&&(s.ay==[]))&&(s.bw==[]))&&(s.a8==[])else
 if s.aw=2 then JH s.cm&&((s.ay==[])&&(field s.bw&&(s.a8==[])))else
 if s.aw=3 then JH s.cm&&(decide (Co (λx:Be=>x.ab==s.ay) t.af>=0)&&(field s.bw&&field s.a8))else false
theorem zuH{t:Ak}{s:B0}(hc:1<=t.aq.length)(hT:Eu t)(h:LI s):Ul t s=some (Gb t s):=by
 unfold Ul Uw Gb;by_cases k1:s.aw=1
 ·rw[if_pos (by simpa using k1),zO hc h.act,Aa,if_pos k1]
 rw[if_neg (by simpa using k1),if_neg k1];by_cases k2:s.aw=2
 ·rw[if_pos (by simpa using k2),if_pos k2,Aa,Jz h.low,Aa];show(if JH s.cm=true then _ else _)=_;cases JH s.cm<;>cases(s.ay==([]:Am))<;>rfl
 rw[if_neg (by simpa using k2),if_neg k2];by_cases k3:s.aw=3
 ·rw[if_pos (by simpa using k3),if_pos k3,Aa,aW hT,Aa,Jz h.low,Aa,Jz h.high,Aa];show(if JH s.cm=true then _ else _)=_;cases JH s.cm<;>cases decide (Co (λx:Be=>x.ab==s.ay) t.af>=0)<;>cases field s.bw<;>rfl
 rw[if_neg (by simpa using k3),if_neg k3]
theorem zu7{t:Ak}{s:B0}(hc:1<=t.aq.length)(hT:Eu t)(h:LI s):TL t s=some (Gb t s):=by
 unfold TL UD Gb;by_cases k1:s.aw=1
 ·rw[if_pos (by simpa using k1),zS hc h.act,Aa,if_pos k1]
 rw[if_neg (by simpa using k1),if_neg k1];by_cases k2:s.aw=2
 ·rw[if_pos (by simpa using k2),if_pos k2,Aa,I5 h.low,Aa];show(if JH s.cm=true then _ else _)=_;cases JH s.cm<;>cases(s.ay==([]:Am))<;>rfl
 rw[if_neg (by simpa using k2),if_neg k2];by_cases k3:s.aw=3
 ·rw[if_pos (by simpa using k3),if_pos k3,Aa,VE hT,Aa,I5 h.low,Aa,I5 h.high,Aa];show(if JH s.cm=true then _ else _)=_;cases JH s.cm<;>cases decide (Co (λx:Be=>x.ab==s.ay) t.af>=0)<;>cases field s.bw<;>rfl
 rw[if_neg (by simpa using k3),if_neg k3]
theorem yZ{t:Ak}{s:B0}(hT:Eu t)(h:LI s):Uq t s=some (A4 t&&Gb t s):=by
 unfold Uq;rw[ZN hT,Aa];cases hg:A4 t with
 |false=>rfl
 |true=>rw[if_pos rfl,zuH (by have:=Lz hg;omega) hT h,Aa];rfl
theorem zD{t:Ak}{s:B0}(hT:Eu t)(h:LI s):Uv t s=some (A4 t&&Gb t s):=by
 unfold Uv;rw[Z6 hT,Aa];cases hg:A4 t with
 |false=>rfl
 |true=>rw[if_pos rfl,zu7 (by have:=Lz hg;omega) hT h,Aa];rfl
structure Pk(s:B0):Prop where
 act:Pu s.cm
 idx:s.ay.length<=10
 low:s.bw.length<=10
 high:s.a8.length<=10
theorem Pk.small{s:B0}(h:Pk s):LI s:=⟨h.act.small,by have:=h.idx;omega,by have:=h.low;omega,by have:=h.high;omega⟩
theorem zyb[Inhabited DB]{t:Ak}{l:List Ai}{c:AE}{k:Int}(hg:A4 t=true)(hl:Hg l)(h:BK c k)(hk:k<=4611686018427320000):BW (TO c t l) λp=>Pk p.1/\BK p.2 (k+200):=by
 have b0:Pu zzU:=⟨Vh,Vh⟩
 unfold TO;refine(Fb 4 h (by omega)).bind λp ⟨_,hc⟩=> .ite (λ_=> ?_) λ_=> .ite (λ_=> .ite (λCK=> ?_) λ_=> ?_) λ_=> ?_
 ·refine(Fx _ (by simp) hc (by omega)).bind λq ⟨hq,hd⟩=> .ret ⟨⟨b0,by simp,?_,by simp⟩,hd.up (by omega)⟩;simp only[Ad,List.not_mem_nil,or_false]at hq;show q.1.length<=10;rcases hq with e|e|e|e|e<;>rw[e]<;>simp
 ·simp only[AN]at CK;refine(Fb _ hc (by omega)).bind λq ⟨hq,hd⟩=> ?_;have q2:=hq.2.1 (by omega);refine BW.bind (P:=λx:Be=>x.ab.length<=10) (.getI hq.1 q2 λx hx=> ?_) λx hx=> ?_
  ·have:=(LC hg hx).1;unfold CO at this;rw[Ae]at this;have:=D0.1 this.2;omega
  refine(Fx _ (by simp) hd (by omega)).bind λu ⟨hu,he⟩=>(Fx _ (by simp) he (by omega)).bind λv ⟨hv,hf⟩=> .ret ⟨⟨b0,hx,?_,?_⟩,hf.up (by omega)⟩
  ·simp only[Ad,List.not_mem_nil,or_false]at hu;show u.1.length<=10;rcases hu with e|e|e<;>rw[e]<;>simp
  ·simp only[Ad,List.not_mem_nil,or_false]at hv;show v.1.length<=10;rcases hv with e|e|e<;>rw[e]<;>simp
 ·exact(nG hg hl (c:=⟨p.2.ar,p.2.bz,p.2.au⟩) hc (by omega)).bind λq ⟨hq,hd⟩=> .ret ⟨⟨hq,by simp,by simp,by simp⟩,hd.up (by omega)⟩
 ·exact(nG hg hl (c:=⟨p.2.ar,p.2.bz,p.2.au⟩) hc (by omega)).bind λq ⟨hq,hd⟩=> .ret ⟨⟨hq,by simp,by simp,by simp⟩,hd.up (by omega)⟩
theorem yW[Inhabited DB]{t:Ak}{l:List Ai}{c:AE}{k:Int}(hg:A4 t=true)(hl:Hg l)(h:BK c k)(hk:k<=4611686018427310000):BW (TH c t l) λp=>Pk p.1/\BK p.2 (k+300):=by
 unfold TH;refine(zyb hg hl h (by omega)).bind λs ⟨hs,hc⟩=>(Fb 12 hc (by omega)).bind λp ⟨_,hd⟩=> .ite (λ_=> ?_) λ_=> .ite (λ_=> ?_) λ_=> .ite (λ_=> ?_) λ_=> .ite (λ_=> ?_) λ_=> .ret ⟨⟨hs.act,hs.idx,hs.low,hs.high⟩,hd.up (by omega)⟩
 ·exact(Fb 5 hd (by omega)).bind λq ⟨_,he⟩=> .ret ⟨⟨hs.act,hs.idx,hs.low,hs.high⟩,he.up (by omega)⟩
 ·refine(Fx _ (by simp) hd (by omega)).bind λq ⟨hq,he⟩=> .ret ⟨⟨hs.act,hs.idx,?_,hs.high⟩,he.up (by omega)⟩;simp only[Ad,List.not_mem_nil,or_false]at hq;show q.1.length<=10;rcases hq with e|e|e<;>rw[e]<;>simp
 ·refine(Fx _ (by simp) hd (by omega)).bind λq ⟨hq,he⟩=> .ret ⟨⟨hs.act,?_,hs.low,hs.high⟩,he.up (by omega)⟩;simp only[Ad,List.not_mem_nil,or_false]at hq;show q.1.length<=10;rcases hq with e|e<;>rw[e]<;>simp
 ·exact(zP hg hd (by omega)).bind λq ⟨hq,he⟩=> .ret ⟨⟨⟨hs.act.old,hq⟩,hs.idx,hs.low,hs.high⟩,he.up (by omega)⟩
theorem zvg{t:Ak}{y:Be}(hg:A4 t=true)(hy:t.af[0]?=some y):A4 ⟨t.ab,t.aq,t.af.set 0 {y with bf:=3}⟩=true:=by
 unfold A4 at hg ⊢;simp only[Ae,AN,A0,List.mem_range]at hg ⊢;refine⟨⟨hg.1.1,by simpa using hg.1.2⟩,λi hi=> ?_⟩;have Fm:i<t.af.length:=by simpa using hi
 have h1:=hg.2 i Fm;have nm:∀j:Nat,((((t.af.set 0 {y with bf:=3})[j]?).getD ⟨[],0,0⟩).ab=((t.af[j]?).getD ⟨[],0,0⟩).ab)/\((((t.af.set 0 {y with bf:=3})[j]?).getD ⟨[],0,0⟩).a7=((t.af[j]?).getD ⟨[],0,0⟩).a7)/\(0<=((t.af[j]?).getD ⟨[],0,0⟩).bf->((t.af[j]?).getD ⟨[],0,0⟩).bf<=3->0<=(((t.af.set 0 {y with bf:=3})[j]?).getD ⟨[],0,0⟩).bf/\(((t.af.set 0 {y with bf:=3})[j]?).getD ⟨[],0,0⟩).bf<=3):=by
  intro j;cases j with
  |zero=>
   have h0:0<t.af.length:=by
    rcases Nat.eq_zero_or_pos t.af.length with h|h
    ·rw[List.length_eq_zero_iff.1 h]at hy;simp at hy
    ·exact h
   have e:(t.af.set 0 {y with bf:=3})[0]?=some {y with bf:=3}:=by simp[h0]
   rw[e,hy];simp
  |succ j=>
   have e:(t.af.set 0 {y with bf:=3})[j+1]?=t.af[j+1]?:=by simp
   rw[e];exact⟨rfl,rfl,λa b=>⟨a,b⟩⟩
 unfold GG at h1 ⊢;simp only[Ae]at h1 ⊢;have hs:=D0.1 h1.1.2;refine⟨⟨⟨?_,?_⟩,D0.2 ((nm i).2.2 hs.1 hs.2)⟩,?_⟩
 ·rw[(nm i).1];exact h1.1.1.1
 ·rw[(nm i).2.1];exact h1.1.1.2
 ·rw[(nm i).1,(nm (i-1)).1];exact h1.2
end
section
open Go.RowKit Go.Sort
set_option maxRecDepth 100000
set_option maxHeartbeats 1000000
theorem gI{c:UInt8}{s x y:Am}{r:List Am}(h:BE c s=x::y::r):∃q,s=x++c::q/\(∀b∈x,b≠c)/\BE c q=y::r:=by
 rcases OJ s c with⟨_,h0⟩|⟨p,q,rfl,hp,_⟩
 ·rw[Jt h0]at h;simp at h
 ·rw[I0 hp]at h;obtain⟨e1,h2⟩:=List.cons.inj h;rw[e1]at hp ⊢;exact⟨q,rfl,hp,h2⟩
theorem gK{c:UInt8}{s z:Am}(h:BE c s=[z]):s=z:=by
 rcases OJ s c with⟨_,h0⟩|⟨p,q,rfl,hp,_⟩
 ·rw[Jt h0]at h;exact(List.cons.inj h).1
 ·rw[I0 hp]at h;exact absurd (List.cons.inj h).2 (Vf c q)
def D7(k:Am):Bf:=match BE 47 k with
 | [_,y,z]=>⟨y,z⟩
 |_=>⟨[],[]⟩
theorem gC{t:Ak}{n k:Am}(he:Fc t n k=true):∃y z,BE 47 k=[head t n,y,z]/\field y=true/\field z=true:=by
 unfold Fc at he;split at he
 ·rename_i x y z hs;simp only[Ae,Ax]at he;exact⟨y,z,by rw[hs,he.1.1],he.1.2,he.2⟩
 ·cases he
theorem zxL{t:Ak}{n k:Am}(ht:t.ab.length<=2000000)(hn:n.length<=2000000)(hk:k.length<=1000000)(he:Fc t n k=true):MY t n k=some ((D7 k).bb,(D7 k).al,true):=by
 obtain⟨y,z,hs,hy,hz⟩:=gC he;have IK:=gR (c:=47) hk;rw[hs]at IK;have ly:=IK.each y (by simp);have lz:=IK.each z (by simp);have e:Lv k 47=some (BE 47 k):=Z9 (c:=47) (by omega);have ep:D7 k=⟨y,z⟩:=by unfold D7;rw[hs]
 unfold MY;rw[e,Aa,hs,ep,if_neg (by simp),show getI [head t n,y,z] 0=some (head t n)from rfl,Aa,A7 (by rw[AL];omega),A7 (by rw[Ap,AL];omega),show(t.ab++ [46]++n)=head t n from rfl,if_neg (by simp),show getI [head t n,y,z] 1=some y from rfl,Aa,Jz ly,Aa,hy,if_pos rfl,show getI [head t n,y,z] 2=some z from rfl,Aa,Jz lz,Aa,hz,if_neg (by simp)]
theorem zx3{t:Ak}{n k:Am}(ht:t.ab.length<=2000000)(hn:n.length<=2000000)(hk:k.length<=1000000)(he:Fc t n k=true):MW t n k=some ((D7 k).bb,(D7 k).al,true):=by
 obtain⟨y,z,hs,hy,hz⟩:=gC he;obtain⟨q,hq,_,AY⟩:=gI hs;obtain⟨q2,FA,hy2,G0⟩:=gI AY;rw[gK G0]at FA;have ep:D7 k=⟨y,z⟩:=by unfold D7;rw[hs]
 have HW:(head t n++ [47])++q=k:=by rw[hq];simp
 have hp:(head t n++ [47]).isPrefixOf k=true:=List.isPrefixOf_iff_prefix.2 ⟨q,HW⟩;have hd:k.drop (head t n++ [47]).length=q:=by rw[<-HW,List.drop_left]
 have lq:q.length<=1000000:=by have:=congrArg List.length HW;rw[Ap]at this;omega
 have ly:y.length<=1000000/\z.length<=1000000:=by have:=congrArg List.length FA;rw[Ap,Ao]at this;omega
 rw[ep];unfold MW;rw[aQ ht hn,Aa,bL (by omega),Aa,if_pos hp];dsimp only;rw[hd];rcases bD (x:=q) (c:=47) (by omega)with⟨_,h0⟩|⟨p,q',e1,NS,e2⟩
 ·rw[FA]at h0;exact absurd rfl (h0 47 (by simp))
 ·have e3:BE 47 q=p::BE 47 q':=by rw[e1,I0 NS]
  rw[AY]at e3;obtain⟨e6,e4⟩:=List.cons.inj e3;have e5:q'=z:=gK e4.symm;rw[e2,Aa];dsimp only;rw[e5,<-e6,if_pos rfl,if_pos rfl,I5 (s:=y) (by omega),Aa,hy,if_pos rfl,I5 (s:=z) (by omega),Aa,hz,if_neg (by simp)]
def Ff(t:Ak)(l:List Ai)(k:Am):List Ac:=(AS t l).filter λr=>Aj r 0==k
theorem kG{t:Ak}{l:List Ai}(hg:A4 t=true)(hl:Dg l=true)(k:Am):Rn t l k=some (Ff t l k):=by
 have hlen:=(Jx hl).1.len;have BS:=Nk (t:=t) (Hc hl);have Tg:=Ni t l;have hc:=Lz hg;unfold Rn;rw[Vq (G5 hg).name (by omega) (Hc hl),Aa];have h1:=G6 (xs:=AS t l) (body:=λs:List Ac × Int=>Oh k (AS t l) s.1 s.2) (λi (o:List Ac)=>(o,i)) (λo r=>if(Aj r 0==k)=true then o++ [id r]else o) (λo=>some o) (λi o=>o.length<=i)
  (λi hi o hI=>by
   have hI:o.length<=i:=hI;have hw:=CG hi (by omega:(AS t l).length<=_);refine⟨?_,by
    show List.length (if(Aj (AS t l)[i] 0==k)=true then o++ [id (AS t l)[i]]else o)<=i+1;split
    ·rw[Ap,AL];omega
    ·omega⟩
   show Oh k (AS t l) o i=_;unfold Oh;rw[if_pos (by simpa using hi),BZ hi,Aa,Po (by omega) (BS _ (Bu hi)),Aa,hw];cases hb:(Aj (AS t l)[i] 0==k)with
   |false=>rfl
   |true=>rw[if_pos rfl,A7 (by rw[AL];omega),if_pos rfl];rfl)
  (λo _=>by show Oh k (AS t l) o (AS t l).length=_;unfold Oh;rw[if_neg (by simp)]) (s:=[]) (by simp)
 rw[OW (λr:Ac=>Aj r 0==k) id]at h1;refine h1.1.trans ?_;simp[Ff]
theorem O7{t:Ak}{l:List Ai}(hl:Dg l=true)(k:Am):(Ff t l k).length<=1:=by
 have hr:=(Jx hl).1.dn;have h1:(AS t l).Pairwise λa b=>Aj a 0≠Aj b 0:=by unfold AS;rw[List.pairwise_map];refine List.Pairwise.imp_of_mem (R:=λa b:Ai=>bl a.ah b.ah=true) (λ{a b} ha hb GO e=> ?_) (EG.filter hr _);have ea:=(Nd (List.mem_filter.1 ha).2).2;have eb:=(Nd (List.mem_filter.1 hb).2).2;refine GH GO ?_;rw[ea,eb,O1,O1,e]
 unfold Ff;have h2:=h1.filter (λr=>Aj r 0==k);have h3:∀r∈(AS t l).filter (λr=>Aj r 0==k),Aj r 0=k:=λr hr=>by simpa using(List.mem_filter.1 hr).2
 generalize (AS t l).filter (λr=>Aj r 0==k)=zs at h2 h3
 match zs,h2,h3 with
 | [],_,_=>simp
 | [_],_,_=>simp
 |a::b::r,h2,h3=>exact absurd ((h3 a (by simp)).trans (h3 b (by simp)).symm) ((List.pairwise_cons.1 h2).1 b (by simp))
theorem iV{t:Ak}{l:List Ai}{k:Am}{r:Ac}(h:r∈Ff t l k):BT t r=true:=M7 (List.mem_filter.1 h).1
theorem iT{α:Type}(p:α->Bool):∀xs:List α,(Co p xs= -1/\xs.filter p=[])\/ ∃(n:Nat) (h:n<xs.length),Co p xs=n/\ ∃r,xs.filter p=xs[n]::r
 | []=> .inl ⟨rfl,rfl⟩
 |x::xs=>by
  rw[RS,List.filter_cons];by_cases hp:p x=true
  ·rw[if_pos hp,if_pos hp];exact .inr ⟨0,by simp,rfl,_,rfl⟩
  ·rw[if_neg hp,if_neg hp];rcases iT p xs with⟨h1,h2⟩|⟨n,hn,h1,r,h2⟩
   ·exact .inl ⟨by rw[if_pos h1],h2⟩
   ·exact .inr ⟨n+1,by simp;omega,by rw[if_neg (by omega),h1];omega,r,by rw[h2];simp⟩
theorem kK{t:Ak}{l:List Ai}(hg:A4 t=true)(hl:Dg l=true)(k:Am):∃p,Q9 t l k=some p/\(p.2=true->Ff t l k=[p.1])/\(p.2=false->Ff t l k=[]):=by
 have hlen:=(Jx hl).1.len;have BS:=Nk (t:=t) (Hc hl);have Tg:=Ni t l;have hc:=Lz hg;have h1:=O7 (t:=t) hl k;unfold Q9;rw[Z8 (M6 (H4 hg)) (by omega) (Hc hl),Aa,fP (λr=>Aj r 0==k) (λr hr=>by unfold XZ;rw[Po (by omega) (BS r hr)];rfl) (by omega),Aa]
 rcases iT (λr:Ac=>Aj r 0==k) (AS t l)with⟨e1,e2⟩|⟨n,hn,e1,r,e2⟩
 ·rw[e1,if_pos (by decide)];exact⟨_,rfl,(λh=>by cases h),λ_=>e2⟩
 ·rw[e1,if_neg (by simp),BZ hn,Aa];refine⟨_,rfl,λ_=> ?_,(λh=>by cases h)⟩;show(AS t l).filter _=_;have h1:((AS t l).filter λr=>Aj r 0==k).length<=1:=h1;rw[e2]at h1 ⊢
  match r,h1 with
  | [],_=>rfl
  |_::_,h1=>simp at h1
theorem jR{a b:Bf}(h:Ct a b=true):Ct b a=false:=by
 cases hb:Ct b a
 ·rfl
 ·have:=O6 h hb;rw[OV]at this;cases this
def HD(a b:Bf):Prop:=Ct b a=false
theorem zvs{a b c:Bf}(h1:HD a b)(h2:HD b c):HD a c:=by
 unfold HD at*;cases h:Ct c a
 ·rfl
 ·rcases R7 a b with k|k|k
  ·have:=O6 h k;rw[h2]at this;cases this
  ·rw[h1]at k;cases k
  ·subst k;rw[h2]at h;cases h
def EU:List Bf->Bf->List Bf->List Bf
 | [],x,B=>x::B
 |a::Ar,x,B=>if Ct x a=true then EU Ar x (a::B)else(a::Ar).reverse++x::B
theorem jK:∀(Ar:List Bf) (x:Bf) (B:List Bf),(Ar.reverse++B).Pairwise HD->(∀b∈B,Ct x b=true)->(EU Ar x B).Pairwise HD/\(EU Ar x B).Perm (x::(Ar.reverse++B))
 | [],x,B,h,hx=>⟨List.pairwise_cons.2 ⟨λb hb=>jR (hx b hb),by simpa using h⟩,by simp[EU]⟩
 |a::Ar,x,B,h,hx=>by
  rw[EU];by_cases hb:Ct x a=true
  ·rw[if_pos hb];obtain⟨p,q⟩:=jK Ar x (a::B) (by simpa using h) λb hm=>by
    rcases Ad.1 hm with rfl|hm
    ·exact hb
    ·exact hx b hm
   exact⟨p,by simpa using q⟩
  ·rw[if_neg hb];refine⟨?_,List.perm_middle⟩;rw[Bool.not_eq_true]at hb;rw[List.pairwise_append]at h ⊢;obtain⟨h1,h2,h3⟩:=h;refine⟨h1,List.pairwise_cons.2 ⟨λb hm=>jR (hx b hm),h2⟩,λy hy z hz=> ?_⟩;rcases Ad.1 hz with rfl|hz
   ·rw[List.reverse_cons,List.pairwise_append]at h1;rw[List.reverse_cons,Ag,List.mem_singleton]at hy;rcases hy with hy|rfl
    ·exact zvs (h1.2.2 y hy a (by simp)) hb
    ·exact hb
   ·exact h3 y hy z hz
def CY(xs:List Bf):List Bf:=xs.foldl (λS x=>EU S.reverse x []) []
theorem OP:∀(xs S:List Bf),S.Pairwise HD->(xs.foldl (λS x=>EU S.reverse x []) S).Pairwise HD/\(xs.foldl (λS x=>EU S.reverse x []) S).Perm (xs++S)
 | [],S,h=>⟨h,List.Perm.refl _⟩
 |x::xs,S,h=>by
  obtain⟨p,q⟩:=jK S.reverse x [] (by simpa using h) (by simp);obtain⟨r,s⟩:=OP xs _ p;refine⟨r,s.trans ?_⟩;have q':(EU S.reverse x []).Perm (x::S):=by simpa using q
  exact(List.Perm.append_left xs q').trans List.perm_middle
theorem gO:∀{a b:List Bf},a.Pairwise HD->b.Pairwise HD->a.Perm b->a=b
 | [],b,_,_,h=>by rw[h.nil_eq]
 |x::a,[],_,_,h=>by have:=h.length_eq;simp at this
 |x::a,y::b,ha,hb,h=>by
  have NP:=List.pairwise_cons.1 ha;have BF:=List.pairwise_cons.1 hb;have e:x=y:=by
   rcases Ad.1 (h.mem_iff.1 (List.mem_cons_self ..))with h1|h1
   ·exact h1
   ·rcases Ad.1 (h.mem_iff.2 (List.mem_cons_self ..))with h2|h2
    ·exact h2.symm
    ·have k1:Ct y x=false:=NP.1 y h2;have k2:Ct x y=false:=BF.1 x h1;rcases R7 x y with k|k|k
     ·rw[k2]at k;cases k
     ·rw[k1]at k;cases k
     ·exact k
  subst e;rw[gO NP.2 BF.2 (List.Perm.cons_inv h)]
theorem gB(l:List Bf):(Fh l.toArray).toList.Pairwise HD/\(Fh l.toArray).toList.Perm l:=by
 obtain⟨h1,h2,h3⟩:=jO l.toArray;have hp:(Fh l.toArray).toList.Perm l:=by simpa using h1
 refine⟨?_,hp⟩;rw[List.pairwise_iff_getElem];intro i j hi hj cX;have hs:(Fh l.toArray).size=l.length:=by simpa using h2
 have Fm:i<(Fh l.toArray).size:=by simpa using hi
 have IB:j<(Fh l.toArray).size:=by simpa using hj
 have:=h3 i j (Nat.zero_le _) cX (by simpa[hs]using IB);rw[Vk,getElem!_pos _ j IB,getElem!_pos _ i Fm]at this;show Ct _ _=false;simpa only[Array.getElem_toList]using this
theorem xM(p:Bf->Bool)(l:List Bf):(CY l).filter p=(Fh (l.filter p).toArray).toList:=by
 obtain⟨h1,h2⟩:=OP l [] List.Pairwise.nil;obtain⟨h3,h4⟩:=gB (l.filter p);have h2:(CY l).Perm l:=by simpa[CY]using h2
 exact gO (List.Pairwise.filter p h1) h3 ((h2.filter p).trans h4.symm)
def B7(e:Bf):Ac:=⟨[e.al,e.bb]⟩
theorem lM(a b:Bf):Kr (B7 a) (B7 b) 1=some (Ct a b):=by
 unfold Kr Ct;rw[show getI (B7 a).ae 1=some a.bb from rfl,show getI (B7 b).ae 1=some b.bb from rfl,show getI (B7 a).ae 0=some a.al from rfl,show getI (B7 b).ae 0=some b.al from rfl];simp only[Aa];by_cases h:a.bb=b.bb
 ·rw[if_neg (by simp[h]),if_neg (by simpa using h)]
 ·rw[if_pos (by simpa using h),if_pos h]
theorem Nh{α:Type}{A B:List α}{x:α}{n:Nat}(h:A.length=n):getI (A++x::B) (n:Int)=some x:=by subst h;rw[BZ (by simp)];simp
theorem lP{α:Type}:∀(A:List α) (x y:α) (B:List α),(A++x::B).set A.length y=A++y::B
 | [],_,_,_=>rfl
 |a::A,x,y,B=>by show a::(A++x::B).set A.length y=_;rw[lP A];rfl
theorem Pd{α:Type}{A B:List α}{x y:α}{n:Nat}(h:A.length=n):(A++x::B).set ((n:Int)).toNat y=A++y::B:=by subst h;rw[FY];exact lP A x y B
theorem nF(v3:Int):∀(Ar:List Bf) (x:Bf) (B:List Bf) (j:Ac),Ar.length<=1000->AX (λs:Int × List Ac=>Ko v3 (x.bb,x.al,true) s.1 s.2) ((Ar.length:Int),Ar.reverse.map B7++j::B.map B7)=some (.inl ((EU Ar x B).map B7,IntKind.i64.wrap (v3+1)))
 | [],x,B,j,_=>by refine H5 (o:=some (Sum.inl ((EU [] x B).map B7,IntKind.i64.wrap (v3+1)):(List Ac × Int) ⊕ Option (List Ac))) ?_;show Ko v3 (x.bb,x.al,true) 0 (j::B.map B7)=_;unfold Ko TX;rw[if_neg (by simp)];rfl
 |a::Ar,x,B,j,h=>by
  rw[Ao]at h;have hL:(a::Ar).reverse.map B7++j::B.map B7=Ar.reverse.map B7++B7 a::(j::B.map B7):=by simp
  have w:IntKind.i64.wrap ((((a::Ar).length:Nat):Int)-1)=(Ar.length:Int):=by rw[Ao,Ch (by omega) (by omega)];omega
  have g1:getI ((a::Ar).reverse.map B7++j::B.map B7) (Ar.length:Int)=some (B7 a):=by rw[hL];exact Nh (by simp)
  have g2:getI ((a::Ar).reverse.map B7++j::B.map B7) (((a::Ar).length:Nat):Int)=some j:=Nh (by simp);have CK:decide ((((a::Ar).length:Nat):Int)>0)=true:=by rw[Ao];simp
  by_cases hb:Ct x a=true
  ·have e:Ko v3 (x.bb,x.al,true) (((a::Ar).length:Nat):Int) ((a::Ar).reverse.map B7++j::B.map B7)=some (.inl ((Ar.length:Int),Ar.reverse.map B7++B7 a::(a::B).map B7)):=by
    unfold Ko;rw[if_pos CK,w,g1,Aa,show Kr (⟨[(x.bb,x.al,true).2.1,(x.bb,x.al,true).1]⟩:Ac) (B7 a) 1=some (Ct x a)from lM x a,Aa,hb,if_pos rfl,g2,Aa,Pd (by simp)];simp
   rw[O0 (body:=λs:Int × List Ac=>Ko v3 (x.bb,x.al,true) s.1 s.2) e,nF v3 Ar x (a::B) (B7 a) (by omega),EU,if_pos hb]
  ·refine H5 (o:=some (Sum.inl ((EU (a::Ar) x B).map B7,IntKind.i64.wrap (v3+1)):(List Ac × Int) ⊕ Option (List Ac))) ?_;show Ko v3 (x.bb,x.al,true) (((a::Ar).length:Nat):Int) ((a::Ar).reverse.map B7++j::B.map B7)=_;unfold Ko TX;rw[if_pos CK,w,g1,Aa,show Kr (⟨[(x.bb,x.al,true).2.1,(x.bb,x.al,true).1]⟩:Ac) (B7 a) 1=some (Ct x a)from lM x a,Aa,if_neg hb,g2,Aa,Pd (by simp),EU,if_neg hb];simp[B7]
def C1(t:Ak)(n:Am)(l:List Ai):List Bf:=(CP t n l).map D7
theorem lA:∀(Ar:List Bf) (x:Bf) (B:List Bf),(EU Ar x B).length=Ar.length+1+B.length
 | [],x,B=>by simp[EU];omega
 |a::Ar,x,B=>by
  rw[EU];split
  ·rw[lA Ar x (a::B),Ao,Ao];omega
  ·simp;omega
theorem fZ{t:Ak}{n k:Am}{l:List Ai}(hl:Dg l=true)(h:k∈CP t n l):Fc t n k=true/\k.length<=1000:=by obtain⟨w,hw,rfl⟩:=List.mem_map.1 h;obtain⟨h1,h2⟩:=List.mem_filter.1 hw;exact⟨h2,(Hc hl w h1).1⟩
theorem zvF{t:Ak}{n:Am}{l:List Ai}(hg:A4 t=true)(hn:n.length<=2000000)(hl:Dg l=true):T8 t n l=some ((CY (C1 t n l)).map B7):=by
 have hlen:=(Jx hl).1.len;have Ba:=UY t n l;have ht:=(G5 hg).name;unfold T8;rw[zR ht hn (by omega) (Hc hl),Aa];have h1:=G6 (xs:=CP t n l) (body:=λs:List Ac × Int=>Oj t n (CP t n l) s.1 s.2) (λi (S:List Bf)=>(S.map B7,i)) (λS k=>EU S.reverse (D7 k) []) (λS=>some (S.map B7)) (λi S=>S.length=i)
  (λi hi S hI=>by
   have hI:S.length=i:=hI;have hw:=CG hi (by omega:(CP t n l).length<=_);obtain⟨he,hk⟩:=fZ hl (Bu hi);refine⟨?_,by show(EU S.reverse _ []).length=i+1;rw[lA,List.length_reverse,List.length_nil];omega⟩
   show Oj t n (CP t n l) (S.map B7) i=_;unfold Oj;rw[if_pos (by simpa using hi),BZ hi,Aa,zxL ht hn (by omega) he,Aa,A7 (by rw[AL,List.length_map];omega)];have:=nF (i:Int) S.reverse (D7 (CP t n l)[i]) [] (B7 (D7 (CP t n l)[i])) (by rw[List.length_reverse];omega);rw[List.length_reverse,List.reverse_reverse,hw]at this;rw[List.length_map];exact this)
  (λS _=>by show Oj t n (CP t n l) (S.map B7) (CP t n l).length=_;unfold Oj;rw[if_neg (by simp)]) (s:=[]) (by simp)
 refine h1.1.trans ?_;unfold CY C1;rw[List.foldl_map]
def EB(s:B0)(e:Bf):Bool:=(!bl e.bb s.bw)&&(bl e.bb s.a8||e.bb==s.a8)
def LS(t:Ak)(l:List Ai)(s:B0):List Ac:=((CY (C1 t s.ay l)).filter (EB s)).flatMap λe=>Ff t l e.al
def Pz(t:Ak)(n:Am):Bool:=match getI t.af (Co (λx:Be=>x.ab==n) t.af)with|some x=>x.bf==3|none=>false
def Ji(t:Ak)(l:List Ai)(s:B0):List Ac × Bool:=
 if s.aw=2 then(Ff t l s.bw,true)else
 if s.aw≠3 then([],false)else
 if Pz t s.ay=true then(LS t l s,true)else([],false)
theorem ZB{α β:Type}(p:α->Bool)(f:α->List β):∀(xs:List α) (o:List β),xs.foldl (λo x=>if p x=true then o++f x else o) o=o++(xs.filter p).flatMap f
 | [],o=>by simp
 |x::xs,o=>by rw[List.foldl_cons,ZB p f xs,List.filter_cons];cases p x<;>simp
theorem zta{t:Ak}(h:A4 t=true){x:Be}(hx:x∈t.af):0<=x.bf/\x.bf<=3:=by unfold A4 at h;simp only[Ae]at h;obtain⟨i,hi,rfl⟩:=List.mem_iff_getElem.1 hx;have h1:=A0.1 h.2 i (List.mem_range.2 hi);unfold GG at h1;simp only[Ae,Bl hi,BC]at h1;exact D0.1 h1.1.2
theorem Zu(t:Ak)(n:Am)(l:List Ai):(C1 t n l).length<=l.length:=by unfold C1;rw[List.length_map];exact UY t n l
theorem gY(l:List Bf):(CY l).length=l.length:=by have:=(OP l [] List.Pairwise.nil).2.length_eq;simpa[CY]using this
theorem zy1{t:Ak}{l:List Ai}{s:B0}(hg:A4 t=true)(hl:Dg l=true)(hs:Gb t s=true)(h1:s.aw≠1):Rx t l s=some (Ji t l s):=by
 have hT:=G5 hg;have hlen:=(Jx hl).1.len;unfold Rx Ji;by_cases k2:s.aw=2
 ·rw[if_pos (by simpa using k2),kG hg hl,Aa,if_pos k2]
 rw[if_neg (by simpa using k2),if_neg k2];by_cases k3:s.aw=3
 ·rw[if_neg (by simp[k3]),if_neg (by simp[k3]),aW hT,Aa];unfold Gb at hs;rw[if_neg h1,if_neg k2,if_pos k3]at hs;simp only[Ae,AN]at hs;obtain⟨x,gx,nx,mx⟩:=R1 hs.2.1;have ln:s.ay.length<=2000000:=by
   have:x.ab=s.ay:=by simpa using nx
   rw[<-this];exact hT.idx x mx
  have st:=zta hg mx;have es:Pz t s.ay=(x.bf==3):=by unfold Pz;rw[gx]
  rw[gx,Aa,es];by_cases k:x.bf=3
  ·rw[if_neg (by simp[k]),if_pos (by simp[k]),zvF hg ln hl,Aa];have il:=gY (C1 t s.ay l);have pl:=Zu t s.ay l;have hf:=G6 (xs:=CY (C1 t s.ay l)) (body:=λu:List Ac × Int=>OA t l s ((CY (C1 t s.ay l)).map B7) u.1 u.2) (λi (o:List Ac)=>(o,i)) (λo e=>if EB s e=true then o++Ff t l e.al else o) (λo=>some (o,true)) (λi o=>o.length<=i)
    (λi hi o hI=>by
     have hI:o.length<=i:=hI;have hw:=CG hi (by omega:(CY (C1 t s.ay l)).length<=_);have ho:=O7 (t:=t) hl (CY (C1 t s.ay l))[i].al;refine⟨?_,by
      show List.length (if EB s (CY (C1 t s.ay l))[i]=true then o++Ff t l (CY (C1 t s.ay l))[i].al else o)<=i+1;split
      ·rw[Ap];omega
      ·omega⟩
     show OA t l s ((CY (C1 t s.ay l)).map B7) o i=_;have qC:i<((CY (C1 t s.ay l)).map B7).length:=by rw[List.length_map];exact hi
     have g:getI ((CY (C1 t s.ay l)).map B7) (i:Int)=some (B7 (CY (C1 t s.ay l))[i]):=by rw[BZ qC,List.getElem_map]
     generalize (CY (C1 t s.ay l))[i]=e at g ho;unfold OA;rw[if_pos (by simpa using hi),g,Aa,show getI (B7 e).ae 1=some e.bb from rfl,Aa,show getI (B7 e).ae 0=some e.al from rfl,hw];show(if EB s e=true then _ else _)=_;cases hb:EB s e with
     |false=>rfl
     |true=>rw[if_pos rfl,Aa,kG hg hl,Aa,A7 (by omega),if_pos rfl])
    (λo _=>by show OA t l s ((CY (C1 t s.ay l)).map B7) o (CY (C1 t s.ay l)).length=_;unfold OA;rw[if_neg (by simp)]) (s:=[]) (by simp)
   refine hf.1.trans ?_;rw[ZB];rfl
  ·rw[if_pos (by simp;omega),if_neg (by simpa using k)]
 ·rw[if_pos (by simpa using k3),if_pos k3]
theorem zyC{t:Ak}{l:List Ai}{s:B0}(hg:A4 t=true)(hl:Dg l=true)(hs:Gb t s=true)(h1:s.aw≠1):Rb t l s=some (Ji t l s):=by
 have hT:=G5 hg;have hlen:=(Jx hl).1.len;unfold Rb Ji;by_cases k2:s.aw=2
 ·obtain⟨p,ep,p1,p2⟩:=kK hg hl s.bw;rw[if_pos (by simpa using k2),ep,Aa,if_pos k2];cases hb:p.2 with
  |true=>rw[if_pos rfl,A7 (by simp),p1 hb]
  |false=>rw[if_neg (by simp),p2 hb]
 rw[if_neg (by simpa using k2),if_neg k2];by_cases k3:s.aw=3
 ·rw[if_neg (by simp[k3]),if_neg (by simp[k3])];unfold Gb at hs;rw[if_neg h1,if_neg k2,if_pos k3]at hs;simp only[Ae,AN]at hs;obtain⟨x,gx,nx,mx⟩:=R1 hs.2.1;have nx:x.ab=s.ay:=by simpa using nx
  have ln:s.ay.length<=2000000:=by rw[<-nx];exact hT.idx x mx
  have hh:∀b∈head t s.ay,b≠47:=lQ hg (by rw[<-nx];exact(LC hg mx).1);have es:Pz t s.ay=(x.bf==3):=by unfold Pz;rw[gx]
  have ei:MZ t s.ay=some x:=by unfold MZ;rw[VE hT,Aa,gx];rfl
  rw[ei,Aa,es];by_cases k:x.bf=3
  ·rw[if_neg (by simp[k]),if_pos (by simp[k]),iA hT.name ln hh (by omega) (Hc hl),Aa];have el:=UY t s.ay l;have hf:=G6 (xs:=CP t s.ay l) (body:=λu:Int × List Bf=>Oa t l s (CP t s.ay l) u.1 u.2) (λi (o:List Bf)=>(i,o)) (λo k=>if EB s (D7 k)=true then o++ [D7 k]else o) (λo=>XW t l o) (λi o=>o.length<=i)
    (λi hi o hI=>by
     have hI:o.length<=i:=hI;have hw:=CG hi (by omega:(CP t s.ay l).length<=_);obtain⟨he,hk⟩:=fZ hl (Bu hi);refine⟨?_,by
      show List.length (if EB s (D7 (CP t s.ay l)[i])=true then o++ [D7 (CP t s.ay l)[i]]else o)<=i+1;split
      ·rw[Ap,AL];omega
      ·omega⟩
     show Oa t l s (CP t s.ay l) i o=_;unfold Oa;rw[if_pos (by simpa using hi),BZ hi,Aa,zx3 hT.name ln (by omega) he,Aa,hw];show(if EB s (D7 (CP t s.ay l)[i])=true then _ else _)=_;cases hb:EB s (D7 (CP t s.ay l)[i])with
     |false=>rfl
     |true=>rw[if_pos rfl,A7 (by rw[AL];omega),if_pos rfl])
    (λo _=>by show Oa t l s (CP t s.ay l) (CP t s.ay l).length o=_;unfold Oa;rw[if_neg (by simp)]) (s:=[]) (by simp)
   refine hf.1.trans ?_;rw[OW (λk:Am=>EB s (D7 k)) D7,List.nil_append];have e1:((CP t s.ay l).filter λk=>EB s (D7 k)).map D7=(C1 t s.ay l).filter (EB s):=by unfold C1;rw[List.filter_map];rfl
   rw[e1];unfold XW;have pl:=Zu t s.ay l;have fl:=List.length_filter_le (EB s) (C1 t s.ay l);have e2:=xM (EB s) (C1 t s.ay l);have e3:LS t l s=((Fh ((C1 t s.ay l).filter (EB s)).toArray).toList).flatMap λe=>Ff t l e.al:=by unfold LS;rw[e2]
   have e4:((Fh ((C1 t s.ay l).filter (EB s)).toArray).toList).length<=24:=by have:=(gB ((C1 t s.ay l).filter (EB s))).2.length_eq;omega
   unfold UB;rw[A7 ⟨rfl,rfl,by omega⟩,Aa,e3];generalize (Fh ((C1 t s.ay l).filter (EB s)).toArray).toList=zs at e4;have hz:=G6 (xs:=zs) (body:=λu:Int × List Ac=>N8 t l ((),zs) u.1 u.2) (λi (o:List Ac)=>(i,o)) (λo e=>if(λ_:Bf=>true) e=true then o++Ff t l e.al else o) (λo=>some (o,true)) (λi o=>o.length<=i)
    (λi hi o hI=>by
     have hI:o.length<=i:=hI;have hw:=CG hi (by omega:zs.length<=_);have ho:=O7 (t:=t) hl zs[i].al;refine⟨?_,by show(o++Ff t l zs[i].al).length<=i+1;rw[Ap];omega⟩
     obtain⟨p,ep,p1,p2⟩:=kK hg hl zs[i].al;show N8 t l ((),zs) i o=some (.inl (((i+1:Nat):Int),o++Ff t l zs[i].al));unfold N8;rw[if_pos (by simpa using hi),BZ hi,Aa,ep,Aa,hw];cases hb:p.2 with
     |true=>rw[if_pos rfl,A7 (by rw[AL];omega),p1 hb]
     |false=>rw[if_neg (by simp),p2 hb,AJ])
    (λo _=>by show N8 t l ((),zs) zs.length o=_;unfold N8;rw[if_neg (by simp)]) (s:=[]) (by simp)
   refine hz.1.trans ?_;rw[ZB (λ_:Bf=>true),List.filter_eq_self.2 (λ_ _=>rfl),List.nil_append]
  ·rw[if_pos (by simpa using k),if_neg (by simpa using k)]
 ·rw[if_pos (by simpa using k3),if_pos k3]
theorem kB{α β:Type}{f:α->List β}(hf:∀x,(f x).length<=1):∀xs:List α,(xs.flatMap f).length<=xs.length
 | []=>by simp
 |x::xs=>by rw[List.flatMap_cons,Ap,Ao];have:=hf x;have:=kB hf xs;omega
theorem zya{t:Ak}{l:List Ai}{s:B0}(hl:Dg l=true):(Ji t l s).1.length<=24/\ ∀r∈(Ji t l s).1,BT t r=true:=by
 have hlen:=(Jx hl).1.len;unfold Ji;split
 ·have:=O7 (t:=t) hl s.bw;exact⟨by dsimp only;omega,λr hr=>iV hr⟩
 ·split
  ·exact⟨by simp,λr hr=>by simp at hr⟩
  ·split
   ·refine⟨?_,λr hr=> ?_⟩
    ·have h1:=kB (f:=λe:Bf=>Ff t l e.al) (λe=>O7 hl e.al) ((CY (C1 t s.ay l)).filter (EB s));have h2:=List.length_filter_le (EB s) (CY (C1 t s.ay l));have h3:=gY (C1 t s.ay l);have h4:=Zu t s.ay l;show(LS t l s).length<=24;unfold LS;omega
    ·obtain⟨e,_,he⟩:=List.mem_flatMap.1 hr;exact iV he
   ·exact⟨by simp,λr hr=>by simp at hr⟩
def CU{α:Type}(lt:α->α->Bool):List α->α->List α->List α
 | [],x,B=>x::B
 |a::Ar,x,B=>if lt x a=true then CU lt Ar x (a::B)else(a::Ar).reverse++x::B
def HI{α:Type}(lt:α->α->Bool)(xs:List α):List α:=xs.foldl (λS x=>CU lt S.reverse x []) []
theorem lH{α β:Type}{f:α->β}{lt:β->β->Bool}{l2:α->α->Bool}(h:∀x y,l2 x y=lt (f x) (f y)):∀(Ar:List α) (x:α) (B:List α),(CU l2 Ar x B).map f=CU lt (Ar.map f) (f x) (B.map f)
 | [],x,B=>rfl
 |a::Ar,x,B=>by
  rw[CU,List.map_cons,CU,h];split
  ·exact lH h Ar x (a::B)
  ·simp
theorem iL{α β:Type}{f:α->β}{lt:β->β->Bool}{l2:α->α->Bool}(h:∀x y,l2 x y=lt (f x) (f y)):∀(xs S:List α),(xs.foldl (λS x=>CU l2 S.reverse x []) S).map f=(xs.map f).foldl (λS x=>CU lt S.reverse x []) (S.map f)
 | [],S=>rfl
 |x::xs,S=>by rw[List.foldl_cons,iL h xs,List.map_cons,List.foldl_cons,lH h,List.map_reverse];rfl
theorem Va{α:Type}{lt:α->α->Bool}:∀(Ar:List α) (x:α) (B:List α),(CU lt Ar x B).Perm (x::(Ar.reverse++B))
 | [],x,B=>by simp[CU]
 |a::Ar,x,B=>by
  rw[CU];split
  ·have:=Va (lt:=lt) Ar x (a::B);simpa using this
  ·exact List.perm_middle
theorem Y1{α:Type}{lt:α->α->Bool}:∀(xs S:List α),(xs.foldl (λS x=>CU lt S.reverse x []) S).Perm (xs++S)
 | [],S=>List.Perm.refl _
 |x::xs,S=>by
  refine(Y1 xs _).trans ?_;have q:(CU lt S.reverse x []).Perm (x::S):=by simpa using Va (lt:=lt) S.reverse x []
  exact(List.Perm.append_left xs q).trans List.perm_middle
theorem Zh{α:Type}{lt:α->α->Bool}{xs:List α}{x:α}:x∈HI lt xs↔x∈xs:=by have:=(Y1 (lt:=lt) xs []).mem_iff (a:=x);simpa[HI]using this
theorem mV:∀(Ar:List Bf) (x:Bf) (B:List Bf),CU Ct Ar x B=EU Ar x B
 | [],_,_=>rfl
 |a::Ar,x,B=>by rw[CU,EU,mV Ar]
theorem zwl(xs:List Bf):HI Ct xs=CY xs:=by unfold HI CY;congr 1;funext S x;exact mV _ _ _
def ET(c:Int)(r:Ac):Bf:=⟨Aj r c,Aj r 0⟩
def C8(c:Int)(a b:Ac):Bool:=Ct (ET c a) (ET c b)
def Tn(low high v:Am):Bool:= !(bl v low||bl high v)
def Fg(c:Int)(low high:Am)(r:Ac):Bool:=Tn low high (Aj r c)
def Ib(t:Ak)(l:List Ai)(c:Int)(low high:Am):List Ac:=HI (C8 c) ((AS t l).filter (Fg c low high))
theorem iW(t:Ak)(l:List Ai)(c:Int)(low high:Am):(Ib t l c low high).map (ET c)=CY (((AS t l).filter (Fg c low high)).map (ET c)):=by rw[<-zwl];exact iL (f:=ET c) (lt:=Ct) (l2:=C8 c) (λ_ _=>rfl) _ []
theorem YP(l:List Bf):(CY l).Perm l:=by simpa[CY]using(OP l [] List.Pairwise.nil).2
theorem fN{l:List Bf}(h:l.Pairwise (· ≠ ·)):(CY l).Pairwise λa b=>Ct a b=true:=by
 have h1:=(OP l [] List.Pairwise.nil).1;have h2:(CY l).Pairwise (· ≠ ·):=((YP l).pairwise_iff (λ{a b} h=>Ne.symm h)).2 h;have h3:(CY l).Pairwise λa b=>HD a b/\a≠b:=List.Pairwise.and h1 h2;exact h3.imp λ{a b} ⟨p,q⟩=>by
  rcases R7 a b with k|k|k
  ·exact k
  ·rw[show Ct b a=false from p]at k;cases k
  ·exact absurd k q
theorem hF:∀{a b:List Bf},(a.Pairwise λx y=>Ct x y=true)->(b.Pairwise λx y=>Ct x y=true)->(∀x,x∈a↔x∈b)->a=b
 | [],[],_,_,_=>rfl
 | [],y::b,_,_,h=>by have:=(h y).2 (by simp);simp at this
 |x::a,[],_,_,h=>by have:=(h x).1 (by simp);simp at this
 |x::a,y::b,ha,hb,h=>by
  have NP:=List.pairwise_cons.1 ha;have BF:=List.pairwise_cons.1 hb;have e:x=y:=by
   rcases Ad.1 ((h x).1 (by simp))with h1|h1
   ·exact h1
   ·rcases Ad.1 ((h y).2 (by simp))with h2|h2
    ·exact h2.symm
    ·have:=O6 (NP.1 y h2) (BF.1 x h1);rw[OV]at this;cases this
  subst e;rw[hF NP.2 BF.2 λz=>⟨λhz=>by
   rcases Ad.1 ((h z).1 (by simp[hz]))with e|e
   ·subst e;have:=NP.1 z hz;rw[OV]at this;cases this
   ·exact e,λhz=>by
   rcases Ad.1 ((h z).2 (by simp[hz]))with e|e
   ·subst e;have:=BF.1 z hz;rw[OV]at this;cases this
   ·exact e⟩]
theorem ztT{t:Ak}{l:List Ai}(hl:Dg l=true):(AS t l).Pairwise λa b=>Aj a 0≠Aj b 0:=by have hr:=(Jx hl).1.dn;unfold AS;rw[List.pairwise_map];refine List.Pairwise.imp_of_mem (R:=λa b:Ai=>bl a.ah b.ah=true) (λ{a b} ha hb GO e=> ?_) (EG.filter hr _);have ea:=(Nd (List.mem_filter.1 ha).2).2;have eb:=(Nd (List.mem_filter.1 hb).2).2;refine GH GO ?_;rw[ea,eb,O1,O1,e]
theorem ztp{t:Ak}{l:List Ai}(hl:Dg l=true){r:Ac}(hr:r∈AS t l):Ff t l (Aj r 0)=[r]:=by
 have h1:=O7 (t:=t) hl (Aj r 0);have h2:r∈Ff t l (Aj r 0):=List.mem_filter.2 ⟨hr,by simp⟩;generalize Ff t l (Aj r 0)=zs at h1 h2
 match zs,h1,h2 with
 | [a],_,h2=>rw[List.mem_singleton.1 h2]
 |a::b::_,h1,_=>simp at h1
theorem zud{t:Ak}{n:Am}{c:Int}{r r':Ac}(h:ET c r=ET c r'):De t n c r=De t n c r':=by unfold ET at h;injection h with h1 h2;unfold De;rw[h1,h2]
theorem Vl{t:Ak}{n:Am}{c:Int}{r:Ac}(hg:A4 t=true)(hn:CO n 1=true)(h:BT t r=true):D7 (De t n c r)=ET c r:=by unfold D7;rw[jH hg hn h];rfl
theorem lC{a b:List Am}(h:((NG a b).length:Int)=0):∀k∈a,k∈b:=by intro k hk;have h0:NG a b=[]:=List.length_eq_zero_iff.1 (by omega);unfold NG at h0;have:=List.filter_eq_nil_iff.1 h0 k hk;simpa using this
theorem zvq{t:Ak}{l:List Ai}{s:B0}{x:Be}(hg:A4 t=true)(hl:Dg l=true)(hn:CO s.ay 1=true)(hh:holds t s.ay x 2 l=true):LS t l s=Ib t l x.a7 s.bw s.a8:=by
 unfold holds at hh;rw[if_neg (by simp)]at hh;simp only[Ae,Bool.or_eq_true,Ax]at hh;have hA:=lC hh.1;have hB:∀k∈wanted t s.ay x l,k∈CP t s.ay l:=lC (by
  rcases hh.2 with h|h
  ·simp at h
  ·exact h)
 have hW:∀k,k∈CP t s.ay l↔ ∃r,r∈AS t l/\De t s.ay x.a7 r=k:=λk=>⟨λh=>List.mem_map.1 (hA k h),λh=>hB k (List.mem_map.2 h)⟩
 have hr:=(Jx hl).1.dn;have nE:(CP t s.ay l).Pairwise (· ≠ ·):=by unfold CP;rw[List.pairwise_map];exact List.Pairwise.imp (R:=λa b:Ai=>bl a.ah b.ah=true) (λ{a b} h=>GH h) (EG.filter hr _)
 have nP:(C1 t s.ay l).Pairwise (· ≠ ·):=by unfold C1;rw[List.pairwise_map];refine List.Pairwise.imp_of_mem (λ{a b} ha hb GO e=> ?_) nE;obtain⟨r,r1,rfl⟩:=(hW a).1 ha;obtain⟨r',r2,rfl⟩:=(hW b).1 hb;rw[Vl hg hn (M7 r1),Vl hg hn (M7 r2)]at e;exact GO (zud e)
 have nR:(((AS t l).filter (Fg x.a7 s.bw s.a8)).map (ET x.a7)).Pairwise (· ≠ ·):=by rw[List.pairwise_map];refine List.Pairwise.imp (λ{a b} h e=> ?_) ((ztT (t:=t) hl).filter _);unfold ET at e;injection e with _ e2;exact h e2
 have eIn:∀r:Ac,EB s (ET x.a7 r)=Fg x.a7 s.bw s.a8 r:=by intro r;show((!bl (Aj r x.a7) s.bw)&&(bl (Aj r x.a7) s.a8||Aj r x.a7==s.a8))= !(bl (Aj r x.a7) s.bw||bl s.a8 (Aj r x.a7));rw[LH];cases bl (Aj r x.a7) s.bw<;>rfl
 have e1:(CY (C1 t s.ay l)).filter (EB s)=(Ib t l x.a7 s.bw s.a8).map (ET x.a7):=by
  rw[iW];refine hF (List.Pairwise.filter _ (fN nP)) (fN nR) λe=> ?_;rw[List.mem_filter,(YP _).mem_iff,(YP _).mem_iff];constructor
  ·rintro⟨h1,h2⟩;obtain⟨k,hk,rfl⟩:=List.mem_map.1 h1;obtain⟨r,r1,rfl⟩:=(hW k).1 hk;rw[Vl hg hn (M7 r1)]at h2 ⊢;exact List.mem_map.2 ⟨r,List.mem_filter.2 ⟨r1,by rw[<-eIn];exact h2⟩,rfl⟩
  ·intro h;obtain⟨r,hr,rfl⟩:=List.mem_map.1 h;obtain⟨r1,r2⟩:=List.mem_filter.1 hr;refine⟨List.mem_map.2 ⟨De t s.ay x.a7 r,(hW _).2 ⟨r,r1,rfl⟩,Vl hg hn (M7 r1)⟩,?_⟩;rw[eIn];exact r2
 unfold LS;rw[e1];have hm:∀r∈Ib t l x.a7 s.bw s.a8,r∈AS t l:=λr h=>(List.mem_filter.1 (Zh.1 h)).1;generalize Ib t l x.a7 s.bw s.a8=zs at hm
 induction zs with
 |nil=>rfl
 |cons z zs ih=>rw[List.map_cons,List.flatMap_cons,ih λr h=>hm r (by simp[h]),show Ff t l (ET x.a7 z).al=[z]from ztp hl (hm z (by simp))];rfl
theorem ztb(t:Ak)(l:List Ai)(c:Int)(low high:Am):(Ib t l c low high).Pairwise λa b=>bl (Aj b c) (Aj a c)=false:=by
 have h:=(OP (((AS t l).filter (Fg c low high)).map (ET c)) [] List.Pairwise.nil).1;have h:(CY (((AS t l).filter (Fg c low high)).map (ET c))).Pairwise HD:=h;rw[<-iW,List.pairwise_map]at h;refine h.imp λ{a b} GO=> ?_;have GO:Ct (ET c b) (ET c a)=false:=GO;unfold Ct ET at GO;dsimp only at GO;by_cases e:Aj b c=Aj a c
 ·rw[e];exact Kv _
 ·rw[if_pos e]at GO;exact GO
end
section
open Go.RowKit
set_option maxRecDepth 100000
set_option maxHeartbeats 1000000
def PB(w:Ai):Bool:=w.ah.all λb=>b !=46
def EI(l:List Ai):Nat:=(l.filter PB).length
theorem ztP{u:Ak}(hg:A4 u=true){w:Ai}(h:D6 u w=true):PB w=true:=by
 obtain⟨h1,h2⟩:=Nd h;have hn:=H4 hg;unfold PB;rw[h2,O1,A0];intro b hb;rw[Ag,Ag,List.mem_singleton]at hb;rcases hb with(hb|hb)|hb
 ·have:=(LQ (M4 hn b hb)).2.2;simpa using this
 ·subst hb;decide
 ·have:=(LQ (No h1 0 b hb)).2.2;simpa using this
theorem fJ{α:Type}{p q:α->Bool}(h:∀x,p x=true->q x=true):∀l:List α,(l.filter p).length<=(l.filter q).length
 | []=>by simp
 |x::l=>by
  have ih:=fJ h l;rw[List.filter_cons,List.filter_cons];by_cases hp:p x=true
  ·rw[if_pos hp,if_pos (h x hp),Ao,Ao];omega
  ·rw[if_neg hp];split
   ·rw[Ao];omega
   ·exact ih
theorem ZZ{u:Ak}(hg:A4 u=true)(l:List Ai):(AS u l).length<=EI l:=by unfold AS EI;rw[List.length_map];exact fJ (λw h=>ztP hg h) l
theorem R0{w:Ai}:∀l:List Ai,EI (Df wk w l)<=EI l+(if PB w=true then 1 else 0)
 | []=>by unfold EI;rw[Df,List.filter_cons];split<;>simp
 |z::l=>by
  have ih:=R0 (w:=w) l;unfold EI at ih ⊢;rw[Df];split
  ·rw[List.filter_cons];split<;>simp
  ·split
   ·rw[List.filter_cons,List.filter_cons];split<;>split<;>(try simp only[Ao])<;>omega
   ·rw[List.filter_cons,List.filter_cons];split<;>(try simp only[Ao])<;>omega
theorem iG{t:Ak}{x:Be}{r:Ac}(l:List Ai):EI (Df wk ⟨De t x.ab x.a7 r,[],false⟩ l)<=EI l:=by
 have h:=R0 (w:=⟨De t x.ab x.a7 r,[],false⟩) l;rw[if_neg (by unfold PB;rw[Bool.not_eq_true,List.all_eq_false];exact⟨46,by unfold De head;simp,by decide⟩)]at h
 omega
theorem yF[Inhabited DB]{c:AE}{k:Int}{n m:Nat}{l:List Ai}(hl:DV n l)(hm:EI l<=m)(hn:n<=1000)(h:BK c k)(hk:k<=4611686018427380000):BW (X5 c.ar c.bz c.au l) λp=>(DV (n+1) p.1/\EI p.1<=m+1)/\BK p.2 (k+6):=by unfold X5;have hlen:=hl.len;refine(KO 6 (c:=⟨c.ar,c.bz,c.au⟩) h (by omega)).bind λp hp=> .ite (λ_=> ?_) λ_=> .ret ⟨⟨hl.mono (by omega),by dsimp only;omega⟩,hp.up (by omega)⟩;refine(zyF hp (by omega)).bind λq ⟨hq,hc⟩=>(zyQ hc (by omega)).bind λr ⟨hr,hd⟩=> ?_;rw[Np (by omega) hl.dn,Aa];refine .ret ⟨⟨Sc hl (ZU hq hr) rfl,?_⟩,hd.up (by omega)⟩;have:=R0 (w:=⟨q.1,r.1,false⟩) l;split at this<;>(dsimp only;omega)
theorem yE[Inhabited DB]{t:Ak}{q:Nat}{x:Be}{c:AE}{k:Int}{n m:Nat}{l:List Ai}(hg:A4 t=true)(hx:x∈t.af)(hq:q<=3)(hl:DV n l)(hm:EI l<=m)(hn:n<=1000)(h:BK c k)(hk:k<=4611686018427370000):
  BW (Ri t q x c.ar c.bz c.au l) λo=> ∃(c':AE) (l':List Ai),o= .inl (((q+1:Nat):Int),c'.ar,c'.bz,c'.au,l')/\DV (n+1) l'/\EI l'<=m/\BK c' (k+30):=by
 unfold Ri;have hlen:=hl.len;have w1:IntKind.i64.wrap ((q:Int)+1)=((q+1:Nat):Int):=by rw[Ch (by omega) (by omega)];omega
 refine(KO 5 (c:=⟨c.ar,c.bz,c.au⟩) h (by omega)).bind λp hp=> .ite (λ_=> ?_) λ_=> .ret ⟨p.2,l,by rw[w1],hl.mono (by omega),hm,hp.up (by omega)⟩;refine(Ns hg hp (by omega)).bind λr ⟨hr,hc⟩=> ?_;obtain⟨e1,e2⟩:=YT hg hx hr;rw[e1,Aa,Np (by omega) hl.dn,Aa];exact .ret ⟨r.2,_,by rw[w1],Sc hl e2 rfl,Nat.le_trans (iG l) hm,hc.up (by omega)⟩
theorem yK[Inhabited DB]{t:Ak}{c:AE}{k:Int}{l:List Ai}(hg:A4 t=true)(hl:DV 4 l)(h:BK c k)(hk:k<=4611686018427360000):BW (XV t c.ar c.bz c.au l) λp=>(DV 20 p.1/\EI p.1<=5)/\BK p.2 (k+700):=by
 unfold XV;have hS:=G5 hg;have h3:=zts hg;refine RE (λm s=> ∃q:Nat,s.1=(q:Int)/\q+m=t.af.length/\DV (VY q) s.2.2.2.2/\EI s.2.2.2.2<=4/\BK ⟨s.2.1,s.2.2.1,s.2.2.2.1⟩ (k+200*q)) (λm s hI=> ?_) (n:=t.af.length) (by exact⟨0,rfl,by omega,hl,Nat.le_trans (List.length_filter_le _ _) hl.len,by simpa using h⟩);obtain⟨q,e1,e2,hT,hm,ho⟩:=hI;obtain⟨s1,a,b,e,l⟩:=s;dsimp only at e1 hT hm ho ⊢;subst e1;have hb:VY q=4+5*q:=rfl;have hlen:=hT.len;unfold eH;refine .ite (λAI=> ?_) λIv=> ?_
 ·simp only[AN]at AI;have hq:q<t.af.length:=by omega
  rw[BZ hq,Aa,Vq hS.name (by omega) (λw hw=>Y9 (hT.gy w hw)),Aa];have hx:=Bu hq;have hR:(AS t l).length<=4:=Nat.le_trans (ZZ hg l) hm;generalize EA:AS t l=R at hR;have pA:∀r∈R,BT t r=true:=λr hr=>M7 (l:=l) (by rw[EA];exact hr);refine RE (λj s=> ∃i:Nat,s.1=(i:Int)/\i+j=R.length/\DV (VY q+i) s.2.2.2.2/\EI s.2.2.2.2<=4/\BK ⟨s.2.1,s.2.2.1,s.2.2.2.1⟩ (k+200*q+2*i)) (λj s hJ=> ?_) (n:=R.length) (by exact⟨0,rfl,by omega,hT,hm,by simpa using ho⟩);obtain⟨i,f1,f2,gT,gm,go⟩:=hJ;obtain⟨s1,a,b,e,l'⟩:=s;dsimp only at f1 gT gm go ⊢;subst f1;have glen:=gT.len;unfold eJ;refine .ite (λGt=> ?_) λWG=> ?_
  ·simp only[AN]at Gt;have hi:i<R.length:=by omega
   have w1:IntKind.i64.wrap ((i:Int)+1)=((i+1:Nat):Int):=by rw[Ch (by omega) (by omega)];omega
   obtain⟨n1,n2⟩:=YT hg hx (pA _ (Bu hi));rw[BZ hi,Aa];refine(KO 5 go (by omega)).bind λp hp=> .ite (λ_=> ?_) λ_=> .ret ⟨j-1,by omega,i+1,w1,by omega,gT.mono (by omega),gm,hp.up (by omega)⟩;rw[n1,Aa,Np (by omega) gT.dn,Aa];exact .ret ⟨j-1,by omega,i+1,w1,by omega,(Sc gT n2 rfl).mono (by omega),Nat.le_trans (iG _) gm,hp.up (by omega)⟩
  ·simp only[decide_eq_false_iff_not]at WG;refine .ret ((yE (c:=⟨a,b,e⟩) hg hx (by omega) gT gm (by omega) go (by omega)).mono λo qY=> ?_);obtain⟨c',l2,rfl,z1,zm,z2⟩:=qY;exact⟨m-1,by omega,q+1,rfl,by omega,z1.mono (by have:VY (q+1)=4+5*(q+1):=rfl;omega),zm,z2.up (by omega)⟩
 ·refine .ret ((yF (c:=⟨a,b,e⟩) hT hm (by omega) ho (by omega)).mono λp hp=>⟨⟨hp.1.1.mono (by omega),hp.1.2⟩,hp.2.up (by omega)⟩)
theorem zuU[Inhabited DB]{t:Ak}{c:AE}{k:Int}(hg:A4 t=true)(h:BK c k)(hk:k<=4611686018427350000):BW (TN c t) λp=>(DV 20 p.1/\EI p.1<=5)/\BK p.2 (k+900):=by
 unfold TN;have hS:=G5 hg;refine(Fb 5 h (by omega)).bind λp ⟨hp,hc⟩=> ?_;have p2:=hp.2.1 (by omega);obtain⟨m,hm⟩:=Int.eq_ofNat_of_zero_le hp.1;have qQ:m<=4:=by omega
 refine RE (λj s=>j<=4/\s.2.1=(j:Int)/\DV (4-j) s.1/\BK ⟨s.2.2.1,s.2.2.2.1,s.2.2.2.2⟩ (k+2+30*(4-j))) (λj s hI=> ?_) (n:=m) (by exact⟨qQ,hm,⟨⟨.nil,by simp,by simp⟩,by simp⟩,hc.up (by omega)⟩);obtain⟨l,s1,a,b,e⟩:=s;obtain⟨i0,i1,i2,i3⟩:=hI;dsimp only at i1 i2 i3 ⊢;subst i1;have hlen:=i2.len;unfold eF;refine .ite (λAI=> ?_) λIv=> ?_
 ·simp only[AN,gt_iff_lt]at AI;refine(Ns hg i3 (by omega)).bind λr ⟨hr,hd⟩=> ?_;obtain⟨hs,h2⟩:=Lw hg hr;have BI:r.1.ae≠ []:=λe=>by rw[e]at h2;simp at h2
  have hw:=ztF hg hr;rw[mP hS.name hs.small BI,Aa,Np (by omega) i2.dn,Aa];refine .ret ⟨j-1,by omega,by omega,?_,(Sc i2 (w:=Di t r.1) (ZU hw.1 hw.2) rfl).mono (by omega),hd.up (by omega)⟩;dsimp only;rw[Ch (by omega) (by omega)];omega
 ·simp only[decide_eq_false_iff_not,gt_iff_lt]at Iv;exact .ret ((yK (c:=⟨a,b,e⟩) hg (i2.mono (by omega)) i3 (by omega)).mono λp hp=>⟨hp.1,hp.2.up (by omega)⟩)
theorem mM{α:Type}(p:α->Bool):∀(l:List α) (i:Nat) (y:α),((l.set i y).filter p).length<=(l.filter p).length+1
 | [],_,_=>by simp
 |x::l,0,y=>by rw[List.set_cons_zero,List.filter_cons,List.filter_cons];split<;>split<;>(try simp only[Ao])<;>omega
 |x::l,i+1,y=>by have:=mM p l i y;rw[List.set_cons_succ,List.filter_cons,List.filter_cons];split<;>(try simp only[Ao])<;>omega
theorem fM[Inhabited DB]{t:Ak}{c:AE}{k:Int}(hg:A4 t=true)(h:BK c k)(hk:k<=4611686018427340000):BW (Rg c t) λp=>(Hg p.1/\EI p.1<=6)/\BK p.2 (k+1000):=by
 unfold Rg;have hn:=(OR (H4 hg)).1;refine(zuU hg h (by omega)).bind λs ⟨⟨hs,hP⟩,hc⟩=>(Fb 12 hc (by omega)).bind λq ⟨_,hd⟩=> ?_;have hT:=hs.l4 (by omega);have hlen:=hs.len;refine .ite (λ_=> ?_) λ_=> .ite (λ_=> ?_) λ_=> .ite (λ_=> .ite (λCK=> ?_) λ_=> .ret ⟨⟨hT,by dsimp only;omega⟩,hd.up (by omega)⟩) λ_=> .ite (λ_=> ?_) λ_=> .ret ⟨⟨hT,by dsimp only;omega⟩,hd.up (by omega)⟩
 ·refine .req (by simp;omega) (.ret ⟨⟨⟨by simp;omega,λw hw=> ?_⟩,?_⟩,hd.up (by omega)⟩)
  rotate_left
  ·unfold EI at hP ⊢;dsimp only;rw[List.filter_append,Ap];have:=List.length_filter_le PB [(⟨[97],[33],false⟩:Ai)];rw[AL]at this;omega
  dsimp only at hw;rcases Ag.1 hw with hw|hw
  ·exact hT.each w hw
  ·rw[List.mem_singleton.1 hw];exact⟨by decide,by decide⟩
 ·refine .req (by simp;omega) ((Fx _ (by simp) hd (by omega)).bind λu ⟨hu,he⟩=> ?_);have rO:u.1.length<=4:=by
   simp only[Ad,List.not_mem_nil,or_false]at hu;rcases hu with e|e|e<;>rw[e]<;>decide
  refine .req (by simp;omega) ((Fx _ (by simp) he (by omega)).bind λv ⟨hv,hf⟩=> ?_);have FB:v.1.length<=5:=by simp only[Ad,List.not_mem_nil,or_false]at hv;rcases hv with e|e|e|e<;>rw[e]<;>decide
  rw[Np (by omega) hs.dn,Aa];exact .ret ⟨⟨hT.put (by omega) ⟨by simp;omega,by dsimp only;omega⟩,by have:=R0 (w:=⟨t.ab++ [47]++u.1,v.1,false⟩) s.1;split at this<;>(dsimp only;omega)⟩,hf.up (by omega)⟩
 ·simp only[AN]at CK;refine(Fb _ hd (by omega)).bind λu ⟨hu,he⟩=> ?_;obtain⟨y,ey,hy,_⟩:=Pg (xs:=s.1) hu.1 (hu.2.1 (by omega));rw[ey,Aa];refine .ret ⟨⟨⟨by rw[List.length_set];omega,λw hw=> ?_⟩,Nat.le_trans (mM _ _ _ _) (by unfold EI at hP;omega)⟩,he.up (by omega)⟩;rcases List.mem_or_eq_of_mem_set hw with hw|rfl
  ·exact hT.each w hw
  ·exact hT.each y hy
 ·refine .req (by simp;omega) ((Fx _ (by simp) hd (by omega)).bind λu ⟨hu,he⟩=> ?_);have rO:u.1.length<=6:=by
   simp only[Ad,List.not_mem_nil,or_false]at hu;rcases hu with e|e|e|e<;>rw[e]<;>decide
  refine .req (by simp;omega) ?_;rw[Np (by omega) hs.dn,Aa];exact .ret ⟨⟨hT.put (by omega) ⟨by simp;omega,by simp⟩,by have:=R0 (w:=⟨t.ab++ [46,105,47]++u.1,[],false⟩) s.1;split at this<;>(dsimp only;omega)⟩,he.up (by omega)⟩
end
section
open Go.RowKit Go.Sort
set_option maxRecDepth 100000
set_option maxHeartbeats 1000000
theorem zwI{a b:Ac}{c:Int}{t:Ak}(ha:Fz t a)(hb:Fz t b)(h0:1<=c)(h1:c<=(t.aq.length:Int)-1):Kr a b c=some (C8 c a b):=by
 unfold Kr C8 Ct ET;rw[(FZ ha (by omega) h1).1,(FZ hb (by omega) h1).1,(FZ ha (c:=0) (by omega) (by omega)).1,(FZ hb (c:=0) (by omega) (by omega)).1];simp only[Aa];by_cases h:Aj a c=Aj b c
 ·rw[if_neg (by simp[h]),if_neg (by simpa using h)]
 ·rw[if_pos (by simpa using h),if_pos h]
theorem nL{t:Ak}{c:Int}(h0:1<=c)(h1:c<=(t.aq.length:Int)-1)(v3:Int){x:Ac}(hx:Fz t x):∀(Ar B:List Ac) (j:Ac),(∀a∈Ar,Fz t a)->Ar.length<=1000->AX (λs:Int × List Ac=>Km c v3 x s.1 s.2) ((Ar.length:Int),Ar.reverse++j::B)=some (.inl (CU (C8 c) Ar x B,IntKind.i64.wrap (v3+1)))
 | [],B,j,_,_=>by refine H5 (o:=some (Sum.inl (CU (C8 c) [] x B,IntKind.i64.wrap (v3+1)):(List Ac × Int) ⊕ Option (List Ac))) ?_;show Km c v3 x 0 (j::B)=_;unfold Km Uh;rw[if_neg (by simp)];rfl
 |a::Ar,B,j,hA,h=>by
  rw[Ao]at h;have hL:(a::Ar).reverse++j::B=Ar.reverse++a::(j::B):=by simp
  have w:IntKind.i64.wrap ((((a::Ar).length:Nat):Int)-1)=(Ar.length:Int):=by rw[Ao,Ch (by omega) (by omega)];omega
  have g1:getI ((a::Ar).reverse++j::B) (Ar.length:Int)=some a:=by rw[hL];exact Nh (by simp)
  have g2:getI ((a::Ar).reverse++j::B) (((a::Ar).length:Nat):Int)=some j:=Nh (by simp);have CK:decide ((((a::Ar).length:Nat):Int)>0)=true:=by rw[Ao];simp
  have hl:=zwI (c:=c) hx (hA a (by simp)) h0 h1;by_cases hb:C8 c x a=true
  ·have e:Km c v3 x (((a::Ar).length:Nat):Int) ((a::Ar).reverse++j::B)=some (.inl ((Ar.length:Int),Ar.reverse++a::(a::B))):=by
    unfold Km;rw[if_pos CK,w,g1,Aa,hl,Aa,hb,if_pos rfl,g2,Aa,Pd (by simp)];simp
   rw[O0 (body:=λs:Int × List Ac=>Km c v3 x s.1 s.2) e,nL h0 h1 v3 hx Ar (a::B) a (λy hy=>hA y (by simp[hy])) (by omega),CU,if_pos hb]
  ·refine H5 (o:=some (Sum.inl (CU (C8 c) (a::Ar) x B,IntKind.i64.wrap (v3+1)):(List Ac × Int) ⊕ Option (List Ac))) ?_;show Km c v3 x (((a::Ar).length:Nat):Int) ((a::Ar).reverse++j::B)=_;unfold Km Uh;rw[if_pos CK,w,g1,Aa,hl,Aa,if_neg hb,g2,Aa,Pd (by simp),CU,if_neg hb]
theorem lG{α σ:Type}(p:α->Bool)(f:σ->α->σ):∀(xs:List α) (s:σ),xs.foldl (λs x=>if p x=true then f s x else s) s=(xs.filter p).foldl f s
 | [],s=>rfl
 |x::xs,s=>by rw[List.foldl_cons,lG p f xs,List.filter_cons];cases p x<;>simp
theorem zxJ{t:Ak}{l:List Ai}{c:Int}{low high:Am}(hg:A4 t=true)(hl:Dg l=true)(h0:1<=c)(h1:c<=(t.aq.length:Int)-1):UH t l c low high=some (Ib t l c low high):=by
 have hlen:=(Jx hl).1.len;have BS:=Nk (t:=t) (Hc hl);have Tg:=Ni t l;unfold UH;rw[Vq (G5 hg).name (by omega) (Hc hl),Aa];have hf:=G6 (xs:=AS t l) (body:=λs:List Ac × Int=>OC c low high (AS t l) s.1 s.2) (λi (S:List Ac)=>(S,i)) (λS r=>if Fg c low high r=true then CU (C8 c) S.reverse r []else S) (λS=>some S) (λi S=>S.length<=i/\ ∀r∈S,Fz t r)
  (λi hi S hI=>by
   obtain⟨hI,hS⟩:=hI;have hw:=CG hi (by omega:(AS t l).length<=_);have hr:=BS _ (Bu hi);have Xi:=Va (lt:=C8 c) S.reverse (AS t l)[i] [];rw[List.reverse_reverse,AJ]at Xi;refine⟨?_,?_,?_⟩
   ·show OC c low high (AS t l) S i=_;unfold OC;rw[if_pos (by simpa using hi),BZ hi,Aa,(FZ hr (by omega) h1).1,Aa,hw];have ein:(Op.bytesLess (Aj (AS t l)[i] c) low|| !(Op.bytesLess (Aj (AS t l)[i] c) high||Aj (AS t l)[i] c==high))= !Fg c low high (AS t l)[i]:=by
     unfold Fg Tn;rw[LH];simp
    rw[ein];cases hb:Fg c low high (AS t l)[i]with
    |false=>rfl
    |true=>rw[if_neg (by simp),if_pos rfl,A7 (by rw[AL];omega)];have:=nL h0 h1 (i:Int) hr S.reverse [] (AS t l)[i] (λa ha=>hS a (by simpa using ha)) (by rw[List.length_reverse];omega);rw[List.length_reverse,List.reverse_reverse,hw]at this;exact this
   ·show List.length (if Fg c low high (AS t l)[i]=true then CU (C8 c) S.reverse (AS t l)[i] []else S)<=i+1;split
    ·have:=Xi.length_eq;rw[Ao]at this;omega
    ·omega
   ·show∀r∈(if Fg c low high (AS t l)[i]=true then CU (C8 c) S.reverse (AS t l)[i] []else S),Fz t r;split
    ·intro r h;rcases Ad.1 (Xi.mem_iff.1 h)with rfl|h
     ·exact hr
     ·exact hS r h
    ·exact hS)
  (λS _=>by show OC c low high (AS t l) S (AS t l).length=_;unfold OC;rw[if_neg (by simp)]) (s:=[]) ⟨by simp,by simp⟩
 refine hf.1.trans ?_;rw[lG];rfl
def PC(t:Ak)(l:List Ai)(c:Int)(low high:Am):Bool:=A4 t&&(Dg l&&(C7 c 1 ((t.aq.length:Int)-1)&&(field low&&field high)))
def HR(t:Ak)(l:List Ai)(c:Int)(low high:Am):List Ac × Bool:=if PC t l c low high=true then(Ib t l c low high,true)else([],false)
theorem U3{t:Ak}{l:List Ai}{c:Int}{low high:Am}:PC t l c low high=true↔A4 t=true/\Dg l=true/\(1<=c/\c<=(t.aq.length:Int)-1)/\field low=true/\field high=true:=by unfold PC;simp only[Ae,D0]
theorem zwr{t:Ak}{l:List Ai}{c:Int}{low high:Am}(hT:Eu t)(hl:Ja l)(h1:low.length<=2000000)(h2:high.length<=2000000):Ue t l c low high=some (HR t l c low high):=by
 have hc:=hT.ew;unfold Ue HR PC;rw[ZN hT,Aa];cases hg:A4 t with
 |false=>rfl
 |true=>
  rw[if_pos rfl,mH hl,Aa];cases hr:Dg l with
  |false=>rfl
  |true=>
   have BS:Ku c 1 (IntKind.i64.wrap ((t.aq.length:Int)-1))=some (C7 c 1 ((t.aq.length:Int)-1)):=by rw[Ch (by omega) (by omega)];rfl
   rw[if_pos rfl,BS,Aa];cases hi:C7 c 1 ((t.aq.length:Int)-1)with
   |false=>rfl
   |true=>
    rw[if_pos rfl,Jz h1,Aa];cases hf:field low with
    |false=>rfl
    |true=>
     rw[if_pos rfl,Jz h2,Aa];cases field high with
     |false=>rfl
     |true=>have:=D0.1 hi;rw[if_neg (by simp),zxJ hg hr this.1 this.2,Aa];rfl
def Hl(t:Ak)(l:List Ai)(s:B0):List Ac × Bool:=if A4 t=true/\Gb t s=true/\Dg l=true then(if s.aw=1 then([],false)else Ji t l s)else([],false)
theorem zxK{t:Ak}{l:List Ai}{s:B0}(hT:Eu t)(hl:Ja l)(hs:LI s):Ux t l s=some (Hl t l s):=by
 unfold Ux Hl;rw[yZ hT hs,Aa];cases hg:A4 t with
 |false=>rfl
 |true=>
  cases hq:Gb t s with
  |false=>rfl
  |true=>
   rw[if_pos (by simp),mH hl,Aa];cases hr:Dg l with
   |false=>rfl
   |true=>
    rw[if_neg (by simp),if_pos ⟨rfl,rfl,rfl⟩];by_cases k1:s.aw=1
    ·rw[if_pos k1];unfold Rx;rw[if_neg (by simp[k1]),if_pos (by simp[k1])];rfl
    ·rw[if_neg k1,zy1 hg hr hq k1,Aa]
theorem zx0{t:Ak}{l:List Ai}{s:B0}(hT:Eu t)(hl:Ja l)(hs:LI s):T9 t l s=some (Hl t l s):=by
 unfold T9 Hl;rw[zD hT hs,Aa];cases hg:A4 t with
 |false=>rfl
 |true=>
  cases hq:Gb t s with
  |false=>rfl
  |true=>
   rw[if_pos (by simp),aN hl,Aa];cases hr:Dg l with
   |false=>rfl
   |true=>
    rw[if_neg (by simp),if_pos ⟨rfl,rfl,rfl⟩];by_cases k1:s.aw=1
    ·rw[if_pos k1];unfold Rb;rw[if_neg (by simp[k1]),if_pos (by simp[k1])];rfl
    ·rw[if_neg k1,zyC hg hr hq k1,Aa]
theorem zF{code:List Int}(h:∀b∈code,0<=b/\b<=255):BW (T2 code) λp=>Eu p.1/\(Hg p.2.1/\EI p.2.1<=6)/\Pk p.2.2:=by
 have hj:∀(t:Ak × AE) (c:AE) (idxs:List Be),A4 ⟨t.1.ab,t.1.aq,idxs⟩=true->BK c 100->BW (Ol t c.ar c.bz c.au idxs) λp=>Eu p.1/\(Hg p.2.1/\EI p.2.1<=6)/\Pk p.2.2:=by intro t c idxs hg hc;unfold Ol;refine(fM hg (c:=⟨c.ar,c.bz,c.au⟩) hc (by omega)).bind λs ⟨hs,hd⟩=>(yW hg hs.1 hd (by omega)).bind λu ⟨hu,he⟩=>(KO 12 he (by omega)).bind λv hv=> .ite (λ_=> ?_) λ_=> .ret ⟨G5 hg,hs,hu⟩;exact(yN hv (by omega)).bind λb ⟨hb,_⟩=> .ret ⟨hb,hs,hu⟩
 unfold T2;refine(Z3 (c:=⟨code,0,0⟩) (BK.start h) (by omega)).bind λt ⟨hg,hc⟩=> .ite (λCK=> ?_) λ_=> .ite (λhf=>by cases hf) λ_=>hj t t.2 t.1.af hg (hc.up (by omega));simp only[AN]at CK;refine(KO 2 hc (by omega)).bind λv hv=> .ite (λ_=> ?_) λ_=>hj t v.2 t.1.af hg (hv.up (by omega));obtain⟨x,ex,_,hx⟩:=Pg (xs:=t.1.af) (i:=0) (by omega) (by omega);rw[ex,Aa];exact hj t v.2 _ (zvg hg hx) (hv.up (by omega))
theorem zE{code:List Int}(h:∀b∈code,0<=b/\b<=255):BW (TK code) λp=>Eu p.1/\(Hg p.2.1/\EI p.2.1<=6)/\p.2.2.2.1.length<=10/\p.2.2.2.2.length<=10:=by
 unfold TK;refine(Z3 (c:=⟨code,0,0⟩) (BK.start h) (by omega)).bind λt ⟨hg,hc⟩=>(fM hg hc (by omega)).bind λs ⟨hs,hd⟩=>(Fb _ hd (by omega)).bind λp ⟨_,he⟩=>(Fx _ (by simp) he (by omega)).bind λu ⟨hu,hf⟩=>(Fx _ (by simp) hf (by omega)).bind λv ⟨hv,_⟩=> .ret ⟨G5 hg,hs,?_,?_⟩
 ·simp only[Ad,List.not_mem_nil,or_false]at hu;show u.1.length<=10;rcases hu with e|e|e|e|e<;>rw[e]<;>simp
 ·simp only[Ad,List.not_mem_nil,or_false]at hv;show v.1.length<=10;rcases hv with e|e|e|e|e<;>rw[e]<;>simp
theorem YB{l:List Ac}(h:l.length<=2000000)(hx:∀r∈l,r.ae.length<=2000000):Ox l l=some true:=by
 have hS:∀l:List Am,l.length<=2000000->UC l l=some true:=λl h=>by
  unfold UC;rw[if_neg (by simp)];exact nS (n:=l.length) (body:=λs:Int=>Ov l l s) (λi hi=>by
   show Ov l l i=_;unfold Ov;rw[if_pos (by simpa using hi),BZ hi,Aa,Aa,CG hi (by omega),if_neg (by simp)]) (by
   show Ov l l l.length=_;unfold Ov;rw[if_neg (by simp)])
 unfold Ox;rw[if_neg (by simp)];exact nS (n:=l.length) (body:=λs:Int=>Of l l s) (λi hi=>by
  show Of l l i=_;unfold Of;rw[if_pos (by simpa using hi),BZ hi,Aa,Aa,hS _ (hx _ (Bu hi)),Aa,if_neg (by simp),CG hi (by omega)]) (by
  show Of l l l.length=_;unfold Of;rw[if_neg (by simp)])
theorem zvQ(a b:Int):Ry [a,b]=some (if a≠0 then a else b):=by
 have hb:∀i:Nat,(h:i<2)->Ru [a,b] i=if([a,b]:List Int)[i]≠0 then some (.inr (some ([a,b]:List Int)[i]))else some (.inl ((i+1:Nat):Int)):=by intro i h;unfold Ru;rw[if_pos (by simp;omega),BZ (by simpa using h),Aa,CG h (by omega)];by_cases hz:([a,b]:List Int)[i]=0<;>simp[hz]
 have h3:Ru [a,b] ((2:Nat):Int)=some (.inr (some 0)):=by unfold Ru;rw[if_neg (by simp)]
 unfold Ry;rw[G8,show(0:Int)=((0:Nat):Int)from rfl,hb 0 (by omega)];by_cases ha:a=0
 ·rw[if_neg (by simpa using ha),if_neg (by simpa using ha)];show AX _ ((1:Nat):Int)=_;rw[G8,hb 1 (by omega)];by_cases BF:b=0
  ·rw[if_neg (by simpa using BF)];show AX _ ((2:Nat):Int)=_;rw[G8,h3,BF]
  ·rw[if_pos (by simpa using BF)];rfl
 ·rw[if_pos (by simpa using ha),if_pos (by simpa using ha)];rfl
theorem zyE{t:Ak}{c:Int}(h0:1<=c)(h1:c<=(t.aq.length:Int)-1){a b:Ac}(ha:Fz t a)(hb:Fz t b):∃k,TW a b c=some k/\decide (k<0)=C8 c a b:=by
 unfold TW;rw[(FZ ha (by omega) h1).1,(FZ hb (by omega) h1).1,(FZ ha (c:=0) (by omega) (by omega)).1,(FZ hb (c:=0) (by omega) (by omega)).1];simp only[Aa,zyZ,zvQ];refine⟨_,rfl,?_⟩;unfold C8 Ct ET cD;dsimp only;by_cases e:Aj a c=Aj b c
 ·have z:(if bl (Aj b c) (Aj b c)=true then(-1:Int)else if Aj b c=Aj b c then 0 else 1)=0:=by rw[Kv];simp
  rw[e,z,if_neg (show¬((0:Int)≠0)from by simp),if_neg (show¬(Aj b c≠Aj b c)from by simp)];cases bl (Aj a 0) (Aj b 0)with
  |true=>rfl
  |false=>
   rw[if_neg (by simp)];by_cases e2:Aj a 0=Aj b 0
   ·rw[if_pos e2];rfl
   ·rw[if_neg e2];rfl
 ·rw[if_neg e,if_pos (show Aj a c≠Aj b c from e)];cases bl (Aj a c) (Aj b c)with
  |true=>rfl
  |false=>rfl
theorem mW{c:Int}{cmp:Ac->Ac->Option Int}{P:Ac->Prop}(hc:∀x y,P x->P y-> ∃k,cmp x y=some k/\decide (k<0)=C8 c x y)(v1:Int){x:Ac}(hx:P x):∀(Ar B:List Ac),(∀a∈Ar,P a)->Ar.length<=1000->AX (λs:Int × List Ac=>Kp 0 cmp v1 s.1 s.2) ((Ar.length:Int),Ar.reverse++x::B)=some (.inl (IntKind.i64.wrap (v1+1),CU (C8 c) Ar x B))
 | [],B,_,_=>by refine H5 (o:=some (Sum.inl (IntKind.i64.wrap (v1+1),CU (C8 c) [] x B):(Int × List Ac) ⊕ Option (Unit × List Ac))) ?_;show Kp 0 cmp v1 0 (x::B)=_;unfold Kp Tw;rw[if_neg (by simp)];rfl
 |a::Ar,B,hA,h=>by
  rw[Ao]at h;have hL:(a::Ar).reverse++x::B=Ar.reverse++a::(x::B):=by simp
  have s1:(a::Ar).reverse++a::B=Ar.reverse++a::(a::B):=by simp
  have w:IntKind.i64.wrap ((((a::Ar).length:Nat):Int)-1)=(Ar.length:Int):=by rw[Ao,Ch (by omega) (by omega)];omega
  have g1:getI ((a::Ar).reverse++x::B) (Ar.length:Int)=some a:=by rw[hL];exact Nh (by simp)
  have g2:getI ((a::Ar).reverse++x::B) (((a::Ar).length:Nat):Int)=some x:=Nh (by simp);have CK:decide ((((a::Ar).length:Nat):Int)>0)=true:=by rw[Ao];simp
  obtain⟨k,ek,hk⟩:=hc x a hx (hA a (by simp));by_cases hb:C8 c x a=true
  ·have e:Kp 0 cmp v1 (((a::Ar).length:Nat):Int) ((a::Ar).reverse++x::B)=some (.inl ((Ar.length:Int),Ar.reverse++x::(a::B))):=by
    unfold Kp;rw[if_pos CK,g2,Aa,w,g1,Aa,ek,Aa,hk,hb,if_pos rfl,Pd (by simp),s1,Nh (by simp),Aa,Pd (by simp)]
   rw[O0 (body:=λs:Int × List Ac=>Kp 0 cmp v1 s.1 s.2) e,mW hc v1 hx Ar (a::B) (λy hy=>hA y (by simp[hy])) (by omega),CU,if_pos hb]
  ·refine H5 (o:=some (Sum.inl (IntKind.i64.wrap (v1+1),CU (C8 c) (a::Ar) x B):(Int × List Ac) ⊕ Option (Unit × List Ac))) ?_;show Kp 0 cmp v1 (((a::Ar).length:Nat):Int) ((a::Ar).reverse++x::B)=_;unfold Kp Tw;rw[if_pos CK,g2,Aa,w,g1,Aa,ek,Aa,hk,if_neg hb,CU,if_neg hb]
theorem kL{α:Type}{lt:α->α->Bool}:∀(Ar:List α) (x:α) (B C:List α),CU lt Ar x (B++C)=CU lt Ar x B++C
 | [],x,B,C=>rfl
 |a::Ar,x,B,C=>by
  rw[CU,CU];split
  ·rw[<-List.cons_append,kL Ar x (a::B) C]
  ·simp
theorem mD{c:Int}{cmp:Ac->Ac->Option Int}{P:Ac->Prop}(hc:∀x y,P x->P y-> ∃k,cmp x y=some k/\decide (k<0)=C8 c x y){n:Nat}(hn:n<=1000):∀(B S:List Ac),(∀a∈S,P a)->(∀a∈B,P a)->S.length+B.length=n->AX (λs:Int × List Ac=>Kq 0 (n:Int) cmp s.1 s.2) ((S.length:Int),S++B)=some ((),B.foldl (λS x=>CU (C8 c) S.reverse x []) S)
 | [],S,_,_,h=>by refine H5 (o:=some ((),S)) ?_;show Kq 0 (n:Int) cmp (S.length:Int) (S++ [])=_;unfold Kq;rw[List.length_nil]at h;rw[if_neg (by simp;omega),AJ]
 |x::B,S,hS,hB,h=>by
  rw[Ao]at h;have hx:=hB x (by simp);have hp:=Va (lt:=C8 c) S.reverse x [];rw[List.reverse_reverse,AJ]at hp;have hl:=hp.length_eq;rw[Ao]at hl;have e1:=mW hc (S.length:Int) hx S.reverse B (λa ha=>hS a (by simpa using ha)) (by rw[List.length_reverse];omega);rw[List.length_reverse,List.reverse_reverse,CG (show S.length<n by omega) (by omega)]at e1;have e2:=kL (lt:=C8 c) S.reverse x [] B;rw[List.nil_append]at e2;rw[e2]at e1;have e3:Kq 0 (n:Int) cmp (S.length:Int) (S++x::B)=some (.inl (((S.length+1:Nat):Int),CU (C8 c) S.reverse x []++B)):=by unfold Kq;rw[if_pos (by simp;omega)];exact e1
  rw[O0 (body:=λs:Int × List Ac=>Kq 0 (n:Int) cmp s.1 s.2) e3,<-hl,List.foldl_cons];exact mD hc hn B _ (λa ha=>by
   rcases Ad.1 (hp.mem_iff.1 ha)with rfl|h
   ·exact hx
   ·exact hS a h) (λa ha=>hB a (by simp[ha])) (by omega)
theorem zwJ{c:Int}{cmp:Ac->Ac->Option Int}{P:Ac->Prop}(hc:∀x y,P x->P y-> ∃k,cmp x y=some k/\decide (k<0)=C8 c x y){l:List Ac}(hl:l.length<=19)(hP:∀a∈l,P a):Tz l cmp=some ((),HI (C8 c) l):=by
 have hi:Q8 l 0 (l.length:Int) cmp=some ((),HI (C8 c) l):=by
  unfold Q8;rw[show IntKind.i64.wrap ((0:Int)+1)=((1:Nat):Int)from by rw[Ch (by omega) (by omega)];rfl];cases l with
  |nil=>refine H5 (o:=some ((),[])) ?_;show Kq 0 _ cmp _ []=_;unfold Kq;rw[if_neg (by simp)]
  |cons x B=>have:=mD hc (n:=(x::B).length) (by omega) B [x] (λa ha=>hP a (by simp at ha;simp[ha])) (λa ha=>hP a (by simp[ha])) (by simp;omega);exact this
 have e1:Tt l (l.length:Int) cmp=some ((),HI (C8 c) l):=by unfold Tt;refine H5 (o:=some ((),HI (C8 c) l)) ?_;show XR (l.length:Int) cmp 0 20 l=_;unfold XR eA;rw[if_neg (by simp;omega),hi,Aa];refine congrArg (λo=>some (Sum.inr o)) (H5 (o:=some ((),HI (C8 c) l)) ?_);show XS (l.length:Int) cmp 20 (HI (C8 c) l)=_;unfold XS;rw[if_neg (by simp;omega)]
 unfold Tz;rw[e1,Aa]
theorem kD{t:Ak}{l:List Ai}{c:Int}{low high:Am}(hT:Eu t)(hl:Ja l)(hf:A4 t=true->(AS t l).length<=19)(h1:low.length<=2000000)(h2:high.length<=2000000):Oy t l c low high=some (HR t l c low high):=by
 have hc:=hT.ew;unfold Oy HR PC;rw[Z6 hT,Aa];cases hg:A4 t with
 |false=>rfl
 |true=>
  rw[if_pos rfl,aN hl,Aa];cases hr:Dg l with
  |false=>rfl
  |true=>
   rw[if_pos rfl,Ch (by omega) (by omega),Nc,Aa];cases hi:C7 c 1 ((t.aq.length:Int)-1)with
   |false=>rfl
   |true=>
    rw[if_pos rfl,I5 h1,Aa];cases BO:field low with
    |false=>rfl
    |true=>
     rw[if_pos rfl,I5 h2,Aa];cases field high with
     |false=>rfl
     |true=>
      have hb:=D0.1 hi;have Tg:=hf hg;have BS:=Nk (t:=t) (Hc hr);have hD:Ks (AS t l) (λy0_=>TZ y0_ c low high)=some ((AS t l).filter (Fg c low high)):=by
       unfold Ks;rw[A7 (by omega),Zk (λr=> !Fg c low high r) (λr hr=>by unfold TZ;rw[(FZ (BS r hr) (by omega) hb.2).1,Aa];unfold Fg Tn;rw[LH];simp)]
       simp
      rw[if_neg (by simp),Z8 (M6 (H4 hg)) hl.1 (Hc hr),Aa,hD,Aa,zwJ (P:=Fz t) (c:=c) (λx y hx hy=>zyE hb.1 hb.2 hx hy) (by have:=List.length_filter_le (Fg c low high) (AS t l);omega) (λr hr=>BS r (List.mem_filter.1 hr).1),Aa]
      rfl
theorem zzf{β:Type}{n:Nat}{body:Int->Option (Int ⊕ Option β)}{o:Option β}(hs:∀i:Nat,i<n->body i=some (.inl ((i+1:Nat):Int)))(he:body n=some (.inr o)):AX body 0=o:=by
 have hk:∀k i:Nat,i+k=n->AX body (i:Int)=o:=by
  intro k
  induction k with
  |zero=>
   intro i h;obtain rfl:i=n:=by omega
   exact H5 he
  |succ k ih=>intro i h;rw[O0 (hs i (by omega))];exact ih (i+1) (by omega)
 exact hk n 0 (by omega)
theorem gF{t:Ak}{l:List Ai}{c:Int}{low high:Am}(hl:l.length<=2000000)(ht:∀w∈l,Ge w):(HR t l c low high).1.length<=2000000/\ ∀r∈(HR t l c low high).1,r.ae.length<=2000000:=by
 unfold HR;split
 ·rename_i h;have hg:=(U3.1 h).1;have hc:=(G5 hg).ew;have h1:=Ni t l;have h2:=(Y1 (lt:=C8 c) ((AS t l).filter (Fg c low high)) []).length_eq;have h3:=List.length_filter_le (Fg c low high) (AS t l);rw[AJ]at h2;refine⟨by show(HI _ _).length<=_;unfold HI;omega,λr hr=> ?_⟩;have hm:=Nk ht r (List.mem_filter.1 (Zh.1 hr)).1;rw[hm.len];omega
 ·simp
theorem zI{t:Ak}{l:List Ai}{s:B0}:(Hl t l s).1.length<=2000000/\ ∀r∈(Hl t l s).1,r.ae.length<=2000000:=by
 unfold Hl;by_cases h:A4 t=true/\Gb t s=true/\Dg l=true
 ·rw[if_pos h];by_cases k:s.aw=1
  ·rw[if_pos k];simp
  ·rw[if_neg k];have:=zya (t:=t) (s:=s) h.2.2;have hc:=(G5 h.1).ew;refine⟨by omega,λr hr=> ?_⟩;have:=(iN h.1 (this.2 r hr)).len;omega
 ·rw[if_neg h];simp
theorem zzk{t:Ak}{l:List Ai}{s:B0}(hT:Eu t)(hL:Ja l)(hS:LI s)(hf:A4 t=true->(AS t l).length<=19):TY (t,l,s) (Hl t l s)=some true:=by
 unfold TY;refine oI (λ_=>rfl) λhq=> ?_;simp only[Bool.or_eq_false_iff,Bool.not_eq_false',bne_eq_false_iff_eq]at hq;obtain⟨h2,k3⟩:=hq;unfold Hl at h2;by_cases h:A4 t=true/\Gb t s=true/\Dg l=true
 case neg=>rw[if_neg h]at h2;cases h2
 have ea:Hl t l s=Ji t l s:=by unfold Hl;rw[if_pos h,if_neg (by omega)]
 rw[if_pos h,if_neg (by omega)]at h2;obtain⟨hg,G1,hr⟩:=h;have ev:Ji t l s=(LS t l s,true):=by
  unfold Ji at h2 ⊢;rw[if_neg (by omega),if_neg (by omega)]at h2 ⊢;by_cases hh:Pz t s.ay=true
  ·rw[if_pos hh]
  ·rw[if_neg hh]at h2;cases h2
 rw[ea,ev];unfold Gb at G1;rw[if_neg (by omega),if_neg (by omega),if_pos k3]at G1;simp only[Ae,AN]at G1;obtain⟨_,cY,BO,F4⟩:=G1;have hI:L2 t s.ay=true:=by unfold L2;rw[hg];simpa using cY
 obtain⟨x,hx,n1,n2,n3⟩:=zyM hI;obtain⟨x',e1,e2,e3⟩:=R1 cY;have rV:x'=x:=by have:=hx.at_;rw[e1]at this;injection this
 subst rV;have hn:CO s.ay 1=true:=by have:=(LC hg e3).1;rwa[hx.name]at this
 have hh:UK t s.ay 2 l=some (holds t s.ay x' 2 l,true):=by
  unfold UK;have ha:VR t s.ay l=true:=by unfold VR;rw[hI,hr];rfl
  rw[zvR hT hL,Aa,ha,if_pos rfl,Nc,Aa,if_neg (by simp[C7]),zv5 hT n1 (by omega) n3 hx hL.1 (Hc hr),Aa]
 have hi:UN t s.ay=some (x',true):=by unfold UN;rw[aW hT,Aa,ZN hT,Aa,hg,if_neg (by simp;omega),hx.at_,Aa]
 have hs:Oy t l x'.a7 s.bw s.a8=some (Ib t l x'.a7 s.bw s.a8,true):=by rw[kD hT hL hf hS.low hS.high];unfold HR;rw[if_pos (U3.2 ⟨hg,hr,⟨hx.c0,hx.c1⟩,BO,F4⟩)]
 dsimp only;rw[hh,Aa,hi,Aa];dsimp only;rw[hs,Aa];dsimp only;cases hb:holds t s.ay x' 2 l with
 |false=>rfl
 |true=>rw[if_pos rfl,if_pos rfl,if_pos rfl,if_pos rfl,zvq hg hr hn hb];have:=gF (t:=t) (c:=x'.a7) (low:=s.bw) (high:=s.a8) hL.1 (Hc hr);unfold HR at this;rw[if_pos (U3.2 ⟨hg,hr,⟨hx.c0,hx.c1⟩,BO,F4⟩)]at this;rw[YB this.1 this.2,Aa]
theorem zuR(a b:List Int)(ha:To ND a)(hb:To ND b):Ut a b=some true:=by
 unfold Ut;refine oI (λ_=>rfl) λ_=> ?_;obtain⟨⟨t,l,s⟩,hd,hT,⟨hL,pO⟩,hS⟩:=zF ha.2;obtain⟨⟨u,m,c,lo,hi⟩,Wu,hU,⟨hM,pP⟩,BO,F4⟩:=zE hb.2;dsimp only at hT hL pO hS hU hM pP BO F4;have pW:A4 t=true->(AS t l).length<=19:=λhg=>by have:=ZZ hg l;omega
 have pX:A4 u=true->(AS u m).length<=19:=λhg=>by have:=ZZ hg m;omega
 have hj:=zzk hT hL.small hS.small pW;have hv:=zI (t:=t) (l:=l) (s:=s);have hw:=gF (t:=u) (c:=c) (low:=lo) (high:=hi) hM.small.1 hM.each;rw[hd,Aa];dsimp only;rw[zx0 hT hL.small hS.small,Aa,zxK hT hL.small hS.small,Aa,Wu,Aa];dsimp only;rw[kD hU hM.small pX (by omega) (by omega),Aa,zwr hU hM.small (by omega) (by omega),Aa,if_neg (by simp),YB hv.1 hv.2,Aa,if_pos rfl,if_neg (by simp),YB hw.1 hw.2,Aa,if_neg (by simp)];by_cases hs:PC u m c lo hi=true
 case neg=>
  have e:HR u m c lo hi=([],false):=by unfold HR;rw[if_neg hs]
  rw[e,if_neg (by simp)];exact hj
 have e:HR u m c lo hi=(Ib u m c lo hi,true):=by unfold HR;rw[if_pos hs]
 obtain⟨hg,hr,⟨c0,c1⟩,_,_⟩:=U3.1 hs;rw[e]at hw ⊢;rw[if_pos rfl];have BS:=Nk (t:=u) (Hc hr);have hm:∀r∈Ib u m c lo hi,Fz u r/\Fg c lo hi r=true:=λr hr=>by have:=List.mem_filter.1 (Zh.1 hr);exact⟨BS r this.1,this.2⟩
 have Lh:=ztb u m c lo hi;generalize Ib u m c lo hi=Z at hw hm Lh;have hw:Z.length<=2000000:=hw.1;refine zzf (n:=Z.length) (body:=λs':Int=>Oi (t,l,s) (Hl t l s) (u,m,c,lo,hi) (Z,true) s') (λi Fm=> ?_) ?_
 ·show Oi (t,l,s) (Hl t l s) (u,m,c,lo,hi) (Z,true) i=_;obtain⟨dI,S6⟩:=hm _ (Bu Fm);unfold Fg Tn at S6;simp only[Bt,Bool.or_eq_false_iff]at S6;have q1:Op.bytesLess (Aj Z[i] c) lo=false:=S6.1;have q2:Op.bytesLess hi (Aj Z[i] c)=false:=S6.2;have hlen:=dI.len;unfold Oi;dsimp only;rw[if_pos (by simpa using Fm),BZ Fm,Aa,if_neg (by simp;omega),(FZ dI (by omega) c1).1,Aa,CG Fm (by omega),LH,q2,q1];by_cases h0:i=0
  ·rw[if_neg (by simp;omega),if_neg (by simp)]
  ·obtain⟨k,rfl⟩:∃k,i=k+1:=⟨i-1,by omega⟩
   obtain⟨rI,_⟩:=hm _ (Bu (show k<Z.length by omega));have hp:Op.bytesLess (Aj Z[k+1] c) (Aj Z[k] c)=false:=List.pairwise_iff_getElem.1 Lh k (k+1) (by omega) Fm (by omega);rw[if_pos (decide_eq_true (by omega)),if_neg (by simp),if_neg (by simp),show IntKind.i64.wrap (((k+1:Nat):Int)-1)=(k:Int)from by rw[Ch (by omega) (by omega)];omega,BZ (show k<Z.length by omega),Aa,(FZ rI (by omega) c1).1,Aa,LH,hp,if_neg (by simp)]
 ·show Oi (t,l,s) (Hl t l s) (u,m,c,lo,hi) (Z,true) Z.length=_;unfold Oi;rw[if_neg (by simp)];exact congrArg (λo=>some (Sum.inr o)) hj
end
end Go.Proofs.YtkpifpljpoochaaGreatDoor
