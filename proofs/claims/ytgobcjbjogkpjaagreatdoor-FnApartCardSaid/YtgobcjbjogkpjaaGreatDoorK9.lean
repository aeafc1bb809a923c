/- Parts of a proof, joined: N6, N7, N8, N9, N10, N11, N12, N13, N14, N15, N16, PK, NK, NP, NQ, NX, NS, NT, NV, NU, NH, NDA. -/
import Derived.Test.YtgobcjbjogkpjaaGreatDoorK8
section
namespace Go.Proofs.YtgobcjbjogkpjaaGreatDoor
open Go.RowKit
set_option maxRecDepth 100000
def small (b:UInt8):Bool:= !(decide ((b.toNat:Int)<97)||decide ((b.toNat:Int)>122))
def zaS (s:Str) (n:Int):Bool:=s.all small&&inB s.length 1 n
theorem zmq {s:Str} {n:Int} (h:s.length≤2000000):zco s n=some (zaS s n):=by
 unfold zco
 rw [ziO (xs:=s) small false (zeC s n) (fun i hi=>by
  simp only [zeA,Int.ofNat_lt,hi,decide_true,if_true,zaj hi,Option.bind_some,zcJ hi (by omega:s.length≤_)]
  rw [show(decide ((s[i].toNat:Int)<97)||decide ((s[i].toNat:Int)>122))= !small s[i] by simp [small]]
  cases small s[i]<;>rfl) (by simp [zeA])]
 unfold zeC zaS inB
 cases s.all small<;>simp
theorem zmJ {s:Str} {n:Int} (h:s.length≤2000000):zcn s n=some (zaS s n):=by
 unfold zcn
 rw [ziO (xs:=s) small false (zeD s n) (fun i hi=>by
  simp only [zeE,Int.ofNat_lt,hi,decide_true,if_true,zaj hi,Option.bind_some,zcJ hi (by omega:s.length≤_)]
  rw [show(decide ((s[i].toNat:Int)<97)||decide ((s[i].toNat:Int)>122))= !small s[i] by simp [small]]
  cases small s[i]<;>rfl) (by simp [zeE])]
 simp only [zeD,ziV,Option.bind_some,zaS]
 cases s.all small<;>simp
theorem zBo {xs:List Str} {s:Str} (h:xs.length≤2000000):zgM xs s=some (zho (· ==s) xs):=by
 unfold zgM
 refine zq3 (· ==s) (fun i hi=> ?_) (by simp [zhJ])
 simp only [zhJ,Int.ofNat_lt,hi,decide_true,if_true,zaj hi,Option.bind_some,zcJ hi (by omega:xs.length≤_)]
 cases xs[i]==s<;>rfl
theorem zyn {xs:List Str} {s:Str} (h:xs.length≤2000000):za8 xs s=some (zho (· ==s) xs):=by
 unfold za8
 refine zq3 (· ==s) (fun i hi=> ?_) (by simp [zbs])
 simp only [zbs,Int.ofNat_lt,hi,decide_true,if_true,zaj hi,Option.bind_some,zcJ hi (by omega:xs.length≤_)]
 rw [show(s==xs[i])=(xs[i]==s)from BEq.comm]
 cases xs[i]==s<;>rfl
theorem zxX (xs:List Str) (s:Str):(xs.any fun x=>x==s)=xs.contains s:=by
 rw [List.contains_eq_any_beq]
 congr 1
 funext x
 exact BEq.comm
theorem zzH {xs:List Str} {s:Str} (h:xs.length≤2000000):zaD xs s=some (xs.contains s):=by
 simp only [zaD,zyn h,Option.bind_some,ziN,zxX]
def zsi (cs:List Str) (i:Nat):Bool:=zaS ((cs[i]?).getD []) 3&& !(cs.take i).contains ((cs[i]?).getD [])
def zkN (cs:List Str):Bool:=(List.range cs.length).all (zsi cs)
def zkY (t:zab) (i:Nat):Bool:=
 let x:=(t.fIdxs[i]?).getD ⟨[],0,0⟩
 zaS x.fName 1&&inB x.fCol 1 ((t.fCols.length:Int)-1)&&inB x.fStage 0 3&&(i==0||Op.bytesLess ((t.fIdxs[i-1]?).getD ⟨[],0,0⟩).fName x.fName)
def zac (t:zab):Bool:=zaS t.fName 1&&(zkN t.fCols&&inB t.fCols.length 2 4)&&decide ((t.fIdxs.length:Int)≤3)&&(List.range t.fIdxs.length).all (zkY t)
structure zbA (t:zab):Prop where
 name:t.fName.length≤2000000
 cols:t.fCols.length≤2000000
 col: ∀c∈t.fCols,c.length≤2000000
 idxs:t.fIdxs.length≤2000000
 idx: ∀x∈t.fIdxs,x.fName.length≤2000000
theorem zAs {α:Type} (xs:List α) (i:Nat):zd8 xs 0 i=xs.take i:=by simp [zd8]
theorem zAJ {cs:List Str} (h:cs.length≤2000000) (hc: ∀c∈cs,c.length≤2000000):zgH cs=some (zkN cs&&inB cs.length 2 4):=by
 unfold zgH
 rw [zfQ (n:=cs.length) (zsi cs) false (zgk cs) ?_ (by simp [zgm])]
 ·simp only [zgk,zm4,Option.bind_some,zkN]
  cases(List.range cs.length).all (zsi cs)<;>simp
 ·intro i hi
  unfold zgm zsi
  rw [if_pos (by simpa using hi),zaj hi,Option.bind_some,zmq (hc _ (List.getElem_mem hi)),Option.bind_some,zah (by omega),zAs,zBo (by rw [List.length_take];omega),Option.bind_some,ziN,zxX,zcJ hi (by omega)]
  simp only [List.getElem?_eq_getElem hi,Option.getD_some]
  cases zaS cs[i] 3<;>cases(cs.take i).contains cs[i]<;>rfl
theorem znJ {t:zab} (h:zbA t):zcc t=some (zac t):=by
 have hw:=zbo (n:=(t.fCols.length:Int)-1) (by omega) (by have:=h.cols;omega)
 have hn:=h.idxs
 have hl:zaA (fun s:Int=>zdu t s) 0=some ((List.range t.fIdxs.length).all (zkY t)):=by
  rw [zfQ (n:=t.fIdxs.length) (zkY t) false (some true) ?_ (by simp [zdu])]
  ·cases(List.range t.fIdxs.length).all (zkY t)<;>rfl
  ·intro i hi
   unfold zkY
   simp only [zdu,Int.ofNat_lt,hi,decide_true,if_true,zaj hi,Option.bind_some,zmq (h.idx _ (List.getElem_mem hi)),zm4,hw,zcJ hi (by omega:t.fIdxs.length≤_),List.getElem?_eq_getElem hi,Option.getD_some]
   by_cases h0:i=0
   ·subst h0
    cases zaS t.fIdxs[0].fName 1<;>cases inB t.fIdxs[0].fCol 1 ((t.fCols.length:Int)-1)<;>cases inB t.fIdxs[0].fStage 0 3<;>rfl
   ·have hp:(i:Int)>0:=by omega
    have hi1:i-1<t.fIdxs.length:=by omega
    have hb:(i==0)=false:=by simpa using h0
    simp only [hp,decide_true,if_true,zrX (Nat.pos_of_ne_zero h0) (by omega:i≤2000000),zaj hi1,Option.bind_some,List.getElem?_eq_getElem hi1,Option.getD_some,hb,Bool.false_or]
    cases zaS t.fIdxs[i].fName 1<;>cases inB t.fIdxs[i].fCol 1 ((t.fCols.length:Int)-1)<;>cases inB t.fIdxs[i].fStage 0 3<;>cases Op.bytesLess t.fIdxs[i-1].fName t.fIdxs[i].fName<;>rfl
 unfold zcc zac
 rw [zmq h.name,Option.bind_some,zAJ h.cols h.col,hl]
 by_cases hk:(t.fIdxs.length:Int)≤3
 ·have hk': ¬(t.fIdxs.length:Int)>3:=by omega
  simp only [hk,hk',decide_true,decide_false,Bool.or_false,Bool.and_true]
  cases zaS t.fName 1<;>cases(zkN t.fCols&&inB t.fCols.length 2 4)<;>simp
 ·have hk':(t.fIdxs.length:Int)>3:=by omega
  simp only [hk,hk',decide_true,decide_false,Bool.or_true,Bool.and_false,Bool.false_and]
  cases zaS t.fName 1<;>simp
theorem znI {t:zab} (h:zbA t):zb9 t=some (zac t):=by
 have hw:=zbo (n:=(t.fCols.length:Int)-1) (by omega) (by have:=h.cols;omega)
 have hn:=h.idxs
 have hm:=h.cols
 have hl:zaA (fun s:Int=>zdy t s) 0=some ((List.range t.fIdxs.length).all (zkY t)):=by
  rw [zfQ (n:=t.fIdxs.length) (zkY t) false (some true) ?_ (by simp [zdy])]
  ·cases(List.range t.fIdxs.length).all (zkY t)<;>rfl
  ·intro i hi
   unfold zkY
   simp only [zdy,zeN,Int.ofNat_lt,hi,decide_true,if_true,zaj hi,Option.bind_some,zmJ (h.idx _ (List.getElem_mem hi)),ziV,hw,zcJ hi (by omega:t.fIdxs.length≤_),List.getElem?_eq_getElem hi,Option.getD_some]
   by_cases h0:i=0
   ·subst h0
    cases zaS t.fIdxs[0].fName 1<;>cases inB t.fIdxs[0].fCol 1 ((t.fCols.length:Int)-1)<;>cases inB t.fIdxs[0].fStage 0 3<;>rfl
   ·have hp:(i:Int)>0:=by omega
    have hi1:i-1<t.fIdxs.length:=by omega
    have hb:(i==0)=false:=by simpa using h0
    simp only [hp,decide_true,if_true,zrX (Nat.pos_of_ne_zero h0) (by omega:i≤2000000),zaj hi1,Option.bind_some,List.getElem?_eq_getElem hi1,Option.getD_some,hb,Bool.false_or,zr6]
    cases zaS t.fIdxs[i].fName 1<;>cases inB t.fIdxs[i].fCol 1 ((t.fCols.length:Int)-1)<;>cases inB t.fIdxs[i].fStage 0 3<;>cases Op.bytesLess t.fIdxs[i-1].fName t.fIdxs[i].fName<;>rfl
 have hc:zaA (fun s:Int=>zdF t s) 0=some (zkN t.fCols&&(List.range t.fIdxs.length).all (zkY t)):=by
  rw [zfQ (n:=t.fCols.length) (zsi t.fCols) false (ze8 t) ?_ (by simp [zdF])]
  ·unfold ze8 zkN
   rw [hl]
   cases(List.range t.fCols.length).all (zsi t.fCols)<;>simp
  ·intro i hi
   unfold zdF zsi
   rw [if_pos (by simpa using hi),zaj hi,Option.bind_some,zmJ (h.col _ (List.getElem_mem hi)),Option.bind_some,zah (by omega),zAs,zzH (by rw [List.length_take];omega),Option.bind_some,zcJ hi (by omega)]
   simp only [List.getElem?_eq_getElem hi,Option.getD_some]
   cases zaS t.fCols[i] 3<;>cases(t.fCols.take i).contains t.fCols[i]<;>rfl
 unfold zb9 zac
 rw [zmJ h.name,Option.bind_some,ziV,Option.bind_some,hc]
 by_cases hk:(t.fIdxs.length:Int)≤3
 ·have hk': ¬(t.fIdxs.length:Int)>3:=by omega
  simp only [hk,hk',decide_true,decide_false,Bool.or_false,Bool.and_true]
  cases zaS t.fName 1<;>cases zkN t.fCols<;>cases inB t.fCols.length 2 4<;>simp
 ·have hk':(t.fIdxs.length:Int)>3:=by omega
  simp only [hk,hk',decide_true,decide_false,Bool.or_true,Bool.and_false,Bool.false_and]
  cases zaS t.fName 1<;>simp
theorem zuX {t:zab} {s:Str} (h:zbA t):zdz t s=some (zho (fun x:zbD=>x.fName==s) t.fIdxs):=by
 have hn:=h.idxs
 unfold zdz
 refine zq3 (fun x:zbD=>x.fName==s) (fun i hi=> ?_) (by simp [zg2])
 simp only [zg2,Int.ofNat_lt,hi,decide_true,if_true,zaj hi,Option.bind_some,zcJ hi (by omega:t.fIdxs.length≤_)]
 cases t.fIdxs[i].fName==s<;>rfl
theorem zzM {t:zab} {s:Str} (h:zbA t):zbM t s=some (zho (fun x:zbD=>x.fName==s) t.fIdxs):=by
 have hn:=h.idxs
 have e:zbk t.fIdxs (fun y0_=>zdl y0_ s)=some (zho (fun x:zbD=>x.fName==s) t.fIdxs):=zts (fun x:zbD=>x.fName==s) (fun x _=>rfl) (by omega)
 simp only [zbM,e,Option.bind_some]
end Go.Proofs.YtgobcjbjogkpjaaGreatDoor
end
section
namespace Go.Proofs.YtgobcjbjogkpjaaGreatDoor
open Go.RowKit
set_option maxRecDepth 100000
def zaR (c:UInt8):Str→List Str
 | []=> [[]]
 |b::s=>if b=c then []::zaR c s else(match zaR c s with| []=> [[b]]|x::xs=>(b::x)::xs)
theorem znV (c:UInt8) (s:Str):zaR c s≠ []:=by
 cases s with
 |nil=>simp [zaR]
 |cons b s=>simp only [zaR];split;simp;split<;>simp
theorem zdr {c:UInt8}: ∀{s:Str},(∀b∈s,b≠c)→zaR c s= [s]
 | [],_=>rfl
 |b::s,h=>by
  have e:=zdr (c:=c) (s:=s) fun x hx=>h x (List.mem_cons_of_mem _ hx)
  simp only [zaR,if_neg (h b (by simp)),e]
theorem zgT {c:UInt8}: ∀{p q:Str},(∀b∈p,b≠c)→zaR c (p++c::q)=p::zaR c q
 | [],q,_=>by simp [zaR]
 |b::p,q,h=>by
  have e:=zgT (c:=c) (p:=p) (q:=q) fun x hx=>h x (List.mem_cons_of_mem _ hx)
  simp only [List.cons_append,zaR,if_neg (h b (by simp)),e]
theorem zkg (c:UInt8) (s:Str):(zaR c s).length=s.count c+1:=by
 induction s with
 |nil=>rfl
 |cons b s ih=>
  simp only [zaR]
  by_cases h:b=c
  ·subst h;simp [ih]
  ·rw [if_neg h,List.count_cons_of_ne h]
   cases hs:zaR c s with
   |nil=>exact absurd hs (znV c s)
   |cons x xs=>rw [hs]at ih;simpa using ih
theorem zAS {α:Type} (xs:List α) (i j:Nat):zd8 xs (i:Int) (j:Int)=(xs.take j).drop i:=by simp [zd8]
def zCh (c:UInt8) (s:Str) (t:List Str × Nat) (i:Nat):List Str × Nat:=if(s[i]?).getD 0=c then(t.1++ [(s.take i).drop t.2],i+1)else t
theorem zuT {s:Str} {c:UInt8} (h:s.length≤2000000):zc2 s c.toNat=some (zaR c s):=by
 have h1:=zb1 (xs:=List.range s.length) (body:=fun t:List Str × Int × Int=>zcq s c.toNat t.1 t.2.1 t.2.2) (fun i (t:List Str × Nat)=>(t.1,(t.2:Int),i)) (zCh c s) (fun t=>zgc s t.2 t.1)
  (fun i t=>t.2≤i∧(∀b∈(s.take i).drop t.2,b≠c)∧t.1++zaR c (s.drop t.2)=zaR c s∧t.1.length≤i)
  (fun i hi t hI=>by
   rw [List.length_range]at hi
   obtain⟨I1,I2,I3,I4⟩:=hI
   have hw:=zcJ hi (by omega:s.length≤_)
   rw [List.getElem_range]
   constructor
   ·show zcq s c.toNat t.1 t.2 i=_
    unfold zcq zCh
    rw [if_pos (by simpa using hi),zaj hi,Option.bind_some,zBJ,hw,zAS,List.getElem?_eq_getElem hi,Option.getD_some]
    by_cases hc:s[i]=c
    ·have hr:((t.1.length:Int)+(([(s.take i).drop t.2]:List Str).length:Int))*16≤140737488355328∧(t.1.length:Int)+(([(s.take i).drop t.2]:List Str).length:Int)≤140737488355328:=by
      rw [List.length_singleton];omega
     rw [if_pos (by simpa using hc),zah (by omega),zah hr,if_pos hc]
    ·rw [if_neg (by simpa using hc),if_neg hc]
   ·unfold zCh
    rw [List.getElem?_eq_getElem hi,Option.getD_some]
    have htk:s.take (i+1)=s.take i++ [s[i]]:=by rw [List.take_succ_eq_append_getElem hi]
    have hd:(s.take (i+1)).drop t.2=(s.take i).drop t.2++ [s[i]]:=by
     rw [htk,List.drop_append_of_le_length (by rw [List.length_take];omega)]
    by_cases hc:s[i]=c
    ·rw [if_pos hc]
     refine⟨Nat.le_refl _,by simp, ?_,by simp;omega⟩
     have e:s.drop t.2=(s.take i).drop t.2++c::s.drop (i+1):=by
      have e0:s.drop t.2=(s.take i).drop t.2++s.drop i:=by
       conv=>lhs;rw [←List.take_append_drop i s]
       rw [List.drop_append_of_le_length (by rw [List.length_take];omega)]
      rw [e0,List.drop_eq_getElem_cons hi,hc]
     rw [e,zgT I2]at I3
     simpa using I3
    ·rw [if_neg hc]
     refine⟨by omega, ?_,I3,by omega⟩
     rw [hd]
     intro b hb
     rcases List.mem_append.1 hb with hb|hb
     ·exact I2 b hb
     ·simp at hb;subst hb;exact hc)
  (fun t hI=>by
   show zcq s c.toNat t.1 t.2 ((List.range s.length).length:Nat)=_
   unfold zcq
   rw [if_neg (by simp)]) (s:=([],0)) ⟨Nat.le_refl _,by simp,by simp,by simp⟩
 generalize (List.range s.length).foldl (zCh c s) ([],0)=t at h1
 rw [List.length_range]at h1
 obtain⟨h2,I1,I2,I3,I4⟩:=h1
 unfold zc2
 refine Eq.trans h2 ?_
 unfold zgc
 have hw:zd8 s (t.2:Int) (s.length:Int)=s.drop t.2:=by rw [zAS,List.take_length]
 have hr:((t.1.length:Int)+(([s.drop t.2]:List Str).length:Int))*16≤140737488355328∧(t.1.length:Int)+(([s.drop t.2]:List Str).length:Int)≤140737488355328:=by
  rw [List.length_singleton];omega
 rw [hw,zah (by omega),zah hr,←I3]
 rw [List.take_length]at I2
 rw [zdr I2]
theorem zfW (l:Str) (c:UInt8):(Lib.indexByte l c= -1∧ ∀b∈l,b≠c)∨ ∃p q:Str,l=p++c::q∧(∀b∈p,b≠c)∧Lib.indexByte l c=p.length:=by
 induction l with
 |nil=>exact .inl ⟨rfl,by simp⟩
 |cons b l ih=>
  unfold Lib.indexByte
  by_cases hb:b=c
  ·subst hb
   exact .inr ⟨[],l,by simp,by simp,by simp⟩
  ·have h1:(b==c)=false:=by simpa using hb
   rw [h1]
   simp only [Bool.false_eq_true,if_false]
   rcases ih with⟨e,h⟩|⟨p,q,rfl,h,e⟩
   ·refine .inl ⟨by simp [e],fun x hx=> ?_⟩
    rcases List.mem_cons.1 hx with rfl|hx
    ·exact hb
    ·exact h x hx
   ·refine .inr ⟨b::p,q,by simp,fun x hx=> ?_, ?_⟩
    ·rcases List.mem_cons.1 hx with rfl|hx
     ·exact hb
     ·exact h x hx
    ·rw [e]
     have:((p.length:Int)== -1)=false:=by rw [beq_eq_false_iff_ne];omega
     rw [this]
     simp
theorem zqH {c:UInt8} {s:Str} (h: ∀b∈s,b≠c):s.count c=0:=List.count_eq_zero.2 fun hc=>h c hc rfl
theorem zzv {c:UInt8} {p q:Str} (h: ∀b∈p,b≠c):(p++c::q).count c=q.count c+1:=by
 rw [List.count_append,zqH h,List.count_cons_self];omega
theorem zsk {α:Type} {a:List α} {i:Nat} (x:α) (h:i<a.length):(a.set i x).take (i+1)=a.take i++ [x]:=by
 rw [List.take_succ_eq_append_getElem (by simpa using h),List.getElem_set_self,List.take_set,List.set_eq_of_length_le (by rw [List.length_take];omega)]
theorem zBP {a b:Int} (h: ¬a<b):(bif decide (a<b)then a else b)=b:=by simp [h]
theorem zyF {s:Str} {c:UInt8} (h:s.length≤2000000):zem s [c]=some (zaR c s):=by
 have hcl:s.count c≤s.length:=List.count_le_length
 have hw1:IntKind.i64.wrap ((s.count c:Int)+1)=(s.count c:Int)+1:=zbo (by omega) (by omega)
 have hw2:IntKind.i64.wrap ((s.length:Int)+1)=(s.length:Int)+1:=zbo (by omega) (by omega)
 have hbif:(bif decide ((s.length:Int)+1<(s.count c:Int)+1)then(s.length:Int)+1 else(s.count c:Int)+1)=(s.count c:Int)+1:=zBP (by omega)
 have hw3:IntKind.i64.wrap ((s.count c:Int)+1-1)=(s.count c:Int):=by rw [zbo (by omega) (by omega)];omega
 have key: ∀(n:Nat) (r:Str) (a:List Str) (i:Nat),r.count c=n→r.length≤s.length→a.length=s.count c+1→i+n=s.count c→a.take i++zaR c r=zaR c s→
   zaA (fun t:Str × Int × List Str=>zbp s [c] 0 ((s.count c:Int)+1) t.1 t.2.1 t.2.2) (r,(i:Int),a)=some (zaR c s):=by
  intro n
  induction n with
  |zero=>
   intro r a i hr hl ha hi hI
   have hr0: ∀b∈r,b≠c:=fun b hb e=>by subst e;exact List.count_eq_zero.1 hr hb
   have hia:i<a.length:=by omega
   have hwi:=zcJ hia (by omega)
   have hb:zbp s [c] 0 ((s.count c:Int)+1) r i a=some (.inr (some (zaR c s))):=by
    unfold zbp
    rw [hw2,hbif,hw3,if_neg (by simp;omega)]
    unfold zeb
    rw [zaj hia,Option.bind_some,hwi,Int.toNat_natCast,zah (by rw [List.length_set];omega),zAs,zsk r hia,←hI,zdr hr0]
   rw [zdZ]
   dsimp only
   rw [hb]
  |succ n ih=>
   intro r a i hr hl ha hi hI
   rcases zfW r c with⟨_,h0⟩|⟨p,q,rfl,hp,hx⟩
   ·rw [zqH h0]at hr;omega
   ·rw [zzv hp]at hr
    have hia:i<a.length:=by omega
    have hwi:=zcJ hia (by omega)
    simp only [List.length_append,List.length_cons]at hl
    have hv0:IntKind.i64.wrap ((p.length:Int)+0)=(p.length:Int):=by rw [zbo (by omega) (by omega)];omega
    have hv1:IntKind.i64.wrap ((p.length:Int)+(([c]:Str).length:Int))=((p.length+1:Nat):Int):=by rw [List.length_singleton,zbo (by omega) (by omega)];omega
    have hb:zbp s [c] 0 ((s.count c:Int)+1) (p++c::q) i a=some (.inl (q,((i+1:Nat):Int),a.set i p)):=by
     unfold zbp
     have hidx:zfD (p++c::q) [c]=some (p.length:Int):=by simp [zfD,zaI,hx]
     rw [hw2,hbif,hw3,if_pos (by simp;omega),hidx,Option.bind_some,if_neg (by simp),hv0,zah (by rw [List.length_append];omega),zaj hia,Option.bind_some,hv1,zah (by rw [List.length_append,List.length_cons];omega),hwi,Int.toNat_natCast,zAS,zAs,List.take_length]
     have e1:(p++c::q).drop (p.length+1)=q:=by simp
     have e2:(p++c::q).take p.length=p:=by simp
     rw [e1,e2]
    rw [zdZ]
    dsimp only
    rw [hb]
    refine ih q (a.set i p) (i+1) (by omega) (by omega) (by simpa using ha) (by omega) ?_
    rw [zsk p hia,←hI,zgT hp]
    simp
 have hc1:zfr s [c]=some ((s.count c:Nat):Int):=rfl
 have hz:(((-1:Int))==0)=false:=rfl
 have hne:(([c]:Str)==([]:Str))=false:=rfl
 unfold zem zfP
 rw [hz,hne,if_neg (by simp),if_neg (by simp),if_pos (by simp),hc1,Option.bind_some,hw1]
 unfold zei
 rw [hw2,hbif,zah (by omega)]
 exact zaK (key (s.count c) s (List.replicate ((s.count c:Int)+1).toNat []) 0 rfl (Nat.le_refl _) (by simp) (by omega) (by simp))
end Go.Proofs.YtgobcjbjogkpjaaGreatDoor
end
section
namespace Go.Proofs.YtgobcjbjogkpjaaGreatDoor
open Go.RowKit
set_option maxRecDepth 100000
def field (s:Str):Bool:=inB s.length 1 3&&zhN s []
theorem zrY {s:Str} (h:s.length≤2000000):zdf s=some (field s):=by
 simp only [zdf,zm4,Option.bind_some,zop h (more:= []) (by decide),field]
 cases inB s.length 1 3<;>simp
theorem znD {s:Str} (h:s.length≤2000000):zdR s=some (field s):=by
 simp only [zdR,ziV,Option.bind_some,zmy h,field]
 cases inB s.length 1 3<;>simp
theorem zwt (sep x y:Str) (r:List Str):Lib.join (x::(r++ [y])) sep=Lib.join (x::r) sep++sep++y:=by
 rw [Lib.join_cons,Lib.join_cons]
 simp [Lib.joinTail]
theorem zwX {xs:List Str} {sep:Str} {i:Nat} (hi:i<xs.length):Lib.join (xs.take (i+1)) sep=if i=0 then xs[i]else Lib.join (xs.take i) sep++sep++xs[i]:=by
 rw [List.take_succ_eq_append_getElem hi]
 cases xs with
 |nil=>simp at hi
 |cons x xs=>
  cases i with
  |zero=>simp [Lib.join_cons,Lib.joinTail]
  |succ i=>
   rw [List.take_succ_cons,List.cons_append,zwt,if_neg (by omega)]
def zdQ:List Str→Nat
 | []=>0
 |x::xs=>x.length+zdQ xs
theorem zr9 (xs:List Str) (sep:Str):(Lib.join xs sep).length≤zdQ xs+xs.length*sep.length:=by
 cases xs with
 |nil=>simp [Lib.join_nil]
 |cons x xs=>
  rw [Lib.join_cons,List.length_append]
  have: ∀r:List Str,(Lib.joinTail sep r).length=zdQ r+r.length*sep.length:=by
   intro r
   induction r with
   |nil=>simp [Lib.joinTail,zdQ]
   |cons y r ih=>
    have e:Lib.joinTail sep (y::r)=sep++y++Lib.joinTail sep r:=by simp [Lib.joinTail]
    rw [e,List.length_append,List.length_append,ih,zdQ,List.length_cons,Nat.succ_mul]
    omega
  rw [this,zdQ,List.length_cons,Nat.succ_mul]
  omega
theorem zun (xs:List Str) (i:Nat):zdQ (xs.take i)≤zdQ xs:=by
 induction xs generalizing i with
 |nil=>simp [zdQ]
 |cons x xs ih=>
  cases i with
  |zero=>simp [zdQ]
  |succ i=>simp only [List.take_succ_cons,zdQ];have:=ih i;omega
theorem zqs {xs:List Str} {i:Nat} (hi:i<xs.length):xs[i].length≤zdQ xs:=by
 induction xs generalizing i with
 |nil=>simp at hi
 |cons x xs ih=>
  cases i with
  |zero=>simp [zdQ]
  |succ i=>simp only [List.getElem_cons_succ,zdQ];have:=ih (i:=i) (by simpa using hi);omega
def Small (xs:List Str):Prop:=xs.length≤2000000∧zdQ xs≤2000000
theorem zAU {xs:List Str} {c:UInt8} (h:Small xs):zim xs [c]=some (Lib.join xs [c]):=by
 obtain⟨h1,h2⟩:=h
 have hl:=zb1 (xs:=List.range xs.length) (body:=fun s:Str × Int=>zcs xs [c] s.1 s.2) (fun i (o:Str)=>(o,i)) (fun o i=>if i=0 then(xs[i]?).getD []else o++ [c]++(xs[i]?).getD []) (fun o=>some o) (fun i o=>o=Lib.join (xs.take i) [c])
  (fun i hi o hI=>by
   rw [List.length_range]at hi
   rw [List.getElem_range]
   have hI:o=Lib.join (xs.take i) [c]:=hI
   have hlen:o.length≤1010000000:=by
    have e1:=zr9 (xs.take i) [c]
    have e2:=zun xs i
    rw [List.length_take,List.length_singleton,Nat.mul_one]at e1
    rw [hI];omega
   have hg:=zqs hi
   have hw:=zcJ hi (by omega:xs.length≤_)
   rw [List.getElem?_eq_getElem hi,Option.getD_some]
   refine⟨?_,by show _=_;rw [zwX hi,hI]⟩
   show zcs xs [c] o i=_
   unfold zcs
   rw [if_pos (by simpa using hi),zaj hi,Option.bind_some,hw]
   by_cases h0:i=0
   ·subst h0
    have ho:o= []:=by rw [hI];rfl
    subst ho
    rw [if_neg (by simp),zah (by simp;omega),if_pos rfl];rfl
   ·rw [if_pos (by simp;omega),zah (by rw [List.length_singleton];omega),zah (by rw [List.length_append,List.length_singleton];omega),if_neg h0])
  (fun o _=>by
   show zcs xs [c] o ((List.range xs.length).length:Nat)=_
   unfold zcs
   rw [if_neg (by simp)]) (s:= []) (by simp [Lib.join_nil])
 generalize (List.range xs.length).foldl (fun o i=>if i=0 then(xs[i]?).getD []else o++ [c]++(xs[i]?).getD []) []=o at hl
 obtain⟨h3,h4⟩:=hl
 have h4:o=Lib.join (xs.take (List.range xs.length).length) [c]:=h4
 rw [List.length_range,List.take_length]at h4
 subst h4
 exact h3
theorem zAd {xs:List Str} {c:UInt8} (h:Small xs):zgK xs [c]=some (Lib.join xs [c]):=by
 obtain⟨h1,h2⟩:=h
 have:=zr9 xs [c]
 rw [List.length_singleton,Nat.mul_one]at this
 exact zah ⟨by omega,by omega⟩
end Go.Proofs.YtgobcjbjogkpjaaGreatDoor
end
section
namespace Go.Proofs.YtgobcjbjogkpjaaGreatDoor
open Go.RowKit
set_option maxRecDepth 100000
theorem Small.each {xs:List Str} (h:Small xs): ∀x∈xs,x.length≤2000000:=by
 intro x hx
 obtain⟨i,hi,rfl⟩:=List.getElem_of_mem hx
 exact Nat.le_trans (zqs hi) h.2
def zam (t:zab) (r:za5):Bool:=((r.fVals.length:Int)==t.fCols.length)&&r.fVals.all field
theorem zhD {t:zab} {r:za5} (h:Small r.fVals):zbV t r=some (zam t r):=by
 have h1:=h.1
 unfold zbV
 rw [ziO (xs:=r.fVals) field false (zgf t r) (fun i hi=>by
  simp only [zge,Int.ofNat_lt,hi,decide_true,if_true,zaj hi,Option.bind_some,zrY (h.each _ (List.getElem_mem hi)),zcJ hi (by omega:r.fVals.length≤_)]
  cases field r.fVals[i]<;>rfl) (by simp [zge])]
 unfold zgf zam
 cases r.fVals.all field<;>simp
theorem zhx {t:zab} {r:za5} (h:Small r.fVals):zaL t r=some (zam t r):=by
 have e:zbd r.fVals (fun y0_=>zcG y0_)=some (r.fVals.any fun s=> !field s):=ztK _ (fun s hs=>by simp [zcG,znD (h.each s hs)]) (by have:=h.1;omega)
 simp only [zaL,e,Option.bind_some,zam,←List.not_all_eq_any_not]
 cases((r.fVals.length:Int)==t.fCols.length)<;>simp
def zdq (t:zab) (r:za5):zaa:=⟨t.fName++ [47]++(r.fVals.head?).getD [],Lib.join r.fVals.tail [44],false⟩
theorem zCB {α:Type} (xs:List α):zd8 xs 1 (xs.length:Int)=xs.tail:=by simp [zd8]
theorem Small.tail {xs:List Str} (h:Small xs):Small xs.tail:=by
 cases xs with
 |nil=>exact h
 |cons x xs=>exact⟨by have:=h.1;simp at this ⊢;omega,by have:=h.2;simp only [zdQ,List.tail_cons]at this ⊢;omega⟩
theorem zo9 {t:zab} {r:za5} (ht:t.fName.length≤2000000) (h:Small r.fVals) (hn:r.fVals≠ []):zbY t r=some (zdq t r):=by
 obtain⟨x,xs,hx⟩:=List.exists_cons_of_ne_nil hn
 have hx1:x.length≤2000000:=h.each x (by simp [hx])
 unfold zbY zdq
 rw [zah (by rw [List.length_singleton];omega),zCB,zAU h.tail,hx]
 rw [show getI (x::xs) 0=some x from rfl,Option.bind_some,zah (by rw [List.length_append,List.length_singleton];omega),zah (by simp only [List.length_cons];omega),Option.bind_some]
 rfl
theorem zof {t:zab} {r:za5} (ht:t.fName.length≤2000000) (h:Small r.fVals) (hn:r.fVals≠ []):za7 t r=some (zdq t r):=by
 obtain⟨x,xs,hx⟩:=List.exists_cons_of_ne_nil hn
 have hx1:x.length≤2000000:=h.each x (by simp [hx])
 unfold za7 zdq
 rw [zah (by rw [List.length_singleton];omega),zCB,zAd h.tail,hx]
 rw [show getI (x::xs) 0=some x from rfl,Option.bind_some,zah (by rw [List.length_append,List.length_singleton];omega),zah (by simp only [List.length_cons];omega),Option.bind_some]
 rfl
theorem zm7 (c:UInt8) (s:Str):zdQ (zaR c s)≤s.length:=by
 induction s with
 |nil=>simp [zaR,zdQ]
 |cons b s ih=>
  simp only [zaR]
  split
  ·simp only [zdQ,List.length_nil,List.length_cons];omega
  ·cases hs:zaR c s with
   |nil=>exact absurd hs (znV c s)
   |cons x xs=>rw [hs]at ih;simp only [zdQ,List.length_cons]at ih ⊢;omega
theorem zt9 {c:UInt8} {s:Str} (h:s.length≤1000000):Small (zaR c s):=by
 have h1:=zkg c s
 have h2:s.count c≤s.length:=List.count_le_length
 have h3:=zm7 c s
 exact⟨by omega,by omega⟩
theorem zBT {s p:Str} (hs:s.length≤2000000):zcA s p=some (if p.isPrefixOf s=true then(s.drop p.length,true)else(s,false)):=by
 have e:za1 s p=some (p.isPrefixOf s):=by
  unfold za1
  by_cases hl:p.length≤s.length
  ·rw [if_pos (by simpa using hl),zah (by omega),zAs]
   congr 1
   rw [Bool.eq_iff_iff,beq_iff_eq,List.isPrefixOf_iff_prefix,List.prefix_iff_eq_take]
   exact eq_comm
  ·rw [if_neg (by simpa using hl)]
   congr 1
   symm
   rw [←Bool.not_eq_true,List.isPrefixOf_iff_prefix]
   intro h
   exact hl h.length_le
 unfold zcA zbG
 rw [e,Option.bind_some]
 cases hp:p.isPrefixOf s with
 |false=>simp
 |true=>
  have hl:=(List.isPrefixOf_iff_prefix.1 hp).length_le
  simp only [Bool.not_true,Bool.false_eq_true,if_false,if_true]
  rw [zah (by omega),zAS,List.take_length]
  rfl
end Go.Proofs.YtgobcjbjogkpjaaGreatDoor
end
section
namespace Go.Proofs.YtgobcjbjogkpjaaGreatDoor
open Go.RowKit
set_option maxRecDepth 100000
def zn5 (a b:zaa):Bool:=a.fKey==b.fKey&&(a.fVal==b.fVal&&(a.fGone==b.fGone))
theorem zvV (a b:zaa):zn5 a b=zn5 b a:=by
 unfold zn5
 rw [show(a.fKey==b.fKey)=(b.fKey==a.fKey)from BEq.comm,show(a.fVal==b.fVal)=(b.fVal==a.fVal)from BEq.comm,show(a.fGone==b.fGone)=(b.fGone==a.fGone)from BEq.comm]
theorem zw1 {a b:zaa} (h:zn5 a b=true):a.fKey=b.fKey:=by
 unfold zn5 at h
 simp only [Bool.and_eq_true,beq_iff_eq]at h
 exact h.1
def zdp (w:zaa):za5:=⟨w.fKey.drop 2::zaR 44 w.fVal⟩
def za4 (t:zab) (w:zaa):Bool:=zam t (zdp w)&&zn5 (zdq t (zdp w)) w
def zj0 (w:zaa):Prop:=w.fKey.length≤1000∧w.fVal.length≤1000
theorem zk9 {w:zaa} (h:zj0 w):Small (zdp w).fVals:=by
 have h1:=zkg 44 w.fVal
 have h2:w.fVal.count 44≤w.fVal.length:=List.count_le_length
 have h3:=zm7 44 w.fVal
 obtain⟨k,v⟩:=h
 refine⟨?_, ?_⟩
 ·show(w.fKey.drop 2::zaR 44 w.fVal).length≤_
  rw [List.length_cons];omega
 ·show zdQ (w.fKey.drop 2::zaR 44 w.fVal)≤_
  rw [zdQ,List.length_drop];omega
theorem zw7 {t:zab} {w:zaa} (h:zam t (zdp w)=true):3≤w.fKey.length:=by
 unfold zam zdp at h
 simp only [Bool.and_eq_true,List.all_cons,field,zbv,List.length_drop]at h
 omega
theorem zAt {t:zab} {w:zaa} (ht:t.fName.length≤2000000) (h:zj0 w): ∃r,zgu t w=some (r,za4 t w)∧(za4 t w=true→r=zdp w):=by
 have hs:=zk9 h
 have hsp:=zkg 44 w.fVal
 have hct:w.fVal.count 44≤w.fVal.length:=List.count_le_length
 obtain⟨hk,hv⟩:=h
 unfold zgu
 by_cases h3:w.fKey.length<3
 ·rw [if_pos (by simp;omega)]
  have:za4 t w=false:=by
   unfold za4
   cases hg:zam t (zdp w)with
   |false=>rfl
   |true=>have:=zw7 hg;omega
  exact⟨_,by rw [this],by rw [this];intro h;cases h⟩
 ·have hw:zd8 w.fKey 2 (w.fKey.length:Int)=w.fKey.drop 2:=by
   have:=zAS w.fKey 2 w.fKey.length
   rw [List.take_length]at this
   exact this
  have hsplit:zc2 w.fVal 44=some (zaR 44 w.fVal):=zuT (c:=44) (by omega)
  have hr:(([w.fKey.drop 2]:List Str).length+(zaR 44 w.fVal).length:Int)*16≤140737488355328∧(([w.fKey.drop 2]:List Str).length:Int)+(zaR 44 w.fVal).length≤140737488355328:=by
   rw [List.length_singleton];omega
  rw [if_neg (by simp;omega),zah (by omega),hsplit,Option.bind_some,hw,zah hr]
  rw [show(⟨[w.fKey.drop 2]++zaR 44 w.fVal⟩:za5)=zdp w from rfl,zhD hs,Option.bind_some]
  unfold za4
  cases hg:zam t (zdp w)with
  |false=>exact⟨_,by rw [if_neg (by simp)];rfl,by simp⟩
  |true=>
   rw [if_pos rfl,zo9 ht hs (by simp [zdp]),Option.bind_some]
   exact⟨zdp w,by rw [Bool.true_and];rfl,fun _=>rfl⟩
theorem zA4 {t:zab} {w:zaa} (ht:t.fName.length=1) (h:zj0 w): ∃r,zcD t w=some (r,za4 t w)∧(za4 t w=true→r=zdp w):=by
 have hs:=zk9 h
 have hsp:=zkg 44 w.fVal
 have hct:w.fVal.count 44≤w.fVal.length:=List.count_le_length
 obtain⟨hk,hv⟩:=h
 unfold zcD
 have hsplit:zem w.fVal [44]=some (zaR 44 w.fVal):=zyF (by omega)
 rw [zah (by rw [List.length_singleton];omega),zBT (by omega),Option.bind_some,hsplit,Option.bind_some]
 have hr: ∀x:Str,(([x]:List Str).length+(zaR 44 w.fVal).length:Int)*16≤140737488355328∧(([x]:List Str).length:Int)+(zaR 44 w.fVal).length≤140737488355328:=by
  intro x;rw [List.length_singleton];omega
 rw [zah (hr _)]
 cases hp:(t.fName++ [47]).isPrefixOf w.fKey with
 |false=>
  have hno:za4 t w=false:=by
   unfold za4
   cases hw:zn5 (zdq t (zdp w)) w with
   |false=>simp
   |true=>
    have hkey:=zw1 hw
    rw [←Bool.not_eq_true,List.isPrefixOf_iff_prefix]at hp
    exact absurd ⟨_,hkey⟩ hp
  rw [hno]
  exact⟨_,by rw [if_neg (by simp)],by simp⟩
 |true=>
  have hl:(t.fName++ [47]).length=2:=by rw [List.length_append,ht];rfl
  simp only [if_true,hl]
  rw [show(⟨[w.fKey.drop 2]++zaR 44 w.fVal⟩:za5)=zdp w from rfl,zhx hs,Option.bind_some]
  unfold za4
  cases hg:zam t (zdp w)with
  |false=>exact⟨_,by rw [if_neg (by simp)];rfl,by simp⟩
  |true=>
   rw [if_pos rfl,zof (by omega) hs (by simp [zdp]),Option.bind_some]
   rw [show(w.fKey==(zdq t (zdp w)).fKey&&(w.fVal==(zdq t (zdp w)).fVal&&w.fGone==(zdq t (zdp w)).fGone))=zn5 w (zdq t (zdp w))from rfl,zvV]
   cases zn5 (zdq t (zdp w)) w with
   |false=>exact⟨_,by rw [if_pos (by simp)];rfl,by simp⟩
   |true=>exact⟨_,by rw [if_neg (by simp)];rfl,fun _=>rfl⟩
end Go.Proofs.YtgobcjbjogkpjaaGreatDoor
end
section
namespace Go.Proofs.YtgobcjbjogkpjaaGreatDoor
open Go.RowKit
set_option maxRecDepth 100000
theorem zhB {α β:Type} (p:α→Bool) (f:α→β) (l:List α) (o:List β):l.foldl (fun o x=>if p x=true then o++ [f x]else o) o=o++(l.filter p).map f:=by
 induction l generalizing o with
 |nil=>simp
 |cons x l ih=>
  rw [List.foldl_cons,ih,List.filter_cons]
  cases p x<;>simp
def rows (t:zab) (l:List zaa):List za5:=(l.filter (za4 t)).map zdp
theorem zrM {t:zab} {l:List zaa} (ht:t.fName.length≤2000000) (hl:l.length≤2000000) (h: ∀w∈l,zj0 w):zeI t l=some (rows t l):=by
 have h1:=zb1 (xs:=l) (body:=fun s:List za5 × Int=>zcp t l s.1 s.2) (fun i (o:List za5)=>(o,i)) (fun o w=>if za4 t w=true then o++ [zdp w]else o) (fun o=>some o) (fun i o=>o.length≤i)
  (fun i hi o hI=>by
   have hI:o.length≤i:=hI
   obtain⟨r,e,hr⟩:=zAt ht (h _ (List.getElem_mem hi))
   have hw:=zcJ hi (by omega:l.length≤_)
   refine⟨?_,by
    show List.length (if za4 t l[i]=true then o++ [zdp l[i]]else o)≤i+1
    split
    ·rw [List.length_append,List.length_singleton];omega
    ·omega⟩
   show zcp t l o i=_
   unfold zcp
   rw [if_pos (by simpa using hi),zaj hi,Option.bind_some,e,Option.bind_some,hw]
   cases hb:za4 t l[i]with
   |false=>rfl
   |true=>
    have hq:((o.length:Int)+(([r]:List za5).length:Int))*24≤140737488355328∧(o.length:Int)+(([r]:List za5).length:Int)≤140737488355328:=by
     rw [List.length_singleton];omega
    rw [if_pos rfl,zah hq,if_pos rfl,hr hb])
  (fun o _=>by
   show zcp t l o l.length=_
   unfold zcp
   rw [if_neg (by simp)]) (s:= []) (by simp)
 rw [zhB]at h1
 exact h1.1
theorem zuR {t:zab} {l:List zaa} (ht:t.fName.length=1) (hl:l.length≤2000000) (h: ∀w∈l,zj0 w):zcR t l=some (rows t l):=by
 have h1:=zb1 (xs:=l) (body:=fun s:Int × List za5=>zaV t l s.1 s.2) (fun i (o:List za5)=>(i,o)) (fun o w=>if za4 t w=true then o++ [zdp w]else o) (fun o=>some o) (fun i o=>o.length≤i)
  (fun i hi o hI=>by
   have hI:o.length≤i:=hI
   obtain⟨r,e,hr⟩:=zA4 ht (h _ (List.getElem_mem hi))
   have hw:=zcJ hi (by omega:l.length≤_)
   refine⟨?_,by
    show List.length (if za4 t l[i]=true then o++ [zdp l[i]]else o)≤i+1
    split
    ·rw [List.length_append,List.length_singleton];omega
    ·omega⟩
   show zaV t l i o=_
   unfold zaV
   rw [if_pos (by simpa using hi),zaj hi,Option.bind_some,e,Option.bind_some,hw]
   cases hb:za4 t l[i]with
   |false=>rfl
   |true=>
    have hq:((o.length:Int)+(([r]:List za5).length:Int))*24≤140737488355328∧(o.length:Int)+(([r]:List za5).length:Int)≤140737488355328:=by
     rw [List.length_singleton];omega
    rw [if_pos rfl,zah hq,if_pos rfl,hr hb])
  (fun o _=>by
   show zaV t l l.length o=_
   unfold zaV
   rw [if_neg (by simp)]) (s:= []) (by simp)
 rw [zhB]at h1
 exact h1.1
def head (t:zab) (n:Str):Str:=t.fName++ [46]++n
def zbj (t:zab) (n:Str) (k:Str):Bool:=match zaR 47 k with
 | [x,y,z]=>x==head t n&&field y&&field z
 |_=>false
theorem zyM {t:zab} {n k:Str} (ht:t.fName.length≤2000000) (hn:n.length≤2000000) (hk:k.length≤1000000): ∃a b,zdA t n k=some (a,b,zbj t n k):=by
 have hsm:=zt9 (c:=47) hk
 have he:zc2 k 47=some (zaR 47 k):=zuT (c:=47) (by omega)
 unfold zdA zbj
 rw [he,Option.bind_some]
 generalize zaR 47 k=ps at hsm
 match ps,hsm with
 | [],_=>exact⟨_,_,by rw [if_pos (by simp)]⟩
 | [_],_=>exact⟨_,_,by rw [if_pos (by simp)]⟩
 | [_,_],_=>exact⟨_,_,by rw [if_pos (by simp)]⟩
 |_::_::_::_::l,_=>exact⟨_,_,by rw [if_pos (by simp;omega)]⟩
 | [x,y,z],hsm=>
  have hy:=hsm.each y (by simp)
  have hz:=hsm.each z (by simp)
  dsimp only
  rw [if_neg (by simp),show getI [x,y,z] 0=some x from rfl,Option.bind_some,zah (by rw [List.length_singleton];omega),zah (by rw [List.length_append,List.length_singleton];omega)]
  rw [show(t.fName++ [46]++n)=head t n from rfl]
  by_cases hx:x=head t n
  ·rw [if_neg (by simp [hx]),show getI [x,y,z] 1=some y from rfl,Option.bind_some,zrY hy,Option.bind_some]
   have hx2:(x==head t n)=true:=by simpa using hx
   rw [hx2]
   cases field y with
   |false=>exact⟨_,_,by rw [if_neg (by simp)];rfl⟩
   |true=>
    rw [if_pos rfl,show getI [x,y,z] 2=some z from rfl,Option.bind_some,zrY hz,Option.bind_some]
    cases field z with
    |false=>exact⟨_,_,by rw [if_pos (by simp)];rfl⟩
    |true=>exact⟨_,_,by rw [if_neg (by simp)];rfl⟩
  ·have hx2:(x==head t n)=false:=by simpa using hx
   rw [hx2]
   exact⟨_,_,by rw [if_pos (by simpa [bne]using hx2)];rfl⟩
end Go.Proofs.YtgobcjbjogkpjaaGreatDoor
end
section
namespace Go.Proofs.YtgobcjbjogkpjaaGreatDoor
open Go.RowKit
set_option maxRecDepth 100000
theorem zvJ {c:UInt8} {s x y:Str} {r:List Str} (h:zaR c s=x::y::r): ∃q,s=x++c::q:=by
 rcases zfW s c with⟨_,h0⟩|⟨p,q,rfl,hp,_⟩
 ·rw [zdr h0]at h;simp at h
 ·rw [zgT hp]at h
  obtain⟨rfl,_⟩:=List.cons.inj h
  exact⟨q,rfl⟩
theorem zz4 {x:Str} {c:UInt8} (hx:x.length≤2000000):(zeq x [c]=some (x, [],false)∧ ∀b∈x,b≠c)∨ ∃p q,x=p++c::q∧(∀b∈p,b≠c)∧zeq x [c]=some (p,q,true):=by
 have hi:zaI x [c]=some (Lib.indexByte x c):=rfl
 rcases zfW x c with⟨e,h0⟩|⟨p,q,rfl,hp,e⟩
 ·refine .inl ⟨?_,h0⟩
  unfold zeq zbI
  rw [hi,Option.bind_some,e,if_neg (by simp)]
  rfl
 ·refine .inr ⟨p,q,rfl,hp, ?_⟩
  rw [List.length_append,List.length_cons]at hx
  have hw:IntKind.i64.wrap ((p.length:Int)+(([c]:Str).length:Int))=((p.length+1:Nat):Int):=by rw [List.length_singleton,zbo (by omega) (by omega)];omega
  unfold zeq zbI
  rw [hi,Option.bind_some,e,if_pos (by simp),zah (by rw [List.length_append,List.length_cons];omega),hw,zah (by rw [List.length_append,List.length_cons];omega),zAs,zAS,List.take_length]
  have e1:(p++c::q).drop (p.length+1)=q:=by simp
  have e2:(p++c::q).take p.length=p:=by simp
  rw [e1,e2]
  rfl
theorem zzs {s:Str} (h:(47:UInt8)∈s):field s=false:=by
 unfold field zhN
 have:(s.all fun b=>zey b||([]:Str).contains b)=false:=by
  rw [List.all_eq_false]
  exact⟨47,h,by decide⟩
 rw [this,Bool.and_false]
theorem zxn {t:zab} {n:Str} (ht:t.fName.length≤2000000) (hn:n.length≤2000000):zbK t n=some (head t n++ [47]):=by
 unfold zbK head
 rw [zah (by rw [List.length_singleton];omega),zah (by rw [List.length_append,List.length_singleton];omega),zah (by rw [List.length_append,List.length_append,List.length_singleton,List.length_singleton];omega)]
theorem zy4 {t:zab} {n k:Str} (ht:t.fName.length≤2000000) (hn:n.length≤2000000) (hk:k.length≤1000000) (hh: ∀b∈head t n,b≠47): ∃a b,zbW t n k=some (a,b,zbj t n k):=by
 unfold zbW
 rw [zxn ht hn,Option.bind_some,zBT (by omega),Option.bind_some]
 cases hp:(head t n++ [47]).isPrefixOf k with
 |false=>
  have hno:zbj t n k=false:=by
   unfold zbj
   split
   ·rename_i x y z hs
    cases hx:x==head t n with
    |false=>simp
    |true=>
     obtain⟨q,hq⟩:=zvJ hs
     rw [←Bool.not_eq_true,List.isPrefixOf_iff_prefix]at hp
     refine absurd ⟨q, ?_⟩ hp
     rw [hq,(by simpa using hx:x=head t n)]
     simp
   ·rfl
  rw [hno]
  simp only [Bool.false_eq_true,if_false]
  rcases zz4 (x:=k) (c:=47) (by omega)with⟨e,_⟩|⟨p,q,_,_,e⟩
  ·rw [e];exact⟨_,_,rfl⟩
  ·rw [e];exact⟨_,_,rfl⟩
 |true=>
  obtain⟨rest,hrest⟩:=List.isPrefixOf_iff_prefix.1 hp
  have hk2:k=head t n++47::rest:=by rw [←hrest];simp
  have hd:k.drop (head t n++ [47]).length=rest:=by rw [←hrest,List.drop_left]
  have hsp:zaR 47 k=head t n::zaR 47 rest:=by rw [hk2,zgT hh]
  have hlen:rest.length≤1000000:=by
   have:k.length=(head t n).length+(rest.length+1):=by rw [hk2,List.length_append,List.length_cons]
   omega
  simp only [if_true,hd]
  unfold zbj
  rw [hsp]
  rcases zz4 (x:=rest) (c:=47) (by omega)with⟨e,h0⟩|⟨p,q,rfl,hp2,e⟩
  ·rw [e,zdr h0]
   exact⟨_,_,rfl⟩
  ·rw [e,zgT hp2,Option.bind_some]
   rw [List.length_append,List.length_cons]at hlen
   simp only [if_true]
   rw [znD (s:=p) (by omega),Option.bind_some]
   rcases zfW q 47 with⟨_,h0⟩|⟨p3,q3,rfl,hp3,_⟩
   ·rw [zdr h0]
    dsimp only
    rw [beq_self_eq_true,Bool.true_and]
    cases field p with
    |false=>exact⟨_,_,rfl⟩
    |true=>
     rw [if_pos rfl,znD (s:=q) (by omega),Option.bind_some]
     cases field q with
     |false=>exact⟨_,_,rfl⟩
     |true=>exact⟨_,_,rfl⟩
   ·have hf:field (p3++47::q3)=false:=zzs (by simp)
    rw [zgT hp3]
    cases hq:zaR 47 q3 with
    |nil=>exact absurd hq (znV _ _)
    |cons x xs=>
     dsimp only
     cases field p with
     |false=>exact⟨_,_,rfl⟩
     |true=>
      rw [if_pos rfl,znD (by rw [List.length_append,List.length_cons]at hlen ⊢;omega),Option.bind_some,hf]
      exact⟨_,_,rfl⟩
end Go.Proofs.YtgobcjbjogkpjaaGreatDoor
end
section
namespace Go.Proofs.YtgobcjbjogkpjaaGreatDoor
open Go.RowKit
set_option maxRecDepth 100000
def zeg (t:zab) (n:Str) (l:List zaa):List Str:=(l.filter fun w=>zbj t n w.fKey).map (·.fKey)
theorem zvT {t:zab} {n:Str} {l:List zaa} (ht:t.fName.length≤2000000) (hn:n.length≤2000000) (hl:l.length≤2000000) (h: ∀w∈l,zj0 w):zdg t n l=some (zeg t n l):=by
 have h1:=zb1 (xs:=l) (body:=fun s:List Str × Int=>zbE t n l s.1 s.2) (fun i (o:List Str)=>(o,i)) (fun o w=>if zbj t n w.fKey=true then o++ [w.fKey]else o) (fun o=>some o) (fun i o=>o.length≤i)
  (fun i hi o hI=>by
   have hI:o.length≤i:=hI
   have htw:=h _ (List.getElem_mem hi)
   obtain⟨a,b,e⟩:=zyM (t:=t) (n:=n) (k:=l[i].fKey) ht hn (by have:=htw.1;omega)
   have hw:=zcJ hi (by omega:l.length≤_)
   refine⟨?_,by
    show List.length (if zbj t n l[i].fKey=true then o++ [l[i].fKey]else o)≤i+1
    split
    ·rw [List.length_append,List.length_singleton];omega
    ·omega⟩
   show zbE t n l o i=_
   unfold zbE
   rw [if_pos (by simpa using hi),zaj hi,Option.bind_some,e,Option.bind_some,hw]
   cases hb:zbj t n l[i].fKey with
   |false=>rfl
   |true=>
    have hq:((o.length:Int)+(([l[i].fKey]:List Str).length:Int))*16≤140737488355328∧(o.length:Int)+(([l[i].fKey]:List Str).length:Int)≤140737488355328:=by
     rw [List.length_singleton];omega
    rw [if_pos rfl,zah hq,if_pos rfl])
  (fun o _=>by
   show zbE t n l o l.length=_
   unfold zbE
   rw [if_neg (by simp)]) (s:= []) (by simp)
 rw [zhB (fun w:zaa=>zbj t n w.fKey) (fun w=>w.fKey)]at h1
 exact h1.1
theorem zvN {t:zab} {n:Str} {l:List zaa} (ht:t.fName.length≤2000000) (hn:n.length≤2000000) (hh: ∀b∈head t n,b≠47) (hl:l.length≤2000000) (h: ∀w∈l,zj0 w):zbr t n l=some (zeg t n l):=by
 have h1:=zb1 (xs:=l) (body:=fun s:Int × List Str=>zaO t n l s.1 s.2) (fun i (o:List Str)=>(i,o)) (fun o w=>if zbj t n w.fKey=true then o++ [w.fKey]else o) (fun o=>some o) (fun i o=>o.length≤i)
  (fun i hi o hI=>by
   have hI:o.length≤i:=hI
   have htw:=h _ (List.getElem_mem hi)
   obtain⟨a,b,e⟩:=zy4 (t:=t) (n:=n) (k:=l[i].fKey) ht hn (by have:=htw.1;omega) hh
   have hw:=zcJ hi (by omega:l.length≤_)
   refine⟨?_,by
    show List.length (if zbj t n l[i].fKey=true then o++ [l[i].fKey]else o)≤i+1
    split
    ·rw [List.length_append,List.length_singleton];omega
    ·omega⟩
   show zaO t n l i o=_
   unfold zaO
   rw [if_pos (by simpa using hi),zaj hi,Option.bind_some,e,Option.bind_some,hw]
   cases hb:zbj t n l[i].fKey with
   |false=>rfl
   |true=>
    have hq:((o.length:Int)+(([l[i].fKey]:List Str).length:Int))*16≤140737488355328∧(o.length:Int)+(([l[i].fKey]:List Str).length:Int)≤140737488355328:=by
     rw [List.length_singleton];omega
    rw [if_pos rfl,zah hq,if_pos rfl])
  (fun o _=>by
   show zaO t n l l.length o=_
   unfold zaO
   rw [if_neg (by simp)]) (s:= []) (by simp)
 rw [zhB (fun w:zaa=>zbj t n w.fKey) (fun w=>w.fKey)]at h1
 exact h1.1
def zAG (a b:List Str):List Str:=a.filter fun k=> !b.contains k
theorem zx6 {a b:List Str} (ha:a.length≤2000000) (hb:b.length≤2000000):zgF a b=some (zAG a b):=by
 have h1:=zb1 (xs:=a) (body:=fun s:List Str × Int=>zcr a b s.1 s.2) (fun i (o:List Str)=>(o,i)) (fun o k=>if(!b.contains k)=true then o++ [k]else o) (fun o=>some o) (fun i o=>o.length≤i)
  (fun i hi o hI=>by
   have hI:o.length≤i:=hI
   have hw:=zcJ hi (by omega:a.length≤_)
   have hx:decide (zho (fun x=>x==a[i]) b<0)= !b.contains a[i]:=by
    rw [←zxX,←ziN,←decide_not]
    rw [decide_eq_decide];omega
   refine⟨?_,by
    show List.length (if(!b.contains a[i])=true then o++ [a[i]]else o)≤i+1
    split
    ·rw [List.length_append,List.length_singleton];omega
    ·omega⟩
   show zcr a b o i=_
   unfold zcr
   rw [if_pos (by simpa using hi),zaj hi,Option.bind_some,zBo hb,Option.bind_some,hw,hx]
   cases hc:b.contains a[i]with
   |true=>rfl
   |false=>
    have hq:((o.length:Int)+(([a[i]]:List Str).length:Int))*16≤140737488355328∧(o.length:Int)+(([a[i]]:List Str).length:Int)≤140737488355328:=by
     rw [List.length_singleton];omega
    rw [if_pos (by rfl),zah hq,if_pos (by rfl)])
  (fun o _=>by
   show zcr a b o a.length=_
   unfold zcr
   rw [if_neg (by simp)]) (s:= []) (by simp)
 rw [zhB (fun k:Str=> !b.contains k) (fun k=>k)]at h1
 have h2:=h1.1
 rw [List.nil_append,List.map_id']at h2
 exact h2
theorem zxh {a b:List Str} (ha:a.length≤2000000) (hb:b.length≤2000000):zeO a b=some (zAG a b):=by
 unfold zeO zbR zd9
 rw [zu8 (by omega) (by omega),Option.bind_some,zah (by omega),zmA (fun k=>b.contains k) (fun k _=>by simp only [zha,zzH hb,Option.bind_some])]
 rfl
end Go.Proofs.YtgobcjbjogkpjaaGreatDoor
end
section
namespace Go.Proofs.YtgobcjbjogkpjaaGreatDoor
open Go.RowKit
set_option maxRecDepth 100000
structure zh2 (t:zab) (n:Str) (x:zbD):Prop where
 at_:getI t.fIdxs (zho (fun y:zbD=>y.fName==n) t.fIdxs)=some x
 name:x.fName=n
 c0:1≤x.fCol
 c1:x.fCol≤(t.fCols.length:Int)-1
def zdV (r:za5) (c:Int):Str:=(r.fVals[c.toNat]?).getD []
def zcY (t:zab) (n:Str) (c:Int) (r:za5):Str:=head t n++ [47]++zdV r c++ [47]++zdV r 0
structure zp7 (t:zab) (r:za5):Prop where
 len:r.fVals.length=t.fCols.length
 small:Small r.fVals
theorem zxA {t:zab} {l:List zaa} (h: ∀w∈l,zj0 w): ∀r∈rows t l,zp7 t r:=by
 intro r hr
 obtain⟨w,hw,rfl⟩:=List.mem_map.1 hr
 obtain⟨h1,h2⟩:=List.mem_filter.1 hw
 have h3:za4 t w=true:=h2
 unfold za4 zam at h3
 simp only [Bool.and_eq_true,beq_iff_eq]at h3
 exact⟨by have:=h3.1.1;omega,zk9 (h w h1)⟩
theorem zog {t:zab} {r:za5} (hr:zp7 t r) {c:Int} (h0:0≤c) (h1:c≤(t.fCols.length:Int)-1):getI r.fVals c=some (zdV r c)∧(zdV r c).length≤2000000:=by
 obtain⟨y,e,hm,e2⟩:=zlo (xs:=r.fVals) h0 (by have:=hr.len;omega)
 have hv:zdV r c=y:=by simp [zdV,e2]
 rw [hv]
 exact⟨e,hr.small.each y hm⟩
theorem znM {t:zab} {n:Str} {x:zbD} {r:za5} (ht:t.fName.length≤2000000) (hn:n.length≤2000000) (hx:zh2 t n x) (hr:zp7 t r):zbB t x r=some (zcY t n x.fCol r):=by
 obtain⟨g1,l1⟩:=zog hr (c:=x.fCol) (by have:=hx.c0;omega) hx.c1
 obtain⟨g2,l2⟩:=zog hr (c:=0) (by omega) (by have:=hx.c0;have:=hx.c1;omega)
 have e:=hx.name
 subst e
 unfold zbB zcY
 rw [zah (by simp only [head,List.length_append,List.length_cons,List.length_nil];omega),zah (by simp only [head,List.length_append,List.length_cons,List.length_nil];omega),zah (by simp only [head,List.length_append,List.length_cons,List.length_nil];omega),g1,Option.bind_some,
  zah (by simp only [head,List.length_append,List.length_cons,List.length_nil];omega),zah (by simp only [head,List.length_append,List.length_cons,List.length_nil];omega),g2,Option.bind_some,
  zah (by simp only [head,List.length_append,List.length_cons,List.length_nil];omega)]
 rfl
theorem zrO {t:zab} {n:Str} {x:zbD} {r:za5} (hS:zbA t) (hn:n.length≤2000000) (hx:zh2 t n x) (hr:zp7 t r):zaP t n r=some (zcY t n x.fCol r):=by
 obtain⟨g1,l1⟩:=zog hr (c:=x.fCol) (by have:=hx.c0;omega) hx.c1
 obtain⟨g2,l2⟩:=zog hr (c:=0) (by omega) (by have:=hx.c0;have:=hx.c1;omega)
 have ht:=hS.name
 have hi:zd0 t n=some x:=by
  unfold zd0
  rw [zzM hS,Option.bind_some,hx.at_];rfl
 unfold zaP zcY
 rw [zxn ht hn,Option.bind_some,hi,Option.bind_some,g1,Option.bind_some,zah (by simp only [head,List.length_append,List.length_cons,List.length_nil];omega),zah (by simp only [head,List.length_append,List.length_cons,List.length_nil];omega),g2,Option.bind_some,zah (by simp only [head,List.length_append,List.length_cons,List.length_nil];omega)]
def wanted (t:zab) (n:Str) (x:zbD) (l:List zaa):List Str:=(rows t l).map (zcY t n x.fCol)
theorem rows_len (t:zab) (l:List zaa):(rows t l).length≤l.length:=by
 unfold rows
 rw [List.length_map]
 exact List.length_filter_le _ _
theorem zwV {t:zab} {n:Str} {x:zbD} {l:List zaa} (hS:zbA t) (hn:n.length≤2000000) (hx:zh2 t n x) (hl:l.length≤2000000) (h: ∀w∈l,zj0 w):zdP t n l=some (wanted t n x l):=by
 have hin:=zxA (t:=t) h
 have hrl:=rows_len t l
 unfold zdP
 rw [zrM hS.name hl h,Option.bind_some]
 have h1:=zb1 (xs:=rows t l) (body:=fun s:List Str × Int=>zbQ t n (rows t l) s.1 s.2) (fun i (o:List Str)=>(o,i)) (fun o r=>o++ [zcY t n x.fCol r]) (fun o=>some o) (fun i o=>o.length=i)
  (fun i hi o hI=>by
   have hI:o.length=i:=hI
   have hw:=zcJ hi (by omega)
   refine⟨?_,by show List.length _=_;rw [List.length_append,List.length_singleton];omega⟩
   show zbQ t n (rows t l) o i=_
   unfold zbQ
   have hq:((o.length:Int)+(([zcY t n x.fCol (rows t l)[i]]:List Str).length:Int))*16≤140737488355328∧(o.length:Int)+(([zcY t n x.fCol (rows t l)[i]]:List Str).length:Int)≤140737488355328:=by
    rw [List.length_singleton];omega
   rw [if_pos (by simpa using hi),zaj hi,Option.bind_some,zuX hS,Option.bind_some,hx.at_,Option.bind_some,znM hS.name hn hx (hin _ (List.getElem_mem hi)),Option.bind_some,zah hq,hw])
  (fun o _=>by
   show zbQ t n (rows t l) o (rows t l).length=_
   unfold zbQ
   rw [if_neg (by simp)]) (s:= []) rfl
 rw [ztA]at h1
 exact h1.1
theorem zxa {t:zab} {n:Str} {x:zbD} {l:List zaa} (hS:zbA t) (ht:t.fName.length=1) (hn:n.length≤2000000) (hx:zh2 t n x) (hl:l.length≤2000000) (h: ∀w∈l,zj0 w):zb0 t n l=some (wanted t n x l):=by
 have hin:=zxA (t:=t) h
 have hrl:=rows_len t l
 unfold zb0
 rw [zuR ht hl h,Option.bind_some]
 have h1:=zb1 (xs:=rows t l) (body:=fun s:Int × List Str=>zaW t n (rows t l) s.1 s.2) (fun i (o:List Str)=>(i,o)) (fun o r=>o++ [zcY t n x.fCol r]) (fun o=>some o) (fun i o=>o.length=i)
  (fun i hi o hI=>by
   have hI:o.length=i:=hI
   have hw:=zcJ hi (by omega)
   refine⟨?_,by show List.length _=_;rw [List.length_append,List.length_singleton];omega⟩
   show zaW t n (rows t l) i o=_
   unfold zaW
   have hq:((o.length:Int)+(([zcY t n x.fCol (rows t l)[i]]:List Str).length:Int))*16≤140737488355328∧(o.length:Int)+(([zcY t n x.fCol (rows t l)[i]]:List Str).length:Int)≤140737488355328:=by
    rw [List.length_singleton];omega
   rw [if_pos (by simpa using hi),zaj hi,Option.bind_some,zrO hS hn hx (hin _ (List.getElem_mem hi)),Option.bind_some,zah hq,hw])
  (fun o _=>by
   show zaW t n (rows t l) (rows t l).length o=_
   unfold zaW
   rw [if_neg (by simp)]) (s:= []) rfl
 rw [ztA]at h1
 exact h1.1
end Go.Proofs.YtgobcjbjogkpjaaGreatDoor
end
section
namespace Go.Proofs.YtgobcjbjogkpjaaGreatDoor
open Go.RowKit
set_option maxRecDepth 100000
def holds (t:zab) (n:Str) (x:zbD) (lv:Int) (l:List zaa):Bool:=
 if lv==0 then((zeg t n l).length:Int)==0
 else(((zAG (zeg t n l) (wanted t n x l)).length:Int)==0)&&((lv==1)||(((zAG (wanted t n x l) (zeg t n l)).length:Int)==0))
theorem zoL (t:zab) (n:Str) (l:List zaa):(zeg t n l).length≤l.length:=by
 unfold zeg;rw [List.length_map];exact List.length_filter_le _ _
theorem zqv (t:zab) (n:Str) (x:zbD) (l:List zaa):(wanted t n x l).length≤l.length:=by
 unfold wanted;rw [List.length_map];exact rows_len t l
theorem zzm {t:zab} {n:Str} {x:zbD} {lv:Int} {l:List zaa} (hS:zbA t) (ht:t.fName.length≤2000000) (hn:n.length≤2000000) (hx:zh2 t n x) (hl:l.length≤2000000) (h: ∀w∈l,zj0 w) (ha:zcy t n l=some true):zfu t n lv l=some (holds t n x lv l):=by
 have hE:=zvT ht hn hl h
 have hW:=zwV hS hn hx hl h
 have e1:=zoL t n l
 have e2:=zqv t n x l
 have h1:=zx6 (a:=zeg t n l) (b:=wanted t n x l) (by omega) (by omega)
 have h2:=zx6 (a:=wanted t n x l) (b:=zeg t n l) (by omega) (by omega)
 unfold zfu holds
 by_cases h0:(lv==0)=true
 ·rw [if_pos h0,if_pos h0,hE,Option.bind_some]
 ·rw [if_neg h0,if_neg h0]
  unfold zg8 zh7
  rw [ha,hE,hW]
  simp only [Option.bind_some,h1,h2,Bool.not_true,Bool.false_eq_true,if_false]
theorem zyR {t:zab} {n:Str} {x:zbD} {lv:Int} {l:List zaa} (hS:zbA t) (ht:t.fName.length=1) (hn:n.length≤2000000) (hh: ∀b∈head t n,b≠47) (hx:zh2 t n x) (hl:l.length≤2000000) (h: ∀w∈l,zj0 w):zcC t n lv l=some (holds t n x lv l):=by
 have hE:=zvN (t:=t) (by omega) hn hh hl h
 have hW:=zxa hS ht hn hx hl h
 have e1:=zoL t n l
 have e2:=zqv t n x l
 have h1:=zxh (a:=zeg t n l) (b:=wanted t n x l) (by omega) (by omega)
 have h2:=zxh (a:=wanted t n x l) (b:=zeg t n l) (by omega) (by omega)
 unfold zcC holds
 by_cases h0:(lv==0)=true
 ·rw [if_pos h0,if_pos h0,hE,Option.bind_some]
 ·rw [if_neg h0,if_neg h0]
  unfold zb6 zdW
  rw [hE,hW]
  simp only [Option.bind_some,h1,h2]
  by_cases h3:(lv==1)=true
  ·rw [if_pos h3,h3,Bool.true_or,Bool.and_true]
  ·rw [if_neg h3,Bool.eq_false_iff.2 h3,Bool.false_or]
   by_cases h4:(((zAG (zeg t n l) (wanted t n x l)).length:Int)==0)=true
   ·rw [if_pos h4,h4,Bool.true_and]
   ·rw [if_neg h4,Bool.eq_false_iff.2 h4,Bool.false_and]
end Go.Proofs.YtgobcjbjogkpjaaGreatDoor
end
section
namespace Go.Proofs.YtgobcjbjogkpjaaGreatDoor
open Go.RowKit
set_option maxRecDepth 100000
def zmn (t:zab) (n:Str):Bool:=zac t&&decide (zho (fun x:zbD=>x.fName==n) t.fIdxs≥0)
def zkU (t:zab) (n:Str) (l:List zaa):Bool:=zmn t n&&zax l
theorem zA6 {t:zab} {n:Str} (hS:zbA t):zht t n=some (zmn t n):=by
 unfold zht zmn
 rw [znI hS,Option.bind_some,zzM hS,Option.bind_some]
 cases zac t<;>simp
theorem zyB {t:zab} {n:Str} {l:List zaa} (hS:zbA t) (hW:zgO l):zeu t n l=some (zkU t n l):=by
 unfold zeu zkU
 rw [zA6 hS,Option.bind_some,ztR hW,Option.bind_some]
 cases zmn t n<;>simp
theorem zuA {t:zab} {n:Str} {l:List zaa} (hS:zbA t) (hW:zgO l):zcy t n l=some (zkU t n l):=by
 unfold zcy zkU zmn
 rw [znJ hS,Option.bind_some,zuX hS,Option.bind_some,zrS hW,Option.bind_some]
 cases zac t<;>cases decide (zho (fun x:zbD=>x.fName==n) t.fIdxs≥0)<;>simp
theorem zt6 {l:List zaa} (h:zax l=true): ∀w∈l,zj0 w:=by
 intro w hw
 unfold zax zc7 at h
 simp only [Bool.and_eq_true]at h
 have h1:=List.all_eq_true.1 h.1.2.1 w hw
 unfold zfn zbH zh5 zeG at h1
 simp only [Bool.and_eq_true,decide_eq_true_eq]at h1
 have h2:=zbv.1 h1.1.1
 have h3:=h1.2.1.1
 exact⟨by omega,by omega⟩
theorem zgi {s:Str} {k:Int} (h:zaS s k=true):(s.length:Int)≤k∧ ∀b∈s,b≠47:=by
 unfold zaS at h
 simp only [Bool.and_eq_true]at h
 refine⟨(zbv.1 h.2).2,fun b hb e=> ?_⟩
 have h1:=List.all_eq_true.1 h.1 b hb
 subst e
 exact absurd h1 (by decide)
theorem zfd {s:Str} (h:zaS s 1=true):s.length=1:=by
 unfold zaS at h
 simp only [Bool.and_eq_true]at h
 have:=zbv.1 h.2
 omega
theorem zeh {t:zab} (h:zac t=true):zaS t.fName 1=true:=by
 unfold zac at h
 simp only [Bool.and_eq_true]at h
 exact h.1.1.1
theorem zdw {t:zab} (h:zac t=true) {x:zbD} (hx:x∈t.fIdxs):zaS x.fName 1=true∧inB x.fCol 1 ((t.fCols.length:Int)-1)=true:=by
 unfold zac at h
 simp only [Bool.and_eq_true]at h
 obtain⟨i,hi,rfl⟩:=List.mem_iff_getElem.1 hx
 have h1:=List.all_eq_true.1 h.2 i (List.mem_range.2 hi)
 unfold zkY at h1
 simp only [Bool.and_eq_true,List.getElem?_eq_getElem hi,Option.getD_some]at h1
 exact⟨h1.1.1.1,h1.1.1.2⟩
theorem zxf {t:zab} {n:Str} (h:zmn t n=true): ∃x,zh2 t n x∧t.fName.length=1∧n.length=1∧ ∀b∈head t n,b≠47:=by
 unfold zmn at h
 simp only [Bool.and_eq_true,decide_eq_true_eq]at h
 obtain⟨x,h1,h2,h3⟩:=zux h.2
 have h4:=zdw h.1 h3
 have h5:=zbv.1 h4.2
 have h6:x.fName=n:=by simpa using h2
 have h7:=zeh h.1
 have h8:=h6▸h4.1
 refine⟨x,⟨h1,h6,h5.1,h5.2⟩,zfd h7,zfd h8,fun b hb=> ?_⟩
 unfold head at hb
 simp only [List.mem_append,List.mem_singleton]at hb
 rcases hb with(hb|hb)|hb
 ·exact(zgi h7).2 b hb
 ·subst hb;decide
 ·exact(zgi h8).2 b hb
end Go.Proofs.YtgobcjbjogkpjaaGreatDoor
end
section
namespace Go.Proofs.YtgobcjbjogkpjaaGreatDoor
open Go.RowKit
abbrev bl (a b:List UInt8):Bool:=Op.bytesLess a b
theorem zhI: ∀a:List UInt8,bl a a=false
 | []=>rfl
 |x::a=>by
  have h: ¬x<x:=fun h=>by have:=UInt8.lt_iff_toNat_lt.1 h;omega
  show Op.bytesLess (x::a) (x::a)=false
  simp only [Op.bytesLess,h,decide_false,Bool.false_or,beq_self_eq_true,Bool.true_and]
  exact zhI a
theorem zug (x y:UInt8) (a b:List UInt8):bl (x::a) (y::b)=true↔x.toNat<y.toNat∨x=y∧bl a b=true:=by
 show Op.bytesLess (x::a) (y::b)=true↔_
 simp only [Op.bytesLess,Bool.or_eq_true,decide_eq_true_eq,Bool.and_eq_true,beq_iff_eq,UInt8.lt_iff_toNat_lt]
theorem zeZ: ∀{a b c:List UInt8},bl a b=true→bl b c=true→bl a c=true
 | [],_, [],_,h=>by rename_i b _;cases b<;>cases h
 | [],_,_::_,_,_=>rfl
 |_::_, [],_,h,_=>by cases h
 |_::_,_::_, [],_,h=>by cases h
 |x::a,y::b,z::c,h1,h2=>by
  rw [zug]at*
  rcases h1 with h1|⟨rfl,h1⟩<;>rcases h2 with h2|⟨rfl,h2⟩
  ·exact .inl (by omega)
  ·exact .inl h1
  ·exact .inl h2
  ·exact .inr ⟨rfl,zeZ h1 h2⟩
theorem zzZ: ∀a b:List UInt8,bl a b=true∨a=b∨bl b a=true
 | [], []=> .inr (.inl rfl)
 | [],_::_=> .inl rfl
 |_::_, []=> .inr (.inr rfl)
 |x::a,y::b=>by
  rw [zug,zug]
  rcases Nat.lt_trichotomy x.toNat y.toNat with h|h|h
  ·exact .inl (.inl h)
  ·have h0:x=y:=UInt8.toNat_inj.1 h
   subst h0
   rcases zzZ a b with h1|h1|h1
   ·exact .inl (.inr ⟨rfl,h1⟩)
   ·exact .inr (.inl (by rw [h1]))
   ·exact .inr (.inr (.inr ⟨rfl,h1⟩))
  ·exact .inr (.inr (.inl h))
theorem znG {a b:List UInt8} (h:bl a b=true):bl b a=false:=by
 cases h2:bl b a with
 |false=>rfl
 |true=>have:=zeZ h h2;rw [zhI]at this;cases this
theorem zjx {a b:List UInt8} (h:bl a b=true):a≠b:=by
 rintro rfl;rw [zhI]at h;cases h
theorem zjQ {a b:List UInt8} (h:bl a b=false) (hn:a≠b):bl b a=true:=by
 rcases zzZ a b with h1|h1|h1
 ·rw [h]at h1;cases h1
 ·exact absurd h1 hn
 ·exact h1
section
variable {α:Type} (key:α→List UInt8)
def zmh (l:List α):Prop:=l.Pairwise fun a b=>bl (key a) (key b)=true
def zfB (x:α):List α→List α
 | []=> [x]
 |y::l=>if bl (key x) (key y)=true then x::y::l else if key x=key y then x::l else y::zfB x l
variable {key}
theorem zmh.nodupKey {l:List α} (h:zmh key l) {a b:α} (ha:a∈l) (hb:b∈l) (e:key a=key b):a=b:=by
 induction l with
 |nil=>cases ha
 |cons y l ih=>
  have h1:=List.pairwise_cons.1 h
  rcases List.mem_cons.1 ha with q1|q1<;>rcases List.mem_cons.1 hb with q2|q2
  ·rw [q1,q2]
  ·exact absurd (q1▸e) (zjx (h1.1 _ q2))
  ·exact absurd (q2▸e.symm) (zjx (h1.1 _ q1))
  ·exact ih h1.2 q1 q2
theorem zkm {x:α}: ∀{l:List α},zmh key l→ ∀y,y∈zfB key x l↔y=x∨y∈l∧key y≠key x
 | [],_,y=>by simp [zfB]
 |z::l,h,y=>by
  have h1:=List.pairwise_cons.1 h
  unfold zfB
  split
  ·rename_i hb
   constructor
   ·intro hy
    rcases List.mem_cons.1 hy with rfl|hy
    ·exact .inl rfl
    ·refine .inr ⟨hy, ?_⟩
     rcases List.mem_cons.1 hy with rfl|hy
     ·exact(zjx hb).symm
     ·exact(zjx (zeZ hb (h1.1 _ hy))).symm
   ·rintro(rfl|⟨hy,_⟩)
    ·simp
    ·exact List.mem_cons_of_mem _ hy
  ·rename_i hb
   split
   ·rename_i he
    constructor
    ·intro hy
     rcases List.mem_cons.1 hy with rfl|hy
     ·exact .inl rfl
     ·exact .inr ⟨List.mem_cons_of_mem _ hy,fun e=>zjx (h1.1 _ hy) (by rw [e,he])⟩
    ·rintro(rfl|⟨hy,hn⟩)
     ·simp
     ·rcases List.mem_cons.1 hy with rfl|hy
      ·exact absurd he.symm hn
      ·exact List.mem_cons_of_mem _ hy
   ·rename_i he
    rw [List.mem_cons,zkm h1.2]
    constructor
    ·rintro(rfl|rfl|⟨hy,hn⟩)
     ·exact .inr ⟨by simp,fun e=>he e.symm⟩
     ·exact .inl rfl
     ·exact .inr ⟨List.mem_cons_of_mem _ hy,hn⟩
    ·rintro(rfl|⟨hy,hn⟩)
     ·exact .inr (.inl rfl)
     ·rcases List.mem_cons.1 hy with rfl|hy
      ·exact .inl rfl
      ·exact .inr (.inr ⟨hy,hn⟩)
theorem zjH {x:α}: ∀{l:List α},zmh key l→zmh key (zfB key x l)
 | [],_=>by simp [zfB,zmh]
 |z::l,h=>by
  have h1:=List.pairwise_cons.1 h
  unfold zfB
  split
  ·rename_i hb
   refine List.pairwise_cons.2 ⟨fun y hy=> ?_,h⟩
   rcases List.mem_cons.1 hy with rfl|hy
   ·exact hb
   ·exact zeZ hb (h1.1 _ hy)
  ·rename_i hb
   split
   ·rename_i he
    exact List.pairwise_cons.2 ⟨fun y hy=>by rw [he];exact h1.1 _ hy,h1.2⟩
   ·rename_i he
    refine List.pairwise_cons.2 ⟨fun y hy=> ?_,zjH h1.2⟩
    rcases(zkm h1.2 y).1 hy with rfl|⟨hy,_⟩
    ·exact zjQ (by simpa using hb) he
    ·exact h1.1 _ hy
theorem zmh.ext: ∀{a b:List α},zmh key a→zmh key b→(∀x,x∈a↔x∈b)→a=b
 | [], [],_,_,_=>rfl
 | [],y::b,_,_,h=>absurd ((h y).2 (by simp)) (by simp)
 |x::a, [],_,_,h=>absurd ((h x).1 (by simp)) (by simp)
 |x::a,y::b,ha,hb,h=>by
  have h1:=List.pairwise_cons.1 ha
  have h2:=List.pairwise_cons.1 hb
  have e:x=y:=by
   rcases List.mem_cons.1 ((h x).1 (by simp))with e|hx
   ·exact e
   ·rcases List.mem_cons.1 ((h y).2 (by simp))with e|hy
    ·exact e.symm
    ·have:=zeZ (h1.1 _ hy) (h2.1 _ hx)
     rw [zhI]at this;cases this
  subst e
  rw [zmh.ext h1.2 h2.2 fun z=> ?_]
  constructor
  ·intro hz
   rcases List.mem_cons.1 ((h z).1 (List.mem_cons_of_mem _ hz))with rfl|hz2
   ·have:=h1.1 _ hz;rw [zhI]at this;cases this
   ·exact hz2
  ·intro hz
   rcases List.mem_cons.1 ((h z).2 (List.mem_cons_of_mem _ hz))with rfl|hz2
   ·have:=h2.1 _ hz;rw [zhI]at this;cases this
   ·exact hz2
theorem zmh.filter {l:List α} (h:zmh key l) (p:α→Bool):zmh key (l.filter p):=List.Pairwise.filter p h
theorem zmh.sub {a b:List α} (h:zmh key b) (hs:a.Sublist b):zmh key a:=List.Pairwise.sublist hs h
theorem zvo {x:α}: ∀(l:List α),(zfB key x l).length≤l.length+1
 | []=>by simp [zfB]
 |y::l=>by
  unfold zfB
  have:=zvo (x:=x) l
  split
  ·simp
  ·split
   ·simp
   ·simp only [List.length_cons];omega
end
end Go.Proofs.YtgobcjbjogkpjaaGreatDoor
end
section
namespace Go.Proofs.YtgobcjbjogkpjaaGreatDoor
open Go.RowKit
set_option maxRecDepth 100000
def ziq {α:Type} (r:α→α→Bool):List α→Bool
 | []=>true
 | [_]=>true
 |x::y::l=>r x y&&ziq r (y::l)
theorem zlU {α:Type} {r:α→α→Bool} (ht: ∀a b c,r a b=true→r b c=true→r a c=true): ∀{l:List α},ziq r l=true↔l.Pairwise fun a b=>r a b=true
 | []=>by simp [ziq]
 | [_]=>by simp [ziq]
 |x::y::l=>by
  rw [ziq,Bool.and_eq_true,zlU ht]
  constructor
  ·rintro⟨h1,h2⟩
   refine List.pairwise_cons.2 ⟨fun z hz=> ?_,h2⟩
   rcases List.mem_cons.1 hz with rfl|hz
   ·exact h1
   ·exact ht _ _ _ h1 ((List.pairwise_cons.1 h2).1 z hz)
  ·intro h
   have h:=List.pairwise_cons.1 h
   exact⟨h.1 y (by simp),h.2⟩
theorem zui {α:Type} {r:α→α→Bool} {l:List α} {q:Nat} (h:q+1<l.length):ziq r (l.drop q)=(r l[q] l[q+1]&&ziq r (l.drop (q+1))):=by
 rw [List.drop_eq_getElem_cons (show q<l.length by omega),List.drop_eq_getElem_cons h,ziq]
def zhd {α:Type} (lt:α→Bool) (l:List α):Nat:=(l.takeWhile lt).length
theorem zmR {α:Type} (lt:α→Bool): ∀l:List α,zhd lt l≤l.length
 | []=>by simp [zhd]
 |x::l=>by
  have:=zmR lt l
  unfold zhd at this ⊢
  rw [List.takeWhile_cons]
  split<;>simp<;>omega
theorem zuf {α:Type} {lt:α→Bool}: ∀{l:List α} {i:Nat} (h:i<zhd lt l),lt (l[i]'(Nat.lt_of_lt_of_le h (zmR lt l)))=true
 |x::l,i,h=>by
  unfold zhd at h
  rw [List.takeWhile_cons]at h
  split at h
  ·rename_i hx
   cases i with
   |zero=>exact hx
   |succ i=>exact zuf (l:=l) (i:=i) (by unfold zhd;simpa using h)
  ·simp at h
theorem zxy {α:Type} {lt:α→Bool}: ∀{l:List α} (h:zhd lt l<l.length),lt l[zhd lt l]=false
 |x::l,h=>by
  by_cases hx:lt x=true
  ·have e:zhd lt (x::l)=zhd lt l+1:=by unfold zhd;rw [List.takeWhile_cons,if_pos hx];rfl
   have:=zxy (l:=l) (lt:=lt) (by rw [e]at h;simpa using h)
   simp only [e,List.getElem_cons_succ]
   exact this
  ·have e:zhd lt (x::l)=0:=by unfold zhd;rw [List.takeWhile_cons,if_neg hx];rfl
   simp only [e,List.getElem_cons_zero]
   simpa using hx
theorem zAr {α β:Type} {xs:List α} {body:Int × Int→Option ((Int × Int) ⊕ Option β)} {fin:Int→Option β} (lt:α→Bool) (hm: ∀i j (hj:j<xs.length) (hi:i≤j),lt xs[j]=true→lt xs[i]=true)
  (hs: ∀i j:Nat,i<j→j≤xs.length→(h:(i+j)/2<xs.length)→body ((i:Int),(j:Int))=some (.inl (if lt xs[(i+j)/2]=true then((((i+j)/2+1:Nat):Int),(j:Int))else((i:Int),(((i+j)/2:Nat):Int)))))
  (he: ∀i:Nat,i≤xs.length→body ((i:Int),(i:Int))=some (.inr (fin i))):zaA body (0,(xs.length:Int))=fin (zhd lt xs):=by
 have key: ∀n i j:Nat,j-i≤n→i≤zhd lt xs→zhd lt xs≤j→j≤xs.length→zaA body ((i:Int),(j:Int))=fin (zhd lt xs):=by
  intro n
  induction n with
  |zero=>
   intro i j h1 h2 h3 h4
   have:i=j:=by omega
   subst this
   have:i=zhd lt xs:=by omega
   rw [zdZ,he i h4,this]
  |succ n ih=>
   intro i j h1 h2 h3 h4
   by_cases hij:i=j
   ·subst hij
    have:i=zhd lt xs:=by omega
    rw [zdZ,he i h4,this]
   ·have hlt:(i+j)/2<xs.length:=by omega
    rw [zdZ,hs i j (by omega) h4 hlt]
    by_cases hc:lt xs[(i+j)/2]=true
    ·rw [if_pos hc]
     refine ih _ _ (by omega) ?_ h3 h4
     by_cases hp:(i+j)/2<zhd lt xs
     ·omega
     ·have h5:zhd lt xs<xs.length:=by omega
      have:=zxy h5
      rw [hm _ _ hlt (by omega) hc]at this
      cases this
    ·rw [if_neg hc]
     refine ih _ _ (by omega) h2 ?_ (by omega)
     by_cases hp:(i+j)/2<zhd lt xs
     ·exact absurd (zuf hp) hc
     ·omega
 exact key xs.length 0 xs.length (by omega) (by omega) (zmR lt xs) (Nat.le_refl _)
theorem zvm {α:Type} {key:α→List UInt8} {x:α}: ∀{l:List α},zmh key l→zfB key x l=(match l[zhd (fun y=>bl (key y) (key x)) l]? with
  |some y=>if key y=key x then l.set (zhd (fun y=>bl (key y) (key x)) l) x else l.take (zhd (fun y=>bl (key y) (key x)) l)++ [x]++l.drop (zhd (fun y=>bl (key y) (key x)) l)
  |none=>l.take (zhd (fun y=>bl (key y) (key x)) l)++ [x]++l.drop (zhd (fun y=>bl (key y) (key x)) l))
 | [],_=>by simp [zfB,zhd]
 |y::l,h=>by
  have h1:=List.pairwise_cons.1 h
  unfold zfB
  by_cases hb:bl (key x) (key y)=true
  ·have e:zhd (fun z=>bl (key z) (key x)) (y::l)=0:=by unfold zhd;rw [List.takeWhile_cons,if_neg (by rw [znG hb];simp)];rfl
   rw [if_pos hb,e]
   simp [(zjx hb).symm]
  ·rw [if_neg hb]
   by_cases hk:key x=key y
   ·have e:zhd (fun z=>bl (key z) (key x)) (y::l)=0:=by unfold zhd;rw [List.takeWhile_cons,if_neg (by rw [hk,zhI];simp)];rfl
    rw [if_pos hk,e]
    simp [hk]
   ·have hyx:=zjQ (by simpa using hb) hk
    have e:zhd (fun z=>bl (key z) (key x)) (y::l)=zhd (fun z=>bl (key z) (key x)) l+1:=by unfold zhd;rw [List.takeWhile_cons,if_pos hyx];rfl
    rw [if_neg hk,e,zvm h1.2]
    simp only [List.getElem?_cons_succ]
    split
    ·split<;>simp
    ·simp
end Go.Proofs.YtgobcjbjogkpjaaGreatDoor
end
section
namespace Go.Proofs.YtgobcjbjogkpjaaGreatDoor
open Go.RowKit
set_option maxRecDepth 100000
def zAe (a b:Str):Int:=if bl a b=true then-1 else if a=b then 0 else 1
@[simp] theorem zzd (a:Str):zcz a=some false:=by simp [zcz]
@[simp] theorem zCO (a b:Str):zcV a b=some (zAe a b):=by
 unfold zcV zAe
 simp only [zzd,Option.bind_some,Bool.false_eq_true,if_false]
 by_cases h:bl a b=true
 ·have:Op.bytesLess a b=true:=h
  simp [this]
 ·have h1:Op.bytesLess a b=false:=by simpa using h
  by_cases he:a=b
  ·subst he;simp [h1]
  ·simp [h1,he]
theorem zAp {a b:Str}:decide (zAe a b<0)=bl a b:=by
 unfold zAe
 cases h:bl a b with
 |true=>simp
 |false=>by_cases he:a=b<;>simp [he]
theorem zA5 {a b:Str}:(zAe a b==0)=decide (a=b):=by
 unfold zAe
 cases h:bl a b with
 |true=>simp [zjx h]
 |false=>by_cases he:a=b<;>simp [he]
theorem zBY {i j:Nat} (h:i≤j) (hj:j≤2000000):IntKind.i64.wrap (Int.fdiv (IntKind.u64.wrap (IntKind.i64.wrap ((i:Int)+(j:Int)))) (2^(min ((1:Int)).toNat (IntKind.bits .u64))))=(((i+j)/2:Nat):Int):=by
 have e1:IntKind.i64.wrap ((i:Int)+(j:Int))=((i+j:Nat):Int):=by rw [zbo (by omega) (by omega)];simp
 have e2:IntKind.u64.wrap ((i+j:Nat):Int)=((i+j:Nat):Int):=by
  simp only [IntKind.wrap,IntKind.bits,IntKind.signed]
  simp
  omega
 have e3:(2:Int)^(min ((1:Int)).toNat (IntKind.bits .u64))=((2:Nat):Int):=rfl
 rw [e1,e2,e3,Int.fdiv_eq_ediv_of_nonneg _ (by omega),←Int.natCast_ediv,zbo (by omega) (by omega)]
theorem zBh {i:Nat} (h:i≤2000000):IntKind.i64.wrap ((i:Int)+1)=((i+1:Nat):Int):=by rw [zbo (by omega) (by omega)];simp
abbrev zfb (l:List zaa):Prop:=zmh (fun w:zaa=>w.fKey) l
abbrev zhe (l:List zaa) (k:Str):Nat:=zhd (fun w:zaa=>bl w.fKey k) l
theorem zB1 {l:List zaa} {k:Str} (hl:l.length≤2000000) (hr:zfb l):zbF l k=some (((zhe l k:Nat):Int),(match l[zhe l k]? with|some w=>decide (w.fKey=k)|none=>false)):=by
 unfold zbF zaw
 have hc: ∀w:zaa,zb7 w k=some (zAe w.fKey k):=fun w=>by simp [zb7]
 have h:=zAr (xs:=l) (body:=fun s:Int × Int=>zaf l k (fun y0_ y1_=>zb7 y0_ y1_) s.1 s.2) (fin:=fun i=>zat l k (fun y0_ y1_=>zb7 y0_ y1_) i) (fun w:zaa=>bl w.fKey k)
  (fun i j hj hi h=>by
   rcases Nat.lt_or_ge i j with hij|hij
   ·exact zeZ ((List.pairwise_iff_getElem.1 hr) i j (by omega) hj hij) h
   ·have:i=j:=by omega
    subst this;exact h)
  (fun i j hij hj hmid=>by
   show zaf l k _ (i:Int) (j:Int)=_
   unfold zaf
   rw [if_pos (by simpa using hij),zBY (by omega) (by omega),zaj hmid,Option.bind_some]
   simp only [hc,Option.bind_some,zAp,zBh (show(i+j)/2≤2000000 by omega)]
   cases bl l[(i+j)/2].fKey k<;>rfl)
  (fun i hi=>by
   show zaf l k _ (i:Int) (i:Int)=_
   unfold zaf
   rw [if_neg (by simp)])
 rw [h]
 unfold zat
 show Option.bind (if decide (((zhe l k:Nat):Int)<l.length)=true then _ else _) _=_
 by_cases hp:zhe l k<l.length
 ·rw [if_pos (by simpa using hp),zaj hp,Option.bind_some]
  simp only [hc,Option.bind_some,zA5,List.getElem?_eq_getElem hp]
 ·rw [if_neg (by simpa using hp),List.getElem?_eq_none (by omega)]
  rfl
theorem zmN {l:List zaa} {w:zaa} (hl:l.length≤2000000) (hr:zfb l):zcB l w=some (zfB (fun w:zaa=>w.fKey) w l):=by
 unfold zcB
 rw [zB1 hl hr,Option.bind_some,zvm hr]
 show(if(match l[zhe l w.fKey]? with|some w'=>decide (w'.fKey=w.fKey)|none=>false)=true then _ else _)=_
 have hle:zhe l w.fKey≤l.length:=zmR _ _
 have hI:znN l ((zhe l w.fKey:Nat):Int) [w]=some (l.take (zhe l w.fKey)++ [w]++l.drop (zhe l w.fKey)):=zah ⟨by omega,by omega,by simp,by simp only [List.length_singleton];omega⟩
 by_cases hp:zhe l w.fKey<l.length
 ·rw [List.getElem?_eq_getElem hp]
  by_cases hk:(l[zhe l w.fKey]).fKey=w.fKey
  ·simp only [hk,decide_true,if_true,zaj hp,Option.bind_some]
   rfl
  ·simp only [hk,decide_false,Bool.false_eq_true,if_false]
   rw [hI];rfl
 ·rw [List.getElem?_eq_none (by omega)]
  simp only [Bool.false_eq_true,if_false]
  rw [hI];rfl
theorem zlk (ks:List Str):zkR ks=ziq bl ks:=by
 have key: ∀n q,q+n+1=ks.length→(List.range' (q+1) n).all (zeW ks)=ziq bl (ks.drop q):=by
  intro n
  induction n with
  |zero=>
   intro q hq
   rw [List.drop_eq_getElem_cons (show q<ks.length by omega),List.drop_eq_nil_of_le (show ks.length≤q+1 by omega)]
   rfl
  |succ n ih=>
   intro q hq
   rw [List.range'_succ,List.all_cons,ih (q+1) (by omega),zui (show q+1<ks.length by omega)]
   congr 1
   unfold zeW
   have hb:(q+1==0)=false:=rfl
   rw [hb,Bool.false_or,Nat.add_sub_cancel,List.getElem?_eq_getElem (show q<ks.length by omega),List.getElem?_eq_getElem (show q+1<ks.length by omega)]
   rfl
 cases ks with
 |nil=>rfl
 |cons k l=>
  unfold zkR
  rw [List.length_cons,List.range_eq_range',List.range'_succ,List.all_cons]
  have:=key l.length 0 (by simp)
  rw [List.drop_zero]at this
  rw [Nat.zero_add]at this
  rw [show 0+1=1 from rfl,this]
  rfl
theorem zj6 {α β:Type} (f:α→β) (r:β→β→Bool): ∀l:List α,ziq r (l.map f)=ziq (fun a b=>r (f a) (f b)) l
 | []=>rfl
 | [_]=>rfl
 |x::y::l=>by
  have:=zj6 f r (y::l)
  simp only [List.map_cons,ziq]at this ⊢
  rw [this]
theorem zn9 {l:List zaa} (h:zc7 l=true):zfb l:=by
 unfold zc7 at h
 simp only [Bool.and_eq_true]at h
 have h1:=h.2.2
 rw [zlk,zj6]at h1
 exact(zlU (r:=fun a b:zaa=>bl a.fKey b.fKey) fun a b c p q=>zeZ p q).1 h1
end Go.Proofs.YtgobcjbjogkpjaaGreatDoor
end
section
namespace Go.Proofs.YtgobcjbjogkpjaaGreatDoor
open Go.RowKit
set_option maxRecDepth 100000
theorem zrw {t:zab} (h:zac t=true):zmh (fun x:zbD=>x.fName) t.fIdxs:=by
 unfold zac at h
 simp only [Bool.and_eq_true]at h
 have h1:=h.2
 have h2:zkR (t.fIdxs.map (·.fName))=true:=by
  unfold zkR
  rw [List.length_map,List.all_eq_true]
  intro i hi
  have h3:=List.all_eq_true.1 h1 i hi
  unfold zkY at h3
  simp only [Bool.and_eq_true]at h3
  have hi':i<t.fIdxs.length:=List.mem_range.1 hi
  have e: ∀j:Nat,(((t.fIdxs.map (·.fName))[j]?).getD [])=((t.fIdxs[j]?).getD ⟨[],0,0⟩).fName:=by
   intro j
   rw [List.getElem?_map]
   cases t.fIdxs[j]?<;>rfl
  unfold zeW
  rw [e,e]
  exact h3.2
 rw [zlk,zj6]at h2
 exact(zlU (r:=fun a b:zbD=>bl a.fName b.fName) fun a b c p q=>zeZ p q).1 h2
theorem znF {t:zab} {x:zbD} (h:zac t=true) (hx:x∈t.fIdxs):zh2 t x.fName x:=by
 have h1:zho (fun y:zbD=>y.fName==x.fName) t.fIdxs≥0:=by
  have:=ziN (fun y:zbD=>y.fName==x.fName) t.fIdxs
  rw [show(t.fIdxs.any fun y=>y.fName==x.fName)=true from List.any_eq_true.2 ⟨x,hx,by simp⟩]at this
  exact of_decide_eq_true this
 obtain⟨y,h2,h3,h4⟩:=zux h1
 have h5:y=x:=(zrw h).nodupKey h4 hx (by simpa using h3)
 subst h5
 have h6:=zbv.1 (zdw h hx).2
 exact⟨h2,rfl,h6.1,h6.2⟩
theorem zfy {t:zab} (h:zac t=true):2≤t.fCols.length∧t.fCols.length≤4∧t.fIdxs.length≤3:=by
 unfold zac at h
 simp only [Bool.and_eq_true,decide_eq_true_eq]at h
 have h1:=zbv.1 h.1.1.2.2
 have h2:=h.1.2
 omega
theorem zm0 {t:zab} {r:za5} (hs:Small r.fVals) (h:zam t r=true):zp7 t r:=by
 unfold zam at h
 simp only [Bool.and_eq_true,beq_iff_eq]at h
 exact⟨by have:=h.1;omega,hs⟩
theorem zrf {t:zab} {r:za5} (hc:1≤t.fCols.length) (h:zp7 t r):getI r.fVals 0=some (zdV r 0):=(zog h (by omega) (by omega)).1
theorem zoS {t:zab} {r:za5} (hc:1≤t.fCols.length) (h:zp7 t r):r.fVals≠ []:=by
 intro e
 have:=h.len
 rw [e]at this
 simp at this
 omega
def zh1 (a:zae):Prop:=Small a.fOld.fVals∧Small a.fNew.fVals
def zaU (t:zab) (a:zae):Bool:=
 if a.fKind=1 then(a.fOld.fVals.length:Int)==0&&zam t a.fNew else
 if a.fKind=2 then zam t a.fOld&&(a.fNew.fVals.length:Int)==0 else
 if a.fKind=3 then zam t a.fOld&&(zam t a.fNew&&zdV a.fOld 0==zdV a.fNew 0)else false
theorem zvQ {t:zab} {a:zae} (hc:1≤t.fCols.length) (h:zh1 a):zgz t a=some (zaU t a):=by
 unfold zgz zaU
 by_cases h1:a.fKind=1
 ·rw [if_pos (by simpa using h1),if_pos h1,zhD h.2,Option.bind_some]
  cases((a.fOld.fVals.length:Int)==0)<;>simp
 rw [if_neg (by simpa using h1),if_neg h1]
 by_cases h2:a.fKind=2
 ·rw [if_pos (by simpa using h2),if_pos h2,zhD h.1,Option.bind_some]
  cases((a.fNew.fVals.length:Int)==0)<;>simp
 rw [if_neg (by simpa using h2),if_neg h2]
 by_cases h3:a.fKind=3
 ·rw [if_pos (by simpa using h3),if_pos h3,zhD h.1,zhD h.2,Option.bind_some,Option.bind_some]
  cases e1:zam t a.fOld with
  |false=>simp
  |true=>
   cases e2:zam t a.fNew with
   |false=>simp
   |true=>simp [zrf hc (zm0 h.1 e1),zrf hc (zm0 h.2 e2)]
 rw [if_neg (by simpa using h3),if_neg h3]
theorem zvq {t:zab} {a:zae} (hc:1≤t.fCols.length) (h:zh1 a):zcj t a=some (zaU t a):=by
 unfold zcj zaU
 by_cases h1:a.fKind=1
 ·rw [if_pos (by simpa using h1),if_pos h1,zhx h.2,Option.bind_some]
  cases((a.fOld.fVals.length:Int)==0)<;>simp
 rw [if_neg (by simpa using h1),if_neg h1]
 by_cases h2:a.fKind=2
 ·rw [if_pos (by simpa using h2),if_pos h2,zhx h.1,Option.bind_some]
 rw [if_neg (by simpa using h2),if_neg h2]
 by_cases h3:a.fKind=3
 ·rw [if_pos (by simpa using h3),if_pos h3,zhx h.1,zhx h.2,Option.bind_some,Option.bind_some]
  cases e1:zam t a.fOld with
  |false=>simp
  |true=>
   cases e2:zam t a.fNew with
   |false=>simp
   |true=>simp [zrf hc (zm0 h.1 e1),zrf hc (zm0 h.2 e2)]
 rw [if_neg (by simpa using h3),if_neg h3]
structure zx5 (t:zab) (a:zae):Prop where
 old:a.fKind≠1→zp7 t a.fOld
 new:a.fKind≠2→zp7 t a.fNew
 kind:a.fKind=1∨a.fKind=2∨a.fKind=3
 same:a.fKind=3→zdV a.fOld 0=zdV a.fNew 0
theorem zuS {t:zab} {a:zae} (h:zh1 a) (hg:zaU t a=true):zx5 t a:=by
 unfold zaU at hg
 by_cases h1:a.fKind=1
 ·rw [if_pos h1,Bool.and_eq_true]at hg
  exact⟨fun k=>absurd h1 k,fun _=>zm0 h.2 hg.2, .inl h1,fun k=>by omega⟩
 rw [if_neg h1]at hg
 by_cases h2:a.fKind=2
 ·rw [if_pos h2,Bool.and_eq_true]at hg
  exact⟨fun _=>zm0 h.1 hg.1,fun k=>absurd h2 k, .inr (.inl h2),fun k=>by omega⟩
 rw [if_neg h2]at hg
 by_cases h3:a.fKind=3
 ·rw [if_pos h3,Bool.and_eq_true,Bool.and_eq_true,beq_iff_eq]at hg
  exact⟨fun _=>zm0 h.1 hg.1,fun _=>zm0 h.2 hg.2.1, .inr (.inr h3),fun _=>hg.2.2⟩
 rw [if_neg h3]at hg
 cases hg
def zpy (t:zab) (a:zae) (x:zbD):Str:=if a.fKind=1 then []else zcY t x.fName x.fCol a.fOld
def zm2 (t:zab) (a:zae) (x:zbD):Str:=if a.fKind=2 then []else zcY t x.fName x.fCol a.fNew
def zkF (k n:Str) (x:zbD):List DOp:=if k≠ []∧k≠n∧x.fStage≥1 then [⟨3,k, [],0⟩]else []
def znt (n:Str) (x:zbD):List DOp:=if n≠ []∧x.fStage≥2 then [⟨2,n, [],0⟩]else []
def zhb (t:zab) (a:zae) (x:zbD):List DOp:=zkF (zpy t a x) (zm2 t a x) x++znt (zm2 t a x) x
def zil (t:zab) (a:zae):List DOp:=
 if a.fKind=1 then [⟨6,(zdq t a.fNew).fKey, [],0⟩,⟨2,(zdq t a.fNew).fKey,(zdq t a.fNew).fVal,0⟩]else
 if a.fKind=2 then [⟨7,(zdq t a.fOld).fKey,(zdq t a.fOld).fVal,0⟩,⟨3,(zdq t a.fOld).fKey, [],0⟩]else
 [⟨7,(zdq t a.fOld).fKey,(zdq t a.fOld).fVal,0⟩,⟨2,(zdq t a.fOld).fKey,(zdq t a.fNew).fVal,0⟩]
def zdL (t:zab) (a:zae):List DOp:=t.fIdxs.foldl (fun o x=>o++zhb t a x) (zil t a)
theorem zze (k n:Str) (x:zbD):(zkF k n x).length≤1:=by unfold zkF;split<;>simp
theorem zAC (n:Str) (x:zbD):(znt n x).length≤1:=by unfold znt;split<;>simp
theorem zmV (t:zab) (a:zae) (x:zbD):(zhb t a x).length≤2:=by
 unfold zhb
 have:=zze (zpy t a x) (zm2 t a x) x
 have:=zAC (zm2 t a x) x
 rw [List.length_append];omega
theorem zlf (t:zab) (a:zae):(zil t a).length=2:=by unfold zil;split<;>(try split)<;>rfl
theorem zqZ {o p:List DOp} (h:o.length≤5000000) (hn:p.length≤5000000):((o.length:Int)+(p.length:Int))*48≤140737488355328∧(o.length:Int)+(p.length:Int)≤140737488355328:=by omega
theorem zxQ {t:zab} {a:zae} {x:zbD} (ht:t.fName.length≤2000000) (hn:x.fName.length≤2000000) (hx:zh2 t x.fName x) (ha:zx5 t a):zfC t x a=some (zhb t a x):=by
 have e1:zfC t x a=ze3 t x a (zpy t a x):=by
  unfold zfC zpy
  by_cases h1:a.fKind=1
  ·rw [if_neg (by simp [h1]),if_pos h1];rfl
  ·rw [if_pos (by simpa using h1),if_neg h1,znM ht hn hx (ha.old h1)];rfl
 have e2: ∀k,ze3 t x a k=zdJ x k (zm2 t a x):=by
  intro k
  unfold ze3 zm2
  by_cases h1:a.fKind=2
  ·rw [if_neg (by simp [h1]),if_pos h1]
  ·rw [if_pos (by simpa using h1),if_neg h1,znM ht hn hx (ha.new h1)];rfl
 have e3: ∀(n:Str) (o:List DOp),o.length≤5→ze5 x n o=some (o++znt n x):=by
  intro n o ho
  unfold ze5 znt
  by_cases h1:n≠ []∧x.fStage≥2
  ·rw [if_pos (by simpa using h1),if_pos h1,zah (zqZ (by omega) (by simp))]
  ·rw [if_neg (by simpa using h1),if_neg h1,List.append_nil]
 have e4: ∀(k n:Str),zdJ x k n=some (zkF k n x++znt n x):=by
  intro k n
  unfold zdJ zkF
  by_cases h1:k≠ []∧k≠n∧x.fStage≥1
  ·rw [if_pos (by simpa [and_assoc]using h1),if_pos h1,zah (zqZ (by simp) (by simp)),e3 _ _ (by simp)]
  ·rw [if_neg (by simpa [and_assoc]using h1),if_neg h1,e3 _ _ (by simp)]
 rw [e1,e2,e4];rfl
theorem zvA {t:zab} {a:zae} (hc:1≤t.fCols.length) (ht:t.fName.length≤2000000) (ha:zx5 t a):zgx t a=some (zil t a):=by
 unfold zgx zil
 by_cases h1:a.fKind=1
 ·have hr:=ha.new (by omega)
  rw [if_pos (by simpa using h1),if_pos h1,zo9 ht hr.small (zoS hc hr)];rfl
 have hr:=ha.old h1
 rw [if_neg (by simpa using h1),if_neg h1,zo9 ht hr.small (zoS hc hr),Option.bind_some]
 by_cases h2:a.fKind=2
 ·rw [if_pos (by simpa using h2),if_pos h2]
 have hr:=ha.new h2
 rw [if_neg (by simpa using h2),if_neg h2,zo9 ht hr.small (zoS hc hr)];rfl
theorem zz0 {t:zab} {a:zae} (hS:zbA t) (hg:zac t=true) (ha:zx5 t a):zfH t a=some (zdL t a):=by
 have hc:=zfy hg
 unfold zfH
 rw [zvA (by omega) hS.name ha,Option.bind_some]
 have hl:=zlf t a
 exact(zb1 (xs:=t.fIdxs) (body:=fun s:Int × List DOp=>zcO t a s.1 s.2) (fun i (o:List DOp)=>(i,o)) (fun o x=>o++zhb t a x) (fun o=>some o) (fun i o=>o.length≤2+2*i)
  (fun i hi o hI=>by
   have hI:o.length≤2+2*i:=hI
   have hw:=zcJ hi (by omega)
   have hk:=zmV t a t.fIdxs[i]
   have hm:=List.getElem_mem hi
   refine⟨?_,by show List.length _≤_;rw [List.length_append];omega⟩
   show zcO t a i o=_
   unfold zcO
   rw [if_pos (by simpa using hi),zaj hi,Option.bind_some,zxQ hS.name (hS.idx _ hm) (znF hg hm) ha,Option.bind_some,zah (zqZ (by omega) (by omega)),hw])
  (fun o _=>by
   show zcO t a t.fIdxs.length o=_
   unfold zcO
   rw [if_neg (by simp)]) (s:=zil t a) (by omega)).1
theorem zty {k:Int} {w:zaa} {o:List DOp} (h:o.length≤5000000):zav k w o=some ((),o++ [⟨k,w.fKey,w.fVal,0⟩]):=by
 unfold zav
 rw [zah (zqZ h (by simp))]
theorem zzN {t:zab} {a:zae} (hS:zbA t) (hg:zac t=true) (ha:zx5 t a):zb2 t a=some (zdL t a):=by
 have hc:=zfy hg
 have hl:=zlf t a
 have h7: ∀(i:Int) (x:zbD) (n:Str) (o:List DOp),o.length≤100→zaZ i x n o=some (.inl (IntKind.i64.wrap (i+1),o++znt n x)):=by
  intro i x n o ho
  unfold zaZ znt zeK
  by_cases h1:n= []
  ·rw [if_neg (by simp [h1]),if_neg (by simp [h1]),List.append_nil]
  rw [if_pos (by simpa using h1),Option.bind_some]
  by_cases h2:x.fStage≥2
  ·rw [if_pos (by simpa using h2),if_pos ⟨h1,h2⟩,zty (by omega)];rfl
  ·rw [if_neg (by simpa using h2),if_neg (fun h=>h2 h.2),List.append_nil]
 have h6: ∀(i:Int) (x:zbD) (k n:Str) (o:List DOp),o.length≤99→zaN i o x k n=some (.inl (IntKind.i64.wrap (i+1),o++(zkF k n x++znt n x))):=by
  intro i x k n o ho
  unfold zaN zkF zeR
  by_cases h1:k= []
  ·rw [if_neg (by simp [h1]),if_neg (by simp [h1]),h7 _ _ _ _ (by omega)];rfl
  rw [if_pos (by simpa using h1)]
  by_cases h2:k=n
  ·rw [if_neg (by simp [h2]),if_neg (by simp [h2]),h7 _ _ _ _ (by omega)];rfl
  rw [if_pos (by simpa using h2),Option.bind_some]
  by_cases h3:x.fStage≥1
  ·rw [if_pos (by simpa using h3),if_pos ⟨h1,h2,h3⟩,zty (by omega),Option.bind_some,h7 _ _ _ _ (by rw [List.length_append,List.length_singleton];omega),List.append_assoc]
  ·rw [if_neg (by simpa using h3),if_neg (fun h=>h3 h.2.2),h7 _ _ _ _ (by omega)];rfl
 have hloop: ∀o:List DOp,o.length=2→zaY t a o=some (t.fIdxs.foldl (fun o x=>o++zhb t a x) o):=by
  intro o ho
  unfold zaY
  exact(zb1 (xs:=t.fIdxs) (body:=fun s:Int × List DOp=>zaX t a s.1 s.2) (fun i (o:List DOp)=>(i,o)) (fun o x=>o++zhb t a x) (fun o=>some o) (fun i o=>o.length≤2+2*i)
   (fun i hi o hI=>by
    have hI:o.length≤2+2*i:=hI
    have hw:=zcJ hi (by omega)
    have hk:=zmV t a t.fIdxs[i]
    have hm:=List.getElem_mem hi
    have hx:=znF hg hm
    refine⟨?_,by show List.length _≤_;rw [List.length_append];omega⟩
    show zaX t a i o=_
    unfold zaX
    rw [if_pos (by simpa using hi),zaj hi,Option.bind_some]
    have e1:(if(a.fKind !=1)=true then(zaP t t.fIdxs[i].fName a.fOld).bind fun v20=>some (Sum.inl v20)else some (Sum.inl ([]:List UInt8)):Option (List UInt8 ⊕ Option ((Int × List DOp) ⊕ Option (List DOp))))=some (.inl (zpy t a t.fIdxs[i])):=by
     unfold zpy
     by_cases h1:a.fKind=1
     ·rw [if_neg (by simp [h1]),if_pos h1]
     ·rw [if_pos (by simpa using h1),if_neg h1,zrO hS (hS.idx _ hm) hx (ha.old h1)];rfl
    rw [e1]
    show zdi t a i o t.fIdxs[i] (zpy t a t.fIdxs[i])=_
    unfold zdi
    have e2: ∀k,(if(a.fKind !=2)=true then(zaP t t.fIdxs[i].fName a.fNew).bind fun v19=>zaN i o t.fIdxs[i] k v19 else zaN i o t.fIdxs[i] k ([]:List UInt8))=zaN i o t.fIdxs[i] k (zm2 t a t.fIdxs[i]):=by
     intro k
     unfold zm2
     by_cases h1:a.fKind=2
     ·rw [if_neg (by simp [h1]),if_pos h1]
     ·rw [if_pos (by simpa using h1),if_neg h1,zrO hS (hS.idx _ hm) hx (ha.new h1)];rfl
    rw [e2,h6 _ _ _ _ _ (by omega),hw]
    rfl)
   (fun o _=>by
    show zaX t a t.fIdxs.length o=_
    unfold zaX
    rw [if_neg (by simp)]) (s:=o) (by omega)).1
 have hn:t.fName.length≤2000000:=hS.name
 unfold zb2 zdL zil
 rcases ha.kind with h1|h1|h1
 ·have hr:=ha.new (by omega)
  rw [if_neg (by simp [h1]),if_pos h1]
  show zaM t a [] [] false []=_
  unfold zaM
  rw [if_pos (by simp [h1]),zof hn hr.small (zoS (by omega) hr),Option.bind_some]
  unfold zbq
  rw [if_pos (by simp [h1]),zty (by simp),Option.bind_some,zty (by simp),Option.bind_some,hloop _ (by simp)]
  rfl
 ·have hr:=ha.old (by omega)
  rw [if_pos (by simp [h1]),if_neg (by omega),if_pos h1,zof hn hr.small (zoS (by omega) hr),Option.bind_some,zty (by simp),Option.bind_some]
  show zaM t a (zdq t a.fOld).fKey (zdq t a.fOld).fVal (zdq t a.fOld).fGone _=_
  unfold zaM
  rw [if_neg (by simp [h1])]
  unfold zbq
  rw [if_neg (by simp [h1]),if_pos (by simp [h1]),zty (by simp),Option.bind_some,hloop _ (by simp)]
  rfl
 ·have hr:=ha.old (by omega)
  have hr2:=ha.new (by omega)
  have hk:(zdq t a.fOld).fKey=(zdq t a.fNew).fKey:=by
   have:=ha.same h1
   unfold zdV at this
   unfold zdq
   rw [List.head?_eq_getElem?,List.head?_eq_getElem?]
   exact congrArg (fun z=>t.fName++ [47]++z) this
  rw [if_pos (by simp [h1]),if_neg (by omega),if_neg (by omega),zof hn hr.small (zoS (by omega) hr),Option.bind_some,zty (by simp),Option.bind_some]
  show zaM t a (zdq t a.fOld).fKey (zdq t a.fOld).fVal (zdq t a.fOld).fGone _=_
  unfold zaM
  rw [if_pos (by simp [h1]),zof hn hr2.small (zoS (by omega) hr2),Option.bind_some]
  unfold zbq
  rw [if_neg (by simp [h1]),if_neg (by simp [h1]),if_pos (by simp [h1]),zty (by simp),Option.bind_some,hloop _ (by simp),hk]
  rfl
end Go.Proofs.YtgobcjbjogkpjaaGreatDoor
end
section
namespace Go.Proofs.YtgobcjbjogkpjaaGreatDoor
open Go.RowKit
set_option maxRecDepth 100000
theorem zcd {σ α:Type} {body:σ→Option (σ ⊕ Option α)} {s:σ} {o:Option α} (h:body s=some (.inr o)):zaA body s=o:=by rw [zdZ,h]
theorem zcT {σ α:Type} {body:σ→Option (σ ⊕ Option α)} {s s':σ} (h:body s=some (.inl s')):zaA body s=zaA body s':=by rw [zdZ,h]
end Go.Proofs.YtgobcjbjogkpjaaGreatDoor
end
section
namespace Go.Proofs.YtgobcjbjogkpjaaGreatDoor
open Go.RowKit
set_option maxRecDepth 100000
abbrev wk (w:zaa):Str:=w.fKey
theorem zl9 {α β:Type} {xs:List α} {body:Int→Option (Int ⊕ Option β)} (p:α→Bool) (hit:α→Option β) (fin:Option β)
  (hs: ∀(i:Nat) (hi:i<xs.length),body i=some (if p xs[i]=true then .inr (hit xs[i])else .inl ((i+1:Nat):Int))) (he:body xs.length=some (.inr fin)):
  zaA body 0=match xs.find? p with|some x=>hit x|none=>fin:=by
 have key: ∀n q,q+n=xs.length→zaA body (q:Nat)=match(xs.drop q).find? p with|some x=>hit x|none=>fin:=by
  intro n
  induction n with
  |zero=>
   intro q hq
   have:q=xs.length:=by omega
   subst this
   rw [List.drop_length]
   exact zcd he
  |succ n ih=>
   intro q hq
   have hlt:q<xs.length:=by omega
   rw [List.drop_eq_getElem_cons hlt,List.find?_cons]
   have h1:=hs q hlt
   cases hp:p xs[q]with
   |true=>
    rw [hp,if_pos rfl]at h1
    exact zcd h1
   |false=>
    rw [hp,if_neg (by simp)]at h1
    rw [zcT h1]
    exact ih (q+1) (by omega)
 have:=key xs.length 0 (by omega)
 rw [List.drop_zero]at this
 exact this
def ztj (got:List zf4) (k:Str):Str × Bool × Bool:=match got.find? (fun g=>g.fKey==k)with|some g=>(g.fVal,g.fThere,true)|none=>([],false,false)
def zce (ws:List zaa) (got:List zf4) (k:Str):Str × Bool × Bool:=match ws.find? (fun w=>w.fKey==k)with|some w=>(w.fVal, !w.fGone,true)|none=>ztj got k
def zbL (rows:List zaa) (k:Str):zf4:=match rows.find? (fun w=>w.fKey==k)with|some w=>⟨k,w.fVal,true⟩|none=>⟨k, [],false⟩
theorem zoo {ws:List zaa} {got:List zf4} {k:Str} (hw:ws.length≤2000000) (hg:got.length≤2000000):zfI ws got k=some (zce ws got k):=by
 have h2:zd2 got k=some (ztj got k):=by
  unfold zd2 ztj
  rw [zl9 (xs:=got) (body:=fun s:Int=>zb8 got k s) (fun g=>g.fKey==k) (fun g=>some (g.fVal,g.fThere,true)) (some ([],false,false)) (fun i hi=>by
   show zb8 got k i=_
   unfold zb8
   rw [if_pos (by simpa using hi),zaj hi,Option.bind_some,zcJ hi (by omega)]
   split<;>rfl) (by
   show zb8 got k got.length=_
   unfold zb8
   rw [if_neg (by simp)])]
  cases got.find? (fun g=>g.fKey==k)<;>rfl
 unfold zfI zce
 rw [zl9 (xs:=ws) (body:=fun s:Int=>zb4 ws got k s) (fun w=>w.fKey==k) (fun w=>some (w.fVal, !w.fGone,true)) (zd2 got k) (fun i hi=>by
  show zb4 ws got k i=_
  unfold zb4
  rw [if_pos (by simpa using hi),zaj hi,Option.bind_some,zcJ hi (by omega)]
  split<;>rfl) (by
  show zb4 ws got k ws.length=_
  unfold zb4
  rw [if_neg (by simp)]),h2]
 cases ws.find? (fun w=>w.fKey==k)<;>rfl
theorem zAi {rows:List zaa} {k:Str} (hw:rows.length≤2000000):zhm rows k=some (zbL rows k):=by
 unfold zhm zbL
 rw [zl9 (xs:=rows) (body:=fun s:Int=>zcN rows k s) (fun w=>w.fKey==k) (fun w=>some ⟨k,w.fVal,true⟩) (zjr k) (fun i hi=>by
  show zcN rows k i=_
  unfold zcN
  rw [if_pos (by simpa using hi),zaj hi,Option.bind_some,zcJ hi (by omega)]
  split<;>rfl) (by
  show zcN rows k rows.length=_
  unfold zcN
  rw [if_neg (by simp)])]
 cases rows.find? (fun w=>w.fKey==k)<;>rfl
theorem zlM {α:Type} (lt:α→Bool) (x:α) (l:List α):zhd lt (x::l)=if lt x=true then zhd lt l+1 else 0:=by
 unfold zhd
 rw [List.takeWhile_cons]
 split<;>rfl
theorem zjD {x:zaa} {l:List zaa} (h:zfb (x::l)):(∀y∈l,bl x.fKey y.fKey=true)∧zfb l:=by
 unfold zfb zmh at h
 rw [List.pairwise_cons]at h
 exact h
theorem zxt {l:List zaa} {k:Str} (h: ∀y∈l,bl k y.fKey=true):l.find? (fun w=>w.fKey==k)=none:=by
 rw [List.find?_eq_none]
 intro y hy
 have:=zjx (h y hy)
 simpa using fun e=>this e.symm
theorem zqg {k:Str}: ∀{l:List zaa},zfb l→l.find? (fun w=>w.fKey==k)=match l[zhe l k]? with|some w=>if w.fKey=k then some w else none|none=>none
 | [],_=>by simp
 |x::l,h=>by
  obtain⟨h1,h2⟩:=zjD h
  have ih:=zqg (k:=k) h2
  rw [zhe,zlM,List.find?_cons]
  by_cases hb:bl x.fKey k=true
  ·have hne:(x.fKey==k)=false:=by simpa using zjx hb
   rw [if_pos hb,hne,List.getElem?_cons_succ]
   exact ih
  ·rw [if_neg hb,List.getElem?_cons_zero]
   by_cases he:x.fKey=k
   ·rw [show(x.fKey==k)=true by simpa using he];simp [he]
   ·rw [show(x.fKey==k)=false by simpa using he]
    simp only [he,if_false]
    have hk:bl k x.fKey=true:=zjQ (by simpa using hb) he
    exact zxt fun y hy=>zeZ hk (h1 y hy)
theorem zxE {l:List zaa} {k:Str} (hl:l.length≤2000000) (hr:zfb l): ∃i:Int,(zbF l k=some (i,true)∧ ∃w,getI l i=some w∧l.find? (fun w=>w.fKey==k)=some w)∨(zbF l k=some (i,false)∧l.find? (fun w=>w.fKey==k)=none):=by
 refine⟨(zhe l k:Nat), ?_⟩
 rw [zB1 hl hr,zqg hr]
 by_cases hp:zhe l k<l.length
 ·rw [List.getElem?_eq_getElem hp]
  by_cases hk:(l[zhe l k]).fKey=k
  ·left
   simp only [hk,decide_true,if_true]
   exact⟨trivial,_,zaj hp,rfl⟩
  ·right
   simp only [hk,decide_false,if_false]
   exact⟨trivial,trivial⟩
 ·rw [List.getElem?_eq_none (by omega)]
  right
  exact⟨rfl,rfl⟩
theorem zvu {ws:List zaa} {got:List zf4} {k:Str} (hw:ws.length≤2000000) (hg:got.length≤2000000) (hr:zfb ws):zgt k ws got=some (zce ws got k):=by
 unfold zgt zce
 obtain⟨i,⟨e,w,e2,e3⟩|⟨e,e3⟩⟩:=zxE (k:=k) hw hr
 ·rw [e,e3,Option.bind_some,if_pos rfl,e2];rfl
 ·rw [e,e3,Option.bind_some,if_neg (by simp)]
  unfold ztj
  rw [zl9 (xs:=got) (body:=fun s:Int=>zct k got s) (fun g=>g.fKey==k) (fun g=>some (g.fVal,g.fThere,true)) (some ([],false,false)) (fun i hi=>by
   show zct k got i=_
   unfold zct
   rw [if_pos (by simpa using hi),zaj hi,Option.bind_some,zcJ hi (by omega)]
   split<;>rfl) (by
   show zct k got got.length=_
   unfold zct
   rw [if_neg (by simp)])]
  cases got.find? (fun g=>g.fKey==k)<;>rfl
theorem zyE {rows:List zaa} {k:Str} (hw:rows.length≤2000000) (hr:zfb rows):zh3 rows k=some (zbL rows k):=by
 unfold zh3 zbL
 obtain⟨i,⟨e,w,e2,e3⟩|⟨e,e3⟩⟩:=zxE (k:=k) hw hr
 ·rw [e,e3,Option.bind_some,if_neg (by simp),e2];rfl
 ·rw [e,e3,Option.bind_some,if_pos (by simp)]
def leW (k:Str) (w:zaa):Bool:=bl w.fKey k||w.fKey==k
def zzE (l:List zaa) (w:zaa) (q:Nat):List zaa:=
 match(if q=0 then none else l[q-1]?)with
 |some y=>if y.fKey=w.fKey then l.set (q-1) w else l.take q++ [w]++l.drop q
 |none=>l.take q++ [w]++l.drop q
theorem zwz {w:Str} {l:List zaa} (h: ∀y∈l,bl w y.fKey=true):zhd (leW w) l=0:=by
 cases l with
 |nil=>rfl
 |cons y l=>
  rw [zlM,if_neg]
  have h1:=h y (by simp)
  have h2:=znG h1
  have h3:=zjx h1
  unfold leW
  rw [h2]
  simpa using fun e=>h3 e.symm
theorem zu4 {w:zaa}: ∀{l:List zaa},zfb l→zzE l w (zhd (leW w.fKey) l)=zfB wk w l
 | [],_=>by simp [zzE,zfB,zhd]
 |x::l,h=>by
  obtain⟨h1,h2⟩:=zjD h
  have ih:=zu4 (w:=w) h2
  rw [zlM,zfB]
  by_cases ha:bl (wk w) (wk x)=true
  ·have hl:leW w.fKey x=false:=by
    have h3:=znG ha
    have h4:=zjx ha
    unfold leW
    rw [h3]
    simpa using fun e=>h4 e.symm
   rw [if_pos ha,hl,if_neg (by simp)]
   simp [zzE]
  rw [if_neg ha]
  by_cases he:wk w=wk x
  ·have hl:leW w.fKey x=true:=by unfold leW;rw [show(x.fKey==w.fKey)=true by simpa using he.symm];simp
   have hz:zhd (leW w.fKey) l=0:=zwz fun y hy=>by rw [show w.fKey=x.fKey from he];exact h1 y hy
   rw [if_pos he,hl,if_pos rfl,hz]
   simp [zzE,show x.fKey=w.fKey from he.symm]
  ·have hb:bl x.fKey w.fKey=true:=zjQ (by simpa using ha) he
   have hl:leW w.fKey x=true:=by unfold leW;rw [hb];rfl
   rw [if_neg he,hl,if_pos rfl,←ih]
   have hle:=zmR (leW w.fKey) l
   generalize zhd (leW w.fKey) l=q at hle
   unfold zzE
   rw [if_neg (by omega),Nat.add_sub_cancel]
   cases q with
   |zero=>
    simp only [List.getElem?_cons_zero,if_true]
    rw [if_neg (fun e=>he e.symm)]
    simp
   |succ q=>
    rw [if_neg (by omega),Nat.add_sub_cancel,List.getElem?_cons_succ,List.getElem?_eq_getElem (by omega)]
    simp only
    split
    ·simp
    ·simp
theorem zxB {w:Str}: ∀{l:List zaa},zfb l→ ∀(j:Nat) (hj:j<l.length),zhd (leW w) l≤j→leW w l[j]=false
 | [],_,j,hj,_=>by simp at hj
 |x::l,h,j,hj,hq=>by
  obtain⟨h1,h2⟩:=zjD h
  rw [zlM]at hq
  by_cases hx:leW w x=true
  ·rw [if_pos hx]at hq
   cases j with
   |zero=>omega
   |succ j=>exact zxB h2 j (by simpa using hj) (by omega)
  ·have hx':leW w x=false:=by simpa using hx
   cases j with
   |zero=>exact hx'
   |succ j=>
    have hm:l[j]'(by simpa using hj)∈l:=List.getElem_mem _
    have h3:=h1 _ hm
    show leW w (l[j]'(by simpa using hj))=false
    unfold leW at hx' ⊢
    simp only [Bool.or_eq_false_iff,beq_eq_false_iff_ne]at hx' ⊢
    have h4:bl w x.fKey=true:=zjQ hx'.1 hx'.2
    have h5:=zeZ h4 h3
    exact⟨znG h5,fun e=>zjx h5 e.symm⟩
theorem zxk {i:Nat} (h0:0<i) (h:i≤2000000):IntKind.i64.wrap ((i:Int)-1)=((i-1:Nat):Int):=by rw [zbo (by omega) (by omega)];omega
theorem zjo {l:List zaa} {w:zaa} (hl:l.length≤2000000) (hr:zfb l):zaT l w=some (zfB wk w l):=by
 have hk: ∀q:Nat,q≤l.length→zeX l w (q:Int)=some (zzE l w q):=by
  intro q hq
  have r1:0≤(q:Int)∧(q:Int)≤(l.length:Int)∧(l.length:Int)≤(l.length:Int):=by omega
  have hw1:(zd8 l (q:Int) (l.length:Int))=l.drop q:=by rw [show(l.length:Int)=((l.length:Nat):Int)from rfl,zAS,List.take_length]
  have hw2:(zd8 l 0 (q:Int))=l.take q:=zAs l q
  have r2:((([]:List zaa).length:Int)+((l.drop q).length:Int))*40≤140737488355328∧(([]:List zaa).length:Int)+((l.drop q).length:Int)≤140737488355328:=by
   rw [List.length_nil,List.length_drop];omega
  have r3:0≤(0:Int)∧(0:Int)≤(q:Int)∧(q:Int)≤(l.length:Int):=by omega
  have r4:((([]:List zaa).length:Int)+((l.take q).length:Int))*40≤140737488355328∧(([]:List zaa).length:Int)+((l.take q).length:Int)≤140737488355328:=by
   rw [List.length_nil,List.length_take];omega
  have r5:(((l.take q).length:Int)+(([w]:List zaa).length:Int))*40≤140737488355328∧((l.take q).length:Int)+(([w]:List zaa).length:Int)≤140737488355328:=by
   rw [List.length_singleton,List.length_take];omega
  have r6:(((l.take q++ [w]).length:Int)+((l.drop q).length:Int))*40≤140737488355328∧((l.take q++ [w]).length:Int)+((l.drop q).length:Int)≤140737488355328:=by
   rw [List.length_append,List.length_singleton,List.length_take,List.length_drop];omega
  have r7:((([]:List zaa).length:Int)+((l).length:Int))*40≤140737488355328∧(([]:List zaa).length:Int)+((l).length:Int)≤140737488355328:=by
   rw [List.length_nil];omega
  unfold zeX zzE
  by_cases h0:q=0
  ·subst h0
   rw [if_neg (by simp),if_pos rfl]
   rw [zah r1,hw1,zah r2,zah r3,hw2,zah r4,zah r5,zah r6]
  ·have hq1:q-1<l.length:=by omega
   rw [if_pos (by simp;omega),if_neg h0,zxk (by omega) (by omega),zaj hq1,Option.bind_some,List.getElem?_eq_getElem hq1]
   simp only
   by_cases he:(l[q-1]).fKey=w.fKey
   ·rw [if_pos (by simpa using he),if_pos he,zah r7,Option.bind_some]
    rfl
   ·rw [if_neg (by simpa using he),if_neg he]
    rw [zah r1,hw1,zah r2,zah r3,hw2,zah r4,zah r5,zah r6]
 have hle:=zmR (leW w.fKey) l
 have key: ∀n j:Nat,j=zhd (leW w.fKey) l+n→j≤l.length→zaA (fun s:Int=>zca l w s) (j:Int)=some (zzE l w (zhd (leW w.fKey) l)):=by
  intro n
  induction n with
  |zero=>
   intro j hj hjl
   have hj':j=zhd (leW w.fKey) l:=by omega
   refine(zcd ?_).trans (hk _ hle)
   show zca l w (j:Int)=_
   unfold zca
   by_cases h0:j=0
   ·rw [if_neg (by simp [h0]),hj']
   ·have hq1:j-1<l.length:=by omega
    have ht:=zuf (lt:=leW w.fKey) (l:=l) (i:=j-1) (by omega)
    rw [if_pos (by simp;omega),zxk (by omega) (by omega),zaj hq1,Option.bind_some,if_neg,hj']
    unfold leW at ht
    have ht:(bl l[j-1].fKey w.fKey||l[j-1].fKey==w.fKey)=true:=ht
    show¬(!(bl l[j-1].fKey w.fKey||l[j-1].fKey==w.fKey))=true
    rw [ht];simp
  |succ n ih=>
   intro j hj hjl
   have hq1:j-1<l.length:=by omega
   have ht:=zxB (w:=w.fKey) hr (j-1) hq1 (by omega)
   have e:zca l w (j:Int)=some (.inl ((j-1:Nat):Int)):=by
    unfold zca
    rw [if_pos (by simp;omega),zxk (by omega) (by omega),zaj hq1,Option.bind_some,if_pos]
    have ht:(bl l[j-1].fKey w.fKey||l[j-1].fKey==w.fKey)=false:=ht
    show(!(bl l[j-1].fKey w.fKey||l[j-1].fKey==w.fKey))=true
    rw [ht];rfl
   rw [zcT (body:=fun s:Int=>zca l w s) e]
   exact ih (j-1) (by omega) (by omega)
 unfold zaT
 rw [key (l.length-zhd (leW w.fKey) l) l.length (by omega) (Nat.le_refl _),zu4 hr]
end Go.Proofs.YtgobcjbjogkpjaaGreatDoor
end
section
namespace Go.Proofs.YtgobcjbjogkpjaaGreatDoor
open Go.RowKit
set_option maxRecDepth 100000
structure OkO (o:DOp):Prop where
 key:zbH o.fKey=true
 val:zeG o.fVal=true
 by_:o.fBy=0
 kind:o.fKind=2∨o.fKind=3∨o.fKind=6∨o.fKind=7
 none:o.fKind=3∨o.fKind=6→o.fVal= []
theorem zso {s:Str} (h:zeG s=true):s.length≤24:=by
 unfold zeG at h
 simp only [Bool.and_eq_true,decide_eq_true_eq]at h
 omega
theorem zsu {s:Str} (h:zbH s=true):s.length≤12:=by
 unfold zbH at h
 simp only [Bool.and_eq_true]at h
 have:=zbv.1 h.1
 omega
theorem zta (s:Str) (h:s.length≤2000000): ∃r,zfR s=some r:=by
 unfold zfR
 rw [zm4,Option.bind_some]
 cases hb:inB s.length 1 6 with
 |false=>exact⟨_,rfl⟩
 |true=>
  have h1:=zbv.1 hb
  obtain⟨x,e,_,_⟩:=zlo (xs:=s) (i:=0) (by omega) (by omega)
  rw [if_pos rfl,e,Option.bind_some]
  split
  ·exact⟨_,rfl⟩
  ·have key: ∀(n q:Nat) (v:Int),q+n=s.length→ ∃r,zaA (fun s_:Int × Int=>zbf s s_.1 s_.2) (v,(q:Int))=some r:=by
    intro n
    induction n with
    |zero=>
     intro q v hq
     refine⟨v,zcd ?_⟩
     show zbf s v q=_
     unfold zbf
     rw [if_neg (by simp;omega)]
    |succ n ih=>
     intro q v hq
     have hlt:q<s.length:=by omega
     by_cases hd:((decide (((s[q]).toNat:Int)<48))||(decide (((s[q]).toNat:Int)>57)))=true
     ·refine⟨-1,zcd ?_⟩
      show zbf s v q=_
      unfold zbf
      rw [if_pos (by simpa using hlt),zaj hlt,Option.bind_some,if_pos hd]
     ·have e:zbf s v q=some (.inl ((IntKind.i64.wrap ((IntKind.i64.wrap ((10:Int)*v))+(IntKind.i64.wrap (IntKind.u8.wrap (((s[q]).toNat:Int)-48))))),((q+1:Nat):Int))):=by
       unfold zbf
       rw [if_pos (by simpa using hlt),zaj hlt,Option.bind_some,if_neg hd,zcJ hlt (by omega)]
      obtain⟨r,hr⟩:=ih (q+1) _ (by omega)
      exact⟨r,(zcT (body:=fun s_:Int × Int=>zbf s s_.1 s_.2) e).trans hr⟩
   exact key s.length 0 0 (by omega)
theorem zyJ (s:Str) (h:s.length≤2000000): ∃r,zgZ s=some r:=by
 have hj1: ∀(y:UInt8) (v:Str),v.length≤2000000→ ∃r,zfT y v=some r:=by
  intro y v hv
  obtain⟨r,e⟩:=zta v hv
  unfold zfT
  rw [e,Option.bind_some]
  split
  ·exact⟨_,rfl⟩
  ·split<;>exact⟨_,rfl⟩
 unfold zgZ
 by_cases h0:(s.length:Int)>0
 ·obtain⟨x,e,_,_⟩:=zlo (xs:=s) (i:=0) (by omega) (by omega)
  rw [if_pos (by simpa using h0),e,Option.bind_some]
  split
  ·rw [zah (by omega)]
   exact hj1 _ _ (by rw [zCB,List.length_tail];omega)
  ·exact hj1 _ _ h
 ·rw [if_neg (by simpa using h0)]
  unfold zjK
  obtain⟨r,e⟩:=zta s h
  rw [e,Option.bind_some]
  split<;>exact⟨_,rfl⟩
def zqi (o:DOp) (val:Str) (there:Bool):Bool:=if o.fKind=6 then !there else there&&val==o.fVal
def zfo (got:List zf4):List DOp→List zaa→Int × Str × List zaa
 | [],ws=>(3, [],ws)
 |o::l,ws=>
  if o.fKind=2 then zfo got l (zfB wk ⟨o.fKey,o.fVal,false⟩ ws)else
  if o.fKind=3 then zfo got l (zfB wk ⟨o.fKey, [],true⟩ ws)else
  if(zce ws got o.fKey).2.2=true then(if zqi o (zce ws got o.fKey).1 (zce ws got o.fKey).2.1=true then zfo got l ws else(2, [], []))
  else(1,o.fKey, [])
structure zjC (n:Nat) (ws:List zaa):Prop where
 rise:zfb ws
 len:ws.length≤n
 good: ∀w∈ws,zfn w=true
theorem zev {n:Nat} {ws:List zaa} {w:zaa} (h:zjC n ws) (hw:zfn w=true):zjC (n+1) (zfB wk w ws):=by
 refine⟨zjH h.rise,Nat.le_trans (zvo _) (by have:=h.len;omega),fun y hy=> ?_⟩
 rcases(zkm (key:=wk) h.rise y).1 hy with rfl|hy
 ·exact hw
 ·exact h.good y hy.1
theorem zo2 {o:DOp} (h:OkO o):zfn ⟨o.fKey,o.fVal,false⟩=true:=by
 unfold zfn zh5
 simp [h.key,h.val]
theorem zmP {o:DOp} (h:OkO o):zfn ⟨o.fKey, [],true⟩=true:=by
 unfold zfn zh5
 rw [h.key]
 rfl
theorem zlO {w:zaa} (h:zfn w=true):w.fVal.length≤24:=by
 unfold zfn zh5 at h
 simp only [Bool.and_eq_true]at h
 exact zso h.2.1
theorem zs2 {w:zaa} (h:zfn w=true):w.fKey.length≤12:=by
 unfold zfn at h
 simp only [Bool.and_eq_true]at h
 exact zsu h.1
theorem zp9 {ws:List zaa} {got:List zf4} {k:Str} (hw: ∀w∈ws,zfn w=true) (hg: ∀g∈got,g.fVal.length≤2000):(zce ws got k).1.length≤2000:=by
 unfold zce
 cases e:ws.find? (fun w=>w.fKey==k)with
 |some w=>
  have:=zlO (hw w (List.mem_of_find?_eq_some e))
  show w.fVal.length≤2000
  omega
 |none=>
  unfold ztj
  cases e2:got.find? (fun g=>g.fKey==k)with
  |some g=>exact hg g (List.mem_of_find?_eq_some e2)
  |none=>simp
theorem zyd {o:DOp} (h:OkO o) (hk2:o.fKind≠2) (hk3:o.fKind≠3) {val:Str} {there:Bool} (hv:val.length≤2000):zet o val there=some (zqi o val there):=by
 have e: ∃r,zed val=some r:=by
  unfold zed zgB
  rw [zah (by omega)]
  exact⟨_,rfl⟩
 obtain⟨r,e⟩:=e
 unfold zet zqi
 rw [e,Option.bind_some]
 rcases h.kind with h1|h1|h1|h1
 ·exact absurd h1 hk2
 ·exact absurd h1 hk3
 ·rw [h1];rfl
 ·rw [h1];rfl
theorem zy6 {o:DOp} (h:OkO o) {val:Str} {there:Bool} (hv:val.length≤2000):zgC o val there=some (if o.fKind=2∨o.fKind=3 then false else !zqi o val there):=by
 obtain⟨r,e⟩:=zyJ val (by omega)
 unfold zgC zqi
 rw [e,Option.bind_some]
 rcases h.kind with h1|h1|h1|h1
 ·rw [h1];rfl
 ·rw [h1];rfl
 ·rw [h1];cases there<;>rfl
 ·rw [h1]
  show some (!there||val !=o.fVal)=some (!(there&&val==o.fVal))
  cases there<;>simp [bne]
theorem zAw {ops:List DOp} {got:List zf4} (hl:ops.length≤1000) (ho: ∀o∈ops,OkO o) (hg:got.length≤2000) (hv: ∀g∈got,g.fVal.length≤2000):zib ops got=some (zfo got ops []):=by
 have key: ∀(n q:Nat) (ws:List zaa),q+n=ops.length→zjC q ws→zaA (fun s:Int × List zaa=>zay ops got s.1 s.2) ((q:Int),ws)=some (zfo got (ops.drop q) ws):=by
  intro n
  induction n with
  |zero=>
   intro q ws hq hw
   rw [List.drop_eq_nil_of_le (by omega),zfo]
   refine zcd ?_
   show zay ops got q ws=_
   unfold zay
   rw [if_neg (by simp;omega)]
  |succ n ih=>
   intro q ws hq hw
   have hlt:q<ops.length:=by omega
   have hok:=ho _ (List.getElem_mem hlt)
   have hwl:=hw.len
   have hwr:=zcJ hlt (by omega)
   rw [List.drop_eq_getElem_cons hlt,zfo]
   by_cases h2:(ops[q]).fKind=2
   ·rw [if_pos h2]
    have e:zay ops got q ws=some (.inl (((q+1:Nat):Int),zfB wk ⟨(ops[q]).fKey,(ops[q]).fVal,false⟩ ws)):=by
     unfold zay
     rw [if_pos (by simpa using hlt),zaj hlt,Option.bind_some,if_pos (by simpa using h2),zmN (by omega) hw.rise,Option.bind_some,hwr]
    rw [zcT (body:=fun s:Int × List zaa=>zay ops got s.1 s.2) e]
    exact ih (q+1) _ (by omega) (zev hw (zo2 hok))
   rw [if_neg h2]
   by_cases h3:(ops[q]).fKind=3
   ·rw [if_pos h3]
    have e:zay ops got q ws=some (.inl (((q+1:Nat):Int),zfB wk ⟨(ops[q]).fKey, [],true⟩ ws)):=by
     unfold zay
     rw [if_pos (by simpa using hlt),zaj hlt,Option.bind_some,if_neg (by simpa using h2),if_pos (by simpa using h3),zmN (by omega) hw.rise,Option.bind_some,hwr]
    rw [zcT (body:=fun s:Int × List zaa=>zay ops got s.1 s.2) e]
    exact ih (q+1) _ (by omega) (zev hw (zmP hok))
   rw [if_neg h3]
   have hsl:=zp9 (k:=(ops[q]).fKey) hw.good hv
   have hb:zay ops got q ws=if(zce ws got (ops[q]).fKey).2.2=true then(if zqi ops[q] (zce ws got (ops[q]).fKey).1 (zce ws got (ops[q]).fKey).2.1=true then some (.inl (((q+1:Nat):Int),ws))else some (.inr (some (2, [], []))))else some (.inr (some (1,(ops[q]).fKey, []))):=by
    unfold zay
    rw [if_pos (by simpa using hlt),zaj hlt,Option.bind_some,if_neg (by simpa using h2),if_neg (by simpa using h3),zvu (by omega) (by omega) hw.rise,Option.bind_some]
    cases hs:(zce ws got (ops[q]).fKey).2.2 with
    |false=>rw [if_pos (by simp),if_neg (by simp)]
    |true=>
     rw [if_neg (by simp),if_pos rfl,zyd hok h2 h3 hsl,Option.bind_some]
     have h4: ¬(ops[q]).fKind=4:=by rcases hok.kind with h|h|h|h<;>omega
     cases zqi ops[q] (zce ws got (ops[q]).fKey).1 (zce ws got (ops[q]).fKey).2.1 with
     |false=>rfl
     |true=>rw [if_neg (by simp),if_neg (by simpa using h4),if_pos rfl,hwr]
   by_cases hs:(zce ws got (ops[q]).fKey).2.2=true
   ·rw [if_pos hs]at hb ⊢
    by_cases hk:zqi ops[q] (zce ws got (ops[q]).fKey).1 (zce ws got (ops[q]).fKey).2.1=true
    ·rw [if_pos hk]at hb ⊢
     rw [zcT (body:=fun s:Int × List zaa=>zay ops got s.1 s.2) hb]
     exact ih (q+1) _ (by omega) ⟨hw.rise,by omega,hw.good⟩
    ·rw [if_neg hk]at hb ⊢
     exact zcd hb
   ·rw [if_neg hs]at hb ⊢
    exact zcd hb
 exact key ops.length 0 [] (by omega) ⟨List.Pairwise.nil,Nat.le_refl _,by simp⟩
theorem zAH {ops:List DOp} {got:List zf4} (hl:ops.length≤1000) (ho: ∀o∈ops,OkO o) (hg:got.length≤2000) (hv: ∀g∈got,g.fVal.length≤2000):ziS ops got=some (zfo got ops []):=by
 have key: ∀(n q:Nat) (ws:List zaa),q+n=ops.length→zjC q ws→zaA (fun s:List zaa × Int=>zaE ops got s.1 s.2) (ws,(q:Int))=some (zfo got (ops.drop q) ws):=by
  intro n
  induction n with
  |zero=>
   intro q ws hq hw
   rw [List.drop_eq_nil_of_le (by omega),zfo]
   refine zcd ?_
   show zaE ops got ws q=_
   unfold zaE
   rw [if_neg (by simp;omega)]
  |succ n ih=>
   intro q ws hq hw
   have hlt:q<ops.length:=by omega
   have hok:=ho _ (List.getElem_mem hlt)
   have hwl:=hw.len
   have hwr:=zcJ hlt (by omega)
   have hsl:=zp9 (k:=(ops[q]).fKey) hw.good hv
   have hgv:=zy6 hok (val:=(zce ws got (ops[q]).fKey).1) (there:=(zce ws got (ops[q]).fKey).2.1) hsl
   rw [List.drop_eq_getElem_cons hlt,zfo]
   by_cases h2:(ops[q]).fKind=2
   ·rw [if_pos h2]
    rw [if_pos (.inl h2)]at hgv
    have e:zaE ops got ws q=some (.inl (zfB wk ⟨(ops[q]).fKey,(ops[q]).fVal,false⟩ ws,((q+1:Nat):Int))):=by
     unfold zaE
     rw [if_pos (by simpa using hlt),zaj hlt,Option.bind_some,zoo (by omega) (by omega),Option.bind_some,if_neg (by simp [h2]),hgv,Option.bind_some,if_neg (by simp),if_pos (by simpa using h2),zjo (by omega) hw.rise,Option.bind_some,hwr]
    rw [zcT (body:=fun s:List zaa × Int=>zaE ops got s.1 s.2) e]
    exact ih (q+1) _ (by omega) (zev hw (zo2 hok))
   rw [if_neg h2]
   by_cases h3:(ops[q]).fKind=3
   ·rw [if_pos h3]
    rw [if_pos (.inr h3)]at hgv
    have e:zaE ops got ws q=some (.inl (zfB wk ⟨(ops[q]).fKey, [],true⟩ ws,((q+1:Nat):Int))):=by
     unfold zaE
     rw [if_pos (by simpa using hlt),zaj hlt,Option.bind_some,zoo (by omega) (by omega),Option.bind_some,if_neg (by simp [h3]),hgv,Option.bind_some,if_neg (by simp),if_neg (by simpa using h2),if_pos (by simpa using h3),zjo (by omega) hw.rise,Option.bind_some,hwr]
    rw [zcT (body:=fun s:List zaa × Int=>zaE ops got s.1 s.2) e]
    exact ih (q+1) _ (by omega) (zev hw (zmP hok))
   rw [if_neg h3]
   rw [if_neg (by simp [h2,h3])]at hgv
   have hb:zaE ops got ws q=if(zce ws got (ops[q]).fKey).2.2=true then(if zqi ops[q] (zce ws got (ops[q]).fKey).1 (zce ws got (ops[q]).fKey).2.1=true then some (.inl (ws,((q+1:Nat):Int)))else some (.inr (some (2, [], []))))else some (.inr (some (1,(ops[q]).fKey, []))):=by
    unfold zaE
    rw [if_pos (by simpa using hlt),zaj hlt,Option.bind_some,zoo (by omega) (by omega),Option.bind_some]
    cases hs:(zce ws got (ops[q]).fKey).2.2 with
    |false=>rw [if_pos (by simp [h2,h3]),if_neg (by simp)]
    |true=>
     rw [if_neg (by simp),if_pos rfl,hgv,Option.bind_some]
     have h4: ¬(ops[q]).fKind=4:=by rcases hok.kind with h|h|h|h<;>omega
     cases zqi ops[q] (zce ws got (ops[q]).fKey).1 (zce ws got (ops[q]).fKey).2.1 with
     |false=>rfl
     |true=>rw [if_neg (by simp),if_neg (by simpa using h2),if_neg (by simpa using h3),if_neg (by simpa using h4),if_pos rfl,hwr]
   by_cases hs:(zce ws got (ops[q]).fKey).2.2=true
   ·rw [if_pos hs]at hb ⊢
    by_cases hk:zqi ops[q] (zce ws got (ops[q]).fKey).1 (zce ws got (ops[q]).fKey).2.1=true
    ·rw [if_pos hk]at hb ⊢
     rw [zcT (body:=fun s:List zaa × Int=>zaE ops got s.1 s.2) hb]
     exact ih (q+1) _ (by omega) ⟨hw.rise,by omega,hw.good⟩
    ·rw [if_neg hk]at hb ⊢
     exact zcd hb
   ·rw [if_neg hs]at hb ⊢
    exact zcd hb
 exact key ops.length 0 [] (by omega) ⟨List.Pairwise.nil,Nat.le_refl _,by simp⟩
theorem zkk {got:List zf4}: ∀(l:List DOp) {n:Nat} {ws:List zaa},(∀o∈l,OkO o)→zjC n ws→zjC (n+l.length) (zfo got l ws).2.2∧((zfo got l ws).1=1→ ∃o∈l,o.fKey=(zfo got l ws).2.1∧ ∀g∈got,g.fKey≠o.fKey)
 | [],n,ws,_,hw=>⟨hw,fun h=>by simp [zfo]at h⟩
 |o::l,n,ws,ho,hw=>by
  have hok:=ho o (by simp)
  have hl: ∀o∈l,OkO o:=fun x hx=>ho x (by simp [hx])
  have up: ∀{w:List zaa},zjC (n+l.length) w→zjC (n+(o::l).length) w:=fun h=>⟨h.rise,by have:=h.len;rw [List.length_cons];omega,h.good⟩
  rw [zfo]
  split
  ·obtain⟨a,b⟩:=zkk (got:=got) l hl (zev hw (zo2 hok))
   refine⟨⟨a.rise,by have:=a.len;rw [List.length_cons];omega,a.good⟩,fun h=> ?_⟩
   obtain⟨x,hx,h1,h2⟩:=b h
   exact⟨x,by simp [hx],h1,h2⟩
  ·split
   ·obtain⟨a,b⟩:=zkk (got:=got) l hl (zev hw (zmP hok))
    refine⟨⟨a.rise,by have:=a.len;rw [List.length_cons];omega,a.good⟩,fun h=> ?_⟩
    obtain⟨x,hx,h1,h2⟩:=b h
    exact⟨x,by simp [hx],h1,h2⟩
   ·split
    ·split
     ·obtain⟨a,b⟩:=zkk (got:=got) l hl hw
      refine⟨up a,fun h=> ?_⟩
      obtain⟨x,hx,h1,h2⟩:=b h
      exact⟨x,by simp [hx],h1,h2⟩
     ·exact⟨⟨List.Pairwise.nil,by simp,by simp⟩,fun h=>by simp at h⟩
    ·rename_i hs
     refine⟨⟨List.Pairwise.nil,by simp,by simp⟩,fun _=>⟨o,by simp,rfl,fun g hg e=> ?_⟩⟩
     apply hs
     unfold zce
     cases e1:ws.find? (fun w=>w.fKey==o.fKey)with
     |some w=>rfl
     |none=>
      unfold ztj
      cases e2:got.find? (fun g=>g.fKey==o.fKey)with
      |some g=>rfl
      |none=>
       rw [List.find?_eq_none]at e2
       exact absurd (by simpa using e) (e2 g hg)
def mu (ops:List DOp) (got:List zf4):Nat:=(ops.filter fun o=>got.all fun g=>g.fKey !=o.fKey).length
theorem zBk {ops:List DOp} {got:List zf4} {g:zf4} {o:DOp} (ho:o∈ops) (hk:o.fKey=g.fKey) (hn: ∀x∈got,x.fKey≠o.fKey):mu ops (got++ [g])<mu ops got:=by
 unfold mu
 have e:(fun o:DOp=>(got++ [g]).all fun x=>x.fKey !=o.fKey)=fun o=>(got.all fun x=>x.fKey !=o.fKey)&&(g.fKey !=o.fKey):=by
  funext x
  rw [List.all_append]
  simp
 have e2:ops.filter (fun o:DOp=>(got++ [g]).all fun x=>x.fKey !=o.fKey)=(ops.filter fun o=>got.all fun x=>x.fKey !=o.fKey).filter fun o=>g.fKey !=o.fKey:=by
  rw [e,List.filter_filter]
  congr 1
  funext x
  rw [Bool.and_comm]
 rw [e2]
 have hm:o∈ops.filter fun o=>got.all fun x=>x.fKey !=o.fKey:=List.mem_filter.2 ⟨ho,List.all_eq_true.2 fun x hx=>by simpa using hn x hx⟩
 generalize ops.filter (fun o=>got.all fun x=>x.fKey !=o.fKey)=l at hm
 have hlt: ∀(l:List DOp),o∈l→(l.filter fun o=>g.fKey !=o.fKey).length<l.length:=by
  intro l
  induction l with
  |nil=>intro h;simp at h
  |cons y l ih=>
   intro h
   rw [List.filter_cons]
   rcases List.mem_cons.1 h with rfl|h
   ·rw [if_neg (by simp [hk])]
    have:=List.length_filter_le (fun o:DOp=>g.fKey !=o.fKey) l
    rw [List.length_cons];omega
   ·have:=ih h
    split
    ·rw [List.length_cons,List.length_cons];omega
    ·rw [List.length_cons];omega
 exact hlt l hm
theorem zCq (ops:List DOp) (got:List zf4):mu ops got≤ops.length:=List.length_filter_le _ _
def zzP (rows:List zaa) (ops:List DOp):Nat→List zf4→List zaa × Bool
 |0,_=>([],false)
 |n+1,got=>if(zfo got ops []).1=1 then zzP rows ops n (got++ [zbL rows (zfo got ops []).2.1])else((zfo got ops []).2.2,(zfo got ops []).1==3)
structure zps (rows:List zaa):Prop where
 rise:zfb rows
 len:rows.length≤24
 good: ∀w∈rows,zfn w=true
theorem zyp {rows:List zaa} {k:Str} (h:zps rows):(zbL rows k).fVal.length≤2000∧(zbL rows k).fKey=k:=by
 unfold zbL
 cases e:rows.find? (fun w=>w.fKey==k)with
 |some w=>
  have:=zlO (h.good w (List.mem_of_find?_eq_some e))
  exact⟨by show w.fVal.length≤2000;omega,rfl⟩
 |none=>exact⟨by simp,rfl⟩
theorem zvb {rows:List zaa} {ops:List DOp} (hl:ops.length≤8) (ho: ∀o∈ops,OkO o) (hr:zps rows): ∀(n:Nat) (got:List zf4),mu ops got<n→got.length+n≤1000→(∀g∈got,g.fVal.length≤2000)→
  (∃g,zaA (fun s:List zf4=>zbz rows ops s) got=some (g,zzP rows ops n got))∧(∃g,zaA (fun s:List zf4=>zbO rows ops s) got=some (g,zzP rows ops n got))∧zjC 8 (zzP rows ops n got).1
 |0,got,hm,_,_=>by omega
 |n+1,got,hm,hg,hv=>by
  have hi:=zAw (got:=got) (by omega) ho (by omega) hv
  have hs:=zAH (got:=got) (by omega) ho (by omega) hv
  obtain⟨ga,gb⟩:=zkk (got:=got) ops (n:=0) (ws:= []) ho ⟨List.Pairwise.nil,Nat.le_refl _,by simp⟩
  have hrl:=hr.len
  rw [zzP]
  generalize zfo got ops []=r at hi hs ga gb
  by_cases h1:r.1=1
  ·rw [if_pos h1]
   obtain⟨o,hom,hok,hon⟩:=gb h1
   obtain⟨t1,t2⟩:=zyp (k:=r.2.1) hr
   have hq:(((got).length:Int)+(([zbL rows r.2.1]:List zf4).length:Int))*40≤140737488355328∧((got).length:Int)+(([zbL rows r.2.1]:List zf4).length:Int)≤140737488355328:=by
    rw [List.length_singleton];omega
   have ei:zbz rows ops got=some (.inl (got++ [zbL rows r.2.1])):=by
    unfold zbz
    rw [hi,Option.bind_some,if_neg (by simp [h1]),zyE (by omega) hr.rise,Option.bind_some,zah hq]
   have es:zbO rows ops got=some (.inl (got++ [zbL rows r.2.1])):=by
    unfold zbO
    rw [hs,Option.bind_some,if_neg (by simp [h1]),zAi (by omega),Option.bind_some,zah hq]
   rw [zcT (body:=fun s:List zf4=>zbz rows ops s) ei,zcT (body:=fun s:List zf4=>zbO rows ops s) es]
   refine zvb hl ho hr n _ ?_ (by rw [List.length_append,List.length_singleton];omega) fun g hg'=> ?_
   ·have:=zBk (g:=zbL rows r.2.1) hom (hok.trans t2.symm) hon
    omega
   ·rcases List.mem_append.1 hg' with h|h
    ·exact hv g h
    ·rw [List.mem_singleton]at h;subst h;exact t1
  ·rw [if_neg h1]
   refine⟨⟨got,zcd ?_⟩,⟨got,zcd ?_⟩,ga.rise,by have:=ga.len;show r.2.2.length≤8;omega,ga.good⟩
   ·show zbz rows ops got=_
    unfold zbz
    rw [hi,Option.bind_some,if_pos (by simpa using h1)]
   ·show zbO rows ops got=_
    unfold zbO
    rw [hs,Option.bind_some,if_pos (by simpa using h1)]
def zjf (rows:List zaa) (ops:List DOp):List zaa × Bool:=zzP rows ops 9 []
theorem zqY {rows:List zaa} {ops:List DOp} (hl:ops.length≤8) (ho: ∀o∈ops,OkO o) (hr:zps rows):(∃g,zhS rows ops=some (g,zjf rows ops))∧(∃g,zih rows ops=some (g,zjf rows ops))∧zjC 8 (zjf rows ops).1:=by
 have:=zCq ops []
 exact zvb hl ho hr 9 [] (by omega) (by simp) (by simp)
end Go.Proofs.YtgobcjbjogkpjaaGreatDoor
end
section
namespace Go.Proofs.YtgobcjbjogkpjaaGreatDoor
open Go.RowKit
set_option maxRecDepth 100000
theorem zpm {s:Str} (h:field s=true):s.length≤3:=by
 unfold field at h
 simp only [Bool.and_eq_true]at h
 have:=zbv.1 h.1
 omega
theorem zuo {t:zab} {r:za5} (h:zam t r=true) (c:Int):(zdV r c).length≤3:=by
 unfold zam at h
 simp only [Bool.and_eq_true]at h
 unfold zdV
 cases e:r.fVals[c.toNat]? with
 |none=>simp
 |some s=>exact zpm (List.all_eq_true.1 h.2 s (List.mem_of_getElem? e))
theorem zoi {k:Nat}: ∀{xs:List Str},(∀s∈xs,s.length≤k)→zdQ xs≤k*xs.length
 | [],_=>by simp [zdQ]
 |s::xs,h=>by
  have h1:=h s (by simp)
  have h2:=zoi (k:=k) (xs:=xs) fun y hy=>h y (by simp [hy])
  simp only [zdQ,List.length_cons,Nat.mul_add,Nat.mul_one]
  omega
theorem zy9 {t:zab} {r:za5} (hg:zac t=true) (h:zam t r=true):(zdq t r).fKey.length≤5∧(zdq t r).fVal.length≤20:=by
 have hn:=zfd (zeh hg)
 have hc:=zfy hg
 have hv:=zuo h 0
 have h':=h
 unfold zam at h'
 simp only [Bool.and_eq_true,beq_iff_eq]at h'
 have hall: ∀s∈r.fVals,s.length≤3:=fun s hs=>zpm (List.all_eq_true.1 h'.2 s hs)
 constructor
 ·unfold zdq
  have e:(r.fVals.head?).getD []=zdV r 0:=by unfold zdV;rw [List.head?_eq_getElem?];rfl
  simp only [e,List.length_append,List.length_singleton]
  omega
 ·have h1:=zr9 r.fVals.tail [44]
  have h2:=zoi (k:=3) (xs:=r.fVals.tail) fun s hs=>hall s (List.mem_of_mem_tail hs)
  have h3:r.fVals.tail.length≤3:=by rw [List.length_tail];omega
  rw [List.length_singleton]at h1
  show(Lib.join r.fVals.tail [44]).length≤20
  omega
theorem zye {t:zab} {n:Str} {c:Int} {r:za5} (hg:zac t=true) (hn:n.length=1) (h:zam t r=true):(zcY t n c r).length≤11:=by
 have h1:=zfd (zeh hg)
 have h2:=zuo h c
 have h3:=zuo h 0
 unfold zcY head
 simp only [List.length_append,List.length_singleton]
 omega
theorem zu9 {α β:Type} {P:β→Prop} {f:α→List β}: ∀(xs:List α) (a:List β),(∀x∈xs,∀o∈f x,P o)→(∀o∈a,P o)→ ∀o∈xs.foldl (fun a x=>a++f x) a,P o
 | [],a,_,h=>h
 |x::xs,a,hf,h=>zu9 xs (a++f x) (fun y hy=>hf y (by simp [hy])) fun o ho=>by
  rcases List.mem_append.1 ho with ho|ho
  ·exact h o ho
  ·exact hf x (by simp) o ho
theorem ztg {α β:Type} {f:α→List β} (hf: ∀x,(f x).length≤2): ∀(xs:List α) (a:List β),(xs.foldl (fun a x=>a++f x) a).length≤a.length+2*xs.length
 | [],a=>by simp
 |x::xs,a=>by
  have h1:=ztg hf xs (a++f x)
  have h2:=hf x
  rw [List.length_append]at h1
  rw [List.foldl_cons,List.length_cons]
  omega
def zz2 (s:Str):Prop:= ∀b∈s,(zey b||([46,47]:Str).contains b)=true
def zCJ (s:Str):Prop:= ∀b∈s,(zey b||([46,45,44,95]:Str).contains b)=true
theorem zxe {s:Str} (h:field s=true): ∀b∈s,zey b=true:=by
 unfold field zhN at h
 simp only [Bool.and_eq_true]at h
 intro b hb
 have:=List.all_eq_true.1 h.2 b hb
 simpa using this
theorem zga {s:Str} {k:Int} (h:zaS s k=true): ∀b∈s,zey b=true:=by
 unfold zaS at h
 simp only [Bool.and_eq_true]at h
 intro b hb
 have:=List.all_eq_true.1 h.1 b hb
 unfold small at this
 unfold zey
 simp only [Bool.not_eq_true',Bool.or_eq_false_iff,decide_eq_false_iff_not]at this
 simp only [Bool.or_eq_true,Bool.and_eq_true,decide_eq_true_eq]
 left
 omega
theorem zhC {s:Str} (h: ∀b∈s,zey b=true):zz2 s:=fun b hb=>by rw [h b hb];rfl
theorem zz2.app {s u:Str} (h:zz2 s) (k:zz2 u):zz2 (s++u):=fun b hb=>by
 rcases List.mem_append.1 hb with hb|hb
 ·exact h b hb
 ·exact k b hb
theorem zCH:zz2 [46]:=fun b hb=>by rw [List.mem_singleton]at hb;subst hb;decide
theorem zAm:zz2 [47]:=fun b hb=>by rw [List.mem_singleton]at hb;subst hb;decide
theorem zqr {s:Str} (h1:1≤s.length) (h2:s.length≤12) (h:zz2 s):zbH s=true:=by
 unfold zbH zhN
 rw [zbv.2 ⟨by omega,by omega⟩,List.all_eq_true.2 h]
 rfl
theorem zvC {s:Str} (h2:s.length≤24) (h:zCJ s):zeG s=true:=by
 unfold zeG zhN
 rw [show decide ((s.length:Int)≤24)=true by simp;omega,List.all_eq_true.2 h]
 rfl
theorem zy7 {xs:List Str} (h: ∀x∈xs,∀b∈x,zey b=true):zCJ (Lib.join xs [44]):=by
 cases xs with
 |nil=>intro b hb;simp [Lib.join_nil]at hb
 |cons x r=>
  intro b hb
  rw [Lib.join_cons]at hb
  rcases List.mem_append.1 hb with hb|hb
  ·rw [h x (by simp) b hb];rfl
  ·unfold Lib.joinTail at hb
   obtain⟨l,hl,hbl⟩:=List.mem_flatten.1 hb
   obtain⟨y,hy,rfl⟩:=List.mem_map.1 hl
   rcases List.mem_append.1 hbl with hb|hb
   ·rw [List.mem_singleton]at hb;subst hb;decide
   ·rw [h y (by simp [hy]) b hb];rfl
theorem zmK {t:zab} {r:za5} (h:zam t r=true): ∀x∈r.fVals,∀b∈x,zey b=true:=by
 unfold zam at h
 simp only [Bool.and_eq_true]at h
 exact fun x hx=>zxe (List.all_eq_true.1 h.2 x hx)
theorem zmu {t:zab} {r:za5} (h:zam t r=true) (c:Int): ∀b∈zdV r c,zey b=true:=by
 unfold zdV
 cases e:r.fVals[c.toNat]? with
 |none=>simp
 |some s=>exact zmK h s (List.mem_of_getElem? e)
theorem zlx {t:zab} {r:za5} (hg:zac t=true) (h:zam t r=true):zbH (zdq t r).fKey=true∧zeG (zdq t r).fVal=true:=by
 have hl:=zy9 hg h
 have e:(zdq t r).fKey=t.fName++ [47]++zdV r 0:=by
  unfold zdq zdV
  rw [List.head?_eq_getElem?]
  rfl
 refine⟨zqr ?_ (by omega) ?_,zvC (by omega) ?_⟩
 ·rw [e];simp;omega
 ·rw [e]
  exact((zhC (zga (zeh hg))).app zAm).app (zhC (zmu h 0))
 ·exact zy7 fun x hx=>zmK h x (List.mem_of_mem_tail hx)
theorem zmS {t:zab} {n:Str} {c:Int} {r:za5} (hg:zac t=true) (hn:zaS n 1=true) (h:zam t r=true):zbH (zcY t n c r)=true:=by
 have hl:=zye (c:=c) hg (zfd hn) h
 refine zqr ?_ (by omega) ?_
 ·unfold zcY;simp;omega
 ·unfold zcY head
  exact((((((zhC (zga (zeh hg))).app zCH).app (zhC (zga hn))).app zAm).app (zhC (zmu h c))).app zAm).app (zhC (zmu h 0))
end Go.Proofs.YtgobcjbjogkpjaaGreatDoor
end
section
namespace Go.Proofs.YtgobcjbjogkpjaaGreatDoor
open Go.RowKit
set_option maxRecDepth 100000
theorem zhk {t:zab} {a:zae} (hg:zac t=true) (h:zaU t a=true):(zdL t a).length≤8∧ ∀o∈zdL t a,OkO o:=by
 have ho:a.fKind≠1→zam t a.fOld=true:=fun h1=>by
  unfold zaU at h
  rw [if_neg h1]at h
  by_cases h2:a.fKind=2
  ·rw [if_pos h2,Bool.and_eq_true]at h;exact h.1
  rw [if_neg h2]at h
  by_cases h3:a.fKind=3
  ·rw [if_pos h3,Bool.and_eq_true]at h;exact h.1
  rw [if_neg h3]at h;cases h
 have hn:a.fKind≠2→zam t a.fNew=true:=fun h2=>by
  unfold zaU at h
  by_cases h1:a.fKind=1
  ·rw [if_pos h1,Bool.and_eq_true]at h;exact h.2
  rw [if_neg h1,if_neg h2]at h
  by_cases h3:a.fKind=3
  ·rw [if_pos h3,Bool.and_eq_true,Bool.and_eq_true]at h;exact h.2.1
  rw [if_neg h3]at h;cases h
 have hc:=zfy hg
 have v0:zeG ([]:Str)=true:=by decide
 constructor
 ·have h1:=ztg (zmV t a) t.fIdxs (zil t a)
  rw [zlf]at h1
  unfold zdL
  omega
 ·refine zu9 _ _ (fun x hx o hm=> ?_) (fun o hm=> ?_)
  ·have hx1:=(zdw hg hx).1
   unfold zhb zkF znt at hm
   rcases List.mem_append.1 hm with hm|hm
   ·split at hm
    ·rename_i q
     rw [List.mem_singleton]at hm
     subst hm
     refine⟨?_,v0,rfl,by simp,fun _=>rfl⟩
     show zbH (zpy t a x)=true
     unfold zpy at q ⊢
     by_cases h1:a.fKind=1
     ·rw [if_pos h1]at q;exact absurd rfl q.1
     ·rw [if_neg h1];exact zmS hg hx1 (ho h1)
    ·simp at hm
   ·split at hm
    ·rename_i q
     rw [List.mem_singleton]at hm
     subst hm
     refine⟨?_,v0,rfl,by simp,fun _=>rfl⟩
     show zbH (zm2 t a x)=true
     unfold zm2 at q ⊢
     by_cases h1:a.fKind=2
     ·rw [if_pos h1]at q;exact absurd rfl q.1
     ·rw [if_neg h1];exact zmS hg hx1 (hn h1)
    ·simp at hm
  ·unfold zil at hm
   split at hm
   ·rename_i q
    have w:=zlx hg (hn (by omega))
    simp only [List.mem_cons,List.not_mem_nil,or_false]at hm
    rcases hm with rfl|rfl
    ·exact⟨w.1,v0,rfl,by simp,fun _=>rfl⟩
    ·exact⟨w.1,w.2,rfl,by simp,fun k=>by simp at k⟩
   ·rename_i q1
    have w1:=zlx hg (ho q1)
    split at hm
    ·simp only [List.mem_cons,List.not_mem_nil,or_false]at hm
     rcases hm with rfl|rfl
     ·exact⟨w1.1,w1.2,rfl,by simp,fun k=>by simp at k⟩
     ·exact⟨w1.1,v0,rfl,by simp,fun _=>rfl⟩
    ·rename_i q2
     have w2:=zlx hg (hn q2)
     simp only [List.mem_cons,List.not_mem_nil,or_false]at hm
     rcases hm with rfl|rfl
     ·exact⟨w1.1,w1.2,rfl,by simp,fun k=>by simp at k⟩
     ·exact⟨w1.1,w2.2,rfl,by simp,fun k=>by simp at k⟩
theorem zdM {l:List zaa} (h:zax l=true):zps l∧ ∀w∈l,w.fGone=false:=by
 unfold zax at h
 rw [Bool.and_eq_true]at h
 have hr:=zn9 h.1
 have h1:=h.1
 unfold zc7 at h1
 simp only [Bool.and_eq_true,decide_eq_true_eq]at h1
 exact⟨⟨hr,by omega,List.all_eq_true.1 h1.2.1⟩,fun w hw=>by simpa using List.all_eq_true.1 h.2 w hw⟩
theorem zox {l:List zaa} (hr:zfb l) (hg: ∀w∈l,zfn w=true) (hn: ∀w∈l,w.fGone=false):zax l=decide ((l.length:Int)≤24):=by
 have h1:zkR (l.map (·.fKey))=true:=by
  rw [zlk,zj6]
  exact(zlU (r:=fun a b:zaa=>bl a.fKey b.fKey) fun a b c p q=>zeZ p q).2 hr
 unfold zax zc7
 rw [h1,List.all_eq_true.2 hg,show(l.all fun w=> !w.fGone)=true from List.all_eq_true.2 fun w hw=>by rw [hn w hw];rfl]
 simp
theorem zjn {l:List zaa} (hl:l.length≤2000000) (hg: ∀w∈l,zfn w=true):zgO l:=
 ⟨hl,fun w hw=>⟨by have:=zs2 (hg w hw);omega,by have:=zlO (hg w hw);omega⟩⟩
def zdN (rows ws:List zaa):List zaa:=(ws.foldl (fun o w=>zfB wk w o) rows).filter fun w=> !w.fGone
theorem zx2: ∀(ws:List zaa) {n:Nat} {rows:List zaa},zjC n rows→(∀w∈ws,zfn w=true)→zjC (n+ws.length) (ws.foldl (fun o w=>zfB wk w o) rows)
 | [],n,rows,h,_=>h
 |w::ws,n,rows,h,hw=>by
  have:=zx2 ws (zev h (hw w (by simp))) fun y hy=>hw y (by simp [hy])
  exact⟨this.rise,by have:=this.len;rw [List.length_cons];rw [List.foldl_cons];omega,this.good⟩
theorem zsT {rows ws:List zaa} (hr:zps rows) (hw:zjC 8 ws):zfb (zdN rows ws)∧(zdN rows ws).length≤32∧(∀w∈zdN rows ws,zfn w=true)∧ ∀w∈zdN rows ws,w.fGone=false:=by
 have h:=zx2 ws (n:=24) (rows:=rows) ⟨hr.rise,hr.len,hr.good⟩ hw.good
 have hl:=hw.len
 unfold zdN
 refine⟨zmh.filter h.rise _,Nat.le_trans (List.length_filter_le _ _) (by have:=h.len;omega),fun w hm=>h.good w (List.mem_filter.1 hm).1,fun w hm=>by simpa using(List.mem_filter.1 hm).2⟩
theorem zvs {rows ws:List zaa} (hr:zps rows) (hw:zjC 8 ws):zgI rows ws=some (if(zdN rows ws).length>24 then([],false)else(zdN rows ws,true)):=by
 have hrl:=hr.len
 have hwl:=hw.len
 have hc:za3 rows=some rows:=zu8 (by omega) (by omega)
 unfold zgI
 rw [hc,Option.bind_some]
 have h1:=zb1 (xs:=ws) (body:=fun s:Int × List zaa=>zcu ws s.1 s.2) (fun i (o:List zaa)=>(i,o)) (fun o w=>zfB wk w o) (fun o=>zgp o) (fun i o=>zjC (24+i) o)
  (fun i hi o hI=>by
   have hI:zjC (24+i) o:=hI
   have hol:=hI.len
   refine⟨?_,zev hI (hw.good _ (List.getElem_mem hi))⟩
   show zcu ws i o=_
   unfold zcu
   rw [if_pos (by simpa using hi),zaj hi,Option.bind_some,zmN (by omega) hI.rise,Option.bind_some,zcJ hi (by omega)])
  (fun o hI=>by
   show zcu ws ws.length o=_
   unfold zcu
   rw [if_neg (by simp)]) (s:=rows) ⟨hr.rise,hr.len,hr.good⟩
 rw [h1.1]
 have hK:zjC (24+ws.length) (ws.foldl (fun o w=>zfB wk w o) rows):=h1.2
 have hkl:=hK.len
 unfold zgp zd9
 rw [zah (by omega),zmA (p:=fun y0_=>zg3 y0_) (fun w:zaa=>w.fGone) (fun w _=>rfl),Option.bind_some]
 show(if decide (((zdN rows ws).length:Int)>24)=true then _ else _)=_
 by_cases hq:(zdN rows ws).length>24
 ·rw [if_pos (decide_eq_true (by omega)),if_pos hq]
 ·rw [if_neg (by rw [decide_eq_true_eq];omega),if_neg hq];rfl
theorem zv5 {rows ws:List zaa} (hr:zps rows) (hw:zjC 8 ws):ze2 rows ws=some (zdN rows ws):=by
 have hrl:=hr.len
 have hwl:=hw.len
 have hq:((([]:List zaa).length:Int)+((rows).length:Int))*40≤140737488355328∧(([]:List zaa).length:Int)+((rows).length:Int)≤140737488355328:=by
  rw [List.length_nil];omega
 unfold ze2
 rw [zah hq]
 have h1:=zb1 (xs:=ws) (body:=fun s:Int × List zaa=>zbP ws s.1 s.2) (fun i (o:List zaa)=>(i,o)) (fun o w=>zfB wk w o) (fun o=>ze7 o) (fun i o=>zjC (24+i) o)
  (fun i hi o hI=>by
   have hI:zjC (24+i) o:=hI
   have hol:=hI.len
   refine⟨?_,zev hI (hw.good _ (List.getElem_mem hi))⟩
   show zbP ws i o=_
   unfold zbP
   rw [if_pos (by simpa using hi),zaj hi,Option.bind_some,zjo (by omega) hI.rise,Option.bind_some,zcJ hi (by omega)])
  (fun o hI=>by
   show zbP ws ws.length o=_
   unfold zbP
   rw [if_neg (by simp)]) (s:=rows) ⟨hr.rise,hr.len,hr.good⟩
 rw [h1.1]
 have hK:zjC (24+ws.length) (ws.foldl (fun o w=>zfB wk w o) rows):=h1.2
 have hkl:=hK.len
 unfold zdN
 generalize ws.foldl (fun o w=>zfB wk w o) rows=l at hkl
 unfold ze7
 have h2:=zb1 (xs:=l) (body:=fun s:List zaa × Int=>zbN l s.1 s.2) (fun i (o:List zaa)=>(o,i)) (fun o w=>if(!w.fGone)=true then o++ [id w]else o) (fun o=>some o) (fun i o=>o.length≤i)
  (fun i hi o hI=>by
   have hI:o.length≤i:=hI
   have hr:(((o).length:Int)+(([l[i]]:List zaa).length:Int))*40≤140737488355328∧((o).length:Int)+(([l[i]]:List zaa).length:Int)≤140737488355328:=by
    rw [List.length_singleton];omega
   refine⟨?_,by show List.length _≤_;split;rw [List.length_append,List.length_singleton];omega;omega⟩
   show zbN l o i=_
   unfold zbN
   rw [if_pos (by simpa using hi),zaj hi,Option.bind_some,zcJ hi (by omega)]
   cases(!(l[i]).fGone)with
   |false=>rfl
   |true=>rw [if_pos rfl,zah hr];rfl)
  (fun o _=>by
   show zbN l o l.length=_
   unfold zbN
   rw [if_neg (by simp)]) (s:= []) (Nat.le_refl _)
 refine h2.1.trans ?_
 rw [zhB (fun w:zaa=> !w.fGone) id l []]
 simp
def zdb (st:List zaa) (ops:List DOp):List zaa × Bool:=if(zjf st ops).2=true∧(zdN st (zjf st ops).1).length≤24 then(zdN st (zjf st ops).1,true)else(st,false)
theorem zx0 {st:List zaa} {ops:List DOp} (hl:ops.length≤8) (ho: ∀o∈ops,OkO o) (hg:zax st=true):zhp st ops=some (zdb st ops):=by
 obtain⟨hr,_⟩:=zdM hg
 obtain⟨⟨g,e⟩,_,hw⟩:=zqY hl ho hr
 have hrl:=hr.len
 have hq:((([]:List zaa).length:Int)+((st).length:Int))*40≤140737488355328∧(([]:List zaa).length:Int)+((st).length:Int)≤140737488355328:=by
  rw [List.length_nil];omega
 unfold zhp zdb
 rw [e,Option.bind_some,zvs hr hw,Option.bind_some]
 cases h1:(zjf st ops).2 with
 |false=>rw [if_pos (by simp),zah hq,if_neg (by simp)]
 |true=>
  by_cases h2:(zdN st (zjf st ops).1).length>24
  ·rw [if_pos h2,if_pos (by simp),zah hq,if_neg (by omega)]
  ·rw [if_neg h2,if_neg (by simp),if_pos ⟨rfl,by omega⟩]
theorem zv3 {ops:List DOp} (hl:ops.length≤8) (ho: ∀o∈ops,OkO o):zhq ops=some true:=by
 have h1: ∀o:DOp,OkO o→ziW o=some true:=by
  intro o h
  have hk:=zsu h.key
  have hv:=zso h.val
  unfold ziW zid
  rw [zzG (by omega),Option.bind_some,h.key,if_neg (by simp)]
  rcases h.kind with k|k|k|k
  ·rw [k];simp [zx8 (s:=o.fVal) (by omega),h.val,h.by_]
  ·have:=h.none (.inl k);rw [k];simp [this,h.by_]
  ·have:=h.none (.inr k);rw [k];simp [this,h.by_]
  ·rw [k];simp [zx8 (s:=o.fVal) (by omega),h.val,h.by_]
 unfold zhq
 rw [ziO (xs:=ops) (body:=fun s:Int=>zcP ops s) (fun _=>true) false (zg6 ops) (fun i hi=>by
  show zcP ops i=_
  unfold zcP
  rw [if_pos (by simpa using hi),zaj hi,Option.bind_some,h1 _ (ho _ (List.getElem_mem hi)),Option.bind_some,if_neg (by simp),zcJ hi (by omega),if_pos rfl]) (by
  show zcP ops ops.length=_
  unfold zcP
  rw [if_neg (by simp)]),if_pos (List.all_eq_true.2 fun _ _=>rfl)]
 unfold zg6
 simp;omega
theorem zCz {st:List zaa} {ops:List DOp} (hl:ops.length≤8) (ho: ∀o∈ops,OkO o) (hg:zax st=true):zh4 st ops=some (zdb st ops):=by
 obtain⟨hr,_⟩:=zdM hg
 obtain⟨_,⟨g,e⟩,hw⟩:=zqY hl ho hr
 have hrl:=hr.len
 have hq:((([]:List zaa).length:Int)+((st).length:Int))*40≤140737488355328∧(([]:List zaa).length:Int)+((st).length:Int)≤140737488355328:=by
  rw [List.length_nil];omega
 have hqb: ∀b:Bool,((([]:List Bool).length:Int)+(([b]:List Bool).length:Int))*1≤140737488355328∧(([]:List Bool).length:Int)+(([b]:List Bool).length:Int)≤140737488355328:=by
  intro b;rw [List.length_nil,List.length_singleton];omega
 obtain⟨p1,p2,p3,p4⟩:=zsT hr hw
 have hv7:zcS (zdN st (zjf st ops).1)=some (decide (((zdN st (zjf st ops).1).length:Int)≤24)):=by
  rw [zrS (zjn (by omega) p3),zox p1 p3 p4]
 have hw1:IntKind.i64.wrap ((0:Int)+1)=1:=by decide
 have key:ze1 st [ops]=some ((zdb st ops).1, [(zdb st ops).2],true):=by
  unfold ze1
  rw [zrS (zjn (by omega) hr.good),Option.bind_some,hg,if_neg (by simp)]
  have b0:zbi st [ops] 0=some (.inl 1):=by
   unfold zbi
   rw [if_pos (by simp),show getI [ops] 0=some ops from rfl,Option.bind_some,zv3 hl ho,Option.bind_some,if_neg (by simp),hw1]
  have b1:zbi st [ops] 1=some (.inr (zff st [ops])):=by
   unfold zbi
   rw [if_neg (by simp)]
  rw [zcT (body:=fun s:Int=>zbi st [ops] s) b0,zcd (body:=fun s:Int=>zbi st [ops] s) b1]
  unfold zff
  rw [zah hq]
  have c0:zbl [ops] [] 0 st=some (.inl ([(zdb st ops).2],1,(zdb st ops).1)):=by
   unfold zbl zdb
   rw [if_pos (by simp),show getI [ops] 0=some ops from rfl,Option.bind_some,e,Option.bind_some,zv5 hr hw,Option.bind_some]
   cases h1:(zjf st ops).2 with
   |false=>rw [if_neg (by simp),zah (hqb _),if_neg (by simp),hw1];rfl
   |true=>
    rw [if_pos rfl,hv7,Option.bind_some]
    by_cases h2:(zdN st (zjf st ops).1).length≤24
    ·have h3:decide (((zdN st (zjf st ops).1).length:Int)≤24)=true:=by simp;omega
     rw [h3,if_pos rfl,zah (hqb _),if_pos ⟨rfl,h2⟩,hw1];rfl
    ·have h3:decide (((zdN st (zjf st ops).1).length:Int)≤24)=false:=by simp;omega
     rw [h3,if_neg (by simp),zah (hqb _),if_neg (by omega),hw1];rfl
  have c1: ∀(bs:List Bool) (l:List zaa),zbl [ops] bs 1 l=some (.inr (some (l,bs,true))):=by
   intro bs l
   unfold zbl
   rw [if_neg (by simp)]
  rw [zcT (body:=fun s:List Bool × Int × List zaa=>zbl [ops] s.1 s.2.1 s.2.2) c0,zcd (body:=fun s:List Bool × Int × List zaa=>zbl [ops] s.1 s.2.1 s.2.2) (c1 _ _)]
 unfold zh4
 rw [key,Option.bind_some,if_pos (by simp)]
 rfl
theorem zmb {st:List zaa} {ops:List DOp} (hl:ops.length≤8) (ho: ∀o∈ops,OkO o) (hg:zax st=true):zax (zdb st ops).1=true:=by
 obtain⟨hr,_⟩:=zdM hg
 obtain⟨_,_,hw⟩:=zqY hl ho hr
 obtain⟨p1,p2,p3,p4⟩:=zsT hr hw
 unfold zdb
 split
 ·rename_i h
  show zax (zdN st (zjf st ops).1)=true
  rw [zox p1 p3 p4]
  have:=h.2
  simp;omega
 ·exact hg
end Go.Proofs.YtgobcjbjogkpjaaGreatDoor
end
section
namespace Go.Proofs.YtgobcjbjogkpjaaGreatDoor
open Go.RowKit
set_option maxRecDepth 100000
theorem zj5 {c:UInt8}: ∀{p q:Str},(∀b∈p,b≠c)→zaR c (p++ [c]++q)=p::zaR c q:=fun{p q} h=>by
 rw [List.append_assoc];exact zgT h
theorem zo6 {b:UInt8} (h:zey b=true):b≠47∧b≠44∧b≠46:=by
 refine⟨?_, ?_, ?_⟩<;>(rintro rfl;revert h;decide)
theorem zAf {t:zab} {n:Str} (hg:zac t=true) (hn:zaS n 1=true): ∀b∈head t n,b≠47:=by
 intro b hb
 unfold head at hb
 simp only [List.mem_append,List.mem_singleton]at hb
 rcases hb with(hb|hb)|hb
 ·exact(zo6 (zga (zeh hg) b hb)).1
 ·subst hb;decide
 ·exact(zo6 (zga hn b hb)).1
theorem ziK {t:zab} {n:Str} {c:Int} {r:za5} (hg:zac t=true) (hn:zaS n 1=true) (h:zam t r=true):zaR 47 (zcY t n c r)= [head t n,zdV r c,zdV r 0]:=by
 unfold zcY
 rw [show head t n++ [47]++zdV r c++ [47]++zdV r 0=head t n++ [47]++(zdV r c++ [47]++zdV r 0) by simp,zj5 (zAf hg hn),zj5 fun b hb=>(zo6 (zmu h c b hb)).1,zdr fun b hb=>(zo6 (zmu h 0 b hb)).1]
theorem zc9 (t:zab) (r:za5):(zdq t r).fKey=t.fName++ [47]++zdV r 0:=by
 unfold zdq zdV
 rw [List.head?_eq_getElem?]
 rfl
theorem zsK {t:zab} {r:za5} (hg:zac t=true) (h:zam t r=true):zaR 47 (zdq t r).fKey= [t.fName,zdV r 0]:=by
 rw [zc9,zj5 fun b hb=>(zo6 (zga (zeh hg) b hb)).1,zdr fun b hb=>(zo6 (zmu h 0 b hb)).1]
theorem zwl {t:zab} {n:Str} {r:za5} (hg:zac t=true) (h:zam t r=true):zbj t n (zdq t r).fKey=false:=by
 unfold zbj
 rw [zsK hg h]
theorem zs4 {t:zab} {r:za5} {c:Int} (h:zam t r=true) (h0:0≤c) (h1:c≤(t.fCols.length:Int)-1):field (zdV r c)=true:=by
 unfold zam at h
 simp only [Bool.and_eq_true,beq_iff_eq]at h
 have hl:c.toNat<r.fVals.length:=by have:=h.1;omega
 unfold zdV
 rw [List.getElem?_eq_getElem hl]
 exact List.all_eq_true.1 h.2 _ (List.getElem_mem hl)
theorem ziz {t:zab} {n m:Str} {c:Int} {r:za5} (hg:zac t=true) (hm:zaS m 1=true) (h:zam t r=true) (h0:0≤c) (h1:c≤(t.fCols.length:Int)-1):zbj t n (zcY t m c r)=decide (m=n):=by
 have hc:=zfy hg
 unfold zbj
 rw [ziK hg hm h]
 simp only [zs4 h h0 h1,zs4 h (show(0:Int)≤0 by omega) (by omega),Bool.and_true]
 rw [Bool.eq_iff_iff]
 simp only [beq_iff_eq,decide_eq_true_eq]
 unfold head
 constructor
 ·intro e;exact List.append_cancel_left e
 ·rintro rfl;rfl
theorem zo8 {t:zab} {n:Str} {c:Int} {r r':za5} (hg:zac t=true) (hn:zaS n 1=true) (h:zam t r=true) (h':zam t r'=true) (e:zcY t n c r=zcY t n c r'):zdV r 0=zdV r' 0:=by
 have h1:=ziK (c:=c) hg hn h
 rw [e,ziK hg hn h']at h1
 simp only [List.cons.injEq,and_true]at h1
 exact h1.2.2.symm
theorem ziR {t:zab} {n:Str} {c:Int} {r r':za5} (hg:zac t=true) (hn:zaS n 1=true) (h:zam t r=true) (h':zam t r'=true):(zdq t r).fKey≠zcY t n c r':=by
 intro e
 have h1:=zsK hg h
 rw [e,ziK hg hn h']at h1
 simp at h1
theorem zvL {xs:List Str} (hx:xs≠ []) (h: ∀x∈xs,∀b∈x,b≠44):zaR 44 (Lib.join xs [44])=xs:=by
 induction xs with
 |nil=>exact absurd rfl hx
 |cons x r ih=>
  cases r with
  |nil=>rw [Lib.join_one,zdr (h x (by simp))]
  |cons y r=>
   have e:Lib.join (x::y::r) [44]=x++ [44]++Lib.join (y::r) [44]:=by
    rw [Lib.join_cons,Lib.join_cons]
    simp [Lib.joinTail]
   rw [e,zj5 (h x (by simp)),ih (by simp) fun z hz=>h z (by simp [hz])]
theorem ziX {t:zab} {r:za5} (hg:zac t=true) (h:zam t r=true):zdp (zdq t r)=r:=by
 have hc:=zfy hg
 have hn:=zfd (zeh hg)
 have hl:=h
 unfold zam at hl
 simp only [Bool.and_eq_true,beq_iff_eq]at hl
 have hf:=zmK h
 obtain⟨vs⟩:=r
 cases vs with
 |nil=>simp at hl;omega
 |cons v vs=>
  have hne:vs≠ []:=by rintro rfl;simp at hl;omega
  unfold zdp zdq
  simp only [List.head?_cons,Option.getD_some,List.tail_cons]
  rw [zvL hne fun x hx b hb=>(zo6 (hf x (by simp [hx]) b hb)).2.1]
  congr 1
  congr 1
  have:(t.fName++ [47]++v).drop 2=v:=by
   rw [List.drop_append_of_le_length (by simp [hn])]
   rw [List.drop_of_length_le (by simp [hn])]
   rfl
  exact this
theorem zvh {t:zab} {r:za5} (hg:zac t=true) (h:zam t r=true):za4 t (zdq t r)=true:=by
 unfold za4
 rw [ziX hg h,h]
 unfold zn5
 simp
theorem zfz {t:zab} {w:zaa} (h:za4 t w=true):zam t (zdp w)=true∧w=zdq t (zdp w):=by
 unfold za4 zn5 at h
 simp only [Bool.and_eq_true,beq_iff_eq]at h
 obtain⟨h1,h2,h3,h4⟩:=h
 refine⟨h1, ?_⟩
 cases w
 cases hq:zdq t (zdp _)
 rename_i a b c d e f
 rw [hq]at h2 h3 h4
 simp only at h2 h3 h4
 rw [h2,h3,h4]
def zl5 (t:zab) (a:zae):List zaa:=
 if a.fKind=1 then [⟨(zdq t a.fNew).fKey,(zdq t a.fNew).fVal,false⟩]else
 if a.fKind=2 then [⟨(zdq t a.fOld).fKey, [],true⟩]else [⟨(zdq t a.fOld).fKey,(zdq t a.fNew).fVal,false⟩]
def zko (t:zab) (a:zae) (x:zbD):List zaa:=
 (if zpy t a x≠ []∧zpy t a x≠zm2 t a x∧x.fStage≥1 then [⟨zpy t a x, [],true⟩]else [])++(if zm2 t a x≠ []∧x.fStage≥2 then [⟨zm2 t a x, [],false⟩]else [])
def zg1 (t:zab) (a:zae):List zaa:=zl5 t a++t.fIdxs.flatMap (zko t a)
def zsr (t:zab) (a:zae) (st st':List zaa):Prop:=
 ∀y,y∈st'↔y.fGone=false∧(y∈zg1 t a∨y∈st∧ ∀w∈zg1 t a,w.fKey≠y.fKey)
def zzw (t:zab) (a:zae) (st:List zaa):Prop:=
 (a.fKind=1→ ∀w∈st,w.fKey≠(zdq t a.fNew).fKey)∧(a.fKind≠1→zdq t a.fOld∈st)
end Go.Proofs.YtgobcjbjogkpjaaGreatDoor
end
section
namespace Go.Proofs.YtgobcjbjogkpjaaGreatDoor
open Go.RowKit
set_option maxRecDepth 100000
theorem znw {c:zak} {k:Int} (l:List Str) (hl:l≠ []) (h:okC c k) (hk:k≤4611686018427387000):zcI (zar c l) fun p=>p.1∈l∧okC p.2 (k+2):=by
 unfold zar
 have hpos:0<l.length:=List.length_pos_iff.2 hl
 refine(zdX l.length h hk).bind fun p ⟨hp,hc⟩=> ?_
 exact zcI.bind (P:=fun y=>y∈l) (.getI hp.1 (hp.2.1 (by omega)) fun x hx=>hx) fun y hy=> .ret ⟨hy,hc⟩
def nmI:List Str:= [[105], [106], [109]]
structure zBG (w:Int) (x:zbD):Prop where
 c1:1≤x.fCol
 c2:x.fCol≤w
 s0:0≤x.fStage
 s3:x.fStage≤3
structure TI (w:Int) (q:Nat) (l:List zbD):Prop where
 x: ∀x∈l,zBG w x
 nm: ∀x∈l,x.fName∈nmI.take q
 up:l.Pairwise fun a b=>Op.bytesLess a.fName b.fName=true
 len:l.length≤q
theorem zA3: ∀{q:Nat},q<3→ ∀a∈nmI.take q,Op.bytesLess a ((nmI[q]?).getD [])=true:=by
 intro q hq
 have:q=0∨q=1∨q=2:=by omega
 rcases this with rfl|rfl|rfl<;>decide
theorem zwD {q:Nat} {a:Str} (h:a∈nmI.take q):a∈nmI.take (q+1):=by
 rw [List.take_add_one]
 exact List.mem_append.2 (.inl h)
theorem TI.add {w:Int} {q:Nat} {l:List zbD} {x:zbD} (h:TI w q l) (hq:q<3) (hx:zBG w x) (hn:x.fName=(nmI[q]?).getD []):TI w (q+1) (l++ [x]):=by
 refine⟨fun y hy=> ?_,fun y hy=> ?_, ?_, ?_⟩
 ·rcases List.mem_append.1 hy with hy|hy
  ·exact h.x y hy
  ·rw [List.mem_singleton.1 hy];exact hx
 ·rcases List.mem_append.1 hy with hy|hy
  ·exact zwD (h.nm y hy)
  ·rw [List.mem_singleton.1 hy,hn,List.take_add_one]
   refine List.mem_append.2 (.inr ?_)
   have:q<nmI.length:=hq
   rw [List.getElem?_eq_getElem this];simp
 ·refine List.pairwise_append.2 ⟨h.up,List.pairwise_singleton _ _,fun a ha b hb=> ?_⟩
  rw [List.mem_singleton.1 hb,hn]
  exact zA3 hq _ (h.nm a ha)
 ·have:=h.len
  rw [List.length_append,List.length_singleton];omega
theorem TI.more {w:Int} {q:Nat} {l:List zbD} (h:TI w q l):TI w (q+1) l:=⟨h.x,fun y hy=>zwD (h.nm y hy),h.up,by have:=h.len;omega⟩
theorem zvI {nm:Str} {cs:List Str} {l:List zbD} (hn:nm∈([[116], [117]]:List Str)) (hc:zkN cs=true) (h2:2≤cs.length) (h4:cs.length≤4) (h:TI ((cs.length:Int)-1) 3 l):zac ⟨nm,cs,l⟩=true:=by
 unfold zac
 have e1:zaS nm 1=true:=by
  simp only [List.mem_cons,List.not_mem_nil,or_false]at hn
  rcases hn with rfl|rfl<;>decide
 have hl:=h.len
 simp only [e1,hc,Bool.true_and,Bool.and_eq_true,decide_eq_true_eq]
 refine⟨⟨zbv.2 ⟨by omega,by omega⟩,by omega⟩,List.all_eq_true.2 fun i hi=> ?_⟩
 have hi:=List.mem_range.1 hi
 unfold zkY
 have ex:(l[i]?).getD ⟨[],0,0⟩=l[i]:=by rw [List.getElem?_eq_getElem hi];rfl
 dsimp only
 rw [ex]
 have hm:=List.getElem_mem hi
 have hx:=h.x _ hm
 have hname:zaS l[i].fName 1=true:=by
  have:=h.nm _ hm
  have e:nmI.take 3=nmI:=rfl
  rw [e]at this
  unfold nmI at this
  simp only [List.mem_cons,List.not_mem_nil,or_false]at this
  rcases this with e|e|e<;>rw [e]<;>decide
 rw [hname,zbv.2 ⟨hx.c1,hx.c2⟩,zbv.2 ⟨hx.s0,hx.s3⟩]
 simp only [Bool.true_and,Bool.or_eq_true,beq_iff_eq]
 by_cases h0:i=0
 ·exact .inl h0
 ·refine .inr ?_
  have hp:i-1<l.length:=by omega
  have ep:(l[i-1]?).getD ⟨[],0,0⟩=l[i-1]:=by rw [List.getElem?_eq_getElem hp];rfl
  rw [ep]
  exact(List.pairwise_iff_getElem.1 h.up) (i-1) i hp hi (by omega)
def zzh:List Str:= [[107], [97], [98], [99,99]]
theorem ztd {p:Int} (h0:0≤p) (h3:p<3):zkN (zd8 zzh 0 (IntKind.i64.wrap (2+p)))=true∧(((zd8 zzh 0 (IntKind.i64.wrap (2+p))).length:Nat):Int)=2+p:=by
 rw [zbo (by omega) (by omega)]
 have:p=0∨p=1∨p=2:=by omega
 rcases this with rfl|rfl|rfl<;>exact⟨by decide,by decide⟩
theorem zld {v2:Int × zak} {q:Nat} {l:List zbD} {y:Str} {a:List Int} {b e k:Int} {t:Bool} (h0:0≤v2.1) (h3:v2.1<3) (hq:q<3) (hy:y=(nmI[q]?).getD []) (hl:TI (1+v2.1) q l) (hc:okC ⟨a,b,e⟩ k) (hk:k≤4611686018427380000):
  zcI (zbm v2 q l y a b e t) fun o=> ∃(c:zak) (l':List zbD),o= .inl (((q+1:Nat):Int),c.fcode,c.fat,c.fseed,l')∧TI (1+v2.1) (q+1) l'∧okC c (k+4):=by
 unfold zbm
 have hw:=(ztd h0 h3).2
 unfold zzh at hw
 have w1:IntKind.i64.wrap ((q:Int)+1)=((q+1:Nat):Int):=by rw [zbo (by omega) (by omega)];omega
 refine .ite (fun _=> ?_) fun _=> .ret ⟨⟨a,b,e⟩,l,by rw [w1],hl.more,hc.up (by omega)⟩
 rw [hw,zbo (n:=2+v2.1-1) (by omega) (by omega)]
 refine(zdX _ hc (by omega)).bind fun p ⟨hp,hc1⟩=>(zdX 4 hc1 (by omega)).bind fun r ⟨hr,hc2⟩=> ?_
 have p2:=hp.2.1 (by omega)
 have r2:=hr.2.1 (by omega)
 have hlen:=hl.len
 refine .req (by simp;omega) (.ret ⟨r.2,_,by rw [w1],hl.add hq ⟨?_, ?_,hr.1,by dsimp only;omega⟩ hy,hc2.up (by omega)⟩)
 ·dsimp only;rw [zbo (by omega) (by omega)];omega
 ·dsimp only;rw [zbo (by omega) (by omega)];omega
theorem zq8 {c:zak} {k:Int} (h:okC c k) (hk:k≤4611686018427370000):zcI (zbn c) fun p=>zac p.1=true∧okC p.2 (k+40):=by
 unfold zbn
 refine(znw _ (by simp) h (by omega)).bind fun n ⟨hn,hc⟩=>(zdX 3 hc (by omega)).bind fun p ⟨hp,hd⟩=> ?_
 have p2:=hp.2.1 (by omega)
 obtain⟨hw1,hw2⟩:=ztd hp.1 p2
 unfold zzh at hw1 hw2
 have w1:IntKind.i64.wrap (2+p.1)=2+p.1:=zbo (by omega) (by omega)
 refine .req ⟨by omega,by rw [w1];omega,by rw [w1];simp;omega⟩ (.req (by rw [hw2];simp;omega) ?_)
 refine ziD (fun m s=> ∃q:Nat,s.1=(q:Int)∧q+m=3∧TI (1+p.1) q s.2.2.2.2∧okC ⟨s.2.1,s.2.2.1,s.2.2.2.1⟩ (k+4+8*q)) (fun m s hI=> ?_) (n:=3) ⟨0,rfl,rfl,⟨by simp,by simp, .nil,by simp⟩,by simpa using hd.up (by omega)⟩
 obtain⟨q,e1,e2,hT,ho⟩:=hI
 obtain⟨s1,a,b,e,l⟩:=s
 dsimp only at e1 hT ho ⊢
 subst e1
 unfold zfi
 have ec:(([([105]:List UInt8),([106]:List UInt8),([109]:List UInt8)]:List (List UInt8)).length:Int)=3:=rfl
 rw [ec]
 refine .ite (fun hlt=> ?_) fun hge=> ?_
 ·simp only [decide_eq_true_eq]at hlt
  have hq:q<3:=by omega
  have eg:getI [([105]:List UInt8),([106]:List UInt8),([109]:List UInt8)] (q:Int)=some ((nmI[q]?).getD []):=by
   have:q=0∨q=1∨q=2:=by omega
   rcases this with rfl|rfl|rfl<;>rfl
  rw [eg,Option.bind_some]
  refine(zm6 3 ho (by omega)).bind fun x hx=> .ite (fun _=> ?_) fun _=> .ite (fun _=> ?_) fun _=> ?_
  ·exact(zld hp.1 p2 hq rfl hT hx (by omega)).mono fun o ho=>by
    obtain⟨c',l',rfl,ht,hc'⟩:=ho
    exact⟨m-1,by omega,q+1,rfl,by omega,ht,hc'.up (by omega)⟩
  ·refine(zm6 8 hx (by omega)).bind fun z hz=> ?_
   exact(zld hp.1 p2 hq rfl hT hz (by omega)).mono fun o ho=>by
    obtain⟨c',l',rfl,ht,hc'⟩:=ho
    exact⟨m-1,by omega,q+1,rfl,by omega,ht,hc'.up (by omega)⟩
  ·exact(zld hp.1 p2 hq rfl hT hx (by omega)).mono fun o ho=>by
    obtain⟨c',l',rfl,ht,hc'⟩:=ho
    exact⟨m-1,by omega,q+1,rfl,by omega,ht,hc'.up (by omega)⟩
 ·simp only [decide_eq_false_iff_not]at hge
  have:q=3:=by omega
  subst this
  refine .ret (.ret ⟨zvI hn hw1 (by omega) (by omega) ?_,ho.up (by omega)⟩)
  rw [hw2,show 2+p.1-1=1+p.1 by omega]
  exact hT
theorem zea {t:zab} (h:zac t=true):zbA t:=by
 have hn:=(zgi (zeh h)).1
 have h0:=h
 unfold zac at h
 simp only [Bool.and_eq_true,decide_eq_true_eq]at h
 have hl:=zbv.1 h.1.1.2.2
 have hc:=h.1.1.2.1
 refine⟨by omega,by omega,fun c hm=> ?_,by omega,fun x hx=> ?_⟩
 ·obtain⟨i,hi,rfl⟩:=List.mem_iff_getElem.1 hm
  unfold zkN at hc
  have:=List.all_eq_true.1 hc i (List.mem_range.2 hi)
  unfold zsi at this
  rw [List.getElem?_eq_getElem hi]at this
  simp only [Option.getD_some,Bool.and_eq_true]at this
  have:=(zgi this.1).1
  omega
 ·have:=(zgi (zdw h0 hx).1).1
  omega
theorem zm9 {c:zak} {k:Int} (h:okC c k) (hk:k≤4611686018427360000):zcI (zbe c) fun p=>zbA p.1∧okC p.2 (k+60):=by
 unfold zbe
 refine(zq8 h (by omega)).bind fun p ⟨hg,hc⟩=>(zdX 14 hc (by omega)).bind fun q ⟨_,hd⟩=> ?_
 have hS:=zea hg
 have hcl:=zfy hg
 have h4:p.1.fCols.length≤4∧p.1.fIdxs.length≤3:=by
  have:=hg
  unfold zac at this
  simp only [Bool.and_eq_true,decide_eq_true_eq]at this
  have:=zbv.1 this.1.1.2.2
  omega
 refine .ite (fun _=> ?_) fun _=> .ite (fun _=> ?_) fun _=> .ite (fun _=> ?_) fun _=> .ite (fun _=> ?_) fun _=> .ret ⟨⟨hS.name,hS.cols,hS.col,hS.idxs,hS.idx⟩,hd.up (by omega)⟩
 ·refine(znw _ (by simp) hd (by omega)).bind fun r ⟨hr,he⟩=> .ret ⟨⟨?_,hS.cols,hS.col,hS.idxs,hS.idx⟩,he.up (by omega)⟩
  simp only [List.mem_cons,List.not_mem_nil,or_false]at hr
  dsimp only
  rcases hr with e|e|e<;>rw [e]<;>decide
 ·refine(znw _ (by simp) hd (by omega)).bind fun r ⟨hr,he⟩=> .req (by simp;omega) (.ret ⟨⟨hS.name, ?_,fun z hz=> ?_,hS.idxs,hS.idx⟩,he.up (by omega)⟩)
  ·dsimp only;rw [List.length_append,List.length_singleton];omega
  ·dsimp only at hz
   rcases List.mem_append.1 hz with hz|hz
   ·exact hS.col z hz
   ·rw [List.mem_singleton.1 hz]
    simp only [List.mem_cons,List.not_mem_nil,or_false]at hr
    rcases hr with e|e|e|e<;>rw [e]<;>decide
 ·refine .req ⟨by omega,by omega,by omega⟩ (.ret ⟨⟨hS.name, ?_,fun z hz=> ?_,hS.idxs,hS.idx⟩,hd.up (by omega)⟩)
  ·dsimp only
   unfold zd8
   rw [List.length_drop,List.length_take];omega
  ·dsimp only at hz
   unfold zd8 at hz
   exact hS.col z (List.mem_of_mem_take (List.mem_of_mem_drop hz))
 ·refine(znw _ (by simp) hd (by omega)).bind fun r ⟨hr,he⟩=>(zdX 5 he (by omega)).bind fun u ⟨_,hf⟩=>(zdX 5 hf (by omega)).bind fun v ⟨_,hg2⟩=> .req (by simp;omega) (.ret ⟨⟨hS.name,hS.cols,hS.col, ?_,fun z hz=> ?_⟩,hg2.up (by omega)⟩)
  ·dsimp only;rw [List.length_append,List.length_singleton];omega
  ·dsimp only at hz
   rcases List.mem_append.1 hz with hz|hz
   ·exact hS.idx z hz
   ·rw [List.mem_singleton.1 hz]
    simp only [List.mem_cons,List.not_mem_nil,or_false]at hr
    dsimp only
    rcases hr with e|e|e<;>rw [e]<;>decide
theorem zqf {c:zak} {k:Int} {t:zab} (hg:zac t=true) (h:okC c k) (hk:k≤4611686018427380000):zcI (zaQ c t) fun p=>zam t p.1=true∧okC p.2 (k+20):=by
 have hc2:=zfy hg
 have h4:t.fCols.length≤4:=by
  have:=hg
  unfold zac at this
  simp only [Bool.and_eq_true,decide_eq_true_eq]at this
  have:=zbv.1 this.1.1.2.2
  omega
 unfold zaQ
 refine(znw _ (by simp) h (by omega)).bind fun n ⟨hn,hc⟩=> ?_
 have hf0:field n.1=true:=by
  simp only [List.mem_cons,List.not_mem_nil,or_false]at hn
  rcases hn with e|e|e|e|e|e<;>rw [e]<;>decide
 refine ziD (fun m s=>s.2.2.2.length+m=t.fCols.length∧(∀x∈s.2.2.2,field x=true)∧okC ⟨s.1,s.2.1,s.2.2.1⟩ (k+2+4*s.2.2.2.length)) (fun m s hI=> ?_) (n:=t.fCols.length-1) ⟨by simp;omega,by simpa using hf0,hc.up (by simp;omega)⟩
 obtain⟨a,b,e,l⟩:=s
 obtain⟨i1,i2,i3⟩:=hI
 dsimp only at i1 i2 i3 ⊢
 unfold zf8
 refine .ite (fun hlt=> ?_) fun hge=> ?_
 ·simp only [decide_eq_true_eq]at hlt
  refine(znw _ (by simp) i3 (by omega)).bind fun x ⟨hx,hd⟩=> .req (by simp;omega) (.ret ⟨m-1,by omega,by simp;omega,fun z hz=> ?_, ?_⟩)
  ·dsimp only at hz
   rcases List.mem_append.1 hz with hz|hz
   ·exact i2 z hz
   ·rw [List.mem_singleton.1 hz]
    simp only [List.mem_cons,List.not_mem_nil,or_false]at hx
    rcases hx with e|e|e|e|e<;>rw [e]<;>decide
  ·refine hd.up ?_
   dsimp only
   rw [List.length_append,List.length_singleton];omega
 ·simp only [decide_eq_false_iff_not]at hge
  refine .ret (.ret ⟨?_,i3.up (by omega)⟩)
  unfold zam
  rw [Bool.and_eq_true,beq_iff_eq]
  exact⟨by dsimp only;omega,List.all_eq_true.2 i2⟩
structure zjs (l:List Str):Prop where
 len:l.length≤10
 each: ∀s∈l,s.length≤10
theorem zjs.small {l:List Str} (h:zjs l):Small l:=⟨by have:=h.len;omega,by
 have h1:=zoi h.each
 have h2:=h.len
 have h3:10*l.length≤100:=by omega
 omega⟩
theorem zer {t:zab} {r:za5} (hg:zac t=true) (h:zam t r=true):zjs r.fVals∧2≤r.fVals.length:=by
 have hc2:=zfy hg
 have h4:t.fCols.length≤4:=by
  have:=hg
  unfold zac at this
  simp only [Bool.and_eq_true,decide_eq_true_eq]at this
  have:=zbv.1 this.1.1.2.2
  omega
 unfold zam at h
 rw [Bool.and_eq_true,beq_iff_eq]at h
 exact⟨⟨by omega,fun s hs=>by have:=zpm (List.all_eq_true.1 h.2 s hs);omega⟩,by omega⟩
theorem zjs.set {l:List Str} {i:Nat} {s:Str} (h:zjs l) (hs:s.length≤10):zjs (l.set i s):=⟨by rw [List.length_set];exact h.len,fun x hx=>by
 rcases List.mem_or_eq_of_mem_set hx with hx|rfl
 ·exact h.each x hx
 ·exact hs⟩
theorem zmF {c:zak} {k:Int} {t:zab} (hg:zac t=true) (h:okC c k) (hk:k≤4611686018427370000):zcI (za6 c t) fun p=>zjs p.1.fVals∧okC p.2 (k+40):=by
 unfold za6
 refine(zqf hg h (by omega)).bind fun r ⟨hr,hc⟩=>(zdX 10 hc (by omega)).bind fun q ⟨_,hd⟩=> ?_
 obtain⟨hs,h2⟩:=zer hg hr
 have h5:r.1.fVals.length≤4:=by
  have:=hg
  unfold zac at this
  simp only [Bool.and_eq_true,decide_eq_true_eq]at this
  have h1:=zbv.1 this.1.1.2.2
  have h3:=hr
  unfold zam at h3
  rw [Bool.and_eq_true,beq_iff_eq]at h3
  omega
 refine .ite (fun _=> ?_) fun _=> .ite (fun _=> ?_) fun _=> .ite (fun _=> .ret ⟨⟨by simp,by simp⟩,hd.up (by omega)⟩) fun _=> .ret ⟨⟨hs.len,hs.each⟩,hd.up (by omega)⟩
 ·refine(zdX _ hd (by omega)).bind fun u ⟨hu,he⟩=>(znw _ (by simp) he (by omega)).bind fun z ⟨hz,hf⟩=>zcI.bind (P:=fun _=>True) (.getI hu.1 (hu.2.1 (by omega)) fun _ _=>trivial) fun _ _=> .ret ⟨hs.set ?_,hf.up (by omega)⟩
  simp only [List.mem_cons,List.not_mem_nil,or_false]at hz
  rcases hz with e|e|e|e<;>rw [e]<;>decide
 ·refine .req (by simp;omega) (.ret ⟨⟨by simp;omega,fun x hx=> ?_⟩,hd.up (by omega)⟩)
  dsimp only at hx
  rcases List.mem_append.1 hx with hx|hx
  ·exact hs.each x hx
  ·rw [List.mem_singleton.1 hx];decide
end Go.Proofs.YtgobcjbjogkpjaaGreatDoor
end
