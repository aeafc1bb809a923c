/- Parts of a proof, joined: CI, IL, QM, QF1, QF2. -/
import Derived.Test.YtalagilebkaegaaGreatE7
import Derived.Lib.SliceRun
import Derived.Shelf.RegionOpenPlain
set_option linter.unusedVariables false
set_option linter.unusedSimpArgs false
namespace Go.Proofs.YtalagilebkaegaaGreat
noncomputable section
open Go.RowKit Go.Sort
set_option maxRecDepth 100000
abbrev Af:=List UInt8
theorem zY{w:World}:∀{cs:List Value} {xs:List Int} {f:List Nat},Rd w cs (Aq (xs.map M0)) f->cs=xs.map encI/\ ∀n∈xs,Fl .i64 n
 |cs,[],f,h=>by obtain⟨rfl,_⟩:=Om (by simpa[Aq]using h);exact⟨rfl,by simp⟩
 |cs,x::xs,f,h=>by
  have h':Rd w cs (.int .i64 x::Aq (xs.map M0)) f:=by simpa[Aq]using h
  obtain⟨us,rfl,hI,h2⟩:=Oy h';obtain⟨rfl,h3⟩:=zY h2;exact⟨rfl,by simpa using⟨hI,h3⟩⟩
theorem tN{w:World}:∀(r:List Int),(∀n∈r,Fl .i64 n)->Rd w (r.map encI) (Aq (r.map M0)) []
 | [],_=>by simpa[Aq]using Rd.nil
 |n::r,h=>by
  have e:Aq ((n::r).map M0)= .int .i64 n::Aq (r.map M0):=by simp[Aq,M0,AV.cells]
  rw[e,List.map_cons];exact Rd.int (h n (by simp)) (tN r λx hx=>h x (by simp[hx]))
def YM(xs:List Int):Option (List Int):=some (Lib.compact xs)
theorem zjK(a0 r:List Int)(h:YM a0=some r):Cr Tryz.prog B9 172 [.sl (a0.map M0)] (.sl (r.map M0)):=by cases h;exact zsJ (enc:=encI) (av:=M0) (dz:=0) zY (λr h=>tN r h) (λ_=>rfl) (λ_=>rfl) (t:=89) (el:=3) (by kernel_rfl) (λ_=>by kernel_rfl) (λblk cap zs w hH h1 h2=>Tryz.slices_Compact_int blk 0 cap zs w hH h1 h2) (λa cap w=>Tryz.slices_Compact_int_empty a cap w) a0
end
noncomputable section
open Go.RowKit
set_option maxRecDepth 100000
set_option maxHeartbeats 4000000
theorem zBm:∃i z,Tryz.prog.info? 108=some i/\i.size=5/\i.zero=some z/\z.cells.size=5/\i.bytes<=1000:=by
 have h:(match Tryz.prog.info? 108 with|some i=>(match i.zero with|some z=>i.size==5&&z.cells.size==5&&decide (i.bytes<=1000)|none=>false)|none=>false)=true:=by kernel_rfl
 split at h
 ·rename_i i hi;split at h
  ·rename_i z hz;simp only[Ab,AO,AJ]at h;exact⟨i,z,hi,h.1.1,hz,h.1.2,h.2⟩
  ·cases h
 ·cases h
abbrev Hf:List DT:=[.flat, .flat, .flat, .row 9 1 (AA.of [.flat]), .row 137 3 (AA.of [.flat, .flat, .flat])]
theorem zzU(w:World)(o:Obj):(w.alloc o).heap[w.heap.size]?=some o:=zEI w o
theorem zzr(w:World)(o:Obj):(w.alloc o).heap.size=w.heap.size+1:=by simp
def EV(t:Int)(l:List AL):List AL:=l.filter λh=> !(h.ah==t)
def Gf(t:Int):List AL->List Value->List Value
 | [],_=> []
 |h::l,cs=>(if h.ah=t then []else cs.take 5)++Gf t l (cs.drop 5)
theorem nW(t:Int)(h:AL)(l:List AL)(cs:List Value):Gf t (h::l) cs=(if h.ah=t then []else cs.take 5)++Gf t l (cs.drop 5):=rfl
theorem zCs{α:Type}{L:List α}{k:Nat}{a b c d e:α}(h0:L[k]?=some a)(h1:L[k+1]?=some b)(h2:L[k+2]?=some c)(h3:L[k+3]?=some d)(h4:L[k+4]?=some e):(L.drop k).take 5=[a,b,c,d,e]:=by obtain⟨l0,rfl⟩:=List.getElem?_eq_some_iff.1 h0;obtain⟨l1,rfl⟩:=List.getElem?_eq_some_iff.1 h1;obtain⟨l2,rfl⟩:=List.getElem?_eq_some_iff.1 h2;obtain⟨l3,rfl⟩:=List.getElem?_eq_some_iff.1 h3;obtain⟨l4,rfl⟩:=List.getElem?_eq_some_iff.1 h4;rw[Br l0,Br l1,Br l2,Br l3,Br l4];rfl
theorem ztD(t:Int):∀(l:List AL) (cs:List Value) (k:Nat) (hk:k<l.length),Gf t (l.take (k+1)) cs=Gf t (l.take k) cs++(if l[k].ah=t then []else(cs.drop (k*5)).take 5)
 | [],_,_,hk=>by simp at hk
 |h::l,cs,0,_=>by simp[Gf]
 |h::l,cs,k+1,hk=>by have:=ztD t l (cs.drop 5) k (by simpa using hk);rw[List.take_succ_cons,List.take_succ_cons,Gf,Gf,this,List.append_assoc,List.drop_drop,List.getElem_cons_succ,show(k+1)*5=5+k*5 by omega]
theorem zza(t:Int)(l:List AL)(k:Nat)(hk:k<l.length):EV t (l.take (k+1))=EV t (l.take k)++(if l[k].ah=t then []else [l[k]]):=by unfold EV;rw[List.take_succ_eq_append_getElem hk,List.filter_append,List.filter_cons,List.filter_nil];by_cases h:l[k].ah=t<;>simp[h]
theorem zvS(t:Int):∀(l:List AL) (cs:List Value),l.length*5<=cs.length->(Gf t l cs).length=(EV t l).length*5
 | [],_,_=>rfl
 |h::l,cs,hl=>by
  have hl:(l.length+1)*5<=cs.length:=by simpa using hl
  have:=zvS t l (cs.drop 5) (by rw[Bx];omega);rw[nW,AF,this];unfold EV;rw[List.filter_cons];by_cases e:h.ah=t
  ·simp[e]
  ·have e2:(h.ah==t)=false:=by simpa using e
   simp[e,e2];omega
theorem tM{w:World}{t:Int}:∀{l:List AL} {cs:List Value} {N:List Nat},DC w (Bz l.length Hf) cs (Aq (l.map Eg)) N-> ∃N',N'.Sublist N/\DC w (Bz (EV t l).length Hf) (Gf t l cs) (Aq ((EV t l).map Eg)) N'
 | [],cs,N,h=>⟨[],List.nil_sublist _,by simpa[EV,Gf,Bz,Aq]using DC.nil⟩
 |h::l,cs,N,hd=>by
  have hx:∀y∈(h::l).map Eg,y.cells.length=5:=λy hy=>by obtain⟨x,_,rfl⟩:=List.mem_map.1 hy;rfl
  have J8:DC w (Bz ((h::l).map Eg).length Hf) cs (Aq ((h::l).map Eg)) N:=by rw[List.length_map];exact hd
  obtain⟨N1,N2,rfl,d1,d2⟩:=J8.cut (l:=Hf) (K:=5) rfl hx (i:=1) (by simp);rw[List.length_map,Bk,Nat.add_sub_cancel]at d2;obtain⟨N',s1,s2⟩:=tM (t:=t) (l:=l) (cs:=cs.drop (1*5)) (N:=N2) (by simpa using d2);rw[Nat.one_mul]at s2 d1;unfold EV at s2 ⊢;rw[List.filter_cons,nW];by_cases e:h.ah=t
  ·rw[if_pos e,show(!(h.ah==t))=false by simp[e],if_neg (by simp),List.nil_append];exact⟨N',s1.trans (List.sublist_append_right _ _),s2⟩
  ·rw[if_neg e,show(!(h.ah==t))=true by simp[e],if_pos rfl];refine⟨N1++N',List.Sublist.append (List.Sublist.refl _) s1,?_⟩;have d3:DC w (Bz 1 Hf) (cs.take 5) (Aq [Eg h]) N1:=by simpa using d1
   have:=d3.app s2;rw[Bk,show(List.filter (λh=> !(h.ah==t)) l).length+1=1+(List.filter (λh=> !(h.ah==t)) l).length by omega,Lu];simpa[Aq]using this
theorem zwz{t:Int}{u:Value}:∀{l:List AL} {cs:List Value},u∈Gf t l cs->u∈cs
 | [],_,h=>by simp[Gf]at h
 |h::l,cs,hu=>by
  rw[nW]at hu;rcases Ac.1 hu with hu|hu
  ·split at hu
   ·simp at hu
   ·exact BA hu
  ·exact BM (zwz hu)
def OH(w wr:World)(v:Value)(m:Nat)(out:List Value):Prop:=
 (m=0/\out=[]/\ ∃q,v= .slice q 0 0)\/ ∃g cap C,v= .slice (some ⟨g,0,none⟩) m cap/\Dj wr 108 5 g cap C m out/\w.heap.size<=g
theorem OH.mod{w wr w2:World}{v:Value}{m:Nat}{out:List Value}(h:OH w wr v m out)(hm:Mod [] wr w2):OH w w2 v m out:=by
 rcases h with h|⟨g,cap,C,e,⟨a,b,c,d⟩,hg⟩
 ·exact .inl h
 ·exact .inr ⟨g,cap,C,e,⟨a,b,by rw[hm.block g (Dh c) (by simp)];exact c,d⟩,hg⟩
def jG(cs:List Value)(i:Nat)(h:AL):Prop:=cs[i*5]?=some (.int .i64 h.ah)/\(cs[i*5+1]?=some (.int .i64 h.ak)/\(cs[i*5+2]?=some (.int .i64 h.bj)/\((∃a n c,cs[i*5+3]?=some (.slice a n c))/\ ∃a n c,cs[i*5+4]?=some (.slice a n c))))
set_option maxHeartbeats 4000000 in
theorem zBo(w:World)(l:List AL)(t:Int)(g0 cap0:Nat)(C0:Array Value)(cs:List Value)(AX:Dj w 108 5 g0 cap0 C0 l.length cs)(Cs:∀u∈cs,u.oneCell'=true)
  (Ny:∀i (hi:i<l.length),jG cs i l[i]) (hb:l.length*1000<=140737488355328):
  Calls Tryz.prog 248 #[.slice (some ⟨g0,0,none⟩) l.length cap0, .int .i64 t] w λe w'=> ∃v',e= .returned v'/\OH w w' v' (EV t l).length (Gf t l cs)/\Mod [] w w':=by
 obtain⟨i0,z0,hi,Bv,hz,CY,ES⟩:=zBm;have HR:=Lib.hid AX;have HO:=Lib.hid Cs;have HT:=Lib.hid Ny;clear AX Cs Ny
 go_enter Tryz.func248,Tryz.ntmps248
 go_wp2_with fail
 go_loopw [5,10] (λs5 s10 wr=> ∃(k:Nat) (u:Value),k<=l.length/\s10= .int .i64 k/\u=s5/\Hid (OH w wr u (EV t (l.take k)).length (Gf t (l.take k) cs))/\Hid (Mod [] w wr)) (λ_ s10 _=>l.length-(intOf s10).toNat)
 case atStart=>exact⟨0,_,by omega,rfl,rfl, .inl ⟨rfl,rfl,none,rfl⟩,Mod.refl _ _⟩
 case round=>
  obtain⟨k,u,hk,rfl,rfl,HI,HM⟩:=hrel;by_cases AD:k<l.length
  ·obtain⟨r1,r2,r3,r4,r5⟩:=HR.out;have kB:wr.heap[g0]?=some (.cells C0 108 (0,0)):=by rw[HM.out.block g0 (Dh r3) (by simp)];exact r3
   have cB:=Tx kB;have hC:∀j,j<l.length*5->C0[j]?=cs[j]?:=λj hj=>by rw[r5,List.getElem?_take,if_pos hj];simp
   obtain⟨h0,h1,h2,⟨a3,n3,x3,h3⟩,a4,n4,x4,h4⟩:=HT.out k AD;have c0:wr.cell? ⟨g0,k*5,none⟩=some (.int .i64 l[k].ah):=by rw[cB,hC _ (by omega)];exact h0
   have c1:wr.cell? ⟨g0,k*5+1,none⟩=some (.int .i64 l[k].ak):=by rw[cB,hC _ (by omega)];exact h1
   have c2:wr.cell? ⟨g0,k*5+2,none⟩=some (.int .i64 l[k].bj):=by rw[cB,hC _ (by omega)];exact h2
   have c3:wr.cell? ⟨g0,k*5+3,none⟩=some (.slice a3 n3 x3):=by rw[cB,hC _ (by omega)];exact h3
   have c4:wr.cell? ⟨g0,k*5+4,none⟩=some (.slice a4 n4 x4):=by rw[cB,hC _ (by omega)];exact h4
   have H5:=Lib.hid (zCs h0 h1 h2 h3 h4);have hn:=ztD t l cs k AD;have hm:=zza t l k AD;clear r1 r2 r3 r4 r5 kB cB hC h0 h1 h2 h3 h4;have A1:=(Mod.refl [] wr).alloc (.cells #[.int .i64 l[k].ah, .int .i64 l[k].ak, .int .i64 l[k].bj, .slice a3 n3 x3, .slice a4 n4 x4] 108);have A2:=A1.alloc (.cells #[.int .i64 l[k].ah, .int .i64 l[k].ak, .int .i64 l[k].bj, .slice a3 n3 x3, .slice a4 n4 x4] 108);by_cases he:l[k].ah=t
   ·rw[if_pos he,AE]at hn hm;have HN:=Lib.hid hn;have HL:=Lib.hid hm;have HA:Hid (∀C,Mod [] wr (wr.alloc (.cells C 108))):=λC=>(Mod.refl [] wr).alloc _;clear hn hm A1 A2
    go_wp2
    go_roundw
    case rel=>exact⟨k+1,u,by omega,by go_num,rfl,by rw[HN.out,HL.out];exact(HI.out).mod (HA.out _),HM.out.trans (HA.out _) (by simp)⟩
    case measure=>simp[intOf];omega
   ·rw[if_neg he,H5.out]at hn;rw[if_neg he]at hm;have Ns:=HI.out.mod A2;have hlen:(Gf t (l.take k) cs).length=(EV t (l.take k)).length*i0.size:=by
     rw[Bv];exact zvS t (l.take k) cs (by rw[Au,HR.out.len];omega)
    have Ke:(EV t (l.take k)).length<=k:=Nat.le_trans (List.length_filter_le _ _) (by rw[Au];omega);have kN:=zzU (wr.alloc (.cells #[.int .i64 l[k].ah, .int .i64 l[k].ak, .int .i64 l[k].bj, .slice a3 n3 x3, .slice a4 n4 x4] 108)) (.cells #[.int .i64 l[k].ah, .int .i64 l[k].ak, .int .i64 l[k].bj, .slice a3 n3 x3, .slice a4 n4 x4] 108);rw[zzr]at kN;obtain⟨v',w1,hr,AN⟩:=Qw (P:=Tryz.prog) ((wr.alloc (.cells #[.int .i64 l[k].ah, .int .i64 l[k].ak, .int .i64 l[k].bj, .slice a3 n3 x3, .slice a4 n4 x4] 108)).alloc (.cells #[.int .i64 l[k].ah, .int .i64 l[k].ak, .int .i64 l[k].bj, .slice a3 n3 x3, .slice a4 n4 x4] 108)) 48 48 108 i0 z0 Tryz.underlying48 hi hz (by rw[CY,Bv]) (by omega) (λg=>w.heap.size<=g) u (EV t (l.take k)).length (Gf t (l.take k) cs) hlen
     (by
      rcases Ns with⟨a,_,q,rfl⟩|⟨g,cap,C,rfl,⟨b1,b2,b3,b4,b5⟩,hg⟩
      ·exact .inl ⟨a,q,rfl⟩
      ·exact .inr ⟨g,cap,C,rfl,b1,b2,b3,by rw[Bv];exact b4,by rw[Bv];exact b5,hg⟩)
     (some ⟨wr.heap.size+1,0,none⟩) 1 1 [.int .i64 l[k].ah, .int .i64 l[k].ak, .int .i64 l[k].bj, .slice a3 n3 x3, .slice a4 n4 x4]
     (.inr ⟨_,rfl,by rw[Bv];rfl,λj y hy=>by rw[Addr.add_lit,Tx kN];simpa using hy,λu hu=>by
      simp only[Ae,List.not_mem_nil,or_false]at hu;rcases hu with rfl|rfl|rfl|rfl|rfl<;>rfl⟩) (by simp only[maxLen];omega) (by
      have:=Nat.mul_le_mul_left ((EV t (l.take k)).length+1) ES;omega)
    have fin:OH w w1 v' (EV t (l.take (k+1))).length (Gf t (l.take (k+1)) cs)/\Mod [] w w1:=by
     rcases AN with⟨_,_,h⟩|⟨g,cap,C,rfl,h1,h2,h3,h4,h5,h6,h7⟩
     ·omega
     ·have hg:w.heap.size<=g:=by
       rcases h7 with⟨h,_⟩|h
       ·have:=HM.out.size;have:=A2.size;omega
       ·exact h
      refine⟨.inr ⟨g,cap,C,by rw[hm];simp,⟨by rw[hm];simpa using h1,h2,h3,by rw[h4,Bv],?_⟩,hg⟩,(HM.out.trans A2 (by simp)).grown h6 λk hk=> .inr (by cases hk;exact hg)⟩;rw[hn,hm,<-h5,Bv];simp
    have HF:=Lib.hid fin
    clear fin AN Ns hn hm A1 A2 kN
    go_wp2_with (at_builtin;refine Lib.wpList_append_run _ rfl _ _ _ _ rfl _ _ rfl rfl _ _ hr ?_)
    go_roundw
    case rel=>exact⟨k+1,v',by omega,by go_num,rfl,HF.out.1,HF.out.2⟩
    case measure=>simp[intOf];omega
  ·obtain rfl:k=l.length:=by omega
   go_wp2
   go_ret
   have h1:=HI.out;rw[List.take_length]at h1;exact⟨_,rfl,h1,HM.out⟩
set_option maxHeartbeats 4000000 in
theorem zyY(w:World)(t:Int)(q:Option Addr):Calls Tryz.prog 248 #[.slice q 0 0, .int .i64 t] w λe w'=> ∃v',e= .returned v'/\OH w w' v' 0 []/\Mod [] w w':=by
 go_enter Tryz.func248,Tryz.ntmps248
 go_wp2_with fail
 go_loopw [5,10] (λs5 s10 wr=>s10= .int .i64 0/\s5= .slice none 0 0/\wr=w) (λ_ _ _=>0)
 case atStart=>exact⟨rfl,rfl,rfl⟩
 case round=>
  obtain⟨rfl,rfl,rfl⟩:=hrel
  go_wp2
  go_ret
  exact⟨_,rfl, .inl ⟨rfl,rfl,none,rfl⟩,Mod.refl _ _⟩
theorem zE0{w:World}{l:List AL}{cs:List Value}{N:List Nat}(h:DC w (Bz l.length Hf) cs (Aq (l.map Eg)) N):∀i (hi:i<l.length),jG cs i l[i]:=by
 intro i hi;have hx:∀y∈l.map Eg,y.cells.length=5:=λy hy=>by obtain⟨x,_,rfl⟩:=List.mem_map.1 hy;rfl
 have hd:DC w (Bz (l.map Eg).length Hf) cs (Aq (l.map Eg)) N:=by rw[List.length_map];exact h
 obtain⟨N1,N2,rfl,_,d2⟩:=hd.cut (l:=Hf) (K:=5) rfl hx (i:=i) (by simp;omega);have e1:Bz ((l.map Eg).length-i) Hf=Hf++Bz ((l.map Eg).length-i-1) Hf:=by rw[show(l.map Eg).length-i=1+((l.map Eg).length-i-1) by rw[List.length_map];omega,Lu,zx0];congr 2;omega
 have e2:Aq ((l.map Eg).drop i)=[.int .i64 l[i].ah, .int .i64 l[i].ak, .int .i64 l[i].bj, .sl (l[i].ar.map DZ), .sl (l[i].af.map TE)]++Aq ((l.map Eg).drop (i+1)):=by rw[Br (show i<(l.map Eg).length by simpa using hi)];simp[Aq]
 rw[e1,e2]at d2;have g:∀j,cs[i*5+j]?=(cs.drop (i*5))[j]?:=λj=>by rw[List.getElem?_drop]
 have g0:=g 0;rw[Nat.add_zero]at g0;unfold jG;rw[g0,g 1,g 2,g 3,g 4];generalize cs.drop (i*5)=L at d2;generalize l[i].ar.map DZ=A at d2;generalize l[i].af.map TE=B at d2;generalize Bz ((l.map Eg).length-i-1) Hf=R at d2;generalize Aq ((l.map Eg).drop (i+1))=F at d2;simp only[List.cons_append,List.nil_append]at d2;have fl:∀{v:Value} {n:Int},Rd w [v] [.int .i64 n] []->v= .int .i64 n:=λh=>by obtain⟨us,e,_,h2⟩:=Oy h;cases e;rfl
 cases d2 with
 |flat r0 d2=>cases d2 with
  |flat r1 d2=>cases d2 with
   |flat r2 d2=>
    rw[fl r0,fl r1,fl r2];refine⟨rfl,rfl,rfl,?_⟩;cases d2 with
    |void _ _ d2=>cases d2 with
     |void _ _ _=>exact⟨⟨_,_,_,rfl⟩,_,_,_,rfl⟩
     |row _ _ _ _ _ _ _ _ _ _=>exact⟨⟨_,_,_,rfl⟩,_,_,_,rfl⟩
    |row _ _ _ _ _ _ _ _ _ d2=>cases d2 with
     |void _ _ _=>exact⟨⟨_,_,_,rfl⟩,_,_,_,rfl⟩
     |row _ _ _ _ _ _ _ _ _ _=>exact⟨⟨_,_,_,rfl⟩,_,_,_,rfl⟩
def wP(P:Program)(sg:B4)(f:Nat)(t it el K:Nat)(l:List DT):Bool:=
 match P.funcs[f]?,sg f with
 |some fn,some s=>(match s.cf,s.res,s.ft,s.lo with
  | [.va [true], .ro],[true],[],[]=>true
  |_,_,_,_=>false)&&fn.body.isSome&& !(fn.name== "runtime.NumGoroutine")&&fn.params.toList==[t,it]&&(Dz fn s)==[t]&&fn.nfree==0&& !Ap P t&&Bl P t==[t]&&C3 P t==some el&& !Cg P el&&KX (DK P t) el K l&&Gj P t [true]&&fn.params.size==2
 |_,_=>false
def SO(l:List AL)(t:Int):Option (List AL):=req (l.length*1000<=140737488355328) (some (EV t l))
theorem ztg(a0:List AL)(a1:Int)(r:List AL)(h:SO a0 a1=some r):Cr Tryz.prog B9 248 [.sl (a0.map Eg), .int .i64 a1] (.sl (r.map Eg)):=by
 obtain⟨hb,h⟩:=Gm h;cases h;have hk:wP Tryz.prog B9 248 48 3 108 5 Hf=true:=by kernel_rfl
 have Ca:∀r,H7 Tryz.prog B9 248 r=true:=λ_=>by kernel_rfl
 unfold wP at hk;split at hk
 ·rename_i fn s hf hs;simp only[Ab,Be,AO]at hk;obtain⟨⟨⟨⟨⟨⟨⟨⟨⟨⟨⟨⟨g1,g2⟩,g3⟩,g4⟩,g5⟩,g6⟩,g7⟩,g8⟩,g9⟩,g10⟩,g11⟩,g12⟩,g13⟩:=hk;have g11:=N8 g11;obtain⟨hm,hr,CB,BZ⟩:s.cf=[.va [true], .ro]/\s.res=[true]/\s.ft=[]/\s.lo=[]:=by
   split at g1
   ·rename_i a b c d;exact⟨a,b,c,d⟩
   ·cases g1
  unfold Cr;rw[if_pos (K4 _ s hs)];refine⟨s,hs,fn,hf,g2,g3,by have:=Ca ((EV a1 a0).map Eg);unfold H7 at this;rw[hf,hs]at this;exact this,by simp[g6,g13],by simp[CB],λw vs rf lf Bh Aj hd _ Cb Ed=> ?_⟩;rw[g4,CB,AE,hm,BZ]at Aj;cases Aj with
  |lent h _ _ _=>cases h
  | @cons _ _ _ _ v1 vs1 _ _ f1 k1 rf1 lf1 BR q1 Aj=>
   cases Aj with
   |lent h _ _ _=>cases h
   | @cons _ _ _ _ v2 vs2 _ _ f2 k2 rf2 lf2 Bi q2 Aj=>
    cases Aj;obtain⟨rfl,r1⟩:=aV g7 g8 g9 g10 g11 q1;obtain⟨q2,rfl⟩:Rd w [v2] [AV.int .i64 a1] f2/\k2=[]:=q2;obtain⟨us,rfl2,hI,q2⟩:=Oy q2;obtain⟨rfl,rfl⟩:=Om q2;cases rfl2;have Eo:k1.Nodup:=by simpa using Cb
    obtain⟨cs,N,n1,n2,n3,Ii,Cs,hc⟩:∃(cs:List Value) (N:List Nat),(∀b∈N,b∈k1)/\N.Nodup/\(∀b∈N,b<w.heap.size)/\DC w (Bz a0.length Hf) cs (Aq (a0.map Eg)) N/\(∀u∈cs,u.oneCell'=true)/\
      Calls Tryz.prog 248 #[v1, .int .i64 a1] w λe w'=> ∃v',e= .returned v'/\OH w w' v' (EV a1 a0).length (Gf a1 a0 cs)/\Mod [] w w':=by
     obtain⟨p0,pl,⟨a,rfl,e1,rfl⟩|⟨g,cap,C,xs',N,rfl,e1,rfl,d1,d2,d3,d4,d5,d6,d7⟩⟩:=r1.inv
     ·have:a0=[]:=by simpa using e1
      subst this;exact⟨[],[],by simp,by simp,by simp,by simpa[Bz,Aq]using DC.nil,by simp,zyY w a1 a⟩
     ·cases e1;rw[AA.ay]at d7;simp only[List.length_map]at d2 d4 d6 d7 ⊢;exact⟨_,N,λb hb=>by simp[hb],(List.nodup_cons.1 Eo).2,d7.inb,d7,d6,zBo w a0 a1 g cap C _ ⟨d2,d3,d1,d4,rfl⟩ d6 (zE0 d7) hb⟩
    refine hc.mono ?_;rintro e w' ⟨v',rfl,hL,Bp⟩;have fN:=Ii.frame (w':=w') λb hb=>Bp.block b (n3 b hb) (by simp);obtain⟨N',s1,s2⟩:=tM (t:=a1) fN;obtain⟨T,t1,t2,t3⟩:∃T,DC w' [.row 108 5 (AA.of Hf)] [v'] [.sl ((EV a1 a0).map Eg)] T/\T.Nodup/\ ∀b∈T,(b∈k1\/w.heap.size<=b)/\b<w'.heap.size:=by
     rcases hL with⟨m0,_,q,rfl⟩|⟨g,cap,C,rfl,⟨z1,z2,z3,z4,z5⟩,hg⟩
     ·have:EV a1 a0=[]:=List.eq_nil_of_length_eq_zero m0;rw[this];exact⟨[], .void (by omega) (by rw[AA.ay];rfl) .nil,by simp,by simp⟩
     ·have hd:=DC.row (w:=w') (e:=108) (z:=5) (l:=AA.of Hf) (g:=g) (cap:=cap) (C:=C) (ys:=(EV a1 a0).map Eg) (N1:=N') (ts:=[]) (vs:=[]) (xs:=[]) (N:=[]) (by omega) (by rw[AA.ay];rfl) z3 (by simpa using z1) z2 z4 (λy hy=>by obtain⟨x,_,rfl⟩:=List.mem_map.1 hy;rfl) (by
       rw[List.length_map,<-z5];exact λu hu=>Cs u (zwz hu)) (by rw[List.length_map,AA.ay,<-z5];exact s2) .nil
      refine⟨g::N',by simpa using hd,List.nodup_cons.2 ⟨λh=>by have:=n3 g (s1.subset h);omega,n2.sublist s1⟩,λb hb=> ?_⟩;have:=Bp.size;rcases Ae.1 hb with rfl|hb
      ·exact⟨.inr hg,Dh z3⟩
      ·have:=n3 b (s1.subset hb);exact⟨.inl (n1 b (s1.subset hb)),by omega⟩
    refine⟨_,rfl,⟨⟨_,[],[],T,[],[],rfl,?_,?_,by simpa using t2,?_,by simp⟩,Bp.weaken (by simp)⟩⟩
    ·rw[g5];show Ea Tryz.prog w' _ s.res _ _ [] _;unfold Ea;rw[hr,if_pos g12];refine⟨[v'],[.sl ((EV a1 a0).map Eg)],by rw[g7];simp,?_⟩;rw[g8];have:=CA.deep (P:=Tryz.prog) (t:=48) (ts:=[]) (fl:=[true]) (us:=[]) (ys:=[]) (rf:=[]) (hs:=[]) rfl g9 g10 g11 t1 .nil;simpa using this
    ·rw[g4,CB,AE,hm];exact .va rfl (.ro rfl .nil)
    ·intro b hb;rw[AE]at hb;exact⟨(t3 b hb).1.imp (λh=>by simp[h]) id,(t3 b hb).2⟩
 ·cases hk
def nV(a0 a1:List Int):Option (Bool):=
 some ((decide ((a0.length:Int)>1048576))||(decide ((a1.length:Int)>(IntKind.i64.wrap ((1048576:Int)-(a0.length:Int))))))
def VW(a0:AT):Option (Int × AT):=
 if(decide (a0.dh<(a0.bp.length:Int)))then
  (getI a0.bp a0.dh).bind λy1=>
  if(decide ((IntKind.i64.wrap (a0.dh+1))<=(a0.bp.length:Int)))then
   some ((IntKind.i64.wrap y1),(⟨a0.bp,(IntKind.i64.wrap (a0.dh+1)),(IntKind.u64.wrap ((IntKind.u64.wrap ((IntKind.u64.wrap (a0.bq*6364136223846793005))+(IntKind.u64.wrap (IntKind.i64.wrap y1))))+1442695040888963407))⟩:AT))
  else
   some ((IntKind.i64.wrap (IntKind.u64.wrap ((BitVec.ofInt (IntKind.bits .u64) (Int.fdiv (IntKind.u64.wrap ((IntKind.u64.wrap ((IntKind.u64.wrap (a0.bq*6364136223846793005))+(IntKind.u64.wrap (IntKind.i64.wrap y1))))+1442695040888963407)) (2^(min ((40:Int)).toNat (IntKind.bits .u64))))&&&BitVec.ofInt (IntKind.bits .u64) 255).toNat:Int))),(⟨a0.bp,(IntKind.i64.wrap (a0.dh+1)),(IntKind.u64.wrap ((IntKind.u64.wrap ((IntKind.u64.wrap (a0.bq*6364136223846793005))+(IntKind.u64.wrap (IntKind.i64.wrap y1))))+1442695040888963407))⟩:AT))
 else
  if(decide ((IntKind.i64.wrap (a0.dh+1))<=(a0.bp.length:Int)))then
   some (0,(⟨a0.bp,(IntKind.i64.wrap (a0.dh+1)),(IntKind.u64.wrap ((IntKind.u64.wrap ((IntKind.u64.wrap (a0.bq*6364136223846793005))+(IntKind.u64.wrap 0)))+1442695040888963407))⟩:AT))
  else
   some ((IntKind.i64.wrap (IntKind.u64.wrap ((BitVec.ofInt (IntKind.bits .u64) (Int.fdiv (IntKind.u64.wrap ((IntKind.u64.wrap ((IntKind.u64.wrap (a0.bq*6364136223846793005))+(IntKind.u64.wrap 0)))+1442695040888963407)) (2^(min ((40:Int)).toNat (IntKind.bits .u64))))&&&BitVec.ofInt (IntKind.bits .u64) 255).toNat:Int))),(⟨a0.bp,(IntKind.i64.wrap (a0.dh+1)),(IntKind.u64.wrap ((IntKind.u64.wrap ((IntKind.u64.wrap (a0.bq*6364136223846793005))+(IntKind.u64.wrap 0)))+1442695040888963407))⟩:AT))
def Fq(a0:AT)(a1:Int):Option (Int × AT):=
 if(decide (a1<=1))then
  some (0,a0)
 else
  (VW a0).bind λv1=>
  if(decide (a1>200))then
   (VW v1.2).bind λv2=>
   req (a1≠0)<|
   some ((Int.tmod (IntKind.i64.wrap ((IntKind.i64.wrap (v1.1*256))+v2.1)) a1),(⟨v2.2.bp,v2.2.dh,v2.2.bq⟩:AT))
  else
   req (a1≠0)<|
   some ((Int.tmod v1.1 a1),(⟨v1.2.bp,v1.2.dh,v1.2.bq⟩:AT))
def YY(a0:AT):Option (List (Af) × AT):=
 (Fq a0 5).bind λv1=>
 (getI [[([109]:Af)],[([109]:Af)],[([99]:Af),([110]:Af)],[],[([98]:Af)]] v1.1).bind λy2=>
 some (y2,v1.2)
def NY(a0:AT)(a1:Int):Option (Bool × AT):=
 (Fq a0 a1).bind λv1=>
 some ((v1.1==0),v1.2)
def V3(a0:AT)(a1:List (Af)):Option (Af × AT):=
 (Fq a0 (a1.length:Int)).bind λv1=>
 (getI a1 v1.1).bind λy2=>
 some (y2,v1.2)
def Zk(a0:AT):Option (Af × AT):=
 (V3 a0 ([([]:Af),([49]:Af),([55]:Af),([49,48]:Af),([45,51]:Af),([120]:Af),([97,44,98,95,99]:Af)]:List (Af))).bind λv1=>
 some (v1.1,v1.2)
def Y5(a0:AT)(a1:Af):Option (Ar × AT):=
 (NY a0 4).bind λv1=>
 if v1.1 then
  some ((⟨a1,([]:Af),true⟩:Ar),v1.2)
 else
  (Zk v1.2).bind λv2=>
  some ((⟨a1,v2.1,false⟩:Ar),v2.2)
def kD(v1:List Ar)(v2:Int)(v3:List Int)(v4 v5:Int):Option ((List Ar × Int × List Int × Int × Int) ⊕ Option (List Ar × AT)):=
 if(decide (v2<([([97]:Af),([98]:Af),([99]:Af),([105,47,120,47,49]:Af),([109]:Af),([110]:Af),([114,47,49]:Af),([122]:Af)].length:Int)))then
  (getI [([97]:Af),([98]:Af),([99]:Af),([105,47,120,47,49]:Af),([109]:Af),([110]:Af),([114,47,49]:Af),([122]:Af)] v2).bind λy6=>
  (NY (⟨v3,v4,v5⟩:AT) 4).bind λv7=>
  if v7.1 then
   (Y5 v7.2 y6).bind λv8=>
   req (RM (((v1).length:Int)+(([v8.1]:List Ar).length:Int)) 40)<|
   some (.inl ((v1++ [v8.1]),(IntKind.i64.wrap (v2+1)),v8.2.bp,v8.2.dh,v8.2.bq))
  else
   some (.inl (v1,(IntKind.i64.wrap (v2+1)),v7.2.bp,v7.2.dh,v7.2.bq))
 else
  some (.inr (some (v1,(⟨v3,v4,v5⟩:AT))))
def VO(a0:AT):Option (List Ar × AT):=
 Az (λs:List Ar × Int × List Int × Int × Int=>kD s.1 s.2.1 s.2.2.1 s.2.2.2.1 s.2.2.2.2) ([],0,a0.bp,a0.dh,a0.bq)
def VS(a0:AT):Option (Af × AT):=
 (V3 a0 ([([97]:Af),([98]:Af),([99]:Af),([109]:Af),([110]:Af),([122]:Af),([114,47,49]:Af),([105,47,120,47,49]:Af)]:List (Af))).bind λv1=>
 some (v1.1,v1.2)
def Iw(a0:List (Af)):Option (List (Af)):=
 req (RM ((([]:List (Af)).length:Int)+((a0).length:Int)) 16)<|
 some a0
def SH(a0:List (Af))(a1:Af)(v1:Int):Option (List (Af)):=
 if(decide (v1>0))then
  (getI a0 (IntKind.i64.wrap (v1-1))).bind λy2=>
  if(y2==a1)then
   some a0
  else
   req (0<=v1/\v1<=(a0.length:Int)/\(a0.length:Int)<=(a0.length:Int))<|
   (Iw (A6 a0 v1 (a0.length:Int))).bind λv3=>
   req (0<=(0:Int)/\(0:Int)<=v1/\v1<=(a0.length:Int))<|
   (Iw (A6 a0 0 v1)).bind λv4=>
   req (RM (((v4).length:Int)+(([a1]:List (Af)).length:Int)) 16)<|
   req (RM ((((v4++ [a1])).length:Int)+((v3).length:Int)) 16)<|
   some ((v4++ [a1])++v3)
 else
  req (0<=v1/\v1<=(a0.length:Int)/\(a0.length:Int)<=(a0.length:Int))<|
  (Iw (A6 a0 v1 (a0.length:Int))).bind λv5=>
  req (0<=(0:Int)/\(0:Int)<=v1/\v1<=(a0.length:Int))<|
  (Iw (A6 a0 0 v1)).bind λv6=>
  req (RM (((v6).length:Int)+(([a1]:List (Af)).length:Int)) 16)<|
  req (RM ((((v6++ [a1])).length:Int)+((v5).length:Int)) 16)<|
  some ((v6++ [a1])++v5)
def KQ(a0:List (Af))(a1:Af)(v7:Int):Option ((Int) ⊕ Option (List (Af))):=
 if(decide (v7>0))then
  (getI a0 (IntKind.i64.wrap (v7-1))).bind λy8=>
  if(!(Op.bytesLess y8 a1||y8==a1))then
   some (.inl (IntKind.i64.wrap (v7-1)))
  else
   some (.inr (SH a0 a1 v7))
 else
  some (.inr (SH a0 a1 v7))
def Mv(a0:List (Af))(a1:Af):Option (List (Af)):=
 Az (λs:Int=>KQ a0 a1 s) (a0.length:Int)
def w8(v1:List Ak)(v2:Int)(v12:List Ar × AT)(v14:List Int)(v15 v16:Int)(v17:List (Af)):Option ((List Ak × Int × List Int × Int × Int) ⊕ Option (List Ak × AT)):=
 if((IntKind.i64.wrap ((v17.length:Int)+(v12.1.length:Int)))==0)then
  req (RM (((v1).length:Int)+(([(⟨v2,[([97]:Af)],v12.1⟩:Ak)]:List Ak).length:Int)) 56)<|
  some (.inl ((v1++ [(⟨v2,[([97]:Af)],v12.1⟩:Ak)]),(IntKind.i64.wrap (v2+1)),v14,v15,v16))
 else
  req (RM (((v1).length:Int)+(([(⟨v2,v17,v12.1⟩:Ak)]:List Ak).length:Int)) 56)<|
  some (.inl ((v1++ [(⟨v2,v17,v12.1⟩:Ak)]),(IntKind.i64.wrap (v2+1)),v14,v15,v16))
def jZ(v1:List Ak)(v2:Int)(v12:List Ar × AT)(v18:Int)(v19:List Int)(v20 v21:Int)(v22:List (Af)):Option ((Int × List Int × Int × Int × List (Af)) ⊕ Option ((List Ak × Int × List Int × Int × Int) ⊕ Option (List Ak × AT))):=
 if(decide (v18>0))then
  (VS (⟨v19,v20,v21⟩:AT)).bind λv23=>
  (Mv v22 v23.1).bind λv24=>
  some (.inl ((IntKind.i64.wrap (v18-1)),v23.2.bp,v23.2.dh,v23.2.bq,v24))
 else
  some (.inr (w8 v1 v2 v12 v19 v20 v21 v22))
def YK(v1:List Ak)(v2 v6 v7:Int)(v8:Bool)(v9:List Int)(v10 v11:Int):Option ((List Ak × Int × List Int × Int × Int) ⊕ Option (List Ak × AT)):=
 if v8 then
  (VO (⟨v9,v10,v11⟩:AT)).bind λv12=>
  (Fq v12.2 3).bind λv13=>
  Az (λs:Int × List Int × Int × Int × List (Af)=>jZ v1 v2 v12 s.1 s.2.1 s.2.2.1 s.2.2.2.1 s.2.2.2.2) (v13.1,v13.2.bp,v13.2.dh,v13.2.bq,[])
 else
  some (.inr (some (v1,(⟨v9,v10,v11⟩:AT))))
def kF(v1:List Ak)(v2:Int)(v3:List Int)(v4 v5:Int):Option ((List Ak × Int × List Int × Int × Int) ⊕ Option (List Ak × AT)):=
 if(decide (v2<=4))then
  (NY (⟨v3,v4,v5⟩:AT) 5).bind λv25=>
  YK v1 v2 0 0 (!v25.1) v25.2.bp v25.2.dh v25.2.bq
 else
  YK v1 v2 0 0 false v3 v4 v5
def YP(a0:AT):Option (List Ak × AT):=
 Az (λs:List Ak × Int × List Int × Int × Int=>kF s.1 s.2.1 s.2.2.1 s.2.2.2.1 s.2.2.2.2) ([],1,a0.bp,a0.dh,a0.bq)
def Jf(a0 a1 a2:Int):Option (Bool):=
 some ((decide (a0>=a1))&&(decide (a0<=a2)))
def lX(v1:Int)(v3:Bool):Option ((Int) ⊕ Option (Bool)):=
 if(!v3)then
  some (.inr (some false))
 else
  some (.inl (IntKind.i64.wrap (v1+1)))
def VX(a1:Af)(v1:Int)(y2:UInt8)(v4:Bool)(v5:Int):Option ((Bool × Int) ⊕ Option ((Int) ⊕ Option (Bool))):=
 if(decide (v5<(a1.length:Int)))then
  if v4 then
   some (.inl (true,(IntKind.i64.wrap (v5+1))))
  else
   (getI a1 v5).bind λy6=>
   some (.inl (((y2.toNat:Int)==(y6.toNat:Int)),(IntKind.i64.wrap (v5+1))))
 else
  some (.inr (lX v1 v4))
def lP(a0 a1:Af)(v1:Int):Option ((Int) ⊕ Option (Bool)):=
 if(decide (v1<(a0.length:Int)))then
  (getI a0 v1).bind λy2=>
  Az (λs:Bool × Int=>VX a1 v1 y2 s.1 s.2) ((((decide ((y2.toNat:Int)>=97))&&(decide ((y2.toNat:Int)<=122)))||((decide ((y2.toNat:Int)>=48))&&(decide ((y2.toNat:Int)<=57)))),0)
 else
  some (.inr (some true))
def Wk(a0 a1:Af):Option (Bool):=
 Az (λs:Int=>lP a0 a1 s) 0
def Qc(a0:Af):Option (Bool):=
 (Jf (a0.length:Int) 1 12).bind λv1=>
 if v1 then
  (Wk a0 ([46,47]:Af)).bind λv2=>
  some v2
 else
  some false
def lS(a0:List (Af)):Option (Bool):=
 some (decide ((a0.length:Int)<4))
def Se(a0:List (Af))(v1:Int):Option ((Int) ⊕ Option (Bool)):=
 if(decide (v1<(a0.length:Int)))then
  (getI a0 v1).bind λy2=>
  (Qc y2).bind λv3=>
  if(decide (v1>0))then
   if v3 then
    (getI a0 (IntKind.i64.wrap (v1-1))).bind λy4=>
    if(!Op.bytesLess y4 y2)then
     some (.inr (some false))
    else
     some (.inl (IntKind.i64.wrap (v1+1)))
   else
    some (.inr (some false))
  else
   if((!v3)||false)then
    some (.inr (some false))
   else
    some (.inl (IntKind.i64.wrap (v1+1)))
 else
  some (.inr (lS a0))
def Wf(a0:List (Af)):Option (Bool):=
 Az (λs:Int=>Se a0 s) 0
def N5(a0:Int):Option (Bool):=
 (Jf a0 1 100000).bind λv1=>
 some v1
def lN(a0:List (Af)):Option (Bool):=
 some (decide ((a0.length:Int)<=8))
def R7(a0:List (Af))(v1:Int):Option ((Int) ⊕ Option (Bool)):=
 if(decide (v1<(a0.length:Int)))then
  (getI a0 v1).bind λy2=>
  (Qc y2).bind λv3=>
  if(decide (v1>0))then
   if v3 then
    (getI a0 (IntKind.i64.wrap (v1-1))).bind λy4=>
    if(!Op.bytesLess y4 y2)then
     some (.inr (some false))
    else
     some (.inl (IntKind.i64.wrap (v1+1)))
   else
    some (.inr (some false))
  else
   if((!v3)||false)then
    some (.inr (some false))
   else
    some (.inl (IntKind.i64.wrap (v1+1)))
 else
  some (.inr (lN a0))
def Z9(a0:List (Af)):Option (Bool):=
 Az (λs:Int=>R7 a0 s) 0
def aG(a0:Af):Option (Bool):=
 if(decide ((a0.length:Int)<=24))then
  (Wk a0 ([46,45,44,95]:Af)).bind λv1=>
  some v1
 else
  some false
def Wg(a0 a1:Af)(a2:Bool):Option (Bool):=
 (Qc a0).bind λv1=>
 if v1 then
  (aG a1).bind λv2=>
  some (v2&&((!a2)||(a1==([]:Af))))
 else
  some false
def lI(a0:List Ar):Option (Bool):=
 some (decide ((a0.length:Int)<=24))
def kT(a0:List Ar)(v1:Int):Option ((Int) ⊕ Option (Bool)):=
 if(decide (v1<(a0.length:Int)))then
  (getI a0 v1).bind λy2=>
  (Wg y2.ao y2.bw y2.bk).bind λv3=>
  if(decide (v1>0))then
   if v3 then
    (getI a0 (IntKind.i64.wrap (v1-1))).bind λy4=>
    if(!Op.bytesLess y4.ao y2.ao)then
     some (.inr (some false))
    else
     some (.inl (IntKind.i64.wrap (v1+1)))
   else
    some (.inr (some false))
  else
   if((!v3)||false)then
    some (.inr (some false))
   else
    some (.inl (IntKind.i64.wrap (v1+1)))
 else
  some (.inr (lI a0))
def ZG(a0:List Ar):Option (Bool):=
 Az (λs:Int=>kT a0 s) 0
def Zo(a0:AS)(v7:Bool):Option (Bool):=
 if v7 then
  (Jf a0.ah 1 60).bind λv8=>
  if a0.bf then
   if v8 then
    (N5 a0.ak).bind λv9=>
    some (v9||false)
   else
    some false
  else
   some (v8&&(a0.ak==0))
 else
  if(a0.az==4)then
   if(a0.ah==0)then
    (N5 a0.ak).bind λv10=>
    some (v10&&(!a0.bf))
   else
    some false
  else
   some false
def Mx(a0:AS):Option (Bool):=
 if((a0.az !=1)&&((a0.bj !=0)||(decide ((IntKind.i64.wrap ((a0.ar.length:Int)+(a0.af.length:Int)))>0))))then
  some false
 else
  if(a0.az==1)then
   (Jf a0.ah 1 60).bind λv1=>
   if v1 then
    (N5 a0.ak).bind λv2=>
    if v2 then
     (Jf a0.bj 0 3).bind λv3=>
     if v3 then
      (Z9 a0.ar).bind λv4=>
      if v4 then
       (ZG a0.af).bind λv5=>
       if v5 then
        (Jf (a0.af.length:Int) 0 8).bind λv6=>
        some ((v6&&(decide ((IntKind.i64.wrap ((a0.ar.length:Int)+(a0.af.length:Int)))>0)))&&(!a0.bf))
       else
        some false
      else
       some false
     else
      some false
    else
     some false
   else
    some false
  else
   if(a0.az==2)then
    Zo a0 (a0.az==2)
   else
    Zo a0 (a0.az==3)
def ZK(a0:Ak):Option (Bool):=
 (Mx (⟨1,a0.ah,1,0,a0.ar,a0.af,false⟩:AS)).bind λv1=>
 some v1
def lB(a0:List Ak):Option (Bool):=
 some (decide ((a0.length:Int)<=8))
def Zf(v1:Int):Option ((Int) ⊕ Option (Bool)):=
 some (.inl (IntKind.i64.wrap (v1+1)))
def RU(a0:List Ak)(v1:Int)(y2:Ak)(v4:Int):Option ((Int) ⊕ Option ((Int) ⊕ Option (Bool))):=
 if(decide (v4<((A6 a0 0 v1).length:Int)))then
  (getI (A6 a0 0 v1) v4).bind λy5=>
  if(y2.ah==y5.ah)then
   some (.inr (some (.inr (some false))))
  else
   some (.inl (IntKind.i64.wrap (v4+1)))
 else
  some (.inr (Zf v1))
def RF(a0:List Ak)(v1:Int):Option ((Int) ⊕ Option (Bool)):=
 if(decide (v1<(a0.length:Int)))then
  (getI a0 v1).bind λy2=>
  (ZK y2).bind λv3=>
  if(!v3)then
   some (.inr (some false))
  else
   req (0<=(0:Int)/\(0:Int)<=v1/\v1<=(a0.length:Int))<|
   Az (λs:Int=>RU a0 v1 y2 s) 0
 else
  some (.inr (lB a0))
def V6(a0:List Ak):Option (Bool):=
 Az (λs:Int=>RF a0 s) 0
def Sg(a0 v1:List Ak)(v2:Int):Option ((List Ak × Int) ⊕ Option (List Ak)):=
 if(decide (v2<(a0.length:Int)))then
  (getI a0 v2).bind λy3=>
  (Iw y3.ar).bind λv4=>
  req (RM ((([]:List Ar).length:Int)+((y3.af).length:Int)) 40)<|
  req (RM (((v1).length:Int)+(([(⟨y3.ah,v4,y3.af⟩:Ak)]:List Ak).length:Int)) 56)<|
  some (.inl ((v1++ [(⟨y3.ah,v4,y3.af⟩:Ak)]),(IntKind.i64.wrap (v2+1))))
 else
  some (.inr (some v1))
def ZX(a0:List Ak):Option (List Ak):=
 Az (λs:List Ak × Int=>Sg a0 s.1 s.2) ([],0)
def Z1(a0:List (Af))(a1:List Ak):Option (Ag × Bool):=
 (Wf a0).bind λv1=>
 if v1 then
  (V6 a1).bind λv2=>
  if(!v2)then
   some ((⟨[],[],[]⟩:Ag),false)
  else
   (Iw a0).bind λv3=>
   req (0<=(IntKind.i64.wrap ((a0.length:Int)+1))/\(IntKind.i64.wrap ((a0.length:Int)+1))*80<=140737488355328/\(IntKind.i64.wrap ((a0.length:Int)+1))<=140737488355328)<|
   (ZX a1).bind λv4=>
   some ((⟨v3,(List.replicate ((IntKind.i64.wrap ((a0.length:Int)+1))).toNat (⟨0,[],[],[]⟩:Ai)),v4⟩:Ag),true)
 else
  some ((⟨[],[],[]⟩:Ag),false)
def Rq(a0:AT)(a1:List Int):Option (Int × AT):=
 (Fq a0 (a1.length:Int)).bind λv1=>
 (getI a1 v1.1).bind λy2=>
 some (y2,v1.2)
def SG(a0:Ag)(a1 v1:Int):Option ((Int) ⊕ Option (Int)):=
 if(decide (v1<(a0.ab.length:Int)))then
  (getI a0.ab v1).bind λy2=>
  if(y2.ah==a1)then
   some (.inr (some v1))
  else
   some (.inl (IntKind.i64.wrap (v1+1)))
 else
  some (.inr (some (-1)))
def Ww(a0:Ag)(a1:Int):Option (Int):=
 Az (λs:Int=>SG a0 a1 s) 0
def Sr(a1:List Ar)(v2:List (Af))(v3:Int):Option ((List (Af) × Int) ⊕ Option (List (Af))):=
 if(decide (v3<(a1.length:Int)))then
  (getI a1 v3).bind λy4=>
  (Mv v2 y4.ao).bind λv5=>
  some (.inl (v5,(IntKind.i64.wrap (v3+1))))
 else
  some (.inr (some v2))
def kW(a1:List Ar)(v1:List (Af)):Option (List (Af)):=
 Az (λs:List (Af) × Int=>Sr a1 s.1 s.2) (v1,0)
def Ss(a0:List (Af))(a1:List Ar)(v6:List (Af))(v7:Int):Option ((List (Af) × Int) ⊕ Option (List (Af))):=
 if(decide (v7<(a0.length:Int)))then
  (getI a0 v7).bind λy8=>
  (Mv v6 y8).bind λv9=>
  some (.inl (v9,(IntKind.i64.wrap (v7+1))))
 else
  some (.inr (kW a1 v6))
def ZC(a0:List (Af))(a1:List Ar):Option (List (Af)):=
 Az (λs:List (Af) × Int=>Ss a0 a1 s.1 s.2) ([],0)
def KM(a0:List (Af))(a1:Af)(v1:Int):Option ((Int) ⊕ Option (Int)):=
 if(decide (v1<(a0.length:Int)))then
  (getI a0 v1).bind λy2=>
  if(Op.bytesLess y2 a1||y2==a1)then
   some (.inl (IntKind.i64.wrap (v1+1)))
  else
   some (.inr (some v1))
 else
  some (.inr (some v1))
def SM(a0:List (Af))(a1:Af):Option (Int):=
 Az (λs:Int=>KM a0 a1 s) 0
def ZD(a0:List Int)(a1 v1:Int):Option (List Int):=
 if(decide (v1<(a0.length:Int)))then
  (getI a0 v1).bind λy2=>
  if(y2==a1)then
   some a0
  else
   req (0<=(0:Int)/\(0:Int)<=v1/\v1<=(a0.length:Int))<|
   req (RM ((([]:List Int).length:Int)+(((A6 a0 0 v1)).length:Int)) 8)<|
   req (RM ((((A6 a0 0 v1)).length:Int)+(([a1]:List Int).length:Int)) 8)<|
   req (0<=v1/\v1<=(a0.length:Int)/\(a0.length:Int)<=(a0.length:Int))<|
   req (RM (((((A6 a0 0 v1)++ [a1])).length:Int)+(((A6 a0 v1 (a0.length:Int))).length:Int)) 8)<|
   some (((A6 a0 0 v1)++ [a1])++(A6 a0 v1 (a0.length:Int)))
 else
  req (0<=(0:Int)/\(0:Int)<=v1/\v1<=(a0.length:Int))<|
  req (RM ((([]:List Int).length:Int)+(((A6 a0 0 v1)).length:Int)) 8)<|
  req (RM ((((A6 a0 0 v1)).length:Int)+(([a1]:List Int).length:Int)) 8)<|
  req (0<=v1/\v1<=(a0.length:Int)/\(a0.length:Int)<=(a0.length:Int))<|
  req (RM (((((A6 a0 0 v1)++ [a1])).length:Int)+(((A6 a0 v1 (a0.length:Int))).length:Int)) 8)<|
  some (((A6 a0 0 v1)++ [a1])++(A6 a0 v1 (a0.length:Int)))
def SD(a0:List Int)(a1 v3:Int):Option ((Int) ⊕ Option (List Int)):=
 if(decide (v3<(a0.length:Int)))then
  (getI a0 v3).bind λy4=>
  if(decide (y4<a1))then
   some (.inl (IntKind.i64.wrap (v3+1)))
  else
   some (.inr (ZD a0 a1 v3))
 else
  some (.inr (ZD a0 a1 v3))
def mZ(a0:List Int)(a1:Int):Option (List Int):=
 Az (λs:Int=>SD a0 a1 s) 0
def NW(a0:List (Af))(a1:List (Af))(v1:List Int)(v2:Int):Option ((List Int × Int) ⊕ Option (List Int)):=
 if(decide (v2<(a1.length:Int)))then
  (getI a1 v2).bind λy3=>
  (SM a0 y3).bind λv4=>
  (mZ v1 v4).bind λv5=>
  some (.inl (v5,(IntKind.i64.wrap (v2+1))))
 else
  some (.inr (some v1))
def Wp(a0:List (Af))(a1:List (Af)):Option (List Int):=
 Az (λs:List Int × Int=>NW a0 a1 s.1 s.2) ([],0)
def Ln(a0:List (Af))(a1:Ak):Option (List Int):=
 (ZC a1.ar a1.af).bind λv1=>
 (Wp a0 v1).bind λv2=>
 some v2
def YN(v1 v2:Int × AT)(v4:List Int)(v5 v6 v7:Int):Option (BG × AT):=
 if(v1.1==2)then
  (Fq (⟨v4,v5,v6⟩:AT) 30).bind λv8=>
  some ((⟨v1.1,(IntKind.i64.wrap ((1:Int)+v2.1)),v7,v8.1⟩:BG),(⟨v8.2.bp,v8.2.dh,v8.2.bq⟩:AT))
 else
  some ((⟨v1.1,(IntKind.i64.wrap ((1:Int)+v2.1)),v7,0⟩:BG),(⟨v4,v5,v6⟩:AT))
def VH(a0:AT)(a1:Ag):Option (BG × AT):=
 (Rq a0 ([1,1,1,1,2,2,3,4,4,4]:List Int)).bind λv1=>
 (Fq v1.2 4).bind λv2=>
 (Ww a1 (IntKind.i64.wrap ((1:Int)+v2.1))).bind λv3=>
 if((decide (v3>=0))&&((v1.1==1)||(v1.1==4)))then
  (getI a1.ab v3).bind λy9=>
  (Ln a1.aw y9).bind λv10=>
  (Fq v2.2 (v10.length:Int)).bind λv11=>
  (getI v10 v11.1).bind λy12=>
  YN v1 v2 v11.2.bp v11.2.dh v11.2.bq y12
 else
  YN v1 v2 v2.2.bp v2.2.dh v2.2.bq 0
def kA(v3:Ag × Bool)(v5:List BG)(v6:Int)(v7:List Int)(v8 v9:Int):Option ((List BG × Int × List Int × Int × Int) ⊕ Option ((Ag × List BG) × AT)):=
 if(decide (v6>0))then
  (VH (⟨v7,v8,v9⟩:AT) v3.1).bind λv10=>
  req (RM (((v5).length:Int)+(([v10.1]:List BG).length:Int)) 32)<|
  some (.inl ((v5++ [v10.1]),(IntKind.i64.wrap (v6-1)),v10.2.bp,v10.2.dh,v10.2.bq))
 else
  some (.inr (some ((v3.1,v5),(⟨v7,v8,v9⟩:AT))))
def VN(a0:AT):Option ((Ag × List BG) × AT):=
 (YY a0).bind λv1=>
 (YP v1.2).bind λv2=>
 (Z1 v1.1 v2.1).bind λv3=>
 (Fq v2.2 24).bind λv4=>
 Az (λs:List BG × Int × List Int × Int × Int=>kA v3 s.1 s.2.1 s.2.2.1 s.2.2.2.1 s.2.2.2.2) ([],v4.1,v4.2.bp,v4.2.dh,v4.2.bq)
def Zm(a0:List Int):Option (Ag × List BG):=
 (VN (⟨a0,0,0⟩:AT)).bind λv1=>
 some (v1.1.1,v1.1.2)
def Mw(a0 a1 a2:Int):Option (Bool):=
 some ((decide (a0>=a1))&&(decide (a0<=a2)))
def kS(a0:Int):Option (Bool):=
 some (((decide (a0>=97))&&(decide (a0<=122)))||((decide (a0>=48))&&(decide (a0<=57))))
def lD(a0:Af)(a1:Int):Option (Int):=
 (YH a0 a1).bind λv1=>
 some v1
def kV(a0 a1:Af)(v1:Int):Option ((Int) ⊕ Option (Bool)):=
 if(decide (v1<(a0.length:Int)))then
  (getI a0 v1).bind λy2=>
  (kS (y2.toNat:Int)).bind λv3=>
  if v3 then
   some (.inl (IntKind.i64.wrap (v1+1)))
  else
   (lD a1 (y2.toNat:Int)).bind λv4=>
   if(decide (v4<0))then
    some (.inr (some false))
   else
    some (.inl (IntKind.i64.wrap (v1+1)))
 else
  some (.inr (some true))
def Wo(a0 a1:Af):Option (Bool):=
 Az (λs:Int=>kV a0 a1 s) 0
def ZV(a0:Af):Option (Bool):=
 (Mw (a0.length:Int) 1 12).bind λv1=>
 if v1 then
  (Wo a0 ([46,47]:Af)).bind λv2=>
  some v2
 else
  some false
def lC(a0:List (Af))(v1:Int):Option ((Int) ⊕ Option (Bool)):=
 if(decide (v1<(a0.length:Int)))then
  (getI a0 v1).bind λy2=>
  (ZV y2).bind λv3=>
  if(decide (v1>0))then
   if v3 then
    (getI a0 (IntKind.i64.wrap (v1-1))).bind λy4=>
    if(Op.bytesLess y2 y4||y2==y4)then
     some (.inr (some false))
    else
     some (.inl (IntKind.i64.wrap (v1+1)))
   else
    some (.inr (some false))
  else
   if((!v3)||false)then
    some (.inr (some false))
   else
    some (.inl (IntKind.i64.wrap (v1+1)))
 else
  some (.inr (some true))
def NZ(a0:List (Af)):Option (Bool):=
 Az (λs:Int=>lC a0 s) 0
def ZL(a0:List (Af)):Option (Bool):=
 if(decide ((a0.length:Int)<4))then
  (NZ a0).bind λv1=>
  some v1
 else
  some false
def SX(a0:Int):Option (Bool):=
 (Mw a0 0 100000).bind λv1=>
 some v1
def N4(a0:Int):Option (Bool):=
 (Mw a0 1 100000).bind λv1=>
 some v1
def ZU(a0:Af):Option (Bool):=
 if(decide ((a0.length:Int)<=24))then
  (Wo a0 ([46,45,44,95]:Af)).bind λv1=>
  some v1
 else
  some false
def Wm(a0:Af)(a1:Bool):Option (Bool):=
 (ZU a0).bind λv1=>
 some (v1&&(!(a1&&(a0 !=([]:Af)))))
def lM(a0:An):Option (Bool):=
 (Mw (a0.bc.length:Int) 1 16).bind λv1=>
 some v1
def PY(a0:An)(v2:Int):Option ((Int) ⊕ Option (Bool)):=
 if(decide (v2<(a0.bc.length:Int)))then
  (getI a0.bc v2).bind λy3=>
  (N4 y3.ak).bind λv4=>
  if v4 then
   (Wm y3.bw y3.bk).bind λv5=>
   if(decide (v2>0))then
    if v5 then
     (getI a0.bc (IntKind.i64.wrap (v2-1))).bind λy6=>
     if(decide (y3.ak<=y6.ak))then
      some (.inr (some false))
     else
      some (.inl (IntKind.i64.wrap (v2+1)))
    else
     some (.inr (some false))
   else
    if((!v5)||false)then
     some (.inr (some false))
    else
     some (.inl (IntKind.i64.wrap (v2+1)))
  else
   some (.inr (some false))
 else
  some (.inr (lM a0))
def Z7(a0:An):Option (Bool):=
 Az (λs:Int=>PY a0 s) 0
def Zi(a0:List An)(v1:List (Af)):Option (Bool):=
 if(decide ((a0.length:Int)<=24))then
  (NZ v1).bind λv2=>
  some v2
 else
  some false
def VQ(a0:List An)(v3:Int)(v4:List (Af)):Option ((Int × List (Af)) ⊕ Option (Bool)):=
 if(decide (v3<(a0.length:Int)))then
  (getI a0 v3).bind λy5=>
  (Z7 y5).bind λv6=>
  if(!v6)then
   some (.inr (some false))
  else
   req (RM (((v4).length:Int)+(([y5.ao]:List (Af)).length:Int)) 16)<|
   some (.inl ((IntKind.i64.wrap (v3+1)),(v4++ [y5.ao])))
 else
  some (.inr (Zi a0 v4))
def Wb(a0:List An):Option (Bool):=
 Az (λs:Int × List (Af)=>VQ a0 s.1 s.2) (0,[])
def Sp(a0:AL):Option (AS):=
 some (⟨1,a0.ah,a0.ak,a0.bj,a0.ar,a0.af,false⟩:AS)
def N6(a0:Int):Option (Bool):=
 (Mw a0 1 60).bind λv1=>
 some v1
def RX(a0:List Ar)(v1:Int)(v2:List (Af)):Option ((Int × List (Af)) ⊕ Option (List (Af))):=
 if(decide (v1<(a0.length:Int)))then
  (getI a0 v1).bind λy3=>
  req (RM (((v2).length:Int)+(([y3.ao]:List (Af)).length:Int)) 16)<|
  some (.inl ((IntKind.i64.wrap (v1+1)),(v2++ [y3.ao])))
 else
  some (.inr (some v2))
def V9(a0:List Ar):Option (List (Af)):=
 Az (λs:Int × List (Af)=>RX a0 s.1 s.2) (0,[])
def Zd(a0:Ar):Option (Bool):=
 (Wm a0.bw a0.bk).bind λv1=>
 some (!v1)
def Zx(a0:List Ar):Option (Bool):=
 if(decide ((a0.length:Int)<=24))then
  (V9 a0).bind λv1=>
  (NZ v1).bind λv2=>
  if v2 then
   (DR a0 (λy0_=>Zd y0_)).bind λv3=>
   some (!v3)
  else
   some false
 else
  some false
def ZA(a0:AS)(v6:Bool):Option (Bool):=
 if v6 then
  if(a0.bj==0)then
   if((a0.ar.length:Int)==0)then
    if((a0.af.length:Int)==0)then
     (N6 a0.ah).bind λv7=>
     if a0.bf then
      if v7 then
       (N4 a0.ak).bind λv8=>
       some (v8||false)
      else
       some false
     else
      some (v7&&(a0.ak==0))
    else
     some false
   else
    some false
  else
   some false
 else
  if(a0.az==4)then
   if(a0.bj==0)then
    if((a0.ar.length:Int)==0)then
     if((a0.af.length:Int)==0)then
      if(a0.ah==0)then
       (N4 a0.ak).bind λv9=>
       some (v9&&(!a0.bf))
      else
       some false
     else
      some false
    else
     some false
   else
    some false
  else
   some false
def Wh(a0:AS):Option (Bool):=
 if(a0.az==1)then
  (N6 a0.ah).bind λv1=>
  if v1 then
   (N4 a0.ak).bind λv2=>
   if v2 then
    (Mw a0.bj 0 3).bind λv3=>
    if v3 then
     if(decide ((a0.ar.length:Int)<=8))then
      (NZ a0.ar).bind λv4=>
      if v4 then
       if(decide ((a0.af.length:Int)<=8))then
        (Zx a0.af).bind λv5=>
        some ((v5&&(decide ((IntKind.i64.wrap ((a0.ar.length:Int)+(a0.af.length:Int)))>0)))&&(!a0.bf))
       else
        some false
      else
       some false
     else
      some false
    else
     some false
   else
    some false
  else
   some false
 else
  if(a0.az==2)then
   ZA a0 (a0.az==2)
  else
   ZA a0 (a0.az==3)
def jP(a0:List Ar)(a1:Af)(a2:Ar->(Af)->Option Int)(v1:Int):Option (Int × Bool):=
 if(decide (v1<(a0.length:Int)))then
  (getI a0 v1).bind λy2=>
  (a2 y2 a1).bind λv3=>
  some (v1,(v3==0))
 else
  some (v1,false)
def Rm(a0:List Ar)(a1:Af)(a2:Ar->(Af)->Option Int)(v4 v5:Int):Option ((Int × Int) ⊕ Option (Int × Bool)):=
 if(decide (v4<v5))then
  (getI a0 (IntKind.i64.wrap (Int.fdiv (IntKind.u64.wrap (IntKind.i64.wrap (v4+v5))) (2^(min ((1:Int)).toNat (IntKind.bits .u64)))))).bind λy6=>
  (a2 y6 a1).bind λv7=>
  if(decide (v7<0))then
   some (.inl ((IntKind.i64.wrap ((IntKind.i64.wrap (Int.fdiv (IntKind.u64.wrap (IntKind.i64.wrap (v4+v5))) (2^(min ((1:Int)).toNat (IntKind.bits .u64)))))+1)),v5))
  else
   some (.inl (v4,(IntKind.i64.wrap (Int.fdiv (IntKind.u64.wrap (IntKind.i64.wrap (v4+v5))) (2^(min ((1:Int)).toNat (IntKind.bits .u64)))))))
 else
  some (.inr (jP a0 a1 a2 v4))
def jR(a0:List Ar)(a1:Af)(a2:Ar->(Af)->Option Int):Option (Int × Bool):=
 Az (λs:Int × Int=>Rm a0 a1 a2 s.1 s.2) (0,(a0.length:Int))
def VP(a0:Af):Option (Bool):=
 some (a0 !=a0)
def VM(a0 a1:Af):Option (Int):=
 (VP a0).bind λv1=>
 (VP a1).bind λv2=>
 if v1 then
  if v2 then
   some 0
  else
   some (-1)
 else
  if v2 then
   some 1
  else
   if(Op.bytesLess a0 a1)then
    some (-1)
   else
    if(!(Op.bytesLess a0 a1||a0==a1))then
     some 1
    else
     some 0
def RC(a0:Ar)(a1:Af):Option (Int):=
 (VM a0.ao a1).bind λv1=>
 some v1
def Sb(a0:List Ar)(a1:Af):Option (Int × Bool):=
 (jR a0 a1 (λy0_ y1_=>RC y0_ y1_)).bind λv1=>
 some (v1.1,v1.2)
def jU(a0:List (Af))(a1:Af)(v1:Int):Option ((Int) ⊕ Option (Int)):=
 if(decide (v1<(a0.length:Int)))then
  (getI a0 v1).bind λy2=>
  if(a1==y2)then
   some (.inr (some v1))
  else
   some (.inl (IntKind.i64.wrap (v1+1)))
 else
  some (.inr (some (-1)))
def YF(a0:List (Af))(a1:Af):Option (Int):=
 Az (λs:Int=>jU a0 a1 s) 0
def YG(a0:List (Af))(a1:Af):Option (Bool):=
 (YF a0 a1).bind λv1=>
 some (decide (v1>=0))
def lO(a0:Ar)(a1:List Ar)(a2:List (Af)):Option (Bool):=
 (Sb a1 a0.ao).bind λv1=>
 if v1.2 then
  some true
 else
  (YG a2 a0.ao).bind λv2=>
  some v2
def We(a0:List Ar)(a1:List (Af))(a2:List Ar):Option (Bool):=
 (DR a0 (λy0_=>lO y0_ a2 a1)).bind λv1=>
 some v1
def S1(a0 a1:AL):Option (Bool):=
 (We a0.af a1.ar a1.af).bind λv1=>
 if v1 then
  some true
 else
  (We a1.af a0.ar a0.af).bind λv2=>
  some v2
def PN(a0 a1:AL):Option (Bool):=
 (S1 a1 a0).bind λv1=>
 some v1
def jQ(a0:List An)(a1:Af)(a2:An->(Af)->Option Int)(v1:Int):Option (Int × Bool):=
 if(decide (v1<(a0.length:Int)))then
  (getI a0 v1).bind λy2=>
  (a2 y2 a1).bind λv3=>
  some (v1,(v3==0))
 else
  some (v1,false)
def Rn(a0:List An)(a1:Af)(a2:An->(Af)->Option Int)(v4 v5:Int):Option ((Int × Int) ⊕ Option (Int × Bool)):=
 if(decide (v4<v5))then
  (getI a0 (IntKind.i64.wrap (Int.fdiv (IntKind.u64.wrap (IntKind.i64.wrap (v4+v5))) (2^(min ((1:Int)).toNat (IntKind.bits .u64)))))).bind λy6=>
  (a2 y6 a1).bind λv7=>
  if(decide (v7<0))then
   some (.inl ((IntKind.i64.wrap ((IntKind.i64.wrap (Int.fdiv (IntKind.u64.wrap (IntKind.i64.wrap (v4+v5))) (2^(min ((1:Int)).toNat (IntKind.bits .u64)))))+1)),v5))
  else
   some (.inl (v4,(IntKind.i64.wrap (Int.fdiv (IntKind.u64.wrap (IntKind.i64.wrap (v4+v5))) (2^(min ((1:Int)).toNat (IntKind.bits .u64)))))))
 else
  some (.inr (jQ a0 a1 a2 v4))
def YC(a0:List An)(a1:Af)(a2:An->(Af)->Option Int):Option (Int × Bool):=
 Az (λs:Int × Int=>Rn a0 a1 a2 s.1 s.2) (0,(a0.length:Int))
def PS(a0:An)(a1:Af):Option (Int):=
 (VM a0.ao a1).bind λv1=>
 some v1
def SA(a0:List An)(a1:Af):Option (Int × Bool):=
 (YC a0 a1 (λy0_ y1_=>PS y0_ y1_)).bind λv1=>
 some (v1.1,v1.2)
def SE(a0:List An)(a1:Af):Option (Int):=
 (SA a0 a1).bind λv1=>
 if(!v1.2)then
  some 0
 else
  (getI a0 v1.1).bind λy2=>
  (getI y2.bc (IntKind.i64.wrap ((y2.bc.length:Int)-1))).bind λy3=>
  some y3.ak
def PL(a0:Ar)(a1:AL)(a2:Ai):Option (Bool):=
 (SE a2.aq a0.ao).bind λv1=>
 some (decide (a1.ak<=v1))
def YR(a1:List AL)(v2:List (Af)):Option (Bool):=
 (Rk v2).bind λv3=>
 if(decide ((a1.length:Int)<=12))then
  (Rl v3.2).bind λv4=>
  some (decide ((v4.length:Int)<=24))
 else
  some false
def YQ(v5:Int)(v8:List (Af)):Option ((Int × List (Af)) ⊕ Option (Bool)):=
 some (.inl ((IntKind.i64.wrap (v5+1)),v8))
def PQ(a0:Ai)(v5:Int)(y7:AL)(v9:Int)(v10:List (Af)):Option ((Int × List (Af)) ⊕ Option ((Int × List (Af)) ⊕ Option (Bool))):=
 if(decide (v9<(y7.af.length:Int)))then
  (getI y7.af v9).bind λy11=>
  (SA a0.aq y11.ao).bind λv12=>
  if v12.2 then
   (getI a0.aq v12.1).bind λy13=>
   if(decide ((y13.bc.length:Int)>=16))then
    some (.inr (some (.inr (some false))))
   else
    req (RM (((v10).length:Int)+(([y11.ao]:List (Af)).length:Int)) 16)<|
    some (.inl ((IntKind.i64.wrap (v9+1)),(v10++ [y11.ao])))
  else
   req (RM (((v10).length:Int)+(([y11.ao]:List (Af)).length:Int)) 16)<|
   some (.inl ((IntKind.i64.wrap (v9+1)),(v10++ [y11.ao])))
 else
  some (.inr (YQ v5 v10))
def NX(a0:Ai)(a1:List AL)(v5:Int)(v6:List (Af)):Option ((Int × List (Af)) ⊕ Option (Bool)):=
 if(decide (v5<(a1.length:Int)))then
  (getI a1 v5).bind λy7=>
  Az (λs:Int × List (Af)=>PQ a0 v5 y7 s.1 s.2) (0,v6)
 else
  some (.inr (YR a1 v6))
def kH(a0:Ai)(a1:List AL)(v1:List (Af)):Option (Bool):=
 Az (λs:Int × List (Af)=>NX a0 a1 s.1 s.2) (0,v1)
def Rw(a0:Ai)(a1:List AL)(v14:Int)(v15:List (Af)):Option ((Int × List (Af)) ⊕ Option (Bool)):=
 if(decide (v14<(a0.aq.length:Int)))then
  (getI a0.aq v14).bind λy16=>
  req (RM (((v15).length:Int)+(([y16.ao]:List (Af)).length:Int)) 16)<|
  some (.inl ((IntKind.i64.wrap (v14+1)),(v15++ [y16.ao])))
 else
  some (.inr (kH a0 a1 v15))
def VT(a0:Ai)(a1:List AL):Option (Bool):=
 Az (λs:Int × List (Af)=>Rw a0 a1 s.1 s.2) (0,[])
def VI(a0:Ai):Option (Bool):=
 (VT a0 a0.ae).bind λv1=>
 some v1
def KF(a0:Ai)(v2:Int):Option ((Int) ⊕ Option (Bool)):=
 if(decide (v2<(a0.ae.length:Int)))then
  (getI a0.ae v2).bind λy3=>
  (Sp y3).bind λv4=>
  (Wh v4).bind λv5=>
  if(decide (v2>0))then
   if v5 then
    if(decide (y3.ak>a0.ax))then
     some (.inr (some false))
    else
     (getI a0.ae (IntKind.i64.wrap (v2-1))).bind λy6=>
     if(decide (y3.ah<=y6.ah))then
      some (.inr (some false))
     else
      req (0<=(0:Int)/\(0:Int)<=v2/\v2<=(a0.ae.length:Int))<|
      (DR (A6 a0.ae 0 v2) (λy0_=>PN y0_ y3)).bind λv7=>
      if v7 then
       some (.inr (some false))
      else
       (DR y3.af (λy0_=>PL y0_ y3 a0)).bind λv8=>
       if v8 then
        some (.inr (some false))
       else
        some (.inl (IntKind.i64.wrap (v2+1)))
   else
    some (.inr (some false))
  else
   if(((!v5)||(decide (y3.ak>a0.ax)))||false)then
    some (.inr (some false))
   else
    req (0<=(0:Int)/\(0:Int)<=v2/\v2<=(a0.ae.length:Int))<|
    (DR (A6 a0.ae 0 v2) (λy0_=>PN y0_ y3)).bind λv9=>
    if v9 then
     some (.inr (some false))
    else
     (DR y3.af (λy0_=>PL y0_ y3 a0)).bind λv10=>
     if v10 then
      some (.inr (some false))
     else
      some (.inl (IntKind.i64.wrap (v2+1)))
 else
  some (.inr (VI a0))
def Rx(a0:Ai):Option (Bool):=
 Az (λs:Int=>KF a0 s) 0
def jT(a0:List AL)(a1:Int)(a2:AL->Int->Option Int)(v1:Int):Option (Int × Bool):=
 if(decide (v1<(a0.length:Int)))then
  (getI a0 v1).bind λy2=>
  (a2 y2 a1).bind λv3=>
  some (v1,(v3==0))
 else
  some (v1,false)
def Ro(a0:List AL)(a1:Int)(a2:AL->Int->Option Int)(v4 v5:Int):Option ((Int × Int) ⊕ Option (Int × Bool)):=
 if(decide (v4<v5))then
  (getI a0 (IntKind.i64.wrap (Int.fdiv (IntKind.u64.wrap (IntKind.i64.wrap (v4+v5))) (2^(min ((1:Int)).toNat (IntKind.bits .u64)))))).bind λy6=>
  (a2 y6 a1).bind λv7=>
  if(decide (v7<0))then
   some (.inl ((IntKind.i64.wrap ((IntKind.i64.wrap (Int.fdiv (IntKind.u64.wrap (IntKind.i64.wrap (v4+v5))) (2^(min ((1:Int)).toNat (IntKind.bits .u64)))))+1)),v5))
  else
   some (.inl (v4,(IntKind.i64.wrap (Int.fdiv (IntKind.u64.wrap (IntKind.i64.wrap (v4+v5))) (2^(min ((1:Int)).toNat (IntKind.bits .u64)))))))
 else
  some (.inr (jT a0 a1 a2 v4))
def YE(a0:List AL)(a1:Int)(a2:AL->Int->Option Int):Option (Int × Bool):=
 Az (λs:Int × Int=>Ro a0 a1 a2 s.1 s.2) (0,(a0.length:Int))
def V5(a0:Int):Option (Bool):=
 some (a0 !=a0)
def V1(a0 a1:Int):Option (Int):=
 (V5 a0).bind λv1=>
 (V5 a1).bind λv2=>
 if v1 then
  if v2 then
   some 0
  else
   some (-1)
 else
  if v2 then
   some 1
  else
   if(decide (a0<a1))then
    some (-1)
   else
    if(decide (a0>a1))then
     some 1
    else
     some 0
def PF(a0:AL)(a1:Int):Option (Int):=
 (V1 a0.ah a1).bind λv1=>
 some v1
def JJ(a0:Ai)(a1:Int):Option (Int × Bool):=
 (YE a0.ae a1 (λy0_ y1_=>PF y0_ y1_)).bind λv1=>
 some (v1.1,v1.2)
def KK(a0:Ai)(v4:Int):Option ((Int) ⊕ Option (Bool)):=
 if(decide (v4<(a0.au.length:Int)))then
  (getI a0.au v4).bind λy5=>
  if y5.bf then
   (Mw y5.ak 1 a0.ax).bind λv6=>
   (N6 y5.ah).bind λv7=>
   if(decide (v4>0))then
    if v7 then
     if v6 then
      (getI a0.au (IntKind.i64.wrap (v4-1))).bind λy8=>
      if(decide (y5.ah<=y8.ah))then
       some (.inr (some false))
      else
       (JJ a0 y5.ah).bind λv9=>
       if v9.2 then
        some (.inr (some false))
       else
        some (.inl (IntKind.i64.wrap (v4+1)))
     else
      some (.inr (some false))
    else
     some (.inr (some false))
   else
    if(((!v7)||(!(v6||false)))||false)then
     some (.inr (some false))
    else
     (JJ a0 y5.ah).bind λv10=>
     if v10.2 then
      some (.inr (some false))
     else
      some (.inl (IntKind.i64.wrap (v4+1)))
  else
   (N6 y5.ah).bind λv11=>
   if(decide (v4>0))then
    if v11 then
     if(y5.ak==0)then
      (getI a0.au (IntKind.i64.wrap (v4-1))).bind λy12=>
      if(decide (y5.ah<=y12.ah))then
       some (.inr (some false))
      else
       (JJ a0 y5.ah).bind λv13=>
       if v13.2 then
        some (.inr (some false))
       else
        some (.inl (IntKind.i64.wrap (v4+1)))
     else
      some (.inr (some false))
    else
     some (.inr (some false))
   else
    if(((!v11)||(!(y5.ak==0)))||false)then
     some (.inr (some false))
    else
     (JJ a0 y5.ah).bind λv14=>
     if v14.2 then
      some (.inr (some false))
     else
      some (.inl (IntKind.i64.wrap (v4+1)))
 else
  some (.inr (some true))
def RH(a0:Ai):Option (Bool):=
 Az (λs:Int=>KK a0 s) 0
def KI(a0:Ai)(v15:Int):Option ((Int) ⊕ Option (Bool)):=
 if(decide (v15<(a0.aq.length:Int)))then
  (getI a0.aq v15).bind λy16=>
  (SE a0.aq y16.ao).bind λv17=>
  if(decide (v17>a0.ax))then
   some (.inr (some false))
  else
   some (.inl (IntKind.i64.wrap (v15+1)))
 else
  some (.inr (RH a0))
def P2(a0:Ai):Option (Bool):=
 (SX a0.ax).bind λv1=>
 if v1 then
  (Wb a0.aq).bind λv2=>
  if v2 then
   (Rx a0).bind λv3=>
   if((!v3)||(decide ((a0.au.length:Int)>60)))then
    some false
   else
    Az (λs:Int=>KI a0 s) 0
  else
   some false
 else
  some false
def Zw(a0:Ai):Option (Bool):=
 (P2 a0).bind λv1=>
 some (!v1)
def mD(a0:List (Af))(a1:List Ar):Option (Bool):=
 (Wh (⟨1,1,1,0,a0,a1,false⟩:AS)).bind λv1=>
 some v1
def ZR(a0:Ak):Option (Bool):=
 (N6 a0.ah).bind λv1=>
 if v1 then
  (mD a0.ar a0.af).bind λv2=>
  some v2
 else
  some false
def lW(a0 a1:Ak):Option (Bool):=
 some (a0.ah==a1.ah)
def kZ(a0:Ag):Option (Bool):=
 some (decide ((a0.ab.length:Int)<=8))
def PU(a0:Ag)(v3:Int):Option ((Int) ⊕ Option (Bool)):=
 if(decide (v3<(a0.ab.length:Int)))then
  (getI a0.ab v3).bind λy4=>
  (ZR y4).bind λv5=>
  if v5 then
   req (0<=(0:Int)/\(0:Int)<=v3/\v3<=(a0.ab.length:Int))<|
   (DR (A6 a0.ab 0 v3) (λy0_=>lW y0_ y4)).bind λv6=>
   if v6 then
    some (.inr (some false))
   else
    some (.inl (IntKind.i64.wrap (v3+1)))
  else
   some (.inr (some false))
 else
  some (.inr (kZ a0))
def SB(a0:Ag):Option (Bool):=
 (ZL a0.aw).bind λv1=>
 if v1 then
  if((a0.aj.length:Int) !=(IntKind.i64.wrap ((a0.aw.length:Int)+1)))then
   some false
  else
   (DR a0.aj (λy0_=>Zw y0_)).bind λv2=>
   if v2 then
    some false
   else
    Az (λs:Int=>PU a0 s) 0
 else
  some false
def Je(xs:List (Af)):Option (List (Af)):=Qt 16 xs
def jW(xs:List A8):Option (List A8):=Qt 24 xs
def Ms(xs:List Ar):Option (List Ar):=Qt 40 xs
def SZ(a0:AS):Option (AL):=
 (Je a0.ar).bind λv1=>
 (Ms a0.af).bind λv2=>
 some (⟨a0.ah,a0.ak,a0.bj,v1,v2⟩:AL)
def ZQ(a0:AL):Option (AL):=
 (Sp a0).bind λv1=>
 (SZ v1).bind λv2=>
 some v2
def R5(a0:Ai)(v1:List An)(v2:List A8)(v3:Int)(v4:List AL):Option ((Int × List AL) ⊕ Option (Ai)):=
 if(decide (v3<(a0.ae.length:Int)))then
  (getI a0.ae v3).bind λy5=>
  (ZQ y5).bind λv6=>
  req (RM (((v4).length:Int)+(([v6]:List AL).length:Int)) 72)<|
  some (.inl ((IntKind.i64.wrap (v3+1)),(v4++ [v6])))
 else
  some (.inr (some (⟨a0.ax,v1,v4,v2⟩:Ai)))
def PZ(a0:Ai):Option (Ai):=
 (R9 a0.aq).bind λv1=>
 (jW a0.au).bind λv2=>
 Az (λs:Int × List AL=>R5 a0 v1 v2 s.1 s.2) (0,[])
def Zq(a0:Ak):Option (Ak):=
 (Je a0.ar).bind λv1=>
 (Ms a0.af).bind λv2=>
 some (⟨a0.ah,v1,v2⟩:Ak)
def Su(a0:Ag)(v1:List (Af))(v2:List Ai)(v3:Int)(v4:List Ak):Option ((Int × List Ak) ⊕ Option (Ag)):=
 if(decide (v3<(a0.ab.length:Int)))then
  (getI a0.ab v3).bind λy5=>
  (Zq y5).bind λv6=>
  req (RM (((v4).length:Int)+(([v6]:List Ak).length:Int)) 56)<|
  some (.inl ((IntKind.i64.wrap (v3+1)),(v4++ [v6])))
 else
  some (.inr (some (⟨v1,v2,v4⟩:Ag)))
def xV(a0:Ag)(v1:List (Af))(v2:List Ai):Option (Ag):=
 Az (λs:Int × List Ak=>Su a0 v1 v2 s.1 s.2) (0,[])
def RD(a0:Ag)(v1:List (Af))(v7:Int)(v8:List Ai):Option ((Int × List Ai) ⊕ Option (Ag)):=
 if(decide (v7<(a0.aj.length:Int)))then
  (getI a0.aj v7).bind λy9=>
  (PZ y9).bind λv10=>
  req (RM (((v8).length:Int)+(([v10]:List Ai).length:Int)) 80)<|
  some (.inl ((IntKind.i64.wrap (v7+1)),(v8++ [v10])))
 else
  some (.inr (xV a0 v1 v8))
def SQ(a0:Ag):Option (Ag):=
 (Je a0.aw).bind λv1=>
 Az (λs:Int × List Ai=>RD a0 v1 s.1 s.2) (0,[])
def kP(a0:Ak)(a1:BG):Option (Bool):=
 some (a0.ah==a1.ah)
def Z8(a0:List (Af))(a1:List Ar):Option (List (Af)):=
 (Je a0).bind λv1=>
 (V9 a1).bind λv2=>
 req (RM (((v1).length:Int)+((v2).length:Int)) 16)<|
 (Rk (v1++v2)).bind λv3=>
 (Rl v3.2).bind λv4=>
 some v4
def R8(a0:List (Af))(a1:Af)(v1 v2:Int):Option ((Int × Int) ⊕ Option (Int)):=
 if(decide (v2<(a0.length:Int)))then
  (getI a0 v2).bind λy3=>
  if(Op.bytesLess y3 a1||y3==a1)then
   some (.inl ((IntKind.i64.wrap (v1+1)),(IntKind.i64.wrap (v2+1))))
  else
   some (.inl (v1,(IntKind.i64.wrap (v2+1))))
 else
  some (.inr (some v1))
def Ws(a0:List (Af))(a1:Af):Option (Int):=
 Az (λs:Int × Int=>R8 a0 a1 s.1 s.2) (0,0)
def lU(v2:List Int):Option (List Int):=
 (YM v2).bind λv3=>
 some v3
def Sq(a0:List (Af))(v1:List (Af))(v4:Int)(v5:List Int):Option ((Int × List Int) ⊕ Option (List Int)):=
 if(decide (v4<(v1.length:Int)))then
  (getI v1 v4).bind λy6=>
  (Ws a0 y6).bind λv7=>
  req (RM (((v5).length:Int)+(([v7]:List Int).length:Int)) 8)<|
  some (.inl ((IntKind.i64.wrap (v4+1)),(v5++ [v7])))
 else
  some (.inr (lU v5))
def ZT(a0:List (Af))(a1:List (Af))(a2:List Ar):Option (List Int):=
 (Z8 a1 a2).bind λv1=>
 Az (λs:Int × List Int=>Sq a0 v1 s.1 s.2) (0,[])
def KJ(a0:Ag)(a1:Ak):Option (List Int):=
 (ZT a0.aw a1.ar a1.af).bind λv1=>
 some v1
def Ry(a0:List Int)(a1 v1:Int):Option ((Int) ⊕ Option (Int)):=
 if(decide (v1<(a0.length:Int)))then
  (getI a0 v1).bind λy2=>
  if(a1==y2)then
   some (.inr (some v1))
  else
   some (.inl (IntKind.i64.wrap (v1+1)))
 else
  some (.inr (some (-1)))
def kC(a0:List Int)(a1:Int):Option (Int):=
 Az (λs:Int=>Ry a0 a1 s) 0
def VK(a0:List Int)(a1:Int):Option (Bool):=
 (kC a0 a1).bind λv1=>
 some (decide (v1>=0))
def jS(a0:List A8)(a1:Int)(a2:A8->Int->Option Int)(v1:Int):Option (Int × Bool):=
 if(decide (v1<(a0.length:Int)))then
  (getI a0 v1).bind λy2=>
  (a2 y2 a1).bind λv3=>
  some (v1,(v3==0))
 else
  some (v1,false)
def Rp(a0:List A8)(a1:Int)(a2:A8->Int->Option Int)(v4 v5:Int):Option ((Int × Int) ⊕ Option (Int × Bool)):=
 if(decide (v4<v5))then
  (getI a0 (IntKind.i64.wrap (Int.fdiv (IntKind.u64.wrap (IntKind.i64.wrap (v4+v5))) (2^(min ((1:Int)).toNat (IntKind.bits .u64)))))).bind λy6=>
  (a2 y6 a1).bind λv7=>
  if(decide (v7<0))then
   some (.inl ((IntKind.i64.wrap ((IntKind.i64.wrap (Int.fdiv (IntKind.u64.wrap (IntKind.i64.wrap (v4+v5))) (2^(min ((1:Int)).toNat (IntKind.bits .u64)))))+1)),v5))
  else
   some (.inl (v4,(IntKind.i64.wrap (Int.fdiv (IntKind.u64.wrap (IntKind.i64.wrap (v4+v5))) (2^(min ((1:Int)).toNat (IntKind.bits .u64)))))))
 else
  some (.inr (jS a0 a1 a2 v4))
def YD(a0:List A8)(a1:Int)(a2:A8->Int->Option Int):Option (Int × Bool):=
 Az (λs:Int × Int=>Rp a0 a1 a2 s.1 s.2) (0,(a0.length:Int))
def PK(a0:A8)(a1:Int):Option (Int):=
 (V1 a0.ah a1).bind λv1=>
 some v1
def KG(a0:Ai)(a1:Int):Option (Int × Bool):=
 (YD a0.au a1 (λy0_ y1_=>PK y0_ y1_)).bind λv1=>
 some (v1.1,v1.2)
def mL(a0:Int):Option (Int × Bool):=
 if(decide (a0>100000))then
  some (0,false)
 else
  some (a0,true)
def Zp(a0:Af)(a1:List (Af))(a2:Int):Option (Bool):=
 (Ws a1 a0).bind λv1=>
 some (v1 !=a2)
def ZW(a0:List (Af))(a1:List (Af))(a2:Int):Option (List (Af)):=
 (Je a1).bind λv1=>
 (P7 v1 (λy0_=>Zp y0_ a0 a2)).bind λv2=>
 some v2
def Zv(a0:Ar)(a1:List (Af))(a2:Int):Option (Bool):=
 (Ws a1 a0.ao).bind λv1=>
 some (v1 !=a2)
def ZI(a0:List (Af))(a1:List Ar)(a2:Int):Option (List Ar):=
 (Ms a1).bind λv1=>
 (P7 v1 (λy0_=>Zv y0_ a0 a2)).bind λv2=>
 some v2
def Za(v2:List An):Option (List An × Bool):=
 (Wb v2).bind λv3=>
 if(!v3)then
  some ([],false)
 else
  some (v2,true)
def RB(a1:List Ar)(a2 v4:Int)(v5:List An):Option ((Int × List An) ⊕ Option (List An × Bool)):=
 if(decide (v4<(a1.length:Int)))then
  (getI a1 v4).bind λy6=>
  (SE v5 y6.ao).bind λv7=>
  if(decide (a2<=v7))then
   some (.inr (some ([],false)))
  else
   (SA v5 y6.ao).bind λv8=>
   if(!v8.2)then
    (IA v5 v8.1 ([(⟨y6.ao,[]⟩:An)]:List An)).bind λv9=>
    (getI v9 v8.1).bind λy10=>
    req (RM (((y10.bc).length:Int)+(([(⟨a2,y6.bw,y6.bk⟩:Dc)]:List Dc).length:Int)) 32)<|
    some (.inl ((IntKind.i64.wrap (v4+1)),(v9.set (v8.1).toNat {y10 with bc:=(y10.bc++ [(⟨a2,y6.bw,y6.bk⟩:Dc)])})))
   else
    (getI v5 v8.1).bind λy11=>
    req (RM (((y11.bc).length:Int)+(([(⟨a2,y6.bw,y6.bk⟩:Dc)]:List Dc).length:Int)) 32)<|
    some (.inl ((IntKind.i64.wrap (v4+1)),(v5.set (v8.1).toNat {y11 with bc:=(y11.bc++ [(⟨a2,y6.bw,y6.bk⟩:Dc)])})))
 else
  some (.inr (Za v5))
def ZJ(a0:List An)(a1:List Ar)(a2:Int):Option (List An × Bool):=
 (R9 a0).bind λv1=>
 Az (λs:Int × List An=>RB a1 a2 s.1 s.2) (0,v1)
def YL(a1:AS)(v1:Ai)(v2:Int × Bool)(v3:List An)(v4:Int):Option (Ai × Bool):=
 if v2.2 then
  (W2 v1.ae v2.1 (IntKind.i64.wrap (v2.1+1))).bind λv5=>
  (KG (⟨v4,v3,v5,v1.au⟩:Ai) a1.ah).bind λv6=>
  (IA v1.au v6.1 ([(⟨a1.ah,a1.bf,a1.ak⟩:A8)]:List A8)).bind λv7=>
  some ((⟨v4,v3,v5,v7⟩:Ai),true)
 else
  (KG (⟨v4,v3,v1.ae,v1.au⟩:Ai) a1.ah).bind λv8=>
  (IA v1.au v8.1 ([(⟨a1.ah,a1.bf,a1.ak⟩:A8)]:List A8)).bind λv9=>
  some ((⟨v4,v3,v1.ae,v9⟩:Ai),true)
def YS(a0:Ai)(a1:AS):Option (Ai × Bool):=
 (PZ a0).bind λv1=>
 (JJ v1 a1.ah).bind λv2=>
 if a1.bf then
  if v2.2 then
   (getI v1.ae v2.1).bind λy10=>
   if(decide (y10.ak>a1.ak))then
    some ((⟨0,[],[],[]⟩:Ai),false)
   else
    (ZJ v1.aq y10.af a1.ak).bind λv11=>
    if(!v11.2)then
     some ((⟨0,[],[],[]⟩:Ai),false)
    else
     YL a1 v1 v2 v11.1 (bif (decide (a1.ak>v1.ax))then a1.ak else v1.ax)
  else
   some ((⟨0,[],[],[]⟩:Ai),false)
 else
  YL a1 v1 v2 v1.aq v1.ax
def Y4(a0 a1:AL):Option (Bool):=
 (S1 a1 a0).bind λv1=>
 some v1
def jX(xs:List AL):Option (List AL):=Qt 72 xs
def Zj(a0:Ai)(a1:List (Af))(a2:List Ar):Option (Bool):=
 (DR a0.ae (λy0_=>Y4 y0_ (⟨0,0,0,a1,a2⟩:AL))).bind λv1=>
 if v1 then
  some false
 else
  (jX a0.ae).bind λv2=>
  req (RM (((v2).length:Int)+(([(⟨0,0,0,a1,a2⟩:AL)]:List AL).length:Int)) 72)<|
  (VT a0 (v2++ [(⟨0,0,0,a1,a2⟩:AL)])).bind λv3=>
  some v3
def YO(a0:Ai)(a1:AS):Option (Ai × Bool):=
 if(a1.az==4)then
  if(decide (a1.ak<=a0.ax))then
   some ((⟨0,[],[],[]⟩:Ai),false)
  else
   (PZ a0).bind λv1=>
   some ((⟨a1.ak,v1.aq,v1.ae,v1.au⟩:Ai),true)
 else
  (KG a0 a1.ah).bind λv2=>
  if v2.2 then
   some ((⟨0,[],[],[]⟩:Ai),false)
  else
   if(a1.az !=1)then
    (YS a0 a1).bind λv3=>
    some (v3.1,v3.2)
   else
    (JJ a0 a1.ah).bind λv4=>
    if v4.2 then
     some ((⟨0,[],[],[]⟩:Ai),false)
    else
     if(decide (a1.ak<=a0.ax))then
      some ((⟨0,[],[],[]⟩:Ai),false)
     else
      (Zj a0 a1.ar a1.af).bind λv5=>
      if(!v5)then
       some ((⟨0,[],[],[]⟩:Ai),false)
      else
       (PZ a0).bind λv6=>
       (SZ a1).bind λv7=>
       (IA v6.ae v4.1 ([v7]:List AL)).bind λv8=>
       some ((⟨a1.ak,v6.aq,v8,v6.au⟩:Ai),true)
def PI(a0:Ag)(a1:Int)(a2:AS):Option (Ag × Bool):=
 (getI a0.aj a1).bind λy1=>
 (YO y1 a2).bind λv2=>
 if(!v2.2)then
  some ((⟨[],[],[]⟩:Ag),false)
 else
  (SQ a0).bind λv3=>
  (getI v3.aj a1).bind λy4=>
  some ((⟨v3.aw,(v3.aj.set (a1).toNat v2.1),v3.ab⟩:Ag),true)
def Y6(a0:Ag)(a1:Ak)(a2:Int):Option (Ag × Bool):=
 (KJ a0 a1).bind λv1=>
 (VK v1 a2).bind λv2=>
 if(!v2)then
  some ((⟨[],[],[]⟩:Ag),false)
 else
  (getI v1 0).bind λy3=>
  (getI a0.aj y3).bind λy4=>
  (KG y4 a1.ah).bind λv5=>
  if v5.2 then
   some ((⟨[],[],[]⟩:Ag),false)
  else
   (getI a0.aj a2).bind λy6=>
   (mL (IntKind.i64.wrap (y6.ax+1))).bind λv7=>
   if(!v7.2)then
    some ((⟨[],[],[]⟩:Ag),false)
   else
    (ZW a0.aw a1.ar a2).bind λv8=>
    (ZI a0.aw a1.af a2).bind λv9=>
    (PI a0 a2 (⟨1,a1.ah,v7.1,y3,v8,v9,false⟩:AS)).bind λv10=>
    some (v10.1,v10.2)
def YT(a0:Ag)(a1:Ak)(v3:Int):Option (Ag × Bool):=
 (KJ a0 a1).bind λv4=>
 (getI v4 0).bind λy5=>
 (PI a0 y5 (⟨2,a1.ah,v3,0,[],[],true⟩:AS)).bind λv6=>
 some (v6.1,v6.2)
def Ru(a0:Ag)(a1:Ak)(v2:List Int)(v7 v8:Int):Option ((Int × Int) ⊕ Option (Ag × Bool)):=
 if(decide (v8<(v2.length:Int)))then
  (getI v2 v8).bind λy9=>
  (getI a0.aj y9).bind λy10=>
  (JJ y10 a1.ah).bind λv11=>
  if(!v11.2)then
   some (.inr (some ((⟨[],[],[]⟩:Ag),false)))
  else
   (getI y10.ae v11.1).bind λy12=>
   some (.inl ((bif (decide (y12.ak>v7))then y12.ak else v7),(IntKind.i64.wrap (v8+1))))
 else
  some (.inr (YT a0 a1 v7))
def YV(a0:Ag)(a1:Ak)(a2:Int):Option (Ag × Bool):=
 (SX a2).bind λv1=>
 if(!v1)then
  some ((⟨[],[],[]⟩:Ag),false)
 else
  (KJ a0 a1).bind λv2=>
  Az (λs:Int × Int=>Ru a0 a1 v2 s.1 s.2) (a2,0)
def PJ(a0:Ag)(a1:Ak):Option (Ag × Bool):=
 (KJ a0 a1).bind λv1=>
 (getI v1 0).bind λy2=>
 (PI a0 y2 (⟨2,a1.ah,0,0,[],[],false⟩:AS)).bind λv3=>
 some (v3.1,v3.2)
def YI(a0:Ag)(a1:Ak)(a2:Int)(y3:Ai)(v4:Int × Bool)(v5:Bool):Option (Ag × Bool):=
 if v5 then
  some ((⟨[],[],[]⟩:Ag),false)
 else
  (getI y3.au v4.1).bind λy6=>
  (PI a0 a2 (⟨3,a1.ah,y6.ak,0,[],[],y6.bf⟩:AS)).bind λv7=>
  some (v7.1,v7.2)
def PH(a0:Ag)(a1:Ak)(a2:Int):Option (Ag × Bool):=
 (KJ a0 a1).bind λv1=>
 (getI v1 0).bind λy2=>
 (getI a0.aj y2).bind λy3=>
 (KG y3 a1.ah).bind λv4=>
 if(!v4.2)then
  YI a0 a1 a2 y3 v4 true
 else
  req (0<=(1:Int)/\(1:Int)<=(v1.length:Int)/\(v1.length:Int)<=(v1.length:Int))<|
  (VK (A6 v1 1 (v1.length:Int)) a2).bind λv8=>
  YI a0 a1 a2 y3 v4 (!v8)
def V2(a0:Ag)(a1:BG):Option (Ag × Bool):=
 (Gb a0.ab (λy0_=>kP y0_ a1)).bind λv1=>
 if(decide (v1<0))then
  some ((⟨[],[],[]⟩:Ag),false)
 else
  (getI a0.ab v1).bind λy2=>
  if((a1.az==1)&&(a1.ak==0))then
   (Y6 a0 y2 a1.bz).bind λv3=>
   some (v3.1,v3.2)
  else
   if((a1.az==2)&&(a1.bz==0))then
    (YV a0 y2 a1.ak).bind λv4=>
    some (v4.1,v4.2)
   else
    if(((a1.az==3)&&(a1.bz==0))&&(a1.ak==0))then
     (PJ a0 y2).bind λv5=>
     some (v5.1,v5.2)
    else
     if((a1.az==4)&&(a1.ak==0))then
      (PH a0 y2 a1.bz).bind λv6=>
      some (v6.1,v6.2)
     else
      some ((⟨[],[],[]⟩:Ag),false)
def PV(a1:List BG)(v3:Int)(v4:List (Af))(v5:List Ai)(v6:List Ak)(v7:List Bool):Option ((Int × List (Af) × List Ai × List Ak × List Bool) ⊕ Option (Ag × List Bool × Bool)):=
 if(decide (v3<(a1.length:Int)))then
  (getI a1 v3).bind λy8=>
  (V2 (⟨v4,v5,v6⟩:Ag) y8).bind λv9=>
  if v9.2 then
   req (RM (((v7).length:Int)+(([v9.2]:List Bool).length:Int)) 1)<|
   some (.inl ((IntKind.i64.wrap (v3+1)),v9.1.aw,v9.1.aj,v9.1.ab,(v7++ [v9.2])))
  else
   req (RM (((v7).length:Int)+(([v9.2]:List Bool).length:Int)) 1)<|
   some (.inl ((IntKind.i64.wrap (v3+1)),v4,v5,v6,(v7++ [v9.2])))
 else
  some (.inr (some ((⟨v4,v5,v6⟩:Ag),v7,true)))
def ZM(a0:Ag)(a1:List BG):Option (Ag × List Bool × Bool):=
 (SB a0).bind λv1=>
 if((!v1)||(decide ((a1.length:Int)>80)))then
  some ((⟨[],[],[]⟩:Ag),[],false)
 else
  (SQ a0).bind λv2=>
  Az (λs:Int × List (Af) × List Ai × List Ak × List Bool=>PV a1 s.1 s.2.1 s.2.2.1 s.2.2.2.1 s.2.2.2.2) (0,v2.aw,v2.aj,v2.ab,[])
def Qb(a0:Int):Option (Bool):=
 (Jf a0 0 100000).bind λv1=>
 some v1
def lL(a0:An):Option (Bool):=
 (Qc a0.ao).bind λv1=>
 if v1 then
  (Jf (a0.bc.length:Int) 1 16).bind λv2=>
  some v2
 else
  some false
def P1(a0:An)(v3:Int):Option ((Int) ⊕ Option (Bool)):=
 if(decide (v3<(a0.bc.length:Int)))then
  (getI a0.bc v3).bind λy4=>
  (N5 y4.ak).bind λv5=>
  if v5 then
   (Wg a0.ao y4.bw y4.bk).bind λv6=>
   if(decide (v3>0))then
    if v6 then
     (getI a0.bc (IntKind.i64.wrap (v3-1))).bind λy7=>
     if(decide (y7.ak>=y4.ak))then
      some (.inr (some false))
     else
      some (.inl (IntKind.i64.wrap (v3+1)))
    else
     some (.inr (some false))
   else
    if((!v6)||false)then
     some (.inr (some false))
    else
     some (.inl (IntKind.i64.wrap (v3+1)))
  else
   some (.inr (some false))
 else
  some (.inr (lL a0))
def Z6(a0:An):Option (Bool):=
 Az (λs:Int=>P1 a0 s) 0
def mF(a0:List An):Option (Bool):=
 some (decide ((a0.length:Int)<=24))
def P4(a0:List An)(v1:Int):Option ((Int) ⊕ Option (Bool)):=
 if(decide (v1<(a0.length:Int)))then
  (getI a0 v1).bind λy2=>
  (Z6 y2).bind λv3=>
  if(decide (v1>0))then
   if v3 then
    (getI a0 (IntKind.i64.wrap (v1-1))).bind λy4=>
    if(!Op.bytesLess y4.ao y2.ao)then
     some (.inr (some false))
    else
     some (.inl (IntKind.i64.wrap (v1+1)))
   else
    some (.inr (some false))
  else
   if((!v3)||false)then
    some (.inr (some false))
   else
    some (.inl (IntKind.i64.wrap (v1+1)))
 else
  some (.inr (mF a0))
def Wu(a0:List An):Option (Bool):=
 Az (λs:Int=>P4 a0 s) 0
def PR(a0:AL):Option (AS):=
 some (⟨1,a0.ah,a0.ak,a0.bj,a0.ar,a0.af,false⟩:AS)
def kX(a0:List Ar)(a1:Af)(v1:Int):Option ((Int) ⊕ Option (Bool)):=
 if(decide (v1<(a0.length:Int)))then
  (getI a0 v1).bind λy2=>
  if(y2.ao==a1)then
   some (.inr (some true))
  else
   some (.inl (IntKind.i64.wrap (v1+1)))
 else
  some (.inr (some false))
def Wn(a0:List Ar)(a1:Af):Option (Bool):=
 Az (λs:Int=>kX a0 a1 s) 0
def mE(a0:List (Af))(a1:Af)(v1:Int):Option ((Int) ⊕ Option (Bool)):=
 if(decide (v1<(a0.length:Int)))then
  (getI a0 v1).bind λy2=>
  if(y2==a1)then
   some (.inr (some true))
  else
   some (.inl (IntKind.i64.wrap (v1+1)))
 else
  some (.inr (some false))
def aA(a0:List (Af))(a1:Af):Option (Bool):=
 Az (λs:Int=>mE a0 a1 s) 0
def kU(a0:AL)(a2:List Ar)(v1:Int):Option ((Int) ⊕ Option (Bool)):=
 if(decide (v1<(a2.length:Int)))then
  (getI a2 v1).bind λy2=>
  (Wn a0.af y2.ao).bind λv3=>
  if v3 then
   some (.inr (some false))
  else
   (aA a0.ar y2.ao).bind λv4=>
   if v4 then
    some (.inr (some false))
   else
    some (.inl (IntKind.i64.wrap (v1+1)))
 else
  some (.inr (some true))
def Zb(a0:AL)(a2:List Ar):Option (Bool):=
 Az (λs:Int=>kU a0 a2 s) 0
def kY(a0:AL)(a1:List (Af))(a2:List Ar)(v5:Int):Option ((Int) ⊕ Option (Bool)):=
 if(decide (v5<(a1.length:Int)))then
  (getI a1 v5).bind λy6=>
  (Wn a0.af y6).bind λv7=>
  if v7 then
   some (.inr (some false))
  else
   some (.inl (IntKind.i64.wrap (v5+1)))
 else
  some (.inr (Zb a0 a2))
def SC(a0:AL)(a1:List (Af))(a2:List Ar):Option (Bool):=
 Az (λs:Int=>kY a0 a1 a2 s) 0
def mJ(a0:List An)(a1:Af)(v1:Int):Option ((Int) ⊕ Option (Int)):=
 if(decide (v1<(a0.length:Int)))then
  (getI a0 v1).bind λy2=>
  if(y2.ao==a1)then
   some (.inr (some v1))
  else
   some (.inl (IntKind.i64.wrap (v1+1)))
 else
  some (.inr (some (-1)))
def WB(a0:List An)(a1:Af):Option (Int):=
 Az (λs:Int=>mJ a0 a1 s) 0
def P8(a0:List An)(a1:Af):Option (Int):=
 (WB a0 a1).bind λv1=>
 if(decide (v1<0))then
  some 0
 else
  (getI a0 v1).bind λy2=>
  (getI y2.bc (IntKind.i64.wrap ((y2.bc.length:Int)-1))).bind λy3=>
  some y3.ak
def Zt(v3:List (Af)):Option (Bool):=
 some (decide ((v3.length:Int)<=24))
def Sv(a0:Ai)(v2:List Ar)(v4:List (Af))(v5:Int):Option ((List (Af) × Int) ⊕ Option (Bool)):=
 if(decide (v5<(v2.length:Int)))then
  (getI v2 v5).bind λy6=>
  (Mv v4 y6.ao).bind λv7=>
  (WB a0.aq y6.ao).bind λv8=>
  if(decide (v8>=0))then
   (getI a0.aq v8).bind λy9=>
   if(decide ((y9.bc.length:Int)>=16))then
    some (.inr (some false))
   else
    some (.inl (v7,(IntKind.i64.wrap (v5+1))))
  else
   some (.inl (v7,(IntKind.i64.wrap (v5+1))))
 else
  some (.inr (Zt v4))
def lR(a0:Ai)(v1:List (Af))(v2:List Ar):Option (Bool):=
 Az (λs:List (Af) × Int=>Sv a0 v2 s.1 s.2) (v1,0)
def Sl(a0:Ai)(v1:List (Af))(v10:Int)(v11:List Ar):Option ((Int × List Ar) ⊕ Option (Bool)):=
 if(decide (v10<(a0.ae.length:Int)))then
  (getI a0.ae v10).bind λy12=>
  req (RM (((v11).length:Int)+((y12.af).length:Int)) 40)<|
  some (.inl ((IntKind.i64.wrap (v10+1)),(v11++y12.af)))
 else
  some (.inr (lR a0 v1 v11))
def lQ(a0:Ai)(a1:List Ar)(v1:List (Af)):Option (Bool):=
 req (RM ((([]:List Ar).length:Int)+((a1).length:Int)) 40)<|
 Az (λs:Int × List Ar=>Sl a0 v1 s.1 s.2) (0,a1)
def Sh(a0:Ai)(a1:List Ar)(v13:List (Af))(v14:Int):Option ((List (Af) × Int) ⊕ Option (Bool)):=
 if(decide (v14<(a0.aq.length:Int)))then
  (getI a0.aq v14).bind λy15=>
  (Mv v13 y15.ao).bind λv16=>
  some (.inl (v16,(IntKind.i64.wrap (v14+1))))
 else
  some (.inr (lQ a0 a1 v13))
def Wj(a0:Ai)(a1:List Ar):Option (Bool):=
 Az (λs:List (Af) × Int=>Sh a0 a1 s.1 s.2) ([],0)
def VZ(a0:Ai):Option (Bool):=
 if(decide ((a0.ae.length:Int)<=12))then
  (Wj a0 ([]:List Ar)).bind λv1=>
  some v1
 else
  some false
def VY(v2:Int):Option ((Int) ⊕ Option (Bool)):=
 some (.inl (IntKind.i64.wrap (v2+1)))
def KL(a0:Ai)(v2:Int)(y3:AL)(v7:Int):Option ((Int) ⊕ Option ((Int) ⊕ Option (Bool))):=
 if(decide (v7<(y3.af.length:Int)))then
  (getI y3.af v7).bind λy8=>
  (P8 a0.aq y8.ao).bind λv9=>
  if(decide (v9>=y3.ak))then
   some (.inr (some (.inr (some false))))
  else
   some (.inl (IntKind.i64.wrap (v7+1)))
 else
  some (.inr (VY v2))
def Lm(a0:Ai)(v2:Int)(y3:AL):Option ((Int) ⊕ Option (Bool)):=
 Az (λs:Int=>KL a0 v2 y3 s) 0
def JI(a0:Ai)(v2:Int)(y3:AL)(v10:Int):Option ((Int) ⊕ Option ((Int) ⊕ Option (Bool))):=
 if(decide (v10<((A6 a0.ae 0 v2).length:Int)))then
  (getI (A6 a0.ae 0 v2) v10).bind λy11=>
  (SC y11 y3.ar y3.af).bind λv12=>
  if(!v12)then
   some (.inr (some (.inr (some false))))
  else
   some (.inl (IntKind.i64.wrap (v10+1)))
 else
  some (.inr (Lm a0 v2 y3))
def lT(v2:Int):Option ((Int) ⊕ Option (Bool)):=
 some (.inl (IntKind.i64.wrap (v2+1)))
def Sw(a0:Ai)(v2:Int)(y3:AL)(v13:Int):Option ((Int) ⊕ Option ((Int) ⊕ Option (Bool))):=
 if(decide (v13<(y3.af.length:Int)))then
  (getI y3.af v13).bind λy14=>
  (P8 a0.aq y14.ao).bind λv15=>
  if(decide (v15>=y3.ak))then
   some (.inr (some (.inr (some false))))
  else
   some (.inl (IntKind.i64.wrap (v13+1)))
 else
  some (.inr (lT v2))
def Sc(a0:Ai)(v2:Int)(y3:AL):Option ((Int) ⊕ Option (Bool)):=
 Az (λs:Int=>Sw a0 v2 y3 s) 0
def PG(a0:Ai)(v2:Int)(y3:AL)(v16:Int):Option ((Int) ⊕ Option ((Int) ⊕ Option (Bool))):=
 if(decide (v16<((A6 a0.ae 0 v2).length:Int)))then
  (getI (A6 a0.ae 0 v2) v16).bind λy17=>
  (SC y17 y3.ar y3.af).bind λv18=>
  if(!v18)then
   some (.inr (some (.inr (some false))))
  else
   some (.inl (IntKind.i64.wrap (v16+1)))
 else
  some (.inr (Sc a0 v2 y3))
def KP(a0:Ai)(v2:Int):Option ((Int) ⊕ Option (Bool)):=
 if(decide (v2<(a0.ae.length:Int)))then
  (getI a0.ae v2).bind λy3=>
  (PR y3).bind λv4=>
  (Mx v4).bind λv5=>
  if(decide (v2>0))then
   if v5 then
    if(decide (y3.ak>a0.ax))then
     some (.inr (some false))
    else
     (getI a0.ae (IntKind.i64.wrap (v2-1))).bind λy6=>
     if(decide (y6.ah>=y3.ah))then
      some (.inr (some false))
     else
      req (0<=(0:Int)/\(0:Int)<=v2/\v2<=(a0.ae.length:Int))<|
      Az (λs:Int=>JI a0 v2 y3 s) 0
   else
    some (.inr (some false))
  else
   if(((!v5)||(decide (y3.ak>a0.ax)))||false)then
    some (.inr (some false))
   else
    req (0<=(0:Int)/\(0:Int)<=v2/\v2<=(a0.ae.length:Int))<|
    Az (λs:Int=>PG a0 v2 y3 s) 0
 else
  some (.inr (VZ a0))
def SN(a0:Ai):Option (Bool):=
 Az (λs:Int=>KP a0 s) 0
def lE(a0:Ai)(a1 v1:Int):Option ((Int) ⊕ Option (AL × Bool)):=
 if(decide (v1<(a0.ae.length:Int)))then
  (getI a0.ae v1).bind λy2=>
  if(y2.ah==a1)then
   some (.inr (some (y2,true)))
  else
   some (.inl (IntKind.i64.wrap (v1+1)))
 else
  some (.inr (some ((⟨0,0,0,[],[]⟩:AL),false)))
def Jd(a0:Ai)(a1:Int):Option (AL × Bool):=
 Az (λs:Int=>lE a0 a1 s) 0
def KN(a0:Ai)(v4:Int):Option ((Int) ⊕ Option (Bool)):=
 if(decide (v4<(a0.au.length:Int)))then
  (getI a0.au v4).bind λy5=>
  (Jf y5.ah 1 60).bind λv6=>
  if(decide (v4>0))then
   if v6 then
    (getI a0.au (IntKind.i64.wrap (v4-1))).bind λy7=>
    if y5.bf then
     if(decide (y7.ah>=y5.ah))then
      some (.inr (some false))
     else
      (Jf y5.ak 1 a0.ax).bind λv8=>
      if((!v8)||false)then
       some (.inr (some false))
      else
       (Jd a0 y5.ah).bind λv9=>
       if v9.2 then
        some (.inr (some false))
       else
        some (.inl (IntKind.i64.wrap (v4+1)))
    else
     if(((decide (y7.ah>=y5.ah))||false)||(y5.ak !=0))then
      some (.inr (some false))
     else
      (Jd a0 y5.ah).bind λv10=>
      if v10.2 then
       some (.inr (some false))
      else
       some (.inl (IntKind.i64.wrap (v4+1)))
   else
    some (.inr (some false))
  else
   if y5.bf then
    if v6 then
     (Jf y5.ak 1 a0.ax).bind λv11=>
     if((!v11)||false)then
      some (.inr (some false))
     else
      (Jd a0 y5.ah).bind λv12=>
      if v12.2 then
       some (.inr (some false))
      else
       some (.inl (IntKind.i64.wrap (v4+1)))
    else
     some (.inr (some false))
   else
    if((((!v6)||false)||false)||(y5.ak !=0))then
     some (.inr (some false))
    else
     (Jd a0 y5.ah).bind λv13=>
     if v13.2 then
      some (.inr (some false))
     else
      some (.inl (IntKind.i64.wrap (v4+1)))
 else
  some (.inr (some true))
def Sj(a0:Ai):Option (Bool):=
 Az (λs:Int=>KN a0 s) 0
def KO(a0:Ai)(v14:Int):Option ((Int) ⊕ Option (Bool)):=
 if(decide (v14<(a0.aq.length:Int)))then
  (getI a0.aq v14).bind λy15=>
  (P8 a0.aq y15.ao).bind λv16=>
  if(decide (v16>a0.ax))then
   some (.inr (some false))
  else
   some (.inl (IntKind.i64.wrap (v14+1)))
 else
  some (.inr (Sj a0))
def Mt(a0:Ai):Option (Bool):=
 (Qb a0.ax).bind λv1=>
 if v1 then
  (Wu a0.aq).bind λv2=>
  if v2 then
   (SN a0).bind λv3=>
   if((!v3)||(decide ((a0.au.length:Int)>60)))then
    some false
   else
    Az (λs:Int=>KO a0 s) 0
  else
   some false
 else
  some false
def ZB(a0:Ag):Option (Bool):=
 (Wf a0.aw).bind λv1=>
 if v1 then
  if((a0.aj.length:Int)==(IntKind.i64.wrap ((a0.aw.length:Int)+1)))then
   (V6 a0.ab).bind λv2=>
   some v2
  else
   some false
 else
  some false
def Sk(a0:Ag)(v3:Int):Option ((Int) ⊕ Option (Bool)):=
 if(decide (v3<(a0.aj.length:Int)))then
  (getI a0.aj v3).bind λy4=>
  (Mt y4).bind λv5=>
  if(!v5)then
   some (.inr (some false))
  else
   some (.inl (IntKind.i64.wrap (v3+1)))
 else
  some (.inr (ZB a0))
def SP(a0:Ag):Option (Bool):=
 Az (λs:Int=>Sk a0 s) 0
def SU(a0 v1:List An)(v2:Int):Option ((List An × Int) ⊕ Option (List An)):=
 if(decide (v2<(a0.length:Int)))then
  (getI a0 v2).bind λy3=>
  req (RM ((([]:List Dc).length:Int)+((y3.bc).length:Int)) 32)<|
  req (RM (((v1).length:Int)+(([y3]:List An).length:Int)) 40)<|
  some (.inl ((v1++ [y3]),(IntKind.i64.wrap (v2+1))))
 else
  some (.inr (some v1))
def Wz(a0:List An):Option (List An):=
 Az (λs:List An × Int=>SU a0 s.1 s.2) ([],0)
def Zu(a0:AL):Option (AL):=
 (Iw a0.ar).bind λv1=>
 req (RM ((([]:List Ar).length:Int)+((a0.af).length:Int)) 40)<|
 some (⟨a0.ah,a0.ak,a0.bj,v1,a0.af⟩:AL)
def SL(a0:Ai)(v1:List An)(v2:Int)(v3:List AL):Option ((Int × List AL) ⊕ Option (Ai)):=
 if(decide (v2<(a0.ae.length:Int)))then
  (getI a0.ae v2).bind λy4=>
  (Zu y4).bind λv5=>
  req (RM (((v3).length:Int)+(([v5]:List AL).length:Int)) 72)<|
  some (.inl ((IntKind.i64.wrap (v2+1)),(v3++ [v5])))
 else
  some (.inr (some (⟨a0.ax,v1,v3,a0.au⟩:Ai)))
def Wt(a0:Ai):Option (Ai):=
 (Wz a0.aq).bind λv1=>
 req (RM ((([]:List A8).length:Int)+((a0.au).length:Int)) 24)<|
 Az (λs:Int × List AL=>SL a0 v1 s.1 s.2) (0,[])
def SJ(a0:Ag)(v1:List (Af))(v2:List Ak)(v3:Int)(v4:List Ai):Option ((Int × List Ai) ⊕ Option (Ag)):=
 if(decide (v3<(a0.aj.length:Int)))then
  (getI a0.aj v3).bind λy5=>
  (Wt y5).bind λv6=>
  req (RM (((v4).length:Int)+(([v6]:List Ai).length:Int)) 80)<|
  some (.inl ((IntKind.i64.wrap (v3+1)),(v4++ [v6])))
 else
  some (.inr (some (⟨v1,v4,v2⟩:Ag)))
def SW(a0:Ag):Option (Ag):=
 (Iw a0.aw).bind λv1=>
 (ZX a0.ab).bind λv2=>
 Az (λs:Int × List Ai=>SJ a0 v1 v2 s.1 s.2) (0,[])
def lG(a0:Ai)(a1 v1:Int):Option ((Int) ⊕ Option (A8 × Bool)):=
 if(decide (v1<(a0.au.length:Int)))then
  (getI a0.au v1).bind λy2=>
  if(y2.ah==a1)then
   some (.inr (some (y2,true)))
  else
   some (.inl (IntKind.i64.wrap (v1+1)))
 else
  some (.inr (some ((⟨0,false,0⟩:A8),false)))
def P0(a0:Ai)(a1:Int):Option (A8 × Bool):=
 Az (λs:Int=>lG a0 a1 s) 0
def Sy(a0:List Int)(a1 v1:Int):Option ((Int) ⊕ Option (Bool)):=
 if(decide (v1<(a0.length:Int)))then
  (getI a0 v1).bind λy2=>
  if(y2==a1)then
   some (.inr (some true))
  else
   some (.inl (IntKind.i64.wrap (v1+1)))
 else
  some (.inr (some false))
def Wy(a0:List Int)(a1:Int):Option (Bool):=
 Az (λs:Int=>Sy a0 a1 s) 0
def KR(a0 a1:Int):Option (Int):=
 if(decide (a0>a1))then
  some a0
 else
  some a1
def Y9(a0:Ai)(a1:Int):Option (Int × Bool):=
 (Mt a0).bind λv1=>
 if v1 then
  (Qb a1).bind λv2=>
  if v2 then
   (KR a0.ax a1).bind λv3=>
   if(v3==100000)then
    some (0,false)
   else
    (KR a0.ax a1).bind λv4=>
    some ((IntKind.i64.wrap (v4+1)),true)
  else
   some (0,false)
 else
  some (0,false)
def RE(a0:List (Af))(a2:List Ar)(a3:Int)(v1:List (Af))(v2:List Ar)(v3:Int):Option ((List Ar × Int) ⊕ Option (List (Af) × List Ar)):=
 if(decide (v3<(a2.length:Int)))then
  (getI a2 v3).bind λy4=>
  (SM a0 y4.ao).bind λv5=>
  if(v5==a3)then
   req (RM (((v2).length:Int)+(([y4]:List Ar).length:Int)) 40)<|
   some (.inl ((v2++ [y4]),(IntKind.i64.wrap (v3+1))))
  else
   some (.inl (v2,(IntKind.i64.wrap (v3+1))))
 else
  some (.inr (some (v1,v2)))
def lH(a0:List (Af))(a2:List Ar)(a3:Int)(v1:List (Af)):Option (List (Af) × List Ar):=
 Az (λs:List Ar × Int=>RE a0 a2 a3 v1 s.1 s.2) ([],0)
def RA(a0:List (Af))(a1:List (Af))(a2:List Ar)(a3:Int)(v6:List (Af))(v7:Int):Option ((List (Af) × Int) ⊕ Option (List (Af) × List Ar)):=
 if(decide (v7<(a1.length:Int)))then
  (getI a1 v7).bind λy8=>
  (SM a0 y8).bind λv9=>
  if(v9==a3)then
   req (RM (((v6).length:Int)+(([y8]:List (Af)).length:Int)) 16)<|
   some (.inl ((v6++ [y8]),(IntKind.i64.wrap (v7+1))))
  else
   some (.inl (v6,(IntKind.i64.wrap (v7+1))))
 else
  some (.inr (lH a0 a2 a3 v6))
def mB(a0:List (Af))(a1:List (Af))(a2:List Ar)(a3:Int):Option (List (Af) × List Ar):=
 Az (λs:List (Af) × Int=>RA a0 a1 a2 a3 s.1 s.2) ([],0)
def V7(a1:Ak)(a2:BG)(y2 v9:Int):Option (AS × Int × Bool):=
 if(a2.bz==0)then
  (Qb a2.ak).bind λv10=>
  some ((⟨2,a1.ah,v9,0,[],[],true⟩:AS),y2,v10)
 else
  some ((⟨2,a1.ah,v9,0,[],[],true⟩:AS),y2,false)
def P3(a0:Ag)(a1:Ak)(a2:BG)(v1:List Int)(y2 v11 v12:Int):Option ((Int × Int) ⊕ Option (AS × Int × Bool)):=
 if(decide (v12<(v1.length:Int)))then
  (getI v1 v12).bind λy13=>
  (getI a0.aj y13).bind λy14=>
  (Jd y14 a1.ah).bind λv15=>
  if(!v15.2)then
   some (.inr (some ((⟨0,0,0,0,[],[],false⟩:AS),0,false)))
  else
   (KR v11 v15.1.ak).bind λv16=>
   some (.inl (v16,(IntKind.i64.wrap (v12+1))))
 else
  some (.inr (V7 a1 a2 y2 v11))
def aD(a0:Ag)(a1:Ak)(a2:BG):Option (AS × Int × Bool):=
 (Ln a0.aw a1).bind λv1=>
 (getI v1 0).bind λy2=>
 (getI a0.aj y2).bind λy3=>
 (P0 y3 a1.ah).bind λv4=>
 if(a2.az==1)then
  if v4.2 then
   some ((⟨0,0,0,0,[],[],false⟩:AS),0,false)
  else
   if(a2.ak !=0)then
    some ((⟨0,0,0,0,[],[],false⟩:AS),0,false)
   else
    (Wy v1 a2.bz).bind λv5=>
    if(!v5)then
     some ((⟨0,0,0,0,[],[],false⟩:AS),0,false)
    else
     (getI a0.aj a2.bz).bind λy6=>
     (Y9 y6 0).bind λv7=>
     (mB a0.aw a1.ar a1.af a2.bz).bind λv8=>
     some ((⟨1,a1.ah,v7.1,y2,v8.1,v8.2,false⟩:AS),a2.bz,v7.2)
 else
  if(a2.az==2)then
   Az (λs:Int × Int=>P3 a0 a1 a2 v1 y2 s.1 s.2) (a2.ak,0)
  else
   if(a2.az==3)then
    some ((⟨2,a1.ah,0,0,[],[],false⟩:AS),y2,((a2.bz==0)&&(a2.ak==0)))
   else
    if(a2.az==4)then
     if v4.2 then
      if(a2.ak==0)then
       if(a2.bz !=y2)then
        (Wy v1 a2.bz).bind λv17=>
        some ((⟨3,a1.ah,v4.1.ak,0,[],[],v4.1.bf⟩:AS),a2.bz,v17)
       else
        some ((⟨3,a1.ah,v4.1.ak,0,[],[],v4.1.bf⟩:AS),a2.bz,false)
      else
       some ((⟨3,a1.ah,v4.1.ak,0,[],[],v4.1.bf⟩:AS),a2.bz,false)
     else
      some ((⟨3,a1.ah,v4.1.ak,0,[],[],v4.1.bf⟩:AS),a2.bz,false)
    else
     some ((⟨3,a1.ah,v4.1.ak,0,[],[],v4.1.bf⟩:AS),a2.bz,false)
def YW(a0:List AL)(a1:AL)(v1:Int):Option (List AL):=
 req (0<=v1/\v1<=(a0.length:Int)/\(a0.length:Int)<=(a0.length:Int))<|
 req (0<=v1/\v1<=(a0.length:Int)/\(a0.length:Int)<=(a0.length:Int))<|
 req (RM ((([]:List AL).length:Int)+(((A6 a0 v1 (a0.length:Int))).length:Int)) 72)<|
 req (0<=(0:Int)/\(0:Int)<=v1/\v1<=(a0.length:Int))<|
 req (RM ((([]:List AL).length:Int)+(((A6 a0 0 v1)).length:Int)) 72)<|
 req (RM ((((A6 a0 0 v1)).length:Int)+(([a1]:List AL).length:Int)) 72)<|
 req (RM (((((A6 a0 0 v1)++ [a1])).length:Int)+(((A6 a0 v1 (a0.length:Int))).length:Int)) 72)<|
 some (((A6 a0 0 v1)++ [a1])++(A6 a0 v1 (a0.length:Int)))
def kL(a0:List AL)(a1:AL)(v2:Int):Option ((Int) ⊕ Option (List AL)):=
 if(decide (v2>0))then
  (getI a0 (IntKind.i64.wrap (v2-1))).bind λy3=>
  if(decide (y3.ah>a1.ah))then
   some (.inl (IntKind.i64.wrap (v2-1)))
  else
   some (.inr (YW a0 a1 v2))
 else
  some (.inr (YW a0 a1 v2))
def Zz(a0:List AL)(a1:AL):Option (List AL):=
 Az (λs:Int=>kL a0 a1 s) (a0.length:Int)
def Zy(a0:Ai)(a2:List Ar):Option (Bool):=
 if(decide ((a0.ae.length:Int)<12))then
  (Wj a0 a2).bind λv1=>
  some v1
 else
  some false
def lV(a0:Ai)(a1:List (Af))(a2:List Ar)(v2:Int):Option ((Int) ⊕ Option (Bool)):=
 if(decide (v2<(a0.ae.length:Int)))then
  (getI a0.ae v2).bind λy3=>
  (SC y3 a1 a2).bind λv4=>
  if(!v4)then
   some (.inr (some false))
  else
   some (.inl (IntKind.i64.wrap (v2+1)))
 else
  some (.inr (Zy a0 a2))
def ZZ(a0:Ai)(a1:List (Af))(a2:List Ar):Option (Bool):=
 Az (λs:Int=>lV a0 a1 a2 s) 0
def ZE(v2:List An):Option (List An × Bool):=
 (Wu v2).bind λv3=>
 some (v2,v3)
def Sz(a2 v4:Int)(v5:List An)(y6:Ar)(v7:Int):Option ((Int × List An) ⊕ Option (List An × Bool)):=
 if(decide (v7>0))then
  (getI v5 (IntKind.i64.wrap (v7-1))).bind λy8=>
  if(y8.ao==y6.ao)then
   (P8 v5 y6.ao).bind λv9=>
   if(decide (v9>=a2))then
    some (.inr (some ([],false)))
   else
    req (RM (((y8.bc).length:Int)+(([(⟨a2,y6.bw,y6.bk⟩:Dc)]:List Dc).length:Int)) 32)<|
    some (.inl ((IntKind.i64.wrap (v4+1)),(v5.set ((IntKind.i64.wrap (v7-1))).toNat {y8 with bc:=(y8.bc++ [(⟨a2,y6.bw,y6.bk⟩:Dc)])})))
  else
   req (0<=v7/\v7<=(v5.length:Int)/\(v5.length:Int)<=(v5.length:Int))<|
   req (0<=v7/\v7<=(v5.length:Int)/\(v5.length:Int)<=(v5.length:Int))<|
   req (RM ((([]:List An).length:Int)+(((A6 v5 v7 (v5.length:Int))).length:Int)) 40)<|
   req (0<=(0:Int)/\(0:Int)<=v7/\v7<=(v5.length:Int))<|
   req (RM ((([]:List An).length:Int)+(((A6 v5 0 v7)).length:Int)) 40)<|
   req (RM ((((A6 v5 0 v7)).length:Int)+(([(⟨y6.ao,[(⟨a2,y6.bw,y6.bk⟩:Dc)]⟩:An)]:List An).length:Int)) 40)<|
   req (RM (((((A6 v5 0 v7)++ [(⟨y6.ao,[(⟨a2,y6.bw,y6.bk⟩:Dc)]⟩:An)])).length:Int)+(((A6 v5 v7 (v5.length:Int))).length:Int)) 40)<|
   some (.inl ((IntKind.i64.wrap (v4+1)),(((A6 v5 0 v7)++ [(⟨y6.ao,[(⟨a2,y6.bw,y6.bk⟩:Dc)]⟩:An)])++(A6 v5 v7 (v5.length:Int)))))
 else
  req (0<=v7/\v7<=(v5.length:Int)/\(v5.length:Int)<=(v5.length:Int))<|
  req (0<=v7/\v7<=(v5.length:Int)/\(v5.length:Int)<=(v5.length:Int))<|
  req (RM ((([]:List An).length:Int)+(((A6 v5 v7 (v5.length:Int))).length:Int)) 40)<|
  req (0<=(0:Int)/\(0:Int)<=v7/\v7<=(v5.length:Int))<|
  req (RM ((([]:List An).length:Int)+(((A6 v5 0 v7)).length:Int)) 40)<|
  req (RM ((((A6 v5 0 v7)).length:Int)+(([(⟨y6.ao,[(⟨a2,y6.bw,y6.bk⟩:Dc)]⟩:An)]:List An).length:Int)) 40)<|
  req (RM (((((A6 v5 0 v7)++ [(⟨y6.ao,[(⟨a2,y6.bw,y6.bk⟩:Dc)]⟩:An)])).length:Int)+(((A6 v5 v7 (v5.length:Int))).length:Int)) 40)<|
  some (.inl ((IntKind.i64.wrap (v4+1)),(((A6 v5 0 v7)++ [(⟨y6.ao,[(⟨a2,y6.bw,y6.bk⟩:Dc)]⟩:An)])++(A6 v5 v7 (v5.length:Int)))))
def PW(a2 v4:Int)(v5:List An)(y6:Ar)(v10:Int):Option ((Int) ⊕ Option ((Int × List An) ⊕ Option (List An × Bool))):=
 if(decide (v10>0))then
  (getI v5 (IntKind.i64.wrap (v10-1))).bind λy11=>
  if(!(Op.bytesLess y11.ao y6.ao||y11.ao==y6.ao))then
   some (.inl (IntKind.i64.wrap (v10-1)))
  else
   some (.inr (Sz a2 v4 v5 y6 v10))
 else
  some (.inr (Sz a2 v4 v5 y6 v10))
def Sx(a1:List Ar)(a2 v4:Int)(v5:List An):Option ((Int × List An) ⊕ Option (List An × Bool)):=
 if(decide (v4<(a1.length:Int)))then
  (getI a1 v4).bind λy6=>
  Az (λs:Int=>PW a2 v4 v5 y6 s) (v5.length:Int)
 else
  some (.inr (ZE v5))
def Z4(a0:List An)(a1:List Ar)(a2:Int):Option (List An × Bool):=
 (Wz a0).bind λv1=>
 Az (λs:Int × List An=>Sx a1 a2 s.1 s.2) (0,v1)
def Y3(a0:List A8)(a1:A8)(v1:Int):Option (List A8):=
 req (0<=v1/\v1<=(a0.length:Int)/\(a0.length:Int)<=(a0.length:Int))<|
 req (RM ((([]:List A8).length:Int)+(((A6 a0 v1 (a0.length:Int))).length:Int)) 24)<|
 req (0<=(0:Int)/\(0:Int)<=v1/\v1<=(a0.length:Int))<|
 req (RM ((([]:List A8).length:Int)+(((A6 a0 0 v1)).length:Int)) 24)<|
 req (RM ((((A6 a0 0 v1)).length:Int)+(([a1]:List A8).length:Int)) 24)<|
 req (RM (((((A6 a0 0 v1)++ [a1])).length:Int)+(((A6 a0 v1 (a0.length:Int))).length:Int)) 24)<|
 some (((A6 a0 0 v1)++ [a1])++(A6 a0 v1 (a0.length:Int)))
def kO(a0:List A8)(a1:A8)(v2:Int):Option ((Int) ⊕ Option (List A8)):=
 if(decide (v2>0))then
  (getI a0 (IntKind.i64.wrap (v2-1))).bind λy3=>
  if(decide (y3.ah>a1.ah))then
   some (.inl (IntKind.i64.wrap (v2-1)))
  else
   some (.inr (Y3 a0 a1 v2))
 else
  some (.inr (Y3 a0 a1 v2))
def V0(a0:List A8)(a1:A8):Option (List A8):=
 Az (λs:Int=>kO a0 a1 s) (a0.length:Int)
def Wr(a0:Ai)(a1:AS):Option (Ai × Bool):=
 (Wt a0).bind λv1=>
 (Jd a0 a1.ah).bind λv2=>
 (P0 a0 a1.ah).bind λv3=>
 if(a1.az==4)then
  some ((⟨a1.ak,v1.aq,v1.ae,v1.au⟩:Ai),(decide (a1.ak>a0.ax)))
 else
  if v3.2 then
   some (v1,false)
  else
   if(a1.az==1)then
    (Iw a1.ar).bind λv4=>
    req (RM ((([]:List Ar).length:Int)+((a1.af).length:Int)) 40)<|
    (Zz v1.ae (⟨a1.ah,a1.ak,a1.bj,v4,a1.af⟩:AL)).bind λv5=>
    if v2.2 then
     some ((⟨a1.ak,v1.aq,v5,v1.au⟩:Ai),false)
    else
     if(decide (a1.ak>a0.ax))then
      (ZZ a0 a1.ar a1.af).bind λv6=>
      some ((⟨a1.ak,v1.aq,v5,v1.au⟩:Ai),v6)
     else
      some ((⟨a1.ak,v1.aq,v5,v1.au⟩:Ai),false)
   else
    if a1.bf then
     if((!v2.2)||(decide (v2.1.ak>a1.ak)))then
      some (v1,false)
     else
      (Z4 a0.aq v2.1.af a1.ak).bind λv7=>
      if(!v7.2)then
       some (v1,false)
      else
       (KR a0.ax a1.ak).bind λv8=>
       (SO v1.ae a1.ah).bind λv9=>
       (V0 v1.au (⟨a1.ah,a1.bf,a1.ak⟩:A8)).bind λv10=>
       some ((⟨v8,v7.1,v9,v10⟩:Ai),true)
    else
     (SO v1.ae a1.ah).bind λv11=>
     (V0 v1.au (⟨a1.ah,a1.bf,a1.ak⟩:A8)).bind λv12=>
     some ((⟨v1.ax,v1.aq,v11,v12⟩:Ai),true)
def ZF(a0:Ai)(a1:AS):Option (Ai × Bool):=
 (Mt a0).bind λv1=>
 if v1 then
  (Mx a1).bind λv2=>
  if(!v2)then
   some ((⟨0,[],[],[]⟩:Ai),false)
  else
   (Wr a0 a1).bind λv3=>
   if(!v3.2)then
    some ((⟨0,[],[],[]⟩:Ai),false)
   else
    some (v3.1,true)
 else
  some ((⟨0,[],[],[]⟩:Ai),false)
def Wi(a0:Ag)(a1:BG):Option (Ag × Bool):=
 (Ww a0 a1.ah).bind λv1=>
 if(decide (v1<0))then
  some ((⟨[],[],[]⟩:Ag),false)
 else
  (getI a0.ab v1).bind λy2=>
  (aD a0 y2 a1).bind λv3=>
  if(!v3.2.2)then
   some ((⟨[],[],[]⟩:Ag),false)
  else
   (getI a0.aj v3.2.1).bind λy4=>
   (ZF y4 v3.1).bind λv5=>
   if(!v5.2)then
    some ((⟨[],[],[]⟩:Ag),false)
   else
    (SW a0).bind λv6=>
    (getI v6.aj v3.2.1).bind λy7=>
    some ((⟨v6.aw,(v6.aj.set (v3.2.1).toNat v5.1),v6.ab⟩:Ag),true)
def Sn(a1:List BG)(v2:List Bool)(v3:Int)(v4:List (Af))(v5:List Ai)(v6:List Ak):Option ((List Bool × Int × List (Af) × List Ai × List Ak) ⊕ Option (Ag × List Bool)):=
 if(decide (v3<(a1.length:Int)))then
  (getI a1 v3).bind λy7=>
  (Wi (⟨v4,v5,v6⟩:Ag) y7).bind λv8=>
  if v8.2 then
   req (RM (((v2).length:Int)+(([v8.2]:List Bool).length:Int)) 1)<|
   some (.inl ((v2++ [v8.2]),(IntKind.i64.wrap (v3+1)),v8.1.aw,v8.1.aj,v8.1.ab))
  else
   req (RM (((v2).length:Int)+(([v8.2]:List Bool).length:Int)) 1)<|
   some (.inl ((v2++ [v8.2]),(IntKind.i64.wrap (v3+1)),v4,v5,v6))
 else
  some (.inr (some ((⟨v4,v5,v6⟩:Ag),v2)))
def P5(a0:Ag)(a1:List BG):Option (Ag × List Bool):=
 (SW a0).bind λv1=>
 Az (λs:List Bool × Int × List (Af) × List Ai × List Ak=>Sn a1 s.1 s.2.1 s.2.2.1 s.2.2.2.1 s.2.2.2.2) ([],0,v1.aw,v1.aj,v1.ab)
def yC(a0:Ag)(a1:List BG):Option (Ag × List Bool × Bool):=
 (SP a0).bind λv1=>
 if((!v1)||(decide ((a1.length:Int)>80)))then
  some ((⟨[],[],[]⟩:Ag),[],false)
 else
  (P5 a0 a1).bind λv2=>
  some (v2.1,v2.2,true)
def RJ(a0:List (Af))(a1:List (Af))(v1:Int):Option ((Int) ⊕ Option (Bool)):=
 if(decide (v1<(a0.length:Int)))then
  (getI a0 v1).bind λy2=>
  (getI a1 v1).bind λy3=>
  if(y2 !=y3)then
   some (.inr (some false))
  else
   some (.inl (IntKind.i64.wrap (v1+1)))
 else
  some (.inr (some true))
def Wc(a0:List (Af))(a1:List (Af)):Option (Bool):=
 if((a0.length:Int) !=(a1.length:Int))then
  some false
 else
  Az (λs:Int=>RJ a0 a1 s) 0
def xM(v1:Int):Option ((Int) ⊕ Option (Bool)):=
 some (.inl (IntKind.i64.wrap (v1+1)))
def R6(v1:Int)(y2 y3:An)(v4:Int):Option ((Int) ⊕ Option ((Int) ⊕ Option (Bool))):=
 if(decide (v4<(y2.bc.length:Int)))then
  (getI y2.bc v4).bind λy5=>
  (getI y3.bc v4).bind λy6=>
  if(!(y5.ak==y6.ak&&(y5.bw==y6.bw&&(y5.bk==y6.bk))))then
   some (.inr (some (.inr (some false))))
  else
   some (.inl (IntKind.i64.wrap (v4+1)))
 else
  some (.inr (xM v1))
def RV(a0 a1:List An)(v1:Int):Option ((Int) ⊕ Option (Bool)):=
 if(decide (v1<(a0.length:Int)))then
  (getI a0 v1).bind λy2=>
  (getI a1 v1).bind λy3=>
  if((y2.ao !=y3.ao)||((y2.bc.length:Int) !=(y3.bc.length:Int)))then
   some (.inr (some false))
  else
   Az (λs:Int=>R6 v1 y2 y3 s) 0
 else
  some (.inr (some true))
def ZP(a0 a1:List An):Option (Bool):=
 if((a0.length:Int) !=(a1.length:Int))then
  some false
 else
  Az (λs:Int=>RV a0 a1 s) 0
def Sf(a0:List (Af))(a1:List (Af))(v1:Int):Option ((Int) ⊕ Option (Bool)):=
 if(decide (v1<(a0.length:Int)))then
  (getI a0 v1).bind λy2=>
  (getI a1 v1).bind λy3=>
  if(y2 !=y3)then
   some (.inr (some false))
  else
   some (.inl (IntKind.i64.wrap (v1+1)))
 else
  some (.inr (some true))
def Z3(a0:List (Af))(a1:List (Af)):Option (Bool):=
 if((a0.length:Int) !=(a1.length:Int))then
  some false
 else
  Az (λs:Int=>Sf a0 a1 s) 0
def Si(a0 a1:List Ar)(v1:Int):Option ((Int) ⊕ Option (Bool)):=
 if(decide (v1<(a0.length:Int)))then
  (getI a0 v1).bind λy2=>
  (getI a1 v1).bind λy3=>
  if(!(y2.ao==y3.ao&&(y2.bw==y3.bw&&(y2.bk==y3.bk))))then
   some (.inr (some false))
  else
   some (.inl (IntKind.i64.wrap (v1+1)))
 else
  some (.inr (some true))
def ZS(a0 a1:List Ar):Option (Bool):=
 if((a0.length:Int) !=(a1.length:Int))then
  some false
 else
  Az (λs:Int=>Si a0 a1 s) 0
def Z0(a0 a1:AS):Option (Bool):=
 if(a0.az==a1.az)then
  if(a0.ah==a1.ah)then
   if(a0.ak==a1.ak)then
    if(a0.bj==a1.bj)then
     if(a0.bf==a1.bf)then
      (Z3 a0.ar a1.ar).bind λv1=>
      if v1 then
       (ZS a0.af a1.af).bind λv2=>
       some v2
      else
       some false
     else
      some false
    else
     some false
   else
    some false
  else
   some false
 else
  some false
def RG(a0 a1:Ai)(v2:Int):Option ((Int) ⊕ Option (Bool)):=
 if(decide (v2<(a0.au.length:Int)))then
  (getI a0.au v2).bind λy3=>
  (getI a1.au v2).bind λy4=>
  if(!(y3.ah==y4.ah&&(y3.bf==y4.bf&&(y3.ak==y4.ak))))then
   some (.inr (some false))
  else
   some (.inl (IntKind.i64.wrap (v2+1)))
 else
  some (.inr (some true))
def xG(a0 a1:Ai):Option (Bool):=
 Az (λs:Int=>RG a0 a1 s) 0
def RS(a0 a1:Ai)(v5:Int):Option ((Int) ⊕ Option (Bool)):=
 if(decide (v5<(a0.ae.length:Int)))then
  (getI a0.ae v5).bind λy6=>
  (PR y6).bind λv7=>
  (getI a1.ae v5).bind λy8=>
  (PR y8).bind λv9=>
  (Z0 v7 v9).bind λv10=>
  if(!v10)then
   some (.inr (some false))
  else
   some (.inl (IntKind.i64.wrap (v5+1)))
 else
  some (.inr (xG a0 a1))
def Zr(a0 a1:Ai):Option (Bool):=
 if(a0.ax !=a1.ax)then
  some false
 else
  (ZP a0.aq a1.aq).bind λv1=>
  if(((!v1)||((a0.ae.length:Int) !=(a1.ae.length:Int)))||((a0.au.length:Int) !=(a1.au.length:Int)))then
   some false
  else
   Az (λs:Int=>RS a0 a1 s) 0
def Rr(a0 a1:List Ar)(v1:Int):Option ((Int) ⊕ Option (Bool)):=
 if(decide (v1<(a0.length:Int)))then
  (getI a0 v1).bind λy2=>
  (getI a1 v1).bind λy3=>
  if(!(y2.ao==y3.ao&&(y2.bw==y3.bw&&(y2.bk==y3.bk))))then
   some (.inr (some false))
  else
   some (.inl (IntKind.i64.wrap (v1+1)))
 else
  some (.inr (some true))
def Zc(a0 a1:List Ar):Option (Bool):=
 if((a0.length:Int) !=(a1.length:Int))then
  some false
 else
  Az (λs:Int=>Rr a0 a1 s) 0
def RN(a0 a1:Ag)(v2:Int):Option ((Int) ⊕ Option (Bool)):=
 if(decide (v2<(a0.ab.length:Int)))then
  (getI a0.ab v2).bind λy3=>
  (getI a1.ab v2).bind λy4=>
  if(y3.ah !=y4.ah)then
   some (.inr (some false))
  else
   (Wc y3.ar y4.ar).bind λv5=>
   if v5 then
    (Zc y3.af y4.af).bind λv6=>
    if(!v6)then
     some (.inr (some false))
    else
     some (.inl (IntKind.i64.wrap (v2+1)))
   else
    some (.inr (some false))
 else
  some (.inr (some true))
def xJ(a0 a1:Ag):Option (Bool):=
 Az (λs:Int=>RN a0 a1 s) 0
def RQ(a0 a1:Ag)(v7:Int):Option ((Int) ⊕ Option (Bool)):=
 if(decide (v7<(a0.aj.length:Int)))then
  (getI a0.aj v7).bind λy8=>
  (getI a1.aj v7).bind λy9=>
  (Zr y8 y9).bind λv10=>
  if(!v10)then
   some (.inr (some false))
  else
   some (.inl (IntKind.i64.wrap (v7+1)))
 else
  some (.inr (xJ a0 a1))
def Wa(a0 a1:Ag):Option (Bool):=
 (Wc a0.aw a1.aw).bind λv1=>
 if(((!v1)||((a0.aj.length:Int) !=(a1.aj.length:Int)))||((a0.ab.length:Int) !=(a1.ab.length:Int)))then
  some false
 else
  Az (λs:Int=>RQ a0 a1 s) 0
def Wl(a0:A8)(a1:List A8)(a2:Int):Option (Bool):=
 (getI a1 0).bind λy1=>
 some ((!(a0.ah==y1.ah&&(a0.bf==y1.bf&&(a0.ak==y1.ak))))||(a0.bf&&(decide (a2>0))))
def lJ(v1:Int)(v2:List A8):Option (Bool):=
 (DR v2 (λy0_=>Wl y0_ v2 v1)).bind λv3=>
 some (!v3)
def SI(a0:List Ai)(a1 v4 v5:Int)(v6:List A8):Option ((Int × Int × List A8) ⊕ Option (Bool)):=
 if(decide (v4<(a0.length:Int)))then
  (getI a0 v4).bind λy7=>
  (KG y7 a1).bind λv8=>
  if v8.2 then
   (getI y7.au v8.1).bind λy9=>
   req (RM (((v6).length:Int)+(([y9]:List A8).length:Int)) 24)<|
   some (.inl ((IntKind.i64.wrap (v4+1)),v5,(v6++ [y9])))
  else
   (JJ y7 a1).bind λv10=>
   if(!v10.2)then
    some (.inl ((IntKind.i64.wrap (v4+1)),(IntKind.i64.wrap (v5+1)),v6))
   else
    some (.inl ((IntKind.i64.wrap (v4+1)),v5,v6))
 else
  some (.inr (lJ v5 v6))
def mO(a0:List Ai)(a1:Int):Option (Bool):=
 Az (λs:Int × Int × List A8=>SI a0 a1 s.1 s.2.1 s.2.2) (0,0,[])
def lF(v2:Int)(y3:Ak)(v5:List Ai):Option ((Int) ⊕ Option (Bool × Bool)):=
 (mO v5 y3.ah).bind λv6=>
 if(!v6)then
  some (.inr (some (false,true)))
 else
  some (.inl (IntKind.i64.wrap (v2+1)))
def RP(a0:Ag)(v2:Int)(y3:Ak)(v4:List Int)(v7:Int)(v8:List Ai):Option ((Int × List Ai) ⊕ Option ((Int) ⊕ Option (Bool × Bool))):=
 if(decide (v7<(v4.length:Int)))then
  (getI v4 v7).bind λy9=>
  (getI a0.aj y9).bind λy10=>
  req (RM (((v8).length:Int)+(([y10]:List Ai).length:Int)) 80)<|
  some (.inl ((IntKind.i64.wrap (v7+1)),(v8++ [y10])))
 else
  some (.inr (lF v2 y3 v8))
def RW(a0:Ag)(v2:Int):Option ((Int) ⊕ Option (Bool × Bool)):=
 if(decide (v2<(a0.ab.length:Int)))then
  (getI a0.ab v2).bind λy3=>
  (KJ a0 y3).bind λv4=>
  Az (λs:Int × List Ai=>RP a0 v2 y3 v4 s.1 s.2) (0,[])
 else
  some (.inr (some (true,true)))
def PX(a0:Ag):Option (Bool × Bool):=
 (SB a0).bind λv1=>
 if(!v1)then
  some (false,false)
 else
  Az (λs:Int=>RW a0 s) 0
def xA(v1 v2:Int × AT)(v3 v4:Int × AT)(v6:List Int)(v7 v8:Int)(v9:List (Af)):Option (AS × AT):=
 (VO (⟨v6,v7,v8⟩:AT)).bind λv10=>
 if((IntKind.i64.wrap ((v9.length:Int)+(v10.1.length:Int)))==0)then
  some ((⟨(IntKind.i64.wrap ((1:Int)+v1.1)),(IntKind.i64.wrap ((1:Int)+v2.1)),(IntKind.i64.wrap ((1:Int)+v3.1)),v4.1,[([97]:Af)],v10.1,false⟩:AS),(⟨v10.2.bp,v10.2.dh,v10.2.bq⟩:AT))
 else
  some ((⟨(IntKind.i64.wrap ((1:Int)+v1.1)),(IntKind.i64.wrap ((1:Int)+v2.1)),(IntKind.i64.wrap ((1:Int)+v3.1)),v4.1,v9,v10.1,false⟩:AS),(⟨v10.2.bp,v10.2.dh,v10.2.bq⟩:AT))
def kG(v1 v2:Int × AT)(v3 v4:Int × AT)(v11:Int)(v12:List Int)(v13 v14:Int)(v15:List (Af)):Option ((Int × List Int × Int × Int × List (Af)) ⊕ Option (AS × AT)):=
 if(decide (v11>0))then
  (VS (⟨v12,v13,v14⟩:AT)).bind λv16=>
  (Mv v15 v16.1).bind λv17=>
  some (.inl ((IntKind.i64.wrap (v11-1)),v16.2.bp,v16.2.dh,v16.2.bq,v17))
 else
  some (.inr (xA v1 v2 v3 v4 v12 v13 v14 v15))
def Zl(a0:AT):Option (AS × AT):=
 (Fq a0 4).bind λv1=>
 (Fq v1.2 4).bind λv2=>
 (Fq v2.2 30).bind λv3=>
 if((IntKind.i64.wrap ((1:Int)+v1.1))==1)then
  (Fq v3.2 2).bind λv4=>
  (Fq v4.2 3).bind λv5=>
  Az (λs:Int × List Int × Int × Int × List (Af)=>kG v1 v2 v3 v4 s.1 s.2.1 s.2.2.1 s.2.2.2.1 s.2.2.2.2) (v5.1,v5.2.bp,v5.2.dh,v5.2.bq,[])
 else
  if((IntKind.i64.wrap ((1:Int)+v1.1))==4)then
   some ((⟨(IntKind.i64.wrap ((1:Int)+v1.1)),0,(IntKind.i64.wrap ((1:Int)+v3.1)),0,[],[],false⟩:AS),(⟨v3.2.bp,v3.2.dh,v3.2.bq⟩:AT))
  else
   (NY v3.2 2).bind λv18=>
   if(!v18.1)then
    some ((⟨(IntKind.i64.wrap ((1:Int)+v1.1)),(IntKind.i64.wrap ((1:Int)+v2.1)),0,0,[],[],v18.1⟩:AS),(⟨v18.2.bp,v18.2.dh,v18.2.bq⟩:AT))
   else
    some ((⟨(IntKind.i64.wrap ((1:Int)+v1.1)),(IntKind.i64.wrap ((1:Int)+v2.1)),(IntKind.i64.wrap ((1:Int)+v3.1)),0,[],[],v18.1⟩:AS),(⟨v18.2.bp,v18.2.dh,v18.2.bq⟩:AT))
def YU(v2:List AS)(v3 v4:Int)(v8:AS × AT)(v9:Int × AT)(v10:Int):Option ((List AS × Int × Int × List Int × Int × Int) ⊕ Option (List AS × AT)):=
 if(((v8.1.az==2)||(v8.1.az==3))&&(decide ((v2.length:Int)>0)))then
  (Fq v9.2 (v2.length:Int)).bind λv11=>
  (getI v2 v11.1).bind λy12=>
  if(y12.az==1)then
   req (RM (((v2).length:Int)+(([(⟨v8.1.az,y12.ah,v10,v8.1.bj,v8.1.ar,v8.1.af,v8.1.bf⟩:AS)]:List AS).length:Int)) 88)<|
   some (.inl ((v2++ [(⟨v8.1.az,y12.ah,v10,v8.1.bj,v8.1.ar,v8.1.af,v8.1.bf⟩:AS)]),(IntKind.i64.wrap (v3+(IntKind.i64.wrap ((1:Int)+v9.1)))),(IntKind.i64.wrap (v4-1)),v11.2.bp,v11.2.dh,v11.2.bq))
  else
   req (RM (((v2).length:Int)+(([(⟨v8.1.az,v8.1.ah,v10,v8.1.bj,v8.1.ar,v8.1.af,v8.1.bf⟩:AS)]:List AS).length:Int)) 88)<|
   some (.inl ((v2++ [(⟨v8.1.az,v8.1.ah,v10,v8.1.bj,v8.1.ar,v8.1.af,v8.1.bf⟩:AS)]),(IntKind.i64.wrap (v3+(IntKind.i64.wrap ((1:Int)+v9.1)))),(IntKind.i64.wrap (v4-1)),v11.2.bp,v11.2.dh,v11.2.bq))
 else
  req (RM (((v2).length:Int)+(([(⟨v8.1.az,v8.1.ah,v10,v8.1.bj,v8.1.ar,v8.1.af,v8.1.bf⟩:AS)]:List AS).length:Int)) 88)<|
  some (.inl ((v2++ [(⟨v8.1.az,v8.1.ah,v10,v8.1.bj,v8.1.ar,v8.1.af,v8.1.bf⟩:AS)]),(IntKind.i64.wrap (v3+(IntKind.i64.wrap ((1:Int)+v9.1)))),(IntKind.i64.wrap (v4-1)),v9.2.bp,v9.2.dh,v9.2.bq))
def kJ(v2:List AS)(v3 v4:Int)(v5:List Int)(v6 v7:Int):Option ((List AS × Int × Int × List Int × Int × Int) ⊕ Option (List AS × AT)):=
 if(decide (v4>0))then
  (Zl (⟨v5,v6,v7⟩:AT)).bind λv8=>
  (Fq v8.2 3).bind λv9=>
  if(decide (v8.1.ak>0))then
   YU v2 v3 v4 v8 v9 (IntKind.i64.wrap (v3+(IntKind.i64.wrap ((1:Int)+v9.1))))
  else
   YU v2 v3 v4 v8 v9 v8.1.ak
 else
  some (.inr (some (v2,(⟨v5,v6,v7⟩:AT))))
def YX(a0:AT):Option (List AS × AT):=
 (Fq a0 12).bind λv1=>
 Az (λs:List AS × Int × Int × List Int × Int × Int=>kJ s.1 s.2.1 s.2.2.1 s.2.2.2.1 s.2.2.2.2.1 s.2.2.2.2.2) ([],0,v1.1,v1.2.bp,v1.2.dh,v1.2.bq)
def SS(a0:List AS)(v1:List Bool)(v2 v3:Int)(v4:List An)(v5:List AL)(v6:List A8):Option ((List Bool × Int × Int × List An × List AL × List A8) ⊕ Option (Ai × List Bool)):=
 if(decide (v2<(a0.length:Int)))then
  (getI a0 v2).bind λy7=>
  (Wr (⟨v3,v4,v5,v6⟩:Ai) y7).bind λv8=>
  if v8.2 then
   req (RM (((v1).length:Int)+(([v8.2]:List Bool).length:Int)) 1)<|
   some (.inl ((v1++ [v8.2]),(IntKind.i64.wrap (v2+1)),v8.1.ax,v8.1.aq,v8.1.ae,v8.1.au))
  else
   req (RM (((v1).length:Int)+(([v8.2]:List Bool).length:Int)) 1)<|
   some (.inl ((v1++ [v8.2]),(IntKind.i64.wrap (v2+1)),v3,v4,v5,v6))
 else
  some (.inr (some ((⟨v3,v4,v5,v6⟩:Ai),v1)))
def aJ(a0:List AS):Option (Ai × List Bool):=
 Az (λs:List Bool × Int × Int × List An × List AL × List A8=>SS a0 s.1 s.2.1 s.2.2.1 s.2.2.2.1 s.2.2.2.2.1 s.2.2.2.2.2) ([],0,0,[],[],[])
def kQ(a0:AT):Option (Ai × AT):=
 (YX a0).bind λv1=>
 (aJ v1.1).bind λv2=>
 some (v2.1,v1.2)
def YJ(a0:AT):Option (Ai × AT):=
 (kQ a0).bind λv1=>
 (Fq v1.2 25).bind λv2=>
 if(v2.1==0)then
  (Rq v2.2 ([0,1,100000,100001]:List Int)).bind λv3=>
  some ((⟨v3.1,v1.1.aq,v1.1.ae,v1.1.au⟩:Ai),(⟨v3.2.bp,v3.2.dh,v3.2.bq⟩:AT))
 else
  if(v2.1==1)then
   if(decide ((v1.1.ae.length:Int)>0))then
    (Rq v2.2 ([0,1,100]:List Int)).bind λv4=>
    (getI v1.1.ae 0).bind λy5=>
    some ((⟨v1.1.ax,v1.1.aq,(v1.1.ae.set ((0:Int)).toNat {y5 with ak:=v4.1}),v1.1.au⟩:Ai),(⟨v4.2.bp,v4.2.dh,v4.2.bq⟩:AT))
   else
    some ((⟨v1.1.ax,v1.1.aq,v1.1.ae,v1.1.au⟩:Ai),(⟨v2.2.bp,v2.2.dh,v2.2.bq⟩:AT))
  else
   if(v2.1==2)then
    if(decide ((v1.1.au.length:Int)>0))then
     (getI v1.1.au 0).bind λy6=>
     req (RM (((v1.1.au).length:Int)+(([y6]:List A8).length:Int)) 24)<|
     some ((⟨v1.1.ax,v1.1.aq,v1.1.ae,(v1.1.au++ [y6])⟩:Ai),(⟨v2.2.bp,v2.2.dh,v2.2.bq⟩:AT))
    else
     some ((⟨v1.1.ax,v1.1.aq,v1.1.ae,v1.1.au⟩:Ai),(⟨v2.2.bp,v2.2.dh,v2.2.bq⟩:AT))
   else
    some ((⟨v1.1.ax,v1.1.aq,v1.1.ae,v1.1.au⟩:Ai),(⟨v2.2.bp,v2.2.dh,v2.2.bq⟩:AT))
def VV(a0:AT):Option (Ag × AT):=
 (VN a0).bind λv1=>
 (P5 v1.1.1 v1.1.2).bind λv2=>
 (Fq v1.2 25).bind λv3=>
 if(v3.1==0)then
  (YJ v3.2).bind λv4=>
  (getI v2.1.aj 0).bind λy5=>
  some ((⟨v2.1.aw,(v2.1.aj.set ((0:Int)).toNat v4.1),v2.1.ab⟩:Ag),(⟨v4.2.bp,v4.2.dh,v4.2.bq⟩:AT))
 else
  if(v3.1==1)then
   some ((⟨[([122]:Af),([97]:Af)],v2.1.aj,v2.1.ab⟩:Ag),(⟨v3.2.bp,v3.2.dh,v3.2.bq⟩:AT))
  else
   if(v3.1==2)then
    req (0<=(1:Int)/\(1:Int)<=(v2.1.aj.length:Int)/\(v2.1.aj.length:Int)<=(v2.1.aj.length:Int))<|
    some ((⟨v2.1.aw,(A6 v2.1.aj 1 (v2.1.aj.length:Int)),v2.1.ab⟩:Ag),(⟨v3.2.bp,v3.2.dh,v3.2.bq⟩:AT))
   else
    some ((⟨v2.1.aw,v2.1.aj,v2.1.ab⟩:Ag),(⟨v3.2.bp,v3.2.dh,v3.2.bq⟩:AT))
def xK(a0:List Int):Option (Ag × BG):=
 (VV (⟨a0,0,0⟩:AT)).bind λv1=>
 (VH v1.2 v1.1).bind λv2=>
 some (v1.1,v2.1)
def Zh(a0:Int)(a1:Ag)(a2:Ak):Option (Bool):=
 (getI a1.aj a0).bind λy1=>
 (JJ y1 a2.ah).bind λv2=>
 some v2.2
def Ze(a0:Ag)(a1:Bool)(a2:Ag):Option (Unit × Ag):=
 if a1 then
  some ((),a0)
 else
  some ((),a2)
def YZ(v3:Int)(v16:List (Af))(v17:List Ai)(v18:List Ak):Option ((Int × List (Af) × List Ai × List Ak) ⊕ Option (Ag × Bool)):=
 some (.inl ((IntKind.i64.wrap (v3+1)),v16,v17,v18))
def R4(v3:Int)(y7:Ak)(v8:List Int)(v19:Int)(v20:List (Af))(v21:List Ai)(v22:List Ak):Option ((Int × List (Af) × List Ai × List Ak) ⊕ Option ((Int × List (Af) × List Ai × List Ak) ⊕ Option (Ag × Bool))):=
 if(decide (v19<((A6 v8 1 (v8.length:Int)).length:Int)))then
  (getI (A6 v8 1 (v8.length:Int)) v19).bind λy23=>
  (PH (⟨v20,v21,v22⟩:Ag) y7 y23).bind λv24=>
  (Ze v24.1 v24.2 (⟨v20,v21,v22⟩:Ag)).bind λv25=>
  some (.inl ((IntKind.i64.wrap (v19+1)),v25.2.aw,v25.2.aj,v25.2.ab))
 else
  some (.inr (YZ v3 v20 v21 v22))
def VU(v3:Int)(y7:Ak)(v8:List Int)(v13:List (Af))(v14:List Ai)(v15:List Ak):Option ((Int × List (Af) × List Ai × List Ak) ⊕ Option (Ag × Bool)):=
 req (0<=(1:Int)/\(1:Int)<=(v8.length:Int)/\(v8.length:Int)<=(v8.length:Int))<|
 Az (λs:Int × List (Af) × List Ai × List Ak=>R4 v3 y7 v8 s.1 s.2.1 s.2.2.1 s.2.2.2) (0,v13,v14,v15)
def RZ(a0:Ag)(v3:Int)(v4:List (Af))(v5:List Ai)(v6:List Ak):Option ((Int × List (Af) × List Ai × List Ak) ⊕ Option (Ag × Bool)):=
 if(decide (v3<(a0.ab.length:Int)))then
  (getI a0.ab v3).bind λy7=>
  (KJ (⟨v4,v5,v6⟩:Ag) y7).bind λv8=>
  (getI v8 0).bind λy9=>
  (getI v5 y9).bind λy10=>
  (KG y10 y7.ah).bind λv11=>
  (DR v8 (λy0_=>Zh y0_ (⟨v4,v5,v6⟩:Ag) y7)).bind λv12=>
  if((!v11.2)&&v12)then
   (PJ (⟨v4,v5,v6⟩:Ag) y7).bind λv26=>
   (Ze v26.1 v26.2 (⟨v4,v5,v6⟩:Ag)).bind λv27=>
   VU v3 y7 v8 v27.2.aw v27.2.aj v27.2.ab
  else
   VU v3 y7 v8 v4 v5 v6
 else
  some (.inr (some ((⟨v4,v5,v6⟩:Ag),true)))
def NU(a0:Ag):Option (Ag × Bool):=
 (SB a0).bind λv1=>
 if(!v1)then
  some ((⟨[],[],[]⟩:Ag),false)
 else
  (SQ a0).bind λv2=>
  Az (λs:Int × List (Af) × List Ai × List Ak=>RZ a0 s.1 s.2.1 s.2.2.1 s.2.2.2) (0,v2.aw,v2.aj,v2.ab)
def Zn(a0:Ai)(a1:Int):Option (A8 × Bool):=
 (P2 a0).bind λv1=>
 if(!v1)then
  some ((⟨0,false,0⟩:A8),false)
 else
  (KG a0 a1).bind λv2=>
  if(!v2.2)then
   some ((⟨0,false,0⟩:A8),false)
  else
   (getI a0.au v2.1).bind λy3=>
   some (y3,true)
def VR(a0:List Int):Option (Ag):=
 (VV (⟨a0,0,0⟩:AT)).bind λv1=>
 some v1.1
def kR(a0:List Int):Option (Ag):=
 (VR a0).bind λv1=>
 some v1
def kK(v3:Int)(v4:List (Af))(v5:List Ai)(v6:List Ak)(v11:List BG):Option ((Int × List (Af) × List Ai × List Ak) ⊕ Option (Ag × Bool)):=
 (P5 (⟨v4,v5,v6⟩:Ag) v11).bind λv12=>
 some (.inl ((IntKind.i64.wrap (v3+1)),v12.1.aw,v12.1.aj,v12.1.ab))
def R1(v3:Int)(v4:List (Af))(v5:List Ai)(v6:List Ak)(y7:Ak)(v8:List Int)(v13:Int)(v14:List BG):Option ((Int × List BG) ⊕ Option ((Int × List (Af) × List Ai × List Ak) ⊕ Option (Ag × Bool))):=
 if(decide (v13<((A6 v8 1 (v8.length:Int)).length:Int)))then
  (getI (A6 v8 1 (v8.length:Int)) v13).bind λy15=>
  req (RM (((v14).length:Int)+(([(⟨4,y7.ah,y15,0⟩:BG)]:List BG).length:Int)) 32)<|
  some (.inl ((IntKind.i64.wrap (v13+1)),(v14++ [(⟨4,y7.ah,y15,0⟩:BG)])))
 else
  some (.inr (kK v3 v4 v5 v6 v14))
def Y1(v3:Int)(v4:List (Af))(v5:List Ai)(v6:List Ak)(y7:Ak)(v8:List Int)(v10:List BG):Option ((Int × List (Af) × List Ai × List Ak) ⊕ Option (Ag × Bool)):=
 req (0<=(1:Int)/\(1:Int)<=(v8.length:Int)/\(v8.length:Int)<=(v8.length:Int))<|
 Az (λs:Int × List BG=>R1 v3 v4 v5 v6 y7 v8 s.1 s.2) (0,v10)
def Y2(v3:Int)(v4:List (Af))(v5:List Ai)(v6:List Ak)(y7:Ak)(v8:List Int)(v9:Bool):Option ((Int × List (Af) × List Ai × List Ak) ⊕ Option (Ag × Bool)):=
 (getI v8 0).bind λy16=>
 (getI v5 y16).bind λy17=>
 (P0 y17 y7.ah).bind λv18=>
 if(v9&&(!v18.2))then
  req (RM ((([]:List BG).length:Int)+(([(⟨3,y7.ah,0,0⟩:BG)]:List BG).length:Int)) 32)<|
  Y1 v3 v4 v5 v6 y7 v8 [(⟨3,y7.ah,0,0⟩:BG)]
 else
  Y1 v3 v4 v5 v6 y7 v8 []
def R2(v3:Int)(v4:List (Af))(v5:List Ai)(v6:List Ak)(y7:Ak)(v8:List Int)(v19:Bool)(v20:Int):Option ((Bool × Int) ⊕ Option ((Int × List (Af) × List Ai × List Ak) ⊕ Option (Ag × Bool))):=
 if(decide (v20<(v8.length:Int)))then
  (getI v8 v20).bind λy21=>
  (getI v5 y21).bind λy22=>
  (Jd y22 y7.ah).bind λv23=>
  some (.inl ((v19||v23.2),(IntKind.i64.wrap (v20+1))))
 else
  some (.inr (Y2 v3 v4 v5 v6 y7 v8 v19))
def R3(a0:Ag)(v3:Int)(v4:List (Af))(v5:List Ai)(v6:List Ak):Option ((Int × List (Af) × List Ai × List Ak) ⊕ Option (Ag × Bool)):=
 if(decide (v3<(a0.ab.length:Int)))then
  (getI a0.ab v3).bind λy7=>
  (Ln a0.aw y7).bind λv8=>
  Az (λs:Bool × Int=>R2 v3 v4 v5 v6 y7 v8 s.1 s.2) (false,0)
 else
  some (.inr (some ((⟨v4,v5,v6⟩:Ag),true)))
def Sm(a0:Ag):Option (Ag × Bool):=
 (SP a0).bind λv1=>
 if(!v1)then
  some ((⟨[],[],[]⟩:Ag),false)
 else
  (SW a0).bind λv2=>
  Az (λs:Int × List (Af) × List Ai × List Ak=>R3 a0 s.1 s.2.1 s.2.2.1 s.2.2.2) (0,v2.aw,v2.aj,v2.ab)
def kM(a0:List Int):Option (Ag):=
 (VR a0).bind λv1=>
 some v1
def NV(v1:List Int)(v2:Int)(v3:List A8)(v4:Int):Option ((Int) ⊕ Option (Bool)):=
 if(decide (v4<(v3.length:Int)))then
  (getI v3 v4).bind λy5=>
  (getI v3 0).bind λy6=>
  if((!(y5.ah==y6.ah&&(y5.bf==y6.bf&&(y5.ak==y6.ak))))||(y5.bf&&(decide ((IntKind.i64.wrap ((v3.length:Int)+v2))<(v1.length:Int)))))then
   some (.inr (some false))
  else
   some (.inl (IntKind.i64.wrap (v4+1)))
 else
  some (.inr (some true))
def Y8(v1:List Int)(v2:Int)(v3:List A8):Option (Bool):=
 Az (λs:Int=>NV v1 v2 v3 s) 0
def lA(a0:Ag)(a1:Ak)(v8 v9 y10:Int)(v11:List A8):Option ((List A8 × Int × Int) ⊕ Option (Bool)):=
 (getI a0.aj y10).bind λy12=>
 (Jd y12 a1.ah).bind λv13=>
 if v13.2 then
  some (.inl (v11,(IntKind.i64.wrap (v8+1)),(IntKind.i64.wrap (v9+1))))
 else
  some (.inl (v11,v8,(IntKind.i64.wrap (v9+1))))
def Rz(a0:Ag)(a1:Ak)(v1:List Int)(v7:List A8)(v8 v9:Int):Option ((List A8 × Int × Int) ⊕ Option (Bool)):=
 if(decide (v9<(v1.length:Int)))then
  (getI v1 v9).bind λy10=>
  (getI a0.aj y10).bind λy14=>
  (P0 y14 a1.ah).bind λv15=>
  if v15.2 then
   req (RM (((v7).length:Int)+(([v15.1]:List A8).length:Int)) 24)<|
   lA a0 a1 v8 v9 y10 (v7++ [v15.1])
  else
   lA a0 a1 v8 v9 y10 v7
 else
  some (.inr (Y8 v1 v8 v7))
def ZH(a0:Ag)(a1:Ak):Option (Bool):=
 (Ln a0.aw a1).bind λv1=>
 Az (λs:List A8 × Int × Int=>Rz a0 a1 v1 s.1 s.2.1 s.2.2) ([],0,0)
def RR(a0:Ag)(v2:Int):Option ((Int) ⊕ Option (Bool × Bool)):=
 if(decide (v2<(a0.ab.length:Int)))then
  (getI a0.ab v2).bind λy3=>
  (ZH a0 y3).bind λv4=>
  if(!v4)then
   some (.inr (some (false,true)))
  else
   some (.inl (IntKind.i64.wrap (v2+1)))
 else
  some (.inr (some (true,true)))
def Sa(a0:Ag):Option (Bool × Bool):=
 (SP a0).bind λv1=>
 if(!v1)then
  some (false,false)
 else
  Az (λs:Int=>RR a0 s) 0
def Y0(a1:List Int):Option (Bool):=
 (kR a1).bind λv4=>
 (NU v4).bind λv5=>
 (Sm v4).bind λv6=>
 (kM a1).bind λv7=>
 (PX v7).bind λv8=>
 (Sa v7).bind λv9=>
 if(v5.2==v6.2)then
  (Wa v5.1 v6.1).bind λv10=>
  some ((v10&&(v8.2==v9.2))&&(v8.1==v9.1))
 else
  some false
def xN(a1:List Int):Option (Bool):=
 Y0 a1
def xO(v15:Int):Option ((Int) ⊕ Option (Bool)):=
 some (.inl (IntKind.i64.wrap (v15+1)))
def RY(v15:Int)(y16 y17:Ai)(v18:Int):Option ((Int) ⊕ Option ((Int) ⊕ Option (Bool))):=
 if(decide (v18<(y17.au.length:Int)))then
  (getI y17.au v18).bind λy19=>
  (Zn y16 y19.ah).bind λv20=>
  if((!v20.2)||(!(v20.1.ah==y19.ah&&(v20.1.bf==y19.bf&&(v20.1.ak==y19.ak)))))then
   some (.inr (some (.inr (some false))))
  else
   some (.inl (IntKind.i64.wrap (v18+1)))
 else
  some (.inr (xO v15))
def R0(a1:List Int)(v3:Ag × List Bool × Bool)(v11:Ag × Bool)(v15:Int):Option ((Int) ⊕ Option (Bool)):=
 if(decide (v15<(v11.1.aj.length:Int)))then
  (getI v11.1.aj v15).bind λy16=>
  if(decide ((y16.ae.length:Int)>0))then
   some (.inr (some false))
  else
   (getI v3.1.aj v15).bind λy17=>
   Az (λs:Int=>RY v15 y16 y17 s) 0
 else
  some (.inr (xN a1))
def Zs(a0 a1:List Int):Option (Bool):=
 (nV a0 a1).bind λv1=>
 if v1 then
  some true
 else
  (Zm a0).bind λv2=>
  (ZM v2.1 v2.2).bind λv3=>
  if v3.2.2 then
   (NU v3.1).bind λv11=>
   (NU v11.1).bind λv12=>
   (PX v11.1).bind λv13=>
   if v11.2 then
    if v12.2 then
     (Wa v12.1 v11.1).bind λv14=>
     if((((!v14)||(!v13.2))||(!v13.1))||((v11.1.aj.length:Int) !=(v3.1.aj.length:Int)))then
      some false
     else
      Az (λs:Int=>R0 a1 v3 v11 s) 0
    else
     some false
   else
    some false
  else
   Y0 a1
def zh8:FS:=D4 302 [.v .s, .v (.i .u8)] (.v (.i .i64)) (λx=>YH x.1 x.2.1) λx r _ h=>zh5 x.1 x.2.1 r h
def x7:FS:=D4 154 [.v (.l (.st 4))] (.v (.l (.st 4))) (λx=>R9 x.1) λx r _ h=>zqK x.1 r h
def zs4:FS:=D4 248 [.v (.l (.st 1)), .v (.i .i64)] (.v (.l (.st 1))) (λx=>SO x.1 x.2.1) λx r _ h=>ztg x.1 x.2.1 r h
def zjU:FS:=D4 172 [.v (.l (.i .i64))] (.v (.l (.i .i64))) (λx=>YM x.1) λx r _ h=>zjK x.1 r h
def w5:FS:=D4 229 [.v (.l .s)] (.v (.l .s)) (λx=>Rl x.1) λx r _ h=>zhV x.1 r h
def w7:FS:=D4 228 [.v (.l .s)] (.tu (.cons (.tu .nil) (.cons (.v (.l .s)) .nil))) (λx=>Rk x.1) λx r _ h=>ziU x.1 r h
def zgz:FS:=D4 252 [.v (.l (.st 1)), .v (.i .i64), .v (.l (.st 1))] (.v (.l (.st 1))) (λx=>IA x.1 x.2.1 x.2.2.1) λx r hp h=>zx4 (t:=48) (it:=3) (el:=108) (K:=5) (l:=[.flat, .flat, .flat, .row 9 1 (AA.of [.flat]), .row 137 3 (AA.of [.flat, .flat, .flat])]) (by kernel_rfl) (λ_=>by kernel_rfl) zC8 h
def zgF:FS:=D4 281 [.v (.l (.st 1)), .v (.i .i64), .v (.i .i64)] (.v (.l (.st 1))) (λx=>W2 x.1 x.2.1 x.2.2.1) λx r hp h=>zAg (t:=48) (it:=3) (el:=108) (K:=5) (l:=[.flat, .flat, .flat, .row 9 1 (AA.of [.flat]), .row 137 3 (AA.of [.flat, .flat, .flat])]) (by kernel_rfl) (λ_=>by kernel_rfl) zDb h
def zgp:FS:=D4 282 [.v (.l (.st 2)), .v (.i .i64), .v (.l (.st 2))] (.v (.l (.st 2))) (λx=>IA x.1 x.2.1 x.2.2.1) λx r hp h=>zFu (t:=49) (it:=3) (el:=53) (K:=3) (by kernel_rfl) (λ_=>by kernel_rfl) zC7 h
def zgo:FS:=D4 306 [.v (.l (.st 4)), .v (.i .i64), .v (.l (.st 4))] (.v (.l (.st 4))) (λx=>IA x.1 x.2.1 x.2.2.1) λx r hp h=>zx4 (t:=47) (it:=3) (el:=146) (K:=2) (l:=[.flat, .row 198 3 (AA.of [.flat, .flat, .flat])]) (by kernel_rfl) (λ_=>by kernel_rfl) zCG h
def zzV:FS:=As 7 [.v (.l (.i .u8)), .v (.l (.i .u8))] (.v .b) (λx=>nV x.1 x.2.1) [] []
def zm9:FS:=As 153 [.rf (.st 5)] (.tu (.cons (.v (.i .i64)) (.cons (.v (.st 5)) .nil))) (λx=>VW x.1) [] [.inl]
def KH:FS:=As 90 [.rf (.st 5), .v (.i .i64)] (.tu (.cons (.v (.i .i64)) (.cons (.v (.st 5)) .nil))) (λx=>Fq x.1 x.2.1) [zm9] [.inl]
def zna:FS:=As 88 [.rf (.st 5)] (.tu (.cons (.v (.l .s)) (.cons (.v (.st 5)) .nil))) (λx=>YY x.1) [KH] []
def Zg:FS:=As 149 [.rf (.st 5), .v (.i .i64)] (.tu (.cons (.v .b) (.cons (.v (.st 5)) .nil))) (λx=>NY x.1 x.2.1) [KH] []
def xW:FS:=As 214 [.rf (.st 5), .v (.l .s)] (.tu (.cons (.v .s) (.cons (.v (.st 5)) .nil))) (λx=>V3 x.1 x.2.1) [KH] []
def zn1:FS:=As 264 [.rf (.st 5)] (.tu (.cons (.v .s) (.cons (.v (.st 5)) .nil))) (λx=>Zk x.1) [xW] []
def zms:FS:=As 213 [.rf (.st 5), .v .s] (.tu (.cons (.v (.st 0)) (.cons (.v (.st 5)) .nil))) (λx=>Y5 x.1 x.2.1) [Zg,zn1] []
def xF:FS:=As 150 [.rf (.st 5)] (.tu (.cons (.v (.l (.st 0))) (.cons (.v (.st 5)) .nil))) (λx=>VO x.1) [Zg,zms] [.sp [.l (.st 0), .i .i64, .l (.i .u8), .i .i64, .i .u64], .inl]
def xH:FS:=As 152 [.rf (.st 5)] (.tu (.cons (.v .s) (.cons (.v (.st 5)) .nil))) (λx=>VS x.1) [xW] []
def SY:FS:=As 129 [.v (.l .s)] (.v (.l .s)) (λx=>Iw x.1) [] []
def aB:FS:=As 151 [.v (.l .s), .v .s] (.v (.l .s)) (λx=>Mv x.1 x.2.1) [SY] [.sp [.i .i64]]
def zlY:FS:=As 89 [.rf (.st 5)] (.tu (.cons (.v (.l (.st 6))) (.cons (.v (.st 5)) .nil))) (λx=>YP x.1) [xF,KH,xH,aB,Zg] [.sp [.l (.st 6), .i .i64, .l (.i .u8), .i .i64, .i .u64], .pt, .sp [.i .i64, .l (.i .u8), .i .i64, .i .u64, .l .s], .inl]
def S5:FS:=As 165 [.v (.i .i64), .v (.i .i64), .v (.i .i64)] (.v .b) (λx=>Jf x.1 x.2.1 x.2.2.1) [] []
def yH:FS:=As 226 [.v .s, .v .s] (.v .b) (λx=>Wk x.1 x.2.1) [] [.sp [.i .i64], .sp [.b, .i .i64]]
def aH:FS:=As 166 [.v .s] (.v .b) (λx=>Qc x.1) [S5,yH] []
def yJ:FS:=As 99 [.v (.l .s)] (.v .b) (λx=>Wf x.1) [aH] [.sp [.i .i64]]
def yU:FS:=As 242 [.v (.i .i64)] (.v .b) (λx=>N5 x.1) [S5] []
def zuI:FS:=As 243 [.v (.l .s)] (.v .b) (λx=>Z9 x.1) [aH] [.sp [.i .i64]]
def zwB:FS:=As 290 [.v .s] (.v .b) (λx=>aG x.1) [yH] []
def yG:FS:=As 266 [.v .s, .v .s, .v .b] (.v .b) (λx=>Wg x.1 x.2.1 x.2.2.1) [aH,zwB] []
def zrY:FS:=As 244 [.v (.l (.st 0))] (.v .b) (λx=>ZG x.1) [yG] [.sp [.i .i64]]
def mN:FS:=As 190 [.v (.st 7)] (.v .b) (λx=>Mx x.1) [S5,yU,zuI,zrY] [.pt]
def zr3:FS:=As 167 [.v (.st 6)] (.v .b) (λx=>ZK x.1) [mN] []
def x8:FS:=As 100 [.v (.l (.st 6))] (.v .b) (λx=>V6 x.1) [zr3] [.sp [.i .i64], .sp [.i .i64]]
def yO:FS:=As 130 [.v (.l (.st 6))] (.v (.l (.st 6))) (λx=>ZX x.1) [SY] [.sp [.l (.st 6), .i .i64]]
def zs0:FS:=As 87 [.v (.l .s), .v (.l (.st 6))] (.tu (.cons (.v (.st 9)) (.cons (.v .b) .nil))) (λx=>Z1 x.1 x.2.1) [yJ,x8,SY,yO] []
def xC:FS:=As 117 [.rf (.st 5), .v (.l (.i .i64))] (.tu (.cons (.v (.i .i64)) (.cons (.v (.st 5)) .nil))) (λx=>Rq x.1 x.2.1) [KH] []
def yZ:FS:=As 118 [.v (.st 9), .v (.i .i64)] (.v (.i .i64)) (λx=>Ww x.1 x.2.1) [] [.sp [.i .i64]]
def zrW:FS:=As 133 [.v (.l .s), .v (.l (.st 0))] (.v (.l .s)) (λx=>ZC x.1 x.2.1) [aB] [.sp [.l .s, .i .i64], .sp [.l .s, .i .i64]]
def yN:FS:=As 198 [.v (.l .s), .v .s] (.v (.i .i64)) (λx=>SM x.1 x.2.1) [] [.sp [.i .i64]]
def zvB:FS:=As 197 [.v (.l (.i .i64)), .v (.i .i64)] (.v (.l (.i .i64))) (λx=>mZ x.1 x.2.1) [] [.sp [.i .i64]]
def zsD:FS:=As 132 [.v (.l .s), .v (.l .s)] (.v (.l (.i .i64))) (λx=>Wp x.1 x.2.1) [yN,zvB] [.sp [.l (.i .i64), .i .i64]]
def aI:FS:=As 67 [.v (.l .s), .v (.st 6)] (.v (.l (.i .i64))) (λx=>Ln x.1 x.2.1) [zrW,zsD] []
def zlz:FS:=As 56 [.rf (.st 5), .v (.st 9)] (.tu (.cons (.v (.st 10)) (.cons (.v (.st 5)) .nil))) (λx=>VH x.1 x.2.1) [xC,KH,yZ,aI] [.pt, .inl]
def xB:FS:=As 38 [.rf (.st 5)] (.tu (.cons (.tu (.cons (.v (.st 9)) (.cons (.v (.l (.st 10))) .nil))) (.cons (.v (.st 5)) .nil))) (λx=>VN x.1) [zna,zlY,zs0,KH,zlz] [.sp [.l (.st 10), .i .i64, .l (.i .u8), .i .i64, .i .u64]]
def zod:FS:=As 8 [.v (.l (.i .u8))] (.tu (.cons (.v (.st 9)) (.cons (.v (.l (.st 10))) .nil))) (λx=>Zm x.1) [xB] []
def Qa:FS:=As 113 [.v (.i .i64), .v (.i .i64), .v (.i .i64)] (.v .b) (λx=>Mw x.1 x.2.1 x.2.2.1) [] []
def zmp:FS:=As 271 [.v (.i .u8)] (.v .b) (λx=>kS x.1) [] []
def znJ:FS:=As 272 [.v .s, .v (.i .u8)] (.v (.i .i64)) (λx=>lD x.1 x.2.1) [zh8] []
def yB:FS:=As 230 [.v .s, .v .s] (.v .b) (λx=>Wo x.1 x.2.1) [zmp,znJ] [.sp [.i .i64]]
def ztd:FS:=As 174 [.v .s] (.v .b) (λx=>ZV x.1) [Qa,yB] []
def ZO:FS:=As 107 [.v (.l .s)] (.v .b) (λx=>NZ x.1) [ztd] [.sp [.i .i64]]
def zsC:FS:=As 48 [.v (.l .s)] (.v .b) (λx=>ZL x.1) [ZO] []
def zfr:FS:=D4 108 [.v (.l (.st 8)), .fn [.st 8] .b] (.v (.i .i64)) (λx=>Gb x.1 (λy=>x.2.1.φ (y,()))) λx r hp h=>FW (f:=108) (t:=QF 4) (by kernel_rfl) (by kernel_rfl) (Xs (av:=(B3 C7.av (.st 8))) (cn:=4) (λ_=>⟨_,rfl,rfl⟩) h (λy b hb=>hp.2.1 (y,()) b hb))
def zeF:FS:=D4 49 [.v (.l (.st 8)), .fn [.st 8] .b] (.v .b) (λx=>DR x.1 (λy=>x.2.1.φ (y,()))) λx r hp h=>FW (f:=49) (t:=OF 108) (by kernel_rfl) (by kernel_rfl) (TK h λr hr=>zfr.ok x r hp hr)
def yV:FS:=As 109 [.v (.i .i64)] (.v .b) (λx=>SX x.1) [Qa] []
def yX:FS:=As 231 [.v (.i .i64)] (.v .b) (λx=>N4 x.1) [Qa] []
def zs7:FS:=As 273 [.v .s] (.v .b) (λx=>ZU x.1) [yB] []
def yA:FS:=As 232 [.v .s, .v .b] (.v .b) (λx=>Wm x.1 x.2.1) [zs7] []
def zuM:FS:=As 175 [.v (.st 4)] (.v .b) (λx=>Z7 x.1) [Qa,yX,yA] [.sp [.i .i64]]
def x6:FS:=As 110 [.v (.l (.st 4))] (.v .b) (λx=>Wb x.1) [ZO,zuM] [.sp [.i .i64, .l .s]]
def xQ:FS:=As 177 [.v (.st 1)] (.v (.st 7)) (λx=>Sp x.1) [] []
def mW:FS:=As 114 [.v (.i .i64)] (.v .b) (λx=>N6 x.1) [Qa] []
def x5:FS:=As 227 [.v (.l (.st 0))] (.v (.l .s)) (λx=>V9 x.1) [] [.sp [.i .i64, .l .s]]
def wY:FS:=D4 236 [.v (.l (.st 0)), .fn [.st 0] .b] (.v (.i .i64)) (λx=>Gb x.1 (λy=>x.2.1.φ (y,()))) λx r hp h=>FW (f:=236) (t:=QF 3) (by kernel_rfl) (by kernel_rfl) (Xs (av:=(B3 C7.av (.st 0))) (cn:=3) (λ_=>⟨_,rfl,rfl⟩) h (λy b hb=>hp.2.1 (y,()) b hb))
def jY:FS:=D4 181 [.v (.l (.st 0)), .fn [.st 0] .b] (.v .b) (λx=>DR x.1 (λy=>x.2.1.φ (y,()))) λx r hp h=>FW (f:=181) (t:=OF 236) (by kernel_rfl) (by kernel_rfl) (TK h λr hr=>wY.ok x r hp hr)
def zn9:FS:=As 274 [.v (.st 0)] (.v .b) (λx=>Zd x.1) [yA] []
def zm7:FS:=Hd zn9 λ_=>by kernel_rfl
def zpA:FS:=As 233 [.v (.l (.st 0))] (.v .b) (λx=>Zx x.1) [x5,ZO,jY,zm7] []
def yF:FS:=As 176 [.v (.st 7)] (.v .b) (λx=>Wh x.1) [mW,yX,Qa,ZO,zpA] [.pt]
def zfU:FS:=D4 234 [.v (.l (.st 1)), .fn [.st 1] .b] (.v (.i .i64)) (λx=>Gb x.1 (λy=>x.2.1.φ (y,()))) λx r hp h=>FW (f:=234) (t:=QF 5) (by kernel_rfl) (by kernel_rfl) (Xs (av:=(B3 C7.av (.st 1))) (cn:=5) (λ_=>⟨_,rfl,rfl⟩) h (λy b hb=>hp.2.1 (y,()) b hb))
def wX:FS:=D4 178 [.v (.l (.st 1)), .fn [.st 1] .b] (.v .b) (λx=>DR x.1 (λy=>x.2.1.φ (y,()))) λx r hp h=>FW (f:=178) (t:=OF 234) (by kernel_rfl) (by kernel_rfl) (TK h λr hr=>zfU.ok x r hp hr)
def zcX:FS:=As 303 [.v (.l (.st 0)), .v .s, .fn [.st 0, .s] (.i .i64)] (.tu (.cons (.v (.i .i64)) (.cons (.v .b) .nil))) (λx=>jR x.1 x.2.1 (λy0 y1=>x.2.2.1.φ (y0,y1,()))) [] [.sp [.i .i64, .i .i64]]
def znX:FS:=As 278 [.v .s] (.v .b) (λx=>VP x.1) [] []
def xD:FS:=As 239 [.v .s, .v .s] (.v (.i .i64)) (λx=>VM x.1 x.2.1) [znX] []
def zoX:FS:=As 304 [.v (.st 0), .v .s] (.v (.i .i64)) (λx=>RC x.1 x.2.1) [xD] []
def zn0:FS:=Hd zoX λ_=>by kernel_rfl
def zqX:FS:=As 276 [.v (.l (.st 0)), .v .s] (.tu (.cons (.v (.i .i64)) (.cons (.v .b) .nil))) (λx=>Sb x.1 x.2.1) [zcX,zn0] []
def ziv:FS:=As 305 [.v (.l .s), .v .s] (.v (.i .i64)) (λx=>YF x.1 x.2.1) [] [.sp [.i .i64]]
def zht:FS:=As 277 [.v (.l .s), .v .s] (.v .b) (λx=>YG x.1 x.2.1) [ziv] []
def zqP:FS:=As 275 [.v (.st 0), .rf (.l (.st 0)), .rf (.l .s)] (.v .b) (λx=>lO x.1 x.2.1 x.2.2.1) [zqX,zht] []
def zpZ:FS:=Hd zqP λ_=>by kernel_rfl
def zs2:FS:=As 235 [.v (.l (.st 0)), .v (.l .s), .v (.l (.st 0))] (.v .b) (λx=>We x.1 x.2.1 x.2.2.1) [jY,zpZ] []
def zA:FS:=As 180 [.v (.st 1), .v (.st 1)] (.v .b) (λx=>S1 x.1 x.2.1) [zs2] []
def zkS:FS:=As 179 [.v (.st 1), .rf (.st 1)] (.v .b) (λx=>PN x.1 x.2.1) [zA] []
def zkz:FS:=Hd zkS λ_=>by kernel_rfl
def zdg:FS:=As 237 [.v (.l (.st 4)), .v .s, .fn [.st 4, .s] (.i .i64)] (.tu (.cons (.v (.i .i64)) (.cons (.v .b) .nil))) (λx=>YC x.1 x.2.1 (λy0 y1=>x.2.2.1.φ (y0,y1,()))) [] [.sp [.i .i64, .i .i64]]
def zp1:FS:=As 238 [.v (.st 4), .v .s] (.v (.i .i64)) (λx=>PS x.1 x.2.1) [xD] []
def zoP:FS:=Hd zp1 λ_=>by kernel_rfl
def lZ:FS:=As 184 [.v (.l (.st 4)), .v .s] (.tu (.cons (.v (.i .i64)) (.cons (.v .b) .nil))) (λx=>SA x.1 x.2.1) [zdg,zoP] []
def mC:FS:=As 112 [.v (.l (.st 4)), .v .s] (.v (.i .i64)) (λx=>SE x.1 x.2.1) [lZ] []
def zk2:FS:=As 182 [.v (.st 0), .rf (.st 1), .rf (.st 8)] (.v .b) (λx=>PL x.1 x.2.1 x.2.2.1) [mC] []
def zkv:FS:=Hd zk2 λ_=>by kernel_rfl
def xL:FS:=As 183 [.v (.st 8), .v (.l (.st 1))] (.v .b) (λx=>VT x.1 x.2.1) [w7,w5,lZ] [.sp [.i .i64, .l .s], .sp [.i .i64, .l .s], .sp [.i .i64, .l .s], .inl]
def zlZ:FS:=As 111 [.v (.st 8)] (.v .b) (λx=>Rx x.1) [xL,xQ,yF,wX,zkz,jY,zkv] [.sp [.i .i64]]
def zdE:FS:=As 125 [.v (.l (.st 1)), .v (.i .i64), .fn [.st 1, .i .i64] (.i .i64)] (.tu (.cons (.v (.i .i64)) (.cons (.v .b) .nil))) (λx=>YE x.1 x.2.1 (λy0 y1=>x.2.2.1.φ (y0,y1,()))) [] [.sp [.i .i64, .i .i64]]
def zqV:FS:=As 192 [.v (.i .i64)] (.v .b) (λx=>V5 x.1) [] []
def xU:FS:=As 123 [.v (.i .i64), .v (.i .i64)] (.v (.i .i64)) (λx=>V1 x.1 x.2.1) [zqV] []
def zkx:FS:=As 126 [.v (.st 1), .v (.i .i64)] (.v (.i .i64)) (λx=>PF x.1 x.2.1) [xU] []
def zj6:FS:=Hd zkx λ_=>by kernel_rfl
def Rv:FS:=As 62 [.v (.st 8), .v (.i .i64)] (.tu (.cons (.v (.i .i64)) (.cons (.v .b) .nil))) (λx=>JJ x.1 x.2.1) [zdE,zj6] []
def xZ:FS:=As 51 [.v (.st 8)] (.v .b) (λx=>P2 x.1) [yV,x6,zlZ,Qa,mW,Rv,mC] [.sp [.i .i64], .sp [.i .i64]]
def zpO:FS:=As 50 [.v (.st 8)] (.v .b) (λx=>Zw x.1) [xZ] []
def zoz:FS:=Hd zpO λ_=>by kernel_rfl
def zrt:FS:=As 115 [.v (.l .s), .v (.l (.st 0))] (.v .b) (λx=>mD x.1 x.2.1) [yF] []
def zs3:FS:=As 52 [.v (.st 6)] (.v .b) (λx=>ZR x.1) [mW,zrt] []
def wZ:FS:=D4 94 [.v (.l (.st 6)), .fn [.st 6] .b] (.v (.i .i64)) (λx=>Gb x.1 (λy=>x.2.1.φ (y,()))) λx r hp h=>FW (f:=94) (t:=QF 3) (by kernel_rfl) (by kernel_rfl) (Xs (av:=(B3 C7.av (.st 6))) (cn:=3) (λ_=>⟨_,rfl,rfl⟩) h (λy b hb=>hp.2.1 (y,()) b hb))
def zeD:FS:=D4 53 [.v (.l (.st 6)), .fn [.st 6] .b] (.v .b) (λx=>DR x.1 (λy=>x.2.1.φ (y,()))) λx r hp h=>FW (f:=53) (t:=OF 94) (by kernel_rfl) (by kernel_rfl) (TK h λr hr=>wZ.ok x r hp hr)
def zpI:FS:=As 54 [.v (.st 6), .rf (.st 6)] (.v .b) (λx=>lW x.1 x.2.1) [] []
def zpa:FS:=Hd zpI λ_=>by kernel_rfl
def lY:FS:=As 14 [.v (.st 9)] (.v .b) (λx=>SB x.1) [zsC,zeF,zoz,zs3,zeD,zpa] [.sp [.i .i64]]
def VJ:FS:=D4 91 [.v (.l .s)] (.v (.l .s)) (λx=>Je x.1) λx r hp h=>FW (f:=91) (t:=XH 16 1) (by kernel_rfl) (by kernel_rfl) (o7 (bytes:=16) (sz:=1) (av:=(B3 C7.av .s)) (λx=>⟨On _ x,Qf (by kernel_rfl) x⟩) h)
def zgQ:FS:=D4 155 [.v (.l (.st 2))] (.v (.l (.st 2))) (λx=>jW x.1) λx r hp h=>FW (f:=155) (t:=XH 24 3) (by kernel_rfl) (by kernel_rfl) (o7 (bytes:=24) (sz:=3) (av:=(B3 C7.av (.st 2))) (λx=>⟨On _ x,Qf (by kernel_rfl) x⟩) h)
def jV:FS:=D4 157 [.v (.l (.st 0))] (.v (.l (.st 0))) (λx=>Ms x.1) λx r hp h=>FW (f:=157) (t:=XH 40 3) (by kernel_rfl) (by kernel_rfl) (o7 (bytes:=40) (sz:=3) (av:=(B3 C7.av (.st 0))) (λx=>⟨On _ x,Qf (by kernel_rfl) x⟩) h)
def yS:FS:=As 217 [.v (.st 7)] (.v (.st 1)) (λx=>SZ x.1) [VJ,jV] []
def zrS:FS:=As 156 [.v (.st 1)] (.v (.st 1)) (λx=>ZQ x.1) [xQ,yS] []
def lK:FS:=As 92 [.v (.st 8)] (.v (.st 8)) (λx=>PZ x.1) [x7,zgQ,zrS] [.sp [.i .i64, .l (.st 1)]]
def zqO:FS:=As 93 [.v (.st 6)] (.v (.st 6)) (λx=>Zq x.1) [VJ,jV] []
end
end Go.Proofs.YtalagilebkaegaaGreat
