/- Parts of a proof, joined: CI, IL, QM, QF1, QF2. -/
import Derived.Test.YtalagilebkaegaaGreatR7
import Derived.Lib.SliceRun
import Derived.Shelf.RegionOpenPlain
set_option linter.unusedVariables false
set_option linter.unusedSimpArgs false
namespace Go.Proofs.YtalagilebkaegaaGreat
noncomputable section
open Go.RowKit Go.Sort
set_option maxRecDepth 100000
abbrev Ag:=List UInt8
theorem vZ{w:World}:∀{cs:List Value} {xs:List Int} {f:List Nat},Rd w cs (Ao (xs.map MA)) f->cs=xs.map encI/\ ∀n∈xs,E9 .i64 n
 |cs,[],f,h=>by obtain⟨rfl,_⟩:=NK (by simpa[Ao]using h);exact⟨rfl,by simp⟩
 |cs,x::xs,f,h=>by
  have h':Rd w cs (.int .i64 x::Ao (xs.map MA)) f:=by simpa[Ao]using h
  obtain⟨us,rfl,hI,h2⟩:=NU h';obtain⟨rfl,h3⟩:=vZ h2;exact⟨rfl,by simpa using⟨hI,h3⟩⟩
theorem zzH{w:World}:∀(r:List Int),(∀n∈r,E9 .i64 n)->Rd w (r.map encI) (Ao (r.map MA)) []
 | [],_=>by simpa[Ao]using Rd.nil
 |n::r,h=>by
  have e:Ao ((n::r).map MA)= .int .i64 n::Ao (r.map MA):=by simp[Ao,MA,AV.cells]
  rw[e,List.map_cons];exact Rd.int (h n (by simp)) (zzH r λx hx=>h x (by simp[hx]))
def XL(xs:List Int):Option (List Int):=some (Lib.compact xs)
theorem zjb(a0 r:List Int)(h:XL a0=some r):Co Tryz.prog B3 172 [.sl (a0.map MA)] (.sl (r.map MA)):=by cases h;exact wK (enc:=encI) (av:=MA) (dz:=0) vZ (λr h=>zzH r h) (λ_=>rfl) (λ_=>rfl) (t:=89) (el:=3) (by kernel_rfl) (λ_=>by kernel_rfl) (λblk cap zs w hH h1 h2=>Tryz.slices_Compact_int blk 0 cap zs w hH h1 h2) (λa cap w=>Tryz.slices_Compact_int_empty a cap w) a0
end
noncomputable section
open Go.RowKit
set_option maxRecDepth 100000
set_option maxHeartbeats 4000000
theorem zzX:∃i z,Tryz.prog.info? 108=some i/\i.size=5/\i.zero=some z/\z.cells.size=5/\i.bytes<=1000:=by
 have h:(match Tryz.prog.info? 108 with|some i=>(match i.zero with|some z=>i.size==5&&z.cells.size==5&&decide (i.bytes<=1000)|none=>false)|none=>false)=true:=by kernel_rfl
 split at h
 ·rename_i i hi;split at h
  ·rename_i z hz;simp only[Ab,AM,AI]at h;exact⟨i,z,hi,h.1.1,hz,h.1.2,h.2⟩
  ·cases h
 ·cases h
abbrev G1:List DT:=[.flat, .flat, .flat, .row 9 1 (Av.of [.flat]), .row 137 3 (Av.of [.flat, .flat, .flat])]
theorem zyu(w:World)(o:Obj):(w.alloc o).heap[w.heap.size]?=some o:=zDj w o
theorem zx4(w:World)(o:Obj):(w.alloc o).heap.size=w.heap.size+1:=by simp
def EG(t:Int)(l:List AG):List AG:=l.filter λh=> !(h.ah==t)
def F1(t:Int):List AG->List Value->List Value
 | [],_=> []
 |h::l,cs=>(if h.ah=t then []else cs.take 5)++F1 t l (cs.drop 5)
theorem kY(t:Int)(h:AG)(l:List AG)(cs:List Value):F1 t (h::l) cs=(if h.ah=t then []else cs.take 5)++F1 t l (cs.drop 5):=rfl
theorem zAU{α:Type}{L:List α}{k:Nat}{a b c d e:α}(h0:L[k]?=some a)(h1:L[k+1]?=some b)(h2:L[k+2]?=some c)(h3:L[k+3]?=some d)(h4:L[k+4]?=some e):(L.drop k).take 5=[a,b,c,d,e]:=by obtain⟨l0,rfl⟩:=List.getElem?_eq_some_iff.1 h0;obtain⟨l1,rfl⟩:=List.getElem?_eq_some_iff.1 h1;obtain⟨l2,rfl⟩:=List.getElem?_eq_some_iff.1 h2;obtain⟨l3,rfl⟩:=List.getElem?_eq_some_iff.1 h3;obtain⟨l4,rfl⟩:=List.getElem?_eq_some_iff.1 h4;rw[Bl l0,Bl l1,Bl l2,Bl l3,Bl l4];rfl
theorem xR(t:Int):∀(l:List AG) (cs:List Value) (k:Nat) (hk:k<l.length),F1 t (l.take (k+1)) cs=F1 t (l.take k) cs++(if l[k].ah=t then []else(cs.drop (k*5)).take 5)
 | [],_,_,hk=>by simp at hk
 |h::l,cs,0,_=>by simp[F1]
 |h::l,cs,k+1,hk=>by have:=xR t l (cs.drop 5) k (by simpa using hk);rw[List.take_succ_cons,List.take_succ_cons,F1,F1,this,List.append_assoc,List.drop_drop,List.getElem_cons_succ,show(k+1)*5=5+k*5 by omega]
theorem zxO(t:Int)(l:List AG)(k:Nat)(hk:k<l.length):EG t (l.take (k+1))=EG t (l.take k)++(if l[k].ah=t then []else [l[k]]):=by unfold EG;rw[List.take_succ_eq_append_getElem hk,List.filter_append,List.filter_cons,List.filter_nil];by_cases h:l[k].ah=t<;>simp[h]
theorem yA(t:Int):∀(l:List AG) (cs:List Value),l.length*5<=cs.length->(F1 t l cs).length=(EG t l).length*5
 | [],_,_=>rfl
 |h::l,cs,hl=>by
  have hl:(l.length+1)*5<=cs.length:=by simpa using hl
  have:=yA t l (cs.drop 5) (by rw[BC];omega);rw[kY,AH,this];unfold EG;rw[List.filter_cons];by_cases e:h.ah=t
  ·simp[e]
  ·have e2:(h.ah==t)=false:=by simpa using e
   simp[e,e2];omega
theorem zzG{w:World}{t:Int}:∀{l:List AG} {cs:List Value} {N:List Nat},DC w (Bq l.length G1) cs (Ao (l.map D5)) N-> ∃N',N'.Sublist N/\DC w (Bq (EG t l).length G1) (F1 t l cs) (Ao ((EG t l).map D5)) N'
 | [],cs,N,h=>⟨[],List.nil_sublist _,by simpa[EG,F1,Bq,Ao]using DC.nil⟩
 |h::l,cs,N,hd=>by
  have hx:∀y∈(h::l).map D5,y.cells.length=5:=λy hy=>by obtain⟨x,_,rfl⟩:=List.mem_map.1 hy;rfl
  have JE:DC w (Bq ((h::l).map D5).length G1) cs (Ao ((h::l).map D5)) N:=by rw[List.length_map];exact hd
  obtain⟨N1,N2,rfl,d1,d2⟩:=JE.cut (l:=G1) (K:=5) rfl hx (i:=1) (by simp);rw[List.length_map,Bd,Nat.add_sub_cancel]at d2;obtain⟨N',s1,s2⟩:=zzG (t:=t) (l:=l) (cs:=cs.drop (1*5)) (N:=N2) (by simpa using d2);rw[Nat.one_mul]at s2 d1;unfold EG at s2 ⊢;rw[List.filter_cons,kY];by_cases e:h.ah=t
  ·rw[if_pos e,show(!(h.ah==t))=false by simp[e],if_neg (by simp),List.nil_append];exact⟨N',s1.trans (List.sublist_append_right _ _),s2⟩
  ·rw[if_neg e,show(!(h.ah==t))=true by simp[e],if_pos rfl];refine⟨N1++N',List.Sublist.append (List.Sublist.refl _) s1,?_⟩;have d3:DC w (Bq 1 G1) (cs.take 5) (Ao [D5 h]) N1:=by simpa using d1
   have:=d3.app s2;rw[Bd,show(List.filter (λh=> !(h.ah==t)) l).length+1=1+(List.filter (λh=> !(h.ah==t)) l).length by omega,K7];simpa[Ao]using this
theorem zA{t:Int}{u:Value}:∀{l:List AG} {cs:List Value},u∈F1 t l cs->u∈cs
 | [],_,h=>by simp[F1]at h
 |h::l,cs,hu=>by
  rw[kY]at hu;rcases Ac.1 hu with hu|hu
  ·split at hu
   ·simp at hu
   ·exact Bt hu
  ·exact BH (zA hu)
def NZ(w wr:World)(v:Value)(m:Nat)(out:List Value):Prop:=
 (m=0/\out=[]/\ ∃q,v= .slice q 0 0)\/ ∃g cap C,v= .slice (some ⟨g,0,none⟩) m cap/\Dg wr 108 5 g cap C m out/\w.heap.size<=g
theorem NZ.mod{w wr w2:World}{v:Value}{m:Nat}{out:List Value}(h:NZ w wr v m out)(hm:Mod [] wr w2):NZ w w2 v m out:=by
 rcases h with h|⟨g,cap,C,e,⟨a,b,c,d⟩,hg⟩
 ·exact .inl h
 ·exact .inr ⟨g,cap,C,e,⟨a,b,by rw[hm.block g (De c) (by simp)];exact c,d⟩,hg⟩
def fI(cs:List Value)(i:Nat)(h:AG):Prop:=cs[i*5]?=some (.int .i64 h.ah)/\(cs[i*5+1]?=some (.int .i64 h.af)/\(cs[i*5+2]?=some (.int .i64 h.bh)/\((∃a n c,cs[i*5+3]?=some (.slice a n c))/\ ∃a n c,cs[i*5+4]?=some (.slice a n c))))
set_option maxHeartbeats 4000000 in
theorem zzZ(w:World)(l:List AG)(t:Int)(g0 cap0:Nat)(C0:Array Value)(cs:List Value)(AT:Dg w 108 5 g0 cap0 C0 l.length cs)(Cp:∀u∈cs,u.oneCell'=true)
  (qH:∀i (hi:i<l.length),fI cs i l[i]) (hb:l.length*1000<=140737488355328):
  Calls Tryz.prog 248 #[.slice (some ⟨g0,0,none⟩) l.length cap0, .int .i64 t] w λe w'=> ∃v',e= .returned v'/\NZ w w' v' (EG t l).length (F1 t l cs)/\Mod [] w w':=by
 obtain⟨i0,z0,hi,Bo,hz,CU,EB⟩:=zzX;have HR:=Lib.hid AT;have HO:=Lib.hid Cp;have HT:=Lib.hid qH;clear AT Cp qH
 go_enter Tryz.func248,Tryz.ntmps248
 go_wp2_with fail
 go_loopw [5,10] (λs5 s10 wr=> ∃(k:Nat) (u:Value),k<=l.length/\s10= .int .i64 k/\u=s5/\Hid (NZ w wr u (EG t (l.take k)).length (F1 t (l.take k) cs))/\Hid (Mod [] w wr)) (λ_ s10 _=>l.length-(intOf s10).toNat)
 case atStart=>exact⟨0,_,by omega,rfl,rfl, .inl ⟨rfl,rfl,none,rfl⟩,Mod.refl _ _⟩
 case round=>
  obtain⟨k,u,hk,rfl,rfl,HI,HM⟩:=hrel;by_cases Ax:k<l.length
  ·obtain⟨r1,r2,r3,r4,r5⟩:=HR.out;have kB:wr.heap[g0]?=some (.cells C0 108 (0,0)):=by rw[HM.out.block g0 (De r3) (by simp)];exact r3
   have cB:=Sx kB;have hC:∀j,j<l.length*5->C0[j]?=cs[j]?:=λj hj=>by rw[r5,List.getElem?_take,if_pos hj];simp
   obtain⟨h0,h1,h2,⟨a3,n3,x3,h3⟩,a4,n4,x4,h4⟩:=HT.out k Ax;have c0:wr.cell? ⟨g0,k*5,none⟩=some (.int .i64 l[k].ah):=by rw[cB,hC _ (by omega)];exact h0
   have c1:wr.cell? ⟨g0,k*5+1,none⟩=some (.int .i64 l[k].af):=by rw[cB,hC _ (by omega)];exact h1
   have c2:wr.cell? ⟨g0,k*5+2,none⟩=some (.int .i64 l[k].bh):=by rw[cB,hC _ (by omega)];exact h2
   have c3:wr.cell? ⟨g0,k*5+3,none⟩=some (.slice a3 n3 x3):=by rw[cB,hC _ (by omega)];exact h3
   have c4:wr.cell? ⟨g0,k*5+4,none⟩=some (.slice a4 n4 x4):=by rw[cB,hC _ (by omega)];exact h4
   have H5:=Lib.hid (zAU h0 h1 h2 h3 h4);have hn:=xR t l cs k Ax;have hm:=zxO t l k Ax;clear r1 r2 r3 r4 r5 kB cB hC h0 h1 h2 h3 h4;have A1:=(Mod.refl [] wr).alloc (.cells #[.int .i64 l[k].ah, .int .i64 l[k].af, .int .i64 l[k].bh, .slice a3 n3 x3, .slice a4 n4 x4] 108);have A2:=A1.alloc (.cells #[.int .i64 l[k].ah, .int .i64 l[k].af, .int .i64 l[k].bh, .slice a3 n3 x3, .slice a4 n4 x4] 108);by_cases he:l[k].ah=t
   ·rw[if_pos he,AB]at hn hm;have HN:=Lib.hid hn;have HL:=Lib.hid hm;have HA:Hid (∀C,Mod [] wr (wr.alloc (.cells C 108))):=λC=>(Mod.refl [] wr).alloc _;clear hn hm A1 A2
    go_wp2
    go_roundw
    case rel=>exact⟨k+1,u,by omega,by go_num,rfl,by rw[HN.out,HL.out];exact(HI.out).mod (HA.out _),HM.out.trans (HA.out _) (by simp)⟩
    case measure=>simp[intOf];omega
   ·rw[if_neg he,H5.out]at hn;rw[if_neg he]at hm;have M1:=HI.out.mod A2;have hlen:(F1 t (l.take k) cs).length=(EG t (l.take k)).length*i0.size:=by
     rw[Bo];exact yA t (l.take k) cs (by rw[Ar,HR.out.len];omega)
    have JL:(EG t (l.take k)).length<=k:=Nat.le_trans (List.length_filter_le _ _) (by rw[Ar];omega);have kN:=zyu (wr.alloc (.cells #[.int .i64 l[k].ah, .int .i64 l[k].af, .int .i64 l[k].bh, .slice a3 n3 x3, .slice a4 n4 x4] 108)) (.cells #[.int .i64 l[k].ah, .int .i64 l[k].af, .int .i64 l[k].bh, .slice a3 n3 x3, .slice a4 n4 x4] 108);rw[zx4]at kN;obtain⟨v',w1,hr,AL⟩:=PN (P:=Tryz.prog) ((wr.alloc (.cells #[.int .i64 l[k].ah, .int .i64 l[k].af, .int .i64 l[k].bh, .slice a3 n3 x3, .slice a4 n4 x4] 108)).alloc (.cells #[.int .i64 l[k].ah, .int .i64 l[k].af, .int .i64 l[k].bh, .slice a3 n3 x3, .slice a4 n4 x4] 108)) 48 48 108 i0 z0 Tryz.underlying48 hi hz (by rw[CU,Bo]) (by omega) (λg=>w.heap.size<=g) u (EG t (l.take k)).length (F1 t (l.take k) cs) hlen
     (by
      rcases M1 with⟨a,_,q,rfl⟩|⟨g,cap,C,rfl,⟨b1,b2,b3,b4,b5⟩,hg⟩
      ·exact .inl ⟨a,q,rfl⟩
      ·exact .inr ⟨g,cap,C,rfl,b1,b2,b3,by rw[Bo];exact b4,by rw[Bo];exact b5,hg⟩)
     (some ⟨wr.heap.size+1,0,none⟩) 1 1 [.int .i64 l[k].ah, .int .i64 l[k].af, .int .i64 l[k].bh, .slice a3 n3 x3, .slice a4 n4 x4]
     (.inr ⟨_,rfl,by rw[Bo];rfl,λj y hy=>by rw[Addr.add_lit,Sx kN];simpa using hy,λu hu=>by
      simp only[Ae,List.not_mem_nil,or_false]at hu;rcases hu with rfl|rfl|rfl|rfl|rfl<;>rfl⟩) (by simp only[maxLen];omega) (by
      have:=Nat.mul_le_mul_left ((EG t (l.take k)).length+1) EB;omega)
    have fin:NZ w w1 v' (EG t (l.take (k+1))).length (F1 t (l.take (k+1)) cs)/\Mod [] w w1:=by
     rcases AL with⟨_,_,h⟩|⟨g,cap,C,rfl,h1,h2,h3,h4,h5,h6,h7⟩
     ·omega
     ·have hg:w.heap.size<=g:=by
       rcases h7 with⟨h,_⟩|h
       ·have:=HM.out.size;have:=A2.size;omega
       ·exact h
      refine⟨.inr ⟨g,cap,C,by rw[hm];simp,⟨by rw[hm];simpa using h1,h2,h3,by rw[h4,Bo],?_⟩,hg⟩,(HM.out.trans A2 (by simp)).grown h6 λk hk=> .inr (by cases hk;exact hg)⟩;rw[hn,hm,<-h5,Bo];simp
    have HF:=Lib.hid fin
    clear fin AL M1 hn hm A1 A2 kN
    go_wp2_with (at_builtin;refine Lib.wpList_append_run _ rfl _ _ _ _ rfl _ _ rfl rfl _ _ hr ?_)
    go_roundw
    case rel=>exact⟨k+1,v',by omega,by go_num,rfl,HF.out.1,HF.out.2⟩
    case measure=>simp[intOf];omega
  ·obtain rfl:k=l.length:=by omega
   go_wp2
   go_ret
   have h1:=HI.out;rw[List.take_length]at h1;exact⟨_,rfl,h1,HM.out⟩
set_option maxHeartbeats 4000000 in
theorem zxF(w:World)(t:Int)(q:Option Addr):Calls Tryz.prog 248 #[.slice q 0 0, .int .i64 t] w λe w'=> ∃v',e= .returned v'/\NZ w w' v' 0 []/\Mod [] w w':=by
 go_enter Tryz.func248,Tryz.ntmps248
 go_wp2_with fail
 go_loopw [5,10] (λs5 s10 wr=>s10= .int .i64 0/\s5= .slice none 0 0/\wr=w) (λ_ _ _=>0)
 case atStart=>exact⟨rfl,rfl,rfl⟩
 case round=>
  obtain⟨rfl,rfl,rfl⟩:=hrel
  go_wp2
  go_ret
  exact⟨_,rfl, .inl ⟨rfl,rfl,none,rfl⟩,Mod.refl _ _⟩
theorem zDA{w:World}{l:List AG}{cs:List Value}{N:List Nat}(h:DC w (Bq l.length G1) cs (Ao (l.map D5)) N):∀i (hi:i<l.length),fI cs i l[i]:=by
 intro i hi;have hx:∀y∈l.map D5,y.cells.length=5:=λy hy=>by obtain⟨x,_,rfl⟩:=List.mem_map.1 hy;rfl
 have hd:DC w (Bq (l.map D5).length G1) cs (Ao (l.map D5)) N:=by rw[List.length_map];exact h
 obtain⟨N1,N2,rfl,_,d2⟩:=hd.cut (l:=G1) (K:=5) rfl hx (i:=i) (by simp;omega);have e1:Bq ((l.map D5).length-i) G1=G1++Bq ((l.map D5).length-i-1) G1:=by rw[show(l.map D5).length-i=1+((l.map D5).length-i-1) by rw[List.length_map];omega,K7,zX];congr 2;omega
 have e2:Ao ((l.map D5).drop i)=[.int .i64 l[i].ah, .int .i64 l[i].af, .int .i64 l[i].bh, .sl (l[i].aq.map DP), .sl (l[i].ae.map SP)]++Ao ((l.map D5).drop (i+1)):=by rw[Bl (show i<(l.map D5).length by simpa using hi)];simp[Ao]
 rw[e1,e2]at d2;have g:∀j,cs[i*5+j]?=(cs.drop (i*5))[j]?:=λj=>by rw[List.getElem?_drop]
 have g0:=g 0;rw[Nat.add_zero]at g0;unfold fI;rw[g0,g 1,g 2,g 3,g 4];generalize cs.drop (i*5)=L at d2;generalize l[i].aq.map DP=A at d2;generalize l[i].ae.map SP=B at d2;generalize Bq ((l.map D5).length-i-1) G1=R at d2;generalize Ao ((l.map D5).drop (i+1))=F at d2;simp only[List.cons_append,List.nil_append]at d2;have fl:∀{v:Value} {n:Int},Rd w [v] [.int .i64 n] []->v= .int .i64 n:=λh=>by obtain⟨us,e,_,h2⟩:=NU h;cases e;rfl
 cases d2 with
 |flat r0 d2=>cases d2 with
  |flat r1 d2=>cases d2 with
   |flat r2 d2=>
    rw[fl r0,fl r1,fl r2];refine⟨rfl,rfl,rfl,?_⟩;cases d2 with
    |void _ _ d2=>cases d2 with
     |void _ _ _=>exact⟨⟨_,_,_,rfl⟩,_,_,_,rfl⟩
     |row _ _ _ _ _ _ _ _ _ _=>exact⟨⟨_,_,_,rfl⟩,_,_,_,rfl⟩
    |row _ _ _ _ _ _ _ _ _ d2=>cases d2 with
     |void _ _ _=>exact⟨⟨_,_,_,rfl⟩,_,_,_,rfl⟩
     |row _ _ _ _ _ _ _ _ _ _=>exact⟨⟨_,_,_,rfl⟩,_,_,_,rfl⟩
def sI(P:Program)(sg:BY)(f:Nat)(t it el K:Nat)(l:List DT):Bool:=
 match P.funcs[f]?,sg f with
 |some fn,some s=>(match s.b8,s.res,s.ft,s.lo with
  | [.va [true], .ro],[true],[],[]=>true
  |_,_,_,_=>false)&&fn.body.isSome&& !(fn.name== "runtime.NumGoroutine")&&fn.params.toList==[t,it]&&(Du fn s)==[t]&&fn.nfree==0&& !Am P t&&Bf P t==[t]&&CX P t==some el&& !Cc P el&&KA (DF P t) el K l&&F0 P t [true]&&fn.params.size==2
 |_,_=>false
def R5(l:List AG)(t:Int):Option (List AG):=req (l.length*1000<=140737488355328) (some (EG t l))
theorem zr8(a0:List AG)(a1:Int)(r:List AG)(h:R5 a0 a1=some r):Co Tryz.prog B3 248 [.sl (a0.map D5), .int .i64 a1] (.sl (r.map D5)):=by
 obtain⟨hb,h⟩:=F3 h;cases h;have hk:sI Tryz.prog B3 248 48 3 108 5 G1=true:=by kernel_rfl
 have B5:∀r,Hy Tryz.prog B3 248 r=true:=λ_=>by kernel_rfl
 unfold sI at hk;split at hk
 ·rename_i fn s hf hs;simp only[Ab,Bc,AM]at hk;obtain⟨⟨⟨⟨⟨⟨⟨⟨⟨⟨⟨⟨g1,g2⟩,g3⟩,g4⟩,g5⟩,g6⟩,g7⟩,g8⟩,g9⟩,g10⟩,g11⟩,g12⟩,g13⟩:=hk;have g11:=Nz g11;obtain⟨hm,hr,CA,BT⟩:s.b8=[.va [true], .ro]/\s.res=[true]/\s.ft=[]/\s.lo=[]:=by
   split at g1
   ·rename_i a b c d;exact⟨a,b,c,d⟩
   ·cases g1
  unfold Co;rw[if_pos (KC _ s hs)];refine⟨s,hs,fn,hf,g2,g3,by have:=B5 ((EG a1 a0).map D5);unfold Hy at this;rw[hf,hs]at this;exact this,by simp[g6,g13],by simp[CA],λw vs rf lf A9 Ah hd _ B6 D1=> ?_⟩;rw[g4,CA,AB,hm,BT]at Ah;cases Ah with
  |lent h _ _ _=>cases h
  | @cons _ _ _ _ v1 vs1 _ _ f1 k1 rf1 lf1 BL q1 Ah=>
   cases Ah with
   |lent h _ _ _=>cases h
   | @cons _ _ _ _ v2 vs2 _ _ f2 k2 rf2 lf2 Bb q2 Ah=>
    cases Ah;obtain⟨rfl,r1⟩:=Zx g7 g8 g9 g10 g11 q1;obtain⟨q2,rfl⟩:Rd w [v2] [AV.int .i64 a1] f2/\k2=[]:=q2;obtain⟨us,rfl2,hI,q2⟩:=NU q2;obtain⟨rfl,rfl⟩:=NK q2;cases rfl2;have Eb:k1.Nodup:=by simpa using B6
    obtain⟨cs,N,n1,n2,n3,HU,Cp,hc⟩:∃(cs:List Value) (N:List Nat),(∀b∈N,b∈k1)/\N.Nodup/\(∀b∈N,b<w.heap.size)/\DC w (Bq a0.length G1) cs (Ao (a0.map D5)) N/\(∀u∈cs,u.oneCell'=true)/\
      Calls Tryz.prog 248 #[v1, .int .i64 a1] w λe w'=> ∃v',e= .returned v'/\NZ w w' v' (EG a1 a0).length (F1 a1 a0 cs)/\Mod [] w w':=by
     obtain⟨p0,pl,⟨a,rfl,e1,rfl⟩|⟨g,cap,C,xs',N,rfl,e1,rfl,d1,d2,d3,d4,d5,d6,d7⟩⟩:=r1.inv
     ·have:a0=[]:=by simpa using e1
      subst this;exact⟨[],[],by simp,by simp,by simp,by simpa[Bq,Ao]using DC.nil,by simp,zxF w a1 a⟩
     ·cases e1;rw[Av.ax]at d7;simp only[List.length_map]at d2 d4 d6 d7 ⊢;exact⟨_,N,λb hb=>by simp[hb],(List.nodup_cons.1 Eb).2,d7.inb,d7,d6,zzZ w a0 a1 g cap C _ ⟨d2,d3,d1,d4,rfl⟩ d6 (zDA d7) hb⟩
    refine hc.mono ?_;rintro e w' ⟨v',rfl,hL,Bj⟩;have fN:=HU.frame (w':=w') λb hb=>Bj.block b (n3 b hb) (by simp);obtain⟨N',s1,s2⟩:=zzG (t:=a1) fN;obtain⟨T,t1,t2,t3⟩:∃T,DC w' [.row 108 5 (Av.of G1)] [v'] [.sl ((EG a1 a0).map D5)] T/\T.Nodup/\ ∀b∈T,(b∈k1\/w.heap.size<=b)/\b<w'.heap.size:=by
     rcases hL with⟨m0,_,q,rfl⟩|⟨g,cap,C,rfl,⟨z1,z2,z3,z4,z5⟩,hg⟩
     ·have:EG a1 a0=[]:=List.eq_nil_of_length_eq_zero m0;rw[this];exact⟨[], .void (by omega) (by rw[Av.ax];rfl) .nil,by simp,by simp⟩
     ·have hd:=DC.row (w:=w') (e:=108) (z:=5) (l:=Av.of G1) (g:=g) (cap:=cap) (C:=C) (ys:=(EG a1 a0).map D5) (N1:=N') (ts:=[]) (vs:=[]) (xs:=[]) (N:=[]) (by omega) (by rw[Av.ax];rfl) z3 (by simpa using z1) z2 z4 (λy hy=>by obtain⟨x,_,rfl⟩:=List.mem_map.1 hy;rfl) (by
       rw[List.length_map,<-z5];exact λu hu=>Cp u (zA hu)) (by rw[List.length_map,Av.ax,<-z5];exact s2) .nil
      refine⟨g::N',by simpa using hd,List.nodup_cons.2 ⟨λh=>by have:=n3 g (s1.subset h);omega,n2.sublist s1⟩,λb hb=> ?_⟩;have:=Bj.size;rcases Ae.1 hb with rfl|hb
      ·exact⟨.inr hg,De z3⟩
      ·have:=n3 b (s1.subset hb);exact⟨.inl (n1 b (s1.subset hb)),by omega⟩
    refine⟨_,rfl,⟨⟨_,[],[],T,[],[],rfl,?_,?_,by simpa using t2,?_,by simp⟩,Bj.weaken (by simp)⟩⟩
    ·rw[g5];show DY Tryz.prog w' _ s.res _ _ [] _;unfold DY;rw[hr,if_pos g12];refine⟨[v'],[.sl ((EG a1 a0).map D5)],by rw[g7];simp,?_⟩;rw[g8];have:=Cz.deep (P:=Tryz.prog) (t:=48) (ts:=[]) (fl:=[true]) (us:=[]) (ys:=[]) (rf:=[]) (hs:=[]) rfl g9 g10 g11 t1 .nil;simpa using this
    ·rw[g4,CA,AB,hm];exact .va rfl (.ro rfl .nil)
    ·intro b hb;rw[AB]at hb;exact⟨(t3 b hb).1.imp (λh=>by simp[h]) id,(t3 b hb).2⟩
 ·cases hk
def kX(a0 a1:List Int):Option (Bool):=
 some ((decide ((a0.length:Int)>1048576))||(decide ((a1.length:Int)>(IntKind.i64.wrap ((1048576:Int)-(a0.length:Int))))))
def UR(a0:AQ):Option (Int × AQ):=
 if(decide (a0.df<(a0.bk.length:Int)))then
  (getI a0.bk a0.df).bind λy1=>
  if(decide ((IntKind.i64.wrap (a0.df+1))<=(a0.bk.length:Int)))then
   some ((IntKind.i64.wrap y1),(⟨a0.bk,(IntKind.i64.wrap (a0.df+1)),(IntKind.u64.wrap ((IntKind.u64.wrap ((IntKind.u64.wrap (a0.bm*6364136223846793005))+(IntKind.u64.wrap (IntKind.i64.wrap y1))))+1442695040888963407))⟩:AQ))
  else
   some ((IntKind.i64.wrap (IntKind.u64.wrap ((BitVec.ofInt (IntKind.bits .u64) (Int.fdiv (IntKind.u64.wrap ((IntKind.u64.wrap ((IntKind.u64.wrap (a0.bm*6364136223846793005))+(IntKind.u64.wrap (IntKind.i64.wrap y1))))+1442695040888963407)) (2^(min ((40:Int)).toNat (IntKind.bits .u64))))&&&BitVec.ofInt (IntKind.bits .u64) 255).toNat:Int))),(⟨a0.bk,(IntKind.i64.wrap (a0.df+1)),(IntKind.u64.wrap ((IntKind.u64.wrap ((IntKind.u64.wrap (a0.bm*6364136223846793005))+(IntKind.u64.wrap (IntKind.i64.wrap y1))))+1442695040888963407))⟩:AQ))
 else
  if(decide ((IntKind.i64.wrap (a0.df+1))<=(a0.bk.length:Int)))then
   some (0,(⟨a0.bk,(IntKind.i64.wrap (a0.df+1)),(IntKind.u64.wrap ((IntKind.u64.wrap ((IntKind.u64.wrap (a0.bm*6364136223846793005))+(IntKind.u64.wrap 0)))+1442695040888963407))⟩:AQ))
  else
   some ((IntKind.i64.wrap (IntKind.u64.wrap ((BitVec.ofInt (IntKind.bits .u64) (Int.fdiv (IntKind.u64.wrap ((IntKind.u64.wrap ((IntKind.u64.wrap (a0.bm*6364136223846793005))+(IntKind.u64.wrap 0)))+1442695040888963407)) (2^(min ((40:Int)).toNat (IntKind.bits .u64))))&&&BitVec.ofInt (IntKind.bits .u64) 255).toNat:Int))),(⟨a0.bk,(IntKind.i64.wrap (a0.df+1)),(IntKind.u64.wrap ((IntKind.u64.wrap ((IntKind.u64.wrap (a0.bm*6364136223846793005))+(IntKind.u64.wrap 0)))+1442695040888963407))⟩:AQ))
def Ff(a0:AQ)(a1:Int):Option (Int × AQ):=
 if(decide (a1<=1))then
  some (0,a0)
 else
  (UR a0).bind λv1=>
  if(decide (a1>200))then
   (UR v1.2).bind λv2=>
   req (a1≠0)<|
   some ((Int.tmod (IntKind.i64.wrap ((IntKind.i64.wrap (v1.1*256))+v2.1)) a1),(⟨v2.2.bk,v2.2.df,v2.2.bm⟩:AQ))
  else
   req (a1≠0)<|
   some ((Int.tmod v1.1 a1),(⟨v1.2.bk,v1.2.df,v1.2.bm⟩:AQ))
def Yi(a0:AQ):Option (List (Ag) × AQ):=
 (Ff a0 5).bind λv1=>
 (getI [[([109]:Ag)],[([109]:Ag)],[([99]:Ag),([110]:Ag)],[],[([98]:Ag)]] v1.1).bind λy2=>
 some (y2,v1.2)
def Ns(a0:AQ)(a1:Int):Option (Bool × AQ):=
 (Ff a0 a1).bind λv1=>
 some ((v1.1==0),v1.2)
def UW(a0:AQ)(a1:List (Ag)):Option (Ag × AQ):=
 (Ff a0 (a1.length:Int)).bind λv1=>
 (getI a1 v1.1).bind λy2=>
 some (y2,v1.2)
def X7(a0:AQ):Option (Ag × AQ):=
 (UW a0 ([([]:Ag),([49]:Ag),([55]:Ag),([49,48]:Ag),([45,51]:Ag),([120]:Ag),([97,44,98,95,99]:Ag)]:List (Ag))).bind λv1=>
 some (v1.1,v1.2)
def X3(a0:AQ)(a1:Ag):Option (Ap × AQ):=
 (Ns a0 4).bind λv1=>
 if v1.1 then
  some ((⟨a1,([]:Ag),true⟩:Ap),v1.2)
 else
  (X7 v1.2).bind λv2=>
  some ((⟨a1,v2.1,false⟩:Ap),v2.2)
def gK(v1:List Ap)(v2:Int)(v3:List Int)(v4 v5:Int):Option ((List Ap × Int × List Int × Int × Int) ⊕ Option (List Ap × AQ)):=
 if(decide (v2<([([97]:Ag),([98]:Ag),([99]:Ag),([105,47,120,47,49]:Ag),([109]:Ag),([110]:Ag),([114,47,49]:Ag),([122]:Ag)].length:Int)))then
  (getI [([97]:Ag),([98]:Ag),([99]:Ag),([105,47,120,47,49]:Ag),([109]:Ag),([110]:Ag),([114,47,49]:Ag),([122]:Ag)] v2).bind λy6=>
  (Ns (⟨v3,v4,v5⟩:AQ) 4).bind λv7=>
  if v7.1 then
   (X3 v7.2 y6).bind λv8=>
   req (RM (((v1).length:Int)+(([v8.1]:List Ap).length:Int)) 40)<|
   some (.inl ((v1++ [v8.1]),(IntKind.i64.wrap (v2+1)),v8.2.bk,v8.2.df,v8.2.bm))
  else
   some (.inl (v1,(IntKind.i64.wrap (v2+1)),v7.2.bk,v7.2.df,v7.2.bm))
 else
  some (.inr (some (v1,(⟨v3,v4,v5⟩:AQ))))
def UU(a0:AQ):Option (List Ap × AQ):=
 Az (λs:List Ap × Int × List Int × Int × Int=>gK s.1 s.2.1 s.2.2.1 s.2.2.2.1 s.2.2.2.2) ([],0,a0.bk,a0.df,a0.bm)
def U1(a0:AQ):Option (Ag × AQ):=
 (UW a0 ([([97]:Ag),([98]:Ag),([99]:Ag),([109]:Ag),([110]:Ag),([122]:Ag),([114,47,49]:Ag),([105,47,120,47,49]:Ag)]:List (Ag))).bind λv1=>
 some (v1.1,v1.2)
def H9(a0:List (Ag)):Option (List (Ag)):=
 req (RM ((([]:List (Ag)).length:Int)+((a0).length:Int)) 16)<|
 some a0
def Ro(a0:List (Ag))(a1:Ag)(v1:Int):Option (List (Ag)):=
 if(decide (v1>0))then
  (getI a0 (IntKind.i64.wrap (v1-1))).bind λy2=>
  if(y2==a1)then
   some a0
  else
   req (0<=v1/\v1<=(a0.length:Int)/\(a0.length:Int)<=(a0.length:Int))<|
   (H9 (A6 a0 v1 (a0.length:Int))).bind λv3=>
   req (0<=(0:Int)/\(0:Int)<=v1/\v1<=(a0.length:Int))<|
   (H9 (A6 a0 0 v1)).bind λv4=>
   req (RM (((v4).length:Int)+(([a1]:List (Ag)).length:Int)) 16)<|
   req (RM ((((v4++ [a1])).length:Int)+((v3).length:Int)) 16)<|
   some ((v4++ [a1])++v3)
 else
  req (0<=v1/\v1<=(a0.length:Int)/\(a0.length:Int)<=(a0.length:Int))<|
  (H9 (A6 a0 v1 (a0.length:Int))).bind λv5=>
  req (0<=(0:Int)/\(0:Int)<=v1/\v1<=(a0.length:Int))<|
  (H9 (A6 a0 0 v1)).bind λv6=>
  req (RM (((v6).length:Int)+(([a1]:List (Ag)).length:Int)) 16)<|
  req (RM ((((v6++ [a1])).length:Int)+((v5).length:Int)) 16)<|
  some ((v6++ [a1])++v5)
def Ko(a0:List (Ag))(a1:Ag)(v7:Int):Option ((Int) ⊕ Option (List (Ag))):=
 if(decide (v7>0))then
  (getI a0 (IntKind.i64.wrap (v7-1))).bind λy8=>
  if(!(Op.bytesLess y8 a1||y8==a1))then
   some (.inl (IntKind.i64.wrap (v7-1)))
  else
   some (.inr (Ro a0 a1 v7))
 else
  some (.inr (Ro a0 a1 v7))
def L8(a0:List (Ag))(a1:Ag):Option (List (Ag)):=
 Az (λs:Int=>Ko a0 a1 s) (a0.length:Int)
def tD(v1:List AE)(v2:Int)(v12:List Ap × AQ)(v14:List Int)(v15 v16:Int)(v17:List (Ag)):Option ((List AE × Int × List Int × Int × Int) ⊕ Option (List AE × AQ)):=
 if((IntKind.i64.wrap ((v17.length:Int)+(v12.1.length:Int)))==0)then
  req (RM (((v1).length:Int)+(([(⟨v2,[([97]:Ag)],v12.1⟩:AE)]:List AE).length:Int)) 56)<|
  some (.inl ((v1++ [(⟨v2,[([97]:Ag)],v12.1⟩:AE)]),(IntKind.i64.wrap (v2+1)),v14,v15,v16))
 else
  req (RM (((v1).length:Int)+(([(⟨v2,v17,v12.1⟩:AE)]:List AE).length:Int)) 56)<|
  some (.inl ((v1++ [(⟨v2,v17,v12.1⟩:AE)]),(IntKind.i64.wrap (v2+1)),v14,v15,v16))
def gN(v1:List AE)(v2:Int)(v12:List Ap × AQ)(v18:Int)(v19:List Int)(v20 v21:Int)(v22:List (Ag)):Option ((Int × List Int × Int × Int × List (Ag)) ⊕ Option ((List AE × Int × List Int × Int × Int) ⊕ Option (List AE × AQ))):=
 if(decide (v18>0))then
  (U1 (⟨v19,v20,v21⟩:AQ)).bind λv23=>
  (L8 v22 v23.1).bind λv24=>
  some (.inl ((IntKind.i64.wrap (v18-1)),v23.2.bk,v23.2.df,v23.2.bm,v24))
 else
  some (.inr (tD v1 v2 v12 v19 v20 v21 v22))
def XR(v1:List AE)(v2 v6 v7:Int)(v8:Bool)(v9:List Int)(v10 v11:Int):Option ((List AE × Int × List Int × Int × Int) ⊕ Option (List AE × AQ)):=
 if v8 then
  (UU (⟨v9,v10,v11⟩:AQ)).bind λv12=>
  (Ff v12.2 3).bind λv13=>
  Az (λs:Int × List Int × Int × Int × List (Ag)=>gN v1 v2 v12 s.1 s.2.1 s.2.2.1 s.2.2.2.1 s.2.2.2.2) (v13.1,v13.2.bk,v13.2.df,v13.2.bm,[])
 else
  some (.inr (some (v1,(⟨v9,v10,v11⟩:AQ))))
def gL(v1:List AE)(v2:Int)(v3:List Int)(v4 v5:Int):Option ((List AE × Int × List Int × Int × Int) ⊕ Option (List AE × AQ)):=
 if(decide (v2<=4))then
  (Ns (⟨v3,v4,v5⟩:AQ) 5).bind λv25=>
  XR v1 v2 0 0 (!v25.1) v25.2.bk v25.2.df v25.2.bm
 else
  XR v1 v2 0 0 false v3 v4 v5
def XZ(a0:AQ):Option (List AE × AQ):=
 Az (λs:List AE × Int × List Int × Int × Int=>gL s.1 s.2.1 s.2.2.1 s.2.2.2.1 s.2.2.2.2) ([],1,a0.bk,a0.df,a0.bm)
def IS(a0 a1 a2:Int):Option (Bool):=
 some ((decide (a0>=a1))&&(decide (a0<=a2)))
def iD(v1:Int)(v3:Bool):Option ((Int) ⊕ Option (Bool)):=
 if(!v3)then
  some (.inr (some false))
 else
  some (.inl (IntKind.i64.wrap (v1+1)))
def U6(a1:Ag)(v1:Int)(y2:UInt8)(v4:Bool)(v5:Int):Option ((Bool × Int) ⊕ Option ((Int) ⊕ Option (Bool))):=
 if(decide (v5<(a1.length:Int)))then
  if v4 then
   some (.inl (true,(IntKind.i64.wrap (v5+1))))
  else
   (getI a1 v5).bind λy6=>
   some (.inl (((y2.toNat:Int)==(y6.toNat:Int)),(IntKind.i64.wrap (v5+1))))
 else
  some (.inr (iD v1 v4))
def iG(a0 a1:Ag)(v1:Int):Option ((Int) ⊕ Option (Bool)):=
 if(decide (v1<(a0.length:Int)))then
  (getI a0 v1).bind λy2=>
  Az (λs:Bool × Int=>U6 a1 v1 y2 s.1 s.2) ((((decide ((y2.toNat:Int)>=97))&&(decide ((y2.toNat:Int)<=122)))||((decide ((y2.toNat:Int)>=48))&&(decide ((y2.toNat:Int)<=57)))),0)
 else
  some (.inr (some true))
def Vv(a0 a1:Ag):Option (Bool):=
 Az (λs:Int=>iG a0 a1 s) 0
def Px(a0:Ag):Option (Bool):=
 (IS (a0.length:Int) 1 12).bind λv1=>
 if v1 then
  (Vv a0 ([46,47]:Ag)).bind λv2=>
  some v2
 else
  some false
def iJ(a0:List (Ag)):Option (Bool):=
 some (decide ((a0.length:Int)<4))
def Ry(a0:List (Ag))(v1:Int):Option ((Int) ⊕ Option (Bool)):=
 if(decide (v1<(a0.length:Int)))then
  (getI a0 v1).bind λy2=>
  (Px y2).bind λv3=>
  if(decide (v1>0))then
   if v3 then
    (getI a0 (IntKind.i64.wrap (v1-1))).bind λy4=>
    if(!Op.bytesLess y4 y2)then
     some (.inr (some false))
    else
     some (.inl (IntKind.i64.wrap (v1+1)))
   else
    some (.inr (some false))
  else
   if((!v3)||false)then
    some (.inr (some false))
   else
    some (.inl (IntKind.i64.wrap (v1+1)))
 else
  some (.inr (iJ a0))
def Vr(a0:List (Ag)):Option (Bool):=
 Az (λs:Int=>Ry a0 s) 0
def Nv(a0:Int):Option (Bool):=
 (IS a0 1 100000).bind λv1=>
 some v1
def iT(a0:List (Ag)):Option (Bool):=
 some (decide ((a0.length:Int)<=8))
def Rk(a0:List (Ag))(v1:Int):Option ((Int) ⊕ Option (Bool)):=
 if(decide (v1<(a0.length:Int)))then
  (getI a0 v1).bind λy2=>
  (Px y2).bind λv3=>
  if(decide (v1>0))then
   if v3 then
    (getI a0 (IntKind.i64.wrap (v1-1))).bind λy4=>
    if(!Op.bytesLess y4 y2)then
     some (.inr (some false))
    else
     some (.inl (IntKind.i64.wrap (v1+1)))
   else
    some (.inr (some false))
  else
   if((!v3)||false)then
    some (.inr (some false))
   else
    some (.inl (IntKind.i64.wrap (v1+1)))
 else
  some (.inr (iT a0))
def Y8(a0:List (Ag)):Option (Bool):=
 Az (λs:Int=>Rk a0 s) 0
def Zl(a0:Ag):Option (Bool):=
 if(decide ((a0.length:Int)<=24))then
  (Vv a0 ([46,45,44,95]:Ag)).bind λv1=>
  some v1
 else
  some false
def Vs(a0 a1:Ag)(a2:Bool):Option (Bool):=
 (Px a0).bind λv1=>
 if v1 then
  (Zl a1).bind λv2=>
  some (v2&&((!a2)||(a1==([]:Ag))))
 else
  some false
def gT(a0:List Ap):Option (Bool):=
 some (decide ((a0.length:Int)<=24))
def iE(a0:List Ap)(v1:Int):Option ((Int) ⊕ Option (Bool)):=
 if(decide (v1<(a0.length:Int)))then
  (getI a0 v1).bind λy2=>
  (Vs y2.aj y2.bw y2.bj).bind λv3=>
  if(decide (v1>0))then
   if v3 then
    (getI a0 (IntKind.i64.wrap (v1-1))).bind λy4=>
    if(!Op.bytesLess y4.aj y2.aj)then
     some (.inr (some false))
    else
     some (.inl (IntKind.i64.wrap (v1+1)))
   else
    some (.inr (some false))
  else
   if((!v3)||false)then
    some (.inr (some false))
   else
    some (.inl (IntKind.i64.wrap (v1+1)))
 else
  some (.inr (gT a0))
def YC(a0:List Ap):Option (Bool):=
 Az (λs:Int=>iE a0 s) 0
def YD(a0:AP)(v7:Bool):Option (Bool):=
 if v7 then
  (IS a0.ah 1 60).bind λv8=>
  if a0.bg then
   if v8 then
    (Nv a0.af).bind λv9=>
    some (v9||false)
   else
    some false
  else
   some (v8&&(a0.af==0))
 else
  if(a0.az==4)then
   if(a0.ah==0)then
    (Nv a0.af).bind λv10=>
    some (v10&&(!a0.bg))
   else
    some false
  else
   some false
def Mb(a0:AP):Option (Bool):=
 if((a0.az !=1)&&((a0.bh !=0)||(decide ((IntKind.i64.wrap ((a0.aq.length:Int)+(a0.ae.length:Int)))>0))))then
  some false
 else
  if(a0.az==1)then
   (IS a0.ah 1 60).bind λv1=>
   if v1 then
    (Nv a0.af).bind λv2=>
    if v2 then
     (IS a0.bh 0 3).bind λv3=>
     if v3 then
      (Y8 a0.aq).bind λv4=>
      if v4 then
       (YC a0.ae).bind λv5=>
       if v5 then
        (IS (a0.ae.length:Int) 0 8).bind λv6=>
        some ((v6&&(decide ((IntKind.i64.wrap ((a0.aq.length:Int)+(a0.ae.length:Int)))>0)))&&(!a0.bg))
       else
        some false
      else
       some false
     else
      some false
    else
     some false
   else
    some false
  else
   if(a0.az==2)then
    YD a0 (a0.az==2)
   else
    YD a0 (a0.az==3)
def YX(a0:AE):Option (Bool):=
 (Mb (⟨1,a0.ah,1,0,a0.aq,a0.ae,false⟩:AP)).bind λv1=>
 some v1
def gV(a0:List AE):Option (Bool):=
 some (decide ((a0.length:Int)<=8))
def Yb(v1:Int):Option ((Int) ⊕ Option (Bool)):=
 some (.inl (IntKind.i64.wrap (v1+1)))
def Rh(a0:List AE)(v1:Int)(y2:AE)(v4:Int):Option ((Int) ⊕ Option ((Int) ⊕ Option (Bool))):=
 if(decide (v4<((A6 a0 0 v1).length:Int)))then
  (getI (A6 a0 0 v1) v4).bind λy5=>
  if(y2.ah==y5.ah)then
   some (.inr (some (.inr (some false))))
  else
   some (.inl (IntKind.i64.wrap (v4+1)))
 else
  some (.inr (Yb v1))
def Q7(a0:List AE)(v1:Int):Option ((Int) ⊕ Option (Bool)):=
 if(decide (v1<(a0.length:Int)))then
  (getI a0 v1).bind λy2=>
  (YX y2).bind λv3=>
  if(!v3)then
   some (.inr (some false))
  else
   req (0<=(0:Int)/\(0:Int)<=v1/\v1<=(a0.length:Int))<|
   Az (λs:Int=>Rh a0 v1 y2 s) 0
 else
  some (.inr (gV a0))
def Vh(a0:List AE):Option (Bool):=
 Az (λs:Int=>Q7 a0 s) 0
def RA(a0 v1:List AE)(v2:Int):Option ((List AE × Int) ⊕ Option (List AE)):=
 if(decide (v2<(a0.length:Int)))then
  (getI a0 v2).bind λy3=>
  (H9 y3.aq).bind λv4=>
  req (RM ((([]:List Ap).length:Int)+((y3.ae).length:Int)) 40)<|
  req (RM (((v1).length:Int)+(([(⟨y3.ah,v4,y3.ae⟩:AE)]:List AE).length:Int)) 56)<|
  some (.inl ((v1++ [(⟨y3.ah,v4,y3.ae⟩:AE)]),(IntKind.i64.wrap (v2+1))))
 else
  some (.inr (some v1))
def Zf(a0:List AE):Option (List AE):=
 Az (λs:List AE × Int=>RA a0 s.1 s.2) ([],0)
def Zj(a0:List (Ag))(a1:List AE):Option (An × Bool):=
 (Vr a0).bind λv1=>
 if v1 then
  (Vh a1).bind λv2=>
  if(!v2)then
   some ((⟨[],[],[]⟩:An),false)
  else
   (H9 a0).bind λv3=>
   req (0<=(IntKind.i64.wrap ((a0.length:Int)+1))/\(IntKind.i64.wrap ((a0.length:Int)+1))*80<=140737488355328/\(IntKind.i64.wrap ((a0.length:Int)+1))<=140737488355328)<|
   (Zf a1).bind λv4=>
   some ((⟨v3,(List.replicate ((IntKind.i64.wrap ((a0.length:Int)+1))).toNat (⟨0,[],[],[]⟩:Ai)),v4⟩:An),true)
 else
  some ((⟨[],[],[]⟩:An),false)
def QT(a0:AQ)(a1:List Int):Option (Int × AQ):=
 (Ff a0 (a1.length:Int)).bind λv1=>
 (getI a1 v1.1).bind λy2=>
 some (y2,v1.2)
def RX(a0:An)(a1 v1:Int):Option ((Int) ⊕ Option (Int)):=
 if(decide (v1<(a0.ak.length:Int)))then
  (getI a0.ak v1).bind λy2=>
  if(y2.ah==a1)then
   some (.inr (some v1))
  else
   some (.inl (IntKind.i64.wrap (v1+1)))
 else
  some (.inr (some (-1)))
def VB(a0:An)(a1:Int):Option (Int):=
 Az (λs:Int=>RX a0 a1 s) 0
def Q2(a1:List Ap)(v2:List (Ag))(v3:Int):Option ((List (Ag) × Int) ⊕ Option (List (Ag))):=
 if(decide (v3<(a1.length:Int)))then
  (getI a1 v3).bind λy4=>
  (L8 v2 y4.aj).bind λv5=>
  some (.inl (v5,(IntKind.i64.wrap (v3+1))))
 else
  some (.inr (some v2))
def iN(a1:List Ap)(v1:List (Ag)):Option (List (Ag)):=
 Az (λs:List (Ag) × Int=>Q2 a1 s.1 s.2) (v1,0)
def Q3(a0:List (Ag))(a1:List Ap)(v6:List (Ag))(v7:Int):Option ((List (Ag) × Int) ⊕ Option (List (Ag))):=
 if(decide (v7<(a0.length:Int)))then
  (getI a0 v7).bind λy8=>
  (L8 v6 y8).bind λv9=>
  some (.inl (v9,(IntKind.i64.wrap (v7+1))))
 else
  some (.inr (iN a1 v6))
def YS(a0:List (Ag))(a1:List Ap):Option (List (Ag)):=
 Az (λs:List (Ag) × Int=>Q3 a0 a1 s.1 s.2) ([],0)
def Kj(a0:List (Ag))(a1:Ag)(v1:Int):Option ((Int) ⊕ Option (Int)):=
 if(decide (v1<(a0.length:Int)))then
  (getI a0 v1).bind λy2=>
  if(Op.bytesLess y2 a1||y2==a1)then
   some (.inl (IntKind.i64.wrap (v1+1)))
  else
   some (.inr (some v1))
 else
  some (.inr (some v1))
def R2(a0:List (Ag))(a1:Ag):Option (Int):=
 Az (λs:Int=>Kj a0 a1 s) 0
def Yz(a0:List Int)(a1 v1:Int):Option (List Int):=
 if(decide (v1<(a0.length:Int)))then
  (getI a0 v1).bind λy2=>
  if(y2==a1)then
   some a0
  else
   req (0<=(0:Int)/\(0:Int)<=v1/\v1<=(a0.length:Int))<|
   req (RM ((([]:List Int).length:Int)+(((A6 a0 0 v1)).length:Int)) 8)<|
   req (RM ((((A6 a0 0 v1)).length:Int)+(([a1]:List Int).length:Int)) 8)<|
   req (0<=v1/\v1<=(a0.length:Int)/\(a0.length:Int)<=(a0.length:Int))<|
   req (RM (((((A6 a0 0 v1)++ [a1])).length:Int)+(((A6 a0 v1 (a0.length:Int))).length:Int)) 8)<|
   some (((A6 a0 0 v1)++ [a1])++(A6 a0 v1 (a0.length:Int)))
 else
  req (0<=(0:Int)/\(0:Int)<=v1/\v1<=(a0.length:Int))<|
  req (RM ((([]:List Int).length:Int)+(((A6 a0 0 v1)).length:Int)) 8)<|
  req (RM ((((A6 a0 0 v1)).length:Int)+(([a1]:List Int).length:Int)) 8)<|
  req (0<=v1/\v1<=(a0.length:Int)/\(a0.length:Int)<=(a0.length:Int))<|
  req (RM (((((A6 a0 0 v1)++ [a1])).length:Int)+(((A6 a0 v1 (a0.length:Int))).length:Int)) 8)<|
  some (((A6 a0 0 v1)++ [a1])++(A6 a0 v1 (a0.length:Int)))
def RU(a0:List Int)(a1 v3:Int):Option ((Int) ⊕ Option (List Int)):=
 if(decide (v3<(a0.length:Int)))then
  (getI a0 v3).bind λy4=>
  if(decide (y4<a1))then
   some (.inl (IntKind.i64.wrap (v3+1)))
  else
   some (.inr (Yz a0 a1 v3))
 else
  some (.inr (Yz a0 a1 v3))
def jT(a0:List Int)(a1:Int):Option (List Int):=
 Az (λs:Int=>RU a0 a1 s) 0
def Nr(a0:List (Ag))(a1:List (Ag))(v1:List Int)(v2:Int):Option ((List Int × Int) ⊕ Option (List Int)):=
 if(decide (v2<(a1.length:Int)))then
  (getI a1 v2).bind λy3=>
  (R2 a0 y3).bind λv4=>
  (jT v1 v4).bind λv5=>
  some (.inl (v5,(IntKind.i64.wrap (v2+1))))
 else
  some (.inr (some v1))
def Vb(a0:List (Ag))(a1:List (Ag)):Option (List Int):=
 Az (λs:List Int × Int=>Nr a0 a1 s.1 s.2) ([],0)
def Nw(a0:List (Ag))(a1:AE):Option (List Int):=
 (YS a1.aq a1.ae).bind λv1=>
 (Vb a0 v1).bind λv2=>
 some v2
def XV(v1 v2:Int × AQ)(v4:List Int)(v5 v6 v7:Int):Option (CB × AQ):=
 if(v1.1==2)then
  (Ff (⟨v4,v5,v6⟩:AQ) 30).bind λv8=>
  some ((⟨v1.1,(IntKind.i64.wrap ((1:Int)+v2.1)),v7,v8.1⟩:CB),(⟨v8.2.bk,v8.2.df,v8.2.bm⟩:AQ))
 else
  some ((⟨v1.1,(IntKind.i64.wrap ((1:Int)+v2.1)),v7,0⟩:CB),(⟨v4,v5,v6⟩:AQ))
def UP(a0:AQ)(a1:An):Option (CB × AQ):=
 (QT a0 ([1,1,1,1,2,2,3,4,4,4]:List Int)).bind λv1=>
 (Ff v1.2 4).bind λv2=>
 (VB a1 (IntKind.i64.wrap ((1:Int)+v2.1))).bind λv3=>
 if((decide (v3>=0))&&((v1.1==1)||(v1.1==4)))then
  (getI a1.ak v3).bind λy9=>
  (Nw a1.bc y9).bind λv10=>
  (Ff v2.2 (v10.length:Int)).bind λv11=>
  (getI v10 v11.1).bind λy12=>
  XV v1 v2 v11.2.bk v11.2.df v11.2.bm y12
 else
  XV v1 v2 v2.2.bk v2.2.df v2.2.bm 0
def gO(v3:An × Bool)(v5:List CB)(v6:Int)(v7:List Int)(v8 v9:Int):Option ((List CB × Int × List Int × Int × Int) ⊕ Option ((An × List CB) × AQ)):=
 if(decide (v6>0))then
  (UP (⟨v7,v8,v9⟩:AQ) v3.1).bind λv10=>
  req (RM (((v5).length:Int)+(([v10.1]:List CB).length:Int)) 32)<|
  some (.inl ((v5++ [v10.1]),(IntKind.i64.wrap (v6-1)),v10.2.bk,v10.2.df,v10.2.bm))
 else
  some (.inr (some ((v3.1,v5),(⟨v7,v8,v9⟩:AQ))))
def UT(a0:AQ):Option ((An × List CB) × AQ):=
 (Yi a0).bind λv1=>
 (XZ v1.2).bind λv2=>
 (Zj v1.1 v2.1).bind λv3=>
 (Ff v2.2 24).bind λv4=>
 Az (λs:List CB × Int × List Int × Int × Int=>gO v3 s.1 s.2.1 s.2.2.1 s.2.2.2.1 s.2.2.2.2) ([],v4.1,v4.2.bk,v4.2.df,v4.2.bm)
def X9(a0:List Int):Option (An × List CB):=
 (UT (⟨a0,0,0⟩:AQ)).bind λv1=>
 some (v1.1.1,v1.1.2)
def L9(a0 a1 a2:Int):Option (Bool):=
 some ((decide (a0>=a1))&&(decide (a0<=a2)))
def gQ(a0:Int):Option (Bool):=
 some (((decide (a0>=97))&&(decide (a0<=122)))||((decide (a0>=48))&&(decide (a0<=57))))
def gX(a0:Ag)(a1:Int):Option (Int):=
 (XO a0 a1).bind λv1=>
 some v1
def gU(a0 a1:Ag)(v1:Int):Option ((Int) ⊕ Option (Bool)):=
 if(decide (v1<(a0.length:Int)))then
  (getI a0 v1).bind λy2=>
  (gQ (y2.toNat:Int)).bind λv3=>
  if v3 then
   some (.inl (IntKind.i64.wrap (v1+1)))
  else
   (gX a1 (y2.toNat:Int)).bind λv4=>
   if(decide (v4<0))then
    some (.inr (some false))
   else
    some (.inl (IntKind.i64.wrap (v1+1)))
 else
  some (.inr (some true))
def Va(a0 a1:Ag):Option (Bool):=
 Az (λs:Int=>gU a0 a1 s) 0
def Zd(a0:Ag):Option (Bool):=
 (L9 (a0.length:Int) 1 12).bind λv1=>
 if v1 then
  (Va a0 ([46,47]:Ag)).bind λv2=>
  some v2
 else
  some false
def gW(a0:List (Ag))(v1:Int):Option ((Int) ⊕ Option (Bool)):=
 if(decide (v1<(a0.length:Int)))then
  (getI a0 v1).bind λy2=>
  (Zd y2).bind λv3=>
  if(decide (v1>0))then
   if v3 then
    (getI a0 (IntKind.i64.wrap (v1-1))).bind λy4=>
    if(Op.bytesLess y2 y4||y2==y4)then
     some (.inr (some false))
    else
     some (.inl (IntKind.i64.wrap (v1+1)))
   else
    some (.inr (some false))
  else
   if((!v3)||false)then
    some (.inr (some false))
   else
    some (.inl (IntKind.i64.wrap (v1+1)))
 else
  some (.inr (some true))
def Nt(a0:List (Ag)):Option (Bool):=
 Az (λs:Int=>gW a0 s) 0
def YZ(a0:List (Ag)):Option (Bool):=
 if(decide ((a0.length:Int)<4))then
  (Nt a0).bind λv1=>
  some v1
 else
  some false
def RZ(a0:Int):Option (Bool):=
 (L9 a0 0 100000).bind λv1=>
 some v1
def Nu(a0:Int):Option (Bool):=
 (L9 a0 1 100000).bind λv1=>
 some v1
def YR(a0:Ag):Option (Bool):=
 if(decide ((a0.length:Int)<=24))then
  (Va a0 ([46,45,44,95]:Ag)).bind λv1=>
  some v1
 else
  some false
def U8(a0:Ag)(a1:Bool):Option (Bool):=
 (YR a0).bind λv1=>
 some (v1&&(!(a1&&(a0 !=([]:Ag)))))
def jA(a0:Ak):Option (Bool):=
 (L9 (a0.bb.length:Int) 1 16).bind λv1=>
 some v1
def Pm(a0:Ak)(v2:Int):Option ((Int) ⊕ Option (Bool)):=
 if(decide (v2<(a0.bb.length:Int)))then
  (getI a0.bb v2).bind λy3=>
  (Nu y3.af).bind λv4=>
  if v4 then
   (U8 y3.bw y3.bj).bind λv5=>
   if(decide (v2>0))then
    if v5 then
     (getI a0.bb (IntKind.i64.wrap (v2-1))).bind λy6=>
     if(decide (y3.af<=y6.af))then
      some (.inr (some false))
     else
      some (.inl (IntKind.i64.wrap (v2+1)))
    else
     some (.inr (some false))
   else
    if((!v5)||false)then
     some (.inr (some false))
    else
     some (.inl (IntKind.i64.wrap (v2+1)))
  else
   some (.inr (some false))
 else
  some (.inr (jA a0))
def Y6(a0:Ak):Option (Bool):=
 Az (λs:Int=>Pm a0 s) 0
def Ye(a0:List Ak)(v1:List (Ag)):Option (Bool):=
 if(decide ((a0.length:Int)<=24))then
  (Nt v1).bind λv2=>
  some v2
 else
  some false
def U0(a0:List Ak)(v3:Int)(v4:List (Ag)):Option ((Int × List (Ag)) ⊕ Option (Bool)):=
 if(decide (v3<(a0.length:Int)))then
  (getI a0 v3).bind λy5=>
  (Y6 y5).bind λv6=>
  if(!v6)then
   some (.inr (some false))
  else
   req (RM (((v4).length:Int)+(([y5.aj]:List (Ag)).length:Int)) 16)<|
   some (.inl ((IntKind.i64.wrap (v3+1)),(v4++ [y5.aj])))
 else
  some (.inr (Ye a0 v4))
def Vm(a0:List Ak):Option (Bool):=
 Az (λs:Int × List (Ag)=>U0 a0 s.1 s.2) (0,[])
def RH(a0:AG):Option (AP):=
 some (⟨1,a0.ah,a0.af,a0.bh,a0.aq,a0.ae,false⟩:AP)
def Nx(a0:Int):Option (Bool):=
 (L9 a0 1 60).bind λv1=>
 some v1
def QV(a0:List Ap)(v1:Int)(v2:List (Ag)):Option ((Int × List (Ag)) ⊕ Option (List (Ag))):=
 if(decide (v1<(a0.length:Int)))then
  (getI a0 v1).bind λy3=>
  req (RM (((v2).length:Int)+(([y3.aj]:List (Ag)).length:Int)) 16)<|
  some (.inl ((IntKind.i64.wrap (v1+1)),(v2++ [y3.aj])))
 else
  some (.inr (some v2))
def Vk(a0:List Ap):Option (List (Ag)):=
 Az (λs:Int × List (Ag)=>QV a0 s.1 s.2) (0,[])
def Ya(a0:Ap):Option (Bool):=
 (U8 a0.bw a0.bj).bind λv1=>
 some (!v1)
def Yu(a0:List Ap):Option (Bool):=
 if(decide ((a0.length:Int)<=24))then
  (Vk a0).bind λv1=>
  (Nt v1).bind λv2=>
  if v2 then
   (D4 a0 (λy0_=>Ya y0_)).bind λv3=>
   some (!v3)
  else
   some false
 else
  some false
def Ym(a0:AP)(v6:Bool):Option (Bool):=
 if v6 then
  if(a0.bh==0)then
   if((a0.aq.length:Int)==0)then
    if((a0.ae.length:Int)==0)then
     (Nx a0.ah).bind λv7=>
     if a0.bg then
      if v7 then
       (Nu a0.af).bind λv8=>
       some (v8||false)
      else
       some false
     else
      some (v7&&(a0.af==0))
    else
     some false
   else
    some false
  else
   some false
 else
  if(a0.az==4)then
   if(a0.bh==0)then
    if((a0.aq.length:Int)==0)then
     if((a0.ae.length:Int)==0)then
      if(a0.ah==0)then
       (Nu a0.af).bind λv9=>
       some (v9&&(!a0.bg))
      else
       some false
     else
      some false
    else
     some false
   else
    some false
  else
   some false
def Vt(a0:AP):Option (Bool):=
 if(a0.az==1)then
  (Nx a0.ah).bind λv1=>
  if v1 then
   (Nu a0.af).bind λv2=>
   if v2 then
    (L9 a0.bh 0 3).bind λv3=>
    if v3 then
     if(decide ((a0.aq.length:Int)<=8))then
      (Nt a0.aq).bind λv4=>
      if v4 then
       if(decide ((a0.ae.length:Int)<=8))then
        (Yu a0.ae).bind λv5=>
        some ((v5&&(decide ((IntKind.i64.wrap ((a0.aq.length:Int)+(a0.ae.length:Int)))>0)))&&(!a0.bg))
       else
        some false
      else
       some false
     else
      some false
    else
     some false
   else
    some false
  else
   some false
 else
  if(a0.az==2)then
   Ym a0 (a0.az==2)
  else
   Ym a0 (a0.az==3)
def gA(a0:List Ap)(a1:Ag)(a2:Ap->(Ag)->Option Int)(v1:Int):Option (Int × Bool):=
 if(decide (v1<(a0.length:Int)))then
  (getI a0 v1).bind λy2=>
  (a2 y2 a1).bind λv3=>
  some (v1,(v3==0))
 else
  some (v1,false)
def QM(a0:List Ap)(a1:Ag)(a2:Ap->(Ag)->Option Int)(v4 v5:Int):Option ((Int × Int) ⊕ Option (Int × Bool)):=
 if(decide (v4<v5))then
  (getI a0 (IntKind.i64.wrap (Int.fdiv (IntKind.u64.wrap (IntKind.i64.wrap (v4+v5))) (2^(min ((1:Int)).toNat (IntKind.bits .u64)))))).bind λy6=>
  (a2 y6 a1).bind λv7=>
  if(decide (v7<0))then
   some (.inl ((IntKind.i64.wrap ((IntKind.i64.wrap (Int.fdiv (IntKind.u64.wrap (IntKind.i64.wrap (v4+v5))) (2^(min ((1:Int)).toNat (IntKind.bits .u64)))))+1)),v5))
  else
   some (.inl (v4,(IntKind.i64.wrap (Int.fdiv (IntKind.u64.wrap (IntKind.i64.wrap (v4+v5))) (2^(min ((1:Int)).toNat (IntKind.bits .u64)))))))
 else
  some (.inr (gA a0 a1 a2 v4))
def gC(a0:List Ap)(a1:Ag)(a2:Ap->(Ag)->Option Int):Option (Int × Bool):=
 Az (λs:Int × Int=>QM a0 a1 a2 s.1 s.2) (0,(a0.length:Int))
def UZ(a0:Ag):Option (Bool):=
 some (a0 !=a0)
def US(a0 a1:Ag):Option (Int):=
 (UZ a0).bind λv1=>
 (UZ a1).bind λv2=>
 if v1 then
  if v2 then
   some 0
  else
   some (-1)
 else
  if v2 then
   some 1
  else
   if(Op.bytesLess a0 a1)then
    some (-1)
   else
    if(!(Op.bytesLess a0 a1||a0==a1))then
     some 1
    else
     some 0
def QZ(a0:Ap)(a1:Ag):Option (Int):=
 (US a0.aj a1).bind λv1=>
 some v1
def Rn(a0:List Ap)(a1:Ag):Option (Int × Bool):=
 (gC a0 a1 (λy0_ y1_=>QZ y0_ y1_)).bind λv1=>
 some (v1.1,v1.2)
def gI(a0:List (Ag))(a1:Ag)(v1:Int):Option ((Int) ⊕ Option (Int)):=
 if(decide (v1<(a0.length:Int)))then
  (getI a0 v1).bind λy2=>
  if(a1==y2)then
   some (.inr (some v1))
  else
   some (.inl (IntKind.i64.wrap (v1+1)))
 else
  some (.inr (some (-1)))
def XM(a0:List (Ag))(a1:Ag):Option (Int):=
 Az (λs:Int=>gI a0 a1 s) 0
def XN(a0:List (Ag))(a1:Ag):Option (Bool):=
 (XM a0 a1).bind λv1=>
 some (decide (v1>=0))
def iU(a0:Ap)(a1:List Ap)(a2:List (Ag)):Option (Bool):=
 (Rn a1 a0.aj).bind λv1=>
 if v1.2 then
  some true
 else
  (XN a2 a0.aj).bind λv2=>
  some v2
def Vx(a0:List Ap)(a1:List (Ag))(a2:List Ap):Option (Bool):=
 (D4 a0 (λy0_=>iU y0_ a2 a1)).bind λv1=>
 some v1
def R7(a0 a1:AG):Option (Bool):=
 (Vx a0.ae a1.aq a1.ae).bind λv1=>
 if v1 then
  some true
 else
  (Vx a1.ae a0.aq a0.ae).bind λv2=>
  some v2
def Pg(a0 a1:AG):Option (Bool):=
 (R7 a1 a0).bind λv1=>
 some v1
def gB(a0:List Ak)(a1:Ag)(a2:Ak->(Ag)->Option Int)(v1:Int):Option (Int × Bool):=
 if(decide (v1<(a0.length:Int)))then
  (getI a0 v1).bind λy2=>
  (a2 y2 a1).bind λv3=>
  some (v1,(v3==0))
 else
  some (v1,false)
def QN(a0:List Ak)(a1:Ag)(a2:Ak->(Ag)->Option Int)(v4 v5:Int):Option ((Int × Int) ⊕ Option (Int × Bool)):=
 if(decide (v4<v5))then
  (getI a0 (IntKind.i64.wrap (Int.fdiv (IntKind.u64.wrap (IntKind.i64.wrap (v4+v5))) (2^(min ((1:Int)).toNat (IntKind.bits .u64)))))).bind λy6=>
  (a2 y6 a1).bind λv7=>
  if(decide (v7<0))then
   some (.inl ((IntKind.i64.wrap ((IntKind.i64.wrap (Int.fdiv (IntKind.u64.wrap (IntKind.i64.wrap (v4+v5))) (2^(min ((1:Int)).toNat (IntKind.bits .u64)))))+1)),v5))
  else
   some (.inl (v4,(IntKind.i64.wrap (Int.fdiv (IntKind.u64.wrap (IntKind.i64.wrap (v4+v5))) (2^(min ((1:Int)).toNat (IntKind.bits .u64)))))))
 else
  some (.inr (gB a0 a1 a2 v4))
def XK(a0:List Ak)(a1:Ag)(a2:Ak->(Ag)->Option Int):Option (Int × Bool):=
 Az (λs:Int × Int=>QN a0 a1 a2 s.1 s.2) (0,(a0.length:Int))
def Pp(a0:Ak)(a1:Ag):Option (Int):=
 (US a0.aj a1).bind λv1=>
 some v1
def RP(a0:List Ak)(a1:Ag):Option (Int × Bool):=
 (XK a0 a1 (λy0_ y1_=>Pp y0_ y1_)).bind λv1=>
 some (v1.1,v1.2)
def RV(a0:List Ak)(a1:Ag):Option (Int):=
 (RP a0 a1).bind λv1=>
 if(!v1.2)then
  some 0
 else
  (getI a0 v1.1).bind λy2=>
  (getI y2.bb (IntKind.i64.wrap ((y2.bb.length:Int)-1))).bind λy3=>
  some y3.af
def Pb(a0:Ap)(a1:AG)(a2:Ai):Option (Bool):=
 (RV a2.ao a0.aj).bind λv1=>
 some (decide (a1.af<=v1))
def XW(a1:List AG)(v2:List (Ag)):Option (Bool):=
 (QL v2).bind λv3=>
 if(decide ((a1.length:Int)<=12))then
  (QK v3.2).bind λv4=>
  some (decide ((v4.length:Int)<=24))
 else
  some false
def X0(v5:Int)(v8:List (Ag)):Option ((Int × List (Ag)) ⊕ Option (Bool)):=
 some (.inl ((IntKind.i64.wrap (v5+1)),v8))
def Ph(a0:Ai)(v5:Int)(y7:AG)(v9:Int)(v10:List (Ag)):Option ((Int × List (Ag)) ⊕ Option ((Int × List (Ag)) ⊕ Option (Bool))):=
 if(decide (v9<(y7.ae.length:Int)))then
  (getI y7.ae v9).bind λy11=>
  (RP a0.ao y11.aj).bind λv12=>
  if v12.2 then
   (getI a0.ao v12.1).bind λy13=>
   if(decide ((y13.bb.length:Int)>=16))then
    some (.inr (some (.inr (some false))))
   else
    req (RM (((v10).length:Int)+(([y11.aj]:List (Ag)).length:Int)) 16)<|
    some (.inl ((IntKind.i64.wrap (v9+1)),(v10++ [y11.aj])))
  else
   req (RM (((v10).length:Int)+(([y11.aj]:List (Ag)).length:Int)) 16)<|
   some (.inl ((IntKind.i64.wrap (v9+1)),(v10++ [y11.aj])))
 else
  some (.inr (X0 v5 v10))
def Nq(a0:Ai)(a1:List AG)(v5:Int)(v6:List (Ag)):Option ((Int × List (Ag)) ⊕ Option (Bool)):=
 if(decide (v5<(a1.length:Int)))then
  (getI a1 v5).bind λy7=>
  Az (λs:Int × List (Ag)=>Ph a0 v5 y7 s.1 s.2) (0,v6)
 else
  some (.inr (XW a1 v6))
def gS(a0:Ai)(a1:List AG)(v1:List (Ag)):Option (Bool):=
 Az (λs:Int × List (Ag)=>Nq a0 a1 s.1 s.2) (0,v1)
def QR(a0:Ai)(a1:List AG)(v14:Int)(v15:List (Ag)):Option ((Int × List (Ag)) ⊕ Option (Bool)):=
 if(decide (v14<(a0.ao.length:Int)))then
  (getI a0.ao v14).bind λy16=>
  req (RM (((v15).length:Int)+(([y16.aj]:List (Ag)).length:Int)) 16)<|
  some (.inl ((IntKind.i64.wrap (v14+1)),(v15++ [y16.aj])))
 else
  some (.inr (gS a0 a1 v15))
def U2(a0:Ai)(a1:List AG):Option (Bool):=
 Az (λs:Int × List (Ag)=>QR a0 a1 s.1 s.2) (0,[])
def UO(a0:Ai):Option (Bool):=
 (U2 a0 a0.ab).bind λv1=>
 some v1
def Kh(a0:Ai)(v2:Int):Option ((Int) ⊕ Option (Bool)):=
 if(decide (v2<(a0.ab.length:Int)))then
  (getI a0.ab v2).bind λy3=>
  (RH y3).bind λv4=>
  (Vt v4).bind λv5=>
  if(decide (v2>0))then
   if v5 then
    if(decide (y3.af>a0.aw))then
     some (.inr (some false))
    else
     (getI a0.ab (IntKind.i64.wrap (v2-1))).bind λy6=>
     if(decide (y3.ah<=y6.ah))then
      some (.inr (some false))
     else
      req (0<=(0:Int)/\(0:Int)<=v2/\v2<=(a0.ab.length:Int))<|
      (D4 (A6 a0.ab 0 v2) (λy0_=>Pg y0_ y3)).bind λv7=>
      if v7 then
       some (.inr (some false))
      else
       (D4 y3.ae (λy0_=>Pb y0_ y3 a0)).bind λv8=>
       if v8 then
        some (.inr (some false))
       else
        some (.inl (IntKind.i64.wrap (v2+1)))
   else
    some (.inr (some false))
  else
   if(((!v5)||(decide (y3.af>a0.aw)))||false)then
    some (.inr (some false))
   else
    req (0<=(0:Int)/\(0:Int)<=v2/\v2<=(a0.ab.length:Int))<|
    (D4 (A6 a0.ab 0 v2) (λy0_=>Pg y0_ y3)).bind λv9=>
    if v9 then
     some (.inr (some false))
    else
     (D4 y3.ae (λy0_=>Pb y0_ y3 a0)).bind λv10=>
     if v10 then
      some (.inr (some false))
     else
      some (.inl (IntKind.i64.wrap (v2+1)))
 else
  some (.inr (UO a0))
def QS(a0:Ai):Option (Bool):=
 Az (λs:Int=>Kh a0 s) 0
def gE(a0:List AG)(a1:Int)(a2:AG->Int->Option Int)(v1:Int):Option (Int × Bool):=
 if(decide (v1<(a0.length:Int)))then
  (getI a0 v1).bind λy2=>
  (a2 y2 a1).bind λv3=>
  some (v1,(v3==0))
 else
  some (v1,false)
def QO(a0:List AG)(a1:Int)(a2:AG->Int->Option Int)(v4 v5:Int):Option ((Int × Int) ⊕ Option (Int × Bool)):=
 if(decide (v4<v5))then
  (getI a0 (IntKind.i64.wrap (Int.fdiv (IntKind.u64.wrap (IntKind.i64.wrap (v4+v5))) (2^(min ((1:Int)).toNat (IntKind.bits .u64)))))).bind λy6=>
  (a2 y6 a1).bind λv7=>
  if(decide (v7<0))then
   some (.inl ((IntKind.i64.wrap ((IntKind.i64.wrap (Int.fdiv (IntKind.u64.wrap (IntKind.i64.wrap (v4+v5))) (2^(min ((1:Int)).toNat (IntKind.bits .u64)))))+1)),v5))
  else
   some (.inl (v4,(IntKind.i64.wrap (Int.fdiv (IntKind.u64.wrap (IntKind.i64.wrap (v4+v5))) (2^(min ((1:Int)).toNat (IntKind.bits .u64)))))))
 else
  some (.inr (gE a0 a1 a2 v4))
def XJ(a0:List AG)(a1:Int)(a2:AG->Int->Option Int):Option (Int × Bool):=
 Az (λs:Int × Int=>QO a0 a1 a2 s.1 s.2) (0,(a0.length:Int))
def Vg(a0:Int):Option (Bool):=
 some (a0 !=a0)
def UX(a0 a1:Int):Option (Int):=
 (Vg a0).bind λv1=>
 (Vg a1).bind λv2=>
 if v1 then
  if v2 then
   some 0
  else
   some (-1)
 else
  if v2 then
   some 1
  else
   if(decide (a0<a1))then
    some (-1)
   else
    if(decide (a0>a1))then
     some 1
    else
     some 0
def O9(a0:AG)(a1:Int):Option (Int):=
 (UX a0.ah a1).bind λv1=>
 some v1
def Kd(a0:Ai)(a1:Int):Option (Int × Bool):=
 (XJ a0.ab a1 (λy0_ y1_=>O9 y0_ y1_)).bind λv1=>
 some (v1.1,v1.2)
def Kg(a0:Ai)(v4:Int):Option ((Int) ⊕ Option (Bool)):=
 if(decide (v4<(a0.au.length:Int)))then
  (getI a0.au v4).bind λy5=>
  if y5.bg then
   (L9 y5.af 1 a0.aw).bind λv6=>
   (Nx y5.ah).bind λv7=>
   if(decide (v4>0))then
    if v7 then
     if v6 then
      (getI a0.au (IntKind.i64.wrap (v4-1))).bind λy8=>
      if(decide (y5.ah<=y8.ah))then
       some (.inr (some false))
      else
       (Kd a0 y5.ah).bind λv9=>
       if v9.2 then
        some (.inr (some false))
       else
        some (.inl (IntKind.i64.wrap (v4+1)))
     else
      some (.inr (some false))
    else
     some (.inr (some false))
   else
    if(((!v7)||(!(v6||false)))||false)then
     some (.inr (some false))
    else
     (Kd a0 y5.ah).bind λv10=>
     if v10.2 then
      some (.inr (some false))
     else
      some (.inl (IntKind.i64.wrap (v4+1)))
  else
   (Nx y5.ah).bind λv11=>
   if(decide (v4>0))then
    if v11 then
     if(y5.af==0)then
      (getI a0.au (IntKind.i64.wrap (v4-1))).bind λy12=>
      if(decide (y5.ah<=y12.ah))then
       some (.inr (some false))
      else
       (Kd a0 y5.ah).bind λv13=>
       if v13.2 then
        some (.inr (some false))
       else
        some (.inl (IntKind.i64.wrap (v4+1)))
     else
      some (.inr (some false))
    else
     some (.inr (some false))
   else
    if(((!v11)||(!(y5.af==0)))||false)then
     some (.inr (some false))
    else
     (Kd a0 y5.ah).bind λv14=>
     if v14.2 then
      some (.inr (some false))
     else
      some (.inl (IntKind.i64.wrap (v4+1)))
 else
  some (.inr (some true))
def Q9(a0:Ai):Option (Bool):=
 Az (λs:Int=>Kg a0 s) 0
def Kf(a0:Ai)(v15:Int):Option ((Int) ⊕ Option (Bool)):=
 if(decide (v15<(a0.ao.length:Int)))then
  (getI a0.ao v15).bind λy16=>
  (RV a0.ao y16.aj).bind λv17=>
  if(decide (v17>a0.aw))then
   some (.inr (some false))
  else
   some (.inl (IntKind.i64.wrap (v15+1)))
 else
  some (.inr (Q9 a0))
def Ru(a0:Ai):Option (Bool):=
 (RZ a0.aw).bind λv1=>
 if v1 then
  (Vm a0.ao).bind λv2=>
  if v2 then
   (QS a0).bind λv3=>
   if((!v3)||(decide ((a0.au.length:Int)>60)))then
    some false
   else
    Az (λs:Int=>Kf a0 s) 0
  else
   some false
 else
  some false
def YK(a0:Ai):Option (Bool):=
 (Ru a0).bind λv1=>
 some (!v1)
def jG(a0:List (Ag))(a1:List Ap):Option (Bool):=
 (Vt (⟨1,1,1,0,a0,a1,false⟩:AP)).bind λv1=>
 some v1
def YO(a0:AE):Option (Bool):=
 (Nx a0.ah).bind λv1=>
 if v1 then
  (jG a0.aq a0.ae).bind λv2=>
  some v2
 else
  some false
def iC(a0 a1:AE):Option (Bool):=
 some (a0.ah==a1.ah)
def iQ(a0:An):Option (Bool):=
 some (decide ((a0.ak.length:Int)<=8))
def Pd(a0:An)(v3:Int):Option ((Int) ⊕ Option (Bool)):=
 if(decide (v3<(a0.ak.length:Int)))then
  (getI a0.ak v3).bind λy4=>
  (YO y4).bind λv5=>
  if v5 then
   req (0<=(0:Int)/\(0:Int)<=v3/\v3<=(a0.ak.length:Int))<|
   (D4 (A6 a0.ak 0 v3) (λy0_=>iC y0_ y4)).bind λv6=>
   if v6 then
    some (.inr (some false))
   else
    some (.inl (IntKind.i64.wrap (v3+1)))
  else
   some (.inr (some false))
 else
  some (.inr (iQ a0))
def L6(a0:An):Option (Bool):=
 (YZ a0.bc).bind λv1=>
 if v1 then
  if((a0.ar.length:Int) !=(IntKind.i64.wrap ((a0.bc.length:Int)+1)))then
   some false
  else
   (D4 a0.ar (λy0_=>YK y0_)).bind λv2=>
   if v2 then
    some false
   else
    Az (λs:Int=>Pd a0 s) 0
 else
  some false
def IQ(xs:List (Ag)):Option (List (Ag)):=PR 16 xs
def gG(xs:List Bz):Option (List Bz):=PR 24 xs
def L5(xs:List Ap):Option (List Ap):=PR 40 xs
def R1(a0:AP):Option (AG):=
 (IQ a0.aq).bind λv1=>
 (L5 a0.ae).bind λv2=>
 some (⟨a0.ah,a0.af,a0.bh,v1,v2⟩:AG)
def Yy(a0:AG):Option (AG):=
 (RH a0).bind λv1=>
 (R1 v1).bind λv2=>
 some v2
def Q5(a0:Ai)(v1:List Ak)(v2:List Bz)(v3:Int)(v4:List AG):Option ((Int × List AG) ⊕ Option (Ai)):=
 if(decide (v3<(a0.ab.length:Int)))then
  (getI a0.ab v3).bind λy5=>
  (Yy y5).bind λv6=>
  req (RM (((v4).length:Int)+(([v6]:List AG).length:Int)) 72)<|
  some (.inl ((IntKind.i64.wrap (v3+1)),(v4++ [v6])))
 else
  some (.inr (some (⟨a0.aw,v1,v4,v2⟩:Ai)))
def Pn(a0:Ai):Option (Ai):=
 (Rm a0.ao).bind λv1=>
 (gG a0.au).bind λv2=>
 Az (λs:Int × List AG=>Q5 a0 v1 v2 s.1 s.2) (0,[])
def YF(a0:AE):Option (AE):=
 (IQ a0.aq).bind λv1=>
 (L5 a0.ae).bind λv2=>
 some (⟨a0.ah,v1,v2⟩:AE)
def Q4(a0:An)(v1:List (Ag))(v2:List Ai)(v3:Int)(v4:List AE):Option ((Int × List AE) ⊕ Option (An)):=
 if(decide (v3<(a0.ak.length:Int)))then
  (getI a0.ak v3).bind λy5=>
  (YF y5).bind λv6=>
  req (RM (((v4).length:Int)+(([v6]:List AE).length:Int)) 56)<|
  some (.inl ((IntKind.i64.wrap (v3+1)),(v4++ [v6])))
 else
  some (.inr (some (⟨v1,v2,v4⟩:An)))
def tP(a0:An)(v1:List (Ag))(v2:List Ai):Option (An):=
 Az (λs:Int × List AE=>Q4 a0 v1 v2 s.1 s.2) (0,[])
def Q0(a0:An)(v1:List (Ag))(v7:Int)(v8:List Ai):Option ((Int × List Ai) ⊕ Option (An)):=
 if(decide (v7<(a0.ar.length:Int)))then
  (getI a0.ar v7).bind λy9=>
  (Pn y9).bind λv10=>
  req (RM (((v8).length:Int)+(([v10]:List Ai).length:Int)) 80)<|
  some (.inl ((IntKind.i64.wrap (v7+1)),(v8++ [v10])))
 else
  some (.inr (tP a0 v1 v8))
def Ve(a0:An):Option (An):=
 (IQ a0.bc).bind λv1=>
 Az (λs:Int × List Ai=>Q0 a0 v1 s.1 s.2) (0,[])
def iB(a0:AE)(a1:CB):Option (Bool):=
 some (a0.ah==a1.ah)
def Y7(a0:List (Ag))(a1:List Ap):Option (List (Ag)):=
 (IQ a0).bind λv1=>
 (Vk a1).bind λv2=>
 req (RM (((v1).length:Int)+((v2).length:Int)) 16)<|
 (QL (v1++v2)).bind λv3=>
 (QK v3.2).bind λv4=>
 some v4
def Rl(a0:List (Ag))(a1:Ag)(v1 v2:Int):Option ((Int × Int) ⊕ Option (Int)):=
 if(decide (v2<(a0.length:Int)))then
  (getI a0 v2).bind λy3=>
  if(Op.bytesLess y3 a1||y3==a1)then
   some (.inl ((IntKind.i64.wrap (v1+1)),(IntKind.i64.wrap (v2+1))))
  else
   some (.inl (v1,(IntKind.i64.wrap (v2+1))))
 else
  some (.inr (some v1))
def Vq(a0:List (Ag))(a1:Ag):Option (Int):=
 Az (λs:Int × Int=>Rl a0 a1 s.1 s.2) (0,0)
def iL(v2:List Int):Option (List Int):=
 (XL v2).bind λv3=>
 some v3
def RJ(a0:List (Ag))(v1:List (Ag))(v4:Int)(v5:List Int):Option ((Int × List Int) ⊕ Option (List Int)):=
 if(decide (v4<(v1.length:Int)))then
  (getI v1 v4).bind λy6=>
  (Vq a0 y6).bind λv7=>
  req (RM (((v5).length:Int)+(([v7]:List Int).length:Int)) 8)<|
  some (.inl ((IntKind.i64.wrap (v4+1)),(v5++ [v7])))
 else
  some (.inr (iL v5))
def YQ(a0:List (Ag))(a1:List (Ag))(a2:List Ap):Option (List Int):=
 (Y7 a1 a2).bind λv1=>
 Az (λs:Int × List Int=>RJ a0 v1 s.1 s.2) (0,[])
def L7(a0:An)(a1:AE):Option (List Int):=
 (YQ a0.bc a1.aq a1.ae).bind λv1=>
 some v1
def QJ(a0:List Int)(a1 v1:Int):Option ((Int) ⊕ Option (Int)):=
 if(decide (v1<(a0.length:Int)))then
  (getI a0 v1).bind λy2=>
  if(a1==y2)then
   some (.inr (some v1))
  else
   some (.inl (IntKind.i64.wrap (v1+1)))
 else
  some (.inr (some (-1)))
def gJ(a0:List Int)(a1:Int):Option (Int):=
 Az (λs:Int=>QJ a0 a1 s) 0
def UQ(a0:List Int)(a1:Int):Option (Bool):=
 (gJ a0 a1).bind λv1=>
 some (decide (v1>=0))
def gD(a0:List Bz)(a1:Int)(a2:Bz->Int->Option Int)(v1:Int):Option (Int × Bool):=
 if(decide (v1<(a0.length:Int)))then
  (getI a0 v1).bind λy2=>
  (a2 y2 a1).bind λv3=>
  some (v1,(v3==0))
 else
  some (v1,false)
def QP(a0:List Bz)(a1:Int)(a2:Bz->Int->Option Int)(v4 v5:Int):Option ((Int × Int) ⊕ Option (Int × Bool)):=
 if(decide (v4<v5))then
  (getI a0 (IntKind.i64.wrap (Int.fdiv (IntKind.u64.wrap (IntKind.i64.wrap (v4+v5))) (2^(min ((1:Int)).toNat (IntKind.bits .u64)))))).bind λy6=>
  (a2 y6 a1).bind λv7=>
  if(decide (v7<0))then
   some (.inl ((IntKind.i64.wrap ((IntKind.i64.wrap (Int.fdiv (IntKind.u64.wrap (IntKind.i64.wrap (v4+v5))) (2^(min ((1:Int)).toNat (IntKind.bits .u64)))))+1)),v5))
  else
   some (.inl (v4,(IntKind.i64.wrap (Int.fdiv (IntKind.u64.wrap (IntKind.i64.wrap (v4+v5))) (2^(min ((1:Int)).toNat (IntKind.bits .u64)))))))
 else
  some (.inr (gD a0 a1 a2 v4))
def XI(a0:List Bz)(a1:Int)(a2:Bz->Int->Option Int):Option (Int × Bool):=
 Az (λs:Int × Int=>QP a0 a1 a2 s.1 s.2) (0,(a0.length:Int))
def Pa(a0:Bz)(a1:Int):Option (Int):=
 (UX a0.ah a1).bind λv1=>
 some v1
def L4(a0:Ai)(a1:Int):Option (Int × Bool):=
 (XI a0.au a1 (λy0_ y1_=>Pa y0_ y1_)).bind λv1=>
 some (v1.1,v1.2)
def jL(a0:Int):Option (Int × Bool):=
 if(decide (a0>100000))then
  some (0,false)
 else
  some (a0,true)
def YE(a0:Ag)(a1:List (Ag))(a2:Int):Option (Bool):=
 (Vq a1 a0).bind λv1=>
 some (v1 !=a2)
def Ze(a0:List (Ag))(a1:List (Ag))(a2:Int):Option (List (Ag)):=
 (IQ a1).bind λv1=>
 (Pw v1 (λy0_=>YE y0_ a0 a2)).bind λv2=>
 some v2
def Yq(a0:Ap)(a1:List (Ag))(a2:Int):Option (Bool):=
 (Vq a1 a0.aj).bind λv1=>
 some (v1 !=a2)
def YU(a0:List (Ag))(a1:List Ap)(a2:Int):Option (List Ap):=
 (L5 a1).bind λv1=>
 (Pw v1 (λy0_=>Yq y0_ a0 a2)).bind λv2=>
 some v2
def Ys(v2:List Ak):Option (List Ak × Bool):=
 (Vm v2).bind λv3=>
 if(!v3)then
  some ([],false)
 else
  some (v2,true)
def QY(a1:List Ap)(a2 v4:Int)(v5:List Ak):Option ((Int × List Ak) ⊕ Option (List Ak × Bool)):=
 if(decide (v4<(a1.length:Int)))then
  (getI a1 v4).bind λy6=>
  (RV v5 y6.aj).bind λv7=>
  if(decide (a2<=v7))then
   some (.inr (some ([],false)))
  else
   (RP v5 y6.aj).bind λv8=>
   if(!v8.2)then
    (Ib v5 v8.1 ([(⟨y6.aj,[]⟩:Ak)]:List Ak)).bind λv9=>
    (getI v9 v8.1).bind λy10=>
    req (RM (((y10.bb).length:Int)+(([(⟨a2,y6.bw,y6.bj⟩:Df)]:List Df).length:Int)) 32)<|
    some (.inl ((IntKind.i64.wrap (v4+1)),(v9.set (v8.1).toNat {y10 with bb:=(y10.bb++ [(⟨a2,y6.bw,y6.bj⟩:Df)])})))
   else
    (getI v5 v8.1).bind λy11=>
    req (RM (((y11.bb).length:Int)+(([(⟨a2,y6.bw,y6.bj⟩:Df)]:List Df).length:Int)) 32)<|
    some (.inl ((IntKind.i64.wrap (v4+1)),(v5.set (v8.1).toNat {y11 with bb:=(y11.bb++ [(⟨a2,y6.bw,y6.bj⟩:Df)])})))
 else
  some (.inr (Ys v5))
def YV(a0:List Ak)(a1:List Ap)(a2:Int):Option (List Ak × Bool):=
 (Rm a0).bind λv1=>
 Az (λs:Int × List Ak=>QY a1 a2 s.1 s.2) (0,v1)
def XS(a1:AP)(v1:Ai)(v2:Int × Bool)(v3:List Ak)(v4:Int):Option (Ai × Bool):=
 if v2.2 then
  (V3 v1.ab v2.1 (IntKind.i64.wrap (v2.1+1))).bind λv5=>
  (L4 (⟨v4,v3,v5,v1.au⟩:Ai) a1.ah).bind λv6=>
  (Ib v1.au v6.1 ([(⟨a1.ah,a1.bg,a1.af⟩:Bz)]:List Bz)).bind λv7=>
  some ((⟨v4,v3,v5,v7⟩:Ai),true)
 else
  (L4 (⟨v4,v3,v1.ab,v1.au⟩:Ai) a1.ah).bind λv8=>
  (Ib v1.au v8.1 ([(⟨a1.ah,a1.bg,a1.af⟩:Bz)]:List Bz)).bind λv9=>
  some ((⟨v4,v3,v1.ab,v9⟩:Ai),true)
def XX(a0:Ai)(a1:AP):Option (Ai × Bool):=
 (Pn a0).bind λv1=>
 (Kd v1 a1.ah).bind λv2=>
 if a1.bg then
  if v2.2 then
   (getI v1.ab v2.1).bind λy10=>
   if(decide (y10.af>a1.af))then
    some ((⟨0,[],[],[]⟩:Ai),false)
   else
    (YV v1.ao y10.ae a1.af).bind λv11=>
    if(!v11.2)then
     some ((⟨0,[],[],[]⟩:Ai),false)
    else
     XS a1 v1 v2 v11.1 (bif (decide (a1.af>v1.aw))then a1.af else v1.aw)
  else
   some ((⟨0,[],[],[]⟩:Ai),false)
 else
  XS a1 v1 v2 v1.ao v1.aw
def X1(a0 a1:AG):Option (Bool):=
 (R7 a1 a0).bind λv1=>
 some v1
def gH(xs:List AG):Option (List AG):=PR 72 xs
def X6(a0:Ai)(a1:List (Ag))(a2:List Ap):Option (Bool):=
 (D4 a0.ab (λy0_=>X1 y0_ (⟨0,0,0,a1,a2⟩:AG))).bind λv1=>
 if v1 then
  some false
 else
  (gH a0.ab).bind λv2=>
  req (RM (((v2).length:Int)+(([(⟨0,0,0,a1,a2⟩:AG)]:List AG).length:Int)) 72)<|
  (U2 a0 (v2++ [(⟨0,0,0,a1,a2⟩:AG)])).bind λv3=>
  some v3
def XY(a0:Ai)(a1:AP):Option (Ai × Bool):=
 if(a1.az==4)then
  if(decide (a1.af<=a0.aw))then
   some ((⟨0,[],[],[]⟩:Ai),false)
  else
   (Pn a0).bind λv1=>
   some ((⟨a1.af,v1.ao,v1.ab,v1.au⟩:Ai),true)
 else
  (L4 a0 a1.ah).bind λv2=>
  if v2.2 then
   some ((⟨0,[],[],[]⟩:Ai),false)
  else
   if(a1.az !=1)then
    (XX a0 a1).bind λv3=>
    some (v3.1,v3.2)
   else
    (Kd a0 a1.ah).bind λv4=>
    if v4.2 then
     some ((⟨0,[],[],[]⟩:Ai),false)
    else
     if(decide (a1.af<=a0.aw))then
      some ((⟨0,[],[],[]⟩:Ai),false)
     else
      (X6 a0 a1.aq a1.ae).bind λv5=>
      if(!v5)then
       some ((⟨0,[],[],[]⟩:Ai),false)
      else
       (Pn a0).bind λv6=>
       (R1 a1).bind λv7=>
       (Ib v6.ab v4.1 ([v7]:List AG)).bind λv8=>
       some ((⟨a1.af,v6.ao,v8,v6.au⟩:Ai),true)
def Pf(a0:An)(a1:Int)(a2:AP):Option (An × Bool):=
 (getI a0.ar a1).bind λy1=>
 (XY y1 a2).bind λv2=>
 if(!v2.2)then
  some ((⟨[],[],[]⟩:An),false)
 else
  (Ve a0).bind λv3=>
  (getI v3.ar a1).bind λy4=>
  some ((⟨v3.bc,(v3.ar.set (a1).toNat v2.1),v3.ak⟩:An),true)
def X4(a0:An)(a1:AE)(a2:Int):Option (An × Bool):=
 (L7 a0 a1).bind λv1=>
 (UQ v1 a2).bind λv2=>
 if(!v2)then
  some ((⟨[],[],[]⟩:An),false)
 else
  (getI v1 0).bind λy3=>
  (getI a0.ar y3).bind λy4=>
  (L4 y4 a1.ah).bind λv5=>
  if v5.2 then
   some ((⟨[],[],[]⟩:An),false)
  else
   (getI a0.ar a2).bind λy6=>
   (jL (IntKind.i64.wrap (y6.aw+1))).bind λv7=>
   if(!v7.2)then
    some ((⟨[],[],[]⟩:An),false)
   else
    (Ze a0.bc a1.aq a2).bind λv8=>
    (YU a0.bc a1.ae a2).bind λv9=>
    (Pf a0 a2 (⟨1,a1.ah,v7.1,y3,v8,v9,false⟩:AP)).bind λv10=>
    some (v10.1,v10.2)
def XP(a0:An)(a1:AE)(v3:Int):Option (An × Bool):=
 (L7 a0 a1).bind λv4=>
 (getI v4 0).bind λy5=>
 (Pf a0 y5 (⟨2,a1.ah,v3,0,[],[],true⟩:AP)).bind λv6=>
 some (v6.1,v6.2)
def QQ(a0:An)(a1:AE)(v2:List Int)(v7 v8:Int):Option ((Int × Int) ⊕ Option (An × Bool)):=
 if(decide (v8<(v2.length:Int)))then
  (getI v2 v8).bind λy9=>
  (getI a0.ar y9).bind λy10=>
  (Kd y10 a1.ah).bind λv11=>
  if(!v11.2)then
   some (.inr (some ((⟨[],[],[]⟩:An),false)))
  else
   (getI y10.ab v11.1).bind λy12=>
   some (.inl ((bif (decide (y12.af>v7))then y12.af else v7),(IntKind.i64.wrap (v8+1))))
 else
  some (.inr (XP a0 a1 v7))
def Yf(a0:An)(a1:AE)(a2:Int):Option (An × Bool):=
 (RZ a2).bind λv1=>
 if(!v1)then
  some ((⟨[],[],[]⟩:An),false)
 else
  (L7 a0 a1).bind λv2=>
  Az (λs:Int × Int=>QQ a0 a1 v2 s.1 s.2) (a2,0)
def Yl(a0:An)(a1:AE):Option (An × Bool):=
 (L7 a0 a1).bind λv1=>
 (getI v1 0).bind λy2=>
 (Pf a0 y2 (⟨2,a1.ah,0,0,[],[],false⟩:AP)).bind λv3=>
 some (v3.1,v3.2)
def XT(a0:An)(a1:AE)(a2:Int)(y3:Ai)(v4:Int × Bool)(v5:Bool):Option (An × Bool):=
 if v5 then
  some ((⟨[],[],[]⟩:An),false)
 else
  (getI y3.au v4.1).bind λy6=>
  (Pf a0 a2 (⟨3,a1.ah,y6.af,0,[],[],y6.bg⟩:AP)).bind λv7=>
  some (v7.1,v7.2)
def X2(a0:An)(a1:AE)(a2:Int):Option (An × Bool):=
 (L7 a0 a1).bind λv1=>
 (getI v1 0).bind λy2=>
 (getI a0.ar y2).bind λy3=>
 (L4 y3 a1.ah).bind λv4=>
 if(!v4.2)then
  XT a0 a1 a2 y3 v4 true
 else
  req (0<=(1:Int)/\(1:Int)<=(v1.length:Int)/\(v1.length:Int)<=(v1.length:Int))<|
  (UQ (A6 v1 1 (v1.length:Int)) a2).bind λv8=>
  XT a0 a1 a2 y3 v4 (!v8)
def QX(a0:An)(a1:CB):Option (An × Bool):=
 (F7 a0.ak (λy0_=>iB y0_ a1)).bind λv1=>
 if(decide (v1<0))then
  some ((⟨[],[],[]⟩:An),false)
 else
  (getI a0.ak v1).bind λy2=>
  if((a1.az==1)&&(a1.af==0))then
   (X4 a0 y2 a1.br).bind λv3=>
   some (v3.1,v3.2)
  else
   if((a1.az==2)&&(a1.br==0))then
    (Yf a0 y2 a1.af).bind λv4=>
    some (v4.1,v4.2)
   else
    if(((a1.az==3)&&(a1.br==0))&&(a1.af==0))then
     (Yl a0 y2).bind λv5=>
     some (v5.1,v5.2)
    else
     if((a1.az==4)&&(a1.af==0))then
      (X2 a0 y2 a1.br).bind λv6=>
      some (v6.1,v6.2)
     else
      some ((⟨[],[],[]⟩:An),false)
def Pe(a1:List CB)(v3:Int)(v4:List (Ag))(v5:List Ai)(v6:List AE)(v7:List Bool):Option ((Int × List (Ag) × List Ai × List AE × List Bool) ⊕ Option (An × List Bool × Bool)):=
 if(decide (v3<(a1.length:Int)))then
  (getI a1 v3).bind λy8=>
  (QX (⟨v4,v5,v6⟩:An) y8).bind λv9=>
  if v9.2 then
   req (RM (((v7).length:Int)+(([v9.2]:List Bool).length:Int)) 1)<|
   some (.inl ((IntKind.i64.wrap (v3+1)),v9.1.bc,v9.1.ar,v9.1.ak,(v7++ [v9.2])))
  else
   req (RM (((v7).length:Int)+(([v9.2]:List Bool).length:Int)) 1)<|
   some (.inl ((IntKind.i64.wrap (v3+1)),v4,v5,v6,(v7++ [v9.2])))
 else
  some (.inr (some ((⟨v4,v5,v6⟩:An),v7,true)))
def Y0(a0:An)(a1:List CB):Option (An × List Bool × Bool):=
 (L6 a0).bind λv1=>
 if((!v1)||(decide ((a1.length:Int)>80)))then
  some ((⟨[],[],[]⟩:An),[],false)
 else
  (Ve a0).bind λv2=>
  Az (λs:Int × List (Ag) × List Ai × List AE × List Bool=>Pe a1 s.1 s.2.1 s.2.2.1 s.2.2.2.1 s.2.2.2.2) (0,v2.bc,v2.ar,v2.ak,[])
def Pu(a0:Int):Option (Bool):=
 (IS a0 0 100000).bind λv1=>
 some v1
def iZ(a0:Ak):Option (Bool):=
 (Px a0.aj).bind λv1=>
 if v1 then
  (IS (a0.bb.length:Int) 1 16).bind λv2=>
  some v2
 else
  some false
def Pj(a0:Ak)(v3:Int):Option ((Int) ⊕ Option (Bool)):=
 if(decide (v3<(a0.bb.length:Int)))then
  (getI a0.bb v3).bind λy4=>
  (Nv y4.af).bind λv5=>
  if v5 then
   (Vs a0.aj y4.bw y4.bj).bind λv6=>
   if(decide (v3>0))then
    if v6 then
     (getI a0.bb (IntKind.i64.wrap (v3-1))).bind λy7=>
     if(decide (y7.af>=y4.af))then
      some (.inr (some false))
     else
      some (.inl (IntKind.i64.wrap (v3+1)))
    else
     some (.inr (some false))
   else
    if((!v6)||false)then
     some (.inr (some false))
    else
     some (.inl (IntKind.i64.wrap (v3+1)))
  else
   some (.inr (some false))
 else
  some (.inr (iZ a0))
def Y5(a0:Ak):Option (Bool):=
 Az (λs:Int=>Pj a0 s) 0
def iW(a0:List Ak):Option (Bool):=
 some (decide ((a0.length:Int)<=24))
def Pl(a0:List Ak)(v1:Int):Option ((Int) ⊕ Option (Bool)):=
 if(decide (v1<(a0.length:Int)))then
  (getI a0 v1).bind λy2=>
  (Y5 y2).bind λv3=>
  if(decide (v1>0))then
   if v3 then
    (getI a0 (IntKind.i64.wrap (v1-1))).bind λy4=>
    if(!Op.bytesLess y4.aj y2.aj)then
     some (.inr (some false))
    else
     some (.inl (IntKind.i64.wrap (v1+1)))
   else
    some (.inr (some false))
  else
   if((!v3)||false)then
    some (.inr (some false))
   else
    some (.inl (IntKind.i64.wrap (v1+1)))
 else
  some (.inr (iW a0))
def Vp(a0:List Ak):Option (Bool):=
 Az (λs:Int=>Pl a0 s) 0
def Po(a0:AG):Option (AP):=
 some (⟨1,a0.ah,a0.af,a0.bh,a0.aq,a0.ae,false⟩:AP)
def iO(a0:List Ap)(a1:Ag)(v1:Int):Option ((Int) ⊕ Option (Bool)):=
 if(decide (v1<(a0.length:Int)))then
  (getI a0 v1).bind λy2=>
  if(y2.aj==a1)then
   some (.inr (some true))
  else
   some (.inl (IntKind.i64.wrap (v1+1)))
 else
  some (.inr (some false))
def U9(a0:List Ap)(a1:Ag):Option (Bool):=
 Az (λs:Int=>iO a0 a1 s) 0
def iV(a0:List (Ag))(a1:Ag)(v1:Int):Option ((Int) ⊕ Option (Bool)):=
 if(decide (v1<(a0.length:Int)))then
  (getI a0 v1).bind λy2=>
  if(y2==a1)then
   some (.inr (some true))
  else
   some (.inl (IntKind.i64.wrap (v1+1)))
 else
  some (.inr (some false))
def Y9(a0:List (Ag))(a1:Ag):Option (Bool):=
 Az (λs:Int=>iV a0 a1 s) 0
def iF(a0:AG)(a2:List Ap)(v1:Int):Option ((Int) ⊕ Option (Bool)):=
 if(decide (v1<(a2.length:Int)))then
  (getI a2 v1).bind λy2=>
  (U9 a0.ae y2.aj).bind λv3=>
  if v3 then
   some (.inr (some false))
  else
   (Y9 a0.aq y2.aj).bind λv4=>
   if v4 then
    some (.inr (some false))
   else
    some (.inl (IntKind.i64.wrap (v1+1)))
 else
  some (.inr (some true))
def Yt(a0:AG)(a2:List Ap):Option (Bool):=
 Az (λs:Int=>iF a0 a2 s) 0
def iP(a0:AG)(a1:List (Ag))(a2:List Ap)(v5:Int):Option ((Int) ⊕ Option (Bool)):=
 if(decide (v5<(a1.length:Int)))then
  (getI a1 v5).bind λy6=>
  (U9 a0.ae y6).bind λv7=>
  if v7 then
   some (.inr (some false))
  else
   some (.inl (IntKind.i64.wrap (v5+1)))
 else
  some (.inr (Yt a0 a2))
def RS(a0:AG)(a1:List (Ag))(a2:List Ap):Option (Bool):=
 Az (λs:Int=>iP a0 a1 a2 s) 0
def jB(a0:List Ak)(a1:Ag)(v1:Int):Option ((Int) ⊕ Option (Int)):=
 if(decide (v1<(a0.length:Int)))then
  (getI a0 v1).bind λy2=>
  if(y2.aj==a1)then
   some (.inr (some v1))
  else
   some (.inl (IntKind.i64.wrap (v1+1)))
 else
  some (.inr (some (-1)))
def VJ(a0:List Ak)(a1:Ag):Option (Int):=
 Az (λs:Int=>jB a0 a1 s) 0
def Pv(a0:List Ak)(a1:Ag):Option (Int):=
 (VJ a0 a1).bind λv1=>
 if(decide (v1<0))then
  some 0
 else
  (getI a0 v1).bind λy2=>
  (getI y2.bb (IntKind.i64.wrap ((y2.bb.length:Int)-1))).bind λy3=>
  some y3.af
def Yo(v3:List (Ag)):Option (Bool):=
 some (decide ((v3.length:Int)<=24))
def Rv(a0:Ai)(v2:List Ap)(v4:List (Ag))(v5:Int):Option ((List (Ag) × Int) ⊕ Option (Bool)):=
 if(decide (v5<(v2.length:Int)))then
  (getI v2 v5).bind λy6=>
  (L8 v4 y6.aj).bind λv7=>
  (VJ a0.ao y6.aj).bind λv8=>
  if(decide (v8>=0))then
   (getI a0.ao v8).bind λy9=>
   if(decide ((y9.bb.length:Int)>=16))then
    some (.inr (some false))
   else
    some (.inl (v7,(IntKind.i64.wrap (v5+1))))
  else
   some (.inl (v7,(IntKind.i64.wrap (v5+1))))
 else
  some (.inr (Yo v4))
def iI(a0:Ai)(v1:List (Ag))(v2:List Ap):Option (Bool):=
 Az (λs:List (Ag) × Int=>Rv a0 v2 s.1 s.2) (v1,0)
def RF(a0:Ai)(v1:List (Ag))(v10:Int)(v11:List Ap):Option ((Int × List Ap) ⊕ Option (Bool)):=
 if(decide (v10<(a0.ab.length:Int)))then
  (getI a0.ab v10).bind λy12=>
  req (RM (((v11).length:Int)+((y12.ae).length:Int)) 40)<|
  some (.inl ((IntKind.i64.wrap (v10+1)),(v11++y12.ae)))
 else
  some (.inr (iI a0 v1 v11))
def iH(a0:Ai)(a1:List Ap)(v1:List (Ag)):Option (Bool):=
 req (RM ((([]:List Ap).length:Int)+((a1).length:Int)) 40)<|
 Az (λs:Int × List Ap=>RF a0 v1 s.1 s.2) (0,a1)
def RB(a0:Ai)(a1:List Ap)(v13:List (Ag))(v14:Int):Option ((List (Ag) × Int) ⊕ Option (Bool)):=
 if(decide (v14<(a0.ao.length:Int)))then
  (getI a0.ao v14).bind λy15=>
  (L8 v13 y15.aj).bind λv16=>
  some (.inl (v16,(IntKind.i64.wrap (v14+1))))
 else
  some (.inr (iH a0 a1 v13))
def Vu(a0:Ai)(a1:List Ap):Option (Bool):=
 Az (λs:List (Ag) × Int=>RB a0 a1 s.1 s.2) ([],0)
def U4(a0:Ai):Option (Bool):=
 if(decide ((a0.ab.length:Int)<=12))then
  (Vu a0 ([]:List Ap)).bind λv1=>
  some v1
 else
  some false
def U3(v2:Int):Option ((Int) ⊕ Option (Bool)):=
 some (.inl (IntKind.i64.wrap (v2+1)))
def Kc(a0:Ai)(v2:Int)(y3:AG)(v7:Int):Option ((Int) ⊕ Option ((Int) ⊕ Option (Bool))):=
 if(decide (v7<(y3.ae.length:Int)))then
  (getI y3.ae v7).bind λy8=>
  (Pv a0.ao y8.aj).bind λv9=>
  if(decide (v9>=y3.af))then
   some (.inr (some (.inr (some false))))
  else
   some (.inl (IntKind.i64.wrap (v7+1)))
 else
  some (.inr (U3 v2))
def K0(a0:Ai)(v2:Int)(y3:AG):Option ((Int) ⊕ Option (Bool)):=
 Az (λs:Int=>Kc a0 v2 y3 s) 0
def Jj(a0:Ai)(v2:Int)(y3:AG)(v10:Int):Option ((Int) ⊕ Option ((Int) ⊕ Option (Bool))):=
 if(decide (v10<((A6 a0.ab 0 v2).length:Int)))then
  (getI (A6 a0.ab 0 v2) v10).bind λy11=>
  (RS y11 y3.aq y3.ae).bind λv12=>
  if(!v12)then
   some (.inr (some (.inr (some false))))
  else
   some (.inl (IntKind.i64.wrap (v10+1)))
 else
  some (.inr (K0 a0 v2 y3))
def iK(v2:Int):Option ((Int) ⊕ Option (Bool)):=
 some (.inl (IntKind.i64.wrap (v2+1)))
def Rw(a0:Ai)(v2:Int)(y3:AG)(v13:Int):Option ((Int) ⊕ Option ((Int) ⊕ Option (Bool))):=
 if(decide (v13<(y3.ae.length:Int)))then
  (getI y3.ae v13).bind λy14=>
  (Pv a0.ao y14.aj).bind λv15=>
  if(decide (v15>=y3.af))then
   some (.inr (some (.inr (some false))))
  else
   some (.inl (IntKind.i64.wrap (v13+1)))
 else
  some (.inr (iK v2))
def Rx(a0:Ai)(v2:Int)(y3:AG):Option ((Int) ⊕ Option (Bool)):=
 Az (λs:Int=>Rw a0 v2 y3 s) 0
def Pc(a0:Ai)(v2:Int)(y3:AG)(v16:Int):Option ((Int) ⊕ Option ((Int) ⊕ Option (Bool))):=
 if(decide (v16<((A6 a0.ab 0 v2).length:Int)))then
  (getI (A6 a0.ab 0 v2) v16).bind λy17=>
  (RS y17 y3.aq y3.ae).bind λv18=>
  if(!v18)then
   some (.inr (some (.inr (some false))))
  else
   some (.inl (IntKind.i64.wrap (v16+1)))
 else
  some (.inr (Rx a0 v2 y3))
def Km(a0:Ai)(v2:Int):Option ((Int) ⊕ Option (Bool)):=
 if(decide (v2<(a0.ab.length:Int)))then
  (getI a0.ab v2).bind λy3=>
  (Po y3).bind λv4=>
  (Mb v4).bind λv5=>
  if(decide (v2>0))then
   if v5 then
    if(decide (y3.af>a0.aw))then
     some (.inr (some false))
    else
     (getI a0.ab (IntKind.i64.wrap (v2-1))).bind λy6=>
     if(decide (y6.ah>=y3.ah))then
      some (.inr (some false))
     else
      req (0<=(0:Int)/\(0:Int)<=v2/\v2<=(a0.ab.length:Int))<|
      Az (λs:Int=>Jj a0 v2 y3 s) 0
   else
    some (.inr (some false))
  else
   if(((!v5)||(decide (y3.af>a0.aw)))||false)then
    some (.inr (some false))
   else
    req (0<=(0:Int)/\(0:Int)<=v2/\v2<=(a0.ab.length:Int))<|
    Az (λs:Int=>Pc a0 v2 y3 s) 0
 else
  some (.inr (U4 a0))
def R4(a0:Ai):Option (Bool):=
 Az (λs:Int=>Km a0 s) 0
def gY(a0:Ai)(a1 v1:Int):Option ((Int) ⊕ Option (AG × Bool)):=
 if(decide (v1<(a0.ab.length:Int)))then
  (getI a0.ab v1).bind λy2=>
  if(y2.ah==a1)then
   some (.inr (some (y2,true)))
  else
   some (.inl (IntKind.i64.wrap (v1+1)))
 else
  some (.inr (some ((⟨0,0,0,[],[]⟩:AG),false)))
def Kn(a0:Ai)(a1:Int):Option (AG × Bool):=
 Az (λs:Int=>gY a0 a1 s) 0
def Kk(a0:Ai)(v4:Int):Option ((Int) ⊕ Option (Bool)):=
 if(decide (v4<(a0.au.length:Int)))then
  (getI a0.au v4).bind λy5=>
  (IS y5.ah 1 60).bind λv6=>
  if(decide (v4>0))then
   if v6 then
    (getI a0.au (IntKind.i64.wrap (v4-1))).bind λy7=>
    if y5.bg then
     if(decide (y7.ah>=y5.ah))then
      some (.inr (some false))
     else
      (IS y5.af 1 a0.aw).bind λv8=>
      if((!v8)||false)then
       some (.inr (some false))
      else
       (Kn a0 y5.ah).bind λv9=>
       if v9.2 then
        some (.inr (some false))
       else
        some (.inl (IntKind.i64.wrap (v4+1)))
    else
     if(((decide (y7.ah>=y5.ah))||false)||(y5.af !=0))then
      some (.inr (some false))
     else
      (Kn a0 y5.ah).bind λv10=>
      if v10.2 then
       some (.inr (some false))
      else
       some (.inl (IntKind.i64.wrap (v4+1)))
   else
    some (.inr (some false))
  else
   if y5.bg then
    if v6 then
     (IS y5.af 1 a0.aw).bind λv11=>
     if((!v11)||false)then
      some (.inr (some false))
     else
      (Kn a0 y5.ah).bind λv12=>
      if v12.2 then
       some (.inr (some false))
      else
       some (.inl (IntKind.i64.wrap (v4+1)))
    else
     some (.inr (some false))
   else
    if((((!v6)||false)||false)||(y5.af !=0))then
     some (.inr (some false))
    else
     (Kn a0 y5.ah).bind λv13=>
     if v13.2 then
      some (.inr (some false))
     else
      some (.inl (IntKind.i64.wrap (v4+1)))
 else
  some (.inr (some true))
def RD(a0:Ai):Option (Bool):=
 Az (λs:Int=>Kk a0 s) 0
def Kl(a0:Ai)(v14:Int):Option ((Int) ⊕ Option (Bool)):=
 if(decide (v14<(a0.ao.length:Int)))then
  (getI a0.ao v14).bind λy15=>
  (Pv a0.ao y15.aj).bind λv16=>
  if(decide (v16>a0.aw))then
   some (.inr (some false))
  else
   some (.inl (IntKind.i64.wrap (v14+1)))
 else
  some (.inr (RD a0))
def Ma(a0:Ai):Option (Bool):=
 (Pu a0.aw).bind λv1=>
 if v1 then
  (Vp a0.ao).bind λv2=>
  if v2 then
   (R4 a0).bind λv3=>
   if((!v3)||(decide ((a0.au.length:Int)>60)))then
    some false
   else
    Az (λs:Int=>Kl a0 s) 0
  else
   some false
 else
  some false
def Yn(a0:An):Option (Bool):=
 (Vr a0.bc).bind λv1=>
 if v1 then
  if((a0.ar.length:Int)==(IntKind.i64.wrap ((a0.bc.length:Int)+1)))then
   (Vh a0.ak).bind λv2=>
   some v2
  else
   some false
 else
  some false
def RE(a0:An)(v3:Int):Option ((Int) ⊕ Option (Bool)):=
 if(decide (v3<(a0.ar.length:Int)))then
  (getI a0.ar v3).bind λy4=>
  (Ma y4).bind λv5=>
  if(!v5)then
   some (.inr (some false))
  else
   some (.inl (IntKind.i64.wrap (v3+1)))
 else
  some (.inr (Yn a0))
def R6(a0:An):Option (Bool):=
 Az (λs:Int=>RE a0 s) 0
def RR(a0 v1:List Ak)(v2:Int):Option ((List Ak × Int) ⊕ Option (List Ak)):=
 if(decide (v2<(a0.length:Int)))then
  (getI a0 v2).bind λy3=>
  req (RM ((([]:List Df).length:Int)+((y3.bb).length:Int)) 32)<|
  req (RM (((v1).length:Int)+(([y3]:List Ak).length:Int)) 40)<|
  some (.inl ((v1++ [y3]),(IntKind.i64.wrap (v2+1))))
 else
  some (.inr (some v1))
def VF(a0:List Ak):Option (List Ak):=
 Az (λs:List Ak × Int=>RR a0 s.1 s.2) ([],0)
def Yp(a0:AG):Option (AG):=
 (H9 a0.aq).bind λv1=>
 req (RM ((([]:List Ap).length:Int)+((a0.ae).length:Int)) 40)<|
 some (⟨a0.ah,a0.af,a0.bh,v1,a0.ae⟩:AG)
def Rr(a0:Ai)(v1:List Ak)(v2:Int)(v3:List AG):Option ((Int × List AG) ⊕ Option (Ai)):=
 if(decide (v2<(a0.ab.length:Int)))then
  (getI a0.ab v2).bind λy4=>
  (Yp y4).bind λv5=>
  req (RM (((v3).length:Int)+(([v5]:List AG).length:Int)) 72)<|
  some (.inl ((IntKind.i64.wrap (v2+1)),(v3++ [v5])))
 else
  some (.inr (some (⟨a0.aw,v1,v3,a0.au⟩:Ai)))
def Vo(a0:Ai):Option (Ai):=
 (VF a0.ao).bind λv1=>
 req (RM ((([]:List Bz).length:Int)+((a0.au).length:Int)) 24)<|
 Az (λs:Int × List AG=>Rr a0 v1 s.1 s.2) (0,[])
def Rq(a0:An)(v1:List (Ag))(v2:List AE)(v3:Int)(v4:List Ai):Option ((Int × List Ai) ⊕ Option (An)):=
 if(decide (v3<(a0.ar.length:Int)))then
  (getI a0.ar v3).bind λy5=>
  (Vo y5).bind λv6=>
  req (RM (((v4).length:Int)+(([v6]:List Ai).length:Int)) 80)<|
  some (.inl ((IntKind.i64.wrap (v3+1)),(v4++ [v6])))
 else
  some (.inr (some (⟨v1,v4,v2⟩:An)))
def Vy(a0:An):Option (An):=
 (H9 a0.bc).bind λv1=>
 (Zf a0.ak).bind λv2=>
 Az (λs:Int × List Ai=>Rq a0 v1 v2 s.1 s.2) (0,[])
def hF(a0:Ai)(a1 v1:Int):Option ((Int) ⊕ Option (Bz × Bool)):=
 if(decide (v1<(a0.au.length:Int)))then
  (getI a0.au v1).bind λy2=>
  if(y2.ah==a1)then
   some (.inr (some (y2,true)))
  else
   some (.inl (IntKind.i64.wrap (v1+1)))
 else
  some (.inr (some ((⟨0,false,0⟩:Bz),false)))
def Vj(a0:Ai)(a1:Int):Option (Bz × Bool):=
 Az (λs:Int=>hF a0 a1 s) 0
def RN(a0:List Int)(a1 v1:Int):Option ((Int) ⊕ Option (Bool)):=
 if(decide (v1<(a0.length:Int)))then
  (getI a0 v1).bind λy2=>
  if(y2==a1)then
   some (.inr (some true))
  else
   some (.inl (IntKind.i64.wrap (v1+1)))
 else
  some (.inr (some false))
def VE(a0:List Int)(a1:Int):Option (Bool):=
 Az (λs:Int=>RN a0 a1 s) 0
def Ki(a0 a1:Int):Option (Int):=
 if(decide (a0>a1))then
  some a0
 else
  some a1
def Yr(a0:Ai)(a1:Int):Option (Int × Bool):=
 (Ma a0).bind λv1=>
 if v1 then
  (Pu a1).bind λv2=>
  if v2 then
   (Ki a0.aw a1).bind λv3=>
   if(v3==100000)then
    some (0,false)
   else
    (Ki a0.aw a1).bind λv4=>
    some ((IntKind.i64.wrap (v4+1)),true)
  else
   some (0,false)
 else
  some (0,false)
def Q1(a0:List (Ag))(a2:List Ap)(a3:Int)(v1:List (Ag))(v2:List Ap)(v3:Int):Option ((List Ap × Int) ⊕ Option (List (Ag) × List Ap)):=
 if(decide (v3<(a2.length:Int)))then
  (getI a2 v3).bind λy4=>
  (R2 a0 y4.aj).bind λv5=>
  if(v5==a3)then
   req (RM (((v2).length:Int)+(([y4]:List Ap).length:Int)) 40)<|
   some (.inl ((v2++ [y4]),(IntKind.i64.wrap (v3+1))))
  else
   some (.inl (v2,(IntKind.i64.wrap (v3+1))))
 else
  some (.inr (some (v1,v2)))
def hP(a0:List (Ag))(a2:List Ap)(a3:Int)(v1:List (Ag)):Option (List (Ag) × List Ap):=
 Az (λs:List Ap × Int=>Q1 a0 a2 a3 v1 s.1 s.2) ([],0)
def QW(a0:List (Ag))(a1:List (Ag))(a2:List Ap)(a3:Int)(v6:List (Ag))(v7:Int):Option ((List (Ag) × Int) ⊕ Option (List (Ag) × List Ap)):=
 if(decide (v7<(a1.length:Int)))then
  (getI a1 v7).bind λy8=>
  (R2 a0 y8).bind λv9=>
  if(v9==a3)then
   req (RM (((v6).length:Int)+(([y8]:List (Ag)).length:Int)) 16)<|
   some (.inl ((v6++ [y8]),(IntKind.i64.wrap (v7+1))))
  else
   some (.inl (v6,(IntKind.i64.wrap (v7+1))))
 else
  some (.inr (hP a0 a2 a3 v6))
def jE(a0:List (Ag))(a1:List (Ag))(a2:List Ap)(a3:Int):Option (List (Ag) × List Ap):=
 Az (λs:List (Ag) × Int=>QW a0 a1 a2 a3 s.1 s.2) ([],0)
def Vi(a1:AE)(a2:CB)(y2 v9:Int):Option (AP × Int × Bool):=
 if(a2.br==0)then
  (Pu a2.af).bind λv10=>
  some ((⟨2,a1.ah,v9,0,[],[],true⟩:AP),y2,v10)
 else
  some ((⟨2,a1.ah,v9,0,[],[],true⟩:AP),y2,false)
def Pk(a0:An)(a1:AE)(a2:CB)(v1:List Int)(y2 v11 v12:Int):Option ((Int × Int) ⊕ Option (AP × Int × Bool)):=
 if(decide (v12<(v1.length:Int)))then
  (getI v1 v12).bind λy13=>
  (getI a0.ar y13).bind λy14=>
  (Kn y14 a1.ah).bind λv15=>
  if(!v15.2)then
   some (.inr (some ((⟨0,0,0,0,[],[],false⟩:AP),0,false)))
  else
   (Ki v11 v15.1.af).bind λv16=>
   some (.inl (v16,(IntKind.i64.wrap (v12+1))))
 else
  some (.inr (Vi a1 a2 y2 v11))
def Zc(a0:An)(a1:AE)(a2:CB):Option (AP × Int × Bool):=
 (Nw a0.bc a1).bind λv1=>
 (getI v1 0).bind λy2=>
 (getI a0.ar y2).bind λy3=>
 (Vj y3 a1.ah).bind λv4=>
 if(a2.az==1)then
  if v4.2 then
   some ((⟨0,0,0,0,[],[],false⟩:AP),0,false)
  else
   if(a2.af !=0)then
    some ((⟨0,0,0,0,[],[],false⟩:AP),0,false)
   else
    (VE v1 a2.br).bind λv5=>
    if(!v5)then
     some ((⟨0,0,0,0,[],[],false⟩:AP),0,false)
    else
     (getI a0.ar a2.br).bind λy6=>
     (Yr y6 0).bind λv7=>
     (jE a0.bc a1.aq a1.ae a2.br).bind λv8=>
     some ((⟨1,a1.ah,v7.1,y2,v8.1,v8.2,false⟩:AP),a2.br,v7.2)
 else
  if(a2.az==2)then
   Az (λs:Int × Int=>Pk a0 a1 a2 v1 y2 s.1 s.2) (a2.af,0)
  else
   if(a2.az==3)then
    some ((⟨2,a1.ah,0,0,[],[],false⟩:AP),y2,((a2.br==0)&&(a2.af==0)))
   else
    if(a2.az==4)then
     if v4.2 then
      if(a2.af==0)then
       if(a2.br !=y2)then
        (VE v1 a2.br).bind λv17=>
        some ((⟨3,a1.ah,v4.1.af,0,[],[],v4.1.bg⟩:AP),a2.br,v17)
       else
        some ((⟨3,a1.ah,v4.1.af,0,[],[],v4.1.bg⟩:AP),a2.br,false)
      else
       some ((⟨3,a1.ah,v4.1.af,0,[],[],v4.1.bg⟩:AP),a2.br,false)
     else
      some ((⟨3,a1.ah,v4.1.af,0,[],[],v4.1.bg⟩:AP),a2.br,false)
    else
     some ((⟨3,a1.ah,v4.1.af,0,[],[],v4.1.bg⟩:AP),a2.br,false)
def Yg(a0:List AG)(a1:AG)(v1:Int):Option (List AG):=
 req (0<=v1/\v1<=(a0.length:Int)/\(a0.length:Int)<=(a0.length:Int))<|
 req (0<=v1/\v1<=(a0.length:Int)/\(a0.length:Int)<=(a0.length:Int))<|
 req (RM ((([]:List AG).length:Int)+(((A6 a0 v1 (a0.length:Int))).length:Int)) 72)<|
 req (0<=(0:Int)/\(0:Int)<=v1/\v1<=(a0.length:Int))<|
 req (RM ((([]:List AG).length:Int)+(((A6 a0 0 v1)).length:Int)) 72)<|
 req (RM ((((A6 a0 0 v1)).length:Int)+(([a1]:List AG).length:Int)) 72)<|
 req (RM (((((A6 a0 0 v1)++ [a1])).length:Int)+(((A6 a0 v1 (a0.length:Int))).length:Int)) 72)<|
 some (((A6 a0 0 v1)++ [a1])++(A6 a0 v1 (a0.length:Int)))
def hY(a0:List AG)(a1:AG)(v2:Int):Option ((Int) ⊕ Option (List AG)):=
 if(decide (v2>0))then
  (getI a0 (IntKind.i64.wrap (v2-1))).bind λy3=>
  if(decide (y3.ah>a1.ah))then
   some (.inl (IntKind.i64.wrap (v2-1)))
  else
   some (.inr (Yg a0 a1 v2))
 else
  some (.inr (Yg a0 a1 v2))
def Yw(a0:List AG)(a1:AG):Option (List AG):=
 Az (λs:Int=>hY a0 a1 s) (a0.length:Int)
def Yv(a0:Ai)(a2:List Ap):Option (Bool):=
 if(decide ((a0.ab.length:Int)<12))then
  (Vu a0 a2).bind λv1=>
  some v1
 else
  some false
def iM(a0:Ai)(a1:List (Ag))(a2:List Ap)(v2:Int):Option ((Int) ⊕ Option (Bool)):=
 if(decide (v2<(a0.ab.length:Int)))then
  (getI a0.ab v2).bind λy3=>
  (RS y3 a1 a2).bind λv4=>
  if(!v4)then
   some (.inr (some false))
  else
   some (.inl (IntKind.i64.wrap (v2+1)))
 else
  some (.inr (Yv a0 a2))
def Zh(a0:Ai)(a1:List (Ag))(a2:List Ap):Option (Bool):=
 Az (λs:Int=>iM a0 a1 a2 s) 0
def YA(v2:List Ak):Option (List Ak × Bool):=
 (Vp v2).bind λv3=>
 some (v2,v3)
def RO(a2 v4:Int)(v5:List Ak)(y6:Ap)(v7:Int):Option ((Int × List Ak) ⊕ Option (List Ak × Bool)):=
 if(decide (v7>0))then
  (getI v5 (IntKind.i64.wrap (v7-1))).bind λy8=>
  if(y8.aj==y6.aj)then
   (Pv v5 y6.aj).bind λv9=>
   if(decide (v9>=a2))then
    some (.inr (some ([],false)))
   else
    req (RM (((y8.bb).length:Int)+(([(⟨a2,y6.bw,y6.bj⟩:Df)]:List Df).length:Int)) 32)<|
    some (.inl ((IntKind.i64.wrap (v4+1)),(v5.set ((IntKind.i64.wrap (v7-1))).toNat {y8 with bb:=(y8.bb++ [(⟨a2,y6.bw,y6.bj⟩:Df)])})))
  else
   req (0<=v7/\v7<=(v5.length:Int)/\(v5.length:Int)<=(v5.length:Int))<|
   req (0<=v7/\v7<=(v5.length:Int)/\(v5.length:Int)<=(v5.length:Int))<|
   req (RM ((([]:List Ak).length:Int)+(((A6 v5 v7 (v5.length:Int))).length:Int)) 40)<|
   req (0<=(0:Int)/\(0:Int)<=v7/\v7<=(v5.length:Int))<|
   req (RM ((([]:List Ak).length:Int)+(((A6 v5 0 v7)).length:Int)) 40)<|
   req (RM ((((A6 v5 0 v7)).length:Int)+(([(⟨y6.aj,[(⟨a2,y6.bw,y6.bj⟩:Df)]⟩:Ak)]:List Ak).length:Int)) 40)<|
   req (RM (((((A6 v5 0 v7)++ [(⟨y6.aj,[(⟨a2,y6.bw,y6.bj⟩:Df)]⟩:Ak)])).length:Int)+(((A6 v5 v7 (v5.length:Int))).length:Int)) 40)<|
   some (.inl ((IntKind.i64.wrap (v4+1)),(((A6 v5 0 v7)++ [(⟨y6.aj,[(⟨a2,y6.bw,y6.bj⟩:Df)]⟩:Ak)])++(A6 v5 v7 (v5.length:Int)))))
 else
  req (0<=v7/\v7<=(v5.length:Int)/\(v5.length:Int)<=(v5.length:Int))<|
  req (0<=v7/\v7<=(v5.length:Int)/\(v5.length:Int)<=(v5.length:Int))<|
  req (RM ((([]:List Ak).length:Int)+(((A6 v5 v7 (v5.length:Int))).length:Int)) 40)<|
  req (0<=(0:Int)/\(0:Int)<=v7/\v7<=(v5.length:Int))<|
  req (RM ((([]:List Ak).length:Int)+(((A6 v5 0 v7)).length:Int)) 40)<|
  req (RM ((((A6 v5 0 v7)).length:Int)+(([(⟨y6.aj,[(⟨a2,y6.bw,y6.bj⟩:Df)]⟩:Ak)]:List Ak).length:Int)) 40)<|
  req (RM (((((A6 v5 0 v7)++ [(⟨y6.aj,[(⟨a2,y6.bw,y6.bj⟩:Df)]⟩:Ak)])).length:Int)+(((A6 v5 v7 (v5.length:Int))).length:Int)) 40)<|
  some (.inl ((IntKind.i64.wrap (v4+1)),(((A6 v5 0 v7)++ [(⟨y6.aj,[(⟨a2,y6.bw,y6.bj⟩:Df)]⟩:Ak)])++(A6 v5 v7 (v5.length:Int)))))
def Pr(a2 v4:Int)(v5:List Ak)(y6:Ap)(v10:Int):Option ((Int) ⊕ Option ((Int × List Ak) ⊕ Option (List Ak × Bool))):=
 if(decide (v10>0))then
  (getI v5 (IntKind.i64.wrap (v10-1))).bind λy11=>
  if(!(Op.bytesLess y11.aj y6.aj||y11.aj==y6.aj))then
   some (.inl (IntKind.i64.wrap (v10-1)))
  else
   some (.inr (RO a2 v4 v5 y6 v10))
 else
  some (.inr (RO a2 v4 v5 y6 v10))
def RY(a1:List Ap)(a2 v4:Int)(v5:List Ak):Option ((Int × List Ak) ⊕ Option (List Ak × Bool)):=
 if(decide (v4<(a1.length:Int)))then
  (getI a1 v4).bind λy6=>
  Az (λs:Int=>Pr a2 v4 v5 y6 s) (v5.length:Int)
 else
  some (.inr (YA v5))
def Zp(a0:List Ak)(a1:List Ap)(a2:Int):Option (List Ak × Bool):=
 (VF a0).bind λv1=>
 Az (λs:Int × List Ak=>RY a1 a2 s.1 s.2) (0,v1)
def Yk(a0:List Bz)(a1:Bz)(v1:Int):Option (List Bz):=
 req (0<=v1/\v1<=(a0.length:Int)/\(a0.length:Int)<=(a0.length:Int))<|
 req (RM ((([]:List Bz).length:Int)+(((A6 a0 v1 (a0.length:Int))).length:Int)) 24)<|
 req (0<=(0:Int)/\(0:Int)<=v1/\v1<=(a0.length:Int))<|
 req (RM ((([]:List Bz).length:Int)+(((A6 a0 0 v1)).length:Int)) 24)<|
 req (RM ((((A6 a0 0 v1)).length:Int)+(([a1]:List Bz).length:Int)) 24)<|
 req (RM (((((A6 a0 0 v1)++ [a1])).length:Int)+(((A6 a0 v1 (a0.length:Int))).length:Int)) 24)<|
 some (((A6 a0 0 v1)++ [a1])++(A6 a0 v1 (a0.length:Int)))
def iA(a0:List Bz)(a1:Bz)(v2:Int):Option ((Int) ⊕ Option (List Bz)):=
 if(decide (v2>0))then
  (getI a0 (IntKind.i64.wrap (v2-1))).bind λy3=>
  if(decide (y3.ah>a1.ah))then
   some (.inl (IntKind.i64.wrap (v2-1)))
  else
   some (.inr (Yk a0 a1 v2))
 else
  some (.inr (Yk a0 a1 v2))
def U5(a0:List Bz)(a1:Bz):Option (List Bz):=
 Az (λs:Int=>iA a0 a1 s) (a0.length:Int)
def Vd(a0:Ai)(a1:AP):Option (Ai × Bool):=
 (Vo a0).bind λv1=>
 (Kn a0 a1.ah).bind λv2=>
 (Vj a0 a1.ah).bind λv3=>
 if(a1.az==4)then
  some ((⟨a1.af,v1.ao,v1.ab,v1.au⟩:Ai),(decide (a1.af>a0.aw)))
 else
  if v3.2 then
   some (v1,false)
  else
   if(a1.az==1)then
    (H9 a1.aq).bind λv4=>
    req (RM ((([]:List Ap).length:Int)+((a1.ae).length:Int)) 40)<|
    (Yw v1.ab (⟨a1.ah,a1.af,a1.bh,v4,a1.ae⟩:AG)).bind λv5=>
    if v2.2 then
     some ((⟨a1.af,v1.ao,v5,v1.au⟩:Ai),false)
    else
     if(decide (a1.af>a0.aw))then
      (Zh a0 a1.aq a1.ae).bind λv6=>
      some ((⟨a1.af,v1.ao,v5,v1.au⟩:Ai),v6)
     else
      some ((⟨a1.af,v1.ao,v5,v1.au⟩:Ai),false)
   else
    if a1.bg then
     if((!v2.2)||(decide (v2.1.af>a1.af)))then
      some (v1,false)
     else
      (Zp a0.ao v2.1.ae a1.af).bind λv7=>
      if(!v7.2)then
       some (v1,false)
      else
       (Ki a0.aw a1.af).bind λv8=>
       (R5 v1.ab a1.ah).bind λv9=>
       (U5 v1.au (⟨a1.ah,a1.bg,a1.af⟩:Bz)).bind λv10=>
       some ((⟨v8,v7.1,v9,v10⟩:Ai),true)
    else
     (R5 v1.ab a1.ah).bind λv11=>
     (U5 v1.au (⟨a1.ah,a1.bg,a1.af⟩:Bz)).bind λv12=>
     some ((⟨v1.aw,v1.ao,v11,v12⟩:Ai),true)
def YB(a0:Ai)(a1:AP):Option (Ai × Bool):=
 (Ma a0).bind λv1=>
 if v1 then
  (Mb a1).bind λv2=>
  if(!v2)then
   some ((⟨0,[],[],[]⟩:Ai),false)
  else
   (Vd a0 a1).bind λv3=>
   if(!v3.2)then
    some ((⟨0,[],[],[]⟩:Ai),false)
   else
    some (v3.1,true)
 else
  some ((⟨0,[],[],[]⟩:Ai),false)
def R3(a0:An)(a1:CB):Option (An × Bool):=
 (VB a0 a1.ah).bind λv1=>
 if(decide (v1<0))then
  some ((⟨[],[],[]⟩:An),false)
 else
  (getI a0.ak v1).bind λy2=>
  (Zc a0 y2 a1).bind λv3=>
  if(!v3.2.2)then
   some ((⟨[],[],[]⟩:An),false)
  else
   (getI a0.ar v3.2.1).bind λy4=>
   (YB y4 v3.1).bind λv5=>
   if(!v5.2)then
    some ((⟨[],[],[]⟩:An),false)
   else
    (Vy a0).bind λv6=>
    (getI v6.ar v3.2.1).bind λy7=>
    some ((⟨v6.bc,(v6.ar.set (v3.2.1).toNat v5.1),v6.ak⟩:An),true)
def RG(a1:List CB)(v2:List Bool)(v3:Int)(v4:List (Ag))(v5:List Ai)(v6:List AE):Option ((List Bool × Int × List (Ag) × List Ai × List AE) ⊕ Option (An × List Bool)):=
 if(decide (v3<(a1.length:Int)))then
  (getI a1 v3).bind λy7=>
  (R3 (⟨v4,v5,v6⟩:An) y7).bind λv8=>
  if v8.2 then
   req (RM (((v2).length:Int)+(([v8.2]:List Bool).length:Int)) 1)<|
   some (.inl ((v2++ [v8.2]),(IntKind.i64.wrap (v3+1)),v8.1.bc,v8.1.ar,v8.1.ak))
  else
   req (RM (((v2).length:Int)+(([v8.2]:List Bool).length:Int)) 1)<|
   some (.inl ((v2++ [v8.2]),(IntKind.i64.wrap (v3+1)),v4,v5,v6))
 else
  some (.inr (some ((⟨v4,v5,v6⟩:An),v2)))
def Vw(a0:An)(a1:List CB):Option (An × List Bool):=
 (Vy a0).bind λv1=>
 Az (λs:List Bool × Int × List (Ag) × List Ai × List AE=>RG a1 s.1 s.2.1 s.2.2.1 s.2.2.2.1 s.2.2.2.2) ([],0,v1.bc,v1.ar,v1.ak)
def YW(a0:An)(a1:List CB):Option (An × List Bool × Bool):=
 (R6 a0).bind λv1=>
 if((!v1)||(decide ((a1.length:Int)>80)))then
  some ((⟨[],[],[]⟩:An),[],false)
 else
  (Vw a0 a1).bind λv2=>
  some (v2.1,v2.2,true)
def Rb(a0 a1:List Bool)(v1:Int):Option ((Int) ⊕ Option (Bool)):=
 if(decide (v1<(a0.length:Int)))then
  (getI a0 v1).bind λy2=>
  (getI a1 v1).bind λy3=>
  if(y2 !=y3)then
   some (.inr (some false))
  else
   some (.inl (IntKind.i64.wrap (v1+1)))
 else
  some (.inr (some true))
def YM(a0 a1:List Bool):Option (Bool):=
 if((a0.length:Int) !=(a1.length:Int))then
  some false
 else
  Az (λs:Int=>Rb a0 a1 s) 0
def Ra(a0:List (Ag))(a1:List (Ag))(v1:Int):Option ((Int) ⊕ Option (Bool)):=
 if(decide (v1<(a0.length:Int)))then
  (getI a0 v1).bind λy2=>
  (getI a1 v1).bind λy3=>
  if(y2 !=y3)then
   some (.inr (some false))
  else
   some (.inl (IntKind.i64.wrap (v1+1)))
 else
  some (.inr (some true))
def Vn(a0:List (Ag))(a1:List (Ag)):Option (Bool):=
 if((a0.length:Int) !=(a1.length:Int))then
  some false
 else
  Az (λs:Int=>Ra a0 a1 s) 0
def tT(v1:Int):Option ((Int) ⊕ Option (Bool)):=
 some (.inl (IntKind.i64.wrap (v1+1)))
def Q6(v1:Int)(y2 y3:Ak)(v4:Int):Option ((Int) ⊕ Option ((Int) ⊕ Option (Bool))):=
 if(decide (v4<(y2.bb.length:Int)))then
  (getI y2.bb v4).bind λy5=>
  (getI y3.bb v4).bind λy6=>
  if(!(y5.af==y6.af&&(y5.bw==y6.bw&&(y5.bj==y6.bj))))then
   some (.inr (some (.inr (some false))))
  else
   some (.inl (IntKind.i64.wrap (v4+1)))
 else
  some (.inr (tT v1))
def Ri(a0 a1:List Ak)(v1:Int):Option ((Int) ⊕ Option (Bool)):=
 if(decide (v1<(a0.length:Int)))then
  (getI a0 v1).bind λy2=>
  (getI a1 v1).bind λy3=>
  if((y2.aj !=y3.aj)||((y2.bb.length:Int) !=(y3.bb.length:Int)))then
   some (.inr (some false))
  else
   Az (λs:Int=>Q6 v1 y2 y3 s) 0
 else
  some (.inr (some true))
def YJ(a0 a1:List Ak):Option (Bool):=
 if((a0.length:Int) !=(a1.length:Int))then
  some false
 else
  Az (λs:Int=>Ri a0 a1 s) 0
def Rz(a0:List (Ag))(a1:List (Ag))(v1:Int):Option ((Int) ⊕ Option (Bool)):=
 if(decide (v1<(a0.length:Int)))then
  (getI a0 v1).bind λy2=>
  (getI a1 v1).bind λy3=>
  if(y2 !=y3)then
   some (.inr (some false))
  else
   some (.inl (IntKind.i64.wrap (v1+1)))
 else
  some (.inr (some true))
def YN(a0:List (Ag))(a1:List (Ag)):Option (Bool):=
 if((a0.length:Int) !=(a1.length:Int))then
  some false
 else
  Az (λs:Int=>Rz a0 a1 s) 0
def RC(a0 a1:List Ap)(v1:Int):Option ((Int) ⊕ Option (Bool)):=
 if(decide (v1<(a0.length:Int)))then
  (getI a0 v1).bind λy2=>
  (getI a1 v1).bind λy3=>
  if(!(y2.aj==y3.aj&&(y2.bw==y3.bw&&(y2.bj==y3.bj))))then
   some (.inr (some false))
  else
   some (.inl (IntKind.i64.wrap (v1+1)))
 else
  some (.inr (some true))
def YP(a0 a1:List Ap):Option (Bool):=
 if((a0.length:Int) !=(a1.length:Int))then
  some false
 else
  Az (λs:Int=>RC a0 a1 s) 0
def Zi(a0 a1:AP):Option (Bool):=
 if(a0.az==a1.az)then
  if(a0.ah==a1.ah)then
   if(a0.af==a1.af)then
    if(a0.bh==a1.bh)then
     if(a0.bg==a1.bg)then
      (YN a0.aq a1.aq).bind λv1=>
      if v1 then
       (YP a0.ae a1.ae).bind λv2=>
       some v2
      else
       some false
     else
      some false
    else
     some false
   else
    some false
  else
   some false
 else
  some false
def Q8(a0 a1:Ai)(v2:Int):Option ((Int) ⊕ Option (Bool)):=
 if(decide (v2<(a0.au.length:Int)))then
  (getI a0.au v2).bind λy3=>
  (getI a1.au v2).bind λy4=>
  if(!(y3.ah==y4.ah&&(y3.bg==y4.bg&&(y3.af==y4.af))))then
   some (.inr (some false))
  else
   some (.inl (IntKind.i64.wrap (v2+1)))
 else
  some (.inr (some true))
def tH(a0 a1:Ai):Option (Bool):=
 Az (λs:Int=>Q8 a0 a1 s) 0
def Rg(a0 a1:Ai)(v5:Int):Option ((Int) ⊕ Option (Bool)):=
 if(decide (v5<(a0.ab.length:Int)))then
  (getI a0.ab v5).bind λy6=>
  (Po y6).bind λv7=>
  (getI a1.ab v5).bind λy8=>
  (Po y8).bind λv9=>
  (Zi v7 v9).bind λv10=>
  if(!v10)then
   some (.inr (some false))
  else
   some (.inl (IntKind.i64.wrap (v5+1)))
 else
  some (.inr (tH a0 a1))
def YG(a0 a1:Ai):Option (Bool):=
 if(a0.aw !=a1.aw)then
  some false
 else
  (YJ a0.ao a1.ao).bind λv1=>
  if(((!v1)||((a0.ab.length:Int) !=(a1.ab.length:Int)))||((a0.au.length:Int) !=(a1.au.length:Int)))then
   some false
  else
   Az (λs:Int=>Rg a0 a1 s) 0
def QU(a0 a1:List Ap)(v1:Int):Option ((Int) ⊕ Option (Bool)):=
 if(decide (v1<(a0.length:Int)))then
  (getI a0 v1).bind λy2=>
  (getI a1 v1).bind λy3=>
  if(!(y2.aj==y3.aj&&(y2.bw==y3.bw&&(y2.bj==y3.bj))))then
   some (.inr (some false))
  else
   some (.inl (IntKind.i64.wrap (v1+1)))
 else
  some (.inr (some true))
def Yx(a0 a1:List Ap):Option (Bool):=
 if((a0.length:Int) !=(a1.length:Int))then
  some false
 else
  Az (λs:Int=>QU a0 a1 s) 0
def Rc(a0 a1:An)(v2:Int):Option ((Int) ⊕ Option (Bool)):=
 if(decide (v2<(a0.ak.length:Int)))then
  (getI a0.ak v2).bind λy3=>
  (getI a1.ak v2).bind λy4=>
  if(y3.ah !=y4.ah)then
   some (.inr (some false))
  else
   (Vn y3.aq y4.aq).bind λv5=>
   if v5 then
    (Yx y3.ae y4.ae).bind λv6=>
    if(!v6)then
     some (.inr (some false))
    else
     some (.inl (IntKind.i64.wrap (v2+1)))
   else
    some (.inr (some false))
 else
  some (.inr (some true))
def tR(a0 a1:An):Option (Bool):=
 Az (λs:Int=>Rc a0 a1 s) 0
def Rf(a0 a1:An)(v7:Int):Option ((Int) ⊕ Option (Bool)):=
 if(decide (v7<(a0.ar.length:Int)))then
  (getI a0.ar v7).bind λy8=>
  (getI a1.ar v7).bind λy9=>
  (YG y8 y9).bind λv10=>
  if(!v10)then
   some (.inr (some false))
  else
   some (.inl (IntKind.i64.wrap (v7+1)))
 else
  some (.inr (tR a0 a1))
def Vl(a0 a1:An):Option (Bool):=
 (Vn a0.bc a1.bc).bind λv1=>
 if(((!v1)||((a0.ar.length:Int) !=(a1.ar.length:Int)))||((a0.ak.length:Int) !=(a1.ak.length:Int)))then
  some false
 else
  Az (λs:Int=>Rf a0 a1 s) 0
def U7(a0:Bz)(a1:List Bz)(a2:Int):Option (Bool):=
 (getI a1 0).bind λy1=>
 some ((!(a0.ah==y1.ah&&(a0.bg==y1.bg&&(a0.af==y1.af))))||(a0.bg&&(decide (a2>0))))
def iX(v1:Int)(v2:List Bz):Option (Bool):=
 (D4 v2 (λy0_=>U7 y0_ v2 v1)).bind λv3=>
 some (!v3)
def Rp(a0:List Ai)(a1 v4 v5:Int)(v6:List Bz):Option ((Int × Int × List Bz) ⊕ Option (Bool)):=
 if(decide (v4<(a0.length:Int)))then
  (getI a0 v4).bind λy7=>
  (L4 y7 a1).bind λv8=>
  if v8.2 then
   (getI y7.au v8.1).bind λy9=>
   req (RM (((v6).length:Int)+(([y9]:List Bz).length:Int)) 24)<|
   some (.inl ((IntKind.i64.wrap (v4+1)),v5,(v6++ [y9])))
  else
   (Kd y7 a1).bind λv10=>
   if(!v10.2)then
    some (.inl ((IntKind.i64.wrap (v4+1)),(IntKind.i64.wrap (v5+1)),v6))
   else
    some (.inl ((IntKind.i64.wrap (v4+1)),v5,v6))
 else
  some (.inr (iX v5 v6))
def jQ(a0:List Ai)(a1:Int):Option (Bool):=
 Az (λs:Int × Int × List Bz=>Rp a0 a1 s.1 s.2.1 s.2.2) (0,0,[])
def gZ(v2:Int)(y3:AE)(v5:List Ai):Option ((Int) ⊕ Option (Bool × Bool)):=
 (jQ v5 y3.ah).bind λv6=>
 if(!v6)then
  some (.inr (some (false,true)))
 else
  some (.inl (IntKind.i64.wrap (v2+1)))
def Re(a0:An)(v2:Int)(y3:AE)(v4:List Int)(v7:Int)(v8:List Ai):Option ((Int × List Ai) ⊕ Option ((Int) ⊕ Option (Bool × Bool))):=
 if(decide (v7<(v4.length:Int)))then
  (getI v4 v7).bind λy9=>
  (getI a0.ar y9).bind λy10=>
  req (RM (((v8).length:Int)+(([y10]:List Ai).length:Int)) 80)<|
  some (.inl ((IntKind.i64.wrap (v7+1)),(v8++ [y10])))
 else
  some (.inr (gZ v2 y3 v8))
def Rj(a0:An)(v2:Int):Option ((Int) ⊕ Option (Bool × Bool)):=
 if(decide (v2<(a0.ak.length:Int)))then
  (getI a0.ak v2).bind λy3=>
  (L7 a0 y3).bind λv4=>
  Az (λs:Int × List Ai=>Re a0 v2 y3 v4 s.1 s.2) (0,[])
 else
  some (.inr (some (true,true)))
def YL(a0:An):Option (Bool × Bool):=
 (L6 a0).bind λv1=>
 if(!v1)then
  some (false,false)
 else
  Az (λs:Int=>Rj a0 s) 0
def tE(v1 v2:Int × AQ)(v3 v4:Int × AQ)(v6:List Int)(v7 v8:Int)(v9:List (Ag)):Option (AP × AQ):=
 (UU (⟨v6,v7,v8⟩:AQ)).bind λv10=>
 if((IntKind.i64.wrap ((v9.length:Int)+(v10.1.length:Int)))==0)then
  some ((⟨(IntKind.i64.wrap ((1:Int)+v1.1)),(IntKind.i64.wrap ((1:Int)+v2.1)),(IntKind.i64.wrap ((1:Int)+v3.1)),v4.1,[([97]:Ag)],v10.1,false⟩:AP),(⟨v10.2.bk,v10.2.df,v10.2.bm⟩:AQ))
 else
  some ((⟨(IntKind.i64.wrap ((1:Int)+v1.1)),(IntKind.i64.wrap ((1:Int)+v2.1)),(IntKind.i64.wrap ((1:Int)+v3.1)),v4.1,v9,v10.1,false⟩:AP),(⟨v10.2.bk,v10.2.df,v10.2.bm⟩:AQ))
def gR(v1 v2:Int × AQ)(v3 v4:Int × AQ)(v11:Int)(v12:List Int)(v13 v14:Int)(v15:List (Ag)):Option ((Int × List Int × Int × Int × List (Ag)) ⊕ Option (AP × AQ)):=
 if(decide (v11>0))then
  (U1 (⟨v12,v13,v14⟩:AQ)).bind λv16=>
  (L8 v15 v16.1).bind λv17=>
  some (.inl ((IntKind.i64.wrap (v11-1)),v16.2.bk,v16.2.df,v16.2.bm,v17))
 else
  some (.inr (tE v1 v2 v3 v4 v12 v13 v14 v15))
def X8(a0:AQ):Option (AP × AQ):=
 (Ff a0 4).bind λv1=>
 (Ff v1.2 4).bind λv2=>
 (Ff v2.2 30).bind λv3=>
 if((IntKind.i64.wrap ((1:Int)+v1.1))==1)then
  (Ff v3.2 2).bind λv4=>
  (Ff v4.2 3).bind λv5=>
  Az (λs:Int × List Int × Int × Int × List (Ag)=>gR v1 v2 v3 v4 s.1 s.2.1 s.2.2.1 s.2.2.2.1 s.2.2.2.2) (v5.1,v5.2.bk,v5.2.df,v5.2.bm,[])
 else
  if((IntKind.i64.wrap ((1:Int)+v1.1))==4)then
   some ((⟨(IntKind.i64.wrap ((1:Int)+v1.1)),0,(IntKind.i64.wrap ((1:Int)+v3.1)),0,[],[],false⟩:AP),(⟨v3.2.bk,v3.2.df,v3.2.bm⟩:AQ))
  else
   (Ns v3.2 2).bind λv18=>
   if(!v18.1)then
    some ((⟨(IntKind.i64.wrap ((1:Int)+v1.1)),(IntKind.i64.wrap ((1:Int)+v2.1)),0,0,[],[],v18.1⟩:AP),(⟨v18.2.bk,v18.2.df,v18.2.bm⟩:AQ))
   else
    some ((⟨(IntKind.i64.wrap ((1:Int)+v1.1)),(IntKind.i64.wrap ((1:Int)+v2.1)),(IntKind.i64.wrap ((1:Int)+v3.1)),0,[],[],v18.1⟩:AP),(⟨v18.2.bk,v18.2.df,v18.2.bm⟩:AQ))
def XQ(v2:List AP)(v3 v4:Int)(v8:AP × AQ)(v9:Int × AQ)(v10:Int):Option ((List AP × Int × Int × List Int × Int × Int) ⊕ Option (List AP × AQ)):=
 if(((v8.1.az==2)||(v8.1.az==3))&&(decide ((v2.length:Int)>0)))then
  (Ff v9.2 (v2.length:Int)).bind λv11=>
  (getI v2 v11.1).bind λy12=>
  if(y12.az==1)then
   req (RM (((v2).length:Int)+(([(⟨v8.1.az,y12.ah,v10,v8.1.bh,v8.1.aq,v8.1.ae,v8.1.bg⟩:AP)]:List AP).length:Int)) 88)<|
   some (.inl ((v2++ [(⟨v8.1.az,y12.ah,v10,v8.1.bh,v8.1.aq,v8.1.ae,v8.1.bg⟩:AP)]),(IntKind.i64.wrap (v3+(IntKind.i64.wrap ((1:Int)+v9.1)))),(IntKind.i64.wrap (v4-1)),v11.2.bk,v11.2.df,v11.2.bm))
  else
   req (RM (((v2).length:Int)+(([(⟨v8.1.az,v8.1.ah,v10,v8.1.bh,v8.1.aq,v8.1.ae,v8.1.bg⟩:AP)]:List AP).length:Int)) 88)<|
   some (.inl ((v2++ [(⟨v8.1.az,v8.1.ah,v10,v8.1.bh,v8.1.aq,v8.1.ae,v8.1.bg⟩:AP)]),(IntKind.i64.wrap (v3+(IntKind.i64.wrap ((1:Int)+v9.1)))),(IntKind.i64.wrap (v4-1)),v11.2.bk,v11.2.df,v11.2.bm))
 else
  req (RM (((v2).length:Int)+(([(⟨v8.1.az,v8.1.ah,v10,v8.1.bh,v8.1.aq,v8.1.ae,v8.1.bg⟩:AP)]:List AP).length:Int)) 88)<|
  some (.inl ((v2++ [(⟨v8.1.az,v8.1.ah,v10,v8.1.bh,v8.1.aq,v8.1.ae,v8.1.bg⟩:AP)]),(IntKind.i64.wrap (v3+(IntKind.i64.wrap ((1:Int)+v9.1)))),(IntKind.i64.wrap (v4-1)),v9.2.bk,v9.2.df,v9.2.bm))
def gM(v2:List AP)(v3 v4:Int)(v5:List Int)(v6 v7:Int):Option ((List AP × Int × Int × List Int × Int × Int) ⊕ Option (List AP × AQ)):=
 if(decide (v4>0))then
  (X8 (⟨v5,v6,v7⟩:AQ)).bind λv8=>
  (Ff v8.2 3).bind λv9=>
  if(decide (v8.1.af>0))then
   XQ v2 v3 v4 v8 v9 (IntKind.i64.wrap (v3+(IntKind.i64.wrap ((1:Int)+v9.1))))
  else
   XQ v2 v3 v4 v8 v9 v8.1.af
 else
  some (.inr (some (v2,(⟨v5,v6,v7⟩:AQ))))
def Yh(a0:AQ):Option (List AP × AQ):=
 (Ff a0 12).bind λv1=>
 Az (λs:List AP × Int × Int × List Int × Int × Int=>gM s.1 s.2.1 s.2.2.1 s.2.2.2.1 s.2.2.2.2.1 s.2.2.2.2.2) ([],0,v1.1,v1.2.bk,v1.2.df,v1.2.bm)
def RQ(a0:List AP)(v1:List Bool)(v2 v3:Int)(v4:List Ak)(v5:List AG)(v6:List Bz):Option ((List Bool × Int × Int × List Ak × List AG × List Bz) ⊕ Option (Ai × List Bool)):=
 if(decide (v2<(a0.length:Int)))then
  (getI a0 v2).bind λy7=>
  (Vd (⟨v3,v4,v5,v6⟩:Ai) y7).bind λv8=>
  if v8.2 then
   req (RM (((v1).length:Int)+(([v8.2]:List Bool).length:Int)) 1)<|
   some (.inl ((v1++ [v8.2]),(IntKind.i64.wrap (v2+1)),v8.1.aw,v8.1.ao,v8.1.ab,v8.1.au))
  else
   req (RM (((v1).length:Int)+(([v8.2]:List Bool).length:Int)) 1)<|
   some (.inl ((v1++ [v8.2]),(IntKind.i64.wrap (v2+1)),v3,v4,v5,v6))
 else
  some (.inr (some ((⟨v3,v4,v5,v6⟩:Ai),v1)))
def Zn(a0:List AP):Option (Ai × List Bool):=
 Az (λs:List Bool × Int × Int × List Ak × List AG × List Bz=>RQ a0 s.1 s.2.1 s.2.2.1 s.2.2.2.1 s.2.2.2.2.1 s.2.2.2.2.2) ([],0,0,[],[],[])
def gP(a0:AQ):Option (Ai × AQ):=
 (Yh a0).bind λv1=>
 (Zn v1.1).bind λv2=>
 some (v2.1,v1.2)
def XU(a0:AQ):Option (Ai × AQ):=
 (gP a0).bind λv1=>
 (Ff v1.2 25).bind λv2=>
 if(v2.1==0)then
  (QT v2.2 ([0,1,100000,100001]:List Int)).bind λv3=>
  some ((⟨v3.1,v1.1.ao,v1.1.ab,v1.1.au⟩:Ai),(⟨v3.2.bk,v3.2.df,v3.2.bm⟩:AQ))
 else
  if(v2.1==1)then
   if(decide ((v1.1.ab.length:Int)>0))then
    (QT v2.2 ([0,1,100]:List Int)).bind λv4=>
    (getI v1.1.ab 0).bind λy5=>
    some ((⟨v1.1.aw,v1.1.ao,(v1.1.ab.set ((0:Int)).toNat {y5 with af:=v4.1}),v1.1.au⟩:Ai),(⟨v4.2.bk,v4.2.df,v4.2.bm⟩:AQ))
   else
    some ((⟨v1.1.aw,v1.1.ao,v1.1.ab,v1.1.au⟩:Ai),(⟨v2.2.bk,v2.2.df,v2.2.bm⟩:AQ))
  else
   if(v2.1==2)then
    if(decide ((v1.1.au.length:Int)>0))then
     (getI v1.1.au 0).bind λy6=>
     req (RM (((v1.1.au).length:Int)+(([y6]:List Bz).length:Int)) 24)<|
     some ((⟨v1.1.aw,v1.1.ao,v1.1.ab,(v1.1.au++ [y6])⟩:Ai),(⟨v2.2.bk,v2.2.df,v2.2.bm⟩:AQ))
    else
     some ((⟨v1.1.aw,v1.1.ao,v1.1.ab,v1.1.au⟩:Ai),(⟨v2.2.bk,v2.2.df,v2.2.bm⟩:AQ))
   else
    some ((⟨v1.1.aw,v1.1.ao,v1.1.ab,v1.1.au⟩:Ai),(⟨v2.2.bk,v2.2.df,v2.2.bm⟩:AQ))
def Yj(a0:AQ):Option (An × AQ):=
 (UT a0).bind λv1=>
 (Vw v1.1.1 v1.1.2).bind λv2=>
 (Ff v1.2 25).bind λv3=>
 if(v3.1==0)then
  (XU v3.2).bind λv4=>
  (getI v2.1.ar 0).bind λy5=>
  some ((⟨v2.1.bc,(v2.1.ar.set ((0:Int)).toNat v4.1),v2.1.ak⟩:An),(⟨v4.2.bk,v4.2.df,v4.2.bm⟩:AQ))
 else
  if(v3.1==1)then
   some ((⟨[([122]:Ag),([97]:Ag)],v2.1.ar,v2.1.ak⟩:An),(⟨v3.2.bk,v3.2.df,v3.2.bm⟩:AQ))
  else
   if(v3.1==2)then
    req (0<=(1:Int)/\(1:Int)<=(v2.1.ar.length:Int)/\(v2.1.ar.length:Int)<=(v2.1.ar.length:Int))<|
    some ((⟨v2.1.bc,(A6 v2.1.ar 1 (v2.1.ar.length:Int)),v2.1.ak⟩:An),(⟨v3.2.bk,v3.2.df,v3.2.bm⟩:AQ))
   else
    some ((⟨v2.1.bc,v2.1.ar,v2.1.ak⟩:An),(⟨v3.2.bk,v3.2.df,v3.2.bm⟩:AQ))
def Yd(a0:List Int):Option (An × CB):=
 (Yj (⟨a0,0,0⟩:AQ)).bind λv1=>
 (UP v1.2 v1.1).bind λv2=>
 some (v1.1,v2.1)
def YY(a0:An)(a1:CB):Option (An × Bool):=
 (L6 a0).bind λv1=>
 if(!v1)then
  some ((⟨[],[],[]⟩:An),false)
 else
  (QX a0 a1).bind λv2=>
  some (v2.1,v2.2)
def YT(a0:An)(a1:CB):Option (An × Bool):=
 (R6 a0).bind λv1=>
 if(!v1)then
  some ((⟨[],[],[]⟩:An),false)
 else
  (R3 a0 a1).bind λv2=>
  some (v2.1,v2.2)
def Y1(a0:An):Option (Bool):=
 (R6 a0).bind λv1=>
 some v1
def YH(a1:List Int):Option (Bool):=
 (Yd a1).bind λv7=>
 (YY v7.1 v7.2).bind λv8=>
 (YT v7.1 v7.2).bind λv9=>
 if(v8.2 !=v9.2)then
  some false
 else
  (Vl v8.1 v9.1).bind λv10=>
  if v10 then
   (L6 v7.1).bind λv11=>
   (Y1 v7.1).bind λv12=>
   if(v11 !=v12)then
    some false
   else
    if v8.2 then
     (L6 v8.1).bind λv13=>
     some v13
    else
     some true
  else
   some false
def Y4(a0 a1:List Int):Option (Bool):=
 (kX a0 a1).bind λv1=>
 if v1 then
  some true
 else
  (X9 a0).bind λv2=>
  (Y0 v2.1 v2.2).bind λv3=>
  (YW v2.1 v2.2).bind λv4=>
  if(v3.2.2 !=v4.2.2)then
   some false
  else
   (YM v3.2.1 v4.2.1).bind λv5=>
   if v5 then
    (Vl v3.1 v4.1).bind λv6=>
    if(!v6)then
     some false
    else
     if v3.2.2 then
      (YL v3.1).bind λv14=>
      (L6 v3.1).bind λv15=>
      if(((!v15)||(!v14.2))||(!v14.1))then
       some false
      else
       YH a1
     else
      YH a1
   else
    some false
def zhF:FS:=Ed 302 [.v .s, .v (.i .u8)] (.v (.i .i64)) (λx=>XO x.1 x.2.1) λx r _ h=>zhE x.1 x.2.1 r h
def tX:FS:=Ed 154 [.v (.l (.st 4))] (.v (.l (.st 4))) (λx=>Rm x.1) λx r _ h=>zpF x.1 r h
def zrW:FS:=Ed 248 [.v (.l (.st 1)), .v (.i .i64)] (.v (.l (.st 1))) (λx=>R5 x.1 x.2.1) λx r _ h=>zr8 x.1 x.2.1 r h
def zjj:FS:=Ed 172 [.v (.l (.i .i64))] (.v (.l (.i .i64))) (λx=>XL x.1) λx r _ h=>zjb x.1 r h
def tA:FS:=Ed 229 [.v (.l .s)] (.v (.l .s)) (λx=>QK x.1) λx r _ h=>zhs x.1 r h
def tB:FS:=Ed 228 [.v (.l .s)] (.tu (.cons (.tu .nil) (.cons (.v (.l .s)) .nil))) (λx=>QL x.1) λx r _ h=>ziq x.1 r h
def zf5:FS:=Ed 252 [.v (.l (.st 1)), .v (.i .i64), .v (.l (.st 1))] (.v (.l (.st 1))) (λx=>Ib x.1 x.2.1 x.2.2.1) λx r hp h=>z8 (t:=48) (it:=3) (el:=108) (K:=5) (l:=[.flat, .flat, .flat, .row 9 1 (Av.of [.flat]), .row 137 3 (Av.of [.flat, .flat, .flat])]) (by kernel_rfl) (λ_=>by kernel_rfl) zBH h
def zf9:FS:=Ed 281 [.v (.l (.st 1)), .v (.i .i64), .v (.i .i64)] (.v (.l (.st 1))) (λx=>V3 x.1 x.2.1 x.2.2.1) λx r hp h=>zyQ (t:=48) (it:=3) (el:=108) (K:=5) (l:=[.flat, .flat, .flat, .row 9 1 (Av.of [.flat]), .row 137 3 (Av.of [.flat, .flat, .flat])]) (by kernel_rfl) (λ_=>by kernel_rfl) zBK h
def zfX:FS:=Ed 282 [.v (.l (.st 2)), .v (.i .i64), .v (.l (.st 2))] (.v (.l (.st 2))) (λx=>Ib x.1 x.2.1 x.2.2.1) λx r hp h=>zD0 (t:=49) (it:=3) (el:=53) (K:=3) (by kernel_rfl) (λ_=>by kernel_rfl) zBG h
def zfW:FS:=Ed 306 [.v (.l (.st 4)), .v (.i .i64), .v (.l (.st 4))] (.v (.l (.st 4))) (λx=>Ib x.1 x.2.1 x.2.2.1) λx r hp h=>z8 (t:=47) (it:=3) (el:=146) (K:=2) (l:=[.flat, .row 198 3 (Av.of [.flat, .flat, .flat])]) (by kernel_rfl) (λ_=>by kernel_rfl) zBe h
def zyv:FS:=Aq 7 [.v (.l (.i .u8)), .v (.l (.i .u8))] (.v .b) (λx=>kX x.1 x.2.1) [] []
def zml:FS:=Aq 153 [.rf (.st 5)] (.tu (.cons (.v (.i .i64)) (.cons (.v (.st 5)) .nil))) (λx=>UR x.1) [] [.inl]
def Ke:FS:=Aq 90 [.rf (.st 5), .v (.i .i64)] (.tu (.cons (.v (.i .i64)) (.cons (.v (.st 5)) .nil))) (λx=>Ff x.1 x.2.1) [zml] [.inl]
def zmm:FS:=Aq 88 [.rf (.st 5)] (.tu (.cons (.v (.l .s)) (.cons (.v (.st 5)) .nil))) (λx=>Yi x.1) [Ke] []
def Yc:FS:=Aq 149 [.rf (.st 5), .v (.i .i64)] (.tu (.cons (.v .b) (.cons (.v (.st 5)) .nil))) (λx=>Ns x.1 x.2.1) [Ke] []
def tQ:FS:=Aq 214 [.rf (.st 5), .v (.l .s)] (.tu (.cons (.v .s) (.cons (.v (.st 5)) .nil))) (λx=>UW x.1 x.2.1) [Ke] []
def zna:FS:=Aq 264 [.rf (.st 5)] (.tu (.cons (.v .s) (.cons (.v (.st 5)) .nil))) (λx=>X7 x.1) [tQ] []
def zlH:FS:=Aq 213 [.rf (.st 5), .v .s] (.tu (.cons (.v (.st 0)) (.cons (.v (.st 5)) .nil))) (λx=>X3 x.1 x.2.1) [Yc,zna] []
def tF:FS:=Aq 150 [.rf (.st 5)] (.tu (.cons (.v (.l (.st 0))) (.cons (.v (.st 5)) .nil))) (λx=>UU x.1) [Yc,zlH] [.sp [.l (.st 0), .i .i64, .l (.i .u8), .i .i64, .i .u64], .inl]
def tI:FS:=Aq 152 [.rf (.st 5)] (.tu (.cons (.v .s) (.cons (.v (.st 5)) .nil))) (λx=>U1 x.1) [tQ] []
def R0:FS:=Aq 129 [.v (.l .s)] (.v (.l .s)) (λx=>H9 x.1) [] []
def Za:FS:=Aq 151 [.v (.l .s), .v .s] (.v (.l .s)) (λx=>L8 x.1 x.2.1) [R0] [.sp [.i .i64]]
def zk6:FS:=Aq 89 [.rf (.st 5)] (.tu (.cons (.v (.l (.st 6))) (.cons (.v (.st 5)) .nil))) (λx=>XZ x.1) [tF,Ke,tI,Za,Yc] [.sp [.l (.st 6), .i .i64, .l (.i .u8), .i .i64, .i .u64], .pt, .sp [.i .i64, .l (.i .u8), .i .i64, .i .u64, .l .s], .inl]
def R8:FS:=Aq 165 [.v (.i .i64), .v (.i .i64), .v (.i .i64)] (.v .b) (λx=>IS x.1 x.2.1 x.2.2.1) [] []
def uS:FS:=Aq 226 [.v .s, .v .s] (.v .b) (λx=>Vv x.1 x.2.1) [] [.sp [.i .i64], .sp [.b, .i .i64]]
def Zm:FS:=Aq 166 [.v .s] (.v .b) (λx=>Px x.1) [R8,uS] []
def uI:FS:=Aq 99 [.v (.l .s)] (.v .b) (λx=>Vr x.1) [Zm] [.sp [.i .i64]]
def uW:FS:=Aq 242 [.v (.i .i64)] (.v .b) (λx=>Nv x.1) [R8] []
def ztB:FS:=Aq 243 [.v (.l .s)] (.v .b) (λx=>Y8 x.1) [Zm] [.sp [.i .i64]]
def zvr:FS:=Aq 290 [.v .s] (.v .b) (λx=>Zl x.1) [uS] []
def uR:FS:=Aq 266 [.v .s, .v .s, .v .b] (.v .b) (λx=>Vs x.1 x.2.1 x.2.2.1) [Zm,zvr] []
def zqP:FS:=Aq 244 [.v (.l (.st 0))] (.v .b) (λx=>YC x.1) [uR] [.sp [.i .i64]]
def jP:FS:=Aq 190 [.v (.st 7)] (.v .b) (λx=>Mb x.1) [R8,uW,ztB,zqP] [.pt]
def zqV:FS:=Aq 167 [.v (.st 6)] (.v .b) (λx=>YX x.1) [jP] []
def tZ:FS:=Aq 100 [.v (.l (.st 6))] (.v .b) (λx=>Vh x.1) [zqV] [.sp [.i .i64], .sp [.i .i64]]
def uO:FS:=Aq 130 [.v (.l (.st 6))] (.v (.l (.st 6))) (λx=>Zf x.1) [R0] [.sp [.l (.st 6), .i .i64]]
def zrR:FS:=Aq 87 [.v (.l .s), .v (.l (.st 6))] (.tu (.cons (.v (.st 9)) (.cons (.v .b) .nil))) (λx=>Zj x.1 x.2.1) [uI,tZ,R0,uO] []
def tJ:FS:=Aq 117 [.rf (.st 5), .v (.l (.i .i64))] (.tu (.cons (.v (.i .i64)) (.cons (.v (.st 5)) .nil))) (λx=>QT x.1 x.2.1) [Ke] []
def vM:FS:=Aq 118 [.v (.st 9), .v (.i .i64)] (.v (.i .i64)) (λx=>VB x.1 x.2.1) [] [.sp [.i .i64]]
def zqN:FS:=Aq 133 [.v (.l .s), .v (.l (.st 0))] (.v (.l .s)) (λx=>YS x.1 x.2.1) [Za] [.sp [.l .s, .i .i64], .sp [.l .s, .i .i64]]
def uN:FS:=Aq 198 [.v (.l .s), .v .s] (.v (.i .i64)) (λx=>R2 x.1 x.2.1) [] [.sp [.i .i64]]
def zuq:FS:=Aq 197 [.v (.l (.i .i64)), .v (.i .i64)] (.v (.l (.i .i64))) (λx=>jT x.1 x.2.1) [] [.sp [.i .i64]]
def zry:FS:=Aq 132 [.v (.l .s), .v (.l .s)] (.v (.l (.i .i64))) (λx=>Vb x.1 x.2.1) [uN,zuq] [.sp [.l (.i .i64), .i .i64]]
def vG:FS:=Aq 67 [.v (.l .s), .v (.st 6)] (.v (.l (.i .i64))) (λx=>Nw x.1 x.2.1) [zqN,zry] []
def tG:FS:=Aq 56 [.rf (.st 5), .v (.st 9)] (.tu (.cons (.v (.st 10)) (.cons (.v (.st 5)) .nil))) (λx=>UP x.1 x.2.1) [tJ,Ke,vM,vG] [.pt, .inl]
def tL:FS:=Aq 38 [.rf (.st 5)] (.tu (.cons (.tu (.cons (.v (.st 9)) (.cons (.v (.l (.st 10))) .nil))) (.cons (.v (.st 5)) .nil))) (λx=>UT x.1) [zmm,zk6,zrR,Ke,tG] [.sp [.l (.st 10), .i .i64, .l (.i .u8), .i .i64, .i .u64]]
def znm:FS:=Aq 8 [.v (.l (.i .u8))] (.tu (.cons (.v (.st 9)) (.cons (.v (.l (.st 10))) .nil))) (λx=>X9 x.1) [tL] []
def Pt:FS:=Aq 113 [.v (.i .i64), .v (.i .i64), .v (.i .i64)] (.v .b) (λx=>L9 x.1 x.2.1 x.2.2.1) [] []
def zlE:FS:=Aq 271 [.v (.i .u8)] (.v .b) (λx=>gQ x.1) [] []
def zmV:FS:=Aq 272 [.v .s, .v (.i .u8)] (.v (.i .i64)) (λx=>gX x.1 x.2.1) [zhF] []
def uG:FS:=Aq 230 [.v .s, .v .s] (.v .b) (λx=>Va x.1 x.2.1) [zlE,zmV] [.sp [.i .i64]]
def zr5:FS:=Aq 174 [.v .s] (.v .b) (λx=>Zd x.1) [Pt,uG] []
def YI:FS:=Aq 107 [.v (.l .s)] (.v .b) (λx=>Nt x.1) [zr5] [.sp [.i .i64]]
def zrx:FS:=Aq 48 [.v (.l .s)] (.v .b) (λx=>YZ x.1) [YI] []
def ze1:FS:=Ed 108 [.v (.l (.st 8)), .fn [.st 8] .b] (.v (.i .i64)) (λx=>F7 x.1 (λy=>x.2.1.φ (y,()))) λx r hp h=>Ga (f:=108) (t:=P3 4) (by kernel_rfl) (by kernel_rfl) (Wn (av:=(B4 Da.av (.st 8))) (cn:=4) (λ_=>⟨_,rfl,rfl⟩) h (λy b hb=>hp.2.1 (y,()) b hb))
def zee:FS:=Ed 49 [.v (.l (.st 8)), .fn [.st 8] .b] (.v .b) (λx=>D4 x.1 (λy=>x.2.1.φ (y,()))) λx r hp h=>Ga (f:=49) (t:=P2 108) (by kernel_rfl) (by kernel_rfl) (Wj h λr hr=>ze1.ok x r hp hr)
def uX:FS:=Aq 109 [.v (.i .i64)] (.v .b) (λx=>RZ x.1) [Pt] []
def u3:FS:=Aq 231 [.v (.i .i64)] (.v .b) (λx=>Nu x.1) [Pt] []
def zrZ:FS:=Aq 273 [.v .s] (.v .b) (λx=>YR x.1) [uG] []
def uC:FS:=Aq 232 [.v .s, .v .b] (.v .b) (λx=>U8 x.1 x.2.1) [zrZ] []
def ztF:FS:=Aq 175 [.v (.st 4)] (.v .b) (λx=>Y6 x.1) [Pt,u3,uC] [.sp [.i .i64]]
def tW:FS:=Aq 110 [.v (.l (.st 4))] (.v .b) (λx=>Vm x.1) [YI,ztF] [.sp [.i .i64, .l .s]]
def tM:FS:=Aq 177 [.v (.st 1)] (.v (.st 7)) (λx=>RH x.1) [] []
def jW:FS:=Aq 114 [.v (.i .i64)] (.v .b) (λx=>Nx x.1) [Pt] []
def tV:FS:=Aq 227 [.v (.l (.st 0))] (.v (.l .s)) (λx=>Vk x.1) [] [.sp [.i .i64, .l .s]]
def s6:FS:=Ed 236 [.v (.l (.st 0)), .fn [.st 0] .b] (.v (.i .i64)) (λx=>F7 x.1 (λy=>x.2.1.φ (y,()))) λx r hp h=>Ga (f:=236) (t:=P3 3) (by kernel_rfl) (by kernel_rfl) (Wn (av:=(B4 Da.av (.st 0))) (cn:=3) (λ_=>⟨_,rfl,rfl⟩) h (λy b hb=>hp.2.1 (y,()) b hb))
def fZ:FS:=Ed 181 [.v (.l (.st 0)), .fn [.st 0] .b] (.v .b) (λx=>D4 x.1 (λy=>x.2.1.φ (y,()))) λx r hp h=>Ga (f:=181) (t:=P2 236) (by kernel_rfl) (by kernel_rfl) (Wj h λr hr=>s6.ok x r hp hr)
def zni:FS:=Aq 274 [.v (.st 0)] (.v .b) (λx=>Ya x.1) [uC] []
def zmj:FS:=Ho zni λ_=>by kernel_rfl
def zoE:FS:=Aq 233 [.v (.l (.st 0))] (.v .b) (λx=>Yu x.1) [tV,YI,fZ,zmj] []
def uQ:FS:=Aq 176 [.v (.st 7)] (.v .b) (λx=>Vt x.1) [jW,u3,Pt,YI,zoE] [.pt]
def zfu:FS:=Ed 234 [.v (.l (.st 1)), .fn [.st 1] .b] (.v (.i .i64)) (λx=>F7 x.1 (λy=>x.2.1.φ (y,()))) λx r hp h=>Ga (f:=234) (t:=P3 5) (by kernel_rfl) (by kernel_rfl) (Wn (av:=(B4 Da.av (.st 1))) (cn:=5) (λ_=>⟨_,rfl,rfl⟩) h (λy b hb=>hp.2.1 (y,()) b hb))
def s7:FS:=Ed 178 [.v (.l (.st 1)), .fn [.st 1] .b] (.v .b) (λx=>D4 x.1 (λy=>x.2.1.φ (y,()))) λx r hp h=>Ga (f:=178) (t:=P2 234) (by kernel_rfl) (by kernel_rfl) (Wj h λr hr=>zfu.ok x r hp hr)
def zcF:FS:=Aq 303 [.v (.l (.st 0)), .v .s, .fn [.st 0, .s] (.i .i64)] (.tu (.cons (.v (.i .i64)) (.cons (.v .b) .nil))) (λx=>gC x.1 x.2.1 (λy0 y1=>x.2.2.1.φ (y0,y1,()))) [] [.sp [.i .i64, .i .i64]]
def zm6:FS:=Aq 278 [.v .s] (.v .b) (λx=>UZ x.1) [] []
def tK:FS:=Aq 239 [.v .s, .v .s] (.v (.i .i64)) (λx=>US x.1 x.2.1) [zm6] []
def zn1:FS:=Aq 304 [.v (.st 0), .v .s] (.v (.i .i64)) (λx=>QZ x.1 x.2.1) [tK] []
def zm8:FS:=Ho zn1 λ_=>by kernel_rfl
def zpR:FS:=Aq 276 [.v (.l (.st 0)), .v .s] (.tu (.cons (.v (.i .i64)) (.cons (.v .b) .nil))) (λx=>Rn x.1 x.2.1) [zcF,zm8] []
def zh2:FS:=Aq 305 [.v (.l .s), .v .s] (.v (.i .i64)) (λx=>XM x.1 x.2.1) [] [.sp [.i .i64]]
def zgY:FS:=Aq 277 [.v (.l .s), .v .s] (.v .b) (λx=>XN x.1 x.2.1) [zh2] []
def zpK:FS:=Aq 275 [.v (.st 0), .rf (.l (.st 0)), .rf (.l .s)] (.v .b) (λx=>iU x.1 x.2.1 x.2.2.1) [zpR,zgY] []
def zoZ:FS:=Ho zpK λ_=>by kernel_rfl
def zrT:FS:=Aq 235 [.v (.l (.st 0)), .v (.l .s), .v (.l (.st 0))] (.v .b) (λx=>Vx x.1 x.2.1 x.2.2.1) [fZ,zoZ] []
def vN:FS:=Aq 180 [.v (.st 1), .v (.st 1)] (.v .b) (λx=>R7 x.1 x.2.1) [zrT] []
def zka:FS:=Aq 179 [.v (.st 1), .rf (.st 1)] (.v .b) (λx=>Pg x.1 x.2.1) [vN] []
def zjT:FS:=Ho zka λ_=>by kernel_rfl
def zcY:FS:=Aq 237 [.v (.l (.st 4)), .v .s, .fn [.st 4, .s] (.i .i64)] (.tu (.cons (.v (.i .i64)) (.cons (.v .b) .nil))) (λx=>XK x.1 x.2.1 (λy0 y1=>x.2.2.1.φ (y0,y1,()))) [] [.sp [.i .i64, .i .i64]]
def zo1:FS:=Aq 238 [.v (.st 4), .v .s] (.v (.i .i64)) (λx=>Pp x.1 x.2.1) [tK] []
def znV:FS:=Ho zo1 λ_=>by kernel_rfl
def iR:FS:=Aq 184 [.v (.l (.st 4)), .v .s] (.tu (.cons (.v (.i .i64)) (.cons (.v .b) .nil))) (λx=>RP x.1 x.2.1) [zcY,znV] []
def jF:FS:=Aq 112 [.v (.l (.st 4)), .v .s] (.v (.i .i64)) (λx=>RV x.1 x.2.1) [iR] []
def zkj:FS:=Aq 182 [.v (.st 0), .rf (.st 1), .rf (.st 8)] (.v .b) (λx=>Pb x.1 x.2.1 x.2.2.1) [jF] []
def zjO:FS:=Ho zkj λ_=>by kernel_rfl
def tS:FS:=Aq 183 [.v (.st 8), .v (.l (.st 1))] (.v .b) (λx=>U2 x.1 x.2.1) [tB,tA,iR] [.sp [.i .i64, .l .s], .sp [.i .i64, .l .s], .sp [.i .i64, .l .s], .inl]
def zk7:FS:=Aq 111 [.v (.st 8)] (.v .b) (λx=>QS x.1) [tS,tM,uQ,s7,zjT,fZ,zjO] [.sp [.i .i64]]
def zdh:FS:=Aq 125 [.v (.l (.st 1)), .v (.i .i64), .fn [.st 1, .i .i64] (.i .i64)] (.tu (.cons (.v (.i .i64)) (.cons (.v .b) .nil))) (λx=>XJ x.1 x.2.1 (λy0 y1=>x.2.2.1.φ (y0,y1,()))) [] [.sp [.i .i64, .i .i64]]
def zpP:FS:=Aq 192 [.v (.i .i64)] (.v .b) (λx=>Vg x.1) [] []
def tO:FS:=Aq 123 [.v (.i .i64), .v (.i .i64)] (.v (.i .i64)) (λx=>UX x.1 x.2.1) [zpP] []
def zjR:FS:=Aq 126 [.v (.st 1), .v (.i .i64)] (.v (.i .i64)) (λx=>O9 x.1 x.2.1) [tO] []
def zjq:FS:=Ho zjR λ_=>by kernel_rfl
def UN:FS:=Aq 62 [.v (.st 8), .v (.i .i64)] (.tu (.cons (.v (.i .i64)) (.cons (.v .b) .nil))) (λx=>Kd x.1 x.2.1) [zdh,zjq] []
def zpH:FS:=Aq 51 [.v (.st 8)] (.v .b) (λx=>Ru x.1) [uX,tW,zk7,Pt,jW,UN,jF] [.sp [.i .i64], .sp [.i .i64]]
def zoQ:FS:=Aq 50 [.v (.st 8)] (.v .b) (λx=>YK x.1) [zpH] []
def znF:FS:=Ho zoQ λ_=>by kernel_rfl
def zql:FS:=Aq 115 [.v (.l .s), .v (.l (.st 0))] (.v .b) (λx=>jG x.1 x.2.1) [uQ] []
def zrU:FS:=Aq 52 [.v (.st 6)] (.v .b) (λx=>YO x.1) [jW,zql] []
def s8:FS:=Ed 94 [.v (.l (.st 6)), .fn [.st 6] .b] (.v (.i .i64)) (λx=>F7 x.1 (λy=>x.2.1.φ (y,()))) λx r hp h=>Ga (f:=94) (t:=P3 3) (by kernel_rfl) (by kernel_rfl) (Wn (av:=(B4 Da.av (.st 6))) (cn:=3) (λ_=>⟨_,rfl,rfl⟩) h (λy b hb=>hp.2.1 (y,()) b hb))
def zec:FS:=Ed 53 [.v (.l (.st 6)), .fn [.st 6] .b] (.v .b) (λx=>D4 x.1 (λy=>x.2.1.φ (y,()))) λx r hp h=>Ga (f:=53) (t:=P2 94) (by kernel_rfl) (by kernel_rfl) (Wj h λr hr=>s8.ok x r hp hr)
def zoL:FS:=Aq 54 [.v (.st 6), .rf (.st 6)] (.v .b) (λx=>iC x.1 x.2.1) [] []
def zof:FS:=Ho zoL λ_=>by kernel_rfl
def Y2:FS:=Aq 14 [.v (.st 9)] (.v .b) (λx=>L6 x.1) [zrx,zee,znF,zrU,zec,zof] [.sp [.i .i64]]
def UL:FS:=Ed 91 [.v (.l .s)] (.v (.l .s)) (λx=>IQ x.1) λx r hp h=>Ga (f:=91) (t:=Ws 16 1) (by kernel_rfl) (by kernel_rfl) (lX (bytes:=16) (sz:=1) (av:=(B4 Da.av .s)) (λx=>⟨NL _ x,PB (by kernel_rfl) x⟩) h)
def zgj:FS:=Ed 155 [.v (.l (.st 2))] (.v (.l (.st 2))) (λx=>gG x.1) λx r hp h=>Ga (f:=155) (t:=Ws 24 3) (by kernel_rfl) (by kernel_rfl) (lX (bytes:=24) (sz:=3) (av:=(B4 Da.av (.st 2))) (λx=>⟨NL _ x,PB (by kernel_rfl) x⟩) h)
def gF:FS:=Ed 157 [.v (.l (.st 0))] (.v (.l (.st 0))) (λx=>L5 x.1) λx r hp h=>Ga (f:=157) (t:=Ws 40 3) (by kernel_rfl) (by kernel_rfl) (lX (bytes:=40) (sz:=3) (av:=(B4 Da.av (.st 0))) (λx=>⟨NL _ x,PB (by kernel_rfl) x⟩) h)
def uZ:FS:=Aq 217 [.v (.st 7)] (.v (.st 1)) (λx=>R1 x.1) [UL,gF] []
def zqJ:FS:=Aq 156 [.v (.st 1)] (.v (.st 1)) (λx=>Yy x.1) [tM,uZ] []
def iY:FS:=Aq 92 [.v (.st 8)] (.v (.st 8)) (λx=>Pn x.1) [tX,zgj,zqJ] [.sp [.i .i64, .l (.st 1)]]
def zpJ:FS:=Aq 93 [.v (.st 6)] (.v (.st 6)) (λx=>YF x.1) [UL,gF] []
end
end Go.Proofs.YtalagilebkaegaaGreat
