/- Parts of a proof, joined: CC, CI, QM, QF1, QF2. -/
import Derived.Test.YtalagilebkaegaaGreatJ7
import Derived.Lib.SliceRun
import Derived.Shelf.RegionOpenPlain
set_option linter.unusedVariables false
set_option linter.unusedSimpArgs false
namespace Go.Proofs.YtalagilebkaegaaGreat
noncomputable section
open Go.RowKit
set_option maxRecDepth 100000
abbrev Ag:=List UInt8
theorem zBn:∃i z,Tryz.prog.info? 146=some i/\i.size=2/\i.zero=some z/\z.cells.size=2/\i.bytes<=1000:=by
 have h:(match Tryz.prog.info? 146 with|some i=>(match i.zero with|some z=>i.size==2&&z.cells.size==2&&decide (i.bytes<=1000)|none=>false)|none=>false)=true:=by kernel_rfl
 split at h
 ·rename_i i hi;split at h
  ·rename_i z hz;simp only[Ab,AM,AR]at h;exact⟨i,z,hi,h.1.1,hz,h.1.2,h.2⟩
  ·cases h
 ·cases h
set_option maxHeartbeats 4000000 in
theorem zzB(w:World)(a:Option Addr)(n c:Nat)(cs:List Value)(hs:Src w 2 a n cs)(hb:n*1000<=140737488355328):
  Calls Tryz.prog 215 #[.slice a n c] w λe w'=> ∃a' c',e= .returned (.slice a' n c')/\Mod [] w w'/\(n=0/\c'=0\/ ∃g C,a'=some ⟨g,0,none⟩/\w.heap.size<=g/\Dl w' 146 2 g c' C n cs):=by
 obtain⟨i0,z0,hi,Bz,hz,CY,E5⟩:=zBn;have q22:∀(w:World) (a:Option Addr) (n c n' c':Nat),(binOp .eql 47 (.slice a n c) (.slice none n' c')).run Tryz.prog w= .ok (.bool a.isNone) w:=λw a n c n' c'=>Lib.run_eql_slice_nil w _ _ a n c n' c' Tryz.underlying47;cases a with
 |none=>
  obtain⟨_,rfl,rfl⟩:(none:Option Addr)=none/\n=0/\cs=[]:=by
   rcases hs with h|⟨ad,h,_⟩
   ·exact h
   ·cases h
  clear hs hb
  go_enter Tryz.func215,Tryz.ntmps215
  go_wp2
  go_ret
  exact⟨none,0,rfl,Mod.refl _ _,by simp⟩
 |some ad=>
  have Ck:Mod [] w (w.alloc (.cells #[] 146)):=(Mod.refl [] w).alloc _;have A5:Src (w.alloc (.cells #[] 146)) i0.size (some ad) n cs:=by rw[Bz];exact hs.mod Ck
  obtain⟨v',w1,hr,AO⟩:=SH (P:=Tryz.prog) (w.alloc (.cells #[] 146)) 47 47 146 i0 z0 Tryz.underlying47 hi hz (by rw[CY,Bz]) (by omega) (λ_=>False) (.slice (some ⟨w.heap.size,0,none⟩) 0 0) 0 [] (by simp) (.inl ⟨rfl,_,rfl⟩) (some ad) n c cs A5 (by simp only[maxLen];omega) (by have:=Nat.mul_le_mul_left n E5;rw[Nat.zero_add];omega)
  have fin:∃a' c',v'= .slice a' n c'/\Mod [] w w1/\(n=0/\c'=0\/ ∃g C,a'=some ⟨g,0,none⟩/\w.heap.size<=g/\Dl w1 146 2 g c' C n cs):=by
   rcases AO with⟨rfl,rfl,rfl⟩|⟨g,cap,C,rfl,h1,h2,h3,h4,h5,h6,h7⟩
   ·exact⟨_,_,rfl,Ck, .inl ⟨rfl,rfl⟩⟩
   ·have dA:(w.alloc (.cells #[] 146)).heap.size<=g:=by
     rcases h7 with⟨h,_⟩|h
     ·omega
     ·exact h.elim
    have JF:w.heap.size<=g:=by simp at dA;omega
    refine⟨_,_,by rw[Nat.zero_add],⟨h6.os.trans Ck.os,h6.tape.trans Ck.tape,h6.output.trans Ck.output,Nat.le_trans Ck.size h6.size,λb hb hn=> ?_⟩, .inr ⟨g,C,rfl,JF,by omega,h2,h3,by rw[h4,Bz],?_⟩⟩
    ·rw[h6.block b (by simp;omega) (λe=>by cases e;omega)];exact Ck.block b hb hn
    ·rw[Nat.zero_add,List.nil_append,Bz]at h5;exact h5.symm
  clear AO hs A5 Ck
  go_enter Tryz.func215,Tryz.ntmps215
  go_wp2_with (at_builtin;refine Lib.wpList_append_run _ rfl _ _ _ _ rfl _ _ rfl rfl _ _ hr ?_)
  go_ret
  obtain⟨a',c',rfl,h1,h2⟩:=fin
  exact⟨a',c',rfl,h1,h2⟩
theorem zC3:∃i z,Tryz.prog.info? 198=some i/\i.size=3/\i.zero=some z/\z.cells.size=3/\i.bytes<=1000:=by
 have h:(match Tryz.prog.info? 198 with|some i=>(match i.zero with|some z=>i.size==3&&z.cells.size==3&&decide (i.bytes<=1000)|none=>false)|none=>false)=true:=by kernel_rfl
 split at h
 ·rename_i i hi;split at h
  ·rename_i z hz;simp only[Ab,AM,AR]at h;exact⟨i,z,hi,h.1.1,hz,h.1.2,h.2⟩
  ·cases h
 ·cases h
set_option maxHeartbeats 4000000 in
theorem zBD(w:World)(a:Option Addr)(n c:Nat)(cs:List Value)(hs:Src w 3 a n cs)(hb:n*1000<=140737488355328):
  Calls Tryz.prog 216 #[.slice a n c] w λe w'=> ∃a' c',e= .returned (.slice a' n c')/\Mod [] w w'/\(n=0/\c'=0\/ ∃g C,a'=some ⟨g,0,none⟩/\w.heap.size<=g/\Dl w' 198 3 g c' C n cs):=by
 obtain⟨i0,z0,hi,Bz,hz,CY,E5⟩:=zC3;have q22:∀(w:World) (a:Option Addr) (n c n' c':Nat),(binOp .eql 144 (.slice a n c) (.slice none n' c')).run Tryz.prog w= .ok (.bool a.isNone) w:=λw a n c n' c'=>Lib.run_eql_slice_nil w _ _ a n c n' c' Tryz.underlying144;cases a with
 |none=>
  obtain⟨_,rfl,rfl⟩:(none:Option Addr)=none/\n=0/\cs=[]:=by
   rcases hs with h|⟨ad,h,_⟩
   ·exact h
   ·cases h
  clear hs hb
  go_enter Tryz.func216,Tryz.ntmps216
  go_wp2
  go_ret
  exact⟨none,0,rfl,Mod.refl _ _,by simp⟩
 |some ad=>
  have Ck:Mod [] w (w.alloc (.cells #[] 198)):=(Mod.refl [] w).alloc _;have A5:Src (w.alloc (.cells #[] 198)) i0.size (some ad) n cs:=by rw[Bz];exact hs.mod Ck
  obtain⟨v',w1,hr,AO⟩:=SH (P:=Tryz.prog) (w.alloc (.cells #[] 198)) 144 144 198 i0 z0 Tryz.underlying144 hi hz (by rw[CY,Bz]) (by omega) (λ_=>False) (.slice (some ⟨w.heap.size,0,none⟩) 0 0) 0 [] (by simp) (.inl ⟨rfl,_,rfl⟩) (some ad) n c cs A5 (by simp only[maxLen];omega) (by have:=Nat.mul_le_mul_left n E5;rw[Nat.zero_add];omega)
  have fin:∃a' c',v'= .slice a' n c'/\Mod [] w w1/\(n=0/\c'=0\/ ∃g C,a'=some ⟨g,0,none⟩/\w.heap.size<=g/\Dl w1 198 3 g c' C n cs):=by
   rcases AO with⟨rfl,rfl,rfl⟩|⟨g,cap,C,rfl,h1,h2,h3,h4,h5,h6,h7⟩
   ·exact⟨_,_,rfl,Ck, .inl ⟨rfl,rfl⟩⟩
   ·have dA:(w.alloc (.cells #[] 198)).heap.size<=g:=by
     rcases h7 with⟨h,_⟩|h
     ·omega
     ·exact h.elim
    have JF:w.heap.size<=g:=by simp at dA;omega
    refine⟨_,_,by rw[Nat.zero_add],⟨h6.os.trans Ck.os,h6.tape.trans Ck.tape,h6.output.trans Ck.output,Nat.le_trans Ck.size h6.size,λb hb hn=> ?_⟩, .inr ⟨g,C,rfl,JF,by omega,h2,h3,by rw[h4,Bz],?_⟩⟩
    ·rw[h6.block b (by simp;omega) (λe=>by cases e;omega)];exact Ck.block b hb hn
    ·rw[Nat.zero_add,List.nil_append,Bz]at h5;exact h5.symm
  clear AO hs A5 Ck
  go_enter Tryz.func216,Tryz.ntmps216
  go_wp2_with (at_builtin;refine Lib.wpList_append_run _ rfl _ _ _ _ rfl _ _ rfl rfl _ _ hr ?_)
  go_ret
  obtain⟨a',c',rfl,h1,h2⟩:=fin
  exact⟨a',c',rfl,h1,h2⟩
abbrev XH:List DT:=[.flat, .flat, .flat]
abbrev Xq:List DT:=[.flat, .row 198 3 (Az.of XH)]
theorem zy8{l:List Aj}{k:Nat}(hk:k<l.length):(Aq (l.map DL)).drop (k*2)= .str l[k].ah:: .sl (l[k].ay.map Kx)::(Aq (l.map DL)).drop ((k+1)*2):=by
 have hx:∀y∈l.map DL,y.cells.length=2:=λy hy=>by obtain⟨c,_,rfl⟩:=List.mem_map.1 hy;rfl
 have e1:=(Se hx (i:=k) (by simp;omega)).2;have e2:=(Se hx (i:=k+1) (by simp;omega)).2;rw[<-e1,<-e2,Bw (show k<(l.map DL).length by simpa using hk)];simp[Aq,DL,AV.cells]
theorem zDH{w:World}{u:Value}{ys:List AV}{g:List Nat}(h:Rd w [u] [.sl ys] g):∃a c,u= .slice a ys.length c:=by
 cases h with
 |dv h=>exact⟨_,_,rfl⟩
 |scons q1 q2 q3 q4 q5 q6 q7 q8 q9 q10=>exact⟨_,_,by rw[q4]⟩
theorem zFe{w:World}{l:List Aj}{cs:List Value}{f:List Nat}(h:Rd w cs (Aq (l.map DL)) f){k:Nat}(hk:k<l.length):
  ∃(s:ByteArray) (a:Option Addr) (c:Nat) (f1:List Nat),cs[k*2]?=some (.string s)/\s.data.toList=l[k].ah/\s.size<=9223372036854775807/\cs[k*2+1]?=some (.slice a l[k].ay.length c)/\Rd w [.slice a l[k].ay.length c] [.sl (l[k].ay.map Kx)] f1/\(∀b∈f1,b∈f):=by
 obtain⟨g,hg,hp⟩:=h.piece (k*2) 2;rw[zy8 hk]at hp;simp only[List.take_succ_cons,List.take_zero]at hp;obtain⟨s,us,e1,e2,e3,hp⟩:=fS hp;have hl:=hp.len
 match us,hl with
 | [u],_=>
  have e4:cs[k*2]?=some (.string s):=by have:=congrArg (λL=>L[0]?) e1;simpa[List.getElem?_take,List.getElem?_drop]using this
  have e5:cs[k*2+1]?=some u:=by have:=congrArg (λL=>L[1]?) e1;simpa[List.getElem?_take,List.getElem?_drop]using this
  obtain⟨a,c,rfl⟩:=zDH hp;rw[List.length_map]at e5 hp;exact⟨s,a,c,g,e4,e2,e3,e5,hp,hg⟩
theorem tV{w:World}{v:Value}{ys:List AV}{f:List Nat}{K:Nat}(h:Rd w [v] [.sl ys] f)(hK:∀y∈ys,y.cells.length=K)(hb:ys.length<=9223372036854775807):
  ∃a c cs f1,v= .slice a ys.length c/\Src w K a ys.length cs/\Rd w cs (Aq ys) f1/\ ∀b∈f1,b∈f:=by
 cases h with
 |dv h=>
  rename_i a c;refine⟨a,c,[],[],rfl,?_,by simpa[Aq]using Rd.nil,by simp⟩;cases a with
  |none=>exact .inl ⟨rfl,rfl,rfl⟩
  |some ad=>exact .inr ⟨ad,rfl,by simp,by simp,by simp⟩
 | @scons b o n c ys cs C ty fz sz f1 vs xs f2 q1 q2 q3 q4 q5 q6 q7 q8 q9 q10=>
  subst q4;have Bz:sz=K:=by
   cases ys with
   |nil=>simp at q2
   |cons y ys=>rw[<-q5 y (by simp),hK y (by simp)]
  subst Bz;refine⟨some ⟨b,o,none⟩,c,cs,f1,rfl, .inr ⟨⟨b,o,none⟩,rfl,?_,λj u hj=> ?_,q8⟩,q9,λx hx=>by simp[hx]⟩
  ·rw[q9.len,KQ _ hK]
  ·rw[Addr.add_lit,EA q1];exact q7 j u hj
theorem zwr{L:List Value}{k:Nat}{s v:Value}(hs:L[k*2]?=some s)(hl:k*2+1<L.length):(L.set (k*2+1) v).take ((k+1)*2)=L.take (k*2)++ [s,v]:=by rw[show(k+1)*2=k*2+1+1 by omega,List.take_add_one,List.take_add_one,List.take_set_of_le (by omega)];rw[List.getElem?_set_ne (by omega),hs,List.getElem?_set_self hl];simp
theorem zAs{L M:List Value}{k n:Nat}{v:Value}(h:(L.take (n*2)).drop (k*2)=M.drop (k*2)):((L.set (k*2+1) v).take (n*2)).drop ((k+1)*2)=M.drop ((k+1)*2):=by
 have e:((L.set (k*2+1) v).take (n*2)).drop ((k+1)*2)=(L.take (n*2)).drop ((k+1)*2):=by rw[List.take_set,List.drop_set_of_lt (by omega)]
 rw[e,show(k+1)*2=k*2+2 by omega,<-List.drop_drop,h,List.drop_drop]
def SD(w1:World)(g cap n:Nat)(cs:List Value)(ys:List AV)(k:Nat)(wr:World):Prop:=
 ∃C N,wr.heap[g]?=some (.cells C 146 (0,0))/\C.size=cap*2/\(C.toList.take (n*2)).drop (k*2)=cs.drop (k*2)/\DC wr (BJ k Xq) (C.toList.take (k*2)) (Aq (ys.take k)) N/\(∀u∈C.toList.take (k*2),u.oneCell'=true)/\
  N.Nodup/\(∀b∈N,w1.heap.size<=b/\b<wr.heap.size)/\Mod [g] w1 wr
theorem SD.next{w w1 wr w2:World}{g cap k:Nat}{cs cs':List Value}{l:List Aj}(hn:l.length<=cap)(Dz:Mod [] w w1)(JF:w.heap.size<=g)(rD:g<w1.heap.size)(hI:SD w1 g cap l.length cs (l.map DL) k wr)(hk:k<l.length)
  {s:ByteArray} {a':Option Addr} {c':Nat} (e1:cs[k*2]?=some (.string s)) (e2:s.data.toList=l[k].ah) (e3:s.size<=9223372036854775807) (I9:Rd w cs' (Aq (l[k].ay.map Kx)) []) (KB:∀u∈cs',u.oneCell'=true)
  (CM:Mod [] wr w2) (AO:l[k].ay.length=0/\c'=0\/ ∃g2 C2,a'=some ⟨g2,0,none⟩/\wr.heap.size<=g2/\Dl w2 198 3 g2 c' C2 l[k].ay.length cs'):
  SD w1 g cap l.length cs (l.map DL) (k+1) (w2.setCell ⟨g,k*2+1,none⟩ (.slice a' l[k].ay.length c')):=by
 obtain⟨C,N,i1,i2,i3,i4,i5,i6,i7,i8⟩:=hI;have Oq:g<wr.heap.size:=Dq i1;have j1:w2.heap[g]?=some (.cells C 146 (0,0)):=by rw[CM.block g Oq (by simp)];exact i1
 have j2:=heap_setCell_same w2 g (k*2+1) C 146 (.slice a' l[k].ay.length c') j1;have DF:C.toList.length=cap*2:=by simpa using i2
 have Uc:C.toList[k*2]?=some (.string s):=by have:=congrArg (λL=>L[0]?) i3;simp only[List.getElem?_drop,List.getElem?_take,Nat.add_zero]at this;rw[if_pos (by omega)]at this;rw[this];exact e1
 have hT:∃T,DC w2 [.row 198 3 (Az.of XH)] [.slice a' l[k].ay.length c'] [.sl (l[k].ay.map Kx)] T/\T.Nodup/\ ∀b∈T,wr.heap.size<=b/\b<w2.heap.size:=by
  rcases AO with⟨h0,rfl⟩|⟨g2,C2,rfl,hg2,r1,r2,r3,r4,r5⟩
  ·have:l[k].ay=[]:=List.eq_nil_of_length_eq_zero h0;rw[this];exact⟨[], .void (by omega) (by rw[Az.ax];rfl) .nil,by simp,by simp⟩
  ·have Ax:(C2.toList.take (l[k].ay.length*3)).length=l[k].ay.length*3:=by
    have:C2.toList.length=c'*3:=by simpa using r4
    rw[Aw,this];omega
   have hd:=DC.jz (w:=w2) (I9.frame (by simp)) (ts:=BJ l[k].ay.length XH) (ZP _ rfl) (by rw[KS,r5,Ax];rfl);rw[r5]at hd;have:=DC.row (w:=w2) (e:=198) (z:=3) (l:=Az.of XH) (g:=g2) (cap:=c') (C:=C2) (ys:=l[k].ay.map Kx) (N1:=[]) (ts:=[]) (vs:=[]) (xs:=[]) (N:=[]) (by omega) (by rw[Az.ax];rfl) r3 (by simpa using r1) r2 r4 (λy hy=>by obtain⟨x,_,rfl⟩:=List.mem_map.1 hy;rfl) (by rw[List.length_map,<-r5];exact KB) (by rw[List.length_map,Az.ax];exact hd) .nil
   refine⟨[g2],by simpa using this,by simp,λb hb=> ?_⟩;simp only[List.mem_singleton]at hb;subst hb;exact⟨hg2,Dq r3⟩
 obtain⟨T,t1,t2,t3⟩:=hT;have hgT:g∉T:=λh=>by have:=(t3 g h).1;omega
 have cW:g∉N:=λh=>by have:=(i7 g h).1;omega
 have Lj:∀b,b≠g->(w2.setCell ⟨g,k*2+1,none⟩ (.slice a' l[k].ay.length c')).heap[b]?=w2.heap[b]?:=λb hb=>Below.heap_setCell _ _ _ _ (by simpa using hb);have Bz:(w2.setCell ⟨g,k*2+1,none⟩ (.slice a' l[k].ay.length c')).heap.size=w2.heap.size:=by simp[World.setCell]
 refine⟨_,N++T,j2,by simpa using i2,?_,?_,?_,?_,?_,?_⟩
 ·rw[Array.toList_setIfInBounds];exact zAs i3
 ·rw[Array.toList_setIfInBounds,zwr Uc (by rw[DF];omega),Nu,zCw,List.take_add_one,show(l.map DL)[k]?=some (DL l[k]) by simp[hk]];have e5:Aq ((l.map DL).take k++(some (DL l[k])).toList)=Aq ((l.map DL).take k)++ [.str l[k].ah, .sl (l[k].ay.map Kx)]:=by simp[Aq,DL,AV.cells]
  rw[e5];refine DC.app ((i4.frame (w':=w2) λb hb=>CM.block b (i7 b hb).2 (by simp)).frame λb hb=>Lj b λe=>cW (e▸hb)) ?_;have GM:Rd (w2.setCell ⟨g,k*2+1,none⟩ (.slice a' l[k].ay.length c')) [.string s] [.str l[k].ah] []:=by rw[<-e2];exact .str e3 .nil
  exact .flat GM (t1.frame λb hb=>Lj b λe=>hgT (e▸hb))
 ·rw[Array.toList_setIfInBounds,zwr Uc (by rw[DF];omega)];intro u hu;rcases Ac.1 hu with hu|hu
  ·exact i5 u hu
  ·simp only[Ae,List.not_mem_nil,or_false]at hu;rcases hu with rfl|rfl<;>rfl
 ·exact List.nodup_append.2 ⟨i6,t2,λx hx y hy e=>by have:=(i7 x hx).2;have:=(t3 y hy).1;omega⟩
 ·intro b hb;rw[Bz];have:=CM.size;have:=i8.size;rcases Ac.1 hb with hb|hb
  ·have:=i7 b hb;omega
  ·have:=t3 b hb;omega
 ·exact(i8.trans CM (by simp)).setCell (by simp) _
set_option maxHeartbeats 4000000 in
theorem zyR(l:List Aj)(w:World)(v:Value)(f:List Nat)(hr:Rd w [v] [.sl (l.map DL)] f)(hl:l.length*1000<=140737488355328)(hv:∀c∈l,c.ay.length*1000<=140737488355328):
  Calls Tryz.prog 154 #[v] w λe w'=> ∃v' N,e= .returned v'/\DC w' [.row 146 2 (Az.of Xq)] [v'] [.sl (l.map DL)] N/\N.Nodup/\(∀b∈N,w.heap.size<=b/\b<w'.heap.size)/\Mod [] w w':=by
 obtain⟨a,c,cs,f1,rfl,hs,rV,_⟩:=tV (K:=2) hr (λy hy=>by obtain⟨x,_,rfl⟩:=List.mem_map.1 hy;rfl) (by simp;omega);rw[List.length_map]at hs ⊢;have Ax:=zzB w a l.length c cs hs hl;have H1:=Lib.hid rV;have H2:=Lib.hid hv;have H3:=Lib.hid hs;clear rV hv hs hr
 go_enter Tryz.func154,Tryz.ntmps154
 go_wp2_with (go_at_call 215;refine Ax.mono ?_;rintro e w1 ⟨a1,cap,rfl,Dz,h1⟩)
 have HM:=Lib.hid Dz;rcases h1 with⟨hz,rfl⟩|⟨g,C0,rfl,JF,AY⟩
 ·have Iy:l=[]:=List.eq_nil_of_length_eq_zero hz;subst Iy;clear Dz Ax
  go_loopw [9] (λs9 wr=>s9= .int .i64 0/\wr=w1) (λ_ _=>0)
  case atStart=>exact⟨rfl,rfl⟩
  case round=>
   obtain⟨rfl,rfl⟩:=hrel
   go_wp2
   go_ret
   exact⟨_,[],rfl, .void (by omega) (by rw[Az.ax];rfl) .nil,by simp,by simp,HM.out⟩
 ·have HI:Hid (SD w1 g cap l.length cs (l.map DL) 0 w1):=by
   obtain⟨r1,r2,r3,r4,r5⟩:=AY;exact⟨C0,[],r3,r4,by rw[Nat.zero_mul,List.drop_zero,List.drop_zero];exact r5.symm,by simpa[BJ,Aq]using DC.nil,by simp,by simp,by simp,Mod.refl _ _⟩
  have Fk:l.length<=cap:=AY.1;have FZ:cap<=9223372036854775807:=AY.2.1;have rD:g<w1.heap.size:=Dq AY.2.2.1;clear AY Dz Ax
  go_loopw [9] (λs9 wr=> ∃k:Nat,k<=l.length/\s9= .int .i64 k/\Hid (SD w1 g cap l.length cs (l.map DL) k wr)) (λs9 _=>l.length-(intOf s9).toNat)
  case atStart=>exact⟨0,by omega,rfl,HI⟩
  case round=>
   obtain⟨k,hk,rfl,HK⟩:=hrel;by_cases AH:k<l.length
   ·obtain⟨s,av,cv,fv,e1,e2,e3,e4,e5,_⟩:=zFe H1.out AH;obtain⟨b1,b2,cs',fv',b3,A5,I9,_⟩:=tV (K:=3) e5 (λy hy=>by obtain⟨x,_,rfl⟩:=List.mem_map.1 hy;rfl) (by have:=H2.out _ (AF AH);simp;omega);rw[List.length_map]at b3;cases b3;have B7:fv'=[]:=Hw I9 λy hy=>by
     unfold Aq at hy;obtain⟨x,hx,hy⟩:=List.mem_flatMap.1 hy;obtain⟨q,_,rfl⟩:=List.mem_map.1 hx;simp[Kx,AV.cells]at hy;rcases hy with rfl|rfl|rfl<;>rfl
    subst B7;rw[List.length_map]at A5;obtain⟨C,N,i1,i2,i3,i4,i5,i6,i7,i8⟩:=HK.out;have rN:Mod [] w wr:=HM.out.trans i8 (by simp;omega);have P9:=zBD wr av l[k].ay.length cv cs' (A5.mod rN) (H2.out _ (AF AH));have Is:C[k*2+1]?=some (.slice av l[k].ay.length cv):=by have:=congrArg (λL=>L[1]?) i3;simp only[List.getElem?_drop,List.getElem?_take]at this;rw[if_pos (by omega)]at this;rw[<-Array.getElem?_toList,this];exact e4
    have BY:wr.cell? ⟨g,k*2+1,none⟩=some (.slice av l[k].ay.length cv):=by rw[aD i1];exact Is
    have Oq:g<wr.heap.size:=Dq i1;have BX:∀w2,Mod [] wr w2->w2.cell? ⟨g,k*2+1,none⟩=some (.slice av l[k].ay.length cv)/\w2.frozen? ⟨g,k*2+1,none⟩=false:=λw2 CM=>by
     have j1:w2.heap[g]?=some (.cells C 146 (0,0)):=by rw[CM.block g Oq (by simp)];exact i1
     exact⟨by rw[aD j1];exact Is,Zu j1⟩
    have KB:∀u∈cs',u.oneCell'=true:=by
     rcases A5 with⟨_,_,rfl⟩|⟨_,_,_,_,h⟩
     ·simp
     ·exact h
    obtain⟨m,hm⟩:∃m,m=l[k].ay.length:=⟨_,rfl⟩
    rw[<-hm]at BY BX P9;have HE:=Lib.hid (And.intro hm (And.intro e1 (And.intro e2 (And.intro e3 (And.intro I9 KB)))));have HA:=Lib.hid BX;clear BX hm e1 e2 e3 e4 e5 I9 KB i1 i2 i3 i4 i5 i6 i7 i8 rN A5 Is
    go_wp2_with (go_at_call 216;refine P9.mono ?_;rintro e w2 ⟨a',c',rfl,CM,AO⟩;obtain⟨hc2,hf2⟩:=HA.out w2 CM)
    go_roundw
    case rel=>
     obtain⟨hm,e1,e2,e3,I9,KB⟩:=HE.out;subst hm;exact⟨k+1,by omega,by go_num,SD.next Fk HM.out JF rD HK.out AH e1 e2 e3 I9 KB CM AO⟩
    case measure=>simp[intOf];omega
   ·obtain rfl:k=l.length:=by omega
    go_wp2
    go_ret
    obtain⟨C,N,i1,i2,i3,i4,i5,i6,i7,i8⟩:=HK.out;have hd:=DC.row (w:=wr) (e:=146) (z:=2) (l:=Az.of Xq) (g:=g) (cap:=cap) (C:=C) (ys:=l.map DL) (N1:=N) (ts:=[]) (vs:=[]) (xs:=[]) (N:=[]) (by omega) (by rw[Az.ax];rfl) i1 (by simpa using Fk) FZ i2 (λy hy=>by obtain⟨x,_,rfl⟩:=List.mem_map.1 hy;rfl) (by rw[List.length_map];exact i5) (by rw[List.length_map,Az.ax];have h4:=i4;rw[show List.take l.length (l.map DL)=l.map DL from List.take_of_length_le (by simp)]at h4;exact h4) .nil
    refine⟨_,g::N,rfl,by simpa using hd,List.nodup_cons.2 ⟨λh=>by have:=(i7 g h).1;omega,i6⟩,λb hb=> ?_,HM.out.trans i8 (by simp;omega)⟩;have:=HM.out.size;rcases Ae.1 hb with rfl|hb
    ·exact⟨JF,Dq i1⟩
    ·have:=i7 b hb;omega
def uP(P:Program)(sg:B1)(f t el K:Nat)(l:List DT):Bool:=
 match P.funcs[f]?,sg f with
 |some fn,some s=>(match s.b8,s.res,s.ft,s.lo with
  | [],[true],[],[]=>true
  | [.ro],[true],[],[]=>true
  |_,_,_,_=>false)&&fn.body.isSome&& !(fn.name== "runtime.NumGoroutine")&&fn.params.toList==[t]&&(Dw fn s)==[t]&&fn.nfree==0&& !Ao P t&&A9 P t==[t]&&CT P t==some el&& !Cc P el&&KV (DE P t) el K l&&F6 P t [true]&&fn.params.size==1
 |_,_=>false
def Rr(l:List Aj):Option (List Aj):=AK (l.length*1000<=140737488355328/\ ∀c∈l,c.ay.length*1000<=140737488355328) (some l)
theorem zp1(a0 r:List Aj)(h:Rr a0=some r):Cm Tryz.prog B5 154 [.sl (a0.map DL)] (.sl (r.map DL)):=by
 obtain⟨⟨hb,hv⟩,h⟩:=F7 h;cases h;have hk:uP Tryz.prog B5 154 47 146 2 Xq=true:=by kernel_rfl
 have B7:∀r,IW Tryz.prog B5 154 r=true:=λ_=>by kernel_rfl
 unfold uP at hk;split at hk
 ·rename_i fn s hf hs;simp only[Ab,Bg,AM]at hk;obtain⟨⟨⟨⟨⟨⟨⟨⟨⟨⟨⟨⟨g1,g2⟩,g3⟩,g4⟩,g5⟩,g6⟩,g7⟩,g8⟩,g9⟩,g10⟩,g11⟩,g12⟩,g13⟩:=hk;have g11:=Pr g11;obtain⟨hm,hr,CA,B2⟩:(∀m∈s.b8,m= .ro)/\s.res=[true]/\s.ft=[]/\s.lo=[]:=by
   split at g1
   ·rename_i a b c d;exact⟨by rw[a];simp,b,c,d⟩
   ·rename_i a b c d;exact⟨by rw[a];simp,b,c,d⟩
   ·cases g1
  unfold Cm;rw[if_pos (KW _ s hs)];refine⟨s,hs,fn,hf,g2,g3,by have:=B7 (a0.map DL);unfold IW at this;rw[hf,hs]at this;exact this,by simp[g6,g13],by simp[CA],λw vs rf lf A5 Ah hd _ B8 D3=> ?_⟩;obtain⟨Db,rfl⟩:=Ah.rd B2 hm;have Lp:=Db.len
  match vs,Lp with
  | [v],_=>
   refine(zyR a0 w v rf Db hb hv).mono ?_;rintro e w' ⟨v',N,rfl,Be,hN,Ce,Bq⟩;refine⟨_,rfl,⟨⟨_,[],[],N,[],[],rfl,?_,DN.im (by rw[g4,CA];rfl) hm,by simpa using hN,?_,by simp⟩,Bq⟩⟩
   ·rw[g5];show D7 Tryz.prog w' _ s.res _ _ [] _;unfold D7;rw[hr,if_pos g12];refine⟨[v'],[.sl (a0.map DL)],by rw[g7];simp,?_⟩;rw[g8];have:=Cs.deep (P:=Tryz.prog) (t:=47) (ts:=[]) (fl:=[true]) (us:=[]) (ys:=[]) (rf:=[]) (hs:=[]) rfl g9 g10 g11 Be .nil;simpa using this
   ·intro b hb;rw[AE]at hb;exact⟨.inr (Ce b hb).1,(Ce b hb).2⟩
 ·cases hk
end
noncomputable section
open Go.RowKit Go.Sort
set_option maxRecDepth 100000
theorem xK{w:World}:∀{cs:List Value} {xs:List Int} {f:List Nat},Rd w cs (Aq (xs.map Kv)) f->cs=xs.map encI/\ ∀n∈xs,E4 .i64 n
 |cs,[],f,h=>by obtain⟨rfl,_⟩:=PI (by simpa[Aq]using h);exact⟨rfl,by simp⟩
 |cs,x::xs,f,h=>by
  have h':Rd w cs (.int .i64 x::Aq (xs.map Kv)) f:=by simpa[Aq]using h
  obtain⟨us,rfl,hI,h2⟩:=SS h';obtain⟨rfl,h3⟩:=xK h2;exact⟨rfl,by simpa using⟨hI,h3⟩⟩
theorem sM{w:World}:∀(r:List Int),(∀n∈r,E4 .i64 n)->Rd w (r.map encI) (Aq (r.map Kv)) []
 | [],_=>by simpa[Aq]using Rd.nil
 |n::r,h=>by
  have e:Aq ((n::r).map Kv)= .int .i64 n::Aq (r.map Kv):=by simp[Aq,Kv,AV.cells]
  rw[e,List.map_cons];exact Rd.int (h n (by simp)) (sM r λx hx=>h x (by simp[hx]))
def XM(xs:List Int):Option (List Int):=some (Lib.compact xs)
theorem zjx(a0 r:List Int)(h:XM a0=some r):Cm Tryz.prog B5 172 [.sl (a0.map Kv)] (.sl (r.map Kv)):=by cases h;exact yE (enc:=encI) (av:=Kv) (dz:=0) xK (λr h=>sM r h) (λ_=>rfl) (λ_=>rfl) (t:=89) (el:=3) (by kernel_rfl) (λ_=>by kernel_rfl) (λblk cap zs w hH h1 h2=>Tryz.slices_Compact_int blk 0 cap zs w hH h1 h2) (λa cap w=>Tryz.slices_Compact_int_empty a cap w) a0
end
noncomputable section
open Go.RowKit
set_option maxRecDepth 100000
set_option maxHeartbeats 4000000
def Rh(a0:List (Ag))(v1 v2:Int):Option ((Int × Int) ⊕ Option (Int)):=
 if(decide (v2<(a0.length:Int)))then
  (Am a0 v2).bind λy3=>
  if(decide ((IntKind.i64.wrap (v1-(y3.length:Int)))<0))then
   some (.inr (some (-1)))
  else
   some (.inl ((IntKind.i64.wrap (v1-(y3.length:Int))),(IntKind.i64.wrap (v2+1))))
 else
  some (.inr (some v1))
def Rn(a0:List (Ag))(a1:Int):Option (Int):=
 if(decide ((IntKind.i64.wrap (a1-(a0.length:Int)))<0))then
  some (-1)
 else
  Au (λs:Int × Int=>Rh a0 s.1 s.2) ((IntKind.i64.wrap (a1-(a0.length:Int))),0)
def Zm(a0:BE)(a1:Int):Option (Int):=
 if(decide ((IntKind.i64.wrap (a1-(a0.bh.length:Int)))<0))then
  some (-1)
 else
  some (IntKind.i64.wrap (a1-(a0.bh.length:Int)))
def lY(a0:List BE)(a1:Int):Option (Int):=Nb Zm a0 a1
def YY(a0:Aj)(a1:Int):Option (Int):=
 if(decide ((IntKind.i64.wrap (a1-(a0.ah.length:Int)))<0))then
  some (-1)
 else
  (lY a0.ay (IntKind.i64.wrap (a1-(a0.ah.length:Int)))).bind λv1=>
  if(decide (v1<0))then
   some (-1)
  else
   some v1
def lH(a0:List Aj)(a1:Int):Option (Int):=Nb YY a0 a1
def Zc(a0:An)(a1:Int):Option (Int):=
 if(decide ((IntKind.i64.wrap (a1-(a0.ah.length:Int)))<0))then
  some (-1)
 else
  if(decide ((IntKind.i64.wrap ((IntKind.i64.wrap (a1-(a0.ah.length:Int)))-(a0.bh.length:Int)))<0))then
   some (-1)
  else
   some (IntKind.i64.wrap ((IntKind.i64.wrap (a1-(a0.ah.length:Int)))-(a0.bh.length:Int)))
def Yv(a0:List An)(a1:Int):Option (Int):=Nb Zc a0 a1
def Y0(a0:Ay)(a1:Int):Option (Int):=
 (Rn a0.ak a1).bind λv1=>
 if(decide (v1<0))then
  some (-1)
 else
  (Yv a0.ab v1).bind λv2=>
  if(decide (v2<0))then
   some (-1)
  else
   some v2
def lI(a0:List Ay)(a1:Int):Option (Int):=Nb Y0 a0 a1
def Y8(a0:List Bj)(a1:Int):Option (Int):=
 if(decide ((IntKind.i64.wrap (a1-(a0.length:Int)))<0))then
  some (-1)
 else
  some (IntKind.i64.wrap (a1-(a0.length:Int)))
def YJ(a0:Ai)(a1:Int):Option (Int):=
 (lH a0.aj a1).bind λv1=>
 if(decide (v1<0))then
  some (-1)
 else
  (lI a0.ae v1).bind λv2=>
  if(decide (v2<0))then
   some (-1)
  else
   (Y8 a0.aq v2).bind λv3=>
   if(decide (v3<0))then
    some (-1)
   else
    some v3
def kN(a0:List Ai)(a1:Int):Option (Int):=Nb YJ a0 a1
def YI(a0:AG)(a1:Int):Option (Int):=
 (Rn a0.ak a1).bind λv1=>
 if(decide (v1<0))then
  some (-1)
 else
  (Yv a0.ab v1).bind λv2=>
  if(decide (v2<0))then
   some (-1)
  else
   some v2
def kJ(a0:List AG)(a1:Int):Option (Int):=Nb YI a0 a1
def Vr(a0:Ar)(a1:Int):Option (Int):=
 (Rn a0.bb a1).bind λv1=>
 if(decide (v1<0))then
  some (-1)
 else
  (kN a0.aw v1).bind λv2=>
  if(decide (v2<0))then
   some (-1)
  else
   (kJ a0.ar v2).bind λv3=>
   if(decide (v3<0))then
    some (-1)
   else
    some v3
def U0(a0:List (Ag))(v1:Int)(v2:List (Ag)):Option ((Int × List (Ag)) ⊕ Option (List (Ag))):=
 if(decide (v1<(a0.length:Int)))then
  (Am a0 v1).bind λy3=>
  (Am v2 v1).bind λy4=>
  some (.inl ((IntKind.i64.wrap (v1+1)),(v2.set (v1).toNat y3)))
 else
  some (.inr (some v2))
def Rw(a0:List (Ag)):Option (List (Ag)):=
 AK (0<=(a0.length:Int)/\(a0.length:Int)*16<=140737488355328/\(a0.length:Int)<=140737488355328)<|
 Au (λs:Int × List (Ag)=>U0 a0 s.1 s.2) (0,(List.replicate ((a0.length:Int)).toNat ([]:Ag)))
def lP(a0:BE):Option (BE):=
 some a0
def kW(a0:List BE):Option (List BE):=toL lP (⟨0,([]:Ag),false⟩:BE) 32 a0
def Zw(a0:Aj):Option (Aj):=
 (kW a0.ay).bind λv1=>
 some (⟨a0.ah,v1⟩:Aj)
def lJ(a0:List Aj):Option (List Aj):=toL Zw (⟨([]:Ag),[]⟩:Aj) 40 a0
def lL(a0:An):Option (An):=
 some a0
def Yw(a0:List An):Option (List An):=toL lL (⟨([]:Ag),([]:Ag),false⟩:An) 40 a0
def Y2(a0:Ay):Option (Ay):=
 (Rw a0.ak).bind λv1=>
 (Yw a0.ab).bind λv2=>
 some (⟨a0.ao,a0.af,a0.br,v1,v2⟩:Ay)
def lG(a0:List Ay):Option (List Ay):=toL Y2 (⟨0,0,0,[],[]⟩:Ay) 72 a0
def lW(a0:Bj):Option (Bj):=
 some a0
def lB(a0:List Bj):Option (List Bj):=toL lW (⟨0,false,0⟩:Bj) 24 a0
def Zh(a0:Ai):Option (Ai):=
 (lJ a0.aj).bind λv1=>
 (lG a0.ae).bind λv2=>
 (lB a0.aq).bind λv3=>
 some (⟨a0.au,v1,v2,v3⟩:Ai)
def kK(a0:List Ai):Option (List Ai):=toL Zh (⟨0,[],[],[]⟩:Ai) 80 a0
def Zb(a0:AG):Option (AG):=
 (Rw a0.ak).bind λv1=>
 (Yw a0.ab).bind λv2=>
 some (⟨a0.ao,v1,v2⟩:AG)
def kP(a0:List AG):Option (List AG):=toL Zb (⟨0,[],[]⟩:AG) 56 a0
def Kc(a0:Ar):Option (Ar):=
 (Rw a0.bb).bind λv1=>
 (kK a0.aw).bind λv2=>
 (kP a0.ar).bind λv3=>
 some (⟨v1,v2,v3⟩:Ar)
def Rp(a0:BU):Option (BU):=
 some a0
def II(a0 a1 a2:Int):Option (Bool):=
 some ((decide (a0>=a1))&&(decide (a0<=a2)))
def Pk(a0:Int):Option (Bool):=
 (II a0 0 100000).bind λv1=>
 some v1
def Nn(a0:Int):Option (Bool):=
 (II a0 1 100000).bind λv1=>
 some v1
def iS(v1:Int)(v3:Bool):Option ((Int) ⊕ Option (Bool)):=
 if(!v3)then
  some (.inr (some false))
 else
  some (.inl (IntKind.i64.wrap (v1+1)))
def U8(a1:Ag)(v1:Int)(y2:UInt8)(v4:Bool)(v5:Int):Option ((Bool × Int) ⊕ Option ((Int) ⊕ Option (Bool))):=
 if(decide (v5<(a1.length:Int)))then
  if v4 then
   some (.inl (true,(IntKind.i64.wrap (v5+1))))
  else
   (Am a1 v5).bind λy6=>
   some (.inl (((y2.toNat:Int)==(y6.toNat:Int)),(IntKind.i64.wrap (v5+1))))
 else
  some (.inr (iS v1 v4))
def iW(a0 a1:Ag)(v1:Int):Option ((Int) ⊕ Option (Bool)):=
 if(decide (v1<(a0.length:Int)))then
  (Am a0 v1).bind λy2=>
  Au (λs:Bool × Int=>U8 a1 v1 y2 s.1 s.2) ((((decide ((y2.toNat:Int)>=97))&&(decide ((y2.toNat:Int)<=122)))||((decide ((y2.toNat:Int)>=48))&&(decide ((y2.toNat:Int)<=57)))),0)
 else
  some (.inr (some true))
def Vw(a0 a1:Ag):Option (Bool):=
 Au (λs:Int=>iW a0 a1 s) 0
def Po(a0:Ag):Option (Bool):=
 (II (a0.length:Int) 1 12).bind λv1=>
 if v1 then
  (Vw a0 ([46,47]:Ag)).bind λv2=>
  some v2
 else
  some false
def Zr(a0:Ag):Option (Bool):=
 if(decide ((a0.length:Int)<=24))then
  (Vw a0 ([46,45,44,95]:Ag)).bind λv1=>
  some v1
 else
  some false
def Vs(a0 a1:Ag)(a2:Bool):Option (Bool):=
 (Po a0).bind λv1=>
 if v1 then
  (Zr a1).bind λv2=>
  some (v2&&((!a2)||(a1==([]:Ag))))
 else
  some false
def jL(a0:Aj):Option (Bool):=
 (Po a0.ah).bind λv1=>
 if v1 then
  (II (a0.ay.length:Int) 1 16).bind λv2=>
  some v2
 else
  some false
def Pa(a0:Aj)(v3:Int):Option ((Int) ⊕ Option (Bool)):=
 if(decide (v3<(a0.ay.length:Int)))then
  (Am a0.ay v3).bind λy4=>
  (Nn y4.af).bind λv5=>
  if v5 then
   (Vs a0.ah y4.bh y4.bg).bind λv6=>
   if(decide (v3>0))then
    if v6 then
     (Am a0.ay (IntKind.i64.wrap (v3-1))).bind λy7=>
     if(decide (y7.af>=y4.af))then
      some (.inr (some false))
     else
      some (.inl (IntKind.i64.wrap (v3+1)))
    else
     some (.inr (some false))
   else
    if((!v6)||false)then
     some (.inr (some false))
    else
     some (.inl (IntKind.i64.wrap (v3+1)))
  else
   some (.inr (some false))
 else
  some (.inr (jL a0))
def Y4(a0:Aj):Option (Bool):=
 Au (λs:Int=>Pa a0 s) 0
def kA(a0:List Aj):Option (Bool):=
 some (decide ((a0.length:Int)<=24))
def Pc(a0:List Aj)(v1:Int):Option ((Int) ⊕ Option (Bool)):=
 if(decide (v1<(a0.length:Int)))then
  (Am a0 v1).bind λy2=>
  (Y4 y2).bind λv3=>
  if(decide (v1>0))then
   if v3 then
    (Am a0 (IntKind.i64.wrap (v1-1))).bind λy4=>
    if(!Op.bytesLess y4.ah y2.ah)then
     some (.inr (some false))
    else
     some (.inl (IntKind.i64.wrap (v1+1)))
   else
    some (.inr (some false))
  else
   if((!v3)||false)then
    some (.inr (some false))
   else
    some (.inl (IntKind.i64.wrap (v1+1)))
 else
  some (.inr (kA a0))
def Vp(a0:List Aj):Option (Bool):=
 Au (λs:Int=>Pc a0 s) 0
def Yl(a0:Ay):Option (Bv):=
 some (⟨1,a0.ao,a0.af,a0.br,a0.ak,a0.ab,false⟩:Bv)
def jR(a0:List (Ag)):Option (Bool):=
 some (decide ((a0.length:Int)<=8))
def Ro(a0:List (Ag))(v1:Int):Option ((Int) ⊕ Option (Bool)):=
 if(decide (v1<(a0.length:Int)))then
  (Am a0 v1).bind λy2=>
  (Po y2).bind λv3=>
  if(decide (v1>0))then
   if v3 then
    (Am a0 (IntKind.i64.wrap (v1-1))).bind λy4=>
    if(!Op.bytesLess y4 y2)then
     some (.inr (some false))
    else
     some (.inl (IntKind.i64.wrap (v1+1)))
   else
    some (.inr (some false))
  else
   if((!v3)||false)then
    some (.inr (some false))
   else
    some (.inl (IntKind.i64.wrap (v1+1)))
 else
  some (.inr (jR a0))
def YZ(a0:List (Ag)):Option (Bool):=
 Au (λs:Int=>Ro a0 s) 0
def iN(a0:List An):Option (Bool):=
 some (decide ((a0.length:Int)<=24))
def jJ(a0:List An)(v1:Int):Option ((Int) ⊕ Option (Bool)):=
 if(decide (v1<(a0.length:Int)))then
  (Am a0 v1).bind λy2=>
  (Vs y2.ah y2.bh y2.bg).bind λv3=>
  if(decide (v1>0))then
   if v3 then
    (Am a0 (IntKind.i64.wrap (v1-1))).bind λy4=>
    if(!Op.bytesLess y4.ah y2.ah)then
     some (.inr (some false))
    else
     some (.inl (IntKind.i64.wrap (v1+1)))
   else
    some (.inr (some false))
  else
   if((!v3)||false)then
    some (.inr (some false))
   else
    some (.inl (IntKind.i64.wrap (v1+1)))
 else
  some (.inr (iN a0))
def Yu(a0:List An):Option (Bool):=
 Au (λs:Int=>jJ a0 s) 0
def YD(a0:Bv)(v7:Bool):Option (Bool):=
 if v7 then
  (II a0.ao 1 60).bind λv8=>
  if a0.bm then
   if v8 then
    (Nn a0.af).bind λv9=>
    some (v9||false)
   else
    some false
  else
   some (v8&&(a0.af==0))
 else
  if(a0.bc==4)then
   if(a0.ao==0)then
    (Nn a0.af).bind λv10=>
    some (v10&&(!a0.bm))
   else
    some false
  else
   some false
def LS(a0:Bv):Option (Bool):=
 if((a0.bc !=1)&&((a0.br !=0)||(decide ((IntKind.i64.wrap ((a0.ak.length:Int)+(a0.ab.length:Int)))>0))))then
  some false
 else
  if(a0.bc==1)then
   (II a0.ao 1 60).bind λv1=>
   if v1 then
    (Nn a0.af).bind λv2=>
    if v2 then
     (II a0.br 0 3).bind λv3=>
     if v3 then
      (YZ a0.ak).bind λv4=>
      if v4 then
       (Yu a0.ab).bind λv5=>
       if v5 then
        (II (a0.ab.length:Int) 0 8).bind λv6=>
        some ((v6&&(decide ((IntKind.i64.wrap ((a0.ak.length:Int)+(a0.ab.length:Int)))>0)))&&(!a0.bm))
       else
        some false
      else
       some false
     else
      some false
    else
     some false
   else
    some false
  else
   if(a0.bc==2)then
    YD a0 (a0.bc==2)
   else
    YD a0 (a0.bc==3)
def iE(a0:List An)(a1:Ag)(v1:Int):Option ((Int) ⊕ Option (Bool)):=
 if(decide (v1<(a0.length:Int)))then
  (Am a0 v1).bind λy2=>
  if(y2.ah==a1)then
   some (.inr (some true))
  else
   some (.inl (IntKind.i64.wrap (v1+1)))
 else
  some (.inr (some false))
def Vc(a0:List An)(a1:Ag):Option (Bool):=
 Au (λs:Int=>iE a0 a1 s) 0
def jY(a0:List (Ag))(a1:Ag)(v1:Int):Option ((Int) ⊕ Option (Bool)):=
 if(decide (v1<(a0.length:Int)))then
  (Am a0 v1).bind λy2=>
  if(y2==a1)then
   some (.inr (some true))
  else
   some (.inl (IntKind.i64.wrap (v1+1)))
 else
  some (.inr (some false))
def Y1(a0:List (Ag))(a1:Ag):Option (Bool):=
 Au (λs:Int=>jY a0 a1 s) 0
def jK(a0:Ay)(a2:List An)(v1:Int):Option ((Int) ⊕ Option (Bool)):=
 if(decide (v1<(a2.length:Int)))then
  (Am a2 v1).bind λy2=>
  (Vc a0.ab y2.ah).bind λv3=>
  if v3 then
   some (.inr (some false))
  else
   (Y1 a0.ak y2.ah).bind λv4=>
   if v4 then
    some (.inr (some false))
   else
    some (.inl (IntKind.i64.wrap (v1+1)))
 else
  some (.inr (some true))
def Ys(a0:Ay)(a2:List An):Option (Bool):=
 Au (λs:Int=>jK a0 a2 s) 0
def iF(a0:Ay)(a1:List (Ag))(a2:List An)(v5:Int):Option ((Int) ⊕ Option (Bool)):=
 if(decide (v5<(a1.length:Int)))then
  (Am a1 v5).bind λy6=>
  (Vc a0.ab y6).bind λv7=>
  if v7 then
   some (.inr (some false))
  else
   some (.inl (IntKind.i64.wrap (v5+1)))
 else
  some (.inr (Ys a0 a2))
def R0(a0:Ay)(a1:List (Ag))(a2:List An):Option (Bool):=
 Au (λs:Int=>iF a0 a1 a2 s) 0
def lA(a0:List Aj)(a1:Ag)(v1:Int):Option ((Int) ⊕ Option (Int)):=
 if(decide (v1<(a0.length:Int)))then
  (Am a0 v1).bind λy2=>
  if(y2.ah==a1)then
   some (.inr (some v1))
  else
   some (.inl (IntKind.i64.wrap (v1+1)))
 else
  some (.inr (some (-1)))
def VH(a0:List Aj)(a1:Ag):Option (Int):=
 Au (λs:Int=>lA a0 a1 s) 0
def Pm(a0:List Aj)(a1:Ag):Option (Int):=
 (VH a0 a1).bind λv1=>
 if(decide (v1<0))then
  some 0
 else
  (Am a0 v1).bind λy2=>
  (Am y2.ay (IntKind.i64.wrap ((y2.ay.length:Int)-1))).bind λy3=>
  some y3.af
def IH(a0:List (Ag)):Option (List (Ag)):=
 AK (RM ((([]:List (Ag)).length:Int)+((a0).length:Int)) 16)<|
 some a0
def Rj(a0:List (Ag))(a1:Ag)(v1:Int):Option (List (Ag)):=
 if(decide (v1>0))then
  (Am a0 (IntKind.i64.wrap (v1-1))).bind λy2=>
  if(y2==a1)then
   some a0
  else
   AK (0<=v1/\v1<=(a0.length:Int)/\(a0.length:Int)<=(a0.length:Int))<|
   (IH (A4 a0 v1 (a0.length:Int))).bind λv3=>
   AK (0<=(0:Int)/\(0:Int)<=v1/\v1<=(a0.length:Int))<|
   (IH (A4 a0 0 v1)).bind λv4=>
   AK (RM (((v4).length:Int)+(([a1]:List (Ag)).length:Int)) 16)<|
   AK (RM ((((v4++ [a1])).length:Int)+((v3).length:Int)) 16)<|
   some ((v4++ [a1])++v3)
 else
  AK (0<=v1/\v1<=(a0.length:Int)/\(a0.length:Int)<=(a0.length:Int))<|
  (IH (A4 a0 v1 (a0.length:Int))).bind λv5=>
  AK (0<=(0:Int)/\(0:Int)<=v1/\v1<=(a0.length:Int))<|
  (IH (A4 a0 0 v1)).bind λv6=>
  AK (RM (((v6).length:Int)+(([a1]:List (Ag)).length:Int)) 16)<|
  AK (RM ((((v6++ [a1])).length:Int)+((v5).length:Int)) 16)<|
  some ((v6++ [a1])++v5)
def Kg(a0:List (Ag))(a1:Ag)(v7:Int):Option ((Int) ⊕ Option (List (Ag))):=
 if(decide (v7>0))then
  (Am a0 (IntKind.i64.wrap (v7-1))).bind λy8=>
  if(!(Op.bytesLess y8 a1||y8==a1))then
   some (.inl (IntKind.i64.wrap (v7-1)))
  else
   some (.inr (Rj a0 a1 v7))
 else
  some (.inr (Rj a0 a1 v7))
def Pl(a0:List (Ag))(a1:Ag):Option (List (Ag)):=
 Au (λs:Int=>Kg a0 a1 s) (a0.length:Int)
def Yo(v3:List (Ag)):Option (Bool):=
 some (decide ((v3.length:Int)<=24))
def Rx(a0:Ai)(v2:List An)(v4:List (Ag))(v5:Int):Option ((List (Ag) × Int) ⊕ Option (Bool)):=
 if(decide (v5<(v2.length:Int)))then
  (Am v2 v5).bind λy6=>
  (Pl v4 y6.ah).bind λv7=>
  (VH a0.aj y6.ah).bind λv8=>
  if(decide (v8>=0))then
   (Am a0.aj v8).bind λy9=>
   if(decide ((y9.ay.length:Int)>=16))then
    some (.inr (some false))
   else
    some (.inl (v7,(IntKind.i64.wrap (v5+1))))
  else
   some (.inl (v7,(IntKind.i64.wrap (v5+1))))
 else
  some (.inr (Yo v4))
def iZ(a0:Ai)(v1:List (Ag))(v2:List An):Option (Bool):=
 Au (λs:List (Ag) × Int=>Rx a0 v2 s.1 s.2) (v1,0)
def RJ(a0:Ai)(v1:List (Ag))(v10:Int)(v11:List An):Option ((Int × List An) ⊕ Option (Bool)):=
 if(decide (v10<(a0.ae.length:Int)))then
  (Am a0.ae v10).bind λy12=>
  AK (RM (((v11).length:Int)+((y12.ab).length:Int)) 40)<|
  some (.inl ((IntKind.i64.wrap (v10+1)),(v11++y12.ab)))
 else
  some (.inr (iZ a0 v1 v11))
def iY(a0:Ai)(a1:List An)(v1:List (Ag)):Option (Bool):=
 AK (RM ((([]:List An).length:Int)+((a1).length:Int)) 40)<|
 Au (λs:Int × List An=>RJ a0 v1 s.1 s.2) (0,a1)
def RF(a0:Ai)(a1:List An)(v13:List (Ag))(v14:Int):Option ((List (Ag) × Int) ⊕ Option (Bool)):=
 if(decide (v14<(a0.aj.length:Int)))then
  (Am a0.aj v14).bind λy15=>
  (Pl v13 y15.ah).bind λv16=>
  some (.inl (v16,(IntKind.i64.wrap (v14+1))))
 else
  some (.inr (iY a0 a1 v13))
def Vv(a0:Ai)(a1:List An):Option (Bool):=
 Au (λs:List (Ag) × Int=>RF a0 a1 s.1 s.2) ([],0)
def U5(a0:Ai):Option (Bool):=
 if(decide ((a0.ae.length:Int)<=12))then
  (Vv a0 ([]:List An)).bind λv1=>
  some v1
 else
  some false
def U9(v2:Int):Option ((Int) ⊕ Option (Bool)):=
 some (.inl (IntKind.i64.wrap (v2+1)))
def J5(a0:Ai)(v2:Int)(y3:Ay)(v7:Int):Option ((Int) ⊕ Option ((Int) ⊕ Option (Bool))):=
 if(decide (v7<(y3.ab.length:Int)))then
  (Am y3.ab v7).bind λy8=>
  (Pm a0.aj y8.ah).bind λv9=>
  if(decide (v9>=y3.af))then
   some (.inr (some (.inr (some false))))
  else
   some (.inl (IntKind.i64.wrap (v7+1)))
 else
  some (.inr (U9 v2))
def KN(a0:Ai)(v2:Int)(y3:Ay):Option ((Int) ⊕ Option (Bool)):=
 Au (λs:Int=>J5 a0 v2 y3 s) 0
def Je(a0:Ai)(v2:Int)(y3:Ay)(v10:Int):Option ((Int) ⊕ Option ((Int) ⊕ Option (Bool))):=
 if(decide (v10<((A4 a0.ae 0 v2).length:Int)))then
  (Am (A4 a0.ae 0 v2) v10).bind λy11=>
  (R0 y11 y3.ak y3.ab).bind λv12=>
  if(!v12)then
   some (.inr (some (.inr (some false))))
  else
   some (.inl (IntKind.i64.wrap (v10+1)))
 else
  some (.inr (KN a0 v2 y3))
def jB(v2:Int):Option ((Int) ⊕ Option (Bool)):=
 some (.inl (IntKind.i64.wrap (v2+1)))
def Ry(a0:Ai)(v2:Int)(y3:Ay)(v13:Int):Option ((Int) ⊕ Option ((Int) ⊕ Option (Bool))):=
 if(decide (v13<(y3.ab.length:Int)))then
  (Am y3.ab v13).bind λy14=>
  (Pm a0.aj y14.ah).bind λv15=>
  if(decide (v15>=y3.af))then
   some (.inr (some (.inr (some false))))
  else
   some (.inl (IntKind.i64.wrap (v13+1)))
 else
  some (.inr (jB v2))
def Rz(a0:Ai)(v2:Int)(y3:Ay):Option ((Int) ⊕ Option (Bool)):=
 Au (λs:Int=>Ry a0 v2 y3 s) 0
def O3(a0:Ai)(v2:Int)(y3:Ay)(v16:Int):Option ((Int) ⊕ Option ((Int) ⊕ Option (Bool))):=
 if(decide (v16<((A4 a0.ae 0 v2).length:Int)))then
  (Am (A4 a0.ae 0 v2) v16).bind λy17=>
  (R0 y17 y3.ak y3.ab).bind λv18=>
  if(!v18)then
   some (.inr (some (.inr (some false))))
  else
   some (.inl (IntKind.i64.wrap (v16+1)))
 else
  some (.inr (Rz a0 v2 y3))
def Ke(a0:Ai)(v2:Int):Option ((Int) ⊕ Option (Bool)):=
 if(decide (v2<(a0.ae.length:Int)))then
  (Am a0.ae v2).bind λy3=>
  (Yl y3).bind λv4=>
  (LS v4).bind λv5=>
  if(decide (v2>0))then
   if v5 then
    if(decide (y3.af>a0.au))then
     some (.inr (some false))
    else
     (Am a0.ae (IntKind.i64.wrap (v2-1))).bind λy6=>
     if(decide (y6.ao>=y3.ao))then
      some (.inr (some false))
     else
      AK (0<=(0:Int)/\(0:Int)<=v2/\v2<=(a0.ae.length:Int))<|
      Au (λs:Int=>Je a0 v2 y3 s) 0
   else
    some (.inr (some false))
  else
   if(((!v5)||(decide (y3.af>a0.au)))||false)then
    some (.inr (some false))
   else
    AK (0<=(0:Int)/\(0:Int)<=v2/\v2<=(a0.ae.length:Int))<|
    Au (λs:Int=>O3 a0 v2 y3 s) 0
 else
  some (.inr (U5 a0))
def R5(a0:Ai):Option (Bool):=
 Au (λs:Int=>Ke a0 s) 0
def iK(a0:Ai)(a1 v1:Int):Option ((Int) ⊕ Option (Ay × Bool)):=
 if(decide (v1<(a0.ae.length:Int)))then
  (Am a0.ae v1).bind λy2=>
  if(y2.ao==a1)then
   some (.inr (some (y2,true)))
  else
   some (.inl (IntKind.i64.wrap (v1+1)))
 else
  some (.inr (some ((⟨0,0,0,[],[]⟩:Ay),false)))
def Kf(a0:Ai)(a1:Int):Option (Ay × Bool):=
 Au (λs:Int=>iK a0 a1 s) 0
def J6(a0:Ai)(v4:Int):Option ((Int) ⊕ Option (Bool)):=
 if(decide (v4<(a0.aq.length:Int)))then
  (Am a0.aq v4).bind λy5=>
  (II y5.ao 1 60).bind λv6=>
  if(decide (v4>0))then
   if v6 then
    (Am a0.aq (IntKind.i64.wrap (v4-1))).bind λy7=>
    if y5.bm then
     if(decide (y7.ao>=y5.ao))then
      some (.inr (some false))
     else
      (II y5.af 1 a0.au).bind λv8=>
      if((!v8)||false)then
       some (.inr (some false))
      else
       (Kf a0 y5.ao).bind λv9=>
       if v9.2 then
        some (.inr (some false))
       else
        some (.inl (IntKind.i64.wrap (v4+1)))
    else
     if(((decide (y7.ao>=y5.ao))||false)||(y5.af !=0))then
      some (.inr (some false))
     else
      (Kf a0 y5.ao).bind λv10=>
      if v10.2 then
       some (.inr (some false))
      else
       some (.inl (IntKind.i64.wrap (v4+1)))
   else
    some (.inr (some false))
  else
   if y5.bm then
    if v6 then
     (II y5.af 1 a0.au).bind λv11=>
     if((!v11)||false)then
      some (.inr (some false))
     else
      (Kf a0 y5.ao).bind λv12=>
      if v12.2 then
       some (.inr (some false))
      else
       some (.inl (IntKind.i64.wrap (v4+1)))
    else
     some (.inr (some false))
   else
    if((((!v6)||false)||false)||(y5.af !=0))then
     some (.inr (some false))
    else
     (Kf a0 y5.ao).bind λv13=>
     if v13.2 then
      some (.inr (some false))
     else
      some (.inl (IntKind.i64.wrap (v4+1)))
 else
  some (.inr (some true))
def RG(a0:Ai):Option (Bool):=
 Au (λs:Int=>J6 a0 s) 0
def J7(a0:Ai)(v14:Int):Option ((Int) ⊕ Option (Bool)):=
 if(decide (v14<(a0.aj.length:Int)))then
  (Am a0.aj v14).bind λy15=>
  (Pm a0.aj y15.ah).bind λv16=>
  if(decide (v16>a0.au))then
   some (.inr (some false))
  else
   some (.inl (IntKind.i64.wrap (v14+1)))
 else
  some (.inr (RG a0))
def LQ(a0:Ai):Option (Bool):=
 (Pk a0.au).bind λv1=>
 if v1 then
  (Vp a0.aj).bind λv2=>
  if v2 then
   (R5 a0).bind λv3=>
   if((!v3)||(decide ((a0.aq.length:Int)>60)))then
    some false
   else
    Au (λs:Int=>J7 a0 s) 0
  else
   some false
 else
  some false
def jA(a0:List (Ag)):Option (Bool):=
 some (decide ((a0.length:Int)<4))
def RA(a0:List (Ag))(v1:Int):Option ((Int) ⊕ Option (Bool)):=
 if(decide (v1<(a0.length:Int)))then
  (Am a0 v1).bind λy2=>
  (Po y2).bind λv3=>
  if(decide (v1>0))then
   if v3 then
    (Am a0 (IntKind.i64.wrap (v1-1))).bind λy4=>
    if(!Op.bytesLess y4 y2)then
     some (.inr (some false))
    else
     some (.inl (IntKind.i64.wrap (v1+1)))
   else
    some (.inr (some false))
  else
   if((!v3)||false)then
    some (.inr (some false))
   else
    some (.inl (IntKind.i64.wrap (v1+1)))
 else
  some (.inr (jA a0))
def YK(a0:List (Ag)):Option (Bool):=
 Au (λs:Int=>RA a0 s) 0
def YP(a0:AG):Option (Bool):=
 (LS (⟨1,a0.ao,1,0,a0.ak,a0.ab,false⟩:Bv)).bind λv1=>
 some v1
def iG(a0:List AG):Option (Bool):=
 some (decide ((a0.length:Int)<=8))
def X5(v1:Int):Option ((Int) ⊕ Option (Bool)):=
 some (.inl (IntKind.i64.wrap (v1+1)))
def Rc(a0:List AG)(v1:Int)(y2:AG)(v4:Int):Option ((Int) ⊕ Option ((Int) ⊕ Option (Bool))):=
 if(decide (v4<((A4 a0 0 v1).length:Int)))then
  (Am (A4 a0 0 v1) v4).bind λy5=>
  if(y2.ao==y5.ao)then
   some (.inr (some (.inr (some false))))
  else
   some (.inl (IntKind.i64.wrap (v4+1)))
 else
  some (.inr (X5 v1))
def Q6(a0:List AG)(v1:Int):Option ((Int) ⊕ Option (Bool)):=
 if(decide (v1<(a0.length:Int)))then
  (Am a0 v1).bind λy2=>
  (YP y2).bind λv3=>
  if(!v3)then
   some (.inr (some false))
  else
   AK (0<=(0:Int)/\(0:Int)<=v1/\v1<=(a0.length:Int))<|
   Au (λs:Int=>Rc a0 v1 y2 s) 0
 else
  some (.inr (iG a0))
def YB(a0:List AG):Option (Bool):=
 Au (λs:Int=>Q6 a0 s) 0
def Yn(a0:Ar):Option (Bool):=
 (YK a0.bb).bind λv1=>
 if v1 then
  if((a0.aw.length:Int)==(IntKind.i64.wrap ((a0.bb.length:Int)+1)))then
   (YB a0.ar).bind λv2=>
   some v2
  else
   some false
 else
  some false
def RH(a0:Ar)(v3:Int):Option ((Int) ⊕ Option (Bool)):=
 if(decide (v3<(a0.aw.length:Int)))then
  (Am a0.aw v3).bind λy4=>
  (LQ y4).bind λv5=>
  if(!v5)then
   some (.inr (some false))
  else
   some (.inl (IntKind.i64.wrap (v3+1)))
 else
  some (.inr (Yn a0))
def Vz(a0:Ar):Option (Bool):=
 Au (λs:Int=>RH a0 s) 0
def RU(a0:Ar)(a1 v1:Int):Option ((Int) ⊕ Option (Int)):=
 if(decide (v1<(a0.ar.length:Int)))then
  (Am a0.ar v1).bind λy2=>
  if(y2.ao==a1)then
   some (.inr (some v1))
  else
   some (.inl (IntKind.i64.wrap (v1+1)))
 else
  some (.inr (some (-1)))
def Zq(a0:Ar)(a1:Int):Option (Int):=
 Au (λs:Int=>RU a0 a1 s) 0
def QZ(a1:List An)(v2:List (Ag))(v3:Int):Option ((List (Ag) × Int) ⊕ Option (List (Ag))):=
 if(decide (v3<(a1.length:Int)))then
  (Am a1 v3).bind λy4=>
  (Pl v2 y4.ah).bind λv5=>
  some (.inl (v5,(IntKind.i64.wrap (v3+1))))
 else
  some (.inr (some v2))
def iD(a1:List An)(v1:List (Ag)):Option (List (Ag)):=
 Au (λs:List (Ag) × Int=>QZ a1 s.1 s.2) (v1,0)
def Q0(a0:List (Ag))(a1:List An)(v6:List (Ag))(v7:Int):Option ((List (Ag) × Int) ⊕ Option (List (Ag))):=
 if(decide (v7<(a0.length:Int)))then
  (Am a0 v7).bind λy8=>
  (Pl v6 y8).bind λv9=>
  some (.inl (v9,(IntKind.i64.wrap (v7+1))))
 else
  some (.inr (iD a1 v6))
def YU(a0:List (Ag))(a1:List An):Option (List (Ag)):=
 Au (λs:List (Ag) × Int=>Q0 a0 a1 s.1 s.2) ([],0)
def RB(a0:List (Ag))(a1:Ag)(v1:Int):Option ((Int) ⊕ Option (Int)):=
 if(decide (v1<(a0.length:Int)))then
  (Am a0 v1).bind λy2=>
  if(Op.bytesLess y2 a1||y2==a1)then
   some (.inl (IntKind.i64.wrap (v1+1)))
  else
   some (.inr (some v1))
 else
  some (.inr (some v1))
def Vu(a0:List (Ag))(a1:Ag):Option (Int):=
 Au (λs:Int=>RB a0 a1 s) 0
def Yz(a0:List Int)(a1 v1:Int):Option (List Int):=
 if(decide (v1<(a0.length:Int)))then
  (Am a0 v1).bind λy2=>
  if(y2==a1)then
   some a0
  else
   AK (0<=(0:Int)/\(0:Int)<=v1/\v1<=(a0.length:Int))<|
   AK (RM ((([]:List Int).length:Int)+(((A4 a0 0 v1)).length:Int)) 8)<|
   AK (RM ((((A4 a0 0 v1)).length:Int)+(([a1]:List Int).length:Int)) 8)<|
   AK (0<=v1/\v1<=(a0.length:Int)/\(a0.length:Int)<=(a0.length:Int))<|
   AK (RM (((((A4 a0 0 v1)++ [a1])).length:Int)+(((A4 a0 v1 (a0.length:Int))).length:Int)) 8)<|
   some (((A4 a0 0 v1)++ [a1])++(A4 a0 v1 (a0.length:Int)))
 else
  AK (0<=(0:Int)/\(0:Int)<=v1/\v1<=(a0.length:Int))<|
  AK (RM ((([]:List Int).length:Int)+(((A4 a0 0 v1)).length:Int)) 8)<|
  AK (RM ((((A4 a0 0 v1)).length:Int)+(([a1]:List Int).length:Int)) 8)<|
  AK (0<=v1/\v1<=(a0.length:Int)/\(a0.length:Int)<=(a0.length:Int))<|
  AK (RM (((((A4 a0 0 v1)++ [a1])).length:Int)+(((A4 a0 v1 (a0.length:Int))).length:Int)) 8)<|
  some (((A4 a0 0 v1)++ [a1])++(A4 a0 v1 (a0.length:Int)))
def RQ(a0:List Int)(a1 v3:Int):Option ((Int) ⊕ Option (List Int)):=
 if(decide (v3<(a0.length:Int)))then
  (Am a0 v3).bind λy4=>
  if(decide (y4<a1))then
   some (.inl (IntKind.i64.wrap (v3+1)))
  else
   some (.inr (Yz a0 a1 v3))
 else
  some (.inr (Yz a0 a1 v3))
def lN(a0:List Int)(a1:Int):Option (List Int):=
 Au (λs:Int=>RQ a0 a1 s) 0
def QX(a0:List (Ag))(a1:List (Ag))(v1:List Int)(v2:Int):Option ((List Int × Int) ⊕ Option (List Int)):=
 if(decide (v2<(a1.length:Int)))then
  (Am a1 v2).bind λy3=>
  (Vu a0 y3).bind λv4=>
  (lN v1 v4).bind λv5=>
  some (.inl (v5,(IntKind.i64.wrap (v2+1))))
 else
  some (.inr (some v1))
def kF(a0:List (Ag))(a1:List (Ag)):Option (List Int):=
 Au (λs:List Int × Int=>QX a0 a1 s.1 s.2) ([],0)
def zip(a0:List (Ag))(a1:AG):Option (List Int):=
 (YU a1.ak a1.ab).bind λv1=>
 (kF a0 v1).bind λv2=>
 some v2
def iL(a0:Ai)(a1 v1:Int):Option ((Int) ⊕ Option (Bj × Bool)):=
 if(decide (v1<(a0.aq.length:Int)))then
  (Am a0.aq v1).bind λy2=>
  if(y2.ao==a1)then
   some (.inr (some (y2,true)))
  else
   some (.inl (IntKind.i64.wrap (v1+1)))
 else
  some (.inr (some ((⟨0,false,0⟩:Bj),false)))
def Vl(a0:Ai)(a1:Int):Option (Bj × Bool):=
 Au (λs:Int=>iL a0 a1 s) 0
def RW(a0:List Int)(a1 v1:Int):Option ((Int) ⊕ Option (Bool)):=
 if(decide (v1<(a0.length:Int)))then
  (Am a0 v1).bind λy2=>
  if(y2==a1)then
   some (.inr (some true))
  else
   some (.inl (IntKind.i64.wrap (v1+1)))
 else
  some (.inr (some false))
def VF(a0:List Int)(a1:Int):Option (Bool):=
 Au (λs:Int=>RW a0 a1 s) 0
def Kd(a0 a1:Int):Option (Int):=
 if(decide (a0>a1))then
  some a0
 else
  some a1
def Yq(a0:Ai)(a1:Int):Option (Int × Bool):=
 (LQ a0).bind λv1=>
 if v1 then
  (Pk a1).bind λv2=>
  if v2 then
   (Kd a0.au a1).bind λv3=>
   if(v3==100000)then
    some (0,false)
   else
    (Kd a0.au a1).bind λv4=>
    some ((IntKind.i64.wrap (v4+1)),true)
  else
   some (0,false)
 else
  some (0,false)
def QW(a0:List (Ag))(a2:List An)(a3:Int)(v1:List (Ag))(v2:List An)(v3:Int):Option ((List An × Int) ⊕ Option (List (Ag) × List An)):=
 if(decide (v3<(a2.length:Int)))then
  (Am a2 v3).bind λy4=>
  (Vu a0 y4.ah).bind λv5=>
  if(v5==a3)then
   AK (RM (((v2).length:Int)+(([y4]:List An).length:Int)) 40)<|
   some (.inl ((v2++ [y4]),(IntKind.i64.wrap (v3+1))))
  else
   some (.inl (v2,(IntKind.i64.wrap (v3+1))))
 else
  some (.inr (some (v1,v2)))
def iM(a0:List (Ag))(a2:List An)(a3:Int)(v1:List (Ag)):Option (List (Ag) × List An):=
 Au (λs:List An × Int=>QW a0 a2 a3 v1 s.1 s.2) ([],0)
def QQ(a0:List (Ag))(a1:List (Ag))(a2:List An)(a3:Int)(v6:List (Ag))(v7:Int):Option ((List (Ag) × Int) ⊕ Option (List (Ag) × List An)):=
 if(decide (v7<(a1.length:Int)))then
  (Am a1 v7).bind λy8=>
  (Vu a0 y8).bind λv9=>
  if(v9==a3)then
   AK (RM (((v6).length:Int)+(([y8]:List (Ag)).length:Int)) 16)<|
   some (.inl ((v6++ [y8]),(IntKind.i64.wrap (v7+1))))
  else
   some (.inl (v6,(IntKind.i64.wrap (v7+1))))
 else
  some (.inr (iM a0 a2 a3 v6))
def kS(a0:List (Ag))(a1:List (Ag))(a2:List An)(a3:Int):Option (List (Ag) × List An):=
 Au (λs:List (Ag) × Int=>QQ a0 a1 a2 a3 s.1 s.2) ([],0)
def Vk(a1:AG)(a2:BU)(y2 v9:Int):Option (Bv × Int × Bool):=
 if(a2.bp==0)then
  (Pk a2.af).bind λv10=>
  some ((⟨2,a1.ao,v9,0,[],[],true⟩:Bv),y2,v10)
 else
  some ((⟨2,a1.ao,v9,0,[],[],true⟩:Bv),y2,false)
def Pb(a0:Ar)(a1:AG)(a2:BU)(v1:List Int)(y2 v11 v12:Int):Option ((Int × Int) ⊕ Option (Bv × Int × Bool)):=
 if(decide (v12<(v1.length:Int)))then
  (Am v1 v12).bind λy13=>
  (Am a0.aw y13).bind λy14=>
  (Kf y14 a1.ao).bind λv15=>
  if(!v15.2)then
   some (.inr (some ((⟨0,0,0,0,[],[],false⟩:Bv),0,false)))
  else
   (Kd v11 v15.1.af).bind λv16=>
   some (.inl (v16,(IntKind.i64.wrap (v12+1))))
 else
  some (.inr (Vk a1 a2 y2 v11))
def Zv(a0:Ar)(a1:AG)(a2:BU):Option (Bv × Int × Bool):=
 (zip a0.bb a1).bind λv1=>
 (Am v1 0).bind λy2=>
 (Am a0.aw y2).bind λy3=>
 (Vl y3 a1.ao).bind λv4=>
 if(a2.bc==1)then
  if v4.2 then
   some ((⟨0,0,0,0,[],[],false⟩:Bv),0,false)
  else
   if(a2.af !=0)then
    some ((⟨0,0,0,0,[],[],false⟩:Bv),0,false)
   else
    (VF v1 a2.bp).bind λv5=>
    if(!v5)then
     some ((⟨0,0,0,0,[],[],false⟩:Bv),0,false)
    else
     (Am a0.aw a2.bp).bind λy6=>
     (Yq y6 0).bind λv7=>
     (kS a0.bb a1.ak a1.ab a2.bp).bind λv8=>
     some ((⟨1,a1.ao,v7.1,y2,v8.1,v8.2,false⟩:Bv),a2.bp,v7.2)
 else
  if(a2.bc==2)then
   Au (λs:Int × Int=>Pb a0 a1 a2 v1 y2 s.1 s.2) (a2.af,0)
  else
   if(a2.bc==3)then
    some ((⟨2,a1.ao,0,0,[],[],false⟩:Bv),y2,((a2.bp==0)&&(a2.af==0)))
   else
    if(a2.bc==4)then
     if v4.2 then
      if(a2.af==0)then
       if(a2.bp !=y2)then
        (VF v1 a2.bp).bind λv17=>
        some ((⟨3,a1.ao,v4.1.af,0,[],[],v4.1.bm⟩:Bv),a2.bp,v17)
       else
        some ((⟨3,a1.ao,v4.1.af,0,[],[],v4.1.bm⟩:Bv),a2.bp,false)
      else
       some ((⟨3,a1.ao,v4.1.af,0,[],[],v4.1.bm⟩:Bv),a2.bp,false)
     else
      some ((⟨3,a1.ao,v4.1.af,0,[],[],v4.1.bm⟩:Bv),a2.bp,false)
    else
     some ((⟨3,a1.ao,v4.1.af,0,[],[],v4.1.bm⟩:Bv),a2.bp,false)
def RZ(a0 v1:List Aj)(v2:Int):Option ((List Aj × Int) ⊕ Option (List Aj)):=
 if(decide (v2<(a0.length:Int)))then
  (Am a0 v2).bind λy3=>
  AK (RM ((([]:List BE).length:Int)+((y3.ay).length:Int)) 32)<|
  AK (RM (((v1).length:Int)+(([y3]:List Aj).length:Int)) 40)<|
  some (.inl ((v1++ [y3]),(IntKind.i64.wrap (v2+1))))
 else
  some (.inr (some v1))
def VG(a0:List Aj):Option (List Aj):=
 Au (λs:List Aj × Int=>RZ a0 s.1 s.2) ([],0)
def Yp(a0:Ay):Option (Ay):=
 (IH a0.ak).bind λv1=>
 AK (RM ((([]:List An).length:Int)+((a0.ab).length:Int)) 40)<|
 some (⟨a0.ao,a0.af,a0.br,v1,a0.ab⟩:Ay)
def Rl(a0:Ai)(v1:List Aj)(v2:Int)(v3:List Ay):Option ((Int × List Ay) ⊕ Option (Ai)):=
 if(decide (v2<(a0.ae.length:Int)))then
  (Am a0.ae v2).bind λy4=>
  (Yp y4).bind λv5=>
  AK (RM (((v3).length:Int)+(([v5]:List Ay).length:Int)) 72)<|
  some (.inl ((IntKind.i64.wrap (v2+1)),(v3++ [v5])))
 else
  some (.inr (some (⟨a0.au,v1,v3,a0.aq⟩:Ai)))
def Vo(a0:Ai):Option (Ai):=
 (VG a0.aj).bind λv1=>
 AK (RM ((([]:List Bj).length:Int)+((a0.aq).length:Int)) 24)<|
 Au (λs:Int × List Ay=>Rl a0 v1 s.1 s.2) (0,[])
def Ya(a0:List Ay)(a1:Ay)(v1:Int):Option (List Ay):=
 AK (0<=v1/\v1<=(a0.length:Int)/\(a0.length:Int)<=(a0.length:Int))<|
 AK (RM ((([]:List Ay).length:Int)+(((A4 a0 v1 (a0.length:Int))).length:Int)) 72)<|
 AK (0<=(0:Int)/\(0:Int)<=v1/\v1<=(a0.length:Int))<|
 AK (RM ((([]:List Ay).length:Int)+(((A4 a0 0 v1)).length:Int)) 72)<|
 AK (RM ((((A4 a0 0 v1)).length:Int)+(([a1]:List Ay).length:Int)) 72)<|
 AK (RM (((((A4 a0 0 v1)++ [a1])).length:Int)+(((A4 a0 v1 (a0.length:Int))).length:Int)) 72)<|
 some (((A4 a0 0 v1)++ [a1])++(A4 a0 v1 (a0.length:Int)))
def iP(a0:List Ay)(a1:Ay)(v2:Int):Option ((Int) ⊕ Option (List Ay)):=
 if(decide (v2>0))then
  (Am a0 (IntKind.i64.wrap (v2-1))).bind λy3=>
  if(decide (y3.ao>a1.ao))then
   some (.inl (IntKind.i64.wrap (v2-1)))
  else
   some (.inr (Ya a0 a1 v2))
 else
  some (.inr (Ya a0 a1 v2))
def Yj(a0:List Ay)(a1:Ay):Option (List Ay):=
 Au (λs:Int=>iP a0 a1 s) (a0.length:Int)
def Yi(a0:Ai)(a2:List An):Option (Bool):=
 if(decide ((a0.ae.length:Int)<12))then
  (Vv a0 a2).bind λv1=>
  some v1
 else
  some false
def jD(a0:Ai)(a1:List (Ag))(a2:List An)(v2:Int):Option ((Int) ⊕ Option (Bool)):=
 if(decide (v2<(a0.ae.length:Int)))then
  (Am a0.ae v2).bind λy3=>
  (R0 y3 a1 a2).bind λv4=>
  if(!v4)then
   some (.inr (some false))
  else
   some (.inl (IntKind.i64.wrap (v2+1)))
 else
  some (.inr (Yi a0 a2))
def Ze(a0:Ai)(a1:List (Ag))(a2:List An):Option (Bool):=
 Au (λs:Int=>jD a0 a1 a2 s) 0
def YA(v2:List Aj):Option (List Aj × Bool):=
 (Vp v2).bind λv3=>
 some (v2,v3)
def RX(a2 v4:Int)(v5:List Aj)(y6:An)(v7:Int):Option ((Int × List Aj) ⊕ Option (List Aj × Bool)):=
 if(decide (v7>0))then
  (Am v5 (IntKind.i64.wrap (v7-1))).bind λy8=>
  if(y8.ah==y6.ah)then
   (Pm v5 y6.ah).bind λv9=>
   if(decide (v9>=a2))then
    some (.inr (some ([],false)))
   else
    AK (RM (((y8.ay).length:Int)+(([(⟨a2,y6.bh,y6.bg⟩:BE)]:List BE).length:Int)) 32)<|
    some (.inl ((IntKind.i64.wrap (v4+1)),(v5.set ((IntKind.i64.wrap (v7-1))).toNat {y8 with ay:=(y8.ay++ [(⟨a2,y6.bh,y6.bg⟩:BE)])})))
  else
   AK (0<=v7/\v7<=(v5.length:Int)/\(v5.length:Int)<=(v5.length:Int))<|
   AK (0<=v7/\v7<=(v5.length:Int)/\(v5.length:Int)<=(v5.length:Int))<|
   AK (RM ((([]:List Aj).length:Int)+(((A4 v5 v7 (v5.length:Int))).length:Int)) 40)<|
   AK (0<=(0:Int)/\(0:Int)<=v7/\v7<=(v5.length:Int))<|
   AK (RM ((([]:List Aj).length:Int)+(((A4 v5 0 v7)).length:Int)) 40)<|
   AK (RM ((((A4 v5 0 v7)).length:Int)+(([(⟨y6.ah,[(⟨a2,y6.bh,y6.bg⟩:BE)]⟩:Aj)]:List Aj).length:Int)) 40)<|
   AK (RM (((((A4 v5 0 v7)++ [(⟨y6.ah,[(⟨a2,y6.bh,y6.bg⟩:BE)]⟩:Aj)])).length:Int)+(((A4 v5 v7 (v5.length:Int))).length:Int)) 40)<|
   some (.inl ((IntKind.i64.wrap (v4+1)),(((A4 v5 0 v7)++ [(⟨y6.ah,[(⟨a2,y6.bh,y6.bg⟩:BE)]⟩:Aj)])++(A4 v5 v7 (v5.length:Int)))))
 else
  AK (0<=v7/\v7<=(v5.length:Int)/\(v5.length:Int)<=(v5.length:Int))<|
  AK (0<=v7/\v7<=(v5.length:Int)/\(v5.length:Int)<=(v5.length:Int))<|
  AK (RM ((([]:List Aj).length:Int)+(((A4 v5 v7 (v5.length:Int))).length:Int)) 40)<|
  AK (0<=(0:Int)/\(0:Int)<=v7/\v7<=(v5.length:Int))<|
  AK (RM ((([]:List Aj).length:Int)+(((A4 v5 0 v7)).length:Int)) 40)<|
  AK (RM ((((A4 v5 0 v7)).length:Int)+(([(⟨y6.ah,[(⟨a2,y6.bh,y6.bg⟩:BE)]⟩:Aj)]:List Aj).length:Int)) 40)<|
  AK (RM (((((A4 v5 0 v7)++ [(⟨y6.ah,[(⟨a2,y6.bh,y6.bg⟩:BE)]⟩:Aj)])).length:Int)+(((A4 v5 v7 (v5.length:Int))).length:Int)) 40)<|
  some (.inl ((IntKind.i64.wrap (v4+1)),(((A4 v5 0 v7)++ [(⟨y6.ah,[(⟨a2,y6.bh,y6.bg⟩:BE)]⟩:Aj)])++(A4 v5 v7 (v5.length:Int)))))
def Pg(a2 v4:Int)(v5:List Aj)(y6:An)(v10:Int):Option ((Int) ⊕ Option ((Int × List Aj) ⊕ Option (List Aj × Bool))):=
 if(decide (v10>0))then
  (Am v5 (IntKind.i64.wrap (v10-1))).bind λy11=>
  if(!(Op.bytesLess y11.ah y6.ah||y11.ah==y6.ah))then
   some (.inl (IntKind.i64.wrap (v10-1)))
  else
   some (.inr (RX a2 v4 v5 y6 v10))
 else
  some (.inr (RX a2 v4 v5 y6 v10))
def RV(a1:List An)(a2 v4:Int)(v5:List Aj):Option ((Int × List Aj) ⊕ Option (List Aj × Bool)):=
 if(decide (v4<(a1.length:Int)))then
  (Am a1 v4).bind λy6=>
  Au (λs:Int=>Pg a2 v4 v5 y6 s) (v5.length:Int)
 else
  some (.inr (YA v5))
def Zn(a0:List Aj)(a1:List An)(a2:Int):Option (List Aj × Bool):=
 (VG a0).bind λv1=>
 Au (λs:Int × List Aj=>RV a1 a2 s.1 s.2) (0,v1)
def RE(a0:List Ay)(a1:Int)(v1:List Ay)(v2:Int):Option ((List Ay × Int) ⊕ Option (List Ay)):=
 if(decide (v2<(a0.length:Int)))then
  (Am a0 v2).bind λy3=>
  if(y3.ao !=a1)then
   AK (RM (((v1).length:Int)+(([y3]:List Ay).length:Int)) 72)<|
   some (.inl ((v1++ [y3]),(IntKind.i64.wrap (v2+1))))
  else
   some (.inl (v1,(IntKind.i64.wrap (v2+1))))
 else
  some (.inr (some v1))
def Vx(a0:List Ay)(a1:Int):Option (List Ay):=
 Au (λs:List Ay × Int=>RE a0 a1 s.1 s.2) ([],0)
def Yb(a0:List Bj)(a1:Bj)(v1:Int):Option (List Bj):=
 AK (0<=v1/\v1<=(a0.length:Int)/\(a0.length:Int)<=(a0.length:Int))<|
 AK (RM ((([]:List Bj).length:Int)+(((A4 a0 v1 (a0.length:Int))).length:Int)) 24)<|
 AK (0<=(0:Int)/\(0:Int)<=v1/\v1<=(a0.length:Int))<|
 AK (RM ((([]:List Bj).length:Int)+(((A4 a0 0 v1)).length:Int)) 24)<|
 AK (RM ((((A4 a0 0 v1)).length:Int)+(([a1]:List Bj).length:Int)) 24)<|
 AK (RM (((((A4 a0 0 v1)++ [a1])).length:Int)+(((A4 a0 v1 (a0.length:Int))).length:Int)) 24)<|
 some (((A4 a0 0 v1)++ [a1])++(A4 a0 v1 (a0.length:Int)))
def iQ(a0:List Bj)(a1:Bj)(v2:Int):Option ((Int) ⊕ Option (List Bj)):=
 if(decide (v2>0))then
  (Am a0 (IntKind.i64.wrap (v2-1))).bind λy3=>
  if(decide (y3.ao>a1.ao))then
   some (.inl (IntKind.i64.wrap (v2-1)))
  else
   some (.inr (Yb a0 a1 v2))
 else
  some (.inr (Yb a0 a1 v2))
def U7(a0:List Bj)(a1:Bj):Option (List Bj):=
 Au (λs:Int=>iQ a0 a1 s) (a0.length:Int)
def YS(a0:Ai)(a1:Bv):Option (Ai × Bool):=
 (Vo a0).bind λv1=>
 (Kf a0 a1.ao).bind λv2=>
 (Vl a0 a1.ao).bind λv3=>
 if(a1.bc==4)then
  some ((⟨a1.af,v1.aj,v1.ae,v1.aq⟩:Ai),(decide (a1.af>a0.au)))
 else
  if v3.2 then
   some (v1,false)
  else
   if(a1.bc==1)then
    (IH a1.ak).bind λv4=>
    AK (RM ((([]:List An).length:Int)+((a1.ab).length:Int)) 40)<|
    (Yj v1.ae (⟨a1.ao,a1.af,a1.br,v4,a1.ab⟩:Ay)).bind λv5=>
    if v2.2 then
     some ((⟨a1.af,v1.aj,v5,v1.aq⟩:Ai),false)
    else
     if(decide (a1.af>a0.au))then
      (Ze a0 a1.ak a1.ab).bind λv6=>
      some ((⟨a1.af,v1.aj,v5,v1.aq⟩:Ai),v6)
     else
      some ((⟨a1.af,v1.aj,v5,v1.aq⟩:Ai),false)
   else
    if a1.bm then
     if((!v2.2)||(decide (v2.1.af>a1.af)))then
      some (v1,false)
     else
      (Zn a0.aj v2.1.ab a1.af).bind λv7=>
      if(!v7.2)then
       some (v1,false)
      else
       (Kd a0.au a1.af).bind λv8=>
       (Vx v1.ae a1.ao).bind λv9=>
       (U7 v1.aq (⟨a1.ao,a1.bm,a1.af⟩:Bj)).bind λv10=>
       some ((⟨v8,v7.1,v9,v10⟩:Ai),true)
    else
     (Vx v1.ae a1.ao).bind λv11=>
     (U7 v1.aq (⟨a1.ao,a1.bm,a1.af⟩:Bj)).bind λv12=>
     some ((⟨v1.au,v1.aj,v11,v12⟩:Ai),true)
def Yt(a0:Ai)(a1:Bv):Option (Ai × Bool):=
 (LQ a0).bind λv1=>
 if v1 then
  (LS a1).bind λv2=>
  if(!v2)then
   some ((⟨0,[],[],[]⟩:Ai),false)
  else
   (YS a0 a1).bind λv3=>
   if(!v3.2)then
    some ((⟨0,[],[],[]⟩:Ai),false)
   else
    some (v3.1,true)
 else
  some ((⟨0,[],[],[]⟩:Ai),false)
def RD(a0 v1:List AG)(v2:Int):Option ((List AG × Int) ⊕ Option (List AG)):=
 if(decide (v2<(a0.length:Int)))then
  (Am a0 v2).bind λy3=>
  (IH y3.ak).bind λv4=>
  AK (RM ((([]:List An).length:Int)+((y3.ab).length:Int)) 40)<|
  AK (RM (((v1).length:Int)+(([(⟨y3.ao,v4,y3.ab⟩:AG)]:List AG).length:Int)) 56)<|
  some (.inl ((v1++ [(⟨y3.ao,v4,y3.ab⟩:AG)]),(IntKind.i64.wrap (v2+1))))
 else
  some (.inr (some v1))
def lE(a0:List AG):Option (List AG):=
 Au (λs:List AG × Int=>RD a0 s.1 s.2) ([],0)
def Rk(a0:Ar)(v1:List (Ag))(v2:List AG)(v3:Int)(v4:List Ai):Option ((Int × List Ai) ⊕ Option (Ar)):=
 if(decide (v3<(a0.aw.length:Int)))then
  (Am a0.aw v3).bind λy5=>
  (Vo y5).bind λv6=>
  AK (RM (((v4).length:Int)+(([v6]:List Ai).length:Int)) 80)<|
  some (.inl ((IntKind.i64.wrap (v3+1)),(v4++ [v6])))
 else
  some (.inr (some (⟨v1,v4,v2⟩:Ar)))
def VB(a0:Ar):Option (Ar):=
 (IH a0.bb).bind λv1=>
 (lE a0.ar).bind λv2=>
 Au (λs:Int × List Ai=>Rk a0 v1 v2 s.1 s.2) (0,[])
def R3(a0:Ar)(a1:BU):Option (Ar × Bool):=
 (Zq a0 a1.ao).bind λv1=>
 if(decide (v1<0))then
  some ((⟨[],[],[]⟩:Ar),false)
 else
  (Am a0.ar v1).bind λy2=>
  (Zv a0 y2 a1).bind λv3=>
  if(!v3.2.2)then
   some ((⟨[],[],[]⟩:Ar),false)
  else
   (Am a0.aw v3.2.1).bind λy4=>
   (Yt y4 v3.1).bind λv5=>
   if(!v5.2)then
    some ((⟨[],[],[]⟩:Ar),false)
   else
    (VB a0).bind λv6=>
    (Am v6.aw v3.2.1).bind λy7=>
    some ((⟨v6.bb,(v6.aw.set (v3.2.1).toNat v5.1),v6.ar⟩:Ar),true)
def kQ(a0:Ar)(a1:BU):Option (Ar × Bool):=
 (Vz a0).bind λv1=>
 if(!v1)then
  some ((⟨[],[],[]⟩:Ar),false)
 else
  (R3 a0 a1).bind λv2=>
  some (v2.1,v2.2)
def LR(a0 a1 a2:Int):Option (Bool):=
 some ((decide (a0>=a1))&&(decide (a0<=a2)))
def iB(a0:Int):Option (Bool):=
 some (((decide (a0>=97))&&(decide (a0<=122)))||((decide (a0>=48))&&(decide (a0<=57))))
def iJ(a0:Ag)(a1:Int):Option (Int):=
 (XO a0 a1).bind λv1=>
 some v1
def iO(a0 a1:Ag)(v1:Int):Option ((Int) ⊕ Option (Bool)):=
 if(decide (v1<(a0.length:Int)))then
  (Am a0 v1).bind λy2=>
  (iB (y2.toNat:Int)).bind λv3=>
  if v3 then
   some (.inl (IntKind.i64.wrap (v1+1)))
  else
   (iJ a1 (y2.toNat:Int)).bind λv4=>
   if(decide (v4<0))then
    some (.inr (some false))
   else
    some (.inl (IntKind.i64.wrap (v1+1)))
 else
  some (.inr (some true))
def Ve(a0 a1:Ag):Option (Bool):=
 Au (λs:Int=>iO a0 a1 s) 0
def Y7(a0:Ag):Option (Bool):=
 (LR (a0.length:Int) 1 12).bind λv1=>
 if v1 then
  (Ve a0 ([46,47]:Ag)).bind λv2=>
  some v2
 else
  some false
def iI(a0:List (Ag))(v1:Int):Option ((Int) ⊕ Option (Bool)):=
 if(decide (v1<(a0.length:Int)))then
  (Am a0 v1).bind λy2=>
  (Y7 y2).bind λv3=>
  if(decide (v1>0))then
   if v3 then
    (Am a0 (IntKind.i64.wrap (v1-1))).bind λy4=>
    if(Op.bytesLess y2 y4||y2==y4)then
     some (.inr (some false))
    else
     some (.inl (IntKind.i64.wrap (v1+1)))
   else
    some (.inr (some false))
  else
   if((!v3)||false)then
    some (.inr (some false))
   else
    some (.inl (IntKind.i64.wrap (v1+1)))
 else
  some (.inr (some true))
def Nj(a0:List (Ag)):Option (Bool):=
 Au (λs:Int=>iI a0 s) 0
def YR(a0:List (Ag)):Option (Bool):=
 if(decide ((a0.length:Int)<4))then
  (Nj a0).bind λv1=>
  some v1
 else
  some false
def R1(a0:Int):Option (Bool):=
 (LR a0 0 100000).bind λv1=>
 some v1
def Nl(a0:Int):Option (Bool):=
 (LR a0 1 100000).bind λv1=>
 some v1
def Y6(a0:Ag):Option (Bool):=
 if(decide ((a0.length:Int)<=24))then
  (Ve a0 ([46,45,44,95]:Ag)).bind λv1=>
  some v1
 else
  some false
def Vb(a0:Ag)(a1:Bool):Option (Bool):=
 (Y6 a0).bind λv1=>
 some (v1&&(!(a1&&(a0 !=([]:Ag)))))
def jM(a0:Aj):Option (Bool):=
 (LR (a0.ay.length:Int) 1 16).bind λv1=>
 some v1
def O8(a0:Aj)(v2:Int):Option ((Int) ⊕ Option (Bool)):=
 if(decide (v2<(a0.ay.length:Int)))then
  (Am a0.ay v2).bind λy3=>
  (Nl y3.af).bind λv4=>
  if v4 then
   (Vb y3.bh y3.bg).bind λv5=>
   if(decide (v2>0))then
    if v5 then
     (Am a0.ay (IntKind.i64.wrap (v2-1))).bind λy6=>
     if(decide (y3.af<=y6.af))then
      some (.inr (some false))
     else
      some (.inl (IntKind.i64.wrap (v2+1)))
    else
     some (.inr (some false))
   else
    if((!v5)||false)then
     some (.inr (some false))
    else
     some (.inl (IntKind.i64.wrap (v2+1)))
  else
   some (.inr (some false))
 else
  some (.inr (jM a0))
def YV(a0:Aj):Option (Bool):=
 Au (λs:Int=>O8 a0 s) 0
def X2(a0:List Aj)(v1:List (Ag)):Option (Bool):=
 if(decide ((a0.length:Int)<=24))then
  (Nj v1).bind λv2=>
  some v2
 else
  some false
def U2(a0:List Aj)(v3:Int)(v4:List (Ag)):Option ((Int × List (Ag)) ⊕ Option (Bool)):=
 if(decide (v3<(a0.length:Int)))then
  (Am a0 v3).bind λy5=>
  (YV y5).bind λv6=>
  if(!v6)then
   some (.inr (some false))
  else
   AK (RM (((v4).length:Int)+(([y5.ah]:List (Ag)).length:Int)) 16)<|
   some (.inl ((IntKind.i64.wrap (v3+1)),(v4++ [y5.ah])))
 else
  some (.inr (X2 a0 v4))
def Vn(a0:List Aj):Option (Bool):=
 Au (λs:Int × List (Ag)=>U2 a0 s.1 s.2) (0,[])
def RO(a0:Ay):Option (Bv):=
 some (⟨1,a0.ao,a0.af,a0.br,a0.ak,a0.ab,false⟩:Bv)
def Nk(a0:Int):Option (Bool):=
 (LR a0 1 60).bind λv1=>
 some v1
def QP(a0:List An)(v1:Int)(v2:List (Ag)):Option ((Int × List (Ag)) ⊕ Option (List (Ag))):=
 if(decide (v1<(a0.length:Int)))then
  (Am a0 v1).bind λy3=>
  AK (RM (((v2).length:Int)+(([y3.ah]:List (Ag)).length:Int)) 16)<|
  some (.inl ((IntKind.i64.wrap (v1+1)),(v2++ [y3.ah])))
 else
  some (.inr (some v2))
def Vm(a0:List An):Option (List (Ag)):=
 Au (λs:Int × List (Ag)=>QP a0 s.1 s.2) (0,[])
def X4(a0:An):Option (Bool):=
 (Vb a0.bh a0.bg).bind λv1=>
 some (!v1)
def Yh(a0:List An):Option (Bool):=
 if(decide ((a0.length:Int)<=24))then
  (Vm a0).bind λv1=>
  (Nj v1).bind λv2=>
  if v2 then
   (E0 a0 (λy0_=>X4 y0_)).bind λv3=>
   some (!v3)
  else
   some false
 else
  some false
def Yk(a0:Bv)(v6:Bool):Option (Bool):=
 if v6 then
  if(a0.br==0)then
   if((a0.ak.length:Int)==0)then
    if((a0.ab.length:Int)==0)then
     (Nk a0.ao).bind λv7=>
     if a0.bm then
      if v7 then
       (Nl a0.af).bind λv8=>
       some (v8||false)
      else
       some false
     else
      some (v7&&(a0.af==0))
    else
     some false
   else
    some false
  else
   some false
 else
  if(a0.bc==4)then
   if(a0.br==0)then
    if((a0.ak.length:Int)==0)then
     if((a0.ab.length:Int)==0)then
      if(a0.ao==0)then
       (Nl a0.af).bind λv9=>
       some (v9&&(!a0.bm))
      else
       some false
     else
      some false
    else
     some false
   else
    some false
  else
   some false
def Vt(a0:Bv):Option (Bool):=
 if(a0.bc==1)then
  (Nk a0.ao).bind λv1=>
  if v1 then
   (Nl a0.af).bind λv2=>
   if v2 then
    (LR a0.br 0 3).bind λv3=>
    if v3 then
     if(decide ((a0.ak.length:Int)<=8))then
      (Nj a0.ak).bind λv4=>
      if v4 then
       if(decide ((a0.ab.length:Int)<=8))then
        (Yh a0.ab).bind λv5=>
        some ((v5&&(decide ((IntKind.i64.wrap ((a0.ak.length:Int)+(a0.ab.length:Int)))>0)))&&(!a0.bm))
       else
        some false
      else
       some false
     else
      some false
    else
     some false
   else
    some false
  else
   some false
 else
  if(a0.bc==2)then
   Yk a0 (a0.bc==2)
  else
   Yk a0 (a0.bc==3)
def gT(a0:List An)(a1:Ag)(a2:An->(Ag)->Option Int)(v1:Int):Option (Int × Bool):=
 if(decide (v1<(a0.length:Int)))then
  (Am a0 v1).bind λy2=>
  (a2 y2 a1).bind λv3=>
  some (v1,(v3==0))
 else
  some (v1,false)
def QC(a0:List An)(a1:Ag)(a2:An->(Ag)->Option Int)(v4 v5:Int):Option ((Int × Int) ⊕ Option (Int × Bool)):=
 if(decide (v4<v5))then
  (Am a0 (IntKind.i64.wrap (Int.fdiv (IntKind.u64.wrap (IntKind.i64.wrap (v4+v5))) (2^(min ((1:Int)).toNat (IntKind.bits .u64)))))).bind λy6=>
  (a2 y6 a1).bind λv7=>
  if(decide (v7<0))then
   some (.inl ((IntKind.i64.wrap ((IntKind.i64.wrap (Int.fdiv (IntKind.u64.wrap (IntKind.i64.wrap (v4+v5))) (2^(min ((1:Int)).toNat (IntKind.bits .u64)))))+1)),v5))
  else
   some (.inl (v4,(IntKind.i64.wrap (Int.fdiv (IntKind.u64.wrap (IntKind.i64.wrap (v4+v5))) (2^(min ((1:Int)).toNat (IntKind.bits .u64)))))))
 else
  some (.inr (gT a0 a1 a2 v4))
def gV(a0:List An)(a1:Ag)(a2:An->(Ag)->Option Int):Option (Int × Bool):=
 Au (λs:Int × Int=>QC a0 a1 a2 s.1 s.2) (0,(a0.length:Int))
def U1(a0:Ag):Option (Bool):=
 some (a0 !=a0)
def UX(a0 a1:Ag):Option (Int):=
 (U1 a0).bind λv1=>
 (U1 a1).bind λv2=>
 if v1 then
  if v2 then
   some 0
  else
   some (-1)
 else
  if v2 then
   some 1
  else
   if(Op.bytesLess a0 a1)then
    some (-1)
   else
    if(!(Op.bytesLess a0 a1||a0==a1))then
     some 1
    else
     some 0
def QU(a0:An)(a1:Ag):Option (Int):=
 (UX a0.ah a1).bind λv1=>
 some v1
def Ru(a0:List An)(a1:Ag):Option (Int × Bool):=
 (gV a0 a1 (λy0_ y1_=>QU y0_ y1_)).bind λv1=>
 some (v1.1,v1.2)
def hP(a0:List (Ag))(a1:Ag)(v1:Int):Option ((Int) ⊕ Option (Int)):=
 if(decide (v1<(a0.length:Int)))then
  (Am a0 v1).bind λy2=>
  if(a1==y2)then
   some (.inr (some v1))
  else
   some (.inl (IntKind.i64.wrap (v1+1)))
 else
  some (.inr (some (-1)))
def XP(a0:List (Ag))(a1:Ag):Option (Int):=
 Au (λs:Int=>hP a0 a1 s) 0
def XN(a0:List (Ag))(a1:Ag):Option (Bool):=
 (XP a0 a1).bind λv1=>
 some (decide (v1>=0))
def jT(a0:An)(a1:List An)(a2:List (Ag)):Option (Bool):=
 (Ru a1 a0.ah).bind λv1=>
 if v1.2 then
  some true
 else
  (XN a2 a0.ah).bind λv2=>
  some v2
def Vy(a0:List An)(a1:List (Ag))(a2:List An):Option (Bool):=
 (E0 a0 (λy0_=>jT y0_ a2 a1)).bind λv1=>
 some v1
def R6(a0 a1:Ay):Option (Bool):=
 (Vy a0.ab a1.ak a1.ab).bind λv1=>
 if v1 then
  some true
 else
  (Vy a1.ab a0.ak a0.ab).bind λv2=>
  some v2
def O5(a0 a1:Ay):Option (Bool):=
 (R6 a1 a0).bind λv1=>
 some v1
def gU(a0:List Aj)(a1:Ag)(a2:Aj->(Ag)->Option Int)(v1:Int):Option (Int × Bool):=
 if(decide (v1<(a0.length:Int)))then
  (Am a0 v1).bind λy2=>
  (a2 y2 a1).bind λv3=>
  some (v1,(v3==0))
 else
  some (v1,false)
def QD(a0:List Aj)(a1:Ag)(a2:Aj->(Ag)->Option Int)(v4 v5:Int):Option ((Int × Int) ⊕ Option (Int × Bool)):=
 if(decide (v4<v5))then
  (Am a0 (IntKind.i64.wrap (Int.fdiv (IntKind.u64.wrap (IntKind.i64.wrap (v4+v5))) (2^(min ((1:Int)).toNat (IntKind.bits .u64)))))).bind λy6=>
  (a2 y6 a1).bind λv7=>
  if(decide (v7<0))then
   some (.inl ((IntKind.i64.wrap ((IntKind.i64.wrap (Int.fdiv (IntKind.u64.wrap (IntKind.i64.wrap (v4+v5))) (2^(min ((1:Int)).toNat (IntKind.bits .u64)))))+1)),v5))
  else
   some (.inl (v4,(IntKind.i64.wrap (Int.fdiv (IntKind.u64.wrap (IntKind.i64.wrap (v4+v5))) (2^(min ((1:Int)).toNat (IntKind.bits .u64)))))))
 else
  some (.inr (gU a0 a1 a2 v4))
def XL(a0:List Aj)(a1:Ag)(a2:Aj->(Ag)->Option Int):Option (Int × Bool):=
 Au (λs:Int × Int=>QD a0 a1 a2 s.1 s.2) (0,(a0.length:Int))
def Pd(a0:Aj)(a1:Ag):Option (Int):=
 (UX a0.ah a1).bind λv1=>
 some v1
def RY(a0:List Aj)(a1:Ag):Option (Int × Bool):=
 (XL a0 a1 (λy0_ y1_=>Pd y0_ y1_)).bind λv1=>
 some (v1.1,v1.2)
def RR(a0:List Aj)(a1:Ag):Option (Int):=
 (RY a0 a1).bind λv1=>
 if(!v1.2)then
  some 0
 else
  (Am a0 v1.1).bind λy2=>
  (Am y2.ay (IntKind.i64.wrap ((y2.ay.length:Int)-1))).bind λy3=>
  some y3.af
def OZ(a0:An)(a1:Ay)(a2:Ai):Option (Bool):=
 (RR a2.aj a0.ah).bind λv1=>
 some (decide (a1.af<=v1))
def XT(a1:List Ay)(v2:List (Ag)):Option (Bool):=
 (QB v2).bind λv3=>
 if(decide ((a1.length:Int)<=12))then
  (QA v3.2).bind λv4=>
  some (decide ((v4.length:Int)<=24))
 else
  some false
def XW(v5:Int)(v8:List (Ag)):Option ((Int × List (Ag)) ⊕ Option (Bool)):=
 some (.inl ((IntKind.i64.wrap (v5+1)),v8))
def O6(a0:Ai)(v5:Int)(y7:Ay)(v9:Int)(v10:List (Ag)):Option ((Int × List (Ag)) ⊕ Option ((Int × List (Ag)) ⊕ Option (Bool))):=
 if(decide (v9<(y7.ab.length:Int)))then
  (Am y7.ab v9).bind λy11=>
  (RY a0.aj y11.ah).bind λv12=>
  if v12.2 then
   (Am a0.aj v12.1).bind λy13=>
   if(decide ((y13.ay.length:Int)>=16))then
    some (.inr (some (.inr (some false))))
   else
    AK (RM (((v10).length:Int)+(([y11.ah]:List (Ag)).length:Int)) 16)<|
    some (.inl ((IntKind.i64.wrap (v9+1)),(v10++ [y11.ah])))
  else
   AK (RM (((v10).length:Int)+(([y11.ah]:List (Ag)).length:Int)) 16)<|
   some (.inl ((IntKind.i64.wrap (v9+1)),(v10++ [y11.ah])))
 else
  some (.inr (XW v5 v10))
def Nd(a0:Ai)(a1:List Ay)(v5:Int)(v6:List (Ag)):Option ((Int × List (Ag)) ⊕ Option (Bool)):=
 if(decide (v5<(a1.length:Int)))then
  (Am a1 v5).bind λy7=>
  Au (λs:Int × List (Ag)=>O6 a0 v5 y7 s.1 s.2) (0,v6)
 else
  some (.inr (XT a1 v6))
def iC(a0:Ai)(a1:List Ay)(v1:List (Ag)):Option (Bool):=
 Au (λs:Int × List (Ag)=>Nd a0 a1 s.1 s.2) (0,v1)
def QI(a0:Ai)(a1:List Ay)(v14:Int)(v15:List (Ag)):Option ((Int × List (Ag)) ⊕ Option (Bool)):=
 if(decide (v14<(a0.aj.length:Int)))then
  (Am a0.aj v14).bind λy16=>
  AK (RM (((v15).length:Int)+(([y16.ah]:List (Ag)).length:Int)) 16)<|
  some (.inl ((IntKind.i64.wrap (v14+1)),(v15++ [y16.ah])))
 else
  some (.inr (iC a0 a1 v15))
def U3(a0:Ai)(a1:List Ay):Option (Bool):=
 Au (λs:Int × List (Ag)=>QI a0 a1 s.1 s.2) (0,[])
def UU(a0:Ai):Option (Bool):=
 (U3 a0 a0.ae).bind λv1=>
 some v1
def Ka(a0:Ai)(v2:Int):Option ((Int) ⊕ Option (Bool)):=
 if(decide (v2<(a0.ae.length:Int)))then
  (Am a0.ae v2).bind λy3=>
  (RO y3).bind λv4=>
  (Vt v4).bind λv5=>
  if(decide (v2>0))then
   if v5 then
    if(decide (y3.af>a0.au))then
     some (.inr (some false))
    else
     (Am a0.ae (IntKind.i64.wrap (v2-1))).bind λy6=>
     if(decide (y3.ao<=y6.ao))then
      some (.inr (some false))
     else
      AK (0<=(0:Int)/\(0:Int)<=v2/\v2<=(a0.ae.length:Int))<|
      (E0 (A4 a0.ae 0 v2) (λy0_=>O5 y0_ y3)).bind λv7=>
      if v7 then
       some (.inr (some false))
      else
       (E0 y3.ab (λy0_=>OZ y0_ y3 a0)).bind λv8=>
       if v8 then
        some (.inr (some false))
       else
        some (.inl (IntKind.i64.wrap (v2+1)))
   else
    some (.inr (some false))
  else
   if(((!v5)||(decide (y3.af>a0.au)))||false)then
    some (.inr (some false))
   else
    AK (0<=(0:Int)/\(0:Int)<=v2/\v2<=(a0.ae.length:Int))<|
    (E0 (A4 a0.ae 0 v2) (λy0_=>O5 y0_ y3)).bind λv9=>
    if v9 then
     some (.inr (some false))
    else
     (E0 y3.ab (λy0_=>OZ y0_ y3 a0)).bind λv10=>
     if v10 then
      some (.inr (some false))
     else
      some (.inl (IntKind.i64.wrap (v2+1)))
 else
  some (.inr (UU a0))
def QK(a0:Ai):Option (Bool):=
 Au (λs:Int=>Ka a0 s) 0
def gX(a0:List Ay)(a1:Int)(a2:Ay->Int->Option Int)(v1:Int):Option (Int × Bool):=
 if(decide (v1<(a0.length:Int)))then
  (Am a0 v1).bind λy2=>
  (a2 y2 a1).bind λv3=>
  some (v1,(v3==0))
 else
  some (v1,false)
def QE(a0:List Ay)(a1:Int)(a2:Ay->Int->Option Int)(v4 v5:Int):Option ((Int × Int) ⊕ Option (Int × Bool)):=
 if(decide (v4<v5))then
  (Am a0 (IntKind.i64.wrap (Int.fdiv (IntKind.u64.wrap (IntKind.i64.wrap (v4+v5))) (2^(min ((1:Int)).toNat (IntKind.bits .u64)))))).bind λy6=>
  (a2 y6 a1).bind λv7=>
  if(decide (v7<0))then
   some (.inl ((IntKind.i64.wrap ((IntKind.i64.wrap (Int.fdiv (IntKind.u64.wrap (IntKind.i64.wrap (v4+v5))) (2^(min ((1:Int)).toNat (IntKind.bits .u64)))))+1)),v5))
  else
   some (.inl (v4,(IntKind.i64.wrap (Int.fdiv (IntKind.u64.wrap (IntKind.i64.wrap (v4+v5))) (2^(min ((1:Int)).toNat (IntKind.bits .u64)))))))
 else
  some (.inr (gX a0 a1 a2 v4))
def XK(a0:List Ay)(a1:Int)(a2:Ay->Int->Option Int):Option (Int × Bool):=
 Au (λs:Int × Int=>QE a0 a1 a2 s.1 s.2) (0,(a0.length:Int))
def Vj(a0:Int):Option (Bool):=
 some (a0 !=a0)
def UZ(a0 a1:Int):Option (Int):=
 (Vj a0).bind λv1=>
 (Vj a1).bind λv2=>
 if v1 then
  if v2 then
   some 0
  else
   some (-1)
 else
  if v2 then
   some 1
  else
   if(decide (a0<a1))then
    some (-1)
   else
    if(decide (a0>a1))then
     some 1
    else
     some 0
def O0(a0:Ay)(a1:Int):Option (Int):=
 (UZ a0.ao a1).bind λv1=>
 some v1
def KM(a0:Ai)(a1:Int):Option (Int × Bool):=
 (XK a0.ae a1 (λy0_ y1_=>O0 y0_ y1_)).bind λv1=>
 some (v1.1,v1.2)
def J9(a0:Ai)(v4:Int):Option ((Int) ⊕ Option (Bool)):=
 if(decide (v4<(a0.aq.length:Int)))then
  (Am a0.aq v4).bind λy5=>
  if y5.bm then
   (LR y5.af 1 a0.au).bind λv6=>
   (Nk y5.ao).bind λv7=>
   if(decide (v4>0))then
    if v7 then
     if v6 then
      (Am a0.aq (IntKind.i64.wrap (v4-1))).bind λy8=>
      if(decide (y5.ao<=y8.ao))then
       some (.inr (some false))
      else
       (KM a0 y5.ao).bind λv9=>
       if v9.2 then
        some (.inr (some false))
       else
        some (.inl (IntKind.i64.wrap (v4+1)))
     else
      some (.inr (some false))
    else
     some (.inr (some false))
   else
    if(((!v7)||(!(v6||false)))||false)then
     some (.inr (some false))
    else
     (KM a0 y5.ao).bind λv10=>
     if v10.2 then
      some (.inr (some false))
     else
      some (.inl (IntKind.i64.wrap (v4+1)))
  else
   (Nk y5.ao).bind λv11=>
   if(decide (v4>0))then
    if v11 then
     if(y5.af==0)then
      (Am a0.aq (IntKind.i64.wrap (v4-1))).bind λy12=>
      if(decide (y5.ao<=y12.ao))then
       some (.inr (some false))
      else
       (KM a0 y5.ao).bind λv13=>
       if v13.2 then
        some (.inr (some false))
       else
        some (.inl (IntKind.i64.wrap (v4+1)))
     else
      some (.inr (some false))
    else
     some (.inr (some false))
   else
    if(((!v11)||(!(y5.af==0)))||false)then
     some (.inr (some false))
    else
     (KM a0 y5.ao).bind λv14=>
     if v14.2 then
      some (.inr (some false))
     else
      some (.inl (IntKind.i64.wrap (v4+1)))
 else
  some (.inr (some true))
def Q9(a0:Ai):Option (Bool):=
 Au (λs:Int=>J9 a0 s) 0
def J8(a0:Ai)(v15:Int):Option ((Int) ⊕ Option (Bool)):=
 if(decide (v15<(a0.aj.length:Int)))then
  (Am a0.aj v15).bind λy16=>
  (RR a0.aj y16.ah).bind λv17=>
  if(decide (v17>a0.au))then
   some (.inr (some false))
  else
   some (.inl (IntKind.i64.wrap (v15+1)))
 else
  some (.inr (Q9 a0))
def Rm(a0:Ai):Option (Bool):=
 (R1 a0.au).bind λv1=>
 if v1 then
  (Vn a0.aj).bind λv2=>
  if v2 then
   (QK a0).bind λv3=>
   if((!v3)||(decide ((a0.aq.length:Int)>60)))then
    some false
   else
    Au (λs:Int=>J8 a0 s) 0
  else
   some false
 else
  some false
def Yf(a0:Ai):Option (Bool):=
 (Rm a0).bind λv1=>
 some (!v1)
def kH(a0:List (Ag))(a1:List An):Option (Bool):=
 (Vt (⟨1,1,1,0,a0,a1,false⟩:Bv)).bind λv1=>
 some v1
def YL(a0:AG):Option (Bool):=
 (Nk a0.ao).bind λv1=>
 if v1 then
  (kH a0.ak a0.ab).bind λv2=>
  some v2
 else
  some false
def jF(a0 a1:AG):Option (Bool):=
 some (a0.ao==a1.ao)
def jH(a0:Ar):Option (Bool):=
 some (decide ((a0.ar.length:Int)<=8))
def O4(a0:Ar)(v3:Int):Option ((Int) ⊕ Option (Bool)):=
 if(decide (v3<(a0.ar.length:Int)))then
  (Am a0.ar v3).bind λy4=>
  (YL y4).bind λv5=>
  if v5 then
   AK (0<=(0:Int)/\(0:Int)<=v3/\v3<=(a0.ar.length:Int))<|
   (E0 (A4 a0.ar 0 v3) (λy0_=>jF y0_ y4)).bind λv6=>
   if v6 then
    some (.inr (some false))
   else
    some (.inl (IntKind.i64.wrap (v3+1)))
  else
   some (.inr (some false))
 else
  some (.inr (jH a0))
def Vf(a0:Ar):Option (Bool):=
 (YR a0.bb).bind λv1=>
 if v1 then
  if((a0.aw.length:Int) !=(IntKind.i64.wrap ((a0.bb.length:Int)+1)))then
   some false
  else
   (E0 a0.aw (λy0_=>Yf y0_)).bind λv2=>
   if v2 then
    some false
   else
    Au (λs:Int=>O4 a0 s) 0
 else
  some false
def iR(a0:AG)(a1:BU):Option (Bool):=
 some (a0.ao==a1.ao)
def IG(xs:List (Ag)):Option (List (Ag)):=PG 16 xs
def YX(a0:List (Ag))(a1:List An):Option (List (Ag)):=
 (IG a0).bind λv1=>
 (Vm a1).bind λv2=>
 AK (RM (((v1).length:Int)+((v2).length:Int)) 16)<|
 (QB (v1++v2)).bind λv3=>
 (QA v3.2).bind λv4=>
 some v4
def Rq(a0:List (Ag))(a1:Ag)(v1 v2:Int):Option ((Int × Int) ⊕ Option (Int)):=
 if(decide (v2<(a0.length:Int)))then
  (Am a0 v2).bind λy3=>
  if(Op.bytesLess y3 a1||y3==a1)then
   some (.inl ((IntKind.i64.wrap (v1+1)),(IntKind.i64.wrap (v2+1))))
  else
   some (.inl (v1,(IntKind.i64.wrap (v2+1))))
 else
  some (.inr (some v1))
def Vq(a0:List (Ag))(a1:Ag):Option (Int):=
 Au (λs:Int × Int=>Rq a0 a1 s.1 s.2) (0,0)
def jC(v2:List Int):Option (List Int):=
 (XM v2).bind λv3=>
 some v3
def RP(a0:List (Ag))(v1:List (Ag))(v4:Int)(v5:List Int):Option ((Int × List Int) ⊕ Option (List Int)):=
 if(decide (v4<(v1.length:Int)))then
  (Am v1 v4).bind λy6=>
  (Vq a0 y6).bind λv7=>
  AK (RM (((v5).length:Int)+(([v7]:List Int).length:Int)) 8)<|
  some (.inl ((IntKind.i64.wrap (v4+1)),(v5++ [v7])))
 else
  some (.inr (jC v5))
def Y5(a0:List (Ag))(a1:List (Ag))(a2:List An):Option (List Int):=
 (YX a1 a2).bind λv1=>
 Au (λs:Int × List Int=>RP a0 v1 s.1 s.2) (0,[])
def Nh(a0:Ar)(a1:AG):Option (List Int):=
 (Y5 a0.bb a1.ak a1.ab).bind λv1=>
 some v1
def Qz(a0:List Int)(a1 v1:Int):Option ((Int) ⊕ Option (Int)):=
 if(decide (v1<(a0.length:Int)))then
  (Am a0 v1).bind λy2=>
  if(a1==y2)then
   some (.inr (some v1))
  else
   some (.inl (IntKind.i64.wrap (v1+1)))
 else
  some (.inr (some (-1)))
def iA(a0:List Int)(a1:Int):Option (Int):=
 Au (λs:Int=>Qz a0 a1 s) 0
def UW(a0:List Int)(a1:Int):Option (Bool):=
 (iA a0 a1).bind λv1=>
 some (decide (v1>=0))
def gW(a0:List Bj)(a1:Int)(a2:Bj->Int->Option Int)(v1:Int):Option (Int × Bool):=
 if(decide (v1<(a0.length:Int)))then
  (Am a0 v1).bind λy2=>
  (a2 y2 a1).bind λv3=>
  some (v1,(v3==0))
 else
  some (v1,false)
def QF(a0:List Bj)(a1:Int)(a2:Bj->Int->Option Int)(v4 v5:Int):Option ((Int × Int) ⊕ Option (Int × Bool)):=
 if(decide (v4<v5))then
  (Am a0 (IntKind.i64.wrap (Int.fdiv (IntKind.u64.wrap (IntKind.i64.wrap (v4+v5))) (2^(min ((1:Int)).toNat (IntKind.bits .u64)))))).bind λy6=>
  (a2 y6 a1).bind λv7=>
  if(decide (v7<0))then
   some (.inl ((IntKind.i64.wrap ((IntKind.i64.wrap (Int.fdiv (IntKind.u64.wrap (IntKind.i64.wrap (v4+v5))) (2^(min ((1:Int)).toNat (IntKind.bits .u64)))))+1)),v5))
  else
   some (.inl (v4,(IntKind.i64.wrap (Int.fdiv (IntKind.u64.wrap (IntKind.i64.wrap (v4+v5))) (2^(min ((1:Int)).toNat (IntKind.bits .u64)))))))
 else
  some (.inr (gW a0 a1 a2 v4))
def XJ(a0:List Bj)(a1:Int)(a2:Bj->Int->Option Int):Option (Int × Bool):=
 Au (λs:Int × Int=>QF a0 a1 a2 s.1 s.2) (0,(a0.length:Int))
def O1(a0:Bj)(a1:Int):Option (Int):=
 (UZ a0.ao a1).bind λv1=>
 some v1
def Nf(a0:Ai)(a1:Int):Option (Int × Bool):=
 (XJ a0.aq a1 (λy0_ y1_=>O1 y0_ y1_)).bind λv1=>
 some (v1.1,v1.2)
def lX(a0:Int):Option (Int × Bool):=
 if(decide (a0>100000))then
  some (0,false)
 else
  some (a0,true)
def YE(a0:Ag)(a1:List (Ag))(a2:Int):Option (Bool):=
 (Vq a1 a0).bind λv1=>
 some (v1 !=a2)
def Y9(a0:List (Ag))(a1:List (Ag))(a2:Int):Option (List (Ag)):=
 (IG a1).bind λv1=>
 (Pp v1 (λy0_=>YE y0_ a0 a2)).bind λv2=>
 some v2
def LP(xs:List An):Option (List An):=PG 40 xs
def Ye(a0:An)(a1:List (Ag))(a2:Int):Option (Bool):=
 (Vq a1 a0.ah).bind λv1=>
 some (v1 !=a2)
def YM(a0:List (Ag))(a1:List An)(a2:Int):Option (List An):=
 (LP a1).bind λv1=>
 (Pp v1 (λy0_=>Ye y0_ a0 a2)).bind λv2=>
 some v2
def gY(xs:List Bj):Option (List Bj):=PG 24 xs
def R2(a0:Bv):Option (Ay):=
 (IG a0.ak).bind λv1=>
 (LP a0.ab).bind λv2=>
 some (⟨a0.ao,a0.af,a0.br,v1,v2⟩:Ay)
def Yy(a0:Ay):Option (Ay):=
 (RO a0).bind λv1=>
 (R2 v1).bind λv2=>
 some v2
def Q5(a0:Ai)(v1:List Aj)(v2:List Bj)(v3:Int)(v4:List Ay):Option ((Int × List Ay) ⊕ Option (Ai)):=
 if(decide (v3<(a0.ae.length:Int)))then
  (Am a0.ae v3).bind λy5=>
  (Yy y5).bind λv6=>
  AK (RM (((v4).length:Int)+(([v6]:List Ay).length:Int)) 72)<|
  some (.inl ((IntKind.i64.wrap (v3+1)),(v4++ [v6])))
 else
  some (.inr (some (⟨a0.au,v1,v4,v2⟩:Ai)))
def O9(a0:Ai):Option (Ai):=
 (Rr a0.aj).bind λv1=>
 (gY a0.aq).bind λv2=>
 Au (λs:Int × List Ay=>Q5 a0 v1 v2 s.1 s.2) (0,[])
def Yr(v2:List Aj):Option (List Aj × Bool):=
 (Vn v2).bind λv3=>
 if(!v3)then
  some ([],false)
 else
  some (v2,true)
def QS(a1:List An)(a2 v4:Int)(v5:List Aj):Option ((Int × List Aj) ⊕ Option (List Aj × Bool)):=
 if(decide (v4<(a1.length:Int)))then
  (Am a1 v4).bind λy6=>
  (RR v5 y6.ah).bind λv7=>
  if(decide (a2<=v7))then
   some (.inr (some ([],false)))
  else
   (RY v5 y6.ah).bind λv8=>
   if(!v8.2)then
    (H5 v5 v8.1 ([(⟨y6.ah,[]⟩:Aj)]:List Aj)).bind λv9=>
    (Am v9 v8.1).bind λy10=>
    AK (RM (((y10.ay).length:Int)+(([(⟨a2,y6.bh,y6.bg⟩:BE)]:List BE).length:Int)) 32)<|
    some (.inl ((IntKind.i64.wrap (v4+1)),(v9.set (v8.1).toNat {y10 with ay:=(y10.ay++ [(⟨a2,y6.bh,y6.bg⟩:BE)])})))
   else
    (Am v5 v8.1).bind λy11=>
    AK (RM (((y11.ay).length:Int)+(([(⟨a2,y6.bh,y6.bg⟩:BE)]:List BE).length:Int)) 32)<|
    some (.inl ((IntKind.i64.wrap (v4+1)),(v5.set (v8.1).toNat {y11 with ay:=(y11.ay++ [(⟨a2,y6.bh,y6.bg⟩:BE)])})))
 else
  some (.inr (Yr v5))
def YN(a0:List Aj)(a1:List An)(a2:Int):Option (List Aj × Bool):=
 (Rr a0).bind λv1=>
 Au (λs:Int × List Aj=>QS a1 a2 s.1 s.2) (0,v1)
def XQ(a1:Bv)(v1:Ai)(v2:Int × Bool)(v3:List Aj)(v4:Int):Option (Ai × Bool):=
 if v2.2 then
  (V4 v1.ae v2.1 (IntKind.i64.wrap (v2.1+1))).bind λv5=>
  (Nf (⟨v4,v3,v5,v1.aq⟩:Ai) a1.ao).bind λv6=>
  (H5 v1.aq v6.1 ([(⟨a1.ao,a1.bm,a1.af⟩:Bj)]:List Bj)).bind λv7=>
  some ((⟨v4,v3,v5,v7⟩:Ai),true)
 else
  (Nf (⟨v4,v3,v1.ae,v1.aq⟩:Ai) a1.ao).bind λv8=>
  (H5 v1.aq v8.1 ([(⟨a1.ao,a1.bm,a1.af⟩:Bj)]:List Bj)).bind λv9=>
  some ((⟨v4,v3,v1.ae,v9⟩:Ai),true)
def XU(a0:Ai)(a1:Bv):Option (Ai × Bool):=
 (O9 a0).bind λv1=>
 (KM v1 a1.ao).bind λv2=>
 if a1.bm then
  if v2.2 then
   (Am v1.ae v2.1).bind λy10=>
   if(decide (y10.af>a1.af))then
    some ((⟨0,[],[],[]⟩:Ai),false)
   else
    (YN v1.aj y10.ab a1.af).bind λv11=>
    if(!v11.2)then
     some ((⟨0,[],[],[]⟩:Ai),false)
    else
     XQ a1 v1 v2 v11.1 (bif (decide (a1.af>v1.au))then a1.af else v1.au)
  else
   some ((⟨0,[],[],[]⟩:Ai),false)
 else
  XQ a1 v1 v2 v1.aj v1.au
def XS(a0 a1:Ay):Option (Bool):=
 (R6 a1 a0).bind λv1=>
 some v1
def gZ(xs:List Ay):Option (List Ay):=PG 72 xs
def X3(a0:Ai)(a1:List (Ag))(a2:List An):Option (Bool):=
 (E0 a0.ae (λy0_=>XS y0_ (⟨0,0,0,a1,a2⟩:Ay))).bind λv1=>
 if v1 then
  some false
 else
  (gZ a0.ae).bind λv2=>
  AK (RM (((v2).length:Int)+(([(⟨0,0,0,a1,a2⟩:Ay)]:List Ay).length:Int)) 72)<|
  (U3 a0 (v2++ [(⟨0,0,0,a1,a2⟩:Ay)])).bind λv3=>
  some v3
def XV(a0:Ai)(a1:Bv):Option (Ai × Bool):=
 if(a1.bc==4)then
  if(decide (a1.af<=a0.au))then
   some ((⟨0,[],[],[]⟩:Ai),false)
  else
   (O9 a0).bind λv1=>
   some ((⟨a1.af,v1.aj,v1.ae,v1.aq⟩:Ai),true)
 else
  (Nf a0 a1.ao).bind λv2=>
  if v2.2 then
   some ((⟨0,[],[],[]⟩:Ai),false)
  else
   if(a1.bc !=1)then
    (XU a0 a1).bind λv3=>
    some (v3.1,v3.2)
   else
    (KM a0 a1.ao).bind λv4=>
    if v4.2 then
     some ((⟨0,[],[],[]⟩:Ai),false)
    else
     if(decide (a1.af<=a0.au))then
      some ((⟨0,[],[],[]⟩:Ai),false)
     else
      (X3 a0 a1.ak a1.ab).bind λv5=>
      if(!v5)then
       some ((⟨0,[],[],[]⟩:Ai),false)
      else
       (O9 a0).bind λv6=>
       (R2 a1).bind λv7=>
       (H5 v6.ae v4.1 ([v7]:List Ay)).bind λv8=>
       some ((⟨a1.af,v6.aj,v8,v6.aq⟩:Ai),true)
def YF(a0:AG):Option (AG):=
 (IG a0.ak).bind λv1=>
 (LP a0.ab).bind λv2=>
 some (⟨a0.ao,v1,v2⟩:AG)
def QO(a0:Ar)(v1:List (Ag))(v2:List Ai)(v3:Int)(v4:List AG):Option ((Int × List AG) ⊕ Option (Ar)):=
 if(decide (v3<(a0.ar.length:Int)))then
  (Am a0.ar v3).bind λy5=>
  (YF y5).bind λv6=>
  AK (RM (((v4).length:Int)+(([v6]:List AG).length:Int)) 56)<|
  some (.inl ((IntKind.i64.wrap (v3+1)),(v4++ [v6])))
 else
  some (.inr (some (⟨v1,v2,v4⟩:Ar)))
def vG(a0:Ar)(v1:List (Ag))(v2:List Ai):Option (Ar):=
 Au (λs:Int × List AG=>QO a0 v1 v2 s.1 s.2) (0,[])
def QV(a0:Ar)(v1:List (Ag))(v7:Int)(v8:List Ai):Option ((Int × List Ai) ⊕ Option (Ar)):=
 if(decide (v7<(a0.aw.length:Int)))then
  (Am a0.aw v7).bind λy9=>
  (O9 y9).bind λv10=>
  AK (RM (((v8).length:Int)+(([v10]:List Ai).length:Int)) 80)<|
  some (.inl ((IntKind.i64.wrap (v7+1)),(v8++ [v10])))
 else
  some (.inr (vG a0 v1 v8))
def Vh(a0:Ar):Option (Ar):=
 (IG a0.bb).bind λv1=>
 Au (λs:Int × List Ai=>QV a0 v1 s.1 s.2) (0,[])
def O7(a0:Ar)(a1:Int)(a2:Bv):Option (Ar × Bool):=
 (Am a0.aw a1).bind λy1=>
 (XV y1 a2).bind λv2=>
 if(!v2.2)then
  some ((⟨[],[],[]⟩:Ar),false)
 else
  (Vh a0).bind λv3=>
  (Am v3.aw a1).bind λy4=>
  some ((⟨v3.bb,(v3.aw.set (a1).toNat v2.1),v3.ar⟩:Ar),true)
def X7(a0:Ar)(a1:AG)(a2:Int):Option (Ar × Bool):=
 (Nh a0 a1).bind λv1=>
 (UW v1 a2).bind λv2=>
 if(!v2)then
  some ((⟨[],[],[]⟩:Ar),false)
 else
  (Am v1 0).bind λy3=>
  (Am a0.aw y3).bind λy4=>
  (Nf y4 a1.ao).bind λv5=>
  if v5.2 then
   some ((⟨[],[],[]⟩:Ar),false)
  else
   (Am a0.aw a2).bind λy6=>
   (lX (IntKind.i64.wrap (y6.au+1))).bind λv7=>
   if(!v7.2)then
    some ((⟨[],[],[]⟩:Ar),false)
   else
    (Y9 a0.bb a1.ak a2).bind λv8=>
    (YM a0.bb a1.ab a2).bind λv9=>
    (O7 a0 a2 (⟨1,a1.ao,v7.1,y3,v8,v9,false⟩:Bv)).bind λv10=>
    some (v10.1,v10.2)
def XZ(a0:Ar)(a1:AG)(v3:Int):Option (Ar × Bool):=
 (Nh a0 a1).bind λv4=>
 (Am v4 0).bind λy5=>
 (O7 a0 y5 (⟨2,a1.ao,v3,0,[],[],true⟩:Bv)).bind λv6=>
 some (v6.1,v6.2)
def QN(a0:Ar)(a1:AG)(v2:List Int)(v7 v8:Int):Option ((Int × Int) ⊕ Option (Ar × Bool)):=
 if(decide (v8<(v2.length:Int)))then
  (Am v2 v8).bind λy9=>
  (Am a0.aw y9).bind λy10=>
  (KM y10 a1.ao).bind λv11=>
  if(!v11.2)then
   some (.inr (some ((⟨[],[],[]⟩:Ar),false)))
  else
   (Am y10.ae v11.1).bind λy12=>
   some (.inl ((bif (decide (y12.af>v7))then y12.af else v7),(IntKind.i64.wrap (v8+1))))
 else
  some (.inr (XZ a0 a1 v7))
def X9(a0:Ar)(a1:AG)(a2:Int):Option (Ar × Bool):=
 (R1 a2).bind λv1=>
 if(!v1)then
  some ((⟨[],[],[]⟩:Ar),false)
 else
  (Nh a0 a1).bind λv2=>
  Au (λs:Int × Int=>QN a0 a1 v2 s.1 s.2) (a2,0)
def Yc(a0:Ar)(a1:AG):Option (Ar × Bool):=
 (Nh a0 a1).bind λv1=>
 (Am v1 0).bind λy2=>
 (O7 a0 y2 (⟨2,a1.ao,0,0,[],[],false⟩:Bv)).bind λv3=>
 some (v3.1,v3.2)
def XR(a0:Ar)(a1:AG)(a2:Int)(y3:Ai)(v4:Int × Bool)(v5:Bool):Option (Ar × Bool):=
 if v5 then
  some ((⟨[],[],[]⟩:Ar),false)
 else
  (Am y3.aq v4.1).bind λy6=>
  (O7 a0 a2 (⟨3,a1.ao,y6.af,0,[],[],y6.bm⟩:Bv)).bind λv7=>
  some (v7.1,v7.2)
def X6(a0:Ar)(a1:AG)(a2:Int):Option (Ar × Bool):=
 (Nh a0 a1).bind λv1=>
 (Am v1 0).bind λy2=>
 (Am a0.aw y2).bind λy3=>
 (Nf y3 a1.ao).bind λv4=>
 if(!v4.2)then
  XR a0 a1 a2 y3 v4 true
 else
  AK (0<=(1:Int)/\(1:Int)<=(v1.length:Int)/\(v1.length:Int)<=(v1.length:Int))<|
  (UW (A4 v1 1 (v1.length:Int)) a2).bind λv8=>
  XR a0 a1 a2 y3 v4 (!v8)
def QR(a0:Ar)(a1:BU):Option (Ar × Bool):=
 (Gv a0.ar (λy0_=>iR y0_ a1)).bind λv1=>
 if(decide (v1<0))then
  some ((⟨[],[],[]⟩:Ar),false)
 else
  (Am a0.ar v1).bind λy2=>
  if((a1.bc==1)&&(a1.af==0))then
   (X7 a0 y2 a1.bp).bind λv3=>
   some (v3.1,v3.2)
  else
   if((a1.bc==2)&&(a1.bp==0))then
    (X9 a0 y2 a1.af).bind λv4=>
    some (v4.1,v4.2)
   else
    if(((a1.bc==3)&&(a1.bp==0))&&(a1.af==0))then
     (Yc a0 y2).bind λv5=>
     some (v5.1,v5.2)
    else
     if((a1.bc==4)&&(a1.af==0))then
      (X6 a0 y2 a1.bp).bind λv6=>
      some (v6.1,v6.2)
     else
      some ((⟨[],[],[]⟩:Ar),false)
def YQ(a0:Ar)(a1:BU):Option (Ar × Bool):=
 (Vf a0).bind λv1=>
 if(!v1)then
  some ((⟨[],[],[]⟩:Ar),false)
 else
  (QR a0 a1).bind λv2=>
  some (v2.1,v2.2)
def U4(a0:List (Ag))(a1:List (Ag))(v1:Int):Option ((Int) ⊕ Option (Bool)):=
 if(decide (v1<(a0.length:Int)))then
  (Am a0 v1).bind λy2=>
  (Am a1 v1).bind λy3=>
  if(y2 !=y3)then
   some (.inr (some false))
  else
   some (.inl (IntKind.i64.wrap (v1+1)))
 else
  some (.inr (some true))
def Rv(a0:List (Ag))(a1:List (Ag)):Option (Bool):=
 if((a0.length:Int) !=(a1.length:Int))then
  some false
 else
  Au (λs:Int=>U4 a0 a1 s) 0
def Zl(a0 a1:BE):Option (Bool):=
 if(a0.af !=a1.af)then
  some false
 else
  if(a0.bh !=a1.bh)then
   some false
  else
   if(a0.bg !=a1.bg)then
    some false
   else
    some true
def kZ(a0 a1:List BE):Option (Bool):=KA Zl a0 a1
def Zt(a0 a1:Aj):Option (Bool):=
 if(a0.ah !=a1.ah)then
  some false
 else
  (kZ a0.ay a1.ay).bind λv1=>
  if(!v1)then
   some false
  else
   some true
def lK(a0 a1:List Aj):Option (Bool):=KA Zt a0 a1
def Za(a0 a1:An):Option (Bool):=
 if(a0.ah !=a1.ah)then
  some false
 else
  if(a0.bh !=a1.bh)then
   some false
  else
   if(a0.bg !=a1.bg)then
    some false
   else
    some true
def YT(a0 a1:List An):Option (Bool):=KA Za a0 a1
def Zs(a0 a1:Ay):Option (Bool):=
 if(a0.ao !=a1.ao)then
  some false
 else
  if(a0.af !=a1.af)then
   some false
  else
   if(a0.br !=a1.br)then
    some false
   else
    (Rv a0.ak a1.ak).bind λv1=>
    if(!v1)then
     some false
    else
     (YT a0.ab a1.ab).bind λv2=>
     if(!v2)then
      some false
     else
      some true
def lD(a0 a1:List Ay):Option (Bool):=KA Zs a0 a1
def YW(a0 a1:Bj):Option (Bool):=
 if(a0.ao !=a1.ao)then
  some false
 else
  if(a0.bm !=a1.bm)then
   some false
  else
   if(a0.af !=a1.af)then
    some false
   else
    some true
def lF(a0 a1:List Bj):Option (Bool):=KA YW a0 a1
def Zi(a0 a1:Ai):Option (Bool):=
 if(a0.au !=a1.au)then
  some false
 else
  (lK a0.aj a1.aj).bind λv1=>
  if(!v1)then
   some false
  else
   (lD a0.ae a1.ae).bind λv2=>
   if(!v2)then
    some false
   else
    (lF a0.aq a1.aq).bind λv3=>
    if(!v3)then
     some false
    else
     some true
def kO(a0 a1:List Ai):Option (Bool):=KA Zi a0 a1
def YH(a0 a1:AG):Option (Bool):=
 if(a0.ao !=a1.ao)then
  some false
 else
  (Rv a0.ak a1.ak).bind λv1=>
  if(!v1)then
   some false
  else
   (YT a0.ab a1.ab).bind λv2=>
   if(!v2)then
    some false
   else
    some true
def kG(a0 a1:List AG):Option (Bool):=KA YH a0 a1
def Kb(a0 a1:Ar):Option (Bool):=
 (Rv a0.bb a1.bb).bind λv1=>
 if(!v1)then
  some false
 else
  (kO a0.aw a1.aw).bind λv2=>
  if(!v2)then
   some false
  else
   (kG a0.ar a1.ar).bind λv3=>
   if(!v3)then
    some false
   else
    some true
def vH(v1:Ag):Option (Ag):=
 AK ((([109]:Ag)).length+(v1).length<=9223372036854775807)<|
 some ((([109]:Ag):Ag)++v1)
def Ng(v2:Int)(v3:Ag):Option ((Int × Ag) ⊕ Option (Ag)):=
 if(decide (v2>0))then
  AK (([(IntKind.u8.wrap (IntKind.i64.wrap ((48:Int)+(Int.tmod v2 10))))]:List Int).length<=9223372036854775807)<|
  AK ((([(IntKind.u8.wrap (IntKind.i64.wrap ((48:Int)+(Int.tmod v2 10))))].map λn=>UInt8.ofNat n.toNat)).length+(v3).length<=9223372036854775807)<|
  some (.inl ((IntKind.i64.wrap (Int.tdiv v2 10)),(([(IntKind.u8.wrap (IntKind.i64.wrap ((48:Int)+(Int.tmod v2 10))))].map λn=>UInt8.ofNat n.toNat)++v3)))
 else
  some (.inr (vH v3))
def Hp(a0:Int):Option (Ag):=
 if(decide (a0<=0))then
  some ([109,48]:Ag)
 else
  Au (λs:Int × Ag=>Ng s.1 s.2) (a0,([]:Ag))
def QL(v1 v2:Int)(v3:List (Ag)):Option ((Int × Int × List (Ag)) ⊕ Option (Int × List (Ag))):=
 if(decide (v2<(v3.length:Int)))then
  (Hp v1).bind λv4=>
  (Am v3 v2).bind λy5=>
  some (.inl ((IntKind.i64.wrap (v1+1)),(IntKind.i64.wrap (v2+1)),(v3.set (v2).toNat v4)))
 else
  some (.inr (some (v1,v3)))
def UY(a0:List (Ag))(a1:Int):Option (Int × List (Ag)):=
 Au (λs:Int × Int × List (Ag)=>QL s.1 s.2.1 s.2.2) (a1,0,a0)
def QY(v1 v2:Int)(v3:List BE):Option ((Int × Int × List BE) ⊕ Option (Int × List BE)):=
 if(decide (v2<(v3.length:Int)))then
  (Am v3 v2).bind λy4=>
  (Hp (IntKind.i64.wrap (v1+1))).bind λv5=>
  some (.inl ((IntKind.i64.wrap ((IntKind.i64.wrap ((IntKind.i64.wrap (v1+1))+1))+1)),(IntKind.i64.wrap (v2+1)),(((v3.set (v2).toNat {y4 with af:=v1}).set (v2).toNat {{y4 with af:=v1}with bh:=v5}).set (v2).toNat {{{y4 with af:=v1}with bh:=v5}with bg:=((Int.tmod (IntKind.i64.wrap ((IntKind.i64.wrap (v1+1))+1)) 3)==0)})))
 else
  some (.inr (some (v1,v3)))
def kM(a0:List BE)(a1:Int):Option (Int × List BE):=
 Au (λs:Int × Int × List BE=>QY s.1 s.2.1 s.2.2) (a1,0,a0)
def Re(v1 v2:Int)(v3:List Aj):Option ((Int × Int × List Aj) ⊕ Option (Int × List Aj)):=
 if(decide (v2<(v3.length:Int)))then
  (Hp v1).bind λv4=>
  (Am v3 v2).bind λy5=>
  (kM ({y5 with ah:=v4}.ay) (IntKind.i64.wrap (v1+1))).bind λv6=>
  some (.inl (v6.1,(IntKind.i64.wrap (v2+1)),((v3.set (v2).toNat {y5 with ah:=v4}).set (v2).toNat {{y5 with ah:=v4}with ay:=v6.2})))
 else
  some (.inr (some (v1,v3)))
def jN(a0:List Aj)(a1:Int):Option (Int × List Aj):=
 Au (λs:Int × Int × List Aj=>Re s.1 s.2.1 s.2.2) (a1,0,a0)
def QG(v1 v2:Int)(v3:List An):Option ((Int × Int × List An) ⊕ Option (Int × List An)):=
 if(decide (v2<(v3.length:Int)))then
  (Hp v1).bind λv4=>
  (Am v3 v2).bind λy5=>
  (Hp (IntKind.i64.wrap (v1+1))).bind λv6=>
  some (.inl ((IntKind.i64.wrap ((IntKind.i64.wrap ((IntKind.i64.wrap (v1+1))+1))+1)),(IntKind.i64.wrap (v2+1)),(((v3.set (v2).toNat {y5 with ah:=v4}).set (v2).toNat {{y5 with ah:=v4}with bh:=v6}).set (v2).toNat {{{y5 with ah:=v4}with bh:=v6}with bg:=((Int.tmod (IntKind.i64.wrap ((IntKind.i64.wrap (v1+1))+1)) 3)==0)})))
 else
  some (.inr (some (v1,v3)))
def Ym(a0:List An)(a1:Int):Option (Int × List An):=
 Au (λs:Int × Int × List An=>QG s.1 s.2.1 s.2.2) (a1,0,a0)
def Rg(v1 v2:Int)(v3:List Ay):Option ((Int × Int × List Ay) ⊕ Option (Int × List Ay)):=
 if(decide (v2<(v3.length:Int)))then
  (Am v3 v2).bind λy4=>
  (UY ({{{y4 with ao:=v1}with af:=(IntKind.i64.wrap (v1+1))}with br:=(IntKind.i64.wrap ((IntKind.i64.wrap (v1+1))+1))}.ak) (IntKind.i64.wrap ((IntKind.i64.wrap ((IntKind.i64.wrap (v1+1))+1))+1))).bind λv5=>
  (Ym ({{{{y4 with ao:=v1}with af:=(IntKind.i64.wrap (v1+1))}with br:=(IntKind.i64.wrap ((IntKind.i64.wrap (v1+1))+1))}with ak:=v5.2}.ab) v5.1).bind λv6=>
  some (.inl (v6.1,(IntKind.i64.wrap (v2+1)),(((((v3.set (v2).toNat {y4 with ao:=v1}).set (v2).toNat {{y4 with ao:=v1}with af:=(IntKind.i64.wrap (v1+1))}).set (v2).toNat {{{y4 with ao:=v1}with af:=(IntKind.i64.wrap (v1+1))}with br:=(IntKind.i64.wrap ((IntKind.i64.wrap (v1+1))+1))}).set (v2).toNat {{{{y4 with ao:=v1}with af:=(IntKind.i64.wrap (v1+1))}with br:=(IntKind.i64.wrap ((IntKind.i64.wrap (v1+1))+1))}with ak:=v5.2}).set (v2).toNat {{{{{y4 with ao:=v1}with af:=(IntKind.i64.wrap (v1+1))}with br:=(IntKind.i64.wrap ((IntKind.i64.wrap (v1+1))+1))}with ak:=v5.2}with ab:=v6.2})))
 else
  some (.inr (some (v1,v3)))
def jS(a0:List Ay)(a1:Int):Option (Int × List Ay):=
 Au (λs:Int × Int × List Ay=>Rg s.1 s.2.1 s.2.2) (a1,0,a0)
def Rb(v1 v2:Int)(v3:List Bj):Option ((Int × Int × List Bj) ⊕ Option (Int × List Bj)):=
 if(decide (v2<(v3.length:Int)))then
  (Am v3 v2).bind λy4=>
  some (.inl ((IntKind.i64.wrap ((IntKind.i64.wrap ((IntKind.i64.wrap (v1+1))+1))+1)),(IntKind.i64.wrap (v2+1)),(((v3.set (v2).toNat {y4 with ao:=v1}).set (v2).toNat {{y4 with ao:=v1}with bm:=((Int.tmod (IntKind.i64.wrap (v1+1)) 3)==0)}).set (v2).toNat {{{y4 with ao:=v1}with bm:=((Int.tmod (IntKind.i64.wrap (v1+1)) 3)==0)}with af:=(IntKind.i64.wrap ((IntKind.i64.wrap (v1+1))+1))})))
 else
  some (.inr (some (v1,v3)))
def jZ(a0:List Bj)(a1:Int):Option (Int × List Bj):=
 Au (λs:Int × Int × List Bj=>Rb s.1 s.2.1 s.2.2) (a1,0,a0)
def Q1(v1 v2:Int)(v3:List Ai):Option ((Int × Int × List Ai) ⊕ Option (Int × List Ai)):=
 if(decide (v2<(v3.length:Int)))then
  (Am v3 v2).bind λy4=>
  (jN ({y4 with au:=v1}.aj) (IntKind.i64.wrap (v1+1))).bind λv5=>
  (jS ({{y4 with au:=v1}with aj:=v5.2}.ae) v5.1).bind λv6=>
  (jZ ({{{y4 with au:=v1}with aj:=v5.2}with ae:=v6.2}.aq) v6.1).bind λv7=>
  some (.inl (v7.1,(IntKind.i64.wrap (v2+1)),((((v3.set (v2).toNat {y4 with au:=v1}).set (v2).toNat {{y4 with au:=v1}with aj:=v5.2}).set (v2).toNat {{{y4 with au:=v1}with aj:=v5.2}with ae:=v6.2}).set (v2).toNat {{{{y4 with au:=v1}with aj:=v5.2}with ae:=v6.2}with aq:=v7.2})))
 else
  some (.inr (some (v1,v3)))
def jE(a0:List Ai)(a1:Int):Option (Int × List Ai):=
 Au (λs:Int × Int × List Ai=>Q1 s.1 s.2.1 s.2.2) (a1,0,a0)
def Q3(v1 v2:Int)(v3:List AG):Option ((Int × Int × List AG) ⊕ Option (Int × List AG)):=
 if(decide (v2<(v3.length:Int)))then
  (Am v3 v2).bind λy4=>
  (UY ({y4 with ao:=v1}.ak) (IntKind.i64.wrap (v1+1))).bind λv5=>
  (Ym ({{y4 with ao:=v1}with ak:=v5.2}.ab) v5.1).bind λv6=>
  some (.inl (v6.1,(IntKind.i64.wrap (v2+1)),(((v3.set (v2).toNat {y4 with ao:=v1}).set (v2).toNat {{y4 with ao:=v1}with ak:=v5.2}).set (v2).toNat {{{y4 with ao:=v1}with ak:=v5.2}with ab:=v6.2})))
 else
  some (.inr (some (v1,v3)))
def iX(a0:List AG)(a1:Int):Option (Int × List AG):=
 Au (λs:Int × Int × List AG=>Q3 s.1 s.2.1 s.2.2) (a1,0,a0)
def Pe(a0:Ar)(a1:Int):Option (Int × Ar):=
 (UY a0.bb a1).bind λv1=>
 (jE a0.aw v1.1).bind λv2=>
 (iX a0.ar v2.1).bind λv3=>
 some (v3.1,(⟨v1.2,v2.2,v3.2⟩:Ar))
def QM(a0:List (Ag))(v1 v2:Int):Option ((Int × Int) ⊕ Option (Int)):=
 if(decide (v2<(a0.length:Int)))then
  (Am a0 v2).bind λy3=>
  (Hp v1).bind λv4=>
  if(y3 !=v4)then
   some (.inr (some (-1)))
  else
   some (.inl ((IntKind.i64.wrap (v1+1)),(IntKind.i64.wrap (v2+1))))
 else
  some (.inr (some v1))
def Va(a0:List (Ag))(a1:Int):Option (Int):=
 Au (λs:Int × Int=>QM a0 s.1 s.2) (a1,0)
def QT(a0:List BE)(v1 v2:Int):Option ((Int × Int) ⊕ Option (Int)):=
 if(decide (v2<(a0.length:Int)))then
  (Am a0 v2).bind λy3=>
  if(y3.af !=v1)then
   some (.inr (some (-1)))
  else
   (Hp (IntKind.i64.wrap (v1+1))).bind λv4=>
   if(y3.bh !=v4)then
    some (.inr (some (-1)))
   else
    if(y3.bg !=((Int.tmod (IntKind.i64.wrap ((IntKind.i64.wrap (v1+1))+1)) 3)==0))then
     some (.inr (some (-1)))
    else
     some (.inl ((IntKind.i64.wrap ((IntKind.i64.wrap ((IntKind.i64.wrap (v1+1))+1))+1)),(IntKind.i64.wrap (v2+1))))
 else
  some (.inr (some v1))
def kL(a0:List BE)(a1:Int):Option (Int):=
 Au (λs:Int × Int=>QT a0 s.1 s.2) (a1,0)
def Ri(a0:List Aj)(v1 v2:Int):Option ((Int × Int) ⊕ Option (Int)):=
 if(decide (v2<(a0.length:Int)))then
  (Am a0 v2).bind λy3=>
  (Hp v1).bind λv4=>
  if(y3.ah !=v4)then
   some (.inr (some (-1)))
  else
   (kL y3.ay (IntKind.i64.wrap (v1+1))).bind λv5=>
   if(decide (v5<0))then
    some (.inr (some (-1)))
   else
    some (.inl (v5,(IntKind.i64.wrap (v2+1))))
 else
  some (.inr (some v1))
def jV(a0:List Aj)(a1:Int):Option (Int):=
 Au (λs:Int × Int=>Ri a0 s.1 s.2) (a1,0)
def QH(a0:List An)(v1 v2:Int):Option ((Int × Int) ⊕ Option (Int)):=
 if(decide (v2<(a0.length:Int)))then
  (Am a0 v2).bind λy3=>
  (Hp v1).bind λv4=>
  if(y3.ah !=v4)then
   some (.inr (some (-1)))
  else
   (Hp (IntKind.i64.wrap (v1+1))).bind λv5=>
   if(y3.bh !=v5)then
    some (.inr (some (-1)))
   else
    if(y3.bg !=((Int.tmod (IntKind.i64.wrap ((IntKind.i64.wrap (v1+1))+1)) 3)==0))then
     some (.inr (some (-1)))
    else
     some (.inl ((IntKind.i64.wrap ((IntKind.i64.wrap ((IntKind.i64.wrap (v1+1))+1))+1)),(IntKind.i64.wrap (v2+1))))
 else
  some (.inr (some v1))
def Yg(a0:List An)(a1:Int):Option (Int):=
 Au (λs:Int × Int=>QH a0 s.1 s.2) (a1,0)
def Ra(a0:List Ay)(v1 v2:Int):Option ((Int × Int) ⊕ Option (Int)):=
 if(decide (v2<(a0.length:Int)))then
  (Am a0 v2).bind λy3=>
  if(y3.ao !=v1)then
   some (.inr (some (-1)))
  else
   if(y3.af !=(IntKind.i64.wrap (v1+1)))then
    some (.inr (some (-1)))
   else
    if(y3.br !=(IntKind.i64.wrap ((IntKind.i64.wrap (v1+1))+1)))then
     some (.inr (some (-1)))
    else
     (Va y3.ak (IntKind.i64.wrap ((IntKind.i64.wrap ((IntKind.i64.wrap (v1+1))+1))+1))).bind λv4=>
     if(decide (v4<0))then
      some (.inr (some (-1)))
     else
      (Yg y3.ab v4).bind λv5=>
      if(decide (v5<0))then
       some (.inr (some (-1)))
      else
       some (.inl (v5,(IntKind.i64.wrap (v2+1))))
 else
  some (.inr (some v1))
def jQ(a0:List Ay)(a1:Int):Option (Int):=
 Au (λs:Int × Int=>Ra a0 s.1 s.2) (a1,0)
def Q7(a0:List Bj)(v1 v2:Int):Option ((Int × Int) ⊕ Option (Int)):=
 if(decide (v2<(a0.length:Int)))then
  (Am a0 v2).bind λy3=>
  if(y3.ao !=v1)then
   some (.inr (some (-1)))
  else
   if(y3.bm !=((Int.tmod (IntKind.i64.wrap (v1+1)) 3)==0))then
    some (.inr (some (-1)))
   else
    if(y3.af !=(IntKind.i64.wrap ((IntKind.i64.wrap (v1+1))+1)))then
     some (.inr (some (-1)))
    else
     some (.inl ((IntKind.i64.wrap ((IntKind.i64.wrap ((IntKind.i64.wrap (v1+1))+1))+1)),(IntKind.i64.wrap (v2+1))))
 else
  some (.inr (some v1))
def jW(a0:List Bj)(a1:Int):Option (Int):=
 Au (λs:Int × Int=>Q7 a0 s.1 s.2) (a1,0)
def Q2(a0:List Ai)(v1 v2:Int):Option ((Int × Int) ⊕ Option (Int)):=
 if(decide (v2<(a0.length:Int)))then
  (Am a0 v2).bind λy3=>
  if(y3.au !=v1)then
   some (.inr (some (-1)))
  else
   (jV y3.aj (IntKind.i64.wrap (v1+1))).bind λv4=>
   if(decide (v4<0))then
    some (.inr (some (-1)))
   else
    (jQ y3.ae v4).bind λv5=>
    if(decide (v5<0))then
     some (.inr (some (-1)))
    else
     (jW y3.aq v5).bind λv6=>
     if(decide (v6<0))then
      some (.inr (some (-1)))
     else
      some (.inl (v6,(IntKind.i64.wrap (v2+1))))
 else
  some (.inr (some v1))
def iT(a0:List Ai)(a1:Int):Option (Int):=
 Au (λs:Int × Int=>Q2 a0 s.1 s.2) (a1,0)
def Q4(a0:List AG)(v1 v2:Int):Option ((Int × Int) ⊕ Option (Int)):=
 if(decide (v2<(a0.length:Int)))then
  (Am a0 v2).bind λy3=>
  if(y3.ao !=v1)then
   some (.inr (some (-1)))
  else
   (Va y3.ak (IntKind.i64.wrap (v1+1))).bind λv4=>
   if(decide (v4<0))then
    some (.inr (some (-1)))
   else
    (Yg y3.ab v4).bind λv5=>
    if(decide (v5<0))then
     some (.inr (some (-1)))
    else
     some (.inl (v5,(IntKind.i64.wrap (v2+1))))
 else
  some (.inr (some v1))
def iU(a0:List AG)(a1:Int):Option (Int):=
 Au (λs:Int × Int=>Q4 a0 s.1 s.2) (a1,0)
def Pf(a0:Ar)(a1:Int):Option (Int):=
 (Va a0.bb a1).bind λv1=>
 if(decide (v1<0))then
  some (-1)
 else
  (iT a0.aw v1).bind λv2=>
  if(decide (v2<0))then
   some (-1)
  else
   (iU a0.ar v2).bind λv3=>
   if(decide (v3<0))then
    some (-1)
   else
    some v3
def vE(a0:Ar)(a1:BU):Option (Bool):=
 (Vr a0 1048576).bind λv1=>
 if(decide (v1<0))then
  some true
 else
  (Kc a0).bind λv2=>
  (Rp a1).bind λv3=>
  (kQ v2 v3).bind λv4=>
  (Kc a0).bind λv5=>
  (Rp a1).bind λv6=>
  (YQ v5 v6).bind λv7=>
  (Kb v7.1 v4.1).bind λv8=>
  if((!v8)||(v7.2 !=v4.2))then
   some false
  else
   (Kc a0).bind λv9=>
   (Kb v5 v9).bind λv10=>
   if(!v10)then
    some false
   else
    (Pe v5 1).bind λv11=>
    if(decide (v11.1<0))then
     some false
    else
     (Kb v7.1 v4.1).bind λv12=>
     if((!v12)||(v7.2 !=v4.2))then
      some false
     else
      (Pe v7.1 1).bind λv13=>
      (Pf v13.2 1).bind λv14=>
      if(decide (v14<0))then
       some false
      else
       if(v14 !=v13.1)then
        some false
       else
        (Kc a0).bind λv15=>
        (Rp a1).bind λv16=>
        (YQ v15 v16).bind λv17=>
        (Kb v17.1 v4.1).bind λv18=>
        if((!v18)||(v17.2 !=v4.2))then
         some false
        else
         (Pf v13.2 1).bind λv19=>
         if(decide (v19<0))then
          some false
         else
          if(v19 !=v13.1)then
           some false
          else
           some true
def Yd(a0:List BU)(a1:Int):Option (Int):=
 if(decide ((IntKind.i64.wrap (a1-(a0.length:Int)))<0))then
  some (-1)
 else
  some (IntKind.i64.wrap (a1-(a0.length:Int)))
def RC(a0:List BU):Option (List BU):=toL Rp (⟨0,0,0,0⟩:BU) 32 a0
def RN(a1:List BU)(v2:List Bool)(v3:Int)(v4:List AG)(v5:List (Ag))(v6:List Ai):Option ((List Bool × Int × List AG × List (Ag) × List Ai) ⊕ Option (Ar × List Bool)):=
 if(decide (v3<(a1.length:Int)))then
  (Am a1 v3).bind λy7=>
  (R3 (⟨v5,v6,v4⟩:Ar) y7).bind λv8=>
  if v8.2 then
   AK (RM (((v2).length:Int)+(([v8.2]:List Bool).length:Int)) 1)<|
   some (.inl ((v2++ [v8.2]),(IntKind.i64.wrap (v3+1)),v8.1.ar,v8.1.bb,v8.1.aw))
  else
   AK (RM (((v2).length:Int)+(([v8.2]:List Bool).length:Int)) 1)<|
   some (.inl ((v2++ [v8.2]),(IntKind.i64.wrap (v3+1)),v4,v5,v6))
 else
  some (.inr (some ((⟨v5,v6,v4⟩:Ar),v2)))
def Zg(a0:Ar)(a1:List BU):Option (Ar × List Bool):=
 (VB a0).bind λv1=>
 Au (λs:List Bool × Int × List AG × List (Ag) × List Ai=>RN a1 s.1 s.2.1 s.2.2.1 s.2.2.2.1 s.2.2.2.2) ([],0,v1.ar,v1.bb,v1.aw)
def YO(a0:Ar)(a1:List BU):Option (Ar × List Bool × Bool):=
 (Vz a0).bind λv1=>
 if((!v1)||(decide ((a1.length:Int)>80)))then
  some ((⟨[],[],[]⟩:Ar),[],false)
 else
  (Zg a0 a1).bind λv2=>
  some (v2.1,v2.2,true)
def O2(a1:List BU)(v3:Int)(v4:List (Ag))(v5:List Ai)(v6:List AG)(v7:List Bool):Option ((Int × List (Ag) × List Ai × List AG × List Bool) ⊕ Option (Ar × List Bool × Bool)):=
 if(decide (v3<(a1.length:Int)))then
  (Am a1 v3).bind λy8=>
  (QR (⟨v4,v5,v6⟩:Ar) y8).bind λv9=>
  if v9.2 then
   AK (RM (((v7).length:Int)+(([v9.2]:List Bool).length:Int)) 1)<|
   some (.inl ((IntKind.i64.wrap (v3+1)),v9.1.bb,v9.1.aw,v9.1.ar,(v7++ [v9.2])))
  else
   AK (RM (((v7).length:Int)+(([v9.2]:List Bool).length:Int)) 1)<|
   some (.inl ((IntKind.i64.wrap (v3+1)),v4,v5,v6,(v7++ [v9.2])))
 else
  some (.inr (some ((⟨v4,v5,v6⟩:Ar),v7,true)))
def Vd(a0:Ar)(a1:List BU):Option (Ar × List Bool × Bool):=
 (Vf a0).bind λv1=>
 if((!v1)||(decide ((a1.length:Int)>80)))then
  some ((⟨[],[],[]⟩:Ar),[],false)
 else
  (Vh a0).bind λv2=>
  Au (λs:Int × List (Ag) × List Ai × List AG × List Bool=>O2 a1 s.1 s.2.1 s.2.2.1 s.2.2.2.1 s.2.2.2.2) (0,v2.bb,v2.aw,v2.ar,[])
def U6(a0 a1:List Bool)(v1:Int):Option ((Int) ⊕ Option (Bool)):=
 if(decide (v1<(a0.length:Int)))then
  (Am a0 v1).bind λy2=>
  (Am a1 v1).bind λy3=>
  if(y2 !=y3)then
   some (.inr (some false))
  else
   some (.inl (IntKind.i64.wrap (v1+1)))
 else
  some (.inr (some true))
def R4(a0 a1:List Bool):Option (Bool):=
 if((a0.length:Int) !=(a1.length:Int))then
  some false
 else
  Au (λs:Int=>U6 a0 a1 s) 0
def YC(a0 a1:BU):Option (Bool):=
 if(a0.bc !=a1.bc)then
  some false
 else
  if(a0.ao !=a1.ao)then
   some false
  else
   if(a0.bp !=a1.bp)then
    some false
   else
    if(a0.af !=a1.af)then
     some false
    else
     some true
def iV(a0 a1:List BU):Option (Bool):=KA YC a0 a1
def QJ(v1 v2:Int)(v3:List BU):Option ((Int × Int × List BU) ⊕ Option (Int × List BU)):=
 if(decide (v2<(v3.length:Int)))then
  (Am v3 v2).bind λy4=>
  some (.inl ((IntKind.i64.wrap ((IntKind.i64.wrap ((IntKind.i64.wrap ((IntKind.i64.wrap (v1+1))+1))+1))+1)),(IntKind.i64.wrap (v2+1)),((((v3.set (v2).toNat {y4 with bc:=v1}).set (v2).toNat {{y4 with bc:=v1}with ao:=(IntKind.i64.wrap (v1+1))}).set (v2).toNat {{{y4 with bc:=v1}with ao:=(IntKind.i64.wrap (v1+1))}with bp:=(IntKind.i64.wrap ((IntKind.i64.wrap (v1+1))+1))}).set (v2).toNat {{{{y4 with bc:=v1}with ao:=(IntKind.i64.wrap (v1+1))}with bp:=(IntKind.i64.wrap ((IntKind.i64.wrap (v1+1))+1))}with af:=(IntKind.i64.wrap ((IntKind.i64.wrap ((IntKind.i64.wrap (v1+1))+1))+1))})))
 else
  some (.inr (some (v1,v3)))
def iH(a0:List BU)(a1:Int):Option (Int × List BU):=
 Au (λs:Int × Int × List BU=>QJ s.1 s.2.1 s.2.2) (a1,0,a0)
def Q8(v1 v2:Int)(v3:List Bool):Option ((Int × Int × List Bool) ⊕ Option (Int × List Bool)):=
 if(decide (v2<(v3.length:Int)))then
  (Am v3 v2).bind λy4=>
  some (.inl ((IntKind.i64.wrap (v1+1)),(IntKind.i64.wrap (v2+1)),(v3.set (v2).toNat ((Int.tmod v1 3)==0))))
 else
  some (.inr (some (v1,v3)))
def jP(a0:List Bool)(a1:Int):Option (Int × List Bool):=
 Au (λs:Int × Int × List Bool=>Q8 s.1 s.2.1 s.2.2) (a1,0,a0)
def Rf(a0:List Bool)(v1 v2:Int):Option ((Int × Int) ⊕ Option (Int)):=
 if(decide (v2<(a0.length:Int)))then
  (Am a0 v2).bind λy3=>
  if(y3 !=((Int.tmod v1 3)==0))then
   some (.inr (some (-1)))
  else
   some (.inl ((IntKind.i64.wrap (v1+1)),(IntKind.i64.wrap (v2+1))))
 else
  some (.inr (some v1))
def YG(a0:List Bool)(a1:Int):Option (Int):=
 Au (λs:Int × Int=>Rf a0 s.1 s.2) (a1,0)
def XX(a0:Ar)(a1:List BU):Option (Bool):=
 (Vr a0 1048576).bind λv1=>
 if(decide (v1<0))then
  some true
 else
  (Yd a1 v1).bind λv2=>
  if(decide (v2<0))then
   some true
  else
   (Kc a0).bind λv3=>
   (RC a1).bind λv4=>
   (YO v3 v4).bind λv5=>
   (Kc a0).bind λv6=>
   (RC a1).bind λv7=>
   (Vd v6 v7).bind λv8=>
   (Kb v8.1 v5.1).bind λv9=>
   if v9 then
    (R4 v8.2.1 v5.2.1).bind λv10=>
    if((!v10)||(v8.2.2 !=v5.2.2))then
     some false
    else
     (Kc a0).bind λv11=>
     (Kb v6 v11).bind λv12=>
     if(!v12)then
      some false
     else
      (RC a1).bind λv13=>
      (iV v7 v13).bind λv14=>
      if(!v14)then
       some false
      else
       (Pe v6 1).bind λv15=>
       (iH v7 v15.1).bind λv16=>
       if(decide (v16.1<0))then
        some false
       else
        (Kb v8.1 v5.1).bind λv17=>
        if v17 then
         (R4 v8.2.1 v5.2.1).bind λv18=>
         if((!v18)||(v8.2.2 !=v5.2.2))then
          some false
         else
          (Pe v8.1 1).bind λv19=>
          (jP v8.2.1 v19.1).bind λv20=>
          (Pf v19.2 1).bind λv21=>
          if(decide (v21<0))then
           some false
          else
           (YG v20.2 v21).bind λv22=>
           if(decide (v22<0))then
            some false
           else
            if(v22 !=v20.1)then
             some false
            else
             (Kc a0).bind λv23=>
             (RC a1).bind λv24=>
             (Vd v23 v24).bind λv25=>
             (Kb v25.1 v5.1).bind λv26=>
             if v26 then
              (R4 v25.2.1 v5.2.1).bind λv27=>
              if((!v27)||(v25.2.2 !=v5.2.2))then
               some false
              else
               (Pf v19.2 1).bind λv28=>
               if(decide (v28<0))then
                some false
               else
                (YG v20.2 v28).bind λv29=>
                if(decide (v29<0))then
                 some false
                else
                 if(v29 !=v20.1)then
                  some false
                 else
                  some true
             else
              some false
        else
         some false
   else
    some false
def zhz:FS:=Ey 302 [.v .s, .v (.i .u8)] (.v (.i .i64)) (λx=>XO x.1 x.2.1) λx r _ h=>zhy x.1 x.2.1 r h
def vY:FS:=Ey 154 [.v (.l (.st 4))] (.v (.l (.st 4))) (λx=>Rr x.1) λx r _ h=>zp1 x.1 r h
def zjD:FS:=Ey 172 [.v (.l (.i .i64))] (.v (.l (.i .i64))) (λx=>XM x.1) λx r _ h=>zjx x.1 r h
def vA:FS:=Ey 229 [.v (.l .s)] (.v (.l .s)) (λx=>QA x.1) λx r _ h=>zhl x.1 r h
def u9:FS:=Ey 228 [.v (.l .s)] (.tu (.cons (.tu .nil) (.cons (.v (.l .s)) .nil))) (λx=>QB x.1) λx r _ h=>ziu x.1 r h
def zfX:FS:=Ey 252 [.v (.l (.st 1)), .v (.i .i64), .v (.l (.st 1))] (.v (.l (.st 1))) (λx=>H5 x.1 x.2.1 x.2.2.1) λx r hp h=>zxW (t:=48) (it:=3) (el:=108) (K:=5) (l:=[.flat, .flat, .flat, .row 9 1 (Az.of [.flat]), .row 137 3 (Az.of [.flat, .flat, .flat])]) (by kernel_rfl) (λ_=>by kernel_rfl) zCP h
def zf3:FS:=Ey 281 [.v (.l (.st 1)), .v (.i .i64), .v (.i .i64)] (.v (.l (.st 1))) (λx=>V4 x.1 x.2.1 x.2.2.1) λx r hp h=>zzS (t:=48) (it:=3) (el:=108) (K:=5) (l:=[.flat, .flat, .flat, .row 9 1 (Az.of [.flat]), .row 137 3 (Az.of [.flat, .flat, .flat])]) (by kernel_rfl) (λ_=>by kernel_rfl) zCS h
def zfN:FS:=Ey 282 [.v (.l (.st 2)), .v (.i .i64), .v (.l (.st 2))] (.v (.l (.st 2))) (λx=>H5 x.1 x.2.1 x.2.2.1) λx r hp h=>zFm (t:=49) (it:=3) (el:=53) (K:=3) (by kernel_rfl) (λ_=>by kernel_rfl) zCN h
def zfM:FS:=Ey 306 [.v (.l (.st 4)), .v (.i .i64), .v (.l (.st 4))] (.v (.l (.st 4))) (λx=>H5 x.1 x.2.1 x.2.2.1) λx r hp h=>zxW (t:=47) (it:=3) (el:=146) (K:=2) (l:=[.flat, .row 198 3 (Az.of [.flat, .flat, .flat])]) (by kernel_rfl) (λ_=>by kernel_rfl) zCg h
def kB:FS:=Ak 71 [.v (.l .s), .v (.i .i64)] (.v (.i .i64)) (λx=>Rn x.1 x.2.1) [] [.sp [.i .i64, .i .i64]]
def zwW:FS:=Ak 310 [.v (.st 3), .v (.i .i64)] (.v (.i .i64)) (λx=>Zm x.1 x.2.1) [] []
def zuF:FS:=Ak 287 [.v (.l (.st 3)), .v (.i .i64)] (.v (.i .i64)) (λx=>lY x.1 x.2.1) [zwW] [.sp [.i .i64, .i .i64]]
def zt5:FS:=Ak 253 [.v (.st 4), .v (.i .i64)] (.v (.i .i64)) (λx=>YY x.1 x.2.1) [zuF] []
def zsQ:FS:=Ak 199 [.v (.l (.st 4)), .v (.i .i64)] (.v (.i .i64)) (λx=>lH x.1 x.2.1) [zt5] [.sp [.i .i64, .i .i64]]
def zsJ:FS:=Ak 255 [.v (.st 0), .v (.i .i64)] (.v (.i .i64)) (λx=>Zc x.1 x.2.1) [] []
def wK:FS:=Ak 202 [.v (.l (.st 0)), .v (.i .i64)] (.v (.i .i64)) (λx=>Yv x.1 x.2.1) [zsJ] [.sp [.i .i64, .i .i64]]
def zus:FS:=Ak 254 [.v (.st 1), .v (.i .i64)] (.v (.i .i64)) (λx=>Y0 x.1 x.2.1) [kB,wK] []
def zsH:FS:=Ak 200 [.v (.l (.st 1)), .v (.i .i64)] (.v (.i .i64)) (λx=>lI x.1 x.2.1) [zus] [.sp [.i .i64, .i .i64]]
def zsK:FS:=Ak 201 [.v (.l (.st 2)), .v (.i .i64)] (.v (.i .i64)) (λx=>Y8 x.1 x.2.1) [] []
def zsP:FS:=Ak 134 [.v (.st 5), .v (.i .i64)] (.v (.i .i64)) (λx=>YJ x.1 x.2.1) [zsQ,zsH,zsK] []
def zrC:FS:=Ak 72 [.v (.l (.st 5)), .v (.i .i64)] (.v (.i .i64)) (λx=>kN x.1 x.2.1) [zsP] [.sp [.i .i64, .i .i64]]
def zsC:FS:=Ak 135 [.v (.st 6), .v (.i .i64)] (.v (.i .i64)) (λx=>YI x.1 x.2.1) [kB,wK] []
def zq5:FS:=Ak 73 [.v (.l (.st 6)), .v (.i .i64)] (.v (.i .i64)) (λx=>kJ x.1 x.2.1) [zsC] [.sp [.i .i64, .i .i64]]
def zuz:FS:=Ak 25 [.v (.st 7), .v (.i .i64)] (.v (.i .i64)) (λx=>Vr x.1 x.2.1) [kB,zrC,zq5] []
def jX:FS:=Ak 74 [.v (.l .s)] (.v (.l .s)) (λx=>Rw x.1) [] [.sp [.i .i64, .l .s]]
def zv1:FS:=Ak 311 [.v (.st 3)] (.v (.st 3)) (λx=>lP x.1) [] []
def zu2:FS:=Ak 288 [.v (.l (.st 3))] (.v (.l (.st 3))) (λx=>kW x.1) [zv1] [.sp [.i .i64, .l (.st 3)]]
def zuQ:FS:=Ak 256 [.v (.st 4)] (.v (.st 4)) (λx=>Zw x.1) [zu2] []
def zsR:FS:=Ak 203 [.v (.l (.st 4))] (.v (.l (.st 4))) (λx=>lJ x.1) [zuQ] [.sp [.i .i64, .l (.st 4)]]
def zsn:FS:=Ak 259 [.v (.st 0)] (.v (.st 0)) (λx=>lL x.1) [] []
def wJ:FS:=Ak 206 [.v (.l (.st 0))] (.v (.l (.st 0))) (λx=>Yw x.1) [zsn] [.sp [.i .i64, .l (.st 0)]]
def zvd:FS:=Ak 257 [.v (.st 1)] (.v (.st 1)) (λx=>Y2 x.1) [jX,wJ] []
def zs2:FS:=Ak 204 [.v (.l (.st 1))] (.v (.l (.st 1))) (λx=>lG x.1) [zvd] [.sp [.i .i64, .l (.st 1)]]
def zt8:FS:=Ak 258 [.v (.st 2)] (.v (.st 2)) (λx=>lW x.1) [] []
def zsv:FS:=Ak 205 [.v (.l (.st 2))] (.v (.l (.st 2))) (λx=>lB x.1) [zt8] [.sp [.i .i64, .l (.st 2)]]
def zsw:FS:=Ak 136 [.v (.st 5)] (.v (.st 5)) (λx=>Zh x.1) [zsR,zs2,zsv] []
def zre:FS:=Ak 75 [.v (.l (.st 5))] (.v (.l (.st 5))) (λx=>kK x.1) [zsw] [.sp [.i .i64, .l (.st 5)]]
def zsE:FS:=Ak 137 [.v (.st 6)] (.v (.st 6)) (λx=>Zb x.1) [jX,wJ] []
def zqX:FS:=Ak 76 [.v (.l (.st 6))] (.v (.l (.st 6))) (λx=>kP x.1) [zsE] [.sp [.i .i64, .l (.st 6)]]
def zvf:FS:=Ak 26 [.v (.st 7)] (.v (.st 7)) (λx=>Kc x.1) [jX,zre,zqX] []
def zqk:FS:=Ak 27 [.v (.st 8)] (.v (.st 8)) (λx=>Rp x.1) [] []
def Sb:FS:=Ak 165 [.v (.i .i64), .v (.i .i64), .v (.i .i64)] (.v .b) (λx=>II x.1 x.2.1 x.2.2.1) [] []
def lS:FS:=Ak 161 [.v (.i .i64)] (.v .b) (λx=>Pk x.1) [Sb] []
def wM:FS:=Ak 242 [.v (.i .i64)] (.v .b) (λx=>Nn x.1) [Sb] []
def wB:FS:=Ak 226 [.v .s, .v .s] (.v .b) (λx=>Vw x.1 x.2.1) [] [.sp [.i .i64], .sp [.b, .i .i64]]
def Zj:FS:=Ak 166 [.v .s] (.v .b) (λx=>Po x.1) [Sb,wB] []
def zwC:FS:=Ak 290 [.v .s] (.v .b) (λx=>Zr x.1) [wB] []
def wA:FS:=Ak 266 [.v .s, .v .s, .v .b] (.v .b) (λx=>Vs x.1 x.2.1 x.2.2.1) [Zj,zwC] []
def zt6:FS:=Ak 222 [.v (.st 4)] (.v .b) (λx=>Y4 x.1) [Zj,Sb,wM,wA] [.sp [.i .i64]]
def wO:FS:=Ak 162 [.v (.l (.st 4))] (.v .b) (λx=>Vp x.1) [zt6] [.sp [.i .i64]]
def zpn:FS:=Ak 103 [.v (.st 1)] (.v (.st 9)) (λx=>Yl x.1) [] []
def zuK:FS:=Ak 243 [.v (.l .s)] (.v .b) (λx=>YZ x.1) [Zj] [.sp [.i .i64]]
def zro:FS:=Ak 244 [.v (.l (.st 0))] (.v .b) (λx=>Yu x.1) [wA] [.sp [.i .i64]]
def kY:FS:=Ak 190 [.v (.st 9)] (.v .b) (λx=>LS x.1) [Sb,wM,zuK,zro] [.pt]
def zqN:FS:=Ak 267 [.v (.l (.st 0)), .v .s] (.v .b) (λx=>Vc x.1 x.2.1) [] [.sp [.i .i64]]
def zu9:FS:=Ak 268 [.v (.l .s), .v .s] (.v .b) (λx=>Y1 x.1 x.2.1) [] [.sp [.i .i64]]
def vQ:FS:=Ak 223 [.v (.st 1), .v (.l .s), .v (.l (.st 0))] (.v .b) (λx=>R0 x.1 x.2.1 x.2.2.1) [zqN,zu9] [.sp [.i .i64], .sp [.i .i64]]
def xN:FS:=Ak 225 [.v (.l (.st 4)), .v .s] (.v (.i .i64)) (λx=>VH x.1 x.2.1) [] [.sp [.i .i64]]
def kT:FS:=Ak 164 [.v (.l (.st 4)), .v .s] (.v (.i .i64)) (λx=>Pm x.1 x.2.1) [xN] []
def VA:FS:=Ak 129 [.v (.l .s)] (.v (.l .s)) (λx=>IH x.1) [] []
def wU:FS:=Ak 151 [.v (.l .s), .v .s] (.v (.l .s)) (λx=>Pl x.1 x.2.1) [VA] [.sp [.i .i64]]
def wC:FS:=Ak 224 [.v (.st 5), .v (.l (.st 0))] (.v .b) (λx=>Vv x.1 x.2.1) [wU,xN] [.sp [.l .s, .i .i64], .sp [.i .i64, .l (.st 0)], .sp [.l .s, .i .i64]]
def zsp:FS:=Ak 163 [.v (.st 5)] (.v .b) (λx=>R5 x.1) [wC,zpn,kY,kT,vQ] [.sp [.i .i64], .sp [.i .i64], .sp [.i .i64]]
def jO:FS:=Ak 68 [.v (.st 5), .v (.i .i64)] (.tu (.cons (.v (.st 1)) (.cons (.v .b) .nil))) (λx=>Kf x.1 x.2.1) [] [.sp [.i .i64]]
def lC:FS:=Ak 98 [.v (.st 5)] (.v .b) (λx=>LQ x.1) [lS,wO,zsp,Sb,jO,kT] [.sp [.i .i64], .sp [.i .i64]]
def zso:FS:=Ak 99 [.v (.l .s)] (.v .b) (λx=>YK x.1) [Zj] [.sp [.i .i64]]
def zrs:FS:=Ak 167 [.v (.st 6)] (.v .b) (λx=>YP x.1) [kY] []
def zqh:FS:=Ak 100 [.v (.l (.st 6))] (.v .b) (λx=>YB x.1) [zrs] [.sp [.i .i64], .sp [.i .i64]]
def zsU:FS:=Ak 41 [.v (.st 7)] (.v .b) (λx=>Vz x.1) [zso,zqh,lC] [.sp [.i .i64]]
def zwQ:FS:=Ak 118 [.v (.st 7), .v (.i .i64)] (.v (.i .i64)) (λx=>Zq x.1 x.2.1) [] [.sp [.i .i64]]
def zrm:FS:=Ak 133 [.v (.l .s), .v (.l (.st 0))] (.v (.l .s)) (λx=>YU x.1 x.2.1) [wU] [.sp [.l .s, .i .i64], .sp [.l .s, .i .i64]]
def wG:FS:=Ak 198 [.v (.l .s), .v .s] (.v (.i .i64)) (λx=>Vu x.1 x.2.1) [] [.sp [.i .i64]]
def zvE:FS:=Ak 197 [.v (.l (.i .i64)), .v (.i .i64)] (.v (.l (.i .i64))) (λx=>lN x.1 x.2.1) [] [.sp [.i .i64]]
def zsb:FS:=Ak 132 [.v (.l .s), .v (.l .s)] (.v (.l (.i .i64))) (λx=>kF x.1 x.2.1) [wG,zvE] [.sp [.l (.i .i64), .i .i64]]
def zwm:FS:=Ak 67 [.v (.l .s), .v (.st 6)] (.v (.l (.i .i64))) (λx=>zip x.1 x.2.1) [zrm,zsb] []
def vZ:FS:=Ak 69 [.v (.st 5), .v (.i .i64)] (.tu (.cons (.v (.st 2)) (.cons (.v .b) .nil))) (λx=>Vl x.1 x.2.1) [] [.sp [.i .i64]]
def zwl:FS:=Ak 186 [.v (.l (.i .i64)), .v (.i .i64)] (.v .b) (λx=>VF x.1 x.2.1) [] [.sp [.i .i64]]
def kX:FS:=Ak 189 [.v (.i .i64), .v (.i .i64)] (.v (.i .i64)) (λx=>Kd x.1 x.2.1) [] []
def zor:FS:=Ak 187 [.v (.st 5), .v (.i .i64)] (.tu (.cons (.v (.i .i64)) (.cons (.v .b) .nil))) (λx=>Yq x.1 x.2.1) [lC,lS,kX] []
def zrG:FS:=Ak 188 [.v (.l .s), .v (.l .s), .v (.l (.st 0)), .v (.i .i64)] (.tu (.cons (.v (.l .s)) (.cons (.v (.l (.st 0))) .nil))) (λx=>kS x.1 x.2.1 x.2.2.1 x.2.2.2.1) [wG] [.sp [.l .s, .i .i64], .inl, .sp [.l (.st 0), .i .i64], .inl]
def ztP:FS:=Ak 119 [.v (.st 7), .v (.st 6), .v (.st 8)] (.tu (.cons (.v (.st 9)) (.cons (.v (.i .i64)) (.cons (.v .b) .nil)))) (λx=>Zv x.1 x.2.1 x.2.2.1) [zwm,vZ,zwl,zor,zrG,lS,jO,kX] [.sp [.i .i64, .i .i64]]
def w6:FS:=Ak 195 [.v (.l (.st 4))] (.v (.l (.st 4))) (λx=>VG x.1) [] [.sp [.l (.st 4), .i .i64]]
def zpy:FS:=Ak 196 [.v (.st 1)] (.v (.st 1)) (λx=>Yp x.1) [VA] []
def wQ:FS:=Ak 131 [.v (.st 5)] (.v (.st 5)) (λx=>Vo x.1) [w6,zpy] [.sp [.i .i64, .l (.st 1)]]
def zpk:FS:=Ak 245 [.v (.l (.st 1)), .v (.st 1)] (.v (.l (.st 1))) (λx=>Yj x.1 x.2.1) [] [.sp [.i .i64]]
def zsN:FS:=Ak 246 [.v (.st 5), .v (.l .s), .v (.l (.st 0))] (.v .b) (λx=>Ze x.1 x.2.1 x.2.2.1) [wC,vQ] [.sp [.i .i64]]
def zwa:FS:=Ak 247 [.v (.l (.st 4)), .v (.l (.st 0)), .v (.i .i64)] (.tu (.cons (.v (.l (.st 4))) (.cons (.v .b) .nil))) (λx=>Zn x.1 x.2.1 x.2.2.1) [w6,wO,kT] [.sp [.i .i64, .l (.st 4)], .inl, .sp [.i .i64]]
def zsB:FS:=Ak 248 [.v (.l (.st 1)), .v (.i .i64)] (.v (.l (.st 1))) (λx=>Vx x.1 x.2.1) [] [.sp [.l (.st 1), .i .i64], .inl]
def zoY:FS:=Ak 249 [.v (.l (.st 2)), .v (.st 2)] (.v (.l (.st 2))) (λx=>U7 x.1 x.2.1) [] [.sp [.i .i64]]
def zqL:FS:=Ak 191 [.v (.st 5), .v (.st 9)] (.tu (.cons (.v (.st 5)) (.cons (.v .b) .nil))) (λx=>YS x.1 x.2.1) [wQ,jO,vZ,VA,zpk,zsN,zwa,kX,zsB,zoY] [.inl]
def zr2:FS:=Ak 120 [.v (.st 5), .v (.st 9)] (.tu (.cons (.v (.st 5)) (.cons (.v .b) .nil))) (λx=>Yt x.1 x.2.1) [lC,kY,zqL] []
def zsy:FS:=Ak 130 [.v (.l (.st 6))] (.v (.l (.st 6))) (λx=>lE x.1) [VA] [.sp [.l (.st 6), .i .i64]]
def wP:FS:=Ak 66 [.v (.st 7)] (.v (.st 7)) (λx=>VB x.1) [VA,zsy,wQ] [.sp [.i .i64, .l (.st 5)]]
def zss:FS:=Ak 57 [.v (.st 7), .v (.st 8)] (.tu (.cons (.v (.st 7)) (.cons (.v .b) .nil))) (λx=>R3 x.1 x.2.1) [zwQ,ztP,zr2,wP] []
def Pj:FS:=Ak 113 [.v (.i .i64), .v (.i .i64), .v (.i .i64)] (.v .b) (λx=>LR x.1 x.2.1 x.2.2.1) [] []
def zl5:FS:=Ak 271 [.v (.i .u8)] (.v .b) (λx=>iB x.1) [] []
def zm7:FS:=Ak 272 [.v .s, .v (.i .u8)] (.v (.i .i64)) (λx=>iJ x.1 x.2.1) [zhz] []
def vV:FS:=Ak 230 [.v .s, .v .s] (.v .b) (λx=>Ve x.1 x.2.1) [zl5,zm7] [.sp [.i .i64]]
def zsZ:FS:=Ak 174 [.v .s] (.v .b) (λx=>Y7 x.1) [Pj,vV] []
def Yx:FS:=Ak 107 [.v (.l .s)] (.v .b) (λx=>Nj x.1) [zsZ] [.sp [.i .i64]]
def zsa:FS:=Ak 48 [.v (.l .s)] (.v .b) (λx=>YR x.1) [Yx] []
def ze2:FS:=Ey 108 [.v (.l (.st 5)), .fn [.st 5] .b] (.v (.i .i64)) (λx=>Gv x.1 (λy=>x.2.1.φ (y,()))) λx r hp h=>G0 (f:=108) (t:=S7 4) (by kernel_rfl) (by kernel_rfl) (aW (av:=(B3 C6.av (.st 5))) (cn:=4) (λ_=>⟨_,rfl,rfl⟩) h (λy b hb=>hp.2.1 (y,()) b hb))
def zer:FS:=Ey 49 [.v (.l (.st 5)), .fn [.st 5] .b] (.v .b) (λx=>E0 x.1 (λy=>x.2.1.φ (y,()))) λx r hp h=>G0 (f:=49) (t:=S6 108) (by kernel_rfl) (by kernel_rfl) (aM h λr hr=>ze2.ok x r hp hr)
def wN:FS:=Ak 109 [.v (.i .i64)] (.v .b) (λx=>R1 x.1) [Pj] []
def wW:FS:=Ak 231 [.v (.i .i64)] (.v .b) (λx=>Nl x.1) [Pj] []
def zsL:FS:=Ak 273 [.v .s] (.v .b) (λx=>Y6 x.1) [vV] []
def wL:FS:=Ak 232 [.v .s, .v .b] (.v .b) (λx=>Vb x.1 x.2.1) [zsL] []
def zuO:FS:=Ak 175 [.v (.st 4)] (.v .b) (λx=>YV x.1) [Pj,wW,wL] [.sp [.i .i64]]
def vX:FS:=Ak 110 [.v (.l (.st 4))] (.v .b) (λx=>Vn x.1) [Yx,zuO] [.sp [.i .i64, .l .s]]
def vL:FS:=Ak 177 [.v (.st 1)] (.v (.st 9)) (λx=>RO x.1) [] []
def lQ:FS:=Ak 114 [.v (.i .i64)] (.v .b) (λx=>Nk x.1) [Pj] []
def vW:FS:=Ak 227 [.v (.l (.st 0))] (.v (.l .s)) (λx=>Vm x.1) [] [.sp [.i .i64, .l .s]]
def u5:FS:=Ey 236 [.v (.l (.st 0)), .fn [.st 0] .b] (.v (.i .i64)) (λx=>Gv x.1 (λy=>x.2.1.φ (y,()))) λx r hp h=>G0 (f:=236) (t:=S7 3) (by kernel_rfl) (by kernel_rfl) (aW (av:=(B3 C6.av (.st 0))) (cn:=3) (λ_=>⟨_,rfl,rfl⟩) h (λy b hb=>hp.2.1 (y,()) b hb))
def gS:FS:=Ey 181 [.v (.l (.st 0)), .fn [.st 0] .b] (.v .b) (λx=>E0 x.1 (λy=>x.2.1.φ (y,()))) λx r hp h=>G0 (f:=181) (t:=S6 236) (by kernel_rfl) (by kernel_rfl) (aM h λr hr=>u5.ok x r hp hr)
def zns:FS:=Ak 274 [.v (.st 0)] (.v .b) (λx=>X4 x.1) [wL] []
def zmF:FS:=HZ zns λ_=>by kernel_rfl
def zoS:FS:=Ak 233 [.v (.l (.st 0))] (.v .b) (λx=>Yh x.1) [vW,Yx,gS,zmF] []
def wI:FS:=Ak 176 [.v (.st 9)] (.v .b) (λx=>Vt x.1) [lQ,wW,Pj,Yx,zoS] [.pt]
def zfn:FS:=Ey 234 [.v (.l (.st 1)), .fn [.st 1] .b] (.v (.i .i64)) (λx=>Gv x.1 (λy=>x.2.1.φ (y,()))) λx r hp h=>G0 (f:=234) (t:=S7 5) (by kernel_rfl) (by kernel_rfl) (aW (av:=(B3 C6.av (.st 1))) (cn:=5) (λ_=>⟨_,rfl,rfl⟩) h (λy b hb=>hp.2.1 (y,()) b hb))
def u7:FS:=Ey 178 [.v (.l (.st 1)), .fn [.st 1] .b] (.v .b) (λx=>E0 x.1 (λy=>x.2.1.φ (y,()))) λx r hp h=>G0 (f:=178) (t:=S6 234) (by kernel_rfl) (by kernel_rfl) (aM h λr hr=>zfn.ok x r hp hr)
def zcF:FS:=Ak 303 [.v (.l (.st 0)), .v .s, .fn [.st 0, .s] (.i .i64)] (.tu (.cons (.v (.i .i64)) (.cons (.v .b) .nil))) (λx=>gV x.1 x.2.1 (λy0 y1=>x.2.2.1.φ (y0,y1,()))) [] [.sp [.i .i64, .i .i64]]
def znh:FS:=Ak 278 [.v .s] (.v .b) (λx=>U1 x.1) [] []
def vF:FS:=Ak 239 [.v .s, .v .s] (.v (.i .i64)) (λx=>UX x.1 x.2.1) [znh] []
def zob:FS:=Ak 304 [.v (.st 0), .v .s] (.v (.i .i64)) (λx=>QU x.1 x.2.1) [vF] []
def znj:FS:=HZ zob λ_=>by kernel_rfl
def zqn:FS:=Ak 276 [.v (.l (.st 0)), .v .s] (.tu (.cons (.v (.i .i64)) (.cons (.v .b) .nil))) (λx=>Ru x.1 x.2.1) [zcF,znj] []
end
end Go.Proofs.YtalagilebkaegaaGreat
